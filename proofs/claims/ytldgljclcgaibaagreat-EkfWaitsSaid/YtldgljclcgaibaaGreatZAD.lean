/-
  Parts of the proof: AbF AbG AbH AbI AbJ AbK AbL AbN AbR AbT AbU
-/
import Derived.Test.YtldgljclcgaibaaGreatZAC
set_option linter.unusedVariables false
set_option linter.unusedSimpArgs false
namespace Go.Ab
variable [ax]
omit [ax] in
theorem Db (a b:List Up):ch (a++b)=ch a+ch b:=by simp[ch]
omit [ax] in
theorem aTs (dst:Option Tmp)(v:AV):ch (dk dst v)=0:=by cases dst<;>rfl
omit [ax] in
theorem aFd {us:List Up}(h:∀u∈us,∀b k,u≠.new b k):ch us=0:=by
 induction us with
 |nil=>rfl
 |cons u us ih=>
  have h1:=ih λv hv=>h v (by simp[hv])
  have h2:=h u (by simp)
  cases u with
  |new b k=>exact absurd rfl (h2 b k)
  |_=>simpa[ch] using h1
omit [ax] in
theorem XE:∀{vs:List Vw} {cs:List Ch} {u:Up},u∈ny vs cs->∃b,u=.kill b
 | [],[],u,h=>by simp[ny] at h
 |v0::vs,c::cs,u,h=>by
  by_cases hc:c=.kill
  ·subst hc
   rcases List.mem_cons.1 h with rfl|h
   ·exact⟨_,rfl⟩
   ·exact XE h
  ·have e:ny (v0::vs) (c::cs)=ny vs cs:=by cases c<;>first|rfl|exact absurd rfl hc
   rw[e] at h;exact XE h
 | [],_::_,u,h=>by simp[ny] at h
 |_::_,[],u,h=>by simp[ny] at h
omit [ax] in
theorem awH:∀{vs:List Vw} {cs:List Ch} {j:Nat} {v:Vw},vs[j]? =some v->cs[j]? =some .kill->Up.kill v.b∈ny vs cs
 |v0::vs,c::cs,0,v,h1,h2=>by
  simp at h1 h2;subst h1 h2;simp[ny]
 |v0::vs,c::cs,j+1,v,h1,h2=>by
  have:=awH (vs:=vs) (cs:=cs) (j:=j) (v:=v) (by simpa using h1) (by simpa using h2)
  cases c<;>simp[ny,this]
 | [],_,j,v,h,_=>by simp at h
 |_::_,[],j,v,_,h=>by simp at h
omit [ax] in
theorem adF {all:List Vw}{aJ:Nat}:∀{vs:List Vw} {cs:List Ch} {g:Bool} {us:List Up},yk all aJ vs cs=some (g,us)->∀{j:Nat} {v:Vw} {b:af},vs[j]? =some v->cs[j]? =some (.set b)->Up.c v.b v.o (IG (Jx all aJ) b)∈us
 | [],[],g,us,_,j,v,b,h,_=>by simp at h
 |v0::vs,.kY::cs,g,us,h,j,v,b,h1,h2=>by
  cases j with
  |zero=>simp at h2
  |succ j=>exact adF (vs:=vs) (cs:=cs) h (by simpa using h1) (by simpa using h2)
 |v0::vs,.kill::cs,g,us,h,j,v,b,h1,h2=>by
  cases j with
  |zero=>simp at h2
  |succ j=>exact adF (vs:=vs) (cs:=cs) h (by simpa using h1) (by simpa using h2)
 |v0::vs,.set b0::cs,g,us,h,j,v,b,h1,h2=>by
  simp only[yk] at h
  split at h
  ·rename_i p hu
   simp only[Option.some.injEq,Prod.mk.injEq] at h
   obtain⟨_,rfl⟩:=h
   cases j with
   |zero=>simp at h1 h2;subst h1 h2;simp
   |succ j=>exact List.mem_cons_of_mem _ (adF (g:=p.1) (us:=p.2) hu (by simpa using h1) (by simpa using h2))
  ·cases h
 | [],_::_,_,_,h,_,_,_,_,_=>by simp[yk] at h
 |_::_,[],_,_,h,_,_,_,_,_=>by simp[yk] at h
omit [ax] in
theorem aBu {vs:List Vw}{aJ:Nat}:∀{bs:List af} {j0:Nat} {u:Up},u∈Fw vs aJ bs j0->∃b k,u=.new b k
 | [],_,_,h=>by simp[Fw] at h
 |b0::bs,j0,u,h=>by
  rcases List.mem_cons.1 h with rfl|h
  ·exact⟨_,_,rfl⟩
  ·exact aBu h
omit [ax] in
theorem bT.isSome {w0 w:World}{S:Nat->Nat->Prop}(h:bT w0 S w){B i:Nat}(hi:(Ab.cl w0 B i).isSome=true):(Ab.cl w B i).isSome=true:=by
 have hB:=Y7 hi
 simp only[Ab.cl,World.cell?] at hi ⊢
 cases hh:w0.heap[B]? with
 |none=>rw[hh] at hi;cases hi
 |some x=>
  rw[hh] at hi
  cases x with
  |cells c t f=>
   obtain⟨c',e,z,_⟩:=h.row B c t f hh
   simp only[e]
   simp only[Option.isSome_none,Bool.false_eq_true,if_false] at hi ⊢
   have:i<c.size:=by
    rcases Nat.lt_or_ge i c.size with h'|h'
    ·exact h'
    ·rw[Array.getElem?_eq_none h'] at hi;cases hi
   rw[Array.getElem?_eq_getElem (by omega)];rfl
  |_=>cases hi
omit [ax] in
theorem adG:∀{h:List af} {cs:List Ch} {j:Nat},(∀b,cs[j]? =some (.set b)->j<h.length->(after h cs)[j]? =some (some b))∧(cs[j]? =some .kY->∀b,h[j]? =some b->(after h cs)[j]? =some (some b))
 | [],cs,j=>⟨λb _ h=>by simp at h,λ_ b h=>by simp at h⟩
 |b0::bs,[],j=>⟨λb h=>by simp at h,λh=>by simp at h⟩
 |b0::bs,c::cs,0=>by cases c<;>simp[after]
 |b0::bs,c::cs,j+1=>by
  have:=adG (h:=bs) (cs:=cs) (j:=j)
  cases c<;>simpa[after] using this
omit [ax] in
theorem Y9 {r:ns}{h:List af}{k:Nat}{b:af}(hk:r.news[k]? =some b):(r.heap h)[h.length+k]? =some (some b):=by
 unfold ns.heap
 rw[List.getElem?_append_right (by rw[lL];omega),lL,show h.length+k-h.length=k by omega]
 simp[hk]
omit [ax] in
theorem BN {r:ns}{h:List af}{j:Nat}(hj:j<h.length):(r.heap h)[j]? =(after h r.vR)[j]? :=by
 unfold ns.heap
 rw[List.getElem?_append_left (by rw[lL];omega)]
omit [ax] in
theorem XF {l:List (Option af)}{j:Nat}{b:af}(h:l[j]? =some (some b)):hZ l j=some (af.size b):=by simp[hZ,h]
omit [ax] in
theorem adH {l:List (Option af)}{j i:Nat}{b:af}(h:l[j]? =some (some b))(hi:i<af.size b):hC l j i=af.get b i:=by simp[hC,h,hi]
omit [ax] in
theorem Sq {all:List Vw}{aJ:Nat}:∀{vs:List Vw} {cs:List Ch} {g:Bool} {us:List Up},yk all aJ vs cs=some (g,us)->∀u∈us,∀b k,u≠.new b k
 | [],[],g,us,h=>by
  simp only[yk,Option.some.injEq,Prod.mk.injEq] at h
  obtain⟨_,rfl⟩:=h
  intro u hu;simp at hu
 |v0::vs,.kY::cs,g,us,h=>Sq (vs:=vs) (cs:=cs) h
 |v0::vs,.kill::cs,g,us,h=>Sq (vs:=vs) (cs:=cs) h
 |v0::vs,.set b0::cs,g,us,h=>by
  simp only[yk] at h
  split at h
  ·rename_i p hu
   simp only[Option.some.injEq,Prod.mk.injEq] at h
   obtain⟨_,rfl⟩:=h
   intro u hu' b k e
   rcases List.mem_cons.1 hu' with rfl|hu'
   ·cases e
   ·exact Sq (g:=p.1) (us:=p.2) hu u hu' b k e
  ·cases h
 | [],_::_,_,_,h=>by simp[yk] at h
 |_::_,[],_,_,h=>by simp[yk] at h
section
variable {P:Program} {o:Oper} {X:Cx} {D:Nat->Prop} {aJ:Nat} {us:List Up} {g:Gt}
theorem aM9 {E:Env}(hE:∀f F,E f=some F->Sound P f F){c:Call}{fo:Operand}{f:Nat}{aa8:List RV}{args:List AV}{fp l0 l1:List Fp}(ho:o.op=.call c)(hc:c.callee=.value fo)(ha:aH (Ab.rz Ab.Cc c.args.toList) g args l0){fv:AV}(hfo:aH (Ab.Cc fo) g fv l1)(aTt:∀(π:Pi) (x:Value),fv.rel π x->∃arr:Array Value,x=.func (.func f) #[] arr∧bj (RV.rel π) aa8 arr.toList)
  (h:aH (aS6 E f (args++aa8.map .r) o.dst aJ) g us fp):xN P o X D aJ us g:=by
 obtain⟨x,⟨_,h1⟩,_,h⟩:=aH.bind' h
 obtain⟨y,⟨_,h2⟩,_,h⟩:=aH.bind' h
 cases hEf:E f with
 |none=>rw[hEf] at h;cases h
 |some F=>
 rw[hEf] at h
 obtain⟨r,⟨_,h3⟩,_,h⟩:=aH.bind' h
 obtain⟨⟨gd,aOG⟩,⟨_,h4⟩,_,h⟩:=aH.bind' h
 obtain⟨_,⟨_,h5⟩,_,h⟩:=aH.bind' h
 cases h
 have h5:gd=true:=h5.cv
 subst h5
 have S0:=hE f F hEf
 have aWY:=T.aTp h3
 have h4:=h4.dt
 obtain⟨lh,vs⟩:=y
 simp only at h3 h4
 have aOH:ch (dk o.dst (aI1 vs aJ r.val)++(aOG++(ny vs r.vR++Fw vs aJ r.news 0)))=r.news.length:=by
  rw[Db,Db,Db,aTs,aFd (Sq h4),aFd (λu hu b k e=>by obtain⟨_,rfl⟩:=XE hu;cases e),(aiy (vs:=vs) (aJ:=aJ) (bs:=r.news) (j0:=0) g).2.2.2]
  omega
 intro π a w next Q R hk hfr hd hD hn
 simp only at hfr hn hD
 rw[aOH] at hfr hn
 obtain⟨arr,hfv,aWZ⟩:=aTt _ _ (hfo.Cc R)
 have jR:bj (AV.rel π) (args++aa8.map .r) (c.args.map a.eval++arr).toList:=by
  rw[Array.toList_append]
  exact(IH ha R).append (XC (f:=AV.r) (R':=AV.rel π) (λa c h=>h) aWZ)
 obtain⟨a1,a2⟩:=aJv (P3:=x.1) (iX:=x.2) h1 jR
 obtain⟨ok0,a4⟩:=a2 (II.nil π)
 obtain⟨b1,hok,b3,b4⟩:=aBt R.hp (lh:=lh) (iX:=vs) h2 rfl (Nat.zero_le _) ok0 (λj v k _ hk=>by simp at hk)
 obtain⟨c1,c2,c3,c4,c5⟩:=XD h4 (λi j v v' hij hi hj hb=>(hok.1 i j v v' hij hi hj hb).1)
 have aU7:bj (AV.rel (piL π vs)) x.1 (c.args.map a.eval++arr).toList:=a4.imp λv z hr=>AV.c7 b1.ext v z hr
 have aYl:=R.hp.local hok b3 b4
 have iW:∀b,piL π vs b≠none->b<lh.length:=λb hb=>by
  rw[b3]
  unfold piL at hb
  cases hv:vs[b]? with
  |none=>rw[hv] at hb;exact absurd rfl hb
  |some v=>exact(List.getElem?_eq_some_iff.1 hv).1
 have aU8:=S0 x.1 lh r aWY w (piL π vs) _ aU7 aYl iW
 suffices key:∀(v:Value) (w':World),qS (piL π vs) w lh r (.returned v) w'->next (a.put o.dst v) w' by
  rcases aU8 with⟨S1,S2⟩| ⟨v,S1,S2⟩
  ·have mz:(execOp a.eval o).run P w=.ok (.enter f (c.args.map a.eval++arr)) w:=by
    simp[execOp,ho,resolve,hc,hfv,Deferred.ofValue,invoke,S1]
   unfold Oper.wp
   rw[mz]
   refine Calls.mono S2 ?_
   intro e w' hp
   have rX:=hp
   obtain⟨_,v,rfl,_⟩:=rX
   exact key v w' hp
  ·have mz:(execOp a.eval o).run P w=.ok (.value v) w:=by
    simp[execOp,ho,resolve,hc,hfv,Deferred.ofValue,invoke,S1]
   unfold Oper.wp
   rw[mz]
   exact key v w S2
 rintro v w' ⟨πL,v',hv',arE,aBv,hHL,hFr,aW0,aV4⟩
 cases hv'
 have live:∀(j:Nat) u,vs[j]? =some u->∃q B s e,g.z u.b=some q∧u.o.val+u.n<=q∧π u.b=some (B,s,q,e)∧s+q<=e∧(u.own=true->u.o.val+u.n=q):=λj u hu=>by
  have hj:j<lh.length:=by rw[b3];exact(List.getElem?_eq_some_iff.1 hu).1
  obtain⟨q,hq⟩:=(b4 j u _ hu (List.getElem?_eq_getElem hj)).live
  obtain⟨B,s,e,hb,zn,_⟩:=R.hp.hp _ _ hq
  obtain⟨_,_,_,_,eC,hle,how⟩:=hok.2 j u hu
  rw[hb] at eC;cases eC
  exact⟨q,B,s,e,hq,hle,hb,zn,how⟩
 have K:Bck π πL vs aJ r.news.length:=⟨arE,λb hb=>by have:=aW0 b hb;omega,hfr,λj u hu=>let⟨q,B,s,e,_,hle,hb,_,how⟩:=live j u hu;⟨B,s,q,e,hb,hle,how⟩⟩
 have aNa:∀B i,Bg (piL π vs) lh.length (P7 r.vR) B i->∃(j:Nat) (u:Vw) (q s e:Nat),vs[j]? =some u∧g.z u.b=some q∧π u.b=some (B,s,q,e)∧s+q<=e∧s+u.o.val<=i∧i<(if u.own then e else s+u.o.val+u.n)∧i<e∧(u.own=true->u.o.val+u.n=q)∧u.o.val+u.n<=q∧(r.vR[j]? =some .kill∨∃b,r.vR[j]? =some (.set b)):=by
  rintro B i ⟨j,s1,q1,e1,hj,hD1,hp,i1,i2⟩
  have hu:vs[j]? =some (vs[j]'(by omega)):=List.getElem?_eq_getElem _
  obtain⟨q,B0,s,e,hq,hle,hb,zn,how⟩:=live j _ hu
  rw[vU hu hb] at hp
  simp only[Option.some.injEq,Prod.mk.injEq] at hp
  obtain⟨rfl,hs1,_,he1⟩:=hp
  rw[<-hs1] at i1
  rw[<-he1] at i2
  refine⟨j,_,q,s,e,hu,hq,hb,zn,i1,i2,?_,how,hle,?_⟩
  ·split at i2<;>omega
  ·have hcj:r.vR[j]? =some (r.vR[j]'(by omega)):=List.getElem?_eq_getElem _
   rw[hcj]
   cases P8:r.vR[j]'(by omega) with
   |kY=>exact absurd (by rw[hcj,P8]) hD1
   |set b=>exact .inr ⟨b,rfl⟩
   |kill=>exact .inl rfl
 have aW1:∀(j:Nat) (u:Vw),vs[j]? =some u->(r.vR[j]? =some .kill∨∃b,r.vR[j]? =some (.set b))->u.b<X.k->D u.b:=λj u hu P8=>by
  rcases P8 with P8| ⟨b,P8⟩
  ·exact hD (.kill u.b) (by simp[awH hu P8])
  ·exact hD (.c u.b u.o (IG (Jx vs aJ) b)) (by simp[adF h4 hu P8])
 have aOI:∀B i,B<X.w0.heap.size->Bg (piL π vs) lh.length (P7 r.vR) B i->Bg X.p0 X.k D B i:=λB i hB hft=>by
  obtain⟨j,u,q,s,e,hu,hq,hb,zn,i1,_,i3,_,_,P8⟩:=aNa B i hft
  rcases Nat.lt_or_ge u.b X.k with Y8|Y8
  ·exact⟨u.b,s,q,e,Y8,aW1 j u hu P8 Y8,(R.vd u.b Y8).symm.trans hb,by omega,i3⟩
  ·exact R.ft u.b B s q e Y8 (by simp[hq]) hb hB i (by omega) i3
 generalize hg1:ck aOG g=g1
 generalize hg2:ck (ny vs r.vR) g1=g2
 generalize hg3:ck (Fw vs aJ r.news 0) g2=g3
 have G1:=c4 g
 rw[hg1] at G1
 have G2:=adE (vs:=vs) (cs:=r.vR) g1 c1
 rw[hg2] at G2
 obtain⟨N0,N1,N2,_⟩:=aiy (vs:=vs) (aJ:=aJ) (bs:=r.news) (j0:=0) g2
 rw[hg3] at N0 N1 N2
 have vd:∀b n,¬(aJ<=b∧b<aJ+r.news.length)->g3.z b=some n->g.z b=some n∧(¬∃(j:Nat) (v:Vw),vs[j]? =some v∧r.vR[j]? =some .kill∧v.b=b)∧∀i,g3.c b i=g1.c b i:=λb n hb hz=>by
  obtain⟨n1,n2⟩:=N2 b (by omega)
  rw[n1] at hz
  by_cases hkl:∃(j:Nat) (v:Vw),vs[j]? =some v∧r.vR[j]? =some .kill∧v.b=b
  ·rw[G2.2.1 b hkl] at hz;cases hz
  ·obtain⟨k1,k2⟩:=G2.2.2 b hkl
   rw[k1,G1.1] at hz
   exact⟨hz,hkl,λi=>(n2 i).trans (k2 i)⟩
 have new:∀k,k<r.news.length->∃b,r.news[k]? =some b∧g3.z (aJ+k)=some (af.size b)∧(∀i,i<af.size b->g3.c (aJ+k) i=Jx vs aJ (af.get b i))∧hZ (r.heap lh) (lh.length+k)=some (af.size b):=λk Jl=>by
  have hb:r.news[k]? =some (r.news[k]'Jl):=List.getElem?_eq_getElem _
  have:=N1 k _ hb
  rw[Nat.zero_add] at this
  exact⟨_,hb,this.1,this.2,XF (Y9 hb)⟩
 have idx:∀b,aJ<=b∧b<aJ+r.news.length->∃k,k<r.news.length∧b=aJ+k:=λb hb=>⟨b-aJ,by omega,by omega⟩
 have H3:pZ (piB π πL vs.length aJ r.news.length) g3.c g3.z w':=by
  refine⟨hHL.am,λb B s q e hz hp zn=> ?_,λb n hz=> ?_,?_⟩
  ·by_cases hb:aJ<=b∧b<aJ+r.news.length
   ·obtain⟨k,Jl,rfl⟩:=idx b hb
    obtain⟨bI,Xx,z1,z2,z3⟩:=new k Jl
    rw[TF Jl,<-b3] at hp
    exact hHL.lb _ B s q e (by rw[z3];simp) hp zn
   ·cases hh:g3.z b with
    |none=>exact absurd hh hz
    |some n=>
     obtain⟨LA,hkl,hc3⟩:=vd b n hb hh
     obtain⟨B1,s1,e1,Fz,_⟩:=R.hp.hp b n LA
     have e2:=K.vd Fz
     rw[hp] at e2;cases e2
     exact R.hp.lb b B s q e (by rw[LA];simp) Fz zn
  ·by_cases hb:aJ<=b∧b<aJ+r.news.length
   ·obtain⟨k,Jl,rfl⟩:=idx b hb
    obtain⟨bI,Xx,z1,z2,z3⟩:=new k Jl
    rw[z1] at hz;cases hz
    obtain⟨B,s,e,hp,hle,k1,k2⟩:=hHL.hp _ _ z3
    refine⟨B,s,e,by rw[TF Jl,<-b3];exact hp,hle,k1,λj hj=> ?_⟩
    obtain⟨x,hx,hr⟩:=k2 j hj
    rw[adH (Y9 Xx) hj] at hr
    exact⟨x,hx,by rw[z2 j hj];exact K.aOF _ _ hr⟩
   ·obtain⟨LA,hkl,hc3⟩:=vd b n hb hz
    obtain⟨B,s,e,hp,hle,k1,k2⟩:=R.hp.hp b n LA
    refine⟨B,s,e,K.vd hp,hle,λi i1 i2=> ?_,λj hj=> ?_⟩
    ·have:=k1 i i1 i2
     exact⟨hFr.isSome this.1,by rw[hFr.fz (Y7 this.1)];exact this.2⟩
    ·rw[hc3]
     by_cases aTu:∃(jv:Nat) (u:Vw) (bI:af),vs[jv]? =some u∧r.vR[jv]? =some (.set bI)∧u.b=b∧u.o.val<=j∧j<u.o.val+u.n
     ·obtain⟨jv,u,bI,hu,P8,rfl,j1,j2⟩:=aTu
      have e1:=c5 g jv u bI j hu P8 j1 j2
      rw[hg1] at e1
      rw[e1]
      have vS:=c2 jv u bI hu P8
      have hjv:jv<lh.length:=by rw[b3];exact(List.getElem?_eq_some_iff.1 hu).1
      have aiv:(r.heap lh)[jv]? =some (some bI):=by rw[BN hjv];exact adG.1 bI P8 hjv
      obtain⟨B1,s1,e1',Fz,aYm,_,m2⟩:=hHL.hp jv _ (XF aiv)
      have:=arE _ _ (vU hu hp)
      rw[Fz] at this
      simp only[Option.some.injEq,Prod.mk.injEq] at this
      obtain⟨rfl,rfl,_,_⟩:=this
      obtain⟨x,hx,hr⟩:=m2 (j-u.o.val) (by omega)
      rw[adH aiv (by omega)] at hr
      exact⟨x,by rw[show s+j=s+u.o.val+(j-u.o.val) by omega];exact hx,K.aOF _ _ hr⟩
     ·obtain⟨x,hx,hr⟩:=k2 j hj
      have W2:=oV (us:=aOG) (g:=g) (p:=.c b j) (λu hu ht=>by
       obtain⟨jv,v',bI,e1,e2,rfl⟩:=c3 u hu
       simp only[Up.Fy,HS,c2 jv v' bI e1 e2] at ht
       exact aTu ⟨jv,v',bI,e1,e2,ht.1,ht.2.1,ht.2.2⟩)
      simp only[Gt.at,PV.c.injEq,hg1] at W2
      rw[W2]
      refine⟨x,?_,CV.c7 K.ext' _ _ hr⟩
      rw[hFr.cl (Y7 (by rw[hx];rfl)),hx]
      intro hft
      obtain⟨jv,u,q,s0,e0,hu,hq,OD,zn,i1,i2,i3,how,aYn,P8⟩:=aNa _ _ hft
      by_cases hbb:u.b=b
      ·subst hbb
       rw[hp] at OD;cases OD
       rw[LA] at hq;cases hq
       rcases P8 with P8| ⟨bI,P8⟩
       ·exact hkl ⟨jv,u,hu,P8,rfl⟩
       ·refine aTu ⟨jv,u,bI,hu,P8,rfl,by omega,?_⟩
        cases aV5:u.own
        ·simp only[aV5,Bool.false_eq_true,if_false] at i2;omega
        ·have:=how aV5;omega
      ·exact R.hp.dj u.b b B s0 _ e0 s _ e hbb (by simp[hq]) (by simp[LA]) OD hp (s+j) (by omega) i3 (by omega) (by omega)
  ·
   have no:∀k b' B s q e s' q' e',k<r.news.length->¬(aJ<=b'∧b'<aJ+r.news.length)->g3.z b'≠none->πL (vs.length+k)=some (B,s,q,e)->π b'=some (B,s',q',e')->∀i,s<=i->i<e->s'<=i->i<e'->False:=by
    intro k b' B s qq e s' q' e' Jl eC rM hp rX i i1 i2 i3 i4
    cases hzz:g3.z b' with
    |none=>exact rM hzz
    |some n'=>
    obtain⟨LA,hkl,_⟩:=vd b' n' eC hzz
    obtain⟨_,_,_,hp0,_,k1,_⟩:=R.hp.hp b' n' LA
    rw[rX] at hp0;cases hp0
    have hB:=Y7 (k1 i i3 i4).1
    obtain⟨jv,u,q,s0,e0,hu,hq,OD,zn,m1,m2,m3,how,aYn,P8⟩:=aNa _ _ (aV4 (vs.length+k) B s qq e (by omega) hp hB i i1 i2)
    by_cases hbb:u.b=b'
    ·subst hbb
     rcases P8 with P8| ⟨bI,P8⟩
     ·exact hkl ⟨jv,u,hu,P8,rfl⟩
     ·have hjv:jv<lh.length:=by rw[b3];exact(List.getElem?_eq_some_iff.1 hu).1
      have aiv:(r.heap lh)[jv]? =some (some bI):=by rw[BN hjv];exact adG.1 bI P8 hjv
      obtain⟨_,_,_,_,z3⟩:=new k Jl
      rw[b3] at z3
      exact hHL.dj (vs.length+k) jv B s qq e _ _ _ (by omega) (by simp[z3]) (by simp[XF aiv]) hp (arE _ _ (vU hu OD)) i i1 i2 m1 m2
    ·exact R.hp.dj u.b b' B s0 _ e0 s' _ e' hbb (by simp[hq]) (by simp[LA]) OD rX i (by omega) m3 i3 i4
   intro b b' B s qq e s' q' e' kZ hz rM hp rX i i1 i2 i3 i4
   by_cases hb:aJ<=b∧b<aJ+r.news.length
   ·obtain⟨k,Jl,rfl⟩:=idx b hb
    rw[TF Jl] at hp
    by_cases eC:aJ<=b'∧b'<aJ+r.news.length
    ·obtain⟨k',aJx,rfl⟩:=idx b' eC
     rw[TF aJx] at rX
     obtain⟨_,_,_,_,z3⟩:=new k Jl
     obtain⟨_,_,_,_,z3'⟩:=new k' aJx
     rw[b3] at z3 z3'
     exact hHL.dj (vs.length+k) (vs.length+k') B s qq e s' q' e' (by omega) (by simp[z3]) (by simp[z3']) hp rX i i1 i2 i3 i4
    ·rw[TG eC] at rX
     exact no k b' B s qq e s' q' e' Jl eC rM hp rX i i1 i2 i3 i4
   ·rw[TG hb] at hp
    by_cases eC:aJ<=b'∧b'<aJ+r.news.length
    ·obtain⟨k',aJx,rfl⟩:=idx b' eC
     rw[TF aJx] at rX
     exact no k' b B s' q' e' s qq e aJx hb hz rX hp i i3 i4 i1 i2
    ·rw[TG eC] at rX
     cases hzz:g3.z b with
     |none=>exact hz hzz
     |some n=>
     cases aV6:g3.z b' with
     |none=>exact rM aV6
     |some n'=>
     exact R.hp.dj b b' B s qq e s' q' e' kZ (by simp[(vd b n hb hzz).1]) (by simp[(vd b' n' eC aV6).1]) hp rX i i1 i2 i3 i4
 have R3:Rel X D (piB π πL vs.length aJ r.news.length) g3 a w':=by
  refine⟨λi=> ?_,R.nt,R.df,H3,λb hb=> ?_,λb B s qq e hkb hz hp hB i i1 i2=> ?_,R.fr.trans hFr aOI⟩
  ·rw[N0,G2.1,G1.2]
   exact AV.c7 K.ext' _ _ (R.tm i)
  ·rw[TG (by omega)];exact R.vd b hb
  ·by_cases hb:aJ<=b∧b<aJ+r.news.length
   ·obtain⟨k,Jl,rfl⟩:=idx b hb
    rw[TF Jl] at hp
    exact aOI B i hB (aV4 (vs.length+k) B s qq e (by omega) hp (Nat.lt_of_lt_of_le hB R.fr.size) i i1 i2)
   ·rw[TG hb] at hp
    cases hzz:g3.z b with
    |none=>exact absurd hzz hz
    |some n=>exact R.ft b B s qq e hkb (by simp[(vd b n hb hzz).1]) hp hB i i1 i2
 refine hn _ _ (piB π πL vs.length aJ r.news.length) K.ext' (λb hb=> ?_) ?_
 ·by_cases eC:aJ<=b∧b<aJ+r.news.length
  ·exact .inr eC
  ·rw[TG eC] at hb;exact .inl hb
 ·have e3:ck (dk o.dst (aI1 vs aJ r.val)++(aOG++(ny vs r.vR++Fw vs aJ r.news 0))) g=ck (dk o.dst (aI1 vs aJ r.val)) g3:=by
   rw[JG _ _ _ _ (λu hu i x e=>by
    rcases List.mem_append.1 hu with hu|hu
    ·obtain⟨_,_,_,_,_,rfl⟩:=c3 u hu;cases e
    ·rcases List.mem_append.1 hu with hu|hu
     ·obtain⟨_,rfl⟩:=XE hu;cases e
     ·obtain⟨_,_,rfl⟩:=aBu hu;cases e)]
   rw[NN,NN,hg1,hg2,hg3]
  rw[e3]
  exact R3.dst hd (K.aYk _ _ aBv)
end
end Go.Ab
namespace Go.Ab
variable [ax]
section
variable {P:Program} {g:Gt}
theorem au0 {afV:TypeId->RV->RV->Rd Bool}{D:Nat}(aFe:∀t x y r l,aH (afV t x y) g r l->∀(π:Pi) a b (w:World),x.rel π a->y.rel π b->(Op.equalIn D t a b).run P w=.ok r w){xs ys:af}:∀{fs:List Field} {r:Bool} {l:List Fp},aH (aIY P afV xs ys fs) g r l->
  ∀(π:Pi) (as bs:Array Value) (w:World),bj (CV.rel π) xs.list as.toList->bj (CV.rel π) ys.list bs.toList->(Op.eqFields D as bs fs).run P w=.ok r w
 | [],r,l,h,π,as,bs,w,_,_=>by cases h;simp[Op.eqFields]
 |f::fs,r,l,h,π,as,bs,w,ha,hb=>by
  simp only[aIY] at h
  split at h
  ·rename_i hn
   obtain⟨x,⟨_,h1⟩,_,h⟩:=aH.bind' h
   obtain⟨y,⟨_,h2⟩,_,h⟩:=aH.bind' h
   obtain⟨r1,⟨_,h3⟩,_,h⟩:=aH.bind' h
   obtain⟨r2,⟨_,h4⟩,_,h⟩:=aH.bind' h
   cases h
   obtain⟨u,hu,hru⟩:=h1.Ma ha w
   obtain⟨v,hv,hrv⟩:=h2.Ma hb w
   have e3:=aFe _ _ _ _ _ h3 π u v w hru hrv
   have e4:=au0 aFe h4 π as bs w ha hb
   simp only[Op.eqFields,if_pos hn,Sem.run_bind,hu,hv,e3,Result.andThen_ok]
   cases r1<;>simp[e4]
  ·rename_i hn
   have e4:=au0 aFe h π as bs w ha hb
   simp only[Op.eqFields,if_neg hn];exact e4
theorem aFf {afV:TypeId->RV->RV->Rd Bool}{D:Nat}{e:TypeId}{z:Nat}(aFe:∀t x y r l,aH (afV t x y) g r l->∀(π:Pi) a b (w:World),x.rel π a->y.rel π b->(Op.equalIn D t a b).run P w=.ok r w){xs ys:af}:∀{is:List Nat} {r:Bool} {l:List Fp},aH (aS2 P afV e z xs ys is) g r l->
  ∀(π:Pi) (as bs:Array Value) (w:World),bj (CV.rel π) xs.list as.toList->bj (CV.rel π) ys.list bs.toList->
   (forIn is ((none,()):Option Bool×Unit) (λi (_:Option Bool×Unit)=>(do
    let a<-part e as (i*z)
    let b<-part e bs (i*z)
    let c<-Op.equalIn D e a b
    if (!c)=true then pure (ForInStep.done (some false,())) else pure (ForInStep.yield (none,())):Sem (ForInStep (Option Bool×Unit))))).run P w=.ok (if r then(none,()) else(some false,())) w
 | [],r,l,h,π,as,bs,w,_,_=>by cases h;simp
 |i::is,r,l,h,π,as,bs,w,ha,hb=>by
  obtain⟨x,⟨_,h1⟩,_,h⟩:=aH.bind' h
  obtain⟨y,⟨_,h2⟩,_,h⟩:=aH.bind' h
  obtain⟨r1,⟨_,h3⟩,_,h⟩:=aH.bind' h
  obtain⟨r2,⟨_,h4⟩,_,h⟩:=aH.bind' h
  cases h
  obtain⟨u,hu,hru⟩:=h1.Ma ha w
  obtain⟨v,hv,hrv⟩:=h2.Ma hb w
  have e3:=aFe _ _ _ _ _ h3 π u v w hru hrv
  have e4:=aFf aFe h4 π as bs w ha hb
  rw[List.forIn_cons]
  simp only[Sem.run_bind,hu,hv,e3,Result.andThen_ok]
  cases r1
  ·simp
  ·simp only[Bool.not_true,Bool.false_eq_true,if_false,Sem.run_pure,Result.andThen_ok,Bool.true_and]
   exact e4
omit [ax] in
theorem aPD (c:cB)(j:Nat):gL [c] j=.f (c.at j):=by
 unfold gL
 simp[Nat.mod_one]
theorem aJy {e:TypeId}{c c':cB}{n:Nat}{r:Bool}(hs:aba P e [c]=true)(hc:aAQ n [c] [c']=some r){D D2:Nat}(hD:D=D2+1)(w:World):∃q:Nat->Bool,r=ari n q∧
  ∀i a b,(c.at i).rel a->(c'.at i).rel b->(Op.equalIn D e a b).run P w=.ok (q i) w:=by
 subst hD
 unfold aba at hs
 split at hs
 ·rename_i g1 hu hcc
  cases hcc
  unfold aAQ at hc
  split at hc
  ·rename_i h1 h2;cases h1
  ·rename_i g h h1 h2
   cases h1;cases h2
   cases hc
   refine⟨_,rfl,λi a b ha hb=> ?_⟩
   have ha:a=.bool (g1 i):=ha
   have hb:b=.bool (h i):=hb
   subst ha hb
   exact run_equalIn_bool w D2 e _ _ hu
  ·cases hc
 ·rename_i k0 k1 g1 hu hcc
  cases hcc
  unfold aAQ at hc
  split at hc
  ·rename_i k g k' h h1 h2
   cases h1;cases h2
   split at hc
   ·rename_i hk
    subst hk
    cases hc
    refine⟨_,rfl,λi a b ha hb=> ?_⟩
    have ha:a=.int k1 (g1 i):=ha
    have hb:b=.int k1 (h i):=hb
    subst ha hb
    exact run_equalIn_int w D2 e k1 k0 _ _ hu
   ·cases hc
  ·rename_i h1 h2;cases h1
  ·cases hc
 ·cases hs
omit [ax] in
theorem aJz {e:TypeId}{c:cB}(hs:aba P e [c]=true):aa9 P e=some false:=by
 unfold aba at hs
 unfold aa9
 split at hs
 ·rename_i hu _;rw[hu]
 ·rename_i hu _;rw[hu]
 ·cases hs
theorem awI {e:TypeId}{D n:Nat}{c c':cB}{q:Nat->Bool}{w:World}(aOJ:aa9 P e=some false)(hq:∀i a b,(c.at i).rel a->(c'.at i).rel b->(Op.equalIn D e a b).run P w=.ok (q i) w){π:Pi}{as bs:Array Value}
  (ha:bj (CV.rel π) (af.list [.a (.l n) [c]]) as.toList)(hb:bj (CV.rel π) (af.list [.a (.l n) [c']]) bs.toList):∀{is:List Nat},(∀i∈is,i<n)->
   (forIn is ((none,()):Option Bool×Unit) (λi (_:Option Bool×Unit)=>(do
    let a<-part e as (i*1)
    let b<-part e bs (i*1)
    let c<-Op.equalIn D e a b
    if (!c)=true then pure (ForInStep.done (some false,())) else pure (ForInStep.yield (none,())):Sem (ForInStep (Option Bool×Unit))))).run P w=.ok (if is.all q then(none,()) else(some false,())) w
 | [],_=>by simp
 |i::is,hi=>by
  have cell:∀{c:cB} {as:Array Value},bj (CV.rel π) (af.list [.a (.l n) [c]]) as.toList->∃x,(part e as (i*1)).run P w=.ok x w∧(c.at i).rel x:=λ{c as} ha=>by
   have hs:af.size [.a (.l n) [c]]=n:=by simp[af.size,Sg.size,Sz.val]
   have hin:=hi i (by simp)
   obtain⟨x,hx,hr⟩:=(hM ha).2 i (by rw[hs];exact hin)
   rw[af.de (by simp[Sg.size,Sz.val];exact hin),Sg.np,aPD] at hr
   refine⟨x,?_,hr⟩
   have:as[i]? =some x:=by simpa using hx
   simp[part,HT aOJ,this]
  obtain⟨u,hu,hru⟩:=cell ha
  obtain⟨v,hv,hrv⟩:=cell hb
  have e3:=hq i u v hru hrv
  have e4:=awI aOJ hq ha hb (is:=is) λj hj=>hi j (by simp[hj])
  rw[List.forIn_cons]
  simp only[Sem.run_bind,hu,hv,e3,Result.andThen_ok]
  cases hqi:q i
  ·simp[hqi]
  ·simp only[Bool.not_true,Bool.false_eq_true,if_false,Sem.run_pure,Result.andThen_ok,List.all_cons,hqi,Bool.true_and]
   exact e4
theorem aBw:∀{d:Nat} {t:TypeId} {x y:RV} {r:Bool} {l:List Fp},aH (eqT P d t x y) g r l->∀(D:Nat),d<=D->∀(π:Pi) a b (w:World),x.rel π a->y.rel π b->(Op.equalIn D t a b).run P w=.ok r w
 |0,_,_,_,_,_,h,_,_,_,_,_,_,_,_=>by cases h
 |d+1,t,x,y,r,l,h,D,hD,π,a,b,w,hx,hy=>by
  obtain⟨D',rfl⟩:∃D',D=D'+1:=⟨D-1,by omega⟩
  have ih:∀t x y r l,aH (eqT P d t x y) g r l->∀(π:Pi) a b (w:World),x.rel π a->y.rel π b->(Op.equalIn D' t a b).run P w=.ok r w:=λt x y r l h π a b w hx hy=>aBw h D' (by omega) π a b w hx hy
  unfold eqT at h
  split at h
  ·rename_i p q hu
   cases h
   have hx:a=_:=hx
   have hy:b=_:=hy
   subst hx hy
   exact run_equalIn_bool w D' t p q hu
  ·rename_i k0 k p k' q hu
   have hx:a=_:=hx
   have hy:b=_:=hy
   subst hx hy
   split at h
   ·rename_i hk
    subst hk
    cases h
    exact run_equalIn_int w D' t k k0 p q hu
   ·cases h
  ·rename_i p q hu
   cases h
   have hx:a=_:=hx
   have hy:b=_:=hy
   subst hx hy
   rw[run_equalIn_string w D' t p q hu,beq_toListBytes]
  ·rename_i e hu
   cases h
   have hx:a=_:=hx
   have hy:b=_:=hy
   subst hx hy
   simp[Op.equalIn,run_underlying hu]
  ·rename_i e p1 p2 p3 hu
   cases h
   obtain⟨B,s,q',e',_,hx,_⟩:=hx
   have hy:b=_:=hy
   subst hx hy
   simp[Op.equalIn,run_underlying hu]
  ·rename_i e p1 p2 p3 hu
   cases h
   obtain⟨B,s,q',e',_,hy,_⟩:=hy
   have hx:a=_:=hx
   subst hx hy
   simp[Op.equalIn,run_underlying hu]
  ·rename_i fs xs ys hu
   split at h
   ·cases h
   ·rename_i hst
    obtain⟨as,rfl,has⟩:=hx
    obtain⟨bs,rfl,hbs⟩:=hy
    have hf:P.fieldsOf t=fs:=by simp[Program.fieldsOf,hu]
    rw[run_equalIn_struct w D' t as bs (by rw[hf];exact hu) hst,hf]
    exact au0 ih h π as bs w has hbs
  ·rename_i n e xs ys hu
   obtain⟨z,⟨_,h1⟩,_,h⟩:=aH.bind' h
   obtain⟨as,rfl,has⟩:=hx
   obtain⟨bs,rfl,hbs⟩:=hy
   have e1:List.range' 0 [:n].size=List.range n:=by
    rw[List.range_eq_range'];simp[Std.Legacy.Range.size]
   split at h
   ·rename_i r' aix
    cases h
    unfold aS3 at aix
    split at aix
    ·rename_i m c m' c'
     split at aix
     ·rename_i hc
      simp only[Bool.and_eq_true,beq_iff,eF] at hc
      obtain⟨hd1,rfl,rfl,rfl,hsc⟩:=hc
      obtain⟨c0,rfl⟩:∃c0,c=[c0]:=by
       unfold aba at hsc
       split at hsc
       ·exact⟨_,rfl⟩
       ·exact⟨_,rfl⟩
       ·cases hsc
      obtain⟨c1,rfl⟩:∃c1,c'=[c1]:=by
       unfold aAQ at aix
       split at aix
       ·exact⟨_,rfl⟩
       ·exact⟨_,rfl⟩
       ·cases aix
      obtain⟨q,hq1,hq2⟩:=aJy hsc aix (show D'=D'-1+1 by omega) w
      have key:=awI (P:=P) (aJz hsc) hq2 has hbs (is:=List.range m') (λi hi=>List.mem_range.1 hi)
      simp only[Op.equalIn,Sem.run_bind,run_underlying hu,Result.andThen_ok,run_sizeOf h1.dt,Std.Legacy.Range.forIn_eq_forIn_range']
      rw[e1,key,hq1]
      unfold ari
      cases(List.range m').all q<;>simp
     ·cases aix
    ·cases aix
   ·have key:=aFf ih h π as bs w has hbs
    simp only[Op.equalIn,Sem.run_bind,run_underlying hu,Result.andThen_ok,run_sizeOf h1.dt,Std.Legacy.Range.forIn_eq_forIn_range']
    rw[e1,key]
    cases r<;>simp
  ·cases h
theorem aTv {t:TypeId}{x y:RV}{r:Bool}{l:List Fp}(h:aH (eqV P t x y) g r l)(π:Pi)(a b:Value)(w:World)(hx:x.rel π a)(hy:y.rel π b):
  (∀(op:BinOp) (p q:Operand),(eqGuard op t p q a b).run P w=.ok () w)∧(binOp .eql t a b).run P w=.ok (.bool r) w∧(binOp .neq t a b).run P w=.ok (.bool (!r)) w:=by
 unfold eqV at h
 split at h
 ·rename_i xs ys
  split at h
  ·cases h
  ·rename_i hg
   obtain⟨as,rfl,has⟩:=hx
   obtain⟨bs,rfl,hbs⟩:=hy
   have e:=aBw (x:=.agg xs) (y:=.agg ys) h 10000 (by omega) π (.agg as) (.agg bs) w ⟨as,rfl,has⟩ ⟨bs,rfl,hbs⟩
   refine⟨λop p q=>run_eqGuard_agg w op t p q as bs hg,?_,?_⟩
   ·rw[run_eql_struct,e];rfl
   ·rw[run_neq_struct,e];rfl
 ·cases h
 ·cases h
 ·cases h
 ·cases h
 ·have e:=aBw h 10000 (by omega) π a b w hx hy
  have e':(Op.equal t a b).run P w=.ok r w:=e
  unfold eqT at h
  split at h
  ·have hx:a=_:=hx
   have hy:b=_:=hy
   subst hx hy
   have:=arC (by intros;simp) (by intros;simp) (by intros;simp) (by intros;simp) e'
   exact⟨λop p q=>aDD op t p q _ _ w,this⟩
  ·exfalso;simp_all
  ·exfalso;simp_all
  ·have hx:a=_:=hx
   have hy:b=_:=hy
   subst hx hy
   have:=arC (by intros;simp) (by intros;simp) (by intros;simp) (by intros;simp) e'
   exact⟨λop p q=>ady op t p q _ _ w,this⟩
  ·obtain⟨B,s,q',e',_,hx,_⟩:=hx
   have hy:b=_:=hy
   subst hx hy
   have:=arC (by intros;simp) (by intros;simp) (by intros;simp) (by intros;simp) e
   exact⟨λop p q=>ady op t p q _ _ w,this⟩
  ·obtain⟨B,s,q',e',_,hy,_⟩:=hy
   have hx:a=_:=hx
   subst hx hy
   have:=arC (by intros;simp) (by intros;simp) (by intros;simp) (by intros;simp) e
   exact⟨λop p q=>ady op t p q _ _ w,this⟩
  ·exfalso;simp_all
  ·exfalso;simp_all
  ·cases h
end
end Go.Ab
namespace Go.Ab
variable [ax]
section
variable {P:Program} {E:Env} {X:Cx} {D:Nat->Prop} {g:Gt}
theorem aFg (hE:∀f F,E f=some F->Sound P f F){o:Oper}{aJ:Nat}{us:List Up}{fp:List Fp}(h:aH (aop P E o aJ) g us fp):xN P o X D aJ us g:=by
 unfold aop at h
 simp only[] at h
 split at h
 ·rename_i x oB;exact aBf (.inl oB) h
 ·rename_i x oB;exact aBf (.inr oB) h
 ·rename_i c x y oB;exact aM2 oB h
 ·rename_i e oB;exact aJh oB h
 ·rename_i e x oB;exact aPv oB h
 ·rename_i t n c oB;exact ayZ oB h
 ·rename_i t ps oB;exact aJp oB h
 ·rename_i t n ps oB;exact auW oB h
 ·rename_i t x oB;exact aM3 oB h
 ·rename_i t x y oB;exact aJi oB h
 ·rename_i x oB;exact aBj oB h
 ·rename_i op t x y yt oB
  obtain⟨r1,⟨_,h1⟩,_,h⟩:=aH.bind' h
  obtain⟨r2,⟨_,h2⟩,_,h⟩:=aH.bind' h
  obtain⟨v,⟨_,h3⟩,_,h⟩:=aH.bind' h
  cases h
  refine gF λπ a w R=> ?_
  obtain⟨z,hz,hr⟩:=aPy h3 (λr l hr π a b w hx hy=>aTv hr π a b w hx hy) (h1.tO R) (h2.tO R) x y w
  refine⟨z,?_,hr⟩
  simp only[execOp,oB]
  rw[Sem.run_bind,hz];rfl
 ·rename_i op t x oB;exact aM4 oB h
 ·rename_i s d x oB;exact aDE oB h
 ·rename_i t x oB;exact aBk oB h
 ·rename_i f fs aa8 oB;exact aBl oB h
 ·rename_i t x lo hi oB;exact aJm oB h
 ·rename_i t x i oB;exact ayX oB h
 ·rename_i t x i oB;exact aJj oB h
 ·rename_i t x i oB;exact ayY oB h
 ·rename_i t x i oB;exact aJl oB h
 ·rename_i x i oB;exact aDF oB h
 ·rename_i c oB
  obtain⟨args,⟨l0,h1⟩,_,h⟩:=aH.bind' h
  split at h
  ·rename_i b hc
   unfold biV at h
   split at h
   ·exact aPA oB hc h1 rfl h
   ·rename_i s x
    obtain⟨t,⟨_,h2⟩,_,h⟩:=aH.bind' h
    obtain⟨_,⟨_,h3⟩,_,h⟩:=aH.bind' h
    obtain⟨s',⟨_,h4⟩,_,h⟩:=aH.bind' h
    obtain⟨x',⟨_,h5⟩,_,h⟩:=aH.bind' h
    have h2:=h2.dt
    have h3:=h3.cv
    have hts:c.argTypes=#[t,t]:=by
     split at h3
     ·rename_i t1 t2 he
      have e:=Nat.eq_of_beq_eq_true h3
      subst e
      have e2:=aYi he
      rw[e2] at h2
      simp at h2
      rw[e2,h2]
     ·cases h3
    exact aGT oB hc h1 rfl hts h4.asC h5.asC h
   ·rename_i d x
    obtain⟨t,⟨_,h2⟩,_,h⟩:=aH.bind' h
    obtain⟨d',⟨_,h4⟩,_,h⟩:=aH.bind' h
    obtain⟨x',⟨_,h5⟩,_,h⟩:=aH.bind' h
    exact aM7 oB hc h1 rfl h2.dt h4.asC h5.asC h
   ·exact aJr (λx y v l h=>aPB h) oB hc (aU5 c.argTypes) h1 rfl h
   ·exact aJr (λx y v l h=>aPC h) oB hc (aU6 c.argTypes) h1 rfl h
   ·cases h
  ·rename_i fo hc
   obtain⟨fv,⟨_,h2⟩,_,h⟩:=aH.bind' h
   obtain⟨fc,⟨_,h3⟩,_,h⟩:=aH.bind' h
   have aTt:∀(π:Pi) (x:Value),fv.rel π x->∃arr:Array Value,x=.func (.func fc.1) #[] arr∧bj (RV.rel π) fc.2 arr.toList:=by
    unfold aVY at h3
    split at h3
    ·cases h3;exact λπ x hx=>hx
    ·cases h3
     rintro π x ⟨B,s,q,e,hb,hx,hle⟩
     exact⟨_,hx,⟨⟨B,s,q,e,hb,rfl,hle⟩,trivial⟩⟩
    ·cases h3
   exact aM9 hE oB hc h1 h2 aTt h
  ·cases h
 ·cases h
end
end Go.Ab
namespace Go.Ab
variable [ax]
inductive Y' (P:Program) (E:Env) (ops:List Oper) (o:Oper) (aJ:Nat) (g:Gt):List Up->List Fp->Prop
 |run {us fp} (hg:o.guard=none) (h:aH (aop P E o aJ) g us fp):Y' P E ops o aJ g us fp
 |aOK {us fp} (j:Nat) (want:Bool) (t:Tmp) (hg:o.guard=some (j,want)) (ht:Mb ops j=some t) (hx:g.t t=.r (.c (.f (.b want)))) (h:aH (aop P E o aJ) g us fp):Y' P E ops o aJ g us (.t t::fp)
 |skip (j:Nat) (want:Bool) (t:Tmp) (hg:o.guard=some (j,want)) (ht:Mb ops j=some t) (hx:g.t t=.r (.c (.f (.b (!want))))∨g.t t=.tup []):Y' P E ops o aJ g (dk o.dst Y3) [.t t]
omit [ax] in
theorem Y'.local {P:Program}{E:Env}{ops:List Oper}{o:Oper}{aJ:Nat}{g g':Gt}{us:List Up}{fp:List Fp}(h:Y' P E ops o aJ g us fp)(e:∀f∈fp,∀p,f.has p->g.at p=g'.at p):Y' P E ops o aJ g' us fp:=by
 cases h with
 |run hg h=>exact .run hg (h.local e)
 |aOK j want t hg ht hx h=>
  have e1:g.t t=g'.t t:=by simpa[Gt.at] using e (.t t) (by simp) (.t t) rfl
  exact .aOK j want t hg ht (e1▸hx) (h.local λf hf=>e f (by simp[hf]))
 |skip j want t hg ht hx=>
  have e1:g.t t=g'.t t:=by simpa[Gt.at] using e (.t t) (by simp) (.t t) rfl
  exact .skip j want t hg ht (e1▸hx)
inductive CA (P:Program) (E:Env) (ops:List Oper) (k:Nat):List Oper->St->List Tr->St->Prop
 |nil (s:St):CA P E ops k [] s [] s
 |cons {o rest s s1 s2 us fp tr dg} (hd:∀d,o.dst=some d->d<s.tmps.length) (h:Y' P E ops o s.heap.length s.gt us fp) (hus:tr.us=us) (hfp:∀f∈fp,f∈tr.fp) (ha:iH k us s=some s1) (ht:CA P E ops k rest s1 dg s2):CA P E ops k (o::rest) s (tr::dg) s2
omit [ax] in
theorem al6 {s:St}{t:Nat}{v:AV}(h:s.tmp t=v):{s with tmps:=s.tmps.set t v}=s:=by
 have:s.tmps.set t v=s.tmps:=by
  apply List.ext_getElem?
  intro i
  rw[List.getElem?_set]
  by_cases e:t=i
  ·subst e
   by_cases hl:t<s.tmps.length
   ·rw[if_pos rfl,if_pos hl]
    rw[List.getElem?_eq_getElem hl]
    unfold St.tmp at h
    rw[ym] at h
    simp only[List.getD,List.getElem?_eq_getElem hl,Option.getD_some] at h
    rw[h]
   ·rw[if_pos rfl,if_neg hl,List.getElem?_eq_none (by omega)]
  ·rw[if_neg e]
 rw[this]
omit [ax] in
theorem aiz {k:Nat}:∀{us:List Up} {s s':St},iH k us s=some s'->s'.tmps.length=s.tmps.length
 | [],s,s',h=>by simp[iH] at h;subst h;rfl
 |u::us,s,s',h=>by
  simp only[iH] at h
  split at h
  ·rw[aiz h]
   cases u with
   |t i v=>simp[Up.app]
   |c b o v=>simp only[Up.app];split<;>first|rfl|(split<;>rfl)
   |_=>rfl
  ·cases h
omit [ax] in
theorem JJ {P:Program}{E:Env}{nt k:Nat}{ops:List Oper}{ρ:Type}:∀{rest:List Oper} {s:St} {l:List Tr} {c:St->List Tr->Option ρ} {r:ρ},nt<=s.tmps.length->Jz P E nt k ops rest s l c=some r->
  ∃s' dg,CA P E ops k rest s dg s'∧c s' (l++dg)=some r
 | [],s,l,c,r,_,h=>⟨s,[],.nil s,by simpa[Jz] using h⟩
 |o::rest,s,l,c,r,W2,h=>by
  have go:∀(l0:List Fp) (hd:∀d,o.dst=some d->d<s.tmps.length),(∀us fp,aH (aop P E o s.heap.length) s.gt us fp->∃fp',Y' P E ops o s.heap.length s.gt us fp'∧∀f∈fp',f∈fp.reverse++l0)->
    ((aop P E o s.heap.length).run s l0 λus fp=>match iH k us s with
     |some s'=>Jz P E nt k ops rest s' (l++[⟨fp,us⟩]) c
     |none=>none)=some r->∃s' dg,CA P E ops k (o::rest) s dg s'∧c s' (l++dg)=some r:=by
   intro l0 hd oB mz
   obtain⟨us,fp,h1,h2⟩:=Rd.aM0 mz
   cases ha:iH k us s with
   |none=>rw[ha] at h2;cases h2
   |some s1=>
    rw[ha] at h2
    obtain⟨s2,dg,t1,t2⟩:=JJ (by rw[aiz ha];exact W2) h2
    obtain⟨fp',o1,o2⟩:=oB us fp h1
    exact⟨s2,⟨fp.reverse++l0,us⟩::dg,.cons hd o1 rfl o2 ha t1,by simpa using t2⟩
  have skip:∀(j:Nat) (want:Bool) (t:Tmp) (hd:∀d,o.dst=some d->d<s.tmps.length),o.guard=some (j,want)->Mb ops j=some t->(s.gt.t t=.r (.c (.f (.b (!want))))∨s.gt.t t=.tup [])->
    (match iH k (dk o.dst Y3) s with
     |some s'=>Jz P E nt k ops rest s' (l++[⟨[.t t],dk o.dst Y3⟩]) c
     |none=>none)=some r->∃s' dg,CA P E ops k (o::rest) s dg s'∧c s' (l++dg)=some r:=by
   intro j want t hd hg ht hx mz
   cases ha:iH k (dk o.dst Y3) s with
   |none=>rw[ha] at mz;cases mz
   |some s1=>
    rw[ha] at mz
    obtain⟨s2,dg,t1,t2⟩:=JJ (by rw[aiz ha];exact W2) mz
    exact⟨s2,⟨[.t t],dk o.dst Y3⟩::dg,.cons hd (.skip j want t hg ht hx) rfl (by simp) ha t1,by simpa using t2⟩
  simp only[Jz,aJc,aBc,TC] at h
  split at h
  ·cases h
  ·rename_i hdk
   have hd:∀d,o.dst=some d->d<s.tmps.length:=λd hd=>by
    unfold aS9 at hdk;rw[hd] at hdk
    have h2:Nat.blt d nt=true:=hdk
    exact Nat.lt_of_lt_of_le (rL.1 h2) W2
   split at h
   ·rename_i hg
    exact go [] hd (λus fp h=>⟨fp,.run hg h,by simp⟩) h
   ·rename_i j want hg
    split at h
    ·cases h
    ·rename_i t ht
     split at h
     ·rename_i x hx
      have goG:s.tmp t=.r (.c (.f (.b want)))->_:=λhx=>go [.t t] hd (λus fp h=>⟨.t t::fp,.aOK j want t hg ht hx h,by simp;intro a ha;exact .inl ha⟩)
      cases x with
      |true=>
       simp only[aiu] at h
       split at h
       ·cases want with
        |true=>
         simp only at h
         rw[al6 hx] at h
         exact goG hx h
        |false=>
         simp only at h
         rw[al6 hx] at h
         exact skip j false t hd hg ht (.inl hx) h
       ·cases h
      |false=>
       simp only[aiu] at h
       split at h
       ·cases want with
        |true=>
         simp only at h
         rw[al6 hx] at h
         exact skip j true t hd hg ht (.inl hx) h
        |false=>
         simp only at h
         rw[al6 hx] at h
         exact goG hx h
       ·cases h
     ·rename_i hx
      exact skip j want t hd hg ht (.inr hx) h
     ·cases h
omit [ax] in
theorem yu {k b:Nat}{d:List Nat}{x:Nat}:x∈mark k b d↔x∈d∨(x=b∧b<k):=by
 unfold mark
 split
 ·rename_i h
  simp only[Bool.and_eq_true,Nat.blt_eq] at h
  simp only[List.mem_cons]
  constructor
  ·rintro (rfl|h1)
   ·exact .inr ⟨rfl,h.1⟩
   ·exact .inl h1
  ·rintro (h1| ⟨rfl,_⟩)
   ·exact .inr h1
   ·exact .inl rfl
 ·rename_i h
  constructor
  ·exact .inl
  ·rintro (h1| ⟨rfl,hk⟩)
   ·exact h1
   ·have Jl:Nat.blt x k=true:=by simpa using hk
    have:d.any (Nat.beq x)=true:=by
     by_cases ha:d.any (Nat.beq x)=true
     ·exact ha
     ·rw[Jl] at h;simp_all
    obtain⟨y,hy,he⟩:=List.any_eq_true.1 this
    rw[Nat.eq_of_beq_eq_true he];exact hy
structure aGW (k:Nat)(us:List Up)(s s':St):Prop where
 heap:s'.heap.length=s.heap.length+ch us
 tmps:s'.tmps.length=s.tmps.length
 sub:∀b,b∈s.cS->b∈s'.cS
 perm:∀u∈us,u.perm k (·∈s'.cS)
 kY:∀b,b<k->b<s.heap.length->b∉s'.cS->s'.bI b=s.bI b
omit [ax] in
theorem Up.aU9 {k:Nat}{u:Up}{s:St}(h:u.ok s=true):aGW k [u] s (u.app k s):=by
 cases u with
 |t i v=>exact⟨rfl,by simp[Up.app],λ_ h=>h,λu hu=>by simp at hu;subst hu;trivial,λ_ _ _ _=>rfl⟩
 |c b lo vs=>
  simp only[Up.ok] at h
  split at h
  ·rename_i bI hb
   split at h
   case h_2=>cases h
   rename_i p hp
   have e:(Up.c b lo vs).app k s={s with heap:=s.heap.set b (some p.2),cS:=mark k b s.cS}:=by simp[Up.app,hb,hp]
   rw[e]
   refine⟨by simp[ch],rfl,λx hx=>yu.2 (.inl hx),λu hu=> ?_,λb' eC hl hn=> ?_⟩
   ·simp at hu;subst hu;exact λhk=>yu.2 (.inr ⟨rfl,hk⟩)
   ·have kZ:b'≠b:=λe=>hn (yu.2 (.inr ⟨e,e▸eC⟩))
    show((s.heap.set b _)[b']?).getD none=_
    rw[arA (St.aGP hb),if_neg kZ];rfl
  ·cases h
 |new b bI=>
  have hb:b=s.heap.length:=Nat.eq_of_beq_eq_true h
  refine⟨by simp[Up.app,ch],rfl,λ_ h=>h,λu hu=>by simp at hu;subst hu;trivial,λb' _ hl _=> ?_⟩
  show((s.heap++[some bI])[b']?).getD none=_
  rw[aI8,if_neg (by omega)];rfl
 |kill b=>
  have hb:b<s.heap.length:=by have h:=h;simp[Up.ok,Nat.blt] at h;omega
  refine⟨by simp[Up.app,ch],rfl,λx hx=>yu.2 (.inl hx),λu hu=> ?_,λb' eC hl hn=> ?_⟩
  ·simp at hu;subst hu;exact λhk=>yu.2 (.inr ⟨rfl,hk⟩)
  ·have kZ:b'≠b:=λe=>hn (yu.2 (.inr ⟨e,e▸eC⟩))
   show((s.heap.set b none)[b']?).getD none=_
   rw[arA hb,if_neg kZ];rfl
omit [ax] in
theorem Up.aNb {k:Nat}{D D':Nat->Prop}(h:∀b,D b->D' b){u:Up}(p:u.perm k D):u.perm k D':=by
 cases u<;>first|trivial|exact λhk=>h _ (p hk)
omit [ax] in
theorem HU {k:Nat}:∀{us:List Up} {s s':St},iH k us s=some s'->aGW k us s s'
 | [],s,s',h=>by
  simp[iH] at h;subst h
  exact⟨rfl,rfl,λ_ h=>h,λu hu=>by simp at hu,λ_ _ _ _=>rfl⟩
 |u::us,s,s',h=>by
  simp only[iH] at h
  split at h
  ·rename_i hu
   have A:=Up.aU9 (k:=k) hu
   have B:=HU h
   refine⟨?_,B.tmps.trans A.tmps,λb hb=>B.sub _ (A.sub b hb),λv hv=> ?_,λb hb hl hn=> ?_⟩
   ·rw[B.heap,A.heap,show ch (u::us)=ch [u]+ch us from Db [u] us];omega
   ·rcases List.mem_cons.1 hv with rfl|hv
    ·exact Up.aNb B.sub (A.perm v (by simp))
    ·exact B.perm v hv
   ·have h1:=A.heap
    rw[B.kY b hb (by omega) hn,A.kY b hb hl (λhx=>hn (B.sub b hx))]
  ·cases h
end Go.Ab
namespace Go.Ab
variable [ax]
section
variable {P:Program} {E:Env} {X:Cx} {D:Nat->Prop}
theorem aBx {ops:Array Oper}{o:Oper}{j:Nat}{want:Bool}{t:Tmp}{g:Gt}{π:Pi}{a:Act}{w:World}(R:Rel X D π g a w)(hg:o.guard=some (j,want))(ht:Mb ops.toList j=some t):
  (g.t t=.r (.c (.f (.b want)))->Region.wanted o (yielded ops a.tmps)=true)∧((g.t t=.r (.c (.f (.b (!want))))∨g.t t=.tup [])->Region.wanted o (yielded ops a.tmps)=false):=by
 have hs:(ops[j]?).bind (·.dst)=some t:=by
  unfold Mb at ht
  rw[<-Array.getElem?_toList];exact ht
 have hr:=R.tm t
 have hy:∀b:Bool,a.tmps.getD t undef=.bool b->yielded ops a.tmps j=some b:=λb hb=>by
  unfold yielded
  rw[hs]
  simp only[Option.bind_some]
  rw[Array.getD_eq_getD_getElem?] at hb
  cases hx:a.tmps[t]? with
  |none=>rw[hx] at hb;simp[undef] at hb
  |some x=>rw[hx] at hb;simp at hb;subst hb;rfl
 refine⟨λh=> ?_,λh=> ?_⟩
 ·rw[h] at hr
  have:=hy want hr
  simp[Region.wanted,hg,this]
 ·rcases h with h|h
  ·rw[h] at hr
   have:=hy (!want) hr
   simp only[Region.wanted,hg,this]
   cases want<;>rfl
  ·rw[h] at hr
   obtain⟨arr,hx,aJA⟩:=hr
   have:yielded ops a.tmps j=none:=by
    unfold yielded
    rw[hs]
    simp only[Option.bind_some]
    rw[Array.getD_eq_getD_getElem?] at hx
    cases hy:a.tmps[t]? with
    |none=>rfl
    |some x=>rw[hy] at hx;simp at hx;subst hx;rfl
   simp only[Region.wanted,hg,this]
   rfl
theorem awJ (hE:∀f F,E f=some F->Sound P f F){ops:Array Oper}{i:Nat}{o:Oper}(hi:ops[i]? =some o){aJ:Nat}{us:List Up}{fp:List Fp}{g:Gt}(h:Y' P E ops.toList o aJ g us fp)
  {π:Pi}{a:Act}{w:World}(R:Rel X D π g a w)(hk:X.k<=aJ)(hfr:∀b,aJ<=b->b<aJ+ch us->π b=none)(hd:∀d,o.dst=some d->d<X.N)(hp:∀u∈us,u.perm X.k D){K:Act->World->Prop}{Q:Exit->Act->World->Prop}
  (hn:∀a' w' π',Ext π π'->(∀b,π' b≠none->π b≠none∨(aJ<=b∧b<aJ+ch us))->Rel X D π' (ck us g) a' w'->K a' w'):wpOp P ops Q i K a w:=by
 unfold wpOp
 rw[hi]
 simp only[]
 cases h with
 |run hg h=>
  have:Region.wanted o (yielded ops a.tmps)=true:=by simp[Region.wanted,hg]
  rw[if_pos this]
  exact .inl (aFg hE h π a w K Q R hk hfr hd hp hn)
 |aOK j want t hg ht hx h=>
  rw[if_pos ((aBx R hg ht).1 hx)]
  exact .inl (aFg hE h π a w K Q R hk hfr hd hp hn)
 |skip j want t hg ht hx=>
  rw[if_neg (by rw[(aBx R hg ht).2 hx];simp)]
  exact hn _ _ π (Ext.refl _) (λb h=>.inl h) (R.dst hd (apM π))
structure gA (X:Cx)(h0:List af)(π:Pi)(s:St)(a:Act)(w:World):Prop where
 rel:Rel X (·∈s.cS) π s.gt a w
 len:s.tmps.length=X.N
 dom:∀b,π b≠none->b<s.heap.length
 drt:∀b,b<X.k->b∉s.cS->s.bI b=h0[b]?
 hk:X.k<=s.heap.length
 dlt:∀b,b∈s.cS->b<X.k
theorem aGW.aTw {X:Cx}{h0:List af}{π π':Pi}{s s':St}{us:List Up}{a a':Act}{w w':World}(A:aGW X.k us s s')(R:gA X h0 π s a w)(hg:s'.gt=ck us s.gt)(hR:Rel X (·∈s'.cS) π' (ck us s.gt) a' w')
  (iW:∀b,π' b≠none->π b≠none∨(s.heap.length<=b∧b<s.heap.length+ch us))(hdl:∀b,b∈s'.cS->b<X.k):gA X h0 π' s' a' w':=by
 refine⟨hg▸hR,A.tmps.trans R.len,λb hb=> ?_,λb hb hn=> ?_,?_,hdl⟩
 ·rw[A.heap]
  rcases iW b hb with h|h
  ·have:=R.dom b h;omega
  ·omega
 ·rw[A.kY b hb (Nat.lt_of_lt_of_le hb R.hk) hn]
  exact R.drt b hb (λh=>hn (A.sub b h))
 ·rw[A.heap];have:=R.hk;omega
omit [ax] in
theorem aiA {k:Nat}:∀{us:List Up} {s s':St},iH k us s=some s'->(∀b,b∈s.cS->b<k)->∀b,b∈s'.cS->b<k
 | [],s,s',h,hd,b,hb=>by simp[iH] at h;subst h;exact hd b hb
 |u::us,s,s',h,hd,b,hb=>by
  simp only[iH] at h
  split at h
  ·refine aiA h (λb hb=> ?_) b hb
   cases u with
   |t i v=>exact hd b hb
   |c b' lo vs=>
    simp only[Up.app] at hb
    split at hb
    ·split at hb
     ·rcases yu.1 hb with h| ⟨rfl,h⟩
      ·exact hd b h
      ·exact h
     ·exact hd b hb
    ·exact hd b hb
   |new b' bI=>exact hd b hb
   |kill b'=>
    rcases yu.1 hb with h| ⟨rfl,h⟩
    ·exact hd b h
    ·exact h
  ·cases h
theorem awK (hE:∀f F,E f=some F->Sound P f F){h0:List af}{ops:Array Oper}{Q:Exit->Act->World->Prop}{s':St}(hQ:∀a' w' π',gA X h0 π' s' a' w'->Q .normal a' w'):
  ∀{rest:List Oper} {i:Nat} {s:St} {dg:List Tr} {π:Pi} {a:Act} {w:World},CA P E ops.toList X.k rest s dg s'->(∀j,rest[j]? =ops[i+j]?)->gA X h0 π s a w->wpOps P ops Q (List.range' i rest.length) a w
 | [],i,s,dg,π,a,w,h,_,R=>by
  cases h
  exact hQ a w π R
 |o::rest,i,s,dg,π,a,w,h,hr,R=>by
  cases h with|@cons _ _ _ s1 _ us fp tr dg hd h hus hfp ha ht=>
  have A:=HU ha
  have hg:=Mf ha
  have hio:ops[i]? =some o:=by simpa using(hr 0).symm
  rw[List.length_cons,List.range'_succ,wpOps_cons]
  refine awJ hE hio h (R.rel.aGR λb hb=>A.sub b hb) R.hk (λb h1 _=> ?_) (λd h=>by rw[<-R.len];exact hd d h) A.perm (λa' w' π' hx iW hR=> ?_)
  ·cases hb:π b with
   |none=>rfl
   |some p=>have:=R.dom b (by simp[hb]);omega
  ·exact awK hE hQ ht (λj=>by have:=hr (j+1);rw[show i+1+j=i+(j+1) by omega,<-this];simp) (A.aTw R hg hR iW (aiA ha R.dlt))
end
end Go.Ab
namespace Go.Ab
variable [ax]
def tch (us:List Up)(p:Pt):Prop:=∃u∈us,u.Fy p
def gl:List Tr->(Nat->Bool)->Nat->Gt->Gt
 | [],_,_,g=>g
 |tr::dg,L,i,g=>gl dg L (i+1) (if L i=true then ck tr.us g else g)
omit [ax] in
theorem aGX {p:Pt}:∀{dg:List Tr} {L L':Nat->Bool} {i:Nat} {g g':Gt},(∀(j:Nat) tr,dg[j]? =some tr->L (i+j)≠L' (i+j)->¬tch tr.us p)->g.at p=g'.at p->(gl dg L i g).at p=(gl dg L' i g').at p
 | [],_,_,_,_,_,_,h=>h
 |tr::dg,L,L',i,g,g',hd,h=>by
  simp only[gl]
  refine aGX (λj Mh hj kZ=>hd (j+1) Mh (by simpa using hj) (by rw[show i+(j+1)=i+1+j by omega];exact kZ)) ?_
  have h0:=hd 0 tr rfl
  rw[Nat.add_zero] at h0
  by_cases h1:L i=true<;>by_cases h2:L' i=true
  ·rw[if_pos h1,if_pos h2];exact adv (.inr h)
  ·rw[if_pos h1,if_neg h2]
   have:=h0 (by rw[h1];exact λe=>h2 e.symm)
   rw[oV λu hu ht=>this ⟨u,hu,ht⟩];exact h
  ·rw[if_neg h1,if_pos h2]
   have:=h0 (by rw[h2];exact h1)
   rw[oV λu hu ht=>this ⟨u,hu,ht⟩];exact h
  ·rw[if_neg h1,if_neg h2];exact h
omit [ax] in
theorem aBy:∀(a b:List Tr) (L:Nat->Bool) (i:Nat) (g:Gt),gl (a++b) L i g=gl b L (i+a.length) (gl a L i g)
 | [],b,L,i,g=>by simp[gl]
 |x::a,b,L,i,g=>by
  simp only[List.cons_append,gl,List.length_cons]
  rw[aBy a b,show i+1+a.length=i+(a.length+1) by omega]
omit [ax] in
theorem al7:∀{dg:List Tr} {L L':Nat->Bool} {i:Nat} {g:Gt},(∀j,j<dg.length->L (i+j)=L' (i+j))->gl dg L i g=gl dg L' i g
 | [],_,_,_,_,_=>rfl
 |tr::dg,L,L',i,g,h=>by
  simp only[gl]
  have:=h 0 (by simp)
  rw[Nat.add_zero] at this
  rw[this]
  exact al7 λj hj=>by have:=h (j+1) (by simp;omega);rwa [show i+(j+1)=i+1+j by omega] at this
omit [ax] in
theorem arF:∀{dg:List Tr} {L:Nat->Bool} {i:Nat} {g:Gt},(∀j,j<dg.length->L (i+j)=false)->gl dg L i g=g
 | [],_,_,_,_=>rfl
 |tr::dg,L,i,g,h=>by
  simp only[gl]
  have:=h 0 (by simp)
  rw[Nat.add_zero] at this
  rw[this]
  exact arF λj hj=>by have:=h (j+1) (by simp;omega);rwa [show i+(j+1)=i+1+j by omega] at this
omit [ax] in
theorem aTx {dg:List Tr}{L L':Nat->Bool}{i:Nat}{tr:Tr}{g:Gt}(hi:dg[i]? =some tr)(h0:L i=false)(h1:L' i=true)(hL:∀j,j≠i->L' j=L j)
  (hap:∀(j:Nat) Mh,i<j->dg[j]? =some Mh->L j=true->∀p,tch tr.us p->¬tch Mh.us p):gl dg L' 0 g=ck tr.us (gl dg L 0 g):=by
 have me:=(List.getElem?_eq_some_iff.1 hi).1
 have aVa:dg=dg.take i++(tr::dg.drop (i+1)):=by
  have e:dg[i]=tr:=(List.getElem?_eq_some_iff.1 hi).2
  rw[<-e,List.getElem_cons_drop,List.take_append_drop]
 have hlen:(dg.take i).length=i:=by simp;omega
 have key:∀M:Nat->Bool,gl dg M 0 g=gl (dg.drop (i+1)) M (i+1) (if M i=true then ck tr.us (gl (dg.take i) M 0 g) else gl (dg.take i) M 0 g):=λM=>by
  conv=>lhs;rw[aVa]
  rw[aBy,hlen,Nat.zero_add]
  rfl
 rw[key L',key L,if_pos h1,if_neg (by rw[h0];simp)]
 have e1:gl (dg.take i) L' 0 g=gl (dg.take i) L 0 g:=al7 λj hj=>by rw[hlen] at hj;exact hL _ (by omega)
 rw[e1]
 have e2:∀h,gl (dg.drop (i+1)) L' (i+1) h=gl (dg.drop (i+1)) L (i+1) h:=λh=>al7 λj _=>hL _ (by omega)
 rw[e2]
 apply Gt.aOB
 intro p
 have aW2:∀(j:Nat) Mh,(dg.drop (i+1))[j]? =some Mh->L (i+1+j)=true->∀p,tch tr.us p->¬tch Mh.us p:=λj Mh hj hl p hp=>by
  rw[List.getElem?_drop] at hj
  exact hap (i+1+j) Mh (by omega) hj hl p hp
 by_cases hp:tch tr.us p
 ·have a1:=aGX (p:=p) (dg:=dg.drop (i+1)) (L:=L) (L':=λ_=>false) (i:=i+1) (g:=ck tr.us (gl (dg.take i) L 0 g)) (g':=ck tr.us (gl (dg.take i) L 0 g)) (λj Mh hj kZ=>aW2 j Mh hj (by simpa using kZ) p hp) rfl
  rw[arF (L:=λ_=>false) (λ_ _=>rfl)] at a1
  rw[a1]
  exact adv (.inl hp)
 ·have W2:∀u∈tr.us,¬u.Fy p:=λu hu ht=>hp ⟨u,hu,ht⟩
  rw[oV W2]
  exact aGX (λj Mh _ kZ=>absurd rfl kZ) (oV W2)
omit [ax] in
theorem aBz (acc:List Nat)(i:Nat):∀(l:List Edge) (m:Nat),Nat.testBit (l.foldl (aMU acc) m) i=true->
  Nat.testBit m i=true∨∃e∈l,Region.binds .any e=true∧(e.on=i∨Nat.testBit (acc.getD e.on 0) i=true)
 | [],m,h=>.inl h
 |e::l,m,h=>by
  rw[List.foldl_cons] at h
  rcases aBz acc i l _ h with h1| ⟨e',he',h1⟩
  ·unfold aMU at h1
   cases hb:Region.binds .any e with
   |false=>rw[hb] at h1;exact .inl h1
   |true=>
    rw[hb] at h1
    simp only[Nat.testBit_or,Bool.or_eq_true,Nat.testBit_two_pow,decide_eq_true_eq] at h1
    rcases h1 with(h1|h1)|h1
    ·exact .inl h1
    ·exact .inr ⟨e,by simp,hb,.inl h1⟩
    ·exact .inr ⟨e,by simp,hb,.inr h1⟩
  ·exact .inr ⟨e',by simp[he'],h1⟩
omit [ax] in
theorem aBA:∀(l:List Oper) (acc:List Nat),∃t,Jy l acc=acc++t
 | [],acc=>⟨[],by simp[Jy]⟩
 |o::l,acc=>by
  obtain⟨t,ht⟩:=aBA l (acc++[mask acc o])
  exact⟨_,by rw[Jy,ht,List.append_assoc]⟩
omit [ax] in
theorem aBB {i:Nat}:∀(l:List Oper) (acc:List Nat) (j:Nat) (o:Oper),l[j]? =some o->(∀e∈o.after.toList,Region.binds .any e=true->e.on<acc.length+j)->Nat.testBit ((Jy l acc).getD (acc.length+j) 0) i=true->
  ∃e∈o.after.toList,Region.binds .any e=true∧(e.on=i∨(e.on<acc.length+j∧Nat.testBit ((Jy l acc).getD e.on 0) i=true))
 | [],_,j,o,h,_,_=>by simp at h
 |o0::l,acc,0,o,h,he,hb=>by
  simp at h;subst h
  obtain⟨t,ht⟩:=aBA l (acc++[mask acc o0])
  have hm:Jy (o0::l) acc=acc++[mask acc o0]++t:=by rw[Jy,ht]
  rw[hm] at hb ⊢
  simp only[Nat.add_zero,List.append_assoc,List.getD,List.getElem?_append_right (Nat.le_refl _),Nat.sub_self] at hb
  simp only[List.singleton_append,List.getElem?_cons_zero,Option.getD_some] at hb
  rcases aBz acc i _ 0 hb with h0| ⟨e,he',hbd,h1⟩
  ·simp at h0
  ·have me:=he e he' hbd
   rw[Nat.add_zero] at me
   refine⟨e,he',hbd,h1.imp id λh2=>⟨by omega,?_⟩⟩
   rw[List.append_assoc]
   simp only[List.getD] at h2 ⊢
   rw[List.getElem?_append_left me]
   exact h2
 |o0::l,acc,j+1,o,h,he,hb=>by
  have e1:acc.length+(j+1)=(acc++[mask acc o0]).length+j:=by simp;omega
  rw[Jy] at hb ⊢
  rw[e1] at hb he ⊢
  exact aBB l _ j o (by simpa using h) he hb
omit [ax] in
theorem Za:∀{l:List Oper} {i0:Nat},OA l i0=true->∀(j:Nat) o,l[j]? =some o->∀e∈o.after.toList,Region.binds .any e=true->e.on<i0+j
 | [],_,_,j,o,h,_,_,_=>by simp at h
 |o0::l,i0,hk,0,o,h,e,he,hb=>by
  simp at h;subst h
  simp only[OA,Bool.and_eq_true] at hk
  have:=List.all_eq_true.1 hk.1 e he
  rw[hb] at this
  simp only[Bool.not_true,Bool.false_or,Nat.blt_eq] at this
  omega
 |o0::l,i0,hk,j+1,o,h,e,he,hb=>by
  simp only[OA,Bool.and_eq_true] at hk
  have:=Za hk.2 j o (by simpa using h) e he hb
  omega
omit [ax] in
theorem Zb {ms:List Nat}:∀{l:List Tr} {j0:Nat},Oz ms l j0=true->∀(i j:Nat) x y,i<j->l[i]? =some x->l[j]? =some y->Nat.testBit (ms.getD (j0+j) 0) (j0+i)=true∨x.adm y=false
 | [],_,_,i,j,x,y,_,h,_=>by simp at h
 |x0::l,j0,hk,0,j,x,y,hij,hx,hy=>by
  simp at hx;subst hx
  simp only[Oz,Bool.and_eq_true] at hk
  obtain⟨j',rfl⟩:∃j',j=j'+1:=⟨j-1,by omega⟩
  have hy':l[j']? =some y:=by simpa using hy
  have hm:(y,j')∈l.zipIdx:=by
   rw[List.mem_iff_getElem?]
   exact⟨j',by simp[List.getElem?_zipIdx,hy']⟩
  have:=List.all_eq_true.1 hk.1 (y,j') hm
  simp only[Bool.or_eq_true,Bool.not_eq_true'] at this
  rw[show j0+(j'+1)=j0+1+j' by omega]
  exact this
 |x0::l,j0,hk,i+1,j,x,y,hij,hx,hy=>by
  simp only[Oz,Bool.and_eq_true] at hk
  obtain⟨j',rfl⟩:∃j',j=j'+1:=⟨j-1,by omega⟩
  have:=Zb hk.2 i j' x y (by omega) (by simpa using hx) (by simpa using hy)
  rw[show j0+(j'+1)=j0+1+j' by omega,show j0+(i+1)=j0+1+i by omega]
  exact this
omit [ax] in
theorem aPE {x y:Tr}{p:Pt}{f:Fp}(hf:f∈y.fp)(hp:f.has p)(ht:tch x.us p):x.adm y=true∧y.adm x=true:=by
 obtain⟨u,hu,ht⟩:=ht
 have h:=Fp.aA5 hp ht
 constructor
 ·unfold Tr.adm
  rw[Bool.or_eq_true];left
  refine List.any_eq_true.2 ⟨u,hu,?_⟩
  rw[Bool.or_eq_true];left
  exact List.any_eq_true.2 ⟨f,hf,h⟩
 ·unfold Tr.adm
  rw[Bool.or_eq_true];right
  refine List.any_eq_true.2 ⟨u,hu,?_⟩
  exact List.any_eq_true.2 ⟨f,hf,h⟩
omit [ax] in
theorem aPF {x y:Tr}{p:Pt}(h1:tch x.us p)(h2:tch y.us p):x.adm y=true:=by
 obtain⟨u,hu,ht⟩:=h1
 obtain⟨v,hv,hs⟩:=h2
 unfold Tr.adm
 rw[Bool.or_eq_true];left
 refine List.any_eq_true.2 ⟨u,hu,?_⟩
 rw[Bool.or_eq_true];right
 exact List.any_eq_true.2 ⟨v,hv,Up.aA5 hs ht⟩
def xO (dg:List Tr):List Up:=dg.flatMap Tr.us
omit [ax] in
theorem aNc:∀(dg:List Tr) (i j0:Nat) (g:Gt),gl dg (λj=>decide (j<j0+i)) j0 g=ck (xO (dg.take i)) g
 | [],i,j0,g=>by simp[gl,xO,ck]
 |tr::dg,0,j0,g=>by
  rw[arF (λj _=>by simp)]
  simp[xO,ck]
 |tr::dg,i+1,j0,g=>by
  simp only[gl]
  rw[if_pos (by simp)]
  have:=aNc dg i (j0+1) (ck tr.us g)
  rw[show j0+1+i=j0+(i+1) by omega] at this
  rw[this]
  simp[xO,ck]
omit [ax] in
theorem aVb {dg:List Tr}{L:Nat->Bool}{g:Gt}(h:∀i,i<dg.length->L i=true):gl dg L 0 g=ck (xO dg) g:=by
 have:=aNc dg dg.length 0 g
 rw[List.take_length] at this
 rw[<-this]
 exact al7 λj hj=>by simp[h j hj];omega
omit [ax] in
theorem aiB {k:Nat}:∀{us vs:List Up} {s s1 s2:St},iH k us s=some s1->iH k vs s1=some s2->iH k (us++vs) s=some s2
 | [],vs,s,s1,s2,h,h'=>by simp[iH] at h;subst h;exact h'
 |u::us,vs,s,s1,s2,h,h'=>by
  simp only[iH,List.cons_append] at h ⊢
  split at h
  ·rename_i hu;exact aiB h h'
  ·cases h
omit [ax] in
theorem CA.app {P:Program}{E:Env}{ops:List Oper}{k:Nat}:∀{rest:List Oper} {s s':St} {dg:List Tr},CA P E ops k rest s dg s'->iH k (xO dg) s=some s'∧dg.length=rest.length
 | [],s,s',dg,h=>by cases h;exact⟨rfl,rfl⟩
 |o::rest,s,s',dg,h=>by
  cases h with|@cons _ _ _ s1 _ us fp tr dg hd h hus hfp ha ht=>
  obtain⟨h1,h2⟩:=ht.app
  refine⟨?_,by simp[h2]⟩
  subst hus
  show iH k (tr.us++xO dg) s=some s'
  exact aiB ha h1
omit [ax] in
theorem CA.at {P:Program}{E:Env}{ops:List Oper}{k:Nat}:∀{rest:List Oper} {s s':St} {dg:List Tr},CA P E ops k rest s dg s'->∀(i:Nat) o,rest[i]? =some o->∃tr fp,dg[i]? =some tr∧(∀f∈fp,f∈tr.fp)∧
   Y' P E ops o (s.heap.length+ch (xO (dg.take i))) (ck (xO (dg.take i)) s.gt) tr.us fp∧(∀d,o.dst=some d->d<s.tmps.length)
 | [],_,_,_,_,i,o,h=>by simp at h
 |o0::rest,s,s',dg,h,i,o,ho=>by
  cases h with|@cons _ _ _ s1 _ us fp tr dg hd h hus hfp ha ht=>
  subst hus
  cases i with
  |zero=>
   simp at ho;subst ho
   exact⟨tr,fp,rfl,hfp,by simpa[xO,ch,ck] using h,hd⟩
  |succ i=>
   obtain⟨Mh,fp',e1,e2,e3,e4⟩:=ht.at i o (by simpa using ho)
   have A:=HU ha
   refine⟨Mh,fp',by simpa using e1,e2,?_,λd h=>by rw[<-A.tmps];exact e4 d h⟩
   have hc:ch (xO (List.take (i+1) (tr::dg)))=ch tr.us+ch (xO (dg.take i)):=by
    simp only[List.take_succ_cons,xO,List.flatMap_cons,Db]
   have hg:ck (xO (List.take (i+1) (tr::dg))) s.gt=ck (xO (dg.take i)) s1.gt:=by
    simp only[List.take_succ_cons,xO,List.flatMap_cons,NN]
    rw[Mf ha]
   rw[hc,hg,<-Nat.add_assoc,<-A.heap]
   exact e3
end Go.Ab
namespace Go.Ab
variable [ax]
section
variable {P:Program} {E:Env} {X:Cx}
omit [ax] in
theorem au1 (dg:List Tr){i j:Nat}(h:i<=j):ch (xO (dg.take i))<=ch (xO (dg.take j)):=by
 obtain⟨d,rfl⟩:∃d,j=i+d:=⟨j-i,by omega⟩
 rw[List.take_add,xO,xO,List.flatMap_append,Db]
 omega
omit [ax] in
theorem TH {dg:List Tr}{i:Nat}{tr:Tr}(h:dg[i]? =some tr):ch (xO (dg.take (i+1)))=ch (xO (dg.take i))+ch tr.us:=by
 have me:=(List.getElem?_eq_some_iff.1 h).1
 have he:=(List.getElem?_eq_some_iff.1 h).2
 rw[List.take_succ_eq_append_getElem me,he,xO,xO,List.flatMap_append,Db]
 simp
omit [ax] in
theorem anj {f f':Nat->Bool}{i:Nat}(h1:f i=true)(h2:f' i=false)(h:∀j,j≠i->f' j=f j):∀n,i<n->(List.range n).countP f=(List.range n).countP f'+1
 |0,hn=>by omega
 |n+1,hn=>by
  rw[List.range_succ,List.countP_append,List.countP_append]
  by_cases e:i=n
  ·subst e
   have:(List.range i).countP f=(List.range i).countP f':=by
    apply List.countP_congr
    intro j hj
    rw[h j (by have:=List.mem_range.1 hj;omega)]
   rw[this]
   simp[h1,h2]
  ·rw[anj h1 h2 h n (by omega),List.countP_singleton,List.countP_singleton,h n (Ne.symm e)]
   omega
theorem wpAny_all (hE:∀f F,E f=some F->Sound P f F){h0:List af}{ops:Array Oper}{Q:Exit->Act->World->Prop}{s s':St}{dg:List Tr}(hT:CA P E ops.toList X.k ops.toList s dg s')
  (he:OA ops.toList 0=true)(hp:Oz (Jy ops.toList []) dg 0=true)(hlen:s.tmps.length=X.N)(hsk:X.k<=s.heap.length)(hdl:∀b,b∈s.cS->b<X.k)(hdr:∀b,b<X.k->b∉s.cS->s.bI b=h0[b]?)
  (hQ:∀a' w' π',gA X h0 π' s' a' w'->Q .normal a' w'):
  ∀(fuel:Nat) (eB:Array Bool) (π:Pi) (a:Act) (w:World),eB.size=ops.size->(List.range ops.size).countP (λi=> !eB.getD i false)=fuel->
   (∀(j:Nat) o,ops[j]? =some o->eB.getD j false=true->∀e∈o.after,Region.binds .any e=true->eB.getD e.on false=true)->
   Rel X (·∈s'.cS) π (gl dg (λi=>eB.getD i false) 0 s.gt) a w->
   (∀b,π b≠none->b<s.heap.length∨∃(i:Nat) (tr:Tr),dg[i]? =some tr∧eB.getD i false=true∧s.heap.length+ch (xO (dg.take i))<=b∧b<s.heap.length+ch (xO (dg.take i))+ch tr.us)->
   wpAny P .any ops Q fuel eB a w:=by
 obtain⟨XA,htl⟩:=hT.app
 have A:=HU XA
 have hn:dg.length=ops.size:=by rw[htl];simp
 have bef:∀(eB:Array Bool),(∀(j:Nat) o,ops[j]? =some o->eB.getD j false=true->∀e∈o.after,Region.binds .any e=true->eB.getD e.on false=true)->
   ∀(j:Nat) (o:Oper) (i:Nat),ops[j]? =some o->(∀e∈o.after,Region.binds .any e=true->eB.getD e.on false=true)->Nat.testBit ((Jy ops.toList []).getD j 0) i=true->eB.getD i false=true:=by
  intro eB Cd j
  induction j using Nat.strongRecOn with
  |_ j ih=>
   intro o i ho aOL hb
   have ho':ops.toList[j]? =some o:=by rw[Array.getElem?_toList];exact ho
   obtain⟨e,he1,he2,h1⟩:=aBB ops.toList [] j o ho' (λe h1 h2=>by have:=Za he j o ho' e h1 h2;simpa using this) (by simpa using hb)
   have hl:=aOL e (Array.mem_toList_iff.1 he1) he2
   rcases h1 with rfl| ⟨me,h1⟩
   ·exact hl
   ·simp only[List.length_nil,Nat.zero_add] at me
    have hjs:j<ops.size:=(Array.getElem?_eq_some_iff.1 ho).1
    have hoe:ops[e.on]? =some (ops[e.on]'(by omega)):=Array.getElem?_eq_getElem _
    exact ih e.on me _ i hoe (Cd e.on _ hoe hl) h1
 intro fuel
 induction fuel with
 |zero=>
  intro eB π a w vS aOH Cd R iW
  have aJA:∀i,i<ops.size->eB.getD i false=true:=λi hi=>by
   have:=List.countP_eq_zero.1 aOH i (List.mem_range.2 hi)
   simpa using this
  refine⟨?_,hQ a w π ?_⟩
  ·unfold Region.ready
   rw[List.filter_eq_nil_iff]
   intro i hi
   have hi:=List.mem_range.1 hi
   have:=aJA i hi
   have e:eB.getD i true=true:=by
    simp only[Array.getD_eq_getD_getElem?,Array.getElem?_eq_getElem (show i<eB.size by omega),Option.getD_some] at this ⊢
    exact this
   rw[e];simp
  ·rw[aVb (λi hi=>aJA i (by omega))] at R
   refine⟨(Mf XA)▸R,A.tmps.trans hlen,λb hb=> ?_,λb hb hn'=> ?_,?_,aiA XA hdl⟩
   ·rw[A.heap]
    rcases iW b hb with h| ⟨i,tr,htr,_,_,h2⟩
    ·omega
    ·have h3:=TH htr
     have h4:=au1 dg (show i+1<=dg.length from(List.getElem?_eq_some_iff.1 htr).1)
     rw[List.take_length] at h4
     omega
   ·rw[A.kY b hb (by omega) hn']
    exact hdr b hb (λh=>hn' (A.sub b h))
   ·rw[A.heap];omega
 |succ fuel ih=>
  intro eB π a w vS aOH Cd R iW
  have aV7:∀i,i<ops.size->eB.getD i true=eB.getD i false:=λi hi=>by
   simp only[Array.getD_eq_getD_getElem?,Array.getElem?_eq_getElem (show i<eB.size by omega),Option.getD_some]
  refine⟨λhr=> ?_,λi hi=> ?_⟩
  ·exfalso
   have aJA:∀i,i<ops.size->eB.getD i false=true:=by
    intro i
    induction i using Nat.strongRecOn with
    |_ i ihi=>
     intro hi
     cases hl:eB.getD i false with
     |true=>rfl
     |false=>
      have ho:ops[i]? =some (ops[i]'hi):=Array.getElem?_eq_getElem _
      have aV8:i∈Region.ready .any ops eB:=mem_ready.2 ⟨by rw[aV7 i hi];exact hl,_,ho,λe he1 he2=>by
       have me:=Za he i _ (by rw[Array.getElem?_toList];exact ho) e (Array.mem_toList_iff.2 he1) he2
       exact ihi e.on (by omega) (by omega)⟩
      rw[hr] at aV8;cases aV8
   have:(List.range ops.size).countP (λi=> !eB.getD i false)=0:=List.countP_eq_zero.2 λi hi=>by rw[aJA i (List.mem_range.1 hi)];simp
   omega
  ·obtain⟨hun,o,ho,aOL⟩:=mem_ready.1 hi
   have his:i<ops.size:=(Array.getElem?_eq_some_iff.1 ho).1
   have aJB:eB.getD i false=false:=by rw[<-aV7 i his];exact hun
   obtain⟨tr,fp,htr,hfp,oB,hd⟩:=hT.at i o (by rw[Array.getElem?_toList];exact ho)
   have hG:ck (xO (dg.take i)) s.gt=gl dg (λj=>decide (j<i)) 0 s.gt:=by
    have:=aNc dg i 0 s.gt
    simp only[Nat.zero_add] at this
    exact this.symm
   rw[hG] at oB
   have aTy:∀(j:Nat) Mh,i<j->dg[j]? =some Mh->eB.getD j false=true->tr.adm Mh=true->False:=λj Mh hij hj hl hc=>by
    rcases Zb hp i j tr Mh hij htr hj with h|h
    ·simp only[Nat.zero_add] at h
     have hjs:j<ops.size:=by rw[<-hn];exact(List.getElem?_eq_some_iff.1 hj).1
     have hoj:ops[j]? =some (ops[j]'hjs):=Array.getElem?_eq_getElem _
     have:=bef eB Cd j _ i hoj (Cd j _ hoj hl) h
     rw[aJB] at this;cases this
    ·rw[hc] at h;cases h
   have aYo:=oB.local (g':=gl dg (λj=>eB.getD j false) 0 s.gt) (λf hf p aYp=>by
    refine aGX (λj Mh hj kZ=> ?_) rfl
    simp only[Nat.zero_add] at kZ
    intro ht
    have hc:=aPE (hfp f hf) aYp ht
    rcases Nat.lt_trichotomy j i with hji|hji|hji
    ·have hlj:eB.getD j false=false:=by
      cases h:eB.getD j false with
      |false=>rfl
      |true=>exact absurd (by rw[h];simp[hji]) kZ
     rcases Zb hp j i Mh tr hji hj htr with h|h
     ·simp only[Nat.zero_add] at h
      have:=bef eB Cd i o j ho aOL h
      rw[hlj] at this;cases this
     ·rw[hc.1] at h;cases h
    ·subst hji
     exact kZ (by rw[aJB];simp)
    ·have hlj:eB.getD j false=true:=by
      cases h:eB.getD j false with
      |true=>rfl
      |false=>exact absurd (by rw[h];simp;omega) kZ
     exact aTy j Mh hji hj hlj hc.2)
   have aW3:∀u∈tr.us,u∈xO dg:=λu hu=>List.mem_flatMap.2 ⟨tr,List.mem_of_getElem? htr,hu⟩
   refine awJ hE ho aYo R (by omega) (λb h1 h2=> ?_) (λd h=>by rw[<-hlen];exact hd d h) (λu hu=>A.perm u (aW3 u hu)) (λa' w' π' hx aW4 hR=> ?_)
   ·cases hb:π b with
    |none=>rfl
    |some p=>
     exfalso
     rcases iW b (by simp[hb]) with h| ⟨i',Mh,aTz,hl',h3,h4⟩
     ·omega
     ·rcases Nat.lt_trichotomy i' i with hii|hii|hii
      ·have e1:=TH aTz
       have e2:=au1 dg (show i'+1<=i from hii)
       omega
      ·subst hii;rw[aJB] at hl';cases hl'
      ·have e1:=TH htr
       have e2:=au1 dg (show i+1<=i' from hii)
       omega
   ·have aBC:∀j,(eB.setIfInBounds i true).getD j false=if j=i then true else eB.getD j false:=λj=>by
     simp only[Array.getD_eq_getD_getElem?]
     by_cases e:j=i
     ·subst e;simp[show j<eB.size by omega]
     ·rw[if_neg e,Array.getElem?_setIfInBounds_ne (Ne.symm e)]
    refine ih (eB.setIfInBounds i true) π' a' w' (by simp[vS]) ?_ (λj oj hoj hl e he1 he2=> ?_) ?_ (λb hb=> ?_)
    ·have:=anj (f:=λi=> !eB.getD i false) (f':=λj=> !(eB.setIfInBounds i true).getD j false) (i:=i) (by simp[aJB]) (by simp only[aBC];simp) (λj hj=>by simp only[aBC,if_neg hj]) ops.size his
     omega
    ·rw[aBC] at hl ⊢
     by_cases e1:e.on=i
     ·rw[if_pos e1]
     ·rw[if_neg e1]
      by_cases e2:j=i
      ·subst e2
       rw[ho] at hoj;cases hoj
       exact aOL e he1 he2
      ·rw[if_neg e2] at hl
       exact Cd j oj hoj hl e he1 he2
    ·rw[aTx (L:=λj=>eB.getD j false) (L':=λj=>(eB.setIfInBounds i true).getD j false) htr aJB (by simp only[aBC];simp) (λj hj=>by simp only[aBC,if_neg hj])
      (λj Mh hij hj hl p Fz hp2=>aTy j Mh hij hj hl (aPF Fz hp2))]
     exact hR
    ·rcases aW4 b hb with h| ⟨h1,h2⟩
     ·rcases iW b h with h| ⟨i',Mh,aTz,hl',h3,h4⟩
      ·exact .inl h
      ·refine .inr ⟨i',Mh,aTz,?_,h3,h4⟩
       rw[aBC];split<;>first|rfl|exact hl'
     ·exact .inr ⟨i,tr,htr,by rw[aBC,if_pos rfl],h1,h2⟩
theorem aGY (hE:∀f F,E f=some F->Sound P f F)(hm:P.follows .mixedOrders=true){h0:List af}{id:Nat}{ops:Array Oper}{Q:Exit->Act->World->Prop}{s s':St}{dg:List Tr}(hT:CA P E ops.toList X.k ops.toList s dg s')
  (he:OA ops.toList 0=true)(hp:Oz (Jy ops.toList []) dg 0=true){π:Pi}{a:Act}{w:World}(R:gA X h0 π s a w)(hQ:∀a' w' π',gA X h0 π' s' a' w'->Q .normal a' w'):(Code.region id ops true).wp P Q a w:=by
 refine wp_region_any hm ?_
 have hf:∀i,(Array.replicate ops.size false).getD i false=false:=λi=>by
  simp only[Array.getD_eq_getD_getElem?,Array.getElem?_replicate]
  split<;>rfl
 have A:=HU hT.app.1
 refine wpAny_all hE hT he hp R.len R.hk R.dlt R.drt hQ ops.size _ π a _ (by simp) ?_ (λj o _ hl=>by rw[hf] at hl;cases hl) ?_ (λb hb=>.inl (R.dom b hb))
 ·rw[List.countP_eq_length.2 λi _=>by rw[hf];rfl];simp
 ·rw[arF (λj _=>hf _)]
  exact(R.rel.aGR λb hb=>A.sub b hb).drew
theorem aGZ (hE:∀f F,E f=some F->Sound P f F){h0:List af}{id:Nat}{ops:Array Oper}{Q:Exit->Act->World->Prop}{s s':St}{dg:List Tr}(hT:CA P E ops.toList X.k ops.toList s dg s')
  {π:Pi}{a:Act}{w:World}(R:gA X h0 π s a w)(hQ:∀a' w' π',gA X h0 π' s' a' w'->Q .normal a' w'):(Code.region id ops false).wp P Q a w:=by
 refine wp_region ?_
 have:=awK hE hQ hT (i:=0) (λj=>by simp) R
 rw[List.range_eq_range']
 simpa using this
end
end Go.Ab
namespace Go.Ab
variable [ax]
def JK (π:Pi)(H:Nat)(m:List Nat):Pi:=λb=>if b<H then π b else match m[b-H]? with
 |some b0=>π b0
 |none=>none
def xP (m m':List Nat):Prop:=∃t,m'=m++t
omit [ax] in
theorem xP.refl (m:List Nat):xP m m:=⟨[],by simp⟩
omit [ax] in
theorem xP.trans {a b c:List Nat}(h:xP a b)(k:xP b c):xP a c:=by
 obtain⟨t,rfl⟩:=h;obtain⟨u,rfl⟩:=k;exact⟨t++u,by simp⟩
omit [ax] in
theorem xP.get {m m':List Nat}(h:xP m m'){j b:Nat}(hj:m[j]? =some b):m'[j]? =some b:=by
 obtain⟨t,rfl⟩:=h
 rw[List.getElem?_append_left (List.getElem?_eq_some_iff.1 hj).1,hj]
omit [ax] in
theorem xP.ext {π:Pi}{H:Nat}{m m':List Nat}(h:xP m m'):Ext (JK π H m) (JK π H m'):=by
 intro b p hp
 unfold JK at hp ⊢
 split
 ·rename_i hb;rw[if_pos hb] at hp;exact hp
 ·rename_i hb
  rw[if_neg hb] at hp
  cases hj:m[b-H]? with
  |none=>rw[hj] at hp;cases hp
  |some b0=>rw[h.get hj];rw[hj] at hp;exact hp
def MOk (H:Nat)(m:List Nat):Prop:=m.Nodup∧∀b∈m,H<=b
omit [ax] in
theorem aFh {b:Nat}:∀{m:List Nat} {i0 i:Nat},idx b m i0=some i->∃k,i=i0+k∧m[k]? =some b
 | [],_,_,h=>by simp[idx] at h
 |x::m,i0,i,h=>by
  simp only[idx] at h
  split at h
  ·rename_i hx
   cases h
   exact⟨0,rfl,by simp[Nat.eq_of_beq_eq_true hx]⟩
  ·obtain⟨k,h1,h2⟩:=aFh h
   exact⟨k+1,by omega,by simpa using h2⟩
omit [ax] in
theorem aFi {b:Nat}:∀{m:List Nat} {i0:Nat},idx b m i0=none->b∉m
 | [],_,_=>by simp
 |x::m,i0,h=>by
  simp only[idx] at h
  split at h
  ·cases h
  ·rename_i hx
   have:=aFi h
   simp only[List.mem_cons,not_or]
   exact⟨λe=>by subst e;simp at hx,this⟩
omit [ax] in
theorem aiC {H b:Nat}{m:List Nat}:xP m (aio H b m).2∧(MOk H m->MOk H (aio H b m).2)∧∀π,JK π H (aio H b m).2 (aio H b m).1=π b:=by
 unfold aio
 split
 ·rename_i hb
  have hb:=Nat.le_of_ble_eq_true hb
  split
  ·rename_i i hi
   obtain⟨k,h1,h2⟩:=aFh hi
   refine⟨xP.refl _,id,λπ=> ?_⟩
   unfold JK
   rw[if_neg (by omega),show H+i-H=k by omega,h2]
  ·rename_i hi
   have hnm:=aFi hi
   refine⟨⟨_,rfl⟩,λok=>⟨?_,λx hx=> ?_⟩,λπ=> ?_⟩
   ·rw[List.nodup_append]
    exact⟨ok.1,by simp,λx hx y hy e=>by simp at hy;subst hy;subst e;exact hnm hx⟩
   ·rcases List.mem_append.1 hx with h|h
    ·exact ok.2 x h
    ·simp at h;omega
   ·unfold JK
    rw[if_neg (by omega),show H+m.length-H=m.length by omega]
    simp
 ·rename_i hb
  have hb:b<H:=by
   rcases Nat.lt_or_ge b H with h|h
   ·exact h
   ·have:=Nat.ble_eq_true_of_le h;simp[this] at hb
  exact⟨xP.refl _,id,λπ=>by unfold JK;rw[if_pos hb]⟩
structure Gc {α:Type}(R:Pi->α->Value->Prop)(H:Nat)(a:α)(m:List Nat)(r:α×List Nat):Prop where
 pre:xP m r.2
 ok:MOk H m->MOk H r.2
 rel:∀π x,R π a x->R (JK π H r.2) r.1 x
theorem aFj (H:Nat)(c:CV)(m:List Nat):Gc CV.rel H c m (gcC H c m):=by
 cases c<;>simp only[gcC]
 case ptr b o n=>
  obtain⟨h1,h2,h3⟩:=aiC (H:=H) (b:=b) (m:=m)
  refine⟨h1,h2,λπ x ⟨B,s,q,e,hp,hx⟩=>⟨B,s,q,e,?_,hx⟩⟩
  rw[h3];exact hp
 case cl f b o n=>
  obtain⟨h1,h2,h3⟩:=aiC (H:=H) (b:=b) (m:=m)
  refine⟨h1,h2,λπ x ⟨B,s,q,e,hp,hx⟩=>⟨B,s,q,e,?_,hx⟩⟩
  rw[h3];exact hp
 case sl b o l z w=>
  obtain⟨h1,h2,h3⟩:=aiC (H:=H) (b:=b) (m:=m)
  exact⟨h1,h2,λπ x ⟨B,s,q,e,hp,hx⟩=>⟨B,s,q,e,by rw[h3];exact hp,hx⟩⟩
 all_goals exact⟨xP.refl _,id,λπ x hx=>hx⟩
omit [ax] in
theorem aJC {α:Type}{R R':α->Value->Prop}{as as':List α}{xs:List Value}(hl:as'.length=as.length)(h:∀(j:Nat) a a',as[j]? =some a->as'[j]? =some a'->∀x,R a x->R' a' x)(hx:bj R as xs):bj R' as' xs:=by
 refine bj.adu (by rw[hl];exact hx.length) λi a' x ha' hxi=> ?_
 obtain⟨a,ha,hr⟩:=hx.get' hxi
 exact h i a a' ha ha' x hr
omit [ax] in
theorem abe {α:Type}{R:Pi->α->Value->Prop}(mono:∀{π π':Pi},Ext π π'->∀a x,R π a x->R π' a x){f:α->List Nat->α×List Nat}{H:Nat}(hf:∀a m,Gc R H a m (f a m)):
  ∀(l:List α) (m:List Nat),xP m (Fx f l m).2∧(MOk H m->MOk H (Fx f l m).2)∧(Fx f l m).1.length=l.length∧∀(j:Nat) a a',l[j]? =some a->(Fx f l m).1[j]? =some a'->∀π x,R π a x->R (JK π H (Fx f l m).2) a' x
 | [],m=>⟨xP.refl _,id,rfl,λj a a' h=>by simp at h⟩
 |a::l,m=>by
  have G:=hf a m
  obtain⟨p1,p2,p3,p4⟩:=abe mono hf l (f a m).2
  refine⟨G.pre.trans p1,λok=>p2 (G.ok ok),by simp[Fx,p3],λj b b' hb eC π x hx=> ?_⟩
  cases j with
  |zero=>
   simp[Fx] at hb eC
   subst hb eC
   exact mono p1.ext _ _ (G.rel π x hx)
  |succ j=>exact p4 j b b' (by simpa using hb) (by simpa[Fx] using eC) π x hx
omit [ax] in
theorem aFk {α:Type}{R:Pi->α->Value->Prop}(mono:∀{π π':Pi},Ext π π'->∀a x,R π a x->R π' a x){f:α->List Nat->α×List Nat}{H:Nat}(hf:∀a m,Gc R H a m (f a m))(l:List α)(m:List Nat)(π:Pi)(xs:List Value)(h:bj (R π) l xs):bj (R (JK π H (Fx f l m).2)) (Fx f l m).1 xs:=by
 obtain⟨_,_,p3,p4⟩:=abe mono hf l m
 exact aJC p3 (λj a a' ha ha' x hr=>p4 j a a' ha ha' π x hr) h
theorem XG (H:Nat):∀(cs:af) (m:List Nat),xP m (Fx (gcS H) cs m).2∧(MOk H m->MOk H (Fx (gcS H) cs m).2)∧af.size (Fx (gcS H) cs m).1=af.size cs∧
  ∀π j x,j<af.size cs->(af.get cs j).rel π x->(af.get (Fx (gcS H) cs m).1 j).rel (JK π H (Fx (gcS H) cs m).2) x
 | [],m=>⟨xP.refl _,id,rfl,λπ j x hj=>by rw[af.jT] at hj;omega⟩
 |.c v::r,m=>by
  have G:=aFj H v m
  obtain⟨p1,p2,p3,p4⟩:=XG H r (gcC H v m).2
  have e:Fx (gcS H) (.c v::r) m=(.c (gcC H v m).1::(Fx (gcS H) r (gcC H v m).2).1,(Fx (gcS H) r (gcC H v m).2).2):=rfl
  rw[e]
  refine⟨G.pre.trans p1,λok=>p2 (G.ok ok),by rw[af.size_cons,af.size_cons,p3];rfl,λπ j x hj hx=> ?_⟩
  cases j with
  |zero=>exact CV.c7 p1.ext _ _ (G.rel π x hx)
  |succ j=>
   rw[<-af.je (l:=r) (j':=j) (by omega) (by omega)] at hx
   rw[<-af.je (l:=(Fx (gcS H) r (gcC H v m).2).1) (j':=j) (by omega) (by omega)]
   exact p4 π j x (by rw[af.size_cons,Sg.jd] at hj;omega) hx
 |.a n cols::r,m=>by
  obtain⟨p1,p2,p3,p4⟩:=XG H r m
  have e:Fx (gcS H) (.a n cols::r) m=(.a n cols::(Fx (gcS H) r m).1,(Fx (gcS H) r m).2):=rfl
  rw[e]
  refine⟨p1,p2,by rw[af.size_cons,af.size_cons,p3],λπ j x hj hx=> ?_⟩
  rw[af.size_cons] at hj
  by_cases jZ:j<(Sg.a n cols).size
  ·rw[af.de jZ,Sg.np] at hx ⊢
   obtain⟨v,hv⟩:=aAj cols j
   rw[hv] at hx ⊢
   exact hx
  ·rw[af.jx (by omega)] at hx ⊢
   exact p4 π _ x (by omega) hx
theorem abf (H:Nat)(r:RV)(m:List Nat):Gc RV.rel H r m (gcR H r m):=by
 cases r with
 |c c=>have G:=aFj H c m;exact⟨G.pre,G.ok,G.rel⟩
 |agg cs=>
  obtain⟨p1,p2,p3,p4⟩:=XG H cs m
  refine⟨p1,p2,λπ x ⟨a,hx,ha⟩=>⟨a,hx,?_⟩⟩
  obtain⟨l1,l2⟩:=hM ha
  refine vC (by rw[p3,l1]) λj hj=> ?_
  rw[p3] at hj
  obtain⟨y,hy,hr⟩:=l2 j hj
  exact⟨y,hy,p4 π j y hj hr⟩
theorem au2 (H:Nat)(r:AV)(m:List Nat):Gc AV.rel H r m (gcA H r m):=by
 cases r with
 |r c=>have G:=abf H c m;exact⟨G.pre,G.ok,G.rel⟩
 |tup cs=>
  obtain⟨p1,p2,_,_⟩:=abe (R:=RV.rel) (λh a x r=>RV.c7 h a x r) (abf H) cs m
  exact⟨p1,p2,λπ x ⟨a,hx,ha⟩=>⟨a,hx,aFk (R:=RV.rel) (λh a x r=>RV.c7 h a x r) (abf H) cs m π _ ha⟩⟩
 |fn f cs=>
  obtain⟨p1,p2,_,_⟩:=abe (R:=RV.rel) (λh a x r=>RV.c7 h a x r) (abf H) cs m
  exact⟨p1,p2,λπ x ⟨a,hx,ha⟩=>⟨a,hx,aFk (R:=RV.rel) (λh a x r=>RV.c7 h a x r) (abf H) cs m π _ ha⟩⟩
 |Tv=>exact⟨xP.refl _,id,λ_ _ _=>trivial⟩
structure GcB (H:Nat)(b b':Option af)(m':List Nat):Prop where
 size:b'.map af.size=b.map af.size
 rel:∀k k',b=some k->b'=some k'->∀π (j:Nat) x,j<af.size k->(af.get k j).rel π x->(af.get k' j).rel (JK π H m') x
theorem GcB.pre {H:Nat}{b b':Option af}{m m':List Nat}(h:GcB H b b' m)(p:xP m m'):GcB H b b' m':=
 ⟨h.size,λk k' e e' π j x hj hx=>CV.c7 p.ext _ _ (h.rel k k' e e' π j x hj hx)⟩
theorem aFl (H:Nat)(b:Option af)(m:List Nat):xP m (gcB H b m).2∧(MOk H m->MOk H (gcB H b m).2)∧GcB H b (gcB H b m).1 (gcB H b m).2:=by
 cases b with
 |none=>exact⟨xP.refl _,id,rfl,λk k' e=>by cases e⟩
 |some k=>
  obtain⟨p1,p2,p3,p4⟩:=XG H k m
  refine⟨p1,p2,⟨by simp only[gcB,Option.map_some,p3],λk1 k' e e' π j x hj hx=> ?_⟩⟩
  cases e;cases e'
  exact p4 π j x hj hx
theorem al8 (k:Nat)(d:List Nat)(H:Nat):∀(l:List (Option af)) (j0:Nat) (m:List Nat),xP m (gcO k d H l j0 m).2∧(MOk H m->MOk H (gcO k d H l j0 m).2)∧(gcO k d H l j0 m).1.length=l.length∧
  ∀(j:Nat) b b',l[j]? =some b->(gcO k d H l j0 m).1[j]? =some b'->(j0+j<k∧j0+j∉d∧b'=b)∨((j0+j<k->j0+j∉d->False)∧GcB H b b' (gcO k d H l j0 m).2)
 | [],j0,m=>⟨xP.refl _,id,rfl,λj b b' h=>by simp at h⟩
 |b0::l,j0,m=>by
  simp only[gcO]
  split
  ·rename_i hc
   simp only[Bool.and_eq_true,Nat.blt_eq,Bool.not_eq_true'] at hc
   obtain⟨p1,p2,p3,p4⟩:=al8 k d H l (j0+1) m
   refine⟨p1,p2,by simp[p3],λj b b' hb eC=> ?_⟩
   cases j with
   |zero=>
    simp at hb eC
    subst hb eC
    refine .inl ⟨hc.1,λhm=> ?_,rfl⟩
    have:=List.any_eq_false.1 hc.2 _ hm
    simp at this
   |succ j=>
    have:=p4 j b b' (by simpa using hb) (by simpa using eC)
    rw[show j0+1+j=j0+(j+1) by omega] at this
    exact this
  ·rename_i hc
   obtain⟨q1,q2,q3⟩:=aFl H b0 m
   obtain⟨p1,p2,p3,p4⟩:=al8 k d H l (j0+1) (gcB H b0 m).2
   refine⟨q1.trans p1,λok=>p2 (q2 ok),by simp[p3],λj b b' hb eC=> ?_⟩
   cases j with
   |zero=>
    simp at hb eC
    subst hb eC
    refine .inr ⟨λh1 h2=> ?_,q3.pre p1⟩
    have e1:Nat.blt j0 k=true:=by simpa using h1
    have e2:d.any (Nat.beq j0)=false:=by
     rw[List.any_eq_false]
     intro y hy he
     have:=Nat.eq_of_beq_eq_true he
     subst this;exact h2 hy
    rw[e1,e2] at hc;cases hc
   |succ j=>
    have:=p4 j b b' (by simpa using hb) (by simpa using eC)
    rw[show j0+1+j=j0+(j+1) by omega] at this
    exact this
theorem aFm (H:Nat)(heap:List (Option af)):∀(fuel i:Nat) (m:List Nat) (acc:List (Option af)) (z:List (Option af)×List Nat),gcN H heap fuel i m acc=some z->acc.length=i->i<=m.length->
  (∀(j:Nat) b b',m[j]? =some b->acc[j]? =some b'->GcB H ((heap[b]?).getD none) b' m)->
  xP m z.2∧(MOk H m->MOk H z.2)∧z.1.length=z.2.length∧∀(j:Nat) b b',z.2[j]? =some b->z.1[j]? =some b'->GcB H ((heap[b]?).getD none) b' z.2
 |0,_,_,_,_,h,_,_,_=>by simp[gcN] at h
 |fuel+1,i,m,acc,z,h,hi,hi2,aJw=>by
  simp only[gcN] at h
  split at h
  ·rename_i hn
   cases h
   have:m.length<=i:=List.getElem?_eq_none_iff.1 hn
   exact⟨xP.refl _,id,by simp;omega,aJw⟩
  ·rename_i b hb
   obtain⟨q1,q2,q3⟩:=aFl H ((heap[b]?).getD none) m
   have me:i<m.length:=(List.getElem?_eq_some_iff.1 hb).1
   have hlen:m.length<=(gcB H ((heap[b]?).getD none) m).2.length:=by obtain⟨t,ht⟩:=q1;rw[ht];simp
   obtain⟨p1,p2,p3,p4⟩:=aFm H heap fuel (i+1) _ _ z h (by simp[hi]) (by omega) (λj b1 b1' h1 h1'=>by
    rcases aBs h1' with h1'| ⟨hj,rfl⟩
    ·have hj:j<acc.length:=(List.getElem?_eq_some_iff.1 h1').1
     have hm:m[j]? =some b1:=by
      have e:m[j]? =some (m[j]'(by omega)):=List.getElem?_eq_getElem _
      rw[e];have:=q1.get e;rw[h1] at this;exact this.symm
     exact(aJw j b1 b1' hm h1').pre q1
    ·have:b1=b:=by
      rw[hj,hi] at h1
      have:=q1.get hb;rw[h1] at this;exact Option.some.inj this
     subst this
     exact q3)
   exact⟨q1.trans p1,λok=>p2 (q2 ok),p3,p4⟩
end Go.Ab
namespace Go.Ab
variable [ax]
section
variable {P:Program} {E:Env} {X:Cx}
structure In (X:Cx)(h0:List af):Prop where
 k:X.k=h0.length
 h:pZ X.p0 (hC (h0.map some)) (hZ (h0.map some)) X.w0
 d:∀b,X.p0 b≠none->b<X.k
theorem gA.same {h0:List af}{π:Pi}{s:St}{a:Act}{w:World}(I:In X h0)(R:gA X h0 π s a w){b:Nat}(hb:b<X.k)(hn:b∉s.cS){k:af}(hk:s.bI b=some k){B:Nat}{s0 q e:Nat}(hp:π b=some (B,s0,q,e)){j:Nat}(hj:j<af.size k):
  ∃v,cl w B (s0+j)=some v∧(af.get k j).rel X.p0 v:=by
 have h1:=R.drt b hb hn
 rw[hk] at h1
 have hz:hZ (h0.map some) b=some (af.size k):=by rw[NO,<-h1];rfl
 obtain⟨B',s',e',rX,hle,k1,k2⟩:=I.h.hp b _ hz
 rw[R.rel.vd b hb,rX] at hp
 cases hp
 obtain⟨v,hv,hr⟩:=k2 j hj
 rw[aAl h1.symm hj] at hr
 refine⟨v,?_,hr⟩
 rw[R.rel.fr.cl (Y7 (by rw[hv];rfl)),hv]
 rintro ⟨b2,s2,q2,e2,Da,hd2,hp2,i1,i2⟩
 have kZ:b2≠b:=λe=>hn (e▸hd2)
 have hz2:hZ (h0.map some) b2≠none:=by
  rw[NO]
  have:b2<h0.length:=by rw[<-I.k];exact Da
  rw[List.getElem?_eq_getElem this];simp
 exact I.h.dj b2 b B s2 q2 e2 s0 _ e kZ hz2 (by rw[hz];simp) hp2 rX (s0+j) i1 i2 (by omega) (by omega)
omit [ax] in
theorem aBD {l:List (Option af)}{b:Nat}(h:b<l.length):l[b]? =some ((l[b]?).getD none):=by
 rw[List.getElem?_eq_getElem h];rfl
theorem aJD {h0:List af}{π:Pi}{s:St}{a:Act}{w:World}(I:In X h0)(R:gA X h0 π s a w){H:Nat}(hH:X.k<=H)(hHl:H<=s.heap.length){m0:List Nat}(ok0:MOk H m0){z:List (Option af)×List Nat}
  (hz:gcN H s.heap 1000 0 (gcO X.k s.cS H (s.heap.take H) 0 m0).2 []=some z):
  xP m0 z.2∧pZ (JK π H z.2) (hC ((gcO X.k s.cS H (s.heap.take H) 0 m0).1++z.1)) (hZ ((gcO X.k s.cS H (s.heap.take H) 0 m0).1++z.1)) w∧
  ((gcO X.k s.cS H (s.heap.take H) 0 m0).1++z.1).length=H+z.2.length∧
  (∀b,b<H->b<X.k->b∉s.cS->(((gcO X.k s.cS H (s.heap.take H) 0 m0).1++z.1)[b]?).getD none=s.bI b)∧
  (∀b,hZ ((gcO X.k s.cS H (s.heap.take H) 0 m0).1++z.1) b≠none->(b<H∧s.gt.z b≠none)∨∃b0,H<=b∧z.2[b-H]? =some b0∧H<=b0∧s.gt.z b0≠none):=by
 obtain⟨o1,o2,o3,o4⟩:=al8 X.k s.cS H (s.heap.take H) 0 m0
 generalize hy:gcO X.k s.cS H (s.heap.take H) 0 m0=y at*
 obtain⟨n1,n2,n3,n4⟩:=aFm H s.heap 1000 0 y.2 [] z hz rfl (Nat.zero_le _) (λj b b' _ h=>by simp at h)
 have hyl:y.1.length=H:=by rw[o3];simp;omega
 have ok:=n2 (o2 ok0)
 have vd:∀b,b<H->∃x,y.1[b]? =some x∧(y.1++z.1)[b]? =some x∧(x=s.bI b∧b<X.k∧b∉s.cS∨(b<X.k->b∉s.cS->False)∧GcB H (s.bI b) x z.2):=λb hb=>by
  have h1:y.1[b]? =some (y.1[b]'(by omega)):=List.getElem?_eq_getElem _
  have h2:(s.heap.take H)[b]? =some (s.bI b):=by
   rw[List.getElem?_take,if_pos hb];exact aBD (by omega)
  refine⟨_,h1,by rw[List.getElem?_append_left (by omega)];exact h1,?_⟩
  have o5:=o4 b _ _ h2 h1
  simp only[Nat.zero_add] at o5
  rcases o5 with⟨q1,q2,q3⟩| ⟨q0,q⟩
  ·exact .inl ⟨q3,q1,q2⟩
  ·exact .inr ⟨q0,q.pre n1⟩
 have new:∀b,H<=b->b<H+z.2.length->∃b0 x,z.2[b-H]? =some b0∧H<=b0∧(y.1++z.1)[b]? =some x∧GcB H (s.bI b0) x z.2:=λb h1 h2=>by
  have e1:z.2[b-H]? =some (z.2[b-H]'(by omega)):=List.getElem?_eq_getElem _
  have e2:z.1[b-H]? =some (z.1[b-H]'(by omega)):=List.getElem?_eq_getElem _
  refine⟨_,_,e1,ok.2 _ (List.mem_of_getElem? e1),?_,n4 _ _ _ e1 e2⟩
  rw[List.getElem?_append_right (by omega),hyl];exact e2
 have len:(y.1++z.1).length=H+z.2.length:=by simp;omega
 have src:∀b n,hZ (y.1++z.1) b=some n->∃b0 k0 k,s.bI b0=some k0∧af.size k0=n∧(y.1++z.1)[b]? =some (some k)∧af.size k=n∧JK π H z.2 b=π b0∧((b<H∧b0=b)∨(H<=b∧z.2[b-H]? =some b0∧H<=b0))∧
   (k=k0∧b<X.k∧b∉s.cS∧b0=b∨∀(j:Nat) x,j<af.size k0->(af.get k0 j).rel π x->(af.get k j).rel (JK π H z.2) x):=λb n hn=>by
  have hbl:b<H+z.2.length:=by
   rw[<-len]
   rcases Nat.lt_or_ge b (y.1++z.1).length with h|h
   ·exact h
   ·simp only[hZ,List.getElem?_eq_none h] at hn;cases hn
  rcases Nat.lt_or_ge b H with hb|hb
  ·obtain⟨x,h1,h2,h3⟩:=vd b hb
   simp only[hZ,h2,Option.getD_some] at hn
   cases x with
   |none=>cases hn
   |some k=>
    have hkn:af.size k=n:=by simpa using hn
    have hpi:JK π H z.2 b=π b:=by unfold JK;rw[if_pos hb]
    rcases h3 with⟨q1,q2,q3⟩| ⟨_,q⟩
    ·exact⟨b,k,k,q1.symm,hkn,h2,hkn,hpi,.inl ⟨hb,rfl⟩,.inl ⟨rfl,q2,q3,rfl⟩⟩
    ·have hs:=q.size
     cases OD:s.bI b with
     |none=>rw[OD] at hs;cases hs
     |some k0=>
      rw[OD] at hs q
      have:af.size k=af.size k0:=by simpa using hs
      exact⟨b,k0,k,OD,by omega,h2,hkn,hpi,.inl ⟨hb,rfl⟩,.inr λj x hj hx=>q.rel k0 k rfl rfl π j x hj hx⟩
  ·obtain⟨b0,x,h1,h2,h3,q⟩:=new b hb hbl
   simp only[hZ,h3,Option.getD_some] at hn
   cases x with
   |none=>cases hn
   |some k=>
    have hkn:af.size k=n:=by simpa using hn
    have hpi:JK π H z.2 b=π b0:=by unfold JK;rw[if_neg (by omega),h1]
    have hs:=q.size
    cases OD:s.bI b0 with
    |none=>rw[OD] at hs;cases hs
    |some k0=>
     rw[OD] at hs q
     have:af.size k=af.size k0:=by simpa using hs
     exact⟨b0,k0,k,OD,by omega,h3,hkn,hpi,.inr ⟨hb,h1,h2⟩,.inr λj x hj hx=>q.rel k0 k rfl rfl π j x hj hx⟩
 refine⟨o1.trans n1,⟨R.rel.hp.am,λb B s1 q1 e1 hz1 Fz zn=> ?_,λb n hn=> ?_,λb b' B s1 q1 e1 s2 q2 e2 kZ hz1 hz2 Fz hp2 i i1 i2 i3 i4=> ?_⟩,len,λb hb Y8 hnd=> ?_,λb hb=> ?_⟩
 ·cases hn1:hZ (y.1++z.1) b with
  |none=>exact absurd hn1 hz1
  |some n=>
   obtain⟨b0,k0,k,h1,h2,h3,h4,h5,h6,h7⟩:=src b n hn1
   have LA:s.gt.z b0=some (af.size k0):=St.ang h1
   rw[h5] at Fz
   exact R.rel.hp.lb b0 B s1 q1 e1 (by rw[LA];simp) Fz zn
 ·obtain⟨b0,k0,k,h1,h2,h3,h4,h5,h6,h7⟩:=src b n hn
  have LA:s.gt.z b0=some (af.size k0):=St.ang h1
  obtain⟨B,s1,e1,hp,hle,m1,m2⟩:=R.rel.hp.hp b0 _ LA
  refine⟨B,s1,e1,by rw[h5,<-h2];exact hp,by omega,m1,λj hj=> ?_⟩
  rw[adH h3 (by omega)]
  rcases h7 with⟨rfl,q1,q2,rfl⟩|q
  ·obtain⟨v,hv,hr⟩:=R.same I q1 q2 h1 hp (j:=j) (by omega)
   refine⟨v,hv,CV.c7 (λb p hbp=> ?_) _ _ hr⟩
   have Y8:=I.d b (by rw[hbp];simp)
   unfold JK
   rw[if_pos (by omega),R.rel.vd b Y8];exact hbp
  ·obtain⟨v,hv,hr⟩:=m2 j (by omega)
   rw[St.aOC h1 (by omega)] at hr
   exact⟨v,hv,q j v (by omega) hr⟩
 ·cases hn1:hZ (y.1++z.1) b with
  |none=>exact hz1 hn1
  |some n=>
  cases hn2:hZ (y.1++z.1) b' with
  |none=>exact hz2 hn2
  |some n'=>
  obtain⟨b0,k0,k,h1,_,_,_,h5,h6,_⟩:=src b n hn1
  obtain⟨b0',k0',k',h1',_,_,_,h5',h6',_⟩:=src b' n' hn2
  rw[h5] at Fz
  rw[h5'] at hp2
  have aYq:b0≠b0':=by
   intro e
   subst e
   rcases h6 with⟨q1,q2⟩| ⟨q1,q2,q3⟩<;>rcases h6' with⟨r1,r2⟩| ⟨r1,r2,r3⟩
   ·exact kZ (q2.symm.trans r2)
   ·omega
   ·omega
   ·obtain⟨l1,g1⟩:=List.getElem?_eq_some_iff.1 q2
    obtain⟨l2,g2⟩:=List.getElem?_eq_some_iff.1 r2
    have:=List.pairwise_iff_getElem.1 ok.1
    rcases Nat.lt_trichotomy (b-H) (b'-H) with h|h|h
    ·exact this _ _ l1 l2 h (g1.trans g2.symm)
    ·omega
    ·exact this _ _ l2 l1 h (g2.trans g1.symm)
  exact R.rel.hp.dj b0 b0' B s1 q1 e1 s2 q2 e2 aYq (by rw[St.ang h1];simp) (by rw[St.ang h1'];simp) Fz hp2 i i1 i2 i3 i4
 ·obtain⟨x,h1,h2,h3⟩:=vd b hb
  rw[h2]
  rcases h3 with⟨q1,_⟩| ⟨q0,_⟩
  ·exact q1
  ·exact(q0 Y8 hnd).elim
 ·cases hn:hZ (y.1++z.1) b with
  |none=>exact absurd hn hb
  |some n=>
   obtain⟨b0,k0,k,h1,_,_,_,_,h6,_⟩:=src b n hn
   rcases h6 with⟨q1,rfl⟩| ⟨q1,q2,q3⟩
   ·exact .inl ⟨q1,by rw[St.ang h1];simp⟩
   ·exact .inr ⟨b0,q1,q2,q3,by rw[St.ang h1];simp⟩
end
end Go.Ab
namespace Go.Ab
variable [ax]
section
variable {P:Program} {E:Env} {X:Cx} {h0:List af} {π:Pi} {s s':St} {a:Act} {w:World}
theorem gA.gc (I:In X h0)(R:gA X h0 π s a w){H:Nat}(hH:X.k<=H)(h:s.gc X.k H=some s'):∃π',gA X h0 π' s' a w:=by
 unfold St.gc at h
 split at h
 ·cases h
 rename_i hb
 have hHl:H<=s.heap.length:=Nat.le_of_ble_eq_true hb
 simp only at h
 split at h
 ·rename_i z hz
  obtain⟨p1,p2,p3,p4⟩:=abe (R:=AV.rel) (λh a x r=>AV.c7 h a x r) (au2 H) s.tmps []
  have ok0:MOk H (Fx (gcA H) s.tmps []).2:=p2 ⟨List.nodup_nil,λ_ h=>by cases h⟩
  obtain⟨q1,q2,q3,q4,q5⟩:=aJD I R hH hHl ok0 hz
  cases h
  refine⟨JK π H z.2,⟨⟨λi=> ?_,R.rel.nt,R.rel.df,q2,λb hb=> ?_,λb B s1 qq e hkb hzb hp hB i i1 i2=> ?_,R.rel.fr⟩,p3.trans R.len,λb hb=> ?_,λb hb hn=> ?_,?_,R.dlt⟩⟩
  ·show(aik (Fx (gcA H) s.tmps []).1 i).rel _ _
   rw[ym]
   have hr:(aik s.tmps i).rel π (a.tmps.getD i undef):=R.rel.tm i
   rw[ym] at hr
   rcases Nat.lt_or_ge i s.tmps.length with hi|hi
   ·have e1:s.tmps[i]? =some (s.tmps[i]'hi):=List.getElem?_eq_getElem _
    have e2:(Fx (gcA H) s.tmps []).1[i]? =some ((Fx (gcA H) s.tmps []).1[i]'(by omega)):=List.getElem?_eq_getElem _
    have hr:(s.tmps.getD i Y3).rel π (a.tmps.getD i undef):=hr
    simp only[List.getD,e1,Option.getD_some] at hr
    simp only[List.getD,e2,Option.getD_some]
    exact AV.c7 q1.ext _ _ (p4 i _ _ e1 e2 π _ hr)
   ·have hr:(s.tmps.getD i Y3).rel π (a.tmps.getD i undef):=hr
    simp only[List.getD,List.getElem?_eq_none hi,Option.getD_none] at hr
    simp only[List.getD,List.getElem?_eq_none (show(Fx (gcA H) s.tmps []).1.length<=i by omega),Option.getD_none]
    exact(au2 H Y3 z.2).rel π _ hr
  ·unfold JK;rw[if_pos (by omega)];exact R.rel.vd b hb
  ·rcases q5 b hzb with⟨hbH,LA⟩| ⟨b0,hbH,hm,OD,LA⟩
   ·unfold JK at hp;rw[if_pos hbH] at hp
    exact R.rel.ft b B s1 qq e hkb LA hp hB i i1 i2
   ·unfold JK at hp;rw[if_neg (by omega),hm] at hp
    exact R.rel.ft b0 B s1 qq e (by omega) LA hp hB i i1 i2
  ·show b<(_++_:List (Option af)).length
   rw[q3]
   unfold JK at hb
   split at hb
   ·omega
   ·cases hm:z.2[b-H]? with
    |none=>rw[hm] at hb;exact absurd rfl hb
    |some b0=>have:=(List.getElem?_eq_some_iff.1 hm).1;omega
  ·exact(q4 b (by omega) hb hn).trans (R.drt b hb hn)
  ·show X.k<=(_++_:List (Option af)).length
   rw[q3];omega
 ·cases h
theorem gA.aW5 (R:gA X h0 π s a w)(t:Nat):gA X h0 π {s with tmps:=s.tmps.set t Tv} a w:=by
 refine⟨⟨λi=> ?_,R.rel.nt,R.rel.df,R.rel.hp,R.rel.vd,R.rel.ft,R.rel.fr⟩,by simpa using R.len,R.dom,R.drt,R.hk,R.dlt⟩
 show(aik (s.tmps.set t Tv) i).rel π _
 rw[ym]
 simp only[List.getD,List.getElem?_set]
 have hr:(aik s.tmps i).rel π (a.tmps.getD i undef):=R.rel.tm i
 rw[ym] at hr
 split
 ·split
  ·trivial
  ·rename_i h1 h2
   subst h1
   simpa only[List.getD,List.getElem?_eq_none (show s.tmps.length<=t by omega)] using hr
 ·exact hr
theorem gA.aAV:∀(l:List Nat) {s:St},gA X h0 π s a w->gA X h0 π {s with tmps:=l.foldl (λl t=>l.set t Tv) s.tmps} a w
 | [],_,R=>R
 |t::l,_,R=>gA.aAV l (R.aW5 t)
omit [ax] in
theorem aVc {i:Nat}{c:CV}(h:s.tmp i=.r (.c c)):i<s.tmps.length:=by
 rcases Nat.lt_or_ge i s.tmps.length with hi|hi
 ·exact hi
 ·simp only[St.tmp,ym,List.getD,List.getElem?_eq_none hi,Option.getD_none,Y3] at h;cases h
omit [ax] in
theorem au3 [ax]{π:Pi}{c:CV}{v:Value}(h:c.rel π v):(aE4 c).rel π v:=by
 unfold aE4
 split
 ·split
  ·rename_i b len z own c0
   simpa[CV.rel,cg.val] using h
  ·exact h
 ·exact h
omit [ax] in
theorem adI (g:CV->CV)(s:Sg):(aAW g s).size=s.size:=by
 cases s<;>rfl
omit [ax] in
theorem au4 (g:CV->CV):∀b:af,af.size (b.map (aAW g))=af.size b
 | []=>rfl
 |s::l=>by
  rw[List.map_cons,af.size_cons,af.size_cons,adI,au4 g l]
theorem aPG {g:CV->CV}{π:Pi}(hg:∀c v,CV.rel π c v->CV.rel π (g c) v){s:Sg}{j:Nat}{v:Value}(h:(s.get j).rel π v):((aAW g s).get j).rel π v:=by
 cases s with
 |c x=>
  cases j with
  |zero=>exact hg _ _ h
  |succ j=>exact h
 |a n cols=>exact h
theorem aJE {g:CV->CV}{π:Pi}(hg:∀c v,CV.rel π c v->CV.rel π (g c) v){v:Value}:∀(b:af) (j:Nat),(af.get b j).rel π v->(af.get (b.map (aAW g)) j).rel π v
 | [],_,h=>h
 |s::l,j,h=>by
  rw[List.map_cons]
  by_cases hj:j<s.size
  ·rw[af.de hj] at h
   rw[af.de (by rw[adI];exact hj)]
   exact aPG hg h
  ·rw[af.jx (by omega)] at h
   rw[af.jx (by rw[adI];omega),adI]
   exact aJE hg l _ h
theorem aPH {g:CV->CV}{π:Pi}(hg:∀c v,CV.rel π c v->CV.rel π (g c) v){a:AV}{v:Value}(h:a.rel π v):(mapA g a).rel π v:=by
 unfold mapA
 split
 ·exact hg _ _ h
 ·exact h
omit [ax] in
theorem arG (g:CV->CV)(k:Nat)(d:List Nat):∀(l:List (Option af)) (j:Nat),(afW g k d l j).length=l.length
 | [],_=>rfl
 |b::l,j=>by simp[afW,arG g k d l (j+1)]
omit [ax] in
theorem aFn (g:CV->CV)(k:Nat)(d:List Nat):∀(l:List (Option af)) (j i:Nat),((afW g k d l j)[i]?).getD none=(l[i]?).getD none∨(¬(j+i<k∧j+i∉d)∧∃b,(l[i]?).getD none=some b∧((afW g k d l j)[i]?).getD none=some (b.map (aAW g)))
 | [],_,_=>.inl rfl
 |b::l,j,0=>by
  unfold afW
  cases hc:Nat.blt j k&& !d.any (Nat.beq j) with
  |true=>exact .inl rfl
  |false=>
   cases b with
   |none=>exact .inl rfl
   |some b=>
    refine .inr ⟨λh=> ?_,b,rfl,rfl⟩
    have h1:Nat.blt j k=true:=rL.2 h.1
    have h2:d.any (Nat.beq j)=false:=by
     cases hd:d.any (Nat.beq j) with
     |false=>rfl
     |true=>
      obtain⟨x,hx,he⟩:=List.any_eq_true.1 hd
      have:=Nat.eq_of_beq_eq_true he
      subst this
      exact absurd hx h.2
    rw[h1,h2] at hc
    cases hc
 |b::l,j,i+1=>by
  have:=aFn g k d l (j+1) i
  rw[show j+1+i=j+(i+1) by omega] at this
  exact this
theorem gA.aV9 (R:gA X h0 π s a w)(g:CV->CV)(hg:∀c v,CV.rel π c v->CV.rel π (g c) v):gA X h0 π {s with tmps:=s.tmps.map (mapA g),heap:=afW g X.k s.cS s.heap 0} a w:=by
 have hb:∀b,St.bI {s with tmps:=s.tmps.map (mapA g),heap:=afW g X.k s.cS s.heap 0} b=s.bI b∨(¬(b<X.k∧b∉s.cS)∧∃k,s.bI b=some k∧St.bI {s with tmps:=s.tmps.map (mapA g),heap:=afW g X.k s.cS s.heap 0} b=some (k.map (aAW g))):=λb=>by
  have:=aFn g X.k s.cS s.heap 0 b
  rw[Nat.zero_add] at this
  exact this
 generalize TB:({s with tmps:=s.tmps.map (mapA g),heap:=afW g X.k s.cS s.heap 0}:St)=s2 at hb
 have hz:s2.gt.z=s.gt.z:=by
  funext b
  show(s2.bI b).map af.size=(s.bI b).map af.size
  rcases hb b with h| ⟨_,k,h1,h2⟩
  ·rw[h]
  ·rw[h1,h2];simp[au4]
 have hc:∀b j v,(s.gt.c b j).rel π v->(s2.gt.c b j).rel π v:=λb j v h=>by
  rcases hb b with e| ⟨_,k,h1,h2⟩
  ·show(match s2.bI b with|some k=>if j<k.size then k.get j else .f .u|none=>.f .u:CV).rel π v
   rw[e];exact h
  ·have h:(match s.bI b with|some k=>if j<k.size then k.get j else .f .u|none=>.f .u:CV).rel π v:=h
   show(match s2.bI b with|some k=>if j<k.size then k.get j else .f .u|none=>.f .u:CV).rel π v
   rw[h1] at h
   rw[h2]
   simp only[au4] at h ⊢
   split
   ·rename_i hj
    rw[if_pos hj] at h
    exact aJE hg k j h
   ·rename_i hj
    rw[if_neg hj] at h
    exact h
 have hd2:s2.cS=s.cS:=by rw[<-TB]
 have hl2:s2.heap.length=s.heap.length:=by rw[<-TB];exact arG _ _ _ _ _
 refine⟨⟨λi=> ?_,R.rel.nt,R.rel.df,⟨R.rel.hp.am,?_,λb n hn=> ?_,?_⟩,R.rel.vd,?_,?_⟩,?_,λb eC=> ?_,λb Y8 hn=> ?_,?_,?_⟩
 ·have hr:(aik s.tmps i).rel π (a.tmps.getD i undef):=R.rel.tm i
  show(aik s2.tmps i).rel π _
  rw[<-TB]
  rw[ym] at hr
  rw[ym]
  simp only[List.getD,List.getElem?_map] at hr ⊢
  cases he:s.tmps[i]? with
  |none=>rw[he] at hr;exact hr
  |some x=>rw[he] at hr;exact aPH hg hr
 ·rw[hz];exact R.rel.hp.lb
 ·rw[hz] at hn
  obtain⟨B,s1,e,h1,h2,h3,h4⟩:=R.rel.hp.hp b n hn
  exact⟨B,s1,e,h1,h2,h3,λj hj=>let⟨v,hv,hr⟩:=h4 j hj;⟨v,hv,hc b j v hr⟩⟩
 ·rw[hz];exact R.rel.hp.dj
 ·rw[hz];intro b B s1 q e;rw[hd2];exact R.rel.ft b B s1 q e
 ·rw[hd2];exact R.rel.fr
 ·rw[<-TB];simpa using R.len
 ·rw[hl2];exact R.dom b eC
 ·rw[hd2] at hn
  rcases hb b with e| ⟨h,_⟩
  ·exact e.trans (R.drt b Y8 hn)
  ·exact absurd ⟨Y8,hn⟩ h
 ·rw[hl2];exact R.hk
 ·rw[hd2];exact R.dlt
theorem aFo {π:Pi}{c:CV}{v:Value}(h:c.rel π v):(aTa c).rel π v:=by
 unfold aTa
 split
 ·simpa[CV.rel,Sz.val] using h
 ·exact h
theorem aPI {π:Pi}{a:AV}{v:Value}(h:a.rel π v):(aAX a).rel π v:=by
 unfold aAX
 split
 ·exact aFo (au3 h)
 ·exact h
omit [ax] in
theorem adJ (s:Sg):(aE5 s).size=s.size:=by
 cases s<;>rfl
omit [ax] in
theorem XH:∀b:af,af.size (b.map aE5)=af.size b
 | []=>rfl
 |s::l=>by
  rw[List.map_cons,af.size_cons,af.size_cons,adJ,XH l]
theorem aPJ {π:Pi}{s:Sg}{j:Nat}{v:Value}(h:(s.get j).rel π v):((aE5 s).get j).rel π v:=by
 cases s with
 |c x=>
  cases j with
  |zero=>exact aFo (au3 h)
  |succ j=>exact h
 |a n cols=>exact h
theorem apS {π:Pi}{v:Value}:∀(b:af) (j:Nat),(af.get b j).rel π v->(af.get (b.map aE5) j).rel π v
 | [],_,h=>h
 |s::l,j,h=>by
  rw[List.map_cons]
  by_cases hj:j<s.size
  ·rw[af.de hj] at h
   rw[af.de (by rw[adJ];exact hj)]
   exact aPJ h
  ·rw[af.jx (by omega)] at h
   rw[af.jx (by rw[adJ];omega),adJ]
   exact apS l _ h
omit [ax] in
theorem aBE (l:List (Nat×Nat))(j:Nat)(b:af):af.size (aAY l j b)=af.size b:=by
 unfold aAY
 split
 ·rw[(auS _).1,(Xw _ _).1,XH]
 ·rw[XH]
theorem aPK {π:Pi}{v:Value}(l:List (Nat×Nat))(j:Nat)(b:af)(i:Nat)(hi:i<af.size b)(h:(af.get b i).rel π v):(af.get (aAY l j b) i).rel π v:=by
 unfold aAY
 split
 ·rw[(auS _).2,(Xw _ _).2 i (by rw[XH];exact hi)]
  exact apS b i h
 ·exact apS b i h
omit [ax] in
theorem arH (k:Nat)(d:List Nat)(sl:List (Nat×Nat)):∀(l:List (Option af)) (j:Nat),(aip k d sl l j).length=l.length
 | [],_=>rfl
 |b::l,j=>by simp[aip,arH k d sl l (j+1)]
omit [ax] in
theorem aFp (k:Nat)(d:List Nat)(sl:List (Nat×Nat)):∀(l:List (Option af)) (j i:Nat),((aip k d sl l j)[i]?).getD none=(l[i]?).getD none∨(¬(j+i<k∧j+i∉d)∧∃b,(l[i]?).getD none=some b∧((aip k d sl l j)[i]?).getD none=some (aAY sl (j+i) b))
 | [],_,_=>.inl rfl
 |b::l,j,0=>by
  unfold aip
  cases hc:Nat.blt j k&& !d.any (Nat.beq j) with
  |true=>exact .inl rfl
  |false=>
   cases b with
   |none=>exact .inl rfl
   |some b=>
    refine .inr ⟨λh=> ?_,b,rfl,rfl⟩
    have h1:Nat.blt j k=true:=rL.2 h.1
    have h2:d.any (Nat.beq j)=false:=by
     cases hd:d.any (Nat.beq j) with
     |false=>rfl
     |true=>
      obtain⟨x,hx,he⟩:=List.any_eq_true.1 hd
      have:=Nat.eq_of_beq_eq_true he
      subst this
      exact absurd hx h.2
    rw[h1,h2] at hc
    cases hc
 |b::l,j,i+1=>by
  have:=aFp k d sl l (j+1) i
  rw[show j+1+i=j+(i+1) by omega] at this
  exact this
theorem gA.rows (R:gA X h0 π s a w):gA X h0 π {s with tmps:=s.tmps.map aAX,heap:=aip X.k s.cS (sls s) s.heap 0} a w:=by
 have hb:∀b,St.bI {s with tmps:=s.tmps.map aAX,heap:=aip X.k s.cS (sls s) s.heap 0} b=s.bI b∨(¬(b<X.k∧b∉s.cS)∧∃k,s.bI b=some k∧St.bI {s with tmps:=s.tmps.map aAX,heap:=aip X.k s.cS (sls s) s.heap 0} b=some (aAY (sls s) b k)):=λb=>by
  have:=aFp X.k s.cS (sls s) s.heap 0 b
  rw[Nat.zero_add] at this
  exact this
 generalize sls s=sl at hb ⊢
 generalize TB:({s with tmps:=s.tmps.map aAX,heap:=aip X.k s.cS sl s.heap 0}:St)=s2 at hb
 have hz:s2.gt.z=s.gt.z:=by
  funext b
  show(s2.bI b).map af.size=(s.bI b).map af.size
  rcases hb b with h| ⟨_,k,h1,h2⟩
  ·rw[h]
  ·rw[h1,h2];simp[aBE]
 have hc:∀b j v,(s.gt.c b j).rel π v->(s2.gt.c b j).rel π v:=λb j v h=>by
  rcases hb b with e| ⟨_,k,h1,h2⟩
  ·show(match s2.bI b with|some k=>if j<k.size then k.get j else .f .u|none=>.f .u:CV).rel π v
   rw[e];exact h
  ·have h:(match s.bI b with|some k=>if j<k.size then k.get j else .f .u|none=>.f .u:CV).rel π v:=h
   show(match s2.bI b with|some k=>if j<k.size then k.get j else .f .u|none=>.f .u:CV).rel π v
   rw[h1] at h
   rw[h2]
   simp only[aBE] at h ⊢
   split
   ·rename_i hj
    rw[if_pos hj] at h
    exact aPK sl b k j hj h
   ·rename_i hj
    rw[if_neg hj] at h
    exact h
 have hd2:s2.cS=s.cS:=by rw[<-TB]
 have hl2:s2.heap.length=s.heap.length:=by rw[<-TB];exact arH _ _ _ _ _
 refine⟨⟨λi=> ?_,R.rel.nt,R.rel.df,⟨R.rel.hp.am,?_,λb n hn=> ?_,?_⟩,R.rel.vd,?_,?_⟩,?_,λb eC=> ?_,λb Y8 hn=> ?_,?_,?_⟩
 ·have hr:(aik s.tmps i).rel π (a.tmps.getD i undef):=R.rel.tm i
  show(aik s2.tmps i).rel π _
  rw[<-TB]
  rw[ym] at hr
  rw[ym]
  simp only[List.getD,List.getElem?_map] at hr ⊢
  cases he:s.tmps[i]? with
  |none=>rw[he] at hr;exact hr
  |some x=>rw[he] at hr;exact aPI hr
 ·rw[hz];exact R.rel.hp.lb
 ·rw[hz] at hn
  obtain⟨B,s1,e,h1,h2,h3,h4⟩:=R.rel.hp.hp b n hn
  exact⟨B,s1,e,h1,h2,h3,λj hj=>let⟨v,hv,hr⟩:=h4 j hj;⟨v,hv,hc b j v hr⟩⟩
 ·rw[hz];exact R.rel.hp.dj
 ·rw[hz];intro b B s1 q e;rw[hd2];exact R.rel.ft b B s1 q e
 ·rw[hd2];exact R.rel.fr
 ·rw[<-TB];simpa using R.len
 ·rw[hl2];exact R.dom b eC
 ·rw[hd2] at hn
  rcases hb b with e| ⟨h,_⟩
  ·exact e.trans (R.drt b Y8 hn)
  ·exact absurd ⟨Y8,hn⟩ h
 ·rw[hl2];exact R.hk
 ·rw[hd2];exact R.dlt
omit [ax] in
theorem aPL [ax]{π:Pi}{b n:Nat}(hb:π n=π b){c:CV}{v:Value}(h:c.rel π v):(aI4 b n c).rel π v:=by
 have e:∀x,π (aI3 b n x)=π x:=λx=>by
  unfold aI3
  split
  ·rename_i hx;rw[Nat.eq_of_beq_eq_true hx];exact hb
  ·rfl
 unfold aI4
 split
 ·simpa only[CV.rel,e] using h
 ·simpa only[CV.rel,e] using h
 ·simpa only[CV.rel,e] using h
 ·exact h
theorem gA.move (R:gA X h0 π s a w)(b:Nat):∃π',gA X h0 π' (aMV X.k b s) a w:=by
 unfold aMV
 split
 case h_2=>exact⟨π,R⟩
 rename_i bI Xx
 split
 case h_2=>exact⟨π,R⟩
 rename_i me
 have me:=rL.1 me
 have hbl:b<s.heap.length:=Nat.lt_of_lt_of_le me R.hk
 generalize hn:s.heap.length=n
 generalize hs1:({s with heap:=s.heap.set b none++[some bI],cS:=mark X.k b s.cS}:St)=s1
 have XA:iH X.k [.kill b,.new n bI] s=some s1:=by
  have h1:Nat.blt b s.heap.length=true:=rL.2 hbl
  have h2:Nat.beq n s.heap.length=true:=by rw[hn];exact Nat.beq_refl _
  simp[iH,Up.ok,Up.app,h1,h2,<-hs1]
 have A:=HU XA
 have hg:=Mf XA
 have hz:s.gt.z b=some (af.size bI):=by show(s.bI b).map af.size=_;rw[Xx];rfl
 obtain⟨B,s0,e,hp,hle,k1,k2⟩:=R.rel.hp.hp b _ hz
 have aNd:π n=none:=by
  cases hb:π n with
  |none=>rfl
  |some q=>have:=R.dom n (by rw[hb];simp);omega
 have arE:=yp aNd (B,s0,af.size bI,e)
 have hD:b∈s1.cS:=by rw[<-hs1];exact yu.2 (.inr ⟨rfl,me⟩)
 have aYr:∀x,x∈s.cS->x∈s1.cS:=λx hx=>by rw[<-hs1];exact yu.2 (.inl hx)
 have R0:=(R.rel.JE arE (λb' eC=>by simp only[xT];rw[if_neg (by have:=R.hk;omega)])).aGR aYr
 have OD:xT π n (B,s0,af.size bI,e) b=some (B,s0,af.size bI,e):=arE _ _ hp
 have hp0:X.p0 b=some (B,s0,af.size bI,e):=by rw[<-R.rel.vd b me];exact hp
 have R2:=(R0.kill b).new (k:=bI) (b:=n) (nZ π n (B,s0,af.size bI,e)) (by have:=R.hk;omega) hle k1
  (λj hj=>by
   obtain⟨v,hv,hr⟩:=k2 j hj
   have hc:s.gt.c b j=af.get bI j:=by show(match s.bI b with|some k=>if j<k.size then k.get j else .f .u|none=>.f .u:CV)=_;rw[Xx];simp only[hj,if_true]
   rw[hc] at hr
   exact⟨v,hv,CV.c7 arE _ _ hr⟩)
  (λb' s' q' e' kZ rM eC i i1 i2 i3 i4=>by
   by_cases eb:b'=b
   ·subst eb;simp[Up.fU] at rM
   ·exact R0.hp.dj b b' B s0 _ e s' q' e' (λh=>eb h.symm) (by rw[hz];simp) (by simpa[Up.fU,eb] using rM) OD eC i i1 i2 i3 i4)
  (λ_ i i1 i2=>⟨b,s0,_,e,me,hD,hp0,i1,i2⟩) (λh=>R.rel.hp.lb b B s0 _ e (by rw[hz];simp) hp h)
 have RS:gA X h0 (xT π n (B,s0,af.size bI,e)) s1 a w:=A.aTw R hg R2 (λb' eC=>by
   by_cases e':b'=n
   ·exact .inr ⟨by omega,by simp[ch];omega⟩
   ·simp only[xT,e',if_false] at eC;exact .inl eC) (λx hx=>by
   rw[<-hs1] at hx
   rcases yu.1 hx with h| ⟨rfl,h⟩
   ·exact R.dlt x h
   ·exact h)
 have M:=RS.aV9 (aI4 b n) λc v h=>aPL (by rw[nZ,OD]) h
 rw[<-hs1] at M
 exact⟨_,M⟩
theorem gA.aE6 (R:gA X h0 π s a w)(p:Nat×List CK):∃π',gA X h0 π' (aE6 X.k s p) a w:=by
 unfold Ab.aE6
 split
 ·split
  ·exact⟨π,R.aV9 aE4 λc v h=>au3 h⟩
  ·exact⟨π,R.rows⟩
  ·exact R.move _
 split
 ·rename_i hx
  have me:=aVc hx
  generalize hv:AV.r (.c (.sl s.heap.length (.k 0) (.s 0) p.2.length true))=v
  generalize hk:([.a (.s 0) (p.2.map CK.mc)]:af)=k
  have hk0:af.size k=0:=by rw[<-hk];simp[af.size,Sg.size,Sz.val]
  have XA:iH X.k [.t p.1 v,.new s.heap.length k] s=some {s with tmps:=s.tmps.set p.1 v,heap:=s.heap++[some k]}:=by
   have h1:Nat.blt p.1 s.tmps.length=true:=by simpa using me
   have h2:Nat.beq s.heap.length s.heap.length=true:=Nat.beq_refl _
   simp[iH,Up.ok,Up.app,h1,h2]
  have A:=HU XA
  have hg:=Mf XA
  have aNd:π s.heap.length=none:=by
   cases hb:π s.heap.length with
   |none=>rfl
   |some q=>have:=R.dom _ (by rw[hb];simp:π s.heap.length≠none);omega
  have arE:=yp aNd (0,0,af.size k,0)
  have hr:(RV.c CV.nils).rel π (a.tmps.getD p.1 undef):=by have:=R.rel.tm p.1;rwa [show s.gt.t p.1=_ from hx] at this
  have R0:=R.rel.JE arE (λb hb=>by simp only[xT];rw[if_neg (by have:=R.hk;omega)])
  have R1:Rel X (·∈s.cS) (xT π s.heap.length (0,0,af.size k,0)) ((Up.t p.1 v).fU s.gt) a w:=by
   refine⟨λi=> ?_,R0.nt,R0.df,R0.hp,R0.vd,R0.ft,R0.fr⟩
   show(if i=p.1 then v else s.gt.t i).rel _ _
   split
   ·rename_i e;subst e;subst hv
    exact⟨_,_,_,_,nZ _ _ _,by simp[cg.val,Sz.val],λ_=>by simp[cg.val,Sz.val,hk0],.inl ⟨rfl,none,hr⟩⟩
   ·exact R0.tm i
  have R2:=R1.new (k:=k) (nZ π s.heap.length (0,0,af.size k,0)) R.hk (by omega) (λi h1 h2=>by omega) (λj hj=>by omega) (λb' s' q' e' _ _ _ i h1 h2=>by omega) (λ_ i h1 h2=>by omega)
  exact⟨_,A.aTw R hg R2 (λb hb=>by
   by_cases e:b=s.heap.length
   ·exact .inr ⟨by omega,by simp[ch];omega⟩
   ·simp only[xT,e,if_false] at hb;exact .inl hb) R.dlt⟩
 ·exact⟨π,R⟩
theorem gA.nils:∀(l:List (Nat×List CK)) {s:St} {π:Pi},gA X h0 π s a w->∃π',gA X h0 π' (l.foldl (Ab.aE6 X.k) s) a w
 | [],_,π,R=>⟨π,R⟩
 |p::l,_,_,R=>let⟨_,R'⟩:=R.aE6 p;gA.nils l R'
theorem gA.Y6 (I:In X h0)(R:gA X h0 π s a w){h:Hd}(hh:s.Y6 X.k h=some s'):∃π',gA X h0 π' s' a w:=by
 obtain⟨π1,R1⟩:=gA.nils h.nils (gA.aAV h.aAV R)
 exact R1.gc I (Nat.le_refl _) hh
theorem gA.head (I:In X h0)(R:gA X h0 π s a w){hs:Hs}{c:Code}(h:s.head X.k hs c=some s'):∃π',gA X h0 π' s' a w:=by
 unfold St.head at h
 split at h
 ·exact R.gc I (Nat.le_refl _) h
 ·split at h
  ·exact R.gc I (Nat.le_refl _) h
  ·exact R.Y6 I h
def aWa:AX->Exit
 |.nrm=>.normal
 |.ex id=>.exit id
 |.ret=>.ret
def aTA (X:Cx)(h0:List af){ρ:Type}(K:AX->St->Option ρ)(r:ρ)(Q:Exit->Act->World->Prop):Prop:=
 ∀e s π a w,gA X h0 π s a w->K e s=some r->Q (aWa e) a w
theorem awL {c:Code}{hd:St->Option St}{ρ:Type}{body:St->(AX->St->Option ρ)->Option ρ}{K:AX->St->Option ρ}{r:ρ}{Q:Exit->Act->World->Prop}
  (hb:∀{s:St} {K:AX->St->Option ρ} {Q:Exit->Act->World->Prop} {π:Pi} {a:Act} {w:World},gA X h0 π s a w->body s K=some r->aTA X h0 K r Q->c.wp P Q a w)
  (hh:∀{s s':St} {π:Pi} {a:Act} {w:World},gA X h0 π s a w->hd s=some s'->∃π',gA X h0 π' s' a w)(hQ:aTA X h0 K r Q):
  ∀(n:Nat) {s:St} {π:Pi} {a:Act} {w:World},gA X h0 π s a w->iter hd body K n s=some r->Code.rounds P c Q n a w
 |0,_,_,_,_,_,h=>by cases h
 |n+1,s,π,a,w,R,h=>by
  have h:(body s λe s=>match e with
    |.nrm=>match hd s with
     |none=>none
     |some s=>vA s (iter hd body K n)
    |e=>K e s)=some r:=h
  simp only[JD] at h
  rw[rounds_succ]
  refine hb R h λe s2 π2 a2 w2 R2 hK=> ?_
  cases e with
  |nrm=>
   simp only at hK
   split at hK
   ·cases hK
   ·rename_i s3 hs3
    obtain⟨π3,R3⟩:=hh R2 hs3
    exact awL hb hh hQ n R3 hK
  |ex id=>exact hQ _ _ _ _ _ R2 hK
  |ret=>exact hQ _ _ _ _ _ R2 hK
def L9 (P:Program)(E:Env)(hs:Hs)(nt kk lf:Nat)(a:Code):Prop:=
 ∀σ,ana hs a=some σ->σ.kk=kk->∀{ρ:Type} (s:St) (K:AX->St->Option ρ) (r:ρ),σ.run s K=some r->∃n,iter (λt=>t.head kk hs a) (E' P E hs nt kk lf a) K n s=some r
def arf (P:Program)(E:Env)(hs:Hs)(nt kk lf:Nat)(b:Code):Prop:=
 ∀j,awv hs b=some j->j.sm.kk=kk->∀{ρ:Type} (s:St) (K:AX->St->Option ρ) (r:ρ),j.sm.run s K=some r->E' P E hs nt kk lf b s K=some r
def Jw (P:Program)(E:Env)(hs:Hs)(nt kk lf:Nat):Code->Prop
 |.seq a b=>arf P E hs nt kk lf b∧Jw P E hs nt kk lf a∧Jw P E hs nt kk lf b
 |.cond _ a b=>Jw P E hs nt kk lf a∧Jw P E hs nt kk lf b
 |.block _ a=>Jw P E hs nt kk lf a
 |.loop a=>L9 P E hs nt kk lf a∧Jw P E hs nt kk lf a
 |_=>True
omit [ax] in
theorem aPM {hd:List Hd}{d0:List Nat}{jn:List Jn}{rk:Option Hd}(a:Code):ana ⟨hd,[],d0,jn,rk⟩ a=none:=by
 unfold ana;split<;>rfl
omit [ax] in
theorem aPN {hd:List Hd}{sm:List Sm}{d0:List Nat}{rk:Option Hd}(a:Code):awv ⟨hd,sm,d0,[],rk⟩ a=none:=rfl
omit [ax] in
theorem Jw.nil (P:Program)(E:Env)(hd:List Hd)(d0:List Nat)(nt kk lf:Nat)(c:Code):Jw P E ⟨hd,[],d0,[],none⟩ nt kk lf c:=by
 induction c with
 |seq a b iha ihb=>exact⟨(λj h=>by rw[aPN] at h;cases h),iha,ihb⟩
 |cond x a b iha ihb=>exact⟨iha,ihb⟩
 |block id a iha=>exact iha
 |loop a iha=>exact⟨(λσ h=>by rw[aPM] at h;cases h),iha⟩
 |_=>trivial
def zp {α:Type}(p:α->Prop):List α->Prop
 | []=>True
 |a::l=>p a∧zp p l
omit [ax] in
theorem zp.append {α:Type}{p:α->Prop}:∀{l m:List α},zp p (l++m)->zp p l∧zp p m
 | [],_,h=>⟨trivial,h⟩
 |_::_,_,⟨h1,h2⟩=>⟨⟨h1,(zp.append h2).1⟩,(zp.append h2).2⟩
omit [ax] in
theorem Jw.of {P:Program}{E:Env}{hs:Hs}{nt kk lf:Nat}{c:Code}(h:zp (L9 P E hs nt kk lf) (Ju c))(hj:zp (arf P E hs nt kk lf) (Jv hs c)):Jw P E hs nt kk lf c:=by
 induction c with
 |seq a b iha ihb=>
  obtain⟨j1,j2⟩:=zp.append hj
  refine⟨λj hjn=> ?_,iha (zp.append h).1 (zp.append j2).1,ihb (zp.append h).2 (zp.append j2).2⟩
  rw[hjn] at j1
  exact j1.1 j hjn
 |cond x a b iha ihb=>exact⟨iha (zp.append h).1 (zp.append hj).1,ihb (zp.append h).2 (zp.append hj).2⟩
 |block id a iha=>exact iha h hj
 |loop a iha=>exact⟨h.1,iha h.2 hj⟩
 |_=>trivial
def P9 {D X ρ:Type}(step:D->(D->Option ρ)->(X->Option ρ)->Option ρ)(n:Nat):D->(X->Option ρ)->Option ρ:=
 Nat.rec (motive:=λ_=>D->(X->Option ρ)->Option ρ) (λ_ _=>none) (λ_ ih d x=>step d (λd=>ih d x) x) n
theorem zq (hE:∀f F,E f=some F->Sound P f F)(hm:P.follows .mixedOrders=true)(I:In X h0){hs:Hs}{nt lf:Nat}(W2:nt<=X.N){ρ:Type}{r:ρ}:
  ∀(c:Code),Jw P E hs nt X.k lf c->∀{s:St} {K:AX->St->Option ρ} {Q:Exit->Act->World->Prop} {π:Pi} {a:Act} {w:World},gA X h0 π s a w->E' P E hs nt X.k lf c s K=some r->aTA X h0 K r Q->c.wp P Q a w
 |.skip,hS,s,K,Q,π,a,w,R,h,hQ=>wp_skip (hQ .nrm _ _ _ _ R h)
 |.region id ops false,hS,s,K,Q,π,a,w,R,h,hQ=>by
  obtain⟨s1,dg,hT,hK⟩:=JJ (by rw[R.len];exact W2) (show Jz P E nt X.k ops.toList ops.toList s [] (λs _=>K .nrm s)=some r from h)
  exact aGZ hE hT R λa' w' π' R'=>hQ .nrm _ _ _ _ R' hK
 |.region id ops true,hS,s,K,Q,π,a,w,R,h,hQ=>by
  obtain⟨s1,dg,hT,hK⟩:=JJ (by rw[R.len];exact W2) (show Jz P E nt X.k ops.toList ops.toList s [] (λs l=>match OA ops.toList 0&&Oz (Jy ops.toList []) l 0 with
   |true=>K .nrm s
   |false=>none)=some r from h)
  split at hK
  ·rename_i hok
   simp only[Bool.and_eq_true,List.nil_append] at hok
   exact aGY hE hm hT hok.1 hok.2 R λa' w' π' R'=>hQ .nrm _ _ _ _ R' hK
  ·cases hK
 |.seq x y,hS,s,K,Q,π,a,w,R,h,hQ=>by
  refine wp_seq (zq hE hm I W2 x hS.2.1 R (show E' P E hs nt X.k lf x s (λe s=>match e with
   |.nrm=>match awv hs y with
    |none=>E' P E hs nt X.k lf y s K
    |some j=>match s.Y6 X.k j.hd with
     |none=>none
     |some s=>vA s λs=>match Nat.beq j.sm.kk X.k with
      |true=>j.sm.run s K
      |false=>none
   |e=>K e s)=some r from h) λe s1 π1 a1 w1 R1 hK=> ?_)
  cases e with
  |nrm=>
   simp only at hK
   split at hK
   ·exact zq hE hm I W2 y hS.2.2 R1 hK hQ
   ·rename_i j hj
    simp only[JD] at hK
    split at hK
    ·cases hK
    ·rename_i s2 TB
     split at hK
     ·rename_i hk
      obtain⟨π2,R2⟩:=R1.Y6 I TB
      exact zq hE hm I W2 y hS.2.2 R2 (hS.1 j hj (beq_iff.1 hk) s2 K r hK) hQ
     ·cases hK
  |ex id=>exact hQ _ _ _ _ _ R1 hK
  |ret=>exact hQ _ _ _ _ _ R1 hK
 |.cond (.tmp t) x y,hS,s,K,Q,π,a,w,R,h,hQ=>by
  have h:(match s.tmp t with
   |.r (.c (.f (.b z)))=>match z with
    |true=>E' P E hs nt X.k lf x s K
    |false=>E' P E hs nt X.k lf y s K
   |_=>none)=some r:=h
  split at h
  ·rename_i z hz
   have hr:=R.rel.tm t
   rw[show s.gt.t t=_ from hz] at hr
   have hc:a.eval (.tmp t)=.bool z:=hr
   cases z with
   |true=>exact wp_cond_true hc (zq hE hm I W2 x hS.1 R h hQ)
   |false=>exact wp_cond_false hc (zq hE hm I W2 y hS.2 R h hQ)
  ·cases h
 |.block id x,hS,s,K,Q,π,a,w,R,h,hQ=>by
  refine wp_block (zq hE hm I W2 x hS R (show E' P E hs nt X.k lf x s (λe s=>match e with
   |.ex j=>match Nat.beq j id with
    |true=>K .nrm s
    |false=>K (.ex j) s
   |e=>K e s)=some r from h) λe s1 π1 a1 w1 R1 hK=> ?_)
  cases e with
  |nrm=>exact hQ _ _ _ _ _ R1 hK
  |ret=>exact hQ _ _ _ _ _ R1 hK
  |ex j=>
   simp only at hK
   show if j=id then Q .normal a1 w1 else Q (.exit j) a1 w1
   split at hK
   ·rename_i hj
    rw[if_pos (Nat.eq_of_beq_eq_true hj)]
    exact hQ .nrm _ _ _ _ R1 hK
   ·rename_i hj
    rw[if_neg (λe=>by subst e;simp at hj)]
    exact hQ (.ex j) _ _ _ _ R1 hK
 |.loop x,hS,s,K,Q,π,a,w,R,h,hQ=>by
  have h:(match s.head X.k hs x with
   |none=>none
   |some s=>vA s λs=>match ana hs x with
    |some σ=>match Nat.beq σ.kk X.k with
     |true=>σ.run s K
     |false=>none
    |none=>iter (λt=>t.head X.k hs x) (E' P E hs nt X.k lf x) K lf s)=some r:=h
  simp only[JD] at h
  split at h
  ·cases h
  ·rename_i s1 hs1
   obtain⟨π1,R1⟩:=R.head I hs1
   obtain⟨n,hn⟩:∃n,iter (λt=>t.head X.k hs x) (E' P E hs nt X.k lf x) K n s1=some r:=by
    split at h
    ·rename_i σ hσ
     split at h
     ·rename_i hk
      exact hS.1 σ hσ (beq_iff.1 hk) s1 K r h
     ·cases h
    ·exact⟨lf,h⟩
   exact wp_loop_rounds n (awL (hd:=λt=>t.head X.k hs x) (body:=E' P E hs nt X.k lf x) (λR h hQ=>zq hE hm I W2 x hS.2 R h hQ) (λR' h'=>R'.head I h') hQ n R1 hn)
 |.exit id,hS,s,K,Q,π,a,w,R,h,hQ=>wp_exit (hQ (.ex id) _ _ _ _ R h)
 |.ret,hS,s,K,Q,π,a,w,R,h,hQ=>by
  have h:(match hs.rk with
   |none=>K .ret s
   |some hd=>match s.Y6 X.k hd with
    |none=>none
    |some s=>vA s λs=>K .ret s)=some r:=h
  split at h
  ·exact wp_ret (hQ .ret _ _ _ _ R h)
  ·simp only[JD] at h
   split at h
   ·cases h
   ·rename_i s2 TB
    obtain⟨π2,R2⟩:=R.Y6 I TB
    exact wp_ret (hQ .ret _ _ _ _ R2 h)
 |.cond (.const _) _ _,_,_,_,_,_,_,_,_,h,_=>by cases h
 |.cond (.func _) _ _,_,_,_,_,_,_,_,_,h,_=>by cases h
 |.cond (.global _) _ _,_,_,_,_,_,_,_,_,h,_=>by cases h
 |.goto _,_,_,_,_,_,_,_,_,h,_=>by cases h
 |.label _,_,_,_,_,_,_,_,_,h,_=>by cases h
end
end Go.Ab
namespace Go.Ab
variable [ax]
section
variable {P:Program} {E:Env} {X:Cx} {h0:List af} {π:Pi} {s s':St} {a:Act} {w:World}
def aOM (tmps:Array Value):ResultVar->Sem Value
 |.tmp t=>pure (tmps.getD t undef)
 |.cell a t=>do loadVar t (<-asAddr (tmps.getD a undef))
omit [ax] in
theorem aJF (fn:Func)(tmps:Array Value):results fn tmps=(do
  let vs<-fn.results.mapM (aOM tmps)
  pure (if h:vs.size=1 then vs[0] else .tuple vs)):=by
 unfold results
 rfl
theorem aPO (R:gA X h0 π s a w){r:ResultVar}{v:RV}(h:aOA P s r=some v):∃x,(aOM a.tmps r).run P w=.ok x w∧v.rel π x:=by
 cases r with
 |tmp t=>
  simp only[aOA] at h
  split at h
  ·rename_i u hu
   cases h
   have:=R.rel.tm t
   rw[show s.gt.t t=_ from hu] at this
   exact⟨_,rfl,this⟩
  ·cases h
 |cell q t=>
  simp only[aOA] at h
  split at h
  ·rename_i b o m hu
   have hp:=R.rel.tm q
   rw[show s.gt.t q=_ from hu] at hp
   obtain⟨B,s1,q1,e,hb,hx,hm⟩:=hp
   have key:∀v l,aH (Xs P t b o m) s.gt v l->∃x,(aOM a.tmps (.cell q t)).run P w=.ok x w∧v.rel π x:=λv l hv=>by
    obtain⟨x,hx1,hx2⟩:=aH.Xs R.rel hv hb hm
    refine⟨x,?_,hx2⟩
    show(do loadVar t (<-asAddr (a.tmps.getD q undef))).run P w=_
    rw[hx]
    simpa[asAddr] using hx1
   split at h
   ·rename_i n' bI c h1 h2 h3
    split at h
    ·rename_i hle
     simp only[Option.map_eq_some_iff] at h
     obtain⟨k,hk,rfl⟩:=h
     obtain⟨k1,k2⟩:=Mc hk
     refine key _ (.c b (ext (.k c) (.l 1) n'):: .z b::[]) ?_
     unfold Ab.Xs
     rw[h1,h2]
     show aH ((cv (Nat.ble n' m)).bind _) _ _ _
     unfold cv
     rw[hle]
     refine aH.test (aH.vw _ _ (St.ang h3) k1 (λhle j hj=> ?_) (.ret _ _))
     rw[k2 hle j hj]
     exact(St.aOC h3 (by simp only[cg.val] at hle;omega)).symm
    ·cases h
   ·rename_i n' bI c h1 h2 h3
    split at h
    ·rename_i hle
     split at h
     ·rename_i v0 hk
      cases h
      obtain⟨k1,k2⟩:=Mc hk
      refine key _ (.c b (ext (.k c) (.l 1) 1):: .z b::[]) ?_
      unfold Ab.Xs
      rw[h1,h2]
      show aH ((cv (Nat.ble 1 m)).bind _) _ _ _
      unfold cv
      rw[hle]
      refine aH.test (aH.vw _ _ (St.ang h3) k1 (λhle j hj=> ?_) (.ret _ _))
      rw[k2 hle j hj]
      exact(St.aOC h3 (by simp only[cg.val] at hle;omega)).symm
     ·cases h
    ·cases h
   ·cases h
  ·cases h
theorem aBF (R:gA X h0 π s a w):∀{l:List ResultVar} {vs:List RV},auP P s l=some vs->∃xs,(l.mapM (aOM a.tmps)).run P w=.ok xs w∧bj (RV.rel π) vs xs
 | [],vs,h=>by cases h;exact⟨[],by simp,trivial⟩
 |r::l,vs,h=>by
  simp only[auP] at h
  split at h
  ·rename_i v iX h1 h2
   cases h
   obtain⟨x,e1,r1⟩:=aPO R h1
   obtain⟨xs,e2,r2⟩:=aBF R h2
   exact⟨x::xs,by simp[List.mapM_cons,e1,e2],r1,r2⟩
  ·cases h
theorem aG0 (R:gA X h0 π s a w){fn:Func}{vs:List RV}(h:auP P s fn.results.toList=some vs):∃x,(results fn a.tmps).run P w=.ok x w∧(one vs).rel π x:=by
 obtain⟨xs,e,r⟩:=aBF R h
 have hlen:=r.length
 rw[aJF]
 simp only[Array.mapM_eq_mapM_toList,Sem.run_bind,Sem.run_map,e,Result.andThen_ok,Sem.run_pure]
 match vs,xs,r with
 | [],[],r=>exact⟨_,rfl,#[],by simp,trivial⟩
 | [v],[x],r=>exact⟨x,by simp,r.1⟩
 |v::v'::vs,x::x'::xs,r=>exact⟨_,by simp,(x::x'::xs).toArray,rfl,r⟩
omit [ax] in
theorem aFq {α:Type}:∀{l:List (Option α)} {m:List α},aAZ l=some m->l=m.map some
 | [],m,h=>by cases h;rfl
 |some x::l,m,h=>by
  simp only[aAZ,Option.map_eq_some_iff] at h
  obtain⟨m',h1,rfl⟩:=h
  rw[aFq h1];rfl
 |none::l,m,h=>by cases h
omit [ax] in
theorem aFr (d:List Nat):∀(l:List (Option af)) (j0 j:Nat),(afX d l j0)[j]? =(l[j]?).map λb=>match d.any (Nat.beq (j0+j)) with
  |false=>Ch.kY
  |true=>match b with
   |some b=>.set b
   |none=>.kill
 | [],_,_=>by simp[afX]
 |b::l,j0,0=>by simp[afX];rfl
 |b::l,j0,j+1=>by
  simp only[afX,List.getElem?_cons_succ]
  rw[aFr d l (j0+1) j,show j0+1+j=j0+(j+1) by omega]
omit [ax] in
theorem any_beq {d:List Nat}{j:Nat}:d.any (Nat.beq j)=true↔j∈d:=by
 rw[List.any_eq_true]
 constructor
 ·rintro ⟨y,hy,he⟩;rw[Nat.eq_of_beq_eq_true he];exact hy
 ·exact λh=>⟨j,h,Nat.beq_refl j⟩
omit [ax] in
theorem awM (d:List Nat):∀(h:List af) (l:List (Option af)) (j0:Nat),l.length=h.length->(∀j b,j0+j∉d->l[j]? =some b->b=h[j]?)->after h (afX d l j0)=l
 | [],[],_,_,_=>rfl
 |b::bs,o::l,j0,hl,hk=>by
  have ih:=awM d bs l (j0+1) (by simpa using hl) λj b h1 h2=>by
   have:=hk (j+1) b (by rwa [show j0+(j+1)=j0+1+j by omega]) (by simpa using h2)
   simpa using this
  simp only[afX]
  cases hd:d.any (Nat.beq j0) with
  |false=>
   have hn:j0∉d:=λh=>by rw[any_beq.2 h] at hd;cases hd
   have:=hk 0 o (by simpa using hn) rfl
   simp only[List.getElem?_cons_zero] at this
   subst this
   simp[after,ih]
  |true=>
   cases o with
   |none=>simp[after,ih]
   |some b'=>simp[after,ih]
abbrev aFs (_:Program)(π:Pi)(w0:World)(h:List af)(res:ns):Ending->World->Prop:=qS π w0 h res
theorem aNe (I:In X h0)(R:gA X h0 π s a w){fn:Func}{e:AX}{res:ns}(h:fin P fn X.k e s=some res):bodyPost P fn (aFs P X.p0 X.w0 h0 res) (aWa e) a w:=by
 have main:(match auP P s fn.results.toList with
  |none=>none
  |some vs=>
   let x:=gcA X.k (one vs) []
   let y:=gcO X.k s.cS X.k (s.heap.take X.k) 0 x.2
   match gcN X.k s.heap 1000 0 y.2 [] with
   |some z=>match aAZ z.1 with
    |some news=>some {val:=x.1,vR:=afX s.cS y.1 0,news}
    |none=>none
   |none=>none)=some res->a.defers=[]∧∃v,(results fn a.tmps).run P w=.ok v w∧aFs P X.p0 X.w0 h0 res (.returned v) w:=by
  intro h
  split at h
  ·cases h
  rename_i vs hvs
  simp only at h
  split at h
  ·rename_i z hz
   split at h
   ·rename_i news aW6
    cases h
    obtain⟨v,mz,hv⟩:=aG0 R hvs
    have G:=au2 X.k (one vs) []
    have ok0:=G.ok ⟨List.nodup_nil,λ_ h=>by cases h⟩
    obtain⟨q1,q2,q3,q4,q5⟩:=aJD I R (Nat.le_refl _) R.hk ok0 hz
    have hz1:=aFq aW6
    obtain⟨o1,o2,o3,o4⟩:=al8 X.k s.cS X.k (s.heap.take X.k) 0 (gcA X.k (one vs) []).2
    generalize hy:gcO X.k s.cS X.k (s.heap.take X.k) 0 (gcA X.k (one vs) []).2=y at*
    have hyl:y.1.length=X.k:=by rw[o3];have:=R.hk;simp;omega
    have hhl:=I.k
    have hnl:z.2.length=news.length:=by
     have e1:(y.1++z.1).length=y.1.length+z.1.length:=by simp
     have e2:z.1.length=news.length:=by rw[hz1];simp
     omega
    have aVd:after h0 (afX s.cS y.1 0)=y.1:=awM s.cS h0 y.1 0 (by omega) λj b h1 h2=>by
     have hj:j<y.1.length:=(List.getElem?_eq_some_iff.1 h2).1
     have h3:=q4 j (by omega) (by omega) (by simpa using h1)
     rw[List.getElem?_append_left hj,h2] at h3
     have h4:=R.drt j (by omega) (by simpa using h1)
     rw[<-h4,<-h3];rfl
    have aW7:(⟨(gcA X.k (one vs) []).1,afX s.cS y.1 0,news⟩:ns).heap h0=y.1++z.1:=by
     unfold ns.heap
     simp only
     rw[aVd,hz1]
    have aBG:∀B i,Bg X.p0 X.k (·∈s.cS) B i->Bg X.p0 h0.length (P7 (afX s.cS y.1 0)) B i:=by
     rintro B i ⟨b,s1,qq,e1,hb,hd,hp,i1,i2⟩
     refine⟨b,s1,qq,e1,by omega,?_,hp,i1,i2⟩
     unfold P7
     rw[aFr,Nat.zero_add,any_beq.2 hd]
     have:y.1[b]? =some (y.1[b]'(by omega)):=List.getElem?_eq_getElem _
     rw[this]
     cases y.1[b]'(by omega)<;>simp
    refine⟨R.rel.df,v,mz,JK π X.k z.2,v,rfl,λb p hp=> ?_,?_,?_,R.rel.fr.mono λB i _ h=>aBG B i h,λb hb=> ?_,λb B s1 qq e1 hb hp hB i i1 i2=> ?_⟩
    ·have hb:=I.d b (by rw[hp];simp)
     unfold JK;rw[if_pos hb,R.rel.vd b hb];exact hp
    ·exact AV.c7 q1.ext _ _ (G.rel π v hv)
    ·rw[aW7];exact q2
    ·unfold JK at hb
     split at hb
     ·simp only;omega
     ·cases hm:z.2[b-X.k]? with
      |none=>rw[hm] at hb;exact absurd rfl hb
      |some b0=>have:=(List.getElem?_eq_some_iff.1 hm).1;simp only;omega
    ·have rX:=hp
     unfold JK at rX
     rw[if_neg (by omega)] at rX
     cases hm:z.2[b-X.k]? with
     |none=>rw[hm] at rX;cases rX
     |some b0=>
      rw[hm] at rX
      have me:=(List.getElem?_eq_some_iff.1 hm).1
      have hzb:hZ (y.1++z.1) b≠none:=by
       unfold hZ
       rw[List.getElem?_append_right (by omega),hyl,hz1,List.getElem?_map,List.getElem?_eq_getElem (show b-X.k<news.length by omega)]
       simp
      rcases q5 b hzb with⟨h1,_⟩| ⟨b1,h1,h2,h3,h4⟩
      ·omega
      ·rw[hm] at h2;cases h2
       exact aBG B i (R.rel.ft b0 B s1 qq e1 h3 h4 rX hB i i1 i2)
   ·cases h
  ·cases h
 cases e with
 |nrm=>exact main h
 |ret=>exact main h
 |ex id=>cases h
def tOf:Option ns->T
 |some r=>.leaf r
 |none=>.fail
theorem aNf (hE:∀f F,E f=some F->Sound P f F)(hm:P.follows .mixedOrders=true){hs:Hs}{lf:Nat}{f:FuncId}(aJG:∀fn c kk,P.funcs[f]? =some fn->fn.body=some c->Jw P E hs fn.ntmps kk lf c)(hc:∀args w,(callFunc f args).run P w=.ok (.enter f args) w):Sound P f λargs h=>tOf (den P E hs lf f args h):=by
 intro args h res qT w π vs jR hH iW
 refine .inl ⟨hc _ _,?_⟩
 have qT:den P E hs lf f args h=some res:=by
  have qT:(tOf (den P E hs lf f args h)).eval=some res:=qT
  cases hd:den P E hs lf f args h with
  |none=>rw[hd] at qT;cases qT
  |some r=>rw[hd] at qT;exact qT
 unfold den at qT
 split at qT
 ·cases qT
 rename_i fn hf
 split at qT
 ·cases qT
 rename_i c hb
 split at qT
 case h_1=>cases qT
 rename_i aNg
 have aNg:∀b,b∈hs.cS->b<h.length:=λb hb=>rL.1 (List.all_eq_true.1 aNg b hb)
 rw[JD] at qT
 have hlen:=jR.length
 refine calls_of_wp hf hb ?_
 let X:Cx:={w0:=w,k:=h.length,p0:=π,N:=(start fn args h hs.cS).tmps.length}
 have I:In X h:=⟨rfl,hH,iW⟩
 have R:gA X h π (start fn args h hs.cS) {tmps:=vs++Array.replicate (fn.ntmps-vs.size) undef,defers:=[]} w:=by
  refine⟨⟨λi=> ?_,by simp[X,start];simp at hlen;omega,rfl,hH,λ_ _=>rfl,λb B s q e hk hz hp=> ?_,bT.refl _ _⟩,rfl,λb hb=>by simpa[start] using iW b hb,λb hb _=> ?_,by simp[start,X],λb hb=>aNg b hb⟩
  ·show(aik (args++List.replicate (fn.ntmps-args.length) Y3) i).rel π ((vs++Array.replicate (fn.ntmps-vs.size) undef).getD i undef)
   rw[ym]
   simp only[Array.length_toList] at hlen
   rw[Array.getD_eq_getD_getElem?]
   simp only[List.getD]
   rcases Nat.lt_or_ge i args.length with hi|hi
   ·have e1:args[i]? =some (args[i]'hi):=List.getElem?_eq_getElem _
    obtain⟨x,hx,hr⟩:=jR.get e1
    rw[List.getElem?_append_left hi,e1,Array.getElem?_append_left (by omega),<-Array.getElem?_toList,hx]
    exact hr
   ·rw[List.getElem?_append_right hi,Array.getElem?_append_right (by omega),List.getElem?_replicate,Array.getElem?_replicate,hlen]
    split<;>exact apM π
  ·exact absurd (iW b (by rw[hp];simp)) (by simp only[X] at hk;omega)
  ·show((h.map some)[b]?).getD none=h[b]?
   rw[List.getElem?_map]
   cases h[b]? <;>rfl
 exact zq hE hm I (nt:=fn.ntmps) (by simp[X,start];omega) c (aJG fn c h.length hf hb) R qT λe s π a w R hK=>aNe I R hK
structure ns.wk (h:List af)(r r':ns):Prop where
 val:r.val=r'.val
 news:r.news=r'.news
 vR:∀(j:Nat) (b:af),(after h r.vR)[j]? =some (some b)->∃b':af,(after h r'.vR)[j]? =some (some b')∧af.size b'=af.size b∧∀i,i<af.size b->af.get b i=af.get b' i
 kY:∀j:Nat,r.vR[j]? =some .kY->r'.vR[j]? =some .kY
omit [ax] in
theorem ns.wk.refl (h:List af)(r:ns):r.wk h r:=⟨rfl,rfl,λj b hb=>⟨b,hb,rfl,λ_ _=>rfl⟩,λ_ h=>h⟩
theorem Sound.weaken {f:FuncId}{F F0:C9}(S:Sound P f F0)(hw:∀args h r,(F args h).eval=some r->∃r',(F0 args h).eval=some r'∧r.wk h r'):Sound P f F:=by
 intro args h res qT w π vs jR hH iW
 obtain⟨r',hr',W⟩:=hw args h res qT
 suffices key:∀e w',qS π w h r' e w'->qS π w h res e w' by
  rcases S args h r' hr' w π vs jR hH iW with⟨S1,S2⟩| ⟨v,S1,S2⟩
  ·exact .inl ⟨S1,Calls.mono S2 key⟩
  ·exact .inr ⟨v,S1,key _ _ S2⟩
 rintro e w' ⟨π',v,rfl,hx,hv,hH',hF,hd,hi⟩
 have aBG:∀B i,Bg π h.length (P7 r'.vR) B i->Bg π h.length (P7 res.vR) B i:=by
  rintro B i ⟨b,s1,qq,e1,hb,hD,hp,i1,i2⟩
  exact⟨b,s1,qq,e1,hb,λhk=>hD (W.kY b hk),hp,i1,i2⟩
 have src:∀b n,hZ (res.heap h) b=some n->∃k k',(res.heap h)[b]? =some (some k)∧af.size k=n∧(r'.heap h)[b]? =some (some k')∧af.size k'=n∧∀i,i<n->af.get k i=af.get k' i:=λb n hn=>by
  unfold hZ at hn
  cases hg:(res.heap h)[b]? with
  |none=>rw[hg] at hn;cases hn
  |some o=>
   rw[hg] at hn
   cases o with
   |none=>cases hn
   |some k=>
    have hkn:af.size k=n:=by simpa using hn
    rcases Nat.lt_or_ge b h.length with hb|hb
    ·rw[BN hb] at hg
     obtain⟨k',h1,h2,h3⟩:=W.vR b k hg
     exact⟨k,k',rfl,hkn,by rw[BN hb];exact h1,by omega,λi hi=>h3 i (by omega)⟩
    ·refine⟨k,k,rfl,hkn,?_,hkn,λ_ _=>rfl⟩
     unfold ns.heap at hg ⊢
     rw[List.getElem?_append_right (by rw[lL];exact hb),lL] at hg ⊢
     rw[<-W.news];exact hg
 refine⟨π',v,rfl,hx,by rw[W.val];exact hv,⟨hH'.am,λb B s1 q1 e1 hz hp zn=> ?_,λb n hn=> ?_,λb b' B s1 q1 e1 s2 q2 e2 kZ hz rM=> ?_⟩,hF.mono λB i _ h=>aBG B i h,by rw[W.news];exact hd,λb B s1 qq e1 hb hp hB i i1 i2=>aBG B i (hi b B s1 qq e1 hb hp hB i i1 i2)⟩
 ·cases hn:hZ (res.heap h) b with
  |none=>exact absurd hn hz
  |some n=>
   obtain⟨k,k',_,_,h3,_⟩:=src b n hn
   exact hH'.lb b B s1 q1 e1 (by rw[XF h3];simp) hp zn
 ·obtain⟨k,k',h1,h2,h3,h4,h5⟩:=src b n hn
  have hz:hZ (r'.heap h) b=some n:=by rw[<-h4];exact XF h3
  obtain⟨B,s1,e1,hp,hle,m1,m2⟩:=hH'.hp b n hz
  refine⟨B,s1,e1,hp,hle,m1,λj hj=> ?_⟩
  obtain⟨x,hx1,hx2⟩:=m2 j hj
  rw[adH h3 (by omega)] at hx2
  exact⟨x,hx1,by rw[adH h1 (by omega),h5 j hj];exact hx2⟩
 ·have nn:∀b,hZ (res.heap h) b≠none->hZ (r'.heap h) b≠none:=λb hb=>by
   cases hn:hZ (res.heap h) b with
   |none=>exact absurd hn hb
   |some n=>obtain⟨k,k',_,_,h3,_⟩:=src b n hn;rw[XF h3];simp
  exact hH'.dj b b' B s1 q1 e1 s2 q2 e2 kZ (nn b hz) (nn b' rM)
end
end Go.Ab
