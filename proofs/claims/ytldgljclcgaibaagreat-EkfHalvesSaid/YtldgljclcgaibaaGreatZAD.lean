/-
  Parts of the proof: AbF AbG AbH AbI AbJ AbK AbL AbN AbR AbT AbU
-/
import Derived.Test.YtldgljclcgaibaaGreatZAC
set_option linter.unusedVariables false
set_option linter.unusedSimpArgs false
namespace Go.Ab
variable [ax]
omit [ax] in
theorem CG (a b:List Up):bY (a++b)=bY a+bY b:=by simp[bY]
omit [ax] in
theorem aRQ (dst:Option Tmp)(v:AV):bY (dm dst v)=0:=by cases dst<;>rfl
omit [ax] in
theorem aEt {us:List Up}(h:∀u∈us,∀b k,u≠.new b k):bY us=0:=by
 induction us with
 |nil=>rfl
 |cons u us ih=>
  have h1:=ih λv hv=>h v (by simp[hv])
  have h2:=h u (by simp)
  cases u with
  |new b k=>exact absurd rfl (h2 b k)
  |_=>simpa[bY] using h1
omit [ax] in
theorem Xv:∀{vs:List Vw} {cs:List Ch} {u:Up},u∈nh vs cs->∃b,u=.kill b
 | [],[],u,h=>by simp[nh] at h
 |v0::vs,c::cs,u,h=>by
  by_cases hc:c=.kill
  ·subst hc
   rcases List.mem_cons.1 h with rfl|h
   ·exact⟨_,rfl⟩
   ·exact Xv h
  ·have e:nh (v0::vs) (c::cs)=nh vs cs:=by cases c<;>first|rfl|exact absurd rfl hc
   rw[e] at h;exact Xv h
 | [],_::_,u,h=>by simp[nh] at h
 |_::_,[],u,h=>by simp[nh] at h
omit [ax] in
theorem awo:∀{vs:List Vw} {cs:List Ch} {j:Nat} {v:Vw},vs[j]? =some v->cs[j]? =some .kill->Up.kill v.b∈nh vs cs
 |v0::vs,c::cs,0,v,h1,h2=>by
  simp at h1 h2;subst h1 h2;simp[nh]
 |v0::vs,c::cs,j+1,v,h1,h2=>by
  have:=awo (vs:=vs) (cs:=cs) (j:=j) (v:=v) (by simpa using h1) (by simpa using h2)
  cases c<;>simp[nh,this]
 | [],_,j,v,h,_=>by simp at h
 |_::_,[],j,v,_,h=>by simp at h
omit [ax] in
theorem adx {all:List Vw}{aJ:Nat}:∀{vs:List Vw} {cs:List Ch} {g:Bool} {us:List Up},xI all aJ vs cs=some (g,us)->∀{j:Nat} {v:Vw} {b:af},vs[j]? =some v->cs[j]? =some (.set b)->Up.c v.b v.o (Is (Jd all aJ) b)∈us
 | [],[],g,us,_,j,v,b,h,_=>by simp at h
 |v0::vs,.kU::cs,g,us,h,j,v,b,h1,h2=>by
  cases j with
  |zero=>simp at h2
  |succ j=>exact adx (vs:=vs) (cs:=cs) h (by simpa using h1) (by simpa using h2)
 |v0::vs,.kill::cs,g,us,h,j,v,b,h1,h2=>by
  cases j with
  |zero=>simp at h2
  |succ j=>exact adx (vs:=vs) (cs:=cs) h (by simpa using h1) (by simpa using h2)
 |v0::vs,.set b0::cs,g,us,h,j,v,b,h1,h2=>by
  simp only[xI] at h
  split at h
  ·rename_i p hu
   simp only[Option.some.injEq,Prod.mk.injEq] at h
   obtain⟨_,rfl⟩:=h
   cases j with
   |zero=>simp at h1 h2;subst h1 h2;simp
   |succ j=>exact List.mem_cons_of_mem _ (adx (g:=p.1) (us:=p.2) hu (by simpa using h1) (by simpa using h2))
  ·cases h
 | [],_::_,_,_,h,_,_,_,_,_=>by simp[xI] at h
 |_::_,[],_,_,h,_,_,_,_,_=>by simp[xI] at h
omit [ax] in
theorem aAV {vs:List Vw}{aJ:Nat}:∀{bs:List af} {j0:Nat} {u:Up},u∈EZ vs aJ bs j0->∃b k,u=.new b k
 | [],_,_,h=>by simp[EZ] at h
 |b0::bs,j0,u,h=>by
  rcases List.mem_cons.1 h with rfl|h
  ·exact⟨_,_,rfl⟩
  ·exact aAV h
omit [ax] in
theorem bN.isSome {w0 w:World}{S:Nat->Nat->Prop}(h:bN w0 S w){B i:Nat}(hi:(Ab.cl w0 B i).isSome=true):(Ab.cl w B i).isSome=true:=by
 have hB:=Y0 hi
 simp only[Ab.cl,World.cell?] at hi ⊢
 cases hh:w0.heap[B]? with
 |none=>rw[hh] at hi;cases hi
 |some x=>
  rw[hh] at hi
  cases x with
  |cells c t f=>
   obtain⟨c',e,z,_⟩:=h.row B c t f hh
   simp only[e]
   simp only[Option.isSome_none,Bool.false_eq_true,if_false] at hi ⊢
   have:i<c.size:=by
    rcases Nat.lt_or_ge i c.size with h'|h'
    ·exact h'
    ·rw[Array.getElem?_eq_none h'] at hi;cases hi
   rw[Array.getElem?_eq_getElem (by omega)];rfl
  |_=>cases hi
omit [ax] in
theorem ady:∀{h:List af} {cs:List Ch} {j:Nat},(∀b,cs[j]? =some (.set b)->j<h.length->(after h cs)[j]? =some (some b))∧(cs[j]? =some .kU->∀b,h[j]? =some b->(after h cs)[j]? =some (some b))
 | [],cs,j=>⟨λb _ h=>by simp at h,λ_ b h=>by simp at h⟩
 |b0::bs,[],j=>⟨λb h=>by simp at h,λh=>by simp at h⟩
 |b0::bs,c::cs,0=>by cases c<;>simp[after]
 |b0::bs,c::cs,j+1=>by
  have:=ady (h:=bs) (cs:=cs) (j:=j)
  cases c<;>simpa[after] using this
omit [ax] in
theorem Y2 {r:m4}{h:List af}{k:Nat}{b:af}(hk:r.news[k]? =some b):(r.heap h)[h.length+k]? =some (some b):=by
 unfold m4.heap
 rw[List.getElem?_append_right (by rw[lH];omega),lH,show h.length+k-h.length=k by omega]
 simp[hk]
omit [ax] in
theorem Bk {r:m4}{h:List af}{j:Nat}(hj:j<h.length):(r.heap h)[j]? =(after h r.vv)[j]? :=by
 unfold m4.heap
 rw[List.getElem?_append_left (by rw[lH];omega)]
omit [ax] in
theorem Xw {l:List (Option af)}{j:Nat}{b:af}(h:l[j]? =some (some b)):hZ l j=some (af.size b):=by simp[hZ,h]
omit [ax] in
theorem adz {l:List (Option af)}{j i:Nat}{b:af}(h:l[j]? =some (some b))(hi:i<af.size b):hC l j i=af.get b i:=by simp[hC,h,hi]
omit [ax] in
theorem Si {all:List Vw}{aJ:Nat}:∀{vs:List Vw} {cs:List Ch} {g:Bool} {us:List Up},xI all aJ vs cs=some (g,us)->∀u∈us,∀b k,u≠.new b k
 | [],[],g,us,h=>by
  simp only[xI,Option.some.injEq,Prod.mk.injEq] at h
  obtain⟨_,rfl⟩:=h
  intro u hu;simp at hu
 |v0::vs,.kU::cs,g,us,h=>Si (vs:=vs) (cs:=cs) h
 |v0::vs,.kill::cs,g,us,h=>Si (vs:=vs) (cs:=cs) h
 |v0::vs,.set b0::cs,g,us,h=>by
  simp only[xI] at h
  split at h
  ·rename_i p hu
   simp only[Option.some.injEq,Prod.mk.injEq] at h
   obtain⟨_,rfl⟩:=h
   intro u hu' b k e
   rcases List.mem_cons.1 hu' with rfl|hu'
   ·cases e
   ·exact Si (g:=p.1) (us:=p.2) hu u hu' b k e
  ·cases h
 | [],_::_,_,_,h=>by simp[xI] at h
 |_::_,[],_,_,h=>by simp[xI] at h
section
variable {P:Program} {o:Oper} {X:Cx} {D:Nat->Prop} {aJ:Nat} {us:List Up} {g:Gt}
theorem aLJ {E:Env}(hE:∀f F,E f=some F->Sound P f F){c:Call}{fo:Operand}{f:Nat}{aa1:List RV}{args:List AV}{fp l0 l1:List Fp}(ho:o.op=.call c)(hc:c.callee=.value fo)(ha:aH (Ab.qW Ab.BD c.args.toList) g args l0){fv:AV}(hfo:aH (Ab.BD fo) g fv l1)(aRR:∀(π:Pi) (x:Value),fv.rel π x->∃arr:Array Value,x=.func (.func f) #[] arr∧bh (RV.rel π) aa1 arr.toList)
  (h:aH (aRu E f (args++aa1.map .r) o.dst aJ) g us fp):xp P o X D aJ us g:=by
 obtain⟨x,⟨_,h1⟩,_,h⟩:=aH.bind' h
 obtain⟨y,⟨_,h2⟩,_,h⟩:=aH.bind' h
 cases hEf:E f with
 |none=>rw[hEf] at h;cases h
 |some F=>
 rw[hEf] at h
 obtain⟨r,⟨_,h3⟩,_,h⟩:=aH.bind' h
 obtain⟨⟨gd,aNc⟩,⟨_,h4⟩,_,h⟩:=aH.bind' h
 obtain⟨_,⟨_,h5⟩,_,h⟩:=aH.bind' h
 cases h
 have h5:gd=true:=h5.ck
 subst h5
 have S0:=hE f F hEf
 have aVj:=T.aRN h3
 have h4:=h4.du
 obtain⟨lh,vs⟩:=y
 simp only at h3 h4
 have aNd:bY (dm o.dst (aHY vs aJ r.val)++(aNc++(nh vs r.vv++EZ vs aJ r.news 0)))=r.news.length:=by
  rw[CG,CG,CG,aRQ,aEt (Si h4),aEt (λu hu b k e=>by obtain⟨_,rfl⟩:=Xv hu;cases e),(aij (vs:=vs) (aJ:=aJ) (bs:=r.news) (j0:=0) g).2.2.2]
  omega
 intro π a w next Q R hk hfr hd hD hn
 simp only at hfr hn hD
 rw[aNd] at hfr hn
 obtain⟨arr,hfv,aVk⟩:=aRR _ _ (hfo.BD R)
 have jQ:bh (AV.rel π) (args++aa1.map .r) (c.args.map a.eval++arr).toList:=by
  rw[Array.toList_append]
  exact(It ha R).append (Xt (f:=AV.r) (R':=AV.rel π) (λa c h=>h) aVk)
 obtain⟨a1,a2⟩:=aIs (PY:=x.1) (iU:=x.2) h1 jQ
 obtain⟨ok0,a4⟩:=a2 (Iu.nil π)
 obtain⟨b1,hok,b3,b4⟩:=aAU R.hp (lh:=lh) (iU:=vs) h2 rfl (Nat.zero_le _) ok0 (λj v k _ hk=>by simp at hk)
 obtain⟨c1,c2,c3,c4,c5⟩:=Xu h4 (λi j v v' hij hi hj hb=>(hok.1 i j v v' hij hi hj hb).1)
 have aTr:bh (AV.rel (piL π vs)) x.1 (c.args.map a.eval++arr).toList:=a4.imp λv z hr=>AV.cZ b1.ext v z hr
 have aWy:=R.hp.local hok b3 b4
 have iT:∀b,piL π vs b≠none->b<lh.length:=λb hb=>by
  rw[b3]
  unfold piL at hb
  cases hv:vs[b]? with
  |none=>rw[hv] at hb;exact absurd rfl hb
  |some v=>exact(List.getElem?_eq_some_iff.1 hv).1
 have aTs:=S0 x.1 lh r aVj w (piL π vs) _ aTr aWy iT
 suffices key:∀(v:Value) (w':World),qD (piL π vs) w lh r (.returned v) w'->next (a.put o.dst v) w' by
  rcases aTs with⟨S1,S2⟩| ⟨v,S1,S2⟩
  ·have mu:(execOp a.eval o).run P w=.ok (.enter f (c.args.map a.eval++arr)) w:=by
    simp[execOp,ho,resolve,hc,hfv,Deferred.ofValue,invoke,S1]
   unfold Oper.wp
   rw[mu]
   refine Calls.mono S2 ?_
   intro e w' hp
   have rH:=hp
   obtain⟨_,v,rfl,_⟩:=rH
   exact key v w' hp
  ·have mu:(execOp a.eval o).run P w=.ok (.value v) w:=by
    simp[execOp,ho,resolve,hc,hfv,Deferred.ofValue,invoke,S1]
   unfold Oper.wp
   rw[mu]
   exact key v w S2
 rintro v w' ⟨πL,v',hv',arn,aAW,hHL,hFr,aVl,aUr⟩
 cases hv'
 have live:∀(j:Nat) u,vs[j]? =some u->∃q B s e,g.z u.b=some q∧u.o.val+u.n<=q∧π u.b=some (B,s,q,e)∧s+q<=e∧(u.own=true->u.o.val+u.n=q):=λj u hu=>by
  have hj:j<lh.length:=by rw[b3];exact(List.getElem?_eq_some_iff.1 hu).1
  obtain⟨q,hq⟩:=(b4 j u _ hu (List.getElem?_eq_getElem hj)).live
  obtain⟨B,s,e,hb,yI,_⟩:=R.hp.hp _ _ hq
  obtain⟨_,_,_,_,ew,hle,how⟩:=hok.2 j u hu
  rw[hb] at ew;cases ew
  exact⟨q,B,s,e,hq,hle,hb,yI,how⟩
 have K:Bck π πL vs aJ r.news.length:=⟨arn,λb hb=>by have:=aVl b hb;omega,hfr,λj u hu=>let⟨q,B,s,e,_,hle,hb,_,how⟩:=live j u hu;⟨B,s,q,e,hb,hle,how⟩⟩
 have aLK:∀B i,AG (piL π vs) lh.length (P4 r.vv) B i->∃(j:Nat) (u:Vw) (q s e:Nat),vs[j]? =some u∧g.z u.b=some q∧π u.b=some (B,s,q,e)∧s+q<=e∧s+u.o.val<=i∧i<(if u.own then e else s+u.o.val+u.n)∧i<e∧(u.own=true->u.o.val+u.n=q)∧u.o.val+u.n<=q∧(r.vv[j]? =some .kill∨∃b,r.vv[j]? =some (.set b)):=by
  rintro B i ⟨j,s1,q1,e1,hj,hD1,hp,i1,i2⟩
  have hu:vs[j]? =some (vs[j]'(by omega)):=List.getElem?_eq_getElem _
  obtain⟨q,B0,s,e,hq,hle,hb,yI,how⟩:=live j _ hu
  rw[vz hu hb] at hp
  simp only[Option.some.injEq,Prod.mk.injEq] at hp
  obtain⟨rfl,hs1,_,he1⟩:=hp
  rw[<-hs1] at i1
  rw[<-he1] at i2
  refine⟨j,_,q,s,e,hu,hq,hb,yI,i1,i2,?_,how,hle,?_⟩
  ·split at i2<;>omega
  ·have hcj:r.vv[j]? =some (r.vv[j]'(by omega)):=List.getElem?_eq_getElem _
   rw[hcj]
   cases P5:r.vv[j]'(by omega) with
   |kU=>exact absurd (by rw[hcj,P5]) hD1
   |set b=>exact .inr ⟨b,rfl⟩
   |kill=>exact .inl rfl
 have aVm:∀(j:Nat) (u:Vw),vs[j]? =some u->(r.vv[j]? =some .kill∨∃b,r.vv[j]? =some (.set b))->u.b<X.k->D u.b:=λj u hu P5=>by
  rcases P5 with P5| ⟨b,P5⟩
  ·exact hD (.kill u.b) (by simp[awo hu P5])
  ·exact hD (.c u.b u.o (Is (Jd vs aJ) b)) (by simp[adx h4 hu P5])
 have aNe:∀B i,B<X.w0.heap.size->AG (piL π vs) lh.length (P4 r.vv) B i->AG X.p0 X.k D B i:=λB i hB hft=>by
  obtain⟨j,u,q,s,e,hu,hq,hb,yI,i1,_,i3,_,_,P5⟩:=aLK B i hft
  rcases Nat.lt_or_ge u.b X.k with Y1|Y1
  ·exact⟨u.b,s,q,e,Y1,aVm j u hu P5 Y1,(R.uG u.b Y1).symm.trans hb,by omega,i3⟩
  ·exact R.ft u.b B s q e Y1 (by simp[hq]) hb hB i (by omega) i3
 generalize hg1:cj aNc g=g1
 generalize hg2:cj (nh vs r.vv) g1=g2
 generalize hg3:cj (EZ vs aJ r.news 0) g2=g3
 have G1:=c4 g
 rw[hg1] at G1
 have G2:=adw (vs:=vs) (cs:=r.vv) g1 c1
 rw[hg2] at G2
 obtain⟨N0,N1,N2,_⟩:=aij (vs:=vs) (aJ:=aJ) (bs:=r.news) (j0:=0) g2
 rw[hg3] at N0 N1 N2
 have uG:∀b n,¬(aJ<=b∧b<aJ+r.news.length)->g3.z b=some n->g.z b=some n∧(¬∃(j:Nat) (v:Vw),vs[j]? =some v∧r.vv[j]? =some .kill∧v.b=b)∧∀i,g3.c b i=g1.c b i:=λb n hb hz=>by
  obtain⟨n1,n2⟩:=N2 b (by omega)
  rw[n1] at hz
  by_cases hkl:∃(j:Nat) (v:Vw),vs[j]? =some v∧r.vv[j]? =some .kill∧v.b=b
  ·rw[G2.2.1 b hkl] at hz;cases hz
  ·obtain⟨k1,k2⟩:=G2.2.2 b hkl
   rw[k1,G1.1] at hz
   exact⟨hz,hkl,λi=>(n2 i).trans (k2 i)⟩
 have new:∀k,k<r.news.length->∃b,r.news[k]? =some b∧g3.z (aJ+k)=some (af.size b)∧(∀i,i<af.size b->g3.c (aJ+k) i=Jd vs aJ (af.get b i))∧hZ (r.heap lh) (lh.length+k)=some (af.size b):=λk I8=>by
  have hb:r.news[k]? =some (r.news[k]'I8):=List.getElem?_eq_getElem _
  have:=N1 k _ hb
  rw[Nat.zero_add] at this
  exact⟨_,hb,this.1,this.2,Xw (Y2 hb)⟩
 have idx:∀b,aJ<=b∧b<aJ+r.news.length->∃k,k<r.news.length∧b=aJ+k:=λb hb=>⟨b-aJ,by omega,by omega⟩
 have H3:pM (piB π πL vs.length aJ r.news.length) g3.c g3.z w':=by
  refine⟨hHL.am,λb B s q e hz hp yI=> ?_,λb n hz=> ?_,?_⟩
  ·by_cases hb:aJ<=b∧b<aJ+r.news.length
   ·obtain⟨k,I8,rfl⟩:=idx b hb
    obtain⟨bE,Xo,z1,z2,z3⟩:=new k I8
    rw[Tw I8,<-b3] at hp
    exact hHL.lb _ B s q e (by rw[z3];simp) hp yI
   ·cases hh:g3.z b with
    |none=>exact absurd hh hz
    |some n=>
     obtain⟨Li,hkl,hc3⟩:=uG b n hb hh
     obtain⟨B1,s1,e1,Fa,_⟩:=R.hp.hp b n Li
     have e2:=K.uG Fa
     rw[hp] at e2;cases e2
     exact R.hp.lb b B s q e (by rw[Li];simp) Fa yI
  ·by_cases hb:aJ<=b∧b<aJ+r.news.length
   ·obtain⟨k,I8,rfl⟩:=idx b hb
    obtain⟨bE,Xo,z1,z2,z3⟩:=new k I8
    rw[z1] at hz;cases hz
    obtain⟨B,s,e,hp,hle,k1,k2⟩:=hHL.hp _ _ z3
    refine⟨B,s,e,by rw[Tw I8,<-b3];exact hp,hle,k1,λj hj=> ?_⟩
    obtain⟨x,hx,hr⟩:=k2 j hj
    rw[adz (Y2 Xo) hj] at hr
    exact⟨x,hx,by rw[z2 j hj];exact K.aNb _ _ hr⟩
   ·obtain⟨Li,hkl,hc3⟩:=uG b n hb hz
    obtain⟨B,s,e,hp,hle,k1,k2⟩:=R.hp.hp b n Li
    refine⟨B,s,e,K.uG hp,hle,λi i1 i2=> ?_,λj hj=> ?_⟩
    ·have:=k1 i i1 i2
     exact⟨hFr.isSome this.1,by rw[hFr.fz (Y0 this.1)];exact this.2⟩
    ·rw[hc3]
     by_cases aRS:∃(jv:Nat) (u:Vw) (bE:af),vs[jv]? =some u∧r.vv[jv]? =some (.set bE)∧u.b=b∧u.o.val<=j∧j<u.o.val+u.n
     ·obtain⟨jv,u,bE,hu,P5,rfl,j1,j2⟩:=aRS
      have e1:=c5 g jv u bE j hu P5 j1 j2
      rw[hg1] at e1
      rw[e1]
      have vx:=c2 jv u bE hu P5
      have hjv:jv<lh.length:=by rw[b3];exact(List.getElem?_eq_some_iff.1 hu).1
      have aif:(r.heap lh)[jv]? =some (some bE):=by rw[Bk hjv];exact ady.1 bE P5 hjv
      obtain⟨B1,s1,e1',Fa,aWz,_,m2⟩:=hHL.hp jv _ (Xw aif)
      have:=arn _ _ (vz hu hp)
      rw[Fa] at this
      simp only[Option.some.injEq,Prod.mk.injEq] at this
      obtain⟨rfl,rfl,_,_⟩:=this
      obtain⟨x,hx,hr⟩:=m2 (j-u.o.val) (by omega)
      rw[adz aif (by omega)] at hr
      exact⟨x,by rw[show s+j=s+u.o.val+(j-u.o.val) by omega];exact hx,K.aNb _ _ hr⟩
     ·obtain⟨x,hx,hr⟩:=k2 j hj
      have WQ:=oJ (us:=aNc) (g:=g) (p:=.c b j) (λu hu ht=>by
       obtain⟨jv,v',bE,e1,e2,rfl⟩:=c3 u hu
       simp only[Up.E',Hw,c2 jv v' bE e1 e2] at ht
       exact aRS ⟨jv,v',bE,e1,e2,ht.1,ht.2.1,ht.2.2⟩)
      simp only[Gt.at,PV.c.injEq,hg1] at WQ
      rw[WQ]
      refine⟨x,?_,CV.cZ K.ext' _ _ hr⟩
      rw[hFr.cl (Y0 (by rw[hx];rfl)),hx]
      intro hft
      obtain⟨jv,u,q,s0,e0,hu,hq,Ot,yI,i1,i2,i3,how,aWA,P5⟩:=aLK _ _ hft
      by_cases hbb:u.b=b
      ·subst hbb
       rw[hp] at Ot;cases Ot
       rw[Li] at hq;cases hq
       rcases P5 with P5| ⟨bE,P5⟩
       ·exact hkl ⟨jv,u,hu,P5,rfl⟩
       ·refine aRS ⟨jv,u,bE,hu,P5,rfl,by omega,?_⟩
        cases aUs:u.own
        ·simp only[aUs,Bool.false_eq_true,if_false] at i2;omega
        ·have:=how aUs;omega
      ·exact R.hp.dj u.b b B s0 _ e0 s _ e hbb (by simp[hq]) (by simp[Li]) Ot hp (s+j) (by omega) i3 (by omega) (by omega)
  ·
   have no:∀k b' B s q e s' q' e',k<r.news.length->¬(aJ<=b'∧b'<aJ+r.news.length)->g3.z b'≠none->πL (vs.length+k)=some (B,s,q,e)->π b'=some (B,s',q',e')->∀i,s<=i->i<e->s'<=i->i<e'->False:=by
    intro k b' B s qq e s' q' e' I8 ew ru hp rH i i1 i2 i3 i4
    cases hzz:g3.z b' with
    |none=>exact ru hzz
    |some n'=>
    obtain⟨Li,hkl,_⟩:=uG b' n' ew hzz
    obtain⟨_,_,_,hp0,_,k1,_⟩:=R.hp.hp b' n' Li
    rw[rH] at hp0;cases hp0
    have hB:=Y0 (k1 i i3 i4).1
    obtain⟨jv,u,q,s0,e0,hu,hq,Ot,yI,m1,m2,m3,how,aWA,P5⟩:=aLK _ _ (aUr (vs.length+k) B s qq e (by omega) hp hB i i1 i2)
    by_cases hbb:u.b=b'
    ·subst hbb
     rcases P5 with P5| ⟨bE,P5⟩
     ·exact hkl ⟨jv,u,hu,P5,rfl⟩
     ·have hjv:jv<lh.length:=by rw[b3];exact(List.getElem?_eq_some_iff.1 hu).1
      have aif:(r.heap lh)[jv]? =some (some bE):=by rw[Bk hjv];exact ady.1 bE P5 hjv
      obtain⟨_,_,_,_,z3⟩:=new k I8
      rw[b3] at z3
      exact hHL.dj (vs.length+k) jv B s qq e _ _ _ (by omega) (by simp[z3]) (by simp[Xw aif]) hp (arn _ _ (vz hu Ot)) i i1 i2 m1 m2
    ·exact R.hp.dj u.b b' B s0 _ e0 s' _ e' hbb (by simp[hq]) (by simp[Li]) Ot rH i (by omega) m3 i3 i4
   intro b b' B s qq e s' q' e' kV hz ru hp rH i i1 i2 i3 i4
   by_cases hb:aJ<=b∧b<aJ+r.news.length
   ·obtain⟨k,I8,rfl⟩:=idx b hb
    rw[Tw I8] at hp
    by_cases ew:aJ<=b'∧b'<aJ+r.news.length
    ·obtain⟨k',aIu,rfl⟩:=idx b' ew
     rw[Tw aIu] at rH
     obtain⟨_,_,_,_,z3⟩:=new k I8
     obtain⟨_,_,_,_,z3'⟩:=new k' aIu
     rw[b3] at z3 z3'
     exact hHL.dj (vs.length+k) (vs.length+k') B s qq e s' q' e' (by omega) (by simp[z3]) (by simp[z3']) hp rH i i1 i2 i3 i4
    ·rw[Tx ew] at rH
     exact no k b' B s qq e s' q' e' I8 ew ru hp rH i i1 i2 i3 i4
   ·rw[Tx hb] at hp
    by_cases ew:aJ<=b'∧b'<aJ+r.news.length
    ·obtain⟨k',aIu,rfl⟩:=idx b' ew
     rw[Tw aIu] at rH
     exact no k' b B s' q' e' s qq e aIu hb hz rH hp i i3 i4 i1 i2
    ·rw[Tx ew] at rH
     cases hzz:g3.z b with
     |none=>exact hz hzz
     |some n=>
     cases aUt:g3.z b' with
     |none=>exact ru aUt
     |some n'=>
     exact R.hp.dj b b' B s qq e s' q' e' kV (by simp[(uG b n hb hzz).1]) (by simp[(uG b' n' ew aUt).1]) hp rH i i1 i2 i3 i4
 have R3:Rel X D (piB π πL vs.length aJ r.news.length) g3 a w':=by
  refine⟨λi=> ?_,R.nt,R.df,H3,λb hb=> ?_,λb B s qq e hkb hz hp hB i i1 i2=> ?_,R.fr.trans hFr aNe⟩
  ·rw[N0,G2.1,G1.2]
   exact AV.cZ K.ext' _ _ (R.tm i)
  ·rw[Tx (by omega)];exact R.uG b hb
  ·by_cases hb:aJ<=b∧b<aJ+r.news.length
   ·obtain⟨k,I8,rfl⟩:=idx b hb
    rw[Tw I8] at hp
    exact aNe B i hB (aUr (vs.length+k) B s qq e (by omega) hp (Nat.lt_of_lt_of_le hB R.fr.size) i i1 i2)
   ·rw[Tx hb] at hp
    cases hzz:g3.z b with
    |none=>exact absurd hzz hz
    |some n=>exact R.ft b B s qq e hkb (by simp[(uG b n hb hzz).1]) hp hB i i1 i2
 refine hn _ _ (piB π πL vs.length aJ r.news.length) K.ext' (λb hb=> ?_) ?_
 ·by_cases ew:aJ<=b∧b<aJ+r.news.length
  ·exact .inr ew
  ·rw[Tx ew] at hb;exact .inl hb
 ·have e3:cj (dm o.dst (aHY vs aJ r.val)++(aNc++(nh vs r.vv++EZ vs aJ r.news 0))) g=cj (dm o.dst (aHY vs aJ r.val)) g3:=by
   rw[Jm _ _ _ _ (λu hu i x e=>by
    rcases List.mem_append.1 hu with hu|hu
    ·obtain⟨_,_,_,_,_,rfl⟩:=c3 u hu;cases e
    ·rcases List.mem_append.1 hu with hu|hu
     ·obtain⟨_,rfl⟩:=Xv hu;cases e
     ·obtain⟨_,_,rfl⟩:=aAV hu;cases e)]
   rw[Nz,Nz,hg1,hg2,hg3]
  rw[e3]
  exact R3.dst hd (K.aWx _ _ aAW)
end
end Go.Ab
namespace Go.Ab
variable [ax]
section
variable {P:Program} {g:Gt}
theorem auB {afK:TypeId->RV->RV->Rd Bool}{D:Nat}(aEu:∀t x y r l,aH (afK t x y) g r l->∀(π:Pi) a b (w:World),x.rel π a->y.rel π b->(Op.equalIn D t a b).run P w=.ok r w){xs ys:af}:∀{fs:List Field} {r:Bool} {l:List Fp},aH (aHV P afK xs ys fs) g r l->
  ∀(π:Pi) (as bs:Array Value) (w:World),bh (CV.rel π) xs.list as.toList->bh (CV.rel π) ys.list bs.toList->(Op.eqFields D as bs fs).run P w=.ok r w
 | [],r,l,h,π,as,bs,w,_,_=>by cases h;simp[Op.eqFields]
 |f::fs,r,l,h,π,as,bs,w,ha,hb=>by
  simp only[aHV] at h
  split at h
  ·rename_i hn
   obtain⟨x,⟨_,h1⟩,_,h⟩:=aH.bind' h
   obtain⟨y,⟨_,h2⟩,_,h⟩:=aH.bind' h
   obtain⟨r1,⟨_,h3⟩,_,h⟩:=aH.bind' h
   obtain⟨r2,⟨_,h4⟩,_,h⟩:=aH.bind' h
   cases h
   obtain⟨u,hu,hru⟩:=h1.LQ ha w
   obtain⟨v,hv,hrv⟩:=h2.LQ hb w
   have e3:=aEu _ _ _ _ _ h3 π u v w hru hrv
   have e4:=auB aEu h4 π as bs w ha hb
   simp only[Op.eqFields,if_pos hn,Sem.run_bind,hu,hv,e3,Result.andThen_ok]
   cases r1<;>simp[e4]
  ·rename_i hn
   have e4:=auB aEu h π as bs w ha hb
   simp only[Op.eqFields,if_neg hn];exact e4
theorem aEv {afK:TypeId->RV->RV->Rd Bool}{D:Nat}{e:TypeId}{z:Nat}(aEu:∀t x y r l,aH (afK t x y) g r l->∀(π:Pi) a b (w:World),x.rel π a->y.rel π b->(Op.equalIn D t a b).run P w=.ok r w){xs ys:af}:∀{is:List Nat} {r:Bool} {l:List Fp},aH (aRq P afK e z xs ys is) g r l->
  ∀(π:Pi) (as bs:Array Value) (w:World),bh (CV.rel π) xs.list as.toList->bh (CV.rel π) ys.list bs.toList->
   (forIn is ((none,()):Option Bool×Unit) (λi (_:Option Bool×Unit)=>(do
    let a<-part e as (i*z)
    let b<-part e bs (i*z)
    let c<-Op.equalIn D e a b
    if (!c)=true then pure (ForInStep.done (some false,())) else pure (ForInStep.yield (none,())):Sem (ForInStep (Option Bool×Unit))))).run P w=.ok (if r then(none,()) else(some false,())) w
 | [],r,l,h,π,as,bs,w,_,_=>by cases h;simp
 |i::is,r,l,h,π,as,bs,w,ha,hb=>by
  obtain⟨x,⟨_,h1⟩,_,h⟩:=aH.bind' h
  obtain⟨y,⟨_,h2⟩,_,h⟩:=aH.bind' h
  obtain⟨r1,⟨_,h3⟩,_,h⟩:=aH.bind' h
  obtain⟨r2,⟨_,h4⟩,_,h⟩:=aH.bind' h
  cases h
  obtain⟨u,hu,hru⟩:=h1.LQ ha w
  obtain⟨v,hv,hrv⟩:=h2.LQ hb w
  have e3:=aEu _ _ _ _ _ h3 π u v w hru hrv
  have e4:=aEv aEu h4 π as bs w ha hb
  rw[List.forIn_cons]
  simp only[Sem.run_bind,hu,hv,e3,Result.andThen_ok]
  cases r1
  ·simp
  ·simp only[Bool.not_true,Bool.false_eq_true,if_false,Sem.run_pure,Result.andThen_ok,Bool.true_and]
   exact e4
omit [ax] in
theorem aNP (c:cI)(j:Nat):gK [c] j=.f (c.at j):=by
 unfold gK
 simp[Nat.mod_one]
theorem aIv {e:TypeId}{c c':cI}{n:Nat}{r:Bool}(hs:aa3 P e [c]=true)(hc:aAh n [c] [c']=some r){D D2:Nat}(hD:D=D2+1)(w:World):∃q:Nat->Bool,r=aq1 n q∧
  ∀i a b,(c.at i).rel a->(c'.at i).rel b->(Op.equalIn D e a b).run P w=.ok (q i) w:=by
 subst hD
 unfold aa3 at hs
 split at hs
 ·rename_i g1 hu hcc
  cases hcc
  unfold aAh at hc
  split at hc
  ·rename_i h1 h2;cases h1
  ·rename_i g h h1 h2
   cases h1;cases h2
   cases hc
   refine⟨_,rfl,λi a b ha hb=> ?_⟩
   have ha:a=.bool (g1 i):=ha
   have hb:b=.bool (h i):=hb
   subst ha hb
   exact run_equalIn_bool w D2 e _ _ hu
  ·cases hc
 ·rename_i k0 k1 g1 hu hcc
  cases hcc
  unfold aAh at hc
  split at hc
  ·rename_i k g k' h h1 h2
   cases h1;cases h2
   split at hc
   ·rename_i hk
    subst hk
    cases hc
    refine⟨_,rfl,λi a b ha hb=> ?_⟩
    have ha:a=.int k1 (g1 i):=ha
    have hb:b=.int k1 (h i):=hb
    subst ha hb
    exact run_equalIn_int w D2 e k1 k0 _ _ hu
   ·cases hc
  ·rename_i h1 h2;cases h1
  ·cases hc
 ·cases hs
omit [ax] in
theorem aIw {e:TypeId}{c:cI}(hs:aa3 P e [c]=true):aa2 P e=some false:=by
 unfold aa3 at hs
 unfold aa2
 split at hs
 ·rename_i hu _;rw[hu]
 ·rename_i hu _;rw[hu]
 ·cases hs
theorem awp {e:TypeId}{D n:Nat}{c c':cI}{q:Nat->Bool}{w:World}(aNf:aa2 P e=some false)(hq:∀i a b,(c.at i).rel a->(c'.at i).rel b->(Op.equalIn D e a b).run P w=.ok (q i) w){π:Pi}{as bs:Array Value}
  (ha:bh (CV.rel π) (af.list [.a (.l n) [c]]) as.toList)(hb:bh (CV.rel π) (af.list [.a (.l n) [c']]) bs.toList):∀{is:List Nat},(∀i∈is,i<n)->
   (forIn is ((none,()):Option Bool×Unit) (λi (_:Option Bool×Unit)=>(do
    let a<-part e as (i*1)
    let b<-part e bs (i*1)
    let c<-Op.equalIn D e a b
    if (!c)=true then pure (ForInStep.done (some false,())) else pure (ForInStep.yield (none,())):Sem (ForInStep (Option Bool×Unit))))).run P w=.ok (if is.all q then(none,()) else(some false,())) w
 | [],_=>by simp
 |i::is,hi=>by
  have cell:∀{c:cI} {as:Array Value},bh (CV.rel π) (af.list [.a (.l n) [c]]) as.toList->∃x,(part e as (i*1)).run P w=.ok x w∧(c.at i).rel x:=λ{c as} ha=>by
   have hs:af.size [.a (.l n) [c]]=n:=by simp[af.size,Sg.size,Sz.val]
   have hin:=hi i (by simp)
   obtain⟨x,hx,hr⟩:=(ia ha).2 i (by rw[hs];exact hin)
   rw[af.c9 (by simp[Sg.size,Sz.val];exact hin),Sg.mZ,aNP] at hr
   refine⟨x,?_,hr⟩
   have:as[i]? =some x:=by simpa using hx
   simp[part,Hy aNf,this]
  obtain⟨u,hu,hru⟩:=cell ha
  obtain⟨v,hv,hrv⟩:=cell hb
  have e3:=hq i u v hru hrv
  have e4:=awp aNf hq ha hb (is:=is) λj hj=>hi j (by simp[hj])
  rw[List.forIn_cons]
  simp only[Sem.run_bind,hu,hv,e3,Result.andThen_ok]
  cases hqi:q i
  ·simp[hqi]
  ·simp only[Bool.not_true,Bool.false_eq_true,if_false,Sem.run_pure,Result.andThen_ok,List.all_cons,hqi,Bool.true_and]
   exact e4
theorem aAX:∀{d:Nat} {t:TypeId} {x y:RV} {r:Bool} {l:List Fp},aH (eqT P d t x y) g r l->∀(D:Nat),d<=D->∀(π:Pi) a b (w:World),x.rel π a->y.rel π b->(Op.equalIn D t a b).run P w=.ok r w
 |0,_,_,_,_,_,h,_,_,_,_,_,_,_,_=>by cases h
 |d+1,t,x,y,r,l,h,D,hD,π,a,b,w,hx,hy=>by
  obtain⟨D',rfl⟩:∃D',D=D'+1:=⟨D-1,by omega⟩
  have ih:∀t x y r l,aH (eqT P d t x y) g r l->∀(π:Pi) a b (w:World),x.rel π a->y.rel π b->(Op.equalIn D' t a b).run P w=.ok r w:=λt x y r l h π a b w hx hy=>aAX h D' (by omega) π a b w hx hy
  unfold eqT at h
  split at h
  ·rename_i p q hu
   cases h
   have hx:a=_:=hx
   have hy:b=_:=hy
   subst hx hy
   exact run_equalIn_bool w D' t p q hu
  ·rename_i k0 k p k' q hu
   have hx:a=_:=hx
   have hy:b=_:=hy
   subst hx hy
   split at h
   ·rename_i hk
    subst hk
    cases h
    exact run_equalIn_int w D' t k k0 p q hu
   ·cases h
  ·rename_i p q hu
   cases h
   have hx:a=_:=hx
   have hy:b=_:=hy
   subst hx hy
   rw[run_equalIn_string w D' t p q hu,beq_toListBytes]
  ·rename_i e hu
   cases h
   have hx:a=_:=hx
   have hy:b=_:=hy
   subst hx hy
   simp[Op.equalIn,run_underlying hu]
  ·rename_i e p1 p2 p3 hu
   cases h
   obtain⟨B,s,q',e',_,hx,_⟩:=hx
   have hy:b=_:=hy
   subst hx hy
   simp[Op.equalIn,run_underlying hu]
  ·rename_i e p1 p2 p3 hu
   cases h
   obtain⟨B,s,q',e',_,hy,_⟩:=hy
   have hx:a=_:=hx
   subst hx hy
   simp[Op.equalIn,run_underlying hu]
  ·rename_i fs xs ys hu
   split at h
   ·cases h
   ·rename_i hst
    obtain⟨as,rfl,has⟩:=hx
    obtain⟨bs,rfl,hbs⟩:=hy
    have hf:P.fieldsOf t=fs:=by simp[Program.fieldsOf,hu]
    rw[run_equalIn_struct w D' t as bs (by rw[hf];exact hu) hst,hf]
    exact auB ih h π as bs w has hbs
  ·rename_i n e xs ys hu
   obtain⟨z,⟨_,h1⟩,_,h⟩:=aH.bind' h
   obtain⟨as,rfl,has⟩:=hx
   obtain⟨bs,rfl,hbs⟩:=hy
   have e1:List.range' 0 [:n].size=List.range n:=by
    rw[List.range_eq_range'];simp[Std.Legacy.Range.size]
   split at h
   ·rename_i r' aii
    cases h
    unfold aRr at aii
    split at aii
    ·rename_i m c m' c'
     split at aii
     ·rename_i hc
      simp only[Bool.and_eq_true,beq_iff,eA] at hc
      obtain⟨hd1,rfl,rfl,rfl,hsc⟩:=hc
      obtain⟨c0,rfl⟩:∃c0,c=[c0]:=by
       unfold aa3 at hsc
       split at hsc
       ·exact⟨_,rfl⟩
       ·exact⟨_,rfl⟩
       ·cases hsc
      obtain⟨c1,rfl⟩:∃c1,c'=[c1]:=by
       unfold aAh at aii
       split at aii
       ·exact⟨_,rfl⟩
       ·exact⟨_,rfl⟩
       ·cases aii
      obtain⟨q,hq1,hq2⟩:=aIv hsc aii (show D'=D'-1+1 by omega) w
      have key:=awp (P:=P) (aIw hsc) hq2 has hbs (is:=List.range m') (λi hi=>List.mem_range.1 hi)
      simp only[Op.equalIn,Sem.run_bind,run_underlying hu,Result.andThen_ok,run_sizeOf h1.du,Std.Legacy.Range.forIn_eq_forIn_range']
      rw[e1,key,hq1]
      unfold aq1
      cases(List.range m').all q<;>simp
     ·cases aii
    ·cases aii
   ·have key:=aEv ih h π as bs w has hbs
    simp only[Op.equalIn,Sem.run_bind,run_underlying hu,Result.andThen_ok,run_sizeOf h1.du,Std.Legacy.Range.forIn_eq_forIn_range']
    rw[e1,key]
    cases r<;>simp
  ·cases h
theorem aRT {t:TypeId}{x y:RV}{r:Bool}{l:List Fp}(h:aH (eqV P t x y) g r l)(π:Pi)(a b:Value)(w:World)(hx:x.rel π a)(hy:y.rel π b):
  (∀(op:BinOp) (p q:Operand),(eqGuard op t p q a b).run P w=.ok () w)∧(binOp .eql t a b).run P w=.ok (.bool r) w∧(binOp .neq t a b).run P w=.ok (.bool (!r)) w:=by
 unfold eqV at h
 split at h
 ·rename_i xs ys
  split at h
  ·cases h
  ·rename_i hg
   obtain⟨as,rfl,has⟩:=hx
   obtain⟨bs,rfl,hbs⟩:=hy
   have e:=aAX (x:=.agg xs) (y:=.agg ys) h 10000 (by omega) π (.agg as) (.agg bs) w ⟨as,rfl,has⟩ ⟨bs,rfl,hbs⟩
   refine⟨λop p q=>run_eqGuard_agg w op t p q as bs hg,?_,?_⟩
   ·rw[run_eql_struct,e];rfl
   ·rw[run_neq_struct,e];rfl
 ·cases h
 ·cases h
 ·cases h
 ·cases h
 ·have e:=aAX h 10000 (by omega) π a b w hx hy
  have e':(Op.equal t a b).run P w=.ok r w:=e
  unfold eqT at h
  split at h
  ·have hx:a=_:=hx
   have hy:b=_:=hy
   subst hx hy
   have:=ark (by intros;simp) (by intros;simp) (by intros;simp) (by intros;simp) e'
   exact⟨λop p q=>aCO op t p q _ _ w,this⟩
  ·exfalso;simp_all
  ·exfalso;simp_all
  ·have hx:a=_:=hx
   have hy:b=_:=hy
   subst hx hy
   have:=ark (by intros;simp) (by intros;simp) (by intros;simp) (by intros;simp) e'
   exact⟨λop p q=>adq op t p q _ _ w,this⟩
  ·obtain⟨B,s,q',e',_,hx,_⟩:=hx
   have hy:b=_:=hy
   subst hx hy
   have:=ark (by intros;simp) (by intros;simp) (by intros;simp) (by intros;simp) e
   exact⟨λop p q=>adq op t p q _ _ w,this⟩
  ·obtain⟨B,s,q',e',_,hy,_⟩:=hy
   have hx:a=_:=hx
   subst hx hy
   have:=ark (by intros;simp) (by intros;simp) (by intros;simp) (by intros;simp) e
   exact⟨λop p q=>adq op t p q _ _ w,this⟩
  ·exfalso;simp_all
  ·exfalso;simp_all
  ·cases h
end
end Go.Ab
namespace Go.Ab
variable [ax]
section
variable {P:Program} {E:Env} {X:Cx} {D:Nat->Prop} {g:Gt}
theorem aEw (hE:∀f F,E f=some F->Sound P f F){o:Oper}{aJ:Nat}{us:List Up}{fp:List Fp}(h:aH (aop P E o aJ) g us fp):xp P o X D aJ us g:=by
 unfold aop at h
 simp only[] at h
 split at h
 ·rename_i x od;exact aAG (.inl od) h
 ·rename_i x od;exact aAG (.inr od) h
 ·rename_i c x y od;exact aLC od h
 ·rename_i e od;exact aIe od h
 ·rename_i e x od;exact aNH od h
 ·rename_i t n c od;exact ayD od h
 ·rename_i t ps od;exact aIm od h
 ·rename_i t n ps od;exact auw od h
 ·rename_i t x od;exact aLD od h
 ·rename_i t x y od;exact aIf od h
 ·rename_i x od;exact aAK od h
 ·rename_i op t x y yt od
  obtain⟨r1,⟨_,h1⟩,_,h⟩:=aH.bind' h
  obtain⟨r2,⟨_,h2⟩,_,h⟩:=aH.bind' h
  obtain⟨v,⟨_,h3⟩,_,h⟩:=aH.bind' h
  cases h
  refine gE λπ a w R=> ?_
  obtain⟨z,hz,hr⟩:=aNK h3 (λr l hr π a b w hx hy=>aRT hr π a b w hx hy) (h1.tt R) (h2.tt R) x y w
  refine⟨z,?_,hr⟩
  simp only[execOp,od]
  rw[Sem.run_bind,hz];rfl
 ·rename_i op t x od;exact aLE od h
 ·rename_i s d x od;exact aCP od h
 ·rename_i t x od;exact aAL od h
 ·rename_i f fs aa1 od;exact aAM od h
 ·rename_i t x lo hi od;exact aIj od h
 ·rename_i t x i od;exact ayB od h
 ·rename_i t x i od;exact aIg od h
 ·rename_i t x i od;exact ayC od h
 ·rename_i t x i od;exact aIi od h
 ·rename_i x i od;exact aCQ od h
 ·rename_i c od
  obtain⟨args,⟨l0,h1⟩,_,h⟩:=aH.bind' h
  split at h
  ·rename_i b hc
   unfold biV at h
   split at h
   ·exact aNM od hc h1 rfl h
   ·rename_i s x
    obtain⟨t,⟨_,h2⟩,_,h⟩:=aH.bind' h
    obtain⟨_,⟨_,h3⟩,_,h⟩:=aH.bind' h
    obtain⟨s',⟨_,h4⟩,_,h⟩:=aH.bind' h
    obtain⟨x',⟨_,h5⟩,_,h⟩:=aH.bind' h
    have h2:=h2.du
    have h3:=h3.ck
    have hts:c.argTypes=#[t,t]:=by
     split at h3
     ·rename_i t1 t2 he
      have e:=Nat.eq_of_beq_eq_true h3
      subst e
      have e2:=aWv he
      rw[e2] at h2
      simp at h2
      rw[e2,h2]
     ·cases h3
    exact aF6 od hc h1 rfl hts h4.asC h5.asC h
   ·rename_i d x
    obtain⟨t,⟨_,h2⟩,_,h⟩:=aH.bind' h
    obtain⟨d',⟨_,h4⟩,_,h⟩:=aH.bind' h
    obtain⟨x',⟨_,h5⟩,_,h⟩:=aH.bind' h
    exact aLH od hc h1 rfl h2.du h4.asC h5.asC h
   ·exact aIo (λx y v l h=>aNN h) od hc (aTp c.argTypes) h1 rfl h
   ·exact aIo (λx y v l h=>aNO h) od hc (aTq c.argTypes) h1 rfl h
   ·cases h
  ·rename_i fo hc
   obtain⟨fv,⟨_,h2⟩,_,h⟩:=aH.bind' h
   obtain⟨fc,⟨_,h3⟩,_,h⟩:=aH.bind' h
   have aRR:∀(π:Pi) (x:Value),fv.rel π x->∃arr:Array Value,x=.func (.func fc.1) #[] arr∧bh (RV.rel π) fc.2 arr.toList:=by
    unfold aUl at h3
    split at h3
    ·cases h3;exact λπ x hx=>hx
    ·cases h3
     rintro π x ⟨B,s,q,e,hb,hx,hle⟩
     exact⟨_,hx,⟨⟨B,s,q,e,hb,rfl,hle⟩,trivial⟩⟩
    ·cases h3
   exact aLJ hE od hc h1 h2 aRR h
  ·cases h
 ·cases h
end
end Go.Ab
namespace Go.Ab
variable [ax]
inductive Y3 (P:Program) (E:Env) (ops:List Oper) (o:Oper) (aJ:Nat) (g:Gt):List Up->List Fp->Prop
 |run {us fp} (hg:o.guard=none) (h:aH (aop P E o aJ) g us fp):Y3 P E ops o aJ g us fp
 |aNg {us fp} (j:Nat) (want:Bool) (t:Tmp) (hg:o.guard=some (j,want)) (ht:LR ops j=some t) (hx:g.t t=.r (.c (.f (.b want)))) (h:aH (aop P E o aJ) g us fp):Y3 P E ops o aJ g us (.t t::fp)
 |skip (j:Nat) (want:Bool) (t:Tmp) (hg:o.guard=some (j,want)) (ht:LR ops j=some t) (hx:g.t t=.r (.c (.f (.b (!want))))∨g.t t=.tup []):Y3 P E ops o aJ g (dm o.dst YW) [.t t]
omit [ax] in
theorem Y3.local {P:Program}{E:Env}{ops:List Oper}{o:Oper}{aJ:Nat}{g g':Gt}{us:List Up}{fp:List Fp}(h:Y3 P E ops o aJ g us fp)(e:∀f∈fp,∀p,f.has p->g.at p=g'.at p):Y3 P E ops o aJ g' us fp:=by
 cases h with
 |run hg h=>exact .run hg (h.local e)
 |aNg j want t hg ht hx h=>
  have e1:g.t t=g'.t t:=by simpa[Gt.at] using e (.t t) (by simp) (.t t) rfl
  exact .aNg j want t hg ht (e1▸hx) (h.local λf hf=>e f (by simp[hf]))
 |skip j want t hg ht hx=>
  have e1:g.t t=g'.t t:=by simpa[Gt.at] using e (.t t) (by simp) (.t t) rfl
  exact .skip j want t hg ht (e1▸hx)
inductive B5 (P:Program) (E:Env) (ops:List Oper) (k:Nat):List Oper->St->List Tr->St->Prop
 |nil (s:St):B5 P E ops k [] s [] s
 |cons {o rest s s1 s2 us fp tr de} (hd:∀d,o.dst=some d->d<s.tmps.length) (h:Y3 P E ops o s.heap.length s.gt us fp) (hus:tr.us=us) (hfp:∀f∈fp,f∈tr.fp) (ha:iD k us s=some s1) (ht:B5 P E ops k rest s1 de s2):B5 P E ops k (o::rest) s (tr::de) s2
omit [ax] in
theorem alT {s:St}{t:Nat}{v:AV}(h:s.tmp t=v):{s with tmps:=s.tmps.set t v}=s:=by
 have:s.tmps.set t v=s.tmps:=by
  apply List.ext_getElem?
  intro i
  rw[List.getElem?_set]
  by_cases e:t=i
  ·subst e
   by_cases hl:t<s.tmps.length
   ·rw[if_pos rfl,if_pos hl]
    rw[List.getElem?_eq_getElem hl]
    unfold St.tmp at h
    rw[xJ] at h
    simp only[List.getD,List.getElem?_eq_getElem hl,Option.getD_some] at h
    rw[h]
   ·rw[if_pos rfl,if_neg hl,List.getElem?_eq_none (by omega)]
  ·rw[if_neg e]
 rw[this]
omit [ax] in
theorem aik {k:Nat}:∀{us:List Up} {s s':St},iD k us s=some s'->s'.tmps.length=s.tmps.length
 | [],s,s',h=>by simp[iD] at h;subst h;rfl
 |u::us,s,s',h=>by
  simp only[iD] at h
  split at h
  ·rw[aik h]
   cases u with
   |t i v=>simp[Up.app]
   |c b o v=>simp only[Up.app];split<;>first|rfl|(split<;>rfl)
   |_=>rfl
  ·cases h
omit [ax] in
theorem Jp {P:Program}{E:Env}{nt k:Nat}{ops:List Oper}{ρ:Type}:∀{rest:List Oper} {s:St} {l:List Tr} {c:St->List Tr->Option ρ} {r:ρ},nt<=s.tmps.length->Jf P E nt k ops rest s l c=some r->
  ∃s' de,B5 P E ops k rest s de s'∧c s' (l++de)=some r
 | [],s,l,c,r,_,h=>⟨s,[],.nil s,by simpa[Jf] using h⟩
 |o::rest,s,l,c,r,WQ,h=>by
  have go:∀(l0:List Fp) (hd:∀d,o.dst=some d->d<s.tmps.length),(∀us fp,aH (aop P E o s.heap.length) s.gt us fp->∃fp',Y3 P E ops o s.heap.length s.gt us fp'∧∀f∈fp',f∈fp.reverse++l0)->
    ((aop P E o s.heap.length).run s l0 λus fp=>match iD k us s with
     |some s'=>Jf P E nt k ops rest s' (l++[⟨fp,us⟩]) c
     |none=>none)=some r->∃s' de,B5 P E ops k (o::rest) s de s'∧c s' (l++de)=some r:=by
   intro l0 hd od mu
   obtain⟨us,fp,h1,h2⟩:=Rd.aLA mu
   cases ha:iD k us s with
   |none=>rw[ha] at h2;cases h2
   |some s1=>
    rw[ha] at h2
    obtain⟨s2,de,t1,t2⟩:=Jp (by rw[aik ha];exact WQ) h2
    obtain⟨fp',o1,o2⟩:=od us fp h1
    exact⟨s2,⟨fp.reverse++l0,us⟩::de,.cons hd o1 rfl o2 ha t1,by simpa using t2⟩
  have skip:∀(j:Nat) (want:Bool) (t:Tmp) (hd:∀d,o.dst=some d->d<s.tmps.length),o.guard=some (j,want)->LR ops j=some t->(s.gt.t t=.r (.c (.f (.b (!want))))∨s.gt.t t=.tup [])->
    (match iD k (dm o.dst YW) s with
     |some s'=>Jf P E nt k ops rest s' (l++[⟨[.t t],dm o.dst YW⟩]) c
     |none=>none)=some r->∃s' de,B5 P E ops k (o::rest) s de s'∧c s' (l++de)=some r:=by
   intro j want t hd hg ht hx mu
   cases ha:iD k (dm o.dst YW) s with
   |none=>rw[ha] at mu;cases mu
   |some s1=>
    rw[ha] at mu
    obtain⟨s2,de,t1,t2⟩:=Jp (by rw[aik ha];exact WQ) mu
    exact⟨s2,⟨[.t t],dm o.dst YW⟩::de,.cons hd (.skip j want t hg ht hx) rfl (by simp) ha t1,by simpa using t2⟩
  simp only[Jf,aH9,aAD,Tt] at h
  split at h
  ·cases h
  ·rename_i hdk
   have hd:∀d,o.dst=some d->d<s.tmps.length:=λd hd=>by
    unfold aRx at hdk;rw[hd] at hdk
    have h2:Nat.blt d nt=true:=hdk
    exact Nat.lt_of_lt_of_le (rr.1 h2) WQ
   split at h
   ·rename_i hg
    exact go [] hd (λus fp h=>⟨fp,.run hg h,by simp⟩) h
   ·rename_i j want hg
    split at h
    ·cases h
    ·rename_i t ht
     split at h
     ·rename_i x hx
      have goG:s.tmp t=.r (.c (.f (.b want)))->_:=λhx=>go [.t t] hd (λus fp h=>⟨.t t::fp,.aNg j want t hg ht hx h,by simp;intro a ha;exact .inl ha⟩)
      cases x with
      |true=>
       simp only[aie] at h
       split at h
       ·cases want with
        |true=>
         simp only at h
         rw[alT hx] at h
         exact goG hx h
        |false=>
         simp only at h
         rw[alT hx] at h
         exact skip j false t hd hg ht (.inl hx) h
       ·cases h
      |false=>
       simp only[aie] at h
       split at h
       ·cases want with
        |true=>
         simp only at h
         rw[alT hx] at h
         exact skip j true t hd hg ht (.inl hx) h
        |false=>
         simp only at h
         rw[alT hx] at h
         exact goG hx h
       ·cases h
     ·rename_i hx
      exact skip j want t hd hg ht (.inr hx) h
     ·cases h
omit [ax] in
theorem xM {k b:Nat}{d:List Nat}{x:Nat}:x∈mark k b d↔x∈d∨(x=b∧b<k):=by
 unfold mark
 split
 ·rename_i h
  simp only[Bool.and_eq_true,Nat.blt_eq] at h
  simp only[List.mem_cons]
  constructor
  ·rintro (rfl|h1)
   ·exact .inr ⟨rfl,h.1⟩
   ·exact .inl h1
  ·rintro (h1| ⟨rfl,_⟩)
   ·exact .inr h1
   ·exact .inl rfl
 ·rename_i h
  constructor
  ·exact .inl
  ·rintro (h1| ⟨rfl,hk⟩)
   ·exact h1
   ·have I8:Nat.blt x k=true:=by simpa using hk
    have:d.any (Nat.beq x)=true:=by
     by_cases ha:d.any (Nat.beq x)=true
     ·exact ha
     ·rw[I8] at h;simp_all
    obtain⟨y,hy,he⟩:=List.any_eq_true.1 this
    rw[Nat.eq_of_beq_eq_true he];exact hy
structure aF9 (k:Nat)(us:List Up)(s s':St):Prop where
 heap:s'.heap.length=s.heap.length+bY us
 tmps:s'.tmps.length=s.tmps.length
 sub:∀b,b∈s.cQ->b∈s'.cQ
 perm:∀u∈us,u.perm k (·∈s'.cQ)
 kU:∀b,b<k->b<s.heap.length->b∉s'.cQ->s'.bE b=s.bE b
omit [ax] in
theorem Up.aTt {k:Nat}{u:Up}{s:St}(h:u.ok s=true):aF9 k [u] s (u.app k s):=by
 cases u with
 |t i v=>exact⟨rfl,by simp[Up.app],λ_ h=>h,λu hu=>by simp at hu;subst hu;trivial,λ_ _ _ _=>rfl⟩
 |c b lo vs=>
  simp only[Up.ok] at h
  split at h
  ·rename_i bE hb
   split at h
   case h_2=>cases h
   rename_i p hp
   have e:(Up.c b lo vs).app k s={s with heap:=s.heap.set b (some p.2),cQ:=mark k b s.cQ}:=by simp[Up.app,hb,hp]
   rw[e]
   refine⟨by simp[bY],rfl,λx hx=>xM.2 (.inl hx),λu hu=> ?_,λb' ew hl hn=> ?_⟩
   ·simp at hu;subst hu;exact λhk=>xM.2 (.inr ⟨rfl,hk⟩)
   ·have kV:b'≠b:=λe=>hn (xM.2 (.inr ⟨e,e▸ew⟩))
    show((s.heap.set b _)[b']?).getD none=_
    rw[ari (St.aF2 hb),if_neg kV];rfl
  ·cases h
 |new b bE=>
  have hb:b=s.heap.length:=Nat.eq_of_beq_eq_true h
  refine⟨by simp[Up.app,bY],rfl,λ_ h=>h,λu hu=>by simp at hu;subst hu;trivial,λb' _ hl _=> ?_⟩
  show((s.heap++[some bE])[b']?).getD none=_
  rw[aH5,if_neg (by omega)];rfl
 |kill b=>
  have hb:b<s.heap.length:=by have h:=h;simp[Up.ok,Nat.blt] at h;omega
  refine⟨by simp[Up.app,bY],rfl,λx hx=>xM.2 (.inl hx),λu hu=> ?_,λb' ew hl hn=> ?_⟩
  ·simp at hu;subst hu;exact λhk=>xM.2 (.inr ⟨rfl,hk⟩)
  ·have kV:b'≠b:=λe=>hn (xM.2 (.inr ⟨e,e▸ew⟩))
   show((s.heap.set b none)[b']?).getD none=_
   rw[ari hb,if_neg kV];rfl
omit [ax] in
theorem Up.aLL {k:Nat}{D D':Nat->Prop}(h:∀b,D b->D' b){u:Up}(p:u.perm k D):u.perm k D':=by
 cases u<;>first|trivial|exact λhk=>h _ (p hk)
omit [ax] in
theorem Hz {k:Nat}:∀{us:List Up} {s s':St},iD k us s=some s'->aF9 k us s s'
 | [],s,s',h=>by
  simp[iD] at h;subst h
  exact⟨rfl,rfl,λ_ h=>h,λu hu=>by simp at hu,λ_ _ _ _=>rfl⟩
 |u::us,s,s',h=>by
  simp only[iD] at h
  split at h
  ·rename_i hu
   have A:=Up.aTt (k:=k) hu
   have B:=Hz h
   refine⟨?_,B.tmps.trans A.tmps,λb hb=>B.sub _ (A.sub b hb),λv hv=> ?_,λb hb hl hn=> ?_⟩
   ·rw[B.heap,A.heap,show bY (u::us)=bY [u]+bY us from CG [u] us];omega
   ·rcases List.mem_cons.1 hv with rfl|hv
    ·exact Up.aLL B.sub (A.perm v (by simp))
    ·exact B.perm v hv
   ·have h1:=A.heap
    rw[B.kU b hb (by omega) hn,A.kU b hb hl (λhx=>hn (B.sub b hx))]
  ·cases h
end Go.Ab
namespace Go.Ab
variable [ax]
section
variable {P:Program} {E:Env} {X:Cx} {D:Nat->Prop}
theorem aAY {ops:Array Oper}{o:Oper}{j:Nat}{want:Bool}{t:Tmp}{g:Gt}{π:Pi}{a:Act}{w:World}(R:Rel X D π g a w)(hg:o.guard=some (j,want))(ht:LR ops.toList j=some t):
  (g.t t=.r (.c (.f (.b want)))->Region.wanted o (yielded ops a.tmps)=true)∧((g.t t=.r (.c (.f (.b (!want))))∨g.t t=.tup [])->Region.wanted o (yielded ops a.tmps)=false):=by
 have hs:(ops[j]?).bind (·.dst)=some t:=by
  unfold LR at ht
  rw[<-Array.getElem?_toList];exact ht
 have hr:=R.tm t
 have hy:∀b:Bool,a.tmps.getD t undef=.bool b->yielded ops a.tmps j=some b:=λb hb=>by
  unfold yielded
  rw[hs]
  simp only[Option.bind_some]
  rw[Array.getD_eq_getD_getElem?] at hb
  cases hx:a.tmps[t]? with
  |none=>rw[hx] at hb;simp[undef] at hb
  |some x=>rw[hx] at hb;simp at hb;subst hb;rfl
 refine⟨λh=> ?_,λh=> ?_⟩
 ·rw[h] at hr
  have:=hy want hr
  simp[Region.wanted,hg,this]
 ·rcases h with h|h
  ·rw[h] at hr
   have:=hy (!want) hr
   simp only[Region.wanted,hg,this]
   cases want<;>rfl
  ·rw[h] at hr
   obtain⟨arr,hx,aIx⟩:=hr
   have:yielded ops a.tmps j=none:=by
    unfold yielded
    rw[hs]
    simp only[Option.bind_some]
    rw[Array.getD_eq_getD_getElem?] at hx
    cases hy:a.tmps[t]? with
    |none=>rfl
    |some x=>rw[hy] at hx;simp at hx;subst hx;rfl
   simp only[Region.wanted,hg,this]
   rfl
theorem awq (hE:∀f F,E f=some F->Sound P f F){ops:Array Oper}{i:Nat}{o:Oper}(hi:ops[i]? =some o){aJ:Nat}{us:List Up}{fp:List Fp}{g:Gt}(h:Y3 P E ops.toList o aJ g us fp)
  {π:Pi}{a:Act}{w:World}(R:Rel X D π g a w)(hk:X.k<=aJ)(hfr:∀b,aJ<=b->b<aJ+bY us->π b=none)(hd:∀d,o.dst=some d->d<X.N)(hp:∀u∈us,u.perm X.k D){K:Act->World->Prop}{Q:Exit->Act->World->Prop}
  (hn:∀a' w' π',Ext π π'->(∀b,π' b≠none->π b≠none∨(aJ<=b∧b<aJ+bY us))->Rel X D π' (cj us g) a' w'->K a' w'):wpOp P ops Q i K a w:=by
 unfold wpOp
 rw[hi]
 simp only[]
 cases h with
 |run hg h=>
  have:Region.wanted o (yielded ops a.tmps)=true:=by simp[Region.wanted,hg]
  rw[if_pos this]
  exact .inl (aEw hE h π a w K Q R hk hfr hd hp hn)
 |aNg j want t hg ht hx h=>
  rw[if_pos ((aAY R hg ht).1 hx)]
  exact .inl (aEw hE h π a w K Q R hk hfr hd hp hn)
 |skip j want t hg ht hx=>
  rw[if_neg (by rw[(aAY R hg ht).2 hx];simp)]
  exact hn _ _ π (Ext.refl _) (λb h=>.inl h) (R.dst hd (apA π))
structure gv (X:Cx)(h0:List af)(π:Pi)(s:St)(a:Act)(w:World):Prop where
 rel:Rel X (·∈s.cQ) π s.gt a w
 len:s.tmps.length=X.N
 dom:∀b,π b≠none->b<s.heap.length
 drt:∀b,b<X.k->b∉s.cQ->s.bE b=h0[b]?
 hk:X.k<=s.heap.length
 dlt:∀b,b∈s.cQ->b<X.k
theorem aF9.aRU {X:Cx}{h0:List af}{π π':Pi}{s s':St}{us:List Up}{a a':Act}{w w':World}(A:aF9 X.k us s s')(R:gv X h0 π s a w)(hg:s'.gt=cj us s.gt)(hR:Rel X (·∈s'.cQ) π' (cj us s.gt) a' w')
  (iT:∀b,π' b≠none->π b≠none∨(s.heap.length<=b∧b<s.heap.length+bY us))(hdl:∀b,b∈s'.cQ->b<X.k):gv X h0 π' s' a' w':=by
 refine⟨hg▸hR,A.tmps.trans R.len,λb hb=> ?_,λb hb hn=> ?_,?_,hdl⟩
 ·rw[A.heap]
  rcases iT b hb with h|h
  ·have:=R.dom b h;omega
  ·omega
 ·rw[A.kU b hb (Nat.lt_of_lt_of_le hb R.hk) hn]
  exact R.drt b hb (λh=>hn (A.sub b h))
 ·rw[A.heap];have:=R.hk;omega
omit [ax] in
theorem ail {k:Nat}:∀{us:List Up} {s s':St},iD k us s=some s'->(∀b,b∈s.cQ->b<k)->∀b,b∈s'.cQ->b<k
 | [],s,s',h,hd,b,hb=>by simp[iD] at h;subst h;exact hd b hb
 |u::us,s,s',h,hd,b,hb=>by
  simp only[iD] at h
  split at h
  ·refine ail h (λb hb=> ?_) b hb
   cases u with
   |t i v=>exact hd b hb
   |c b' lo vs=>
    simp only[Up.app] at hb
    split at hb
    ·split at hb
     ·rcases xM.1 hb with h| ⟨rfl,h⟩
      ·exact hd b h
      ·exact h
     ·exact hd b hb
    ·exact hd b hb
   |new b' bE=>exact hd b hb
   |kill b'=>
    rcases xM.1 hb with h| ⟨rfl,h⟩
    ·exact hd b h
    ·exact h
  ·cases h
theorem awr (hE:∀f F,E f=some F->Sound P f F){h0:List af}{ops:Array Oper}{Q:Exit->Act->World->Prop}{s':St}(hQ:∀a' w' π',gv X h0 π' s' a' w'->Q .normal a' w'):
  ∀{rest:List Oper} {i:Nat} {s:St} {de:List Tr} {π:Pi} {a:Act} {w:World},B5 P E ops.toList X.k rest s de s'->(∀j,rest[j]? =ops[i+j]?)->gv X h0 π s a w->wpOps P ops Q (List.range' i rest.length) a w
 | [],i,s,de,π,a,w,h,_,R=>by
  cases h
  exact hQ a w π R
 |o::rest,i,s,de,π,a,w,h,hr,R=>by
  cases h with|@cons _ _ _ s1 _ us fp tr de hd h hus hfp ha ht=>
  have A:=Hz ha
  have hg:=LW ha
  have hio:ops[i]? =some o:=by simpa using(hr 0).symm
  rw[List.length_cons,List.range'_succ,wpOps_cons]
  refine awq hE hio h (R.rel.aF4 λb hb=>A.sub b hb) R.hk (λb h1 _=> ?_) (λd h=>by rw[<-R.len];exact hd d h) A.perm (λa' w' π' hx iT hR=> ?_)
  ·cases hb:π b with
   |none=>rfl
   |some p=>have:=R.dom b (by simp[hb]);omega
  ·exact awr hE hQ ht (λj=>by have:=hr (j+1);rw[show i+1+j=i+(j+1) by omega,<-this];simp) (A.aRU R hg hR iT (ail ha R.dlt))
end
end Go.Ab
namespace Go.Ab
variable [ax]
def tch (us:List Up)(p:Pt):Prop:=∃u∈us,u.E' p
def gl:List Tr->(Nat->Bool)->Nat->Gt->Gt
 | [],_,_,g=>g
 |tr::de,L,i,g=>gl de L (i+1) (if L i=true then cj tr.us g else g)
omit [ax] in
theorem aGa {p:Pt}:∀{de:List Tr} {L L':Nat->Bool} {i:Nat} {g g':Gt},(∀(j:Nat) tr,de[j]? =some tr->L (i+j)≠L' (i+j)->¬tch tr.us p)->g.at p=g'.at p->(gl de L i g).at p=(gl de L' i g').at p
 | [],_,_,_,_,_,_,h=>h
 |tr::de,L,L',i,g,g',hd,h=>by
  simp only[gl]
  refine aGa (λj LY hj kV=>hd (j+1) LY (by simpa using hj) (by rw[show i+(j+1)=i+1+j by omega];exact kV)) ?_
  have h0:=hd 0 tr rfl
  rw[Nat.add_zero] at h0
  by_cases h1:L i=true<;>by_cases h2:L' i=true
  ·rw[if_pos h1,if_pos h2];exact adn (.inr h)
  ·rw[if_pos h1,if_neg h2]
   have:=h0 (by rw[h1];exact λe=>h2 e.symm)
   rw[oJ λu hu ht=>this ⟨u,hu,ht⟩];exact h
  ·rw[if_neg h1,if_pos h2]
   have:=h0 (by rw[h2];exact h1)
   rw[oJ λu hu ht=>this ⟨u,hu,ht⟩];exact h
  ·rw[if_neg h1,if_neg h2];exact h
omit [ax] in
theorem aAZ:∀(a b:List Tr) (L:Nat->Bool) (i:Nat) (g:Gt),gl (a++b) L i g=gl b L (i+a.length) (gl a L i g)
 | [],b,L,i,g=>by simp[gl]
 |x::a,b,L,i,g=>by
  simp only[List.cons_append,gl,List.length_cons]
  rw[aAZ a b,show i+1+a.length=i+(a.length+1) by omega]
omit [ax] in
theorem alU:∀{de:List Tr} {L L':Nat->Bool} {i:Nat} {g:Gt},(∀j,j<de.length->L (i+j)=L' (i+j))->gl de L i g=gl de L' i g
 | [],_,_,_,_,_=>rfl
 |tr::de,L,L',i,g,h=>by
  simp only[gl]
  have:=h 0 (by simp)
  rw[Nat.add_zero] at this
  rw[this]
  exact alU λj hj=>by have:=h (j+1) (by simp;omega);rwa [show i+(j+1)=i+1+j by omega] at this
omit [ax] in
theorem aro:∀{de:List Tr} {L:Nat->Bool} {i:Nat} {g:Gt},(∀j,j<de.length->L (i+j)=false)->gl de L i g=g
 | [],_,_,_,_=>rfl
 |tr::de,L,i,g,h=>by
  simp only[gl]
  have:=h 0 (by simp)
  rw[Nat.add_zero] at this
  rw[this]
  exact aro λj hj=>by have:=h (j+1) (by simp;omega);rwa [show i+(j+1)=i+1+j by omega] at this
omit [ax] in
theorem aRV {de:List Tr}{L L':Nat->Bool}{i:Nat}{tr:Tr}{g:Gt}(hi:de[i]? =some tr)(h0:L i=false)(h1:L' i=true)(hL:∀j,j≠i->L' j=L j)
  (hap:∀(j:Nat) LY,i<j->de[j]? =some LY->L j=true->∀p,tch tr.us p->¬tch LY.us p):gl de L' 0 g=cj tr.us (gl de L 0 g):=by
 have lY:=(List.getElem?_eq_some_iff.1 hi).1
 have aTu:de=de.take i++(tr::de.drop (i+1)):=by
  have e:de[i]=tr:=(List.getElem?_eq_some_iff.1 hi).2
  rw[<-e,List.getElem_cons_drop,List.take_append_drop]
 have hlen:(de.take i).length=i:=by simp;omega
 have key:∀M:Nat->Bool,gl de M 0 g=gl (de.drop (i+1)) M (i+1) (if M i=true then cj tr.us (gl (de.take i) M 0 g) else gl (de.take i) M 0 g):=λM=>by
  conv=>lhs;rw[aTu]
  rw[aAZ,hlen,Nat.zero_add]
  rfl
 rw[key L',key L,if_pos h1,if_neg (by rw[h0];simp)]
 have e1:gl (de.take i) L' 0 g=gl (de.take i) L 0 g:=alU λj hj=>by rw[hlen] at hj;exact hL _ (by omega)
 rw[e1]
 have e2:∀h,gl (de.drop (i+1)) L' (i+1) h=gl (de.drop (i+1)) L (i+1) h:=λh=>alU λj _=>hL _ (by omega)
 rw[e2]
 apply Gt.aM7
 intro p
 have aVn:∀(j:Nat) LY,(de.drop (i+1))[j]? =some LY->L (i+1+j)=true->∀p,tch tr.us p->¬tch LY.us p:=λj LY hj hl p hp=>by
  rw[List.getElem?_drop] at hj
  exact hap (i+1+j) LY (by omega) hj hl p hp
 by_cases hp:tch tr.us p
 ·have a1:=aGa (p:=p) (de:=de.drop (i+1)) (L:=L) (L':=λ_=>false) (i:=i+1) (g:=cj tr.us (gl (de.take i) L 0 g)) (g':=cj tr.us (gl (de.take i) L 0 g)) (λj LY hj kV=>aVn j LY hj (by simpa using kV) p hp) rfl
  rw[aro (L:=λ_=>false) (λ_ _=>rfl)] at a1
  rw[a1]
  exact adn (.inl hp)
 ·have WQ:∀u∈tr.us,¬u.E' p:=λu hu ht=>hp ⟨u,hu,ht⟩
  rw[oJ WQ]
  exact aGa (λj LY _ kV=>absurd rfl kV) (oJ WQ)
omit [ax] in
theorem aA0 (acc:List Nat)(i:Nat):∀(l:List Edge) (m:Nat),Nat.testBit (l.foldl (aLu acc) m) i=true->
  Nat.testBit m i=true∨∃e∈l,Region.binds .any e=true∧(e.on=i∨Nat.testBit (acc.getD e.on 0) i=true)
 | [],m,h=>.inl h
 |e::l,m,h=>by
  rw[List.foldl_cons] at h
  rcases aA0 acc i l _ h with h1| ⟨e',he',h1⟩
  ·unfold aLu at h1
   cases hb:Region.binds .any e with
   |false=>rw[hb] at h1;exact .inl h1
   |true=>
    rw[hb] at h1
    simp only[Nat.testBit_or,Bool.or_eq_true,Nat.testBit_two_pow,decide_eq_true_eq] at h1
    rcases h1 with(h1|h1)|h1
    ·exact .inl h1
    ·exact .inr ⟨e,by simp,hb,.inl h1⟩
    ·exact .inr ⟨e,by simp,hb,.inr h1⟩
  ·exact .inr ⟨e',by simp[he'],h1⟩
omit [ax] in
theorem aA1:∀(l:List Oper) (acc:List Nat),∃t,Je l acc=acc++t
 | [],acc=>⟨[],by simp[Je]⟩
 |o::l,acc=>by
  obtain⟨t,ht⟩:=aA1 l (acc++[mask acc o])
  exact⟨_,by rw[Je,ht,List.append_assoc]⟩
omit [ax] in
theorem aA2 {i:Nat}:∀(l:List Oper) (acc:List Nat) (j:Nat) (o:Oper),l[j]? =some o->(∀e∈o.after.toList,Region.binds .any e=true->e.on<acc.length+j)->Nat.testBit ((Je l acc).getD (acc.length+j) 0) i=true->
  ∃e∈o.after.toList,Region.binds .any e=true∧(e.on=i∨(e.on<acc.length+j∧Nat.testBit ((Je l acc).getD e.on 0) i=true))
 | [],_,j,o,h,_,_=>by simp at h
 |o0::l,acc,0,o,h,he,hb=>by
  simp at h;subst h
  obtain⟨t,ht⟩:=aA1 l (acc++[mask acc o0])
  have hm:Je (o0::l) acc=acc++[mask acc o0]++t:=by rw[Je,ht]
  rw[hm] at hb ⊢
  simp only[Nat.add_zero,List.append_assoc,List.getD,List.getElem?_append_right (Nat.le_refl _),Nat.sub_self] at hb
  simp only[List.singleton_append,List.getElem?_cons_zero,Option.getD_some] at hb
  rcases aA0 acc i _ 0 hb with h0| ⟨e,he',hbd,h1⟩
  ·simp at h0
  ·have lY:=he e he' hbd
   rw[Nat.add_zero] at lY
   refine⟨e,he',hbd,h1.imp id λh2=>⟨by omega,?_⟩⟩
   rw[List.append_assoc]
   simp only[List.getD] at h2 ⊢
   rw[List.getElem?_append_left lY]
   exact h2
 |o0::l,acc,j+1,o,h,he,hb=>by
  have e1:acc.length+(j+1)=(acc++[mask acc o0]).length+j:=by simp;omega
  rw[Je] at hb ⊢
  rw[e1] at hb he ⊢
  exact aA2 l _ j o (by simpa using h) he hb
omit [ax] in
theorem Y4:∀{l:List Oper} {i0:Nat},On l i0=true->∀(j:Nat) o,l[j]? =some o->∀e∈o.after.toList,Region.binds .any e=true->e.on<i0+j
 | [],_,_,j,o,h,_,_,_=>by simp at h
 |o0::l,i0,hk,0,o,h,e,he,hb=>by
  simp at h;subst h
  simp only[On,Bool.and_eq_true] at hk
  have:=List.all_eq_true.1 hk.1 e he
  rw[hb] at this
  simp only[Bool.not_true,Bool.false_or,Nat.blt_eq] at this
  omega
 |o0::l,i0,hk,j+1,o,h,e,he,hb=>by
  simp only[On,Bool.and_eq_true] at hk
  have:=Y4 hk.2 j o (by simpa using h) e he hb
  omega
omit [ax] in
theorem Y5 {ms:List Nat}:∀{l:List Tr} {j0:Nat},Om ms l j0=true->∀(i j:Nat) x y,i<j->l[i]? =some x->l[j]? =some y->Nat.testBit (ms.getD (j0+j) 0) (j0+i)=true∨x.ade y=false
 | [],_,_,i,j,x,y,_,h,_=>by simp at h
 |x0::l,j0,hk,0,j,x,y,hij,hx,hy=>by
  simp at hx;subst hx
  simp only[Om,Bool.and_eq_true] at hk
  obtain⟨j',rfl⟩:∃j',j=j'+1:=⟨j-1,by omega⟩
  have hy':l[j']? =some y:=by simpa using hy
  have hm:(y,j')∈l.zipIdx:=by
   rw[List.mem_iff_getElem?]
   exact⟨j',by simp[List.getElem?_zipIdx,hy']⟩
  have:=List.all_eq_true.1 hk.1 (y,j') hm
  simp only[Bool.or_eq_true,Bool.not_eq_true'] at this
  rw[show j0+(j'+1)=j0+1+j' by omega]
  exact this
 |x0::l,j0,hk,i+1,j,x,y,hij,hx,hy=>by
  simp only[Om,Bool.and_eq_true] at hk
  obtain⟨j',rfl⟩:∃j',j=j'+1:=⟨j-1,by omega⟩
  have:=Y5 hk.2 i j' x y (by omega) (by simpa using hx) (by simpa using hy)
  rw[show j0+(j'+1)=j0+1+j' by omega,show j0+(i+1)=j0+1+i by omega]
  exact this
omit [ax] in
theorem aNQ {x y:Tr}{p:Pt}{f:Fp}(hf:f∈y.fp)(hp:f.has p)(ht:tch x.us p):x.ade y=true∧y.ade x=true:=by
 obtain⟨u,hu,ht⟩:=ht
 have h:=Fp.aAw hp ht
 constructor
 ·unfold Tr.ade
  rw[Bool.or_eq_true];left
  refine List.any_eq_true.2 ⟨u,hu,?_⟩
  rw[Bool.or_eq_true];left
  exact List.any_eq_true.2 ⟨f,hf,h⟩
 ·unfold Tr.ade
  rw[Bool.or_eq_true];right
  refine List.any_eq_true.2 ⟨u,hu,?_⟩
  exact List.any_eq_true.2 ⟨f,hf,h⟩
omit [ax] in
theorem aNR {x y:Tr}{p:Pt}(h1:tch x.us p)(h2:tch y.us p):x.ade y=true:=by
 obtain⟨u,hu,ht⟩:=h1
 obtain⟨v,hv,hs⟩:=h2
 unfold Tr.ade
 rw[Bool.or_eq_true];left
 refine List.any_eq_true.2 ⟨u,hu,?_⟩
 rw[Bool.or_eq_true];right
 exact List.any_eq_true.2 ⟨v,hv,Up.aAw hs ht⟩
def xq (de:List Tr):List Up:=de.flatMap Tr.us
omit [ax] in
theorem aLM:∀(de:List Tr) (i j0:Nat) (g:Gt),gl de (λj=>decide (j<j0+i)) j0 g=cj (xq (de.take i)) g
 | [],i,j0,g=>by simp[gl,xq,cj]
 |tr::de,0,j0,g=>by
  rw[aro (λj _=>by simp)]
  simp[xq,cj]
 |tr::de,i+1,j0,g=>by
  simp only[gl]
  rw[if_pos (by simp)]
  have:=aLM de i (j0+1) (cj tr.us g)
  rw[show j0+1+i=j0+(i+1) by omega] at this
  rw[this]
  simp[xq,cj]
omit [ax] in
theorem aTv {de:List Tr}{L:Nat->Bool}{g:Gt}(h:∀i,i<de.length->L i=true):gl de L 0 g=cj (xq de) g:=by
 have:=aLM de de.length 0 g
 rw[List.take_length] at this
 rw[<-this]
 exact alU λj hj=>by simp[h j hj];omega
omit [ax] in
theorem aim {k:Nat}:∀{us vs:List Up} {s s1 s2:St},iD k us s=some s1->iD k vs s1=some s2->iD k (us++vs) s=some s2
 | [],vs,s,s1,s2,h,h'=>by simp[iD] at h;subst h;exact h'
 |u::us,vs,s,s1,s2,h,h'=>by
  simp only[iD,List.cons_append] at h ⊢
  split at h
  ·rename_i hu;exact aim h h'
  ·cases h
omit [ax] in
theorem B5.app {P:Program}{E:Env}{ops:List Oper}{k:Nat}:∀{rest:List Oper} {s s':St} {de:List Tr},B5 P E ops k rest s de s'->iD k (xq de) s=some s'∧de.length=rest.length
 | [],s,s',de,h=>by cases h;exact⟨rfl,rfl⟩
 |o::rest,s,s',de,h=>by
  cases h with|@cons _ _ _ s1 _ us fp tr de hd h hus hfp ha ht=>
  obtain⟨h1,h2⟩:=ht.app
  refine⟨?_,by simp[h2]⟩
  subst hus
  show iD k (tr.us++xq de) s=some s'
  exact aim ha h1
omit [ax] in
theorem B5.at {P:Program}{E:Env}{ops:List Oper}{k:Nat}:∀{rest:List Oper} {s s':St} {de:List Tr},B5 P E ops k rest s de s'->∀(i:Nat) o,rest[i]? =some o->∃tr fp,de[i]? =some tr∧(∀f∈fp,f∈tr.fp)∧
   Y3 P E ops o (s.heap.length+bY (xq (de.take i))) (cj (xq (de.take i)) s.gt) tr.us fp∧(∀d,o.dst=some d->d<s.tmps.length)
 | [],_,_,_,_,i,o,h=>by simp at h
 |o0::rest,s,s',de,h,i,o,ho=>by
  cases h with|@cons _ _ _ s1 _ us fp tr de hd h hus hfp ha ht=>
  subst hus
  cases i with
  |zero=>
   simp at ho;subst ho
   exact⟨tr,fp,rfl,hfp,by simpa[xq,bY,cj] using h,hd⟩
  |succ i=>
   obtain⟨LY,fp',e1,e2,e3,e4⟩:=ht.at i o (by simpa using ho)
   have A:=Hz ha
   refine⟨LY,fp',by simpa using e1,e2,?_,λd h=>by rw[<-A.tmps];exact e4 d h⟩
   have hc:bY (xq (List.take (i+1) (tr::de)))=bY tr.us+bY (xq (de.take i)):=by
    simp only[List.take_succ_cons,xq,List.flatMap_cons,CG]
   have hg:cj (xq (List.take (i+1) (tr::de))) s.gt=cj (xq (de.take i)) s1.gt:=by
    simp only[List.take_succ_cons,xq,List.flatMap_cons,Nz]
    rw[LW ha]
   rw[hc,hg,<-Nat.add_assoc,<-A.heap]
   exact e3
end Go.Ab
namespace Go.Ab
variable [ax]
section
variable {P:Program} {E:Env} {X:Cx}
omit [ax] in
theorem auC (de:List Tr){i j:Nat}(h:i<=j):bY (xq (de.take i))<=bY (xq (de.take j)):=by
 obtain⟨d,rfl⟩:∃d,j=i+d:=⟨j-i,by omega⟩
 rw[List.take_add,xq,xq,List.flatMap_append,CG]
 omega
omit [ax] in
theorem Ty {de:List Tr}{i:Nat}{tr:Tr}(h:de[i]? =some tr):bY (xq (de.take (i+1)))=bY (xq (de.take i))+bY tr.us:=by
 have lY:=(List.getElem?_eq_some_iff.1 h).1
 have he:=(List.getElem?_eq_some_iff.1 h).2
 rw[List.take_succ_eq_append_getElem lY,he,xq,xq,List.flatMap_append,CG]
 simp
omit [ax] in
theorem am6 {f f':Nat->Bool}{i:Nat}(h1:f i=true)(h2:f' i=false)(h:∀j,j≠i->f' j=f j):∀n,i<n->(List.range n).countP f=(List.range n).countP f'+1
 |0,hn=>by omega
 |n+1,hn=>by
  rw[List.range_succ,List.countP_append,List.countP_append]
  by_cases e:i=n
  ·subst e
   have:(List.range i).countP f=(List.range i).countP f':=by
    apply List.countP_congr
    intro j hj
    rw[h j (by have:=List.mem_range.1 hj;omega)]
   rw[this]
   simp[h1,h2]
  ·rw[am6 h1 h2 h n (by omega),List.countP_singleton,List.countP_singleton,h n (Ne.symm e)]
   omega
theorem wpAny_all (hE:∀f F,E f=some F->Sound P f F){h0:List af}{ops:Array Oper}{Q:Exit->Act->World->Prop}{s s':St}{de:List Tr}(hT:B5 P E ops.toList X.k ops.toList s de s')
  (he:On ops.toList 0=true)(hp:Om (Je ops.toList []) de 0=true)(hlen:s.tmps.length=X.N)(hsk:X.k<=s.heap.length)(hdl:∀b,b∈s.cQ->b<X.k)(hdr:∀b,b<X.k->b∉s.cQ->s.bE b=h0[b]?)
  (hQ:∀a' w' π',gv X h0 π' s' a' w'->Q .normal a' w'):
  ∀(fuel:Nat) (eu:Array Bool) (π:Pi) (a:Act) (w:World),eu.size=ops.size->(List.range ops.size).countP (λi=> !eu.getD i false)=fuel->
   (∀(j:Nat) o,ops[j]? =some o->eu.getD j false=true->∀e∈o.after,Region.binds .any e=true->eu.getD e.on false=true)->
   Rel X (·∈s'.cQ) π (gl de (λi=>eu.getD i false) 0 s.gt) a w->
   (∀b,π b≠none->b<s.heap.length∨∃(i:Nat) (tr:Tr),de[i]? =some tr∧eu.getD i false=true∧s.heap.length+bY (xq (de.take i))<=b∧b<s.heap.length+bY (xq (de.take i))+bY tr.us)->
   wpAny P .any ops Q fuel eu a w:=by
 obtain⟨Xr,htl⟩:=hT.app
 have A:=Hz Xr
 have hn:de.length=ops.size:=by rw[htl];simp
 have bef:∀(eu:Array Bool),(∀(j:Nat) o,ops[j]? =some o->eu.getD j false=true->∀e∈o.after,Region.binds .any e=true->eu.getD e.on false=true)->
   ∀(j:Nat) (o:Oper) (i:Nat),ops[j]? =some o->(∀e∈o.after,Region.binds .any e=true->eu.getD e.on false=true)->Nat.testBit ((Je ops.toList []).getD j 0) i=true->eu.getD i false=true:=by
  intro eu BE j
  induction j using Nat.strongRecOn with
  |_ j ih=>
   intro o i ho aNh hb
   have ho':ops.toList[j]? =some o:=by rw[Array.getElem?_toList];exact ho
   obtain⟨e,he1,he2,h1⟩:=aA2 ops.toList [] j o ho' (λe h1 h2=>by have:=Y4 he j o ho' e h1 h2;simpa using this) (by simpa using hb)
   have hl:=aNh e (Array.mem_toList_iff.1 he1) he2
   rcases h1 with rfl| ⟨lY,h1⟩
   ·exact hl
   ·simp only[List.length_nil,Nat.zero_add] at lY
    have hjs:j<ops.size:=(Array.getElem?_eq_some_iff.1 ho).1
    have hoe:ops[e.on]? =some (ops[e.on]'(by omega)):=Array.getElem?_eq_getElem _
    exact ih e.on lY _ i hoe (BE e.on _ hoe hl) h1
 intro fuel
 induction fuel with
 |zero=>
  intro eu π a w vx aNd BE R iT
  have aIx:∀i,i<ops.size->eu.getD i false=true:=λi hi=>by
   have:=List.countP_eq_zero.1 aNd i (List.mem_range.2 hi)
   simpa using this
  refine⟨?_,hQ a w π ?_⟩
  ·unfold Region.ready
   rw[List.filter_eq_nil_iff]
   intro i hi
   have hi:=List.mem_range.1 hi
   have:=aIx i hi
   have e:eu.getD i true=true:=by
    simp only[Array.getD_eq_getD_getElem?,Array.getElem?_eq_getElem (show i<eu.size by omega),Option.getD_some] at this ⊢
    exact this
   rw[e];simp
  ·rw[aTv (λi hi=>aIx i (by omega))] at R
   refine⟨(LW Xr)▸R,A.tmps.trans hlen,λb hb=> ?_,λb hb hn'=> ?_,?_,ail Xr hdl⟩
   ·rw[A.heap]
    rcases iT b hb with h| ⟨i,tr,htr,_,_,h2⟩
    ·omega
    ·have h3:=Ty htr
     have h4:=auC de (show i+1<=de.length from(List.getElem?_eq_some_iff.1 htr).1)
     rw[List.take_length] at h4
     omega
   ·rw[A.kU b hb (by omega) hn']
    exact hdr b hb (λh=>hn' (A.sub b h))
   ·rw[A.heap];omega
 |succ fuel ih=>
  intro eu π a w vx aNd BE R iT
  have aUu:∀i,i<ops.size->eu.getD i true=eu.getD i false:=λi hi=>by
   simp only[Array.getD_eq_getD_getElem?,Array.getElem?_eq_getElem (show i<eu.size by omega),Option.getD_some]
  refine⟨λhr=> ?_,λi hi=> ?_⟩
  ·exfalso
   have aIx:∀i,i<ops.size->eu.getD i false=true:=by
    intro i
    induction i using Nat.strongRecOn with
    |_ i ihi=>
     intro hi
     cases hl:eu.getD i false with
     |true=>rfl
     |false=>
      have ho:ops[i]? =some (ops[i]'hi):=Array.getElem?_eq_getElem _
      have aUv:i∈Region.ready .any ops eu:=mem_ready.2 ⟨by rw[aUu i hi];exact hl,_,ho,λe he1 he2=>by
       have lY:=Y4 he i _ (by rw[Array.getElem?_toList];exact ho) e (Array.mem_toList_iff.2 he1) he2
       exact ihi e.on (by omega) (by omega)⟩
      rw[hr] at aUv;cases aUv
   have:(List.range ops.size).countP (λi=> !eu.getD i false)=0:=List.countP_eq_zero.2 λi hi=>by rw[aIx i (List.mem_range.1 hi)];simp
   omega
  ·obtain⟨hun,o,ho,aNh⟩:=mem_ready.1 hi
   have his:i<ops.size:=(Array.getElem?_eq_some_iff.1 ho).1
   have aIy:eu.getD i false=false:=by rw[<-aUu i his];exact hun
   obtain⟨tr,fp,htr,hfp,od,hd⟩:=hT.at i o (by rw[Array.getElem?_toList];exact ho)
   have hG:cj (xq (de.take i)) s.gt=gl de (λj=>decide (j<i)) 0 s.gt:=by
    have:=aLM de i 0 s.gt
    simp only[Nat.zero_add] at this
    exact this.symm
   rw[hG] at od
   have aRW:∀(j:Nat) LY,i<j->de[j]? =some LY->eu.getD j false=true->tr.ade LY=true->False:=λj LY hij hj hl hc=>by
    rcases Y5 hp i j tr LY hij htr hj with h|h
    ·simp only[Nat.zero_add] at h
     have hjs:j<ops.size:=by rw[<-hn];exact(List.getElem?_eq_some_iff.1 hj).1
     have hoj:ops[j]? =some (ops[j]'hjs):=Array.getElem?_eq_getElem _
     have:=bef eu BE j _ i hoj (BE j _ hoj hl) h
     rw[aIy] at this;cases this
    ·rw[hc] at h;cases h
   have aWB:=od.local (g':=gl de (λj=>eu.getD j false) 0 s.gt) (λf hf p aWC=>by
    refine aGa (λj LY hj kV=> ?_) rfl
    simp only[Nat.zero_add] at kV
    intro ht
    have hc:=aNQ (hfp f hf) aWC ht
    rcases Nat.lt_trichotomy j i with hji|hji|hji
    ·have hlj:eu.getD j false=false:=by
      cases h:eu.getD j false with
      |false=>rfl
      |true=>exact absurd (by rw[h];simp[hji]) kV
     rcases Y5 hp j i LY tr hji hj htr with h|h
     ·simp only[Nat.zero_add] at h
      have:=bef eu BE i o j ho aNh h
      rw[hlj] at this;cases this
     ·rw[hc.1] at h;cases h
    ·subst hji
     exact kV (by rw[aIy];simp)
    ·have hlj:eu.getD j false=true:=by
      cases h:eu.getD j false with
      |true=>rfl
      |false=>exact absurd (by rw[h];simp;omega) kV
     exact aRW j LY hji hj hlj hc.2)
   have aVo:∀u∈tr.us,u∈xq de:=λu hu=>List.mem_flatMap.2 ⟨tr,List.mem_of_getElem? htr,hu⟩
   refine awq hE ho aWB R (by omega) (λb h1 h2=> ?_) (λd h=>by rw[<-hlen];exact hd d h) (λu hu=>A.perm u (aVo u hu)) (λa' w' π' hx aVp hR=> ?_)
   ·cases hb:π b with
    |none=>rfl
    |some p=>
     exfalso
     rcases iT b (by simp[hb]) with h| ⟨i',LY,aRX,hl',h3,h4⟩
     ·omega
     ·rcases Nat.lt_trichotomy i' i with hii|hii|hii
      ·have e1:=Ty aRX
       have e2:=auC de (show i'+1<=i from hii)
       omega
      ·subst hii;rw[aIy] at hl';cases hl'
      ·have e1:=Ty htr
       have e2:=auC de (show i+1<=i' from hii)
       omega
   ·have aA3:∀j,(eu.setIfInBounds i true).getD j false=if j=i then true else eu.getD j false:=λj=>by
     simp only[Array.getD_eq_getD_getElem?]
     by_cases e:j=i
     ·subst e;simp[show j<eu.size by omega]
     ·rw[if_neg e,Array.getElem?_setIfInBounds_ne (Ne.symm e)]
    refine ih (eu.setIfInBounds i true) π' a' w' (by simp[vx]) ?_ (λj oj hoj hl e he1 he2=> ?_) ?_ (λb hb=> ?_)
    ·have:=am6 (f:=λi=> !eu.getD i false) (f':=λj=> !(eu.setIfInBounds i true).getD j false) (i:=i) (by simp[aIy]) (by simp only[aA3];simp) (λj hj=>by simp only[aA3,if_neg hj]) ops.size his
     omega
    ·rw[aA3] at hl ⊢
     by_cases e1:e.on=i
     ·rw[if_pos e1]
     ·rw[if_neg e1]
      by_cases e2:j=i
      ·subst e2
       rw[ho] at hoj;cases hoj
       exact aNh e he1 he2
      ·rw[if_neg e2] at hl
       exact BE j oj hoj hl e he1 he2
    ·rw[aRV (L:=λj=>eu.getD j false) (L':=λj=>(eu.setIfInBounds i true).getD j false) htr aIy (by simp only[aA3];simp) (λj hj=>by simp only[aA3,if_neg hj])
      (λj LY hij hj hl p Fa hp2=>aRW j LY hij hj hl (aNR Fa hp2))]
     exact hR
    ·rcases aVp b hb with h| ⟨h1,h2⟩
     ·rcases iT b h with h| ⟨i',LY,aRX,hl',h3,h4⟩
      ·exact .inl h
      ·refine .inr ⟨i',LY,aRX,?_,h3,h4⟩
       rw[aA3];split<;>first|rfl|exact hl'
     ·exact .inr ⟨i,tr,htr,by rw[aA3,if_pos rfl],h1,h2⟩
theorem aGb (hE:∀f F,E f=some F->Sound P f F)(hm:P.follows .mixedOrders=true){h0:List af}{id:Nat}{ops:Array Oper}{Q:Exit->Act->World->Prop}{s s':St}{de:List Tr}(hT:B5 P E ops.toList X.k ops.toList s de s')
  (he:On ops.toList 0=true)(hp:Om (Je ops.toList []) de 0=true){π:Pi}{a:Act}{w:World}(R:gv X h0 π s a w)(hQ:∀a' w' π',gv X h0 π' s' a' w'->Q .normal a' w'):(Code.region id ops true).wp P Q a w:=by
 refine wp_region_any hm ?_
 have hf:∀i,(Array.replicate ops.size false).getD i false=false:=λi=>by
  simp only[Array.getD_eq_getD_getElem?,Array.getElem?_replicate]
  split<;>rfl
 have A:=Hz hT.app.1
 refine wpAny_all hE hT he hp R.len R.hk R.dlt R.drt hQ ops.size _ π a _ (by simp) ?_ (λj o _ hl=>by rw[hf] at hl;cases hl) ?_ (λb hb=>.inl (R.dom b hb))
 ·rw[List.countP_eq_length.2 λi _=>by rw[hf];rfl];simp
 ·rw[aro (λj _=>hf _)]
  exact(R.rel.aF4 λb hb=>A.sub b hb).drew
theorem aGc (hE:∀f F,E f=some F->Sound P f F){h0:List af}{id:Nat}{ops:Array Oper}{Q:Exit->Act->World->Prop}{s s':St}{de:List Tr}(hT:B5 P E ops.toList X.k ops.toList s de s')
  {π:Pi}{a:Act}{w:World}(R:gv X h0 π s a w)(hQ:∀a' w' π',gv X h0 π' s' a' w'->Q .normal a' w'):(Code.region id ops false).wp P Q a w:=by
 refine wp_region ?_
 have:=awr hE hQ hT (i:=0) (λj=>by simp) R
 rw[List.range_eq_range']
 simpa using this
end
end Go.Ab
namespace Go.Ab
variable [ax]
def Jq (π:Pi)(H:Nat)(m:List Nat):Pi:=λb=>if b<H then π b else match m[b-H]? with
 |some b0=>π b0
 |none=>none
def xr (m m':List Nat):Prop:=∃t,m'=m++t
omit [ax] in
theorem xr.refl (m:List Nat):xr m m:=⟨[],by simp⟩
omit [ax] in
theorem xr.trans {a b c:List Nat}(h:xr a b)(k:xr b c):xr a c:=by
 obtain⟨t,rfl⟩:=h;obtain⟨u,rfl⟩:=k;exact⟨t++u,by simp⟩
omit [ax] in
theorem xr.get {m m':List Nat}(h:xr m m'){j b:Nat}(hj:m[j]? =some b):m'[j]? =some b:=by
 obtain⟨t,rfl⟩:=h
 rw[List.getElem?_append_left (List.getElem?_eq_some_iff.1 hj).1,hj]
omit [ax] in
theorem xr.ext {π:Pi}{H:Nat}{m m':List Nat}(h:xr m m'):Ext (Jq π H m) (Jq π H m'):=by
 intro b p hp
 unfold Jq at hp ⊢
 split
 ·rename_i hb;rw[if_pos hb] at hp;exact hp
 ·rename_i hb
  rw[if_neg hb] at hp
  cases hj:m[b-H]? with
  |none=>rw[hj] at hp;cases hp
  |some b0=>rw[h.get hj];rw[hj] at hp;exact hp
def MOk (H:Nat)(m:List Nat):Prop:=m.Nodup∧∀b∈m,H<=b
omit [ax] in
theorem aEx {b:Nat}:∀{m:List Nat} {i0 i:Nat},idx b m i0=some i->∃k,i=i0+k∧m[k]? =some b
 | [],_,_,h=>by simp[idx] at h
 |x::m,i0,i,h=>by
  simp only[idx] at h
  split at h
  ·rename_i hx
   cases h
   exact⟨0,rfl,by simp[Nat.eq_of_beq_eq_true hx]⟩
  ·obtain⟨k,h1,h2⟩:=aEx h
   exact⟨k+1,by omega,by simpa using h2⟩
omit [ax] in
theorem aEy {b:Nat}:∀{m:List Nat} {i0:Nat},idx b m i0=none->b∉m
 | [],_,_=>by simp
 |x::m,i0,h=>by
  simp only[idx] at h
  split at h
  ·cases h
  ·rename_i hx
   have:=aEy h
   simp only[List.mem_cons,not_or]
   exact⟨λe=>by subst e;simp at hx,this⟩
omit [ax] in
theorem ain {H b:Nat}{m:List Nat}:xr m (ah8 H b m).2∧(MOk H m->MOk H (ah8 H b m).2)∧∀π,Jq π H (ah8 H b m).2 (ah8 H b m).1=π b:=by
 unfold ah8
 split
 ·rename_i hb
  have hb:=Nat.le_of_ble_eq_true hb
  split
  ·rename_i i hi
   obtain⟨k,h1,h2⟩:=aEx hi
   refine⟨xr.refl _,id,λπ=> ?_⟩
   unfold Jq
   rw[if_neg (by omega),show H+i-H=k by omega,h2]
  ·rename_i hi
   have hnm:=aEy hi
   refine⟨⟨_,rfl⟩,λok=>⟨?_,λx hx=> ?_⟩,λπ=> ?_⟩
   ·rw[List.nodup_append]
    exact⟨ok.1,by simp,λx hx y hy e=>by simp at hy;subst hy;subst e;exact hnm hx⟩
   ·rcases List.mem_append.1 hx with h|h
    ·exact ok.2 x h
    ·simp at h;omega
   ·unfold Jq
    rw[if_neg (by omega),show H+m.length-H=m.length by omega]
    simp
 ·rename_i hb
  have hb:b<H:=by
   rcases Nat.lt_or_ge b H with h|h
   ·exact h
   ·have:=Nat.ble_eq_true_of_le h;simp[this] at hb
  exact⟨xr.refl _,id,λπ=>by unfold Jq;rw[if_pos hb]⟩
structure Gc {α:Type}(R:Pi->α->Value->Prop)(H:Nat)(a:α)(m:List Nat)(r:α×List Nat):Prop where
 pre:xr m r.2
 ok:MOk H m->MOk H r.2
 rel:∀π x,R π a x->R (Jq π H r.2) r.1 x
theorem aEz (H:Nat)(c:CV)(m:List Nat):Gc CV.rel H c m (gcC H c m):=by
 cases c<;>simp only[gcC]
 case ptr b o n=>
  obtain⟨h1,h2,h3⟩:=ain (H:=H) (b:=b) (m:=m)
  refine⟨h1,h2,λπ x ⟨B,s,q,e,hp,hx⟩=>⟨B,s,q,e,?_,hx⟩⟩
  rw[h3];exact hp
 case cl f b o n=>
  obtain⟨h1,h2,h3⟩:=ain (H:=H) (b:=b) (m:=m)
  refine⟨h1,h2,λπ x ⟨B,s,q,e,hp,hx⟩=>⟨B,s,q,e,?_,hx⟩⟩
  rw[h3];exact hp
 case sl b o l z w=>
  obtain⟨h1,h2,h3⟩:=ain (H:=H) (b:=b) (m:=m)
  exact⟨h1,h2,λπ x ⟨B,s,q,e,hp,hx⟩=>⟨B,s,q,e,by rw[h3];exact hp,hx⟩⟩
 all_goals exact⟨xr.refl _,id,λπ x hx=>hx⟩
omit [ax] in
theorem aIz {α:Type}{R R':α->Value->Prop}{as as':List α}{xs:List Value}(hl:as'.length=as.length)(h:∀(j:Nat) a a',as[j]? =some a->as'[j]? =some a'->∀x,R a x->R' a' x)(hx:bh R as xs):bh R' as' xs:=by
 refine bh.adm (by rw[hl];exact hx.length) λi a' x ha' hxi=> ?_
 obtain⟨a,ha,hr⟩:=hx.get' hxi
 exact h i a a' ha ha' x hr
omit [ax] in
theorem aa7 {α:Type}{R:Pi->α->Value->Prop}(mono:∀{π π':Pi},Ext π π'->∀a x,R π a x->R π' a x){f:α->List Nat->α×List Nat}{H:Nat}(hf:∀a m,Gc R H a m (f a m)):
  ∀(l:List α) (m:List Nat),xr m (E0 f l m).2∧(MOk H m->MOk H (E0 f l m).2)∧(E0 f l m).1.length=l.length∧∀(j:Nat) a a',l[j]? =some a->(E0 f l m).1[j]? =some a'->∀π x,R π a x->R (Jq π H (E0 f l m).2) a' x
 | [],m=>⟨xr.refl _,id,rfl,λj a a' h=>by simp at h⟩
 |a::l,m=>by
  have G:=hf a m
  obtain⟨p1,p2,p3,p4⟩:=aa7 mono hf l (f a m).2
  refine⟨G.pre.trans p1,λok=>p2 (G.ok ok),by simp[E0,p3],λj b b' hb ew π x hx=> ?_⟩
  cases j with
  |zero=>
   simp[E0] at hb ew
   subst hb ew
   exact mono p1.ext _ _ (G.rel π x hx)
  |succ j=>exact p4 j b b' (by simpa using hb) (by simpa[E0] using ew) π x hx
omit [ax] in
theorem aEA {α:Type}{R:Pi->α->Value->Prop}(mono:∀{π π':Pi},Ext π π'->∀a x,R π a x->R π' a x){f:α->List Nat->α×List Nat}{H:Nat}(hf:∀a m,Gc R H a m (f a m))(l:List α)(m:List Nat)(π:Pi)(xs:List Value)(h:bh (R π) l xs):bh (R (Jq π H (E0 f l m).2)) (E0 f l m).1 xs:=by
 obtain⟨_,_,p3,p4⟩:=aa7 mono hf l m
 exact aIz p3 (λj a a' ha ha' x hr=>p4 j a a' ha ha' π x hr) h
theorem Xx (H:Nat):∀(cs:af) (m:List Nat),xr m (E0 (gcS H) cs m).2∧(MOk H m->MOk H (E0 (gcS H) cs m).2)∧af.size (E0 (gcS H) cs m).1=af.size cs∧
  ∀π j x,j<af.size cs->(af.get cs j).rel π x->(af.get (E0 (gcS H) cs m).1 j).rel (Jq π H (E0 (gcS H) cs m).2) x
 | [],m=>⟨xr.refl _,id,rfl,λπ j x hj=>by rw[af.jS] at hj;omega⟩
 |.c v::r,m=>by
  have G:=aEz H v m
  obtain⟨p1,p2,p3,p4⟩:=Xx H r (gcC H v m).2
  have e:E0 (gcS H) (.c v::r) m=(.c (gcC H v m).1::(E0 (gcS H) r (gcC H v m).2).1,(E0 (gcS H) r (gcC H v m).2).2):=rfl
  rw[e]
  refine⟨G.pre.trans p1,λok=>p2 (G.ok ok),by rw[af.size_cons,af.size_cons,p3];rfl,λπ j x hj hx=> ?_⟩
  cases j with
  |zero=>exact CV.cZ p1.ext _ _ (G.rel π x hx)
  |succ j=>
   rw[<-af.jf (l:=r) (j':=j) (by omega) (by omega)] at hx
   rw[<-af.jf (l:=(E0 (gcS H) r (gcC H v m).2).1) (j':=j) (by omega) (by omega)]
   exact p4 π j x (by rw[af.size_cons,Sg.jd] at hj;omega) hx
 |.a n cols::r,m=>by
  obtain⟨p1,p2,p3,p4⟩:=Xx H r m
  have e:E0 (gcS H) (.a n cols::r) m=(.a n cols::(E0 (gcS H) r m).1,(E0 (gcS H) r m).2):=rfl
  rw[e]
  refine⟨p1,p2,by rw[af.size_cons,af.size_cons,p3],λπ j x hj hx=> ?_⟩
  rw[af.size_cons] at hj
  by_cases jX:j<(Sg.a n cols).size
  ·rw[af.c9 jX,Sg.mZ] at hx ⊢
   obtain⟨v,hv⟩:=azL cols j
   rw[hv] at hx ⊢
   exact hx
  ·rw[af.jw (by omega)] at hx ⊢
   exact p4 π _ x (by omega) hx
theorem aa8 (H:Nat)(r:RV)(m:List Nat):Gc RV.rel H r m (gcR H r m):=by
 cases r with
 |c c=>have G:=aEz H c m;exact⟨G.pre,G.ok,G.rel⟩
 |agg cs=>
  obtain⟨p1,p2,p3,p4⟩:=Xx H cs m
  refine⟨p1,p2,λπ x ⟨a,hx,ha⟩=>⟨a,hx,?_⟩⟩
  obtain⟨l1,l2⟩:=ia ha
  refine vd (by rw[p3,l1]) λj hj=> ?_
  rw[p3] at hj
  obtain⟨y,hy,hr⟩:=l2 j hj
  exact⟨y,hy,p4 π j y hj hr⟩
theorem auD (H:Nat)(r:AV)(m:List Nat):Gc AV.rel H r m (gcA H r m):=by
 cases r with
 |r c=>have G:=aa8 H c m;exact⟨G.pre,G.ok,G.rel⟩
 |tup cs=>
  obtain⟨p1,p2,_,_⟩:=aa7 (R:=RV.rel) (λh a x r=>RV.cZ h a x r) (aa8 H) cs m
  exact⟨p1,p2,λπ x ⟨a,hx,ha⟩=>⟨a,hx,aEA (R:=RV.rel) (λh a x r=>RV.cZ h a x r) (aa8 H) cs m π _ ha⟩⟩
 |fn f cs=>
  obtain⟨p1,p2,_,_⟩:=aa7 (R:=RV.rel) (λh a x r=>RV.cZ h a x r) (aa8 H) cs m
  exact⟨p1,p2,λπ x ⟨a,hx,ha⟩=>⟨a,hx,aEA (R:=RV.rel) (λh a x r=>RV.cZ h a x r) (aa8 H) cs m π _ ha⟩⟩
 |Tk=>exact⟨xr.refl _,id,λ_ _ _=>trivial⟩
structure GcB (H:Nat)(b b':Option af)(m':List Nat):Prop where
 size:b'.map af.size=b.map af.size
 rel:∀k k',b=some k->b'=some k'->∀π (j:Nat) x,j<af.size k->(af.get k j).rel π x->(af.get k' j).rel (Jq π H m') x
theorem GcB.pre {H:Nat}{b b':Option af}{m m':List Nat}(h:GcB H b b' m)(p:xr m m'):GcB H b b' m':=
 ⟨h.size,λk k' e e' π j x hj hx=>CV.cZ p.ext _ _ (h.rel k k' e e' π j x hj hx)⟩
theorem aEB (H:Nat)(b:Option af)(m:List Nat):xr m (gcB H b m).2∧(MOk H m->MOk H (gcB H b m).2)∧GcB H b (gcB H b m).1 (gcB H b m).2:=by
 cases b with
 |none=>exact⟨xr.refl _,id,rfl,λk k' e=>by cases e⟩
 |some k=>
  obtain⟨p1,p2,p3,p4⟩:=Xx H k m
  refine⟨p1,p2,⟨by simp only[gcB,Option.map_some,p3],λk1 k' e e' π j x hj hx=> ?_⟩⟩
  cases e;cases e'
  exact p4 π j x hj hx
theorem alV (k:Nat)(d:List Nat)(H:Nat):∀(l:List (Option af)) (j0:Nat) (m:List Nat),xr m (gcO k d H l j0 m).2∧(MOk H m->MOk H (gcO k d H l j0 m).2)∧(gcO k d H l j0 m).1.length=l.length∧
  ∀(j:Nat) b b',l[j]? =some b->(gcO k d H l j0 m).1[j]? =some b'->(j0+j<k∧j0+j∉d∧b'=b)∨((j0+j<k->j0+j∉d->False)∧GcB H b b' (gcO k d H l j0 m).2)
 | [],j0,m=>⟨xr.refl _,id,rfl,λj b b' h=>by simp at h⟩
 |b0::l,j0,m=>by
  simp only[gcO]
  split
  ·rename_i hc
   simp only[Bool.and_eq_true,Nat.blt_eq,Bool.not_eq_true'] at hc
   obtain⟨p1,p2,p3,p4⟩:=alV k d H l (j0+1) m
   refine⟨p1,p2,by simp[p3],λj b b' hb ew=> ?_⟩
   cases j with
   |zero=>
    simp at hb ew
    subst hb ew
    refine .inl ⟨hc.1,λhm=> ?_,rfl⟩
    have:=List.any_eq_false.1 hc.2 _ hm
    simp at this
   |succ j=>
    have:=p4 j b b' (by simpa using hb) (by simpa using ew)
    rw[show j0+1+j=j0+(j+1) by omega] at this
    exact this
  ·rename_i hc
   obtain⟨q1,q2,q3⟩:=aEB H b0 m
   obtain⟨p1,p2,p3,p4⟩:=alV k d H l (j0+1) (gcB H b0 m).2
   refine⟨q1.trans p1,λok=>p2 (q2 ok),by simp[p3],λj b b' hb ew=> ?_⟩
   cases j with
   |zero=>
    simp at hb ew
    subst hb ew
    refine .inr ⟨λh1 h2=> ?_,q3.pre p1⟩
    have e1:Nat.blt j0 k=true:=by simpa using h1
    have e2:d.any (Nat.beq j0)=false:=by
     rw[List.any_eq_false]
     intro y hy he
     have:=Nat.eq_of_beq_eq_true he
     subst this;exact h2 hy
    rw[e1,e2] at hc;cases hc
   |succ j=>
    have:=p4 j b b' (by simpa using hb) (by simpa using ew)
    rw[show j0+1+j=j0+(j+1) by omega] at this
    exact this
theorem aEC (H:Nat)(heap:List (Option af)):∀(fuel i:Nat) (m:List Nat) (acc:List (Option af)) (z:List (Option af)×List Nat),gcN H heap fuel i m acc=some z->acc.length=i->i<=m.length->
  (∀(j:Nat) b b',m[j]? =some b->acc[j]? =some b'->GcB H ((heap[b]?).getD none) b' m)->
  xr m z.2∧(MOk H m->MOk H z.2)∧z.1.length=z.2.length∧∀(j:Nat) b b',z.2[j]? =some b->z.1[j]? =some b'->GcB H ((heap[b]?).getD none) b' z.2
 |0,_,_,_,_,h,_,_,_=>by simp[gcN] at h
 |fuel+1,i,m,acc,z,h,hi,hi2,aIt=>by
  simp only[gcN] at h
  split at h
  ·rename_i hn
   cases h
   have:m.length<=i:=List.getElem?_eq_none_iff.1 hn
   exact⟨xr.refl _,id,by simp;omega,aIt⟩
  ·rename_i b hb
   obtain⟨q1,q2,q3⟩:=aEB H ((heap[b]?).getD none) m
   have lY:i<m.length:=(List.getElem?_eq_some_iff.1 hb).1
   have hlen:m.length<=(gcB H ((heap[b]?).getD none) m).2.length:=by obtain⟨t,ht⟩:=q1;rw[ht];simp
   obtain⟨p1,p2,p3,p4⟩:=aEC H heap fuel (i+1) _ _ z h (by simp[hi]) (by omega) (λj b1 b1' h1 h1'=>by
    rcases aAT h1' with h1'| ⟨hj,rfl⟩
    ·have hj:j<acc.length:=(List.getElem?_eq_some_iff.1 h1').1
     have hm:m[j]? =some b1:=by
      have e:m[j]? =some (m[j]'(by omega)):=List.getElem?_eq_getElem _
      rw[e];have:=q1.get e;rw[h1] at this;exact this.symm
     exact(aIt j b1 b1' hm h1').pre q1
    ·have:b1=b:=by
      rw[hj,hi] at h1
      have:=q1.get hb;rw[h1] at this;exact Option.some.inj this
     subst this
     exact q3)
   exact⟨q1.trans p1,λok=>p2 (q2 ok),p3,p4⟩
end Go.Ab
namespace Go.Ab
variable [ax]
section
variable {P:Program} {E:Env} {X:Cx}
structure In (X:Cx)(h0:List af):Prop where
 k:X.k=h0.length
 h:pM X.p0 (hC (h0.map some)) (hZ (h0.map some)) X.w0
 d:∀b,X.p0 b≠none->b<X.k
theorem gv.same {h0:List af}{π:Pi}{s:St}{a:Act}{w:World}(I:In X h0)(R:gv X h0 π s a w){b:Nat}(hb:b<X.k)(hn:b∉s.cQ){k:af}(hk:s.bE b=some k){B:Nat}{s0 q e:Nat}(hp:π b=some (B,s0,q,e)){j:Nat}(hj:j<af.size k):
  ∃v,cl w B (s0+j)=some v∧(af.get k j).rel X.p0 v:=by
 have h1:=R.drt b hb hn
 rw[hk] at h1
 have hz:hZ (h0.map some) b=some (af.size k):=by rw[NA,<-h1];rfl
 obtain⟨B',s',e',rH,hle,k1,k2⟩:=I.h.hp b _ hz
 rw[R.rel.uG b hb,rH] at hp
 cases hp
 obtain⟨v,hv,hr⟩:=k2 j hj
 rw[azN h1.symm hj] at hr
 refine⟨v,?_,hr⟩
 rw[R.rel.fr.cl (Y0 (by rw[hv];rfl)),hv]
 rintro ⟨b2,s2,q2,e2,CF,hd2,hp2,i1,i2⟩
 have kV:b2≠b:=λe=>hn (e▸hd2)
 have hz2:hZ (h0.map some) b2≠none:=by
  rw[NA]
  have:b2<h0.length:=by rw[<-I.k];exact CF
  rw[List.getElem?_eq_getElem this];simp
 exact I.h.dj b2 b B s2 q2 e2 s0 _ e kV hz2 (by rw[hz];simp) hp2 rH (s0+j) i1 i2 (by omega) (by omega)
omit [ax] in
theorem aA4 {l:List (Option af)}{b:Nat}(h:b<l.length):l[b]? =some ((l[b]?).getD none):=by
 rw[List.getElem?_eq_getElem h];rfl
theorem aIA {h0:List af}{π:Pi}{s:St}{a:Act}{w:World}(I:In X h0)(R:gv X h0 π s a w){H:Nat}(hH:X.k<=H)(hHl:H<=s.heap.length){m0:List Nat}(ok0:MOk H m0){z:List (Option af)×List Nat}
  (hz:gcN H s.heap 1000 0 (gcO X.k s.cQ H (s.heap.take H) 0 m0).2 []=some z):
  xr m0 z.2∧pM (Jq π H z.2) (hC ((gcO X.k s.cQ H (s.heap.take H) 0 m0).1++z.1)) (hZ ((gcO X.k s.cQ H (s.heap.take H) 0 m0).1++z.1)) w∧
  ((gcO X.k s.cQ H (s.heap.take H) 0 m0).1++z.1).length=H+z.2.length∧
  (∀b,b<H->b<X.k->b∉s.cQ->(((gcO X.k s.cQ H (s.heap.take H) 0 m0).1++z.1)[b]?).getD none=s.bE b)∧
  (∀b,hZ ((gcO X.k s.cQ H (s.heap.take H) 0 m0).1++z.1) b≠none->(b<H∧s.gt.z b≠none)∨∃b0,H<=b∧z.2[b-H]? =some b0∧H<=b0∧s.gt.z b0≠none):=by
 obtain⟨o1,o2,o3,o4⟩:=alV X.k s.cQ H (s.heap.take H) 0 m0
 generalize hy:gcO X.k s.cQ H (s.heap.take H) 0 m0=y at*
 obtain⟨n1,n2,n3,n4⟩:=aEC H s.heap 1000 0 y.2 [] z hz rfl (Nat.zero_le _) (λj b b' _ h=>by simp at h)
 have hyl:y.1.length=H:=by rw[o3];simp;omega
 have ok:=n2 (o2 ok0)
 have uG:∀b,b<H->∃x,y.1[b]? =some x∧(y.1++z.1)[b]? =some x∧(x=s.bE b∧b<X.k∧b∉s.cQ∨(b<X.k->b∉s.cQ->False)∧GcB H (s.bE b) x z.2):=λb hb=>by
  have h1:y.1[b]? =some (y.1[b]'(by omega)):=List.getElem?_eq_getElem _
  have h2:(s.heap.take H)[b]? =some (s.bE b):=by
   rw[List.getElem?_take,if_pos hb];exact aA4 (by omega)
  refine⟨_,h1,by rw[List.getElem?_append_left (by omega)];exact h1,?_⟩
  have o5:=o4 b _ _ h2 h1
  simp only[Nat.zero_add] at o5
  rcases o5 with⟨q1,q2,q3⟩| ⟨q0,q⟩
  ·exact .inl ⟨q3,q1,q2⟩
  ·exact .inr ⟨q0,q.pre n1⟩
 have new:∀b,H<=b->b<H+z.2.length->∃b0 x,z.2[b-H]? =some b0∧H<=b0∧(y.1++z.1)[b]? =some x∧GcB H (s.bE b0) x z.2:=λb h1 h2=>by
  have e1:z.2[b-H]? =some (z.2[b-H]'(by omega)):=List.getElem?_eq_getElem _
  have e2:z.1[b-H]? =some (z.1[b-H]'(by omega)):=List.getElem?_eq_getElem _
  refine⟨_,_,e1,ok.2 _ (List.mem_of_getElem? e1),?_,n4 _ _ _ e1 e2⟩
  rw[List.getElem?_append_right (by omega),hyl];exact e2
 have len:(y.1++z.1).length=H+z.2.length:=by simp;omega
 have src:∀b n,hZ (y.1++z.1) b=some n->∃b0 k0 k,s.bE b0=some k0∧af.size k0=n∧(y.1++z.1)[b]? =some (some k)∧af.size k=n∧Jq π H z.2 b=π b0∧((b<H∧b0=b)∨(H<=b∧z.2[b-H]? =some b0∧H<=b0))∧
   (k=k0∧b<X.k∧b∉s.cQ∧b0=b∨∀(j:Nat) x,j<af.size k0->(af.get k0 j).rel π x->(af.get k j).rel (Jq π H z.2) x):=λb n hn=>by
  have hbl:b<H+z.2.length:=by
   rw[<-len]
   rcases Nat.lt_or_ge b (y.1++z.1).length with h|h
   ·exact h
   ·simp only[hZ,List.getElem?_eq_none h] at hn;cases hn
  rcases Nat.lt_or_ge b H with hb|hb
  ·obtain⟨x,h1,h2,h3⟩:=uG b hb
   simp only[hZ,h2,Option.getD_some] at hn
   cases x with
   |none=>cases hn
   |some k=>
    have hkn:af.size k=n:=by simpa using hn
    have hpi:Jq π H z.2 b=π b:=by unfold Jq;rw[if_pos hb]
    rcases h3 with⟨q1,q2,q3⟩| ⟨_,q⟩
    ·exact⟨b,k,k,q1.symm,hkn,h2,hkn,hpi,.inl ⟨hb,rfl⟩,.inl ⟨rfl,q2,q3,rfl⟩⟩
    ·have hs:=q.size
     cases Ot:s.bE b with
     |none=>rw[Ot] at hs;cases hs
     |some k0=>
      rw[Ot] at hs q
      have:af.size k=af.size k0:=by simpa using hs
      exact⟨b,k0,k,Ot,by omega,h2,hkn,hpi,.inl ⟨hb,rfl⟩,.inr λj x hj hx=>q.rel k0 k rfl rfl π j x hj hx⟩
  ·obtain⟨b0,x,h1,h2,h3,q⟩:=new b hb hbl
   simp only[hZ,h3,Option.getD_some] at hn
   cases x with
   |none=>cases hn
   |some k=>
    have hkn:af.size k=n:=by simpa using hn
    have hpi:Jq π H z.2 b=π b0:=by unfold Jq;rw[if_neg (by omega),h1]
    have hs:=q.size
    cases Ot:s.bE b0 with
    |none=>rw[Ot] at hs;cases hs
    |some k0=>
     rw[Ot] at hs q
     have:af.size k=af.size k0:=by simpa using hs
     exact⟨b0,k0,k,Ot,by omega,h3,hkn,hpi,.inr ⟨hb,h1,h2⟩,.inr λj x hj hx=>q.rel k0 k rfl rfl π j x hj hx⟩
 refine⟨o1.trans n1,⟨R.rel.hp.am,λb B s1 q1 e1 hz1 Fa yI=> ?_,λb n hn=> ?_,λb b' B s1 q1 e1 s2 q2 e2 kV hz1 hz2 Fa hp2 i i1 i2 i3 i4=> ?_⟩,len,λb hb Y1 hnd=> ?_,λb hb=> ?_⟩
 ·cases hn1:hZ (y.1++z.1) b with
  |none=>exact absurd hn1 hz1
  |some n=>
   obtain⟨b0,k0,k,h1,h2,h3,h4,h5,h6,h7⟩:=src b n hn1
   have Li:s.gt.z b0=some (af.size k0):=St.am3 h1
   rw[h5] at Fa
   exact R.rel.hp.lb b0 B s1 q1 e1 (by rw[Li];simp) Fa yI
 ·obtain⟨b0,k0,k,h1,h2,h3,h4,h5,h6,h7⟩:=src b n hn
  have Li:s.gt.z b0=some (af.size k0):=St.am3 h1
  obtain⟨B,s1,e1,hp,hle,m1,m2⟩:=R.rel.hp.hp b0 _ Li
  refine⟨B,s1,e1,by rw[h5,<-h2];exact hp,by omega,m1,λj hj=> ?_⟩
  rw[adz h3 (by omega)]
  rcases h7 with⟨rfl,q1,q2,rfl⟩|q
  ·obtain⟨v,hv,hr⟩:=R.same I q1 q2 h1 hp (j:=j) (by omega)
   refine⟨v,hv,CV.cZ (λb p hbp=> ?_) _ _ hr⟩
   have Y1:=I.d b (by rw[hbp];simp)
   unfold Jq
   rw[if_pos (by omega),R.rel.uG b Y1];exact hbp
  ·obtain⟨v,hv,hr⟩:=m2 j (by omega)
   rw[St.aM8 h1 (by omega)] at hr
   exact⟨v,hv,q j v (by omega) hr⟩
 ·cases hn1:hZ (y.1++z.1) b with
  |none=>exact hz1 hn1
  |some n=>
  cases hn2:hZ (y.1++z.1) b' with
  |none=>exact hz2 hn2
  |some n'=>
  obtain⟨b0,k0,k,h1,_,_,_,h5,h6,_⟩:=src b n hn1
  obtain⟨b0',k0',k',h1',_,_,_,h5',h6',_⟩:=src b' n' hn2
  rw[h5] at Fa
  rw[h5'] at hp2
  have aWD:b0≠b0':=by
   intro e
   subst e
   rcases h6 with⟨q1,q2⟩| ⟨q1,q2,q3⟩<;>rcases h6' with⟨r1,r2⟩| ⟨r1,r2,r3⟩
   ·exact kV (q2.symm.trans r2)
   ·omega
   ·omega
   ·obtain⟨l1,g1⟩:=List.getElem?_eq_some_iff.1 q2
    obtain⟨l2,g2⟩:=List.getElem?_eq_some_iff.1 r2
    have:=List.pairwise_iff_getElem.1 ok.1
    rcases Nat.lt_trichotomy (b-H) (b'-H) with h|h|h
    ·exact this _ _ l1 l2 h (g1.trans g2.symm)
    ·omega
    ·exact this _ _ l2 l1 h (g2.trans g1.symm)
  exact R.rel.hp.dj b0 b0' B s1 q1 e1 s2 q2 e2 aWD (by rw[St.am3 h1];simp) (by rw[St.am3 h1'];simp) Fa hp2 i i1 i2 i3 i4
 ·obtain⟨x,h1,h2,h3⟩:=uG b hb
  rw[h2]
  rcases h3 with⟨q1,_⟩| ⟨q0,_⟩
  ·exact q1
  ·exact(q0 Y1 hnd).elim
 ·cases hn:hZ (y.1++z.1) b with
  |none=>exact absurd hn hb
  |some n=>
   obtain⟨b0,k0,k,h1,_,_,_,_,h6,_⟩:=src b n hn
   rcases h6 with⟨q1,rfl⟩| ⟨q1,q2,q3⟩
   ·exact .inl ⟨q1,by rw[St.am3 h1];simp⟩
   ·exact .inr ⟨b0,q1,q2,q3,by rw[St.am3 h1];simp⟩
end
end Go.Ab
namespace Go.Ab
variable [ax]
section
variable {P:Program} {E:Env} {X:Cx} {h0:List af} {π:Pi} {s s':St} {a:Act} {w:World}
theorem gv.gc (I:In X h0)(R:gv X h0 π s a w){H:Nat}(hH:X.k<=H)(h:s.gc X.k H=some s'):∃π',gv X h0 π' s' a w:=by
 unfold St.gc at h
 split at h
 ·cases h
 rename_i hb
 have hHl:H<=s.heap.length:=Nat.le_of_ble_eq_true hb
 simp only at h
 split at h
 ·rename_i z hz
  obtain⟨p1,p2,p3,p4⟩:=aa7 (R:=AV.rel) (λh a x r=>AV.cZ h a x r) (auD H) s.tmps []
  have ok0:MOk H (E0 (gcA H) s.tmps []).2:=p2 ⟨List.nodup_nil,λ_ h=>by cases h⟩
  obtain⟨q1,q2,q3,q4,q5⟩:=aIA I R hH hHl ok0 hz
  cases h
  refine⟨Jq π H z.2,⟨⟨λi=> ?_,R.rel.nt,R.rel.df,q2,λb hb=> ?_,λb B s1 qq e hkb hzb hp hB i i1 i2=> ?_,R.rel.fr⟩,p3.trans R.len,λb hb=> ?_,λb hb hn=> ?_,?_,R.dlt⟩⟩
  ·show(ah4 (E0 (gcA H) s.tmps []).1 i).rel _ _
   rw[xJ]
   have hr:(ah4 s.tmps i).rel π (a.tmps.getD i undef):=R.rel.tm i
   rw[xJ] at hr
   rcases Nat.lt_or_ge i s.tmps.length with hi|hi
   ·have e1:s.tmps[i]? =some (s.tmps[i]'hi):=List.getElem?_eq_getElem _
    have e2:(E0 (gcA H) s.tmps []).1[i]? =some ((E0 (gcA H) s.tmps []).1[i]'(by omega)):=List.getElem?_eq_getElem _
    have hr:(s.tmps.getD i YW).rel π (a.tmps.getD i undef):=hr
    simp only[List.getD,e1,Option.getD_some] at hr
    simp only[List.getD,e2,Option.getD_some]
    exact AV.cZ q1.ext _ _ (p4 i _ _ e1 e2 π _ hr)
   ·have hr:(s.tmps.getD i YW).rel π (a.tmps.getD i undef):=hr
    simp only[List.getD,List.getElem?_eq_none hi,Option.getD_none] at hr
    simp only[List.getD,List.getElem?_eq_none (show(E0 (gcA H) s.tmps []).1.length<=i by omega),Option.getD_none]
    exact(auD H YW z.2).rel π _ hr
  ·unfold Jq;rw[if_pos (by omega)];exact R.rel.uG b hb
  ·rcases q5 b hzb with⟨hbH,Li⟩| ⟨b0,hbH,hm,Ot,Li⟩
   ·unfold Jq at hp;rw[if_pos hbH] at hp
    exact R.rel.ft b B s1 qq e hkb Li hp hB i i1 i2
   ·unfold Jq at hp;rw[if_neg (by omega),hm] at hp
    exact R.rel.ft b0 B s1 qq e (by omega) Li hp hB i i1 i2
  ·show b<(_++_:List (Option af)).length
   rw[q3]
   unfold Jq at hb
   split at hb
   ·omega
   ·cases hm:z.2[b-H]? with
    |none=>rw[hm] at hb;exact absurd rfl hb
    |some b0=>have:=(List.getElem?_eq_some_iff.1 hm).1;omega
  ·exact(q4 b (by omega) hb hn).trans (R.drt b hb hn)
  ·show X.k<=(_++_:List (Option af)).length
   rw[q3];omega
 ·cases h
theorem gv.aVq (R:gv X h0 π s a w)(t:Nat):gv X h0 π {s with tmps:=s.tmps.set t Tk} a w:=by
 refine⟨⟨λi=> ?_,R.rel.nt,R.rel.df,R.rel.hp,R.rel.uG,R.rel.ft,R.rel.fr⟩,by simpa using R.len,R.dom,R.drt,R.hk,R.dlt⟩
 show(ah4 (s.tmps.set t Tk) i).rel π _
 rw[xJ]
 simp only[List.getD,List.getElem?_set]
 have hr:(ah4 s.tmps i).rel π (a.tmps.getD i undef):=R.rel.tm i
 rw[xJ] at hr
 split
 ·split
  ·trivial
  ·rename_i h1 h2
   subst h1
   simpa only[List.getD,List.getElem?_eq_none (show s.tmps.length<=t by omega)] using hr
 ·exact hr
theorem gv.aAm:∀(l:List Nat) {s:St},gv X h0 π s a w->gv X h0 π {s with tmps:=l.foldl (λl t=>l.set t Tk) s.tmps} a w
 | [],_,R=>R
 |t::l,_,R=>gv.aAm l (R.aVq t)
omit [ax] in
theorem aTw {i:Nat}{c:CV}(h:s.tmp i=.r (.c c)):i<s.tmps.length:=by
 rcases Nat.lt_or_ge i s.tmps.length with hi|hi
 ·exact hi
 ·simp only[St.tmp,xJ,List.getD,List.getElem?_eq_none hi,Option.getD_none,YW] at h;cases h
omit [ax] in
theorem auE [ax]{π:Pi}{c:CV}{v:Value}(h:c.rel π v):(aEk c).rel π v:=by
 unfold aEk
 split
 ·split
  ·rename_i b len z own c0
   simpa[CV.rel,bX.val] using h
  ·exact h
 ·exact h
omit [ax] in
theorem adA (g:CV->CV)(s:Sg):(aAn g s).size=s.size:=by
 cases s<;>rfl
omit [ax] in
theorem auF (g:CV->CV):∀b:af,af.size (b.map (aAn g))=af.size b
 | []=>rfl
 |s::l=>by
  rw[List.map_cons,af.size_cons,af.size_cons,adA,auF g l]
theorem aNS {g:CV->CV}{π:Pi}(hg:∀c v,CV.rel π c v->CV.rel π (g c) v){s:Sg}{j:Nat}{v:Value}(h:(s.get j).rel π v):((aAn g s).get j).rel π v:=by
 cases s with
 |c x=>
  cases j with
  |zero=>exact hg _ _ h
  |succ j=>exact h
 |a n cols=>exact h
theorem aIB {g:CV->CV}{π:Pi}(hg:∀c v,CV.rel π c v->CV.rel π (g c) v){v:Value}:∀(b:af) (j:Nat),(af.get b j).rel π v->(af.get (b.map (aAn g)) j).rel π v
 | [],_,h=>h
 |s::l,j,h=>by
  rw[List.map_cons]
  by_cases hj:j<s.size
  ·rw[af.c9 hj] at h
   rw[af.c9 (by rw[adA];exact hj)]
   exact aNS hg h
  ·rw[af.jw (by omega)] at h
   rw[af.jw (by rw[adA];omega),adA]
   exact aIB hg l _ h
theorem aNT {g:CV->CV}{π:Pi}(hg:∀c v,CV.rel π c v->CV.rel π (g c) v){a:AV}{v:Value}(h:a.rel π v):(mapA g a).rel π v:=by
 unfold mapA
 split
 ·exact hg _ _ h
 ·exact h
omit [ax] in
theorem arp (g:CV->CV)(k:Nat)(d:List Nat):∀(l:List (Option af)) (j:Nat),(afL g k d l j).length=l.length
 | [],_=>rfl
 |b::l,j=>by simp[afL,arp g k d l (j+1)]
omit [ax] in
theorem aED (g:CV->CV)(k:Nat)(d:List Nat):∀(l:List (Option af)) (j i:Nat),((afL g k d l j)[i]?).getD none=(l[i]?).getD none∨(¬(j+i<k∧j+i∉d)∧∃b,(l[i]?).getD none=some b∧((afL g k d l j)[i]?).getD none=some (b.map (aAn g)))
 | [],_,_=>.inl rfl
 |b::l,j,0=>by
  unfold afL
  cases hc:Nat.blt j k&& !d.any (Nat.beq j) with
  |true=>exact .inl rfl
  |false=>
   cases b with
   |none=>exact .inl rfl
   |some b=>
    refine .inr ⟨λh=> ?_,b,rfl,rfl⟩
    have h1:Nat.blt j k=true:=rr.2 h.1
    have h2:d.any (Nat.beq j)=false:=by
     cases hd:d.any (Nat.beq j) with
     |false=>rfl
     |true=>
      obtain⟨x,hx,he⟩:=List.any_eq_true.1 hd
      have:=Nat.eq_of_beq_eq_true he
      subst this
      exact absurd hx h.2
    rw[h1,h2] at hc
    cases hc
 |b::l,j,i+1=>by
  have:=aED g k d l (j+1) i
  rw[show j+1+i=j+(i+1) by omega] at this
  exact this
theorem gv.aUw (R:gv X h0 π s a w)(g:CV->CV)(hg:∀c v,CV.rel π c v->CV.rel π (g c) v):gv X h0 π {s with tmps:=s.tmps.map (mapA g),heap:=afL g X.k s.cQ s.heap 0} a w:=by
 have hb:∀b,St.bE {s with tmps:=s.tmps.map (mapA g),heap:=afL g X.k s.cQ s.heap 0} b=s.bE b∨(¬(b<X.k∧b∉s.cQ)∧∃k,s.bE b=some k∧St.bE {s with tmps:=s.tmps.map (mapA g),heap:=afL g X.k s.cQ s.heap 0} b=some (k.map (aAn g))):=λb=>by
  have:=aED g X.k s.cQ s.heap 0 b
  rw[Nat.zero_add] at this
  exact this
 generalize Ts:({s with tmps:=s.tmps.map (mapA g),heap:=afL g X.k s.cQ s.heap 0}:St)=s2 at hb
 have hz:s2.gt.z=s.gt.z:=by
  funext b
  show(s2.bE b).map af.size=(s.bE b).map af.size
  rcases hb b with h| ⟨_,k,h1,h2⟩
  ·rw[h]
  ·rw[h1,h2];simp[auF]
 have hc:∀b j v,(s.gt.c b j).rel π v->(s2.gt.c b j).rel π v:=λb j v h=>by
  rcases hb b with e| ⟨_,k,h1,h2⟩
  ·show(match s2.bE b with|some k=>if j<k.size then k.get j else .f .u|none=>.f .u:CV).rel π v
   rw[e];exact h
  ·have h:(match s.bE b with|some k=>if j<k.size then k.get j else .f .u|none=>.f .u:CV).rel π v:=h
   show(match s2.bE b with|some k=>if j<k.size then k.get j else .f .u|none=>.f .u:CV).rel π v
   rw[h1] at h
   rw[h2]
   simp only[auF] at h ⊢
   split
   ·rename_i hj
    rw[if_pos hj] at h
    exact aIB hg k j h
   ·rename_i hj
    rw[if_neg hj] at h
    exact h
 have hd2:s2.cQ=s.cQ:=by rw[<-Ts]
 have hl2:s2.heap.length=s.heap.length:=by rw[<-Ts];exact arp _ _ _ _ _
 refine⟨⟨λi=> ?_,R.rel.nt,R.rel.df,⟨R.rel.hp.am,?_,λb n hn=> ?_,?_⟩,R.rel.uG,?_,?_⟩,?_,λb ew=> ?_,λb Y1 hn=> ?_,?_,?_⟩
 ·have hr:(ah4 s.tmps i).rel π (a.tmps.getD i undef):=R.rel.tm i
  show(ah4 s2.tmps i).rel π _
  rw[<-Ts]
  rw[xJ] at hr
  rw[xJ]
  simp only[List.getD,List.getElem?_map] at hr ⊢
  cases he:s.tmps[i]? with
  |none=>rw[he] at hr;exact hr
  |some x=>rw[he] at hr;exact aNT hg hr
 ·rw[hz];exact R.rel.hp.lb
 ·rw[hz] at hn
  obtain⟨B,s1,e,h1,h2,h3,h4⟩:=R.rel.hp.hp b n hn
  exact⟨B,s1,e,h1,h2,h3,λj hj=>let⟨v,hv,hr⟩:=h4 j hj;⟨v,hv,hc b j v hr⟩⟩
 ·rw[hz];exact R.rel.hp.dj
 ·rw[hz];intro b B s1 q e;rw[hd2];exact R.rel.ft b B s1 q e
 ·rw[hd2];exact R.rel.fr
 ·rw[<-Ts];simpa using R.len
 ·rw[hl2];exact R.dom b ew
 ·rw[hd2] at hn
  rcases hb b with e| ⟨h,_⟩
  ·exact e.trans (R.drt b Y1 hn)
  ·exact absurd ⟨Y1,hn⟩ h
 ·rw[hl2];exact R.hk
 ·rw[hd2];exact R.dlt
theorem aEE {π:Pi}{c:CV}{v:Value}(h:c.rel π v):(aRy c).rel π v:=by
 unfold aRy
 split
 ·simpa[CV.rel,Sz.val] using h
 ·exact h
theorem aNU {π:Pi}{a:AV}{v:Value}(h:a.rel π v):(aAo a).rel π v:=by
 unfold aAo
 split
 ·exact aEE (auE h)
 ·exact h
omit [ax] in
theorem adB (s:Sg):(aEl s).size=s.size:=by
 cases s<;>rfl
omit [ax] in
theorem Xy:∀b:af,af.size (b.map aEl)=af.size b
 | []=>rfl
 |s::l=>by
  rw[List.map_cons,af.size_cons,af.size_cons,adB,Xy l]
theorem aNV {π:Pi}{s:Sg}{j:Nat}{v:Value}(h:(s.get j).rel π v):((aEl s).get j).rel π v:=by
 cases s with
 |c x=>
  cases j with
  |zero=>exact aEE (auE h)
  |succ j=>exact h
 |a n cols=>exact h
theorem apG {π:Pi}{v:Value}:∀(b:af) (j:Nat),(af.get b j).rel π v->(af.get (b.map aEl) j).rel π v
 | [],_,h=>h
 |s::l,j,h=>by
  rw[List.map_cons]
  by_cases hj:j<s.size
  ·rw[af.c9 hj] at h
   rw[af.c9 (by rw[adB];exact hj)]
   exact aNV h
  ·rw[af.jw (by omega)] at h
   rw[af.jw (by rw[adB];omega),adB]
   exact apG l _ h
omit [ax] in
theorem aA5 (l:List (Nat×Nat))(j:Nat)(b:af):af.size (aAp l j b)=af.size b:=by
 unfold aAp
 split
 ·rw[(aus _).1,(Xn _ _).1,Xy]
 ·rw[Xy]
theorem aNW {π:Pi}{v:Value}(l:List (Nat×Nat))(j:Nat)(b:af)(i:Nat)(hi:i<af.size b)(h:(af.get b i).rel π v):(af.get (aAp l j b) i).rel π v:=by
 unfold aAp
 split
 ·rw[(aus _).2,(Xn _ _).2 i (by rw[Xy];exact hi)]
  exact apG b i h
 ·exact apG b i h
omit [ax] in
theorem arq (k:Nat)(d:List Nat)(sl:List (Nat×Nat)):∀(l:List (Option af)) (j:Nat),(ah9 k d sl l j).length=l.length
 | [],_=>rfl
 |b::l,j=>by simp[ah9,arq k d sl l (j+1)]
omit [ax] in
theorem aEF (k:Nat)(d:List Nat)(sl:List (Nat×Nat)):∀(l:List (Option af)) (j i:Nat),((ah9 k d sl l j)[i]?).getD none=(l[i]?).getD none∨(¬(j+i<k∧j+i∉d)∧∃b,(l[i]?).getD none=some b∧((ah9 k d sl l j)[i]?).getD none=some (aAp sl (j+i) b))
 | [],_,_=>.inl rfl
 |b::l,j,0=>by
  unfold ah9
  cases hc:Nat.blt j k&& !d.any (Nat.beq j) with
  |true=>exact .inl rfl
  |false=>
   cases b with
   |none=>exact .inl rfl
   |some b=>
    refine .inr ⟨λh=> ?_,b,rfl,rfl⟩
    have h1:Nat.blt j k=true:=rr.2 h.1
    have h2:d.any (Nat.beq j)=false:=by
     cases hd:d.any (Nat.beq j) with
     |false=>rfl
     |true=>
      obtain⟨x,hx,he⟩:=List.any_eq_true.1 hd
      have:=Nat.eq_of_beq_eq_true he
      subst this
      exact absurd hx h.2
    rw[h1,h2] at hc
    cases hc
 |b::l,j,i+1=>by
  have:=aEF k d sl l (j+1) i
  rw[show j+1+i=j+(i+1) by omega] at this
  exact this
theorem gv.rows (R:gv X h0 π s a w):gv X h0 π {s with tmps:=s.tmps.map aAo,heap:=ah9 X.k s.cQ (sls s) s.heap 0} a w:=by
 have hb:∀b,St.bE {s with tmps:=s.tmps.map aAo,heap:=ah9 X.k s.cQ (sls s) s.heap 0} b=s.bE b∨(¬(b<X.k∧b∉s.cQ)∧∃k,s.bE b=some k∧St.bE {s with tmps:=s.tmps.map aAo,heap:=ah9 X.k s.cQ (sls s) s.heap 0} b=some (aAp (sls s) b k)):=λb=>by
  have:=aEF X.k s.cQ (sls s) s.heap 0 b
  rw[Nat.zero_add] at this
  exact this
 generalize sls s=sl at hb ⊢
 generalize Ts:({s with tmps:=s.tmps.map aAo,heap:=ah9 X.k s.cQ sl s.heap 0}:St)=s2 at hb
 have hz:s2.gt.z=s.gt.z:=by
  funext b
  show(s2.bE b).map af.size=(s.bE b).map af.size
  rcases hb b with h| ⟨_,k,h1,h2⟩
  ·rw[h]
  ·rw[h1,h2];simp[aA5]
 have hc:∀b j v,(s.gt.c b j).rel π v->(s2.gt.c b j).rel π v:=λb j v h=>by
  rcases hb b with e| ⟨_,k,h1,h2⟩
  ·show(match s2.bE b with|some k=>if j<k.size then k.get j else .f .u|none=>.f .u:CV).rel π v
   rw[e];exact h
  ·have h:(match s.bE b with|some k=>if j<k.size then k.get j else .f .u|none=>.f .u:CV).rel π v:=h
   show(match s2.bE b with|some k=>if j<k.size then k.get j else .f .u|none=>.f .u:CV).rel π v
   rw[h1] at h
   rw[h2]
   simp only[aA5] at h ⊢
   split
   ·rename_i hj
    rw[if_pos hj] at h
    exact aNW sl b k j hj h
   ·rename_i hj
    rw[if_neg hj] at h
    exact h
 have hd2:s2.cQ=s.cQ:=by rw[<-Ts]
 have hl2:s2.heap.length=s.heap.length:=by rw[<-Ts];exact arq _ _ _ _ _
 refine⟨⟨λi=> ?_,R.rel.nt,R.rel.df,⟨R.rel.hp.am,?_,λb n hn=> ?_,?_⟩,R.rel.uG,?_,?_⟩,?_,λb ew=> ?_,λb Y1 hn=> ?_,?_,?_⟩
 ·have hr:(ah4 s.tmps i).rel π (a.tmps.getD i undef):=R.rel.tm i
  show(ah4 s2.tmps i).rel π _
  rw[<-Ts]
  rw[xJ] at hr
  rw[xJ]
  simp only[List.getD,List.getElem?_map] at hr ⊢
  cases he:s.tmps[i]? with
  |none=>rw[he] at hr;exact hr
  |some x=>rw[he] at hr;exact aNU hr
 ·rw[hz];exact R.rel.hp.lb
 ·rw[hz] at hn
  obtain⟨B,s1,e,h1,h2,h3,h4⟩:=R.rel.hp.hp b n hn
  exact⟨B,s1,e,h1,h2,h3,λj hj=>let⟨v,hv,hr⟩:=h4 j hj;⟨v,hv,hc b j v hr⟩⟩
 ·rw[hz];exact R.rel.hp.dj
 ·rw[hz];intro b B s1 q e;rw[hd2];exact R.rel.ft b B s1 q e
 ·rw[hd2];exact R.rel.fr
 ·rw[<-Ts];simpa using R.len
 ·rw[hl2];exact R.dom b ew
 ·rw[hd2] at hn
  rcases hb b with e| ⟨h,_⟩
  ·exact e.trans (R.drt b Y1 hn)
  ·exact absurd ⟨Y1,hn⟩ h
 ·rw[hl2];exact R.hk
 ·rw[hd2];exact R.dlt
omit [ax] in
theorem aNX [ax]{π:Pi}{b n:Nat}(hb:π n=π b){c:CV}{v:Value}(h:c.rel π v):(aH1 b n c).rel π v:=by
 have e:∀x,π (aH0 b n x)=π x:=λx=>by
  unfold aH0
  split
  ·rename_i hx;rw[Nat.eq_of_beq_eq_true hx];exact hb
  ·rfl
 unfold aH1
 split
 ·simpa only[CV.rel,e] using h
 ·simpa only[CV.rel,e] using h
 ·simpa only[CV.rel,e] using h
 ·exact h
theorem gv.move (R:gv X h0 π s a w)(b:Nat):∃π',gv X h0 π' (aLv X.k b s) a w:=by
 unfold aLv
 split
 case h_2=>exact⟨π,R⟩
 rename_i bE Xo
 split
 case h_2=>exact⟨π,R⟩
 rename_i lY
 have lY:=rr.1 lY
 have hbl:b<s.heap.length:=Nat.lt_of_lt_of_le lY R.hk
 generalize hn:s.heap.length=n
 generalize hs1:({s with heap:=s.heap.set b none++[some bE],cQ:=mark X.k b s.cQ}:St)=s1
 have Xr:iD X.k [.kill b,.new n bE] s=some s1:=by
  have h1:Nat.blt b s.heap.length=true:=rr.2 hbl
  have h2:Nat.beq n s.heap.length=true:=by rw[hn];exact Nat.beq_refl _
  simp[iD,Up.ok,Up.app,h1,h2,<-hs1]
 have A:=Hz Xr
 have hg:=LW Xr
 have hz:s.gt.z b=some (af.size bE):=by show(s.bE b).map af.size=_;rw[Xo];rfl
 obtain⟨B,s0,e,hp,hle,k1,k2⟩:=R.rel.hp.hp b _ hz
 have aLN:π n=none:=by
  cases hb:π n with
  |none=>rfl
  |some q=>have:=R.dom n (by rw[hb];simp);omega
 have arn:=xL aLN (B,s0,af.size bE,e)
 have hD:b∈s1.cQ:=by rw[<-hs1];exact xM.2 (.inr ⟨rfl,lY⟩)
 have aWE:∀x,x∈s.cQ->x∈s1.cQ:=λx hx=>by rw[<-hs1];exact xM.2 (.inl hx)
 have R0:=(R.rel.Jk arn (λb' ew=>by simp only[xw];rw[if_neg (by have:=R.hk;omega)])).aF4 aWE
 have Ot:xw π n (B,s0,af.size bE,e) b=some (B,s0,af.size bE,e):=arn _ _ hp
 have hp0:X.p0 b=some (B,s0,af.size bE,e):=by rw[<-R.rel.uG b lY];exact hp
 have R2:=(R0.kill b).new (k:=bE) (b:=n) (nM π n (B,s0,af.size bE,e)) (by have:=R.hk;omega) hle k1
  (λj hj=>by
   obtain⟨v,hv,hr⟩:=k2 j hj
   have hc:s.gt.c b j=af.get bE j:=by show(match s.bE b with|some k=>if j<k.size then k.get j else .f .u|none=>.f .u:CV)=_;rw[Xo];simp only[hj,if_true]
   rw[hc] at hr
   exact⟨v,hv,CV.cZ arn _ _ hr⟩)
  (λb' s' q' e' kV ru ew i i1 i2 i3 i4=>by
   by_cases eb:b'=b
   ·subst eb;simp[Up.fP] at ru
   ·exact R0.hp.dj b b' B s0 _ e s' q' e' (λh=>eb h.symm) (by rw[hz];simp) (by simpa[Up.fP,eb] using ru) Ot ew i i1 i2 i3 i4)
  (λ_ i i1 i2=>⟨b,s0,_,e,lY,hD,hp0,i1,i2⟩) (λh=>R.rel.hp.lb b B s0 _ e (by rw[hz];simp) hp h)
 have RS:gv X h0 (xw π n (B,s0,af.size bE,e)) s1 a w:=A.aRU R hg R2 (λb' ew=>by
   by_cases e':b'=n
   ·exact .inr ⟨by omega,by simp[bY];omega⟩
   ·simp only[xw,e',if_false] at ew;exact .inl ew) (λx hx=>by
   rw[<-hs1] at hx
   rcases xM.1 hx with h| ⟨rfl,h⟩
   ·exact R.dlt x h
   ·exact h)
 have M:=RS.aUw (aH1 b n) λc v h=>aNX (by rw[nM,Ot]) h
 rw[<-hs1] at M
 exact⟨_,M⟩
theorem gv.aEm (R:gv X h0 π s a w)(p:Nat×List CK):∃π',gv X h0 π' (aEm X.k s p) a w:=by
 unfold Ab.aEm
 split
 ·split
  ·exact⟨π,R.aUw aEk λc v h=>auE h⟩
  ·exact⟨π,R.rows⟩
  ·exact R.move _
 split
 ·rename_i hx
  have lY:=aTw hx
  generalize hv:AV.r (.c (.sl s.heap.length (.k 0) (.s 0) p.2.length true))=v
  generalize hk:([.a (.s 0) (p.2.map CK.mx)]:af)=k
  have hk0:af.size k=0:=by rw[<-hk];simp[af.size,Sg.size,Sz.val]
  have Xr:iD X.k [.t p.1 v,.new s.heap.length k] s=some {s with tmps:=s.tmps.set p.1 v,heap:=s.heap++[some k]}:=by
   have h1:Nat.blt p.1 s.tmps.length=true:=by simpa using lY
   have h2:Nat.beq s.heap.length s.heap.length=true:=Nat.beq_refl _
   simp[iD,Up.ok,Up.app,h1,h2]
  have A:=Hz Xr
  have hg:=LW Xr
  have aLN:π s.heap.length=none:=by
   cases hb:π s.heap.length with
   |none=>rfl
   |some q=>have:=R.dom _ (by rw[hb];simp:π s.heap.length≠none);omega
  have arn:=xL aLN (0,0,af.size k,0)
  have hr:(RV.c CV.nils).rel π (a.tmps.getD p.1 undef):=by have:=R.rel.tm p.1;rwa [show s.gt.t p.1=_ from hx] at this
  have R0:=R.rel.Jk arn (λb hb=>by simp only[xw];rw[if_neg (by have:=R.hk;omega)])
  have R1:Rel X (·∈s.cQ) (xw π s.heap.length (0,0,af.size k,0)) ((Up.t p.1 v).fP s.gt) a w:=by
   refine⟨λi=> ?_,R0.nt,R0.df,R0.hp,R0.uG,R0.ft,R0.fr⟩
   show(if i=p.1 then v else s.gt.t i).rel _ _
   split
   ·rename_i e;subst e;subst hv
    exact⟨_,_,_,_,nM _ _ _,by simp[bX.val,Sz.val],λ_=>by simp[bX.val,Sz.val,hk0],.inl ⟨rfl,none,hr⟩⟩
   ·exact R0.tm i
  have R2:=R1.new (k:=k) (nM π s.heap.length (0,0,af.size k,0)) R.hk (by omega) (λi h1 h2=>by omega) (λj hj=>by omega) (λb' s' q' e' _ _ _ i h1 h2=>by omega) (λ_ i h1 h2=>by omega)
  exact⟨_,A.aRU R hg R2 (λb hb=>by
   by_cases e:b=s.heap.length
   ·exact .inr ⟨by omega,by simp[bY];omega⟩
   ·simp only[xw,e,if_false] at hb;exact .inl hb) R.dlt⟩
 ·exact⟨π,R⟩
theorem gv.nils:∀(l:List (Nat×List CK)) {s:St} {π:Pi},gv X h0 π s a w->∃π',gv X h0 π' (l.foldl (Ab.aEm X.k) s) a w
 | [],_,π,R=>⟨π,R⟩
 |p::l,_,_,R=>let⟨_,R'⟩:=R.aEm p;gv.nils l R'
theorem gv.YZ (I:In X h0)(R:gv X h0 π s a w){h:Hd}(hh:s.YZ X.k h=some s'):∃π',gv X h0 π' s' a w:=by
 obtain⟨π1,R1⟩:=gv.nils h.nils (gv.aAm h.aAm R)
 exact R1.gc I (Nat.le_refl _) hh
theorem gv.head (I:In X h0)(R:gv X h0 π s a w){hs:Hs}{c:Code}(h:s.head X.k hs c=some s'):∃π',gv X h0 π' s' a w:=by
 unfold St.head at h
 split at h
 ·exact R.gc I (Nat.le_refl _) h
 ·split at h
  ·exact R.gc I (Nat.le_refl _) h
  ·exact R.YZ I h
def aUx:AX->Exit
 |.nrm=>.normal
 |.ex id=>.exit id
 |.ret=>.ret
def aRY (X:Cx)(h0:List af){ρ:Type}(K:AX->St->Option ρ)(r:ρ)(Q:Exit->Act->World->Prop):Prop:=
 ∀e s π a w,gv X h0 π s a w->K e s=some r->Q (aUx e) a w
theorem aws {c:Code}{hd:St->Option St}{ρ:Type}{body:St->(AX->St->Option ρ)->Option ρ}{K:AX->St->Option ρ}{r:ρ}{Q:Exit->Act->World->Prop}
  (hb:∀{s:St} {K:AX->St->Option ρ} {Q:Exit->Act->World->Prop} {π:Pi} {a:Act} {w:World},gv X h0 π s a w->body s K=some r->aRY X h0 K r Q->c.wp P Q a w)
  (hh:∀{s s':St} {π:Pi} {a:Act} {w:World},gv X h0 π s a w->hd s=some s'->∃π',gv X h0 π' s' a w)(hQ:aRY X h0 K r Q):
  ∀(n:Nat) {s:St} {π:Pi} {a:Act} {w:World},gv X h0 π s a w->iter hd body K n s=some r->Code.rounds P c Q n a w
 |0,_,_,_,_,_,h=>by cases h
 |n+1,s,π,a,w,R,h=>by
  have h:(body s λe s=>match e with
    |.nrm=>match hd s with
     |none=>none
     |some s=>uZ s (iter hd body K n)
    |e=>K e s)=some r:=h
  simp only[Jj] at h
  rw[rounds_succ]
  refine hb R h λe s2 π2 a2 w2 R2 hK=> ?_
  cases e with
  |nrm=>
   simp only at hK
   split at hK
   ·cases hK
   ·rename_i s3 hs3
    obtain⟨π3,R3⟩:=hh R2 hs3
    exact aws hb hh hQ n R3 hK
  |ex id=>exact hQ _ _ _ _ _ R2 hK
  |ret=>exact hQ _ _ _ _ _ R2 hK
def LP (P:Program)(E:Env)(hs:Hs)(nt kk lf:Nat)(a:Code):Prop:=
 ∀σ,amW hs a=some σ->σ.kk=kk->∀{ρ:Type} (s:St) (K:AX->St->Option ρ) (r:ρ),σ.run s K=some r->∃n,iter (λt=>t.head kk hs a) (EG P E hs nt kk lf a) K n s=some r
def aqZ (P:Program)(E:Env)(hs:Hs)(nt kk lf:Nat)(b:Code):Prop:=
 ∀j,awc hs b=some j->j.sm.kk=kk->∀{ρ:Type} (s:St) (K:AX->St->Option ρ) (r:ρ),j.sm.run s K=some r->EG P E hs nt kk lf b s K=some r
def Jc (P:Program)(E:Env)(hs:Hs)(nt kk lf:Nat):Code->Prop
 |.seq a b=>aqZ P E hs nt kk lf b∧Jc P E hs nt kk lf a∧Jc P E hs nt kk lf b
 |.cond _ a b=>Jc P E hs nt kk lf a∧Jc P E hs nt kk lf b
 |.block _ a=>Jc P E hs nt kk lf a
 |.loop a=>LP P E hs nt kk lf a∧Jc P E hs nt kk lf a
 |_=>True
omit [ax] in
theorem aNY {hd:List Hd}{d0:List Nat}{jn:List Jn}{rk:Option Hd}(a:Code):amW ⟨hd,[],d0,jn,rk⟩ a=none:=by
 unfold amW;split<;>rfl
omit [ax] in
theorem aNZ {hd:List Hd}{sm:List Sm}{d0:List Nat}{rk:Option Hd}(a:Code):awc ⟨hd,sm,d0,[],rk⟩ a=none:=rfl
omit [ax] in
theorem Jc.nil (P:Program)(E:Env)(hd:List Hd)(d0:List Nat)(nt kk lf:Nat)(c:Code):Jc P E ⟨hd,[],d0,[],none⟩ nt kk lf c:=by
 induction c with
 |seq a b iha ihb=>exact⟨(λj h=>by rw[aNZ] at h;cases h),iha,ihb⟩
 |cond x a b iha ihb=>exact⟨iha,ihb⟩
 |block id a iha=>exact iha
 |loop a iha=>exact⟨(λσ h=>by rw[aNY] at h;cases h),iha⟩
 |_=>trivial
def yJ {α:Type}(p:α->Prop):List α->Prop
 | []=>True
 |a::l=>p a∧yJ p l
omit [ax] in
theorem yJ.append {α:Type}{p:α->Prop}:∀{l m:List α},yJ p (l++m)->yJ p l∧yJ p m
 | [],_,h=>⟨trivial,h⟩
 |_::_,_,⟨h1,h2⟩=>⟨⟨h1,(yJ.append h2).1⟩,(yJ.append h2).2⟩
omit [ax] in
theorem Jc.of {P:Program}{E:Env}{hs:Hs}{nt kk lf:Nat}{c:Code}(h:yJ (LP P E hs nt kk lf) (Ja c))(hj:yJ (aqZ P E hs nt kk lf) (Jb hs c)):Jc P E hs nt kk lf c:=by
 induction c with
 |seq a b iha ihb=>
  obtain⟨j1,j2⟩:=yJ.append hj
  refine⟨λj hjn=> ?_,iha (yJ.append h).1 (yJ.append j2).1,ihb (yJ.append h).2 (yJ.append j2).2⟩
  rw[hjn] at j1
  exact j1.1 j hjn
 |cond x a b iha ihb=>exact⟨iha (yJ.append h).1 (yJ.append hj).1,ihb (yJ.append h).2 (yJ.append hj).2⟩
 |block id a iha=>exact iha h hj
 |loop a iha=>exact⟨h.1,iha h.2 hj⟩
 |_=>trivial
def P6 {D X ρ:Type}(step:D->(D->Option ρ)->(X->Option ρ)->Option ρ)(n:Nat):D->(X->Option ρ)->Option ρ:=
 Nat.rec (motive:=λ_=>D->(X->Option ρ)->Option ρ) (λ_ _=>none) (λ_ ih d x=>step d (λd=>ih d x) x) n
theorem yK (hE:∀f F,E f=some F->Sound P f F)(hm:P.follows .mixedOrders=true)(I:In X h0){hs:Hs}{nt lf:Nat}(WQ:nt<=X.N){ρ:Type}{r:ρ}:
  ∀(c:Code),Jc P E hs nt X.k lf c->∀{s:St} {K:AX->St->Option ρ} {Q:Exit->Act->World->Prop} {π:Pi} {a:Act} {w:World},gv X h0 π s a w->EG P E hs nt X.k lf c s K=some r->aRY X h0 K r Q->c.wp P Q a w
 |.skip,hS,s,K,Q,π,a,w,R,h,hQ=>wp_skip (hQ .nrm _ _ _ _ R h)
 |.region id ops false,hS,s,K,Q,π,a,w,R,h,hQ=>by
  obtain⟨s1,de,hT,hK⟩:=Jp (by rw[R.len];exact WQ) (show Jf P E nt X.k ops.toList ops.toList s [] (λs _=>K .nrm s)=some r from h)
  exact aGc hE hT R λa' w' π' R'=>hQ .nrm _ _ _ _ R' hK
 |.region id ops true,hS,s,K,Q,π,a,w,R,h,hQ=>by
  obtain⟨s1,de,hT,hK⟩:=Jp (by rw[R.len];exact WQ) (show Jf P E nt X.k ops.toList ops.toList s [] (λs l=>match On ops.toList 0&&Om (Je ops.toList []) l 0 with
   |true=>K .nrm s
   |false=>none)=some r from h)
  split at hK
  ·rename_i hok
   simp only[Bool.and_eq_true,List.nil_append] at hok
   exact aGb hE hm hT hok.1 hok.2 R λa' w' π' R'=>hQ .nrm _ _ _ _ R' hK
  ·cases hK
 |.seq x y,hS,s,K,Q,π,a,w,R,h,hQ=>by
  refine wp_seq (yK hE hm I WQ x hS.2.1 R (show EG P E hs nt X.k lf x s (λe s=>match e with
   |.nrm=>match awc hs y with
    |none=>EG P E hs nt X.k lf y s K
    |some j=>match s.YZ X.k j.hd with
     |none=>none
     |some s=>uZ s λs=>match Nat.beq j.sm.kk X.k with
      |true=>j.sm.run s K
      |false=>none
   |e=>K e s)=some r from h) λe s1 π1 a1 w1 R1 hK=> ?_)
  cases e with
  |nrm=>
   simp only at hK
   split at hK
   ·exact yK hE hm I WQ y hS.2.2 R1 hK hQ
   ·rename_i j hj
    simp only[Jj] at hK
    split at hK
    ·cases hK
    ·rename_i s2 Ts
     split at hK
     ·rename_i hk
      obtain⟨π2,R2⟩:=R1.YZ I Ts
      exact yK hE hm I WQ y hS.2.2 R2 (hS.1 j hj (beq_iff.1 hk) s2 K r hK) hQ
     ·cases hK
  |ex id=>exact hQ _ _ _ _ _ R1 hK
  |ret=>exact hQ _ _ _ _ _ R1 hK
 |.cond (.tmp t) x y,hS,s,K,Q,π,a,w,R,h,hQ=>by
  have h:(match s.tmp t with
   |.r (.c (.f (.b z)))=>match z with
    |true=>EG P E hs nt X.k lf x s K
    |false=>EG P E hs nt X.k lf y s K
   |_=>none)=some r:=h
  split at h
  ·rename_i z hz
   have hr:=R.rel.tm t
   rw[show s.gt.t t=_ from hz] at hr
   have hc:a.eval (.tmp t)=.bool z:=hr
   cases z with
   |true=>exact wp_cond_true hc (yK hE hm I WQ x hS.1 R h hQ)
   |false=>exact wp_cond_false hc (yK hE hm I WQ y hS.2 R h hQ)
  ·cases h
 |.block id x,hS,s,K,Q,π,a,w,R,h,hQ=>by
  refine wp_block (yK hE hm I WQ x hS R (show EG P E hs nt X.k lf x s (λe s=>match e with
   |.ex j=>match Nat.beq j id with
    |true=>K .nrm s
    |false=>K (.ex j) s
   |e=>K e s)=some r from h) λe s1 π1 a1 w1 R1 hK=> ?_)
  cases e with
  |nrm=>exact hQ _ _ _ _ _ R1 hK
  |ret=>exact hQ _ _ _ _ _ R1 hK
  |ex j=>
   simp only at hK
   show if j=id then Q .normal a1 w1 else Q (.exit j) a1 w1
   split at hK
   ·rename_i hj
    rw[if_pos (Nat.eq_of_beq_eq_true hj)]
    exact hQ .nrm _ _ _ _ R1 hK
   ·rename_i hj
    rw[if_neg (λe=>by subst e;simp at hj)]
    exact hQ (.ex j) _ _ _ _ R1 hK
 |.loop x,hS,s,K,Q,π,a,w,R,h,hQ=>by
  have h:(match s.head X.k hs x with
   |none=>none
   |some s=>uZ s λs=>match amW hs x with
    |some σ=>match Nat.beq σ.kk X.k with
     |true=>σ.run s K
     |false=>none
    |none=>iter (λt=>t.head X.k hs x) (EG P E hs nt X.k lf x) K lf s)=some r:=h
  simp only[Jj] at h
  split at h
  ·cases h
  ·rename_i s1 hs1
   obtain⟨π1,R1⟩:=R.head I hs1
   obtain⟨n,hn⟩:∃n,iter (λt=>t.head X.k hs x) (EG P E hs nt X.k lf x) K n s1=some r:=by
    split at h
    ·rename_i σ hσ
     split at h
     ·rename_i hk
      exact hS.1 σ hσ (beq_iff.1 hk) s1 K r h
     ·cases h
    ·exact⟨lf,h⟩
   exact wp_loop_rounds n (aws (hd:=λt=>t.head X.k hs x) (body:=EG P E hs nt X.k lf x) (λR h hQ=>yK hE hm I WQ x hS.2 R h hQ) (λR' h'=>R'.head I h') hQ n R1 hn)
 |.exit id,hS,s,K,Q,π,a,w,R,h,hQ=>wp_exit (hQ (.ex id) _ _ _ _ R h)
 |.ret,hS,s,K,Q,π,a,w,R,h,hQ=>by
  have h:(match hs.rk with
   |none=>K .ret s
   |some hd=>match s.YZ X.k hd with
    |none=>none
    |some s=>uZ s λs=>K .ret s)=some r:=h
  split at h
  ·exact wp_ret (hQ .ret _ _ _ _ R h)
  ·simp only[Jj] at h
   split at h
   ·cases h
   ·rename_i s2 Ts
    obtain⟨π2,R2⟩:=R.YZ I Ts
    exact wp_ret (hQ .ret _ _ _ _ R2 h)
 |.cond (.const _) _ _,_,_,_,_,_,_,_,_,h,_=>by cases h
 |.cond (.func _) _ _,_,_,_,_,_,_,_,_,h,_=>by cases h
 |.cond (.global _) _ _,_,_,_,_,_,_,_,_,h,_=>by cases h
 |.goto _,_,_,_,_,_,_,_,_,h,_=>by cases h
 |.label _,_,_,_,_,_,_,_,_,h,_=>by cases h
end
end Go.Ab
namespace Go.Ab
variable [ax]
section
variable {P:Program} {E:Env} {X:Cx} {h0:List af} {π:Pi} {s s':St} {a:Act} {w:World}
def aNi (tmps:Array Value):ResultVar->Sem Value
 |.tmp t=>pure (tmps.getD t undef)
 |.cell a t=>do loadVar t (<-asAddr (tmps.getD a undef))
omit [ax] in
theorem aIC (fn:Func)(tmps:Array Value):results fn tmps=(do
  let vs<-fn.results.mapM (aNi tmps)
  pure (if h:vs.size=1 then vs[0] else .tuple vs)):=by
 unfold results
 rfl
theorem aN0 (R:gv X h0 π s a w){r:ResultVar}{v:RV}(h:aM6 P s r=some v):∃x,(aNi a.tmps r).run P w=.ok x w∧v.rel π x:=by
 cases r with
 |tmp t=>
  simp only[aM6] at h
  split at h
  ·rename_i u hu
   cases h
   have:=R.rel.tm t
   rw[show s.gt.t t=_ from hu] at this
   exact⟨_,rfl,this⟩
  ·cases h
 |cell q t=>
  simp only[aM6] at h
  split at h
  ·rename_i b o m hu
   have hp:=R.rel.tm q
   rw[show s.gt.t q=_ from hu] at hp
   obtain⟨B,s1,q1,e,hb,hx,hm⟩:=hp
   have key:∀v l,aH (Xj P t b o m) s.gt v l->∃x,(aNi a.tmps (.cell q t)).run P w=.ok x w∧v.rel π x:=λv l hv=>by
    obtain⟨x,hx1,hx2⟩:=aH.Xj R.rel hv hb hm
    refine⟨x,?_,hx2⟩
    show(do loadVar t (<-asAddr (a.tmps.getD q undef))).run P w=_
    rw[hx]
    simpa[asAddr] using hx1
   split at h
   ·rename_i n' bE c h1 h2 h3
    split at h
    ·rename_i hle
     simp only[Option.map_eq_some_iff] at h
     obtain⟨k,hk,rfl⟩:=h
     obtain⟨k1,k2⟩:=LS hk
     refine key _ (.c b (ext (.k c) (.l 1) n'):: .z b::[]) ?_
     unfold Ab.Xj
     rw[h1,h2]
     show aH ((ck (Nat.ble n' m)).bind _) _ _ _
     unfold ck
     rw[hle]
     refine aH.test (aH.vw _ _ (St.am3 h3) k1 (λhle j hj=> ?_) (.ret _ _))
     rw[k2 hle j hj]
     exact(St.aM8 h3 (by simp only[bX.val] at hle;omega)).symm
    ·cases h
   ·rename_i n' bE c h1 h2 h3
    split at h
    ·rename_i hle
     split at h
     ·rename_i v0 hk
      cases h
      obtain⟨k1,k2⟩:=LS hk
      refine key _ (.c b (ext (.k c) (.l 1) 1):: .z b::[]) ?_
      unfold Ab.Xj
      rw[h1,h2]
      show aH ((ck (Nat.ble 1 m)).bind _) _ _ _
      unfold ck
      rw[hle]
      refine aH.test (aH.vw _ _ (St.am3 h3) k1 (λhle j hj=> ?_) (.ret _ _))
      rw[k2 hle j hj]
      exact(St.aM8 h3 (by simp only[bX.val] at hle;omega)).symm
     ·cases h
    ·cases h
   ·cases h
  ·cases h
theorem aA6 (R:gv X h0 π s a w):∀{l:List ResultVar} {vs:List RV},aup P s l=some vs->∃xs,(l.mapM (aNi a.tmps)).run P w=.ok xs w∧bh (RV.rel π) vs xs
 | [],vs,h=>by cases h;exact⟨[],by simp,trivial⟩
 |r::l,vs,h=>by
  simp only[aup] at h
  split at h
  ·rename_i v iU h1 h2
   cases h
   obtain⟨x,e1,r1⟩:=aN0 R h1
   obtain⟨xs,e2,r2⟩:=aA6 R h2
   exact⟨x::xs,by simp[List.mapM_cons,e1,e2],r1,r2⟩
  ·cases h
theorem aGd (R:gv X h0 π s a w){fn:Func}{vs:List RV}(h:aup P s fn.results.toList=some vs):∃x,(results fn a.tmps).run P w=.ok x w∧(one vs).rel π x:=by
 obtain⟨xs,e,r⟩:=aA6 R h
 have hlen:=r.length
 rw[aIC]
 simp only[Array.mapM_eq_mapM_toList,Sem.run_bind,Sem.run_map,e,Result.andThen_ok,Sem.run_pure]
 match vs,xs,r with
 | [],[],r=>exact⟨_,rfl,#[],by simp,trivial⟩
 | [v],[x],r=>exact⟨x,by simp,r.1⟩
 |v::v'::vs,x::x'::xs,r=>exact⟨_,by simp,(x::x'::xs).toArray,rfl,r⟩
omit [ax] in
theorem aEG {α:Type}:∀{l:List (Option α)} {m:List α},aAq l=some m->l=m.map some
 | [],m,h=>by cases h;rfl
 |some x::l,m,h=>by
  simp only[aAq,Option.map_eq_some_iff] at h
  obtain⟨m',h1,rfl⟩:=h
  rw[aEG h1];rfl
 |none::l,m,h=>by cases h
omit [ax] in
theorem aEH (d:List Nat):∀(l:List (Option af)) (j0 j:Nat),(afM d l j0)[j]? =(l[j]?).map λb=>match d.any (Nat.beq (j0+j)) with
  |false=>Ch.kU
  |true=>match b with
   |some b=>.set b
   |none=>.kill
 | [],_,_=>by simp[afM]
 |b::l,j0,0=>by simp[afM];rfl
 |b::l,j0,j+1=>by
  simp only[afM,List.getElem?_cons_succ]
  rw[aEH d l (j0+1) j,show j0+1+j=j0+(j+1) by omega]
omit [ax] in
theorem any_beq {d:List Nat}{j:Nat}:d.any (Nat.beq j)=true↔j∈d:=by
 rw[List.any_eq_true]
 constructor
 ·rintro ⟨y,hy,he⟩;rw[Nat.eq_of_beq_eq_true he];exact hy
 ·exact λh=>⟨j,h,Nat.beq_refl j⟩
omit [ax] in
theorem awt (d:List Nat):∀(h:List af) (l:List (Option af)) (j0:Nat),l.length=h.length->(∀j b,j0+j∉d->l[j]? =some b->b=h[j]?)->after h (afM d l j0)=l
 | [],[],_,_,_=>rfl
 |b::bs,o::l,j0,hl,hk=>by
  have ih:=awt d bs l (j0+1) (by simpa using hl) λj b h1 h2=>by
   have:=hk (j+1) b (by rwa [show j0+(j+1)=j0+1+j by omega]) (by simpa using h2)
   simpa using this
  simp only[afM]
  cases hd:d.any (Nat.beq j0) with
  |false=>
   have hn:j0∉d:=λh=>by rw[any_beq.2 h] at hd;cases hd
   have:=hk 0 o (by simpa using hn) rfl
   simp only[List.getElem?_cons_zero] at this
   subst this
   simp[after,ih]
  |true=>
   cases o with
   |none=>simp[after,ih]
   |some b'=>simp[after,ih]
abbrev aEI (_:Program)(π:Pi)(w0:World)(h:List af)(res:m4):Ending->World->Prop:=qD π w0 h res
theorem aLO (I:In X h0)(R:gv X h0 π s a w){fn:Func}{e:AX}{res:m4}(h:fin P fn X.k e s=some res):bodyPost P fn (aEI P X.p0 X.w0 h0 res) (aUx e) a w:=by
 have main:(match aup P s fn.results.toList with
  |none=>none
  |some vs=>
   let x:=gcA X.k (one vs) []
   let y:=gcO X.k s.cQ X.k (s.heap.take X.k) 0 x.2
   match gcN X.k s.heap 1000 0 y.2 [] with
   |some z=>match aAq z.1 with
    |some news=>some {val:=x.1,vv:=afM s.cQ y.1 0,news}
    |none=>none
   |none=>none)=some res->a.defers=[]∧∃v,(results fn a.tmps).run P w=.ok v w∧aEI P X.p0 X.w0 h0 res (.returned v) w:=by
  intro h
  split at h
  ·cases h
  rename_i vs hvs
  simp only at h
  split at h
  ·rename_i z hz
   split at h
   ·rename_i news aVr
    cases h
    obtain⟨v,mu,hv⟩:=aGd R hvs
    have G:=auD X.k (one vs) []
    have ok0:=G.ok ⟨List.nodup_nil,λ_ h=>by cases h⟩
    obtain⟨q1,q2,q3,q4,q5⟩:=aIA I R (Nat.le_refl _) R.hk ok0 hz
    have hz1:=aEG aVr
    obtain⟨o1,o2,o3,o4⟩:=alV X.k s.cQ X.k (s.heap.take X.k) 0 (gcA X.k (one vs) []).2
    generalize hy:gcO X.k s.cQ X.k (s.heap.take X.k) 0 (gcA X.k (one vs) []).2=y at*
    have hyl:y.1.length=X.k:=by rw[o3];have:=R.hk;simp;omega
    have hhl:=I.k
    have hnl:z.2.length=news.length:=by
     have e1:(y.1++z.1).length=y.1.length+z.1.length:=by simp
     have e2:z.1.length=news.length:=by rw[hz1];simp
     omega
    have aTx:after h0 (afM s.cQ y.1 0)=y.1:=awt s.cQ h0 y.1 0 (by omega) λj b h1 h2=>by
     have hj:j<y.1.length:=(List.getElem?_eq_some_iff.1 h2).1
     have h3:=q4 j (by omega) (by omega) (by simpa using h1)
     rw[List.getElem?_append_left hj,h2] at h3
     have h4:=R.drt j (by omega) (by simpa using h1)
     rw[<-h4,<-h3];rfl
    have aVs:(⟨(gcA X.k (one vs) []).1,afM s.cQ y.1 0,news⟩:m4).heap h0=y.1++z.1:=by
     unfold m4.heap
     simp only
     rw[aTx,hz1]
    have aA7:∀B i,AG X.p0 X.k (·∈s.cQ) B i->AG X.p0 h0.length (P4 (afM s.cQ y.1 0)) B i:=by
     rintro B i ⟨b,s1,qq,e1,hb,hd,hp,i1,i2⟩
     refine⟨b,s1,qq,e1,by omega,?_,hp,i1,i2⟩
     unfold P4
     rw[aEH,Nat.zero_add,any_beq.2 hd]
     have:y.1[b]? =some (y.1[b]'(by omega)):=List.getElem?_eq_getElem _
     rw[this]
     cases y.1[b]'(by omega)<;>simp
    refine⟨R.rel.df,v,mu,Jq π X.k z.2,v,rfl,λb p hp=> ?_,?_,?_,R.rel.fr.mono λB i _ h=>aA7 B i h,λb hb=> ?_,λb B s1 qq e1 hb hp hB i i1 i2=> ?_⟩
    ·have hb:=I.d b (by rw[hp];simp)
     unfold Jq;rw[if_pos hb,R.rel.uG b hb];exact hp
    ·exact AV.cZ q1.ext _ _ (G.rel π v hv)
    ·rw[aVs];exact q2
    ·unfold Jq at hb
     split at hb
     ·simp only;omega
     ·cases hm:z.2[b-X.k]? with
      |none=>rw[hm] at hb;exact absurd rfl hb
      |some b0=>have:=(List.getElem?_eq_some_iff.1 hm).1;simp only;omega
    ·have rH:=hp
     unfold Jq at rH
     rw[if_neg (by omega)] at rH
     cases hm:z.2[b-X.k]? with
     |none=>rw[hm] at rH;cases rH
     |some b0=>
      rw[hm] at rH
      have lY:=(List.getElem?_eq_some_iff.1 hm).1
      have hzb:hZ (y.1++z.1) b≠none:=by
       unfold hZ
       rw[List.getElem?_append_right (by omega),hyl,hz1,List.getElem?_map,List.getElem?_eq_getElem (show b-X.k<news.length by omega)]
       simp
      rcases q5 b hzb with⟨h1,_⟩| ⟨b1,h1,h2,h3,h4⟩
      ·omega
      ·rw[hm] at h2;cases h2
       exact aA7 B i (R.rel.ft b0 B s1 qq e1 h3 h4 rH hB i i1 i2)
   ·cases h
  ·cases h
 cases e with
 |nrm=>exact main h
 |ret=>exact main h
 |ex id=>cases h
def tOf:Option m4->T
 |some r=>.leaf r
 |none=>.fail
theorem aLP (hE:∀f F,E f=some F->Sound P f F)(hm:P.follows .mixedOrders=true){hs:Hs}{lf:Nat}{f:FuncId}(aID:∀fn c kk,P.funcs[f]? =some fn->fn.body=some c->Jc P E hs fn.ntmps kk lf c)(hc:∀args w,(callFunc f args).run P w=.ok (.enter f args) w):Sound P f λargs h=>tOf (den P E hs lf f args h):=by
 intro args h res qE w π vs jQ hH iT
 refine .inl ⟨hc _ _,?_⟩
 have qE:den P E hs lf f args h=some res:=by
  have qE:(tOf (den P E hs lf f args h)).eval=some res:=qE
  cases hd:den P E hs lf f args h with
  |none=>rw[hd] at qE;cases qE
  |some r=>rw[hd] at qE;exact qE
 unfold den at qE
 split at qE
 ·cases qE
 rename_i fn hf
 split at qE
 ·cases qE
 rename_i c hb
 split at qE
 case h_1=>cases qE
 rename_i aLQ
 have aLQ:∀b,b∈hs.cQ->b<h.length:=λb hb=>rr.1 (List.all_eq_true.1 aLQ b hb)
 rw[Jj] at qE
 have hlen:=jQ.length
 refine calls_of_wp hf hb ?_
 let X:Cx:={w0:=w,k:=h.length,p0:=π,N:=(start fn args h hs.cQ).tmps.length}
 have I:In X h:=⟨rfl,hH,iT⟩
 have R:gv X h π (start fn args h hs.cQ) {tmps:=vs++Array.replicate (fn.ntmps-vs.size) undef,defers:=[]} w:=by
  refine⟨⟨λi=> ?_,by simp[X,start];simp at hlen;omega,rfl,hH,λ_ _=>rfl,λb B s q e hk hz hp=> ?_,bN.refl _ _⟩,rfl,λb hb=>by simpa[start] using iT b hb,λb hb _=> ?_,by simp[start,X],λb hb=>aLQ b hb⟩
  ·show(ah4 (args++List.replicate (fn.ntmps-args.length) YW) i).rel π ((vs++Array.replicate (fn.ntmps-vs.size) undef).getD i undef)
   rw[xJ]
   simp only[Array.length_toList] at hlen
   rw[Array.getD_eq_getD_getElem?]
   simp only[List.getD]
   rcases Nat.lt_or_ge i args.length with hi|hi
   ·have e1:args[i]? =some (args[i]'hi):=List.getElem?_eq_getElem _
    obtain⟨x,hx,hr⟩:=jQ.get e1
    rw[List.getElem?_append_left hi,e1,Array.getElem?_append_left (by omega),<-Array.getElem?_toList,hx]
    exact hr
   ·rw[List.getElem?_append_right hi,Array.getElem?_append_right (by omega),List.getElem?_replicate,Array.getElem?_replicate,hlen]
    split<;>exact apA π
  ·exact absurd (iT b (by rw[hp];simp)) (by simp only[X] at hk;omega)
  ·show((h.map some)[b]?).getD none=h[b]?
   rw[List.getElem?_map]
   cases h[b]? <;>rfl
 exact yK hE hm I (nt:=fn.ntmps) (by simp[X,start];omega) c (aID fn c h.length hf hb) R qE λe s π a w R hK=>aLO I R hK
structure m4.wk (h:List af)(r r':m4):Prop where
 val:r.val=r'.val
 news:r.news=r'.news
 vv:∀(j:Nat) (b:af),(after h r.vv)[j]? =some (some b)->∃b':af,(after h r'.vv)[j]? =some (some b')∧af.size b'=af.size b∧∀i,i<af.size b->af.get b i=af.get b' i
 kU:∀j:Nat,r.vv[j]? =some .kU->r'.vv[j]? =some .kU
omit [ax] in
theorem m4.wk.refl (h:List af)(r:m4):r.wk h r:=⟨rfl,rfl,λj b hb=>⟨b,hb,rfl,λ_ _=>rfl⟩,λ_ h=>h⟩
theorem Sound.weaken {f:FuncId}{F F0:CD}(S:Sound P f F0)(hw:∀args h r,(F args h).eval=some r->∃r',(F0 args h).eval=some r'∧r.wk h r'):Sound P f F:=by
 intro args h res qE w π vs jQ hH iT
 obtain⟨r',hr',W⟩:=hw args h res qE
 suffices key:∀e w',qD π w h r' e w'->qD π w h res e w' by
  rcases S args h r' hr' w π vs jQ hH iT with⟨S1,S2⟩| ⟨v,S1,S2⟩
  ·exact .inl ⟨S1,Calls.mono S2 key⟩
  ·exact .inr ⟨v,S1,key _ _ S2⟩
 rintro e w' ⟨π',v,rfl,hx,hv,hH',hF,hd,hi⟩
 have aA7:∀B i,AG π h.length (P4 r'.vv) B i->AG π h.length (P4 res.vv) B i:=by
  rintro B i ⟨b,s1,qq,e1,hb,hD,hp,i1,i2⟩
  exact⟨b,s1,qq,e1,hb,λhk=>hD (W.kU b hk),hp,i1,i2⟩
 have src:∀b n,hZ (res.heap h) b=some n->∃k k',(res.heap h)[b]? =some (some k)∧af.size k=n∧(r'.heap h)[b]? =some (some k')∧af.size k'=n∧∀i,i<n->af.get k i=af.get k' i:=λb n hn=>by
  unfold hZ at hn
  cases hg:(res.heap h)[b]? with
  |none=>rw[hg] at hn;cases hn
  |some o=>
   rw[hg] at hn
   cases o with
   |none=>cases hn
   |some k=>
    have hkn:af.size k=n:=by simpa using hn
    rcases Nat.lt_or_ge b h.length with hb|hb
    ·rw[Bk hb] at hg
     obtain⟨k',h1,h2,h3⟩:=W.vv b k hg
     exact⟨k,k',rfl,hkn,by rw[Bk hb];exact h1,by omega,λi hi=>h3 i (by omega)⟩
    ·refine⟨k,k,rfl,hkn,?_,hkn,λ_ _=>rfl⟩
     unfold m4.heap at hg ⊢
     rw[List.getElem?_append_right (by rw[lH];exact hb),lH] at hg ⊢
     rw[<-W.news];exact hg
 refine⟨π',v,rfl,hx,by rw[W.val];exact hv,⟨hH'.am,λb B s1 q1 e1 hz hp yI=> ?_,λb n hn=> ?_,λb b' B s1 q1 e1 s2 q2 e2 kV hz ru=> ?_⟩,hF.mono λB i _ h=>aA7 B i h,by rw[W.news];exact hd,λb B s1 qq e1 hb hp hB i i1 i2=>aA7 B i (hi b B s1 qq e1 hb hp hB i i1 i2)⟩
 ·cases hn:hZ (res.heap h) b with
  |none=>exact absurd hn hz
  |some n=>
   obtain⟨k,k',_,_,h3,_⟩:=src b n hn
   exact hH'.lb b B s1 q1 e1 (by rw[Xw h3];simp) hp yI
 ·obtain⟨k,k',h1,h2,h3,h4,h5⟩:=src b n hn
  have hz:hZ (r'.heap h) b=some n:=by rw[<-h4];exact Xw h3
  obtain⟨B,s1,e1,hp,hle,m1,m2⟩:=hH'.hp b n hz
  refine⟨B,s1,e1,hp,hle,m1,λj hj=> ?_⟩
  obtain⟨x,hx1,hx2⟩:=m2 j hj
  rw[adz h3 (by omega)] at hx2
  exact⟨x,hx1,by rw[adz h1 (by omega),h5 j hj];exact hx2⟩
 ·have nn:∀b,hZ (res.heap h) b≠none->hZ (r'.heap h) b≠none:=λb hb=>by
   cases hn:hZ (res.heap h) b with
   |none=>exact absurd hn hb
   |some n=>obtain⟨k,k',_,_,h3,_⟩:=src b n hn;rw[Xw h3];simp
  exact hH'.dj b b' B s1 q1 e1 s2 q2 e2 kV (nn b hz) (nn b' ru)
end
end Go.Ab
