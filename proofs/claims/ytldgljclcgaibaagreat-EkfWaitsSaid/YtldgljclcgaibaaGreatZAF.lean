/-
  Parts of the proof: SLD SLE SLF SLH Q1
-/
import Derived.Test.YtldgljclcgaibaaGreatZAE
set_option linter.unusedVariables false
set_option linter.unusedSimpArgs false
namespace Go.Ab
variable [ax]
theorem XJ {P:Program}{π:Pi}{w W:World}{h:List af}{cs:List Ch}{out:List (Nat->Int)}{n cap B st q e b0:Nat}(ho:out.length=9)(hH:pZ π (hC (h.map some)) (hZ (h.map some)) w)(iW:∀b,π b≠none->b<h.length)
  (HV:∀b,b<h.length->cs[b]? =some .kY∨cs[b]? =some .kill)(OD:b0<h.length)(hk0:cs[b0]? =some .kill)(hp:π b0=some (B,st,q,e))(hfr:bT w (Bg π h.length (P7 cs)) W)
  (oq:∀i,st<=i->i<e->(cl W B i).isSome=true∧fz W B i=false)(ham:yo W)(hc:∀J,J<n*9->∃v,cl W B (st+J)=some v∧(gL (eE out) J).rel π v)(hn:n<=cap)(hce:st+cap*9<=e):
  aFs P π w h ⟨.r (.c (.sl h.length (.k 0) (.s n) 9 true)),cs,[[.a (.s n) (eE out)]]⟩ (.returned (.slice (some ⟨B,st,none⟩) n cap)) W:=by
 have vS:=OG ho n
 have LA:hZ (h.map some) b0≠none:=by rw[NO,List.getElem?_eq_getElem OD];simp
 have kZ:n*9<=cap*9:=Nat.mul_le_mul_right _ hn
 refine au9 (P:=P) (B:=B) (s:=st) (e:=e) hH iW HV hfr (by rw[vS];omega) oq (λj hj=> ?_) (.inr ⟨b0,st,q,e,OD,hk0,hp,Nat.le_refl _,Nat.le_refl _⟩) ham (λzn=>hH.lb b0 B st q e LA hp zn) λπ' hx rX=> ?_
 ·rw[vS] at hj
  rw[apV ho hj];exact hc j hj
 ·rw[vS] at rX
  exact⟨B,st,n*9,e,rX,by simp[cg.val,Sz.val],λ_=>by simp[cg.val,Sz.val],.inr ⟨cap,hn,rfl,λ_=>by simpa[cg.val] using hce⟩⟩
theorem aiI {P:Program}{π:Pi}{w W:World}{h:List af}{cs:List Ch}{out:List (Nat->Int)}{n cap B:Nat}(ho:out.length=9)(hH:pZ π (hC (h.map some)) (hZ (h.map some)) w)(iW:∀b,π b≠none->b<h.length)
  (HV:∀b,b<h.length->cs[b]? =some .kY∨cs[b]? =some .kill)(hB:w.heap.size<=B)(hfr:bT w (Bg π h.length (P7 cs)) W)
  (oq:∀i,i<cap*9->(cl W B i).isSome=true∧fz W B i=false)(ham:yo W)(hc:∀J,J<n*9->∃v,cl W B J=some v∧(gL (eE out) J).rel π v)(hn:n<=cap):
  aFs P π w h ⟨.r (.c (.sl h.length (.k 0) (.s n) 9 true)),cs,[[.a (.s n) (eE out)]]⟩ (.returned (.slice (some ⟨B,0,none⟩) n cap)) W:=by
 have vS:=OG ho n
 have kZ:n*9<=cap*9:=Nat.mul_le_mul_right _ hn
 refine au9 (P:=P) (B:=B) (s:=0) (e:=cap*9) hH iW HV hfr (by rw[vS];omega) (λi _ hi=>oq i hi) (λj hj=> ?_) (.inl hB) ham (λzn=>Nat.le_trans hH.am.sz hB) λπ' hx rX=> ?_
 ·rw[vS] at hj
  rw[apV ho hj,Nat.zero_add];exact hc j hj
 ·rw[vS] at rX
  exact⟨B,0,n*9,cap*9,rX,by simp[cg.val,Sz.val],λ_=>by simp[cg.val,Sz.val],.inr ⟨cap,hn,rfl,λ_=>by simp[cg.val]⟩⟩
theorem aiJ {P:Program}{π:Pi}{w W:World}{h:List af}{cs:List Ch}{out:List (Nat->Int)}{a:Option Addr}(ho:out.length=9)(hH:pZ π (hC (h.map some)) (hZ (h.map some)) w)(iW:∀b,π b≠none->b<h.length)
  (HV:∀b,b<h.length->cs[b]? =some .kY∨cs[b]? =some .kill)(hfr:bT w (Bg π h.length (P7 cs)) W)(ham:yo W):
  aFs P π w h ⟨.r (.c (.sl h.length (.k 0) (.s 0) 9 true)),cs,[[.a (.s 0) (eE out)]]⟩ (.returned (.slice a 0 0)) W:=by
 have vS:=OG ho 0
 refine au9 (P:=P) (B:=w.heap.size) (s:=0) (e:=0) hH iW HV hfr (by rw[vS];omega) (λi _ hi=>by omega) (λj hj=>by rw[vS] at hj;omega) (.inl (Nat.le_refl _)) ham (λzn=>by omega) λπ' hx rX=> ?_
 rw[vS] at rX
 exact⟨w.heap.size,0,0*9,0,rX,by simp[cg.val,Sz.val],λ_=>by simp[cg.val,Sz.val],.inl ⟨rfl,a,rfl⟩⟩
theorem aAn {π:Pi}{w:World}{h:List af}{l:List (Nat->Int)}{n b B st q e:Nat}(hl:l.length=9)(hH:pZ π (hC (h.map some)) (hZ (h.map some)) w)(hb:h[b]? =some [.a (.s n) (eE l)])(hp:π b=some (B,st,q,e)):
  q=n*9∧st+n*9<=e∧(∀i,st<=i->i<e->(cl w B i).isSome=true∧fz w B i=false)∧∃cs:List Value,cs.length=n*9∧(∀j v,cs[j]? =some v->w.cell? ⟨B,st+j,none⟩=some v∧(gL (eE l) j).rel π v)∧∀v∈cs,v.oneCell'=true:=by
 have hz:hZ (h.map some) b=some (n*9):=by rw[NO,hb];exact congrArg some (OG hl n)
 obtain⟨B',s',e',eC,zn,k1,k2⟩:=hH.hp b _ hz
 rw[hp] at eC;cases eC
 refine⟨rfl,zn,k1,aJT λj hj=> ?_⟩
 obtain⟨v,hv,hr⟩:=k2 j hj
 rw[aAl hb (by rw[OG hl];exact hj),apV hl hj] at hr
 exact⟨v,hv,hr⟩
end Go.Ab
namespace Go.Proofs.YtldgljclcgaibaaGreat
open Go.RowKit Go.Lib Go.Ab
variable [ax]
omit [ax] in
theorem apW {P:Program}(w:World)(tS tR e:TypeId)(ht:P.underlying tS=some (.slice e))(size:Nat)(hz:∀w,(Go.sizeOf e).run P w=.ok size w)(B oa ob la ca lb cb:Nat)(hd:oa+la*size<=ob∨ob+lb*size<=oa):
  (Extern.SlicesOverlaps.overlaps #[tS,tS] #[tR] #[.slice (some ⟨B,oa,none⟩) la ca,.slice (some ⟨B,ob,none⟩) lb cb]).run P w=.ok (.bool false) w:=by
 change Sem.run P (α:=Value) (do
  let some t:=(#[tS,tS]:Array TypeId)[0]? |stuck "slices.overlaps: no parameter types"
  let .slice elem<-underlying t|stuck "slices.overlaps: slice type expected"
  let size<-sizeOf elem
  match(some ⟨B,oa,none⟩:Option Addr),(some ⟨B,ob,none⟩:Option Addr) with
  |some a,some b=>
   if la=0∨lb=0∨size=0 then pure (Value.bool false)
   else if a.block !=b.block&&(<-frozen a)&&(<-frozen b) then unsupported .addressObserved
   else do
    if a.block !=b.block then do
     noView a;noView b
     if<-mayBeOne a b then return Value.bool ((<-choose (.extern "sameAddr.stringBytes" 2))==1)
    pure (Value.bool (a.block==b.block&&a.off<b.off+lb*size&&b.off<a.off+la*size))
  |_,_=>pure (Value.bool false)) w=_
 by_cases h0:la=0∨lb=0∨size=0
 ·simp[run_underlying ht,hz,h0]
 ·simp[run_underlying ht,hz,h0,frozen,Sem.run]
  omega
omit [ax] in
theorem aG8 {w:World}{vb Bi vc b o lb cb:Nat}(hd:vb=b->Bi+9<=o∨o+lb*9<=Bi){va vb2:Value}(ha:w.cell? ⟨vb,Bi,none⟩=some va)(hb:w.cell? ⟨b,o,none⟩=some vb2)(hfa:∀i,w.frozen? ⟨vb,i,none⟩=false):
  (callFunc 145 #[.slice (some ⟨vb,Bi,none⟩) 1 vc,.slice (some ⟨b,o,none⟩) lb cb]).run Tryz.prog w=.ok (.value (.bool false)) w:=by
 rw[run_callFunc_extern Tryz.func145 (by kernel_rfl) (by kernel_rfl) (by kernel_rfl) (e:=Extern.SlicesOverlaps.overlaps #[140,140] #[4]) (by kernel_rfl)]
 obtain⟨tA,kA,sA,_⟩:=aFx ha
 obtain⟨tB,kB,sB,nB⟩:=aFx hb
 by_cases kZ:vb=b
 ·subst kZ
  have h2:=hd rfl
  rw[apW w 140 4 42 uT 9 (λw=>Ab.run_sizeOf uE w) vb Bi o 1 vc lb cb (by omega)]
  rfl
 ·rw[Lib.run_overlaps_apart w 140 4 42 uT 9 (λw=>Ab.run_sizeOf uE w) ⟨vb,Bi,none⟩ ⟨b,o,none⟩ 1 vc lb cb kZ tA tB kA kB sA sB nB (hfa Bi) (hfa kA)]
  rfl
end Go.Proofs.YtldgljclcgaibaaGreat
set_option maxRecDepth 100000
set_option maxHeartbeats 4000000
namespace Go.Proofs.YtldgljclcgaibaaGreat
open Go.RowKit Go.Lib Go.Ab
theorem aDG [ax]{gs vs9:List (Nat->Int)}(hg:gs.length=9)(hv9:vs9.length=9)(n i:Nat)(hi:i<=n)(awF:(n+1)*72<=140737488355328)(w2:Bool)(w:World)(π:Pi)(vs:Array Value)
  (jR:bj (AV.rel π) [.r (.c (.sl 0 (.k 0) (.s n) 9 true)),.r (.c (.f (.i .i64 (i:Int)))),.r (.c (.sl 1 (.k 0) (.s 1) 9 w2))] vs.toList)
  (hH:pZ π (hC ([[.a (.s n) (eE gs)],[.a (.s 1) (eE vs9)]].map some)) (hZ ([[.a (.s n) (eE gs)],[.a (.s 1) (eE vs9)]].map some)) w)(iW:∀b,π b≠none->b<2):
  Calls Tryz.prog 97 vs w (qS π w [[.a (.s n) (eE gs)],[.a (.s 1) (eE vs9)]] ⟨.r (.c (.sl 2 (.k 0) (.s (n+1)) 9 true)),[.kill,.kY],[[.a (.s (n+1)) (eE (List.zipWith (IK i) gs vs9))]]⟩):=by
 obtain⟨y1,y2,y3,hvt,r1,r2,r3⟩:∃y1 y2 y3,vs.toList=[y1,y2,y3]∧(AV.r (.c (.sl 0 (.k 0) (.s n) 9 true))).rel π y1∧(AV.r (.c (.f (.i .i64 (i:Int))))).rel π y2∧(AV.r (.c (.sl 1 (.k 0) (.s 1) 9 w2))).rel π y3:=by
  match hl:vs.toList,jR with
  | [y1,y2,y3],⟨a,b,c,_⟩=>exact⟨y1,y2,y3,rfl,a,b,c⟩
  | [],h=>exact h.elim
  | [_],⟨_,h⟩=>exact h.elim
  | [_,_],⟨_,_,h⟩=>exact h.elim
  |_::_::_::_::_,⟨_,_,_,h⟩=>exact h.elim
 have hvt:vs=#[y1,y2,y3]:=by rw[<-Array.toList_inj];exact hvt
 subst hvt
 have r2:y2=.int .i64 (i:Int):=r2
 subst r2
 obtain⟨B,st,q,e,hb,_,_,hx⟩:=r1
 obtain⟨vB,vst,vq,ve,hvb,_,_,hvx⟩:=r3
 obtain⟨rfl,hle,oq,cs,Cd,HV,h1c⟩:=aAn (b:=0) hg hH rfl hb
 obtain⟨rfl,a0V,aXb,vl,hvl,hvs,h1v⟩:=aAn (b:=1) hv9 hH rfl hvb
 obtain⟨XK,aZV,rfl,_⟩:∃XK,1<=XK∧y3=.slice (some ⟨vB,vst,none⟩) 1 XK∧True:=by
  rcases hvx with⟨h,_⟩| ⟨XK,h1,h2,_⟩
  ·cases h
  ·exact⟨XK,h1,h2,trivial⟩
 have LA:hZ ([[.a (.s n) (eE gs)],[.a (.s 1) (eE vs9)]].map some) 0≠none:=by simp[hZ]
 have hz1:hZ ([[.a (.s n) (eE gs)],[.a (.s 1) (eE vs9)]].map some) 1≠none:=by simp[hZ]
 have hfv:∀i,w.frozen? ⟨vB,i,none⟩=false:=λi=>hH.am.fr vB i (hH.lb 1 vB vst _ ve hz1 hvb (by omega))
 have ho:(List.zipWith (IK i) gs vs9).length=9:=by simp[hg,hv9]
 have afZ:∀b,b< [[Sg.a (.s n) (eE gs)],[.a (.s 1) (eE vs9)]].length->[Ch.kill,Ch.kY][b]? =some .kY∨[Ch.kill,Ch.kY][b]? =some .kill:=λb hb=>by
  match b,hb with
  |0,_=>exact .inr rfl
  |1,_=>exact .inl rfl
  |b+2,h=>exact absurd h (by simp)
 have hft:∀i,st<=i->i<e->Bg π 2 (P7 [.kill,.kY]) B i:=λi h1 h2=>⟨0,st,_,e,by omega,by simp[P7],hb,h1,h2⟩
 have cont:∀(W:World) (B' s':Nat),(∀j v,j<i*9->cs[j]? =some v->cl W B' (s'+j)=some v)->(∀j v,vl[j]? =some v->cl W B' (s'+i*9+j)=some v)->(∀j v,i*9<=j->cs[j]? =some v->cl W B' (s'+(j+9))=some v)->
   ∀J,J<(n+1)*9->∃v,cl W B' (s'+J)=some v∧(gL (eE (List.zipWith (IK i) gs vs9)) J).rel π v:=λW B' s' c1 c2 c3 J hJ=>by
  rw[aP0 hg hv9]
  by_cases h1:J<i*9
  ·rw[if_pos h1]
   have hj:cs[J]? =some (cs[J]'(by omega)):=List.getElem?_eq_getElem _
   exact⟨_,c1 J _ h1 hj,(HV J _ hj).2⟩
  ·rw[if_neg h1]
   by_cases h2:J<(i+1)*9
   ·rw[if_pos h2]
    have hj:vl[J-i*9]? =some (vl[J-i*9]'(by omega)):=List.getElem?_eq_getElem _
    have:=c2 _ _ hj
    rw[show s'+i*9+(J-i*9)=s'+J by omega] at this
    exact⟨_,this,(hvs _ _ hj).2⟩
   ·rw[if_neg h2]
    have hj:cs[J-9]? =some (cs[J-9]'(by omega)):=List.getElem?_eq_getElem _
    have:=c3 _ _ (by omega) hj
    rw[show s'+(J-9+9)=s'+J by omega] at this
    exact⟨_,this,(HV _ _ hj).2⟩
 have hE:=iE
 obtain⟨i0,z0,hi0,hzz,aYy,aTT,aYz⟩:=hE
 have aTU:(Tryz.prog.info? 42).map (·.bytes)=some 72:=by rw[hi0];exact congrArg some aTT
 obtain⟨zv,hzv,aTV⟩:∃zv,yj Tryz.prog 42=some zv∧af.size zv.bI=9:=by
  have h:(yj Tryz.prog 42).map (λz=>af.size z.bI)=some 9:=by kernel_rfl
  cases hz:yj Tryz.prog 42 with
  |none=>rw[hz] at h;cases h
  |some z=>rw[hz] at h;exact⟨z,rfl,by simpa using h⟩
 have apQ:∀(base:Option Addr) (cap:Nat) (Fa:List Value),i=n->Fa=cs->cap<n+1->n<=cap->((base=none∧n=0∧cap=0)∨∃b,base=some b∧∀j v,Fa[j]? =some v->w.cell? (b.add j)=some v)->
   y1=.slice base n cap->Calls Tryz.prog 97 #[y1,.int .i64 (i:Int),.slice (some ⟨vB,vst,none⟩) 1 XK] w (qS π w [[.a (.s n) (eE gs)],[.a (.s 1) (eE vs9)]] ⟨.r (.c (.sl 2 (.k 0) (.s (n+1)) 9 true)),[.kill,.kY],[[.a (.s (n+1)) (eE (List.zipWith (IK i) gs vs9))]]⟩):=by
  intro base cap Fa hin holds pz aZW hs hy
  subst hin holds
  obtain⟨gc,arr,mz,hgc,vS,rest,adC⟩:∃gc arr,(∀ty,(Builtin.append_ #[140,140] ty #[.slice base i cap,.slice (some ⟨vB,vst,none⟩) 1 XK]).run Tryz.prog w=.ok (.slice (some ⟨w.heap.size,0,none⟩) (i+1) gc) (w.drew.alloc (.cells arr 42)))∧i+1<=gc∧arr.size=gc*9∧∃rest,arr.toList=Fa++vl++rest:=by
   obtain⟨gc,arr,mz,h2,h3,h4⟩:=G6 (P:=Tryz.prog) (ty:=0) uT uE aTU hzv aTV (by omega) (sv:=.slice base i cap) (n:=i) (cap:=cap) (m:=1) (c:=XK) (ad:=⟨vB,vst,none⟩) (Fa:=Fa) (news:=vl) w (by
    rcases hs with⟨rfl,h1,h2⟩| ⟨b,rfl,h3⟩
    ·exact .inl ⟨by rw[h1,h2],h1,h2⟩
    ·exact .inr ⟨b,rfl,h3⟩) Cd (by rw[hvl]) (λj v hj=>by rw[Addr.add_lit];exact(hvs j v hj).1) pz (by omega) awF
   exact⟨gc,arr,λty=>by unfold Builtin.append_ at mz ⊢;exact mz,h2,h3,h4⟩
  have hC:=aJS base i cap vB vst XK w _ _ mz
  rw[hy]
  refine Calls.mono hC ?_
  rintro ev W ⟨rfl,rfl⟩
  have aFy:∀j,cl (w.drew.alloc (.cells arr 42)) w.heap.size j=arr[j]? :=λj=>World.cell?_alloc_at (w:=w.drew) arr _ w.heap.size j rfl
  refine aiI (P:=Tryz.prog) ho hH iW afZ (Nat.le_refl _) (((bT.refl w _).drew).alloc _ _) (λk hk=>⟨by rw[aFy,Array.getElem?_eq_getElem (by omega)];rfl,World.frozen?_alloc_at (w:=w.drew) arr _ w.heap.size k rfl⟩) ((hH.am.same (w':=w.drew) rfl).alloc _ _) (λJ hJ=> ?_) hgc
  have:=cont (w.drew.alloc (.cells arr 42)) w.heap.size 0 (λj v hj hv=>by rw[Nat.zero_add,aFy];exact(Th adC).1 hv) (λj v hv=>by rw[Nat.zero_add,aFy,<-Cd];exact(Th adC).2 hv) (λj v hj hv=>by have:=(List.getElem?_eq_some_iff.1 hv).1;omega) J hJ
  rwa [Nat.zero_add] at this
 rcases hx with⟨h0,a,rfl⟩| ⟨cap,pz,rfl,hce⟩
 ·
  have h0:n=0:=h0
  subst h0
  have aYA:i=0:=by omega
  subst aYA
  cases a with
  |none=>exact apQ none 0 cs rfl rfl (by omega) (by omega) (.inl ⟨rfl,rfl,rfl⟩) rfl
  |some b=>
   have aYB:cs=[]:=List.eq_nil_of_length_eq_zero (by omega)
   exact apQ (some b) 0 cs rfl rfl (by omega) (by omega) (.inr ⟨b,rfl,λj v hj=>by rw[aYB] at hj;simp at hj⟩) rfl
 ·have pz:n<=cap:=pz
  have hce:st+cap*9<=e:=by have:=hce rfl;simpa[cg.val] using this
  show Calls Tryz.prog 97 #[.slice (some ⟨B,st,none⟩) n cap,.int .i64 (i:Int),.slice (some ⟨vB,vst,none⟩) 1 XK] w _
  by_cases P6:n+1<=cap
  ·have aZH:(n+1)*9<=cap*9:=Nat.mul_le_mul_right _ P6
   have aTq:vB=B->vst+9<=st∨st+(n+1)*9<=vst:=λh=>by
    subst h
    rcases Nat.lt_or_ge vst (st+(n+1)*9) with h1|h1
    ·left
     rcases Nat.lt_or_ge st (vst+9) with h2|h2
     ·exfalso
      rcases Nat.lt_or_ge st vst with h3|h3
      ·exact hH.dj 0 1 _ st _ e vst _ ve (by omega) LA hz1 hb hvb vst (by omega) (by omega) (Nat.le_refl _) (by omega)
      ·exact hH.dj 0 1 _ st _ e vst _ ve (by omega) LA hz1 hb hvb st (Nat.le_refl _) (by omega) h3 (by omega)
     ·omega
    ·exact .inr h1
   by_cases hin:i=n
   ·
    subst hin
    have hC:=aJS (some ⟨B,st,none⟩) i cap vB vst XK w _ _ (λty=>JH (P:=Tryz.prog) (ty:=ty) uT uE (B:=B) (q:=st) (n:=i) (cap:=cap) (m:=1) (c:=XK) (ad:=⟨vB,vst,none⟩) (news:=vl) P6 (by rw[hvl]) w (λj v hj=>by rw[Addr.add_lit];exact(hvs j v hj).1) h1v (λj hj=>oq _ (by omega) (by omega)))
    refine Calls.mono hC ?_
    rintro ev W ⟨rfl,rfl⟩
    have aWk:∀j,j<vl.length->(cl w B (st+i*9+j)).isSome=true:=λj hj=>(oq _ (by omega) (by omega)).1
    refine XJ (P:=Tryz.prog) (q:=i*9) ho hH iW afZ (by simp) rfl hb ((bT.refl w _).setCells (.inr λj hj=>hft _ (by omega) (by omega))) (λk k1 k2=>⟨Ab.isSome_setCells aWk (oq k k1 k2).1,by rw[nA];exact(oq k k1 k2).2⟩) (hH.am.setCells λ_=>hH.lb 0 B st _ e LA hb (by omega)) (cont _ B st (λj v hj hv=> ?_) (λj v hv=> ?_) (λj v hj hv=>by have:=(List.getElem?_eq_some_iff.1 hv).1;omega)) P6 hce
    ·rw[dF (λ_=>by omega)];exact(HV j v hv).1
    ·have hjl:=(List.getElem?_eq_some_iff.1 hv).1
     rw[mf aWk hjl]
     rw[List.getElem?_eq_getElem hjl] at hv;exact hv
   ·
    have hC:=aNm B st n cap i vB vst XK cs vl w (by omega) P6 aTq Cd hvl (by omega) (λj v hj=>(HV j v hj).1) (λj hj=>(oq _ (by omega) (by omega)).1) (λj hj=>(oq _ (by omega) (by omega)).2) (λj v hj=>(hvs j v hj).1) h1c h1v
     (λcb=>by
      obtain⟨va,hva⟩:=Option.isSome_iff_exists.1 (aXb vst (Nat.le_refl _) (by omega)).1
      obtain⟨vb2,aYC⟩:=Option.isSome_iff_exists.1 (oq (st+(i+1)*9) (by omega) (by omega)).1
      exact aG8 (λh=>by have:=aTq h;omega) hva aYC hfv)
    refine Calls.mono hC ?_
    rintro ev W ⟨rfl,rfl⟩
    have hdl:(cs.drop (i*9)).length=(n-i)*9:=by rw[List.length_drop,Cd];omega
    have i1:∀j,j<(cs.drop (i*9)).length->(cl w.drew B (st+(i+1)*9+j)).isSome=true:=λj hj=>(oq _ (by omega) (by omega)).1
    have i2:∀j,j<vl.length->(cl (w.drew.setCells B (st+(i+1)*9) (cs.drop (i*9))) B (st+i*9+j)).isSome=true:=λj hj=>Ab.isSome_setCells i1 (oq _ (by omega) (by omega)).1
    have hlb:=hH.lb 0 B st _ e LA hb (by omega)
    refine XJ (P:=Tryz.prog) (q:=n*9) ho hH iW afZ (by simp) rfl hb ((((bT.refl w _).drew).setCells (.inr λj hj=>hft _ (by omega) (by omega))).setCells (.inr λj hj=>hft _ (by omega) (by omega)))
     (λk k1 k2=>⟨Ab.isSome_setCells i2 (Ab.isSome_setCells i1 (oq k k1 k2).1),by rw[nA,nA];exact(oq k k1 k2).2⟩) (((hH.am.same (w':=w.drew) rfl).setCells λ_=>hlb).setCells λ_=>hlb) (cont _ B st (λj v hj hv=> ?_) (λj v hv=> ?_) (λj v hj hv=> ?_)) P6 hce
    ·rw[dF (λ_=>by omega),dF (λ_=>by omega)];exact(HV j v hv).1
    ·have hjl:=(List.getElem?_eq_some_iff.1 hv).1
     rw[mf i2 hjl]
     rw[List.getElem?_eq_getElem hjl] at hv;exact hv
    ·have hjl:=(List.getElem?_eq_some_iff.1 hv).1
     rw[dF (λ_=>by omega)]
     have jZ:j-i*9<(cs.drop (i*9)).length:=by omega
     have:=mf i1 jZ
     rw[show st+(i+1)*9+(j-i*9)=st+(j+9) by omega] at this
     rw[this,<-List.getElem?_eq_getElem,List.getElem?_drop,show i*9+(j-i*9)=j by omega]
     exact hv
  ·by_cases hin:i=n
   ·exact apQ (some ⟨B,st,none⟩) cap cs hin rfl (by omega) pz (.inr ⟨_,rfl,λj v hj=>by rw[Addr.add_lit];exact(HV j v hj).1⟩) rfl
   ·obtain⟨G,Bj,hG,vS,htk,hC⟩:=aPY B st n cap i vB vst XK cs vl w (by omega) pz (by omega) awF Cd hvl (λj v hj=>(HV j v hj).1) (λj v hj=>(hvs j v hj).1) h1c h1v
    refine Calls.mono hC ?_
    rintro ev W ⟨rfl,rfl⟩
    have hG9:(n+1)*9<=G*9:=Nat.mul_le_mul_right _ hG
    have hdl:(cs.drop (i*9)).length=(n-i)*9:=by rw[List.length_drop,Cd];omega
    have c0:∀j,cl (w.alloc (.cells Bj 42)).drew w.heap.size j=Bj[j]? :=λj=>World.cell?_alloc_at (w:=w) Bj _ w.heap.size j rfl
    have s0:∀j,j<G*9->(cl (w.alloc (.cells Bj 42)).drew w.heap.size j).isSome=true:=λj hj=>by rw[c0,Array.getElem?_eq_getElem (by omega)];rfl
    have i1:∀j,j<vl.length->(cl (w.alloc (.cells Bj 42)).drew w.heap.size (i*9+j)).isSome=true:=λj hj=>s0 _ (by omega)
    have i2:∀j,j<(cs.drop (i*9)).length->(cl ((w.alloc (.cells Bj 42)).drew.setCells w.heap.size (i*9) vl).drew w.heap.size ((i+1)*9+j)).isSome=true:=λj hj=>Ab.isSome_setCells i1 (s0 _ (by omega))
    have hlb:ax.h0<=w.heap.size:=hH.am.sz
    have am1:yo (w.alloc (.cells Bj 42)).drew:=(hH.am.alloc Bj 42).same (w':=(w.alloc (.cells Bj 42)).drew) rfl
    have am2:yo ((w.alloc (.cells Bj 42)).drew.setCells w.heap.size (i*9) vl).drew:=(am1.setCells λ_=>hlb).same (w':=((w.alloc (.cells Bj 42)).drew.setCells w.heap.size (i*9) vl).drew) rfl
    have f1:bT w (Bg π 2 (P7 [.kill,.kY])) ((w.alloc (.cells Bj 42)).drew.setCells w.heap.size (i*9) vl).drew:=((((bT.refl w _).alloc Bj 42).drew).setCells (.inl (Nat.le_refl _))).drew
    refine aiI (P:=Tryz.prog) ho hH iW afZ (Nat.le_refl _) (f1.setCells (.inl (Nat.le_refl _))) (λk hk=>⟨Ab.isSome_setCells i2 (Ab.isSome_setCells i1 (s0 k hk)),?_⟩) (am2.setCells λ_=>hlb) (λJ hJ=> ?_) hG
    ·rw[nA]
     exact(nA (w:=(w.alloc (.cells Bj 42)).drew)).trans (World.frozen?_alloc_at (w:=w) Bj _ w.heap.size k rfl)
    ·have:=cont (((w.alloc (.cells Bj 42)).drew.setCells w.heap.size (i*9) vl).drew.setCells w.heap.size ((i+1)*9) (cs.drop (i*9))) w.heap.size 0 (λj v hj hv=> ?_) (λj v hv=> ?_) (λj v hj hv=> ?_) J hJ
     ·rwa [Nat.zero_add] at this
     ·rw[Nat.zero_add,dF (λ_=>by omega)]
      exact(dF (w:=(w.alloc (.cells Bj 42)).drew) (λ_=>by omega)).trans ((c0 j).trans (htk j v hj hv))
     ·have hjl:=(List.getElem?_eq_some_iff.1 hv).1
      rw[Nat.zero_add,dF (λ_=>by omega)]
      have:=mf i1 hjl
      rw[List.getElem?_eq_getElem hjl] at hv
      exact this.trans hv
     ·have hjl:=(List.getElem?_eq_some_iff.1 hv).1
      have jZ:j-i*9<(cs.drop (i*9)).length:=by omega
      have:=mf i2 jZ
      rw[show(i+1)*9+(j-i*9)=j+9 by omega] at this
      rw[Nat.zero_add,this,<-List.getElem?_eq_getElem,List.getElem?_drop,show i*9+(j-i*9)=j by omega]
      exact hv
end Go.Proofs.YtldgljclcgaibaaGreat
namespace Go.Proofs.YtldgljclcgaibaaGreat
open Go.RowKit Go.Lib Go.Ab
theorem zS [ax]:∃z,(∀w,(Go.zeroValue 42).run Tryz.prog w=.ok z w)∧z.cells.size=9∧∀v∈z.cells.toList,v.oneCell'=true:=by
 have h:(Tryz.prog.info? 42).map (λi=>i.zero.map λz=>(z.cells.size,z.cells.toList.all λv=>v.oneCell'))=some (some (9,true)):=by kernel_rfl
 obtain⟨zv,hzv⟩:∃zv,yj Tryz.prog 42=some zv:=by
  have h:(yj Tryz.prog 42).isSome=true:=by kernel_rfl
  exact Option.isSome_iff_exists.1 h
 cases hi:Tryz.prog.info? 42 with
 |none=>rw[hi] at h;cases h
 |some i=>
  rw[hi] at h
  simp only[Option.map_some,Option.some.injEq] at h
  cases hz:i.zero with
  |none=>rw[hz] at h;cases h
  |some z=>
   rw[hz] at h
   simp only[Option.map_some,Option.some.injEq,Prod.mk.injEq] at h
   refine⟨z,λw=> ?_,h.1,List.all_eq_true.1 h.2⟩
   obtain⟨x,hx,⟨it,hi2,hz2⟩,_⟩:=abd hzv w
   rw[hi] at hi2
   cases hi2
   rw[hz] at hz2
   cases hz2
   exact hx
theorem aTW [ax](w:World)(ty:TypeId)(b o n c:Nat)(hn:0<n)(hc:∀j,j<n*9->(w.cell? ⟨b,o+j,none⟩).isSome=true)(hf:∀j,j<n*9->w.frozen? ⟨b,o+j,none⟩=false):
  ∃zs:List Value,zs.length=n*9∧(Builtin.clear_ #[140] ty #[.slice (some ⟨b,o,none⟩) n c]).run Tryz.prog w=.ok (.tuple #[]) (w.setCells b o zs):=by
 obtain⟨z,hz,hs,h1⟩:=zS
 have hl:(Builtin.zeroCells z.cells n).toList.length=n*9:=by rw[Array.length_toList,size_zeroCells,hs]
 refine⟨(Builtin.zeroCells z.cells n).toList,hl,?_⟩
 have hst:=run_storeCells_cells (P:=Tryz.prog) b o (Builtin.zeroCells z.cells n).toList 0 w (by rw[hl];simpa using hc) (by rw[hl];simpa using hf) (by
  intro v hv
  unfold Builtin.zeroCells at hv
  rw[Array.toList_map] at hv
  obtain⟨i,hi,rfl⟩:=List.mem_map.1 hv
  have me:i%z.cells.size<z.cells.size:=Nat.mod_lt _ (by omega)
  have e:z.cells[i%z.cells.size]! =z.cells[i%z.cells.size]:=getElem!_pos z.cells (i%z.cells.size) me
  rw[e]
  exact h1 _ (Array.getElem_mem_toList me))
 simp only[Nat.add_zero] at hst
 obtain⟨m,rfl⟩:∃m,n=m+1:=⟨n-1,by omega⟩
 simp[Builtin.clear_,run_underlying uT,hz,hst]
theorem aDH [ax]{gs:List (Nat->Int)}(hg:gs.length=9)(n i j:Nat)(hij:i<=j)(hj:j<=n)(w:World)(π:Pi)(vs:Array Value)
  (jR:bj (AV.rel π) [.r (.c (.sl 0 (.k 0) (.s n) 9 true)),.r (.c (.f (.i .i64 (i:Int)))),.r (.c (.f (.i .i64 (j:Int))))] vs.toList)
  (hH:pZ π (hC ([[.a (.s n) (eE gs)]].map some)) (hZ ([[.a (.s n) (eE gs)]].map some)) w)(iW:∀b,π b≠none->b<1):
  Calls Tryz.prog 98 vs w (qS π w [[.a (.s n) (eE gs)]] ⟨.r (.c (.sl 1 (.k 0) (.s (i+(n-j))) 9 true)),[.kill],[[.a (.s (i+(n-j))) (eE (gs.map (OF i (j-i))))]]⟩):=by
 obtain⟨y1,y2,y3,hvt,r1,r2,r3⟩:∃y1 y2 y3,vs.toList=[y1,y2,y3]∧(AV.r (.c (.sl 0 (.k 0) (.s n) 9 true))).rel π y1∧(AV.r (.c (.f (.i .i64 (i:Int))))).rel π y2∧(AV.r (.c (.f (.i .i64 (j:Int))))).rel π y3:=by
  match hl:vs.toList,jR with
  | [y1,y2,y3],⟨a,b,c,_⟩=>exact⟨y1,y2,y3,rfl,a,b,c⟩
  | [],h=>exact h.elim
  | [_],⟨_,h⟩=>exact h.elim
  | [_,_],⟨_,_,h⟩=>exact h.elim
  |_::_::_::_::_,⟨_,_,_,h⟩=>exact h.elim
 have hvt:vs=#[y1,y2,y3]:=by rw[<-Array.toList_inj];exact hvt
 subst hvt
 have r2:y2=.int .i64 (i:Int):=r2
 have r3:y3=.int .i64 (j:Int):=r3
 subst r2 r3
 obtain⟨B,st,q,e,hb,_,_,hx⟩:=r1
 obtain⟨rfl,hle,oq,cs,Cd,HV,h1c⟩:=aAn (b:=0) hg hH rfl hb
 have LA:hZ ([[.a (.s n) (eE gs)]].map some) 0≠none:=by simp[hZ]
 have ho:(gs.map (OF i (j-i))).length=9:=by simp[hg]
 have afZ:∀b,b< [[Sg.a (.s n) (eE gs)]].length->[Ch.kill][b]? =some .kY∨[Ch.kill][b]? =some .kill:=λb hb=>by
  match b,hb with
  |0,_=>exact .inr rfl
  |b+1,h=>exact absurd h (by simp)
 have hft:∀i,st<=i->i<e->Bg π 1 (P7 [.kill]) B i:=λi h1 h2=>⟨0,st,_,e,by omega,by simp[P7],hb,h1,h2⟩
 rcases hx with⟨h0,a,rfl⟩| ⟨cap,pz,rfl,hce⟩
 ·have h0:n=0:=h0
  subst h0
  have hi0:i=0:=by omega
  have hj0:j=0:=by omega
  subst hi0 hj0
  refine Calls.mono (aFv a 0 0 0 w (by omega) (by omega)) ?_
  rintro ev W ⟨rfl,rfl⟩
  exact aiJ (P:=Tryz.prog) ho hH iW afZ (bT.refl _ _) hH.am
 ·have pz:n<=cap:=pz
  have hce:st+cap*9<=e:=by have:=hce rfl;simpa[cg.val] using this
  have aZX:n*9<=cap*9:=Nat.mul_le_mul_right _ pz
  show Calls Tryz.prog 98 #[.slice (some ⟨B,st,none⟩) n cap,.int .i64 (i:Int),.int .i64 (j:Int)] w _
  rcases Nat.eq_or_lt_of_le hij with aYD|me
  ·subst aYD
   refine Calls.mono (aFv _ n cap i w hj pz) ?_
   rintro ev W ⟨rfl,rfl⟩
   have hn:i+(n-i)=n:=by omega
   rw[hn]
   refine XJ (P:=Tryz.prog) (q:=n*9) ho hH iW afZ (by simp) rfl hb (bT.refl _ _) oq hH.am (λJ hJ=> ?_) pz hce
   rw[aFw hg]
   have hjj:cs[J]? =some (cs[J]'(by omega)):=List.getElem?_eq_getElem _
   refine⟨_,(HV _ _ hjj).1,?_⟩
   have:=(HV _ _ hjj).2
   split
   ·exact this
   ·rw[Nat.sub_self,Nat.zero_mul,Nat.add_zero];exact this
  ·have hm9:(i+(n-j))*9<=n*9:=Nat.mul_le_mul_right _ (by omega)
   have hdl:(cs.drop (j*9)).length=(n-j)*9:=by rw[List.length_drop,Cd];omega
   have i1:∀k,k<(cs.drop (j*9)).length->(cl w.drew B (st+i*9+k)).isSome=true:=λk hk=>(oq _ (by omega) (by omega)).1
   obtain⟨w2,hw2⟩:∃w2,w2=w.drew.setCells B (st+i*9) (cs.drop (j*9)):=⟨_,rfl⟩
   have s2:∀k,st<=k->k<e->(cl w2 B k).isSome=true∧fz w2 B k=false:=λk k1 k2=>by
    rw[hw2]
    exact⟨Ab.isSome_setCells i1 (oq k k1 k2).1,by rw[nA];exact(oq k k1 k2).2⟩
   obtain⟨zs,hzl,aYE⟩:∃zs:List Value,zs.length=(n-(i+(n-j)))*9∧∀ty,(Builtin.clear_ #[140] ty #[.slice (some ⟨B,st+(i+(n-j))*9,none⟩) (n-(i+(n-j))) (cap-(i+(n-j)))]).run Tryz.prog w2=.ok (.tuple #[]) (w2.setCells B (st+(i+(n-j))*9) zs):=by
    obtain⟨zs,h1,h2⟩:=aTW w2 0 B (st+(i+(n-j))*9) (n-(i+(n-j))) (cap-(i+(n-j))) (by omega) (λk hk=>(s2 _ (by omega) (by omega)).1) (λk hk=>(s2 _ (by omega) (by omega)).2)
    exact⟨zs,h1,λty=>by unfold Builtin.clear_ at h2 ⊢;exact h2⟩
   have hC:=aPZ B st n cap i j w w2 (w2.setCells B (st+(i+(n-j))*9) zs) me hj pz (λty=>by
    rw[hw2]
    exact JH (P:=Tryz.prog) (ty:=ty) uT uE (B:=B) (q:=st) (n:=i) (cap:=cap) (m:=n-j) (c:=cap-j) (news:=cs.drop (j*9)) (by omega) hdl w.drew (λk v hk=>by
     have hk2:=(List.getElem?_eq_some_iff.1 hk).1
     rw[List.getElem?_drop] at hk
     have:=(HV _ _ hk).1
     split
     ·omega
     ·rw[Addr.add_lit,Nat.add_assoc];exact this) (λv hv=>h1c v (List.mem_of_mem_drop hv)) (λk hk=>oq _ (by omega) (by omega))) aYE
   refine Calls.mono hC ?_
   rintro ev W ⟨rfl,rfl⟩
   have i2:∀k,k<zs.length->(cl w2 B (st+(i+(n-j))*9+k)).isSome=true:=λk hk=>(s2 _ (by omega) (by omega)).1
   have hlb:0<n->ax.h0<=B:=λ_=>hH.lb 0 B st _ e LA hb (by omega)
   have am2:yo w2:=by rw[hw2];exact(hH.am.same (w':=w.drew) rfl).setCells λ_=>hlb (by omega)
   have f2:bT w (Bg π 1 (P7 [.kill])) w2:=by rw[hw2];exact((bT.refl w _).drew).setCells (.inr λk hk=>hft _ (by omega) (by omega))
   refine XJ (P:=Tryz.prog) (q:=n*9) ho hH iW afZ (by simp) rfl hb (f2.setCells (.inr λk hk=>hft _ (by omega) (by omega))) (λk k1 k2=>⟨Ab.isSome_setCells i2 (s2 k k1 k2).1,by rw[nA];exact(s2 k k1 k2).2⟩) (am2.setCells λ_=>hlb (by omega)) (λJ hJ=> ?_) (by omega) hce
   rw[aFw hg,dF (λ_=>by omega),hw2]
   by_cases h1:J<i*9
   ·rw[if_pos h1,dF (λ_=>by omega)]
    have hjj:cs[J]? =some (cs[J]'(by omega)):=List.getElem?_eq_getElem _
    exact⟨_,(HV _ _ hjj).1,(HV _ _ hjj).2⟩
   ·rw[if_neg h1]
    have hJ2:J-i*9<(cs.drop (j*9)).length:=by omega
    have h3:=mf i1 hJ2
    rw[show st+i*9+(J-i*9)=st+J by omega] at h3
    refine⟨_,h3,?_⟩
    have hjj:cs[J+(j-i)*9]? =some ((cs.drop (j*9))[J-i*9]):=by
     rw[<-List.getElem?_eq_getElem,List.getElem?_drop]
     congr 1
     have:(j-i)*9=j*9-i*9:=by omega
     omega
    exact(HV _ _ hjj).2
theorem aG9 [ax]{gs:List (Nat->Int)}(hg:gs.length=9)(n:Nat)(awF:n*72<=140737488355328)(w0:Bool)(w:World)(π:Pi)(vs:Array Value)
  (jR:bj (AV.rel π) [.r (.c (.sl 0 (.k 0) (.s n) 9 w0))] vs.toList)
  (hH:pZ π (hC ([[.a (.s n) (eE gs)]].map some)) (hZ ([[.a (.s n) (eE gs)]].map some)) w)(iW:∀b,π b≠none->b<1):
  Calls Tryz.prog 166 vs w (qS π w [[.a (.s n) (eE gs)]] ⟨.r (.c (.sl 1 (.k 0) (.s n) 9 true)),[.kY],[[.a (.s n) (eE gs)]]⟩):=by
 obtain⟨y1,hvt,r1⟩:∃y1,vs.toList=[y1]∧(AV.r (.c (.sl 0 (.k 0) (.s n) 9 w0))).rel π y1:=by
  match hl:vs.toList,jR with
  | [y1],⟨a,_⟩=>exact⟨y1,rfl,a⟩
  | [],h=>exact h.elim
  |_::_::_,⟨_,h⟩=>exact h.elim
 have hvt:vs=#[y1]:=by rw[<-Array.toList_inj];exact hvt
 subst hvt
 obtain⟨B,st,q,e,hb,_,_,hx⟩:=r1
 obtain⟨rfl,hle,oq,cs,Cd,HV,h1c⟩:=aAn (b:=0) hg hH rfl hb
 have afZ:∀b,b< [[Sg.a (.s n) (eE gs)]].length->[Ch.kY][b]? =some .kY∨[Ch.kY][b]? =some .kill:=λb hb=>by
  match b,hb with
  |0,_=>exact .inl rfl
  |b+1,h=>exact absurd h (by simp)
 have hE:=iE
 obtain⟨i0,z0,hi0,hzz,aYy,aTT,aYz⟩:=hE
 have aTU:(Tryz.prog.info? 42).map (·.bytes)=some 72:=by rw[hi0];exact congrArg some aTT
 obtain⟨zv,hzv,aTV⟩:∃zv,yj Tryz.prog 42=some zv∧af.size zv.bI=9:=by
  have h:(yj Tryz.prog 42).map (λz=>af.size z.bI)=some 9:=by kernel_rfl
  cases hz:yj Tryz.prog 42 with
  |none=>rw[hz] at h;cases h
  |some z=>rw[hz] at h;exact⟨z,rfl,by simpa using h⟩
 obtain⟨w1,hw1⟩:∃w1,w1=w.alloc (.cells #[] 42):=⟨_,rfl⟩
 have hs1:w1.heap.size=w.heap.size+1:=by rw[hw1];exact World.size_alloc ..
 have am1:yo w1:=by rw[hw1];exact hH.am.alloc _ _
 have f1:bT w (Bg π 1 (P7 [.kY])) w1:=by rw[hw1];exact(bT.refl w _).alloc _ _
 have none_:n=0->∀(a:Addr) (c:Nat),Calls Tryz.prog 166 #[.slice (some a) 0 c] w (qS π w [[.a (.s n) (eE gs)]] ⟨.r (.c (.sl 1 (.k 0) (.s n) 9 true)),[.kY],[[.a (.s n) (eE gs)]]⟩):=λh0 a c=>by
  subst h0
  refine Calls.mono (awU a 0 c w _ _ λty=>JH (P:=Tryz.prog) (ty:=ty) uT uE (B:=w.heap.size) (q:=0) (n:=0) (cap:=0) (m:=0) (c:=c) (ad:=a) (news:=[]) (by omega) rfl (w.alloc (.cells #[] 42)) (λj v hj=>by simp at hj) (λv hv=>by cases hv) (λj hj=>by simp at hj)) ?_
  rintro ev W ⟨rfl,rfl⟩
  rw[<-hw1]
  exact aiJ (P:=Tryz.prog) hg hH iW afZ f1 am1
 rcases hx with⟨h0,a,rfl⟩| ⟨cap,pz,rfl,hce⟩
 ·have h0:n=0:=h0
  cases a with
  |none=>
   subst h0
   refine Calls.mono (aNn w) ?_
   rintro ev W ⟨rfl,rfl⟩
   exact aiJ (P:=Tryz.prog) hg hH iW afZ (bT.refl _ _) hH.am
  |some b=>exact none_ h0 b 0
 ·show Calls Tryz.prog 166 #[.slice (some ⟨B,st,none⟩) n cap] w _
  rcases Nat.eq_zero_or_pos n with h0|hn
  ·subst h0
   exact none_ rfl ⟨B,st,none⟩ cap
  ·have hbw:B<w.heap.size:=Y7 (oq st (Nat.le_refl _) (by omega)).1
   obtain⟨gc,arr,mz,hgc,vS,rest,adC⟩:=G6 (P:=Tryz.prog) (ty:=0) uT uE aTU hzv aTV (by omega) (sv:=.slice (some ⟨w.heap.size,0,none⟩) 0 0) (n:=0) (cap:=0) (m:=n) (c:=cap) (ad:=⟨B,st,none⟩) (Fa:=[]) (news:=cs) w1 (.inr ⟨_,rfl,λj v hj=>by simp at hj⟩) rfl Cd (λj v hj=>by
    rw[Addr.add_lit,hw1]
    exact(World.cell?_alloc_past (w:=w) _ B _ hbw).trans (HV j v hj).1) (by omega) hn (by omega)
   rw[Nat.zero_add] at mz hgc
   have mz:∀ty,(Builtin.append_ #[140,140] ty #[.slice (some ⟨w.heap.size,0,none⟩) 0 0,.slice (some ⟨B,st,none⟩) n cap]).run Tryz.prog (w.alloc (.cells #[] 42))=.ok (.slice (some ⟨w1.heap.size,0,none⟩) n gc) (w1.drew.alloc (.cells arr 42)):=λty=>by rw[<-hw1];unfold Builtin.append_ at mz ⊢;exact mz
   refine Calls.mono (awU ⟨B,st,none⟩ n cap w _ _ mz) ?_
   rintro ev W ⟨rfl,rfl⟩
   have aFy:∀j,cl (w1.drew.alloc (.cells arr 42)) w1.heap.size j=arr[j]? :=λj=>World.cell?_alloc_at (w:=w1.drew) arr _ w1.heap.size j rfl
   refine aiI (P:=Tryz.prog) hg hH iW afZ (by omega) ((f1.drew).alloc _ _) (λk hk=>⟨by rw[aFy,Array.getElem?_eq_getElem (by omega)];rfl,World.frozen?_alloc_at (w:=w1.drew) arr _ w1.heap.size k rfl⟩) ((am1.same (w':=w1.drew) rfl).alloc _ _) (λJ hJ=> ?_) hgc
   have hjj:cs[J]? =some (cs[J]'(by omega)):=List.getElem?_eq_getElem _
   refine⟨_,?_,(HV _ _ hjj).2⟩
   rw[aFy]
   have:=(Th adC).2 hjj
   simpa using this
end Go.Proofs.YtldgljclcgaibaaGreat
noncomputable section
namespace Go.Proofs.YtldgljclcgaibaaGreat
open Go.Ab Go.Ab.Pg
theorem apX {α:Type}{c:Bool}{v d:α}(h:cond c (some v) none=some d):c=true∧v=d:=by
 cases c with
 |true=>exact⟨rfl,Option.some.inj h⟩
 |false=>cases h
theorem avb {β δ:Type}{Q:Rq (List AV×List af) β}{R:δ->Go.Ab.T}{f:β->Option δ}{a:List AV}{h:List af}{r:ns}(hr:(FC Q R f a h).eval=some r):
  ∃b d,(a,h)=Q.em b∧f b=some d∧(R d).eval=some r:=by
 unfold FC at hr
 split at hr
 ·rename_i b hb
  obtain⟨t,b⟩:=b
  obtain⟨h1,W0⟩:=aiG hr
  rw[apT] at W0
  obtain⟨d,e1,e2⟩:=Option.bind_eq_some_iff.1 W0
  exact⟨b,d,Q.ok _ _ _ hb h1,e1,e2⟩
 ·cases hr
def p5:=(open Go.Ab.Rq in(dp (c (ac (slc 0 9)) (c ai (cl (ac (slc 1 9)) nil))) λa=>(c (cl (gs a.1.1 (c fw (c fw (c fw (c fw (c fw (c fw (c fw (c fw (cl fw nil)))))))))) nil) (cl (cl (gs a.2.2.1 (c fw (c fw (c fw (c fw (c fw (c fw (c fw (c fw (cl fw nil)))))))))) nil) nil))):Rq (List AV×List af) _)
def pA:=(open Go.Ab.Rq in(res (pr (ac (wY 2 9)) (pu (cu Tn (cu eW nil)) (cl (cl (ga (pr (szs hole) (c fw (c fw (c fw (c fw (c fw (c fw (c fw (c fw (cl fw nil))))))))))) nil) nil)))):Rq (ns) _)
abbrev fY:=Nat×(Nat->Int)×(Nat->Int)×(Nat->Int)×(Nat->Int)×(Nat->Int)×(Nat->Int)×(Nat->Int)×(Nat->Int)×(Nat->Int)
def Dd (d:fY):T:=(λd=>.leaf (pA.em (d.1,d))) d
abbrev p6:=Nat->Int->(Nat->Int)->(Nat->Int)->(Nat->Int)->(Nat->Int)->(Nat->Int)->(Nat->Int)->(Nat->Int)->(Nat->Int)->(Nat->Int)->(Nat->Int)->(Nat->Int)->(Nat->Int)->(Nat->Int)->(Nat->Int)->(Nat->Int)->(Nat->Int)->(Nat->Int)->(Nat->Int)->Nat->Bool->Bool->Option fY
def p7 (g:p6):Ct:=(97,sW 0 [.i .i64,.i .i64,.i .i64,.i .i64,.i .i64,.i .i64,.i .i64,.i .i64,.i .i64] (FC p5 Dd (λb=>g b.1.1.1 b.1.2.1 b.2.1.1 b.2.1.2.1 b.2.1.2.2.1 b.2.1.2.2.2.1 b.2.1.2.2.2.2.1 b.2.1.2.2.2.2.2.1 b.2.1.2.2.2.2.2.2.1 b.2.1.2.2.2.2.2.2.2.1 b.2.1.2.2.2.2.2.2.2.2 b.2.2.1 b.2.2.2.1 b.2.2.2.2.1 b.2.2.2.2.2.1 b.2.2.2.2.2.2.1 b.2.2.2.2.2.2.2.1 b.2.2.2.2.2.2.2.2.1 b.2.2.2.2.2.2.2.2.2.1 b.2.2.2.2.2.2.2.2.2.2 b.1.2.2.1 b.1.1.2 b.1.2.2.2)))
def eu (x0:Nat)(x1:Int)(x2 x3 x4 x5 x6 x7 x8 x9 fP fQ zO x13 x14 x15 x16 x17 x18 x19:Nat->Int)(x20:Nat)(w0 w1:Bool):Option fY:=
 bif Nat.beq x20 1&&(w0&&(decide (0<=x1)&&(Nat.ble (Int.toNat x1) x0&&Nat.ble ((x0+1)*72) 140737488355328))) then some (x0+1,IK (Int.toNat x1) x2 fQ,IK (Int.toNat x1) x3 zO,IK (Int.toNat x1) x4 x13,IK (Int.toNat x1) x5 x14,IK (Int.toNat x1) x6 x15,IK (Int.toNat x1) x7 x16,IK (Int.toNat x1) x8 x17,IK (Int.toNat x1) x9 x18,IK (Int.toNat x1) fP x19) else none
theorem C5:∀b,(p5).em b=([.r (.c (.sl 0 (.k 0) (.s b.1.1.1) 9 b.1.1.2)),.r (.c (.f (.i .i64 b.1.2.1))),.r (.c (.sl 1 (.k 0) (.s b.1.2.2.1) 9 b.1.2.2.2))],[[.a (.s b.1.1.1) [.i .i64 b.2.1.1,.i .i64 b.2.1.2.1,.i .i64 b.2.1.2.2.1,.i .i64 b.2.1.2.2.2.1,.i .i64 b.2.1.2.2.2.2.1,.i .i64 b.2.1.2.2.2.2.2.1,.i .i64 b.2.1.2.2.2.2.2.2.1,.i .i64 b.2.1.2.2.2.2.2.2.2.1,.i .i64 b.2.1.2.2.2.2.2.2.2.2]],[.a (.s b.1.2.2.1) [.i .i64 b.2.2.1,.i .i64 b.2.2.2.1,.i .i64 b.2.2.2.2.1,.i .i64 b.2.2.2.2.2.1,.i .i64 b.2.2.2.2.2.2.1,.i .i64 b.2.2.2.2.2.2.2.1,.i .i64 b.2.2.2.2.2.2.2.2.1,.i .i64 b.2.2.2.2.2.2.2.2.2.1,.i .i64 b.2.2.2.2.2.2.2.2.2.2]]]):=λb=>by kernel_rfl
theorem De [ax]:Snd Tryz.prog (p7 eu):=Sound.nil 0 [.i .i64,.i .i64,.i .i64,.i .i64,.i .i64,.i .i64,.i .i64,.i .i64,.i .i64]<|λargs h r hr w π vs jR hH iW=>by
 obtain⟨b,d,e,hd,hq⟩:=avb hr
 rw[C5] at e
 obtain⟨hc,rfl⟩:=apX hd
 simp only[Bool.and_eq_true,decide_eq_true_eq] at hc
 obtain⟨h0,h1,h2,h3,h4⟩:=hc
 rw[Nat.eq_of_beq_eq_true h0] at e
 obtain⟨rfl,rfl⟩:=Prod.mk.inj e
 rw[h1,show b.1.2.1=((Int.toNat b.1.2.1:Nat):Int) by omega] at jR
 have hr2:pA.em (_,_)=r:=Option.some.inj hq
 subst hr2
 exact .inl ⟨Gi (by kernel_rfl) _ _,aDG (gs:=[b.2.1.1,b.2.1.2.1,b.2.1.2.2.1,b.2.1.2.2.2.1,b.2.1.2.2.2.2.1,b.2.1.2.2.2.2.2.1,b.2.1.2.2.2.2.2.2.1,b.2.1.2.2.2.2.2.2.2.1,b.2.1.2.2.2.2.2.2.2.2]) (vs9:=[b.2.2.1,b.2.2.2.1,b.2.2.2.2.1,b.2.2.2.2.2.1,b.2.2.2.2.2.2.1,b.2.2.2.2.2.2.2.1,b.2.2.2.2.2.2.2.2.1,b.2.2.2.2.2.2.2.2.2.1,b.2.2.2.2.2.2.2.2.2.2]) rfl rfl _ _ (Nat.le_of_ble_eq_true h3) (Nat.le_of_ble_eq_true h4) _ w π vs jR hH λb hb=>iW b hb⟩
def p8:=(open Go.Ab.Rq in(dp (c (ac (slc 0 9)) (c ai (cl ai nil))) λa=>(cl (cl (gs a.1.1 (c fw (c fw (c fw (c fw (c fw (c fw (c fw (c fw (cl fw nil)))))))))) nil) nil)):Rq (List AV×List af) _)
def pB:=(open Go.Ab.Rq in(res (pr (ac (wY 1 9)) (pu (cu Tn nil) (cl (cl (ga (pr (szs hole) (c fw (c fw (c fw (c fw (c fw (c fw (c fw (c fw (cl fw nil))))))))))) nil) nil)))):Rq (ns) _)
abbrev fZ:=Nat×(Nat->Int)×(Nat->Int)×(Nat->Int)×(Nat->Int)×(Nat->Int)×(Nat->Int)×(Nat->Int)×(Nat->Int)×(Nat->Int)
def Df (d:fZ):T:=(λd=>.leaf (pB.em (d.1,d))) d
abbrev gf:=Nat->Int->Int->(Nat->Int)->(Nat->Int)->(Nat->Int)->(Nat->Int)->(Nat->Int)->(Nat->Int)->(Nat->Int)->(Nat->Int)->(Nat->Int)->Bool->Option fZ
def j6 (g:gf):Ct:=(98,sW 0 [.i .i64,.i .i64,.i .i64,.i .i64,.i .i64,.i .i64,.i .i64,.i .i64,.i .i64] (FC p8 Df (λb=>g b.1.1.1 b.1.2.1 b.1.2.2 b.2.1 b.2.2.1 b.2.2.2.1 b.2.2.2.2.1 b.2.2.2.2.2.1 b.2.2.2.2.2.2.1 b.2.2.2.2.2.2.2.1 b.2.2.2.2.2.2.2.2.1 b.2.2.2.2.2.2.2.2.2 b.1.1.2)))
def cC (x0:Nat)(x1 x2:Int)(x3 x4 x5 x6 x7 x8 x9 fP fQ:Nat->Int)(w0:Bool):Option fZ:=
 bif w0&&(decide (0<=x1)&&(Nat.ble (Int.toNat x1) (Int.toNat x2)&&(decide (0<=x2)&&Nat.ble (Int.toNat x2) x0))) then some (Int.toNat x1+(x0-Int.toNat x2),OF (Int.toNat x1) (Int.toNat x2-Int.toNat x1) x3,OF (Int.toNat x1) (Int.toNat x2-Int.toNat x1) x4,OF (Int.toNat x1) (Int.toNat x2-Int.toNat x1) x5,OF (Int.toNat x1) (Int.toNat x2-Int.toNat x1) x6,OF (Int.toNat x1) (Int.toNat x2-Int.toNat x1) x7,OF (Int.toNat x1) (Int.toNat x2-Int.toNat x1) x8,OF (Int.toNat x1) (Int.toNat x2-Int.toNat x1) x9,OF (Int.toNat x1) (Int.toNat x2-Int.toNat x1) fP,OF (Int.toNat x1) (Int.toNat x2-Int.toNat x1) fQ) else none
theorem C6:∀b,(p8).em b=([.r (.c (.sl 0 (.k 0) (.s b.1.1.1) 9 b.1.1.2)),.r (.c (.f (.i .i64 b.1.2.1))),.r (.c (.f (.i .i64 b.1.2.2)))],[[.a (.s b.1.1.1) [.i .i64 b.2.1,.i .i64 b.2.2.1,.i .i64 b.2.2.2.1,.i .i64 b.2.2.2.2.1,.i .i64 b.2.2.2.2.2.1,.i .i64 b.2.2.2.2.2.2.1,.i .i64 b.2.2.2.2.2.2.2.1,.i .i64 b.2.2.2.2.2.2.2.2.1,.i .i64 b.2.2.2.2.2.2.2.2.2]]]):=λb=>by kernel_rfl
theorem p9 [ax]:Snd Tryz.prog (j6 cC):=Sound.nil 0 [.i .i64,.i .i64,.i .i64,.i .i64,.i .i64,.i .i64,.i .i64,.i .i64,.i .i64]<|λargs h r hr w π vs jR hH iW=>by
 obtain⟨b,d,e,hd,hq⟩:=avb hr
 rw[C6] at e
 obtain⟨hc,rfl⟩:=apX hd
 simp only[Bool.and_eq_true,decide_eq_true_eq] at hc
 obtain⟨h1,h2,h3,h4,h5⟩:=hc
 obtain⟨rfl,rfl⟩:=Prod.mk.inj e
 have e2:b.1.2.1=((Int.toNat b.1.2.1:Nat):Int):=by omega
 have e3:b.1.2.2=((Int.toNat b.1.2.2:Nat):Int):=by omega
 have hr2:pB.em (_,_)=r:=Option.some.inj hq
 subst hr2
 exact .inl ⟨Gi (by kernel_rfl) _ _,aDH (gs:=[b.2.1,b.2.2.1,b.2.2.2.1,b.2.2.2.2.1,b.2.2.2.2.2.1,b.2.2.2.2.2.2.1,b.2.2.2.2.2.2.2.1,b.2.2.2.2.2.2.2.2.1,b.2.2.2.2.2.2.2.2.2]) rfl _ (Int.toNat b.1.2.1) (Int.toNat b.1.2.2) (Nat.le_of_ble_eq_true h3) (Nat.le_of_ble_eq_true h5) w π vs (by rw[<-e2,<-e3,<-h1];exact jR) hH λb hb=>iW b hb⟩
def qU:=(open Go.Ab.Rq in(dp (cl (ac (slc 0 9)) nil) λa=>(cl (cl (gs a.1 (c fw (c fw (c fw (c fw (c fw (c fw (c fw (c fw (cl fw nil)))))))))) nil) nil)):Rq (List AV×List af) _)
def qc:=(open Go.Ab.Rq in(res (pr (ac (wY 1 9)) (pu (cu eW nil) (cl (cl (ga (pr (szs hole) (c fw (c fw (c fw (c fw (c fw (c fw (c fw (c fw (cl fw nil))))))))))) nil) nil)))):Rq (ns) _)
abbrev gG:=Nat×(Nat->Int)×(Nat->Int)×(Nat->Int)×(Nat->Int)×(Nat->Int)×(Nat->Int)×(Nat->Int)×(Nat->Int)×(Nat->Int)
def Eu (d:gG):T:=(λd=>.leaf (qc.em (d.1,d))) d
abbrev kH:=Nat->(Nat->Int)->(Nat->Int)->(Nat->Int)->(Nat->Int)->(Nat->Int)->(Nat->Int)->(Nat->Int)->(Nat->Int)->(Nat->Int)->Bool->Option gG
def qV (g:kH):Ct:=(166,sW 0 [.i .i64,.i .i64,.i .i64,.i .i64,.i .i64,.i .i64,.i .i64,.i .i64,.i .i64] (FC qU Eu (λb=>g b.1.1 b.2.1 b.2.2.1 b.2.2.2.1 b.2.2.2.2.1 b.2.2.2.2.2.1 b.2.2.2.2.2.2.1 b.2.2.2.2.2.2.2.1 b.2.2.2.2.2.2.2.2.1 b.2.2.2.2.2.2.2.2.2 b.1.2)))
def eH (x0:Nat)(x1 x2 x3 x4 x5 x6 x7 x8 x9:Nat->Int)(w0:Bool):Option gG:=
 bif Nat.ble (x0*72) 140737488355328 then some (x0,x1,x2,x3,x4,x5,x6,x7,x8,x9) else none
theorem Dg:∀b,(qU).em b=([.r (.c (.sl 0 (.k 0) (.s b.1.1) 9 b.1.2))],[[.a (.s b.1.1) [.i .i64 b.2.1,.i .i64 b.2.2.1,.i .i64 b.2.2.2.1,.i .i64 b.2.2.2.2.1,.i .i64 b.2.2.2.2.2.1,.i .i64 b.2.2.2.2.2.2.1,.i .i64 b.2.2.2.2.2.2.2.1,.i .i64 b.2.2.2.2.2.2.2.2.1,.i .i64 b.2.2.2.2.2.2.2.2.2]]]):=λb=>by kernel_rfl
theorem Ev [ax]:Snd Tryz.prog (qV eH):=Sound.nil 0 [.i .i64,.i .i64,.i .i64,.i .i64,.i .i64,.i .i64,.i .i64,.i .i64,.i .i64]<|λargs h r hr w π vs jR hH iW=>by
 obtain⟨b,d,e,hd,hq⟩:=avb hr
 rw[Dg] at e
 obtain⟨hc,rfl⟩:=apX hd
 obtain⟨rfl,rfl⟩:=Prod.mk.inj e
 have hr2:qc.em (_,_)=r:=Option.some.inj hq
 subst hr2
 exact .inl ⟨Gi (by kernel_rfl) _ _,aG9 (gs:=[b.2.1,b.2.2.1,b.2.2.2.1,b.2.2.2.2.1,b.2.2.2.2.2.1,b.2.2.2.2.2.2.1,b.2.2.2.2.2.2.2.1,b.2.2.2.2.2.2.2.2.1,b.2.2.2.2.2.2.2.2.2]) rfl _ (Nat.le_of_ble_eq_true hc) _ w π vs jR hH λb hb=>iW b hb⟩
end Go.Proofs.YtldgljclcgaibaaGreat
noncomputable section
namespace Go.Proofs.YtldgljclcgaibaaGreat
open Go.Ab Go.Ab.Pg Go.Ab.Rq
def af0:=qa (pr (cu aP C7) bA)
def Mi:=qe oS
abbrev af1:=Mi.B
abbrev bS:=Int->Int->Int->Bool->Option af1
def du (g:bS):Ct:=(119,FC af0 (lf Mi) (λb=>g b.1.1 b.1.2.1 b.1.b b.2))
def vD (x0:Int)(x1:Int)(x2:Int)(x3:Bool):Pg af1:=ae (decide (x1>x2)) (ret (x1,true)) (ae (decide (x0<x1)) (ret (x1,true)) (ae (decide (x0>x2)) (ret (x2,true)) (ret (x0,x3))))
def aZ:=λx0 x1 x2 x3=>(vD x0 x1 x2 x3).val
theorem ay0:D1 [] [0] 119 af0 (lf Mi) λb=>vD b.1.1 b.1.2.1 b.1.b b.2:=λb=>by kernel_rfl
theorem dM [ax]:SC (du aZ):=s0 (.nil _) ay0
def anl:=qa (pr (cu aP fT) bA)
def TI:=qe oS
abbrev anm:=TI.B
abbrev bG:=Int->Bool->Option anm
def cV (g:bG):Ct:=(126,FC anl (lf TI) (λb=>g b.1 b.2))
def Zc (aE:bS)(x0:Int)(x1:Bool):Pg anm:=opt (aE x0 (-1152921504606846976) 1152921504606846976 x1) λd=>ret d
def aQ:=λx0 x1=>(Zc aZ x0 x1).val
theorem aDI:∀aE,D0 [du aE] 126 anl (lf TI) λb=>Zc aE b.1 b.2:=λ_ b=>by kernel_rfl
theorem cZ [ax]:SC (cV aQ):=s0 (.c dM (.nil _)) (aDI aZ)
def ann:=qa (pl fT nil)
def TJ:=qe aRs
abbrev ano:=TJ.B
abbrev NP:=Int->Option ano
def NQ (g:NP):Ct:=(185,FC ann (lf TJ) (λb=>g b))
def Zd (x0:Int):Pg ano:=ae (decide (x0<0)) (ret (wU (0-wU x0))) (ret (wU x0))
def pD:=λx0=>(Zd x0).val
theorem aDJ:D0 [] 185 ann (lf TJ) λb=>Zd b:=λb=>by kernel_rfl
theorem Ze [ax]:SC (NQ pD):=s0 (.nil _) aDJ
def anp:=qa (pl (c an aET) nil)
def TK:=qe aL7
abbrev anq:=TK.B
abbrev anr:=Int->Int->Option anq
def ant (g:anr):Ct:=(184,FC anp (lf TK) (λb=>g b.1 b.2))
def Zf (x0:Int)(x1:Int):Pg anq:=let y0:=Int.fdiv x0 4294967296;let y1:=Int.fdiv x1 4294967296;let y2:=wU (Int.ofNat (BitVec.toNat (BitVec.ofInt 64 x0&&&BitVec.ofInt 64 4294967295)));let y3:=wU (Int.ofNat (BitVec.toNat (BitVec.ofInt 64 x1&&&BitVec.ofInt 64 4294967295)));let y4:=wU (wU (y0*y3)+Int.fdiv (wU (y2*y3)) 4294967296);ret (wU (wU (wU (y0*y1)+Int.fdiv y4 4294967296)+Int.fdiv (wU (wU (Int.ofNat (BitVec.toNat (BitVec.ofInt 64 y4&&&BitVec.ofInt 64 4294967295)))+wU (y2*y1))) 4294967296),wU (x0*x1))
def Gj:=λx0 x1=>(Zf x0 x1).val
theorem aDK:D0 [] 184 anp (lf TK) λb=>Zf b.1 b.2:=λb=>by kernel_rfl
theorem aDL [ax]:SC (ant Gj):=s0 (.nil _) aDK
def aiK:=qa (pl (c Tt aIM) nil)
def P':=qe aMb
abbrev TL:=P'.B
abbrev TM:=Int->Int->Bool->Option TL
def TN (g:TM):Ct:=(186,FC aiK (lf P') (λb=>g b.1.1 b.1.2 b.2))
def JN (lM:arJ)(x0:Int)(x1:Int)(x2:Bool):Pg TL:=ae (!x2) (ret ((wI x0,x1),Int.fdiv x0 9223372036854775808==0)) (opt (lM (wU (Int.ofNat (BitVec.toNat (BitVec.ofInt 64 18446744073709551615^^^BitVec.ofInt 64 x1)))) 1 0) λd=>let y0:=wI (wU (wU (Int.ofNat (BitVec.toNat (BitVec.ofInt 64 18446744073709551615^^^BitVec.ofInt 64 x0)))+d.2));ae (decide (y0<0)) (ret ((y0,d.1),true)) (ret ((y0,d.1),x0==0&&(x1==0&&true))))
def lN:=λx0 x1 x2=>(JN Bh x0 x1 x2).val
theorem aBQ:∀lM,D0 [aiH lM] 186 aiK (lf P') λb=>JN lM b.1.1 b.1.2 b.2:=λ_ b=>by kernel_rfl
theorem aiL [ax]:SC (TN lN):=s0 (.c al9 (.nil _)) (aBQ Bh)
def awV:=qa (pl wZ nil)
def adL:=qe aRR
abbrev aiM:=adL.B
abbrev mG:=Int->Int->Option aiM
def vV (g:mG):Ct:=(116,FC awV (lf adL) (λb=>g b.1 b.2))
def aiN (gC:NP)(NR:anr)(nC:TM)(x0:Int)(x1:Int):Pg aiM:=opt (gC x0) λd=>opt (gC x1) λaj=>opt (NR d aj) λd=>opt (nC d.1 d.2 !decide (x0<0)==decide (x1<0)) λd=>ret d.1
def eR:=λx0 x1=>(aiN pD Gj lN x0 x1).val
theorem aJU:∀gC NR nC,D0 [NQ gC,ant NR,TN nC] 116 awV (lf adL) λb=>aiN gC NR nC b.1 b.2:=λ_ _ _ b=>by kernel_rfl
theorem zt [ax]:SC (vV eR):=s0 (.c Ze (.c aDL (.c aiL (.nil _)))) (aJU pD Gj lN)
def awW:=qa (pl aAA nil)
def adM:=qe (res (pl (py (c (ra auo) aOf)) (pu nil nil)))
abbrev awX:=adM.B
abbrev aiO:=Int->Int->Option awX
def aiP (g:aiO):Ct:=(188,FC awW (lf adM) (λb=>g b.1 b.2))
def aiQ (lM:arJ)(x0:Int)(x1:Int):Pg awX:=ae (decide (x0>=0)) (ret ((wU x0,x1),false)) (opt (lM (wU (Int.ofNat (BitVec.toNat (BitVec.ofInt 64 18446744073709551615^^^BitVec.ofInt 64 x1)))) 1 0) λd=>ret ((wU (wU (Int.ofNat (BitVec.toNat (BitVec.ofInt 64 18446744073709551615^^^BitVec.ofInt 64 (wU x0))))+d.2),d.1),true))
def Dh:=λx0 x1=>(aiQ Bh x0 x1).val
theorem aJV:∀lM,D0 [aiH lM] 188 awW (lf adM) λb=>aiQ lM b.1 b.2:=λ_ b=>by kernel_rfl
theorem awY [ax]:SC (aiP Dh):=s0 (.c al9 (.nil _)) (aJV Bh)
def af2:=qa (pl (c Tt fT) nil)
def Mj:=qe aGr
abbrev af3:=Mj.B
abbrev Bk:=Int->Int->Int->Option af3
def G7 (g:Bk):Ct:=(190,FC af2 (lf Mj) (λb=>g b.1.1 b.1.2 b.2))
def Qa (x0:Int)(x1:Int)(x2:Int):Pg af3:=let y0:=wI (64-x2);let y1:=wI (x2-64);let y2:=2^min (Int.toNat x2) 64;let y3:= !decide (x2<0);ae (decide (x2>=64)) (ae (!decide (y1<0)) (ret (wU (x1*2^min (Int.toNat y1) 64),0)) no) (ae y3 (ae (!decide (y0<0)) (ae y3 (ret (wU (Int.ofNat (BitVec.toNat (BitVec.ofInt 64 (wU (x0*y2))|||BitVec.ofInt 64 (Int.fdiv x1 (2^min (Int.toNat y0) 64))))),wU (x1*y2))) no) no) no)
def fV:=λx0 x1 x2=>(Qa x0 x1 x2).val
theorem ay1:D0 [] 190 af2 (lf Mj) λb=>Qa b.1.1 b.1.2 b.2:=λb=>by kernel_rfl
theorem Qb [ax]:SC (G7 fV):=s0 (.nil _) ay1
def abi:=qa (pl (c Tt (cl Tt nil)) nil)
def JO:=qe aGr
abbrev abj:=JO.B
abbrev tk:=Int->Int->Int->Int->Option abj
def Ew (g:tk):Ct:=(189,FC abi (lf JO) (λb=>g b.1.1 b.1.2 b.2.1 b.b))
def Mk (lM:arJ)(x0:Int)(x1:Int)(x2:Int)(x3:Int):Pg abj:=opt (lM x1 x3 0) λd=>opt (lM x0 x2 d.2) λaj=>ret (aj.1,d.1)
def hO:=λx0 x1 x2 x3=>(Mk Bh x0 x1 x2 x3).val
theorem avc:∀lM,D0 [aiH lM] 189 abi (lf JO) λb=>Mk lM b.1.1 b.1.2 b.2.1 b.b:=λ_ b=>by kernel_rfl
theorem Ml [ax]:SC (Ew hO):=s0 (.c al9 (.nil _)) (avc Bh)
def af4:=qa (pl (c Tt fT) nil)
def Mm:=qe aGr
abbrev af5:=Mm.B
abbrev Bl:=Int->Int->Int->Option af5
def G8 (g:Bl):Ct:=(192,FC af4 (lf Mm) (λb=>g b.1.1 b.1.2 b.2))
def G9 (x0:Int)(x1:Int)(x2:Int):Pg af5:=let y0:=wI (64-x2);let y1:=wI (x2-64);let y2:=2^min (Int.toNat x2) 64;let y3:= !decide (x2<0);ae (decide (x2>=64)) (ae (!decide (y1<0)) (ret (0,Int.fdiv x0 (2^min (Int.toNat y1) 64))) no) (ae y3 (ae y3 (ae (!decide (y0<0)) (ret (Int.fdiv x0 y2,wU (Int.ofNat (BitVec.toNat (BitVec.ofInt 64 (Int.fdiv x1 y2)|||BitVec.ofInt 64 (wU (x0*2^min (Int.toNat y0) 64))))))) no) no) no)
def gX:=λx0 x1 x2=>(G9 x0 x1 x2).val
theorem ay2:D0 [] 192 af4 (lf Mm) λb=>G9 b.1.1 b.1.2 b.2:=λb=>by kernel_rfl
theorem Qc [ax]:SC (G8 gX):=s0 (.nil _) ay2
def abk:=qa (pl (c Tt aIM) nil)
def JP:=qe auz
abbrev abl:=JP.B
abbrev yx:=Int->Int->Bool->Option abl
def Ey (g:yx):Ct:=(191,FC abk (lf JP) (λb=>g b.1.1 b.1.2 b.2))
def Mn (x0:Int)(x1:Int)(x2:Bool):Pg abl:=let y0:=x0 !=0;let y1:=decide (x1>9223372036854775807);ae y0 (ae y0 (ret (0,false)) (ae x2 (ret (wI (wU (0-x1)),true)) (ret (wI x1,true)))) (ae (!x2) (ae y1 (ae y1 (ret (0,false)) (ae x2 (ret (wI (wU (0-x1)),true)) (ret (wI x1,true)))) (ae x2 (ae (decide (x1>9223372036854775808)) (ret (0,false)) (ae x2 (ret (wI (wU (0-x1)),true)) (ret (wI x1,true)))) (ae x2 (ret (wI (wU (0-x1)),true)) (ret (wI x1,true))))) (ae x2 (ae (decide (x1>9223372036854775808)) (ret (0,false)) (ae x2 (ret (wI (wU (0-x1)),true)) (ret (wI x1,true)))) (ae x2 (ret (wI (wU (0-x1)),true)) (ret (wI x1,true)))))
def hX:=λx0 x1 x2=>(Mn x0 x1 x2).val
theorem avd:D0 [] 191 abk (lf JP) λb=>Mn b.1.1 b.1.2 b.2:=λb=>by kernel_rfl
theorem Mo [ax]:SC (Ey hX):=s0 (.nil _) avd
def anu:=qa (pl (c acZ fT) nil)
def TO:=qe auz
abbrev anv:=TO.B
abbrev BO:=Int->Int->Int->Option anv
def NS (g:BO):Ct:=(118,FC anu (lf TO) (λb=>g b.1.1 b.1.2 b.2))
def Zg (vX:aiO)(iY:Bk)(eI:tk)(gY:Bl)(eJ:yx)(x0:Int)(x1:Int)(x2:Int):Pg anv:=ae (decide (x2<0)) (ret (0,false)) (ae (decide (x2>126)) (ret (0,false)) (opt (vX x0 x1) λd=>ae (decide (x2>0)) (opt (iY 0 1 (wI (x2-1))) λaj=>opt (eI d.1.1 d.1.2 aj.1 aj.2) λaI=>opt (gY aI.1 aI.2 x2) λbz=>opt (eJ bz.1 bz.2 d.2) λd=>ret d) (opt (gY d.1.1 d.1.2 x2) λaj=>opt (eJ aj.1 aj.2 d.2) λd=>ret d)))
def pE:=λx0 x1 x2=>(Zg Dh fV hO gX hX x0 x1 x2).val
theorem aDM:∀vX iY eI gY eJ,D0 [aiP vX,G7 iY,Ew eI,G8 gY,Ey eJ] 118 anu (lf TO) λb=>Zg vX iY eI gY eJ b.1.1 b.1.2 b.2:=λ_ _ _ _ _ b=>by kernel_rfl
theorem Zh [ax]:SC (NS pE):=s0 (.c awY (.c Qb (.c Ml (.c Qc (.c Mo (.nil _)))))) (aDM Dh fV hO gX hX)
def aBR:=qa (pl aIM nil)
def aiR:=qe Fq
abbrev aBS:=aiR.B
abbrev TQ:=Bool->Option aBS
def TR (g:TQ):Ct:=(199,FC aBR (lf aiR) (λb=>g b))
def TS (x0:Bool):Pg aBS:=ae x0 (ret (-1152921504606846976)) (ret 1152921504606846976)
def oW:=λx0=>(TS x0).val
theorem aNo:D0 [] 199 aBR (lf aiR) λb=>TS b:=λb=>by kernel_rfl
theorem adN [ax]:SC (TR oW):=s0 (.nil _) aNo
def anw:=qa (pr (cu aP (c ai (c ab aIM))) bA)
def TT:=qe oS
abbrev anx:=TT.B
abbrev Gk:=Int->Bool->Bool->Bool->Option anx
def NT (g:Gk):Ct:=(198,FC anw (lf TT) (λb=>g b.1.1 b.1.2.1 b.1.b b.2))
def Gl (iI:TQ)(aw:bG)(x0:Int)(x1:Bool)(x2:Bool)(x3:Bool):Pg anx:=ae (!x1) (opt (iI x2) λd=>ret (d,true)) (opt (aw x0 x3) λd=>ret d)
def lO:=λx0 x1 x2 x3=>(Gl oW aQ x0 x1 x2 x3).val
theorem aDN:∀iI aw,D0 [TR iI,cV aw] 198 anw (lf TT) λb=>Gl iI aw b.1.1 b.1.2.1 b.1.b b.2:=λ_ _ b=>by kernel_rfl
theorem Zi [ax]:SC (NT lO):=s0 (.c adN (.c cZ (.nil _))) (aDN oW aQ)
def af6:=qa (pr (cu aP (c acZ fT)) bA)
def Mp:=qe oS
abbrev af7:=Mp.B
abbrev vE:=Int->Int->Int->Bool->Option af7
def G' (g:vE):Ct:=(127,FC af6 (lf Mp) (λb=>g b.1.1.1 b.1.1.2 b.1.2 b.2))
def Qe (sX:BO)(lP:Gk)(x0:Int)(x1:Int)(x2:Int)(x3:Bool):Pg af7:=ae (decide (x2<0)) (ret (0,true)) (ae (decide (x2>120)) (ret (0,true)) (opt (sX x0 x1 x2) λd=>opt (lP d.1 d.2 (decide (x0<0)) x3) λd=>ret d))
def mg:=λx0 x1 x2 x3=>(Qe pE lO x0 x1 x2 x3).val
theorem ay3:∀sX lP,D0 [NS sX,NT lP] 127 af6 (lf Mp) λb=>Qe sX lP b.1.1.1 b.1.1.2 b.1.2 b.2:=λ_ _ b=>by kernel_rfl
theorem Qf [ax]:SC (G' mg):=s0 (.c Zh (.c Zi (.nil _))) (ay3 pE lO)
def anz:=qa (pr (cu aP C7) bA)
def TU:=qe oS
abbrev anA:=TU.B
abbrev bK:=Int->Int->Int->Bool->Option anA
def eL (g:bK):Ct:=(72,FC anz (lf TU) (λb=>g b.1.1 b.1.2.1 b.1.b b.2))
def Zj (aw:bG)(cD:mG)(gZ:vE)(x0:Int)(x1:Int)(x2:Int)(x3:Bool):Pg anA:=opt (aw x0 x3) λd=>opt (aw x1 d.2) λaj=>opt (cD d.1 aj.1) λd=>opt (gZ d.1 d.2 x2 aj.2) λd=>ret d
def aU:=λx0 x1 x2 x3=>(Zj aQ eR mg x0 x1 x2 x3).val
theorem aDO:∀aw cD gZ,D0 [cV aw,vV cD,G' gZ] 72 anz (lf TU) λb=>Zj aw cD gZ b.1.1 b.1.2.1 b.1.b b.2:=λ_ _ _ b=>by kernel_rfl
theorem eY [ax]:SC (eL aU):=s0 (.c cZ (.c zt (.c Qf (.nil _)))) (aDO aQ eR mg)
def aiS:=qa (pr aGn (cu apu bA))
def Qg:=qe aL4
abbrev aiT:=Qg.B
abbrev TV:=Int->Int->Bool->Option aiT
def TW (g:TV):Ct:=(77,FC aiS (lf Qg) (λb=>g b.1.1 b.1.2 b.2))
def TX (aC:bK)(x0:Int)(x1:Int)(x2:Bool):Pg aiT:=opt (aC x0 x1 30 x2) λd=>ret d
def tU:=λx0 x1 x2=>(TX aU x0 x1 x2).val
theorem aBT:∀aC,D0 [eL aC] 77 aiS (lf Qg) λb=>TX aC b.1.1 b.1.2 b.2:=λ_ b=>by kernel_rfl
theorem aiU [ax]:SC (TW tU):=s0 (.c eY (.nil _)) (aBT aU)
def anB:=qa (pl aET nil)
def TY:=qe Fq
abbrev anC:=TY.B
abbrev anD:=Int->Option anC
def anE (g:anD):Ct:=(267,FC anB (lf TY) (λb=>g b))
def Zk (x0:Int):Pg anC:=let y0:=Int.fdiv x0 65536;let y1:=Int.fdiv x0 4294967296;let y2:=IntKind.wrap IntKind.u8 (Int.fdiv x0 256);let y3:=IntKind.wrap IntKind.u8 y0;let y4:=IntKind.wrap IntKind.u8 y1;let y5:=Int.fdiv y1 65536;let y6:=IntKind.wrap IntKind.u8 y5;let y7:=IntKind.wrap IntKind.u8 (Int.fdiv y0 256);let y8:=IntKind.wrap IntKind.u8 (Int.fdiv y1 256);let y9:=IntKind.wrap IntKind.u8 (Int.fdiv y5 256);ae (decide (x0>=4294967296)) (ae (decide (y1>=65536)) (ae (decide (y5>=256)) (ae (aX y9 256) (ret (wI (56+wI (Cz (ByteArray.mk (List.toArray (List.append (List.append [0,1,2,2,3,3,3,3,4,4,4,4,4,4,4,4,5,5,5,5,5,5,5,5,5,5,5,5,5,5,5,5,6,6,6,6,6,6,6,6,6,6,6,6,6,6,6,6,6,6,6,6,6,6,6,6,6,6,6,6,6,6,6,6] [7,7,7,7,7,7,7,7,7,7,7,7,7,7,7,7,7,7,7,7,7,7,7,7,7,7,7,7,7,7,7,7,7,7,7,7,7,7,7,7,7,7,7,7,7,7,7,7,7,7,7,7,7,7,7,7,7,7,7,7,7,7,7,7]) (List.append [8,8,8,8,8,8,8,8,8,8,8,8,8,8,8,8,8,8,8,8,8,8,8,8,8,8,8,8,8,8,8,8,8,8,8,8,8,8,8,8,8,8,8,8,8,8,8,8,8,8,8,8,8,8,8,8,8,8,8,8,8,8,8,8] [8,8,8,8,8,8,8,8,8,8,8,8,8,8,8,8,8,8,8,8,8,8,8,8,8,8,8,8,8,8,8,8,8,8,8,8,8,8,8,8,8,8,8,8,8,8,8,8,8,8,8,8,8,8,8,8,8,8,8,8,8,8,8,8])))) (Int.toNat y9))))) no) (ae (aX y6 256) (ret (wI (48+wI (Cz (ByteArray.mk (List.toArray (List.append (List.append [0,1,2,2,3,3,3,3,4,4,4,4,4,4,4,4,5,5,5,5,5,5,5,5,5,5,5,5,5,5,5,5,6,6,6,6,6,6,6,6,6,6,6,6,6,6,6,6,6,6,6,6,6,6,6,6,6,6,6,6,6,6,6,6] [7,7,7,7,7,7,7,7,7,7,7,7,7,7,7,7,7,7,7,7,7,7,7,7,7,7,7,7,7,7,7,7,7,7,7,7,7,7,7,7,7,7,7,7,7,7,7,7,7,7,7,7,7,7,7,7,7,7,7,7,7,7,7,7]) (List.append [8,8,8,8,8,8,8,8,8,8,8,8,8,8,8,8,8,8,8,8,8,8,8,8,8,8,8,8,8,8,8,8,8,8,8,8,8,8,8,8,8,8,8,8,8,8,8,8,8,8,8,8,8,8,8,8,8,8,8,8,8,8,8,8] [8,8,8,8,8,8,8,8,8,8,8,8,8,8,8,8,8,8,8,8,8,8,8,8,8,8,8,8,8,8,8,8,8,8,8,8,8,8,8,8,8,8,8,8,8,8,8,8,8,8,8,8,8,8,8,8,8,8,8,8,8,8,8,8])))) (Int.toNat y6))))) no)) (ae (decide (y1>=256)) (ae (aX y8 256) (ret (wI (40+wI (Cz (ByteArray.mk (List.toArray (List.append (List.append [0,1,2,2,3,3,3,3,4,4,4,4,4,4,4,4,5,5,5,5,5,5,5,5,5,5,5,5,5,5,5,5,6,6,6,6,6,6,6,6,6,6,6,6,6,6,6,6,6,6,6,6,6,6,6,6,6,6,6,6,6,6,6,6] [7,7,7,7,7,7,7,7,7,7,7,7,7,7,7,7,7,7,7,7,7,7,7,7,7,7,7,7,7,7,7,7,7,7,7,7,7,7,7,7,7,7,7,7,7,7,7,7,7,7,7,7,7,7,7,7,7,7,7,7,7,7,7,7]) (List.append [8,8,8,8,8,8,8,8,8,8,8,8,8,8,8,8,8,8,8,8,8,8,8,8,8,8,8,8,8,8,8,8,8,8,8,8,8,8,8,8,8,8,8,8,8,8,8,8,8,8,8,8,8,8,8,8,8,8,8,8,8,8,8,8] [8,8,8,8,8,8,8,8,8,8,8,8,8,8,8,8,8,8,8,8,8,8,8,8,8,8,8,8,8,8,8,8,8,8,8,8,8,8,8,8,8,8,8,8,8,8,8,8,8,8,8,8,8,8,8,8,8,8,8,8,8,8,8,8])))) (Int.toNat y8))))) no) (ae (aX y4 256) (ret (wI (32+wI (Cz (ByteArray.mk (List.toArray (List.append (List.append [0,1,2,2,3,3,3,3,4,4,4,4,4,4,4,4,5,5,5,5,5,5,5,5,5,5,5,5,5,5,5,5,6,6,6,6,6,6,6,6,6,6,6,6,6,6,6,6,6,6,6,6,6,6,6,6,6,6,6,6,6,6,6,6] [7,7,7,7,7,7,7,7,7,7,7,7,7,7,7,7,7,7,7,7,7,7,7,7,7,7,7,7,7,7,7,7,7,7,7,7,7,7,7,7,7,7,7,7,7,7,7,7,7,7,7,7,7,7,7,7,7,7,7,7,7,7,7,7]) (List.append [8,8,8,8,8,8,8,8,8,8,8,8,8,8,8,8,8,8,8,8,8,8,8,8,8,8,8,8,8,8,8,8,8,8,8,8,8,8,8,8,8,8,8,8,8,8,8,8,8,8,8,8,8,8,8,8,8,8,8,8,8,8,8,8] [8,8,8,8,8,8,8,8,8,8,8,8,8,8,8,8,8,8,8,8,8,8,8,8,8,8,8,8,8,8,8,8,8,8,8,8,8,8,8,8,8,8,8,8,8,8,8,8,8,8,8,8,8,8,8,8,8,8,8,8,8,8,8,8])))) (Int.toNat y4))))) no))) (ae (decide (x0>=65536)) (ae (decide (y0>=256)) (ae (aX y7 256) (ret (wI (24+wI (Cz (ByteArray.mk (List.toArray (List.append (List.append [0,1,2,2,3,3,3,3,4,4,4,4,4,4,4,4,5,5,5,5,5,5,5,5,5,5,5,5,5,5,5,5,6,6,6,6,6,6,6,6,6,6,6,6,6,6,6,6,6,6,6,6,6,6,6,6,6,6,6,6,6,6,6,6] [7,7,7,7,7,7,7,7,7,7,7,7,7,7,7,7,7,7,7,7,7,7,7,7,7,7,7,7,7,7,7,7,7,7,7,7,7,7,7,7,7,7,7,7,7,7,7,7,7,7,7,7,7,7,7,7,7,7,7,7,7,7,7,7]) (List.append [8,8,8,8,8,8,8,8,8,8,8,8,8,8,8,8,8,8,8,8,8,8,8,8,8,8,8,8,8,8,8,8,8,8,8,8,8,8,8,8,8,8,8,8,8,8,8,8,8,8,8,8,8,8,8,8,8,8,8,8,8,8,8,8] [8,8,8,8,8,8,8,8,8,8,8,8,8,8,8,8,8,8,8,8,8,8,8,8,8,8,8,8,8,8,8,8,8,8,8,8,8,8,8,8,8,8,8,8,8,8,8,8,8,8,8,8,8,8,8,8,8,8,8,8,8,8,8,8])))) (Int.toNat y7))))) no) (ae (aX y3 256) (ret (wI (16+wI (Cz (ByteArray.mk (List.toArray (List.append (List.append [0,1,2,2,3,3,3,3,4,4,4,4,4,4,4,4,5,5,5,5,5,5,5,5,5,5,5,5,5,5,5,5,6,6,6,6,6,6,6,6,6,6,6,6,6,6,6,6,6,6,6,6,6,6,6,6,6,6,6,6,6,6,6,6] [7,7,7,7,7,7,7,7,7,7,7,7,7,7,7,7,7,7,7,7,7,7,7,7,7,7,7,7,7,7,7,7,7,7,7,7,7,7,7,7,7,7,7,7,7,7,7,7,7,7,7,7,7,7,7,7,7,7,7,7,7,7,7,7]) (List.append [8,8,8,8,8,8,8,8,8,8,8,8,8,8,8,8,8,8,8,8,8,8,8,8,8,8,8,8,8,8,8,8,8,8,8,8,8,8,8,8,8,8,8,8,8,8,8,8,8,8,8,8,8,8,8,8,8,8,8,8,8,8,8,8] [8,8,8,8,8,8,8,8,8,8,8,8,8,8,8,8,8,8,8,8,8,8,8,8,8,8,8,8,8,8,8,8,8,8,8,8,8,8,8,8,8,8,8,8,8,8,8,8,8,8,8,8,8,8,8,8,8,8,8,8,8,8,8,8])))) (Int.toNat y3))))) no)) (ae (decide (x0>=256)) (ae (aX y2 256) (ret (wI (8+wI (Cz (ByteArray.mk (List.toArray (List.append (List.append [0,1,2,2,3,3,3,3,4,4,4,4,4,4,4,4,5,5,5,5,5,5,5,5,5,5,5,5,5,5,5,5,6,6,6,6,6,6,6,6,6,6,6,6,6,6,6,6,6,6,6,6,6,6,6,6,6,6,6,6,6,6,6,6] [7,7,7,7,7,7,7,7,7,7,7,7,7,7,7,7,7,7,7,7,7,7,7,7,7,7,7,7,7,7,7,7,7,7,7,7,7,7,7,7,7,7,7,7,7,7,7,7,7,7,7,7,7,7,7,7,7,7,7,7,7,7,7,7]) (List.append [8,8,8,8,8,8,8,8,8,8,8,8,8,8,8,8,8,8,8,8,8,8,8,8,8,8,8,8,8,8,8,8,8,8,8,8,8,8,8,8,8,8,8,8,8,8,8,8,8,8,8,8,8,8,8,8,8,8,8,8,8,8,8,8] [8,8,8,8,8,8,8,8,8,8,8,8,8,8,8,8,8,8,8,8,8,8,8,8,8,8,8,8,8,8,8,8,8,8,8,8,8,8,8,8,8,8,8,8,8,8,8,8,8,8,8,8,8,8,8,8,8,8,8,8,8,8,8,8])))) (Int.toNat y2))))) no) (ae (aX (IntKind.wrap IntKind.u8 x0) 256) (ret (wI (0+wI (Cz (ByteArray.mk (List.toArray (List.append (List.append [0,1,2,2,3,3,3,3,4,4,4,4,4,4,4,4,5,5,5,5,5,5,5,5,5,5,5,5,5,5,5,5,6,6,6,6,6,6,6,6,6,6,6,6,6,6,6,6,6,6,6,6,6,6,6,6,6,6,6,6,6,6,6,6] [7,7,7,7,7,7,7,7,7,7,7,7,7,7,7,7,7,7,7,7,7,7,7,7,7,7,7,7,7,7,7,7,7,7,7,7,7,7,7,7,7,7,7,7,7,7,7,7,7,7,7,7,7,7,7,7,7,7,7,7,7,7,7,7]) (List.append [8,8,8,8,8,8,8,8,8,8,8,8,8,8,8,8,8,8,8,8,8,8,8,8,8,8,8,8,8,8,8,8,8,8,8,8,8,8,8,8,8,8,8,8,8,8,8,8,8,8,8,8,8,8,8,8,8,8,8,8,8,8,8,8] [8,8,8,8,8,8,8,8,8,8,8,8,8,8,8,8,8,8,8,8,8,8,8,8,8,8,8,8,8,8,8,8,8,8,8,8,8,8,8,8,8,8,8,8,8,8,8,8,8,8,8,8,8,8,8,8,8,8,8,8,8,8,8,8])))) (Int.toNat (IntKind.wrap IntKind.u8 x0)))))) no)))
def Gm:=λx0=>(Zk x0).val
theorem aDP:D0 [] 267 anB (lf TY) λb=>Zk b:=λb=>by kernel_rfl
theorem aDQ [ax]:SC (anE Gm):=s0 (.nil _) aDP
def JQ:=qa (pl aET nil)
def yy:=qe Fq
abbrev JR:=yy.B
abbrev zP:=Int->Option JR
def JS (g:zP):Ct:=(261,FC JQ (lf yy) (λb=>g b))
def zQ (NU:anD)(x0:Int):Pg JR:=opt (NU x0) λd=>ret (wI (64-d))
def nD:=λx0=>(zQ Gm x0).val
theorem adO:∀NU,D0 [anE NU] 261 JQ (lf yy) λb=>zQ NU b:=λ_ b=>by kernel_rfl
theorem adP [ax]:SC (JS nD):=s0 (.c aDQ (.nil _)) (adO Gm)
def anF:=qa (pl (c an (c an aET)) nil)
def TZ:=qe aL7
abbrev anG:=TZ.B
abbrev anH:=Int->Int->Int->Option anG
def anI (g:anH):Ct:=(241,FC anF (lf TZ) (λb=>g b.1 b.2.1 b.b))
def tl:=qs (st (pl (us 2 (c an (us 5 (c an (c an (c an (c an (us 1 (c an (c an (c an (cl an (us 88 aLx))))))))))))) (pu nil nil)))
def arL:=qs (st (pl (us 2 (c an (us 5 (c an (c an (c an (c an (us 1 (c an (c an (c an (c an (us 50 (c an (c ab (cu PZ (xs 8 (cu PZ aSl)))))))))))))))))) (pu nil nil)))
def arM:=qs (st (pl (us 2 (c an (us 5 (c an (c an (c an (c an (us 1 (c an (c an (c an (c an (us 50 (c an (c ab (cu tN (c an (c an (c an (c an (c an (c an (c an (c ab (c ab aSl))))))))))))))))))))))))) (pu nil nil)))
def arN:=qs (st (pl (us 2 (c an (us 5 (c an (c an (c an (c an (us 1 (c an (c an (c an (c an (us 50 (c an (c ab (cu tN (c an (c an (c an (c an (c an (c an (c an (c ab (cl ab (us 26 aLx)))))))))))))))))))))))))) (pu nil nil)))
abbrev Ha:=aVX⊕aVV
def af8 {ρ:Type}(x:Ha)(K:AX->St->Option ρ):Option ρ:=(Sum.elim (λd=>K (.ex 0) (arL.em (d.1,d.2.1,d.b.1,d.b.2.1,d.c.1,d.c.2.1,d.c.b.1,d.c.b.2.1,d.d.1,d.d.2.1,d.d.b.1,d.d.2.1,d.c.b.2.1,d.d.b.2.1,d.b.1,d.d.1,d.d.1,d.d.c))) (Sum.elim (λd=>K (.ex 0) (arM.em (d.1,d.2.1,d.b.1,d.b.2.1,d.c.1,d.c.2.1,d.c.b.1,d.c.b.2.1,d.d.1,d.d.2.1,d.d.b.1,d.d.2.1,d.b.2.1,d.d.b.2.1,d.d.c.1,d.d.c.2.1,d.c.2.1,d.d.c.b.1,d.d.c.b.2.1,d.d.c.b.2.1,d.d.2.1,d.c.b.2.1,d.d.c.1,d.b.1,d.d.1,d.d.1,d.e))) (λd=>K (.ex 0) (arN.em (d.1,d.2.1,d.b.1,d.b.2.1,d.c.1,d.c.2.1,d.c.b.1,d.c.b.2.1,d.d.1,d.c.b.2.1,d.d.2.1,d.c.b.2.1,d.b.2.1,d.d.b.1,d.d.1,d.d.b.2.1,d.c.2.1,d.d.c.1,d.d.c.2,d.d.c.2))))) x
def Hb (d:tl.B):PL tl Ha:=let y0:=wU (4294967296*d.2.2.2.2.2.2.2.2);let y1:=wU (d.2.2.2.2.2.2.2.1-1);let y2:=wU (d.2.2.2.2.2.2.2.2+d.2.2.1);let y3:=wU (d.2.2.2.2.2.2.2.1*d.2.2.2.1);let y4:=decide (d.2.2.2.2.2.2.2.1>=4294967296);let y5:=wU (y0+d.2.2.2.2.2.1);let y6:=decide (y2>=4294967296);let y7:=decide (y3>y5);ae y4 (ae y6 (ret (Sum.inr (Sum.inl (d.1,d.2.1,d.2.2.1,d.2.2.2.1,d.2.2.2.2.1,d.2.2.2.2.2.1,d.2.2.2.2.2.2.1,y1,y2,d.2.2.2.2.2.2.2.1,y4,d.2.2.2.2.2.2.2.2,y6)))) (ret (Sum.inl (d.1,d.2.1,d.2.2.1,d.2.2.2.1,d.2.2.2.2.1,d.2.2.2.2.2.1,d.2.2.2.2.2.2.1,y1,y2)))) (ae y7 (ae y6 (ret (Sum.inr (Sum.inr (Sum.inl (d.1,d.2.1,d.2.2.1,d.2.2.2.1,d.2.2.2.2.1,d.2.2.2.2.2.1,d.2.2.2.2.2.2.1,y1,y2,d.2.2.2.2.2.2.2.1,y4,y3,d.2.2.2.2.2.2.2.2,y0,y5,y7,y6))))) (ret (Sum.inl (d.1,d.2.1,d.2.2.1,d.2.2.2.1,d.2.2.2.2.1,d.2.2.2.2.2.1,d.2.2.2.2.2.2.1,y1,y2)))) (ret (Sum.inr (Sum.inr (Sum.inr (d.1,d.2.1,d.2.2.1,d.2.2.2.1,d.2.2.2.2.1,d.2.2.2.2.2.1,d.2.2.2.2.2.2.1,d.2.2.2.2.2.2.2.1,d.2.2.2.2.2.2.2.2,y4,y3,y0,y5,y7))))))
def Hc:=bD (Hb) 2000
def tn:=qs (st (pl (us 2 (c an (us 5 (c an (c an (c an (us 3 (c an (c an (c an (c an (cl an (us 116 nil))))))))))))) (pu nil nil)))
def arO:=qs (st (pl (us 2 (c an (us 5 (c an (c an (c an (us 3 (c an (c an (c an (c an (c an (us 83 (c an (c ab (cu PZ (xs 8 (cu PZ aR9)))))))))))))))))) (pu nil nil)))
def arP:=qs (st (pl (us 2 (c an (us 5 (c an (c an (c an (us 3 (c an (c an (c an (c an (c an (us 83 (c an (c ab (cu tN (c an (c an (c an (c an (c an (c an (c an (c ab (c ab aR9))))))))))))))))))))))))) (pu nil nil)))
def arQ:=qs (st (pl (us 2 (c an (us 5 (c an (c an (c an (us 3 (c an (c an (c an (c an (c an (us 83 (c an (c ab (cu tN (c an (c an (c an (c an (c an (c an (c an (c ab aLz)))))))))))))))))))))))) (pu nil nil)))
abbrev He:=aVX⊕aVV
def af9 {ρ:Type}(x:He)(K:AX->St->Option ρ):Option ρ:=(Sum.elim (λd=>K (.ex 2) (arO.em (d.1,d.2.1,d.b.1,d.b.2.1,d.c.1,d.c.2.1,d.c.b.1,d.c.b.2.1,d.d.1,d.d.2.1,d.d.b.1,d.d.2.1,d.d.1,d.d.b.2.1,d.b.1,d.c.b.1,d.c.b.1,d.d.c))) (Sum.elim (λd=>K (.ex 2) (arP.em (d.1,d.2.1,d.b.1,d.b.2.1,d.c.1,d.c.2.1,d.c.b.1,d.c.b.2.1,d.d.1,d.d.2.1,d.d.b.1,d.d.2.1,d.b.2.1,d.d.b.2.1,d.d.c.1,d.d.c.2.1,d.c.1,d.d.c.b.1,d.d.c.b.2.1,d.d.c.b.2.1,d.d.2.1,d.d.1,d.d.c.1,d.b.1,d.c.b.1,d.c.b.1,d.e))) (λd=>K (.ex 2) (arQ.em (d.1,d.2.1,d.b.1,d.b.2.1,d.c.1,d.c.2.1,d.c.b.1,d.c.b.2.1,d.d.1,d.d.1,d.d.2.1,d.d.1,d.b.2.1,d.d.b.1,d.c.b.1,d.d.b.2.1,d.c.1,d.d.c.1,d.d.c.2,d.d.c.2))))) x
def Hf (d:tn.B):PL tn He:=let y0:=wU (4294967296*d.2.2.2.2.2.2.1);let y1:=wU (d.2.2.2.2.2.2.2.2-1);let y2:=wU (d.2.2.2.2.2.2.1+d.2.2.1);let y3:=wU (d.2.2.2.2.2.2.2.2*d.2.2.2.1);let y4:=wU (y0+d.2.2.2.2.1);let y5:=decide (d.2.2.2.2.2.2.2.2>=4294967296);let y6:=decide (y2>=4294967296);let y7:=decide (y3>y4);ae y5 (ae y6 (ret (Sum.inr (Sum.inl (d.1,d.2.1,d.2.2.1,d.2.2.2.1,d.2.2.2.2.1,d.2.2.2.2.2.1,y2,d.2.2.2.2.2.2.2.1,y1,d.2.2.2.2.2.2.2.2,y5,d.2.2.2.2.2.2.1,y6)))) (ret (Sum.inl (d.1,d.2.1,d.2.2.1,d.2.2.2.1,d.2.2.2.2.1,d.2.2.2.2.2.1,y2,d.2.2.2.2.2.2.2.1,y1)))) (ae y7 (ae y6 (ret (Sum.inr (Sum.inr (Sum.inl (d.1,d.2.1,d.2.2.1,d.2.2.2.1,d.2.2.2.2.1,d.2.2.2.2.2.1,y2,d.2.2.2.2.2.2.2.1,y1,d.2.2.2.2.2.2.2.2,y5,y3,d.2.2.2.2.2.2.1,y0,y4,y7,y6))))) (ret (Sum.inl (d.1,d.2.1,d.2.2.1,d.2.2.2.1,d.2.2.2.2.1,d.2.2.2.2.2.1,y2,d.2.2.2.2.2.2.2.1,y1)))) (ret (Sum.inr (Sum.inr (Sum.inr (d.1,d.2.1,d.2.2.1,d.2.2.2.1,d.2.2.2.2.1,d.2.2.2.2.2.1,d.2.2.2.2.2.2.1,d.2.2.2.2.2.2.2.1,d.2.2.2.2.2.2.2.2,y5,y3,y0,y4,y7))))))
def Hg:=bD (Hf) 2000
def Zl (adQ:zP)(dG:LT tl Ha)(qd:LT tn He)(x0:Int)(x1:Int)(x2:Int):Pg anG:=let y0:= !decide (x2=0);ae (x2==0) no (ae (decide (x2<=x0)) no (ae (x0==0) (ae y0 (ae y0 (ret (wU (Int.tdiv x1 x2),Int.tmod x1 x2)) no) no) (opt (adQ x2) λd=>let y0:=wU (64-wU d);let y1:=2^min (Int.toNat (wU d)) 64;let y2:= !decide (wU d<0);let y3:=wU (x1*y1);let y4:=wU (x2*y1);let y5:=Int.fdiv y4 4294967296;let y6:=wU (Int.ofNat (BitVec.toNat (BitVec.ofInt 64 (wU (x0*y1))|||BitVec.ofInt 64 (Int.fdiv x1 (2^min (Int.toNat y0) 64)))));let y7:=wU (Int.tdiv y6 y5);ae y2 (ae y2 (ae (!decide (y0<0)) (ae y2 (ae (!decide (y5=0)) (opt (dG (y4,wU d,y5,wU (Int.ofNat (BitVec.toNat (BitVec.ofInt 64 y4&&&BitVec.ofInt 64 4294967295))),y6,Int.fdiv y3 4294967296,wU (Int.ofNat (BitVec.toNat (BitVec.ofInt 64 y3&&&BitVec.ofInt 64 4294967295))),y7,wU (y6-wU (y7*y5)))) λx=>sum x (λd=>let y0:=wU (wU (wU (d.2.2.2.2.1*4294967296)+d.2.2.2.2.2.1)-wU (d.2.2.2.2.2.2.2.1*d.1));let y1:=wU (Int.tdiv y0 d.2.2.1);ae (!decide (d.2.2.1=0)) (opt (qd (d.1,d.2.1,d.2.2.1,d.2.2.2.1,d.2.2.2.2.2.2.1,d.2.2.2.2.2.2.2.1,wU (y0-wU (y1*d.2.2.1)),y0,y1)) λx=>sum x (λd=>ae (!decide (d.2.1<0)) (ret (wU (wU (d.2.2.2.2.2.1*4294967296)+d.2.2.2.2.2.2.2.2.1),Int.fdiv (wU (wU (wU (d.2.2.2.2.2.2.2.1*4294967296)+d.2.2.2.2.1)-wU (d.2.2.2.2.2.2.2.2.1*d.1))) (2^min (Int.toNat d.2.1) 64))) no) λx=>sum x (λd=>ae (!decide (d.2.1<0)) (ret (wU (wU (d.2.2.2.2.2.1*4294967296)+d.2.2.2.2.2.2.2.2.1),Int.fdiv (wU (wU (wU (d.2.2.2.2.2.2.2.1*4294967296)+d.2.2.2.2.1)-wU (d.2.2.2.2.2.2.2.2.1*d.1))) (2^min (Int.toNat d.2.1) 64))) no) λd=>ae (!decide (d.2.1<0)) (ret (wU (wU (d.2.2.2.2.2.1*4294967296)+d.2.2.2.2.2.2.2.2.1),Int.fdiv (wU (wU (wU (d.2.2.2.2.2.2.2.1*4294967296)+d.2.2.2.2.1)-wU (d.2.2.2.2.2.2.2.2.1*d.1))) (2^min (Int.toNat d.2.1) 64))) no) no) λx=>sum x (λd=>let y0:=wU (wU (wU (d.2.2.2.2.1*4294967296)+d.2.2.2.2.2.1)-wU (d.2.2.2.2.2.2.2.1*d.1));let y1:=wU (Int.tdiv y0 d.2.2.1);ae (!decide (d.2.2.1=0)) (opt (qd (d.1,d.2.1,d.2.2.1,d.2.2.2.1,d.2.2.2.2.2.2.1,d.2.2.2.2.2.2.2.1,wU (y0-wU (y1*d.2.2.1)),y0,y1)) λx=>sum x (λd=>ae (!decide (d.2.1<0)) (ret (wU (wU (d.2.2.2.2.2.1*4294967296)+d.2.2.2.2.2.2.2.2.1),Int.fdiv (wU (wU (wU (d.2.2.2.2.2.2.2.1*4294967296)+d.2.2.2.2.1)-wU (d.2.2.2.2.2.2.2.2.1*d.1))) (2^min (Int.toNat d.2.1) 64))) no) λx=>sum x (λd=>ae (!decide (d.2.1<0)) (ret (wU (wU (d.2.2.2.2.2.1*4294967296)+d.2.2.2.2.2.2.2.2.1),Int.fdiv (wU (wU (wU (d.2.2.2.2.2.2.2.1*4294967296)+d.2.2.2.2.1)-wU (d.2.2.2.2.2.2.2.2.1*d.1))) (2^min (Int.toNat d.2.1) 64))) no) λd=>ae (!decide (d.2.1<0)) (ret (wU (wU (d.2.2.2.2.2.1*4294967296)+d.2.2.2.2.2.2.2.2.1),Int.fdiv (wU (wU (wU (d.2.2.2.2.2.2.2.1*4294967296)+d.2.2.2.2.1)-wU (d.2.2.2.2.2.2.2.2.1*d.1))) (2^min (Int.toNat d.2.1) 64))) no) no) λd=>let y0:=wU (wU (wU (d.2.2.2.2.1*4294967296)+d.2.2.2.2.2.1)-wU (d.2.2.2.2.2.2.2.1*d.1));let y1:=wU (Int.tdiv y0 d.2.2.1);ae (!decide (d.2.2.1=0)) (opt (qd (d.1,d.2.1,d.2.2.1,d.2.2.2.1,d.2.2.2.2.2.2.1,d.2.2.2.2.2.2.2.1,wU (y0-wU (y1*d.2.2.1)),y0,y1)) λx=>sum x (λd=>ae (!decide (d.2.1<0)) (ret (wU (wU (d.2.2.2.2.2.1*4294967296)+d.2.2.2.2.2.2.2.2.1),Int.fdiv (wU (wU (wU (d.2.2.2.2.2.2.2.1*4294967296)+d.2.2.2.2.1)-wU (d.2.2.2.2.2.2.2.2.1*d.1))) (2^min (Int.toNat d.2.1) 64))) no) λx=>sum x (λd=>ae (!decide (d.2.1<0)) (ret (wU (wU (d.2.2.2.2.2.1*4294967296)+d.2.2.2.2.2.2.2.2.1),Int.fdiv (wU (wU (wU (d.2.2.2.2.2.2.2.1*4294967296)+d.2.2.2.2.1)-wU (d.2.2.2.2.2.2.2.2.1*d.1))) (2^min (Int.toNat d.2.1) 64))) no) λd=>ae (!decide (d.2.1<0)) (ret (wU (wU (d.2.2.2.2.2.1*4294967296)+d.2.2.2.2.2.2.2.2.1),Int.fdiv (wU (wU (wU (d.2.2.2.2.2.2.2.1*4294967296)+d.2.2.2.2.1)-wU (d.2.2.2.2.2.2.2.2.1*d.1))) (2^min (Int.toNat d.2.1) 64))) no) no) no) no) no) no) no)))
def Gn:=λx0 x1 x2=>(Zl nD Hc Hg x0 x1 x2).val
abbrev Gp:=zP×(LT tl Ha)×(LT tn He)
def NV (p:Gp):KK:=⟨[JS p.1],⟨[⟨17,(0::1::rg 3 5 (12::rg 17 53 (rg 78 27 (rg 113 22 (rg 70 8 []))))),[]⟩,⟨24,(0::1::rg 3 5 (11::12::13::rg 19 86 (rg 113 22 (rg 105 8 [])))),[]⟩],[fx 17 0 tl af8 p.2.1,fx 24 0 tn af9 p.b],[],[],(some ⟨0,(rg 0 6 (rg 8 127 [])),[]⟩)⟩,0,241⟩
theorem ave (p:Gp):LI (NV p) 17 tl af8 (Hb):=λ_ d c K=>by kernel_rfl
theorem avf (p:Gp):LI (NV p) 24 tn af9 (Hf):=λ_ d c K=>by kernel_rfl
theorem aDR (p:Gp):D2 (NV p) anF (lf TZ) λb=>Zl p.1 p.2.1 p.b b.1 b.2.1 b.b:=λb=>by kernel_rfl
abbrev NW:Gp:=(nD,Hc,Hg)
theorem aDS [ax]:SC (anI Gn):=sc (kS (k:=NV NW) (.c adP (.nil _)) [17,24] [] ⟨kL (ave NW),⟨kL (avf NW),trivial⟩⟩ trivial (aDR NW))
def awZ:=qa (pl (c acZ fT) nil)
def adR:=qe auz
abbrev aw0:=adR.B
abbrev aiV:=Int->Int->Int->Option aw0
def aiW (g:aiV):Ct:=(200,FC awZ (lf adR) (λb=>g b.1.1 b.1.2 b.2))
def aiX (vX:aiO)(gC:NP)(NX:anH)(eI:tk)(eJ:yx)(x0:Int)(x1:Int)(x2:Int):Pg aw0:=ae (x2==0) (ret (0,false)) (opt (vX x0 x1) λd=>let y0:= !d.2==decide (x2<0);opt (gC x2) λaj=>let nq:=wU (Int.tdiv d.1.1 aj);let y1:= !decide (aj=0);ae y1 (ae y1 (opt (NX (Int.tmod d.1.1 aj) d.1.2 aj) λd=>ae (decide (d.2>=wU (aj-d.2))) (opt (eI nq d.1 0 1) λd=>opt (eJ d.1 d.2 y0) λd=>ret d) (opt (eJ nq d.1 y0) λd=>ret d)) no) no)
def zu:=λx0 x1 x2=>(aiX Dh pD Gn hO hX x0 x1 x2).val
theorem aJW:∀vX gC NX eI eJ,D0 [aiP vX,NQ gC,anI NX,Ew eI,Ey eJ] 200 awZ (lf adR) λb=>aiX vX gC NX eI eJ b.1.1 b.1.2 b.2:=λ_ _ _ _ _ b=>by kernel_rfl
theorem aw1 [ax]:SC (aiW zu):=s0 (.c awY (.c Ze (.c aDS (.c Ml (.c Mo (.nil _)))))) (aJW Dh pD Gn hO hX)
def arR:=qa (pr (cu aP (c acZ fT)) bA)
def Zm:=qe oS
abbrev arS:=Zm.B
abbrev adS:=Int->Int->Int->Bool->Option arS
def adT (g:adS):Ct:=(128,FC arR (lf Zm) (λb=>g b.1.1.1 b.1.1.2 b.1.2 b.2))
def JT (iI:TQ)(vY:aiV)(lP:Gk)(x0:Int)(x1:Int)(x2:Int)(x3:Bool):Pg arS:=let y0:=decide (x0<0);ae (x2==0) (ae (x0==0&&(x1==0&&true)) (ret (0,true)) (opt (iI y0) λd=>ret (d,true))) (opt (vY x0 x1 x2) λd=>opt (lP d.1 d.2 (!y0==decide (x2<0)) x3) λd=>ret d)
def vZ:=λx0 x1 x2 x3=>(JT oW zu lO x0 x1 x2 x3).val
theorem aHa:∀iI vY lP,D0 [TR iI,aiW vY,NT lP] 128 arR (lf Zm) λb=>JT iI vY lP b.1.1.1 b.1.1.2 b.1.2 b.2:=λ_ _ _ b=>by kernel_rfl
theorem arT [ax]:SC (adT vZ):=s0 (.c adN (.c aw1 (.c Zi (.nil _)))) (aHa oW zu lO)
def abm:=qa (pr (cu aP C7) bA)
def JU:=qe oS
abbrev abn:=JU.B
abbrev bX:=Int->Int->Int->Bool->Option abn
def cU (g:bX):Ct:=(78,FC abm (lf JU) (λb=>g b.1.1 b.1.2.1 b.1.b b.2))
def Ez (aw:bG)(cD:mG)(rY:adS)(x0:Int)(x1:Int)(x2:Int)(x3:Bool):Pg abn:=opt (aw x0 x3) λd=>opt (aw x1 d.2) λaj=>opt (cD d.1 aj.1) λd=>opt (aw x2 aj.2) λaI=>opt (rY d.1 d.2 aI.1 aI.2) λd=>ret d
def aT:=λx0 x1 x2 x3=>(Ez aQ eR vZ x0 x1 x2 x3).val
theorem avg:∀aw cD rY,D0 [cV aw,vV cD,adT rY] 78 abm (lf JU) λb=>Ez aw cD rY b.1.1 b.1.2.1 b.1.b b.2:=λ_ _ _ b=>by kernel_rfl
theorem c8 [ax]:SC (cU aT):=s0 (.c cZ (.c zt (.c arT (.nil _)))) (avg aQ eR vZ)
def JV:=qa (pr (c ai (c ai aGn)) (cu apu bA))
def yA:=qe aL4
abbrev JW:=yA.B
abbrev zR:=Int->Int->Int->Int->Bool->Option JW
def zT (g:zR):Ct:=(194,FC JV (lf yA) (λb=>g b.1.1 b.1.2.1 b.1.b.1 b.1.b.2 b.2))
def zU (aq:bX)(x0:Int)(x1:Int)(x2:Int)(x3:Int)(x4:Bool):Pg JW:=opt (aq (wI (x1-x0)) x2 x3 x4) λd=>ret (wI (x0+d.1),d.2)
def iJ:=λx0 x1 x2 x3 x4=>(zU aT x0 x1 x2 x3 x4).val
theorem adU:∀aq,D0 [cU aq] 194 JV (lf yA) λb=>zU aq b.1.1 b.1.2.1 b.1.b.1 b.1.b.2 b.2:=λ_ b=>by kernel_rfl
theorem JX [ax]:SC (zT iJ):=s0 (.c c8 (.nil _)) (adU aT)
def anJ:=qa (pl wZ nil)
def T0:=qe aMb
abbrev anK:=T0.B
abbrev Zn:=Int->Int->Option anK
def Zo (g:Zn):Ct:=(132,FC anJ (lf T0) (λb=>g b.1 b.2))
def Zp (gC:NP)(iY:Bk)(gY:Bl)(nC:TM)(x0:Int)(x1:Int):Pg anK:=ae (decide (x1<0)) (ret ((0,0),false)) (ae (decide (x1>127)) (ret ((0,0),false)) (opt (gC x0) λd=>opt (iY 0 d x1) λaj=>opt (gY aj.1 aj.2 x1) λaI=>ae (!(aI.1==0&&(aI.2==d&&true))) (ret ((0,0),false)) (opt (nC aj.1 aj.2 (decide (x0<0))) λd=>ae (!d.2) (ret ((0,0),false)) (ret (d.1,true)))))
def sY:=λx0 x1=>(Zp pD fV gX lN x0 x1).val
theorem aDT:∀gC iY gY nC,D0 [NQ gC,G7 iY,G8 gY,TN nC] 132 anJ (lf T0) λb=>Zp gC iY gY nC b.1 b.2:=λ_ _ _ _ b=>by kernel_rfl
theorem anL [ax]:SC (Zo sY):=s0 (.c Ze (.c Qb (.c Qc (.c aiL (.nil _))))) (aDT pD fV gX lN)
def anM:=qa (pr (cu aP C7) bA)
def T1:=qe oS
abbrev anN:=T1.B
abbrev cx:=Int->Int->Int->Bool->Option anN
def fK (g:cx):Ct:=(82,FC anM (lf T1) (λb=>g b.1.1 b.1.2.1 b.1.b b.2))
def NY (aw:bG)(pF:Zn)(rY:adS)(x0:Int)(x1:Int)(x2:Int)(x3:Bool):Pg anN:=opt (aw x0 x3) λd=>opt (aw x1 d.2) λaj=>ae (decide (x2<0)) (ret (0,true)) (ae (decide (x2>66)) (ret (0,true)) (opt (pF d.1 x2) λd=>opt (rY d.1.1 d.1.2 aj.1 aj.2) λd=>ret d))
def bm:=λx0 x1 x2 x3=>(NY aQ sY vZ x0 x1 x2 x3).val
theorem aDU:∀aw pF rY,D0 [cV aw,Zo pF,adT rY] 82 anM (lf T1) λb=>NY aw pF rY b.1.1 b.1.2.1 b.1.b b.2:=λ_ _ _ b=>by kernel_rfl
theorem gD [ax]:SC (fK bm):=s0 (.c cZ (.c anL (.c arT (.nil _)))) (aDU aQ sY vZ)
def abo:=qa (pl (c Tt (cl Tt nil)) nil)
def JY:=qe B9
abbrev abp:=JY.B
abbrev EA:=Int->Int->Int->Int->Option abp
def abq (g:EA):Ct:=(243,FC abo (lf JY) (λb=>g b.1.1 b.1.2 b.2.1 b.b))
def Mq (x0:Int)(x1:Int)(x2:Int)(x3:Int):Pg abp:=ae (decide (x0<x2)) (ret true) (ae (x0==x2) (ret (decide (x1<x3))) (ret false))
def tp:=λx0 x1 x2 x3=>(Mq x0 x1 x2 x3).val
theorem avh:D0 [] 243 abo (lf JY) λb=>Mq b.1.1 b.1.2 b.2.1 b.b:=λb=>by kernel_rfl
theorem avi [ax]:SC (abq tp):=s0 (.nil _) avh
def XL:=qa (pl (c Tt (cl Tt nil)) nil)
def HW:=qe aGr
abbrev XM:=HW.B
abbrev JZ:=Int->Int->Int->Int->Option XM
def XN (g:JZ):Ct:=(244,FC XL (lf HW) (λb=>g b.1.1 b.1.2 b.2.1 b.b))
def J0 (aiY:aTR)(x0:Int)(x1:Int)(x2:Int)(x3:Int):Pg XM:=opt (aiY x1 x3 0) λd=>opt (aiY x0 x2 d.2) λaj=>ret (aj.1,d.1)
def v7:=λx0 x1 x2 x3=>(J0 abh x0 x1 x2 x3).val
theorem arU:∀aiY,D0 [aJQ aiY] 244 XL (lf HW) λb=>J0 aiY b.1.1 b.1.2 b.2.1 b.b:=λ_ b=>by kernel_rfl
theorem arV [ax]:SC (XN v7):=s0 (.c aPX (.nil _)) (arU abh)
def arW:=qa (pl aAA nil)
def Zq:=qe auz
abbrev arX:=Zq.B
abbrev arY:=Int->Int->Option arX
def arZ (g:arY):Ct:=(202,FC arW (lf Zq) (λb=>g b.1 b.2))
def vF:=qs (st (pr (us 4 (cu (app 0 2) (cu aIN (cl ai (us 44 nil))))) (pl (c (so auo) (cl (so auo) nil)) nil)))
def aBU:=qs (st (pr (us 4 (cu (app 0 2) (cu aIN (c ai (us 12 aRt))))) (pl (c (so auo) (cl (so auo) nil)) nil)))
abbrev J1:=((Int×Bool)×(Int×Int)×Int×Int)
def aiZ {ρ:Type}(x:J1)(K:AX->St->Option ρ):Option ρ:=(λd=>K (.ex 0) (aBU.em ((d.1.1,d.1),d.2))) x
def J2 (iY:Bk)(eI:tk)(gY:Bl)(Mr:EA)(ar0:JZ)(d:vF.B):PL vF J1:=let y0:=wI (d.1-2);let y1:=decide (d.1>=0);ae y1 (opt (iY 0 1 d.1) λaj=>opt (eI d.2.2.1 d.2.2.2 aj.1 aj.2) λaI=>opt (gY d.2.2.1 d.2.2.2 1) λbz=>opt (Mr d.2.1.1 d.2.1.2 aI.1 aI.2) λcq=>ae (!cq) (opt (ar0 d.2.1.1 d.2.1.2 aI.1 aI.2) λd=>opt (eI bz.1 bz.2 aj.1 aj.2) λeo=>ret (Sum.inl (y0,d,eo))) (ret (Sum.inl (y0,d.2.1,bz)))) (ret (Sum.inr ((d.1,y1),d.2)))
def T2:=bD (J2 fV hO gX tp v7) 2000
def adV (eI:tk)(Mr:EA)(eJ:yx)(dG:LT vF J1)(x0:Int)(x1:Int):Pg arX:=ae (decide (x0<0)) (ret (0,false)) (opt (dG (126,(wU x0,x1),0,0)) λd=>opt (Mr d.2.2.1 d.2.2.2 d.2.1.1 d.2.1.2) λaj=>ae aj (opt (eI d.2.2.1 d.2.2.2 0 1) λd=>opt (eJ d.1 d.2 false) λd=>ret d) (opt (eJ d.2.2.1 d.2.2.2 false) λd=>ret d))
def J3:=λx0 x1=>(adV hO tp hX T2 x0 x1).val
abbrev Ss:=Bk×tk×Bl×EA×JZ×yx×(LT vF J1)
def adW (p:Ss):KK:=⟨[G7 p.1,Ew p.2.1,G8 p.b.1,abq p.b.2.1,XN p.c.1,Ey p.c.2.1],⟨[⟨5,(rg 0 4 (rg 7 44 [])),[]⟩],[fx 5 0 vF aiZ p.c.b],[],[],(some ⟨0,(0::1::rg 4 47 []),[]⟩)⟩,0,202⟩
theorem ay4 (p:Ss):LI (adW p) 5 vF aiZ (J2 p.1 p.2.1 p.b.1 p.b.2.1 p.c.1):=λ_ d c K=>by kernel_rfl
theorem aHb (p:Ss):D2 (adW p) arW (lf Zq) λb=>adV p.2.1 p.b.2.1 p.c.2.1 p.c.b b.1 b.2:=λb=>by kernel_rfl
abbrev adX:Ss:=(fV,hO,gX,tp,v7,hX,T2)
theorem aHc [ax]:SC (arZ J3):=sc (kS (k:=adW adX) (.c Qb (.c Ml (.c Qc (.c avi (.c arV (.c Mo (.nil _))))))) [5] [] ⟨kL (ay4 adX),trivial⟩ trivial (aHb adX))
def aw2:=qa (pr (cu aP aAA) bA)
def adY:=qe oS
abbrev aw3:=adY.B
abbrev XO:=Int->Int->Bool->Option aw3
def ai0 (g:XO):Ct:=(133,FC aw2 (lf adY) (λb=>g b.1.1 b.1.2 b.2))
def ai1 (Su:arY)(aw:bG)(x0:Int)(x1:Int)(x2:Bool):Pg aw3:=opt (Su x0 x1) λd=>ae (!d.2) (opt (aw 1152921504606846977 x2) λd=>ret d) (opt (aw d.1 x2) λd=>ret d)
def v8:=λx0 x1 x2=>(ai1 J3 aQ x0 x1 x2).val
theorem aJX:∀Su aw,D0 [arZ Su,cV aw] 133 aw2 (lf adY) λb=>ai1 Su aw b.1.1 b.1.2 b.2:=λ_ _ b=>by kernel_rfl
theorem aw4 [ax]:SC (ai0 v8):=s0 (.c aHc (.c cZ (.nil _))) (aJX J3 aQ)
def ar1:=qa (pr (cu aP fT) bA)
def Zr:=qe oS
abbrev ar2:=Zr.B
abbrev adZ:=Int->Bool->Option ar2
def ad3 (g:adZ):Ct:=(81,FC ar1 (lf Zr) (λb=>g b.1 b.2))
def ad4 (aw:bG)(pF:Zn)(IL:XO)(x0:Int)(x1:Bool):Pg ar2:=opt (aw x0 x1) λd=>ae (decide (d.1<0)) (ret (0,true)) (opt (pF d.1 30) λaj=>opt (IL aj.1.1 aj.1.2 d.2) λd=>ret d)
def zV:=λx0 x1=>(ad4 aQ sY v8 x0 x1).val
theorem aHd:∀aw pF IL,D0 [cV aw,Zo pF,ai0 IL] 81 ar1 (lf Zr) λb=>ad4 aw pF IL b.1 b.2:=λ_ _ _ b=>by kernel_rfl
theorem ar3 [ax]:SC (ad3 zV):=s0 (.c cZ (.c anL (.c aw4 (.nil _)))) (aHd aQ sY v8)
def ar4:=qa (pl fT nil)
def Zs:=qe Fq
abbrev ar5:=Zs.B
abbrev wb:=Int->Option ar5
def zW (g:wb):Ct:=(129,FC ar4 (lf Zs) (λb=>g b))
def Sv (x0:Int):Pg ar5:=let y0:=Int.tmod x0 6746518852;ae (decide (y0>3373259426)) (ret (wI (y0-6746518852))) (ae (decide (y0<= -3373259426)) (ret (wI (y0+6746518852))) (ret y0))
def jy:=λx0=>(Sv x0).val
theorem aHe:D0 [] 129 ar4 (lf Zs) λb=>Sv b:=λb=>by kernel_rfl
theorem EB [ax]:SC (zW jy):=s0 (.nil _) aHe
def aFz:=qa (pl fT nil)
def apY:=qe Fq
abbrev abr:=apY.B
abbrev Ms:=Int->Option abr
def abt (g:Ms):Ct:=(36,FC aFz (lf apY) (λb=>g b))
def BP (x0:Int):Pg abr:=ae (decide (x0>=1152921504606846976)) (ret 1152921504606846976) (ae (decide (x0<= -1152921504606846976)) (ret 1152921504606846976) (ae (decide (x0<0)) (ret (wI (0-x0))) (ret x0)))
def vG:=λx0=>(BP x0).val
theorem aP1:D0 [] 36 aFz (lf apY) λb=>BP b:=λb=>by kernel_rfl
theorem ama [ax]:SC (abt vG):=s0 (.nil _) aP1
def aFA:=qa (pr (cu aP wZ) bA)
def apZ:=qe oS
abbrev aFB:=apZ.B
abbrev abu:=Int->Int->Bool->Option aFB
def amb (g:abu):Ct:=(130,FC aFA (lf apZ) (λb=>g b.1.1 b.1.2 b.2))
def amc (aC:bK)(x0:Int)(x1:Int)(x2:Bool):Pg aFB:=opt (aC x0 x1 30 x2) λd=>ret d
def IM:=λx0 x1 x2=>(amc aU x0 x1 x2).val
theorem aP2:∀aC,D0 [eL aC] 130 aFA (lf apZ) λb=>amc aC b.1.1 b.1.2 b.2:=λ_ b=>by kernel_rfl
theorem avj [ax]:SC (amb IM):=s0 (.c eY (.nil _)) (aP2 aU)
def aBV:=qa (pl fT nil)
def ai2:=qe aRR
abbrev aBW:=ai2.B
abbrev ap0:=Int->Option aBW
def aBX (g:ap0):Ct:=(242,FC aBV (lf ai2) (λb=>g b))
def ap1 (x0:Int):Pg aBW:=ret (Int.fdiv x0 9223372036854775808,wU x0)
def T3:=λx0=>(ap1 x0).val
theorem aNp:D0 [] 242 aBV (lf ai2) λb=>ap1 b:=λb=>by kernel_rfl
theorem aNq [ax]:SC (aBX T3):=s0 (.nil _) aNp
def aw5:=qa (pl (c acZ aAA) nil)
def ad5:=qe aMb
abbrev aw6:=ad5.B
abbrev ai3:=Int->Int->Int->Int->Option aw6
def aw7 (g:ai3):Ct:=(187,FC aw5 (lf ad5) (λb=>g b.1.1 b.1.2 b.2.1 b.b))
def ai4 (lM:arJ)(x0:Int)(x1:Int)(x2:Int)(x3:Int):Pg aw6:=let y0:=decide (x0<0);opt (lM x1 x3 0) λd=>opt (lM (wU x0) (wU x2) d.2) λaj=>ae (!y0==decide (x2<0)) (ret ((wI aj.1,d.1),true)) (ret ((wI aj.1,d.1),decide (wI aj.1<0)==y0))
def IN:=λx0 x1 x2 x3=>(ai4 Bh x0 x1 x2 x3).val
theorem aJY:∀lM,D0 [aiH lM] 187 aw5 (lf ad5) λb=>ai4 lM b.1.1 b.1.2 b.2.1 b.b:=λ_ b=>by kernel_rfl
theorem aJZ [ax]:SC (aw7 IN):=s0 (.c al9 (.nil _)) (aJY Bh)
def aw8:=qa (dp (cl aQ7 nil) λa=>(cl (cl (gs a.1 aGf) nil) nil))
def ad6:=qe (res (pl aRS (pu Xl nil)))
abbrev aw9:=ad6.B
abbrev qf:=Nat->NI->NI->Bool->Option aw9
def IP (g:qf):Ct:=(117,sW 0 [.i .i64,.i .u64] (FC aw8 (lf ad6) (λb=>g b.1.1 b.2.1 b.b b.1.2)))
def yB:=qs (st (dp (us 2 (cu aIN (us 1 (cu awp (us 4 (c aQ7 (c ai aLA))))))) λa=>(pl (c (so (cl (gs a.1.1 aGf) nil)) (cu aMc YZ)) nil)))
def aga:=qs (st (pu (us 2 (cu aIN (cu tN (us 23 nil)))) (pl (cl aL8 (cu aMc nil)) nil)))
def ay5:=qs (st (pr (us 2 (cu aIN (us 1 (cu awp (us 4 (c aQ7 aRK)))))) (pl (c aL8 (cu aMc YZ)) nil)))
abbrev Gq:=aga.B⊕(aIE×(NI×NI)×Int×Int)
def anO {ρ:Type}(x:Gq)(K:AX->St->Option ρ):Option ρ:=(Sum.elim (λd=>K .ret (aga.em d)) (λd=>K (.ex 0) (ay5.em (d.1,(d.1.1.1,d.2.1),d.b)))) x
def BQ (aJ0:ai3)(d:yB.B):PL yB Gq:=let y0:=Int.toNat d.1.2.2;let y1:=decide (d.1.2.2<d.1.2.1);ae y1 (ae (aX d.1.2.2 d.1.1.1) (opt (aJ0 d.2.2.1 d.2.2.2 (d.2.1.1 y0) (d.2.1.2 y0)) λaj=>ae (!aj.2) (ret (Sum.inr (Sum.inl (d.1.1.1,d.2.1)))) (ret (Sum.inl ((d.1.1,d.1.2.1,wI (d.1.2.2+1)),d.2.1,aj.1)))) no) (ret (Sum.inr (Sum.inr ((d.1.1,d.1.2.1,d.1.2.2,y1),d.2))))
def Gr:=bD (BQ IN) 2000
def XP (dG:LT yB Gq)(x0:Nat)(x1:Nat->Int)(x2:Nat->Int)(w0:Bool):Pg aw9:=ae (Nat.beq x0 x0) (opt (dG (((x0,w0),Int.ofNat x0,0),(x1,x2),0,0)) λx=>sum x (λd=>ret ((0,0),false)) λd=>ret (d.2.2,true)) no
def jk:=λx0 x1 x2 w0=>(XP Gr x0 x1 x2 w0).val
abbrev XQ:=ai3×(LT yB Gq)
def ai5 (p:XQ):KK:=⟨[aw7 p.1],⟨[⟨3,(0::1::3::rg 5 4 (rg 12 15 [])),[]⟩],[fx 3 1 yB anO p.2],[],[],(some ⟨0,(0::1::rg 4 23 []),[]⟩)⟩,1,117⟩
theorem aBY (p:XQ):LI (ai5 p) 3 yB anO (BQ p.1):=λ_ d c K=>by kernel_rfl
theorem aJ1 (p:XQ):D2 (ai5 p) aw8 (lf ad6) λb=>XP p.2 b.1.1 b.2.1 b.b b.1.2:=λb=>by kernel_rfl
abbrev ai6:XQ:=(IN,Gr)
theorem OH [ax]:SC (IP jk):=sc (Sound.nil 0 [.i .i64,.i .u64]<|kS (k:=ai5 ai6) (.c aJZ (.nil _)) [3] [] ⟨kL (aBY ai6),trivial⟩ trivial (aJ1 ai6))
def anP:=qa (dp (cu aP aur) λa=>(c uV (cl (cl (gs a.1 mF) nil) nil)))
def T4:=qe aGs
abbrev anQ:=T4.B
abbrev eM:=Nat->Bool->NI->Bool->Option anQ
def nu (g:eM):Ct:=(201,sW 1 [.i .i64] (FC anP (lf T4) (λb=>g b.1.1 b.2.1 b.b b.1.2)))
def tt:=qs (st (dp (cu aP (us 4 (cu awp (us 4 (c Gh (c ai aLB)))))) λa=>(pl (c cj (c (so (cl (gs a.1.1 mF) nil)) YZ)) cA)))
def ay6:=qs (st (pr (cu aP (us 4 (cu awp (us 4 (c Gh (c ai aLK)))))) (pl (c cj (c HL YZ)) cA)))
abbrev Hh:=(aIE×Bool×NI×Int×Int)
def agb {ρ:Type}(x:Hh)(K:AX->St->Option ρ):Option ρ:=(λd=>K (.ex 0) (ay6.em (d.1,d.2.1,(d.1.1.1,d.b.1),d.b.2))) x
def Hi (aw:bG)(aNr:ap0)(wc:qf)(d:tt.B):PL tt Hh:=let y0:=decide (d.1.2.2<d.1.2.1);ae y0 (ae (aX d.1.2.2 d.1.1.1) (opt (aw (d.2.2.1 (Int.toNat d.1.2.2)) d.2.1) λaj=>opt (aNr aj.1) λaI=>opt (wc 2 (λj=>bif Nat.beq j 1 then aI.1 else bif Nat.beq j 0 then d.2.2.2.1 else d.2.2.2.1) (λj=>bif Nat.beq j 1 then aI.2 else bif Nat.beq j 0 then d.2.2.2.2 else d.2.2.2.2) true) λbz=>ret (Sum.inl ((d.1.1,d.1.2.1,wI (d.1.2.2+1)),aj.2,d.2.2.1,bz.1))) no) (ret (Sum.inr ((d.1.1,d.1.2.1,d.1.2.2,y0),d.2)))
def Qh:=bD (Hi aQ T3 jk) 2000
def Zt (sX:BO)(lP:Gk)(dG:LT tt Hh)(x0:Nat)(x1:Bool)(x2:Nat->Int)(w0:Bool):Pg anQ:=ae (Nat.beq x0 x0) (opt (dG (((x0,w0),Int.ofNat x0,0),x1,x2,0,0)) λd=>opt (sX d.2.2.2.1 d.2.2.2.2 0) λaj=>opt (lP aj.1 aj.2 (decide (d.2.2.2.1<0)) d.2.1) λd=>ret d) no
def cF:=λx0 x1 x2 w0=>(Zt pE lO Qh x0 x1 x2 w0).val
abbrev NZ:=bG×ap0×qf×BO×Gk×(LT tt Hh)
def Zu (p:NZ):KK:=⟨[cV p.1,aBX p.2.1,IP p.b.1,NS p.b.2.1,NT p.c.1],⟨[⟨3,(rg 1 4 (rg 6 4 (rg 13 26 []))),[]⟩],[fx 3 2 tt agb p.c.2],[0],[],(some ⟨0,(rg 0 4 (rg 5 34 [])),[]⟩)⟩,2,201⟩
theorem avk (p:NZ):LI (Zu p) 3 tt agb (Hi p.1 p.2.1 p.b.1):=λ_ d c K=>by kernel_rfl
theorem aDV (p:NZ):D2 (Zu p) anP (lf T4) λb=>Zt p.b.2.1 p.c.1 p.c.2 b.1.1 b.2.1 b.b b.1.2:=λb=>by kernel_rfl
abbrev Zv:NZ:=(aQ,T3,jk,pE,lO,Qh)
theorem pG [ax]:SC (nu cF):=sc (Sound.nil 1 [.i .i64]<|kS (k:=Zu Zv) (.c cZ (.c aNq (.c OH (.c Zh (.c Zi (.nil _)))))) [3] [] ⟨kL (avk Zv),trivial⟩ trivial (aDV Zv))
def ai7:=qa (dp (cu aP aLP) λa=>(c uV (cl (cl (gs a.2.1 mF) nil) nil)))
def Qi:=qe aGs
abbrev ai8:=Qi.B
abbrev T5:=Int->Nat->Bool->NI->Bool->Option ai8
def T6 (g:T5):Ct:=(131,sW 2 [.i .i64] (FC ai7 (lf Qi) (λb=>g b.1.1 b.1.2.1 b.2.1 b.b b.1.b)))
def jz:=qs (st (pr (cu aP (c ai (us 5 (c ai (us 6 (c aSp (c ai aGb))))))) (pl (c cj ah7) cA)))
def abv:=qs (st (pr (cu aP (c ai (us 5 (c ai (us 6 (c aSp (c ai aGg))))))) (pl (c cj ah7) cA)))
abbrev tu:=abv.B
def abw {ρ:Type}:=@ef tu ((.ex 0)) abv ρ
def Mt (iD:abu)(bV:eM)(d:jz.B):PL jz tu:=let n1:=d.1.2.2;let n2:=n1.2.2;let y0:=decide (n2<n1.2.1);ae y0 (ae (aX n2 n1.1.1) (opt (iD d.1.1 d.1.2.1 d.2.1) λaj=>opt (bV 2 aj.2 (cr (d.2.2.2 (1+Int.toNat n2)) [aj.1,d.2.2.2 (1+Int.toNat n2)]) true) λaI=>ret (Sum.inl ((d.1.1,aI.1,n1.1,n1.2.1,wI (n2+1)),aI.2,d.2.2))) no) (ret (Sum.inr ((d.1.1,d.1.2.1,n1.1,n1.2.1,n2,y0),d.2)))
def Mu:=bD (Mt IM cF) 2000
def T7 (dG:LT jz tu)(x0:Int)(x1:Nat)(x2:Bool)(x3:Nat->Int)(w0:Bool):Pg ai8:=let y0:=x1-1;ae (aX 0 x1) (ae (IF 1 x1) (opt (dG ((x0,x3 0,(y0,w0&&true),Int.ofNat y0,0),x2,x1,x3)) λd=>ret (d.1.2.1,d.2.1)) no) no
def lQ:=λx0 x1 x2 x3 w0=>(T7 Mu x0 x1 x2 x3 w0).val
abbrev J4:=abu×eM×(LT jz tu)
def T8 (p:J4):KK:=⟨[amb p.1,nu p.2.1],⟨[⟨3,(rg 2 5 (rg 8 6 (rg 17 13 []))),[]⟩],[fx 3 2 jz abw p.b],[0],[],(some ⟨0,(rg 0 6 (rg 7 23 [])),[]⟩)⟩,2,131⟩
theorem ar6 (p:J4):LI (T8 p) 3 jz abw (Mt p.1 p.2.1):=λ_ d c K=>by kernel_rfl
theorem aBZ (p:J4):D2 (T8 p) ai7 (lf Qi) λb=>T7 p.b b.1.1 b.1.2.1 b.2.1 b.b b.1.b:=λb=>by kernel_rfl
abbrev T9:J4:=(IM,cF,Mu)
theorem ai9 [ax]:SC (T6 lQ):=sc (Sound.nil 2 [.i .i64]<|kS (k:=T8 T9) (.c avj (.c pG (.nil _))) [3] [] ⟨kL (ar6 T9),trivial⟩ trivial (aBZ T9))
def axa:=qa (pr (cu aP fT) bA)
def ad7:=qe oS
abbrev axb:=ad7.B
abbrev IQ:=Int->Bool->Option axb
def IS (g:IQ):Ct:=(79,FC axa (lf ad7) (λb=>g b.1 b.2))
def aja (aw:bG)(cT:wb)(cY:Ms)(iD:abu)(fk:T5)(x0:Int)(x1:Bool):Pg axb:=opt (aw x0 x1) λd=>opt (cT d.1) λaj=>let y0:=wI (3373259426-aj);let y1:=wI (-3373259426-aj);ae (decide (aj>1686629713)) (opt (cY y0) λaI=>let nq:=wI (1686629713-aI);ae (decide (aI<=843314857)) (opt (iD y0 y0 d.2) λd=>opt (fk d.1 6 d.2 (cr (-27) [1073741824, -178956971,8947849, -213044,2959, -27]) true) λd=>opt (iD y0 d.1 d.2) λd=>let y0:=if -1073741824>d.1 then -1073741824 else d.1;ret (if 1073741824<y0 then 1073741824 else y0,d.2)) (opt (iD nq nq d.2) λd=>opt (fk d.1 7 d.2 (cr 2 [1073741824, -536870912,44739243, -1491308,26631, -296,2]) true) λd=>let anR:=wI (0-d.1);let y1:=if -1073741824>d.1 then -1073741824 else d.1;let y2:=if -1073741824>anR then -1073741824 else anR;ae (decide (y0<0)) (ret (if 1073741824<y2 then 1073741824 else y2,d.2)) (ret (if 1073741824<y1 then 1073741824 else y1,d.2)))) (ae (decide (aj< -1686629713)) (opt (cY y1) λaI=>let y0:=wI (1686629713-aI);ae (decide (aI<=843314857)) (opt (iD y1 y1 d.2) λd=>opt (fk d.1 6 d.2 (cr (-27) [1073741824, -178956971,8947849, -213044,2959, -27]) true) λd=>opt (iD y1 d.1 d.2) λd=>let y0:=if -1073741824>d.1 then -1073741824 else d.1;ret (if 1073741824<y0 then 1073741824 else y0,d.2)) (opt (iD y0 y0 d.2) λd=>opt (fk d.1 7 d.2 (cr 2 [1073741824, -536870912,44739243, -1491308,26631, -296,2]) true) λd=>let y0:=wI (0-d.1);let agc:=if -1073741824>d.1 then -1073741824 else d.1;let y2:=if -1073741824>y0 then -1073741824 else y0;ae (decide (y1<0)) (ret (if 1073741824<y2 then 1073741824 else y2,d.2)) (ret (if 1073741824<agc then 1073741824 else agc,d.2)))) (opt (cY aj) λaI=>let y0:=wI (1686629713-aI);ae (decide (aI<=843314857)) (opt (iD aj aj d.2) λd=>opt (fk d.1 6 d.2 (cr (-27) [1073741824, -178956971,8947849, -213044,2959, -27]) true) λd=>opt (iD aj d.1 d.2) λd=>let y0:=if -1073741824>d.1 then -1073741824 else d.1;ret (if 1073741824<y0 then 1073741824 else y0,d.2)) (opt (iD y0 y0 d.2) λd=>opt (fk d.1 7 d.2 (cr 2 [1073741824, -536870912,44739243, -1491308,26631, -296,2]) true) λd=>let y0:=wI (0-d.1);let y1:=if -1073741824>d.1 then -1073741824 else d.1;let y2:=if -1073741824>y0 then -1073741824 else y0;ae (decide (aj<0)) (ret (if 1073741824<y2 then 1073741824 else y2,d.2)) (ret (if 1073741824<y1 then 1073741824 else y1,d.2)))))
def mH:=λx0 x1=>(aja aQ jy vG IM lQ x0 x1).val
theorem aJ2:∀aw cT cY iD fk,D0 [cV aw,zW cT,abt cY,amb iD,T6 fk] 79 axa (lf ad7) λb=>aja aw cT cY iD fk b.1 b.2:=λ_ _ _ _ _ b=>by kernel_rfl
theorem OJ [ax]:SC (IS mH):=s0 (.c cZ (.c EB (.c ama (.c avj (.c ai9 (.nil _)))))) (aJ2 aQ jy vG IM lQ)
def axc:=qa (pr (cu aP fT) bA)
def ad8:=qe oS
abbrev axd:=ad8.B
abbrev OK:=Int->Bool->Option axd
def OL (g:OK):Ct:=(80,FC axc (lf ad8) (λb=>g b.1 b.2))
def ajb (cT:wb)(dD:IQ)(x0:Int)(x1:Bool):Pg axd:=opt (cT x0) λd=>opt (dD (wI (1686629713+d)) x1) λd=>ret d
def qg:=λx0 x1=>(ajb jy mH x0 x1).val
theorem aJ3:∀cT dD,D0 [zW cT,IS dD] 80 axc (lf ad8) λb=>ajb cT dD b.1 b.2:=λ_ _ b=>by kernel_rfl
theorem XR [ax]:SC (OL qg):=s0 (.c EB (.c OJ (.nil _))) (aJ3 jy mH)
def anS:=qa (pr (cu aP wZ) bA)
def T':=qe oS
abbrev anT:=T'.B
abbrev Zw:=Int->Int->Bool->Option anT
def Zx (g:Zw):Ct:=(257,FC anS (lf T') (λb=>g b.1.1 b.1.2 b.2))
def Zy (aw:bG)(cY:Ms)(aD:cx)(iD:abu)(fk:T5)(x0:Int)(x1:Int)(x2:Bool):Pg anT:=opt (aw x0 x2) λd=>let y0:=decide (d.1<0);opt (aw x1 d.2) λaj=>let nq:=decide (aj.1<0);opt (cY d.1) λaI=>opt (cY aj.1) λbz=>let anR:=if bz>aI then bz else aI;opt (cY d.1) λcq=>opt (cY aj.1) λeo=>ae (anR==0) (ret (0,aj.2)) (opt (aD (if eo<cq then eo else cq) anR 30 aj.2) λcJ=>ae (decide (cJ.1>444758426)) (opt (aD (wI (cJ.1-1073741824)) (wI (cJ.1+1073741824)) 30 cJ.2) λkI=>opt (iD kI.1 kI.1 kI.2) λoJ=>opt (fk oJ.1 12 oJ.2 (cr (-46684427) [1073741824, -357913941,214748365, -153391689,119304647, -97612893,82595525, -71582788,63161284, -56512728,51130563, -46684427]) true) λmI=>opt (iD kI.1 mI.1 mI.2) λjA=>let XS:=wI (843314857+jA.1);let y1:=wI (3373259426-XS);let y2:=wI (1686629713-XS);let y3:=wI (3373259426-y2);opt (cY d.1) λd=>opt (cY aj.1) λpC=>ae (decide (d>pC)) (ae nq (ae y0 (ret (wI (0-y3),jA.2)) (ret (y3,jA.2))) (ae y0 (ret (wI (0-y2),jA.2)) (ret (y2,jA.2)))) (ae nq (ae y0 (ret (wI (0-y1),jA.2)) (ret (y1,jA.2))) (ae y0 (ret (wI (0-XS),jA.2)) (ret (XS,jA.2))))) (opt (iD cJ.1 cJ.1 cJ.2) λkI=>opt (fk kI.1 12 kI.2 (cr (-46684427) [1073741824, -357913941,214748365, -153391689,119304647, -97612893,82595525, -71582788,63161284, -56512728,51130563, -46684427]) true) λoJ=>opt (iD cJ.1 oJ.1 oJ.2) λmI=>let XS:=wI (0+mI.1);let y1:=wI (1686629713-XS);let y2:=wI (3373259426-XS);let y3:=wI (3373259426-y1);opt (cY d.1) λd=>opt (cY aj.1) λjA=>ae (decide (d>jA)) (ae nq (ae y0 (ret (wI (0-y3),mI.2)) (ret (y3,mI.2))) (ae y0 (ret (wI (0-y1),mI.2)) (ret (y1,mI.2)))) (ae nq (ae y0 (ret (wI (0-y2),mI.2)) (ret (y2,mI.2))) (ae y0 (ret (wI (0-XS),mI.2)) (ret (XS,mI.2))))))
def w9:=λx0 x1 x2=>(Zy aQ vG bm IM lQ x0 x1 x2).val
theorem aDW:∀aw cY aD iD fk,D0 [cV aw,abt cY,fK aD,amb iD,T6 fk] 257 anS (lf T') λb=>Zy aw cY aD iD fk b.1.1 b.1.2 b.2:=λ_ _ _ _ _ b=>by kernel_rfl
theorem anU [ax]:SC (Zx w9):=s0 (.c cZ (.c ama (.c gD (.c avj (.c ai9 (.nil _)))))) (aDW aQ vG bm IM lQ)
def anV:=qa (pr (cu aP wZ) bA)
def Ua:=qe oS
abbrev anW:=Ua.B
abbrev cQ:=Int->Int->Bool->Option anW
def gE (g:cQ):Ct:=(212,FC anV (lf Ua) (λb=>g b.1.1 b.1.2 b.2))
def Gs (aw:bG)(x0:Int)(x1:Int)(x2:Bool):Pg anW:=opt (aw x0 x2) λd=>opt (aw x1 d.2) λaj=>opt (aw (wI (d.1-aj.1)) aj.2) λd=>ret d
def bH:=λx0 x1 x2=>(Gs aQ x0 x1 x2).val
theorem aDX:∀aw,D0 [cV aw] 212 anV (lf Ua) λb=>Gs aw b.1.1 b.1.2 b.2:=λ_ b=>by kernel_rfl
theorem iu [ax]:SC (gE bH):=s0 (.c cZ (.nil _)) (aDX aQ)
def aB0:=qa (pr (cu aP (c ac1 Ft)) bA)
def ajc:=qe auB
abbrev aB1:=ajc.B
abbrev HX:=Int->Int->Int->Int->Int->Int->Bool->Option aB1
def Ub (g:HX):Ct:=(181,FC aB0 (lf ajc) (λb=>g b.1.1.1 b.1.1.2.1 b.1.1.b b.1.2.1 b.1.b.1 b.1.b.2 b.2))
def ap2 (aV:cQ)(x0:Int)(x1:Int)(x2:Int)(x3:Int)(x4:Int)(x5:Int)(x6:Bool):Pg aB1:=opt (aV x0 x3 x6) λd=>opt (aV x1 x4 d.2) λaj=>opt (aV x2 x5 aj.2) λaI=>ret ((d.1,aj.1,aI.1),aI.2)
def tV:=λx0 x1 x2 x3 x4 x5 x6=>(ap2 bH x0 x1 x2 x3 x4 x5 x6).val
theorem aNs:∀aV,D0 [gE aV] 181 aB0 (lf ajc) λb=>ap2 aV b.1.1.1 b.1.1.2.1 b.1.1.b b.1.2.1 b.1.b.1 b.1.b.2 b.2:=λ_ b=>by kernel_rfl
theorem ad9 [ax]:SC (Ub tV):=s0 (.c iu (.nil _)) (aNs bH)
def ar7:=qa (pr (cu aP (c ac1 fT)) bA)
def Zz:=qe auB
abbrev ar8:=Zz.B
abbrev Sw:=Int->Int->Int->Int->Bool->Option ar8
def Sx (g:Sw):Ct:=(157,FC ar7 (lf Zz) (λb=>g b.1.1.1 b.1.1.2.1 b.1.1.b b.1.2 b.2))
def aea (aC:bK)(x0:Int)(x1:Int)(x2:Int)(x3:Int)(x4:Bool):Pg ar8:=opt (aC x0 x3 30 x4) λd=>opt (aC x1 x3 30 d.2) λaj=>opt (aC x2 x3 30 aj.2) λaI=>ret ((d.1,aj.1,aI.1),aI.2)
def rZ:=λx0 x1 x2 x3 x4=>(aea aU x0 x1 x2 x3 x4).val
theorem aHf:∀aC,D0 [eL aC] 157 ar7 (lf Zz) λb=>aea aC b.1.1.1 b.1.1.2.1 b.1.1.b b.1.2 b.2:=λ_ b=>by kernel_rfl
theorem aeb [ax]:SC (Sx rZ):=s0 (.c eY (.nil _)) (aHf aU)
def anX:=qa (dp (cu aP aur) λa=>(c uV (cl (cl (gs a.1 mF) nil) nil)))
def Uc:=qe aGs
abbrev anY:=Uc.B
abbrev xc:=Nat->Bool->NI->Bool->Option anY
def Gu (g:xc):Ct:=(135,sW 1 [.i .i64] (FC anX (lf Uc) (λb=>g b.1.1 b.2.1 b.b b.1.2)))
def tv:=qs (st (pr (cu aP (us 4 (cu awp (us 6 (c Gh (c ai (cl ai (us 19 nil)))))))) (pl (c cj (c HL YZ)) cA)))
def agd:=qs (st (pr (cu aP (us 4 (cu awp (us 6 (c Gh (c ai (c ai (cl ab (us 18 nil))))))))) (pl (c cj (c HL YZ)) cA)))
abbrev Hj:=agd.B
def age {ρ:Type}:=@ef Hj ((.ex 0)) agd ρ
def Bm (aw:bG)(cD:mG)(wc:qf)(d:tv.B):PL tv Hj:=let y0:=decide (d.1.2.2<d.1.2.1);ae y0 (ae (aX d.1.2.2 d.1.1.1) (opt (aw (d.2.2.1.2 (Int.toNat d.1.2.2)) d.2.1) λaj=>opt (cD aj.1 aj.1) λaI=>opt (wc 2 (λj=>bif Nat.beq j 1 then aI.1 else bif Nat.beq j 0 then d.2.2.2.1 else d.2.2.2.1) (λj=>bif Nat.beq j 1 then aI.2 else bif Nat.beq j 0 then d.2.2.2.2 else d.2.2.2.2) true) λbz=>ret (Sum.inl ((d.1.1,d.1.2.1,wI (d.1.2.2+1)),aj.2,d.2.2.1,bz.1))) no) (ret (Sum.inr ((d.1.1,d.1.2.1,d.1.2.2,y0),d.2)))
def Qj:=bD (Bm aQ eR jk) 2000
def ZA (IL:XO)(dG:LT tv Hj)(x0:Nat)(x1:Bool)(x2:Nat->Int)(w0:Bool):Pg anY:=let y0:=if 64<Int.ofNat x0 then 64 else Int.ofNat x0;let y1:=Int.toNat y0;ae (IF y0 x0) (opt (dG (((y1,w0&&false),Int.ofNat y1,0),x1,(x0,x2),0,0)) λd=>opt (IL d.2.2.2.1 d.2.2.2.2 d.2.1) λd=>ret d) no
def fL:=λx0 x1 x2 w0=>(ZA v8 Qj x0 x1 x2 w0).val
abbrev N3:=bG×mG×qf×XO×(LT tv Hj)
def ZB (p:N3):KK:=⟨[cV p.1,vV p.2.1,IP p.b.1,ai0 p.b.2.1],⟨[⟨3,(rg 1 4 (rg 6 6 (rg 15 19 []))),[]⟩],[fx 3 2 tv age p.c],[0],[],(some ⟨0,(rg 0 4 (rg 5 29 [])),[]⟩)⟩,2,135⟩
theorem avl (p:N3):LI (ZB p) 3 tv age (Bm p.1 p.2.1 p.b.1):=λ_ d c K=>by kernel_rfl
theorem aDY (p:N3):D2 (ZB p) anX (lf Uc) λb=>ZA p.b.2.1 p.c b.1.1 b.2.1 b.b b.1.2:=λb=>by kernel_rfl
abbrev ZC:N3:=(aQ,eR,jk,v8,Qj)
theorem N4 [ax]:SC (Gu fL):=sc (Sound.nil 1 [.i .i64]<|kS (k:=ZB ZC) (.c cZ (.c zt (.c OH (.c aw4 (.nil _))))) [3] [] ⟨kL (avl ZC),trivial⟩ trivial (aDY ZC))
def axe:=qa (pr (cu aP Ft) bA)
def aec:=qe oS
abbrev axf:=aec.B
abbrev zw:=Int->Int->Int->Bool->Option axf
def OM (g:zw):Ct:=(158,FC axe (lf aec) (λb=>g b.1.1 b.1.2.1 b.1.b b.2))
def ajd (jf:xc)(x0:Int)(x1:Int)(x2:Int)(x3:Bool):Pg axf:=opt (jf 3 x3 (cr x0 [x2,x1,x0]) false) λd=>ret d
def ot:=λx0 x1 x2 x3=>(ajd fL x0 x1 x2 x3).val
theorem aJ4:∀jf,D0 [Gu jf] 158 axe (lf aec) λb=>ajd jf b.1.1 b.1.2.1 b.1.b b.2:=λ_ b=>by kernel_rfl
theorem XT [ax]:SC (OM ot):=s0 (.c N4 (.nil _)) (aJ4 fL)
def aB2:=qa (pr (cu aP Ft) bA)
def aje:=qe auB
abbrev aB3:=aje.B
abbrev Mv:=Int->Int->Int->Bool->Option aB3
def aed (g:Mv):Ct:=(211,FC aB2 (lf aje) (λb=>g b.1.1 b.1.2.1 b.1.b b.2))
def ap3 (aw:bG)(x0:Int)(x1:Int)(x2:Int)(x3:Bool):Pg aB3:=opt (aw x0 x3) λd=>opt (aw x1 d.2) λaj=>opt (aw x2 aj.2) λaI=>ret ((d.1,aj.1,aI.1),aI.2)
def zX:=λx0 x1 x2 x3=>(ap3 aQ x0 x1 x2 x3).val
theorem aNt:∀aw,D0 [cV aw] 211 aB2 (lf aje) λb=>ap3 aw b.1.1 b.1.2.1 b.1.b b.2:=λ_ b=>by kernel_rfl
theorem ap4 [ax]:SC (aed zX):=s0 (.c cZ (.nil _)) (aNt aQ)
def axg:=qa (pr (cu aP apA) bA)
def aee:=qe auC
abbrev axh:=aee.B
abbrev ON:=Int->Int->Int->Int->Bool->Option axh
def XU (g:ON):Ct:=(134,FC axg (lf aee) (λb=>g b.1.1 b.1.2.1 b.1.b.1 b.1.b.2 b.2))
def nE:=qs (st (pr (cu aP (us 2 (cu am4 (cu awq (us 1 aRg))))) (pl (c cj (cl uX (cu aic nil))) cA)))
def anZ:=qs (st (pr (cu aP (us 2 (cu am4 (cu awq (us 1 (c ai (cl ab (us 10 nil)))))))) (pl (c cj (cl uX (cu aic nil))) cA)))
abbrev BS:=anZ.B
def an0 {ρ:Type}:=@ef BS ((.ex 0)) anZ ρ
def ZD (aw:bG)(d:nE.B):PL nE BS:=let n1:=d.2.2;let n3:=n1.2.1;let n2:=n1.2.2;let y0:=aX d.1 4;let y1:=d.1==3;let y2:=d.1==2;let y3:=d.1==1;let y4:=wI (d.1+1);let y5:=decide (d.1<4);ae y5 (ae y0 (ae y1 (opt (aw n2.2 d.2.1) λaj=>ae y0 (ae y1 (ret (Sum.inl (y4,aj.2,n1.1,n3,n2.1,aj.1))) (ae y2 (ret (Sum.inl (y4,aj.2,n1.1,n3,aj.1,n2.2))) (ae y3 (ret (Sum.inl (y4,aj.2,n1.1,aj.1,n2))) (ret (Sum.inl (y4,aj.2,aj.1,n1.2)))))) no) (ae y2 (opt (aw n2.1 d.2.1) λaj=>ae y0 (ae y1 (ret (Sum.inl (y4,aj.2,n1.1,n3,n2.1,aj.1))) (ae y2 (ret (Sum.inl (y4,aj.2,n1.1,n3,aj.1,n2.2))) (ae y3 (ret (Sum.inl (y4,aj.2,n1.1,aj.1,n2))) (ret (Sum.inl (y4,aj.2,aj.1,n1.2)))))) no) (ae y3 (opt (aw n3 d.2.1) λaj=>ae y0 (ae y1 (ret (Sum.inl (y4,aj.2,n1.1,n3,n2.1,aj.1))) (ae y2 (ret (Sum.inl (y4,aj.2,n1.1,n3,aj.1,n2.2))) (ae y3 (ret (Sum.inl (y4,aj.2,n1.1,aj.1,n2))) (ret (Sum.inl (y4,aj.2,aj.1,n1.2)))))) no) (opt (aw n1.1 d.2.1) λaj=>ae y0 (ae y1 (ret (Sum.inl (y4,aj.2,n1.1,n3,n2.1,aj.1))) (ae y2 (ret (Sum.inl (y4,aj.2,n1.1,n3,aj.1,n2.2))) (ae y3 (ret (Sum.inl (y4,aj.2,n1.1,aj.1,n2))) (ret (Sum.inl (y4,aj.2,aj.1,n1.2)))))) no)))) no) (ret (Sum.inr ((d.1,y5),d.2)))
def ZE:=bD (ZD aQ) 2000
def ajf (dG:LT nE BS)(x0:Int)(x1:Int)(x2:Int)(x3:Int)(x4:Bool):Pg axh:=opt (dG (0,x4,x0,x1,x2,x3)) λd=>ret (d.2.2,d.2.1)
def we:=λx0 x1 x2 x3 x4=>(ajf ZE x0 x1 x2 x3 x4).val
abbrev XV:=bG×(LT nE BS)
def ajg (p:XV):KK:=⟨[cV p.1],⟨[⟨2,(1::2::5::rg 7 11 []),[]⟩],[fx 2 1 nE an0 p.2],[0],[],(some ⟨0,(rg 0 4 (rg 5 13 [])),[]⟩)⟩,1,134⟩
theorem aB4 (p:XV):LI (ajg p) 2 nE an0 (ZD p.1):=λ_ d c K=>by kernel_rfl
theorem aJ5 (p:XV):D2 (ajg p) axg (lf aee) λb=>ajf p.2 b.1.1 b.1.2.1 b.1.b.1 b.1.b.2 b.2:=λb=>by kernel_rfl
abbrev ajh:XV:=(aQ,ZE)
theorem aji [ax]:SC (XU we):=sc (kS (k:=ajg ajh) (.c cZ (.nil _)) [2] [] ⟨kL (aB4 ajh),trivial⟩ trivial (aJ5 ajh))
def axi:=qa (pu nil nil)
def aef:=qe (res (pu (aa (cu auu apB)) (pu nil nil)))
abbrev ajj:=aef.B
abbrev zy:=Option ajj
def IT (g:zy):Ct:=(84,FC axi (lf aef) (λ_=>g))
def ajk:Pg ajj:=ret ()
def mJ:Option ajj:=(ajk).val
theorem aJ6:D0 [] 84 axi (lf aef) λb=>ajk:=λb=>by kernel_rfl
theorem OO [ax]:SC (IT mJ):=s0 (.nil _) aJ6
def ar9:=qa (pl apA nil)
def ZF:=qe aR4
abbrev asa:=ZF.B
abbrev J5:=Int->Int->Int->Int->Option asa
def aeg (g:J5):Ct:=(182,FC ar9 (lf ZF) (λb=>g b.1 b.2.1 b.b.1 b.b.2))
def aeh (ou:ON)(x0:Int)(x1:Int)(x2:Int)(x3:Int):Pg asa:=opt (ou x0 x1 x2 x3 false) λd=>ret (d.1.1,wI (0-d.1.2.1),wI (0-d.1.2.2.1),wI (0-d.1.2.2.2))
def zY:=λx0 x1 x2 x3=>(aeh we x0 x1 x2 x3).val
theorem aHg:∀ou,D0 [XU ou] 182 ar9 (lf ZF) λb=>aeh ou b.1 b.2.1 b.b.1 b.b.2:=λ_ b=>by kernel_rfl
theorem asb [ax]:SC (aeg zY):=s0 (.c aji (.nil _)) (aHg we)
def an1:=qa (pl ac8 nil)
def Ud:=qe aRY
abbrev an2:=Ud.B
abbrev kD:=NI->Int->Option an2
def pH (g:kD):Ct:=(154,FC an1 (lf Ud) (λb=>g b.1 b.2))
def kK:=qs (st (pr (us 1 (c ai (cu awr (us 1 (cu aIO (cu Xm (us 2 aLC))))))) (pl (c mA aid) nil)))
def agf:=qs (st (pr (us 1 (c ai (cu awr (us 1 (cu aIO (cu Xm (us 2 aGh))))))) (pl (c mA aid) nil)))
abbrev vH:=agf.B
def agh {ρ:Type}:=@ef vH ((.ex 0)) agf ρ
def Qk (d:kK.B):PL kK vH:=let n4:=d.2.2;let n3:=d.2.1;let n2:=d.1.1;let n1:=d.1.2;let y0:=wI (n2+n1);let y1:=decide (n1<3);ae y1 (ae (decide (y0>=0)) (ae (decide (y0<24)) (ae (aX y0 24) (ae (aX n1 3) (ae (n1==2) (ret (Sum.inl ((n2,wI (n1+1)),n3,n4.1,n4.2.1,n3 (Int.toNat y0)))) (ae (n1==1) (ret (Sum.inl ((n2,wI (n1+1)),n3,n4.1,n3 (Int.toNat y0),n4.2.2))) (ret (Sum.inl ((n2,wI (n1+1)),n3,n3 (Int.toNat y0),n4.2))))) no) no) (ret (Sum.inl ((n2,wI (n1+1)),d.2)))) (ret (Sum.inl ((n2,wI (n1+1)),d.2)))) (ret (Sum.inr ((n2,n1,y1),d.2)))
def Ql:=bD (Qk) 2000
def ZG (dG:LT kK vH)(x0:Nat->Int)(x1:Int):Pg an2:=opt (dG ((x1,0),x0,0,0,0)) λd=>ret d.2.2
def ec:=λx0 x1=>(ZG Ql x0 x1).val
abbrev N5:=(LT kK vH)
def ZH (p:N5):KK:=⟨[],⟨[⟨3,(0::3::6::7::rg 9 8 (rg 19 8 [17,18])),[]⟩],[fx 3 0 kK agh p],[],[],(some ⟨0,(rg 0 4 (rg 5 22 [])),[]⟩)⟩,0,154⟩
theorem avm (p:N5):LI (ZH p) 3 kK agh (Qk):=λ_ d c K=>by kernel_rfl
theorem aDZ (p:N5):D2 (ZH p) an1 (lf Ud) λb=>ZG p b.1 b.2:=λb=>by kernel_rfl
abbrev ZI:N5:=Ql
theorem sZ [ax]:SC (pH ec):=sc (kS (k:=ZH ZI) (.nil _) [3] [] ⟨kL (avm ZI),trivial⟩ trivial (aDZ ZI))
def an3:=qa (dp (c jX aRJ) λa=>(cl (cl (gs a.b.1 mF) nil) nil))
def Ue:=qe aR5
abbrev ZJ:=Ue.B
abbrev xd:=NI->Int->Nat->NI->Bool->Option ZJ
def BT (g:xd):Ct:=(32,sW 2 [.i .i64] (FC an3 (lf Ue) (λb=>g b.1.1 b.1.2.1 b.1.b.1 b.2 b.1.b.2)))
def kM:=qs (st (dp (us 1 (c ai (c Ts (cu RH (us 2 (cu Cw (us 3 (c Ts (c ai aLC))))))))) λa=>(pl (c (so (cl (gs a.2.1.1 mF) nil)) L6) nil)))
def ay7:=qs (st (pr (us 1 (c ai (c Ts (cu RH (us 2 (cu Cw (us 3 (c Ts (c ai aGh))))))))) (pl (c HL L6) nil)))
abbrev vI:=(aQ2×NI×NI×NI)
def agi {ρ:Type}(x:vI)(K:AX->St->Option ρ):Option ρ:=(λd=>K (.ex 0) (ay7.em (d.1,(d.1.2.1.1,d.2.1),d.b))) x
def Qm (d:kM.B):PL kM vI:=let n2:=d.1.2.2;let n3:=n2.2.2;let n1:=(d.1.1,d.1.2.1,n2.1,n2.2.1,wI (n3+1));let y0:=wI (d.1.1+n3);let y1:=Int.toNat y0;let y2:=decide (n3<n2.2.1);ae y2 (ae (aX n3 n2.1.1) (ae (decide (y0>=0)) (ae (decide (y0<24)) (ae (aX y0 24) (ae (true&&Nat.ble (0+y1*1+1) 24) (ret (Sum.inl (n1,d.2.1,λj=>bif Nat.beq j y1 then d.2.1 (Int.toNat n3) else d.2.2.1 j,d.2.2.2))) no) no) (ret (Sum.inl (n1,d.2)))) (ret (Sum.inl (n1,d.2)))) no) (ret (Sum.inr ((d.1.1,d.1.2.1,n2.1,n2.2.1,n3,y2),d.2)))
def Qn:=bD (Qm) 2000
def ZK (dG:LT kM vI)(x0:Nat->Int)(x1:Int)(x2:Nat)(x3:Nat->Int)(w0:Bool):Pg ZJ:=ae (Nat.beq x2 x2) (opt (dG ((x1,(x2,w0),(x2,w0),Int.ofNat x2,0),x3,x0,λx=>0)) λd=>ret d.2.2.1) no
def fM:=λx0 x1 x2 x3 w0=>(ZK Qn x0 x1 x2 x3 w0).val
abbrev N6:=(LT kM vI)
def ZL (p:N6):KK:=⟨[],⟨[⟨2,(0::4::5::7::8::9::rg 13 10 (rg 25 6 [23,24])),[]⟩],[fx 2 1 kM agi p],[],[],(some ⟨0,(rg 0 6 (rg 7 24 [])),[]⟩)⟩,1,32⟩
theorem avn (p:N6):LI (ZL p) 2 kM agi (Qm):=λ_ d c K=>by kernel_rfl
theorem aD0 (p:N6):D2 (ZL p) an3 (lf Ue) λb=>ZK p b.1.1 b.1.2.1 b.1.b.1 b.2 b.1.b.2:=λb=>by kernel_rfl
abbrev ZM:N6:=Qn
theorem Gv [ax]:SC (BT fM):=sc (Sound.nil 2 [.i .i64]<|kS (k:=ZL ZM) (.nil _) [2] [] ⟨kL (avn ZM),trivial⟩ trivial (aD0 ZM))
end Go.Proofs.YtldgljclcgaibaaGreat
