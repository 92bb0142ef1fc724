/-
  Parts of the proof: SLC SLD SLE SLF SLH Q1
-/
import Derived.Test.YtcmfbkneahoonaaGreatZAE
set_option linter.unusedVariables false
set_option linter.unusedSimpArgs false
namespace Go.Ab
def eC (l:List (Nat->Int)):List cC:=l.map (cC.i .i64)
def IE (i:Nat)(g v:Nat->Int):Nat->Int:=λj=>cond (Nat.blt j i) (g j) (cond (Nat.beq j i) (v 0) (g (j-1)))
def OB (i d:Nat)(g:Nat->Int):Nat->Int:=λj=>cond (Nat.blt j i) (g j) (g (j+d))
theorem zf {l:List (Nat->Int)}(h:l.length=9)(J:Nat):∃g,l[J%9]? =some g∧gL (eC l) J=.f (.i .i64 (g (J/9))):=by
 have mb:J%9<l.length:=by rw[h];exact Nat.mod_lt _ (by omega)
 refine⟨l[J%9],List.getElem?_eq_getElem mb,?_⟩
 unfold gL eC
 rw[List.length_map,h,List.getElem?_map,List.getElem?_eq_getElem mb]
 rfl
theorem aPd {l m:List (Nat->Int)}(hl:l.length=9)(hm:m.length=9)(i J:Nat):
  gL (eC (List.zipWith (IE i) l m)) J=if J<i*9 then gL (eC l) J else if J<(i+1)*9 then gL (eC m) (J-i*9) else gL (eC l) (J-9):=by
 obtain⟨g,hg,eg⟩:=zf hl J
 obtain⟨v,hv,_⟩:=zf hm J
 obtain⟨z,hz,ez⟩:=zf (l:=List.zipWith (IE i) l m) (by simp[hl,hm]) J
 have hz2:(List.zipWith (IE i) l m)[J%9]? =some (IE i g v):=by simp[List.getElem?_zipWith,hg,hv]
 rw[hz2] at hz;cases hz
 rw[ez]
 by_cases h1:J<i*9
 ·rw[if_pos h1,eg]
  have:Nat.blt (J/9) i=true:=rK.2 (by omega)
  simp only[IE,this,cond_true]
 ·rw[if_neg h1]
  have e1:Nat.blt (J/9) i=false:=adr (by omega)
  by_cases h2:J<(i+1)*9
  ·rw[if_pos h2]
   have e2:Nat.beq (J/9) i=true:=beq_iff.2 (by omega)
   obtain⟨v',hv',ev⟩:=zf hm (J-i*9)
   have e3:(J-i*9)%9=J%9:=by omega
   have e4:(J-i*9)/9=0:=by omega
   rw[e3,hv] at hv';cases hv'
   rw[ev,e4]
   simp only[IE,e1,e2,cond_true,cond_false]
  ·rw[if_neg h2]
   have e2:Nat.beq (J/9) i=false:=beq_false (by omega)
   obtain⟨g',hg',ev⟩:=zf hl (J-9)
   have e3:(J-9)%9=J%9:=by omega
   have e4:(J-9)/9=J/9-1:=by omega
   rw[e3,hg] at hg';cases hg'
   rw[ev,e4]
   simp only[IE,e1,e2,cond_false]
theorem aFo {l:List (Nat->Int)}(hl:l.length=9)(i d J:Nat):
  gL (eC (l.map (OB i d))) J=if J<i*9 then gL (eC l) J else gL (eC l) (J+d*9):=by
 obtain⟨g,hg,eg⟩:=zf hl J
 obtain⟨z,hz,ez⟩:=zf (l:=l.map (OB i d)) (by simp[hl]) J
 have hz2:(l.map (OB i d))[J%9]? =some (OB i d g):=by simp[hg]
 rw[hz2] at hz;cases hz
 rw[ez]
 by_cases h1:J<i*9
 ·rw[if_pos h1,eg]
  have:Nat.blt (J/9) i=true:=rK.2 (by omega)
  simp only[OB,this,cond_true]
 ·rw[if_neg h1]
  have e1:Nat.blt (J/9) i=false:=adr (by omega)
  obtain⟨g',hg',ev⟩:=zf hl (J+d*9)
  have e3:(J+d*9)%9=J%9:=by omega
  have e4:(J+d*9)/9=J/9+d:=by omega
  rw[e3,hg] at hg';cases hg'
  rw[ev,e4]
  simp only[OB,e1,cond_false]
theorem OC {l:List (Nat->Int)}(h:l.length=9)(n:Nat):af.size [.a (.s n) (eC l)]=n*9:=by
 rw[af.size_cons,af.jP,Sg.jR,Nat.add_zero]
 show n*(eC l).length=n*9
 unfold eC;rw[List.length_map,h]
theorem ap3 {l:List (Nat->Int)}(h:l.length=9){n j:Nat}(hj:j<n*9):af.get [.a (.s n) (eC l)] j=gL (eC l) j:=by
 rw[af.de (by rw[Sg.jR];unfold eC;rw[List.length_map,h];exact hj),Sg.nj]
theorem aJz [ax]{π:Pi}{w:World}{B s N:Nat}{c:Nat->CV}(h:∀j,j<N->∃v,cl w B (s+j)=some v∧(c j).rel π v):
  ∃cs:List Value,cs.length=N∧(∀j v,cs[j]? =some v->w.cell? ⟨B,s+j,none⟩=some v∧(c j).rel π v)∧∀v∈cs,v.oneCell'=true:=by
 have key:∀j v,((List.range N).map λj=>(cl w B (s+j)).getD undef)[j]? =some v->w.cell? ⟨B,s+j,none⟩=some v∧(c j).rel π v:=λj v hv=>by
  have hj:j<N:=by
   have:=(List.getElem?_eq_some_iff.1 hv).1;simpa using this
  obtain⟨u,hu,hr⟩:=h j hj
  simp[hj,hu] at hv
  subst hv
  exact⟨hu,hr⟩
 refine⟨(List.range N).map λj=>(cl w B (s+j)).getD undef,by simp,key,λv hv=> ?_⟩
 obtain⟨i,hi⟩:=List.mem_iff_getElem?.1 hv
 exact CV.Oy (key i v hi).2
theorem aFp {w:World}{B i:Nat}{v:Value}(h:w.cell? ⟨B,i,none⟩=some v):∃t k,w.shape? B=some (t,k)∧k≠0:=by
 unfold World.cell? at h
 simp only at h
 cases hh:w.heap[B]? with
 |none=>rw[hh] at h;cases h
 |some x=>
  rw[hh] at h
  cases x<;>simp only at h<;>first|(cases h;done)|skip
  rename_i cs t fz
  have:=(Array.getElem?_eq_some_iff.1 h).1
  refine⟨t,cs.size,?_,by omega⟩
  simp[World.shape?,hh]
end Go.Ab
namespace Go.Ab
variable [ax]
theorem XD {P:Program}{π:Pi}{w W:World}{h:List af}{cs:List Ch}{out:List (Nat->Int)}{n cap B st q e b0:Nat}(ho:out.length=9)(hH:pY π (hC (h.map some)) (hZ (h.map some)) w)(iT:∀b,π b≠none->b<h.length)
  (HM:∀b,b<h.length->cs[b]? =some .kU∨cs[b]? =some .kill)(Oz:b0<h.length)(hk0:cs[b0]? =some .kill)(hp:π b0=some (B,st,q,e))(hfr:bU w (A' π h.length (P5 cs)) W)
  (og:∀i,st<=i->i<e->(cl W B i).isSome=true∧fz W B i=false)(ham:yd W)(hc:∀J,J<n*9->∃v,cl W B (st+J)=some v∧(gL (eC out) J).rel π v)(hn:n<=cap)(hce:st+cap*9<=e):
  aFk P π w h ⟨.r (.c (.sl h.length (.k 0) (.s n) 9 true)),cs,[[.a (.s n) (eC out)]]⟩ (.returned (.slice (some ⟨B,st,none⟩) n cap)) W:=by
 have vQ:=OC ho n
 have Lv:hZ (h.map some) b0≠none:=by rw[NM,List.getElem?_eq_getElem Oz];simp
 have kV:n*9<=cap*9:=Nat.mul_le_mul_right _ hn
 refine avc (P:=P) (B:=B) (s:=st) (e:=e) hH iT HM hfr (by rw[vQ];omega) og (λj hj=> ?_) (.inr ⟨b0,st,q,e,Oz,hk0,hp,Nat.le_refl _,Nat.le_refl _⟩) ham (λzb=>hH.lb b0 B st q e Lv hp zb) λπ' hx rT=> ?_
 ·rw[vQ] at hj
  rw[ap3 ho hj];exact hc j hj
 ·rw[vQ] at rT
  exact⟨B,st,n*9,e,rT,by simp[ch.val,Sz.val],λ_=>by simp[ch.val,Sz.val],.inr ⟨cap,hn,rfl,λ_=>by simpa[ch.val] using hce⟩⟩
theorem aiL {P:Program}{π:Pi}{w W:World}{h:List af}{cs:List Ch}{out:List (Nat->Int)}{n cap B:Nat}(ho:out.length=9)(hH:pY π (hC (h.map some)) (hZ (h.map some)) w)(iT:∀b,π b≠none->b<h.length)
  (HM:∀b,b<h.length->cs[b]? =some .kU∨cs[b]? =some .kill)(hB:w.heap.size<=B)(hfr:bU w (A' π h.length (P5 cs)) W)
  (og:∀i,i<cap*9->(cl W B i).isSome=true∧fz W B i=false)(ham:yd W)(hc:∀J,J<n*9->∃v,cl W B J=some v∧(gL (eC out) J).rel π v)(hn:n<=cap):
  aFk P π w h ⟨.r (.c (.sl h.length (.k 0) (.s n) 9 true)),cs,[[.a (.s n) (eC out)]]⟩ (.returned (.slice (some ⟨B,0,none⟩) n cap)) W:=by
 have vQ:=OC ho n
 have kV:n*9<=cap*9:=Nat.mul_le_mul_right _ hn
 refine avc (P:=P) (B:=B) (s:=0) (e:=cap*9) hH iT HM hfr (by rw[vQ];omega) (λi _ hi=>og i hi) (λj hj=> ?_) (.inl hB) ham (λzb=>Nat.le_trans hH.am.sz hB) λπ' hx rT=> ?_
 ·rw[vQ] at hj
  rw[ap3 ho hj,Nat.zero_add];exact hc j hj
 ·rw[vQ] at rT
  exact⟨B,0,n*9,cap*9,rT,by simp[ch.val,Sz.val],λ_=>by simp[ch.val,Sz.val],.inr ⟨cap,hn,rfl,λ_=>by simp[ch.val]⟩⟩
theorem aiM {P:Program}{π:Pi}{w W:World}{h:List af}{cs:List Ch}{out:List (Nat->Int)}{a:Option Addr}(ho:out.length=9)(hH:pY π (hC (h.map some)) (hZ (h.map some)) w)(iT:∀b,π b≠none->b<h.length)
  (HM:∀b,b<h.length->cs[b]? =some .kU∨cs[b]? =some .kill)(hfr:bU w (A' π h.length (P5 cs)) W)(ham:yd W):
  aFk P π w h ⟨.r (.c (.sl h.length (.k 0) (.s 0) 9 true)),cs,[[.a (.s 0) (eC out)]]⟩ (.returned (.slice a 0 0)) W:=by
 have vQ:=OC ho 0
 refine avc (P:=P) (B:=w.heap.size) (s:=0) (e:=0) hH iT HM hfr (by rw[vQ];omega) (λi _ hi=>by omega) (λj hj=>by rw[vQ] at hj;omega) (.inl (Nat.le_refl _)) ham (λzb=>by omega) λπ' hx rT=> ?_
 rw[vQ] at rT
 exact⟨w.heap.size,0,0*9,0,rT,by simp[ch.val,Sz.val],λ_=>by simp[ch.val,Sz.val],.inl ⟨rfl,a,rfl⟩⟩
theorem aAp {π:Pi}{w:World}{h:List af}{l:List (Nat->Int)}{n b B st q e:Nat}(hl:l.length=9)(hH:pY π (hC (h.map some)) (hZ (h.map some)) w)(hb:h[b]? =some [.a (.s n) (eC l)])(hp:π b=some (B,st,q,e)):
  q=n*9∧st+n*9<=e∧(∀i,st<=i->i<e->(cl w B i).isSome=true∧fz w B i=false)∧∃cs:List Value,cs.length=n*9∧(∀j v,cs[j]? =some v->w.cell? ⟨B,st+j,none⟩=some v∧(gL (eC l) j).rel π v)∧∀v∈cs,v.oneCell'=true:=by
 have hz:hZ (h.map some) b=some (n*9):=by rw[NM,hb];exact congrArg some (OC hl n)
 obtain⟨B',s',e',eA,zb,k1,k2⟩:=hH.hp b _ hz
 rw[hp] at eA;cases eA
 refine⟨rfl,zb,k1,aJz λj hj=> ?_⟩
 obtain⟨v,hv,hr⟩:=k2 j hj
 rw[aAn hb (by rw[OC hl];exact hj),ap3 hl hj] at hr
 exact⟨v,hv,hr⟩
end Go.Ab
namespace Go.Proofs.YtcmfbkneahoonaaGreat
open Go.RowKit Go.Lib Go.Ab
variable [ax]
omit [ax] in
theorem ap4 {P:Program}(w:World)(tS tR e:TypeId)(ht:P.underlying tS=some (.slice e))(size:Nat)(hz:∀w,(Go.sizeOf e).run P w=.ok size w)(B oa ob la ca lb cb:Nat)(hd:oa+la*size<=ob∨ob+lb*size<=oa):
  (Extern.SlicesOverlaps.overlaps #[tS,tS] #[tR] #[.slice (some ⟨B,oa,none⟩) la ca,.slice (some ⟨B,ob,none⟩) lb cb]).run P w=.ok (.bool false) w:=by
 change Sem.run P (α:=Value) (do
  let some t:=(#[tS,tS]:Array TypeId)[0]? |stuck "slices.overlaps: no parameter types"
  let .slice elem<-underlying t|stuck "slices.overlaps: slice type expected"
  let size<-sizeOf elem
  match(some ⟨B,oa,none⟩:Option Addr),(some ⟨B,ob,none⟩:Option Addr) with
  |some a,some b=>
   if la=0∨lb=0∨size=0 then pure (Value.bool false)
   else if a.block !=b.block&&(<-frozen a)&&(<-frozen b) then unsupported .addressObserved
   else do
    if a.block !=b.block then do
     noView a;noView b
     if<-mayBeOne a b then return Value.bool ((<-choose (.extern "sameAddr.stringBytes" 2))==1)
    pure (Value.bool (a.block==b.block&&a.off<b.off+lb*size&&b.off<a.off+la*size))
  |_,_=>pure (Value.bool false)) w=_
 by_cases h0:la=0∨lb=0∨size=0
 ·simp[run_underlying ht,hz,h0]
 ·simp[run_underlying ht,hz,h0,frozen,Sem.run]
  omega
omit [ax] in
theorem aGV {w:World}{vb Bc vc b o lb cb:Nat}(hd:vb=b->Bc+9<=o∨o+lb*9<=Bc){va vb2:Value}(ha:w.cell? ⟨vb,Bc,none⟩=some va)(hb:w.cell? ⟨b,o,none⟩=some vb2)(hfa:∀i,w.frozen? ⟨vb,i,none⟩=false):
  (callFunc 162 #[.slice (some ⟨vb,Bc,none⟩) 1 vc,.slice (some ⟨b,o,none⟩) lb cb]).run Tryz.prog w=.ok (.value (.bool false)) w:=by
 rw[run_callFunc_extern Tryz.func162 (by kernel_rfl) (by kernel_rfl) (by kernel_rfl) (e:=Extern.SlicesOverlaps.overlaps #[130,130] #[4]) (by kernel_rfl)]
 obtain⟨tA,kA,sA,_⟩:=aFp ha
 obtain⟨tB,kB,sB,nB⟩:=aFp hb
 by_cases kV:vb=b
 ·subst kV
  have h2:=hd rfl
  rw[ap4 w 130 4 78 uT 9 (λw=>Ab.run_sizeOf uE w) vb Bc o 1 vc lb cb (by omega)]
  rfl
 ·rw[Lib.run_overlaps_apart w 130 4 78 uT 9 (λw=>Ab.run_sizeOf uE w) ⟨vb,Bc,none⟩ ⟨b,o,none⟩ 1 vc lb cb kV tA tB kA kB sA sB nB (hfa Bc) (hfa kA)]
  rfl
end Go.Proofs.YtcmfbkneahoonaaGreat
set_option maxRecDepth 100000
set_option maxHeartbeats 4000000
namespace Go.Proofs.YtcmfbkneahoonaaGreat
open Go.RowKit Go.Lib Go.Ab
theorem aDA [ax]{gs vs9:List (Nat->Int)}(hg:gs.length=9)(hv9:vs9.length=9)(n i:Nat)(hi:i<=n)(awK:(n+1)*72<=140737488355328)(w2:Bool)(w:World)(π:Pi)(vs:Array Value)
  (jM:bm (AV.rel π) [.r (.c (.sl 0 (.k 0) (.s n) 9 true)),.r (.c (.f (.i .i64 (i:Int)))),.r (.c (.sl 1 (.k 0) (.s 1) 9 w2))] vs.toList)
  (hH:pY π (hC ([[.a (.s n) (eC gs)],[.a (.s 1) (eC vs9)]].map some)) (hZ ([[.a (.s n) (eC gs)],[.a (.s 1) (eC vs9)]].map some)) w)(iT:∀b,π b≠none->b<2):
  Calls Tryz.prog 96 vs w (qQ π w [[.a (.s n) (eC gs)],[.a (.s 1) (eC vs9)]] ⟨.r (.c (.sl 2 (.k 0) (.s (n+1)) 9 true)),[.kill,.kU],[[.a (.s (n+1)) (eC (List.zipWith (IE i) gs vs9))]]⟩):=by
 obtain⟨y1,y2,y3,hvt,r1,r2,r3⟩:∃y1 y2 y3,vs.toList=[y1,y2,y3]∧(AV.r (.c (.sl 0 (.k 0) (.s n) 9 true))).rel π y1∧(AV.r (.c (.f (.i .i64 (i:Int))))).rel π y2∧(AV.r (.c (.sl 1 (.k 0) (.s 1) 9 w2))).rel π y3:=by
  match hl:vs.toList,jM with
  | [y1,y2,y3],⟨a,b,c,_⟩=>exact⟨y1,y2,y3,rfl,a,b,c⟩
  | [],h=>exact h.elim
  | [_],⟨_,h⟩=>exact h.elim
  | [_,_],⟨_,_,h⟩=>exact h.elim
  |_::_::_::_::_,⟨_,_,_,h⟩=>exact h.elim
 have hvt:vs=#[y1,y2,y3]:=by rw[<-Array.toList_inj];exact hvt
 subst hvt
 have r2:y2=.int .i64 (i:Int):=r2
 subst r2
 obtain⟨B,st,q,e,hb,_,_,hx⟩:=r1
 obtain⟨vB,vst,vq,ve,hvb,_,_,hvx⟩:=r3
 obtain⟨rfl,hle,og,cs,B7,HM,h1c⟩:=aAp (b:=0) hg hH rfl hb
 obtain⟨rfl,aZK,aWd,vl,hvl,hvs,h1v⟩:=aAp (b:=1) hv9 hH rfl hvb
 obtain⟨XE,aYK,rfl,_⟩:∃XE,1<=XE∧y3=.slice (some ⟨vB,vst,none⟩) 1 XE∧True:=by
  rcases hvx with⟨h,_⟩| ⟨XE,h1,h2,_⟩
  ·cases h
  ·exact⟨XE,h1,h2,trivial⟩
 have Lv:hZ ([[.a (.s n) (eC gs)],[.a (.s 1) (eC vs9)]].map some) 0≠none:=by simp[hZ]
 have hz1:hZ ([[.a (.s n) (eC gs)],[.a (.s 1) (eC vs9)]].map some) 1≠none:=by simp[hZ]
 have hfv:∀i,w.frozen? ⟨vB,i,none⟩=false:=λi=>hH.am.fr vB i (hH.lb 1 vB vst _ ve hz1 hvb (by omega))
 have ho:(List.zipWith (IE i) gs vs9).length=9:=by simp[hg,hv9]
 have af4:∀b,b< [[Sg.a (.s n) (eC gs)],[.a (.s 1) (eC vs9)]].length->[Ch.kill,Ch.kU][b]? =some .kU∨[Ch.kill,Ch.kU][b]? =some .kill:=λb hb=>by
  match b,hb with
  |0,_=>exact .inr rfl
  |1,_=>exact .inl rfl
  |b+2,h=>exact absurd h (by simp)
 have hft:∀i,st<=i->i<e->A' π 2 (P5 [.kill,.kU]) B i:=λi h1 h2=>⟨0,st,_,e,by omega,by simp[P5],hb,h1,h2⟩
 have cont:∀(W:World) (B' s':Nat),(∀j v,j<i*9->cs[j]? =some v->cl W B' (s'+j)=some v)->(∀j v,vl[j]? =some v->cl W B' (s'+i*9+j)=some v)->(∀j v,i*9<=j->cs[j]? =some v->cl W B' (s'+(j+9))=some v)->
   ∀J,J<(n+1)*9->∃v,cl W B' (s'+J)=some v∧(gL (eC (List.zipWith (IE i) gs vs9)) J).rel π v:=λW B' s' c1 c2 c3 J hJ=>by
  rw[aPd hg hv9]
  by_cases h1:J<i*9
  ·rw[if_pos h1]
   have hj:cs[J]? =some (cs[J]'(by omega)):=List.getElem?_eq_getElem _
   exact⟨_,c1 J _ h1 hj,(HM J _ hj).2⟩
  ·rw[if_neg h1]
   by_cases h2:J<(i+1)*9
   ·rw[if_pos h2]
    have hj:vl[J-i*9]? =some (vl[J-i*9]'(by omega)):=List.getElem?_eq_getElem _
    have:=c2 _ _ hj
    rw[show s'+i*9+(J-i*9)=s'+J by omega] at this
    exact⟨_,this,(hvs _ _ hj).2⟩
   ·rw[if_neg h2]
    have hj:cs[J-9]? =some (cs[J-9]'(by omega)):=List.getElem?_eq_getElem _
    have:=c3 _ _ (by omega) hj
    rw[show s'+(J-9+9)=s'+J by omega] at this
    exact⟨_,this,(HM _ _ hj).2⟩
 have hE:=iE
 obtain⟨i0,z0,hi0,hzz,aXA,aS7,aXB⟩:=hE
 have aS8:(Tryz.prog.info? 78).map (·.bytes)=some 72:=by rw[hi0];exact congrArg some aS7
 obtain⟨zv,hzv,aS9⟩:∃zv,ya Tryz.prog 78=some zv∧af.size zv.bK=9:=by
  have h:(ya Tryz.prog 78).map (λz=>af.size z.bK)=some 9:=by kernel_rfl
  cases hz:ya Tryz.prog 78 with
  |none=>rw[hz] at h;cases h
  |some z=>rw[hz] at h;exact⟨z,rfl,by simpa using h⟩
 have apY:∀(base:Option Addr) (cap:Nat) (E6:List Value),i=n->E6=cs->cap<n+1->n<=cap->((base=none∧n=0∧cap=0)∨∃b,base=some b∧∀j v,E6[j]? =some v->w.cell? (b.add j)=some v)->
   y1=.slice base n cap->Calls Tryz.prog 96 #[y1,.int .i64 (i:Int),.slice (some ⟨vB,vst,none⟩) 1 XE] w (qQ π w [[.a (.s n) (eC gs)],[.a (.s 1) (eC vs9)]] ⟨.r (.c (.sl 2 (.k 0) (.s (n+1)) 9 true)),[.kill,.kU],[[.a (.s (n+1)) (eC (List.zipWith (IE i) gs vs9))]]⟩):=by
  intro base cap E6 hin holds px aYL hs hy
  subst hin holds
  obtain⟨gc,arr,mw,hgc,vQ,rest,adF⟩:∃gc arr,(∀ty,(Builtin.append_ #[130,130] ty #[.slice base i cap,.slice (some ⟨vB,vst,none⟩) 1 XE]).run Tryz.prog w=.ok (.slice (some ⟨w.heap.size,0,none⟩) (i+1) gc) (w.drew.alloc (.cells arr 78)))∧i+1<=gc∧arr.size=gc*9∧∃rest,arr.toList=E6++vl++rest:=by
   obtain⟨gc,arr,mw,h2,h3,h4⟩:=G0 (P:=Tryz.prog) (ty:=0) uT uE aS8 hzv aS9 (by omega) (sv:=.slice base i cap) (n:=i) (cap:=cap) (m:=1) (c:=XE) (ad:=⟨vB,vst,none⟩) (E6:=E6) (news:=vl) w (by
    rcases hs with⟨rfl,h1,h2⟩| ⟨b,rfl,h3⟩
    ·exact .inl ⟨by rw[h1,h2],h1,h2⟩
    ·exact .inr ⟨b,rfl,h3⟩) B7 (by rw[hvl]) (λj v hj=>by rw[Addr.add_lit];exact(hvs j v hj).1) px (by omega) awK
   exact⟨gc,arr,λty=>by unfold Builtin.append_ at mw ⊢;exact mw,h2,h3,h4⟩
  have hC:=aJy base i cap vB vst XE w _ _ mw
  rw[hy]
  refine Calls.mono hC ?_
  rintro ev W ⟨rfl,rfl⟩
  have aFq:∀j,cl (w.drew.alloc (.cells arr 78)) w.heap.size j=arr[j]? :=λj=>World.cell?_alloc_at (w:=w.drew) arr _ w.heap.size j rfl
  refine aiL (P:=Tryz.prog) ho hH iT af4 (Nat.le_refl _) (((bU.refl w _).drew).alloc _ _) (λk hk=>⟨by rw[aFq,Array.getElem?_eq_getElem (by omega)];rfl,World.frozen?_alloc_at (w:=w.drew) arr _ w.heap.size k rfl⟩) ((hH.am.same (w':=w.drew) rfl).alloc _ _) (λJ hJ=> ?_) hgc
  have:=cont (w.drew.alloc (.cells arr 78)) w.heap.size 0 (λj v hj hv=>by rw[Nat.zero_add,aFq];exact(Te adF).1 hv) (λj v hv=>by rw[Nat.zero_add,aFq,<-B7];exact(Te adF).2 hv) (λj v hj hv=>by have:=(List.getElem?_eq_some_iff.1 hv).1;omega) J hJ
  rwa [Nat.zero_add] at this
 rcases hx with⟨h0,a,rfl⟩| ⟨cap,px,rfl,hce⟩
 ·
  have h0:n=0:=h0
  subst h0
  have aXC:i=0:=by omega
  subst aXC
  cases a with
  |none=>exact apY none 0 cs rfl rfl (by omega) (by omega) (.inl ⟨rfl,rfl,rfl⟩) rfl
  |some b=>
   have aXD:cs=[]:=List.eq_nil_of_length_eq_zero (by omega)
   exact apY (some b) 0 cs rfl rfl (by omega) (by omega) (.inr ⟨b,rfl,λj v hj=>by rw[aXD] at hj;simp at hj⟩) rfl
 ·have px:n<=cap:=px
  have hce:st+cap*9<=e:=by have:=hce rfl;simpa[ch.val] using this
  show Calls Tryz.prog 96 #[.slice (some ⟨B,st,none⟩) n cap,.int .i64 (i:Int),.slice (some ⟨vB,vst,none⟩) 1 XE] w _
  by_cases P4:n+1<=cap
  ·have aYw:(n+1)*9<=cap*9:=Nat.mul_le_mul_right _ P4
   have aSE:vB=B->vst+9<=st∨st+(n+1)*9<=vst:=λh=>by
    subst h
    rcases Nat.lt_or_ge vst (st+(n+1)*9) with h1|h1
    ·left
     rcases Nat.lt_or_ge st (vst+9) with h2|h2
     ·exfalso
      rcases Nat.lt_or_ge st vst with h3|h3
      ·exact hH.dj 0 1 _ st _ e vst _ ve (by omega) Lv hz1 hb hvb vst (by omega) (by omega) (Nat.le_refl _) (by omega)
      ·exact hH.dj 0 1 _ st _ e vst _ ve (by omega) Lv hz1 hb hvb st (Nat.le_refl _) (by omega) h3 (by omega)
     ·omega
    ·exact .inr h1
   by_cases hin:i=n
   ·
    subst hin
    have hC:=aJy (some ⟨B,st,none⟩) i cap vB vst XE w _ _ (λty=>JA (P:=Tryz.prog) (ty:=ty) uT uE (B:=B) (q:=st) (n:=i) (cap:=cap) (m:=1) (c:=XE) (ad:=⟨vB,vst,none⟩) (news:=vl) P4 (by rw[hvl]) w (λj v hj=>by rw[Addr.add_lit];exact(hvs j v hj).1) h1v (λj hj=>og _ (by omega) (by omega)))
    refine Calls.mono hC ?_
    rintro ev W ⟨rfl,rfl⟩
    have aVn:∀j,j<vl.length->(cl w B (st+i*9+j)).isSome=true:=λj hj=>(og _ (by omega) (by omega)).1
    refine XD (P:=Tryz.prog) (q:=i*9) ho hH iT af4 (by simp) rfl hb ((bU.refl w _).setCells (.inr λj hj=>hft _ (by omega) (by omega))) (λk k1 k2=>⟨Ab.isSome_setCells aVn (og k k1 k2).1,by rw[ns];exact(og k k1 k2).2⟩) (hH.am.setCells λ_=>hH.lb 0 B st _ e Lv hb (by omega)) (cont _ B st (λj v hj hv=> ?_) (λj v hv=> ?_) (λj v hj hv=>by have:=(List.getElem?_eq_some_iff.1 hv).1;omega)) P4 hce
    ·rw[dH (λ_=>by omega)];exact(HM j v hv).1
    ·have hjl:=(List.getElem?_eq_some_iff.1 hv).1
     rw[mc aVn hjl]
     rw[List.getElem?_eq_getElem hjl] at hv;exact hv
   ·
    have hC:=aMR B st n cap i vB vst XE cs vl w (by omega) P4 aSE B7 hvl (by omega) (λj v hj=>(HM j v hj).1) (λj hj=>(og _ (by omega) (by omega)).1) (λj hj=>(og _ (by omega) (by omega)).2) (λj v hj=>(hvs j v hj).1) h1c h1v
     (λcb=>by
      obtain⟨va,hva⟩:=Option.isSome_iff_exists.1 (aWd vst (Nat.le_refl _) (by omega)).1
      obtain⟨vb2,aXE⟩:=Option.isSome_iff_exists.1 (og (st+(i+1)*9) (by omega) (by omega)).1
      exact aGV (λh=>by have:=aSE h;omega) hva aXE hfv)
    refine Calls.mono hC ?_
    rintro ev W ⟨rfl,rfl⟩
    have hdl:(cs.drop (i*9)).length=(n-i)*9:=by rw[List.length_drop,B7];omega
    have i1:∀j,j<(cs.drop (i*9)).length->(cl w.drew B (st+(i+1)*9+j)).isSome=true:=λj hj=>(og _ (by omega) (by omega)).1
    have i2:∀j,j<vl.length->(cl (w.drew.setCells B (st+(i+1)*9) (cs.drop (i*9))) B (st+i*9+j)).isSome=true:=λj hj=>Ab.isSome_setCells i1 (og _ (by omega) (by omega)).1
    have hlb:=hH.lb 0 B st _ e Lv hb (by omega)
    refine XD (P:=Tryz.prog) (q:=n*9) ho hH iT af4 (by simp) rfl hb ((((bU.refl w _).drew).setCells (.inr λj hj=>hft _ (by omega) (by omega))).setCells (.inr λj hj=>hft _ (by omega) (by omega)))
     (λk k1 k2=>⟨Ab.isSome_setCells i2 (Ab.isSome_setCells i1 (og k k1 k2).1),by rw[ns,ns];exact(og k k1 k2).2⟩) (((hH.am.same (w':=w.drew) rfl).setCells λ_=>hlb).setCells λ_=>hlb) (cont _ B st (λj v hj hv=> ?_) (λj v hv=> ?_) (λj v hj hv=> ?_)) P4 hce
    ·rw[dH (λ_=>by omega),dH (λ_=>by omega)];exact(HM j v hv).1
    ·have hjl:=(List.getElem?_eq_some_iff.1 hv).1
     rw[mc i2 hjl]
     rw[List.getElem?_eq_getElem hjl] at hv;exact hv
    ·have hjl:=(List.getElem?_eq_some_iff.1 hv).1
     rw[dH (λ_=>by omega)]
     have jU:j-i*9<(cs.drop (i*9)).length:=by omega
     have:=mc i1 jU
     rw[show st+(i+1)*9+(j-i*9)=st+(j+9) by omega] at this
     rw[this,<-List.getElem?_eq_getElem,List.getElem?_drop,show i*9+(j-i*9)=j by omega]
     exact hv
  ·by_cases hin:i=n
   ·exact apY (some ⟨B,st,none⟩) cap cs hin rfl (by omega) px (.inr ⟨_,rfl,λj v hj=>by rw[Addr.add_lit];exact(HM j v hj).1⟩) rfl
   ·obtain⟨G,Bd,hG,vQ,htk,hC⟩:=aPb B st n cap i vB vst XE cs vl w (by omega) px (by omega) awK B7 hvl (λj v hj=>(HM j v hj).1) (λj v hj=>(hvs j v hj).1) h1c h1v
    refine Calls.mono hC ?_
    rintro ev W ⟨rfl,rfl⟩
    have hG9:(n+1)*9<=G*9:=Nat.mul_le_mul_right _ hG
    have hdl:(cs.drop (i*9)).length=(n-i)*9:=by rw[List.length_drop,B7];omega
    have c0:∀j,cl (w.alloc (.cells Bd 78)).drew w.heap.size j=Bd[j]? :=λj=>World.cell?_alloc_at (w:=w) Bd _ w.heap.size j rfl
    have s0:∀j,j<G*9->(cl (w.alloc (.cells Bd 78)).drew w.heap.size j).isSome=true:=λj hj=>by rw[c0,Array.getElem?_eq_getElem (by omega)];rfl
    have i1:∀j,j<vl.length->(cl (w.alloc (.cells Bd 78)).drew w.heap.size (i*9+j)).isSome=true:=λj hj=>s0 _ (by omega)
    have i2:∀j,j<(cs.drop (i*9)).length->(cl ((w.alloc (.cells Bd 78)).drew.setCells w.heap.size (i*9) vl).drew w.heap.size ((i+1)*9+j)).isSome=true:=λj hj=>Ab.isSome_setCells i1 (s0 _ (by omega))
    have hlb:ax.h0<=w.heap.size:=hH.am.sz
    have am1:yd (w.alloc (.cells Bd 78)).drew:=(hH.am.alloc Bd 78).same (w':=(w.alloc (.cells Bd 78)).drew) rfl
    have am2:yd ((w.alloc (.cells Bd 78)).drew.setCells w.heap.size (i*9) vl).drew:=(am1.setCells λ_=>hlb).same (w':=((w.alloc (.cells Bd 78)).drew.setCells w.heap.size (i*9) vl).drew) rfl
    have f1:bU w (A' π 2 (P5 [.kill,.kU])) ((w.alloc (.cells Bd 78)).drew.setCells w.heap.size (i*9) vl).drew:=((((bU.refl w _).alloc Bd 78).drew).setCells (.inl (Nat.le_refl _))).drew
    refine aiL (P:=Tryz.prog) ho hH iT af4 (Nat.le_refl _) (f1.setCells (.inl (Nat.le_refl _))) (λk hk=>⟨Ab.isSome_setCells i2 (Ab.isSome_setCells i1 (s0 k hk)),?_⟩) (am2.setCells λ_=>hlb) (λJ hJ=> ?_) hG
    ·rw[ns]
     exact(ns (w:=(w.alloc (.cells Bd 78)).drew)).trans (World.frozen?_alloc_at (w:=w) Bd _ w.heap.size k rfl)
    ·have:=cont (((w.alloc (.cells Bd 78)).drew.setCells w.heap.size (i*9) vl).drew.setCells w.heap.size ((i+1)*9) (cs.drop (i*9))) w.heap.size 0 (λj v hj hv=> ?_) (λj v hv=> ?_) (λj v hj hv=> ?_) J hJ
     ·rwa [Nat.zero_add] at this
     ·rw[Nat.zero_add,dH (λ_=>by omega)]
      exact(dH (w:=(w.alloc (.cells Bd 78)).drew) (λ_=>by omega)).trans ((c0 j).trans (htk j v hj hv))
     ·have hjl:=(List.getElem?_eq_some_iff.1 hv).1
      rw[Nat.zero_add,dH (λ_=>by omega)]
      have:=mc i1 hjl
      rw[List.getElem?_eq_getElem hjl] at hv
      exact this.trans hv
     ·have hjl:=(List.getElem?_eq_some_iff.1 hv).1
      have jU:j-i*9<(cs.drop (i*9)).length:=by omega
      have:=mc i2 jU
      rw[show(i+1)*9+(j-i*9)=j+9 by omega] at this
      rw[Nat.zero_add,this,<-List.getElem?_eq_getElem,List.getElem?_drop,show i*9+(j-i*9)=j by omega]
      exact hv
end Go.Proofs.YtcmfbkneahoonaaGreat
namespace Go.Proofs.YtcmfbkneahoonaaGreat
open Go.RowKit Go.Lib Go.Ab
theorem zS [ax]:∃z,(∀w,(Go.zeroValue 78).run Tryz.prog w=.ok z w)∧z.cells.size=9∧∀v∈z.cells.toList,v.oneCell'=true:=by
 have h:(Tryz.prog.info? 78).map (λi=>i.zero.map λz=>(z.cells.size,z.cells.toList.all λv=>v.oneCell'))=some (some (9,true)):=by kernel_rfl
 obtain⟨zv,hzv⟩:∃zv,ya Tryz.prog 78=some zv:=by
  have h:(ya Tryz.prog 78).isSome=true:=by kernel_rfl
  exact Option.isSome_iff_exists.1 h
 cases hi:Tryz.prog.info? 78 with
 |none=>rw[hi] at h;cases h
 |some i=>
  rw[hi] at h
  simp only[Option.map_some,Option.some.injEq] at h
  cases hz:i.zero with
  |none=>rw[hz] at h;cases h
  |some z=>
   rw[hz] at h
   simp only[Option.map_some,Option.some.injEq,Prod.mk.injEq] at h
   refine⟨z,λw=> ?_,h.1,List.all_eq_true.1 h.2⟩
   obtain⟨x,hx,⟨it,hi2,hz2⟩,_⟩:=abh hzv w
   rw[hi] at hi2
   cases hi2
   rw[hz] at hz2
   cases hz2
   exact hx
theorem aTa [ax](w:World)(ty:TypeId)(b o n c:Nat)(hn:0<n)(hc:∀j,j<n*9->(w.cell? ⟨b,o+j,none⟩).isSome=true)(hf:∀j,j<n*9->w.frozen? ⟨b,o+j,none⟩=false):
  ∃zs:List Value,zs.length=n*9∧(Builtin.clear_ #[130] ty #[.slice (some ⟨b,o,none⟩) n c]).run Tryz.prog w=.ok (.tuple #[]) (w.setCells b o zs):=by
 obtain⟨z,hz,hs,h1⟩:=zS
 have hl:(Builtin.zeroCells z.cells n).toList.length=n*9:=by rw[Array.length_toList,size_zeroCells,hs]
 refine⟨(Builtin.zeroCells z.cells n).toList,hl,?_⟩
 have hst:=run_storeCells_cells (P:=Tryz.prog) b o (Builtin.zeroCells z.cells n).toList 0 w (by rw[hl];simpa using hc) (by rw[hl];simpa using hf) (by
  intro v hv
  unfold Builtin.zeroCells at hv
  rw[Array.toList_map] at hv
  obtain⟨i,hi,rfl⟩:=List.mem_map.1 hv
  have mb:i%z.cells.size<z.cells.size:=Nat.mod_lt _ (by omega)
  have e:z.cells[i%z.cells.size]! =z.cells[i%z.cells.size]:=getElem!_pos z.cells (i%z.cells.size) mb
  rw[e]
  exact h1 _ (Array.getElem_mem_toList mb))
 simp only[Nat.add_zero] at hst
 obtain⟨m,rfl⟩:∃m,n=m+1:=⟨n-1,by omega⟩
 simp[Builtin.clear_,run_underlying uT,hz,hst]
theorem aDB [ax]{gs:List (Nat->Int)}(hg:gs.length=9)(n i j:Nat)(hij:i<=j)(hj:j<=n)(w:World)(π:Pi)(vs:Array Value)
  (jM:bm (AV.rel π) [.r (.c (.sl 0 (.k 0) (.s n) 9 true)),.r (.c (.f (.i .i64 (i:Int)))),.r (.c (.f (.i .i64 (j:Int))))] vs.toList)
  (hH:pY π (hC ([[.a (.s n) (eC gs)]].map some)) (hZ ([[.a (.s n) (eC gs)]].map some)) w)(iT:∀b,π b≠none->b<1):
  Calls Tryz.prog 97 vs w (qQ π w [[.a (.s n) (eC gs)]] ⟨.r (.c (.sl 1 (.k 0) (.s (i+(n-j))) 9 true)),[.kill],[[.a (.s (i+(n-j))) (eC (gs.map (OB i (j-i))))]]⟩):=by
 obtain⟨y1,y2,y3,hvt,r1,r2,r3⟩:∃y1 y2 y3,vs.toList=[y1,y2,y3]∧(AV.r (.c (.sl 0 (.k 0) (.s n) 9 true))).rel π y1∧(AV.r (.c (.f (.i .i64 (i:Int))))).rel π y2∧(AV.r (.c (.f (.i .i64 (j:Int))))).rel π y3:=by
  match hl:vs.toList,jM with
  | [y1,y2,y3],⟨a,b,c,_⟩=>exact⟨y1,y2,y3,rfl,a,b,c⟩
  | [],h=>exact h.elim
  | [_],⟨_,h⟩=>exact h.elim
  | [_,_],⟨_,_,h⟩=>exact h.elim
  |_::_::_::_::_,⟨_,_,_,h⟩=>exact h.elim
 have hvt:vs=#[y1,y2,y3]:=by rw[<-Array.toList_inj];exact hvt
 subst hvt
 have r2:y2=.int .i64 (i:Int):=r2
 have r3:y3=.int .i64 (j:Int):=r3
 subst r2 r3
 obtain⟨B,st,q,e,hb,_,_,hx⟩:=r1
 obtain⟨rfl,hle,og,cs,B7,HM,h1c⟩:=aAp (b:=0) hg hH rfl hb
 have Lv:hZ ([[.a (.s n) (eC gs)]].map some) 0≠none:=by simp[hZ]
 have ho:(gs.map (OB i (j-i))).length=9:=by simp[hg]
 have af4:∀b,b< [[Sg.a (.s n) (eC gs)]].length->[Ch.kill][b]? =some .kU∨[Ch.kill][b]? =some .kill:=λb hb=>by
  match b,hb with
  |0,_=>exact .inr rfl
  |b+1,h=>exact absurd h (by simp)
 have hft:∀i,st<=i->i<e->A' π 1 (P5 [.kill]) B i:=λi h1 h2=>⟨0,st,_,e,by omega,by simp[P5],hb,h1,h2⟩
 rcases hx with⟨h0,a,rfl⟩| ⟨cap,px,rfl,hce⟩
 ·have h0:n=0:=h0
  subst h0
  have hi0:i=0:=by omega
  have hj0:j=0:=by omega
  subst hi0 hj0
  refine Calls.mono (aFn a 0 0 0 w (by omega) (by omega)) ?_
  rintro ev W ⟨rfl,rfl⟩
  exact aiM (P:=Tryz.prog) ho hH iT af4 (bU.refl _ _) hH.am
 ·have px:n<=cap:=px
  have hce:st+cap*9<=e:=by have:=hce rfl;simpa[ch.val] using this
  have aYM:n*9<=cap*9:=Nat.mul_le_mul_right _ px
  show Calls Tryz.prog 97 #[.slice (some ⟨B,st,none⟩) n cap,.int .i64 (i:Int),.int .i64 (j:Int)] w _
  rcases Nat.eq_or_lt_of_le hij with aXF|mb
  ·subst aXF
   refine Calls.mono (aFn _ n cap i w hj px) ?_
   rintro ev W ⟨rfl,rfl⟩
   have hn:i+(n-i)=n:=by omega
   rw[hn]
   refine XD (P:=Tryz.prog) (q:=n*9) ho hH iT af4 (by simp) rfl hb (bU.refl _ _) og hH.am (λJ hJ=> ?_) px hce
   rw[aFo hg]
   have hjj:cs[J]? =some (cs[J]'(by omega)):=List.getElem?_eq_getElem _
   refine⟨_,(HM _ _ hjj).1,?_⟩
   have:=(HM _ _ hjj).2
   split
   ·exact this
   ·rw[Nat.sub_self,Nat.zero_mul,Nat.add_zero];exact this
  ·have hm9:(i+(n-j))*9<=n*9:=Nat.mul_le_mul_right _ (by omega)
   have hdl:(cs.drop (j*9)).length=(n-j)*9:=by rw[List.length_drop,B7];omega
   have i1:∀k,k<(cs.drop (j*9)).length->(cl w.drew B (st+i*9+k)).isSome=true:=λk hk=>(og _ (by omega) (by omega)).1
   obtain⟨w2,hw2⟩:∃w2,w2=w.drew.setCells B (st+i*9) (cs.drop (j*9)):=⟨_,rfl⟩
   have s2:∀k,st<=k->k<e->(cl w2 B k).isSome=true∧fz w2 B k=false:=λk k1 k2=>by
    rw[hw2]
    exact⟨Ab.isSome_setCells i1 (og k k1 k2).1,by rw[ns];exact(og k k1 k2).2⟩
   obtain⟨zs,hzl,aXG⟩:∃zs:List Value,zs.length=(n-(i+(n-j)))*9∧∀ty,(Builtin.clear_ #[130] ty #[.slice (some ⟨B,st+(i+(n-j))*9,none⟩) (n-(i+(n-j))) (cap-(i+(n-j)))]).run Tryz.prog w2=.ok (.tuple #[]) (w2.setCells B (st+(i+(n-j))*9) zs):=by
    obtain⟨zs,h1,h2⟩:=aTa w2 0 B (st+(i+(n-j))*9) (n-(i+(n-j))) (cap-(i+(n-j))) (by omega) (λk hk=>(s2 _ (by omega) (by omega)).1) (λk hk=>(s2 _ (by omega) (by omega)).2)
    exact⟨zs,h1,λty=>by unfold Builtin.clear_ at h2 ⊢;exact h2⟩
   have hC:=aPc B st n cap i j w w2 (w2.setCells B (st+(i+(n-j))*9) zs) mb hj px (λty=>by
    rw[hw2]
    exact JA (P:=Tryz.prog) (ty:=ty) uT uE (B:=B) (q:=st) (n:=i) (cap:=cap) (m:=n-j) (c:=cap-j) (news:=cs.drop (j*9)) (by omega) hdl w.drew (λk v hk=>by
     have hk2:=(List.getElem?_eq_some_iff.1 hk).1
     rw[List.getElem?_drop] at hk
     have:=(HM _ _ hk).1
     split
     ·omega
     ·rw[Addr.add_lit,Nat.add_assoc];exact this) (λv hv=>h1c v (List.mem_of_mem_drop hv)) (λk hk=>og _ (by omega) (by omega))) aXG
   refine Calls.mono hC ?_
   rintro ev W ⟨rfl,rfl⟩
   have i2:∀k,k<zs.length->(cl w2 B (st+(i+(n-j))*9+k)).isSome=true:=λk hk=>(s2 _ (by omega) (by omega)).1
   have hlb:0<n->ax.h0<=B:=λ_=>hH.lb 0 B st _ e Lv hb (by omega)
   have am2:yd w2:=by rw[hw2];exact(hH.am.same (w':=w.drew) rfl).setCells λ_=>hlb (by omega)
   have f2:bU w (A' π 1 (P5 [.kill])) w2:=by rw[hw2];exact((bU.refl w _).drew).setCells (.inr λk hk=>hft _ (by omega) (by omega))
   refine XD (P:=Tryz.prog) (q:=n*9) ho hH iT af4 (by simp) rfl hb (f2.setCells (.inr λk hk=>hft _ (by omega) (by omega))) (λk k1 k2=>⟨Ab.isSome_setCells i2 (s2 k k1 k2).1,by rw[ns];exact(s2 k k1 k2).2⟩) (am2.setCells λ_=>hlb (by omega)) (λJ hJ=> ?_) (by omega) hce
   rw[aFo hg,dH (λ_=>by omega),hw2]
   by_cases h1:J<i*9
   ·rw[if_pos h1,dH (λ_=>by omega)]
    have hjj:cs[J]? =some (cs[J]'(by omega)):=List.getElem?_eq_getElem _
    exact⟨_,(HM _ _ hjj).1,(HM _ _ hjj).2⟩
   ·rw[if_neg h1]
    have hJ2:J-i*9<(cs.drop (j*9)).length:=by omega
    have h3:=mc i1 hJ2
    rw[show st+i*9+(J-i*9)=st+J by omega] at h3
    refine⟨_,h3,?_⟩
    have hjj:cs[J+(j-i)*9]? =some ((cs.drop (j*9))[J-i*9]):=by
     rw[<-List.getElem?_eq_getElem,List.getElem?_drop]
     congr 1
     have:(j-i)*9=j*9-i*9:=by omega
     omega
    exact(HM _ _ hjj).2
theorem aGW [ax]{gs:List (Nat->Int)}(hg:gs.length=9)(n:Nat)(awK:n*72<=140737488355328)(w0:Bool)(w:World)(π:Pi)(vs:Array Value)
  (jM:bm (AV.rel π) [.r (.c (.sl 0 (.k 0) (.s n) 9 w0))] vs.toList)
  (hH:pY π (hC ([[.a (.s n) (eC gs)]].map some)) (hZ ([[.a (.s n) (eC gs)]].map some)) w)(iT:∀b,π b≠none->b<1):
  Calls Tryz.prog 128 vs w (qQ π w [[.a (.s n) (eC gs)]] ⟨.r (.c (.sl 1 (.k 0) (.s n) 9 true)),[.kU],[[.a (.s n) (eC gs)]]⟩):=by
 obtain⟨y1,hvt,r1⟩:∃y1,vs.toList=[y1]∧(AV.r (.c (.sl 0 (.k 0) (.s n) 9 w0))).rel π y1:=by
  match hl:vs.toList,jM with
  | [y1],⟨a,_⟩=>exact⟨y1,rfl,a⟩
  | [],h=>exact h.elim
  |_::_::_,⟨_,h⟩=>exact h.elim
 have hvt:vs=#[y1]:=by rw[<-Array.toList_inj];exact hvt
 subst hvt
 obtain⟨B,st,q,e,hb,_,_,hx⟩:=r1
 obtain⟨rfl,hle,og,cs,B7,HM,h1c⟩:=aAp (b:=0) hg hH rfl hb
 have af4:∀b,b< [[Sg.a (.s n) (eC gs)]].length->[Ch.kU][b]? =some .kU∨[Ch.kU][b]? =some .kill:=λb hb=>by
  match b,hb with
  |0,_=>exact .inl rfl
  |b+1,h=>exact absurd h (by simp)
 have hE:=iE
 obtain⟨i0,z0,hi0,hzz,aXA,aS7,aXB⟩:=hE
 have aS8:(Tryz.prog.info? 78).map (·.bytes)=some 72:=by rw[hi0];exact congrArg some aS7
 obtain⟨zv,hzv,aS9⟩:∃zv,ya Tryz.prog 78=some zv∧af.size zv.bK=9:=by
  have h:(ya Tryz.prog 78).map (λz=>af.size z.bK)=some 9:=by kernel_rfl
  cases hz:ya Tryz.prog 78 with
  |none=>rw[hz] at h;cases h
  |some z=>rw[hz] at h;exact⟨z,rfl,by simpa using h⟩
 obtain⟨w1,hw1⟩:∃w1,w1=w.alloc (.cells #[] 78):=⟨_,rfl⟩
 have hs1:w1.heap.size=w.heap.size+1:=by rw[hw1];exact World.size_alloc ..
 have am1:yd w1:=by rw[hw1];exact hH.am.alloc _ _
 have f1:bU w (A' π 1 (P5 [.kU])) w1:=by rw[hw1];exact(bU.refl w _).alloc _ _
 have none_:n=0->∀(a:Addr) (c:Nat),Calls Tryz.prog 128 #[.slice (some a) 0 c] w (qQ π w [[.a (.s n) (eC gs)]] ⟨.r (.c (.sl 1 (.k 0) (.s n) 9 true)),[.kU],[[.a (.s n) (eC gs)]]⟩):=λh0 a c=>by
  subst h0
  refine Calls.mono (awZ a 0 c w _ _ λty=>JA (P:=Tryz.prog) (ty:=ty) uT uE (B:=w.heap.size) (q:=0) (n:=0) (cap:=0) (m:=0) (c:=c) (ad:=a) (news:=[]) (by omega) rfl (w.alloc (.cells #[] 78)) (λj v hj=>by simp at hj) (λv hv=>by cases hv) (λj hj=>by simp at hj)) ?_
  rintro ev W ⟨rfl,rfl⟩
  rw[<-hw1]
  exact aiM (P:=Tryz.prog) hg hH iT af4 f1 am1
 rcases hx with⟨h0,a,rfl⟩| ⟨cap,px,rfl,hce⟩
 ·have h0:n=0:=h0
  cases a with
  |none=>
   subst h0
   refine Calls.mono (aMS w) ?_
   rintro ev W ⟨rfl,rfl⟩
   exact aiM (P:=Tryz.prog) hg hH iT af4 (bU.refl _ _) hH.am
  |some b=>exact none_ h0 b 0
 ·show Calls Tryz.prog 128 #[.slice (some ⟨B,st,none⟩) n cap] w _
  rcases Nat.eq_zero_or_pos n with h0|hn
  ·subst h0
   exact none_ rfl ⟨B,st,none⟩ cap
  ·have hbw:B<w.heap.size:=Y9 (og st (Nat.le_refl _) (by omega)).1
   obtain⟨gc,arr,mw,hgc,vQ,rest,adF⟩:=G0 (P:=Tryz.prog) (ty:=0) uT uE aS8 hzv aS9 (by omega) (sv:=.slice (some ⟨w.heap.size,0,none⟩) 0 0) (n:=0) (cap:=0) (m:=n) (c:=cap) (ad:=⟨B,st,none⟩) (E6:=[]) (news:=cs) w1 (.inr ⟨_,rfl,λj v hj=>by simp at hj⟩) rfl B7 (λj v hj=>by
    rw[Addr.add_lit,hw1]
    exact(World.cell?_alloc_past (w:=w) _ B _ hbw).trans (HM j v hj).1) (by omega) hn (by omega)
   rw[Nat.zero_add] at mw hgc
   have mw:∀ty,(Builtin.append_ #[130,130] ty #[.slice (some ⟨w.heap.size,0,none⟩) 0 0,.slice (some ⟨B,st,none⟩) n cap]).run Tryz.prog (w.alloc (.cells #[] 78))=.ok (.slice (some ⟨w1.heap.size,0,none⟩) n gc) (w1.drew.alloc (.cells arr 78)):=λty=>by rw[<-hw1];unfold Builtin.append_ at mw ⊢;exact mw
   refine Calls.mono (awZ ⟨B,st,none⟩ n cap w _ _ mw) ?_
   rintro ev W ⟨rfl,rfl⟩
   have aFq:∀j,cl (w1.drew.alloc (.cells arr 78)) w1.heap.size j=arr[j]? :=λj=>World.cell?_alloc_at (w:=w1.drew) arr _ w1.heap.size j rfl
   refine aiL (P:=Tryz.prog) hg hH iT af4 (by omega) ((f1.drew).alloc _ _) (λk hk=>⟨by rw[aFq,Array.getElem?_eq_getElem (by omega)];rfl,World.frozen?_alloc_at (w:=w1.drew) arr _ w1.heap.size k rfl⟩) ((am1.same (w':=w1.drew) rfl).alloc _ _) (λJ hJ=> ?_) hgc
   have hjj:cs[J]? =some (cs[J]'(by omega)):=List.getElem?_eq_getElem _
   refine⟨_,?_,(HM _ _ hjj).2⟩
   rw[aFq]
   have:=(Te adF).2 hjj
   simpa using this
end Go.Proofs.YtcmfbkneahoonaaGreat
noncomputable section
namespace Go.Proofs.YtcmfbkneahoonaaGreat
open Go.Ab Go.Ab.Pg
theorem ap5 {α:Type}{c:Bool}{v d:α}(h:cond c (some v) none=some d):c=true∧v=d:=by
 cases c with
 |true=>exact⟨rfl,Option.some.inj h⟩
 |false=>cases h
theorem ave {β δ:Type}{Q:Rq (List AV×List af) β}{R:δ->Go.Ab.T}{f:β->Option δ}{a:List AV}{h:List af}{r:nk}(hr:(FC Q R f a h).eval=some r):
  ∃b d,(a,h)=Q.em b∧f b=some d∧(R d).eval=some r:=by
 unfold FC at hr
 split at hr
 ·rename_i b hb
  obtain⟨t,b⟩:=b
  obtain⟨h1,WT⟩:=aiJ hr
  rw[ap1] at WT
  obtain⟨d,e1,e2⟩:=Option.bind_eq_some_iff.1 WT
  exact⟨b,d,Q.ok _ _ _ hb h1,e1,e2⟩
 ·cases hr
def pZ:=(open Go.Ab.Rq in(dp (c (ac (slc 0 9)) (c ai (cl (ac (slc 1 9)) nil))) λa=>(c (cl (gs a.1.1 (c fA (c fA (c fA (c fA (c fA (c fA (c fA (c fA (cl fA nil)))))))))) nil) (cl (cl (gs a.2.2.1 (c fA (c fA (c fA (c fA (c fA (c fA (c fA (c fA (cl fA nil)))))))))) nil) nil))):Rq (List AV×List af) _)
def py:=(open Go.Ab.Rq in(res (pr (ac (wX 2 9)) (pu (cu Ti (cu eW nil)) (cl (cl (ga (pr (szs hole) (c fA (c fA (c fA (c fA (c fA (c fA (c fA (c fA (cl fA nil))))))))))) nil) nil)))):Rq (nk) _)
abbrev fY:=Nat×(Nat->Int)×(Nat->Int)×(Nat->Int)×(Nat->Int)×(Nat->Int)×(Nat->Int)×(Nat->Int)×(Nat->Int)×(Nat->Int)
def Da (d:fY):T:=(λd=>.leaf (py.em (d.1,d))) d
abbrev p5:=Nat->Int->(Nat->Int)->(Nat->Int)->(Nat->Int)->(Nat->Int)->(Nat->Int)->(Nat->Int)->(Nat->Int)->(Nat->Int)->(Nat->Int)->(Nat->Int)->(Nat->Int)->(Nat->Int)->(Nat->Int)->(Nat->Int)->(Nat->Int)->(Nat->Int)->(Nat->Int)->(Nat->Int)->Nat->Bool->Bool->Option fY
def p6 (g:p5):Ct:=(96,sQ 0 [.i .i64,.i .i64,.i .i64,.i .i64,.i .i64,.i .i64,.i .i64,.i .i64,.i .i64] (FC pZ Da (λb=>g b.1.1.1 b.1.2.1 b.2.1.1 b.2.1.2.1 b.2.1.2.2.1 b.2.1.2.2.2.1 b.2.1.2.2.2.2.1 b.2.1.2.2.2.2.2.1 b.2.1.2.2.2.2.2.2.1 b.2.1.2.2.2.2.2.2.2.1 b.2.1.2.2.2.2.2.2.2.2 b.2.2.1 b.2.2.2.1 b.2.2.2.2.1 b.2.2.2.2.2.1 b.2.2.2.2.2.2.1 b.2.2.2.2.2.2.2.1 b.2.2.2.2.2.2.2.2.1 b.2.2.2.2.2.2.2.2.2.1 b.2.2.2.2.2.2.2.2.2.2 b.1.2.2.1 b.1.1.2 b.1.2.2.2)))
def et (x0:Nat)(x1:Int)(x2 x3 x4 x5 x6 x7 x8 x9 fQ fR zF x13 x14 x15 x16 x17 x18 x19:Nat->Int)(x20:Nat)(w0 w1:Bool):Option fY:=
 bif Nat.beq x20 1&&(w0&&(decide (0<=x1)&&(Nat.ble (Int.toNat x1) x0&&Nat.ble ((x0+1)*72) 140737488355328))) then some (x0+1,IE (Int.toNat x1) x2 fR,IE (Int.toNat x1) x3 zF,IE (Int.toNat x1) x4 x13,IE (Int.toNat x1) x5 x14,IE (Int.toNat x1) x6 x15,IE (Int.toNat x1) x7 x16,IE (Int.toNat x1) x8 x17,IE (Int.toNat x1) x9 x18,IE (Int.toNat x1) fQ x19) else none
theorem CY:∀b,(pZ).em b=([.r (.c (.sl 0 (.k 0) (.s b.1.1.1) 9 b.1.1.2)),.r (.c (.f (.i .i64 b.1.2.1))),.r (.c (.sl 1 (.k 0) (.s b.1.2.2.1) 9 b.1.2.2.2))],[[.a (.s b.1.1.1) [.i .i64 b.2.1.1,.i .i64 b.2.1.2.1,.i .i64 b.2.1.2.2.1,.i .i64 b.2.1.2.2.2.1,.i .i64 b.2.1.2.2.2.2.1,.i .i64 b.2.1.2.2.2.2.2.1,.i .i64 b.2.1.2.2.2.2.2.2.1,.i .i64 b.2.1.2.2.2.2.2.2.2.1,.i .i64 b.2.1.2.2.2.2.2.2.2.2]],[.a (.s b.1.2.2.1) [.i .i64 b.2.2.1,.i .i64 b.2.2.2.1,.i .i64 b.2.2.2.2.1,.i .i64 b.2.2.2.2.2.1,.i .i64 b.2.2.2.2.2.2.1,.i .i64 b.2.2.2.2.2.2.2.1,.i .i64 b.2.2.2.2.2.2.2.2.1,.i .i64 b.2.2.2.2.2.2.2.2.2.1,.i .i64 b.2.2.2.2.2.2.2.2.2.2]]]):=λb=>by kernel_rfl
theorem Db [ax]:Snd Tryz.prog (p6 et):=Sound.nil 0 [.i .i64,.i .i64,.i .i64,.i .i64,.i .i64,.i .i64,.i .i64,.i .i64,.i .i64]<|λargs h r hr w π vs jM hH iT=>by
 obtain⟨b,d,e,hd,hq⟩:=ave hr
 rw[CY] at e
 obtain⟨hc,rfl⟩:=ap5 hd
 simp only[Bool.and_eq_true,decide_eq_true_eq] at hc
 obtain⟨h0,h1,h2,h3,h4⟩:=hc
 rw[Nat.eq_of_beq_eq_true h0] at e
 obtain⟨rfl,rfl⟩:=Prod.mk.inj e
 rw[h1,show b.1.2.1=((Int.toNat b.1.2.1:Nat):Int) by omega] at jM
 have hr2:py.em (_,_)=r:=Option.some.inj hq
 subst hr2
 exact .inl ⟨Ga (by kernel_rfl) _ _,aDA (gs:=[b.2.1.1,b.2.1.2.1,b.2.1.2.2.1,b.2.1.2.2.2.1,b.2.1.2.2.2.2.1,b.2.1.2.2.2.2.2.1,b.2.1.2.2.2.2.2.2.1,b.2.1.2.2.2.2.2.2.2.1,b.2.1.2.2.2.2.2.2.2.2]) (vs9:=[b.2.2.1,b.2.2.2.1,b.2.2.2.2.1,b.2.2.2.2.2.1,b.2.2.2.2.2.2.1,b.2.2.2.2.2.2.2.1,b.2.2.2.2.2.2.2.2.1,b.2.2.2.2.2.2.2.2.2.1,b.2.2.2.2.2.2.2.2.2.2]) rfl rfl _ _ (Nat.le_of_ble_eq_true h3) (Nat.le_of_ble_eq_true h4) _ w π vs jM hH λb hb=>iT b hb⟩
def p7:=(open Go.Ab.Rq in(dp (c (ac (slc 0 9)) (c ai (cl ai nil))) λa=>(cl (cl (gs a.1.1 (c fA (c fA (c fA (c fA (c fA (c fA (c fA (c fA (cl fA nil)))))))))) nil) nil)):Rq (List AV×List af) _)
def pz:=(open Go.Ab.Rq in(res (pr (ac (wX 1 9)) (pu (cu Ti nil) (cl (cl (ga (pr (szs hole) (c fA (c fA (c fA (c fA (c fA (c fA (c fA (c fA (cl fA nil))))))))))) nil) nil)))):Rq (nk) _)
abbrev fZ:=Nat×(Nat->Int)×(Nat->Int)×(Nat->Int)×(Nat->Int)×(Nat->Int)×(Nat->Int)×(Nat->Int)×(Nat->Int)×(Nat->Int)
def Dc (d:fZ):T:=(λd=>.leaf (pz.em (d.1,d))) d
abbrev gf:=Nat->Int->Int->(Nat->Int)->(Nat->Int)->(Nat->Int)->(Nat->Int)->(Nat->Int)->(Nat->Int)->(Nat->Int)->(Nat->Int)->(Nat->Int)->Bool->Option fZ
def jV (g:gf):Ct:=(97,sQ 0 [.i .i64,.i .i64,.i .i64,.i .i64,.i .i64,.i .i64,.i .i64,.i .i64,.i .i64] (FC p7 Dc (λb=>g b.1.1.1 b.1.2.1 b.1.2.2 b.2.1 b.2.2.1 b.2.2.2.1 b.2.2.2.2.1 b.2.2.2.2.2.1 b.2.2.2.2.2.2.1 b.2.2.2.2.2.2.2.1 b.2.2.2.2.2.2.2.2.1 b.2.2.2.2.2.2.2.2.2 b.1.1.2)))
def cD (x0:Nat)(x1 x2:Int)(x3 x4 x5 x6 x7 x8 x9 fQ fR:Nat->Int)(w0:Bool):Option fZ:=
 bif w0&&(decide (0<=x1)&&(Nat.ble (Int.toNat x1) (Int.toNat x2)&&(decide (0<=x2)&&Nat.ble (Int.toNat x2) x0))) then some (Int.toNat x1+(x0-Int.toNat x2),OB (Int.toNat x1) (Int.toNat x2-Int.toNat x1) x3,OB (Int.toNat x1) (Int.toNat x2-Int.toNat x1) x4,OB (Int.toNat x1) (Int.toNat x2-Int.toNat x1) x5,OB (Int.toNat x1) (Int.toNat x2-Int.toNat x1) x6,OB (Int.toNat x1) (Int.toNat x2-Int.toNat x1) x7,OB (Int.toNat x1) (Int.toNat x2-Int.toNat x1) x8,OB (Int.toNat x1) (Int.toNat x2-Int.toNat x1) x9,OB (Int.toNat x1) (Int.toNat x2-Int.toNat x1) fQ,OB (Int.toNat x1) (Int.toNat x2-Int.toNat x1) fR) else none
theorem CZ:∀b,(p7).em b=([.r (.c (.sl 0 (.k 0) (.s b.1.1.1) 9 b.1.1.2)),.r (.c (.f (.i .i64 b.1.2.1))),.r (.c (.f (.i .i64 b.1.2.2)))],[[.a (.s b.1.1.1) [.i .i64 b.2.1,.i .i64 b.2.2.1,.i .i64 b.2.2.2.1,.i .i64 b.2.2.2.2.1,.i .i64 b.2.2.2.2.2.1,.i .i64 b.2.2.2.2.2.2.1,.i .i64 b.2.2.2.2.2.2.2.1,.i .i64 b.2.2.2.2.2.2.2.2.1,.i .i64 b.2.2.2.2.2.2.2.2.2]]]):=λb=>by kernel_rfl
theorem p8 [ax]:Snd Tryz.prog (jV cD):=Sound.nil 0 [.i .i64,.i .i64,.i .i64,.i .i64,.i .i64,.i .i64,.i .i64,.i .i64,.i .i64]<|λargs h r hr w π vs jM hH iT=>by
 obtain⟨b,d,e,hd,hq⟩:=ave hr
 rw[CZ] at e
 obtain⟨hc,rfl⟩:=ap5 hd
 simp only[Bool.and_eq_true,decide_eq_true_eq] at hc
 obtain⟨h1,h2,h3,h4,h5⟩:=hc
 obtain⟨rfl,rfl⟩:=Prod.mk.inj e
 have e2:b.1.2.1=((Int.toNat b.1.2.1:Nat):Int):=by omega
 have e3:b.1.2.2=((Int.toNat b.1.2.2:Nat):Int):=by omega
 have hr2:pz.em (_,_)=r:=Option.some.inj hq
 subst hr2
 exact .inl ⟨Ga (by kernel_rfl) _ _,aDB (gs:=[b.2.1,b.2.2.1,b.2.2.2.1,b.2.2.2.2.1,b.2.2.2.2.2.1,b.2.2.2.2.2.2.1,b.2.2.2.2.2.2.2.1,b.2.2.2.2.2.2.2.2.1,b.2.2.2.2.2.2.2.2.2]) rfl _ (Int.toNat b.1.2.1) (Int.toNat b.1.2.2) (Nat.le_of_ble_eq_true h3) (Nat.le_of_ble_eq_true h5) w π vs (by rw[<-e2,<-e3,<-h1];exact jM) hH λb hb=>iT b hb⟩
def qS:=(open Go.Ab.Rq in(dp (cl (ac (slc 0 9)) nil) λa=>(cl (cl (gs a.1 (c fA (c fA (c fA (c fA (c fA (c fA (c fA (c fA (cl fA nil)))))))))) nil) nil)):Rq (List AV×List af) _)
def p9:=(open Go.Ab.Rq in(res (pr (ac (wX 1 9)) (pu (cu eW nil) (cl (cl (ga (pr (szs hole) (c fA (c fA (c fA (c fA (c fA (c fA (c fA (c fA (cl fA nil))))))))))) nil) nil)))):Rq (nk) _)
abbrev gF:=Nat×(Nat->Int)×(Nat->Int)×(Nat->Int)×(Nat->Int)×(Nat->Int)×(Nat->Int)×(Nat->Int)×(Nat->Int)×(Nat->Int)
def En (d:gF):T:=(λd=>.leaf (p9.em (d.1,d))) d
abbrev kE:=Nat->(Nat->Int)->(Nat->Int)->(Nat->Int)->(Nat->Int)->(Nat->Int)->(Nat->Int)->(Nat->Int)->(Nat->Int)->(Nat->Int)->Bool->Option gF
def qT (g:kE):Ct:=(128,sQ 0 [.i .i64,.i .i64,.i .i64,.i .i64,.i .i64,.i .i64,.i .i64,.i .i64,.i .i64] (FC qS En (λb=>g b.1.1 b.2.1 b.2.2.1 b.2.2.2.1 b.2.2.2.2.1 b.2.2.2.2.2.1 b.2.2.2.2.2.2.1 b.2.2.2.2.2.2.2.1 b.2.2.2.2.2.2.2.2.1 b.2.2.2.2.2.2.2.2.2 b.1.2)))
def eF (x0:Nat)(x1 x2 x3 x4 x5 x6 x7 x8 x9:Nat->Int)(w0:Bool):Option gF:=
 bif Nat.ble (x0*72) 140737488355328 then some (x0,x1,x2,x3,x4,x5,x6,x7,x8,x9) else none
theorem Dd:∀b,(qS).em b=([.r (.c (.sl 0 (.k 0) (.s b.1.1) 9 b.1.2))],[[.a (.s b.1.1) [.i .i64 b.2.1,.i .i64 b.2.2.1,.i .i64 b.2.2.2.1,.i .i64 b.2.2.2.2.1,.i .i64 b.2.2.2.2.2.1,.i .i64 b.2.2.2.2.2.2.1,.i .i64 b.2.2.2.2.2.2.2.1,.i .i64 b.2.2.2.2.2.2.2.2.1,.i .i64 b.2.2.2.2.2.2.2.2.2]]]):=λb=>by kernel_rfl
theorem Eo [ax]:Snd Tryz.prog (qT eF):=Sound.nil 0 [.i .i64,.i .i64,.i .i64,.i .i64,.i .i64,.i .i64,.i .i64,.i .i64,.i .i64]<|λargs h r hr w π vs jM hH iT=>by
 obtain⟨b,d,e,hd,hq⟩:=ave hr
 rw[Dd] at e
 obtain⟨hc,rfl⟩:=ap5 hd
 obtain⟨rfl,rfl⟩:=Prod.mk.inj e
 have hr2:p9.em (_,_)=r:=Option.some.inj hq
 subst hr2
 exact .inl ⟨Ga (by kernel_rfl) _ _,aGW (gs:=[b.2.1,b.2.2.1,b.2.2.2.1,b.2.2.2.2.1,b.2.2.2.2.2.1,b.2.2.2.2.2.2.1,b.2.2.2.2.2.2.2.1,b.2.2.2.2.2.2.2.2.1,b.2.2.2.2.2.2.2.2.2]) rfl _ (Nat.le_of_ble_eq_true hc) _ w π vs jM hH λb hb=>iT b hb⟩
end Go.Proofs.YtcmfbkneahoonaaGreat
noncomputable section
namespace Go.Proofs.YtcmfbkneahoonaaGreat
open Go.Ab Go.Ab.Pg Go.Ab.Rq
def af5:=qa (pr (cu aP C4) bB)
def Mg:=qe oQ
abbrev af6:=Mg.B
abbrev bT:=Int->Int->Int->Bool->Option af6
def du (g:bT):Ct:=(103,FC af5 (lf Mg) (λb=>g b.1.1 b.1.2.1 b.1.b b.2))
def vx (x0:Int)(x1:Int)(x2:Int)(x3:Bool):Pg af6:=ae (decide (x1>x2)) (ret (x1,true)) (ae (decide (x0<x1)) (ret (x1,true)) (ae (decide (x0>x2)) (ret (x2,true)) (ret (x0,x3))))
def bc:=λx0 x1 x2 x3=>(vx x0 x1 x2 x3).val
theorem ay3:D1 [] [0] 103 af5 (lf Mg) λb=>vx b.1.1 b.1.2.1 b.1.b b.2:=λb=>by kernel_rfl
theorem dO [ax]:SC (du bc):=s0 (.nil _) ay3
def anu:=qa (pr (cu aP fU) bB)
def TD:=qe oQ
abbrev anv:=TD.B
abbrev bI:=Int->Bool->Option anv
def cW (g:bI):Ct:=(106,FC anu (lf TD) (λb=>g b.1 b.2))
def Ze (aE:bT)(x0:Int)(x1:Bool):Pg anv:=opt (aE x0 (-1152921504606846976) 1152921504606846976 x1) λd=>ret d
def aQ:=λx0 x1=>(Ze bc x0 x1).val
theorem aDC:∀aE,D0 [du aE] 106 anu (lf TD) λb=>Ze aE b.1 b.2:=λ_ b=>by kernel_rfl
theorem c7 [ax]:SC (cW aQ):=s0 (.c dO (.nil _)) (aDC bc)
def anw:=qa (pl fU nil)
def TE:=qe aQC
abbrev anx:=TE.B
abbrev NN:=Int->Option anx
def NO (g:NN):Ct:=(165,FC anw (lf TE) (λb=>g b))
def Zf (x0:Int):Pg anx:=ae (decide (x0<0)) (ret (wU (0-wU x0))) (ret (wU x0))
def pB:=λx0=>(Zf x0).val
theorem aDD:D0 [] 165 anw (lf TE) λb=>Zf b:=λb=>by kernel_rfl
theorem Zg [ax]:SC (NO pB):=s0 (.nil _) aDD
def anz:=qa (pl (c an aEM) nil)
def TF:=qe aLz
abbrev anA:=TF.B
abbrev anB:=Int->Int->Option anA
def anC (g:anB):Ct:=(164,FC anz (lf TF) (λb=>g b.1 b.2))
def Zh (x0:Int)(x1:Int):Pg anA:=let y0:=Int.fdiv x0 4294967296;let y1:=Int.fdiv x1 4294967296;let y2:=wU (Int.ofNat (BitVec.toNat (BitVec.ofInt 64 x0&&&BitVec.ofInt 64 4294967295)));let y3:=wU (Int.ofNat (BitVec.toNat (BitVec.ofInt 64 x1&&&BitVec.ofInt 64 4294967295)));let y4:=wU (wU (y0*y3)+Int.fdiv (wU (y2*y3)) 4294967296);ret (wU (wU (wU (y0*y1)+Int.fdiv y4 4294967296)+Int.fdiv (wU (wU (Int.ofNat (BitVec.toNat (BitVec.ofInt 64 y4&&&BitVec.ofInt 64 4294967295)))+wU (y2*y1))) 4294967296),wU (x0*x1))
def Gb:=λx0 x1=>(Zh x0 x1).val
theorem aDE:D0 [] 164 anz (lf TF) λb=>Zh b.1 b.2:=λb=>by kernel_rfl
theorem aDF [ax]:SC (anC Gb):=s0 (.nil _) aDE
def aiN:=qa (pl (c Tn aIn) nil)
def P8:=qe aLD
abbrev TG:=P8.B
abbrev TH:=Int->Int->Bool->Option TG
def TI (g:TH):Ct:=(166,FC aiN (lf P8) (λb=>g b.1.1 b.1.2 b.2))
def JF (lK:arU)(x0:Int)(x1:Int)(x2:Bool):Pg TG:=ae (!x2) (ret ((wI x0,x1),Int.fdiv x0 9223372036854775808==0)) (opt (lK (wU (Int.ofNat (BitVec.toNat (BitVec.ofInt 64 18446744073709551615^^^BitVec.ofInt 64 x1)))) 1 0) λd=>let y0:=wI (wU (wU (Int.ofNat (BitVec.toNat (BitVec.ofInt 64 18446744073709551615^^^BitVec.ofInt 64 x0)))+d.2));ae (decide (y0<0)) (ret ((y0,d.1),true)) (ret ((y0,d.1),x0==0&&(x1==0&&true))))
def lL:=λx0 x1 x2=>(JF Ba x0 x1 x2).val
theorem aBW:∀lK,D0 [aiK lK] 166 aiN (lf P8) λb=>JF lK b.1.1 b.1.2 b.2:=λ_ b=>by kernel_rfl
theorem aiO [ax]:SC (TI lL):=s0 (.c amh (.nil _)) (aBW Ba)
def aw0:=qa (pl wY nil)
def adO:=qe aQ1
abbrev aiP:=adO.B
abbrev mF:=Int->Int->Option aiP
def vT (g:mF):Ct:=(100,FC aw0 (lf adO) (λb=>g b.1 b.2))
def aiQ (gB:NN)(NP:anB)(nu:TH)(x0:Int)(x1:Int):Pg aiP:=opt (gB x0) λd=>opt (gB x1) λaj=>opt (NP d aj) λd=>opt (nu d.1 d.2 !decide (x0<0)==decide (x1<0)) λd=>ret d.1
def eQ:=λx0 x1=>(aiQ pB Gb lL x0 x1).val
theorem aJA:∀gB NP nu,D0 [NO gB,anC NP,TI nu] 100 aw0 (lf adO) λb=>aiQ gB NP nu b.1 b.2:=λ_ _ _ b=>by kernel_rfl
theorem zh [ax]:SC (vT eQ):=s0 (.c Zg (.c aDF (.c aiO (.nil _)))) (aJA pB Gb lL)
def aw1:=qa (pl aAC nil)
def adP:=qe (res (pl (pw (c (ra auw) aNM)) (pu nil nil)))
abbrev aw2:=adP.B
abbrev aiR:=Int->Int->Option aw2
def aiS (g:aiR):Ct:=(168,FC aw1 (lf adP) (λb=>g b.1 b.2))
def aiT (lK:arU)(x0:Int)(x1:Int):Pg aw2:=ae (decide (x0>=0)) (ret ((wU x0,x1),false)) (opt (lK (wU (Int.ofNat (BitVec.toNat (BitVec.ofInt 64 18446744073709551615^^^BitVec.ofInt 64 x1)))) 1 0) λd=>ret ((wU (wU (Int.ofNat (BitVec.toNat (BitVec.ofInt 64 18446744073709551615^^^BitVec.ofInt 64 (wU x0))))+d.2),d.1),true))
def De:=λx0 x1=>(aiT Ba x0 x1).val
theorem aJB:∀lK,D0 [aiK lK] 168 aw1 (lf adP) λb=>aiT lK b.1 b.2:=λ_ b=>by kernel_rfl
theorem aw3 [ax]:SC (aiS De):=s0 (.c amh (.nil _)) (aJB Ba)
def af7:=qa (pl (c Tn fU) nil)
def Mh:=qe aGc
abbrev af8:=Mh.B
abbrev Be:=Int->Int->Int->Option af8
def G3 (g:Be):Ct:=(170,FC af7 (lf Mh) (λb=>g b.1.1 b.1.2 b.2))
def P9 (x0:Int)(x1:Int)(x2:Int):Pg af8:=let y0:=wI (64-x2);let y1:=wI (x2-64);let y2:=2^min (Int.toNat x2) 64;let y3:= !decide (x2<0);ae (decide (x2>=64)) (ae (!decide (y1<0)) (ret (wU (x1*2^min (Int.toNat y1) 64),0)) no) (ae y3 (ae (!decide (y0<0)) (ae y3 (ret (wU (Int.ofNat (BitVec.toNat (BitVec.ofInt 64 (wU (x0*y2))|||BitVec.ofInt 64 (Int.fdiv x1 (2^min (Int.toNat y0) 64))))),wU (x1*y2))) no) no) no)
def fW:=λx0 x1 x2=>(P9 x0 x1 x2).val
theorem ay4:D0 [] 170 af7 (lf Mh) λb=>P9 b.1.1 b.1.2 b.2:=λb=>by kernel_rfl
theorem P' [ax]:SC (G3 fW):=s0 (.nil _) ay4
def abm:=qa (pl (c Tn (cl Tn nil)) nil)
def JG:=qe aGc
abbrev abn:=JG.B
abbrev tf:=Int->Int->Int->Int->Option abn
def Ep (g:tf):Ct:=(169,FC abm (lf JG) (λb=>g b.1.1 b.1.2 b.2.1 b.b))
def Mi (lK:arU)(x0:Int)(x1:Int)(x2:Int)(x3:Int):Pg abn:=opt (lK x1 x3 0) λd=>opt (lK x0 x2 d.2) λaj=>ret (aj.1,d.1)
def hO:=λx0 x1 x2 x3=>(Mi Ba x0 x1 x2 x3).val
theorem avf:∀lK,D0 [aiK lK] 169 abm (lf JG) λb=>Mi lK b.1.1 b.1.2 b.2.1 b.b:=λ_ b=>by kernel_rfl
theorem Mj [ax]:SC (Ep hO):=s0 (.c amh (.nil _)) (avf Ba)
def af9:=qa (pl (c Tn fU) nil)
def Mk:=qe aGc
abbrev aga:=Mk.B
abbrev Bf:=Int->Int->Int->Option aga
def G4 (g:Bf):Ct:=(172,FC af9 (lf Mk) (λb=>g b.1.1 b.1.2 b.2))
def G5 (x0:Int)(x1:Int)(x2:Int):Pg aga:=let y0:=wI (64-x2);let y1:=wI (x2-64);let y2:=2^min (Int.toNat x2) 64;let y3:= !decide (x2<0);ae (decide (x2>=64)) (ae (!decide (y1<0)) (ret (0,Int.fdiv x0 (2^min (Int.toNat y1) 64))) no) (ae y3 (ae y3 (ae (!decide (y0<0)) (ret (Int.fdiv x0 y2,wU (Int.ofNat (BitVec.toNat (BitVec.ofInt 64 (Int.fdiv x1 y2)|||BitVec.ofInt 64 (wU (x0*2^min (Int.toNat y0) 64))))))) no) no) no)
def gX:=λx0 x1 x2=>(G5 x0 x1 x2).val
theorem ay5:D0 [] 172 af9 (lf Mk) λb=>G5 b.1.1 b.1.2 b.2:=λb=>by kernel_rfl
theorem Qa [ax]:SC (G4 gX):=s0 (.nil _) ay5
def abo:=qa (pl (c Tn aIn) nil)
def JH:=qe auH
abbrev abp:=JH.B
abbrev yj:=Int->Int->Bool->Option abp
def Er (g:yj):Ct:=(171,FC abo (lf JH) (λb=>g b.1.1 b.1.2 b.2))
def Ml (x0:Int)(x1:Int)(x2:Bool):Pg abp:=let y0:=x0 !=0;let y1:=decide (x1>9223372036854775807);ae y0 (ae y0 (ret (0,false)) (ae x2 (ret (wI (wU (0-x1)),true)) (ret (wI x1,true)))) (ae (!x2) (ae y1 (ae y1 (ret (0,false)) (ae x2 (ret (wI (wU (0-x1)),true)) (ret (wI x1,true)))) (ae x2 (ae (decide (x1>9223372036854775808)) (ret (0,false)) (ae x2 (ret (wI (wU (0-x1)),true)) (ret (wI x1,true)))) (ae x2 (ret (wI (wU (0-x1)),true)) (ret (wI x1,true))))) (ae x2 (ae (decide (x1>9223372036854775808)) (ret (0,false)) (ae x2 (ret (wI (wU (0-x1)),true)) (ret (wI x1,true)))) (ae x2 (ret (wI (wU (0-x1)),true)) (ret (wI x1,true)))))
def hX:=λx0 x1 x2=>(Ml x0 x1 x2).val
theorem avg:D0 [] 171 abo (lf JH) λb=>Ml b.1.1 b.1.2 b.2:=λb=>by kernel_rfl
theorem Mm [ax]:SC (Er hX):=s0 (.nil _) avg
def anD:=qa (pl (c ac2 fU) nil)
def TJ:=qe auH
abbrev anE:=TJ.B
abbrev BK:=Int->Int->Int->Option anE
def NQ (g:BK):Ct:=(102,FC anD (lf TJ) (λb=>g b.1.1 b.1.2 b.2))
def Zi (vU:aiR)(iW:Be)(eG:tf)(gY:Bf)(eH:yj)(x0:Int)(x1:Int)(x2:Int):Pg anE:=ae (decide (x2<0)) (ret (0,false)) (ae (decide (x2>126)) (ret (0,false)) (opt (vU x0 x1) λd=>ae (decide (x2>0)) (opt (iW 0 1 (wI (x2-1))) λaj=>opt (eG d.1.1 d.1.2 aj.1 aj.2) λaF=>opt (gY aF.1 aF.2 x2) λbx=>opt (eH bx.1 bx.2 d.2) λd=>ret d) (opt (gY d.1.1 d.1.2 x2) λaj=>opt (eH aj.1 aj.2 d.2) λd=>ret d)))
def pC:=λx0 x1 x2=>(Zi De fW hO gX hX x0 x1 x2).val
theorem aDG:∀vU iW eG gY eH,D0 [aiS vU,G3 iW,Ep eG,G4 gY,Er eH] 102 anD (lf TJ) λb=>Zi vU iW eG gY eH b.1.1 b.1.2 b.2:=λ_ _ _ _ _ b=>by kernel_rfl
theorem Zj [ax]:SC (NQ pC):=s0 (.c aw3 (.c P' (.c Mj (.c Qa (.c Mm (.nil _)))))) (aDG De fW hO gX hX)
def aBX:=qa (pl aIn nil)
def aiU:=qe Fi
abbrev aBY:=aiU.B
abbrev TK:=Bool->Option aBY
def TL (g:TK):Ct:=(174,FC aBX (lf aiU) (λb=>g b))
def TM (x0:Bool):Pg aBY:=ae x0 (ret (-1152921504606846976)) (ret 1152921504606846976)
def oU:=λx0=>(TM x0).val
theorem aMT:D0 [] 174 aBX (lf aiU) λb=>TM b:=λb=>by kernel_rfl
theorem adQ [ax]:SC (TL oU):=s0 (.nil _) aMT
def anF:=qa (pr (cu aP (c ai (c ab aIn))) bB)
def TN:=qe oQ
abbrev anG:=TN.B
abbrev Gd:=Int->Bool->Bool->Bool->Option anG
def NR (g:Gd):Ct:=(173,FC anF (lf TN) (λb=>g b.1.1 b.1.2.1 b.1.b b.2))
def Ge (iB:TK)(aw:bI)(x0:Int)(x1:Bool)(x2:Bool)(x3:Bool):Pg anG:=ae (!x1) (opt (iB x2) λd=>ret (d,true)) (opt (aw x0 x3) λd=>ret d)
def lM:=λx0 x1 x2 x3=>(Ge oU aQ x0 x1 x2 x3).val
theorem aDH:∀iB aw,D0 [TL iB,cW aw] 173 anF (lf TN) λb=>Ge iB aw b.1.1 b.1.2.1 b.1.b b.2:=λ_ _ b=>by kernel_rfl
theorem Zk [ax]:SC (NR lM):=s0 (.c adQ (.c c7 (.nil _))) (aDH oU aQ)
def agb:=qa (pr (cu aP (c ac2 fU)) bB)
def Mn:=qe oQ
abbrev agc:=Mn.B
abbrev vy:=Int->Int->Int->Bool->Option agc
def G6 (g:vy):Ct:=(107,FC agb (lf Mn) (λb=>g b.1.1.1 b.1.1.2 b.1.2 b.2))
def Qb (sR:BK)(lN:Gd)(x0:Int)(x1:Int)(x2:Int)(x3:Bool):Pg agc:=ae (decide (x2<0)) (ret (0,true)) (ae (decide (x2>120)) (ret (0,true)) (opt (sR x0 x1 x2) λd=>opt (lN d.1 d.2 (decide (x0<0)) x3) λd=>ret d))
def me:=λx0 x1 x2 x3=>(Qb pC lM x0 x1 x2 x3).val
theorem ay6:∀sR lN,D0 [NQ sR,NR lN] 107 agb (lf Mn) λb=>Qb sR lN b.1.1.1 b.1.1.2 b.1.2 b.2:=λ_ _ b=>by kernel_rfl
theorem Qc [ax]:SC (G6 me):=s0 (.c Zj (.c Zk (.nil _))) (ay6 pC lM)
def anH:=qa (pr (cu aP C4) bB)
def TO:=qe oQ
abbrev anI:=TO.B
abbrev bN:=Int->Int->Int->Bool->Option anI
def eJ (g:bN):Ct:=(64,FC anH (lf TO) (λb=>g b.1.1 b.1.2.1 b.1.b b.2))
def Zl (aw:bI)(cE:mF)(gZ:vy)(x0:Int)(x1:Int)(x2:Int)(x3:Bool):Pg anI:=opt (aw x0 x3) λd=>opt (aw x1 d.2) λaj=>opt (cE d.1 aj.1) λd=>opt (gZ d.1 d.2 x2 aj.2) λd=>ret d
def aV:=λx0 x1 x2 x3=>(Zl aQ eQ me x0 x1 x2 x3).val
theorem aDI:∀aw cE gZ,D0 [cW aw,vT cE,G6 gZ] 64 anH (lf TO) λb=>Zl aw cE gZ b.1.1 b.1.2.1 b.1.b b.2:=λ_ _ _ b=>by kernel_rfl
theorem eZ [ax]:SC (eJ aV):=s0 (.c c7 (.c zh (.c Qc (.nil _)))) (aDI aQ eQ me)
def aiV:=qa (pr aF8 (cu apB bB))
def Qd:=qe aLw
abbrev aiW:=Qd.B
abbrev TQ:=Int->Int->Bool->Option aiW
def TR (g:TQ):Ct:=(63,FC aiV (lf Qd) (λb=>g b.1.1 b.1.2 b.2))
def TS (aB:bN)(x0:Int)(x1:Int)(x2:Bool):Pg aiW:=opt (aB x0 x1 30 x2) λd=>ret d
def tL:=λx0 x1 x2=>(TS aV x0 x1 x2).val
theorem aBZ:∀aB,D0 [eJ aB] 63 aiV (lf Qd) λb=>TS aB b.1.1 b.1.2 b.2:=λ_ b=>by kernel_rfl
theorem aiX [ax]:SC (TR tL):=s0 (.c eZ (.nil _)) (aBZ aV)
def anJ:=qa (pl aEM nil)
def TT:=qe Fi
abbrev anK:=TT.B
abbrev anL:=Int->Option anK
def anM (g:anL):Ct:=(254,FC anJ (lf TT) (λb=>g b))
def Zm (x0:Int):Pg anK:=let y0:=Int.fdiv x0 65536;let y1:=Int.fdiv x0 4294967296;let y2:=IntKind.wrap IntKind.u8 (Int.fdiv x0 256);let y3:=IntKind.wrap IntKind.u8 y0;let y4:=IntKind.wrap IntKind.u8 y1;let y5:=Int.fdiv y1 65536;let y6:=IntKind.wrap IntKind.u8 y5;let y7:=IntKind.wrap IntKind.u8 (Int.fdiv y0 256);let y8:=IntKind.wrap IntKind.u8 (Int.fdiv y1 256);let y9:=IntKind.wrap IntKind.u8 (Int.fdiv y5 256);ae (decide (x0>=4294967296)) (ae (decide (y1>=65536)) (ae (decide (y5>=256)) (ae (aX y9 256) (ret (wI (56+wI (Cv (ByteArray.mk (List.toArray (List.append (List.append [0,1,2,2,3,3,3,3,4,4,4,4,4,4,4,4,5,5,5,5,5,5,5,5,5,5,5,5,5,5,5,5,6,6,6,6,6,6,6,6,6,6,6,6,6,6,6,6,6,6,6,6,6,6,6,6,6,6,6,6,6,6,6,6] [7,7,7,7,7,7,7,7,7,7,7,7,7,7,7,7,7,7,7,7,7,7,7,7,7,7,7,7,7,7,7,7,7,7,7,7,7,7,7,7,7,7,7,7,7,7,7,7,7,7,7,7,7,7,7,7,7,7,7,7,7,7,7,7]) (List.append [8,8,8,8,8,8,8,8,8,8,8,8,8,8,8,8,8,8,8,8,8,8,8,8,8,8,8,8,8,8,8,8,8,8,8,8,8,8,8,8,8,8,8,8,8,8,8,8,8,8,8,8,8,8,8,8,8,8,8,8,8,8,8,8] [8,8,8,8,8,8,8,8,8,8,8,8,8,8,8,8,8,8,8,8,8,8,8,8,8,8,8,8,8,8,8,8,8,8,8,8,8,8,8,8,8,8,8,8,8,8,8,8,8,8,8,8,8,8,8,8,8,8,8,8,8,8,8,8])))) (Int.toNat y9))))) no) (ae (aX y6 256) (ret (wI (48+wI (Cv (ByteArray.mk (List.toArray (List.append (List.append [0,1,2,2,3,3,3,3,4,4,4,4,4,4,4,4,5,5,5,5,5,5,5,5,5,5,5,5,5,5,5,5,6,6,6,6,6,6,6,6,6,6,6,6,6,6,6,6,6,6,6,6,6,6,6,6,6,6,6,6,6,6,6,6] [7,7,7,7,7,7,7,7,7,7,7,7,7,7,7,7,7,7,7,7,7,7,7,7,7,7,7,7,7,7,7,7,7,7,7,7,7,7,7,7,7,7,7,7,7,7,7,7,7,7,7,7,7,7,7,7,7,7,7,7,7,7,7,7]) (List.append [8,8,8,8,8,8,8,8,8,8,8,8,8,8,8,8,8,8,8,8,8,8,8,8,8,8,8,8,8,8,8,8,8,8,8,8,8,8,8,8,8,8,8,8,8,8,8,8,8,8,8,8,8,8,8,8,8,8,8,8,8,8,8,8] [8,8,8,8,8,8,8,8,8,8,8,8,8,8,8,8,8,8,8,8,8,8,8,8,8,8,8,8,8,8,8,8,8,8,8,8,8,8,8,8,8,8,8,8,8,8,8,8,8,8,8,8,8,8,8,8,8,8,8,8,8,8,8,8])))) (Int.toNat y6))))) no)) (ae (decide (y1>=256)) (ae (aX y8 256) (ret (wI (40+wI (Cv (ByteArray.mk (List.toArray (List.append (List.append [0,1,2,2,3,3,3,3,4,4,4,4,4,4,4,4,5,5,5,5,5,5,5,5,5,5,5,5,5,5,5,5,6,6,6,6,6,6,6,6,6,6,6,6,6,6,6,6,6,6,6,6,6,6,6,6,6,6,6,6,6,6,6,6] [7,7,7,7,7,7,7,7,7,7,7,7,7,7,7,7,7,7,7,7,7,7,7,7,7,7,7,7,7,7,7,7,7,7,7,7,7,7,7,7,7,7,7,7,7,7,7,7,7,7,7,7,7,7,7,7,7,7,7,7,7,7,7,7]) (List.append [8,8,8,8,8,8,8,8,8,8,8,8,8,8,8,8,8,8,8,8,8,8,8,8,8,8,8,8,8,8,8,8,8,8,8,8,8,8,8,8,8,8,8,8,8,8,8,8,8,8,8,8,8,8,8,8,8,8,8,8,8,8,8,8] [8,8,8,8,8,8,8,8,8,8,8,8,8,8,8,8,8,8,8,8,8,8,8,8,8,8,8,8,8,8,8,8,8,8,8,8,8,8,8,8,8,8,8,8,8,8,8,8,8,8,8,8,8,8,8,8,8,8,8,8,8,8,8,8])))) (Int.toNat y8))))) no) (ae (aX y4 256) (ret (wI (32+wI (Cv (ByteArray.mk (List.toArray (List.append (List.append [0,1,2,2,3,3,3,3,4,4,4,4,4,4,4,4,5,5,5,5,5,5,5,5,5,5,5,5,5,5,5,5,6,6,6,6,6,6,6,6,6,6,6,6,6,6,6,6,6,6,6,6,6,6,6,6,6,6,6,6,6,6,6,6] [7,7,7,7,7,7,7,7,7,7,7,7,7,7,7,7,7,7,7,7,7,7,7,7,7,7,7,7,7,7,7,7,7,7,7,7,7,7,7,7,7,7,7,7,7,7,7,7,7,7,7,7,7,7,7,7,7,7,7,7,7,7,7,7]) (List.append [8,8,8,8,8,8,8,8,8,8,8,8,8,8,8,8,8,8,8,8,8,8,8,8,8,8,8,8,8,8,8,8,8,8,8,8,8,8,8,8,8,8,8,8,8,8,8,8,8,8,8,8,8,8,8,8,8,8,8,8,8,8,8,8] [8,8,8,8,8,8,8,8,8,8,8,8,8,8,8,8,8,8,8,8,8,8,8,8,8,8,8,8,8,8,8,8,8,8,8,8,8,8,8,8,8,8,8,8,8,8,8,8,8,8,8,8,8,8,8,8,8,8,8,8,8,8,8,8])))) (Int.toNat y4))))) no))) (ae (decide (x0>=65536)) (ae (decide (y0>=256)) (ae (aX y7 256) (ret (wI (24+wI (Cv (ByteArray.mk (List.toArray (List.append (List.append [0,1,2,2,3,3,3,3,4,4,4,4,4,4,4,4,5,5,5,5,5,5,5,5,5,5,5,5,5,5,5,5,6,6,6,6,6,6,6,6,6,6,6,6,6,6,6,6,6,6,6,6,6,6,6,6,6,6,6,6,6,6,6,6] [7,7,7,7,7,7,7,7,7,7,7,7,7,7,7,7,7,7,7,7,7,7,7,7,7,7,7,7,7,7,7,7,7,7,7,7,7,7,7,7,7,7,7,7,7,7,7,7,7,7,7,7,7,7,7,7,7,7,7,7,7,7,7,7]) (List.append [8,8,8,8,8,8,8,8,8,8,8,8,8,8,8,8,8,8,8,8,8,8,8,8,8,8,8,8,8,8,8,8,8,8,8,8,8,8,8,8,8,8,8,8,8,8,8,8,8,8,8,8,8,8,8,8,8,8,8,8,8,8,8,8] [8,8,8,8,8,8,8,8,8,8,8,8,8,8,8,8,8,8,8,8,8,8,8,8,8,8,8,8,8,8,8,8,8,8,8,8,8,8,8,8,8,8,8,8,8,8,8,8,8,8,8,8,8,8,8,8,8,8,8,8,8,8,8,8])))) (Int.toNat y7))))) no) (ae (aX y3 256) (ret (wI (16+wI (Cv (ByteArray.mk (List.toArray (List.append (List.append [0,1,2,2,3,3,3,3,4,4,4,4,4,4,4,4,5,5,5,5,5,5,5,5,5,5,5,5,5,5,5,5,6,6,6,6,6,6,6,6,6,6,6,6,6,6,6,6,6,6,6,6,6,6,6,6,6,6,6,6,6,6,6,6] [7,7,7,7,7,7,7,7,7,7,7,7,7,7,7,7,7,7,7,7,7,7,7,7,7,7,7,7,7,7,7,7,7,7,7,7,7,7,7,7,7,7,7,7,7,7,7,7,7,7,7,7,7,7,7,7,7,7,7,7,7,7,7,7]) (List.append [8,8,8,8,8,8,8,8,8,8,8,8,8,8,8,8,8,8,8,8,8,8,8,8,8,8,8,8,8,8,8,8,8,8,8,8,8,8,8,8,8,8,8,8,8,8,8,8,8,8,8,8,8,8,8,8,8,8,8,8,8,8,8,8] [8,8,8,8,8,8,8,8,8,8,8,8,8,8,8,8,8,8,8,8,8,8,8,8,8,8,8,8,8,8,8,8,8,8,8,8,8,8,8,8,8,8,8,8,8,8,8,8,8,8,8,8,8,8,8,8,8,8,8,8,8,8,8,8])))) (Int.toNat y3))))) no)) (ae (decide (x0>=256)) (ae (aX y2 256) (ret (wI (8+wI (Cv (ByteArray.mk (List.toArray (List.append (List.append [0,1,2,2,3,3,3,3,4,4,4,4,4,4,4,4,5,5,5,5,5,5,5,5,5,5,5,5,5,5,5,5,6,6,6,6,6,6,6,6,6,6,6,6,6,6,6,6,6,6,6,6,6,6,6,6,6,6,6,6,6,6,6,6] [7,7,7,7,7,7,7,7,7,7,7,7,7,7,7,7,7,7,7,7,7,7,7,7,7,7,7,7,7,7,7,7,7,7,7,7,7,7,7,7,7,7,7,7,7,7,7,7,7,7,7,7,7,7,7,7,7,7,7,7,7,7,7,7]) (List.append [8,8,8,8,8,8,8,8,8,8,8,8,8,8,8,8,8,8,8,8,8,8,8,8,8,8,8,8,8,8,8,8,8,8,8,8,8,8,8,8,8,8,8,8,8,8,8,8,8,8,8,8,8,8,8,8,8,8,8,8,8,8,8,8] [8,8,8,8,8,8,8,8,8,8,8,8,8,8,8,8,8,8,8,8,8,8,8,8,8,8,8,8,8,8,8,8,8,8,8,8,8,8,8,8,8,8,8,8,8,8,8,8,8,8,8,8,8,8,8,8,8,8,8,8,8,8,8,8])))) (Int.toNat y2))))) no) (ae (aX (IntKind.wrap IntKind.u8 x0) 256) (ret (wI (0+wI (Cv (ByteArray.mk (List.toArray (List.append (List.append [0,1,2,2,3,3,3,3,4,4,4,4,4,4,4,4,5,5,5,5,5,5,5,5,5,5,5,5,5,5,5,5,6,6,6,6,6,6,6,6,6,6,6,6,6,6,6,6,6,6,6,6,6,6,6,6,6,6,6,6,6,6,6,6] [7,7,7,7,7,7,7,7,7,7,7,7,7,7,7,7,7,7,7,7,7,7,7,7,7,7,7,7,7,7,7,7,7,7,7,7,7,7,7,7,7,7,7,7,7,7,7,7,7,7,7,7,7,7,7,7,7,7,7,7,7,7,7,7]) (List.append [8,8,8,8,8,8,8,8,8,8,8,8,8,8,8,8,8,8,8,8,8,8,8,8,8,8,8,8,8,8,8,8,8,8,8,8,8,8,8,8,8,8,8,8,8,8,8,8,8,8,8,8,8,8,8,8,8,8,8,8,8,8,8,8] [8,8,8,8,8,8,8,8,8,8,8,8,8,8,8,8,8,8,8,8,8,8,8,8,8,8,8,8,8,8,8,8,8,8,8,8,8,8,8,8,8,8,8,8,8,8,8,8,8,8,8,8,8,8,8,8,8,8,8,8,8,8,8,8])))) (Int.toNat (IntKind.wrap IntKind.u8 x0)))))) no)))
def Gf:=λx0=>(Zm x0).val
theorem aDJ:D0 [] 254 anJ (lf TT) λb=>Zm b:=λb=>by kernel_rfl
theorem aDK [ax]:SC (anM Gf):=s0 (.nil _) aDJ
def JJ:=qa (pl aEM nil)
def yk:=qe Fi
abbrev JK:=yk.B
abbrev zG:=Int->Option JK
def JL (g:zG):Ct:=(245,FC JJ (lf yk) (λb=>g b))
def zH (NS:anL)(x0:Int):Pg JK:=opt (NS x0) λd=>ret (wI (64-d))
def nw:=λx0=>(zH Gf x0).val
theorem adR:∀NS,D0 [anM NS] 245 JJ (lf yk) λb=>zH NS b:=λ_ b=>by kernel_rfl
theorem adS [ax]:SC (JL nw):=s0 (.c aDK (.nil _)) (adR Gf)
def anN:=qa (pl (c an (c an aEM)) nil)
def TU:=qe aLz
abbrev anO:=TU.B
abbrev anP:=Int->Int->Int->Option anO
def anQ (g:anP):Ct:=(218,FC anN (lf TU) (λb=>g b.1 b.2.1 b.b))
def tg:=qs (st (pl (us 2 (c an (us 5 (c an (c an (c an (c an (us 1 (c an (c an (c an (cl an (us 88 aKZ))))))))))))) (pu nil nil)))
def arW:=qs (st (pl (us 2 (c an (us 5 (c an (c an (c an (c an (us 1 (c an (c an (c an (c an (us 50 (c an (c ab (cu LZ (xs 8 (cu LZ aRv)))))))))))))))))) (pu nil nil)))
def arX:=qs (st (pl (us 2 (c an (us 5 (c an (c an (c an (c an (us 1 (c an (c an (c an (c an (us 50 (c an (c ab (cu kv (c an (c an (c an (c an (c an (c an (c an (c ab (c ab aRv))))))))))))))))))))))))) (pu nil nil)))
def arY:=qs (st (pl (us 2 (c an (us 5 (c an (c an (c an (c an (us 1 (c an (c an (c an (c an (us 50 (c an (c ab (cu kv (c an (c an (c an (c an (c an (c an (c an (c ab (cl ab (us 26 aKZ)))))))))))))))))))))))))) (pu nil nil)))
abbrev G7:=aU0⊕aUY
def agd {ρ:Type}(x:G7)(K:AX->St->Option ρ):Option ρ:=(Sum.elim (λd=>K (.ex 0) (arW.em (d.1,d.2.1,d.b.1,d.b.2.1,d.c.1,d.c.2.1,d.c.b.1,d.c.b.2.1,d.d.1,d.d.2.1,d.d.b.1,d.d.2.1,d.c.b.2.1,d.d.b.2.1,d.b.1,d.d.1,d.d.1,d.d.c))) (Sum.elim (λd=>K (.ex 0) (arX.em (d.1,d.2.1,d.b.1,d.b.2.1,d.c.1,d.c.2.1,d.c.b.1,d.c.b.2.1,d.d.1,d.d.2.1,d.d.b.1,d.d.2.1,d.b.2.1,d.d.b.2.1,d.d.c.1,d.d.c.2.1,d.c.2.1,d.d.c.b.1,d.d.c.b.2.1,d.d.c.b.2.1,d.d.2.1,d.c.b.2.1,d.d.c.1,d.b.1,d.d.1,d.d.1,d.e))) (λd=>K (.ex 0) (arY.em (d.1,d.2.1,d.b.1,d.b.2.1,d.c.1,d.c.2.1,d.c.b.1,d.c.b.2.1,d.d.1,d.c.b.2.1,d.d.2.1,d.c.b.2.1,d.b.2.1,d.d.b.1,d.d.1,d.d.b.2.1,d.c.2.1,d.d.c.1,d.d.c.2,d.d.c.2))))) x
def G8 (d:tg.B):PL tg G7:=let y0:=wU (4294967296*d.2.2.2.2.2.2.2.2);let y1:=wU (d.2.2.2.2.2.2.2.1-1);let y2:=wU (d.2.2.2.2.2.2.2.2+d.2.2.1);let y3:=wU (d.2.2.2.2.2.2.2.1*d.2.2.2.1);let y4:=decide (d.2.2.2.2.2.2.2.1>=4294967296);let y5:=wU (y0+d.2.2.2.2.2.1);let y6:=decide (y2>=4294967296);let y7:=decide (y3>y5);ae y4 (ae y6 (ret (Sum.inr (Sum.inl (d.1,d.2.1,d.2.2.1,d.2.2.2.1,d.2.2.2.2.1,d.2.2.2.2.2.1,d.2.2.2.2.2.2.1,y1,y2,d.2.2.2.2.2.2.2.1,y4,d.2.2.2.2.2.2.2.2,y6)))) (ret (Sum.inl (d.1,d.2.1,d.2.2.1,d.2.2.2.1,d.2.2.2.2.1,d.2.2.2.2.2.1,d.2.2.2.2.2.2.1,y1,y2)))) (ae y7 (ae y6 (ret (Sum.inr (Sum.inr (Sum.inl (d.1,d.2.1,d.2.2.1,d.2.2.2.1,d.2.2.2.2.1,d.2.2.2.2.2.1,d.2.2.2.2.2.2.1,y1,y2,d.2.2.2.2.2.2.2.1,y4,y3,d.2.2.2.2.2.2.2.2,y0,y5,y7,y6))))) (ret (Sum.inl (d.1,d.2.1,d.2.2.1,d.2.2.2.1,d.2.2.2.2.1,d.2.2.2.2.2.1,d.2.2.2.2.2.2.1,y1,y2)))) (ret (Sum.inr (Sum.inr (Sum.inr (d.1,d.2.1,d.2.2.1,d.2.2.2.1,d.2.2.2.2.1,d.2.2.2.2.2.1,d.2.2.2.2.2.2.1,d.2.2.2.2.2.2.2.1,d.2.2.2.2.2.2.2.2,y4,y3,y0,y5,y7))))))
def G9:=bD (G8) 2000
def th:=qs (st (pl (us 2 (c an (us 5 (c an (c an (c an (us 3 (c an (c an (c an (c an (cl an (us 116 nil))))))))))))) (pu nil nil)))
def arZ:=qs (st (pl (us 2 (c an (us 5 (c an (c an (c an (us 3 (c an (c an (c an (c an (c an (us 83 (c an (c ab (cu LZ (xs 8 (cu LZ aRj)))))))))))))))))) (pu nil nil)))
def ar0:=qs (st (pl (us 2 (c an (us 5 (c an (c an (c an (us 3 (c an (c an (c an (c an (c an (us 83 (c an (c ab (cu kv (c an (c an (c an (c an (c an (c an (c an (c ab (c ab aRj))))))))))))))))))))))))) (pu nil nil)))
def ar1:=qs (st (pl (us 2 (c an (us 5 (c an (c an (c an (us 3 (c an (c an (c an (c an (c an (us 83 (c an (c ab (cu kv (c an (c an (c an (c an (c an (c an (c an (c ab aK1)))))))))))))))))))))))) (pu nil nil)))
abbrev G':=aU0⊕aUY
def age {ρ:Type}(x:G')(K:AX->St->Option ρ):Option ρ:=(Sum.elim (λd=>K (.ex 2) (arZ.em (d.1,d.2.1,d.b.1,d.b.2.1,d.c.1,d.c.2.1,d.c.b.1,d.c.b.2.1,d.d.1,d.d.2.1,d.d.b.1,d.d.2.1,d.d.1,d.d.b.2.1,d.b.1,d.c.b.1,d.c.b.1,d.d.c))) (Sum.elim (λd=>K (.ex 2) (ar0.em (d.1,d.2.1,d.b.1,d.b.2.1,d.c.1,d.c.2.1,d.c.b.1,d.c.b.2.1,d.d.1,d.d.2.1,d.d.b.1,d.d.2.1,d.b.2.1,d.d.b.2.1,d.d.c.1,d.d.c.2.1,d.c.1,d.d.c.b.1,d.d.c.b.2.1,d.d.c.b.2.1,d.d.2.1,d.d.1,d.d.c.1,d.b.1,d.c.b.1,d.c.b.1,d.e))) (λd=>K (.ex 2) (ar1.em (d.1,d.2.1,d.b.1,d.b.2.1,d.c.1,d.c.2.1,d.c.b.1,d.c.b.2.1,d.d.1,d.d.1,d.d.2.1,d.d.1,d.b.2.1,d.d.b.1,d.c.b.1,d.d.b.2.1,d.c.1,d.d.c.1,d.d.c.2,d.d.c.2))))) x
def Ha (d:th.B):PL th G':=let y0:=wU (4294967296*d.2.2.2.2.2.2.1);let y1:=wU (d.2.2.2.2.2.2.2.2-1);let y2:=wU (d.2.2.2.2.2.2.1+d.2.2.1);let y3:=wU (d.2.2.2.2.2.2.2.2*d.2.2.2.1);let y4:=wU (y0+d.2.2.2.2.1);let y5:=decide (d.2.2.2.2.2.2.2.2>=4294967296);let y6:=decide (y2>=4294967296);let y7:=decide (y3>y4);ae y5 (ae y6 (ret (Sum.inr (Sum.inl (d.1,d.2.1,d.2.2.1,d.2.2.2.1,d.2.2.2.2.1,d.2.2.2.2.2.1,y2,d.2.2.2.2.2.2.2.1,y1,d.2.2.2.2.2.2.2.2,y5,d.2.2.2.2.2.2.1,y6)))) (ret (Sum.inl (d.1,d.2.1,d.2.2.1,d.2.2.2.1,d.2.2.2.2.1,d.2.2.2.2.2.1,y2,d.2.2.2.2.2.2.2.1,y1)))) (ae y7 (ae y6 (ret (Sum.inr (Sum.inr (Sum.inl (d.1,d.2.1,d.2.2.1,d.2.2.2.1,d.2.2.2.2.1,d.2.2.2.2.2.1,y2,d.2.2.2.2.2.2.2.1,y1,d.2.2.2.2.2.2.2.2,y5,y3,d.2.2.2.2.2.2.1,y0,y4,y7,y6))))) (ret (Sum.inl (d.1,d.2.1,d.2.2.1,d.2.2.2.1,d.2.2.2.2.1,d.2.2.2.2.2.1,y2,d.2.2.2.2.2.2.2.1,y1)))) (ret (Sum.inr (Sum.inr (Sum.inr (d.1,d.2.1,d.2.2.1,d.2.2.2.1,d.2.2.2.2.1,d.2.2.2.2.2.1,d.2.2.2.2.2.2.1,d.2.2.2.2.2.2.2.1,d.2.2.2.2.2.2.2.2,y5,y3,y0,y4,y7))))))
def Hb:=bD (Ha) 2000
def Zn (adT:zG)(dA:LT tg G7)(oV:LT th G')(x0:Int)(x1:Int)(x2:Int):Pg anO:=let y0:= !decide (x2=0);ae (x2==0) no (ae (decide (x2<=x0)) no (ae (x0==0) (ae y0 (ae y0 (ret (wU (Int.tdiv x1 x2),Int.tmod x1 x2)) no) no) (opt (adT x2) λd=>let y0:=wU (64-wU d);let y1:=2^min (Int.toNat (wU d)) 64;let y2:= !decide (wU d<0);let y3:=wU (x1*y1);let y4:=wU (x2*y1);let y5:=Int.fdiv y4 4294967296;let y6:=wU (Int.ofNat (BitVec.toNat (BitVec.ofInt 64 (wU (x0*y1))|||BitVec.ofInt 64 (Int.fdiv x1 (2^min (Int.toNat y0) 64)))));let y7:=wU (Int.tdiv y6 y5);ae y2 (ae y2 (ae (!decide (y0<0)) (ae y2 (ae (!decide (y5=0)) (opt (dA (y4,wU d,y5,wU (Int.ofNat (BitVec.toNat (BitVec.ofInt 64 y4&&&BitVec.ofInt 64 4294967295))),y6,Int.fdiv y3 4294967296,wU (Int.ofNat (BitVec.toNat (BitVec.ofInt 64 y3&&&BitVec.ofInt 64 4294967295))),y7,wU (y6-wU (y7*y5)))) λx=>sum x (λd=>let y0:=wU (wU (wU (d.2.2.2.2.1*4294967296)+d.2.2.2.2.2.1)-wU (d.2.2.2.2.2.2.2.1*d.1));let y1:=wU (Int.tdiv y0 d.2.2.1);ae (!decide (d.2.2.1=0)) (opt (oV (d.1,d.2.1,d.2.2.1,d.2.2.2.1,d.2.2.2.2.2.2.1,d.2.2.2.2.2.2.2.1,wU (y0-wU (y1*d.2.2.1)),y0,y1)) λx=>sum x (λd=>ae (!decide (d.2.1<0)) (ret (wU (wU (d.2.2.2.2.2.1*4294967296)+d.2.2.2.2.2.2.2.2.1),Int.fdiv (wU (wU (wU (d.2.2.2.2.2.2.2.1*4294967296)+d.2.2.2.2.1)-wU (d.2.2.2.2.2.2.2.2.1*d.1))) (2^min (Int.toNat d.2.1) 64))) no) λx=>sum x (λd=>ae (!decide (d.2.1<0)) (ret (wU (wU (d.2.2.2.2.2.1*4294967296)+d.2.2.2.2.2.2.2.2.1),Int.fdiv (wU (wU (wU (d.2.2.2.2.2.2.2.1*4294967296)+d.2.2.2.2.1)-wU (d.2.2.2.2.2.2.2.2.1*d.1))) (2^min (Int.toNat d.2.1) 64))) no) λd=>ae (!decide (d.2.1<0)) (ret (wU (wU (d.2.2.2.2.2.1*4294967296)+d.2.2.2.2.2.2.2.2.1),Int.fdiv (wU (wU (wU (d.2.2.2.2.2.2.2.1*4294967296)+d.2.2.2.2.1)-wU (d.2.2.2.2.2.2.2.2.1*d.1))) (2^min (Int.toNat d.2.1) 64))) no) no) λx=>sum x (λd=>let y0:=wU (wU (wU (d.2.2.2.2.1*4294967296)+d.2.2.2.2.2.1)-wU (d.2.2.2.2.2.2.2.1*d.1));let y1:=wU (Int.tdiv y0 d.2.2.1);ae (!decide (d.2.2.1=0)) (opt (oV (d.1,d.2.1,d.2.2.1,d.2.2.2.1,d.2.2.2.2.2.2.1,d.2.2.2.2.2.2.2.1,wU (y0-wU (y1*d.2.2.1)),y0,y1)) λx=>sum x (λd=>ae (!decide (d.2.1<0)) (ret (wU (wU (d.2.2.2.2.2.1*4294967296)+d.2.2.2.2.2.2.2.2.1),Int.fdiv (wU (wU (wU (d.2.2.2.2.2.2.2.1*4294967296)+d.2.2.2.2.1)-wU (d.2.2.2.2.2.2.2.2.1*d.1))) (2^min (Int.toNat d.2.1) 64))) no) λx=>sum x (λd=>ae (!decide (d.2.1<0)) (ret (wU (wU (d.2.2.2.2.2.1*4294967296)+d.2.2.2.2.2.2.2.2.1),Int.fdiv (wU (wU (wU (d.2.2.2.2.2.2.2.1*4294967296)+d.2.2.2.2.1)-wU (d.2.2.2.2.2.2.2.2.1*d.1))) (2^min (Int.toNat d.2.1) 64))) no) λd=>ae (!decide (d.2.1<0)) (ret (wU (wU (d.2.2.2.2.2.1*4294967296)+d.2.2.2.2.2.2.2.2.1),Int.fdiv (wU (wU (wU (d.2.2.2.2.2.2.2.1*4294967296)+d.2.2.2.2.1)-wU (d.2.2.2.2.2.2.2.2.1*d.1))) (2^min (Int.toNat d.2.1) 64))) no) no) λd=>let y0:=wU (wU (wU (d.2.2.2.2.1*4294967296)+d.2.2.2.2.2.1)-wU (d.2.2.2.2.2.2.2.1*d.1));let y1:=wU (Int.tdiv y0 d.2.2.1);ae (!decide (d.2.2.1=0)) (opt (oV (d.1,d.2.1,d.2.2.1,d.2.2.2.1,d.2.2.2.2.2.2.1,d.2.2.2.2.2.2.2.1,wU (y0-wU (y1*d.2.2.1)),y0,y1)) λx=>sum x (λd=>ae (!decide (d.2.1<0)) (ret (wU (wU (d.2.2.2.2.2.1*4294967296)+d.2.2.2.2.2.2.2.2.1),Int.fdiv (wU (wU (wU (d.2.2.2.2.2.2.2.1*4294967296)+d.2.2.2.2.1)-wU (d.2.2.2.2.2.2.2.2.1*d.1))) (2^min (Int.toNat d.2.1) 64))) no) λx=>sum x (λd=>ae (!decide (d.2.1<0)) (ret (wU (wU (d.2.2.2.2.2.1*4294967296)+d.2.2.2.2.2.2.2.2.1),Int.fdiv (wU (wU (wU (d.2.2.2.2.2.2.2.1*4294967296)+d.2.2.2.2.1)-wU (d.2.2.2.2.2.2.2.2.1*d.1))) (2^min (Int.toNat d.2.1) 64))) no) λd=>ae (!decide (d.2.1<0)) (ret (wU (wU (d.2.2.2.2.2.1*4294967296)+d.2.2.2.2.2.2.2.2.1),Int.fdiv (wU (wU (wU (d.2.2.2.2.2.2.2.1*4294967296)+d.2.2.2.2.1)-wU (d.2.2.2.2.2.2.2.2.1*d.1))) (2^min (Int.toNat d.2.1) 64))) no) no) no) no) no) no) no)))
def Gg:=λx0 x1 x2=>(Zn nw G9 Hb x0 x1 x2).val
abbrev Gh:=zG×(LT tg G7)×(LT th G')
def NT (p:Gh):KK:=⟨[JL p.1],⟨[⟨17,(0::1::rg 3 5 (12::rg 17 53 (rg 78 27 (rg 113 22 (rg 70 8 []))))),[]⟩,⟨24,(0::1::rg 3 5 (11::12::13::rg 19 86 (rg 113 22 (rg 105 8 [])))),[]⟩],[fg 17 0 tg agd p.2.1,fg 24 0 th age p.b],[],[],(some ⟨0,(rg 0 6 (rg 8 127 [])),[]⟩)⟩,0,218⟩
theorem avh (p:Gh):LI (NT p) 17 tg agd (G8):=λ_ d c K=>by kernel_rfl
theorem avi (p:Gh):LI (NT p) 24 th age (Ha):=λ_ d c K=>by kernel_rfl
theorem aDL (p:Gh):D2 (NT p) anN (lf TU) λb=>Zn p.1 p.2.1 p.b b.1 b.2.1 b.b:=λb=>by kernel_rfl
abbrev NU:Gh:=(nw,G9,Hb)
theorem aDM [ax]:SC (anQ Gg):=sc (kS (k:=NT NU) (.c adS (.nil _)) [17,24] [] ⟨kL (avh NU),⟨kL (avi NU),trivial⟩⟩ trivial (aDL NU))
def aw4:=qa (pl (c ac2 fU) nil)
def adU:=qe auH
abbrev aw5:=adU.B
abbrev aiY:=Int->Int->Int->Option aw5
def aiZ (g:aiY):Ct:=(175,FC aw4 (lf adU) (λb=>g b.1.1 b.1.2 b.2))
def ai0 (vU:aiR)(gB:NN)(NV:anP)(eG:tf)(eH:yj)(x0:Int)(x1:Int)(x2:Int):Pg aw5:=ae (x2==0) (ret (0,false)) (opt (vU x0 x1) λd=>let y0:= !d.2==decide (x2<0);opt (gB x2) λaj=>let pA:=wU (Int.tdiv d.1.1 aj);let y1:= !decide (aj=0);ae y1 (ae y1 (opt (NV (Int.tmod d.1.1 aj) d.1.2 aj) λd=>ae (decide (d.2>=wU (aj-d.2))) (opt (eG pA d.1 0 1) λd=>opt (eH d.1 d.2 y0) λd=>ret d) (opt (eH pA d.1 y0) λd=>ret d)) no) no)
def zi:=λx0 x1 x2=>(ai0 De pB Gg hO hX x0 x1 x2).val
theorem aJC:∀vU gB NV eG eH,D0 [aiS vU,NO gB,anQ NV,Ep eG,Er eH] 175 aw4 (lf adU) λb=>ai0 vU gB NV eG eH b.1.1 b.1.2 b.2:=λ_ _ _ _ _ b=>by kernel_rfl
theorem aw6 [ax]:SC (aiZ zi):=s0 (.c aw3 (.c Zg (.c aDM (.c Mj (.c Mm (.nil _)))))) (aJC De pB Gg hO hX)
def ar2:=qa (pr (cu aP (c ac2 fU)) bB)
def Zo:=qe oQ
abbrev ar3:=Zo.B
abbrev adV:=Int->Int->Int->Bool->Option ar3
def adW (g:adV):Ct:=(108,FC ar2 (lf Zo) (λb=>g b.1.1.1 b.1.1.2 b.1.2 b.2))
def JM (iB:TK)(vV:aiY)(lN:Gd)(x0:Int)(x1:Int)(x2:Int)(x3:Bool):Pg ar3:=let y0:=decide (x0<0);ae (x2==0) (ae (x0==0&&(x1==0&&true)) (ret (0,true)) (opt (iB y0) λd=>ret (d,true))) (opt (vV x0 x1 x2) λd=>opt (lN d.1 d.2 (!y0==decide (x2<0)) x3) λd=>ret d)
def vX:=λx0 x1 x2 x3=>(JM oU zi lM x0 x1 x2 x3).val
theorem aGX:∀iB vV lN,D0 [TL iB,aiZ vV,NR lN] 108 ar2 (lf Zo) λb=>JM iB vV lN b.1.1.1 b.1.1.2 b.1.2 b.2:=λ_ _ _ b=>by kernel_rfl
theorem ar4 [ax]:SC (adW vX):=s0 (.c adQ (.c aw6 (.c Zk (.nil _)))) (aGX oU zi lM)
def abq:=qa (pr (cu aP C4) bB)
def JN:=qe oQ
abbrev abr:=JN.B
abbrev bY:=Int->Int->Int->Bool->Option abr
def cV (g:bY):Ct:=(65,FC abq (lf JN) (λb=>g b.1.1 b.1.2.1 b.1.b b.2))
def Es (aw:bI)(cE:mF)(rU:adV)(x0:Int)(x1:Int)(x2:Int)(x3:Bool):Pg abr:=opt (aw x0 x3) λd=>opt (aw x1 d.2) λaj=>opt (cE d.1 aj.1) λd=>opt (aw x2 aj.2) λaF=>opt (rU d.1 d.2 aF.1 aF.2) λd=>ret d
def aU:=λx0 x1 x2 x3=>(Es aQ eQ vX x0 x1 x2 x3).val
theorem avj:∀aw cE rU,D0 [cW aw,vT cE,adW rU] 65 abq (lf JN) λb=>Es aw cE rU b.1.1 b.1.2.1 b.1.b b.2:=λ_ _ _ b=>by kernel_rfl
theorem c9 [ax]:SC (cV aU):=s0 (.c c7 (.c zh (.c ar4 (.nil _)))) (avj aQ eQ vX)
def JO:=qa (pr (c ai (c ai aF8)) (cu apB bB))
def ym:=qe aLw
abbrev JP:=ym.B
abbrev zI:=Int->Int->Int->Int->Bool->Option JP
def zJ (g:zI):Ct:=(248,FC JO (lf ym) (λb=>g b.1.1 b.1.2.1 b.1.b.1 b.1.b.2 b.2))
def zK (aq:bY)(x0:Int)(x1:Int)(x2:Int)(x3:Int)(x4:Bool):Pg JP:=opt (aq (wI (x1-x0)) x2 x3 x4) λd=>ret (wI (x0+d.1),d.2)
def iC:=λx0 x1 x2 x3 x4=>(zK aU x0 x1 x2 x3 x4).val
theorem adX:∀aq,D0 [cV aq] 248 JO (lf ym) λb=>zK aq b.1.1 b.1.2.1 b.1.b.1 b.1.b.2 b.2:=λ_ b=>by kernel_rfl
theorem JQ [ax]:SC (zJ iC):=s0 (.c c9 (.nil _)) (adX aU)
def anR:=qa (pl wY nil)
def TV:=qe aLD
abbrev anS:=TV.B
abbrev Zp:=Int->Int->Option anS
def Zq (g:Zp):Ct:=(112,FC anR (lf TV) (λb=>g b.1 b.2))
def Zr (gB:NN)(iW:Be)(gY:Bf)(nu:TH)(x0:Int)(x1:Int):Pg anS:=ae (decide (x1<0)) (ret ((0,0),false)) (ae (decide (x1>127)) (ret ((0,0),false)) (opt (gB x0) λd=>opt (iW 0 d x1) λaj=>opt (gY aj.1 aj.2 x1) λaF=>ae (!(aF.1==0&&(aF.2==d&&true))) (ret ((0,0),false)) (opt (nu aj.1 aj.2 (decide (x0<0))) λd=>ae (!d.2) (ret ((0,0),false)) (ret (d.1,true)))))
def sS:=λx0 x1=>(Zr pB fW gX lL x0 x1).val
theorem aDN:∀gB iW gY nu,D0 [NO gB,G3 iW,G4 gY,TI nu] 112 anR (lf TV) λb=>Zr gB iW gY nu b.1 b.2:=λ_ _ _ _ b=>by kernel_rfl
theorem anT [ax]:SC (Zq sS):=s0 (.c Zg (.c P' (.c Qa (.c aiO (.nil _))))) (aDN pB fW gX lL)
def anU:=qa (pr (cu aP C4) bB)
def TW:=qe oQ
abbrev anV:=TW.B
abbrev cz:=Int->Int->Int->Bool->Option anV
def fL (g:cz):Ct:=(69,FC anU (lf TW) (λb=>g b.1.1 b.1.2.1 b.1.b b.2))
def NW (aw:bI)(pD:Zp)(rU:adV)(x0:Int)(x1:Int)(x2:Int)(x3:Bool):Pg anV:=opt (aw x0 x3) λd=>opt (aw x1 d.2) λaj=>ae (decide (x2<0)) (ret (0,true)) (ae (decide (x2>66)) (ret (0,true)) (opt (pD d.1 x2) λd=>opt (rU d.1.1 d.1.2 aj.1 aj.2) λd=>ret d))
def bp:=λx0 x1 x2 x3=>(NW aQ sS vX x0 x1 x2 x3).val
theorem aDO:∀aw pD rU,D0 [cW aw,Zq pD,adW rU] 69 anU (lf TW) λb=>NW aw pD rU b.1.1 b.1.2.1 b.1.b b.2:=λ_ _ _ b=>by kernel_rfl
theorem gC [ax]:SC (fL bp):=s0 (.c c7 (.c anT (.c ar4 (.nil _)))) (aDO aQ sS vX)
def abt:=qa (pl (c Tn (cl Tn nil)) nil)
def JR:=qe B3
abbrev abu:=JR.B
abbrev Et:=Int->Int->Int->Int->Option abu
def abv (g:Et):Ct:=(220,FC abt (lf JR) (λb=>g b.1.1 b.1.2 b.2.1 b.b))
def Mo (x0:Int)(x1:Int)(x2:Int)(x3:Int):Pg abu:=ae (decide (x0<x2)) (ret true) (ae (x0==x2) (ret (decide (x1<x3))) (ret false))
def ti:=λx0 x1 x2 x3=>(Mo x0 x1 x2 x3).val
theorem avk:D0 [] 220 abt (lf JR) λb=>Mo b.1.1 b.1.2 b.2.1 b.b:=λb=>by kernel_rfl
theorem avl [ax]:SC (abv ti):=s0 (.nil _) avk
def XF:=qa (pl (c Tn (cl Tn nil)) nil)
def HN:=qe aGc
abbrev XG:=HN.B
abbrev JS:=Int->Int->Int->Int->Option XG
def XH (g:JS):Ct:=(221,FC XF (lf HN) (λb=>g b.1.1 b.1.2 b.2.1 b.b))
def JT (ai1:aS5)(x0:Int)(x1:Int)(x2:Int)(x3:Int):Pg XG:=opt (ai1 x1 x3 0) λd=>opt (ai1 x0 x2 d.2) λaj=>ret (aj.1,d.1)
def vY:=λx0 x1 x2 x3=>(JT abl x0 x1 x2 x3).val
theorem ar5:∀ai1,D0 [aJw ai1] 221 XF (lf HN) λb=>JT ai1 b.1.1 b.1.2 b.2.1 b.b:=λ_ b=>by kernel_rfl
theorem ar6 [ax]:SC (XH vY):=s0 (.c aPa (.nil _)) (ar5 abl)
def ar7:=qa (pl aAC nil)
def Zs:=qe auH
abbrev ar8:=Zs.B
abbrev ar9:=Int->Int->Option ar8
def asa (g:ar9):Ct:=(177,FC ar7 (lf Zs) (λb=>g b.1 b.2))
def vz:=qs (st (pr (us 4 (cu (app 0 2) (cu aIo (cl ai (us 44 nil))))) (pl (c (so auw) (cl (so auw) nil)) nil)))
def aB0:=qs (st (pr (us 4 (cu (app 0 2) (cu aIo (c ai (us 12 aQD))))) (pl (c (so auw) (cl (so auw) nil)) nil)))
abbrev JU:=((Int×Bool)×(Int×Int)×Int×Int)
def ai2 {ρ:Type}(x:JU)(K:AX->St->Option ρ):Option ρ:=(λd=>K (.ex 0) (aB0.em ((d.1.1,d.1),d.2))) x
def JV (iW:Be)(eG:tf)(gY:Bf)(Mp:Et)(asb:JS)(d:vz.B):PL vz JU:=let y0:=wI (d.1-2);let y1:=decide (d.1>=0);ae y1 (opt (iW 0 1 d.1) λaj=>opt (eG d.2.2.1 d.2.2.2 aj.1 aj.2) λaF=>opt (gY d.2.2.1 d.2.2.2 1) λbx=>opt (Mp d.2.1.1 d.2.1.2 aF.1 aF.2) λcv=>ae (!cv) (opt (asb d.2.1.1 d.2.1.2 aF.1 aF.2) λd=>opt (eG bx.1 bx.2 aj.1 aj.2) λdN=>ret (Sum.inl (y0,d,dN))) (ret (Sum.inl (y0,d.2.1,bx)))) (ret (Sum.inr ((d.1,y1),d.2)))
def TX:=bD (JV fW hO gX ti vY) 2000
def adY (eG:tf)(Mp:Et)(eH:yj)(dA:LT vz JU)(x0:Int)(x1:Int):Pg ar8:=ae (decide (x0<0)) (ret (0,false)) (opt (dA (126,(wU x0,x1),0,0)) λd=>opt (Mp d.2.2.1 d.2.2.2 d.2.1.1 d.2.1.2) λaj=>ae aj (opt (eG d.2.2.1 d.2.2.2 0 1) λd=>opt (eH d.1 d.2 false) λd=>ret d) (opt (eH d.2.2.1 d.2.2.2 false) λd=>ret d))
def JW:=λx0 x1=>(adY hO ti hX TX x0 x1).val
abbrev Sq:=Be×tf×Bf×Et×JS×yj×(LT vz JU)
def adZ (p:Sq):KK:=⟨[G3 p.1,Ep p.2.1,G4 p.b.1,abv p.b.2.1,XH p.c.1,Er p.c.2.1],⟨[⟨5,(rg 0 4 (rg 7 44 [])),[]⟩],[fg 5 0 vz ai2 p.c.b],[],[],(some ⟨0,(0::1::rg 4 47 []),[]⟩)⟩,0,177⟩
theorem ay7 (p:Sq):LI (adZ p) 5 vz ai2 (JV p.1 p.2.1 p.b.1 p.b.2.1 p.c.1):=λ_ d c K=>by kernel_rfl
theorem aGY (p:Sq):D2 (adZ p) ar7 (lf Zs) λb=>adY p.2.1 p.b.2.1 p.c.2.1 p.c.b b.1 b.2:=λb=>by kernel_rfl
abbrev ad3:Sq:=(fW,hO,gX,ti,vY,hX,TX)
theorem aGZ [ax]:SC (asa JW):=sc (kS (k:=adZ ad3) (.c P' (.c Mj (.c Qa (.c avl (.c ar6 (.c Mm (.nil _))))))) [5] [] ⟨kL (ay7 ad3),trivial⟩ trivial (aGY ad3))
def aw7:=qa (pr (cu aP aAC) bB)
def ad4:=qe oQ
abbrev aw8:=ad4.B
abbrev XI:=Int->Int->Bool->Option aw8
def ai3 (g:XI):Ct:=(113,FC aw7 (lf ad4) (λb=>g b.1.1 b.1.2 b.2))
def ai4 (Sr:ar9)(aw:bI)(x0:Int)(x1:Int)(x2:Bool):Pg aw8:=opt (Sr x0 x1) λd=>ae (!d.2) (opt (aw 1152921504606846977 x2) λd=>ret d) (opt (aw d.1 x2) λd=>ret d)
def vZ:=λx0 x1 x2=>(ai4 JW aQ x0 x1 x2).val
theorem aJD:∀Sr aw,D0 [asa Sr,cW aw] 113 aw7 (lf ad4) λb=>ai4 Sr aw b.1.1 b.1.2 b.2:=λ_ _ b=>by kernel_rfl
theorem aw9 [ax]:SC (ai3 vZ):=s0 (.c aGZ (.c c7 (.nil _))) (aJD JW aQ)
def asc:=qa (pr (cu aP fU) bB)
def Zt:=qe oQ
abbrev asd:=Zt.B
abbrev ad5:=Int->Bool->Option asd
def ad6 (g:ad5):Ct:=(68,FC asc (lf Zt) (λb=>g b.1 b.2))
def ad7 (aw:bI)(pD:Zp)(IF:XI)(x0:Int)(x1:Bool):Pg asd:=opt (aw x0 x1) λd=>ae (decide (d.1<0)) (ret (0,true)) (opt (pD d.1 30) λaj=>opt (IF aj.1.1 aj.1.2 d.2) λd=>ret d)
def zL:=λx0 x1=>(ad7 aQ sS vZ x0 x1).val
theorem aG0:∀aw pD IF,D0 [cW aw,Zq pD,ai3 IF] 68 asc (lf Zt) λb=>ad7 aw pD IF b.1 b.2:=λ_ _ _ b=>by kernel_rfl
theorem ase [ax]:SC (ad6 zL):=s0 (.c c7 (.c anT (.c aw9 (.nil _)))) (aG0 aQ sS vZ)
def asf:=qa (pl fU nil)
def Zu:=qe Fi
abbrev asg:=Zu.B
abbrev wb:=Int->Option asg
def zM (g:wb):Ct:=(109,FC asf (lf Zu) (λb=>g b))
def Ss (x0:Int):Pg asg:=let y0:=Int.tmod x0 6746518852;ae (decide (y0>3373259426)) (ret (wI (y0-6746518852))) (ae (decide (y0<= -3373259426)) (ret (wI (y0+6746518852))) (ret y0))
def jt:=λx0=>(Ss x0).val
theorem aG1:D0 [] 109 asf (lf Zu) λb=>Ss b:=λb=>by kernel_rfl
theorem Eu [ax]:SC (zM jt):=s0 (.nil _) aG1
def aFr:=qa (pl fU nil)
def ap6:=qe Fi
abbrev abw:=ap6.B
abbrev Mq:=Int->Option abw
def abx (g:Mq):Ct:=(99,FC aFr (lf ap6) (λb=>g b))
def BL (x0:Int):Pg abw:=ae (decide (x0>=1152921504606846976)) (ret 1152921504606846976) (ae (decide (x0<= -1152921504606846976)) (ret 1152921504606846976) (ae (decide (x0<0)) (ret (wI (0-x0))) (ret x0)))
def vA:=λx0=>(BL x0).val
theorem aPe:D0 [] 99 aFr (lf ap6) λb=>BL b:=λb=>by kernel_rfl
theorem ami [ax]:SC (abx vA):=s0 (.nil _) aPe
def aFs:=qa (pr (cu aP wY) bB)
def ap7:=qe oQ
abbrev aFt:=ap7.B
abbrev aby:=Int->Int->Bool->Option aFt
def amj (g:aby):Ct:=(110,FC aFs (lf ap7) (λb=>g b.1.1 b.1.2 b.2))
def amk (aB:bN)(x0:Int)(x1:Int)(x2:Bool):Pg aFt:=opt (aB x0 x1 30 x2) λd=>ret d
def IG:=λx0 x1 x2=>(amk aV x0 x1 x2).val
theorem aPf:∀aB,D0 [eJ aB] 110 aFs (lf ap7) λb=>amk aB b.1.1 b.1.2 b.2:=λ_ b=>by kernel_rfl
theorem avm [ax]:SC (amj IG):=s0 (.c eZ (.nil _)) (aPf aV)
def aB1:=qa (pl fU nil)
def ai5:=qe aQ1
abbrev aB2:=ai5.B
abbrev ap8:=Int->Option aB2
def aB3 (g:ap8):Ct:=(219,FC aB1 (lf ai5) (λb=>g b))
def ap9 (x0:Int):Pg aB2:=ret (Int.fdiv x0 9223372036854775808,wU x0)
def TY:=λx0=>(ap9 x0).val
theorem aMU:D0 [] 219 aB1 (lf ai5) λb=>ap9 b:=λb=>by kernel_rfl
theorem aMV [ax]:SC (aB3 TY):=s0 (.nil _) aMU
def axa:=qa (pl (c ac2 aAC) nil)
def ad8:=qe aLD
abbrev axb:=ad8.B
abbrev ai6:=Int->Int->Int->Int->Option axb
def axc (g:ai6):Ct:=(167,FC axa (lf ad8) (λb=>g b.1.1 b.1.2 b.2.1 b.b))
def ai7 (lK:arU)(x0:Int)(x1:Int)(x2:Int)(x3:Int):Pg axb:=let y0:=decide (x0<0);opt (lK x1 x3 0) λd=>opt (lK (wU x0) (wU x2) d.2) λaj=>ae (!y0==decide (x2<0)) (ret ((wI aj.1,d.1),true)) (ret ((wI aj.1,d.1),decide (wI aj.1<0)==y0))
def IH:=λx0 x1 x2 x3=>(ai7 Ba x0 x1 x2 x3).val
theorem aJE:∀lK,D0 [aiK lK] 167 axa (lf ad8) λb=>ai7 lK b.1.1 b.1.2 b.2.1 b.b:=λ_ b=>by kernel_rfl
theorem aJF [ax]:SC (axc IH):=s0 (.c amh (.nil _)) (aJE Ba)
def axd:=qa (dp (cl aQk nil) λa=>(cl (cl (gs a.1 aF0) nil) nil))
def ad9:=qe (res (pl aQ2 (pu Xf nil)))
abbrev axe:=ad9.B
abbrev qc:=Nat->NI->NI->Bool->Option axe
def II (g:qc):Ct:=(101,sQ 0 [.i .i64,.i .u64] (FC axd (lf ad9) (λb=>g b.1.1 b.2.1 b.b b.1.2)))
def yo:=qs (st (dp (us 2 (cu aIo (us 1 (cu awu (us 4 (c aQk (c ai aK2))))))) λa=>(pl (c (so (cl (gs a.1.1 aF0) nil)) (cu aLE YW)) nil)))
def agf:=qs (st (pu (us 2 (cu aIo (cu kv (us 23 nil)))) (pl (cl aLA (cu aLE nil)) nil)))
def ay8:=qs (st (pr (us 2 (cu aIo (us 1 (cu awu (us 4 (c aQk aQU)))))) (pl (c aLA (cu aLE YW)) nil)))
abbrev Gi:=agf.B⊕(aIj×(NI×NI)×Int×Int)
def anW {ρ:Type}(x:Gi)(K:AX->St->Option ρ):Option ρ:=(Sum.elim (λd=>K .ret (agf.em d)) (λd=>K (.ex 0) (ay8.em (d.1,(d.1.1.1,d.2.1),d.b)))) x
def BM (aJG:ai6)(d:yo.B):PL yo Gi:=let y0:=Int.toNat d.1.2.2;let y1:=decide (d.1.2.2<d.1.2.1);ae y1 (ae (aX d.1.2.2 d.1.1.1) (opt (aJG d.2.2.1 d.2.2.2 (d.2.1.1 y0) (d.2.1.2 y0)) λaj=>ae (!aj.2) (ret (Sum.inr (Sum.inl (d.1.1.1,d.2.1)))) (ret (Sum.inl ((d.1.1,d.1.2.1,wI (d.1.2.2+1)),d.2.1,aj.1)))) no) (ret (Sum.inr (Sum.inr ((d.1.1,d.1.2.1,d.1.2.2,y1),d.2))))
def Gj:=bD (BM IH) 2000
def XJ (dA:LT yo Gi)(x0:Nat)(x1:Nat->Int)(x2:Nat->Int)(w0:Bool):Pg axe:=ae (Nat.beq x0 x0) (opt (dA (((x0,w0),Int.ofNat x0,0),(x1,x2),0,0)) λx=>sum x (λd=>ret ((0,0),false)) λd=>ret (d.2.2,true)) no
def ji:=λx0 x1 x2 w0=>(XJ Gj x0 x1 x2 w0).val
abbrev XK:=ai6×(LT yo Gi)
def ai8 (p:XK):KK:=⟨[axc p.1],⟨[⟨3,(0::1::3::rg 5 4 (rg 12 15 [])),[]⟩],[fg 3 1 yo anW p.2],[],[],(some ⟨0,(0::1::rg 4 23 []),[]⟩)⟩,1,101⟩
theorem aB4 (p:XK):LI (ai8 p) 3 yo anW (BM p.1):=λ_ d c K=>by kernel_rfl
theorem aJH (p:XK):D2 (ai8 p) axd (lf ad9) λb=>XJ p.2 b.1.1 b.2.1 b.b b.1.2:=λb=>by kernel_rfl
abbrev ai9:XK:=(IH,Gj)
theorem OD [ax]:SC (II ji):=sc (Sound.nil 0 [.i .i64,.i .u64]<|kS (k:=ai8 ai9) (.c aJF (.nil _)) [3] [] ⟨kL (aB4 ai9),trivial⟩ trivial (aJH ai9))
def anX:=qa (dp (cu aP auA) λa=>(c uN (cl (cl (gs a.1 mE) nil) nil)))
def TZ:=qe aGd
abbrev anY:=TZ.B
abbrev eK:=Nat->Bool->NI->Bool->Option anY
def nm (g:eK):Ct:=(176,sQ 1 [.i .i64] (FC anX (lf TZ) (λb=>g b.1.1 b.2.1 b.b b.1.2)))
def tj:=qs (st (dp (cu aP (us 4 (cu awu (us 4 (c F' (c ai aK3)))))) λa=>(pl (c ck (c (so (cl (gs a.1.1 mE) nil)) YW)) cB)))
def ay9:=qs (st (pr (cu aP (us 4 (cu awu (us 4 (c F' (c ai aLc)))))) (pl (c ck (c HE YW)) cB)))
abbrev Hc:=(aIj×Bool×NI×Int×Int)
def agh {ρ:Type}(x:Hc)(K:AX->St->Option ρ):Option ρ:=(λd=>K (.ex 0) (ay9.em (d.1,d.2.1,(d.1.1.1,d.b.1),d.b.2))) x
def He (aw:bI)(aMW:ap8)(wc:qc)(d:tj.B):PL tj Hc:=let y0:=decide (d.1.2.2<d.1.2.1);ae y0 (ae (aX d.1.2.2 d.1.1.1) (opt (aw (d.2.2.1 (Int.toNat d.1.2.2)) d.2.1) λaj=>opt (aMW aj.1) λaF=>opt (wc 2 (λj=>bif Nat.beq j 1 then aF.1 else bif Nat.beq j 0 then d.2.2.2.1 else d.2.2.2.1) (λj=>bif Nat.beq j 1 then aF.2 else bif Nat.beq j 0 then d.2.2.2.2 else d.2.2.2.2) true) λbx=>ret (Sum.inl ((d.1.1,d.1.2.1,wI (d.1.2.2+1)),aj.2,d.2.2.1,bx.1))) no) (ret (Sum.inr ((d.1.1,d.1.2.1,d.1.2.2,y0),d.2)))
def Qe:=bD (He aQ TY ji) 2000
def Zv (sR:BK)(lN:Gd)(dA:LT tj Hc)(x0:Nat)(x1:Bool)(x2:Nat->Int)(w0:Bool):Pg anY:=ae (Nat.beq x0 x0) (opt (dA (((x0,w0),Int.ofNat x0,0),x1,x2,0,0)) λd=>opt (sR d.2.2.2.1 d.2.2.2.2 0) λaj=>opt (lN aj.1 aj.2 (decide (d.2.2.2.1<0)) d.2.1) λd=>ret d) no
def cG:=λx0 x1 x2 w0=>(Zv pC lM Qe x0 x1 x2 w0).val
abbrev NX:=bI×ap8×qc×BK×Gd×(LT tj Hc)
def Zw (p:NX):KK:=⟨[cW p.1,aB3 p.2.1,II p.b.1,NQ p.b.2.1,NR p.c.1],⟨[⟨3,(rg 1 4 (rg 6 4 (rg 13 26 []))),[]⟩],[fg 3 2 tj agh p.c.2],[0],[],(some ⟨0,(rg 0 4 (rg 5 34 [])),[]⟩)⟩,2,176⟩
theorem avn (p:NX):LI (Zw p) 3 tj agh (He p.1 p.2.1 p.b.1):=λ_ d c K=>by kernel_rfl
theorem aDP (p:NX):D2 (Zw p) anX (lf TZ) λb=>Zv p.b.2.1 p.c.1 p.c.2 b.1.1 b.2.1 b.b b.1.2:=λb=>by kernel_rfl
abbrev Zx:NX:=(aQ,TY,ji,pC,lM,Qe)
theorem pE [ax]:SC (nm cG):=sc (Sound.nil 1 [.i .i64]<|kS (k:=Zw Zx) (.c c7 (.c aMV (.c OD (.c Zj (.c Zk (.nil _)))))) [3] [] ⟨kL (avn Zx),trivial⟩ trivial (aDP Zx))
def aja:=qa (dp (cu aP aLh) λa=>(c uN (cl (cl (gs a.2.1 mE) nil) nil)))
def Qf:=qe aGd
abbrev ajb:=Qf.B
abbrev T0:=Int->Nat->Bool->NI->Bool->Option ajb
def T1 (g:T0):Ct:=(111,sQ 2 [.i .i64] (FC aja (lf Qf) (λb=>g b.1.1 b.1.2.1 b.2.1 b.b b.1.b)))
def ju:=qs (st (pr (cu aP (c ai (us 5 (c ai (us 6 (c aRz (c ai aFW))))))) (pl (c ck aib) cB)))
def abz:=qs (st (pr (cu aP (c ai (us 5 (c ai (us 6 (c aRz (c ai aF1))))))) (pl (c ck aib) cB)))
abbrev tk:=abz.B
def abA {ρ:Type}:=@ef tk ((.ex 0)) abz ρ
def Mr (ix:aby)(bW:eK)(d:ju.B):PL ju tk:=let n1:=d.1.2.2;let n2:=n1.2.2;let y0:=decide (n2<n1.2.1);ae y0 (ae (aX n2 n1.1.1) (opt (ix d.1.1 d.1.2.1 d.2.1) λaj=>opt (bW 2 aj.2 (cr (d.2.2.2 (1+Int.toNat n2)) [aj.1,d.2.2.2 (1+Int.toNat n2)]) true) λaF=>ret (Sum.inl ((d.1.1,aF.1,n1.1,n1.2.1,wI (n2+1)),aF.2,d.2.2))) no) (ret (Sum.inr ((d.1.1,d.1.2.1,n1.1,n1.2.1,n2,y0),d.2)))
def Ms:=bD (Mr IG cG) 2000
def T2 (dA:LT ju tk)(x0:Int)(x1:Nat)(x2:Bool)(x3:Nat->Int)(w0:Bool):Pg ajb:=let y0:=x1-1;ae (aX 0 x1) (ae (Cu 1 x1) (opt (dA ((x0,x3 0,(y0,w0&&true),Int.ofNat y0,0),x2,x1,x3)) λd=>ret (d.1.2.1,d.2.1)) no) no
def lO:=λx0 x1 x2 x3 w0=>(T2 Ms x0 x1 x2 x3 w0).val
abbrev JX:=aby×eK×(LT ju tk)
def T3 (p:JX):KK:=⟨[amj p.1,nm p.2.1],⟨[⟨3,(rg 2 5 (rg 8 6 (rg 17 13 []))),[]⟩],[fg 3 2 ju abA p.b],[0],[],(some ⟨0,(rg 0 6 (rg 7 23 [])),[]⟩)⟩,2,111⟩
theorem ash (p:JX):LI (T3 p) 3 ju abA (Mr p.1 p.2.1):=λ_ d c K=>by kernel_rfl
theorem aB5 (p:JX):D2 (T3 p) aja (lf Qf) λb=>T2 p.b b.1.1 b.1.2.1 b.2.1 b.b b.1.b:=λb=>by kernel_rfl
abbrev T4:JX:=(IG,cG,Ms)
theorem ajc [ax]:SC (T1 lO):=sc (Sound.nil 2 [.i .i64]<|kS (k:=T3 T4) (.c avm (.c pE (.nil _))) [3] [] ⟨kL (ash T4),trivial⟩ trivial (aB5 T4))
def axf:=qa (pr (cu aP fU) bB)
def aea:=qe oQ
abbrev axg:=aea.B
abbrev IJ:=Int->Bool->Option axg
def IK (g:IJ):Ct:=(66,FC axf (lf aea) (λb=>g b.1 b.2))
def ajd (aw:bI)(cU:wb)(cZ:Mq)(ix:aby)(fu:T0)(x0:Int)(x1:Bool):Pg axg:=opt (aw x0 x1) λd=>opt (cU d.1) λaj=>let y0:=wI (3373259426-aj);let y1:=wI (-3373259426-aj);ae (decide (aj>1686629713)) (opt (cZ y0) λaF=>let pA:=wI (1686629713-aF);ae (decide (aF<=843314857)) (opt (ix y0 y0 d.2) λd=>opt (fu d.1 6 d.2 (cr (-27) [1073741824, -178956971,8947849, -213044,2959, -27]) true) λd=>opt (ix y0 d.1 d.2) λd=>let y0:=if -1073741824>d.1 then -1073741824 else d.1;ret (if 1073741824<y0 then 1073741824 else y0,d.2)) (opt (ix pA pA d.2) λd=>opt (fu d.1 7 d.2 (cr 2 [1073741824, -536870912,44739243, -1491308,26631, -296,2]) true) λd=>let anZ:=wI (0-d.1);let y1:=if -1073741824>d.1 then -1073741824 else d.1;let y2:=if -1073741824>anZ then -1073741824 else anZ;ae (decide (y0<0)) (ret (if 1073741824<y2 then 1073741824 else y2,d.2)) (ret (if 1073741824<y1 then 1073741824 else y1,d.2)))) (ae (decide (aj< -1686629713)) (opt (cZ y1) λaF=>let y0:=wI (1686629713-aF);ae (decide (aF<=843314857)) (opt (ix y1 y1 d.2) λd=>opt (fu d.1 6 d.2 (cr (-27) [1073741824, -178956971,8947849, -213044,2959, -27]) true) λd=>opt (ix y1 d.1 d.2) λd=>let y0:=if -1073741824>d.1 then -1073741824 else d.1;ret (if 1073741824<y0 then 1073741824 else y0,d.2)) (opt (ix y0 y0 d.2) λd=>opt (fu d.1 7 d.2 (cr 2 [1073741824, -536870912,44739243, -1491308,26631, -296,2]) true) λd=>let y0:=wI (0-d.1);let axh:=if -1073741824>d.1 then -1073741824 else d.1;let y2:=if -1073741824>y0 then -1073741824 else y0;ae (decide (y1<0)) (ret (if 1073741824<y2 then 1073741824 else y2,d.2)) (ret (if 1073741824<axh then 1073741824 else axh,d.2)))) (opt (cZ aj) λaF=>let y0:=wI (1686629713-aF);ae (decide (aF<=843314857)) (opt (ix aj aj d.2) λd=>opt (fu d.1 6 d.2 (cr (-27) [1073741824, -178956971,8947849, -213044,2959, -27]) true) λd=>opt (ix aj d.1 d.2) λd=>let y0:=if -1073741824>d.1 then -1073741824 else d.1;ret (if 1073741824<y0 then 1073741824 else y0,d.2)) (opt (ix y0 y0 d.2) λd=>opt (fu d.1 7 d.2 (cr 2 [1073741824, -536870912,44739243, -1491308,26631, -296,2]) true) λd=>let y0:=wI (0-d.1);let y1:=if -1073741824>d.1 then -1073741824 else d.1;let y2:=if -1073741824>y0 then -1073741824 else y0;ae (decide (aj<0)) (ret (if 1073741824<y2 then 1073741824 else y2,d.2)) (ret (if 1073741824<y1 then 1073741824 else y1,d.2)))))
def mG:=λx0 x1=>(ajd aQ jt vA IG lO x0 x1).val
theorem aJI:∀aw cU cZ ix fu,D0 [cW aw,zM cU,abx cZ,amj ix,T1 fu] 66 axf (lf aea) λb=>ajd aw cU cZ ix fu b.1 b.2:=λ_ _ _ _ _ b=>by kernel_rfl
theorem OE [ax]:SC (IK mG):=s0 (.c c7 (.c Eu (.c ami (.c avm (.c ajc (.nil _)))))) (aJI aQ jt vA IG lO)
def axi:=qa (pr (cu aP fU) bB)
def aeb:=qe oQ
abbrev axj:=aeb.B
abbrev OF:=Int->Bool->Option axj
def OG (g:OF):Ct:=(67,FC axi (lf aeb) (λb=>g b.1 b.2))
def aje (cU:wb)(dF:IJ)(x0:Int)(x1:Bool):Pg axj:=opt (cU x0) λd=>opt (dF (wI (1686629713+d)) x1) λd=>ret d
def qd:=λx0 x1=>(aje jt mG x0 x1).val
theorem aJJ:∀cU dF,D0 [zM cU,IK dF] 67 axi (lf aeb) λb=>aje cU dF b.1 b.2:=λ_ _ b=>by kernel_rfl
theorem XL [ax]:SC (OG qd):=s0 (.c Eu (.c OE (.nil _))) (aJJ jt mG)
def an0:=qa (pr (cu aP wY) bB)
def T5:=qe oQ
abbrev an1:=T5.B
abbrev Zy:=Int->Int->Bool->Option an1
def Zz (g:Zy):Ct:=(239,FC an0 (lf T5) (λb=>g b.1.1 b.1.2 b.2))
def ZA (aw:bI)(cZ:Mq)(aD:cz)(ix:aby)(fu:T0)(x0:Int)(x1:Int)(x2:Bool):Pg an1:=opt (aw x0 x2) λd=>let y0:=decide (d.1<0);opt (aw x1 d.2) λaj=>let pA:=decide (aj.1<0);opt (cZ d.1) λaF=>opt (cZ aj.1) λbx=>let anZ:=if bx>aF then bx else aF;opt (cZ d.1) λcv=>opt (cZ aj.1) λdN=>ae (anZ==0) (ret (0,aj.2)) (opt (aD (if dN<cv then dN else cv) anZ 30 aj.2) λcL=>ae (decide (cL.1>444758426)) (opt (aD (wI (cL.1-1073741824)) (wI (cL.1+1073741824)) 30 cL.2) λjW=>opt (ix jW.1 jW.1 jW.2) λpF=>opt (fu pF.1 12 pF.2 (cr (-46684427) [1073741824, -357913941,214748365, -153391689,119304647, -97612893,82595525, -71582788,63161284, -56512728,51130563, -46684427]) true) λnx=>opt (ix jW.1 nx.1 nx.2) λku=>let XM:=wI (843314857+ku.1);let y1:=wI (3373259426-XM);let y2:=wI (1686629713-XM);let y3:=wI (3373259426-y2);opt (cZ d.1) λd=>opt (cZ aj.1) λuO=>ae (decide (d>uO)) (ae pA (ae y0 (ret (wI (0-y3),ku.2)) (ret (y3,ku.2))) (ae y0 (ret (wI (0-y2),ku.2)) (ret (y2,ku.2)))) (ae pA (ae y0 (ret (wI (0-y1),ku.2)) (ret (y1,ku.2))) (ae y0 (ret (wI (0-XM),ku.2)) (ret (XM,ku.2))))) (opt (ix cL.1 cL.1 cL.2) λjW=>opt (fu jW.1 12 jW.2 (cr (-46684427) [1073741824, -357913941,214748365, -153391689,119304647, -97612893,82595525, -71582788,63161284, -56512728,51130563, -46684427]) true) λpF=>opt (ix cL.1 pF.1 pF.2) λnx=>let XM:=wI (0+nx.1);let y1:=wI (1686629713-XM);let y2:=wI (3373259426-XM);let y3:=wI (3373259426-y1);opt (cZ d.1) λd=>opt (cZ aj.1) λku=>ae (decide (d>ku)) (ae pA (ae y0 (ret (wI (0-y3),nx.2)) (ret (y3,nx.2))) (ae y0 (ret (wI (0-y1),nx.2)) (ret (y1,nx.2)))) (ae pA (ae y0 (ret (wI (0-y2),nx.2)) (ret (y2,nx.2))) (ae y0 (ret (wI (0-XM),nx.2)) (ret (XM,nx.2))))))
def w7:=λx0 x1 x2=>(ZA aQ vA bp IG lO x0 x1 x2).val
theorem aDQ:∀aw cZ aD ix fu,D0 [cW aw,abx cZ,fL aD,amj ix,T1 fu] 239 an0 (lf T5) λb=>ZA aw cZ aD ix fu b.1.1 b.1.2 b.2:=λ_ _ _ _ _ b=>by kernel_rfl
theorem an2 [ax]:SC (Zz w7):=s0 (.c c7 (.c ami (.c gC (.c avm (.c ajc (.nil _)))))) (aDQ aQ vA bp IG lO)
def an3:=qa (pr (cu aP wY) bB)
def T6:=qe oQ
abbrev an4:=T6.B
abbrev cR:=Int->Int->Bool->Option an4
def gD (g:cR):Ct:=(183,FC an3 (lf T6) (λb=>g b.1.1 b.1.2 b.2))
def Gk (aw:bI)(x0:Int)(x1:Int)(x2:Bool):Pg an4:=opt (aw x0 x2) λd=>opt (aw x1 d.2) λaj=>opt (aw (wI (d.1-aj.1)) aj.2) λd=>ret d
def bJ:=λx0 x1 x2=>(Gk aQ x0 x1 x2).val
theorem aDR:∀aw,D0 [cW aw] 183 an3 (lf T6) λb=>Gk aw b.1.1 b.1.2 b.2:=λ_ b=>by kernel_rfl
theorem il [ax]:SC (gD bJ):=s0 (.c c7 (.nil _)) (aDR aQ)
def aB6:=qa (pr (cu aP (c ac4 Fk)) bB)
def ajf:=qe auJ
abbrev aB7:=ajf.B
abbrev HO:=Int->Int->Int->Int->Int->Int->Bool->Option aB7
def T7 (g:HO):Ct:=(143,FC aB6 (lf ajf) (λb=>g b.1.1.1 b.1.1.2.1 b.1.1.b b.1.2.1 b.1.b.1 b.1.b.2 b.2))
def aqa (aW:cR)(x0:Int)(x1:Int)(x2:Int)(x3:Int)(x4:Int)(x5:Int)(x6:Bool):Pg aB7:=opt (aW x0 x3 x6) λd=>opt (aW x1 x4 d.2) λaj=>opt (aW x2 x5 aj.2) λaF=>ret ((d.1,aj.1,aF.1),aF.2)
def tM:=λx0 x1 x2 x3 x4 x5 x6=>(aqa bJ x0 x1 x2 x3 x4 x5 x6).val
theorem aMX:∀aW,D0 [gD aW] 143 aB6 (lf ajf) λb=>aqa aW b.1.1.1 b.1.1.2.1 b.1.1.b b.1.2.1 b.1.b.1 b.1.b.2 b.2:=λ_ b=>by kernel_rfl
theorem aec [ax]:SC (T7 tM):=s0 (.c il (.nil _)) (aMX bJ)
def asi:=qa (pr (cu aP (c ac4 fU)) bB)
def ZB:=qe auJ
abbrev asj:=ZB.B
abbrev Su:=Int->Int->Int->Int->Bool->Option asj
def Sv (g:Su):Ct:=(119,FC asi (lf ZB) (λb=>g b.1.1.1 b.1.1.2.1 b.1.1.b b.1.2 b.2))
def aed (aB:bN)(x0:Int)(x1:Int)(x2:Int)(x3:Int)(x4:Bool):Pg asj:=opt (aB x0 x3 30 x4) λd=>opt (aB x1 x3 30 d.2) λaj=>opt (aB x2 x3 30 aj.2) λaF=>ret ((d.1,aj.1,aF.1),aF.2)
def rV:=λx0 x1 x2 x3 x4=>(aed aV x0 x1 x2 x3 x4).val
theorem aG2:∀aB,D0 [eJ aB] 119 asi (lf ZB) λb=>aed aB b.1.1.1 b.1.1.2.1 b.1.1.b b.1.2 b.2:=λ_ b=>by kernel_rfl
theorem aee [ax]:SC (Sv rV):=s0 (.c eZ (.nil _)) (aG2 aV)
def an5:=qa (dp (cu aP auA) λa=>(c uN (cl (cl (gs a.1 mE) nil) nil)))
def T8:=qe aGd
abbrev an6:=T8.B
abbrev w8:=Nat->Bool->NI->Bool->Option an6
def Gl (g:w8):Ct:=(105,sQ 1 [.i .i64] (FC an5 (lf T8) (λb=>g b.1.1 b.2.1 b.b b.1.2)))
def tl:=qs (st (pr (cu aP (us 4 (cu awu (us 6 (c F' (c ai (cl ai (us 19 nil)))))))) (pl (c ck (c HE YW)) cB)))
def agi:=qs (st (pr (cu aP (us 4 (cu awu (us 6 (c F' (c ai (c ai (cl ab (us 18 nil))))))))) (pl (c ck (c HE YW)) cB)))
abbrev Hf:=agi.B
def agj {ρ:Type}:=@ef Hf ((.ex 0)) agi ρ
def Bg (aw:bI)(cE:mF)(wc:qc)(d:tl.B):PL tl Hf:=let y0:=decide (d.1.2.2<d.1.2.1);ae y0 (ae (aX d.1.2.2 d.1.1.1) (opt (aw (d.2.2.1.2 (Int.toNat d.1.2.2)) d.2.1) λaj=>opt (cE aj.1 aj.1) λaF=>opt (wc 2 (λj=>bif Nat.beq j 1 then aF.1 else bif Nat.beq j 0 then d.2.2.2.1 else d.2.2.2.1) (λj=>bif Nat.beq j 1 then aF.2 else bif Nat.beq j 0 then d.2.2.2.2 else d.2.2.2.2) true) λbx=>ret (Sum.inl ((d.1.1,d.1.2.1,wI (d.1.2.2+1)),aj.2,d.2.2.1,bx.1))) no) (ret (Sum.inr ((d.1.1,d.1.2.1,d.1.2.2,y0),d.2)))
def Qg:=bD (Bg aQ eQ ji) 2000
def ZC (IF:XI)(dA:LT tl Hf)(x0:Nat)(x1:Bool)(x2:Nat->Int)(w0:Bool):Pg an6:=let y0:=if 64<Int.ofNat x0 then 64 else Int.ofNat x0;let y1:=Int.toNat y0;ae (Cu y0 x0) (opt (dA (((y1,w0&&false),Int.ofNat y1,0),x1,(x0,x2),0,0)) λd=>opt (IF d.2.2.2.1 d.2.2.2.2 d.2.1) λd=>ret d) no
def fM:=λx0 x1 x2 w0=>(ZC vZ Qg x0 x1 x2 w0).val
abbrev NY:=bI×mF×qc×XI×(LT tl Hf)
def ZD (p:NY):KK:=⟨[cW p.1,vT p.2.1,II p.b.1,ai3 p.b.2.1],⟨[⟨3,(rg 1 4 (rg 6 6 (rg 15 19 []))),[]⟩],[fg 3 2 tl agj p.c],[0],[],(some ⟨0,(rg 0 4 (rg 5 29 [])),[]⟩)⟩,2,105⟩
theorem avo (p:NY):LI (ZD p) 3 tl agj (Bg p.1 p.2.1 p.b.1):=λ_ d c K=>by kernel_rfl
theorem aDS (p:NY):D2 (ZD p) an5 (lf T8) λb=>ZC p.b.2.1 p.c b.1.1 b.2.1 b.b b.1.2:=λb=>by kernel_rfl
abbrev ZE:NY:=(aQ,eQ,ji,vZ,Qg)
theorem NZ [ax]:SC (Gl fM):=sc (Sound.nil 1 [.i .i64]<|kS (k:=ZD ZE) (.c c7 (.c zh (.c OD (.c aw9 (.nil _))))) [3] [] ⟨kL (avo ZE),trivial⟩ trivial (aDS ZE))
def axk:=qa (pr (cu aP Fk) bB)
def aef:=qe oQ
abbrev axl:=aef.B
abbrev zj:=Int->Int->Int->Bool->Option axl
def OH (g:zj):Ct:=(120,FC axk (lf aef) (λb=>g b.1.1 b.1.2.1 b.1.b b.2))
def ajg (jd:w8)(x0:Int)(x1:Int)(x2:Int)(x3:Bool):Pg axl:=opt (jd 3 x3 (cr x0 [x2,x1,x0]) false) λd=>ret d
def oi:=λx0 x1 x2 x3=>(ajg fM x0 x1 x2 x3).val
theorem aJK:∀jd,D0 [Gl jd] 120 axk (lf aef) λb=>ajg jd b.1.1 b.1.2.1 b.1.b b.2:=λ_ b=>by kernel_rfl
theorem XN [ax]:SC (OH oi):=s0 (.c NZ (.nil _)) (aJK fM)
def aB8:=qa (pr (cu aP Fk) bB)
def ajh:=qe auJ
abbrev aB9:=ajh.B
abbrev Mt:=Int->Int->Int->Bool->Option aB9
def aeg (g:Mt):Ct:=(182,FC aB8 (lf ajh) (λb=>g b.1.1 b.1.2.1 b.1.b b.2))
def aqb (aw:bI)(x0:Int)(x1:Int)(x2:Int)(x3:Bool):Pg aB9:=opt (aw x0 x3) λd=>opt (aw x1 d.2) λaj=>opt (aw x2 aj.2) λaF=>ret ((d.1,aj.1,aF.1),aF.2)
def zN:=λx0 x1 x2 x3=>(aqb aQ x0 x1 x2 x3).val
theorem aMY:∀aw,D0 [cW aw] 182 aB8 (lf ajh) λb=>aqb aw b.1.1 b.1.2.1 b.1.b b.2:=λ_ b=>by kernel_rfl
theorem aqc [ax]:SC (aeg zN):=s0 (.c c7 (.nil _)) (aMY aQ)
def axm:=qa (pr (cu aP apH) bB)
def aeh:=qe auK
abbrev axn:=aeh.B
abbrev OJ:=Int->Int->Int->Int->Bool->Option axn
def XO (g:OJ):Ct:=(104,FC axm (lf aeh) (λb=>g b.1.1 b.1.2.1 b.1.b.1 b.1.b.2 b.2))
def ny:=qs (st (pr (cu aP (us 2 (cu anc (cu awv (us 1 aQo))))) (pl (c ck (cl uQ (cu aif nil))) cB)))
def an7:=qs (st (pr (cu aP (us 2 (cu anc (cu awv (us 1 (c ai (cl ab (us 10 nil)))))))) (pl (c ck (cl uQ (cu aif nil))) cB)))
abbrev BN:=an7.B
def an8 {ρ:Type}:=@ef BN ((.ex 0)) an7 ρ
def ZF (aw:bI)(d:ny.B):PL ny BN:=let n1:=d.2.2;let n3:=n1.2.1;let n2:=n1.2.2;let y0:=aX d.1 4;let y1:=d.1==3;let y2:=d.1==2;let y3:=d.1==1;let y4:=wI (d.1+1);let y5:=decide (d.1<4);ae y5 (ae y0 (ae y1 (opt (aw n2.2 d.2.1) λaj=>ae y0 (ae y1 (ret (Sum.inl (y4,aj.2,n1.1,n3,n2.1,aj.1))) (ae y2 (ret (Sum.inl (y4,aj.2,n1.1,n3,aj.1,n2.2))) (ae y3 (ret (Sum.inl (y4,aj.2,n1.1,aj.1,n2))) (ret (Sum.inl (y4,aj.2,aj.1,n1.2)))))) no) (ae y2 (opt (aw n2.1 d.2.1) λaj=>ae y0 (ae y1 (ret (Sum.inl (y4,aj.2,n1.1,n3,n2.1,aj.1))) (ae y2 (ret (Sum.inl (y4,aj.2,n1.1,n3,aj.1,n2.2))) (ae y3 (ret (Sum.inl (y4,aj.2,n1.1,aj.1,n2))) (ret (Sum.inl (y4,aj.2,aj.1,n1.2)))))) no) (ae y3 (opt (aw n3 d.2.1) λaj=>ae y0 (ae y1 (ret (Sum.inl (y4,aj.2,n1.1,n3,n2.1,aj.1))) (ae y2 (ret (Sum.inl (y4,aj.2,n1.1,n3,aj.1,n2.2))) (ae y3 (ret (Sum.inl (y4,aj.2,n1.1,aj.1,n2))) (ret (Sum.inl (y4,aj.2,aj.1,n1.2)))))) no) (opt (aw n1.1 d.2.1) λaj=>ae y0 (ae y1 (ret (Sum.inl (y4,aj.2,n1.1,n3,n2.1,aj.1))) (ae y2 (ret (Sum.inl (y4,aj.2,n1.1,n3,aj.1,n2.2))) (ae y3 (ret (Sum.inl (y4,aj.2,n1.1,aj.1,n2))) (ret (Sum.inl (y4,aj.2,aj.1,n1.2)))))) no)))) no) (ret (Sum.inr ((d.1,y5),d.2)))
def ZG:=bD (ZF aQ) 2000
def aji (dA:LT ny BN)(x0:Int)(x1:Int)(x2:Int)(x3:Int)(x4:Bool):Pg axn:=opt (dA (0,x4,x0,x1,x2,x3)) λd=>ret (d.2.2,d.2.1)
def we:=λx0 x1 x2 x3 x4=>(aji ZG x0 x1 x2 x3 x4).val
abbrev XP:=bI×(LT ny BN)
def ajj (p:XP):KK:=⟨[cW p.1],⟨[⟨2,(1::2::5::rg 7 11 []),[]⟩],[fg 2 1 ny an8 p.2],[0],[],(some ⟨0,(rg 0 4 (rg 5 13 [])),[]⟩)⟩,1,104⟩
theorem aCa (p:XP):LI (ajj p) 2 ny an8 (ZF p.1):=λ_ d c K=>by kernel_rfl
theorem aJL (p:XP):D2 (ajj p) axm (lf aeh) λb=>aji p.2 b.1.1 b.1.2.1 b.1.b.1 b.1.b.2 b.2:=λb=>by kernel_rfl
abbrev ajk:XP:=(aQ,ZG)
theorem ajl [ax]:SC (XO we):=sc (kS (k:=ajj ajk) (.c c7 (.nil _)) [2] [] ⟨kL (aCa ajk),trivial⟩ trivial (aJL ajk))
def axo:=qa (pu nil nil)
def aei:=qe (res (pu (aa (cu auD apI)) (pu nil nil)))
abbrev ajm:=aei.B
abbrev zk:=Option ajm
def IL (g:zk):Ct:=(57,FC axo (lf aei) (λ_=>g))
def ajn:Pg ajm:=ret ()
def mH:Option ajm:=(ajn).val
theorem aJM:D0 [] 57 axo (lf aei) λb=>ajn:=λb=>by kernel_rfl
theorem OK [ax]:SC (IL mH):=s0 (.nil _) aJM
def asl:=qa (pl apH nil)
def ZH:=qe aRe
abbrev asm:=ZH.B
abbrev JY:=Int->Int->Int->Int->Option asm
def aej (g:JY):Ct:=(144,FC asl (lf ZH) (λb=>g b.1 b.2.1 b.b.1 b.b.2))
def aek (om:OJ)(x0:Int)(x1:Int)(x2:Int)(x3:Int):Pg asm:=opt (om x0 x1 x2 x3 false) λd=>ret (d.1.1,wI (0-d.1.2.1),wI (0-d.1.2.2.1),wI (0-d.1.2.2.2))
def zO:=λx0 x1 x2 x3=>(aek we x0 x1 x2 x3).val
theorem aG3:∀om,D0 [XO om] 144 asl (lf ZH) λb=>aek om b.1 b.2.1 b.b.1 b.b.2:=λ_ b=>by kernel_rfl
theorem asn [ax]:SC (aej zO):=s0 (.c ajl (.nil _)) (aG3 we)
def an9:=qa (pl ada nil)
def T9:=qe aQ8
abbrev aoa:=T9.B
abbrev kr:=NI->Int->Option aoa
def pG (g:kr):Ct:=(115,FC an9 (lf T9) (λb=>g b.1 b.2))
def kF:=qs (st (pr (us 1 (c ai (cu aww (us 1 (cu aIp (cu Xg (us 2 aK4))))))) (pl (c mx aih) nil)))
def agk:=qs (st (pr (us 1 (c ai (cu aww (us 1 (cu aIp (cu Xg (us 2 aF2))))))) (pl (c mx aih) nil)))
abbrev vC:=agk.B
def agl {ρ:Type}:=@ef vC ((.ex 0)) agk ρ
def Qh (d:kF.B):PL kF vC:=let n4:=d.2.2;let n3:=d.2.1;let n2:=d.1.1;let n1:=d.1.2;let y0:=wI (n2+n1);let y1:=decide (n1<3);ae y1 (ae (decide (y0>=0)) (ae (decide (y0<24)) (ae (aX y0 24) (ae (aX n1 3) (ae (n1==2) (ret (Sum.inl ((n2,wI (n1+1)),n3,n4.1,n4.2.1,n3 (Int.toNat y0)))) (ae (n1==1) (ret (Sum.inl ((n2,wI (n1+1)),n3,n4.1,n3 (Int.toNat y0),n4.2.2))) (ret (Sum.inl ((n2,wI (n1+1)),n3,n3 (Int.toNat y0),n4.2))))) no) no) (ret (Sum.inl ((n2,wI (n1+1)),d.2)))) (ret (Sum.inl ((n2,wI (n1+1)),d.2)))) (ret (Sum.inr ((n2,n1,y1),d.2)))
def Qi:=bD (Qh) 2000
def ZI (dA:LT kF vC)(x0:Nat->Int)(x1:Int):Pg aoa:=opt (dA ((x1,0),x0,0,0,0)) λd=>ret d.2.2
def en:=λx0 x1=>(ZI Qi x0 x1).val
abbrev N3:=(LT kF vC)
def ZJ (p:N3):KK:=⟨[],⟨[⟨3,(0::3::6::7::rg 9 8 (rg 19 8 [17,18])),[]⟩],[fg 3 0 kF agl p],[],[],(some ⟨0,(rg 0 4 (rg 5 22 [])),[]⟩)⟩,0,115⟩
theorem avp (p:N3):LI (ZJ p) 3 kF agl (Qh):=λ_ d c K=>by kernel_rfl
theorem aDT (p:N3):D2 (ZJ p) an9 (lf T9) λb=>ZI p b.1 b.2:=λb=>by kernel_rfl
abbrev ZK:N3:=Qi
theorem sU [ax]:SC (pG en):=sc (kS (k:=ZJ ZK) (.nil _) [3] [] ⟨kL (avp ZK),trivial⟩ trivial (aDT ZK))
def aob:=qa (dp (c jS aQT) λa=>(cl (cl (gs a.b.1 mE) nil) nil))
def T':=qe aRf
abbrev ZL:=T'.B
abbrev w9:=NI->Int->Nat->NI->Bool->Option ZL
def BO (g:w9):Ct:=(26,sQ 2 [.i .i64] (FC aob (lf T') (λb=>g b.1.1 b.1.2.1 b.1.b.1 b.2 b.1.b.2)))
def kG:=qs (st (dp (us 1 (c ai (c Tl (cu RF (us 2 (cu Cr (us 3 (c Tl (c ai aK4))))))))) λa=>(pl (c (so (cl (gs a.2.1.1 mE) nil)) L4) nil)))
def aza:=qs (st (pr (us 1 (c ai (c Tl (cu RF (us 2 (cu Cr (us 3 (c Tl (c ai aF2))))))))) (pl (c HE L4) nil)))
abbrev vD:=(aQe×NI×NI×NI)
def agm {ρ:Type}(x:vD)(K:AX->St->Option ρ):Option ρ:=(λd=>K (.ex 0) (aza.em (d.1,(d.1.2.1.1,d.2.1),d.b))) x
def Qj (d:kG.B):PL kG vD:=let n2:=d.1.2.2;let n3:=n2.2.2;let n1:=(d.1.1,d.1.2.1,n2.1,n2.2.1,wI (n3+1));let y0:=wI (d.1.1+n3);let y1:=Int.toNat y0;let y2:=decide (n3<n2.2.1);ae y2 (ae (aX n3 n2.1.1) (ae (decide (y0>=0)) (ae (decide (y0<24)) (ae (aX y0 24) (ae (true&&Nat.ble (0+y1*1+1) 24) (ret (Sum.inl (n1,d.2.1,λj=>bif Nat.beq j y1 then d.2.1 (Int.toNat n3) else d.2.2.1 j,d.2.2.2))) no) no) (ret (Sum.inl (n1,d.2)))) (ret (Sum.inl (n1,d.2)))) no) (ret (Sum.inr ((d.1.1,d.1.2.1,n2.1,n2.2.1,n3,y2),d.2)))
def Qk:=bD (Qj) 2000
def ZM (dA:LT kG vD)(x0:Nat->Int)(x1:Int)(x2:Nat)(x3:Nat->Int)(w0:Bool):Pg ZL:=ae (Nat.beq x2 x2) (opt (dA ((x1,(x2,w0),(x2,w0),Int.ofNat x2,0),x3,x0,λx=>0)) λd=>ret d.2.2.1) no
def fN:=λx0 x1 x2 x3 w0=>(ZM Qk x0 x1 x2 x3 w0).val
abbrev N4:=(LT kG vD)
def ZN (p:N4):KK:=⟨[],⟨[⟨2,(0::4::5::7::8::9::rg 13 10 (rg 25 6 [23,24])),[]⟩],[fg 2 1 kG agm p],[],[],(some ⟨0,(rg 0 6 (rg 7 24 [])),[]⟩)⟩,1,26⟩
theorem avq (p:N4):LI (ZN p) 2 kG agm (Qj):=λ_ d c K=>by kernel_rfl
theorem aDU (p:N4):D2 (ZN p) aob (lf T') λb=>ZM p b.1.1 b.1.2.1 b.1.b.1 b.2 b.1.b.2:=λb=>by kernel_rfl
abbrev ZO:N4:=Qk
theorem Gm [ax]:SC (BO fN):=sc (Sound.nil 2 [.i .i64]<|kS (k:=ZN ZO) (.nil _) [2] [] ⟨kL (avq ZO),trivial⟩ trivial (aDU ZO))
end Go.Proofs.YtcmfbkneahoonaaGreat
