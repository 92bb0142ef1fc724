/-
  Parts of the proof: SLC SLD SLE SLF SLH Q1
-/
import Derived.Test.YtldgljclcgaibaaGreatZAE
open Nat renaming beq→ww,ble→wl,blt→v9
open Int renaming toNat→wt,ofNat→wn,fdiv→t9,tdiv→t6
open Sum renaming inl→ws,inr→wr,elim→t7
open BitVec renaming ofInt→wd,toNat→ul
open List renaming append→t8,range→rx
set_option linter.all false
namespace Go.Ab
def eY (l:List (Nat->Int)):List cQ:=l.map (cQ.i .i64)
def wN (i:Nat)(g v:Nat->Int):Nat->Int:=λj=>cond (v9 j i) (g j) (cond (ww j i) (v 0) (g (j-1)))
def Re (i d:Nat)(g:Nat->Int):Nat->Int:=λj=>cond (v9 j i) (g j) (g (j+d))
theorem Ba {l:List (Nat->Int)}(h:l.length=9)(J:Nat):∃g,l[J%9]? =some g/\iI (eY l) J=.f (.i .i64 (g (J/9))):=by
 have mH:J%9<l.length:=by rw[h];exact Nat.mod_lt _ (by omega)
 refine⟨l[J%9],j7 mH,?_⟩;unfold iI eY;rw[yX,h,Af,j7 mH];rfl
theorem aUw {l m:List (Nat->Int)}(hl:l.length=9)(hm:m.length=9)(i J:Nat):
  iI (eY (List.zipWith (wN i) l m)) J=if J<i*9 then iI (eY l) J else if J<(i+1)*9 then iI (eY m) (J-i*9) else iI (eY l) (J-9):=by
 obtain⟨g,hg,eg⟩:=Ba hl J;obtain⟨v,hv,_⟩:=Ba hm J;obtain⟨z,hz,ez⟩:=Ba (l:=List.zipWith (wN i) l m) (by simp[hl,hm]) J;have Vg:(List.zipWith (wN i) l m)[J%9]? =some (wN i g v):=by simp[List.getElem?_zipWith,hg,hv]
 rw[Vg] at hz;cases hz;rw[ez];by_cases h1:J<i*9
 .rw[if_pos h1,eg];have:v9 (J/9) i=true:=rZ.2 (by omega);simp only[wN,this,bn]
 .rw[if_neg h1];have e1:v9 (J/9) i=false:=Wm (by omega);by_cases h2:J<(i+1)*9
  .rw[if_pos h2];have e2:ww (J/9) i=true:=beq_iff.2 (by omega);obtain⟨v',hv',ev⟩:=Ba hm (J-i*9);have e3:(J-i*9)%9=J%9:=by omega
   have e4:(J-i*9)/9=0:=by omega
   rw[e3,hv] at hv';cases hv';rw[ev,e4];simp only[wN,e1,e2,bn,bA]
  .rw[if_neg h2];have e2:ww (J/9) i=false:=beq_false (by omega);obtain⟨g',hg',ev⟩:=Ba hl (J-9);have e3:(J-9)%9=J%9:=by omega
   have e4:(J-9)/9=J/9-1:=by omega
   rw[e3,hg] at hg';cases hg';rw[ev,e4];simp only[wN,e1,e2,bA]
theorem aJl {l:List (Nat->Int)}(hl:l.length=9)(i d J:Nat):
  iI (eY (l.map (Re i d))) J=if J<i*9 then iI (eY l) J else iI (eY l) (J+d*9):=by
 obtain⟨g,hg,eg⟩:=Ba hl J;obtain⟨z,hz,ez⟩:=Ba (l:=l.map (Re i d)) (by simp[hl]) J;have Vg:(l.map (Re i d))[J%9]? =some (Re i d g):=by simp[hg]
 rw[Vg] at hz;cases hz;rw[ez];by_cases h1:J<i*9
 .rw[if_pos h1,eg];have:v9 (J/9) i=true:=rZ.2 (by omega);simp only[Re,this,bn]
 .rw[if_neg h1];have e1:v9 (J/9) i=false:=Wm (by omega);obtain⟨g',hg',ev⟩:=Ba hl (J+d*9);have e3:(J+d*9)%9=J%9:=by omega
  have e4:(J+d*9)/9=J/9+d:=by omega
  rw[e3,hg] at hg';cases hg';rw[ev,e4];simp only[Re,e1,bA]
theorem Rf {l:List (Nat->Int)}(h:l.length=9)(n:Nat):af.size [.a (.s n) (eY l)]=n*9:=by
 rw[af.size_cons,af.kO,Sg.kT,jM];show n*(eY l).length=n*9;unfold eY;rw[yX,h]
theorem atw {l:List (Nat->Int)}(h:l.length=9){n j:Nat}(hj:j<n*9):af.get [.a (.s n) (eY l)] j=iI (eY l) j:=by
 rw[af.dJ (by rw[Sg.kT];unfold eY;rw[yX,h];exact hj),Sg.oL]
theorem aNY [ax]{π:Pi}{w:World}{B s N:Nat}{c:Nat->CV}(h:∀j,j<N->∃v,cl w B (s+j)=some v/\(c j).rel π v):
  ∃cs:List Value,cs.length=N/\(∀j v,cs[j]? =some v->w.cell? ⟨B,s+j,none⟩=some v/\(c j).rel π v)/\∀v∈cs,v.oneCell'=true:=by
 have key:∀j v,((rx N).map λj=>(cl w B (s+j)).getD undef)[j]? =some v->w.cell? ⟨B,s+j,none⟩=some v/\(c j).rel π v:=λj v hv=>by
  have hj:j<N:=by
   have:=(ld.1 hv).1;simpa using this
  obtain⟨u,hu,hr⟩:=h j hj;simp[hj,hu] at hv
  subst hv;exact⟨hu,hr⟩
 refine⟨(rx N).map λj=>(cl w B (s+j)).getD undef,by simp,key,λv hv=> ?_⟩;obtain⟨i,hi⟩:=ayf.1 hv;exact CV.Rb (key i v hi).2
theorem aJm {w:World}{B i:Nat}{v:Value}(h:w.cell? ⟨B,i,none⟩=some v):∃t k,w.shape? B=some (t,k)/\k≠0:=by
 unfold World.cell? at h;simp only at h;cases hh:w.heap[B]? with
 |none=>rw[hh] at h;cases h
 |some x=>
  rw[hh] at h;cases x<;>simp only at h<;>first|(cases h;done)|skip
  rename_i cs t fz
  have:=(Array.getElem?_eq_some_iff.1 h).1;refine⟨t,cs.size,?_,by omega⟩;simp[World.shape?,hh]
variable [ax]
theorem aax {P:Program}{π:Pi}{w W:World}{h:List af}{cs:List Ch}{out:List (Nat->Int)}{n cap B st q e b0:Nat}(ho:out.length=9)(hH:r9 π (hC (h.map some)) (hZ (h.map some)) w)(jK:∀b,π b≠none->b<h.length)
  (JQ:∀b,b<h.length->cs[b]? =some .mb∨cs[b]? =some .kill)(NJ:b0<h.length)(hk0:cs[b0]? =some .kill)(hp:π b0=some (B,st,q,e))(hfr:ck w (CW π h.length (SW cs)) W)
  (pE:∀i,st<=i->i<e->(cl W B i).isSome=true/\fz W B i=false)(ham:Ak W)(hc:∀J,J<n*9->∃v,cl W B (st+J)=some v/\(iI (eY out) J).rel π v)(hn:n<=cap)(hce:st+cap*9<=e):
  aJg P π w h ⟨.r (.c (.sl h.length (.k 0) (.s n) 9 true)),cs,[[.a (.s n) (eY out)]]⟩ (.returned (.slice (some ⟨B,st,none⟩) n cap)) W:=by
 have xI:=Rf ho n;have NK:hZ (h.map some) b0≠none:=by rw[Qq,j7 NJ];simp
 have mc:n*9<=cap*9:=vL _ hn;refine ayJ (P:=P) (B:=B) (s:=st) (e:=e) hH jK JQ hfr (by rw[xI];omega) pE (λj hj=> ?_) (.inr ⟨b0,st,q,e,NJ,hk0,hp,cW _,cW _⟩) ham (λA8=>hH.lb b0 B st q e NK hp A8) λπ' hx uj=> ?_
 .rw[xI] at hj;rw[atw ho hj];exact hc j hj
 .rw[xI] at uj;exact⟨B,st,n*9,e,uj,by simp[cA.val,Sz.val],λ_=>by simp[cA.val,Sz.val],.inr ⟨cap,hn,rfl,λ_=>by simpa[cA.val] using hce⟩⟩
theorem alY {P:Program}{π:Pi}{w W:World}{h:List af}{cs:List Ch}{out:List (Nat->Int)}{n cap B:Nat}(ho:out.length=9)(hH:r9 π (hC (h.map some)) (hZ (h.map some)) w)(jK:∀b,π b≠none->b<h.length)
  (JQ:∀b,b<h.length->cs[b]? =some .mb∨cs[b]? =some .kill)(hB:w.heap.size<=B)(hfr:ck w (CW π h.length (SW cs)) W)
  (pE:∀i,i<cap*9->(cl W B i).isSome=true/\fz W B i=false)(ham:Ak W)(hc:∀J,J<n*9->∃v,cl W B J=some v/\(iI (eY out) J).rel π v)(hn:n<=cap):
  aJg P π w h ⟨.r (.c (.sl h.length (.k 0) (.s n) 9 true)),cs,[[.a (.s n) (eY out)]]⟩ (.returned (.slice (some ⟨B,0,none⟩) n cap)) W:=by
 have xI:=Rf ho n;have mc:n*9<=cap*9:=vL _ hn;refine ayJ (P:=P) (B:=B) (s:=0) (e:=cap*9) hH jK JQ hfr (by rw[xI];omega) (λi _ hi=>pE i hi) (λj hj=> ?_) (.inl hB) ham (λA8=>dw hH.am.sz hB) λπ' hx uj=> ?_
 .rw[xI] at hj;rw[atw ho hj,eX];exact hc j hj
 .rw[xI] at uj;exact⟨B,0,n*9,cap*9,uj,by simp[cA.val,Sz.val],λ_=>by simp[cA.val,Sz.val],.inr ⟨cap,hn,rfl,λ_=>by simp[cA.val]⟩⟩
theorem alZ {P:Program}{π:Pi}{w W:World}{h:List af}{cs:List Ch}{out:List (Nat->Int)}{a:Option Addr}(ho:out.length=9)(hH:r9 π (hC (h.map some)) (hZ (h.map some)) w)(jK:∀b,π b≠none->b<h.length)
  (JQ:∀b,b<h.length->cs[b]? =some .mb∨cs[b]? =some .kill)(hfr:ck w (CW π h.length (SW cs)) W)(ham:Ak W):
  aJg P π w h ⟨.r (.c (.sl h.length (.k 0) (.s 0) 9 true)),cs,[[.a (.s 0) (eY out)]]⟩ (.returned (.slice a 0 0)) W:=by
 have xI:=Rf ho 0;refine ayJ (P:=P) (B:=w.heap.size) (s:=0) (e:=0) hH jK JQ hfr (by rw[xI];omega) (λi _ hi=>by omega) (λj hj=>by rw[xI] at hj;omega) (.inl (cW _)) ham (λA8=>by omega) λπ' hx uj=> ?_;rw[xI] at uj;exact⟨w.heap.size,0,0*9,0,uj,by simp[cA.val,Sz.val],λ_=>by simp[cA.val,Sz.val],.inl ⟨rfl,a,rfl⟩⟩
theorem aDX {π:Pi}{w:World}{h:List af}{l:List (Nat->Int)}{n b B st q e:Nat}(hl:l.length=9)(hH:r9 π (hC (h.map some)) (hZ (h.map some)) w)(hb:h[b]? =some [.a (.s n) (eY l)])(hp:π b=some (B,st,q,e)):
  q=n*9/\st+n*9<=e/\(∀i,st<=i->i<e->(cl w B i).isSome=true/\fz w B i=false)/\∃cs:List Value,cs.length=n*9/\(∀j v,cs[j]? =some v->w.cell? ⟨B,st+j,none⟩=some v/\(iI (eY l) j).rel π v)/\∀v∈cs,v.oneCell'=true:=by
 have hz:hZ (h.map some) b=some (n*9):=by rw[Qq,hb];exact c8 some (Rf hl n)
 obtain⟨B',s',e',eV,A8,k1,k2⟩:=hH.hp b _ hz;rw[hp] at eV;cases eV;refine⟨rfl,A8,k1,aNY λj hj=> ?_⟩;obtain⟨v,hv,hr⟩:=k2 j hj;rw[aDU hb (by rw[Rf hl];exact hj),atw hl hj] at hr;exact⟨v,hv,hr⟩
end Go.Ab
namespace Go.Proofs.YtldgljclcgaibaaGreat
open Go.RowKit Go.Lib Go.Ab
variable [ax]
omit [ax] in
theorem atx {P:Program}(w:World)(tS tR e:TypeId)(ht:P.underlying tS=some (.slice e))(size:Nat)(hz:∀w,(Go.sizeOf e).run P w=.ok size w)(B oa ob la ca lb cb:Nat)(hd:oa+la*size<=ob∨ob+lb*size<=oa):
  (Extern.SlicesOverlaps.overlaps #[tS,tS] #[tR] #[.slice (some ⟨B,oa,none⟩) la ca,.slice (some ⟨B,ob,none⟩) lb cb]).run P w=.ok (.bool false) w:=by
 change Sem.run P (α:=Value) (do
  let some t:=(#[tS,tS]:Array TypeId)[0]? |stuck "slices.overlaps: no parameter types"
  let .slice elem<-underlying t|stuck "slices.overlaps: slice type expected"
  let size<-sizeOf elem
  match(some ⟨B,oa,none⟩:Option Addr),(some ⟨B,ob,none⟩:Option Addr) with
  |some a,some b=>
   if la=0∨lb=0∨size=0 then pure (Value.bool false)
   else if a.block !=b.block&&(<-frozen a)&&(<-frozen b) then unsupported .addressObserved
   else do
    if a.block !=b.block then do
     noView a;noView b
     if<-mayBeOne a b then return Value.bool ((<-choose (.extern "sameAddr.stringBytes" 2))==1)
    pure (Value.bool (a.block==b.block&&a.off<b.off+lb*size&&b.off<a.off+la*size))
  |_,_=>pure (Value.bool false)) w=_
 by_cases h0:la=0∨lb=0∨size=0
 .simp[run_underlying ht,hz,h0]
 .simp[run_underlying ht,hz,h0,frozen,Sem.run]
  omega
omit [ax] in
theorem aK6 {w:World}{vb CZ vc b o lb cb:Nat}(hd:vb=b->CZ+9<=o∨o+lb*9<=CZ){va vb2:Value}(ha:w.cell? ⟨vb,CZ,none⟩=some va)(hb:w.cell? ⟨b,o,none⟩=some vb2)(hfa:∀i,w.frozen? ⟨vb,i,none⟩=false):
  (callFunc 145 #[.slice (some ⟨vb,CZ,none⟩) 1 vc,.slice (some ⟨b,o,none⟩) lb cb]).run Tryz.prog w=.ok (.value (.bool false)) w:=by
 rw[run_callFunc_extern Tryz.func145 (by kernel_rfl) (by kernel_rfl) (by kernel_rfl) (e:=Extern.SlicesOverlaps.overlaps #[140,140] #[4]) (by kernel_rfl)];obtain⟨tA,kA,sA,_⟩:=aJm ha;obtain⟨tB,kB,sB,nB⟩:=aJm hb;by_cases mc:vb=b
 .subst mc;have h2:=hd rfl;rw[atx w 140 4 42 uT 9 (λw=>Ab.run_sizeOf uE w) vb CZ o 1 vc lb cb (by omega)];rfl
 .rw[Lib.run_overlaps_apart w 140 4 42 uT 9 (λw=>Ab.run_sizeOf uE w) ⟨vb,CZ,none⟩ ⟨b,o,none⟩ 1 vc lb cb mc tA tB kA kB sA sB nB (hfa CZ) (hfa kA)];rfl
end Go.Proofs.YtldgljclcgaibaaGreat
set_option maxRecDepth 100000
set_option maxHeartbeats 4000000
namespace Go.Proofs.YtldgljclcgaibaaGreat
open Go.RowKit Go.Lib Go.Ab
theorem aHo [ax]{gs vs9:List (Nat->Int)}(hg:gs.length=9)(hv9:vs9.length=9)(n i:Nat)(hi:i<=n)(aAl:(n+1)*72<=140737488355328)(w2:Bool)(w:World)(π:Pi)(vs:Array Value)
  (kI:bl (AV.rel π) [.r (.c (.sl 0 (.k 0) (.s n) 9 true)),.r (.c (.f (.i .i64 (i:Int)))),.r (.c (.sl 1 (.k 0) (.s 1) 9 w2))] vs.toList)
  (hH:r9 π (hC ([[.a (.s n) (eY gs)],[.a (.s 1) (eY vs9)]].map some)) (hZ ([[.a (.s n) (eY gs)],[.a (.s 1) (eY vs9)]].map some)) w)(jK:∀b,π b≠none->b<2):
  Calls Tryz.prog 97 vs w (tg π w [[.a (.s n) (eY gs)],[.a (.s 1) (eY vs9)]] ⟨.r (.c (.sl 2 (.k 0) (.s (n+1)) 9 true)),[.kill,.mb],[[.a (.s (n+1)) (eY (List.zipWith (wN i) gs vs9))]]⟩):=by
 obtain⟨y1,y2,y3,hvt,r1,r2,r3⟩:∃y1 y2 y3,vs.toList=[y1,y2,y3]/\(AV.r (.c (.sl 0 (.k 0) (.s n) 9 true))).rel π y1/\(AV.r (.c (.f (.i .i64 (i:Int))))).rel π y2/\(AV.r (.c (.sl 1 (.k 0) (.s 1) 9 w2))).rel π y3:=by
  match hl:vs.toList,kI with
  | [y1,y2,y3],⟨a,b,c,_⟩=>exact⟨y1,y2,y3,rfl,a,b,c⟩
  | [],h=>exact h.elim
  | [_],⟨_,h⟩=>exact h.elim
  | [_,_],⟨_,_,h⟩=>exact h.elim
  |_::_::_::_::_,⟨_,_,_,h⟩=>exact h.elim
 have hvt:vs=#[y1,y2,y3]:=by rw[<-alu];exact hvt
 subst hvt;have r2:y2=.int .i64 (i:Int):=r2;subst r2;obtain⟨B,st,q,e,hb,_,_,hx⟩:=r1;obtain⟨vB,vst,vq,ve,hvb,_,_,hvx⟩:=r3;obtain⟨rfl,hle,pE,cs,DX,JQ,h1c⟩:=aDX (b:=0) hg hH rfl hb;obtain⟨rfl,a7i,a16,vl,hvl,hvs,h1v⟩:=aDX (b:=1) hv9 hH rfl hvb
 obtain⟨aay,a5E,rfl,_⟩:∃aay,1<=aay/\y3=.slice (some ⟨vB,vst,none⟩) 1 aay/\True:=by
  rcases hvx with⟨h,_⟩| ⟨aay,h1,h2,_⟩
  .cases h
  .exact⟨aay,h1,h2,trivial⟩
 have NK:hZ ([[.a (.s n) (eY gs)],[.a (.s 1) (eY vs9)]].map some) 0≠none:=by simp[hZ]
 have Vf:hZ ([[.a (.s n) (eY gs)],[.a (.s 1) (eY vs9)]].map some) 1≠none:=by simp[hZ]
 have hfv:∀i,w.frozen? ⟨vB,i,none⟩=false:=λi=>hH.am.fr vB i (hH.lb 1 vB vst _ ve Vf hvb (by omega))
 have ho:(List.zipWith (wN i) gs vs9).length=9:=by simp[hg,hv9]
 have ai7:∀b,b< [[Sg.a (.s n) (eY gs)],[.a (.s 1) (eY vs9)]].length->[Ch.kill,Ch.mb][b]? =some .mb∨[Ch.kill,Ch.mb][b]? =some .kill:=λb hb=>by
  match b,hb with
  |0,_=>exact .inr rfl
  |1,_=>exact .inl rfl
  |b+2,h=>exact absurd h (by simp)
 have hft:∀i,st<=i->i<e->CW π 2 (SW [.kill,.mb]) B i:=λi h1 h2=>⟨0,st,_,e,by omega,by simp[SW],hb,h1,h2⟩
 have cont:∀(W:World) (B' s':Nat),(∀j v,j<i*9->cs[j]? =some v->cl W B' (s'+j)=some v)->(∀j v,vl[j]? =some v->cl W B' (s'+i*9+j)=some v)->(∀j v,i*9<=j->cs[j]? =some v->cl W B' (s'+(j+9))=some v)->
   ∀J,J<(n+1)*9->∃v,cl W B' (s'+J)=some v/\(iI (eY (List.zipWith (wN i) gs vs9)) J).rel π v:=λW B' s' c1 c2 c3 J hJ=>by
  rw[aUw hg hv9];by_cases h1:J<i*9
  .rw[if_pos h1];have hj:cs[J]? =some (cs[J]'(by omega)):=j7 _;exact⟨_,c1 J _ h1 hj,(JQ J _ hj).2⟩
  .rw[if_neg h1];by_cases h2:J<(i+1)*9
   .rw[if_pos h2];have hj:vl[J-i*9]? =some (vl[J-i*9]'(by omega)):=j7 _;have:=c2 _ _ hj;rw[show s'+i*9+(J-i*9)=s'+J by omega] at this;exact⟨_,this,(hvs _ _ hj).2⟩
   .rw[if_neg h2];have hj:cs[J-9]? =some (cs[J-9]'(by omega)):=j7 _;have:=c3 _ _ (by omega) hj;rw[show s'+(J-9+9)=s'+J by omega] at this;exact⟨_,this,(JQ _ _ hj).2⟩
 have hE:=iE;obtain⟨i0,z0,hi0,hzz,a3U,aYz,a3V⟩:=hE;have aYA:(Tryz.prog.info? 42).map (·.bytes)=some 72:=by rw[hi0];exact c8 some aYz
 obtain⟨zv,hzv,aYB⟩:∃zv,Ah Tryz.prog 42=some zv/\af.size zv.bR=9:=by
  have h:(Ah Tryz.prog 42).map (λz=>af.size z.bR)=some 9:=by kernel_rfl
  cases hz:Ah Tryz.prog 42 with
  |none=>rw[hz] at h;cases h
  |some z=>rw[hz] at h;exact⟨z,rfl,by simpa using h⟩
 have atr:∀(base:Option Addr) (cap:Nat) (Ha:List Value),i=n->Ha=cs->cap<n+1->n<=cap->((base=none/\n=0/\cap=0)∨∃b,base=some b/\∀j v,Ha[j]? =some v->w.cell? (b.add j)=some v)->
   y1=.slice base n cap->Calls Tryz.prog 97 #[y1,.int .i64 (i:Int),.slice (some ⟨vB,vst,none⟩) 1 aay] w (tg π w [[.a (.s n) (eY gs)],[.a (.s 1) (eY vs9)]] ⟨.r (.c (.sl 2 (.k 0) (.s (n+1)) 9 true)),[.kill,.mb],[[.a (.s (n+1)) (eY (List.zipWith (wN i) gs vs9))]]⟩):=by
  intro base cap Ha hin holds rz a5F hs hy;subst hin holds
  obtain⟨gc,arr,nq,hgc,xI,rest,agL⟩:∃gc arr,(∀ty,(Builtin.append_ #[140,140] ty #[.slice base i cap,.slice (some ⟨vB,vst,none⟩) 1 aay]).run Tryz.prog w=.ok (.slice (some ⟨w.heap.size,0,none⟩) (i+1) gc) (w.drew.alloc (.cells arr 42)))/\i+1<=gc/\arr.size=gc*9/\∃rest,arr.toList=Ha++vl++rest:=by
   obtain⟨gc,arr,nq,h2,h3,h4⟩:=I2 (P:=Tryz.prog) (ty:=0) uT uE aYA hzv aYB (by omega) (sv:=.slice base i cap) (n:=i) (cap:=cap) (m:=1) (c:=aay) (ad:=⟨vB,vst,none⟩) (Ha:=Ha) (news:=vl) w (by
    rcases hs with⟨rfl,h1,h2⟩| ⟨b,rfl,h3⟩
    .exact .inl ⟨by rw[h1,h2],h1,h2⟩
    .exact .inr ⟨b,rfl,h3⟩) DX (by rw[hvl]) (λj v hj=>by rw[Addr.add_lit];exact(hvs j v hj).1) rz (by omega) aAl
   exact⟨gc,arr,λty=>by unfold Builtin.append_ at nq ⊢;exact nq,h2,h3,h4⟩
  have hC:=aNX base i cap vB vst aay w _ _ nq;rw[hy];refine Calls.mono hC ?_;rintro ev W ⟨rfl,rfl⟩
  have aJn:∀j,cl (w.drew.alloc (.cells arr 42)) w.heap.size j=arr[j]? :=λj=>World.cell?_alloc_at (w:=w.drew) arr _ w.heap.size j rfl
  refine alY (P:=Tryz.prog) ho hH jK ai7 (cW _) (((ck.refl w _).drew).alloc _ _) (λk hk=>⟨by rw[aJn,ai1 (by omega)];rfl,World.frozen?_alloc_at (w:=w.drew) arr _ w.heap.size k rfl⟩) ((hH.am.same (w':=w.drew) rfl).alloc _ _) (λJ hJ=> ?_) hgc;have:=cont (w.drew.alloc (.cells arr 42)) w.heap.size 0 (λj v hj hv=>by rw[eX,aJn];exact(V1 agL).1 hv) (λj v hv=>by rw[eX,aJn,<-DX];exact(V1 agL).2 hv) (λj v hj hv=>by have:=(ld.1 hv).1;omega) J hJ;rwa [eX] at this
 rcases hx with⟨h0,a,rfl⟩| ⟨cap,rz,rfl,hce⟩
 ·
  have h0:n=0:=h0;subst h0;have a3W:i=0:=by omega
  subst a3W;cases a with
  |none=>exact atr none 0 cs rfl rfl (by omega) (by omega) (.inl ⟨rfl,rfl,rfl⟩) rfl
  |some b=>
   have a3X:cs=[]:=List.eq_nil_of_length_eq_zero (by omega);exact atr (some b) 0 cs rfl rfl (by omega) (by omega) (.inr ⟨b,rfl,λj v hj=>by rw[a3X] at hj;simp at hj⟩) rfl
 .have rz:n<=cap:=rz;have hce:st+cap*9<=e:=by have:=hce rfl;simpa[cA.val] using this
  show Calls Tryz.prog 97 #[.slice (some ⟨B,st,none⟩) n cap,.int .i64 (i:Int),.slice (some ⟨vB,vst,none⟩) 1 aay] w _;by_cases SV:n+1<=cap
  .have a5p:(n+1)*9<=cap*9:=vL _ SV
   have aX3:vB=B->vst+9<=st∨st+(n+1)*9<=vst:=λh=>by
    subst h;rcases ns vst (st+(n+1)*9) with h1|h1
    .left
     rcases ns st (vst+9) with h2|h2
     .exfalso
      rcases ns st vst with h3|h3
      .exact hH.dj 0 1 _ st _ e vst _ ve (by omega) NK Vf hb hvb vst (by omega) (by omega) (cW _) (by omega)
      .exact hH.dj 0 1 _ st _ e vst _ ve (by omega) NK Vf hb hvb st (cW _) (by omega) h3 (by omega)
     .omega
    .exact .inr h1
   by_cases hin:i=n
   ·
    subst hin;have hC:=aNX (some ⟨B,st,none⟩) i cap vB vst aay w _ _ (λty=>LG (P:=Tryz.prog) (ty:=ty) uT uE (B:=B) (q:=st) (n:=i) (cap:=cap) (m:=1) (c:=aay) (ad:=⟨vB,vst,none⟩) (news:=vl) SV (by rw[hvl]) w (λj v hj=>by rw[Addr.add_lit];exact(hvs j v hj).1) h1v (λj hj=>pE _ (by omega) (by omega)));refine Calls.mono hC ?_;rintro ev W ⟨rfl,rfl⟩
    have a1g:∀j,j<vl.length->(cl w B (st+i*9+j)).isSome=true:=λj hj=>(pE _ (by omega) (by omega)).1
    refine aax (P:=Tryz.prog) (q:=i*9) ho hH jK ai7 (by simp) rfl hb ((ck.refl w _).setCells (.inr λj hj=>hft _ (by omega) (by omega))) (λk k1 k2=>⟨Ab.isSome_setCells a1g (pE k k1 k2).1,by rw[oU];exact(pE k k1 k2).2⟩) (hH.am.setCells λ_=>hH.lb 0 B st _ e NK hb (by omega)) (cont _ B st (λj v hj hv=> ?_) (λj v hv=> ?_) (λj v hj hv=>by have:=(ld.1 hv).1;omega)) SV hce
    .rw[eF (λ_=>by omega)];exact(JQ j v hv).1
    .have hjl:=(ld.1 hv).1;rw[na a1g hjl];rw[j7 hjl] at hv;exact hv
   ·
    have hC:=aRL B st n cap i vB vst aay cs vl w (by omega) SV aX3 DX hvl (by omega) (λj v hj=>(JQ j v hj).1) (λj hj=>(pE _ (by omega) (by omega)).1) (λj hj=>(pE _ (by omega) (by omega)).2) (λj v hj=>(hvs j v hj).1) h1c h1v
     (λcb=>by
      obtain⟨va,hva⟩:=Option.isSome_iff_exists.1 (a16 vst (cW _) (by omega)).1;obtain⟨vb2,a3Y⟩:=Option.isSome_iff_exists.1 (pE (st+(i+1)*9) (by omega) (by omega)).1;exact aK6 (λh=>by have:=aX3 h;omega) hva a3Y hfv)
    refine Calls.mono hC ?_;rintro ev W ⟨rfl,rfl⟩
    have hdl:(cs.drop (i*9)).length=(n-i)*9:=by rw[atc,DX];omega
    have i1:∀j,j<(cs.drop (i*9)).length->(cl w.drew B (st+(i+1)*9+j)).isSome=true:=λj hj=>(pE _ (by omega) (by omega)).1
    have i2:∀j,j<vl.length->(cl (w.drew.setCells B (st+(i+1)*9) (cs.drop (i*9))) B (st+i*9+j)).isSome=true:=λj hj=>Ab.isSome_setCells i1 (pE _ (by omega) (by omega)).1
    have hlb:=hH.lb 0 B st _ e NK hb (by omega)
    refine aax (P:=Tryz.prog) (q:=n*9) ho hH jK ai7 (by simp) rfl hb ((((ck.refl w _).drew).setCells (.inr λj hj=>hft _ (by omega) (by omega))).setCells (.inr λj hj=>hft _ (by omega) (by omega)))
     (λk k1 k2=>⟨Ab.isSome_setCells i2 (Ab.isSome_setCells i1 (pE k k1 k2).1),by rw[oU,oU];exact(pE k k1 k2).2⟩) (((hH.am.same (w':=w.drew) rfl).setCells λ_=>hlb).setCells λ_=>hlb) (cont _ B st (λj v hj hv=> ?_) (λj v hv=> ?_) (λj v hj hv=> ?_)) SV hce
    .rw[eF (λ_=>by omega),eF (λ_=>by omega)];exact(JQ j v hv).1
    .have hjl:=(ld.1 hv).1;rw[na i2 hjl];rw[j7 hjl] at hv;exact hv
    .have hjl:=(ld.1 hv).1;rw[eF (λ_=>by omega)];have lg:j-i*9<(cs.drop (i*9)).length:=by omega
     have:=na i1 lg;rw[show st+(i+1)*9+(j-i*9)=st+(j+9) by omega] at this;rw[this,<-j7,Lp,show i*9+(j-i*9)=j by omega];exact hv
  .by_cases hin:i=n
   .exact atr (some ⟨B,st,none⟩) cap cs hin rfl (by omega) rz (.inr ⟨_,rfl,λj v hj=>by rw[Addr.add_lit];exact(JQ j v hj).1⟩) rfl
   .obtain⟨G,C2,hG,xI,htk,hC⟩:=aUu B st n cap i vB vst aay cs vl w (by omega) rz (by omega) aAl DX hvl (λj v hj=>(JQ j v hj).1) (λj v hj=>(hvs j v hj).1) h1c h1v;refine Calls.mono hC ?_;rintro ev W ⟨rfl,rfl⟩
    have hG9:(n+1)*9<=G*9:=vL _ hG;have hdl:(cs.drop (i*9)).length=(n-i)*9:=by rw[atc,DX];omega
    have c0:∀j,cl (w.alloc (.cells C2 42)).drew w.heap.size j=C2[j]? :=λj=>World.cell?_alloc_at (w:=w) C2 _ w.heap.size j rfl
    have s0:∀j,j<G*9->(cl (w.alloc (.cells C2 42)).drew w.heap.size j).isSome=true:=λj hj=>by rw[c0,ai1 (by omega)];rfl
    have i1:∀j,j<vl.length->(cl (w.alloc (.cells C2 42)).drew w.heap.size (i*9+j)).isSome=true:=λj hj=>s0 _ (by omega)
    have i2:∀j,j<(cs.drop (i*9)).length->(cl ((w.alloc (.cells C2 42)).drew.setCells w.heap.size (i*9) vl).drew w.heap.size ((i+1)*9+j)).isSome=true:=λj hj=>Ab.isSome_setCells i1 (s0 _ (by omega))
    have hlb:ax.h0<=w.heap.size:=hH.am.sz;have am1:Ak (w.alloc (.cells C2 42)).drew:=(hH.am.alloc C2 42).same (w':=(w.alloc (.cells C2 42)).drew) rfl;have am2:Ak ((w.alloc (.cells C2 42)).drew.setCells w.heap.size (i*9) vl).drew:=(am1.setCells λ_=>hlb).same (w':=((w.alloc (.cells C2 42)).drew.setCells w.heap.size (i*9) vl).drew) rfl;have f1:ck w (CW π 2 (SW [.kill,.mb])) ((w.alloc (.cells C2 42)).drew.setCells w.heap.size (i*9) vl).drew:=((((ck.refl w _).alloc C2 42).drew).setCells (.inl (cW _))).drew;refine alY (P:=Tryz.prog) ho hH jK ai7 (cW _) (f1.setCells (.inl (cW _))) (λk hk=>⟨Ab.isSome_setCells i2 (Ab.isSome_setCells i1 (s0 k hk)),?_⟩) (am2.setCells λ_=>hlb) (λJ hJ=> ?_) hG
    .rw[oU];exact(oU (w:=(w.alloc (.cells C2 42)).drew)).trans (World.frozen?_alloc_at (w:=w) C2 _ w.heap.size k rfl)
    .have:=cont (((w.alloc (.cells C2 42)).drew.setCells w.heap.size (i*9) vl).drew.setCells w.heap.size ((i+1)*9) (cs.drop (i*9))) w.heap.size 0 (λj v hj hv=> ?_) (λj v hv=> ?_) (λj v hj hv=> ?_) J hJ
     .rwa [eX] at this
     .rw[eX,eF (λ_=>by omega)];exact(eF (w:=(w.alloc (.cells C2 42)).drew) (λ_=>by omega)).trans ((c0 j).trans (htk j v hj hv))
     .have hjl:=(ld.1 hv).1;rw[eX,eF (λ_=>by omega)];have:=na i1 hjl;rw[j7 hjl] at hv;exact this.trans hv
     .have hjl:=(ld.1 hv).1;have lg:j-i*9<(cs.drop (i*9)).length:=by omega
      have:=na i2 lg;rw[show(i+1)*9+(j-i*9)=j+9 by omega] at this;rw[eX,this,<-j7,Lp,show i*9+(j-i*9)=j by omega];exact hv
theorem zS [ax]:∃z,(∀w,(Go.zeroValue 42).run Tryz.prog w=.ok z w)/\z.cells.size=9/\∀v∈z.cells.toList,v.oneCell'=true:=by
 have h:(Tryz.prog.info? 42).map (λi=>i.zero.map λz=>(z.cells.size,z.cells.toList.all λv=>v.oneCell'))=some (some (9,true)):=by kernel_rfl
 obtain⟨zv,hzv⟩:∃zv,Ah Tryz.prog 42=some zv:=by
  have h:(Ah Tryz.prog 42).isSome=true:=by kernel_rfl
  exact Option.isSome_iff_exists.1 h
 cases hi:Tryz.prog.info? 42 with
 |none=>rw[hi] at h;cases h
 |some i=>
  rw[hi] at h;simp only[Lt,gS] at h;cases hz:i.zero with
  |none=>rw[hz] at h;cases h
  |some z=>
   rw[hz] at h;simp only[Lt,gS,ql] at h;refine⟨z,λw=> ?_,h.1,ayi.1 h.2⟩;obtain⟨x,hx,⟨it,hi2,Vg⟩,_⟩:=aem hzv w;rw[hi] at hi2;cases hi2;rw[hz] at Vg;cases Vg;exact hx
theorem aYC [ax](w:World)(ty:TypeId)(b o n c:Nat)(hn:0<n)(hc:∀j,j<n*9->(w.cell? ⟨b,o+j,none⟩).isSome=true)(hf:∀j,j<n*9->w.frozen? ⟨b,o+j,none⟩=false):
  ∃zs:List Value,zs.length=n*9/\(Builtin.clear_ #[140] ty #[.slice (some ⟨b,o,none⟩) n c]).run Tryz.prog w=.ok (.tuple #[]) (w.setCells b o zs):=by
 obtain⟨z,hz,hs,h1⟩:=zS;have hl:(Builtin.zeroCells z.cells n).toList.length=n*9:=by rw[Wd,size_zeroCells,hs]
 refine⟨(Builtin.zeroCells z.cells n).toList,hl,?_⟩
 have hst:=run_storeCells_cells (P:=Tryz.prog) b o (Builtin.zeroCells z.cells n).toList 0 w (by rw[hl];simpa using hc) (by rw[hl];simpa using hf) (by
  intro v hv;unfold Builtin.zeroCells at hv;rw[Array.toList_map] at hv;obtain⟨i,hi,rfl⟩:=List.mem_map.1 hv;have mH:i%z.cells.size<z.cells.size:=Nat.mod_lt _ (by omega);have e:z.cells[i%z.cells.size]! =z.cells[i%z.cells.size]:=getElem!_pos z.cells (i%z.cells.size) mH;rw[e];exact h1 _ (Array.getElem_mem_toList mH))
 simp only[jM] at hst;obtain⟨m,rfl⟩:∃m,n=m+1:=⟨n-1,by omega⟩;simp[Builtin.clear_,run_underlying uT,hz,hst]
theorem aHp [ax]{gs:List (Nat->Int)}(hg:gs.length=9)(n i j:Nat)(hij:i<=j)(hj:j<=n)(w:World)(π:Pi)(vs:Array Value)
  (kI:bl (AV.rel π) [.r (.c (.sl 0 (.k 0) (.s n) 9 true)),.r (.c (.f (.i .i64 (i:Int)))),.r (.c (.f (.i .i64 (j:Int))))] vs.toList)
  (hH:r9 π (hC ([[.a (.s n) (eY gs)]].map some)) (hZ ([[.a (.s n) (eY gs)]].map some)) w)(jK:∀b,π b≠none->b<1):
  Calls Tryz.prog 98 vs w (tg π w [[.a (.s n) (eY gs)]] ⟨.r (.c (.sl 1 (.k 0) (.s (i+(n-j))) 9 true)),[.kill],[[.a (.s (i+(n-j))) (eY (gs.map (Re i (j-i))))]]⟩):=by
 obtain⟨y1,y2,y3,hvt,r1,r2,r3⟩:∃y1 y2 y3,vs.toList=[y1,y2,y3]/\(AV.r (.c (.sl 0 (.k 0) (.s n) 9 true))).rel π y1/\(AV.r (.c (.f (.i .i64 (i:Int))))).rel π y2/\(AV.r (.c (.f (.i .i64 (j:Int))))).rel π y3:=by
  match hl:vs.toList,kI with
  | [y1,y2,y3],⟨a,b,c,_⟩=>exact⟨y1,y2,y3,rfl,a,b,c⟩
  | [],h=>exact h.elim
  | [_],⟨_,h⟩=>exact h.elim
  | [_,_],⟨_,_,h⟩=>exact h.elim
  |_::_::_::_::_,⟨_,_,_,h⟩=>exact h.elim
 have hvt:vs=#[y1,y2,y3]:=by rw[<-alu];exact hvt
 subst hvt;have r2:y2=.int .i64 (i:Int):=r2;have r3:y3=.int .i64 (j:Int):=r3;subst r2 r3;obtain⟨B,st,q,e,hb,_,_,hx⟩:=r1;obtain⟨rfl,hle,pE,cs,DX,JQ,h1c⟩:=aDX (b:=0) hg hH rfl hb;have NK:hZ ([[.a (.s n) (eY gs)]].map some) 0≠none:=by simp[hZ]
 have ho:(gs.map (Re i (j-i))).length=9:=by simp[hg]
 have ai7:∀b,b< [[Sg.a (.s n) (eY gs)]].length->[Ch.kill][b]? =some .mb∨[Ch.kill][b]? =some .kill:=λb hb=>by
  match b,hb with
  |0,_=>exact .inr rfl
  |b+1,h=>exact absurd h (by simp)
 have hft:∀i,st<=i->i<e->CW π 1 (SW [.kill]) B i:=λi h1 h2=>⟨0,st,_,e,by omega,by simp[SW],hb,h1,h2⟩
 rcases hx with⟨h0,a,rfl⟩| ⟨cap,rz,rfl,hce⟩
 .have h0:n=0:=h0;subst h0;have hi0:i=0:=by omega
  have hj0:j=0:=by omega
  subst hi0 hj0;refine Calls.mono (aJk a 0 0 0 w (by omega) (by omega)) ?_;rintro ev W ⟨rfl,rfl⟩
  exact alZ (P:=Tryz.prog) ho hH jK ai7 (ck.refl _ _) hH.am
 .have rz:n<=cap:=rz;have hce:st+cap*9<=e:=by have:=hce rfl;simpa[cA.val] using this
  have a5G:n*9<=cap*9:=vL _ rz;show Calls Tryz.prog 98 #[.slice (some ⟨B,st,none⟩) n cap,.int .i64 (i:Int),.int .i64 (j:Int)] w _;rcases Nat.eq_or_lt_of_le hij with a3Z|mH
  .subst a3Z;refine Calls.mono (aJk _ n cap i w hj rz) ?_;rintro ev W ⟨rfl,rfl⟩
   have hn:i+(n-i)=n:=by omega
   rw[hn];refine aax (P:=Tryz.prog) (q:=n*9) ho hH jK ai7 (by simp) rfl hb (ck.refl _ _) pE hH.am (λJ hJ=> ?_) rz hce;rw[aJl hg];have hjj:cs[J]? =some (cs[J]'(by omega)):=j7 _;refine⟨_,(JQ _ _ hjj).1,?_⟩;have:=(JQ _ _ hjj).2;split
   .exact this
   .rw[Nat.sub_self,SP,jM];exact this
  .have hm9:(i+(n-j))*9<=n*9:=vL _ (by omega);have hdl:(cs.drop (j*9)).length=(n-j)*9:=by rw[atc,DX];omega
   have i1:∀k,k<(cs.drop (j*9)).length->(cl w.drew B (st+i*9+k)).isSome=true:=λk hk=>(pE _ (by omega) (by omega)).1
   obtain⟨w2,hw2⟩:∃w2,w2=w.drew.setCells B (st+i*9) (cs.drop (j*9)):=⟨_,rfl⟩
   have s2:∀k,st<=k->k<e->(cl w2 B k).isSome=true/\fz w2 B k=false:=λk k1 k2=>by
    rw[hw2];exact⟨Ab.isSome_setCells i1 (pE k k1 k2).1,by rw[oU];exact(pE k k1 k2).2⟩
   obtain⟨zs,hzl,a30⟩:∃zs:List Value,zs.length=(n-(i+(n-j)))*9/\∀ty,(Builtin.clear_ #[140] ty #[.slice (some ⟨B,st+(i+(n-j))*9,none⟩) (n-(i+(n-j))) (cap-(i+(n-j)))]).run Tryz.prog w2=.ok (.tuple #[]) (w2.setCells B (st+(i+(n-j))*9) zs):=by
    obtain⟨zs,h1,h2⟩:=aYC w2 0 B (st+(i+(n-j))*9) (n-(i+(n-j))) (cap-(i+(n-j))) (by omega) (λk hk=>(s2 _ (by omega) (by omega)).1) (λk hk=>(s2 _ (by omega) (by omega)).2);exact⟨zs,h1,λty=>by unfold Builtin.clear_ at h2 ⊢;exact h2⟩
   have hC:=aUv B st n cap i j w w2 (w2.setCells B (st+(i+(n-j))*9) zs) mH hj rz (λty=>by
    rw[hw2]
    exact LG (P:=Tryz.prog) (ty:=ty) uT uE (B:=B) (q:=st) (n:=i) (cap:=cap) (m:=n-j) (c:=cap-j) (news:=cs.drop (j*9)) (by omega) hdl w.drew (λk v hk=>by
     have hk2:=(ld.1 hk).1;rw[Lp] at hk;have:=(JQ _ _ hk).1;split
     .omega
     .rw[Addr.add_lit,Bw];exact this) (λv hv=>h1c v (List.mem_of_mem_drop hv)) (λk hk=>pE _ (by omega) (by omega))) a30
   refine Calls.mono hC ?_;rintro ev W ⟨rfl,rfl⟩
   have i2:∀k,k<zs.length->(cl w2 B (st+(i+(n-j))*9+k)).isSome=true:=λk hk=>(s2 _ (by omega) (by omega)).1
   have hlb:0<n->ax.h0<=B:=λ_=>hH.lb 0 B st _ e NK hb (by omega)
   have am2:Ak w2:=by rw[hw2];exact(hH.am.same (w':=w.drew) rfl).setCells λ_=>hlb (by omega)
   have f2:ck w (CW π 1 (SW [.kill])) w2:=by rw[hw2];exact((ck.refl w _).drew).setCells (.inr λk hk=>hft _ (by omega) (by omega))
   refine aax (P:=Tryz.prog) (q:=n*9) ho hH jK ai7 (by simp) rfl hb (f2.setCells (.inr λk hk=>hft _ (by omega) (by omega))) (λk k1 k2=>⟨Ab.isSome_setCells i2 (s2 k k1 k2).1,by rw[oU];exact(s2 k k1 k2).2⟩) (am2.setCells λ_=>hlb (by omega)) (λJ hJ=> ?_) (by omega) hce;rw[aJl hg,eF (λ_=>by omega),hw2];by_cases h1:J<i*9
   .rw[if_pos h1,eF (λ_=>by omega)];have hjj:cs[J]? =some (cs[J]'(by omega)):=j7 _;exact⟨_,(JQ _ _ hjj).1,(JQ _ _ hjj).2⟩
   .rw[if_neg h1];have hJ2:J-i*9<(cs.drop (j*9)).length:=by omega
    have h3:=na i1 hJ2;rw[show st+i*9+(J-i*9)=st+J by omega] at h3;refine⟨_,h3,?_⟩
    have hjj:cs[J+(j-i)*9]? =some ((cs.drop (j*9))[J-i*9]):=by
     rw[<-j7,Lp];congr 1
     have:(j-i)*9=j*9-i*9:=by omega
     omega
    exact(JQ _ _ hjj).2
theorem aK7 [ax]{gs:List (Nat->Int)}(hg:gs.length=9)(n:Nat)(aAl:n*72<=140737488355328)(w0:Bool)(w:World)(π:Pi)(vs:Array Value)
  (kI:bl (AV.rel π) [.r (.c (.sl 0 (.k 0) (.s n) 9 w0))] vs.toList)
  (hH:r9 π (hC ([[.a (.s n) (eY gs)]].map some)) (hZ ([[.a (.s n) (eY gs)]].map some)) w)(jK:∀b,π b≠none->b<1):
  Calls Tryz.prog 166 vs w (tg π w [[.a (.s n) (eY gs)]] ⟨.r (.c (.sl 1 (.k 0) (.s n) 9 true)),[.mb],[[.a (.s n) (eY gs)]]⟩):=by
 obtain⟨y1,hvt,r1⟩:∃y1,vs.toList=[y1]/\(AV.r (.c (.sl 0 (.k 0) (.s n) 9 w0))).rel π y1:=by
  match hl:vs.toList,kI with
  | [y1],⟨a,_⟩=>exact⟨y1,rfl,a⟩
  | [],h=>exact h.elim
  |_::_::_,⟨_,h⟩=>exact h.elim
 have hvt:vs=#[y1]:=by rw[<-alu];exact hvt
 subst hvt;obtain⟨B,st,q,e,hb,_,_,hx⟩:=r1;obtain⟨rfl,hle,pE,cs,DX,JQ,h1c⟩:=aDX (b:=0) hg hH rfl hb
 have ai7:∀b,b< [[Sg.a (.s n) (eY gs)]].length->[Ch.mb][b]? =some .mb∨[Ch.mb][b]? =some .kill:=λb hb=>by
  match b,hb with
  |0,_=>exact .inl rfl
  |b+1,h=>exact absurd h (by simp)
 have hE:=iE;obtain⟨i0,z0,hi0,hzz,a3U,aYz,a3V⟩:=hE;have aYA:(Tryz.prog.info? 42).map (·.bytes)=some 72:=by rw[hi0];exact c8 some aYz
 obtain⟨zv,hzv,aYB⟩:∃zv,Ah Tryz.prog 42=some zv/\af.size zv.bR=9:=by
  have h:(Ah Tryz.prog 42).map (λz=>af.size z.bR)=some 9:=by kernel_rfl
  cases hz:Ah Tryz.prog 42 with
  |none=>rw[hz] at h;cases h
  |some z=>rw[hz] at h;exact⟨z,rfl,by simpa using h⟩
 obtain⟨w1,hw1⟩:∃w1,w1=w.alloc (.cells #[] 42):=⟨_,rfl⟩;have hs1:w1.heap.size=w.heap.size+1:=by rw[hw1];exact World.size_alloc ..
 have am1:Ak w1:=by rw[hw1];exact hH.am.alloc _ _
 have f1:ck w (CW π 1 (SW [.mb])) w1:=by rw[hw1];exact(ck.refl w _).alloc _ _
 have none_:n=0->∀(a:Addr) (c:Nat),Calls Tryz.prog 166 #[.slice (some a) 0 c] w (tg π w [[.a (.s n) (eY gs)]] ⟨.r (.c (.sl 1 (.k 0) (.s n) 9 true)),[.mb],[[.a (.s n) (eY gs)]]⟩):=λh0 a c=>by
  subst h0;refine Calls.mono (aAA a 0 c w _ _ λty=>LG (P:=Tryz.prog) (ty:=ty) uT uE (B:=w.heap.size) (q:=0) (n:=0) (cap:=0) (m:=0) (c:=c) (ad:=a) (news:=[]) (by omega) rfl (w.alloc (.cells #[] 42)) (λj v hj=>by simp at hj) (λv hv=>by cases hv) (λj hj=>by simp at hj)) ?_;rintro ev W ⟨rfl,rfl⟩
  rw[<-hw1];exact alZ (P:=Tryz.prog) hg hH jK ai7 f1 am1
 rcases hx with⟨h0,a,rfl⟩| ⟨cap,rz,rfl,hce⟩
 .have h0:n=0:=h0;cases a with
  |none=>
   subst h0;refine Calls.mono (aRM w) ?_;rintro ev W ⟨rfl,rfl⟩
   exact alZ (P:=Tryz.prog) hg hH jK ai7 (ck.refl _ _) hH.am
  |some b=>exact none_ h0 b 0
 .show Calls Tryz.prog 166 #[.slice (some ⟨B,st,none⟩) n cap] w _;rcases abY n with h0|hn
  .subst h0;exact none_ rfl ⟨B,st,none⟩ cap
  .have hbw:B<w.heap.size:=ab5 (pE st (cW _) (by omega)).1
   obtain⟨gc,arr,nq,hgc,xI,rest,agL⟩:=I2 (P:=Tryz.prog) (ty:=0) uT uE aYA hzv aYB (by omega) (sv:=.slice (some ⟨w.heap.size,0,none⟩) 0 0) (n:=0) (cap:=0) (m:=n) (c:=cap) (ad:=⟨B,st,none⟩) (Ha:=[]) (news:=cs) w1 (.inr ⟨_,rfl,λj v hj=>by simp at hj⟩) rfl DX (λj v hj=>by
    rw[Addr.add_lit,hw1];exact(World.cell?_alloc_past (w:=w) _ B _ hbw).trans (JQ j v hj).1) (by omega) hn (by omega)
   rw[eX] at nq hgc;have nq:∀ty,(Builtin.append_ #[140,140] ty #[.slice (some ⟨w.heap.size,0,none⟩) 0 0,.slice (some ⟨B,st,none⟩) n cap]).run Tryz.prog (w.alloc (.cells #[] 42))=.ok (.slice (some ⟨w1.heap.size,0,none⟩) n gc) (w1.drew.alloc (.cells arr 42)):=λty=>by rw[<-hw1];unfold Builtin.append_ at nq ⊢;exact nq
   refine Calls.mono (aAA ⟨B,st,none⟩ n cap w _ _ nq) ?_;rintro ev W ⟨rfl,rfl⟩
   have aJn:∀j,cl (w1.drew.alloc (.cells arr 42)) w1.heap.size j=arr[j]? :=λj=>World.cell?_alloc_at (w:=w1.drew) arr _ w1.heap.size j rfl
   refine alY (P:=Tryz.prog) hg hH jK ai7 (by omega) ((f1.drew).alloc _ _) (λk hk=>⟨by rw[aJn,ai1 (by omega)];rfl,World.frozen?_alloc_at (w:=w1.drew) arr _ w1.heap.size k rfl⟩) ((am1.same (w':=w1.drew) rfl).alloc _ _) (λJ hJ=> ?_) hgc;have hjj:cs[J]? =some (cs[J]'(by omega)):=j7 _;refine⟨_,?_,(JQ _ _ hjj).2⟩;rw[aJn];have:=(V1 agL).2 hjj;simpa using this
end Go.Proofs.YtldgljclcgaibaaGreat
noncomputable section
namespace Go.Proofs.YtldgljclcgaibaaGreat
open Go.Ab Go.Ab.Pg
theorem Wv {α:Type}{c:Bool}{v d:α}(h:cond c (some v) none=some d):c=true/\v=d:=by
 cases c with
 |true=>exact⟨rfl,Om h⟩
 |false=>cases h
theorem ayL {β δ:Type}{Q:Rq (List AV×List af) β}{R:δ->Go.Ab.T}{f:β->Option δ}{a:List AV}{h:List af}{r:oO}(hr:(FC Q R f a h).eval=some r):
  ∃b d,(a,h)=Q.em b/\f b=some d/\(R d).eval=some r:=by
 unfold FC at hr;split at hr
 .rename_i b hb
  obtain⟨t,b⟩:=b;obtain⟨h1,ZU⟩:=alV hr;rw[atu] at ZU;obtain⟨d,e1,e2⟩:=Option.bind_eq_some_iff.1 ZU;exact⟨b,d,Q.ok _ _ _ hb h1,e1,e2⟩
 .cases hr
def sd:=(open Go.Ab.Rq in(dp (c (ac (slc 0 9)) (c ai (cl (ac (slc 1 9)) nil))) λa=>(c (cl (gs a.1.1 (c gm (c gm (c gm (c gm (c gm (c gm (c gm (c gm (cl gm nil)))))))))) nil) (cl (cl (gs a.2.2.1 (c gm (c gm (c gm (c gm (c gm (c gm (c gm (c gm (cl gm nil)))))))))) nil) nil))):Rq (List AV×List af) _)
def rA:=(open Go.Ab.Rq in(res (pr (ac (yU 2 9)) (pu (cu V5 (cu fJ nil)) (cl (cl (ga (pr (szs hole) (c gm (c gm (c gm (c gm (c gm (c gm (c gm (c gm (cl gm nil))))))))))) nil) nil)))):Rq (oO) _)
abbrev eP:=Nat×(Nat->Int)×(Nat->Int)×(Nat->Int)×(Nat->Int)×(Nat->Int)×(Nat->Int)×(Nat->Int)×(Nat->Int)×(Nat->Int)
def E7 (d:eP):T:=(λd=>.leaf (rA.em (d.1,d))) d
abbrev se:=Nat->Int->(Nat->Int)->(Nat->Int)->(Nat->Int)->(Nat->Int)->(Nat->Int)->(Nat->Int)->(Nat->Int)->(Nat->Int)->(Nat->Int)->(Nat->Int)->(Nat->Int)->(Nat->Int)->(Nat->Int)->(Nat->Int)->(Nat->Int)->(Nat->Int)->(Nat->Int)->(Nat->Int)->Nat->Bool->Bool->Option eP
def sf (g:se):Ct:=(97,uW 0 [.i .i64,.i .i64,.i .i64,.i .i64,.i .i64,.i .i64,.i .i64,.i .i64,.i .i64] (FC sd E7 (λb=>g b.1.1.1 b.1.2.1 b.2.1.1 b.2.1.2.1 b.2.1.2.2.1 b.2.1.2.2.2.1 b.2.1.2.2.2.2.1 b.2.1.2.2.2.2.2.1 b.2.1.2.2.2.2.2.2.1 b.2.1.2.2.2.2.2.2.2.1 b.2.1.2.2.2.2.2.2.2.2 b.2.2.1 b.2.2.2.1 b.2.2.2.2.1 b.2.2.2.2.2.1 b.2.2.2.2.2.2.1 b.2.2.2.2.2.2.2.1 b.2.2.2.2.2.2.2.2.1 b.2.2.2.2.2.2.2.2.2.1 b.2.2.2.2.2.2.2.2.2.2 b.1.2.2.1 b.1.1.2 b.1.2.2.2)))
def cR (x0:Nat)(x1:Int)(x2 x3 x4 x5 x6 x7 x8 x9 gx gy Aq x13 x14 x15 x16 x17 x18 x19:Nat->Int)(x20:Nat)(w0 w1:Bool):Option eP:=
 bif ww x20 1&&(w0&&(decide (0<=x1)&&(wl (wt x1) x0&&wl ((x0+1)*72) 140737488355328))) then some (x0+1,wN (wt x1) x2 gy,wN (wt x1) x3 Aq,wN (wt x1) x4 x13,wN (wt x1) x5 x14,wN (wt x1) x6 x15,wN (wt x1) x7 x16,wN (wt x1) x8 x17,wN (wt x1) x9 x18,wN (wt x1) gx x19) else none
theorem ER:∀b,(sd).em b=([.r (.c (.sl 0 (.k 0) (.s b.1.1.1) 9 b.1.1.2)),.r (.c (.f (.i .i64 b.1.2.1))),.r (.c (.sl 1 (.k 0) (.s b.1.2.2.1) 9 b.1.2.2.2))],[[.a (.s b.1.1.1) [.i .i64 b.2.1.1,.i .i64 b.2.1.2.1,.i .i64 b.2.1.2.2.1,.i .i64 b.2.1.2.2.2.1,.i .i64 b.2.1.2.2.2.2.1,.i .i64 b.2.1.2.2.2.2.2.1,.i .i64 b.2.1.2.2.2.2.2.2.1,.i .i64 b.2.1.2.2.2.2.2.2.2.1,.i .i64 b.2.1.2.2.2.2.2.2.2.2]],[.a (.s b.1.2.2.1) [.i .i64 b.2.2.1,.i .i64 b.2.2.2.1,.i .i64 b.2.2.2.2.1,.i .i64 b.2.2.2.2.2.1,.i .i64 b.2.2.2.2.2.2.1,.i .i64 b.2.2.2.2.2.2.2.1,.i .i64 b.2.2.2.2.2.2.2.2.1,.i .i64 b.2.2.2.2.2.2.2.2.2.1,.i .i64 b.2.2.2.2.2.2.2.2.2.2]]]):=λb=>by kernel_rfl
theorem E8 [ax]:Snd Tryz.prog (sf cR):=Sound.nil 0 [.i .i64,.i .i64,.i .i64,.i .i64,.i .i64,.i .i64,.i .i64,.i .i64,.i .i64]<|λargs h r hr w π vs kI hH jK=>by
 obtain⟨b,d,e,hd,hq⟩:=ayL hr;rw[ER] at e;obtain⟨hc,rfl⟩:=Wv hd;simp only[cj,ke] at hc;obtain⟨h0,h1,h2,h3,h4⟩:=hc;rw[mO h0] at e;obtain⟨rfl,rfl⟩:=Prod.mk.inj e;rw[h1,show b.1.2.1=((wt b.1.2.1:Nat):Int) by omega] at kI;have hr2:rA.em (_,_)=r:=Om hq;subst hr2;exact .inl ⟨Ic (by kernel_rfl) _ _,aHo (gs:=[b.2.1.1,b.2.1.2.1,b.2.1.2.2.1,b.2.1.2.2.2.1,b.2.1.2.2.2.2.1,b.2.1.2.2.2.2.2.1,b.2.1.2.2.2.2.2.2.1,b.2.1.2.2.2.2.2.2.2.1,b.2.1.2.2.2.2.2.2.2.2]) (vs9:=[b.2.2.1,b.2.2.2.1,b.2.2.2.2.1,b.2.2.2.2.2.1,b.2.2.2.2.2.2.1,b.2.2.2.2.2.2.2.1,b.2.2.2.2.2.2.2.2.1,b.2.2.2.2.2.2.2.2.2.1,b.2.2.2.2.2.2.2.2.2.2]) rfl rfl _ _ (JK h3) (JK h4) _ w π vs kI hH λb hb=>jK b hb⟩
def si:=(open Go.Ab.Rq in(dp (c (ac (slc 0 9)) (c ai (cl ai nil))) λa=>(cl (cl (gs a.1.1 (c gm (c gm (c gm (c gm (c gm (c gm (c gm (c gm (cl gm nil)))))))))) nil) nil)):Rq (List AV×List af) _)
def rB:=(open Go.Ab.Rq in(res (pr (ac (yU 1 9)) (pu (cu V5 nil) (cl (cl (ga (pr (szs hole) (c gm (c gm (c gm (c gm (c gm (c gm (c gm (c gm (cl gm nil))))))))))) nil) nil)))):Rq (oO) _)
abbrev eQ:=Nat×(Nat->Int)×(Nat->Int)×(Nat->Int)×(Nat->Int)×(Nat->Int)×(Nat->Int)×(Nat->Int)×(Nat->Int)×(Nat->Int)
def E9 (d:eQ):T:=(λd=>.leaf (rB.em (d.1,d))) d
abbrev hM:=Nat->Int->Int->(Nat->Int)->(Nat->Int)->(Nat->Int)->(Nat->Int)->(Nat->Int)->(Nat->Int)->(Nat->Int)->(Nat->Int)->(Nat->Int)->Bool->Option eQ
def lk (g:hM):Ct:=(98,uW 0 [.i .i64,.i .i64,.i .i64,.i .i64,.i .i64,.i .i64,.i .i64,.i .i64,.i .i64] (FC si E9 (λb=>g b.1.1.1 b.1.2.1 b.1.2.2 b.2.1 b.2.2.1 b.2.2.2.1 b.2.2.2.2.1 b.2.2.2.2.2.1 b.2.2.2.2.2.2.1 b.2.2.2.2.2.2.2.1 b.2.2.2.2.2.2.2.2.1 b.2.2.2.2.2.2.2.2.2 b.1.1.2)))
def bS (x0:Nat)(x1 x2:Int)(x3 x4 x5 x6 x7 x8 x9 gx gy:Nat->Int)(w0:Bool):Option eQ:=
 bif w0&&(decide (0<=x1)&&(wl (wt x1) (wt x2)&&(decide (0<=x2)&&wl (wt x2) x0))) then some (wt x1+(x0-wt x2),Re (wt x1) (wt x2-wt x1) x3,Re (wt x1) (wt x2-wt x1) x4,Re (wt x1) (wt x2-wt x1) x5,Re (wt x1) (wt x2-wt x1) x6,Re (wt x1) (wt x2-wt x1) x7,Re (wt x1) (wt x2-wt x1) x8,Re (wt x1) (wt x2-wt x1) x9,Re (wt x1) (wt x2-wt x1) gx,Re (wt x1) (wt x2-wt x1) gy) else none
theorem ES:∀b,(si).em b=([.r (.c (.sl 0 (.k 0) (.s b.1.1.1) 9 b.1.1.2)),.r (.c (.f (.i .i64 b.1.2.1))),.r (.c (.f (.i .i64 b.1.2.2)))],[[.a (.s b.1.1.1) [.i .i64 b.2.1,.i .i64 b.2.2.1,.i .i64 b.2.2.2.1,.i .i64 b.2.2.2.2.1,.i .i64 b.2.2.2.2.2.1,.i .i64 b.2.2.2.2.2.2.1,.i .i64 b.2.2.2.2.2.2.2.1,.i .i64 b.2.2.2.2.2.2.2.2.1,.i .i64 b.2.2.2.2.2.2.2.2.2]]]):=λb=>by kernel_rfl
theorem sj [ax]:Snd Tryz.prog (lk bS):=Sound.nil 0 [.i .i64,.i .i64,.i .i64,.i .i64,.i .i64,.i .i64,.i .i64,.i .i64,.i .i64]<|λargs h r hr w π vs kI hH jK=>by
 obtain⟨b,d,e,hd,hq⟩:=ayL hr;rw[ES] at e;obtain⟨hc,rfl⟩:=Wv hd;simp only[cj,ke] at hc;obtain⟨h1,h2,h3,h4,h5⟩:=hc;obtain⟨rfl,rfl⟩:=Prod.mk.inj e;have e2:b.1.2.1=((wt b.1.2.1:Nat):Int):=by omega
 have e3:b.1.2.2=((wt b.1.2.2:Nat):Int):=by omega
 have hr2:rB.em (_,_)=r:=Om hq;subst hr2;exact .inl ⟨Ic (by kernel_rfl) _ _,aHp (gs:=[b.2.1,b.2.2.1,b.2.2.2.1,b.2.2.2.2.1,b.2.2.2.2.2.1,b.2.2.2.2.2.2.1,b.2.2.2.2.2.2.2.1,b.2.2.2.2.2.2.2.2.1,b.2.2.2.2.2.2.2.2.2]) rfl _ (wt b.1.2.1) (wt b.1.2.2) (JK h3) (JK h5) w π vs (by rw[<-e2,<-e3,<-h1];exact kI) hH λb hb=>jK b hb⟩
def tj:=(open Go.Ab.Rq in(dp (cl (ac (slc 0 9)) nil) λa=>(cl (cl (gs a.1 (c gm (c gm (c gm (c gm (c gm (c gm (c gm (c gm (cl gm nil)))))))))) nil) nil)):Rq (List AV×List af) _)
def sk:=(open Go.Ab.Rq in(res (pr (ac (yU 1 9)) (pu (cu fJ nil) (cl (cl (ga (pr (szs hole) (c gm (c gm (c gm (c gm (c gm (c gm (c gm (c gm (cl gm nil))))))))))) nil) nil)))):Rq (oO) _)
abbrev iD:=Nat×(Nat->Int)×(Nat->Int)×(Nat->Int)×(Nat->Int)×(Nat->Int)×(Nat->Int)×(Nat->Int)×(Nat->Int)×(Nat->Int)
def Gv (d:iD):T:=(λd=>.leaf (sk.em (d.1,d))) d
abbrev lQ:=Nat->(Nat->Int)->(Nat->Int)->(Nat->Int)->(Nat->Int)->(Nat->Int)->(Nat->Int)->(Nat->Int)->(Nat->Int)->(Nat->Int)->Bool->Option iD
def tk (g:lQ):Ct:=(166,uW 0 [.i .i64,.i .i64,.i .i64,.i .i64,.i .i64,.i .i64,.i .i64,.i .i64,.i .i64] (FC tj Gv (λb=>g b.1.1 b.2.1 b.2.2.1 b.2.2.2.1 b.2.2.2.2.1 b.2.2.2.2.2.1 b.2.2.2.2.2.2.1 b.2.2.2.2.2.2.2.1 b.2.2.2.2.2.2.2.2.1 b.2.2.2.2.2.2.2.2.2 b.1.2)))
def fg (x0:Nat)(x1 x2 x3 x4 x5 x6 x7 x8 x9:Nat->Int)(w0:Bool):Option iD:=
 bif wl (x0*72) 140737488355328 then some (x0,x1,x2,x3,x4,x5,x6,x7,x8,x9) else none
theorem E':∀b,(tj).em b=([.r (.c (.sl 0 (.k 0) (.s b.1.1) 9 b.1.2))],[[.a (.s b.1.1) [.i .i64 b.2.1,.i .i64 b.2.2.1,.i .i64 b.2.2.2.1,.i .i64 b.2.2.2.2.1,.i .i64 b.2.2.2.2.2.1,.i .i64 b.2.2.2.2.2.2.1,.i .i64 b.2.2.2.2.2.2.2.1,.i .i64 b.2.2.2.2.2.2.2.2.1,.i .i64 b.2.2.2.2.2.2.2.2.2]]]):=λb=>by kernel_rfl
theorem Gw [ax]:Snd Tryz.prog (tk fg):=Sound.nil 0 [.i .i64,.i .i64,.i .i64,.i .i64,.i .i64,.i .i64,.i .i64,.i .i64,.i .i64]<|λargs h r hr w π vs kI hH jK=>by
 obtain⟨b,d,e,hd,hq⟩:=ayL hr;rw[E'] at e;obtain⟨hc,rfl⟩:=Wv hd;obtain⟨rfl,rfl⟩:=Prod.mk.inj e;have hr2:sk.em (_,_)=r:=Om hq;subst hr2;exact .inl ⟨Ic (by kernel_rfl) _ _,aK7 (gs:=[b.2.1,b.2.2.1,b.2.2.2.1,b.2.2.2.2.1,b.2.2.2.2.2.1,b.2.2.2.2.2.2.1,b.2.2.2.2.2.2.2.1,b.2.2.2.2.2.2.2.2.1,b.2.2.2.2.2.2.2.2.2]) rfl _ (JK hc) _ w π vs kI hH λb hb=>jK b hb⟩
open Go.Ab Go.Ab.Pg Go.Ab.Rq
def ai8:=qa (pr (cu aP EV) bH)
def OC:=qe qi
abbrev ai9:=OC.B
abbrev ch:=Int->Int->Int->Bool->Option ai9
def dY (g:ch):Ct:=(119,FC ai8 (lf OC) (λb=>g b.1.1 b.1.2.1 b.1.b b.2))
def xr (x0:Int)(x1:Int)(x2:Int)(x3:Bool):Pg ai9:=ae (decide (x1>x2)) (ret (x1,true)) (ae (decide (x0<x1)) (ret (x1,true)) (ae (decide (x0>x2)) (ret (x2,true)) (ret (x0,x3))))
def bc:=λx0 x1 x2 x3=>(xr x0 x1 x2 x3).val
theorem aCF:D1 [] [0] 119 ai8 (lf OC) λb=>xr b.1.1 b.1.2.1 b.1.b b.2:=λb=>by kernel_rfl
theorem eK [ax]:SC (dY bc):=s0 (.nil _) aCF
def aqJ:=qa (pr (cu aP gW) bH)
def Ww:=qe qi
abbrev aqK:=Ww.B
abbrev bP:=Int->Bool->Option aqK
def dx (g:bP):Ct:=(126,FC aqJ (lf Ww) (λb=>g b.1 b.2))
def aca (aF:ch)(x0:Int)(x1:Bool):Pg aqK:=opt (aF x0 (-1152921504606846976) 1152921504606846976 x1) λd=>ret d
def aQ:=λx0 x1=>(aca bc x0 x1).val
theorem aHq:∀aF,D0 [dY aF] 126 aqJ (lf Ww) λb=>aca aF b.1 b.2:=λ_ b=>by kernel_rfl
theorem dB [ax]:SC (dx aQ):=s0 (.c eK (.nil _)) (aHq bc)
def aqL:=qa (pl gW nil)
def Wx:=qe aV4
abbrev aqM:=Wx.B
abbrev Qr:=Int->Option aqM
def Qs (g:Qr):Ct:=(185,FC aqL (lf Wx) (λb=>g b))
def acb (x0:Int):Pg aqM:=ae (decide (x0<0)) (ret (wU (0-wU x0))) (ret (wU x0))
def rD:=λx0=>(acb x0).val
theorem aHr:D0 [] 185 aqL (lf Wx) λb=>acb b:=λb=>by kernel_rfl
theorem acd [ax]:SC (Qs rD):=s0 (.nil _) aHr
def aqN:=qa (pl (c an aII) nil)
def Wy:=qe aQv
abbrev aqO:=Wy.B
abbrev aqP:=Int->Int->Option aqO
def aqQ (g:aqP):Ct:=(184,FC aqN (lf Wy) (λb=>g b.1 b.2))
def ace (x0:Int)(x1:Int):Pg aqO:=let y0:=t9 x0 4294967296;let y1:=t9 x1 4294967296;let y2:=wU (wn (ul (wd 64 x0&&&wd 64 4294967295)));let y3:=wU (wn (ul (wd 64 x1&&&wd 64 4294967295)));let y4:=wU (wU (y0*y3)+t9 (wU (y2*y3)) 4294967296);ret (wU (wU (wU (y0*y1)+t9 y4 4294967296)+t9 (wU (wU (wn (ul (wd 64 y4&&&wd 64 4294967295)))+wU (y2*y1))) 4294967296),wU (x0*x1))
def Ie:=λx0 x1=>(ace x0 x1).val
theorem aHs:D0 [] 184 aqN (lf Wy) λb=>ace b.1 b.2:=λb=>by kernel_rfl
theorem aHt [ax]:SC (aqQ Ie):=s0 (.nil _) aHs
def al0:=qa (pl (c V9 aMR) nil)
def SZ:=qe aQz
abbrev Wz:=SZ.B
abbrev WA:=Int->Int->Bool->Option Wz
def WB (g:WA):Ct:=(186,FC al0 (lf SZ) (λb=>g b.1.1 b.1.2 b.2))
def LM (mQ:avq)(x0:Int)(x1:Int)(x2:Bool):Pg Wz:=ae (!x2) (ret ((wI x0,x1),t9 x0 9223372036854775808==0)) (opt (mQ (wU (wn (ul (wd 64 18446744073709551615^^^wd 64 x1)))) 1 0) λd=>let y0:=wI (wU (wU (wn (ul (wd 64 18446744073709551615^^^wd 64 x0)))+d.2));ae (decide (y0<0)) (ret ((y0,d.1),true)) (ret ((y0,d.1),x0==0&&(x1==0&&true))))
def mR:=λx0 x1 x2=>(LM CX x0 x1 x2).val
theorem aFB:∀mQ,D0 [alX mQ] 186 al0 (lf SZ) λb=>LM mQ b.1.1 b.1.2 b.2:=λ_ b=>by kernel_rfl
theorem al1 [ax]:SC (WB mR):=s0 (.c apu (.nil _)) (aFB CX)
def aAB:=qa (pl yV nil)
def agV:=qe aWs
abbrev al2:=agV.B
abbrev nD:=Int->Int->Option al2
def xL (g:nD):Ct:=(116,FC aAB (lf agV) (λb=>g b.1 b.2))
def al3 (ix:Qr)(Qt:aqP)(oV:WA)(x0:Int)(x1:Int):Pg al2:=opt (ix x0) λd=>opt (ix x1) λaj=>opt (Qt d aj) λd=>opt (oV d.1 d.2 !decide (x0<0)==decide (x1<0)) λd=>ret d.1
def fC:=λx0 x1=>(al3 rD Ie mR x0 x1).val
theorem aNZ:∀ix Qt oV,D0 [Qs ix,aqQ Qt,WB oV] 116 aAB (lf agV) λb=>al3 ix Qt oV b.1 b.2:=λ_ _ _ b=>by kernel_rfl
theorem Bc [ax]:SC (xL fC):=s0 (.c acd (.c aHt (.c al1 (.nil _)))) (aNZ rD Ie mR)
def aAC:=qa (pl aEd nil)
def agW:=qe (res (pl (ry (c (ra axS) aSN)) (pu nil nil)))
abbrev aAD:=agW.B
abbrev al4:=Int->Int->Option aAD
def al5 (g:al4):Ct:=(188,FC aAC (lf agW) (λb=>g b.1 b.2))
def al6 (mQ:avq)(x0:Int)(x1:Int):Pg aAD:=ae (decide (x0>=0)) (ret ((wU x0,x1),false)) (opt (mQ (wU (wn (ul (wd 64 18446744073709551615^^^wd 64 x1)))) 1 0) λd=>ret ((wU (wU (wn (ul (wd 64 18446744073709551615^^^wd 64 (wU x0))))+d.2),d.1),true))
def Fa:=λx0 x1=>(al6 CX x0 x1).val
theorem aN0:∀mQ,D0 [alX mQ] 188 aAC (lf agW) λb=>al6 mQ b.1 b.2:=λ_ b=>by kernel_rfl
theorem aAE [ax]:SC (al5 Fa):=s0 (.c apu (.nil _)) (aN0 CX)
def aja:=qa (pl (c V9 gW) nil)
def OD:=qe aKl
abbrev ajb:=OD.B
abbrev C4:=Int->Int->Int->Option ajb
def I3 (g:C4):Ct:=(190,FC aja (lf OD) (λb=>g b.1.1 b.1.2 b.2))
def S9 (x0:Int)(x1:Int)(x2:Int):Pg ajb:=let y0:=wI (64-x2);let y1:=wI (x2-64);let y2:=2^min (wt x2) 64;let y3:= !decide (x2<0);ae (decide (x2>=64)) (ae (!decide (y1<0)) (ret (wU (x1*2^min (wt y1) 64),0)) no) (ae y3 (ae (!decide (y0<0)) (ae y3 (ret (wU (wn (ul (wd 64 (wU (x0*y2))|||wd 64 (t9 x1 (2^min (wt y0) 64))))),wU (x1*y2))) no) no) no)
def gY:=λx0 x1 x2=>(S9 x0 x1 x2).val
theorem aCG:D0 [] 190 aja (lf OD) λb=>S9 b.1.1 b.1.2 b.2:=λb=>by kernel_rfl
theorem Ta [ax]:SC (I3 gY):=s0 (.nil _) aCG
def aes:=qa (pl (c V9 (cl V9 nil)) nil)
def LN:=qe aKl
abbrev aet:=LN.B
abbrev vn:=Int->Int->Int->Int->Option aet
def Gx (g:vn):Ct:=(189,FC aes (lf LN) (λb=>g b.1.1 b.1.2 b.2.1 b.b))
def OE (mQ:avq)(x0:Int)(x1:Int)(x2:Int)(x3:Int):Pg aet:=opt (mQ x1 x3 0) λd=>opt (mQ x0 x2 d.2) λaj=>ret (aj.1,d.1)
def iZ:=λx0 x1 x2 x3=>(OE CX x0 x1 x2 x3).val
theorem ayM:∀mQ,D0 [alX mQ] 189 aes (lf LN) λb=>OE mQ b.1.1 b.1.2 b.2.1 b.b:=λ_ b=>by kernel_rfl
theorem OF [ax]:SC (Gx iZ):=s0 (.c apu (.nil _)) (ayM CX)
def ajc:=qa (pl (c V9 gW) nil)
def OG:=qe aKl
abbrev ajd:=OG.B
abbrev C5:=Int->Int->Int->Option ajd
def I4 (g:C5):Ct:=(192,FC ajc (lf OG) (λb=>g b.1.1 b.1.2 b.2))
def I5 (x0:Int)(x1:Int)(x2:Int):Pg ajd:=let y0:=wI (64-x2);let y1:=wI (x2-64);let y2:=2^min (wt x2) 64;let y3:= !decide (x2<0);ae (decide (x2>=64)) (ae (!decide (y1<0)) (ret (0,t9 x0 (2^min (wt y1) 64))) no) (ae y3 (ae y3 (ae (!decide (y0<0)) (ret (t9 x0 y2,wU (wn (ul (wd 64 (t9 x1 y2)|||wd 64 (wU (x0*2^min (wt y0) 64))))))) no) no) no)
def iU:=λx0 x1 x2=>(I5 x0 x1 x2).val
theorem aCH:D0 [] 192 ajc (lf OG) λb=>I5 b.1.1 b.1.2 b.2:=λb=>by kernel_rfl
theorem Tb [ax]:SC (I4 iU):=s0 (.nil _) aCH
def aeu:=qa (pl (c V9 aMR) nil)
def LO:=qe ax2
abbrev aev:=LO.B
abbrev Ar:=Int->Int->Bool->Option aev
def Gy (g:Ar):Ct:=(191,FC aeu (lf LO) (λb=>g b.1.1 b.1.2 b.2))
def OH (x0:Int)(x1:Int)(x2:Bool):Pg aev:=let y0:=x0 !=0;let y1:=decide (x1>9223372036854775807);ae y0 (ae y0 (ret (0,false)) (ae x2 (ret (wI (wU (0-x1)),true)) (ret (wI x1,true)))) (ae (!x2) (ae y1 (ae y1 (ret (0,false)) (ae x2 (ret (wI (wU (0-x1)),true)) (ret (wI x1,true)))) (ae x2 (ae (decide (x1>9223372036854775808)) (ret (0,false)) (ae x2 (ret (wI (wU (0-x1)),true)) (ret (wI x1,true)))) (ae x2 (ret (wI (wU (0-x1)),true)) (ret (wI x1,true))))) (ae x2 (ae (decide (x1>9223372036854775808)) (ret (0,false)) (ae x2 (ret (wI (wU (0-x1)),true)) (ret (wI x1,true)))) (ae x2 (ret (wI (wU (0-x1)),true)) (ret (wI x1,true)))))
def ja:=λx0 x1 x2=>(OH x0 x1 x2).val
theorem ayN:D0 [] 191 aeu (lf LO) λb=>OH b.1.1 b.1.2 b.2:=λb=>by kernel_rfl
theorem OJ [ax]:SC (Gy ja):=s0 (.nil _) ayN
def aqR:=qa (pl (c af7 gW) nil)
def WC:=qe ax2
abbrev aqS:=WC.B
abbrev DD:=Int->Int->Int->Option aqS
def Qu (g:DD):Ct:=(118,FC aqR (lf WC) (λb=>g b.1.1 b.1.2 b.2))
def acf (xM:al4)(jN:C4)(fh:vn)(iV:C5)(fk:Ar)(x0:Int)(x1:Int)(x2:Int):Pg aqS:=ae (decide (x2<0)) (ret (0,false)) (ae (decide (x2>126)) (ret (0,false)) (opt (xM x0 x1) λd=>ae (decide (x2>0)) (opt (jN 0 1 (wI (x2-1))) λaj=>opt (fh d.1.1 d.1.2 aj.1 aj.2) λaE=>opt (iV aE.1 aE.2 x2) λbE=>opt (fk bE.1 bE.2 d.2) λd=>ret d) (opt (iV d.1.1 d.1.2 x2) λaj=>opt (fk aj.1 aj.2 d.2) λd=>ret d)))
def rE:=λx0 x1 x2=>(acf Fa gY iZ iU ja x0 x1 x2).val
theorem aHu:∀xM jN fh iV fk,D0 [al5 xM,I3 jN,Gx fh,I4 iV,Gy fk] 118 aqR (lf WC) λb=>acf xM jN fh iV fk b.1.1 b.1.2 b.2:=λ_ _ _ _ _ b=>by kernel_rfl
theorem acg [ax]:SC (Qu rE):=s0 (.c aAE (.c Ta (.c OF (.c Tb (.c OJ (.nil _)))))) (aHu Fa gY iZ iU ja)
def aFC:=qa (pl aMR nil)
def al7:=qe Ho
abbrev aFD:=al7.B
abbrev WD:=Bool->Option aFD
def WE (g:WD):Ct:=(199,FC aFC (lf al7) (λb=>g b))
def WG (x0:Bool):Pg aFD:=ae x0 (ret (-1152921504606846976)) (ret 1152921504606846976)
def qw:=λx0=>(WG x0).val
theorem aRN:D0 [] 199 aFC (lf al7) λb=>WG b:=λb=>by kernel_rfl
theorem agX [ax]:SC (WE qw):=s0 (.nil _) aRN
def aqT:=qa (pr (cu aP (c ai (c ab aMR))) bH)
def WH:=qe qi
abbrev aqU:=WH.B
abbrev Ig:=Int->Bool->Bool->Bool->Option aqU
def Qv (g:Ig):Ct:=(198,FC aqT (lf WH) (λb=>g b.1.1 b.1.2.1 b.1.b b.2))
def Ih (jB:WD)(aw:bP)(x0:Int)(x1:Bool)(x2:Bool)(x3:Bool):Pg aqU:=ae (!x1) (opt (jB x2) λd=>ret (d,true)) (opt (aw x0 x3) λd=>ret d)
def mS:=λx0 x1 x2 x3=>(Ih qw aQ x0 x1 x2 x3).val
theorem aHv:∀jB aw,D0 [WE jB,dx aw] 198 aqT (lf WH) λb=>Ih jB aw b.1.1 b.1.2.1 b.1.b b.2:=λ_ _ b=>by kernel_rfl
theorem ach [ax]:SC (Qv mS):=s0 (.c agX (.c dB (.nil _))) (aHv qw aQ)
def aje:=qa (pr (cu aP (c af7 gW)) bH)
def OK:=qe qi
abbrev ajf:=OK.B
abbrev xt:=Int->Int->Int->Bool->Option ajf
def I6 (g:xt):Ct:=(127,FC aje (lf OK) (λb=>g b.1.1.1 b.1.1.2 b.1.2 b.2))
def Tc (uX:DD)(mT:Ig)(x0:Int)(x1:Int)(x2:Int)(x3:Bool):Pg ajf:=ae (decide (x2<0)) (ret (0,true)) (ae (decide (x2>120)) (ret (0,true)) (opt (uX x0 x1 x2) λd=>opt (mT d.1 d.2 (decide (x0<0)) x3) λd=>ret d))
def nc:=λx0 x1 x2 x3=>(Tc rE mS x0 x1 x2 x3).val
theorem aCI:∀uX mT,D0 [Qu uX,Qv mT] 127 aje (lf OK) λb=>Tc uX mT b.1.1.1 b.1.1.2 b.1.2 b.2:=λ_ _ b=>by kernel_rfl
theorem Td [ax]:SC (I6 nc):=s0 (.c acg (.c ach (.nil _))) (aCI rE mS)
def aqV:=qa (pr (cu aP EV) bH)
def WI:=qe qi
abbrev aqW:=WI.B
abbrev bT:=Int->Int->Int->Bool->Option aqW
def fq (g:bT):Ct:=(72,FC aqV (lf WI) (λb=>g b.1.1 b.1.2.1 b.1.b b.2))
def aci (aw:bP)(cS:nD)(iW:xt)(x0:Int)(x1:Int)(x2:Int)(x3:Bool):Pg aqW:=opt (aw x0 x3) λd=>opt (aw x1 d.2) λaj=>opt (cS d.1 aj.1) λd=>opt (iW d.1 d.2 x2 aj.2) λd=>ret d
def aV:=λx0 x1 x2 x3=>(aci aQ fC nc x0 x1 x2 x3).val
theorem aHw:∀aw cS iW,D0 [dx aw,xL cS,I6 iW] 72 aqV (lf WI) λb=>aci aw cS iW b.1.1 b.1.2.1 b.1.b b.2:=λ_ _ _ b=>by kernel_rfl
theorem fO [ax]:SC (fq aV):=s0 (.c dB (.c Bc (.c Td (.nil _)))) (aHw aQ fC nc)
def al8:=qa (pr aKh (cu asZ bH))
def Te:=qe aQs
abbrev al9:=Te.B
abbrev WJ:=Int->Int->Bool->Option al9
def WK (g:WJ):Ct:=(77,FC al8 (lf Te) (λb=>g b.1.1 b.1.2 b.2))
def WL (aB:bT)(x0:Int)(x1:Int)(x2:Bool):Pg al9:=opt (aB x0 x1 30 x2) λd=>ret d
def vQ:=λx0 x1 x2=>(WL aV x0 x1 x2).val
theorem aFE:∀aB,D0 [fq aB] 77 al8 (lf Te) λb=>WL aB b.1.1 b.1.2 b.2:=λ_ b=>by kernel_rfl
theorem ama [ax]:SC (WK vQ):=s0 (.c fO (.nil _)) (aFE aV)
def aqX:=qa (pl aII nil)
def WM:=qe Ho
abbrev aqY:=WM.B
abbrev aqZ:=Int->Option aqY
def aq0 (g:aqZ):Ct:=(267,FC aqX (lf WM) (λb=>g b))
def acj (x0:Int):Pg aqY:=let y0:=t9 x0 65536;let y1:=t9 x0 4294967296;let y2:=IntKind.wrap IntKind.u8 (t9 x0 256);let y3:=IntKind.wrap IntKind.u8 y0;let y4:=IntKind.wrap IntKind.u8 y1;let y5:=t9 y1 65536;let y6:=IntKind.wrap IntKind.u8 y5;let y7:=IntKind.wrap IntKind.u8 (t9 y0 256);let y8:=IntKind.wrap IntKind.u8 (t9 y1 256);let y9:=IntKind.wrap IntKind.u8 (t9 y5 256);ae (decide (x0>=4294967296)) (ae (decide (y1>=65536)) (ae (decide (y5>=256)) (ae (aX y9 256) (ret (wI (56+wI (Em (ByteArray.mk (List.toArray (t8 (t8 [0,1,2,2,3,3,3,3,4,4,4,4,4,4,4,4,5,5,5,5,5,5,5,5,5,5,5,5,5,5,5,5,6,6,6,6,6,6,6,6,6,6,6,6,6,6,6,6,6,6,6,6,6,6,6,6,6,6,6,6,6,6,6,6] [7,7,7,7,7,7,7,7,7,7,7,7,7,7,7,7,7,7,7,7,7,7,7,7,7,7,7,7,7,7,7,7,7,7,7,7,7,7,7,7,7,7,7,7,7,7,7,7,7,7,7,7,7,7,7,7,7,7,7,7,7,7,7,7]) (t8 [8,8,8,8,8,8,8,8,8,8,8,8,8,8,8,8,8,8,8,8,8,8,8,8,8,8,8,8,8,8,8,8,8,8,8,8,8,8,8,8,8,8,8,8,8,8,8,8,8,8,8,8,8,8,8,8,8,8,8,8,8,8,8,8] [8,8,8,8,8,8,8,8,8,8,8,8,8,8,8,8,8,8,8,8,8,8,8,8,8,8,8,8,8,8,8,8,8,8,8,8,8,8,8,8,8,8,8,8,8,8,8,8,8,8,8,8,8,8,8,8,8,8,8,8,8,8,8,8])))) (wt y9))))) no) (ae (aX y6 256) (ret (wI (48+wI (Em (ByteArray.mk (List.toArray (t8 (t8 [0,1,2,2,3,3,3,3,4,4,4,4,4,4,4,4,5,5,5,5,5,5,5,5,5,5,5,5,5,5,5,5,6,6,6,6,6,6,6,6,6,6,6,6,6,6,6,6,6,6,6,6,6,6,6,6,6,6,6,6,6,6,6,6] [7,7,7,7,7,7,7,7,7,7,7,7,7,7,7,7,7,7,7,7,7,7,7,7,7,7,7,7,7,7,7,7,7,7,7,7,7,7,7,7,7,7,7,7,7,7,7,7,7,7,7,7,7,7,7,7,7,7,7,7,7,7,7,7]) (t8 [8,8,8,8,8,8,8,8,8,8,8,8,8,8,8,8,8,8,8,8,8,8,8,8,8,8,8,8,8,8,8,8,8,8,8,8,8,8,8,8,8,8,8,8,8,8,8,8,8,8,8,8,8,8,8,8,8,8,8,8,8,8,8,8] [8,8,8,8,8,8,8,8,8,8,8,8,8,8,8,8,8,8,8,8,8,8,8,8,8,8,8,8,8,8,8,8,8,8,8,8,8,8,8,8,8,8,8,8,8,8,8,8,8,8,8,8,8,8,8,8,8,8,8,8,8,8,8,8])))) (wt y6))))) no)) (ae (decide (y1>=256)) (ae (aX y8 256) (ret (wI (40+wI (Em (ByteArray.mk (List.toArray (t8 (t8 [0,1,2,2,3,3,3,3,4,4,4,4,4,4,4,4,5,5,5,5,5,5,5,5,5,5,5,5,5,5,5,5,6,6,6,6,6,6,6,6,6,6,6,6,6,6,6,6,6,6,6,6,6,6,6,6,6,6,6,6,6,6,6,6] [7,7,7,7,7,7,7,7,7,7,7,7,7,7,7,7,7,7,7,7,7,7,7,7,7,7,7,7,7,7,7,7,7,7,7,7,7,7,7,7,7,7,7,7,7,7,7,7,7,7,7,7,7,7,7,7,7,7,7,7,7,7,7,7]) (t8 [8,8,8,8,8,8,8,8,8,8,8,8,8,8,8,8,8,8,8,8,8,8,8,8,8,8,8,8,8,8,8,8,8,8,8,8,8,8,8,8,8,8,8,8,8,8,8,8,8,8,8,8,8,8,8,8,8,8,8,8,8,8,8,8] [8,8,8,8,8,8,8,8,8,8,8,8,8,8,8,8,8,8,8,8,8,8,8,8,8,8,8,8,8,8,8,8,8,8,8,8,8,8,8,8,8,8,8,8,8,8,8,8,8,8,8,8,8,8,8,8,8,8,8,8,8,8,8,8])))) (wt y8))))) no) (ae (aX y4 256) (ret (wI (32+wI (Em (ByteArray.mk (List.toArray (t8 (t8 [0,1,2,2,3,3,3,3,4,4,4,4,4,4,4,4,5,5,5,5,5,5,5,5,5,5,5,5,5,5,5,5,6,6,6,6,6,6,6,6,6,6,6,6,6,6,6,6,6,6,6,6,6,6,6,6,6,6,6,6,6,6,6,6] [7,7,7,7,7,7,7,7,7,7,7,7,7,7,7,7,7,7,7,7,7,7,7,7,7,7,7,7,7,7,7,7,7,7,7,7,7,7,7,7,7,7,7,7,7,7,7,7,7,7,7,7,7,7,7,7,7,7,7,7,7,7,7,7]) (t8 [8,8,8,8,8,8,8,8,8,8,8,8,8,8,8,8,8,8,8,8,8,8,8,8,8,8,8,8,8,8,8,8,8,8,8,8,8,8,8,8,8,8,8,8,8,8,8,8,8,8,8,8,8,8,8,8,8,8,8,8,8,8,8,8] [8,8,8,8,8,8,8,8,8,8,8,8,8,8,8,8,8,8,8,8,8,8,8,8,8,8,8,8,8,8,8,8,8,8,8,8,8,8,8,8,8,8,8,8,8,8,8,8,8,8,8,8,8,8,8,8,8,8,8,8,8,8,8,8])))) (wt y4))))) no))) (ae (decide (x0>=65536)) (ae (decide (y0>=256)) (ae (aX y7 256) (ret (wI (24+wI (Em (ByteArray.mk (List.toArray (t8 (t8 [0,1,2,2,3,3,3,3,4,4,4,4,4,4,4,4,5,5,5,5,5,5,5,5,5,5,5,5,5,5,5,5,6,6,6,6,6,6,6,6,6,6,6,6,6,6,6,6,6,6,6,6,6,6,6,6,6,6,6,6,6,6,6,6] [7,7,7,7,7,7,7,7,7,7,7,7,7,7,7,7,7,7,7,7,7,7,7,7,7,7,7,7,7,7,7,7,7,7,7,7,7,7,7,7,7,7,7,7,7,7,7,7,7,7,7,7,7,7,7,7,7,7,7,7,7,7,7,7]) (t8 [8,8,8,8,8,8,8,8,8,8,8,8,8,8,8,8,8,8,8,8,8,8,8,8,8,8,8,8,8,8,8,8,8,8,8,8,8,8,8,8,8,8,8,8,8,8,8,8,8,8,8,8,8,8,8,8,8,8,8,8,8,8,8,8] [8,8,8,8,8,8,8,8,8,8,8,8,8,8,8,8,8,8,8,8,8,8,8,8,8,8,8,8,8,8,8,8,8,8,8,8,8,8,8,8,8,8,8,8,8,8,8,8,8,8,8,8,8,8,8,8,8,8,8,8,8,8,8,8])))) (wt y7))))) no) (ae (aX y3 256) (ret (wI (16+wI (Em (ByteArray.mk (List.toArray (t8 (t8 [0,1,2,2,3,3,3,3,4,4,4,4,4,4,4,4,5,5,5,5,5,5,5,5,5,5,5,5,5,5,5,5,6,6,6,6,6,6,6,6,6,6,6,6,6,6,6,6,6,6,6,6,6,6,6,6,6,6,6,6,6,6,6,6] [7,7,7,7,7,7,7,7,7,7,7,7,7,7,7,7,7,7,7,7,7,7,7,7,7,7,7,7,7,7,7,7,7,7,7,7,7,7,7,7,7,7,7,7,7,7,7,7,7,7,7,7,7,7,7,7,7,7,7,7,7,7,7,7]) (t8 [8,8,8,8,8,8,8,8,8,8,8,8,8,8,8,8,8,8,8,8,8,8,8,8,8,8,8,8,8,8,8,8,8,8,8,8,8,8,8,8,8,8,8,8,8,8,8,8,8,8,8,8,8,8,8,8,8,8,8,8,8,8,8,8] [8,8,8,8,8,8,8,8,8,8,8,8,8,8,8,8,8,8,8,8,8,8,8,8,8,8,8,8,8,8,8,8,8,8,8,8,8,8,8,8,8,8,8,8,8,8,8,8,8,8,8,8,8,8,8,8,8,8,8,8,8,8,8,8])))) (wt y3))))) no)) (ae (decide (x0>=256)) (ae (aX y2 256) (ret (wI (8+wI (Em (ByteArray.mk (List.toArray (t8 (t8 [0,1,2,2,3,3,3,3,4,4,4,4,4,4,4,4,5,5,5,5,5,5,5,5,5,5,5,5,5,5,5,5,6,6,6,6,6,6,6,6,6,6,6,6,6,6,6,6,6,6,6,6,6,6,6,6,6,6,6,6,6,6,6,6] [7,7,7,7,7,7,7,7,7,7,7,7,7,7,7,7,7,7,7,7,7,7,7,7,7,7,7,7,7,7,7,7,7,7,7,7,7,7,7,7,7,7,7,7,7,7,7,7,7,7,7,7,7,7,7,7,7,7,7,7,7,7,7,7]) (t8 [8,8,8,8,8,8,8,8,8,8,8,8,8,8,8,8,8,8,8,8,8,8,8,8,8,8,8,8,8,8,8,8,8,8,8,8,8,8,8,8,8,8,8,8,8,8,8,8,8,8,8,8,8,8,8,8,8,8,8,8,8,8,8,8] [8,8,8,8,8,8,8,8,8,8,8,8,8,8,8,8,8,8,8,8,8,8,8,8,8,8,8,8,8,8,8,8,8,8,8,8,8,8,8,8,8,8,8,8,8,8,8,8,8,8,8,8,8,8,8,8,8,8,8,8,8,8,8,8])))) (wt y2))))) no) (ae (aX (IntKind.wrap IntKind.u8 x0) 256) (ret (wI (0+wI (Em (ByteArray.mk (List.toArray (t8 (t8 [0,1,2,2,3,3,3,3,4,4,4,4,4,4,4,4,5,5,5,5,5,5,5,5,5,5,5,5,5,5,5,5,6,6,6,6,6,6,6,6,6,6,6,6,6,6,6,6,6,6,6,6,6,6,6,6,6,6,6,6,6,6,6,6] [7,7,7,7,7,7,7,7,7,7,7,7,7,7,7,7,7,7,7,7,7,7,7,7,7,7,7,7,7,7,7,7,7,7,7,7,7,7,7,7,7,7,7,7,7,7,7,7,7,7,7,7,7,7,7,7,7,7,7,7,7,7,7,7]) (t8 [8,8,8,8,8,8,8,8,8,8,8,8,8,8,8,8,8,8,8,8,8,8,8,8,8,8,8,8,8,8,8,8,8,8,8,8,8,8,8,8,8,8,8,8,8,8,8,8,8,8,8,8,8,8,8,8,8,8,8,8,8,8,8,8] [8,8,8,8,8,8,8,8,8,8,8,8,8,8,8,8,8,8,8,8,8,8,8,8,8,8,8,8,8,8,8,8,8,8,8,8,8,8,8,8,8,8,8,8,8,8,8,8,8,8,8,8,8,8,8,8,8,8,8,8,8,8,8,8])))) (wt (IntKind.wrap IntKind.u8 x0)))))) no)))
def Ii:=λx0=>(acj x0).val
theorem aHx:D0 [] 267 aqX (lf WM) λb=>acj b:=λb=>by kernel_rfl
theorem aHy [ax]:SC (aq0 Ii):=s0 (.nil _) aHx
def LP:=qa (pl aII nil)
def As:=qe Ho
abbrev LQ:=As.B
abbrev Bz:=Int->Option LQ
def LR (g:Bz):Ct:=(261,FC LP (lf As) (λb=>g b))
def BA (Qw:aqZ)(x0:Int):Pg LQ:=opt (Qw x0) λd=>ret (wI (64-d))
def oW:=λx0=>(BA Ii x0).val
theorem agY:∀Qw,D0 [aq0 Qw] 261 LP (lf As) λb=>BA Qw b:=λ_ b=>by kernel_rfl
theorem agZ [ax]:SC (LR oW):=s0 (.c aHy (.nil _)) (agY Ii)
def aq1:=qa (pl (c an (c an aII)) nil)
def WN:=qe aQv
abbrev aq2:=WN.B
abbrev aq3:=Int->Int->Int->Option aq2
def aq4 (g:aq3):Ct:=(241,FC aq1 (lf WN) (λb=>g b.1 b.2.1 b.b))
def vo:=qs (st (pl (us 2 (c an (us 5 (c an (c an (c an (c an (us 1 (c an (c an (c an (cl an (us 88 aPU))))))))))))) (pu nil nil)))
def avs:=qs (st (pl (us 2 (c an (us 5 (c an (c an (c an (c an (us 1 (c an (c an (c an (c an (us 50 (c an (c ab (cu Od (xs 8 (cu Od aWW)))))))))))))))))) (pu nil nil)))
def avt:=qs (st (pl (us 2 (c an (us 5 (c an (c an (c an (c an (us 1 (c an (c an (c an (c an (us 50 (c an (c ab (cu ui (c an (c an (c an (c an (c an (c an (c an (c ab (c ab aWW))))))))))))))))))))))))) (pu nil nil)))
def avu:=qs (st (pl (us 2 (c an (us 5 (c an (c an (c an (c an (us 1 (c an (c an (c an (c an (us 50 (c an (c ab (cu ui (c an (c an (c an (c an (c an (c an (c an (c ab (cl ab (us 26 aPU)))))))))))))))))))))))))) (pu nil nil)))
abbrev I7:=a0S⊕a0P
def ajg {ρ:Type}(x:I7)(K:AX->St->Option ρ):Option ρ:=(t7 (λd=>K (.ex 0) (avs.em (d.1,d.2.1,d.b.1,d.b.2.1,d.c.1,d.c.2.1,d.c.b.1,d.c.b.2.1,d.d.1,d.d.2.1,d.d.b.1,d.d.2.1,d.c.b.2.1,d.d.b.2.1,d.b.1,d.d.1,d.d.1,d.d.c))) (t7 (λd=>K (.ex 0) (avt.em (d.1,d.2.1,d.b.1,d.b.2.1,d.c.1,d.c.2.1,d.c.b.1,d.c.b.2.1,d.d.1,d.d.2.1,d.d.b.1,d.d.2.1,d.b.2.1,d.d.b.2.1,d.d.c.1,d.d.c.2.1,d.c.2.1,d.d.c.b.1,d.d.c.b.2.1,d.d.c.b.2.1,d.d.2.1,d.c.b.2.1,d.d.c.1,d.b.1,d.d.1,d.d.1,d.e))) (λd=>K (.ex 0) (avu.em (d.1,d.2.1,d.b.1,d.b.2.1,d.c.1,d.c.2.1,d.c.b.1,d.c.b.2.1,d.d.1,d.c.b.2.1,d.d.2.1,d.c.b.2.1,d.b.2.1,d.d.b.1,d.d.1,d.d.b.2.1,d.c.2.1,d.d.c.1,d.d.c.2,d.d.c.2))))) x
def I8 (d:vo.B):PL vo I7:=let y0:=wU (4294967296*d.2.2.2.2.2.2.2.2);let y1:=wU (d.2.2.2.2.2.2.2.1-1);let y2:=wU (d.2.2.2.2.2.2.2.2+d.2.2.1);let y3:=wU (d.2.2.2.2.2.2.2.1*d.2.2.2.1);let y4:=decide (d.2.2.2.2.2.2.2.1>=4294967296);let y5:=wU (y0+d.2.2.2.2.2.1);let y6:=decide (y2>=4294967296);let y7:=decide (y3>y5);ae y4 (ae y6 (ret (wr (ws (d.1,d.2.1,d.2.2.1,d.2.2.2.1,d.2.2.2.2.1,d.2.2.2.2.2.1,d.2.2.2.2.2.2.1,y1,y2,d.2.2.2.2.2.2.2.1,y4,d.2.2.2.2.2.2.2.2,y6)))) (ret (ws (d.1,d.2.1,d.2.2.1,d.2.2.2.1,d.2.2.2.2.1,d.2.2.2.2.2.1,d.2.2.2.2.2.2.1,y1,y2)))) (ae y7 (ae y6 (ret (wr (wr (ws (d.1,d.2.1,d.2.2.1,d.2.2.2.1,d.2.2.2.2.1,d.2.2.2.2.2.1,d.2.2.2.2.2.2.1,y1,y2,d.2.2.2.2.2.2.2.1,y4,y3,d.2.2.2.2.2.2.2.2,y0,y5,y7,y6))))) (ret (ws (d.1,d.2.1,d.2.2.1,d.2.2.2.1,d.2.2.2.2.1,d.2.2.2.2.2.1,d.2.2.2.2.2.2.1,y1,y2)))) (ret (wr (wr (wr (d.1,d.2.1,d.2.2.1,d.2.2.2.1,d.2.2.2.2.1,d.2.2.2.2.2.1,d.2.2.2.2.2.2.1,d.2.2.2.2.2.2.2.1,d.2.2.2.2.2.2.2.2,y4,y3,y0,y5,y7))))))
def I9:=bC (I8) 2000
def vp:=qs (st (pl (us 2 (c an (us 5 (c an (c an (c an (us 3 (c an (c an (c an (c an (cl an (us 116 nil))))))))))))) (pu nil nil)))
def avv:=qs (st (pl (us 2 (c an (us 5 (c an (c an (c an (us 3 (c an (c an (c an (c an (c an (us 83 (c an (c ab (cu Od (xs 8 (cu Od aWK)))))))))))))))))) (pu nil nil)))
def avw:=qs (st (pl (us 2 (c an (us 5 (c an (c an (c an (us 3 (c an (c an (c an (c an (c an (us 83 (c an (c ab (cu ui (c an (c an (c an (c an (c an (c an (c an (c ab (c ab aWK))))))))))))))))))))))))) (pu nil nil)))
def avx:=qs (st (pl (us 2 (c an (us 5 (c an (c an (c an (us 3 (c an (c an (c an (c an (c an (us 83 (c an (c ab (cu ui (c an (c an (c an (c an (c an (c an (c an (c ab aPW)))))))))))))))))))))))) (pu nil nil)))
abbrev C6:=a0S⊕a0P
def ajh {ρ:Type}(x:C6)(K:AX->St->Option ρ):Option ρ:=(t7 (λd=>K (.ex 2) (avv.em (d.1,d.2.1,d.b.1,d.b.2.1,d.c.1,d.c.2.1,d.c.b.1,d.c.b.2.1,d.d.1,d.d.2.1,d.d.b.1,d.d.2.1,d.d.1,d.d.b.2.1,d.b.1,d.c.b.1,d.c.b.1,d.d.c))) (t7 (λd=>K (.ex 2) (avw.em (d.1,d.2.1,d.b.1,d.b.2.1,d.c.1,d.c.2.1,d.c.b.1,d.c.b.2.1,d.d.1,d.d.2.1,d.d.b.1,d.d.2.1,d.b.2.1,d.d.b.2.1,d.d.c.1,d.d.c.2.1,d.c.1,d.d.c.b.1,d.d.c.b.2.1,d.d.c.b.2.1,d.d.2.1,d.d.1,d.d.c.1,d.b.1,d.c.b.1,d.c.b.1,d.e))) (λd=>K (.ex 2) (avx.em (d.1,d.2.1,d.b.1,d.b.2.1,d.c.1,d.c.2.1,d.c.b.1,d.c.b.2.1,d.d.1,d.d.1,d.d.2.1,d.d.1,d.b.2.1,d.d.b.1,d.c.b.1,d.d.b.2.1,d.c.1,d.d.c.1,d.d.c.2,d.d.c.2))))) x
def I' (d:vp.B):PL vp C6:=let y0:=wU (4294967296*d.2.2.2.2.2.2.1);let y1:=wU (d.2.2.2.2.2.2.2.2-1);let y2:=wU (d.2.2.2.2.2.2.1+d.2.2.1);let y3:=wU (d.2.2.2.2.2.2.2.2*d.2.2.2.1);let y4:=wU (y0+d.2.2.2.2.1);let y5:=decide (d.2.2.2.2.2.2.2.2>=4294967296);let y6:=decide (y2>=4294967296);let y7:=decide (y3>y4);ae y5 (ae y6 (ret (wr (ws (d.1,d.2.1,d.2.2.1,d.2.2.2.1,d.2.2.2.2.1,d.2.2.2.2.2.1,y2,d.2.2.2.2.2.2.2.1,y1,d.2.2.2.2.2.2.2.2,y5,d.2.2.2.2.2.2.1,y6)))) (ret (ws (d.1,d.2.1,d.2.2.1,d.2.2.2.1,d.2.2.2.2.1,d.2.2.2.2.2.1,y2,d.2.2.2.2.2.2.2.1,y1)))) (ae y7 (ae y6 (ret (wr (wr (ws (d.1,d.2.1,d.2.2.1,d.2.2.2.1,d.2.2.2.2.1,d.2.2.2.2.2.1,y2,d.2.2.2.2.2.2.2.1,y1,d.2.2.2.2.2.2.2.2,y5,y3,d.2.2.2.2.2.2.1,y0,y4,y7,y6))))) (ret (ws (d.1,d.2.1,d.2.2.1,d.2.2.2.1,d.2.2.2.2.1,d.2.2.2.2.2.1,y2,d.2.2.2.2.2.2.2.1,y1)))) (ret (wr (wr (wr (d.1,d.2.1,d.2.2.1,d.2.2.2.1,d.2.2.2.2.1,d.2.2.2.2.2.1,d.2.2.2.2.2.2.1,d.2.2.2.2.2.2.2.1,d.2.2.2.2.2.2.2.2,y5,y3,y0,y4,y7))))))
def Ja:=bC (I') 2000
def ack (ag0:Bz)(ew:LT vo I7)(qx:LT vp C6)(x0:Int)(x1:Int)(x2:Int):Pg aq2:=let k9:=λ(x:C6)=>sum x (λd=>ae (!decide (d.2.1<0)) (ret (wU (wU (d.2.2.2.2.2.1*4294967296)+d.2.2.2.2.2.2.2.2.1),t9 (wU (wU (wU (d.2.2.2.2.2.2.2.1*4294967296)+d.2.2.2.2.1)-wU (d.2.2.2.2.2.2.2.2.1*d.1))) (2^min (wt d.2.1) 64))) no) λx=>sum x (λd=>ae (!decide (d.2.1<0)) (ret (wU (wU (d.2.2.2.2.2.1*4294967296)+d.2.2.2.2.2.2.2.2.1),t9 (wU (wU (wU (d.2.2.2.2.2.2.2.1*4294967296)+d.2.2.2.2.1)-wU (d.2.2.2.2.2.2.2.2.1*d.1))) (2^min (wt d.2.1) 64))) no) λd=>ae (!decide (d.2.1<0)) (ret (wU (wU (d.2.2.2.2.2.1*4294967296)+d.2.2.2.2.2.2.2.2.1),t9 (wU (wU (wU (d.2.2.2.2.2.2.2.1*4294967296)+d.2.2.2.2.1)-wU (d.2.2.2.2.2.2.2.2.1*d.1))) (2^min (wt d.2.1) 64))) no;let y0:= !decide (x2=0);ae (x2==0) no (ae (decide (x2<=x0)) no (ae (x0==0) (ae y0 (ae y0 (ret (wU (t6 x1 x2),Int.tmod x1 x2)) no) no) (opt (ag0 x2) λd=>let y0:=wU (64-wU d);let y1:=2^min (wt (wU d)) 64;let y2:= !decide (wU d<0);let y3:=wU (x1*y1);let y4:=wU (x2*y1);let y5:=t9 y4 4294967296;let y6:=wU (wn (ul (wd 64 (wU (x0*y1))|||wd 64 (t9 x1 (2^min (wt y0) 64)))));let y7:=wU (t6 y6 y5);ae y2 (ae y2 (ae (!decide (y0<0)) (ae y2 (ae (!decide (y5=0)) (opt (ew (y4,wU d,y5,wU (wn (ul (wd 64 y4&&&wd 64 4294967295))),y6,t9 y3 4294967296,wU (wn (ul (wd 64 y3&&&wd 64 4294967295))),y7,wU (y6-wU (y7*y5)))) λx=>sum x (λd=>let y0:=wU (wU (wU (d.2.2.2.2.1*4294967296)+d.2.2.2.2.2.1)-wU (d.2.2.2.2.2.2.2.1*d.1));let y1:=wU (t6 y0 d.2.2.1);ae (!decide (d.2.2.1=0)) (opt (qx (d.1,d.2.1,d.2.2.1,d.2.2.2.1,d.2.2.2.2.2.2.1,d.2.2.2.2.2.2.2.1,wU (y0-wU (y1*d.2.2.1)),y0,y1)) k9) no) λx=>sum x (λd=>let y0:=wU (wU (wU (d.2.2.2.2.1*4294967296)+d.2.2.2.2.2.1)-wU (d.2.2.2.2.2.2.2.1*d.1));let y1:=wU (t6 y0 d.2.2.1);ae (!decide (d.2.2.1=0)) (opt (qx (d.1,d.2.1,d.2.2.1,d.2.2.2.1,d.2.2.2.2.2.2.1,d.2.2.2.2.2.2.2.1,wU (y0-wU (y1*d.2.2.1)),y0,y1)) k9) no) λd=>let y0:=wU (wU (wU (d.2.2.2.2.1*4294967296)+d.2.2.2.2.2.1)-wU (d.2.2.2.2.2.2.2.1*d.1));let y1:=wU (t6 y0 d.2.2.1);ae (!decide (d.2.2.1=0)) (opt (qx (d.1,d.2.1,d.2.2.1,d.2.2.2.1,d.2.2.2.2.2.2.1,d.2.2.2.2.2.2.2.1,wU (y0-wU (y1*d.2.2.1)),y0,y1)) k9) no) no) no) no) no) no)))
def Ij:=λx0 x1 x2=>(ack oW I9 Ja x0 x1 x2).val
abbrev Ik:=Bz×(LT vo I7)×(LT vp C6)
def Qx (p:Ik):KK:=⟨[LR p.1],⟨[⟨17,(0::1::rg 3 5 (12::rg 17 53 (rg 78 27 (rg 113 22 (rg 70 8 []))))),[]⟩,⟨24,(0::1::rg 3 5 (11::12::13::rg 19 86 (rg 113 22 (rg 105 8 [])))),[]⟩],[fV 17 0 vo ajg p.2.1,fV 24 0 vp ajh p.b],[],[],(some ⟨0,(rg 0 6 (rg 8 127 [])),[]⟩)⟩,0,241⟩
theorem ayO (p:Ik):LI (Qx p) 17 vo ajg (I8):=λ_ d c K=>by kernel_rfl
theorem ayP (p:Ik):LI (Qx p) 24 vp ajh (I'):=λ_ d c K=>by kernel_rfl
theorem aHz (p:Ik):D2 (Qx p) aq1 (lf WN) λb=>ack p.1 p.2.1 p.b b.1 b.2.1 b.b:=λb=>by kernel_rfl
abbrev Qy:Ik:=(oW,I9,Ja)
theorem aHA [ax]:SC (aq4 Ij):=sc (kS (k:=Qx Qy) (.c agZ (.nil _)) [17,24] [] ⟨kL (ayO Qy),⟨kL (ayP Qy),trivial⟩⟩ trivial (aHz Qy))
def aAF:=qa (pl (c af7 gW) nil)
def ag1:=qe ax2
abbrev aAG:=ag1.B
abbrev amb:=Int->Int->Int->Option aAG
def amc (g:amb):Ct:=(200,FC aAF (lf ag1) (λb=>g b.1.1 b.1.2 b.2))
def amd (xM:al4)(ix:Qr)(Qz:aq3)(fh:vn)(fk:Ar)(x0:Int)(x1:Int)(x2:Int):Pg aAG:=ae (x2==0) (ret (0,false)) (opt (xM x0 x1) λd=>let y0:= !d.2==decide (x2<0);opt (ix x2) λaj=>let oN:=wU (t6 d.1.1 aj);let y1:= !decide (aj=0);ae y1 (ae y1 (opt (Qz (Int.tmod d.1.1 aj) d.1.2 aj) λd=>ae (decide (d.2>=wU (aj-d.2))) (opt (fh oN d.1 0 1) λd=>opt (fk d.1 d.2 y0) λd=>ret d) (opt (fk oN d.1 y0) λd=>ret d)) no) no)
def Be:=λx0 x1 x2=>(amd Fa rD Ij iZ ja x0 x1 x2).val
theorem aN1:∀xM ix Qz fh fk,D0 [al5 xM,Qs ix,aq4 Qz,Gx fh,Gy fk] 200 aAF (lf ag1) λb=>amd xM ix Qz fh fk b.1.1 b.1.2 b.2:=λ_ _ _ _ _ b=>by kernel_rfl
theorem aAH [ax]:SC (amc Be):=s0 (.c aAE (.c acd (.c aHA (.c OF (.c OJ (.nil _)))))) (aN1 Fa rD Ij iZ ja)
def avy:=qa (pr (cu aP (c af7 gW)) bH)
def acm:=qe qi
abbrev avz:=acm.B
abbrev ag2:=Int->Int->Int->Bool->Option avz
def ag3 (g:ag2):Ct:=(128,FC avy (lf acm) (λb=>g b.1.1.1 b.1.1.2 b.1.2 b.2))
def LS (jB:WD)(xN:amb)(mT:Ig)(x0:Int)(x1:Int)(x2:Int)(x3:Bool):Pg avz:=let y0:=decide (x0<0);ae (x2==0) (ae (x0==0&&(x1==0&&true)) (ret (0,true)) (opt (jB y0) λd=>ret (d,true))) (opt (xN x0 x1 x2) λd=>opt (mT d.1 d.2 (!y0==decide (x2<0)) x3) λd=>ret d)
def xO:=λx0 x1 x2 x3=>(LS qw Be mS x0 x1 x2 x3).val
theorem aK8:∀jB xN mT,D0 [WE jB,amc xN,Qv mT] 128 avy (lf acm) λb=>LS jB xN mT b.1.1.1 b.1.1.2 b.1.2 b.2:=λ_ _ _ b=>by kernel_rfl
theorem avA [ax]:SC (ag3 xO):=s0 (.c agX (.c aAH (.c ach (.nil _)))) (aK8 qw Be mS)
def aew:=qa (pr (cu aP EV) bH)
def LU:=qe qi
abbrev aex:=LU.B
abbrev cx:=Int->Int->Int->Bool->Option aex
def dt (g:cx):Ct:=(78,FC aew (lf LU) (λb=>g b.1.1 b.1.2.1 b.1.b b.2))
def Gz (aw:bP)(cS:nD)(uk:ag2)(x0:Int)(x1:Int)(x2:Int)(x3:Bool):Pg aex:=opt (aw x0 x3) λd=>opt (aw x1 d.2) λaj=>opt (cS d.1 aj.1) λd=>opt (aw x2 aj.2) λaE=>opt (uk d.1 d.2 aE.1 aE.2) λd=>ret d
def aU:=λx0 x1 x2 x3=>(Gz aQ fC xO x0 x1 x2 x3).val
theorem ayQ:∀aw cS uk,D0 [dx aw,xL cS,ag3 uk] 78 aew (lf LU) λb=>Gz aw cS uk b.1.1 b.1.2.1 b.1.b b.2:=λ_ _ _ b=>by kernel_rfl
theorem dE [ax]:SC (dt aU):=s0 (.c dB (.c Bc (.c avA (.nil _)))) (ayQ aQ fC xO)
def LV:=qa (pr (c ai (c ai aKh)) (cu asZ bH))
def At:=qe aQs
abbrev LW:=At.B
abbrev BB:=Int->Int->Int->Int->Bool->Option LW
def BC (g:BB):Ct:=(194,FC LV (lf At) (λb=>g b.1.1 b.1.2.1 b.1.b.1 b.1.b.2 b.2))
def BD (aq:cx)(x0:Int)(x1:Int)(x2:Int)(x3:Int)(x4:Bool):Pg LW:=opt (aq (wI (x1-x0)) x2 x3 x4) λd=>ret (wI (x0+d.1),d.2)
def jC:=λx0 x1 x2 x3 x4=>(BD aU x0 x1 x2 x3 x4).val
theorem ag4:∀aq,D0 [dt aq] 194 LV (lf At) λb=>BD aq b.1.1 b.1.2.1 b.1.b.1 b.1.b.2 b.2:=λ_ b=>by kernel_rfl
theorem LX [ax]:SC (BC jC):=s0 (.c dE (.nil _)) (ag4 aU)
def aq5:=qa (pl yV nil)
def WO:=qe aQz
abbrev aq6:=WO.B
abbrev acn:=Int->Int->Option aq6
def aco (g:acn):Ct:=(132,FC aq5 (lf WO) (λb=>g b.1 b.2))
def acp (ix:Qr)(jN:C4)(iV:C5)(oV:WA)(x0:Int)(x1:Int):Pg aq6:=ae (decide (x1<0)) (ret ((0,0),false)) (ae (decide (x1>127)) (ret ((0,0),false)) (opt (ix x0) λd=>opt (jN 0 d x1) λaj=>opt (iV aj.1 aj.2 x1) λaE=>ae (!(aE.1==0&&(aE.2==d&&true))) (ret ((0,0),false)) (opt (oV aj.1 aj.2 (decide (x0<0))) λd=>ae (!d.2) (ret ((0,0),false)) (ret (d.1,true)))))
def uY:=λx0 x1=>(acp rD gY iU mR x0 x1).val
theorem aHB:∀ix jN iV oV,D0 [Qs ix,I3 jN,I4 iV,WB oV] 132 aq5 (lf WO) λb=>acp ix jN iV oV b.1 b.2:=λ_ _ _ _ b=>by kernel_rfl
theorem aq7 [ax]:SC (aco uY):=s0 (.c acd (.c Ta (.c Tb (.c al1 (.nil _))))) (aHB rD gY iU mR)
def aq8:=qa (pr (cu aP EV) bH)
def WQ:=qe qi
abbrev aq9:=WQ.B
abbrev cL:=Int->Int->Int->Bool->Option aq9
def gA (g:cL):Ct:=(82,FC aq8 (lf WQ) (λb=>g b.1.1 b.1.2.1 b.1.b b.2))
def QA (aw:bP)(rF:acn)(uk:ag2)(x0:Int)(x1:Int)(x2:Int)(x3:Bool):Pg aq9:=opt (aw x0 x3) λd=>opt (aw x1 d.2) λaj=>ae (decide (x2<0)) (ret (0,true)) (ae (decide (x2>66)) (ret (0,true)) (opt (rF d.1 x2) λd=>opt (uk d.1.1 d.1.2 aj.1 aj.2) λd=>ret d))
def bu:=λx0 x1 x2 x3=>(QA aQ uY xO x0 x1 x2 x3).val
theorem aHC:∀aw rF uk,D0 [dx aw,aco rF,ag3 uk] 82 aq8 (lf WQ) λb=>QA aw rF uk b.1.1 b.1.2.1 b.1.b b.2:=λ_ _ _ b=>by kernel_rfl
theorem iy [ax]:SC (gA bu):=s0 (.c dB (.c aq7 (.c avA (.nil _)))) (aHC aQ uY xO)
def aey:=qa (pl (c V9 (cl V9 nil)) nil)
def LY:=qe DQ
abbrev aez:=LY.B
abbrev GA:=Int->Int->Int->Int->Option aez
def aeA (g:GA):Ct:=(243,FC aey (lf LY) (λb=>g b.1.1 b.1.2 b.2.1 b.b))
def OL (x0:Int)(x1:Int)(x2:Int)(x3:Int):Pg aez:=ae (decide (x0<x2)) (ret true) (ae (x0==x2) (ret (decide (x1<x3))) (ret false))
def vr:=λx0 x1 x2 x3=>(OL x0 x1 x2 x3).val
theorem ayR:D0 [] 243 aey (lf LY) λb=>OL b.1.1 b.1.2 b.2.1 b.b:=λb=>by kernel_rfl
theorem ayS [ax]:SC (aeA vr):=s0 (.nil _) ayR
def aaz:=qa (pl (c V9 (cl V9 nil)) nil)
def JR:=qe aKl
abbrev aaA:=JR.B
abbrev LZ:=Int->Int->Int->Int->Option aaA
def aaB (g:LZ):Ct:=(244,FC aaz (lf JR) (λb=>g b.1.1 b.1.2 b.2.1 b.b))
def L0 (ame:aYx)(x0:Int)(x1:Int)(x2:Int)(x3:Int):Pg aaA:=opt (ame x1 x3 0) λd=>opt (ame x0 x2 d.2) λaj=>ret (aj.1,d.1)
def xP:=λx0 x1 x2 x3=>(L0 aeq x0 x1 x2 x3).val
theorem avB:∀ame,D0 [aNV ame] 244 aaz (lf JR) λb=>L0 ame b.1.1 b.1.2 b.2.1 b.b:=λ_ b=>by kernel_rfl
theorem avC [ax]:SC (aaB xP):=s0 (.c aUt (.nil _)) (avB aeq)
def avD:=qa (pl aEd nil)
def acq:=qe ax2
abbrev avE:=acq.B
abbrev avF:=Int->Int->Option avE
def avG (g:avF):Ct:=(202,FC avD (lf acq) (λb=>g b.1 b.2))
def xu:=qs (st (pr (us 4 (cu (app 0 2) (cu aMS (cl ai (us 44 nil))))) (pl (c (so axS) (cl (so axS) nil)) nil)))
def aFF:=qs (st (pr (us 4 (cu (app 0 2) (cu aMS (c ai (us 12 aV5))))) (pl (c (so axS) (cl (so axS) nil)) nil)))
abbrev L3:=((Int×Bool)×(Int×Int)×Int×Int)
def amf {ρ:Type}(x:L3)(K:AX->St->Option ρ):Option ρ:=(λd=>K (.ex 0) (aFF.em ((d.1.1,d.1),d.2))) x
def L4 (jN:C4)(fh:vn)(iV:C5)(OM:GA)(avH:LZ)(d:xu.B):PL xu L3:=let y0:=wI (d.1-2);let y1:=decide (d.1>=0);ae y1 (opt (jN 0 1 d.1) λaj=>opt (fh d.2.2.1 d.2.2.2 aj.1 aj.2) λaE=>opt (iV d.2.2.1 d.2.2.2 1) λbE=>opt (OM d.2.1.1 d.2.1.2 aE.1 aE.2) λcC=>ae (!cC) (opt (avH d.2.1.1 d.2.1.2 aE.1 aE.2) λd=>opt (fh bE.1 bE.2 aj.1 aj.2) λeJ=>ret (ws (y0,d,eJ))) (ret (ws (y0,d.2.1,bE)))) (ret (wr ((d.1,y1),d.2)))
def WR:=bC (L4 gY iZ iU vr xP) 2000
def ag5 (fh:vn)(OM:GA)(fk:Ar)(ew:LT xu L3)(x0:Int)(x1:Int):Pg avE:=ae (decide (x0<0)) (ret (0,false)) (opt (ew (126,(wU x0,x1),0,0)) λd=>opt (OM d.2.2.1 d.2.2.2 d.2.1.1 d.2.1.2) λaj=>ae aj (opt (fh d.2.2.1 d.2.2.2 0 1) λd=>opt (fk d.1 d.2 false) λd=>ret d) (opt (fk d.2.2.1 d.2.2.2 false) λd=>ret d))
def L5:=λx0 x1=>(ag5 iZ vr ja WR x0 x1).val
abbrev Vj:=C4×vn×C5×GA×LZ×Ar×(LT xu L3)
def ag6 (p:Vj):KK:=⟨[I3 p.1,Gx p.2.1,I4 p.b.1,aeA p.b.2.1,aaB p.c.1,Gy p.c.2.1],⟨[⟨5,(rg 0 4 (rg 7 44 [])),[]⟩],[fV 5 0 xu amf p.c.b],[],[],(some ⟨0,(0::1::rg 4 47 []),[]⟩)⟩,0,202⟩
theorem aCJ (p:Vj):LI (ag6 p) 5 xu amf (L4 p.1 p.2.1 p.b.1 p.b.2.1 p.c.1):=λ_ d c K=>by kernel_rfl
theorem aK9 (p:Vj):D2 (ag6 p) avD (lf acq) λb=>ag5 p.2.1 p.b.2.1 p.c.2.1 p.c.b b.1 b.2:=λb=>by kernel_rfl
abbrev ag7:Vj:=(gY,iZ,iU,vr,xP,ja,WR)
theorem aLa [ax]:SC (avG L5):=sc (kS (k:=ag6 ag7) (.c Ta (.c OF (.c Tb (.c ayS (.c avC (.c OJ (.nil _))))))) [5] [] ⟨kL (aCJ ag7),trivial⟩ trivial (aK9 ag7))
def aAI:=qa (pr (cu aP aEd) bH)
def ag8:=qe qi
abbrev aAJ:=ag8.B
abbrev aaC:=Int->Int->Bool->Option aAJ
def amg (g:aaC):Ct:=(133,FC aAI (lf ag8) (λb=>g b.1.1 b.1.2 b.2))
def amh (Vk:avF)(aw:bP)(x0:Int)(x1:Int)(x2:Bool):Pg aAJ:=opt (Vk x0 x1) λd=>ae (!d.2) (opt (aw 1152921504606846977 x2) λd=>ret d) (opt (aw d.1 x2) λd=>ret d)
def xQ:=λx0 x1 x2=>(amh L5 aQ x0 x1 x2).val
theorem aN2:∀Vk aw,D0 [avG Vk,dx aw] 133 aAI (lf ag8) λb=>amh Vk aw b.1.1 b.1.2 b.2:=λ_ _ b=>by kernel_rfl
theorem aAK [ax]:SC (amg xQ):=s0 (.c aLa (.c dB (.nil _))) (aN2 L5 aQ)
def avI:=qa (pr (cu aP gW) bH)
def acr:=qe qi
abbrev avJ:=acr.B
abbrev ag9:=Int->Bool->Option avJ
def aha (g:ag9):Ct:=(81,FC avI (lf acr) (λb=>g b.1 b.2))
def ahb (aw:bP)(rF:acn)(KM:aaC)(x0:Int)(x1:Bool):Pg avJ:=opt (aw x0 x1) λd=>ae (decide (d.1<0)) (ret (0,true)) (opt (rF d.1 30) λaj=>opt (KM aj.1.1 aj.1.2 d.2) λd=>ret d)
def BE:=λx0 x1=>(ahb aQ uY xQ x0 x1).val
theorem aLb:∀aw rF KM,D0 [dx aw,aco rF,amg KM] 81 avI (lf acr) λb=>ahb aw rF KM b.1 b.2:=λ_ _ _ b=>by kernel_rfl
theorem avK [ax]:SC (aha BE):=s0 (.c dB (.c aq7 (.c aAK (.nil _)))) (aLb aQ uY xQ)
def avL:=qa (pl gW nil)
def acs:=qe Ho
abbrev avM:=acs.B
abbrev xR:=Int->Option avM
def BF (g:xR):Ct:=(129,FC avL (lf acs) (λb=>g b))
def Vl (x0:Int):Pg avM:=let y0:=Int.tmod x0 6746518852;ae (decide (y0>3373259426)) (ret (wI (y0-6746518852))) (ae (decide (y0<= -3373259426)) (ret (wI (y0+6746518852))) (ret y0))
def kl:=λx0=>(Vl x0).val
theorem aLc:D0 [] 129 avL (lf acs) λb=>Vl b:=λb=>by kernel_rfl
theorem GB [ax]:SC (BF kl):=s0 (.nil _) aLc
def aJo:=qa (pl gW nil)
def aty:=qe Ho
abbrev aeB:=aty.B
abbrev ON:=Int->Option aeB
def aeC (g:ON):Ct:=(36,FC aJo (lf aty) (λb=>g b))
def DE (x0:Int):Pg aeB:=ae (decide (x0>=1152921504606846976)) (ret 1152921504606846976) (ae (decide (x0<= -1152921504606846976)) (ret 1152921504606846976) (ae (decide (x0<0)) (ret (wI (0-x0))) (ret x0)))
def xw:=λx0=>(DE x0).val
theorem aUx:D0 [] 36 aJo (lf aty) λb=>DE b:=λb=>by kernel_rfl
theorem apv [ax]:SC (aeC xw):=s0 (.nil _) aUx
def aJp:=qa (pr (cu aP yV) bH)
def atz:=qe qi
abbrev aJq:=atz.B
abbrev aeD:=Int->Int->Bool->Option aJq
def apw (g:aeD):Ct:=(130,FC aJp (lf atz) (λb=>g b.1.1 b.1.2 b.2))
def apx (aB:bT)(x0:Int)(x1:Int)(x2:Bool):Pg aJq:=opt (aB x0 x1 30 x2) λd=>ret d
def KN:=λx0 x1 x2=>(apx aV x0 x1 x2).val
theorem aUy:∀aB,D0 [fq aB] 130 aJp (lf atz) λb=>apx aB b.1.1 b.1.2 b.2:=λ_ b=>by kernel_rfl
theorem ayT [ax]:SC (apw KN):=s0 (.c fO (.nil _)) (aUy aV)
def aFG:=qa (pl gW nil)
def ami:=qe aWs
abbrev aFH:=ami.B
abbrev atA:=Int->Option aFH
def aFI (g:atA):Ct:=(242,FC aFG (lf ami) (λb=>g b))
def atB (x0:Int):Pg aFH:=ret (t9 x0 9223372036854775808,wU x0)
def WT:=λx0=>(atB x0).val
theorem aRO:D0 [] 242 aFG (lf ami) λb=>atB b:=λb=>by kernel_rfl
theorem aRP [ax]:SC (aFI WT):=s0 (.nil _) aRO
def aAL:=qa (pl (c af7 aEd) nil)
def ahc:=qe aQz
abbrev aAM:=ahc.B
abbrev amj:=Int->Int->Int->Int->Option aAM
def aAN (g:amj):Ct:=(187,FC aAL (lf ahc) (λb=>g b.1.1 b.1.2 b.2.1 b.b))
def amk (mQ:avq)(x0:Int)(x1:Int)(x2:Int)(x3:Int):Pg aAM:=let y0:=decide (x0<0);opt (mQ x1 x3 0) λd=>opt (mQ (wU x0) (wU x2) d.2) λaj=>ae (!y0==decide (x2<0)) (ret ((wI aj.1,d.1),true)) (ret ((wI aj.1,d.1),decide (wI aj.1<0)==y0))
def KO:=λx0 x1 x2 x3=>(amk CX x0 x1 x2 x3).val
theorem aN3:∀mQ,D0 [alX mQ] 187 aAL (lf ahc) λb=>amk mQ b.1.1 b.1.2 b.2.1 b.b:=λ_ b=>by kernel_rfl
theorem aN4 [ax]:SC (aAN KO):=s0 (.c apu (.nil _)) (aN3 CX)
def aAO:=qa (dp (cl aVO nil) λa=>(cl (cl (gs a.1 aJ9) nil) nil))
def ahd:=qe (res (pl aWt (pu Z8 nil)))
abbrev aAP:=ahd.B
abbrev sr:=Nat->NI->NI->Bool->Option aAP
def KP (g:sr):Ct:=(117,uW 0 [.i .i64,.i .u64] (FC aAO (lf ahd) (λb=>g b.1.1 b.2.1 b.b b.1.2)))
def Au:=qs (st (dp (us 2 (cu aMS (us 1 (cu az4 (us 4 (c aVO (c ai aPX))))))) λa=>(pl (c (so (cl (gs a.1.1 aJ9) nil)) (cu aQA abO)) nil)))
def aji:=qs (st (pu (us 2 (cu aMS (cu ui (us 23 nil)))) (pl (cl aQw (cu aQA nil)) nil)))
def aCK:=qs (st (pr (us 2 (cu aMS (us 1 (cu az4 (us 4 (c aVO aWl)))))) (pl (c aQw (cu aQA abO)) nil)))
abbrev Il:=aji.B⊕(aML×(NI×NI)×Int×Int)
def ara {ρ:Type}(x:Il)(K:AX->St->Option ρ):Option ρ:=(t7 (λd=>K .ret (aji.em d)) (λd=>K (.ex 0) (aCK.em (d.1,(d.1.1.1,d.2.1),d.b)))) x
def DF (aN5:amj)(d:Au.B):PL Au Il:=let y0:=wt d.1.2.2;let y1:=decide (d.1.2.2<d.1.2.1);ae y1 (ae (aX d.1.2.2 d.1.1.1) (opt (aN5 d.2.2.1 d.2.2.2 (d.2.1.1 y0) (d.2.1.2 y0)) λaj=>ae (!aj.2) (ret (wr (ws (d.1.1.1,d.2.1)))) (ret (ws ((d.1.1,d.1.2.1,wI (d.1.2.2+1)),d.2.1,aj.1)))) no) (ret (wr (wr ((d.1.1,d.1.2.1,d.1.2.2,y1),d.2))))
def Im:=bC (DF KO) 2000
def aaD (ew:LT Au Il)(x0:Nat)(x1:Nat->Int)(x2:Nat->Int)(w0:Bool):Pg aAP:=ae (ww x0 x0) (opt (ew (((x0,w0),wn x0,0),(x1,x2),0,0)) λx=>sum x (λd=>ret ((0,0),false)) λd=>ret (d.2.2,true)) no
def j8:=λx0 x1 x2 w0=>(aaD Im x0 x1 x2 w0).val
abbrev aaE:=amj×(LT Au Il)
def aml (p:aaE):KK:=⟨[aAN p.1],⟨[⟨3,(0::1::3::rg 5 4 (rg 12 15 [])),[]⟩],[fV 3 1 Au ara p.2],[],[],(some ⟨0,(0::1::rg 4 23 []),[]⟩)⟩,1,117⟩
theorem aFJ (p:aaE):LI (aml p) 3 Au ara (DF p.1):=λ_ d c K=>by kernel_rfl
theorem aN6 (p:aaE):D2 (aml p) aAO (lf ahd) λb=>aaD p.2 b.1.1 b.2.1 b.b b.1.2:=λb=>by kernel_rfl
abbrev amm:aaE:=(KO,Im)
theorem Rg [ax]:SC (KP j8):=sc (Sound.nil 0 [.i .i64,.i .u64]<|kS (k:=aml amm) (.c aN4 (.nil _)) [3] [] ⟨kL (aFJ amm),trivial⟩ trivial (aN6 amm))
def arb:=qa (dp (cu aP axV) λa=>(c wM (cl (cl (gs a.1 nC) nil) nil)))
def WU:=qe aKm
abbrev arc:=WU.B
abbrev fu:=Nat->Bool->NI->Bool->Option arc
def oP (g:fu):Ct:=(201,uW 1 [.i .i64] (FC arb (lf WU) (λb=>g b.1.1 b.2.1 b.b b.1.2)))
def vt:=qs (st (dp (cu aP (us 4 (cu az4 (us 4 (c Ib (c ai aPY)))))) λa=>(pl (c cD (c (so (cl (gs a.1.1 nC) nil)) abO)) cP)))
def aCL:=qs (st (pr (cu aP (us 4 (cu az4 (us 4 (c Ib (c ai aP7)))))) (pl (c cD (c JD abO)) cP)))
abbrev Jb:=(aML×Bool×NI×Int×Int)
def ajj {ρ:Type}(x:Jb)(K:AX->St->Option ρ):Option ρ:=(λd=>K (.ex 0) (aCL.em (d.1,d.2.1,(d.1.1.1,d.b.1),d.b.2))) x
def Jc (aw:bP)(aRQ:atA)(xS:sr)(d:vt.B):PL vt Jb:=let y0:=decide (d.1.2.2<d.1.2.1);ae y0 (ae (aX d.1.2.2 d.1.1.1) (opt (aw (d.2.2.1 (wt d.1.2.2)) d.2.1) λaj=>opt (aRQ aj.1) λaE=>opt (xS 2 (λj=>bif ww j 1 then aE.1 else bif ww j 0 then d.2.2.2.1 else d.2.2.2.1) (λj=>bif ww j 1 then aE.2 else bif ww j 0 then d.2.2.2.2 else d.2.2.2.2) true) λbE=>ret (ws ((d.1.1,d.1.2.1,wI (d.1.2.2+1)),aj.2,d.2.2.1,bE.1))) no) (ret (wr ((d.1.1,d.1.2.1,d.1.2.2,y0),d.2)))
def Tf:=bC (Jc aQ WT j8) 2000
def acu (uX:DD)(mT:Ig)(ew:LT vt Jb)(x0:Nat)(x1:Bool)(x2:Nat->Int)(w0:Bool):Pg arc:=ae (ww x0 x0) (opt (ew (((x0,w0),wn x0,0),x1,x2,0,0)) λd=>opt (uX d.2.2.2.1 d.2.2.2.2 0) λaj=>opt (mT aj.1 aj.2 (decide (d.2.2.2.1<0)) d.2.1) λd=>ret d) no
def cU:=λx0 x1 x2 w0=>(acu rE mS Tf x0 x1 x2 w0).val
abbrev QB:=bP×atA×sr×DD×Ig×(LT vt Jb)
def acv (p:QB):KK:=⟨[dx p.1,aFI p.2.1,KP p.b.1,Qu p.b.2.1,Qv p.c.1],⟨[⟨3,(rg 1 4 (rg 6 4 (rg 13 26 []))),[]⟩],[fV 3 2 vt ajj p.c.2],[0],[],(some ⟨0,(rg 0 4 (rg 5 34 [])),[]⟩)⟩,2,201⟩
theorem ayU (p:QB):LI (acv p) 3 vt ajj (Jc p.1 p.2.1 p.b.1):=λ_ d c K=>by kernel_rfl
theorem aHD (p:QB):D2 (acv p) arb (lf WU) λb=>acu p.b.2.1 p.c.1 p.c.2 b.1.1 b.2.1 b.b b.1.2:=λb=>by kernel_rfl
abbrev acw:QB:=(aQ,WT,j8,rE,mS,Tf)
theorem rG [ax]:SC (oP cU):=sc (Sound.nil 1 [.i .i64]<|kS (k:=acv acw) (.c dB (.c aRP (.c Rg (.c acg (.c ach (.nil _)))))) [3] [] ⟨kL (ayU acw),trivial⟩ trivial (aHD acw))
def amn:=qa (dp (cu aP aQd) λa=>(c wM (cl (cl (gs a.2.1 nC) nil) nil)))
def Tg:=qe aKm
abbrev amo:=Tg.B
abbrev WV:=Int->Nat->Bool->NI->Bool->Option amo
def WW (g:WV):Ct:=(131,uW 2 [.i .i64] (FC amn (lf Tg) (λb=>g b.1.1 b.1.2.1 b.2.1 b.b b.1.b)))
def mu:=qs (st (pr (cu aP (c ai (us 5 (c ai (us 6 (c aW0 (c ai aJ5))))))) (pl (c cD alh) cP)))
def aeE:=qs (st (pr (cu aP (c ai (us 5 (c ai (us 6 (c aW0 (c ai aKa))))))) (pl (c cD alh) cP)))
abbrev Av:=aeE.B
def aeF {ρ:Type}:=@ef Av ((.ex 0)) aeE ρ
def OO (jz:aeD)(cv:fu)(d:mu.B):PL mu Av:=let n1:=d.1.2.2;let n2:=n1.2.2;let y0:=decide (n2<n1.2.1);ae y0 (ae (aX n2 n1.1.1) (opt (jz d.1.1 d.1.2.1 d.2.1) λaj=>opt (cv 2 aj.2 (cr (d.2.2.2 (1+wt n2)) [aj.1,d.2.2.2 (1+wt n2)]) true) λaE=>ret (ws ((d.1.1,aE.1,n1.1,n1.2.1,wI (n2+1)),aE.2,d.2.2))) no) (ret (wr ((d.1.1,d.1.2.1,n1.1,n1.2.1,n2,y0),d.2)))
def OP:=bC (OO KN cU) 2000
def WX (ew:LT mu Av)(x0:Int)(x1:Nat)(x2:Bool)(x3:Nat->Int)(w0:Bool):Pg amo:=let y0:=x1-1;ae (aX 0 x1) (ae (KG 1 x1) (opt (ew ((x0,x3 0,(y0,w0&&true),wn y0,0),x2,x1,x3)) λd=>ret (d.1.2.1,d.2.1)) no) no
def mU:=λx0 x1 x2 x3 w0=>(WX OP x0 x1 x2 x3 w0).val
abbrev L6:=aeD×fu×(LT mu Av)
def WY (p:L6):KK:=⟨[apw p.1,oP p.2.1],⟨[⟨3,(rg 2 5 (rg 8 6 (rg 17 13 []))),[]⟩],[fV 3 2 mu aeF p.b],[0],[],(some ⟨0,(rg 0 6 (rg 7 23 [])),[]⟩)⟩,2,131⟩
theorem avN (p:L6):LI (WY p) 3 mu aeF (OO p.1 p.2.1):=λ_ d c K=>by kernel_rfl
theorem aFK (p:L6):D2 (WY p) amn (lf Tg) λb=>WX p.b b.1.1 b.1.2.1 b.2.1 b.b b.1.b:=λb=>by kernel_rfl
abbrev WZ:L6:=(KN,cU,OP)
theorem amp [ax]:SC (WW mU):=sc (Sound.nil 2 [.i .i64]<|kS (k:=WY WZ) (.c ayT (.c rG (.nil _))) [3] [] ⟨kL (avN WZ),trivial⟩ trivial (aFK WZ))
def aAQ:=qa (pr (cu aP gW) bH)
def ahe:=qe qi
abbrev aAR:=ahe.B
abbrev KQ:=Int->Bool->Option aAR
def KR (g:KQ):Ct:=(79,FC aAQ (lf ahe) (λb=>g b.1 b.2))
def amq (aw:bP)(dm:xR)(dz:ON)(jz:aeD)(fZ:WV)(x0:Int)(x1:Bool):Pg aAR:=opt (aw x0 x1) λd=>opt (dm d.1) λaj=>let y0:=wI (3373259426-aj);let y1:=wI (-3373259426-aj);ae (decide (aj>1686629713)) (opt (dz y0) λaE=>let oN:=wI (1686629713-aE);ae (decide (aE<=843314857)) (opt (jz y0 y0 d.2) λd=>opt (fZ d.1 6 d.2 (cr (-27) [1073741824, -178956971,8947849, -213044,2959, -27]) true) λd=>opt (jz y0 d.1 d.2) λd=>let y0:=if -1073741824>d.1 then -1073741824 else d.1;ret (if 1073741824<y0 then 1073741824 else y0,d.2)) (opt (jz oN oN d.2) λd=>opt (fZ d.1 7 d.2 (cr 2 [1073741824, -536870912,44739243, -1491308,26631, -296,2]) true) λd=>let ard:=wI (0-d.1);let y1:=if -1073741824>d.1 then -1073741824 else d.1;let y2:=if -1073741824>ard then -1073741824 else ard;ae (decide (y0<0)) (ret (if 1073741824<y2 then 1073741824 else y2,d.2)) (ret (if 1073741824<y1 then 1073741824 else y1,d.2)))) (ae (decide (aj< -1686629713)) (opt (dz y1) λaE=>let y0:=wI (1686629713-aE);ae (decide (aE<=843314857)) (opt (jz y1 y1 d.2) λd=>opt (fZ d.1 6 d.2 (cr (-27) [1073741824, -178956971,8947849, -213044,2959, -27]) true) λd=>opt (jz y1 d.1 d.2) λd=>let y0:=if -1073741824>d.1 then -1073741824 else d.1;ret (if 1073741824<y0 then 1073741824 else y0,d.2)) (opt (jz y0 y0 d.2) λd=>opt (fZ d.1 7 d.2 (cr 2 [1073741824, -536870912,44739243, -1491308,26631, -296,2]) true) λd=>let y0:=wI (0-d.1);let ajk:=if -1073741824>d.1 then -1073741824 else d.1;let y2:=if -1073741824>y0 then -1073741824 else y0;ae (decide (y1<0)) (ret (if 1073741824<y2 then 1073741824 else y2,d.2)) (ret (if 1073741824<ajk then 1073741824 else ajk,d.2)))) (opt (dz aj) λaE=>let y0:=wI (1686629713-aE);ae (decide (aE<=843314857)) (opt (jz aj aj d.2) λd=>opt (fZ d.1 6 d.2 (cr (-27) [1073741824, -178956971,8947849, -213044,2959, -27]) true) λd=>opt (jz aj d.1 d.2) λd=>let y0:=if -1073741824>d.1 then -1073741824 else d.1;ret (if 1073741824<y0 then 1073741824 else y0,d.2)) (opt (jz y0 y0 d.2) λd=>opt (fZ d.1 7 d.2 (cr 2 [1073741824, -536870912,44739243, -1491308,26631, -296,2]) true) λd=>let y0:=wI (0-d.1);let y1:=if -1073741824>d.1 then -1073741824 else d.1;let y2:=if -1073741824>y0 then -1073741824 else y0;ae (decide (aj<0)) (ret (if 1073741824<y2 then 1073741824 else y2,d.2)) (ret (if 1073741824<y1 then 1073741824 else y1,d.2)))))
def nE:=λx0 x1=>(amq aQ kl xw KN mU x0 x1).val
theorem aN7:∀aw dm dz jz fZ,D0 [dx aw,BF dm,aeC dz,apw jz,WW fZ] 79 aAQ (lf ahe) λb=>amq aw dm dz jz fZ b.1 b.2:=λ_ _ _ _ _ b=>by kernel_rfl
theorem Rh [ax]:SC (KR nE):=s0 (.c dB (.c GB (.c apv (.c ayT (.c amp (.nil _)))))) (aN7 aQ kl xw KN mU)
def aAS:=qa (pr (cu aP gW) bH)
def ahf:=qe qi
abbrev aAT:=ahf.B
abbrev Ri:=Int->Bool->Option aAT
def Rj (g:Ri):Ct:=(80,FC aAS (lf ahf) (λb=>g b.1 b.2))
def amr (dm:xR)(eD:KQ)(x0:Int)(x1:Bool):Pg aAT:=opt (dm x0) λd=>opt (eD (wI (1686629713+d)) x1) λd=>ret d
def su:=λx0 x1=>(amr kl nE x0 x1).val
theorem aN8:∀dm eD,D0 [BF dm,KR eD] 80 aAS (lf ahf) λb=>amr dm eD b.1 b.2:=λ_ _ b=>by kernel_rfl
theorem aaF [ax]:SC (Rj su):=s0 (.c GB (.c Rh (.nil _))) (aN8 kl nE)
def are:=qa (pr (cu aP yV) bH)
def W0:=qe qi
abbrev arf:=W0.B
abbrev acx:=Int->Int->Bool->Option arf
def acy (g:acx):Ct:=(257,FC are (lf W0) (λb=>g b.1.1 b.1.2 b.2))
def acz (aw:bP)(dz:ON)(aD:cL)(jz:aeD)(fZ:WV)(x0:Int)(x1:Int)(x2:Bool):Pg arf:=opt (aw x0 x2) λd=>let y0:=decide (d.1<0);opt (aw x1 d.2) λaj=>let oN:=decide (aj.1<0);opt (dz d.1) λaE=>opt (dz aj.1) λbE=>let ard:=if bE>aE then bE else aE;opt (dz d.1) λcC=>opt (dz aj.1) λeJ=>ae (ard==0) (ret (0,aj.2)) (opt (aD (if eJ<cC then eJ else cC) ard 30 aj.2) λc9=>ae (decide (c9.1>444758426)) (opt (aD (wI (c9.1-1073741824)) (wI (c9.1+1073741824)) 30 c9.2) λlR=>opt (jz lR.1 lR.1 lR.2) λpY=>opt (fZ pY.1 12 pY.2 (cr (-46684427) [1073741824, -357913941,214748365, -153391689,119304647, -97612893,82595525, -71582788,63161284, -56512728,51130563, -46684427]) true) λmV=>opt (jz lR.1 mV.1 mV.2) λlM=>let aaG:=wI (843314857+lM.1);let y1:=wI (3373259426-aaG);let y2:=wI (1686629713-aaG);let y3:=wI (3373259426-y2);opt (dz d.1) λd=>opt (dz aj.1) λwO=>ae (decide (d>wO)) (ae oN (ae y0 (ret (wI (0-y3),lM.2)) (ret (y3,lM.2))) (ae y0 (ret (wI (0-y2),lM.2)) (ret (y2,lM.2)))) (ae oN (ae y0 (ret (wI (0-y1),lM.2)) (ret (y1,lM.2))) (ae y0 (ret (wI (0-aaG),lM.2)) (ret (aaG,lM.2))))) (opt (jz c9.1 c9.1 c9.2) λlR=>opt (fZ lR.1 12 lR.2 (cr (-46684427) [1073741824, -357913941,214748365, -153391689,119304647, -97612893,82595525, -71582788,63161284, -56512728,51130563, -46684427]) true) λpY=>opt (jz c9.1 pY.1 pY.2) λmV=>let aaG:=wI (0+mV.1);let y1:=wI (1686629713-aaG);let y2:=wI (3373259426-aaG);let y3:=wI (3373259426-y1);opt (dz d.1) λd=>opt (dz aj.1) λlM=>ae (decide (d>lM)) (ae oN (ae y0 (ret (wI (0-y3),mV.2)) (ret (y3,mV.2))) (ae y0 (ret (wI (0-y1),mV.2)) (ret (y1,mV.2)))) (ae oN (ae y0 (ret (wI (0-y2),mV.2)) (ret (y2,mV.2))) (ae y0 (ret (wI (0-aaG),mV.2)) (ret (aaG,mV.2))))))
def yY:=λx0 x1 x2=>(acz aQ xw bu KN mU x0 x1 x2).val
theorem aHE:∀aw dz aD jz fZ,D0 [dx aw,aeC dz,gA aD,apw jz,WW fZ] 257 are (lf W0) λb=>acz aw dz aD jz fZ b.1.1 b.1.2 b.2:=λ_ _ _ _ _ b=>by kernel_rfl
theorem arh [ax]:SC (acy yY):=s0 (.c dB (.c apv (.c iy (.c ayT (.c amp (.nil _)))))) (aHE aQ xw bu KN mU)
def ari:=qa (pr (cu aP yV) bH)
def W2:=qe qi
abbrev arj:=W2.B
abbrev dg:=Int->Int->Bool->Option arj
def iz (g:dg):Ct:=(212,FC ari (lf W2) (λb=>g b.1.1 b.1.2 b.2))
def Io (aw:bP)(x0:Int)(x1:Int)(x2:Bool):Pg arj:=opt (aw x0 x2) λd=>opt (aw x1 d.2) λaj=>opt (aw (wI (d.1-aj.1)) aj.2) λd=>ret d
def bQ:=λx0 x1 x2=>(Io aQ x0 x1 x2).val
theorem aHF:∀aw,D0 [dx aw] 212 ari (lf W2) λb=>Io aw b.1.1 b.1.2 b.2:=λ_ b=>by kernel_rfl
theorem jg [ax]:SC (iz bQ):=s0 (.c dB (.nil _)) (aHF aQ)
def aFL:=qa (pr (cu aP (c af9 Hq)) bH)
def ams:=qe ax4
abbrev aFM:=ams.B
abbrev JS:=Int->Int->Int->Int->Int->Int->Bool->Option aFM
def W3 (g:JS):Ct:=(181,FC aFL (lf ams) (λb=>g b.1.1.1 b.1.1.2.1 b.1.1.b b.1.2.1 b.1.b.1 b.1.b.2 b.2))
def atC (aW:dg)(x0:Int)(x1:Int)(x2:Int)(x3:Int)(x4:Int)(x5:Int)(x6:Bool):Pg aFM:=opt (aW x0 x3 x6) λd=>opt (aW x1 x4 d.2) λaj=>opt (aW x2 x5 aj.2) λaE=>ret ((d.1,aj.1,aE.1),aE.2)
def vR:=λx0 x1 x2 x3 x4 x5 x6=>(atC bQ x0 x1 x2 x3 x4 x5 x6).val
theorem aRR:∀aW,D0 [iz aW] 181 aFL (lf ams) λb=>atC aW b.1.1.1 b.1.1.2.1 b.1.1.b b.1.2.1 b.1.b.1 b.1.b.2 b.2:=λ_ b=>by kernel_rfl
theorem ahg [ax]:SC (W3 vR):=s0 (.c jg (.nil _)) (aRR bQ)
def avO:=qa (pr (cu aP (c af9 gW)) bH)
def acA:=qe ax4
abbrev avP:=acA.B
abbrev Vm:=Int->Int->Int->Int->Bool->Option avP
def Vn (g:Vm):Ct:=(157,FC avO (lf acA) (λb=>g b.1.1.1 b.1.1.2.1 b.1.1.b b.1.2 b.2))
def ahh (aB:bT)(x0:Int)(x1:Int)(x2:Int)(x3:Int)(x4:Bool):Pg avP:=opt (aB x0 x3 30 x4) λd=>opt (aB x1 x3 30 d.2) λaj=>opt (aB x2 x3 30 aj.2) λaE=>ret ((d.1,aj.1,aE.1),aE.2)
def um:=λx0 x1 x2 x3 x4=>(ahh aV x0 x1 x2 x3 x4).val
theorem aLd:∀aB,D0 [fq aB] 157 avO (lf acA) λb=>ahh aB b.1.1.1 b.1.1.2.1 b.1.1.b b.1.2 b.2:=λ_ b=>by kernel_rfl
theorem ahi [ax]:SC (Vn um):=s0 (.c fO (.nil _)) (aLd aV)
def ark:=qa (dp (cu aP axV) λa=>(c wM (cl (cl (gs a.1 nC) nil) nil)))
def Xa:=qe aKm
abbrev arl:=Xa.B
abbrev yZ:=Nat->Bool->NI->Bool->Option arl
def Ip (g:yZ):Ct:=(135,uW 1 [.i .i64] (FC ark (lf Xa) (λb=>g b.1.1 b.2.1 b.b b.1.2)))
def vu:=qs (st (pr (cu aP (us 4 (cu az4 (us 6 (c Ib (c ai (cl ai (us 19 nil)))))))) (pl (c cD (c JD abO)) cP)))
def ajl:=qs (st (pr (cu aP (us 4 (cu az4 (us 6 (c Ib (c ai (c ai (cl ab (us 18 nil))))))))) (pl (c cD (c JD abO)) cP)))
abbrev Jd:=ajl.B
def ajm {ρ:Type}:=@ef Jd ((.ex 0)) ajl ρ
def C7 (aw:bP)(cS:nD)(xS:sr)(d:vu.B):PL vu Jd:=let y0:=decide (d.1.2.2<d.1.2.1);ae y0 (ae (aX d.1.2.2 d.1.1.1) (opt (aw (d.2.2.1.2 (wt d.1.2.2)) d.2.1) λaj=>opt (cS aj.1 aj.1) λaE=>opt (xS 2 (λj=>bif ww j 1 then aE.1 else bif ww j 0 then d.2.2.2.1 else d.2.2.2.1) (λj=>bif ww j 1 then aE.2 else bif ww j 0 then d.2.2.2.2 else d.2.2.2.2) true) λbE=>ret (ws ((d.1.1,d.1.2.1,wI (d.1.2.2+1)),aj.2,d.2.2.1,bE.1))) no) (ret (wr ((d.1.1,d.1.2.1,d.1.2.2,y0),d.2)))
def Th:=bC (C7 aQ fC j8) 2000
def acB (KM:aaC)(ew:LT vu Jd)(x0:Nat)(x1:Bool)(x2:Nat->Int)(w0:Bool):Pg arl:=let y0:=if 64<wn x0 then 64 else wn x0;let y1:=wt y0;ae (KG y0 x0) (opt (ew (((y1,w0&&false),wn y1,0),x1,(x0,x2),0,0)) λd=>opt (KM d.2.2.2.1 d.2.2.2.2 d.2.1) λd=>ret d) no
def gB:=λx0 x1 x2 w0=>(acB xQ Th x0 x1 x2 w0).val
abbrev QC:=bP×nD×sr×aaC×(LT vu Jd)
def acC (p:QC):KK:=⟨[dx p.1,xL p.2.1,KP p.b.1,amg p.b.2.1],⟨[⟨3,(rg 1 4 (rg 6 6 (rg 15 19 []))),[]⟩],[fV 3 2 vu ajm p.c],[0],[],(some ⟨0,(rg 0 4 (rg 5 29 [])),[]⟩)⟩,2,135⟩
theorem ayV (p:QC):LI (acC p) 3 vu ajm (C7 p.1 p.2.1 p.b.1):=λ_ d c K=>by kernel_rfl
theorem aHG (p:QC):D2 (acC p) ark (lf Xa) λb=>acB p.b.2.1 p.c b.1.1 b.2.1 b.b b.1.2:=λb=>by kernel_rfl
abbrev acD:QC:=(aQ,fC,j8,xQ,Th)
theorem QD [ax]:SC (Ip gB):=sc (Sound.nil 1 [.i .i64]<|kS (k:=acC acD) (.c dB (.c Bc (.c Rg (.c aAK (.nil _))))) [3] [] ⟨kL (ayV acD),trivial⟩ trivial (aHG acD))
def aAU:=qa (pr (cu aP Hq) bH)
def ahj:=qe qi
abbrev aAV:=ahj.B
abbrev Bg:=Int->Int->Int->Bool->Option aAV
def Rk (g:Bg):Ct:=(158,FC aAU (lf ahj) (λb=>g b.1.1 b.1.2.1 b.1.b b.2))
def amt (jT:yZ)(x0:Int)(x1:Int)(x2:Int)(x3:Bool):Pg aAV:=opt (jT 3 x3 (cr x0 [x2,x1,x0]) false) λd=>ret d
def pF:=λx0 x1 x2 x3=>(amt gB x0 x1 x2 x3).val
theorem aN9:∀jT,D0 [Ip jT] 158 aAU (lf ahj) λb=>amt jT b.1.1 b.1.2.1 b.1.b b.2:=λ_ b=>by kernel_rfl
theorem aaH [ax]:SC (Rk pF):=s0 (.c QD (.nil _)) (aN9 gB)
def aFN:=qa (pr (cu aP Hq) bH)
def amu:=qe ax4
abbrev aFO:=amu.B
abbrev OQ:=Int->Int->Int->Bool->Option aFO
def ahk (g:OQ):Ct:=(211,FC aFN (lf amu) (λb=>g b.1.1 b.1.2.1 b.1.b b.2))
def atD (aw:bP)(x0:Int)(x1:Int)(x2:Int)(x3:Bool):Pg aFO:=opt (aw x0 x3) λd=>opt (aw x1 d.2) λaj=>opt (aw x2 aj.2) λaE=>ret ((d.1,aj.1,aE.1),aE.2)
def BG:=λx0 x1 x2 x3=>(atD aQ x0 x1 x2 x3).val
theorem aRS:∀aw,D0 [dx aw] 211 aFN (lf amu) λb=>atD aw b.1.1 b.1.2.1 b.1.b b.2:=λ_ b=>by kernel_rfl
theorem atE [ax]:SC (ahk BG):=s0 (.c dB (.nil _)) (aRS aQ)
def aAW:=qa (pr (cu aP as5) bH)
def ahl:=qe ax5
abbrev aAX:=ahl.B
abbrev Rl:=Int->Int->Int->Int->Bool->Option aAX
def aaI (g:Rl):Ct:=(134,FC aAW (lf ahl) (λb=>g b.1.1 b.1.2.1 b.1.b.1 b.1.b.2 b.2))
def sw:=qs (st (pr (cu aP (us 2 (cu aqr (cu az5 (us 1 aVS))))) (pl (c cD (cl wQ (cu alm nil))) cP)))
def arn:=qs (st (pr (cu aP (us 2 (cu aqr (cu az5 (us 1 (c ai (cl ab (us 10 nil)))))))) (pl (c cD (cl wQ (cu alm nil))) cP)))
abbrev Iq:=arn.B
def aro {ρ:Type}:=@ef Iq ((.ex 0)) arn ρ
def acE (aw:bP)(d:sw.B):PL sw Iq:=let n1:=d.2.2;let n3:=n1.2.1;let n2:=n1.2.2;let y0:=aX d.1 4;let y1:=d.1==3;let y2:=d.1==2;let y3:=d.1==1;let y4:=wI (d.1+1);let y5:=decide (d.1<4);ae y5 (ae y0 (ae y1 (opt (aw n2.2 d.2.1) λaj=>ae y0 (ae y1 (ret (ws (y4,aj.2,n1.1,n3,n2.1,aj.1))) (ae y2 (ret (ws (y4,aj.2,n1.1,n3,aj.1,n2.2))) (ae y3 (ret (ws (y4,aj.2,n1.1,aj.1,n2))) (ret (ws (y4,aj.2,aj.1,n1.2)))))) no) (ae y2 (opt (aw n2.1 d.2.1) λaj=>ae y0 (ae y1 (ret (ws (y4,aj.2,n1.1,n3,n2.1,aj.1))) (ae y2 (ret (ws (y4,aj.2,n1.1,n3,aj.1,n2.2))) (ae y3 (ret (ws (y4,aj.2,n1.1,aj.1,n2))) (ret (ws (y4,aj.2,aj.1,n1.2)))))) no) (ae y3 (opt (aw n3 d.2.1) λaj=>ae y0 (ae y1 (ret (ws (y4,aj.2,n1.1,n3,n2.1,aj.1))) (ae y2 (ret (ws (y4,aj.2,n1.1,n3,aj.1,n2.2))) (ae y3 (ret (ws (y4,aj.2,n1.1,aj.1,n2))) (ret (ws (y4,aj.2,aj.1,n1.2)))))) no) (opt (aw n1.1 d.2.1) λaj=>ae y0 (ae y1 (ret (ws (y4,aj.2,n1.1,n3,n2.1,aj.1))) (ae y2 (ret (ws (y4,aj.2,n1.1,n3,aj.1,n2.2))) (ae y3 (ret (ws (y4,aj.2,n1.1,aj.1,n2))) (ret (ws (y4,aj.2,aj.1,n1.2)))))) no)))) no) (ret (wr ((d.1,y5),d.2)))
def acF:=bC (acE aQ) 2000
def amv (ew:LT sw Iq)(x0:Int)(x1:Int)(x2:Int)(x3:Int)(x4:Bool):Pg aAX:=opt (ew (0,x4,x0,x1,x2,x3)) λd=>ret (d.2.2,d.2.1)
def xT:=λx0 x1 x2 x3 x4=>(amv acF x0 x1 x2 x3 x4).val
abbrev aaJ:=bP×(LT sw Iq)
def amw (p:aaJ):KK:=⟨[dx p.1],⟨[⟨2,(1::2::5::rg 7 11 []),[]⟩],[fV 2 1 sw aro p.2],[0],[],(some ⟨0,(rg 0 4 (rg 5 13 [])),[]⟩)⟩,1,134⟩
theorem aFP (p:aaJ):LI (amw p) 2 sw aro (acE p.1):=λ_ d c K=>by kernel_rfl
theorem aOa (p:aaJ):D2 (amw p) aAW (lf ahl) λb=>amv p.2 b.1.1 b.1.2.1 b.1.b.1 b.1.b.2 b.2:=λb=>by kernel_rfl
abbrev amx:aaJ:=(aQ,acF)
theorem amy [ax]:SC (aaI xT):=sc (kS (k:=amw amx) (.c dB (.nil _)) [2] [] ⟨kL (aFP amx),trivial⟩ trivial (aOa amx))
def aAY:=qa (pu nil nil)
def ahm:=qe (res (pu (aa (cu axY as6)) (pu nil nil)))
abbrev amz:=ahm.B
abbrev Bh:=Option amz
def KS (g:Bh):Ct:=(84,FC aAY (lf ahm) (λ_=>g))
def amA:Pg amz:=ret ()
def nF:Option amz:=(amA).val
theorem aOb:D0 [] 84 aAY (lf ahm) λb=>amA:=λb=>by kernel_rfl
theorem Rm [ax]:SC (KS nF):=s0 (.nil _) aOb
def avQ:=qa (pl as5 nil)
def acG:=qe aWF
abbrev avR:=acG.B
abbrev L7:=Int->Int->Int->Int->Option avR
def ahn (g:L7):Ct:=(182,FC avQ (lf acG) (λb=>g b.1 b.2.1 b.b.1 b.b.2))
def aho (pG:Rl)(x0:Int)(x1:Int)(x2:Int)(x3:Int):Pg avR:=opt (pG x0 x1 x2 x3 false) λd=>ret (d.1.1,wI (0-d.1.2.1),wI (0-d.1.2.2.1),wI (0-d.1.2.2.2))
def BH:=λx0 x1 x2 x3=>(aho xT x0 x1 x2 x3).val
theorem aLe:∀pG,D0 [aaI pG] 182 avQ (lf acG) λb=>aho pG b.1 b.2.1 b.b.1 b.b.2:=λ_ b=>by kernel_rfl
theorem avS [ax]:SC (ahn BH):=s0 (.c amy (.nil _)) (aLe xT)
def arp:=qa (pl agf nil)
def Xb:=qe aWz
abbrev arq:=Xb.B
abbrev lK:=NI->Int->Option arq
def rH (g:lK):Ct:=(154,FC arp (lf Xb) (λb=>g b.1 b.2))
def nG:=qs (st (pr (us 1 (c ai (cu az6 (us 1 (cu aMT (cu Z9 (us 2 aPZ))))))) (pl (c nr aln) nil)))
def ajn:=qs (st (pr (us 1 (c ai (cu az6 (us 1 (cu aMT (cu Z9 (us 2 aKb))))))) (pl (c nr aln) nil)))
abbrev C8:=ajn.B
def ajo {ρ:Type}:=@ef C8 ((.ex 0)) ajn ρ
def Ti (d:nG.B):PL nG C8:=let n4:=d.2.2;let n3:=d.2.1;let n2:=d.1.1;let n1:=d.1.2;let y0:=wI (n2+n1);let y1:=decide (n1<3);ae y1 (ae (decide (y0>=0)) (ae (decide (y0<24)) (ae (aX y0 24) (ae (aX n1 3) (ae (n1==2) (ret (ws ((n2,wI (n1+1)),n3,n4.1,n4.2.1,n3 (wt y0)))) (ae (n1==1) (ret (ws ((n2,wI (n1+1)),n3,n4.1,n3 (wt y0),n4.2.2))) (ret (ws ((n2,wI (n1+1)),n3,n3 (wt y0),n4.2))))) no) no) (ret (ws ((n2,wI (n1+1)),d.2)))) (ret (ws ((n2,wI (n1+1)),d.2)))) (ret (wr ((n2,n1,y1),d.2)))
def Tj:=bC (Ti) 2000
def acH (ew:LT nG C8)(x0:Nat->Int)(x1:Int):Pg arq:=opt (ew ((x1,0),x0,0,0,0)) λd=>ret d.2.2
def eL:=λx0 x1=>(acH Tj x0 x1).val
abbrev QE:=(LT nG C8)
def acI (p:QE):KK:=⟨[],⟨[⟨3,(0::3::6::7::rg 9 8 (rg 19 8 [17,18])),[]⟩],[fV 3 0 nG ajo p],[],[],(some ⟨0,(rg 0 4 (rg 5 22 [])),[]⟩)⟩,0,154⟩
theorem ayW (p:QE):LI (acI p) 3 nG ajo (Ti):=λ_ d c K=>by kernel_rfl
theorem aHH (p:QE):D2 (acI p) arp (lf Xb) λb=>acH p b.1 b.2:=λb=>by kernel_rfl
abbrev acJ:QE:=Tj
theorem uZ [ax]:SC (rH eL):=sc (kS (k:=acI acJ) (.nil _) [3] [] ⟨kL (ayW acJ),trivial⟩ trivial (aHH acJ))
def ars:=qa (dp (c kY aWk) λa=>(cl (cl (gs a.b.1 nC) nil) nil))
def Xc:=qe aWG
abbrev acK:=Xc.B
abbrev zb:=NI->Int->Nat->NI->Bool->Option acK
def DG (g:zb):Ct:=(32,uW 2 [.i .i64] (FC ars (lf Xc) (λb=>g b.1.1 b.1.2.1 b.1.b.1 b.2 b.1.b.2)))
def nH:=qs (st (dp (us 1 (c ai (c V8 (cu UB (us 2 (cu Ej (us 3 (c V8 (c ai aPZ))))))))) λa=>(pl (c (so (cl (gs a.2.1.1 nC) nil)) Og) nil)))
def aCM:=qs (st (pr (us 1 (c ai (c V8 (cu UB (us 2 (cu Ej (us 3 (c V8 (c ai aKb))))))))) (pl (c JD Og) nil)))
abbrev C9:=(aVJ×NI×NI×NI)
def ajp {ρ:Type}(x:C9)(K:AX->St->Option ρ):Option ρ:=(λd=>K (.ex 0) (aCM.em (d.1,(d.1.2.1.1,d.2.1),d.b))) x
def Tk (d:nH.B):PL nH C9:=let n2:=d.1.2.2;let n3:=n2.2.2;let n1:=(d.1.1,d.1.2.1,n2.1,n2.2.1,wI (n3+1));let y0:=wI (d.1.1+n3);let y1:=wt y0;let y2:=decide (n3<n2.2.1);ae y2 (ae (aX n3 n2.1.1) (ae (decide (y0>=0)) (ae (decide (y0<24)) (ae (aX y0 24) (ae (true&&wl (0+y1*1+1) 24) (ret (ws (n1,d.2.1,λj=>bif ww j y1 then d.2.1 (wt n3) else d.2.2.1 j,d.2.2.2))) no) no) (ret (ws (n1,d.2)))) (ret (ws (n1,d.2)))) no) (ret (wr ((d.1.1,d.1.2.1,n2.1,n2.2.1,n3,y2),d.2)))
def Tl:=bC (Tk) 2000
def acL (ew:LT nH C9)(x0:Nat->Int)(x1:Int)(x2:Nat)(x3:Nat->Int)(w0:Bool):Pg acK:=ae (ww x2 x2) (opt (ew ((x1,(x2,w0),(x2,w0),wn x2,0),x3,x0,λx=>0)) λd=>ret d.2.2.1) no
def gC:=λx0 x1 x2 x3 w0=>(acL Tl x0 x1 x2 x3 w0).val
abbrev QF:=(LT nH C9)
def acM (p:QF):KK:=⟨[],⟨[⟨2,(0::4::5::7::8::9::rg 13 10 (rg 25 6 [23,24])),[]⟩],[fV 2 1 nH ajp p],[],[],(some ⟨0,(rg 0 6 (rg 7 24 [])),[]⟩)⟩,1,32⟩
theorem ayX (p:QF):LI (acM p) 2 nH ajp (Tk):=λ_ d c K=>by kernel_rfl
theorem aHI (p:QF):D2 (acM p) ars (lf Xc) λb=>acL p b.1.1 b.1.2.1 b.1.b.1 b.2 b.1.b.2:=λb=>by kernel_rfl
abbrev acN:QF:=Tl
theorem Ir [ax]:SC (DG gC):=sc (Sound.nil 2 [.i .i64]<|kS (k:=acM acN) (.nil _) [2] [] ⟨kL (ayX acN),trivial⟩ trivial (aHI acN))
end Go.Proofs.YtldgljclcgaibaaGreat
