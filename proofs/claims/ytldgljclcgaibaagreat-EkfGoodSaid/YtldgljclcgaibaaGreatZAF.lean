/-
  Parts of the proof: SLC SLD SLE SLF SLH Q1
-/
import Derived.Test.YtldgljclcgaibaaGreatZAE
open Nat renaming beq→z9,ble→wr,blt→wl
open Int renaming toNat→z4,ofNat→ws,fdiv→v9,tdiv→t8
open Sum renaming inl→ww,inr→wt,elim→t9
open BitVec renaming ofInt→wn,toNat→wd
open List renaming append→ul,range→to
set_option linter.unusedVariables false
set_option linter.unusedSimpArgs false
namespace Go.Ab
def fx (l:List (Nat->Int)):List c7:=l.map (c7.i .i64)
def Lb (i:Nat)(g v:Nat->Int):Nat->Int:=λj=>cond (wl j i) (g j) (cond (z9 j i) (v 0) (g (j-1)))
def RD (i d:Nat)(g:Nat->Int):Nat->Int:=λj=>cond (wl j i) (g j) (g (j+d))
theorem BN {l:List (Nat->Int)}(h:l.length=9)(J:Nat):∃g,l[J%9]? =some g/\ja (fx l) J=.f (.i .i64 (g (J/9))):=by
 have nL:J%9<l.length:=by rw[h];exact Nat.mod_lt _ (by omega)
 refine⟨l[J%9],kR nL,?_⟩;unfold ja fx;rw[agt,h,Ca,kR nL];rfl
theorem aT2 {l m:List (Nat->Int)}(hl:l.length=9)(hm:m.length=9)(i J:Nat):
  ja (fx (List.zipWith (Lb i) l m)) J=if J<i*9 then ja (fx l) J else if J<(i+1)*9 then ja (fx m) (J-i*9) else ja (fx l) (J-9):=by
 obtain⟨g,hg,eg⟩:=BN hl J;obtain⟨v,hv,_⟩:=BN hm J;obtain⟨z,hz,ez⟩:=BN (l:=List.zipWith (Lb i) l m) (by simp[hl,hm]) J;have hz2:(List.zipWith (Lb i) l m)[J%9]? =some (Lb i g v):=by simp[List.getElem?_zipWith,hg,hv]
 rw[hz2] at hz;cases hz;rw[ez];by_cases h1:J<i*9
 .rw[if_pos h1,eg];have:wl (J/9) i=true:=uX.2 (by omega);simp only[Lb,this,bB]
 .rw[if_neg h1];have e1:wl (J/9) i=false:=agE (by omega);by_cases h2:J<(i+1)*9
  .rw[if_pos h2];have e2:z9 (J/9) i=true:=beq_iff.2 (by omega);obtain⟨v',hv',ev⟩:=BN hm (J-i*9);have e3:(J-i*9)%9=J%9:=by omega
   have e4:(J-i*9)/9=0:=by omega
   rw[e3,hv] at hv';cases hv';rw[ev,e4];simp only[Lb,e1,e2,bB,bI]
  .rw[if_neg h2];have e2:z9 (J/9) i=false:=beq_false (by omega);obtain⟨g',hg',ev⟩:=BN hl (J-9);have e3:(J-9)%9=J%9:=by omega
   have e4:(J-9)/9=J/9-1:=by omega
   rw[e3,hg] at hg';cases hg';rw[ev,e4];simp only[Lb,e1,e2,bI]
theorem aJq {l:List (Nat->Int)}(hl:l.length=9)(i d J:Nat):
  ja (fx (l.map (RD i d))) J=if J<i*9 then ja (fx l) J else ja (fx l) (J+d*9):=by
 obtain⟨g,hg,eg⟩:=BN hl J;obtain⟨z,hz,ez⟩:=BN (l:=l.map (RD i d)) (by simp[hl]) J;have hz2:(l.map (RD i d))[J%9]? =some (RD i d g):=by simp[hg]
 rw[hz2] at hz;cases hz;rw[ez];by_cases h1:J<i*9
 .rw[if_pos h1,eg];have:wl (J/9) i=true:=uX.2 (by omega);simp only[RD,this,bB]
 .rw[if_neg h1];have e1:wl (J/9) i=false:=agE (by omega);obtain⟨g',hg',ev⟩:=BN hl (J+d*9);have e3:(J+d*9)%9=J%9:=by omega
  have e4:(J+d*9)/9=J/9+d:=by omega
  rw[e3,hg] at hg';cases hg';rw[ev,e4];simp only[RD,e1,bI]
theorem RF {l:List (Nat->Int)}(h:l.length=9)(n:Nat):aj.size [.a (.s n) (fx l)]=n*9:=by
 rw[aj.size_cons,aj.lG,Sg.lJ,ku];show n*(fx l).length=n*9;unfold fx;rw[agt,h]
theorem atB {l:List (Nat->Int)}(h:l.length=9){n j:Nat}(hj:j<n*9):aj.get [.a (.s n) (fx l)] j=ja (fx l) j:=by
 rw[aj.dR (by rw[Sg.lJ];unfold fx;rw[agt,h];exact hj),Sg.pC]
theorem aNH [ay]{π:Pi}{w:World}{B s N:Nat}{c:Nat->CV}(h:∀j,j<N->∃v,cl w B (s+j)=some v/\(c j).rel π v):
  ∃cs:List Value,cs.length=N/\(∀j v,cs[j]? =some v->w.cell? ⟨B,s+j,none⟩=some v/\(c j).rel π v)/\∀v∈cs,v.oneCell'=true:=by
 have key:∀j v,((to N).map λj=>(cl w B (s+j)).getD undef)[j]? =some v->w.cell? ⟨B,s+j,none⟩=some v/\(c j).rel π v:=λj v hv=>by
  have hj:j<N:=by
   have:=(lL.1 hv).1;simpa using this
  obtain⟨u,hu,hr⟩:=h j hj;simp[hj,hu] at hv
  subst hv;exact⟨hu,hr⟩
 refine⟨(to N).map λj=>(cl w B (s+j)).getD undef,by simp,key,λv hv=> ?_⟩;obtain⟨i,hi⟩:=ayf.1 hv;exact CV.Rz (key i v hi).2
theorem aJr {w:World}{B i:Nat}{v:Value}(h:w.cell? ⟨B,i,none⟩=some v):∃t k,w.shape? B=some (t,k)/\k≠0:=by
 unfold World.cell? at h;simp only at h;cases hh:w.heap[B]? with
 |none=>rw[hh] at h;cases h
 |some x=>
  rw[hh] at h;cases x<;>simp only at h<;>first|(cases h;done)|skip
  rename_i cs t fz
  have:=(Array.getElem?_eq_some_iff.1 h).1;refine⟨t,cs.size,?_,by omega⟩;simp[World.shape?,hh]
variable [ay]
theorem aaH {P:Program}{π:Pi}{w W:World}{h:List aj}{cs:List Ch}{out:List (Nat->Int)}{n cap B st q e b0:Nat}(ho:out.length=9)(hH:sU π (hC (h.map some)) (hZ (h.map some)) w)(kr:∀b,π b≠none->b<h.length)
  (Kn:∀b,b<h.length->cs[b]? =some .mB∨cs[b]? =some .kill)(RB:b0<h.length)(hk0:cs[b0]? =some .kill)(hp:π b0=some (B,st,q,e))(hfr:cq w (Ds π h.length (Tn cs)) W)
  (qy:∀i,st<=i->i<e->(cl W B i).isSome=true/\fz W B i=false)(ham:A4 W)(hc:∀J,J<n*9->∃v,cl W B (st+J)=some v/\(ja (fx out) J).rel π v)(hn:n<=cap)(hce:st+cap*9<=e):
  aJm P π w h ⟨.r (.c (.sl h.length (.k 0) (.s n) 9 true)),cs,[[.a (.s n) (fx out)]]⟩ (.returned (.slice (some ⟨B,st,none⟩) n cap)) W:=by
 have yQ:=RF ho n;have N5:hZ (h.map some) b0≠none:=by rw[QD,kR RB];simp
 have mC:n*9<=cap*9:=wK _ hn;refine ayI (P:=P) (B:=B) (s:=st) (e:=e) hH kr Kn hfr (by rw[yQ];omega) qy (λj hj=> ?_) (.inr ⟨b0,st,q,e,RB,hk0,hp,cZ _,cZ _⟩) ham (λBK=>hH.lb b0 B st q e N5 hp BK) λπ' hx vm=> ?_
 .rw[yQ] at hj;rw[atB ho hj];exact hc j hj
 .rw[yQ] at vm;exact⟨B,st,n*9,e,vm,by simp[cE.val,Sz.val],λ_=>by simp[cE.val,Sz.val],.inr ⟨cap,hn,rfl,λ_=>by simpa[cE.val] using hce⟩⟩
theorem alN {P:Program}{π:Pi}{w W:World}{h:List aj}{cs:List Ch}{out:List (Nat->Int)}{n cap B:Nat}(ho:out.length=9)(hH:sU π (hC (h.map some)) (hZ (h.map some)) w)(kr:∀b,π b≠none->b<h.length)
  (Kn:∀b,b<h.length->cs[b]? =some .mB∨cs[b]? =some .kill)(hB:w.heap.size<=B)(hfr:cq w (Ds π h.length (Tn cs)) W)
  (qy:∀i,i<cap*9->(cl W B i).isSome=true/\fz W B i=false)(ham:A4 W)(hc:∀J,J<n*9->∃v,cl W B J=some v/\(ja (fx out) J).rel π v)(hn:n<=cap):
  aJm P π w h ⟨.r (.c (.sl h.length (.k 0) (.s n) 9 true)),cs,[[.a (.s n) (fx out)]]⟩ (.returned (.slice (some ⟨B,0,none⟩) n cap)) W:=by
 have yQ:=RF ho n;have mC:n*9<=cap*9:=wK _ hn;refine ayI (P:=P) (B:=B) (s:=0) (e:=cap*9) hH kr Kn hfr (by rw[yQ];omega) (λi _ hi=>qy i hi) (λj hj=> ?_) (.inl hB) ham (λBK=>dL hH.am.sz hB) λπ' hx vm=> ?_
 .rw[yQ] at hj;rw[atB ho hj,dG];exact hc j hj
 .rw[yQ] at vm;exact⟨B,0,n*9,cap*9,vm,by simp[cE.val,Sz.val],λ_=>by simp[cE.val,Sz.val],.inr ⟨cap,hn,rfl,λ_=>by simp[cE.val]⟩⟩
theorem alO {P:Program}{π:Pi}{w W:World}{h:List aj}{cs:List Ch}{out:List (Nat->Int)}{a:Option Addr}(ho:out.length=9)(hH:sU π (hC (h.map some)) (hZ (h.map some)) w)(kr:∀b,π b≠none->b<h.length)
  (Kn:∀b,b<h.length->cs[b]? =some .mB∨cs[b]? =some .kill)(hfr:cq w (Ds π h.length (Tn cs)) W)(ham:A4 W):
  aJm P π w h ⟨.r (.c (.sl h.length (.k 0) (.s 0) 9 true)),cs,[[.a (.s 0) (fx out)]]⟩ (.returned (.slice a 0 0)) W:=by
 have yQ:=RF ho 0;refine ayI (P:=P) (B:=w.heap.size) (s:=0) (e:=0) hH kr Kn hfr (by rw[yQ];omega) (λi _ hi=>by omega) (λj hj=>by rw[yQ] at hj;omega) (.inl (cZ _)) ham (λBK=>by omega) λπ' hx vm=> ?_;rw[yQ] at vm;exact⟨w.heap.size,0,0*9,0,vm,by simp[cE.val,Sz.val],λ_=>by simp[cE.val,Sz.val],.inl ⟨rfl,a,rfl⟩⟩
theorem aDZ {π:Pi}{w:World}{h:List aj}{l:List (Nat->Int)}{n b B st q e:Nat}(hl:l.length=9)(hH:sU π (hC (h.map some)) (hZ (h.map some)) w)(hb:h[b]? =some [.a (.s n) (fx l)])(hp:π b=some (B,st,q,e)):
  q=n*9/\st+n*9<=e/\(∀i,st<=i->i<e->(cl w B i).isSome=true/\fz w B i=false)/\∃cs:List Value,cs.length=n*9/\(∀j v,cs[j]? =some v->w.cell? ⟨B,st+j,none⟩=some v/\(ja (fx l) j).rel π v)/\∀v∈cs,v.oneCell'=true:=by
 have hz:hZ (h.map some) b=some (n*9):=by rw[QD,hb];exact cW some (RF hl n)
 obtain⟨B',s',e',fu,BK,k1,k2⟩:=hH.hp b _ hz;rw[hp] at fu;cases fu;refine⟨rfl,BK,k1,aNH λj hj=> ?_⟩;obtain⟨v,hv,hr⟩:=k2 j hj;rw[aDW hb (by rw[RF hl];exact hj),atB hl hj] at hr;exact⟨v,hv,hr⟩
end Go.Ab
namespace Go.Proofs.YtldgljclcgaibaaGreat
open Go.RowKit Go.Lib Go.Ab
variable [ay]
omit [ay] in
theorem atC {P:Program}(w:World)(tS tR e:TypeId)(ht:P.underlying tS=some (.slice e))(size:Nat)(hz:∀w,(Go.sizeOf e).run P w=.ok size w)(B oa ob la ca lb cb:Nat)(hd:oa+la*size<=ob∨ob+lb*size<=oa):
  (Extern.SlicesOverlaps.overlaps #[tS,tS] #[tR] #[.slice (some ⟨B,oa,none⟩) la ca,.slice (some ⟨B,ob,none⟩) lb cb]).run P w=.ok (.bool false) w:=by
 change Sem.run P (α:=Value) (do
  let some t:=(#[tS,tS]:Array TypeId)[0]? |stuck "slices.overlaps: no parameter types"
  let .slice elem<-underlying t|stuck "slices.overlaps: slice type expected"
  let size<-sizeOf elem
  match(some ⟨B,oa,none⟩:Option Addr),(some ⟨B,ob,none⟩:Option Addr) with
  |some a,some b=>
   if la=0∨lb=0∨size=0 then pure (Value.bool false)
   else if a.block !=b.block&&(<-frozen a)&&(<-frozen b) then unsupported .addressObserved
   else do
    if a.block !=b.block then do
     noView a;noView b
     if<-mayBeOne a b then return Value.bool ((<-choose (.extern "sameAddr.stringBytes" 2))==1)
    pure (Value.bool (a.block==b.block&&a.off<b.off+lb*size&&b.off<a.off+la*size))
  |_,_=>pure (Value.bool false)) w=_
 by_cases h0:la=0∨lb=0∨size=0
 .simp[run_underlying ht,hz,h0]
 .simp[run_underlying ht,hz,h0,frozen,Sem.run]
  omega
omit [ay] in
theorem aK2 {w:World}{vb Du vc b o lb cb:Nat}(hd:vb=b->Du+9<=o∨o+lb*9<=Du){va vb2:Value}(ha:w.cell? ⟨vb,Du,none⟩=some va)(hb:w.cell? ⟨b,o,none⟩=some vb2)(hfa:∀i,w.frozen? ⟨vb,i,none⟩=false):
  (callFunc 145 #[.slice (some ⟨vb,Du,none⟩) 1 vc,.slice (some ⟨b,o,none⟩) lb cb]).run Tryz.prog w=.ok (.value (.bool false)) w:=by
 rw[run_callFunc_extern Tryz.func145 (by kernel_rfl) (by kernel_rfl) (by kernel_rfl) (e:=Extern.SlicesOverlaps.overlaps #[140,140] #[4]) (by kernel_rfl)];obtain⟨tA,kA,sA,_⟩:=aJr ha;obtain⟨tB,kB,sB,nB⟩:=aJr hb;by_cases mC:vb=b
 .subst mC;have h2:=hd rfl;rw[atC w 140 4 42 uT 9 (λw=>Ab.run_sizeOf uE w) vb Du o 1 vc lb cb (by omega)];rfl
 .rw[Lib.run_overlaps_apart w 140 4 42 uT 9 (λw=>Ab.run_sizeOf uE w) ⟨vb,Du,none⟩ ⟨b,o,none⟩ 1 vc lb cb mC tA tB kA kB sA sB nB (hfa Du) (hfa kA)];rfl
end Go.Proofs.YtldgljclcgaibaaGreat
set_option maxRecDepth 100000
set_option maxHeartbeats 4000000
namespace Go.Proofs.YtldgljclcgaibaaGreat
open Go.RowKit Go.Lib Go.Ab
theorem aHv [ay]{gs vs9:List (Nat->Int)}(hg:gs.length=9)(hv9:vs9.length=9)(n i:Nat)(hi:i<=n)(aAg:(n+1)*72<=140737488355328)(w2:Bool)(w:World)(π:Pi)(vs:Array Value)
  (lF:bu (AV.rel π) [.r (.c (.sl 0 (.k 0) (.s n) 9 true)),.r (.c (.f (.i .i64 (i:Int)))),.r (.c (.sl 1 (.k 0) (.s 1) 9 w2))] vs.toList)
  (hH:sU π (hC ([[.a (.s n) (fx gs)],[.a (.s 1) (fx vs9)]].map some)) (hZ ([[.a (.s n) (fx gs)],[.a (.s 1) (fx vs9)]].map some)) w)(kr:∀b,π b≠none->b<2):
  Calls Tryz.prog 97 vs w (tY π w [[.a (.s n) (fx gs)],[.a (.s 1) (fx vs9)]] ⟨.r (.c (.sl 2 (.k 0) (.s (n+1)) 9 true)),[.kill,.mB],[[.a (.s (n+1)) (fx (List.zipWith (Lb i) gs vs9))]]⟩):=by
 obtain⟨y1,y2,y3,hvt,r1,r2,r3⟩:∃y1 y2 y3,vs.toList=[y1,y2,y3]/\(AV.r (.c (.sl 0 (.k 0) (.s n) 9 true))).rel π y1/\(AV.r (.c (.f (.i .i64 (i:Int))))).rel π y2/\(AV.r (.c (.sl 1 (.k 0) (.s 1) 9 w2))).rel π y3:=by
  match hl:vs.toList,lF with
  | [y1,y2,y3],⟨a,b,c,_⟩=>exact⟨y1,y2,y3,rfl,a,b,c⟩
  | [],h=>exact h.elim
  | [_],⟨_,h⟩=>exact h.elim
  | [_,_],⟨_,_,h⟩=>exact h.elim
  |_::_::_::_::_,⟨_,_,_,h⟩=>exact h.elim
 have hvt:vs=#[y1,y2,y3]:=by rw[<-ali];exact hvt
 subst hvt;have r2:y2=.int .i64 (i:Int):=r2;subst r2;obtain⟨B,st,q,e,hb,_,_,hx⟩:=r1;obtain⟨vB,vst,vq,ve,hvb,_,_,hvx⟩:=r3;obtain⟨rfl,hle,qy,cs,Er,Kn,h1c⟩:=aDZ (b:=0) hg hH rfl hb;obtain⟨rfl,a5Y,a15,vl,hvl,hvs,h1v⟩:=aDZ (b:=1) hv9 hH rfl hvb
 obtain⟨aaI,a4U,rfl,_⟩:∃aaI,1<=aaI/\y3=.slice (some ⟨vB,vst,none⟩) 1 aaI/\True:=by
  rcases hvx with⟨h,_⟩| ⟨aaI,h1,h2,_⟩
  .cases h
  .exact⟨aaI,h1,h2,trivial⟩
 have N5:hZ ([[.a (.s n) (fx gs)],[.a (.s 1) (fx vs9)]].map some) 0≠none:=by simp[hZ]
 have hz1:hZ ([[.a (.s n) (fx gs)],[.a (.s 1) (fx vs9)]].map some) 1≠none:=by simp[hZ]
 have hfv:∀i,w.frozen? ⟨vB,i,none⟩=false:=λi=>hH.am.fr vB i (hH.lb 1 vB vst _ ve hz1 hvb (by omega))
 have ho:(List.zipWith (Lb i) gs vs9).length=9:=by simp[hg,hv9]
 have ai3:∀b,b< [[Sg.a (.s n) (fx gs)],[.a (.s 1) (fx vs9)]].length->[Ch.kill,Ch.mB][b]? =some .mB∨[Ch.kill,Ch.mB][b]? =some .kill:=λb hb=>by
  match b,hb with
  |0,_=>exact .inr rfl
  |1,_=>exact .inl rfl
  |b+2,h=>exact absurd h (by simp)
 have hft:∀i,st<=i->i<e->Ds π 2 (Tn [.kill,.mB]) B i:=λi h1 h2=>⟨0,st,_,e,by omega,by simp[Tn],hb,h1,h2⟩
 have cont:∀(W:World) (B' s':Nat),(∀j v,j<i*9->cs[j]? =some v->cl W B' (s'+j)=some v)->(∀j v,vl[j]? =some v->cl W B' (s'+i*9+j)=some v)->(∀j v,i*9<=j->cs[j]? =some v->cl W B' (s'+(j+9))=some v)->
   ∀J,J<(n+1)*9->∃v,cl W B' (s'+J)=some v/\(ja (fx (List.zipWith (Lb i) gs vs9)) J).rel π v:=λW B' s' c1 c2 c3 J hJ=>by
  rw[aT2 hg hv9];by_cases h1:J<i*9
  .rw[if_pos h1];have hj:cs[J]? =some (cs[J]'(by omega)):=kR _;exact⟨_,c1 J _ h1 hj,(Kn J _ hj).2⟩
  .rw[if_neg h1];by_cases h2:J<(i+1)*9
   .rw[if_pos h2];have hj:vl[J-i*9]? =some (vl[J-i*9]'(by omega)):=kR _;have:=c2 _ _ hj;rw[show s'+i*9+(J-i*9)=s'+J by omega] at this;exact⟨_,this,(hvs _ _ hj).2⟩
   .rw[if_neg h2];have hj:cs[J-9]? =some (cs[J-9]'(by omega)):=kR _;have:=c3 _ _ (by omega) hj;rw[show s'+(J-9+9)=s'+J by omega] at this;exact⟨_,this,(Kn _ _ hj).2⟩
 have hE:=iE;obtain⟨i0,z0,hi0,hzz,a3H,aYk,a3I⟩:=hE;have aYl:(Tryz.prog.info? 42).map (·.bytes)=some 72:=by rw[hi0];exact cW some aYk
 obtain⟨zv,hzv,aYm⟩:∃zv,AW Tryz.prog 42=some zv/\aj.size zv.bU=9:=by
  have h:(AW Tryz.prog 42).map (λz=>aj.size z.bU)=some 9:=by kernel_rfl
  cases hz:AW Tryz.prog 42 with
  |none=>rw[hz] at h;cases h
  |some z=>rw[hz] at h;exact⟨z,rfl,by simpa using h⟩
 have atw:∀(base:Option Addr) (cap:Nat) (HG:List Value),i=n->HG=cs->cap<n+1->n<=cap->((base=none/\n=0/\cap=0)∨∃b,base=some b/\∀j v,HG[j]? =some v->w.cell? (b.add j)=some v)->
   y1=.slice base n cap->Calls Tryz.prog 97 #[y1,.int .i64 (i:Int),.slice (some ⟨vB,vst,none⟩) 1 aaI] w (tY π w [[.a (.s n) (fx gs)],[.a (.s 1) (fx vs9)]] ⟨.r (.c (.sl 2 (.k 0) (.s (n+1)) 9 true)),[.kill,.mB],[[.a (.s (n+1)) (fx (List.zipWith (Lb i) gs vs9))]]⟩):=by
  intro base cap HG hin holds r8 a4V hs hy;subst hin holds
  obtain⟨gc,arr,nW,hgc,yQ,rest,agS⟩:∃gc arr,(∀ty,(Builtin.append_ #[140,140] ty #[.slice base i cap,.slice (some ⟨vB,vst,none⟩) 1 aaI]).run Tryz.prog w=.ok (.slice (some ⟨w.heap.size,0,none⟩) (i+1) gc) (w.drew.alloc (.cells arr 42)))/\i+1<=gc/\arr.size=gc*9/\∃rest,arr.toList=HG++vl++rest:=by
   obtain⟨gc,arr,nW,h2,h3,h4⟩:=Jp (P:=Tryz.prog) (ty:=0) uT uE aYl hzv aYm (by omega) (sv:=.slice base i cap) (n:=i) (cap:=cap) (m:=1) (c:=aaI) (ad:=⟨vB,vst,none⟩) (HG:=HG) (news:=vl) w (by
    rcases hs with⟨rfl,h1,h2⟩| ⟨b,rfl,h3⟩
    .exact .inl ⟨by rw[h1,h2],h1,h2⟩
    .exact .inr ⟨b,rfl,h3⟩) Er (by rw[hvl]) (λj v hj=>by rw[Addr.add_lit];exact(hvs j v hj).1) r8 (by omega) aAg
   exact⟨gc,arr,λty=>by unfold Builtin.append_ at nW ⊢;exact nW,h2,h3,h4⟩
  have hC:=aNG base i cap vB vst aaI w _ _ nW;rw[hy];refine Calls.mono hC ?_;rintro ev W ⟨rfl,rfl⟩
  have aJs:∀j,cl (w.drew.alloc (.cells arr 42)) w.heap.size j=arr[j]? :=λj=>World.cell?_alloc_at (w:=w.drew) arr _ w.heap.size j rfl
  refine alN (P:=Tryz.prog) ho hH kr ai3 (cZ _) (((cq.refl w _).drew).alloc _ _) (λk hk=>⟨by rw[aJs,aiX (by omega)];rfl,World.frozen?_alloc_at (w:=w.drew) arr _ w.heap.size k rfl⟩) ((hH.am.same (w':=w.drew) rfl).alloc _ _) (λJ hJ=> ?_) hgc;have:=cont (w.drew.alloc (.cells arr 42)) w.heap.size 0 (λj v hj hv=>by rw[dG,aJs];exact(Wp agS).1 hv) (λj v hv=>by rw[dG,aJs,<-Er];exact(Wp agS).2 hv) (λj v hj hv=>by have:=(lL.1 hv).1;omega) J hJ;rwa [dG] at this
 rcases hx with⟨h0,a,rfl⟩| ⟨cap,r8,rfl,hce⟩
 ·
  have h0:n=0:=h0;subst h0;have a3J:i=0:=by omega
  subst a3J;cases a with
  |none=>exact atw none 0 cs rfl rfl (by omega) (by omega) (.inl ⟨rfl,rfl,rfl⟩) rfl
  |some b=>
   have a3K:cs=[]:=List.eq_nil_of_length_eq_zero (by omega);exact atw (some b) 0 cs rfl rfl (by omega) (by omega) (.inr ⟨b,rfl,λj v hj=>by rw[a3K] at hj;simp at hj⟩) rfl
 .have r8:n<=cap:=r8;have hce:st+cap*9<=e:=by have:=hce rfl;simpa[cE.val] using this
  show Calls Tryz.prog 97 #[.slice (some ⟨B,st,none⟩) n cap,.int .i64 (i:Int),.slice (some ⟨vB,vst,none⟩) 1 aaI] w _;by_cases Tl:n+1<=cap
  .have a4G:(n+1)*9<=cap*9:=wK _ Tl
   have aXO:vB=B->vst+9<=st∨st+(n+1)*9<=vst:=λh=>by
    subst h;rcases ni vst (st+(n+1)*9) with h1|h1
    .left
     rcases ni st (vst+9) with h2|h2
     .exfalso
      rcases ni st vst with h3|h3
      .exact hH.dj 0 1 _ st _ e vst _ ve (by omega) N5 hz1 hb hvb vst (by omega) (by omega) (cZ _) (by omega)
      .exact hH.dj 0 1 _ st _ e vst _ ve (by omega) N5 hz1 hb hvb st (cZ _) (by omega) h3 (by omega)
     .omega
    .exact .inr h1
   by_cases hin:i=n
   ·
    subst hin;have hC:=aNG (some ⟨B,st,none⟩) i cap vB vst aaI w _ _ (λty=>L9 (P:=Tryz.prog) (ty:=ty) uT uE (B:=B) (q:=st) (n:=i) (cap:=cap) (m:=1) (c:=aaI) (ad:=⟨vB,vst,none⟩) (news:=vl) Tl (by rw[hvl]) w (λj v hj=>by rw[Addr.add_lit];exact(hvs j v hj).1) h1v (λj hj=>qy _ (by omega) (by omega)));refine Calls.mono hC ?_;rintro ev W ⟨rfl,rfl⟩
    have a1e:∀j,j<vl.length->(cl w B (st+i*9+j)).isSome=true:=λj hj=>(qy _ (by omega) (by omega)).1
    refine aaH (P:=Tryz.prog) (q:=i*9) ho hH kr ai3 (by simp) rfl hb ((cq.refl w _).setCells (.inr λj hj=>hft _ (by omega) (by omega))) (λk k1 k2=>⟨Ab.isSome_setCells a1e (qy k k1 k2).1,by rw[pL];exact(qy k k1 k2).2⟩) (hH.am.setCells λ_=>hH.lb 0 B st _ e N5 hb (by omega)) (cont _ B st (λj v hj hv=> ?_) (λj v hv=> ?_) (λj v hj hv=>by have:=(lL.1 hv).1;omega)) Tl hce
    .rw[eK (λ_=>by omega)];exact(Kn j v hv).1
    .have hjl:=(lL.1 hv).1;rw[nM a1e hjl];rw[kR hjl] at hv;exact hv
   ·
    have hC:=aRa B st n cap i vB vst aaI cs vl w (by omega) Tl aXO Er hvl (by omega) (λj v hj=>(Kn j v hj).1) (λj hj=>(qy _ (by omega) (by omega)).1) (λj hj=>(qy _ (by omega) (by omega)).2) (λj v hj=>(hvs j v hj).1) h1c h1v
     (λcb=>by
      obtain⟨va,hva⟩:=Option.isSome_iff_exists.1 (a15 vst (cZ _) (by omega)).1;obtain⟨vb2,a3L⟩:=Option.isSome_iff_exists.1 (qy (st+(i+1)*9) (by omega) (by omega)).1;exact aK2 (λh=>by have:=aXO h;omega) hva a3L hfv)
    refine Calls.mono hC ?_;rintro ev W ⟨rfl,rfl⟩
    have hdl:(cs.drop (i*9)).length=(n-i)*9:=by rw[atg,Er];omega
    have i1:∀j,j<(cs.drop (i*9)).length->(cl w.drew B (st+(i+1)*9+j)).isSome=true:=λj hj=>(qy _ (by omega) (by omega)).1
    have i2:∀j,j<vl.length->(cl (w.drew.setCells B (st+(i+1)*9) (cs.drop (i*9))) B (st+i*9+j)).isSome=true:=λj hj=>Ab.isSome_setCells i1 (qy _ (by omega) (by omega)).1
    have hlb:=hH.lb 0 B st _ e N5 hb (by omega)
    refine aaH (P:=Tryz.prog) (q:=n*9) ho hH kr ai3 (by simp) rfl hb ((((cq.refl w _).drew).setCells (.inr λj hj=>hft _ (by omega) (by omega))).setCells (.inr λj hj=>hft _ (by omega) (by omega)))
     (λk k1 k2=>⟨Ab.isSome_setCells i2 (Ab.isSome_setCells i1 (qy k k1 k2).1),by rw[pL,pL];exact(qy k k1 k2).2⟩) (((hH.am.same (w':=w.drew) rfl).setCells λ_=>hlb).setCells λ_=>hlb) (cont _ B st (λj v hj hv=> ?_) (λj v hv=> ?_) (λj v hj hv=> ?_)) Tl hce
    .rw[eK (λ_=>by omega),eK (λ_=>by omega)];exact(Kn j v hv).1
    .have hjl:=(lL.1 hv).1;rw[nM i2 hjl];rw[kR hjl] at hv;exact hv
    .have hjl:=(lL.1 hv).1;rw[eK (λ_=>by omega)];have lM:j-i*9<(cs.drop (i*9)).length:=by omega
     have:=nM i1 lM;rw[show st+(i+1)*9+(j-i*9)=st+(j+9) by omega] at this;rw[this,<-kR,Te,show i*9+(j-i*9)=j by omega];exact hv
  .by_cases hin:i=n
   .exact atw (some ⟨B,st,none⟩) cap cs hin rfl (by omega) r8 (.inr ⟨_,rfl,λj v hj=>by rw[Addr.add_lit];exact(Kn j v hj).1⟩) rfl
   .obtain⟨G,Dv,hG,yQ,htk,hC⟩:=aT0 B st n cap i vB vst aaI cs vl w (by omega) r8 (by omega) aAg Er hvl (λj v hj=>(Kn j v hj).1) (λj v hj=>(hvs j v hj).1) h1c h1v;refine Calls.mono hC ?_;rintro ev W ⟨rfl,rfl⟩
    have hG9:(n+1)*9<=G*9:=wK _ hG;have hdl:(cs.drop (i*9)).length=(n-i)*9:=by rw[atg,Er];omega
    have c0:∀j,cl (w.alloc (.cells Dv 42)).drew w.heap.size j=Dv[j]? :=λj=>World.cell?_alloc_at (w:=w) Dv _ w.heap.size j rfl
    have s0:∀j,j<G*9->(cl (w.alloc (.cells Dv 42)).drew w.heap.size j).isSome=true:=λj hj=>by rw[c0,aiX (by omega)];rfl
    have i1:∀j,j<vl.length->(cl (w.alloc (.cells Dv 42)).drew w.heap.size (i*9+j)).isSome=true:=λj hj=>s0 _ (by omega)
    have i2:∀j,j<(cs.drop (i*9)).length->(cl ((w.alloc (.cells Dv 42)).drew.setCells w.heap.size (i*9) vl).drew w.heap.size ((i+1)*9+j)).isSome=true:=λj hj=>Ab.isSome_setCells i1 (s0 _ (by omega))
    have hlb:ay.h0<=w.heap.size:=hH.am.sz;have am1:A4 (w.alloc (.cells Dv 42)).drew:=(hH.am.alloc Dv 42).same (w':=(w.alloc (.cells Dv 42)).drew) rfl;have am2:A4 ((w.alloc (.cells Dv 42)).drew.setCells w.heap.size (i*9) vl).drew:=(am1.setCells λ_=>hlb).same (w':=((w.alloc (.cells Dv 42)).drew.setCells w.heap.size (i*9) vl).drew) rfl;have f1:cq w (Ds π 2 (Tn [.kill,.mB])) ((w.alloc (.cells Dv 42)).drew.setCells w.heap.size (i*9) vl).drew:=((((cq.refl w _).alloc Dv 42).drew).setCells (.inl (cZ _))).drew;refine alN (P:=Tryz.prog) ho hH kr ai3 (cZ _) (f1.setCells (.inl (cZ _))) (λk hk=>⟨Ab.isSome_setCells i2 (Ab.isSome_setCells i1 (s0 k hk)),?_⟩) (am2.setCells λ_=>hlb) (λJ hJ=> ?_) hG
    .rw[pL];exact(pL (w:=(w.alloc (.cells Dv 42)).drew)).trans (World.frozen?_alloc_at (w:=w) Dv _ w.heap.size k rfl)
    .have:=cont (((w.alloc (.cells Dv 42)).drew.setCells w.heap.size (i*9) vl).drew.setCells w.heap.size ((i+1)*9) (cs.drop (i*9))) w.heap.size 0 (λj v hj hv=> ?_) (λj v hv=> ?_) (λj v hj hv=> ?_) J hJ
     .rwa [dG] at this
     .rw[dG,eK (λ_=>by omega)];exact(eK (w:=(w.alloc (.cells Dv 42)).drew) (λ_=>by omega)).trans ((c0 j).trans (htk j v hj hv))
     .have hjl:=(lL.1 hv).1;rw[dG,eK (λ_=>by omega)];have:=nM i1 hjl;rw[kR hjl] at hv;exact this.trans hv
     .have hjl:=(lL.1 hv).1;have lM:j-i*9<(cs.drop (i*9)).length:=by omega
      have:=nM i2 lM;rw[show(i+1)*9+(j-i*9)=j+9 by omega] at this;rw[dG,this,<-kR,Te,show i*9+(j-i*9)=j by omega];exact hv
theorem zS [ay]:∃z,(∀w,(Go.zeroValue 42).run Tryz.prog w=.ok z w)/\z.cells.size=9/\∀v∈z.cells.toList,v.oneCell'=true:=by
 have h:(Tryz.prog.info? 42).map (λi=>i.zero.map λz=>(z.cells.size,z.cells.toList.all λv=>v.oneCell'))=some (some (9,true)):=by kernel_rfl
 obtain⟨zv,hzv⟩:∃zv,AW Tryz.prog 42=some zv:=by
  have h:(AW Tryz.prog 42).isSome=true:=by kernel_rfl
  exact Option.isSome_iff_exists.1 h
 cases hi:Tryz.prog.info? 42 with
 |none=>rw[hi] at h;cases h
 |some i=>
  rw[hi] at h;simp only[Tg,iI] at h;cases hz:i.zero with
  |none=>rw[hz] at h;cases h
  |some z=>
   rw[hz] at h;simp only[Tg,iI,rm] at h;refine⟨z,λw=> ?_,h.1,ath.1 h.2⟩;obtain⟨x,hx,⟨it,hi2,hz2⟩,_⟩:=aep hzv w;rw[hi] at hi2;cases hi2;rw[hz] at hz2;cases hz2;exact hx
theorem aYn [ay](w:World)(ty:TypeId)(b o n c:Nat)(hn:0<n)(hc:∀j,j<n*9->(w.cell? ⟨b,o+j,none⟩).isSome=true)(hf:∀j,j<n*9->w.frozen? ⟨b,o+j,none⟩=false):
  ∃zs:List Value,zs.length=n*9/\(Builtin.clear_ #[140] ty #[.slice (some ⟨b,o,none⟩) n c]).run Tryz.prog w=.ok (.tuple #[]) (w.setCells b o zs):=by
 obtain⟨z,hz,hs,h1⟩:=zS;have hl:(Builtin.zeroCells z.cells n).toList.length=n*9:=by rw[WC,size_zeroCells,hs]
 refine⟨(Builtin.zeroCells z.cells n).toList,hl,?_⟩
 have hst:=run_storeCells_cells (P:=Tryz.prog) b o (Builtin.zeroCells z.cells n).toList 0 w (by rw[hl];simpa using hc) (by rw[hl];simpa using hf) (by
  intro v hv;unfold Builtin.zeroCells at hv;rw[Array.toList_map] at hv;obtain⟨i,hi,rfl⟩:=List.mem_map.1 hv;have nL:i%z.cells.size<z.cells.size:=Nat.mod_lt _ (by omega);have e:z.cells[i%z.cells.size]! =z.cells[i%z.cells.size]:=getElem!_pos z.cells (i%z.cells.size) nL;rw[e];exact h1 _ (Array.getElem_mem_toList nL))
 simp only[ku] at hst;obtain⟨m,rfl⟩:∃m,n=m+1:=⟨n-1,by omega⟩;simp[Builtin.clear_,run_underlying uT,hz,hst]
theorem aHw [ay]{gs:List (Nat->Int)}(hg:gs.length=9)(n i j:Nat)(hij:i<=j)(hj:j<=n)(w:World)(π:Pi)(vs:Array Value)
  (lF:bu (AV.rel π) [.r (.c (.sl 0 (.k 0) (.s n) 9 true)),.r (.c (.f (.i .i64 (i:Int)))),.r (.c (.f (.i .i64 (j:Int))))] vs.toList)
  (hH:sU π (hC ([[.a (.s n) (fx gs)]].map some)) (hZ ([[.a (.s n) (fx gs)]].map some)) w)(kr:∀b,π b≠none->b<1):
  Calls Tryz.prog 98 vs w (tY π w [[.a (.s n) (fx gs)]] ⟨.r (.c (.sl 1 (.k 0) (.s (i+(n-j))) 9 true)),[.kill],[[.a (.s (i+(n-j))) (fx (gs.map (RD i (j-i))))]]⟩):=by
 obtain⟨y1,y2,y3,hvt,r1,r2,r3⟩:∃y1 y2 y3,vs.toList=[y1,y2,y3]/\(AV.r (.c (.sl 0 (.k 0) (.s n) 9 true))).rel π y1/\(AV.r (.c (.f (.i .i64 (i:Int))))).rel π y2/\(AV.r (.c (.f (.i .i64 (j:Int))))).rel π y3:=by
  match hl:vs.toList,lF with
  | [y1,y2,y3],⟨a,b,c,_⟩=>exact⟨y1,y2,y3,rfl,a,b,c⟩
  | [],h=>exact h.elim
  | [_],⟨_,h⟩=>exact h.elim
  | [_,_],⟨_,_,h⟩=>exact h.elim
  |_::_::_::_::_,⟨_,_,_,h⟩=>exact h.elim
 have hvt:vs=#[y1,y2,y3]:=by rw[<-ali];exact hvt
 subst hvt;have r2:y2=.int .i64 (i:Int):=r2;have r3:y3=.int .i64 (j:Int):=r3;subst r2 r3;obtain⟨B,st,q,e,hb,_,_,hx⟩:=r1;obtain⟨rfl,hle,qy,cs,Er,Kn,h1c⟩:=aDZ (b:=0) hg hH rfl hb;have N5:hZ ([[.a (.s n) (fx gs)]].map some) 0≠none:=by simp[hZ]
 have ho:(gs.map (RD i (j-i))).length=9:=by simp[hg]
 have ai3:∀b,b< [[Sg.a (.s n) (fx gs)]].length->[Ch.kill][b]? =some .mB∨[Ch.kill][b]? =some .kill:=λb hb=>by
  match b,hb with
  |0,_=>exact .inr rfl
  |b+1,h=>exact absurd h (by simp)
 have hft:∀i,st<=i->i<e->Ds π 1 (Tn [.kill]) B i:=λi h1 h2=>⟨0,st,_,e,by omega,by simp[Tn],hb,h1,h2⟩
 rcases hx with⟨h0,a,rfl⟩| ⟨cap,r8,rfl,hce⟩
 .have h0:n=0:=h0;subst h0;have hi0:i=0:=by omega
  have hj0:j=0:=by omega
  subst hi0 hj0;refine Calls.mono (aJp a 0 0 0 w (by omega) (by omega)) ?_;rintro ev W ⟨rfl,rfl⟩
  exact alO (P:=Tryz.prog) ho hH kr ai3 (cq.refl _ _) hH.am
 .have r8:n<=cap:=r8;have hce:st+cap*9<=e:=by have:=hce rfl;simpa[cE.val] using this
  have a4W:n*9<=cap*9:=wK _ r8;show Calls Tryz.prog 98 #[.slice (some ⟨B,st,none⟩) n cap,.int .i64 (i:Int),.int .i64 (j:Int)] w _;rcases Nat.eq_or_lt_of_le hij with a3M|nL
  .subst a3M;refine Calls.mono (aJp _ n cap i w hj r8) ?_;rintro ev W ⟨rfl,rfl⟩
   have hn:i+(n-i)=n:=by omega
   rw[hn];refine aaH (P:=Tryz.prog) (q:=n*9) ho hH kr ai3 (by simp) rfl hb (cq.refl _ _) qy hH.am (λJ hJ=> ?_) r8 hce;rw[aJq hg];have hjj:cs[J]? =some (cs[J]'(by omega)):=kR _;refine⟨_,(Kn _ _ hjj).1,?_⟩;have:=(Kn _ _ hjj).2;split
   .exact this
   .rw[Nat.sub_self,Th,ku];exact this
  .have hm9:(i+(n-j))*9<=n*9:=wK _ (by omega);have hdl:(cs.drop (j*9)).length=(n-j)*9:=by rw[atg,Er];omega
   have i1:∀k,k<(cs.drop (j*9)).length->(cl w.drew B (st+i*9+k)).isSome=true:=λk hk=>(qy _ (by omega) (by omega)).1
   obtain⟨w2,hw2⟩:∃w2,w2=w.drew.setCells B (st+i*9) (cs.drop (j*9)):=⟨_,rfl⟩
   have s2:∀k,st<=k->k<e->(cl w2 B k).isSome=true/\fz w2 B k=false:=λk k1 k2=>by
    rw[hw2];exact⟨Ab.isSome_setCells i1 (qy k k1 k2).1,by rw[pL];exact(qy k k1 k2).2⟩
   obtain⟨zs,hzl,a3N⟩:∃zs:List Value,zs.length=(n-(i+(n-j)))*9/\∀ty,(Builtin.clear_ #[140] ty #[.slice (some ⟨B,st+(i+(n-j))*9,none⟩) (n-(i+(n-j))) (cap-(i+(n-j)))]).run Tryz.prog w2=.ok (.tuple #[]) (w2.setCells B (st+(i+(n-j))*9) zs):=by
    obtain⟨zs,h1,h2⟩:=aYn w2 0 B (st+(i+(n-j))*9) (n-(i+(n-j))) (cap-(i+(n-j))) (by omega) (λk hk=>(s2 _ (by omega) (by omega)).1) (λk hk=>(s2 _ (by omega) (by omega)).2);exact⟨zs,h1,λty=>by unfold Builtin.clear_ at h2 ⊢;exact h2⟩
   have hC:=aT1 B st n cap i j w w2 (w2.setCells B (st+(i+(n-j))*9) zs) nL hj r8 (λty=>by
    rw[hw2]
    exact L9 (P:=Tryz.prog) (ty:=ty) uT uE (B:=B) (q:=st) (n:=i) (cap:=cap) (m:=n-j) (c:=cap-j) (news:=cs.drop (j*9)) (by omega) hdl w.drew (λk v hk=>by
     have hk2:=(lL.1 hk).1;rw[Te] at hk;have:=(Kn _ _ hk).1;split
     .omega
     .rw[Addr.add_lit,Cc];exact this) (λv hv=>h1c v (List.mem_of_mem_drop hv)) (λk hk=>qy _ (by omega) (by omega))) a3N
   refine Calls.mono hC ?_;rintro ev W ⟨rfl,rfl⟩
   have i2:∀k,k<zs.length->(cl w2 B (st+(i+(n-j))*9+k)).isSome=true:=λk hk=>(s2 _ (by omega) (by omega)).1
   have hlb:0<n->ay.h0<=B:=λ_=>hH.lb 0 B st _ e N5 hb (by omega)
   have am2:A4 w2:=by rw[hw2];exact(hH.am.same (w':=w.drew) rfl).setCells λ_=>hlb (by omega)
   have f2:cq w (Ds π 1 (Tn [.kill])) w2:=by rw[hw2];exact((cq.refl w _).drew).setCells (.inr λk hk=>hft _ (by omega) (by omega))
   refine aaH (P:=Tryz.prog) (q:=n*9) ho hH kr ai3 (by simp) rfl hb (f2.setCells (.inr λk hk=>hft _ (by omega) (by omega))) (λk k1 k2=>⟨Ab.isSome_setCells i2 (s2 k k1 k2).1,by rw[pL];exact(s2 k k1 k2).2⟩) (am2.setCells λ_=>hlb (by omega)) (λJ hJ=> ?_) (by omega) hce;rw[aJq hg,eK (λ_=>by omega),hw2];by_cases h1:J<i*9
   .rw[if_pos h1,eK (λ_=>by omega)];have hjj:cs[J]? =some (cs[J]'(by omega)):=kR _;exact⟨_,(Kn _ _ hjj).1,(Kn _ _ hjj).2⟩
   .rw[if_neg h1];have hJ2:J-i*9<(cs.drop (j*9)).length:=by omega
    have h3:=nM i1 hJ2;rw[show st+i*9+(J-i*9)=st+J by omega] at h3;refine⟨_,h3,?_⟩
    have hjj:cs[J+(j-i)*9]? =some ((cs.drop (j*9))[J-i*9]):=by
     rw[<-kR,Te];congr 1
     have:(j-i)*9=j*9-i*9:=by omega
     omega
    exact(Kn _ _ hjj).2
theorem aK3 [ay]{gs:List (Nat->Int)}(hg:gs.length=9)(n:Nat)(aAg:n*72<=140737488355328)(w0:Bool)(w:World)(π:Pi)(vs:Array Value)
  (lF:bu (AV.rel π) [.r (.c (.sl 0 (.k 0) (.s n) 9 w0))] vs.toList)
  (hH:sU π (hC ([[.a (.s n) (fx gs)]].map some)) (hZ ([[.a (.s n) (fx gs)]].map some)) w)(kr:∀b,π b≠none->b<1):
  Calls Tryz.prog 166 vs w (tY π w [[.a (.s n) (fx gs)]] ⟨.r (.c (.sl 1 (.k 0) (.s n) 9 true)),[.mB],[[.a (.s n) (fx gs)]]⟩):=by
 obtain⟨y1,hvt,r1⟩:∃y1,vs.toList=[y1]/\(AV.r (.c (.sl 0 (.k 0) (.s n) 9 w0))).rel π y1:=by
  match hl:vs.toList,lF with
  | [y1],⟨a,_⟩=>exact⟨y1,rfl,a⟩
  | [],h=>exact h.elim
  |_::_::_,⟨_,h⟩=>exact h.elim
 have hvt:vs=#[y1]:=by rw[<-ali];exact hvt
 subst hvt;obtain⟨B,st,q,e,hb,_,_,hx⟩:=r1;obtain⟨rfl,hle,qy,cs,Er,Kn,h1c⟩:=aDZ (b:=0) hg hH rfl hb
 have ai3:∀b,b< [[Sg.a (.s n) (fx gs)]].length->[Ch.mB][b]? =some .mB∨[Ch.mB][b]? =some .kill:=λb hb=>by
  match b,hb with
  |0,_=>exact .inl rfl
  |b+1,h=>exact absurd h (by simp)
 have hE:=iE;obtain⟨i0,z0,hi0,hzz,a3H,aYk,a3I⟩:=hE;have aYl:(Tryz.prog.info? 42).map (·.bytes)=some 72:=by rw[hi0];exact cW some aYk
 obtain⟨zv,hzv,aYm⟩:∃zv,AW Tryz.prog 42=some zv/\aj.size zv.bU=9:=by
  have h:(AW Tryz.prog 42).map (λz=>aj.size z.bU)=some 9:=by kernel_rfl
  cases hz:AW Tryz.prog 42 with
  |none=>rw[hz] at h;cases h
  |some z=>rw[hz] at h;exact⟨z,rfl,by simpa using h⟩
 obtain⟨w1,hw1⟩:∃w1,w1=w.alloc (.cells #[] 42):=⟨_,rfl⟩;have hs1:w1.heap.size=w.heap.size+1:=by rw[hw1];exact World.size_alloc ..
 have am1:A4 w1:=by rw[hw1];exact hH.am.alloc _ _
 have f1:cq w (Ds π 1 (Tn [.mB])) w1:=by rw[hw1];exact(cq.refl w _).alloc _ _
 have none_:n=0->∀(a:Addr) (c:Nat),Calls Tryz.prog 166 #[.slice (some a) 0 c] w (tY π w [[.a (.s n) (fx gs)]] ⟨.r (.c (.sl 1 (.k 0) (.s n) 9 true)),[.mB],[[.a (.s n) (fx gs)]]⟩):=λh0 a c=>by
  subst h0;refine Calls.mono (aAv a 0 c w _ _ λty=>L9 (P:=Tryz.prog) (ty:=ty) uT uE (B:=w.heap.size) (q:=0) (n:=0) (cap:=0) (m:=0) (c:=c) (ad:=a) (news:=[]) (by omega) rfl (w.alloc (.cells #[] 42)) (λj v hj=>by simp at hj) (λv hv=>by cases hv) (λj hj=>by simp at hj)) ?_;rintro ev W ⟨rfl,rfl⟩
  rw[<-hw1];exact alO (P:=Tryz.prog) hg hH kr ai3 f1 am1
 rcases hx with⟨h0,a,rfl⟩| ⟨cap,r8,rfl,hce⟩
 .have h0:n=0:=h0;cases a with
  |none=>
   subst h0;refine Calls.mono (aRb w) ?_;rintro ev W ⟨rfl,rfl⟩
   exact alO (P:=Tryz.prog) hg hH kr ai3 (cq.refl _ _) hH.am
  |some b=>exact none_ h0 b 0
 .show Calls Tryz.prog 166 #[.slice (some ⟨B,st,none⟩) n cap] w _;rcases WD n with h0|hn
  .subst h0;exact none_ rfl ⟨B,st,none⟩ cap
  .have hbw:B<w.heap.size:=ace (qy st (cZ _) (by omega)).1
   obtain⟨gc,arr,nW,hgc,yQ,rest,agS⟩:=Jp (P:=Tryz.prog) (ty:=0) uT uE aYl hzv aYm (by omega) (sv:=.slice (some ⟨w.heap.size,0,none⟩) 0 0) (n:=0) (cap:=0) (m:=n) (c:=cap) (ad:=⟨B,st,none⟩) (HG:=[]) (news:=cs) w1 (.inr ⟨_,rfl,λj v hj=>by simp at hj⟩) rfl Er (λj v hj=>by
    rw[Addr.add_lit,hw1];exact(World.cell?_alloc_past (w:=w) _ B _ hbw).trans (Kn j v hj).1) (by omega) hn (by omega)
   rw[dG] at nW hgc;have nW:∀ty,(Builtin.append_ #[140,140] ty #[.slice (some ⟨w.heap.size,0,none⟩) 0 0,.slice (some ⟨B,st,none⟩) n cap]).run Tryz.prog (w.alloc (.cells #[] 42))=.ok (.slice (some ⟨w1.heap.size,0,none⟩) n gc) (w1.drew.alloc (.cells arr 42)):=λty=>by rw[<-hw1];unfold Builtin.append_ at nW ⊢;exact nW
   refine Calls.mono (aAv ⟨B,st,none⟩ n cap w _ _ nW) ?_;rintro ev W ⟨rfl,rfl⟩
   have aJs:∀j,cl (w1.drew.alloc (.cells arr 42)) w1.heap.size j=arr[j]? :=λj=>World.cell?_alloc_at (w:=w1.drew) arr _ w1.heap.size j rfl
   refine alN (P:=Tryz.prog) hg hH kr ai3 (by omega) ((f1.drew).alloc _ _) (λk hk=>⟨by rw[aJs,aiX (by omega)];rfl,World.frozen?_alloc_at (w:=w1.drew) arr _ w1.heap.size k rfl⟩) ((am1.same (w':=w1.drew) rfl).alloc _ _) (λJ hJ=> ?_) hgc;have hjj:cs[J]? =some (cs[J]'(by omega)):=kR _;refine⟨_,?_,(Kn _ _ hjj).2⟩;rw[aJs];have:=(Wp agS).2 hjj;simpa using this
end Go.Proofs.YtldgljclcgaibaaGreat
noncomputable section
namespace Go.Proofs.YtldgljclcgaibaaGreat
open Go.Ab Go.Ab.Pg
theorem atD {α:Type}{c:Bool}{v d:α}(h:cond c (some v) none=some d):c=true/\v=d:=by
 cases c with
 |true=>exact⟨rfl,HX h⟩
 |false=>cases h
theorem ayK {β δ:Type}{Q:Rq (List AV×List aj) β}{R:δ->Go.Ab.T}{f:β->Option δ}{a:List AV}{h:List aj}{r:pD}(hr:(FC Q R f a h).eval=some r):
  ∃b d,(a,h)=Q.em b/\f b=some d/\(R d).eval=some r:=by
 unfold FC at hr;split at hr
 .rename_i b hb
  obtain⟨t,b⟩:=b;obtain⟨h1,Z3⟩:=alL hr;rw[atz] at Z3;obtain⟨d,e1,e2⟩:=Option.bind_eq_some_iff.1 Z3;exact⟨b,d,Q.ok _ _ _ hb h1,e1,e2⟩
 .cases hr
def sY:=(open Go.Ab.Rq in(dp (c (ac (slc 0 9)) (c ai (cl (ac (slc 1 9)) nil))) λa=>(c (cl (gs a.1.1 (c gI (c gI (c gI (c gI (c gI (c gI (c gI (c gI (cl gI nil)))))))))) nil) (cl (cl (gs a.2.2.1 (c gI (c gI (c gI (c gI (c gI (c gI (c gI (c gI (cl gI nil)))))))))) nil) nil))):Rq (List AV×List aj) _)
def r9:=(open Go.Ab.Rq in(res (pr (ac (zV 2 9)) (pu (cu Wu (cu fV nil)) (cl (cl (ga (pr (szs hole) (c gI (c gI (c gI (c gI (c gI (c gI (c gI (c gI (cl gI nil))))))))))) nil) nil)))):Rq (pD) _)
abbrev ib:=Nat×(Nat->Int)×(Nat->Int)×(Nat->Int)×(Nat->Int)×(Nat->Int)×(Nat->Int)×(Nat->Int)×(Nat->Int)×(Nat->Int)
def FE (d:ib):T:=(λd=>.leaf (r9.em (d.1,d))) d
abbrev sZ:=Nat->Int->(Nat->Int)->(Nat->Int)->(Nat->Int)->(Nat->Int)->(Nat->Int)->(Nat->Int)->(Nat->Int)->(Nat->Int)->(Nat->Int)->(Nat->Int)->(Nat->Int)->(Nat->Int)->(Nat->Int)->(Nat->Int)->(Nat->Int)->(Nat->Int)->(Nat->Int)->(Nat->Int)->Nat->Bool->Bool->Option ib
def te (g:sZ):Ct:=(97,vR 0 [.i .i64,.i .i64,.i .i64,.i .i64,.i .i64,.i .i64,.i .i64,.i .i64,.i .i64] (FC sY FE (λb=>g b.1.1.1 b.1.2.1 b.2.1.1 b.2.1.2.1 b.2.1.2.2.1 b.2.1.2.2.2.1 b.2.1.2.2.2.2.1 b.2.1.2.2.2.2.2.1 b.2.1.2.2.2.2.2.2.1 b.2.1.2.2.2.2.2.2.2.1 b.2.1.2.2.2.2.2.2.2.2 b.2.2.1 b.2.2.2.1 b.2.2.2.2.1 b.2.2.2.2.2.1 b.2.2.2.2.2.2.1 b.2.2.2.2.2.2.2.1 b.2.2.2.2.2.2.2.2.1 b.2.2.2.2.2.2.2.2.2.1 b.2.2.2.2.2.2.2.2.2.2 b.1.2.2.1 b.1.1.2 b.1.2.2.2)))
def eX (x0:Nat)(x1:Int)(x2 x3 x4 x5 x6 x7 x8 x9 fX fY A7 x13 x14 x15 x16 x17 x18 x19:Nat->Int)(x20:Nat)(w0 w1:Bool):Option ib:=
 bif z9 x20 1&&(w0&&(decide (0<=x1)&&(wr (z4 x1) x0&&wr ((x0+1)*72) 140737488355328))) then some (x0+1,Lb (z4 x1) x2 fY,Lb (z4 x1) x3 A7,Lb (z4 x1) x4 x13,Lb (z4 x1) x5 x14,Lb (z4 x1) x6 x15,Lb (z4 x1) x7 x16,Lb (z4 x1) x8 x17,Lb (z4 x1) x9 x18,Lb (z4 x1) fX x19) else none
theorem Fl:∀b,(sY).em b=([.r (.c (.sl 0 (.k 0) (.s b.1.1.1) 9 b.1.1.2)),.r (.c (.f (.i .i64 b.1.2.1))),.r (.c (.sl 1 (.k 0) (.s b.1.2.2.1) 9 b.1.2.2.2))],[[.a (.s b.1.1.1) [.i .i64 b.2.1.1,.i .i64 b.2.1.2.1,.i .i64 b.2.1.2.2.1,.i .i64 b.2.1.2.2.2.1,.i .i64 b.2.1.2.2.2.2.1,.i .i64 b.2.1.2.2.2.2.2.1,.i .i64 b.2.1.2.2.2.2.2.2.1,.i .i64 b.2.1.2.2.2.2.2.2.2.1,.i .i64 b.2.1.2.2.2.2.2.2.2.2]],[.a (.s b.1.2.2.1) [.i .i64 b.2.2.1,.i .i64 b.2.2.2.1,.i .i64 b.2.2.2.2.1,.i .i64 b.2.2.2.2.2.1,.i .i64 b.2.2.2.2.2.2.1,.i .i64 b.2.2.2.2.2.2.2.1,.i .i64 b.2.2.2.2.2.2.2.2.1,.i .i64 b.2.2.2.2.2.2.2.2.2.1,.i .i64 b.2.2.2.2.2.2.2.2.2.2]]]):=λb=>by kernel_rfl
theorem FF [ay]:Snd Tryz.prog (te eX):=Sound.nil 0 [.i .i64,.i .i64,.i .i64,.i .i64,.i .i64,.i .i64,.i .i64,.i .i64,.i .i64]<|λargs h r hr w π vs lF hH kr=>by
 obtain⟨b,d,e,hd,hq⟩:=ayK hr;rw[Fl] at e;obtain⟨hc,rfl⟩:=atD hd;simp only[cB,jW] at hc;obtain⟨h0,h1,h2,h3,h4⟩:=hc;rw[lE h0] at e;obtain⟨rfl,rfl⟩:=Prod.mk.inj e;rw[h1,show b.1.2.1=((z4 b.1.2.1:Nat):Int) by omega] at lF;have hr2:r9.em (_,_)=r:=HX hq;subst hr2;exact .inl ⟨ID (by kernel_rfl) _ _,aHv (gs:=[b.2.1.1,b.2.1.2.1,b.2.1.2.2.1,b.2.1.2.2.2.1,b.2.1.2.2.2.2.1,b.2.1.2.2.2.2.2.1,b.2.1.2.2.2.2.2.2.1,b.2.1.2.2.2.2.2.2.2.1,b.2.1.2.2.2.2.2.2.2.2]) (vs9:=[b.2.2.1,b.2.2.2.1,b.2.2.2.2.1,b.2.2.2.2.2.1,b.2.2.2.2.2.2.1,b.2.2.2.2.2.2.2.1,b.2.2.2.2.2.2.2.2.1,b.2.2.2.2.2.2.2.2.2.1,b.2.2.2.2.2.2.2.2.2.2]) rfl rfl _ _ (WA h3) (WA h4) _ w π vs lF hH λb hb=>kr b hb⟩
def tf:=(open Go.Ab.Rq in(dp (c (ac (slc 0 9)) (c ai (cl ai nil))) λa=>(cl (cl (gs a.1.1 (c gI (c gI (c gI (c gI (c gI (c gI (c gI (c gI (cl gI nil)))))))))) nil) nil)):Rq (List AV×List aj) _)
def sd:=(open Go.Ab.Rq in(res (pr (ac (zV 1 9)) (pu (cu Wu nil) (cl (cl (ga (pr (szs hole) (c gI (c gI (c gI (c gI (c gI (c gI (c gI (c gI (cl gI nil))))))))))) nil) nil)))):Rq (pD) _)
abbrev ig:=Nat×(Nat->Int)×(Nat->Int)×(Nat->Int)×(Nat->Int)×(Nat->Int)×(Nat->Int)×(Nat->Int)×(Nat->Int)×(Nat->Int)
def FG (d:ig):T:=(λd=>.leaf (sd.em (d.1,d))) d
abbrev ij:=Nat->Int->Int->(Nat->Int)->(Nat->Int)->(Nat->Int)->(Nat->Int)->(Nat->Int)->(Nat->Int)->(Nat->Int)->(Nat->Int)->(Nat->Int)->Bool->Option ig
def lO (g:ij):Ct:=(98,vR 0 [.i .i64,.i .i64,.i .i64,.i .i64,.i .i64,.i .i64,.i .i64,.i .i64,.i .i64] (FC tf FG (λb=>g b.1.1.1 b.1.2.1 b.1.2.2 b.2.1 b.2.2.1 b.2.2.2.1 b.2.2.2.2.1 b.2.2.2.2.2.1 b.2.2.2.2.2.2.1 b.2.2.2.2.2.2.2.1 b.2.2.2.2.2.2.2.2.1 b.2.2.2.2.2.2.2.2.2 b.1.1.2)))
def c8 (x0:Nat)(x1 x2:Int)(x3 x4 x5 x6 x7 x8 x9 fX fY:Nat->Int)(w0:Bool):Option ig:=
 bif w0&&(decide (0<=x1)&&(wr (z4 x1) (z4 x2)&&(decide (0<=x2)&&wr (z4 x2) x0))) then some (z4 x1+(x0-z4 x2),RD (z4 x1) (z4 x2-z4 x1) x3,RD (z4 x1) (z4 x2-z4 x1) x4,RD (z4 x1) (z4 x2-z4 x1) x5,RD (z4 x1) (z4 x2-z4 x1) x6,RD (z4 x1) (z4 x2-z4 x1) x7,RD (z4 x1) (z4 x2-z4 x1) x8,RD (z4 x1) (z4 x2-z4 x1) x9,RD (z4 x1) (z4 x2-z4 x1) fX,RD (z4 x1) (z4 x2-z4 x1) fY) else none
theorem Fo:∀b,(tf).em b=([.r (.c (.sl 0 (.k 0) (.s b.1.1.1) 9 b.1.1.2)),.r (.c (.f (.i .i64 b.1.2.1))),.r (.c (.f (.i .i64 b.1.2.2)))],[[.a (.s b.1.1.1) [.i .i64 b.2.1,.i .i64 b.2.2.1,.i .i64 b.2.2.2.1,.i .i64 b.2.2.2.2.1,.i .i64 b.2.2.2.2.2.1,.i .i64 b.2.2.2.2.2.2.1,.i .i64 b.2.2.2.2.2.2.2.1,.i .i64 b.2.2.2.2.2.2.2.2.1,.i .i64 b.2.2.2.2.2.2.2.2.2]]]):=λb=>by kernel_rfl
theorem tg [ay]:Snd Tryz.prog (lO c8):=Sound.nil 0 [.i .i64,.i .i64,.i .i64,.i .i64,.i .i64,.i .i64,.i .i64,.i .i64,.i .i64]<|λargs h r hr w π vs lF hH kr=>by
 obtain⟨b,d,e,hd,hq⟩:=ayK hr;rw[Fo] at e;obtain⟨hc,rfl⟩:=atD hd;simp only[cB,jW] at hc;obtain⟨h1,h2,h3,h4,h5⟩:=hc;obtain⟨rfl,rfl⟩:=Prod.mk.inj e;have e2:b.1.2.1=((z4 b.1.2.1:Nat):Int):=by omega
 have e3:b.1.2.2=((z4 b.1.2.2:Nat):Int):=by omega
 have hr2:sd.em (_,_)=r:=HX hq;subst hr2;exact .inl ⟨ID (by kernel_rfl) _ _,aHw (gs:=[b.2.1,b.2.2.1,b.2.2.2.1,b.2.2.2.2.1,b.2.2.2.2.2.1,b.2.2.2.2.2.2.1,b.2.2.2.2.2.2.2.1,b.2.2.2.2.2.2.2.2.1,b.2.2.2.2.2.2.2.2.2]) rfl _ (z4 b.1.2.1) (z4 b.1.2.2) (WA h3) (WA h5) w π vs (by rw[<-e2,<-e3,<-h1];exact lF) hH λb hb=>kr b hb⟩
def ua:=(open Go.Ab.Rq in(dp (cl (ac (slc 0 9)) nil) λa=>(cl (cl (gs a.1 (c gI (c gI (c gI (c gI (c gI (c gI (c gI (c gI (cl gI nil)))))))))) nil) nil)):Rq (List AV×List aj) _)
def th:=(open Go.Ab.Rq in(res (pr (ac (zV 1 9)) (pu (cu fV nil) (cl (cl (ga (pr (szs hole) (c gI (c gI (c gI (c gI (c gI (c gI (c gI (c gI (cl gI nil))))))))))) nil) nil)))):Rq (pD) _)
abbrev iR:=Nat×(Nat->Int)×(Nat->Int)×(Nat->Int)×(Nat->Int)×(Nat->Int)×(Nat->Int)×(Nat->Int)×(Nat->Int)×(Nat->Int)
def GR (d:iR):T:=(λd=>.leaf (th.em (d.1,d))) d
abbrev mn:=Nat->(Nat->Int)->(Nat->Int)->(Nat->Int)->(Nat->Int)->(Nat->Int)->(Nat->Int)->(Nat->Int)->(Nat->Int)->(Nat->Int)->Bool->Option iR
def ub (g:mn):Ct:=(166,vR 0 [.i .i64,.i .i64,.i .i64,.i .i64,.i .i64,.i .i64,.i .i64,.i .i64,.i .i64] (FC ua GR (λb=>g b.1.1 b.2.1 b.2.2.1 b.2.2.2.1 b.2.2.2.2.1 b.2.2.2.2.2.1 b.2.2.2.2.2.2.1 b.2.2.2.2.2.2.2.1 b.2.2.2.2.2.2.2.2.1 b.2.2.2.2.2.2.2.2.2 b.1.2)))
def fA (x0:Nat)(x1 x2 x3 x4 x5 x6 x7 x8 x9:Nat->Int)(w0:Bool):Option iR:=
 bif wr (x0*72) 140737488355328 then some (x0,x1,x2,x3,x4,x5,x6,x7,x8,x9) else none
theorem FH:∀b,(ua).em b=([.r (.c (.sl 0 (.k 0) (.s b.1.1) 9 b.1.2))],[[.a (.s b.1.1) [.i .i64 b.2.1,.i .i64 b.2.2.1,.i .i64 b.2.2.2.1,.i .i64 b.2.2.2.2.1,.i .i64 b.2.2.2.2.2.1,.i .i64 b.2.2.2.2.2.2.1,.i .i64 b.2.2.2.2.2.2.2.1,.i .i64 b.2.2.2.2.2.2.2.2.1,.i .i64 b.2.2.2.2.2.2.2.2.2]]]):=λb=>by kernel_rfl
theorem GS [ay]:Snd Tryz.prog (ub fA):=Sound.nil 0 [.i .i64,.i .i64,.i .i64,.i .i64,.i .i64,.i .i64,.i .i64,.i .i64,.i .i64]<|λargs h r hr w π vs lF hH kr=>by
 obtain⟨b,d,e,hd,hq⟩:=ayK hr;rw[FH] at e;obtain⟨hc,rfl⟩:=atD hd;obtain⟨rfl,rfl⟩:=Prod.mk.inj e;have hr2:th.em (_,_)=r:=HX hq;subst hr2;exact .inl ⟨ID (by kernel_rfl) _ _,aK3 (gs:=[b.2.1,b.2.2.1,b.2.2.2.1,b.2.2.2.2.1,b.2.2.2.2.2.1,b.2.2.2.2.2.2.1,b.2.2.2.2.2.2.2.1,b.2.2.2.2.2.2.2.2.1,b.2.2.2.2.2.2.2.2.2]) rfl _ (WA hc) _ w π vs lF hH λb hb=>kr b hb⟩
open Go.Ab Go.Ab.Pg Go.Ab.Rq
def ai4:=qa (pr (cu aS Fs) bK)
def OS:=qe rf
abbrev ai5:=OS.B
abbrev cm:=Int->Int->Int->Bool->Option ai5
def ey (g:cm):Ct:=(119,FC ai4 (lf OS) (λb=>g b.1.1 b.1.2.1 b.1.b b.2))
def qz (x0:Int)(x1:Int)(x2:Int)(x3:Bool):Pg ai5:=ae (decide (x1>x2)) (ret (x1,true)) (ae (decide (x0<x1)) (ret (x1,true)) (ae (decide (x0>x2)) (ret (x2,true)) (ret (x0,x3))))
def aV:=λx0 x1 x2 x3=>(qz x0 x1 x2 x3).val
theorem aCD:D1 [] [0] 119 ai4 (lf OS) λb=>qz b.1.1 b.1.2.1 b.1.b b.2:=λb=>by kernel_rfl
theorem eO [ay]:SC (ey aV):=s0 (.nil _) aCD
def aqK:=qa (pr (cu aS gZ) bK)
def WV:=qe rf
abbrev aqL:=WV.B
abbrev bS:=Int->Bool->Option aqL
def dD (g:bS):Ct:=(126,FC aqK (lf WV) (λb=>g b.1 b.2))
def QE (aG:cm)(x0:Int)(x1:Bool):Pg aqL:=opt (aG x0 (-1152921504606846976) 1152921504606846976 x1) λd=>ret d
def aP:=λx0 x1=>(QE aV x0 x1).val
theorem aHx:∀aG,D0 [ey aG] 126 aqK (lf WV) λb=>QE aG b.1 b.2:=λ_ b=>by kernel_rfl
theorem dI [ay]:SC (dD aP):=s0 (.c eO (.nil _)) (aHx aV)
def aqM:=qa (pl gZ nil)
def WW:=qe aVM
abbrev aqN:=WW.B
abbrev QF:=Int->Option aqN
def QG (g:QF):Ct:=(185,FC aqM (lf WW) (λb=>g b))
def acj (x0:Int):Pg aqN:=ae (decide (x0<0)) (ret (wU (0-wU x0))) (ret (wU x0))
def sj:=λx0=>(acj x0).val
theorem aHy:D0 [] 185 aqM (lf WW) λb=>acj b:=λb=>by kernel_rfl
theorem ack [ay]:SC (QG sj):=s0 (.nil _) aHy
def aqO:=qa (pl (c an aIO) nil)
def WX:=qe aPY
abbrev aqP:=WX.B
abbrev aqQ:=Int->Int->Option aqP
def aqR (g:aqQ):Ct:=(184,FC aqO (lf WX) (λb=>g b.1 b.2))
def acm (x0:Int)(x1:Int):Pg aqP:=let y0:=v9 x0 4294967296;let y1:=v9 x1 4294967296;let y2:=wU (ws (wd (wn 64 x0&&&wn 64 4294967295)));let y3:=wU (ws (wd (wn 64 x1&&&wn 64 4294967295)));let y4:=wU (wU (y0*y3)+v9 (wU (y2*y3)) 4294967296);ret (wU (wU (wU (y0*y1)+v9 y4 4294967296)+v9 (wU (wU (ws (wd (wn 64 y4&&&wn 64 4294967295)))+wU (y2*y1))) 4294967296),wU (x0*x1))
def IE:=λx0 x1=>(acm x0 x1).val
theorem aHz:D0 [] 184 aqO (lf WX) λb=>acm b.1 b.2:=λb=>by kernel_rfl
theorem aHA [ay]:SC (aqR IE):=s0 (.nil _) aHz
def alP:=qa (pl (c Wy aMC) nil)
def Ts:=qe aP2
abbrev WY:=Ts.B
abbrev WZ:=Int->Int->Bool->Option WY
def W0 (g:WZ):Ct:=(186,FC alP (lf Ts) (λb=>g b.1.1 b.1.2 b.2))
def Me (nk:avq)(x0:Int)(x1:Int)(x2:Bool):Pg WY:=ae (!x2) (ret ((wI x0,x1),v9 x0 9223372036854775808==0)) (opt (nk (wU (ws (wd (wn 64 18446744073709551615^^^wn 64 x1)))) 1 0) λd=>let y0:=wI (wU (wU (ws (wd (wn 64 18446744073709551615^^^wn 64 x0)))+d.2));ae (decide (y0<0)) (ret ((y0,d.1),true)) (ret ((y0,d.1),x0==0&&(x1==0&&true))))
def nm:=λx0 x1 x2=>(Me Dt x0 x1 x2).val
theorem aFG:∀nk,D0 [alM nk] 186 alP (lf Ts) λb=>Me nk b.1.1 b.1.2 b.2:=λ_ b=>by kernel_rfl
theorem alQ [ay]:SC (W0 nm):=s0 (.c apq (.nil _)) (aFG Dt)
def aAw:=qa (pl zW nil)
def ag1:=qe aWc
abbrev alR:=ag1.B
abbrev oG:=Int->Int->Option alR
def yT (g:oG):Ct:=(116,FC aAw (lf ag1) (λb=>g b.1 b.2))
def alS (iJ:QF)(QH:aqQ)(pM:WZ)(x0:Int)(x1:Int):Pg alR:=opt (iJ x0) λd=>opt (iJ x1) λak=>opt (QH d ak) λd=>opt (pM d.1 d.2 !decide (x0<0)==decide (x1<0)) λd=>ret d.1
def fK:=λx0 x1=>(alS sj IE nm x0 x1).val
theorem aNI:∀iJ QH pM,D0 [QG iJ,aqR QH,W0 pM] 116 aAw (lf ag1) λb=>alS iJ QH pM b.1 b.2:=λ_ _ _ b=>by kernel_rfl
theorem BO [ay]:SC (yT fK):=s0 (.c ack (.c aHA (.c alQ (.nil _)))) (aNI sj IE nm)
def aAx:=qa (pl aEh nil)
def ag2:=qe (res (pl (rZ (c (ra axQ) aSt)) (pu nil nil)))
abbrev aAy:=ag2.B
abbrev alT:=Int->Int->Option aAy
def alU (g:alT):Ct:=(188,FC aAx (lf ag2) (λb=>g b.1 b.2))
def alV (nk:avq)(x0:Int)(x1:Int):Pg aAy:=ae (decide (x0>=0)) (ret ((wU x0,x1),false)) (opt (nk (wU (ws (wd (wn 64 18446744073709551615^^^wn 64 x1)))) 1 0) λd=>ret ((wU (wU (ws (wd (wn 64 18446744073709551615^^^wn 64 (wU x0))))+d.2),d.1),true))
def FI:=λx0 x1=>(alV Dt x0 x1).val
theorem aNJ:∀nk,D0 [alM nk] 188 aAx (lf ag2) λb=>alV nk b.1 b.2:=λ_ b=>by kernel_rfl
theorem aAz [ay]:SC (alU FI):=s0 (.c apq (.nil _)) (aNJ Dt)
def ai6:=qa (pl (c Wy gZ) nil)
def OT:=qe aKl
abbrev ai7:=OT.B
abbrev Dw:=Int->Int->Int->Option ai7
def Jq (g:Dw):Ct:=(190,FC ai6 (lf OT) (λb=>g b.1.1 b.1.2 b.2))
def Tt (x0:Int)(x1:Int)(x2:Int):Pg ai7:=let y0:=wI (64-x2);let y1:=wI (x2-64);let y2:=2^min (z4 x2) 64;let y3:= !decide (x2<0);ae (decide (x2>=64)) (ae (!decide (y1<0)) (ret (wU (x1*2^min (z4 y1) 64),0)) no) (ae y3 (ae (!decide (y0<0)) (ae y3 (ret (wU (ws (wd (wn 64 (wU (x0*y2))|||wn 64 (v9 x1 (2^min (z4 y0) 64))))),wU (x1*y2))) no) no) no)
def hM:=λx0 x1 x2=>(Tt x0 x1 x2).val
theorem aCE:D0 [] 190 ai6 (lf OT) λb=>Tt b.1.1 b.1.2 b.2:=λb=>by kernel_rfl
theorem Tu [ay]:SC (Jq hM):=s0 (.nil _) aCE
def aev:=qa (pl (c Wy (cl Wy nil)) nil)
def Mf:=qe aKl
abbrev aew:=Mf.B
abbrev wb:=Int->Int->Int->Int->Option aew
def GU (g:wb):Ct:=(189,FC aev (lf Mf) (λb=>g b.1.1 b.1.2 b.2.1 b.b))
def OU (nk:avq)(x0:Int)(x1:Int)(x2:Int)(x3:Int):Pg aew:=opt (nk x1 x3 0) λd=>opt (nk x0 x2 d.2) λak=>ret (ak.1,d.1)
def jz:=λx0 x1 x2 x3=>(OU Dt x0 x1 x2 x3).val
theorem ayL:∀nk,D0 [alM nk] 189 aev (lf Mf) λb=>OU nk b.1.1 b.1.2 b.2.1 b.b:=λ_ b=>by kernel_rfl
theorem OV [ay]:SC (GU jz):=s0 (.c apq (.nil _)) (ayL Dt)
def ai8:=qa (pl (c Wy gZ) nil)
def OW:=qe aKl
abbrev ai9:=OW.B
abbrev Dx:=Int->Int->Int->Option ai9
def Jr (g:Dx):Ct:=(192,FC ai8 (lf OW) (λb=>g b.1.1 b.1.2 b.2))
def Js (x0:Int)(x1:Int)(x2:Int):Pg ai9:=let y0:=wI (64-x2);let y1:=wI (x2-64);let y2:=2^min (z4 x2) 64;let y3:= !decide (x2<0);ae (decide (x2>=64)) (ae (!decide (y1<0)) (ret (0,v9 x0 (2^min (z4 y1) 64))) no) (ae y3 (ae y3 (ae (!decide (y0<0)) (ret (v9 x0 y2,wU (ws (wd (wn 64 (v9 x1 y2)|||wn 64 (wU (x0*2^min (z4 y0) 64))))))) no) no) no)
def js:=λx0 x1 x2=>(Js x0 x1 x2).val
theorem aCF:D0 [] 192 ai8 (lf OW) λb=>Js b.1.1 b.1.2 b.2:=λb=>by kernel_rfl
theorem Tv [ay]:SC (Jr js):=s0 (.nil _) aCF
def aex:=qa (pl (c Wy aMC) nil)
def Mg:=qe ax0
abbrev aey:=Mg.B
abbrev A8:=Int->Int->Bool->Option aey
def GV (g:A8):Ct:=(191,FC aex (lf Mg) (λb=>g b.1.1 b.1.2 b.2))
def OX (x0:Int)(x1:Int)(x2:Bool):Pg aey:=let y0:=x0 !=0;let y1:=decide (x1>9223372036854775807);ae y0 (ae y0 (ret (0,false)) (ae x2 (ret (wI (wU (0-x1)),true)) (ret (wI x1,true)))) (ae (!x2) (ae y1 (ae y1 (ret (0,false)) (ae x2 (ret (wI (wU (0-x1)),true)) (ret (wI x1,true)))) (ae x2 (ae (decide (x1>9223372036854775808)) (ret (0,false)) (ae x2 (ret (wI (wU (0-x1)),true)) (ret (wI x1,true)))) (ae x2 (ret (wI (wU (0-x1)),true)) (ret (wI x1,true))))) (ae x2 (ae (decide (x1>9223372036854775808)) (ret (0,false)) (ae x2 (ret (wI (wU (0-x1)),true)) (ret (wI x1,true)))) (ae x2 (ret (wI (wU (0-x1)),true)) (ret (wI x1,true)))))
def jA:=λx0 x1 x2=>(OX x0 x1 x2).val
theorem ayM:D0 [] 191 aex (lf Mg) λb=>OX b.1.1 b.1.2 b.2:=λb=>by kernel_rfl
theorem OY [ay]:SC (GV jA):=s0 (.nil _) ayM
def aqS:=qa (pl (c agb gZ) nil)
def W2:=qe ax0
abbrev aqT:=W2.B
abbrev D5:=Int->Int->Int->Option aqT
def QI (g:D5):Ct:=(118,FC aqS (lf W2) (λb=>g b.1.1 b.1.2 b.2))
def acn (yU:alT)(kv:Dw)(fB:wb)(jt:Dx)(fC:A8)(x0:Int)(x1:Int)(x2:Int):Pg aqT:=ae (decide (x2<0)) (ret (0,false)) (ae (decide (x2>126)) (ret (0,false)) (opt (yU x0 x1) λd=>ae (decide (x2>0)) (opt (kv 0 1 (wI (x2-1))) λak=>opt (fB d.1.1 d.1.2 ak.1 ak.2) λaK=>opt (jt aK.1 aK.2 x2) λbJ=>opt (fC bJ.1 bJ.2 d.2) λd=>ret d) (opt (jt d.1.1 d.1.2 x2) λak=>opt (fC ak.1 ak.2 d.2) λd=>ret d)))
def sk:=λx0 x1 x2=>(acn FI hM jz js jA x0 x1 x2).val
theorem aHB:∀yU kv fB jt fC,D0 [alU yU,Jq kv,GU fB,Jr jt,GV fC] 118 aqS (lf W2) λb=>acn yU kv fB jt fC b.1.1 b.1.2 b.2:=λ_ _ _ _ _ b=>by kernel_rfl
theorem aco [ay]:SC (QI sk):=s0 (.c aAz (.c Tu (.c OV (.c Tv (.c OY (.nil _)))))) (aHB FI hM jz js jA)
def aFH:=qa (pl aMC nil)
def alW:=qe Fq
abbrev aFI:=alW.B
abbrev W3:=Bool->Option aFI
def Xa (g:W3):Ct:=(199,FC aFH (lf alW) (λb=>g b))
def OZ (x0:Bool):Pg aFI:=ae x0 (ret (-1152921504606846976)) (ret 1152921504606846976)
def oc:=λx0=>(OZ x0).val
theorem aRc:D0 [] 199 aFH (lf alW) λb=>OZ b:=λb=>by kernel_rfl
theorem ag3 [ay]:SC (Xa oc):=s0 (.nil _) aRc
def aqU:=qa (pr (cu aS (c ai (c ab aMC))) bK)
def Xb:=qe rf
abbrev aqV:=Xb.B
abbrev IF:=Int->Bool->Bool->Bool->Option aqV
def QJ (g:IF):Ct:=(198,FC aqU (lf Xb) (λb=>g b.1.1 b.1.2.1 b.1.b b.2))
def D6 (jZ:W3)(ax:bS)(x0:Int)(x1:Bool)(x2:Bool)(x3:Bool):Pg aqV:=ae (!x1) (opt (jZ x2) λd=>ret (d,true)) (opt (ax x0 x3) λd=>ret d)
def kH:=λx0 x1 x2 x3=>(D6 oc aP x0 x1 x2 x3).val
theorem aHC:∀jZ ax,D0 [Xa jZ,dD ax] 198 aqU (lf Xb) λb=>D6 jZ ax b.1.1 b.1.2.1 b.1.b b.2:=λ_ _ b=>by kernel_rfl
theorem acp [ay]:SC (QJ kH):=s0 (.c ag3 (.c dI (.nil _))) (aHC oc aP)
def aja:=qa (pr (cu aS (c agb gZ)) bK)
def O0:=qe rf
abbrev ajb:=O0.B
abbrev yE:=Int->Int->Int->Bool->Option ajb
def Jt (g:yE):Ct:=(127,FC aja (lf O0) (λb=>g b.1.1.1 b.1.1.2 b.1.2 b.2))
def Tw (vS:D5)(nq:IF)(x0:Int)(x1:Int)(x2:Int)(x3:Bool):Pg ajb:=ae (decide (x2<0)) (ret (0,true)) (ae (decide (x2>120)) (ret (0,true)) (opt (vS x0 x1 x2) λd=>opt (nq d.1 d.2 (decide (x0<0)) x3) λd=>ret d))
def nN:=λx0 x1 x2 x3=>(Tw sk kH x0 x1 x2 x3).val
theorem aCG:∀vS nq,D0 [QI vS,QJ nq] 127 aja (lf O0) λb=>Tw vS nq b.1.1.1 b.1.1.2 b.1.2 b.2:=λ_ _ b=>by kernel_rfl
theorem Tx [ay]:SC (Jt nN):=s0 (.c aco (.c acp (.nil _))) (aCG sk kH)
def aqW:=qa (pr (cu aS Fs) bK)
def Xc:=qe rf
abbrev aqX:=Xc.B
abbrev bX:=Int->Int->Int->Bool->Option aqX
def fF (g:bX):Ct:=(72,FC aqW (lf Xc) (λb=>g b.1.1 b.1.2.1 b.1.b b.2))
def acq (ax:bS)(c9:oG)(ju:yE)(x0:Int)(x1:Int)(x2:Int)(x3:Bool):Pg aqX:=opt (ax x0 x3) λd=>opt (ax x1 d.2) λak=>opt (c9 d.1 ak.1) λd=>opt (ju d.1 d.2 x2 ak.2) λd=>ret d
def aZ:=λx0 x1 x2 x3=>(acq aP fK nN x0 x1 x2 x3).val
theorem aHD:∀ax c9 ju,D0 [dD ax,yT c9,Jt ju] 72 aqW (lf Xc) λb=>acq ax c9 ju b.1.1 b.1.2.1 b.1.b b.2:=λ_ _ _ b=>by kernel_rfl
theorem gk [ay]:SC (fF aZ):=s0 (.c dI (.c BO (.c Tx (.nil _)))) (aHD aP fK nN)
def alX:=qa (pr aKh (cu as1 bK))
def Ty:=qe aPV
abbrev alY:=Ty.B
abbrev Xd:=Int->Int->Bool->Option alY
def Xe (g:Xd):Ct:=(77,FC alX (lf Ty) (λb=>g b.1.1 b.1.2 b.2))
def Xf (aD:bX)(x0:Int)(x1:Int)(x2:Bool):Pg alY:=opt (aD x0 x1 30 x2) λd=>ret d
def wO:=λx0 x1 x2=>(Xf aZ x0 x1 x2).val
theorem aFJ:∀aD,D0 [fF aD] 77 alX (lf Ty) λb=>Xf aD b.1.1 b.1.2 b.2:=λ_ b=>by kernel_rfl
theorem alZ [ay]:SC (Xe wO):=s0 (.c gk (.nil _)) (aFJ aZ)
def aqY:=qa (pl aIO nil)
def Xg:=qe Fq
abbrev aqZ:=Xg.B
abbrev aq0:=Int->Option aqZ
def aq1 (g:aq0):Ct:=(267,FC aqY (lf Xg) (λb=>g b))
def acr (x0:Int):Pg aqZ:=let y0:=v9 x0 65536;let y1:=v9 x0 4294967296;let y2:=IntKind.wrap IntKind.u8 (v9 x0 256);let y3:=IntKind.wrap IntKind.u8 y0;let y4:=IntKind.wrap IntKind.u8 y1;let y5:=v9 y1 65536;let y6:=IntKind.wrap IntKind.u8 y5;let y7:=IntKind.wrap IntKind.u8 (v9 y0 256);let y8:=IntKind.wrap IntKind.u8 (v9 y1 256);let y9:=IntKind.wrap IntKind.u8 (v9 y5 256);ae (decide (x0>=4294967296)) (ae (decide (y1>=65536)) (ae (decide (y5>=256)) (ae (bf y9 256) (ret (wI (56+wI (EO (ByteArray.mk (List.toArray (ul (ul [0,1,2,2,3,3,3,3,4,4,4,4,4,4,4,4,5,5,5,5,5,5,5,5,5,5,5,5,5,5,5,5,6,6,6,6,6,6,6,6,6,6,6,6,6,6,6,6,6,6,6,6,6,6,6,6,6,6,6,6,6,6,6,6] [7,7,7,7,7,7,7,7,7,7,7,7,7,7,7,7,7,7,7,7,7,7,7,7,7,7,7,7,7,7,7,7,7,7,7,7,7,7,7,7,7,7,7,7,7,7,7,7,7,7,7,7,7,7,7,7,7,7,7,7,7,7,7,7]) (ul [8,8,8,8,8,8,8,8,8,8,8,8,8,8,8,8,8,8,8,8,8,8,8,8,8,8,8,8,8,8,8,8,8,8,8,8,8,8,8,8,8,8,8,8,8,8,8,8,8,8,8,8,8,8,8,8,8,8,8,8,8,8,8,8] [8,8,8,8,8,8,8,8,8,8,8,8,8,8,8,8,8,8,8,8,8,8,8,8,8,8,8,8,8,8,8,8,8,8,8,8,8,8,8,8,8,8,8,8,8,8,8,8,8,8,8,8,8,8,8,8,8,8,8,8,8,8,8,8])))) (z4 y9))))) no) (ae (bf y6 256) (ret (wI (48+wI (EO (ByteArray.mk (List.toArray (ul (ul [0,1,2,2,3,3,3,3,4,4,4,4,4,4,4,4,5,5,5,5,5,5,5,5,5,5,5,5,5,5,5,5,6,6,6,6,6,6,6,6,6,6,6,6,6,6,6,6,6,6,6,6,6,6,6,6,6,6,6,6,6,6,6,6] [7,7,7,7,7,7,7,7,7,7,7,7,7,7,7,7,7,7,7,7,7,7,7,7,7,7,7,7,7,7,7,7,7,7,7,7,7,7,7,7,7,7,7,7,7,7,7,7,7,7,7,7,7,7,7,7,7,7,7,7,7,7,7,7]) (ul [8,8,8,8,8,8,8,8,8,8,8,8,8,8,8,8,8,8,8,8,8,8,8,8,8,8,8,8,8,8,8,8,8,8,8,8,8,8,8,8,8,8,8,8,8,8,8,8,8,8,8,8,8,8,8,8,8,8,8,8,8,8,8,8] [8,8,8,8,8,8,8,8,8,8,8,8,8,8,8,8,8,8,8,8,8,8,8,8,8,8,8,8,8,8,8,8,8,8,8,8,8,8,8,8,8,8,8,8,8,8,8,8,8,8,8,8,8,8,8,8,8,8,8,8,8,8,8,8])))) (z4 y6))))) no)) (ae (decide (y1>=256)) (ae (bf y8 256) (ret (wI (40+wI (EO (ByteArray.mk (List.toArray (ul (ul [0,1,2,2,3,3,3,3,4,4,4,4,4,4,4,4,5,5,5,5,5,5,5,5,5,5,5,5,5,5,5,5,6,6,6,6,6,6,6,6,6,6,6,6,6,6,6,6,6,6,6,6,6,6,6,6,6,6,6,6,6,6,6,6] [7,7,7,7,7,7,7,7,7,7,7,7,7,7,7,7,7,7,7,7,7,7,7,7,7,7,7,7,7,7,7,7,7,7,7,7,7,7,7,7,7,7,7,7,7,7,7,7,7,7,7,7,7,7,7,7,7,7,7,7,7,7,7,7]) (ul [8,8,8,8,8,8,8,8,8,8,8,8,8,8,8,8,8,8,8,8,8,8,8,8,8,8,8,8,8,8,8,8,8,8,8,8,8,8,8,8,8,8,8,8,8,8,8,8,8,8,8,8,8,8,8,8,8,8,8,8,8,8,8,8] [8,8,8,8,8,8,8,8,8,8,8,8,8,8,8,8,8,8,8,8,8,8,8,8,8,8,8,8,8,8,8,8,8,8,8,8,8,8,8,8,8,8,8,8,8,8,8,8,8,8,8,8,8,8,8,8,8,8,8,8,8,8,8,8])))) (z4 y8))))) no) (ae (bf y4 256) (ret (wI (32+wI (EO (ByteArray.mk (List.toArray (ul (ul [0,1,2,2,3,3,3,3,4,4,4,4,4,4,4,4,5,5,5,5,5,5,5,5,5,5,5,5,5,5,5,5,6,6,6,6,6,6,6,6,6,6,6,6,6,6,6,6,6,6,6,6,6,6,6,6,6,6,6,6,6,6,6,6] [7,7,7,7,7,7,7,7,7,7,7,7,7,7,7,7,7,7,7,7,7,7,7,7,7,7,7,7,7,7,7,7,7,7,7,7,7,7,7,7,7,7,7,7,7,7,7,7,7,7,7,7,7,7,7,7,7,7,7,7,7,7,7,7]) (ul [8,8,8,8,8,8,8,8,8,8,8,8,8,8,8,8,8,8,8,8,8,8,8,8,8,8,8,8,8,8,8,8,8,8,8,8,8,8,8,8,8,8,8,8,8,8,8,8,8,8,8,8,8,8,8,8,8,8,8,8,8,8,8,8] [8,8,8,8,8,8,8,8,8,8,8,8,8,8,8,8,8,8,8,8,8,8,8,8,8,8,8,8,8,8,8,8,8,8,8,8,8,8,8,8,8,8,8,8,8,8,8,8,8,8,8,8,8,8,8,8,8,8,8,8,8,8,8,8])))) (z4 y4))))) no))) (ae (decide (x0>=65536)) (ae (decide (y0>=256)) (ae (bf y7 256) (ret (wI (24+wI (EO (ByteArray.mk (List.toArray (ul (ul [0,1,2,2,3,3,3,3,4,4,4,4,4,4,4,4,5,5,5,5,5,5,5,5,5,5,5,5,5,5,5,5,6,6,6,6,6,6,6,6,6,6,6,6,6,6,6,6,6,6,6,6,6,6,6,6,6,6,6,6,6,6,6,6] [7,7,7,7,7,7,7,7,7,7,7,7,7,7,7,7,7,7,7,7,7,7,7,7,7,7,7,7,7,7,7,7,7,7,7,7,7,7,7,7,7,7,7,7,7,7,7,7,7,7,7,7,7,7,7,7,7,7,7,7,7,7,7,7]) (ul [8,8,8,8,8,8,8,8,8,8,8,8,8,8,8,8,8,8,8,8,8,8,8,8,8,8,8,8,8,8,8,8,8,8,8,8,8,8,8,8,8,8,8,8,8,8,8,8,8,8,8,8,8,8,8,8,8,8,8,8,8,8,8,8] [8,8,8,8,8,8,8,8,8,8,8,8,8,8,8,8,8,8,8,8,8,8,8,8,8,8,8,8,8,8,8,8,8,8,8,8,8,8,8,8,8,8,8,8,8,8,8,8,8,8,8,8,8,8,8,8,8,8,8,8,8,8,8,8])))) (z4 y7))))) no) (ae (bf y3 256) (ret (wI (16+wI (EO (ByteArray.mk (List.toArray (ul (ul [0,1,2,2,3,3,3,3,4,4,4,4,4,4,4,4,5,5,5,5,5,5,5,5,5,5,5,5,5,5,5,5,6,6,6,6,6,6,6,6,6,6,6,6,6,6,6,6,6,6,6,6,6,6,6,6,6,6,6,6,6,6,6,6] [7,7,7,7,7,7,7,7,7,7,7,7,7,7,7,7,7,7,7,7,7,7,7,7,7,7,7,7,7,7,7,7,7,7,7,7,7,7,7,7,7,7,7,7,7,7,7,7,7,7,7,7,7,7,7,7,7,7,7,7,7,7,7,7]) (ul [8,8,8,8,8,8,8,8,8,8,8,8,8,8,8,8,8,8,8,8,8,8,8,8,8,8,8,8,8,8,8,8,8,8,8,8,8,8,8,8,8,8,8,8,8,8,8,8,8,8,8,8,8,8,8,8,8,8,8,8,8,8,8,8] [8,8,8,8,8,8,8,8,8,8,8,8,8,8,8,8,8,8,8,8,8,8,8,8,8,8,8,8,8,8,8,8,8,8,8,8,8,8,8,8,8,8,8,8,8,8,8,8,8,8,8,8,8,8,8,8,8,8,8,8,8,8,8,8])))) (z4 y3))))) no)) (ae (decide (x0>=256)) (ae (bf y2 256) (ret (wI (8+wI (EO (ByteArray.mk (List.toArray (ul (ul [0,1,2,2,3,3,3,3,4,4,4,4,4,4,4,4,5,5,5,5,5,5,5,5,5,5,5,5,5,5,5,5,6,6,6,6,6,6,6,6,6,6,6,6,6,6,6,6,6,6,6,6,6,6,6,6,6,6,6,6,6,6,6,6] [7,7,7,7,7,7,7,7,7,7,7,7,7,7,7,7,7,7,7,7,7,7,7,7,7,7,7,7,7,7,7,7,7,7,7,7,7,7,7,7,7,7,7,7,7,7,7,7,7,7,7,7,7,7,7,7,7,7,7,7,7,7,7,7]) (ul [8,8,8,8,8,8,8,8,8,8,8,8,8,8,8,8,8,8,8,8,8,8,8,8,8,8,8,8,8,8,8,8,8,8,8,8,8,8,8,8,8,8,8,8,8,8,8,8,8,8,8,8,8,8,8,8,8,8,8,8,8,8,8,8] [8,8,8,8,8,8,8,8,8,8,8,8,8,8,8,8,8,8,8,8,8,8,8,8,8,8,8,8,8,8,8,8,8,8,8,8,8,8,8,8,8,8,8,8,8,8,8,8,8,8,8,8,8,8,8,8,8,8,8,8,8,8,8,8])))) (z4 y2))))) no) (ae (bf (IntKind.wrap IntKind.u8 x0) 256) (ret (wI (0+wI (EO (ByteArray.mk (List.toArray (ul (ul [0,1,2,2,3,3,3,3,4,4,4,4,4,4,4,4,5,5,5,5,5,5,5,5,5,5,5,5,5,5,5,5,6,6,6,6,6,6,6,6,6,6,6,6,6,6,6,6,6,6,6,6,6,6,6,6,6,6,6,6,6,6,6,6] [7,7,7,7,7,7,7,7,7,7,7,7,7,7,7,7,7,7,7,7,7,7,7,7,7,7,7,7,7,7,7,7,7,7,7,7,7,7,7,7,7,7,7,7,7,7,7,7,7,7,7,7,7,7,7,7,7,7,7,7,7,7,7,7]) (ul [8,8,8,8,8,8,8,8,8,8,8,8,8,8,8,8,8,8,8,8,8,8,8,8,8,8,8,8,8,8,8,8,8,8,8,8,8,8,8,8,8,8,8,8,8,8,8,8,8,8,8,8,8,8,8,8,8,8,8,8,8,8,8,8] [8,8,8,8,8,8,8,8,8,8,8,8,8,8,8,8,8,8,8,8,8,8,8,8,8,8,8,8,8,8,8,8,8,8,8,8,8,8,8,8,8,8,8,8,8,8,8,8,8,8,8,8,8,8,8,8,8,8,8,8,8,8,8,8])))) (z4 (IntKind.wrap IntKind.u8 x0)))))) no)))
def IG:=λx0=>(acr x0).val
theorem aHE:D0 [] 267 aqY (lf Xg) λb=>acr b:=λb=>by kernel_rfl
theorem aHF [ay]:SC (aq1 IG):=s0 (.nil _) aHE
def Mh:=qa (pl aIO nil)
def A9:=qe Fq
abbrev Mi:=A9.B
abbrev Cg:=Int->Option Mi
def Mj (g:Cg):Ct:=(261,FC Mh (lf A9) (λb=>g b))
def Ci (QK:aq0)(x0:Int):Pg Mi:=opt (QK x0) λd=>ret (wI (64-d))
def pN:=λx0=>(Ci IG x0).val
theorem ag4:∀QK,D0 [aq1 QK] 261 Mh (lf A9) λb=>Ci QK b:=λ_ b=>by kernel_rfl
theorem ag5 [ay]:SC (Mj pN):=s0 (.c aHF (.nil _)) (ag4 IG)
def aq2:=qa (pl (c an (c an aIO)) nil)
def Xh:=qe aPY
abbrev aq3:=Xh.B
abbrev aq4:=Int->Int->Int->Option aq3
def aq5 (g:aq4):Ct:=(241,FC aq2 (lf Xh) (λb=>g b.1 b.2.1 b.b))
def wc:=qs (st (pl (us 2 (c an (us 5 (c an (c an (c an (c an (us 1 (c an (c an (c an (cl an (us 88 aPp))))))))))))) (pu nil nil)))
def avs:=qs (st (pl (us 2 (c an (us 5 (c an (c an (c an (c an (us 1 (c an (c an (c an (c an (us 50 (c an (c ab (cu Ta (xs 8 (cu Ta aWH)))))))))))))))))) (pu nil nil)))
def avt:=qs (st (pl (us 2 (c an (us 5 (c an (c an (c an (c an (us 1 (c an (c an (c an (c an (us 50 (c an (c ab (cu uy (c an (c an (c an (c an (c an (c an (c an (c ab (c ab aWH))))))))))))))))))))))))) (pu nil nil)))
def avu:=qs (st (pl (us 2 (c an (us 5 (c an (c an (c an (c an (us 1 (c an (c an (c an (c an (us 50 (c an (c ab (cu uy (c an (c an (c an (c an (c an (c an (c an (c ab (cl ab (us 26 aPp)))))))))))))))))))))))))) (pu nil nil)))
abbrev Ju:=a0Q⊕a0M
def ajc {ρ:Type}(x:Ju)(K:AX->St->Option ρ):Option ρ:=(t9 (λd=>K (.ex 0) (avs.em (d.1,d.2.1,d.b.1,d.b.2.1,d.c.1,d.c.2.1,d.c.b.1,d.c.b.2.1,d.d.1,d.d.2.1,d.d.b.1,d.d.2.1,d.c.b.2.1,d.d.b.2.1,d.b.1,d.d.1,d.d.1,d.d.c))) (t9 (λd=>K (.ex 0) (avt.em (d.1,d.2.1,d.b.1,d.b.2.1,d.c.1,d.c.2.1,d.c.b.1,d.c.b.2.1,d.d.1,d.d.2.1,d.d.b.1,d.d.2.1,d.b.2.1,d.d.b.2.1,d.d.c.1,d.d.c.2.1,d.c.2.1,d.d.c.b.1,d.d.c.b.2.1,d.d.c.b.2.1,d.d.2.1,d.c.b.2.1,d.d.c.1,d.b.1,d.d.1,d.d.1,d.e))) (λd=>K (.ex 0) (avu.em (d.1,d.2.1,d.b.1,d.b.2.1,d.c.1,d.c.2.1,d.c.b.1,d.c.b.2.1,d.d.1,d.c.b.2.1,d.d.2.1,d.c.b.2.1,d.b.2.1,d.d.b.1,d.d.1,d.d.b.2.1,d.c.2.1,d.d.c.1,d.d.c.2,d.d.c.2))))) x
def Jv (d:wc.B):PL wc Ju:=let y0:=wU (4294967296*d.2.2.2.2.2.2.2.2);let y1:=wU (d.2.2.2.2.2.2.2.1-1);let y2:=wU (d.2.2.2.2.2.2.2.2+d.2.2.1);let y3:=wU (d.2.2.2.2.2.2.2.1*d.2.2.2.1);let y4:=decide (d.2.2.2.2.2.2.2.1>=4294967296);let y5:=wU (y0+d.2.2.2.2.2.1);let y6:=decide (y2>=4294967296);let y7:=decide (y3>y5);ae y4 (ae y6 (ret (wt (ww (d.1,d.2.1,d.2.2.1,d.2.2.2.1,d.2.2.2.2.1,d.2.2.2.2.2.1,d.2.2.2.2.2.2.1,y1,y2,d.2.2.2.2.2.2.2.1,y4,d.2.2.2.2.2.2.2.2,y6)))) (ret (ww (d.1,d.2.1,d.2.2.1,d.2.2.2.1,d.2.2.2.2.1,d.2.2.2.2.2.1,d.2.2.2.2.2.2.1,y1,y2)))) (ae y7 (ae y6 (ret (wt (wt (ww (d.1,d.2.1,d.2.2.1,d.2.2.2.1,d.2.2.2.2.1,d.2.2.2.2.2.1,d.2.2.2.2.2.2.1,y1,y2,d.2.2.2.2.2.2.2.1,y4,y3,d.2.2.2.2.2.2.2.2,y0,y5,y7,y6))))) (ret (ww (d.1,d.2.1,d.2.2.1,d.2.2.2.1,d.2.2.2.2.1,d.2.2.2.2.2.1,d.2.2.2.2.2.2.1,y1,y2)))) (ret (wt (wt (wt (d.1,d.2.1,d.2.2.1,d.2.2.2.1,d.2.2.2.2.1,d.2.2.2.2.2.1,d.2.2.2.2.2.2.1,d.2.2.2.2.2.2.2.1,d.2.2.2.2.2.2.2.2,y4,y3,y0,y5,y7))))))
def Jw:=bE (Jv) 2000
def we:=qs (st (pl (us 2 (c an (us 5 (c an (c an (c an (us 3 (c an (c an (c an (c an (cl an (us 116 nil))))))))))))) (pu nil nil)))
def avv:=qs (st (pl (us 2 (c an (us 5 (c an (c an (c an (us 3 (c an (c an (c an (c an (c an (us 83 (c an (c ab (cu Ta (xs 8 (cu Ta aWu)))))))))))))))))) (pu nil nil)))
def avw:=qs (st (pl (us 2 (c an (us 5 (c an (c an (c an (us 3 (c an (c an (c an (c an (c an (us 83 (c an (c ab (cu uy (c an (c an (c an (c an (c an (c an (c an (c ab (c ab aWu))))))))))))))))))))))))) (pu nil nil)))
def avx:=qs (st (pl (us 2 (c an (us 5 (c an (c an (c an (us 3 (c an (c an (c an (c an (c an (us 83 (c an (c ab (cu uy (c an (c an (c an (c an (c an (c an (c an (c ab aPr)))))))))))))))))))))))) (pu nil nil)))
abbrev Jx:=a0Q⊕a0M
def ajd {ρ:Type}(x:Jx)(K:AX->St->Option ρ):Option ρ:=(t9 (λd=>K (.ex 2) (avv.em (d.1,d.2.1,d.b.1,d.b.2.1,d.c.1,d.c.2.1,d.c.b.1,d.c.b.2.1,d.d.1,d.d.2.1,d.d.b.1,d.d.2.1,d.d.1,d.d.b.2.1,d.b.1,d.c.b.1,d.c.b.1,d.d.c))) (t9 (λd=>K (.ex 2) (avw.em (d.1,d.2.1,d.b.1,d.b.2.1,d.c.1,d.c.2.1,d.c.b.1,d.c.b.2.1,d.d.1,d.d.2.1,d.d.b.1,d.d.2.1,d.b.2.1,d.d.b.2.1,d.d.c.1,d.d.c.2.1,d.c.1,d.d.c.b.1,d.d.c.b.2.1,d.d.c.b.2.1,d.d.2.1,d.d.1,d.d.c.1,d.b.1,d.c.b.1,d.c.b.1,d.e))) (λd=>K (.ex 2) (avx.em (d.1,d.2.1,d.b.1,d.b.2.1,d.c.1,d.c.2.1,d.c.b.1,d.c.b.2.1,d.d.1,d.d.1,d.d.2.1,d.d.1,d.b.2.1,d.d.b.1,d.c.b.1,d.d.b.2.1,d.c.1,d.d.c.1,d.d.c.2,d.d.c.2))))) x
def Jy (d:we.B):PL we Jx:=let y0:=wU (4294967296*d.2.2.2.2.2.2.1);let y1:=wU (d.2.2.2.2.2.2.2.2-1);let y2:=wU (d.2.2.2.2.2.2.1+d.2.2.1);let y3:=wU (d.2.2.2.2.2.2.2.2*d.2.2.2.1);let y4:=wU (y0+d.2.2.2.2.1);let y5:=decide (d.2.2.2.2.2.2.2.2>=4294967296);let y6:=decide (y2>=4294967296);let y7:=decide (y3>y4);ae y5 (ae y6 (ret (wt (ww (d.1,d.2.1,d.2.2.1,d.2.2.2.1,d.2.2.2.2.1,d.2.2.2.2.2.1,y2,d.2.2.2.2.2.2.2.1,y1,d.2.2.2.2.2.2.2.2,y5,d.2.2.2.2.2.2.1,y6)))) (ret (ww (d.1,d.2.1,d.2.2.1,d.2.2.2.1,d.2.2.2.2.1,d.2.2.2.2.2.1,y2,d.2.2.2.2.2.2.2.1,y1)))) (ae y7 (ae y6 (ret (wt (wt (ww (d.1,d.2.1,d.2.2.1,d.2.2.2.1,d.2.2.2.2.1,d.2.2.2.2.2.1,y2,d.2.2.2.2.2.2.2.1,y1,d.2.2.2.2.2.2.2.2,y5,y3,d.2.2.2.2.2.2.1,y0,y4,y7,y6))))) (ret (ww (d.1,d.2.1,d.2.2.1,d.2.2.2.1,d.2.2.2.2.1,d.2.2.2.2.2.1,y2,d.2.2.2.2.2.2.2.1,y1)))) (ret (wt (wt (wt (d.1,d.2.1,d.2.2.1,d.2.2.2.1,d.2.2.2.2.1,d.2.2.2.2.2.1,d.2.2.2.2.2.2.1,d.2.2.2.2.2.2.2.1,d.2.2.2.2.2.2.2.2,y5,y3,y0,y4,y7))))))
def Jz:=bE (Jy) 2000
def acs (ag6:Cg)(eB:LT wc Ju)(ru:LT we Jx)(x0:Int)(x1:Int)(x2:Int):Pg aq3:=let y0:= !decide (x2=0);ae (x2==0) no (ae (decide (x2<=x0)) no (ae (x0==0) (ae y0 (ae y0 (ret (wU (t8 x1 x2),Int.tmod x1 x2)) no) no) (opt (ag6 x2) λd=>let y0:=wU (64-wU d);let y1:=2^min (z4 (wU d)) 64;let y2:= !decide (wU d<0);let y3:=wU (x1*y1);let y4:=wU (x2*y1);let y5:=v9 y4 4294967296;let y6:=wU (ws (wd (wn 64 (wU (x0*y1))|||wn 64 (v9 x1 (2^min (z4 y0) 64)))));let y7:=wU (t8 y6 y5);ae y2 (ae y2 (ae (!decide (y0<0)) (ae y2 (ae (!decide (y5=0)) (opt (eB (y4,wU d,y5,wU (ws (wd (wn 64 y4&&&wn 64 4294967295))),y6,v9 y3 4294967296,wU (ws (wd (wn 64 y3&&&wn 64 4294967295))),y7,wU (y6-wU (y7*y5)))) λx=>sum x (λd=>let y0:=wU (wU (wU (d.2.2.2.2.1*4294967296)+d.2.2.2.2.2.1)-wU (d.2.2.2.2.2.2.2.1*d.1));let y1:=wU (t8 y0 d.2.2.1);ae (!decide (d.2.2.1=0)) (opt (ru (d.1,d.2.1,d.2.2.1,d.2.2.2.1,d.2.2.2.2.2.2.1,d.2.2.2.2.2.2.2.1,wU (y0-wU (y1*d.2.2.1)),y0,y1)) λx=>sum x (λd=>ae (!decide (d.2.1<0)) (ret (wU (wU (d.2.2.2.2.2.1*4294967296)+d.2.2.2.2.2.2.2.2.1),v9 (wU (wU (wU (d.2.2.2.2.2.2.2.1*4294967296)+d.2.2.2.2.1)-wU (d.2.2.2.2.2.2.2.2.1*d.1))) (2^min (z4 d.2.1) 64))) no) λx=>sum x (λd=>ae (!decide (d.2.1<0)) (ret (wU (wU (d.2.2.2.2.2.1*4294967296)+d.2.2.2.2.2.2.2.2.1),v9 (wU (wU (wU (d.2.2.2.2.2.2.2.1*4294967296)+d.2.2.2.2.1)-wU (d.2.2.2.2.2.2.2.2.1*d.1))) (2^min (z4 d.2.1) 64))) no) λd=>ae (!decide (d.2.1<0)) (ret (wU (wU (d.2.2.2.2.2.1*4294967296)+d.2.2.2.2.2.2.2.2.1),v9 (wU (wU (wU (d.2.2.2.2.2.2.2.1*4294967296)+d.2.2.2.2.1)-wU (d.2.2.2.2.2.2.2.2.1*d.1))) (2^min (z4 d.2.1) 64))) no) no) λx=>sum x (λd=>let y0:=wU (wU (wU (d.2.2.2.2.1*4294967296)+d.2.2.2.2.2.1)-wU (d.2.2.2.2.2.2.2.1*d.1));let y1:=wU (t8 y0 d.2.2.1);ae (!decide (d.2.2.1=0)) (opt (ru (d.1,d.2.1,d.2.2.1,d.2.2.2.1,d.2.2.2.2.2.2.1,d.2.2.2.2.2.2.2.1,wU (y0-wU (y1*d.2.2.1)),y0,y1)) λx=>sum x (λd=>ae (!decide (d.2.1<0)) (ret (wU (wU (d.2.2.2.2.2.1*4294967296)+d.2.2.2.2.2.2.2.2.1),v9 (wU (wU (wU (d.2.2.2.2.2.2.2.1*4294967296)+d.2.2.2.2.1)-wU (d.2.2.2.2.2.2.2.2.1*d.1))) (2^min (z4 d.2.1) 64))) no) λx=>sum x (λd=>ae (!decide (d.2.1<0)) (ret (wU (wU (d.2.2.2.2.2.1*4294967296)+d.2.2.2.2.2.2.2.2.1),v9 (wU (wU (wU (d.2.2.2.2.2.2.2.1*4294967296)+d.2.2.2.2.1)-wU (d.2.2.2.2.2.2.2.2.1*d.1))) (2^min (z4 d.2.1) 64))) no) λd=>ae (!decide (d.2.1<0)) (ret (wU (wU (d.2.2.2.2.2.1*4294967296)+d.2.2.2.2.2.2.2.2.1),v9 (wU (wU (wU (d.2.2.2.2.2.2.2.1*4294967296)+d.2.2.2.2.1)-wU (d.2.2.2.2.2.2.2.2.1*d.1))) (2^min (z4 d.2.1) 64))) no) no) λd=>let y0:=wU (wU (wU (d.2.2.2.2.1*4294967296)+d.2.2.2.2.2.1)-wU (d.2.2.2.2.2.2.2.1*d.1));let y1:=wU (t8 y0 d.2.2.1);ae (!decide (d.2.2.1=0)) (opt (ru (d.1,d.2.1,d.2.2.1,d.2.2.2.1,d.2.2.2.2.2.2.1,d.2.2.2.2.2.2.2.1,wU (y0-wU (y1*d.2.2.1)),y0,y1)) λx=>sum x (λd=>ae (!decide (d.2.1<0)) (ret (wU (wU (d.2.2.2.2.2.1*4294967296)+d.2.2.2.2.2.2.2.2.1),v9 (wU (wU (wU (d.2.2.2.2.2.2.2.1*4294967296)+d.2.2.2.2.1)-wU (d.2.2.2.2.2.2.2.2.1*d.1))) (2^min (z4 d.2.1) 64))) no) λx=>sum x (λd=>ae (!decide (d.2.1<0)) (ret (wU (wU (d.2.2.2.2.2.1*4294967296)+d.2.2.2.2.2.2.2.2.1),v9 (wU (wU (wU (d.2.2.2.2.2.2.2.1*4294967296)+d.2.2.2.2.1)-wU (d.2.2.2.2.2.2.2.2.1*d.1))) (2^min (z4 d.2.1) 64))) no) λd=>ae (!decide (d.2.1<0)) (ret (wU (wU (d.2.2.2.2.2.1*4294967296)+d.2.2.2.2.2.2.2.2.1),v9 (wU (wU (wU (d.2.2.2.2.2.2.2.1*4294967296)+d.2.2.2.2.1)-wU (d.2.2.2.2.2.2.2.2.1*d.1))) (2^min (z4 d.2.1) 64))) no) no) no) no) no) no) no)))
def IH:=λx0 x1 x2=>(acs pN Jw Jz x0 x1 x2).val
abbrev II:=Cg×(LT wc Ju)×(LT we Jx)
def QL (p:II):KK:=⟨[Mj p.1],⟨[⟨17,(0::1::rg 3 5 (12::rg 17 53 (rg 78 27 (rg 113 22 (rg 70 8 []))))),[]⟩,⟨24,(0::1::rg 3 5 (11::12::13::rg 19 86 (rg 113 22 (rg 105 8 [])))),[]⟩],[gx 17 0 wc ajc p.2.1,gx 24 0 we ajd p.b],[],[],(some ⟨0,(rg 0 6 (rg 8 127 [])),[]⟩)⟩,0,241⟩
theorem ayN (p:II):LI (QL p) 17 wc ajc (Jv):=λ_ d c K=>by kernel_rfl
theorem ayO (p:II):LI (QL p) 24 we ajd (Jy):=λ_ d c K=>by kernel_rfl
theorem aHG (p:II):D2 (QL p) aq2 (lf Xh) λb=>acs p.1 p.2.1 p.b b.1 b.2.1 b.b:=λb=>by kernel_rfl
abbrev QM:II:=(pN,Jw,Jz)
theorem aHH [ay]:SC (aq5 IH):=sc (kS (k:=QL QM) (.c ag5 (.nil _)) [17,24] [] ⟨kL (ayN QM),⟨kL (ayO QM),trivial⟩⟩ trivial (aHG QM))
def aAA:=qa (pl (c agb gZ) nil)
def ag7:=qe ax0
abbrev aAB:=ag7.B
abbrev al0:=Int->Int->Int->Option aAB
def al1 (g:al0):Ct:=(200,FC aAA (lf ag7) (λb=>g b.1.1 b.1.2 b.2))
def al2 (yU:alT)(iJ:QF)(QN:aq4)(fB:wb)(fC:A8)(x0:Int)(x1:Int)(x2:Int):Pg aAB:=ae (x2==0) (ret (0,false)) (opt (yU x0 x1) λd=>let y0:= !d.2==decide (x2<0);opt (iJ x2) λak=>let se:=wU (t8 d.1.1 ak);let y1:= !decide (ak=0);ae y1 (ae y1 (opt (QN (Int.tmod d.1.1 ak) d.1.2 ak) λd=>ae (decide (d.2>=wU (ak-d.2))) (opt (fB se d.1 0 1) λd=>opt (fC d.1 d.2 y0) λd=>ret d) (opt (fC se d.1 y0) λd=>ret d)) no) no)
def BP:=λx0 x1 x2=>(al2 FI sj IH jz jA x0 x1 x2).val
theorem aNK:∀yU iJ QN fB fC,D0 [alU yU,QG iJ,aq5 QN,GU fB,GV fC] 200 aAA (lf ag7) λb=>al2 yU iJ QN fB fC b.1.1 b.1.2 b.2:=λ_ _ _ _ _ b=>by kernel_rfl
theorem aAC [ay]:SC (al1 BP):=s0 (.c aAz (.c ack (.c aHH (.c OV (.c OY (.nil _)))))) (aNK FI sj IH jz jA)
def avy:=qa (pr (cu aS (c agb gZ)) bK)
def acu:=qe rf
abbrev avz:=acu.B
abbrev ag8:=Int->Int->Int->Bool->Option avz
def ag9 (g:ag8):Ct:=(128,FC avy (lf acu) (λb=>g b.1.1.1 b.1.1.2 b.1.2 b.2))
def GW (jZ:W3)(yV:al0)(nq:IF)(x0:Int)(x1:Int)(x2:Int)(x3:Bool):Pg avz:=let y0:=decide (x0<0);ae (x2==0) (ae (x0==0&&(x1==0&&true)) (ret (0,true)) (opt (jZ y0) λd=>ret (d,true))) (opt (yV x0 x1 x2) λd=>opt (nq d.1 d.2 (!y0==decide (x2<0)) x3) λd=>ret d)
def su:=λx0 x1 x2 x3=>(GW oc BP kH x0 x1 x2 x3).val
theorem aK4:∀jZ yV nq,D0 [Xa jZ,al1 yV,QJ nq] 128 avy (lf acu) λb=>GW jZ yV nq b.1.1.1 b.1.1.2 b.1.2 b.2:=λ_ _ _ b=>by kernel_rfl
theorem avA [ay]:SC (ag9 su):=s0 (.c ag3 (.c aAC (.c acp (.nil _)))) (aK4 oc BP kH)
def aez:=qa (pr (cu aS Fs) bK)
def Mk:=qe rf
abbrev aeA:=Mk.B
abbrev cA:=Int->Int->Int->Bool->Option aeA
def dA (g:cA):Ct:=(78,FC aez (lf Mk) (λb=>g b.1.1 b.1.2.1 b.1.b b.2))
def GX (ax:bS)(c9:oG)(vn:ag8)(x0:Int)(x1:Int)(x2:Int)(x3:Bool):Pg aeA:=opt (ax x0 x3) λd=>opt (ax x1 d.2) λak=>opt (c9 d.1 ak.1) λd=>opt (ax x2 ak.2) λaK=>opt (vn d.1 d.2 aK.1 aK.2) λd=>ret d
def aY:=λx0 x1 x2 x3=>(GX aP fK su x0 x1 x2 x3).val
theorem ayP:∀ax c9 vn,D0 [dD ax,yT c9,ag9 vn] 78 aez (lf Mk) λb=>GX ax c9 vn b.1.1 b.1.2.1 b.1.b b.2:=λ_ _ _ b=>by kernel_rfl
theorem dN [ay]:SC (dA aY):=s0 (.c dI (.c BO (.c avA (.nil _)))) (ayP aP fK su)
def Ml:=qa (pr (c ai (c ai aKh)) (cu as1 bK))
def A':=qe aPV
abbrev Mm:=A'.B
abbrev Cj:=Int->Int->Int->Int->Bool->Option Mm
def Ck (g:Cj):Ct:=(194,FC Ml (lf A') (λb=>g b.1.1 b.1.2.1 b.1.b.1 b.1.b.2 b.2))
def Cl (av:cA)(x0:Int)(x1:Int)(x2:Int)(x3:Int)(x4:Bool):Pg Mm:=opt (av (wI (x1-x0)) x2 x3 x4) λd=>ret (wI (x0+d.1),d.2)
def j6:=λx0 x1 x2 x3 x4=>(Cl aY x0 x1 x2 x3 x4).val
theorem aha:∀av,D0 [dA av] 194 Ml (lf A') λb=>Cl av b.1.1 b.1.2.1 b.1.b.1 b.1.b.2 b.2:=λ_ b=>by kernel_rfl
theorem Mn [ay]:SC (Ck j6):=s0 (.c dN (.nil _)) (aha aY)
def aq6:=qa (pl zW nil)
def Xi:=qe aP2
abbrev aq7:=Xi.B
abbrev acv:=Int->Int->Option aq7
def acw (g:acv):Ct:=(132,FC aq6 (lf Xi) (λb=>g b.1 b.2))
def acx (iJ:QF)(kv:Dw)(jt:Dx)(pM:WZ)(x0:Int)(x1:Int):Pg aq7:=ae (decide (x1<0)) (ret ((0,0),false)) (ae (decide (x1>127)) (ret ((0,0),false)) (opt (iJ x0) λd=>opt (kv 0 d x1) λak=>opt (jt ak.1 ak.2 x1) λaK=>ae (!(aK.1==0&&(aK.2==d&&true))) (ret ((0,0),false)) (opt (pM ak.1 ak.2 (decide (x0<0))) λd=>ae (!d.2) (ret ((0,0),false)) (ret (d.1,true)))))
def vT:=λx0 x1=>(acx sj hM js nm x0 x1).val
theorem aHI:∀iJ kv jt pM,D0 [QG iJ,Jq kv,Jr jt,W0 pM] 132 aq6 (lf Xi) λb=>acx iJ kv jt pM b.1 b.2:=λ_ _ _ _ b=>by kernel_rfl
theorem aq8 [ay]:SC (acw vT):=s0 (.c ack (.c Tu (.c Tv (.c alQ (.nil _))))) (aHI sj hM js nm)
def aq9:=qa (pr (cu aS Fs) bK)
def Xj:=qe rf
abbrev ara:=Xj.B
abbrev cT:=Int->Int->Int->Bool->Option ara
def gR (g:cT):Ct:=(82,FC aq9 (lf Xj) (λb=>g b.1.1 b.1.2.1 b.1.b b.2))
def IJ (ax:bS)(sw:acv)(vn:ag8)(x0:Int)(x1:Int)(x2:Int)(x3:Bool):Pg ara:=opt (ax x0 x3) λd=>opt (ax x1 d.2) λak=>ae (decide (x2<0)) (ret (0,true)) (ae (decide (x2>66)) (ret (0,true)) (opt (sw d.1 x2) λd=>opt (vn d.1.1 d.1.2 ak.1 ak.2) λd=>ret d))
def bl:=λx0 x1 x2 x3=>(IJ aP vT su x0 x1 x2 x3).val
theorem aHJ:∀ax sw vn,D0 [dD ax,acw sw,ag9 vn] 82 aq9 (lf Xj) λb=>IJ ax sw vn b.1.1 b.1.2.1 b.1.b b.2:=λ_ _ _ b=>by kernel_rfl
theorem iK [ay]:SC (gR bl):=s0 (.c dI (.c aq8 (.c avA (.nil _)))) (aHJ aP vT su)
def aeB:=qa (pl (c Wy (cl Wy nil)) nil)
def Mo:=qe AT
abbrev aeC:=Mo.B
abbrev GY:=Int->Int->Int->Int->Option aeC
def aeD (g:GY):Ct:=(243,FC aeB (lf Mo) (λb=>g b.1.1 b.1.2 b.2.1 b.b))
def O1 (x0:Int)(x1:Int)(x2:Int)(x3:Int):Pg aeC:=ae (decide (x0<x2)) (ret true) (ae (x0==x2) (ret (decide (x1<x3))) (ret false))
def wg:=λx0 x1 x2 x3=>(O1 x0 x1 x2 x3).val
theorem ayQ:D0 [] 243 aeB (lf Mo) λb=>O1 b.1.1 b.1.2 b.2.1 b.b:=λb=>by kernel_rfl
theorem ayR [ay]:SC (aeD wg):=s0 (.nil _) ayQ
def aaJ:=qa (pl (c Wy (cl Wy nil)) nil)
def Ko:=qe aKl
abbrev aaK:=Ko.B
abbrev Mp:=Int->Int->Int->Int->Option aaK
def aaL (g:Mp):Ct:=(244,FC aaJ (lf Ko) (λb=>g b.1.1 b.1.2 b.2.1 b.b))
def Mq (al3:aYi)(x0:Int)(x1:Int)(x2:Int)(x3:Int):Pg aaK:=opt (al3 x1 x3 0) λd=>opt (al3 x0 x2 d.2) λak=>ret (ak.1,d.1)
def yW:=λx0 x1 x2 x3=>(Mq aet x0 x1 x2 x3).val
theorem avB:∀al3,D0 [aNE al3] 244 aaJ (lf Ko) λb=>Mq al3 b.1.1 b.1.2 b.2.1 b.b:=λ_ b=>by kernel_rfl
theorem avC [ay]:SC (aaL yW):=s0 (.c aTZ (.nil _)) (avB aet)
def avD:=qa (pl aEh nil)
def acy:=qe ax0
abbrev avE:=acy.B
abbrev avF:=Int->Int->Option avE
def avG (g:avF):Ct:=(202,FC avD (lf acy) (λb=>g b.1 b.2))
def yF:=qs (st (pr (us 4 (cu (app 0 2) (cu aMD (cl ai (us 44 nil))))) (pl (c (so axQ) (cl (so axQ) nil)) nil)))
def aFK:=qs (st (pr (us 4 (cu (app 0 2) (cu aMD (c ai (us 12 aVN))))) (pl (c (so axQ) (cl (so axQ) nil)) nil)))
abbrev Mr:=((Int×Bool)×(Int×Int)×Int×Int)
def al4 {ρ:Type}(x:Mr)(K:AX->St->Option ρ):Option ρ:=(λd=>K (.ex 0) (aFK.em ((d.1.1,d.1),d.2))) x
def Ms (kv:Dw)(fB:wb)(jt:Dx)(O2:GY)(avH:Mp)(d:yF.B):PL yF Mr:=let y0:=wI (d.1-2);let y1:=decide (d.1>=0);ae y1 (opt (kv 0 1 d.1) λak=>opt (fB d.2.2.1 d.2.2.2 ak.1 ak.2) λaK=>opt (jt d.2.2.1 d.2.2.2 1) λbJ=>opt (O2 d.2.1.1 d.2.1.2 aK.1 aK.2) λcI=>ae (!cI) (opt (avH d.2.1.1 d.2.1.2 aK.1 aK.2) λd=>opt (fB bJ.1 bJ.2 ak.1 ak.2) λeV=>ret (ww (y0,d,eV))) (ret (ww (y0,d.2.1,bJ)))) (ret (wt ((d.1,y1),d.2)))
def Xk:=bE (Ms hM jz js wg yW) 2000
def ahb (fB:wb)(O2:GY)(fC:A8)(eB:LT yF Mr)(x0:Int)(x1:Int):Pg avE:=ae (decide (x0<0)) (ret (0,false)) (opt (eB (126,(wU x0,x1),0,0)) λd=>opt (O2 d.2.2.1 d.2.2.2 d.2.1.1 d.2.1.2) λak=>ae ak (opt (fB d.2.2.1 d.2.2.2 0 1) λd=>opt (fC d.1 d.2 false) λd=>ret d) (opt (fC d.2.2.1 d.2.2.2 false) λd=>ret d))
def Mt:=λx0 x1=>(ahb jz wg jA Xk x0 x1).val
abbrev Vy:=Dw×wb×Dx×GY×Mp×A8×(LT yF Mr)
def ahc (p:Vy):KK:=⟨[Jq p.1,GU p.2.1,Jr p.b.1,aeD p.b.2.1,aaL p.c.1,GV p.c.2.1],⟨[⟨5,(rg 0 4 (rg 7 44 [])),[]⟩],[gx 5 0 yF al4 p.c.b],[],[],(some ⟨0,(0::1::rg 4 47 []),[]⟩)⟩,0,202⟩
theorem aCH (p:Vy):LI (ahc p) 5 yF al4 (Ms p.1 p.2.1 p.b.1 p.b.2.1 p.c.1):=λ_ d c K=>by kernel_rfl
theorem aK5 (p:Vy):D2 (ahc p) avD (lf acy) λb=>ahb p.2.1 p.b.2.1 p.c.2.1 p.c.b b.1 b.2:=λb=>by kernel_rfl
abbrev ahd:Vy:=(hM,jz,js,wg,yW,jA,Xk)
theorem aK6 [ay]:SC (avG Mt):=sc (kS (k:=ahc ahd) (.c Tu (.c OV (.c Tv (.c ayR (.c avC (.c OY (.nil _))))))) [5] [] ⟨kL (aCH ahd),trivial⟩ trivial (aK5 ahd))
def aAD:=qa (pr (cu aS aEh) bK)
def ahe:=qe rf
abbrev aAE:=ahe.B
abbrev aaM:=Int->Int->Bool->Option aAE
def al5 (g:aaM):Ct:=(133,FC aAD (lf ahe) (λb=>g b.1.1 b.1.2 b.2))
def al6 (Vz:avF)(ax:bS)(x0:Int)(x1:Int)(x2:Bool):Pg aAE:=opt (Vz x0 x1) λd=>ae (!d.2) (opt (ax 1152921504606846977 x2) λd=>ret d) (opt (ax d.1 x2) λd=>ret d)
def yX:=λx0 x1 x2=>(al6 Mt aP x0 x1 x2).val
theorem aNL:∀Vz ax,D0 [avG Vz,dD ax] 133 aAD (lf ahe) λb=>al6 Vz ax b.1.1 b.1.2 b.2:=λ_ _ b=>by kernel_rfl
theorem aAF [ay]:SC (al5 yX):=s0 (.c aK6 (.c dI (.nil _))) (aNL Mt aP)
def avI:=qa (pr (cu aS gZ) bK)
def acz:=qe rf
abbrev avJ:=acz.B
abbrev ahf:=Int->Bool->Option avJ
def ahg (g:ahf):Ct:=(81,FC avI (lf acz) (λb=>g b.1 b.2))
def ahh (ax:bS)(sw:acv)(Lc:aaM)(x0:Int)(x1:Bool):Pg avJ:=opt (ax x0 x1) λd=>ae (decide (d.1<0)) (ret (0,true)) (opt (sw d.1 30) λak=>opt (Lc ak.1.1 ak.1.2 d.2) λd=>ret d)
def Cm:=λx0 x1=>(ahh aP vT yX x0 x1).val
theorem aK7:∀ax sw Lc,D0 [dD ax,acw sw,al5 Lc] 81 avI (lf acz) λb=>ahh ax sw Lc b.1 b.2:=λ_ _ _ b=>by kernel_rfl
theorem avK [ay]:SC (ahg Cm):=s0 (.c dI (.c aq8 (.c aAF (.nil _)))) (aK7 aP vT yX)
def avL:=qa (pl gZ nil)
def acA:=qe Fq
abbrev avM:=acA.B
abbrev yY:=Int->Option avM
def Cn (g:yY):Ct:=(129,FC avL (lf acA) (λb=>g b))
def VA (x0:Int):Pg avM:=let y0:=Int.tmod x0 6746518852;ae (decide (y0>3373259426)) (ret (wI (y0-6746518852))) (ae (decide (y0<= -3373259426)) (ret (wI (y0+6746518852))) (ret y0))
def lq:=λx0=>(VA x0).val
theorem aK8:D0 [] 129 avL (lf acA) λb=>VA b:=λb=>by kernel_rfl
theorem GZ [ay]:SC (Cn lq):=s0 (.nil _) aK8
def aJt:=qa (pl gZ nil)
def atE:=qe Fq
abbrev aeE:=atE.B
abbrev O3:=Int->Option aeE
def aeF (g:O3):Ct:=(36,FC aJt (lf atE) (λb=>g b))
def D7 (x0:Int):Pg aeE:=ae (decide (x0>=1152921504606846976)) (ret 1152921504606846976) (ae (decide (x0<= -1152921504606846976)) (ret 1152921504606846976) (ae (decide (x0<0)) (ret (wI (0-x0))) (ret x0)))
def yG:=λx0=>(D7 x0).val
theorem aT3:D0 [] 36 aJt (lf atE) λb=>D7 b:=λb=>by kernel_rfl
theorem apr [ay]:SC (aeF yG):=s0 (.nil _) aT3
def aJu:=qa (pr (cu aS zW) bK)
def atF:=qe rf
abbrev aJv:=atF.B
abbrev aeG:=Int->Int->Bool->Option aJv
def aps (g:aeG):Ct:=(130,FC aJu (lf atF) (λb=>g b.1.1 b.1.2 b.2))
def apt (aD:bX)(x0:Int)(x1:Int)(x2:Bool):Pg aJv:=opt (aD x0 x1 30 x2) λd=>ret d
def Ld:=λx0 x1 x2=>(apt aZ x0 x1 x2).val
theorem aT4:∀aD,D0 [fF aD] 130 aJu (lf atF) λb=>apt aD b.1.1 b.1.2 b.2:=λ_ b=>by kernel_rfl
theorem ayS [ay]:SC (aps Ld):=s0 (.c gk (.nil _)) (aT4 aZ)
def aFL:=qa (pl gZ nil)
def al7:=qe aWc
abbrev aFM:=al7.B
abbrev atG:=Int->Option aFM
def aFN (g:atG):Ct:=(242,FC aFL (lf al7) (λb=>g b))
def atH (x0:Int):Pg aFM:=ret (v9 x0 9223372036854775808,wU x0)
def Xl:=λx0=>(atH x0).val
theorem aRd:D0 [] 242 aFL (lf al7) λb=>atH b:=λb=>by kernel_rfl
theorem aRe [ay]:SC (aFN Xl):=s0 (.nil _) aRd
def aAG:=qa (pl (c agb aEh) nil)
def ahi:=qe aP2
abbrev aAH:=ahi.B
abbrev al8:=Int->Int->Int->Int->Option aAH
def aAI (g:al8):Ct:=(187,FC aAG (lf ahi) (λb=>g b.1.1 b.1.2 b.2.1 b.b))
def al9 (nk:avq)(x0:Int)(x1:Int)(x2:Int)(x3:Int):Pg aAH:=let y0:=decide (x0<0);opt (nk x1 x3 0) λd=>opt (nk (wU x0) (wU x2) d.2) λak=>ae (!y0==decide (x2<0)) (ret ((wI ak.1,d.1),true)) (ret ((wI ak.1,d.1),decide (wI ak.1<0)==y0))
def Le:=λx0 x1 x2 x3=>(al9 Dt x0 x1 x2 x3).val
theorem aNM:∀nk,D0 [alM nk] 187 aAG (lf ahi) λb=>al9 nk b.1.1 b.1.2 b.2.1 b.b:=λ_ b=>by kernel_rfl
theorem aNN [ay]:SC (aAI Le):=s0 (.c apq (.nil _)) (aNM Dt)
def aAJ:=qa (dp (cl aVw nil) λa=>(cl (cl (gs a.1 aJ8) nil) nil))
def ahj:=qe (res (pl aWd (pu aaf nil)))
abbrev aAK:=ahj.B
abbrev ti:=Nat->NI->NI->Bool->Option aAK
def Lf (g:ti):Ct:=(117,vR 0 [.i .i64,.i .u64] (FC aAJ (lf ahj) (λb=>g b.1.1 b.2.1 b.b b.1.2)))
def Ba:=qs (st (dp (us 2 (cu aMD (us 1 (cu az0 (us 4 (c aVw (c ai aPs))))))) λa=>(pl (c (so (cl (gs a.1.1 aJ8) nil)) (cu aP3 ab0)) nil)))
def aje:=qs (st (pu (us 2 (cu aMD (cu uy (us 23 nil)))) (pl (cl aPZ (cu aP3 nil)) nil)))
def aCI:=qs (st (pr (us 2 (cu aMD (us 1 (cu az0 (us 4 (c aVw aV5)))))) (pl (c aPZ (cu aP3 ab0)) nil)))
abbrev IK:=aje.B⊕(aMw×(NI×NI)×Int×Int)
def arb {ρ:Type}(x:IK)(K:AX->St->Option ρ):Option ρ:=(t9 (λd=>K .ret (aje.em d)) (λd=>K (.ex 0) (aCI.em (d.1,(d.1.1.1,d.2.1),d.b)))) x
def D8 (aNO:al8)(d:Ba.B):PL Ba IK:=let y0:=z4 d.1.2.2;let y1:=decide (d.1.2.2<d.1.2.1);ae y1 (ae (bf d.1.2.2 d.1.1.1) (opt (aNO d.2.2.1 d.2.2.2 (d.2.1.1 y0) (d.2.1.2 y0)) λak=>ae (!ak.2) (ret (wt (ww (d.1.1.1,d.2.1)))) (ret (ww ((d.1.1,d.1.2.1,wI (d.1.2.2+1)),d.2.1,ak.1)))) no) (ret (wt (wt ((d.1.1,d.1.2.1,d.1.2.2,y1),d.2))))
def IL:=bE (D8 Le) 2000
def aaN (eB:LT Ba IK)(x0:Nat)(x1:Nat->Int)(x2:Nat->Int)(w0:Bool):Pg aAK:=ae (z9 x0 x0) (opt (eB (((x0,w0),ws x0,0),(x1,x2),0,0)) λx=>sum x (λd=>ret ((0,0),false)) λd=>ret (d.2.2,true)) no
def kT:=λx0 x1 x2 w0=>(aaN IL x0 x1 x2 w0).val
abbrev aaO:=al8×(LT Ba IK)
def ama (p:aaO):KK:=⟨[aAI p.1],⟨[⟨3,(0::1::3::rg 5 4 (rg 12 15 [])),[]⟩],[gx 3 1 Ba arb p.2],[],[],(some ⟨0,(0::1::rg 4 23 []),[]⟩)⟩,1,117⟩
theorem aFO (p:aaO):LI (ama p) 3 Ba arb (D8 p.1):=λ_ d c K=>by kernel_rfl
theorem aNP (p:aaO):D2 (ama p) aAJ (lf ahj) λb=>aaN p.2 b.1.1 b.2.1 b.b b.1.2:=λb=>by kernel_rfl
abbrev amb:aaO:=(Le,IL)
theorem RG [ay]:SC (Lf kT):=sc (Sound.nil 0 [.i .i64,.i .u64]<|kS (k:=ama amb) (.c aNN (.nil _)) [3] [] ⟨kL (aFO amb),trivial⟩ trivial (aNP amb))
def arc:=qa (dp (cu aS axT) λa=>(c xU (cl (cl (gs a.1 oF) nil) nil)))
def Xm:=qe aKm
abbrev ard:=Xm.B
abbrev fG:=Nat->Bool->NI->Bool->Option ard
def pE (g:fG):Ct:=(201,vR 1 [.i .i64] (FC arc (lf Xm) (λb=>g b.1.1 b.2.1 b.b b.1.2)))
def wh:=qs (st (dp (cu aS (us 4 (cu az0 (us 4 (c IC (c ai aPt)))))) λa=>(pl (c cG (c (so (cl (gs a.1.1 oF) nil)) ab0)) cY)))
def aCJ:=qs (st (pr (cu aS (us 4 (cu az0 (us 4 (c IC (c ai aPC)))))) (pl (c cG (c J8 ab0)) cY)))
abbrev JA:=(aMw×Bool×NI×Int×Int)
def ajf {ρ:Type}(x:JA)(K:AX->St->Option ρ):Option ρ:=(λd=>K (.ex 0) (aCJ.em (d.1,d.2.1,(d.1.1.1,d.b.1),d.b.2))) x
def JB (ax:bS)(aRf:atG)(yZ:ti)(d:wh.B):PL wh JA:=let y0:=decide (d.1.2.2<d.1.2.1);ae y0 (ae (bf d.1.2.2 d.1.1.1) (opt (ax (d.2.2.1 (z4 d.1.2.2)) d.2.1) λak=>opt (aRf ak.1) λaK=>opt (yZ 2 (λj=>bif z9 j 1 then aK.1 else bif z9 j 0 then d.2.2.2.1 else d.2.2.2.1) (λj=>bif z9 j 1 then aK.2 else bif z9 j 0 then d.2.2.2.2 else d.2.2.2.2) true) λbJ=>ret (ww ((d.1.1,d.1.2.1,wI (d.1.2.2+1)),ak.2,d.2.2.1,bJ.1))) no) (ret (wt ((d.1.1,d.1.2.1,d.1.2.2,y0),d.2)))
def Tz:=bE (JB aP Xl kT) 2000
def QO (vS:D5)(nq:IF)(eB:LT wh JA)(x0:Nat)(x1:Bool)(x2:Nat->Int)(w0:Bool):Pg ard:=ae (z9 x0 x0) (opt (eB (((x0,w0),ws x0,0),x1,x2,0,0)) λd=>opt (vS d.2.2.2.1 d.2.2.2.2 0) λak=>opt (nq ak.1 ak.2 (decide (d.2.2.2.1<0)) d.2.1) λd=>ret d) no
def cJ:=λx0 x1 x2 w0=>(QO sk kH Tz x0 x1 x2 w0).val
abbrev QP:=bS×atG×ti×D5×IF×(LT wh JA)
def acB (p:QP):KK:=⟨[dD p.1,aFN p.2.1,Lf p.b.1,QI p.b.2.1,QJ p.c.1],⟨[⟨3,(rg 1 4 (rg 6 4 (rg 13 26 []))),[]⟩],[gx 3 2 wh ajf p.c.2],[0],[],(some ⟨0,(rg 0 4 (rg 5 34 [])),[]⟩)⟩,2,201⟩
theorem ayT (p:QP):LI (acB p) 3 wh ajf (JB p.1 p.2.1 p.b.1):=λ_ d c K=>by kernel_rfl
theorem aHK (p:QP):D2 (acB p) arc (lf Xm) λb=>QO p.b.2.1 p.c.1 p.c.2 b.1.1 b.2.1 b.b b.1.2:=λb=>by kernel_rfl
abbrev acC:QP:=(aP,Xl,kT,sk,kH,Tz)
theorem sy [ay]:SC (pE cJ):=sc (Sound.nil 1 [.i .i64]<|kS (k:=acB acC) (.c dI (.c aRe (.c RG (.c aco (.c acp (.nil _)))))) [3] [] ⟨kL (ayT acC),trivial⟩ trivial (aHK acC))
def amc:=qa (dp (cu aS aPG) λa=>(c xU (cl (cl (gs a.2.1 oF) nil) nil)))
def TA:=qe aKm
abbrev amd:=TA.B
abbrev Xn:=Int->Nat->Bool->NI->Bool->Option amd
def Xo (g:Xn):Ct:=(131,vR 2 [.i .i64] (FC amc (lf TA) (λb=>g b.1.1 b.1.2.1 b.2.1 b.b b.1.b)))
def mQ:=qs (st (pr (cu aS (c ai (us 5 (c ai (us 6 (c aWL (c ai aJ5))))))) (pl (c cG ak9) cY)))
def aeH:=qs (st (pr (cu aS (c ai (us 5 (c ai (us 6 (c aWL (c ai aJ9))))))) (pl (c cG ak9) cY)))
abbrev Bc:=aeH.B
def aeI {ρ:Type}:=@ef Bc ((.ex 0)) aeH ρ
def O4 (jT:aeG)(cy:fG)(d:mQ.B):PL mQ Bc:=let n1:=d.1.2.2;let n2:=n1.2.2;let y0:=decide (n2<n1.2.1);ae y0 (ae (bf n2 n1.1.1) (opt (jT d.1.1 d.1.2.1 d.2.1) λak=>opt (cy 2 ak.2 (cr (d.2.2.2 (1+z4 n2)) [ak.1,d.2.2.2 (1+z4 n2)]) true) λaK=>ret (ww ((d.1.1,aK.1,n1.1,n1.2.1,wI (n2+1)),aK.2,d.2.2))) no) (ret (wt ((d.1.1,d.1.2.1,n1.1,n1.2.1,n2,y0),d.2)))
def O5:=bE (O4 Ld cJ) 2000
def Xp (eB:LT mQ Bc)(x0:Int)(x1:Nat)(x2:Bool)(x3:Nat->Int)(w0:Bool):Pg amd:=let y0:=x1-1;ae (bf 0 x1) (ae (HE 1 x1) (opt (eB ((x0,x3 0,(y0,w0&&true),ws y0,0),x2,x1,x3)) λd=>ret (d.1.2.1,d.2.1)) no) no
def ns:=λx0 x1 x2 x3 w0=>(Xp O5 x0 x1 x2 x3 w0).val
abbrev Mu:=aeG×fG×(LT mQ Bc)
def Xq (p:Mu):KK:=⟨[aps p.1,pE p.2.1],⟨[⟨3,(rg 2 5 (rg 8 6 (rg 17 13 []))),[]⟩],[gx 3 2 mQ aeI p.b],[0],[],(some ⟨0,(rg 0 6 (rg 7 23 [])),[]⟩)⟩,2,131⟩
theorem avN (p:Mu):LI (Xq p) 3 mQ aeI (O4 p.1 p.2.1):=λ_ d c K=>by kernel_rfl
theorem aFP (p:Mu):D2 (Xq p) amc (lf TA) λb=>Xp p.b b.1.1 b.1.2.1 b.2.1 b.b b.1.b:=λb=>by kernel_rfl
abbrev Xr:Mu:=(Ld,cJ,O5)
theorem ame [ay]:SC (Xo ns):=sc (Sound.nil 2 [.i .i64]<|kS (k:=Xq Xr) (.c ayS (.c sy (.nil _))) [3] [] ⟨kL (avN Xr),trivial⟩ trivial (aFP Xr))
def aAL:=qa (pr (cu aS gZ) bK)
def ahk:=qe rf
abbrev aAM:=ahk.B
abbrev Lg:=Int->Bool->Option aAM
def Lh (g:Lg):Ct:=(79,FC aAL (lf ahk) (λb=>g b.1 b.2))
def amf (ax:bS)(dw:yY)(dF:O3)(jT:aeG)(gD:Xn)(x0:Int)(x1:Bool):Pg aAM:=opt (ax x0 x1) λd=>opt (dw d.1) λak=>let y0:=wI (3373259426-ak);let y1:=wI (-3373259426-ak);ae (decide (ak>1686629713)) (opt (dF y0) λaK=>let se:=wI (1686629713-aK);ae (decide (aK<=843314857)) (opt (jT y0 y0 d.2) λd=>opt (gD d.1 6 d.2 (cr (-27) [1073741824, -178956971,8947849, -213044,2959, -27]) true) λd=>opt (jT y0 d.1 d.2) λd=>let y0:=if -1073741824>d.1 then -1073741824 else d.1;ret (if 1073741824<y0 then 1073741824 else y0,d.2)) (opt (jT se se d.2) λd=>opt (gD d.1 7 d.2 (cr 2 [1073741824, -536870912,44739243, -1491308,26631, -296,2]) true) λd=>let are:=wI (0-d.1);let y1:=if -1073741824>d.1 then -1073741824 else d.1;let y2:=if -1073741824>are then -1073741824 else are;ae (decide (y0<0)) (ret (if 1073741824<y2 then 1073741824 else y2,d.2)) (ret (if 1073741824<y1 then 1073741824 else y1,d.2)))) (ae (decide (ak< -1686629713)) (opt (dF y1) λaK=>let y0:=wI (1686629713-aK);ae (decide (aK<=843314857)) (opt (jT y1 y1 d.2) λd=>opt (gD d.1 6 d.2 (cr (-27) [1073741824, -178956971,8947849, -213044,2959, -27]) true) λd=>opt (jT y1 d.1 d.2) λd=>let y0:=if -1073741824>d.1 then -1073741824 else d.1;ret (if 1073741824<y0 then 1073741824 else y0,d.2)) (opt (jT y0 y0 d.2) λd=>opt (gD d.1 7 d.2 (cr 2 [1073741824, -536870912,44739243, -1491308,26631, -296,2]) true) λd=>let y0:=wI (0-d.1);let aAN:=if -1073741824>d.1 then -1073741824 else d.1;let y2:=if -1073741824>y0 then -1073741824 else y0;ae (decide (y1<0)) (ret (if 1073741824<y2 then 1073741824 else y2,d.2)) (ret (if 1073741824<aAN then 1073741824 else aAN,d.2)))) (opt (dF ak) λaK=>let y0:=wI (1686629713-aK);ae (decide (aK<=843314857)) (opt (jT ak ak d.2) λd=>opt (gD d.1 6 d.2 (cr (-27) [1073741824, -178956971,8947849, -213044,2959, -27]) true) λd=>opt (jT ak d.1 d.2) λd=>let y0:=if -1073741824>d.1 then -1073741824 else d.1;ret (if 1073741824<y0 then 1073741824 else y0,d.2)) (opt (jT y0 y0 d.2) λd=>opt (gD d.1 7 d.2 (cr 2 [1073741824, -536870912,44739243, -1491308,26631, -296,2]) true) λd=>let y0:=wI (0-d.1);let y1:=if -1073741824>d.1 then -1073741824 else d.1;let y2:=if -1073741824>y0 then -1073741824 else y0;ae (decide (ak<0)) (ret (if 1073741824<y2 then 1073741824 else y2,d.2)) (ret (if 1073741824<y1 then 1073741824 else y1,d.2)))))
def oH:=λx0 x1=>(amf aP lq yG Ld ns x0 x1).val
theorem aNQ:∀ax dw dF jT gD,D0 [dD ax,Cn dw,aeF dF,aps jT,Xo gD] 79 aAL (lf ahk) λb=>amf ax dw dF jT gD b.1 b.2:=λ_ _ _ _ _ b=>by kernel_rfl
theorem RH [ay]:SC (Lh oH):=s0 (.c dI (.c GZ (.c apr (.c ayS (.c ame (.nil _)))))) (aNQ aP lq yG Ld ns)
def aAO:=qa (pr (cu aS gZ) bK)
def ahl:=qe rf
abbrev aAP:=ahl.B
abbrev RI:=Int->Bool->Option aAP
def RJ (g:RI):Ct:=(80,FC aAO (lf ahl) (λb=>g b.1 b.2))
def amg (dw:yY)(eI:Lg)(x0:Int)(x1:Bool):Pg aAP:=opt (dw x0) λd=>opt (eI (wI (1686629713+d)) x1) λd=>ret d
def tj:=λx0 x1=>(amg lq oH x0 x1).val
theorem aNR:∀dw eI,D0 [Cn dw,Lh eI] 80 aAO (lf ahl) λb=>amg dw eI b.1 b.2:=λ_ _ b=>by kernel_rfl
theorem aaP [ay]:SC (RJ tj):=s0 (.c GZ (.c RH (.nil _))) (aNR lq oH)
def arf:=qa (pr (cu aS zW) bK)
def Xs:=qe rf
abbrev arh:=Xs.B
abbrev acD:=Int->Int->Bool->Option arh
def acE (g:acD):Ct:=(257,FC arf (lf Xs) (λb=>g b.1.1 b.1.2 b.2))
def acF (ax:bS)(dF:O3)(aF:cT)(jT:aeG)(gD:Xn)(x0:Int)(x1:Int)(x2:Bool):Pg arh:=opt (ax x0 x2) λd=>let y0:=decide (d.1<0);opt (ax x1 d.2) λak=>let se:=decide (ak.1<0);opt (dF d.1) λaK=>opt (dF ak.1) λbJ=>let are:=if bJ>aK then bJ else aK;opt (dF d.1) λcI=>opt (dF ak.1) λeV=>ae (are==0) (ret (0,ak.2)) (opt (aF (if eV<cI then eV else cI) are 30 ak.2) λdq=>ae (decide (dq.1>444758426)) (opt (aF (wI (dq.1-1073741824)) (wI (dq.1+1073741824)) 30 dq.2) λnu=>opt (jT nu.1 nu.1 nu.2) λtX=>opt (gD tX.1 12 tX.2 (cr (-46684427) [1073741824, -357913941,214748365, -153391689,119304647, -97612893,82595525, -71582788,63161284, -56512728,51130563, -46684427]) true) λpO=>opt (jT nu.1 pO.1 pO.2) λmj=>let aaQ:=wI (843314857+mj.1);let y1:=wI (3373259426-aaQ);let y2:=wI (1686629713-aaQ);let y3:=wI (3373259426-y2);opt (dF d.1) λd=>opt (dF ak.1) λxV=>ae (decide (d>xV)) (ae se (ae y0 (ret (wI (0-y3),mj.2)) (ret (y3,mj.2))) (ae y0 (ret (wI (0-y2),mj.2)) (ret (y2,mj.2)))) (ae se (ae y0 (ret (wI (0-y1),mj.2)) (ret (y1,mj.2))) (ae y0 (ret (wI (0-aaQ),mj.2)) (ret (aaQ,mj.2))))) (opt (jT dq.1 dq.1 dq.2) λnu=>opt (gD nu.1 12 nu.2 (cr (-46684427) [1073741824, -357913941,214748365, -153391689,119304647, -97612893,82595525, -71582788,63161284, -56512728,51130563, -46684427]) true) λtX=>opt (jT dq.1 tX.1 tX.2) λpO=>let aaQ:=wI (0+pO.1);let y1:=wI (1686629713-aaQ);let y2:=wI (3373259426-aaQ);let y3:=wI (3373259426-y1);opt (dF d.1) λd=>opt (dF ak.1) λmj=>ae (decide (d>mj)) (ae se (ae y0 (ret (wI (0-y3),pO.2)) (ret (y3,pO.2))) (ae y0 (ret (wI (0-y1),pO.2)) (ret (y1,pO.2)))) (ae se (ae y0 (ret (wI (0-y2),pO.2)) (ret (y2,pO.2))) (ae y0 (ret (wI (0-aaQ),pO.2)) (ret (aaQ,pO.2))))))
def zY:=λx0 x1 x2=>(acF aP yG bl Ld ns x0 x1 x2).val
theorem aHL:∀ax dF aF jT gD,D0 [dD ax,aeF dF,gR aF,aps jT,Xo gD] 257 arf (lf Xs) λb=>acF ax dF aF jT gD b.1.1 b.1.2 b.2:=λ_ _ _ _ _ b=>by kernel_rfl
theorem ari [ay]:SC (acE zY):=s0 (.c dI (.c apr (.c iK (.c ayS (.c ame (.nil _)))))) (aHL aP yG bl Ld ns)
def arj:=qa (pr (cu aS zW) bK)
def Xt:=qe rf
abbrev ark:=Xt.B
abbrev dr:=Int->Int->Bool->Option ark
def iL (g:dr):Ct:=(212,FC arj (lf Xt) (λb=>g b.1.1 b.1.2 b.2))
def IM (ax:bS)(x0:Int)(x1:Int)(x2:Bool):Pg ark:=opt (ax x0 x2) λd=>opt (ax x1 d.2) λak=>opt (ax (wI (d.1-ak.1)) ak.2) λd=>ret d
def bT:=λx0 x1 x2=>(IM aP x0 x1 x2).val
theorem aHM:∀ax,D0 [dD ax] 212 arj (lf Xt) λb=>IM ax b.1.1 b.1.2 b.2:=λ_ b=>by kernel_rfl
theorem jH [ay]:SC (iL bT):=s0 (.c dI (.nil _)) (aHM aP)
def aFQ:=qa (pr (cu aS (c agd HV)) bK)
def amh:=qe ax2
abbrev aFR:=amh.B
abbrev Kp:=Int->Int->Int->Int->Int->Int->Bool->Option aFR
def Xu (g:Kp):Ct:=(181,FC aFQ (lf amh) (λb=>g b.1.1.1 b.1.1.2.1 b.1.1.b b.1.2.1 b.1.b.1 b.1.b.2 b.2))
def atI (ba:dr)(x0:Int)(x1:Int)(x2:Int)(x3:Int)(x4:Int)(x5:Int)(x6:Bool):Pg aFR:=opt (ba x0 x3 x6) λd=>opt (ba x1 x4 d.2) λak=>opt (ba x2 x5 ak.2) λaK=>ret ((d.1,ak.1,aK.1),aK.2)
def wP:=λx0 x1 x2 x3 x4 x5 x6=>(atI bT x0 x1 x2 x3 x4 x5 x6).val
theorem aRg:∀ba,D0 [iL ba] 181 aFQ (lf amh) λb=>atI ba b.1.1.1 b.1.1.2.1 b.1.1.b b.1.2.1 b.1.b.1 b.1.b.2 b.2:=λ_ b=>by kernel_rfl
theorem ahm [ay]:SC (Xu wP):=s0 (.c jH (.nil _)) (aRg bT)
def avO:=qa (pr (cu aS (c agd gZ)) bK)
def acG:=qe ax2
abbrev avP:=acG.B
abbrev VB:=Int->Int->Int->Int->Bool->Option avP
def VC (g:VB):Ct:=(157,FC avO (lf acG) (λb=>g b.1.1.1 b.1.1.2.1 b.1.1.b b.1.2 b.2))
def ahn (aD:bX)(x0:Int)(x1:Int)(x2:Int)(x3:Int)(x4:Bool):Pg avP:=opt (aD x0 x3 30 x4) λd=>opt (aD x1 x3 30 d.2) λak=>opt (aD x2 x3 30 ak.2) λaK=>ret ((d.1,ak.1,aK.1),aK.2)
def vo:=λx0 x1 x2 x3 x4=>(ahn aZ x0 x1 x2 x3 x4).val
theorem aK9:∀aD,D0 [fF aD] 157 avO (lf acG) λb=>ahn aD b.1.1.1 b.1.1.2.1 b.1.1.b b.1.2 b.2:=λ_ b=>by kernel_rfl
theorem aho [ay]:SC (VC vo):=s0 (.c gk (.nil _)) (aK9 aZ)
def arl:=qa (dp (cu aS axT) λa=>(c xU (cl (cl (gs a.1 oF) nil) nil)))
def Xv:=qe aKm
abbrev arn:=Xv.B
abbrev zZ:=Nat->Bool->NI->Bool->Option arn
def IN (g:zZ):Ct:=(135,vR 1 [.i .i64] (FC arl (lf Xv) (λb=>g b.1.1 b.2.1 b.b b.1.2)))
def wj:=qs (st (pr (cu aS (us 4 (cu az0 (us 6 (c IC (c ai (cl ai (us 19 nil)))))))) (pl (c cG (c J8 ab0)) cY)))
def ajg:=qs (st (pr (cu aS (us 4 (cu az0 (us 6 (c IC (c ai (c ai (cl ab (us 18 nil))))))))) (pl (c cG (c J8 ab0)) cY)))
abbrev JC:=ajg.B
def ajh {ρ:Type}:=@ef JC ((.ex 0)) ajg ρ
def uF (ax:bS)(c9:oG)(yZ:ti)(d:wj.B):PL wj JC:=let y0:=decide (d.1.2.2<d.1.2.1);ae y0 (ae (bf d.1.2.2 d.1.1.1) (opt (ax (d.2.2.1.2 (z4 d.1.2.2)) d.2.1) λak=>opt (c9 ak.1 ak.1) λaK=>opt (yZ 2 (λj=>bif z9 j 1 then aK.1 else bif z9 j 0 then d.2.2.2.1 else d.2.2.2.1) (λj=>bif z9 j 1 then aK.2 else bif z9 j 0 then d.2.2.2.2 else d.2.2.2.2) true) λbJ=>ret (ww ((d.1.1,d.1.2.1,wI (d.1.2.2+1)),ak.2,d.2.2.1,bJ.1))) no) (ret (wt ((d.1.1,d.1.2.1,d.1.2.2,y0),d.2)))
def JD:=bE (uF aP fK kT) 2000
def QQ (Lc:aaM)(eB:LT wj JC)(x0:Nat)(x1:Bool)(x2:Nat->Int)(w0:Bool):Pg arn:=let y0:=if 64<ws x0 then 64 else ws x0;let y1:=z4 y0;ae (HE y0 x0) (opt (eB (((y1,w0&&false),ws y1,0),x1,(x0,x2),0,0)) λd=>opt (Lc d.2.2.2.1 d.2.2.2.2 d.2.1) λd=>ret d) no
def cz:=λx0 x1 x2 w0=>(QQ yX JD x0 x1 x2 w0).val
abbrev QR:=bS×oG×ti×aaM×(LT wj JC)
def acH (p:QR):KK:=⟨[dD p.1,yT p.2.1,Lf p.b.1,al5 p.b.2.1],⟨[⟨3,(rg 1 4 (rg 6 6 (rg 15 19 []))),[]⟩],[gx 3 2 wj ajh p.c],[0],[],(some ⟨0,(rg 0 4 (rg 5 29 [])),[]⟩)⟩,2,135⟩
theorem ayU (p:QR):LI (acH p) 3 wj ajh (uF p.1 p.2.1 p.b.1):=λ_ d c K=>by kernel_rfl
theorem aHN (p:QR):D2 (acH p) arl (lf Xv) λb=>QQ p.b.2.1 p.c b.1.1 b.2.1 b.b b.1.2:=λb=>by kernel_rfl
abbrev acI:QR:=(aP,fK,kT,yX,JD)
theorem QS [ay]:SC (IN cz):=sc (Sound.nil 1 [.i .i64]<|kS (k:=acH acI) (.c dI (.c BO (.c RG (.c aAF (.nil _))))) [3] [] ⟨kL (ayU acI),trivial⟩ trivial (aHN acI))
def aAQ:=qa (pr (cu aS HV) bK)
def ahp:=qe rf
abbrev aAR:=ahp.B
abbrev BQ:=Int->Int->Int->Bool->Option aAR
def RK (g:BQ):Ct:=(158,FC aAQ (lf ahp) (λb=>g b.1.1 b.1.2.1 b.1.b b.2))
def ami (kI:zZ)(x0:Int)(x1:Int)(x2:Int)(x3:Bool):Pg aAR:=opt (kI 3 x3 (cr x0 [x2,x1,x0]) false) λd=>ret d
def qA:=λx0 x1 x2 x3=>(ami cz x0 x1 x2 x3).val
theorem aNS:∀kI,D0 [IN kI] 158 aAQ (lf ahp) λb=>ami kI b.1.1 b.1.2.1 b.1.b b.2:=λ_ b=>by kernel_rfl
theorem aaR [ay]:SC (RK qA):=s0 (.c QS (.nil _)) (aNS cz)
def aFS:=qa (pr (cu aS HV) bK)
def amj:=qe ax2
abbrev aFT:=amj.B
abbrev O6:=Int->Int->Int->Bool->Option aFT
def ahq (g:O6):Ct:=(211,FC aFS (lf amj) (λb=>g b.1.1 b.1.2.1 b.1.b b.2))
def atJ (ax:bS)(x0:Int)(x1:Int)(x2:Int)(x3:Bool):Pg aFT:=opt (ax x0 x3) λd=>opt (ax x1 d.2) λak=>opt (ax x2 ak.2) λaK=>ret ((d.1,ak.1,aK.1),aK.2)
def Co:=λx0 x1 x2 x3=>(atJ aP x0 x1 x2 x3).val
theorem aRh:∀ax,D0 [dD ax] 211 aFS (lf amj) λb=>atJ ax b.1.1 b.1.2.1 b.1.b b.2:=λ_ b=>by kernel_rfl
theorem atK [ay]:SC (ahq Co):=s0 (.c dI (.nil _)) (aRh aP)
def aAS:=qa (pr (cu aS as6) bK)
def ahr:=qe ax3
abbrev aAT:=ahr.B
abbrev RL:=Int->Int->Int->Int->Bool->Option aAT
def aaS (g:RL):Ct:=(134,FC aAS (lf ahr) (λb=>g b.1.1 b.1.2.1 b.1.b.1 b.1.b.2 b.2))
def tk:=qs (st (pr (cu aS (us 2 (cu aqs (cu az1 (us 1 aVA))))) (pl (c cG (cl xX (cu ald nil))) cY)))
def aro:=qs (st (pr (cu aS (us 2 (cu aqs (cu az1 (us 1 (c ai (cl ab (us 10 nil)))))))) (pl (c cG (cl xX (cu ald nil))) cY)))
abbrev IP:=aro.B
def arp {ρ:Type}:=@ef IP ((.ex 0)) aro ρ
def acJ (ax:bS)(d:tk.B):PL tk IP:=let n1:=d.2.2;let n3:=n1.2.1;let n2:=n1.2.2;let y0:=bf d.1 4;let y1:=d.1==3;let y2:=d.1==2;let y3:=d.1==1;let y4:=wI (d.1+1);let y5:=decide (d.1<4);ae y5 (ae y0 (ae y1 (opt (ax n2.2 d.2.1) λak=>ae y0 (ae y1 (ret (ww (y4,ak.2,n1.1,n3,n2.1,ak.1))) (ae y2 (ret (ww (y4,ak.2,n1.1,n3,ak.1,n2.2))) (ae y3 (ret (ww (y4,ak.2,n1.1,ak.1,n2))) (ret (ww (y4,ak.2,ak.1,n1.2)))))) no) (ae y2 (opt (ax n2.1 d.2.1) λak=>ae y0 (ae y1 (ret (ww (y4,ak.2,n1.1,n3,n2.1,ak.1))) (ae y2 (ret (ww (y4,ak.2,n1.1,n3,ak.1,n2.2))) (ae y3 (ret (ww (y4,ak.2,n1.1,ak.1,n2))) (ret (ww (y4,ak.2,ak.1,n1.2)))))) no) (ae y3 (opt (ax n3 d.2.1) λak=>ae y0 (ae y1 (ret (ww (y4,ak.2,n1.1,n3,n2.1,ak.1))) (ae y2 (ret (ww (y4,ak.2,n1.1,n3,ak.1,n2.2))) (ae y3 (ret (ww (y4,ak.2,n1.1,ak.1,n2))) (ret (ww (y4,ak.2,ak.1,n1.2)))))) no) (opt (ax n1.1 d.2.1) λak=>ae y0 (ae y1 (ret (ww (y4,ak.2,n1.1,n3,n2.1,ak.1))) (ae y2 (ret (ww (y4,ak.2,n1.1,n3,ak.1,n2.2))) (ae y3 (ret (ww (y4,ak.2,n1.1,ak.1,n2))) (ret (ww (y4,ak.2,ak.1,n1.2)))))) no)))) no) (ret (wt ((d.1,y5),d.2)))
def IQ:=bE (acJ aP) 2000
def amk (eB:LT tk IP)(x0:Int)(x1:Int)(x2:Int)(x3:Int)(x4:Bool):Pg aAT:=opt (eB (0,x4,x0,x1,x2,x3)) λd=>ret (d.2.2,d.2.1)
def tl:=λx0 x1 x2 x3 x4=>(amk IQ x0 x1 x2 x3 x4).val
abbrev aaT:=bS×(LT tk IP)
def aml (p:aaT):KK:=⟨[dD p.1],⟨[⟨2,(1::2::5::rg 7 11 []),[]⟩],[gx 2 1 tk arp p.2],[0],[],(some ⟨0,(rg 0 4 (rg 5 13 [])),[]⟩)⟩,1,134⟩
theorem aFU (p:aaT):LI (aml p) 2 tk arp (acJ p.1):=λ_ d c K=>by kernel_rfl
theorem aNT (p:aaT):D2 (aml p) aAS (lf ahr) λb=>amk p.2 b.1.1 b.1.2.1 b.1.b.1 b.1.b.2 b.2:=λb=>by kernel_rfl
abbrev amm:aaT:=(aP,IQ)
theorem amn [ay]:SC (aaS tl):=sc (kS (k:=aml amm) (.c dI (.nil _)) [2] [] ⟨kL (aFU amm),trivial⟩ trivial (aNT amm))
def aAU:=qa (pu nil nil)
def ahs:=qe (res (pu (aa (cu axW as7)) (pu nil nil)))
abbrev amo:=ahs.B
abbrev BS:=Option amo
def Li (g:BS):Ct:=(84,FC aAU (lf ahs) (λ_=>g))
def amp:Pg amo:=ret ()
def oI:Option amo:=(amp).val
theorem aNU:D0 [] 84 aAU (lf ahs) λb=>amp:=λb=>by kernel_rfl
theorem RM [ay]:SC (Li oI):=s0 (.nil _) aNU
def avQ:=qa (pl as6 nil)
def acK:=qe aWp
abbrev avR:=acK.B
abbrev Mv:=Int->Int->Int->Int->Option avR
def aht (g:Mv):Ct:=(182,FC avQ (lf acK) (λb=>g b.1 b.2.1 b.b.1 b.b.2))
def ahu (qB:RL)(x0:Int)(x1:Int)(x2:Int)(x3:Int):Pg avR:=opt (qB x0 x1 x2 x3 false) λd=>ret (d.1.1,wI (0-d.1.2.1),wI (0-d.1.2.2.1),wI (0-d.1.2.2.2))
def Cp:=λx0 x1 x2 x3=>(ahu tl x0 x1 x2 x3).val
theorem aLa:∀qB,D0 [aaS qB] 182 avQ (lf acK) λb=>ahu qB b.1 b.2.1 b.b.1 b.b.2:=λ_ b=>by kernel_rfl
theorem avS [ay]:SC (aht Cp):=s0 (.c amn (.nil _)) (aLa tl)
def arq:=qa (pl agk nil)
def Xw:=qe aWj
abbrev ars:=Xw.B
abbrev mf:=NI->Int->Option ars
def sC (g:mf):Ct:=(154,FC arq (lf Xw) (λb=>g b.1 b.2))
def oJ:=qs (st (pr (us 1 (c ai (cu aqt (us 1 (cu aME (cu aag (us 2 aPu))))))) (pl (c nX ale) nil)))
def aji:=qs (st (pr (us 1 (c ai (cu aqt (us 1 (cu aME (cu aag (us 2 aKa))))))) (pl (c nX ale) nil)))
abbrev Dy:=aji.B
def ajj {ρ:Type}:=@ef Dy ((.ex 0)) aji ρ
def TB (d:oJ.B):PL oJ Dy:=let n4:=d.2.2;let n3:=d.2.1;let n2:=d.1.1;let n1:=d.1.2;let y0:=wI (n2+n1);let y1:=decide (n1<3);ae y1 (ae (decide (y0>=0)) (ae (decide (y0<24)) (ae (bf y0 24) (ae (bf n1 3) (ae (n1==2) (ret (ww ((n2,wI (n1+1)),n3,n4.1,n4.2.1,n3 (z4 y0)))) (ae (n1==1) (ret (ww ((n2,wI (n1+1)),n3,n4.1,n3 (z4 y0),n4.2.2))) (ret (ww ((n2,wI (n1+1)),n3,n3 (z4 y0),n4.2))))) no) no) (ret (ww ((n2,wI (n1+1)),d.2)))) (ret (ww ((n2,wI (n1+1)),d.2)))) (ret (wt ((n2,n1,y1),d.2)))
def TC:=bE (TB) 2000
def acL (eB:LT oJ Dy)(x0:Nat->Int)(x1:Int):Pg ars:=opt (eB ((x1,0),x0,0,0,0)) λd=>ret d.2.2
def dZ:=λx0 x1=>(acL TC x0 x1).val
abbrev QT:=(LT oJ Dy)
def acM (p:QT):KK:=⟨[],⟨[⟨3,(0::3::6::7::rg 9 8 (rg 19 8 [17,18])),[]⟩],[gx 3 0 oJ ajj p],[],[],(some ⟨0,(rg 0 4 (rg 5 22 [])),[]⟩)⟩,0,154⟩
theorem ayV (p:QT):LI (acM p) 3 oJ ajj (TB):=λ_ d c K=>by kernel_rfl
theorem aHO (p:QT):D2 (acM p) arq (lf Xw) λb=>acL p b.1 b.2:=λb=>by kernel_rfl
abbrev acN:QT:=TC
theorem vU [ay]:SC (sC dZ):=sc (kS (k:=acM acN) (.nil _) [3] [] ⟨kL (ayV acN),trivial⟩ trivial (aHO acN))
def art:=qa (dp (c kY aV4) λa=>(cl (cl (gs a.b.1 oF) nil) nil))
def Xx:=qe aWq
abbrev IS:=Xx.B
abbrev sD:=NI->Int->Nat->NI->Bool->Option IS
def z5 (g:sD):Ct:=(32,vR 2 [.i .i64] (FC art (lf Xx) (λb=>g b.1.1 b.1.2.1 b.1.b.1 b.2 b.1.b.2)))
def oK:=qs (st (dp (us 1 (c ai (c Wx (cu UP (us 2 (cu EL (us 3 (c Wx (c ai aPu))))))))) λa=>(pl (c (so (cl (gs a.2.1.1 oF) nil)) Oz) nil)))
def aCK:=qs (st (pr (us 1 (c ai (c Wx (cu UP (us 2 (cu EL (us 3 (c Wx (c ai aKa))))))))) (pl (c J8 Oz) nil)))
abbrev Dz:=(aVq×NI×NI×NI)
def ajk {ρ:Type}(x:Dz)(K:AX->St->Option ρ):Option ρ:=(λd=>K (.ex 0) (aCK.em (d.1,(d.1.2.1.1,d.2.1),d.b))) x
def TD (d:oK.B):PL oK Dz:=let n2:=d.1.2.2;let n3:=n2.2.2;let n1:=(d.1.1,d.1.2.1,n2.1,n2.2.1,wI (n3+1));let y0:=wI (d.1.1+n3);let y1:=z4 y0;let y2:=decide (n3<n2.2.1);ae y2 (ae (bf n3 n2.1.1) (ae (decide (y0>=0)) (ae (decide (y0<24)) (ae (bf y0 24) (ae (true&&wr (0+y1*1+1) 24) (ret (ww (n1,d.2.1,λj=>bif z9 j y1 then d.2.1 (z4 n3) else d.2.2.1 j,d.2.2.2))) no) no) (ret (ww (n1,d.2)))) (ret (ww (n1,d.2)))) no) (ret (wt ((d.1.1,d.1.2.1,n2.1,n2.2.1,n3,y2),d.2)))
def TE:=bE (TD) 2000
def acO (eB:LT oK Dz)(x0:Nat->Int)(x1:Int)(x2:Nat)(x3:Nat->Int)(w0:Bool):Pg IS:=ae (z9 x2 x2) (opt (eB ((x1,(x2,w0),(x2,w0),ws x2,0),x3,x0,λx=>0)) λd=>ret d.2.2.1) no
def dJ:=λx0 x1 x2 x3 w0=>(acO TE x0 x1 x2 x3 w0).val
abbrev QU:=(LT oK Dz)
def acP (p:QU):KK:=⟨[],⟨[⟨2,(0::4::5::7::8::9::rg 13 10 (rg 25 6 [23,24])),[]⟩],[gx 2 1 oK ajk p],[],[],(some ⟨0,(rg 0 6 (rg 7 24 [])),[]⟩)⟩,1,32⟩
theorem ayW (p:QU):LI (acP p) 2 oK ajk (TD):=λ_ d c K=>by kernel_rfl
theorem aHP (p:QU):D2 (acP p) art (lf Xx) λb=>acO p b.1.1 b.1.2.1 b.1.b.1 b.2 b.1.b.2:=λb=>by kernel_rfl
abbrev acQ:QU:=TE
theorem D9 [ay]:SC (z5 dJ):=sc (Sound.nil 2 [.i .i64]<|kS (k:=acP acQ) (.nil _) [2] [] ⟨kL (ayW acQ),trivial⟩ trivial (aHP acQ))
end Go.Proofs.YtldgljclcgaibaaGreat
