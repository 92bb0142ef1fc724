/-
  Parts of the proof: SLB SLC SLD SLE SLF SLH Q1
-/
import Derived.Test.YtldgljclcgaibaaGreatZAE
import Derived.Shelf.Spec.SlicesInsertGrow
open Nat renaming beq→ww,ble→wd,blt→v6
open Int renaming toNat→ws,ofNat→wl,fdiv→ul,tdiv→t7
open Sum renaming inl→wr,inr→wn,elim→t8
open BitVec renaming ofInt→v9,toNat→v4
open List renaming append→t9,range→rx
set_option linter.all false
namespace Go.Proofs.YtldgljclcgaibaaGreat
open Go.RowKit Go.Lib Go.Ab
theorem Zr {P:Program}(w:World)(dT sT ty e:TypeId)(z b o aSt a2u:Nat)(a:Addr)(aNq a0i:Nat)(cs:List Value)(hu:P.underlying dT=some (.slice e))(hz:iO P e=some z)(hn:cs.length=Nat.min aNq aSt*z)
  (a2v:∀j v,cs[j]? =some v->w.cell? (a.add j)=some v)(hc:∀j,j<cs.length->(w.cell? ⟨b,o+j,none⟩).isSome=true)(hf:∀j,j<cs.length->w.frozen? ⟨b,o+j,none⟩=false)(h1:∀v∈cs,v.oneCell'=true):
  (Builtin.copy_ #[dT,sT] ty #[.slice (some ⟨b,o,none⟩) aSt a2u,.slice (some a) aNq a0i]).run P w=.ok (goInt (Nat.min aNq aSt)) (w.setCells b o cs):=by
 have hl:=run_firstCells_some (P:=P) w z (Nat.min aNq aSt) a aNq a0i cs hn a2v;have hst:=run_storeCells_cells (P:=P) b o cs 0 w (by simpa using hc) (by simpa using hf) h1;simp[Builtin.copy_,run_underlying hu,Builtin.lenOf,Ab.run_sizeOf hz,hl,hst]
theorem uT:Tryz.prog.underlying 140=some (.slice 42):=by kernel_rfl
theorem uE:iO Tryz.prog 42=some 9:=by kernel_rfl
set_option maxHeartbeats 4000000 in
set_option maxRecDepth 100000 in
theorem aQR (b off n c i vb CF vc:Nat)(cs vs:List Value)(w:World)(hi:i<n)(R6:n+1<=c)(hvb:vb=b->CF+9<=off∨off+(n+1)*9<=CF)(DE:cs.length=n*9)(hvl:vs.length=9)(a4D:n+1<=9223372036854775807)
  (I2:∀j v,cs[j]? =some v->w.cell? ⟨b,off+j,none⟩=some v)(hsp:∀j,j<(n+1)*9->(w.cell? ⟨b,off+j,none⟩).isSome=true)(hfz:∀j,j<(n+1)*9->w.frozen? ⟨b,off+j,none⟩=false)
  (hvs:∀j v,vs[j]? =some v->w.cell? ⟨vb,CF+j,none⟩=some v)(h1c:∀v∈cs,v.oneCell'=true)(h1v:∀v∈vs,v.oneCell'=true)
  (hov:∀cb,(callFunc 145 #[.slice (some ⟨vb,CF,none⟩) 1 vc,.slice (some ⟨b,off+(i+1)*9,none⟩) (n-i) cb]).run Tryz.prog w=.ok (.value (.bool false)) w):
  Calls Tryz.prog 97 #[.slice (some ⟨b,off,none⟩) n c,.int .i64 i,.slice (some ⟨vb,CF,none⟩) 1 vc] w λe w'=>
   e=.returned (.slice (some ⟨b,off,none⟩) (n+1) c)/\w'=(w.drew.setCells b (off+(i+1)*9) (cs.drop (i*9))).setCells b (off+i*9) vs:=by
 have mixed:=mixed;have hz2:¬((i:Int)=(n:Int)):=by omega
 have hdl:(cs.drop (i*9)).length=(n-i)*9:=by rw[ar8,DE];omega
 have hw1:IntKind.i64.wrap ((i:Int)+1)=(i:Int)+1:=by rw[IntKind.wrap_i64];omega
 have hw2:IntKind.i64.wrap ((n:Int)+1)=(n:Int)+1:=by rw[IntKind.wrap_i64];omega
 have hb1:(0:Int)<=(i:Int)+1:=by omega
 have hin:i<=n:=by omega
 have htn:((i:Int)+1).toNat=i+1:=by omega
 have ED:¬(c=i+1):=by omega
 have hb3:(i:Int)<=(n:Int)+1:=by omega
 have hb4:¬(c=i):=by omega
 have hb5:¬((c:Int)<(n:Int)+1):=by omega
 have a0j:∀ty dc sc,(Builtin.copy_ #[140,140] ty #[.slice (some ⟨b,off+(i+1)*9,none⟩) (n-i) dc,.slice (some ⟨b,off+i*9,none⟩) (n+1-i) sc]).run Tryz.prog w.drew=.ok (goInt (Nat.min (n+1-i) (n-i))) (w.drew.setCells b (off+(i+1)*9) (cs.drop (i*9))):=λty dc sc=>
  Zr w.drew _ _ ty 42 9 b (off+(i+1)*9) (n-i) dc ⟨b,off+i*9,none⟩ (n+1-i) sc (cs.drop (i*9)) uT uE (by rw[hdl];simp only[Nat.min_def];split<;>omega)
   (λj v hj=>by rw[Addr.add_lit,BB];exact I2 (i*9+j) v (by rwa [RW] at hj))
   (λj hj=>by rw[BB];exact hsp _ (by omega)) (λj hj=>by rw[BB];exact hfz _ (by omega)) (λv hv=>h1c v (List.mem_of_mem_drop hv))
 obtain⟨W1,hW1⟩:∃W1,W1=w.drew.setCells b (off+(i+1)*9) (cs.drop (i*9)):=⟨_,rfl⟩
 have a2w:∀k,k<(n+1)*9->(W1.cell? ⟨b,off+k,none⟩).isSome=true:=λk hk=>by
  rw[hW1];exact Go.Proofs.isSome_setCells b _ _ _ (λj hj=>by rw[BB];exact hsp _ (by omega)) _ (hsp k hk)
 have a2x:∀(W:World),(∀x,W.cell? x=W1.cell? x)->(∀x,W.frozen? x=W1.frozen? x)->∀ty dc,(Builtin.copy_ #[140,140] ty #[.slice (some ⟨b,off+i*9,none⟩) (n+1-i) dc,.slice (some ⟨vb,CF,none⟩) 1 vc]).run Tryz.prog W=.ok (goInt (Nat.min 1 (n+1-i))) (W.setCells b (off+i*9) vs):=λW hWc hWf ty dc=>
  Zr W _ _ ty 42 9 b (off+i*9) (n+1-i) dc ⟨vb,CF,none⟩ 1 vc vs uT uE (by rw[hvl];simp only[Nat.min_def];split<;>omega)
   (λj v hj=>by
    have hj9:=(lX.1 hj).1
    rw[Addr.add_lit,hWc,hW1,World.cell?_setCells_out b _ _ _ _ (λh _=>by
     have:=hvb h;show CF+j<_∨_<=CF+j;omega)]
    exact hvs j v hj)
   (λj hj=>by rw[hWc,BB];exact a2w _ (by omega)) (λj hj=>by rw[hWf,hW1,World.frozen?_setCells,BB];exact hfz _ (by omega)) h1v
 rw[<-hW1] at a0j;go_enter Tryz.func97,Tryz.ntmps97
 go_wp2_with (simp only[hov])
 go_region_law_o (refine step_copy_runI rfl _ _ 140 140 rfl _ _ (by simp[Act.eval,Act.put]) (by simp[Act.eval,Act.put]) (a0j _ _ _) ?_)
 go_wp2_with (at_builtin;refine wpList_copy_runI _ rfl _ _ 140 140 rfl _ _ rfl rfl (a2x _ (λ_=>rfl) (λ_=>rfl) _ _) ?_)
 go_ret
 first|exact⟨rfl,rfl⟩|exact⟨rfl,by rw[hW1]⟩
set_option maxHeartbeats 4000000 in
set_option maxRecDepth 100000 in
theorem aNr (base:Option Addr)(n c vb CF vc:Nat)(w w2:World)(v2:Value)
  (hrz:∀ty,(Builtin.append_ #[140,140] ty #[.slice base n c,.slice (some ⟨vb,CF,none⟩) 1 vc]).run Tryz.prog w=.ok v2 w2):
  Calls Tryz.prog 97 #[.slice base n c,.int .i64 n,.slice (some ⟨vb,CF,none⟩) 1 vc] w λe w'=>e=.returned v2/\w'=w2:=by
 have mixed:=mixed;go_enter Tryz.func97,Tryz.ntmps97
 go_wp2_with (at_builtin;refine Lib.wpList_append_run _ rfl _ _ _ _ rfl _ _ rfl rfl _ _ (hrz _) ?_)
 all_goals (go_ret;exact⟨rfl,rfl⟩)
theorem iE:∃i z,Tryz.prog.info? 42=some i/\i.zero=some z/\i.size=9/\i.bytes=72/\z.cells.size=9:=by
 have h:(Tryz.prog.info? 42).map (λi=>(i.size,i.bytes,(i.zero.map λz=>z.cells.size)))=some (9,72,some 9):=by kernel_rfl
 cases hi:Tryz.prog.info? 42 with
 |none=>rw[hi] at h;cases h
 |some i=>
  rw[hi] at h;simp only[RX,jY,qG] at h;obtain⟨h1,h2,h3⟩:=h;cases hz:i.zero with
  |none=>rw[hz] at h3;cases h3
  |some z=>rw[hz] at h3;exact⟨i,z,rfl,hz,h1,h2,by simpa using h3⟩
theorem uI:Tryz.prog.underlying 3=some (.int .i64):=by kernel_rfl
set_option maxHeartbeats 4000000 in
set_option maxRecDepth 100000 in
theorem aTm (b off n c i vb CF vc:Nat)(cs vs:List Value)(w:World)(hi:i<n)(hnc:n<=c)(R6:c<n+1)(ay9:(n+1)*72<=140737488355328)(DE:cs.length=n*9)(hvl:vs.length=9)
  (I2:∀j v,cs[j]? =some v->w.cell? ⟨b,off+j,none⟩=some v)(hvs:∀j v,vs[j]? =some v->w.cell? ⟨vb,CF+j,none⟩=some v)(h1c:∀v∈cs,v.oneCell'=true)(h1v:∀v∈vs,v.oneCell'=true):
  ∃G CG,n+1<=G/\CG.size=G*9/\(∀j v,j<i*9->cs[j]? =some v->CG[j]? =some v)/\
  Calls Tryz.prog 97 #[.slice (some ⟨b,off,none⟩) n c,.int .i64 i,.slice (some ⟨vb,CF,none⟩) 1 vc] w λe w'=>
   e=.returned (.slice (some ⟨w.heap.size,0,none⟩) (n+1) G)/\
   w'=(((w.alloc (.cells CG 42)).drew.setCells w.heap.size (i*9) vs).drew).setCells w.heap.size ((i+1)*9) (cs.drop (i*9)):=by
 have mixed:=mixed;obtain⟨i0,z0,hi0,Ng,hzs,hzb,hzl⟩:=iE;have hz2:¬((i:Int)=(n:Int)):=by omega
 have hz3:(c:Int)<(n:Int)+1:=by omega
 have hbw:b<w.heap.size:=block_lt_of_cell (I2 0 _ (kE (by omega)));have hvw:vb<w.heap.size:=block_lt_of_cell (hvs 0 _ (kE (by omega)));have hkk:(n:Int)+1-(i:Int)=((n+1-i:Nat):Int):=by omega
 have hik:i+(n+1-i)=n+1:=by omega
 have htl:(cs.take (i*9)).length=i*9:=by rw[List.length_take];omega
 have hold:(Builtin.firstCells i0.size i (.slice (some ⟨b,off,none⟩) i c)).run Tryz.prog w.drew=.ok (cs.take (i*9)).toArray w.drew:=by
  rw[hzs]
  exact run_firstCells_some w.drew 9 i ⟨b,off,none⟩ i c (cs.take (i*9)) htl (λj v hj=>by
   rw[Addr.add_lit];rw[aaQ] at hj;split at hj
   .exact I2 j v hj
   .cases hj)
 have hrz:∀ty,(Builtin.append_ #[140,3] ty #[.slice (some ⟨b,off,none⟩) i c,.int .i64 ((n:Int)+1-(i:Int))]).run Tryz.prog w=
   .ok (.slice (some ⟨w.heap.size,0,none⟩) (n+1) (grownCap w (n+1) c 42)) (w.drew.alloc (.cells ((cs.take (i*9)).toArray++Builtin.zeroCells z0.cells (n+1-i)++Builtin.zeroCells z0.cells (grownCap w (n+1) c 42-(n+1))) 42)):=λty=>by
  have h:=Lib.run_append_grow_zeros w 140 3 ty 42 i0 _ .i64 .i64 uT uI hi0 Ng (some ⟨b,off,none⟩) i c (cs.take (i*9)) hold (n+1-i) (by omega) (by omega) (by omega) (by omega) (by rw[hzb];omega) (by rw[hzb,hik];exact growslice_fits R6 ay9);rw[hik] at h;rw[hkk];exact h
 have hGn:n+1<=grownCap w (n+1) c 42:=grownCap_ge w _ _ _;obtain⟨G,hG⟩:∃G,G=grownCap w (n+1) c 42:=⟨_,rfl⟩;obtain⟨CG,aSu⟩:∃CG:Array Value,CG=(cs.take (i*9)).toArray++Builtin.zeroCells z0.cells (n+1-i)++Builtin.zeroCells z0.cells (G-(n+1)):=⟨_,rfl⟩;rw[<-hG] at hrz hGn;rw[<-aSu] at hrz
 have hRs:CG.size=G*9:=by
  rw[aSu];simp only[Array.size_append,List.size_toArray,htl,size_zeroCells,hzl];omega
 refine⟨G,CG,hGn,hRs,λj v hj hv=> ?_,?_⟩
 .rw[aSu,Array.getElem?_append_left (by simp[htl];omega),Array.getElem?_append_left (by simp[htl];omega)];simp only[List.getElem?_toArray];rw[aaQ,if_pos hj];exact hv
 have hRl:(n+1)*9<=CG.size:=by rw[hRs];exact vV _ hGn
 obtain⟨W1,hW1⟩:∃W1,W1=w.drew.alloc (.cells CG 42):=⟨_,rfl⟩;rw[<-hW1] at hrz
 have hN:∀j,j<(n+1)*9->(W1.cell? ⟨w.heap.size,j,none⟩).isSome=true:=λj hj=>by
  rw[hW1,World.cell?_alloc_at (w:=w.drew) CG _ w.heap.size j rfl,ahM (by omega)];rfl
 have hNf:∀j,W1.frozen? ⟨w.heap.size,j,none⟩=false:=λj=>by rw[hW1];exact World.frozen?_alloc_at (w:=w.drew) CG _ w.heap.size j rfl
 have hOb:∀j v,w.cell? ⟨b,j,none⟩=some v->W1.cell? ⟨b,j,none⟩=some v:=λj v h=>by rw[hW1,World.cell?_alloc_past (w:=w.drew) _ b j hbw];exact h
 have hOv:∀j v,w.cell? ⟨vb,j,none⟩=some v->W1.cell? ⟨vb,j,none⟩=some v:=λj v h=>by rw[hW1,World.cell?_alloc_past (w:=w.drew) _ vb j hvw];exact h
 have a2y:∀(W:World),(∀x,W.cell? x=W1.cell? x)->(∀x,W.frozen? x=W1.frozen? x)->∀ty dc,(Builtin.copy_ #[140,140] ty #[.slice (some ⟨w.heap.size,i*9,none⟩) (n+1-i) dc,.slice (some ⟨vb,CF,none⟩) 1 vc]).run Tryz.prog W=.ok (goInt (Nat.min 1 (n+1-i))) (W.setCells w.heap.size (i*9) vs):=λW hWc hWf ty dc=>
  Zr W _ _ ty 42 9 w.heap.size (i*9) (n+1-i) dc ⟨vb,CF,none⟩ 1 vc vs uT uE (by rw[hvl];simp only[Nat.min_def];split<;>omega)
   (λj v hj=>by rw[Addr.add_lit,hWc];exact hOv _ v (hvs j v hj))
   (λj hj=>by rw[hWc];exact hN _ (by omega)) (λj hj=>by rw[hWf];exact hNf _) h1v
 have hGi:¬(G=i):=by omega
 have a4E:¬(G=i+1):=by omega
 have hci:¬(c=i):=by omega
 have hbN:b≠w.heap.size:=by omega
 have hdl:(cs.drop (i*9)).length=(n-i)*9:=by rw[ar8,DE];omega
 have a0k:∀(W:World),(∀x,W.cell? x=(W1.setCells w.heap.size (i*9) vs).cell? x)->(∀x,W.frozen? x=(W1.setCells w.heap.size (i*9) vs).frozen? x)->∀ty dc sc,(Builtin.copy_ #[140,140] ty #[.slice (some ⟨w.heap.size,(i+1)*9,none⟩) (n-i) dc,.slice (some ⟨b,off+i*9,none⟩) (n-i) sc]).run Tryz.prog W=.ok (goInt (Nat.min (n-i) (n-i))) (W.setCells w.heap.size ((i+1)*9) (cs.drop (i*9))):=λW hWc hWf ty dc sc=>
  Zr W _ _ ty 42 9 w.heap.size ((i+1)*9) (n-i) dc ⟨b,off+i*9,none⟩ (n-i) sc (cs.drop (i*9)) uT uE (by rw[hdl];simp only[Nat.min_def];split<;>omega)
   (λj v hj=>by
    rw[Addr.add_lit,hWc,World.cell?_setCells_out _ _ _ _ _ (λh _=>absurd h hbN),BB];exact hOb _ v (I2 (i*9+j) v (by rwa [RW] at hj)))
   (λj hj=>by rw[hWc];exact Go.Proofs.isSome_setCells _ _ _ _ (λt ht=>hN _ (by omega)) _ (hN _ (by omega)))
   (λj hj=>by rw[hWf,World.frozen?_setCells];exact hNf _) (λv hv=>h1c v (List.mem_of_mem_drop hv))
 subst hW1;have hE1:∀x,((w.alloc (.cells CG 42)).drew).cell? x=(w.drew.alloc (.cells CG 42)).cell? x:=λx=>rfl;have hE2:∀x,((w.alloc (.cells CG 42)).drew).frozen? x=(w.drew.alloc (.cells CG 42)).frozen? x:=λx=>rfl;have hF1:∀x,(((w.alloc (.cells CG 42)).drew.setCells w.heap.size (i*9) vs).drew).cell? x=((w.drew.alloc (.cells CG 42)).setCells w.heap.size (i*9) vs).cell? x:=λx=>rfl;have hF2:∀x,(((w.alloc (.cells CG 42)).drew.setCells w.heap.size (i*9) vs).drew).frozen? x=((w.drew.alloc (.cells CG 42)).setCells w.heap.size (i*9) vs).frozen? x:=λx=>rfl;have hw1:IntKind.i64.wrap ((i:Int)+1)=(i:Int)+1:=by rw[IntKind.wrap_i64];omega
 have hw2:IntKind.i64.wrap ((n:Int)+1)=(n:Int)+1:=by rw[IntKind.wrap_i64];omega
 have hw3:IntKind.i64.wrap ((n:Int)+1-(i:Int))=(n:Int)+1-(i:Int):=by rw[IntKind.wrap_i64];omega
 have hb1:(0:Int)<=(i:Int)+1:=by omega
 have hin:i<=n:=by omega
 have htn:((i:Int)+1).toNat=i+1:=by omega
 have hb3:(i:Int)<=(n:Int):=by omega
 clear hkk hik hold aSu hG hRl hRs
 go_enter Tryz.func97,Tryz.ntmps97
 go_wp2_with (first
  |(at_builtin;refine Lib.wpList_append_run _ rfl _ _ _ _ rfl _ _ rfl rfl _ _ (hrz _) ?_)
  |(at_builtin;refine wpList_copy_runI _ rfl _ _ 140 140 rfl _ _ rfl rfl (a2y _ hE1 hE2 _ _) ?_)
  |(at_builtin;refine wpList_copy_runI _ rfl _ _ 140 140 rfl _ _ rfl rfl (a0k _ (λ_=>rfl) (λ_=>rfl) _ _ _) ?_))
 go_region_law_o (refine step_copy_runI rfl _ _ 140 140 rfl (.slice (some ⟨w.heap.size,(i+1)*9,none⟩) (n-i) (G-(i+1))) (.slice (some ⟨b,off+i*9,none⟩) (n-i) (c-i)) (by simp[Act.eval,Act.put]) (by simp[Act.eval,Act.put]) (a0k _ hF1 hF2 3 (G-(i+1)) (c-i)) ?_)
 go_wp2
 go_ret
 exact⟨rfl,rfl⟩
theorem auo {P:Program}{ops:Array Oper}{o:Oper}{a:Act}{w:World}{K:Act->World->Prop}{Q:Exit->Act->World->Prop}{E:Prop}
  (hg:o.guard=none)(d x:Operand)(dT sT:TypeId)(pk:o.op=Op.call {callee:=Callee.builtin Builtin.append,args:=#[d,x],argTypes:=#[dT,sT]})
  (v u:Value)(hd:a.eval d=v)(hx:a.eval x=u){v':Value}{w':World}(hr:(Builtin.append_ #[dT,sT] o.type #[v,u]).run P w=.ok v' w')(hK:K (a.put o.dst v') w'):
  if Region.wanted o (yielded ops a.tmps)=true then Oper.wp P o a w K Q else E:=by
 have hw:Region.wanted o (yielded ops a.tmps)=true:=by simp[Region.wanted,hg]
 rw[if_pos hw];unfold Oper.wp;simp[execOp,pk,resolve,invoke,builtin,hd,hx,hr,Result.andThen]
 exact hK
theorem aEq {P:Program}(w:World){o:Oper}{a:Act}{K:Act->World->Prop}{Q:Exit->Act->World->Prop}(d:Operand)(t:TypeId)
  (ho:o.op=.call {callee:=.builtin .clear,args:=#[d],argTypes:=#[t]})(v:Value)(hd:a.eval d=v){v':Value}{w':World}
  (hr:(Builtin.clear_ #[t] o.type #[v]).run P w=.ok v' w')(h:K (a.put o.dst v') w'):o.wp P a w K Q:=by
 unfold Oper.wp execOp;simp only[ho,resolve,invoke,builtin,Sem.run_bind,Sem.run_pure,Result.andThen_ok,List.map_toArray,List.map_cons,List.map_nil,hd,hr];exact h
theorem asr {P:Program}(w:World){ops:Array Oper}{rest:List Oper}{o:Oper}{a:Act}{Q:Exit->Act->World->Prop}(hgd:o.guard=none)(d:Operand)(t:TypeId)
  (ho:o.op=.call {callee:=.builtin .clear,args:=#[d],argTypes:=#[t]})(v:Value)(hd:a.eval d=v){v':Value}{w':World}
  (hr:(Builtin.clear_ #[t] o.type #[v]).run P w=.ok v' w')(h:wpList P ops Q rest (a.put o.dst v') w'):wpList P ops Q (o::rest) a w:=
 wpList_plain hgd λ_ hK=>aEq w d t ho v hd hr (hK _ _ h)
set_option maxHeartbeats 4000000 in
set_option maxRecDepth 100000 in
theorem aH7 (base:Option Addr)(n c i:Nat)(w:World)(hi:i<=n)(hc:n<=c):
  Calls Tryz.prog 98 #[.slice base n c,.int .i64 i,.int .i64 i] w λe w'=>e=.returned (.slice base n c)/\w'=w:=by
 have mixed:=mixed;have h1:(i:Int)<=(n:Int):=by omega
 have h2:(n:Int)<=(c:Int):=by omega
 go_enter Tryz.func98,Tryz.ntmps98
 go_wp2
 all_goals (go_ret;exact⟨rfl,rfl⟩)
set_option maxHeartbeats 4000000 in
set_option maxRecDepth 100000 in
theorem aTn (b off n c i j:Nat)(w w2 w3:World)(hij:i<j)(hj:j<=n)(hc:n<=c)
  (hrz:∀ty,(Builtin.append_ #[140,140] ty #[.slice (some ⟨b,off,none⟩) i c,.slice (some (if c=j then⟨b,off,none⟩ else⟨b,off+j*9,none⟩)) (n-j) (c-j)]).run Tryz.prog w.drew=.ok (.slice (some ⟨b,off,none⟩) (i+(n-j)) c) w2)
  (DE:∀ty,(Builtin.clear_ #[140] ty #[.slice (some ⟨b,off+(i+(n-j))*9,none⟩) (n-(i+(n-j))) (c-(i+(n-j)))]).run Tryz.prog w2=.ok (.tuple #[]) w3):
  Calls Tryz.prog 98 #[.slice (some ⟨b,off,none⟩) n c,.int .i64 i,.int .i64 j] w λe w'=>e=.returned (.slice (some ⟨b,off,none⟩) (i+(n-j)) c)/\w'=w3:=by
 have mixed:=mixed;have h0:¬((i:Int)=(j:Int)):=by omega
 have h1:(i:Int)<=(j:Int):=by omega
 have h2:(j:Int)<=(n:Int):=by omega
 have h3:(n:Int)<=(c:Int):=by omega
 have h4:(i:Int)<=(c:Int):=by omega
 have h5:¬(c=i+(n-j)):=by omega
 go_enter Tryz.func98,Tryz.ntmps98
 go_wp2
 go_region_law_o (refine auo rfl _ _ 140 140 rfl _ _ (by simp[Act.eval,Act.put]) (by simp[Act.eval,Act.put];split<;>rfl) (hrz _) ?_)
 go_wp2_with (at_builtin;refine asr _ rfl _ 140 rfl _ rfl (DE _) ?_)
 all_goals (go_ret;exact⟨rfl,rfl⟩)
set_option maxHeartbeats 4000000 in
set_option maxRecDepth 100000 in
theorem aQS (w:World):Calls Tryz.prog 166 #[.slice none 0 0] w λe w'=>e=.returned (.slice none 0 0)/\w'=w:=by
 have mixed:=mixed;have heq:∀w:World,(Go.binOp .eql 140 (.slice none 0 0) (.slice none 0 0)).run Tryz.prog w=.ok (.bool true) w:=λw=>by kernel_rfl
 go_enter Tryz.func166,Tryz.ntmps166
 go_wp2
 go_ret
 exact⟨rfl,rfl⟩
set_option maxHeartbeats 4000000 in
set_option maxRecDepth 100000 in
theorem azo (a:Addr)(n c:Nat)(w w2:World)(v2:Value)
  (hrz:∀ty,(Builtin.append_ #[140,140] ty #[.slice (some ⟨w.heap.size,0,none⟩) 0 0,.slice (some a) n c]).run Tryz.prog (w.alloc (.cells #[] 42))=.ok v2 w2):
  Calls Tryz.prog 166 #[.slice (some a) n c] w λe w'=>e=.returned v2/\w'=w2:=by
 have mixed:=mixed;have heq:∀w:World,(Go.binOp .eql 140 (.slice (some a) n c) (.slice none 0 0)).run Tryz.prog w=.ok (.bool false) w:=λw=>by kernel_rfl
 go_enter Tryz.func166,Tryz.ntmps166
 go_wp2_with (at_builtin;refine Lib.wpList_append_run _ rfl _ _ _ _ rfl _ _ rfl rfl _ _ (hrz _) ?_)
 go_ret
 exact⟨rfl,rfl⟩
end Go.Proofs.YtldgljclcgaibaaGreat
namespace Go.Ab
def fy (l:List (Nat->Int)):List cP:=l.map (cP.i .i64)
def EG (i:Nat)(g v:Nat->Int):Nat->Int:=λj=>cond (v6 j i) (g j) (cond (ww j i) (v 0) (g (j-1)))
def Kl (i d:Nat)(g:Nat->Int):Nat->Int:=λj=>cond (v6 j i) (g j) (g (j+d))
theorem Bj {l:List (Nat->Int)}(h:l.length=9)(J:Nat):∃g,l[J%9]? =some g/\iP (fy l) J=.f (.i .i64 (g (J/9))):=by
 have nR:J%9<l.length:=by rw[h];exact Nat.mod_lt _ (by omega)
 refine⟨l[J%9],kE nR,?_⟩;unfold iP fy;rw[afb,h,BA,kE nR];rfl
theorem aTo {l m:List (Nat->Int)}(hl:l.length=9)(hm:m.length=9)(i J:Nat):
  iP (fy (List.zipWith (EG i) l m)) J=if J<i*9 then iP (fy l) J else if J<(i+1)*9 then iP (fy m) (J-i*9) else iP (fy l) (J-9):=by
 obtain⟨g,hg,eg⟩:=Bj hl J;obtain⟨v,hv,_⟩:=Bj hm J;obtain⟨z,hz,ez⟩:=Bj (l:=List.zipWith (EG i) l m) (by simp[hl,hm]) J;have hz2:(List.zipWith (EG i) l m)[J%9]? =some (EG i g v):=by simp[List.getElem?_zipWith,hg,hv]
 rw[hz2] at hz;cases hz;rw[ez];by_cases h1:J<i*9
 .rw[if_pos h1,eg];have:v6 (J/9) i=true:=tY.2 (by omega);simp only[EG,this,bz]
 .rw[if_neg h1];have e1:v6 (J/9) i=false:=afl (by omega);by_cases h2:J<(i+1)*9
  .rw[if_pos h2];have e2:ww (J/9) i=true:=beq_iff.2 (by omega);obtain⟨v',hv',ev⟩:=Bj hm (J-i*9);have e3:(J-i*9)%9=J%9:=by omega
   have e4:(J-i*9)/9=0:=by omega
   rw[e3,hv] at hv';cases hv';rw[ev,e4];simp only[EG,e1,e2,bz,bH]
  .rw[if_neg h2];have e2:ww (J/9) i=false:=beq_false (by omega);obtain⟨g',hg',ev⟩:=Bj hl (J-9);have e3:(J-9)%9=J%9:=by omega
   have e4:(J-9)/9=J/9-1:=by omega
   rw[e3,hg] at hg';cases hg';rw[ev,e4];simp only[EG,e1,e2,bH]
theorem aH8 {l:List (Nat->Int)}(hl:l.length=9)(i d J:Nat):
  iP (fy (l.map (Kl i d))) J=if J<i*9 then iP (fy l) J else iP (fy l) (J+d*9):=by
 obtain⟨g,hg,eg⟩:=Bj hl J;obtain⟨z,hz,ez⟩:=Bj (l:=l.map (Kl i d)) (by simp[hl]) J;have hz2:(l.map (Kl i d))[J%9]? =some (Kl i d g):=by simp[hg]
 rw[hz2] at hz;cases hz;rw[ez];by_cases h1:J<i*9
 .rw[if_pos h1,eg];have:v6 (J/9) i=true:=tY.2 (by omega);simp only[Kl,this,bz]
 .rw[if_neg h1];have e1:v6 (J/9) i=false:=afl (by omega);obtain⟨g',hg',ev⟩:=Bj hl (J+d*9);have e3:(J+d*9)%9=J%9:=by omega
  have e4:(J+d*9)/9=J/9+d:=by omega
  rw[e3,hg] at hg';cases hg';rw[ev,e4];simp only[Kl,e1,bH]
theorem QB {l:List (Nat->Int)}(h:l.length=9)(n:Nat):af.size [.a (.s n) (fy l)]=n*9:=by
 rw[af.size_cons,af.lR,Sg.lU,km];show n*(fy l).length=n*9;unfold fy;rw[afb,h]
theorem ass {l:List (Nat->Int)}(h:l.length=9){n j:Nat}(hj:j<n*9):af.get [.a (.s n) (fy l)] j=iP (fy l) j:=by
 rw[af.dR (by rw[Sg.lU];unfold fy;rw[afb,h];exact hj),Sg.o8]
theorem aNs [ax]{π:Pi}{w:World}{B s N:Nat}{c:Nat->CV}(h:∀j,j<N->∃v,cl w B (s+j)=some v/\(c j).rel π v):
  ∃cs:List Value,cs.length=N/\(∀j v,cs[j]? =some v->w.cell? ⟨B,s+j,none⟩=some v/\(c j).rel π v)/\∀v∈cs,v.oneCell'=true:=by
 have key:∀j v,((rx N).map λj=>(cl w B (s+j)).getD undef)[j]? =some v->w.cell? ⟨B,s+j,none⟩=some v/\(c j).rel π v:=λj v hv=>by
  have hj:j<N:=by
   have:=(lX.1 hv).1;simpa using this
  obtain⟨u,hu,hr⟩:=h j hj;simp[hj,hu] at hv
  subst hv;exact⟨hu,hr⟩
 refine⟨(rx N).map λj=>(cl w B (s+j)).getD undef,by simp,key,λv hv=> ?_⟩;obtain⟨i,hi⟩:=aw4.1 hv;exact CV.Qy (key i v hi).2
theorem aH9 {w:World}{B i:Nat}{v:Value}(h:w.cell? ⟨B,i,none⟩=some v):∃t k,w.shape? B=some (t,k)/\k≠0:=by
 unfold World.cell? at h;simp only at h;cases hh:w.heap[B]? with
 |none=>rw[hh] at h;cases h
 |some x=>
  rw[hh] at h;cases x<;>simp only at h<;>first|(cases h;done)|skip
  rename_i cs t fz
  have:=(Array.getElem?_eq_some_iff.1 h).1;refine⟨t,cs.size,?_,by omega⟩;simp[World.shape?,hh]
variable [ax]
theorem Zs {P:Program}{π:Pi}{w W:World}{h:List af}{cs:List Ch}{out:List (Nat->Int)}{n cap B st q e b0:Nat}(ho:out.length=9)(hH:rW π (hC (h.map some)) (hZ (h.map some)) w)(kj:∀b,π b≠none->b<h.length)
  (I2:∀b,b<h.length->cs[b]? =some .mT∨cs[b]? =some .kill)(Qz:b0<h.length)(hk0:cs[b0]? =some .kill)(hp:π b0=some (B,st,q,e))(hfr:cg w (CC π h.length (R7 cs)) W)
  (pM:∀i,st<=i->i<e->(cl W B i).isSome=true/\fz W B i=false)(ham:Aw W)(hc:∀J,J<n*9->∃v,cl W B (st+J)=some v/\(iP (fy out) J).rel π v)(hn:n<=cap)(hce:st+cap*9<=e):
  aH4 P π w h ⟨.r (.c (.sl h.length (.k 0) (.s n) 9 true)),cs,[[.a (.s n) (fy out)]]⟩ (.returned (.slice (some ⟨B,st,none⟩) n cap)) W:=by
 have yb:=QB ho n;have Ng:hZ (h.map some) b0≠none:=by rw[PI,kE Qz];simp
 have oe:n*9<=cap*9:=vV _ hn;refine axy (P:=P) (B:=B) (s:=st) (e:=e) hH kj I2 hfr (by rw[yb];omega) pM (λj hj=> ?_) (.inr ⟨b0,st,q,e,Qz,hk0,hp,eO _,eO _⟩) ham (λBe=>hH.lb b0 B st q e Ng hp Be) λπ' hx uk=> ?_
 .rw[yb] at hj;rw[ass ho hj];exact hc j hj
 .rw[yb] at uk;exact⟨B,st,n*9,e,uk,by simp[cA.val,Sz.val],λ_=>by simp[cA.val,Sz.val],.inr ⟨cap,hn,rfl,λ_=>by simpa[cA.val] using hce⟩⟩
theorem akT {P:Program}{π:Pi}{w W:World}{h:List af}{cs:List Ch}{out:List (Nat->Int)}{n cap B:Nat}(ho:out.length=9)(hH:rW π (hC (h.map some)) (hZ (h.map some)) w)(kj:∀b,π b≠none->b<h.length)
  (I2:∀b,b<h.length->cs[b]? =some .mT∨cs[b]? =some .kill)(hB:w.heap.size<=B)(hfr:cg w (CC π h.length (R7 cs)) W)
  (pM:∀i,i<cap*9->(cl W B i).isSome=true/\fz W B i=false)(ham:Aw W)(hc:∀J,J<n*9->∃v,cl W B J=some v/\(iP (fy out) J).rel π v)(hn:n<=cap):
  aH4 P π w h ⟨.r (.c (.sl h.length (.k 0) (.s n) 9 true)),cs,[[.a (.s n) (fy out)]]⟩ (.returned (.slice (some ⟨B,0,none⟩) n cap)) W:=by
 have yb:=QB ho n;have oe:n*9<=cap*9:=vV _ hn;refine axy (P:=P) (B:=B) (s:=0) (e:=cap*9) hH kj I2 hfr (by rw[yb];omega) (λi _ hi=>pM i hi) (λj hj=> ?_) (.inl hB) ham (λBe=>bZ hH.am.sz hB) λπ' hx uk=> ?_
 .rw[yb] at hj;rw[ass ho hj,gW];exact hc j hj
 .rw[yb] at uk;exact⟨B,0,n*9,cap*9,uk,by simp[cA.val,Sz.val],λ_=>by simp[cA.val,Sz.val],.inr ⟨cap,hn,rfl,λ_=>by simp[cA.val]⟩⟩
theorem akU {P:Program}{π:Pi}{w W:World}{h:List af}{cs:List Ch}{out:List (Nat->Int)}{a:Option Addr}(ho:out.length=9)(hH:rW π (hC (h.map some)) (hZ (h.map some)) w)(kj:∀b,π b≠none->b<h.length)
  (I2:∀b,b<h.length->cs[b]? =some .mT∨cs[b]? =some .kill)(hfr:cg w (CC π h.length (R7 cs)) W)(ham:Aw W):
  aH4 P π w h ⟨.r (.c (.sl h.length (.k 0) (.s 0) 9 true)),cs,[[.a (.s 0) (fy out)]]⟩ (.returned (.slice a 0 0)) W:=by
 have yb:=QB ho 0;refine axy (P:=P) (B:=w.heap.size) (s:=0) (e:=0) hH kj I2 hfr (by rw[yb];omega) (λi _ hi=>by omega) (λj hj=>by rw[yb] at hj;omega) (.inl (eO _)) ham (λBe=>by omega) λπ' hx uk=> ?_;rw[yb] at uk;exact⟨w.heap.size,0,0*9,0,uk,by simp[cA.val,Sz.val],λ_=>by simp[cA.val,Sz.val],.inl ⟨rfl,a,rfl⟩⟩
theorem aCD {π:Pi}{w:World}{h:List af}{l:List (Nat->Int)}{n b B st q e:Nat}(hl:l.length=9)(hH:rW π (hC (h.map some)) (hZ (h.map some)) w)(hb:h[b]? =some [.a (.s n) (fy l)])(hp:π b=some (B,st,q,e)):
  q=n*9/\st+n*9<=e/\(∀i,st<=i->i<e->(cl w B i).isSome=true/\fz w B i=false)/\∃cs:List Value,cs.length=n*9/\(∀j v,cs[j]? =some v->w.cell? ⟨B,st+j,none⟩=some v/\(iP (fy l) j).rel π v)/\∀v∈cs,v.oneCell'=true:=by
 have hz:hZ (h.map some) b=some (n*9):=by rw[PI,hb];exact cM some (QB hl n)
 obtain⟨B',s',e',fw,Be,k1,k2⟩:=hH.hp b _ hz;rw[hp] at fw;cases fw;refine⟨rfl,Be,k1,aNs λj hj=> ?_⟩;obtain⟨v,hv,hr⟩:=k2 j hj;rw[aCA hb (by rw[QB hl];exact hj),ass hl hj] at hr;exact⟨v,hv,hr⟩
end Go.Ab
namespace Go.Proofs.YtldgljclcgaibaaGreat
open Go.RowKit Go.Lib Go.Ab
variable [ax]
omit [ax] in
theorem ast {P:Program}(w:World)(tS tR e:TypeId)(ht:P.underlying tS=some (.slice e))(size:Nat)(hz:∀w,(Go.sizeOf e).run P w=.ok size w)(B oa ob la ca lb cb:Nat)(hd:oa+la*size<=ob∨ob+lb*size<=oa):
  (Extern.SlicesOverlaps.overlaps #[tS,tS] #[tR] #[.slice (some ⟨B,oa,none⟩) la ca,.slice (some ⟨B,ob,none⟩) lb cb]).run P w=.ok (.bool false) w:=by
 change Sem.run P (α:=Value) (do
  let some t:=(#[tS,tS]:Array TypeId)[0]? |stuck "slices.overlaps: no parameter types"
  let .slice elem<-underlying t|stuck "slices.overlaps: slice type expected"
  let size<-sizeOf elem
  match(some ⟨B,oa,none⟩:Option Addr),(some ⟨B,ob,none⟩:Option Addr) with
  |some a,some b=>
   if la=0∨lb=0∨size=0 then pure (Value.bool false)
   else if a.block !=b.block&&(<-frozen a)&&(<-frozen b) then unsupported .addressObserved
   else do
    if a.block !=b.block then do
     noView a;noView b
     if<-mayBeOne a b then return Value.bool ((<-choose (.extern "sameAddr.stringBytes" 2))==1)
    pure (Value.bool (a.block==b.block&&a.off<b.off+lb*size&&b.off<a.off+la*size))
  |_,_=>pure (Value.bool false)) w=_
 by_cases h0:la=0∨lb=0∨size=0
 .simp[run_underlying ht,hz,h0]
 .simp[run_underlying ht,hz,h0,frozen,Sem.run]
  omega
omit [ax] in
theorem aJ3 {w:World}{vb CF vc b o lb cb:Nat}(hd:vb=b->CF+9<=o∨o+lb*9<=CF){va vb2:Value}(ha:w.cell? ⟨vb,CF,none⟩=some va)(hb:w.cell? ⟨b,o,none⟩=some vb2)(hfa:∀i,w.frozen? ⟨vb,i,none⟩=false):
  (callFunc 145 #[.slice (some ⟨vb,CF,none⟩) 1 vc,.slice (some ⟨b,o,none⟩) lb cb]).run Tryz.prog w=.ok (.value (.bool false)) w:=by
 rw[run_callFunc_extern Tryz.func145 (by kernel_rfl) (by kernel_rfl) (by kernel_rfl) (e:=Extern.SlicesOverlaps.overlaps #[140,140] #[4]) (by kernel_rfl)];obtain⟨tA,kA,sA,_⟩:=aH9 ha;obtain⟨tB,kB,sB,nB⟩:=aH9 hb;by_cases oe:vb=b
 .subst oe;have h2:=hd rfl;rw[ast w 140 4 42 uT 9 (λw=>Ab.run_sizeOf uE w) vb CF o 1 vc lb cb (by omega)];rfl
 .rw[Lib.run_overlaps_apart w 140 4 42 uT 9 (λw=>Ab.run_sizeOf uE w) ⟨vb,CF,none⟩ ⟨b,o,none⟩ 1 vc lb cb oe tA tB kA kB sA sB nB (hfa CF) (hfa kA)];rfl
end Go.Proofs.YtldgljclcgaibaaGreat
set_option maxRecDepth 100000
set_option maxHeartbeats 4000000
namespace Go.Proofs.YtldgljclcgaibaaGreat
open Go.RowKit Go.Lib Go.Ab
theorem aGc [ax]{gs vs9:List (Nat->Int)}(hg:gs.length=9)(hv9:vs9.length=9)(n i:Nat)(hi:i<=n)(ay9:(n+1)*72<=140737488355328)(w2:Bool)(w:World)(π:Pi)(vs:Array Value)
  (lP:bj (AV.rel π) [.r (.c (.sl 0 (.k 0) (.s n) 9 true)),.r (.c (.f (.i .i64 (i:Int)))),.r (.c (.sl 1 (.k 0) (.s 1) 9 w2))] vs.toList)
  (hH:rW π (hC ([[.a (.s n) (fy gs)],[.a (.s 1) (fy vs9)]].map some)) (hZ ([[.a (.s n) (fy gs)],[.a (.s 1) (fy vs9)]].map some)) w)(kj:∀b,π b≠none->b<2):
  Calls Tryz.prog 97 vs w (ti π w [[.a (.s n) (fy gs)],[.a (.s 1) (fy vs9)]] ⟨.r (.c (.sl 2 (.k 0) (.s (n+1)) 9 true)),[.kill,.mT],[[.a (.s (n+1)) (fy (List.zipWith (EG i) gs vs9))]]⟩):=by
 obtain⟨y1,y2,y3,hvt,r1,r2,r3⟩:∃y1 y2 y3,vs.toList=[y1,y2,y3]/\(AV.r (.c (.sl 0 (.k 0) (.s n) 9 true))).rel π y1/\(AV.r (.c (.f (.i .i64 (i:Int))))).rel π y2/\(AV.r (.c (.sl 1 (.k 0) (.s 1) 9 w2))).rel π y3:=by
  match hl:vs.toList,lP with
  | [y1,y2,y3],⟨a,b,c,_⟩=>exact⟨y1,y2,y3,rfl,a,b,c⟩
  | [],h=>exact h.elim
  | [_],⟨_,h⟩=>exact h.elim
  | [_,_],⟨_,_,h⟩=>exact h.elim
  |_::_::_::_::_,⟨_,_,_,h⟩=>exact h.elim
 have hvt:vs=#[y1,y2,y3]:=by rw[<-akp];exact hvt
 subst hvt;have r2:y2=.int .i64 (i:Int):=r2;subst r2;obtain⟨B,st,q,e,hb,_,_,hx⟩:=r1;obtain⟨vB,vst,vq,ve,hvb,_,_,hvx⟩:=r3;obtain⟨rfl,hle,pM,cs,DE,I2,h1c⟩:=aCD (b:=0) hg hH rfl hb;obtain⟨rfl,a4F,a07,vl,hvl,hvs,h1v⟩:=aCD (b:=1) hv9 hH rfl hvb
 obtain⟨Zt,a3F,rfl,_⟩:∃Zt,1<=Zt/\y3=.slice (some ⟨vB,vst,none⟩) 1 Zt/\True:=by
  rcases hvx with⟨h,_⟩| ⟨Zt,h1,h2,_⟩
  .cases h
  .exact⟨Zt,h1,h2,trivial⟩
 have Ng:hZ ([[.a (.s n) (fy gs)],[.a (.s 1) (fy vs9)]].map some) 0≠none:=by simp[hZ]
 have hz1:hZ ([[.a (.s n) (fy gs)],[.a (.s 1) (fy vs9)]].map some) 1≠none:=by simp[hZ]
 have hfv:∀i,w.frozen? ⟨vB,i,none⟩=false:=λi=>hH.am.fr vB i (hH.lb 1 vB vst _ ve hz1 hvb (by omega))
 have ho:(List.zipWith (EG i) gs vs9).length=9:=by simp[hg,hv9]
 have ahS:∀b,b< [[Sg.a (.s n) (fy gs)],[.a (.s 1) (fy vs9)]].length->[Ch.kill,Ch.mT][b]? =some .mT∨[Ch.kill,Ch.mT][b]? =some .kill:=λb hb=>by
  match b,hb with
  |0,_=>exact .inr rfl
  |1,_=>exact .inl rfl
  |b+2,h=>exact absurd h (by simp)
 have hft:∀i,st<=i->i<e->CC π 2 (R7 [.kill,.mT]) B i:=λi h1 h2=>⟨0,st,_,e,by omega,by simp[R7],hb,h1,h2⟩
 have cont:∀(W:World) (B' s':Nat),(∀j v,j<i*9->cs[j]? =some v->cl W B' (s'+j)=some v)->(∀j v,vl[j]? =some v->cl W B' (s'+i*9+j)=some v)->(∀j v,i*9<=j->cs[j]? =some v->cl W B' (s'+(j+9))=some v)->
   ∀J,J<(n+1)*9->∃v,cl W B' (s'+J)=some v/\(iP (fy (List.zipWith (EG i) gs vs9)) J).rel π v:=λW B' s' c1 c2 c3 J hJ=>by
  rw[aTo hg hv9];by_cases h1:J<i*9
  .rw[if_pos h1];have hj:cs[J]? =some (cs[J]'(by omega)):=kE _;exact⟨_,c1 J _ h1 hj,(I2 J _ hj).2⟩
  .rw[if_neg h1];by_cases h2:J<(i+1)*9
   .rw[if_pos h2];have hj:vl[J-i*9]? =some (vl[J-i*9]'(by omega)):=kE _;have:=c2 _ _ hj;rw[show s'+i*9+(J-i*9)=s'+J by omega] at this;exact⟨_,this,(hvs _ _ hj).2⟩
   .rw[if_neg h2];have hj:cs[J-9]? =some (cs[J-9]'(by omega)):=kE _;have:=c3 _ _ (by omega) hj;rw[show s'+(J-9+9)=s'+J by omega] at this;exact⟨_,this,(I2 _ _ hj).2⟩
 have hE:=iE;obtain⟨i0,z0,hi0,hzz,a2z,aXD,a2A⟩:=hE;have aXE:(Tryz.prog.info? 42).map (·.bytes)=some 72:=by rw[hi0];exact cM some aXD
 obtain⟨zv,hzv,aXF⟩:∃zv,At Tryz.prog 42=some zv/\af.size zv.bO=9:=by
  have h:(At Tryz.prog 42).map (λz=>af.size z.bO)=some 9:=by kernel_rfl
  cases hz:At Tryz.prog 42 with
  |none=>rw[hz] at h;cases h
  |some z=>rw[hz] at h;exact⟨z,rfl,by simpa using h⟩
 have asn:∀(base:Option Addr) (cap:Nat) (Gk:List Value),i=n->Gk=cs->cap<n+1->n<=cap->((base=none/\n=0/\cap=0)∨∃b,base=some b/\∀j v,Gk[j]? =some v->w.cell? (b.add j)=some v)->
   y1=.slice base n cap->Calls Tryz.prog 97 #[y1,.int .i64 (i:Int),.slice (some ⟨vB,vst,none⟩) 1 Zt] w (ti π w [[.a (.s n) (fy gs)],[.a (.s 1) (fy vs9)]] ⟨.r (.c (.sl 2 (.k 0) (.s (n+1)) 9 true)),[.kill,.mT],[[.a (.s (n+1)) (fy (List.zipWith (EG i) gs vs9))]]⟩):=by
  intro base cap Gk hin holds rp a3G hs hy;subst hin holds
  obtain⟨gc,arr,nZ,hgc,yb,rest,afA⟩:∃gc arr,(∀ty,(Builtin.append_ #[140,140] ty #[.slice base i cap,.slice (some ⟨vB,vst,none⟩) 1 Zt]).run Tryz.prog w=.ok (.slice (some ⟨w.heap.size,0,none⟩) (i+1) gc) (w.drew.alloc (.cells arr 42)))/\i+1<=gc/\arr.size=gc*9/\∃rest,arr.toList=Gk++vl++rest:=by
   obtain⟨gc,arr,nZ,h2,h3,h4⟩:=H' (P:=Tryz.prog) (ty:=0) uT uE aXE hzv aXF (by omega) (sv:=.slice base i cap) (n:=i) (cap:=cap) (m:=1) (c:=Zt) (ad:=⟨vB,vst,none⟩) (Gk:=Gk) (news:=vl) w (by
    rcases hs with⟨rfl,h1,h2⟩| ⟨b,rfl,h3⟩
    .exact .inl ⟨by rw[h1,h2],h1,h2⟩
    .exact .inr ⟨b,rfl,h3⟩) DE (by rw[hvl]) (λj v hj=>by rw[Addr.add_lit];exact(hvs j v hj).1) rp (by omega) ay9
   exact⟨gc,arr,λty=>by unfold Builtin.append_ at nZ ⊢;exact nZ,h2,h3,h4⟩
  have hC:=aNr base i cap vB vst Zt w _ _ nZ;rw[hy];refine Calls.mono hC ?_;rintro ev W ⟨rfl,rfl⟩
  have aIa:∀j,cl (w.drew.alloc (.cells arr 42)) w.heap.size j=arr[j]? :=λj=>World.cell?_alloc_at (w:=w.drew) arr _ w.heap.size j rfl
  refine akT (P:=Tryz.prog) ho hH kj ahS (eO _) (((cg.refl w _).drew).alloc _ _) (λk hk=>⟨by rw[aIa,ahM (by omega)];rfl,World.frozen?_alloc_at (w:=w.drew) arr _ w.heap.size k rfl⟩) ((hH.am.same (w':=w.drew) rfl).alloc _ _) (λJ hJ=> ?_) hgc;have:=cont (w.drew.alloc (.cells arr 42)) w.heap.size 0 (λj v hj hv=>by rw[gW,aIa];exact(Vc afA).1 hv) (λj v hv=>by rw[gW,aIa,<-DE];exact(Vc afA).2 hv) (λj v hj hv=>by have:=(lX.1 hv).1;omega) J hJ;rwa [gW] at this
 rcases hx with⟨h0,a,rfl⟩| ⟨cap,rp,rfl,hce⟩
 ·
  have h0:n=0:=h0;subst h0;have a2B:i=0:=by omega
  subst a2B;cases a with
  |none=>exact asn none 0 cs rfl rfl (by omega) (by omega) (.inl ⟨rfl,rfl,rfl⟩) rfl
  |some b=>
   have a2C:cs=[]:=List.eq_nil_of_length_eq_zero (by omega);exact asn (some b) 0 cs rfl rfl (by omega) (by omega) (.inr ⟨b,rfl,λj v hj=>by rw[a2C] at hj;simp at hj⟩) rfl
 .have rp:n<=cap:=rp;have hce:st+cap*9<=e:=by have:=hce rfl;simpa[cA.val] using this
  show Calls Tryz.prog 97 #[.slice (some ⟨B,st,none⟩) n cap,.int .i64 (i:Int),.slice (some ⟨vB,vst,none⟩) 1 Zt] w _;by_cases R6:n+1<=cap
  .have a3q:(n+1)*9<=cap*9:=vV _ R6
   have aW5:vB=B->vst+9<=st∨st+(n+1)*9<=vst:=λh=>by
    subst h;rcases o7 vst (st+(n+1)*9) with h1|h1
    .left
     rcases o7 st (vst+9) with h2|h2
     .exfalso
      rcases o7 st vst with h3|h3
      .exact hH.dj 0 1 _ st _ e vst _ ve (by omega) Ng hz1 hb hvb vst (by omega) (by omega) (eO _) (by omega)
      .exact hH.dj 0 1 _ st _ e vst _ ve (by omega) Ng hz1 hb hvb st (eO _) (by omega) h3 (by omega)
     .omega
    .exact .inr h1
   by_cases hin:i=n
   ·
    subst hin;have hC:=aNr (some ⟨B,st,none⟩) i cap vB vst Zt w _ _ (λty=>La (P:=Tryz.prog) (ty:=ty) uT uE (B:=B) (q:=st) (n:=i) (cap:=cap) (m:=1) (c:=Zt) (ad:=⟨vB,vst,none⟩) (news:=vl) R6 (by rw[hvl]) w (λj v hj=>by rw[Addr.add_lit];exact(hvs j v hj).1) h1v (λj hj=>pM _ (by omega) (by omega)));refine Calls.mono hC ?_;rintro ev W ⟨rfl,rfl⟩
    have a0l:∀j,j<vl.length->(cl w B (st+i*9+j)).isSome=true:=λj hj=>(pM _ (by omega) (by omega)).1
    refine Zs (P:=Tryz.prog) (q:=i*9) ho hH kj ahS (by simp) rfl hb ((cg.refl w _).setCells (.inr λj hj=>hft _ (by omega) (by omega))) (λk k1 k2=>⟨Ab.isSome_setCells a0l (pM k k1 k2).1,by rw[pj];exact(pM k k1 k2).2⟩) (hH.am.setCells λ_=>hH.lb 0 B st _ e Ng hb (by omega)) (cont _ B st (λj v hj hv=> ?_) (λj v hv=> ?_) (λj v hj hv=>by have:=(lX.1 hv).1;omega)) R6 hce
    .rw[eP (λ_=>by omega)];exact(I2 j v hv).1
    .have hjl:=(lX.1 hv).1;rw[nS a0l hjl];rw[kE hjl] at hv;exact hv
   ·
    have hC:=aQR B st n cap i vB vst Zt cs vl w (by omega) R6 aW5 DE hvl (by omega) (λj v hj=>(I2 j v hj).1) (λj hj=>(pM _ (by omega) (by omega)).1) (λj hj=>(pM _ (by omega) (by omega)).2) (λj v hj=>(hvs j v hj).1) h1c h1v
     (λcb=>by
      obtain⟨va,hva⟩:=Option.isSome_iff_exists.1 (a07 vst (eO _) (by omega)).1;obtain⟨vb2,a2D⟩:=Option.isSome_iff_exists.1 (pM (st+(i+1)*9) (by omega) (by omega)).1;exact aJ3 (λh=>by have:=aW5 h;omega) hva a2D hfv)
    refine Calls.mono hC ?_;rintro ev W ⟨rfl,rfl⟩
    have hdl:(cs.drop (i*9)).length=(n-i)*9:=by rw[ar8,DE];omega
    have i1:∀j,j<(cs.drop (i*9)).length->(cl w.drew B (st+(i+1)*9+j)).isSome=true:=λj hj=>(pM _ (by omega) (by omega)).1
    have i2:∀j,j<vl.length->(cl (w.drew.setCells B (st+(i+1)*9) (cs.drop (i*9))) B (st+i*9+j)).isSome=true:=λj hj=>Ab.isSome_setCells i1 (pM _ (by omega) (by omega)).1
    have hlb:=hH.lb 0 B st _ e Ng hb (by omega)
    refine Zs (P:=Tryz.prog) (q:=n*9) ho hH kj ahS (by simp) rfl hb ((((cg.refl w _).drew).setCells (.inr λj hj=>hft _ (by omega) (by omega))).setCells (.inr λj hj=>hft _ (by omega) (by omega)))
     (λk k1 k2=>⟨Ab.isSome_setCells i2 (Ab.isSome_setCells i1 (pM k k1 k2).1),by rw[pj,pj];exact(pM k k1 k2).2⟩) (((hH.am.same (w':=w.drew) rfl).setCells λ_=>hlb).setCells λ_=>hlb) (cont _ B st (λj v hj hv=> ?_) (λj v hv=> ?_) (λj v hj hv=> ?_)) R6 hce
    .rw[eP (λ_=>by omega),eP (λ_=>by omega)];exact(I2 j v hv).1
    .have hjl:=(lX.1 hv).1;rw[nS i2 hjl];rw[kE hjl] at hv;exact hv
    .have hjl:=(lX.1 hv).1;rw[eP (λ_=>by omega)];have lZ:j-i*9<(cs.drop (i*9)).length:=by omega
     have:=nS i1 lZ;rw[show st+(i+1)*9+(j-i*9)=st+(j+9) by omega] at this;rw[this,<-kE,RW,show i*9+(j-i*9)=j by omega];exact hv
  .by_cases hin:i=n
   .exact asn (some ⟨B,st,none⟩) cap cs hin rfl (by omega) rp (.inr ⟨_,rfl,λj v hj=>by rw[Addr.add_lit];exact(I2 j v hj).1⟩) rfl
   .obtain⟨G,CG,hG,yb,htk,hC⟩:=aTm B st n cap i vB vst Zt cs vl w (by omega) rp (by omega) ay9 DE hvl (λj v hj=>(I2 j v hj).1) (λj v hj=>(hvs j v hj).1) h1c h1v;refine Calls.mono hC ?_;rintro ev W ⟨rfl,rfl⟩
    have hG9:(n+1)*9<=G*9:=vV _ hG;have hdl:(cs.drop (i*9)).length=(n-i)*9:=by rw[ar8,DE];omega
    have c0:∀j,cl (w.alloc (.cells CG 42)).drew w.heap.size j=CG[j]? :=λj=>World.cell?_alloc_at (w:=w) CG _ w.heap.size j rfl
    have s0:∀j,j<G*9->(cl (w.alloc (.cells CG 42)).drew w.heap.size j).isSome=true:=λj hj=>by rw[c0,ahM (by omega)];rfl
    have i1:∀j,j<vl.length->(cl (w.alloc (.cells CG 42)).drew w.heap.size (i*9+j)).isSome=true:=λj hj=>s0 _ (by omega)
    have i2:∀j,j<(cs.drop (i*9)).length->(cl ((w.alloc (.cells CG 42)).drew.setCells w.heap.size (i*9) vl).drew w.heap.size ((i+1)*9+j)).isSome=true:=λj hj=>Ab.isSome_setCells i1 (s0 _ (by omega))
    have hlb:ax.h0<=w.heap.size:=hH.am.sz;have am1:Aw (w.alloc (.cells CG 42)).drew:=(hH.am.alloc CG 42).same (w':=(w.alloc (.cells CG 42)).drew) rfl;have am2:Aw ((w.alloc (.cells CG 42)).drew.setCells w.heap.size (i*9) vl).drew:=(am1.setCells λ_=>hlb).same (w':=((w.alloc (.cells CG 42)).drew.setCells w.heap.size (i*9) vl).drew) rfl;have f1:cg w (CC π 2 (R7 [.kill,.mT])) ((w.alloc (.cells CG 42)).drew.setCells w.heap.size (i*9) vl).drew:=((((cg.refl w _).alloc CG 42).drew).setCells (.inl (eO _))).drew;refine akT (P:=Tryz.prog) ho hH kj ahS (eO _) (f1.setCells (.inl (eO _))) (λk hk=>⟨Ab.isSome_setCells i2 (Ab.isSome_setCells i1 (s0 k hk)),?_⟩) (am2.setCells λ_=>hlb) (λJ hJ=> ?_) hG
    .rw[pj];exact(pj (w:=(w.alloc (.cells CG 42)).drew)).trans (World.frozen?_alloc_at (w:=w) CG _ w.heap.size k rfl)
    .have:=cont (((w.alloc (.cells CG 42)).drew.setCells w.heap.size (i*9) vl).drew.setCells w.heap.size ((i+1)*9) (cs.drop (i*9))) w.heap.size 0 (λj v hj hv=> ?_) (λj v hv=> ?_) (λj v hj hv=> ?_) J hJ
     .rwa [gW] at this
     .rw[gW,eP (λ_=>by omega)];exact(eP (w:=(w.alloc (.cells CG 42)).drew) (λ_=>by omega)).trans ((c0 j).trans (htk j v hj hv))
     .have hjl:=(lX.1 hv).1;rw[gW,eP (λ_=>by omega)];have:=nS i1 hjl;rw[kE hjl] at hv;exact this.trans hv
     .have hjl:=(lX.1 hv).1;have lZ:j-i*9<(cs.drop (i*9)).length:=by omega
      have:=nS i2 lZ;rw[show(i+1)*9+(j-i*9)=j+9 by omega] at this;rw[gW,this,<-kE,RW,show i*9+(j-i*9)=j by omega];exact hv
theorem zS [ax]:∃z,(∀w,(Go.zeroValue 42).run Tryz.prog w=.ok z w)/\z.cells.size=9/\∀v∈z.cells.toList,v.oneCell'=true:=by
 have h:(Tryz.prog.info? 42).map (λi=>i.zero.map λz=>(z.cells.size,z.cells.toList.all λv=>v.oneCell'))=some (some (9,true)):=by kernel_rfl
 obtain⟨zv,hzv⟩:∃zv,At Tryz.prog 42=some zv:=by
  have h:(At Tryz.prog 42).isSome=true:=by kernel_rfl
  exact Option.isSome_iff_exists.1 h
 cases hi:Tryz.prog.info? 42 with
 |none=>rw[hi] at h;cases h
 |some i=>
  rw[hi] at h;simp only[RX,jY] at h;cases hz:i.zero with
  |none=>rw[hz] at h;cases h
  |some z=>
   rw[hz] at h;simp only[RX,jY,qG] at h;refine⟨z,λw=> ?_,h.1,aw8.1 h.2⟩;obtain⟨x,hx,⟨it,hi2,hz2⟩,_⟩:=ac7 hzv w;rw[hi] at hi2;cases hi2;rw[hz] at hz2;cases hz2;exact hx
theorem aXG [ax](w:World)(ty:TypeId)(b o n c:Nat)(hn:0<n)(hc:∀j,j<n*9->(w.cell? ⟨b,o+j,none⟩).isSome=true)(hf:∀j,j<n*9->w.frozen? ⟨b,o+j,none⟩=false):
  ∃zs:List Value,zs.length=n*9/\(Builtin.clear_ #[140] ty #[.slice (some ⟨b,o,none⟩) n c]).run Tryz.prog w=.ok (.tuple #[]) (w.setCells b o zs):=by
 obtain⟨z,hz,hs,h1⟩:=zS;have hl:(Builtin.zeroCells z.cells n).toList.length=n*9:=by rw[Vi,size_zeroCells,hs]
 refine⟨(Builtin.zeroCells z.cells n).toList,hl,?_⟩
 have hst:=run_storeCells_cells (P:=Tryz.prog) b o (Builtin.zeroCells z.cells n).toList 0 w (by rw[hl];simpa using hc) (by rw[hl];simpa using hf) (by
  intro v hv;unfold Builtin.zeroCells at hv;rw[Array.toList_map] at hv;obtain⟨i,hi,rfl⟩:=List.mem_map.1 hv;have nR:i%z.cells.size<z.cells.size:=Nat.mod_lt _ (by omega);have e:z.cells[i%z.cells.size]! =z.cells[i%z.cells.size]:=getElem!_pos z.cells (i%z.cells.size) nR;rw[e];exact h1 _ (Array.getElem_mem_toList nR))
 simp only[km] at hst;obtain⟨m,rfl⟩:∃m,n=m+1:=⟨n-1,by omega⟩;simp[Builtin.clear_,run_underlying uT,hz,hst]
theorem aGd [ax]{gs:List (Nat->Int)}(hg:gs.length=9)(n i j:Nat)(hij:i<=j)(hj:j<=n)(w:World)(π:Pi)(vs:Array Value)
  (lP:bj (AV.rel π) [.r (.c (.sl 0 (.k 0) (.s n) 9 true)),.r (.c (.f (.i .i64 (i:Int)))),.r (.c (.f (.i .i64 (j:Int))))] vs.toList)
  (hH:rW π (hC ([[.a (.s n) (fy gs)]].map some)) (hZ ([[.a (.s n) (fy gs)]].map some)) w)(kj:∀b,π b≠none->b<1):
  Calls Tryz.prog 98 vs w (ti π w [[.a (.s n) (fy gs)]] ⟨.r (.c (.sl 1 (.k 0) (.s (i+(n-j))) 9 true)),[.kill],[[.a (.s (i+(n-j))) (fy (gs.map (Kl i (j-i))))]]⟩):=by
 obtain⟨y1,y2,y3,hvt,r1,r2,r3⟩:∃y1 y2 y3,vs.toList=[y1,y2,y3]/\(AV.r (.c (.sl 0 (.k 0) (.s n) 9 true))).rel π y1/\(AV.r (.c (.f (.i .i64 (i:Int))))).rel π y2/\(AV.r (.c (.f (.i .i64 (j:Int))))).rel π y3:=by
  match hl:vs.toList,lP with
  | [y1,y2,y3],⟨a,b,c,_⟩=>exact⟨y1,y2,y3,rfl,a,b,c⟩
  | [],h=>exact h.elim
  | [_],⟨_,h⟩=>exact h.elim
  | [_,_],⟨_,_,h⟩=>exact h.elim
  |_::_::_::_::_,⟨_,_,_,h⟩=>exact h.elim
 have hvt:vs=#[y1,y2,y3]:=by rw[<-akp];exact hvt
 subst hvt;have r2:y2=.int .i64 (i:Int):=r2;have r3:y3=.int .i64 (j:Int):=r3;subst r2 r3;obtain⟨B,st,q,e,hb,_,_,hx⟩:=r1;obtain⟨rfl,hle,pM,cs,DE,I2,h1c⟩:=aCD (b:=0) hg hH rfl hb;have Ng:hZ ([[.a (.s n) (fy gs)]].map some) 0≠none:=by simp[hZ]
 have ho:(gs.map (Kl i (j-i))).length=9:=by simp[hg]
 have ahS:∀b,b< [[Sg.a (.s n) (fy gs)]].length->[Ch.kill][b]? =some .mT∨[Ch.kill][b]? =some .kill:=λb hb=>by
  match b,hb with
  |0,_=>exact .inr rfl
  |b+1,h=>exact absurd h (by simp)
 have hft:∀i,st<=i->i<e->CC π 1 (R7 [.kill]) B i:=λi h1 h2=>⟨0,st,_,e,by omega,by simp[R7],hb,h1,h2⟩
 rcases hx with⟨h0,a,rfl⟩| ⟨cap,rp,rfl,hce⟩
 .have h0:n=0:=h0;subst h0;have hi0:i=0:=by omega
  have hj0:j=0:=by omega
  subst hi0 hj0;refine Calls.mono (aH7 a 0 0 0 w (by omega) (by omega)) ?_;rintro ev W ⟨rfl,rfl⟩
  exact akU (P:=Tryz.prog) ho hH kj ahS (cg.refl _ _) hH.am
 .have rp:n<=cap:=rp;have hce:st+cap*9<=e:=by have:=hce rfl;simpa[cA.val] using this
  have a3H:n*9<=cap*9:=vV _ rp;show Calls Tryz.prog 98 #[.slice (some ⟨B,st,none⟩) n cap,.int .i64 (i:Int),.int .i64 (j:Int)] w _;rcases Nat.eq_or_lt_of_le hij with a2E|nR
  .subst a2E;refine Calls.mono (aH7 _ n cap i w hj rp) ?_;rintro ev W ⟨rfl,rfl⟩
   have hn:i+(n-i)=n:=by omega
   rw[hn];refine Zs (P:=Tryz.prog) (q:=n*9) ho hH kj ahS (by simp) rfl hb (cg.refl _ _) pM hH.am (λJ hJ=> ?_) rp hce;rw[aH8 hg];have hjj:cs[J]? =some (cs[J]'(by omega)):=kE _;refine⟨_,(I2 _ _ hjj).1,?_⟩;have:=(I2 _ _ hjj).2;split
   .exact this
   .rw[Nat.sub_self,RY,km];exact this
  .have hm9:(i+(n-j))*9<=n*9:=vV _ (by omega);have hdl:(cs.drop (j*9)).length=(n-j)*9:=by rw[ar8,DE];omega
   have i1:∀k,k<(cs.drop (j*9)).length->(cl w.drew B (st+i*9+k)).isSome=true:=λk hk=>(pM _ (by omega) (by omega)).1
   obtain⟨w2,hw2⟩:∃w2,w2=w.drew.setCells B (st+i*9) (cs.drop (j*9)):=⟨_,rfl⟩
   have s2:∀k,st<=k->k<e->(cl w2 B k).isSome=true/\fz w2 B k=false:=λk k1 k2=>by
    rw[hw2];exact⟨Ab.isSome_setCells i1 (pM k k1 k2).1,by rw[pj];exact(pM k k1 k2).2⟩
   obtain⟨zs,hzl,a2F⟩:∃zs:List Value,zs.length=(n-(i+(n-j)))*9/\∀ty,(Builtin.clear_ #[140] ty #[.slice (some ⟨B,st+(i+(n-j))*9,none⟩) (n-(i+(n-j))) (cap-(i+(n-j)))]).run Tryz.prog w2=.ok (.tuple #[]) (w2.setCells B (st+(i+(n-j))*9) zs):=by
    obtain⟨zs,h1,h2⟩:=aXG w2 0 B (st+(i+(n-j))*9) (n-(i+(n-j))) (cap-(i+(n-j))) (by omega) (λk hk=>(s2 _ (by omega) (by omega)).1) (λk hk=>(s2 _ (by omega) (by omega)).2);exact⟨zs,h1,λty=>by unfold Builtin.clear_ at h2 ⊢;exact h2⟩
   have hC:=aTn B st n cap i j w w2 (w2.setCells B (st+(i+(n-j))*9) zs) nR hj rp (λty=>by
    rw[hw2]
    exact La (P:=Tryz.prog) (ty:=ty) uT uE (B:=B) (q:=st) (n:=i) (cap:=cap) (m:=n-j) (c:=cap-j) (news:=cs.drop (j*9)) (by omega) hdl w.drew (λk v hk=>by
     have hk2:=(lX.1 hk).1;rw[RW] at hk;have:=(I2 _ _ hk).1;split
     .omega
     .rw[Addr.add_lit,BB];exact this) (λv hv=>h1c v (List.mem_of_mem_drop hv)) (λk hk=>pM _ (by omega) (by omega))) a2F
   refine Calls.mono hC ?_;rintro ev W ⟨rfl,rfl⟩
   have i2:∀k,k<zs.length->(cl w2 B (st+(i+(n-j))*9+k)).isSome=true:=λk hk=>(s2 _ (by omega) (by omega)).1
   have hlb:0<n->ax.h0<=B:=λ_=>hH.lb 0 B st _ e Ng hb (by omega)
   have am2:Aw w2:=by rw[hw2];exact(hH.am.same (w':=w.drew) rfl).setCells λ_=>hlb (by omega)
   have f2:cg w (CC π 1 (R7 [.kill])) w2:=by rw[hw2];exact((cg.refl w _).drew).setCells (.inr λk hk=>hft _ (by omega) (by omega))
   refine Zs (P:=Tryz.prog) (q:=n*9) ho hH kj ahS (by simp) rfl hb (f2.setCells (.inr λk hk=>hft _ (by omega) (by omega))) (λk k1 k2=>⟨Ab.isSome_setCells i2 (s2 k k1 k2).1,by rw[pj];exact(s2 k k1 k2).2⟩) (am2.setCells λ_=>hlb (by omega)) (λJ hJ=> ?_) (by omega) hce;rw[aH8 hg,eP (λ_=>by omega),hw2];by_cases h1:J<i*9
   .rw[if_pos h1,eP (λ_=>by omega)];have hjj:cs[J]? =some (cs[J]'(by omega)):=kE _;exact⟨_,(I2 _ _ hjj).1,(I2 _ _ hjj).2⟩
   .rw[if_neg h1];have hJ2:J-i*9<(cs.drop (j*9)).length:=by omega
    have h3:=nS i1 hJ2;rw[show st+i*9+(J-i*9)=st+J by omega] at h3;refine⟨_,h3,?_⟩
    have hjj:cs[J+(j-i)*9]? =some ((cs.drop (j*9))[J-i*9]):=by
     rw[<-kE,RW];congr 1
     have:(j-i)*9=j*9-i*9:=by omega
     omega
    exact(I2 _ _ hjj).2
theorem aJ4 [ax]{gs:List (Nat->Int)}(hg:gs.length=9)(n:Nat)(ay9:n*72<=140737488355328)(w0:Bool)(w:World)(π:Pi)(vs:Array Value)
  (lP:bj (AV.rel π) [.r (.c (.sl 0 (.k 0) (.s n) 9 w0))] vs.toList)
  (hH:rW π (hC ([[.a (.s n) (fy gs)]].map some)) (hZ ([[.a (.s n) (fy gs)]].map some)) w)(kj:∀b,π b≠none->b<1):
  Calls Tryz.prog 166 vs w (ti π w [[.a (.s n) (fy gs)]] ⟨.r (.c (.sl 1 (.k 0) (.s n) 9 true)),[.mT],[[.a (.s n) (fy gs)]]⟩):=by
 obtain⟨y1,hvt,r1⟩:∃y1,vs.toList=[y1]/\(AV.r (.c (.sl 0 (.k 0) (.s n) 9 w0))).rel π y1:=by
  match hl:vs.toList,lP with
  | [y1],⟨a,_⟩=>exact⟨y1,rfl,a⟩
  | [],h=>exact h.elim
  |_::_::_,⟨_,h⟩=>exact h.elim
 have hvt:vs=#[y1]:=by rw[<-akp];exact hvt
 subst hvt;obtain⟨B,st,q,e,hb,_,_,hx⟩:=r1;obtain⟨rfl,hle,pM,cs,DE,I2,h1c⟩:=aCD (b:=0) hg hH rfl hb
 have ahS:∀b,b< [[Sg.a (.s n) (fy gs)]].length->[Ch.mT][b]? =some .mT∨[Ch.mT][b]? =some .kill:=λb hb=>by
  match b,hb with
  |0,_=>exact .inl rfl
  |b+1,h=>exact absurd h (by simp)
 have hE:=iE;obtain⟨i0,z0,hi0,hzz,a2z,aXD,a2A⟩:=hE;have aXE:(Tryz.prog.info? 42).map (·.bytes)=some 72:=by rw[hi0];exact cM some aXD
 obtain⟨zv,hzv,aXF⟩:∃zv,At Tryz.prog 42=some zv/\af.size zv.bO=9:=by
  have h:(At Tryz.prog 42).map (λz=>af.size z.bO)=some 9:=by kernel_rfl
  cases hz:At Tryz.prog 42 with
  |none=>rw[hz] at h;cases h
  |some z=>rw[hz] at h;exact⟨z,rfl,by simpa using h⟩
 obtain⟨w1,hw1⟩:∃w1,w1=w.alloc (.cells #[] 42):=⟨_,rfl⟩;have hs1:w1.heap.size=w.heap.size+1:=by rw[hw1];exact World.size_alloc ..
 have am1:Aw w1:=by rw[hw1];exact hH.am.alloc _ _
 have f1:cg w (CC π 1 (R7 [.mT])) w1:=by rw[hw1];exact(cg.refl w _).alloc _ _
 have none_:n=0->∀(a:Addr) (c:Nat),Calls Tryz.prog 166 #[.slice (some a) 0 c] w (ti π w [[.a (.s n) (fy gs)]] ⟨.r (.c (.sl 1 (.k 0) (.s n) 9 true)),[.mT],[[.a (.s n) (fy gs)]]⟩):=λh0 a c=>by
  subst h0;refine Calls.mono (azo a 0 c w _ _ λty=>La (P:=Tryz.prog) (ty:=ty) uT uE (B:=w.heap.size) (q:=0) (n:=0) (cap:=0) (m:=0) (c:=c) (ad:=a) (news:=[]) (by omega) rfl (w.alloc (.cells #[] 42)) (λj v hj=>by simp at hj) (λv hv=>by cases hv) (λj hj=>by simp at hj)) ?_;rintro ev W ⟨rfl,rfl⟩
  rw[<-hw1];exact akU (P:=Tryz.prog) hg hH kj ahS f1 am1
 rcases hx with⟨h0,a,rfl⟩| ⟨cap,rp,rfl,hce⟩
 .have h0:n=0:=h0;cases a with
  |none=>
   subst h0;refine Calls.mono (aQS w) ?_;rintro ev W ⟨rfl,rfl⟩
   exact akU (P:=Tryz.prog) hg hH kj ahS (cg.refl _ _) hH.am
  |some b=>exact none_ h0 b 0
 .show Calls Tryz.prog 166 #[.slice (some ⟨B,st,none⟩) n cap] w _;rcases aaP n with h0|hn
  .subst h0;exact none_ rfl ⟨B,st,none⟩ cap
  .have hbw:B<w.heap.size:=aaY (pM st (eO _) (by omega)).1
   obtain⟨gc,arr,nZ,hgc,yb,rest,afA⟩:=H' (P:=Tryz.prog) (ty:=0) uT uE aXE hzv aXF (by omega) (sv:=.slice (some ⟨w.heap.size,0,none⟩) 0 0) (n:=0) (cap:=0) (m:=n) (c:=cap) (ad:=⟨B,st,none⟩) (Gk:=[]) (news:=cs) w1 (.inr ⟨_,rfl,λj v hj=>by simp at hj⟩) rfl DE (λj v hj=>by
    rw[Addr.add_lit,hw1];exact(World.cell?_alloc_past (w:=w) _ B _ hbw).trans (I2 j v hj).1) (by omega) hn (by omega)
   rw[gW] at nZ hgc;have nZ:∀ty,(Builtin.append_ #[140,140] ty #[.slice (some ⟨w.heap.size,0,none⟩) 0 0,.slice (some ⟨B,st,none⟩) n cap]).run Tryz.prog (w.alloc (.cells #[] 42))=.ok (.slice (some ⟨w1.heap.size,0,none⟩) n gc) (w1.drew.alloc (.cells arr 42)):=λty=>by rw[<-hw1];unfold Builtin.append_ at nZ ⊢;exact nZ
   refine Calls.mono (azo ⟨B,st,none⟩ n cap w _ _ nZ) ?_;rintro ev W ⟨rfl,rfl⟩
   have aIa:∀j,cl (w1.drew.alloc (.cells arr 42)) w1.heap.size j=arr[j]? :=λj=>World.cell?_alloc_at (w:=w1.drew) arr _ w1.heap.size j rfl
   refine akT (P:=Tryz.prog) hg hH kj ahS (by omega) ((f1.drew).alloc _ _) (λk hk=>⟨by rw[aIa,ahM (by omega)];rfl,World.frozen?_alloc_at (w:=w1.drew) arr _ w1.heap.size k rfl⟩) ((am1.same (w':=w1.drew) rfl).alloc _ _) (λJ hJ=> ?_) hgc;have hjj:cs[J]? =some (cs[J]'(by omega)):=kE _;refine⟨_,?_,(I2 _ _ hjj).2⟩;rw[aIa];have:=(Vc afA).2 hjj;simpa using this
end Go.Proofs.YtldgljclcgaibaaGreat
noncomputable section
namespace Go.Proofs.YtldgljclcgaibaaGreat
open Go.Ab Go.Ab.Pg
theorem Vz {α:Type}{c:Bool}{v d:α}(h:cond c (some v) none=some d):c=true/\v=d:=by
 cases c with
 |true=>exact⟨rfl,NJ h⟩
 |false=>cases h
theorem axA {β δ:Type}{Q:Rq (List AV×List af) β}{R:δ->Go.Ab.T}{f:β->Option δ}{a:List AV}{h:List af}{r:o9}(hr:(FC Q R f a h).eval=some r):
  ∃b d,(a,h)=Q.em b/\f b=some d/\(R d).eval=some r:=by
 unfold FC at hr;split at hr
 .rename_i b hb
  obtain⟨t,b⟩:=b;obtain⟨h1,YO⟩:=akR hr;rw[asq] at YO;obtain⟨d,e1,e2⟩:=Option.bind_eq_some_iff.1 YO;exact⟨b,d,Q.ok _ _ _ hb h1,e1,e2⟩
 .cases hr
def rX:=(open Go.Ab.Rq in(dp (c (ac (slc 0 9)) (c ai (cl (ac (slc 1 9)) nil))) λa=>(c (cl (gs a.1.1 (c gH (c gH (c gH (c gH (c gH (c gH (c gH (c gH (cl gH nil)))))))))) nil) (cl (cl (gs a.2.2.1 (c gH (c gH (c gH (c gH (c gH (c gH (c gH (c gH (cl gH nil)))))))))) nil) nil))):Rq (List AV×List af) _)
def rq:=(open Go.Ab.Rq in(res (pr (ac (CB 2 9)) (pu (cu Un (cu fK nil)) (cl (cl (ga (pr (szs hole) (c gH (c gH (c gH (c gH (c gH (c gH (c gH (c gH (cl gH nil))))))))))) nil) nil)))):Rq (o9) _)
abbrev fe:=Nat×(Nat->Int)×(Nat->Int)×(Nat->Int)×(Nat->Int)×(Nat->Int)×(Nat->Int)×(Nat->Int)×(Nat->Int)×(Nat->Int)
def EH (d:fe):T:=(λd=>.leaf (rq.em (d.1,d))) d
abbrev rY:=Nat->Int->(Nat->Int)->(Nat->Int)->(Nat->Int)->(Nat->Int)->(Nat->Int)->(Nat->Int)->(Nat->Int)->(Nat->Int)->(Nat->Int)->(Nat->Int)->(Nat->Int)->(Nat->Int)->(Nat->Int)->(Nat->Int)->(Nat->Int)->(Nat->Int)->(Nat->Int)->(Nat->Int)->Nat->Bool->Bool->Option fe
def rZ (g:rY):Ct:=(97,uV 0 [.i .i64,.i .i64,.i .i64,.i .i64,.i .i64,.i .i64,.i .i64,.i .i64,.i .i64] (FC rX EH (λb=>g b.1.1.1 b.1.2.1 b.2.1.1 b.2.1.2.1 b.2.1.2.2.1 b.2.1.2.2.2.1 b.2.1.2.2.2.2.1 b.2.1.2.2.2.2.2.1 b.2.1.2.2.2.2.2.2.1 b.2.1.2.2.2.2.2.2.2.1 b.2.1.2.2.2.2.2.2.2.2 b.2.2.1 b.2.2.2.1 b.2.2.2.2.1 b.2.2.2.2.2.1 b.2.2.2.2.2.2.1 b.2.2.2.2.2.2.2.1 b.2.2.2.2.2.2.2.2.1 b.2.2.2.2.2.2.2.2.2.1 b.2.2.2.2.2.2.2.2.2.2 b.1.2.2.1 b.1.1.2 b.1.2.2.2)))
def cS (x0:Nat)(x1:Int)(x2 x3 x4 x5 x6 x7 x8 x9 fS fR zy x13 x14 x15 x16 x17 x18 x19:Nat->Int)(x20:Nat)(w0 w1:Bool):Option fe:=
 bif ww x20 1&&(w0&&(decide (0<=x1)&&(wd (ws x1) x0&&wd ((x0+1)*72) 140737488355328))) then some (x0+1,EG (ws x1) x2 fR,EG (ws x1) x3 zy,EG (ws x1) x4 x13,EG (ws x1) x5 x14,EG (ws x1) x6 x15,EG (ws x1) x7 x16,EG (ws x1) x8 x17,EG (ws x1) x9 x18,EG (ws x1) fS x19) else none
theorem Ep:∀b,(rX).em b=([.r (.c (.sl 0 (.k 0) (.s b.1.1.1) 9 b.1.1.2)),.r (.c (.f (.i .i64 b.1.2.1))),.r (.c (.sl 1 (.k 0) (.s b.1.2.2.1) 9 b.1.2.2.2))],[[.a (.s b.1.1.1) [.i .i64 b.2.1.1,.i .i64 b.2.1.2.1,.i .i64 b.2.1.2.2.1,.i .i64 b.2.1.2.2.2.1,.i .i64 b.2.1.2.2.2.2.1,.i .i64 b.2.1.2.2.2.2.2.1,.i .i64 b.2.1.2.2.2.2.2.2.1,.i .i64 b.2.1.2.2.2.2.2.2.2.1,.i .i64 b.2.1.2.2.2.2.2.2.2.2]],[.a (.s b.1.2.2.1) [.i .i64 b.2.2.1,.i .i64 b.2.2.2.1,.i .i64 b.2.2.2.2.1,.i .i64 b.2.2.2.2.2.1,.i .i64 b.2.2.2.2.2.2.1,.i .i64 b.2.2.2.2.2.2.2.1,.i .i64 b.2.2.2.2.2.2.2.2.1,.i .i64 b.2.2.2.2.2.2.2.2.2.1,.i .i64 b.2.2.2.2.2.2.2.2.2.2]]]):=λb=>by kernel_rfl
theorem EI [ax]:Snd Tryz.prog (rZ cS):=Sound.nil 0 [.i .i64,.i .i64,.i .i64,.i .i64,.i .i64,.i .i64,.i .i64,.i .i64,.i .i64]<|λargs h r hr w π vs lP hH kj=>by
 obtain⟨b,d,e,hd,hq⟩:=axA hr;rw[Ep] at e;obtain⟨hc,rfl⟩:=Vz hd;simp only[cy,lY] at hc;obtain⟨h0,h1,h2,h3,h4⟩:=hc;rw[oZ h0] at e;obtain⟨rfl,rfl⟩:=Prod.mk.inj e;rw[h1,show b.1.2.1=((ws b.1.2.1:Nat):Int) by omega] at lP;have hr2:rq.em (_,_)=r:=NJ hq;subst hr2;exact .inl ⟨Hn (by kernel_rfl) _ _,aGc (gs:=[b.2.1.1,b.2.1.2.1,b.2.1.2.2.1,b.2.1.2.2.2.1,b.2.1.2.2.2.2.1,b.2.1.2.2.2.2.2.1,b.2.1.2.2.2.2.2.2.1,b.2.1.2.2.2.2.2.2.2.1,b.2.1.2.2.2.2.2.2.2.2]) (vs9:=[b.2.2.1,b.2.2.2.1,b.2.2.2.2.1,b.2.2.2.2.2.1,b.2.2.2.2.2.2.1,b.2.2.2.2.2.2.2.1,b.2.2.2.2.2.2.2.2.1,b.2.2.2.2.2.2.2.2.2.1,b.2.2.2.2.2.2.2.2.2.2]) rfl rfl _ _ (EA h3) (EA h4) _ w π vs lP hH λb hb=>kj b hb⟩
def sd:=(open Go.Ab.Rq in(dp (c (ac (slc 0 9)) (c ai (cl ai nil))) λa=>(cl (cl (gs a.1.1 (c gH (c gH (c gH (c gH (c gH (c gH (c gH (c gH (cl gH nil)))))))))) nil) nil)):Rq (List AV×List af) _)
def rr:=(open Go.Ab.Rq in(res (pr (ac (CB 1 9)) (pu (cu Un nil) (cl (cl (ga (pr (szs hole) (c gH (c gH (c gH (c gH (c gH (c gH (c gH (c gH (cl gH nil))))))))))) nil) nil)))):Rq (o9) _)
abbrev fg:=Nat×(Nat->Int)×(Nat->Int)×(Nat->Int)×(Nat->Int)×(Nat->Int)×(Nat->Int)×(Nat->Int)×(Nat->Int)×(Nat->Int)
def EJ (d:fg):T:=(λd=>.leaf (rr.em (d.1,d))) d
abbrev ia:=Nat->Int->Int->(Nat->Int)->(Nat->Int)->(Nat->Int)->(Nat->Int)->(Nat->Int)->(Nat->Int)->(Nat->Int)->(Nat->Int)->(Nat->Int)->Bool->Option fg
def ma (g:ia):Ct:=(98,uV 0 [.i .i64,.i .i64,.i .i64,.i .i64,.i .i64,.i .i64,.i .i64,.i .i64,.i .i64] (FC sd EJ (λb=>g b.1.1.1 b.1.2.1 b.1.2.2 b.2.1 b.2.2.1 b.2.2.2.1 b.2.2.2.2.1 b.2.2.2.2.2.1 b.2.2.2.2.2.2.1 b.2.2.2.2.2.2.2.1 b.2.2.2.2.2.2.2.2.1 b.2.2.2.2.2.2.2.2.2 b.1.1.2)))
def bP (x0:Nat)(x1 x2:Int)(x3 x4 x5 x6 x7 x8 x9 fS fR:Nat->Int)(w0:Bool):Option fg:=
 bif w0&&(decide (0<=x1)&&(wd (ws x1) (ws x2)&&(decide (0<=x2)&&wd (ws x2) x0))) then some (ws x1+(x0-ws x2),Kl (ws x1) (ws x2-ws x1) x3,Kl (ws x1) (ws x2-ws x1) x4,Kl (ws x1) (ws x2-ws x1) x5,Kl (ws x1) (ws x2-ws x1) x6,Kl (ws x1) (ws x2-ws x1) x7,Kl (ws x1) (ws x2-ws x1) x8,Kl (ws x1) (ws x2-ws x1) x9,Kl (ws x1) (ws x2-ws x1) fS,Kl (ws x1) (ws x2-ws x1) fR) else none
theorem Er:∀b,(sd).em b=([.r (.c (.sl 0 (.k 0) (.s b.1.1.1) 9 b.1.1.2)),.r (.c (.f (.i .i64 b.1.2.1))),.r (.c (.f (.i .i64 b.1.2.2)))],[[.a (.s b.1.1.1) [.i .i64 b.2.1,.i .i64 b.2.2.1,.i .i64 b.2.2.2.1,.i .i64 b.2.2.2.2.1,.i .i64 b.2.2.2.2.2.1,.i .i64 b.2.2.2.2.2.2.1,.i .i64 b.2.2.2.2.2.2.2.1,.i .i64 b.2.2.2.2.2.2.2.2.1,.i .i64 b.2.2.2.2.2.2.2.2.2]]]):=λb=>by kernel_rfl
theorem se [ax]:Snd Tryz.prog (ma bP):=Sound.nil 0 [.i .i64,.i .i64,.i .i64,.i .i64,.i .i64,.i .i64,.i .i64,.i .i64,.i .i64]<|λargs h r hr w π vs lP hH kj=>by
 obtain⟨b,d,e,hd,hq⟩:=axA hr;rw[Er] at e;obtain⟨hc,rfl⟩:=Vz hd;simp only[cy,lY] at hc;obtain⟨h1,h2,h3,h4,h5⟩:=hc;obtain⟨rfl,rfl⟩:=Prod.mk.inj e;have e2:b.1.2.1=((ws b.1.2.1:Nat):Int):=by omega
 have e3:b.1.2.2=((ws b.1.2.2:Nat):Int):=by omega
 have hr2:rr.em (_,_)=r:=NJ hq;subst hr2;exact .inl ⟨Hn (by kernel_rfl) _ _,aGd (gs:=[b.2.1,b.2.2.1,b.2.2.2.1,b.2.2.2.2.1,b.2.2.2.2.2.1,b.2.2.2.2.2.2.1,b.2.2.2.2.2.2.2.1,b.2.2.2.2.2.2.2.2.1,b.2.2.2.2.2.2.2.2.2]) rfl _ (ws b.1.2.1) (ws b.1.2.2) (EA h3) (EA h5) w π vs (by rw[<-e2,<-e3,<-h1];exact lP) hH λb hb=>kj b hb⟩
def tp:=(open Go.Ab.Rq in(dp (cl (ac (slc 0 9)) nil) λa=>(cl (cl (gs a.1 (c gH (c gH (c gH (c gH (c gH (c gH (c gH (c gH (cl gH nil)))))))))) nil) nil)):Rq (List AV×List af) _)
def sf:=(open Go.Ab.Rq in(res (pr (ac (CB 1 9)) (pu (cu fK nil) (cl (cl (ga (pr (szs hole) (c gH (c gH (c gH (c gH (c gH (c gH (c gH (c gH (cl gH nil))))))))))) nil) nil)))):Rq (o9) _)
abbrev iI:=Nat×(Nat->Int)×(Nat->Int)×(Nat->Int)×(Nat->Int)×(Nat->Int)×(Nat->Int)×(Nat->Int)×(Nat->Int)×(Nat->Int)
def FI (d:iI):T:=(λd=>.leaf (sf.em (d.1,d))) d
abbrev mN:=Nat->(Nat->Int)->(Nat->Int)->(Nat->Int)->(Nat->Int)->(Nat->Int)->(Nat->Int)->(Nat->Int)->(Nat->Int)->(Nat->Int)->Bool->Option iI
def tt (g:mN):Ct:=(166,uV 0 [.i .i64,.i .i64,.i .i64,.i .i64,.i .i64,.i .i64,.i .i64,.i .i64,.i .i64] (FC tp FI (λb=>g b.1.1 b.2.1 b.2.2.1 b.2.2.2.1 b.2.2.2.2.1 b.2.2.2.2.2.1 b.2.2.2.2.2.2.1 b.2.2.2.2.2.2.2.1 b.2.2.2.2.2.2.2.2.1 b.2.2.2.2.2.2.2.2.2 b.1.2)))
def fC (x0:Nat)(x1 x2 x3 x4 x5 x6 x7 x8 x9:Nat->Int)(w0:Bool):Option iI:=
 bif wd (x0*72) 140737488355328 then some (x0,x1,x2,x3,x4,x5,x6,x7,x8,x9) else none
theorem EK:∀b,(tp).em b=([.r (.c (.sl 0 (.k 0) (.s b.1.1) 9 b.1.2))],[[.a (.s b.1.1) [.i .i64 b.2.1,.i .i64 b.2.2.1,.i .i64 b.2.2.2.1,.i .i64 b.2.2.2.2.1,.i .i64 b.2.2.2.2.2.1,.i .i64 b.2.2.2.2.2.2.1,.i .i64 b.2.2.2.2.2.2.2.1,.i .i64 b.2.2.2.2.2.2.2.2.1,.i .i64 b.2.2.2.2.2.2.2.2.2]]]):=λb=>by kernel_rfl
theorem FJ [ax]:Snd Tryz.prog (tt fC):=Sound.nil 0 [.i .i64,.i .i64,.i .i64,.i .i64,.i .i64,.i .i64,.i .i64,.i .i64,.i .i64]<|λargs h r hr w π vs lP hH kj=>by
 obtain⟨b,d,e,hd,hq⟩:=axA hr;rw[EK] at e;obtain⟨hc,rfl⟩:=Vz hd;obtain⟨rfl,rfl⟩:=Prod.mk.inj e;have hr2:sf.em (_,_)=r:=NJ hq;subst hr2;exact .inl ⟨Hn (by kernel_rfl) _ _,aJ4 (gs:=[b.2.1,b.2.2.1,b.2.2.2.1,b.2.2.2.2.1,b.2.2.2.2.2.1,b.2.2.2.2.2.2.1,b.2.2.2.2.2.2.2.1,b.2.2.2.2.2.2.2.2.1,b.2.2.2.2.2.2.2.2.2]) rfl _ (EA hc) _ w π vs lP hH λb hb=>kj b hb⟩
open Go.Ab Go.Ab.Pg Go.Ab.Rq
def ahT:=qa (pr (cu aO Eu) bB)
def NY:=qe qA
abbrev ahU:=NY.B
abbrev bY:=Int->Int->Int->Bool->Option ahU
def ek (g:bY):Ct:=(119,FC ahT (lf NY) (λb=>g b.1.1 b.1.2.1 b.1.b b.2))
def CI (x0:Int)(x1:Int)(x2:Int)(x3:Bool):Pg ahU:=ae (decide (x1>x2)) (ret (x1,true)) (ae (decide (x0<x1)) (ret (x1,true)) (ae (decide (x0>x2)) (ret (x2,true)) (ret (x0,x3))))
def bh:=λx0 x1 x2 x3=>(CI x0 x1 x2 x3).val
theorem aBo:D1 [] [0] 119 ahT (lf NY) λb=>CI b.1.1 b.1.2.1 b.1.b b.2:=λb=>by kernel_rfl
theorem eU [ax]:SC (ek bh):=s0 (.nil _) aBo
def apO:=qa (pr (cu aO iL) bB)
def VA:=qe qA
abbrev apP:=VA.B
abbrev bM:=Int->Bool->Option apP
def dD (g:bM):Ct:=(126,FC apO (lf VA) (λb=>g b.1 b.2))
def aa3 (aE:bY)(x0:Int)(x1:Bool):Pg apP:=opt (aE x0 (-1152921504606846976) 1152921504606846976 x1) λd=>ret d
def aS:=λx0 x1=>(aa3 bh x0 x1).val
theorem aGe:∀aE,D0 [ek aE] 126 apO (lf VA) λb=>aa3 aE b.1 b.2:=λ_ b=>by kernel_rfl
theorem dI [ax]:SC (dD aS):=s0 (.c eU (.nil _)) (aGe bh)
def apQ:=qa (pl iL nil)
def VB:=qe aUT
abbrev apR:=VB.B
abbrev PJ:=Int->Option apR
def PK (g:PJ):Ct:=(185,FC apQ (lf VB) (λb=>g b))
def aa4 (x0:Int):Pg apR:=ae (decide (x0<0)) (ret (wU (0-wU x0))) (ret (wU x0))
def ru:=λx0=>(aa4 x0).val
theorem aGf:D0 [] 185 apQ (lf VB) λb=>aa4 b:=λb=>by kernel_rfl
theorem aa5 [ax]:SC (PK ru):=s0 (.nil _) aGf
def apS:=qa (pl (c an aHw) nil)
def VC:=qe aPI
abbrev apT:=VC.B
abbrev apU:=Int->Int->Option apT
def apV (g:apU):Ct:=(184,FC apS (lf VC) (λb=>g b.1 b.2))
def aa6 (x0:Int)(x1:Int):Pg apT:=let y0:=ul x0 4294967296;let y1:=ul x1 4294967296;let y2:=wU (wl (v4 (v9 64 x0&&&v9 64 4294967295)));let y3:=wU (wl (v4 (v9 64 x1&&&v9 64 4294967295)));let y4:=wU (wU (y0*y3)+ul (wU (y2*y3)) 4294967296);ret (wU (wU (wU (y0*y1)+ul y4 4294967296)+ul (wU (wU (wl (v4 (v9 64 y4&&&v9 64 4294967295)))+wU (y2*y1))) 4294967296),wU (x0*x1))
def Ho:=λx0 x1=>(aa6 x0 x1).val
theorem aGg:D0 [] 184 apS (lf VC) λb=>aa6 b.1 b.2:=λb=>by kernel_rfl
theorem aGh [ax]:SC (apV Ho):=s0 (.nil _) aGg
def akV:=qa (pl (c Vf aMe) nil)
def Sa:=qe aPM
abbrev VD:=Sa.B
abbrev VE:=Int->Int->Bool->Option VD
def VF (g:VE):Ct:=(186,FC akV (lf Sa) (λb=>g b.1.1 b.1.2 b.2))
def Lh (nC:aun)(x0:Int)(x1:Int)(x2:Bool):Pg VD:=ae (!x2) (ret ((wI x0,x1),ul x0 9223372036854775808==0)) (opt (nC (wU (wl (v4 (v9 64 18446744073709551615^^^v9 64 x1)))) 1 0) λd=>let y0:=wI (wU (wU (wl (v4 (v9 64 18446744073709551615^^^v9 64 x0)))+d.2));ae (decide (y0<0)) (ret ((y0,d.1),true)) (ret ((y0,d.1),x0==0&&(x1==0&&true))))
def nD:=λx0 x1 x2=>(Lh CD x0 x1 x2).val
theorem aEr:∀nC,D0 [akS nC] 186 akV (lf Sa) λb=>Lh nC b.1.1 b.1.2 b.2:=λ_ b=>by kernel_rfl
theorem akW [ax]:SC (VF nD):=s0 (.c aov (.nil _)) (aEr CD)
def azp:=qa (pl zq nil)
def afJ:=qe aVi
abbrev akX:=afJ.B
abbrev ou:=Int->Int->Option akX
def yf (g:ou):Ct:=(116,FC azp (lf afJ) (λb=>g b.1 b.2))
def akY (iD:PJ)(PM:apU)(pn:VE)(x0:Int)(x1:Int):Pg akX:=opt (iD x0) λd=>opt (iD x1) λaj=>opt (PM d aj) λd=>opt (pn d.1 d.2 !decide (x0<0)==decide (x1<0)) λd=>ret d.1
def fQ:=λx0 x1=>(akY ru Ho nD x0 x1).val
theorem aNt:∀iD PM pn,D0 [PK iD,apV PM,VF pn] 116 azp (lf afJ) λb=>akY iD PM pn b.1 b.2:=λ_ _ _ b=>by kernel_rfl
theorem Bk [ax]:SC (yf fQ):=s0 (.c aa5 (.c aGh (.c akW (.nil _)))) (aNt ru Ho nD)
def azq:=qa (pl aCS nil)
def afK:=qe (res (pl (rU (c (ra awL) aRS)) (pu nil nil)))
abbrev azr:=afK.B
abbrev akZ:=Int->Int->Option azr
def ak0 (g:akZ):Ct:=(188,FC azq (lf afK) (λb=>g b.1 b.2))
def ak1 (nC:aun)(x0:Int)(x1:Int):Pg azr:=ae (decide (x0>=0)) (ret ((wU x0,x1),false)) (opt (nC (wU (wl (v4 (v9 64 18446744073709551615^^^v9 64 x1)))) 1 0) λd=>ret ((wU (wU (wl (v4 (v9 64 18446744073709551615^^^v9 64 (wU x0))))+d.2),d.1),true))
def EL:=λx0 x1=>(ak1 CD x0 x1).val
theorem aNu:∀nC,D0 [akS nC] 188 azq (lf afK) λb=>ak1 nC b.1 b.2:=λ_ b=>by kernel_rfl
theorem azs [ax]:SC (ak0 EL):=s0 (.c aov (.nil _)) (aNu CD)
def ahV:=qa (pl (c Vf iL) nil)
def NZ:=qe aJa
abbrev ahW:=NZ.B
abbrev CJ:=Int->Int->Int->Option ahW
def Ia (g:CJ):Ct:=(190,FC ahV (lf NZ) (λb=>g b.1.1 b.1.2 b.2))
def Sb (x0:Int)(x1:Int)(x2:Int):Pg ahW:=let y0:=wI (64-x2);let y1:=wI (x2-64);let y2:=2^min (ws x2) 64;let y3:= !decide (x2<0);ae (decide (x2>=64)) (ae (!decide (y1<0)) (ret (wU (x1*2^min (ws y1) 64),0)) no) (ae y3 (ae (!decide (y0<0)) (ae y3 (ret (wU (wl (v4 (v9 64 (wU (x0*y2))|||v9 64 (ul x1 (2^min (ws y0) 64))))),wU (x1*y2))) no) no) no)
def hO:=λx0 x1 x2=>(Sb x0 x1 x2).val
theorem aBp:D0 [] 190 ahV (lf NZ) λb=>Sb b.1.1 b.1.2 b.2:=λb=>by kernel_rfl
theorem Sc [ax]:SC (Ia hO):=s0 (.nil _) aBp
def adf:=qa (pl (c Vf (cl Vf nil)) nil)
def Li:=qe aJa
abbrev adg:=Li.B
abbrev vr:=Int->Int->Int->Int->Option adg
def FK (g:vr):Ct:=(189,FC adf (lf Li) (λb=>g b.1.1 b.1.2 b.2.1 b.b))
def N3 (nC:aun)(x0:Int)(x1:Int)(x2:Int)(x3:Int):Pg adg:=opt (nC x1 x3 0) λd=>opt (nC x0 x2 d.2) λaj=>ret (aj.1,d.1)
def jo:=λx0 x1 x2 x3=>(N3 CD x0 x1 x2 x3).val
theorem axB:∀nC,D0 [akS nC] 189 adf (lf Li) λb=>N3 nC b.1.1 b.1.2 b.2.1 b.b:=λ_ b=>by kernel_rfl
theorem N4 [ax]:SC (FK jo):=s0 (.c aov (.nil _)) (axB CD)
def ahX:=qa (pl (c Vf iL) nil)
def N5:=qe aJa
abbrev ahY:=N5.B
abbrev CL:=Int->Int->Int->Option ahY
def Ib (g:CL):Ct:=(192,FC ahX (lf N5) (λb=>g b.1.1 b.1.2 b.2))
def Ic (x0:Int)(x1:Int)(x2:Int):Pg ahY:=let y0:=wI (64-x2);let y1:=wI (x2-64);let y2:=2^min (ws x2) 64;let y3:= !decide (x2<0);ae (decide (x2>=64)) (ae (!decide (y1<0)) (ret (0,ul x0 (2^min (ws y1) 64))) no) (ae y3 (ae y3 (ae (!decide (y0<0)) (ret (ul x0 y2,wU (wl (v4 (v9 64 (ul x1 y2)|||v9 64 (wU (x0*2^min (ws y0) 64))))))) no) no) no)
def jg:=λx0 x1 x2=>(Ic x0 x1 x2).val
theorem aBq:D0 [] 192 ahX (lf N5) λb=>Ic b.1.1 b.1.2 b.2:=λb=>by kernel_rfl
theorem Sd [ax]:SC (Ib jg):=s0 (.nil _) aBq
def adh:=qa (pl (c Vf aMe) nil)
def Lj:=qe awT
abbrev adi:=Lj.B
abbrev AA:=Int->Int->Bool->Option adi
def FL (g:AA):Ct:=(191,FC adh (lf Lj) (λb=>g b.1.1 b.1.2 b.2))
def N6 (x0:Int)(x1:Int)(x2:Bool):Pg adi:=let y0:=x0 !=0;let y1:=decide (x1>9223372036854775807);ae y0 (ae y0 (ret (0,false)) (ae x2 (ret (wI (wU (0-x1)),true)) (ret (wI x1,true)))) (ae (!x2) (ae y1 (ae y1 (ret (0,false)) (ae x2 (ret (wI (wU (0-x1)),true)) (ret (wI x1,true)))) (ae x2 (ae (decide (x1>9223372036854775808)) (ret (0,false)) (ae x2 (ret (wI (wU (0-x1)),true)) (ret (wI x1,true)))) (ae x2 (ret (wI (wU (0-x1)),true)) (ret (wI x1,true))))) (ae x2 (ae (decide (x1>9223372036854775808)) (ret (0,false)) (ae x2 (ret (wI (wU (0-x1)),true)) (ret (wI x1,true)))) (ae x2 (ret (wI (wU (0-x1)),true)) (ret (wI x1,true)))))
def jr:=λx0 x1 x2=>(N6 x0 x1 x2).val
theorem axC:D0 [] 191 adh (lf Lj) λb=>N6 b.1.1 b.1.2 b.2:=λb=>by kernel_rfl
theorem N7 [ax]:SC (FL jr):=s0 (.nil _) axC
def apW:=qa (pl (c aeW iL) nil)
def VG:=qe awT
abbrev apX:=VG.B
abbrev Dk:=Int->Int->Int->Option apX
def PN (g:Dk):Ct:=(118,FC apW (lf VG) (λb=>g b.1.1 b.1.2 b.2))
def aa7 (yg:akZ)(ko:CJ)(fD:vr)(jh:CL)(fE:AA)(x0:Int)(x1:Int)(x2:Int):Pg apX:=ae (decide (x2<0)) (ret (0,false)) (ae (decide (x2>126)) (ret (0,false)) (opt (yg x0 x1) λd=>ae (decide (x2>0)) (opt (ko 0 1 (wI (x2-1))) λaj=>opt (fD d.1.1 d.1.2 aj.1 aj.2) λaC=>opt (jh aC.1 aC.2 x2) λbx=>opt (fE bx.1 bx.2 d.2) λd=>ret d) (opt (jh d.1.1 d.1.2 x2) λaj=>opt (fE aj.1 aj.2 d.2) λd=>ret d)))
def rv:=λx0 x1 x2=>(aa7 EL hO jo jg jr x0 x1 x2).val
theorem aGi:∀yg ko fD jh fE,D0 [ak0 yg,Ia ko,FK fD,Ib jh,FL fE] 118 apW (lf VG) λb=>aa7 yg ko fD jh fE b.1.1 b.1.2 b.2:=λ_ _ _ _ _ b=>by kernel_rfl
theorem aa8 [ax]:SC (PN rv):=s0 (.c azs (.c Sc (.c N4 (.c Sd (.c N7 (.nil _)))))) (aGi EL hO jo jg jr)
def aEs:=qa (pl aMe nil)
def ak2:=qe Gy
abbrev aEt:=ak2.B
abbrev VH:=Bool->Option aEt
def VI (g:VH):Ct:=(199,FC aEs (lf ak2) (λb=>g b))
def VJ (x0:Bool):Pg aEt:=ae x0 (ret (-1152921504606846976)) (ret 1152921504606846976)
def qK:=λx0=>(VJ x0).val
theorem aQT:D0 [] 199 aEs (lf ak2) λb=>VJ b:=λb=>by kernel_rfl
theorem afL [ax]:SC (VI qK):=s0 (.nil _) aQT
def apY:=qa (pr (cu aO (c ai (c ab aMe))) bB)
def VK:=qe qA
abbrev apZ:=VK.B
abbrev Hp:=Int->Bool->Bool->Bool->Option apZ
def PO (g:Hp):Ct:=(198,FC apY (lf VK) (λb=>g b.1.1 b.1.2.1 b.1.b b.2))
def Hq (j3:VH)(aw:bM)(x0:Int)(x1:Bool)(x2:Bool)(x3:Bool):Pg apZ:=ae (!x1) (opt (j3 x2) λd=>ret (d,true)) (opt (aw x0 x3) λd=>ret d)
def nE:=λx0 x1 x2 x3=>(Hq qK aS x0 x1 x2 x3).val
theorem aGj:∀j3 aw,D0 [VI j3,dD aw] 198 apY (lf VK) λb=>Hq j3 aw b.1.1 b.1.2.1 b.1.b b.2:=λ_ _ b=>by kernel_rfl
theorem aa9 [ax]:SC (PO nE):=s0 (.c afL (.c dI (.nil _))) (aGj qK aS)
def ahZ:=qa (pr (cu aO (c aeW iL)) bB)
def N8:=qe qA
abbrev ah0:=N8.B
abbrev xQ:=Int->Int->Int->Bool->Option ah0
def Ie (g:xQ):Ct:=(127,FC ahZ (lf N8) (λb=>g b.1.1.1 b.1.1.2 b.1.2 b.2))
def Se (uW:Dk)(nF:Hp)(x0:Int)(x1:Int)(x2:Int)(x3:Bool):Pg ah0:=ae (decide (x2<0)) (ret (0,true)) (ae (decide (x2>120)) (ret (0,true)) (opt (uW x0 x1 x2) λd=>opt (nF d.1 d.2 (decide (x0<0)) x3) λd=>ret d))
def nT:=λx0 x1 x2 x3=>(Se rv nE x0 x1 x2 x3).val
theorem aBr:∀uW nF,D0 [PN uW,PO nF] 127 ahZ (lf N8) λb=>Se uW nF b.1.1.1 b.1.1.2 b.1.2 b.2:=λ_ _ b=>by kernel_rfl
theorem Sf [ax]:SC (Ie nT):=s0 (.c aa8 (.c aa9 (.nil _))) (aBr rv nE)
def ap0:=qa (pr (cu aO Eu) bB)
def VL:=qe qA
abbrev ap1:=VL.B
abbrev bS:=Int->Int->Int->Bool->Option ap1
def fG (g:bS):Ct:=(72,FC ap0 (lf VL) (λb=>g b.1.1 b.1.2.1 b.1.b b.2))
def aba (aw:bM)(cT:ou)(ji:xQ)(x0:Int)(x1:Int)(x2:Int)(x3:Bool):Pg ap1:=opt (aw x0 x3) λd=>opt (aw x1 d.2) λaj=>opt (cT d.1 aj.1) λd=>opt (ji d.1 d.2 x2 aj.2) λd=>ret d
def aZ:=λx0 x1 x2 x3=>(aba aS fQ nT x0 x1 x2 x3).val
theorem aGk:∀aw cT ji,D0 [dD aw,yf cT,Ie ji] 72 ap0 (lf VL) λb=>aba aw cT ji b.1.1 b.1.2.1 b.1.b b.2:=λ_ _ _ b=>by kernel_rfl
theorem fZ [ax]:SC (fG aZ):=s0 (.c dI (.c Bk (.c Sf (.nil _)))) (aGk aS fQ nT)
def ak3:=qa (pr aI6 (cu arS bB))
def Sh:=qe aPF
abbrev ak4:=Sh.B
abbrev VM:=Int->Int->Bool->Option ak4
def VN (g:VM):Ct:=(77,FC ak3 (lf Sh) (λb=>g b.1.1 b.1.2 b.2))
def VO (aB:bS)(x0:Int)(x1:Int)(x2:Bool):Pg ak4:=opt (aB x0 x1 30 x2) λd=>ret d
def v7:=λx0 x1 x2=>(VO aZ x0 x1 x2).val
theorem aEu:∀aB,D0 [fG aB] 77 ak3 (lf Sh) λb=>VO aB b.1.1 b.1.2 b.2:=λ_ b=>by kernel_rfl
theorem ak5 [ax]:SC (VN v7):=s0 (.c fZ (.nil _)) (aEu aZ)
def ap2:=qa (pl aHw nil)
def VP:=qe Gy
abbrev ap3:=VP.B
abbrev ap4:=Int->Option ap3
def ap5 (g:ap4):Ct:=(267,FC ap2 (lf VP) (λb=>g b))
def abb (x0:Int):Pg ap3:=let y0:=ul x0 65536;let y1:=ul x0 4294967296;let y2:=IntKind.wrap IntKind.u8 (ul x0 256);let y3:=IntKind.wrap IntKind.u8 y0;let y4:=IntKind.wrap IntKind.u8 y1;let y5:=ul y1 65536;let y6:=IntKind.wrap IntKind.u8 y5;let y7:=IntKind.wrap IntKind.u8 (ul y0 256);let y8:=IntKind.wrap IntKind.u8 (ul y1 256);let y9:=IntKind.wrap IntKind.u8 (ul y5 256);ae (decide (x0>=4294967296)) (ae (decide (y1>=65536)) (ae (decide (y5>=256)) (ae (bg y9 256) (ret (wI (56+wI (DV (ByteArray.mk (List.toArray (t9 (t9 [0,1,2,2,3,3,3,3,4,4,4,4,4,4,4,4,5,5,5,5,5,5,5,5,5,5,5,5,5,5,5,5,6,6,6,6,6,6,6,6,6,6,6,6,6,6,6,6,6,6,6,6,6,6,6,6,6,6,6,6,6,6,6,6] [7,7,7,7,7,7,7,7,7,7,7,7,7,7,7,7,7,7,7,7,7,7,7,7,7,7,7,7,7,7,7,7,7,7,7,7,7,7,7,7,7,7,7,7,7,7,7,7,7,7,7,7,7,7,7,7,7,7,7,7,7,7,7,7]) (t9 [8,8,8,8,8,8,8,8,8,8,8,8,8,8,8,8,8,8,8,8,8,8,8,8,8,8,8,8,8,8,8,8,8,8,8,8,8,8,8,8,8,8,8,8,8,8,8,8,8,8,8,8,8,8,8,8,8,8,8,8,8,8,8,8] [8,8,8,8,8,8,8,8,8,8,8,8,8,8,8,8,8,8,8,8,8,8,8,8,8,8,8,8,8,8,8,8,8,8,8,8,8,8,8,8,8,8,8,8,8,8,8,8,8,8,8,8,8,8,8,8,8,8,8,8,8,8,8,8])))) (ws y9))))) no) (ae (bg y6 256) (ret (wI (48+wI (DV (ByteArray.mk (List.toArray (t9 (t9 [0,1,2,2,3,3,3,3,4,4,4,4,4,4,4,4,5,5,5,5,5,5,5,5,5,5,5,5,5,5,5,5,6,6,6,6,6,6,6,6,6,6,6,6,6,6,6,6,6,6,6,6,6,6,6,6,6,6,6,6,6,6,6,6] [7,7,7,7,7,7,7,7,7,7,7,7,7,7,7,7,7,7,7,7,7,7,7,7,7,7,7,7,7,7,7,7,7,7,7,7,7,7,7,7,7,7,7,7,7,7,7,7,7,7,7,7,7,7,7,7,7,7,7,7,7,7,7,7]) (t9 [8,8,8,8,8,8,8,8,8,8,8,8,8,8,8,8,8,8,8,8,8,8,8,8,8,8,8,8,8,8,8,8,8,8,8,8,8,8,8,8,8,8,8,8,8,8,8,8,8,8,8,8,8,8,8,8,8,8,8,8,8,8,8,8] [8,8,8,8,8,8,8,8,8,8,8,8,8,8,8,8,8,8,8,8,8,8,8,8,8,8,8,8,8,8,8,8,8,8,8,8,8,8,8,8,8,8,8,8,8,8,8,8,8,8,8,8,8,8,8,8,8,8,8,8,8,8,8,8])))) (ws y6))))) no)) (ae (decide (y1>=256)) (ae (bg y8 256) (ret (wI (40+wI (DV (ByteArray.mk (List.toArray (t9 (t9 [0,1,2,2,3,3,3,3,4,4,4,4,4,4,4,4,5,5,5,5,5,5,5,5,5,5,5,5,5,5,5,5,6,6,6,6,6,6,6,6,6,6,6,6,6,6,6,6,6,6,6,6,6,6,6,6,6,6,6,6,6,6,6,6] [7,7,7,7,7,7,7,7,7,7,7,7,7,7,7,7,7,7,7,7,7,7,7,7,7,7,7,7,7,7,7,7,7,7,7,7,7,7,7,7,7,7,7,7,7,7,7,7,7,7,7,7,7,7,7,7,7,7,7,7,7,7,7,7]) (t9 [8,8,8,8,8,8,8,8,8,8,8,8,8,8,8,8,8,8,8,8,8,8,8,8,8,8,8,8,8,8,8,8,8,8,8,8,8,8,8,8,8,8,8,8,8,8,8,8,8,8,8,8,8,8,8,8,8,8,8,8,8,8,8,8] [8,8,8,8,8,8,8,8,8,8,8,8,8,8,8,8,8,8,8,8,8,8,8,8,8,8,8,8,8,8,8,8,8,8,8,8,8,8,8,8,8,8,8,8,8,8,8,8,8,8,8,8,8,8,8,8,8,8,8,8,8,8,8,8])))) (ws y8))))) no) (ae (bg y4 256) (ret (wI (32+wI (DV (ByteArray.mk (List.toArray (t9 (t9 [0,1,2,2,3,3,3,3,4,4,4,4,4,4,4,4,5,5,5,5,5,5,5,5,5,5,5,5,5,5,5,5,6,6,6,6,6,6,6,6,6,6,6,6,6,6,6,6,6,6,6,6,6,6,6,6,6,6,6,6,6,6,6,6] [7,7,7,7,7,7,7,7,7,7,7,7,7,7,7,7,7,7,7,7,7,7,7,7,7,7,7,7,7,7,7,7,7,7,7,7,7,7,7,7,7,7,7,7,7,7,7,7,7,7,7,7,7,7,7,7,7,7,7,7,7,7,7,7]) (t9 [8,8,8,8,8,8,8,8,8,8,8,8,8,8,8,8,8,8,8,8,8,8,8,8,8,8,8,8,8,8,8,8,8,8,8,8,8,8,8,8,8,8,8,8,8,8,8,8,8,8,8,8,8,8,8,8,8,8,8,8,8,8,8,8] [8,8,8,8,8,8,8,8,8,8,8,8,8,8,8,8,8,8,8,8,8,8,8,8,8,8,8,8,8,8,8,8,8,8,8,8,8,8,8,8,8,8,8,8,8,8,8,8,8,8,8,8,8,8,8,8,8,8,8,8,8,8,8,8])))) (ws y4))))) no))) (ae (decide (x0>=65536)) (ae (decide (y0>=256)) (ae (bg y7 256) (ret (wI (24+wI (DV (ByteArray.mk (List.toArray (t9 (t9 [0,1,2,2,3,3,3,3,4,4,4,4,4,4,4,4,5,5,5,5,5,5,5,5,5,5,5,5,5,5,5,5,6,6,6,6,6,6,6,6,6,6,6,6,6,6,6,6,6,6,6,6,6,6,6,6,6,6,6,6,6,6,6,6] [7,7,7,7,7,7,7,7,7,7,7,7,7,7,7,7,7,7,7,7,7,7,7,7,7,7,7,7,7,7,7,7,7,7,7,7,7,7,7,7,7,7,7,7,7,7,7,7,7,7,7,7,7,7,7,7,7,7,7,7,7,7,7,7]) (t9 [8,8,8,8,8,8,8,8,8,8,8,8,8,8,8,8,8,8,8,8,8,8,8,8,8,8,8,8,8,8,8,8,8,8,8,8,8,8,8,8,8,8,8,8,8,8,8,8,8,8,8,8,8,8,8,8,8,8,8,8,8,8,8,8] [8,8,8,8,8,8,8,8,8,8,8,8,8,8,8,8,8,8,8,8,8,8,8,8,8,8,8,8,8,8,8,8,8,8,8,8,8,8,8,8,8,8,8,8,8,8,8,8,8,8,8,8,8,8,8,8,8,8,8,8,8,8,8,8])))) (ws y7))))) no) (ae (bg y3 256) (ret (wI (16+wI (DV (ByteArray.mk (List.toArray (t9 (t9 [0,1,2,2,3,3,3,3,4,4,4,4,4,4,4,4,5,5,5,5,5,5,5,5,5,5,5,5,5,5,5,5,6,6,6,6,6,6,6,6,6,6,6,6,6,6,6,6,6,6,6,6,6,6,6,6,6,6,6,6,6,6,6,6] [7,7,7,7,7,7,7,7,7,7,7,7,7,7,7,7,7,7,7,7,7,7,7,7,7,7,7,7,7,7,7,7,7,7,7,7,7,7,7,7,7,7,7,7,7,7,7,7,7,7,7,7,7,7,7,7,7,7,7,7,7,7,7,7]) (t9 [8,8,8,8,8,8,8,8,8,8,8,8,8,8,8,8,8,8,8,8,8,8,8,8,8,8,8,8,8,8,8,8,8,8,8,8,8,8,8,8,8,8,8,8,8,8,8,8,8,8,8,8,8,8,8,8,8,8,8,8,8,8,8,8] [8,8,8,8,8,8,8,8,8,8,8,8,8,8,8,8,8,8,8,8,8,8,8,8,8,8,8,8,8,8,8,8,8,8,8,8,8,8,8,8,8,8,8,8,8,8,8,8,8,8,8,8,8,8,8,8,8,8,8,8,8,8,8,8])))) (ws y3))))) no)) (ae (decide (x0>=256)) (ae (bg y2 256) (ret (wI (8+wI (DV (ByteArray.mk (List.toArray (t9 (t9 [0,1,2,2,3,3,3,3,4,4,4,4,4,4,4,4,5,5,5,5,5,5,5,5,5,5,5,5,5,5,5,5,6,6,6,6,6,6,6,6,6,6,6,6,6,6,6,6,6,6,6,6,6,6,6,6,6,6,6,6,6,6,6,6] [7,7,7,7,7,7,7,7,7,7,7,7,7,7,7,7,7,7,7,7,7,7,7,7,7,7,7,7,7,7,7,7,7,7,7,7,7,7,7,7,7,7,7,7,7,7,7,7,7,7,7,7,7,7,7,7,7,7,7,7,7,7,7,7]) (t9 [8,8,8,8,8,8,8,8,8,8,8,8,8,8,8,8,8,8,8,8,8,8,8,8,8,8,8,8,8,8,8,8,8,8,8,8,8,8,8,8,8,8,8,8,8,8,8,8,8,8,8,8,8,8,8,8,8,8,8,8,8,8,8,8] [8,8,8,8,8,8,8,8,8,8,8,8,8,8,8,8,8,8,8,8,8,8,8,8,8,8,8,8,8,8,8,8,8,8,8,8,8,8,8,8,8,8,8,8,8,8,8,8,8,8,8,8,8,8,8,8,8,8,8,8,8,8,8,8])))) (ws y2))))) no) (ae (bg (IntKind.wrap IntKind.u8 x0) 256) (ret (wI (0+wI (DV (ByteArray.mk (List.toArray (t9 (t9 [0,1,2,2,3,3,3,3,4,4,4,4,4,4,4,4,5,5,5,5,5,5,5,5,5,5,5,5,5,5,5,5,6,6,6,6,6,6,6,6,6,6,6,6,6,6,6,6,6,6,6,6,6,6,6,6,6,6,6,6,6,6,6,6] [7,7,7,7,7,7,7,7,7,7,7,7,7,7,7,7,7,7,7,7,7,7,7,7,7,7,7,7,7,7,7,7,7,7,7,7,7,7,7,7,7,7,7,7,7,7,7,7,7,7,7,7,7,7,7,7,7,7,7,7,7,7,7,7]) (t9 [8,8,8,8,8,8,8,8,8,8,8,8,8,8,8,8,8,8,8,8,8,8,8,8,8,8,8,8,8,8,8,8,8,8,8,8,8,8,8,8,8,8,8,8,8,8,8,8,8,8,8,8,8,8,8,8,8,8,8,8,8,8,8,8] [8,8,8,8,8,8,8,8,8,8,8,8,8,8,8,8,8,8,8,8,8,8,8,8,8,8,8,8,8,8,8,8,8,8,8,8,8,8,8,8,8,8,8,8,8,8,8,8,8,8,8,8,8,8,8,8,8,8,8,8,8,8,8,8])))) (ws (IntKind.wrap IntKind.u8 x0)))))) no)))
def Hr:=λx0=>(abb x0).val
theorem aGl:D0 [] 267 ap2 (lf VP) λb=>abb b:=λb=>by kernel_rfl
theorem aGm [ax]:SC (ap5 Hr):=s0 (.nil _) aGl
def Lk:=qa (pl aHw nil)
def AB:=qe Gy
abbrev Ll:=AB.B
abbrev BE:=Int->Option Ll
def Ln (g:BE):Ct:=(261,FC Lk (lf AB) (λb=>g b))
def BF (PS:ap4)(x0:Int):Pg Ll:=opt (PS x0) λd=>ret (wI (64-d))
def pw:=λx0=>(BF Hr x0).val
theorem afM:∀PS,D0 [ap5 PS] 261 Lk (lf AB) λb=>BF PS b:=λ_ b=>by kernel_rfl
theorem afN [ax]:SC (Ln pw):=s0 (.c aGm (.nil _)) (afM Hr)
def ap6:=qa (pl (c an (c an aHw)) nil)
def VQ:=qe aPI
abbrev ap7:=VQ.B
abbrev ap8:=Int->Int->Int->Option ap7
def ap9 (g:ap8):Ct:=(241,FC ap6 (lf VQ) (λb=>g b.1 b.2.1 b.b))
def vu:=qs (st (pl (us 2 (c an (us 5 (c an (c an (c an (c an (us 1 (c an (c an (c an (cl an (us 88 aPb))))))))))))) (pu nil nil)))
def aup:=qs (st (pl (us 2 (c an (us 5 (c an (c an (c an (c an (us 1 (c an (c an (c an (c an (us 50 (c an (c ab (cu Gz (xs 8 (cu Gz aVO)))))))))))))))))) (pu nil nil)))
def auq:=qs (st (pl (us 2 (c an (us 5 (c an (c an (c an (c an (us 1 (c an (c an (c an (c an (us 50 (c an (c ab (cu mJ (c an (c an (c an (c an (c an (c an (c an (c ab (c ab aVO))))))))))))))))))))))))) (pu nil nil)))
def aur:=qs (st (pl (us 2 (c an (us 5 (c an (c an (c an (c an (us 1 (c an (c an (c an (c an (us 50 (c an (c ab (cu mJ (c an (c an (c an (c an (c an (c an (c an (c ab (cl ab (us 26 aPb)))))))))))))))))))))))))) (pu nil nil)))
abbrev Ig:=aZX⊕aZV
def ah1 {ρ:Type}(x:Ig)(K:AX->St->Option ρ):Option ρ:=(t8 (λd=>K (.ex 0) (aup.em (d.1,d.2.1,d.b.1,d.b.2.1,d.c.1,d.c.2.1,d.c.b.1,d.c.b.2.1,d.d.1,d.d.2.1,d.d.b.1,d.d.2.1,d.c.b.2.1,d.d.b.2.1,d.b.1,d.d.1,d.d.1,d.d.c))) (t8 (λd=>K (.ex 0) (auq.em (d.1,d.2.1,d.b.1,d.b.2.1,d.c.1,d.c.2.1,d.c.b.1,d.c.b.2.1,d.d.1,d.d.2.1,d.d.b.1,d.d.2.1,d.b.2.1,d.d.b.2.1,d.d.c.1,d.d.c.2.1,d.c.2.1,d.d.c.b.1,d.d.c.b.2.1,d.d.c.b.2.1,d.d.2.1,d.c.b.2.1,d.d.c.1,d.b.1,d.d.1,d.d.1,d.e))) (λd=>K (.ex 0) (aur.em (d.1,d.2.1,d.b.1,d.b.2.1,d.c.1,d.c.2.1,d.c.b.1,d.c.b.2.1,d.d.1,d.c.b.2.1,d.d.2.1,d.c.b.2.1,d.b.2.1,d.d.b.1,d.d.1,d.d.b.2.1,d.c.2.1,d.d.c.1,d.d.c.2,d.d.c.2))))) x
def Ih (d:vu.B):PL vu Ig:=let y0:=wU (4294967296*d.2.2.2.2.2.2.2.2);let y1:=wU (d.2.2.2.2.2.2.2.1-1);let y2:=wU (d.2.2.2.2.2.2.2.2+d.2.2.1);let y3:=wU (d.2.2.2.2.2.2.2.1*d.2.2.2.1);let y4:=decide (d.2.2.2.2.2.2.2.1>=4294967296);let y5:=wU (y0+d.2.2.2.2.2.1);let y6:=decide (y2>=4294967296);let y7:=decide (y3>y5);ae y4 (ae y6 (ret (wn (wr (d.1,d.2.1,d.2.2.1,d.2.2.2.1,d.2.2.2.2.1,d.2.2.2.2.2.1,d.2.2.2.2.2.2.1,y1,y2,d.2.2.2.2.2.2.2.1,y4,d.2.2.2.2.2.2.2.2,y6)))) (ret (wr (d.1,d.2.1,d.2.2.1,d.2.2.2.1,d.2.2.2.2.1,d.2.2.2.2.2.1,d.2.2.2.2.2.2.1,y1,y2)))) (ae y7 (ae y6 (ret (wn (wn (wr (d.1,d.2.1,d.2.2.1,d.2.2.2.1,d.2.2.2.2.1,d.2.2.2.2.2.1,d.2.2.2.2.2.2.1,y1,y2,d.2.2.2.2.2.2.2.1,y4,y3,d.2.2.2.2.2.2.2.2,y0,y5,y7,y6))))) (ret (wr (d.1,d.2.1,d.2.2.1,d.2.2.2.1,d.2.2.2.2.1,d.2.2.2.2.2.1,d.2.2.2.2.2.2.1,y1,y2)))) (ret (wn (wn (wn (d.1,d.2.1,d.2.2.1,d.2.2.2.1,d.2.2.2.2.1,d.2.2.2.2.2.1,d.2.2.2.2.2.2.1,d.2.2.2.2.2.2.2.1,d.2.2.2.2.2.2.2.2,y4,y3,y0,y5,y7))))))
def Ii:=bw (Ih) 2000
def vv:=qs (st (pl (us 2 (c an (us 5 (c an (c an (c an (us 3 (c an (c an (c an (c an (cl an (us 116 nil))))))))))))) (pu nil nil)))
def aus:=qs (st (pl (us 2 (c an (us 5 (c an (c an (c an (us 3 (c an (c an (c an (c an (c an (us 83 (c an (c ab (cu Gz (xs 8 (cu Gz aVA)))))))))))))))))) (pu nil nil)))
def aut:=qs (st (pl (us 2 (c an (us 5 (c an (c an (c an (us 3 (c an (c an (c an (c an (c an (us 83 (c an (c ab (cu mJ (c an (c an (c an (c an (c an (c an (c an (c ab (c ab aVA))))))))))))))))))))))))) (pu nil nil)))
def auu:=qs (st (pl (us 2 (c an (us 5 (c an (c an (c an (us 3 (c an (c an (c an (c an (c an (us 83 (c an (c ab (cu mJ (c an (c an (c an (c an (c an (c an (c an (c ab aPd)))))))))))))))))))))))) (pu nil nil)))
abbrev CM:=aZX⊕aZV
def ah2 {ρ:Type}(x:CM)(K:AX->St->Option ρ):Option ρ:=(t8 (λd=>K (.ex 2) (aus.em (d.1,d.2.1,d.b.1,d.b.2.1,d.c.1,d.c.2.1,d.c.b.1,d.c.b.2.1,d.d.1,d.d.2.1,d.d.b.1,d.d.2.1,d.d.1,d.d.b.2.1,d.b.1,d.c.b.1,d.c.b.1,d.d.c))) (t8 (λd=>K (.ex 2) (aut.em (d.1,d.2.1,d.b.1,d.b.2.1,d.c.1,d.c.2.1,d.c.b.1,d.c.b.2.1,d.d.1,d.d.2.1,d.d.b.1,d.d.2.1,d.b.2.1,d.d.b.2.1,d.d.c.1,d.d.c.2.1,d.c.1,d.d.c.b.1,d.d.c.b.2.1,d.d.c.b.2.1,d.d.2.1,d.d.1,d.d.c.1,d.b.1,d.c.b.1,d.c.b.1,d.e))) (λd=>K (.ex 2) (auu.em (d.1,d.2.1,d.b.1,d.b.2.1,d.c.1,d.c.2.1,d.c.b.1,d.c.b.2.1,d.d.1,d.d.1,d.d.2.1,d.d.1,d.b.2.1,d.d.b.1,d.c.b.1,d.d.b.2.1,d.c.1,d.d.c.1,d.d.c.2,d.d.c.2))))) x
def Ij (d:vv.B):PL vv CM:=let y0:=wU (4294967296*d.2.2.2.2.2.2.1);let y1:=wU (d.2.2.2.2.2.2.2.2-1);let y2:=wU (d.2.2.2.2.2.2.1+d.2.2.1);let y3:=wU (d.2.2.2.2.2.2.2.2*d.2.2.2.1);let y4:=wU (y0+d.2.2.2.2.1);let y5:=decide (d.2.2.2.2.2.2.2.2>=4294967296);let y6:=decide (y2>=4294967296);let y7:=decide (y3>y4);ae y5 (ae y6 (ret (wn (wr (d.1,d.2.1,d.2.2.1,d.2.2.2.1,d.2.2.2.2.1,d.2.2.2.2.2.1,y2,d.2.2.2.2.2.2.2.1,y1,d.2.2.2.2.2.2.2.2,y5,d.2.2.2.2.2.2.1,y6)))) (ret (wr (d.1,d.2.1,d.2.2.1,d.2.2.2.1,d.2.2.2.2.1,d.2.2.2.2.2.1,y2,d.2.2.2.2.2.2.2.1,y1)))) (ae y7 (ae y6 (ret (wn (wn (wr (d.1,d.2.1,d.2.2.1,d.2.2.2.1,d.2.2.2.2.1,d.2.2.2.2.2.1,y2,d.2.2.2.2.2.2.2.1,y1,d.2.2.2.2.2.2.2.2,y5,y3,d.2.2.2.2.2.2.1,y0,y4,y7,y6))))) (ret (wr (d.1,d.2.1,d.2.2.1,d.2.2.2.1,d.2.2.2.2.1,d.2.2.2.2.2.1,y2,d.2.2.2.2.2.2.2.1,y1)))) (ret (wn (wn (wn (d.1,d.2.1,d.2.2.1,d.2.2.2.1,d.2.2.2.2.1,d.2.2.2.2.2.1,d.2.2.2.2.2.2.1,d.2.2.2.2.2.2.2.1,d.2.2.2.2.2.2.2.2,y5,y3,y0,y4,y7))))))
def Ik:=bw (Ij) 2000
def abc (afO:BE)(eB:LT vu Ig)(qo:LT vv CM)(x0:Int)(x1:Int)(x2:Int):Pg ap7:=let k9:=λ(x:CM)=>sum x (λd=>ae (!decide (d.2.1<0)) (ret (wU (wU (d.2.2.2.2.2.1*4294967296)+d.2.2.2.2.2.2.2.2.1),ul (wU (wU (wU (d.2.2.2.2.2.2.2.1*4294967296)+d.2.2.2.2.1)-wU (d.2.2.2.2.2.2.2.2.1*d.1))) (2^min (ws d.2.1) 64))) no) λx=>sum x (λd=>ae (!decide (d.2.1<0)) (ret (wU (wU (d.2.2.2.2.2.1*4294967296)+d.2.2.2.2.2.2.2.2.1),ul (wU (wU (wU (d.2.2.2.2.2.2.2.1*4294967296)+d.2.2.2.2.1)-wU (d.2.2.2.2.2.2.2.2.1*d.1))) (2^min (ws d.2.1) 64))) no) λd=>ae (!decide (d.2.1<0)) (ret (wU (wU (d.2.2.2.2.2.1*4294967296)+d.2.2.2.2.2.2.2.2.1),ul (wU (wU (wU (d.2.2.2.2.2.2.2.1*4294967296)+d.2.2.2.2.1)-wU (d.2.2.2.2.2.2.2.2.1*d.1))) (2^min (ws d.2.1) 64))) no;let y0:= !decide (x2=0);ae (x2==0) no (ae (decide (x2<=x0)) no (ae (x0==0) (ae y0 (ae y0 (ret (wU (t7 x1 x2),Int.tmod x1 x2)) no) no) (opt (afO x2) λd=>let y0:=wU (64-wU d);let y1:=2^min (ws (wU d)) 64;let y2:= !decide (wU d<0);let y3:=wU (x1*y1);let y4:=wU (x2*y1);let y5:=ul y4 4294967296;let y6:=wU (wl (v4 (v9 64 (wU (x0*y1))|||v9 64 (ul x1 (2^min (ws y0) 64)))));let y7:=wU (t7 y6 y5);ae y2 (ae y2 (ae (!decide (y0<0)) (ae y2 (ae (!decide (y5=0)) (opt (eB (y4,wU d,y5,wU (wl (v4 (v9 64 y4&&&v9 64 4294967295))),y6,ul y3 4294967296,wU (wl (v4 (v9 64 y3&&&v9 64 4294967295))),y7,wU (y6-wU (y7*y5)))) λx=>sum x (λd=>let y0:=wU (wU (wU (d.2.2.2.2.1*4294967296)+d.2.2.2.2.2.1)-wU (d.2.2.2.2.2.2.2.1*d.1));let y1:=wU (t7 y0 d.2.2.1);ae (!decide (d.2.2.1=0)) (opt (qo (d.1,d.2.1,d.2.2.1,d.2.2.2.1,d.2.2.2.2.2.2.1,d.2.2.2.2.2.2.2.1,wU (y0-wU (y1*d.2.2.1)),y0,y1)) k9) no) λx=>sum x (λd=>let y0:=wU (wU (wU (d.2.2.2.2.1*4294967296)+d.2.2.2.2.2.1)-wU (d.2.2.2.2.2.2.2.1*d.1));let y1:=wU (t7 y0 d.2.2.1);ae (!decide (d.2.2.1=0)) (opt (qo (d.1,d.2.1,d.2.2.1,d.2.2.2.1,d.2.2.2.2.2.2.1,d.2.2.2.2.2.2.2.1,wU (y0-wU (y1*d.2.2.1)),y0,y1)) k9) no) λd=>let y0:=wU (wU (wU (d.2.2.2.2.1*4294967296)+d.2.2.2.2.2.1)-wU (d.2.2.2.2.2.2.2.1*d.1));let y1:=wU (t7 y0 d.2.2.1);ae (!decide (d.2.2.1=0)) (opt (qo (d.1,d.2.1,d.2.2.1,d.2.2.2.1,d.2.2.2.2.2.2.1,d.2.2.2.2.2.2.2.1,wU (y0-wU (y1*d.2.2.1)),y0,y1)) k9) no) no) no) no) no) no)))
def Ht:=λx0 x1 x2=>(abc pw Ii Ik x0 x1 x2).val
abbrev Hu:=BE×(LT vu Ig)×(LT vv CM)
def PU (p:Hu):KK:=⟨[Ln p.1],⟨[⟨17,(0::1::rg 3 5 (12::rg 17 53 (rg 78 27 (rg 113 22 (rg 70 8 []))))),[]⟩,⟨24,(0::1::rg 3 5 (11::12::13::rg 19 86 (rg 113 22 (rg 105 8 [])))),[]⟩],[fY 17 0 vu ah1 p.2.1,fY 24 0 vv ah2 p.b],[],[],(some ⟨0,(rg 0 6 (rg 8 127 [])),[]⟩)⟩,0,241⟩
theorem axD (p:Hu):LI (PU p) 17 vu ah1 (Ih):=λ_ d c K=>by kernel_rfl
theorem axE (p:Hu):LI (PU p) 24 vv ah2 (Ij):=λ_ d c K=>by kernel_rfl
theorem aGn (p:Hu):D2 (PU p) ap6 (lf VQ) λb=>abc p.1 p.2.1 p.b b.1 b.2.1 b.b:=λb=>by kernel_rfl
abbrev PX:Hu:=(pw,Ii,Ik)
theorem aGo [ax]:SC (ap9 Ht):=sc (kS (k:=PU PX) (.c afN (.nil _)) [17,24] [] ⟨kL (axD PX),⟨kL (axE PX),trivial⟩⟩ trivial (aGn PX))
def azt:=qa (pl (c aeW iL) nil)
def afP:=qe awT
abbrev azu:=afP.B
abbrev ak6:=Int->Int->Int->Option azu
def ak7 (g:ak6):Ct:=(200,FC azt (lf afP) (λb=>g b.1.1 b.1.2 b.2))
def ak8 (yg:akZ)(iD:PJ)(PY:ap8)(fD:vr)(fE:AA)(x0:Int)(x1:Int)(x2:Int):Pg azu:=ae (x2==0) (ret (0,false)) (opt (yg x0 x1) λd=>let y0:= !d.2==decide (x2<0);opt (iD x2) λaj=>let ub:=wU (t7 d.1.1 aj);let y1:= !decide (aj=0);ae y1 (ae y1 (opt (PY (Int.tmod d.1.1 aj) d.1.2 aj) λd=>ae (decide (d.2>=wU (aj-d.2))) (opt (fD ub d.1 0 1) λd=>opt (fE d.1 d.2 y0) λd=>ret d) (opt (fE ub d.1 y0) λd=>ret d)) no) no)
def Bl:=λx0 x1 x2=>(ak8 EL ru Ht jo jr x0 x1 x2).val
theorem aNv:∀yg iD PY fD fE,D0 [ak0 yg,PK iD,ap9 PY,FK fD,FL fE] 200 azt (lf afP) λb=>ak8 yg iD PY fD fE b.1.1 b.1.2 b.2:=λ_ _ _ _ _ b=>by kernel_rfl
theorem azv [ax]:SC (ak7 Bl):=s0 (.c azs (.c aa5 (.c aGo (.c N4 (.c N7 (.nil _)))))) (aNv EL ru Ht jo jr)
def auv:=qa (pr (cu aO (c aeW iL)) bB)
def abd:=qe qA
abbrev auw:=abd.B
abbrev afQ:=Int->Int->Int->Bool->Option auw
def afR (g:afQ):Ct:=(128,FC auv (lf abd) (λb=>g b.1.1.1 b.1.1.2 b.1.2 b.2))
def Lo (j3:VH)(yi:ak6)(nF:Hp)(x0:Int)(x1:Int)(x2:Int)(x3:Bool):Pg auw:=let y0:=decide (x0<0);ae (x2==0) (ae (x0==0&&(x1==0&&true)) (ret (0,true)) (opt (j3 y0) λd=>ret (d,true))) (opt (yi x0 x1 x2) λd=>opt (nF d.1 d.2 (!y0==decide (x2<0)) x3) λd=>ret d)
def yj:=λx0 x1 x2 x3=>(Lo qK Bl nE x0 x1 x2 x3).val
theorem aJ5:∀j3 yi nF,D0 [VI j3,ak7 yi,PO nF] 128 auv (lf abd) λb=>Lo j3 yi nF b.1.1.1 b.1.1.2 b.1.2 b.2:=λ_ _ _ b=>by kernel_rfl
theorem auy [ax]:SC (afR yj):=s0 (.c afL (.c azv (.c aa9 (.nil _)))) (aJ5 qK Bl nE)
def adj:=qa (pr (cu aO Eu) bB)
def Lp:=qe qA
abbrev adk:=Lp.B
abbrev cx:=Int->Int->Int->Bool->Option adk
def dA (g:cx):Ct:=(78,FC adj (lf Lp) (λb=>g b.1.1 b.1.2.1 b.1.b b.2))
def FM (aw:bM)(cT:ou)(um:afQ)(x0:Int)(x1:Int)(x2:Int)(x3:Bool):Pg adk:=opt (aw x0 x3) λd=>opt (aw x1 d.2) λaj=>opt (cT d.1 aj.1) λd=>opt (aw x2 aj.2) λaC=>opt (um d.1 d.2 aC.1 aC.2) λd=>ret d
def aU:=λx0 x1 x2 x3=>(FM aS fQ yj x0 x1 x2 x3).val
theorem axF:∀aw cT um,D0 [dD aw,yf cT,afR um] 78 adj (lf Lp) λb=>FM aw cT um b.1.1 b.1.2.1 b.1.b b.2:=λ_ _ _ b=>by kernel_rfl
theorem dL [ax]:SC (dA aU):=s0 (.c dI (.c Bk (.c auy (.nil _)))) (axF aS fQ yj)
def Lq:=qa (pr (c ai (c ai aI6)) (cu arS bB))
def AD:=qe aPF
abbrev Ls:=AD.B
abbrev BG:=Int->Int->Int->Int->Bool->Option Ls
def BH (g:BG):Ct:=(194,FC Lq (lf AD) (λb=>g b.1.1 b.1.2.1 b.1.b.1 b.1.b.2 b.2))
def BI (aq:cx)(x0:Int)(x1:Int)(x2:Int)(x3:Int)(x4:Bool):Pg Ls:=opt (aq (wI (x1-x0)) x2 x3 x4) λd=>ret (wI (x0+d.1),d.2)
def j4:=λx0 x1 x2 x3 x4=>(BI aU x0 x1 x2 x3 x4).val
theorem afS:∀aq,D0 [dA aq] 194 Lq (lf AD) λb=>BI aq b.1.1 b.1.2.1 b.1.b.1 b.1.b.2 b.2:=λ_ b=>by kernel_rfl
theorem Lt [ax]:SC (BH j4):=s0 (.c dL (.nil _)) (afS aU)
def aqa:=qa (pl zq nil)
def VR:=qe aPM
abbrev aqb:=VR.B
abbrev abe:=Int->Int->Option aqb
def abf (g:abe):Ct:=(132,FC aqa (lf VR) (λb=>g b.1 b.2))
def abg (iD:PJ)(ko:CJ)(jh:CL)(pn:VE)(x0:Int)(x1:Int):Pg aqb:=ae (decide (x1<0)) (ret ((0,0),false)) (ae (decide (x1>127)) (ret ((0,0),false)) (opt (iD x0) λd=>opt (ko 0 d x1) λaj=>opt (jh aj.1 aj.2 x1) λaC=>ae (!(aC.1==0&&(aC.2==d&&true))) (ret ((0,0),false)) (opt (pn aj.1 aj.2 (decide (x0<0))) λd=>ae (!d.2) (ret ((0,0),false)) (ret (d.1,true)))))
def uX:=λx0 x1=>(abg ru hO jg nD x0 x1).val
theorem aGp:∀iD ko jh pn,D0 [PK iD,Ia ko,Ib jh,VF pn] 132 aqa (lf VR) λb=>abg iD ko jh pn b.1 b.2:=λ_ _ _ _ b=>by kernel_rfl
theorem aqc [ax]:SC (abf uX):=s0 (.c aa5 (.c Sc (.c Sd (.c akW (.nil _))))) (aGp ru hO jg nD)
def aqd:=qa (pr (cu aO Eu) bB)
def VS:=qe qA
abbrev aqe:=VS.B
abbrev cK:=Int->Int->Int->Bool->Option aqe
def gO (g:cK):Ct:=(82,FC aqd (lf VS) (λb=>g b.1.1 b.1.2.1 b.1.b b.2))
def PZ (aw:bM)(ry:abe)(um:afQ)(x0:Int)(x1:Int)(x2:Int)(x3:Bool):Pg aqe:=opt (aw x0 x3) λd=>opt (aw x1 d.2) λaj=>ae (decide (x2<0)) (ret (0,true)) (ae (decide (x2>66)) (ret (0,true)) (opt (ry d.1 x2) λd=>opt (um d.1.1 d.1.2 aj.1 aj.2) λd=>ret d))
def bo:=λx0 x1 x2 x3=>(PZ aS uX yj x0 x1 x2 x3).val
theorem aGq:∀aw ry um,D0 [dD aw,abf ry,afR um] 82 aqd (lf VS) λb=>PZ aw ry um b.1.1 b.1.2.1 b.1.b b.2:=λ_ _ _ b=>by kernel_rfl
theorem iF [ax]:SC (gO bo):=s0 (.c dI (.c aqc (.c auy (.nil _)))) (aGq aS uX yj)
def adl:=qa (pl (c Vf (cl Vf nil)) nil)
def Lu:=qe Et
abbrev adm:=Lu.B
abbrev FN:=Int->Int->Int->Int->Option adm
def adn (g:FN):Ct:=(243,FC adl (lf Lu) (λb=>g b.1.1 b.1.2 b.2.1 b.b))
def N9 (x0:Int)(x1:Int)(x2:Int)(x3:Int):Pg adm:=ae (decide (x0<x2)) (ret true) (ae (x0==x2) (ret (decide (x1<x3))) (ret false))
def vx:=λx0 x1 x2 x3=>(N9 x0 x1 x2 x3).val
theorem axG:D0 [] 243 adl (lf Lu) λb=>N9 b.1.1 b.1.2 b.2.1 b.b:=λb=>by kernel_rfl
theorem axH [ax]:SC (adn vx):=s0 (.nil _) axG
def Zu:=qa (pl (c Vf (cl Vf nil)) nil)
def I3:=qe aJa
abbrev Zv:=I3.B
abbrev Lv:=Int->Int->Int->Int->Option Zv
def Zw (g:Lv):Ct:=(244,FC Zu (lf I3) (λb=>g b.1.1 b.1.2 b.2.1 b.b))
def Lw (ak9:aXB)(x0:Int)(x1:Int)(x2:Int)(x3:Int):Pg Zv:=opt (ak9 x1 x3 0) λd=>opt (ak9 x0 x2 d.2) λaj=>ret (aj.1,d.1)
def yk:=λx0 x1 x2 x3=>(Lw adb x0 x1 x2 x3).val
theorem auz:∀ak9,D0 [aNp ak9] 244 Zu (lf I3) λb=>Lw ak9 b.1.1 b.1.2 b.2.1 b.b:=λ_ b=>by kernel_rfl
theorem auA [ax]:SC (Zw yk):=s0 (.c aTl (.nil _)) (auz adb)
def auB:=qa (pl aCS nil)
def abh:=qe awT
abbrev auC:=abh.B
abbrev auD:=Int->Int->Option auC
def auE (g:auD):Ct:=(202,FC auB (lf abh) (λb=>g b.1 b.2))
def xR:=qs (st (pr (us 4 (cu (app 0 2) (cu aMf (cl ai (us 44 nil))))) (pl (c (so awL) (cl (so awL) nil)) nil)))
def aEv:=qs (st (pr (us 4 (cu (app 0 2) (cu aMf (c ai (us 12 aUU))))) (pl (c (so awL) (cl (so awL) nil)) nil)))
abbrev Lx:=((Int×Bool)×(Int×Int)×Int×Int)
def ala {ρ:Type}(x:Lx)(K:AX->St->Option ρ):Option ρ:=(λd=>K (.ex 0) (aEv.em ((d.1.1,d.1),d.2))) x
def Ly (ko:CJ)(fD:vr)(jh:CL)(N':FN)(auF:Lv)(d:xR.B):PL xR Lx:=let y0:=wI (d.1-2);let y1:=decide (d.1>=0);ae y1 (opt (ko 0 1 d.1) λaj=>opt (fD d.2.2.1 d.2.2.2 aj.1 aj.2) λaC=>opt (jh d.2.2.1 d.2.2.2 1) λbx=>opt (N' d.2.1.1 d.2.1.2 aC.1 aC.2) λcH=>ae (!cH) (opt (auF d.2.1.1 d.2.1.2 aC.1 aC.2) λd=>opt (fD bx.1 bx.2 aj.1 aj.2) λfx=>ret (wr (y0,d,fx))) (ret (wr (y0,d.2.1,bx)))) (ret (wn ((d.1,y1),d.2)))
def VT:=bw (Ly hO jo jg vx yk) 2000
def afT (fD:vr)(N':FN)(fE:AA)(eB:LT xR Lx)(x0:Int)(x1:Int):Pg auC:=ae (decide (x0<0)) (ret (0,false)) (opt (eB (126,(wU x0,x1),0,0)) λd=>opt (N' d.2.2.1 d.2.2.2 d.2.1.1 d.2.1.2) λaj=>ae aj (opt (fD d.2.2.1 d.2.2.2 0 1) λd=>opt (fE d.1 d.2 false) λd=>ret d) (opt (fE d.2.2.1 d.2.2.2 false) λd=>ret d))
def LA:=λx0 x1=>(afT jo vx jr VT x0 x1).val
abbrev Ut:=CJ×vr×CL×FN×Lv×AA×(LT xR Lx)
def afU (p:Ut):KK:=⟨[Ia p.1,FK p.2.1,Ib p.b.1,adn p.b.2.1,Zw p.c.1,FL p.c.2.1],⟨[⟨5,(rg 0 4 (rg 7 44 [])),[]⟩],[fY 5 0 xR ala p.c.b],[],[],(some ⟨0,(0::1::rg 4 47 []),[]⟩)⟩,0,202⟩
theorem aBs (p:Ut):LI (afU p) 5 xR ala (Ly p.1 p.2.1 p.b.1 p.b.2.1 p.c.1):=λ_ d c K=>by kernel_rfl
theorem aJ6 (p:Ut):D2 (afU p) auB (lf abh) λb=>afT p.2.1 p.b.2.1 p.c.2.1 p.c.b b.1 b.2:=λb=>by kernel_rfl
abbrev afV:Ut:=(hO,jo,jg,vx,yk,jr,VT)
theorem aJ7 [ax]:SC (auE LA):=sc (kS (k:=afU afV) (.c Sc (.c N4 (.c Sd (.c axH (.c auA (.c N7 (.nil _))))))) [5] [] ⟨kL (aBs afV),trivial⟩ trivial (aJ6 afV))
def azw:=qa (pr (cu aO aCS) bB)
def afW:=qe qA
abbrev azx:=afW.B
abbrev Zx:=Int->Int->Bool->Option azx
def alb (g:Zx):Ct:=(133,FC azw (lf afW) (λb=>g b.1.1 b.1.2 b.2))
def alc (Uu:auD)(aw:bM)(x0:Int)(x1:Int)(x2:Bool):Pg azx:=opt (Uu x0 x1) λd=>ae (!d.2) (opt (aw 1152921504606846977 x2) λd=>ret d) (opt (aw d.1 x2) λd=>ret d)
def ym:=λx0 x1 x2=>(alc LA aS x0 x1 x2).val
theorem aNw:∀Uu aw,D0 [auE Uu,dD aw] 133 azw (lf afW) λb=>alc Uu aw b.1.1 b.1.2 b.2:=λ_ _ b=>by kernel_rfl
theorem azy [ax]:SC (alb ym):=s0 (.c aJ7 (.c dI (.nil _))) (aNw LA aS)
def auG:=qa (pr (cu aO iL) bB)
def abi:=qe qA
abbrev auH:=abi.B
abbrev afX:=Int->Bool->Option auH
def afY (g:afX):Ct:=(81,FC auG (lf abi) (λb=>g b.1 b.2))
def afZ (aw:bM)(ry:abe)(Km:Zx)(x0:Int)(x1:Bool):Pg auH:=opt (aw x0 x1) λd=>ae (decide (d.1<0)) (ret (0,true)) (opt (ry d.1 30) λaj=>opt (Km aj.1.1 aj.1.2 d.2) λd=>ret d)
def BJ:=λx0 x1=>(afZ aS uX ym x0 x1).val
theorem aJ8:∀aw ry Km,D0 [dD aw,abf ry,alb Km] 81 auG (lf abi) λb=>afZ aw ry Km b.1 b.2:=λ_ _ _ b=>by kernel_rfl
theorem auI [ax]:SC (afY BJ):=s0 (.c dI (.c aqc (.c azy (.nil _)))) (aJ8 aS uX ym)
def auJ:=qa (pl iL nil)
def abj:=qe Gy
abbrev auK:=abj.B
abbrev yo:=Int->Option auK
def BK (g:yo):Ct:=(129,FC auJ (lf abj) (λb=>g b))
def Uv (x0:Int):Pg auK:=let y0:=Int.tmod x0 6746518852;ae (decide (y0>3373259426)) (ret (wI (y0-6746518852))) (ae (decide (y0<= -3373259426)) (ret (wI (y0+6746518852))) (ret y0))
def ly:=λx0=>(Uv x0).val
theorem aJ9:D0 [] 129 auJ (lf abj) λb=>Uv b:=λb=>by kernel_rfl
theorem FO [ax]:SC (BK ly):=s0 (.nil _) aJ9
def aIb:=qa (pl iL nil)
def asu:=qe Gy
abbrev ado:=asu.B
abbrev Oa:=Int->Option ado
def adp (g:Oa):Ct:=(36,FC aIb (lf asu) (λb=>g b))
def Dl (x0:Int):Pg ado:=ae (decide (x0>=1152921504606846976)) (ret 1152921504606846976) (ae (decide (x0<= -1152921504606846976)) (ret 1152921504606846976) (ae (decide (x0<0)) (ret (wI (0-x0))) (ret x0)))
def xS:=λx0=>(Dl x0).val
theorem aTp:D0 [] 36 aIb (lf asu) λb=>Dl b:=λb=>by kernel_rfl
theorem aow [ax]:SC (adp xS):=s0 (.nil _) aTp
def aIc:=qa (pr (cu aO zq) bB)
def asv:=qe qA
abbrev aId:=asv.B
abbrev adq:=Int->Int->Bool->Option aId
def aox (g:adq):Ct:=(130,FC aIc (lf asv) (λb=>g b.1.1 b.1.2 b.2))
def aoy (aB:bS)(x0:Int)(x1:Int)(x2:Bool):Pg aId:=opt (aB x0 x1 30 x2) λd=>ret d
def Kn:=λx0 x1 x2=>(aoy aZ x0 x1 x2).val
theorem aTq:∀aB,D0 [fG aB] 130 aIc (lf asv) λb=>aoy aB b.1.1 b.1.2 b.2:=λ_ b=>by kernel_rfl
theorem axI [ax]:SC (aox Kn):=s0 (.c fZ (.nil _)) (aTq aZ)
def aEw:=qa (pl iL nil)
def ald:=qe aVi
abbrev aEx:=ald.B
abbrev asw:=Int->Option aEx
def aEy (g:asw):Ct:=(242,FC aEw (lf ald) (λb=>g b))
def asx (x0:Int):Pg aEx:=ret (ul x0 9223372036854775808,wU x0)
def VU:=λx0=>(asx x0).val
theorem aQU:D0 [] 242 aEw (lf ald) λb=>asx b:=λb=>by kernel_rfl
theorem aQV [ax]:SC (aEy VU):=s0 (.nil _) aQU
def azz:=qa (pl (c aeW aCS) nil)
def af0:=qe aPM
abbrev azA:=af0.B
abbrev ale:=Int->Int->Int->Int->Option azA
def azB (g:ale):Ct:=(187,FC azz (lf af0) (λb=>g b.1.1 b.1.2 b.2.1 b.b))
def alf (nC:aun)(x0:Int)(x1:Int)(x2:Int)(x3:Int):Pg azA:=let y0:=decide (x0<0);opt (nC x1 x3 0) λd=>opt (nC (wU x0) (wU x2) d.2) λaj=>ae (!y0==decide (x2<0)) (ret ((wI aj.1,d.1),true)) (ret ((wI aj.1,d.1),decide (wI aj.1<0)==y0))
def Ko:=λx0 x1 x2 x3=>(alf CD x0 x1 x2 x3).val
theorem aNx:∀nC,D0 [akS nC] 187 azz (lf af0) λb=>alf nC b.1.1 b.1.2 b.2.1 b.b:=λ_ b=>by kernel_rfl
theorem aNy [ax]:SC (azB Ko):=s0 (.c aov (.nil _)) (aNx CD)
def azC:=qa (dp (cl aUC nil) λa=>(cl (cl (gs a.1 aIY) nil) nil))
def af1:=qe (res (pl aVj (pu Y2 nil)))
abbrev azD:=af1.B
abbrev si:=Nat->NI->NI->Bool->Option azD
def Kp (g:si):Ct:=(117,uV 0 [.i .i64,.i .u64] (FC azC (lf af1) (λb=>g b.1.1 b.2.1 b.b b.1.2)))
def AE:=qs (st (dp (us 2 (cu aMf (us 1 (cu ayS (us 4 (c aUC (c ai aPe))))))) λa=>(pl (c (so (cl (gs a.1.1 aIY) nil)) (cu aPN aaF)) nil)))
def ah3:=qs (st (pu (us 2 (cu aMf (cu mJ (us 23 nil)))) (pl (cl aPJ (cu aPN nil)) nil)))
def aBt:=qs (st (pr (us 2 (cu aMf (us 1 (cu ayS (us 4 (c aUC aVa)))))) (pl (c aPJ (cu aPN aaF)) nil)))
abbrev Hv:=ah3.B⊕(aL7×(NI×NI)×Int×Int)
def aqf {ρ:Type}(x:Hv)(K:AX->St->Option ρ):Option ρ:=(t8 (λd=>K .ret (ah3.em d)) (λd=>K (.ex 0) (aBt.em (d.1,(d.1.1.1,d.2.1),d.b)))) x
def Dm (aNz:ale)(d:AE.B):PL AE Hv:=let y0:=ws d.1.2.2;let y1:=decide (d.1.2.2<d.1.2.1);ae y1 (ae (bg d.1.2.2 d.1.1.1) (opt (aNz d.2.2.1 d.2.2.2 (d.2.1.1 y0) (d.2.1.2 y0)) λaj=>ae (!aj.2) (ret (wn (wr (d.1.1.1,d.2.1)))) (ret (wr ((d.1.1,d.1.2.1,wI (d.1.2.2+1)),d.2.1,aj.1)))) no) (ret (wn (wn ((d.1.1,d.1.2.1,d.1.2.2,y1),d.2))))
def Hw:=bw (Dm Ko) 2000
def Zy (eB:LT AE Hv)(x0:Nat)(x1:Nat->Int)(x2:Nat->Int)(w0:Bool):Pg azD:=ae (ww x0 x0) (opt (eB (((x0,w0),wl x0,0),(x1,x2),0,0)) λx=>sum x (λd=>ret ((0,0),false)) λd=>ret (d.2.2,true)) no
def kF:=λx0 x1 x2 w0=>(Zy Hw x0 x1 x2 w0).val
abbrev Zz:=ale×(LT AE Hv)
def alg (p:Zz):KK:=⟨[azB p.1],⟨[⟨3,(0::1::3::rg 5 4 (rg 12 15 [])),[]⟩],[fY 3 1 AE aqf p.2],[],[],(some ⟨0,(0::1::rg 4 23 []),[]⟩)⟩,1,117⟩
theorem aEz (p:Zz):LI (alg p) 3 AE aqf (Dm p.1):=λ_ d c K=>by kernel_rfl
theorem aNA (p:Zz):D2 (alg p) azC (lf af1) λb=>Zy p.2 b.1.1 b.2.1 b.b b.1.2:=λb=>by kernel_rfl
abbrev alh:Zz:=(Ko,Hw)
theorem QC [ax]:SC (Kp kF):=sc (Sound.nil 0 [.i .i64,.i .u64]<|kS (k:=alg alh) (.c aNy (.nil _)) [3] [] ⟨kL (aEz alh),trivial⟩ trivial (aNA alh))
def aqg:=qa (dp (cu aO awN) λa=>(c xi (cl (cl (gs a.1 ot) nil) nil)))
def VV:=qe aJe
abbrev aqh:=VV.B
abbrev fH:=Nat->Bool->NI->Bool->Option aqh
def pd (g:fH):Ct:=(201,uV 1 [.i .i64] (FC aqg (lf VV) (λb=>g b.1.1 b.2.1 b.b b.1.2)))
def vy:=qs (st (dp (cu aO (us 4 (cu ayS (us 4 (c Hl (c ai aPf)))))) λa=>(pl (c cD (c (so (cl (gs a.1.1 ot) nil)) aaF)) cN)))
def aBu:=qs (st (pr (cu aO (us 4 (cu ayS (us 4 (c Hl (c ai aPl)))))) (pl (c cD (c IM aaF)) cN)))
abbrev Il:=(aL7×Bool×NI×Int×Int)
def ah4 {ρ:Type}(x:Il)(K:AX->St->Option ρ):Option ρ:=(λd=>K (.ex 0) (aBu.em (d.1,d.2.1,(d.1.1.1,d.b.1),d.b.2))) x
def Im (aw:bM)(aQW:asw)(yp:si)(d:vy.B):PL vy Il:=let y0:=decide (d.1.2.2<d.1.2.1);ae y0 (ae (bg d.1.2.2 d.1.1.1) (opt (aw (d.2.2.1 (ws d.1.2.2)) d.2.1) λaj=>opt (aQW aj.1) λaC=>opt (yp 2 (λj=>bif ww j 1 then aC.1 else bif ww j 0 then d.2.2.2.1 else d.2.2.2.1) (λj=>bif ww j 1 then aC.2 else bif ww j 0 then d.2.2.2.2 else d.2.2.2.2) true) λbx=>ret (wr ((d.1.1,d.1.2.1,wI (d.1.2.2+1)),aj.2,d.2.2.1,bx.1))) no) (ret (wn ((d.1.1,d.1.2.1,d.1.2.2,y0),d.2)))
def Si:=bw (Im aS VU kF) 2000
def abk (uW:Dk)(nF:Hp)(eB:LT vy Il)(x0:Nat)(x1:Bool)(x2:Nat->Int)(w0:Bool):Pg aqh:=ae (ww x0 x0) (opt (eB (((x0,w0),wl x0,0),x1,x2,0,0)) λd=>opt (uW d.2.2.2.1 d.2.2.2.2 0) λaj=>opt (nF aj.1 aj.2 (decide (d.2.2.2.1<0)) d.2.1) λd=>ret d) no
def cY:=λx0 x1 x2 w0=>(abk rv nE Si x0 x1 x2 w0).val
abbrev P1:=bM×asw×si×Dk×Hp×(LT vy Il)
def abl (p:P1):KK:=⟨[dD p.1,aEy p.2.1,Kp p.b.1,PN p.b.2.1,PO p.c.1],⟨[⟨3,(rg 1 4 (rg 6 4 (rg 13 26 []))),[]⟩],[fY 3 2 vy ah4 p.c.2],[0],[],(some ⟨0,(rg 0 4 (rg 5 34 [])),[]⟩)⟩,2,201⟩
theorem axJ (p:P1):LI (abl p) 3 vy ah4 (Im p.1 p.2.1 p.b.1):=λ_ d c K=>by kernel_rfl
theorem aGr (p:P1):D2 (abl p) aqg (lf VV) λb=>abk p.b.2.1 p.c.1 p.c.2 b.1.1 b.2.1 b.b b.1.2:=λb=>by kernel_rfl
abbrev abm:P1:=(aS,VU,kF,rv,nE,Si)
theorem rz [ax]:SC (pd cY):=sc (Sound.nil 1 [.i .i64]<|kS (k:=abl abm) (.c dI (.c aQV (.c QC (.c aa8 (.c aa9 (.nil _)))))) [3] [] ⟨kL (axJ abm),trivial⟩ trivial (aGr abm))
def ali:=qa (dp (cu aO aPq) λa=>(c xi (cl (cl (gs a.2.1 ot) nil) nil)))
def Sj:=qe aJe
abbrev alj:=Sj.B
abbrev VW:=Int->Nat->Bool->NI->Bool->Option alj
def VX (g:VW):Ct:=(131,uV 2 [.i .i64] (FC ali (lf Sj) (λb=>g b.1.1 b.1.2.1 b.2.1 b.b b.1.b)))
def nd:=qs (st (pr (cu aO (c ai (us 5 (c ai (us 6 (c aVT (c ai aIS))))))) (pl (c cD ake) cN)))
def adr:=qs (st (pr (cu aO (c ai (us 5 (c ai (us 6 (c aVT (c ai aIZ))))))) (pl (c cD ake) cN)))
abbrev AF:=adr.B
def ads {ρ:Type}:=@ef AF ((.ex 0)) adr ρ
def Ob (jW:adq)(ck:fH)(d:nd.B):PL nd AF:=let n1:=d.1.2.2;let n2:=n1.2.2;let y0:=decide (n2<n1.2.1);ae y0 (ae (bg n2 n1.1.1) (opt (jW d.1.1 d.1.2.1 d.2.1) λaj=>opt (ck 2 aj.2 (cr (d.2.2.2 (1+ws n2)) [aj.1,d.2.2.2 (1+ws n2)]) true) λaC=>ret (wr ((d.1.1,aC.1,n1.1,n1.2.1,wI (n2+1)),aC.2,d.2.2))) no) (ret (wn ((d.1.1,d.1.2.1,n1.1,n1.2.1,n2,y0),d.2)))
def Oc:=bw (Ob Kn cY) 2000
def VY (eB:LT nd AF)(x0:Int)(x1:Nat)(x2:Bool)(x3:Nat->Int)(w0:Bool):Pg alj:=let y0:=x1-1;ae (bg 0 x1) (ae (Kg 1 x1) (opt (eB ((x0,x3 0,(y0,w0&&true),wl y0,0),x2,x1,x3)) λd=>ret (d.1.2.1,d.2.1)) no) no
def nG:=λx0 x1 x2 x3 w0=>(VY Oc x0 x1 x2 x3 w0).val
abbrev LB:=adq×fH×(LT nd AF)
def VZ (p:LB):KK:=⟨[aox p.1,pd p.2.1],⟨[⟨3,(rg 2 5 (rg 8 6 (rg 17 13 []))),[]⟩],[fY 3 2 nd ads p.b],[0],[],(some ⟨0,(rg 0 6 (rg 7 23 [])),[]⟩)⟩,2,131⟩
theorem auL (p:LB):LI (VZ p) 3 nd ads (Ob p.1 p.2.1):=λ_ d c K=>by kernel_rfl
theorem aEA (p:LB):D2 (VZ p) ali (lf Sj) λb=>VY p.b b.1.1 b.1.2.1 b.2.1 b.b b.1.b:=λb=>by kernel_rfl
abbrev V0:LB:=(Kn,cY,Oc)
theorem alk [ax]:SC (VX nG):=sc (Sound.nil 2 [.i .i64]<|kS (k:=VZ V0) (.c axI (.c rz (.nil _))) [3] [] ⟨kL (auL V0),trivial⟩ trivial (aEA V0))
def azE:=qa (pr (cu aO iL) bB)
def af2:=qe qA
abbrev azF:=af2.B
abbrev Kq:=Int->Bool->Option azF
def Kr (g:Kq):Ct:=(79,FC azE (lf af2) (λb=>g b.1 b.2))
def alm (aw:bM)(dw:yo)(dG:Oa)(jW:adq)(gC:VW)(x0:Int)(x1:Bool):Pg azF:=opt (aw x0 x1) λd=>opt (dw d.1) λaj=>let y0:=wI (3373259426-aj);let y1:=wI (-3373259426-aj);ae (decide (aj>1686629713)) (opt (dG y0) λaC=>let ub:=wI (1686629713-aC);ae (decide (aC<=843314857)) (opt (jW y0 y0 d.2) λd=>opt (gC d.1 6 d.2 (cr (-27) [1073741824, -178956971,8947849, -213044,2959, -27]) true) λd=>opt (jW y0 d.1 d.2) λd=>let y0:=if -1073741824>d.1 then -1073741824 else d.1;ret (if 1073741824<y0 then 1073741824 else y0,d.2)) (opt (jW ub ub d.2) λd=>opt (gC d.1 7 d.2 (cr 2 [1073741824, -536870912,44739243, -1491308,26631, -296,2]) true) λd=>let aqi:=wI (0-d.1);let y1:=if -1073741824>d.1 then -1073741824 else d.1;let y2:=if -1073741824>aqi then -1073741824 else aqi;ae (decide (y0<0)) (ret (if 1073741824<y2 then 1073741824 else y2,d.2)) (ret (if 1073741824<y1 then 1073741824 else y1,d.2)))) (ae (decide (aj< -1686629713)) (opt (dG y1) λaC=>let y0:=wI (1686629713-aC);ae (decide (aC<=843314857)) (opt (jW y1 y1 d.2) λd=>opt (gC d.1 6 d.2 (cr (-27) [1073741824, -178956971,8947849, -213044,2959, -27]) true) λd=>opt (jW y1 d.1 d.2) λd=>let y0:=if -1073741824>d.1 then -1073741824 else d.1;ret (if 1073741824<y0 then 1073741824 else y0,d.2)) (opt (jW y0 y0 d.2) λd=>opt (gC d.1 7 d.2 (cr 2 [1073741824, -536870912,44739243, -1491308,26631, -296,2]) true) λd=>let y0:=wI (0-d.1);let azG:=if -1073741824>d.1 then -1073741824 else d.1;let y2:=if -1073741824>y0 then -1073741824 else y0;ae (decide (y1<0)) (ret (if 1073741824<y2 then 1073741824 else y2,d.2)) (ret (if 1073741824<azG then 1073741824 else azG,d.2)))) (opt (dG aj) λaC=>let y0:=wI (1686629713-aC);ae (decide (aC<=843314857)) (opt (jW aj aj d.2) λd=>opt (gC d.1 6 d.2 (cr (-27) [1073741824, -178956971,8947849, -213044,2959, -27]) true) λd=>opt (jW aj d.1 d.2) λd=>let y0:=if -1073741824>d.1 then -1073741824 else d.1;ret (if 1073741824<y0 then 1073741824 else y0,d.2)) (opt (jW y0 y0 d.2) λd=>opt (gC d.1 7 d.2 (cr 2 [1073741824, -536870912,44739243, -1491308,26631, -296,2]) true) λd=>let y0:=wI (0-d.1);let y1:=if -1073741824>d.1 then -1073741824 else d.1;let y2:=if -1073741824>y0 then -1073741824 else y0;ae (decide (aj<0)) (ret (if 1073741824<y2 then 1073741824 else y2,d.2)) (ret (if 1073741824<y1 then 1073741824 else y1,d.2)))))
def ov:=λx0 x1=>(alm aS ly xS Kn nG x0 x1).val
theorem aNB:∀aw dw dG jW gC,D0 [dD aw,BK dw,adp dG,aox jW,VX gC] 79 azE (lf af2) λb=>alm aw dw dG jW gC b.1 b.2:=λ_ _ _ _ _ b=>by kernel_rfl
theorem QD [ax]:SC (Kr ov):=s0 (.c dI (.c FO (.c aow (.c axI (.c alk (.nil _)))))) (aNB aS ly xS Kn nG)
def azH:=qa (pr (cu aO iL) bB)
def af3:=qe qA
abbrev azI:=af3.B
abbrev QE:=Int->Bool->Option azI
def QF (g:QE):Ct:=(80,FC azH (lf af3) (λb=>g b.1 b.2))
def aln (dw:yo)(eL:Kq)(x0:Int)(x1:Bool):Pg azI:=opt (dw x0) λd=>opt (eL (wI (1686629713+d)) x1) λd=>ret d
def sj:=λx0 x1=>(aln ly ov x0 x1).val
theorem aNC:∀dw eL,D0 [BK dw,Kr eL] 80 azH (lf af3) λb=>aln dw eL b.1 b.2:=λ_ _ b=>by kernel_rfl
theorem ZA [ax]:SC (QF sj):=s0 (.c FO (.c QD (.nil _))) (aNC ly ov)
def aqj:=qa (pr (cu aO zq) bB)
def V1:=qe qA
abbrev aqk:=V1.B
abbrev abn:=Int->Int->Bool->Option aqk
def abo (g:abn):Ct:=(257,FC aqj (lf V1) (λb=>g b.1.1 b.1.2 b.2))
def abp (aw:bM)(dG:Oa)(aD:cK)(jW:adq)(gC:VW)(x0:Int)(x1:Int)(x2:Bool):Pg aqk:=opt (aw x0 x2) λd=>let y0:=decide (d.1<0);opt (aw x1 d.2) λaj=>let ub:=decide (aj.1<0);opt (dG d.1) λaC=>opt (dG aj.1) λbx=>let aqi:=if bx>aC then bx else aC;opt (dG d.1) λcH=>opt (dG aj.1) λfx=>ae (aqi==0) (ret (0,aj.2)) (opt (aD (if fx<cH then fx else cH) aqi 30 aj.2) λdx=>ae (decide (dx.1>444758426)) (opt (aD (wI (dx.1-1073741824)) (wI (dx.1+1073741824)) 30 dx.2) λnH=>opt (jW nH.1 nH.1 nH.2) λte=>opt (gC te.1 12 te.2 (cr (-46684427) [1073741824, -357913941,214748365, -153391689,119304647, -97612893,82595525, -71582788,63161284, -56512728,51130563, -46684427]) true) λpx=>opt (jW nH.1 px.1 px.2) λmI=>let ZB:=wI (843314857+mI.1);let y1:=wI (3373259426-ZB);let y2:=wI (1686629713-ZB);let y3:=wI (3373259426-y2);opt (dG d.1) λd=>opt (dG aj.1) λxj=>ae (decide (d>xj)) (ae ub (ae y0 (ret (wI (0-y3),mI.2)) (ret (y3,mI.2))) (ae y0 (ret (wI (0-y2),mI.2)) (ret (y2,mI.2)))) (ae ub (ae y0 (ret (wI (0-y1),mI.2)) (ret (y1,mI.2))) (ae y0 (ret (wI (0-ZB),mI.2)) (ret (ZB,mI.2))))) (opt (jW dx.1 dx.1 dx.2) λnH=>opt (gC nH.1 12 nH.2 (cr (-46684427) [1073741824, -357913941,214748365, -153391689,119304647, -97612893,82595525, -71582788,63161284, -56512728,51130563, -46684427]) true) λte=>opt (jW dx.1 te.1 te.2) λpx=>let ZB:=wI (0+px.1);let y1:=wI (1686629713-ZB);let y2:=wI (3373259426-ZB);let y3:=wI (3373259426-y1);opt (dG d.1) λd=>opt (dG aj.1) λmI=>ae (decide (d>mI)) (ae ub (ae y0 (ret (wI (0-y3),px.2)) (ret (y3,px.2))) (ae y0 (ret (wI (0-y1),px.2)) (ret (y1,px.2)))) (ae ub (ae y0 (ret (wI (0-y2),px.2)) (ret (y2,px.2))) (ae y0 (ret (wI (0-ZB),px.2)) (ret (ZB,px.2))))))
def zz:=λx0 x1 x2=>(abp aS xS bo Kn nG x0 x1 x2).val
theorem aGs:∀aw dG aD jW gC,D0 [dD aw,adp dG,gO aD,aox jW,VX gC] 257 aqj (lf V1) λb=>abp aw dG aD jW gC b.1.1 b.1.2 b.2:=λ_ _ _ _ _ b=>by kernel_rfl
theorem aql [ax]:SC (abo zz):=s0 (.c dI (.c aow (.c iF (.c axI (.c alk (.nil _)))))) (aGs aS xS bo Kn nG)
def aqm:=qa (pr (cu aO zq) bB)
def V2:=qe qA
abbrev aqn:=V2.B
abbrev dk:=Int->Int->Bool->Option aqn
def iG (g:dk):Ct:=(212,FC aqm (lf V2) (λb=>g b.1.1 b.1.2 b.2))
def P3 (aw:bM)(x0:Int)(x1:Int)(x2:Bool):Pg aqn:=opt (aw x0 x2) λd=>opt (aw x1 d.2) λaj=>opt (aw (wI (d.1-aj.1)) aj.2) λd=>ret d
def bW:=λx0 x1 x2=>(P3 aS x0 x1 x2).val
theorem aGt:∀aw,D0 [dD aw] 212 aqm (lf V2) λb=>P3 aw b.1.1 b.1.2 b.2:=λ_ b=>by kernel_rfl
theorem jz [ax]:SC (iG bW):=s0 (.c dI (.nil _)) (aGt aS)
def aEB:=qa (pr (cu aO (c aeX GB)) bB)
def alo:=qe awV
abbrev aEC:=alo.B
abbrev I4:=Int->Int->Int->Int->Int->Int->Bool->Option aEC
def V3 (g:I4):Ct:=(181,FC aEB (lf alo) (λb=>g b.1.1.1 b.1.1.2.1 b.1.1.b b.1.2.1 b.1.b.1 b.1.b.2 b.2))
def asy (aV:dk)(x0:Int)(x1:Int)(x2:Int)(x3:Int)(x4:Int)(x5:Int)(x6:Bool):Pg aEC:=opt (aV x0 x3 x6) λd=>opt (aV x1 x4 d.2) λaj=>opt (aV x2 x5 aj.2) λaC=>ret ((d.1,aj.1,aC.1),aC.2)
def wa:=λx0 x1 x2 x3 x4 x5 x6=>(asy bW x0 x1 x2 x3 x4 x5 x6).val
theorem aQX:∀aV,D0 [iG aV] 181 aEB (lf alo) λb=>asy aV b.1.1.1 b.1.1.2.1 b.1.1.b b.1.2.1 b.1.b.1 b.1.b.2 b.2:=λ_ b=>by kernel_rfl
theorem af4 [ax]:SC (V3 wa):=s0 (.c jz (.nil _)) (aQX bW)
def auM:=qa (pr (cu aO (c aeX iL)) bB)
def abq:=qe awV
abbrev auN:=abq.B
abbrev Uw:=Int->Int->Int->Int->Bool->Option auN
def Ux (g:Uw):Ct:=(157,FC auM (lf abq) (λb=>g b.1.1.1 b.1.1.2.1 b.1.1.b b.1.2 b.2))
def af5 (aB:bS)(x0:Int)(x1:Int)(x2:Int)(x3:Int)(x4:Bool):Pg auN:=opt (aB x0 x3 30 x4) λd=>opt (aB x1 x3 30 d.2) λaj=>opt (aB x2 x3 30 aj.2) λaC=>ret ((d.1,aj.1,aC.1),aC.2)
def uo:=λx0 x1 x2 x3 x4=>(af5 aZ x0 x1 x2 x3 x4).val
theorem aKa:∀aB,D0 [fG aB] 157 auM (lf abq) λb=>af5 aB b.1.1.1 b.1.1.2.1 b.1.1.b b.1.2 b.2:=λ_ b=>by kernel_rfl
theorem af6 [ax]:SC (Ux uo):=s0 (.c fZ (.nil _)) (aKa aZ)
def aqo:=qa (dp (cu aO awN) λa=>(c xi (cl (cl (gs a.1 ot) nil) nil)))
def V4:=qe aJe
abbrev aqp:=V4.B
abbrev zA:=Nat->Bool->NI->Bool->Option aqp
def Hy (g:zA):Ct:=(135,uV 1 [.i .i64] (FC aqo (lf V4) (λb=>g b.1.1 b.2.1 b.b b.1.2)))
def vz:=qs (st (pr (cu aO (us 4 (cu ayS (us 6 (c Hl (c ai (cl ai (us 19 nil)))))))) (pl (c cD (c IM aaF)) cN)))
def ah5:=qs (st (pr (cu aO (us 4 (cu ayS (us 6 (c Hl (c ai (c ai (cl ab (us 18 nil))))))))) (pl (c cD (c IM aaF)) cN)))
abbrev Io:=ah5.B
def ah6 {ρ:Type}:=@ef Io ((.ex 0)) ah5 ρ
def CN (aw:bM)(cT:ou)(yp:si)(d:vz.B):PL vz Io:=let y0:=decide (d.1.2.2<d.1.2.1);ae y0 (ae (bg d.1.2.2 d.1.1.1) (opt (aw (d.2.2.1.2 (ws d.1.2.2)) d.2.1) λaj=>opt (cT aj.1 aj.1) λaC=>opt (yp 2 (λj=>bif ww j 1 then aC.1 else bif ww j 0 then d.2.2.2.1 else d.2.2.2.1) (λj=>bif ww j 1 then aC.2 else bif ww j 0 then d.2.2.2.2 else d.2.2.2.2) true) λbx=>ret (wr ((d.1.1,d.1.2.1,wI (d.1.2.2+1)),aj.2,d.2.2.1,bx.1))) no) (ret (wn ((d.1.1,d.1.2.1,d.1.2.2,y0),d.2)))
def Sk:=bw (CN aS fQ kF) 2000
def abr (Km:Zx)(eB:LT vz Io)(x0:Nat)(x1:Bool)(x2:Nat->Int)(w0:Bool):Pg aqp:=let y0:=if 64<wl x0 then 64 else wl x0;let y1:=ws y0;ae (Kg y0 x0) (opt (eB (((y1,w0&&false),wl y1,0),x1,(x0,x2),0,0)) λd=>opt (Km d.2.2.2.1 d.2.2.2.2 d.2.1) λd=>ret d) no
def gP:=λx0 x1 x2 w0=>(abr ym Sk x0 x1 x2 w0).val
abbrev P4:=bM×ou×si×Zx×(LT vz Io)
def abt (p:P4):KK:=⟨[dD p.1,yf p.2.1,Kp p.b.1,alb p.b.2.1],⟨[⟨3,(rg 1 4 (rg 6 6 (rg 15 19 []))),[]⟩],[fY 3 2 vz ah6 p.c],[0],[],(some ⟨0,(rg 0 4 (rg 5 29 [])),[]⟩)⟩,2,135⟩
theorem axK (p:P4):LI (abt p) 3 vz ah6 (CN p.1 p.2.1 p.b.1):=λ_ d c K=>by kernel_rfl
theorem aGu (p:P4):D2 (abt p) aqo (lf V4) λb=>abr p.b.2.1 p.c b.1.1 b.2.1 b.b b.1.2:=λb=>by kernel_rfl
abbrev abu:P4:=(aS,fQ,kF,ym,Sk)
theorem P5 [ax]:SC (Hy gP):=sc (Sound.nil 1 [.i .i64]<|kS (k:=abt abu) (.c dI (.c Bk (.c QC (.c azy (.nil _))))) [3] [] ⟨kL (axK abu),trivial⟩ trivial (aGu abu))
def azJ:=qa (pr (cu aO GB) bB)
def af7:=qe qA
abbrev azK:=af7.B
abbrev Bm:=Int->Int->Int->Bool->Option azK
def QG (g:Bm):Ct:=(158,FC azJ (lf af7) (λb=>g b.1.1 b.1.2.1 b.1.b b.2))
def alp (kv:zA)(x0:Int)(x1:Int)(x2:Int)(x3:Bool):Pg azK:=opt (kv 3 x3 (cr x0 [x2,x1,x0]) false) λd=>ret d
def pN:=λx0 x1 x2 x3=>(alp gP x0 x1 x2 x3).val
theorem aND:∀kv,D0 [Hy kv] 158 azJ (lf af7) λb=>alp kv b.1.1 b.1.2.1 b.1.b b.2:=λ_ b=>by kernel_rfl
theorem ZC [ax]:SC (QG pN):=s0 (.c P5 (.nil _)) (aND gP)
def aED:=qa (pr (cu aO GB) bB)
def alq:=qe awV
abbrev aEE:=alq.B
abbrev Od:=Int->Int->Int->Bool->Option aEE
def af8 (g:Od):Ct:=(211,FC aED (lf alq) (λb=>g b.1.1 b.1.2.1 b.1.b b.2))
def asz (aw:bM)(x0:Int)(x1:Int)(x2:Int)(x3:Bool):Pg aEE:=opt (aw x0 x3) λd=>opt (aw x1 d.2) λaj=>opt (aw x2 aj.2) λaC=>ret ((d.1,aj.1,aC.1),aC.2)
def BL:=λx0 x1 x2 x3=>(asz aS x0 x1 x2 x3).val
theorem aQY:∀aw,D0 [dD aw] 211 aED (lf alq) λb=>asz aw b.1.1 b.1.2.1 b.1.b b.2:=λ_ b=>by kernel_rfl
theorem asA [ax]:SC (af8 BL):=s0 (.c dI (.nil _)) (aQY aS)
def azL:=qa (pr (cu aO arZ) bB)
def af9:=qe awW
abbrev azM:=af9.B
abbrev QH:=Int->Int->Int->Int->Bool->Option azM
def ZD (g:QH):Ct:=(134,FC azL (lf af9) (λb=>g b.1.1 b.1.2.1 b.1.b.1 b.1.b.2 b.2))
def sk:=qs (st (pr (cu aO (us 2 (cu apy (cu ayT (us 1 aUF))))) (pl (c cD (cl xo (cu akj nil))) cN)))
def aqq:=qs (st (pr (cu aO (us 2 (cu apy (cu ayT (us 1 (c ai (cl ab (us 10 nil)))))))) (pl (c cD (cl xo (cu akj nil))) cN)))
abbrev Hz:=aqq.B
def aqr {ρ:Type}:=@ef Hz ((.ex 0)) aqq ρ
def abv (aw:bM)(d:sk.B):PL sk Hz:=let n1:=d.2.2;let n3:=n1.2.1;let n2:=n1.2.2;let y0:=bg d.1 4;let y1:=d.1==3;let y2:=d.1==2;let y3:=d.1==1;let y4:=wI (d.1+1);let y5:=decide (d.1<4);ae y5 (ae y0 (ae y1 (opt (aw n2.2 d.2.1) λaj=>ae y0 (ae y1 (ret (wr (y4,aj.2,n1.1,n3,n2.1,aj.1))) (ae y2 (ret (wr (y4,aj.2,n1.1,n3,aj.1,n2.2))) (ae y3 (ret (wr (y4,aj.2,n1.1,aj.1,n2))) (ret (wr (y4,aj.2,aj.1,n1.2)))))) no) (ae y2 (opt (aw n2.1 d.2.1) λaj=>ae y0 (ae y1 (ret (wr (y4,aj.2,n1.1,n3,n2.1,aj.1))) (ae y2 (ret (wr (y4,aj.2,n1.1,n3,aj.1,n2.2))) (ae y3 (ret (wr (y4,aj.2,n1.1,aj.1,n2))) (ret (wr (y4,aj.2,aj.1,n1.2)))))) no) (ae y3 (opt (aw n3 d.2.1) λaj=>ae y0 (ae y1 (ret (wr (y4,aj.2,n1.1,n3,n2.1,aj.1))) (ae y2 (ret (wr (y4,aj.2,n1.1,n3,aj.1,n2.2))) (ae y3 (ret (wr (y4,aj.2,n1.1,aj.1,n2))) (ret (wr (y4,aj.2,aj.1,n1.2)))))) no) (opt (aw n1.1 d.2.1) λaj=>ae y0 (ae y1 (ret (wr (y4,aj.2,n1.1,n3,n2.1,aj.1))) (ae y2 (ret (wr (y4,aj.2,n1.1,n3,aj.1,n2.2))) (ae y3 (ret (wr (y4,aj.2,n1.1,aj.1,n2))) (ret (wr (y4,aj.2,aj.1,n1.2)))))) no)))) no) (ret (wn ((d.1,y5),d.2)))
def abw:=bw (abv aS) 2000
def alr (eB:LT sk Hz)(x0:Int)(x1:Int)(x2:Int)(x3:Int)(x4:Bool):Pg azM:=opt (eB (0,x4,x0,x1,x2,x3)) λd=>ret (d.2.2,d.2.1)
def yu:=λx0 x1 x2 x3 x4=>(alr abw x0 x1 x2 x3 x4).val
abbrev ZE:=bM×(LT sk Hz)
def als (p:ZE):KK:=⟨[dD p.1],⟨[⟨2,(1::2::5::rg 7 11 []),[]⟩],[fY 2 1 sk aqr p.2],[0],[],(some ⟨0,(rg 0 4 (rg 5 13 [])),[]⟩)⟩,1,134⟩
theorem aEF (p:ZE):LI (als p) 2 sk aqr (abv p.1):=λ_ d c K=>by kernel_rfl
theorem aNE (p:ZE):D2 (als p) azL (lf af9) λb=>alr p.2 b.1.1 b.1.2.1 b.1.b.1 b.1.b.2 b.2:=λb=>by kernel_rfl
abbrev alu:ZE:=(aS,abw)
theorem alv [ax]:SC (ZD yu):=sc (kS (k:=als alu) (.c dI (.nil _)) [2] [] ⟨kL (aEF alu),trivial⟩ trivial (aNE alu))
def azN:=qa (pu nil nil)
def aga:=qe (res (pu (aa (cu arT ar1)) (pu nil nil)))
abbrev alw:=aga.B
abbrev Bn:=Option alw
def Ks (g:Bn):Ct:=(84,FC azN (lf aga) (λ_=>g))
def alx:Pg alw:=ret ()
def oy:Option alw:=(alx).val
theorem aNF:D0 [] 84 azN (lf aga) λb=>alx:=λb=>by kernel_rfl
theorem QI [ax]:SC (Ks oy):=s0 (.nil _) aNF
def auO:=qa (pl arZ nil)
def abx:=qe aVv
abbrev auP:=abx.B
abbrev LC:=Int->Int->Int->Int->Option auP
def agb (g:LC):Ct:=(182,FC auO (lf abx) (λb=>g b.1 b.2.1 b.b.1 b.b.2))
def agc (pO:QH)(x0:Int)(x1:Int)(x2:Int)(x3:Int):Pg auP:=opt (pO x0 x1 x2 x3 false) λd=>ret (d.1.1,wI (0-d.1.2.1),wI (0-d.1.2.2.1),wI (0-d.1.2.2.2))
def BM:=λx0 x1 x2 x3=>(agc yu x0 x1 x2 x3).val
theorem aKb:∀pO,D0 [ZD pO] 182 auO (lf abx) λb=>agc pO b.1 b.2.1 b.b.1 b.b.2:=λ_ b=>by kernel_rfl
theorem auQ [ax]:SC (agb BM):=s0 (.c alv (.nil _)) (aKb yu)
def aqs:=qa (pl ae2 nil)
def V5:=qe aVp
abbrev aqt:=V5.B
abbrev mG:=NI->Int->Option aqt
def rA (g:mG):Ct:=(154,FC aqs (lf V5) (λb=>g b.1 b.2))
def oz:=qs (st (pr (us 1 (c ai (cu ayU (us 1 (cu aMg (cu Y3 (us 2 aPg))))))) (pl (c oc akk) nil)))
def ah7:=qs (st (pr (us 1 (c ai (cu ayU (us 1 (cu aMg (cu Y3 (us 2 aI0))))))) (pl (c oc akk) nil)))
abbrev CO:=ah7.B
def ah8 {ρ:Type}:=@ef CO ((.ex 0)) ah7 ρ
def Sl (d:oz.B):PL oz CO:=let n4:=d.2.2;let n3:=d.2.1;let n2:=d.1.1;let n1:=d.1.2;let y0:=wI (n2+n1);let y1:=decide (n1<3);ae y1 (ae (decide (y0>=0)) (ae (decide (y0<24)) (ae (bg y0 24) (ae (bg n1 3) (ae (n1==2) (ret (wr ((n2,wI (n1+1)),n3,n4.1,n4.2.1,n3 (ws y0)))) (ae (n1==1) (ret (wr ((n2,wI (n1+1)),n3,n4.1,n3 (ws y0),n4.2.2))) (ret (wr ((n2,wI (n1+1)),n3,n3 (ws y0),n4.2))))) no) no) (ret (wr ((n2,wI (n1+1)),d.2)))) (ret (wr ((n2,wI (n1+1)),d.2)))) (ret (wn ((n2,n1,y1),d.2)))
def Sn:=bw (Sl) 2000
def aby (eB:LT oz CO)(x0:Nat->Int)(x1:Int):Pg aqt:=opt (eB ((x1,0),x0,0,0,0)) λd=>ret d.2.2
def eX:=λx0 x1=>(aby Sn x0 x1).val
abbrev P6:=(LT oz CO)
def abz (p:P6):KK:=⟨[],⟨[⟨3,(0::3::6::7::rg 9 8 (rg 19 8 [17,18])),[]⟩],[fY 3 0 oz ah8 p],[],[],(some ⟨0,(rg 0 4 (rg 5 22 [])),[]⟩)⟩,0,154⟩
theorem axL (p:P6):LI (abz p) 3 oz ah8 (Sl):=λ_ d c K=>by kernel_rfl
theorem aGv (p:P6):D2 (abz p) aqs (lf V5) λb=>aby p b.1 b.2:=λb=>by kernel_rfl
abbrev abA:P6:=Sn
theorem uY [ax]:SC (rA eX):=sc (kS (k:=abz abA) (.nil _) [3] [] ⟨kL (axL abA),trivial⟩ trivial (aGv abA))
def aqu:=qa (dp (c lW aU9) λa=>(cl (cl (gs a.b.1 ot) nil) nil))
def V6:=qe aVw
abbrev abB:=V6.B
abbrev zB:=NI->Int->Nat->NI->Bool->Option abB
def Dn (g:zB):Ct:=(32,uV 2 [.i .i64] (FC aqu (lf V6) (λb=>g b.1.1 b.1.2.1 b.1.b.1 b.2 b.1.b.2)))
def oA:=qs (st (dp (us 1 (c ai (c IJ (cu TN (us 2 (cu DT (us 3 (c IJ (c ai aPg))))))))) λa=>(pl (c (so (cl (gs a.2.1.1 ot) nil)) NG) nil)))
def aBv:=qs (st (pr (us 1 (c ai (c IJ (cu TN (us 2 (cu DT (us 3 (c IJ (c ai aI0))))))))) (pl (c IM NG) nil)))
abbrev CP:=(aUw×NI×NI×NI)
def ah9 {ρ:Type}(x:CP)(K:AX->St->Option ρ):Option ρ:=(λd=>K (.ex 0) (aBv.em (d.1,(d.1.2.1.1,d.2.1),d.b))) x
def So (d:oA.B):PL oA CP:=let n2:=d.1.2.2;let n3:=n2.2.2;let n1:=(d.1.1,d.1.2.1,n2.1,n2.2.1,wI (n3+1));let y0:=wI (d.1.1+n3);let y1:=ws y0;let y2:=decide (n3<n2.2.1);ae y2 (ae (bg n3 n2.1.1) (ae (decide (y0>=0)) (ae (decide (y0<24)) (ae (bg y0 24) (ae (true&&wd (0+y1*1+1) 24) (ret (wr (n1,d.2.1,λj=>bif ww j y1 then d.2.1 (ws n3) else d.2.2.1 j,d.2.2.2))) no) no) (ret (wr (n1,d.2)))) (ret (wr (n1,d.2)))) no) (ret (wn ((d.1.1,d.1.2.1,n2.1,n2.2.1,n3,y2),d.2)))
def Sp:=bw (So) 2000
def abC (eB:LT oA CP)(x0:Nat->Int)(x1:Int)(x2:Nat)(x3:Nat->Int)(w0:Bool):Pg abB:=ae (ww x2 x2) (opt (eB ((x1,(x2,w0),(x2,w0),wl x2,0),x3,x0,λx=>0)) λd=>ret d.2.2.1) no
def fI:=λx0 x1 x2 x3 w0=>(abC Sp x0 x1 x2 x3 w0).val
abbrev P7:=(LT oA CP)
def abD (p:P7):KK:=⟨[],⟨[⟨2,(0::4::5::7::8::9::rg 13 10 (rg 25 6 [23,24])),[]⟩],[fY 2 1 oA ah9 p],[],[],(some ⟨0,(rg 0 6 (rg 7 24 [])),[]⟩)⟩,1,32⟩
theorem axM (p:P7):LI (abD p) 2 oA ah9 (So):=λ_ d c K=>by kernel_rfl
theorem aGw (p:P7):D2 (abD p) aqu (lf V6) λb=>abC p b.1.1 b.1.2.1 b.1.b.1 b.2 b.1.b.2:=λb=>by kernel_rfl
abbrev abE:P7:=Sp
theorem HA [ax]:SC (Dn fI):=sc (Sound.nil 2 [.i .i64]<|kS (k:=abD abE) (.nil _) [2] [] ⟨kL (axM abE),trivial⟩ trivial (aGw abE))
end Go.Proofs.YtldgljclcgaibaaGreat
