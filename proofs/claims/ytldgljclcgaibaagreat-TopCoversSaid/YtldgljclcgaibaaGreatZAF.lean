/-
  Parts of the proof: SLB SLC SLD SLE SLF SLH Q1
-/
import Derived.Test.YtldgljclcgaibaaGreatZAE
import Derived.Shelf.Spec.SlicesInsertGrow
open Nat renaming beq→z9,ble→wl,blt→v9
open Int renaming toNat→z4,ofNat→wr,fdiv→v4,tdiv→t8
open Sum renaming inl→ww,inr→ws,elim→t9
open BitVec renaming ofInt→wd,toNat→v6
open List renaming append→ul,range→t5
set_option linter.unusedVariables false
set_option linter.unusedSimpArgs false
namespace Go.Proofs.YtldgljclcgaibaaGreat
open Go.RowKit Go.Lib Go.Ab
theorem aad {P:Program}(w:World)(dT sT ty e:TypeId)(z b o aSK a3j:Nat)(a:Addr)(aNE a1a:Nat)(cs:List Value)(hu:P.underlying dT=some (.slice e))(hz:iz P e=some z)(hn:cs.length=Nat.min aNE aSK*z)
  (a3k:∀j v,cs[j]? =some v->w.cell? (a.add j)=some v)(hc:∀j,j<cs.length->(w.cell? ⟨b,o+j,none⟩).isSome=true)(hf:∀j,j<cs.length->w.frozen? ⟨b,o+j,none⟩=false)(h1:∀v∈cs,v.oneCell'=true):
  (Builtin.copy_ #[dT,sT] ty #[.slice (some ⟨b,o,none⟩) aSK a3j,.slice (some a) aNE a1a]).run P w=.ok (goInt (Nat.min aNE aSK)) (w.setCells b o cs):=by
 have hl:=run_firstCells_some (P:=P) w z (Nat.min aNE aSK) a aNE a1a cs hn a3k;have hst:=run_storeCells_cells (P:=P) b o cs 0 w (by simpa using hc) (by simpa using hf) h1;simp[Builtin.copy_,run_underlying hu,Builtin.lenOf,Ab.run_sizeOf hz,hl,hst]
theorem uT:Tryz.prog.underlying 140=some (.slice 42):=by kernel_rfl
theorem uE:iz Tryz.prog 42=some 9:=by kernel_rfl
set_option maxHeartbeats 4000000 in
set_option maxRecDepth 100000 in
theorem aQQ (b off n c i vb DB vc:Nat)(cs vs:List Value)(w:World)(hi:i<n)(SY:n+1<=c)(hvb:vb=b->DB+9<=off∨off+(n+1)*9<=DB)(Es:cs.length=n*9)(hvl:vs.length=9)(a42:n+1<=9223372036854775807)
  (Kg:∀j v,cs[j]? =some v->w.cell? ⟨b,off+j,none⟩=some v)(hsp:∀j,j<(n+1)*9->(w.cell? ⟨b,off+j,none⟩).isSome=true)(hfz:∀j,j<(n+1)*9->w.frozen? ⟨b,off+j,none⟩=false)
  (hvs:∀j v,vs[j]? =some v->w.cell? ⟨vb,DB+j,none⟩=some v)(h1c:∀v∈cs,v.oneCell'=true)(h1v:∀v∈vs,v.oneCell'=true)
  (hov:∀cb,(callFunc 145 #[.slice (some ⟨vb,DB,none⟩) 1 vc,.slice (some ⟨b,off+(i+1)*9,none⟩) (n-i) cb]).run Tryz.prog w=.ok (.value (.bool false)) w):
  Calls Tryz.prog 97 #[.slice (some ⟨b,off,none⟩) n c,.int .i64 i,.slice (some ⟨vb,DB,none⟩) 1 vc] w λe w'=>
   e=.returned (.slice (some ⟨b,off,none⟩) (n+1) c)/\w'=(w.drew.setCells b (off+(i+1)*9) (cs.drop (i*9))).setCells b (off+i*9) vs:=by
 have mixed:=mixed;have hz2:¬((i:Int)=(n:Int)):=by omega
 have hdl:(cs.drop (i*9)).length=(n-i)*9:=by rw[asJ,Es];omega
 have hw1:IntKind.i64.wrap ((i:Int)+1)=(i:Int)+1:=by rw[IntKind.wrap_i64];omega
 have hw2:IntKind.i64.wrap ((n:Int)+1)=(n:Int)+1:=by rw[IntKind.wrap_i64];omega
 have hb1:(0:Int)<=(i:Int)+1:=by omega
 have hin:i<=n:=by omega
 have htn:((i:Int)+1).toNat=i+1:=by omega
 have FF:¬(c=i+1):=by omega
 have hb3:(i:Int)<=(n:Int)+1:=by omega
 have hb4:¬(c=i):=by omega
 have hb5:¬((c:Int)<(n:Int)+1):=by omega
 have a1b:∀ty dc sc,(Builtin.copy_ #[140,140] ty #[.slice (some ⟨b,off+(i+1)*9,none⟩) (n-i) dc,.slice (some ⟨b,off+i*9,none⟩) (n+1-i) sc]).run Tryz.prog w.drew=.ok (goInt (Nat.min (n+1-i) (n-i))) (w.drew.setCells b (off+(i+1)*9) (cs.drop (i*9))):=λty dc sc=>
  aad w.drew _ _ ty 42 9 b (off+(i+1)*9) (n-i) dc ⟨b,off+i*9,none⟩ (n+1-i) sc (cs.drop (i*9)) uT uE (by rw[hdl];simp only[Nat.min_def];split<;>omega)
   (λj v hj=>by rw[Addr.add_lit,A6];exact Kg (i*9+j) v (by rwa [SM] at hj))
   (λj hj=>by rw[A6];exact hsp _ (by omega)) (λj hj=>by rw[A6];exact hfz _ (by omega)) (λv hv=>h1c v (List.mem_of_mem_drop hv))
 obtain⟨W1,hW1⟩:∃W1,W1=w.drew.setCells b (off+(i+1)*9) (cs.drop (i*9)):=⟨_,rfl⟩
 have a3l:∀k,k<(n+1)*9->(W1.cell? ⟨b,off+k,none⟩).isSome=true:=λk hk=>by
  rw[hW1];exact Go.Proofs.isSome_setCells b _ _ _ (λj hj=>by rw[A6];exact hsp _ (by omega)) _ (hsp k hk)
 have a3m:∀(W:World),(∀x,W.cell? x=W1.cell? x)->(∀x,W.frozen? x=W1.frozen? x)->∀ty dc,(Builtin.copy_ #[140,140] ty #[.slice (some ⟨b,off+i*9,none⟩) (n+1-i) dc,.slice (some ⟨vb,DB,none⟩) 1 vc]).run Tryz.prog W=.ok (goInt (Nat.min 1 (n+1-i))) (W.setCells b (off+i*9) vs):=λW hWc hWf ty dc=>
  aad W _ _ ty 42 9 b (off+i*9) (n+1-i) dc ⟨vb,DB,none⟩ 1 vc vs uT uE (by rw[hvl];simp only[Nat.min_def];split<;>omega)
   (λj v hj=>by
    have hj9:=(lA.1 hj).1
    rw[Addr.add_lit,hWc,hW1,World.cell?_setCells_out b _ _ _ _ (λh _=>by
     have:=hvb h;show DB+j<_∨_<=DB+j;omega)]
    exact hvs j v hj)
   (λj hj=>by rw[hWc,A6];exact a3l _ (by omega)) (λj hj=>by rw[hWf,hW1,World.frozen?_setCells,A6];exact hfz _ (by omega)) h1v
 rw[<-hW1] at a1b;go_enter Tryz.func97,Tryz.ntmps97
 go_wp2_with (simp only[hov])
 go_region_law_o (refine step_copy_runI rfl _ _ 140 140 rfl _ _ (by simp[Act.eval,Act.put]) (by simp[Act.eval,Act.put]) (a1b _ _ _) ?_)
 go_wp2_with (at_builtin;refine wpList_copy_runI _ rfl _ _ 140 140 rfl _ _ rfl rfl (a3m _ (λ_=>rfl) (λ_=>rfl) _ _) ?_)
 go_ret
 first|exact⟨rfl,rfl⟩|exact⟨rfl,by rw[hW1]⟩
set_option maxHeartbeats 4000000 in
set_option maxRecDepth 100000 in
theorem aNF (base:Option Addr)(n c vb DB vc:Nat)(w w2:World)(v2:Value)
  (hrz:∀ty,(Builtin.append_ #[140,140] ty #[.slice base n c,.slice (some ⟨vb,DB,none⟩) 1 vc]).run Tryz.prog w=.ok v2 w2):
  Calls Tryz.prog 97 #[.slice base n c,.int .i64 n,.slice (some ⟨vb,DB,none⟩) 1 vc] w λe w'=>e=.returned v2/\w'=w2:=by
 have mixed:=mixed;go_enter Tryz.func97,Tryz.ntmps97
 go_wp2_with (at_builtin;refine Lib.wpList_append_run _ rfl _ _ _ _ rfl _ _ rfl rfl _ _ (hrz _) ?_)
 all_goals (go_ret;exact⟨rfl,rfl⟩)
theorem iE:∃i z,Tryz.prog.info? 42=some i/\i.zero=some z/\i.size=9/\i.bytes=72/\z.cells.size=9:=by
 have h:(Tryz.prog.info? 42).map (λi=>(i.size,i.bytes,(i.zero.map λz=>z.cells.size)))=some (9,72,some 9):=by kernel_rfl
 cases hi:Tryz.prog.info? 42 with
 |none=>rw[hi] at h;cases h
 |some i=>
  rw[hi] at h;simp only[SP,hM,qT] at h;obtain⟨h1,h2,h3⟩:=h;cases hz:i.zero with
  |none=>rw[hz] at h3;cases h3
  |some z=>rw[hz] at h3;exact⟨i,z,rfl,hz,h1,h2,by simpa using h3⟩
theorem uI:Tryz.prog.underlying 3=some (.int .i64):=by kernel_rfl
set_option maxHeartbeats 4000000 in
set_option maxRecDepth 100000 in
theorem aTE (b off n c i vb DB vc:Nat)(cs vs:List Value)(w:World)(hi:i<n)(hnc:n<=c)(SY:c<n+1)(azN:(n+1)*72<=140737488355328)(Es:cs.length=n*9)(hvl:vs.length=9)
  (Kg:∀j v,cs[j]? =some v->w.cell? ⟨b,off+j,none⟩=some v)(hvs:∀j v,vs[j]? =some v->w.cell? ⟨vb,DB+j,none⟩=some v)(h1c:∀v∈cs,v.oneCell'=true)(h1v:∀v∈vs,v.oneCell'=true):
  ∃G DD,n+1<=G/\DD.size=G*9/\(∀j v,j<i*9->cs[j]? =some v->DD[j]? =some v)/\
  Calls Tryz.prog 97 #[.slice (some ⟨b,off,none⟩) n c,.int .i64 i,.slice (some ⟨vb,DB,none⟩) 1 vc] w λe w'=>
   e=.returned (.slice (some ⟨w.heap.size,0,none⟩) (n+1) G)/\
   w'=(((w.alloc (.cells DD 42)).drew.setCells w.heap.size (i*9) vs).drew).setCells w.heap.size ((i+1)*9) (cs.drop (i*9)):=by
 have mixed:=mixed;obtain⟨i0,z0,hi0,NV,hzs,hzb,hzl⟩:=iE;have hz2:¬((i:Int)=(n:Int)):=by omega
 have hz3:(c:Int)<(n:Int)+1:=by omega
 have hbw:b<w.heap.size:=block_lt_of_cell (Kg 0 _ (kt (by omega)));have hvw:vb<w.heap.size:=block_lt_of_cell (hvs 0 _ (kt (by omega)));have hkk:(n:Int)+1-(i:Int)=((n+1-i:Nat):Int):=by omega
 have hik:i+(n+1-i)=n+1:=by omega
 have htl:(cs.take (i*9)).length=i*9:=by rw[List.length_take];omega
 have hold:(Builtin.firstCells i0.size i (.slice (some ⟨b,off,none⟩) i c)).run Tryz.prog w.drew=.ok (cs.take (i*9)).toArray w.drew:=by
  rw[hzs]
  exact run_firstCells_some w.drew 9 i ⟨b,off,none⟩ i c (cs.take (i*9)) htl (λj v hj=>by
   rw[Addr.add_lit];rw[abH] at hj;split at hj
   .exact Kg j v hj
   .cases hj)
 have hrz:∀ty,(Builtin.append_ #[140,3] ty #[.slice (some ⟨b,off,none⟩) i c,.int .i64 ((n:Int)+1-(i:Int))]).run Tryz.prog w=
   .ok (.slice (some ⟨w.heap.size,0,none⟩) (n+1) (grownCap w (n+1) c 42)) (w.drew.alloc (.cells ((cs.take (i*9)).toArray++Builtin.zeroCells z0.cells (n+1-i)++Builtin.zeroCells z0.cells (grownCap w (n+1) c 42-(n+1))) 42)):=λty=>by
  have h:=Lib.run_append_grow_zeros w 140 3 ty 42 i0 _ .i64 .i64 uT uI hi0 NV (some ⟨b,off,none⟩) i c (cs.take (i*9)) hold (n+1-i) (by omega) (by omega) (by omega) (by omega) (by rw[hzb];omega) (by rw[hzb,hik];exact growslice_fits SY azN);rw[hik] at h;rw[hkk];exact h
 have hGn:n+1<=grownCap w (n+1) c 42:=grownCap_ge w _ _ _;obtain⟨G,hG⟩:∃G,G=grownCap w (n+1) c 42:=⟨_,rfl⟩;obtain⟨DD,aSL⟩:∃DD:Array Value,DD=(cs.take (i*9)).toArray++Builtin.zeroCells z0.cells (n+1-i)++Builtin.zeroCells z0.cells (G-(n+1)):=⟨_,rfl⟩;rw[<-hG] at hrz hGn;rw[<-aSL] at hrz
 have hRs:DD.size=G*9:=by
  rw[aSL];simp only[Array.size_append,List.size_toArray,htl,size_zeroCells,hzl];omega
 refine⟨G,DD,hGn,hRs,λj v hj hv=> ?_,?_⟩
 .rw[aSL,Array.getElem?_append_left (by simp[htl];omega),Array.getElem?_append_left (by simp[htl];omega)];simp only[List.getElem?_toArray];rw[abH,if_pos hj];exact hv
 have hRl:(n+1)*9<=DD.size:=by rw[hRs];exact wh _ hGn
 obtain⟨W1,hW1⟩:∃W1,W1=w.drew.alloc (.cells DD 42):=⟨_,rfl⟩;rw[<-hW1] at hrz
 have hN:∀j,j<(n+1)*9->(W1.cell? ⟨w.heap.size,j,none⟩).isSome=true:=λj hj=>by
  rw[hW1,World.cell?_alloc_at (w:=w.drew) DD _ w.heap.size j rfl,aiv (by omega)];rfl
 have hNf:∀j,W1.frozen? ⟨w.heap.size,j,none⟩=false:=λj=>by rw[hW1];exact World.frozen?_alloc_at (w:=w.drew) DD _ w.heap.size j rfl
 have hOb:∀j v,w.cell? ⟨b,j,none⟩=some v->W1.cell? ⟨b,j,none⟩=some v:=λj v h=>by rw[hW1,World.cell?_alloc_past (w:=w.drew) _ b j hbw];exact h
 have hOv:∀j v,w.cell? ⟨vb,j,none⟩=some v->W1.cell? ⟨vb,j,none⟩=some v:=λj v h=>by rw[hW1,World.cell?_alloc_past (w:=w.drew) _ vb j hvw];exact h
 have a3n:∀(W:World),(∀x,W.cell? x=W1.cell? x)->(∀x,W.frozen? x=W1.frozen? x)->∀ty dc,(Builtin.copy_ #[140,140] ty #[.slice (some ⟨w.heap.size,i*9,none⟩) (n+1-i) dc,.slice (some ⟨vb,DB,none⟩) 1 vc]).run Tryz.prog W=.ok (goInt (Nat.min 1 (n+1-i))) (W.setCells w.heap.size (i*9) vs):=λW hWc hWf ty dc=>
  aad W _ _ ty 42 9 w.heap.size (i*9) (n+1-i) dc ⟨vb,DB,none⟩ 1 vc vs uT uE (by rw[hvl];simp only[Nat.min_def];split<;>omega)
   (λj v hj=>by rw[Addr.add_lit,hWc];exact hOv _ v (hvs j v hj))
   (λj hj=>by rw[hWc];exact hN _ (by omega)) (λj hj=>by rw[hWf];exact hNf _) h1v
 have hGi:¬(G=i):=by omega
 have a43:¬(G=i+1):=by omega
 have hci:¬(c=i):=by omega
 have hbN:b≠w.heap.size:=by omega
 have hdl:(cs.drop (i*9)).length=(n-i)*9:=by rw[asJ,Es];omega
 have a1c:∀(W:World),(∀x,W.cell? x=(W1.setCells w.heap.size (i*9) vs).cell? x)->(∀x,W.frozen? x=(W1.setCells w.heap.size (i*9) vs).frozen? x)->∀ty dc sc,(Builtin.copy_ #[140,140] ty #[.slice (some ⟨w.heap.size,(i+1)*9,none⟩) (n-i) dc,.slice (some ⟨b,off+i*9,none⟩) (n-i) sc]).run Tryz.prog W=.ok (goInt (Nat.min (n-i) (n-i))) (W.setCells w.heap.size ((i+1)*9) (cs.drop (i*9))):=λW hWc hWf ty dc sc=>
  aad W _ _ ty 42 9 w.heap.size ((i+1)*9) (n-i) dc ⟨b,off+i*9,none⟩ (n-i) sc (cs.drop (i*9)) uT uE (by rw[hdl];simp only[Nat.min_def];split<;>omega)
   (λj v hj=>by
    rw[Addr.add_lit,hWc,World.cell?_setCells_out _ _ _ _ _ (λh _=>absurd h hbN),A6];exact hOb _ v (Kg (i*9+j) v (by rwa [SM] at hj)))
   (λj hj=>by rw[hWc];exact Go.Proofs.isSome_setCells _ _ _ _ (λt ht=>hN _ (by omega)) _ (hN _ (by omega)))
   (λj hj=>by rw[hWf,World.frozen?_setCells];exact hNf _) (λv hv=>h1c v (List.mem_of_mem_drop hv))
 subst hW1;have hE1:∀x,((w.alloc (.cells DD 42)).drew).cell? x=(w.drew.alloc (.cells DD 42)).cell? x:=λx=>rfl;have hE2:∀x,((w.alloc (.cells DD 42)).drew).frozen? x=(w.drew.alloc (.cells DD 42)).frozen? x:=λx=>rfl;have hF1:∀x,(((w.alloc (.cells DD 42)).drew.setCells w.heap.size (i*9) vs).drew).cell? x=((w.drew.alloc (.cells DD 42)).setCells w.heap.size (i*9) vs).cell? x:=λx=>rfl;have hF2:∀x,(((w.alloc (.cells DD 42)).drew.setCells w.heap.size (i*9) vs).drew).frozen? x=((w.drew.alloc (.cells DD 42)).setCells w.heap.size (i*9) vs).frozen? x:=λx=>rfl;have hw1:IntKind.i64.wrap ((i:Int)+1)=(i:Int)+1:=by rw[IntKind.wrap_i64];omega
 have hw2:IntKind.i64.wrap ((n:Int)+1)=(n:Int)+1:=by rw[IntKind.wrap_i64];omega
 have hw3:IntKind.i64.wrap ((n:Int)+1-(i:Int))=(n:Int)+1-(i:Int):=by rw[IntKind.wrap_i64];omega
 have hb1:(0:Int)<=(i:Int)+1:=by omega
 have hin:i<=n:=by omega
 have htn:((i:Int)+1).toNat=i+1:=by omega
 have hb3:(i:Int)<=(n:Int):=by omega
 clear hkk hik hold aSL hG hRl hRs
 go_enter Tryz.func97,Tryz.ntmps97
 go_wp2_with (first
  |(at_builtin;refine Lib.wpList_append_run _ rfl _ _ _ _ rfl _ _ rfl rfl _ _ (hrz _) ?_)
  |(at_builtin;refine wpList_copy_runI _ rfl _ _ 140 140 rfl _ _ rfl rfl (a3n _ hE1 hE2 _ _) ?_)
  |(at_builtin;refine wpList_copy_runI _ rfl _ _ 140 140 rfl _ _ rfl rfl (a1c _ (λ_=>rfl) (λ_=>rfl) _ _ _) ?_))
 go_region_law_o (refine step_copy_runI rfl _ _ 140 140 rfl (.slice (some ⟨w.heap.size,(i+1)*9,none⟩) (n-i) (G-(i+1))) (.slice (some ⟨b,off+i*9,none⟩) (n-i) (c-i)) (by simp[Act.eval,Act.put]) (by simp[Act.eval,Act.put]) (a1c _ hF1 hF2 3 (G-(i+1)) (c-i)) ?_)
 go_wp2
 go_ret
 exact⟨rfl,rfl⟩
theorem auT {P:Program}{ops:Array Oper}{o:Oper}{a:Act}{w:World}{K:Act->World->Prop}{Q:Exit->Act->World->Prop}{E:Prop}
  (hg:o.guard=none)(d x:Operand)(dT sT:TypeId)(qv:o.op=Op.call {callee:=Callee.builtin Builtin.append,args:=#[d,x],argTypes:=#[dT,sT]})
  (v u:Value)(hd:a.eval d=v)(hx:a.eval x=u){v':Value}{w':World}(hr:(Builtin.append_ #[dT,sT] o.type #[v,u]).run P w=.ok v' w')(hK:K (a.put o.dst v') w'):
  if Region.wanted o (yielded ops a.tmps)=true then Oper.wp P o a w K Q else E:=by
 have hw:Region.wanted o (yielded ops a.tmps)=true:=by simp[Region.wanted,hg]
 rw[if_pos hw];unfold Oper.wp;simp[execOp,qv,resolve,invoke,builtin,hd,hx,hr,Result.andThen]
 exact hK
theorem aFj {P:Program}(w:World){o:Oper}{a:Act}{K:Act->World->Prop}{Q:Exit->Act->World->Prop}(d:Operand)(t:TypeId)
  (ho:o.op=.call {callee:=.builtin .clear,args:=#[d],argTypes:=#[t]})(v:Value)(hd:a.eval d=v){v':Value}{w':World}
  (hr:(Builtin.clear_ #[t] o.type #[v]).run P w=.ok v' w')(h:K (a.put o.dst v') w'):o.wp P a w K Q:=by
 unfold Oper.wp execOp;simp only[ho,resolve,invoke,builtin,Sem.run_bind,Sem.run_pure,Result.andThen_ok,List.map_toArray,List.map_cons,List.map_nil,hd,hr];exact h
theorem as5 {P:Program}(w:World){ops:Array Oper}{rest:List Oper}{o:Oper}{a:Act}{Q:Exit->Act->World->Prop}(hgd:o.guard=none)(d:Operand)(t:TypeId)
  (ho:o.op=.call {callee:=.builtin .clear,args:=#[d],argTypes:=#[t]})(v:Value)(hd:a.eval d=v){v':Value}{w':World}
  (hr:(Builtin.clear_ #[t] o.type #[v]).run P w=.ok v' w')(h:wpList P ops Q rest (a.put o.dst v') w'):wpList P ops Q (o::rest) a w:=
 wpList_plain hgd λ_ hK=>aFj w d t ho v hd hr (hK _ _ h)
set_option maxHeartbeats 4000000 in
set_option maxRecDepth 100000 in
theorem aIZ (base:Option Addr)(n c i:Nat)(w:World)(hi:i<=n)(hc:n<=c):
  Calls Tryz.prog 98 #[.slice base n c,.int .i64 i,.int .i64 i] w λe w'=>e=.returned (.slice base n c)/\w'=w:=by
 have mixed:=mixed;have h1:(i:Int)<=(n:Int):=by omega
 have h2:(n:Int)<=(c:Int):=by omega
 go_enter Tryz.func98,Tryz.ntmps98
 go_wp2
 all_goals (go_ret;exact⟨rfl,rfl⟩)
set_option maxHeartbeats 4000000 in
set_option maxRecDepth 100000 in
theorem aTF (b off n c i j:Nat)(w w2 w3:World)(hij:i<j)(hj:j<=n)(hc:n<=c)
  (hrz:∀ty,(Builtin.append_ #[140,140] ty #[.slice (some ⟨b,off,none⟩) i c,.slice (some (if c=j then⟨b,off,none⟩ else⟨b,off+j*9,none⟩)) (n-j) (c-j)]).run Tryz.prog w.drew=.ok (.slice (some ⟨b,off,none⟩) (i+(n-j)) c) w2)
  (Es:∀ty,(Builtin.clear_ #[140] ty #[.slice (some ⟨b,off+(i+(n-j))*9,none⟩) (n-(i+(n-j))) (c-(i+(n-j)))]).run Tryz.prog w2=.ok (.tuple #[]) w3):
  Calls Tryz.prog 98 #[.slice (some ⟨b,off,none⟩) n c,.int .i64 i,.int .i64 j] w λe w'=>e=.returned (.slice (some ⟨b,off,none⟩) (i+(n-j)) c)/\w'=w3:=by
 have mixed:=mixed;have h0:¬((i:Int)=(j:Int)):=by omega
 have h1:(i:Int)<=(j:Int):=by omega
 have h2:(j:Int)<=(n:Int):=by omega
 have h3:(n:Int)<=(c:Int):=by omega
 have h4:(i:Int)<=(c:Int):=by omega
 have h5:¬(c=i+(n-j)):=by omega
 go_enter Tryz.func98,Tryz.ntmps98
 go_wp2
 go_region_law_o (refine auT rfl _ _ 140 140 rfl _ _ (by simp[Act.eval,Act.put]) (by simp[Act.eval,Act.put];split<;>rfl) (hrz _) ?_)
 go_wp2_with (at_builtin;refine as5 _ rfl _ 140 rfl _ rfl (Es _) ?_)
 all_goals (go_ret;exact⟨rfl,rfl⟩)
set_option maxHeartbeats 4000000 in
set_option maxRecDepth 100000 in
theorem aQR (w:World):Calls Tryz.prog 166 #[.slice none 0 0] w λe w'=>e=.returned (.slice none 0 0)/\w'=w:=by
 have mixed:=mixed;have heq:∀w:World,(Go.binOp .eql 140 (.slice none 0 0) (.slice none 0 0)).run Tryz.prog w=.ok (.bool true) w:=λw=>by kernel_rfl
 go_enter Tryz.func166,Tryz.ntmps166
 go_wp2
 go_ret
 exact⟨rfl,rfl⟩
set_option maxHeartbeats 4000000 in
set_option maxRecDepth 100000 in
theorem az1 (a:Addr)(n c:Nat)(w w2:World)(v2:Value)
  (hrz:∀ty,(Builtin.append_ #[140,140] ty #[.slice (some ⟨w.heap.size,0,none⟩) 0 0,.slice (some a) n c]).run Tryz.prog (w.alloc (.cells #[] 42))=.ok v2 w2):
  Calls Tryz.prog 166 #[.slice (some a) n c] w λe w'=>e=.returned v2/\w'=w2:=by
 have mixed:=mixed;have heq:∀w:World,(Go.binOp .eql 140 (.slice (some a) n c) (.slice none 0 0)).run Tryz.prog w=.ok (.bool false) w:=λw=>by kernel_rfl
 go_enter Tryz.func166,Tryz.ntmps166
 go_wp2_with (at_builtin;refine Lib.wpList_append_run _ rfl _ _ _ _ rfl _ _ rfl rfl _ _ (hrz _) ?_)
 go_ret
 exact⟨rfl,rfl⟩
end Go.Proofs.YtldgljclcgaibaaGreat
namespace Go.Ab
def fk (l:List (Nat->Int)):List cS:=l.map (cS.i .i64)
def K4 (i:Nat)(g v:Nat->Int):Nat->Int:=λj=>cond (v9 j i) (g j) (cond (z9 j i) (v 0) (g (j-1)))
def Rj (i d:Nat)(g:Nat->Int):Nat->Int:=λj=>cond (v9 j i) (g j) (g (j+d))
theorem BT {l:List (Nat->Int)}(h:l.length=9)(J:Nat):∃g,l[J%9]? =some g/\iB (fk l) J=.f (.i .i64 (g (J/9))):=by
 have nC:J%9<l.length:=by rw[h];exact Nat.mod_lt _ (by omega)
 refine⟨l[J%9],kt nC,?_⟩;unfold iB fk;rw[afY,h,Ce,kt nC];rfl
theorem aTG {l m:List (Nat->Int)}(hl:l.length=9)(hm:m.length=9)(i J:Nat):
  iB (fk (List.zipWith (K4 i) l m)) J=if J<i*9 then iB (fk l) J else if J<(i+1)*9 then iB (fk m) (J-i*9) else iB (fk l) (J-9):=by
 obtain⟨g,hg,eg⟩:=BT hl J;obtain⟨v,hv,_⟩:=BT hm J;obtain⟨z,hz,ez⟩:=BT (l:=List.zipWith (K4 i) l m) (by simp[hl,hm]) J;have hz2:(List.zipWith (K4 i) l m)[J%9]? =some (K4 i g v):=by simp[List.getElem?_zipWith,hg,hv]
 rw[hz2] at hz;cases hz;rw[ez];by_cases h1:J<i*9
 .rw[if_pos h1,eg];have:v9 (J/9) i=true:=um.2 (by omega);simp only[K4,this,bo]
 .rw[if_neg h1];have e1:v9 (J/9) i=false:=af8 (by omega);by_cases h2:J<(i+1)*9
  .rw[if_pos h2];have e2:z9 (J/9) i=true:=beq_iff.2 (by omega);obtain⟨v',hv',ev⟩:=BT hm (J-i*9);have e3:(J-i*9)%9=J%9:=by omega
   have e4:(J-i*9)/9=0:=by omega
   rw[e3,hv] at hv';cases hv';rw[ev,e4];simp only[K4,e1,e2,bo,bq]
  .rw[if_neg h2];have e2:z9 (J/9) i=false:=beq_false (by omega);obtain⟨g',hg',ev⟩:=BT hl (J-9);have e3:(J-9)%9=J%9:=by omega
   have e4:(J-9)/9=J/9-1:=by omega
   rw[e3,hg] at hg';cases hg';rw[ev,e4];simp only[K4,e1,e2,bq]
theorem aI0 {l:List (Nat->Int)}(hl:l.length=9)(i d J:Nat):
  iB (fk (l.map (Rj i d))) J=if J<i*9 then iB (fk l) J else iB (fk l) (J+d*9):=by
 obtain⟨g,hg,eg⟩:=BT hl J;obtain⟨z,hz,ez⟩:=BT (l:=l.map (Rj i d)) (by simp[hl]) J;have hz2:(l.map (Rj i d))[J%9]? =some (Rj i d g):=by simp[hg]
 rw[hz2] at hz;cases hz;rw[ez];by_cases h1:J<i*9
 .rw[if_pos h1,eg];have:v9 (J/9) i=true:=um.2 (by omega);simp only[Rj,this,bo]
 .rw[if_neg h1];have e1:v9 (J/9) i=false:=af8 (by omega);obtain⟨g',hg',ev⟩:=BT hl (J+d*9);have e3:(J+d*9)%9=J%9:=by omega
  have e4:(J+d*9)/9=J/9+d:=by omega
  rw[e3,hg] at hg';cases hg';rw[ev,e4];simp only[Rj,e1,bq]
theorem Rk {l:List (Nat->Int)}(h:l.length=9)(n:Nat):aj.size [.a (.s n) (fk l)]=n*9:=by
 rw[aj.size_cons,aj.lp,Sg.lu,jH];show n*(fk l).length=n*9;unfold fk;rw[afY,h]
theorem as6 {l:List (Nat->Int)}(h:l.length=9){n j:Nat}(hj:j<n*9):aj.get [.a (.s n) (fk l)] j=iB (fk l) j:=by
 rw[aj.dF (by rw[Sg.lu];unfold fk;rw[afY,h];exact hj),Sg.o9]
theorem aNG [aA]{π:Pi}{w:World}{B s N:Nat}{c:Nat->CV}(h:∀j,j<N->∃v,cl w B (s+j)=some v/\(c j).rel π v):
  ∃cs:List Value,cs.length=N/\(∀j v,cs[j]? =some v->w.cell? ⟨B,s+j,none⟩=some v/\(c j).rel π v)/\∀v∈cs,v.oneCell'=true:=by
 have key:∀j v,((t5 N).map λj=>(cl w B (s+j)).getD undef)[j]? =some v->w.cell? ⟨B,s+j,none⟩=some v/\(c j).rel π v:=λj v hv=>by
  have hj:j<N:=by
   have:=(lA.1 hv).1;simpa using this
  obtain⟨u,hu,hr⟩:=h j hj;simp[hj,hu] at hv
  subst hv;exact⟨hu,hr⟩
 refine⟨(t5 N).map λj=>(cl w B (s+j)).getD undef,by simp,key,λv hv=> ?_⟩;obtain⟨i,hi⟩:=axE.1 hv;exact CV.Rf (key i v hi).2
theorem aI1 {w:World}{B i:Nat}{v:Value}(h:w.cell? ⟨B,i,none⟩=some v):∃t k,w.shape? B=some (t,k)/\k≠0:=by
 unfold World.cell? at h;simp only at h;cases hh:w.heap[B]? with
 |none=>rw[hh] at h;cases h
 |some x=>
  rw[hh] at h;cases x<;>simp only at h<;>first|(cases h;done)|skip
  rename_i cs t fz
  have:=(Array.getElem?_eq_some_iff.1 h).1;refine⟨t,cs.size,?_,by omega⟩;simp[World.shape?,hh]
variable [aA]
theorem aae {P:Program}{π:Pi}{w W:World}{h:List aj}{cs:List Ch}{out:List (Nat->Int)}{n cap B st q e b0:Nat}(ho:out.length=9)(hH:sf π (hC (h.map some)) (hZ (h.map some)) w)(jZ:∀b,π b≠none->b<h.length)
  (Kg:∀b,b<h.length->cs[b]? =some .my∨cs[b]? =some .kill)(Rg:b0<h.length)(hk0:cs[b0]? =some .kill)(hp:π b0=some (B,st,q,e))(hfr:cx w (Dz π h.length (SZ cs)) W)
  (p9:∀i,st<=i->i<e->(cl W B i).isSome=true/\fz W B i=false)(ham:A' W)(hc:∀J,J<n*9->∃v,cl W B (st+J)=some v/\(iB (fk out) J).rel π v)(hn:n<=cap)(hce:st+cap*9<=e):
  aIU P π w h ⟨.r (.c (.sl h.length (.k 0) (.s n) 9 true)),cs,[[.a (.s n) (fk out)]]⟩ (.returned (.slice (some ⟨B,st,none⟩) n cap)) W:=by
 have yG:=Rk ho n;have NV:hZ (h.map some) b0≠none:=by rw[Qn,kt Rg];simp
 have mz:n*9<=cap*9:=wh _ hn;refine ax7 (P:=P) (B:=B) (s:=st) (e:=e) hH jZ Kg hfr (by rw[yG];omega) p9 (λj hj=> ?_) (.inr ⟨b0,st,q,e,Rg,hk0,hp,cR _,cR _⟩) ham (λBP=>hH.lb b0 B st q e NV hp BP) λπ' hx uG=> ?_
 .rw[yG] at hj;rw[as6 ho hj];exact hc j hj
 .rw[yG] at uG;exact⟨B,st,n*9,e,uG,by simp[cG.val,Sz.val],λ_=>by simp[cG.val,Sz.val],.inr ⟨cap,hn,rfl,λ_=>by simpa[cG.val] using hce⟩⟩
theorem als {P:Program}{π:Pi}{w W:World}{h:List aj}{cs:List Ch}{out:List (Nat->Int)}{n cap B:Nat}(ho:out.length=9)(hH:sf π (hC (h.map some)) (hZ (h.map some)) w)(jZ:∀b,π b≠none->b<h.length)
  (Kg:∀b,b<h.length->cs[b]? =some .my∨cs[b]? =some .kill)(hB:w.heap.size<=B)(hfr:cx w (Dz π h.length (SZ cs)) W)
  (p9:∀i,i<cap*9->(cl W B i).isSome=true/\fz W B i=false)(ham:A' W)(hc:∀J,J<n*9->∃v,cl W B J=some v/\(iB (fk out) J).rel π v)(hn:n<=cap):
  aIU P π w h ⟨.r (.c (.sl h.length (.k 0) (.s n) 9 true)),cs,[[.a (.s n) (fk out)]]⟩ (.returned (.slice (some ⟨B,0,none⟩) n cap)) W:=by
 have yG:=Rk ho n;have mz:n*9<=cap*9:=wh _ hn;refine ax7 (P:=P) (B:=B) (s:=0) (e:=cap*9) hH jZ Kg hfr (by rw[yG];omega) (λi _ hi=>p9 i hi) (λj hj=> ?_) (.inl hB) ham (λBP=>cQ hH.am.sz hB) λπ' hx uG=> ?_
 .rw[yG] at hj;rw[as6 ho hj,gD];exact hc j hj
 .rw[yG] at uG;exact⟨B,0,n*9,cap*9,uG,by simp[cG.val,Sz.val],λ_=>by simp[cG.val,Sz.val],.inr ⟨cap,hn,rfl,λ_=>by simp[cG.val]⟩⟩
theorem alu {P:Program}{π:Pi}{w W:World}{h:List aj}{cs:List Ch}{out:List (Nat->Int)}{a:Option Addr}(ho:out.length=9)(hH:sf π (hC (h.map some)) (hZ (h.map some)) w)(jZ:∀b,π b≠none->b<h.length)
  (Kg:∀b,b<h.length->cs[b]? =some .my∨cs[b]? =some .kill)(hfr:cx w (Dz π h.length (SZ cs)) W)(ham:A' W):
  aIU P π w h ⟨.r (.c (.sl h.length (.k 0) (.s 0) 9 true)),cs,[[.a (.s 0) (fk out)]]⟩ (.returned (.slice a 0 0)) W:=by
 have yG:=Rk ho 0;refine ax7 (P:=P) (B:=w.heap.size) (s:=0) (e:=0) hH jZ Kg hfr (by rw[yG];omega) (λi _ hi=>by omega) (λj hj=>by rw[yG] at hj;omega) (.inl (cR _)) ham (λBP=>by omega) λπ' hx uG=> ?_;rw[yG] at uG;exact⟨w.heap.size,0,0*9,0,uG,by simp[cG.val,Sz.val],λ_=>by simp[cG.val,Sz.val],.inl ⟨rfl,a,rfl⟩⟩
theorem aDp {π:Pi}{w:World}{h:List aj}{l:List (Nat->Int)}{n b B st q e:Nat}(hl:l.length=9)(hH:sf π (hC (h.map some)) (hZ (h.map some)) w)(hb:h[b]? =some [.a (.s n) (fk l)])(hp:π b=some (B,st,q,e)):
  q=n*9/\st+n*9<=e/\(∀i,st<=i->i<e->(cl w B i).isSome=true/\fz w B i=false)/\∃cs:List Value,cs.length=n*9/\(∀j v,cs[j]? =some v->w.cell? ⟨B,st+j,none⟩=some v/\(iB (fk l) j).rel π v)/\∀v∈cs,v.oneCell'=true:=by
 have hz:hZ (h.map some) b=some (n*9):=by rw[Qn,hb];exact fe some (Rk hl n)
 obtain⟨B',s',e',fh,BP,k1,k2⟩:=hH.hp b _ hz;rw[hp] at fh;cases fh;refine⟨rfl,BP,k1,aNG λj hj=> ?_⟩;obtain⟨v,hv,hr⟩:=k2 j hj;rw[aDm hb (by rw[Rk hl];exact hj),as6 hl hj] at hr;exact⟨v,hv,hr⟩
end Go.Ab
namespace Go.Proofs.YtldgljclcgaibaaGreat
open Go.RowKit Go.Lib Go.Ab
variable [aA]
omit [aA] in
theorem as7 {P:Program}(w:World)(tS tR e:TypeId)(ht:P.underlying tS=some (.slice e))(size:Nat)(hz:∀w,(Go.sizeOf e).run P w=.ok size w)(B oa ob la ca lb cb:Nat)(hd:oa+la*size<=ob∨ob+lb*size<=oa):
  (Extern.SlicesOverlaps.overlaps #[tS,tS] #[tR] #[.slice (some ⟨B,oa,none⟩) la ca,.slice (some ⟨B,ob,none⟩) lb cb]).run P w=.ok (.bool false) w:=by
 change Sem.run P (α:=Value) (do
  let some t:=(#[tS,tS]:Array TypeId)[0]? |stuck "slices.overlaps: no parameter types"
  let .slice elem<-underlying t|stuck "slices.overlaps: slice type expected"
  let size<-sizeOf elem
  match(some ⟨B,oa,none⟩:Option Addr),(some ⟨B,ob,none⟩:Option Addr) with
  |some a,some b=>
   if la=0∨lb=0∨size=0 then pure (Value.bool false)
   else if a.block !=b.block&&(<-frozen a)&&(<-frozen b) then unsupported .addressObserved
   else do
    if a.block !=b.block then do
     noView a;noView b
     if<-mayBeOne a b then return Value.bool ((<-choose (.extern "sameAddr.stringBytes" 2))==1)
    pure (Value.bool (a.block==b.block&&a.off<b.off+lb*size&&b.off<a.off+la*size))
  |_,_=>pure (Value.bool false)) w=_
 by_cases h0:la=0∨lb=0∨size=0
 .simp[run_underlying ht,hz,h0]
 .simp[run_underlying ht,hz,h0,frozen,Sem.run]
  omega
omit [aA] in
theorem aKW {w:World}{vb DB vc b o lb cb:Nat}(hd:vb=b->DB+9<=o∨o+lb*9<=DB){va vb2:Value}(ha:w.cell? ⟨vb,DB,none⟩=some va)(hb:w.cell? ⟨b,o,none⟩=some vb2)(hfa:∀i,w.frozen? ⟨vb,i,none⟩=false):
  (callFunc 145 #[.slice (some ⟨vb,DB,none⟩) 1 vc,.slice (some ⟨b,o,none⟩) lb cb]).run Tryz.prog w=.ok (.value (.bool false)) w:=by
 rw[run_callFunc_extern Tryz.func145 (by kernel_rfl) (by kernel_rfl) (by kernel_rfl) (e:=Extern.SlicesOverlaps.overlaps #[140,140] #[4]) (by kernel_rfl)];obtain⟨tA,kA,sA,_⟩:=aI1 ha;obtain⟨tB,kB,sB,nB⟩:=aI1 hb;by_cases mz:vb=b
 .subst mz;have h2:=hd rfl;rw[as7 w 140 4 42 uT 9 (λw=>Ab.run_sizeOf uE w) vb DB o 1 vc lb cb (by omega)];rfl
 .rw[Lib.run_overlaps_apart w 140 4 42 uT 9 (λw=>Ab.run_sizeOf uE w) ⟨vb,DB,none⟩ ⟨b,o,none⟩ 1 vc lb cb mz tA tB kA kB sA sB nB (hfa DB) (hfa kA)];rfl
end Go.Proofs.YtldgljclcgaibaaGreat
set_option maxRecDepth 100000
set_option maxHeartbeats 4000000
namespace Go.Proofs.YtldgljclcgaibaaGreat
open Go.RowKit Go.Lib Go.Ab
theorem aG3 [aA]{gs vs9:List (Nat->Int)}(hg:gs.length=9)(hv9:vs9.length=9)(n i:Nat)(hi:i<=n)(azN:(n+1)*72<=140737488355328)(w2:Bool)(w:World)(π:Pi)(vs:Array Value)
  (ln:bu (AV.rel π) [.r (.c (.sl 0 (.k 0) (.s n) 9 true)),.r (.c (.f (.i .i64 (i:Int)))),.r (.c (.sl 1 (.k 0) (.s 1) 9 w2))] vs.toList)
  (hH:sf π (hC ([[.a (.s n) (fk gs)],[.a (.s 1) (fk vs9)]].map some)) (hZ ([[.a (.s n) (fk gs)],[.a (.s 1) (fk vs9)]].map some)) w)(jZ:∀b,π b≠none->b<2):
  Calls Tryz.prog 97 vs w (tu π w [[.a (.s n) (fk gs)],[.a (.s 1) (fk vs9)]] ⟨.r (.c (.sl 2 (.k 0) (.s (n+1)) 9 true)),[.kill,.my],[[.a (.s (n+1)) (fk (List.zipWith (K4 i) gs vs9))]]⟩):=by
 obtain⟨y1,y2,y3,hvt,r1,r2,r3⟩:∃y1 y2 y3,vs.toList=[y1,y2,y3]/\(AV.r (.c (.sl 0 (.k 0) (.s n) 9 true))).rel π y1/\(AV.r (.c (.f (.i .i64 (i:Int))))).rel π y2/\(AV.r (.c (.sl 1 (.k 0) (.s 1) 9 w2))).rel π y3:=by
  match hl:vs.toList,ln with
  | [y1,y2,y3],⟨a,b,c,_⟩=>exact⟨y1,y2,y3,rfl,a,b,c⟩
  | [],h=>exact h.elim
  | [_],⟨_,h⟩=>exact h.elim
  | [_,_],⟨_,_,h⟩=>exact h.elim
  |_::_::_::_::_,⟨_,_,_,h⟩=>exact h.elim
 have hvt:vs=#[y1,y2,y3]:=by rw[<-akY];exact hvt
 subst hvt;have r2:y2=.int .i64 (i:Int):=r2;subst r2;obtain⟨B,st,q,e,hb,_,_,hx⟩:=r1;obtain⟨vB,vst,vq,ve,hvb,_,_,hvx⟩:=r3;obtain⟨rfl,hle,p9,cs,Es,Kg,h1c⟩:=aDp (b:=0) hg hH rfl hb;obtain⟨rfl,a44,a13,vl,hvl,hvs,h1v⟩:=aDp (b:=1) hv9 hH rfl hvb
 obtain⟨aaf,a4s,rfl,_⟩:∃aaf,1<=aaf/\y3=.slice (some ⟨vB,vst,none⟩) 1 aaf/\True:=by
  rcases hvx with⟨h,_⟩| ⟨aaf,h1,h2,_⟩
  .cases h
  .exact⟨aaf,h1,h2,trivial⟩
 have NV:hZ ([[.a (.s n) (fk gs)],[.a (.s 1) (fk vs9)]].map some) 0≠none:=by simp[hZ]
 have hz1:hZ ([[.a (.s n) (fk gs)],[.a (.s 1) (fk vs9)]].map some) 1≠none:=by simp[hZ]
 have hfv:∀i,w.frozen? ⟨vB,i,none⟩=false:=λi=>hH.am.fr vB i (hH.lb 1 vB vst _ ve hz1 hvb (by omega))
 have ho:(List.zipWith (K4 i) gs vs9).length=9:=by simp[hg,hv9]
 have aiB:∀b,b< [[Sg.a (.s n) (fk gs)],[.a (.s 1) (fk vs9)]].length->[Ch.kill,Ch.my][b]? =some .my∨[Ch.kill,Ch.my][b]? =some .kill:=λb hb=>by
  match b,hb with
  |0,_=>exact .inr rfl
  |1,_=>exact .inl rfl
  |b+2,h=>exact absurd h (by simp)
 have hft:∀i,st<=i->i<e->Dz π 2 (SZ [.kill,.my]) B i:=λi h1 h2=>⟨0,st,_,e,by omega,by simp[SZ],hb,h1,h2⟩
 have cont:∀(W:World) (B' s':Nat),(∀j v,j<i*9->cs[j]? =some v->cl W B' (s'+j)=some v)->(∀j v,vl[j]? =some v->cl W B' (s'+i*9+j)=some v)->(∀j v,i*9<=j->cs[j]? =some v->cl W B' (s'+(j+9))=some v)->
   ∀J,J<(n+1)*9->∃v,cl W B' (s'+J)=some v/\(iB (fk (List.zipWith (K4 i) gs vs9)) J).rel π v:=λW B' s' c1 c2 c3 J hJ=>by
  rw[aTG hg hv9];by_cases h1:J<i*9
  .rw[if_pos h1];have hj:cs[J]? =some (cs[J]'(by omega)):=kt _;exact⟨_,c1 J _ h1 hj,(Kg J _ hj).2⟩
  .rw[if_neg h1];by_cases h2:J<(i+1)*9
   .rw[if_pos h2];have hj:vl[J-i*9]? =some (vl[J-i*9]'(by omega)):=kt _;have:=c2 _ _ hj;rw[show s'+i*9+(J-i*9)=s'+J by omega] at this;exact⟨_,this,(hvs _ _ hj).2⟩
   .rw[if_neg h2];have hj:cs[J-9]? =some (cs[J-9]'(by omega)):=kt _;have:=c3 _ _ (by omega) hj;rw[show s'+(J-9+9)=s'+J by omega] at this;exact⟨_,this,(Kg _ _ hj).2⟩
 have hE:=iE;obtain⟨i0,z0,hi0,hzz,a3o,aYo,a3p⟩:=hE;have aYp:(Tryz.prog.info? 42).map (·.bytes)=some 72:=by rw[hi0];exact fe some aYo
 obtain⟨zv,hzv,aYq⟩:∃zv,A7 Tryz.prog 42=some zv/\aj.size zv.bY=9:=by
  have h:(A7 Tryz.prog 42).map (λz=>aj.size z.bY)=some 9:=by kernel_rfl
  cases hz:A7 Tryz.prog 42 with
  |none=>rw[hz] at h;cases h
  |some z=>rw[hz] at h;exact⟨z,rfl,by simpa using h⟩
 have as1:∀(base:Option Addr) (cap:Nat) (HH:List Value),i=n->HH=cs->cap<n+1->n<=cap->((base=none/\n=0/\cap=0)∨∃b,base=some b/\∀j v,HH[j]? =some v->w.cell? (b.add j)=some v)->
   y1=.slice base n cap->Calls Tryz.prog 97 #[y1,.int .i64 (i:Int),.slice (some ⟨vB,vst,none⟩) 1 aaf] w (tu π w [[.a (.s n) (fk gs)],[.a (.s 1) (fk vs9)]] ⟨.r (.c (.sl 2 (.k 0) (.s (n+1)) 9 true)),[.kill,.my],[[.a (.s (n+1)) (fk (List.zipWith (K4 i) gs vs9))]]⟩):=by
  intro base cap HH hin holds rI a4t hs hy;subst hin holds
  obtain⟨gc,arr,nP,hgc,yG,rest,agn⟩:∃gc arr,(∀ty,(Builtin.append_ #[140,140] ty #[.slice base i cap,.slice (some ⟨vB,vst,none⟩) 1 aaf]).run Tryz.prog w=.ok (.slice (some ⟨w.heap.size,0,none⟩) (i+1) gc) (w.drew.alloc (.cells arr 42)))/\i+1<=gc/\arr.size=gc*9/\∃rest,arr.toList=HH++vl++rest:=by
   obtain⟨gc,arr,nP,h2,h3,h4⟩:=Jj (P:=Tryz.prog) (ty:=0) uT uE aYp hzv aYq (by omega) (sv:=.slice base i cap) (n:=i) (cap:=cap) (m:=1) (c:=aaf) (ad:=⟨vB,vst,none⟩) (HH:=HH) (news:=vl) w (by
    rcases hs with⟨rfl,h1,h2⟩| ⟨b,rfl,h3⟩
    .exact .inl ⟨by rw[h1,h2],h1,h2⟩
    .exact .inr ⟨b,rfl,h3⟩) Es (by rw[hvl]) (λj v hj=>by rw[Addr.add_lit];exact(hvs j v hj).1) rI (by omega) azN
   exact⟨gc,arr,λty=>by unfold Builtin.append_ at nP ⊢;exact nP,h2,h3,h4⟩
  have hC:=aNF base i cap vB vst aaf w _ _ nP;rw[hy];refine Calls.mono hC ?_;rintro ev W ⟨rfl,rfl⟩
  have aI2:∀j,cl (w.drew.alloc (.cells arr 42)) w.heap.size j=arr[j]? :=λj=>World.cell?_alloc_at (w:=w.drew) arr _ w.heap.size j rfl
  refine als (P:=Tryz.prog) ho hH jZ aiB (cR _) (((cx.refl w _).drew).alloc _ _) (λk hk=>⟨by rw[aI2,aiv (by omega)];rfl,World.frozen?_alloc_at (w:=w.drew) arr _ w.heap.size k rfl⟩) ((hH.am.same (w':=w.drew) rfl).alloc _ _) (λJ hJ=> ?_) hgc;have:=cont (w.drew.alloc (.cells arr 42)) w.heap.size 0 (λj v hj hv=>by rw[gD,aI2];exact(V6 agn).1 hv) (λj v hv=>by rw[gD,aI2,<-Es];exact(V6 agn).2 hv) (λj v hj hv=>by have:=(lA.1 hv).1;omega) J hJ;rwa [gD] at this
 rcases hx with⟨h0,a,rfl⟩| ⟨cap,rI,rfl,hce⟩
 ·
  have h0:n=0:=h0;subst h0;have a3q:i=0:=by omega
  subst a3q;cases a with
  |none=>exact as1 none 0 cs rfl rfl (by omega) (by omega) (.inl ⟨rfl,rfl,rfl⟩) rfl
  |some b=>
   have a3r:cs=[]:=List.eq_nil_of_length_eq_zero (by omega);exact as1 (some b) 0 cs rfl rfl (by omega) (by omega) (.inr ⟨b,rfl,λj v hj=>by rw[a3r] at hj;simp at hj⟩) rfl
 .have rI:n<=cap:=rI;have hce:st+cap*9<=e:=by have:=hce rfl;simpa[cG.val] using this
  show Calls Tryz.prog 97 #[.slice (some ⟨B,st,none⟩) n cap,.int .i64 (i:Int),.slice (some ⟨vB,vst,none⟩) 1 aaf] w _;by_cases SY:n+1<=cap
  .have a4e:(n+1)*9<=cap*9:=wh _ SY
   have aXR:vB=B->vst+9<=st∨st+(n+1)*9<=vst:=λh=>by
    subst h;rcases mJ vst (st+(n+1)*9) with h1|h1
    .left
     rcases mJ st (vst+9) with h2|h2
     .exfalso
      rcases mJ st vst with h3|h3
      .exact hH.dj 0 1 _ st _ e vst _ ve (by omega) NV hz1 hb hvb vst (by omega) (by omega) (cR _) (by omega)
      .exact hH.dj 0 1 _ st _ e vst _ ve (by omega) NV hz1 hb hvb st (cR _) (by omega) h3 (by omega)
     .omega
    .exact .inr h1
   by_cases hin:i=n
   ·
    subst hin;have hC:=aNF (some ⟨B,st,none⟩) i cap vB vst aaf w _ _ (λty=>LX (P:=Tryz.prog) (ty:=ty) uT uE (B:=B) (q:=st) (n:=i) (cap:=cap) (m:=1) (c:=aaf) (ad:=⟨vB,vst,none⟩) (news:=vl) SY (by rw[hvl]) w (λj v hj=>by rw[Addr.add_lit];exact(hvs j v hj).1) h1v (λj hj=>p9 _ (by omega) (by omega)));refine Calls.mono hC ?_;rintro ev W ⟨rfl,rfl⟩
    have a1d:∀j,j<vl.length->(cl w B (st+i*9+j)).isSome=true:=λj hj=>(p9 _ (by omega) (by omega)).1
    refine aae (P:=Tryz.prog) (q:=i*9) ho hH jZ aiB (by simp) rfl hb ((cx.refl w _).setCells (.inr λj hj=>hft _ (by omega) (by omega))) (λk k1 k2=>⟨Ab.isSome_setCells a1d (p9 k k1 k2).1,by rw[pw];exact(p9 k k1 k2).2⟩) (hH.am.setCells λ_=>hH.lb 0 B st _ e NV hb (by omega)) (cont _ B st (λj v hj hv=> ?_) (λj v hv=> ?_) (λj v hj hv=>by have:=(lA.1 hv).1;omega)) SY hce
    .rw[eL (λ_=>by omega)];exact(Kg j v hv).1
    .have hjl:=(lA.1 hv).1;rw[nD a1d hjl];rw[kt hjl] at hv;exact hv
   ·
    have hC:=aQQ B st n cap i vB vst aaf cs vl w (by omega) SY aXR Es hvl (by omega) (λj v hj=>(Kg j v hj).1) (λj hj=>(p9 _ (by omega) (by omega)).1) (λj hj=>(p9 _ (by omega) (by omega)).2) (λj v hj=>(hvs j v hj).1) h1c h1v
     (λcb=>by
      obtain⟨va,hva⟩:=Option.isSome_iff_exists.1 (a13 vst (cR _) (by omega)).1;obtain⟨vb2,a3s⟩:=Option.isSome_iff_exists.1 (p9 (st+(i+1)*9) (by omega) (by omega)).1;exact aKW (λh=>by have:=aXR h;omega) hva a3s hfv)
    refine Calls.mono hC ?_;rintro ev W ⟨rfl,rfl⟩
    have hdl:(cs.drop (i*9)).length=(n-i)*9:=by rw[asJ,Es];omega
    have i1:∀j,j<(cs.drop (i*9)).length->(cl w.drew B (st+(i+1)*9+j)).isSome=true:=λj hj=>(p9 _ (by omega) (by omega)).1
    have i2:∀j,j<vl.length->(cl (w.drew.setCells B (st+(i+1)*9) (cs.drop (i*9))) B (st+i*9+j)).isSome=true:=λj hj=>Ab.isSome_setCells i1 (p9 _ (by omega) (by omega)).1
    have hlb:=hH.lb 0 B st _ e NV hb (by omega)
    refine aae (P:=Tryz.prog) (q:=n*9) ho hH jZ aiB (by simp) rfl hb ((((cx.refl w _).drew).setCells (.inr λj hj=>hft _ (by omega) (by omega))).setCells (.inr λj hj=>hft _ (by omega) (by omega)))
     (λk k1 k2=>⟨Ab.isSome_setCells i2 (Ab.isSome_setCells i1 (p9 k k1 k2).1),by rw[pw,pw];exact(p9 k k1 k2).2⟩) (((hH.am.same (w':=w.drew) rfl).setCells λ_=>hlb).setCells λ_=>hlb) (cont _ B st (λj v hj hv=> ?_) (λj v hv=> ?_) (λj v hj hv=> ?_)) SY hce
    .rw[eL (λ_=>by omega),eL (λ_=>by omega)];exact(Kg j v hv).1
    .have hjl:=(lA.1 hv).1;rw[nD i2 hjl];rw[kt hjl] at hv;exact hv
    .have hjl:=(lA.1 hv).1;rw[eL (λ_=>by omega)];have lC:j-i*9<(cs.drop (i*9)).length:=by omega
     have:=nD i1 lC;rw[show st+(i+1)*9+(j-i*9)=st+(j+9) by omega] at this;rw[this,<-kt,SM,show i*9+(j-i*9)=j by omega];exact hv
  .by_cases hin:i=n
   .exact as1 (some ⟨B,st,none⟩) cap cs hin rfl (by omega) rI (.inr ⟨_,rfl,λj v hj=>by rw[Addr.add_lit];exact(Kg j v hj).1⟩) rfl
   .obtain⟨G,DD,hG,yG,htk,hC⟩:=aTE B st n cap i vB vst aaf cs vl w (by omega) rI (by omega) azN Es hvl (λj v hj=>(Kg j v hj).1) (λj v hj=>(hvs j v hj).1) h1c h1v;refine Calls.mono hC ?_;rintro ev W ⟨rfl,rfl⟩
    have hG9:(n+1)*9<=G*9:=wh _ hG;have hdl:(cs.drop (i*9)).length=(n-i)*9:=by rw[asJ,Es];omega
    have c0:∀j,cl (w.alloc (.cells DD 42)).drew w.heap.size j=DD[j]? :=λj=>World.cell?_alloc_at (w:=w) DD _ w.heap.size j rfl
    have s0:∀j,j<G*9->(cl (w.alloc (.cells DD 42)).drew w.heap.size j).isSome=true:=λj hj=>by rw[c0,aiv (by omega)];rfl
    have i1:∀j,j<vl.length->(cl (w.alloc (.cells DD 42)).drew w.heap.size (i*9+j)).isSome=true:=λj hj=>s0 _ (by omega)
    have i2:∀j,j<(cs.drop (i*9)).length->(cl ((w.alloc (.cells DD 42)).drew.setCells w.heap.size (i*9) vl).drew w.heap.size ((i+1)*9+j)).isSome=true:=λj hj=>Ab.isSome_setCells i1 (s0 _ (by omega))
    have hlb:aA.h0<=w.heap.size:=hH.am.sz;have am1:A' (w.alloc (.cells DD 42)).drew:=(hH.am.alloc DD 42).same (w':=(w.alloc (.cells DD 42)).drew) rfl;have am2:A' ((w.alloc (.cells DD 42)).drew.setCells w.heap.size (i*9) vl).drew:=(am1.setCells λ_=>hlb).same (w':=((w.alloc (.cells DD 42)).drew.setCells w.heap.size (i*9) vl).drew) rfl;have f1:cx w (Dz π 2 (SZ [.kill,.my])) ((w.alloc (.cells DD 42)).drew.setCells w.heap.size (i*9) vl).drew:=((((cx.refl w _).alloc DD 42).drew).setCells (.inl (cR _))).drew;refine als (P:=Tryz.prog) ho hH jZ aiB (cR _) (f1.setCells (.inl (cR _))) (λk hk=>⟨Ab.isSome_setCells i2 (Ab.isSome_setCells i1 (s0 k hk)),?_⟩) (am2.setCells λ_=>hlb) (λJ hJ=> ?_) hG
    .rw[pw];exact(pw (w:=(w.alloc (.cells DD 42)).drew)).trans (World.frozen?_alloc_at (w:=w) DD _ w.heap.size k rfl)
    .have:=cont (((w.alloc (.cells DD 42)).drew.setCells w.heap.size (i*9) vl).drew.setCells w.heap.size ((i+1)*9) (cs.drop (i*9))) w.heap.size 0 (λj v hj hv=> ?_) (λj v hv=> ?_) (λj v hj hv=> ?_) J hJ
     .rwa [gD] at this
     .rw[gD,eL (λ_=>by omega)];exact(eL (w:=(w.alloc (.cells DD 42)).drew) (λ_=>by omega)).trans ((c0 j).trans (htk j v hj hv))
     .have hjl:=(lA.1 hv).1;rw[gD,eL (λ_=>by omega)];have:=nD i1 hjl;rw[kt hjl] at hv;exact this.trans hv
     .have hjl:=(lA.1 hv).1;have lC:j-i*9<(cs.drop (i*9)).length:=by omega
      have:=nD i2 lC;rw[show(i+1)*9+(j-i*9)=j+9 by omega] at this;rw[gD,this,<-kt,SM,show i*9+(j-i*9)=j by omega];exact hv
theorem zS [aA]:∃z,(∀w,(Go.zeroValue 42).run Tryz.prog w=.ok z w)/\z.cells.size=9/\∀v∈z.cells.toList,v.oneCell'=true:=by
 have h:(Tryz.prog.info? 42).map (λi=>i.zero.map λz=>(z.cells.size,z.cells.toList.all λv=>v.oneCell'))=some (some (9,true)):=by kernel_rfl
 obtain⟨zv,hzv⟩:∃zv,A7 Tryz.prog 42=some zv:=by
  have h:(A7 Tryz.prog 42).isSome=true:=by kernel_rfl
  exact Option.isSome_iff_exists.1 h
 cases hi:Tryz.prog.info? 42 with
 |none=>rw[hi] at h;cases h
 |some i=>
  rw[hi] at h;simp only[SP,hM] at h;cases hz:i.zero with
  |none=>rw[hz] at h;cases h
  |some z=>
   rw[hz] at h;simp only[SP,hM,qT] at h;refine⟨z,λw=> ?_,h.1,asK.1 h.2⟩;obtain⟨x,hx,⟨it,hi2,hz2⟩,_⟩:=adM hzv w;rw[hi] at hi2;cases hi2;rw[hz] at hz2;cases hz2;exact hx
theorem aYr [aA](w:World)(ty:TypeId)(b o n c:Nat)(hn:0<n)(hc:∀j,j<n*9->(w.cell? ⟨b,o+j,none⟩).isSome=true)(hf:∀j,j<n*9->w.frozen? ⟨b,o+j,none⟩=false):
  ∃zs:List Value,zs.length=n*9/\(Builtin.clear_ #[140] ty #[.slice (some ⟨b,o,none⟩) n c]).run Tryz.prog w=.ok (.tuple #[]) (w.setCells b o zs):=by
 obtain⟨z,hz,hs,h1⟩:=zS;have hl:(Builtin.zeroCells z.cells n).toList.length=n*9:=by rw[Wi,size_zeroCells,hs]
 refine⟨(Builtin.zeroCells z.cells n).toList,hl,?_⟩
 have hst:=run_storeCells_cells (P:=Tryz.prog) b o (Builtin.zeroCells z.cells n).toList 0 w (by rw[hl];simpa using hc) (by rw[hl];simpa using hf) (by
  intro v hv;unfold Builtin.zeroCells at hv;rw[Array.toList_map] at hv;obtain⟨i,hi,rfl⟩:=List.mem_map.1 hv;have nC:i%z.cells.size<z.cells.size:=Nat.mod_lt _ (by omega);have e:z.cells[i%z.cells.size]! =z.cells[i%z.cells.size]:=getElem!_pos z.cells (i%z.cells.size) nC;rw[e];exact h1 _ (Array.getElem_mem_toList nC))
 simp only[jH] at hst;obtain⟨m,rfl⟩:∃m,n=m+1:=⟨n-1,by omega⟩;simp[Builtin.clear_,run_underlying uT,hz,hst]
theorem aG4 [aA]{gs:List (Nat->Int)}(hg:gs.length=9)(n i j:Nat)(hij:i<=j)(hj:j<=n)(w:World)(π:Pi)(vs:Array Value)
  (ln:bu (AV.rel π) [.r (.c (.sl 0 (.k 0) (.s n) 9 true)),.r (.c (.f (.i .i64 (i:Int)))),.r (.c (.f (.i .i64 (j:Int))))] vs.toList)
  (hH:sf π (hC ([[.a (.s n) (fk gs)]].map some)) (hZ ([[.a (.s n) (fk gs)]].map some)) w)(jZ:∀b,π b≠none->b<1):
  Calls Tryz.prog 98 vs w (tu π w [[.a (.s n) (fk gs)]] ⟨.r (.c (.sl 1 (.k 0) (.s (i+(n-j))) 9 true)),[.kill],[[.a (.s (i+(n-j))) (fk (gs.map (Rj i (j-i))))]]⟩):=by
 obtain⟨y1,y2,y3,hvt,r1,r2,r3⟩:∃y1 y2 y3,vs.toList=[y1,y2,y3]/\(AV.r (.c (.sl 0 (.k 0) (.s n) 9 true))).rel π y1/\(AV.r (.c (.f (.i .i64 (i:Int))))).rel π y2/\(AV.r (.c (.f (.i .i64 (j:Int))))).rel π y3:=by
  match hl:vs.toList,ln with
  | [y1,y2,y3],⟨a,b,c,_⟩=>exact⟨y1,y2,y3,rfl,a,b,c⟩
  | [],h=>exact h.elim
  | [_],⟨_,h⟩=>exact h.elim
  | [_,_],⟨_,_,h⟩=>exact h.elim
  |_::_::_::_::_,⟨_,_,_,h⟩=>exact h.elim
 have hvt:vs=#[y1,y2,y3]:=by rw[<-akY];exact hvt
 subst hvt;have r2:y2=.int .i64 (i:Int):=r2;have r3:y3=.int .i64 (j:Int):=r3;subst r2 r3;obtain⟨B,st,q,e,hb,_,_,hx⟩:=r1;obtain⟨rfl,hle,p9,cs,Es,Kg,h1c⟩:=aDp (b:=0) hg hH rfl hb;have NV:hZ ([[.a (.s n) (fk gs)]].map some) 0≠none:=by simp[hZ]
 have ho:(gs.map (Rj i (j-i))).length=9:=by simp[hg]
 have aiB:∀b,b< [[Sg.a (.s n) (fk gs)]].length->[Ch.kill][b]? =some .my∨[Ch.kill][b]? =some .kill:=λb hb=>by
  match b,hb with
  |0,_=>exact .inr rfl
  |b+1,h=>exact absurd h (by simp)
 have hft:∀i,st<=i->i<e->Dz π 1 (SZ [.kill]) B i:=λi h1 h2=>⟨0,st,_,e,by omega,by simp[SZ],hb,h1,h2⟩
 rcases hx with⟨h0,a,rfl⟩| ⟨cap,rI,rfl,hce⟩
 .have h0:n=0:=h0;subst h0;have hi0:i=0:=by omega
  have hj0:j=0:=by omega
  subst hi0 hj0;refine Calls.mono (aIZ a 0 0 0 w (by omega) (by omega)) ?_;rintro ev W ⟨rfl,rfl⟩
  exact alu (P:=Tryz.prog) ho hH jZ aiB (cx.refl _ _) hH.am
 .have rI:n<=cap:=rI;have hce:st+cap*9<=e:=by have:=hce rfl;simpa[cG.val] using this
  have a4u:n*9<=cap*9:=wh _ rI;show Calls Tryz.prog 98 #[.slice (some ⟨B,st,none⟩) n cap,.int .i64 (i:Int),.int .i64 (j:Int)] w _;rcases Nat.eq_or_lt_of_le hij with a3t|nC
  .subst a3t;refine Calls.mono (aIZ _ n cap i w hj rI) ?_;rintro ev W ⟨rfl,rfl⟩
   have hn:i+(n-i)=n:=by omega
   rw[hn];refine aae (P:=Tryz.prog) (q:=n*9) ho hH jZ aiB (by simp) rfl hb (cx.refl _ _) p9 hH.am (λJ hJ=> ?_) rI hce;rw[aI0 hg];have hjj:cs[J]? =some (cs[J]'(by omega)):=kt _;refine⟨_,(Kg _ _ hjj).1,?_⟩;have:=(Kg _ _ hjj).2;split
   .exact this
   .rw[Nat.sub_self,SS,jH];exact this
  .have hm9:(i+(n-j))*9<=n*9:=wh _ (by omega);have hdl:(cs.drop (j*9)).length=(n-j)*9:=by rw[asJ,Es];omega
   have i1:∀k,k<(cs.drop (j*9)).length->(cl w.drew B (st+i*9+k)).isSome=true:=λk hk=>(p9 _ (by omega) (by omega)).1
   obtain⟨w2,hw2⟩:∃w2,w2=w.drew.setCells B (st+i*9) (cs.drop (j*9)):=⟨_,rfl⟩
   have s2:∀k,st<=k->k<e->(cl w2 B k).isSome=true/\fz w2 B k=false:=λk k1 k2=>by
    rw[hw2];exact⟨Ab.isSome_setCells i1 (p9 k k1 k2).1,by rw[pw];exact(p9 k k1 k2).2⟩
   obtain⟨zs,hzl,a3u⟩:∃zs:List Value,zs.length=(n-(i+(n-j)))*9/\∀ty,(Builtin.clear_ #[140] ty #[.slice (some ⟨B,st+(i+(n-j))*9,none⟩) (n-(i+(n-j))) (cap-(i+(n-j)))]).run Tryz.prog w2=.ok (.tuple #[]) (w2.setCells B (st+(i+(n-j))*9) zs):=by
    obtain⟨zs,h1,h2⟩:=aYr w2 0 B (st+(i+(n-j))*9) (n-(i+(n-j))) (cap-(i+(n-j))) (by omega) (λk hk=>(s2 _ (by omega) (by omega)).1) (λk hk=>(s2 _ (by omega) (by omega)).2);exact⟨zs,h1,λty=>by unfold Builtin.clear_ at h2 ⊢;exact h2⟩
   have hC:=aTF B st n cap i j w w2 (w2.setCells B (st+(i+(n-j))*9) zs) nC hj rI (λty=>by
    rw[hw2]
    exact LX (P:=Tryz.prog) (ty:=ty) uT uE (B:=B) (q:=st) (n:=i) (cap:=cap) (m:=n-j) (c:=cap-j) (news:=cs.drop (j*9)) (by omega) hdl w.drew (λk v hk=>by
     have hk2:=(lA.1 hk).1;rw[SM] at hk;have:=(Kg _ _ hk).1;split
     .omega
     .rw[Addr.add_lit,A6];exact this) (λv hv=>h1c v (List.mem_of_mem_drop hv)) (λk hk=>p9 _ (by omega) (by omega))) a3u
   refine Calls.mono hC ?_;rintro ev W ⟨rfl,rfl⟩
   have i2:∀k,k<zs.length->(cl w2 B (st+(i+(n-j))*9+k)).isSome=true:=λk hk=>(s2 _ (by omega) (by omega)).1
   have hlb:0<n->aA.h0<=B:=λ_=>hH.lb 0 B st _ e NV hb (by omega)
   have am2:A' w2:=by rw[hw2];exact(hH.am.same (w':=w.drew) rfl).setCells λ_=>hlb (by omega)
   have f2:cx w (Dz π 1 (SZ [.kill])) w2:=by rw[hw2];exact((cx.refl w _).drew).setCells (.inr λk hk=>hft _ (by omega) (by omega))
   refine aae (P:=Tryz.prog) (q:=n*9) ho hH jZ aiB (by simp) rfl hb (f2.setCells (.inr λk hk=>hft _ (by omega) (by omega))) (λk k1 k2=>⟨Ab.isSome_setCells i2 (s2 k k1 k2).1,by rw[pw];exact(s2 k k1 k2).2⟩) (am2.setCells λ_=>hlb (by omega)) (λJ hJ=> ?_) (by omega) hce;rw[aI0 hg,eL (λ_=>by omega),hw2];by_cases h1:J<i*9
   .rw[if_pos h1,eL (λ_=>by omega)];have hjj:cs[J]? =some (cs[J]'(by omega)):=kt _;exact⟨_,(Kg _ _ hjj).1,(Kg _ _ hjj).2⟩
   .rw[if_neg h1];have hJ2:J-i*9<(cs.drop (j*9)).length:=by omega
    have h3:=nD i1 hJ2;rw[show st+i*9+(J-i*9)=st+J by omega] at h3;refine⟨_,h3,?_⟩
    have hjj:cs[J+(j-i)*9]? =some ((cs.drop (j*9))[J-i*9]):=by
     rw[<-kt,SM];congr 1
     have:(j-i)*9=j*9-i*9:=by omega
     omega
    exact(Kg _ _ hjj).2
theorem aKX [aA]{gs:List (Nat->Int)}(hg:gs.length=9)(n:Nat)(azN:n*72<=140737488355328)(w0:Bool)(w:World)(π:Pi)(vs:Array Value)
  (ln:bu (AV.rel π) [.r (.c (.sl 0 (.k 0) (.s n) 9 w0))] vs.toList)
  (hH:sf π (hC ([[.a (.s n) (fk gs)]].map some)) (hZ ([[.a (.s n) (fk gs)]].map some)) w)(jZ:∀b,π b≠none->b<1):
  Calls Tryz.prog 166 vs w (tu π w [[.a (.s n) (fk gs)]] ⟨.r (.c (.sl 1 (.k 0) (.s n) 9 true)),[.my],[[.a (.s n) (fk gs)]]⟩):=by
 obtain⟨y1,hvt,r1⟩:∃y1,vs.toList=[y1]/\(AV.r (.c (.sl 0 (.k 0) (.s n) 9 w0))).rel π y1:=by
  match hl:vs.toList,ln with
  | [y1],⟨a,_⟩=>exact⟨y1,rfl,a⟩
  | [],h=>exact h.elim
  |_::_::_,⟨_,h⟩=>exact h.elim
 have hvt:vs=#[y1]:=by rw[<-akY];exact hvt
 subst hvt;obtain⟨B,st,q,e,hb,_,_,hx⟩:=r1;obtain⟨rfl,hle,p9,cs,Es,Kg,h1c⟩:=aDp (b:=0) hg hH rfl hb
 have aiB:∀b,b< [[Sg.a (.s n) (fk gs)]].length->[Ch.my][b]? =some .my∨[Ch.my][b]? =some .kill:=λb hb=>by
  match b,hb with
  |0,_=>exact .inl rfl
  |b+1,h=>exact absurd h (by simp)
 have hE:=iE;obtain⟨i0,z0,hi0,hzz,a3o,aYo,a3p⟩:=hE;have aYp:(Tryz.prog.info? 42).map (·.bytes)=some 72:=by rw[hi0];exact fe some aYo
 obtain⟨zv,hzv,aYq⟩:∃zv,A7 Tryz.prog 42=some zv/\aj.size zv.bY=9:=by
  have h:(A7 Tryz.prog 42).map (λz=>aj.size z.bY)=some 9:=by kernel_rfl
  cases hz:A7 Tryz.prog 42 with
  |none=>rw[hz] at h;cases h
  |some z=>rw[hz] at h;exact⟨z,rfl,by simpa using h⟩
 obtain⟨w1,hw1⟩:∃w1,w1=w.alloc (.cells #[] 42):=⟨_,rfl⟩;have hs1:w1.heap.size=w.heap.size+1:=by rw[hw1];exact World.size_alloc ..
 have am1:A' w1:=by rw[hw1];exact hH.am.alloc _ _
 have f1:cx w (Dz π 1 (SZ [.my])) w1:=by rw[hw1];exact(cx.refl w _).alloc _ _
 have none_:n=0->∀(a:Addr) (c:Nat),Calls Tryz.prog 166 #[.slice (some a) 0 c] w (tu π w [[.a (.s n) (fk gs)]] ⟨.r (.c (.sl 1 (.k 0) (.s n) 9 true)),[.my],[[.a (.s n) (fk gs)]]⟩):=λh0 a c=>by
  subst h0;refine Calls.mono (az1 a 0 c w _ _ λty=>LX (P:=Tryz.prog) (ty:=ty) uT uE (B:=w.heap.size) (q:=0) (n:=0) (cap:=0) (m:=0) (c:=c) (ad:=a) (news:=[]) (by omega) rfl (w.alloc (.cells #[] 42)) (λj v hj=>by simp at hj) (λv hv=>by cases hv) (λj hj=>by simp at hj)) ?_;rintro ev W ⟨rfl,rfl⟩
  rw[<-hw1];exact alu (P:=Tryz.prog) hg hH jZ aiB f1 am1
 rcases hx with⟨h0,a,rfl⟩| ⟨cap,rI,rfl,hce⟩
 .have h0:n=0:=h0;cases a with
  |none=>
   subst h0;refine Calls.mono (aQR w) ?_;rintro ev W ⟨rfl,rfl⟩
   exact alu (P:=Tryz.prog) hg hH jZ aiB (cx.refl _ _) hH.am
  |some b=>exact none_ h0 b 0
 .show Calls Tryz.prog 166 #[.slice (some ⟨B,st,none⟩) n cap] w _;rcases SO n with h0|hn
  .subst h0;exact none_ rfl ⟨B,st,none⟩ cap
  .have hbw:B<w.heap.size:=abO (p9 st (cR _) (by omega)).1
   obtain⟨gc,arr,nP,hgc,yG,rest,agn⟩:=Jj (P:=Tryz.prog) (ty:=0) uT uE aYp hzv aYq (by omega) (sv:=.slice (some ⟨w.heap.size,0,none⟩) 0 0) (n:=0) (cap:=0) (m:=n) (c:=cap) (ad:=⟨B,st,none⟩) (HH:=[]) (news:=cs) w1 (.inr ⟨_,rfl,λj v hj=>by simp at hj⟩) rfl Es (λj v hj=>by
    rw[Addr.add_lit,hw1];exact(World.cell?_alloc_past (w:=w) _ B _ hbw).trans (Kg j v hj).1) (by omega) hn (by omega)
   rw[gD] at nP hgc;have nP:∀ty,(Builtin.append_ #[140,140] ty #[.slice (some ⟨w.heap.size,0,none⟩) 0 0,.slice (some ⟨B,st,none⟩) n cap]).run Tryz.prog (w.alloc (.cells #[] 42))=.ok (.slice (some ⟨w1.heap.size,0,none⟩) n gc) (w1.drew.alloc (.cells arr 42)):=λty=>by rw[<-hw1];unfold Builtin.append_ at nP ⊢;exact nP
   refine Calls.mono (az1 ⟨B,st,none⟩ n cap w _ _ nP) ?_;rintro ev W ⟨rfl,rfl⟩
   have aI2:∀j,cl (w1.drew.alloc (.cells arr 42)) w1.heap.size j=arr[j]? :=λj=>World.cell?_alloc_at (w:=w1.drew) arr _ w1.heap.size j rfl
   refine als (P:=Tryz.prog) hg hH jZ aiB (by omega) ((f1.drew).alloc _ _) (λk hk=>⟨by rw[aI2,aiv (by omega)];rfl,World.frozen?_alloc_at (w:=w1.drew) arr _ w1.heap.size k rfl⟩) ((am1.same (w':=w1.drew) rfl).alloc _ _) (λJ hJ=> ?_) hgc;have hjj:cs[J]? =some (cs[J]'(by omega)):=kt _;refine⟨_,?_,(Kg _ _ hjj).2⟩;rw[aI2];have:=(V6 agn).2 hjj;simpa using this
end Go.Proofs.YtldgljclcgaibaaGreat
noncomputable section
namespace Go.Proofs.YtldgljclcgaibaaGreat
open Go.Ab Go.Ab.Pg
theorem as8 {α:Type}{c:Bool}{v d:α}(h:cond c (some v) none=some d):c=true/\v=d:=by
 cases c with
 |true=>exact⟨rfl,Ka h⟩
 |false=>cases h
theorem ax9 {β δ:Type}{Q:Rq (List AV×List aj) β}{R:δ->Go.Ab.T}{f:β->Option δ}{a:List AV}{h:List aj}{r:pe}(hr:(FC Q R f a h).eval=some r):
  ∃b d,(a,h)=Q.em b/\f b=some d/\(R d).eval=some r:=by
 unfold FC at hr;split at hr
 .rename_i b hb
  obtain⟨t,b⟩:=b;obtain⟨h1,ZC⟩:=alq hr;rw[as4] at ZC;obtain⟨d,e1,e2⟩:=Option.bind_eq_some_iff.1 ZC;exact⟨b,d,Q.ok _ _ _ hb h1,e1,e2⟩
 .cases hr
def sj:=(open Go.Ab.Rq in(dp (c (ac (slc 0 9)) (c ai (cl (ac (slc 1 9)) nil))) λa=>(c (cl (gs a.1.1 (c fZ (c fZ (c fZ (c fZ (c fZ (c fZ (c fZ (c fZ (cl fZ nil)))))))))) nil) (cl (cl (gs a.2.2.1 (c fZ (c fZ (c fZ (c fZ (c fZ (c fZ (c fZ (c fZ (cl fZ nil)))))))))) nil) nil))):Rq (List AV×List aj) _)
def rJ:=(open Go.Ab.Rq in(res (pr (ac (AG 2 9)) (pu (cu Vb (cu fD nil)) (cl (cl (ga (pr (szs hole) (c fZ (c fZ (c fZ (c fZ (c fZ (c fZ (c fZ (c fZ (cl fZ nil))))))))))) nil) nil)))):Rq (pe) _)
abbrev gK:=Nat×(Nat->Int)×(Nat->Int)×(Nat->Int)×(Nat->Int)×(Nat->Int)×(Nat->Int)×(Nat->Int)×(Nat->Int)×(Nat->Int)
def FJ (d:gK):T:=(λd=>.leaf (rJ.em (d.1,d))) d
abbrev sk:=Nat->Int->(Nat->Int)->(Nat->Int)->(Nat->Int)->(Nat->Int)->(Nat->Int)->(Nat->Int)->(Nat->Int)->(Nat->Int)->(Nat->Int)->(Nat->Int)->(Nat->Int)->(Nat->Int)->(Nat->Int)->(Nat->Int)->(Nat->Int)->(Nat->Int)->(Nat->Int)->(Nat->Int)->Nat->Bool->Bool->Option gK
def su (g:sk):Ct:=(97,vA 0 [.i .i64,.i .i64,.i .i64,.i .i64,.i .i64,.i .i64,.i .i64,.i .i64,.i .i64] (FC sj FJ (λb=>g b.1.1.1 b.1.2.1 b.2.1.1 b.2.1.2.1 b.2.1.2.2.1 b.2.1.2.2.2.1 b.2.1.2.2.2.2.1 b.2.1.2.2.2.2.2.1 b.2.1.2.2.2.2.2.2.1 b.2.1.2.2.2.2.2.2.2.1 b.2.1.2.2.2.2.2.2.2.2 b.2.2.1 b.2.2.2.1 b.2.2.2.2.1 b.2.2.2.2.2.1 b.2.2.2.2.2.2.1 b.2.2.2.2.2.2.2.1 b.2.2.2.2.2.2.2.2.1 b.2.2.2.2.2.2.2.2.2.1 b.2.2.2.2.2.2.2.2.2.2 b.1.2.2.1 b.1.1.2 b.1.2.2.2)))
def eY (x0:Nat)(x1:Int)(x2 x3 x4 x5 x6 x7 x8 x9 fU fV Et x13 x14 x15 x16 x17 x18 x19:Nat->Int)(x20:Nat)(w0 w1:Bool):Option gK:=
 bif z9 x20 1&&(w0&&(decide (0<=x1)&&(wl (z4 x1) x0&&wl ((x0+1)*72) 140737488355328))) then some (x0+1,K4 (z4 x1) x2 fV,K4 (z4 x1) x3 Et,K4 (z4 x1) x4 x13,K4 (z4 x1) x5 x14,K4 (z4 x1) x6 x15,K4 (z4 x1) x7 x16,K4 (z4 x1) x8 x17,K4 (z4 x1) x9 x18,K4 (z4 x1) fU x19) else none
theorem Fs:∀b,(sj).em b=([.r (.c (.sl 0 (.k 0) (.s b.1.1.1) 9 b.1.1.2)),.r (.c (.f (.i .i64 b.1.2.1))),.r (.c (.sl 1 (.k 0) (.s b.1.2.2.1) 9 b.1.2.2.2))],[[.a (.s b.1.1.1) [.i .i64 b.2.1.1,.i .i64 b.2.1.2.1,.i .i64 b.2.1.2.2.1,.i .i64 b.2.1.2.2.2.1,.i .i64 b.2.1.2.2.2.2.1,.i .i64 b.2.1.2.2.2.2.2.1,.i .i64 b.2.1.2.2.2.2.2.2.1,.i .i64 b.2.1.2.2.2.2.2.2.2.1,.i .i64 b.2.1.2.2.2.2.2.2.2.2]],[.a (.s b.1.2.2.1) [.i .i64 b.2.2.1,.i .i64 b.2.2.2.1,.i .i64 b.2.2.2.2.1,.i .i64 b.2.2.2.2.2.1,.i .i64 b.2.2.2.2.2.2.1,.i .i64 b.2.2.2.2.2.2.2.1,.i .i64 b.2.2.2.2.2.2.2.2.1,.i .i64 b.2.2.2.2.2.2.2.2.2.1,.i .i64 b.2.2.2.2.2.2.2.2.2.2]]]):=λb=>by kernel_rfl
theorem FK [aA]:Snd Tryz.prog (su eY):=Sound.nil 0 [.i .i64,.i .i64,.i .i64,.i .i64,.i .i64,.i .i64,.i .i64,.i .i64,.i .i64]<|λargs h r hr w π vs ln hH jZ=>by
 obtain⟨b,d,e,hd,hq⟩:=ax9 hr;rw[Fs] at e;obtain⟨hc,rfl⟩:=as8 hd;simp only[cK,jG] at hc;obtain⟨h0,h1,h2,h3,h4⟩:=hc;rw[lB h0] at e;obtain⟨rfl,rfl⟩:=Prod.mk.inj e;rw[h1,show b.1.2.1=((z4 b.1.2.1:Nat):Int) by omega] at ln;have hr2:rJ.em (_,_)=r:=Ka hq;subst hr2;exact .inl ⟨IB (by kernel_rfl) _ _,aG3 (gs:=[b.2.1.1,b.2.1.2.1,b.2.1.2.2.1,b.2.1.2.2.2.1,b.2.1.2.2.2.2.1,b.2.1.2.2.2.2.2.1,b.2.1.2.2.2.2.2.2.1,b.2.1.2.2.2.2.2.2.2.1,b.2.1.2.2.2.2.2.2.2.2]) (vs9:=[b.2.2.1,b.2.2.2.1,b.2.2.2.2.1,b.2.2.2.2.2.1,b.2.2.2.2.2.2.1,b.2.2.2.2.2.2.2.1,b.2.2.2.2.2.2.2.2.1,b.2.2.2.2.2.2.2.2.2.1,b.2.2.2.2.2.2.2.2.2.2]) rfl rfl _ _ (Wg h3) (Wg h4) _ w π vs ln hH λb hb=>jZ b hb⟩
def sw:=(open Go.Ab.Rq in(dp (c (ac (slc 0 9)) (c ai (cl ai nil))) λa=>(cl (cl (gs a.1.1 (c fZ (c fZ (c fZ (c fZ (c fZ (c fZ (c fZ (c fZ (cl fZ nil)))))))))) nil) nil)):Rq (List AV×List aj) _)
def rK:=(open Go.Ab.Rq in(res (pr (ac (AG 1 9)) (pu (cu Vb nil) (cl (cl (ga (pr (szs hole) (c fZ (c fZ (c fZ (c fZ (c fZ (c fZ (c fZ (c fZ (cl fZ nil))))))))))) nil) nil)))):Rq (pe) _)
abbrev gL:=Nat×(Nat->Int)×(Nat->Int)×(Nat->Int)×(Nat->Int)×(Nat->Int)×(Nat->Int)×(Nat->Int)×(Nat->Int)×(Nat->Int)
def FL (d:gL):T:=(λd=>.leaf (rK.em (d.1,d))) d
abbrev gM:=Nat->Int->Int->(Nat->Int)->(Nat->Int)->(Nat->Int)->(Nat->Int)->(Nat->Int)->(Nat->Int)->(Nat->Int)->(Nat->Int)->(Nat->Int)->Bool->Option gL
def lD (g:gM):Ct:=(98,vA 0 [.i .i64,.i .i64,.i .i64,.i .i64,.i .i64,.i .i64,.i .i64,.i .i64,.i .i64] (FC sw FL (λb=>g b.1.1.1 b.1.2.1 b.1.2.2 b.2.1 b.2.2.1 b.2.2.2.1 b.2.2.2.2.1 b.2.2.2.2.2.1 b.2.2.2.2.2.2.1 b.2.2.2.2.2.2.2.1 b.2.2.2.2.2.2.2.2.1 b.2.2.2.2.2.2.2.2.2 b.1.1.2)))
def cT (x0:Nat)(x1 x2:Int)(x3 x4 x5 x6 x7 x8 x9 fU fV:Nat->Int)(w0:Bool):Option gL:=
 bif w0&&(decide (0<=x1)&&(wl (z4 x1) (z4 x2)&&(decide (0<=x2)&&wl (z4 x2) x0))) then some (z4 x1+(x0-z4 x2),Rj (z4 x1) (z4 x2-z4 x1) x3,Rj (z4 x1) (z4 x2-z4 x1) x4,Rj (z4 x1) (z4 x2-z4 x1) x5,Rj (z4 x1) (z4 x2-z4 x1) x6,Rj (z4 x1) (z4 x2-z4 x1) x7,Rj (z4 x1) (z4 x2-z4 x1) x8,Rj (z4 x1) (z4 x2-z4 x1) x9,Rj (z4 x1) (z4 x2-z4 x1) fU,Rj (z4 x1) (z4 x2-z4 x1) fV) else none
theorem Ft:∀b,(sw).em b=([.r (.c (.sl 0 (.k 0) (.s b.1.1.1) 9 b.1.1.2)),.r (.c (.f (.i .i64 b.1.2.1))),.r (.c (.f (.i .i64 b.1.2.2)))],[[.a (.s b.1.1.1) [.i .i64 b.2.1,.i .i64 b.2.2.1,.i .i64 b.2.2.2.1,.i .i64 b.2.2.2.2.1,.i .i64 b.2.2.2.2.2.1,.i .i64 b.2.2.2.2.2.2.1,.i .i64 b.2.2.2.2.2.2.2.1,.i .i64 b.2.2.2.2.2.2.2.2.1,.i .i64 b.2.2.2.2.2.2.2.2.2]]]):=λb=>by kernel_rfl
theorem sy [aA]:Snd Tryz.prog (lD cT):=Sound.nil 0 [.i .i64,.i .i64,.i .i64,.i .i64,.i .i64,.i .i64,.i .i64,.i .i64,.i .i64]<|λargs h r hr w π vs ln hH jZ=>by
 obtain⟨b,d,e,hd,hq⟩:=ax9 hr;rw[Ft] at e;obtain⟨hc,rfl⟩:=as8 hd;simp only[cK,jG] at hc;obtain⟨h1,h2,h3,h4,h5⟩:=hc;obtain⟨rfl,rfl⟩:=Prod.mk.inj e;have e2:b.1.2.1=((z4 b.1.2.1:Nat):Int):=by omega
 have e3:b.1.2.2=((z4 b.1.2.2:Nat):Int):=by omega
 have hr2:rK.em (_,_)=r:=Ka hq;subst hr2;exact .inl ⟨IB (by kernel_rfl) _ _,aG4 (gs:=[b.2.1,b.2.2.1,b.2.2.2.1,b.2.2.2.2.1,b.2.2.2.2.2.1,b.2.2.2.2.2.2.1,b.2.2.2.2.2.2.2.1,b.2.2.2.2.2.2.2.2.1,b.2.2.2.2.2.2.2.2.2]) rfl _ (z4 b.1.2.1) (z4 b.1.2.2) (Wg h3) (Wg h5) w π vs (by rw[<-e2,<-e3,<-h1];exact ln) hH λb hb=>jZ b hb⟩
def tx:=(open Go.Ab.Rq in(dp (cl (ac (slc 0 9)) nil) λa=>(cl (cl (gs a.1 (c fZ (c fZ (c fZ (c fZ (c fZ (c fZ (c fZ (c fZ (cl fZ nil)))))))))) nil) nil)):Rq (List AV×List aj) _)
def sC:=(open Go.Ab.Rq in(res (pr (ac (AG 1 9)) (pu (cu fD nil) (cl (cl (ga (pr (szs hole) (c fZ (c fZ (c fZ (c fZ (c fZ (c fZ (c fZ (c fZ (cl fZ nil))))))))))) nil) nil)))):Rq (pe) _)
abbrev im:=Nat×(Nat->Int)×(Nat->Int)×(Nat->Int)×(Nat->Int)×(Nat->Int)×(Nat->Int)×(Nat->Int)×(Nat->Int)×(Nat->Int)
def GO (d:im):T:=(λd=>.leaf (sC.em (d.1,d))) d
abbrev mf:=Nat->(Nat->Int)->(Nat->Int)->(Nat->Int)->(Nat->Int)->(Nat->Int)->(Nat->Int)->(Nat->Int)->(Nat->Int)->(Nat->Int)->Bool->Option im
def tz (g:mf):Ct:=(166,vA 0 [.i .i64,.i .i64,.i .i64,.i .i64,.i .i64,.i .i64,.i .i64,.i .i64,.i .i64] (FC tx GO (λb=>g b.1.1 b.2.1 b.2.2.1 b.2.2.2.1 b.2.2.2.2.1 b.2.2.2.2.2.1 b.2.2.2.2.2.2.1 b.2.2.2.2.2.2.2.1 b.2.2.2.2.2.2.2.2.1 b.2.2.2.2.2.2.2.2.2 b.1.2)))
def fq (x0:Nat)(x1 x2 x3 x4 x5 x6 x7 x8 x9:Nat->Int)(w0:Bool):Option im:=
 bif wl (x0*72) 140737488355328 then some (x0,x1,x2,x3,x4,x5,x6,x7,x8,x9) else none
theorem FM:∀b,(tx).em b=([.r (.c (.sl 0 (.k 0) (.s b.1.1) 9 b.1.2))],[[.a (.s b.1.1) [.i .i64 b.2.1,.i .i64 b.2.2.1,.i .i64 b.2.2.2.1,.i .i64 b.2.2.2.2.1,.i .i64 b.2.2.2.2.2.1,.i .i64 b.2.2.2.2.2.2.1,.i .i64 b.2.2.2.2.2.2.2.1,.i .i64 b.2.2.2.2.2.2.2.2.1,.i .i64 b.2.2.2.2.2.2.2.2.2]]]):=λb=>by kernel_rfl
theorem GP [aA]:Snd Tryz.prog (tz fq):=Sound.nil 0 [.i .i64,.i .i64,.i .i64,.i .i64,.i .i64,.i .i64,.i .i64,.i .i64,.i .i64]<|λargs h r hr w π vs ln hH jZ=>by
 obtain⟨b,d,e,hd,hq⟩:=ax9 hr;rw[FM] at e;obtain⟨hc,rfl⟩:=as8 hd;obtain⟨rfl,rfl⟩:=Prod.mk.inj e;have hr2:sC.em (_,_)=r:=Ka hq;subst hr2;exact .inl ⟨IB (by kernel_rfl) _ _,aKX (gs:=[b.2.1,b.2.2.1,b.2.2.2.1,b.2.2.2.2.1,b.2.2.2.2.2.1,b.2.2.2.2.2.2.1,b.2.2.2.2.2.2.2.1,b.2.2.2.2.2.2.2.2.1,b.2.2.2.2.2.2.2.2.2]) rfl _ (Wg hc) _ w π vs ln hH λb hb=>jZ b hb⟩
open Go.Ab Go.Ab.Pg Go.Ab.Rq
def aiC:=qa (pr (cu aS Fw) bJ)
def OE:=qe qu
abbrev aiD:=OE.B
abbrev cw:=Int->Int->Int->Bool->Option aiD
def dZ (g:cw):Ct:=(119,FC aiC (lf OE) (λb=>g b.1.1 b.1.2.1 b.1.b b.2))
def tY (x0:Int)(x1:Int)(x2:Int)(x3:Bool):Pg aiD:=ae (decide (x1>x2)) (ret (x1,true)) (ae (decide (x0<x1)) (ret (x1,true)) (ae (decide (x0>x2)) (ret (x2,true)) (ret (x0,x3))))
def aY:=λx0 x1 x2 x3=>(tY x0 x1 x2 x3).val
theorem aB7:D1 [] [0] 119 aiC (lf OE) λb=>tY b.1.1 b.1.2.1 b.1.b b.2:=λb=>by kernel_rfl
theorem eP [aA]:SC (dZ aY):=s0 (.nil _) aB7
def aqh:=qa (pr (cu aS iA) bJ)
def Wy:=qe qu
abbrev aqi:=Wy.B
abbrev bW:=Int->Bool->Option aqi
def dr (g:bW):Ct:=(126,FC aqh (lf Wy) (λb=>g b.1 b.2))
def Qo (aG:cw)(x0:Int)(x1:Bool):Pg aqi:=opt (aG x0 (-1152921504606846976) 1152921504606846976 x1) λd=>ret d
def aP:=λx0 x1=>(Qo aY x0 x1).val
theorem aG5:∀aG,D0 [dZ aG] 126 aqh (lf Wy) λb=>Qo aG b.1 b.2:=λ_ b=>by kernel_rfl
theorem dx [aA]:SC (dr aP):=s0 (.c eP (.nil _)) (aG5 aY)
def aqj:=qa (pl iA nil)
def Wz:=qe aVy
abbrev aqk:=Wz.B
abbrev Qp:=Int->Option aqk
def Qq (g:Qp):Ct:=(185,FC aqj (lf Wz) (λb=>g b))
def abT (x0:Int):Pg aqk:=ae (decide (x0<0)) (ret (wU (0-wU x0))) (ret (wU x0))
def rL:=λx0=>(abT x0).val
theorem aG6:D0 [] 185 aqj (lf Wz) λb=>abT b:=λb=>by kernel_rfl
theorem abU [aA]:SC (Qq rL):=s0 (.nil _) aG6
def aql:=qa (pl (c an aIl) nil)
def WA:=qe aPJ
abbrev aqm:=WA.B
abbrev aqn:=Int->Int->Option aqm
def aqo (g:aqn):Ct:=(184,FC aql (lf WA) (λb=>g b.1 b.2))
def abV (x0:Int)(x1:Int):Pg aqm:=let y0:=v4 x0 4294967296;let y1:=v4 x1 4294967296;let y2:=wU (wr (v6 (wd 64 x0&&&wd 64 4294967295)));let y3:=wU (wr (v6 (wd 64 x1&&&wd 64 4294967295)));let y4:=wU (wU (y0*y3)+v4 (wU (y2*y3)) 4294967296);ret (wU (wU (wU (y0*y1)+v4 y4 4294967296)+v4 (wU (wU (wr (v6 (wd 64 y4&&&wd 64 4294967295)))+wU (y2*y1))) 4294967296),wU (x0*x1))
def IC:=λx0 x1=>(abV x0 x1).val
theorem aG7:D0 [] 184 aql (lf WA) λb=>abV b.1 b.2:=λb=>by kernel_rfl
theorem aG8 [aA]:SC (aqo IC):=s0 (.nil _) aG7
def alv:=qa (pl (c Wc aMz) nil)
def S6:=qe aPN
abbrev WB:=S6.B
abbrev WC:=Int->Int->Bool->Option WB
def WD (g:WC):Ct:=(186,FC alv (lf S6) (λb=>g b.1.1 b.1.2 b.2))
def L4 (nc:auS)(x0:Int)(x1:Int)(x2:Bool):Pg WB:=ae (!x2) (ret ((wI x0,x1),v4 x0 9223372036854775808==0)) (opt (nc (wU (wr (v6 (wd 64 18446744073709551615^^^wd 64 x1)))) 1 0) λd=>let y0:=wI (wU (wU (wr (v6 (wd 64 18446744073709551615^^^wd 64 x0)))+d.2));ae (decide (y0<0)) (ret ((y0,d.1),true)) (ret ((y0,d.1),x0==0&&(x1==0&&true))))
def nd:=λx0 x1 x2=>(L4 DA x0 x1 x2).val
theorem aFk:∀nc,D0 [alr nc] 186 alv (lf S6) λb=>L4 nc b.1.1 b.1.2 b.2:=λ_ b=>by kernel_rfl
theorem alw [aA]:SC (WD nd):=s0 (.c ao1 (.nil _)) (aFk DA)
def az2:=qa (pl A4 nil)
def agw:=qe aVY
abbrev alx:=agw.B
abbrev oy:=Int->Int->Option alx
def yK (g:oy):Ct:=(116,FC az2 (lf agw) (λb=>g b.1 b.2))
def aly (hO:Qp)(Qr:aqn)(pB:WC)(x0:Int)(x1:Int):Pg alx:=opt (hO x0) λd=>opt (hO x1) λak=>opt (Qr d ak) λd=>opt (pB d.1 d.2 !decide (x0<0)==decide (x1<0)) λd=>ret d.1
def fE:=λx0 x1=>(aly rL IC nd x0 x1).val
theorem aNH:∀hO Qr pB,D0 [Qq hO,aqo Qr,WD pB] 116 az2 (lf agw) λb=>aly hO Qr pB b.1 b.2:=λ_ _ _ b=>by kernel_rfl
theorem BU [aA]:SC (yK fE):=s0 (.c abU (.c aG8 (.c alw (.nil _)))) (aNH rL IC nd)
def az3:=qa (pl aDM nil)
def agx:=qe (res (pl (rH (c (ra axl) aR8)) (pu nil nil)))
abbrev az4:=agx.B
abbrev alz:=Int->Int->Option az4
def alA (g:alz):Ct:=(188,FC az3 (lf agx) (λb=>g b.1 b.2))
def alB (nc:auS)(x0:Int)(x1:Int):Pg az4:=ae (decide (x0>=0)) (ret ((wU x0,x1),false)) (opt (nc (wU (wr (v6 (wd 64 18446744073709551615^^^wd 64 x1)))) 1 0) λd=>ret ((wU (wU (wr (v6 (wd 64 18446744073709551615^^^wd 64 (wU x0))))+d.2),d.1),true))
def FN:=λx0 x1=>(alB DA x0 x1).val
theorem aNI:∀nc,D0 [alr nc] 188 az3 (lf agx) λb=>alB nc b.1 b.2:=λ_ b=>by kernel_rfl
theorem az5 [aA]:SC (alA FN):=s0 (.c ao1 (.nil _)) (aNI DA)
def aiE:=qa (pl (c Wc iA) nil)
def OF:=qe aJ4
abbrev aiF:=OF.B
abbrev DE:=Int->Int->Int->Option aiF
def Jk (g:DE):Ct:=(190,FC aiE (lf OF) (λb=>g b.1.1 b.1.2 b.2))
def S7 (x0:Int)(x1:Int)(x2:Int):Pg aiF:=let y0:=wI (64-x2);let y1:=wI (x2-64);let y2:=2^min (z4 x2) 64;let y3:= !decide (x2<0);ae (decide (x2>=64)) (ae (!decide (y1<0)) (ret (wU (x1*2^min (z4 y1) 64),0)) no) (ae y3 (ae (!decide (y0<0)) (ae y3 (ret (wU (wr (v6 (wd 64 (wU (x0*y2))|||wd 64 (v4 x1 (2^min (z4 y0) 64))))),wU (x1*y2))) no) no) no)
def gH:=λx0 x1 x2=>(S7 x0 x1 x2).val
theorem aB8:D0 [] 190 aiE (lf OF) λb=>S7 b.1.1 b.1.2 b.2:=λb=>by kernel_rfl
theorem S8 [aA]:SC (Jk gH):=s0 (.nil _) aB8
def adS:=qa (pl (c Wc (cl Wc nil)) nil)
def L5:=qe aJ4
abbrev adT:=L5.B
abbrev vL:=Int->Int->Int->Int->Option adT
def GQ (g:vL):Ct:=(189,FC adS (lf L5) (λb=>g b.1.1 b.1.2 b.2.1 b.b))
def OG (nc:auS)(x0:Int)(x1:Int)(x2:Int)(x3:Int):Pg adT:=opt (nc x1 x3 0) λd=>opt (nc x0 x2 d.2) λak=>ret (ak.1,d.1)
def iY:=λx0 x1 x2 x3=>(OG DA x0 x1 x2 x3).val
theorem aya:∀nc,D0 [alr nc] 189 adS (lf L5) λb=>OG nc b.1.1 b.1.2 b.2.1 b.b:=λ_ b=>by kernel_rfl
theorem OH [aA]:SC (GQ iY):=s0 (.c ao1 (.nil _)) (aya DA)
def aiG:=qa (pl (c Wc iA) nil)
def OJ:=qe aJ4
abbrev aiH:=OJ.B
abbrev DF:=Int->Int->Int->Option aiH
def Jl (g:DF):Ct:=(192,FC aiG (lf OJ) (λb=>g b.1.1 b.1.2 b.2))
def Jm (x0:Int)(x1:Int)(x2:Int):Pg aiH:=let y0:=wI (64-x2);let y1:=wI (x2-64);let y2:=2^min (z4 x2) 64;let y3:= !decide (x2<0);ae (decide (x2>=64)) (ae (!decide (y1<0)) (ret (0,v4 x0 (2^min (z4 y1) 64))) no) (ae y3 (ae y3 (ae (!decide (y0<0)) (ret (v4 x0 y2,wU (wr (v6 (wd 64 (v4 x1 y2)|||wd 64 (wU (x0*2^min (z4 y0) 64))))))) no) no) no)
def iT:=λx0 x1 x2=>(Jm x0 x1 x2).val
theorem aB9:D0 [] 192 aiG (lf OJ) λb=>Jm b.1.1 b.1.2 b.2:=λb=>by kernel_rfl
theorem S9 [aA]:SC (Jl iT):=s0 (.nil _) aB9
def adU:=qa (pl (c Wc aMz) nil)
def L6:=qe axs
abbrev adV:=L6.B
abbrev Be:=Int->Int->Bool->Option adV
def GR (g:Be):Ct:=(191,FC adU (lf L6) (λb=>g b.1.1 b.1.2 b.2))
def OK (x0:Int)(x1:Int)(x2:Bool):Pg adV:=let y0:=x0 !=0;let y1:=decide (x1>9223372036854775807);ae y0 (ae y0 (ret (0,false)) (ae x2 (ret (wI (wU (0-x1)),true)) (ret (wI x1,true)))) (ae (!x2) (ae y1 (ae y1 (ret (0,false)) (ae x2 (ret (wI (wU (0-x1)),true)) (ret (wI x1,true)))) (ae x2 (ae (decide (x1>9223372036854775808)) (ret (0,false)) (ae x2 (ret (wI (wU (0-x1)),true)) (ret (wI x1,true)))) (ae x2 (ret (wI (wU (0-x1)),true)) (ret (wI x1,true))))) (ae x2 (ae (decide (x1>9223372036854775808)) (ret (0,false)) (ae x2 (ret (wI (wU (0-x1)),true)) (ret (wI x1,true)))) (ae x2 (ret (wI (wU (0-x1)),true)) (ret (wI x1,true)))))
def iZ:=λx0 x1 x2=>(OK x0 x1 x2).val
theorem ayb:D0 [] 191 adU (lf L6) λb=>OK b.1.1 b.1.2 b.2:=λb=>by kernel_rfl
theorem OL [aA]:SC (GR iZ):=s0 (.nil _) ayb
def aqp:=qa (pl (c afC iA) nil)
def WE:=qe axs
abbrev aqq:=WE.B
abbrev Eb:=Int->Int->Int->Option aqq
def Qs (g:Eb):Ct:=(118,FC aqp (lf WE) (λb=>g b.1.1 b.1.2 b.2))
def abW (yL:alz)(j9:DE)(fu:vL)(iU:DF)(fw:Be)(x0:Int)(x1:Int)(x2:Int):Pg aqq:=ae (decide (x2<0)) (ret (0,false)) (ae (decide (x2>126)) (ret (0,false)) (opt (yL x0 x1) λd=>ae (decide (x2>0)) (opt (j9 0 1 (wI (x2-1))) λak=>opt (fu d.1.1 d.1.2 ak.1 ak.2) λaF=>opt (iU aF.1 aF.2 x2) λbA=>opt (fw bA.1 bA.2 d.2) λd=>ret d) (opt (iU d.1.1 d.1.2 x2) λak=>opt (fw ak.1 ak.2 d.2) λd=>ret d)))
def rM:=λx0 x1 x2=>(abW FN gH iY iT iZ x0 x1 x2).val
theorem aG9:∀yL j9 fu iU fw,D0 [alA yL,Jk j9,GQ fu,Jl iU,GR fw] 118 aqp (lf WE) λb=>abW yL j9 fu iU fw b.1.1 b.1.2 b.2:=λ_ _ _ _ _ b=>by kernel_rfl
theorem abX [aA]:SC (Qs rM):=s0 (.c az5 (.c S8 (.c OH (.c S9 (.c OL (.nil _)))))) (aG9 FN gH iY iT iZ)
def aFl:=qa (pl aMz nil)
def alC:=qe HT
abbrev aFm:=alC.B
abbrev WG:=Bool->Option aFm
def WH (g:WG):Ct:=(199,FC aFl (lf alC) (λb=>g b))
def OM (x0:Bool):Pg aFm:=ae x0 (ret (-1152921504606846976)) (ret 1152921504606846976)
def nS:=λx0=>(OM x0).val
theorem aQS:D0 [] 199 aFl (lf alC) λb=>OM b:=λb=>by kernel_rfl
theorem agy [aA]:SC (WH nS):=s0 (.nil _) aQS
def aqr:=qa (pr (cu aS (c ai (c ab aMz))) bJ)
def WI:=qe qu
abbrev aqs:=WI.B
abbrev ID:=Int->Bool->Bool->Bool->Option aqs
def Qt (g:ID):Ct:=(198,FC aqr (lf WI) (λb=>g b.1.1 b.1.2.1 b.1.b b.2))
def Ec (jK:WG)(ay:bW)(x0:Int)(x1:Bool)(x2:Bool)(x3:Bool):Pg aqs:=ae (!x1) (opt (jK x2) λd=>ret (d,true)) (opt (ay x0 x3) λd=>ret d)
def kl:=λx0 x1 x2 x3=>(Ec nS aP x0 x1 x2 x3).val
theorem aHa:∀jK ay,D0 [WH jK,dr ay] 198 aqr (lf WI) λb=>Ec jK ay b.1.1 b.1.2.1 b.1.b b.2:=λ_ _ b=>by kernel_rfl
theorem abY [aA]:SC (Qt kl):=s0 (.c agy (.c dx (.nil _))) (aHa nS aP)
def aiI:=qa (pr (cu aS (c afC iA)) bJ)
def ON:=qe qu
abbrev aiJ:=ON.B
abbrev yu:=Int->Int->Int->Bool->Option aiJ
def Jo (g:yu):Ct:=(127,FC aiI (lf ON) (λb=>g b.1.1.1 b.1.1.2 b.1.2 b.2))
def Ta (vC:Eb)(nh:ID)(x0:Int)(x1:Int)(x2:Int)(x3:Bool):Pg aiJ:=ae (decide (x2<0)) (ret (0,true)) (ae (decide (x2>120)) (ret (0,true)) (opt (vC x0 x1 x2) λd=>opt (nh d.1 d.2 (decide (x0<0)) x3) λd=>ret d))
def nE:=λx0 x1 x2 x3=>(Ta rM kl x0 x1 x2 x3).val
theorem aCa:∀vC nh,D0 [Qs vC,Qt nh] 127 aiI (lf ON) λb=>Ta vC nh b.1.1.1 b.1.1.2 b.1.2 b.2:=λ_ _ b=>by kernel_rfl
theorem Tb [aA]:SC (Jo nE):=s0 (.c abX (.c abY (.nil _))) (aCa rM kl)
def aqt:=qa (pr (cu aS Fw) bJ)
def WJ:=qe qu
abbrev aqu:=WJ.B
abbrev bR:=Int->Int->Int->Bool->Option aqu
def eT (g:bR):Ct:=(72,FC aqt (lf WJ) (λb=>g b.1.1 b.1.2.1 b.1.b b.2))
def abZ (ay:bW)(cU:oy)(iV:yu)(x0:Int)(x1:Int)(x2:Int)(x3:Bool):Pg aqu:=opt (ay x0 x3) λd=>opt (ay x1 d.2) λak=>opt (cU d.1 ak.1) λd=>opt (iV d.1 d.2 x2 ak.2) λd=>ret d
def aW:=λx0 x1 x2 x3=>(abZ aP fE nE x0 x1 x2 x3).val
theorem aHb:∀ay cU iV,D0 [dr ay,yK cU,Jo iV] 72 aqt (lf WJ) λb=>abZ ay cU iV b.1.1 b.1.2.1 b.1.b b.2:=λ_ _ _ b=>by kernel_rfl
theorem fA [aA]:SC (eT aW):=s0 (.c dx (.c BU (.c Tb (.nil _)))) (aHb aP fE nE)
def alD:=qa (pr aJZ (cu asp bJ))
def Tc:=qe aPG
abbrev alE:=Tc.B
abbrev WK:=Int->Int->Bool->Option alE
def WL (g:WK):Ct:=(77,FC alD (lf Tc) (λb=>g b.1.1 b.1.2 b.2))
def WM (aC:bR)(x0:Int)(x1:Int)(x2:Bool):Pg alE:=opt (aC x0 x1 30 x2) λd=>ret d
def wj:=λx0 x1 x2=>(WM aW x0 x1 x2).val
theorem aFn:∀aC,D0 [eT aC] 77 alD (lf Tc) λb=>WM aC b.1.1 b.1.2 b.2:=λ_ b=>by kernel_rfl
theorem alF [aA]:SC (WL wj):=s0 (.c fA (.nil _)) (aFn aW)
def aqv:=qa (pl aIl nil)
def WN:=qe HT
abbrev aqw:=WN.B
abbrev aqx:=Int->Option aqw
def aqy (g:aqx):Ct:=(267,FC aqv (lf WN) (λb=>g b))
def ab0 (x0:Int):Pg aqw:=let y0:=v4 x0 65536;let y1:=v4 x0 4294967296;let y2:=IntKind.wrap IntKind.u8 (v4 x0 256);let y3:=IntKind.wrap IntKind.u8 y0;let y4:=IntKind.wrap IntKind.u8 y1;let y5:=v4 y1 65536;let y6:=IntKind.wrap IntKind.u8 y5;let y7:=IntKind.wrap IntKind.u8 (v4 y0 256);let y8:=IntKind.wrap IntKind.u8 (v4 y1 256);let y9:=IntKind.wrap IntKind.u8 (v4 y5 256);ae (decide (x0>=4294967296)) (ae (decide (y1>=65536)) (ae (decide (y5>=256)) (ae (bg y9 256) (ret (wI (56+wI (EN (ByteArray.mk (List.toArray (ul (ul [0,1,2,2,3,3,3,3,4,4,4,4,4,4,4,4,5,5,5,5,5,5,5,5,5,5,5,5,5,5,5,5,6,6,6,6,6,6,6,6,6,6,6,6,6,6,6,6,6,6,6,6,6,6,6,6,6,6,6,6,6,6,6,6] [7,7,7,7,7,7,7,7,7,7,7,7,7,7,7,7,7,7,7,7,7,7,7,7,7,7,7,7,7,7,7,7,7,7,7,7,7,7,7,7,7,7,7,7,7,7,7,7,7,7,7,7,7,7,7,7,7,7,7,7,7,7,7,7]) (ul [8,8,8,8,8,8,8,8,8,8,8,8,8,8,8,8,8,8,8,8,8,8,8,8,8,8,8,8,8,8,8,8,8,8,8,8,8,8,8,8,8,8,8,8,8,8,8,8,8,8,8,8,8,8,8,8,8,8,8,8,8,8,8,8] [8,8,8,8,8,8,8,8,8,8,8,8,8,8,8,8,8,8,8,8,8,8,8,8,8,8,8,8,8,8,8,8,8,8,8,8,8,8,8,8,8,8,8,8,8,8,8,8,8,8,8,8,8,8,8,8,8,8,8,8,8,8,8,8])))) (z4 y9))))) no) (ae (bg y6 256) (ret (wI (48+wI (EN (ByteArray.mk (List.toArray (ul (ul [0,1,2,2,3,3,3,3,4,4,4,4,4,4,4,4,5,5,5,5,5,5,5,5,5,5,5,5,5,5,5,5,6,6,6,6,6,6,6,6,6,6,6,6,6,6,6,6,6,6,6,6,6,6,6,6,6,6,6,6,6,6,6,6] [7,7,7,7,7,7,7,7,7,7,7,7,7,7,7,7,7,7,7,7,7,7,7,7,7,7,7,7,7,7,7,7,7,7,7,7,7,7,7,7,7,7,7,7,7,7,7,7,7,7,7,7,7,7,7,7,7,7,7,7,7,7,7,7]) (ul [8,8,8,8,8,8,8,8,8,8,8,8,8,8,8,8,8,8,8,8,8,8,8,8,8,8,8,8,8,8,8,8,8,8,8,8,8,8,8,8,8,8,8,8,8,8,8,8,8,8,8,8,8,8,8,8,8,8,8,8,8,8,8,8] [8,8,8,8,8,8,8,8,8,8,8,8,8,8,8,8,8,8,8,8,8,8,8,8,8,8,8,8,8,8,8,8,8,8,8,8,8,8,8,8,8,8,8,8,8,8,8,8,8,8,8,8,8,8,8,8,8,8,8,8,8,8,8,8])))) (z4 y6))))) no)) (ae (decide (y1>=256)) (ae (bg y8 256) (ret (wI (40+wI (EN (ByteArray.mk (List.toArray (ul (ul [0,1,2,2,3,3,3,3,4,4,4,4,4,4,4,4,5,5,5,5,5,5,5,5,5,5,5,5,5,5,5,5,6,6,6,6,6,6,6,6,6,6,6,6,6,6,6,6,6,6,6,6,6,6,6,6,6,6,6,6,6,6,6,6] [7,7,7,7,7,7,7,7,7,7,7,7,7,7,7,7,7,7,7,7,7,7,7,7,7,7,7,7,7,7,7,7,7,7,7,7,7,7,7,7,7,7,7,7,7,7,7,7,7,7,7,7,7,7,7,7,7,7,7,7,7,7,7,7]) (ul [8,8,8,8,8,8,8,8,8,8,8,8,8,8,8,8,8,8,8,8,8,8,8,8,8,8,8,8,8,8,8,8,8,8,8,8,8,8,8,8,8,8,8,8,8,8,8,8,8,8,8,8,8,8,8,8,8,8,8,8,8,8,8,8] [8,8,8,8,8,8,8,8,8,8,8,8,8,8,8,8,8,8,8,8,8,8,8,8,8,8,8,8,8,8,8,8,8,8,8,8,8,8,8,8,8,8,8,8,8,8,8,8,8,8,8,8,8,8,8,8,8,8,8,8,8,8,8,8])))) (z4 y8))))) no) (ae (bg y4 256) (ret (wI (32+wI (EN (ByteArray.mk (List.toArray (ul (ul [0,1,2,2,3,3,3,3,4,4,4,4,4,4,4,4,5,5,5,5,5,5,5,5,5,5,5,5,5,5,5,5,6,6,6,6,6,6,6,6,6,6,6,6,6,6,6,6,6,6,6,6,6,6,6,6,6,6,6,6,6,6,6,6] [7,7,7,7,7,7,7,7,7,7,7,7,7,7,7,7,7,7,7,7,7,7,7,7,7,7,7,7,7,7,7,7,7,7,7,7,7,7,7,7,7,7,7,7,7,7,7,7,7,7,7,7,7,7,7,7,7,7,7,7,7,7,7,7]) (ul [8,8,8,8,8,8,8,8,8,8,8,8,8,8,8,8,8,8,8,8,8,8,8,8,8,8,8,8,8,8,8,8,8,8,8,8,8,8,8,8,8,8,8,8,8,8,8,8,8,8,8,8,8,8,8,8,8,8,8,8,8,8,8,8] [8,8,8,8,8,8,8,8,8,8,8,8,8,8,8,8,8,8,8,8,8,8,8,8,8,8,8,8,8,8,8,8,8,8,8,8,8,8,8,8,8,8,8,8,8,8,8,8,8,8,8,8,8,8,8,8,8,8,8,8,8,8,8,8])))) (z4 y4))))) no))) (ae (decide (x0>=65536)) (ae (decide (y0>=256)) (ae (bg y7 256) (ret (wI (24+wI (EN (ByteArray.mk (List.toArray (ul (ul [0,1,2,2,3,3,3,3,4,4,4,4,4,4,4,4,5,5,5,5,5,5,5,5,5,5,5,5,5,5,5,5,6,6,6,6,6,6,6,6,6,6,6,6,6,6,6,6,6,6,6,6,6,6,6,6,6,6,6,6,6,6,6,6] [7,7,7,7,7,7,7,7,7,7,7,7,7,7,7,7,7,7,7,7,7,7,7,7,7,7,7,7,7,7,7,7,7,7,7,7,7,7,7,7,7,7,7,7,7,7,7,7,7,7,7,7,7,7,7,7,7,7,7,7,7,7,7,7]) (ul [8,8,8,8,8,8,8,8,8,8,8,8,8,8,8,8,8,8,8,8,8,8,8,8,8,8,8,8,8,8,8,8,8,8,8,8,8,8,8,8,8,8,8,8,8,8,8,8,8,8,8,8,8,8,8,8,8,8,8,8,8,8,8,8] [8,8,8,8,8,8,8,8,8,8,8,8,8,8,8,8,8,8,8,8,8,8,8,8,8,8,8,8,8,8,8,8,8,8,8,8,8,8,8,8,8,8,8,8,8,8,8,8,8,8,8,8,8,8,8,8,8,8,8,8,8,8,8,8])))) (z4 y7))))) no) (ae (bg y3 256) (ret (wI (16+wI (EN (ByteArray.mk (List.toArray (ul (ul [0,1,2,2,3,3,3,3,4,4,4,4,4,4,4,4,5,5,5,5,5,5,5,5,5,5,5,5,5,5,5,5,6,6,6,6,6,6,6,6,6,6,6,6,6,6,6,6,6,6,6,6,6,6,6,6,6,6,6,6,6,6,6,6] [7,7,7,7,7,7,7,7,7,7,7,7,7,7,7,7,7,7,7,7,7,7,7,7,7,7,7,7,7,7,7,7,7,7,7,7,7,7,7,7,7,7,7,7,7,7,7,7,7,7,7,7,7,7,7,7,7,7,7,7,7,7,7,7]) (ul [8,8,8,8,8,8,8,8,8,8,8,8,8,8,8,8,8,8,8,8,8,8,8,8,8,8,8,8,8,8,8,8,8,8,8,8,8,8,8,8,8,8,8,8,8,8,8,8,8,8,8,8,8,8,8,8,8,8,8,8,8,8,8,8] [8,8,8,8,8,8,8,8,8,8,8,8,8,8,8,8,8,8,8,8,8,8,8,8,8,8,8,8,8,8,8,8,8,8,8,8,8,8,8,8,8,8,8,8,8,8,8,8,8,8,8,8,8,8,8,8,8,8,8,8,8,8,8,8])))) (z4 y3))))) no)) (ae (decide (x0>=256)) (ae (bg y2 256) (ret (wI (8+wI (EN (ByteArray.mk (List.toArray (ul (ul [0,1,2,2,3,3,3,3,4,4,4,4,4,4,4,4,5,5,5,5,5,5,5,5,5,5,5,5,5,5,5,5,6,6,6,6,6,6,6,6,6,6,6,6,6,6,6,6,6,6,6,6,6,6,6,6,6,6,6,6,6,6,6,6] [7,7,7,7,7,7,7,7,7,7,7,7,7,7,7,7,7,7,7,7,7,7,7,7,7,7,7,7,7,7,7,7,7,7,7,7,7,7,7,7,7,7,7,7,7,7,7,7,7,7,7,7,7,7,7,7,7,7,7,7,7,7,7,7]) (ul [8,8,8,8,8,8,8,8,8,8,8,8,8,8,8,8,8,8,8,8,8,8,8,8,8,8,8,8,8,8,8,8,8,8,8,8,8,8,8,8,8,8,8,8,8,8,8,8,8,8,8,8,8,8,8,8,8,8,8,8,8,8,8,8] [8,8,8,8,8,8,8,8,8,8,8,8,8,8,8,8,8,8,8,8,8,8,8,8,8,8,8,8,8,8,8,8,8,8,8,8,8,8,8,8,8,8,8,8,8,8,8,8,8,8,8,8,8,8,8,8,8,8,8,8,8,8,8,8])))) (z4 y2))))) no) (ae (bg (IntKind.wrap IntKind.u8 x0) 256) (ret (wI (0+wI (EN (ByteArray.mk (List.toArray (ul (ul [0,1,2,2,3,3,3,3,4,4,4,4,4,4,4,4,5,5,5,5,5,5,5,5,5,5,5,5,5,5,5,5,6,6,6,6,6,6,6,6,6,6,6,6,6,6,6,6,6,6,6,6,6,6,6,6,6,6,6,6,6,6,6,6] [7,7,7,7,7,7,7,7,7,7,7,7,7,7,7,7,7,7,7,7,7,7,7,7,7,7,7,7,7,7,7,7,7,7,7,7,7,7,7,7,7,7,7,7,7,7,7,7,7,7,7,7,7,7,7,7,7,7,7,7,7,7,7,7]) (ul [8,8,8,8,8,8,8,8,8,8,8,8,8,8,8,8,8,8,8,8,8,8,8,8,8,8,8,8,8,8,8,8,8,8,8,8,8,8,8,8,8,8,8,8,8,8,8,8,8,8,8,8,8,8,8,8,8,8,8,8,8,8,8,8] [8,8,8,8,8,8,8,8,8,8,8,8,8,8,8,8,8,8,8,8,8,8,8,8,8,8,8,8,8,8,8,8,8,8,8,8,8,8,8,8,8,8,8,8,8,8,8,8,8,8,8,8,8,8,8,8,8,8,8,8,8,8,8,8])))) (z4 (IntKind.wrap IntKind.u8 x0)))))) no)))
def IE:=λx0=>(ab0 x0).val
theorem aHc:D0 [] 267 aqv (lf WN) λb=>ab0 b:=λb=>by kernel_rfl
theorem aHd [aA]:SC (aqy IE):=s0 (.nil _) aHc
def L7:=qa (pl aIl nil)
def Bg:=qe HT
abbrev L8:=Bg.B
abbrev Ci:=Int->Option L8
def L9 (g:Ci):Ct:=(261,FC L7 (lf Bg) (λb=>g b))
def Cj (Qu:aqx)(x0:Int):Pg L8:=opt (Qu x0) λd=>ret (wI (64-d))
def pC:=λx0=>(Cj IE x0).val
theorem agz:∀Qu,D0 [aqy Qu] 261 L7 (lf Bg) λb=>Cj Qu b:=λ_ b=>by kernel_rfl
theorem agA [aA]:SC (L9 pC):=s0 (.c aHd (.nil _)) (agz IE)
def aqz:=qa (pl (c an (c an aIl)) nil)
def WO:=qe aPJ
abbrev aqA:=WO.B
abbrev aqB:=Int->Int->Int->Option aqA
def aqC (g:aqB):Ct:=(241,FC aqz (lf WO) (λb=>g b.1 b.2.1 b.b))
def vM:=qs (st (pl (us 2 (c an (us 5 (c an (c an (c an (c an (us 1 (c an (c an (c an (cl an (us 88 aPd))))))))))))) (pu nil nil)))
def auU:=qs (st (pl (us 2 (c an (us 5 (c an (c an (c an (c an (us 1 (c an (c an (c an (c an (us 50 (c an (c ab (cu J1 (xs 8 (cu J1 aWr)))))))))))))))))) (pu nil nil)))
def auV:=qs (st (pl (us 2 (c an (us 5 (c an (c an (c an (c an (us 1 (c an (c an (c an (c an (us 50 (c an (c ab (cu tQ (c an (c an (c an (c an (c an (c an (c an (c ab (c ab aWr))))))))))))))))))))))))) (pu nil nil)))
def auW:=qs (st (pl (us 2 (c an (us 5 (c an (c an (c an (c an (us 1 (c an (c an (c an (c an (us 50 (c an (c ab (cu tQ (c an (c an (c an (c an (c an (c an (c an (c ab (cl ab (us 26 aPd)))))))))))))))))))))))))) (pu nil nil)))
abbrev Jp:=a0P⊕a0M
def aiK {ρ:Type}(x:Jp)(K:AX->St->Option ρ):Option ρ:=(t9 (λd=>K (.ex 0) (auU.em (d.1,d.2.1,d.b.1,d.b.2.1,d.c.1,d.c.2.1,d.c.b.1,d.c.b.2.1,d.d.1,d.d.2.1,d.d.b.1,d.d.2.1,d.c.b.2.1,d.d.b.2.1,d.b.1,d.d.1,d.d.1,d.d.c))) (t9 (λd=>K (.ex 0) (auV.em (d.1,d.2.1,d.b.1,d.b.2.1,d.c.1,d.c.2.1,d.c.b.1,d.c.b.2.1,d.d.1,d.d.2.1,d.d.b.1,d.d.2.1,d.b.2.1,d.d.b.2.1,d.d.c.1,d.d.c.2.1,d.c.2.1,d.d.c.b.1,d.d.c.b.2.1,d.d.c.b.2.1,d.d.2.1,d.c.b.2.1,d.d.c.1,d.b.1,d.d.1,d.d.1,d.e))) (λd=>K (.ex 0) (auW.em (d.1,d.2.1,d.b.1,d.b.2.1,d.c.1,d.c.2.1,d.c.b.1,d.c.b.2.1,d.d.1,d.c.b.2.1,d.d.2.1,d.c.b.2.1,d.b.2.1,d.d.b.1,d.d.1,d.d.b.2.1,d.c.2.1,d.d.c.1,d.d.c.2,d.d.c.2))))) x
def Jq (d:vM.B):PL vM Jp:=let y0:=wU (4294967296*d.2.2.2.2.2.2.2.2);let y1:=wU (d.2.2.2.2.2.2.2.1-1);let y2:=wU (d.2.2.2.2.2.2.2.2+d.2.2.1);let y3:=wU (d.2.2.2.2.2.2.2.1*d.2.2.2.1);let y4:=decide (d.2.2.2.2.2.2.2.1>=4294967296);let y5:=wU (y0+d.2.2.2.2.2.1);let y6:=decide (y2>=4294967296);let y7:=decide (y3>y5);ae y4 (ae y6 (ret (ws (ww (d.1,d.2.1,d.2.2.1,d.2.2.2.1,d.2.2.2.2.1,d.2.2.2.2.2.1,d.2.2.2.2.2.2.1,y1,y2,d.2.2.2.2.2.2.2.1,y4,d.2.2.2.2.2.2.2.2,y6)))) (ret (ww (d.1,d.2.1,d.2.2.1,d.2.2.2.1,d.2.2.2.2.1,d.2.2.2.2.2.1,d.2.2.2.2.2.2.1,y1,y2)))) (ae y7 (ae y6 (ret (ws (ws (ww (d.1,d.2.1,d.2.2.1,d.2.2.2.1,d.2.2.2.2.1,d.2.2.2.2.2.1,d.2.2.2.2.2.2.1,y1,y2,d.2.2.2.2.2.2.2.1,y4,y3,d.2.2.2.2.2.2.2.2,y0,y5,y7,y6))))) (ret (ww (d.1,d.2.1,d.2.2.1,d.2.2.2.1,d.2.2.2.2.1,d.2.2.2.2.2.1,d.2.2.2.2.2.2.1,y1,y2)))) (ret (ws (ws (ws (d.1,d.2.1,d.2.2.1,d.2.2.2.1,d.2.2.2.2.1,d.2.2.2.2.2.1,d.2.2.2.2.2.2.1,d.2.2.2.2.2.2.2.1,d.2.2.2.2.2.2.2.2,y4,y3,y0,y5,y7))))))
def Jr:=bI (Jq) 2000
def vN:=qs (st (pl (us 2 (c an (us 5 (c an (c an (c an (us 3 (c an (c an (c an (c an (cl an (us 116 nil))))))))))))) (pu nil nil)))
def auX:=qs (st (pl (us 2 (c an (us 5 (c an (c an (c an (us 3 (c an (c an (c an (c an (c an (us 83 (c an (c ab (cu J1 (xs 8 (cu J1 aWf)))))))))))))))))) (pu nil nil)))
def auY:=qs (st (pl (us 2 (c an (us 5 (c an (c an (c an (us 3 (c an (c an (c an (c an (c an (us 83 (c an (c ab (cu tQ (c an (c an (c an (c an (c an (c an (c an (c ab (c ab aWf))))))))))))))))))))))))) (pu nil nil)))
def auZ:=qs (st (pl (us 2 (c an (us 5 (c an (c an (c an (us 3 (c an (c an (c an (c an (c an (us 83 (c an (c ab (cu tQ (c an (c an (c an (c an (c an (c an (c an (c ab aPf)))))))))))))))))))))))) (pu nil nil)))
abbrev Js:=a0P⊕a0M
def aiL {ρ:Type}(x:Js)(K:AX->St->Option ρ):Option ρ:=(t9 (λd=>K (.ex 2) (auX.em (d.1,d.2.1,d.b.1,d.b.2.1,d.c.1,d.c.2.1,d.c.b.1,d.c.b.2.1,d.d.1,d.d.2.1,d.d.b.1,d.d.2.1,d.d.1,d.d.b.2.1,d.b.1,d.c.b.1,d.c.b.1,d.d.c))) (t9 (λd=>K (.ex 2) (auY.em (d.1,d.2.1,d.b.1,d.b.2.1,d.c.1,d.c.2.1,d.c.b.1,d.c.b.2.1,d.d.1,d.d.2.1,d.d.b.1,d.d.2.1,d.b.2.1,d.d.b.2.1,d.d.c.1,d.d.c.2.1,d.c.1,d.d.c.b.1,d.d.c.b.2.1,d.d.c.b.2.1,d.d.2.1,d.d.1,d.d.c.1,d.b.1,d.c.b.1,d.c.b.1,d.e))) (λd=>K (.ex 2) (auZ.em (d.1,d.2.1,d.b.1,d.b.2.1,d.c.1,d.c.2.1,d.c.b.1,d.c.b.2.1,d.d.1,d.d.1,d.d.2.1,d.d.1,d.b.2.1,d.d.b.1,d.c.b.1,d.d.b.2.1,d.c.1,d.d.c.1,d.d.c.2,d.d.c.2))))) x
def Jt (d:vN.B):PL vN Js:=let y0:=wU (4294967296*d.2.2.2.2.2.2.1);let y1:=wU (d.2.2.2.2.2.2.2.2-1);let y2:=wU (d.2.2.2.2.2.2.1+d.2.2.1);let y3:=wU (d.2.2.2.2.2.2.2.2*d.2.2.2.1);let y4:=wU (y0+d.2.2.2.2.1);let y5:=decide (d.2.2.2.2.2.2.2.2>=4294967296);let y6:=decide (y2>=4294967296);let y7:=decide (y3>y4);ae y5 (ae y6 (ret (ws (ww (d.1,d.2.1,d.2.2.1,d.2.2.2.1,d.2.2.2.2.1,d.2.2.2.2.2.1,y2,d.2.2.2.2.2.2.2.1,y1,d.2.2.2.2.2.2.2.2,y5,d.2.2.2.2.2.2.1,y6)))) (ret (ww (d.1,d.2.1,d.2.2.1,d.2.2.2.1,d.2.2.2.2.1,d.2.2.2.2.2.1,y2,d.2.2.2.2.2.2.2.1,y1)))) (ae y7 (ae y6 (ret (ws (ws (ww (d.1,d.2.1,d.2.2.1,d.2.2.2.1,d.2.2.2.2.1,d.2.2.2.2.2.1,y2,d.2.2.2.2.2.2.2.1,y1,d.2.2.2.2.2.2.2.2,y5,y3,d.2.2.2.2.2.2.1,y0,y4,y7,y6))))) (ret (ww (d.1,d.2.1,d.2.2.1,d.2.2.2.1,d.2.2.2.2.1,d.2.2.2.2.2.1,y2,d.2.2.2.2.2.2.2.1,y1)))) (ret (ws (ws (ws (d.1,d.2.1,d.2.2.1,d.2.2.2.1,d.2.2.2.2.1,d.2.2.2.2.2.1,d.2.2.2.2.2.2.1,d.2.2.2.2.2.2.2.1,d.2.2.2.2.2.2.2.2,y5,y3,y0,y4,y7))))))
def Ju:=bI (Jt) 2000
def ab1 (agB:Ci)(dR:LT vM Jp)(pD:LT vN Js)(x0:Int)(x1:Int)(x2:Int):Pg aqA:=let y0:= !decide (x2=0);ae (x2==0) no (ae (decide (x2<=x0)) no (ae (x0==0) (ae y0 (ae y0 (ret (wU (t8 x1 x2),Int.tmod x1 x2)) no) no) (opt (agB x2) λd=>let y0:=wU (64-wU d);let y1:=2^min (z4 (wU d)) 64;let y2:= !decide (wU d<0);let y3:=wU (x1*y1);let y4:=wU (x2*y1);let y5:=v4 y4 4294967296;let y6:=wU (wr (v6 (wd 64 (wU (x0*y1))|||wd 64 (v4 x1 (2^min (z4 y0) 64)))));let y7:=wU (t8 y6 y5);ae y2 (ae y2 (ae (!decide (y0<0)) (ae y2 (ae (!decide (y5=0)) (opt (dR (y4,wU d,y5,wU (wr (v6 (wd 64 y4&&&wd 64 4294967295))),y6,v4 y3 4294967296,wU (wr (v6 (wd 64 y3&&&wd 64 4294967295))),y7,wU (y6-wU (y7*y5)))) λx=>sum x (λd=>let y0:=wU (wU (wU (d.2.2.2.2.1*4294967296)+d.2.2.2.2.2.1)-wU (d.2.2.2.2.2.2.2.1*d.1));let y1:=wU (t8 y0 d.2.2.1);ae (!decide (d.2.2.1=0)) (opt (pD (d.1,d.2.1,d.2.2.1,d.2.2.2.1,d.2.2.2.2.2.2.1,d.2.2.2.2.2.2.2.1,wU (y0-wU (y1*d.2.2.1)),y0,y1)) λx=>sum x (λd=>ae (!decide (d.2.1<0)) (ret (wU (wU (d.2.2.2.2.2.1*4294967296)+d.2.2.2.2.2.2.2.2.1),v4 (wU (wU (wU (d.2.2.2.2.2.2.2.1*4294967296)+d.2.2.2.2.1)-wU (d.2.2.2.2.2.2.2.2.1*d.1))) (2^min (z4 d.2.1) 64))) no) λx=>sum x (λd=>ae (!decide (d.2.1<0)) (ret (wU (wU (d.2.2.2.2.2.1*4294967296)+d.2.2.2.2.2.2.2.2.1),v4 (wU (wU (wU (d.2.2.2.2.2.2.2.1*4294967296)+d.2.2.2.2.1)-wU (d.2.2.2.2.2.2.2.2.1*d.1))) (2^min (z4 d.2.1) 64))) no) λd=>ae (!decide (d.2.1<0)) (ret (wU (wU (d.2.2.2.2.2.1*4294967296)+d.2.2.2.2.2.2.2.2.1),v4 (wU (wU (wU (d.2.2.2.2.2.2.2.1*4294967296)+d.2.2.2.2.1)-wU (d.2.2.2.2.2.2.2.2.1*d.1))) (2^min (z4 d.2.1) 64))) no) no) λx=>sum x (λd=>let y0:=wU (wU (wU (d.2.2.2.2.1*4294967296)+d.2.2.2.2.2.1)-wU (d.2.2.2.2.2.2.2.1*d.1));let y1:=wU (t8 y0 d.2.2.1);ae (!decide (d.2.2.1=0)) (opt (pD (d.1,d.2.1,d.2.2.1,d.2.2.2.1,d.2.2.2.2.2.2.1,d.2.2.2.2.2.2.2.1,wU (y0-wU (y1*d.2.2.1)),y0,y1)) λx=>sum x (λd=>ae (!decide (d.2.1<0)) (ret (wU (wU (d.2.2.2.2.2.1*4294967296)+d.2.2.2.2.2.2.2.2.1),v4 (wU (wU (wU (d.2.2.2.2.2.2.2.1*4294967296)+d.2.2.2.2.1)-wU (d.2.2.2.2.2.2.2.2.1*d.1))) (2^min (z4 d.2.1) 64))) no) λx=>sum x (λd=>ae (!decide (d.2.1<0)) (ret (wU (wU (d.2.2.2.2.2.1*4294967296)+d.2.2.2.2.2.2.2.2.1),v4 (wU (wU (wU (d.2.2.2.2.2.2.2.1*4294967296)+d.2.2.2.2.1)-wU (d.2.2.2.2.2.2.2.2.1*d.1))) (2^min (z4 d.2.1) 64))) no) λd=>ae (!decide (d.2.1<0)) (ret (wU (wU (d.2.2.2.2.2.1*4294967296)+d.2.2.2.2.2.2.2.2.1),v4 (wU (wU (wU (d.2.2.2.2.2.2.2.1*4294967296)+d.2.2.2.2.1)-wU (d.2.2.2.2.2.2.2.2.1*d.1))) (2^min (z4 d.2.1) 64))) no) no) λd=>let y0:=wU (wU (wU (d.2.2.2.2.1*4294967296)+d.2.2.2.2.2.1)-wU (d.2.2.2.2.2.2.2.1*d.1));let y1:=wU (t8 y0 d.2.2.1);ae (!decide (d.2.2.1=0)) (opt (pD (d.1,d.2.1,d.2.2.1,d.2.2.2.1,d.2.2.2.2.2.2.1,d.2.2.2.2.2.2.2.1,wU (y0-wU (y1*d.2.2.1)),y0,y1)) λx=>sum x (λd=>ae (!decide (d.2.1<0)) (ret (wU (wU (d.2.2.2.2.2.1*4294967296)+d.2.2.2.2.2.2.2.2.1),v4 (wU (wU (wU (d.2.2.2.2.2.2.2.1*4294967296)+d.2.2.2.2.1)-wU (d.2.2.2.2.2.2.2.2.1*d.1))) (2^min (z4 d.2.1) 64))) no) λx=>sum x (λd=>ae (!decide (d.2.1<0)) (ret (wU (wU (d.2.2.2.2.2.1*4294967296)+d.2.2.2.2.2.2.2.2.1),v4 (wU (wU (wU (d.2.2.2.2.2.2.2.1*4294967296)+d.2.2.2.2.1)-wU (d.2.2.2.2.2.2.2.2.1*d.1))) (2^min (z4 d.2.1) 64))) no) λd=>ae (!decide (d.2.1<0)) (ret (wU (wU (d.2.2.2.2.2.1*4294967296)+d.2.2.2.2.2.2.2.2.1),v4 (wU (wU (wU (d.2.2.2.2.2.2.2.1*4294967296)+d.2.2.2.2.1)-wU (d.2.2.2.2.2.2.2.2.1*d.1))) (2^min (z4 d.2.1) 64))) no) no) no) no) no) no) no)))
def IF:=λx0 x1 x2=>(ab1 pC Jr Ju x0 x1 x2).val
abbrev IG:=Ci×(LT vM Jp)×(LT vN Js)
def Qv (p:IG):KK:=⟨[L9 p.1],⟨[⟨17,(0::1::rg 3 5 (12::rg 17 53 (rg 78 27 (rg 113 22 (rg 70 8 []))))),[]⟩,⟨24,(0::1::rg 3 5 (11::12::13::rg 19 86 (rg 113 22 (rg 105 8 [])))),[]⟩],[fQ 17 0 vM aiK p.2.1,fQ 24 0 vN aiL p.b],[],[],(some ⟨0,(rg 0 6 (rg 8 127 [])),[]⟩)⟩,0,241⟩
theorem ayc (p:IG):LI (Qv p) 17 vM aiK (Jq):=λ_ d c K=>by kernel_rfl
theorem ayd (p:IG):LI (Qv p) 24 vN aiL (Jt):=λ_ d c K=>by kernel_rfl
theorem aHe (p:IG):D2 (Qv p) aqz (lf WO) λb=>ab1 p.1 p.2.1 p.b b.1 b.2.1 b.b:=λb=>by kernel_rfl
abbrev Qw:IG:=(pC,Jr,Ju)
theorem aHf [aA]:SC (aqC IF):=sc (kS (k:=Qv Qw) (.c agA (.nil _)) [17,24] [] ⟨kL (ayc Qw),⟨kL (ayd Qw),trivial⟩⟩ trivial (aHe Qw))
def az6:=qa (pl (c afC iA) nil)
def agC:=qe axs
abbrev az7:=agC.B
abbrev alG:=Int->Int->Int->Option az7
def alH (g:alG):Ct:=(200,FC az6 (lf agC) (λb=>g b.1.1 b.1.2 b.2))
def alI (yL:alz)(hO:Qp)(Qx:aqB)(fu:vL)(fw:Be)(x0:Int)(x1:Int)(x2:Int):Pg az7:=ae (x2==0) (ret (0,false)) (opt (yL x0 x1) λd=>let y0:= !d.2==decide (x2<0);opt (hO x2) λak=>let ur:=wU (t8 d.1.1 ak);let y1:= !decide (ak=0);ae y1 (ae y1 (opt (Qx (Int.tmod d.1.1 ak) d.1.2 ak) λd=>ae (decide (d.2>=wU (ak-d.2))) (opt (fu ur d.1 0 1) λd=>opt (fw d.1 d.2 y0) λd=>ret d) (opt (fw ur d.1 y0) λd=>ret d)) no) no)
def BV:=λx0 x1 x2=>(alI FN rL IF iY iZ x0 x1 x2).val
theorem aNJ:∀yL hO Qx fu fw,D0 [alA yL,Qq hO,aqC Qx,GQ fu,GR fw] 200 az6 (lf agC) λb=>alI yL hO Qx fu fw b.1.1 b.1.2 b.2:=λ_ _ _ _ _ b=>by kernel_rfl
theorem az8 [aA]:SC (alH BV):=s0 (.c az5 (.c abU (.c aHf (.c OH (.c OL (.nil _)))))) (aNJ FN rL IF iY iZ)
def au0:=qa (pr (cu aS (c afC iA)) bJ)
def ab2:=qe qu
abbrev au1:=ab2.B
abbrev agD:=Int->Int->Int->Bool->Option au1
def agE (g:agD):Ct:=(128,FC au0 (lf ab2) (λb=>g b.1.1.1 b.1.1.2 b.1.2 b.2))
def GS (jK:WG)(yM:alG)(nh:ID)(x0:Int)(x1:Int)(x2:Int)(x3:Bool):Pg au1:=let y0:=decide (x0<0);ae (x2==0) (ae (x0==0&&(x1==0&&true)) (ret (0,true)) (opt (jK y0) λd=>ret (d,true))) (opt (yM x0 x1 x2) λd=>opt (nh d.1 d.2 (!y0==decide (x2<0)) x3) λd=>ret d)
def rN:=λx0 x1 x2 x3=>(GS nS BV kl x0 x1 x2 x3).val
theorem aKY:∀jK yM nh,D0 [WH jK,alH yM,Qt nh] 128 au0 (lf ab2) λb=>GS jK yM nh b.1.1.1 b.1.1.2 b.1.2 b.2:=λ_ _ _ b=>by kernel_rfl
theorem au2 [aA]:SC (agE rN):=s0 (.c agy (.c az8 (.c abY (.nil _)))) (aKY nS BV kl)
def adW:=qa (pr (cu aS Fw) bJ)
def Ma:=qe qu
abbrev adX:=Ma.B
abbrev cj:=Int->Int->Int->Bool->Option adX
def cZ (g:cj):Ct:=(78,FC adW (lf Ma) (λb=>g b.1.1 b.1.2.1 b.1.b b.2))
def GU (ay:bW)(cU:oy)(uH:agD)(x0:Int)(x1:Int)(x2:Int)(x3:Bool):Pg adX:=opt (ay x0 x3) λd=>opt (ay x1 d.2) λak=>opt (cU d.1 ak.1) λd=>opt (ay x2 ak.2) λaF=>opt (uH d.1 d.2 aF.1 aF.2) λd=>ret d
def aU:=λx0 x1 x2 x3=>(GU aP fE rN x0 x1 x2 x3).val
theorem aye:∀ay cU uH,D0 [dr ay,yK cU,agE uH] 78 adW (lf Ma) λb=>GU ay cU uH b.1.1 b.1.2.1 b.1.b b.2:=λ_ _ _ b=>by kernel_rfl
theorem dm [aA]:SC (cZ aU):=s0 (.c dx (.c BU (.c au2 (.nil _)))) (aye aP fE rN)
def Mb:=qa (pr (c ai (c ai aJZ)) (cu asp bJ))
def Bh:=qe aPG
abbrev Mc:=Bh.B
abbrev Ck:=Int->Int->Int->Int->Bool->Option Mc
def Cl (g:Ck):Ct:=(194,FC Mb (lf Bh) (λb=>g b.1.1 b.1.2.1 b.1.b.1 b.1.b.2 b.2))
def Cm (av:cj)(x0:Int)(x1:Int)(x2:Int)(x3:Int)(x4:Bool):Pg Mc:=opt (av (wI (x1-x0)) x2 x3 x4) λd=>ret (wI (x0+d.1),d.2)
def jL:=λx0 x1 x2 x3 x4=>(Cm aU x0 x1 x2 x3 x4).val
theorem agF:∀av,D0 [cZ av] 194 Mb (lf Bh) λb=>Cm av b.1.1 b.1.2.1 b.1.b.1 b.1.b.2 b.2:=λ_ b=>by kernel_rfl
theorem Md [aA]:SC (Cl jL):=s0 (.c dm (.nil _)) (agF aU)
def aqD:=qa (pl A4 nil)
def WQ:=qe aPN
abbrev aqE:=WQ.B
abbrev ab3:=Int->Int->Option aqE
def ab4 (g:ab3):Ct:=(132,FC aqD (lf WQ) (λb=>g b.1 b.2))
def ab5 (hO:Qp)(j9:DE)(iU:DF)(pB:WC)(x0:Int)(x1:Int):Pg aqE:=ae (decide (x1<0)) (ret ((0,0),false)) (ae (decide (x1>127)) (ret ((0,0),false)) (opt (hO x0) λd=>opt (j9 0 d x1) λak=>opt (iU ak.1 ak.2 x1) λaF=>ae (!(aF.1==0&&(aF.2==d&&true))) (ret ((0,0),false)) (opt (pB ak.1 ak.2 (decide (x0<0))) λd=>ae (!d.2) (ret ((0,0),false)) (ret (d.1,true)))))
def vD:=λx0 x1=>(ab5 rL gH iT nd x0 x1).val
theorem aHg:∀hO j9 iU pB,D0 [Qq hO,Jk j9,Jl iU,WD pB] 132 aqD (lf WQ) λb=>ab5 hO j9 iU pB b.1 b.2:=λ_ _ _ _ b=>by kernel_rfl
theorem aqF [aA]:SC (ab4 vD):=s0 (.c abU (.c S8 (.c S9 (.c alw (.nil _))))) (aHg rL gH iT nd)
def aqG:=qa (pr (cu aS Fw) bJ)
def WR:=qe qu
abbrev aqH:=WR.B
abbrev cN:=Int->Int->Int->Bool->Option aqH
def gu (g:cN):Ct:=(82,FC aqG (lf WR) (λb=>g b.1.1 b.1.2.1 b.1.b b.2))
def IH (ay:bW)(rO:ab3)(uH:agD)(x0:Int)(x1:Int)(x2:Int)(x3:Bool):Pg aqH:=opt (ay x0 x3) λd=>opt (ay x1 d.2) λak=>ae (decide (x2<0)) (ret (0,true)) (ae (decide (x2>66)) (ret (0,true)) (opt (rO d.1 x2) λd=>opt (uH d.1.1 d.1.2 ak.1 ak.2) λd=>ret d))
def bk:=λx0 x1 x2 x3=>(IH aP vD rN x0 x1 x2 x3).val
theorem aHh:∀ay rO uH,D0 [dr ay,ab4 rO,agE uH] 82 aqG (lf WR) λb=>IH ay rO uH b.1.1 b.1.2.1 b.1.b b.2:=λ_ _ _ b=>by kernel_rfl
theorem hX [aA]:SC (gu bk):=s0 (.c dx (.c aqF (.c au2 (.nil _)))) (aHh aP vD rN)
def adY:=qa (pl (c Wc (cl Wc nil)) nil)
def Me:=qe Fv
abbrev adZ:=Me.B
abbrev GV:=Int->Int->Int->Int->Option adZ
def ad3 (g:GV):Ct:=(243,FC adY (lf Me) (λb=>g b.1.1 b.1.2 b.2.1 b.b))
def OO (x0:Int)(x1:Int)(x2:Int)(x3:Int):Pg adZ:=ae (decide (x0<x2)) (ret true) (ae (x0==x2) (ret (decide (x1<x3))) (ret false))
def vO:=λx0 x1 x2 x3=>(OO x0 x1 x2 x3).val
theorem ayf:D0 [] 243 adY (lf Me) λb=>OO b.1.1 b.1.2 b.2.1 b.b:=λb=>by kernel_rfl
theorem ayg [aA]:SC (ad3 vO):=s0 (.nil _) ayf
def aag:=qa (pl (c Wc (cl Wc nil)) nil)
def Kh:=qe aJ4
abbrev aah:=Kh.B
abbrev Mf:=Int->Int->Int->Int->Option aah
def aai (g:Mf):Ct:=(244,FC aag (lf Kh) (λb=>g b.1.1 b.1.2 b.2.1 b.b))
def Mg (alJ:aYm)(x0:Int)(x1:Int)(x2:Int)(x3:Int):Pg aah:=opt (alJ x1 x3 0) λd=>opt (alJ x0 x2 d.2) λak=>ret (ak.1,d.1)
def yN:=λx0 x1 x2 x3=>(Mg adQ x0 x1 x2 x3).val
theorem au3:∀alJ,D0 [aND alJ] 244 aag (lf Kh) λb=>Mg alJ b.1.1 b.1.2 b.2.1 b.b:=λ_ b=>by kernel_rfl
theorem au4 [aA]:SC (aai yN):=s0 (.c aTD (.nil _)) (au3 adQ)
def au5:=qa (pl aDM nil)
def ab6:=qe axs
abbrev au6:=ab6.B
abbrev au7:=Int->Int->Option au6
def au8 (g:au7):Ct:=(202,FC au5 (lf ab6) (λb=>g b.1 b.2))
def yw:=qs (st (pr (us 4 (cu (app 0 2) (cu aMA (cl ai (us 44 nil))))) (pl (c (so axl) (cl (so axl) nil)) nil)))
def aFo:=qs (st (pr (us 4 (cu (app 0 2) (cu aMA (c ai (us 12 aVz))))) (pl (c (so axl) (cl (so axl) nil)) nil)))
abbrev Mh:=((Int×Bool)×(Int×Int)×Int×Int)
def alK {ρ:Type}(x:Mh)(K:AX->St->Option ρ):Option ρ:=(λd=>K (.ex 0) (aFo.em ((d.1.1,d.1),d.2))) x
def Mi (j9:DE)(fu:vL)(iU:DF)(OP:GV)(au9:Mf)(d:yw.B):PL yw Mh:=let y0:=wI (d.1-2);let y1:=decide (d.1>=0);ae y1 (opt (j9 0 1 d.1) λak=>opt (fu d.2.2.1 d.2.2.2 ak.1 ak.2) λaF=>opt (iU d.2.2.1 d.2.2.2 1) λbA=>opt (OP d.2.1.1 d.2.1.2 aF.1 aF.2) λcD=>ae (!cD) (opt (au9 d.2.1.1 d.2.1.2 aF.1 aF.2) λd=>opt (fu bA.1 bA.2 ak.1 ak.2) λeU=>ret (ww (y0,d,eU))) (ret (ww (y0,d.2.1,bA)))) (ret (ws ((d.1,y1),d.2)))
def WT:=bI (Mi gH iY iT vO yN) 2000
def agG (fu:vL)(OP:GV)(fw:Be)(dR:LT yw Mh)(x0:Int)(x1:Int):Pg au6:=ae (decide (x0<0)) (ret (0,false)) (opt (dR (126,(wU x0,x1),0,0)) λd=>opt (OP d.2.2.1 d.2.2.2 d.2.1.1 d.2.1.2) λak=>ae ak (opt (fu d.2.2.1 d.2.2.2 0 1) λd=>opt (fw d.1 d.2 false) λd=>ret d) (opt (fw d.2.2.1 d.2.2.2 false) λd=>ret d))
def Mj:=λx0 x1=>(agG iY vO iZ WT x0 x1).val
abbrev Vh:=DE×vL×DF×GV×Mf×Be×(LT yw Mh)
def agH (p:Vh):KK:=⟨[Jk p.1,GQ p.2.1,Jl p.b.1,ad3 p.b.2.1,aai p.c.1,GR p.c.2.1],⟨[⟨5,(rg 0 4 (rg 7 44 [])),[]⟩],[fQ 5 0 yw alK p.c.b],[],[],(some ⟨0,(0::1::rg 4 47 []),[]⟩)⟩,0,202⟩
theorem aCb (p:Vh):LI (agH p) 5 yw alK (Mi p.1 p.2.1 p.b.1 p.b.2.1 p.c.1):=λ_ d c K=>by kernel_rfl
theorem aKZ (p:Vh):D2 (agH p) au5 (lf ab6) λb=>agG p.2.1 p.b.2.1 p.c.2.1 p.c.b b.1 b.2:=λb=>by kernel_rfl
abbrev agI:Vh:=(gH,iY,iT,vO,yN,iZ,WT)
theorem aK0 [aA]:SC (au8 Mj):=sc (kS (k:=agH agI) (.c S8 (.c OH (.c S9 (.c ayg (.c au4 (.c OL (.nil _))))))) [5] [] ⟨kL (aCb agI),trivial⟩ trivial (aKZ agI))
def az9:=qa (pr (cu aS aDM) bJ)
def agJ:=qe qu
abbrev aAa:=agJ.B
abbrev aaj:=Int->Int->Bool->Option aAa
def alL (g:aaj):Ct:=(133,FC az9 (lf agJ) (λb=>g b.1.1 b.1.2 b.2))
def alM (Vi:au7)(ay:bW)(x0:Int)(x1:Int)(x2:Bool):Pg aAa:=opt (Vi x0 x1) λd=>ae (!d.2) (opt (ay 1152921504606846977 x2) λd=>ret d) (opt (ay d.1 x2) λd=>ret d)
def yO:=λx0 x1 x2=>(alM Mj aP x0 x1 x2).val
theorem aNK:∀Vi ay,D0 [au8 Vi,dr ay] 133 az9 (lf agJ) λb=>alM Vi ay b.1.1 b.1.2 b.2:=λ_ _ b=>by kernel_rfl
theorem aAb [aA]:SC (alL yO):=s0 (.c aK0 (.c dx (.nil _))) (aNK Mj aP)
def ava:=qa (pr (cu aS iA) bJ)
def ab7:=qe qu
abbrev avb:=ab7.B
abbrev agK:=Int->Bool->Option avb
def agL (g:agK):Ct:=(81,FC ava (lf ab7) (λb=>g b.1 b.2))
def agM (ay:bW)(rO:ab3)(K5:aaj)(x0:Int)(x1:Bool):Pg avb:=opt (ay x0 x1) λd=>ae (decide (d.1<0)) (ret (0,true)) (opt (rO d.1 30) λak=>opt (K5 ak.1.1 ak.1.2 d.2) λd=>ret d)
def Cn:=λx0 x1=>(agM aP vD yO x0 x1).val
theorem aK1:∀ay rO K5,D0 [dr ay,ab4 rO,alL K5] 81 ava (lf ab7) λb=>agM ay rO K5 b.1 b.2:=λ_ _ _ b=>by kernel_rfl
theorem avc [aA]:SC (agL Cn):=s0 (.c dx (.c aqF (.c aAb (.nil _)))) (aK1 aP vD yO)
def avd:=qa (pl iA nil)
def ab8:=qe HT
abbrev ave:=ab8.B
abbrev yP:=Int->Option ave
def Co (g:yP):Ct:=(129,FC avd (lf ab8) (λb=>g b))
def Vj (x0:Int):Pg ave:=let y0:=Int.tmod x0 6746518852;ae (decide (y0>3373259426)) (ret (wI (y0-6746518852))) (ae (decide (y0<= -3373259426)) (ret (wI (y0+6746518852))) (ret y0))
def kI:=λx0=>(Vj x0).val
theorem aK2:D0 [] 129 avd (lf ab8) λb=>Vj b:=λb=>by kernel_rfl
theorem GW [aA]:SC (Co kI):=s0 (.nil _) aK2
def aI3:=qa (pl iA nil)
def as9:=qe HT
abbrev V7:=as9.B
abbrev GX:=Int->Option V7
def V8 (g:GX):Ct:=(36,FC aI3 (lf as9) (λb=>g b))
def Bi (x0:Int):Pg V7:=ae (decide (x0>=1152921504606846976)) (ret 1152921504606846976) (ae (decide (x0<= -1152921504606846976)) (ret 1152921504606846976) (ae (decide (x0<0)) (ret (wI (0-x0))) (ret x0)))
def pV:=λx0=>(Bi x0).val
theorem aTH:D0 [] 36 aI3 (lf as9) λb=>Bi b:=λb=>by kernel_rfl
theorem ad4 [aA]:SC (V8 pV):=s0 (.nil _) aTH
def aI4:=qa (pr (cu aS A4) bJ)
def ata:=qe qu
abbrev aI5:=ata.B
abbrev ad5:=Int->Int->Bool->Option aI5
def ao2 (g:ad5):Ct:=(130,FC aI4 (lf ata) (λb=>g b.1.1 b.1.2 b.2))
def ao3 (aC:bR)(x0:Int)(x1:Int)(x2:Bool):Pg aI5:=opt (aC x0 x1 30 x2) λd=>ret d
def K6:=λx0 x1 x2=>(ao3 aW x0 x1 x2).val
theorem aTI:∀aC,D0 [eT aC] 130 aI4 (lf ata) λb=>ao3 aC b.1.1 b.1.2 b.2:=λ_ b=>by kernel_rfl
theorem ayh [aA]:SC (ao2 K6):=s0 (.c fA (.nil _)) (aTI aW)
def aFp:=qa (pl iA nil)
def alN:=qe aVY
abbrev aFq:=alN.B
abbrev atb:=Int->Option aFq
def aFr (g:atb):Ct:=(242,FC aFp (lf alN) (λb=>g b))
def atc (x0:Int):Pg aFq:=ret (v4 x0 9223372036854775808,wU x0)
def WU:=λx0=>(atc x0).val
theorem aQT:D0 [] 242 aFp (lf alN) λb=>atc b:=λb=>by kernel_rfl
theorem aQU [aA]:SC (aFr WU):=s0 (.nil _) aQT
def aAc:=qa (pl (c afC aDM) nil)
def agN:=qe aPN
abbrev aAd:=agN.B
abbrev alO:=Int->Int->Int->Int->Option aAd
def aAe (g:alO):Ct:=(187,FC aAc (lf agN) (λb=>g b.1.1 b.1.2 b.2.1 b.b))
def alP (nc:auS)(x0:Int)(x1:Int)(x2:Int)(x3:Int):Pg aAd:=let y0:=decide (x0<0);opt (nc x1 x3 0) λd=>opt (nc (wU x0) (wU x2) d.2) λak=>ae (!y0==decide (x2<0)) (ret ((wI ak.1,d.1),true)) (ret ((wI ak.1,d.1),decide (wI ak.1<0)==y0))
def K7:=λx0 x1 x2 x3=>(alP DA x0 x1 x2 x3).val
theorem aNL:∀nc,D0 [alr nc] 187 aAc (lf agN) λb=>alP nc b.1.1 b.1.2 b.2.1 b.b:=λ_ b=>by kernel_rfl
theorem aNM [aA]:SC (aAe K7):=s0 (.c ao1 (.nil _)) (aNL DA)
def aAf:=qa (dp (cl aVf nil) λa=>(cl (cl (gs a.1 aJR) nil) nil))
def agO:=qe (res (pl aV0 (pu adF nil)))
abbrev aAg:=agO.B
abbrev sD:=Nat->NI->NI->Bool->Option aAg
def K8 (g:sD):Ct:=(117,vA 0 [.i .i64,.i .u64] (FC aAf (lf agO) (λb=>g b.1.1 b.2.1 b.b b.1.2)))
def Bj:=qs (st (dp (us 2 (cu aMA (us 1 (cu azy (us 4 (c aVf (c ai aPg))))))) λa=>(pl (c (so (cl (gs a.1.1 aJR) nil)) (cu aPO aby)) nil)))
def aiM:=qs (st (pu (us 2 (cu aMA (cu tQ (us 23 nil)))) (pl (cl aPK (cu aPO nil)) nil)))
def aCc:=qs (st (pr (us 2 (cu aMA (us 1 (cu azy (us 4 (c aVf aVQ)))))) (pl (c aPK (cu aPO aby)) nil)))
abbrev II:=aiM.B⊕(aMu×(NI×NI)×Int×Int)
def aqI {ρ:Type}(x:II)(K:AX->St->Option ρ):Option ρ:=(t9 (λd=>K .ret (aiM.em d)) (λd=>K (.ex 0) (aCc.em (d.1,(d.1.1.1,d.2.1),d.b)))) x
def Ed (aNN:alO)(d:Bj.B):PL Bj II:=let y0:=z4 d.1.2.2;let y1:=decide (d.1.2.2<d.1.2.1);ae y1 (ae (bg d.1.2.2 d.1.1.1) (opt (aNN d.2.2.1 d.2.2.2 (d.2.1.1 y0) (d.2.1.2 y0)) λak=>ae (!ak.2) (ret (ws (ww (d.1.1.1,d.2.1)))) (ret (ww ((d.1.1,d.1.2.1,wI (d.1.2.2+1)),d.2.1,ak.1)))) no) (ret (ws (ws ((d.1.1,d.1.2.1,d.1.2.2,y1),d.2))))
def IJ:=bI (Ed K7) 2000
def aak (dR:LT Bj II)(x0:Nat)(x1:Nat->Int)(x2:Nat->Int)(w0:Bool):Pg aAg:=ae (z9 x0 x0) (opt (dR (((x0,w0),wr x0,0),(x1,x2),0,0)) λx=>sum x (λd=>ret ((0,0),false)) λd=>ret (d.2.2,true)) no
def ku:=λx0 x1 x2 w0=>(aak IJ x0 x1 x2 w0).val
abbrev aal:=alO×(LT Bj II)
def alQ (p:aal):KK:=⟨[aAe p.1],⟨[⟨3,(0::1::3::rg 5 4 (rg 12 15 [])),[]⟩],[fQ 3 1 Bj aqI p.2],[],[],(some ⟨0,(0::1::rg 4 23 []),[]⟩)⟩,1,117⟩
theorem aFs (p:aal):LI (alQ p) 3 Bj aqI (Ed p.1):=λ_ d c K=>by kernel_rfl
theorem aNO (p:aal):D2 (alQ p) aAf (lf agO) λb=>aak p.2 b.1.1 b.2.1 b.b b.1.2:=λb=>by kernel_rfl
abbrev alR:aal:=(K7,IJ)
theorem Rl [aA]:SC (K8 ku):=sc (Sound.nil 0 [.i .i64,.i .u64]<|kS (k:=alQ alR) (.c aNM (.nil _)) [3] [] ⟨kL (aFs alR),trivial⟩ trivial (aNO alR))
def aqJ:=qa (dp (cu aS axn) λa=>(c xL (cl (cl (gs a.1 nN) nil) nil)))
def WV:=qe aJ7
abbrev aqK:=WV.B
abbrev fB:=Nat->Bool->NI->Bool->Option aqK
def pf (g:fB):Ct:=(201,vA 1 [.i .i64] (FC aqJ (lf WV) (λb=>g b.1.1 b.2.1 b.b b.1.2)))
def vP:=qs (st (dp (cu aS (us 4 (cu azy (us 4 (c zU (c ai aPh)))))) λa=>(pl (c bE (c (so (cl (gs a.1.1 nN) nil)) aby)) bK)))
def aCd:=qs (st (pr (cu aS (us 4 (cu azy (us 4 (c zU aJ0))))) (pl (c bE (c HW aby)) bK)))
abbrev Jv:=(aMu×Bool×NI×Int×Int)
def aiN {ρ:Type}(x:Jv)(K:AX->St->Option ρ):Option ρ:=(λd=>K (.ex 0) (aCd.em (d.1,d.2.1,(d.1.1.1,d.b.1),d.b.2))) x
def Jw (ay:bW)(aQV:atb)(yQ:sD)(d:vP.B):PL vP Jv:=let y0:=decide (d.1.2.2<d.1.2.1);ae y0 (ae (bg d.1.2.2 d.1.1.1) (opt (ay (d.2.2.1 (z4 d.1.2.2)) d.2.1) λak=>opt (aQV ak.1) λaF=>opt (yQ 2 (λj=>bif z9 j 1 then aF.1 else bif z9 j 0 then d.2.2.2.1 else d.2.2.2.1) (λj=>bif z9 j 1 then aF.2 else bif z9 j 0 then d.2.2.2.2 else d.2.2.2.2) true) λbA=>ret (ww ((d.1.1,d.1.2.1,wI (d.1.2.2+1)),ak.2,d.2.2.1,bA.1))) no) (ret (ws ((d.1.1,d.1.2.1,d.1.2.2,y0),d.2)))
def Td:=bI (Jw aP WU ku) 2000
def Qy (vC:Eb)(nh:ID)(dR:LT vP Jv)(x0:Nat)(x1:Bool)(x2:Nat->Int)(w0:Bool):Pg aqK:=ae (z9 x0 x0) (opt (dR (((x0,w0),wr x0,0),x1,x2,0,0)) λd=>opt (vC d.2.2.2.1 d.2.2.2.2 0) λak=>opt (nh ak.1 ak.2 (decide (d.2.2.2.1<0)) d.2.1) λd=>ret d) no
def cJ:=λx0 x1 x2 w0=>(Qy rM kl Td x0 x1 x2 w0).val
abbrev Qz:=bW×atb×sD×Eb×ID×(LT vP Jv)
def ab9 (p:Qz):KK:=⟨[dr p.1,aFr p.2.1,K8 p.b.1,Qs p.b.2.1,Qt p.c.1],⟨[⟨3,(rg 1 4 (rg 6 4 (rg 13 26 []))),[]⟩],[fQ 3 2 vP aiN p.c.2],[0],[],(some ⟨0,(rg 0 4 (rg 5 34 [])),[]⟩)⟩,2,201⟩
theorem ayi (p:Qz):LI (ab9 p) 3 vP aiN (Jw p.1 p.2.1 p.b.1):=λ_ d c K=>by kernel_rfl
theorem aHi (p:Qz):D2 (ab9 p) aqJ (lf WV) λb=>Qy p.b.2.1 p.c.1 p.c.2 b.1.1 b.2.1 b.b b.1.2:=λb=>by kernel_rfl
abbrev aca:Qz:=(aP,WU,ku,rM,kl,Td)
theorem rP [aA]:SC (pf cJ):=sc (Sound.nil 1 [.i .i64]<|kS (k:=ab9 aca) (.c dx (.c aQU (.c Rl (.c abX (.c abY (.nil _)))))) [3] [] ⟨kL (ayi aca),trivial⟩ trivial (aHi aca))
def alS:=qa (dp (cu aS aPr) λa=>(c xL (cl (cl (gs a.2.1 nN) nil) nil)))
def Te:=qe aJ7
abbrev alT:=Te.B
abbrev WW:=Int->Nat->Bool->NI->Bool->Option alT
def WX (g:WW):Ct:=(131,vA 2 [.i .i64] (FC alS (lf Te) (λb=>g b.1.1 b.1.2.1 b.2.1 b.b b.1.b)))
def mR:=qs (st (pr (cu aS (c ai (us 5 (c ai (us 6 (c aWw (c ai aJL))))))) (pl (c bE abz) bK)))
def ad6:=qs (st (pr (cu aS (c ai (us 5 (c ai (us 6 (c aWw (c ai aJS))))))) (pl (c bE abz) bK)))
abbrev Bk:=ad6.B
def ad7 {ρ:Type}:=@ef Bk ((.ex 0)) ad6 ρ
def OQ (jE:ad5)(cA:fB)(d:mR.B):PL mR Bk:=let n1:=d.1.2.2;let n2:=n1.2.2;let y0:=decide (n2<n1.2.1);ae y0 (ae (bg n2 n1.1.1) (opt (jE d.1.1 d.1.2.1 d.2.1) λak=>opt (cA 2 ak.2 (cr (d.2.2.2 (1+z4 n2)) [ak.1,d.2.2.2 (1+z4 n2)]) true) λaF=>ret (ww ((d.1.1,aF.1,n1.1,n1.2.1,wI (n2+1)),aF.2,d.2.2))) no) (ret (ws ((d.1.1,d.1.2.1,n1.1,n1.2.1,n2,y0),d.2)))
def OR:=bI (OQ K6 cJ) 2000
def WY (dR:LT mR Bk)(x0:Int)(x1:Nat)(x2:Bool)(x3:Nat->Int)(w0:Bool):Pg alT:=let y0:=x1-1;ae (bg 0 x1) (ae (HF 1 x1) (opt (dR ((x0,x3 0,(y0,w0&&true),wr y0,0),x2,x1,x3)) λd=>ret (d.1.2.1,d.2.1)) no) no
def ni:=λx0 x1 x2 x3 w0=>(WY OR x0 x1 x2 x3 w0).val
abbrev Mk:=ad5×fB×(LT mR Bk)
def WZ (p:Mk):KK:=⟨[ao2 p.1,pf p.2.1],⟨[⟨3,(rg 2 5 (rg 8 6 (rg 17 13 []))),[]⟩],[fQ 3 2 mR ad7 p.b],[0],[],(some ⟨0,(rg 0 6 (rg 7 23 [])),[]⟩)⟩,2,131⟩
theorem avf (p:Mk):LI (WZ p) 3 mR ad7 (OQ p.1 p.2.1):=λ_ d c K=>by kernel_rfl
theorem aFt (p:Mk):D2 (WZ p) alS (lf Te) λb=>WY p.b b.1.1 b.1.2.1 b.2.1 b.b b.1.b:=λb=>by kernel_rfl
abbrev W0:Mk:=(K6,cJ,OR)
theorem alU [aA]:SC (WX ni):=sc (Sound.nil 2 [.i .i64]<|kS (k:=WZ W0) (.c ayh (.c rP (.nil _))) [3] [] ⟨kL (avf W0),trivial⟩ trivial (aFt W0))
def aAh:=qa (pr (cu aS iA) bJ)
def agP:=qe qu
abbrev aAi:=agP.B
abbrev K9:=Int->Bool->Option aAi
def K' (g:K9):Ct:=(79,FC aAh (lf agP) (λb=>g b.1 b.2))
def alV (ay:bW)(di:yP)(c7:GX)(jE:ad5)(fW:WW)(x0:Int)(x1:Bool):Pg aAi:=opt (ay x0 x1) λd=>opt (di d.1) λak=>let y0:=wI (3373259426-ak);let y1:=wI (-3373259426-ak);ae (decide (ak>1686629713)) (opt (c7 y0) λaF=>let ur:=wI (1686629713-aF);ae (decide (aF<=843314857)) (opt (jE y0 y0 d.2) λd=>opt (fW d.1 6 d.2 (cr (-27) [1073741824, -178956971,8947849, -213044,2959, -27]) true) λd=>opt (jE y0 d.1 d.2) λd=>let y0:=if -1073741824>d.1 then -1073741824 else d.1;ret (if 1073741824<y0 then 1073741824 else y0,d.2)) (opt (jE ur ur d.2) λd=>opt (fW d.1 7 d.2 (cr 2 [1073741824, -536870912,44739243, -1491308,26631, -296,2]) true) λd=>let aqL:=wI (0-d.1);let y1:=if -1073741824>d.1 then -1073741824 else d.1;let y2:=if -1073741824>aqL then -1073741824 else aqL;ae (decide (y0<0)) (ret (if 1073741824<y2 then 1073741824 else y2,d.2)) (ret (if 1073741824<y1 then 1073741824 else y1,d.2)))) (ae (decide (ak< -1686629713)) (opt (c7 y1) λaF=>let y0:=wI (1686629713-aF);ae (decide (aF<=843314857)) (opt (jE y1 y1 d.2) λd=>opt (fW d.1 6 d.2 (cr (-27) [1073741824, -178956971,8947849, -213044,2959, -27]) true) λd=>opt (jE y1 d.1 d.2) λd=>let y0:=if -1073741824>d.1 then -1073741824 else d.1;ret (if 1073741824<y0 then 1073741824 else y0,d.2)) (opt (jE y0 y0 d.2) λd=>opt (fW d.1 7 d.2 (cr 2 [1073741824, -536870912,44739243, -1491308,26631, -296,2]) true) λd=>let y0:=wI (0-d.1);let aAj:=if -1073741824>d.1 then -1073741824 else d.1;let y2:=if -1073741824>y0 then -1073741824 else y0;ae (decide (y1<0)) (ret (if 1073741824<y2 then 1073741824 else y2,d.2)) (ret (if 1073741824<aAj then 1073741824 else aAj,d.2)))) (opt (c7 ak) λaF=>let y0:=wI (1686629713-aF);ae (decide (aF<=843314857)) (opt (jE ak ak d.2) λd=>opt (fW d.1 6 d.2 (cr (-27) [1073741824, -178956971,8947849, -213044,2959, -27]) true) λd=>opt (jE ak d.1 d.2) λd=>let y0:=if -1073741824>d.1 then -1073741824 else d.1;ret (if 1073741824<y0 then 1073741824 else y0,d.2)) (opt (jE y0 y0 d.2) λd=>opt (fW d.1 7 d.2 (cr 2 [1073741824, -536870912,44739243, -1491308,26631, -296,2]) true) λd=>let y0:=wI (0-d.1);let y1:=if -1073741824>d.1 then -1073741824 else d.1;let y2:=if -1073741824>y0 then -1073741824 else y0;ae (decide (ak<0)) (ret (if 1073741824<y2 then 1073741824 else y2,d.2)) (ret (if 1073741824<y1 then 1073741824 else y1,d.2)))))
def oz:=λx0 x1=>(alV aP kI pV K6 ni x0 x1).val
theorem aNP:∀ay di c7 jE fW,D0 [dr ay,Co di,V8 c7,ao2 jE,WX fW] 79 aAh (lf agP) λb=>alV ay di c7 jE fW b.1 b.2:=λ_ _ _ _ _ b=>by kernel_rfl
theorem Rm [aA]:SC (K' oz):=s0 (.c dx (.c GW (.c ad4 (.c ayh (.c alU (.nil _)))))) (aNP aP kI pV K6 ni)
def aAk:=qa (pr (cu aS iA) bJ)
def agQ:=qe qu
abbrev aAl:=agQ.B
abbrev Rn:=Int->Bool->Option aAl
def Ro (g:Rn):Ct:=(80,FC aAk (lf agQ) (λb=>g b.1 b.2))
def alW (di:yP)(eI:K9)(x0:Int)(x1:Bool):Pg aAl:=opt (di x0) λd=>opt (eI (wI (1686629713+d)) x1) λd=>ret d
def sE:=λx0 x1=>(alW kI oz x0 x1).val
theorem aNQ:∀di eI,D0 [Co di,K' eI] 80 aAk (lf agQ) λb=>alW di eI b.1 b.2:=λ_ _ b=>by kernel_rfl
theorem aam [aA]:SC (Ro sE):=s0 (.c GW (.c Rm (.nil _))) (aNQ kI oz)
def aqM:=qa (pr (cu aS A4) bJ)
def W2:=qe qu
abbrev aqN:=W2.B
abbrev acb:=Int->Int->Bool->Option aqN
def acd (g:acb):Ct:=(257,FC aqM (lf W2) (λb=>g b.1.1 b.1.2 b.2))
def ace (ay:bW)(c7:GX)(aE:cN)(jE:ad5)(fW:WW)(x0:Int)(x1:Int)(x2:Bool):Pg aqN:=opt (ay x0 x2) λd=>let y0:=decide (d.1<0);opt (ay x1 d.2) λak=>let ur:=decide (ak.1<0);opt (c7 d.1) λaF=>opt (c7 ak.1) λbA=>let aqL:=if bA>aF then bA else aF;opt (c7 d.1) λcD=>opt (c7 ak.1) λeU=>ae (aqL==0) (ret (0,ak.2)) (opt (aE (if eU<cD then eU else cD) aqL 30 ak.2) λc8=>ae (decide (c8.1>444758426)) (opt (aE (wI (c8.1-1073741824)) (wI (c8.1+1073741824)) 30 c8.2) λmg=>opt (jE mg.1 mg.1 mg.2) λqX=>opt (fW qX.1 12 qX.2 (cr (-46684427) [1073741824, -357913941,214748365, -153391689,119304647, -97612893,82595525, -71582788,63161284, -56512728,51130563, -46684427]) true) λpd=>opt (jE mg.1 pd.1 pd.2) λjh=>let aan:=wI (843314857+jh.1);let y1:=wI (3373259426-aan);let y2:=wI (1686629713-aan);let y3:=wI (3373259426-y2);opt (c7 d.1) λd=>opt (c7 ak.1) λqc=>ae (decide (d>qc)) (ae ur (ae y0 (ret (wI (0-y3),jh.2)) (ret (y3,jh.2))) (ae y0 (ret (wI (0-y2),jh.2)) (ret (y2,jh.2)))) (ae ur (ae y0 (ret (wI (0-y1),jh.2)) (ret (y1,jh.2))) (ae y0 (ret (wI (0-aan),jh.2)) (ret (aan,jh.2))))) (opt (jE c8.1 c8.1 c8.2) λmg=>opt (fW mg.1 12 mg.2 (cr (-46684427) [1073741824, -357913941,214748365, -153391689,119304647, -97612893,82595525, -71582788,63161284, -56512728,51130563, -46684427]) true) λqX=>opt (jE c8.1 qX.1 qX.2) λpd=>let aan:=wI (0+pd.1);let y1:=wI (1686629713-aan);let y2:=wI (3373259426-aan);let y3:=wI (3373259426-y1);opt (c7 d.1) λd=>opt (c7 ak.1) λjh=>ae (decide (d>jh)) (ae ur (ae y0 (ret (wI (0-y3),pd.2)) (ret (y3,pd.2))) (ae y0 (ret (wI (0-y1),pd.2)) (ret (y1,pd.2)))) (ae ur (ae y0 (ret (wI (0-y2),pd.2)) (ret (y2,pd.2))) (ae y0 (ret (wI (0-aan),pd.2)) (ret (aan,pd.2))))))
def zZ:=λx0 x1 x2=>(ace aP pV bk K6 ni x0 x1 x2).val
theorem aHj:∀ay c7 aE jE fW,D0 [dr ay,V8 c7,gu aE,ao2 jE,WX fW] 257 aqM (lf W2) λb=>ace ay c7 aE jE fW b.1.1 b.1.2 b.2:=λ_ _ _ _ _ b=>by kernel_rfl
theorem aqO [aA]:SC (acd zZ):=s0 (.c dx (.c ad4 (.c hX (.c ayh (.c alU (.nil _)))))) (aHj aP pV bk K6 ni)
def aqP:=qa (pr (cu aS A4) bJ)
def W3:=qe qu
abbrev aqQ:=W3.B
abbrev de:=Int->Int->Bool->Option aqQ
def ia (g:de):Ct:=(212,FC aqP (lf W3) (λb=>g b.1.1 b.1.2 b.2))
def IK (ay:bW)(x0:Int)(x1:Int)(x2:Bool):Pg aqQ:=opt (ay x0 x2) λd=>opt (ay x1 d.2) λak=>opt (ay (wI (d.1-ak.1)) ak.2) λd=>ret d
def bX:=λx0 x1 x2=>(IK aP x0 x1 x2).val
theorem aHk:∀ay,D0 [dr ay] 212 aqP (lf W3) λb=>IK ay b.1.1 b.1.2 b.2:=λ_ b=>by kernel_rfl
theorem ji [aA]:SC (ia bX):=s0 (.c dx (.nil _)) (aHk aP)
def aFu:=qa (pr (cu aS (c afE HV)) bJ)
def alX:=qe axt
abbrev aFv:=alX.B
abbrev Ki:=Int->Int->Int->Int->Int->Int->Bool->Option aFv
def Xa (g:Ki):Ct:=(181,FC aFu (lf alX) (λb=>g b.1.1.1 b.1.1.2.1 b.1.1.b b.1.2.1 b.1.b.1 b.1.b.2 b.2))
def atd (aX:de)(x0:Int)(x1:Int)(x2:Int)(x3:Int)(x4:Int)(x5:Int)(x6:Bool):Pg aFv:=opt (aX x0 x3 x6) λd=>opt (aX x1 x4 d.2) λak=>opt (aX x2 x5 ak.2) λaF=>ret ((d.1,ak.1,aF.1),aF.2)
def wo:=λx0 x1 x2 x3 x4 x5 x6=>(atd bX x0 x1 x2 x3 x4 x5 x6).val
theorem aQW:∀aX,D0 [ia aX] 181 aFu (lf alX) λb=>atd aX b.1.1.1 b.1.1.2.1 b.1.1.b b.1.2.1 b.1.b.1 b.1.b.2 b.2:=λ_ b=>by kernel_rfl
theorem agR [aA]:SC (Xa wo):=s0 (.c ji (.nil _)) (aQW bX)
def avg:=qa (pr (cu aS (c afE iA)) bJ)
def acf:=qe axt
abbrev avh:=acf.B
abbrev Vk:=Int->Int->Int->Int->Bool->Option avh
def Vl (g:Vk):Ct:=(157,FC avg (lf acf) (λb=>g b.1.1.1 b.1.1.2.1 b.1.1.b b.1.2 b.2))
def agS (aC:bR)(x0:Int)(x1:Int)(x2:Int)(x3:Int)(x4:Bool):Pg avh:=opt (aC x0 x3 30 x4) λd=>opt (aC x1 x3 30 d.2) λak=>opt (aC x2 x3 30 ak.2) λaF=>ret ((d.1,ak.1,aF.1),aF.2)
def uJ:=λx0 x1 x2 x3 x4=>(agS aW x0 x1 x2 x3 x4).val
theorem aK3:∀aC,D0 [eT aC] 157 avg (lf acf) λb=>agS aC b.1.1.1 b.1.1.2.1 b.1.1.b b.1.2 b.2:=λ_ b=>by kernel_rfl
theorem agT [aA]:SC (Vl uJ):=s0 (.c fA (.nil _)) (aK3 aW)
def aqR:=qa (dp (cu aS axn) λa=>(c xL (cl (cl (gs a.1 nN) nil) nil)))
def Xb:=qe aJ7
abbrev aqS:=Xb.B
abbrev z5:=Nat->Bool->NI->Bool->Option aqS
def IL (g:z5):Ct:=(135,vA 1 [.i .i64] (FC aqR (lf Xb) (λb=>g b.1.1 b.2.1 b.b b.1.2)))
def vQ:=qs (st (pr (cu aS (us 4 (cu azy (us 6 (c zU (c ai (cl ai (us 19 nil)))))))) (pl (c bE (c HW aby)) bK)))
def aiO:=qs (st (pr (cu aS (us 4 (cu azy (us 6 (c zU (c ai (c ai (cl ab (us 18 nil))))))))) (pl (c bE (c HW aby)) bK)))
abbrev Jx:=aiO.B
def aiP {ρ:Type}:=@ef Jx ((.ex 0)) aiO ρ
def tZ (ay:bW)(cU:oy)(yQ:sD)(d:vQ.B):PL vQ Jx:=let y0:=decide (d.1.2.2<d.1.2.1);ae y0 (ae (bg d.1.2.2 d.1.1.1) (opt (ay (d.2.2.1.2 (z4 d.1.2.2)) d.2.1) λak=>opt (cU ak.1 ak.1) λaF=>opt (yQ 2 (λj=>bif z9 j 1 then aF.1 else bif z9 j 0 then d.2.2.2.1 else d.2.2.2.1) (λj=>bif z9 j 1 then aF.2 else bif z9 j 0 then d.2.2.2.2 else d.2.2.2.2) true) λbA=>ret (ww ((d.1.1,d.1.2.1,wI (d.1.2.2+1)),ak.2,d.2.2.1,bA.1))) no) (ret (ws ((d.1.1,d.1.2.1,d.1.2.2,y0),d.2)))
def Jy:=bI (tZ aP fE ku) 2000
def QA (K5:aaj)(dR:LT vQ Jx)(x0:Nat)(x1:Bool)(x2:Nat->Int)(w0:Bool):Pg aqS:=let y0:=if 64<wr x0 then 64 else wr x0;let y1:=z4 y0;ae (HF y0 x0) (opt (dR (((y1,w0&&false),wr y1,0),x1,(x0,x2),0,0)) λd=>opt (K5 d.2.2.2.1 d.2.2.2.2 d.2.1) λd=>ret d) no
def cB:=λx0 x1 x2 w0=>(QA yO Jy x0 x1 x2 w0).val
abbrev QB:=bW×oy×sD×aaj×(LT vQ Jx)
def acg (p:QB):KK:=⟨[dr p.1,yK p.2.1,K8 p.b.1,alL p.b.2.1],⟨[⟨3,(rg 1 4 (rg 6 6 (rg 15 19 []))),[]⟩],[fQ 3 2 vQ aiP p.c],[0],[],(some ⟨0,(rg 0 4 (rg 5 29 [])),[]⟩)⟩,2,135⟩
theorem ayj (p:QB):LI (acg p) 3 vQ aiP (tZ p.1 p.2.1 p.b.1):=λ_ d c K=>by kernel_rfl
theorem aHl (p:QB):D2 (acg p) aqR (lf Xb) λb=>QA p.b.2.1 p.c b.1.1 b.2.1 b.b b.1.2:=λb=>by kernel_rfl
abbrev ach:QB:=(aP,fE,ku,yO,Jy)
theorem QC [aA]:SC (IL cB):=sc (Sound.nil 1 [.i .i64]<|kS (k:=acg ach) (.c dx (.c BU (.c Rl (.c aAb (.nil _))))) [3] [] ⟨kL (ayj ach),trivial⟩ trivial (aHl ach))
def aAm:=qa (pr (cu aS HV) bJ)
def agU:=qe qu
abbrev aAn:=agU.B
abbrev BW:=Int->Int->Int->Bool->Option aAn
def Rp (g:BW):Ct:=(158,FC aAm (lf agU) (λb=>g b.1.1 b.1.2.1 b.1.b b.2))
def alY (km:z5)(x0:Int)(x1:Int)(x2:Int)(x3:Bool):Pg aAn:=opt (km 3 x3 (cr x0 [x2,x1,x0]) false) λd=>ret d
def qd:=λx0 x1 x2 x3=>(alY cB x0 x1 x2 x3).val
theorem aNR:∀km,D0 [IL km] 158 aAm (lf agU) λb=>alY km b.1.1 b.1.2.1 b.1.b b.2:=λ_ b=>by kernel_rfl
theorem aao [aA]:SC (Rp qd):=s0 (.c QC (.nil _)) (aNR cB)
def aFw:=qa (pr (cu aS HV) bJ)
def alZ:=qe axt
abbrev aFx:=alZ.B
abbrev OS:=Int->Int->Int->Bool->Option aFx
def agV (g:OS):Ct:=(211,FC aFw (lf alZ) (λb=>g b.1.1 b.1.2.1 b.1.b b.2))
def ate (ay:bW)(x0:Int)(x1:Int)(x2:Int)(x3:Bool):Pg aFx:=opt (ay x0 x3) λd=>opt (ay x1 d.2) λak=>opt (ay x2 ak.2) λaF=>ret ((d.1,ak.1,aF.1),aF.2)
def Cp:=λx0 x1 x2 x3=>(ate aP x0 x1 x2 x3).val
theorem aQX:∀ay,D0 [dr ay] 211 aFw (lf alZ) λb=>ate ay b.1.1 b.1.2.1 b.1.b b.2:=λ_ b=>by kernel_rfl
theorem atf [aA]:SC (agV Cp):=s0 (.c dx (.nil _)) (aQX aP)
def aAo:=qa (pr (cu aS asv) bJ)
def agW:=qe axu
abbrev aAp:=agW.B
abbrev Rr:=Int->Int->Int->Int->Bool->Option aAp
def aap (g:Rr):Ct:=(134,FC aAo (lf agW) (λb=>g b.1.1 b.1.2.1 b.1.b.1 b.1.b.2 b.2))
def sF:=qs (st (pr (cu aS (us 2 (cu ait (cu ap2 (us 1 aVi))))) (pl (c bE (cl xP (cu akU nil))) bK)))
def aqT:=qs (st (pr (cu aS (us 2 (cu ait (cu ap2 (us 1 (c ai (cl ab (us 10 nil)))))))) (pl (c bE (cl xP (cu akU nil))) bK)))
abbrev IM:=aqT.B
def aqU {ρ:Type}:=@ef IM ((.ex 0)) aqT ρ
def aci (ay:bW)(d:sF.B):PL sF IM:=let n1:=d.2.2;let n3:=n1.2.1;let n2:=n1.2.2;let y0:=bg d.1 4;let y1:=d.1==3;let y2:=d.1==2;let y3:=d.1==1;let y4:=wI (d.1+1);let y5:=decide (d.1<4);ae y5 (ae y0 (ae y1 (opt (ay n2.2 d.2.1) λak=>ae y0 (ae y1 (ret (ww (y4,ak.2,n1.1,n3,n2.1,ak.1))) (ae y2 (ret (ww (y4,ak.2,n1.1,n3,ak.1,n2.2))) (ae y3 (ret (ww (y4,ak.2,n1.1,ak.1,n2))) (ret (ww (y4,ak.2,ak.1,n1.2)))))) no) (ae y2 (opt (ay n2.1 d.2.1) λak=>ae y0 (ae y1 (ret (ww (y4,ak.2,n1.1,n3,n2.1,ak.1))) (ae y2 (ret (ww (y4,ak.2,n1.1,n3,ak.1,n2.2))) (ae y3 (ret (ww (y4,ak.2,n1.1,ak.1,n2))) (ret (ww (y4,ak.2,ak.1,n1.2)))))) no) (ae y3 (opt (ay n3 d.2.1) λak=>ae y0 (ae y1 (ret (ww (y4,ak.2,n1.1,n3,n2.1,ak.1))) (ae y2 (ret (ww (y4,ak.2,n1.1,n3,ak.1,n2.2))) (ae y3 (ret (ww (y4,ak.2,n1.1,ak.1,n2))) (ret (ww (y4,ak.2,ak.1,n1.2)))))) no) (opt (ay n1.1 d.2.1) λak=>ae y0 (ae y1 (ret (ww (y4,ak.2,n1.1,n3,n2.1,ak.1))) (ae y2 (ret (ww (y4,ak.2,n1.1,n3,ak.1,n2.2))) (ae y3 (ret (ww (y4,ak.2,n1.1,ak.1,n2))) (ret (ww (y4,ak.2,ak.1,n1.2)))))) no)))) no) (ret (ws ((d.1,y5),d.2)))
def IN:=bI (aci aP) 2000
def al0 (dR:LT sF IM)(x0:Int)(x1:Int)(x2:Int)(x3:Int)(x4:Bool):Pg aAp:=opt (dR (0,x4,x0,x1,x2,x3)) λd=>ret (d.2.2,d.2.1)
def sG:=λx0 x1 x2 x3 x4=>(al0 IN x0 x1 x2 x3 x4).val
abbrev aaq:=bW×(LT sF IM)
def al1 (p:aaq):KK:=⟨[dr p.1],⟨[⟨2,(1::2::5::rg 7 11 []),[]⟩],[fQ 2 1 sF aqU p.2],[0],[],(some ⟨0,(rg 0 4 (rg 5 13 [])),[]⟩)⟩,1,134⟩
theorem aFy (p:aaq):LI (al1 p) 2 sF aqU (aci p.1):=λ_ d c K=>by kernel_rfl
theorem aNS (p:aaq):D2 (al1 p) aAo (lf agW) λb=>al0 p.2 b.1.1 b.1.2.1 b.1.b.1 b.1.b.2 b.2:=λb=>by kernel_rfl
abbrev al2:aaq:=(aP,IN)
theorem al3 [aA]:SC (aap sG):=sc (kS (k:=al1 al2) (.c dx (.nil _)) [2] [] ⟨kL (aFy al2),trivial⟩ trivial (aNS al2))
def aAq:=qa (pu nil nil)
def agX:=qe (res (pu (aa (cu asq asx)) (pu nil nil)))
abbrev al4:=agX.B
abbrev BX:=Option al4
def La (g:BX):Ct:=(84,FC aAq (lf agX) (λ_=>g))
def al5:Pg al4:=ret ()
def oA:Option al4:=(al5).val
theorem aNT:D0 [] 84 aAq (lf agX) λb=>al5:=λb=>by kernel_rfl
theorem Rs [aA]:SC (La oA):=s0 (.nil _) aNT
def avi:=qa (pl asv nil)
def acj:=qe aWa
abbrev avj:=acj.B
abbrev Ml:=Int->Int->Int->Int->Option avj
def agY (g:Ml):Ct:=(182,FC avi (lf acj) (λb=>g b.1 b.2.1 b.b.1 b.b.2))
def agZ (qf:Rr)(x0:Int)(x1:Int)(x2:Int)(x3:Int):Pg avj:=opt (qf x0 x1 x2 x3 false) λd=>ret (d.1.1,wI (0-d.1.2.1),wI (0-d.1.2.2.1),wI (0-d.1.2.2.2))
def Cq:=λx0 x1 x2 x3=>(agZ sG x0 x1 x2 x3).val
theorem aK4:∀qf,D0 [aap qf] 182 avi (lf acj) λb=>agZ qf b.1 b.2.1 b.b.1 b.b.2:=λ_ b=>by kernel_rfl
theorem avk [aA]:SC (agY Cq):=s0 (.c al3 (.nil _)) (aK4 sG)
def aqV:=qa (pl afK nil)
def Xc:=qe aV4
abbrev aqW:=Xc.B
abbrev lU:=NI->Int->Option aqW
def rQ (g:lU):Ct:=(154,FC aqV (lf Xc) (λb=>g b.1 b.2))
def oB:=qs (st (pr (us 1 (c ai (cu azz (us 1 (cu aMB (cu ZQ (us 2 aPi))))))) (pl (c nQ akV) nil)))
def aiQ:=qs (st (pr (us 1 (c ai (cu azz (us 1 (cu aMB (cu ZQ (us 2 aJT))))))) (pl (c nQ akV) nil)))
abbrev DG:=aiQ.B
def aiR {ρ:Type}:=@ef DG ((.ex 0)) aiQ ρ
def Tf (d:oB.B):PL oB DG:=let n4:=d.2.2;let n3:=d.2.1;let n2:=d.1.1;let n1:=d.1.2;let y0:=wI (n2+n1);let y1:=decide (n1<3);ae y1 (ae (decide (y0>=0)) (ae (decide (y0<24)) (ae (bg y0 24) (ae (bg n1 3) (ae (n1==2) (ret (ww ((n2,wI (n1+1)),n3,n4.1,n4.2.1,n3 (z4 y0)))) (ae (n1==1) (ret (ww ((n2,wI (n1+1)),n3,n4.1,n3 (z4 y0),n4.2.2))) (ret (ww ((n2,wI (n1+1)),n3,n3 (z4 y0),n4.2))))) no) no) (ret (ww ((n2,wI (n1+1)),d.2)))) (ret (ww ((n2,wI (n1+1)),d.2)))) (ret (ws ((n2,n1,y1),d.2)))
def Tg:=bI (Tf) 2000
def ack (dR:LT oB DG)(x0:Nat->Int)(x1:Int):Pg aqW:=opt (dR ((x1,0),x0,0,0,0)) λd=>ret d.2.2
def eV:=λx0 x1=>(ack Tg x0 x1).val
abbrev QD:=(LT oB DG)
def acm (p:QD):KK:=⟨[],⟨[⟨3,(0::3::6::7::rg 9 8 (rg 19 8 [17,18])),[]⟩],[fQ 3 0 oB aiR p],[],[],(some ⟨0,(rg 0 4 (rg 5 22 [])),[]⟩)⟩,0,154⟩
theorem ayk (p:QD):LI (acm p) 3 oB aiR (Tf):=λ_ d c K=>by kernel_rfl
theorem aHm (p:QD):D2 (acm p) aqV (lf Xc) λb=>ack p b.1 b.2:=λb=>by kernel_rfl
abbrev acn:QD:=Tg
theorem vE [aA]:SC (rQ eV):=sc (kS (k:=acm acn) (.nil _) [3] [] ⟨kL (ayk acn),trivial⟩ trivial (aHm acn))
def aqX:=qa (dp (c lz aVP) λa=>(cl (cl (gs a.b.1 nN) nil) nil))
def Xd:=qe aWb
abbrev IP:=Xd.B
abbrev z6:=NI->Int->Nat->NI->Bool->Option IP
def Ee (g:z6):Ct:=(32,vA 2 [.i .i64] (FC aqX (lf Xd) (λb=>g b.1.1 b.1.2.1 b.1.b.1 b.2 b.1.b.2)))
def oC:=qs (st (dp (us 1 (c ai (c J0 (cu Uu (us 2 (cu EJ (us 3 (c J0 (c ai aPi))))))))) λa=>(pl (c (so (cl (gs a.2.1.1 nN) nil)) Oo) nil)))
def aCe:=qs (st (pr (us 1 (c ai (c J0 (cu Uu (us 2 (cu EJ (us 3 (c J0 (c ai aJT))))))))) (pl (c HW Oo) nil)))
abbrev DH:=(aU8×NI×NI×NI)
def aiS {ρ:Type}(x:DH)(K:AX->St->Option ρ):Option ρ:=(λd=>K (.ex 0) (aCe.em (d.1,(d.1.2.1.1,d.2.1),d.b))) x
def Th (d:oC.B):PL oC DH:=let n2:=d.1.2.2;let n3:=n2.2.2;let n1:=(d.1.1,d.1.2.1,n2.1,n2.2.1,wI (n3+1));let y0:=wI (d.1.1+n3);let y1:=z4 y0;let y2:=decide (n3<n2.2.1);ae y2 (ae (bg n3 n2.1.1) (ae (decide (y0>=0)) (ae (decide (y0<24)) (ae (bg y0 24) (ae (true&&wl (0+y1*1+1) 24) (ret (ww (n1,d.2.1,λj=>bif z9 j y1 then d.2.1 (z4 n3) else d.2.2.1 j,d.2.2.2))) no) no) (ret (ww (n1,d.2)))) (ret (ww (n1,d.2)))) no) (ret (ws ((d.1.1,d.1.2.1,n2.1,n2.2.1,n3,y2),d.2)))
def Ti:=bI (Th) 2000
def aco (dR:LT oC DH)(x0:Nat->Int)(x1:Int)(x2:Nat)(x3:Nat->Int)(w0:Bool):Pg IP:=ae (z9 x2 x2) (opt (dR ((x1,(x2,w0),(x2,w0),wr x2,0),x3,x0,λx=>0)) λd=>ret d.2.2.1) no
def eW:=λx0 x1 x2 x3 w0=>(aco Ti x0 x1 x2 x3 w0).val
abbrev QE:=(LT oC DH)
def acp (p:QE):KK:=⟨[],⟨[⟨2,(0::4::5::7::8::9::rg 13 10 (rg 25 6 [23,24])),[]⟩],[fQ 2 1 oC aiS p],[],[],(some ⟨0,(rg 0 6 (rg 7 24 [])),[]⟩)⟩,1,32⟩
theorem ayl (p:QE):LI (acp p) 2 oC aiS (Th):=λ_ d c K=>by kernel_rfl
theorem aHn (p:QE):D2 (acp p) aqX (lf Xd) λb=>aco p b.1.1 b.1.2.1 b.1.b.1 b.2 b.1.b.2:=λb=>by kernel_rfl
abbrev acq:QE:=Ti
theorem IQ [aA]:SC (Ee eW):=sc (Sound.nil 2 [.i .i64]<|kS (k:=acp acq) (.nil _) [2] [] ⟨kL (ayl acq),trivial⟩ trivial (aHn acq))
end Go.Proofs.YtldgljclcgaibaaGreat
