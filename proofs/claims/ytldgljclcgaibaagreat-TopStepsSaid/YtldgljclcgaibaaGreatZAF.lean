/-
  Parts of the proof: SLB SLC SLD SLE SLF SLH Q1
-/
import Derived.Test.YtldgljclcgaibaaGreatZAE
import Derived.Shelf.Spec.SlicesInsertGrow
open Nat renaming beq→z9,ble→wr,blt→wl
open Int renaming toNat→z4,ofNat→ws,fdiv→v9,tdiv→ul
open Sum renaming inl→w7,inr→ww,elim→v4
open BitVec renaming ofInt→wn,toNat→wd
open List renaming append→v6,range→t7
set_option linter.unusedVariables false
set_option linter.unusedSimpArgs false
namespace Go.Proofs.YtldgljclcgaibaaGreat
open Go.RowKit Go.Lib Go.Ab
theorem Z6 {P:Program}(w:World)(dT sT ty e:TypeId)(z b o aTR a6n:Nat)(a:Addr)(aN6 a3B:Nat)(cs:List Value)(hu:P.underlying dT=some (.slice e))(hz:iR P e=some z)(hn:cs.length=Nat.min aN6 aTR*z)
  (a6o:∀j v,cs[j]? =some v->w.cell? (a.add j)=some v)(hc:∀j,j<cs.length->(w.cell? ⟨b,o+j,none⟩).isSome=true)(hf:∀j,j<cs.length->w.frozen? ⟨b,o+j,none⟩=false)(h1:∀v∈cs,v.oneCell'=true):
  (Builtin.copy_ #[dT,sT] ty #[.slice (some ⟨b,o,none⟩) aTR a6n,.slice (some a) aN6 a3B]).run P w=.ok (goInt (Nat.min aN6 aTR)) (w.setCells b o cs):=by
 have hl:=run_firstCells_some (P:=P) w z (Nat.min aN6 aTR) a aN6 a3B cs hn a6o;have hst:=run_storeCells_cells (P:=P) b o cs 0 w (by simpa using hc) (by simpa using hf) h1;simp[Builtin.copy_,run_underlying hu,Builtin.lenOf,Ab.run_sizeOf hz,hl,hst]
theorem uT:Tryz.prog.underlying 140=some (.slice 42):=by kernel_rfl
theorem uE:iR Tryz.prog 42=some 9:=by kernel_rfl
set_option maxHeartbeats 4000000 in
set_option maxRecDepth 100000 in
theorem aRP (b off n c i vb DJ vc:Nat)(cs vs:List Value)(w:World)(hi:i<n)(SZ:n+1<=c)(hvb:vb=b->DJ+9<=off∨off+(n+1)*9<=DJ)(EB:cs.length=n*9)(hvl:vs.length=9)(a8H:n+1<=9223372036854775807)
  (Ki:∀j v,cs[j]? =some v->w.cell? ⟨b,off+j,none⟩=some v)(hsp:∀j,j<(n+1)*9->(w.cell? ⟨b,off+j,none⟩).isSome=true)(hfz:∀j,j<(n+1)*9->w.frozen? ⟨b,off+j,none⟩=false)
  (hvs:∀j v,vs[j]? =some v->w.cell? ⟨vb,DJ+j,none⟩=some v)(h1c:∀v∈cs,v.oneCell'=true)(h1v:∀v∈vs,v.oneCell'=true)
  (hov:∀cb,(callFunc 145 #[.slice (some ⟨vb,DJ,none⟩) 1 vc,.slice (some ⟨b,off+(i+1)*9,none⟩) (n-i) cb]).run Tryz.prog w=.ok (.value (.bool false)) w):
  Calls Tryz.prog 97 #[.slice (some ⟨b,off,none⟩) n c,.int .i64 i,.slice (some ⟨vb,DJ,none⟩) 1 vc] w λe w'=>
   e=.returned (.slice (some ⟨b,off,none⟩) (n+1) c)/\w'=(w.drew.setCells b (off+(i+1)*9) (cs.drop (i*9))).setCells b (off+i*9) vs:=by
 have mixed:=mixed;have hz2:¬((i:Int)=(n:Int)):=by omega
 have hdl:(cs.drop (i*9)).length=(n-i)*9:=by rw[asJ,EB];omega
 have hw1:IntKind.i64.wrap ((i:Int)+1)=(i:Int)+1:=by rw[IntKind.wrap_i64];omega
 have hw2:IntKind.i64.wrap ((n:Int)+1)=(n:Int)+1:=by rw[IntKind.wrap_i64];omega
 have hb1:(0:Int)<=(i:Int)+1:=by omega
 have hin:i<=n:=by omega
 have htn:((i:Int)+1).toNat=i+1:=by omega
 have FI:¬(c=i+1):=by omega
 have hb3:(i:Int)<=(n:Int)+1:=by omega
 have hb4:¬(c=i):=by omega
 have hb5:¬((c:Int)<(n:Int)+1):=by omega
 have a3C:∀ty dc sc,(Builtin.copy_ #[140,140] ty #[.slice (some ⟨b,off+(i+1)*9,none⟩) (n-i) dc,.slice (some ⟨b,off+i*9,none⟩) (n+1-i) sc]).run Tryz.prog w.drew=.ok (goInt (Nat.min (n+1-i) (n-i))) (w.drew.setCells b (off+(i+1)*9) (cs.drop (i*9))):=λty dc sc=>
  Z6 w.drew _ _ ty 42 9 b (off+(i+1)*9) (n-i) dc ⟨b,off+i*9,none⟩ (n+1-i) sc (cs.drop (i*9)) uT uE (by rw[hdl];simp only[Nat.min_def];split<;>omega)
   (λj v hj=>by rw[Addr.add_lit,CB];exact Ki (i*9+j) v (by rwa [SO] at hj))
   (λj hj=>by rw[CB];exact hsp _ (by omega)) (λj hj=>by rw[CB];exact hfz _ (by omega)) (λv hv=>h1c v (List.mem_of_mem_drop hv))
 obtain⟨W1,hW1⟩:∃W1,W1=w.drew.setCells b (off+(i+1)*9) (cs.drop (i*9)):=⟨_,rfl⟩
 have a6p:∀k,k<(n+1)*9->(W1.cell? ⟨b,off+k,none⟩).isSome=true:=λk hk=>by
  rw[hW1];exact Go.Proofs.isSome_setCells b _ _ _ (λj hj=>by rw[CB];exact hsp _ (by omega)) _ (hsp k hk)
 have a6q:∀(W:World),(∀x,W.cell? x=W1.cell? x)->(∀x,W.frozen? x=W1.frozen? x)->∀ty dc,(Builtin.copy_ #[140,140] ty #[.slice (some ⟨b,off+i*9,none⟩) (n+1-i) dc,.slice (some ⟨vb,DJ,none⟩) 1 vc]).run Tryz.prog W=.ok (goInt (Nat.min 1 (n+1-i))) (W.setCells b (off+i*9) vs):=λW hWc hWf ty dc=>
  Z6 W _ _ ty 42 9 b (off+i*9) (n+1-i) dc ⟨vb,DJ,none⟩ 1 vc vs uT uE (by rw[hvl];simp only[Nat.min_def];split<;>omega)
   (λj v hj=>by
    have hj9:=(lP.1 hj).1
    rw[Addr.add_lit,hWc,hW1,World.cell?_setCells_out b _ _ _ _ (λh _=>by
     have:=hvb h;show DJ+j<_∨_<=DJ+j;omega)]
    exact hvs j v hj)
   (λj hj=>by rw[hWc,CB];exact a6p _ (by omega)) (λj hj=>by rw[hWf,hW1,World.frozen?_setCells,CB];exact hfz _ (by omega)) h1v
 rw[<-hW1] at a3C;go_enter Tryz.func97,Tryz.ntmps97
 go_wp2_with (simp only[hov])
 go_region_law_o (refine step_copy_runI rfl _ _ 140 140 rfl _ _ (by simp[Act.eval,Act.put]) (by simp[Act.eval,Act.put]) (a3C _ _ _) ?_)
 go_wp2_with (at_builtin;refine wpList_copy_runI _ rfl _ _ 140 140 rfl _ _ rfl rfl (a6q _ (λ_=>rfl) (λ_=>rfl) _ _) ?_)
 go_ret
 first|exact⟨rfl,rfl⟩|exact⟨rfl,by rw[hW1]⟩
set_option maxHeartbeats 4000000 in
set_option maxRecDepth 100000 in
theorem aN7 (base:Option Addr)(n c vb DJ vc:Nat)(w w2:World)(v2:Value)
  (hrz:∀ty,(Builtin.append_ #[140,140] ty #[.slice base n c,.slice (some ⟨vb,DJ,none⟩) 1 vc]).run Tryz.prog w=.ok v2 w2):
  Calls Tryz.prog 97 #[.slice base n c,.int .i64 n,.slice (some ⟨vb,DJ,none⟩) 1 vc] w λe w'=>e=.returned v2/\w'=w2:=by
 have mixed:=mixed;go_enter Tryz.func97,Tryz.ntmps97
 go_wp2_with (at_builtin;refine Lib.wpList_append_run _ rfl _ _ _ _ rfl _ _ rfl rfl _ _ (hrz _) ?_)
 all_goals (go_ret;exact⟨rfl,rfl⟩)
theorem iE:∃i z,Tryz.prog.info? 42=some i/\i.zero=some z/\i.size=9/\i.bytes=72/\z.cells.size=9:=by
 have h:(Tryz.prog.info? 42).map (λi=>(i.size,i.bytes,(i.zero.map λz=>z.cells.size)))=some (9,72,some 9):=by kernel_rfl
 cases hi:Tryz.prog.info? 42 with
 |none=>rw[hi] at h;cases h
 |some i=>
  rw[hi] at h;simp only[SS,iv,rq] at h;obtain⟨h1,h2,h3⟩:=h;cases hz:i.zero with
  |none=>rw[hz] at h3;cases h3
  |some z=>rw[hz] at h3;exact⟨i,z,rfl,hz,h1,h2,by simpa using h3⟩
theorem uI:Tryz.prog.underlying 3=some (.int .i64):=by kernel_rfl
set_option maxHeartbeats 4000000 in
set_option maxRecDepth 100000 in
theorem aUW (b off n c i vb DJ vc:Nat)(cs vs:List Value)(w:World)(hi:i<n)(hnc:n<=c)(SZ:c<n+1)(azN:(n+1)*72<=140737488355328)(EB:cs.length=n*9)(hvl:vs.length=9)
  (Ki:∀j v,cs[j]? =some v->w.cell? ⟨b,off+j,none⟩=some v)(hvs:∀j v,vs[j]? =some v->w.cell? ⟨vb,DJ+j,none⟩=some v)(h1c:∀v∈cs,v.oneCell'=true)(h1v:∀v∈vs,v.oneCell'=true):
  ∃G DK,n+1<=G/\DK.size=G*9/\(∀j v,j<i*9->cs[j]? =some v->DK[j]? =some v)/\
  Calls Tryz.prog 97 #[.slice (some ⟨b,off,none⟩) n c,.int .i64 i,.slice (some ⟨vb,DJ,none⟩) 1 vc] w λe w'=>
   e=.returned (.slice (some ⟨w.heap.size,0,none⟩) (n+1) G)/\
   w'=(((w.alloc (.cells DK 42)).drew.setCells w.heap.size (i*9) vs).drew).setCells w.heap.size ((i+1)*9) (cs.drop (i*9)):=by
 have mixed:=mixed;obtain⟨i0,z0,hi0,NS,hzs,hzb,hzl⟩:=iE;have hz2:¬((i:Int)=(n:Int)):=by omega
 have hz3:(c:Int)<(n:Int)+1:=by omega
 have hbw:b<w.heap.size:=block_lt_of_cell (Ki 0 _ (kT (by omega)));have hvw:vb<w.heap.size:=block_lt_of_cell (hvs 0 _ (kT (by omega)));have hkk:(n:Int)+1-(i:Int)=((n+1-i:Nat):Int):=by omega
 have hik:i+(n+1-i)=n+1:=by omega
 have htl:(cs.take (i*9)).length=i*9:=by rw[List.length_take];omega
 have hold:(Builtin.firstCells i0.size i (.slice (some ⟨b,off,none⟩) i c)).run Tryz.prog w.drew=.ok (cs.take (i*9)).toArray w.drew:=by
  rw[hzs]
  exact run_firstCells_some w.drew 9 i ⟨b,off,none⟩ i c (cs.take (i*9)) htl (λj v hj=>by
   rw[Addr.add_lit];rw[abL] at hj;split at hj
   .exact Ki j v hj
   .cases hj)
 have hrz:∀ty,(Builtin.append_ #[140,3] ty #[.slice (some ⟨b,off,none⟩) i c,.int .i64 ((n:Int)+1-(i:Int))]).run Tryz.prog w=
   .ok (.slice (some ⟨w.heap.size,0,none⟩) (n+1) (grownCap w (n+1) c 42)) (w.drew.alloc (.cells ((cs.take (i*9)).toArray++Builtin.zeroCells z0.cells (n+1-i)++Builtin.zeroCells z0.cells (grownCap w (n+1) c 42-(n+1))) 42)):=λty=>by
  have h:=Lib.run_append_grow_zeros w 140 3 ty 42 i0 _ .i64 .i64 uT uI hi0 NS (some ⟨b,off,none⟩) i c (cs.take (i*9)) hold (n+1-i) (by omega) (by omega) (by omega) (by omega) (by rw[hzb];omega) (by rw[hzb,hik];exact growslice_fits SZ azN);rw[hik] at h;rw[hkk];exact h
 have hGn:n+1<=grownCap w (n+1) c 42:=grownCap_ge w _ _ _;obtain⟨G,hG⟩:∃G,G=grownCap w (n+1) c 42:=⟨_,rfl⟩;obtain⟨DK,aTS⟩:∃DK:Array Value,DK=(cs.take (i*9)).toArray++Builtin.zeroCells z0.cells (n+1-i)++Builtin.zeroCells z0.cells (G-(n+1)):=⟨_,rfl⟩;rw[<-hG] at hrz hGn;rw[<-aTS] at hrz
 have hRs:DK.size=G*9:=by
  rw[aTS];simp only[Array.size_append,List.size_toArray,htl,size_zeroCells,hzl];omega
 refine⟨G,DK,hGn,hRs,λj v hj hv=> ?_,?_⟩
 .rw[aTS,Array.getElem?_append_left (by simp[htl];omega),Array.getElem?_append_left (by simp[htl];omega)];simp only[List.getElem?_toArray];rw[abL,if_pos hj];exact hv
 have hRl:(n+1)*9<=DK.size:=by rw[hRs];exact wR _ hGn
 obtain⟨W1,hW1⟩:∃W1,W1=w.drew.alloc (.cells DK 42):=⟨_,rfl⟩;rw[<-hW1] at hrz
 have hN:∀j,j<(n+1)*9->(W1.cell? ⟨w.heap.size,j,none⟩).isSome=true:=λj hj=>by
  rw[hW1,World.cell?_alloc_at (w:=w.drew) DK _ w.heap.size j rfl,aip (by omega)];rfl
 have hNf:∀j,W1.frozen? ⟨w.heap.size,j,none⟩=false:=λj=>by rw[hW1];exact World.frozen?_alloc_at (w:=w.drew) DK _ w.heap.size j rfl
 have hOb:∀j v,w.cell? ⟨b,j,none⟩=some v->W1.cell? ⟨b,j,none⟩=some v:=λj v h=>by rw[hW1,World.cell?_alloc_past (w:=w.drew) _ b j hbw];exact h
 have hOv:∀j v,w.cell? ⟨vb,j,none⟩=some v->W1.cell? ⟨vb,j,none⟩=some v:=λj v h=>by rw[hW1,World.cell?_alloc_past (w:=w.drew) _ vb j hvw];exact h
 have a6r:∀(W:World),(∀x,W.cell? x=W1.cell? x)->(∀x,W.frozen? x=W1.frozen? x)->∀ty dc,(Builtin.copy_ #[140,140] ty #[.slice (some ⟨w.heap.size,i*9,none⟩) (n+1-i) dc,.slice (some ⟨vb,DJ,none⟩) 1 vc]).run Tryz.prog W=.ok (goInt (Nat.min 1 (n+1-i))) (W.setCells w.heap.size (i*9) vs):=λW hWc hWf ty dc=>
  Z6 W _ _ ty 42 9 w.heap.size (i*9) (n+1-i) dc ⟨vb,DJ,none⟩ 1 vc vs uT uE (by rw[hvl];simp only[Nat.min_def];split<;>omega)
   (λj v hj=>by rw[Addr.add_lit,hWc];exact hOv _ v (hvs j v hj))
   (λj hj=>by rw[hWc];exact hN _ (by omega)) (λj hj=>by rw[hWf];exact hNf _) h1v
 have hGi:¬(G=i):=by omega
 have a8I:¬(G=i+1):=by omega
 have hci:¬(c=i):=by omega
 have hbN:b≠w.heap.size:=by omega
 have hdl:(cs.drop (i*9)).length=(n-i)*9:=by rw[asJ,EB];omega
 have a3D:∀(W:World),(∀x,W.cell? x=(W1.setCells w.heap.size (i*9) vs).cell? x)->(∀x,W.frozen? x=(W1.setCells w.heap.size (i*9) vs).frozen? x)->∀ty dc sc,(Builtin.copy_ #[140,140] ty #[.slice (some ⟨w.heap.size,(i+1)*9,none⟩) (n-i) dc,.slice (some ⟨b,off+i*9,none⟩) (n-i) sc]).run Tryz.prog W=.ok (goInt (Nat.min (n-i) (n-i))) (W.setCells w.heap.size ((i+1)*9) (cs.drop (i*9))):=λW hWc hWf ty dc sc=>
  Z6 W _ _ ty 42 9 w.heap.size ((i+1)*9) (n-i) dc ⟨b,off+i*9,none⟩ (n-i) sc (cs.drop (i*9)) uT uE (by rw[hdl];simp only[Nat.min_def];split<;>omega)
   (λj v hj=>by
    rw[Addr.add_lit,hWc,World.cell?_setCells_out _ _ _ _ _ (λh _=>absurd h hbN),CB];exact hOb _ v (Ki (i*9+j) v (by rwa [SO] at hj)))
   (λj hj=>by rw[hWc];exact Go.Proofs.isSome_setCells _ _ _ _ (λt ht=>hN _ (by omega)) _ (hN _ (by omega)))
   (λj hj=>by rw[hWf,World.frozen?_setCells];exact hNf _) (λv hv=>h1c v (List.mem_of_mem_drop hv))
 subst hW1;have hE1:∀x,((w.alloc (.cells DK 42)).drew).cell? x=(w.drew.alloc (.cells DK 42)).cell? x:=λx=>rfl;have hE2:∀x,((w.alloc (.cells DK 42)).drew).frozen? x=(w.drew.alloc (.cells DK 42)).frozen? x:=λx=>rfl;have hF1:∀x,(((w.alloc (.cells DK 42)).drew.setCells w.heap.size (i*9) vs).drew).cell? x=((w.drew.alloc (.cells DK 42)).setCells w.heap.size (i*9) vs).cell? x:=λx=>rfl;have hF2:∀x,(((w.alloc (.cells DK 42)).drew.setCells w.heap.size (i*9) vs).drew).frozen? x=((w.drew.alloc (.cells DK 42)).setCells w.heap.size (i*9) vs).frozen? x:=λx=>rfl;have hw1:IntKind.i64.wrap ((i:Int)+1)=(i:Int)+1:=by rw[IntKind.wrap_i64];omega
 have hw2:IntKind.i64.wrap ((n:Int)+1)=(n:Int)+1:=by rw[IntKind.wrap_i64];omega
 have hw3:IntKind.i64.wrap ((n:Int)+1-(i:Int))=(n:Int)+1-(i:Int):=by rw[IntKind.wrap_i64];omega
 have hb1:(0:Int)<=(i:Int)+1:=by omega
 have hin:i<=n:=by omega
 have htn:((i:Int)+1).toNat=i+1:=by omega
 have hb3:(i:Int)<=(n:Int):=by omega
 clear hkk hik hold aTS hG hRl hRs
 go_enter Tryz.func97,Tryz.ntmps97
 go_wp2_with (first
  |(at_builtin;refine Lib.wpList_append_run _ rfl _ _ _ _ rfl _ _ rfl rfl _ _ (hrz _) ?_)
  |(at_builtin;refine wpList_copy_runI _ rfl _ _ 140 140 rfl _ _ rfl rfl (a6r _ hE1 hE2 _ _) ?_)
  |(at_builtin;refine wpList_copy_runI _ rfl _ _ 140 140 rfl _ _ rfl rfl (a3D _ (λ_=>rfl) (λ_=>rfl) _ _ _) ?_))
 go_region_law_o (refine step_copy_runI rfl _ _ 140 140 rfl (.slice (some ⟨w.heap.size,(i+1)*9,none⟩) (n-i) (G-(i+1))) (.slice (some ⟨b,off+i*9,none⟩) (n-i) (c-i)) (by simp[Act.eval,Act.put]) (by simp[Act.eval,Act.put]) (a3D _ hF1 hF2 3 (G-(i+1)) (c-i)) ?_)
 go_wp2
 go_ret
 exact⟨rfl,rfl⟩
theorem auW {P:Program}{ops:Array Oper}{o:Oper}{a:Act}{w:World}{K:Act->World->Prop}{Q:Exit->Act->World->Prop}{E:Prop}
  (hg:o.guard=none)(d x:Operand)(dT sT:TypeId)(qO:o.op=Op.call {callee:=Callee.builtin Builtin.append,args:=#[d,x],argTypes:=#[dT,sT]})
  (v u:Value)(hd:a.eval d=v)(hx:a.eval x=u){v':Value}{w':World}(hr:(Builtin.append_ #[dT,sT] o.type #[v,u]).run P w=.ok v' w')(hK:K (a.put o.dst v') w'):
  if Region.wanted o (yielded ops a.tmps)=true then Oper.wp P o a w K Q else E:=by
 have hw:Region.wanted o (yielded ops a.tmps)=true:=by simp[Region.wanted,hg]
 rw[if_pos hw];unfold Oper.wp;simp[execOp,qO,resolve,invoke,builtin,hd,hx,hr,Result.andThen]
 exact hK
theorem aFw {P:Program}(w:World){o:Oper}{a:Act}{K:Act->World->Prop}{Q:Exit->Act->World->Prop}(d:Operand)(t:TypeId)
  (ho:o.op=.call {callee:=.builtin .clear,args:=#[d],argTypes:=#[t]})(v:Value)(hd:a.eval d=v){v':Value}{w':World}
  (hr:(Builtin.clear_ #[t] o.type #[v]).run P w=.ok v' w')(h:K (a.put o.dst v') w'):o.wp P a w K Q:=by
 unfold Oper.wp execOp;simp only[ho,resolve,invoke,builtin,Sem.run_bind,Sem.run_pure,Result.andThen_ok,List.map_toArray,List.map_cons,List.map_nil,hd,hr];exact h
theorem as5 {P:Program}(w:World){ops:Array Oper}{rest:List Oper}{o:Oper}{a:Act}{Q:Exit->Act->World->Prop}(hgd:o.guard=none)(d:Operand)(t:TypeId)
  (ho:o.op=.call {callee:=.builtin .clear,args:=#[d],argTypes:=#[t]})(v:Value)(hd:a.eval d=v){v':Value}{w':World}
  (hr:(Builtin.clear_ #[t] o.type #[v]).run P w=.ok v' w')(h:wpList P ops Q rest (a.put o.dst v') w'):wpList P ops Q (o::rest) a w:=
 wpList_plain hgd λ_ hK=>aFw w d t ho v hd hr (hK _ _ h)
set_option maxHeartbeats 4000000 in
set_option maxRecDepth 100000 in
theorem aJd (base:Option Addr)(n c i:Nat)(w:World)(hi:i<=n)(hc:n<=c):
  Calls Tryz.prog 98 #[.slice base n c,.int .i64 i,.int .i64 i] w λe w'=>e=.returned (.slice base n c)/\w'=w:=by
 have mixed:=mixed;have h1:(i:Int)<=(n:Int):=by omega
 have h2:(n:Int)<=(c:Int):=by omega
 go_enter Tryz.func98,Tryz.ntmps98
 go_wp2
 all_goals (go_ret;exact⟨rfl,rfl⟩)
set_option maxHeartbeats 4000000 in
set_option maxRecDepth 100000 in
theorem aUX (b off n c i j:Nat)(w w2 w3:World)(hij:i<j)(hj:j<=n)(hc:n<=c)
  (hrz:∀ty,(Builtin.append_ #[140,140] ty #[.slice (some ⟨b,off,none⟩) i c,.slice (some (if c=j then⟨b,off,none⟩ else⟨b,off+j*9,none⟩)) (n-j) (c-j)]).run Tryz.prog w.drew=.ok (.slice (some ⟨b,off,none⟩) (i+(n-j)) c) w2)
  (EB:∀ty,(Builtin.clear_ #[140] ty #[.slice (some ⟨b,off+(i+(n-j))*9,none⟩) (n-(i+(n-j))) (c-(i+(n-j)))]).run Tryz.prog w2=.ok (.tuple #[]) w3):
  Calls Tryz.prog 98 #[.slice (some ⟨b,off,none⟩) n c,.int .i64 i,.int .i64 j] w λe w'=>e=.returned (.slice (some ⟨b,off,none⟩) (i+(n-j)) c)/\w'=w3:=by
 have mixed:=mixed;have h0:¬((i:Int)=(j:Int)):=by omega
 have h1:(i:Int)<=(j:Int):=by omega
 have h2:(j:Int)<=(n:Int):=by omega
 have h3:(n:Int)<=(c:Int):=by omega
 have h4:(i:Int)<=(c:Int):=by omega
 have h5:¬(c=i+(n-j)):=by omega
 go_enter Tryz.func98,Tryz.ntmps98
 go_wp2
 go_region_law_o (refine auW rfl _ _ 140 140 rfl _ _ (by simp[Act.eval,Act.put]) (by simp[Act.eval,Act.put];split<;>rfl) (hrz _) ?_)
 go_wp2_with (at_builtin;refine as5 _ rfl _ 140 rfl _ rfl (EB _) ?_)
 all_goals (go_ret;exact⟨rfl,rfl⟩)
set_option maxHeartbeats 4000000 in
set_option maxRecDepth 100000 in
theorem aRQ (w:World):Calls Tryz.prog 166 #[.slice none 0 0] w λe w'=>e=.returned (.slice none 0 0)/\w'=w:=by
 have mixed:=mixed;have heq:∀w:World,(Go.binOp .eql 140 (.slice none 0 0) (.slice none 0 0)).run Tryz.prog w=.ok (.bool true) w:=λw=>by kernel_rfl
 go_enter Tryz.func166,Tryz.ntmps166
 go_wp2
 go_ret
 exact⟨rfl,rfl⟩
set_option maxHeartbeats 4000000 in
set_option maxRecDepth 100000 in
theorem az2 (a:Addr)(n c:Nat)(w w2:World)(v2:Value)
  (hrz:∀ty,(Builtin.append_ #[140,140] ty #[.slice (some ⟨w.heap.size,0,none⟩) 0 0,.slice (some a) n c]).run Tryz.prog (w.alloc (.cells #[] 42))=.ok v2 w2):
  Calls Tryz.prog 166 #[.slice (some a) n c] w λe w'=>e=.returned v2/\w'=w2:=by
 have mixed:=mixed;have heq:∀w:World,(Go.binOp .eql 140 (.slice (some a) n c) (.slice none 0 0)).run Tryz.prog w=.ok (.bool false) w:=λw=>by kernel_rfl
 go_enter Tryz.func166,Tryz.ntmps166
 go_wp2_with (at_builtin;refine Lib.wpList_append_run _ rfl _ _ _ _ rfl _ _ rfl rfl _ _ (hrz _) ?_)
 go_ret
 exact⟨rfl,rfl⟩
end Go.Proofs.YtldgljclcgaibaaGreat
namespace Go.Ab
def fC (l:List (Nat->Int)):List cR:=l.map (cR.i .i64)
def K2 (i:Nat)(g v:Nat->Int):Nat->Int:=λj=>cond (wl j i) (g j) (cond (z9 j i) (v 0) (g (j-1)))
def Ri (i d:Nat)(g:Nat->Int):Nat->Int:=λj=>cond (wl j i) (g j) (g (j+d))
theorem Cb {l:List (Nat->Int)}(h:l.length=9)(J:Nat):∃g,l[J%9]? =some g/\iS (fC l) J=.f (.i .i64 (g (J/9))):=by
 have od:J%9<l.length:=by rw[h];exact Nat.mod_lt _ (by omega)
 refine⟨l[J%9],kT od,?_⟩;unfold iS fC;rw[afW,h,CA,kT od];rfl
theorem aUY {l m:List (Nat->Int)}(hl:l.length=9)(hm:m.length=9)(i J:Nat):
  iS (fC (List.zipWith (K2 i) l m)) J=if J<i*9 then iS (fC l) J else if J<(i+1)*9 then iS (fC m) (J-i*9) else iS (fC l) (J-9):=by
 obtain⟨g,hg,eg⟩:=Cb hl J;obtain⟨v,hv,_⟩:=Cb hm J;obtain⟨z,hz,ez⟩:=Cb (l:=List.zipWith (K2 i) l m) (by simp[hl,hm]) J;have hz2:(List.zipWith (K2 i) l m)[J%9]? =some (K2 i g v):=by simp[List.getElem?_zipWith,hg,hv]
 rw[hz2] at hz;cases hz;rw[ez];by_cases h1:J<i*9
 .rw[if_pos h1,eg];have:wl (J/9) i=true:=uH.2 (by omega);simp only[K2,this,bn]
 .rw[if_neg h1];have e1:wl (J/9) i=false:=af6 (by omega);by_cases h2:J<(i+1)*9
  .rw[if_pos h2];have e2:z9 (J/9) i=true:=beq_iff.2 (by omega);obtain⟨v',hv',ev⟩:=Cb hm (J-i*9);have e3:(J-i*9)%9=J%9:=by omega
   have e4:(J-i*9)/9=0:=by omega
   rw[e3,hv] at hv';cases hv';rw[ev,e4];simp only[K2,e1,e2,bn,bx]
  .rw[if_neg h2];have e2:z9 (J/9) i=false:=beq_false (by omega);obtain⟨g',hg',ev⟩:=Cb hl (J-9);have e3:(J-9)%9=J%9:=by omega
   have e4:(J-9)/9=J/9-1:=by omega
   rw[e3,hg] at hg';cases hg';rw[ev,e4];simp only[K2,e1,e2,bx]
theorem aJe {l:List (Nat->Int)}(hl:l.length=9)(i d J:Nat):
  iS (fC (l.map (Ri i d))) J=if J<i*9 then iS (fC l) J else iS (fC l) (J+d*9):=by
 obtain⟨g,hg,eg⟩:=Cb hl J;obtain⟨z,hz,ez⟩:=Cb (l:=l.map (Ri i d)) (by simp[hl]) J;have hz2:(l.map (Ri i d))[J%9]? =some (Ri i d g):=by simp[hg]
 rw[hz2] at hz;cases hz;rw[ez];by_cases h1:J<i*9
 .rw[if_pos h1,eg];have:wl (J/9) i=true:=uH.2 (by omega);simp only[Ri,this,bn]
 .rw[if_neg h1];have e1:wl (J/9) i=false:=af6 (by omega);obtain⟨g',hg',ev⟩:=Cb hl (J+d*9);have e3:(J+d*9)%9=J%9:=by omega
  have e4:(J+d*9)/9=J/9+d:=by omega
  rw[e3,hg] at hg';cases hg';rw[ev,e4];simp only[Ri,e1,bx]
theorem Rj {l:List (Nat->Int)}(h:l.length=9)(n:Nat):aj.size [.a (.s n) (fC l)]=n*9:=by
 rw[aj.size_cons,aj.lH,Sg.lL,ky];show n*(fC l).length=n*9;unfold fC;rw[afW,h]
theorem as6 {l:List (Nat->Int)}(h:l.length=9){n j:Nat}(hj:j<n*9):aj.get [.a (.s n) (fC l)] j=iS (fC l) j:=by
 rw[aj.dN (by rw[Sg.lL];unfold fC;rw[afW,h];exact hj),Sg.pN]
theorem aN8 [aA]{π:Pi}{w:World}{B s N:Nat}{c:Nat->CV}(h:∀j,j<N->∃v,cl w B (s+j)=some v/\(c j).rel π v):
  ∃cs:List Value,cs.length=N/\(∀j v,cs[j]? =some v->w.cell? ⟨B,s+j,none⟩=some v/\(c j).rel π v)/\∀v∈cs,v.oneCell'=true:=by
 have key:∀j v,((t7 N).map λj=>(cl w B (s+j)).getD undef)[j]? =some v->w.cell? ⟨B,s+j,none⟩=some v/\(c j).rel π v:=λj v hv=>by
  have hj:j<N:=by
   have:=(lP.1 hv).1;simpa using this
  obtain⟨u,hu,hr⟩:=h j hj;simp[hj,hu] at hv
  subst hv;exact⟨hu,hr⟩
 refine⟨(t7 N).map λj=>(cl w B (s+j)).getD undef,by simp,key,λv hv=> ?_⟩;obtain⟨i,hi⟩:=axG.1 hv;exact CV.Rf (key i v hi).2
theorem aJf {w:World}{B i:Nat}{v:Value}(h:w.cell? ⟨B,i,none⟩=some v):∃t k,w.shape? B=some (t,k)/\k≠0:=by
 unfold World.cell? at h;simp only at h;cases hh:w.heap[B]? with
 |none=>rw[hh] at h;cases h
 |some x=>
  rw[hh] at h;cases x<;>simp only at h<;>first|(cases h;done)|skip
  rename_i cs t fz
  have:=(Array.getElem?_eq_some_iff.1 h).1;refine⟨t,cs.size,?_,by omega⟩;simp[World.shape?,hh]
variable [aA]
theorem Z7 {P:Program}{π:Pi}{w W:World}{h:List aj}{cs:List Ch}{out:List (Nat->Int)}{n cap B st q e b0:Nat}(ho:out.length=9)(hH:sV π (hC (h.map some)) (hZ (h.map some)) w)(kr:∀b,π b≠none->b<h.length)
  (Ki:∀b,b<h.length->cs[b]? =some .mW∨cs[b]? =some .kill)(Rg:b0<h.length)(hk0:cs[b0]? =some .kill)(hp:π b0=some (B,st,q,e))(hfr:cy w (DH π h.length (S3 cs)) W)
  (qE:∀i,st<=i->i<e->(cl W B i).isSome=true/\fz W B i=false)(ham:Bn W)(hc:∀J,J<n*9->∃v,cl W B (st+J)=some v/\(iS (fC out) J).rel π v)(hn:n<=cap)(hce:st+cap*9<=e):
  aJa P π w h ⟨.r (.c (.sl h.length (.k 0) (.s n) 9 true)),cs,[[.a (.s n) (fC out)]]⟩ (.returned (.slice (some ⟨B,st,none⟩) n cap)) W:=by
 have yZ:=Rj ho n;have NS:hZ (h.map some) b0≠none:=by rw[Qk,kT Rg];simp
 have mX:n*9<=cap*9:=wR _ hn;refine ax9 (P:=P) (B:=B) (s:=st) (e:=e) hH kr Ki hfr (by rw[yZ];omega) qE (λj hj=> ?_) (.inr ⟨b0,st,q,e,Rg,hk0,hp,cP _,cP _⟩) ham (λB7=>hH.lb b0 B st q e NS hp B7) λπ' hx vf=> ?_
 .rw[yZ] at hj;rw[as6 ho hj];exact hc j hj
 .rw[yZ] at vf;exact⟨B,st,n*9,e,vf,by simp[cG.val,Sz.val],λ_=>by simp[cG.val,Sz.val],.inr ⟨cap,hn,rfl,λ_=>by simpa[cG.val] using hce⟩⟩
theorem ali {P:Program}{π:Pi}{w W:World}{h:List aj}{cs:List Ch}{out:List (Nat->Int)}{n cap B:Nat}(ho:out.length=9)(hH:sV π (hC (h.map some)) (hZ (h.map some)) w)(kr:∀b,π b≠none->b<h.length)
  (Ki:∀b,b<h.length->cs[b]? =some .mW∨cs[b]? =some .kill)(hB:w.heap.size<=B)(hfr:cy w (DH π h.length (S3 cs)) W)
  (qE:∀i,i<cap*9->(cl W B i).isSome=true/\fz W B i=false)(ham:Bn W)(hc:∀J,J<n*9->∃v,cl W B J=some v/\(iS (fC out) J).rel π v)(hn:n<=cap):
  aJa P π w h ⟨.r (.c (.sl h.length (.k 0) (.s n) 9 true)),cs,[[.a (.s n) (fC out)]]⟩ (.returned (.slice (some ⟨B,0,none⟩) n cap)) W:=by
 have yZ:=Rj ho n;have mX:n*9<=cap*9:=wR _ hn;refine ax9 (P:=P) (B:=B) (s:=0) (e:=cap*9) hH kr Ki hfr (by rw[yZ];omega) (λi _ hi=>qE i hi) (λj hj=> ?_) (.inl hB) ham (λB7=>dx hH.am.sz hB) λπ' hx vf=> ?_
 .rw[yZ] at hj;rw[as6 ho hj,gP];exact hc j hj
 .rw[yZ] at vf;exact⟨B,0,n*9,cap*9,vf,by simp[cG.val,Sz.val],λ_=>by simp[cG.val,Sz.val],.inr ⟨cap,hn,rfl,λ_=>by simp[cG.val]⟩⟩
theorem alj {P:Program}{π:Pi}{w W:World}{h:List aj}{cs:List Ch}{out:List (Nat->Int)}{a:Option Addr}(ho:out.length=9)(hH:sV π (hC (h.map some)) (hZ (h.map some)) w)(kr:∀b,π b≠none->b<h.length)
  (Ki:∀b,b<h.length->cs[b]? =some .mW∨cs[b]? =some .kill)(hfr:cy w (DH π h.length (S3 cs)) W)(ham:Bn W):
  aJa P π w h ⟨.r (.c (.sl h.length (.k 0) (.s 0) 9 true)),cs,[[.a (.s 0) (fC out)]]⟩ (.returned (.slice a 0 0)) W:=by
 have yZ:=Rj ho 0;refine ax9 (P:=P) (B:=w.heap.size) (s:=0) (e:=0) hH kr Ki hfr (by rw[yZ];omega) (λi _ hi=>by omega) (λj hj=>by rw[yZ] at hj;omega) (.inl (cP _)) ham (λB7=>by omega) λπ' hx vf=> ?_;rw[yZ] at vf;exact⟨w.heap.size,0,0*9,0,vf,by simp[cG.val,Sz.val],λ_=>by simp[cG.val,Sz.val],.inl ⟨rfl,a,rfl⟩⟩
theorem aDE {π:Pi}{w:World}{h:List aj}{l:List (Nat->Int)}{n b B st q e:Nat}(hl:l.length=9)(hH:sV π (hC (h.map some)) (hZ (h.map some)) w)(hb:h[b]? =some [.a (.s n) (fC l)])(hp:π b=some (B,st,q,e)):
  q=n*9/\st+n*9<=e/\(∀i,st<=i->i<e->(cl w B i).isSome=true/\fz w B i=false)/\∃cs:List Value,cs.length=n*9/\(∀j v,cs[j]? =some v->w.cell? ⟨B,st+j,none⟩=some v/\(iS (fC l) j).rel π v)/\∀v∈cs,v.oneCell'=true:=by
 have hz:hZ (h.map some) b=some (n*9):=by rw[Qk,hb];exact eC some (Rj hl n)
 obtain⟨B',s',e',fB,B7,k1,k2⟩:=hH.hp b _ hz;rw[hp] at fB;cases fB;refine⟨rfl,B7,k1,aN8 λj hj=> ?_⟩;obtain⟨v,hv,hr⟩:=k2 j hj;rw[aDB hb (by rw[Rj hl];exact hj),as6 hl hj] at hr;exact⟨v,hv,hr⟩
end Go.Ab
namespace Go.Proofs.YtldgljclcgaibaaGreat
open Go.RowKit Go.Lib Go.Ab
variable [aA]
omit [aA] in
theorem as7 {P:Program}(w:World)(tS tR e:TypeId)(ht:P.underlying tS=some (.slice e))(size:Nat)(hz:∀w,(Go.sizeOf e).run P w=.ok size w)(B oa ob la ca lb cb:Nat)(hd:oa+la*size<=ob∨ob+lb*size<=oa):
  (Extern.SlicesOverlaps.overlaps #[tS,tS] #[tR] #[.slice (some ⟨B,oa,none⟩) la ca,.slice (some ⟨B,ob,none⟩) lb cb]).run P w=.ok (.bool false) w:=by
 change Sem.run P (α:=Value) (do
  let some t:=(#[tS,tS]:Array TypeId)[0]? |stuck "slices.overlaps: no parameter types"
  let .slice elem<-underlying t|stuck "slices.overlaps: slice type expected"
  let size<-sizeOf elem
  match(some ⟨B,oa,none⟩:Option Addr),(some ⟨B,ob,none⟩:Option Addr) with
  |some a,some b=>
   if la=0∨lb=0∨size=0 then pure (Value.bool false)
   else if a.block !=b.block&&(<-frozen a)&&(<-frozen b) then unsupported .addressObserved
   else do
    if a.block !=b.block then do
     noView a;noView b
     if<-mayBeOne a b then return Value.bool ((<-choose (.extern "sameAddr.stringBytes" 2))==1)
    pure (Value.bool (a.block==b.block&&a.off<b.off+lb*size&&b.off<a.off+la*size))
  |_,_=>pure (Value.bool false)) w=_
 by_cases h0:la=0∨lb=0∨size=0
 .simp[run_underlying ht,hz,h0]
 .simp[run_underlying ht,hz,h0,frozen,Sem.run]
  omega
omit [aA] in
theorem aK8 {w:World}{vb DJ vc b o lb cb:Nat}(hd:vb=b->DJ+9<=o∨o+lb*9<=DJ){va vb2:Value}(ha:w.cell? ⟨vb,DJ,none⟩=some va)(hb:w.cell? ⟨b,o,none⟩=some vb2)(hfa:∀i,w.frozen? ⟨vb,i,none⟩=false):
  (callFunc 145 #[.slice (some ⟨vb,DJ,none⟩) 1 vc,.slice (some ⟨b,o,none⟩) lb cb]).run Tryz.prog w=.ok (.value (.bool false)) w:=by
 rw[run_callFunc_extern Tryz.func145 (by kernel_rfl) (by kernel_rfl) (by kernel_rfl) (e:=Extern.SlicesOverlaps.overlaps #[140,140] #[4]) (by kernel_rfl)];obtain⟨tA,kA,sA,_⟩:=aJf ha;obtain⟨tB,kB,sB,nB⟩:=aJf hb;by_cases mX:vb=b
 .subst mX;have h2:=hd rfl;rw[as7 w 140 4 42 uT 9 (λw=>Ab.run_sizeOf uE w) vb DJ o 1 vc lb cb (by omega)];rfl
 .rw[Lib.run_overlaps_apart w 140 4 42 uT 9 (λw=>Ab.run_sizeOf uE w) ⟨vb,DJ,none⟩ ⟨b,o,none⟩ 1 vc lb cb mX tA tB kA kB sA sB nB (hfa DJ) (hfa kA)];rfl
end Go.Proofs.YtldgljclcgaibaaGreat
set_option maxRecDepth 100000
set_option maxHeartbeats 4000000
namespace Go.Proofs.YtldgljclcgaibaaGreat
open Go.RowKit Go.Lib Go.Ab
theorem aHm [aA]{gs vs9:List (Nat->Int)}(hg:gs.length=9)(hv9:vs9.length=9)(n i:Nat)(hi:i<=n)(azN:(n+1)*72<=140737488355328)(w2:Bool)(w:World)(π:Pi)(vs:Array Value)
  (lF:bq (AV.rel π) [.r (.c (.sl 0 (.k 0) (.s n) 9 true)),.r (.c (.f (.i .i64 (i:Int)))),.r (.c (.sl 1 (.k 0) (.s 1) 9 w2))] vs.toList)
  (hH:sV π (hC ([[.a (.s n) (fC gs)],[.a (.s 1) (fC vs9)]].map some)) (hZ ([[.a (.s n) (fC gs)],[.a (.s 1) (fC vs9)]].map some)) w)(kr:∀b,π b≠none->b<2):
  Calls Tryz.prog 97 vs w (tQ π w [[.a (.s n) (fC gs)],[.a (.s 1) (fC vs9)]] ⟨.r (.c (.sl 2 (.k 0) (.s (n+1)) 9 true)),[.kill,.mW],[[.a (.s (n+1)) (fC (List.zipWith (K2 i) gs vs9))]]⟩):=by
 obtain⟨y1,y2,y3,hvt,r1,r2,r3⟩:∃y1 y2 y3,vs.toList=[y1,y2,y3]/\(AV.r (.c (.sl 0 (.k 0) (.s n) 9 true))).rel π y1/\(AV.r (.c (.f (.i .i64 (i:Int))))).rel π y2/\(AV.r (.c (.sl 1 (.k 0) (.s 1) 9 w2))).rel π y3:=by
  match hl:vs.toList,lF with
  | [y1,y2,y3],⟨a,b,c,_⟩=>exact⟨y1,y2,y3,rfl,a,b,c⟩
  | [],h=>exact h.elim
  | [_],⟨_,h⟩=>exact h.elim
  | [_,_],⟨_,_,h⟩=>exact h.elim
  |_::_::_::_::_,⟨_,_,_,h⟩=>exact h.elim
 have hvt:vs=#[y1,y2,y3]:=by rw[<-akP];exact hvt
 subst hvt;have r2:y2=.int .i64 (i:Int):=r2;subst r2;obtain⟨B,st,q,e,hb,_,_,hx⟩:=r1;obtain⟨vB,vst,vq,ve,hvb,_,_,hvx⟩:=r3;obtain⟨rfl,hle,qE,cs,EB,Ki,h1c⟩:=aDE (b:=0) hg hH rfl hb;obtain⟨rfl,a8J,a4K,vl,hvl,hvs,h1v⟩:=aDE (b:=1) hv9 hH rfl hvb
 obtain⟨Z8,a7G,rfl,_⟩:∃Z8,1<=Z8/\y3=.slice (some ⟨vB,vst,none⟩) 1 Z8/\True:=by
  rcases hvx with⟨h,_⟩| ⟨Z8,h1,h2,_⟩
  .cases h
  .exact⟨Z8,h1,h2,trivial⟩
 have NS:hZ ([[.a (.s n) (fC gs)],[.a (.s 1) (fC vs9)]].map some) 0≠none:=by simp[hZ]
 have hz1:hZ ([[.a (.s n) (fC gs)],[.a (.s 1) (fC vs9)]].map some) 1≠none:=by simp[hZ]
 have hfv:∀i,w.frozen? ⟨vB,i,none⟩=false:=λi=>hH.am.fr vB i (hH.lb 1 vB vst _ ve hz1 hvb (by omega))
 have ho:(List.zipWith (K2 i) gs vs9).length=9:=by simp[hg,hv9]
 have aiv:∀b,b< [[Sg.a (.s n) (fC gs)],[.a (.s 1) (fC vs9)]].length->[Ch.kill,Ch.mW][b]? =some .mW∨[Ch.kill,Ch.mW][b]? =some .kill:=λb hb=>by
  match b,hb with
  |0,_=>exact .inr rfl
  |1,_=>exact .inl rfl
  |b+2,h=>exact absurd h (by simp)
 have hft:∀i,st<=i->i<e->DH π 2 (S3 [.kill,.mW]) B i:=λi h1 h2=>⟨0,st,_,e,by omega,by simp[S3],hb,h1,h2⟩
 have cont:∀(W:World) (B' s':Nat),(∀j v,j<i*9->cs[j]? =some v->cl W B' (s'+j)=some v)->(∀j v,vl[j]? =some v->cl W B' (s'+i*9+j)=some v)->(∀j v,i*9<=j->cs[j]? =some v->cl W B' (s'+(j+9))=some v)->
   ∀J,J<(n+1)*9->∃v,cl W B' (s'+J)=some v/\(iS (fC (List.zipWith (K2 i) gs vs9)) J).rel π v:=λW B' s' c1 c2 c3 J hJ=>by
  rw[aUY hg hv9];by_cases h1:J<i*9
  .rw[if_pos h1];have hj:cs[J]? =some (cs[J]'(by omega)):=kT _;exact⟨_,c1 J _ h1 hj,(Ki J _ hj).2⟩
  .rw[if_neg h1];by_cases h2:J<(i+1)*9
   .rw[if_pos h2];have hj:vl[J-i*9]? =some (vl[J-i*9]'(by omega)):=kT _;have:=c2 _ _ hj;rw[show s'+i*9+(J-i*9)=s'+J by omega] at this;exact⟨_,this,(hvs _ _ hj).2⟩
   .rw[if_neg h2];have hj:cs[J-9]? =some (cs[J-9]'(by omega)):=kT _;have:=c3 _ _ (by omega) hj;rw[show s'+(J-9+9)=s'+J by omega] at this;exact⟨_,this,(Ki _ _ hj).2⟩
 have hE:=iE;obtain⟨i0,z0,hi0,hzz,a6s,aZS,a6t⟩:=hE;have aZT:(Tryz.prog.info? 42).map (·.bytes)=some 72:=by rw[hi0];exact eC some aZS
 obtain⟨zv,hzv,aZU⟩:∃zv,Bk Tryz.prog 42=some zv/\aj.size zv.bX=9:=by
  have h:(Bk Tryz.prog 42).map (λz=>aj.size z.bX)=some 9:=by kernel_rfl
  cases hz:Bk Tryz.prog 42 with
  |none=>rw[hz] at h;cases h
  |some z=>rw[hz] at h;exact⟨z,rfl,by simpa using h⟩
 have as1:∀(base:Option Addr) (cap:Nat) (HC:List Value),i=n->HC=cs->cap<n+1->n<=cap->((base=none/\n=0/\cap=0)∨∃b,base=some b/\∀j v,HC[j]? =some v->w.cell? (b.add j)=some v)->
   y1=.slice base n cap->Calls Tryz.prog 97 #[y1,.int .i64 (i:Int),.slice (some ⟨vB,vst,none⟩) 1 Z8] w (tQ π w [[.a (.s n) (fC gs)],[.a (.s 1) (fC vs9)]] ⟨.r (.c (.sl 2 (.k 0) (.s (n+1)) 9 true)),[.kill,.mW],[[.a (.s (n+1)) (fC (List.zipWith (K2 i) gs vs9))]]⟩):=by
  intro base cap HC hin holds si a7H hs hy;subst hin holds
  obtain⟨gc,arr,oD,hgc,yZ,rest,agl⟩:∃gc arr,(∀ty,(Builtin.append_ #[140,140] ty #[.slice base i cap,.slice (some ⟨vB,vst,none⟩) 1 Z8]).run Tryz.prog w=.ok (.slice (some ⟨w.heap.size,0,none⟩) (i+1) gc) (w.drew.alloc (.cells arr 42)))/\i+1<=gc/\arr.size=gc*9/\∃rest,arr.toList=HC++vl++rest:=by
   obtain⟨gc,arr,oD,h2,h3,h4⟩:=Jj (P:=Tryz.prog) (ty:=0) uT uE aZT hzv aZU (by omega) (sv:=.slice base i cap) (n:=i) (cap:=cap) (m:=1) (c:=Z8) (ad:=⟨vB,vst,none⟩) (HC:=HC) (news:=vl) w (by
    rcases hs with⟨rfl,h1,h2⟩| ⟨b,rfl,h3⟩
    .exact .inl ⟨by rw[h1,h2],h1,h2⟩
    .exact .inr ⟨b,rfl,h3⟩) EB (by rw[hvl]) (λj v hj=>by rw[Addr.add_lit];exact(hvs j v hj).1) si (by omega) azN
   exact⟨gc,arr,λty=>by unfold Builtin.append_ at oD ⊢;exact oD,h2,h3,h4⟩
  have hC:=aN7 base i cap vB vst Z8 w _ _ oD;rw[hy];refine Calls.mono hC ?_;rintro ev W ⟨rfl,rfl⟩
  have aJg:∀j,cl (w.drew.alloc (.cells arr 42)) w.heap.size j=arr[j]? :=λj=>World.cell?_alloc_at (w:=w.drew) arr _ w.heap.size j rfl
  refine ali (P:=Tryz.prog) ho hH kr aiv (cP _) (((cy.refl w _).drew).alloc _ _) (λk hk=>⟨by rw[aJg,aip (by omega)];rfl,World.frozen?_alloc_at (w:=w.drew) arr _ w.heap.size k rfl⟩) ((hH.am.same (w':=w.drew) rfl).alloc _ _) (λJ hJ=> ?_) hgc;have:=cont (w.drew.alloc (.cells arr 42)) w.heap.size 0 (λj v hj hv=>by rw[gP,aJg];exact(V4 agl).1 hv) (λj v hv=>by rw[gP,aJg,<-EB];exact(V4 agl).2 hv) (λj v hj hv=>by have:=(lP.1 hv).1;omega) J hJ;rwa [gP] at this
 rcases hx with⟨h0,a,rfl⟩| ⟨cap,si,rfl,hce⟩
 ·
  have h0:n=0:=h0;subst h0;have a6u:i=0:=by omega
  subst a6u;cases a with
  |none=>exact as1 none 0 cs rfl rfl (by omega) (by omega) (.inl ⟨rfl,rfl,rfl⟩) rfl
  |some b=>
   have a6v:cs=[]:=List.eq_nil_of_length_eq_zero (by omega);exact as1 (some b) 0 cs rfl rfl (by omega) (by omega) (.inr ⟨b,rfl,λj v hj=>by rw[a6v] at hj;simp at hj⟩) rfl
 .have si:n<=cap:=si;have hce:st+cap*9<=e:=by have:=hce rfl;simpa[cG.val] using this
  show Calls Tryz.prog 97 #[.slice (some ⟨B,st,none⟩) n cap,.int .i64 (i:Int),.slice (some ⟨vB,vst,none⟩) 1 Z8] w _;by_cases SZ:n+1<=cap
  .have a7s:(n+1)*9<=cap*9:=wR _ SZ
   have aZm:vB=B->vst+9<=st∨st+(n+1)*9<=vst:=λh=>by
    subst h;rcases mO vst (st+(n+1)*9) with h1|h1
    .left
     rcases mO st (vst+9) with h2|h2
     .exfalso
      rcases mO st vst with h3|h3
      .exact hH.dj 0 1 _ st _ e vst _ ve (by omega) NS hz1 hb hvb vst (by omega) (by omega) (cP _) (by omega)
      .exact hH.dj 0 1 _ st _ e vst _ ve (by omega) NS hz1 hb hvb st (cP _) (by omega) h3 (by omega)
     .omega
    .exact .inr h1
   by_cases hin:i=n
   ·
    subst hin;have hC:=aN7 (some ⟨B,st,none⟩) i cap vB vst Z8 w _ _ (λty=>LW (P:=Tryz.prog) (ty:=ty) uT uE (B:=B) (q:=st) (n:=i) (cap:=cap) (m:=1) (c:=Z8) (ad:=⟨vB,vst,none⟩) (news:=vl) SZ (by rw[hvl]) w (λj v hj=>by rw[Addr.add_lit];exact(hvs j v hj).1) h1v (λj hj=>qE _ (by omega) (by omega)));refine Calls.mono hC ?_;rintro ev W ⟨rfl,rfl⟩
    have a3E:∀j,j<vl.length->(cl w B (st+i*9+j)).isSome=true:=λj hj=>(qE _ (by omega) (by omega)).1
    refine Z7 (P:=Tryz.prog) (q:=i*9) ho hH kr aiv (by simp) rfl hb ((cy.refl w _).setCells (.inr λj hj=>hft _ (by omega) (by omega))) (λk k1 k2=>⟨Ab.isSome_setCells a3E (qE k k1 k2).1,by rw[pU];exact(qE k k1 k2).2⟩) (hH.am.setCells λ_=>hH.lb 0 B st _ e NS hb (by omega)) (cont _ B st (λj v hj hv=> ?_) (λj v hv=> ?_) (λj v hj hv=>by have:=(lP.1 hv).1;omega)) SZ hce
    .rw[eR (λ_=>by omega)];exact(Ki j v hv).1
    .have hjl:=(lP.1 hv).1;rw[oe a3E hjl];rw[kT hjl] at hv;exact hv
   ·
    have hC:=aRP B st n cap i vB vst Z8 cs vl w (by omega) SZ aZm EB hvl (by omega) (λj v hj=>(Ki j v hj).1) (λj hj=>(qE _ (by omega) (by omega)).1) (λj hj=>(qE _ (by omega) (by omega)).2) (λj v hj=>(hvs j v hj).1) h1c h1v
     (λcb=>by
      obtain⟨va,hva⟩:=Option.isSome_iff_exists.1 (a4K vst (cP _) (by omega)).1;obtain⟨vb2,a6w⟩:=Option.isSome_iff_exists.1 (qE (st+(i+1)*9) (by omega) (by omega)).1;exact aK8 (λh=>by have:=aZm h;omega) hva a6w hfv)
    refine Calls.mono hC ?_;rintro ev W ⟨rfl,rfl⟩
    have hdl:(cs.drop (i*9)).length=(n-i)*9:=by rw[asJ,EB];omega
    have i1:∀j,j<(cs.drop (i*9)).length->(cl w.drew B (st+(i+1)*9+j)).isSome=true:=λj hj=>(qE _ (by omega) (by omega)).1
    have i2:∀j,j<vl.length->(cl (w.drew.setCells B (st+(i+1)*9) (cs.drop (i*9))) B (st+i*9+j)).isSome=true:=λj hj=>Ab.isSome_setCells i1 (qE _ (by omega) (by omega)).1
    have hlb:=hH.lb 0 B st _ e NS hb (by omega)
    refine Z7 (P:=Tryz.prog) (q:=n*9) ho hH kr aiv (by simp) rfl hb ((((cy.refl w _).drew).setCells (.inr λj hj=>hft _ (by omega) (by omega))).setCells (.inr λj hj=>hft _ (by omega) (by omega)))
     (λk k1 k2=>⟨Ab.isSome_setCells i2 (Ab.isSome_setCells i1 (qE k k1 k2).1),by rw[pU,pU];exact(qE k k1 k2).2⟩) (((hH.am.same (w':=w.drew) rfl).setCells λ_=>hlb).setCells λ_=>hlb) (cont _ B st (λj v hj hv=> ?_) (λj v hv=> ?_) (λj v hj hv=> ?_)) SZ hce
    .rw[eR (λ_=>by omega),eR (λ_=>by omega)];exact(Ki j v hv).1
    .have hjl:=(lP.1 hv).1;rw[oe i2 hjl];rw[kT hjl] at hv;exact hv
    .have hjl:=(lP.1 hv).1;rw[eR (λ_=>by omega)];have lQ:j-i*9<(cs.drop (i*9)).length:=by omega
     have:=oe i1 lQ;rw[show st+(i+1)*9+(j-i*9)=st+(j+9) by omega] at this;rw[this,<-kT,SO,show i*9+(j-i*9)=j by omega];exact hv
  .by_cases hin:i=n
   .exact as1 (some ⟨B,st,none⟩) cap cs hin rfl (by omega) si (.inr ⟨_,rfl,λj v hj=>by rw[Addr.add_lit];exact(Ki j v hj).1⟩) rfl
   .obtain⟨G,DK,hG,yZ,htk,hC⟩:=aUW B st n cap i vB vst Z8 cs vl w (by omega) si (by omega) azN EB hvl (λj v hj=>(Ki j v hj).1) (λj v hj=>(hvs j v hj).1) h1c h1v;refine Calls.mono hC ?_;rintro ev W ⟨rfl,rfl⟩
    have hG9:(n+1)*9<=G*9:=wR _ hG;have hdl:(cs.drop (i*9)).length=(n-i)*9:=by rw[asJ,EB];omega
    have c0:∀j,cl (w.alloc (.cells DK 42)).drew w.heap.size j=DK[j]? :=λj=>World.cell?_alloc_at (w:=w) DK _ w.heap.size j rfl
    have s0:∀j,j<G*9->(cl (w.alloc (.cells DK 42)).drew w.heap.size j).isSome=true:=λj hj=>by rw[c0,aip (by omega)];rfl
    have i1:∀j,j<vl.length->(cl (w.alloc (.cells DK 42)).drew w.heap.size (i*9+j)).isSome=true:=λj hj=>s0 _ (by omega)
    have i2:∀j,j<(cs.drop (i*9)).length->(cl ((w.alloc (.cells DK 42)).drew.setCells w.heap.size (i*9) vl).drew w.heap.size ((i+1)*9+j)).isSome=true:=λj hj=>Ab.isSome_setCells i1 (s0 _ (by omega))
    have hlb:aA.h0<=w.heap.size:=hH.am.sz;have am1:Bn (w.alloc (.cells DK 42)).drew:=(hH.am.alloc DK 42).same (w':=(w.alloc (.cells DK 42)).drew) rfl;have am2:Bn ((w.alloc (.cells DK 42)).drew.setCells w.heap.size (i*9) vl).drew:=(am1.setCells λ_=>hlb).same (w':=((w.alloc (.cells DK 42)).drew.setCells w.heap.size (i*9) vl).drew) rfl;have f1:cy w (DH π 2 (S3 [.kill,.mW])) ((w.alloc (.cells DK 42)).drew.setCells w.heap.size (i*9) vl).drew:=((((cy.refl w _).alloc DK 42).drew).setCells (.inl (cP _))).drew;refine ali (P:=Tryz.prog) ho hH kr aiv (cP _) (f1.setCells (.inl (cP _))) (λk hk=>⟨Ab.isSome_setCells i2 (Ab.isSome_setCells i1 (s0 k hk)),?_⟩) (am2.setCells λ_=>hlb) (λJ hJ=> ?_) hG
    .rw[pU];exact(pU (w:=(w.alloc (.cells DK 42)).drew)).trans (World.frozen?_alloc_at (w:=w) DK _ w.heap.size k rfl)
    .have:=cont (((w.alloc (.cells DK 42)).drew.setCells w.heap.size (i*9) vl).drew.setCells w.heap.size ((i+1)*9) (cs.drop (i*9))) w.heap.size 0 (λj v hj hv=> ?_) (λj v hv=> ?_) (λj v hj hv=> ?_) J hJ
     .rwa [gP] at this
     .rw[gP,eR (λ_=>by omega)];exact(eR (w:=(w.alloc (.cells DK 42)).drew) (λ_=>by omega)).trans ((c0 j).trans (htk j v hj hv))
     .have hjl:=(lP.1 hv).1;rw[gP,eR (λ_=>by omega)];have:=oe i1 hjl;rw[kT hjl] at hv;exact this.trans hv
     .have hjl:=(lP.1 hv).1;have lQ:j-i*9<(cs.drop (i*9)).length:=by omega
      have:=oe i2 lQ;rw[show(i+1)*9+(j-i*9)=j+9 by omega] at this;rw[gP,this,<-kT,SO,show i*9+(j-i*9)=j by omega];exact hv
theorem zS [aA]:∃z,(∀w,(Go.zeroValue 42).run Tryz.prog w=.ok z w)/\z.cells.size=9/\∀v∈z.cells.toList,v.oneCell'=true:=by
 have h:(Tryz.prog.info? 42).map (λi=>i.zero.map λz=>(z.cells.size,z.cells.toList.all λv=>v.oneCell'))=some (some (9,true)):=by kernel_rfl
 obtain⟨zv,hzv⟩:∃zv,Bk Tryz.prog 42=some zv:=by
  have h:(Bk Tryz.prog 42).isSome=true:=by kernel_rfl
  exact Option.isSome_iff_exists.1 h
 cases hi:Tryz.prog.info? 42 with
 |none=>rw[hi] at h;cases h
 |some i=>
  rw[hi] at h;simp only[SS,iv] at h;cases hz:i.zero with
  |none=>rw[hz] at h;cases h
  |some z=>
   rw[hz] at h;simp only[SS,iv,rq] at h;refine⟨z,λw=> ?_,h.1,asK.1 h.2⟩;obtain⟨x,hx,⟨it,hi2,hz2⟩,_⟩:=adW hzv w;rw[hi] at hi2;cases hi2;rw[hz] at hz2;cases hz2;exact hx
theorem aZV [aA](w:World)(ty:TypeId)(b o n c:Nat)(hn:0<n)(hc:∀j,j<n*9->(w.cell? ⟨b,o+j,none⟩).isSome=true)(hf:∀j,j<n*9->w.frozen? ⟨b,o+j,none⟩=false):
  ∃zs:List Value,zs.length=n*9/\(Builtin.clear_ #[140] ty #[.slice (some ⟨b,o,none⟩) n c]).run Tryz.prog w=.ok (.tuple #[]) (w.setCells b o zs):=by
 obtain⟨z,hz,hs,h1⟩:=zS;have hl:(Builtin.zeroCells z.cells n).toList.length=n*9:=by rw[Wc,size_zeroCells,hs]
 refine⟨(Builtin.zeroCells z.cells n).toList,hl,?_⟩
 have hst:=run_storeCells_cells (P:=Tryz.prog) b o (Builtin.zeroCells z.cells n).toList 0 w (by rw[hl];simpa using hc) (by rw[hl];simpa using hf) (by
  intro v hv;unfold Builtin.zeroCells at hv;rw[Array.toList_map] at hv;obtain⟨i,hi,rfl⟩:=List.mem_map.1 hv;have od:i%z.cells.size<z.cells.size:=Nat.mod_lt _ (by omega);have e:z.cells[i%z.cells.size]! =z.cells[i%z.cells.size]:=getElem!_pos z.cells (i%z.cells.size) od;rw[e];exact h1 _ (Array.getElem_mem_toList od))
 simp only[ky] at hst;obtain⟨m,rfl⟩:∃m,n=m+1:=⟨n-1,by omega⟩;simp[Builtin.clear_,run_underlying uT,hz,hst]
theorem aHn [aA]{gs:List (Nat->Int)}(hg:gs.length=9)(n i j:Nat)(hij:i<=j)(hj:j<=n)(w:World)(π:Pi)(vs:Array Value)
  (lF:bq (AV.rel π) [.r (.c (.sl 0 (.k 0) (.s n) 9 true)),.r (.c (.f (.i .i64 (i:Int)))),.r (.c (.f (.i .i64 (j:Int))))] vs.toList)
  (hH:sV π (hC ([[.a (.s n) (fC gs)]].map some)) (hZ ([[.a (.s n) (fC gs)]].map some)) w)(kr:∀b,π b≠none->b<1):
  Calls Tryz.prog 98 vs w (tQ π w [[.a (.s n) (fC gs)]] ⟨.r (.c (.sl 1 (.k 0) (.s (i+(n-j))) 9 true)),[.kill],[[.a (.s (i+(n-j))) (fC (gs.map (Ri i (j-i))))]]⟩):=by
 obtain⟨y1,y2,y3,hvt,r1,r2,r3⟩:∃y1 y2 y3,vs.toList=[y1,y2,y3]/\(AV.r (.c (.sl 0 (.k 0) (.s n) 9 true))).rel π y1/\(AV.r (.c (.f (.i .i64 (i:Int))))).rel π y2/\(AV.r (.c (.f (.i .i64 (j:Int))))).rel π y3:=by
  match hl:vs.toList,lF with
  | [y1,y2,y3],⟨a,b,c,_⟩=>exact⟨y1,y2,y3,rfl,a,b,c⟩
  | [],h=>exact h.elim
  | [_],⟨_,h⟩=>exact h.elim
  | [_,_],⟨_,_,h⟩=>exact h.elim
  |_::_::_::_::_,⟨_,_,_,h⟩=>exact h.elim
 have hvt:vs=#[y1,y2,y3]:=by rw[<-akP];exact hvt
 subst hvt;have r2:y2=.int .i64 (i:Int):=r2;have r3:y3=.int .i64 (j:Int):=r3;subst r2 r3;obtain⟨B,st,q,e,hb,_,_,hx⟩:=r1;obtain⟨rfl,hle,qE,cs,EB,Ki,h1c⟩:=aDE (b:=0) hg hH rfl hb;have NS:hZ ([[.a (.s n) (fC gs)]].map some) 0≠none:=by simp[hZ]
 have ho:(gs.map (Ri i (j-i))).length=9:=by simp[hg]
 have aiv:∀b,b< [[Sg.a (.s n) (fC gs)]].length->[Ch.kill][b]? =some .mW∨[Ch.kill][b]? =some .kill:=λb hb=>by
  match b,hb with
  |0,_=>exact .inr rfl
  |b+1,h=>exact absurd h (by simp)
 have hft:∀i,st<=i->i<e->DH π 1 (S3 [.kill]) B i:=λi h1 h2=>⟨0,st,_,e,by omega,by simp[S3],hb,h1,h2⟩
 rcases hx with⟨h0,a,rfl⟩| ⟨cap,si,rfl,hce⟩
 .have h0:n=0:=h0;subst h0;have hi0:i=0:=by omega
  have hj0:j=0:=by omega
  subst hi0 hj0;refine Calls.mono (aJd a 0 0 0 w (by omega) (by omega)) ?_;rintro ev W ⟨rfl,rfl⟩
  exact alj (P:=Tryz.prog) ho hH kr aiv (cy.refl _ _) hH.am
 .have si:n<=cap:=si;have hce:st+cap*9<=e:=by have:=hce rfl;simpa[cG.val] using this
  have a7I:n*9<=cap*9:=wR _ si;show Calls Tryz.prog 98 #[.slice (some ⟨B,st,none⟩) n cap,.int .i64 (i:Int),.int .i64 (j:Int)] w _;rcases Nat.eq_or_lt_of_le hij with a6x|od
  .subst a6x;refine Calls.mono (aJd _ n cap i w hj si) ?_;rintro ev W ⟨rfl,rfl⟩
   have hn:i+(n-i)=n:=by omega
   rw[hn];refine Z7 (P:=Tryz.prog) (q:=n*9) ho hH kr aiv (by simp) rfl hb (cy.refl _ _) qE hH.am (λJ hJ=> ?_) si hce;rw[aJe hg];have hjj:cs[J]? =some (cs[J]'(by omega)):=kT _;refine⟨_,(Ki _ _ hjj).1,?_⟩;have:=(Ki _ _ hjj).2;split
   .exact this
   .rw[Nat.sub_self,SV,ky];exact this
  .have hm9:(i+(n-j))*9<=n*9:=wR _ (by omega);have hdl:(cs.drop (j*9)).length=(n-j)*9:=by rw[asJ,EB];omega
   have i1:∀k,k<(cs.drop (j*9)).length->(cl w.drew B (st+i*9+k)).isSome=true:=λk hk=>(qE _ (by omega) (by omega)).1
   obtain⟨w2,hw2⟩:∃w2,w2=w.drew.setCells B (st+i*9) (cs.drop (j*9)):=⟨_,rfl⟩
   have s2:∀k,st<=k->k<e->(cl w2 B k).isSome=true/\fz w2 B k=false:=λk k1 k2=>by
    rw[hw2];exact⟨Ab.isSome_setCells i1 (qE k k1 k2).1,by rw[pU];exact(qE k k1 k2).2⟩
   obtain⟨zs,hzl,a6y⟩:∃zs:List Value,zs.length=(n-(i+(n-j)))*9/\∀ty,(Builtin.clear_ #[140] ty #[.slice (some ⟨B,st+(i+(n-j))*9,none⟩) (n-(i+(n-j))) (cap-(i+(n-j)))]).run Tryz.prog w2=.ok (.tuple #[]) (w2.setCells B (st+(i+(n-j))*9) zs):=by
    obtain⟨zs,h1,h2⟩:=aZV w2 0 B (st+(i+(n-j))*9) (n-(i+(n-j))) (cap-(i+(n-j))) (by omega) (λk hk=>(s2 _ (by omega) (by omega)).1) (λk hk=>(s2 _ (by omega) (by omega)).2);exact⟨zs,h1,λty=>by unfold Builtin.clear_ at h2 ⊢;exact h2⟩
   have hC:=aUX B st n cap i j w w2 (w2.setCells B (st+(i+(n-j))*9) zs) od hj si (λty=>by
    rw[hw2]
    exact LW (P:=Tryz.prog) (ty:=ty) uT uE (B:=B) (q:=st) (n:=i) (cap:=cap) (m:=n-j) (c:=cap-j) (news:=cs.drop (j*9)) (by omega) hdl w.drew (λk v hk=>by
     have hk2:=(lP.1 hk).1;rw[SO] at hk;have:=(Ki _ _ hk).1;split
     .omega
     .rw[Addr.add_lit,CB];exact this) (λv hv=>h1c v (List.mem_of_mem_drop hv)) (λk hk=>qE _ (by omega) (by omega))) a6y
   refine Calls.mono hC ?_;rintro ev W ⟨rfl,rfl⟩
   have i2:∀k,k<zs.length->(cl w2 B (st+(i+(n-j))*9+k)).isSome=true:=λk hk=>(s2 _ (by omega) (by omega)).1
   have hlb:0<n->aA.h0<=B:=λ_=>hH.lb 0 B st _ e NS hb (by omega)
   have am2:Bn w2:=by rw[hw2];exact(hH.am.same (w':=w.drew) rfl).setCells λ_=>hlb (by omega)
   have f2:cy w (DH π 1 (S3 [.kill])) w2:=by rw[hw2];exact((cy.refl w _).drew).setCells (.inr λk hk=>hft _ (by omega) (by omega))
   refine Z7 (P:=Tryz.prog) (q:=n*9) ho hH kr aiv (by simp) rfl hb (f2.setCells (.inr λk hk=>hft _ (by omega) (by omega))) (λk k1 k2=>⟨Ab.isSome_setCells i2 (s2 k k1 k2).1,by rw[pU];exact(s2 k k1 k2).2⟩) (am2.setCells λ_=>hlb (by omega)) (λJ hJ=> ?_) (by omega) hce;rw[aJe hg,eR (λ_=>by omega),hw2];by_cases h1:J<i*9
   .rw[if_pos h1,eR (λ_=>by omega)];have hjj:cs[J]? =some (cs[J]'(by omega)):=kT _;exact⟨_,(Ki _ _ hjj).1,(Ki _ _ hjj).2⟩
   .rw[if_neg h1];have hJ2:J-i*9<(cs.drop (j*9)).length:=by omega
    have h3:=oe i1 hJ2;rw[show st+i*9+(J-i*9)=st+J by omega] at h3;refine⟨_,h3,?_⟩
    have hjj:cs[J+(j-i)*9]? =some ((cs.drop (j*9))[J-i*9]):=by
     rw[<-kT,SO];congr 1
     have:(j-i)*9=j*9-i*9:=by omega
     omega
    exact(Ki _ _ hjj).2
theorem aK9 [aA]{gs:List (Nat->Int)}(hg:gs.length=9)(n:Nat)(azN:n*72<=140737488355328)(w0:Bool)(w:World)(π:Pi)(vs:Array Value)
  (lF:bq (AV.rel π) [.r (.c (.sl 0 (.k 0) (.s n) 9 w0))] vs.toList)
  (hH:sV π (hC ([[.a (.s n) (fC gs)]].map some)) (hZ ([[.a (.s n) (fC gs)]].map some)) w)(kr:∀b,π b≠none->b<1):
  Calls Tryz.prog 166 vs w (tQ π w [[.a (.s n) (fC gs)]] ⟨.r (.c (.sl 1 (.k 0) (.s n) 9 true)),[.mW],[[.a (.s n) (fC gs)]]⟩):=by
 obtain⟨y1,hvt,r1⟩:∃y1,vs.toList=[y1]/\(AV.r (.c (.sl 0 (.k 0) (.s n) 9 w0))).rel π y1:=by
  match hl:vs.toList,lF with
  | [y1],⟨a,_⟩=>exact⟨y1,rfl,a⟩
  | [],h=>exact h.elim
  |_::_::_,⟨_,h⟩=>exact h.elim
 have hvt:vs=#[y1]:=by rw[<-akP];exact hvt
 subst hvt;obtain⟨B,st,q,e,hb,_,_,hx⟩:=r1;obtain⟨rfl,hle,qE,cs,EB,Ki,h1c⟩:=aDE (b:=0) hg hH rfl hb
 have aiv:∀b,b< [[Sg.a (.s n) (fC gs)]].length->[Ch.mW][b]? =some .mW∨[Ch.mW][b]? =some .kill:=λb hb=>by
  match b,hb with
  |0,_=>exact .inl rfl
  |b+1,h=>exact absurd h (by simp)
 have hE:=iE;obtain⟨i0,z0,hi0,hzz,a6s,aZS,a6t⟩:=hE;have aZT:(Tryz.prog.info? 42).map (·.bytes)=some 72:=by rw[hi0];exact eC some aZS
 obtain⟨zv,hzv,aZU⟩:∃zv,Bk Tryz.prog 42=some zv/\aj.size zv.bX=9:=by
  have h:(Bk Tryz.prog 42).map (λz=>aj.size z.bX)=some 9:=by kernel_rfl
  cases hz:Bk Tryz.prog 42 with
  |none=>rw[hz] at h;cases h
  |some z=>rw[hz] at h;exact⟨z,rfl,by simpa using h⟩
 obtain⟨w1,hw1⟩:∃w1,w1=w.alloc (.cells #[] 42):=⟨_,rfl⟩;have hs1:w1.heap.size=w.heap.size+1:=by rw[hw1];exact World.size_alloc ..
 have am1:Bn w1:=by rw[hw1];exact hH.am.alloc _ _
 have f1:cy w (DH π 1 (S3 [.mW])) w1:=by rw[hw1];exact(cy.refl w _).alloc _ _
 have none_:n=0->∀(a:Addr) (c:Nat),Calls Tryz.prog 166 #[.slice (some a) 0 c] w (tQ π w [[.a (.s n) (fC gs)]] ⟨.r (.c (.sl 1 (.k 0) (.s n) 9 true)),[.mW],[[.a (.s n) (fC gs)]]⟩):=λh0 a c=>by
  subst h0;refine Calls.mono (az2 a 0 c w _ _ λty=>LW (P:=Tryz.prog) (ty:=ty) uT uE (B:=w.heap.size) (q:=0) (n:=0) (cap:=0) (m:=0) (c:=c) (ad:=a) (news:=[]) (by omega) rfl (w.alloc (.cells #[] 42)) (λj v hj=>by simp at hj) (λv hv=>by cases hv) (λj hj=>by simp at hj)) ?_;rintro ev W ⟨rfl,rfl⟩
  rw[<-hw1];exact alj (P:=Tryz.prog) hg hH kr aiv f1 am1
 rcases hx with⟨h0,a,rfl⟩| ⟨cap,si,rfl,hce⟩
 .have h0:n=0:=h0;cases a with
  |none=>
   subst h0;refine Calls.mono (aRQ w) ?_;rintro ev W ⟨rfl,rfl⟩
   exact alj (P:=Tryz.prog) hg hH kr aiv (cy.refl _ _) hH.am
  |some b=>exact none_ h0 b 0
 .show Calls Tryz.prog 166 #[.slice (some ⟨B,st,none⟩) n cap] w _;rcases SQ n with h0|hn
  .subst h0;exact none_ rfl ⟨B,st,none⟩ cap
  .have hbw:B<w.heap.size:=abT (qE st (cP _) (by omega)).1
   obtain⟨gc,arr,oD,hgc,yZ,rest,agl⟩:=Jj (P:=Tryz.prog) (ty:=0) uT uE aZT hzv aZU (by omega) (sv:=.slice (some ⟨w.heap.size,0,none⟩) 0 0) (n:=0) (cap:=0) (m:=n) (c:=cap) (ad:=⟨B,st,none⟩) (HC:=[]) (news:=cs) w1 (.inr ⟨_,rfl,λj v hj=>by simp at hj⟩) rfl EB (λj v hj=>by
    rw[Addr.add_lit,hw1];exact(World.cell?_alloc_past (w:=w) _ B _ hbw).trans (Ki j v hj).1) (by omega) hn (by omega)
   rw[gP] at oD hgc;have oD:∀ty,(Builtin.append_ #[140,140] ty #[.slice (some ⟨w.heap.size,0,none⟩) 0 0,.slice (some ⟨B,st,none⟩) n cap]).run Tryz.prog (w.alloc (.cells #[] 42))=.ok (.slice (some ⟨w1.heap.size,0,none⟩) n gc) (w1.drew.alloc (.cells arr 42)):=λty=>by rw[<-hw1];unfold Builtin.append_ at oD ⊢;exact oD
   refine Calls.mono (az2 ⟨B,st,none⟩ n cap w _ _ oD) ?_;rintro ev W ⟨rfl,rfl⟩
   have aJg:∀j,cl (w1.drew.alloc (.cells arr 42)) w1.heap.size j=arr[j]? :=λj=>World.cell?_alloc_at (w:=w1.drew) arr _ w1.heap.size j rfl
   refine ali (P:=Tryz.prog) hg hH kr aiv (by omega) ((f1.drew).alloc _ _) (λk hk=>⟨by rw[aJg,aip (by omega)];rfl,World.frozen?_alloc_at (w:=w1.drew) arr _ w1.heap.size k rfl⟩) ((am1.same (w':=w1.drew) rfl).alloc _ _) (λJ hJ=> ?_) hgc;have hjj:cs[J]? =some (cs[J]'(by omega)):=kT _;refine⟨_,?_,(Ki _ _ hjj).2⟩;rw[aJg];have:=(V4 agl).2 hjj;simpa using this
end Go.Proofs.YtldgljclcgaibaaGreat
noncomputable section
namespace Go.Proofs.YtldgljclcgaibaaGreat
open Go.Ab Go.Ab.Pg
theorem as8 {α:Type}{c:Bool}{v d:α}(h:cond c (some v) none=some d):c=true/\v=d:=by
 cases c with
 |true=>exact⟨rfl,LG h⟩
 |false=>cases h
theorem ayb {β δ:Type}{Q:Rq (List AV×List aj) β}{R:δ->Go.Ab.T}{f:β->Option δ}{a:List AV}{h:List aj}{r:pP}(hr:(FC Q R f a h).eval=some r):
  ∃b d,(a,h)=Q.em b/\f b=some d/\(R d).eval=some r:=by
 unfold FC at hr;split at hr
 .rename_i b hb
  obtain⟨t,b⟩:=b;obtain⟨h1,Zp⟩:=alg hr;rw[as4] at Zp;obtain⟨d,e1,e2⟩:=Option.bind_eq_some_iff.1 Zp;exact⟨b,d,Q.ok _ _ _ hb h1,e1,e2⟩
 .cases hr
def sX:=(open Go.Ab.Rq in(dp (c (ac (slc 0 9)) (c ai (cl (ac (slc 1 9)) nil))) λa=>(c (cl (gs a.1.1 (c gD (c gD (c gD (c gD (c gD (c gD (c gD (c gD (cl gD nil)))))))))) nil) (cl (cl (gs a.2.2.1 (c gD (c gD (c gD (c gD (c gD (c gD (c gD (c gD (cl gD nil)))))))))) nil) nil))):Rq (List AV×List aj) _)
def sj:=(open Go.Ab.Rq in(res (pr (ac (A4 2 9)) (pu (cu Vb (cu fN nil)) (cl (cl (ga (pr (szs hole) (c gD (c gD (c gD (c gD (c gD (c gD (c gD (c gD (cl gD nil))))))))))) nil) nil)))):Rq (pP) _)
abbrev gV:=Nat×(Nat->Int)×(Nat->Int)×(Nat->Int)×(Nat->Int)×(Nat->Int)×(Nat->Int)×(Nat->Int)×(Nat->Int)×(Nat->Int)
def FM (d:gV):T:=(λd=>.leaf (sj.em (d.1,d))) d
abbrev sY:=Nat->Int->(Nat->Int)->(Nat->Int)->(Nat->Int)->(Nat->Int)->(Nat->Int)->(Nat->Int)->(Nat->Int)->(Nat->Int)->(Nat->Int)->(Nat->Int)->(Nat->Int)->(Nat->Int)->(Nat->Int)->(Nat->Int)->(Nat->Int)->(Nat->Int)->(Nat->Int)->(Nat->Int)->Nat->Bool->Bool->Option gV
def sZ (g:sY):Ct:=(97,vX 0 [.i .i64,.i .i64,.i .i64,.i .i64,.i .i64,.i .i64,.i .i64,.i .i64,.i .i64] (FC sX FM (λb=>g b.1.1.1 b.1.2.1 b.2.1.1 b.2.1.2.1 b.2.1.2.2.1 b.2.1.2.2.2.1 b.2.1.2.2.2.2.1 b.2.1.2.2.2.2.2.1 b.2.1.2.2.2.2.2.2.1 b.2.1.2.2.2.2.2.2.2.1 b.2.1.2.2.2.2.2.2.2.2 b.2.2.1 b.2.2.2.1 b.2.2.2.2.1 b.2.2.2.2.2.1 b.2.2.2.2.2.2.1 b.2.2.2.2.2.2.2.1 b.2.2.2.2.2.2.2.2.1 b.2.2.2.2.2.2.2.2.2.1 b.2.2.2.2.2.2.2.2.2.2 b.1.2.2.1 b.1.1.2 b.1.2.2.2)))
def fq (x0:Nat)(x1:Int)(x2 x3 x4 x5 x6 x7 x8 x9 gw gx EC x13 x14 x15 x16 x17 x18 x19:Nat->Int)(x20:Nat)(w0 w1:Bool):Option gV:=
 bif z9 x20 1&&(w0&&(decide (0<=x1)&&(wr (z4 x1) x0&&wr ((x0+1)*72) 140737488355328))) then some (x0+1,K2 (z4 x1) x2 gx,K2 (z4 x1) x3 EC,K2 (z4 x1) x4 x13,K2 (z4 x1) x5 x14,K2 (z4 x1) x6 x15,K2 (z4 x1) x7 x16,K2 (z4 x1) x8 x17,K2 (z4 x1) x9 x18,K2 (z4 x1) gw x19) else none
theorem Fx:∀b,(sX).em b=([.r (.c (.sl 0 (.k 0) (.s b.1.1.1) 9 b.1.1.2)),.r (.c (.f (.i .i64 b.1.2.1))),.r (.c (.sl 1 (.k 0) (.s b.1.2.2.1) 9 b.1.2.2.2))],[[.a (.s b.1.1.1) [.i .i64 b.2.1.1,.i .i64 b.2.1.2.1,.i .i64 b.2.1.2.2.1,.i .i64 b.2.1.2.2.2.1,.i .i64 b.2.1.2.2.2.2.1,.i .i64 b.2.1.2.2.2.2.2.1,.i .i64 b.2.1.2.2.2.2.2.2.1,.i .i64 b.2.1.2.2.2.2.2.2.2.1,.i .i64 b.2.1.2.2.2.2.2.2.2.2]],[.a (.s b.1.2.2.1) [.i .i64 b.2.2.1,.i .i64 b.2.2.2.1,.i .i64 b.2.2.2.2.1,.i .i64 b.2.2.2.2.2.1,.i .i64 b.2.2.2.2.2.2.1,.i .i64 b.2.2.2.2.2.2.2.1,.i .i64 b.2.2.2.2.2.2.2.2.1,.i .i64 b.2.2.2.2.2.2.2.2.2.1,.i .i64 b.2.2.2.2.2.2.2.2.2.2]]]):=λb=>by kernel_rfl
theorem FN [aA]:Snd Tryz.prog (sZ fq):=Sound.nil 0 [.i .i64,.i .i64,.i .i64,.i .i64,.i .i64,.i .i64,.i .i64,.i .i64,.i .i64]<|λargs h r hr w π vs lF hH kr=>by
 obtain⟨b,d,e,hd,hq⟩:=ayb hr;rw[Fx] at e;obtain⟨hc,rfl⟩:=as8 hd;simp only[cL,j7] at hc;obtain⟨h0,h1,h2,h3,h4⟩:=hc;rw[lE h0] at e;obtain⟨rfl,rfl⟩:=Prod.mk.inj e;rw[h1,show b.1.2.1=((z4 b.1.2.1:Nat):Int) by omega] at lF;have hr2:sj.em (_,_)=r:=LG hq;subst hr2;exact .inl ⟨Iy (by kernel_rfl) _ _,aHm (gs:=[b.2.1.1,b.2.1.2.1,b.2.1.2.2.1,b.2.1.2.2.2.1,b.2.1.2.2.2.2.1,b.2.1.2.2.2.2.2.1,b.2.1.2.2.2.2.2.2.1,b.2.1.2.2.2.2.2.2.2.1,b.2.1.2.2.2.2.2.2.2.2]) (vs9:=[b.2.2.1,b.2.2.2.1,b.2.2.2.2.1,b.2.2.2.2.2.1,b.2.2.2.2.2.2.1,b.2.2.2.2.2.2.2.1,b.2.2.2.2.2.2.2.2.1,b.2.2.2.2.2.2.2.2.2.1,b.2.2.2.2.2.2.2.2.2.2]) rfl rfl _ _ (Wa h3) (Wa h4) _ w π vs lF hH λb hb=>kr b hb⟩
def te:=(open Go.Ab.Rq in(dp (c (ac (slc 0 9)) (c ai (cl ai nil))) λa=>(cl (cl (gs a.1.1 (c gD (c gD (c gD (c gD (c gD (c gD (c gD (c gD (cl gD nil)))))))))) nil) nil)):Rq (List AV×List aj) _)
def sk:=(open Go.Ab.Rq in(res (pr (ac (A4 1 9)) (pu (cu Vb nil) (cl (cl (ga (pr (szs hole) (c gD (c gD (c gD (c gD (c gD (c gD (c gD (c gD (cl gD nil))))))))))) nil) nil)))):Rq (pP) _)
abbrev gW:=Nat×(Nat->Int)×(Nat->Int)×(Nat->Int)×(Nat->Int)×(Nat->Int)×(Nat->Int)×(Nat->Int)×(Nat->Int)×(Nat->Int)
def FO (d:gW):T:=(λd=>.leaf (sk.em (d.1,d))) d
abbrev gX:=Nat->Int->Int->(Nat->Int)->(Nat->Int)->(Nat->Int)->(Nat->Int)->(Nat->Int)->(Nat->Int)->(Nat->Int)->(Nat->Int)->(Nat->Int)->Bool->Option gW
def lR (g:gX):Ct:=(98,vX 0 [.i .i64,.i .i64,.i .i64,.i .i64,.i .i64,.i .i64,.i .i64,.i .i64,.i .i64] (FC te FO (λb=>g b.1.1.1 b.1.2.1 b.1.2.2 b.2.1 b.2.2.1 b.2.2.2.1 b.2.2.2.2.1 b.2.2.2.2.2.1 b.2.2.2.2.2.2.1 b.2.2.2.2.2.2.2.1 b.2.2.2.2.2.2.2.2.1 b.2.2.2.2.2.2.2.2.2 b.1.1.2)))
def cS (x0:Nat)(x1 x2:Int)(x3 x4 x5 x6 x7 x8 x9 gw gx:Nat->Int)(w0:Bool):Option gW:=
 bif w0&&(decide (0<=x1)&&(wr (z4 x1) (z4 x2)&&(decide (0<=x2)&&wr (z4 x2) x0))) then some (z4 x1+(x0-z4 x2),Ri (z4 x1) (z4 x2-z4 x1) x3,Ri (z4 x1) (z4 x2-z4 x1) x4,Ri (z4 x1) (z4 x2-z4 x1) x5,Ri (z4 x1) (z4 x2-z4 x1) x6,Ri (z4 x1) (z4 x2-z4 x1) x7,Ri (z4 x1) (z4 x2-z4 x1) x8,Ri (z4 x1) (z4 x2-z4 x1) x9,Ri (z4 x1) (z4 x2-z4 x1) gw,Ri (z4 x1) (z4 x2-z4 x1) gx) else none
theorem Fy:∀b,(te).em b=([.r (.c (.sl 0 (.k 0) (.s b.1.1.1) 9 b.1.1.2)),.r (.c (.f (.i .i64 b.1.2.1))),.r (.c (.f (.i .i64 b.1.2.2)))],[[.a (.s b.1.1.1) [.i .i64 b.2.1,.i .i64 b.2.2.1,.i .i64 b.2.2.2.1,.i .i64 b.2.2.2.2.1,.i .i64 b.2.2.2.2.2.1,.i .i64 b.2.2.2.2.2.2.1,.i .i64 b.2.2.2.2.2.2.2.1,.i .i64 b.2.2.2.2.2.2.2.2.1,.i .i64 b.2.2.2.2.2.2.2.2.2]]]):=λb=>by kernel_rfl
theorem tf [aA]:Snd Tryz.prog (lR cS):=Sound.nil 0 [.i .i64,.i .i64,.i .i64,.i .i64,.i .i64,.i .i64,.i .i64,.i .i64,.i .i64]<|λargs h r hr w π vs lF hH kr=>by
 obtain⟨b,d,e,hd,hq⟩:=ayb hr;rw[Fy] at e;obtain⟨hc,rfl⟩:=as8 hd;simp only[cL,j7] at hc;obtain⟨h1,h2,h3,h4,h5⟩:=hc;obtain⟨rfl,rfl⟩:=Prod.mk.inj e;have e2:b.1.2.1=((z4 b.1.2.1:Nat):Int):=by omega
 have e3:b.1.2.2=((z4 b.1.2.2:Nat):Int):=by omega
 have hr2:sk.em (_,_)=r:=LG hq;subst hr2;exact .inl ⟨Iy (by kernel_rfl) _ _,aHn (gs:=[b.2.1,b.2.2.1,b.2.2.2.1,b.2.2.2.2.1,b.2.2.2.2.2.1,b.2.2.2.2.2.2.1,b.2.2.2.2.2.2.2.1,b.2.2.2.2.2.2.2.2.1,b.2.2.2.2.2.2.2.2.2]) rfl _ (z4 b.1.2.1) (z4 b.1.2.2) (Wa h3) (Wa h5) w π vs (by rw[<-e2,<-e3,<-h1];exact lF) hH λb hb=>kr b hb⟩
def tU:=(open Go.Ab.Rq in(dp (cl (ac (slc 0 9)) nil) λa=>(cl (cl (gs a.1 (c gD (c gD (c gD (c gD (c gD (c gD (c gD (c gD (cl gD nil)))))))))) nil) nil)):Rq (List AV×List aj) _)
def tg:=(open Go.Ab.Rq in(res (pr (ac (A4 1 9)) (pu (cu fN nil) (cl (cl (ga (pr (szs hole) (c gD (c gD (c gD (c gD (c gD (c gD (c gD (c gD (cl gD nil))))))))))) nil) nil)))):Rq (pP) _)
abbrev iH:=Nat×(Nat->Int)×(Nat->Int)×(Nat->Int)×(Nat->Int)×(Nat->Int)×(Nat->Int)×(Nat->Int)×(Nat->Int)×(Nat->Int)
def GL (d:iH):T:=(λd=>.leaf (tg.em (d.1,d))) d
abbrev mP:=Nat->(Nat->Int)->(Nat->Int)->(Nat->Int)->(Nat->Int)->(Nat->Int)->(Nat->Int)->(Nat->Int)->(Nat->Int)->(Nat->Int)->Bool->Option iH
def tV (g:mP):Ct:=(166,vX 0 [.i .i64,.i .i64,.i .i64,.i .i64,.i .i64,.i .i64,.i .i64,.i .i64,.i .i64] (FC tU GL (λb=>g b.1.1 b.2.1 b.2.2.1 b.2.2.2.1 b.2.2.2.2.1 b.2.2.2.2.2.1 b.2.2.2.2.2.2.1 b.2.2.2.2.2.2.2.1 b.2.2.2.2.2.2.2.2.1 b.2.2.2.2.2.2.2.2.2 b.1.2)))
def fE (x0:Nat)(x1 x2 x3 x4 x5 x6 x7 x8 x9:Nat->Int)(w0:Bool):Option iH:=
 bif wr (x0*72) 140737488355328 then some (x0,x1,x2,x3,x4,x5,x6,x7,x8,x9) else none
theorem FP:∀b,(tU).em b=([.r (.c (.sl 0 (.k 0) (.s b.1.1) 9 b.1.2))],[[.a (.s b.1.1) [.i .i64 b.2.1,.i .i64 b.2.2.1,.i .i64 b.2.2.2.1,.i .i64 b.2.2.2.2.1,.i .i64 b.2.2.2.2.2.1,.i .i64 b.2.2.2.2.2.2.1,.i .i64 b.2.2.2.2.2.2.2.1,.i .i64 b.2.2.2.2.2.2.2.2.1,.i .i64 b.2.2.2.2.2.2.2.2.2]]]):=λb=>by kernel_rfl
theorem GM [aA]:Snd Tryz.prog (tV fE):=Sound.nil 0 [.i .i64,.i .i64,.i .i64,.i .i64,.i .i64,.i .i64,.i .i64,.i .i64,.i .i64]<|λargs h r hr w π vs lF hH kr=>by
 obtain⟨b,d,e,hd,hq⟩:=ayb hr;rw[FP] at e;obtain⟨hc,rfl⟩:=as8 hd;obtain⟨rfl,rfl⟩:=Prod.mk.inj e;have hr2:tg.em (_,_)=r:=LG hq;subst hr2;exact .inl ⟨Iy (by kernel_rfl) _ _,aK9 (gs:=[b.2.1,b.2.2.1,b.2.2.2.1,b.2.2.2.2.1,b.2.2.2.2.2.1,b.2.2.2.2.2.2.1,b.2.2.2.2.2.2.2.1,b.2.2.2.2.2.2.2.2.1,b.2.2.2.2.2.2.2.2.2]) rfl _ (Wa hc) _ w π vs lF hH λb hb=>kr b hb⟩
open Go.Ab Go.Ab.Pg Go.Ab.Rq
def aiw:=qa (pr (cu aQ FA) bL)
def OA:=qe qN
abbrev aix:=OA.B
abbrev cx:=Int->Int->Int->Bool->Option aix
def eF (g:cx):Ct:=(119,FC aiw (lf OA) (λb=>g b.1.1 b.1.2.1 b.1.b b.2))
def qF (x0:Int)(x1:Int)(x2:Int)(x3:Bool):Pg aix:=ae (decide (x1>x2)) (ret (x1,true)) (ae (decide (x0<x1)) (ret (x1,true)) (ae (decide (x0>x2)) (ret (x2,true)) (ret (x0,x3))))
def aT:=λx0 x1 x2 x3=>(qF x0 x1 x2 x3).val
theorem aCg:D1 [] [0] 119 aiw (lf OA) λb=>qF b.1.1 b.1.2.1 b.1.b b.2:=λb=>by kernel_rfl
theorem eV [aA]:SC (eF aT):=s0 (.nil _) aCg
def aqd:=qa (pr (cu aQ jo) bL)
def Wr:=qe qN
abbrev aqe:=Wr.B
abbrev bV:=Int->Bool->Option aqe
def dy (g:bV):Ct:=(126,FC aqd (lf Wr) (λb=>g b.1 b.2))
def Ql (aF:cx)(x0:Int)(x1:Bool):Pg aqe:=opt (aF x0 (-1152921504606846976) 1152921504606846976 x1) λd=>ret d
def aO:=λx0 x1=>(Ql aT x0 x1).val
theorem aHo:∀aF,D0 [eF aF] 126 aqd (lf Wr) λb=>Ql aF b.1 b.2:=λ_ b=>by kernel_rfl
theorem dF [aA]:SC (dy aO):=s0 (.c eV (.nil _)) (aHo aT)
def aqf:=qa (pl jo nil)
def Ws:=qe aXb
abbrev aqg:=Ws.B
abbrev Qm:=Int->Option aqg
def Qn (g:Qm):Ct:=(185,FC aqf (lf Ws) (λb=>g b))
def abY (x0:Int):Pg aqg:=ae (decide (x0<0)) (ret (wU (0-wU x0))) (ret (wU x0))
def su:=λx0=>(abY x0).val
theorem aHp:D0 [] 185 aqf (lf Ws) λb=>abY b:=λb=>by kernel_rfl
theorem abZ [aA]:SC (Qn su):=s0 (.nil _) aHp
def aqh:=qa (pl (c an aIy) nil)
def Wt:=qe aQH
abbrev aqi:=Wt.B
abbrev aqj:=Int->Int->Option aqi
def aqk (g:aqj):Ct:=(184,FC aqh (lf Wt) (λb=>g b.1 b.2))
def ab0 (x0:Int)(x1:Int):Pg aqi:=let y0:=v9 x0 4294967296;let y1:=v9 x1 4294967296;let y2:=wU (ws (wd (wn 64 x0&&&wn 64 4294967295)));let y3:=wU (ws (wd (wn 64 x1&&&wn 64 4294967295)));let y4:=wU (wU (y0*y3)+v9 (wU (y2*y3)) 4294967296);ret (wU (wU (wU (y0*y1)+v9 y4 4294967296)+v9 (wU (wU (ws (wd (wn 64 y4&&&wn 64 4294967295)))+wU (y2*y1))) 4294967296),wU (x0*x1))
def IA:=λx0 x1=>(ab0 x0 x1).val
theorem aHq:D0 [] 184 aqh (lf Wt) λb=>ab0 b.1 b.2:=λb=>by kernel_rfl
theorem aHr [aA]:SC (aqk IA):=s0 (.nil _) aHq
def alk:=qa (pl (c V8 aM1) nil)
def S6:=qe aQL
abbrev Wu:=S6.B
abbrev Wv:=Int->Int->Bool->Option Wu
def Ww (g:Wv):Ct:=(186,FC alk (lf S6) (λb=>g b.1.1 b.1.2 b.2))
def L4 (nM:auV)(x0:Int)(x1:Int)(x2:Bool):Pg Wu:=ae (!x2) (ret ((wI x0,x1),v9 x0 9223372036854775808==0)) (opt (nM (wU (ws (wd (wn 64 18446744073709551615^^^wn 64 x1)))) 1 0) λd=>let y0:=wI (wU (wU (ws (wd (wn 64 18446744073709551615^^^wn 64 x0)))+d.2));ae (decide (y0<0)) (ret ((y0,d.1),true)) (ret ((y0,d.1),x0==0&&(x1==0&&true))))
def nN:=λx0 x1 x2=>(L4 DI x0 x1 x2).val
theorem aFx:∀nM,D0 [alh nM] 186 alk (lf S6) λb=>L4 nM b.1.1 b.1.2 b.2:=λ_ b=>by kernel_rfl
theorem alm [aA]:SC (Ww nN):=s0 (.c aoU (.nil _)) (aFx DI)
def az3:=qa (pl Cw nil)
def agu:=qe aXB
abbrev aln:=agu.B
abbrev o6:=Int->Int->Option aln
def ze (g:o6):Ct:=(116,FC az3 (lf agu) (λb=>g b.1 b.2))
def alo (iw:Qm)(Qo:aqj)(pY:Wv)(x0:Int)(x1:Int):Pg aln:=opt (iw x0) λd=>opt (iw x1) λak=>opt (Qo d ak) λd=>opt (pY d.1 d.2 !decide (x0<0)==decide (x1<0)) λd=>ret d.1
def fP:=λx0 x1=>(alo su IA nN x0 x1).val
theorem aN9:∀iw Qo pY,D0 [Qn iw,aqk Qo,Ww pY] 116 az3 (lf agu) λb=>alo iw Qo pY b.1 b.2:=λ_ _ _ b=>by kernel_rfl
theorem Cc [aA]:SC (ze fP):=s0 (.c abZ (.c aHr (.c alm (.nil _)))) (aN9 su IA nN)
def az4:=qa (pl aD1 nil)
def agv:=qe (res (pl (sf (c (ra axk) aTg)) (pu nil nil)))
abbrev az5:=agv.B
abbrev alp:=Int->Int->Option az5
def alq (g:alp):Ct:=(188,FC az4 (lf agv) (λb=>g b.1 b.2))
def alr (nM:auV)(x0:Int)(x1:Int):Pg az5:=ae (decide (x0>=0)) (ret ((wU x0,x1),false)) (opt (nM (wU (ws (wd (wn 64 18446744073709551615^^^wn 64 x1)))) 1 0) λd=>ret ((wU (wU (ws (wd (wn 64 18446744073709551615^^^wn 64 (wU x0))))+d.2),d.1),true))
def FQ:=λx0 x1=>(alr DI x0 x1).val
theorem aOa:∀nM,D0 [alh nM] 188 az4 (lf agv) λb=>alr nM b.1 b.2:=λ_ b=>by kernel_rfl
theorem az6 [aA]:SC (alq FQ):=s0 (.c aoU (.nil _)) (aOa DI)
def aiy:=qa (pl (c V8 jo) nil)
def OC:=qe aKf
abbrev aiz:=OC.B
abbrev DL:=Int->Int->Int->Option aiz
def Jk (g:DL):Ct:=(190,FC aiy (lf OC) (λb=>g b.1.1 b.1.2 b.2))
def S7 (x0:Int)(x1:Int)(x2:Int):Pg aiz:=let y0:=wI (64-x2);let y1:=wI (x2-64);let y2:=2^min (z4 x2) 64;let y3:= !decide (x2<0);ae (decide (x2>=64)) (ae (!decide (y1<0)) (ret (wU (x1*2^min (z4 y1) 64),0)) no) (ae y3 (ae (!decide (y0<0)) (ae y3 (ret (wU (ws (wd (wn 64 (wU (x0*y2))|||wn 64 (v9 x1 (2^min (z4 y0) 64))))),wU (x1*y2))) no) no) no)
def gU:=λx0 x1 x2=>(S7 x0 x1 x2).val
theorem aCh:D0 [] 190 aiy (lf OC) λb=>S7 b.1.1 b.1.2 b.2:=λb=>by kernel_rfl
theorem S8 [aA]:SC (Jk gU):=s0 (.nil _) aCh
def ad5:=qa (pl (c V8 (cl V8 nil)) nil)
def L5:=qe aKf
abbrev ad6:=L5.B
abbrev wu:=Int->Int->Int->Int->Option ad6
def GN (g:wu):Ct:=(189,FC ad5 (lf L5) (λb=>g b.1.1 b.1.2 b.2.1 b.b))
def OD (nM:auV)(x0:Int)(x1:Int)(x2:Int)(x3:Int):Pg ad6:=opt (nM x1 x3 0) λd=>opt (nM x0 x2 d.2) λak=>ret (ak.1,d.1)
def js:=λx0 x1 x2 x3=>(OD DI x0 x1 x2 x3).val
theorem ayc:∀nM,D0 [alh nM] 189 ad5 (lf L5) λb=>OD nM b.1.1 b.1.2 b.2.1 b.b:=λ_ b=>by kernel_rfl
theorem OF [aA]:SC (GN js):=s0 (.c aoU (.nil _)) (ayc DI)
def aiA:=qa (pl (c V8 jo) nil)
def OH:=qe aKf
abbrev aiB:=OH.B
abbrev DM:=Int->Int->Int->Option aiB
def Jl (g:DM):Ct:=(192,FC aiA (lf OH) (λb=>g b.1.1 b.1.2 b.2))
def Jm (x0:Int)(x1:Int)(x2:Int):Pg aiB:=let y0:=wI (64-x2);let y1:=wI (x2-64);let y2:=2^min (z4 x2) 64;let y3:= !decide (x2<0);ae (decide (x2>=64)) (ae (!decide (y1<0)) (ret (0,v9 x0 (2^min (z4 y1) 64))) no) (ae y3 (ae y3 (ae (!decide (y0<0)) (ret (v9 x0 y2,wU (ws (wd (wn 64 (v9 x1 y2)|||wn 64 (wU (x0*2^min (z4 y0) 64))))))) no) no) no)
def jk:=λx0 x1 x2=>(Jm x0 x1 x2).val
theorem aCi:D0 [] 192 aiA (lf OH) λb=>Jm b.1.1 b.1.2 b.2:=λb=>by kernel_rfl
theorem S9 [aA]:SC (Jl jk):=s0 (.nil _) aCi
def ad7:=qa (pl (c V8 aM1) nil)
def L6:=qe axr
abbrev ad8:=L6.B
abbrev Bq:=Int->Int->Bool->Option ad8
def GO (g:Bq):Ct:=(191,FC ad7 (lf L6) (λb=>g b.1.1 b.1.2 b.2))
def OJ (x0:Int)(x1:Int)(x2:Bool):Pg ad8:=let y0:=x0 !=0;let y1:=decide (x1>9223372036854775807);ae y0 (ae y0 (ret (0,false)) (ae x2 (ret (wI (wU (0-x1)),true)) (ret (wI x1,true)))) (ae (!x2) (ae y1 (ae y1 (ret (0,false)) (ae x2 (ret (wI (wU (0-x1)),true)) (ret (wI x1,true)))) (ae x2 (ae (decide (x1>9223372036854775808)) (ret (0,false)) (ae x2 (ret (wI (wU (0-x1)),true)) (ret (wI x1,true)))) (ae x2 (ret (wI (wU (0-x1)),true)) (ret (wI x1,true))))) (ae x2 (ae (decide (x1>9223372036854775808)) (ret (0,false)) (ae x2 (ret (wI (wU (0-x1)),true)) (ret (wI x1,true)))) (ae x2 (ret (wI (wU (0-x1)),true)) (ret (wI x1,true)))))
def jt:=λx0 x1 x2=>(OJ x0 x1 x2).val
theorem ayd:D0 [] 191 ad7 (lf L6) λb=>OJ b.1.1 b.1.2 b.2:=λb=>by kernel_rfl
theorem OK [aA]:SC (GO jt):=s0 (.nil _) ayd
def aql:=qa (pl (c afG jo) nil)
def Wx:=qe axr
abbrev aqm:=Wx.B
abbrev Eh:=Int->Int->Int->Option aqm
def Qp (g:Eh):Ct:=(118,FC aql (lf Wx) (λb=>g b.1.1 b.1.2 b.2))
def ab1 (zf:alp)(kC:DL)(fF:wu)(jl:DM)(fG:Bq)(x0:Int)(x1:Int)(x2:Int):Pg aqm:=ae (decide (x2<0)) (ret (0,false)) (ae (decide (x2>126)) (ret (0,false)) (opt (zf x0 x1) λd=>ae (decide (x2>0)) (opt (kC 0 1 (wI (x2-1))) λak=>opt (fF d.1.1 d.1.2 ak.1 ak.2) λaJ=>opt (jl aJ.1 aJ.2 x2) λbB=>opt (fG bB.1 bB.2 d.2) λd=>ret d) (opt (jl d.1.1 d.1.2 x2) λak=>opt (fG ak.1 ak.2 d.2) λd=>ret d)))
def sw:=λx0 x1 x2=>(ab1 FQ gU js jk jt x0 x1 x2).val
theorem aHs:∀zf kC fF jl fG,D0 [alq zf,Jk kC,GN fF,Jl jl,GO fG] 118 aql (lf Wx) λb=>ab1 zf kC fF jl fG b.1.1 b.1.2 b.2:=λ_ _ _ _ _ b=>by kernel_rfl
theorem ab2 [aA]:SC (Qp sw):=s0 (.c az6 (.c S8 (.c OF (.c S9 (.c OK (.nil _)))))) (aHs FQ gU js jk jt)
def aFy:=qa (pl aM1 nil)
def als:=qe HO
abbrev aFz:=als.B
abbrev Wy:=Bool->Option aFz
def Wz (g:Wy):Ct:=(199,FC aFy (lf als) (λb=>g b))
def OL (x0:Bool):Pg aFz:=ae x0 (ret (-1152921504606846976)) (ret 1152921504606846976)
def oH:=λx0=>(OL x0).val
theorem aRR:D0 [] 199 aFy (lf als) λb=>OL b:=λb=>by kernel_rfl
theorem agw [aA]:SC (Wz oH):=s0 (.nil _) aRR
def aqn:=qa (pr (cu aQ (c ai (c ab aM1))) bL)
def WA:=qe qN
abbrev aqo:=WA.B
abbrev IB:=Int->Bool->Bool->Bool->Option aqo
def Qq (g:IB):Ct:=(198,FC aqn (lf WA) (λb=>g b.1.1 b.1.2.1 b.1.b b.2))
def Ei (ka:Wy)(ay:bV)(x0:Int)(x1:Bool)(x2:Bool)(x3:Bool):Pg aqo:=ae (!x1) (opt (ka x2) λd=>ret (d,true)) (opt (ay x0 x3) λd=>ret d)
def jC:=λx0 x1 x2 x3=>(Ei oH aO x0 x1 x2 x3).val
theorem aHt:∀ka ay,D0 [Wz ka,dy ay] 198 aqn (lf WA) λb=>Ei ka ay b.1.1 b.1.2.1 b.1.b b.2:=λ_ _ b=>by kernel_rfl
theorem ab3 [aA]:SC (Qq jC):=s0 (.c agw (.c dF (.nil _))) (aHt oH aO)
def aiC:=qa (pr (cu aQ (c afG jo)) bL)
def OM:=qe qN
abbrev aiD:=OM.B
abbrev yI:=Int->Int->Int->Bool->Option aiD
def Jo (g:yI):Ct:=(127,FC aiC (lf OM) (λb=>g b.1.1.1 b.1.1.2 b.1.2 b.2))
def Ta (vY:Eh)(nP:IB)(x0:Int)(x1:Int)(x2:Int)(x3:Bool):Pg aiD:=ae (decide (x2<0)) (ret (0,true)) (ae (decide (x2>120)) (ret (0,true)) (opt (vY x0 x1 x2) λd=>opt (nP d.1 d.2 (decide (x0<0)) x3) λd=>ret d))
def mF:=λx0 x1 x2 x3=>(Ta sw jC x0 x1 x2 x3).val
theorem aCj:∀vY nP,D0 [Qp vY,Qq nP] 127 aiC (lf OM) λb=>Ta vY nP b.1.1.1 b.1.1.2 b.1.2 b.2:=λ_ _ b=>by kernel_rfl
theorem Tb [aA]:SC (Jo mF):=s0 (.c ab2 (.c ab3 (.nil _))) (aCj sw jC)
def aqp:=qa (pr (cu aQ FA) bL)
def WB:=qe qN
abbrev aqq:=WB.B
abbrev bR:=Int->Int->Int->Bool->Option aqq
def fg (g:bR):Ct:=(72,FC aqp (lf WB) (λb=>g b.1.1 b.1.2.1 b.1.b b.2))
def ab4 (ay:bV)(cT:o6)(jm:yI)(x0:Int)(x1:Int)(x2:Int)(x3:Bool):Pg aqq:=opt (ay x0 x3) λd=>opt (ay x1 d.2) λak=>opt (cT d.1 ak.1) λd=>opt (jm d.1 d.2 x2 ak.2) λd=>ret d
def aU:=λx0 x1 x2 x3=>(ab4 aO fP mF x0 x1 x2 x3).val
theorem aHu:∀ay cT jm,D0 [dy ay,ze cT,Jo jm] 72 aqp (lf WB) λb=>ab4 ay cT jm b.1.1 b.1.2.1 b.1.b b.2:=λ_ _ _ b=>by kernel_rfl
theorem fK [aA]:SC (fg aU):=s0 (.c dF (.c Cc (.c Tb (.nil _)))) (aHu aO fP mF)
def alu:=qa (pr aKb (cu asq bL))
def Tc:=qe aQE
abbrev alv:=Tc.B
abbrev WC:=Int->Int->Bool->Option alv
def WD (g:WC):Ct:=(77,FC alu (lf Tc) (λb=>g b.1.1 b.1.2 b.2))
def WE (aB:bR)(x0:Int)(x1:Int)(x2:Bool):Pg alv:=opt (aB x0 x1 30 x2) λd=>ret d
def wV:=λx0 x1 x2=>(WE aU x0 x1 x2).val
theorem aFA:∀aB,D0 [fg aB] 77 alu (lf Tc) λb=>WE aB b.1.1 b.1.2 b.2:=λ_ b=>by kernel_rfl
theorem alw [aA]:SC (WD wV):=s0 (.c fK (.nil _)) (aFA aU)
def aqr:=qa (pl aIy nil)
def WG:=qe HO
abbrev aqs:=WG.B
abbrev aqt:=Int->Option aqs
def aqu (g:aqt):Ct:=(267,FC aqr (lf WG) (λb=>g b))
def ab5 (x0:Int):Pg aqs:=let y0:=v9 x0 65536;let y1:=v9 x0 4294967296;let y2:=IntKind.wrap IntKind.u8 (v9 x0 256);let y3:=IntKind.wrap IntKind.u8 y0;let y4:=IntKind.wrap IntKind.u8 y1;let y5:=v9 y1 65536;let y6:=IntKind.wrap IntKind.u8 y5;let y7:=IntKind.wrap IntKind.u8 (v9 y0 256);let y8:=IntKind.wrap IntKind.u8 (v9 y1 256);let y9:=IntKind.wrap IntKind.u8 (v9 y5 256);ae (decide (x0>=4294967296)) (ae (decide (y1>=65536)) (ae (decide (y5>=256)) (ae (aZ y9 256) (ret (wI (56+wI (EU (ByteArray.mk (List.toArray (v6 (v6 [0,1,2,2,3,3,3,3,4,4,4,4,4,4,4,4,5,5,5,5,5,5,5,5,5,5,5,5,5,5,5,5,6,6,6,6,6,6,6,6,6,6,6,6,6,6,6,6,6,6,6,6,6,6,6,6,6,6,6,6,6,6,6,6] [7,7,7,7,7,7,7,7,7,7,7,7,7,7,7,7,7,7,7,7,7,7,7,7,7,7,7,7,7,7,7,7,7,7,7,7,7,7,7,7,7,7,7,7,7,7,7,7,7,7,7,7,7,7,7,7,7,7,7,7,7,7,7,7]) (v6 [8,8,8,8,8,8,8,8,8,8,8,8,8,8,8,8,8,8,8,8,8,8,8,8,8,8,8,8,8,8,8,8,8,8,8,8,8,8,8,8,8,8,8,8,8,8,8,8,8,8,8,8,8,8,8,8,8,8,8,8,8,8,8,8] [8,8,8,8,8,8,8,8,8,8,8,8,8,8,8,8,8,8,8,8,8,8,8,8,8,8,8,8,8,8,8,8,8,8,8,8,8,8,8,8,8,8,8,8,8,8,8,8,8,8,8,8,8,8,8,8,8,8,8,8,8,8,8,8])))) (z4 y9))))) no) (ae (aZ y6 256) (ret (wI (48+wI (EU (ByteArray.mk (List.toArray (v6 (v6 [0,1,2,2,3,3,3,3,4,4,4,4,4,4,4,4,5,5,5,5,5,5,5,5,5,5,5,5,5,5,5,5,6,6,6,6,6,6,6,6,6,6,6,6,6,6,6,6,6,6,6,6,6,6,6,6,6,6,6,6,6,6,6,6] [7,7,7,7,7,7,7,7,7,7,7,7,7,7,7,7,7,7,7,7,7,7,7,7,7,7,7,7,7,7,7,7,7,7,7,7,7,7,7,7,7,7,7,7,7,7,7,7,7,7,7,7,7,7,7,7,7,7,7,7,7,7,7,7]) (v6 [8,8,8,8,8,8,8,8,8,8,8,8,8,8,8,8,8,8,8,8,8,8,8,8,8,8,8,8,8,8,8,8,8,8,8,8,8,8,8,8,8,8,8,8,8,8,8,8,8,8,8,8,8,8,8,8,8,8,8,8,8,8,8,8] [8,8,8,8,8,8,8,8,8,8,8,8,8,8,8,8,8,8,8,8,8,8,8,8,8,8,8,8,8,8,8,8,8,8,8,8,8,8,8,8,8,8,8,8,8,8,8,8,8,8,8,8,8,8,8,8,8,8,8,8,8,8,8,8])))) (z4 y6))))) no)) (ae (decide (y1>=256)) (ae (aZ y8 256) (ret (wI (40+wI (EU (ByteArray.mk (List.toArray (v6 (v6 [0,1,2,2,3,3,3,3,4,4,4,4,4,4,4,4,5,5,5,5,5,5,5,5,5,5,5,5,5,5,5,5,6,6,6,6,6,6,6,6,6,6,6,6,6,6,6,6,6,6,6,6,6,6,6,6,6,6,6,6,6,6,6,6] [7,7,7,7,7,7,7,7,7,7,7,7,7,7,7,7,7,7,7,7,7,7,7,7,7,7,7,7,7,7,7,7,7,7,7,7,7,7,7,7,7,7,7,7,7,7,7,7,7,7,7,7,7,7,7,7,7,7,7,7,7,7,7,7]) (v6 [8,8,8,8,8,8,8,8,8,8,8,8,8,8,8,8,8,8,8,8,8,8,8,8,8,8,8,8,8,8,8,8,8,8,8,8,8,8,8,8,8,8,8,8,8,8,8,8,8,8,8,8,8,8,8,8,8,8,8,8,8,8,8,8] [8,8,8,8,8,8,8,8,8,8,8,8,8,8,8,8,8,8,8,8,8,8,8,8,8,8,8,8,8,8,8,8,8,8,8,8,8,8,8,8,8,8,8,8,8,8,8,8,8,8,8,8,8,8,8,8,8,8,8,8,8,8,8,8])))) (z4 y8))))) no) (ae (aZ y4 256) (ret (wI (32+wI (EU (ByteArray.mk (List.toArray (v6 (v6 [0,1,2,2,3,3,3,3,4,4,4,4,4,4,4,4,5,5,5,5,5,5,5,5,5,5,5,5,5,5,5,5,6,6,6,6,6,6,6,6,6,6,6,6,6,6,6,6,6,6,6,6,6,6,6,6,6,6,6,6,6,6,6,6] [7,7,7,7,7,7,7,7,7,7,7,7,7,7,7,7,7,7,7,7,7,7,7,7,7,7,7,7,7,7,7,7,7,7,7,7,7,7,7,7,7,7,7,7,7,7,7,7,7,7,7,7,7,7,7,7,7,7,7,7,7,7,7,7]) (v6 [8,8,8,8,8,8,8,8,8,8,8,8,8,8,8,8,8,8,8,8,8,8,8,8,8,8,8,8,8,8,8,8,8,8,8,8,8,8,8,8,8,8,8,8,8,8,8,8,8,8,8,8,8,8,8,8,8,8,8,8,8,8,8,8] [8,8,8,8,8,8,8,8,8,8,8,8,8,8,8,8,8,8,8,8,8,8,8,8,8,8,8,8,8,8,8,8,8,8,8,8,8,8,8,8,8,8,8,8,8,8,8,8,8,8,8,8,8,8,8,8,8,8,8,8,8,8,8,8])))) (z4 y4))))) no))) (ae (decide (x0>=65536)) (ae (decide (y0>=256)) (ae (aZ y7 256) (ret (wI (24+wI (EU (ByteArray.mk (List.toArray (v6 (v6 [0,1,2,2,3,3,3,3,4,4,4,4,4,4,4,4,5,5,5,5,5,5,5,5,5,5,5,5,5,5,5,5,6,6,6,6,6,6,6,6,6,6,6,6,6,6,6,6,6,6,6,6,6,6,6,6,6,6,6,6,6,6,6,6] [7,7,7,7,7,7,7,7,7,7,7,7,7,7,7,7,7,7,7,7,7,7,7,7,7,7,7,7,7,7,7,7,7,7,7,7,7,7,7,7,7,7,7,7,7,7,7,7,7,7,7,7,7,7,7,7,7,7,7,7,7,7,7,7]) (v6 [8,8,8,8,8,8,8,8,8,8,8,8,8,8,8,8,8,8,8,8,8,8,8,8,8,8,8,8,8,8,8,8,8,8,8,8,8,8,8,8,8,8,8,8,8,8,8,8,8,8,8,8,8,8,8,8,8,8,8,8,8,8,8,8] [8,8,8,8,8,8,8,8,8,8,8,8,8,8,8,8,8,8,8,8,8,8,8,8,8,8,8,8,8,8,8,8,8,8,8,8,8,8,8,8,8,8,8,8,8,8,8,8,8,8,8,8,8,8,8,8,8,8,8,8,8,8,8,8])))) (z4 y7))))) no) (ae (aZ y3 256) (ret (wI (16+wI (EU (ByteArray.mk (List.toArray (v6 (v6 [0,1,2,2,3,3,3,3,4,4,4,4,4,4,4,4,5,5,5,5,5,5,5,5,5,5,5,5,5,5,5,5,6,6,6,6,6,6,6,6,6,6,6,6,6,6,6,6,6,6,6,6,6,6,6,6,6,6,6,6,6,6,6,6] [7,7,7,7,7,7,7,7,7,7,7,7,7,7,7,7,7,7,7,7,7,7,7,7,7,7,7,7,7,7,7,7,7,7,7,7,7,7,7,7,7,7,7,7,7,7,7,7,7,7,7,7,7,7,7,7,7,7,7,7,7,7,7,7]) (v6 [8,8,8,8,8,8,8,8,8,8,8,8,8,8,8,8,8,8,8,8,8,8,8,8,8,8,8,8,8,8,8,8,8,8,8,8,8,8,8,8,8,8,8,8,8,8,8,8,8,8,8,8,8,8,8,8,8,8,8,8,8,8,8,8] [8,8,8,8,8,8,8,8,8,8,8,8,8,8,8,8,8,8,8,8,8,8,8,8,8,8,8,8,8,8,8,8,8,8,8,8,8,8,8,8,8,8,8,8,8,8,8,8,8,8,8,8,8,8,8,8,8,8,8,8,8,8,8,8])))) (z4 y3))))) no)) (ae (decide (x0>=256)) (ae (aZ y2 256) (ret (wI (8+wI (EU (ByteArray.mk (List.toArray (v6 (v6 [0,1,2,2,3,3,3,3,4,4,4,4,4,4,4,4,5,5,5,5,5,5,5,5,5,5,5,5,5,5,5,5,6,6,6,6,6,6,6,6,6,6,6,6,6,6,6,6,6,6,6,6,6,6,6,6,6,6,6,6,6,6,6,6] [7,7,7,7,7,7,7,7,7,7,7,7,7,7,7,7,7,7,7,7,7,7,7,7,7,7,7,7,7,7,7,7,7,7,7,7,7,7,7,7,7,7,7,7,7,7,7,7,7,7,7,7,7,7,7,7,7,7,7,7,7,7,7,7]) (v6 [8,8,8,8,8,8,8,8,8,8,8,8,8,8,8,8,8,8,8,8,8,8,8,8,8,8,8,8,8,8,8,8,8,8,8,8,8,8,8,8,8,8,8,8,8,8,8,8,8,8,8,8,8,8,8,8,8,8,8,8,8,8,8,8] [8,8,8,8,8,8,8,8,8,8,8,8,8,8,8,8,8,8,8,8,8,8,8,8,8,8,8,8,8,8,8,8,8,8,8,8,8,8,8,8,8,8,8,8,8,8,8,8,8,8,8,8,8,8,8,8,8,8,8,8,8,8,8,8])))) (z4 y2))))) no) (ae (aZ (IntKind.wrap IntKind.u8 x0) 256) (ret (wI (0+wI (EU (ByteArray.mk (List.toArray (v6 (v6 [0,1,2,2,3,3,3,3,4,4,4,4,4,4,4,4,5,5,5,5,5,5,5,5,5,5,5,5,5,5,5,5,6,6,6,6,6,6,6,6,6,6,6,6,6,6,6,6,6,6,6,6,6,6,6,6,6,6,6,6,6,6,6,6] [7,7,7,7,7,7,7,7,7,7,7,7,7,7,7,7,7,7,7,7,7,7,7,7,7,7,7,7,7,7,7,7,7,7,7,7,7,7,7,7,7,7,7,7,7,7,7,7,7,7,7,7,7,7,7,7,7,7,7,7,7,7,7,7]) (v6 [8,8,8,8,8,8,8,8,8,8,8,8,8,8,8,8,8,8,8,8,8,8,8,8,8,8,8,8,8,8,8,8,8,8,8,8,8,8,8,8,8,8,8,8,8,8,8,8,8,8,8,8,8,8,8,8,8,8,8,8,8,8,8,8] [8,8,8,8,8,8,8,8,8,8,8,8,8,8,8,8,8,8,8,8,8,8,8,8,8,8,8,8,8,8,8,8,8,8,8,8,8,8,8,8,8,8,8,8,8,8,8,8,8,8,8,8,8,8,8,8,8,8,8,8,8,8,8,8])))) (z4 (IntKind.wrap IntKind.u8 x0)))))) no)))
def IC:=λx0=>(ab5 x0).val
theorem aHv:D0 [] 267 aqr (lf WG) λb=>ab5 b:=λb=>by kernel_rfl
theorem aHw [aA]:SC (aqu IC):=s0 (.nil _) aHv
def L7:=qa (pl aIy nil)
def Br:=qe HO
abbrev L8:=Br.B
abbrev CE:=Int->Option L8
def L9 (g:CE):Ct:=(261,FC L7 (lf Br) (λb=>g b))
def CF (Qr:aqt)(x0:Int):Pg L8:=opt (Qr x0) λd=>ret (wI (64-d))
def pZ:=λx0=>(CF IC x0).val
theorem agx:∀Qr,D0 [aqu Qr] 261 L7 (lf Br) λb=>CF Qr b:=λ_ b=>by kernel_rfl
theorem agy [aA]:SC (L9 pZ):=s0 (.c aHw (.nil _)) (agx IC)
def aqv:=qa (pl (c an (c an aIy)) nil)
def WH:=qe aQH
abbrev aqw:=WH.B
abbrev aqx:=Int->Int->Int->Option aqw
def aqy (g:aqx):Ct:=(241,FC aqv (lf WH) (λb=>g b.1 b.2.1 b.b))
def wx:=qs (st (pl (us 2 (c an (us 5 (c an (c an (c an (c an (us 1 (c an (c an (c an (cl an (us 88 aQb))))))))))))) (pu nil nil)))
def auX:=qs (st (pl (us 2 (c an (us 5 (c an (c an (c an (c an (us 1 (c an (c an (c an (c an (us 50 (c an (c ab (cu HP (xs 8 (cu HP aX5)))))))))))))))))) (pu nil nil)))
def auY:=qs (st (pl (us 2 (c an (us 5 (c an (c an (c an (c an (us 1 (c an (c an (c an (c an (us 50 (c an (c ab (cu lM (c an (c an (c an (c an (c an (c an (c an (c ab (c ab aX5))))))))))))))))))))))))) (pu nil nil)))
def auZ:=qs (st (pl (us 2 (c an (us 5 (c an (c an (c an (c an (us 1 (c an (c an (c an (c an (us 50 (c an (c ab (cu lM (c an (c an (c an (c an (c an (c an (c an (c ab (cl ab (us 26 aQb)))))))))))))))))))))))))) (pu nil nil)))
abbrev Jp:=a3g⊕a3e
def aiE {ρ:Type}(x:Jp)(K:AX->St->Option ρ):Option ρ:=(v4 (λd=>K (.ex 0) (auX.em (d.1,d.2.1,d.b.1,d.b.2.1,d.c.1,d.c.2.1,d.c.b.1,d.c.b.2.1,d.d.1,d.d.2.1,d.d.b.1,d.d.2.1,d.c.b.2.1,d.d.b.2.1,d.b.1,d.d.1,d.d.1,d.d.c))) (v4 (λd=>K (.ex 0) (auY.em (d.1,d.2.1,d.b.1,d.b.2.1,d.c.1,d.c.2.1,d.c.b.1,d.c.b.2.1,d.d.1,d.d.2.1,d.d.b.1,d.d.2.1,d.b.2.1,d.d.b.2.1,d.d.c.1,d.d.c.2.1,d.c.2.1,d.d.c.b.1,d.d.c.b.2.1,d.d.c.b.2.1,d.d.2.1,d.c.b.2.1,d.d.c.1,d.b.1,d.d.1,d.d.1,d.e))) (λd=>K (.ex 0) (auZ.em (d.1,d.2.1,d.b.1,d.b.2.1,d.c.1,d.c.2.1,d.c.b.1,d.c.b.2.1,d.d.1,d.c.b.2.1,d.d.2.1,d.c.b.2.1,d.b.2.1,d.d.b.1,d.d.1,d.d.b.2.1,d.c.2.1,d.d.c.1,d.d.c.2,d.d.c.2))))) x
def Jq (d:wx.B):PL wx Jp:=let y0:=wU (4294967296*d.2.2.2.2.2.2.2.2);let y1:=wU (d.2.2.2.2.2.2.2.1-1);let y2:=wU (d.2.2.2.2.2.2.2.2+d.2.2.1);let y3:=wU (d.2.2.2.2.2.2.2.1*d.2.2.2.1);let y4:=decide (d.2.2.2.2.2.2.2.1>=4294967296);let y5:=wU (y0+d.2.2.2.2.2.1);let y6:=decide (y2>=4294967296);let y7:=decide (y3>y5);ae y4 (ae y6 (ret (ww (w7 (d.1,d.2.1,d.2.2.1,d.2.2.2.1,d.2.2.2.2.1,d.2.2.2.2.2.1,d.2.2.2.2.2.2.1,y1,y2,d.2.2.2.2.2.2.2.1,y4,d.2.2.2.2.2.2.2.2,y6)))) (ret (w7 (d.1,d.2.1,d.2.2.1,d.2.2.2.1,d.2.2.2.2.1,d.2.2.2.2.2.1,d.2.2.2.2.2.2.1,y1,y2)))) (ae y7 (ae y6 (ret (ww (ww (w7 (d.1,d.2.1,d.2.2.1,d.2.2.2.1,d.2.2.2.2.1,d.2.2.2.2.2.1,d.2.2.2.2.2.2.1,y1,y2,d.2.2.2.2.2.2.2.1,y4,y3,d.2.2.2.2.2.2.2.2,y0,y5,y7,y6))))) (ret (w7 (d.1,d.2.1,d.2.2.1,d.2.2.2.1,d.2.2.2.2.1,d.2.2.2.2.2.1,d.2.2.2.2.2.2.1,y1,y2)))) (ret (ww (ww (ww (d.1,d.2.1,d.2.2.1,d.2.2.2.1,d.2.2.2.2.1,d.2.2.2.2.2.1,d.2.2.2.2.2.2.1,d.2.2.2.2.2.2.2.1,d.2.2.2.2.2.2.2.2,y4,y3,y0,y5,y7))))))
def Jr:=bG (Jq) 2000
def wy:=qs (st (pl (us 2 (c an (us 5 (c an (c an (c an (us 3 (c an (c an (c an (c an (cl an (us 116 nil))))))))))))) (pu nil nil)))
def au0:=qs (st (pl (us 2 (c an (us 5 (c an (c an (c an (us 3 (c an (c an (c an (c an (c an (us 83 (c an (c ab (cu HP (xs 8 (cu HP aXR)))))))))))))))))) (pu nil nil)))
def au1:=qs (st (pl (us 2 (c an (us 5 (c an (c an (c an (us 3 (c an (c an (c an (c an (c an (us 83 (c an (c ab (cu lM (c an (c an (c an (c an (c an (c an (c an (c ab (c ab aXR))))))))))))))))))))))))) (pu nil nil)))
def au2:=qs (st (pl (us 2 (c an (us 5 (c an (c an (c an (us 3 (c an (c an (c an (c an (c an (us 83 (c an (c ab (cu lM (c an (c an (c an (c an (c an (c an (c an (c ab aQd)))))))))))))))))))))))) (pu nil nil)))
abbrev Js:=a3g⊕a3e
def aiF {ρ:Type}(x:Js)(K:AX->St->Option ρ):Option ρ:=(v4 (λd=>K (.ex 2) (au0.em (d.1,d.2.1,d.b.1,d.b.2.1,d.c.1,d.c.2.1,d.c.b.1,d.c.b.2.1,d.d.1,d.d.2.1,d.d.b.1,d.d.2.1,d.d.1,d.d.b.2.1,d.b.1,d.c.b.1,d.c.b.1,d.d.c))) (v4 (λd=>K (.ex 2) (au1.em (d.1,d.2.1,d.b.1,d.b.2.1,d.c.1,d.c.2.1,d.c.b.1,d.c.b.2.1,d.d.1,d.d.2.1,d.d.b.1,d.d.2.1,d.b.2.1,d.d.b.2.1,d.d.c.1,d.d.c.2.1,d.c.1,d.d.c.b.1,d.d.c.b.2.1,d.d.c.b.2.1,d.d.2.1,d.d.1,d.d.c.1,d.b.1,d.c.b.1,d.c.b.1,d.e))) (λd=>K (.ex 2) (au2.em (d.1,d.2.1,d.b.1,d.b.2.1,d.c.1,d.c.2.1,d.c.b.1,d.c.b.2.1,d.d.1,d.d.1,d.d.2.1,d.d.1,d.b.2.1,d.d.b.1,d.c.b.1,d.d.b.2.1,d.c.1,d.d.c.1,d.d.c.2,d.d.c.2))))) x
def Jt (d:wy.B):PL wy Js:=let y0:=wU (4294967296*d.2.2.2.2.2.2.1);let y1:=wU (d.2.2.2.2.2.2.2.2-1);let y2:=wU (d.2.2.2.2.2.2.1+d.2.2.1);let y3:=wU (d.2.2.2.2.2.2.2.2*d.2.2.2.1);let y4:=wU (y0+d.2.2.2.2.1);let y5:=decide (d.2.2.2.2.2.2.2.2>=4294967296);let y6:=decide (y2>=4294967296);let y7:=decide (y3>y4);ae y5 (ae y6 (ret (ww (w7 (d.1,d.2.1,d.2.2.1,d.2.2.2.1,d.2.2.2.2.1,d.2.2.2.2.2.1,y2,d.2.2.2.2.2.2.2.1,y1,d.2.2.2.2.2.2.2.2,y5,d.2.2.2.2.2.2.1,y6)))) (ret (w7 (d.1,d.2.1,d.2.2.1,d.2.2.2.1,d.2.2.2.2.1,d.2.2.2.2.2.1,y2,d.2.2.2.2.2.2.2.1,y1)))) (ae y7 (ae y6 (ret (ww (ww (w7 (d.1,d.2.1,d.2.2.1,d.2.2.2.1,d.2.2.2.2.1,d.2.2.2.2.2.1,y2,d.2.2.2.2.2.2.2.1,y1,d.2.2.2.2.2.2.2.2,y5,y3,d.2.2.2.2.2.2.1,y0,y4,y7,y6))))) (ret (w7 (d.1,d.2.1,d.2.2.1,d.2.2.2.1,d.2.2.2.2.1,d.2.2.2.2.2.1,y2,d.2.2.2.2.2.2.2.1,y1)))) (ret (ww (ww (ww (d.1,d.2.1,d.2.2.1,d.2.2.2.1,d.2.2.2.2.1,d.2.2.2.2.2.1,d.2.2.2.2.2.2.1,d.2.2.2.2.2.2.2.1,d.2.2.2.2.2.2.2.2,y5,y3,y0,y4,y7))))))
def Ju:=bG (Jt) 2000
def ab6 (agz:CE)(dX:LT wx Jp)(p6:LT wy Js)(x0:Int)(x1:Int)(x2:Int):Pg aqw:=let y0:= !decide (x2=0);ae (x2==0) no (ae (decide (x2<=x0)) no (ae (x0==0) (ae y0 (ae y0 (ret (wU (ul x1 x2),Int.tmod x1 x2)) no) no) (opt (agz x2) λd=>let y0:=wU (64-wU d);let y1:=2^min (z4 (wU d)) 64;let y2:= !decide (wU d<0);let y3:=wU (x1*y1);let y4:=wU (x2*y1);let y5:=v9 y4 4294967296;let y6:=wU (ws (wd (wn 64 (wU (x0*y1))|||wn 64 (v9 x1 (2^min (z4 y0) 64)))));let y7:=wU (ul y6 y5);ae y2 (ae y2 (ae (!decide (y0<0)) (ae y2 (ae (!decide (y5=0)) (opt (dX (y4,wU d,y5,wU (ws (wd (wn 64 y4&&&wn 64 4294967295))),y6,v9 y3 4294967296,wU (ws (wd (wn 64 y3&&&wn 64 4294967295))),y7,wU (y6-wU (y7*y5)))) λx=>sum x (λd=>let y0:=wU (wU (wU (d.2.2.2.2.1*4294967296)+d.2.2.2.2.2.1)-wU (d.2.2.2.2.2.2.2.1*d.1));let y1:=wU (ul y0 d.2.2.1);ae (!decide (d.2.2.1=0)) (opt (p6 (d.1,d.2.1,d.2.2.1,d.2.2.2.1,d.2.2.2.2.2.2.1,d.2.2.2.2.2.2.2.1,wU (y0-wU (y1*d.2.2.1)),y0,y1)) λx=>sum x (λd=>ae (!decide (d.2.1<0)) (ret (wU (wU (d.2.2.2.2.2.1*4294967296)+d.2.2.2.2.2.2.2.2.1),v9 (wU (wU (wU (d.2.2.2.2.2.2.2.1*4294967296)+d.2.2.2.2.1)-wU (d.2.2.2.2.2.2.2.2.1*d.1))) (2^min (z4 d.2.1) 64))) no) λx=>sum x (λd=>ae (!decide (d.2.1<0)) (ret (wU (wU (d.2.2.2.2.2.1*4294967296)+d.2.2.2.2.2.2.2.2.1),v9 (wU (wU (wU (d.2.2.2.2.2.2.2.1*4294967296)+d.2.2.2.2.1)-wU (d.2.2.2.2.2.2.2.2.1*d.1))) (2^min (z4 d.2.1) 64))) no) λd=>ae (!decide (d.2.1<0)) (ret (wU (wU (d.2.2.2.2.2.1*4294967296)+d.2.2.2.2.2.2.2.2.1),v9 (wU (wU (wU (d.2.2.2.2.2.2.2.1*4294967296)+d.2.2.2.2.1)-wU (d.2.2.2.2.2.2.2.2.1*d.1))) (2^min (z4 d.2.1) 64))) no) no) λx=>sum x (λd=>let y0:=wU (wU (wU (d.2.2.2.2.1*4294967296)+d.2.2.2.2.2.1)-wU (d.2.2.2.2.2.2.2.1*d.1));let y1:=wU (ul y0 d.2.2.1);ae (!decide (d.2.2.1=0)) (opt (p6 (d.1,d.2.1,d.2.2.1,d.2.2.2.1,d.2.2.2.2.2.2.1,d.2.2.2.2.2.2.2.1,wU (y0-wU (y1*d.2.2.1)),y0,y1)) λx=>sum x (λd=>ae (!decide (d.2.1<0)) (ret (wU (wU (d.2.2.2.2.2.1*4294967296)+d.2.2.2.2.2.2.2.2.1),v9 (wU (wU (wU (d.2.2.2.2.2.2.2.1*4294967296)+d.2.2.2.2.1)-wU (d.2.2.2.2.2.2.2.2.1*d.1))) (2^min (z4 d.2.1) 64))) no) λx=>sum x (λd=>ae (!decide (d.2.1<0)) (ret (wU (wU (d.2.2.2.2.2.1*4294967296)+d.2.2.2.2.2.2.2.2.1),v9 (wU (wU (wU (d.2.2.2.2.2.2.2.1*4294967296)+d.2.2.2.2.1)-wU (d.2.2.2.2.2.2.2.2.1*d.1))) (2^min (z4 d.2.1) 64))) no) λd=>ae (!decide (d.2.1<0)) (ret (wU (wU (d.2.2.2.2.2.1*4294967296)+d.2.2.2.2.2.2.2.2.1),v9 (wU (wU (wU (d.2.2.2.2.2.2.2.1*4294967296)+d.2.2.2.2.1)-wU (d.2.2.2.2.2.2.2.2.1*d.1))) (2^min (z4 d.2.1) 64))) no) no) λd=>let y0:=wU (wU (wU (d.2.2.2.2.1*4294967296)+d.2.2.2.2.2.1)-wU (d.2.2.2.2.2.2.2.1*d.1));let y1:=wU (ul y0 d.2.2.1);ae (!decide (d.2.2.1=0)) (opt (p6 (d.1,d.2.1,d.2.2.1,d.2.2.2.1,d.2.2.2.2.2.2.1,d.2.2.2.2.2.2.2.1,wU (y0-wU (y1*d.2.2.1)),y0,y1)) λx=>sum x (λd=>ae (!decide (d.2.1<0)) (ret (wU (wU (d.2.2.2.2.2.1*4294967296)+d.2.2.2.2.2.2.2.2.1),v9 (wU (wU (wU (d.2.2.2.2.2.2.2.1*4294967296)+d.2.2.2.2.1)-wU (d.2.2.2.2.2.2.2.2.1*d.1))) (2^min (z4 d.2.1) 64))) no) λx=>sum x (λd=>ae (!decide (d.2.1<0)) (ret (wU (wU (d.2.2.2.2.2.1*4294967296)+d.2.2.2.2.2.2.2.2.1),v9 (wU (wU (wU (d.2.2.2.2.2.2.2.1*4294967296)+d.2.2.2.2.1)-wU (d.2.2.2.2.2.2.2.2.1*d.1))) (2^min (z4 d.2.1) 64))) no) λd=>ae (!decide (d.2.1<0)) (ret (wU (wU (d.2.2.2.2.2.1*4294967296)+d.2.2.2.2.2.2.2.2.1),v9 (wU (wU (wU (d.2.2.2.2.2.2.2.1*4294967296)+d.2.2.2.2.1)-wU (d.2.2.2.2.2.2.2.2.1*d.1))) (2^min (z4 d.2.1) 64))) no) no) no) no) no) no) no)))
def ID:=λx0 x1 x2=>(ab6 pZ Jr Ju x0 x1 x2).val
abbrev IE:=CE×(LT wx Jp)×(LT wy Js)
def Qs (p:IE):KK:=⟨[L9 p.1],⟨[⟨17,(0::1::rg 3 5 (12::rg 17 53 (rg 78 27 (rg 113 22 (rg 70 8 []))))),[]⟩,⟨24,(0::1::rg 3 5 (11::12::13::rg 19 86 (rg 113 22 (rg 105 8 [])))),[]⟩],[fU 17 0 wx aiE p.2.1,fU 24 0 wy aiF p.b],[],[],(some ⟨0,(rg 0 6 (rg 8 127 [])),[]⟩)⟩,0,241⟩
theorem aye (p:IE):LI (Qs p) 17 wx aiE (Jq):=λ_ d c K=>by kernel_rfl
theorem ayf (p:IE):LI (Qs p) 24 wy aiF (Jt):=λ_ d c K=>by kernel_rfl
theorem aHx (p:IE):D2 (Qs p) aqv (lf WH) λb=>ab6 p.1 p.2.1 p.b b.1 b.2.1 b.b:=λb=>by kernel_rfl
abbrev Qt:IE:=(pZ,Jr,Ju)
theorem aHy [aA]:SC (aqy ID):=sc (kS (k:=Qs Qt) (.c agy (.nil _)) [17,24] [] ⟨kL (aye Qt),⟨kL (ayf Qt),trivial⟩⟩ trivial (aHx Qt))
def az7:=qa (pl (c afG jo) nil)
def agA:=qe axr
abbrev az8:=agA.B
abbrev alx:=Int->Int->Int->Option az8
def aly (g:alx):Ct:=(200,FC az7 (lf agA) (λb=>g b.1.1 b.1.2 b.2))
def alz (zf:alp)(iw:Qm)(Qu:aqx)(fF:wu)(fG:Bq)(x0:Int)(x1:Int)(x2:Int):Pg az8:=ae (x2==0) (ret (0,false)) (opt (zf x0 x1) λd=>let y0:= !d.2==decide (x2<0);opt (iw x2) λak=>let uM:=wU (ul d.1.1 ak);let y1:= !decide (ak=0);ae y1 (ae y1 (opt (Qu (Int.tmod d.1.1 ak) d.1.2 ak) λd=>ae (decide (d.2>=wU (ak-d.2))) (opt (fF uM d.1 0 1) λd=>opt (fG d.1 d.2 y0) λd=>ret d) (opt (fG uM d.1 y0) λd=>ret d)) no) no)
def Cd:=λx0 x1 x2=>(alz FQ su ID js jt x0 x1 x2).val
theorem aOb:∀zf iw Qu fF fG,D0 [alq zf,Qn iw,aqy Qu,GN fF,GO fG] 200 az7 (lf agA) λb=>alz zf iw Qu fF fG b.1.1 b.1.2 b.2:=λ_ _ _ _ _ b=>by kernel_rfl
theorem az9 [aA]:SC (aly Cd):=s0 (.c az6 (.c abZ (.c aHy (.c OF (.c OK (.nil _)))))) (aOb FQ su ID js jt)
def au3:=qa (pr (cu aQ (c afG jo)) bL)
def ab7:=qe qN
abbrev au4:=ab7.B
abbrev agB:=Int->Int->Int->Bool->Option au4
def agC (g:agB):Ct:=(128,FC au3 (lf ab7) (λb=>g b.1.1.1 b.1.1.2 b.1.2 b.2))
def GP (ka:Wy)(zh:alx)(nP:IB)(x0:Int)(x1:Int)(x2:Int)(x3:Bool):Pg au4:=let y0:=decide (x0<0);ae (x2==0) (ae (x0==0&&(x1==0&&true)) (ret (0,true)) (opt (ka y0) λd=>ret (d,true))) (opt (zh x0 x1 x2) λd=>opt (nP d.1 d.2 (!y0==decide (x2<0)) x3) λd=>ret d)
def p7:=λx0 x1 x2 x3=>(GP oH Cd jC x0 x1 x2 x3).val
theorem aLa:∀ka zh nP,D0 [Wz ka,aly zh,Qq nP] 128 au3 (lf ab7) λb=>GP ka zh nP b.1.1.1 b.1.1.2 b.1.2 b.2:=λ_ _ _ b=>by kernel_rfl
theorem au5 [aA]:SC (agC p7):=s0 (.c agw (.c az9 (.c ab3 (.nil _)))) (aLa oH Cd jC)
def ad9:=qa (pr (cu aQ FA) bL)
def Ma:=qe qN
abbrev aea:=Ma.B
abbrev cD:=Int->Int->Int->Bool->Option aea
def dt (g:cD):Ct:=(78,FC ad9 (lf Ma) (λb=>g b.1.1 b.1.2.1 b.1.b b.2))
def GQ (ay:bV)(cT:o6)(vg:agB)(x0:Int)(x1:Int)(x2:Int)(x3:Bool):Pg aea:=opt (ay x0 x3) λd=>opt (ay x1 d.2) λak=>opt (cT d.1 ak.1) λd=>opt (ay x2 ak.2) λaJ=>opt (vg d.1 d.2 aJ.1 aJ.2) λd=>ret d
def aX:=λx0 x1 x2 x3=>(GQ aO fP p7 x0 x1 x2 x3).val
theorem ayg:∀ay cT vg,D0 [dy ay,ze cT,agC vg] 78 ad9 (lf Ma) λb=>GQ ay cT vg b.1.1 b.1.2.1 b.1.b b.2:=λ_ _ _ b=>by kernel_rfl
theorem dI [aA]:SC (dt aX):=s0 (.c dF (.c Cc (.c au5 (.nil _)))) (ayg aO fP p7)
def Mb:=qa (pr (c ai (c ai aKb)) (cu asq bL))
def Bs:=qe aQE
abbrev Mc:=Bs.B
abbrev CG:=Int->Int->Int->Int->Bool->Option Mc
def CI (g:CG):Ct:=(194,FC Mb (lf Bs) (λb=>g b.1.1 b.1.2.1 b.1.b.1 b.1.b.2 b.2))
def CJ (av:cD)(x0:Int)(x1:Int)(x2:Int)(x3:Int)(x4:Bool):Pg Mc:=opt (av (wI (x1-x0)) x2 x3 x4) λd=>ret (wI (x0+d.1),d.2)
def gY:=λx0 x1 x2 x3 x4=>(CJ aX x0 x1 x2 x3 x4).val
theorem agD:∀av,D0 [dt av] 194 Mb (lf Bs) λb=>CJ av b.1.1 b.1.2.1 b.1.b.1 b.1.b.2 b.2:=λ_ b=>by kernel_rfl
theorem Md [aA]:SC (CI gY):=s0 (.c dI (.nil _)) (agD aX)
def aqz:=qa (pl Cw nil)
def WI:=qe aQL
abbrev aqA:=WI.B
abbrev ab8:=Int->Int->Option aqA
def ab9 (g:ab8):Ct:=(132,FC aqz (lf WI) (λb=>g b.1 b.2))
def aca (iw:Qm)(kC:DL)(jl:DM)(pY:Wv)(x0:Int)(x1:Int):Pg aqA:=ae (decide (x1<0)) (ret ((0,0),false)) (ae (decide (x1>127)) (ret ((0,0),false)) (opt (iw x0) λd=>opt (kC 0 d x1) λak=>opt (jl ak.1 ak.2 x1) λaJ=>ae (!(aJ.1==0&&(aJ.2==d&&true))) (ret ((0,0),false)) (opt (pY ak.1 ak.2 (decide (x0<0))) λd=>ae (!d.2) (ret ((0,0),false)) (ret (d.1,true)))))
def vZ:=λx0 x1=>(aca su gU jk nN x0 x1).val
theorem aHz:∀iw kC jl pY,D0 [Qn iw,Jk kC,Jl jl,Ww pY] 132 aqz (lf WI) λb=>aca iw kC jl pY b.1 b.2:=λ_ _ _ _ b=>by kernel_rfl
theorem aqB [aA]:SC (ab9 vZ):=s0 (.c abZ (.c S8 (.c S9 (.c alm (.nil _))))) (aHz su gU jk nN)
def aqC:=qa (pr (cu aQ FA) bL)
def WJ:=qe qN
abbrev aqD:=WJ.B
abbrev cN:=Int->Int->Int->Bool->Option aqD
def gL (g:cN):Ct:=(82,FC aqC (lf WJ) (λb=>g b.1.1 b.1.2.1 b.1.b b.2))
def IF (ay:bV)(sy:ab8)(vg:agB)(x0:Int)(x1:Int)(x2:Int)(x3:Bool):Pg aqD:=opt (ay x0 x3) λd=>opt (ay x1 d.2) λak=>ae (decide (x2<0)) (ret (0,true)) (ae (decide (x2>66)) (ret (0,true)) (opt (sy d.1 x2) λd=>opt (vg d.1.1 d.1.2 ak.1 ak.2) λd=>ret d))
def bh:=λx0 x1 x2 x3=>(IF aO vZ p7 x0 x1 x2 x3).val
theorem aHA:∀ay sy vg,D0 [dy ay,ab9 sy,agC vg] 82 aqC (lf WJ) λb=>IF ay sy vg b.1.1 b.1.2.1 b.1.b b.2:=λ_ _ _ b=>by kernel_rfl
theorem ix [aA]:SC (gL bh):=s0 (.c dF (.c aqB (.c au5 (.nil _)))) (aHA aO vZ p7)
def aeb:=qa (pl (c V8 (cl V8 nil)) nil)
def Me:=qe Cy
abbrev aec:=Me.B
abbrev GR:=Int->Int->Int->Int->Option aec
def aed (g:GR):Ct:=(243,FC aeb (lf Me) (λb=>g b.1.1 b.1.2 b.2.1 b.b))
def ON (x0:Int)(x1:Int)(x2:Int)(x3:Int):Pg aec:=ae (decide (x0<x2)) (ret true) (ae (x0==x2) (ret (decide (x1<x3))) (ret false))
def wz:=λx0 x1 x2 x3=>(ON x0 x1 x2 x3).val
theorem ayh:D0 [] 243 aeb (lf Me) λb=>ON b.1.1 b.1.2 b.2.1 b.b:=λb=>by kernel_rfl
theorem ayi [aA]:SC (aed wz):=s0 (.nil _) ayh
def Z9:=qa (pl (c V8 (cl V8 nil)) nil)
def Kj:=qe aKf
abbrev Z':=Kj.B
abbrev Mf:=Int->Int->Int->Int->Option Z'
def aaa (g:Mf):Ct:=(244,FC Z9 (lf Kj) (λb=>g b.1.1 b.1.2 b.2.1 b.b))
def Mg (alA:aZQ)(x0:Int)(x1:Int)(x2:Int)(x3:Int):Pg Z':=opt (alA x1 x3 0) λd=>opt (alA x0 x2 d.2) λak=>ret (ak.1,d.1)
def zj:=λx0 x1 x2 x3=>(Mg ad3 x0 x1 x2 x3).val
theorem au6:∀alA,D0 [aN5 alA] 244 Z9 (lf Kj) λb=>Mg alA b.1.1 b.1.2 b.2.1 b.b:=λ_ b=>by kernel_rfl
theorem au7 [aA]:SC (aaa zj):=s0 (.c aUV (.nil _)) (au6 ad3)
def au8:=qa (pl aD1 nil)
def acb:=qe axr
abbrev au9:=acb.B
abbrev ava:=Int->Int->Option au9
def avb (g:ava):Ct:=(202,FC au8 (lf acb) (λb=>g b.1 b.2))
def yJ:=qs (st (pr (us 4 (cu (app 0 2) (cu aM2 (cl ai (us 44 nil))))) (pl (c (so axk) (cl (so axk) nil)) nil)))
def aFB:=qs (st (pr (us 4 (cu (app 0 2) (cu aM2 (c ai (us 12 aXc))))) (pl (c (so axk) (cl (so axk) nil)) nil)))
abbrev Mh:=((Int×Bool)×(Int×Int)×Int×Int)
def alB {ρ:Type}(x:Mh)(K:AX->St->Option ρ):Option ρ:=(λd=>K (.ex 0) (aFB.em ((d.1.1,d.1),d.2))) x
def Mi (kC:DL)(fF:wu)(jl:DM)(OO:GR)(avc:Mf)(d:yJ.B):PL yJ Mh:=let y0:=wI (d.1-2);let y1:=decide (d.1>=0);ae y1 (opt (kC 0 1 d.1) λak=>opt (fF d.2.2.1 d.2.2.2 ak.1 ak.2) λaJ=>opt (jl d.2.2.1 d.2.2.2 1) λbB=>opt (OO d.2.1.1 d.2.1.2 aJ.1 aJ.2) λcK=>ae (!cK) (opt (avc d.2.1.1 d.2.1.2 aJ.1 aJ.2) λd=>opt (fF bB.1 bB.2 ak.1 ak.2) λeU=>ret (w7 (y0,d,eU))) (ret (w7 (y0,d.2.1,bB)))) (ret (ww ((d.1,y1),d.2)))
def WK:=bG (Mi gU js jk wz zj) 2000
def agE (fF:wu)(OO:GR)(fG:Bq)(dX:LT yJ Mh)(x0:Int)(x1:Int):Pg au9:=ae (decide (x0<0)) (ret (0,false)) (opt (dX (126,(wU x0,x1),0,0)) λd=>opt (OO d.2.2.1 d.2.2.2 d.2.1.1 d.2.1.2) λak=>ae ak (opt (fF d.2.2.1 d.2.2.2 0 1) λd=>opt (fG d.1 d.2 false) λd=>ret d) (opt (fG d.2.2.1 d.2.2.2 false) λd=>ret d))
def Mj:=λx0 x1=>(agE js wz jt WK x0 x1).val
abbrev Vg:=DL×wu×DM×GR×Mf×Bq×(LT yJ Mh)
def agF (p:Vg):KK:=⟨[Jk p.1,GN p.2.1,Jl p.b.1,aed p.b.2.1,aaa p.c.1,GO p.c.2.1],⟨[⟨5,(rg 0 4 (rg 7 44 [])),[]⟩],[fU 5 0 yJ alB p.c.b],[],[],(some ⟨0,(0::1::rg 4 47 []),[]⟩)⟩,0,202⟩
theorem aCk (p:Vg):LI (agF p) 5 yJ alB (Mi p.1 p.2.1 p.b.1 p.b.2.1 p.c.1):=λ_ d c K=>by kernel_rfl
theorem aLb (p:Vg):D2 (agF p) au8 (lf acb) λb=>agE p.2.1 p.b.2.1 p.c.2.1 p.c.b b.1 b.2:=λb=>by kernel_rfl
abbrev agG:Vg:=(gU,js,jk,wz,zj,jt,WK)
theorem aLc [aA]:SC (avb Mj):=sc (kS (k:=agF agG) (.c S8 (.c OF (.c S9 (.c ayi (.c au7 (.c OK (.nil _))))))) [5] [] ⟨kL (aCk agG),trivial⟩ trivial (aLb agG))
def aAa:=qa (pr (cu aQ aD1) bL)
def agH:=qe qN
abbrev aAb:=agH.B
abbrev aab:=Int->Int->Bool->Option aAb
def alC (g:aab):Ct:=(133,FC aAa (lf agH) (λb=>g b.1.1 b.1.2 b.2))
def alD (Vh:ava)(ay:bV)(x0:Int)(x1:Int)(x2:Bool):Pg aAb:=opt (Vh x0 x1) λd=>ae (!d.2) (opt (ay 1152921504606846977 x2) λd=>ret d) (opt (ay d.1 x2) λd=>ret d)
def v5:=λx0 x1 x2=>(alD Mj aO x0 x1 x2).val
theorem aOc:∀Vh ay,D0 [avb Vh,dy ay] 133 aAa (lf agH) λb=>alD Vh ay b.1.1 b.1.2 b.2:=λ_ _ b=>by kernel_rfl
theorem aAc [aA]:SC (alC v5):=s0 (.c aLc (.c dF (.nil _))) (aOc Mj aO)
def avd:=qa (pr (cu aQ jo) bL)
def acd:=qe qN
abbrev ave:=acd.B
abbrev agI:=Int->Bool->Option ave
def agJ (g:agI):Ct:=(81,FC avd (lf acd) (λb=>g b.1 b.2))
def agK (ay:bV)(sy:ab8)(K3:aab)(x0:Int)(x1:Bool):Pg ave:=opt (ay x0 x1) λd=>ae (decide (d.1<0)) (ret (0,true)) (opt (sy d.1 30) λak=>opt (K3 ak.1.1 ak.1.2 d.2) λd=>ret d)
def CL:=λx0 x1=>(agK aO vZ v5 x0 x1).val
theorem aLd:∀ay sy K3,D0 [dy ay,ab9 sy,alC K3] 81 avd (lf acd) λb=>agK ay sy K3 b.1 b.2:=λ_ _ _ b=>by kernel_rfl
theorem avf [aA]:SC (agJ CL):=s0 (.c dF (.c aqB (.c aAc (.nil _)))) (aLd aO vZ v5)
def avg:=qa (pl jo nil)
def ace:=qe HO
abbrev avh:=ace.B
abbrev zm:=Int->Option avh
def CM (g:zm):Ct:=(129,FC avg (lf ace) (λb=>g b))
def Vi (x0:Int):Pg avh:=let y0:=Int.tmod x0 6746518852;ae (decide (y0>3373259426)) (ret (wI (y0-6746518852))) (ae (decide (y0<= -3373259426)) (ret (wI (y0+6746518852))) (ret y0))
def lr:=λx0=>(Vi x0).val
theorem aLe:D0 [] 129 avg (lf ace) λb=>Vi b:=λb=>by kernel_rfl
theorem GS [aA]:SC (CM lr):=s0 (.nil _) aLe
def aJh:=qa (pl jo nil)
def as9:=qe HO
abbrev aee:=as9.B
abbrev OP:=Int->Option aee
def aef (g:OP):Ct:=(36,FC aJh (lf as9) (λb=>g b))
def Ej (x0:Int):Pg aee:=ae (decide (x0>=1152921504606846976)) (ret 1152921504606846976) (ae (decide (x0<= -1152921504606846976)) (ret 1152921504606846976) (ae (decide (x0<0)) (ret (wI (0-x0))) (ret x0)))
def yK:=λx0=>(Ej x0).val
theorem aUZ:D0 [] 36 aJh (lf as9) λb=>Ej b:=λb=>by kernel_rfl
theorem aoV [aA]:SC (aef yK):=s0 (.nil _) aUZ
def aJi:=qa (pr (cu aQ Cw) bL)
def ata:=qe qN
abbrev aJj:=ata.B
abbrev aeg:=Int->Int->Bool->Option aJj
def aoW (g:aeg):Ct:=(130,FC aJi (lf ata) (λb=>g b.1.1 b.1.2 b.2))
def aoX (aB:bR)(x0:Int)(x1:Int)(x2:Bool):Pg aJj:=opt (aB x0 x1 30 x2) λd=>ret d
def GU:=λx0 x1 x2=>(aoX aU x0 x1 x2).val
theorem aU0:∀aB,D0 [fg aB] 130 aJi (lf ata) λb=>aoX aB b.1.1 b.1.2 b.2:=λ_ b=>by kernel_rfl
theorem ayj [aA]:SC (aoW GU):=s0 (.c fK (.nil _)) (aU0 aU)
def aFC:=qa (pl jo nil)
def alE:=qe aXB
abbrev aFD:=alE.B
abbrev atb:=Int->Option aFD
def aFE (g:atb):Ct:=(242,FC aFC (lf alE) (λb=>g b))
def atc (x0:Int):Pg aFD:=ret (v9 x0 9223372036854775808,wU x0)
def WL:=λx0=>(atc x0).val
theorem aRS:D0 [] 242 aFC (lf alE) λb=>atc b:=λb=>by kernel_rfl
theorem aRT [aA]:SC (aFE WL):=s0 (.nil _) aRS
def aAd:=qa (pl (c afG aD1) nil)
def agL:=qe aQL
abbrev aAe:=agL.B
abbrev alF:=Int->Int->Int->Int->Option aAe
def aAf (g:alF):Ct:=(187,FC aAd (lf agL) (λb=>g b.1.1 b.1.2 b.2.1 b.b))
def alG (nM:auV)(x0:Int)(x1:Int)(x2:Int)(x3:Int):Pg aAe:=let y0:=decide (x0<0);opt (nM x1 x3 0) λd=>opt (nM (wU x0) (wU x2) d.2) λak=>ae (!y0==decide (x2<0)) (ret ((wI ak.1,d.1),true)) (ret ((wI ak.1,d.1),decide (wI ak.1<0)==y0))
def K4:=λx0 x1 x2 x3=>(alG DI x0 x1 x2 x3).val
theorem aOd:∀nM,D0 [alh nM] 187 aAd (lf agL) λb=>alG nM b.1.1 b.1.2 b.2.1 b.b:=λ_ b=>by kernel_rfl
theorem aOe [aA]:SC (aAf K4):=s0 (.c aoU (.nil _)) (aOd DI)
def aAg:=qa (dp (cl aWX nil) λa=>(cl (cl (gs a.1 aJ2) nil) nil))
def agM:=qe (res (pl aXC (pu adP nil)))
abbrev aAh:=agM.B
abbrev th:=Nat->NI->NI->Bool->Option aAh
def K5 (g:th):Ct:=(117,vX 0 [.i .i64,.i .u64] (FC aAg (lf agM) (λb=>g b.1.1 b.2.1 b.b b.1.2)))
def Bt:=qs (st (dp (us 2 (cu aM2 (us 1 (cu azy (us 4 (c aWX (c ai aQe))))))) λa=>(pl (c (so (cl (gs a.1.1 aJ2) nil)) (cu aQM abA)) nil)))
def aiG:=qs (st (pu (us 2 (cu aM2 (cu lM (us 23 nil)))) (pl (cl aQI (cu aQM nil)) nil)))
def aCl:=qs (st (pr (us 2 (cu aM2 (us 1 (cu azy (us 4 (c aWX aXs)))))) (pl (c aQI (cu aQM abA)) nil)))
abbrev IG:=aiG.B⊕(aMX×(NI×NI)×Int×Int)
def aqE {ρ:Type}(x:IG)(K:AX->St->Option ρ):Option ρ:=(v4 (λd=>K .ret (aiG.em d)) (λd=>K (.ex 0) (aCl.em (d.1,(d.1.1.1,d.2.1),d.b)))) x
def Ek (aOf:alF)(d:Bt.B):PL Bt IG:=let y0:=z4 d.1.2.2;let y1:=decide (d.1.2.2<d.1.2.1);ae y1 (ae (aZ d.1.2.2 d.1.1.1) (opt (aOf d.2.2.1 d.2.2.2 (d.2.1.1 y0) (d.2.1.2 y0)) λak=>ae (!ak.2) (ret (ww (w7 (d.1.1.1,d.2.1)))) (ret (w7 ((d.1.1,d.1.2.1,wI (d.1.2.2+1)),d.2.1,ak.1)))) no) (ret (ww (ww ((d.1.1,d.1.2.1,d.1.2.2,y1),d.2))))
def IH:=bG (Ek K4) 2000
def aac (dX:LT Bt IG)(x0:Nat)(x1:Nat->Int)(x2:Nat->Int)(w0:Bool):Pg aAh:=ae (z9 x0 x0) (opt (dX (((x0,w0),ws x0,0),(x1,x2),0,0)) λx=>sum x (λd=>ret ((0,0),false)) λd=>ret (d.2.2,true)) no
def kU:=λx0 x1 x2 w0=>(aac IH x0 x1 x2 w0).val
abbrev aad:=alF×(LT Bt IG)
def alH (p:aad):KK:=⟨[aAf p.1],⟨[⟨3,(0::1::3::rg 5 4 (rg 12 15 [])),[]⟩],[fU 3 1 Bt aqE p.2],[],[],(some ⟨0,(0::1::rg 4 23 []),[]⟩)⟩,1,117⟩
theorem aFF (p:aad):LI (alH p) 3 Bt aqE (Ek p.1):=λ_ d c K=>by kernel_rfl
theorem aOg (p:aad):D2 (alH p) aAg (lf agM) λb=>aac p.2 b.1.1 b.2.1 b.b b.1.2:=λb=>by kernel_rfl
abbrev alI:aad:=(K4,IH)
theorem Rk [aA]:SC (K5 kU):=sc (Sound.nil 0 [.i .i64,.i .u64]<|kS (k:=alH alI) (.c aOe (.nil _)) [3] [] ⟨kL (aFF alI),trivial⟩ trivial (aOg alI))
def aqF:=qa (dp (cu aQ axm) λa=>(c xY (cl (cl (gs a.1 oC) nil) nil)))
def WM:=qe aKj
abbrev aqG:=WM.B
abbrev fL:=Nat->Bool->NI->Bool->Option aqG
def pQ (g:fL):Ct:=(201,vX 1 [.i .i64] (FC aqF (lf WM) (λb=>g b.1.1 b.2.1 b.b b.1.2)))
def rz:=qs (st (dp (cu aQ (us 4 (cu azy (us 4 (c Ix (c ai aQf)))))) λa=>(pl (c bD (c (so (cl (gs a.1.1 oC) nil)) abA)) bK)))
def aCm:=qs (st (pr (cu aQ (us 4 (cu azy (us 4 (c Ix (c ai aQn)))))) (pl (c bD (c HS abA)) bK)))
abbrev Jv:=(aMX×Bool×NI×Int×Int)
def aiH {ρ:Type}(x:Jv)(K:AX->St->Option ρ):Option ρ:=(λd=>K (.ex 0) (aCm.em (d.1,d.2.1,(d.1.1.1,d.b.1),d.b.2))) x
def Jw (ay:bV)(aRU:atb)(zn:th)(d:rz.B):PL rz Jv:=let y0:=decide (d.1.2.2<d.1.2.1);ae y0 (ae (aZ d.1.2.2 d.1.1.1) (opt (ay (d.2.2.1 (z4 d.1.2.2)) d.2.1) λak=>opt (aRU ak.1) λaJ=>opt (zn 2 (λj=>bif z9 j 1 then aJ.1 else bif z9 j 0 then d.2.2.2.1 else d.2.2.2.1) (λj=>bif z9 j 1 then aJ.2 else bif z9 j 0 then d.2.2.2.2 else d.2.2.2.2) true) λbB=>ret (w7 ((d.1.1,d.1.2.1,wI (d.1.2.2+1)),ak.2,d.2.2.1,bB.1))) no) (ret (ww ((d.1.1,d.1.2.1,d.1.2.2,y0),d.2)))
def Jx:=bG (Jw aO WL kU) 2000
def Qv (vY:Eh)(nP:IB)(dX:LT rz Jv)(x0:Nat)(x1:Bool)(x2:Nat->Int)(w0:Bool):Pg aqG:=ae (z9 x0 x0) (opt (dX (((x0,w0),ws x0,0),x1,x2,0,0)) λd=>opt (vY d.2.2.2.1 d.2.2.2.2 0) λak=>opt (nP ak.1 ak.2 (decide (d.2.2.2.1<0)) d.2.1) λd=>ret d) no
def cF:=λx0 x1 x2 w0=>(Qv sw jC Jx x0 x1 x2 w0).val
abbrev Qw:=bV×atb×th×Eh×IB×(LT rz Jv)
def acf (p:Qw):KK:=⟨[dy p.1,aFE p.2.1,K5 p.b.1,Qp p.b.2.1,Qq p.c.1],⟨[⟨3,(rg 1 4 (rg 6 4 (rg 13 26 []))),[]⟩],[fU 3 2 rz aiH p.c.2],[0],[],(some ⟨0,(rg 0 4 (rg 5 34 [])),[]⟩)⟩,2,201⟩
theorem ayk (p:Qw):LI (acf p) 3 rz aiH (Jw p.1 p.2.1 p.b.1):=λ_ d c K=>by kernel_rfl
theorem aHB (p:Qw):D2 (acf p) aqF (lf WM) λb=>Qv p.b.2.1 p.c.1 p.c.2 b.1.1 b.2.1 b.b b.1.2:=λb=>by kernel_rfl
abbrev acg:Qw:=(aO,WL,kU,sw,jC,Jx)
theorem sC [aA]:SC (pQ cF):=sc (Sound.nil 1 [.i .i64]<|kS (k:=acf acg) (.c dF (.c aRT (.c Rk (.c ab2 (.c ab3 (.nil _)))))) [3] [] ⟨kL (ayk acg),trivial⟩ trivial (aHB acg))
def alJ:=qa (dp (cu aQ aQq) λa=>(c xY (cl (cl (gs a.2.1 oC) nil) nil)))
def Td:=qe aKj
abbrev alK:=Td.B
abbrev WN:=Int->Nat->Bool->NI->Bool->Option alK
def WO (g:WN):Ct:=(131,vX 2 [.i .i64] (FC alJ (lf Td) (λb=>g b.1.1 b.1.2.1 b.2.1 b.b b.1.b)))
def lu:=qs (st (pr (cu aQ (c ai (us 5 (c ai (us 6 (c aYa (c ai aJX))))))) (pl (c bD abC) bK)))
def aeh:=qs (st (pr (cu aQ (c ai (us 5 (c ai (us 6 (c aYa (c ai aJ3))))))) (pl (c bD abC) bK)))
abbrev Bu:=aeh.B
def aei {ρ:Type}:=@ef Bu ((.ex 0)) aeh ρ
def OQ (jX:aeg)(cB:fL)(d:lu.B):PL lu Bu:=let n1:=d.1.2.2;let n2:=n1.2.2;let y0:=decide (n2<n1.2.1);ae y0 (ae (aZ n2 n1.1.1) (opt (jX d.1.1 d.1.2.1 d.2.1) λak=>opt (cB 2 ak.2 (cr (d.2.2.2 (1+z4 n2)) [ak.1,d.2.2.2 (1+z4 n2)]) true) λaJ=>ret (w7 ((d.1.1,aJ.1,n1.1,n1.2.1,wI (n2+1)),aJ.2,d.2.2))) no) (ret (ww ((d.1.1,d.1.2.1,n1.1,n1.2.1,n2,y0),d.2)))
def GV:=bG (OQ GU cF) 2000
def WQ (dX:LT lu Bu)(x0:Int)(x1:Nat)(x2:Bool)(x3:Nat->Int)(w0:Bool):Pg alK:=let y0:=x1-1;ae (aZ 0 x1) (ae (HA 1 x1) (opt (dX ((x0,x3 0,(y0,w0&&true),ws y0,0),x2,x1,x3)) λd=>ret (d.1.2.1,d.2.1)) no) no
def lS:=λx0 x1 x2 x3 w0=>(WQ GV x0 x1 x2 x3 w0).val
abbrev Mk:=aeg×fL×(LT lu Bu)
def WR (p:Mk):KK:=⟨[aoW p.1,pQ p.2.1],⟨[⟨3,(rg 2 5 (rg 8 6 (rg 17 13 []))),[]⟩],[fU 3 2 lu aei p.b],[0],[],(some ⟨0,(rg 0 6 (rg 7 23 [])),[]⟩)⟩,2,131⟩
theorem avi (p:Mk):LI (WR p) 3 lu aei (OQ p.1 p.2.1):=λ_ d c K=>by kernel_rfl
theorem aFG (p:Mk):D2 (WR p) alJ (lf Td) λb=>WQ p.b b.1.1 b.1.2.1 b.2.1 b.b b.1.b:=λb=>by kernel_rfl
abbrev WT:Mk:=(GU,cF,GV)
theorem alL [aA]:SC (WO lS):=sc (Sound.nil 2 [.i .i64]<|kS (k:=WR WT) (.c ayj (.c sC (.nil _))) [3] [] ⟨kL (avi WT),trivial⟩ trivial (aFG WT))
def aAi:=qa (pr (cu aQ jo) bL)
def agN:=qe qN
abbrev aAj:=agN.B
abbrev K6:=Int->Bool->Option aAj
def K7 (g:K6):Ct:=(79,FC aAi (lf agN) (λb=>g b.1 b.2))
def alM (ay:bV)(dq:zm)(dC:OP)(jX:aeg)(gy:WN)(x0:Int)(x1:Bool):Pg aAj:=opt (ay x0 x1) λd=>opt (dq d.1) λak=>let y0:=wI (3373259426-ak);let y1:=wI (-3373259426-ak);ae (decide (ak>1686629713)) (opt (dC y0) λaJ=>let uM:=wI (1686629713-aJ);ae (decide (aJ<=843314857)) (opt (jX y0 y0 d.2) λd=>opt (gy d.1 6 d.2 (cr (-27) [1073741824, -178956971,8947849, -213044,2959, -27]) true) λd=>opt (jX y0 d.1 d.2) λd=>let y0:=if -1073741824>d.1 then -1073741824 else d.1;ret (if 1073741824<y0 then 1073741824 else y0,d.2)) (opt (jX uM uM d.2) λd=>opt (gy d.1 7 d.2 (cr 2 [1073741824, -536870912,44739243, -1491308,26631, -296,2]) true) λd=>let aqH:=wI (0-d.1);let y1:=if -1073741824>d.1 then -1073741824 else d.1;let y2:=if -1073741824>aqH then -1073741824 else aqH;ae (decide (y0<0)) (ret (if 1073741824<y2 then 1073741824 else y2,d.2)) (ret (if 1073741824<y1 then 1073741824 else y1,d.2)))) (ae (decide (ak< -1686629713)) (opt (dC y1) λaJ=>let y0:=wI (1686629713-aJ);ae (decide (aJ<=843314857)) (opt (jX y1 y1 d.2) λd=>opt (gy d.1 6 d.2 (cr (-27) [1073741824, -178956971,8947849, -213044,2959, -27]) true) λd=>opt (jX y1 d.1 d.2) λd=>let y0:=if -1073741824>d.1 then -1073741824 else d.1;ret (if 1073741824<y0 then 1073741824 else y0,d.2)) (opt (jX y0 y0 d.2) λd=>opt (gy d.1 7 d.2 (cr 2 [1073741824, -536870912,44739243, -1491308,26631, -296,2]) true) λd=>let y0:=wI (0-d.1);let aAk:=if -1073741824>d.1 then -1073741824 else d.1;let y2:=if -1073741824>y0 then -1073741824 else y0;ae (decide (y1<0)) (ret (if 1073741824<y2 then 1073741824 else y2,d.2)) (ret (if 1073741824<aAk then 1073741824 else aAk,d.2)))) (opt (dC ak) λaJ=>let y0:=wI (1686629713-aJ);ae (decide (aJ<=843314857)) (opt (jX ak ak d.2) λd=>opt (gy d.1 6 d.2 (cr (-27) [1073741824, -178956971,8947849, -213044,2959, -27]) true) λd=>opt (jX ak d.1 d.2) λd=>let y0:=if -1073741824>d.1 then -1073741824 else d.1;ret (if 1073741824<y0 then 1073741824 else y0,d.2)) (opt (jX y0 y0 d.2) λd=>opt (gy d.1 7 d.2 (cr 2 [1073741824, -536870912,44739243, -1491308,26631, -296,2]) true) λd=>let y0:=wI (0-d.1);let y1:=if -1073741824>d.1 then -1073741824 else d.1;let y2:=if -1073741824>y0 then -1073741824 else y0;ae (decide (ak<0)) (ret (if 1073741824<y2 then 1073741824 else y2,d.2)) (ret (if 1073741824<y1 then 1073741824 else y1,d.2)))))
def ni:=λx0 x1=>(alM aO lr yK GU lS x0 x1).val
theorem aOh:∀ay dq dC jX gy,D0 [dy ay,CM dq,aef dC,aoW jX,WO gy] 79 aAi (lf agN) λb=>alM ay dq dC jX gy b.1 b.2:=λ_ _ _ _ _ b=>by kernel_rfl
theorem Rl [aA]:SC (K7 ni):=s0 (.c dF (.c GS (.c aoV (.c ayj (.c alL (.nil _)))))) (aOh aO lr yK GU lS)
def aAl:=qa (pr (cu aQ jo) bL)
def agO:=qe qN
abbrev aAm:=agO.B
abbrev Rm:=Int->Bool->Option aAm
def Rn (g:Rm):Ct:=(80,FC aAl (lf agO) (λb=>g b.1 b.2))
def alN (dq:zm)(eP:K6)(x0:Int)(x1:Bool):Pg aAm:=opt (dq x0) λd=>opt (eP (wI (1686629713+d)) x1) λd=>ret d
def qG:=λx0 x1=>(alN lr ni x0 x1).val
theorem aOi:∀dq eP,D0 [CM dq,K7 eP] 80 aAl (lf agO) λb=>alN dq eP b.1 b.2:=λ_ _ b=>by kernel_rfl
theorem aae [aA]:SC (Rn qG):=s0 (.c GS (.c Rl (.nil _))) (aOi lr ni)
def aqI:=qa (pr (cu aQ Cw) bL)
def WU:=qe qN
abbrev aqJ:=WU.B
abbrev ach:=Int->Int->Bool->Option aqJ
def aci (g:ach):Ct:=(257,FC aqI (lf WU) (λb=>g b.1.1 b.1.2 b.2))
def acj (ay:bV)(dC:OP)(aE:cN)(jX:aeg)(gy:WN)(x0:Int)(x1:Int)(x2:Bool):Pg aqJ:=opt (ay x0 x2) λd=>let y0:=decide (d.1<0);opt (ay x1 d.2) λak=>let uM:=decide (ak.1<0);opt (dC d.1) λaJ=>opt (dC ak.1) λbB=>let aqH:=if bB>aJ then bB else aJ;opt (dC d.1) λcK=>opt (dC ak.1) λeU=>ae (aqH==0) (ret (0,ak.2)) (opt (aE (if eU<cK then eU else cK) aqH 30 ak.2) λde=>ae (decide (de.1>444758426)) (opt (aE (wI (de.1-1073741824)) (wI (de.1+1073741824)) 30 de.2) λlG=>opt (jX lG.1 lG.1 lG.2) λtP=>opt (gy tP.1 12 tP.2 (cr (-46684427) [1073741824, -357913941,214748365, -153391689,119304647, -97612893,82595525, -71582788,63161284, -56512728,51130563, -46684427]) true) λp8=>opt (jX lG.1 p8.1 p8.2) λmM=>let aaf:=wI (843314857+mM.1);let y1:=wI (3373259426-aaf);let y2:=wI (1686629713-aaf);let y3:=wI (3373259426-y2);opt (dC d.1) λd=>opt (dC ak.1) λxZ=>ae (decide (d>xZ)) (ae uM (ae y0 (ret (wI (0-y3),mM.2)) (ret (y3,mM.2))) (ae y0 (ret (wI (0-y2),mM.2)) (ret (y2,mM.2)))) (ae uM (ae y0 (ret (wI (0-y1),mM.2)) (ret (y1,mM.2))) (ae y0 (ret (wI (0-aaf),mM.2)) (ret (aaf,mM.2))))) (opt (jX de.1 de.1 de.2) λlG=>opt (gy lG.1 12 lG.2 (cr (-46684427) [1073741824, -357913941,214748365, -153391689,119304647, -97612893,82595525, -71582788,63161284, -56512728,51130563, -46684427]) true) λtP=>opt (jX de.1 tP.1 tP.2) λp8=>let aaf:=wI (0+p8.1);let y1:=wI (1686629713-aaf);let y2:=wI (3373259426-aaf);let y3:=wI (3373259426-y1);opt (dC d.1) λd=>opt (dC ak.1) λmM=>ae (decide (d>mM)) (ae uM (ae y0 (ret (wI (0-y3),p8.2)) (ret (y3,p8.2))) (ae y0 (ret (wI (0-y1),p8.2)) (ret (y1,p8.2)))) (ae uM (ae y0 (ret (wI (0-y2),p8.2)) (ret (y2,p8.2))) (ae y0 (ret (wI (0-aaf),p8.2)) (ret (aaf,p8.2))))))
def v7:=λx0 x1 x2=>(acj aO yK bh GU lS x0 x1 x2).val
theorem aHC:∀ay dC aE jX gy,D0 [dy ay,aef dC,gL aE,aoW jX,WO gy] 257 aqI (lf WU) λb=>acj ay dC aE jX gy b.1.1 b.1.2 b.2:=λ_ _ _ _ _ b=>by kernel_rfl
theorem aqK [aA]:SC (aci v7):=s0 (.c dF (.c aoV (.c ix (.c ayj (.c alL (.nil _)))))) (aHC aO yK bh GU lS)
def aqL:=qa (pr (cu aQ Cw) bL)
def WV:=qe qN
abbrev aqM:=WV.B
abbrev dg:=Int->Int->Bool->Option aqM
def iy (g:dg):Ct:=(212,FC aqL (lf WV) (λb=>g b.1.1 b.1.2 b.2))
def II (ay:bV)(x0:Int)(x1:Int)(x2:Bool):Pg aqM:=opt (ay x0 x2) λd=>opt (ay x1 d.2) λak=>opt (ay (wI (d.1-ak.1)) ak.2) λd=>ret d
def bS:=λx0 x1 x2=>(II aO x0 x1 x2).val
theorem aHD:∀ay,D0 [dy ay] 212 aqL (lf WV) λb=>II ay b.1.1 b.1.2 b.2:=λ_ b=>by kernel_rfl
theorem jD [aA]:SC (iy bS):=s0 (.c dF (.nil _)) (aHD aO)
def aFH:=qa (pr (cu aQ (c afH HR)) bL)
def alO:=qe axt
abbrev aFI:=alO.B
abbrev Kk:=Int->Int->Int->Int->Int->Int->Bool->Option aFI
def WW (g:Kk):Ct:=(181,FC aFH (lf alO) (λb=>g b.1.1.1 b.1.1.2.1 b.1.1.b b.1.2.1 b.1.b.1 b.1.b.2 b.2))
def atd (aY:dg)(x0:Int)(x1:Int)(x2:Int)(x3:Int)(x4:Int)(x5:Int)(x6:Bool):Pg aFI:=opt (aY x0 x3 x6) λd=>opt (aY x1 x4 d.2) λak=>opt (aY x2 x5 ak.2) λaJ=>ret ((d.1,ak.1,aJ.1),aJ.2)
def uo:=λx0 x1 x2 x3 x4 x5 x6=>(atd bS x0 x1 x2 x3 x4 x5 x6).val
theorem aRV:∀aY,D0 [iy aY] 181 aFH (lf alO) λb=>atd aY b.1.1.1 b.1.1.2.1 b.1.1.b b.1.2.1 b.1.b.1 b.1.b.2 b.2:=λ_ b=>by kernel_rfl
theorem agP [aA]:SC (WW uo):=s0 (.c jD (.nil _)) (aRV bS)
def avj:=qa (pr (cu aQ (c afH jo)) bL)
def ack:=qe axt
abbrev avk:=ack.B
abbrev Vj:=Int->Int->Int->Int->Bool->Option avk
def Vk (g:Vj):Ct:=(157,FC avj (lf ack) (λb=>g b.1.1.1 b.1.1.2.1 b.1.1.b b.1.2 b.2))
def agQ (aB:bR)(x0:Int)(x1:Int)(x2:Int)(x3:Int)(x4:Bool):Pg avk:=opt (aB x0 x3 30 x4) λd=>opt (aB x1 x3 30 d.2) λak=>opt (aB x2 x3 30 ak.2) λaJ=>ret ((d.1,ak.1,aJ.1),aJ.2)
def sD:=λx0 x1 x2 x3 x4=>(agQ aU x0 x1 x2 x3 x4).val
theorem aLf:∀aB,D0 [fg aB] 157 avj (lf ack) λb=>agQ aB b.1.1.1 b.1.1.2.1 b.1.1.b b.1.2 b.2:=λ_ b=>by kernel_rfl
theorem agR [aA]:SC (Vk sD):=s0 (.c fK (.nil _)) (aLf aU)
def aqN:=qa (dp (cu aQ axm) λa=>(c xY (cl (cl (gs a.1 oC) nil) nil)))
def WX:=qe aKj
abbrev aqO:=WX.B
abbrev As:=Nat->Bool->NI->Bool->Option aqO
def IJ (g:As):Ct:=(135,vX 1 [.i .i64] (FC aqN (lf WX) (λb=>g b.1.1 b.2.1 b.b b.1.2)))
def rA:=qs (st (pr (cu aQ (us 4 (cu azy (us 6 (c Ix (c ai (cl ai (us 19 nil)))))))) (pl (c bD (c HS abA)) bK)))
def aiI:=qs (st (pr (cu aQ (us 4 (cu azy (us 6 (c Ix (c ai (c ai (cl ab (us 18 nil))))))))) (pl (c bD (c HS abA)) bK)))
abbrev Jy:=aiI.B
def aiJ {ρ:Type}:=@ef Jy ((.ex 0)) aiI ρ
def uq (ay:bV)(cT:o6)(zn:th)(d:rA.B):PL rA Jy:=let y0:=decide (d.1.2.2<d.1.2.1);ae y0 (ae (aZ d.1.2.2 d.1.1.1) (opt (ay (d.2.2.1.2 (z4 d.1.2.2)) d.2.1) λak=>opt (cT ak.1 ak.1) λaJ=>opt (zn 2 (λj=>bif z9 j 1 then aJ.1 else bif z9 j 0 then d.2.2.2.1 else d.2.2.2.1) (λj=>bif z9 j 1 then aJ.2 else bif z9 j 0 then d.2.2.2.2 else d.2.2.2.2) true) λbB=>ret (w7 ((d.1.1,d.1.2.1,wI (d.1.2.2+1)),ak.2,d.2.2.1,bB.1))) no) (ret (ww ((d.1.1,d.1.2.1,d.1.2.2,y0),d.2)))
def DN:=bG (uq aO fP kU) 2000
def Qx (K3:aab)(dX:LT rA Jy)(x0:Nat)(x1:Bool)(x2:Nat->Int)(w0:Bool):Pg aqO:=let y0:=if 64<ws x0 then 64 else ws x0;let y1:=z4 y0;ae (HA y0 x0) (opt (dX (((y1,w0&&false),ws y1,0),x1,(x0,x2),0,0)) λd=>opt (K3 d.2.2.2.1 d.2.2.2.2 d.2.1) λd=>ret d) no
def cw:=λx0 x1 x2 w0=>(Qx v5 DN x0 x1 x2 w0).val
abbrev Qy:=bV×o6×th×aab×(LT rA Jy)
def acm (p:Qy):KK:=⟨[dy p.1,ze p.2.1,K5 p.b.1,alC p.b.2.1],⟨[⟨3,(rg 1 4 (rg 6 6 (rg 15 19 []))),[]⟩],[fU 3 2 rA aiJ p.c],[0],[],(some ⟨0,(rg 0 4 (rg 5 29 [])),[]⟩)⟩,2,135⟩
theorem ayl (p:Qy):LI (acm p) 3 rA aiJ (uq p.1 p.2.1 p.b.1):=λ_ d c K=>by kernel_rfl
theorem aHE (p:Qy):D2 (acm p) aqN (lf WX) λb=>Qx p.b.2.1 p.c b.1.1 b.2.1 b.b b.1.2:=λb=>by kernel_rfl
abbrev acn:Qy:=(aO,fP,kU,v5,DN)
theorem Qz [aA]:SC (IJ cw):=sc (Sound.nil 1 [.i .i64]<|kS (k:=acm acn) (.c dF (.c Cc (.c Rk (.c aAc (.nil _))))) [3] [] ⟨kL (ayl acn),trivial⟩ trivial (aHE acn))
def aAn:=qa (pr (cu aQ HR) bL)
def agS:=qe qN
abbrev aAo:=agS.B
abbrev Ce:=Int->Int->Int->Bool->Option aAo
def Ro (g:Ce):Ct:=(158,FC aAn (lf agS) (λb=>g b.1.1 b.1.2.1 b.1.b b.2))
def alP (kM:As)(x0:Int)(x1:Int)(x2:Int)(x3:Bool):Pg aAo:=opt (kM 3 x3 (cr x0 [x2,x1,x0]) false) λd=>ret d
def o7:=λx0 x1 x2 x3=>(alP cw x0 x1 x2 x3).val
theorem aOj:∀kM,D0 [IJ kM] 158 aAn (lf agS) λb=>alP kM b.1.1 b.1.2.1 b.1.b b.2:=λ_ b=>by kernel_rfl
theorem aag [aA]:SC (Ro o7):=s0 (.c Qz (.nil _)) (aOj cw)
def aFJ:=qa (pr (cu aQ HR) bL)
def alQ:=qe axt
abbrev aFK:=alQ.B
abbrev OR:=Int->Int->Int->Bool->Option aFK
def agT (g:OR):Ct:=(211,FC aFJ (lf alQ) (λb=>g b.1.1 b.1.2.1 b.1.b b.2))
def ate (ay:bV)(x0:Int)(x1:Int)(x2:Int)(x3:Bool):Pg aFK:=opt (ay x0 x3) λd=>opt (ay x1 d.2) λak=>opt (ay x2 ak.2) λaJ=>ret ((d.1,ak.1,aJ.1),aJ.2)
def At:=λx0 x1 x2 x3=>(ate aO x0 x1 x2 x3).val
theorem aRW:∀ay,D0 [dy ay] 211 aFJ (lf alQ) λb=>ate ay b.1.1 b.1.2.1 b.1.b b.2:=λ_ b=>by kernel_rfl
theorem atf [aA]:SC (agT At):=s0 (.c dF (.nil _)) (aRW aO)
def aAp:=qa (pr (cu aQ asv) bL)
def agU:=qe axv
abbrev aAq:=agU.B
abbrev Rp:=Int->Int->Int->Int->Bool->Option aAq
def aah (g:Rp):Ct:=(134,FC aAp (lf agU) (λb=>g b.1.1 b.1.2.1 b.1.b.1 b.1.b.2 b.2))
def p9:=qs (st (pr (cu aQ (us 2 (cu apX (cu azz (us 1 aQg))))) (pl (c bD (cl yc (cu akM nil))) bK)))
def aqP:=qs (st (pr (cu aQ (us 2 (cu apX (cu azz aXt)))) (pl (c bD (cl yc (cu akM nil))) bK)))
abbrev IK:=aqP.B
def aqQ {ρ:Type}:=@ef IK ((.ex 0)) aqP ρ
def aco (ay:bV)(d:p9.B):PL p9 IK:=let n1:=d.2.2;let n3:=n1.2.1;let n2:=n1.2.2;let y0:=aZ d.1 4;let y1:=d.1==3;let y2:=d.1==2;let y3:=d.1==1;let y4:=wI (d.1+1);let y5:=decide (d.1<4);ae y5 (ae y0 (ae y1 (opt (ay n2.2 d.2.1) λak=>ae y0 (ae y1 (ret (w7 (y4,ak.2,n1.1,n3,n2.1,ak.1))) (ae y2 (ret (w7 (y4,ak.2,n1.1,n3,ak.1,n2.2))) (ae y3 (ret (w7 (y4,ak.2,n1.1,ak.1,n2))) (ret (w7 (y4,ak.2,ak.1,n1.2)))))) no) (ae y2 (opt (ay n2.1 d.2.1) λak=>ae y0 (ae y1 (ret (w7 (y4,ak.2,n1.1,n3,n2.1,ak.1))) (ae y2 (ret (w7 (y4,ak.2,n1.1,n3,ak.1,n2.2))) (ae y3 (ret (w7 (y4,ak.2,n1.1,ak.1,n2))) (ret (w7 (y4,ak.2,ak.1,n1.2)))))) no) (ae y3 (opt (ay n3 d.2.1) λak=>ae y0 (ae y1 (ret (w7 (y4,ak.2,n1.1,n3,n2.1,ak.1))) (ae y2 (ret (w7 (y4,ak.2,n1.1,n3,ak.1,n2.2))) (ae y3 (ret (w7 (y4,ak.2,n1.1,ak.1,n2))) (ret (w7 (y4,ak.2,ak.1,n1.2)))))) no) (opt (ay n1.1 d.2.1) λak=>ae y0 (ae y1 (ret (w7 (y4,ak.2,n1.1,n3,n2.1,ak.1))) (ae y2 (ret (w7 (y4,ak.2,n1.1,n3,ak.1,n2.2))) (ae y3 (ret (w7 (y4,ak.2,n1.1,ak.1,n2))) (ret (w7 (y4,ak.2,ak.1,n1.2)))))) no)))) no) (ret (ww ((d.1,y5),d.2)))
def El:=bG (aco aO) 2000
def alR (dX:LT p9 IK)(x0:Int)(x1:Int)(x2:Int)(x3:Int)(x4:Bool):Pg aAq:=opt (dX (0,x4,x0,x1,x2,x3)) λd=>ret (d.2.2,d.2.1)
def qH:=λx0 x1 x2 x3 x4=>(alR El x0 x1 x2 x3 x4).val
abbrev aai:=bV×(LT p9 IK)
def alS (p:aai):KK:=⟨[dy p.1],⟨[⟨2,(1::2::5::rg 7 11 []),[]⟩],[fU 2 1 p9 aqQ p.2],[0],[],(some ⟨0,(rg 0 4 (rg 5 13 [])),[]⟩)⟩,1,134⟩
theorem aFL (p:aai):LI (alS p) 2 p9 aqQ (aco p.1):=λ_ d c K=>by kernel_rfl
theorem aOk (p:aai):D2 (alS p) aAp (lf agU) λb=>alR p.2 b.1.1 b.1.2.1 b.1.b.1 b.1.b.2 b.2:=λb=>by kernel_rfl
abbrev alT:aai:=(aO,El)
theorem alU [aA]:SC (aah qH):=sc (kS (k:=alS alT) (.c dF (.nil _)) [2] [] ⟨kL (aFL alT),trivial⟩ trivial (aOk alT))
def aAr:=qa (pu nil nil)
def agV:=qe (res (pu (aa (cu asr asw)) (pu nil nil)))
abbrev alV:=agV.B
abbrev Cf:=Option alV
def K8 (g:Cf):Ct:=(84,FC aAr (lf agV) (λ_=>g))
def alW:Pg alV:=ret ()
def o8:Option alV:=(alW).val
theorem aOl:D0 [] 84 aAr (lf agV) λb=>alW:=λb=>by kernel_rfl
theorem Rr [aA]:SC (K8 o8):=s0 (.nil _) aOl
def avl:=qa (pl asv nil)
def acp:=qe aXM
abbrev avm:=acp.B
abbrev Ml:=Int->Int->Int->Int->Option avm
def agW (g:Ml):Ct:=(182,FC avl (lf acp) (λb=>g b.1 b.2.1 b.b.1 b.b.2))
def agX (qI:Rp)(x0:Int)(x1:Int)(x2:Int)(x3:Int):Pg avm:=opt (qI x0 x1 x2 x3 false) λd=>ret (d.1.1,wI (0-d.1.2.1),wI (0-d.1.2.2.1),wI (0-d.1.2.2.2))
def CN:=λx0 x1 x2 x3=>(agX qH x0 x1 x2 x3).val
theorem aLg:∀qI,D0 [aah qI] 182 avl (lf acp) λb=>agX qI b.1 b.2.1 b.b.1 b.b.2:=λ_ b=>by kernel_rfl
theorem avn [aA]:SC (agW CN):=s0 (.c alU (.nil _)) (aLg qH)
def aqR:=qa (pl afN nil)
def WY:=qe aXG
abbrev aqS:=WY.B
abbrev mG:=NI->Int->Option aqS
def sE (g:mG):Ct:=(154,FC aqR (lf WY) (λb=>g b.1 b.2))
def o9:=qs (st (pr (us 1 (c ai (cu apY (us 1 (cu aM3 (cu ZE (us 2 aQh))))))) (pl (c lN akN) nil)))
def aiK:=qs (st (pr (us 1 (c ai (cu apY (us 1 (cu aM3 (cu ZE (us 2 aJ4))))))) (pl (c lN akN) nil)))
abbrev DO:=aiK.B
def aiL {ρ:Type}:=@ef DO ((.ex 0)) aiK ρ
def Te (d:o9.B):PL o9 DO:=let n4:=d.2.2;let n3:=d.2.1;let n2:=d.1.1;let n1:=d.1.2;let y0:=wI (n2+n1);let y1:=decide (n1<3);ae y1 (ae (decide (y0>=0)) (ae (decide (y0<24)) (ae (aZ y0 24) (ae (aZ n1 3) (ae (n1==2) (ret (w7 ((n2,wI (n1+1)),n3,n4.1,n4.2.1,n3 (z4 y0)))) (ae (n1==1) (ret (w7 ((n2,wI (n1+1)),n3,n4.1,n3 (z4 y0),n4.2.2))) (ret (w7 ((n2,wI (n1+1)),n3,n3 (z4 y0),n4.2))))) no) no) (ret (w7 ((n2,wI (n1+1)),d.2)))) (ret (w7 ((n2,wI (n1+1)),d.2)))) (ret (ww ((n2,n1,y1),d.2)))
def Tf:=bG (Te) 2000
def acq (dX:LT o9 DO)(x0:Nat->Int)(x1:Int):Pg aqS:=opt (dX ((x1,0),x0,0,0,0)) λd=>ret d.2.2
def fh:=λx0 x1=>(acq Tf x0 x1).val
abbrev QA:=(LT o9 DO)
def acr (p:QA):KK:=⟨[],⟨[⟨3,(0::3::6::7::rg 9 8 (rg 19 8 [17,18])),[]⟩],[fU 3 0 o9 aiL p],[],[],(some ⟨0,(rg 0 4 (rg 5 22 [])),[]⟩)⟩,0,154⟩
theorem aym (p:QA):LI (acr p) 3 o9 aiL (Te):=λ_ d c K=>by kernel_rfl
theorem aHF (p:QA):D2 (acr p) aqR (lf WY) λb=>acq p b.1 b.2:=λb=>by kernel_rfl
abbrev acs:QA:=Tf
theorem v8 [aA]:SC (sE fh):=sc (kS (k:=acr acs) (.nil _) [3] [] ⟨kL (aym acs),trivial⟩ trivial (aHF acs))
def aqT:=qa (dp (c lk aXr) λa=>(cl (cl (gs a.b.1 oC) nil) nil))
def WZ:=qe aXN
abbrev IL:=WZ.B
abbrev Au:=NI->Int->Nat->NI->Bool->Option IL
def Em (g:Au):Ct:=(32,vX 2 [.i .i64] (FC aqT (lf WZ) (λb=>g b.1.1 b.1.2.1 b.1.b.1 b.2 b.1.b.2)))
def pd:=qs (st (dp (us 1 (c ai (c J4 (cu NT (us 2 (cu AT (us 3 (c J4 (c ai aQh))))))))) λa=>(pl (c (so (cl (gs a.2.1.1 oC) nil)) J6) nil)))
def aCn:=qs (st (pr (us 1 (c ai (c J4 (cu NT (us 2 (cu AT (us 3 (c J4 (c ai aJ4))))))))) (pl (c HS J6) nil)))
abbrev DP:=(aWQ×NI×NI×NI)
def aiM {ρ:Type}(x:DP)(K:AX->St->Option ρ):Option ρ:=(λd=>K (.ex 0) (aCn.em (d.1,(d.1.2.1.1,d.2.1),d.b))) x
def Tg (d:pd.B):PL pd DP:=let n2:=d.1.2.2;let n3:=n2.2.2;let n1:=(d.1.1,d.1.2.1,n2.1,n2.2.1,wI (n3+1));let y0:=wI (d.1.1+n3);let y1:=z4 y0;let y2:=decide (n3<n2.2.1);ae y2 (ae (aZ n3 n2.1.1) (ae (decide (y0>=0)) (ae (decide (y0<24)) (ae (aZ y0 24) (ae (true&&wr (0+y1*1+1) 24) (ret (w7 (n1,d.2.1,λj=>bif z9 j y1 then d.2.1 (z4 n3) else d.2.2.1 j,d.2.2.2))) no) no) (ret (w7 (n1,d.2)))) (ret (w7 (n1,d.2)))) no) (ret (ww ((d.1.1,d.1.2.1,n2.1,n2.2.1,n3,y2),d.2)))
def Th:=bG (Tg) 2000
def acu (dX:LT pd DP)(x0:Nat->Int)(x1:Int)(x2:Nat)(x3:Nat->Int)(w0:Bool):Pg IL:=ae (z9 x2 x2) (opt (dX ((x1,(x2,w0),(x2,w0),ws x2,0),x3,x0,λx=>0)) λd=>ret d.2.2.1) no
def fk:=λx0 x1 x2 x3 w0=>(acu Th x0 x1 x2 x3 w0).val
abbrev QB:=(LT pd DP)
def acv (p:QB):KK:=⟨[],⟨[⟨2,(0::4::5::7::8::9::rg 13 10 (rg 25 6 [23,24])),[]⟩],[fU 2 1 pd aiM p],[],[],(some ⟨0,(rg 0 6 (rg 7 24 [])),[]⟩)⟩,1,32⟩
theorem ayn (p:QB):LI (acv p) 2 pd aiM (Tg):=λ_ d c K=>by kernel_rfl
theorem aHG (p:QB):D2 (acv p) aqT (lf WZ) λb=>acu p b.1.1 b.1.2.1 b.1.b.1 b.2 b.1.b.2:=λb=>by kernel_rfl
abbrev acw:QB:=Th
theorem IM [aA]:SC (Em fk):=sc (Sound.nil 2 [.i .i64]<|kS (k:=acv acw) (.nil _) [2] [] ⟨kL (ayn acw),trivial⟩ trivial (aHG acw))
end Go.Proofs.YtldgljclcgaibaaGreat
