/-
  Parts of the proof: SLB SLC SLD SLE SLF SLH Q1
-/
import Derived.Test.YtldgljclcgaibaaGreatZAE
import Derived.Shelf.Spec.SlicesInsertGrow
open Nat renaming beq→ww,ble→wd,blt→v6
open Int renaming toNat→ws,ofNat→wl,fdiv→ul,tdiv→t7
open Sum renaming inl→wr,inr→wn,elim→t8
open BitVec renaming ofInt→v9,toNat→v4
open List renaming append→t9,range→rx
set_option linter.all false
namespace Go.Proofs.YtldgljclcgaibaaGreat
open Go.RowKit Go.Lib Go.Ab
theorem ZM {P:Program}(w:World)(dT sT ty e:TypeId)(z b o aSQ a3f:Nat)(a:Addr)(aND a0U:Nat)(cs:List Value)(hu:P.underlying dT=some (.slice e))(hz:jf P e=some z)(hn:cs.length=Nat.min aND aSQ*z)
  (a3g:∀j v,cs[j]? =some v->w.cell? (a.add j)=some v)(hc:∀j,j<cs.length->(w.cell? ⟨b,o+j,none⟩).isSome=true)(hf:∀j,j<cs.length->w.frozen? ⟨b,o+j,none⟩=false)(h1:∀v∈cs,v.oneCell'=true):
  (Builtin.copy_ #[dT,sT] ty #[.slice (some ⟨b,o,none⟩) aSQ a3f,.slice (some a) aND a0U]).run P w=.ok (goInt (Nat.min aND aSQ)) (w.setCells b o cs):=by
 have hl:=run_firstCells_some (P:=P) w z (Nat.min aND aSQ) a aND a0U cs hn a3g;have hst:=run_storeCells_cells (P:=P) b o cs 0 w (by simpa using hc) (by simpa using hf) h1;simp[Builtin.copy_,run_underlying hu,Builtin.lenOf,Ab.run_sizeOf hz,hl,hst]
theorem uT:Tryz.prog.underlying 140=some (.slice 42):=by kernel_rfl
theorem uE:jf Tryz.prog 42=some 9:=by kernel_rfl
set_option maxHeartbeats 4000000 in
set_option maxRecDepth 100000 in
theorem aRa (b off n c i vb Dh vc:Nat)(cs vs:List Value)(w:World)(hi:i<n)(Sx:n+1<=c)(hvb:vb=b->Dh+9<=off∨off+(n+1)*9<=Dh)(Ef:cs.length=n*9)(hvl:vs.length=9)(a5v:n+1<=9223372036854775807)
  (JU:∀j v,cs[j]? =some v->w.cell? ⟨b,off+j,none⟩=some v)(hsp:∀j,j<(n+1)*9->(w.cell? ⟨b,off+j,none⟩).isSome=true)(hfz:∀j,j<(n+1)*9->w.frozen? ⟨b,off+j,none⟩=false)
  (hvs:∀j v,vs[j]? =some v->w.cell? ⟨vb,Dh+j,none⟩=some v)(h1c:∀v∈cs,v.oneCell'=true)(h1v:∀v∈vs,v.oneCell'=true)
  (hov:∀cb,(callFunc 145 #[.slice (some ⟨vb,Dh,none⟩) 1 vc,.slice (some ⟨b,off+(i+1)*9,none⟩) (n-i) cb]).run Tryz.prog w=.ok (.value (.bool false)) w):
  Calls Tryz.prog 97 #[.slice (some ⟨b,off,none⟩) n c,.int .i64 i,.slice (some ⟨vb,Dh,none⟩) 1 vc] w λe w'=>
   e=.returned (.slice (some ⟨b,off,none⟩) (n+1) c)/\w'=(w.drew.setCells b (off+(i+1)*9) (cs.drop (i*9))).setCells b (off+i*9) vs:=by
 have mixed:=mixed;have hz2:¬((i:Int)=(n:Int)):=by omega
 have hdl:(cs.drop (i*9)).length=(n-i)*9:=by rw[asm,Ef];omega
 have hw1:IntKind.i64.wrap ((i:Int)+1)=(i:Int)+1:=by rw[IntKind.wrap_i64];omega
 have hw2:IntKind.i64.wrap ((n:Int)+1)=(n:Int)+1:=by rw[IntKind.wrap_i64];omega
 have hb1:(0:Int)<=(i:Int)+1:=by omega
 have hin:i<=n:=by omega
 have htn:((i:Int)+1).toNat=i+1:=by omega
 have Fb:¬(c=i+1):=by omega
 have hb3:(i:Int)<=(n:Int)+1:=by omega
 have hb4:¬(c=i):=by omega
 have hb5:¬((c:Int)<(n:Int)+1):=by omega
 have a0V:∀ty dc sc,(Builtin.copy_ #[140,140] ty #[.slice (some ⟨b,off+(i+1)*9,none⟩) (n-i) dc,.slice (some ⟨b,off+i*9,none⟩) (n+1-i) sc]).run Tryz.prog w.drew=.ok (goInt (Nat.min (n+1-i) (n-i))) (w.drew.setCells b (off+(i+1)*9) (cs.drop (i*9))):=λty dc sc=>
  ZM w.drew _ _ ty 42 9 b (off+(i+1)*9) (n-i) dc ⟨b,off+i*9,none⟩ (n+1-i) sc (cs.drop (i*9)) uT uE (by rw[hdl];simp only[Nat.min_def];split<;>omega)
   (λj v hj=>by rw[Addr.add_lit,BI];exact JU (i*9+j) v (by rwa [Sp] at hj))
   (λj hj=>by rw[BI];exact hsp _ (by omega)) (λj hj=>by rw[BI];exact hfz _ (by omega)) (λv hv=>h1c v (List.mem_of_mem_drop hv))
 obtain⟨W1,hW1⟩:∃W1,W1=w.drew.setCells b (off+(i+1)*9) (cs.drop (i*9)):=⟨_,rfl⟩
 have a3h:∀k,k<(n+1)*9->(W1.cell? ⟨b,off+k,none⟩).isSome=true:=λk hk=>by
  rw[hW1];exact Go.Proofs.isSome_setCells b _ _ _ (λj hj=>by rw[BI];exact hsp _ (by omega)) _ (hsp k hk)
 have a3i:∀(W:World),(∀x,W.cell? x=W1.cell? x)->(∀x,W.frozen? x=W1.frozen? x)->∀ty dc,(Builtin.copy_ #[140,140] ty #[.slice (some ⟨b,off+i*9,none⟩) (n+1-i) dc,.slice (some ⟨vb,Dh,none⟩) 1 vc]).run Tryz.prog W=.ok (goInt (Nat.min 1 (n+1-i))) (W.setCells b (off+i*9) vs):=λW hWc hWf ty dc=>
  ZM W _ _ ty 42 9 b (off+i*9) (n+1-i) dc ⟨vb,Dh,none⟩ 1 vc vs uT uE (by rw[hvl];simp only[Nat.min_def];split<;>omega)
   (λj v hj=>by
    have hj9:=(mi.1 hj).1
    rw[Addr.add_lit,hWc,hW1,World.cell?_setCells_out b _ _ _ _ (λh _=>by
     have:=hvb h;show Dh+j<_∨_<=Dh+j;omega)]
    exact hvs j v hj)
   (λj hj=>by rw[hWc,BI];exact a3h _ (by omega)) (λj hj=>by rw[hWf,hW1,World.frozen?_setCells,BI];exact hfz _ (by omega)) h1v
 rw[<-hW1] at a0V;go_enter Tryz.func97,Tryz.ntmps97
 go_wp2_with (simp only[hov])
 go_region_law_o (refine step_copy_runI rfl _ _ 140 140 rfl _ _ (by simp[Act.eval,Act.put]) (by simp[Act.eval,Act.put]) (a0V _ _ _) ?_)
 go_wp2_with (at_builtin;refine wpList_copy_runI _ rfl _ _ 140 140 rfl _ _ rfl rfl (a3i _ (λ_=>rfl) (λ_=>rfl) _ _) ?_)
 go_ret
 first|exact⟨rfl,rfl⟩|exact⟨rfl,by rw[hW1]⟩
set_option maxHeartbeats 4000000 in
set_option maxRecDepth 100000 in
theorem aNE (base:Option Addr)(n c vb Dh vc:Nat)(w w2:World)(v2:Value)
  (hrz:∀ty,(Builtin.append_ #[140,140] ty #[.slice base n c,.slice (some ⟨vb,Dh,none⟩) 1 vc]).run Tryz.prog w=.ok v2 w2):
  Calls Tryz.prog 97 #[.slice base n c,.int .i64 n,.slice (some ⟨vb,Dh,none⟩) 1 vc] w λe w'=>e=.returned v2/\w'=w2:=by
 have mixed:=mixed;go_enter Tryz.func97,Tryz.ntmps97
 go_wp2_with (at_builtin;refine Lib.wpList_append_run _ rfl _ _ _ _ rfl _ _ rfl rfl _ _ (hrz _) ?_)
 all_goals (go_ret;exact⟨rfl,rfl⟩)
theorem iE:∃i z,Tryz.prog.info? 42=some i/\i.zero=some z/\i.size=9/\i.bytes=72/\z.cells.size=9:=by
 have h:(Tryz.prog.info? 42).map (λi=>(i.size,i.bytes,(i.zero.map λz=>z.cells.size)))=some (9,72,some 9):=by kernel_rfl
 cases hi:Tryz.prog.info? 42 with
 |none=>rw[hi] at h;cases h
 |some i=>
  rw[hi] at h;simp only[Sq,je,qU] at h;obtain⟨h1,h2,h3⟩:=h;cases hz:i.zero with
  |none=>rw[hz] at h3;cases h3
  |some z=>rw[hz] at h3;exact⟨i,z,rfl,hz,h1,h2,by simpa using h3⟩
theorem uI:Tryz.prog.underlying 3=some (.int .i64):=by kernel_rfl
set_option maxHeartbeats 4000000 in
set_option maxRecDepth 100000 in
theorem aTM (b off n c i vb Dh vc:Nat)(cs vs:List Value)(w:World)(hi:i<n)(hnc:n<=c)(Sx:c<n+1)(azk:(n+1)*72<=140737488355328)(Ef:cs.length=n*9)(hvl:vs.length=9)
  (JU:∀j v,cs[j]? =some v->w.cell? ⟨b,off+j,none⟩=some v)(hvs:∀j v,vs[j]? =some v->w.cell? ⟨vb,Dh+j,none⟩=some v)(h1c:∀v∈cs,v.oneCell'=true)(h1v:∀v∈vs,v.oneCell'=true):
  ∃G Di,n+1<=G/\Di.size=G*9/\(∀j v,j<i*9->cs[j]? =some v->Di[j]? =some v)/\
  Calls Tryz.prog 97 #[.slice (some ⟨b,off,none⟩) n c,.int .i64 i,.slice (some ⟨vb,Dh,none⟩) 1 vc] w λe w'=>
   e=.returned (.slice (some ⟨w.heap.size,0,none⟩) (n+1) G)/\
   w'=(((w.alloc (.cells Di 42)).drew.setCells w.heap.size (i*9) vs).drew).setCells w.heap.size ((i+1)*9) (cs.drop (i*9)):=by
 have mixed:=mixed;obtain⟨i0,z0,hi0,NK,hzs,hzb,hzl⟩:=iE;have hz2:¬((i:Int)=(n:Int)):=by omega
 have hz3:(c:Int)<(n:Int)+1:=by omega
 have hbw:b<w.heap.size:=block_lt_of_cell (JU 0 _ (lq (by omega)));have hvw:vb<w.heap.size:=block_lt_of_cell (hvs 0 _ (lq (by omega)));have hkk:(n:Int)+1-(i:Int)=((n+1-i:Nat):Int):=by omega
 have hik:i+(n+1-i)=n+1:=by omega
 have htl:(cs.take (i*9)).length=i*9:=by rw[List.length_take];omega
 have hold:(Builtin.firstCells i0.size i (.slice (some ⟨b,off,none⟩) i c)).run Tryz.prog w.drew=.ok (cs.take (i*9)).toArray w.drew:=by
  rw[hzs]
  exact run_firstCells_some w.drew 9 i ⟨b,off,none⟩ i c (cs.take (i*9)) htl (λj v hj=>by
   rw[Addr.add_lit];rw[abb] at hj;split at hj
   .exact JU j v hj
   .cases hj)
 have hrz:∀ty,(Builtin.append_ #[140,3] ty #[.slice (some ⟨b,off,none⟩) i c,.int .i64 ((n:Int)+1-(i:Int))]).run Tryz.prog w=
   .ok (.slice (some ⟨w.heap.size,0,none⟩) (n+1) (grownCap w (n+1) c 42)) (w.drew.alloc (.cells ((cs.take (i*9)).toArray++Builtin.zeroCells z0.cells (n+1-i)++Builtin.zeroCells z0.cells (grownCap w (n+1) c 42-(n+1))) 42)):=λty=>by
  have h:=Lib.run_append_grow_zeros w 140 3 ty 42 i0 _ .i64 .i64 uT uI hi0 NK (some ⟨b,off,none⟩) i c (cs.take (i*9)) hold (n+1-i) (by omega) (by omega) (by omega) (by omega) (by rw[hzb];omega) (by rw[hzb,hik];exact growslice_fits Sx azk);rw[hik] at h;rw[hkk];exact h
 have hGn:n+1<=grownCap w (n+1) c 42:=grownCap_ge w _ _ _;obtain⟨G,hG⟩:∃G,G=grownCap w (n+1) c 42:=⟨_,rfl⟩;obtain⟨Di,aSR⟩:∃Di:Array Value,Di=(cs.take (i*9)).toArray++Builtin.zeroCells z0.cells (n+1-i)++Builtin.zeroCells z0.cells (G-(n+1)):=⟨_,rfl⟩;rw[<-hG] at hrz hGn;rw[<-aSR] at hrz
 have hRs:Di.size=G*9:=by
  rw[aSR];simp only[Array.size_append,List.size_toArray,htl,size_zeroCells,hzl];omega
 refine⟨G,Di,hGn,hRs,λj v hj hv=> ?_,?_⟩
 .rw[aSR,Array.getElem?_append_left (by simp[htl];omega),Array.getElem?_append_left (by simp[htl];omega)];simp only[List.getElem?_toArray];rw[abb,if_pos hj];exact hv
 have hRl:(n+1)*9<=Di.size:=by rw[hRs];exact wC _ hGn
 obtain⟨W1,hW1⟩:∃W1,W1=w.drew.alloc (.cells Di 42):=⟨_,rfl⟩;rw[<-hW1] at hrz
 have hN:∀j,j<(n+1)*9->(W1.cell? ⟨w.heap.size,j,none⟩).isSome=true:=λj hj=>by
  rw[hW1,World.cell?_alloc_at (w:=w.drew) Di _ w.heap.size j rfl,ah6 (by omega)];rfl
 have hNf:∀j,W1.frozen? ⟨w.heap.size,j,none⟩=false:=λj=>by rw[hW1];exact World.frozen?_alloc_at (w:=w.drew) Di _ w.heap.size j rfl
 have hOb:∀j v,w.cell? ⟨b,j,none⟩=some v->W1.cell? ⟨b,j,none⟩=some v:=λj v h=>by rw[hW1,World.cell?_alloc_past (w:=w.drew) _ b j hbw];exact h
 have hOv:∀j v,w.cell? ⟨vb,j,none⟩=some v->W1.cell? ⟨vb,j,none⟩=some v:=λj v h=>by rw[hW1,World.cell?_alloc_past (w:=w.drew) _ vb j hvw];exact h
 have a3j:∀(W:World),(∀x,W.cell? x=W1.cell? x)->(∀x,W.frozen? x=W1.frozen? x)->∀ty dc,(Builtin.copy_ #[140,140] ty #[.slice (some ⟨w.heap.size,i*9,none⟩) (n+1-i) dc,.slice (some ⟨vb,Dh,none⟩) 1 vc]).run Tryz.prog W=.ok (goInt (Nat.min 1 (n+1-i))) (W.setCells w.heap.size (i*9) vs):=λW hWc hWf ty dc=>
  ZM W _ _ ty 42 9 w.heap.size (i*9) (n+1-i) dc ⟨vb,Dh,none⟩ 1 vc vs uT uE (by rw[hvl];simp only[Nat.min_def];split<;>omega)
   (λj v hj=>by rw[Addr.add_lit,hWc];exact hOv _ v (hvs j v hj))
   (λj hj=>by rw[hWc];exact hN _ (by omega)) (λj hj=>by rw[hWf];exact hNf _) h1v
 have hGi:¬(G=i):=by omega
 have a5w:¬(G=i+1):=by omega
 have hci:¬(c=i):=by omega
 have hbN:b≠w.heap.size:=by omega
 have hdl:(cs.drop (i*9)).length=(n-i)*9:=by rw[asm,Ef];omega
 have a0W:∀(W:World),(∀x,W.cell? x=(W1.setCells w.heap.size (i*9) vs).cell? x)->(∀x,W.frozen? x=(W1.setCells w.heap.size (i*9) vs).frozen? x)->∀ty dc sc,(Builtin.copy_ #[140,140] ty #[.slice (some ⟨w.heap.size,(i+1)*9,none⟩) (n-i) dc,.slice (some ⟨b,off+i*9,none⟩) (n-i) sc]).run Tryz.prog W=.ok (goInt (Nat.min (n-i) (n-i))) (W.setCells w.heap.size ((i+1)*9) (cs.drop (i*9))):=λW hWc hWf ty dc sc=>
  ZM W _ _ ty 42 9 w.heap.size ((i+1)*9) (n-i) dc ⟨b,off+i*9,none⟩ (n-i) sc (cs.drop (i*9)) uT uE (by rw[hdl];simp only[Nat.min_def];split<;>omega)
   (λj v hj=>by
    rw[Addr.add_lit,hWc,World.cell?_setCells_out _ _ _ _ _ (λh _=>absurd h hbN),BI];exact hOb _ v (JU (i*9+j) v (by rwa [Sp] at hj)))
   (λj hj=>by rw[hWc];exact Go.Proofs.isSome_setCells _ _ _ _ (λt ht=>hN _ (by omega)) _ (hN _ (by omega)))
   (λj hj=>by rw[hWf,World.frozen?_setCells];exact hNf _) (λv hv=>h1c v (List.mem_of_mem_drop hv))
 subst hW1;have hE1:∀x,((w.alloc (.cells Di 42)).drew).cell? x=(w.drew.alloc (.cells Di 42)).cell? x:=λx=>rfl;have hE2:∀x,((w.alloc (.cells Di 42)).drew).frozen? x=(w.drew.alloc (.cells Di 42)).frozen? x:=λx=>rfl;have hF1:∀x,(((w.alloc (.cells Di 42)).drew.setCells w.heap.size (i*9) vs).drew).cell? x=((w.drew.alloc (.cells Di 42)).setCells w.heap.size (i*9) vs).cell? x:=λx=>rfl;have hF2:∀x,(((w.alloc (.cells Di 42)).drew.setCells w.heap.size (i*9) vs).drew).frozen? x=((w.drew.alloc (.cells Di 42)).setCells w.heap.size (i*9) vs).frozen? x:=λx=>rfl;have hw1:IntKind.i64.wrap ((i:Int)+1)=(i:Int)+1:=by rw[IntKind.wrap_i64];omega
 have hw2:IntKind.i64.wrap ((n:Int)+1)=(n:Int)+1:=by rw[IntKind.wrap_i64];omega
 have hw3:IntKind.i64.wrap ((n:Int)+1-(i:Int))=(n:Int)+1-(i:Int):=by rw[IntKind.wrap_i64];omega
 have hb1:(0:Int)<=(i:Int)+1:=by omega
 have hin:i<=n:=by omega
 have htn:((i:Int)+1).toNat=i+1:=by omega
 have hb3:(i:Int)<=(n:Int):=by omega
 clear hkk hik hold aSR hG hRl hRs
 go_enter Tryz.func97,Tryz.ntmps97
 go_wp2_with (first
  |(at_builtin;refine Lib.wpList_append_run _ rfl _ _ _ _ rfl _ _ rfl rfl _ _ (hrz _) ?_)
  |(at_builtin;refine wpList_copy_runI _ rfl _ _ 140 140 rfl _ _ rfl rfl (a3j _ hE1 hE2 _ _) ?_)
  |(at_builtin;refine wpList_copy_runI _ rfl _ _ 140 140 rfl _ _ rfl rfl (a0W _ (λ_=>rfl) (λ_=>rfl) _ _ _) ?_))
 go_region_law_o (refine step_copy_runI rfl _ _ 140 140 rfl (.slice (some ⟨w.heap.size,(i+1)*9,none⟩) (n-i) (G-(i+1))) (.slice (some ⟨b,off+i*9,none⟩) (n-i) (c-i)) (by simp[Act.eval,Act.put]) (by simp[Act.eval,Act.put]) (a0W _ hF1 hF2 3 (G-(i+1)) (c-i)) ?_)
 go_wp2
 go_ret
 exact⟨rfl,rfl⟩
theorem auz {P:Program}{ops:Array Oper}{o:Oper}{a:Act}{w:World}{K:Act->World->Prop}{Q:Exit->Act->World->Prop}{E:Prop}
  (hg:o.guard=none)(d x:Operand)(dT sT:TypeId)(pF:o.op=Op.call {callee:=Callee.builtin Builtin.append,args:=#[d,x],argTypes:=#[dT,sT]})
  (v u:Value)(hd:a.eval d=v)(hx:a.eval x=u){v':Value}{w':World}(hr:(Builtin.append_ #[dT,sT] o.type #[v,u]).run P w=.ok v' w')(hK:K (a.put o.dst v') w'):
  if Region.wanted o (yielded ops a.tmps)=true then Oper.wp P o a w K Q else E:=by
 have hw:Region.wanted o (yielded ops a.tmps)=true:=by simp[Region.wanted,hg]
 rw[if_pos hw];unfold Oper.wp;simp[execOp,pF,resolve,invoke,builtin,hd,hx,hr,Result.andThen]
 exact hK
theorem aEB {P:Program}(w:World){o:Oper}{a:Act}{K:Act->World->Prop}{Q:Exit->Act->World->Prop}(d:Operand)(t:TypeId)
  (ho:o.op=.call {callee:=.builtin .clear,args:=#[d],argTypes:=#[t]})(v:Value)(hd:a.eval d=v){v':Value}{w':World}
  (hr:(Builtin.clear_ #[t] o.type #[v]).run P w=.ok v' w')(h:K (a.put o.dst v') w'):o.wp P a w K Q:=by
 unfold Oper.wp execOp;simp only[ho,resolve,invoke,builtin,Sem.run_bind,Sem.run_pure,Result.andThen_ok,List.map_toArray,List.map_cons,List.map_nil,hd,hr];exact h
theorem asJ {P:Program}(w:World){ops:Array Oper}{rest:List Oper}{o:Oper}{a:Act}{Q:Exit->Act->World->Prop}(hgd:o.guard=none)(d:Operand)(t:TypeId)
  (ho:o.op=.call {callee:=.builtin .clear,args:=#[d],argTypes:=#[t]})(v:Value)(hd:a.eval d=v){v':Value}{w':World}
  (hr:(Builtin.clear_ #[t] o.type #[v]).run P w=.ok v' w')(h:wpList P ops Q rest (a.put o.dst v') w'):wpList P ops Q (o::rest) a w:=
 wpList_plain hgd λ_ hK=>aEB w d t ho v hd hr (hK _ _ h)
set_option maxHeartbeats 4000000 in
set_option maxRecDepth 100000 in
theorem aIj (base:Option Addr)(n c i:Nat)(w:World)(hi:i<=n)(hc:n<=c):
  Calls Tryz.prog 98 #[.slice base n c,.int .i64 i,.int .i64 i] w λe w'=>e=.returned (.slice base n c)/\w'=w:=by
 have mixed:=mixed;have h1:(i:Int)<=(n:Int):=by omega
 have h2:(n:Int)<=(c:Int):=by omega
 go_enter Tryz.func98,Tryz.ntmps98
 go_wp2
 all_goals (go_ret;exact⟨rfl,rfl⟩)
set_option maxHeartbeats 4000000 in
set_option maxRecDepth 100000 in
theorem aTN (b off n c i j:Nat)(w w2 w3:World)(hij:i<j)(hj:j<=n)(hc:n<=c)
  (hrz:∀ty,(Builtin.append_ #[140,140] ty #[.slice (some ⟨b,off,none⟩) i c,.slice (some (if c=j then⟨b,off,none⟩ else⟨b,off+j*9,none⟩)) (n-j) (c-j)]).run Tryz.prog w.drew=.ok (.slice (some ⟨b,off,none⟩) (i+(n-j)) c) w2)
  (Ef:∀ty,(Builtin.clear_ #[140] ty #[.slice (some ⟨b,off+(i+(n-j))*9,none⟩) (n-(i+(n-j))) (c-(i+(n-j)))]).run Tryz.prog w2=.ok (.tuple #[]) w3):
  Calls Tryz.prog 98 #[.slice (some ⟨b,off,none⟩) n c,.int .i64 i,.int .i64 j] w λe w'=>e=.returned (.slice (some ⟨b,off,none⟩) (i+(n-j)) c)/\w'=w3:=by
 have mixed:=mixed;have h0:¬((i:Int)=(j:Int)):=by omega
 have h1:(i:Int)<=(j:Int):=by omega
 have h2:(j:Int)<=(n:Int):=by omega
 have h3:(n:Int)<=(c:Int):=by omega
 have h4:(i:Int)<=(c:Int):=by omega
 have h5:¬(c=i+(n-j)):=by omega
 go_enter Tryz.func98,Tryz.ntmps98
 go_wp2
 go_region_law_o (refine auz rfl _ _ 140 140 rfl _ _ (by simp[Act.eval,Act.put]) (by simp[Act.eval,Act.put];split<;>rfl) (hrz _) ?_)
 go_wp2_with (at_builtin;refine asJ _ rfl _ 140 rfl _ rfl (Ef _) ?_)
 all_goals (go_ret;exact⟨rfl,rfl⟩)
set_option maxHeartbeats 4000000 in
set_option maxRecDepth 100000 in
theorem aRb (w:World):Calls Tryz.prog 166 #[.slice none 0 0] w λe w'=>e=.returned (.slice none 0 0)/\w'=w:=by
 have mixed:=mixed;have heq:∀w:World,(Go.binOp .eql 140 (.slice none 0 0) (.slice none 0 0)).run Tryz.prog w=.ok (.bool true) w:=λw=>by kernel_rfl
 go_enter Tryz.func166,Tryz.ntmps166
 go_wp2
 go_ret
 exact⟨rfl,rfl⟩
set_option maxHeartbeats 4000000 in
set_option maxRecDepth 100000 in
theorem azz (a:Addr)(n c:Nat)(w w2:World)(v2:Value)
  (hrz:∀ty,(Builtin.append_ #[140,140] ty #[.slice (some ⟨w.heap.size,0,none⟩) 0 0,.slice (some a) n c]).run Tryz.prog (w.alloc (.cells #[] 42))=.ok v2 w2):
  Calls Tryz.prog 166 #[.slice (some a) n c] w λe w'=>e=.returned v2/\w'=w2:=by
 have mixed:=mixed;have heq:∀w:World,(Go.binOp .eql 140 (.slice (some a) n c) (.slice none 0 0)).run Tryz.prog w=.ok (.bool false) w:=λw=>by kernel_rfl
 go_enter Tryz.func166,Tryz.ntmps166
 go_wp2_with (at_builtin;refine Lib.wpList_append_run _ rfl _ _ _ _ rfl _ _ rfl rfl _ _ (hrz _) ?_)
 go_ret
 exact⟨rfl,rfl⟩
end Go.Proofs.YtldgljclcgaibaaGreat
namespace Go.Ab
def fB (l:List (Nat->Int)):List cT:=l.map (cT.i .i64)
def Ff (i:Nat)(g v:Nat->Int):Nat->Int:=λj=>cond (v6 j i) (g j) (cond (ww j i) (v 0) (g (j-1)))
def KO (i d:Nat)(g:Nat->Int):Nat->Int:=λj=>cond (v6 j i) (g j) (g (j+d))
theorem Bq {l:List (Nat->Int)}(h:l.length=9)(J:Nat):∃g,l[J%9]? =some g/\jg (fB l) J=.f (.i .i64 (g (J/9))):=by
 have om:J%9<l.length:=by rw[h];exact Nat.mod_lt _ (by omega)
 refine⟨l[J%9],lq om,?_⟩;unfold jg fB;rw[afu,h,BH,lq om];rfl
theorem aTO {l m:List (Nat->Int)}(hl:l.length=9)(hm:m.length=9)(i J:Nat):
  jg (fB (List.zipWith (Ff i) l m)) J=if J<i*9 then jg (fB l) J else if J<(i+1)*9 then jg (fB m) (J-i*9) else jg (fB l) (J-9):=by
 obtain⟨g,hg,eg⟩:=Bq hl J;obtain⟨v,hv,_⟩:=Bq hm J;obtain⟨z,hz,ez⟩:=Bq (l:=List.zipWith (Ff i) l m) (by simp[hl,hm]) J;have hz2:(List.zipWith (Ff i) l m)[J%9]? =some (Ff i g v):=by simp[List.getElem?_zipWith,hg,hv]
 rw[hz2] at hz;cases hz;rw[ez];by_cases h1:J<i*9
 .rw[if_pos h1,eg];have:v6 (J/9) i=true:=uC.2 (by omega);simp only[Ff,this,bz]
 .rw[if_neg h1];have e1:v6 (J/9) i=false:=afG (by omega);by_cases h2:J<(i+1)*9
  .rw[if_pos h2];have e2:ww (J/9) i=true:=beq_iff.2 (by omega);obtain⟨v',hv',ev⟩:=Bq hm (J-i*9);have e3:(J-i*9)%9=J%9:=by omega
   have e4:(J-i*9)/9=0:=by omega
   rw[e3,hv] at hv';cases hv';rw[ev,e4];simp only[Ff,e1,e2,bz,bH]
  .rw[if_neg h2];have e2:ww (J/9) i=false:=beq_false (by omega);obtain⟨g',hg',ev⟩:=Bq hl (J-9);have e3:(J-9)%9=J%9:=by omega
   have e4:(J-9)/9=J/9-1:=by omega
   rw[e3,hg] at hg';cases hg';rw[ev,e4];simp only[Ff,e1,e2,bH]
theorem aIk {l:List (Nat->Int)}(hl:l.length=9)(i d J:Nat):
  jg (fB (l.map (KO i d))) J=if J<i*9 then jg (fB l) J else jg (fB l) (J+d*9):=by
 obtain⟨g,hg,eg⟩:=Bq hl J;obtain⟨z,hz,ez⟩:=Bq (l:=l.map (KO i d)) (by simp[hl]) J;have hz2:(l.map (KO i d))[J%9]? =some (KO i d g):=by simp[hg]
 rw[hz2] at hz;cases hz;rw[ez];by_cases h1:J<i*9
 .rw[if_pos h1,eg];have:v6 (J/9) i=true:=uC.2 (by omega);simp only[KO,this,bz]
 .rw[if_neg h1];have e1:v6 (J/9) i=false:=afG (by omega);obtain⟨g',hg',ev⟩:=Bq hl (J+d*9);have e3:(J+d*9)%9=J%9:=by omega
  have e4:(J+d*9)/9=J/9+d:=by omega
  rw[e3,hg] at hg';cases hg';rw[ev,e4];simp only[KO,e1,bH]
theorem QY {l:List (Nat->Int)}(h:l.length=9)(n:Nat):af.size [.a (.s n) (fB l)]=n*9:=by
 rw[af.size_cons,af.mb,Sg.mf,kP];show n*(fB l).length=n*9;unfold fB;rw[afu,h]
theorem asK {l:List (Nat->Int)}(h:l.length=9){n j:Nat}(hj:j<n*9):af.get [.a (.s n) (fB l)] j=jg (fB l) j:=by
 rw[af.dX (by rw[Sg.mf];unfold fB;rw[afu,h];exact hj),Sg.py]
theorem aNF [ax]{π:Pi}{w:World}{B s N:Nat}{c:Nat->CV}(h:∀j,j<N->∃v,cl w B (s+j)=some v/\(c j).rel π v):
  ∃cs:List Value,cs.length=N/\(∀j v,cs[j]? =some v->w.cell? ⟨B,s+j,none⟩=some v/\(c j).rel π v)/\∀v∈cs,v.oneCell'=true:=by
 have key:∀j v,((rx N).map λj=>(cl w B (s+j)).getD undef)[j]? =some v->w.cell? ⟨B,s+j,none⟩=some v/\(c j).rel π v:=λj v hv=>by
  have hj:j<N:=by
   have:=(mi.1 hv).1;simpa using this
  obtain⟨u,hu,hr⟩:=h j hj;simp[hj,hu] at hv
  subst hv;exact⟨hu,hr⟩
 refine⟨(rx N).map λj=>(cl w B (s+j)).getD undef,by simp,key,λv hv=> ?_⟩;obtain⟨i,hi⟩:=axf.1 hv;exact CV.QV (key i v hi).2
theorem aIl {w:World}{B i:Nat}{v:Value}(h:w.cell? ⟨B,i,none⟩=some v):∃t k,w.shape? B=some (t,k)/\k≠0:=by
 unfold World.cell? at h;simp only at h;cases hh:w.heap[B]? with
 |none=>rw[hh] at h;cases h
 |some x=>
  rw[hh] at h;cases x<;>simp only at h<;>first|(cases h;done)|skip
  rename_i cs t fz
  have:=(Array.getElem?_eq_some_iff.1 h).1;refine⟨t,cs.size,?_,by omega⟩;simp[World.shape?,hh]
variable [ax]
theorem ZN {P:Program}{π:Pi}{w W:World}{h:List af}{cs:List Ch}{out:List (Nat->Int)}{n cap B st q e b0:Nat}(ho:out.length=9)(hH:sJ π (hC (h.map some)) (hZ (h.map some)) w)(kK:∀b,π b≠none->b<h.length)
  (JU:∀b,b<h.length->cs[b]? =some .nc∨cs[b]? =some .kill)(QW:b0<h.length)(hk0:cs[b0]? =some .kill)(hp:π b0=some (B,st,q,e))(hfr:cv w (De π h.length (Sy cs)) W)
  (pZ:∀i,st<=i->i<e->(cl W B i).isSome=true/\fz W B i=false)(ham:AJ W)(hc:∀J,J<n*9->∃v,cl W B (st+J)=some v/\(jg (fB out) J).rel π v)(hn:n<=cap)(hce:st+cap*9<=e):
  aIg P π w h ⟨.r (.c (.sl h.length (.k 0) (.s n) 9 true)),cs,[[.a (.s n) (fB out)]]⟩ (.returned (.slice (some ⟨B,st,none⟩) n cap)) W:=by
 have yp:=QY ho n;have NK:hZ (h.map some) b0≠none:=by rw[Qe,lq QW];simp
 have nd:n*9<=cap*9:=wC _ hn;refine axJ (P:=P) (B:=B) (s:=st) (e:=e) hH kK JU hfr (by rw[yp];omega) pZ (λj hj=> ?_) (.inr ⟨b0,st,q,e,QW,hk0,hp,dq _,dq _⟩) ham (λBm=>hH.lb b0 B st q e NK hp Bm) λπ' hx uP=> ?_
 .rw[yp] at hj;rw[asK ho hj];exact hc j hj
 .rw[yp] at uP;exact⟨B,st,n*9,e,uP,by simp[cE.val,Sz.val],λ_=>by simp[cE.val,Sz.val],.inr ⟨cap,hn,rfl,λ_=>by simpa[cE.val] using hce⟩⟩
theorem ala {P:Program}{π:Pi}{w W:World}{h:List af}{cs:List Ch}{out:List (Nat->Int)}{n cap B:Nat}(ho:out.length=9)(hH:sJ π (hC (h.map some)) (hZ (h.map some)) w)(kK:∀b,π b≠none->b<h.length)
  (JU:∀b,b<h.length->cs[b]? =some .nc∨cs[b]? =some .kill)(hB:w.heap.size<=B)(hfr:cv w (De π h.length (Sy cs)) W)
  (pZ:∀i,i<cap*9->(cl W B i).isSome=true/\fz W B i=false)(ham:AJ W)(hc:∀J,J<n*9->∃v,cl W B J=some v/\(jg (fB out) J).rel π v)(hn:n<=cap):
  aIg P π w h ⟨.r (.c (.sl h.length (.k 0) (.s n) 9 true)),cs,[[.a (.s n) (fB out)]]⟩ (.returned (.slice (some ⟨B,0,none⟩) n cap)) W:=by
 have yp:=QY ho n;have nd:n*9<=cap*9:=wC _ hn;refine axJ (P:=P) (B:=B) (s:=0) (e:=cap*9) hH kK JU hfr (by rw[yp];omega) (λi _ hi=>pZ i hi) (λj hj=> ?_) (.inl hB) ham (λBm=>cq hH.am.sz hB) λπ' hx uP=> ?_
 .rw[yp] at hj;rw[asK ho hj,gy];exact hc j hj
 .rw[yp] at uP;exact⟨B,0,n*9,cap*9,uP,by simp[cE.val,Sz.val],λ_=>by simp[cE.val,Sz.val],.inr ⟨cap,hn,rfl,λ_=>by simp[cE.val]⟩⟩
theorem alb {P:Program}{π:Pi}{w W:World}{h:List af}{cs:List Ch}{out:List (Nat->Int)}{a:Option Addr}(ho:out.length=9)(hH:sJ π (hC (h.map some)) (hZ (h.map some)) w)(kK:∀b,π b≠none->b<h.length)
  (JU:∀b,b<h.length->cs[b]? =some .nc∨cs[b]? =some .kill)(hfr:cv w (De π h.length (Sy cs)) W)(ham:AJ W):
  aIg P π w h ⟨.r (.c (.sl h.length (.k 0) (.s 0) 9 true)),cs,[[.a (.s 0) (fB out)]]⟩ (.returned (.slice a 0 0)) W:=by
 have yp:=QY ho 0;refine axJ (P:=P) (B:=w.heap.size) (s:=0) (e:=0) hH kK JU hfr (by rw[yp];omega) (λi _ hi=>by omega) (λj hj=>by rw[yp] at hj;omega) (.inl (dq _)) ham (λBm=>by omega) λπ' hx uP=> ?_;rw[yp] at uP;exact⟨w.heap.size,0,0*9,0,uP,by simp[cE.val,Sz.val],λ_=>by simp[cE.val,Sz.val],.inl ⟨rfl,a,rfl⟩⟩
theorem aCO {π:Pi}{w:World}{h:List af}{l:List (Nat->Int)}{n b B st q e:Nat}(hl:l.length=9)(hH:sJ π (hC (h.map some)) (hZ (h.map some)) w)(hb:h[b]? =some [.a (.s n) (fB l)])(hp:π b=some (B,st,q,e)):
  q=n*9/\st+n*9<=e/\(∀i,st<=i->i<e->(cl w B i).isSome=true/\fz w B i=false)/\∃cs:List Value,cs.length=n*9/\(∀j v,cs[j]? =some v->w.cell? ⟨B,st+j,none⟩=some v/\(jg (fB l) j).rel π v)/\∀v∈cs,v.oneCell'=true:=by
 have hz:hZ (h.map some) b=some (n*9):=by rw[Qe,hb];exact ck some (QY hl n)
 obtain⟨B',s',e',fy,Bm,k1,k2⟩:=hH.hp b _ hz;rw[hp] at fy;cases fy;refine⟨rfl,Bm,k1,aNF λj hj=> ?_⟩;obtain⟨v,hv,hr⟩:=k2 j hj;rw[aCL hb (by rw[QY hl];exact hj),asK hl hj] at hr;exact⟨v,hv,hr⟩
end Go.Ab
namespace Go.Proofs.YtldgljclcgaibaaGreat
open Go.RowKit Go.Lib Go.Ab
variable [ax]
omit [ax] in
theorem asL {P:Program}(w:World)(tS tR e:TypeId)(ht:P.underlying tS=some (.slice e))(size:Nat)(hz:∀w,(Go.sizeOf e).run P w=.ok size w)(B oa ob la ca lb cb:Nat)(hd:oa+la*size<=ob∨ob+lb*size<=oa):
  (Extern.SlicesOverlaps.overlaps #[tS,tS] #[tR] #[.slice (some ⟨B,oa,none⟩) la ca,.slice (some ⟨B,ob,none⟩) lb cb]).run P w=.ok (.bool false) w:=by
 change Sem.run P (α:=Value) (do
  let some t:=(#[tS,tS]:Array TypeId)[0]? |stuck "slices.overlaps: no parameter types"
  let .slice elem<-underlying t|stuck "slices.overlaps: slice type expected"
  let size<-sizeOf elem
  match(some ⟨B,oa,none⟩:Option Addr),(some ⟨B,ob,none⟩:Option Addr) with
  |some a,some b=>
   if la=0∨lb=0∨size=0 then pure (Value.bool false)
   else if a.block !=b.block&&(<-frozen a)&&(<-frozen b) then unsupported .addressObserved
   else do
    if a.block !=b.block then do
     noView a;noView b
     if<-mayBeOne a b then return Value.bool ((<-choose (.extern "sameAddr.stringBytes" 2))==1)
    pure (Value.bool (a.block==b.block&&a.off<b.off+lb*size&&b.off<a.off+la*size))
  |_,_=>pure (Value.bool false)) w=_
 by_cases h0:la=0∨lb=0∨size=0
 .simp[run_underlying ht,hz,h0]
 .simp[run_underlying ht,hz,h0,frozen,Sem.run]
  omega
omit [ax] in
theorem aKg {w:World}{vb Dh vc b o lb cb:Nat}(hd:vb=b->Dh+9<=o∨o+lb*9<=Dh){va vb2:Value}(ha:w.cell? ⟨vb,Dh,none⟩=some va)(hb:w.cell? ⟨b,o,none⟩=some vb2)(hfa:∀i,w.frozen? ⟨vb,i,none⟩=false):
  (callFunc 145 #[.slice (some ⟨vb,Dh,none⟩) 1 vc,.slice (some ⟨b,o,none⟩) lb cb]).run Tryz.prog w=.ok (.value (.bool false)) w:=by
 rw[run_callFunc_extern Tryz.func145 (by kernel_rfl) (by kernel_rfl) (by kernel_rfl) (e:=Extern.SlicesOverlaps.overlaps #[140,140] #[4]) (by kernel_rfl)];obtain⟨tA,kA,sA,_⟩:=aIl ha;obtain⟨tB,kB,sB,nB⟩:=aIl hb;by_cases nd:vb=b
 .subst nd;have h2:=hd rfl;rw[asL w 140 4 42 uT 9 (λw=>Ab.run_sizeOf uE w) vb Dh o 1 vc lb cb (by omega)];rfl
 .rw[Lib.run_overlaps_apart w 140 4 42 uT 9 (λw=>Ab.run_sizeOf uE w) ⟨vb,Dh,none⟩ ⟨b,o,none⟩ 1 vc lb cb nd tA tB kA kB sA sB nB (hfa Dh) (hfa kA)];rfl
end Go.Proofs.YtldgljclcgaibaaGreat
set_option maxRecDepth 100000
set_option maxHeartbeats 4000000
namespace Go.Proofs.YtldgljclcgaibaaGreat
open Go.RowKit Go.Lib Go.Ab
theorem aGn [ax]{gs vs9:List (Nat->Int)}(hg:gs.length=9)(hv9:vs9.length=9)(n i:Nat)(hi:i<=n)(azk:(n+1)*72<=140737488355328)(w2:Bool)(w:World)(π:Pi)(vs:Array Value)
  (lZ:bl (AV.rel π) [.r (.c (.sl 0 (.k 0) (.s n) 9 true)),.r (.c (.f (.i .i64 (i:Int)))),.r (.c (.sl 1 (.k 0) (.s 1) 9 w2))] vs.toList)
  (hH:sJ π (hC ([[.a (.s n) (fB gs)],[.a (.s 1) (fB vs9)]].map some)) (hZ ([[.a (.s n) (fB gs)],[.a (.s 1) (fB vs9)]].map some)) w)(kK:∀b,π b≠none->b<2):
  Calls Tryz.prog 97 vs w (tV π w [[.a (.s n) (fB gs)],[.a (.s 1) (fB vs9)]] ⟨.r (.c (.sl 2 (.k 0) (.s (n+1)) 9 true)),[.kill,.nc],[[.a (.s (n+1)) (fB (List.zipWith (Ff i) gs vs9))]]⟩):=by
 obtain⟨y1,y2,y3,hvt,r1,r2,r3⟩:∃y1 y2 y3,vs.toList=[y1,y2,y3]/\(AV.r (.c (.sl 0 (.k 0) (.s n) 9 true))).rel π y1/\(AV.r (.c (.f (.i .i64 (i:Int))))).rel π y2/\(AV.r (.c (.sl 1 (.k 0) (.s 1) 9 w2))).rel π y3:=by
  match hl:vs.toList,lZ with
  | [y1,y2,y3],⟨a,b,c,_⟩=>exact⟨y1,y2,y3,rfl,a,b,c⟩
  | [],h=>exact h.elim
  | [_],⟨_,h⟩=>exact h.elim
  | [_,_],⟨_,_,h⟩=>exact h.elim
  |_::_::_::_::_,⟨_,_,_,h⟩=>exact h.elim
 have hvt:vs=#[y1,y2,y3]:=by rw[<-akH];exact hvt
 subst hvt;have r2:y2=.int .i64 (i:Int):=r2;subst r2;obtain⟨B,st,q,e,hb,_,_,hx⟩:=r1;obtain⟨vB,vst,vq,ve,hvb,_,_,hvx⟩:=r3;obtain⟨rfl,hle,pZ,cs,Ef,JU,h1c⟩:=aCO (b:=0) hg hH rfl hb;obtain⟨rfl,a5x,a1L,vl,hvl,hvs,h1v⟩:=aCO (b:=1) hv9 hH rfl hvb
 obtain⟨ZO,a4w,rfl,_⟩:∃ZO,1<=ZO/\y3=.slice (some ⟨vB,vst,none⟩) 1 ZO/\True:=by
  rcases hvx with⟨h,_⟩| ⟨ZO,h1,h2,_⟩
  .cases h
  .exact⟨ZO,h1,h2,trivial⟩
 have NK:hZ ([[.a (.s n) (fB gs)],[.a (.s 1) (fB vs9)]].map some) 0≠none:=by simp[hZ]
 have hz1:hZ ([[.a (.s n) (fB gs)],[.a (.s 1) (fB vs9)]].map some) 1≠none:=by simp[hZ]
 have hfv:∀i,w.frozen? ⟨vB,i,none⟩=false:=λi=>hH.am.fr vB i (hH.lb 1 vB vst _ ve hz1 hvb (by omega))
 have ho:(List.zipWith (Ff i) gs vs9).length=9:=by simp[hg,hv9]
 have aic:∀b,b< [[Sg.a (.s n) (fB gs)],[.a (.s 1) (fB vs9)]].length->[Ch.kill,Ch.nc][b]? =some .nc∨[Ch.kill,Ch.nc][b]? =some .kill:=λb hb=>by
  match b,hb with
  |0,_=>exact .inr rfl
  |1,_=>exact .inl rfl
  |b+2,h=>exact absurd h (by simp)
 have hft:∀i,st<=i->i<e->De π 2 (Sy [.kill,.nc]) B i:=λi h1 h2=>⟨0,st,_,e,by omega,by simp[Sy],hb,h1,h2⟩
 have cont:∀(W:World) (B' s':Nat),(∀j v,j<i*9->cs[j]? =some v->cl W B' (s'+j)=some v)->(∀j v,vl[j]? =some v->cl W B' (s'+i*9+j)=some v)->(∀j v,i*9<=j->cs[j]? =some v->cl W B' (s'+(j+9))=some v)->
   ∀J,J<(n+1)*9->∃v,cl W B' (s'+J)=some v/\(jg (fB (List.zipWith (Ff i) gs vs9)) J).rel π v:=λW B' s' c1 c2 c3 J hJ=>by
  rw[aTO hg hv9];by_cases h1:J<i*9
  .rw[if_pos h1];have hj:cs[J]? =some (cs[J]'(by omega)):=lq _;exact⟨_,c1 J _ h1 hj,(JU J _ hj).2⟩
  .rw[if_neg h1];by_cases h2:J<(i+1)*9
   .rw[if_pos h2];have hj:vl[J-i*9]? =some (vl[J-i*9]'(by omega)):=lq _;have:=c2 _ _ hj;rw[show s'+i*9+(J-i*9)=s'+J by omega] at this;exact⟨_,this,(hvs _ _ hj).2⟩
   .rw[if_neg h2];have hj:cs[J-9]? =some (cs[J-9]'(by omega)):=lq _;have:=c3 _ _ (by omega) hj;rw[show s'+(J-9+9)=s'+J by omega] at this;exact⟨_,this,(JU _ _ hj).2⟩
 have hE:=iE;obtain⟨i0,z0,hi0,hzz,a3k,aX6,a3l⟩:=hE;have aX7:(Tryz.prog.info? 42).map (·.bytes)=some 72:=by rw[hi0];exact ck some aX6
 obtain⟨zv,hzv,aX8⟩:∃zv,AG Tryz.prog 42=some zv/\af.size zv.bR=9:=by
  have h:(AG Tryz.prog 42).map (λz=>af.size z.bR)=some 9:=by kernel_rfl
  cases hz:AG Tryz.prog 42 with
  |none=>rw[hz] at h;cases h
  |some z=>rw[hz] at h;exact⟨z,rfl,by simpa using h⟩
 have asD:∀(base:Option Addr) (cap:Nat) (Ha:List Value),i=n->Ha=cs->cap<n+1->n<=cap->((base=none/\n=0/\cap=0)∨∃b,base=some b/\∀j v,Ha[j]? =some v->w.cell? (b.add j)=some v)->
   y1=.slice base n cap->Calls Tryz.prog 97 #[y1,.int .i64 (i:Int),.slice (some ⟨vB,vst,none⟩) 1 ZO] w (tV π w [[.a (.s n) (fB gs)],[.a (.s 1) (fB vs9)]] ⟨.r (.c (.sl 2 (.k 0) (.s (n+1)) 9 true)),[.kill,.nc],[[.a (.s (n+1)) (fB (List.zipWith (Ff i) gs vs9))]]⟩):=by
  intro base cap Ha hin holds rS a4x hs hy;subst hin holds
  obtain⟨gc,arr,oB,hgc,yp,rest,afU⟩:∃gc arr,(∀ty,(Builtin.append_ #[140,140] ty #[.slice base i cap,.slice (some ⟨vB,vst,none⟩) 1 ZO]).run Tryz.prog w=.ok (.slice (some ⟨w.heap.size,0,none⟩) (i+1) gc) (w.drew.alloc (.cells arr 42)))/\i+1<=gc/\arr.size=gc*9/\∃rest,arr.toList=Ha++vl++rest:=by
   obtain⟨gc,arr,oB,h2,h3,h4⟩:=I1 (P:=Tryz.prog) (ty:=0) uT uE aX7 hzv aX8 (by omega) (sv:=.slice base i cap) (n:=i) (cap:=cap) (m:=1) (c:=ZO) (ad:=⟨vB,vst,none⟩) (Ha:=Ha) (news:=vl) w (by
    rcases hs with⟨rfl,h1,h2⟩| ⟨b,rfl,h3⟩
    .exact .inl ⟨by rw[h1,h2],h1,h2⟩
    .exact .inr ⟨b,rfl,h3⟩) Ef (by rw[hvl]) (λj v hj=>by rw[Addr.add_lit];exact(hvs j v hj).1) rS (by omega) azk
   exact⟨gc,arr,λty=>by unfold Builtin.append_ at oB ⊢;exact oB,h2,h3,h4⟩
  have hC:=aNE base i cap vB vst ZO w _ _ oB;rw[hy];refine Calls.mono hC ?_;rintro ev W ⟨rfl,rfl⟩
  have aIm:∀j,cl (w.drew.alloc (.cells arr 42)) w.heap.size j=arr[j]? :=λj=>World.cell?_alloc_at (w:=w.drew) arr _ w.heap.size j rfl
  refine ala (P:=Tryz.prog) ho hH kK aic (dq _) (((cv.refl w _).drew).alloc _ _) (λk hk=>⟨by rw[aIm,ah6 (by omega)];rfl,World.frozen?_alloc_at (w:=w.drew) arr _ w.heap.size k rfl⟩) ((hH.am.same (w':=w.drew) rfl).alloc _ _) (λJ hJ=> ?_) hgc;have:=cont (w.drew.alloc (.cells arr 42)) w.heap.size 0 (λj v hj hv=>by rw[gy,aIm];exact(Vz afU).1 hv) (λj v hv=>by rw[gy,aIm,<-Ef];exact(Vz afU).2 hv) (λj v hj hv=>by have:=(mi.1 hv).1;omega) J hJ;rwa [gy] at this
 rcases hx with⟨h0,a,rfl⟩| ⟨cap,rS,rfl,hce⟩
 ·
  have h0:n=0:=h0;subst h0;have a3m:i=0:=by omega
  subst a3m;cases a with
  |none=>exact asD none 0 cs rfl rfl (by omega) (by omega) (.inl ⟨rfl,rfl,rfl⟩) rfl
  |some b=>
   have a3n:cs=[]:=List.eq_nil_of_length_eq_zero (by omega);exact asD (some b) 0 cs rfl rfl (by omega) (by omega) (.inr ⟨b,rfl,λj v hj=>by rw[a3n] at hj;simp at hj⟩) rfl
 .have rS:n<=cap:=rS;have hce:st+cap*9<=e:=by have:=hce rfl;simpa[cE.val] using this
  show Calls Tryz.prog 97 #[.slice (some ⟨B,st,none⟩) n cap,.int .i64 (i:Int),.slice (some ⟨vB,vst,none⟩) 1 ZO] w _;by_cases Sx:n+1<=cap
  .have a4h:(n+1)*9<=cap*9:=wC _ Sx
   have aXy:vB=B->vst+9<=st∨st+(n+1)*9<=vst:=λh=>by
    subst h;rcases px vst (st+(n+1)*9) with h1|h1
    .left
     rcases px st (vst+9) with h2|h2
     .exfalso
      rcases px st vst with h3|h3
      .exact hH.dj 0 1 _ st _ e vst _ ve (by omega) NK hz1 hb hvb vst (by omega) (by omega) (dq _) (by omega)
      .exact hH.dj 0 1 _ st _ e vst _ ve (by omega) NK hz1 hb hvb st (dq _) (by omega) h3 (by omega)
     .omega
    .exact .inr h1
   by_cases hin:i=n
   ·
    subst hin;have hC:=aNE (some ⟨B,st,none⟩) i cap vB vst ZO w _ _ (λty=>LJ (P:=Tryz.prog) (ty:=ty) uT uE (B:=B) (q:=st) (n:=i) (cap:=cap) (m:=1) (c:=ZO) (ad:=⟨vB,vst,none⟩) (news:=vl) Sx (by rw[hvl]) w (λj v hj=>by rw[Addr.add_lit];exact(hvs j v hj).1) h1v (λj hj=>pZ _ (by omega) (by omega)));refine Calls.mono hC ?_;rintro ev W ⟨rfl,rfl⟩
    have a0X:∀j,j<vl.length->(cl w B (st+i*9+j)).isSome=true:=λj hj=>(pZ _ (by omega) (by omega)).1
    refine ZN (P:=Tryz.prog) (q:=i*9) ho hH kK aic (by simp) rfl hb ((cv.refl w _).setCells (.inr λj hj=>hft _ (by omega) (by omega))) (λk k1 k2=>⟨Ab.isSome_setCells a0X (pZ k k1 k2).1,by rw[pE];exact(pZ k k1 k2).2⟩) (hH.am.setCells λ_=>hH.lb 0 B st _ e NK hb (by omega)) (cont _ B st (λj v hj hv=> ?_) (λj v hv=> ?_) (λj v hj hv=>by have:=(mi.1 hv).1;omega)) Sx hce
    .rw[eU (λ_=>by omega)];exact(JU j v hv).1
    .have hjl:=(mi.1 hv).1;rw[oo a0X hjl];rw[lq hjl] at hv;exact hv
   ·
    have hC:=aRa B st n cap i vB vst ZO cs vl w (by omega) Sx aXy Ef hvl (by omega) (λj v hj=>(JU j v hj).1) (λj hj=>(pZ _ (by omega) (by omega)).1) (λj hj=>(pZ _ (by omega) (by omega)).2) (λj v hj=>(hvs j v hj).1) h1c h1v
     (λcb=>by
      obtain⟨va,hva⟩:=Option.isSome_iff_exists.1 (a1L vst (dq _) (by omega)).1;obtain⟨vb2,a3o⟩:=Option.isSome_iff_exists.1 (pZ (st+(i+1)*9) (by omega) (by omega)).1;exact aKg (λh=>by have:=aXy h;omega) hva a3o hfv)
    refine Calls.mono hC ?_;rintro ev W ⟨rfl,rfl⟩
    have hdl:(cs.drop (i*9)).length=(n-i)*9:=by rw[asm,Ef];omega
    have i1:∀j,j<(cs.drop (i*9)).length->(cl w.drew B (st+(i+1)*9+j)).isSome=true:=λj hj=>(pZ _ (by omega) (by omega)).1
    have i2:∀j,j<vl.length->(cl (w.drew.setCells B (st+(i+1)*9) (cs.drop (i*9))) B (st+i*9+j)).isSome=true:=λj hj=>Ab.isSome_setCells i1 (pZ _ (by omega) (by omega)).1
    have hlb:=hH.lb 0 B st _ e NK hb (by omega)
    refine ZN (P:=Tryz.prog) (q:=n*9) ho hH kK aic (by simp) rfl hb ((((cv.refl w _).drew).setCells (.inr λj hj=>hft _ (by omega) (by omega))).setCells (.inr λj hj=>hft _ (by omega) (by omega)))
     (λk k1 k2=>⟨Ab.isSome_setCells i2 (Ab.isSome_setCells i1 (pZ k k1 k2).1),by rw[pE,pE];exact(pZ k k1 k2).2⟩) (((hH.am.same (w':=w.drew) rfl).setCells λ_=>hlb).setCells λ_=>hlb) (cont _ B st (λj v hj hv=> ?_) (λj v hv=> ?_) (λj v hj hv=> ?_)) Sx hce
    .rw[eU (λ_=>by omega),eU (λ_=>by omega)];exact(JU j v hv).1
    .have hjl:=(mi.1 hv).1;rw[oo i2 hjl];rw[lq hjl] at hv;exact hv
    .have hjl:=(mi.1 hv).1;rw[eU (λ_=>by omega)];have mj:j-i*9<(cs.drop (i*9)).length:=by omega
     have:=oo i1 mj;rw[show st+(i+1)*9+(j-i*9)=st+(j+9) by omega] at this;rw[this,<-lq,Sp,show i*9+(j-i*9)=j by omega];exact hv
  .by_cases hin:i=n
   .exact asD (some ⟨B,st,none⟩) cap cs hin rfl (by omega) rS (.inr ⟨_,rfl,λj v hj=>by rw[Addr.add_lit];exact(JU j v hj).1⟩) rfl
   .obtain⟨G,Di,hG,yp,htk,hC⟩:=aTM B st n cap i vB vst ZO cs vl w (by omega) rS (by omega) azk Ef hvl (λj v hj=>(JU j v hj).1) (λj v hj=>(hvs j v hj).1) h1c h1v;refine Calls.mono hC ?_;rintro ev W ⟨rfl,rfl⟩
    have hG9:(n+1)*9<=G*9:=wC _ hG;have hdl:(cs.drop (i*9)).length=(n-i)*9:=by rw[asm,Ef];omega
    have c0:∀j,cl (w.alloc (.cells Di 42)).drew w.heap.size j=Di[j]? :=λj=>World.cell?_alloc_at (w:=w) Di _ w.heap.size j rfl
    have s0:∀j,j<G*9->(cl (w.alloc (.cells Di 42)).drew w.heap.size j).isSome=true:=λj hj=>by rw[c0,ah6 (by omega)];rfl
    have i1:∀j,j<vl.length->(cl (w.alloc (.cells Di 42)).drew w.heap.size (i*9+j)).isSome=true:=λj hj=>s0 _ (by omega)
    have i2:∀j,j<(cs.drop (i*9)).length->(cl ((w.alloc (.cells Di 42)).drew.setCells w.heap.size (i*9) vl).drew w.heap.size ((i+1)*9+j)).isSome=true:=λj hj=>Ab.isSome_setCells i1 (s0 _ (by omega))
    have hlb:ax.h0<=w.heap.size:=hH.am.sz;have am1:AJ (w.alloc (.cells Di 42)).drew:=(hH.am.alloc Di 42).same (w':=(w.alloc (.cells Di 42)).drew) rfl;have am2:AJ ((w.alloc (.cells Di 42)).drew.setCells w.heap.size (i*9) vl).drew:=(am1.setCells λ_=>hlb).same (w':=((w.alloc (.cells Di 42)).drew.setCells w.heap.size (i*9) vl).drew) rfl;have f1:cv w (De π 2 (Sy [.kill,.nc])) ((w.alloc (.cells Di 42)).drew.setCells w.heap.size (i*9) vl).drew:=((((cv.refl w _).alloc Di 42).drew).setCells (.inl (dq _))).drew;refine ala (P:=Tryz.prog) ho hH kK aic (dq _) (f1.setCells (.inl (dq _))) (λk hk=>⟨Ab.isSome_setCells i2 (Ab.isSome_setCells i1 (s0 k hk)),?_⟩) (am2.setCells λ_=>hlb) (λJ hJ=> ?_) hG
    .rw[pE];exact(pE (w:=(w.alloc (.cells Di 42)).drew)).trans (World.frozen?_alloc_at (w:=w) Di _ w.heap.size k rfl)
    .have:=cont (((w.alloc (.cells Di 42)).drew.setCells w.heap.size (i*9) vl).drew.setCells w.heap.size ((i+1)*9) (cs.drop (i*9))) w.heap.size 0 (λj v hj hv=> ?_) (λj v hv=> ?_) (λj v hj hv=> ?_) J hJ
     .rwa [gy] at this
     .rw[gy,eU (λ_=>by omega)];exact(eU (w:=(w.alloc (.cells Di 42)).drew) (λ_=>by omega)).trans ((c0 j).trans (htk j v hj hv))
     .have hjl:=(mi.1 hv).1;rw[gy,eU (λ_=>by omega)];have:=oo i1 hjl;rw[lq hjl] at hv;exact this.trans hv
     .have hjl:=(mi.1 hv).1;have mj:j-i*9<(cs.drop (i*9)).length:=by omega
      have:=oo i2 mj;rw[show(i+1)*9+(j-i*9)=j+9 by omega] at this;rw[gy,this,<-lq,Sp,show i*9+(j-i*9)=j by omega];exact hv
theorem zS [ax]:∃z,(∀w,(Go.zeroValue 42).run Tryz.prog w=.ok z w)/\z.cells.size=9/\∀v∈z.cells.toList,v.oneCell'=true:=by
 have h:(Tryz.prog.info? 42).map (λi=>i.zero.map λz=>(z.cells.size,z.cells.toList.all λv=>v.oneCell'))=some (some (9,true)):=by kernel_rfl
 obtain⟨zv,hzv⟩:∃zv,AG Tryz.prog 42=some zv:=by
  have h:(AG Tryz.prog 42).isSome=true:=by kernel_rfl
  exact Option.isSome_iff_exists.1 h
 cases hi:Tryz.prog.info? 42 with
 |none=>rw[hi] at h;cases h
 |some i=>
  rw[hi] at h;simp only[Sq,je] at h;cases hz:i.zero with
  |none=>rw[hz] at h;cases h
  |some z=>
   rw[hz] at h;simp only[Sq,je,qU] at h;refine⟨z,λw=> ?_,h.1,axj.1 h.2⟩;obtain⟨x,hx,⟨it,hi2,hz2⟩,_⟩:=adt hzv w;rw[hi] at hi2;cases hi2;rw[hz] at hz2;cases hz2;exact hx
theorem aX9 [ax](w:World)(ty:TypeId)(b o n c:Nat)(hn:0<n)(hc:∀j,j<n*9->(w.cell? ⟨b,o+j,none⟩).isSome=true)(hf:∀j,j<n*9->w.frozen? ⟨b,o+j,none⟩=false):
  ∃zs:List Value,zs.length=n*9/\(Builtin.clear_ #[140] ty #[.slice (some ⟨b,o,none⟩) n c]).run Tryz.prog w=.ok (.tuple #[]) (w.setCells b o zs):=by
 obtain⟨z,hz,hs,h1⟩:=zS;have hl:(Builtin.zeroCells z.cells n).toList.length=n*9:=by rw[VF,size_zeroCells,hs]
 refine⟨(Builtin.zeroCells z.cells n).toList,hl,?_⟩
 have hst:=run_storeCells_cells (P:=Tryz.prog) b o (Builtin.zeroCells z.cells n).toList 0 w (by rw[hl];simpa using hc) (by rw[hl];simpa using hf) (by
  intro v hv;unfold Builtin.zeroCells at hv;rw[Array.toList_map] at hv;obtain⟨i,hi,rfl⟩:=List.mem_map.1 hv;have om:i%z.cells.size<z.cells.size:=Nat.mod_lt _ (by omega);have e:z.cells[i%z.cells.size]! =z.cells[i%z.cells.size]:=getElem!_pos z.cells (i%z.cells.size) om;rw[e];exact h1 _ (Array.getElem_mem_toList om))
 simp only[kP] at hst;obtain⟨m,rfl⟩:∃m,n=m+1:=⟨n-1,by omega⟩;simp[Builtin.clear_,run_underlying uT,hz,hst]
theorem aGo [ax]{gs:List (Nat->Int)}(hg:gs.length=9)(n i j:Nat)(hij:i<=j)(hj:j<=n)(w:World)(π:Pi)(vs:Array Value)
  (lZ:bl (AV.rel π) [.r (.c (.sl 0 (.k 0) (.s n) 9 true)),.r (.c (.f (.i .i64 (i:Int)))),.r (.c (.f (.i .i64 (j:Int))))] vs.toList)
  (hH:sJ π (hC ([[.a (.s n) (fB gs)]].map some)) (hZ ([[.a (.s n) (fB gs)]].map some)) w)(kK:∀b,π b≠none->b<1):
  Calls Tryz.prog 98 vs w (tV π w [[.a (.s n) (fB gs)]] ⟨.r (.c (.sl 1 (.k 0) (.s (i+(n-j))) 9 true)),[.kill],[[.a (.s (i+(n-j))) (fB (gs.map (KO i (j-i))))]]⟩):=by
 obtain⟨y1,y2,y3,hvt,r1,r2,r3⟩:∃y1 y2 y3,vs.toList=[y1,y2,y3]/\(AV.r (.c (.sl 0 (.k 0) (.s n) 9 true))).rel π y1/\(AV.r (.c (.f (.i .i64 (i:Int))))).rel π y2/\(AV.r (.c (.f (.i .i64 (j:Int))))).rel π y3:=by
  match hl:vs.toList,lZ with
  | [y1,y2,y3],⟨a,b,c,_⟩=>exact⟨y1,y2,y3,rfl,a,b,c⟩
  | [],h=>exact h.elim
  | [_],⟨_,h⟩=>exact h.elim
  | [_,_],⟨_,_,h⟩=>exact h.elim
  |_::_::_::_::_,⟨_,_,_,h⟩=>exact h.elim
 have hvt:vs=#[y1,y2,y3]:=by rw[<-akH];exact hvt
 subst hvt;have r2:y2=.int .i64 (i:Int):=r2;have r3:y3=.int .i64 (j:Int):=r3;subst r2 r3;obtain⟨B,st,q,e,hb,_,_,hx⟩:=r1;obtain⟨rfl,hle,pZ,cs,Ef,JU,h1c⟩:=aCO (b:=0) hg hH rfl hb;have NK:hZ ([[.a (.s n) (fB gs)]].map some) 0≠none:=by simp[hZ]
 have ho:(gs.map (KO i (j-i))).length=9:=by simp[hg]
 have aic:∀b,b< [[Sg.a (.s n) (fB gs)]].length->[Ch.kill][b]? =some .nc∨[Ch.kill][b]? =some .kill:=λb hb=>by
  match b,hb with
  |0,_=>exact .inr rfl
  |b+1,h=>exact absurd h (by simp)
 have hft:∀i,st<=i->i<e->De π 1 (Sy [.kill]) B i:=λi h1 h2=>⟨0,st,_,e,by omega,by simp[Sy],hb,h1,h2⟩
 rcases hx with⟨h0,a,rfl⟩| ⟨cap,rS,rfl,hce⟩
 .have h0:n=0:=h0;subst h0;have hi0:i=0:=by omega
  have hj0:j=0:=by omega
  subst hi0 hj0;refine Calls.mono (aIj a 0 0 0 w (by omega) (by omega)) ?_;rintro ev W ⟨rfl,rfl⟩
  exact alb (P:=Tryz.prog) ho hH kK aic (cv.refl _ _) hH.am
 .have rS:n<=cap:=rS;have hce:st+cap*9<=e:=by have:=hce rfl;simpa[cE.val] using this
  have a4y:n*9<=cap*9:=wC _ rS;show Calls Tryz.prog 98 #[.slice (some ⟨B,st,none⟩) n cap,.int .i64 (i:Int),.int .i64 (j:Int)] w _;rcases Nat.eq_or_lt_of_le hij with a3p|om
  .subst a3p;refine Calls.mono (aIj _ n cap i w hj rS) ?_;rintro ev W ⟨rfl,rfl⟩
   have hn:i+(n-i)=n:=by omega
   rw[hn];refine ZN (P:=Tryz.prog) (q:=n*9) ho hH kK aic (by simp) rfl hb (cv.refl _ _) pZ hH.am (λJ hJ=> ?_) rS hce;rw[aIk hg];have hjj:cs[J]? =some (cs[J]'(by omega)):=lq _;refine⟨_,(JU _ _ hjj).1,?_⟩;have:=(JU _ _ hjj).2;split
   .exact this
   .rw[Nat.sub_self,Ss,kP];exact this
  .have hm9:(i+(n-j))*9<=n*9:=wC _ (by omega);have hdl:(cs.drop (j*9)).length=(n-j)*9:=by rw[asm,Ef];omega
   have i1:∀k,k<(cs.drop (j*9)).length->(cl w.drew B (st+i*9+k)).isSome=true:=λk hk=>(pZ _ (by omega) (by omega)).1
   obtain⟨w2,hw2⟩:∃w2,w2=w.drew.setCells B (st+i*9) (cs.drop (j*9)):=⟨_,rfl⟩
   have s2:∀k,st<=k->k<e->(cl w2 B k).isSome=true/\fz w2 B k=false:=λk k1 k2=>by
    rw[hw2];exact⟨Ab.isSome_setCells i1 (pZ k k1 k2).1,by rw[pE];exact(pZ k k1 k2).2⟩
   obtain⟨zs,hzl,a3q⟩:∃zs:List Value,zs.length=(n-(i+(n-j)))*9/\∀ty,(Builtin.clear_ #[140] ty #[.slice (some ⟨B,st+(i+(n-j))*9,none⟩) (n-(i+(n-j))) (cap-(i+(n-j)))]).run Tryz.prog w2=.ok (.tuple #[]) (w2.setCells B (st+(i+(n-j))*9) zs):=by
    obtain⟨zs,h1,h2⟩:=aX9 w2 0 B (st+(i+(n-j))*9) (n-(i+(n-j))) (cap-(i+(n-j))) (by omega) (λk hk=>(s2 _ (by omega) (by omega)).1) (λk hk=>(s2 _ (by omega) (by omega)).2);exact⟨zs,h1,λty=>by unfold Builtin.clear_ at h2 ⊢;exact h2⟩
   have hC:=aTN B st n cap i j w w2 (w2.setCells B (st+(i+(n-j))*9) zs) om hj rS (λty=>by
    rw[hw2]
    exact LJ (P:=Tryz.prog) (ty:=ty) uT uE (B:=B) (q:=st) (n:=i) (cap:=cap) (m:=n-j) (c:=cap-j) (news:=cs.drop (j*9)) (by omega) hdl w.drew (λk v hk=>by
     have hk2:=(mi.1 hk).1;rw[Sp] at hk;have:=(JU _ _ hk).1;split
     .omega
     .rw[Addr.add_lit,BI];exact this) (λv hv=>h1c v (List.mem_of_mem_drop hv)) (λk hk=>pZ _ (by omega) (by omega))) a3q
   refine Calls.mono hC ?_;rintro ev W ⟨rfl,rfl⟩
   have i2:∀k,k<zs.length->(cl w2 B (st+(i+(n-j))*9+k)).isSome=true:=λk hk=>(s2 _ (by omega) (by omega)).1
   have hlb:0<n->ax.h0<=B:=λ_=>hH.lb 0 B st _ e NK hb (by omega)
   have am2:AJ w2:=by rw[hw2];exact(hH.am.same (w':=w.drew) rfl).setCells λ_=>hlb (by omega)
   have f2:cv w (De π 1 (Sy [.kill])) w2:=by rw[hw2];exact((cv.refl w _).drew).setCells (.inr λk hk=>hft _ (by omega) (by omega))
   refine ZN (P:=Tryz.prog) (q:=n*9) ho hH kK aic (by simp) rfl hb (f2.setCells (.inr λk hk=>hft _ (by omega) (by omega))) (λk k1 k2=>⟨Ab.isSome_setCells i2 (s2 k k1 k2).1,by rw[pE];exact(s2 k k1 k2).2⟩) (am2.setCells λ_=>hlb (by omega)) (λJ hJ=> ?_) (by omega) hce;rw[aIk hg,eU (λ_=>by omega),hw2];by_cases h1:J<i*9
   .rw[if_pos h1,eU (λ_=>by omega)];have hjj:cs[J]? =some (cs[J]'(by omega)):=lq _;exact⟨_,(JU _ _ hjj).1,(JU _ _ hjj).2⟩
   .rw[if_neg h1];have hJ2:J-i*9<(cs.drop (j*9)).length:=by omega
    have h3:=oo i1 hJ2;rw[show st+i*9+(J-i*9)=st+J by omega] at h3;refine⟨_,h3,?_⟩
    have hjj:cs[J+(j-i)*9]? =some ((cs.drop (j*9))[J-i*9]):=by
     rw[<-lq,Sp];congr 1
     have:(j-i)*9=j*9-i*9:=by omega
     omega
    exact(JU _ _ hjj).2
theorem aKh [ax]{gs:List (Nat->Int)}(hg:gs.length=9)(n:Nat)(azk:n*72<=140737488355328)(w0:Bool)(w:World)(π:Pi)(vs:Array Value)
  (lZ:bl (AV.rel π) [.r (.c (.sl 0 (.k 0) (.s n) 9 w0))] vs.toList)
  (hH:sJ π (hC ([[.a (.s n) (fB gs)]].map some)) (hZ ([[.a (.s n) (fB gs)]].map some)) w)(kK:∀b,π b≠none->b<1):
  Calls Tryz.prog 166 vs w (tV π w [[.a (.s n) (fB gs)]] ⟨.r (.c (.sl 1 (.k 0) (.s n) 9 true)),[.nc],[[.a (.s n) (fB gs)]]⟩):=by
 obtain⟨y1,hvt,r1⟩:∃y1,vs.toList=[y1]/\(AV.r (.c (.sl 0 (.k 0) (.s n) 9 w0))).rel π y1:=by
  match hl:vs.toList,lZ with
  | [y1],⟨a,_⟩=>exact⟨y1,rfl,a⟩
  | [],h=>exact h.elim
  |_::_::_,⟨_,h⟩=>exact h.elim
 have hvt:vs=#[y1]:=by rw[<-akH];exact hvt
 subst hvt;obtain⟨B,st,q,e,hb,_,_,hx⟩:=r1;obtain⟨rfl,hle,pZ,cs,Ef,JU,h1c⟩:=aCO (b:=0) hg hH rfl hb
 have aic:∀b,b< [[Sg.a (.s n) (fB gs)]].length->[Ch.nc][b]? =some .nc∨[Ch.nc][b]? =some .kill:=λb hb=>by
  match b,hb with
  |0,_=>exact .inl rfl
  |b+1,h=>exact absurd h (by simp)
 have hE:=iE;obtain⟨i0,z0,hi0,hzz,a3k,aX6,a3l⟩:=hE;have aX7:(Tryz.prog.info? 42).map (·.bytes)=some 72:=by rw[hi0];exact ck some aX6
 obtain⟨zv,hzv,aX8⟩:∃zv,AG Tryz.prog 42=some zv/\af.size zv.bR=9:=by
  have h:(AG Tryz.prog 42).map (λz=>af.size z.bR)=some 9:=by kernel_rfl
  cases hz:AG Tryz.prog 42 with
  |none=>rw[hz] at h;cases h
  |some z=>rw[hz] at h;exact⟨z,rfl,by simpa using h⟩
 obtain⟨w1,hw1⟩:∃w1,w1=w.alloc (.cells #[] 42):=⟨_,rfl⟩;have hs1:w1.heap.size=w.heap.size+1:=by rw[hw1];exact World.size_alloc ..
 have am1:AJ w1:=by rw[hw1];exact hH.am.alloc _ _
 have f1:cv w (De π 1 (Sy [.nc])) w1:=by rw[hw1];exact(cv.refl w _).alloc _ _
 have none_:n=0->∀(a:Addr) (c:Nat),Calls Tryz.prog 166 #[.slice (some a) 0 c] w (tV π w [[.a (.s n) (fB gs)]] ⟨.r (.c (.sl 1 (.k 0) (.s n) 9 true)),[.nc],[[.a (.s n) (fB gs)]]⟩):=λh0 a c=>by
  subst h0;refine Calls.mono (azz a 0 c w _ _ λty=>LJ (P:=Tryz.prog) (ty:=ty) uT uE (B:=w.heap.size) (q:=0) (n:=0) (cap:=0) (m:=0) (c:=c) (ad:=a) (news:=[]) (by omega) rfl (w.alloc (.cells #[] 42)) (λj v hj=>by simp at hj) (λv hv=>by cases hv) (λj hj=>by simp at hj)) ?_;rintro ev W ⟨rfl,rfl⟩
  rw[<-hw1];exact alb (P:=Tryz.prog) hg hH kK aic f1 am1
 rcases hx with⟨h0,a,rfl⟩| ⟨cap,rS,rfl,hce⟩
 .have h0:n=0:=h0;cases a with
  |none=>
   subst h0;refine Calls.mono (aRb w) ?_;rintro ev W ⟨rfl,rfl⟩
   exact alb (P:=Tryz.prog) hg hH kK aic (cv.refl _ _) hH.am
  |some b=>exact none_ h0 b 0
 .show Calls Tryz.prog 166 #[.slice (some ⟨B,st,none⟩) n cap] w _;rcases aba n with h0|hn
  .subst h0;exact none_ rfl ⟨B,st,none⟩ cap
  .have hbw:B<w.heap.size:=abj (pZ st (dq _) (by omega)).1
   obtain⟨gc,arr,oB,hgc,yp,rest,afU⟩:=I1 (P:=Tryz.prog) (ty:=0) uT uE aX7 hzv aX8 (by omega) (sv:=.slice (some ⟨w.heap.size,0,none⟩) 0 0) (n:=0) (cap:=0) (m:=n) (c:=cap) (ad:=⟨B,st,none⟩) (Ha:=[]) (news:=cs) w1 (.inr ⟨_,rfl,λj v hj=>by simp at hj⟩) rfl Ef (λj v hj=>by
    rw[Addr.add_lit,hw1];exact(World.cell?_alloc_past (w:=w) _ B _ hbw).trans (JU j v hj).1) (by omega) hn (by omega)
   rw[gy] at oB hgc;have oB:∀ty,(Builtin.append_ #[140,140] ty #[.slice (some ⟨w.heap.size,0,none⟩) 0 0,.slice (some ⟨B,st,none⟩) n cap]).run Tryz.prog (w.alloc (.cells #[] 42))=.ok (.slice (some ⟨w1.heap.size,0,none⟩) n gc) (w1.drew.alloc (.cells arr 42)):=λty=>by rw[<-hw1];unfold Builtin.append_ at oB ⊢;exact oB
   refine Calls.mono (azz ⟨B,st,none⟩ n cap w _ _ oB) ?_;rintro ev W ⟨rfl,rfl⟩
   have aIm:∀j,cl (w1.drew.alloc (.cells arr 42)) w1.heap.size j=arr[j]? :=λj=>World.cell?_alloc_at (w:=w1.drew) arr _ w1.heap.size j rfl
   refine ala (P:=Tryz.prog) hg hH kK aic (by omega) ((f1.drew).alloc _ _) (λk hk=>⟨by rw[aIm,ah6 (by omega)];rfl,World.frozen?_alloc_at (w:=w1.drew) arr _ w1.heap.size k rfl⟩) ((am1.same (w':=w1.drew) rfl).alloc _ _) (λJ hJ=> ?_) hgc;have hjj:cs[J]? =some (cs[J]'(by omega)):=lq _;refine⟨_,?_,(JU _ _ hjj).2⟩;rw[aIm];have:=(Vz afU).2 hjj;simpa using this
end Go.Proofs.YtldgljclcgaibaaGreat
noncomputable section
namespace Go.Proofs.YtldgljclcgaibaaGreat
open Go.Ab Go.Ab.Pg
theorem VV {α:Type}{c:Bool}{v d:α}(h:cond c (some v) none=some d):c=true/\v=d:=by
 cases c with
 |true=>exact⟨rfl,Od h⟩
 |false=>cases h
theorem axL {β δ:Type}{Q:Rq (List AV×List af) β}{R:δ->Go.Ab.T}{f:β->Option δ}{a:List AV}{h:List af}{r:pz}(hr:(FC Q R f a h).eval=some r):
  ∃b d,(a,h)=Q.em b/\f b=some d/\(R d).eval=some r:=by
 unfold FC at hr;split at hr
 .rename_i b hb
  obtain⟨t,b⟩:=b;obtain⟨h1,Y9⟩:=ak8 hr;rw[asH] at Y9;obtain⟨d,e1,e2⟩:=Option.bind_eq_some_iff.1 Y9;exact⟨b,d,Q.ok _ _ _ hb h1,e1,e2⟩
 .cases hr
def sK:=(open Go.Ab.Rq in(dp (c (ac (slc 0 9)) (c ai (cl (ac (slc 1 9)) nil))) λa=>(c (cl (gs a.1.1 (c gI (c gI (c gI (c gI (c gI (c gI (c gI (c gI (cl gI nil)))))))))) nil) (cl (cl (gs a.2.2.1 (c gI (c gI (c gI (c gI (c gI (c gI (c gI (c gI (cl gI nil)))))))))) nil) nil))):Rq (List AV×List af) _)
def rT:=(open Go.Ab.Rq in(res (pr (ac (Dd 2 9)) (pu (cu UL (cu fL nil)) (cl (cl (ga (pr (szs hole) (c gI (c gI (c gI (c gI (c gI (c gI (c gI (c gI (cl gI nil))))))))))) nil) nil)))):Rq (pz) _)
abbrev fk:=Nat×(Nat->Int)×(Nat->Int)×(Nat->Int)×(Nat->Int)×(Nat->Int)×(Nat->Int)×(Nat->Int)×(Nat->Int)×(Nat->Int)
def Fg (d:fk):T:=(λd=>.leaf (rT.em (d.1,d))) d
abbrev sL:=Nat->Int->(Nat->Int)->(Nat->Int)->(Nat->Int)->(Nat->Int)->(Nat->Int)->(Nat->Int)->(Nat->Int)->(Nat->Int)->(Nat->Int)->(Nat->Int)->(Nat->Int)->(Nat->Int)->(Nat->Int)->(Nat->Int)->(Nat->Int)->(Nat->Int)->(Nat->Int)->(Nat->Int)->Nat->Bool->Bool->Option fk
def sM (g:sL):Ct:=(97,vE 0 [.i .i64,.i .i64,.i .i64,.i .i64,.i .i64,.i .i64,.i .i64,.i .i64,.i .i64] (FC sK Fg (λb=>g b.1.1.1 b.1.2.1 b.2.1.1 b.2.1.2.1 b.2.1.2.2.1 b.2.1.2.2.2.1 b.2.1.2.2.2.2.1 b.2.1.2.2.2.2.2.1 b.2.1.2.2.2.2.2.2.1 b.2.1.2.2.2.2.2.2.2.1 b.2.1.2.2.2.2.2.2.2.2 b.2.2.1 b.2.2.2.1 b.2.2.2.2.1 b.2.2.2.2.2.1 b.2.2.2.2.2.2.1 b.2.2.2.2.2.2.2.1 b.2.2.2.2.2.2.2.2.1 b.2.2.2.2.2.2.2.2.2.1 b.2.2.2.2.2.2.2.2.2.2 b.1.2.2.1 b.1.1.2 b.1.2.2.2)))
def cV (x0:Nat)(x1:Int)(x2 x3 x4 x5 x6 x7 x8 x9 gA fX BL x13 x14 x15 x16 x17 x18 x19:Nat->Int)(x20:Nat)(w0 w1:Bool):Option fk:=
 bif ww x20 1&&(w0&&(decide (0<=x1)&&(wd (ws x1) x0&&wd ((x0+1)*72) 140737488355328))) then some (x0+1,Ff (ws x1) x2 fX,Ff (ws x1) x3 BL,Ff (ws x1) x4 x13,Ff (ws x1) x5 x14,Ff (ws x1) x6 x15,Ff (ws x1) x7 x16,Ff (ws x1) x8 x17,Ff (ws x1) x9 x18,Ff (ws x1) gA x19) else none
theorem E2:∀b,(sK).em b=([.r (.c (.sl 0 (.k 0) (.s b.1.1.1) 9 b.1.1.2)),.r (.c (.f (.i .i64 b.1.2.1))),.r (.c (.sl 1 (.k 0) (.s b.1.2.2.1) 9 b.1.2.2.2))],[[.a (.s b.1.1.1) [.i .i64 b.2.1.1,.i .i64 b.2.1.2.1,.i .i64 b.2.1.2.2.1,.i .i64 b.2.1.2.2.2.1,.i .i64 b.2.1.2.2.2.2.1,.i .i64 b.2.1.2.2.2.2.2.1,.i .i64 b.2.1.2.2.2.2.2.2.1,.i .i64 b.2.1.2.2.2.2.2.2.2.1,.i .i64 b.2.1.2.2.2.2.2.2.2.2]],[.a (.s b.1.2.2.1) [.i .i64 b.2.2.1,.i .i64 b.2.2.2.1,.i .i64 b.2.2.2.2.1,.i .i64 b.2.2.2.2.2.1,.i .i64 b.2.2.2.2.2.2.1,.i .i64 b.2.2.2.2.2.2.2.1,.i .i64 b.2.2.2.2.2.2.2.2.1,.i .i64 b.2.2.2.2.2.2.2.2.2.1,.i .i64 b.2.2.2.2.2.2.2.2.2.2]]]):=λb=>by kernel_rfl
theorem Fh [ax]:Snd Tryz.prog (sM cV):=Sound.nil 0 [.i .i64,.i .i64,.i .i64,.i .i64,.i .i64,.i .i64,.i .i64,.i .i64,.i .i64]<|λargs h r hr w π vs lZ hH kK=>by
 obtain⟨b,d,e,hd,hq⟩:=axL hr;rw[E2] at e;obtain⟨hc,rfl⟩:=VV hd;simp only[cx,lC] at hc;obtain⟨h0,h1,h2,h3,h4⟩:=hc;rw[nQ h0] at e;obtain⟨rfl,rfl⟩:=Prod.mk.inj e;rw[h1,show b.1.2.1=((ws b.1.2.1:Nat):Int) by omega] at lZ;have hr2:rT.em (_,_)=r:=Od hq;subst hr2;exact .inl ⟨Ia (by kernel_rfl) _ _,aGn (gs:=[b.2.1.1,b.2.1.2.1,b.2.1.2.2.1,b.2.1.2.2.2.1,b.2.1.2.2.2.2.1,b.2.1.2.2.2.2.2.1,b.2.1.2.2.2.2.2.2.1,b.2.1.2.2.2.2.2.2.2.1,b.2.1.2.2.2.2.2.2.2.2]) (vs9:=[b.2.2.1,b.2.2.2.1,b.2.2.2.2.1,b.2.2.2.2.2.1,b.2.2.2.2.2.2.1,b.2.2.2.2.2.2.2.1,b.2.2.2.2.2.2.2.2.1,b.2.2.2.2.2.2.2.2.2.1,b.2.2.2.2.2.2.2.2.2.2]) rfl rfl _ _ (JN h3) (JN h4) _ w π vs lZ hH λb hb=>kK b hb⟩
def sN:=(open Go.Ab.Rq in(dp (c (ac (slc 0 9)) (c ai (cl ai nil))) λa=>(cl (cl (gs a.1.1 (c gI (c gI (c gI (c gI (c gI (c gI (c gI (c gI (cl gI nil)))))))))) nil) nil)):Rq (List AV×List af) _)
def rU:=(open Go.Ab.Rq in(res (pr (ac (Dd 1 9)) (pu (cu UL nil) (cl (cl (ga (pr (szs hole) (c gI (c gI (c gI (c gI (c gI (c gI (c gI (c gI (cl gI nil))))))))))) nil) nil)))):Rq (pz) _)
abbrev fm:=Nat×(Nat->Int)×(Nat->Int)×(Nat->Int)×(Nat->Int)×(Nat->Int)×(Nat->Int)×(Nat->Int)×(Nat->Int)×(Nat->Int)
def Fi (d:fm):T:=(λd=>.leaf (rU.em (d.1,d))) d
abbrev iA:=Nat->Int->Int->(Nat->Int)->(Nat->Int)->(Nat->Int)->(Nat->Int)->(Nat->Int)->(Nat->Int)->(Nat->Int)->(Nat->Int)->(Nat->Int)->Bool->Option fm
def ml (g:iA):Ct:=(98,vE 0 [.i .i64,.i .i64,.i .i64,.i .i64,.i .i64,.i .i64,.i .i64,.i .i64,.i .i64] (FC sN Fi (λb=>g b.1.1.1 b.1.2.1 b.1.2.2 b.2.1 b.2.2.1 b.2.2.2.1 b.2.2.2.2.1 b.2.2.2.2.2.1 b.2.2.2.2.2.2.1 b.2.2.2.2.2.2.2.1 b.2.2.2.2.2.2.2.2.1 b.2.2.2.2.2.2.2.2.2 b.1.1.2)))
def bU (x0:Nat)(x1 x2:Int)(x3 x4 x5 x6 x7 x8 x9 gA fX:Nat->Int)(w0:Bool):Option fm:=
 bif w0&&(decide (0<=x1)&&(wd (ws x1) (ws x2)&&(decide (0<=x2)&&wd (ws x2) x0))) then some (ws x1+(x0-ws x2),KO (ws x1) (ws x2-ws x1) x3,KO (ws x1) (ws x2-ws x1) x4,KO (ws x1) (ws x2-ws x1) x5,KO (ws x1) (ws x2-ws x1) x6,KO (ws x1) (ws x2-ws x1) x7,KO (ws x1) (ws x2-ws x1) x8,KO (ws x1) (ws x2-ws x1) x9,KO (ws x1) (ws x2-ws x1) gA,KO (ws x1) (ws x2-ws x1) fX) else none
theorem E3:∀b,(sN).em b=([.r (.c (.sl 0 (.k 0) (.s b.1.1.1) 9 b.1.1.2)),.r (.c (.f (.i .i64 b.1.2.1))),.r (.c (.f (.i .i64 b.1.2.2)))],[[.a (.s b.1.1.1) [.i .i64 b.2.1,.i .i64 b.2.2.1,.i .i64 b.2.2.2.1,.i .i64 b.2.2.2.2.1,.i .i64 b.2.2.2.2.2.1,.i .i64 b.2.2.2.2.2.2.1,.i .i64 b.2.2.2.2.2.2.2.1,.i .i64 b.2.2.2.2.2.2.2.2.1,.i .i64 b.2.2.2.2.2.2.2.2.2]]]):=λb=>by kernel_rfl
theorem sO [ax]:Snd Tryz.prog (ml bU):=Sound.nil 0 [.i .i64,.i .i64,.i .i64,.i .i64,.i .i64,.i .i64,.i .i64,.i .i64,.i .i64]<|λargs h r hr w π vs lZ hH kK=>by
 obtain⟨b,d,e,hd,hq⟩:=axL hr;rw[E3] at e;obtain⟨hc,rfl⟩:=VV hd;simp only[cx,lC] at hc;obtain⟨h1,h2,h3,h4,h5⟩:=hc;obtain⟨rfl,rfl⟩:=Prod.mk.inj e;have e2:b.1.2.1=((ws b.1.2.1:Nat):Int):=by omega
 have e3:b.1.2.2=((ws b.1.2.2:Nat):Int):=by omega
 have hr2:rU.em (_,_)=r:=Od hq;subst hr2;exact .inl ⟨Ia (by kernel_rfl) _ _,aGo (gs:=[b.2.1,b.2.2.1,b.2.2.2.1,b.2.2.2.2.1,b.2.2.2.2.2.1,b.2.2.2.2.2.2.1,b.2.2.2.2.2.2.2.1,b.2.2.2.2.2.2.2.2.1,b.2.2.2.2.2.2.2.2.2]) rfl _ (ws b.1.2.1) (ws b.1.2.2) (JN h3) (JN h5) w π vs (by rw[<-e2,<-e3,<-h1];exact lZ) hH λb hb=>kK b hb⟩
def tX:=(open Go.Ab.Rq in(dp (cl (ac (slc 0 9)) nil) λa=>(cl (cl (gs a.1 (c gI (c gI (c gI (c gI (c gI (c gI (c gI (c gI (cl gI nil)))))))))) nil) nil)):Rq (List AV×List af) _)
def sP:=(open Go.Ab.Rq in(res (pr (ac (Dd 1 9)) (pu (cu fL nil) (cl (cl (ga (pr (szs hole) (c gI (c gI (c gI (c gI (c gI (c gI (c gI (c gI (cl gI nil))))))))))) nil) nil)))):Rq (pz) _)
abbrev iY:=Nat×(Nat->Int)×(Nat->Int)×(Nat->Int)×(Nat->Int)×(Nat->Int)×(Nat->Int)×(Nat->Int)×(Nat->Int)×(Nat->Int)
def Gr (d:iY):T:=(λd=>.leaf (sP.em (d.1,d))) d
abbrev m6:=Nat->(Nat->Int)->(Nat->Int)->(Nat->Int)->(Nat->Int)->(Nat->Int)->(Nat->Int)->(Nat->Int)->(Nat->Int)->(Nat->Int)->Bool->Option iY
def tY (g:m6):Ct:=(166,vE 0 [.i .i64,.i .i64,.i .i64,.i .i64,.i .i64,.i .i64,.i .i64,.i .i64,.i .i64] (FC tX Gr (λb=>g b.1.1 b.2.1 b.2.2.1 b.2.2.2.1 b.2.2.2.2.1 b.2.2.2.2.2.1 b.2.2.2.2.2.2.1 b.2.2.2.2.2.2.2.1 b.2.2.2.2.2.2.2.2.1 b.2.2.2.2.2.2.2.2.2 b.1.2)))
def fE (x0:Nat)(x1 x2 x3 x4 x5 x6 x7 x8 x9:Nat->Int)(w0:Bool):Option iY:=
 bif wd (x0*72) 140737488355328 then some (x0,x1,x2,x3,x4,x5,x6,x7,x8,x9) else none
theorem Fj:∀b,(tX).em b=([.r (.c (.sl 0 (.k 0) (.s b.1.1) 9 b.1.2))],[[.a (.s b.1.1) [.i .i64 b.2.1,.i .i64 b.2.2.1,.i .i64 b.2.2.2.1,.i .i64 b.2.2.2.2.1,.i .i64 b.2.2.2.2.2.1,.i .i64 b.2.2.2.2.2.2.1,.i .i64 b.2.2.2.2.2.2.2.1,.i .i64 b.2.2.2.2.2.2.2.2.1,.i .i64 b.2.2.2.2.2.2.2.2.2]]]):=λb=>by kernel_rfl
theorem Gs [ax]:Snd Tryz.prog (tY fE):=Sound.nil 0 [.i .i64,.i .i64,.i .i64,.i .i64,.i .i64,.i .i64,.i .i64,.i .i64,.i .i64]<|λargs h r hr w π vs lZ hH kK=>by
 obtain⟨b,d,e,hd,hq⟩:=axL hr;rw[Fj] at e;obtain⟨hc,rfl⟩:=VV hd;obtain⟨rfl,rfl⟩:=Prod.mk.inj e;have hr2:sP.em (_,_)=r:=Od hq;subst hr2;exact .inl ⟨Ia (by kernel_rfl) _ _,aKh (gs:=[b.2.1,b.2.2.1,b.2.2.2.1,b.2.2.2.2.1,b.2.2.2.2.2.1,b.2.2.2.2.2.2.1,b.2.2.2.2.2.2.2.1,b.2.2.2.2.2.2.2.2.1,b.2.2.2.2.2.2.2.2.2]) rfl _ (JN hc) _ w π vs lZ hH λb hb=>kK b hb⟩
open Go.Ab Go.Ab.Pg Go.Ab.Rq
def aie:=qa (pr (cu aP E6) bG)
def Ou:=qe qO
abbrev aif:=Ou.B
abbrev cm:=Int->Int->Int->Bool->Option aif
def eA (g:cm):Ct:=(119,FC aie (lf Ou) (λb=>g b.1.1 b.1.2.1 b.1.b b.2))
def ya (x0:Int)(x1:Int)(x2:Int)(x3:Bool):Pg aif:=ae (decide (x1>x2)) (ret (x1,true)) (ae (decide (x0<x1)) (ret (x1,true)) (ae (decide (x0>x2)) (ret (x2,true)) (ret (x0,x3))))
def bc:=λx0 x1 x2 x3=>(ya x0 x1 x2 x3).val
theorem aBA:D1 [] [0] 119 aie (lf Ou) λb=>ya b.1.1 b.1.2.1 b.1.b b.2:=λb=>by kernel_rfl
theorem eZ [ax]:SC (eA bc):=s0 (.nil _) aBA
def ap1:=qa (pr (cu aP jc) bG)
def VW:=qe qO
abbrev ap2:=VW.B
abbrev bO:=Int->Bool->Option ap2
def dH (g:bO):Ct:=(126,FC ap1 (lf VW) (λb=>g b.1 b.2))
def abo (aF:cm)(x0:Int)(x1:Bool):Pg ap2:=opt (aF x0 (-1152921504606846976) 1152921504606846976 x1) λd=>ret d
def aR:=λx0 x1=>(abo bc x0 x1).val
theorem aGp:∀aF,D0 [eA aF] 126 ap1 (lf VW) λb=>abo aF b.1 b.2:=λ_ b=>by kernel_rfl
theorem dM [ax]:SC (dH aR):=s0 (.c eZ (.nil _)) (aGp bc)
def ap3:=qa (pl jc nil)
def VX:=qe aVm
abbrev ap4:=VX.B
abbrev Qf:=Int->Option ap4
def Qg (g:Qf):Ct:=(185,FC ap3 (lf VX) (λb=>g b))
def abp (x0:Int):Pg ap4:=ae (decide (x0<0)) (ret (wU (0-wU x0))) (ret (wU x0))
def rV:=λx0=>(abp x0).val
theorem aGq:D0 [] 185 ap3 (lf VX) λb=>abp b:=λb=>by kernel_rfl
theorem abq [ax]:SC (Qg rV):=s0 (.nil _) aGq
def ap5:=qa (pl (c an aHI) nil)
def VY:=qe aP1
abbrev ap6:=VY.B
abbrev ap7:=Int->Int->Option ap6
def ap8 (g:ap7):Ct:=(184,FC ap5 (lf VY) (λb=>g b.1 b.2))
def abr (x0:Int)(x1:Int):Pg ap6:=let y0:=ul x0 4294967296;let y1:=ul x1 4294967296;let y2:=wU (wl (v4 (v9 64 x0&&&v9 64 4294967295)));let y3:=wU (wl (v4 (v9 64 x1&&&v9 64 4294967295)));let y4:=wU (wU (y0*y3)+ul (wU (y2*y3)) 4294967296);ret (wU (wU (wU (y0*y1)+ul y4 4294967296)+ul (wU (wU (wl (v4 (v9 64 y4&&&v9 64 4294967295)))+wU (y2*y1))) 4294967296),wU (x0*x1))
def Ib:=λx0 x1=>(abr x0 x1).val
theorem aGr:D0 [] 184 ap5 (lf VY) λb=>abr b.1 b.2:=λb=>by kernel_rfl
theorem aGs [ax]:SC (ap8 Ib):=s0 (.nil _) aGr
def alc:=qa (pl (c VC aMr) nil)
def SD:=qe aP5
abbrev VZ:=SD.B
abbrev V0:=Int->Int->Bool->Option VZ
def V1 (g:V0):Ct:=(186,FC alc (lf SD) (λb=>g b.1.1 b.1.2 b.2))
def LO (nS:auy)(x0:Int)(x1:Int)(x2:Bool):Pg VZ:=ae (!x2) (ret ((wI x0,x1),ul x0 9223372036854775808==0)) (opt (nS (wU (wl (v4 (v9 64 18446744073709551615^^^v9 64 x1)))) 1 0) λd=>let y0:=wI (wU (wU (wl (v4 (v9 64 18446744073709551615^^^v9 64 x0)))+d.2));ae (decide (y0<0)) (ret ((y0,d.1),true)) (ret ((y0,d.1),x0==0&&(x1==0&&true))))
def nT:=λx0 x1 x2=>(LO Df x0 x1 x2).val
theorem aEC:∀nS,D0 [ak9 nS] 186 alc (lf SD) λb=>LO nS b.1.1 b.1.2 b.2:=λ_ b=>by kernel_rfl
theorem ald [ax]:SC (V1 nT):=s0 (.c aoK (.nil _)) (aEC Df)
def azA:=qa (pl zE nil)
def af3:=qe aVL
abbrev ale:=af3.B
abbrev oL:=Int->Int->Option ale
def yx (g:oL):Ct:=(116,FC azA (lf af3) (λb=>g b.1 b.2))
def alf (iS:Qf)(Qh:ap7)(pG:V0)(x0:Int)(x1:Int):Pg ale:=opt (iS x0) λd=>opt (iS x1) λaj=>opt (Qh d aj) λd=>opt (pG d.1 d.2 !decide (x0<0)==decide (x1<0)) λd=>ret d.1
def fP:=λx0 x1=>(alf rV Ib nT x0 x1).val
theorem aNG:∀iS Qh pG,D0 [Qg iS,ap8 Qh,V1 pG] 116 azA (lf af3) λb=>alf iS Qh pG b.1 b.2:=λ_ _ _ b=>by kernel_rfl
theorem Br [ax]:SC (yx fP):=s0 (.c abq (.c aGs (.c ald (.nil _)))) (aNG rV Ib nT)
def azB:=qa (pl aC4 nil)
def af4:=qe (res (pl (sH (c (ra awW) aSf)) (pu nil nil)))
abbrev azC:=af4.B
abbrev alg:=Int->Int->Option azC
def alh (g:alg):Ct:=(188,FC azB (lf af4) (λb=>g b.1 b.2))
def ali (nS:auy)(x0:Int)(x1:Int):Pg azC:=ae (decide (x0>=0)) (ret ((wU x0,x1),false)) (opt (nS (wU (wl (v4 (v9 64 18446744073709551615^^^v9 64 x1)))) 1 0) λd=>ret ((wU (wU (wl (v4 (v9 64 18446744073709551615^^^v9 64 (wU x0))))+d.2),d.1),true))
def Fk:=λx0 x1=>(ali Df x0 x1).val
theorem aNH:∀nS,D0 [ak9 nS] 188 azB (lf af4) λb=>ali nS b.1 b.2:=λ_ b=>by kernel_rfl
theorem azD [ax]:SC (alh Fk):=s0 (.c aoK (.nil _)) (aNH Df)
def aih:=qa (pl (c VC jc) nil)
def Ov:=qe aJo
abbrev aii:=Ov.B
abbrev Dj:=Int->Int->Int->Option aii
def I2 (g:Dj):Ct:=(190,FC aih (lf Ov) (λb=>g b.1.1 b.1.2 b.2))
def SE (x0:Int)(x1:Int)(x2:Int):Pg aii:=let y0:=wI (64-x2);let y1:=wI (x2-64);let y2:=2^min (ws x2) 64;let y3:= !decide (x2<0);ae (decide (x2>=64)) (ae (!decide (y1<0)) (ret (wU (x1*2^min (ws y1) 64),0)) no) (ae y3 (ae (!decide (y0<0)) (ae y3 (ret (wU (wl (v4 (v9 64 (wU (x0*y2))|||v9 64 (ul x1 (2^min (ws y0) 64))))),wU (x1*y2))) no) no) no)
def ix:=λx0 x1 x2=>(SE x0 x1 x2).val
theorem aBB:D0 [] 190 aih (lf Ov) λb=>SE b.1.1 b.1.2 b.2:=λb=>by kernel_rfl
theorem SF [ax]:SC (I2 ix):=s0 (.nil _) aBB
def adz:=qa (pl (c VC (cl VC nil)) nil)
def LP:=qe aJo
abbrev adA:=LP.B
abbrev vS:=Int->Int->Int->Int->Option adA
def Gu (g:vS):Ct:=(189,FC adz (lf LP) (λb=>g b.1.1 b.1.2 b.2.1 b.b))
def Ow (nS:auy)(x0:Int)(x1:Int)(x2:Int)(x3:Int):Pg adA:=opt (nS x1 x3 0) λd=>opt (nS x0 x2 d.2) λaj=>ret (aj.1,d.1)
def jJ:=λx0 x1 x2 x3=>(Ow Df x0 x1 x2 x3).val
theorem axM:∀nS,D0 [ak9 nS] 189 adz (lf LP) λb=>Ow nS b.1.1 b.1.2 b.2.1 b.b:=λ_ b=>by kernel_rfl
theorem Ox [ax]:SC (Gu jJ):=s0 (.c aoK (.nil _)) (axM Df)
def aij:=qa (pl (c VC jc) nil)
def Oy:=qe aJo
abbrev aik:=Oy.B
abbrev Dk:=Int->Int->Int->Option aik
def I3 (g:Dk):Ct:=(192,FC aij (lf Oy) (λb=>g b.1.1 b.1.2 b.2))
def I4 (x0:Int)(x1:Int)(x2:Int):Pg aik:=let y0:=wI (64-x2);let y1:=wI (x2-64);let y2:=2^min (ws x2) 64;let y3:= !decide (x2<0);ae (decide (x2>=64)) (ae (!decide (y1<0)) (ret (0,ul x0 (2^min (ws y1) 64))) no) (ae y3 (ae y3 (ae (!decide (y0<0)) (ret (ul x0 y2,wU (wl (v4 (v9 64 (ul x1 y2)|||v9 64 (wU (x0*2^min (ws y0) 64))))))) no) no) no)
def jD:=λx0 x1 x2=>(I4 x0 x1 x2).val
theorem aBC:D0 [] 192 aij (lf Oy) λb=>I4 b.1.1 b.1.2 b.2:=λb=>by kernel_rfl
theorem SG [ax]:SC (I3 jD):=s0 (.nil _) aBC
def adB:=qa (pl (c VC aMr) nil)
def LQ:=qe aw4
abbrev adC:=LQ.B
abbrev AN:=Int->Int->Bool->Option adC
def Gv (g:AN):Ct:=(191,FC adB (lf LQ) (λb=>g b.1.1 b.1.2 b.2))
def Oz (x0:Int)(x1:Int)(x2:Bool):Pg adC:=let y0:=x0 !=0;let y1:=decide (x1>9223372036854775807);ae y0 (ae y0 (ret (0,false)) (ae x2 (ret (wI (wU (0-x1)),true)) (ret (wI x1,true)))) (ae (!x2) (ae y1 (ae y1 (ret (0,false)) (ae x2 (ret (wI (wU (0-x1)),true)) (ret (wI x1,true)))) (ae x2 (ae (decide (x1>9223372036854775808)) (ret (0,false)) (ae x2 (ret (wI (wU (0-x1)),true)) (ret (wI x1,true)))) (ae x2 (ret (wI (wU (0-x1)),true)) (ret (wI x1,true))))) (ae x2 (ae (decide (x1>9223372036854775808)) (ret (0,false)) (ae x2 (ret (wI (wU (0-x1)),true)) (ret (wI x1,true)))) (ae x2 (ret (wI (wU (0-x1)),true)) (ret (wI x1,true)))))
def jK:=λx0 x1 x2=>(Oz x0 x1 x2).val
theorem axN:D0 [] 191 adB (lf LQ) λb=>Oz b.1.1 b.1.2 b.2:=λb=>by kernel_rfl
theorem OA [ax]:SC (Gv jK):=s0 (.nil _) axN
def ap9:=qa (pl (c afe jc) nil)
def V2:=qe aw4
abbrev aqa:=V2.B
abbrev DU:=Int->Int->Int->Option aqa
def Qi (g:DU):Ct:=(118,FC ap9 (lf V2) (λb=>g b.1.1 b.1.2 b.2))
def abt (yy:alg)(kR:Dj)(fF:vS)(jE:Dk)(fG:AN)(x0:Int)(x1:Int)(x2:Int):Pg aqa:=ae (decide (x2<0)) (ret (0,false)) (ae (decide (x2>126)) (ret (0,false)) (opt (yy x0 x1) λd=>ae (decide (x2>0)) (opt (kR 0 1 (wI (x2-1))) λaj=>opt (fF d.1.1 d.1.2 aj.1 aj.2) λaD=>opt (jE aD.1 aD.2 x2) λbC=>opt (fG bC.1 bC.2 d.2) λd=>ret d) (opt (jE d.1.1 d.1.2 x2) λaj=>opt (fG aj.1 aj.2 d.2) λd=>ret d)))
def rW:=λx0 x1 x2=>(abt Fk ix jJ jD jK x0 x1 x2).val
theorem aGt:∀yy kR fF jE fG,D0 [alh yy,I2 kR,Gu fF,I3 jE,Gv fG] 118 ap9 (lf V2) λb=>abt yy kR fF jE fG b.1.1 b.1.2 b.2:=λ_ _ _ _ _ b=>by kernel_rfl
theorem abu [ax]:SC (Qi rW):=s0 (.c azD (.c SF (.c Ox (.c SG (.c OA (.nil _)))))) (aGt Fk ix jJ jD jK)
def aED:=qa (pl aMr nil)
def alj:=qe Hn
abbrev aEE:=alj.B
abbrev V3:=Bool->Option aEE
def V4 (g:V3):Ct:=(199,FC aED (lf alj) (λb=>g b))
def V5 (x0:Bool):Pg aEE:=ae x0 (ret (-1152921504606846976)) (ret 1152921504606846976)
def qY:=λx0=>(V5 x0).val
theorem aRc:D0 [] 199 aED (lf alj) λb=>V5 b:=λb=>by kernel_rfl
theorem af5 [ax]:SC (V4 qY):=s0 (.nil _) aRc
def aqb:=qa (pr (cu aP (c ai (c ab aMr))) bG)
def V6:=qe qO
abbrev aqc:=V6.B
abbrev Ic:=Int->Bool->Bool->Bool->Option aqc
def Qj (g:Ic):Ct:=(198,FC aqb (lf V6) (λb=>g b.1.1 b.1.2.1 b.1.b b.2))
def Ie (kv:V3)(aw:bO)(x0:Int)(x1:Bool)(x2:Bool)(x3:Bool):Pg aqc:=ae (!x1) (opt (kv x2) λd=>ret (d,true)) (opt (aw x0 x3) λd=>ret d)
def nU:=λx0 x1 x2 x3=>(Ie qY aR x0 x1 x2 x3).val
theorem aGu:∀kv aw,D0 [V4 kv,dH aw] 198 aqb (lf V6) λb=>Ie kv aw b.1.1 b.1.2.1 b.1.b b.2:=λ_ _ b=>by kernel_rfl
theorem abv [ax]:SC (Qj nU):=s0 (.c af5 (.c dM (.nil _))) (aGu qY aR)
def ail:=qa (pr (cu aP (c afe jc)) bG)
def OB:=qe qO
abbrev aim:=OB.B
abbrev yb:=Int->Int->Int->Bool->Option aim
def I5 (g:yb):Ct:=(127,FC ail (lf OB) (λb=>g b.1.1.1 b.1.1.2 b.1.2 b.2))
def SH (vF:DU)(nV:Ic)(x0:Int)(x1:Int)(x2:Int)(x3:Bool):Pg aim:=ae (decide (x2<0)) (ret (0,true)) (ae (decide (x2>120)) (ret (0,true)) (opt (vF x0 x1 x2) λd=>opt (nV d.1 d.2 (decide (x0<0)) x3) λd=>ret d))
def oq:=λx0 x1 x2 x3=>(SH rW nU x0 x1 x2 x3).val
theorem aBD:∀vF nV,D0 [Qi vF,Qj nV] 127 ail (lf OB) λb=>SH vF nV b.1.1.1 b.1.1.2 b.1.2 b.2:=λ_ _ b=>by kernel_rfl
theorem SI [ax]:SC (I5 oq):=s0 (.c abu (.c abv (.nil _))) (aBD rW nU)
def aqd:=qa (pr (cu aP E6) bG)
def V7:=qe qO
abbrev aqe:=V7.B
abbrev bX:=Int->Int->Int->Bool->Option aqe
def fI (g:bX):Ct:=(72,FC aqd (lf V7) (λb=>g b.1.1 b.1.2.1 b.1.b b.2))
def abw (aw:bO)(cW:oL)(jF:yb)(x0:Int)(x1:Int)(x2:Int)(x3:Bool):Pg aqe:=opt (aw x0 x3) λd=>opt (aw x1 d.2) λaj=>opt (cW d.1 aj.1) λd=>opt (jF d.1 d.2 x2 aj.2) λd=>ret d
def aV:=λx0 x1 x2 x3=>(abw aR fP oq x0 x1 x2 x3).val
theorem aGv:∀aw cW jF,D0 [dH aw,yx cW,I5 jF] 72 aqd (lf V7) λb=>abw aw cW jF b.1.1 b.1.2.1 b.1.b b.2:=λ_ _ _ b=>by kernel_rfl
theorem fY [ax]:SC (fI aV):=s0 (.c dM (.c Br (.c SI (.nil _)))) (aGv aR fP oq)
def alk:=qa (pr aJk (cu ar5 bG))
def SJ:=qe aPY
abbrev alm:=SJ.B
abbrev V8:=Int->Int->Bool->Option alm
def V9 (g:V8):Ct:=(77,FC alk (lf SJ) (λb=>g b.1.1 b.1.2 b.2))
def Wa (aB:bX)(x0:Int)(x1:Int)(x2:Bool):Pg alm:=opt (aB x0 x1 30 x2) λd=>ret d
def wH:=λx0 x1 x2=>(Wa aV x0 x1 x2).val
theorem aEF:∀aB,D0 [fI aB] 77 alk (lf SJ) λb=>Wa aB b.1.1 b.1.2 b.2:=λ_ b=>by kernel_rfl
theorem aln [ax]:SC (V9 wH):=s0 (.c fY (.nil _)) (aEF aV)
def aqf:=qa (pl aHI nil)
def Wb:=qe Hn
abbrev aqg:=Wb.B
abbrev aqh:=Int->Option aqg
def aqi (g:aqh):Ct:=(267,FC aqf (lf Wb) (λb=>g b))
def abx (x0:Int):Pg aqg:=let y0:=ul x0 65536;let y1:=ul x0 4294967296;let y2:=IntKind.wrap IntKind.u8 (ul x0 256);let y3:=IntKind.wrap IntKind.u8 y0;let y4:=IntKind.wrap IntKind.u8 y1;let y5:=ul y1 65536;let y6:=IntKind.wrap IntKind.u8 y5;let y7:=IntKind.wrap IntKind.u8 (ul y0 256);let y8:=IntKind.wrap IntKind.u8 (ul y1 256);let y9:=IntKind.wrap IntKind.u8 (ul y5 256);ae (decide (x0>=4294967296)) (ae (decide (y1>=65536)) (ae (decide (y5>=256)) (ae (bb y9 256) (ret (wI (56+wI (Ez (ByteArray.mk (List.toArray (t9 (t9 [0,1,2,2,3,3,3,3,4,4,4,4,4,4,4,4,5,5,5,5,5,5,5,5,5,5,5,5,5,5,5,5,6,6,6,6,6,6,6,6,6,6,6,6,6,6,6,6,6,6,6,6,6,6,6,6,6,6,6,6,6,6,6,6] [7,7,7,7,7,7,7,7,7,7,7,7,7,7,7,7,7,7,7,7,7,7,7,7,7,7,7,7,7,7,7,7,7,7,7,7,7,7,7,7,7,7,7,7,7,7,7,7,7,7,7,7,7,7,7,7,7,7,7,7,7,7,7,7]) (t9 [8,8,8,8,8,8,8,8,8,8,8,8,8,8,8,8,8,8,8,8,8,8,8,8,8,8,8,8,8,8,8,8,8,8,8,8,8,8,8,8,8,8,8,8,8,8,8,8,8,8,8,8,8,8,8,8,8,8,8,8,8,8,8,8] [8,8,8,8,8,8,8,8,8,8,8,8,8,8,8,8,8,8,8,8,8,8,8,8,8,8,8,8,8,8,8,8,8,8,8,8,8,8,8,8,8,8,8,8,8,8,8,8,8,8,8,8,8,8,8,8,8,8,8,8,8,8,8,8])))) (ws y9))))) no) (ae (bb y6 256) (ret (wI (48+wI (Ez (ByteArray.mk (List.toArray (t9 (t9 [0,1,2,2,3,3,3,3,4,4,4,4,4,4,4,4,5,5,5,5,5,5,5,5,5,5,5,5,5,5,5,5,6,6,6,6,6,6,6,6,6,6,6,6,6,6,6,6,6,6,6,6,6,6,6,6,6,6,6,6,6,6,6,6] [7,7,7,7,7,7,7,7,7,7,7,7,7,7,7,7,7,7,7,7,7,7,7,7,7,7,7,7,7,7,7,7,7,7,7,7,7,7,7,7,7,7,7,7,7,7,7,7,7,7,7,7,7,7,7,7,7,7,7,7,7,7,7,7]) (t9 [8,8,8,8,8,8,8,8,8,8,8,8,8,8,8,8,8,8,8,8,8,8,8,8,8,8,8,8,8,8,8,8,8,8,8,8,8,8,8,8,8,8,8,8,8,8,8,8,8,8,8,8,8,8,8,8,8,8,8,8,8,8,8,8] [8,8,8,8,8,8,8,8,8,8,8,8,8,8,8,8,8,8,8,8,8,8,8,8,8,8,8,8,8,8,8,8,8,8,8,8,8,8,8,8,8,8,8,8,8,8,8,8,8,8,8,8,8,8,8,8,8,8,8,8,8,8,8,8])))) (ws y6))))) no)) (ae (decide (y1>=256)) (ae (bb y8 256) (ret (wI (40+wI (Ez (ByteArray.mk (List.toArray (t9 (t9 [0,1,2,2,3,3,3,3,4,4,4,4,4,4,4,4,5,5,5,5,5,5,5,5,5,5,5,5,5,5,5,5,6,6,6,6,6,6,6,6,6,6,6,6,6,6,6,6,6,6,6,6,6,6,6,6,6,6,6,6,6,6,6,6] [7,7,7,7,7,7,7,7,7,7,7,7,7,7,7,7,7,7,7,7,7,7,7,7,7,7,7,7,7,7,7,7,7,7,7,7,7,7,7,7,7,7,7,7,7,7,7,7,7,7,7,7,7,7,7,7,7,7,7,7,7,7,7,7]) (t9 [8,8,8,8,8,8,8,8,8,8,8,8,8,8,8,8,8,8,8,8,8,8,8,8,8,8,8,8,8,8,8,8,8,8,8,8,8,8,8,8,8,8,8,8,8,8,8,8,8,8,8,8,8,8,8,8,8,8,8,8,8,8,8,8] [8,8,8,8,8,8,8,8,8,8,8,8,8,8,8,8,8,8,8,8,8,8,8,8,8,8,8,8,8,8,8,8,8,8,8,8,8,8,8,8,8,8,8,8,8,8,8,8,8,8,8,8,8,8,8,8,8,8,8,8,8,8,8,8])))) (ws y8))))) no) (ae (bb y4 256) (ret (wI (32+wI (Ez (ByteArray.mk (List.toArray (t9 (t9 [0,1,2,2,3,3,3,3,4,4,4,4,4,4,4,4,5,5,5,5,5,5,5,5,5,5,5,5,5,5,5,5,6,6,6,6,6,6,6,6,6,6,6,6,6,6,6,6,6,6,6,6,6,6,6,6,6,6,6,6,6,6,6,6] [7,7,7,7,7,7,7,7,7,7,7,7,7,7,7,7,7,7,7,7,7,7,7,7,7,7,7,7,7,7,7,7,7,7,7,7,7,7,7,7,7,7,7,7,7,7,7,7,7,7,7,7,7,7,7,7,7,7,7,7,7,7,7,7]) (t9 [8,8,8,8,8,8,8,8,8,8,8,8,8,8,8,8,8,8,8,8,8,8,8,8,8,8,8,8,8,8,8,8,8,8,8,8,8,8,8,8,8,8,8,8,8,8,8,8,8,8,8,8,8,8,8,8,8,8,8,8,8,8,8,8] [8,8,8,8,8,8,8,8,8,8,8,8,8,8,8,8,8,8,8,8,8,8,8,8,8,8,8,8,8,8,8,8,8,8,8,8,8,8,8,8,8,8,8,8,8,8,8,8,8,8,8,8,8,8,8,8,8,8,8,8,8,8,8,8])))) (ws y4))))) no))) (ae (decide (x0>=65536)) (ae (decide (y0>=256)) (ae (bb y7 256) (ret (wI (24+wI (Ez (ByteArray.mk (List.toArray (t9 (t9 [0,1,2,2,3,3,3,3,4,4,4,4,4,4,4,4,5,5,5,5,5,5,5,5,5,5,5,5,5,5,5,5,6,6,6,6,6,6,6,6,6,6,6,6,6,6,6,6,6,6,6,6,6,6,6,6,6,6,6,6,6,6,6,6] [7,7,7,7,7,7,7,7,7,7,7,7,7,7,7,7,7,7,7,7,7,7,7,7,7,7,7,7,7,7,7,7,7,7,7,7,7,7,7,7,7,7,7,7,7,7,7,7,7,7,7,7,7,7,7,7,7,7,7,7,7,7,7,7]) (t9 [8,8,8,8,8,8,8,8,8,8,8,8,8,8,8,8,8,8,8,8,8,8,8,8,8,8,8,8,8,8,8,8,8,8,8,8,8,8,8,8,8,8,8,8,8,8,8,8,8,8,8,8,8,8,8,8,8,8,8,8,8,8,8,8] [8,8,8,8,8,8,8,8,8,8,8,8,8,8,8,8,8,8,8,8,8,8,8,8,8,8,8,8,8,8,8,8,8,8,8,8,8,8,8,8,8,8,8,8,8,8,8,8,8,8,8,8,8,8,8,8,8,8,8,8,8,8,8,8])))) (ws y7))))) no) (ae (bb y3 256) (ret (wI (16+wI (Ez (ByteArray.mk (List.toArray (t9 (t9 [0,1,2,2,3,3,3,3,4,4,4,4,4,4,4,4,5,5,5,5,5,5,5,5,5,5,5,5,5,5,5,5,6,6,6,6,6,6,6,6,6,6,6,6,6,6,6,6,6,6,6,6,6,6,6,6,6,6,6,6,6,6,6,6] [7,7,7,7,7,7,7,7,7,7,7,7,7,7,7,7,7,7,7,7,7,7,7,7,7,7,7,7,7,7,7,7,7,7,7,7,7,7,7,7,7,7,7,7,7,7,7,7,7,7,7,7,7,7,7,7,7,7,7,7,7,7,7,7]) (t9 [8,8,8,8,8,8,8,8,8,8,8,8,8,8,8,8,8,8,8,8,8,8,8,8,8,8,8,8,8,8,8,8,8,8,8,8,8,8,8,8,8,8,8,8,8,8,8,8,8,8,8,8,8,8,8,8,8,8,8,8,8,8,8,8] [8,8,8,8,8,8,8,8,8,8,8,8,8,8,8,8,8,8,8,8,8,8,8,8,8,8,8,8,8,8,8,8,8,8,8,8,8,8,8,8,8,8,8,8,8,8,8,8,8,8,8,8,8,8,8,8,8,8,8,8,8,8,8,8])))) (ws y3))))) no)) (ae (decide (x0>=256)) (ae (bb y2 256) (ret (wI (8+wI (Ez (ByteArray.mk (List.toArray (t9 (t9 [0,1,2,2,3,3,3,3,4,4,4,4,4,4,4,4,5,5,5,5,5,5,5,5,5,5,5,5,5,5,5,5,6,6,6,6,6,6,6,6,6,6,6,6,6,6,6,6,6,6,6,6,6,6,6,6,6,6,6,6,6,6,6,6] [7,7,7,7,7,7,7,7,7,7,7,7,7,7,7,7,7,7,7,7,7,7,7,7,7,7,7,7,7,7,7,7,7,7,7,7,7,7,7,7,7,7,7,7,7,7,7,7,7,7,7,7,7,7,7,7,7,7,7,7,7,7,7,7]) (t9 [8,8,8,8,8,8,8,8,8,8,8,8,8,8,8,8,8,8,8,8,8,8,8,8,8,8,8,8,8,8,8,8,8,8,8,8,8,8,8,8,8,8,8,8,8,8,8,8,8,8,8,8,8,8,8,8,8,8,8,8,8,8,8,8] [8,8,8,8,8,8,8,8,8,8,8,8,8,8,8,8,8,8,8,8,8,8,8,8,8,8,8,8,8,8,8,8,8,8,8,8,8,8,8,8,8,8,8,8,8,8,8,8,8,8,8,8,8,8,8,8,8,8,8,8,8,8,8,8])))) (ws y2))))) no) (ae (bb (IntKind.wrap IntKind.u8 x0) 256) (ret (wI (0+wI (Ez (ByteArray.mk (List.toArray (t9 (t9 [0,1,2,2,3,3,3,3,4,4,4,4,4,4,4,4,5,5,5,5,5,5,5,5,5,5,5,5,5,5,5,5,6,6,6,6,6,6,6,6,6,6,6,6,6,6,6,6,6,6,6,6,6,6,6,6,6,6,6,6,6,6,6,6] [7,7,7,7,7,7,7,7,7,7,7,7,7,7,7,7,7,7,7,7,7,7,7,7,7,7,7,7,7,7,7,7,7,7,7,7,7,7,7,7,7,7,7,7,7,7,7,7,7,7,7,7,7,7,7,7,7,7,7,7,7,7,7,7]) (t9 [8,8,8,8,8,8,8,8,8,8,8,8,8,8,8,8,8,8,8,8,8,8,8,8,8,8,8,8,8,8,8,8,8,8,8,8,8,8,8,8,8,8,8,8,8,8,8,8,8,8,8,8,8,8,8,8,8,8,8,8,8,8,8,8] [8,8,8,8,8,8,8,8,8,8,8,8,8,8,8,8,8,8,8,8,8,8,8,8,8,8,8,8,8,8,8,8,8,8,8,8,8,8,8,8,8,8,8,8,8,8,8,8,8,8,8,8,8,8,8,8,8,8,8,8,8,8,8,8])))) (ws (IntKind.wrap IntKind.u8 x0)))))) no)))
def Ig:=λx0=>(abx x0).val
theorem aGw:D0 [] 267 aqf (lf Wb) λb=>abx b:=λb=>by kernel_rfl
theorem aGx [ax]:SC (aqi Ig):=s0 (.nil _) aGw
def LR:=qa (pl aHI nil)
def AO:=qe Hn
abbrev LS:=AO.B
abbrev BM:=Int->Option LS
def LU (g:BM):Ct:=(261,FC LR (lf AO) (λb=>g b))
def BN (Qk:aqh)(x0:Int):Pg LS:=opt (Qk x0) λd=>ret (wI (64-d))
def pH:=λx0=>(BN Ig x0).val
theorem af6:∀Qk,D0 [aqi Qk] 261 LR (lf AO) λb=>BN Qk b:=λ_ b=>by kernel_rfl
theorem af7 [ax]:SC (LU pH):=s0 (.c aGx (.nil _)) (af6 Ig)
def aqj:=qa (pl (c an (c an aHI)) nil)
def Wc:=qe aP1
abbrev aqk:=Wc.B
abbrev aql:=Int->Int->Int->Option aqk
def aqm (g:aql):Ct:=(241,FC aqj (lf Wc) (λb=>g b.1 b.2.1 b.b))
def vT:=qs (st (pl (us 2 (c an (us 5 (c an (c an (c an (c an (us 1 (c an (c an (c an (cl an (us 88 aPu))))))))))))) (pu nil nil)))
def auA:=qs (st (pl (us 2 (c an (us 5 (c an (c an (c an (c an (us 1 (c an (c an (c an (c an (us 50 (c an (c ab (cu Ho (xs 8 (cu Ho aWh)))))))))))))))))) (pu nil nil)))
def auB:=qs (st (pl (us 2 (c an (us 5 (c an (c an (c an (c an (us 1 (c an (c an (c an (c an (us 50 (c an (c ab (cu mW (c an (c an (c an (c an (c an (c an (c an (c ab (c ab aWh))))))))))))))))))))))))) (pu nil nil)))
def auC:=qs (st (pl (us 2 (c an (us 5 (c an (c an (c an (c an (us 1 (c an (c an (c an (c an (us 50 (c an (c ab (cu mW (c an (c an (c an (c an (c an (c an (c an (c ab (cl ab (us 26 aPu)))))))))))))))))))))))))) (pu nil nil)))
abbrev I6:=a0z⊕a0x
def ain {ρ:Type}(x:I6)(K:AX->St->Option ρ):Option ρ:=(t8 (λd=>K (.ex 0) (auA.em (d.1,d.2.1,d.b.1,d.b.2.1,d.c.1,d.c.2.1,d.c.b.1,d.c.b.2.1,d.d.1,d.d.2.1,d.d.b.1,d.d.2.1,d.c.b.2.1,d.d.b.2.1,d.b.1,d.d.1,d.d.1,d.d.c))) (t8 (λd=>K (.ex 0) (auB.em (d.1,d.2.1,d.b.1,d.b.2.1,d.c.1,d.c.2.1,d.c.b.1,d.c.b.2.1,d.d.1,d.d.2.1,d.d.b.1,d.d.2.1,d.b.2.1,d.d.b.2.1,d.d.c.1,d.d.c.2.1,d.c.2.1,d.d.c.b.1,d.d.c.b.2.1,d.d.c.b.2.1,d.d.2.1,d.c.b.2.1,d.d.c.1,d.b.1,d.d.1,d.d.1,d.e))) (λd=>K (.ex 0) (auC.em (d.1,d.2.1,d.b.1,d.b.2.1,d.c.1,d.c.2.1,d.c.b.1,d.c.b.2.1,d.d.1,d.c.b.2.1,d.d.2.1,d.c.b.2.1,d.b.2.1,d.d.b.1,d.d.1,d.d.b.2.1,d.c.2.1,d.d.c.1,d.d.c.2,d.d.c.2))))) x
def I7 (d:vT.B):PL vT I6:=let y0:=wU (4294967296*d.2.2.2.2.2.2.2.2);let y1:=wU (d.2.2.2.2.2.2.2.1-1);let y2:=wU (d.2.2.2.2.2.2.2.2+d.2.2.1);let y3:=wU (d.2.2.2.2.2.2.2.1*d.2.2.2.1);let y4:=decide (d.2.2.2.2.2.2.2.1>=4294967296);let y5:=wU (y0+d.2.2.2.2.2.1);let y6:=decide (y2>=4294967296);let y7:=decide (y3>y5);ae y4 (ae y6 (ret (wn (wr (d.1,d.2.1,d.2.2.1,d.2.2.2.1,d.2.2.2.2.1,d.2.2.2.2.2.1,d.2.2.2.2.2.2.1,y1,y2,d.2.2.2.2.2.2.2.1,y4,d.2.2.2.2.2.2.2.2,y6)))) (ret (wr (d.1,d.2.1,d.2.2.1,d.2.2.2.1,d.2.2.2.2.1,d.2.2.2.2.2.1,d.2.2.2.2.2.2.1,y1,y2)))) (ae y7 (ae y6 (ret (wn (wn (wr (d.1,d.2.1,d.2.2.1,d.2.2.2.1,d.2.2.2.2.1,d.2.2.2.2.2.1,d.2.2.2.2.2.2.1,y1,y2,d.2.2.2.2.2.2.2.1,y4,y3,d.2.2.2.2.2.2.2.2,y0,y5,y7,y6))))) (ret (wr (d.1,d.2.1,d.2.2.1,d.2.2.2.1,d.2.2.2.2.1,d.2.2.2.2.2.1,d.2.2.2.2.2.2.1,y1,y2)))) (ret (wn (wn (wn (d.1,d.2.1,d.2.2.1,d.2.2.2.1,d.2.2.2.2.1,d.2.2.2.2.2.1,d.2.2.2.2.2.2.1,d.2.2.2.2.2.2.2.1,d.2.2.2.2.2.2.2.2,y4,y3,y0,y5,y7))))))
def I8:=bD (I7) 2000
def vU:=qs (st (pl (us 2 (c an (us 5 (c an (c an (c an (us 3 (c an (c an (c an (c an (cl an (us 116 nil))))))))))))) (pu nil nil)))
def auD:=qs (st (pl (us 2 (c an (us 5 (c an (c an (c an (us 3 (c an (c an (c an (c an (c an (us 83 (c an (c ab (cu Ho (xs 8 (cu Ho aV3)))))))))))))))))) (pu nil nil)))
def auE:=qs (st (pl (us 2 (c an (us 5 (c an (c an (c an (us 3 (c an (c an (c an (c an (c an (us 83 (c an (c ab (cu mW (c an (c an (c an (c an (c an (c an (c an (c ab (c ab aV3))))))))))))))))))))))))) (pu nil nil)))
def auF:=qs (st (pl (us 2 (c an (us 5 (c an (c an (c an (us 3 (c an (c an (c an (c an (c an (us 83 (c an (c ab (cu mW (c an (c an (c an (c an (c an (c an (c an (c ab aPw)))))))))))))))))))))))) (pu nil nil)))
abbrev Dl:=a0z⊕a0x
def aio {ρ:Type}(x:Dl)(K:AX->St->Option ρ):Option ρ:=(t8 (λd=>K (.ex 2) (auD.em (d.1,d.2.1,d.b.1,d.b.2.1,d.c.1,d.c.2.1,d.c.b.1,d.c.b.2.1,d.d.1,d.d.2.1,d.d.b.1,d.d.2.1,d.d.1,d.d.b.2.1,d.b.1,d.c.b.1,d.c.b.1,d.d.c))) (t8 (λd=>K (.ex 2) (auE.em (d.1,d.2.1,d.b.1,d.b.2.1,d.c.1,d.c.2.1,d.c.b.1,d.c.b.2.1,d.d.1,d.d.2.1,d.d.b.1,d.d.2.1,d.b.2.1,d.d.b.2.1,d.d.c.1,d.d.c.2.1,d.c.1,d.d.c.b.1,d.d.c.b.2.1,d.d.c.b.2.1,d.d.2.1,d.d.1,d.d.c.1,d.b.1,d.c.b.1,d.c.b.1,d.e))) (λd=>K (.ex 2) (auF.em (d.1,d.2.1,d.b.1,d.b.2.1,d.c.1,d.c.2.1,d.c.b.1,d.c.b.2.1,d.d.1,d.d.1,d.d.2.1,d.d.1,d.b.2.1,d.d.b.1,d.c.b.1,d.d.b.2.1,d.c.1,d.d.c.1,d.d.c.2,d.d.c.2))))) x
def I9 (d:vU.B):PL vU Dl:=let y0:=wU (4294967296*d.2.2.2.2.2.2.1);let y1:=wU (d.2.2.2.2.2.2.2.2-1);let y2:=wU (d.2.2.2.2.2.2.1+d.2.2.1);let y3:=wU (d.2.2.2.2.2.2.2.2*d.2.2.2.1);let y4:=wU (y0+d.2.2.2.2.1);let y5:=decide (d.2.2.2.2.2.2.2.2>=4294967296);let y6:=decide (y2>=4294967296);let y7:=decide (y3>y4);ae y5 (ae y6 (ret (wn (wr (d.1,d.2.1,d.2.2.1,d.2.2.2.1,d.2.2.2.2.1,d.2.2.2.2.2.1,y2,d.2.2.2.2.2.2.2.1,y1,d.2.2.2.2.2.2.2.2,y5,d.2.2.2.2.2.2.1,y6)))) (ret (wr (d.1,d.2.1,d.2.2.1,d.2.2.2.1,d.2.2.2.2.1,d.2.2.2.2.2.1,y2,d.2.2.2.2.2.2.2.1,y1)))) (ae y7 (ae y6 (ret (wn (wn (wr (d.1,d.2.1,d.2.2.1,d.2.2.2.1,d.2.2.2.2.1,d.2.2.2.2.2.1,y2,d.2.2.2.2.2.2.2.1,y1,d.2.2.2.2.2.2.2.2,y5,y3,d.2.2.2.2.2.2.1,y0,y4,y7,y6))))) (ret (wr (d.1,d.2.1,d.2.2.1,d.2.2.2.1,d.2.2.2.2.1,d.2.2.2.2.2.1,y2,d.2.2.2.2.2.2.2.1,y1)))) (ret (wn (wn (wn (d.1,d.2.1,d.2.2.1,d.2.2.2.1,d.2.2.2.2.1,d.2.2.2.2.2.1,d.2.2.2.2.2.2.1,d.2.2.2.2.2.2.2.1,d.2.2.2.2.2.2.2.2,y5,y3,y0,y4,y7))))))
def I':=bD (I9) 2000
def aby (af8:BM)(eH:LT vT I6)(qG:LT vU Dl)(x0:Int)(x1:Int)(x2:Int):Pg aqk:=let k9:=λ(x:Dl)=>sum x (λd=>ae (!decide (d.2.1<0)) (ret (wU (wU (d.2.2.2.2.2.1*4294967296)+d.2.2.2.2.2.2.2.2.1),ul (wU (wU (wU (d.2.2.2.2.2.2.2.1*4294967296)+d.2.2.2.2.1)-wU (d.2.2.2.2.2.2.2.2.1*d.1))) (2^min (ws d.2.1) 64))) no) λx=>sum x (λd=>ae (!decide (d.2.1<0)) (ret (wU (wU (d.2.2.2.2.2.1*4294967296)+d.2.2.2.2.2.2.2.2.1),ul (wU (wU (wU (d.2.2.2.2.2.2.2.1*4294967296)+d.2.2.2.2.1)-wU (d.2.2.2.2.2.2.2.2.1*d.1))) (2^min (ws d.2.1) 64))) no) λd=>ae (!decide (d.2.1<0)) (ret (wU (wU (d.2.2.2.2.2.1*4294967296)+d.2.2.2.2.2.2.2.2.1),ul (wU (wU (wU (d.2.2.2.2.2.2.2.1*4294967296)+d.2.2.2.2.1)-wU (d.2.2.2.2.2.2.2.2.1*d.1))) (2^min (ws d.2.1) 64))) no;let y0:= !decide (x2=0);ae (x2==0) no (ae (decide (x2<=x0)) no (ae (x0==0) (ae y0 (ae y0 (ret (wU (t7 x1 x2),Int.tmod x1 x2)) no) no) (opt (af8 x2) λd=>let y0:=wU (64-wU d);let y1:=2^min (ws (wU d)) 64;let y2:= !decide (wU d<0);let y3:=wU (x1*y1);let y4:=wU (x2*y1);let y5:=ul y4 4294967296;let y6:=wU (wl (v4 (v9 64 (wU (x0*y1))|||v9 64 (ul x1 (2^min (ws y0) 64)))));let y7:=wU (t7 y6 y5);ae y2 (ae y2 (ae (!decide (y0<0)) (ae y2 (ae (!decide (y5=0)) (opt (eH (y4,wU d,y5,wU (wl (v4 (v9 64 y4&&&v9 64 4294967295))),y6,ul y3 4294967296,wU (wl (v4 (v9 64 y3&&&v9 64 4294967295))),y7,wU (y6-wU (y7*y5)))) λx=>sum x (λd=>let y0:=wU (wU (wU (d.2.2.2.2.1*4294967296)+d.2.2.2.2.2.1)-wU (d.2.2.2.2.2.2.2.1*d.1));let y1:=wU (t7 y0 d.2.2.1);ae (!decide (d.2.2.1=0)) (opt (qG (d.1,d.2.1,d.2.2.1,d.2.2.2.1,d.2.2.2.2.2.2.1,d.2.2.2.2.2.2.2.1,wU (y0-wU (y1*d.2.2.1)),y0,y1)) k9) no) λx=>sum x (λd=>let y0:=wU (wU (wU (d.2.2.2.2.1*4294967296)+d.2.2.2.2.2.1)-wU (d.2.2.2.2.2.2.2.1*d.1));let y1:=wU (t7 y0 d.2.2.1);ae (!decide (d.2.2.1=0)) (opt (qG (d.1,d.2.1,d.2.2.1,d.2.2.2.1,d.2.2.2.2.2.2.1,d.2.2.2.2.2.2.2.1,wU (y0-wU (y1*d.2.2.1)),y0,y1)) k9) no) λd=>let y0:=wU (wU (wU (d.2.2.2.2.1*4294967296)+d.2.2.2.2.2.1)-wU (d.2.2.2.2.2.2.2.1*d.1));let y1:=wU (t7 y0 d.2.2.1);ae (!decide (d.2.2.1=0)) (opt (qG (d.1,d.2.1,d.2.2.1,d.2.2.2.1,d.2.2.2.2.2.2.1,d.2.2.2.2.2.2.2.1,wU (y0-wU (y1*d.2.2.1)),y0,y1)) k9) no) no) no) no) no) no)))
def Ih:=λx0 x1 x2=>(aby pH I8 I' x0 x1 x2).val
abbrev Ii:=BM×(LT vT I6)×(LT vU Dl)
def Ql (p:Ii):KK:=⟨[LU p.1],⟨[⟨17,(0::1::rg 3 5 (12::rg 17 53 (rg 78 27 (rg 113 22 (rg 70 8 []))))),[]⟩,⟨24,(0::1::rg 3 5 (11::12::13::rg 19 86 (rg 113 22 (rg 105 8 [])))),[]⟩],[fW 17 0 vT ain p.2.1,fW 24 0 vU aio p.b],[],[],(some ⟨0,(rg 0 6 (rg 8 127 [])),[]⟩)⟩,0,241⟩
theorem axO (p:Ii):LI (Ql p) 17 vT ain (I7):=λ_ d c K=>by kernel_rfl
theorem axP (p:Ii):LI (Ql p) 24 vU aio (I9):=λ_ d c K=>by kernel_rfl
theorem aGy (p:Ii):D2 (Ql p) aqj (lf Wc) λb=>aby p.1 p.2.1 p.b b.1 b.2.1 b.b:=λb=>by kernel_rfl
abbrev Qm:Ii:=(pH,I8,I')
theorem aGz [ax]:SC (aqm Ih):=sc (kS (k:=Ql Qm) (.c af7 (.nil _)) [17,24] [] ⟨kL (axO Qm),⟨kL (axP Qm),trivial⟩⟩ trivial (aGy Qm))
def azE:=qa (pl (c afe jc) nil)
def af9:=qe aw4
abbrev azF:=af9.B
abbrev alo:=Int->Int->Int->Option azF
def alp (g:alo):Ct:=(200,FC azE (lf af9) (λb=>g b.1.1 b.1.2 b.2))
def alq (yy:alg)(iS:Qf)(Qn:aql)(fF:vS)(fG:AN)(x0:Int)(x1:Int)(x2:Int):Pg azF:=ae (x2==0) (ret (0,false)) (opt (yy x0 x1) λd=>let y0:= !d.2==decide (x2<0);opt (iS x2) λaj=>let uG:=wU (t7 d.1.1 aj);let y1:= !decide (aj=0);ae y1 (ae y1 (opt (Qn (Int.tmod d.1.1 aj) d.1.2 aj) λd=>ae (decide (d.2>=wU (aj-d.2))) (opt (fF uG d.1 0 1) λd=>opt (fG d.1 d.2 y0) λd=>ret d) (opt (fG uG d.1 y0) λd=>ret d)) no) no)
def Bs:=λx0 x1 x2=>(alq Fk rV Ih jJ jK x0 x1 x2).val
theorem aNI:∀yy iS Qn fF fG,D0 [alh yy,Qg iS,aqm Qn,Gu fF,Gv fG] 200 azE (lf af9) λb=>alq yy iS Qn fF fG b.1.1 b.1.2 b.2:=λ_ _ _ _ _ b=>by kernel_rfl
theorem azG [ax]:SC (alp Bs):=s0 (.c azD (.c abq (.c aGz (.c Ox (.c OA (.nil _)))))) (aNI Fk rV Ih jJ jK)
def auG:=qa (pr (cu aP (c afe jc)) bG)
def abz:=qe qO
abbrev auH:=abz.B
abbrev aga:=Int->Int->Int->Bool->Option auH
def agb (g:aga):Ct:=(128,FC auG (lf abz) (λb=>g b.1.1.1 b.1.1.2 b.1.2 b.2))
def LV (kv:V3)(yA:alo)(nV:Ic)(x0:Int)(x1:Int)(x2:Int)(x3:Bool):Pg auH:=let y0:=decide (x0<0);ae (x2==0) (ae (x0==0&&(x1==0&&true)) (ret (0,true)) (opt (kv y0) λd=>ret (d,true))) (opt (yA x0 x1 x2) λd=>opt (nV d.1 d.2 (!y0==decide (x2<0)) x3) λd=>ret d)
def yB:=λx0 x1 x2 x3=>(LV qY Bs nU x0 x1 x2 x3).val
theorem aKi:∀kv yA nV,D0 [V4 kv,alp yA,Qj nV] 128 auG (lf abz) λb=>LV kv yA nV b.1.1.1 b.1.1.2 b.1.2 b.2:=λ_ _ _ b=>by kernel_rfl
theorem auI [ax]:SC (agb yB):=s0 (.c af5 (.c azG (.c abv (.nil _)))) (aKi qY Bs nU)
def adD:=qa (pr (cu aP E6) bG)
def LW:=qe qO
abbrev adE:=LW.B
abbrev cB:=Int->Int->Int->Bool->Option adE
def dD (g:cB):Ct:=(78,FC adD (lf LW) (λb=>g b.1.1 b.1.2.1 b.1.b b.2))
def Gw (aw:bO)(cW:oL)(uQ:aga)(x0:Int)(x1:Int)(x2:Int)(x3:Bool):Pg adE:=opt (aw x0 x3) λd=>opt (aw x1 d.2) λaj=>opt (cW d.1 aj.1) λd=>opt (aw x2 aj.2) λaD=>opt (uQ d.1 d.2 aD.1 aD.2) λd=>ret d
def aU:=λx0 x1 x2 x3=>(Gw aR fP yB x0 x1 x2 x3).val
theorem axQ:∀aw cW uQ,D0 [dH aw,yx cW,agb uQ] 78 adD (lf LW) λb=>Gw aw cW uQ b.1.1 b.1.2.1 b.1.b b.2:=λ_ _ _ b=>by kernel_rfl
theorem dQ [ax]:SC (dD aU):=s0 (.c dM (.c Br (.c auI (.nil _)))) (axQ aR fP yB)
def LX:=qa (pr (c ai (c ai aJk)) (cu ar5 bG))
def AP:=qe aPY
abbrev LY:=AP.B
abbrev BO:=Int->Int->Int->Int->Bool->Option LY
def BP (g:BO):Ct:=(194,FC LX (lf AP) (λb=>g b.1.1 b.1.2.1 b.1.b.1 b.1.b.2 b.2))
def BQ (aq:cB)(x0:Int)(x1:Int)(x2:Int)(x3:Int)(x4:Bool):Pg LY:=opt (aq (wI (x1-x0)) x2 x3 x4) λd=>ret (wI (x0+d.1),d.2)
def ky:=λx0 x1 x2 x3 x4=>(BQ aU x0 x1 x2 x3 x4).val
theorem agc:∀aq,D0 [dD aq] 194 LX (lf AP) λb=>BQ aq b.1.1 b.1.2.1 b.1.b.1 b.1.b.2 b.2:=λ_ b=>by kernel_rfl
theorem LZ [ax]:SC (BP ky):=s0 (.c dQ (.nil _)) (agc aU)
def aqn:=qa (pl zE nil)
def Wd:=qe aP5
abbrev aqo:=Wd.B
abbrev abA:=Int->Int->Option aqo
def abB (g:abA):Ct:=(132,FC aqn (lf Wd) (λb=>g b.1 b.2))
def abC (iS:Qf)(kR:Dj)(jE:Dk)(pG:V0)(x0:Int)(x1:Int):Pg aqo:=ae (decide (x1<0)) (ret ((0,0),false)) (ae (decide (x1>127)) (ret ((0,0),false)) (opt (iS x0) λd=>opt (kR 0 d x1) λaj=>opt (jE aj.1 aj.2 x1) λaD=>ae (!(aD.1==0&&(aD.2==d&&true))) (ret ((0,0),false)) (opt (pG aj.1 aj.2 (decide (x0<0))) λd=>ae (!d.2) (ret ((0,0),false)) (ret (d.1,true)))))
def vG:=λx0 x1=>(abC rV ix jD nT x0 x1).val
theorem aGA:∀iS kR jE pG,D0 [Qg iS,I2 kR,I3 jE,V1 pG] 132 aqn (lf Wd) λb=>abC iS kR jE pG b.1 b.2:=λ_ _ _ _ b=>by kernel_rfl
theorem aqp [ax]:SC (abB vG):=s0 (.c abq (.c SF (.c SG (.c ald (.nil _))))) (aGA rV ix jD nT)
def aqq:=qa (pr (cu aP E6) bG)
def We:=qe qO
abbrev aqr:=We.B
abbrev cO:=Int->Int->Int->Bool->Option aqr
def gO (g:cO):Ct:=(82,FC aqq (lf We) (λb=>g b.1.1 b.1.2.1 b.1.b b.2))
def Qo (aw:bO)(rX:abA)(uQ:aga)(x0:Int)(x1:Int)(x2:Int)(x3:Bool):Pg aqr:=opt (aw x0 x3) λd=>opt (aw x1 d.2) λaj=>ae (decide (x2<0)) (ret (0,true)) (ae (decide (x2>66)) (ret (0,true)) (opt (rX d.1 x2) λd=>opt (uQ d.1.1 d.1.2 aj.1 aj.2) λd=>ret d))
def bo:=λx0 x1 x2 x3=>(Qo aR vG yB x0 x1 x2 x3).val
theorem aGB:∀aw rX uQ,D0 [dH aw,abB rX,agb uQ] 82 aqq (lf We) λb=>Qo aw rX uQ b.1.1 b.1.2.1 b.1.b b.2:=λ_ _ _ b=>by kernel_rfl
theorem iT [ax]:SC (gO bo):=s0 (.c dM (.c aqp (.c auI (.nil _)))) (aGB aR vG yB)
def adF:=qa (pl (c VC (cl VC nil)) nil)
def L3:=qe E5
abbrev adG:=L3.B
abbrev Gx:=Int->Int->Int->Int->Option adG
def adH (g:Gx):Ct:=(243,FC adF (lf L3) (λb=>g b.1.1 b.1.2 b.2.1 b.b))
def OC (x0:Int)(x1:Int)(x2:Int)(x3:Int):Pg adG:=ae (decide (x0<x2)) (ret true) (ae (x0==x2) (ret (decide (x1<x3))) (ret false))
def vV:=λx0 x1 x2 x3=>(OC x0 x1 x2 x3).val
theorem axR:D0 [] 243 adF (lf L3) λb=>OC b.1.1 b.1.2 b.2.1 b.b:=λb=>by kernel_rfl
theorem axS [ax]:SC (adH vV):=s0 (.nil _) axR
def ZP:=qa (pl (c VC (cl VC nil)) nil)
def JV:=qe aJo
abbrev ZQ:=JV.B
abbrev L4:=Int->Int->Int->Int->Option ZQ
def ZR (g:L4):Ct:=(244,FC ZP (lf JV) (λb=>g b.1.1 b.1.2 b.2.1 b.b))
def L5 (alr:aX4)(x0:Int)(x1:Int)(x2:Int)(x3:Int):Pg ZQ:=opt (alr x1 x3 0) λd=>opt (alr x0 x2 d.2) λaj=>ret (aj.1,d.1)
def yC:=λx0 x1 x2 x3=>(L5 adx x0 x1 x2 x3).val
theorem auJ:∀alr,D0 [aNC alr] 244 ZP (lf JV) λb=>L5 alr b.1.1 b.1.2 b.2.1 b.b:=λ_ b=>by kernel_rfl
theorem auK [ax]:SC (ZR yC):=s0 (.c aTL (.nil _)) (auJ adx)
def auL:=qa (pl aC4 nil)
def abD:=qe aw4
abbrev auM:=abD.B
abbrev auN:=Int->Int->Option auM
def auO (g:auN):Ct:=(202,FC auL (lf abD) (λb=>g b.1 b.2))
def yc:=qs (st (pr (us 4 (cu (app 0 2) (cu aMs (cl ai (us 44 nil))))) (pl (c (so awW) (cl (so awW) nil)) nil)))
def aEG:=qs (st (pr (us 4 (cu (app 0 2) (cu aMs (c ai (us 12 aVn))))) (pl (c (so awW) (cl (so awW) nil)) nil)))
abbrev L6:=((Int×Bool)×(Int×Int)×Int×Int)
def als {ρ:Type}(x:L6)(K:AX->St->Option ρ):Option ρ:=(λd=>K (.ex 0) (aEG.em ((d.1.1,d.1),d.2))) x
def L7 (kR:Dj)(fF:vS)(jE:Dk)(OD:Gx)(auP:L4)(d:yc.B):PL yc L6:=let y0:=wI (d.1-2);let y1:=decide (d.1>=0);ae y1 (opt (kR 0 1 d.1) λaj=>opt (fF d.2.2.1 d.2.2.2 aj.1 aj.2) λaD=>opt (jE d.2.2.1 d.2.2.2 1) λbC=>opt (OD d.2.1.1 d.2.1.2 aD.1 aD.2) λcM=>ae (!cM) (opt (auP d.2.1.1 d.2.1.2 aD.1 aD.2) λd=>opt (fF bC.1 bC.2 aj.1 aj.2) λfA=>ret (wr (y0,d,fA))) (ret (wr (y0,d.2.1,bC)))) (ret (wn ((d.1,y1),d.2)))
def Wf:=bD (L7 ix jJ jD vV yC) 2000
def agd (fF:vS)(OD:Gx)(fG:AN)(eH:LT yc L6)(x0:Int)(x1:Int):Pg auM:=ae (decide (x0<0)) (ret (0,false)) (opt (eH (126,(wU x0,x1),0,0)) λd=>opt (OD d.2.2.1 d.2.2.2 d.2.1.1 d.2.1.2) λaj=>ae aj (opt (fF d.2.2.1 d.2.2.2 0 1) λd=>opt (fG d.1 d.2 false) λd=>ret d) (opt (fG d.2.2.1 d.2.2.2 false) λd=>ret d))
def L8:=λx0 x1=>(agd jJ vV jK Wf x0 x1).val
abbrev UQ:=Dj×vS×Dk×Gx×L4×AN×(LT yc L6)
def age (p:UQ):KK:=⟨[I2 p.1,Gu p.2.1,I3 p.b.1,adH p.b.2.1,ZR p.c.1,Gv p.c.2.1],⟨[⟨5,(rg 0 4 (rg 7 44 [])),[]⟩],[fW 5 0 yc als p.c.b],[],[],(some ⟨0,(0::1::rg 4 47 []),[]⟩)⟩,0,202⟩
theorem aBE (p:UQ):LI (age p) 5 yc als (L7 p.1 p.2.1 p.b.1 p.b.2.1 p.c.1):=λ_ d c K=>by kernel_rfl
theorem aKj (p:UQ):D2 (age p) auL (lf abD) λb=>agd p.2.1 p.b.2.1 p.c.2.1 p.c.b b.1 b.2:=λb=>by kernel_rfl
abbrev agf:UQ:=(ix,jJ,jD,vV,yC,jK,Wf)
theorem aKk [ax]:SC (auO L8):=sc (kS (k:=age agf) (.c SF (.c Ox (.c SG (.c axS (.c auK (.c OA (.nil _))))))) [5] [] ⟨kL (aBE agf),trivial⟩ trivial (aKj agf))
def azH:=qa (pr (cu aP aC4) bG)
def agh:=qe qO
abbrev azI:=agh.B
abbrev ZS:=Int->Int->Bool->Option azI
def alu (g:ZS):Ct:=(133,FC azH (lf agh) (λb=>g b.1.1 b.1.2 b.2))
def alv (UR:auN)(aw:bO)(x0:Int)(x1:Int)(x2:Bool):Pg azI:=opt (UR x0 x1) λd=>ae (!d.2) (opt (aw 1152921504606846977 x2) λd=>ret d) (opt (aw d.1 x2) λd=>ret d)
def yD:=λx0 x1 x2=>(alv L8 aR x0 x1 x2).val
theorem aNJ:∀UR aw,D0 [auO UR,dH aw] 133 azH (lf agh) λb=>alv UR aw b.1.1 b.1.2 b.2:=λ_ _ b=>by kernel_rfl
theorem azJ [ax]:SC (alu yD):=s0 (.c aKk (.c dM (.nil _))) (aNJ L8 aR)
def auQ:=qa (pr (cu aP jc) bG)
def abE:=qe qO
abbrev auR:=abE.B
abbrev agi:=Int->Bool->Option auR
def agj (g:agi):Ct:=(81,FC auQ (lf abE) (λb=>g b.1 b.2))
def agk (aw:bO)(rX:abA)(KP:ZS)(x0:Int)(x1:Bool):Pg auR:=opt (aw x0 x1) λd=>ae (decide (d.1<0)) (ret (0,true)) (opt (rX d.1 30) λaj=>opt (KP aj.1.1 aj.1.2 d.2) λd=>ret d)
def BS:=λx0 x1=>(agk aR vG yD x0 x1).val
theorem aKl:∀aw rX KP,D0 [dH aw,abB rX,alu KP] 81 auQ (lf abE) λb=>agk aw rX KP b.1 b.2:=λ_ _ _ b=>by kernel_rfl
theorem auS [ax]:SC (agj BS):=s0 (.c dM (.c aqp (.c azJ (.nil _)))) (aKl aR vG yD)
def auT:=qa (pl jc nil)
def abF:=qe Hn
abbrev auU:=abF.B
abbrev yE:=Int->Option auU
def BT (g:yE):Ct:=(129,FC auT (lf abF) (λb=>g b))
def US (x0:Int):Pg auU:=let y0:=Int.tmod x0 6746518852;ae (decide (y0>3373259426)) (ret (wI (y0-6746518852))) (ae (decide (y0<= -3373259426)) (ret (wI (y0+6746518852))) (ret y0))
def lI:=λx0=>(US x0).val
theorem aKm:D0 [] 129 auT (lf abF) λb=>US b:=λb=>by kernel_rfl
theorem Gy [ax]:SC (BT lI):=s0 (.nil _) aKm
def aIn:=qa (pl jc nil)
def asM:=qe Hn
abbrev adI:=asM.B
abbrev OE:=Int->Option adI
def adJ (g:OE):Ct:=(36,FC aIn (lf asM) (λb=>g b))
def DV (x0:Int):Pg adI:=ae (decide (x0>=1152921504606846976)) (ret 1152921504606846976) (ae (decide (x0<= -1152921504606846976)) (ret 1152921504606846976) (ae (decide (x0<0)) (ret (wI (0-x0))) (ret x0)))
def yd:=λx0=>(DV x0).val
theorem aTP:D0 [] 36 aIn (lf asM) λb=>DV b:=λb=>by kernel_rfl
theorem aoL [ax]:SC (adJ yd):=s0 (.nil _) aTP
def aIo:=qa (pr (cu aP zE) bG)
def asN:=qe qO
abbrev aIp:=asN.B
abbrev adK:=Int->Int->Bool->Option aIp
def aoM (g:adK):Ct:=(130,FC aIo (lf asN) (λb=>g b.1.1 b.1.2 b.2))
def aoN (aB:bX)(x0:Int)(x1:Int)(x2:Bool):Pg aIp:=opt (aB x0 x1 30 x2) λd=>ret d
def KQ:=λx0 x1 x2=>(aoN aV x0 x1 x2).val
theorem aTQ:∀aB,D0 [fI aB] 130 aIo (lf asN) λb=>aoN aB b.1.1 b.1.2 b.2:=λ_ b=>by kernel_rfl
theorem axT [ax]:SC (aoM KQ):=s0 (.c fY (.nil _)) (aTQ aV)
def aEH:=qa (pl jc nil)
def alw:=qe aVL
abbrev aEI:=alw.B
abbrev asO:=Int->Option aEI
def aEJ (g:asO):Ct:=(242,FC aEH (lf alw) (λb=>g b))
def asQ (x0:Int):Pg aEI:=ret (ul x0 9223372036854775808,wU x0)
def Wg:=λx0=>(asQ x0).val
theorem aRd:D0 [] 242 aEH (lf alw) λb=>asQ b:=λb=>by kernel_rfl
theorem aRe [ax]:SC (aEJ Wg):=s0 (.nil _) aRd
def azK:=qa (pl (c afe aC4) nil)
def agl:=qe aP5
abbrev azL:=agl.B
abbrev alx:=Int->Int->Int->Int->Option azL
def azM (g:alx):Ct:=(187,FC azK (lf agl) (λb=>g b.1.1 b.1.2 b.2.1 b.b))
def aly (nS:auy)(x0:Int)(x1:Int)(x2:Int)(x3:Int):Pg azL:=let y0:=decide (x0<0);opt (nS x1 x3 0) λd=>opt (nS (wU x0) (wU x2) d.2) λaj=>ae (!y0==decide (x2<0)) (ret ((wI aj.1,d.1),true)) (ret ((wI aj.1,d.1),decide (wI aj.1<0)==y0))
def KR:=λx0 x1 x2 x3=>(aly Df x0 x1 x2 x3).val
theorem aNK:∀nS,D0 [ak9 nS] 187 azK (lf agl) λb=>aly nS b.1.1 b.1.2 b.2.1 b.b:=λ_ b=>by kernel_rfl
theorem aNL [ax]:SC (azM KR):=s0 (.c aoK (.nil _)) (aNK Df)
def azN:=qa (dp (cl aU5 nil) λa=>(cl (cl (gs a.1 aJc) nil) nil))
def agm:=qe (res (pl aVM (pu Zm nil)))
abbrev azO:=agm.B
abbrev sQ:=Nat->NI->NI->Bool->Option azO
def KS (g:sQ):Ct:=(117,vE 0 [.i .i64,.i .u64] (FC azN (lf agm) (λb=>g b.1.1 b.2.1 b.b b.1.2)))
def AQ:=qs (st (dp (us 2 (cu aMs (us 1 (cu ay3 (us 4 (c aU5 (c ai aPx))))))) λa=>(pl (c (so (cl (gs a.1.1 aJc) nil)) (cu aP6 aa0)) nil)))
def aip:=qs (st (pu (us 2 (cu aMs (cu mW (us 23 nil)))) (pl (cl aP2 (cu aP6 nil)) nil)))
def aBF:=qs (st (pr (us 2 (cu aMs (us 1 (cu ay3 (us 4 (c aU5 aVD)))))) (pl (c aP2 (cu aP6 aa0)) nil)))
abbrev Ij:=aip.B⊕(aMk×(NI×NI)×Int×Int)
def aqs {ρ:Type}(x:Ij)(K:AX->St->Option ρ):Option ρ:=(t8 (λd=>K .ret (aip.em d)) (λd=>K (.ex 0) (aBF.em (d.1,(d.1.1.1,d.2.1),d.b)))) x
def DW (aNM:alx)(d:AQ.B):PL AQ Ij:=let y0:=ws d.1.2.2;let y1:=decide (d.1.2.2<d.1.2.1);ae y1 (ae (bb d.1.2.2 d.1.1.1) (opt (aNM d.2.2.1 d.2.2.2 (d.2.1.1 y0) (d.2.1.2 y0)) λaj=>ae (!aj.2) (ret (wn (wr (d.1.1.1,d.2.1)))) (ret (wr ((d.1.1,d.1.2.1,wI (d.1.2.2+1)),d.2.1,aj.1)))) no) (ret (wn (wn ((d.1.1,d.1.2.1,d.1.2.2,y1),d.2))))
def Ik:=bD (DW KR) 2000
def ZT (eH:LT AQ Ij)(x0:Nat)(x1:Nat->Int)(x2:Nat->Int)(w0:Bool):Pg azO:=ae (ww x0 x0) (opt (eH (((x0,w0),wl x0,0),(x1,x2),0,0)) λx=>sum x (λd=>ret ((0,0),false)) λd=>ret (d.2.2,true)) no
def lr:=λx0 x1 x2 w0=>(ZT Ik x0 x1 x2 w0).val
abbrev ZU:=alx×(LT AQ Ij)
def alz (p:ZU):KK:=⟨[azM p.1],⟨[⟨3,(0::1::3::rg 5 4 (rg 12 15 [])),[]⟩],[fW 3 1 AQ aqs p.2],[],[],(some ⟨0,(0::1::rg 4 23 []),[]⟩)⟩,1,117⟩
theorem aEK (p:ZU):LI (alz p) 3 AQ aqs (DW p.1):=λ_ d c K=>by kernel_rfl
theorem aNN (p:ZU):D2 (alz p) azN (lf agm) λb=>ZT p.2 b.1.1 b.2.1 b.b b.1.2:=λb=>by kernel_rfl
abbrev alA:ZU:=(KR,Ik)
theorem QZ [ax]:SC (KS lr):=sc (Sound.nil 0 [.i .i64,.i .u64]<|kS (k:=alz alA) (.c aNL (.nil _)) [3] [] ⟨kL (aEK alA),trivial⟩ trivial (aNN alA))
def aqt:=qa (dp (cu aP awY) λa=>(c xx (cl (cl (gs a.1 oK) nil) nil)))
def Wh:=qe aJs
abbrev aqu:=Wh.B
abbrev fJ:=Nat->Bool->NI->Bool->Option aqu
def pA (g:fJ):Ct:=(201,vE 1 [.i .i64] (FC aqt (lf Wh) (λb=>g b.1.1 b.2.1 b.b b.1.2)))
def vX:=qs (st (dp (cu aP (us 4 (cu ay3 (us 4 (c H9 (c ai aPy)))))) λa=>(pl (c cH (c (so (cl (gs a.1.1 oK) nil)) aa0)) cR)))
def aBG:=qs (st (pr (cu aP (us 4 (cu ay3 (us 4 (c H9 (c ai aPE)))))) (pl (c cH (c JD aa0)) cR)))
abbrev Ja:=(aMk×Bool×NI×Int×Int)
def aiq {ρ:Type}(x:Ja)(K:AX->St->Option ρ):Option ρ:=(λd=>K (.ex 0) (aBG.em (d.1,d.2.1,(d.1.1.1,d.b.1),d.b.2))) x
def Jb (aw:bO)(aRf:asO)(yF:sQ)(d:vX.B):PL vX Ja:=let y0:=decide (d.1.2.2<d.1.2.1);ae y0 (ae (bb d.1.2.2 d.1.1.1) (opt (aw (d.2.2.1 (ws d.1.2.2)) d.2.1) λaj=>opt (aRf aj.1) λaD=>opt (yF 2 (λj=>bif ww j 1 then aD.1 else bif ww j 0 then d.2.2.2.1 else d.2.2.2.1) (λj=>bif ww j 1 then aD.2 else bif ww j 0 then d.2.2.2.2 else d.2.2.2.2) true) λbC=>ret (wr ((d.1.1,d.1.2.1,wI (d.1.2.2+1)),aj.2,d.2.2.1,bC.1))) no) (ret (wn ((d.1.1,d.1.2.1,d.1.2.2,y0),d.2)))
def SK:=bD (Jb aR Wg lr) 2000
def abG (vF:DU)(nV:Ic)(eH:LT vX Ja)(x0:Nat)(x1:Bool)(x2:Nat->Int)(w0:Bool):Pg aqu:=ae (ww x0 x0) (opt (eH (((x0,w0),wl x0,0),x1,x2,0,0)) λd=>opt (vF d.2.2.2.1 d.2.2.2.2 0) λaj=>opt (nV aj.1 aj.2 (decide (d.2.2.2.1<0)) d.2.1) λd=>ret d) no
def db:=λx0 x1 x2 w0=>(abG rW nU SK x0 x1 x2 w0).val
abbrev Qp:=bO×asO×sQ×DU×Ic×(LT vX Ja)
def abH (p:Qp):KK:=⟨[dH p.1,aEJ p.2.1,KS p.b.1,Qi p.b.2.1,Qj p.c.1],⟨[⟨3,(rg 1 4 (rg 6 4 (rg 13 26 []))),[]⟩],[fW 3 2 vX aiq p.c.2],[0],[],(some ⟨0,(rg 0 4 (rg 5 34 [])),[]⟩)⟩,2,201⟩
theorem axU (p:Qp):LI (abH p) 3 vX aiq (Jb p.1 p.2.1 p.b.1):=λ_ d c K=>by kernel_rfl
theorem aGC (p:Qp):D2 (abH p) aqt (lf Wh) λb=>abG p.b.2.1 p.c.1 p.c.2 b.1.1 b.2.1 b.b b.1.2:=λb=>by kernel_rfl
abbrev abI:Qp:=(aR,Wg,lr,rW,nU,SK)
theorem rY [ax]:SC (pA db):=sc (Sound.nil 1 [.i .i64]<|kS (k:=abH abI) (.c dM (.c aRe (.c QZ (.c abu (.c abv (.nil _)))))) [3] [] ⟨kL (axU abI),trivial⟩ trivial (aGC abI))
def alB:=qa (dp (cu aP aPJ) λa=>(c xx (cl (cl (gs a.2.1 oK) nil) nil)))
def SL:=qe aJs
abbrev alC:=SL.B
abbrev Wi:=Int->Nat->Bool->NI->Bool->Option alC
def Wj (g:Wi):Ct:=(131,vE 2 [.i .i64] (FC alB (lf SL) (λb=>g b.1.1 b.1.2.1 b.2.1 b.b b.1.b)))
def nA:=qs (st (pr (cu aP (c ai (us 5 (c ai (us 6 (c aWm (c ai aI6))))))) (pl (c cH akw) cR)))
def adL:=qs (st (pr (cu aP (c ai (us 5 (c ai (us 6 (c aWm (c ai aJd))))))) (pl (c cH akw) cR)))
abbrev AR:=adL.B
def adM {ρ:Type}:=@ef AR ((.ex 0)) adL ρ
def OF (kt:adK)(cy:fJ)(d:nA.B):PL nA AR:=let n1:=d.1.2.2;let n2:=n1.2.2;let y0:=decide (n2<n1.2.1);ae y0 (ae (bb n2 n1.1.1) (opt (kt d.1.1 d.1.2.1 d.2.1) λaj=>opt (cy 2 aj.2 (cr (d.2.2.2 (1+ws n2)) [aj.1,d.2.2.2 (1+ws n2)]) true) λaD=>ret (wr ((d.1.1,aD.1,n1.1,n1.2.1,wI (n2+1)),aD.2,d.2.2))) no) (ret (wn ((d.1.1,d.1.2.1,n1.1,n1.2.1,n2,y0),d.2)))
def OG:=bD (OF KQ db) 2000
def Wk (eH:LT nA AR)(x0:Int)(x1:Nat)(x2:Bool)(x3:Nat->Int)(w0:Bool):Pg alC:=let y0:=x1-1;ae (bb 0 x1) (ae (KI 1 x1) (opt (eH ((x0,x3 0,(y0,w0&&true),wl y0,0),x2,x1,x3)) λd=>ret (d.1.2.1,d.2.1)) no) no
def nW:=λx0 x1 x2 x3 w0=>(Wk OG x0 x1 x2 x3 w0).val
abbrev L9:=adK×fJ×(LT nA AR)
def Wl (p:L9):KK:=⟨[aoM p.1,pA p.2.1],⟨[⟨3,(rg 2 5 (rg 8 6 (rg 17 13 []))),[]⟩],[fW 3 2 nA adM p.b],[0],[],(some ⟨0,(rg 0 6 (rg 7 23 [])),[]⟩)⟩,2,131⟩
theorem auV (p:L9):LI (Wl p) 3 nA adM (OF p.1 p.2.1):=λ_ d c K=>by kernel_rfl
theorem aEL (p:L9):D2 (Wl p) alB (lf SL) λb=>Wk p.b b.1.1 b.1.2.1 b.2.1 b.b b.1.b:=λb=>by kernel_rfl
abbrev Wm:L9:=(KQ,db,OG)
theorem alD [ax]:SC (Wj nW):=sc (Sound.nil 2 [.i .i64]<|kS (k:=Wl Wm) (.c axT (.c rY (.nil _))) [3] [] ⟨kL (auV Wm),trivial⟩ trivial (aEL Wm))
def azP:=qa (pr (cu aP jc) bG)
def agn:=qe qO
abbrev azQ:=agn.B
abbrev KU:=Int->Bool->Option azQ
def KV (g:KU):Ct:=(79,FC azP (lf agn) (λb=>g b.1 b.2))
def alE (aw:bO)(dA:yE)(dL:OE)(kt:adK)(gD:Wi)(x0:Int)(x1:Bool):Pg azQ:=opt (aw x0 x1) λd=>opt (dA d.1) λaj=>let y0:=wI (3373259426-aj);let y1:=wI (-3373259426-aj);ae (decide (aj>1686629713)) (opt (dL y0) λaD=>let uG:=wI (1686629713-aD);ae (decide (aD<=843314857)) (opt (kt y0 y0 d.2) λd=>opt (gD d.1 6 d.2 (cr (-27) [1073741824, -178956971,8947849, -213044,2959, -27]) true) λd=>opt (kt y0 d.1 d.2) λd=>let y0:=if -1073741824>d.1 then -1073741824 else d.1;ret (if 1073741824<y0 then 1073741824 else y0,d.2)) (opt (kt uG uG d.2) λd=>opt (gD d.1 7 d.2 (cr 2 [1073741824, -536870912,44739243, -1491308,26631, -296,2]) true) λd=>let aqv:=wI (0-d.1);let y1:=if -1073741824>d.1 then -1073741824 else d.1;let y2:=if -1073741824>aqv then -1073741824 else aqv;ae (decide (y0<0)) (ret (if 1073741824<y2 then 1073741824 else y2,d.2)) (ret (if 1073741824<y1 then 1073741824 else y1,d.2)))) (ae (decide (aj< -1686629713)) (opt (dL y1) λaD=>let y0:=wI (1686629713-aD);ae (decide (aD<=843314857)) (opt (kt y1 y1 d.2) λd=>opt (gD d.1 6 d.2 (cr (-27) [1073741824, -178956971,8947849, -213044,2959, -27]) true) λd=>opt (kt y1 d.1 d.2) λd=>let y0:=if -1073741824>d.1 then -1073741824 else d.1;ret (if 1073741824<y0 then 1073741824 else y0,d.2)) (opt (kt y0 y0 d.2) λd=>opt (gD d.1 7 d.2 (cr 2 [1073741824, -536870912,44739243, -1491308,26631, -296,2]) true) λd=>let y0:=wI (0-d.1);let azR:=if -1073741824>d.1 then -1073741824 else d.1;let y2:=if -1073741824>y0 then -1073741824 else y0;ae (decide (y1<0)) (ret (if 1073741824<y2 then 1073741824 else y2,d.2)) (ret (if 1073741824<azR then 1073741824 else azR,d.2)))) (opt (dL aj) λaD=>let y0:=wI (1686629713-aD);ae (decide (aD<=843314857)) (opt (kt aj aj d.2) λd=>opt (gD d.1 6 d.2 (cr (-27) [1073741824, -178956971,8947849, -213044,2959, -27]) true) λd=>opt (kt aj d.1 d.2) λd=>let y0:=if -1073741824>d.1 then -1073741824 else d.1;ret (if 1073741824<y0 then 1073741824 else y0,d.2)) (opt (kt y0 y0 d.2) λd=>opt (gD d.1 7 d.2 (cr 2 [1073741824, -536870912,44739243, -1491308,26631, -296,2]) true) λd=>let y0:=wI (0-d.1);let y1:=if -1073741824>d.1 then -1073741824 else d.1;let y2:=if -1073741824>y0 then -1073741824 else y0;ae (decide (aj<0)) (ret (if 1073741824<y2 then 1073741824 else y2,d.2)) (ret (if 1073741824<y1 then 1073741824 else y1,d.2)))))
def oM:=λx0 x1=>(alE aR lI yd KQ nW x0 x1).val
theorem aNO:∀aw dA dL kt gD,D0 [dH aw,BT dA,adJ dL,aoM kt,Wj gD] 79 azP (lf agn) λb=>alE aw dA dL kt gD b.1 b.2:=λ_ _ _ _ _ b=>by kernel_rfl
theorem Q3 [ax]:SC (KV oM):=s0 (.c dM (.c Gy (.c aoL (.c axT (.c alD (.nil _)))))) (aNO aR lI yd KQ nW)
def azS:=qa (pr (cu aP jc) bG)
def ago:=qe qO
abbrev azT:=ago.B
abbrev Q4:=Int->Bool->Option azT
def Q5 (g:Q4):Ct:=(80,FC azS (lf ago) (λb=>g b.1 b.2))
def alF (dA:yE)(eQ:KU)(x0:Int)(x1:Bool):Pg azT:=opt (dA x0) λd=>opt (eQ (wI (1686629713+d)) x1) λd=>ret d
def sR:=λx0 x1=>(alF lI oM x0 x1).val
theorem aNP:∀dA eQ,D0 [BT dA,KV eQ] 80 azS (lf ago) λb=>alF dA eQ b.1 b.2:=λ_ _ b=>by kernel_rfl
theorem ZV [ax]:SC (Q5 sR):=s0 (.c Gy (.c Q3 (.nil _))) (aNP lI oM)
def aqw:=qa (pr (cu aP zE) bG)
def Wn:=qe qO
abbrev aqx:=Wn.B
abbrev abJ:=Int->Int->Bool->Option aqx
def abK (g:abJ):Ct:=(257,FC aqw (lf Wn) (λb=>g b.1.1 b.1.2 b.2))
def abL (aw:bO)(dL:OE)(aE:cO)(kt:adK)(gD:Wi)(x0:Int)(x1:Int)(x2:Bool):Pg aqx:=opt (aw x0 x2) λd=>let y0:=decide (d.1<0);opt (aw x1 d.2) λaj=>let uG:=decide (aj.1<0);opt (dL d.1) λaD=>opt (dL aj.1) λbC=>let aqv:=if bC>aD then bC else aD;opt (dL d.1) λcM=>opt (dL aj.1) λfA=>ae (aqv==0) (ret (0,aj.2)) (opt (aE (if fA<cM then fA else cM) aqv 30 aj.2) λdB=>ae (decide (dB.1>444758426)) (opt (aE (wI (dB.1-1073741824)) (wI (dB.1+1073741824)) 30 dB.2) λnX=>opt (kt nX.1 nX.1 nX.2) λtP=>opt (gD tP.1 12 tP.2 (cr (-46684427) [1073741824, -357913941,214748365, -153391689,119304647, -97612893,82595525, -71582788,63161284, -56512728,51130563, -46684427]) true) λpI=>opt (kt nX.1 pI.1 pI.2) λmV=>let ZW:=wI (843314857+mV.1);let y1:=wI (3373259426-ZW);let y2:=wI (1686629713-ZW);let y3:=wI (3373259426-y2);opt (dL d.1) λd=>opt (dL aj.1) λxy=>ae (decide (d>xy)) (ae uG (ae y0 (ret (wI (0-y3),mV.2)) (ret (y3,mV.2))) (ae y0 (ret (wI (0-y2),mV.2)) (ret (y2,mV.2)))) (ae uG (ae y0 (ret (wI (0-y1),mV.2)) (ret (y1,mV.2))) (ae y0 (ret (wI (0-ZW),mV.2)) (ret (ZW,mV.2))))) (opt (kt dB.1 dB.1 dB.2) λnX=>opt (gD nX.1 12 nX.2 (cr (-46684427) [1073741824, -357913941,214748365, -153391689,119304647, -97612893,82595525, -71582788,63161284, -56512728,51130563, -46684427]) true) λtP=>opt (kt dB.1 tP.1 tP.2) λpI=>let ZW:=wI (0+pI.1);let y1:=wI (1686629713-ZW);let y2:=wI (3373259426-ZW);let y3:=wI (3373259426-y1);opt (dL d.1) λd=>opt (dL aj.1) λmV=>ae (decide (d>mV)) (ae uG (ae y0 (ret (wI (0-y3),pI.2)) (ret (y3,pI.2))) (ae y0 (ret (wI (0-y1),pI.2)) (ret (y1,pI.2)))) (ae uG (ae y0 (ret (wI (0-y2),pI.2)) (ret (y2,pI.2))) (ae y0 (ret (wI (0-ZW),pI.2)) (ret (ZW,pI.2))))))
def zI:=λx0 x1 x2=>(abL aR yd bo KQ nW x0 x1 x2).val
theorem aGD:∀aw dL aE kt gD,D0 [dH aw,adJ dL,gO aE,aoM kt,Wj gD] 257 aqw (lf Wn) λb=>abL aw dL aE kt gD b.1.1 b.1.2 b.2:=λ_ _ _ _ _ b=>by kernel_rfl
theorem aqy [ax]:SC (abK zI):=s0 (.c dM (.c aoL (.c iT (.c axT (.c alD (.nil _)))))) (aGD aR yd bo KQ nW)
def aqz:=qa (pr (cu aP zE) bG)
def Wo:=qe qO
abbrev aqA:=Wo.B
abbrev dt:=Int->Int->Bool->Option aqA
def iU (g:dt):Ct:=(212,FC aqz (lf Wo) (λb=>g b.1.1 b.1.2 b.2))
def Il (aw:bO)(x0:Int)(x1:Int)(x2:Bool):Pg aqA:=opt (aw x0 x2) λd=>opt (aw x1 d.2) λaj=>opt (aw (wI (d.1-aj.1)) aj.2) λd=>ret d
def bP:=λx0 x1 x2=>(Il aR x0 x1 x2).val
theorem aGE:∀aw,D0 [dH aw] 212 aqz (lf Wo) λb=>Il aw b.1.1 b.1.2 b.2:=λ_ b=>by kernel_rfl
theorem jR [ax]:SC (iU bP):=s0 (.c dM (.nil _)) (aGE aR)
def aEM:=qa (pr (cu aP (c aff Hq)) bG)
def alG:=qe aw6
abbrev aEN:=alG.B
abbrev JW:=Int->Int->Int->Int->Int->Int->Bool->Option aEN
def Wp (g:JW):Ct:=(181,FC aEM (lf alG) (λb=>g b.1.1.1 b.1.1.2.1 b.1.1.b b.1.2.1 b.1.b.1 b.1.b.2 b.2))
def asT (aW:dt)(x0:Int)(x1:Int)(x2:Int)(x3:Int)(x4:Int)(x5:Int)(x6:Bool):Pg aEN:=opt (aW x0 x3 x6) λd=>opt (aW x1 x4 d.2) λaj=>opt (aW x2 x5 aj.2) λaD=>ret ((d.1,aj.1,aD.1),aD.2)
def wJ:=λx0 x1 x2 x3 x4 x5 x6=>(asT bP x0 x1 x2 x3 x4 x5 x6).val
theorem aRg:∀aW,D0 [iU aW] 181 aEM (lf alG) λb=>asT aW b.1.1.1 b.1.1.2.1 b.1.1.b b.1.2.1 b.1.b.1 b.1.b.2 b.2:=λ_ b=>by kernel_rfl
theorem agp [ax]:SC (Wp wJ):=s0 (.c jR (.nil _)) (aRg bP)
def auW:=qa (pr (cu aP (c aff jc)) bG)
def abM:=qe aw6
abbrev auX:=abM.B
abbrev UT:=Int->Int->Int->Int->Bool->Option auX
def UU (g:UT):Ct:=(157,FC auW (lf abM) (λb=>g b.1.1.1 b.1.1.2.1 b.1.1.b b.1.2 b.2))
def agq (aB:bX)(x0:Int)(x1:Int)(x2:Int)(x3:Int)(x4:Bool):Pg auX:=opt (aB x0 x3 30 x4) λd=>opt (aB x1 x3 30 d.2) λaj=>opt (aB x2 x3 30 aj.2) λaD=>ret ((d.1,aj.1,aD.1),aD.2)
def uR:=λx0 x1 x2 x3 x4=>(agq aV x0 x1 x2 x3 x4).val
theorem aKn:∀aB,D0 [fI aB] 157 auW (lf abM) λb=>agq aB b.1.1.1 b.1.1.2.1 b.1.1.b b.1.2 b.2:=λ_ b=>by kernel_rfl
theorem agr [ax]:SC (UU uR):=s0 (.c fY (.nil _)) (aKn aV)
def aqB:=qa (dp (cu aP awY) λa=>(c xx (cl (cl (gs a.1 oK) nil) nil)))
def Wq:=qe aJs
abbrev aqC:=Wq.B
abbrev zJ:=Nat->Bool->NI->Bool->Option aqC
def Im (g:zJ):Ct:=(135,vE 1 [.i .i64] (FC aqB (lf Wq) (λb=>g b.1.1 b.2.1 b.b b.1.2)))
def vY:=qs (st (pr (cu aP (us 4 (cu ay3 (us 6 (c H9 (c ai (cl ai (us 19 nil)))))))) (pl (c cH (c JD aa0)) cR)))
def air:=qs (st (pr (cu aP (us 4 (cu ay3 (us 6 (c H9 (c ai (c ai (cl ab (us 18 nil))))))))) (pl (c cH (c JD aa0)) cR)))
abbrev Jc:=air.B
def ais {ρ:Type}:=@ef Jc ((.ex 0)) air ρ
def Dm (aw:bO)(cW:oL)(yF:sQ)(d:vY.B):PL vY Jc:=let y0:=decide (d.1.2.2<d.1.2.1);ae y0 (ae (bb d.1.2.2 d.1.1.1) (opt (aw (d.2.2.1.2 (ws d.1.2.2)) d.2.1) λaj=>opt (cW aj.1 aj.1) λaD=>opt (yF 2 (λj=>bif ww j 1 then aD.1 else bif ww j 0 then d.2.2.2.1 else d.2.2.2.1) (λj=>bif ww j 1 then aD.2 else bif ww j 0 then d.2.2.2.2 else d.2.2.2.2) true) λbC=>ret (wr ((d.1.1,d.1.2.1,wI (d.1.2.2+1)),aj.2,d.2.2.1,bC.1))) no) (ret (wn ((d.1.1,d.1.2.1,d.1.2.2,y0),d.2)))
def SM:=bD (Dm aR fP lr) 2000
def abN (KP:ZS)(eH:LT vY Jc)(x0:Nat)(x1:Bool)(x2:Nat->Int)(w0:Bool):Pg aqC:=let y0:=if 64<wl x0 then 64 else wl x0;let y1:=ws y0;ae (KI y0 x0) (opt (eH (((y1,w0&&false),wl y1,0),x1,(x0,x2),0,0)) λd=>opt (KP d.2.2.2.1 d.2.2.2.2 d.2.1) λd=>ret d) no
def gP:=λx0 x1 x2 w0=>(abN yD SM x0 x1 x2 w0).val
abbrev Qq:=bO×oL×sQ×ZS×(LT vY Jc)
def abO (p:Qq):KK:=⟨[dH p.1,yx p.2.1,KS p.b.1,alu p.b.2.1],⟨[⟨3,(rg 1 4 (rg 6 6 (rg 15 19 []))),[]⟩],[fW 3 2 vY ais p.c],[0],[],(some ⟨0,(rg 0 4 (rg 5 29 [])),[]⟩)⟩,2,135⟩
theorem axV (p:Qq):LI (abO p) 3 vY ais (Dm p.1 p.2.1 p.b.1):=λ_ d c K=>by kernel_rfl
theorem aGF (p:Qq):D2 (abO p) aqB (lf Wq) λb=>abN p.b.2.1 p.c b.1.1 b.2.1 b.b b.1.2:=λb=>by kernel_rfl
abbrev abP:Qq:=(aR,fP,lr,yD,SM)
theorem Qr [ax]:SC (Im gP):=sc (Sound.nil 1 [.i .i64]<|kS (k:=abO abP) (.c dM (.c Br (.c QZ (.c azJ (.nil _))))) [3] [] ⟨kL (axV abP),trivial⟩ trivial (aGF abP))
def azU:=qa (pr (cu aP Hq) bG)
def ags:=qe qO
abbrev azV:=ags.B
abbrev Bt:=Int->Int->Int->Bool->Option azV
def Q6 (g:Bt):Ct:=(158,FC azU (lf ags) (λb=>g b.1.1 b.1.2.1 b.1.b b.2))
def alH (kY:zJ)(x0:Int)(x1:Int)(x2:Int)(x3:Bool):Pg azV:=opt (kY 3 x3 (cr x0 [x2,x1,x0]) false) λd=>ret d
def p6:=λx0 x1 x2 x3=>(alH gP x0 x1 x2 x3).val
theorem aNQ:∀kY,D0 [Im kY] 158 azU (lf ags) λb=>alH kY b.1.1 b.1.2.1 b.1.b b.2:=λ_ b=>by kernel_rfl
theorem ZX [ax]:SC (Q6 p6):=s0 (.c Qr (.nil _)) (aNQ gP)
def aEO:=qa (pr (cu aP Hq) bG)
def alI:=qe aw6
abbrev aEP:=alI.B
abbrev OH:=Int->Int->Int->Bool->Option aEP
def agt (g:OH):Ct:=(211,FC aEO (lf alI) (λb=>g b.1.1 b.1.2.1 b.1.b b.2))
def asU (aw:bO)(x0:Int)(x1:Int)(x2:Int)(x3:Bool):Pg aEP:=opt (aw x0 x3) λd=>opt (aw x1 d.2) λaj=>opt (aw x2 aj.2) λaD=>ret ((d.1,aj.1,aD.1),aD.2)
def BU:=λx0 x1 x2 x3=>(asU aR x0 x1 x2 x3).val
theorem aRh:∀aw,D0 [dH aw] 211 aEO (lf alI) λb=>asU aw b.1.1 b.1.2.1 b.1.b b.2:=λ_ b=>by kernel_rfl
theorem asV [ax]:SC (agt BU):=s0 (.c dM (.nil _)) (aRh aR)
def azW:=qa (pr (cu aP asc) bG)
def agu:=qe aw7
abbrev azX:=agu.B
abbrev Q7:=Int->Int->Int->Int->Bool->Option azX
def ZY (g:Q7):Ct:=(134,FC azW (lf agu) (λb=>g b.1.1 b.1.2.1 b.1.b.1 b.1.b.2 b.2))
def sS:=qs (st (pr (cu aP (us 2 (cu apL (cu ay4 (us 1 aU8))))) (pl (c cH (cl xB (cu akB nil))) cR)))
def aqD:=qs (st (pr (cu aP (us 2 (cu apL (cu ay4 (us 1 (c ai (cl ab (us 10 nil)))))))) (pl (c cH (cl xB (cu akB nil))) cR)))
abbrev Io:=aqD.B
def aqE {ρ:Type}:=@ef Io ((.ex 0)) aqD ρ
def abQ (aw:bO)(d:sS.B):PL sS Io:=let n1:=d.2.2;let n3:=n1.2.1;let n2:=n1.2.2;let y0:=bb d.1 4;let y1:=d.1==3;let y2:=d.1==2;let y3:=d.1==1;let y4:=wI (d.1+1);let y5:=decide (d.1<4);ae y5 (ae y0 (ae y1 (opt (aw n2.2 d.2.1) λaj=>ae y0 (ae y1 (ret (wr (y4,aj.2,n1.1,n3,n2.1,aj.1))) (ae y2 (ret (wr (y4,aj.2,n1.1,n3,aj.1,n2.2))) (ae y3 (ret (wr (y4,aj.2,n1.1,aj.1,n2))) (ret (wr (y4,aj.2,aj.1,n1.2)))))) no) (ae y2 (opt (aw n2.1 d.2.1) λaj=>ae y0 (ae y1 (ret (wr (y4,aj.2,n1.1,n3,n2.1,aj.1))) (ae y2 (ret (wr (y4,aj.2,n1.1,n3,aj.1,n2.2))) (ae y3 (ret (wr (y4,aj.2,n1.1,aj.1,n2))) (ret (wr (y4,aj.2,aj.1,n1.2)))))) no) (ae y3 (opt (aw n3 d.2.1) λaj=>ae y0 (ae y1 (ret (wr (y4,aj.2,n1.1,n3,n2.1,aj.1))) (ae y2 (ret (wr (y4,aj.2,n1.1,n3,aj.1,n2.2))) (ae y3 (ret (wr (y4,aj.2,n1.1,aj.1,n2))) (ret (wr (y4,aj.2,aj.1,n1.2)))))) no) (opt (aw n1.1 d.2.1) λaj=>ae y0 (ae y1 (ret (wr (y4,aj.2,n1.1,n3,n2.1,aj.1))) (ae y2 (ret (wr (y4,aj.2,n1.1,n3,aj.1,n2.2))) (ae y3 (ret (wr (y4,aj.2,n1.1,aj.1,n2))) (ret (wr (y4,aj.2,aj.1,n1.2)))))) no)))) no) (ret (wn ((d.1,y5),d.2)))
def abR:=bD (abQ aR) 2000
def alJ (eH:LT sS Io)(x0:Int)(x1:Int)(x2:Int)(x3:Int)(x4:Bool):Pg azX:=opt (eH (0,x4,x0,x1,x2,x3)) λd=>ret (d.2.2,d.2.1)
def yG:=λx0 x1 x2 x3 x4=>(alJ abR x0 x1 x2 x3 x4).val
abbrev ZZ:=bO×(LT sS Io)
def alK (p:ZZ):KK:=⟨[dH p.1],⟨[⟨2,(1::2::5::rg 7 11 []),[]⟩],[fW 2 1 sS aqE p.2],[0],[],(some ⟨0,(rg 0 4 (rg 5 13 [])),[]⟩)⟩,1,134⟩
theorem aEQ (p:ZZ):LI (alK p) 2 sS aqE (abQ p.1):=λ_ d c K=>by kernel_rfl
theorem aNR (p:ZZ):D2 (alK p) azW (lf agu) λb=>alJ p.2 b.1.1 b.1.2.1 b.1.b.1 b.1.b.2 b.2:=λb=>by kernel_rfl
abbrev alL:ZZ:=(aR,abR)
theorem alM [ax]:SC (ZY yG):=sc (kS (k:=alK alL) (.c dM (.nil _)) [2] [] ⟨kL (aEQ alL),trivial⟩ trivial (aNR alL))
def azY:=qa (pu nil nil)
def agv:=qe (res (pu (aa (cu ar6 ase)) (pu nil nil)))
abbrev alN:=agv.B
abbrev Bu:=Option alN
def KW (g:Bu):Ct:=(84,FC azY (lf agv) (λ_=>g))
def alO:Pg alN:=ret ()
def oN:Option alN:=(alO).val
theorem aNS:D0 [] 84 azY (lf agv) λb=>alO:=λb=>by kernel_rfl
theorem Q8 [ax]:SC (KW oN):=s0 (.nil _) aNS
def auY:=qa (pl asc nil)
def abS:=qe aVY
abbrev auZ:=abS.B
abbrev Ma:=Int->Int->Int->Int->Option auZ
def agw (g:Ma):Ct:=(182,FC auY (lf abS) (λb=>g b.1 b.2.1 b.b.1 b.b.2))
def agx (p7:Q7)(x0:Int)(x1:Int)(x2:Int)(x3:Int):Pg auZ:=opt (p7 x0 x1 x2 x3 false) λd=>ret (d.1.1,wI (0-d.1.2.1),wI (0-d.1.2.2.1),wI (0-d.1.2.2.2))
def BV:=λx0 x1 x2 x3=>(agx yG x0 x1 x2 x3).val
theorem aKo:∀p7,D0 [ZY p7] 182 auY (lf abS) λb=>agx p7 b.1 b.2.1 b.b.1 b.b.2:=λ_ b=>by kernel_rfl
theorem au0 [ax]:SC (agw BV):=s0 (.c alM (.nil _)) (aKo yG)
def aqF:=qa (pl afk nil)
def Wr:=qe aVS
abbrev aqG:=Wr.B
abbrev mT:=NI->Int->Option aqG
def rZ (g:mT):Ct:=(154,FC aqF (lf Wr) (λb=>g b.1 b.2))
def oO:=qs (st (pr (us 1 (c ai (cu ay5 (us 1 (cu aMt (cu Zn (us 2 aPz))))))) (pl (c oC akC) nil)))
def ait:=qs (st (pr (us 1 (c ai (cu ay5 (us 1 (cu aMt (cu Zn (us 2 aJe))))))) (pl (c oC akC) nil)))
abbrev Dn:=ait.B
def aiu {ρ:Type}:=@ef Dn ((.ex 0)) ait ρ
def SN (d:oO.B):PL oO Dn:=let n4:=d.2.2;let n3:=d.2.1;let n2:=d.1.1;let n1:=d.1.2;let y0:=wI (n2+n1);let y1:=decide (n1<3);ae y1 (ae (decide (y0>=0)) (ae (decide (y0<24)) (ae (bb y0 24) (ae (bb n1 3) (ae (n1==2) (ret (wr ((n2,wI (n1+1)),n3,n4.1,n4.2.1,n3 (ws y0)))) (ae (n1==1) (ret (wr ((n2,wI (n1+1)),n3,n4.1,n3 (ws y0),n4.2.2))) (ret (wr ((n2,wI (n1+1)),n3,n3 (ws y0),n4.2))))) no) no) (ret (wr ((n2,wI (n1+1)),d.2)))) (ret (wr ((n2,wI (n1+1)),d.2)))) (ret (wn ((n2,n1,y1),d.2)))
def SO:=bD (SN) 2000
def abT (eH:LT oO Dn)(x0:Nat->Int)(x1:Int):Pg aqG:=opt (eH ((x1,0),x0,0,0,0)) λd=>ret d.2.2
def fe:=λx0 x1=>(abT SO x0 x1).val
abbrev Qs:=(LT oO Dn)
def abU (p:Qs):KK:=⟨[],⟨[⟨3,(0::3::6::7::rg 9 8 (rg 19 8 [17,18])),[]⟩],[fW 3 0 oO aiu p],[],[],(some ⟨0,(rg 0 4 (rg 5 22 [])),[]⟩)⟩,0,154⟩
theorem axW (p:Qs):LI (abU p) 3 oO aiu (SN):=λ_ d c K=>by kernel_rfl
theorem aGG (p:Qs):D2 (abU p) aqF (lf Wr) λb=>abT p b.1 b.2:=λb=>by kernel_rfl
abbrev abV:Qs:=SO
theorem vH [ax]:SC (rZ fe):=sc (kS (k:=abU abV) (.nil _) [3] [] ⟨kL (axW abV),trivial⟩ trivial (aGG abV))
def aqH:=qa (dp (c mh aVC) λa=>(cl (cl (gs a.b.1 oK) nil) nil))
def Ws:=qe aVZ
abbrev abW:=Ws.B
abbrev zK:=NI->Int->Nat->NI->Bool->Option abW
def DX (g:zK):Ct:=(32,vE 2 [.i .i64] (FC aqH (lf Ws) (λb=>g b.1.1 b.1.2.1 b.1.b.1 b.2 b.1.b.2)))
def oP:=qs (st (dp (us 1 (c ai (c JA (cu T' (us 2 (cu Ew (us 3 (c JA (c ai aPz))))))))) λa=>(pl (c (so (cl (gs a.2.1.1 oK) nil)) Ob) nil)))
def aBH:=qs (st (pr (us 1 (c ai (c JA (cu T' (us 2 (cu Ew (us 3 (c JA (c ai aJe))))))))) (pl (c JD Ob) nil)))
abbrev Dp:=(aUZ×NI×NI×NI)
def aiv {ρ:Type}(x:Dp)(K:AX->St->Option ρ):Option ρ:=(λd=>K (.ex 0) (aBH.em (d.1,(d.1.2.1.1,d.2.1),d.b))) x
def SP (d:oP.B):PL oP Dp:=let n2:=d.1.2.2;let n3:=n2.2.2;let n1:=(d.1.1,d.1.2.1,n2.1,n2.2.1,wI (n3+1));let y0:=wI (d.1.1+n3);let y1:=ws y0;let y2:=decide (n3<n2.2.1);ae y2 (ae (bb n3 n2.1.1) (ae (decide (y0>=0)) (ae (decide (y0<24)) (ae (bb y0 24) (ae (true&&wd (0+y1*1+1) 24) (ret (wr (n1,d.2.1,λj=>bif ww j y1 then d.2.1 (ws n3) else d.2.2.1 j,d.2.2.2))) no) no) (ret (wr (n1,d.2)))) (ret (wr (n1,d.2)))) no) (ret (wn ((d.1.1,d.1.2.1,n2.1,n2.2.1,n3,y2),d.2)))
def SQ:=bD (SP) 2000
def abX (eH:LT oP Dp)(x0:Nat->Int)(x1:Int)(x2:Nat)(x3:Nat->Int)(w0:Bool):Pg abW:=ae (ww x2 x2) (opt (eH ((x1,(x2,w0),(x2,w0),wl x2,0),x3,x0,λx=>0)) λd=>ret d.2.2.1) no
def gQ:=λx0 x1 x2 x3 w0=>(abX SQ x0 x1 x2 x3 w0).val
abbrev Qt:=(LT oP Dp)
def abY (p:Qt):KK:=⟨[],⟨[⟨2,(0::4::5::7::8::9::rg 13 10 (rg 25 6 [23,24])),[]⟩],[fW 2 1 oP aiv p],[],[],(some ⟨0,(rg 0 6 (rg 7 24 [])),[]⟩)⟩,1,32⟩
theorem axX (p:Qt):LI (abY p) 2 oP aiv (SP):=λ_ d c K=>by kernel_rfl
theorem aGH (p:Qt):D2 (abY p) aqH (lf Ws) λb=>abX p b.1.1 b.1.2.1 b.1.b.1 b.2 b.1.b.2:=λb=>by kernel_rfl
abbrev abZ:Qt:=SQ
theorem Ip [ax]:SC (DX gQ):=sc (Sound.nil 2 [.i .i64]<|kS (k:=abY abZ) (.nil _) [2] [] ⟨kL (axX abZ),trivial⟩ trivial (aGH abZ))
end Go.Proofs.YtldgljclcgaibaaGreat
