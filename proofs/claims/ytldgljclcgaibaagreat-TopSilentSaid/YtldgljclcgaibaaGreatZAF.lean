/-
  Parts of the proof: SLB SLC SLD SLE SLF SLH Q1
-/
import Derived.Test.YtldgljclcgaibaaGreatZAE
import Derived.Shelf.Spec.SlicesInsertGrow
open Nat renaming beq→ww,ble→wd,blt→v6
open Int renaming toNat→ws,ofNat→wl,fdiv→ul,tdiv→t7
open Sum renaming inl→wr,inr→wn,elim→t8
open BitVec renaming ofInt→v9,toNat→v4
open List renaming append→t9,range→rx
set_option linter.all false
namespace Go.Proofs.YtldgljclcgaibaaGreat
open Go.RowKit Go.Lib Go.Ab
theorem aaB {P:Program}(w:World)(dT sT ty e:TypeId)(z b o aUg a4m:Nat)(a:Addr)(aO2 a12:Nat)(cs:List Value)(hu:P.underlying dT=some (.slice e))(hz:jd P e=some z)(hn:cs.length=Nat.min aO2 aUg*z)
  (a4n:∀j v,cs[j]? =some v->w.cell? (a.add j)=some v)(hc:∀j,j<cs.length->(w.cell? ⟨b,o+j,none⟩).isSome=true)(hf:∀j,j<cs.length->w.frozen? ⟨b,o+j,none⟩=false)(h1:∀v∈cs,v.oneCell'=true):
  (Builtin.copy_ #[dT,sT] ty #[.slice (some ⟨b,o,none⟩) aUg a4m,.slice (some a) aO2 a12]).run P w=.ok (goInt (Nat.min aO2 aUg)) (w.setCells b o cs):=by
 have hl:=run_firstCells_some (P:=P) w z (Nat.min aO2 aUg) a aO2 a12 cs hn a4n;have hst:=run_storeCells_cells (P:=P) b o cs 0 w (by simpa using hc) (by simpa using hf) h1;simp[Builtin.copy_,run_underlying hu,Builtin.lenOf,Ab.run_sizeOf hz,hl,hst]
theorem uT:Tryz.prog.underlying 140=some (.slice 42):=by kernel_rfl
theorem uE:jd Tryz.prog 42=some 9:=by kernel_rfl
set_option maxHeartbeats 4000000 in
set_option maxRecDepth 100000 in
theorem aSD (b off n c i vb Di vc:Nat)(cs vs:List Value)(w:World)(hi:i<n)(Tk:n+1<=c)(hvb:vb=b->Di+9<=off∨off+(n+1)*9<=Di)(Ej:cs.length=n*9)(hvl:vs.length=9)(a6t:n+1<=9223372036854775807)
  (JS:∀j v,cs[j]? =some v->w.cell? ⟨b,off+j,none⟩=some v)(hsp:∀j,j<(n+1)*9->(w.cell? ⟨b,off+j,none⟩).isSome=true)(hfz:∀j,j<(n+1)*9->w.frozen? ⟨b,off+j,none⟩=false)
  (hvs:∀j v,vs[j]? =some v->w.cell? ⟨vb,Di+j,none⟩=some v)(h1c:∀v∈cs,v.oneCell'=true)(h1v:∀v∈vs,v.oneCell'=true)
  (hov:∀cb,(callFunc 145 #[.slice (some ⟨vb,Di,none⟩) 1 vc,.slice (some ⟨b,off+(i+1)*9,none⟩) (n-i) cb]).run Tryz.prog w=.ok (.value (.bool false)) w):
  Calls Tryz.prog 97 #[.slice (some ⟨b,off,none⟩) n c,.int .i64 i,.slice (some ⟨vb,Di,none⟩) 1 vc] w λe w'=>
   e=.returned (.slice (some ⟨b,off,none⟩) (n+1) c)/\w'=(w.drew.setCells b (off+(i+1)*9) (cs.drop (i*9))).setCells b (off+i*9) vs:=by
 have mixed:=mixed;have hz2:¬((i:Int)=(n:Int)):=by omega
 have hdl:(cs.drop (i*9)).length=(n-i)*9:=by rw[atu,Ej];omega
 have hw1:IntKind.i64.wrap ((i:Int)+1)=(i:Int)+1:=by rw[IntKind.wrap_i64];omega
 have hw2:IntKind.i64.wrap ((n:Int)+1)=(n:Int)+1:=by rw[IntKind.wrap_i64];omega
 have hb1:(0:Int)<=(i:Int)+1:=by omega
 have hin:i<=n:=by omega
 have htn:((i:Int)+1).toNat=i+1:=by omega
 have Fj:¬(c=i+1):=by omega
 have hb3:(i:Int)<=(n:Int)+1:=by omega
 have hb4:¬(c=i):=by omega
 have hb5:¬((c:Int)<(n:Int)+1):=by omega
 have a13:∀ty dc sc,(Builtin.copy_ #[140,140] ty #[.slice (some ⟨b,off+(i+1)*9,none⟩) (n-i) dc,.slice (some ⟨b,off+i*9,none⟩) (n+1-i) sc]).run Tryz.prog w.drew=.ok (goInt (Nat.min (n+1-i) (n-i))) (w.drew.setCells b (off+(i+1)*9) (cs.drop (i*9))):=λty dc sc=>
  aaB w.drew _ _ ty 42 9 b (off+(i+1)*9) (n-i) dc ⟨b,off+i*9,none⟩ (n+1-i) sc (cs.drop (i*9)) uT uE (by rw[hdl];simp only[Nat.min_def];split<;>omega)
   (λj v hj=>by rw[Addr.add_lit,Cc];exact JS (i*9+j) v (by rwa [Te] at hj))
   (λj hj=>by rw[Cc];exact hsp _ (by omega)) (λj hj=>by rw[Cc];exact hfz _ (by omega)) (λv hv=>h1c v (List.mem_of_mem_drop hv))
 obtain⟨W1,hW1⟩:∃W1,W1=w.drew.setCells b (off+(i+1)*9) (cs.drop (i*9)):=⟨_,rfl⟩
 have a4o:∀k,k<(n+1)*9->(W1.cell? ⟨b,off+k,none⟩).isSome=true:=λk hk=>by
  rw[hW1];exact Go.Proofs.isSome_setCells b _ _ _ (λj hj=>by rw[Cc];exact hsp _ (by omega)) _ (hsp k hk)
 have a4p:∀(W:World),(∀x,W.cell? x=W1.cell? x)->(∀x,W.frozen? x=W1.frozen? x)->∀ty dc,(Builtin.copy_ #[140,140] ty #[.slice (some ⟨b,off+i*9,none⟩) (n+1-i) dc,.slice (some ⟨vb,Di,none⟩) 1 vc]).run Tryz.prog W=.ok (goInt (Nat.min 1 (n+1-i))) (W.setCells b (off+i*9) vs):=λW hWc hWf ty dc=>
  aaB W _ _ ty 42 9 b (off+i*9) (n+1-i) dc ⟨vb,Di,none⟩ 1 vc vs uT uE (by rw[hvl];simp only[Nat.min_def];split<;>omega)
   (λj v hj=>by
    have hj9:=(me.1 hj).1
    rw[Addr.add_lit,hWc,hW1,World.cell?_setCells_out b _ _ _ _ (λh _=>by
     have:=hvb h;show Di+j<_∨_<=Di+j;omega)]
    exact hvs j v hj)
   (λj hj=>by rw[hWc,Cc];exact a4o _ (by omega)) (λj hj=>by rw[hWf,hW1,World.frozen?_setCells,Cc];exact hfz _ (by omega)) h1v
 rw[<-hW1] at a13;go_enter Tryz.func97,Tryz.ntmps97
 go_wp2_with (simp only[hov])
 go_region_law_o (refine step_copy_runI rfl _ _ 140 140 rfl _ _ (by simp[Act.eval,Act.put]) (by simp[Act.eval,Act.put]) (a13 _ _ _) ?_)
 go_wp2_with (at_builtin;refine wpList_copy_runI _ rfl _ _ 140 140 rfl _ _ rfl rfl (a4p _ (λ_=>rfl) (λ_=>rfl) _ _) ?_)
 go_ret
 first|exact⟨rfl,rfl⟩|exact⟨rfl,by rw[hW1]⟩
set_option maxHeartbeats 4000000 in
set_option maxRecDepth 100000 in
theorem aO3 (base:Option Addr)(n c vb Di vc:Nat)(w w2:World)(v2:Value)
  (hrz:∀ty,(Builtin.append_ #[140,140] ty #[.slice base n c,.slice (some ⟨vb,Di,none⟩) 1 vc]).run Tryz.prog w=.ok v2 w2):
  Calls Tryz.prog 97 #[.slice base n c,.int .i64 n,.slice (some ⟨vb,Di,none⟩) 1 vc] w λe w'=>e=.returned v2/\w'=w2:=by
 have mixed:=mixed;go_enter Tryz.func97,Tryz.ntmps97
 go_wp2_with (at_builtin;refine Lib.wpList_append_run _ rfl _ _ _ _ rfl _ _ rfl rfl _ _ (hrz _) ?_)
 all_goals (go_ret;exact⟨rfl,rfl⟩)
theorem iE:∃i z,Tryz.prog.info? 42=some i/\i.zero=some z/\i.size=9/\i.bytes=72/\z.cells.size=9:=by
 have h:(Tryz.prog.info? 42).map (λi=>(i.size,i.bytes,(i.zero.map λz=>z.cells.size)))=some (9,72,some 9):=by kernel_rfl
 cases hi:Tryz.prog.info? 42 with
 |none=>rw[hi] at h;cases h
 |some i=>
  rw[hi] at h;simp only[Tf,j9,rE] at h;obtain⟨h1,h2,h3⟩:=h;cases hz:i.zero with
  |none=>rw[hz] at h3;cases h3
  |some z=>rw[hz] at h3;exact⟨i,z,rfl,hz,h1,h2,by simpa using h3⟩
theorem uI:Tryz.prog.underlying 3=some (.int .i64):=by kernel_rfl
set_option maxHeartbeats 4000000 in
set_option maxRecDepth 100000 in
theorem aU9 (b off n c i vb Di vc:Nat)(cs vs:List Value)(w:World)(hi:i<n)(hnc:n<=c)(Tk:c<n+1)(aAu:(n+1)*72<=140737488355328)(Ej:cs.length=n*9)(hvl:vs.length=9)
  (JS:∀j v,cs[j]? =some v->w.cell? ⟨b,off+j,none⟩=some v)(hvs:∀j v,vs[j]? =some v->w.cell? ⟨vb,Di+j,none⟩=some v)(h1c:∀v∈cs,v.oneCell'=true)(h1v:∀v∈vs,v.oneCell'=true):
  ∃G Dj,n+1<=G/\Dj.size=G*9/\(∀j v,j<i*9->cs[j]? =some v->Dj[j]? =some v)/\
  Calls Tryz.prog 97 #[.slice (some ⟨b,off,none⟩) n c,.int .i64 i,.slice (some ⟨vb,Di,none⟩) 1 vc] w λe w'=>
   e=.returned (.slice (some ⟨w.heap.size,0,none⟩) (n+1) G)/\
   w'=(((w.alloc (.cells Dj 42)).drew.setCells w.heap.size (i*9) vs).drew).setCells w.heap.size ((i+1)*9) (cs.drop (i*9)):=by
 have mixed:=mixed;obtain⟨i0,z0,hi0,Ob,hzs,hzb,hzl⟩:=iE;have hz2:¬((i:Int)=(n:Int)):=by omega
 have hz3:(c:Int)<(n:Int)+1:=by omega
 have hbw:b<w.heap.size:=block_lt_of_cell (JS 0 _ (kT (by omega)));have hvw:vb<w.heap.size:=block_lt_of_cell (hvs 0 _ (kT (by omega)));have hkk:(n:Int)+1-(i:Int)=((n+1-i:Nat):Int):=by omega
 have hik:i+(n+1-i)=n+1:=by omega
 have htl:(cs.take (i*9)).length=i*9:=by rw[List.length_take];omega
 have hold:(Builtin.firstCells i0.size i (.slice (some ⟨b,off,none⟩) i c)).run Tryz.prog w.drew=.ok (cs.take (i*9)).toArray w.drew:=by
  rw[hzs]
  exact run_firstCells_some w.drew 9 i ⟨b,off,none⟩ i c (cs.take (i*9)) htl (λj v hj=>by
   rw[Addr.add_lit];rw[acd] at hj;split at hj
   .exact JS j v hj
   .cases hj)
 have hrz:∀ty,(Builtin.append_ #[140,3] ty #[.slice (some ⟨b,off,none⟩) i c,.int .i64 ((n:Int)+1-(i:Int))]).run Tryz.prog w=
   .ok (.slice (some ⟨w.heap.size,0,none⟩) (n+1) (grownCap w (n+1) c 42)) (w.drew.alloc (.cells ((cs.take (i*9)).toArray++Builtin.zeroCells z0.cells (n+1-i)++Builtin.zeroCells z0.cells (grownCap w (n+1) c 42-(n+1))) 42)):=λty=>by
  have h:=Lib.run_append_grow_zeros w 140 3 ty 42 i0 _ .i64 .i64 uT uI hi0 Ob (some ⟨b,off,none⟩) i c (cs.take (i*9)) hold (n+1-i) (by omega) (by omega) (by omega) (by omega) (by rw[hzb];omega) (by rw[hzb,hik];exact growslice_fits Tk aAu);rw[hik] at h;rw[hkk];exact h
 have hGn:n+1<=grownCap w (n+1) c 42:=grownCap_ge w _ _ _;obtain⟨G,hG⟩:∃G,G=grownCap w (n+1) c 42:=⟨_,rfl⟩;obtain⟨Dj,aUh⟩:∃Dj:Array Value,Dj=(cs.take (i*9)).toArray++Builtin.zeroCells z0.cells (n+1-i)++Builtin.zeroCells z0.cells (G-(n+1)):=⟨_,rfl⟩;rw[<-hG] at hrz hGn;rw[<-aUh] at hrz
 have hRs:Dj.size=G*9:=by
  rw[aUh];simp only[Array.size_append,List.size_toArray,htl,size_zeroCells,hzl];omega
 refine⟨G,Dj,hGn,hRs,λj v hj hv=> ?_,?_⟩
 .rw[aUh,Array.getElem?_append_left (by simp[htl];omega),Array.getElem?_append_left (by simp[htl];omega)];simp only[List.getElem?_toArray];rw[acd,if_pos hj];exact hv
 have hRl:(n+1)*9<=Dj.size:=by rw[hRs];exact wL _ hGn
 obtain⟨W1,hW1⟩:∃W1,W1=w.drew.alloc (.cells Dj 42):=⟨_,rfl⟩;rw[<-hW1] at hrz
 have hN:∀j,j<(n+1)*9->(W1.cell? ⟨w.heap.size,j,none⟩).isSome=true:=λj hj=>by
  rw[hW1,World.cell?_alloc_at (w:=w.drew) Dj _ w.heap.size j rfl,ai8 (by omega)];rfl
 have hNf:∀j,W1.frozen? ⟨w.heap.size,j,none⟩=false:=λj=>by rw[hW1];exact World.frozen?_alloc_at (w:=w.drew) Dj _ w.heap.size j rfl
 have hOb:∀j v,w.cell? ⟨b,j,none⟩=some v->W1.cell? ⟨b,j,none⟩=some v:=λj v h=>by rw[hW1,World.cell?_alloc_past (w:=w.drew) _ b j hbw];exact h
 have hOv:∀j v,w.cell? ⟨vb,j,none⟩=some v->W1.cell? ⟨vb,j,none⟩=some v:=λj v h=>by rw[hW1,World.cell?_alloc_past (w:=w.drew) _ vb j hvw];exact h
 have a4q:∀(W:World),(∀x,W.cell? x=W1.cell? x)->(∀x,W.frozen? x=W1.frozen? x)->∀ty dc,(Builtin.copy_ #[140,140] ty #[.slice (some ⟨w.heap.size,i*9,none⟩) (n+1-i) dc,.slice (some ⟨vb,Di,none⟩) 1 vc]).run Tryz.prog W=.ok (goInt (Nat.min 1 (n+1-i))) (W.setCells w.heap.size (i*9) vs):=λW hWc hWf ty dc=>
  aaB W _ _ ty 42 9 w.heap.size (i*9) (n+1-i) dc ⟨vb,Di,none⟩ 1 vc vs uT uE (by rw[hvl];simp only[Nat.min_def];split<;>omega)
   (λj v hj=>by rw[Addr.add_lit,hWc];exact hOv _ v (hvs j v hj))
   (λj hj=>by rw[hWc];exact hN _ (by omega)) (λj hj=>by rw[hWf];exact hNf _) h1v
 have hGi:¬(G=i):=by omega
 have a6u:¬(G=i+1):=by omega
 have hci:¬(c=i):=by omega
 have hbN:b≠w.heap.size:=by omega
 have hdl:(cs.drop (i*9)).length=(n-i)*9:=by rw[atu,Ej];omega
 have a14:∀(W:World),(∀x,W.cell? x=(W1.setCells w.heap.size (i*9) vs).cell? x)->(∀x,W.frozen? x=(W1.setCells w.heap.size (i*9) vs).frozen? x)->∀ty dc sc,(Builtin.copy_ #[140,140] ty #[.slice (some ⟨w.heap.size,(i+1)*9,none⟩) (n-i) dc,.slice (some ⟨b,off+i*9,none⟩) (n-i) sc]).run Tryz.prog W=.ok (goInt (Nat.min (n-i) (n-i))) (W.setCells w.heap.size ((i+1)*9) (cs.drop (i*9))):=λW hWc hWf ty dc sc=>
  aaB W _ _ ty 42 9 w.heap.size ((i+1)*9) (n-i) dc ⟨b,off+i*9,none⟩ (n-i) sc (cs.drop (i*9)) uT uE (by rw[hdl];simp only[Nat.min_def];split<;>omega)
   (λj v hj=>by
    rw[Addr.add_lit,hWc,World.cell?_setCells_out _ _ _ _ _ (λh _=>absurd h hbN),Cc];exact hOb _ v (JS (i*9+j) v (by rwa [Te] at hj)))
   (λj hj=>by rw[hWc];exact Go.Proofs.isSome_setCells _ _ _ _ (λt ht=>hN _ (by omega)) _ (hN _ (by omega)))
   (λj hj=>by rw[hWf,World.frozen?_setCells];exact hNf _) (λv hv=>h1c v (List.mem_of_mem_drop hv))
 subst hW1;have hE1:∀x,((w.alloc (.cells Dj 42)).drew).cell? x=(w.drew.alloc (.cells Dj 42)).cell? x:=λx=>rfl;have hE2:∀x,((w.alloc (.cells Dj 42)).drew).frozen? x=(w.drew.alloc (.cells Dj 42)).frozen? x:=λx=>rfl;have hF1:∀x,(((w.alloc (.cells Dj 42)).drew.setCells w.heap.size (i*9) vs).drew).cell? x=((w.drew.alloc (.cells Dj 42)).setCells w.heap.size (i*9) vs).cell? x:=λx=>rfl;have hF2:∀x,(((w.alloc (.cells Dj 42)).drew.setCells w.heap.size (i*9) vs).drew).frozen? x=((w.drew.alloc (.cells Dj 42)).setCells w.heap.size (i*9) vs).frozen? x:=λx=>rfl;have hw1:IntKind.i64.wrap ((i:Int)+1)=(i:Int)+1:=by rw[IntKind.wrap_i64];omega
 have hw2:IntKind.i64.wrap ((n:Int)+1)=(n:Int)+1:=by rw[IntKind.wrap_i64];omega
 have hw3:IntKind.i64.wrap ((n:Int)+1-(i:Int))=(n:Int)+1-(i:Int):=by rw[IntKind.wrap_i64];omega
 have hb1:(0:Int)<=(i:Int)+1:=by omega
 have hin:i<=n:=by omega
 have htn:((i:Int)+1).toNat=i+1:=by omega
 have hb3:(i:Int)<=(n:Int):=by omega
 clear hkk hik hold aUh hG hRl hRs
 go_enter Tryz.func97,Tryz.ntmps97
 go_wp2_with (first
  |(at_builtin;refine Lib.wpList_append_run _ rfl _ _ _ _ rfl _ _ rfl rfl _ _ (hrz _) ?_)
  |(at_builtin;refine wpList_copy_runI _ rfl _ _ 140 140 rfl _ _ rfl rfl (a4q _ hE1 hE2 _ _) ?_)
  |(at_builtin;refine wpList_copy_runI _ rfl _ _ 140 140 rfl _ _ rfl rfl (a14 _ (λ_=>rfl) (λ_=>rfl) _ _ _) ?_))
 go_region_law_o (refine step_copy_runI rfl _ _ 140 140 rfl (.slice (some ⟨w.heap.size,(i+1)*9,none⟩) (n-i) (G-(i+1))) (.slice (some ⟨b,off+i*9,none⟩) (n-i) (c-i)) (by simp[Act.eval,Act.put]) (by simp[Act.eval,Act.put]) (a14 _ hF1 hF2 3 (G-(i+1)) (c-i)) ?_)
 go_wp2
 go_ret
 exact⟨rfl,rfl⟩
theorem avK {P:Program}{ops:Array Oper}{o:Oper}{a:Act}{w:World}{K:Act->World->Prop}{Q:Exit->Act->World->Prop}{E:Prop}
  (hg:o.guard=none)(d x:Operand)(dT sT:TypeId)(pY:o.op=Op.call {callee:=Callee.builtin Builtin.append,args:=#[d,x],argTypes:=#[dT,sT]})
  (v u:Value)(hd:a.eval d=v)(hx:a.eval x=u){v':Value}{w':World}(hr:(Builtin.append_ #[dT,sT] o.type #[v,u]).run P w=.ok v' w')(hK:K (a.put o.dst v') w'):
  if Region.wanted o (yielded ops a.tmps)=true then Oper.wp P o a w K Q else E:=by
 have hw:Region.wanted o (yielded ops a.tmps)=true:=by simp[Region.wanted,hg]
 rw[if_pos hw];unfold Oper.wp;simp[execOp,pY,resolve,invoke,builtin,hd,hx,hr,Result.andThen]
 exact hK
theorem aFP {P:Program}(w:World){o:Oper}{a:Act}{K:Act->World->Prop}{Q:Exit->Act->World->Prop}(d:Operand)(t:TypeId)
  (ho:o.op=.call {callee:=.builtin .clear,args:=#[d],argTypes:=#[t]})(v:Value)(hd:a.eval d=v){v':Value}{w':World}
  (hr:(Builtin.clear_ #[t] o.type #[v]).run P w=.ok v' w')(h:K (a.put o.dst v') w'):o.wp P a w K Q:=by
 unfold Oper.wp execOp;simp only[ho,resolve,invoke,builtin,Sem.run_bind,Sem.run_pure,Result.andThen_ok,List.map_toArray,List.map_cons,List.map_nil,hd,hr];exact h
theorem atM {P:Program}(w:World){ops:Array Oper}{rest:List Oper}{o:Oper}{a:Act}{Q:Exit->Act->World->Prop}(hgd:o.guard=none)(d:Operand)(t:TypeId)
  (ho:o.op=.call {callee:=.builtin .clear,args:=#[d],argTypes:=#[t]})(v:Value)(hd:a.eval d=v){v':Value}{w':World}
  (hr:(Builtin.clear_ #[t] o.type #[v]).run P w=.ok v' w')(h:wpList P ops Q rest (a.put o.dst v') w'):wpList P ops Q (o::rest) a w:=
 wpList_plain hgd λ_ hK=>aFP w d t ho v hd hr (hK _ _ h)
set_option maxHeartbeats 4000000 in
set_option maxRecDepth 100000 in
theorem aJG (base:Option Addr)(n c i:Nat)(w:World)(hi:i<=n)(hc:n<=c):
  Calls Tryz.prog 98 #[.slice base n c,.int .i64 i,.int .i64 i] w λe w'=>e=.returned (.slice base n c)/\w'=w:=by
 have mixed:=mixed;have h1:(i:Int)<=(n:Int):=by omega
 have h2:(n:Int)<=(c:Int):=by omega
 go_enter Tryz.func98,Tryz.ntmps98
 go_wp2
 all_goals (go_ret;exact⟨rfl,rfl⟩)
set_option maxHeartbeats 4000000 in
set_option maxRecDepth 100000 in
theorem aVa (b off n c i j:Nat)(w w2 w3:World)(hij:i<j)(hj:j<=n)(hc:n<=c)
  (hrz:∀ty,(Builtin.append_ #[140,140] ty #[.slice (some ⟨b,off,none⟩) i c,.slice (some (if c=j then⟨b,off,none⟩ else⟨b,off+j*9,none⟩)) (n-j) (c-j)]).run Tryz.prog w.drew=.ok (.slice (some ⟨b,off,none⟩) (i+(n-j)) c) w2)
  (Ej:∀ty,(Builtin.clear_ #[140] ty #[.slice (some ⟨b,off+(i+(n-j))*9,none⟩) (n-(i+(n-j))) (c-(i+(n-j)))]).run Tryz.prog w2=.ok (.tuple #[]) w3):
  Calls Tryz.prog 98 #[.slice (some ⟨b,off,none⟩) n c,.int .i64 i,.int .i64 j] w λe w'=>e=.returned (.slice (some ⟨b,off,none⟩) (i+(n-j)) c)/\w'=w3:=by
 have mixed:=mixed;have h0:¬((i:Int)=(j:Int)):=by omega
 have h1:(i:Int)<=(j:Int):=by omega
 have h2:(j:Int)<=(n:Int):=by omega
 have h3:(n:Int)<=(c:Int):=by omega
 have h4:(i:Int)<=(c:Int):=by omega
 have h5:¬(c=i+(n-j)):=by omega
 go_enter Tryz.func98,Tryz.ntmps98
 go_wp2
 go_region_law_o (refine avK rfl _ _ 140 140 rfl _ _ (by simp[Act.eval,Act.put]) (by simp[Act.eval,Act.put];split<;>rfl) (hrz _) ?_)
 go_wp2_with (at_builtin;refine atM _ rfl _ 140 rfl _ rfl (Ej _) ?_)
 all_goals (go_ret;exact⟨rfl,rfl⟩)
set_option maxHeartbeats 4000000 in
set_option maxRecDepth 100000 in
theorem aSE (w:World):Calls Tryz.prog 166 #[.slice none 0 0] w λe w'=>e=.returned (.slice none 0 0)/\w'=w:=by
 have mixed:=mixed;have heq:∀w:World,(Go.binOp .eql 140 (.slice none 0 0) (.slice none 0 0)).run Tryz.prog w=.ok (.bool true) w:=λw=>by kernel_rfl
 go_enter Tryz.func166,Tryz.ntmps166
 go_wp2
 go_ret
 exact⟨rfl,rfl⟩
set_option maxHeartbeats 4000000 in
set_option maxRecDepth 100000 in
theorem aAJ (a:Addr)(n c:Nat)(w w2:World)(v2:Value)
  (hrz:∀ty,(Builtin.append_ #[140,140] ty #[.slice (some ⟨w.heap.size,0,none⟩) 0 0,.slice (some a) n c]).run Tryz.prog (w.alloc (.cells #[] 42))=.ok v2 w2):
  Calls Tryz.prog 166 #[.slice (some a) n c] w λe w'=>e=.returned v2/\w'=w2:=by
 have mixed:=mixed;have heq:∀w:World,(Go.binOp .eql 140 (.slice (some a) n c) (.slice none 0 0)).run Tryz.prog w=.ok (.bool false) w:=λw=>by kernel_rfl
 go_enter Tryz.func166,Tryz.ntmps166
 go_wp2_with (at_builtin;refine Lib.wpList_append_run _ rfl _ _ _ _ rfl _ _ rfl rfl _ _ (hrz _) ?_)
 go_ret
 exact⟨rfl,rfl⟩
end Go.Proofs.YtldgljclcgaibaaGreat
namespace Go.Ab
def fF (l:List (Nat->Int)):List cS:=l.map (cS.i .i64)
def Fm (i:Nat)(g v:Nat->Int):Nat->Int:=λj=>cond (v6 j i) (g j) (cond (ww j i) (v 0) (g (j-1)))
def K5 (i d:Nat)(g:Nat->Int):Nat->Int:=λj=>cond (v6 j i) (g j) (g (j+d))
theorem BS {l:List (Nat->Int)}(h:l.length=9)(J:Nat):∃g,l[J%9]? =some g/\je (fF l) J=.f (.i .i64 (g (J/9))):=by
 have oo:J%9<l.length:=by rw[h];exact Nat.mod_lt _ (by omega)
 refine⟨l[J%9],kT oo,?_⟩;unfold je fF;rw[ags,h,Cb,kT oo];rfl
theorem aVb {l m:List (Nat->Int)}(hl:l.length=9)(hm:m.length=9)(i J:Nat):
  je (fF (List.zipWith (Fm i) l m)) J=if J<i*9 then je (fF l) J else if J<(i+1)*9 then je (fF m) (J-i*9) else je (fF l) (J-9):=by
 obtain⟨g,hg,eg⟩:=BS hl J;obtain⟨v,hv,_⟩:=BS hm J;obtain⟨z,hz,ez⟩:=BS (l:=List.zipWith (Fm i) l m) (by simp[hl,hm]) J;have hz2:(List.zipWith (Fm i) l m)[J%9]? =some (Fm i g v):=by simp[List.getElem?_zipWith,hg,hv]
 rw[hz2] at hz;cases hz;rw[ez];by_cases h1:J<i*9
 .rw[if_pos h1,eg];have:v6 (J/9) i=true:=uM.2 (by omega);simp only[Fm,this,bD]
 .rw[if_neg h1];have e1:v6 (J/9) i=false:=agC (by omega);by_cases h2:J<(i+1)*9
  .rw[if_pos h2];have e2:ww (J/9) i=true:=beq_iff.2 (by omega);obtain⟨v',hv',ev⟩:=BS hm (J-i*9);have e3:(J-i*9)%9=J%9:=by omega
   have e4:(J-i*9)/9=0:=by omega
   rw[e3,hv] at hv';cases hv';rw[ev,e4];simp only[Fm,e1,e2,bD,bK]
  .rw[if_neg h2];have e2:ww (J/9) i=false:=beq_false (by omega);obtain⟨g',hg',ev⟩:=BS hl (J-9);have e3:(J-9)%9=J%9:=by omega
   have e4:(J-9)/9=J/9-1:=by omega
   rw[e3,hg] at hg';cases hg';rw[ev,e4];simp only[Fm,e1,e2,bK]
theorem aJH {l:List (Nat->Int)}(hl:l.length=9)(i d J:Nat):
  je (fF (l.map (K5 i d))) J=if J<i*9 then je (fF l) J else je (fF l) (J+d*9):=by
 obtain⟨g,hg,eg⟩:=BS hl J;obtain⟨z,hz,ez⟩:=BS (l:=l.map (K5 i d)) (by simp[hl]) J;have hz2:(l.map (K5 i d))[J%9]? =some (K5 i d g):=by simp[hg]
 rw[hz2] at hz;cases hz;rw[ez];by_cases h1:J<i*9
 .rw[if_pos h1,eg];have:v6 (J/9) i=true:=uM.2 (by omega);simp only[K5,this,bD]
 .rw[if_neg h1];have e1:v6 (J/9) i=false:=agC (by omega);obtain⟨g',hg',ev⟩:=BS hl (J+d*9);have e3:(J+d*9)%9=J%9:=by omega
  have e4:(J+d*9)/9=J/9+d:=by omega
  rw[e3,hg] at hg';cases hg';rw[ev,e4];simp only[K5,e1,bK]
theorem RL {l:List (Nat->Int)}(h:l.length=9)(n:Nat):af.size [.a (.s n) (fF l)]=n*9:=by
 rw[af.size_cons,af.lX,Sg.ma,kC];show n*(fF l).length=n*9;unfold fF;rw[ags,h]
theorem atN {l:List (Nat->Int)}(h:l.length=9){n j:Nat}(hj:j<n*9):af.get [.a (.s n) (fF l)] j=je (fF l) j:=by
 rw[af.dY (by rw[Sg.ma];unfold fF;rw[ags,h];exact hj),Sg.pR]
theorem aO4 [ax]{π:Pi}{w:World}{B s N:Nat}{c:Nat->CV}(h:∀j,j<N->∃v,cl w B (s+j)=some v/\(c j).rel π v):
  ∃cs:List Value,cs.length=N/\(∀j v,cs[j]? =some v->w.cell? ⟨B,s+j,none⟩=some v/\(c j).rel π v)/\∀v∈cs,v.oneCell'=true:=by
 have key:∀j v,((rx N).map λj=>(cl w B (s+j)).getD undef)[j]? =some v->w.cell? ⟨B,s+j,none⟩=some v/\(c j).rel π v:=λj v hv=>by
  have hj:j<N:=by
   have:=(me.1 hv).1;simpa using this
  obtain⟨u,hu,hr⟩:=h j hj;simp[hj,hu] at hv
  subst hv;exact⟨hu,hr⟩
 refine⟨(rx N).map λj=>(cl w B (s+j)).getD undef,by simp,key,λv hv=> ?_⟩;obtain⟨i,hi⟩:=ayj.1 hv;exact CV.RI (key i v hi).2
theorem aJI {w:World}{B i:Nat}{v:Value}(h:w.cell? ⟨B,i,none⟩=some v):∃t k,w.shape? B=some (t,k)/\k≠0:=by
 unfold World.cell? at h;simp only at h;cases hh:w.heap[B]? with
 |none=>rw[hh] at h;cases h
 |some x=>
  rw[hh] at h;cases x<;>simp only at h<;>first|(cases h;done)|skip
  rename_i cs t fz
  have:=(Array.getElem?_eq_some_iff.1 h).1;refine⟨t,cs.size,?_,by omega⟩;simp[World.shape?,hh]
variable [ax]
theorem aaC {P:Program}{π:Pi}{w W:World}{h:List af}{cs:List Ch}{out:List (Nat->Int)}{n cap B st q e b0:Nat}(ho:out.length=9)(hH:tf π (hC (h.map some)) (hZ (h.map some)) w)(ky:∀b,π b≠none->b<h.length)
  (JS:∀b,b<h.length->cs[b]? =some .m7∨cs[b]? =some .kill)(RJ:b0<h.length)(hk0:cs[b0]? =some .kill)(hp:π b0=some (B,st,q,e))(hfr:cj w (Df π h.length (Tl cs)) W)
  (qJ:∀i,st<=i->i<e->(cl W B i).isSome=true/\fz W B i=false)(ham:A6 W)(hc:∀J,J<n*9->∃v,cl W B (st+J)=some v/\(je (fF out) J).rel π v)(hn:n<=cap)(hce:st+cap*9<=e):
  aJD P π w h ⟨.r (.c (.sl h.length (.k 0) (.s n) 9 true)),cs,[[.a (.s n) (fF out)]]⟩ (.returned (.slice (some ⟨B,st,none⟩) n cap)) W:=by
 have yN:=RL ho n;have Ob:hZ (h.map some) b0≠none:=by rw[QJ,kT RJ];simp
 have oM:n*9<=cap*9:=wL _ hn;refine ayN (P:=P) (B:=B) (s:=st) (e:=e) hH ky JS hfr (by rw[yN];omega) qJ (λj hj=> ?_) (.inr ⟨b0,st,q,e,RJ,hk0,hp,eT _,eT _⟩) ham (λBN=>hH.lb b0 B st q e Ob hp BN) λπ' hx uW=> ?_
 .rw[yN] at hj;rw[atN ho hj];exact hc j hj
 .rw[yN] at uW;exact⟨B,st,n*9,e,uW,by simp[cD.val,Sz.val],λ_=>by simp[cD.val,Sz.val],.inr ⟨cap,hn,rfl,λ_=>by simpa[cD.val] using hce⟩⟩
theorem amc {P:Program}{π:Pi}{w W:World}{h:List af}{cs:List Ch}{out:List (Nat->Int)}{n cap B:Nat}(ho:out.length=9)(hH:tf π (hC (h.map some)) (hZ (h.map some)) w)(ky:∀b,π b≠none->b<h.length)
  (JS:∀b,b<h.length->cs[b]? =some .m7∨cs[b]? =some .kill)(hB:w.heap.size<=B)(hfr:cj w (Df π h.length (Tl cs)) W)
  (qJ:∀i,i<cap*9->(cl W B i).isSome=true/\fz W B i=false)(ham:A6 W)(hc:∀J,J<n*9->∃v,cl W B J=some v/\(je (fF out) J).rel π v)(hn:n<=cap):
  aJD P π w h ⟨.r (.c (.sl h.length (.k 0) (.s n) 9 true)),cs,[[.a (.s n) (fF out)]]⟩ (.returned (.slice (some ⟨B,0,none⟩) n cap)) W:=by
 have yN:=RL ho n;have oM:n*9<=cap*9:=wL _ hn;refine ayN (P:=P) (B:=B) (s:=0) (e:=cap*9) hH ky JS hfr (by rw[yN];omega) (λi _ hi=>qJ i hi) (λj hj=> ?_) (.inl hB) ham (λBN=>ch hH.am.sz hB) λπ' hx uW=> ?_
 .rw[yN] at hj;rw[atN ho hj,hI];exact hc j hj
 .rw[yN] at uW;exact⟨B,0,n*9,cap*9,uW,by simp[cD.val,Sz.val],λ_=>by simp[cD.val,Sz.val],.inr ⟨cap,hn,rfl,λ_=>by simp[cD.val]⟩⟩
theorem amd {P:Program}{π:Pi}{w W:World}{h:List af}{cs:List Ch}{out:List (Nat->Int)}{a:Option Addr}(ho:out.length=9)(hH:tf π (hC (h.map some)) (hZ (h.map some)) w)(ky:∀b,π b≠none->b<h.length)
  (JS:∀b,b<h.length->cs[b]? =some .m7∨cs[b]? =some .kill)(hfr:cj w (Df π h.length (Tl cs)) W)(ham:A6 W):
  aJD P π w h ⟨.r (.c (.sl h.length (.k 0) (.s 0) 9 true)),cs,[[.a (.s 0) (fF out)]]⟩ (.returned (.slice a 0 0)) W:=by
 have yN:=RL ho 0;refine ayN (P:=P) (B:=w.heap.size) (s:=0) (e:=0) hH ky JS hfr (by rw[yN];omega) (λi _ hi=>by omega) (λj hj=>by rw[yN] at hj;omega) (.inl (eT _)) ham (λBN=>by omega) λπ' hx uW=> ?_;rw[yN] at uW;exact⟨w.heap.size,0,0*9,0,uW,by simp[cD.val,Sz.val],λ_=>by simp[cD.val,Sz.val],.inl ⟨rfl,a,rfl⟩⟩
theorem aD2 {π:Pi}{w:World}{h:List af}{l:List (Nat->Int)}{n b B st q e:Nat}(hl:l.length=9)(hH:tf π (hC (h.map some)) (hZ (h.map some)) w)(hb:h[b]? =some [.a (.s n) (fF l)])(hp:π b=some (B,st,q,e)):
  q=n*9/\st+n*9<=e/\(∀i,st<=i->i<e->(cl w B i).isSome=true/\fz w B i=false)/\∃cs:List Value,cs.length=n*9/\(∀j v,cs[j]? =some v->w.cell? ⟨B,st+j,none⟩=some v/\(je (fF l) j).rel π v)/\∀v∈cs,v.oneCell'=true:=by
 have hz:hZ (h.map some) b=some (n*9):=by rw[QJ,hb];exact cO some (RL hl n)
 obtain⟨B',s',e',fC,BN,k1,k2⟩:=hH.hp b _ hz;rw[hp] at fC;cases fC;refine⟨rfl,BN,k1,aO4 λj hj=> ?_⟩;obtain⟨v,hv,hr⟩:=k2 j hj;rw[aDZ hb (by rw[RL hl];exact hj),atN hl hj] at hr;exact⟨v,hv,hr⟩
end Go.Ab
namespace Go.Proofs.YtldgljclcgaibaaGreat
open Go.RowKit Go.Lib Go.Ab
variable [ax]
omit [ax] in
theorem atO {P:Program}(w:World)(tS tR e:TypeId)(ht:P.underlying tS=some (.slice e))(size:Nat)(hz:∀w,(Go.sizeOf e).run P w=.ok size w)(B oa ob la ca lb cb:Nat)(hd:oa+la*size<=ob∨ob+lb*size<=oa):
  (Extern.SlicesOverlaps.overlaps #[tS,tS] #[tR] #[.slice (some ⟨B,oa,none⟩) la ca,.slice (some ⟨B,ob,none⟩) lb cb]).run P w=.ok (.bool false) w:=by
 change Sem.run P (α:=Value) (do
  let some t:=(#[tS,tS]:Array TypeId)[0]? |stuck "slices.overlaps: no parameter types"
  let .slice elem<-underlying t|stuck "slices.overlaps: slice type expected"
  let size<-sizeOf elem
  match(some ⟨B,oa,none⟩:Option Addr),(some ⟨B,ob,none⟩:Option Addr) with
  |some a,some b=>
   if la=0∨lb=0∨size=0 then pure (Value.bool false)
   else if a.block !=b.block&&(<-frozen a)&&(<-frozen b) then unsupported .addressObserved
   else do
    if a.block !=b.block then do
     noView a;noView b
     if<-mayBeOne a b then return Value.bool ((<-choose (.extern "sameAddr.stringBytes" 2))==1)
    pure (Value.bool (a.block==b.block&&a.off<b.off+lb*size&&b.off<a.off+la*size))
  |_,_=>pure (Value.bool false)) w=_
 by_cases h0:la=0∨lb=0∨size=0
 .simp[run_underlying ht,hz,h0]
 .simp[run_underlying ht,hz,h0,frozen,Sem.run]
  omega
omit [ax] in
theorem aLA {w:World}{vb Di vc b o lb cb:Nat}(hd:vb=b->Di+9<=o∨o+lb*9<=Di){va vb2:Value}(ha:w.cell? ⟨vb,Di,none⟩=some va)(hb:w.cell? ⟨b,o,none⟩=some vb2)(hfa:∀i,w.frozen? ⟨vb,i,none⟩=false):
  (callFunc 145 #[.slice (some ⟨vb,Di,none⟩) 1 vc,.slice (some ⟨b,o,none⟩) lb cb]).run Tryz.prog w=.ok (.value (.bool false)) w:=by
 rw[run_callFunc_extern Tryz.func145 (by kernel_rfl) (by kernel_rfl) (by kernel_rfl) (e:=Extern.SlicesOverlaps.overlaps #[140,140] #[4]) (by kernel_rfl)];obtain⟨tA,kA,sA,_⟩:=aJI ha;obtain⟨tB,kB,sB,nB⟩:=aJI hb;by_cases oM:vb=b
 .subst oM;have h2:=hd rfl;rw[atO w 140 4 42 uT 9 (λw=>Ab.run_sizeOf uE w) vb Di o 1 vc lb cb (by omega)];rfl
 .rw[Lib.run_overlaps_apart w 140 4 42 uT 9 (λw=>Ab.run_sizeOf uE w) ⟨vb,Di,none⟩ ⟨b,o,none⟩ 1 vc lb cb oM tA tB kA kB sA sB nB (hfa Di) (hfa kA)];rfl
end Go.Proofs.YtldgljclcgaibaaGreat
set_option maxRecDepth 100000
set_option maxHeartbeats 4000000
namespace Go.Proofs.YtldgljclcgaibaaGreat
open Go.RowKit Go.Lib Go.Ab
theorem aHG [ax]{gs vs9:List (Nat->Int)}(hg:gs.length=9)(hv9:vs9.length=9)(n i:Nat)(hi:i<=n)(aAu:(n+1)*72<=140737488355328)(w2:Bool)(w:World)(π:Pi)(vs:Array Value)
  (lV:bn (AV.rel π) [.r (.c (.sl 0 (.k 0) (.s n) 9 true)),.r (.c (.f (.i .i64 (i:Int)))),.r (.c (.sl 1 (.k 0) (.s 1) 9 w2))] vs.toList)
  (hH:tf π (hC ([[.a (.s n) (fF gs)],[.a (.s 1) (fF vs9)]].map some)) (hZ ([[.a (.s n) (fF gs)],[.a (.s 1) (fF vs9)]].map some)) w)(ky:∀b,π b≠none->b<2):
  Calls Tryz.prog 97 vs w (ub π w [[.a (.s n) (fF gs)],[.a (.s 1) (fF vs9)]] ⟨.r (.c (.sl 2 (.k 0) (.s (n+1)) 9 true)),[.kill,.m7],[[.a (.s (n+1)) (fF (List.zipWith (Fm i) gs vs9))]]⟩):=by
 obtain⟨y1,y2,y3,hvt,r1,r2,r3⟩:∃y1 y2 y3,vs.toList=[y1,y2,y3]/\(AV.r (.c (.sl 0 (.k 0) (.s n) 9 true))).rel π y1/\(AV.r (.c (.f (.i .i64 (i:Int))))).rel π y2/\(AV.r (.c (.sl 1 (.k 0) (.s 1) 9 w2))).rel π y3:=by
  match hl:vs.toList,lV with
  | [y1,y2,y3],⟨a,b,c,_⟩=>exact⟨y1,y2,y3,rfl,a,b,c⟩
  | [],h=>exact h.elim
  | [_],⟨_,h⟩=>exact h.elim
  | [_,_],⟨_,_,h⟩=>exact h.elim
  |_::_::_::_::_,⟨_,_,_,h⟩=>exact h.elim
 have hvt:vs=#[y1,y2,y3]:=by rw[<-alI];exact hvt
 subst hvt;have r2:y2=.int .i64 (i:Int):=r2;subst r2;obtain⟨B,st,q,e,hb,_,_,hx⟩:=r1;obtain⟨vB,vst,vq,ve,hvb,_,_,hvx⟩:=r3;obtain⟨rfl,hle,qJ,cs,Ej,JS,h1c⟩:=aD2 (b:=0) hg hH rfl hb;obtain⟨rfl,a6v,a2R,vl,hvl,hvs,h1v⟩:=aD2 (b:=1) hv9 hH rfl hvb
 obtain⟨aaD,a5v,rfl,_⟩:∃aaD,1<=aaD/\y3=.slice (some ⟨vB,vst,none⟩) 1 aaD/\True:=by
  rcases hvx with⟨h,_⟩| ⟨aaD,h1,h2,_⟩
  .cases h
  .exact⟨aaD,h1,h2,trivial⟩
 have Ob:hZ ([[.a (.s n) (fF gs)],[.a (.s 1) (fF vs9)]].map some) 0≠none:=by simp[hZ]
 have hz1:hZ ([[.a (.s n) (fF gs)],[.a (.s 1) (fF vs9)]].map some) 1≠none:=by simp[hZ]
 have hfv:∀i,w.frozen? ⟨vB,i,none⟩=false:=λi=>hH.am.fr vB i (hH.lb 1 vB vst _ ve hz1 hvb (by omega))
 have ho:(List.zipWith (Fm i) gs vs9).length=9:=by simp[hg,hv9]
 have aje:∀b,b< [[Sg.a (.s n) (fF gs)],[.a (.s 1) (fF vs9)]].length->[Ch.kill,Ch.m7][b]? =some .m7∨[Ch.kill,Ch.m7][b]? =some .kill:=λb hb=>by
  match b,hb with
  |0,_=>exact .inr rfl
  |1,_=>exact .inl rfl
  |b+2,h=>exact absurd h (by simp)
 have hft:∀i,st<=i->i<e->Df π 2 (Tl [.kill,.m7]) B i:=λi h1 h2=>⟨0,st,_,e,by omega,by simp[Tl],hb,h1,h2⟩
 have cont:∀(W:World) (B' s':Nat),(∀j v,j<i*9->cs[j]? =some v->cl W B' (s'+j)=some v)->(∀j v,vl[j]? =some v->cl W B' (s'+i*9+j)=some v)->(∀j v,i*9<=j->cs[j]? =some v->cl W B' (s'+(j+9))=some v)->
   ∀J,J<(n+1)*9->∃v,cl W B' (s'+J)=some v/\(je (fF (List.zipWith (Fm i) gs vs9)) J).rel π v:=λW B' s' c1 c2 c3 J hJ=>by
  rw[aVb hg hv9];by_cases h1:J<i*9
  .rw[if_pos h1];have hj:cs[J]? =some (cs[J]'(by omega)):=kT _;exact⟨_,c1 J _ h1 hj,(JS J _ hj).2⟩
  .rw[if_neg h1];by_cases h2:J<(i+1)*9
   .rw[if_pos h2];have hj:vl[J-i*9]? =some (vl[J-i*9]'(by omega)):=kT _;have:=c2 _ _ hj;rw[show s'+i*9+(J-i*9)=s'+J by omega] at this;exact⟨_,this,(hvs _ _ hj).2⟩
   .rw[if_neg h2];have hj:cs[J-9]? =some (cs[J-9]'(by omega)):=kT _;have:=c3 _ _ (by omega) hj;rw[show s'+(J-9+9)=s'+J by omega] at this;exact⟨_,this,(JS _ _ hj).2⟩
 have hE:=iE;obtain⟨i0,z0,hi0,hzz,a4r,aZq,a4s⟩:=hE;have aZr:(Tryz.prog.info? 42).map (·.bytes)=some 72:=by rw[hi0];exact cO some aZq
 obtain⟨zv,hzv,aZs⟩:∃zv,A3 Tryz.prog 42=some zv/\af.size zv.bS=9:=by
  have h:(A3 Tryz.prog 42).map (λz=>af.size z.bS)=some 9:=by kernel_rfl
  cases hz:A3 Tryz.prog 42 with
  |none=>rw[hz] at h;cases h
  |some z=>rw[hz] at h;exact⟨z,rfl,by simpa using h⟩
 have atI:∀(base:Option Addr) (cap:Nat) (G9:List Value),i=n->G9=cs->cap<n+1->n<=cap->((base=none/\n=0/\cap=0)∨∃b,base=some b/\∀j v,G9[j]? =some v->w.cell? (b.add j)=some v)->
   y1=.slice base n cap->Calls Tryz.prog 97 #[y1,.int .i64 (i:Int),.slice (some ⟨vB,vst,none⟩) 1 aaD] w (ub π w [[.a (.s n) (fF gs)],[.a (.s 1) (fF vs9)]] ⟨.r (.c (.sl 2 (.k 0) (.s (n+1)) 9 true)),[.kill,.m7],[[.a (.s (n+1)) (fF (List.zipWith (Fm i) gs vs9))]]⟩):=by
  intro base cap G9 hin holds sw a5w hs hy;subst hin holds
  obtain⟨gc,arr,oH,hgc,yN,rest,agQ⟩:∃gc arr,(∀ty,(Builtin.append_ #[140,140] ty #[.slice base i cap,.slice (some ⟨vB,vst,none⟩) 1 aaD]).run Tryz.prog w=.ok (.slice (some ⟨w.heap.size,0,none⟩) (i+1) gc) (w.drew.alloc (.cells arr 42)))/\i+1<=gc/\arr.size=gc*9/\∃rest,arr.toList=G9++vl++rest:=by
   obtain⟨gc,arr,oH,h2,h3,h4⟩:=IU (P:=Tryz.prog) (ty:=0) uT uE aZr hzv aZs (by omega) (sv:=.slice base i cap) (n:=i) (cap:=cap) (m:=1) (c:=aaD) (ad:=⟨vB,vst,none⟩) (G9:=G9) (news:=vl) w (by
    rcases hs with⟨rfl,h1,h2⟩| ⟨b,rfl,h3⟩
    .exact .inl ⟨by rw[h1,h2],h1,h2⟩
    .exact .inr ⟨b,rfl,h3⟩) Ej (by rw[hvl]) (λj v hj=>by rw[Addr.add_lit];exact(hvs j v hj).1) sw (by omega) aAu
   exact⟨gc,arr,λty=>by unfold Builtin.append_ at oH ⊢;exact oH,h2,h3,h4⟩
  have hC:=aO3 base i cap vB vst aaD w _ _ oH;rw[hy];refine Calls.mono hC ?_;rintro ev W ⟨rfl,rfl⟩
  have aJJ:∀j,cl (w.drew.alloc (.cells arr 42)) w.heap.size j=arr[j]? :=λj=>World.cell?_alloc_at (w:=w.drew) arr _ w.heap.size j rfl
  refine amc (P:=Tryz.prog) ho hH ky aje (eT _) (((cj.refl w _).drew).alloc _ _) (λk hk=>⟨by rw[aJJ,ai8 (by omega)];rfl,World.frozen?_alloc_at (w:=w.drew) arr _ w.heap.size k rfl⟩) ((hH.am.same (w':=w.drew) rfl).alloc _ _) (λJ hJ=> ?_) hgc;have:=cont (w.drew.alloc (.cells arr 42)) w.heap.size 0 (λj v hj hv=>by rw[hI,aJJ];exact(Wt agQ).1 hv) (λj v hv=>by rw[hI,aJJ,<-Ej];exact(Wt agQ).2 hv) (λj v hj hv=>by have:=(me.1 hv).1;omega) J hJ;rwa [hI] at this
 rcases hx with⟨h0,a,rfl⟩| ⟨cap,sw,rfl,hce⟩
 ·
  have h0:n=0:=h0;subst h0;have a4t:i=0:=by omega
  subst a4t;cases a with
  |none=>exact atI none 0 cs rfl rfl (by omega) (by omega) (.inl ⟨rfl,rfl,rfl⟩) rfl
  |some b=>
   have a4u:cs=[]:=List.eq_nil_of_length_eq_zero (by omega);exact atI (some b) 0 cs rfl rfl (by omega) (by omega) (.inr ⟨b,rfl,λj v hj=>by rw[a4u] at hj;simp at hj⟩) rfl
 .have sw:n<=cap:=sw;have hce:st+cap*9<=e:=by have:=hce rfl;simpa[cD.val] using this
  show Calls Tryz.prog 97 #[.slice (some ⟨B,st,none⟩) n cap,.int .i64 (i:Int),.slice (some ⟨vB,vst,none⟩) 1 aaD] w _;by_cases Tk:n+1<=cap
  .have a5g:(n+1)*9<=cap*9:=wL _ Tk
   have aYS:vB=B->vst+9<=st∨st+(n+1)*9<=vst:=λh=>by
    subst h;rcases pQ vst (st+(n+1)*9) with h1|h1
    .left
     rcases pQ st (vst+9) with h2|h2
     .exfalso
      rcases pQ st vst with h3|h3
      .exact hH.dj 0 1 _ st _ e vst _ ve (by omega) Ob hz1 hb hvb vst (by omega) (by omega) (eT _) (by omega)
      .exact hH.dj 0 1 _ st _ e vst _ ve (by omega) Ob hz1 hb hvb st (eT _) (by omega) h3 (by omega)
     .omega
    .exact .inr h1
   by_cases hin:i=n
   ·
    subst hin;have hC:=aO3 (some ⟨B,st,none⟩) i cap vB vst aaD w _ _ (λty=>L3 (P:=Tryz.prog) (ty:=ty) uT uE (B:=B) (q:=st) (n:=i) (cap:=cap) (m:=1) (c:=aaD) (ad:=⟨vB,vst,none⟩) (news:=vl) Tk (by rw[hvl]) w (λj v hj=>by rw[Addr.add_lit];exact(hvs j v hj).1) h1v (λj hj=>qJ _ (by omega) (by omega)));refine Calls.mono hC ?_;rintro ev W ⟨rfl,rfl⟩
    have a15:∀j,j<vl.length->(cl w B (st+i*9+j)).isSome=true:=λj hj=>(qJ _ (by omega) (by omega)).1
    refine aaC (P:=Tryz.prog) (q:=i*9) ho hH ky aje (by simp) rfl hb ((cj.refl w _).setCells (.inr λj hj=>hft _ (by omega) (by omega))) (λk k1 k2=>⟨Ab.isSome_setCells a15 (qJ k k1 k2).1,by rw[pX];exact(qJ k k1 k2).2⟩) (hH.am.setCells λ_=>hH.lb 0 B st _ e Ob hb (by omega)) (cont _ B st (λj v hj hv=> ?_) (λj v hv=> ?_) (λj v hj hv=>by have:=(me.1 hv).1;omega)) Tk hce
    .rw[eU (λ_=>by omega)];exact(JS j v hv).1
    .have hjl:=(me.1 hv).1;rw[oq a15 hjl];rw[kT hjl] at hv;exact hv
   ·
    have hC:=aSD B st n cap i vB vst aaD cs vl w (by omega) Tk aYS Ej hvl (by omega) (λj v hj=>(JS j v hj).1) (λj hj=>(qJ _ (by omega) (by omega)).1) (λj hj=>(qJ _ (by omega) (by omega)).2) (λj v hj=>(hvs j v hj).1) h1c h1v
     (λcb=>by
      obtain⟨va,hva⟩:=Option.isSome_iff_exists.1 (a2R vst (eT _) (by omega)).1;obtain⟨vb2,a4v⟩:=Option.isSome_iff_exists.1 (qJ (st+(i+1)*9) (by omega) (by omega)).1;exact aLA (λh=>by have:=aYS h;omega) hva a4v hfv)
    refine Calls.mono hC ?_;rintro ev W ⟨rfl,rfl⟩
    have hdl:(cs.drop (i*9)).length=(n-i)*9:=by rw[atu,Ej];omega
    have i1:∀j,j<(cs.drop (i*9)).length->(cl w.drew B (st+(i+1)*9+j)).isSome=true:=λj hj=>(qJ _ (by omega) (by omega)).1
    have i2:∀j,j<vl.length->(cl (w.drew.setCells B (st+(i+1)*9) (cs.drop (i*9))) B (st+i*9+j)).isSome=true:=λj hj=>Ab.isSome_setCells i1 (qJ _ (by omega) (by omega)).1
    have hlb:=hH.lb 0 B st _ e Ob hb (by omega)
    refine aaC (P:=Tryz.prog) (q:=n*9) ho hH ky aje (by simp) rfl hb ((((cj.refl w _).drew).setCells (.inr λj hj=>hft _ (by omega) (by omega))).setCells (.inr λj hj=>hft _ (by omega) (by omega)))
     (λk k1 k2=>⟨Ab.isSome_setCells i2 (Ab.isSome_setCells i1 (qJ k k1 k2).1),by rw[pX,pX];exact(qJ k k1 k2).2⟩) (((hH.am.same (w':=w.drew) rfl).setCells λ_=>hlb).setCells λ_=>hlb) (cont _ B st (λj v hj hv=> ?_) (λj v hv=> ?_) (λj v hj hv=> ?_)) Tk hce
    .rw[eU (λ_=>by omega),eU (λ_=>by omega)];exact(JS j v hv).1
    .have hjl:=(me.1 hv).1;rw[oq i2 hjl];rw[kT hjl] at hv;exact hv
    .have hjl:=(me.1 hv).1;rw[eU (λ_=>by omega)];have mg:j-i*9<(cs.drop (i*9)).length:=by omega
     have:=oq i1 mg;rw[show st+(i+1)*9+(j-i*9)=st+(j+9) by omega] at this;rw[this,<-kT,Te,show i*9+(j-i*9)=j by omega];exact hv
  .by_cases hin:i=n
   .exact atI (some ⟨B,st,none⟩) cap cs hin rfl (by omega) sw (.inr ⟨_,rfl,λj v hj=>by rw[Addr.add_lit];exact(JS j v hj).1⟩) rfl
   .obtain⟨G,Dj,hG,yN,htk,hC⟩:=aU9 B st n cap i vB vst aaD cs vl w (by omega) sw (by omega) aAu Ej hvl (λj v hj=>(JS j v hj).1) (λj v hj=>(hvs j v hj).1) h1c h1v;refine Calls.mono hC ?_;rintro ev W ⟨rfl,rfl⟩
    have hG9:(n+1)*9<=G*9:=wL _ hG;have hdl:(cs.drop (i*9)).length=(n-i)*9:=by rw[atu,Ej];omega
    have c0:∀j,cl (w.alloc (.cells Dj 42)).drew w.heap.size j=Dj[j]? :=λj=>World.cell?_alloc_at (w:=w) Dj _ w.heap.size j rfl
    have s0:∀j,j<G*9->(cl (w.alloc (.cells Dj 42)).drew w.heap.size j).isSome=true:=λj hj=>by rw[c0,ai8 (by omega)];rfl
    have i1:∀j,j<vl.length->(cl (w.alloc (.cells Dj 42)).drew w.heap.size (i*9+j)).isSome=true:=λj hj=>s0 _ (by omega)
    have i2:∀j,j<(cs.drop (i*9)).length->(cl ((w.alloc (.cells Dj 42)).drew.setCells w.heap.size (i*9) vl).drew w.heap.size ((i+1)*9+j)).isSome=true:=λj hj=>Ab.isSome_setCells i1 (s0 _ (by omega))
    have hlb:ax.h0<=w.heap.size:=hH.am.sz;have am1:A6 (w.alloc (.cells Dj 42)).drew:=(hH.am.alloc Dj 42).same (w':=(w.alloc (.cells Dj 42)).drew) rfl;have am2:A6 ((w.alloc (.cells Dj 42)).drew.setCells w.heap.size (i*9) vl).drew:=(am1.setCells λ_=>hlb).same (w':=((w.alloc (.cells Dj 42)).drew.setCells w.heap.size (i*9) vl).drew) rfl;have f1:cj w (Df π 2 (Tl [.kill,.m7])) ((w.alloc (.cells Dj 42)).drew.setCells w.heap.size (i*9) vl).drew:=((((cj.refl w _).alloc Dj 42).drew).setCells (.inl (eT _))).drew;refine amc (P:=Tryz.prog) ho hH ky aje (eT _) (f1.setCells (.inl (eT _))) (λk hk=>⟨Ab.isSome_setCells i2 (Ab.isSome_setCells i1 (s0 k hk)),?_⟩) (am2.setCells λ_=>hlb) (λJ hJ=> ?_) hG
    .rw[pX];exact(pX (w:=(w.alloc (.cells Dj 42)).drew)).trans (World.frozen?_alloc_at (w:=w) Dj _ w.heap.size k rfl)
    .have:=cont (((w.alloc (.cells Dj 42)).drew.setCells w.heap.size (i*9) vl).drew.setCells w.heap.size ((i+1)*9) (cs.drop (i*9))) w.heap.size 0 (λj v hj hv=> ?_) (λj v hv=> ?_) (λj v hj hv=> ?_) J hJ
     .rwa [hI] at this
     .rw[hI,eU (λ_=>by omega)];exact(eU (w:=(w.alloc (.cells Dj 42)).drew) (λ_=>by omega)).trans ((c0 j).trans (htk j v hj hv))
     .have hjl:=(me.1 hv).1;rw[hI,eU (λ_=>by omega)];have:=oq i1 hjl;rw[kT hjl] at hv;exact this.trans hv
     .have hjl:=(me.1 hv).1;have mg:j-i*9<(cs.drop (i*9)).length:=by omega
      have:=oq i2 mg;rw[show(i+1)*9+(j-i*9)=j+9 by omega] at this;rw[hI,this,<-kT,Te,show i*9+(j-i*9)=j by omega];exact hv
theorem zS [ax]:∃z,(∀w,(Go.zeroValue 42).run Tryz.prog w=.ok z w)/\z.cells.size=9/\∀v∈z.cells.toList,v.oneCell'=true:=by
 have h:(Tryz.prog.info? 42).map (λi=>i.zero.map λz=>(z.cells.size,z.cells.toList.all λv=>v.oneCell'))=some (some (9,true)):=by kernel_rfl
 obtain⟨zv,hzv⟩:∃zv,A3 Tryz.prog 42=some zv:=by
  have h:(A3 Tryz.prog 42).isSome=true:=by kernel_rfl
  exact Option.isSome_iff_exists.1 h
 cases hi:Tryz.prog.info? 42 with
 |none=>rw[hi] at h;cases h
 |some i=>
  rw[hi] at h;simp only[Tf,j9] at h;cases hz:i.zero with
  |none=>rw[hz] at h;cases h
  |some z=>
   rw[hz] at h;simp only[Tf,j9,rE] at h;refine⟨z,λw=> ?_,h.1,ayn.1 h.2⟩;obtain⟨x,hx,⟨it,hi2,hz2⟩,_⟩:=aet hzv w;rw[hi] at hi2;cases hi2;rw[hz] at hz2;cases hz2;exact hx
theorem aZt [ax](w:World)(ty:TypeId)(b o n c:Nat)(hn:0<n)(hc:∀j,j<n*9->(w.cell? ⟨b,o+j,none⟩).isSome=true)(hf:∀j,j<n*9->w.frozen? ⟨b,o+j,none⟩=false):
  ∃zs:List Value,zs.length=n*9/\(Builtin.clear_ #[140] ty #[.slice (some ⟨b,o,none⟩) n c]).run Tryz.prog w=.ok (.tuple #[]) (w.setCells b o zs):=by
 obtain⟨z,hz,hs,h1⟩:=zS;have hl:(Builtin.zeroCells z.cells n).toList.length=n*9:=by rw[WA,size_zeroCells,hs]
 refine⟨(Builtin.zeroCells z.cells n).toList,hl,?_⟩
 have hst:=run_storeCells_cells (P:=Tryz.prog) b o (Builtin.zeroCells z.cells n).toList 0 w (by rw[hl];simpa using hc) (by rw[hl];simpa using hf) (by
  intro v hv;unfold Builtin.zeroCells at hv;rw[Array.toList_map] at hv;obtain⟨i,hi,rfl⟩:=List.mem_map.1 hv;have oo:i%z.cells.size<z.cells.size:=Nat.mod_lt _ (by omega);have e:z.cells[i%z.cells.size]! =z.cells[i%z.cells.size]:=getElem!_pos z.cells (i%z.cells.size) oo;rw[e];exact h1 _ (Array.getElem_mem_toList oo))
 simp only[kC] at hst;obtain⟨m,rfl⟩:∃m,n=m+1:=⟨n-1,by omega⟩;simp[Builtin.clear_,run_underlying uT,hz,hst]
theorem aHH [ax]{gs:List (Nat->Int)}(hg:gs.length=9)(n i j:Nat)(hij:i<=j)(hj:j<=n)(w:World)(π:Pi)(vs:Array Value)
  (lV:bn (AV.rel π) [.r (.c (.sl 0 (.k 0) (.s n) 9 true)),.r (.c (.f (.i .i64 (i:Int)))),.r (.c (.f (.i .i64 (j:Int))))] vs.toList)
  (hH:tf π (hC ([[.a (.s n) (fF gs)]].map some)) (hZ ([[.a (.s n) (fF gs)]].map some)) w)(ky:∀b,π b≠none->b<1):
  Calls Tryz.prog 98 vs w (ub π w [[.a (.s n) (fF gs)]] ⟨.r (.c (.sl 1 (.k 0) (.s (i+(n-j))) 9 true)),[.kill],[[.a (.s (i+(n-j))) (fF (gs.map (K5 i (j-i))))]]⟩):=by
 obtain⟨y1,y2,y3,hvt,r1,r2,r3⟩:∃y1 y2 y3,vs.toList=[y1,y2,y3]/\(AV.r (.c (.sl 0 (.k 0) (.s n) 9 true))).rel π y1/\(AV.r (.c (.f (.i .i64 (i:Int))))).rel π y2/\(AV.r (.c (.f (.i .i64 (j:Int))))).rel π y3:=by
  match hl:vs.toList,lV with
  | [y1,y2,y3],⟨a,b,c,_⟩=>exact⟨y1,y2,y3,rfl,a,b,c⟩
  | [],h=>exact h.elim
  | [_],⟨_,h⟩=>exact h.elim
  | [_,_],⟨_,_,h⟩=>exact h.elim
  |_::_::_::_::_,⟨_,_,_,h⟩=>exact h.elim
 have hvt:vs=#[y1,y2,y3]:=by rw[<-alI];exact hvt
 subst hvt;have r2:y2=.int .i64 (i:Int):=r2;have r3:y3=.int .i64 (j:Int):=r3;subst r2 r3;obtain⟨B,st,q,e,hb,_,_,hx⟩:=r1;obtain⟨rfl,hle,qJ,cs,Ej,JS,h1c⟩:=aD2 (b:=0) hg hH rfl hb;have Ob:hZ ([[.a (.s n) (fF gs)]].map some) 0≠none:=by simp[hZ]
 have ho:(gs.map (K5 i (j-i))).length=9:=by simp[hg]
 have aje:∀b,b< [[Sg.a (.s n) (fF gs)]].length->[Ch.kill][b]? =some .m7∨[Ch.kill][b]? =some .kill:=λb hb=>by
  match b,hb with
  |0,_=>exact .inr rfl
  |b+1,h=>exact absurd h (by simp)
 have hft:∀i,st<=i->i<e->Df π 1 (Tl [.kill]) B i:=λi h1 h2=>⟨0,st,_,e,by omega,by simp[Tl],hb,h1,h2⟩
 rcases hx with⟨h0,a,rfl⟩| ⟨cap,sw,rfl,hce⟩
 .have h0:n=0:=h0;subst h0;have hi0:i=0:=by omega
  have hj0:j=0:=by omega
  subst hi0 hj0;refine Calls.mono (aJG a 0 0 0 w (by omega) (by omega)) ?_;rintro ev W ⟨rfl,rfl⟩
  exact amd (P:=Tryz.prog) ho hH ky aje (cj.refl _ _) hH.am
 .have sw:n<=cap:=sw;have hce:st+cap*9<=e:=by have:=hce rfl;simpa[cD.val] using this
  have a5x:n*9<=cap*9:=wL _ sw;show Calls Tryz.prog 98 #[.slice (some ⟨B,st,none⟩) n cap,.int .i64 (i:Int),.int .i64 (j:Int)] w _;rcases Nat.eq_or_lt_of_le hij with a4w|oo
  .subst a4w;refine Calls.mono (aJG _ n cap i w hj sw) ?_;rintro ev W ⟨rfl,rfl⟩
   have hn:i+(n-i)=n:=by omega
   rw[hn];refine aaC (P:=Tryz.prog) (q:=n*9) ho hH ky aje (by simp) rfl hb (cj.refl _ _) qJ hH.am (λJ hJ=> ?_) sw hce;rw[aJH hg];have hjj:cs[J]? =some (cs[J]'(by omega)):=kT _;refine⟨_,(JS _ _ hjj).1,?_⟩;have:=(JS _ _ hjj).2;split
   .exact this
   .rw[Nat.sub_self,Tg,kC];exact this
  .have hm9:(i+(n-j))*9<=n*9:=wL _ (by omega);have hdl:(cs.drop (j*9)).length=(n-j)*9:=by rw[atu,Ej];omega
   have i1:∀k,k<(cs.drop (j*9)).length->(cl w.drew B (st+i*9+k)).isSome=true:=λk hk=>(qJ _ (by omega) (by omega)).1
   obtain⟨w2,hw2⟩:∃w2,w2=w.drew.setCells B (st+i*9) (cs.drop (j*9)):=⟨_,rfl⟩
   have s2:∀k,st<=k->k<e->(cl w2 B k).isSome=true/\fz w2 B k=false:=λk k1 k2=>by
    rw[hw2];exact⟨Ab.isSome_setCells i1 (qJ k k1 k2).1,by rw[pX];exact(qJ k k1 k2).2⟩
   obtain⟨zs,hzl,a4x⟩:∃zs:List Value,zs.length=(n-(i+(n-j)))*9/\∀ty,(Builtin.clear_ #[140] ty #[.slice (some ⟨B,st+(i+(n-j))*9,none⟩) (n-(i+(n-j))) (cap-(i+(n-j)))]).run Tryz.prog w2=.ok (.tuple #[]) (w2.setCells B (st+(i+(n-j))*9) zs):=by
    obtain⟨zs,h1,h2⟩:=aZt w2 0 B (st+(i+(n-j))*9) (n-(i+(n-j))) (cap-(i+(n-j))) (by omega) (λk hk=>(s2 _ (by omega) (by omega)).1) (λk hk=>(s2 _ (by omega) (by omega)).2);exact⟨zs,h1,λty=>by unfold Builtin.clear_ at h2 ⊢;exact h2⟩
   have hC:=aVa B st n cap i j w w2 (w2.setCells B (st+(i+(n-j))*9) zs) oo hj sw (λty=>by
    rw[hw2]
    exact L3 (P:=Tryz.prog) (ty:=ty) uT uE (B:=B) (q:=st) (n:=i) (cap:=cap) (m:=n-j) (c:=cap-j) (news:=cs.drop (j*9)) (by omega) hdl w.drew (λk v hk=>by
     have hk2:=(me.1 hk).1;rw[Te] at hk;have:=(JS _ _ hk).1;split
     .omega
     .rw[Addr.add_lit,Cc];exact this) (λv hv=>h1c v (List.mem_of_mem_drop hv)) (λk hk=>qJ _ (by omega) (by omega))) a4x
   refine Calls.mono hC ?_;rintro ev W ⟨rfl,rfl⟩
   have i2:∀k,k<zs.length->(cl w2 B (st+(i+(n-j))*9+k)).isSome=true:=λk hk=>(s2 _ (by omega) (by omega)).1
   have hlb:0<n->ax.h0<=B:=λ_=>hH.lb 0 B st _ e Ob hb (by omega)
   have am2:A6 w2:=by rw[hw2];exact(hH.am.same (w':=w.drew) rfl).setCells λ_=>hlb (by omega)
   have f2:cj w (Df π 1 (Tl [.kill])) w2:=by rw[hw2];exact((cj.refl w _).drew).setCells (.inr λk hk=>hft _ (by omega) (by omega))
   refine aaC (P:=Tryz.prog) (q:=n*9) ho hH ky aje (by simp) rfl hb (f2.setCells (.inr λk hk=>hft _ (by omega) (by omega))) (λk k1 k2=>⟨Ab.isSome_setCells i2 (s2 k k1 k2).1,by rw[pX];exact(s2 k k1 k2).2⟩) (am2.setCells λ_=>hlb (by omega)) (λJ hJ=> ?_) (by omega) hce;rw[aJH hg,eU (λ_=>by omega),hw2];by_cases h1:J<i*9
   .rw[if_pos h1,eU (λ_=>by omega)];have hjj:cs[J]? =some (cs[J]'(by omega)):=kT _;exact⟨_,(JS _ _ hjj).1,(JS _ _ hjj).2⟩
   .rw[if_neg h1];have hJ2:J-i*9<(cs.drop (j*9)).length:=by omega
    have h3:=oq i1 hJ2;rw[show st+i*9+(J-i*9)=st+J by omega] at h3;refine⟨_,h3,?_⟩
    have hjj:cs[J+(j-i)*9]? =some ((cs.drop (j*9))[J-i*9]):=by
     rw[<-kT,Te];congr 1
     have:(j-i)*9=j*9-i*9:=by omega
     omega
    exact(JS _ _ hjj).2
theorem aLB [ax]{gs:List (Nat->Int)}(hg:gs.length=9)(n:Nat)(aAu:n*72<=140737488355328)(w0:Bool)(w:World)(π:Pi)(vs:Array Value)
  (lV:bn (AV.rel π) [.r (.c (.sl 0 (.k 0) (.s n) 9 w0))] vs.toList)
  (hH:tf π (hC ([[.a (.s n) (fF gs)]].map some)) (hZ ([[.a (.s n) (fF gs)]].map some)) w)(ky:∀b,π b≠none->b<1):
  Calls Tryz.prog 166 vs w (ub π w [[.a (.s n) (fF gs)]] ⟨.r (.c (.sl 1 (.k 0) (.s n) 9 true)),[.m7],[[.a (.s n) (fF gs)]]⟩):=by
 obtain⟨y1,hvt,r1⟩:∃y1,vs.toList=[y1]/\(AV.r (.c (.sl 0 (.k 0) (.s n) 9 w0))).rel π y1:=by
  match hl:vs.toList,lV with
  | [y1],⟨a,_⟩=>exact⟨y1,rfl,a⟩
  | [],h=>exact h.elim
  |_::_::_,⟨_,h⟩=>exact h.elim
 have hvt:vs=#[y1]:=by rw[<-alI];exact hvt
 subst hvt;obtain⟨B,st,q,e,hb,_,_,hx⟩:=r1;obtain⟨rfl,hle,qJ,cs,Ej,JS,h1c⟩:=aD2 (b:=0) hg hH rfl hb
 have aje:∀b,b< [[Sg.a (.s n) (fF gs)]].length->[Ch.m7][b]? =some .m7∨[Ch.m7][b]? =some .kill:=λb hb=>by
  match b,hb with
  |0,_=>exact .inl rfl
  |b+1,h=>exact absurd h (by simp)
 have hE:=iE;obtain⟨i0,z0,hi0,hzz,a4r,aZq,a4s⟩:=hE;have aZr:(Tryz.prog.info? 42).map (·.bytes)=some 72:=by rw[hi0];exact cO some aZq
 obtain⟨zv,hzv,aZs⟩:∃zv,A3 Tryz.prog 42=some zv/\af.size zv.bS=9:=by
  have h:(A3 Tryz.prog 42).map (λz=>af.size z.bS)=some 9:=by kernel_rfl
  cases hz:A3 Tryz.prog 42 with
  |none=>rw[hz] at h;cases h
  |some z=>rw[hz] at h;exact⟨z,rfl,by simpa using h⟩
 obtain⟨w1,hw1⟩:∃w1,w1=w.alloc (.cells #[] 42):=⟨_,rfl⟩;have hs1:w1.heap.size=w.heap.size+1:=by rw[hw1];exact World.size_alloc ..
 have am1:A6 w1:=by rw[hw1];exact hH.am.alloc _ _
 have f1:cj w (Df π 1 (Tl [.m7])) w1:=by rw[hw1];exact(cj.refl w _).alloc _ _
 have none_:n=0->∀(a:Addr) (c:Nat),Calls Tryz.prog 166 #[.slice (some a) 0 c] w (ub π w [[.a (.s n) (fF gs)]] ⟨.r (.c (.sl 1 (.k 0) (.s n) 9 true)),[.m7],[[.a (.s n) (fF gs)]]⟩):=λh0 a c=>by
  subst h0;refine Calls.mono (aAJ a 0 c w _ _ λty=>L3 (P:=Tryz.prog) (ty:=ty) uT uE (B:=w.heap.size) (q:=0) (n:=0) (cap:=0) (m:=0) (c:=c) (ad:=a) (news:=[]) (by omega) rfl (w.alloc (.cells #[] 42)) (λj v hj=>by simp at hj) (λv hv=>by cases hv) (λj hj=>by simp at hj)) ?_;rintro ev W ⟨rfl,rfl⟩
  rw[<-hw1];exact amd (P:=Tryz.prog) hg hH ky aje f1 am1
 rcases hx with⟨h0,a,rfl⟩| ⟨cap,sw,rfl,hce⟩
 .have h0:n=0:=h0;cases a with
  |none=>
   subst h0;refine Calls.mono (aSE w) ?_;rintro ev W ⟨rfl,rfl⟩
   exact amd (P:=Tryz.prog) hg hH ky aje (cj.refl _ _) hH.am
  |some b=>exact none_ h0 b 0
 .show Calls Tryz.prog 166 #[.slice (some ⟨B,st,none⟩) n cap] w _;rcases acb n with h0|hn
  .subst h0;exact none_ rfl ⟨B,st,none⟩ cap
  .have hbw:B<w.heap.size:=acm (qJ st (eT _) (by omega)).1
   obtain⟨gc,arr,oH,hgc,yN,rest,agQ⟩:=IU (P:=Tryz.prog) (ty:=0) uT uE aZr hzv aZs (by omega) (sv:=.slice (some ⟨w.heap.size,0,none⟩) 0 0) (n:=0) (cap:=0) (m:=n) (c:=cap) (ad:=⟨B,st,none⟩) (G9:=[]) (news:=cs) w1 (.inr ⟨_,rfl,λj v hj=>by simp at hj⟩) rfl Ej (λj v hj=>by
    rw[Addr.add_lit,hw1];exact(World.cell?_alloc_past (w:=w) _ B _ hbw).trans (JS j v hj).1) (by omega) hn (by omega)
   rw[hI] at oH hgc;have oH:∀ty,(Builtin.append_ #[140,140] ty #[.slice (some ⟨w.heap.size,0,none⟩) 0 0,.slice (some ⟨B,st,none⟩) n cap]).run Tryz.prog (w.alloc (.cells #[] 42))=.ok (.slice (some ⟨w1.heap.size,0,none⟩) n gc) (w1.drew.alloc (.cells arr 42)):=λty=>by rw[<-hw1];unfold Builtin.append_ at oH ⊢;exact oH
   refine Calls.mono (aAJ ⟨B,st,none⟩ n cap w _ _ oH) ?_;rintro ev W ⟨rfl,rfl⟩
   have aJJ:∀j,cl (w1.drew.alloc (.cells arr 42)) w1.heap.size j=arr[j]? :=λj=>World.cell?_alloc_at (w:=w1.drew) arr _ w1.heap.size j rfl
   refine amc (P:=Tryz.prog) hg hH ky aje (by omega) ((f1.drew).alloc _ _) (λk hk=>⟨by rw[aJJ,ai8 (by omega)];rfl,World.frozen?_alloc_at (w:=w1.drew) arr _ w1.heap.size k rfl⟩) ((am1.same (w':=w1.drew) rfl).alloc _ _) (λJ hJ=> ?_) hgc;have hjj:cs[J]? =some (cs[J]'(by omega)):=kT _;refine⟨_,?_,(JS _ _ hjj).2⟩;rw[aJJ];have:=(Wt agQ).2 hjj;simpa using this
end Go.Proofs.YtldgljclcgaibaaGreat
noncomputable section
namespace Go.Proofs.YtldgljclcgaibaaGreat
open Go.Ab Go.Ab.Pg
theorem WT {α:Type}{c:Bool}{v d:α}(h:cond c (some v) none=some d):c=true/\v=d:=by
 cases c with
 |true=>exact⟨rfl,OE h⟩
 |false=>cases h
theorem ayP {β δ:Type}{Q:Rq (List AV×List af) β}{R:δ->Go.Ab.T}{f:β->Option δ}{a:List AV}{h:List af}{r:pS}(hr:(FC Q R f a h).eval=some r):
  ∃b d,(a,h)=Q.em b/\f b=some d/\(R d).eval=some r:=by
 unfold FC at hr;split at hr
 .rename_i b hb
  obtain⟨t,b⟩:=b;obtain⟨h1,ZV⟩:=ama hr;rw[atL] at ZV;obtain⟨d,e1,e2⟩:=Option.bind_eq_some_iff.1 ZV;exact⟨b,d,Q.ok _ _ _ hb h1,e1,e2⟩
 .cases hr
def th:=(open Go.Ab.Rq in(dp (c (ac (slc 0 9)) (c ai (cl (ac (slc 1 9)) nil))) λa=>(c (cl (gs a.1.1 (c gL (c gL (c gL (c gL (c gL (c gL (c gL (c gL (cl gL nil)))))))))) nil) (cl (cl (gs a.2.2.1 (c gL (c gL (c gL (c gL (c gL (c gL (c gL (c gL (cl gL nil)))))))))) nil) nil))):Rq (List AV×List af) _)
def sx:=(open Go.Ab.Rq in(res (pr (ac (De 2 9)) (pu (cu Vs (cu fR nil)) (cl (cl (ga (pr (szs hole) (c gL (c gL (c gL (c gL (c gL (c gL (c gL (c gL (cl gL nil))))))))))) nil) nil)))):Rq (pS) _)
abbrev fk:=Nat×(Nat->Int)×(Nat->Int)×(Nat->Int)×(Nat->Int)×(Nat->Int)×(Nat->Int)×(Nat->Int)×(Nat->Int)×(Nat->Int)
def Fo (d:fk):T:=(λd=>.leaf (sx.em (d.1,d))) d
abbrev ti:=Nat->Int->(Nat->Int)->(Nat->Int)->(Nat->Int)->(Nat->Int)->(Nat->Int)->(Nat->Int)->(Nat->Int)->(Nat->Int)->(Nat->Int)->(Nat->Int)->(Nat->Int)->(Nat->Int)->(Nat->Int)->(Nat->Int)->(Nat->Int)->(Nat->Int)->(Nat->Int)->(Nat->Int)->Nat->Bool->Bool->Option fk
def tk (g:ti):Ct:=(97,vN 0 [.i .i64,.i .i64,.i .i64,.i .i64,.i .i64,.i .i64,.i .i64,.i .i64,.i .i64] (FC th Fo (λb=>g b.1.1.1 b.1.2.1 b.2.1.1 b.2.1.2.1 b.2.1.2.2.1 b.2.1.2.2.2.1 b.2.1.2.2.2.2.1 b.2.1.2.2.2.2.2.1 b.2.1.2.2.2.2.2.2.1 b.2.1.2.2.2.2.2.2.2.1 b.2.1.2.2.2.2.2.2.2.2 b.2.2.1 b.2.2.2.1 b.2.2.2.2.1 b.2.2.2.2.2.1 b.2.2.2.2.2.2.1 b.2.2.2.2.2.2.2.1 b.2.2.2.2.2.2.2.2.1 b.2.2.2.2.2.2.2.2.2.1 b.2.2.2.2.2.2.2.2.2.2 b.1.2.2.1 b.1.1.2 b.1.2.2.2)))
def cV (x0:Nat)(x1:Int)(x2 x3 x4 x5 x6 x7 x8 x9 fG fD Ad x13 x14 x15 x16 x17 x18 x19:Nat->Int)(x20:Nat)(w0 w1:Bool):Option fk:=
 bif ww x20 1&&(w0&&(decide (0<=x1)&&(wd (ws x1) x0&&wd ((x0+1)*72) 140737488355328))) then some (x0+1,Fm (ws x1) x2 fD,Fm (ws x1) x3 Ad,Fm (ws x1) x4 x13,Fm (ws x1) x5 x14,Fm (ws x1) x6 x15,Fm (ws x1) x7 x16,Fm (ws x1) x8 x17,Fm (ws x1) x9 x18,Fm (ws x1) fG x19) else none
theorem E8:∀b,(th).em b=([.r (.c (.sl 0 (.k 0) (.s b.1.1.1) 9 b.1.1.2)),.r (.c (.f (.i .i64 b.1.2.1))),.r (.c (.sl 1 (.k 0) (.s b.1.2.2.1) 9 b.1.2.2.2))],[[.a (.s b.1.1.1) [.i .i64 b.2.1.1,.i .i64 b.2.1.2.1,.i .i64 b.2.1.2.2.1,.i .i64 b.2.1.2.2.2.1,.i .i64 b.2.1.2.2.2.2.1,.i .i64 b.2.1.2.2.2.2.2.1,.i .i64 b.2.1.2.2.2.2.2.2.1,.i .i64 b.2.1.2.2.2.2.2.2.2.1,.i .i64 b.2.1.2.2.2.2.2.2.2.2]],[.a (.s b.1.2.2.1) [.i .i64 b.2.2.1,.i .i64 b.2.2.2.1,.i .i64 b.2.2.2.2.1,.i .i64 b.2.2.2.2.2.1,.i .i64 b.2.2.2.2.2.2.1,.i .i64 b.2.2.2.2.2.2.2.1,.i .i64 b.2.2.2.2.2.2.2.2.1,.i .i64 b.2.2.2.2.2.2.2.2.2.1,.i .i64 b.2.2.2.2.2.2.2.2.2.2]]]):=λb=>by kernel_rfl
theorem Fq [ax]:Snd Tryz.prog (tk cV):=Sound.nil 0 [.i .i64,.i .i64,.i .i64,.i .i64,.i .i64,.i .i64,.i .i64,.i .i64,.i .i64]<|λargs h r hr w π vs lV hH ky=>by
 obtain⟨b,d,e,hd,hq⟩:=ayP hr;rw[E8] at e;obtain⟨hc,rfl⟩:=WT hd;simp only[cq,mf] at hc;obtain⟨h0,h1,h2,h3,h4⟩:=hc;rw[oK h0] at e;obtain⟨rfl,rfl⟩:=Prod.mk.inj e;rw[h1,show b.1.2.1=((ws b.1.2.1:Nat):Int) by omega] at lV;have hr2:sx.em (_,_)=r:=OE hq;subst hr2;exact .inl ⟨H8 (by kernel_rfl) _ _,aHG (gs:=[b.2.1.1,b.2.1.2.1,b.2.1.2.2.1,b.2.1.2.2.2.1,b.2.1.2.2.2.2.1,b.2.1.2.2.2.2.2.1,b.2.1.2.2.2.2.2.2.1,b.2.1.2.2.2.2.2.2.2.1,b.2.1.2.2.2.2.2.2.2.2]) (vs9:=[b.2.2.1,b.2.2.2.1,b.2.2.2.2.1,b.2.2.2.2.2.1,b.2.2.2.2.2.2.1,b.2.2.2.2.2.2.2.1,b.2.2.2.2.2.2.2.2.1,b.2.2.2.2.2.2.2.2.2.1,b.2.2.2.2.2.2.2.2.2.2]) rfl rfl _ _ (yb h3) (yb h4) _ w π vs lV hH λb hb=>ky b hb⟩
def tp:=(open Go.Ab.Rq in(dp (c (ac (slc 0 9)) (c ai (cl ai nil))) λa=>(cl (cl (gs a.1.1 (c gL (c gL (c gL (c gL (c gL (c gL (c gL (c gL (cl gL nil)))))))))) nil) nil)):Rq (List AV×List af) _)
def sy:=(open Go.Ab.Rq in(res (pr (ac (De 1 9)) (pu (cu Vs nil) (cl (cl (ga (pr (szs hole) (c gL (c gL (c gL (c gL (c gL (c gL (c gL (c gL (cl gL nil))))))))))) nil) nil)))):Rq (pS) _)
abbrev fm:=Nat×(Nat->Int)×(Nat->Int)×(Nat->Int)×(Nat->Int)×(Nat->Int)×(Nat->Int)×(Nat->Int)×(Nat->Int)×(Nat->Int)
def Fs (d:fm):T:=(λd=>.leaf (sy.em (d.1,d))) d
abbrev il:=Nat->Int->Int->(Nat->Int)->(Nat->Int)->(Nat->Int)->(Nat->Int)->(Nat->Int)->(Nat->Int)->(Nat->Int)->(Nat->Int)->(Nat->Int)->Bool->Option fm
def mh (g:il):Ct:=(98,vN 0 [.i .i64,.i .i64,.i .i64,.i .i64,.i .i64,.i .i64,.i .i64,.i .i64,.i .i64] (FC tp Fs (λb=>g b.1.1.1 b.1.2.1 b.1.2.2 b.2.1 b.2.2.1 b.2.2.2.1 b.2.2.2.2.1 b.2.2.2.2.2.1 b.2.2.2.2.2.2.1 b.2.2.2.2.2.2.2.1 b.2.2.2.2.2.2.2.2.1 b.2.2.2.2.2.2.2.2.2 b.1.1.2)))
def bT (x0:Nat)(x1 x2:Int)(x3 x4 x5 x6 x7 x8 x9 fG fD:Nat->Int)(w0:Bool):Option fm:=
 bif w0&&(decide (0<=x1)&&(wd (ws x1) (ws x2)&&(decide (0<=x2)&&wd (ws x2) x0))) then some (ws x1+(x0-ws x2),K5 (ws x1) (ws x2-ws x1) x3,K5 (ws x1) (ws x2-ws x1) x4,K5 (ws x1) (ws x2-ws x1) x5,K5 (ws x1) (ws x2-ws x1) x6,K5 (ws x1) (ws x2-ws x1) x7,K5 (ws x1) (ws x2-ws x1) x8,K5 (ws x1) (ws x2-ws x1) x9,K5 (ws x1) (ws x2-ws x1) fG,K5 (ws x1) (ws x2-ws x1) fD) else none
theorem E9:∀b,(tp).em b=([.r (.c (.sl 0 (.k 0) (.s b.1.1.1) 9 b.1.1.2)),.r (.c (.f (.i .i64 b.1.2.1))),.r (.c (.f (.i .i64 b.1.2.2)))],[[.a (.s b.1.1.1) [.i .i64 b.2.1,.i .i64 b.2.2.1,.i .i64 b.2.2.2.1,.i .i64 b.2.2.2.2.1,.i .i64 b.2.2.2.2.2.1,.i .i64 b.2.2.2.2.2.2.1,.i .i64 b.2.2.2.2.2.2.2.1,.i .i64 b.2.2.2.2.2.2.2.2.1,.i .i64 b.2.2.2.2.2.2.2.2.2]]]):=λb=>by kernel_rfl
theorem tt [ax]:Snd Tryz.prog (mh bT):=Sound.nil 0 [.i .i64,.i .i64,.i .i64,.i .i64,.i .i64,.i .i64,.i .i64,.i .i64,.i .i64]<|λargs h r hr w π vs lV hH ky=>by
 obtain⟨b,d,e,hd,hq⟩:=ayP hr;rw[E9] at e;obtain⟨hc,rfl⟩:=WT hd;simp only[cq,mf] at hc;obtain⟨h1,h2,h3,h4,h5⟩:=hc;obtain⟨rfl,rfl⟩:=Prod.mk.inj e;have e2:b.1.2.1=((ws b.1.2.1:Nat):Int):=by omega
 have e3:b.1.2.2=((ws b.1.2.2:Nat):Int):=by omega
 have hr2:sy.em (_,_)=r:=OE hq;subst hr2;exact .inl ⟨H8 (by kernel_rfl) _ _,aHH (gs:=[b.2.1,b.2.2.1,b.2.2.2.1,b.2.2.2.2.1,b.2.2.2.2.2.1,b.2.2.2.2.2.2.1,b.2.2.2.2.2.2.2.1,b.2.2.2.2.2.2.2.2.1,b.2.2.2.2.2.2.2.2.2]) rfl _ (ws b.1.2.1) (ws b.1.2.2) (yb h3) (yb h5) w π vs (by rw[<-e2,<-e3,<-h1];exact lV) hH λb hb=>ky b hb⟩
def ud:=(open Go.Ab.Rq in(dp (cl (ac (slc 0 9)) nil) λa=>(cl (cl (gs a.1 (c gL (c gL (c gL (c gL (c gL (c gL (c gL (c gL (cl gL nil)))))))))) nil) nil)):Rq (List AV×List af) _)
def tu:=(open Go.Ab.Rq in(res (pr (ac (De 1 9)) (pu (cu fR nil) (cl (cl (ga (pr (szs hole) (c gL (c gL (c gL (c gL (c gL (c gL (c gL (c gL (cl gL nil))))))))))) nil) nil)))):Rq (pS) _)
abbrev iS:=Nat×(Nat->Int)×(Nat->Int)×(Nat->Int)×(Nat->Int)×(Nat->Int)×(Nat->Int)×(Nat->Int)×(Nat->Int)×(Nat->Int)
def Gl (d:iS):T:=(λd=>.leaf (tu.em (d.1,d))) d
abbrev mU:=Nat->(Nat->Int)->(Nat->Int)->(Nat->Int)->(Nat->Int)->(Nat->Int)->(Nat->Int)->(Nat->Int)->(Nat->Int)->(Nat->Int)->Bool->Option iS
def ue (g:mU):Ct:=(166,vN 0 [.i .i64,.i .i64,.i .i64,.i .i64,.i .i64,.i .i64,.i .i64,.i .i64,.i .i64] (FC ud Gl (λb=>g b.1.1 b.2.1 b.2.2.1 b.2.2.2.1 b.2.2.2.2.1 b.2.2.2.2.2.1 b.2.2.2.2.2.2.1 b.2.2.2.2.2.2.2.1 b.2.2.2.2.2.2.2.2.1 b.2.2.2.2.2.2.2.2.2 b.1.2)))
def fJ (x0:Nat)(x1 x2 x3 x4 x5 x6 x7 x8 x9:Nat->Int)(w0:Bool):Option iS:=
 bif wd (x0*72) 140737488355328 then some (x0,x1,x2,x3,x4,x5,x6,x7,x8,x9) else none
theorem Ft:∀b,(ud).em b=([.r (.c (.sl 0 (.k 0) (.s b.1.1) 9 b.1.2))],[[.a (.s b.1.1) [.i .i64 b.2.1,.i .i64 b.2.2.1,.i .i64 b.2.2.2.1,.i .i64 b.2.2.2.2.1,.i .i64 b.2.2.2.2.2.1,.i .i64 b.2.2.2.2.2.2.1,.i .i64 b.2.2.2.2.2.2.2.1,.i .i64 b.2.2.2.2.2.2.2.2.1,.i .i64 b.2.2.2.2.2.2.2.2.2]]]):=λb=>by kernel_rfl
theorem Gm [ax]:Snd Tryz.prog (ue fJ):=Sound.nil 0 [.i .i64,.i .i64,.i .i64,.i .i64,.i .i64,.i .i64,.i .i64,.i .i64,.i .i64]<|λargs h r hr w π vs lV hH ky=>by
 obtain⟨b,d,e,hd,hq⟩:=ayP hr;rw[Ft] at e;obtain⟨hc,rfl⟩:=WT hd;obtain⟨rfl,rfl⟩:=Prod.mk.inj e;have hr2:tu.em (_,_)=r:=OE hq;subst hr2;exact .inl ⟨H8 (by kernel_rfl) _ _,aLB (gs:=[b.2.1,b.2.2.1,b.2.2.2.1,b.2.2.2.2.1,b.2.2.2.2.2.1,b.2.2.2.2.2.2.1,b.2.2.2.2.2.2.2.1,b.2.2.2.2.2.2.2.2.1,b.2.2.2.2.2.2.2.2.2]) rfl _ (yb hc) _ w π vs lV hH λb hb=>ky b hb⟩
open Go.Ab Go.Ab.Pg Go.Ab.Rq
def ajf:=qa (pr (cu aQ Fb) bF)
def OU:=qe ry
abbrev ajg:=OU.B
abbrev cg:=Int->Int->Int->Bool->Option ajg
def eA (g:cg):Ct:=(119,FC ajf (lf OU) (λb=>g b.1.1 b.1.2.1 b.1.b b.2))
def Dk (x0:Int)(x1:Int)(x2:Int)(x3:Bool):Pg ajg:=ae (decide (x1>x2)) (ret (x1,true)) (ae (decide (x0<x1)) (ret (x1,true)) (ae (decide (x0>x2)) (ret (x2,true)) (ret (x0,x3))))
def aT:=λx0 x1 x2 x3=>(Dk x0 x1 x2 x3).val
theorem aCC:D1 [] [0] 119 ajf (lf OU) λb=>Dk b.1.1 b.1.2.1 b.1.b b.2:=λb=>by kernel_rfl
theorem eX [ax]:SC (eA aT):=s0 (.nil _) aCC
def aq6:=qa (pr (cu aQ jb) bF)
def WU:=qe ry
abbrev aq7:=WU.B
abbrev bQ:=Int->Bool->Option aq7
def dG (g:bQ):Ct:=(126,FC aq6 (lf WU) (λb=>g b.1 b.2))
def acr (aE:cg)(x0:Int)(x1:Bool):Pg aq7:=opt (aE x0 (-1152921504606846976) 1152921504606846976 x1) λd=>ret d
def aM:=λx0 x1=>(acr aT x0 x1).val
theorem aHI:∀aE,D0 [eA aE] 126 aq6 (lf WU) λb=>acr aE b.1 b.2:=λ_ b=>by kernel_rfl
theorem dN [ax]:SC (dG aM):=s0 (.c eX (.nil _)) (aHI aT)
def aq8:=qa (pl jb nil)
def WV:=qe aWG
abbrev aq9:=WV.B
abbrev QK:=Int->Option aq9
def QL (g:QK):Ct:=(185,FC aq8 (lf WV) (λb=>g b))
def acs (x0:Int):Pg aq9:=ae (decide (x0<0)) (ret (wU (0-wU x0))) (ret (wU x0))
def sC:=λx0=>(acs x0).val
theorem aHJ:D0 [] 185 aq8 (lf WV) λb=>acs b:=λb=>by kernel_rfl
theorem acu [ax]:SC (QL sC):=s0 (.nil _) aHJ
def ara:=qa (pl (c an aI5) nil)
def WW:=qe aRu
abbrev arb:=WW.B
abbrev arc:=Int->Int->Option arb
def ard (g:arc):Ct:=(184,FC ara (lf WW) (λb=>g b.1 b.2))
def acv (x0:Int)(x1:Int):Pg arb:=let y0:=ul x0 4294967296;let y1:=ul x1 4294967296;let y2:=wU (wl (v4 (v9 64 x0&&&v9 64 4294967295)));let y3:=wU (wl (v4 (v9 64 x1&&&v9 64 4294967295)));let y4:=wU (wU (y0*y3)+ul (wU (y2*y3)) 4294967296);ret (wU (wU (wU (y0*y1)+ul y4 4294967296)+ul (wU (wU (wl (v4 (v9 64 y4&&&v9 64 4294967295)))+wU (y2*y1))) 4294967296),wU (x0*x1))
def H9:=λx0 x1=>(acv x0 x1).val
theorem aHK:D0 [] 184 ara (lf WW) λb=>acv b.1 b.2:=λb=>by kernel_rfl
theorem aHL [ax]:SC (ard H9):=s0 (.nil _) aHK
def ame:=qa (pl (c Ww aNQ) nil)
def Tp:=qe aRy
abbrev WX:=Tp.B
abbrev WY:=Int->Int->Bool->Option WX
def WZ (g:WY):Ct:=(186,FC ame (lf Tp) (λb=>g b.1.1 b.1.2 b.2))
def L8 (nS:avJ)(x0:Int)(x1:Int)(x2:Bool):Pg WX:=ae (!x2) (ret ((wI x0,x1),ul x0 9223372036854775808==0)) (opt (nS (wU (wl (v4 (v9 64 18446744073709551615^^^v9 64 x1)))) 1 0) λd=>let y0:=wI (wU (wU (wl (v4 (v9 64 18446744073709551615^^^v9 64 x0)))+d.2));ae (decide (y0<0)) (ret ((y0,d.1),true)) (ret ((y0,d.1),x0==0&&(x1==0&&true))))
def nT:=λx0 x1 x2=>(L8 Dg x0 x1 x2).val
theorem aFQ:∀nS,D0 [amb nS] 186 ame (lf Tp) λb=>L8 nS b.1.1 b.1.2 b.2:=λ_ b=>by kernel_rfl
theorem amf [ax]:SC (WZ nT):=s0 (.c apN (.nil _)) (aFQ Dg)
def aAK:=qa (pl zY nil)
def agZ:=qe aW5
abbrev amg:=agZ.B
abbrev oU:=Int->Int->Option amg
def yQ (g:oU):Ct:=(116,FC aAK (lf agZ) (λb=>g b.1 b.2))
def amh (iN:QK)(QM:arc)(pZ:WY)(x0:Int)(x1:Int):Pg amg:=opt (iN x0) λd=>opt (iN x1) λaj=>opt (QM d aj) λd=>opt (pZ d.1 d.2 !decide (x0<0)==decide (x1<0)) λd=>ret d.1
def fY:=λx0 x1=>(amh sC H9 nT x0 x1).val
theorem aO5:∀iN QM pZ,D0 [QL iN,ard QM,WZ pZ] 116 aAK (lf agZ) λb=>amh iN QM pZ b.1 b.2:=λ_ _ _ b=>by kernel_rfl
theorem BT [ax]:SC (yQ fY):=s0 (.c acu (.c aHL (.c amf (.nil _)))) (aO5 sC H9 nT)
def aAL:=qa (pl aEh nil)
def ag0:=qe (res (pl (sZ (c (ra ax0) aTF)) (pu nil nil)))
abbrev aAM:=ag0.B
abbrev ami:=Int->Int->Option aAM
def amj (g:ami):Ct:=(188,FC aAL (lf ag0) (λb=>g b.1 b.2))
def amk (nS:avJ)(x0:Int)(x1:Int):Pg aAM:=ae (decide (x0>=0)) (ret ((wU x0,x1),false)) (opt (nS (wU (wl (v4 (v9 64 18446744073709551615^^^v9 64 x1)))) 1 0) λd=>ret ((wU (wU (wl (v4 (v9 64 18446744073709551615^^^v9 64 (wU x0))))+d.2),d.1),true))
def Fu:=λx0 x1=>(amk Dg x0 x1).val
theorem aO6:∀nS,D0 [amb nS] 188 aAL (lf ag0) λb=>amk nS b.1 b.2:=λ_ b=>by kernel_rfl
theorem aAN [ax]:SC (amj Fu):=s0 (.c apN (.nil _)) (aO6 Dg)
def ajh:=qa (pl (c Ww jb) nil)
def OV:=qe aKH
abbrev aji:=OV.B
abbrev Dl:=Int->Int->Int->Option aji
def IV (g:Dl):Ct:=(190,FC ajh (lf OV) (λb=>g b.1.1 b.1.2 b.2))
def Ts (x0:Int)(x1:Int)(x2:Int):Pg aji:=let y0:=wI (64-x2);let y1:=wI (x2-64);let y2:=2^min (ws x2) 64;let y3:= !decide (x2<0);ae (decide (x2>=64)) (ae (!decide (y1<0)) (ret (wU (x1*2^min (ws y1) 64),0)) no) (ae y3 (ae (!decide (y0<0)) (ae y3 (ret (wU (wl (v4 (v9 64 (wU (x0*y2))|||v9 64 (ul x1 (2^min (ws y0) 64))))),wU (x1*y2))) no) no) no)
def ia:=λx0 x1 x2=>(Ts x0 x1 x2).val
theorem aCD:D0 [] 190 ajh (lf OV) λb=>Ts b.1.1 b.1.2 b.2:=λb=>by kernel_rfl
theorem Tt [ax]:SC (IV ia):=s0 (.nil _) aCD
def aez:=qa (pl (c Ww (cl Ww nil)) nil)
def L9:=qe aKH
abbrev aeA:=L9.B
abbrev wa:=Int->Int->Int->Int->Option aeA
def Gn (g:wa):Ct:=(189,FC aez (lf L9) (λb=>g b.1.1 b.1.2 b.2.1 b.b))
def OW (nS:avJ)(x0:Int)(x1:Int)(x2:Int)(x3:Int):Pg aeA:=opt (nS x1 x3 0) λd=>opt (nS x0 x2 d.2) λaj=>ret (aj.1,d.1)
def jG:=λx0 x1 x2 x3=>(OW Dg x0 x1 x2 x3).val
theorem ayQ:∀nS,D0 [amb nS] 189 aez (lf L9) λb=>OW nS b.1.1 b.1.2 b.2.1 b.b:=λ_ b=>by kernel_rfl
theorem OX [ax]:SC (Gn jG):=s0 (.c apN (.nil _)) (ayQ Dg)
def ajj:=qa (pl (c Ww jb) nil)
def OY:=qe aKH
abbrev ajk:=OY.B
abbrev Dm:=Int->Int->Int->Option ajk
def IW (g:Dm):Ct:=(192,FC ajj (lf OY) (λb=>g b.1.1 b.1.2 b.2))
def IX (x0:Int)(x1:Int)(x2:Int):Pg ajk:=let y0:=wI (64-x2);let y1:=wI (x2-64);let y2:=2^min (ws x2) 64;let y3:= !decide (x2<0);ae (decide (x2>=64)) (ae (!decide (y1<0)) (ret (0,ul x0 (2^min (ws y1) 64))) no) (ae y3 (ae y3 (ae (!decide (y0<0)) (ret (ul x0 y2,wU (wl (v4 (v9 64 (ul x1 y2)|||v9 64 (wU (x0*2^min (ws y0) 64))))))) no) no) no)
def jA:=λx0 x1 x2=>(IX x0 x1 x2).val
theorem aCE:D0 [] 192 ajj (lf OY) λb=>IX b.1.1 b.1.2 b.2:=λb=>by kernel_rfl
theorem Tu [ax]:SC (IW jA):=s0 (.nil _) aCE
def aeB:=qa (pl (c Ww aNQ) nil)
def Ma:=qe ax8
abbrev aeC:=Ma.B
abbrev A':=Int->Int->Bool->Option aeC
def Gp (g:A'):Ct:=(191,FC aeB (lf Ma) (λb=>g b.1.1 b.1.2 b.2))
def OZ (x0:Int)(x1:Int)(x2:Bool):Pg aeC:=let y0:=x0 !=0;let y1:=decide (x1>9223372036854775807);ae y0 (ae y0 (ret (0,false)) (ae x2 (ret (wI (wU (0-x1)),true)) (ret (wI x1,true)))) (ae (!x2) (ae y1 (ae y1 (ret (0,false)) (ae x2 (ret (wI (wU (0-x1)),true)) (ret (wI x1,true)))) (ae x2 (ae (decide (x1>9223372036854775808)) (ret (0,false)) (ae x2 (ret (wI (wU (0-x1)),true)) (ret (wI x1,true)))) (ae x2 (ret (wI (wU (0-x1)),true)) (ret (wI x1,true))))) (ae x2 (ae (decide (x1>9223372036854775808)) (ret (0,false)) (ae x2 (ret (wI (wU (0-x1)),true)) (ret (wI x1,true)))) (ae x2 (ret (wI (wU (0-x1)),true)) (ret (wI x1,true)))))
def jH:=λx0 x1 x2=>(OZ x0 x1 x2).val
theorem ayR:D0 [] 191 aeB (lf Ma) λb=>OZ b.1.1 b.1.2 b.2:=λb=>by kernel_rfl
theorem O0 [ax]:SC (Gp jH):=s0 (.nil _) ayR
def are:=qa (pl (c agc jb) nil)
def W0:=qe ax8
abbrev arf:=W0.B
abbrev DV:=Int->Int->Int->Option arf
def QN (g:DV):Ct:=(118,FC are (lf W0) (λb=>g b.1.1 b.1.2 b.2))
def acw (yR:ami)(kE:Dl)(fK:wa)(jB:Dm)(fL:A')(x0:Int)(x1:Int)(x2:Int):Pg arf:=ae (decide (x2<0)) (ret (0,false)) (ae (decide (x2>126)) (ret (0,false)) (opt (yR x0 x1) λd=>ae (decide (x2>0)) (opt (kE 0 1 (wI (x2-1))) λaj=>opt (fK d.1.1 d.1.2 aj.1 aj.2) λaC=>opt (jB aC.1 aC.2 x2) λbC=>opt (fL bC.1 bC.2 d.2) λd=>ret d) (opt (jB d.1.1 d.1.2 x2) λaj=>opt (fL aj.1 aj.2 d.2) λd=>ret d)))
def sD:=λx0 x1 x2=>(acw Fu ia jG jA jH x0 x1 x2).val
theorem aHM:∀yR kE fK jB fL,D0 [amj yR,IV kE,Gn fK,IW jB,Gp fL] 118 are (lf W0) λb=>acw yR kE fK jB fL b.1.1 b.1.2 b.2:=λ_ _ _ _ _ b=>by kernel_rfl
theorem acx [ax]:SC (QN sD):=s0 (.c aAN (.c Tt (.c OX (.c Tu (.c O0 (.nil _)))))) (aHM Fu ia jG jA jH)
def aFR:=qa (pl aNQ nil)
def aml:=qe Hm
abbrev aFS:=aml.B
abbrev W2:=Bool->Option aFS
def W3 (g:W2):Ct:=(199,FC aFR (lf aml) (λb=>g b))
def Xa (x0:Bool):Pg aFS:=ae x0 (ret (-1152921504606846976)) (ret 1152921504606846976)
def rI:=λx0=>(Xa x0).val
theorem aSF:D0 [] 199 aFR (lf aml) λb=>Xa b:=λb=>by kernel_rfl
theorem ag1 [ax]:SC (W3 rI):=s0 (.nil _) aSF
def arh:=qa (pr (cu aQ (c ai (c ab aNQ))) bF)
def Xb:=qe ry
abbrev ari:=Xb.B
abbrev H':=Int->Bool->Bool->Bool->Option ari
def QO (g:H'):Ct:=(198,FC arh (lf Xb) (λb=>g b.1.1 b.1.2.1 b.1.b b.2))
def Ia (kc:W2)(aw:bQ)(x0:Int)(x1:Bool)(x2:Bool)(x3:Bool):Pg ari:=ae (!x1) (opt (kc x2) λd=>ret (d,true)) (opt (aw x0 x3) λd=>ret d)
def nU:=λx0 x1 x2 x3=>(Ia rI aM x0 x1 x2 x3).val
theorem aHN:∀kc aw,D0 [W3 kc,dG aw] 198 arh (lf Xb) λb=>Ia kc aw b.1.1 b.1.2.1 b.1.b b.2:=λ_ _ b=>by kernel_rfl
theorem acy [ax]:SC (QO nU):=s0 (.c ag1 (.c dN (.nil _))) (aHN rI aM)
def ajl:=qa (pr (cu aQ (c agc jb)) bF)
def O1:=qe ry
abbrev ajm:=O1.B
abbrev yD:=Int->Int->Int->Bool->Option ajm
def IY (g:yD):Ct:=(127,FC ajl (lf O1) (λb=>g b.1.1.1 b.1.1.2 b.1.2 b.2))
def Tv (vO:DV)(nV:H')(x0:Int)(x1:Int)(x2:Int)(x3:Bool):Pg ajm:=ae (decide (x2<0)) (ret (0,true)) (ae (decide (x2>120)) (ret (0,true)) (opt (vO x0 x1 x2) λd=>opt (nV d.1 d.2 (decide (x0<0)) x3) λd=>ret d))
def ot:=λx0 x1 x2 x3=>(Tv sD nU x0 x1 x2 x3).val
theorem aCF:∀vO nV,D0 [QN vO,QO nV] 127 ajl (lf O1) λb=>Tv vO nV b.1.1.1 b.1.1.2 b.1.2 b.2:=λ_ _ b=>by kernel_rfl
theorem Tw [ax]:SC (IY ot):=s0 (.c acx (.c acy (.nil _))) (aCF sD nU)
def arj:=qa (pr (cu aQ Fb) bF)
def Xc:=qe ry
abbrev ark:=Xc.B
abbrev bL:=Int->Int->Int->Bool->Option ark
def fO (g:bL):Ct:=(72,FC arj (lf Xc) (λb=>g b.1.1 b.1.2.1 b.1.b b.2))
def acz (aw:bQ)(cW:oU)(jC:yD)(x0:Int)(x1:Int)(x2:Int)(x3:Bool):Pg ark:=opt (aw x0 x3) λd=>opt (aw x1 d.2) λaj=>opt (cW d.1 aj.1) λd=>opt (jC d.1 d.2 x2 aj.2) λd=>ret d
def aX:=λx0 x1 x2 x3=>(acz aM fY ot x0 x1 x2 x3).val
theorem aHO:∀aw cW jC,D0 [dG aw,yQ cW,IY jC] 72 arj (lf Xc) λb=>acz aw cW jC b.1.1 b.1.2.1 b.1.b b.2:=λ_ _ _ b=>by kernel_rfl
theorem gx [ax]:SC (fO aX):=s0 (.c dN (.c BT (.c Tw (.nil _)))) (aHO aM fY ot)
def amm:=qa (pr aKD (cu ate bF))
def Tx:=qe aRr
abbrev amn:=Tx.B
abbrev Xd:=Int->Int->Bool->Option amn
def Xe (g:Xd):Ct:=(77,FC amm (lf Tx) (λb=>g b.1.1 b.1.2 b.2))
def Xf (aB:bL)(x0:Int)(x1:Int)(x2:Bool):Pg amn:=opt (aB x0 x1 30 x2) λd=>ret d
def wQ:=λx0 x1 x2=>(Xf aX x0 x1 x2).val
theorem aFT:∀aB,D0 [fO aB] 77 amm (lf Tx) λb=>Xf aB b.1.1 b.1.2 b.2:=λ_ b=>by kernel_rfl
theorem amo [ax]:SC (Xe wQ):=s0 (.c gx (.nil _)) (aFT aX)
def arl:=qa (pl aI5 nil)
def Xg:=qe Hm
abbrev arn:=Xg.B
abbrev aro:=Int->Option arn
def arp (g:aro):Ct:=(267,FC arl (lf Xg) (λb=>g b))
def acA (x0:Int):Pg arn:=let y0:=ul x0 65536;let y1:=ul x0 4294967296;let y2:=IntKind.wrap IntKind.u8 (ul x0 256);let y3:=IntKind.wrap IntKind.u8 y0;let y4:=IntKind.wrap IntKind.u8 y1;let y5:=ul y1 65536;let y6:=IntKind.wrap IntKind.u8 y5;let y7:=IntKind.wrap IntKind.u8 (ul y0 256);let y8:=IntKind.wrap IntKind.u8 (ul y1 256);let y9:=IntKind.wrap IntKind.u8 (ul y5 256);ae (decide (x0>=4294967296)) (ae (decide (y1>=65536)) (ae (decide (y5>=256)) (ae (bk y9 256) (ret (wI (56+wI (EC (ByteArray.mk (List.toArray (t9 (t9 [0,1,2,2,3,3,3,3,4,4,4,4,4,4,4,4,5,5,5,5,5,5,5,5,5,5,5,5,5,5,5,5,6,6,6,6,6,6,6,6,6,6,6,6,6,6,6,6,6,6,6,6,6,6,6,6,6,6,6,6,6,6,6,6] [7,7,7,7,7,7,7,7,7,7,7,7,7,7,7,7,7,7,7,7,7,7,7,7,7,7,7,7,7,7,7,7,7,7,7,7,7,7,7,7,7,7,7,7,7,7,7,7,7,7,7,7,7,7,7,7,7,7,7,7,7,7,7,7]) (t9 [8,8,8,8,8,8,8,8,8,8,8,8,8,8,8,8,8,8,8,8,8,8,8,8,8,8,8,8,8,8,8,8,8,8,8,8,8,8,8,8,8,8,8,8,8,8,8,8,8,8,8,8,8,8,8,8,8,8,8,8,8,8,8,8] [8,8,8,8,8,8,8,8,8,8,8,8,8,8,8,8,8,8,8,8,8,8,8,8,8,8,8,8,8,8,8,8,8,8,8,8,8,8,8,8,8,8,8,8,8,8,8,8,8,8,8,8,8,8,8,8,8,8,8,8,8,8,8,8])))) (ws y9))))) no) (ae (bk y6 256) (ret (wI (48+wI (EC (ByteArray.mk (List.toArray (t9 (t9 [0,1,2,2,3,3,3,3,4,4,4,4,4,4,4,4,5,5,5,5,5,5,5,5,5,5,5,5,5,5,5,5,6,6,6,6,6,6,6,6,6,6,6,6,6,6,6,6,6,6,6,6,6,6,6,6,6,6,6,6,6,6,6,6] [7,7,7,7,7,7,7,7,7,7,7,7,7,7,7,7,7,7,7,7,7,7,7,7,7,7,7,7,7,7,7,7,7,7,7,7,7,7,7,7,7,7,7,7,7,7,7,7,7,7,7,7,7,7,7,7,7,7,7,7,7,7,7,7]) (t9 [8,8,8,8,8,8,8,8,8,8,8,8,8,8,8,8,8,8,8,8,8,8,8,8,8,8,8,8,8,8,8,8,8,8,8,8,8,8,8,8,8,8,8,8,8,8,8,8,8,8,8,8,8,8,8,8,8,8,8,8,8,8,8,8] [8,8,8,8,8,8,8,8,8,8,8,8,8,8,8,8,8,8,8,8,8,8,8,8,8,8,8,8,8,8,8,8,8,8,8,8,8,8,8,8,8,8,8,8,8,8,8,8,8,8,8,8,8,8,8,8,8,8,8,8,8,8,8,8])))) (ws y6))))) no)) (ae (decide (y1>=256)) (ae (bk y8 256) (ret (wI (40+wI (EC (ByteArray.mk (List.toArray (t9 (t9 [0,1,2,2,3,3,3,3,4,4,4,4,4,4,4,4,5,5,5,5,5,5,5,5,5,5,5,5,5,5,5,5,6,6,6,6,6,6,6,6,6,6,6,6,6,6,6,6,6,6,6,6,6,6,6,6,6,6,6,6,6,6,6,6] [7,7,7,7,7,7,7,7,7,7,7,7,7,7,7,7,7,7,7,7,7,7,7,7,7,7,7,7,7,7,7,7,7,7,7,7,7,7,7,7,7,7,7,7,7,7,7,7,7,7,7,7,7,7,7,7,7,7,7,7,7,7,7,7]) (t9 [8,8,8,8,8,8,8,8,8,8,8,8,8,8,8,8,8,8,8,8,8,8,8,8,8,8,8,8,8,8,8,8,8,8,8,8,8,8,8,8,8,8,8,8,8,8,8,8,8,8,8,8,8,8,8,8,8,8,8,8,8,8,8,8] [8,8,8,8,8,8,8,8,8,8,8,8,8,8,8,8,8,8,8,8,8,8,8,8,8,8,8,8,8,8,8,8,8,8,8,8,8,8,8,8,8,8,8,8,8,8,8,8,8,8,8,8,8,8,8,8,8,8,8,8,8,8,8,8])))) (ws y8))))) no) (ae (bk y4 256) (ret (wI (32+wI (EC (ByteArray.mk (List.toArray (t9 (t9 [0,1,2,2,3,3,3,3,4,4,4,4,4,4,4,4,5,5,5,5,5,5,5,5,5,5,5,5,5,5,5,5,6,6,6,6,6,6,6,6,6,6,6,6,6,6,6,6,6,6,6,6,6,6,6,6,6,6,6,6,6,6,6,6] [7,7,7,7,7,7,7,7,7,7,7,7,7,7,7,7,7,7,7,7,7,7,7,7,7,7,7,7,7,7,7,7,7,7,7,7,7,7,7,7,7,7,7,7,7,7,7,7,7,7,7,7,7,7,7,7,7,7,7,7,7,7,7,7]) (t9 [8,8,8,8,8,8,8,8,8,8,8,8,8,8,8,8,8,8,8,8,8,8,8,8,8,8,8,8,8,8,8,8,8,8,8,8,8,8,8,8,8,8,8,8,8,8,8,8,8,8,8,8,8,8,8,8,8,8,8,8,8,8,8,8] [8,8,8,8,8,8,8,8,8,8,8,8,8,8,8,8,8,8,8,8,8,8,8,8,8,8,8,8,8,8,8,8,8,8,8,8,8,8,8,8,8,8,8,8,8,8,8,8,8,8,8,8,8,8,8,8,8,8,8,8,8,8,8,8])))) (ws y4))))) no))) (ae (decide (x0>=65536)) (ae (decide (y0>=256)) (ae (bk y7 256) (ret (wI (24+wI (EC (ByteArray.mk (List.toArray (t9 (t9 [0,1,2,2,3,3,3,3,4,4,4,4,4,4,4,4,5,5,5,5,5,5,5,5,5,5,5,5,5,5,5,5,6,6,6,6,6,6,6,6,6,6,6,6,6,6,6,6,6,6,6,6,6,6,6,6,6,6,6,6,6,6,6,6] [7,7,7,7,7,7,7,7,7,7,7,7,7,7,7,7,7,7,7,7,7,7,7,7,7,7,7,7,7,7,7,7,7,7,7,7,7,7,7,7,7,7,7,7,7,7,7,7,7,7,7,7,7,7,7,7,7,7,7,7,7,7,7,7]) (t9 [8,8,8,8,8,8,8,8,8,8,8,8,8,8,8,8,8,8,8,8,8,8,8,8,8,8,8,8,8,8,8,8,8,8,8,8,8,8,8,8,8,8,8,8,8,8,8,8,8,8,8,8,8,8,8,8,8,8,8,8,8,8,8,8] [8,8,8,8,8,8,8,8,8,8,8,8,8,8,8,8,8,8,8,8,8,8,8,8,8,8,8,8,8,8,8,8,8,8,8,8,8,8,8,8,8,8,8,8,8,8,8,8,8,8,8,8,8,8,8,8,8,8,8,8,8,8,8,8])))) (ws y7))))) no) (ae (bk y3 256) (ret (wI (16+wI (EC (ByteArray.mk (List.toArray (t9 (t9 [0,1,2,2,3,3,3,3,4,4,4,4,4,4,4,4,5,5,5,5,5,5,5,5,5,5,5,5,5,5,5,5,6,6,6,6,6,6,6,6,6,6,6,6,6,6,6,6,6,6,6,6,6,6,6,6,6,6,6,6,6,6,6,6] [7,7,7,7,7,7,7,7,7,7,7,7,7,7,7,7,7,7,7,7,7,7,7,7,7,7,7,7,7,7,7,7,7,7,7,7,7,7,7,7,7,7,7,7,7,7,7,7,7,7,7,7,7,7,7,7,7,7,7,7,7,7,7,7]) (t9 [8,8,8,8,8,8,8,8,8,8,8,8,8,8,8,8,8,8,8,8,8,8,8,8,8,8,8,8,8,8,8,8,8,8,8,8,8,8,8,8,8,8,8,8,8,8,8,8,8,8,8,8,8,8,8,8,8,8,8,8,8,8,8,8] [8,8,8,8,8,8,8,8,8,8,8,8,8,8,8,8,8,8,8,8,8,8,8,8,8,8,8,8,8,8,8,8,8,8,8,8,8,8,8,8,8,8,8,8,8,8,8,8,8,8,8,8,8,8,8,8,8,8,8,8,8,8,8,8])))) (ws y3))))) no)) (ae (decide (x0>=256)) (ae (bk y2 256) (ret (wI (8+wI (EC (ByteArray.mk (List.toArray (t9 (t9 [0,1,2,2,3,3,3,3,4,4,4,4,4,4,4,4,5,5,5,5,5,5,5,5,5,5,5,5,5,5,5,5,6,6,6,6,6,6,6,6,6,6,6,6,6,6,6,6,6,6,6,6,6,6,6,6,6,6,6,6,6,6,6,6] [7,7,7,7,7,7,7,7,7,7,7,7,7,7,7,7,7,7,7,7,7,7,7,7,7,7,7,7,7,7,7,7,7,7,7,7,7,7,7,7,7,7,7,7,7,7,7,7,7,7,7,7,7,7,7,7,7,7,7,7,7,7,7,7]) (t9 [8,8,8,8,8,8,8,8,8,8,8,8,8,8,8,8,8,8,8,8,8,8,8,8,8,8,8,8,8,8,8,8,8,8,8,8,8,8,8,8,8,8,8,8,8,8,8,8,8,8,8,8,8,8,8,8,8,8,8,8,8,8,8,8] [8,8,8,8,8,8,8,8,8,8,8,8,8,8,8,8,8,8,8,8,8,8,8,8,8,8,8,8,8,8,8,8,8,8,8,8,8,8,8,8,8,8,8,8,8,8,8,8,8,8,8,8,8,8,8,8,8,8,8,8,8,8,8,8])))) (ws y2))))) no) (ae (bk (IntKind.wrap IntKind.u8 x0) 256) (ret (wI (0+wI (EC (ByteArray.mk (List.toArray (t9 (t9 [0,1,2,2,3,3,3,3,4,4,4,4,4,4,4,4,5,5,5,5,5,5,5,5,5,5,5,5,5,5,5,5,6,6,6,6,6,6,6,6,6,6,6,6,6,6,6,6,6,6,6,6,6,6,6,6,6,6,6,6,6,6,6,6] [7,7,7,7,7,7,7,7,7,7,7,7,7,7,7,7,7,7,7,7,7,7,7,7,7,7,7,7,7,7,7,7,7,7,7,7,7,7,7,7,7,7,7,7,7,7,7,7,7,7,7,7,7,7,7,7,7,7,7,7,7,7,7,7]) (t9 [8,8,8,8,8,8,8,8,8,8,8,8,8,8,8,8,8,8,8,8,8,8,8,8,8,8,8,8,8,8,8,8,8,8,8,8,8,8,8,8,8,8,8,8,8,8,8,8,8,8,8,8,8,8,8,8,8,8,8,8,8,8,8,8] [8,8,8,8,8,8,8,8,8,8,8,8,8,8,8,8,8,8,8,8,8,8,8,8,8,8,8,8,8,8,8,8,8,8,8,8,8,8,8,8,8,8,8,8,8,8,8,8,8,8,8,8,8,8,8,8,8,8,8,8,8,8,8,8])))) (ws (IntKind.wrap IntKind.u8 x0)))))) no)))
def Ib:=λx0=>(acA x0).val
theorem aHP:D0 [] 267 arl (lf Xg) λb=>acA b:=λb=>by kernel_rfl
theorem aHQ [ax]:SC (arp Ib):=s0 (.nil _) aHP
def Mb:=qa (pl aI5 nil)
def Ba:=qe Hm
abbrev Mc:=Ba.B
abbrev Cf:=Int->Option Mc
def Md (g:Cf):Ct:=(261,FC Mb (lf Ba) (λb=>g b))
def Cg (QP:aro)(x0:Int):Pg Mc:=opt (QP x0) λd=>ret (wI (64-d))
def p6:=λx0=>(Cg Ib x0).val
theorem ag2:∀QP,D0 [arp QP] 261 Mb (lf Ba) λb=>Cg QP b:=λ_ b=>by kernel_rfl
theorem ag3 [ax]:SC (Md p6):=s0 (.c aHQ (.nil _)) (ag2 Ib)
def arq:=qa (pl (c an (c an aI5)) nil)
def Xh:=qe aRu
abbrev ars:=Xh.B
abbrev art:=Int->Int->Int->Option ars
def aru (g:art):Ct:=(241,FC arq (lf Xh) (λb=>g b.1 b.2.1 b.b))
def wb:=qs (st (pl (us 2 (c an (us 5 (c an (c an (c an (c an (us 1 (c an (c an (c an (cl an (us 88 aQX))))))))))))) (pu nil nil)))
def avL:=qs (st (pl (us 2 (c an (us 5 (c an (c an (c an (c an (us 1 (c an (c an (c an (c an (us 50 (c an (c ab (cu Hn (xs 8 (cu Hn aXB)))))))))))))))))) (pu nil nil)))
def avM:=qs (st (pl (us 2 (c an (us 5 (c an (c an (c an (c an (us 1 (c an (c an (c an (c an (us 50 (c an (c ab (cu mP (c an (c an (c an (c an (c an (c an (c an (c ab (c ab aXB))))))))))))))))))))))))) (pu nil nil)))
def avN:=qs (st (pl (us 2 (c an (us 5 (c an (c an (c an (c an (us 1 (c an (c an (c an (c an (us 50 (c an (c ab (cu mP (c an (c an (c an (c an (c an (c an (c an (c ab (cl ab (us 26 aQX)))))))))))))))))))))))))) (pu nil nil)))
abbrev IZ:=a1G⊕a1E
def ajn {ρ:Type}(x:IZ)(K:AX->St->Option ρ):Option ρ:=(t8 (λd=>K (.ex 0) (avL.em (d.1,d.2.1,d.b.1,d.b.2.1,d.c.1,d.c.2.1,d.c.b.1,d.c.b.2.1,d.d.1,d.d.2.1,d.d.b.1,d.d.2.1,d.c.b.2.1,d.d.b.2.1,d.b.1,d.d.1,d.d.1,d.d.c))) (t8 (λd=>K (.ex 0) (avM.em (d.1,d.2.1,d.b.1,d.b.2.1,d.c.1,d.c.2.1,d.c.b.1,d.c.b.2.1,d.d.1,d.d.2.1,d.d.b.1,d.d.2.1,d.b.2.1,d.d.b.2.1,d.d.c.1,d.d.c.2.1,d.c.2.1,d.d.c.b.1,d.d.c.b.2.1,d.d.c.b.2.1,d.d.2.1,d.c.b.2.1,d.d.c.1,d.b.1,d.d.1,d.d.1,d.e))) (λd=>K (.ex 0) (avN.em (d.1,d.2.1,d.b.1,d.b.2.1,d.c.1,d.c.2.1,d.c.b.1,d.c.b.2.1,d.d.1,d.c.b.2.1,d.d.2.1,d.c.b.2.1,d.b.2.1,d.d.b.1,d.d.1,d.d.b.2.1,d.c.2.1,d.d.c.1,d.d.c.2,d.d.c.2))))) x
def I0 (d:wb.B):PL wb IZ:=let y0:=wU (4294967296*d.2.2.2.2.2.2.2.2);let y1:=wU (d.2.2.2.2.2.2.2.1-1);let y2:=wU (d.2.2.2.2.2.2.2.2+d.2.2.1);let y3:=wU (d.2.2.2.2.2.2.2.1*d.2.2.2.1);let y4:=decide (d.2.2.2.2.2.2.2.1>=4294967296);let y5:=wU (y0+d.2.2.2.2.2.1);let y6:=decide (y2>=4294967296);let y7:=decide (y3>y5);ae y4 (ae y6 (ret (wn (wr (d.1,d.2.1,d.2.2.1,d.2.2.2.1,d.2.2.2.2.1,d.2.2.2.2.2.1,d.2.2.2.2.2.2.1,y1,y2,d.2.2.2.2.2.2.2.1,y4,d.2.2.2.2.2.2.2.2,y6)))) (ret (wr (d.1,d.2.1,d.2.2.1,d.2.2.2.1,d.2.2.2.2.1,d.2.2.2.2.2.1,d.2.2.2.2.2.2.1,y1,y2)))) (ae y7 (ae y6 (ret (wn (wn (wr (d.1,d.2.1,d.2.2.1,d.2.2.2.1,d.2.2.2.2.1,d.2.2.2.2.2.1,d.2.2.2.2.2.2.1,y1,y2,d.2.2.2.2.2.2.2.1,y4,y3,d.2.2.2.2.2.2.2.2,y0,y5,y7,y6))))) (ret (wr (d.1,d.2.1,d.2.2.1,d.2.2.2.1,d.2.2.2.2.1,d.2.2.2.2.2.1,d.2.2.2.2.2.2.1,y1,y2)))) (ret (wn (wn (wn (d.1,d.2.1,d.2.2.1,d.2.2.2.1,d.2.2.2.2.1,d.2.2.2.2.2.1,d.2.2.2.2.2.2.1,d.2.2.2.2.2.2.2.1,d.2.2.2.2.2.2.2.2,y4,y3,y0,y5,y7))))))
def I1:=bj (I0) 2000
def wc:=qs (st (pl (us 2 (c an (us 5 (c an (c an (c an (us 3 (c an (c an (c an (c an (cl an (us 116 nil))))))))))))) (pu nil nil)))
def avO:=qs (st (pl (us 2 (c an (us 5 (c an (c an (c an (us 3 (c an (c an (c an (c an (c an (us 83 (c an (c ab (cu Hn (xs 8 (cu Hn aXn)))))))))))))))))) (pu nil nil)))
def avP:=qs (st (pl (us 2 (c an (us 5 (c an (c an (c an (us 3 (c an (c an (c an (c an (c an (us 83 (c an (c ab (cu mP (c an (c an (c an (c an (c an (c an (c an (c ab (c ab aXn))))))))))))))))))))))))) (pu nil nil)))
def avQ:=qs (st (pl (us 2 (c an (us 5 (c an (c an (c an (us 3 (c an (c an (c an (c an (c an (us 83 (c an (c ab (cu mP (c an (c an (c an (c an (c an (c an (c an (c ab aQZ)))))))))))))))))))))))) (pu nil nil)))
abbrev Dn:=a1G⊕a1E
def ajo {ρ:Type}(x:Dn)(K:AX->St->Option ρ):Option ρ:=(t8 (λd=>K (.ex 2) (avO.em (d.1,d.2.1,d.b.1,d.b.2.1,d.c.1,d.c.2.1,d.c.b.1,d.c.b.2.1,d.d.1,d.d.2.1,d.d.b.1,d.d.2.1,d.d.1,d.d.b.2.1,d.b.1,d.c.b.1,d.c.b.1,d.d.c))) (t8 (λd=>K (.ex 2) (avP.em (d.1,d.2.1,d.b.1,d.b.2.1,d.c.1,d.c.2.1,d.c.b.1,d.c.b.2.1,d.d.1,d.d.2.1,d.d.b.1,d.d.2.1,d.b.2.1,d.d.b.2.1,d.d.c.1,d.d.c.2.1,d.c.1,d.d.c.b.1,d.d.c.b.2.1,d.d.c.b.2.1,d.d.2.1,d.d.1,d.d.c.1,d.b.1,d.c.b.1,d.c.b.1,d.e))) (λd=>K (.ex 2) (avQ.em (d.1,d.2.1,d.b.1,d.b.2.1,d.c.1,d.c.2.1,d.c.b.1,d.c.b.2.1,d.d.1,d.d.1,d.d.2.1,d.d.1,d.b.2.1,d.d.b.1,d.c.b.1,d.d.b.2.1,d.c.1,d.d.c.1,d.d.c.2,d.d.c.2))))) x
def I2 (d:wc.B):PL wc Dn:=let y0:=wU (4294967296*d.2.2.2.2.2.2.1);let y1:=wU (d.2.2.2.2.2.2.2.2-1);let y2:=wU (d.2.2.2.2.2.2.1+d.2.2.1);let y3:=wU (d.2.2.2.2.2.2.2.2*d.2.2.2.1);let y4:=wU (y0+d.2.2.2.2.1);let y5:=decide (d.2.2.2.2.2.2.2.2>=4294967296);let y6:=decide (y2>=4294967296);let y7:=decide (y3>y4);ae y5 (ae y6 (ret (wn (wr (d.1,d.2.1,d.2.2.1,d.2.2.2.1,d.2.2.2.2.1,d.2.2.2.2.2.1,y2,d.2.2.2.2.2.2.2.1,y1,d.2.2.2.2.2.2.2.2,y5,d.2.2.2.2.2.2.1,y6)))) (ret (wr (d.1,d.2.1,d.2.2.1,d.2.2.2.1,d.2.2.2.2.1,d.2.2.2.2.2.1,y2,d.2.2.2.2.2.2.2.1,y1)))) (ae y7 (ae y6 (ret (wn (wn (wr (d.1,d.2.1,d.2.2.1,d.2.2.2.1,d.2.2.2.2.1,d.2.2.2.2.2.1,y2,d.2.2.2.2.2.2.2.1,y1,d.2.2.2.2.2.2.2.2,y5,y3,d.2.2.2.2.2.2.1,y0,y4,y7,y6))))) (ret (wr (d.1,d.2.1,d.2.2.1,d.2.2.2.1,d.2.2.2.2.1,d.2.2.2.2.2.1,y2,d.2.2.2.2.2.2.2.1,y1)))) (ret (wn (wn (wn (d.1,d.2.1,d.2.2.1,d.2.2.2.1,d.2.2.2.2.1,d.2.2.2.2.2.1,d.2.2.2.2.2.2.1,d.2.2.2.2.2.2.2.1,d.2.2.2.2.2.2.2.2,y5,y3,y0,y4,y7))))))
def I3:=bj (I2) 2000
def acB (ag4:Cf)(eI:LT wb IZ)(rn:LT wc Dn)(x0:Int)(x1:Int)(x2:Int):Pg ars:=let k9:=λ(x:Dn)=>sum x (λd=>ae (!decide (d.2.1<0)) (ret (wU (wU (d.2.2.2.2.2.1*4294967296)+d.2.2.2.2.2.2.2.2.1),ul (wU (wU (wU (d.2.2.2.2.2.2.2.1*4294967296)+d.2.2.2.2.1)-wU (d.2.2.2.2.2.2.2.2.1*d.1))) (2^min (ws d.2.1) 64))) no) λx=>sum x (λd=>ae (!decide (d.2.1<0)) (ret (wU (wU (d.2.2.2.2.2.1*4294967296)+d.2.2.2.2.2.2.2.2.1),ul (wU (wU (wU (d.2.2.2.2.2.2.2.1*4294967296)+d.2.2.2.2.1)-wU (d.2.2.2.2.2.2.2.2.1*d.1))) (2^min (ws d.2.1) 64))) no) λd=>ae (!decide (d.2.1<0)) (ret (wU (wU (d.2.2.2.2.2.1*4294967296)+d.2.2.2.2.2.2.2.2.1),ul (wU (wU (wU (d.2.2.2.2.2.2.2.1*4294967296)+d.2.2.2.2.1)-wU (d.2.2.2.2.2.2.2.2.1*d.1))) (2^min (ws d.2.1) 64))) no;let y0:= !decide (x2=0);ae (x2==0) no (ae (decide (x2<=x0)) no (ae (x0==0) (ae y0 (ae y0 (ret (wU (t7 x1 x2),Int.tmod x1 x2)) no) no) (opt (ag4 x2) λd=>let y0:=wU (64-wU d);let y1:=2^min (ws (wU d)) 64;let y2:= !decide (wU d<0);let y3:=wU (x1*y1);let y4:=wU (x2*y1);let y5:=ul y4 4294967296;let y6:=wU (wl (v4 (v9 64 (wU (x0*y1))|||v9 64 (ul x1 (2^min (ws y0) 64)))));let y7:=wU (t7 y6 y5);ae y2 (ae y2 (ae (!decide (y0<0)) (ae y2 (ae (!decide (y5=0)) (opt (eI (y4,wU d,y5,wU (wl (v4 (v9 64 y4&&&v9 64 4294967295))),y6,ul y3 4294967296,wU (wl (v4 (v9 64 y3&&&v9 64 4294967295))),y7,wU (y6-wU (y7*y5)))) λx=>sum x (λd=>let y0:=wU (wU (wU (d.2.2.2.2.1*4294967296)+d.2.2.2.2.2.1)-wU (d.2.2.2.2.2.2.2.1*d.1));let y1:=wU (t7 y0 d.2.2.1);ae (!decide (d.2.2.1=0)) (opt (rn (d.1,d.2.1,d.2.2.1,d.2.2.2.1,d.2.2.2.2.2.2.1,d.2.2.2.2.2.2.2.1,wU (y0-wU (y1*d.2.2.1)),y0,y1)) k9) no) λx=>sum x (λd=>let y0:=wU (wU (wU (d.2.2.2.2.1*4294967296)+d.2.2.2.2.2.1)-wU (d.2.2.2.2.2.2.2.1*d.1));let y1:=wU (t7 y0 d.2.2.1);ae (!decide (d.2.2.1=0)) (opt (rn (d.1,d.2.1,d.2.2.1,d.2.2.2.1,d.2.2.2.2.2.2.1,d.2.2.2.2.2.2.2.1,wU (y0-wU (y1*d.2.2.1)),y0,y1)) k9) no) λd=>let y0:=wU (wU (wU (d.2.2.2.2.1*4294967296)+d.2.2.2.2.2.1)-wU (d.2.2.2.2.2.2.2.1*d.1));let y1:=wU (t7 y0 d.2.2.1);ae (!decide (d.2.2.1=0)) (opt (rn (d.1,d.2.1,d.2.2.1,d.2.2.2.1,d.2.2.2.2.2.2.1,d.2.2.2.2.2.2.2.1,wU (y0-wU (y1*d.2.2.1)),y0,y1)) k9) no) no) no) no) no) no)))
def Ic:=λx0 x1 x2=>(acB p6 I1 I3 x0 x1 x2).val
abbrev Ie:=Cf×(LT wb IZ)×(LT wc Dn)
def QQ (p:Ie):KK:=⟨[Md p.1],⟨[⟨17,(0::1::rg 3 5 (12::rg 17 53 (rg 78 27 (rg 113 22 (rg 70 8 []))))),[]⟩,⟨24,(0::1::rg 3 5 (11::12::13::rg 19 86 (rg 113 22 (rg 105 8 [])))),[]⟩],[gv 17 0 wb ajn p.2.1,gv 24 0 wc ajo p.b],[],[],(some ⟨0,(rg 0 6 (rg 8 127 [])),[]⟩)⟩,0,241⟩
theorem ayS (p:Ie):LI (QQ p) 17 wb ajn (I0):=λ_ d c K=>by kernel_rfl
theorem ayT (p:Ie):LI (QQ p) 24 wc ajo (I2):=λ_ d c K=>by kernel_rfl
theorem aHR (p:Ie):D2 (QQ p) arq (lf Xh) λb=>acB p.1 p.2.1 p.b b.1 b.2.1 b.b:=λb=>by kernel_rfl
abbrev QR:Ie:=(p6,I1,I3)
theorem aHS [ax]:SC (aru Ic):=sc (kS (k:=QQ QR) (.c ag3 (.nil _)) [17,24] [] ⟨kL (ayS QR),⟨kL (ayT QR),trivial⟩⟩ trivial (aHR QR))
def aAO:=qa (pl (c agc jb) nil)
def ag5:=qe ax8
abbrev aAP:=ag5.B
abbrev amp:=Int->Int->Int->Option aAP
def amq (g:amp):Ct:=(200,FC aAO (lf ag5) (λb=>g b.1.1 b.1.2 b.2))
def amr (yR:ami)(iN:QK)(QS:art)(fK:wa)(fL:A')(x0:Int)(x1:Int)(x2:Int):Pg aAP:=ae (x2==0) (ret (0,false)) (opt (yR x0 x1) λd=>let y0:= !d.2==decide (x2<0);opt (iN x2) λaj=>let uP:=wU (t7 d.1.1 aj);let y1:= !decide (aj=0);ae y1 (ae y1 (opt (QS (Int.tmod d.1.1 aj) d.1.2 aj) λd=>ae (decide (d.2>=wU (aj-d.2))) (opt (fK uP d.1 0 1) λd=>opt (fL d.1 d.2 y0) λd=>ret d) (opt (fL uP d.1 y0) λd=>ret d)) no) no)
def BU:=λx0 x1 x2=>(amr Fu sC Ic jG jH x0 x1 x2).val
theorem aO7:∀yR iN QS fK fL,D0 [amj yR,QL iN,aru QS,Gn fK,Gp fL] 200 aAO (lf ag5) λb=>amr yR iN QS fK fL b.1.1 b.1.2 b.2:=λ_ _ _ _ _ b=>by kernel_rfl
theorem aAQ [ax]:SC (amq BU):=s0 (.c aAN (.c acu (.c aHS (.c OX (.c O0 (.nil _)))))) (aO7 Fu sC Ic jG jH)
def avR:=qa (pr (cu aQ (c agc jb)) bF)
def acC:=qe ry
abbrev avS:=acC.B
abbrev ag6:=Int->Int->Int->Bool->Option avS
def ag7 (g:ag6):Ct:=(128,FC avR (lf acC) (λb=>g b.1.1.1 b.1.1.2 b.1.2 b.2))
def Me (kc:W2)(yS:amp)(nV:H')(x0:Int)(x1:Int)(x2:Int)(x3:Bool):Pg avS:=let y0:=decide (x0<0);ae (x2==0) (ae (x0==0&&(x1==0&&true)) (ret (0,true)) (opt (kc y0) λd=>ret (d,true))) (opt (yS x0 x1 x2) λd=>opt (nV d.1 d.2 (!y0==decide (x2<0)) x3) λd=>ret d)
def yT:=λx0 x1 x2 x3=>(Me rI BU nU x0 x1 x2 x3).val
theorem aLC:∀kc yS nV,D0 [W3 kc,amq yS,QO nV] 128 avR (lf acC) λb=>Me kc yS nV b.1.1.1 b.1.1.2 b.1.2 b.2:=λ_ _ _ b=>by kernel_rfl
theorem avT [ax]:SC (ag7 yT):=s0 (.c ag1 (.c aAQ (.c acy (.nil _)))) (aLC rI BU nU)
def aeD:=qa (pr (cu aQ Fb) bF)
def Mf:=qe ry
abbrev aeE:=Mf.B
abbrev bW:=Int->Int->Int->Bool->Option aeE
def dF (g:bW):Ct:=(78,FC aeD (lf Mf) (λb=>g b.1.1 b.1.2.1 b.1.b b.2))
def Gq (aw:bQ)(cW:oU)(uX:ag6)(x0:Int)(x1:Int)(x2:Int)(x3:Bool):Pg aeE:=opt (aw x0 x3) λd=>opt (aw x1 d.2) λaj=>opt (cW d.1 aj.1) λd=>opt (aw x2 aj.2) λaC=>opt (uX d.1 d.2 aC.1 aC.2) λd=>ret d
def aP:=λx0 x1 x2 x3=>(Gq aM fY yT x0 x1 x2 x3).val
theorem ayU:∀aw cW uX,D0 [dG aw,yQ cW,ag7 uX] 78 aeD (lf Mf) λb=>Gq aw cW uX b.1.1 b.1.2.1 b.1.b b.2:=λ_ _ _ b=>by kernel_rfl
theorem dS [ax]:SC (dF aP):=s0 (.c dN (.c BT (.c avT (.nil _)))) (ayU aM fY yT)
def Mg:=qa (pr (c ai (c ai aKD)) (cu ate bF))
def Bc:=qe aRr
abbrev Ci:=Bc.B
abbrev Cj:=Int->Int->Int->Int->Bool->Option Ci
def Ck (g:Cj):Ct:=(194,FC Mg (lf Bc) (λb=>g b.1.1 b.1.2.1 b.1.b.1 b.1.b.2 b.2))
def uY (aq:bW)(x0:Int)(x1:Int)(x2:Int)(x3:Int)(x4:Bool):Pg Ci:=opt (aq (wI (x1-x0)) x2 x3 x4) λd=>ret (wI (x0+d.1),d.2)
def kd:=λx0 x1 x2 x3 x4=>(uY aP x0 x1 x2 x3 x4).val
theorem ag8:∀aq,D0 [dF aq] 194 Mg (lf Bc) λb=>uY aq b.1.1 b.1.2.1 b.1.b.1 b.1.b.2 b.2:=λ_ b=>by kernel_rfl
theorem Mh [ax]:SC (Ck kd):=s0 (.c dS (.nil _)) (ag8 aP)
def arv:=qa (pl zY nil)
def Xi:=qe aRy
abbrev arw:=Xi.B
abbrev acD:=Int->Int->Option arw
def acE (g:acD):Ct:=(132,FC arv (lf Xi) (λb=>g b.1 b.2))
def acF (iN:QK)(kE:Dl)(jB:Dm)(pZ:WY)(x0:Int)(x1:Int):Pg arw:=ae (decide (x1<0)) (ret ((0,0),false)) (ae (decide (x1>127)) (ret ((0,0),false)) (opt (iN x0) λd=>opt (kE 0 d x1) λaj=>opt (jB aj.1 aj.2 x1) λaC=>ae (!(aC.1==0&&(aC.2==d&&true))) (ret ((0,0),false)) (opt (pZ aj.1 aj.2 (decide (x0<0))) λd=>ae (!d.2) (ret ((0,0),false)) (ret (d.1,true)))))
def vP:=λx0 x1=>(acF sC ia jA nT x0 x1).val
theorem aHT:∀iN kE jB pZ,D0 [QL iN,IV kE,IW jB,WZ pZ] 132 arv (lf Xi) λb=>acF iN kE jB pZ b.1 b.2:=λ_ _ _ _ b=>by kernel_rfl
theorem arx [ax]:SC (acE vP):=s0 (.c acu (.c Tt (.c Tu (.c amf (.nil _))))) (aHT sC ia jA nT)
def ary:=qa (pr (cu aQ Fb) bF)
def Xj:=qe ry
abbrev arz:=Xj.B
abbrev cB:=Int->Int->Int->Bool->Option arz
def gV (g:cB):Ct:=(82,FC ary (lf Xj) (λb=>g b.1.1 b.1.2.1 b.1.b b.2))
def QT (aw:bQ)(sE:acD)(uX:ag6)(x0:Int)(x1:Int)(x2:Int)(x3:Bool):Pg arz:=opt (aw x0 x3) λd=>opt (aw x1 d.2) λaj=>ae (decide (x2<0)) (ret (0,true)) (ae (decide (x2>66)) (ret (0,true)) (opt (sE d.1 x2) λd=>opt (uX d.1.1 d.1.2 aj.1 aj.2) λd=>ret d))
def bl:=λx0 x1 x2 x3=>(QT aM vP yT x0 x1 x2 x3).val
theorem aHU:∀aw sE uX,D0 [dG aw,acE sE,ag7 uX] 82 ary (lf Xj) λb=>QT aw sE uX b.1.1 b.1.2.1 b.1.b b.2:=λ_ _ _ b=>by kernel_rfl
theorem iO [ax]:SC (gV bl):=s0 (.c dN (.c arx (.c avT (.nil _)))) (aHU aM vP yT)
def aeF:=qa (pl (c Ww (cl Ww nil)) nil)
def Mi:=qe Fa
abbrev aeG:=Mi.B
abbrev Gr:=Int->Int->Int->Int->Option aeG
def aeH (g:Gr):Ct:=(243,FC aeF (lf Mi) (λb=>g b.1.1 b.1.2 b.2.1 b.b))
def O2 (x0:Int)(x1:Int)(x2:Int)(x3:Int):Pg aeG:=ae (decide (x0<x2)) (ret true) (ae (x0==x2) (ret (decide (x1<x3))) (ret false))
def we:=λx0 x1 x2 x3=>(O2 x0 x1 x2 x3).val
theorem ayV:D0 [] 243 aeF (lf Mi) λb=>O2 b.1.1 b.1.2 b.2.1 b.b:=λb=>by kernel_rfl
theorem ayW [ax]:SC (aeH we):=s0 (.nil _) ayV
def aaE:=qa (pl (c Ww (cl Ww nil)) nil)
def JT:=qe aKH
abbrev aaF:=JT.B
abbrev Mj:=Int->Int->Int->Int->Option aaF
def aaG (g:Mj):Ct:=(244,FC aaE (lf JT) (λb=>g b.1.1 b.1.2 b.2.1 b.b))
def Mk (ams:aZo)(x0:Int)(x1:Int)(x2:Int)(x3:Int):Pg aaF:=opt (ams x1 x3 0) λd=>opt (ams x0 x2 d.2) λaj=>ret (aj.1,d.1)
def yU:=λx0 x1 x2 x3=>(Mk aex x0 x1 x2 x3).val
theorem avU:∀ams,D0 [aO1 ams] 244 aaE (lf JT) λb=>Mk ams b.1.1 b.1.2 b.2.1 b.b:=λ_ b=>by kernel_rfl
theorem avV [ax]:SC (aaG yU):=s0 (.c aU8 (.nil _)) (avU aex)
def avW:=qa (pl aEh nil)
def acG:=qe ax8
abbrev avX:=acG.B
abbrev avY:=Int->Int->Option avX
def avZ (g:avY):Ct:=(202,FC avW (lf acG) (λb=>g b.1 b.2))
def yE:=qs (st (pr (us 4 (cu (app 0 2) (cu aNR (cl ai (us 44 nil))))) (pl (c (so ax0) (cl (so ax0) nil)) nil)))
def aFU:=qs (st (pr (us 4 (cu (app 0 2) (cu aNR (c ai (us 12 aWH))))) (pl (c (so ax0) (cl (so ax0) nil)) nil)))
abbrev Ml:=((Int×Bool)×(Int×Int)×Int×Int)
def amt {ρ:Type}(x:Ml)(K:AX->St->Option ρ):Option ρ:=(λd=>K (.ex 0) (aFU.em ((d.1.1,d.1),d.2))) x
def Mm (kE:Dl)(fK:wa)(jB:Dm)(O3:Gr)(av0:Mj)(d:yE.B):PL yE Ml:=let y0:=wI (d.1-2);let y1:=decide (d.1>=0);ae y1 (opt (kE 0 1 d.1) λaj=>opt (fK d.2.2.1 d.2.2.2 aj.1 aj.2) λaC=>opt (jB d.2.2.1 d.2.2.2 1) λbC=>opt (O3 d.2.1.1 d.2.1.2 aC.1 aC.2) λcK=>ae (!cK) (opt (av0 d.2.1.1 d.2.1.2 aC.1 aC.2) λd=>opt (fK bC.1 bC.2 aj.1 aj.2) λfE=>ret (wr (y0,d,fE))) (ret (wr (y0,d.2.1,bC)))) (ret (wn ((d.1,y1),d.2)))
def Xk:=bj (Mm ia jG jA we yU) 2000
def ag9 (fK:wa)(O3:Gr)(fL:A')(eI:LT yE Ml)(x0:Int)(x1:Int):Pg avX:=ae (decide (x0<0)) (ret (0,false)) (opt (eI (126,(wU x0,x1),0,0)) λd=>opt (O3 d.2.2.1 d.2.2.2 d.2.1.1 d.2.1.2) λaj=>ae aj (opt (fK d.2.2.1 d.2.2.2 0 1) λd=>opt (fL d.1 d.2 false) λd=>ret d) (opt (fL d.2.2.1 d.2.2.2 false) λd=>ret d))
def Mn:=λx0 x1=>(ag9 jG we jH Xk x0 x1).val
abbrev Vy:=Dl×wa×Dm×Gr×Mj×A'×(LT yE Ml)
def aha (p:Vy):KK:=⟨[IV p.1,Gn p.2.1,IW p.b.1,aeH p.b.2.1,aaG p.c.1,Gp p.c.2.1],⟨[⟨5,(rg 0 4 (rg 7 44 [])),[]⟩],[gv 5 0 yE amt p.c.b],[],[],(some ⟨0,(0::1::rg 4 47 []),[]⟩)⟩,0,202⟩
theorem aCG (p:Vy):LI (aha p) 5 yE amt (Mm p.1 p.2.1 p.b.1 p.b.2.1 p.c.1):=λ_ d c K=>by kernel_rfl
theorem aLD (p:Vy):D2 (aha p) avW (lf acG) λb=>ag9 p.2.1 p.b.2.1 p.c.2.1 p.c.b b.1 b.2:=λb=>by kernel_rfl
abbrev ahb:Vy:=(ia,jG,jA,we,yU,jH,Xk)
theorem aLE [ax]:SC (avZ Mn):=sc (kS (k:=aha ahb) (.c Tt (.c OX (.c Tu (.c ayW (.c avV (.c O0 (.nil _))))))) [5] [] ⟨kL (aCG ahb),trivial⟩ trivial (aLD ahb))
def aAR:=qa (pr (cu aQ aEh) bF)
def ahc:=qe ry
abbrev aAS:=ahc.B
abbrev aaH:=Int->Int->Bool->Option aAS
def amu (g:aaH):Ct:=(133,FC aAR (lf ahc) (λb=>g b.1.1 b.1.2 b.2))
def amv (Vz:avY)(aw:bQ)(x0:Int)(x1:Int)(x2:Bool):Pg aAS:=opt (Vz x0 x1) λd=>ae (!d.2) (opt (aw 1152921504606846977 x2) λd=>ret d) (opt (aw d.1 x2) λd=>ret d)
def yV:=λx0 x1 x2=>(amv Mn aM x0 x1 x2).val
theorem aO8:∀Vz aw,D0 [avZ Vz,dG aw] 133 aAR (lf ahc) λb=>amv Vz aw b.1.1 b.1.2 b.2:=λ_ _ b=>by kernel_rfl
theorem aAT [ax]:SC (amu yV):=s0 (.c aLE (.c dN (.nil _))) (aO8 Mn aM)
def av1:=qa (pr (cu aQ jb) bF)
def acH:=qe ry
abbrev av2:=acH.B
abbrev ahd:=Int->Bool->Option av2
def ahe (g:ahd):Ct:=(81,FC av1 (lf acH) (λb=>g b.1 b.2))
def ahf (aw:bQ)(sE:acD)(K6:aaH)(x0:Int)(x1:Bool):Pg av2:=opt (aw x0 x1) λd=>ae (decide (d.1<0)) (ret (0,true)) (opt (sE d.1 30) λaj=>opt (K6 aj.1.1 aj.1.2 d.2) λd=>ret d)
def Cl:=λx0 x1=>(ahf aM vP yV x0 x1).val
theorem aLF:∀aw sE K6,D0 [dG aw,acE sE,amu K6] 81 av1 (lf acH) λb=>ahf aw sE K6 b.1 b.2:=λ_ _ _ b=>by kernel_rfl
theorem av3 [ax]:SC (ahe Cl):=s0 (.c dN (.c arx (.c aAT (.nil _)))) (aLF aM vP yV)
def av4:=qa (pl jb nil)
def acI:=qe Hm
abbrev av5:=acI.B
abbrev yW:=Int->Option av5
def Cm (g:yW):Ct:=(129,FC av4 (lf acI) (λb=>g b))
def VA (x0:Int):Pg av5:=let y0:=Int.tmod x0 6746518852;ae (decide (y0>3373259426)) (ret (wI (y0-6746518852))) (ae (decide (y0<= -3373259426)) (ret (wI (y0+6746518852))) (ret y0))
def fM:=λx0=>(VA x0).val
theorem aLG:D0 [] 129 av4 (lf acI) λb=>VA b:=λb=>by kernel_rfl
theorem Gs [ax]:SC (Cm fM):=s0 (.nil _) aLG
def aJK:=qa (pl jb nil)
def atP:=qe Hm
abbrev aeI:=atP.B
abbrev O4:=Int->Option aeI
def aeJ (g:O4):Ct:=(36,FC aJK (lf atP) (λb=>g b))
def DW (x0:Int):Pg aeI:=ae (decide (x0>=1152921504606846976)) (ret 1152921504606846976) (ae (decide (x0<= -1152921504606846976)) (ret 1152921504606846976) (ae (decide (x0<0)) (ret (wI (0-x0))) (ret x0)))
def uf:=λx0=>(DW x0).val
theorem aVc:D0 [] 36 aJK (lf atP) λb=>DW b:=λb=>by kernel_rfl
theorem apO [ax]:SC (aeJ uf):=s0 (.nil _) aVc
def aJL:=qa (pr (cu aQ zY) bF)
def atQ:=qe ry
abbrev ayX:=atQ.B
abbrev aeK:=Int->Int->Bool->Option ayX
def apP (g:aeK):Ct:=(130,FC aJL (lf atQ) (λb=>g b.1.1 b.1.2 b.2))
def aeL (aB:bL)(x0:Int)(x1:Int)(x2:Bool):Pg ayX:=opt (aB x0 x1 30 x2) λd=>ret d
def K7:=λx0 x1 x2=>(aeL aX x0 x1 x2).val
theorem aVd:∀aB,D0 [fO aB] 130 aJL (lf atQ) λb=>aeL aB b.1.1 b.1.2 b.2:=λ_ b=>by kernel_rfl
theorem ayY [ax]:SC (apP K7):=s0 (.c gx (.nil _)) (aVd aX)
def aFV:=qa (pl jb nil)
def amw:=qe aW5
abbrev aFW:=amw.B
abbrev atS:=Int->Option aFW
def aFX (g:atS):Ct:=(242,FC aFV (lf amw) (λb=>g b))
def atT (x0:Int):Pg aFW:=ret (ul x0 9223372036854775808,wU x0)
def Xl:=λx0=>(atT x0).val
theorem aSG:D0 [] 242 aFV (lf amw) λb=>atT b:=λb=>by kernel_rfl
theorem aSH [ax]:SC (aFX Xl):=s0 (.nil _) aSG
def aAU:=qa (pl (c agc aEh) nil)
def ahg:=qe aRy
abbrev aAV:=ahg.B
abbrev amx:=Int->Int->Int->Int->Option aAV
def aAW (g:amx):Ct:=(187,FC aAU (lf ahg) (λb=>g b.1.1 b.1.2 b.2.1 b.b))
def amy (nS:avJ)(x0:Int)(x1:Int)(x2:Int)(x3:Int):Pg aAV:=let y0:=decide (x0<0);opt (nS x1 x3 0) λd=>opt (nS (wU x0) (wU x2) d.2) λaj=>ae (!y0==decide (x2<0)) (ret ((wI aj.1,d.1),true)) (ret ((wI aj.1,d.1),decide (wI aj.1<0)==y0))
def K8:=λx0 x1 x2 x3=>(amy Dg x0 x1 x2 x3).val
theorem aO9:∀nS,D0 [amb nS] 187 aAU (lf ahg) λb=>amy nS b.1.1 b.1.2 b.2.1 b.b:=λ_ b=>by kernel_rfl
theorem aPa [ax]:SC (aAW K8):=s0 (.c apN (.nil _)) (aO9 Dg)
def aAX:=qa (dp (cl aWp nil) λa=>(cl (cl (gs a.1 aKv) nil) nil))
def ahh:=qe (res (pl aW6 (pu aab nil)))
abbrev aAY:=ahh.B
abbrev tv:=Nat->NI->NI->Bool->Option aAY
def K9 (g:tv):Ct:=(117,vN 0 [.i .i64,.i .u64] (FC aAX (lf ahh) (λb=>g b.1.1 b.2.1 b.b b.1.2)))
def Be:=qs (st (dp (us 2 (cu aNR (us 1 (cu aAd (us 4 (c aWp (c ai aQ0))))))) λa=>(pl (c (so (cl (gs a.1.1 aKv) nil)) (cu aRz ab2)) nil)))
def ajp:=qs (st (pu (us 2 (cu aNR (cu mP (us 23 nil)))) (pl (cl aRv (cu aRz nil)) nil)))
def aCH:=qs (st (pr (us 2 (cu aNR (us 1 (cu aAd (us 4 (c aWp aWX)))))) (pl (c aRv (cu aRz ab2)) nil)))
abbrev Ig:=ajp.B⊕(aNJ×(NI×NI)×Int×Int)
def arA {ρ:Type}(x:Ig)(K:AX->St->Option ρ):Option ρ:=(t8 (λd=>K .ret (ajp.em d)) (λd=>K (.ex 0) (aCH.em (d.1,(d.1.1.1,d.2.1),d.b)))) x
def DX (aPb:amx)(d:Be.B):PL Be Ig:=let y0:=ws d.1.2.2;let y1:=decide (d.1.2.2<d.1.2.1);ae y1 (ae (bk d.1.2.2 d.1.1.1) (opt (aPb d.2.2.1 d.2.2.2 (d.2.1.1 y0) (d.2.1.2 y0)) λaj=>ae (!aj.2) (ret (wn (wr (d.1.1.1,d.2.1)))) (ret (wr ((d.1.1,d.1.2.1,wI (d.1.2.2+1)),d.2.1,aj.1)))) no) (ret (wn (wn ((d.1.1,d.1.2.1,d.1.2.2,y1),d.2))))
def Ih:=bj (DX K8) 2000
def aaI (eI:LT Be Ig)(x0:Nat)(x1:Nat->Int)(x2:Nat->Int)(w0:Bool):Pg aAY:=ae (ww x0 x0) (opt (eI (((x0,w0),wl x0,0),(x1,x2),0,0)) λx=>sum x (λd=>ret ((0,0),false)) λd=>ret (d.2.2,true)) no
def kU:=λx0 x1 x2 w0=>(aaI Ih x0 x1 x2 w0).val
abbrev aaJ:=amx×(LT Be Ig)
def amz (p:aaJ):KK:=⟨[aAW p.1],⟨[⟨3,(0::1::3::rg 5 4 (rg 12 15 [])),[]⟩],[gv 3 1 Be arA p.2],[],[],(some ⟨0,(0::1::rg 4 23 []),[]⟩)⟩,1,117⟩
theorem aFY (p:aaJ):LI (amz p) 3 Be arA (DX p.1):=λ_ d c K=>by kernel_rfl
theorem aPc (p:aaJ):D2 (amz p) aAX (lf ahh) λb=>aaI p.2 b.1.1 b.2.1 b.b b.1.2:=λb=>by kernel_rfl
abbrev amA:aaJ:=(K8,Ih)
theorem RM [ax]:SC (K9 kU):=sc (Sound.nil 0 [.i .i64,.i .u64]<|kS (k:=amz amA) (.c aPa (.nil _)) [3] [] ⟨kL (aFY amA),trivial⟩ trivial (aPc amA))
def arB:=qa (dp (cu aQ ax2) λa=>(c xV (cl (cl (gs a.1 oT) nil) nil)))
def Xm:=qe aKL
abbrev arC:=Xm.B
abbrev eH:=Nat->Bool->NI->Bool->Option arC
def pT (g:eH):Ct:=(201,vN 1 [.i .i64] (FC arB (lf Xm) (λb=>g b.1.1 b.2.1 b.b b.1.2)))
def wg:=qs (st (dp (cu aQ (us 4 (cu aAd (us 4 (c H6 (c ai aQ1)))))) λa=>(pl (c cG (c (so (cl (gs a.1.1 oT) nil)) ab2)) cQ)))
def aCI:=qs (st (pr (cu aQ (us 4 (cu aAd (us 4 (c H6 (c ai aQ7)))))) (pl (c cG (c JE ab2)) cQ)))
abbrev I4:=(aNJ×Bool×NI×Int×Int)
def ajq {ρ:Type}(x:I4)(K:AX->St->Option ρ):Option ρ:=(λd=>K (.ex 0) (aCI.em (d.1,d.2.1,(d.1.1.1,d.b.1),d.b.2))) x
def I5 (aw:bQ)(aSI:atS)(yX:tv)(d:wg.B):PL wg I4:=let y0:=decide (d.1.2.2<d.1.2.1);ae y0 (ae (bk d.1.2.2 d.1.1.1) (opt (aw (d.2.2.1 (ws d.1.2.2)) d.2.1) λaj=>opt (aSI aj.1) λaC=>opt (yX 2 (λj=>bif ww j 1 then aC.1 else bif ww j 0 then d.2.2.2.1 else d.2.2.2.1) (λj=>bif ww j 1 then aC.2 else bif ww j 0 then d.2.2.2.2 else d.2.2.2.2) true) λbC=>ret (wr ((d.1.1,d.1.2.1,wI (d.1.2.2+1)),aj.2,d.2.2.1,bC.1))) no) (ret (wn ((d.1.1,d.1.2.1,d.1.2.2,y0),d.2)))
def Ty:=bj (I5 aM Xl kU) 2000
def acJ (vO:DV)(nV:H')(eI:LT wg I4)(x0:Nat)(x1:Bool)(x2:Nat->Int)(w0:Bool):Pg arC:=ae (ww x0 x0) (opt (eI (((x0,w0),wl x0,0),x1,x2,0,0)) λd=>opt (vO d.2.2.2.1 d.2.2.2.2 0) λaj=>opt (nV aj.1 aj.2 (decide (d.2.2.2.1<0)) d.2.1) λd=>ret d) no
def cC:=λx0 x1 x2 w0=>(acJ sD nU Ty x0 x1 x2 w0).val
abbrev QU:=bQ×atS×tv×DV×H'×(LT wg I4)
def acK (p:QU):KK:=⟨[dG p.1,aFX p.2.1,K9 p.b.1,QN p.b.2.1,QO p.c.1],⟨[⟨3,(rg 1 4 (rg 6 4 (rg 13 26 []))),[]⟩],[gv 3 2 wg ajq p.c.2],[0],[],(some ⟨0,(rg 0 4 (rg 5 34 [])),[]⟩)⟩,2,201⟩
theorem ayZ (p:QU):LI (acK p) 3 wg ajq (I5 p.1 p.2.1 p.b.1):=λ_ d c K=>by kernel_rfl
theorem aHV (p:QU):D2 (acK p) arB (lf Xm) λb=>acJ p.b.2.1 p.c.1 p.c.2 b.1.1 b.2.1 b.b b.1.2:=λb=>by kernel_rfl
abbrev acL:QU:=(aM,Xl,kU,sD,nU,Ty)
theorem sF [ax]:SC (pT cC):=sc (Sound.nil 1 [.i .i64]<|kS (k:=acK acL) (.c dN (.c aSH (.c RM (.c acx (.c acy (.nil _)))))) [3] [] ⟨kL (ayZ acL),trivial⟩ trivial (aHV acL))
def amB:=qa (dp (cu aQ aRc) λa=>(c xV (cl (cl (gs a.2.1 oT) nil) nil)))
def Tz:=qe aKL
abbrev Xn:=Tz.B
abbrev Xo:=Int->Nat->Bool->NI->Bool->Option Xn
def Xp (g:Xo):Ct:=(131,vN 2 [.i .i64] (FC amB (lf Tz) (λb=>g b.1.1 b.1.2.1 b.2.1 b.b b.1.b)))
def lI:=qs (st (pr (cu aQ (c ai (us 5 (c ai (us 6 (c aXG (c ai aKp))))))) (pl (c cG alx) cQ)))
def aeM:=qs (st (pr (cu aQ (c ai (us 5 (c ai (us 6 (c aXG (c ai aKw))))))) (pl (c cG alx) cQ)))
abbrev wh:=aeM.B
def aeN {ρ:Type}:=@ef wh ((.ex 0)) aeM ρ
def Gu (j6:aeK)(cv:eH)(d:lI.B):PL lI wh:=let n1:=d.1.2.2;let n2:=n1.2.2;let y0:=decide (n2<n1.2.1);ae y0 (ae (bk n2 n1.1.1) (opt (j6 d.1.1 d.1.2.1 d.2.1) λaj=>opt (cv 2 aj.2 (cr (d.2.2.2 (1+ws n2)) [aj.1,d.2.2.2 (1+ws n2)]) true) λaC=>ret (wr ((d.1.1,aC.1,n1.1,n1.2.1,wI (n2+1)),aC.2,d.2.2))) no) (ret (wn ((d.1.1,d.1.2.1,n1.1,n1.2.1,n2,y0),d.2)))
def O5:=bj (Gu K7 cC) 2000
def Mp (eI:LT lI wh)(x0:Int)(x1:Nat)(x2:Bool)(x3:Nat->Int)(w0:Bool):Pg Xn:=let y0:=x1-1;ae (bk 0 x1) (ae (K0 1 x1) (opt (eI ((x0,x3 0,(y0,w0&&true),wl y0,0),x2,x1,x3)) λd=>ret (d.1.2.1,d.2.1)) no) no
def nW:=λx0 x1 x2 x3 w0=>(Mp O5 x0 x1 x2 x3 w0).val
abbrev Mq:=aeK×eH×(LT lI wh)
def Xq (p:Mq):KK:=⟨[apP p.1,pT p.2.1],⟨[⟨3,(rg 2 5 (rg 8 6 (rg 17 13 []))),[]⟩],[gv 3 2 lI aeN p.b],[0],[],(some ⟨0,(rg 0 6 (rg 7 23 [])),[]⟩)⟩,2,131⟩
theorem av6 (p:Mq):LI (Xq p) 3 lI aeN (Gu p.1 p.2.1):=λ_ d c K=>by kernel_rfl
theorem aFZ (p:Mq):D2 (Xq p) amB (lf Tz) λb=>Mp p.b b.1.1 b.1.2.1 b.2.1 b.b b.1.b:=λb=>by kernel_rfl
abbrev Xr:Mq:=(K7,cC,O5)
theorem amC [ax]:SC (Xp nW):=sc (Sound.nil 2 [.i .i64]<|kS (k:=Xq Xr) (.c ayY (.c sF (.nil _))) [3] [] ⟨kL (av6 Xr),trivial⟩ trivial (aFZ Xr))
def aAZ:=qa (pr (cu aQ jb) bF)
def ahi:=qe ry
abbrev amD:=ahi.B
abbrev K':=Int->Bool->Option amD
def La (g:K'):Ct:=(79,FC aAZ (lf ahi) (λb=>g b.1 b.2))
def aaK (aw:bQ)(dB:yW)(dK:O4)(j6:aeK)(gI:Xo)(x0:Int)(x1:Bool):Pg amD:=opt (aw x0 x1) λd=>opt (dB d.1) λaj=>let y0:=wI (3373259426-aj);let y1:=wI (-3373259426-aj);ae (decide (aj>1686629713)) (opt (dK y0) λaC=>let uP:=wI (1686629713-aC);ae (decide (aC<=843314857)) (opt (j6 y0 y0 d.2) λd=>opt (gI d.1 6 d.2 (cr (-27) [1073741824, -178956971,8947849, -213044,2959, -27]) true) λd=>opt (j6 y0 d.1 d.2) λd=>let y0:=if -1073741824>d.1 then -1073741824 else d.1;ret (if 1073741824<y0 then 1073741824 else y0,d.2)) (opt (j6 uP uP d.2) λd=>opt (gI d.1 7 d.2 (cr 2 [1073741824, -536870912,44739243, -1491308,26631, -296,2]) true) λd=>let arD:=wI (0-d.1);let y1:=if -1073741824>d.1 then -1073741824 else d.1;let y2:=if -1073741824>arD then -1073741824 else arD;ae (decide (y0<0)) (ret (if 1073741824<y2 then 1073741824 else y2,d.2)) (ret (if 1073741824<y1 then 1073741824 else y1,d.2)))) (ae (decide (aj< -1686629713)) (opt (dK y1) λaC=>let y0:=wI (1686629713-aC);ae (decide (aC<=843314857)) (opt (j6 y1 y1 d.2) λd=>opt (gI d.1 6 d.2 (cr (-27) [1073741824, -178956971,8947849, -213044,2959, -27]) true) λd=>opt (j6 y1 d.1 d.2) λd=>let y0:=if -1073741824>d.1 then -1073741824 else d.1;ret (if 1073741824<y0 then 1073741824 else y0,d.2)) (opt (j6 y0 y0 d.2) λd=>opt (gI d.1 7 d.2 (cr 2 [1073741824, -536870912,44739243, -1491308,26631, -296,2]) true) λd=>let y0:=wI (0-d.1);let aA0:=if -1073741824>d.1 then -1073741824 else d.1;let y2:=if -1073741824>y0 then -1073741824 else y0;ae (decide (y1<0)) (ret (if 1073741824<y2 then 1073741824 else y2,d.2)) (ret (if 1073741824<aA0 then 1073741824 else aA0,d.2)))) (opt (dK aj) λaC=>let y0:=wI (1686629713-aC);ae (decide (aC<=843314857)) (opt (j6 aj aj d.2) λd=>opt (gI d.1 6 d.2 (cr (-27) [1073741824, -178956971,8947849, -213044,2959, -27]) true) λd=>opt (j6 aj d.1 d.2) λd=>let y0:=if -1073741824>d.1 then -1073741824 else d.1;ret (if 1073741824<y0 then 1073741824 else y0,d.2)) (opt (j6 y0 y0 d.2) λd=>opt (gI d.1 7 d.2 (cr 2 [1073741824, -536870912,44739243, -1491308,26631, -296,2]) true) λd=>let y0:=wI (0-d.1);let y1:=if -1073741824>d.1 then -1073741824 else d.1;let y2:=if -1073741824>y0 then -1073741824 else y0;ae (decide (aj<0)) (ret (if 1073741824<y2 then 1073741824 else y2,d.2)) (ret (if 1073741824<y1 then 1073741824 else y1,d.2)))))
def oV:=λx0 x1=>(aaK aM fM uf K7 nW x0 x1).val
theorem aPd:∀aw dB dK j6 gI,D0 [dG aw,Cm dB,aeJ dK,apP j6,Xp gI] 79 aAZ (lf ahi) λb=>aaK aw dB dK j6 gI b.1 b.2:=λ_ _ _ _ _ b=>by kernel_rfl
theorem RN [ax]:SC (La oV):=s0 (.c dN (.c Gs (.c apO (.c ayY (.c amC (.nil _)))))) (aPd aM fM uf K7 nW)
def aA1:=qa (pr (cu aQ jb) bF)
def ahj:=qe ry
abbrev amE:=ahj.B
abbrev RO:=Int->Bool->Option amE
def RP (g:RO):Ct:=(80,FC aA1 (lf ahj) (λb=>g b.1 b.2))
def aaL (dB:yW)(eQ:K')(x0:Int)(x1:Bool):Pg amE:=opt (dB x0) λd=>opt (eQ (wI (1686629713+d)) x1) λd=>ret d
def tw:=λx0 x1=>(aaL fM oV x0 x1).val
theorem aPe:∀dB eQ,D0 [Cm dB,La eQ] 80 aA1 (lf ahj) λb=>aaL dB eQ b.1 b.2:=λ_ _ b=>by kernel_rfl
theorem aaM [ax]:SC (RP tw):=s0 (.c Gs (.c RN (.nil _))) (aPe fM oV)
def arE:=qa (pr (cu aQ zY) bF)
def Xs:=qe ry
abbrev acM:=Xs.B
abbrev acN:=Int->Int->Bool->Option acM
def acO (g:acN):Ct:=(257,FC arE (lf Xs) (λb=>g b.1.1 b.1.2 b.2))
def QV (aw:bQ)(dK:O4)(aD:cB)(j6:aeK)(gI:Xo)(x0:Int)(x1:Int)(x2:Bool):Pg acM:=opt (aw x0 x2) λd=>let y0:=decide (d.1<0);opt (aw x1 d.2) λaj=>let uP:=decide (aj.1<0);opt (dK d.1) λaC=>opt (dK aj.1) λbC=>let arD:=if bC>aC then bC else aC;opt (dK d.1) λcK=>opt (dK aj.1) λfE=>ae (arD==0) (ret (0,aj.2)) (opt (aD (if fE<cK then fE else cK) arD 30 aj.2) λdC=>ae (decide (dC.1>444758426)) (opt (aD (wI (dC.1-1073741824)) (wI (dC.1+1073741824)) 30 dC.2) λnX=>opt (j6 nX.1 nX.1 nX.2) λtY=>opt (gI tY.1 12 tY.2 (cr (-46684427) [1073741824, -357913941,214748365, -153391689,119304647, -97612893,82595525, -71582788,63161284, -56512728,51130563, -46684427]) true) λp7=>opt (j6 nX.1 p7.1 p7.2) λmO=>let aaN:=wI (843314857+mO.1);let y1:=wI (3373259426-aaN);let y2:=wI (1686629713-aaN);let y3:=wI (3373259426-y2);opt (dK d.1) λd=>opt (dK aj.1) λxW=>ae (decide (d>xW)) (ae uP (ae y0 (ret (wI (0-y3),mO.2)) (ret (y3,mO.2))) (ae y0 (ret (wI (0-y2),mO.2)) (ret (y2,mO.2)))) (ae uP (ae y0 (ret (wI (0-y1),mO.2)) (ret (y1,mO.2))) (ae y0 (ret (wI (0-aaN),mO.2)) (ret (aaN,mO.2))))) (opt (j6 dC.1 dC.1 dC.2) λnX=>opt (gI nX.1 12 nX.2 (cr (-46684427) [1073741824, -357913941,214748365, -153391689,119304647, -97612893,82595525, -71582788,63161284, -56512728,51130563, -46684427]) true) λtY=>opt (j6 dC.1 tY.1 tY.2) λp7=>let aaN:=wI (0+p7.1);let y1:=wI (1686629713-aaN);let y2:=wI (3373259426-aaN);let y3:=wI (3373259426-y1);opt (dK d.1) λd=>opt (dK aj.1) λmO=>ae (decide (d>mO)) (ae uP (ae y0 (ret (wI (0-y3),p7.2)) (ret (y3,p7.2))) (ae y0 (ret (wI (0-y1),p7.2)) (ret (y1,p7.2)))) (ae uP (ae y0 (ret (wI (0-y2),p7.2)) (ret (y2,p7.2))) (ae y0 (ret (wI (0-aaN),p7.2)) (ret (aaN,p7.2))))))
def Ae:=λx0 x1 x2=>(QV aM uf bl K7 nW x0 x1 x2).val
theorem aHW:∀aw dK aD j6 gI,D0 [dG aw,aeJ dK,gV aD,apP j6,Xp gI] 257 arE (lf Xs) λb=>QV aw dK aD j6 gI b.1.1 b.1.2 b.2:=λ_ _ _ _ _ b=>by kernel_rfl
theorem arF [ax]:SC (acO Ae):=s0 (.c dN (.c apO (.c iO (.c ayY (.c amC (.nil _)))))) (aHW aM uf bl K7 nW)
def arG:=qa (pr (cu aQ zY) bF)
def Xt:=qe ry
abbrev arH:=Xt.B
abbrev dt:=Int->Int->Bool->Option arH
def iP (g:dt):Ct:=(212,FC arG (lf Xt) (λb=>g b.1.1 b.1.2 b.2))
def QW (aw:bQ)(x0:Int)(x1:Int)(x2:Bool):Pg arH:=opt (aw x0 x2) λd=>opt (aw x1 d.2) λaj=>opt (aw (wI (d.1-aj.1)) aj.2) λd=>ret d
def bu:=λx0 x1 x2=>(QW aM x0 x1 x2).val
theorem aHX:∀aw,D0 [dG aw] 212 arG (lf Xt) λb=>QW aw b.1.1 b.1.2 b.2:=λ_ b=>by kernel_rfl
theorem jN [ax]:SC (iP bu):=s0 (.c dN (.nil _)) (aHX aM)
def aF0:=qa (pr (cu aQ (c agd Hp)) bF)
def amF:=qe aya
abbrev aF1:=amF.B
abbrev JU:=Int->Int->Int->Int->Int->Int->Bool->Option aF1
def Xu (g:JU):Ct:=(181,FC aF0 (lf amF) (λb=>g b.1.1.1 b.1.1.2.1 b.1.1.b b.1.2.1 b.1.b.1 b.1.b.2 b.2))
def atU (aY:dt)(x0:Int)(x1:Int)(x2:Int)(x3:Int)(x4:Int)(x5:Int)(x6:Bool):Pg aF1:=opt (aY x0 x3 x6) λd=>opt (aY x1 x4 d.2) λaj=>opt (aY x2 x5 aj.2) λaC=>ret ((d.1,aj.1,aC.1),aC.2)
def p9:=λx0 x1 x2 x3 x4 x5 x6=>(atU bu x0 x1 x2 x3 x4 x5 x6).val
theorem aSJ:∀aY,D0 [iP aY] 181 aF0 (lf amF) λb=>atU aY b.1.1.1 b.1.1.2.1 b.1.1.b b.1.2.1 b.1.b.1 b.1.b.2 b.2:=λ_ b=>by kernel_rfl
theorem ahk [ax]:SC (Xu p9):=s0 (.c jN (.nil _)) (aSJ bu)
def av7:=qa (pr (cu aQ (c agd jb)) bF)
def acP:=qe aya
abbrev ahl:=acP.B
abbrev VB:=Int->Int->Int->Int->Bool->Option ahl
def VC (g:VB):Ct:=(157,FC av7 (lf acP) (λb=>g b.1.1.1 b.1.1.2.1 b.1.1.b b.1.2 b.2))
def VD (aB:bL)(x0:Int)(x1:Int)(x2:Int)(x3:Int)(x4:Bool):Pg ahl:=opt (aB x0 x3 30 x4) λd=>opt (aB x1 x3 30 d.2) λaj=>opt (aB x2 x3 30 aj.2) λaC=>ret ((d.1,aj.1,aC.1),aC.2)
def uZ:=λx0 x1 x2 x3 x4=>(VD aX x0 x1 x2 x3 x4).val
theorem aLH:∀aB,D0 [fO aB] 157 av7 (lf acP) λb=>VD aB b.1.1.1 b.1.1.2.1 b.1.1.b b.1.2 b.2:=λ_ b=>by kernel_rfl
theorem ahm [ax]:SC (VC uZ):=s0 (.c gx (.nil _)) (aLH aX)
def arI:=qa (dp (cu aQ ax2) λa=>(c xV (cl (cl (gs a.1 oT) nil) nil)))
def Xv:=qe aKL
abbrev arJ:=Xv.B
abbrev Af:=Nat->Bool->NI->Bool->Option arJ
def Ii (g:Af):Ct:=(135,vN 1 [.i .i64] (FC arI (lf Xv) (λb=>g b.1.1 b.2.1 b.b b.1.2)))
def wi:=qs (st (pr (cu aQ (us 4 (cu aAd (us 6 (c H6 (c ai (cl ai (us 19 nil)))))))) (pl (c cG (c JE ab2)) cQ)))
def ajr:=qs (st (pr (cu aQ (us 4 (cu aAd (us 6 (c H6 (c ai (c ai (cl ab (us 18 nil))))))))) (pl (c cG (c JE ab2)) cQ)))
abbrev I6:=ajr.B
def ajs {ρ:Type}:=@ef I6 ((.ex 0)) ajr ρ
def Dp (aw:bQ)(cW:oU)(yX:tv)(d:wi.B):PL wi I6:=let y0:=decide (d.1.2.2<d.1.2.1);ae y0 (ae (bk d.1.2.2 d.1.1.1) (opt (aw (d.2.2.1.2 (ws d.1.2.2)) d.2.1) λaj=>opt (cW aj.1 aj.1) λaC=>opt (yX 2 (λj=>bif ww j 1 then aC.1 else bif ww j 0 then d.2.2.2.1 else d.2.2.2.1) (λj=>bif ww j 1 then aC.2 else bif ww j 0 then d.2.2.2.2 else d.2.2.2.2) true) λbC=>ret (wr ((d.1.1,d.1.2.1,wI (d.1.2.2+1)),aj.2,d.2.2.1,bC.1))) no) (ret (wn ((d.1.1,d.1.2.1,d.1.2.2,y0),d.2)))
def TA:=bj (Dp aM fY kU) 2000
def acQ (K6:aaH)(eI:LT wi I6)(x0:Nat)(x1:Bool)(x2:Nat->Int)(w0:Bool):Pg arJ:=let y0:=if 64<wl x0 then 64 else wl x0;let y1:=ws y0;ae (K0 y0 x0) (opt (eI (((y1,w0&&false),wl y1,0),x1,(x0,x2),0,0)) λd=>opt (K6 d.2.2.2.1 d.2.2.2.2 d.2.1) λd=>ret d) no
def fa:=λx0 x1 x2 w0=>(acQ yV TA x0 x1 x2 w0).val
abbrev QX:=bQ×oU×tv×aaH×(LT wi I6)
def acR (p:QX):KK:=⟨[dG p.1,yQ p.2.1,K9 p.b.1,amu p.b.2.1],⟨[⟨3,(rg 1 4 (rg 6 6 (rg 15 19 []))),[]⟩],[gv 3 2 wi ajs p.c],[0],[],(some ⟨0,(rg 0 4 (rg 5 29 [])),[]⟩)⟩,2,135⟩
theorem ay0 (p:QX):LI (acR p) 3 wi ajs (Dp p.1 p.2.1 p.b.1):=λ_ d c K=>by kernel_rfl
theorem aHY (p:QX):D2 (acR p) arI (lf Xv) λb=>acQ p.b.2.1 p.c b.1.1 b.2.1 b.b b.1.2:=λb=>by kernel_rfl
abbrev acS:QX:=(aM,fY,kU,yV,TA)
theorem QY [ax]:SC (Ii fa):=sc (Sound.nil 1 [.i .i64]<|kS (k:=acR acS) (.c dN (.c BT (.c RM (.c aAT (.nil _))))) [3] [] ⟨kL (ay0 acS),trivial⟩ trivial (aHY acS))
def aA2:=qa (pr (cu aQ Hp) bF)
def ahn:=qe ry
abbrev aA3:=ahn.B
abbrev BV:=Int->Int->Int->Bool->Option aA3
def RQ (g:BV):Ct:=(158,FC aA2 (lf ahn) (λb=>g b.1.1 b.1.2.1 b.1.b b.2))
def amG (kM:Af)(x0:Int)(x1:Int)(x2:Int)(x3:Bool):Pg aA3:=opt (kM 3 x3 (cr x0 [x2,x1,x0]) false) λd=>ret d
def mi:=λx0 x1 x2 x3=>(amG fa x0 x1 x2 x3).val
theorem aPf:∀kM,D0 [Ii kM] 158 aA2 (lf ahn) λb=>amG kM b.1.1 b.1.2.1 b.1.b b.2:=λ_ b=>by kernel_rfl
theorem aaO [ax]:SC (RQ mi):=s0 (.c QY (.nil _)) (aPf fa)
def aF2:=qa (pr (cu aQ Hp) bF)
def amH:=qe aya
abbrev aF3:=amH.B
abbrev O6:=Int->Int->Int->Bool->Option aF3
def aho (g:O6):Ct:=(211,FC aF2 (lf amH) (λb=>g b.1.1 b.1.2.1 b.1.b b.2))
def atV (aw:bQ)(x0:Int)(x1:Int)(x2:Int)(x3:Bool):Pg aF3:=opt (aw x0 x3) λd=>opt (aw x1 d.2) λaj=>opt (aw x2 aj.2) λaC=>ret ((d.1,aj.1,aC.1),aC.2)
def uy:=λx0 x1 x2 x3=>(atV aM x0 x1 x2 x3).val
theorem aSK:∀aw,D0 [dG aw] 211 aF2 (lf amH) λb=>atV aw b.1.1 b.1.2.1 b.1.b b.2:=λ_ b=>by kernel_rfl
theorem atW [ax]:SC (aho uy):=s0 (.c dN (.nil _)) (aSK aM)
def aA4:=qa (pr (cu aQ atl) bF)
def ahp:=qe ayb
abbrev aA5:=ahp.B
abbrev RR:=Int->Int->Int->Int->Bool->Option aA5
def aaP (g:RR):Ct:=(134,FC aA4 (lf ahp) (λb=>g b.1.1 b.1.2.1 b.1.b.1 b.1.b.2 b.2))
def tx:=qs (st (pr (cu aQ (us 2 (cu aqQ (cu aAe (us 1 aWs))))) (pl (c cG (cl xY (cu alC nil))) cQ)))
def arK:=qs (st (pr (cu aQ (us 2 (cu aqQ (cu aAe (us 1 (c ai (cl ab (us 10 nil)))))))) (pl (c cG (cl xY (cu alC nil))) cQ)))
abbrev Ij:=arK.B
def arL {ρ:Type}:=@ef Ij ((.ex 0)) arK ρ
def acT (aw:bQ)(d:tx.B):PL tx Ij:=let n1:=d.2.2;let n3:=n1.2.1;let n2:=n1.2.2;let y0:=bk d.1 4;let y1:=d.1==3;let y2:=d.1==2;let y3:=d.1==1;let y4:=wI (d.1+1);let y5:=decide (d.1<4);ae y5 (ae y0 (ae y1 (opt (aw n2.2 d.2.1) λaj=>ae y0 (ae y1 (ret (wr (y4,aj.2,n1.1,n3,n2.1,aj.1))) (ae y2 (ret (wr (y4,aj.2,n1.1,n3,aj.1,n2.2))) (ae y3 (ret (wr (y4,aj.2,n1.1,aj.1,n2))) (ret (wr (y4,aj.2,aj.1,n1.2)))))) no) (ae y2 (opt (aw n2.1 d.2.1) λaj=>ae y0 (ae y1 (ret (wr (y4,aj.2,n1.1,n3,n2.1,aj.1))) (ae y2 (ret (wr (y4,aj.2,n1.1,n3,aj.1,n2.2))) (ae y3 (ret (wr (y4,aj.2,n1.1,aj.1,n2))) (ret (wr (y4,aj.2,aj.1,n1.2)))))) no) (ae y3 (opt (aw n3 d.2.1) λaj=>ae y0 (ae y1 (ret (wr (y4,aj.2,n1.1,n3,n2.1,aj.1))) (ae y2 (ret (wr (y4,aj.2,n1.1,n3,aj.1,n2.2))) (ae y3 (ret (wr (y4,aj.2,n1.1,aj.1,n2))) (ret (wr (y4,aj.2,aj.1,n1.2)))))) no) (opt (aw n1.1 d.2.1) λaj=>ae y0 (ae y1 (ret (wr (y4,aj.2,n1.1,n3,n2.1,aj.1))) (ae y2 (ret (wr (y4,aj.2,n1.1,n3,aj.1,n2.2))) (ae y3 (ret (wr (y4,aj.2,n1.1,aj.1,n2))) (ret (wr (y4,aj.2,aj.1,n1.2)))))) no)))) no) (ret (wn ((d.1,y5),d.2)))
def acU:=bj (acT aM) 2000
def amI (eI:LT tx Ij)(x0:Int)(x1:Int)(x2:Int)(x3:Int)(x4:Bool):Pg aA5:=opt (eI (0,x4,x0,x1,x2,x3)) λd=>ret (d.2.2,d.2.1)
def tz:=λx0 x1 x2 x3 x4=>(amI acU x0 x1 x2 x3 x4).val
abbrev aaQ:=bQ×(LT tx Ij)
def amJ (p:aaQ):KK:=⟨[dG p.1],⟨[⟨2,(1::2::5::rg 7 11 []),[]⟩],[gv 2 1 tx arL p.2],[0],[],(some ⟨0,(rg 0 4 (rg 5 13 [])),[]⟩)⟩,1,134⟩
theorem aF4 (p:aaQ):LI (amJ p) 2 tx arL (acT p.1):=λ_ d c K=>by kernel_rfl
theorem aPg (p:aaQ):D2 (amJ p) aA4 (lf ahp) λb=>amI p.2 b.1.1 b.1.2.1 b.1.b.1 b.1.b.2 b.2:=λb=>by kernel_rfl
abbrev amK:aaQ:=(aM,acU)
theorem amL [ax]:SC (aaP tz):=sc (kS (k:=amJ amK) (.c dN (.nil _)) [2] [] ⟨kL (aF4 amK),trivial⟩ trivial (aPg amK))
def aA6:=qa (pu nil nil)
def ahq:=qe (res (pu (aa (cu atf atn)) (pu nil nil)))
abbrev amM:=ahq.B
abbrev BW:=Option amM
def Lc (g:BW):Ct:=(84,FC aA6 (lf ahq) (λ_=>g))
def amN:Pg amM:=ret ()
def jV:Option amM:=(amN).val
theorem aPh:D0 [] 84 aA6 (lf ahq) λb=>amN:=λb=>by kernel_rfl
theorem RT [ax]:SC (Lc jV):=s0 (.nil _) aPh
def av8:=qa (pl atl nil)
def acV:=qe aXi
abbrev av9:=acV.B
abbrev Mr:=Int->Int->Int->Int->Option av9
def ahr (g:Mr):Ct:=(182,FC av8 (lf acV) (λb=>g b.1 b.2.1 b.b.1 b.b.2))
def ahs (qK:RR)(x0:Int)(x1:Int)(x2:Int)(x3:Int):Pg av9:=opt (qK x0 x1 x2 x3 false) λd=>ret (d.1.1,wI (0-d.1.2.1),wI (0-d.1.2.2.1),wI (0-d.1.2.2.2))
def vf:=λx0 x1 x2 x3=>(ahs tz x0 x1 x2 x3).val
theorem aLI:∀qK,D0 [aaP qK] 182 av8 (lf acV) λb=>ahs qK b.1 b.2.1 b.b.1 b.b.2:=λ_ b=>by kernel_rfl
theorem awa [ax]:SC (ahr vf):=s0 (.c amL (.nil _)) (aLI tz)
def arM:=qa (pl agj nil)
def Xw:=qe aXc
abbrev arN:=Xw.B
abbrev mL:=NI->Int->Option arN
def sG (g:mL):Ct:=(154,FC arM (lf Xw) (λb=>g b.1 b.2))
def oW:=qs (st (pr (us 1 (c ai (cu aAf (us 1 (cu aNS (cu aac (us 2 aQ2))))))) (pl (c oI alD) nil)))
def ajt:=qs (st (pr (us 1 (c ai (cu aAf (us 1 (cu aNS (cu aac (us 2 aKx))))))) (pl (c oI alD) nil)))
abbrev Dq:=ajt.B
def aju {ρ:Type}:=@ef Dq ((.ex 0)) ajt ρ
def TB (d:oW.B):PL oW Dq:=let n4:=d.2.2;let n3:=d.2.1;let n2:=d.1.1;let n1:=d.1.2;let y0:=wI (n2+n1);let y1:=decide (n1<3);ae y1 (ae (decide (y0>=0)) (ae (decide (y0<24)) (ae (bk y0 24) (ae (bk n1 3) (ae (n1==2) (ret (wr ((n2,wI (n1+1)),n3,n4.1,n4.2.1,n3 (ws y0)))) (ae (n1==1) (ret (wr ((n2,wI (n1+1)),n3,n4.1,n3 (ws y0),n4.2.2))) (ret (wr ((n2,wI (n1+1)),n3,n3 (ws y0),n4.2))))) no) no) (ret (wr ((n2,wI (n1+1)),d.2)))) (ret (wr ((n2,wI (n1+1)),d.2)))) (ret (wn ((n2,n1,y1),d.2)))
def TC:=bj (TB) 2000
def acW (eI:LT oW Dq)(x0:Nat->Int)(x1:Int):Pg arN:=opt (eI ((x1,0),x0,0,0,0)) λd=>ret d.2.2
def cM:=λx0 x1=>(acW TC x0 x1).val
abbrev QZ:=(LT oW Dq)
def acX (p:QZ):KK:=⟨[],⟨[⟨3,(0::3::6::7::rg 9 8 (rg 19 8 [17,18])),[]⟩],[gv 3 0 oW aju p],[],[],(some ⟨0,(rg 0 4 (rg 5 22 [])),[]⟩)⟩,0,154⟩
theorem ay1 (p:QZ):LI (acX p) 3 oW aju (TB):=λ_ d c K=>by kernel_rfl
theorem aHZ (p:QZ):D2 (acX p) arM (lf Xw) λb=>acW p b.1 b.2:=λb=>by kernel_rfl
abbrev acY:QZ:=TC
theorem vQ [ax]:SC (sG cM):=sc (kS (k:=acX acY) (.nil _) [3] [] ⟨kL (ay1 acY),trivial⟩ trivial (aHZ acY))
def arO:=qa (dp (c mc aWW) λa=>(cl (cl (gs a.b.1 oT) nil) nil))
def Xx:=qe aXj
abbrev acZ:=Xx.B
abbrev Ag:=NI->Int->Nat->NI->Bool->Option acZ
def DY (g:Ag):Ct:=(32,vN 2 [.i .i64] (FC arO (lf Xx) (λb=>g b.1.1 b.1.2.1 b.1.b.1 b.2 b.1.b.2)))
def oX:=qs (st (dp (us 1 (c ai (c JB (cu US (us 2 (cu EA (us 3 (c JB (c ai aQ2))))))))) λa=>(pl (c (so (cl (gs a.2.1.1 oT) nil)) OC) nil)))
def aCJ:=qs (st (pr (us 1 (c ai (c JB (cu US (us 2 (cu EA (us 3 (c JB (c ai aKx))))))))) (pl (c JE OC) nil)))
abbrev Dr:=(aWj×NI×NI×NI)
def ajv {ρ:Type}(x:Dr)(K:AX->St->Option ρ):Option ρ:=(λd=>K (.ex 0) (aCJ.em (d.1,(d.1.2.1.1,d.2.1),d.b))) x
def TD (d:oX.B):PL oX Dr:=let n2:=d.1.2.2;let n3:=n2.2.2;let n1:=(d.1.1,d.1.2.1,n2.1,n2.2.1,wI (n3+1));let y0:=wI (d.1.1+n3);let y1:=ws y0;let y2:=decide (n3<n2.2.1);ae y2 (ae (bk n3 n2.1.1) (ae (decide (y0>=0)) (ae (decide (y0<24)) (ae (bk y0 24) (ae (true&&wd (0+y1*1+1) 24) (ret (wr (n1,d.2.1,λj=>bif ww j y1 then d.2.1 (ws n3) else d.2.2.1 j,d.2.2.2))) no) no) (ret (wr (n1,d.2)))) (ret (wr (n1,d.2)))) no) (ret (wn ((d.1.1,d.1.2.1,n2.1,n2.2.1,n3,y2),d.2)))
def TE:=bj (TD) 2000
def ac0 (eI:LT oX Dr)(x0:Nat->Int)(x1:Int)(x2:Nat)(x3:Nat->Int)(w0:Bool):Pg acZ:=ae (ww x2 x2) (opt (eI ((x1,(x2,w0),(x2,w0),wl x2,0),x3,x0,λx=>0)) λd=>ret d.2.2.1) no
def fe:=λx0 x1 x2 x3 w0=>(ac0 TE x0 x1 x2 x3 w0).val
abbrev Q3:=(LT oX Dr)
def ac1 (p:Q3):KK:=⟨[],⟨[⟨2,(0::4::5::7::8::9::rg 13 10 (rg 25 6 [23,24])),[]⟩],[gv 2 1 oX ajv p],[],[],(some ⟨0,(rg 0 6 (rg 7 24 [])),[]⟩)⟩,1,32⟩
theorem ay2 (p:Q3):LI (ac1 p) 2 oX ajv (TD):=λ_ d c K=>by kernel_rfl
theorem aH0 (p:Q3):D2 (ac1 p) arO (lf Xx) λb=>ac0 p b.1.1 b.1.2.1 b.1.b.1 b.2 b.1.b.2:=λb=>by kernel_rfl
abbrev ac2:Q3:=TE
theorem Ik [ax]:SC (DY fe):=sc (Sound.nil 2 [.i .i64]<|kS (k:=ac1 ac2) (.nil _) [2] [] ⟨kL (ay2 ac2),trivial⟩ trivial (aH0 ac2))
end Go.Proofs.YtldgljclcgaibaaGreat
