/-
  Parts of the proof: SLB SLC SLD SLE SLF SLH Q1
-/
import Derived.Test.YtldgljclcgaibaaGreatZAE
import Derived.Shelf.Spec.SlicesInsertGrow
set_option linter.unusedVariables false
set_option linter.unusedSimpArgs false
namespace Go.Proofs.YtldgljclcgaibaaGreat
open Go.RowKit Go.Lib Go.Ab
theorem XC {P:Program}(w:World)(dT sT ty e:TypeId)(z b o aNm aWG:Nat)(a:Addr)(aIR aUF:Nat)(cs:List Value)(hu:P.underlying dT=some (.slice e))(hz:gJ P e=some z)(hn:cs.length=Nat.min aIR aNm*z)
  (aWH:∀j v,cs[j]? =some v->w.cell? (a.add j)=some v)(hc:∀j,j<cs.length->(w.cell? ⟨b,o+j,none⟩).isSome=true)(hf:∀j,j<cs.length->w.frozen? ⟨b,o+j,none⟩=false)(h1:∀v∈cs,v.oneCell'=true):
  (Builtin.copy_ #[dT,sT] ty #[.slice (some ⟨b,o,none⟩) aNm aWG,.slice (some a) aIR aUF]).run P w=.ok (goInt (Nat.min aIR aNm)) (w.setCells b o cs):=by
 have hl:=run_firstCells_some (P:=P) w z (Nat.min aIR aNm) a aIR aUF cs hn aWH
 have hst:=run_storeCells_cells (P:=P) b o cs 0 w (by simpa using hc) (by simpa using hf) h1
 simp[Builtin.copy_,run_underlying hu,Builtin.lenOf,Ab.run_sizeOf hz,hl,hst]
theorem uT:Tryz.prog.underlying 140=some (.slice 42):=by kernel_rfl
theorem uE:gJ Tryz.prog 42=some 9:=by kernel_rfl
set_option maxHeartbeats 4000000 in
set_option maxRecDepth 100000 in
theorem aLX (b off n c i vb AJ vc:Nat)(cs vs:List Value)(w:World)(hi:i<n)(P3:n+1<=c)(hvb:vb=b->AJ+9<=off∨off+(n+1)*9<=AJ)(BE:cs.length=n*9)(hvl:vs.length=9)(aYs:n+1<=9223372036854775807)
  (HA:∀j v,cs[j]? =some v->w.cell? ⟨b,off+j,none⟩=some v)(hsp:∀j,j<(n+1)*9->(w.cell? ⟨b,off+j,none⟩).isSome=true)(hfz:∀j,j<(n+1)*9->w.frozen? ⟨b,off+j,none⟩=false)
  (hvs:∀j v,vs[j]? =some v->w.cell? ⟨vb,AJ+j,none⟩=some v)(h1c:∀v∈cs,v.oneCell'=true)(h1v:∀v∈vs,v.oneCell'=true)
  (hov:∀cb,(callFunc 145 #[.slice (some ⟨vb,AJ,none⟩) 1 vc,.slice (some ⟨b,off+(i+1)*9,none⟩) (n-i) cb]).run Tryz.prog w=.ok (.value (.bool false)) w):
  Calls Tryz.prog 97 #[.slice (some ⟨b,off,none⟩) n c,.int .i64 i,.slice (some ⟨vb,AJ,none⟩) 1 vc] w λe w'=>
   e=.returned (.slice (some ⟨b,off,none⟩) (n+1) c)∧w'=(w.drew.setCells b (off+(i+1)*9) (cs.drop (i*9))).setCells b (off+i*9) vs:=by
 have mixed:=mixed
 have hz2:¬((i:Int)=(n:Int)):=by omega
 have hdl:(cs.drop (i*9)).length=(n-i)*9:=by rw[List.length_drop,BE];omega
 have hw1:IntKind.i64.wrap ((i:Int)+1)=(i:Int)+1:=by rw[IntKind.wrap_i64];omega
 have hw2:IntKind.i64.wrap ((n:Int)+1)=(n:Int)+1:=by rw[IntKind.wrap_i64];omega
 have hb1:(0:Int)<=(i:Int)+1:=by omega
 have hin:i<=n:=by omega
 have htn:((i:Int)+1).toNat=i+1:=by omega
 have CF:¬(c=i+1):=by omega
 have hb3:(i:Int)<=(n:Int)+1:=by omega
 have hb4:¬(c=i):=by omega
 have hb5:¬((c:Int)<(n:Int)+1):=by omega
 have aUG:∀ty dc sc,(Builtin.copy_ #[140,140] ty #[.slice (some ⟨b,off+(i+1)*9,none⟩) (n-i) dc,.slice (some ⟨b,off+i*9,none⟩) (n+1-i) sc]).run Tryz.prog w.drew=.ok (goInt (Nat.min (n+1-i) (n-i))) (w.drew.setCells b (off+(i+1)*9) (cs.drop (i*9))):=λty dc sc=>
  XC w.drew _ _ ty 42 9 b (off+(i+1)*9) (n-i) dc ⟨b,off+i*9,none⟩ (n+1-i) sc (cs.drop (i*9)) uT uE (by rw[hdl];simp only[Nat.min_def];split<;>omega)
   (λj v hj=>by rw[Addr.add_lit,Nat.add_assoc];exact HA (i*9+j) v (by rwa [List.getElem?_drop] at hj))
   (λj hj=>by rw[Nat.add_assoc];exact hsp _ (by omega)) (λj hj=>by rw[Nat.add_assoc];exact hfz _ (by omega)) (λv hv=>h1c v (List.mem_of_mem_drop hv))
 obtain⟨W1,hW1⟩:∃W1,W1=w.drew.setCells b (off+(i+1)*9) (cs.drop (i*9)):=⟨_,rfl⟩
 have aWI:∀k,k<(n+1)*9->(W1.cell? ⟨b,off+k,none⟩).isSome=true:=λk hk=>by
  rw[hW1]
  exact Go.Proofs.isSome_setCells b _ _ _ (λj hj=>by rw[Nat.add_assoc];exact hsp _ (by omega)) _ (hsp k hk)
 have aWJ:∀(W:World),(∀x,W.cell? x=W1.cell? x)->(∀x,W.frozen? x=W1.frozen? x)->∀ty dc,(Builtin.copy_ #[140,140] ty #[.slice (some ⟨b,off+i*9,none⟩) (n+1-i) dc,.slice (some ⟨vb,AJ,none⟩) 1 vc]).run Tryz.prog W=.ok (goInt (Nat.min 1 (n+1-i))) (W.setCells b (off+i*9) vs):=λW hWc hWf ty dc=>
  XC W _ _ ty 42 9 b (off+i*9) (n+1-i) dc ⟨vb,AJ,none⟩ 1 vc vs uT uE (by rw[hvl];simp only[Nat.min_def];split<;>omega)
   (λj v hj=>by
    have hj9:=(List.getElem?_eq_some_iff.1 hj).1
    rw[Addr.add_lit,hWc,hW1,World.cell?_setCells_out b _ _ _ _ (λh _=>by
     have:=hvb h
     show AJ+j<_∨_<=AJ+j
     omega)]
    exact hvs j v hj)
   (λj hj=>by rw[hWc,Nat.add_assoc];exact aWI _ (by omega)) (λj hj=>by rw[hWf,hW1,World.frozen?_setCells,Nat.add_assoc];exact hfz _ (by omega)) h1v
 rw[<-hW1] at aUG
 go_enter Tryz.func97,Tryz.ntmps97
 go_wp2_with (simp only[hov])
 go_region_law_o (refine step_copy_runI rfl _ _ 140 140 rfl _ _ (by simp[Act.eval,Act.put]) (by simp[Act.eval,Act.put]) (aUG _ _ _) ?_)
 go_wp2_with (at_builtin;refine wpList_copy_runI _ rfl _ _ 140 140 rfl _ _ rfl rfl (aWJ _ (λ_=>rfl) (λ_=>rfl) _ _) ?_)
 go_ret
 first|exact⟨rfl,rfl⟩|exact⟨rfl,by rw[hW1]⟩
set_option maxHeartbeats 4000000 in
set_option maxRecDepth 100000 in
theorem aIS (base:Option Addr)(n c vb AJ vc:Nat)(w w2:World)(v2:Value)
  (hrz:∀ty,(Builtin.append_ #[140,140] ty #[.slice base n c,.slice (some ⟨vb,AJ,none⟩) 1 vc]).run Tryz.prog w=.ok v2 w2):
  Calls Tryz.prog 97 #[.slice base n c,.int .i64 n,.slice (some ⟨vb,AJ,none⟩) 1 vc] w λe w'=>e=.returned v2∧w'=w2:=by
 have mixed:=mixed
 go_enter Tryz.func97,Tryz.ntmps97
 go_wp2_with (at_builtin;refine Lib.wpList_append_run _ rfl _ _ _ _ rfl _ _ rfl rfl _ _ (hrz _) ?_)
 all_goals (go_ret;exact⟨rfl,rfl⟩)
theorem iE:∃i z,Tryz.prog.info? 42=some i∧i.zero=some z∧i.size=9∧i.bytes=72∧z.cells.size=9:=by
 have h:(Tryz.prog.info? 42).map (λi=>(i.size,i.bytes,(i.zero.map λz=>z.cells.size)))=some (9,72,some 9):=by kernel_rfl
 cases hi:Tryz.prog.info? 42 with
 |none=>rw[hi] at h;cases h
 |some i=>
  rw[hi] at h
  simp only[Option.map_some,Option.some.injEq,Prod.mk.injEq] at h
  obtain⟨h1,h2,h3⟩:=h
  cases hz:i.zero with
  |none=>rw[hz] at h3;cases h3
  |some z=>rw[hz] at h3;exact⟨i,z,rfl,hz,h1,h2,by simpa using h3⟩
theorem uI:Tryz.prog.underlying 3=some (.int .i64):=by kernel_rfl
set_option maxHeartbeats 4000000 in
set_option maxRecDepth 100000 in
theorem aOa (b off n c i vb AJ vc:Nat)(cs vs:List Value)(w:World)(hi:i<n)(hnc:n<=c)(P3:c<n+1)(awm:(n+1)*72<=140737488355328)(BE:cs.length=n*9)(hvl:vs.length=9)
  (HA:∀j v,cs[j]? =some v->w.cell? ⟨b,off+j,none⟩=some v)(hvs:∀j v,vs[j]? =some v->w.cell? ⟨vb,AJ+j,none⟩=some v)(h1c:∀v∈cs,v.oneCell'=true)(h1v:∀v∈vs,v.oneCell'=true):
  ∃G AK,n+1<=G∧AK.size=G*9∧(∀j v,j<i*9->cs[j]? =some v->AK[j]? =some v)∧
  Calls Tryz.prog 97 #[.slice (some ⟨b,off,none⟩) n c,.int .i64 i,.slice (some ⟨vb,AJ,none⟩) 1 vc] w λe w'=>
   e=.returned (.slice (some ⟨w.heap.size,0,none⟩) (n+1) G)∧
   w'=(((w.alloc (.cells AK 42)).drew.setCells w.heap.size (i*9) vs).drew).setCells w.heap.size ((i+1)*9) (cs.drop (i*9)):=by
 have mixed:=mixed
 obtain⟨i0,z0,hi0,Li,hzs,hzb,hzl⟩:=iE
 have hz2:¬((i:Int)=(n:Int)):=by omega
 have hz3:(c:Int)<(n:Int)+1:=by omega
 have hbw:b<w.heap.size:=block_lt_of_cell (HA 0 _ (List.getElem?_eq_getElem (by omega)))
 have hvw:vb<w.heap.size:=block_lt_of_cell (hvs 0 _ (List.getElem?_eq_getElem (by omega)))
 have hkk:(n:Int)+1-(i:Int)=((n+1-i:Nat):Int):=by omega
 have hik:i+(n+1-i)=n+1:=by omega
 have htl:(cs.take (i*9)).length=i*9:=by rw[List.length_take];omega
 have hold:(Builtin.firstCells i0.size i (.slice (some ⟨b,off,none⟩) i c)).run Tryz.prog w.drew=.ok (cs.take (i*9)).toArray w.drew:=by
  rw[hzs]
  exact run_firstCells_some w.drew 9 i ⟨b,off,none⟩ i c (cs.take (i*9)) htl (λj v hj=>by
   rw[Addr.add_lit]
   rw[List.getElem?_take] at hj
   split at hj
   ·exact HA j v hj
   ·cases hj)
 have hrz:∀ty,(Builtin.append_ #[140,3] ty #[.slice (some ⟨b,off,none⟩) i c,.int .i64 ((n:Int)+1-(i:Int))]).run Tryz.prog w=
   .ok (.slice (some ⟨w.heap.size,0,none⟩) (n+1) (grownCap w (n+1) c 42)) (w.drew.alloc (.cells ((cs.take (i*9)).toArray++Builtin.zeroCells z0.cells (n+1-i)++Builtin.zeroCells z0.cells (grownCap w (n+1) c 42-(n+1))) 42)):=λty=>by
  have h:=Lib.run_append_grow_zeros w 140 3 ty 42 i0 _ .i64 .i64 uT uI hi0 Li (some ⟨b,off,none⟩) i c (cs.take (i*9)) hold (n+1-i) (by omega) (by omega) (by omega) (by omega) (by rw[hzb];omega) (by rw[hzb,hik];exact growslice_fits P3 awm)
  rw[hik] at h
  rw[hkk]
  exact h
 have hGn:n+1<=grownCap w (n+1) c 42:=grownCap_ge w _ _ _
 obtain⟨G,hG⟩:∃G,G=grownCap w (n+1) c 42:=⟨_,rfl⟩
 obtain⟨AK,aNn⟩:∃AK:Array Value,AK=(cs.take (i*9)).toArray++Builtin.zeroCells z0.cells (n+1-i)++Builtin.zeroCells z0.cells (G-(n+1)):=⟨_,rfl⟩
 rw[<-hG] at hrz hGn
 rw[<-aNn] at hrz
 have hRs:AK.size=G*9:=by
  rw[aNn]
  simp only[Array.size_append,List.size_toArray,htl,size_zeroCells,hzl]
  omega
 refine⟨G,AK,hGn,hRs,λj v hj hv=> ?_,?_⟩
 ·rw[aNn,Array.getElem?_append_left (by simp[htl];omega),Array.getElem?_append_left (by simp[htl];omega)]
  simp only[List.getElem?_toArray]
  rw[List.getElem?_take,if_pos hj];exact hv
 have hRl:(n+1)*9<=AK.size:=by rw[hRs];exact Nat.mul_le_mul_right _ hGn
 obtain⟨W1,hW1⟩:∃W1,W1=w.drew.alloc (.cells AK 42):=⟨_,rfl⟩
 rw[<-hW1] at hrz
 have hN:∀j,j<(n+1)*9->(W1.cell? ⟨w.heap.size,j,none⟩).isSome=true:=λj hj=>by
  rw[hW1,World.cell?_alloc_at (w:=w.drew) AK _ w.heap.size j rfl,Array.getElem?_eq_getElem (by omega)];rfl
 have hNf:∀j,W1.frozen? ⟨w.heap.size,j,none⟩=false:=λj=>by rw[hW1];exact World.frozen?_alloc_at (w:=w.drew) AK _ w.heap.size j rfl
 have hOb:∀j v,w.cell? ⟨b,j,none⟩=some v->W1.cell? ⟨b,j,none⟩=some v:=λj v h=>by rw[hW1,World.cell?_alloc_past (w:=w.drew) _ b j hbw];exact h
 have hOv:∀j v,w.cell? ⟨vb,j,none⟩=some v->W1.cell? ⟨vb,j,none⟩=some v:=λj v h=>by rw[hW1,World.cell?_alloc_past (w:=w.drew) _ vb j hvw];exact h
 have aWK:∀(W:World),(∀x,W.cell? x=W1.cell? x)->(∀x,W.frozen? x=W1.frozen? x)->∀ty dc,(Builtin.copy_ #[140,140] ty #[.slice (some ⟨w.heap.size,i*9,none⟩) (n+1-i) dc,.slice (some ⟨vb,AJ,none⟩) 1 vc]).run Tryz.prog W=.ok (goInt (Nat.min 1 (n+1-i))) (W.setCells w.heap.size (i*9) vs):=λW hWc hWf ty dc=>
  XC W _ _ ty 42 9 w.heap.size (i*9) (n+1-i) dc ⟨vb,AJ,none⟩ 1 vc vs uT uE (by rw[hvl];simp only[Nat.min_def];split<;>omega)
   (λj v hj=>by rw[Addr.add_lit,hWc];exact hOv _ v (hvs j v hj))
   (λj hj=>by rw[hWc];exact hN _ (by omega)) (λj hj=>by rw[hWf];exact hNf _) h1v
 have hGi:¬(G=i):=by omega
 have aYt:¬(G=i+1):=by omega
 have hci:¬(c=i):=by omega
 have hbN:b≠w.heap.size:=by omega
 have hdl:(cs.drop (i*9)).length=(n-i)*9:=by rw[List.length_drop,BE];omega
 have aUH:∀(W:World),(∀x,W.cell? x=(W1.setCells w.heap.size (i*9) vs).cell? x)->(∀x,W.frozen? x=(W1.setCells w.heap.size (i*9) vs).frozen? x)->∀ty dc sc,(Builtin.copy_ #[140,140] ty #[.slice (some ⟨w.heap.size,(i+1)*9,none⟩) (n-i) dc,.slice (some ⟨b,off+i*9,none⟩) (n-i) sc]).run Tryz.prog W=.ok (goInt (Nat.min (n-i) (n-i))) (W.setCells w.heap.size ((i+1)*9) (cs.drop (i*9))):=λW hWc hWf ty dc sc=>
  XC W _ _ ty 42 9 w.heap.size ((i+1)*9) (n-i) dc ⟨b,off+i*9,none⟩ (n-i) sc (cs.drop (i*9)) uT uE (by rw[hdl];simp only[Nat.min_def];split<;>omega)
   (λj v hj=>by
    rw[Addr.add_lit,hWc,World.cell?_setCells_out _ _ _ _ _ (λh _=>absurd h hbN),Nat.add_assoc]
    exact hOb _ v (HA (i*9+j) v (by rwa [List.getElem?_drop] at hj)))
   (λj hj=>by rw[hWc];exact Go.Proofs.isSome_setCells _ _ _ _ (λt ht=>hN _ (by omega)) _ (hN _ (by omega)))
   (λj hj=>by rw[hWf,World.frozen?_setCells];exact hNf _) (λv hv=>h1c v (List.mem_of_mem_drop hv))
 subst hW1
 have hE1:∀x,((w.alloc (.cells AK 42)).drew).cell? x=(w.drew.alloc (.cells AK 42)).cell? x:=λx=>rfl
 have hE2:∀x,((w.alloc (.cells AK 42)).drew).frozen? x=(w.drew.alloc (.cells AK 42)).frozen? x:=λx=>rfl
 have hF1:∀x,(((w.alloc (.cells AK 42)).drew.setCells w.heap.size (i*9) vs).drew).cell? x=((w.drew.alloc (.cells AK 42)).setCells w.heap.size (i*9) vs).cell? x:=λx=>rfl
 have hF2:∀x,(((w.alloc (.cells AK 42)).drew.setCells w.heap.size (i*9) vs).drew).frozen? x=((w.drew.alloc (.cells AK 42)).setCells w.heap.size (i*9) vs).frozen? x:=λx=>rfl
 have hw1:IntKind.i64.wrap ((i:Int)+1)=(i:Int)+1:=by rw[IntKind.wrap_i64];omega
 have hw2:IntKind.i64.wrap ((n:Int)+1)=(n:Int)+1:=by rw[IntKind.wrap_i64];omega
 have hw3:IntKind.i64.wrap ((n:Int)+1-(i:Int))=(n:Int)+1-(i:Int):=by rw[IntKind.wrap_i64];omega
 have hb1:(0:Int)<=(i:Int)+1:=by omega
 have hin:i<=n:=by omega
 have htn:((i:Int)+1).toNat=i+1:=by omega
 have hb3:(i:Int)<=(n:Int):=by omega
 clear hkk hik hold aNn hG hRl hRs
 go_enter Tryz.func97,Tryz.ntmps97
 go_wp2_with (first
  |(at_builtin;refine Lib.wpList_append_run _ rfl _ _ _ _ rfl _ _ rfl rfl _ _ (hrz _) ?_)
  |(at_builtin;refine wpList_copy_runI _ rfl _ _ 140 140 rfl _ _ rfl rfl (aWK _ hE1 hE2 _ _) ?_)
  |(at_builtin;refine wpList_copy_runI _ rfl _ _ 140 140 rfl _ _ rfl rfl (aUH _ (λ_=>rfl) (λ_=>rfl) _ _ _) ?_))
 go_region_law_o (refine step_copy_runI rfl _ _ 140 140 rfl (.slice (some ⟨w.heap.size,(i+1)*9,none⟩) (n-i) (G-(i+1))) (.slice (some ⟨b,off+i*9,none⟩) (n-i) (c-i)) (by simp[Act.eval,Act.put]) (by simp[Act.eval,Act.put]) (aUH _ hF1 hF2 3 (G-(i+1)) (c-i)) ?_)
 go_wp2
 go_ret
 exact⟨rfl,rfl⟩
theorem arw {P:Program}{ops:Array Oper}{o:Oper}{a:Act}{w:World}{K:Act->World->Prop}{Q:Exit->Act->World->Prop}{E:Prop}
  (hg:o.guard=none)(d x:Operand)(dT sT:TypeId)(od:o.op=Op.call {callee:=Callee.builtin Builtin.append,args:=#[d,x],argTypes:=#[dT,sT]})
  (v u:Value)(hd:a.eval d=v)(hx:a.eval x=u){v':Value}{w':World}(hr:(Builtin.append_ #[dT,sT] o.type #[v,u]).run P w=.ok v' w')(hK:K (a.put o.dst v') w'):
  if Region.wanted o (yielded ops a.tmps)=true then Oper.wp P o a w K Q else E:=by
 have hw:Region.wanted o (yielded ops a.tmps)=true:=by simp[Region.wanted,hg]
 rw[if_pos hw]
 unfold Oper.wp
 simp[execOp,od,resolve,invoke,builtin,hd,hx,hr,Result.andThen]
 exact hK
theorem aBg {P:Program}(w:World){o:Oper}{a:Act}{K:Act->World->Prop}{Q:Exit->Act->World->Prop}(d:Operand)(t:TypeId)
  (ho:o.op=.call {callee:=.builtin .clear,args:=#[d],argTypes:=#[t]})(v:Value)(hd:a.eval d=v){v':Value}{w':World}
  (hr:(Builtin.clear_ #[t] o.type #[v]).run P w=.ok v' w')(h:K (a.put o.dst v') w'):o.wp P a w K Q:=by
 unfold Oper.wp execOp
 simp only[ho,resolve,invoke,builtin,Sem.run_bind,Sem.run_pure,Result.andThen_ok,List.map_toArray,List.map_cons,List.map_nil,hd,hr]
 exact h
theorem apI {P:Program}(w:World){ops:Array Oper}{rest:List Oper}{o:Oper}{a:Act}{Q:Exit->Act->World->Prop}(hgd:o.guard=none)(d:Operand)(t:TypeId)
  (ho:o.op=.call {callee:=.builtin .clear,args:=#[d],argTypes:=#[t]})(v:Value)(hd:a.eval d=v){v':Value}{w':World}
  (hr:(Builtin.clear_ #[t] o.type #[v]).run P w=.ok v' w')(h:wpList P ops Q rest (a.put o.dst v') w'):wpList P ops Q (o::rest) a w:=
 wpList_plain hgd λ_ hK=>aBg w d t ho v hd hr (hK _ _ h)
set_option maxHeartbeats 4000000 in
set_option maxRecDepth 100000 in
theorem aEM (base:Option Addr)(n c i:Nat)(w:World)(hi:i<=n)(hc:n<=c):
  Calls Tryz.prog 98 #[.slice base n c,.int .i64 i,.int .i64 i] w λe w'=>e=.returned (.slice base n c)∧w'=w:=by
 have mixed:=mixed
 have h1:(i:Int)<=(n:Int):=by omega
 have h2:(n:Int)<=(c:Int):=by omega
 go_enter Tryz.func98,Tryz.ntmps98
 go_wp2
 all_goals (go_ret;exact⟨rfl,rfl⟩)
set_option maxHeartbeats 4000000 in
set_option maxRecDepth 100000 in
theorem aOb (b off n c i j:Nat)(w w2 w3:World)(hij:i<j)(hj:j<=n)(hc:n<=c)
  (hrz:∀ty,(Builtin.append_ #[140,140] ty #[.slice (some ⟨b,off,none⟩) i c,.slice (some (if c=j then⟨b,off,none⟩ else⟨b,off+j*9,none⟩)) (n-j) (c-j)]).run Tryz.prog w.drew=.ok (.slice (some ⟨b,off,none⟩) (i+(n-j)) c) w2)
  (BE:∀ty,(Builtin.clear_ #[140] ty #[.slice (some ⟨b,off+(i+(n-j))*9,none⟩) (n-(i+(n-j))) (c-(i+(n-j)))]).run Tryz.prog w2=.ok (.tuple #[]) w3):
  Calls Tryz.prog 98 #[.slice (some ⟨b,off,none⟩) n c,.int .i64 i,.int .i64 j] w λe w'=>e=.returned (.slice (some ⟨b,off,none⟩) (i+(n-j)) c)∧w'=w3:=by
 have mixed:=mixed
 have h0:¬((i:Int)=(j:Int)):=by omega
 have h1:(i:Int)<=(j:Int):=by omega
 have h2:(j:Int)<=(n:Int):=by omega
 have h3:(n:Int)<=(c:Int):=by omega
 have h4:(i:Int)<=(c:Int):=by omega
 have h5:¬(c=i+(n-j)):=by omega
 go_enter Tryz.func98,Tryz.ntmps98
 go_wp2
 go_region_law_o (refine arw rfl _ _ 140 140 rfl _ _ (by simp[Act.eval,Act.put]) (by simp[Act.eval,Act.put];split<;>rfl) (hrz _) ?_)
 go_wp2_with (at_builtin;refine apI _ rfl _ 140 rfl _ rfl (BE _) ?_)
 all_goals (go_ret;exact⟨rfl,rfl⟩)
set_option maxHeartbeats 4000000 in
set_option maxRecDepth 100000 in
theorem aLY (w:World):Calls Tryz.prog 166 #[.slice none 0 0] w λe w'=>e=.returned (.slice none 0 0)∧w'=w:=by
 have mixed:=mixed
 have heq:∀w:World,(Go.binOp .eql 140 (.slice none 0 0) (.slice none 0 0)).run Tryz.prog w=.ok (.bool true) w:=λw=>by kernel_rfl
 go_enter Tryz.func166,Tryz.ntmps166
 go_wp2
 go_ret
 exact⟨rfl,rfl⟩
set_option maxHeartbeats 4000000 in
set_option maxRecDepth 100000 in
theorem awB (a:Addr)(n c:Nat)(w w2:World)(v2:Value)
  (hrz:∀ty,(Builtin.append_ #[140,140] ty #[.slice (some ⟨w.heap.size,0,none⟩) 0 0,.slice (some a) n c]).run Tryz.prog (w.alloc (.cells #[] 42))=.ok v2 w2):
  Calls Tryz.prog 166 #[.slice (some a) n c] w λe w'=>e=.returned v2∧w'=w2:=by
 have mixed:=mixed
 have heq:∀w:World,(Go.binOp .eql 140 (.slice (some a) n c) (.slice none 0 0)).run Tryz.prog w=.ok (.bool false) w:=λw=>by kernel_rfl
 go_enter Tryz.func166,Tryz.ntmps166
 go_wp2_with (at_builtin;refine Lib.wpList_append_run _ rfl _ _ _ _ rfl _ _ rfl rfl _ _ (hrz _) ?_)
 go_ret
 exact⟨rfl,rfl⟩
end Go.Proofs.YtldgljclcgaibaaGreat
namespace Go.Ab
def ey (l:List (Nat->Int)):List cI:=l.map (cI.i .i64)
def Iw (i:Nat)(g v:Nat->Int):Nat->Int:=λj=>cond (Nat.blt j i) (g j) (cond (Nat.beq j i) (v 0) (g (j-1)))
def Ov (i d:Nat)(g:Nat->Int):Nat->Int:=λj=>cond (Nat.blt j i) (g j) (g (j+d))
theorem yL {l:List (Nat->Int)}(h:l.length=9)(J:Nat):∃g,l[J%9]? =some g∧gK (ey l) J=.f (.i .i64 (g (J/9))):=by
 have lY:J%9<l.length:=by rw[h];exact Nat.mod_lt _ (by omega)
 refine⟨l[J%9],List.getElem?_eq_getElem lY,?_⟩
 unfold gK ey
 rw[List.length_map,h,List.getElem?_map,List.getElem?_eq_getElem lY]
 rfl
theorem aOc {l m:List (Nat->Int)}(hl:l.length=9)(hm:m.length=9)(i J:Nat):
  gK (ey (List.zipWith (Iw i) l m)) J=if J<i*9 then gK (ey l) J else if J<(i+1)*9 then gK (ey m) (J-i*9) else gK (ey l) (J-9):=by
 obtain⟨g,hg,eg⟩:=yL hl J
 obtain⟨v,hv,_⟩:=yL hm J
 obtain⟨z,hz,ez⟩:=yL (l:=List.zipWith (Iw i) l m) (by simp[hl,hm]) J
 have hz2:(List.zipWith (Iw i) l m)[J%9]? =some (Iw i g v):=by simp[List.getElem?_zipWith,hg,hv]
 rw[hz2] at hz;cases hz
 rw[ez]
 by_cases h1:J<i*9
 ·rw[if_pos h1,eg]
  have:Nat.blt (J/9) i=true:=rr.2 (by omega)
  simp only[Iw,this,cond_true]
 ·rw[if_neg h1]
  have e1:Nat.blt (J/9) i=false:=adg (by omega)
  by_cases h2:J<(i+1)*9
  ·rw[if_pos h2]
   have e2:Nat.beq (J/9) i=true:=beq_iff.2 (by omega)
   obtain⟨v',hv',ev⟩:=yL hm (J-i*9)
   have e3:(J-i*9)%9=J%9:=by omega
   have e4:(J-i*9)/9=0:=by omega
   rw[e3,hv] at hv';cases hv'
   rw[ev,e4]
   simp only[Iw,e1,e2,cond_true,cond_false]
  ·rw[if_neg h2]
   have e2:Nat.beq (J/9) i=false:=beq_false (by omega)
   obtain⟨g',hg',ev⟩:=yL hl (J-9)
   have e3:(J-9)%9=J%9:=by omega
   have e4:(J-9)/9=J/9-1:=by omega
   rw[e3,hg] at hg';cases hg'
   rw[ev,e4]
   simp only[Iw,e1,e2,cond_false]
theorem aEN {l:List (Nat->Int)}(hl:l.length=9)(i d J:Nat):
  gK (ey (l.map (Ov i d))) J=if J<i*9 then gK (ey l) J else gK (ey l) (J+d*9):=by
 obtain⟨g,hg,eg⟩:=yL hl J
 obtain⟨z,hz,ez⟩:=yL (l:=l.map (Ov i d)) (by simp[hl]) J
 have hz2:(l.map (Ov i d))[J%9]? =some (Ov i d g):=by simp[hg]
 rw[hz2] at hz;cases hz
 rw[ez]
 by_cases h1:J<i*9
 ·rw[if_pos h1,eg]
  have:Nat.blt (J/9) i=true:=rr.2 (by omega)
  simp only[Ov,this,cond_true]
 ·rw[if_neg h1]
  have e1:Nat.blt (J/9) i=false:=adg (by omega)
  obtain⟨g',hg',ev⟩:=yL hl (J+d*9)
  have e3:(J+d*9)%9=J%9:=by omega
  have e4:(J+d*9)/9=J/9+d:=by omega
  rw[e3,hg] at hg';cases hg'
  rw[ev,e4]
  simp only[Ov,e1,cond_false]
theorem Ow {l:List (Nat->Int)}(h:l.length=9)(n:Nat):af.size [.a (.s n) (ey l)]=n*9:=by
 rw[af.size_cons,af.jS,Sg.jU,Nat.add_zero]
 show n*(ey l).length=n*9
 unfold ey;rw[List.length_map,h]
theorem apJ {l:List (Nat->Int)}(h:l.length=9){n j:Nat}(hj:j<n*9):af.get [.a (.s n) (ey l)] j=gK (ey l) j:=by
 rw[af.c9 (by rw[Sg.jU];unfold ey;rw[List.length_map,h];exact hj),Sg.mZ]
theorem aIT [ax]{π:Pi}{w:World}{B s N:Nat}{c:Nat->CV}(h:∀j,j<N->∃v,cl w B (s+j)=some v∧(c j).rel π v):
  ∃cs:List Value,cs.length=N∧(∀j v,cs[j]? =some v->w.cell? ⟨B,s+j,none⟩=some v∧(c j).rel π v)∧∀v∈cs,v.oneCell'=true:=by
 have key:∀j v,((List.range N).map λj=>(cl w B (s+j)).getD undef)[j]? =some v->w.cell? ⟨B,s+j,none⟩=some v∧(c j).rel π v:=λj v hv=>by
  have hj:j<N:=by
   have:=(List.getElem?_eq_some_iff.1 hv).1;simpa using this
  obtain⟨u,hu,hr⟩:=h j hj
  simp[hj,hu] at hv
  subst hv
  exact⟨hu,hr⟩
 refine⟨(List.range N).map λj=>(cl w B (s+j)).getD undef,by simp,key,λv hv=> ?_⟩
 obtain⟨i,hi⟩:=List.mem_iff_getElem?.1 hv
 exact CV.Oq (key i v hi).2
theorem aEO {w:World}{B i:Nat}{v:Value}(h:w.cell? ⟨B,i,none⟩=some v):∃t k,w.shape? B=some (t,k)∧k≠0:=by
 unfold World.cell? at h
 simp only at h
 cases hh:w.heap[B]? with
 |none=>rw[hh] at h;cases h
 |some x=>
  rw[hh] at h
  cases x<;>simp only at h<;>first|(cases h;done)|skip
  rename_i cs t fz
  have:=(Array.getElem?_eq_some_iff.1 h).1
  refine⟨t,cs.size,?_,by omega⟩
  simp[World.shape?,hh]
end Go.Ab
namespace Go.Ab
variable [ax]
theorem XD {P:Program}{π:Pi}{w W:World}{h:List af}{cs:List Ch}{out:List (Nat->Int)}{n cap B st q e b0:Nat}(ho:out.length=9)(hH:pM π (hC (h.map some)) (hZ (h.map some)) w)(iT:∀b,π b≠none->b<h.length)
  (HA:∀b,b<h.length->cs[b]? =some .kU∨cs[b]? =some .kill)(Ot:b0<h.length)(hk0:cs[b0]? =some .kill)(hp:π b0=some (B,st,q,e))(hfr:bN w (AG π h.length (P4 cs)) W)
  (nW:∀i,st<=i->i<e->(cl W B i).isSome=true∧fz W B i=false)(ham:xK W)(hc:∀J,J<n*9->∃v,cl W B (st+J)=some v∧(gK (ey out) J).rel π v)(hn:n<=cap)(hce:st+cap*9<=e):
  aEI P π w h ⟨.r (.c (.sl h.length (.k 0) (.s n) 9 true)),cs,[[.a (.s n) (ey out)]]⟩ (.returned (.slice (some ⟨B,st,none⟩) n cap)) W:=by
 have vx:=Ow ho n
 have Li:hZ (h.map some) b0≠none:=by rw[NA,List.getElem?_eq_getElem Ot];simp
 have kV:n*9<=cap*9:=Nat.mul_le_mul_right _ hn
 refine auK (P:=P) (B:=B) (s:=st) (e:=e) hH iT HA hfr (by rw[vx];omega) nW (λj hj=> ?_) (.inr ⟨b0,st,q,e,Ot,hk0,hp,Nat.le_refl _,Nat.le_refl _⟩) ham (λyI=>hH.lb b0 B st q e Li hp yI) λπ' hx rH=> ?_
 ·rw[vx] at hj
  rw[apJ ho hj];exact hc j hj
 ·rw[vx] at rH
  exact⟨B,st,n*9,e,rH,by simp[bX.val,Sz.val],λ_=>by simp[bX.val,Sz.val],.inr ⟨cap,hn,rfl,λ_=>by simpa[bX.val] using hce⟩⟩
theorem ait {P:Program}{π:Pi}{w W:World}{h:List af}{cs:List Ch}{out:List (Nat->Int)}{n cap B:Nat}(ho:out.length=9)(hH:pM π (hC (h.map some)) (hZ (h.map some)) w)(iT:∀b,π b≠none->b<h.length)
  (HA:∀b,b<h.length->cs[b]? =some .kU∨cs[b]? =some .kill)(hB:w.heap.size<=B)(hfr:bN w (AG π h.length (P4 cs)) W)
  (nW:∀i,i<cap*9->(cl W B i).isSome=true∧fz W B i=false)(ham:xK W)(hc:∀J,J<n*9->∃v,cl W B J=some v∧(gK (ey out) J).rel π v)(hn:n<=cap):
  aEI P π w h ⟨.r (.c (.sl h.length (.k 0) (.s n) 9 true)),cs,[[.a (.s n) (ey out)]]⟩ (.returned (.slice (some ⟨B,0,none⟩) n cap)) W:=by
 have vx:=Ow ho n
 have kV:n*9<=cap*9:=Nat.mul_le_mul_right _ hn
 refine auK (P:=P) (B:=B) (s:=0) (e:=cap*9) hH iT HA hfr (by rw[vx];omega) (λi _ hi=>nW i hi) (λj hj=> ?_) (.inl hB) ham (λyI=>Nat.le_trans hH.am.sz hB) λπ' hx rH=> ?_
 ·rw[vx] at hj
  rw[apJ ho hj,Nat.zero_add];exact hc j hj
 ·rw[vx] at rH
  exact⟨B,0,n*9,cap*9,rH,by simp[bX.val,Sz.val],λ_=>by simp[bX.val,Sz.val],.inr ⟨cap,hn,rfl,λ_=>by simp[bX.val]⟩⟩
theorem aiu {P:Program}{π:Pi}{w W:World}{h:List af}{cs:List Ch}{out:List (Nat->Int)}{a:Option Addr}(ho:out.length=9)(hH:pM π (hC (h.map some)) (hZ (h.map some)) w)(iT:∀b,π b≠none->b<h.length)
  (HA:∀b,b<h.length->cs[b]? =some .kU∨cs[b]? =some .kill)(hfr:bN w (AG π h.length (P4 cs)) W)(ham:xK W):
  aEI P π w h ⟨.r (.c (.sl h.length (.k 0) (.s 0) 9 true)),cs,[[.a (.s 0) (ey out)]]⟩ (.returned (.slice a 0 0)) W:=by
 have vx:=Ow ho 0
 refine auK (P:=P) (B:=w.heap.size) (s:=0) (e:=0) hH iT HA hfr (by rw[vx];omega) (λi _ hi=>by omega) (λj hj=>by rw[vx] at hj;omega) (.inl (Nat.le_refl _)) ham (λyI=>by omega) λπ' hx rH=> ?_
 rw[vx] at rH
 exact⟨w.heap.size,0,0*9,0,rH,by simp[bX.val,Sz.val],λ_=>by simp[bX.val,Sz.val],.inl ⟨rfl,a,rfl⟩⟩
theorem azQ {π:Pi}{w:World}{h:List af}{l:List (Nat->Int)}{n b B st q e:Nat}(hl:l.length=9)(hH:pM π (hC (h.map some)) (hZ (h.map some)) w)(hb:h[b]? =some [.a (.s n) (ey l)])(hp:π b=some (B,st,q,e)):
  q=n*9∧st+n*9<=e∧(∀i,st<=i->i<e->(cl w B i).isSome=true∧fz w B i=false)∧∃cs:List Value,cs.length=n*9∧(∀j v,cs[j]? =some v->w.cell? ⟨B,st+j,none⟩=some v∧(gK (ey l) j).rel π v)∧∀v∈cs,v.oneCell'=true:=by
 have hz:hZ (h.map some) b=some (n*9):=by rw[NA,hb];exact congrArg some (Ow hl n)
 obtain⟨B',s',e',ew,yI,k1,k2⟩:=hH.hp b _ hz
 rw[hp] at ew;cases ew
 refine⟨rfl,yI,k1,aIT λj hj=> ?_⟩
 obtain⟨v,hv,hr⟩:=k2 j hj
 rw[azN hb (by rw[Ow hl];exact hj),apJ hl hj] at hr
 exact⟨v,hv,hr⟩
end Go.Ab
namespace Go.Proofs.YtldgljclcgaibaaGreat
open Go.RowKit Go.Lib Go.Ab
variable [ax]
omit [ax] in
theorem apK {P:Program}(w:World)(tS tR e:TypeId)(ht:P.underlying tS=some (.slice e))(size:Nat)(hz:∀w,(Go.sizeOf e).run P w=.ok size w)(B oa ob la ca lb cb:Nat)(hd:oa+la*size<=ob∨ob+lb*size<=oa):
  (Extern.SlicesOverlaps.overlaps #[tS,tS] #[tR] #[.slice (some ⟨B,oa,none⟩) la ca,.slice (some ⟨B,ob,none⟩) lb cb]).run P w=.ok (.bool false) w:=by
 change Sem.run P (α:=Value) (do
  let some t:=(#[tS,tS]:Array TypeId)[0]? |stuck "slices.overlaps: no parameter types"
  let .slice elem<-underlying t|stuck "slices.overlaps: slice type expected"
  let size<-sizeOf elem
  match(some ⟨B,oa,none⟩:Option Addr),(some ⟨B,ob,none⟩:Option Addr) with
  |some a,some b=>
   if la=0∨lb=0∨size=0 then pure (Value.bool false)
   else if a.block !=b.block&&(<-frozen a)&&(<-frozen b) then unsupported .addressObserved
   else do
    if a.block !=b.block then do
     noView a;noView b
     if<-mayBeOne a b then return Value.bool ((<-choose (.extern "sameAddr.stringBytes" 2))==1)
    pure (Value.bool (a.block==b.block&&a.off<b.off+lb*size&&b.off<a.off+la*size))
  |_,_=>pure (Value.bool false)) w=_
 by_cases h0:la=0∨lb=0∨size=0
 ·simp[run_underlying ht,hz,h0]
 ·simp[run_underlying ht,hz,h0,frozen,Sem.run]
  omega
omit [ax] in
theorem aGl {w:World}{vb AJ vc b o lb cb:Nat}(hd:vb=b->AJ+9<=o∨o+lb*9<=AJ){va vb2:Value}(ha:w.cell? ⟨vb,AJ,none⟩=some va)(hb:w.cell? ⟨b,o,none⟩=some vb2)(hfa:∀i,w.frozen? ⟨vb,i,none⟩=false):
  (callFunc 145 #[.slice (some ⟨vb,AJ,none⟩) 1 vc,.slice (some ⟨b,o,none⟩) lb cb]).run Tryz.prog w=.ok (.value (.bool false)) w:=by
 rw[run_callFunc_extern Tryz.func145 (by kernel_rfl) (by kernel_rfl) (by kernel_rfl) (e:=Extern.SlicesOverlaps.overlaps #[140,140] #[4]) (by kernel_rfl)]
 obtain⟨tA,kA,sA,_⟩:=aEO ha
 obtain⟨tB,kB,sB,nB⟩:=aEO hb
 by_cases kV:vb=b
 ·subst kV
  have h2:=hd rfl
  rw[apK w 140 4 42 uT 9 (λw=>Ab.run_sizeOf uE w) vb AJ o 1 vc lb cb (by omega)]
  rfl
 ·rw[Lib.run_overlaps_apart w 140 4 42 uT 9 (λw=>Ab.run_sizeOf uE w) ⟨vb,AJ,none⟩ ⟨b,o,none⟩ 1 vc lb cb kV tA tB kA kB sA sB nB (hfa AJ) (hfa kA)]
  rfl
end Go.Proofs.YtldgljclcgaibaaGreat
set_option maxRecDepth 100000
set_option maxHeartbeats 4000000
namespace Go.Proofs.YtldgljclcgaibaaGreat
open Go.RowKit Go.Lib Go.Ab
theorem aCR [ax]{gs vs9:List (Nat->Int)}(hg:gs.length=9)(hv9:vs9.length=9)(n i:Nat)(hi:i<=n)(awm:(n+1)*72<=140737488355328)(w2:Bool)(w:World)(π:Pi)(vs:Array Value)
  (jQ:bh (AV.rel π) [.r (.c (.sl 0 (.k 0) (.s n) 9 true)),.r (.c (.f (.i .i64 (i:Int)))),.r (.c (.sl 1 (.k 0) (.s 1) 9 w2))] vs.toList)
  (hH:pM π (hC ([[.a (.s n) (ey gs)],[.a (.s 1) (ey vs9)]].map some)) (hZ ([[.a (.s n) (ey gs)],[.a (.s 1) (ey vs9)]].map some)) w)(iT:∀b,π b≠none->b<2):
  Calls Tryz.prog 97 vs w (qD π w [[.a (.s n) (ey gs)],[.a (.s 1) (ey vs9)]] ⟨.r (.c (.sl 2 (.k 0) (.s (n+1)) 9 true)),[.kill,.kU],[[.a (.s (n+1)) (ey (List.zipWith (Iw i) gs vs9))]]⟩):=by
 obtain⟨y1,y2,y3,hvt,r1,r2,r3⟩:∃y1 y2 y3,vs.toList=[y1,y2,y3]∧(AV.r (.c (.sl 0 (.k 0) (.s n) 9 true))).rel π y1∧(AV.r (.c (.f (.i .i64 (i:Int))))).rel π y2∧(AV.r (.c (.sl 1 (.k 0) (.s 1) 9 w2))).rel π y3:=by
  match hl:vs.toList,jQ with
  | [y1,y2,y3],⟨a,b,c,_⟩=>exact⟨y1,y2,y3,rfl,a,b,c⟩
  | [],h=>exact h.elim
  | [_],⟨_,h⟩=>exact h.elim
  | [_,_],⟨_,_,h⟩=>exact h.elim
  |_::_::_::_::_,⟨_,_,_,h⟩=>exact h.elim
 have hvt:vs=#[y1,y2,y3]:=by rw[<-Array.toList_inj];exact hvt
 subst hvt
 have r2:y2=.int .i64 (i:Int):=r2
 subst r2
 obtain⟨B,st,q,e,hb,_,_,hx⟩:=r1
 obtain⟨vB,vst,vq,ve,hvb,_,_,hvx⟩:=r3
 obtain⟨rfl,hle,nW,cs,BE,HA,h1c⟩:=azQ (b:=0) hg hH rfl hb
 obtain⟨rfl,aYu,aVw,vl,hvl,hvs,h1v⟩:=azQ (b:=1) hv9 hH rfl hvb
 obtain⟨XE,aXO,rfl,_⟩:∃XE,1<=XE∧y3=.slice (some ⟨vB,vst,none⟩) 1 XE∧True:=by
  rcases hvx with⟨h,_⟩| ⟨XE,h1,h2,_⟩
  ·cases h
  ·exact⟨XE,h1,h2,trivial⟩
 have Li:hZ ([[.a (.s n) (ey gs)],[.a (.s 1) (ey vs9)]].map some) 0≠none:=by simp[hZ]
 have hz1:hZ ([[.a (.s n) (ey gs)],[.a (.s 1) (ey vs9)]].map some) 1≠none:=by simp[hZ]
 have hfv:∀i,w.frozen? ⟨vB,i,none⟩=false:=λi=>hH.am.fr vB i (hH.lb 1 vB vst _ ve hz1 hvb (by omega))
 have ho:(List.zipWith (Iw i) gs vs9).length=9:=by simp[hg,hv9]
 have afO:∀b,b< [[Sg.a (.s n) (ey gs)],[.a (.s 1) (ey vs9)]].length->[Ch.kill,Ch.kU][b]? =some .kU∨[Ch.kill,Ch.kU][b]? =some .kill:=λb hb=>by
  match b,hb with
  |0,_=>exact .inr rfl
  |1,_=>exact .inl rfl
  |b+2,h=>exact absurd h (by simp)
 have hft:∀i,st<=i->i<e->AG π 2 (P4 [.kill,.kU]) B i:=λi h1 h2=>⟨0,st,_,e,by omega,by simp[P4],hb,h1,h2⟩
 have cont:∀(W:World) (B' s':Nat),(∀j v,j<i*9->cs[j]? =some v->cl W B' (s'+j)=some v)->(∀j v,vl[j]? =some v->cl W B' (s'+i*9+j)=some v)->(∀j v,i*9<=j->cs[j]? =some v->cl W B' (s'+(j+9))=some v)->
   ∀J,J<(n+1)*9->∃v,cl W B' (s'+J)=some v∧(gK (ey (List.zipWith (Iw i) gs vs9)) J).rel π v:=λW B' s' c1 c2 c3 J hJ=>by
  rw[aOc hg hv9]
  by_cases h1:J<i*9
  ·rw[if_pos h1]
   have hj:cs[J]? =some (cs[J]'(by omega)):=List.getElem?_eq_getElem _
   exact⟨_,c1 J _ h1 hj,(HA J _ hj).2⟩
  ·rw[if_neg h1]
   by_cases h2:J<(i+1)*9
   ·rw[if_pos h2]
    have hj:vl[J-i*9]? =some (vl[J-i*9]'(by omega)):=List.getElem?_eq_getElem _
    have:=c2 _ _ hj
    rw[show s'+i*9+(J-i*9)=s'+J by omega] at this
    exact⟨_,this,(hvs _ _ hj).2⟩
   ·rw[if_neg h2]
    have hj:cs[J-9]? =some (cs[J-9]'(by omega)):=List.getElem?_eq_getElem _
    have:=c3 _ _ (by omega) hj
    rw[show s'+(J-9+9)=s'+J by omega] at this
    exact⟨_,this,(HA _ _ hj).2⟩
 have hE:=iE
 obtain⟨i0,z0,hi0,hzz,aWL,aSm,aWM⟩:=hE
 have aSn:(Tryz.prog.info? 42).map (·.bytes)=some 72:=by rw[hi0];exact congrArg some aSm
 obtain⟨zv,hzv,aSo⟩:∃zv,xH Tryz.prog 42=some zv∧af.size zv.bE=9:=by
  have h:(xH Tryz.prog 42).map (λz=>af.size z.bE)=some 9:=by kernel_rfl
  cases hz:xH Tryz.prog 42 with
  |none=>rw[hz] at h;cases h
  |some z=>rw[hz] at h;exact⟨z,rfl,by simpa using h⟩
 have apE:∀(base:Option Addr) (cap:Nat) (EH:List Value),i=n->EH=cs->cap<n+1->n<=cap->((base=none∧n=0∧cap=0)∨∃b,base=some b∧∀j v,EH[j]? =some v->w.cell? (b.add j)=some v)->
   y1=.slice base n cap->Calls Tryz.prog 97 #[y1,.int .i64 (i:Int),.slice (some ⟨vB,vst,none⟩) 1 XE] w (qD π w [[.a (.s n) (ey gs)],[.a (.s 1) (ey vs9)]] ⟨.r (.c (.sl 2 (.k 0) (.s (n+1)) 9 true)),[.kill,.kU],[[.a (.s (n+1)) (ey (List.zipWith (Iw i) gs vs9))]]⟩):=by
  intro base cap EH hin holds pd aXP hs hy
  subst hin holds
  obtain⟨gc,arr,mu,hgc,vx,rest,adu⟩:∃gc arr,(∀ty,(Builtin.append_ #[140,140] ty #[.slice base i cap,.slice (some ⟨vB,vst,none⟩) 1 XE]).run Tryz.prog w=.ok (.slice (some ⟨w.heap.size,0,none⟩) (i+1) gc) (w.drew.alloc (.cells arr 42)))∧i+1<=gc∧arr.size=gc*9∧∃rest,arr.toList=EH++vl++rest:=by
   obtain⟨gc,arr,mu,h2,h3,h4⟩:=GL (P:=Tryz.prog) (ty:=0) uT uE aSn hzv aSo (by omega) (sv:=.slice base i cap) (n:=i) (cap:=cap) (m:=1) (c:=XE) (ad:=⟨vB,vst,none⟩) (EH:=EH) (news:=vl) w (by
    rcases hs with⟨rfl,h1,h2⟩| ⟨b,rfl,h3⟩
    ·exact .inl ⟨by rw[h1,h2],h1,h2⟩
    ·exact .inr ⟨b,rfl,h3⟩) BE (by rw[hvl]) (λj v hj=>by rw[Addr.add_lit];exact(hvs j v hj).1) pd (by omega) awm
   exact⟨gc,arr,λty=>by unfold Builtin.append_ at mu ⊢;exact mu,h2,h3,h4⟩
  have hC:=aIS base i cap vB vst XE w _ _ mu
  rw[hy]
  refine Calls.mono hC ?_
  rintro ev W ⟨rfl,rfl⟩
  have aEP:∀j,cl (w.drew.alloc (.cells arr 42)) w.heap.size j=arr[j]? :=λj=>World.cell?_alloc_at (w:=w.drew) arr _ w.heap.size j rfl
  refine ait (P:=Tryz.prog) ho hH iT afO (Nat.le_refl _) (((bN.refl w _).drew).alloc _ _) (λk hk=>⟨by rw[aEP,Array.getElem?_eq_getElem (by omega)];rfl,World.frozen?_alloc_at (w:=w.drew) arr _ w.heap.size k rfl⟩) ((hH.am.same (w':=w.drew) rfl).alloc _ _) (λJ hJ=> ?_) hgc
  have:=cont (w.drew.alloc (.cells arr 42)) w.heap.size 0 (λj v hj hv=>by rw[Nat.zero_add,aEP];exact(S9 adu).1 hv) (λj v hv=>by rw[Nat.zero_add,aEP,<-BE];exact(S9 adu).2 hv) (λj v hj hv=>by have:=(List.getElem?_eq_some_iff.1 hv).1;omega) J hJ
  rwa [Nat.zero_add] at this
 rcases hx with⟨h0,a,rfl⟩| ⟨cap,pd,rfl,hce⟩
 ·
  have h0:n=0:=h0
  subst h0
  have aWN:i=0:=by omega
  subst aWN
  cases a with
  |none=>exact apE none 0 cs rfl rfl (by omega) (by omega) (.inl ⟨rfl,rfl,rfl⟩) rfl
  |some b=>
   have aWO:cs=[]:=List.eq_nil_of_length_eq_zero (by omega)
   exact apE (some b) 0 cs rfl rfl (by omega) (by omega) (.inr ⟨b,rfl,λj v hj=>by rw[aWO] at hj;simp at hj⟩) rfl
 ·have pd:n<=cap:=pd
  have hce:st+cap*9<=e:=by have:=hce rfl;simpa[bX.val] using this
  show Calls Tryz.prog 97 #[.slice (some ⟨B,st,none⟩) n cap,.int .i64 (i:Int),.slice (some ⟨vB,vst,none⟩) 1 XE] w _
  by_cases P3:n+1<=cap
  ·have aXA:(n+1)*9<=cap*9:=Nat.mul_le_mul_right _ P3
   have aRO:vB=B->vst+9<=st∨st+(n+1)*9<=vst:=λh=>by
    subst h
    rcases Nat.lt_or_ge vst (st+(n+1)*9) with h1|h1
    ·left
     rcases Nat.lt_or_ge st (vst+9) with h2|h2
     ·exfalso
      rcases Nat.lt_or_ge st vst with h3|h3
      ·exact hH.dj 0 1 _ st _ e vst _ ve (by omega) Li hz1 hb hvb vst (by omega) (by omega) (Nat.le_refl _) (by omega)
      ·exact hH.dj 0 1 _ st _ e vst _ ve (by omega) Li hz1 hb hvb st (Nat.le_refl _) (by omega) h3 (by omega)
     ·omega
    ·exact .inr h1
   by_cases hin:i=n
   ·
    subst hin
    have hC:=aIS (some ⟨B,st,none⟩) i cap vB vst XE w _ _ (λty=>Jo (P:=Tryz.prog) (ty:=ty) uT uE (B:=B) (q:=st) (n:=i) (cap:=cap) (m:=1) (c:=XE) (ad:=⟨vB,vst,none⟩) (news:=vl) P3 (by rw[hvl]) w (λj v hj=>by rw[Addr.add_lit];exact(hvs j v hj).1) h1v (λj hj=>nW _ (by omega) (by omega)))
    refine Calls.mono hC ?_
    rintro ev W ⟨rfl,rfl⟩
    have aUI:∀j,j<vl.length->(cl w B (st+i*9+j)).isSome=true:=λj hj=>(nW _ (by omega) (by omega)).1
    refine XD (P:=Tryz.prog) (q:=i*9) ho hH iT afO (by simp) rfl hb ((bN.refl w _).setCells (.inr λj hj=>hft _ (by omega) (by omega))) (λk k1 k2=>⟨Ab.isSome_setCells aUI (nW k k1 k2).1,by rw[ni];exact(nW k k1 k2).2⟩) (hH.am.setCells λ_=>hH.lb 0 B st _ e Li hb (by omega)) (cont _ B st (λj v hj hv=> ?_) (λj v hv=> ?_) (λj v hj hv=>by have:=(List.getElem?_eq_some_iff.1 hv).1;omega)) P3 hce
    ·rw[dH (λ_=>by omega)];exact(HA j v hv).1
    ·have hjl:=(List.getElem?_eq_some_iff.1 hv).1
     rw[lZ aUI hjl]
     rw[List.getElem?_eq_getElem hjl] at hv;exact hv
   ·
    have hC:=aLX B st n cap i vB vst XE cs vl w (by omega) P3 aRO BE hvl (by omega) (λj v hj=>(HA j v hj).1) (λj hj=>(nW _ (by omega) (by omega)).1) (λj hj=>(nW _ (by omega) (by omega)).2) (λj v hj=>(hvs j v hj).1) h1c h1v
     (λcb=>by
      obtain⟨va,hva⟩:=Option.isSome_iff_exists.1 (aVw vst (Nat.le_refl _) (by omega)).1
      obtain⟨vb2,aWP⟩:=Option.isSome_iff_exists.1 (nW (st+(i+1)*9) (by omega) (by omega)).1
      exact aGl (λh=>by have:=aRO h;omega) hva aWP hfv)
    refine Calls.mono hC ?_
    rintro ev W ⟨rfl,rfl⟩
    have hdl:(cs.drop (i*9)).length=(n-i)*9:=by rw[List.length_drop,BE];omega
    have i1:∀j,j<(cs.drop (i*9)).length->(cl w.drew B (st+(i+1)*9+j)).isSome=true:=λj hj=>(nW _ (by omega) (by omega)).1
    have i2:∀j,j<vl.length->(cl (w.drew.setCells B (st+(i+1)*9) (cs.drop (i*9))) B (st+i*9+j)).isSome=true:=λj hj=>Ab.isSome_setCells i1 (nW _ (by omega) (by omega)).1
    have hlb:=hH.lb 0 B st _ e Li hb (by omega)
    refine XD (P:=Tryz.prog) (q:=n*9) ho hH iT afO (by simp) rfl hb ((((bN.refl w _).drew).setCells (.inr λj hj=>hft _ (by omega) (by omega))).setCells (.inr λj hj=>hft _ (by omega) (by omega)))
     (λk k1 k2=>⟨Ab.isSome_setCells i2 (Ab.isSome_setCells i1 (nW k k1 k2).1),by rw[ni,ni];exact(nW k k1 k2).2⟩) (((hH.am.same (w':=w.drew) rfl).setCells λ_=>hlb).setCells λ_=>hlb) (cont _ B st (λj v hj hv=> ?_) (λj v hv=> ?_) (λj v hj hv=> ?_)) P3 hce
    ·rw[dH (λ_=>by omega),dH (λ_=>by omega)];exact(HA j v hv).1
    ·have hjl:=(List.getElem?_eq_some_iff.1 hv).1
     rw[lZ i2 hjl]
     rw[List.getElem?_eq_getElem hjl] at hv;exact hv
    ·have hjl:=(List.getElem?_eq_some_iff.1 hv).1
     rw[dH (λ_=>by omega)]
     have jX:j-i*9<(cs.drop (i*9)).length:=by omega
     have:=lZ i1 jX
     rw[show st+(i+1)*9+(j-i*9)=st+(j+9) by omega] at this
     rw[this,<-List.getElem?_eq_getElem,List.getElem?_drop,show i*9+(j-i*9)=j by omega]
     exact hv
  ·by_cases hin:i=n
   ·exact apE (some ⟨B,st,none⟩) cap cs hin rfl (by omega) pd (.inr ⟨_,rfl,λj v hj=>by rw[Addr.add_lit];exact(HA j v hj).1⟩) rfl
   ·obtain⟨G,AK,hG,vx,htk,hC⟩:=aOa B st n cap i vB vst XE cs vl w (by omega) pd (by omega) awm BE hvl (λj v hj=>(HA j v hj).1) (λj v hj=>(hvs j v hj).1) h1c h1v
    refine Calls.mono hC ?_
    rintro ev W ⟨rfl,rfl⟩
    have hG9:(n+1)*9<=G*9:=Nat.mul_le_mul_right _ hG
    have hdl:(cs.drop (i*9)).length=(n-i)*9:=by rw[List.length_drop,BE];omega
    have c0:∀j,cl (w.alloc (.cells AK 42)).drew w.heap.size j=AK[j]? :=λj=>World.cell?_alloc_at (w:=w) AK _ w.heap.size j rfl
    have s0:∀j,j<G*9->(cl (w.alloc (.cells AK 42)).drew w.heap.size j).isSome=true:=λj hj=>by rw[c0,Array.getElem?_eq_getElem (by omega)];rfl
    have i1:∀j,j<vl.length->(cl (w.alloc (.cells AK 42)).drew w.heap.size (i*9+j)).isSome=true:=λj hj=>s0 _ (by omega)
    have i2:∀j,j<(cs.drop (i*9)).length->(cl ((w.alloc (.cells AK 42)).drew.setCells w.heap.size (i*9) vl).drew w.heap.size ((i+1)*9+j)).isSome=true:=λj hj=>Ab.isSome_setCells i1 (s0 _ (by omega))
    have hlb:ax.h0<=w.heap.size:=hH.am.sz
    have am1:xK (w.alloc (.cells AK 42)).drew:=(hH.am.alloc AK 42).same (w':=(w.alloc (.cells AK 42)).drew) rfl
    have am2:xK ((w.alloc (.cells AK 42)).drew.setCells w.heap.size (i*9) vl).drew:=(am1.setCells λ_=>hlb).same (w':=((w.alloc (.cells AK 42)).drew.setCells w.heap.size (i*9) vl).drew) rfl
    have f1:bN w (AG π 2 (P4 [.kill,.kU])) ((w.alloc (.cells AK 42)).drew.setCells w.heap.size (i*9) vl).drew:=((((bN.refl w _).alloc AK 42).drew).setCells (.inl (Nat.le_refl _))).drew
    refine ait (P:=Tryz.prog) ho hH iT afO (Nat.le_refl _) (f1.setCells (.inl (Nat.le_refl _))) (λk hk=>⟨Ab.isSome_setCells i2 (Ab.isSome_setCells i1 (s0 k hk)),?_⟩) (am2.setCells λ_=>hlb) (λJ hJ=> ?_) hG
    ·rw[ni]
     exact(ni (w:=(w.alloc (.cells AK 42)).drew)).trans (World.frozen?_alloc_at (w:=w) AK _ w.heap.size k rfl)
    ·have:=cont (((w.alloc (.cells AK 42)).drew.setCells w.heap.size (i*9) vl).drew.setCells w.heap.size ((i+1)*9) (cs.drop (i*9))) w.heap.size 0 (λj v hj hv=> ?_) (λj v hv=> ?_) (λj v hj hv=> ?_) J hJ
     ·rwa [Nat.zero_add] at this
     ·rw[Nat.zero_add,dH (λ_=>by omega)]
      exact(dH (w:=(w.alloc (.cells AK 42)).drew) (λ_=>by omega)).trans ((c0 j).trans (htk j v hj hv))
     ·have hjl:=(List.getElem?_eq_some_iff.1 hv).1
      rw[Nat.zero_add,dH (λ_=>by omega)]
      have:=lZ i1 hjl
      rw[List.getElem?_eq_getElem hjl] at hv
      exact this.trans hv
     ·have hjl:=(List.getElem?_eq_some_iff.1 hv).1
      have jX:j-i*9<(cs.drop (i*9)).length:=by omega
      have:=lZ i2 jX
      rw[show(i+1)*9+(j-i*9)=j+9 by omega] at this
      rw[Nat.zero_add,this,<-List.getElem?_eq_getElem,List.getElem?_drop,show i*9+(j-i*9)=j by omega]
      exact hv
end Go.Proofs.YtldgljclcgaibaaGreat
namespace Go.Proofs.YtldgljclcgaibaaGreat
open Go.RowKit Go.Lib Go.Ab
theorem zS [ax]:∃z,(∀w,(Go.zeroValue 42).run Tryz.prog w=.ok z w)∧z.cells.size=9∧∀v∈z.cells.toList,v.oneCell'=true:=by
 have h:(Tryz.prog.info? 42).map (λi=>i.zero.map λz=>(z.cells.size,z.cells.toList.all λv=>v.oneCell'))=some (some (9,true)):=by kernel_rfl
 obtain⟨zv,hzv⟩:∃zv,xH Tryz.prog 42=some zv:=by
  have h:(xH Tryz.prog 42).isSome=true:=by kernel_rfl
  exact Option.isSome_iff_exists.1 h
 cases hi:Tryz.prog.info? 42 with
 |none=>rw[hi] at h;cases h
 |some i=>
  rw[hi] at h
  simp only[Option.map_some,Option.some.injEq] at h
  cases hz:i.zero with
  |none=>rw[hz] at h;cases h
  |some z=>
   rw[hz] at h
   simp only[Option.map_some,Option.some.injEq,Prod.mk.injEq] at h
   refine⟨z,λw=> ?_,h.1,List.all_eq_true.1 h.2⟩
   obtain⟨x,hx,⟨it,hi2,hz2⟩,_⟩:=aa6 hzv w
   rw[hi] at hi2
   cases hi2
   rw[hz] at hz2
   cases hz2
   exact hx
theorem aSp [ax](w:World)(ty:TypeId)(b o n c:Nat)(hn:0<n)(hc:∀j,j<n*9->(w.cell? ⟨b,o+j,none⟩).isSome=true)(hf:∀j,j<n*9->w.frozen? ⟨b,o+j,none⟩=false):
  ∃zs:List Value,zs.length=n*9∧(Builtin.clear_ #[140] ty #[.slice (some ⟨b,o,none⟩) n c]).run Tryz.prog w=.ok (.tuple #[]) (w.setCells b o zs):=by
 obtain⟨z,hz,hs,h1⟩:=zS
 have hl:(Builtin.zeroCells z.cells n).toList.length=n*9:=by rw[Array.length_toList,size_zeroCells,hs]
 refine⟨(Builtin.zeroCells z.cells n).toList,hl,?_⟩
 have hst:=run_storeCells_cells (P:=Tryz.prog) b o (Builtin.zeroCells z.cells n).toList 0 w (by rw[hl];simpa using hc) (by rw[hl];simpa using hf) (by
  intro v hv
  unfold Builtin.zeroCells at hv
  rw[Array.toList_map] at hv
  obtain⟨i,hi,rfl⟩:=List.mem_map.1 hv
  have lY:i%z.cells.size<z.cells.size:=Nat.mod_lt _ (by omega)
  have e:z.cells[i%z.cells.size]! =z.cells[i%z.cells.size]:=getElem!_pos z.cells (i%z.cells.size) lY
  rw[e]
  exact h1 _ (Array.getElem_mem_toList lY))
 simp only[Nat.add_zero] at hst
 obtain⟨m,rfl⟩:∃m,n=m+1:=⟨n-1,by omega⟩
 simp[Builtin.clear_,run_underlying uT,hz,hst]
theorem aCS [ax]{gs:List (Nat->Int)}(hg:gs.length=9)(n i j:Nat)(hij:i<=j)(hj:j<=n)(w:World)(π:Pi)(vs:Array Value)
  (jQ:bh (AV.rel π) [.r (.c (.sl 0 (.k 0) (.s n) 9 true)),.r (.c (.f (.i .i64 (i:Int)))),.r (.c (.f (.i .i64 (j:Int))))] vs.toList)
  (hH:pM π (hC ([[.a (.s n) (ey gs)]].map some)) (hZ ([[.a (.s n) (ey gs)]].map some)) w)(iT:∀b,π b≠none->b<1):
  Calls Tryz.prog 98 vs w (qD π w [[.a (.s n) (ey gs)]] ⟨.r (.c (.sl 1 (.k 0) (.s (i+(n-j))) 9 true)),[.kill],[[.a (.s (i+(n-j))) (ey (gs.map (Ov i (j-i))))]]⟩):=by
 obtain⟨y1,y2,y3,hvt,r1,r2,r3⟩:∃y1 y2 y3,vs.toList=[y1,y2,y3]∧(AV.r (.c (.sl 0 (.k 0) (.s n) 9 true))).rel π y1∧(AV.r (.c (.f (.i .i64 (i:Int))))).rel π y2∧(AV.r (.c (.f (.i .i64 (j:Int))))).rel π y3:=by
  match hl:vs.toList,jQ with
  | [y1,y2,y3],⟨a,b,c,_⟩=>exact⟨y1,y2,y3,rfl,a,b,c⟩
  | [],h=>exact h.elim
  | [_],⟨_,h⟩=>exact h.elim
  | [_,_],⟨_,_,h⟩=>exact h.elim
  |_::_::_::_::_,⟨_,_,_,h⟩=>exact h.elim
 have hvt:vs=#[y1,y2,y3]:=by rw[<-Array.toList_inj];exact hvt
 subst hvt
 have r2:y2=.int .i64 (i:Int):=r2
 have r3:y3=.int .i64 (j:Int):=r3
 subst r2 r3
 obtain⟨B,st,q,e,hb,_,_,hx⟩:=r1
 obtain⟨rfl,hle,nW,cs,BE,HA,h1c⟩:=azQ (b:=0) hg hH rfl hb
 have Li:hZ ([[.a (.s n) (ey gs)]].map some) 0≠none:=by simp[hZ]
 have ho:(gs.map (Ov i (j-i))).length=9:=by simp[hg]
 have afO:∀b,b< [[Sg.a (.s n) (ey gs)]].length->[Ch.kill][b]? =some .kU∨[Ch.kill][b]? =some .kill:=λb hb=>by
  match b,hb with
  |0,_=>exact .inr rfl
  |b+1,h=>exact absurd h (by simp)
 have hft:∀i,st<=i->i<e->AG π 1 (P4 [.kill]) B i:=λi h1 h2=>⟨0,st,_,e,by omega,by simp[P4],hb,h1,h2⟩
 rcases hx with⟨h0,a,rfl⟩| ⟨cap,pd,rfl,hce⟩
 ·have h0:n=0:=h0
  subst h0
  have hi0:i=0:=by omega
  have hj0:j=0:=by omega
  subst hi0 hj0
  refine Calls.mono (aEM a 0 0 0 w (by omega) (by omega)) ?_
  rintro ev W ⟨rfl,rfl⟩
  exact aiu (P:=Tryz.prog) ho hH iT afO (bN.refl _ _) hH.am
 ·have pd:n<=cap:=pd
  have hce:st+cap*9<=e:=by have:=hce rfl;simpa[bX.val] using this
  have aXQ:n*9<=cap*9:=Nat.mul_le_mul_right _ pd
  show Calls Tryz.prog 98 #[.slice (some ⟨B,st,none⟩) n cap,.int .i64 (i:Int),.int .i64 (j:Int)] w _
  rcases Nat.eq_or_lt_of_le hij with aWQ|lY
  ·subst aWQ
   refine Calls.mono (aEM _ n cap i w hj pd) ?_
   rintro ev W ⟨rfl,rfl⟩
   have hn:i+(n-i)=n:=by omega
   rw[hn]
   refine XD (P:=Tryz.prog) (q:=n*9) ho hH iT afO (by simp) rfl hb (bN.refl _ _) nW hH.am (λJ hJ=> ?_) pd hce
   rw[aEN hg]
   have hjj:cs[J]? =some (cs[J]'(by omega)):=List.getElem?_eq_getElem _
   refine⟨_,(HA _ _ hjj).1,?_⟩
   have:=(HA _ _ hjj).2
   split
   ·exact this
   ·rw[Nat.sub_self,Nat.zero_mul,Nat.add_zero];exact this
  ·have hm9:(i+(n-j))*9<=n*9:=Nat.mul_le_mul_right _ (by omega)
   have hdl:(cs.drop (j*9)).length=(n-j)*9:=by rw[List.length_drop,BE];omega
   have i1:∀k,k<(cs.drop (j*9)).length->(cl w.drew B (st+i*9+k)).isSome=true:=λk hk=>(nW _ (by omega) (by omega)).1
   obtain⟨w2,hw2⟩:∃w2,w2=w.drew.setCells B (st+i*9) (cs.drop (j*9)):=⟨_,rfl⟩
   have s2:∀k,st<=k->k<e->(cl w2 B k).isSome=true∧fz w2 B k=false:=λk k1 k2=>by
    rw[hw2]
    exact⟨Ab.isSome_setCells i1 (nW k k1 k2).1,by rw[ni];exact(nW k k1 k2).2⟩
   obtain⟨zs,hzl,aWR⟩:∃zs:List Value,zs.length=(n-(i+(n-j)))*9∧∀ty,(Builtin.clear_ #[140] ty #[.slice (some ⟨B,st+(i+(n-j))*9,none⟩) (n-(i+(n-j))) (cap-(i+(n-j)))]).run Tryz.prog w2=.ok (.tuple #[]) (w2.setCells B (st+(i+(n-j))*9) zs):=by
    obtain⟨zs,h1,h2⟩:=aSp w2 0 B (st+(i+(n-j))*9) (n-(i+(n-j))) (cap-(i+(n-j))) (by omega) (λk hk=>(s2 _ (by omega) (by omega)).1) (λk hk=>(s2 _ (by omega) (by omega)).2)
    exact⟨zs,h1,λty=>by unfold Builtin.clear_ at h2 ⊢;exact h2⟩
   have hC:=aOb B st n cap i j w w2 (w2.setCells B (st+(i+(n-j))*9) zs) lY hj pd (λty=>by
    rw[hw2]
    exact Jo (P:=Tryz.prog) (ty:=ty) uT uE (B:=B) (q:=st) (n:=i) (cap:=cap) (m:=n-j) (c:=cap-j) (news:=cs.drop (j*9)) (by omega) hdl w.drew (λk v hk=>by
     have hk2:=(List.getElem?_eq_some_iff.1 hk).1
     rw[List.getElem?_drop] at hk
     have:=(HA _ _ hk).1
     split
     ·omega
     ·rw[Addr.add_lit,Nat.add_assoc];exact this) (λv hv=>h1c v (List.mem_of_mem_drop hv)) (λk hk=>nW _ (by omega) (by omega))) aWR
   refine Calls.mono hC ?_
   rintro ev W ⟨rfl,rfl⟩
   have i2:∀k,k<zs.length->(cl w2 B (st+(i+(n-j))*9+k)).isSome=true:=λk hk=>(s2 _ (by omega) (by omega)).1
   have hlb:0<n->ax.h0<=B:=λ_=>hH.lb 0 B st _ e Li hb (by omega)
   have am2:xK w2:=by rw[hw2];exact(hH.am.same (w':=w.drew) rfl).setCells λ_=>hlb (by omega)
   have f2:bN w (AG π 1 (P4 [.kill])) w2:=by rw[hw2];exact((bN.refl w _).drew).setCells (.inr λk hk=>hft _ (by omega) (by omega))
   refine XD (P:=Tryz.prog) (q:=n*9) ho hH iT afO (by simp) rfl hb (f2.setCells (.inr λk hk=>hft _ (by omega) (by omega))) (λk k1 k2=>⟨Ab.isSome_setCells i2 (s2 k k1 k2).1,by rw[ni];exact(s2 k k1 k2).2⟩) (am2.setCells λ_=>hlb (by omega)) (λJ hJ=> ?_) (by omega) hce
   rw[aEN hg,dH (λ_=>by omega),hw2]
   by_cases h1:J<i*9
   ·rw[if_pos h1,dH (λ_=>by omega)]
    have hjj:cs[J]? =some (cs[J]'(by omega)):=List.getElem?_eq_getElem _
    exact⟨_,(HA _ _ hjj).1,(HA _ _ hjj).2⟩
   ·rw[if_neg h1]
    have hJ2:J-i*9<(cs.drop (j*9)).length:=by omega
    have h3:=lZ i1 hJ2
    rw[show st+i*9+(J-i*9)=st+J by omega] at h3
    refine⟨_,h3,?_⟩
    have hjj:cs[J+(j-i)*9]? =some ((cs.drop (j*9))[J-i*9]):=by
     rw[<-List.getElem?_eq_getElem,List.getElem?_drop]
     congr 1
     have:(j-i)*9=j*9-i*9:=by omega
     omega
    exact(HA _ _ hjj).2
theorem aGm [ax]{gs:List (Nat->Int)}(hg:gs.length=9)(n:Nat)(awm:n*72<=140737488355328)(w0:Bool)(w:World)(π:Pi)(vs:Array Value)
  (jQ:bh (AV.rel π) [.r (.c (.sl 0 (.k 0) (.s n) 9 w0))] vs.toList)
  (hH:pM π (hC ([[.a (.s n) (ey gs)]].map some)) (hZ ([[.a (.s n) (ey gs)]].map some)) w)(iT:∀b,π b≠none->b<1):
  Calls Tryz.prog 166 vs w (qD π w [[.a (.s n) (ey gs)]] ⟨.r (.c (.sl 1 (.k 0) (.s n) 9 true)),[.kU],[[.a (.s n) (ey gs)]]⟩):=by
 obtain⟨y1,hvt,r1⟩:∃y1,vs.toList=[y1]∧(AV.r (.c (.sl 0 (.k 0) (.s n) 9 w0))).rel π y1:=by
  match hl:vs.toList,jQ with
  | [y1],⟨a,_⟩=>exact⟨y1,rfl,a⟩
  | [],h=>exact h.elim
  |_::_::_,⟨_,h⟩=>exact h.elim
 have hvt:vs=#[y1]:=by rw[<-Array.toList_inj];exact hvt
 subst hvt
 obtain⟨B,st,q,e,hb,_,_,hx⟩:=r1
 obtain⟨rfl,hle,nW,cs,BE,HA,h1c⟩:=azQ (b:=0) hg hH rfl hb
 have afO:∀b,b< [[Sg.a (.s n) (ey gs)]].length->[Ch.kU][b]? =some .kU∨[Ch.kU][b]? =some .kill:=λb hb=>by
  match b,hb with
  |0,_=>exact .inl rfl
  |b+1,h=>exact absurd h (by simp)
 have hE:=iE
 obtain⟨i0,z0,hi0,hzz,aWL,aSm,aWM⟩:=hE
 have aSn:(Tryz.prog.info? 42).map (·.bytes)=some 72:=by rw[hi0];exact congrArg some aSm
 obtain⟨zv,hzv,aSo⟩:∃zv,xH Tryz.prog 42=some zv∧af.size zv.bE=9:=by
  have h:(xH Tryz.prog 42).map (λz=>af.size z.bE)=some 9:=by kernel_rfl
  cases hz:xH Tryz.prog 42 with
  |none=>rw[hz] at h;cases h
  |some z=>rw[hz] at h;exact⟨z,rfl,by simpa using h⟩
 obtain⟨w1,hw1⟩:∃w1,w1=w.alloc (.cells #[] 42):=⟨_,rfl⟩
 have hs1:w1.heap.size=w.heap.size+1:=by rw[hw1];exact World.size_alloc ..
 have am1:xK w1:=by rw[hw1];exact hH.am.alloc _ _
 have f1:bN w (AG π 1 (P4 [.kU])) w1:=by rw[hw1];exact(bN.refl w _).alloc _ _
 have none_:n=0->∀(a:Addr) (c:Nat),Calls Tryz.prog 166 #[.slice (some a) 0 c] w (qD π w [[.a (.s n) (ey gs)]] ⟨.r (.c (.sl 1 (.k 0) (.s n) 9 true)),[.kU],[[.a (.s n) (ey gs)]]⟩):=λh0 a c=>by
  subst h0
  refine Calls.mono (awB a 0 c w _ _ λty=>Jo (P:=Tryz.prog) (ty:=ty) uT uE (B:=w.heap.size) (q:=0) (n:=0) (cap:=0) (m:=0) (c:=c) (ad:=a) (news:=[]) (by omega) rfl (w.alloc (.cells #[] 42)) (λj v hj=>by simp at hj) (λv hv=>by cases hv) (λj hj=>by simp at hj)) ?_
  rintro ev W ⟨rfl,rfl⟩
  rw[<-hw1]
  exact aiu (P:=Tryz.prog) hg hH iT afO f1 am1
 rcases hx with⟨h0,a,rfl⟩| ⟨cap,pd,rfl,hce⟩
 ·have h0:n=0:=h0
  cases a with
  |none=>
   subst h0
   refine Calls.mono (aLY w) ?_
   rintro ev W ⟨rfl,rfl⟩
   exact aiu (P:=Tryz.prog) hg hH iT afO (bN.refl _ _) hH.am
  |some b=>exact none_ h0 b 0
 ·show Calls Tryz.prog 166 #[.slice (some ⟨B,st,none⟩) n cap] w _
  rcases Nat.eq_zero_or_pos n with h0|hn
  ·subst h0
   exact none_ rfl ⟨B,st,none⟩ cap
  ·have hbw:B<w.heap.size:=Y0 (nW st (Nat.le_refl _) (by omega)).1
   obtain⟨gc,arr,mu,hgc,vx,rest,adu⟩:=GL (P:=Tryz.prog) (ty:=0) uT uE aSn hzv aSo (by omega) (sv:=.slice (some ⟨w.heap.size,0,none⟩) 0 0) (n:=0) (cap:=0) (m:=n) (c:=cap) (ad:=⟨B,st,none⟩) (EH:=[]) (news:=cs) w1 (.inr ⟨_,rfl,λj v hj=>by simp at hj⟩) rfl BE (λj v hj=>by
    rw[Addr.add_lit,hw1]
    exact(World.cell?_alloc_past (w:=w) _ B _ hbw).trans (HA j v hj).1) (by omega) hn (by omega)
   rw[Nat.zero_add] at mu hgc
   have mu:∀ty,(Builtin.append_ #[140,140] ty #[.slice (some ⟨w.heap.size,0,none⟩) 0 0,.slice (some ⟨B,st,none⟩) n cap]).run Tryz.prog (w.alloc (.cells #[] 42))=.ok (.slice (some ⟨w1.heap.size,0,none⟩) n gc) (w1.drew.alloc (.cells arr 42)):=λty=>by rw[<-hw1];unfold Builtin.append_ at mu ⊢;exact mu
   refine Calls.mono (awB ⟨B,st,none⟩ n cap w _ _ mu) ?_
   rintro ev W ⟨rfl,rfl⟩
   have aEP:∀j,cl (w1.drew.alloc (.cells arr 42)) w1.heap.size j=arr[j]? :=λj=>World.cell?_alloc_at (w:=w1.drew) arr _ w1.heap.size j rfl
   refine ait (P:=Tryz.prog) hg hH iT afO (by omega) ((f1.drew).alloc _ _) (λk hk=>⟨by rw[aEP,Array.getElem?_eq_getElem (by omega)];rfl,World.frozen?_alloc_at (w:=w1.drew) arr _ w1.heap.size k rfl⟩) ((am1.same (w':=w1.drew) rfl).alloc _ _) (λJ hJ=> ?_) hgc
   have hjj:cs[J]? =some (cs[J]'(by omega)):=List.getElem?_eq_getElem _
   refine⟨_,?_,(HA _ _ hjj).2⟩
   rw[aEP]
   have:=(S9 adu).2 hjj
   simpa using this
end Go.Proofs.YtldgljclcgaibaaGreat
noncomputable section
namespace Go.Proofs.YtldgljclcgaibaaGreat
open Go.Ab Go.Ab.Pg
theorem apL {α:Type}{c:Bool}{v d:α}(h:cond c (some v) none=some d):c=true∧v=d:=by
 cases c with
 |true=>exact⟨rfl,Option.some.inj h⟩
 |false=>cases h
theorem auM {β δ:Type}{Q:Rq (List AV×List af) β}{R:δ->Go.Ab.T}{f:β->Option δ}{a:List AV}{h:List af}{r:m4}(hr:(FC Q R f a h).eval=some r):
  ∃b d,(a,h)=Q.em b∧f b=some d∧(R d).eval=some r:=by
 unfold FC at hr
 split at hr
 ·rename_i b hb
  obtain⟨t,b⟩:=b
  obtain⟨h1,WO⟩:=air hr
  rw[apH] at WO
  obtain⟨d,e1,e2⟩:=Option.bind_eq_some_iff.1 WO
  exact⟨b,d,Q.ok _ _ _ hb h1,e1,e2⟩
 ·cases hr
def pN:=(open Go.Ab.Rq in(dp (c (ac (slc 0 9)) (c ai (cl (ac (slc 1 9)) nil))) λa=>(c (cl (gs a.1.1 (c fu (c fu (c fu (c fu (c fu (c fu (c fu (c fu (cl fu nil)))))))))) nil) (cl (cl (gs a.2.2.1 (c fu (c fu (c fu (c fu (c fu (c fu (c fu (c fu (cl fu nil)))))))))) nil) nil))):Rq (List AV×List af) _)
def pe:=(open Go.Ab.Rq in(res (pr (ac (wz 2 9)) (pu (cu Td (cu eT nil)) (cl (cl (ga (pr (szs hole) (c fu (c fu (c fu (c fu (c fu (c fu (c fu (c fu (cl fu nil))))))))))) nil) nil)))):Rq (m4) _)
abbrev jY:=Nat×(Nat->Int)×(Nat->Int)×(Nat->Int)×(Nat->Int)×(Nat->Int)×(Nat->Int)×(Nat->Int)×(Nat->Int)×(Nat->Int)
def CI (d:jY):T:=(λd=>.leaf (pe.em (d.1,d))) d
abbrev pO:=Nat->Int->(Nat->Int)->(Nat->Int)->(Nat->Int)->(Nat->Int)->(Nat->Int)->(Nat->Int)->(Nat->Int)->(Nat->Int)->(Nat->Int)->(Nat->Int)->(Nat->Int)->(Nat->Int)->(Nat->Int)->(Nat->Int)->(Nat->Int)->(Nat->Int)->(Nat->Int)->(Nat->Int)->Nat->Bool->Bool->Option jY
def pP (g:pO):Ct:=(97,sE 0 [.i .i64,.i .i64,.i .i64,.i .i64,.i .i64,.i .i64,.i .i64,.i .i64,.i .i64] (FC pN CI (λb=>g b.1.1.1 b.1.2.1 b.2.1.1 b.2.1.2.1 b.2.1.2.2.1 b.2.1.2.2.2.1 b.2.1.2.2.2.2.1 b.2.1.2.2.2.2.2.1 b.2.1.2.2.2.2.2.2.1 b.2.1.2.2.2.2.2.2.2.1 b.2.1.2.2.2.2.2.2.2.2 b.2.2.1 b.2.2.2.1 b.2.2.2.2.1 b.2.2.2.2.2.1 b.2.2.2.2.2.2.1 b.2.2.2.2.2.2.2.1 b.2.2.2.2.2.2.2.2.1 b.2.2.2.2.2.2.2.2.2.1 b.2.2.2.2.2.2.2.2.2.2 b.1.2.2.1 b.1.1.2 b.1.2.2.2)))
def jZ (x0:Nat)(x1:Int)(x2 x3 x4 x5 x6 x7 x8 x9 fS fT BF x13 x14 x15 x16 x17 x18 x19:Nat->Int)(x20:Nat)(w0 w1:Bool):Option jY:=
 bif Nat.beq x20 1&&(w0&&(decide (0<=x1)&&(Nat.ble (Int.toNat x1) x0&&Nat.ble ((x0+1)*72) 140737488355328))) then some (x0+1,Iw (Int.toNat x1) x2 fT,Iw (Int.toNat x1) x3 BF,Iw (Int.toNat x1) x4 x13,Iw (Int.toNat x1) x5 x14,Iw (Int.toNat x1) x6 x15,Iw (Int.toNat x1) x7 x16,Iw (Int.toNat x1) x8 x17,Iw (Int.toNat x1) x9 x18,Iw (Int.toNat x1) fS x19) else none
theorem Cu:∀b,(pN).em b=([.r (.c (.sl 0 (.k 0) (.s b.1.1.1) 9 b.1.1.2)),.r (.c (.f (.i .i64 b.1.2.1))),.r (.c (.sl 1 (.k 0) (.s b.1.2.2.1) 9 b.1.2.2.2))],[[.a (.s b.1.1.1) [.i .i64 b.2.1.1,.i .i64 b.2.1.2.1,.i .i64 b.2.1.2.2.1,.i .i64 b.2.1.2.2.2.1,.i .i64 b.2.1.2.2.2.2.1,.i .i64 b.2.1.2.2.2.2.2.1,.i .i64 b.2.1.2.2.2.2.2.2.1,.i .i64 b.2.1.2.2.2.2.2.2.2.1,.i .i64 b.2.1.2.2.2.2.2.2.2.2]],[.a (.s b.1.2.2.1) [.i .i64 b.2.2.1,.i .i64 b.2.2.2.1,.i .i64 b.2.2.2.2.1,.i .i64 b.2.2.2.2.2.1,.i .i64 b.2.2.2.2.2.2.1,.i .i64 b.2.2.2.2.2.2.2.1,.i .i64 b.2.2.2.2.2.2.2.2.1,.i .i64 b.2.2.2.2.2.2.2.2.2.1,.i .i64 b.2.2.2.2.2.2.2.2.2.2]]]):=λb=>by kernel_rfl
theorem CJ [ax]:Snd Tryz.prog (pP jZ):=Sound.nil 0 [.i .i64,.i .i64,.i .i64,.i .i64,.i .i64,.i .i64,.i .i64,.i .i64,.i .i64]<|λargs h r hr w π vs jQ hH iT=>by
 obtain⟨b,d,e,hd,hq⟩:=auM hr
 rw[Cu] at e
 obtain⟨hc,rfl⟩:=apL hd
 simp only[Bool.and_eq_true,decide_eq_true_eq] at hc
 obtain⟨h0,h1,h2,h3,h4⟩:=hc
 rw[Nat.eq_of_beq_eq_true h0] at e
 obtain⟨rfl,rfl⟩:=Prod.mk.inj e
 rw[h1,show b.1.2.1=((Int.toNat b.1.2.1:Nat):Int) by omega] at jQ
 have hr2:pe.em (_,_)=r:=Option.some.inj hq
 subst hr2
 exact .inl ⟨F1 (by kernel_rfl) _ _,aCR (gs:=[b.2.1.1,b.2.1.2.1,b.2.1.2.2.1,b.2.1.2.2.2.1,b.2.1.2.2.2.2.1,b.2.1.2.2.2.2.2.1,b.2.1.2.2.2.2.2.2.1,b.2.1.2.2.2.2.2.2.2.1,b.2.1.2.2.2.2.2.2.2.2]) (vs9:=[b.2.2.1,b.2.2.2.1,b.2.2.2.2.1,b.2.2.2.2.2.1,b.2.2.2.2.2.2.1,b.2.2.2.2.2.2.2.1,b.2.2.2.2.2.2.2.2.1,b.2.2.2.2.2.2.2.2.2.1,b.2.2.2.2.2.2.2.2.2.2]) rfl rfl _ _ (Nat.le_of_ble_eq_true h3) (Nat.le_of_ble_eq_true h4) _ w π vs jQ hH λb hb=>iT b hb⟩
def pQ:=(open Go.Ab.Rq in(dp (c (ac (slc 0 9)) (c ai (cl ai nil))) λa=>(cl (cl (gs a.1.1 (c fu (c fu (c fu (c fu (c fu (c fu (c fu (c fu (cl fu nil)))))))))) nil) nil)):Rq (List AV×List af) _)
def pf:=(open Go.Ab.Rq in(res (pr (ac (wz 1 9)) (pu (cu Td nil) (cl (cl (ga (pr (szs hole) (c fu (c fu (c fu (c fu (c fu (c fu (c fu (c fu (cl fu nil))))))))))) nil) nil)))):Rq (m4) _)
abbrev fU:=Nat×(Nat->Int)×(Nat->Int)×(Nat->Int)×(Nat->Int)×(Nat->Int)×(Nat->Int)×(Nat->Int)×(Nat->Int)×(Nat->Int)
def CL (d:fU):T:=(λd=>.leaf (pf.em (d.1,d))) d
abbrev fV:=Nat->Int->Int->(Nat->Int)->(Nat->Int)->(Nat->Int)->(Nat->Int)->(Nat->Int)->(Nat->Int)->(Nat->Int)->(Nat->Int)->(Nat->Int)->Bool->Option fU
def j6 (g:fV):Ct:=(98,sE 0 [.i .i64,.i .i64,.i .i64,.i .i64,.i .i64,.i .i64,.i .i64,.i .i64,.i .i64] (FC pQ CL (λb=>g b.1.1.1 b.1.2.1 b.1.2.2 b.2.1 b.2.2.1 b.2.2.2.1 b.2.2.2.2.1 b.2.2.2.2.2.1 b.2.2.2.2.2.2.1 b.2.2.2.2.2.2.2.1 b.2.2.2.2.2.2.2.2.1 b.2.2.2.2.2.2.2.2.2 b.1.1.2)))
def cz (x0:Nat)(x1 x2:Int)(x3 x4 x5 x6 x7 x8 x9 fS fT:Nat->Int)(w0:Bool):Option fU:=
 bif w0&&(decide (0<=x1)&&(Nat.ble (Int.toNat x1) (Int.toNat x2)&&(decide (0<=x2)&&Nat.ble (Int.toNat x2) x0))) then some (Int.toNat x1+(x0-Int.toNat x2),Ov (Int.toNat x1) (Int.toNat x2-Int.toNat x1) x3,Ov (Int.toNat x1) (Int.toNat x2-Int.toNat x1) x4,Ov (Int.toNat x1) (Int.toNat x2-Int.toNat x1) x5,Ov (Int.toNat x1) (Int.toNat x2-Int.toNat x1) x6,Ov (Int.toNat x1) (Int.toNat x2-Int.toNat x1) x7,Ov (Int.toNat x1) (Int.toNat x2-Int.toNat x1) x8,Ov (Int.toNat x1) (Int.toNat x2-Int.toNat x1) x9,Ov (Int.toNat x1) (Int.toNat x2-Int.toNat x1) fS,Ov (Int.toNat x1) (Int.toNat x2-Int.toNat x1) fT) else none
theorem Cv:∀b,(pQ).em b=([.r (.c (.sl 0 (.k 0) (.s b.1.1.1) 9 b.1.1.2)),.r (.c (.f (.i .i64 b.1.2.1))),.r (.c (.f (.i .i64 b.1.2.2)))],[[.a (.s b.1.1.1) [.i .i64 b.2.1,.i .i64 b.2.2.1,.i .i64 b.2.2.2.1,.i .i64 b.2.2.2.2.1,.i .i64 b.2.2.2.2.2.1,.i .i64 b.2.2.2.2.2.2.1,.i .i64 b.2.2.2.2.2.2.2.1,.i .i64 b.2.2.2.2.2.2.2.2.1,.i .i64 b.2.2.2.2.2.2.2.2.2]]]):=λb=>by kernel_rfl
theorem pR [ax]:Snd Tryz.prog (j6 cz):=Sound.nil 0 [.i .i64,.i .i64,.i .i64,.i .i64,.i .i64,.i .i64,.i .i64,.i .i64,.i .i64]<|λargs h r hr w π vs jQ hH iT=>by
 obtain⟨b,d,e,hd,hq⟩:=auM hr
 rw[Cv] at e
 obtain⟨hc,rfl⟩:=apL hd
 simp only[Bool.and_eq_true,decide_eq_true_eq] at hc
 obtain⟨h1,h2,h3,h4,h5⟩:=hc
 obtain⟨rfl,rfl⟩:=Prod.mk.inj e
 have e2:b.1.2.1=((Int.toNat b.1.2.1:Nat):Int):=by omega
 have e3:b.1.2.2=((Int.toNat b.1.2.2:Nat):Int):=by omega
 have hr2:pf.em (_,_)=r:=Option.some.inj hq
 subst hr2
 exact .inl ⟨F1 (by kernel_rfl) _ _,aCS (gs:=[b.2.1,b.2.2.1,b.2.2.2.1,b.2.2.2.2.1,b.2.2.2.2.2.1,b.2.2.2.2.2.2.1,b.2.2.2.2.2.2.2.1,b.2.2.2.2.2.2.2.2.1,b.2.2.2.2.2.2.2.2.2]) rfl _ (Int.toNat b.1.2.1) (Int.toNat b.1.2.2) (Nat.le_of_ble_eq_true h3) (Nat.le_of_ble_eq_true h5) w π vs (by rw[<-e2,<-e3,<-h1];exact jQ) hH λb hb=>iT b hb⟩
def qF:=(open Go.Ab.Rq in(dp (cl (ac (slc 0 9)) nil) λa=>(cl (cl (gs a.1 (c fu (c fu (c fu (c fu (c fu (c fu (c fu (c fu (cl fu nil)))))))))) nil) nil)):Rq (List AV×List af) _)
def pS:=(open Go.Ab.Rq in(res (pr (ac (wz 1 9)) (pu (cu eT nil) (cl (cl (ga (pr (szs hole) (c fu (c fu (c fu (c fu (c fu (c fu (c fu (c fu (cl fu nil))))))))))) nil) nil)))):Rq (m4) _)
abbrev gF:=Nat×(Nat->Int)×(Nat->Int)×(Nat->Int)×(Nat->Int)×(Nat->Int)×(Nat->Int)×(Nat->Int)×(Nat->Int)×(Nat->Int)
def DW (d:gF):T:=(λd=>.leaf (pS.em (d.1,d))) d
abbrev kG:=Nat->(Nat->Int)->(Nat->Int)->(Nat->Int)->(Nat->Int)->(Nat->Int)->(Nat->Int)->(Nat->Int)->(Nat->Int)->(Nat->Int)->Bool->Option gF
def qG (g:kG):Ct:=(166,sE 0 [.i .i64,.i .i64,.i .i64,.i .i64,.i .i64,.i .i64,.i .i64,.i .i64,.i .i64] (FC qF DW (λb=>g b.1.1 b.2.1 b.2.2.1 b.2.2.2.1 b.2.2.2.2.1 b.2.2.2.2.2.1 b.2.2.2.2.2.2.1 b.2.2.2.2.2.2.2.1 b.2.2.2.2.2.2.2.2.1 b.2.2.2.2.2.2.2.2.2 b.1.2)))
def eC (x0:Nat)(x1 x2 x3 x4 x5 x6 x7 x8 x9:Nat->Int)(w0:Bool):Option gF:=
 bif Nat.ble (x0*72) 140737488355328 then some (x0,x1,x2,x3,x4,x5,x6,x7,x8,x9) else none
theorem CM:∀b,(qF).em b=([.r (.c (.sl 0 (.k 0) (.s b.1.1) 9 b.1.2))],[[.a (.s b.1.1) [.i .i64 b.2.1,.i .i64 b.2.2.1,.i .i64 b.2.2.2.1,.i .i64 b.2.2.2.2.1,.i .i64 b.2.2.2.2.2.1,.i .i64 b.2.2.2.2.2.2.1,.i .i64 b.2.2.2.2.2.2.2.1,.i .i64 b.2.2.2.2.2.2.2.2.1,.i .i64 b.2.2.2.2.2.2.2.2.2]]]):=λb=>by kernel_rfl
theorem DX [ax]:Snd Tryz.prog (qG eC):=Sound.nil 0 [.i .i64,.i .i64,.i .i64,.i .i64,.i .i64,.i .i64,.i .i64,.i .i64,.i .i64]<|λargs h r hr w π vs jQ hH iT=>by
 obtain⟨b,d,e,hd,hq⟩:=auM hr
 rw[CM] at e
 obtain⟨hc,rfl⟩:=apL hd
 obtain⟨rfl,rfl⟩:=Prod.mk.inj e
 have hr2:pS.em (_,_)=r:=Option.some.inj hq
 subst hr2
 exact .inl ⟨F1 (by kernel_rfl) _ _,aGm (gs:=[b.2.1,b.2.2.1,b.2.2.2.1,b.2.2.2.2.1,b.2.2.2.2.2.1,b.2.2.2.2.2.2.1,b.2.2.2.2.2.2.2.1,b.2.2.2.2.2.2.2.2.1,b.2.2.2.2.2.2.2.2.2]) rfl _ (Nat.le_of_ble_eq_true hc) _ w π vs jQ hH λb hb=>iT b hb⟩
end Go.Proofs.YtldgljclcgaibaaGreat
noncomputable section
namespace Go.Proofs.YtldgljclcgaibaaGreat
open Go.Ab Go.Ab.Pg Go.Ab.Rq
def afP:=qa (pr (cu aN Cz) cq)
def L0:=qe oG
abbrev afQ:=L0.B
abbrev bM:=Int->Int->Int->Bool->Option afQ
def dw (g:bM):Ct:=(119,FC afP (lf L0) (λb=>g b.1.1 b.1.2.1 b.1.b b.2))
def vf (x0:Int)(x1:Int)(x2:Int)(x3:Bool):Pg afQ:=ae (decide (x1>x2)) (ret (x1,true)) (ae (decide (x0<x1)) (ret (x1,true)) (ae (decide (x0>x2)) (ret (x2,true)) (ret (x0,x3))))
def aX:=λx0 x1 x2 x3=>(vf x0 x1 x2 x3).val
theorem ayE:D1 [] [0] 119 afP (lf L0) λb=>vf b.1.1 b.1.2.1 b.1.b b.2:=λb=>by kernel_rfl
theorem dN [ax]:SC (dw aX):=s0 (.nil _) ayE
def am8:=qa (pr (cu aN fM) cq)
def Tz:=qe oG
abbrev am9:=Tz.B
abbrev bC:=Int->Bool->Option am9
def cU (g:bC):Ct:=(126,FC am8 (lf Tz) (λb=>g b.1 b.2))
def Y6 (aE:bM)(x0:Int)(x1:Bool):Pg am9:=opt (aE x0 (-1152921504606846976) 1152921504606846976 x1) λd=>ret d
def aO:=λx0 x1=>(Y6 aX x0 x1).val
theorem aCT:∀aE,D0 [dw aE] 126 am8 (lf Tz) λb=>Y6 aE b.1 b.2:=λ_ b=>by kernel_rfl
theorem cY [ax]:SC (cU aO):=s0 (.c dN (.nil _)) (aCT aX)
def ana:=qa (pl fM nil)
def TA:=qe aPG
abbrev anb:=TA.B
abbrev NB:=Int->Option anb
def NC (g:NB):Ct:=(185,FC ana (lf TA) (λb=>g b))
def Y7 (x0:Int):Pg anb:=ae (decide (x0<0)) (ret (wU (0-wU x0))) (ret (wU x0))
def pg:=λx0=>(Y7 x0).val
theorem aCU:D0 [] 185 ana (lf TA) λb=>Y7 b:=λb=>by kernel_rfl
theorem Y8 [ax]:SC (NC pg):=s0 (.nil _) aCU
def anc:=qa (pl (c an aD8) nil)
def TB:=qe aKL
abbrev ane:=TB.B
abbrev anf:=Int->Int->Option ane
def ang (g:anf):Ct:=(184,FC anc (lf TB) (λb=>g b.1 b.2))
def Y9 (x0:Int)(x1:Int):Pg ane:=let y0:=Int.fdiv x0 4294967296;let y1:=Int.fdiv x1 4294967296;let y2:=wU (Int.ofNat (BitVec.toNat (BitVec.ofInt 64 x0&&&BitVec.ofInt 64 4294967295)));let y3:=wU (Int.ofNat (BitVec.toNat (BitVec.ofInt 64 x1&&&BitVec.ofInt 64 4294967295)));let y4:=wU (wU (y0*y3)+Int.fdiv (wU (y2*y3)) 4294967296);ret (wU (wU (wU (y0*y1)+Int.fdiv y4 4294967296)+Int.fdiv (wU (wU (Int.ofNat (BitVec.toNat (BitVec.ofInt 64 y4&&&BitVec.ofInt 64 4294967295)))+wU (y2*y1))) 4294967296),wU (x0*x1))
def F2:=λx0 x1=>(Y9 x0 x1).val
theorem aCV:D0 [] 184 anc (lf TB) λb=>Y9 b.1 b.2:=λb=>by kernel_rfl
theorem aCW [ax]:SC (ang F2):=s0 (.nil _) aCV
def aiv:=qa (pl (c Th aHJ) nil)
def P7:=qe aKP
abbrev TC:=P7.B
abbrev TD:=Int->Int->Bool->Option TC
def TE (g:TD):Ct:=(186,FC aiv (lf P7) (λb=>g b.1.1 b.1.2 b.2))
def Jt (lI:arv)(x0:Int)(x1:Int)(x2:Bool):Pg TC:=ae (!x2) (ret ((wI x0,x1),Int.fdiv x0 9223372036854775808==0)) (opt (lI (wU (Int.ofNat (BitVec.toNat (BitVec.ofInt 64 18446744073709551615^^^BitVec.ofInt 64 x1)))) 1 0) λd=>let y0:=wI (wU (wU (Int.ofNat (BitVec.toNat (BitVec.ofInt 64 18446744073709551615^^^BitVec.ofInt 64 x0)))+d.2));ae (decide (y0<0)) (ret ((y0,d.1),true)) (ret ((y0,d.1),x0==0&&(x1==0&&true))))
def lJ:=λx0 x1 x2=>(Jt AH x0 x1 x2).val
theorem aBh:∀lI,D0 [ais lI] 186 aiv (lf P7) λb=>Jt lI b.1.1 b.1.2 b.2:=λ_ b=>by kernel_rfl
theorem aiw [ax]:SC (TE lJ):=s0 (.c alX (.nil _)) (aBh AH)
def awC:=qa (pl FZ nil)
def adD:=qe aP4
abbrev aix:=adD.B
abbrev mC:=Int->Int->Option aix
def vA (g:mC):Ct:=(116,FC awC (lf adD) (λb=>g b.1 b.2))
def aiy (gB:NB)(ND:anf)(nj:TD)(x0:Int)(x1:Int):Pg aix:=opt (gB x0) λd=>opt (gB x1) λaj=>opt (ND d aj) λd=>opt (nj d.1 d.2 !decide (x0<0)==decide (x1<0)) λd=>ret d.1
def eN:=λx0 x1=>(aiy pg F2 lJ x0 x1).val
theorem aIU:∀gB ND nj,D0 [NC gB,ang ND,TE nj] 116 awC (lf adD) λb=>aiy gB ND nj b.1 b.2:=λ_ _ _ b=>by kernel_rfl
theorem yM [ax]:SC (vA eN):=s0 (.c Y8 (.c aCW (.c aiw (.nil _)))) (aIU pg F2 lJ)
def awD:=qa (pl az2 nil)
def adE:=qe (res (pl (o9 (c (ra aEf) aMK)) (pu nil nil)))
abbrev awE:=adE.B
abbrev aiz:=Int->Int->Option awE
def aiA (g:aiz):Ct:=(188,FC awD (lf adE) (λb=>g b.1 b.2))
def aiB (lI:arv)(x0:Int)(x1:Int):Pg awE:=ae (decide (x0>=0)) (ret ((wU x0,x1),false)) (opt (lI (wU (Int.ofNat (BitVec.toNat (BitVec.ofInt 64 18446744073709551615^^^BitVec.ofInt 64 x1)))) 1 0) λd=>ret ((wU (wU (Int.ofNat (BitVec.toNat (BitVec.ofInt 64 18446744073709551615^^^BitVec.ofInt 64 (wU x0))))+d.2),d.1),true))
def CN:=λx0 x1=>(aiB AH x0 x1).val
theorem aIV:∀lI,D0 [ais lI] 188 awD (lf adE) λb=>aiB lI b.1 b.2:=λ_ b=>by kernel_rfl
theorem awF [ax]:SC (aiA CN):=s0 (.c alX (.nil _)) (aIV AH)
def afR:=qa (pl (c Th fM) nil)
def L3:=qe aFA
abbrev afS:=L3.B
abbrev AL:=Int->Int->Int->Option afS
def GM (g:AL):Ct:=(190,FC afR (lf L3) (λb=>g b.1.1 b.1.2 b.2))
def P8 (x0:Int)(x1:Int)(x2:Int):Pg afS:=let y0:=wI (64-x2);let y1:=wI (x2-64);let y2:=2^min (Int.toNat x2) 64;let y3:= !decide (x2<0);ae (decide (x2>=64)) (ae (!decide (y1<0)) (ret (wU (x1*2^min (Int.toNat y1) 64),0)) no) (ae y3 (ae (!decide (y0<0)) (ae y3 (ret (wU (Int.ofNat (BitVec.toNat (BitVec.ofInt 64 (wU (x0*y2))|||BitVec.ofInt 64 (Int.fdiv x1 (2^min (Int.toNat y0) 64))))),wU (x1*y2))) no) no) no)
def fQ:=λx0 x1 x2=>(P8 x0 x1 x2).val
theorem ayF:D0 [] 190 afR (lf L3) λb=>P8 b.1.1 b.1.2 b.2:=λb=>by kernel_rfl
theorem P9 [ax]:SC (GM fQ):=s0 (.nil _) ayF
def abc:=qa (pl (c Th (cl Th nil)) nil)
def Ju:=qe aFA
abbrev abd:=Ju.B
abbrev sP:=Int->Int->Int->Int->Option abd
def DY (g:sP):Ct:=(189,FC abc (lf Ju) (λb=>g b.1.1 b.1.2 b.2.1 b.b))
def L4 (lI:arv)(x0:Int)(x1:Int)(x2:Int)(x3:Int):Pg abd:=opt (lI x1 x3 0) λd=>opt (lI x0 x2 d.2) λaj=>ret (aj.1,d.1)
def ib:=λx0 x1 x2 x3=>(L4 AH x0 x1 x2 x3).val
theorem auN:∀lI,D0 [ais lI] 189 abc (lf Ju) λb=>L4 lI b.1.1 b.1.2 b.2.1 b.b:=λ_ b=>by kernel_rfl
theorem L5 [ax]:SC (DY ib):=s0 (.c alX (.nil _)) (auN AH)
def afT:=qa (pl (c Th fM) nil)
def L6:=qe aFA
abbrev afU:=L6.B
abbrev AM:=Int->Int->Int->Option afU
def GN (g:AM):Ct:=(192,FC afT (lf L6) (λb=>g b.1.1 b.1.2 b.2))
def GO (x0:Int)(x1:Int)(x2:Int):Pg afU:=let y0:=wI (64-x2);let y1:=wI (x2-64);let y2:=2^min (Int.toNat x2) 64;let y3:= !decide (x2<0);ae (decide (x2>=64)) (ae (!decide (y1<0)) (ret (0,Int.fdiv x0 (2^min (Int.toNat y1) 64))) no) (ae y3 (ae y3 (ae (!decide (y0<0)) (ret (Int.fdiv x0 y2,wU (Int.ofNat (BitVec.toNat (BitVec.ofInt 64 (Int.fdiv x1 y2)|||BitVec.ofInt 64 (wU (x0*2^min (Int.toNat y0) 64))))))) no) no) no)
def hI:=λx0 x1 x2=>(GO x0 x1 x2).val
theorem ayG:D0 [] 192 afT (lf L6) λb=>GO b.1.1 b.1.2 b.2:=λb=>by kernel_rfl
theorem P' [ax]:SC (GN hI):=s0 (.nil _) ayG
def abe:=qa (pl (c Th aHJ) nil)
def Jv:=qe aud
abbrev abf:=Jv.B
abbrev xO:=Int->Int->Bool->Option abf
def DZ (g:xO):Ct:=(191,FC abe (lf Jv) (λb=>g b.1.1 b.1.2 b.2))
def L7 (x0:Int)(x1:Int)(x2:Bool):Pg abf:=let y0:=x0 !=0;let y1:=decide (x1>9223372036854775807);ae y0 (ae y0 (ret (0,false)) (ae x2 (ret (wI (wU (0-x1)),true)) (ret (wI x1,true)))) (ae (!x2) (ae y1 (ae y1 (ret (0,false)) (ae x2 (ret (wI (wU (0-x1)),true)) (ret (wI x1,true)))) (ae x2 (ae (decide (x1>9223372036854775808)) (ret (0,false)) (ae x2 (ret (wI (wU (0-x1)),true)) (ret (wI x1,true)))) (ae x2 (ret (wI (wU (0-x1)),true)) (ret (wI x1,true))))) (ae x2 (ae (decide (x1>9223372036854775808)) (ret (0,false)) (ae x2 (ret (wI (wU (0-x1)),true)) (ret (wI x1,true)))) (ae x2 (ret (wI (wU (0-x1)),true)) (ret (wI x1,true)))))
def ig:=λx0 x1 x2=>(L7 x0 x1 x2).val
theorem auO:D0 [] 191 abe (lf Jv) λb=>L7 b.1.1 b.1.2 b.2:=λb=>by kernel_rfl
theorem L8 [ax]:SC (DZ ig):=s0 (.nil _) auO
def anh:=qa (pl (c acS fM) nil)
def TF:=qe aud
abbrev ani:=TF.B
abbrev Bl:=Int->Int->Int->Option ani
def NF (g:Bl):Ct:=(118,FC anh (lf TF) (λb=>g b.1.1 b.1.2 b.2))
def Y' (vC:aiz)(iW:AL)(eD:sP)(hM:AM)(eE:xO)(x0:Int)(x1:Int)(x2:Int):Pg ani:=ae (decide (x2<0)) (ret (0,false)) (ae (decide (x2>126)) (ret (0,false)) (opt (vC x0 x1) λd=>ae (decide (x2>0)) (opt (iW 0 1 (wI (x2-1))) λaj=>opt (eD d.1.1 d.1.2 aj.1 aj.2) λaI=>opt (hM aI.1 aI.2 x2) λbp=>opt (eE bp.1 bp.2 d.2) λd=>ret d) (opt (hM d.1.1 d.1.2 x2) λaj=>opt (eE aj.1 aj.2 d.2) λd=>ret d)))
def ph:=λx0 x1 x2=>(Y' CN fQ ib hI ig x0 x1 x2).val
theorem aCX:∀vC iW eD hM eE,D0 [aiA vC,GM iW,DY eD,GN hM,DZ eE] 118 anh (lf TF) λb=>Y' vC iW eD hM eE b.1.1 b.1.2 b.2:=λ_ _ _ _ _ b=>by kernel_rfl
theorem Za [ax]:SC (NF ph):=s0 (.c awF (.c P9 (.c L5 (.c P' (.c L8 (.nil _)))))) (aCX CN fQ ib hI ig)
def aBi:=qa (pl aHJ nil)
def aiC:=qe EU
abbrev aBj:=aiC.B
abbrev TG:=Bool->Option aBj
def TH (g:TG):Ct:=(199,FC aBi (lf aiC) (λb=>g b))
def TI (x0:Bool):Pg aBj:=ae x0 (ret (-1152921504606846976)) (ret 1152921504606846976)
def oK:=λx0=>(TI x0).val
theorem aLZ:D0 [] 199 aBi (lf aiC) λb=>TI b:=λb=>by kernel_rfl
theorem adF [ax]:SC (TH oK):=s0 (.nil _) aLZ
def anj:=qa (pr (cu aN (c ai (c ab aHJ))) cq)
def TJ:=qe oG
abbrev ank:=TJ.B
abbrev F3:=Int->Bool->Bool->Bool->Option ank
def NG (g:F3):Ct:=(198,FC anj (lf TJ) (λb=>g b.1.1 b.1.2.1 b.1.b b.2))
def F4 (iF:TG)(aw:bC)(x0:Int)(x1:Bool)(x2:Bool)(x3:Bool):Pg ank:=ae (!x1) (opt (iF x2) λd=>ret (d,true)) (opt (aw x0 x3) λd=>ret d)
def lK:=λx0 x1 x2 x3=>(F4 oK aO x0 x1 x2 x3).val
theorem aCY:∀iF aw,D0 [TH iF,cU aw] 198 anj (lf TJ) λb=>F4 iF aw b.1.1 b.1.2.1 b.1.b b.2:=λ_ _ b=>by kernel_rfl
theorem Zb [ax]:SC (NG lK):=s0 (.c adF (.c cY (.nil _))) (aCY oK aO)
def afV:=qa (pr (cu aN (c acS fM)) cq)
def L9:=qe oG
abbrev afW:=L9.B
abbrev vg:=Int->Int->Int->Bool->Option afW
def GP (g:vg):Ct:=(127,FC afV (lf L9) (λb=>g b.1.1.1 b.1.1.2 b.1.2 b.2))
def Qa (sF:Bl)(lL:F3)(x0:Int)(x1:Int)(x2:Int)(x3:Bool):Pg afW:=ae (decide (x2<0)) (ret (0,true)) (ae (decide (x2>120)) (ret (0,true)) (opt (sF x0 x1 x2) λd=>opt (lL d.1 d.2 (decide (x0<0)) x3) λd=>ret d))
def mc:=λx0 x1 x2 x3=>(Qa ph lK x0 x1 x2 x3).val
theorem ayH:∀sF lL,D0 [NF sF,NG lL] 127 afV (lf L9) λb=>Qa sF lL b.1.1.1 b.1.1.2 b.1.2 b.2:=λ_ _ b=>by kernel_rfl
theorem Qb [ax]:SC (GP mc):=s0 (.c Za (.c Zb (.nil _))) (ayH ph lK)
def anl:=qa (pr (cu aN Cz) cq)
def TK:=qe oG
abbrev anm:=TK.B
abbrev bJ:=Int->Int->Int->Bool->Option anm
def eG (g:bJ):Ct:=(72,FC anl (lf TK) (λb=>g b.1.1 b.1.2.1 b.1.b b.2))
def Zc (aw:bC)(cA:mC)(hO:vg)(x0:Int)(x1:Int)(x2:Int)(x3:Bool):Pg anm:=opt (aw x0 x3) λd=>opt (aw x1 d.2) λaj=>opt (cA d.1 aj.1) λd=>opt (hO d.1 d.2 x2 aj.2) λd=>ret d
def aT:=λx0 x1 x2 x3=>(Zc aO eN mc x0 x1 x2 x3).val
theorem aCZ:∀aw cA hO,D0 [cU aw,vA cA,GP hO] 72 anl (lf TK) λb=>Zc aw cA hO b.1.1 b.1.2.1 b.1.b b.2:=λ_ _ _ b=>by kernel_rfl
theorem eV [ax]:SC (eG aT):=s0 (.c cY (.c yM (.c Qb (.nil _)))) (aCZ aO eN mc)
def aiD:=qa (pr aFw (cu azX cq))
def Qc:=qe aKI
abbrev aiE:=Qc.B
abbrev TL:=Int->Int->Bool->Option aiE
def TM (g:TL):Ct:=(77,FC aiD (lf Qc) (λb=>g b.1.1 b.1.2 b.2))
def TN (aB:bJ)(x0:Int)(x1:Int)(x2:Bool):Pg aiE:=opt (aB x0 x1 30 x2) λd=>ret d
def tx:=λx0 x1 x2=>(TN aT x0 x1 x2).val
theorem aBk:∀aB,D0 [eG aB] 77 aiD (lf Qc) λb=>TN aB b.1.1 b.1.2 b.2:=λ_ b=>by kernel_rfl
theorem aiF [ax]:SC (TM tx):=s0 (.c eV (.nil _)) (aBk aT)
def ann:=qa (pl aD8 nil)
def TO:=qe EU
abbrev ano:=TO.B
abbrev anp:=Int->Option ano
def anq (g:anp):Ct:=(267,FC ann (lf TO) (λb=>g b))
def Zd (x0:Int):Pg ano:=let y0:=Int.fdiv x0 65536;let y1:=Int.fdiv x0 4294967296;let y2:=IntKind.wrap IntKind.u8 (Int.fdiv x0 256);let y3:=IntKind.wrap IntKind.u8 y0;let y4:=IntKind.wrap IntKind.u8 y1;let y5:=Int.fdiv y1 65536;let y6:=IntKind.wrap IntKind.u8 y5;let y7:=IntKind.wrap IntKind.u8 (Int.fdiv y0 256);let y8:=IntKind.wrap IntKind.u8 (Int.fdiv y1 256);let y9:=IntKind.wrap IntKind.u8 (Int.fdiv y5 256);ae (decide (x0>=4294967296)) (ae (decide (y1>=65536)) (ae (decide (y5>=256)) (ae (aW y9 256) (ret (wI (56+wI (B4 (ByteArray.mk (List.toArray (List.append (List.append [0,1,2,2,3,3,3,3,4,4,4,4,4,4,4,4,5,5,5,5,5,5,5,5,5,5,5,5,5,5,5,5,6,6,6,6,6,6,6,6,6,6,6,6,6,6,6,6,6,6,6,6,6,6,6,6,6,6,6,6,6,6,6,6] [7,7,7,7,7,7,7,7,7,7,7,7,7,7,7,7,7,7,7,7,7,7,7,7,7,7,7,7,7,7,7,7,7,7,7,7,7,7,7,7,7,7,7,7,7,7,7,7,7,7,7,7,7,7,7,7,7,7,7,7,7,7,7,7]) (List.append [8,8,8,8,8,8,8,8,8,8,8,8,8,8,8,8,8,8,8,8,8,8,8,8,8,8,8,8,8,8,8,8,8,8,8,8,8,8,8,8,8,8,8,8,8,8,8,8,8,8,8,8,8,8,8,8,8,8,8,8,8,8,8,8] [8,8,8,8,8,8,8,8,8,8,8,8,8,8,8,8,8,8,8,8,8,8,8,8,8,8,8,8,8,8,8,8,8,8,8,8,8,8,8,8,8,8,8,8,8,8,8,8,8,8,8,8,8,8,8,8,8,8,8,8,8,8,8,8])))) (Int.toNat y9))))) no) (ae (aW y6 256) (ret (wI (48+wI (B4 (ByteArray.mk (List.toArray (List.append (List.append [0,1,2,2,3,3,3,3,4,4,4,4,4,4,4,4,5,5,5,5,5,5,5,5,5,5,5,5,5,5,5,5,6,6,6,6,6,6,6,6,6,6,6,6,6,6,6,6,6,6,6,6,6,6,6,6,6,6,6,6,6,6,6,6] [7,7,7,7,7,7,7,7,7,7,7,7,7,7,7,7,7,7,7,7,7,7,7,7,7,7,7,7,7,7,7,7,7,7,7,7,7,7,7,7,7,7,7,7,7,7,7,7,7,7,7,7,7,7,7,7,7,7,7,7,7,7,7,7]) (List.append [8,8,8,8,8,8,8,8,8,8,8,8,8,8,8,8,8,8,8,8,8,8,8,8,8,8,8,8,8,8,8,8,8,8,8,8,8,8,8,8,8,8,8,8,8,8,8,8,8,8,8,8,8,8,8,8,8,8,8,8,8,8,8,8] [8,8,8,8,8,8,8,8,8,8,8,8,8,8,8,8,8,8,8,8,8,8,8,8,8,8,8,8,8,8,8,8,8,8,8,8,8,8,8,8,8,8,8,8,8,8,8,8,8,8,8,8,8,8,8,8,8,8,8,8,8,8,8,8])))) (Int.toNat y6))))) no)) (ae (decide (y1>=256)) (ae (aW y8 256) (ret (wI (40+wI (B4 (ByteArray.mk (List.toArray (List.append (List.append [0,1,2,2,3,3,3,3,4,4,4,4,4,4,4,4,5,5,5,5,5,5,5,5,5,5,5,5,5,5,5,5,6,6,6,6,6,6,6,6,6,6,6,6,6,6,6,6,6,6,6,6,6,6,6,6,6,6,6,6,6,6,6,6] [7,7,7,7,7,7,7,7,7,7,7,7,7,7,7,7,7,7,7,7,7,7,7,7,7,7,7,7,7,7,7,7,7,7,7,7,7,7,7,7,7,7,7,7,7,7,7,7,7,7,7,7,7,7,7,7,7,7,7,7,7,7,7,7]) (List.append [8,8,8,8,8,8,8,8,8,8,8,8,8,8,8,8,8,8,8,8,8,8,8,8,8,8,8,8,8,8,8,8,8,8,8,8,8,8,8,8,8,8,8,8,8,8,8,8,8,8,8,8,8,8,8,8,8,8,8,8,8,8,8,8] [8,8,8,8,8,8,8,8,8,8,8,8,8,8,8,8,8,8,8,8,8,8,8,8,8,8,8,8,8,8,8,8,8,8,8,8,8,8,8,8,8,8,8,8,8,8,8,8,8,8,8,8,8,8,8,8,8,8,8,8,8,8,8,8])))) (Int.toNat y8))))) no) (ae (aW y4 256) (ret (wI (32+wI (B4 (ByteArray.mk (List.toArray (List.append (List.append [0,1,2,2,3,3,3,3,4,4,4,4,4,4,4,4,5,5,5,5,5,5,5,5,5,5,5,5,5,5,5,5,6,6,6,6,6,6,6,6,6,6,6,6,6,6,6,6,6,6,6,6,6,6,6,6,6,6,6,6,6,6,6,6] [7,7,7,7,7,7,7,7,7,7,7,7,7,7,7,7,7,7,7,7,7,7,7,7,7,7,7,7,7,7,7,7,7,7,7,7,7,7,7,7,7,7,7,7,7,7,7,7,7,7,7,7,7,7,7,7,7,7,7,7,7,7,7,7]) (List.append [8,8,8,8,8,8,8,8,8,8,8,8,8,8,8,8,8,8,8,8,8,8,8,8,8,8,8,8,8,8,8,8,8,8,8,8,8,8,8,8,8,8,8,8,8,8,8,8,8,8,8,8,8,8,8,8,8,8,8,8,8,8,8,8] [8,8,8,8,8,8,8,8,8,8,8,8,8,8,8,8,8,8,8,8,8,8,8,8,8,8,8,8,8,8,8,8,8,8,8,8,8,8,8,8,8,8,8,8,8,8,8,8,8,8,8,8,8,8,8,8,8,8,8,8,8,8,8,8])))) (Int.toNat y4))))) no))) (ae (decide (x0>=65536)) (ae (decide (y0>=256)) (ae (aW y7 256) (ret (wI (24+wI (B4 (ByteArray.mk (List.toArray (List.append (List.append [0,1,2,2,3,3,3,3,4,4,4,4,4,4,4,4,5,5,5,5,5,5,5,5,5,5,5,5,5,5,5,5,6,6,6,6,6,6,6,6,6,6,6,6,6,6,6,6,6,6,6,6,6,6,6,6,6,6,6,6,6,6,6,6] [7,7,7,7,7,7,7,7,7,7,7,7,7,7,7,7,7,7,7,7,7,7,7,7,7,7,7,7,7,7,7,7,7,7,7,7,7,7,7,7,7,7,7,7,7,7,7,7,7,7,7,7,7,7,7,7,7,7,7,7,7,7,7,7]) (List.append [8,8,8,8,8,8,8,8,8,8,8,8,8,8,8,8,8,8,8,8,8,8,8,8,8,8,8,8,8,8,8,8,8,8,8,8,8,8,8,8,8,8,8,8,8,8,8,8,8,8,8,8,8,8,8,8,8,8,8,8,8,8,8,8] [8,8,8,8,8,8,8,8,8,8,8,8,8,8,8,8,8,8,8,8,8,8,8,8,8,8,8,8,8,8,8,8,8,8,8,8,8,8,8,8,8,8,8,8,8,8,8,8,8,8,8,8,8,8,8,8,8,8,8,8,8,8,8,8])))) (Int.toNat y7))))) no) (ae (aW y3 256) (ret (wI (16+wI (B4 (ByteArray.mk (List.toArray (List.append (List.append [0,1,2,2,3,3,3,3,4,4,4,4,4,4,4,4,5,5,5,5,5,5,5,5,5,5,5,5,5,5,5,5,6,6,6,6,6,6,6,6,6,6,6,6,6,6,6,6,6,6,6,6,6,6,6,6,6,6,6,6,6,6,6,6] [7,7,7,7,7,7,7,7,7,7,7,7,7,7,7,7,7,7,7,7,7,7,7,7,7,7,7,7,7,7,7,7,7,7,7,7,7,7,7,7,7,7,7,7,7,7,7,7,7,7,7,7,7,7,7,7,7,7,7,7,7,7,7,7]) (List.append [8,8,8,8,8,8,8,8,8,8,8,8,8,8,8,8,8,8,8,8,8,8,8,8,8,8,8,8,8,8,8,8,8,8,8,8,8,8,8,8,8,8,8,8,8,8,8,8,8,8,8,8,8,8,8,8,8,8,8,8,8,8,8,8] [8,8,8,8,8,8,8,8,8,8,8,8,8,8,8,8,8,8,8,8,8,8,8,8,8,8,8,8,8,8,8,8,8,8,8,8,8,8,8,8,8,8,8,8,8,8,8,8,8,8,8,8,8,8,8,8,8,8,8,8,8,8,8,8])))) (Int.toNat y3))))) no)) (ae (decide (x0>=256)) (ae (aW y2 256) (ret (wI (8+wI (B4 (ByteArray.mk (List.toArray (List.append (List.append [0,1,2,2,3,3,3,3,4,4,4,4,4,4,4,4,5,5,5,5,5,5,5,5,5,5,5,5,5,5,5,5,6,6,6,6,6,6,6,6,6,6,6,6,6,6,6,6,6,6,6,6,6,6,6,6,6,6,6,6,6,6,6,6] [7,7,7,7,7,7,7,7,7,7,7,7,7,7,7,7,7,7,7,7,7,7,7,7,7,7,7,7,7,7,7,7,7,7,7,7,7,7,7,7,7,7,7,7,7,7,7,7,7,7,7,7,7,7,7,7,7,7,7,7,7,7,7,7]) (List.append [8,8,8,8,8,8,8,8,8,8,8,8,8,8,8,8,8,8,8,8,8,8,8,8,8,8,8,8,8,8,8,8,8,8,8,8,8,8,8,8,8,8,8,8,8,8,8,8,8,8,8,8,8,8,8,8,8,8,8,8,8,8,8,8] [8,8,8,8,8,8,8,8,8,8,8,8,8,8,8,8,8,8,8,8,8,8,8,8,8,8,8,8,8,8,8,8,8,8,8,8,8,8,8,8,8,8,8,8,8,8,8,8,8,8,8,8,8,8,8,8,8,8,8,8,8,8,8,8])))) (Int.toNat y2))))) no) (ae (aW (IntKind.wrap IntKind.u8 x0) 256) (ret (wI (0+wI (B4 (ByteArray.mk (List.toArray (List.append (List.append [0,1,2,2,3,3,3,3,4,4,4,4,4,4,4,4,5,5,5,5,5,5,5,5,5,5,5,5,5,5,5,5,6,6,6,6,6,6,6,6,6,6,6,6,6,6,6,6,6,6,6,6,6,6,6,6,6,6,6,6,6,6,6,6] [7,7,7,7,7,7,7,7,7,7,7,7,7,7,7,7,7,7,7,7,7,7,7,7,7,7,7,7,7,7,7,7,7,7,7,7,7,7,7,7,7,7,7,7,7,7,7,7,7,7,7,7,7,7,7,7,7,7,7,7,7,7,7,7]) (List.append [8,8,8,8,8,8,8,8,8,8,8,8,8,8,8,8,8,8,8,8,8,8,8,8,8,8,8,8,8,8,8,8,8,8,8,8,8,8,8,8,8,8,8,8,8,8,8,8,8,8,8,8,8,8,8,8,8,8,8,8,8,8,8,8] [8,8,8,8,8,8,8,8,8,8,8,8,8,8,8,8,8,8,8,8,8,8,8,8,8,8,8,8,8,8,8,8,8,8,8,8,8,8,8,8,8,8,8,8,8,8,8,8,8,8,8,8,8,8,8,8,8,8,8,8,8,8,8,8])))) (Int.toNat (IntKind.wrap IntKind.u8 x0)))))) no)))
def F5:=λx0=>(Zd x0).val
theorem aC0:D0 [] 267 ann (lf TO) λb=>Zd b:=λb=>by kernel_rfl
theorem aC1 [ax]:SC (anq F5):=s0 (.nil _) aC0
def Jw:=qa (pl aD8 nil)
def xP:=qe EU
abbrev Jx:=xP.B
abbrev zh:=Int->Option Jx
def Jy (g:zh):Ct:=(261,FC Jw (lf xP) (λb=>g b))
def zi (NH:anp)(x0:Int):Pg Jx:=opt (NH x0) λd=>ret (wI (64-d))
def nk:=λx0=>(zi F5 x0).val
theorem adG:∀NH,D0 [anq NH] 261 Jw (lf xP) λb=>zi NH b:=λ_ b=>by kernel_rfl
theorem adH [ax]:SC (Jy nk):=s0 (.c aC1 (.nil _)) (adG F5)
def anr:=qa (pl (c an (c an aD8)) nil)
def TQ:=qe aKL
abbrev ant:=TQ.B
abbrev anu:=Int->Int->Int->Option ant
def anv (g:anu):Ct:=(241,FC anr (lf TQ) (λb=>g b.1 b.2.1 b.b))
def sQ:=qs (st (pl (us 2 (c an (us 5 (c an (c an (c an (c an (us 1 (c an (c an (c an (cl an (us 88 aKd))))))))))))) (pu nil nil)))
def arx:=qs (st (pl (us 2 (c an (us 5 (c an (c an (c an (c an (us 1 (c an (c an (c an (c an (us 50 (c an (c ab (cu apg (xs 8 (cu apg aQx)))))))))))))))))) (pu nil nil)))
def ary:=qs (st (pl (us 2 (c an (us 5 (c an (c an (c an (c an (us 1 (c an (c an (c an (c an (us 50 (c an (c ab (cu Cy (c an (c an (c an (c an (c an (c an (c an (c ab (c ab aQx))))))))))))))))))))))))) (pu nil nil)))
def arz:=qs (st (pl (us 2 (c an (us 5 (c an (c an (c an (c an (us 1 (c an (c an (c an (c an (us 50 (c an (c ab (cu Cy (c an (c an (c an (c an (c an (c an (c an (c ab (cl ab (us 26 aKd)))))))))))))))))))))))))) (pu nil nil)))
abbrev GQ:=aUk⊕aUi
def afX {ρ:Type}(x:GQ)(K:AX->St->Option ρ):Option ρ:=(Sum.elim (λd=>K (.ex 0) (arx.em (d.1,d.2.1,d.b.1,d.b.2.1,d.c.1,d.c.2.1,d.c.b.1,d.c.b.2.1,d.d.1,d.d.2.1,d.d.b.1,d.d.2.1,d.c.b.2.1,d.d.b.2.1,d.b.1,d.d.1,d.d.1,d.d.c))) (Sum.elim (λd=>K (.ex 0) (ary.em (d.1,d.2.1,d.b.1,d.b.2.1,d.c.1,d.c.2.1,d.c.b.1,d.c.b.2.1,d.d.1,d.d.2.1,d.d.b.1,d.d.2.1,d.b.2.1,d.d.b.2.1,d.d.c.1,d.d.c.2.1,d.c.2.1,d.d.c.b.1,d.d.c.b.2.1,d.d.c.b.2.1,d.d.2.1,d.c.b.2.1,d.d.c.1,d.b.1,d.d.1,d.d.1,d.e))) (λd=>K (.ex 0) (arz.em (d.1,d.2.1,d.b.1,d.b.2.1,d.c.1,d.c.2.1,d.c.b.1,d.c.b.2.1,d.d.1,d.c.b.2.1,d.d.2.1,d.c.b.2.1,d.b.2.1,d.d.b.1,d.d.1,d.d.b.2.1,d.c.2.1,d.d.c.1,d.d.c.2,d.d.c.2))))) x
def GR (d:sQ.B):PL sQ GQ:=let y0:=wU (4294967296*d.2.2.2.2.2.2.2.2);let y1:=wU (d.2.2.2.2.2.2.2.1-1);let y2:=wU (d.2.2.2.2.2.2.2.2+d.2.2.1);let y3:=wU (d.2.2.2.2.2.2.2.1*d.2.2.2.1);let y4:=decide (d.2.2.2.2.2.2.2.1>=4294967296);let y5:=wU (y0+d.2.2.2.2.2.1);let y6:=decide (y2>=4294967296);let y7:=decide (y3>y5);ae y4 (ae y6 (ret (Sum.inr (Sum.inl (d.1,d.2.1,d.2.2.1,d.2.2.2.1,d.2.2.2.2.1,d.2.2.2.2.2.1,d.2.2.2.2.2.2.1,y1,y2,d.2.2.2.2.2.2.2.1,y4,d.2.2.2.2.2.2.2.2,y6)))) (ret (Sum.inl (d.1,d.2.1,d.2.2.1,d.2.2.2.1,d.2.2.2.2.1,d.2.2.2.2.2.1,d.2.2.2.2.2.2.1,y1,y2)))) (ae y7 (ae y6 (ret (Sum.inr (Sum.inr (Sum.inl (d.1,d.2.1,d.2.2.1,d.2.2.2.1,d.2.2.2.2.1,d.2.2.2.2.2.1,d.2.2.2.2.2.2.1,y1,y2,d.2.2.2.2.2.2.2.1,y4,y3,d.2.2.2.2.2.2.2.2,y0,y5,y7,y6))))) (ret (Sum.inl (d.1,d.2.1,d.2.2.1,d.2.2.2.1,d.2.2.2.2.1,d.2.2.2.2.2.1,d.2.2.2.2.2.2.1,y1,y2)))) (ret (Sum.inr (Sum.inr (Sum.inr (d.1,d.2.1,d.2.2.1,d.2.2.2.1,d.2.2.2.2.1,d.2.2.2.2.2.1,d.2.2.2.2.2.2.1,d.2.2.2.2.2.2.2.1,d.2.2.2.2.2.2.2.2,y4,y3,y0,y5,y7))))))
def GS:=bA (GR) 2000
def sR:=qs (st (pl (us 2 (c an (us 5 (c an (c an (c an (us 3 (c an (c an (c an (c an (cl an (us 116 nil))))))))))))) (pu nil nil)))
def arA:=qs (st (pl (us 2 (c an (us 5 (c an (c an (c an (us 3 (c an (c an (c an (c an (c an (us 83 (c an (c ab (cu apg (xs 8 (cu apg aQm)))))))))))))))))) (pu nil nil)))
def arB:=qs (st (pl (us 2 (c an (us 5 (c an (c an (c an (us 3 (c an (c an (c an (c an (c an (us 83 (c an (c ab (cu Cy (c an (c an (c an (c an (c an (c an (c an (c ab (c ab aQm))))))))))))))))))))))))) (pu nil nil)))
def arC:=qs (st (pl (us 2 (c an (us 5 (c an (c an (c an (us 3 (c an (c an (c an (c an (c an (us 83 (c an (c ab (cu Cy (c an (c an (c an (c an (c an (c an (c an (c ab aKf)))))))))))))))))))))))) (pu nil nil)))
abbrev GU:=aUk⊕aUi
def afY {ρ:Type}(x:GU)(K:AX->St->Option ρ):Option ρ:=(Sum.elim (λd=>K (.ex 2) (arA.em (d.1,d.2.1,d.b.1,d.b.2.1,d.c.1,d.c.2.1,d.c.b.1,d.c.b.2.1,d.d.1,d.d.2.1,d.d.b.1,d.d.2.1,d.d.1,d.d.b.2.1,d.b.1,d.c.b.1,d.c.b.1,d.d.c))) (Sum.elim (λd=>K (.ex 2) (arB.em (d.1,d.2.1,d.b.1,d.b.2.1,d.c.1,d.c.2.1,d.c.b.1,d.c.b.2.1,d.d.1,d.d.2.1,d.d.b.1,d.d.2.1,d.b.2.1,d.d.b.2.1,d.d.c.1,d.d.c.2.1,d.c.1,d.d.c.b.1,d.d.c.b.2.1,d.d.c.b.2.1,d.d.2.1,d.d.1,d.d.c.1,d.b.1,d.c.b.1,d.c.b.1,d.e))) (λd=>K (.ex 2) (arC.em (d.1,d.2.1,d.b.1,d.b.2.1,d.c.1,d.c.2.1,d.c.b.1,d.c.b.2.1,d.d.1,d.d.1,d.d.2.1,d.d.1,d.b.2.1,d.d.b.1,d.c.b.1,d.d.b.2.1,d.c.1,d.d.c.1,d.d.c.2,d.d.c.2))))) x
def GV (d:sR.B):PL sR GU:=let y0:=wU (4294967296*d.2.2.2.2.2.2.1);let y1:=wU (d.2.2.2.2.2.2.2.2-1);let y2:=wU (d.2.2.2.2.2.2.1+d.2.2.1);let y3:=wU (d.2.2.2.2.2.2.2.2*d.2.2.2.1);let y4:=wU (y0+d.2.2.2.2.1);let y5:=decide (d.2.2.2.2.2.2.2.2>=4294967296);let y6:=decide (y2>=4294967296);let y7:=decide (y3>y4);ae y5 (ae y6 (ret (Sum.inr (Sum.inl (d.1,d.2.1,d.2.2.1,d.2.2.2.1,d.2.2.2.2.1,d.2.2.2.2.2.1,y2,d.2.2.2.2.2.2.2.1,y1,d.2.2.2.2.2.2.2.2,y5,d.2.2.2.2.2.2.1,y6)))) (ret (Sum.inl (d.1,d.2.1,d.2.2.1,d.2.2.2.1,d.2.2.2.2.1,d.2.2.2.2.2.1,y2,d.2.2.2.2.2.2.2.1,y1)))) (ae y7 (ae y6 (ret (Sum.inr (Sum.inr (Sum.inl (d.1,d.2.1,d.2.2.1,d.2.2.2.1,d.2.2.2.2.1,d.2.2.2.2.2.1,y2,d.2.2.2.2.2.2.2.1,y1,d.2.2.2.2.2.2.2.2,y5,y3,d.2.2.2.2.2.2.1,y0,y4,y7,y6))))) (ret (Sum.inl (d.1,d.2.1,d.2.2.1,d.2.2.2.1,d.2.2.2.2.1,d.2.2.2.2.2.1,y2,d.2.2.2.2.2.2.2.1,y1)))) (ret (Sum.inr (Sum.inr (Sum.inr (d.1,d.2.1,d.2.2.1,d.2.2.2.1,d.2.2.2.2.1,d.2.2.2.2.2.1,d.2.2.2.2.2.2.1,d.2.2.2.2.2.2.2.1,d.2.2.2.2.2.2.2.2,y5,y3,y0,y4,y7))))))
def GW:=bA (GV) 2000
def Ze (adI:zh)(dI:LT sQ GQ)(qX:LT sR GU)(x0:Int)(x1:Int)(x2:Int):Pg ant:=let y0:= !decide (x2=0);ae (x2==0) no (ae (decide (x2<=x0)) no (ae (x0==0) (ae y0 (ae y0 (ret (wU (Int.tdiv x1 x2),Int.tmod x1 x2)) no) no) (opt (adI x2) λd=>let y0:=wU (64-wU d);let y1:=2^min (Int.toNat (wU d)) 64;let y2:= !decide (wU d<0);let y3:=wU (x1*y1);let y4:=wU (x2*y1);let y5:=Int.fdiv y4 4294967296;let y6:=wU (Int.ofNat (BitVec.toNat (BitVec.ofInt 64 (wU (x0*y1))|||BitVec.ofInt 64 (Int.fdiv x1 (2^min (Int.toNat y0) 64)))));let y7:=wU (Int.tdiv y6 y5);ae y2 (ae y2 (ae (!decide (y0<0)) (ae y2 (ae (!decide (y5=0)) (opt (dI (y4,wU d,y5,wU (Int.ofNat (BitVec.toNat (BitVec.ofInt 64 y4&&&BitVec.ofInt 64 4294967295))),y6,Int.fdiv y3 4294967296,wU (Int.ofNat (BitVec.toNat (BitVec.ofInt 64 y3&&&BitVec.ofInt 64 4294967295))),y7,wU (y6-wU (y7*y5)))) λx=>sum x (λd=>let y0:=wU (wU (wU (d.2.2.2.2.1*4294967296)+d.2.2.2.2.2.1)-wU (d.2.2.2.2.2.2.2.1*d.1));let y1:=wU (Int.tdiv y0 d.2.2.1);ae (!decide (d.2.2.1=0)) (opt (qX (d.1,d.2.1,d.2.2.1,d.2.2.2.1,d.2.2.2.2.2.2.1,d.2.2.2.2.2.2.2.1,wU (y0-wU (y1*d.2.2.1)),y0,y1)) λx=>sum x (λd=>ae (!decide (d.2.1<0)) (ret (wU (wU (d.2.2.2.2.2.1*4294967296)+d.2.2.2.2.2.2.2.2.1),Int.fdiv (wU (wU (wU (d.2.2.2.2.2.2.2.1*4294967296)+d.2.2.2.2.1)-wU (d.2.2.2.2.2.2.2.2.1*d.1))) (2^min (Int.toNat d.2.1) 64))) no) λx=>sum x (λd=>ae (!decide (d.2.1<0)) (ret (wU (wU (d.2.2.2.2.2.1*4294967296)+d.2.2.2.2.2.2.2.2.1),Int.fdiv (wU (wU (wU (d.2.2.2.2.2.2.2.1*4294967296)+d.2.2.2.2.1)-wU (d.2.2.2.2.2.2.2.2.1*d.1))) (2^min (Int.toNat d.2.1) 64))) no) λd=>ae (!decide (d.2.1<0)) (ret (wU (wU (d.2.2.2.2.2.1*4294967296)+d.2.2.2.2.2.2.2.2.1),Int.fdiv (wU (wU (wU (d.2.2.2.2.2.2.2.1*4294967296)+d.2.2.2.2.1)-wU (d.2.2.2.2.2.2.2.2.1*d.1))) (2^min (Int.toNat d.2.1) 64))) no) no) λx=>sum x (λd=>let y0:=wU (wU (wU (d.2.2.2.2.1*4294967296)+d.2.2.2.2.2.1)-wU (d.2.2.2.2.2.2.2.1*d.1));let y1:=wU (Int.tdiv y0 d.2.2.1);ae (!decide (d.2.2.1=0)) (opt (qX (d.1,d.2.1,d.2.2.1,d.2.2.2.1,d.2.2.2.2.2.2.1,d.2.2.2.2.2.2.2.1,wU (y0-wU (y1*d.2.2.1)),y0,y1)) λx=>sum x (λd=>ae (!decide (d.2.1<0)) (ret (wU (wU (d.2.2.2.2.2.1*4294967296)+d.2.2.2.2.2.2.2.2.1),Int.fdiv (wU (wU (wU (d.2.2.2.2.2.2.2.1*4294967296)+d.2.2.2.2.1)-wU (d.2.2.2.2.2.2.2.2.1*d.1))) (2^min (Int.toNat d.2.1) 64))) no) λx=>sum x (λd=>ae (!decide (d.2.1<0)) (ret (wU (wU (d.2.2.2.2.2.1*4294967296)+d.2.2.2.2.2.2.2.2.1),Int.fdiv (wU (wU (wU (d.2.2.2.2.2.2.2.1*4294967296)+d.2.2.2.2.1)-wU (d.2.2.2.2.2.2.2.2.1*d.1))) (2^min (Int.toNat d.2.1) 64))) no) λd=>ae (!decide (d.2.1<0)) (ret (wU (wU (d.2.2.2.2.2.1*4294967296)+d.2.2.2.2.2.2.2.2.1),Int.fdiv (wU (wU (wU (d.2.2.2.2.2.2.2.1*4294967296)+d.2.2.2.2.1)-wU (d.2.2.2.2.2.2.2.2.1*d.1))) (2^min (Int.toNat d.2.1) 64))) no) no) λd=>let y0:=wU (wU (wU (d.2.2.2.2.1*4294967296)+d.2.2.2.2.2.1)-wU (d.2.2.2.2.2.2.2.1*d.1));let y1:=wU (Int.tdiv y0 d.2.2.1);ae (!decide (d.2.2.1=0)) (opt (qX (d.1,d.2.1,d.2.2.1,d.2.2.2.1,d.2.2.2.2.2.2.1,d.2.2.2.2.2.2.2.1,wU (y0-wU (y1*d.2.2.1)),y0,y1)) λx=>sum x (λd=>ae (!decide (d.2.1<0)) (ret (wU (wU (d.2.2.2.2.2.1*4294967296)+d.2.2.2.2.2.2.2.2.1),Int.fdiv (wU (wU (wU (d.2.2.2.2.2.2.2.1*4294967296)+d.2.2.2.2.1)-wU (d.2.2.2.2.2.2.2.2.1*d.1))) (2^min (Int.toNat d.2.1) 64))) no) λx=>sum x (λd=>ae (!decide (d.2.1<0)) (ret (wU (wU (d.2.2.2.2.2.1*4294967296)+d.2.2.2.2.2.2.2.2.1),Int.fdiv (wU (wU (wU (d.2.2.2.2.2.2.2.1*4294967296)+d.2.2.2.2.1)-wU (d.2.2.2.2.2.2.2.2.1*d.1))) (2^min (Int.toNat d.2.1) 64))) no) λd=>ae (!decide (d.2.1<0)) (ret (wU (wU (d.2.2.2.2.2.1*4294967296)+d.2.2.2.2.2.2.2.2.1),Int.fdiv (wU (wU (wU (d.2.2.2.2.2.2.2.1*4294967296)+d.2.2.2.2.1)-wU (d.2.2.2.2.2.2.2.2.1*d.1))) (2^min (Int.toNat d.2.1) 64))) no) no) no) no) no) no) no)))
def F6:=λx0 x1 x2=>(Ze nk GS GW x0 x1 x2).val
abbrev F7:=zh×(LT sQ GQ)×(LT sR GU)
def NJ (p:F7):KK:=⟨[Jy p.1],⟨[⟨17,(0::1::rg 3 5 (12::rg 17 53 (rg 78 27 (rg 113 22 (rg 70 8 []))))),[]⟩,⟨24,(0::1::rg 3 5 (11::12::13::rg 19 86 (rg 113 22 (rg 105 8 [])))),[]⟩],[fH 17 0 sQ afX p.2.1,fH 24 0 sR afY p.b],[],[],(some ⟨0,(rg 0 6 (rg 8 127 [])),[]⟩)⟩,0,241⟩
theorem auP (p:F7):LI (NJ p) 17 sQ afX (GR):=λ_ d c K=>by kernel_rfl
theorem auQ (p:F7):LI (NJ p) 24 sR afY (GV):=λ_ d c K=>by kernel_rfl
theorem aC2 (p:F7):D2 (NJ p) anr (lf TQ) λb=>Ze p.1 p.2.1 p.b b.1 b.2.1 b.b:=λb=>by kernel_rfl
abbrev NK:F7:=(nk,GS,GW)
theorem aC3 [ax]:SC (anv F6):=sc (kS (k:=NJ NK) (.c adH (.nil _)) [17,24] [] ⟨kL (auP NK),⟨kL (auQ NK),trivial⟩⟩ trivial (aC2 NK))
def awG:=qa (pl (c acS fM) nil)
def adJ:=qe aud
abbrev awH:=adJ.B
abbrev aiG:=Int->Int->Int->Option awH
def aiH (g:aiG):Ct:=(200,FC awG (lf adJ) (λb=>g b.1.1 b.1.2 b.2))
def aiI (vC:aiz)(gB:NB)(NL:anu)(eD:sP)(eE:xO)(x0:Int)(x1:Int)(x2:Int):Pg awH:=ae (x2==0) (ret (0,false)) (opt (vC x0 x1) λd=>let y0:= !d.2==decide (x2<0);opt (gB x2) λaj=>let uy:=wU (Int.tdiv d.1.1 aj);let y1:= !decide (aj=0);ae y1 (ae y1 (opt (NL (Int.tmod d.1.1 aj) d.1.2 aj) λd=>ae (decide (d.2>=wU (aj-d.2))) (opt (eD uy d.1 0 1) λd=>opt (eE d.1 d.2 y0) λd=>ret d) (opt (eE uy d.1 y0) λd=>ret d)) no) no)
def yN:=λx0 x1 x2=>(aiI CN pg F6 ib ig x0 x1 x2).val
theorem aIW:∀vC gB NL eD eE,D0 [aiA vC,NC gB,anv NL,DY eD,DZ eE] 200 awG (lf adJ) λb=>aiI vC gB NL eD eE b.1.1 b.1.2 b.2:=λ_ _ _ _ _ b=>by kernel_rfl
theorem awI [ax]:SC (aiH yN):=s0 (.c awF (.c Y8 (.c aC3 (.c L5 (.c L8 (.nil _)))))) (aIW CN pg F6 ib ig)
def arD:=qa (pr (cu aN (c acS fM)) cq)
def Zf:=qe oG
abbrev arE:=Zf.B
abbrev adK:=Int->Int->Int->Bool->Option arE
def adL (g:adK):Ct:=(128,FC arD (lf Zf) (λb=>g b.1.1.1 b.1.1.2 b.1.2 b.2))
def Jz (iF:TG)(vD:aiG)(lL:F3)(x0:Int)(x1:Int)(x2:Int)(x3:Bool):Pg arE:=let y0:=decide (x0<0);ae (x2==0) (ae (x0==0&&(x1==0&&true)) (ret (0,true)) (opt (iF y0) λd=>ret (d,true))) (opt (vD x0 x1 x2) λd=>opt (lL d.1 d.2 (!y0==decide (x2<0)) x3) λd=>ret d)
def vE:=λx0 x1 x2 x3=>(Jz oK yN lK x0 x1 x2 x3).val
theorem aGn:∀iF vD lL,D0 [TH iF,aiH vD,NG lL] 128 arD (lf Zf) λb=>Jz iF vD lL b.1.1.1 b.1.1.2 b.1.2 b.2:=λ_ _ _ b=>by kernel_rfl
theorem arF [ax]:SC (adL vE):=s0 (.c adF (.c awI (.c Zb (.nil _)))) (aGn oK yN lK)
def abg:=qa (pr (cu aN Cz) cq)
def JA:=qe oG
abbrev abh:=JA.B
abbrev bU:=Int->Int->Int->Bool->Option abh
def cT (g:bU):Ct:=(78,FC abg (lf JA) (λb=>g b.1.1 b.1.2.1 b.1.b b.2))
def D3 (aw:bC)(cA:mC)(rJ:adK)(x0:Int)(x1:Int)(x2:Int)(x3:Bool):Pg abh:=opt (aw x0 x3) λd=>opt (aw x1 d.2) λaj=>opt (cA d.1 aj.1) λd=>opt (aw x2 aj.2) λaI=>opt (rJ d.1 d.2 aI.1 aI.2) λd=>ret d
def aS:=λx0 x1 x2 x3=>(D3 aO eN vE x0 x1 x2 x3).val
theorem auR:∀aw cA rJ,D0 [cU aw,vA cA,adL rJ] 78 abg (lf JA) λb=>D3 aw cA rJ b.1.1 b.1.2.1 b.1.b b.2:=λ_ _ _ b=>by kernel_rfl
theorem c7 [ax]:SC (cT aS):=s0 (.c cY (.c yM (.c arF (.nil _)))) (auR aO eN vE)
def JB:=qa (pr (c ai (c ai aFw)) (cu azX cq))
def xQ:=qe aKI
abbrev JC:=xQ.B
abbrev zj:=Int->Int->Int->Int->Bool->Option JC
def zk (g:zj):Ct:=(194,FC JB (lf xQ) (λb=>g b.1.1 b.1.2.1 b.1.b.1 b.1.b.2 b.2))
def zm (aq:bU)(x0:Int)(x1:Int)(x2:Int)(x3:Int)(x4:Bool):Pg JC:=opt (aq (wI (x1-x0)) x2 x3 x4) λd=>ret (wI (x0+d.1),d.2)
def iG:=λx0 x1 x2 x3 x4=>(zm aS x0 x1 x2 x3 x4).val
theorem adM:∀aq,D0 [cT aq] 194 JB (lf xQ) λb=>zm aq b.1.1 b.1.2.1 b.1.b.1 b.1.b.2 b.2:=λ_ b=>by kernel_rfl
theorem JD [ax]:SC (zk iG):=s0 (.c c7 (.nil _)) (adM aS)
def anw:=qa (pl FZ nil)
def TR:=qe aKP
abbrev anx:=TR.B
abbrev Zg:=Int->Int->Option anx
def Zh (g:Zg):Ct:=(132,FC anw (lf TR) (λb=>g b.1 b.2))
def Zi (gB:NB)(iW:AL)(hM:AM)(nj:TD)(x0:Int)(x1:Int):Pg anx:=ae (decide (x1<0)) (ret ((0,0),false)) (ae (decide (x1>127)) (ret ((0,0),false)) (opt (gB x0) λd=>opt (iW 0 d x1) λaj=>opt (hM aj.1 aj.2 x1) λaI=>ae (!(aI.1==0&&(aI.2==d&&true))) (ret ((0,0),false)) (opt (nj aj.1 aj.2 (decide (x0<0))) λd=>ae (!d.2) (ret ((0,0),false)) (ret (d.1,true)))))
def sG:=λx0 x1=>(Zi pg fQ hI lJ x0 x1).val
theorem aC4:∀gB iW hM nj,D0 [NC gB,GM iW,GN hM,TE nj] 132 anw (lf TR) λb=>Zi gB iW hM nj b.1 b.2:=λ_ _ _ _ b=>by kernel_rfl
theorem anz [ax]:SC (Zh sG):=s0 (.c Y8 (.c P9 (.c P' (.c aiw (.nil _))))) (aC4 pg fQ hI lJ)
def anA:=qa (pr (cu aN Cz) cq)
def TS:=qe oG
abbrev anB:=TS.B
abbrev cv:=Int->Int->Int->Bool->Option anB
def fI (g:cv):Ct:=(82,FC anA (lf TS) (λb=>g b.1.1 b.1.2.1 b.1.b b.2))
def NM (aw:bC)(pj:Zg)(rJ:adK)(x0:Int)(x1:Int)(x2:Int)(x3:Bool):Pg anB:=opt (aw x0 x3) λd=>opt (aw x1 d.2) λaj=>ae (decide (x2<0)) (ret (0,true)) (ae (decide (x2>66)) (ret (0,true)) (opt (pj d.1 x2) λd=>opt (rJ d.1.1 d.1.2 aj.1 aj.2) λd=>ret d))
def bk:=λx0 x1 x2 x3=>(NM aO sG vE x0 x1 x2 x3).val
theorem aC5:∀aw pj rJ,D0 [cU aw,Zh pj,adL rJ] 82 anA (lf TS) λb=>NM aw pj rJ b.1.1 b.1.2.1 b.1.b b.2:=λ_ _ _ b=>by kernel_rfl
theorem gC [ax]:SC (fI bk):=s0 (.c cY (.c anz (.c arF (.nil _)))) (aC5 aO sG vE)
def abi:=qa (pl (c Th (cl Th nil)) nil)
def JE:=qe BB
abbrev abj:=JE.B
abbrev D4:=Int->Int->Int->Int->Option abj
def abk (g:D4):Ct:=(243,FC abi (lf JE) (λb=>g b.1.1 b.1.2 b.2.1 b.b))
def Ma (x0:Int)(x1:Int)(x2:Int)(x3:Int):Pg abj:=ae (decide (x0<x2)) (ret true) (ae (x0==x2) (ret (decide (x1<x3))) (ret false))
def sS:=λx0 x1 x2 x3=>(Ma x0 x1 x2 x3).val
theorem auS:D0 [] 243 abi (lf JE) λb=>Ma b.1.1 b.1.2 b.2.1 b.b:=λb=>by kernel_rfl
theorem auT [ax]:SC (abk sS):=s0 (.nil _) auS
def XF:=qa (pl (c Th (cl Th nil)) nil)
def HB:=qe aFA
abbrev XG:=HB.B
abbrev JF:=Int->Int->Int->Int->Option XG
def XH (g:JF):Ct:=(244,FC XF (lf HB) (λb=>g b.1.1 b.1.2 b.2.1 b.b))
def JG (aiJ:aSk)(x0:Int)(x1:Int)(x2:Int)(x3:Int):Pg XG:=opt (aiJ x1 x3 0) λd=>opt (aiJ x0 x2 d.2) λaj=>ret (aj.1,d.1)
def vF:=λx0 x1 x2 x3=>(JG aba x0 x1 x2 x3).val
theorem arG:∀aiJ,D0 [aIQ aiJ] 244 XF (lf HB) λb=>JG aiJ b.1.1 b.1.2 b.2.1 b.b:=λ_ b=>by kernel_rfl
theorem arH [ax]:SC (XH vF):=s0 (.c aN9 (.nil _)) (arG aba)
def arI:=qa (pl az2 nil)
def Zj:=qe aud
abbrev arJ:=Zj.B
abbrev arK:=Int->Int->Option arJ
def arL (g:arK):Ct:=(202,FC arI (lf Zj) (λb=>g b.1 b.2))
def vh:=qs (st (pr (us 4 (cu (app 0 2) (cu aHK (cl ai (us 44 nil))))) (pl (c (so aEf) (cl (so aEf) nil)) nil)))
def aBl:=qs (st (pr (us 4 (cu (app 0 2) (cu aHK (c ai (us 12 aPH))))) (pl (c (so aEf) (cl (so aEf) nil)) nil)))
abbrev JH:=((Int×Bool)×(Int×Int)×Int×Int)
def aiK {ρ:Type}(x:JH)(K:AX->St->Option ρ):Option ρ:=(λd=>K (.ex 0) (aBl.em ((d.1.1,d.1),d.2))) x
def JJ (iW:AL)(eD:sP)(hM:AM)(Mb:D4)(arM:JF)(d:vh.B):PL vh JH:=let y0:=wI (d.1-2);let y1:=decide (d.1>=0);ae y1 (opt (iW 0 1 d.1) λaj=>opt (eD d.2.2.1 d.2.2.2 aj.1 aj.2) λaI=>opt (hM d.2.2.1 d.2.2.2 1) λbp=>opt (Mb d.2.1.1 d.2.1.2 aI.1 aI.2) λcg=>ae (!cg) (opt (arM d.2.1.1 d.2.1.2 aI.1 aI.2) λd=>opt (eD bp.1 bp.2 aj.1 aj.2) λdF=>ret (Sum.inl (y0,d,dF))) (ret (Sum.inl (y0,d.2.1,bp)))) (ret (Sum.inr ((d.1,y1),d.2)))
def TT:=bA (JJ fQ ib hI sS vF) 2000
def adN (eD:sP)(Mb:D4)(eE:xO)(dI:LT vh JH)(x0:Int)(x1:Int):Pg arJ:=ae (decide (x0<0)) (ret (0,false)) (opt (dI (126,(wU x0,x1),0,0)) λd=>opt (Mb d.2.2.1 d.2.2.2 d.2.1.1 d.2.1.2) λaj=>ae aj (opt (eD d.2.2.1 d.2.2.2 0 1) λd=>opt (eE d.1 d.2 false) λd=>ret d) (opt (eE d.2.2.1 d.2.2.2 false) λd=>ret d))
def JK:=λx0 x1=>(adN ib sS ig TT x0 x1).val
abbrev Sk:=AL×sP×AM×D4×JF×xO×(LT vh JH)
def adO (p:Sk):KK:=⟨[GM p.1,DY p.2.1,GN p.b.1,abk p.b.2.1,XH p.c.1,DZ p.c.2.1],⟨[⟨5,(rg 0 4 (rg 7 44 [])),[]⟩],[fH 5 0 vh aiK p.c.b],[],[],(some ⟨0,(0::1::rg 4 47 []),[]⟩)⟩,0,202⟩
theorem ayI (p:Sk):LI (adO p) 5 vh aiK (JJ p.1 p.2.1 p.b.1 p.b.2.1 p.c.1):=λ_ d c K=>by kernel_rfl
theorem aGo (p:Sk):D2 (adO p) arI (lf Zj) λb=>adN p.2.1 p.b.2.1 p.c.2.1 p.c.b b.1 b.2:=λb=>by kernel_rfl
abbrev adP:Sk:=(fQ,ib,hI,sS,vF,ig,TT)
theorem aGp [ax]:SC (arL JK):=sc (kS (k:=adO adP) (.c P9 (.c L5 (.c P' (.c auT (.c arH (.c L8 (.nil _))))))) [5] [] ⟨kL (ayI adP),trivial⟩ trivial (aGo adP))
def awJ:=qa (pr (cu aN az2) cq)
def adQ:=qe oG
abbrev awK:=adQ.B
abbrev XI:=Int->Int->Bool->Option awK
def aiL (g:XI):Ct:=(133,FC awJ (lf adQ) (λb=>g b.1.1 b.1.2 b.2))
def aiM (Sl:arK)(aw:bC)(x0:Int)(x1:Int)(x2:Bool):Pg awK:=opt (Sl x0 x1) λd=>ae (!d.2) (opt (aw 1152921504606846977 x2) λd=>ret d) (opt (aw d.1 x2) λd=>ret d)
def vG:=λx0 x1 x2=>(aiM JK aO x0 x1 x2).val
theorem aIX:∀Sl aw,D0 [arL Sl,cU aw] 133 awJ (lf adQ) λb=>aiM Sl aw b.1.1 b.1.2 b.2:=λ_ _ b=>by kernel_rfl
theorem awL [ax]:SC (aiL vG):=s0 (.c aGp (.c cY (.nil _))) (aIX JK aO)
def arN:=qa (pr (cu aN fM) cq)
def Zk:=qe oG
abbrev arO:=Zk.B
abbrev adR:=Int->Bool->Option arO
def adS (g:adR):Ct:=(81,FC arN (lf Zk) (λb=>g b.1 b.2))
def adT (aw:bC)(pj:Zg)(Ix:XI)(x0:Int)(x1:Bool):Pg arO:=opt (aw x0 x1) λd=>ae (decide (d.1<0)) (ret (0,true)) (opt (pj d.1 30) λaj=>opt (Ix aj.1.1 aj.1.2 d.2) λd=>ret d)
def zn:=λx0 x1=>(adT aO sG vG x0 x1).val
theorem aGq:∀aw pj Ix,D0 [cU aw,Zh pj,aiL Ix] 81 arN (lf Zk) λb=>adT aw pj Ix b.1 b.2:=λ_ _ _ b=>by kernel_rfl
theorem arP [ax]:SC (adS zn):=s0 (.c cY (.c anz (.c awL (.nil _)))) (aGq aO sG vG)
def arQ:=qa (pl fM nil)
def Zl:=qe EU
abbrev arR:=Zl.B
abbrev vH:=Int->Option arR
def zp (g:vH):Ct:=(129,FC arQ (lf Zl) (λb=>g b))
def Sn (x0:Int):Pg arR:=let y0:=Int.tmod x0 6746518852;ae (decide (y0>3373259426)) (ret (wI (y0-6746518852))) (ae (decide (y0<= -3373259426)) (ret (wI (y0+6746518852))) (ret y0))
def jx:=λx0=>(Sn x0).val
theorem aGr:D0 [] 129 arQ (lf Zl) λb=>Sn b:=λb=>by kernel_rfl
theorem D5 [ax]:SC (zp jx):=s0 (.nil _) aGr
def aEQ:=qa (pl fM nil)
def apM:=qe EU
abbrev abl:=apM.B
abbrev Mc:=Int->Option abl
def abm (g:Mc):Ct:=(36,FC aEQ (lf apM) (λb=>g b))
def Bm (x0:Int):Pg abl:=ae (decide (x0>=1152921504606846976)) (ret 1152921504606846976) (ae (decide (x0<= -1152921504606846976)) (ret 1152921504606846976) (ae (decide (x0<0)) (ret (wI (0-x0))) (ret x0)))
def vi:=λx0=>(Bm x0).val
theorem aOd:D0 [] 36 aEQ (lf apM) λb=>Bm b:=λb=>by kernel_rfl
theorem alY [ax]:SC (abm vi):=s0 (.nil _) aOd
def aER:=qa (pr (cu aN FZ) cq)
def apN:=qe oG
abbrev aES:=apN.B
abbrev abn:=Int->Int->Bool->Option aES
def alZ (g:abn):Ct:=(130,FC aER (lf apN) (λb=>g b.1.1 b.1.2 b.2))
def al0 (aB:bJ)(x0:Int)(x1:Int)(x2:Bool):Pg aES:=opt (aB x0 x1 30 x2) λd=>ret d
def Iy:=λx0 x1 x2=>(al0 aT x0 x1 x2).val
theorem aOe:∀aB,D0 [eG aB] 130 aER (lf apN) λb=>al0 aB b.1.1 b.1.2 b.2:=λ_ b=>by kernel_rfl
theorem auU [ax]:SC (alZ Iy):=s0 (.c eV (.nil _)) (aOe aT)
def aBm:=qa (pl fM nil)
def aiN:=qe aP4
abbrev aBn:=aiN.B
abbrev apO:=Int->Option aBn
def aBo (g:apO):Ct:=(242,FC aBm (lf aiN) (λb=>g b))
def apP (x0:Int):Pg aBn:=ret (Int.fdiv x0 9223372036854775808,wU x0)
def TU:=λx0=>(apP x0).val
theorem aL0:D0 [] 242 aBm (lf aiN) λb=>apP b:=λb=>by kernel_rfl
theorem aL1 [ax]:SC (aBo TU):=s0 (.nil _) aL0
def awM:=qa (pl (c acS az2) nil)
def adU:=qe aKP
abbrev awN:=adU.B
abbrev aiO:=Int->Int->Int->Int->Option awN
def awO (g:aiO):Ct:=(187,FC awM (lf adU) (λb=>g b.1.1 b.1.2 b.2.1 b.b))
def aiP (lI:arv)(x0:Int)(x1:Int)(x2:Int)(x3:Int):Pg awN:=let y0:=decide (x0<0);opt (lI x1 x3 0) λd=>opt (lI (wU x0) (wU x2) d.2) λaj=>ae (!y0==decide (x2<0)) (ret ((wI aj.1,d.1),true)) (ret ((wI aj.1,d.1),decide (wI aj.1<0)==y0))
def Iz:=λx0 x1 x2 x3=>(aiP AH x0 x1 x2 x3).val
theorem aIY:∀lI,D0 [ais lI] 187 awM (lf adU) λb=>aiP lI b.1.1 b.1.2 b.2.1 b.b:=λ_ b=>by kernel_rfl
theorem aIZ [ax]:SC (awO Iz):=s0 (.c alX (.nil _)) (aIY AH)
def awP:=qa (dp (cl aPj nil) λa=>(cl (cl (gs a.1 aFn) nil) nil))
def adV:=qe (res (pl aP5 (pu Xc nil)))
abbrev awQ:=adV.B
abbrev pT:=Nat->NI->NI->Bool->Option awQ
def IA (g:pT):Ct:=(117,sE 0 [.i .i64,.i .u64] (FC awP (lf adV) (λb=>g b.1.1 b.2.1 b.b b.1.2)))
def xR:=qs (st (dp (us 2 (cu aHK (us 1 (cu av6 (us 4 (c aPj (c ai aKg))))))) λa=>(pl (c (so (cl (gs a.1.1 aFn) nil)) (cu aKQ YR)) nil)))
def afZ:=qs (st (pu (us 2 (cu aHK (cu Cy (us 23 nil)))) (pl (cl aKM (cu aKQ nil)) nil)))
def ayJ:=qs (st (pr (us 2 (cu aHK (us 1 (cu av6 (us 4 (c aPj aPX)))))) (pl (c aKM (cu aKQ YR)) nil)))
abbrev F8:=afZ.B⊕(aHG×(NI×NI)×Int×Int)
def anC {ρ:Type}(x:F8)(K:AX->St->Option ρ):Option ρ:=(Sum.elim (λd=>K .ret (afZ.em d)) (λd=>K (.ex 0) (ayJ.em (d.1,(d.1.1.1,d.2.1),d.b)))) x
def Bn (aI0:aiO)(d:xR.B):PL xR F8:=let y0:=Int.toNat d.1.2.2;let y1:=decide (d.1.2.2<d.1.2.1);ae y1 (ae (aW d.1.2.2 d.1.1.1) (opt (aI0 d.2.2.1 d.2.2.2 (d.2.1.1 y0) (d.2.1.2 y0)) λaj=>ae (!aj.2) (ret (Sum.inr (Sum.inl (d.1.1.1,d.2.1)))) (ret (Sum.inl ((d.1.1,d.1.2.1,wI (d.1.2.2+1)),d.2.1,aj.1)))) no) (ret (Sum.inr (Sum.inr ((d.1.1,d.1.2.1,d.1.2.2,y1),d.2))))
def F9:=bA (Bn Iz) 2000
def XJ (dI:LT xR F8)(x0:Nat)(x1:Nat->Int)(x2:Nat->Int)(w0:Bool):Pg awQ:=ae (Nat.beq x0 x0) (opt (dI (((x0,w0),Int.ofNat x0,0),(x1,x2),0,0)) λx=>sum x (λd=>ret ((0,0),false)) λd=>ret (d.2.2,true)) no
def jl:=λx0 x1 x2 w0=>(XJ F9 x0 x1 x2 w0).val
abbrev XK:=aiO×(LT xR F8)
def aiQ (p:XK):KK:=⟨[awO p.1],⟨[⟨3,(0::1::3::rg 5 4 (rg 12 15 [])),[]⟩],[fH 3 1 xR anC p.2],[],[],(some ⟨0,(0::1::rg 4 23 []),[]⟩)⟩,1,117⟩
theorem aBp (p:XK):LI (aiQ p) 3 xR anC (Bn p.1):=λ_ d c K=>by kernel_rfl
theorem aI1 (p:XK):D2 (aiQ p) awP (lf adV) λb=>XJ p.2 b.1.1 b.2.1 b.b b.1.2:=λb=>by kernel_rfl
abbrev aiR:XK:=(Iz,F9)
theorem Ox [ax]:SC (IA jl):=sc (Sound.nil 0 [.i .i64,.i .u64]<|kS (k:=aiQ aiR) (.c aIZ (.nil _)) [3] [] ⟨kL (aBp aiR),trivial⟩ trivial (aI1 aiR))
def anD:=qa (dp (cu aN at6) λa=>(c ux (cl (cl (gs a.1 mB) nil) nil)))
def TV:=qe aFB
abbrev anE:=TV.B
abbrev eH:=Nat->Bool->NI->Bool->Option anE
def m6 (g:eH):Ct:=(201,sE 1 [.i .i64] (FC anD (lf TV) (λb=>g b.1.1 b.2.1 b.b b.1.2)))
def sU:=qs (st (dp (cu aN (us 4 (cu av6 (us 4 (c FY (c ai aKh)))))) λa=>(pl (c ch (c (so (cl (gs a.1.1 mB) nil)) YR)) cy)))
def ayK:=qs (st (pr (cu aN (us 4 (cu av6 (us 4 (c FY (c ai aKp)))))) (pl (c ch (c Hp YR)) cy)))
abbrev GX:=(aHG×Bool×NI×Int×Int)
def af0 {ρ:Type}(x:GX)(K:AX->St->Option ρ):Option ρ:=(λd=>K (.ex 0) (ayK.em (d.1,d.2.1,(d.1.1.1,d.b.1),d.b.2))) x
def GY (aw:bC)(aL2:apO)(vI:pT)(d:sU.B):PL sU GX:=let y0:=decide (d.1.2.2<d.1.2.1);ae y0 (ae (aW d.1.2.2 d.1.1.1) (opt (aw (d.2.2.1 (Int.toNat d.1.2.2)) d.2.1) λaj=>opt (aL2 aj.1) λaI=>opt (vI 2 (λj=>bif Nat.beq j 1 then aI.1 else bif Nat.beq j 0 then d.2.2.2.1 else d.2.2.2.1) (λj=>bif Nat.beq j 1 then aI.2 else bif Nat.beq j 0 then d.2.2.2.2 else d.2.2.2.2) true) λbp=>ret (Sum.inl ((d.1.1,d.1.2.1,wI (d.1.2.2+1)),aj.2,d.2.2.1,bp.1))) no) (ret (Sum.inr ((d.1.1,d.1.2.1,d.1.2.2,y0),d.2)))
def Qe:=bA (GY aO TU jl) 2000
def Zm (sF:Bl)(lL:F3)(dI:LT sU GX)(x0:Nat)(x1:Bool)(x2:Nat->Int)(w0:Bool):Pg anE:=ae (Nat.beq x0 x0) (opt (dI (((x0,w0),Int.ofNat x0,0),x1,x2,0,0)) λd=>opt (sF d.2.2.2.1 d.2.2.2.2 0) λaj=>opt (lL aj.1 aj.2 (decide (d.2.2.2.1<0)) d.2.1) λd=>ret d) no
def cC:=λx0 x1 x2 w0=>(Zm ph lK Qe x0 x1 x2 w0).val
abbrev NN:=bC×apO×pT×Bl×F3×(LT sU GX)
def Zn (p:NN):KK:=⟨[cU p.1,aBo p.2.1,IA p.b.1,NF p.b.2.1,NG p.c.1],⟨[⟨3,(rg 1 4 (rg 6 4 (rg 13 26 []))),[]⟩],[fH 3 2 sU af0 p.c.2],[0],[],(some ⟨0,(rg 0 4 (rg 5 34 [])),[]⟩)⟩,2,201⟩
theorem auV (p:NN):LI (Zn p) 3 sU af0 (GY p.1 p.2.1 p.b.1):=λ_ d c K=>by kernel_rfl
theorem aC6 (p:NN):D2 (Zn p) anD (lf TV) λb=>Zm p.b.2.1 p.c.1 p.c.2 b.1.1 b.2.1 b.b b.1.2:=λb=>by kernel_rfl
abbrev Zo:NN:=(aO,TU,jl,ph,lK,Qe)
theorem pk [ax]:SC (m6 cC):=sc (Sound.nil 1 [.i .i64]<|kS (k:=Zn Zo) (.c cY (.c aL1 (.c Ox (.c Za (.c Zb (.nil _)))))) [3] [] ⟨kL (auV Zo),trivial⟩ trivial (aC6 Zo))
def aiS:=qa (dp (cu aN aKu) λa=>(c ux (cl (cl (gs a.2.1 mB) nil) nil)))
def Qf:=qe aFB
abbrev aiT:=Qf.B
abbrev TW:=Int->Nat->Bool->NI->Bool->Option aiT
def TX (g:TW):Ct:=(131,sE 2 [.i .i64] (FC aiS (lf Qf) (λb=>g b.1.1 b.1.2.1 b.2.1 b.b b.1.b)))
def jy:=qs (st (pr (cu aN (c ai (us 5 (c ai (us 6 (c aQB (c ai aFj))))))) (pl (c ch ahV) cy)))
def abo:=qs (st (pr (cu aN (c ai (us 5 (c ai (us 6 (c aQB (c ai aFo))))))) (pl (c ch ahV) cy)))
abbrev sV:=abo.B
def abp {ρ:Type}:=@ef sV ((.ex 0)) abo ρ
def Md (iA:abn)(bS:eH)(d:jy.B):PL jy sV:=let n1:=d.1.2.2;let n2:=n1.2.2;let y0:=decide (n2<n1.2.1);ae y0 (ae (aW n2 n1.1.1) (opt (iA d.1.1 d.1.2.1 d.2.1) λaj=>opt (bS 2 aj.2 (cr (d.2.2.2 (1+Int.toNat n2)) [aj.1,d.2.2.2 (1+Int.toNat n2)]) true) λaI=>ret (Sum.inl ((d.1.1,aI.1,n1.1,n1.2.1,wI (n2+1)),aI.2,d.2.2))) no) (ret (Sum.inr ((d.1.1,d.1.2.1,n1.1,n1.2.1,n2,y0),d.2)))
def Me:=bA (Md Iy cC) 2000
def TY (dI:LT jy sV)(x0:Int)(x1:Nat)(x2:Bool)(x3:Nat->Int)(w0:Bool):Pg aiT:=let y0:=x1-1;ae (aW 0 x1) (ae (Ir 1 x1) (opt (dI ((x0,x3 0,(y0,w0&&true),Int.ofNat y0,0),x2,x1,x3)) λd=>ret (d.1.2.1,d.2.1)) no) no
def lM:=λx0 x1 x2 x3 w0=>(TY Me x0 x1 x2 x3 w0).val
abbrev JL:=abn×eH×(LT jy sV)
def TZ (p:JL):KK:=⟨[alZ p.1,m6 p.2.1],⟨[⟨3,(rg 2 5 (rg 8 6 (rg 17 13 []))),[]⟩],[fH 3 2 jy abp p.b],[0],[],(some ⟨0,(rg 0 6 (rg 7 23 [])),[]⟩)⟩,2,131⟩
theorem arS (p:JL):LI (TZ p) 3 jy abp (Md p.1 p.2.1):=λ_ d c K=>by kernel_rfl
theorem aBq (p:JL):D2 (TZ p) aiS (lf Qf) λb=>TY p.b b.1.1 b.1.2.1 b.2.1 b.b b.1.b:=λb=>by kernel_rfl
abbrev T0:JL:=(Iy,cC,Me)
theorem aiU [ax]:SC (TX lM):=sc (Sound.nil 2 [.i .i64]<|kS (k:=TZ T0) (.c auU (.c pk (.nil _))) [3] [] ⟨kL (arS T0),trivial⟩ trivial (aBq T0))
def awR:=qa (pr (cu aN fM) cq)
def adW:=qe oG
abbrev awS:=adW.B
abbrev IB:=Int->Bool->Option awS
def IC (g:IB):Ct:=(79,FC awR (lf adW) (λb=>g b.1 b.2))
def aiV (aw:bC)(cR:vH)(cX:Mc)(iA:abn)(fh:TW)(x0:Int)(x1:Bool):Pg awS:=opt (aw x0 x1) λd=>opt (cR d.1) λaj=>let y0:=wI (3373259426-aj);let y1:=wI (-3373259426-aj);ae (decide (aj>1686629713)) (opt (cX y0) λaI=>let uy:=wI (1686629713-aI);ae (decide (aI<=843314857)) (opt (iA y0 y0 d.2) λd=>opt (fh d.1 6 d.2 (cr (-27) [1073741824, -178956971,8947849, -213044,2959, -27]) true) λd=>opt (iA y0 d.1 d.2) λd=>let y0:=if -1073741824>d.1 then -1073741824 else d.1;ret (if 1073741824<y0 then 1073741824 else y0,d.2)) (opt (iA uy uy d.2) λd=>opt (fh d.1 7 d.2 (cr 2 [1073741824, -536870912,44739243, -1491308,26631, -296,2]) true) λd=>let anF:=wI (0-d.1);let y1:=if -1073741824>d.1 then -1073741824 else d.1;let y2:=if -1073741824>anF then -1073741824 else anF;ae (decide (y0<0)) (ret (if 1073741824<y2 then 1073741824 else y2,d.2)) (ret (if 1073741824<y1 then 1073741824 else y1,d.2)))) (ae (decide (aj< -1686629713)) (opt (cX y1) λaI=>let y0:=wI (1686629713-aI);ae (decide (aI<=843314857)) (opt (iA y1 y1 d.2) λd=>opt (fh d.1 6 d.2 (cr (-27) [1073741824, -178956971,8947849, -213044,2959, -27]) true) λd=>opt (iA y1 d.1 d.2) λd=>let y0:=if -1073741824>d.1 then -1073741824 else d.1;ret (if 1073741824<y0 then 1073741824 else y0,d.2)) (opt (iA y0 y0 d.2) λd=>opt (fh d.1 7 d.2 (cr 2 [1073741824, -536870912,44739243, -1491308,26631, -296,2]) true) λd=>let y0:=wI (0-d.1);let awT:=if -1073741824>d.1 then -1073741824 else d.1;let y2:=if -1073741824>y0 then -1073741824 else y0;ae (decide (y1<0)) (ret (if 1073741824<y2 then 1073741824 else y2,d.2)) (ret (if 1073741824<awT then 1073741824 else awT,d.2)))) (opt (cX aj) λaI=>let y0:=wI (1686629713-aI);ae (decide (aI<=843314857)) (opt (iA aj aj d.2) λd=>opt (fh d.1 6 d.2 (cr (-27) [1073741824, -178956971,8947849, -213044,2959, -27]) true) λd=>opt (iA aj d.1 d.2) λd=>let y0:=if -1073741824>d.1 then -1073741824 else d.1;ret (if 1073741824<y0 then 1073741824 else y0,d.2)) (opt (iA y0 y0 d.2) λd=>opt (fh d.1 7 d.2 (cr 2 [1073741824, -536870912,44739243, -1491308,26631, -296,2]) true) λd=>let y0:=wI (0-d.1);let y1:=if -1073741824>d.1 then -1073741824 else d.1;let y2:=if -1073741824>y0 then -1073741824 else y0;ae (decide (aj<0)) (ret (if 1073741824<y2 then 1073741824 else y2,d.2)) (ret (if 1073741824<y1 then 1073741824 else y1,d.2)))))
def mD:=λx0 x1=>(aiV aO jx vi Iy lM x0 x1).val
theorem aI2:∀aw cR cX iA fh,D0 [cU aw,zp cR,abm cX,alZ iA,TX fh] 79 awR (lf adW) λb=>aiV aw cR cX iA fh b.1 b.2:=λ_ _ _ _ _ b=>by kernel_rfl
theorem Oy [ax]:SC (IC mD):=s0 (.c cY (.c D5 (.c alY (.c auU (.c aiU (.nil _)))))) (aI2 aO jx vi Iy lM)
def awU:=qa (pr (cu aN fM) cq)
def adX:=qe oG
abbrev awV:=adX.B
abbrev Oz:=Int->Bool->Option awV
def OA (g:Oz):Ct:=(80,FC awU (lf adX) (λb=>g b.1 b.2))
def aiW (cR:vH)(dG:IB)(x0:Int)(x1:Bool):Pg awV:=opt (cR x0) λd=>opt (dG (wI (1686629713+d)) x1) λd=>ret d
def pU:=λx0 x1=>(aiW jx mD x0 x1).val
theorem aI3:∀cR dG,D0 [zp cR,IC dG] 80 awU (lf adX) λb=>aiW cR dG b.1 b.2:=λ_ _ b=>by kernel_rfl
theorem XL [ax]:SC (OA pU):=s0 (.c D5 (.c Oy (.nil _))) (aI3 jx mD)
def anG:=qa (pr (cu aN FZ) cq)
def T1:=qe oG
abbrev anH:=T1.B
abbrev Zp:=Int->Int->Bool->Option anH
def Zq (g:Zp):Ct:=(257,FC anG (lf T1) (λb=>g b.1.1 b.1.2 b.2))
def Zr (aw:bC)(cX:Mc)(aD:cv)(iA:abn)(fh:TW)(x0:Int)(x1:Int)(x2:Bool):Pg anH:=opt (aw x0 x2) λd=>let y0:=decide (d.1<0);opt (aw x1 d.2) λaj=>let uy:=decide (aj.1<0);opt (cX d.1) λaI=>opt (cX aj.1) λbp=>let anF:=if bp>aI then bp else aI;opt (cX d.1) λcg=>opt (cX aj.1) λdF=>ae (anF==0) (ret (0,aj.2)) (opt (aD (if dF<cg then dF else cg) anF 30 aj.2) λcH=>ae (decide (cH.1>444758426)) (opt (aD (wI (cH.1-1073741824)) (wI (cH.1+1073741824)) 30 cH.2) λln=>opt (iA ln.1 ln.1 ln.2) λqC=>opt (fh qC.1 12 qC.2 (cr (-46684427) [1073741824, -357913941,214748365, -153391689,119304647, -97612893,82595525, -71582788,63161284, -56512728,51130563, -46684427]) true) λnm=>opt (iA ln.1 nm.1 nm.2) λkE=>let XM:=wI (843314857+kE.1);let y1:=wI (3373259426-XM);let y2:=wI (1686629713-XM);let y3:=wI (3373259426-y2);opt (cX d.1) λd=>opt (cX aj.1) λuA=>ae (decide (d>uA)) (ae uy (ae y0 (ret (wI (0-y3),kE.2)) (ret (y3,kE.2))) (ae y0 (ret (wI (0-y2),kE.2)) (ret (y2,kE.2)))) (ae uy (ae y0 (ret (wI (0-y1),kE.2)) (ret (y1,kE.2))) (ae y0 (ret (wI (0-XM),kE.2)) (ret (XM,kE.2))))) (opt (iA cH.1 cH.1 cH.2) λln=>opt (fh ln.1 12 ln.2 (cr (-46684427) [1073741824, -357913941,214748365, -153391689,119304647, -97612893,82595525, -71582788,63161284, -56512728,51130563, -46684427]) true) λqC=>opt (iA cH.1 qC.1 qC.2) λnm=>let XM:=wI (0+nm.1);let y1:=wI (1686629713-XM);let y2:=wI (3373259426-XM);let y3:=wI (3373259426-y1);opt (cX d.1) λd=>opt (cX aj.1) λkE=>ae (decide (d>kE)) (ae uy (ae y0 (ret (wI (0-y3),nm.2)) (ret (y3,nm.2))) (ae y0 (ret (wI (0-y1),nm.2)) (ret (y1,nm.2)))) (ae uy (ae y0 (ret (wI (0-y2),nm.2)) (ret (y2,nm.2))) (ae y0 (ret (wI (0-XM),nm.2)) (ret (XM,nm.2))))))
def wB:=λx0 x1 x2=>(Zr aO vi bk Iy lM x0 x1 x2).val
theorem aC7:∀aw cX aD iA fh,D0 [cU aw,abm cX,fI aD,alZ iA,TX fh] 257 anG (lf T1) λb=>Zr aw cX aD iA fh b.1.1 b.1.2 b.2:=λ_ _ _ _ _ b=>by kernel_rfl
theorem anI [ax]:SC (Zq wB):=s0 (.c cY (.c alY (.c gC (.c auU (.c aiU (.nil _)))))) (aC7 aO vi bk Iy lM)
def anJ:=qa (pr (cu aN FZ) cq)
def T2:=qe oG
abbrev anK:=T2.B
abbrev cO:=Int->Int->Bool->Option anK
def gD (g:cO):Ct:=(212,FC anJ (lf T2) (λb=>g b.1.1 b.1.2 b.2))
def Ga (aw:bC)(x0:Int)(x1:Int)(x2:Bool):Pg anK:=opt (aw x0 x2) λd=>opt (aw x1 d.2) λaj=>opt (aw (wI (d.1-aj.1)) aj.2) λd=>ret d
def bD:=λx0 x1 x2=>(Ga aO x0 x1 x2).val
theorem aC8:∀aw,D0 [cU aw] 212 anJ (lf T2) λb=>Ga aw b.1.1 b.1.2 b.2:=λ_ b=>by kernel_rfl
theorem iv [ax]:SC (gD bD):=s0 (.c cY (.nil _)) (aC8 aO)
def aBr:=qa (pr (cu aN (c acU EX)) cq)
def aiX:=qe auf
abbrev aBs:=aiX.B
abbrev HC:=Int->Int->Int->Int->Int->Int->Bool->Option aBs
def T3 (g:HC):Ct:=(181,FC aBr (lf aiX) (λb=>g b.1.1.1 b.1.1.2.1 b.1.1.b b.1.2.1 b.1.b.1 b.1.b.2 b.2))
def apQ (aU:cO)(x0:Int)(x1:Int)(x2:Int)(x3:Int)(x4:Int)(x5:Int)(x6:Bool):Pg aBs:=opt (aU x0 x3 x6) λd=>opt (aU x1 x4 d.2) λaj=>opt (aU x2 x5 aj.2) λaI=>ret ((d.1,aj.1,aI.1),aI.2)
def tz:=λx0 x1 x2 x3 x4 x5 x6=>(apQ bD x0 x1 x2 x3 x4 x5 x6).val
theorem aL3:∀aU,D0 [gD aU] 181 aBr (lf aiX) λb=>apQ aU b.1.1.1 b.1.1.2.1 b.1.1.b b.1.2.1 b.1.b.1 b.1.b.2 b.2:=λ_ b=>by kernel_rfl
theorem adY [ax]:SC (T3 tz):=s0 (.c iv (.nil _)) (aL3 bD)
def arT:=qa (pr (cu aN (c acU fM)) cq)
def Zs:=qe auf
abbrev arU:=Zs.B
abbrev So:=Int->Int->Int->Int->Bool->Option arU
def Sp (g:So):Ct:=(157,FC arT (lf Zs) (λb=>g b.1.1.1 b.1.1.2.1 b.1.1.b b.1.2 b.2))
def adZ (aB:bJ)(x0:Int)(x1:Int)(x2:Int)(x3:Int)(x4:Bool):Pg arU:=opt (aB x0 x3 30 x4) λd=>opt (aB x1 x3 30 d.2) λaj=>opt (aB x2 x3 30 aj.2) λaI=>ret ((d.1,aj.1,aI.1),aI.2)
def rK:=λx0 x1 x2 x3 x4=>(adZ aT x0 x1 x2 x3 x4).val
theorem aGs:∀aB,D0 [eG aB] 157 arT (lf Zs) λb=>adZ aB b.1.1.1 b.1.1.2.1 b.1.1.b b.1.2 b.2:=λ_ b=>by kernel_rfl
theorem ad3 [ax]:SC (Sp rK):=s0 (.c eV (.nil _)) (aGs aT)
def anL:=qa (dp (cu aN at6) λa=>(c ux (cl (cl (gs a.1 mB) nil) nil)))
def T4:=qe aFB
abbrev anM:=T4.B
abbrev wC:=Nat->Bool->NI->Bool->Option anM
def Gb (g:wC):Ct:=(135,sE 1 [.i .i64] (FC anL (lf T4) (λb=>g b.1.1 b.2.1 b.b b.1.2)))
def sW:=qs (st (pr (cu aN (us 4 (cu av6 (us 6 (c FY (c ai (cl ai (us 19 nil)))))))) (pl (c ch (c Hp YR)) cy)))
def af1:=qs (st (pr (cu aN (us 4 (cu av6 (us 6 (c FY (c ai (c ai (cl ab (us 18 nil))))))))) (pl (c ch (c Hp YR)) cy)))
abbrev GZ:=af1.B
def af2 {ρ:Type}:=@ef GZ ((.ex 0)) af1 ρ
def AN (aw:bC)(cA:mC)(vI:pT)(d:sW.B):PL sW GZ:=let y0:=decide (d.1.2.2<d.1.2.1);ae y0 (ae (aW d.1.2.2 d.1.1.1) (opt (aw (d.2.2.1.2 (Int.toNat d.1.2.2)) d.2.1) λaj=>opt (cA aj.1 aj.1) λaI=>opt (vI 2 (λj=>bif Nat.beq j 1 then aI.1 else bif Nat.beq j 0 then d.2.2.2.1 else d.2.2.2.1) (λj=>bif Nat.beq j 1 then aI.2 else bif Nat.beq j 0 then d.2.2.2.2 else d.2.2.2.2) true) λbp=>ret (Sum.inl ((d.1.1,d.1.2.1,wI (d.1.2.2+1)),aj.2,d.2.2.1,bp.1))) no) (ret (Sum.inr ((d.1.1,d.1.2.1,d.1.2.2,y0),d.2)))
def Qg:=bA (AN aO eN jl) 2000
def Zt (Ix:XI)(dI:LT sW GZ)(x0:Nat)(x1:Bool)(x2:Nat->Int)(w0:Bool):Pg anM:=let y0:=if 64<Int.ofNat x0 then 64 else Int.ofNat x0;let y1:=Int.toNat y0;ae (Ir y0 x0) (opt (dI (((y1,w0&&false),Int.ofNat y1,0),x1,(x0,x2),0,0)) λd=>opt (Ix d.2.2.2.1 d.2.2.2.2 d.2.1) λd=>ret d) no
def fJ:=λx0 x1 x2 w0=>(Zt vG Qg x0 x1 x2 w0).val
abbrev NO:=bC×mC×pT×XI×(LT sW GZ)
def Zu (p:NO):KK:=⟨[cU p.1,vA p.2.1,IA p.b.1,aiL p.b.2.1],⟨[⟨3,(rg 1 4 (rg 6 6 (rg 15 19 []))),[]⟩],[fH 3 2 sW af2 p.c],[0],[],(some ⟨0,(rg 0 4 (rg 5 29 [])),[]⟩)⟩,2,135⟩
theorem auW (p:NO):LI (Zu p) 3 sW af2 (AN p.1 p.2.1 p.b.1):=λ_ d c K=>by kernel_rfl
theorem aC9 (p:NO):D2 (Zu p) anL (lf T4) λb=>Zt p.b.2.1 p.c b.1.1 b.2.1 b.b b.1.2:=λb=>by kernel_rfl
abbrev Zv:NO:=(aO,eN,jl,vG,Qg)
theorem NP [ax]:SC (Gb fJ):=sc (Sound.nil 1 [.i .i64]<|kS (k:=Zu Zv) (.c cY (.c yM (.c Ox (.c awL (.nil _))))) [3] [] ⟨kL (auW Zv),trivial⟩ trivial (aC9 Zv))
def awW:=qa (pr (cu aN EX) cq)
def ad4:=qe oG
abbrev awX:=ad4.B
abbrev yO:=Int->Int->Int->Bool->Option awX
def OB (g:yO):Ct:=(158,FC awW (lf ad4) (λb=>g b.1.1 b.1.2.1 b.1.b b.2))
def aiY (jg:wC)(x0:Int)(x1:Int)(x2:Int)(x3:Bool):Pg awX:=opt (jg 3 x3 (cr x0 [x2,x1,x0]) false) λd=>ret d
def nX:=λx0 x1 x2 x3=>(aiY fJ x0 x1 x2 x3).val
theorem aI4:∀jg,D0 [Gb jg] 158 awW (lf ad4) λb=>aiY jg b.1.1 b.1.2.1 b.1.b b.2:=λ_ b=>by kernel_rfl
theorem XN [ax]:SC (OB nX):=s0 (.c NP (.nil _)) (aI4 fJ)
def aBt:=qa (pr (cu aN EX) cq)
def aiZ:=qe auf
abbrev aBu:=aiZ.B
abbrev Mf:=Int->Int->Int->Bool->Option aBu
def ad5 (g:Mf):Ct:=(211,FC aBt (lf aiZ) (λb=>g b.1.1 b.1.2.1 b.1.b b.2))
def apR (aw:bC)(x0:Int)(x1:Int)(x2:Int)(x3:Bool):Pg aBu:=opt (aw x0 x3) λd=>opt (aw x1 d.2) λaj=>opt (aw x2 aj.2) λaI=>ret ((d.1,aj.1,aI.1),aI.2)
def zq:=λx0 x1 x2 x3=>(apR aO x0 x1 x2 x3).val
theorem aL4:∀aw,D0 [cU aw] 211 aBt (lf aiZ) λb=>apR aw b.1.1 b.1.2.1 b.1.b b.2:=λ_ b=>by kernel_rfl
theorem apS [ax]:SC (ad5 zq):=s0 (.c cY (.nil _)) (aL4 aO)
def awY:=qa (pr (cu aN apn) cq)
def ad6:=qe aug
abbrev awZ:=ad6.B
abbrev OC:=Int->Int->Int->Int->Bool->Option awZ
def XO (g:OC):Ct:=(134,FC awY (lf ad6) (λb=>g b.1.1 b.1.2.1 b.1.b.1 b.1.b.2 b.2))
def np:=qs (st (pr (cu aN (us 2 (cu amQ (cu av7 (us 1 aPu))))) (pl (c ch (cl uC (cu ahY nil))) cy)))
def anN:=qs (st (pr (cu aN (us 2 (cu amQ (cu av7 (us 1 (c ai (cl ab (us 10 nil)))))))) (pl (c ch (cl uC (cu ahY nil))) cy)))
abbrev Bo:=anN.B
def anO {ρ:Type}:=@ef Bo ((.ex 0)) anN ρ
def Zw (aw:bC)(d:np.B):PL np Bo:=let n1:=d.2.2;let n3:=n1.2.1;let n2:=n1.2.2;let y0:=aW d.1 4;let y1:=d.1==3;let y2:=d.1==2;let y3:=d.1==1;let y4:=wI (d.1+1);let y5:=decide (d.1<4);ae y5 (ae y0 (ae y1 (opt (aw n2.2 d.2.1) λaj=>ae y0 (ae y1 (ret (Sum.inl (y4,aj.2,n1.1,n3,n2.1,aj.1))) (ae y2 (ret (Sum.inl (y4,aj.2,n1.1,n3,aj.1,n2.2))) (ae y3 (ret (Sum.inl (y4,aj.2,n1.1,aj.1,n2))) (ret (Sum.inl (y4,aj.2,aj.1,n1.2)))))) no) (ae y2 (opt (aw n2.1 d.2.1) λaj=>ae y0 (ae y1 (ret (Sum.inl (y4,aj.2,n1.1,n3,n2.1,aj.1))) (ae y2 (ret (Sum.inl (y4,aj.2,n1.1,n3,aj.1,n2.2))) (ae y3 (ret (Sum.inl (y4,aj.2,n1.1,aj.1,n2))) (ret (Sum.inl (y4,aj.2,aj.1,n1.2)))))) no) (ae y3 (opt (aw n3 d.2.1) λaj=>ae y0 (ae y1 (ret (Sum.inl (y4,aj.2,n1.1,n3,n2.1,aj.1))) (ae y2 (ret (Sum.inl (y4,aj.2,n1.1,n3,aj.1,n2.2))) (ae y3 (ret (Sum.inl (y4,aj.2,n1.1,aj.1,n2))) (ret (Sum.inl (y4,aj.2,aj.1,n1.2)))))) no) (opt (aw n1.1 d.2.1) λaj=>ae y0 (ae y1 (ret (Sum.inl (y4,aj.2,n1.1,n3,n2.1,aj.1))) (ae y2 (ret (Sum.inl (y4,aj.2,n1.1,n3,aj.1,n2.2))) (ae y3 (ret (Sum.inl (y4,aj.2,n1.1,aj.1,n2))) (ret (Sum.inl (y4,aj.2,aj.1,n1.2)))))) no)))) no) (ret (Sum.inr ((d.1,y5),d.2)))
def Zx:=bA (Zw aO) 2000
def ai0 (dI:LT np Bo)(x0:Int)(x1:Int)(x2:Int)(x3:Int)(x4:Bool):Pg awZ:=opt (dI (0,x4,x0,x1,x2,x3)) λd=>ret (d.2.2,d.2.1)
def vJ:=λx0 x1 x2 x3 x4=>(ai0 Zx x0 x1 x2 x3 x4).val
abbrev XP:=bC×(LT np Bo)
def ai1 (p:XP):KK:=⟨[cU p.1],⟨[⟨2,(1::2::5::rg 7 11 []),[]⟩],[fH 2 1 np anO p.2],[0],[],(some ⟨0,(rg 0 4 (rg 5 13 [])),[]⟩)⟩,1,134⟩
theorem aBv (p:XP):LI (ai1 p) 2 np anO (Zw p.1):=λ_ d c K=>by kernel_rfl
theorem aI5 (p:XP):D2 (ai1 p) awY (lf ad6) λb=>ai0 p.2 b.1.1 b.1.2.1 b.1.b.1 b.1.b.2 b.2:=λb=>by kernel_rfl
abbrev ai2:XP:=(aO,Zx)
theorem ai3 [ax]:SC (XO vJ):=sc (kS (k:=ai1 ai2) (.c cY (.nil _)) [2] [] ⟨kL (aBv ai2),trivial⟩ trivial (aI5 ai2))
def aw0:=qa (pu nil nil)
def ad7:=qe (res (pu (aa (cu at9 apo)) (pu nil nil)))
abbrev ai4:=ad7.B
abbrev yP:=Option ai4
def ID (g:yP):Ct:=(84,FC aw0 (lf ad7) (λ_=>g))
def ai5:Pg ai4:=ret ()
def mE:Option ai4:=(ai5).val
theorem aI6:D0 [] 84 aw0 (lf ad7) λb=>ai5:=λb=>by kernel_rfl
theorem OD [ax]:SC (ID mE):=s0 (.nil _) aI6
def arV:=qa (pl apn nil)
def Zy:=qe aQh
abbrev arW:=Zy.B
abbrev JM:=Int->Int->Int->Int->Option arW
def ad8 (g:JM):Ct:=(182,FC arV (lf Zy) (λb=>g b.1 b.2.1 b.b.1 b.b.2))
def ad9 (nY:OC)(x0:Int)(x1:Int)(x2:Int)(x3:Int):Pg arW:=opt (nY x0 x1 x2 x3 false) λd=>ret (d.1.1,wI (0-d.1.2.1),wI (0-d.1.2.2.1),wI (0-d.1.2.2.2))
def zr:=λx0 x1 x2 x3=>(ad9 vJ x0 x1 x2 x3).val
theorem aGt:∀nY,D0 [XO nY] 182 arV (lf Zy) λb=>ad9 nY b.1 b.2.1 b.b.1 b.b.2:=λ_ b=>by kernel_rfl
theorem arX [ax]:SC (ad8 zr):=s0 (.c ai3 (.nil _)) (aGt vJ)
def anP:=qa (pl ac0 nil)
def T5:=qe aQb
abbrev anQ:=T5.B
abbrev ky:=NI->Int->Option anQ
def pn (g:ky):Ct:=(154,FC anP (lf T5) (λb=>g b.1 b.2))
def kH:=qs (st (pr (us 1 (c ai (cu av8 (us 1 (cu aHL (cu Xd (us 2 aKi))))))) (pl (c mw ahZ) nil)))
def af3:=qs (st (pr (us 1 (c ai (cu av8 (us 1 (cu aHL (cu Xd (us 2 aFp))))))) (pl (c mw ahZ) nil)))
abbrev vj:=af3.B
def af4 {ρ:Type}:=@ef vj ((.ex 0)) af3 ρ
def Qh (d:kH.B):PL kH vj:=let n4:=d.2.2;let n3:=d.2.1;let n2:=d.1.1;let n1:=d.1.2;let y0:=wI (n2+n1);let y1:=decide (n1<3);ae y1 (ae (decide (y0>=0)) (ae (decide (y0<24)) (ae (aW y0 24) (ae (aW n1 3) (ae (n1==2) (ret (Sum.inl ((n2,wI (n1+1)),n3,n4.1,n4.2.1,n3 (Int.toNat y0)))) (ae (n1==1) (ret (Sum.inl ((n2,wI (n1+1)),n3,n4.1,n3 (Int.toNat y0),n4.2.2))) (ret (Sum.inl ((n2,wI (n1+1)),n3,n3 (Int.toNat y0),n4.2))))) no) no) (ret (Sum.inl ((n2,wI (n1+1)),d.2)))) (ret (Sum.inl ((n2,wI (n1+1)),d.2)))) (ret (Sum.inr ((n2,n1,y1),d.2)))
def Qi:=bA (Qh) 2000
def Zz (dI:LT kH vj)(x0:Nat->Int)(x1:Int):Pg anQ:=opt (dI ((x1,0),x0,0,0,0)) λd=>ret d.2.2
def ee:=λx0 x1=>(Zz Qi x0 x1).val
abbrev NQ:=(LT kH vj)
def ZA (p:NQ):KK:=⟨[],⟨[⟨3,(0::3::6::7::rg 9 8 (rg 19 8 [17,18])),[]⟩],[fH 3 0 kH af4 p],[],[],(some ⟨0,(rg 0 4 (rg 5 22 [])),[]⟩)⟩,0,154⟩
theorem auX (p:NQ):LI (ZA p) 3 kH af4 (Qh):=λ_ d c K=>by kernel_rfl
theorem aDa (p:NQ):D2 (ZA p) anP (lf T5) λb=>Zz p b.1 b.2:=λb=>by kernel_rfl
abbrev ZB:NQ:=Qi
theorem sH [ax]:SC (pn ee):=sc (kS (k:=ZA ZB) (.nil _) [3] [] ⟨kL (auX ZB),trivial⟩ trivial (aDa ZB))
def anR:=qa (dp (c jW aPW) λa=>(cl (cl (gs a.b.1 mB) nil) nil))
def T6:=qe aQi
abbrev ZC:=T6.B
abbrev wD:=NI->Int->Nat->NI->Bool->Option ZC
def Bp (g:wD):Ct:=(32,sE 2 [.i .i64] (FC anR (lf T6) (λb=>g b.1.1 b.1.2.1 b.1.b.1 b.2 b.1.b.2)))
def kI:=qs (st (dp (us 1 (c ai (c Tg (cu Rz (us 2 (cu BZ (us 3 (c Tg (c ai aKi))))))))) λa=>(pl (c (so (cl (gs a.2.1.1 mB) nil)) LO) nil)))
def ayL:=qs (st (pr (us 1 (c ai (c Tg (cu Rz (us 2 (cu BZ (us 3 (c Tg (c ai aFp))))))))) (pl (c Hp LO) nil)))
abbrev vk:=(aPe×NI×NI×NI)
def af5 {ρ:Type}(x:vk)(K:AX->St->Option ρ):Option ρ:=(λd=>K (.ex 0) (ayL.em (d.1,(d.1.2.1.1,d.2.1),d.b))) x
def Qj (d:kI.B):PL kI vk:=let n2:=d.1.2.2;let n3:=n2.2.2;let n1:=(d.1.1,d.1.2.1,n2.1,n2.2.1,wI (n3+1));let y0:=wI (d.1.1+n3);let y1:=Int.toNat y0;let y2:=decide (n3<n2.2.1);ae y2 (ae (aW n3 n2.1.1) (ae (decide (y0>=0)) (ae (decide (y0<24)) (ae (aW y0 24) (ae (true&&Nat.ble (0+y1*1+1) 24) (ret (Sum.inl (n1,d.2.1,λj=>bif Nat.beq j y1 then d.2.1 (Int.toNat n3) else d.2.2.1 j,d.2.2.2))) no) no) (ret (Sum.inl (n1,d.2)))) (ret (Sum.inl (n1,d.2)))) no) (ret (Sum.inr ((d.1.1,d.1.2.1,n2.1,n2.2.1,n3,y2),d.2)))
def Qk:=bA (Qj) 2000
def ZD (dI:LT kI vk)(x0:Nat->Int)(x1:Int)(x2:Nat)(x3:Nat->Int)(w0:Bool):Pg ZC:=ae (Nat.beq x2 x2) (opt (dI ((x1,(x2,w0),(x2,w0),Int.ofNat x2,0),x3,x0,λx=>0)) λd=>ret d.2.2.1) no
def fK:=λx0 x1 x2 x3 w0=>(ZD Qk x0 x1 x2 x3 w0).val
abbrev NR:=(LT kI vk)
def ZE (p:NR):KK:=⟨[],⟨[⟨2,(0::4::5::7::8::9::rg 13 10 (rg 25 6 [23,24])),[]⟩],[fH 2 1 kI af5 p],[],[],(some ⟨0,(rg 0 6 (rg 7 24 [])),[]⟩)⟩,1,32⟩
theorem auY (p:NR):LI (ZE p) 2 kI af5 (Qj):=λ_ d c K=>by kernel_rfl
theorem aDb (p:NR):D2 (ZE p) anR (lf T6) λb=>ZD p b.1.1 b.1.2.1 b.1.b.1 b.2 b.1.b.2:=λb=>by kernel_rfl
abbrev ZF:NR:=Qk
theorem Gd [ax]:SC (Bp fK):=sc (Sound.nil 2 [.i .i64]<|kS (k:=ZE ZF) (.nil _) [2] [] ⟨kL (auY ZF),trivial⟩ trivial (aDb ZF))
end Go.Proofs.YtldgljclcgaibaaGreat
