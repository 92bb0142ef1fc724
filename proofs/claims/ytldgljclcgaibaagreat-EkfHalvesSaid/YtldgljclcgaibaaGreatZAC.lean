/-
  Parts of the proof: AbP AbQ AbB AbC AbD AbE
-/
import Derived.Test.YtldgljclcgaibaaGreatZAB
import Derived.Laws.StructEq
import Derived.Laws.Tables
import Derived.Laws.Append
import Derived.Laws.AppendOwn
set_option linter.unusedVariables false
set_option linter.unusedSimpArgs false
namespace Go.Ab
variable [ax]
section
variable {P:Program} {o:Oper} {X:Cx} {D:Nat->Prop} {aJ:Nat} {us:List Up} {g:Gt}
omit [ax] in
theorem Nz (us vs:List Up)(g:Gt):cj (us++vs) g=cj vs (cj us g):=by simp[cj]
theorem aIf {t:TypeId}{x y:Operand}{fp:List Fp}(ho:o.op=.store t x y)
  (h:aH ((aHU x).bind λp=>(aHT y).bind λv=>(Ab.du (gJ P t)).bind λn=>(Ab.ck (Nat.beq (af.size v.bE) n&&Nat.ble n p.2.2)).bind λ_=>.sz p.1<| .ret (ze (gQ P t v.bE aJ).2 aJ++(dm o.dst YW++[.c p.1 p.2.1 (gQ P t v.bE aJ).1]))) g us fp):xp P o X D aJ us g:=by
 obtain⟨p,⟨_,h1⟩,_,h⟩:=aH.bind' h
 obtain⟨v,⟨_,h2⟩,_,h⟩:=aH.bind' h
 obtain⟨n,⟨_,h3⟩,_,h⟩:=aH.bind' h
 obtain⟨_,⟨_,h4⟩,_,h⟩:=aH.bind' h
 cases h with|sz q hz h=>
 cases h
 have h4:=h4.ck
 simp only[Bool.and_eq_true,beq_iff,eA] at h4
 obtain⟨h4,h5⟩:=h4
 obtain⟨n1,n2,n3⟩:=arj P t v.bE aJ
 generalize (gQ P t v.bE aJ).1=k at n1 n2 n3
 generalize (gQ P t v.bE aJ).2=es at n1 n2 n3
 intro π a w next Q R hk hf hd hD hn
 obtain⟨B,s,q',e,hb,ha,hm⟩:=h1.aHU R
 have hc:=RV.LV (h2.aHT R)
 have hl:=(ia hc).1
 obtain⟨B',s',e',ew,hle,k1,k2⟩:=R.hp.hp _ _ hz
 rw[hb] at ew;cases ew
 have hcn:bY (ze es aJ++(dm o.dst YW++[.c p.1 p.2.1 k]))=es.length:=by
  rw[aEq,apB];unfold dm bY;cases o.dst<;>rfl
 rw[hcn] at hf hn
 obtain⟨π1,e1,e2,e3,R1⟩:=R.aAI n2 hk hf
 have hc1:=n3 π1 e3 _ (hc.imp (CV.cZ e1))
 have hz1:(cj (ze es aJ) g).z p.1=some q:=by
  have key:∀(es:List af) (aJ:Nat) (g:Gt),g.z p.1=some q->(∀b,aJ<=b->b<aJ+es.length->b≠p.1)->(cj (ze es aJ) g).z p.1=some q:=by
   intro es
   induction es with
   |nil=>intro aJ g h _;exact h
   |cons x es ih=>
    intro aJ g h kV
    refine ih (aJ+1) _ ?_ (λb h1 h2=>kV b (by omega) (by simp only[List.length_cons];omega))
    have:=kV aJ (Nat.le_refl _) (by simp)
    simp only[Up.fP]
    rw[if_neg (by omega)];exact h
  refine key es aJ g hz λb h1 h2 hbp=> ?_
  have:=hf b h1 h2
  rw[hbp,hb] at this;cases this
 have R2:=R1.set hz1 (e1 _ _ hb) (o:=p.2.1) (vs:=k) (by rw[n1];omega) hc1 (hD (.c p.1 p.2.1 k) (by simp))
 have R3:=R2.dst hd (apA π1)
 refine aTo (w':=w.setCells B (s+p.2.1.val) (a.eval y).cells.toList) ?_ (hn _ _ π1 e1 e2 ?_)
 ·have hst:=run_storeCells_cells (P:=P) B (s+p.2.1.val) (a.eval y).cells.toList 0 w
   (λj hj=>(k1 (s+p.2.1.val+0+j) (by omega) (by omega)).1) (λj hj=>(k1 (s+p.2.1.val+0+j) (by omega) (by omega)).2)
   (λx hx=>by
    obtain⟨i,hi⟩:=List.mem_iff_getElem?.1 hx
    obtain⟨c,_,hr⟩:=hc.get' hi
    exact CV.Oq hr)
  have vx:(a.eval y).cells.size=n:=by rw[<-Array.length_toList];omega
  simp[execOp,ho,Instr.storeAt,ha,Instr.sureAddr,storeVar,run_sizeOf h3.du,vx,hst]
 ·have e1:cj (ze es aJ++(dm o.dst YW++[.c p.1 p.2.1 k])) g=cj (dm o.dst YW) ((Up.c p.1 p.2.1 k).fP (cj (ze es aJ) g)):=by
   rw[aAH];cases o.dst<;>rfl
  rw[e1];exact R3
theorem aAK {x:Operand}{fp:List Fp}(ho:o.op=.nilCheck x)
  (h:aH ((EF x).bind λ|.ptr b q n=>.ret (dm o.dst (.r (.c (.ptr b q n))))|.fp l=>.ret (dm o.dst (.r (.c (.fp l))))|_=>.fail) g us fp):xp P o X D aJ us g:=by
 obtain⟨v,⟨_,h1⟩,_,h⟩:=aH.bind' h
 split at h
 ·rename_i b q n
  cases h
  refine gE λπ a w R=> ?_
  obtain⟨B,s,q',e,hb,ha,hm⟩:=h1.EF R
  refine⟨_,?_,B,s,q',e,hb,rfl,hm⟩
  simp[execOp,ho,ha]
 ·cases h
  refine gE λπ a w R=> ?_
  obtain⟨B,s,ha,hc⟩:=h1.EF R
  refine⟨_,?_,B,s,rfl,hc⟩
  simp[execOp,ho,ha]
 ·cases h
theorem aNJ {op:BinOp}{k:IntKind}{x y:Int}{v:FV}{fp:List Fp}(hs:op≠.shl∧op≠.shr)(h:aH (aRp op k x y) g v fp)(t:TypeId)(w:World):
  ∃z,(binOp op t (.int k x) (.int k y)).run P w=.ok z w∧v.rel z:=by
 unfold aRp at h
 cases op<;>simp only[] at h
 case shl=>exact absurd rfl hs.1
 case shr=>exact absurd rfl hs.2
 case quo=>
  obtain⟨_,⟨_,h1⟩,_,h⟩:=aH.bind' h
  cases h
  have h1:¬y=0:=by simpa using h1.ck
  exact⟨_,by simp[binOp,Op.intDiv,h1],rfl⟩
 case rem=>
  obtain⟨_,⟨_,h1⟩,_,h⟩:=aH.bind' h
  cases h
  have h1:¬y=0:=by simpa using h1.ck
  exact⟨_,by simp[binOp,Op.intDiv,h1],rfl⟩
 case and=>obtain⟨n,⟨_,h1⟩,_,h⟩:=aH.bind' h;cases h;have h1:=h1.du;simp only[apv,Option.some.injEq] at h1;subst h1;exact⟨_,by simp[binOp,Op.intBits],rfl⟩
 case or=>obtain⟨n,⟨_,h1⟩,_,h⟩:=aH.bind' h;cases h;have h1:=h1.du;simp only[apv,Option.some.injEq] at h1;subst h1;exact⟨_,by simp[binOp,Op.intBits],rfl⟩
 case xor=>obtain⟨n,⟨_,h1⟩,_,h⟩:=aH.bind' h;cases h;have h1:=h1.du;simp only[apv,Option.some.injEq] at h1;subst h1;exact⟨_,by simp[binOp,Op.intBits],rfl⟩
 case andNot=>obtain⟨n,⟨_,h1⟩,_,h⟩:=aH.bind' h;cases h;have h1:=h1.du;simp only[apv,Option.some.injEq] at h1;subst h1;exact⟨_,by simp[binOp,Op.intBits],rfl⟩
 all_goals (cases h;exact⟨_,by simp[binOp,Op.intArith,Op.intCmp],rfl⟩)
theorem awl {op:BinOp}{k k':IntKind}{x y:Int}{v:FV}{fp:List Fp}(h:aH (aMW op k x y) g v fp)(t:TypeId)(w:World):
  ∃z,(binOp op t (.int k x) (.int k' y)).run P w=.ok z w∧v.rel z:=by
 obtain⟨_,⟨_,h1⟩,_,h⟩:=aH.bind' h
 have h1:¬y<0:=by simpa using h1.ck
 cases op<;>simp only[] at h
 case shl=>cases h;exact⟨_,by simp only[binOp,Op.shift,h1,if_false];exact Sem.run_pure ..,rfl⟩
 case shr=>cases h;exact⟨_,by simp only[binOp,Op.shift,h1,if_false];exact Sem.run_pure ..,rfl⟩
 all_goals cases h
omit [ax] in
theorem adp (op:BinOp)(t:TypeId)(x y:Operand)(k k':IntKind)(m n:Int)(w:World):(eqGuard op t x y (.int k m) (.int k' n)).run P w=.ok () w:=by
 cases op<;>simp[eqGuard]
omit [ax] in
theorem aCO (op:BinOp)(t:TypeId)(x y:Operand)(m n:Bool)(w:World):(eqGuard op t x y (.bool m) (.bool n)).run P w=.ok () w:=by
 cases op<;>simp[eqGuard]
omit [ax] in
theorem adq (op:BinOp)(t:TypeId)(x y:Operand)(m n:Option Addr)(w:World):(eqGuard op t x y (.pointer m) (.pointer n)).run P w=.ok () w:=by
 cases op<;>simp[eqGuard]
omit [ax] in
theorem ark {t:TypeId}{x y:Value}{r:Bool}{w:World}(hi:(∀k n,x≠.int k n))(hs:∀s,x≠.string s)(hf:∀k n,x≠.float k n)(hc:∀k n m,x≠.complex k n m)(h:(Op.equal t x y).run P w=.ok r w):(binOp .eql t x y).run P w=.ok (.bool r) w∧(binOp .neq t x y).run P w=.ok (.bool (!r)) w:=by
 cases x<;>first
  |exact absurd rfl (hi _ _)
  |exact absurd rfl (hs _)
  |exact absurd rfl (hf _ _)
  |exact absurd rfl (hc _ _ _)
  |(simp only[binOp];simp[h])
theorem aNK {op:BinOp}{t:TypeId}{x y:RV}{v:RV}{fp:List Fp}(h:aH (aRs P op t x y) g v fp)(heq:∀r l,aH (eqV P t x y) g r l->∀π a b w,x.rel π a->y.rel π b->(∀(op:BinOp) (p q:Operand),(eqGuard op t p q a b).run P w=.ok () w)∧(binOp .eql t a b).run P w=.ok (.bool r) w∧(binOp .neq t a b).run P w=.ok (.bool (!r)) w)
  {π:Pi}{a b:Value}(hx:x.rel π a)(hy:y.rel π b)(p q:Operand)(w:World):
  ∃z,(do eqGuard op t p q a b;binOp op t a b:Sem Value).run P w=.ok z w∧v.rel π z:=by
 unfold aRs at h
 split at h
 ·rename_i k m k' n
  have ha:a=.int k m:=hx
  have hb:b=.int k' n:=hy
  subst ha hb
  split at h
  ·obtain⟨r,⟨_,h1⟩,_,h⟩:=aH.bind' h
   cases h
   obtain⟨z,hz,hr⟩:=awl (P:=P) (k':=k') h1 t w
   exact⟨z,by simp[adp,hz],hr⟩
  ·obtain⟨r,⟨_,h1⟩,_,h⟩:=aH.bind' h
   cases h
   obtain⟨z,hz,hr⟩:=awl (P:=P) (k':=k') h1 t w
   exact⟨z,by simp[adp,hz],hr⟩
  ·rename_i n1 n2
   split at h
   ·rename_i hk
    subst hk
    obtain⟨r,⟨_,h1⟩,_,h⟩:=aH.bind' h
    cases h
    obtain⟨z,hz,hr⟩:=aNJ (P:=P) ⟨λe=>n1 e,λe=>n2 e⟩ h1 t w
    exact⟨z,by simp[adp,hz],hr⟩
   ·cases h
 ·split at h
  ·obtain⟨r,⟨l1,h1⟩,_,h⟩:=aH.bind' h
   cases h
   obtain⟨e1,e2,_⟩:=heq r _ h1 π a b w hx hy
   exact⟨.bool r,by simp[e1,e2],rfl⟩
  ·obtain⟨r,⟨l1,h1⟩,_,h⟩:=aH.bind' h
   cases h
   obtain⟨e1,_,e2⟩:=heq r _ h1 π a b w hx hy
   exact⟨.bool (!r),by simp[e1,e2],rfl⟩
  ·cases h
theorem aLE {op:UnOp}{t:TypeId}{x:Operand}{fp:List Fp}(ho:o.op=.unOp op t x)
  (h:aH ((tt x).bind λa=>(unV op a).bind λv=>.ret (dm o.dst (.r v))) g us fp):xp P o X D aJ us g:=by
 obtain⟨r,⟨_,h1⟩,_,h⟩:=aH.bind' h
 obtain⟨v,⟨_,h2⟩,_,h⟩:=aH.bind' h
 cases h
 refine gE λπ a w R=> ?_
 have ha:=h1.tt R
 unfold unV at h2
 split at h2
 ·have ha:a.eval x=_:=ha
  cases h2
  exact⟨_,by simp[execOp,ho,ha,Op.unary,Op.intArith],rfl⟩
 ·have ha:a.eval x=_:=ha
  obtain⟨n,⟨_,h3⟩,_,h2⟩:=aH.bind' h2
  cases h2
  have h3:=h3.du
  simp only[apv,Option.some.injEq] at h3
  subst h3
  exact⟨_,by simp[execOp,ho,ha,Op.unary,Op.intBits],rfl⟩
 ·have ha:a.eval x=_:=ha
  cases h2
  exact⟨_,by simp[execOp,ho,ha,Op.unary],rfl⟩
 ·cases h2
theorem aCP {s d:TypeId}{x:Operand}{fp:List Fp}(ho:o.op=.convert s d x)
  (h:aH ((tt x).bind λa=>(aLs P s d a).bind λv=>.ret (dm o.dst (.r v))) g us fp):xp P o X D aJ us g:=by
 obtain⟨r,⟨_,h1⟩,_,h⟩:=aH.bind' h
 obtain⟨v,⟨_,h2⟩,_,h⟩:=aH.bind' h
 cases h
 refine gE λπ a w R=> ?_
 have ha:=h1.tt R
 unfold aLs at h2
 split at h2
 ·rename_i d1 k k' n hs hd
  have ha:a.eval x=_:=ha
  cases h2
  exact⟨_,by simp[execOp,ho,ha,convert,run_underlying hs,run_underlying hd,Conv.intToInt],rfl⟩
 ·cases h2
theorem aAL {t:TypeId}{x:Operand}{fp:List Fp}(ho:o.op=.sliceToArrayPointer t x)
  (h:aH ((EF x).bind λc=>match P.underlying t,c with
   |some (.array n _),.sl b q len z _=>(Ab.ck (Nat.ble 1 n&&Nat.ble n len.val)).bind λ_=>(Rd.ret (CV.ptr b q (n*z))).bind λv=>.ret (dm o.dst (.r (.c v)))
   |_,_=>.fail) g us fp):xp P o X D aJ us g:=by
 obtain⟨r,⟨_,h1⟩,_,h⟩:=aH.bind' h
 split at h
 ·rename_i n e b q len z own hu
  obtain⟨_,⟨_,h2⟩,_,h⟩:=aH.bind' h
  cases h
  have h2:=h2.ck
  simp only[Bool.and_eq_true,Nat.ble_eq] at h2
  refine gE λπ a w R=> ?_
  obtain⟨B,s,q',e,hb,hm,_,⟨h0,_⟩| ⟨cap,pd,ha,_⟩⟩:=h1.EF R
  ·omega
  ·exact⟨_,by simp[execOp,ho,ha,Instr.arrayAt,run_underlying hu];intro lY;omega,B,s,q',e,hb,rfl,by
    have:=Nat.mul_le_mul_right z h2.2
    omega⟩
 ·cases h
omit [ax] in
theorem alS {α β γ:Type}{R:α->γ->Prop}{f:β->γ}:∀{l:List α} {m:List β},bh (λa b=>R a (f b)) l m->bh R l (m.map f)
 | [],[],_=>trivial
 |_::_,_::_,⟨a,b⟩=>⟨a,alS b⟩
 | [],_::_,h=>h.elim
 |_::_,[],h=>h.elim
theorem aAM {f:FuncId}{fs aa1:Array Operand}{fp:List Fp}(ho:o.op=.makeFunc (.func f) fs aa1)
  (h:aH (match fs.toList with
   | []=>(Ab.qW Ab.tt aa1.toList).bind λl=>.ret (dm o.dst (.fn f l))
   |_=>.fail) g us fp):xp P o X D aJ us g:=by
 split at h
 ·rename_i hfs
  obtain⟨r,⟨_,h1⟩,_,h⟩:=aH.bind' h
  cases h
  refine gE λπ a w R=>⟨.func (.func f) #[] (aa1.map a.eval),?_,_,rfl,?_⟩
  ·have:fs=#[]:=by
    rw[<-Array.toList_inj];exact hfs
   simp[execOp,ho,this,Instr.makeFunc]
  ·have:=aH.qW (ρ:=λv x=>v.rel π (a.eval x)) (λx v l hx=>aH.tt hx R) h1
   rw[Array.toList_map]
   exact alS this
 ·cases h
theorem aIg {t:TypeId}{x:Operand}{i:Nat}{fp:List Fp}(ho:o.op=.field t x i)
  (h:aH ((tt x).bind λ|.agg cs=>(Ab.du (ac9 P t i)).bind λf=>(LQ P f.type cs f.offset).bind λv=>.ret (dm o.dst (.r v))|_=>.fail) g us fp):xp P o X D aJ us g:=by
 obtain⟨r,⟨_,h1⟩,_,h⟩:=aH.bind' h
 split at h
 ·rename_i cs
  obtain⟨f,⟨_,h2⟩,_,h⟩:=aH.bind' h
  obtain⟨v,⟨_,h3⟩,_,h⟩:=aH.bind' h
  cases h
  refine gE λπ a w R=> ?_
  obtain⟨arr,ha,hx⟩:=h1.tt R
  obtain⟨y,hy,hr⟩:=h3.LQ hx w
  refine⟨y,?_,hr⟩
  have h2:=h2.du
  unfold ac9 at h2
  split at h2
  ·rename_i fs hu
   simp[execOp,ho,Instr.field,run_underlying hu,h2,ha,asAgg,hy]
  ·cases h2
 ·cases h
omit [ax] in
theorem aH.amY {i:Int}:∀{n j:Nat} {l:List Fp},aH (amY i n) g j l->0<=i->i<(n:Int)+1->j=i.toNat
 |0,j,l,h,h1,h2=>by cases h;omega
 |n+1,j,l,h,h1,h2=>by
  cases h with|test h=>
  cases hx:i==((n+1:Nat):Int) with
  |true=>
   rw[hx] at h;cases h
   have:=eq_of_beq hx
   omega
  |false=>
   rw[hx] at h
   have:=ne_of_beq_false hx
   exact aH.amY h h1 (by omega)
omit [ax] in
theorem bX.Ji (o:bX)(d:Nat):(o.add d).val=o.val+d:=by
 cases o<;>simp only[bX.add,bX.val]<;>omega
omit [ax] in
theorem bX.aIh (o:bX)(j z n:Nat):(o.idx j z n).val=o.val+j*z:=by
 cases o with
 |k c=>rfl
 |x c i y=>
  simp only[bX.idx]
  split
  ·rename_i hy
   rw[beq_iff] at hy
   subst hy
   simp only[bX.val]
   rw[Nat.add_mul,<-Nat.mul_assoc];omega
  ·simp only[bX.val];omega
omit [ax] in
theorem bX.auu (o:bX)(j z:Nat):(o.aHQ j z).val=o.val+j*z:=by
 cases o with
 |k c=>rfl
 |x c i y=>
  simp only[bX.aHQ]
  split
  ·rename_i hy
   rw[beq_iff] at hy
   subst hy
   simp only[bX.val]
   rw[Nat.add_mul];omega
  ·simp only[bX.val];omega
omit [ax] in
theorem aH.sel {o:bX}{i:Int}{n:Nat}{e:TypeId}{z:Nat}{o':bX}{l:List Fp}(h:aH (sel P o i n e z) g o' l)(h1:0<=i)(h2:i<(n:Int)):o'.val=o.val+i.toNat*z:=by
 unfold Ab.sel at h
 split at h
 ·cases h;exact bX.aIh ..
 ·split at h
  ·obtain⟨j,⟨_,h3⟩,_,h⟩:=aH.bind' h
   cases h
   rw[h3.amY h1 (by omega),bX.Ji]
  ·cases h;exact bX.aIh ..
omit [ax] in
theorem aH.aHW {o:bX}{i:Int}{n:Sz}{e:TypeId}{z:Nat}{o':bX}{l:List Fp}(h:aH (aHW P o i n e z) g o' l)(h1:0<=i)(h2:i<(n.val:Int)):o'.val=o.val+i.toNat*z:=by
 unfold Ab.aHW at h
 split at h
 ·split at h
  ·obtain⟨j,⟨_,h3⟩,_,h⟩:=aH.bind' h
   cases h
   simp only[Sz.val] at h2
   rw[h3.amY h1 (by omega),bX.Ji]
  ·cases h;exact bX.auu ..
 ·cases h;exact bX.auu ..
theorem aIi {t:TypeId}{x i:Operand}{fp:List Fp}(ho:o.op=.index t x i)
  (h:aH ((tt x).bind λv=>(Iq i).bind λi=>match P.underlying t,v with
   |some (.array n e),.agg cs=>(Ab.du (gJ P e)).bind λz=>(Ab.ck (Nat.ble 1 z&&Nat.ble (n*z) (af.size cs))).bind λ_=>(Ab.ck (aW i.2 n)).bind λ_=>(Ab.sel P (.k 0) i.2 n e z).bind λo'=>(partOf P e cs o').bind λv=>.ret (dm o.dst (.r v))
   |some .string,.c (.f (.s b))=>(Ab.ck (aW i.2 b.size)).bind λ_=>.ret (dm o.dst (.r (.c (.f (.i .u8 (B4 b i.2.toNat))))))
   |_,_=>.fail) g us fp):xp P o X D aJ us g:=by
 obtain⟨r,⟨_,h1⟩,_,h⟩:=aH.bind' h
 obtain⟨j,⟨_,h2⟩,_,h⟩:=aH.bind' h
 split at h
 ·rename_i n e cs hu _
  obtain⟨z,⟨_,h3⟩,_,h⟩:=aH.bind' h
  obtain⟨_,⟨_,h7⟩,_,h⟩:=aH.bind' h
  obtain⟨_,⟨_,h4⟩,_,h⟩:=aH.bind' h
  obtain⟨i',⟨_,h6⟩,_,h⟩:=aH.bind' h
  obtain⟨v,⟨_,h5⟩,_,h⟩:=aH.bind' h
  cases h
  refine gE λπ a w R=> ?_
  obtain⟨arr,ha,hx⟩:=h1.tt R
  have h4:=h4.ck
  simp only[aW,Bool.and_eq_true,decide_eq_true_eq] at h4
  have h7:=h7.ck
  simp only[Bool.and_eq_true,eA] at h7
  have hi:i'.val=j.2.toNat*z:=(h6.sel h4.1 h4.2).trans (Nat.zero_add _)
  have hb:j.2.toNat*z+z<=n*z:=by
   have:=Nat.mul_le_mul_right z (show j.2.toNat+1<=n by omega)
   rw[Nat.add_mul] at this;omega
  obtain⟨y,hy,hr⟩:=h5.partOf h3.du h7.1 (by rw[hi];omega) hx w
  rw[hi] at hy
  refine⟨y,?_,hr⟩
  simp[execOp,ho,Instr.index,run_underlying hu,h2.Iq R,ha,asIntOf,h4,run_sizeOf h3.du,hy]
 ·rename_i b hu _
  obtain⟨_,⟨_,h4⟩,_,h⟩:=aH.bind' h
  cases h
  refine gE λπ a w R=> ?_
  have ha:a.eval x=.string b:=h1.tt R
  have h4:=h4.ck
  simp only[aW,Bool.and_eq_true,decide_eq_true_eq] at h4
  have hb:b[j.2.toNat]? =some (b[j.2.toNat]'(by omega)):=getElem?_pos ..
  refine⟨.int .u8 (B4 b j.2.toNat),?_,rfl⟩
  unfold B4
  rw[hb]
  simp[execOp,ho,Instr.index,run_underlying hu,h2.Iq R,ha,asIntOf,h4.1,hb]
 ·cases h
theorem aCQ {x:Operand}{i:Nat}{fp:List Fp}(ho:o.op=.extract x i)
  (h:aH ((BD x).bind λ|.tup vs=>(Ab.du (vs[i]?)).bind λv=>.ret (dm o.dst (.r v))|_=>.fail) g us fp):xp P o X D aJ us g:=by
 obtain⟨r,⟨_,h1⟩,_,h⟩:=aH.bind' h
 split at h
 ·rename_i vs
  obtain⟨v,⟨_,h2⟩,_,h⟩:=aH.bind' h
  cases h
  refine gE λπ a w R=> ?_
  obtain⟨arr,ha,hx⟩:=h1.BD R
  obtain⟨y,hy,hr⟩:=hx.get h2.du
  refine⟨y,?_,hr⟩
  have hy:arr[i]? =some y:=by simpa using hy
  simp[execOp,ho,Instr.extract,ha,hy]
 ·cases h
theorem ayB {t:TypeId}{x:Operand}{i:Nat}{fp:List Fp}(ho:o.op=.fieldAddr t x i)
  (h:aH ((EF x).bind λc=>(aum P t c i).bind λv=>.ret (dm o.dst (.r (.c v)))) g us fp):xp P o X D aJ us g:=by
 obtain⟨r,⟨_,h1⟩,_,h⟩:=aH.bind' h
 obtain⟨v,⟨_,h2⟩,_,h⟩:=aH.bind' h
 cases h
 refine gE λπ a w R=> ?_
 have ha:=h1.EF R
 unfold aum at h2
 split at h2
 ·rename_i l
  obtain⟨f,⟨_,h3⟩,_,h2⟩:=aH.bind' h2
  obtain⟨n,⟨_,h4⟩,_,h2⟩:=aH.bind' h2
  obtain⟨_,⟨_,h5⟩,_,h2⟩:=aH.bind' h2
  cases h2
  obtain⟨B,s,ha,hc⟩:=ha
  have h3:=h3.du
  have h5:=h5.ck
  simp only[Bool.and_eq_true,eA] at h5
  have hn:n≠0:=by omega
  unfold ac9 at h3
  split at h3
  ·rename_i fs hu
   refine⟨.pointer (some ⟨B,s+f.offset,none⟩),?_,B,s+f.offset,rfl,λj v hj=> ?_⟩
   ·simp[execOp,ho,Instr.fieldAt,run_underlying hu,h3,ha,Instr.sureAddr,fieldPlace,run_sizeOf h4.du,hn,lC]
   ·rw[List.getElem?_take] at hj
    split at hj
    ·rw[List.getElem?_drop] at hj
     rw[Nat.add_assoc];exact hc _ v hj
    ·cases hj
  ·cases h3
 ·rename_i b q m
  obtain⟨f,⟨_,h3⟩,_,h2⟩:=aH.bind' h2
  obtain⟨n,⟨_,h4⟩,_,h2⟩:=aH.bind' h2
  obtain⟨_,⟨_,h5⟩,_,h2⟩:=aH.bind' h2
  cases h2
  obtain⟨B,s,q',e,hb,ha,hm⟩:=ha
  have h3:=h3.du
  have h5:=h5.ck
  simp only[Bool.and_eq_true,eA] at h5
  have hn:n≠0:=by omega
  unfold ac9 at h3
  split at h3
  ·rename_i fs hu
   refine⟨.pointer (some ⟨B,s+(q.add f.offset).val,none⟩),?_,B,s,q',e,hb,rfl,by rw[bX.Ji];omega⟩
   simp[execOp,ho,Instr.fieldAt,run_underlying hu,h3,ha,Instr.sureAddr,fieldPlace,run_sizeOf h4.du,hn,lC,Nat.add_assoc,bX.Ji]
  ·cases h3
 ·cases h2
theorem ayC {t:TypeId}{x i:Operand}{fp:List Fp}(ho:o.op=.indexAddr t x i)
  (h:aH ((EF x).bind λc=>(Iq i).bind λi=>(aun P t c i.2).bind λv=>.ret (dm o.dst (.r (.c v)))) g us fp):xp P o X D aJ us g:=by
 obtain⟨r,⟨_,h1⟩,_,h⟩:=aH.bind' h
 obtain⟨j,⟨_,h2⟩,_,h⟩:=aH.bind' h
 obtain⟨v,⟨_,h3⟩,_,h⟩:=aH.bind' h
 cases h
 refine gE λπ a w R=> ?_
 have ha:=h1.EF R
 unfold aun at h3
 split at h3
 ·rename_i n e b q m hu _
  obtain⟨z,⟨_,h4⟩,_,h3⟩:=aH.bind' h3
  obtain⟨_,⟨_,h7⟩,_,h3⟩:=aH.bind' h3
  obtain⟨_,⟨_,h5⟩,_,h3⟩:=aH.bind' h3
  obtain⟨o',⟨_,h6⟩,_,h3⟩:=aH.bind' h3
  cases h3
  obtain⟨B,s,q',e',hb,ha,hm⟩:=ha
  have h5:=h5.ck
  simp only[aW,Bool.and_eq_true,decide_eq_true_eq] at h5
  have h7:=eA.1 h7.ck
  have hi:=h6.sel h5.1 h5.2
  have hbd:j.2.toNat*z+z<=n*z:=by
   have:=Nat.mul_le_mul_right z (show j.2.toNat+1<=n by omega)
   rw[Nat.add_mul] at this;omega
  refine⟨.pointer (some ⟨B,s+o'.val,none⟩),?_,B,s,q',e',hb,rfl,by omega⟩
  rw[hi]
  simp[execOp,ho,Instr.indexAt,run_underlying hu,h2.Iq R,ha,asIntOf,Instr.sureAddr,h5,run_sizeOf h4.du,lC,Nat.add_assoc]
 ·rename_i e b q len z' own hu _
  obtain⟨z,⟨_,h4⟩,_,h3⟩:=aH.bind' h3
  obtain⟨_,⟨_,h6⟩,_,h3⟩:=aH.bind' h3
  obtain⟨_,⟨_,h5⟩,_,h3⟩:=aH.bind' h3
  obtain⟨o',⟨_,h8⟩,_,h3⟩:=aH.bind' h3
  cases h3
  have h5:=h5.ck
  simp only[aW,Bool.and_eq_true,decide_eq_true_eq] at h5
  have h6:=beq_iff.1 h6.ck
  subst h6
  have hi:=h8.aHW h5.1 h5.2
  obtain⟨B,s,q',e',hb,hm,_,⟨h0,_⟩| ⟨cap,pd,ha,_⟩⟩:=ha
  ·omega
  ·have hbd:j.2.toNat*z+z<=len.val*z:=by
    have:=Nat.mul_le_mul_right z (show j.2.toNat+1<=len.val by omega)
    rw[Nat.add_mul] at this;omega
   refine⟨.pointer (some ⟨B,s+o'.val,none⟩),?_,B,s,q',e',hb,rfl,by omega⟩
   rw[hi]
   simp[execOp,ho,Instr.indexAt,run_underlying hu,h2.Iq R,ha,asIntOf,h5,run_sizeOf h4.du,lC,Nat.add_assoc]
 ·rename_i e n z' cols hu _
  obtain⟨z,⟨_,h4⟩,_,h3⟩:=aH.bind' h3
  obtain⟨_,⟨_,h6⟩,_,h3⟩:=aH.bind' h3
  obtain⟨_,⟨_,h5⟩,_,h3⟩:=aH.bind' h3
  cases h3
  have h5:=h5.ck
  simp only[aW,Bool.and_eq_true,decide_eq_true_eq] at h5
  have h6:=beq_iff.1 h6.ck
  subst h6
  obtain⟨hz,⟨h0,_⟩| ⟨B,s,cap,pd,ha,hc⟩⟩:=ha
  ·omega
  ·refine⟨.pointer (some ⟨B,s+j.2.toNat*z,none⟩),?_,B,s+j.2.toNat*z,rfl,λi f hi=> ?_⟩
   ·simp[execOp,ho,Instr.indexAt,run_underlying hu,h2.Iq R,ha,asIntOf,h5,run_sizeOf h4.du,lC]
   ·rw[List.getElem?_map,Option.map_eq_some_iff] at hi
    obtain⟨q,hq,rfl⟩:=hi
    have hil:=(List.getElem?_eq_some_iff.1 hq).1
    have hbd:j.2.toNat*z+z<=n*z:=by
     have:=Nat.mul_le_mul_right z (show j.2.toNat+1<=n by omega)
     rw[Nat.add_mul] at this;omega
    obtain⟨f,v,e1,e2,e3⟩:=hc (j.2.toNat*z+i) (by omega)
    refine⟨v,by rw[Nat.add_assoc];exact e2,?_⟩
    have e4:gK cols (j.2.toNat*z+i)=.f (q.at j.2.toNat):=by
     unfold gK
     rw[hz,Nat.mul_comm,Nat.mul_add_mod,Nat.mul_add_div (by omega),Nat.mod_eq_of_lt (by omega),Nat.div_eq_of_lt (by omega),hq]
     rfl
    rw[e1] at e4;cases e4
    exact e3
 ·rename_i n e l hu _
  obtain⟨z,⟨_,h4⟩,_,h3⟩:=aH.bind' h3
  obtain⟨_,⟨_,h7⟩,_,h3⟩:=aH.bind' h3
  obtain⟨_,⟨_,h5⟩,_,h3⟩:=aH.bind' h3
  obtain⟨o',⟨_,h6⟩,_,h3⟩:=aH.bind' h3
  cases h3
  obtain⟨B,s,ha,hc⟩:=ha
  have h5:=h5.ck
  simp only[aW,Bool.and_eq_true,decide_eq_true_eq] at h5
  have hi:=h6.amY (by omega) (by omega)
  refine⟨.pointer (some ⟨B,s+j.2.toNat*z,none⟩),?_,B,s+j.2.toNat*z,rfl,λi f hf=> ?_⟩
  ·simp[execOp,ho,Instr.indexAt,run_underlying hu,h2.Iq R,ha,asIntOf,Instr.sureAddr,h5,run_sizeOf h4.du,lC]
  ·rw[List.getElem?_take] at hf
   split at hf
   ·rw[List.getElem?_drop,hi] at hf
    rw[Nat.add_assoc];exact hc _ f hf
   ·cases hf
 ·cases h3
theorem aH.awg {x:Option Operand}{v:Option Int}{l:List Fp}{π:Pi}{a:Act}{w:World}(h:aH (awg x) g v l)(R:Rel X D π g a w):
  (x=none∧v=none)∨∃y k i,x=some y∧v=some i∧a.eval y=.int k i:=by
 cases x with
 |none=>cases h;exact .inl ⟨rfl,rfl⟩
 |some y=>
  obtain⟨r,⟨_,h1⟩,_,h⟩:=aH.bind' h
  cases h
  exact .inr ⟨y,r.1,r.2,rfl,rfl,h1.Iq R⟩
omit [ax] in
theorem aH.RB {lo hi:Option Int}{n:Nat}{lh:Nat×Nat}{l:List Fp}(h:aH (RB lo hi n) g lh l):
  lh.1<=lh.2∧lh.2<=n∧((hi=none∧lh.2=n)∨∃i,hi=some i∧0<=i∧i<=n∧lh.2=i.toNat)∧((lo=none∧lh.1=0)∨∃i,lo=some i∧0<=i∧i<=lh.2∧lh.1=i.toNat):=by
 obtain⟨hh,⟨_,h1⟩,_,h⟩:=aH.bind' h
 obtain⟨ll,⟨_,h2⟩,_,h⟩:=aH.bind' h
 cases h
 have e1:hh<=n∧((hi=none∧hh=n)∨∃i,hi=some i∧0<=i∧i<=n∧hh=i.toNat):=by
  cases hi with
  |none=>cases h1;exact⟨Nat.le_refl _,.inl ⟨rfl,rfl⟩⟩
  |some i=>
   obtain⟨_,⟨_,h3⟩,_,h1⟩:=aH.bind' h1
   cases h1
   have h3:=h3.ck
   simp only[Ir,Bool.and_eq_true,decide_eq_true_eq] at h3
   exact⟨by omega,.inr ⟨i,rfl,h3.1,h3.2,rfl⟩⟩
 have e2:ll<=hh∧((lo=none∧ll=0)∨∃i,lo=some i∧0<=i∧i<=hh∧ll=i.toNat):=by
  cases lo with
  |none=>cases h2;exact⟨Nat.zero_le _,.inl ⟨rfl,rfl⟩⟩
  |some i=>
   obtain⟨_,⟨_,h3⟩,_,h2⟩:=aH.bind' h2
   cases h2
   have h3:=h3.ck
   simp only[Ir,Bool.and_eq_true,decide_eq_true_eq] at h3
   exact⟨by omega,.inr ⟨i,rfl,h3.1,h3.2,rfl⟩⟩
 exact⟨e2.1,e1.1,e1.2,e2.2⟩
end
end Go.Ab
namespace Go.Ab
variable [ax]
section
variable {P:Program} {o:Oper} {X:Cx} {D:Nat->Prop} {aJ:Nat} {us:List Up} {g:Gt}
def OI (x:Option Int)(v:Option Value):Prop:=(x=none∧v=none)∨∃k i,x=some i∧v=some (.int k i)
theorem aH.aRG {x:Option Operand}{v:Option Int}{l:List Fp}{π:Pi}{a:Act}{w:World}(h:aH (Ab.awg x) g v l)(R:Rel X D π g a w):OI v (x.map a.eval):=by
 rcases h.awg R with⟨rfl,rfl⟩| ⟨y,k,i,rfl,rfl,e⟩
 ·exact .inl ⟨rfl,rfl⟩
 ·exact .inr ⟨k,i,rfl,by simp[e]⟩
omit [ax] in
theorem sN {lo hi:Option Int}{n cap:Nat}{lh:Nat×Nat}{l:List Fp}(h:aH (Ab.RB lo hi n) g lh l)(hc:n<=cap){lv hv:Option Value}(h1:OI lo lv)(h2:OI hi hv)(isS:Bool)(w:World):
  (Instr.sliceBounds isS n cap lv hv none).run P w=.ok (lh.1,lh.2,cap) w:=by
 obtain⟨b1,b2,b3,b4⟩:=h.RB
 have eh:∀code,(match hv with
   |some v=>Instr.sliceBound v cap code
   |none=>(pure n:Sem Nat)).run P w=.ok lh.2 w:=λcode=>by
  rcases h2 with⟨rfl,rfl⟩| ⟨k,i,rfl,rfl⟩
  ·rcases b3 with⟨_,e⟩| ⟨i,e,_⟩
   ·simp[e]
   ·cases e
  ·rcases b3 with⟨e,_⟩| ⟨i',e,c1,c2,c3⟩
   ·cases e
   ·cases e
    simp only[Instr.sliceBound,asIntOf,Sem.run_bind,Sem.run_pure,Result.andThen_ok]
    rw[if_pos ⟨c1,by omega⟩,c3];exact Sem.run_pure ..
 have el:∀code,(match lv with
   |some v=>Instr.sliceBound v lh.2 code
   |none=>(pure 0:Sem Nat)).run P w=.ok lh.1 w:=λcode=>by
  rcases h1 with⟨rfl,rfl⟩| ⟨k,i,rfl,rfl⟩
  ·rcases b4 with⟨_,e⟩| ⟨i,e,_⟩
   ·simp[e]
   ·cases e
  ·rcases b4 with⟨e,_⟩| ⟨i',e,c1,c2,c3⟩
   ·cases e
   ·cases e
    simp only[Instr.sliceBound,asIntOf,Sem.run_bind,Sem.run_pure,Result.andThen_ok]
    rw[if_pos ⟨c1,c2⟩,c3];exact Sem.run_pure ..
 have eh':=eh (if isS then .sliceAcap else .sliceAlen)
 have el':=el .sliceB
 cases hv<;>cases lv<;>simp_all [Instr.sliceBounds]
omit [ax] in
theorem aRH (q:Bool)(n:Nat):(szQ q n).val=n:=by cases q<;>rfl
omit [ax] in
theorem apC {q:Bool}{lo hi:Option Int}{n:Sz}{lh:Nat×Nat}{l:List Fp}(h:aH (Ab.RB lo hi n.val) g lh l):(lenOf q lo hi n lh).val=lh.2-lh.1:=by
 obtain⟨b1,b2,b3,b4⟩:=h.RB
 cases lo<;>cases hi<;>simp only[lenOf,aRH]
 ·rcases b3 with⟨_,e⟩| ⟨i,e,_⟩
  ·rcases b4 with⟨_,e'⟩| ⟨i,e',_⟩
   ·omega
   ·cases e'
  ·cases e
 ·rcases b4 with⟨_,e'⟩| ⟨i,e',_⟩
  ·omega
  ·cases e'
omit [ax] in
theorem aAN {qq:Bool}{lo hi:Option Int}{n:Nat}{lh:Nat×Nat}{l:List Fp}(h:aH (Ab.RB lo hi n) g lh l)(o:bX)(z:Nat):(adb qq lo o lh.1 z).val=o.val+lh.1*z:=by
 obtain⟨b1,b2,b3,b4⟩:=h.RB
 cases lo<;>simp only[adb]
 ·rcases b4 with⟨_,e'⟩| ⟨i,e',_⟩
  ·rw[e'];omega
  ·cases e'
 ·cases qq
  ·exact bX.auu ..
  ·exact bX.Ji ..
theorem aIj {t:TypeId}{x:Operand}{lo hi:Option Operand}{fp:List Fp}(ho:o.op=.slice t x lo hi none)
  (h:aH ((EF x).bind λc=>(Ab.awg lo).bind λl=>(Ab.awg hi).bind λh=>(aFW P t c (sD lo&&sD hi) l h).bind λv=>.ret (dm o.dst (.r (.c v)))) g us fp):xp P o X D aJ us g:=by
 obtain⟨r,⟨_,h1⟩,_,h⟩:=aH.bind' h
 obtain⟨l,⟨_,h2⟩,_,h⟩:=aH.bind' h
 obtain⟨hh,⟨_,h3⟩,_,h⟩:=aH.bind' h
 obtain⟨v,⟨_,h4⟩,_,h⟩:=aH.bind' h
 cases h
 refine gE λπ a w R=> ?_
 have ha:=h1.EF R
 have ol:=h2.aRG R
 have oh:=h3.aRG R
 unfold aFW at h4
 split at h4
 ·rename_i n e b q m hu _ _
  obtain⟨z,⟨_,h5⟩,_,h4⟩:=aH.bind' h4
  obtain⟨_,⟨_,h7⟩,_,h4⟩:=aH.bind' h4
  obtain⟨lh,⟨_,h6⟩,_,h4⟩:=aH.bind' h4
  cases h4
  have h7:=eA.1 h7.ck
  obtain⟨B,s,q',e',hb,ha,hm⟩:=ha
  have hr:=sN (P:=P) h6 (Nat.le_refl n) ol oh false w
  obtain⟨b1,b2,_,_⟩:=h6.RB
  have hl:=apC (q:=sD lo&&sD hi) (n:=.l n) h6
  have aAO:=aAN (qq:=sD lo&&sD hi) h6 q z
  refine⟨_,by simp[execOp,ho,Instr.sliceAt,run_underlying hu,ha,Instr.sureAddr,hr,run_sizeOf h5.du];rfl,?_⟩
  show CV.rel π (.sl b (adb (sD lo&&sD hi) l q lh.1 z) (lenOf (sD lo&&sD hi) l hh (.l n) lh) z false) _
  have hbd:(adb (sD lo&&sD hi) l q lh.1 z).val+(lenOf (sD lo&&sD hi) l hh (.l n) lh).val*z<=q':=by
   rw[hl,aAO]
   have:lh.1*z+(lh.2-lh.1)*z=lh.2*z:=by rw[<-Nat.add_mul];congr 1;omega
   have:=Nat.mul_le_mul_right z b2
   omega
  refine⟨B,s,q',e',hb,hbd,(λh=>by cases h),?_⟩
  by_cases hm2:n=lh.1
  ·left
   refine⟨by omega,some ⟨B,s+q.val,none⟩,?_⟩
   rw[if_pos hm2]
   have e1:lh.2-lh.1=0:=by omega
   have e2:n-lh.1=0:=by omega
   rw[e1,e2]
  ·right
   refine⟨n-lh.1,by omega,?_,λh=>by cases h⟩
   rw[if_neg hm2,lC,Nat.add_assoc,hl,aAO]
 ·rename_i e b q len z own hu _ _
  obtain⟨z',⟨_,h5⟩,_,h4⟩:=aH.bind' h4
  obtain⟨_,⟨_,h7⟩,_,h4⟩:=aH.bind' h4
  obtain⟨lh,⟨_,h6⟩,_,h4⟩:=aH.bind' h4
  cases h4
  have hz:z=z':=beq_iff.1 h7.ck
  subst hz
  obtain⟨b1,b2,b3,b4⟩:=h6.RB
  have hl:=apC (q:=amZ (sD lo&&sD hi) len) h6
  have aAO:=aAN (qq:=amZ (sD lo&&sD hi) len) h6 q z
  have e4:lh.1*z+(lh.2-lh.1)*z=lh.2*z:=by rw[<-Nat.add_mul];congr 1;omega
  obtain⟨B,s,q',e',hb,hm,nW,ha⟩:=ha
  have hbd:(adb (amZ (sD lo&&sD hi) len) l q lh.1 z).val+(lenOf (amZ (sD lo&&sD hi) len) l hh len lh).val*z<=q':=by
   clear ha
   rw[hl,aAO]
   have:=Nat.mul_le_mul_right z b2
   omega
  have aVh:hh.isNone=true->lh.2=len.val:=λh=>by
   rcases b3 with⟨_,e⟩| ⟨i,e,_⟩
   ·exact e
   ·rw[e] at h;cases h
  have aIk:(own&&hh.isNone)=true->(adb (amZ (sD lo&&sD hi) len) l q lh.1 z).val+(lenOf (amZ (sD lo&&sD hi) len) l hh len lh).val*z=q':=λh=>by
   clear ha
   simp only[Bool.and_eq_true] at h
   have:=nW h.1
   rw[hl,aAO]
   rw[aVh h.2] at e4 ⊢
   omega
  rcases ha with⟨h0,y,ha⟩| ⟨cap,pd,ha,aLF⟩
  ·have hr:=sN (P:=P) h6 (Nat.le_refl _) ol oh true w
   clear b3 b4
   have e1:lh.1=0:=by omega
   have e2:lh.2=0:=by omega
   rw[h0] at hr
   refine⟨.slice y 0 0,by simp[execOp,ho,Instr.sliceAt,Instr.slice,run_underlying hu,ha,hr,run_sizeOf h5.du,e1,e2],B,s,q',e',hb,hbd,aIk,.inl ⟨by omega,y,rfl⟩⟩
  ·have hr:=sN (P:=P) h6 pd ol oh true w
   refine⟨_,by simp[execOp,ho,Instr.sliceAt,Instr.slice,run_underlying hu,ha,hr,run_sizeOf h5.du];rfl,?_⟩
   show CV.rel π (.sl b (adb (amZ (sD lo&&sD hi) len) l q lh.1 z) (lenOf (amZ (sD lo&&sD hi) len) l hh len lh) z (own&&hh.isNone)) _
   refine⟨B,s,q',e',hb,hbd,aIk,?_⟩
   by_cases hm2:cap=lh.1
   ·left
    refine⟨by omega,some ⟨B,s+q.val,none⟩,?_⟩
    rw[if_pos hm2]
    have e1:lh.2-lh.1=0:=by omega
    have e2:cap-lh.1=0:=by omega
    rw[e1,e2]
   ·right
    refine⟨cap-lh.1,by omega,?_,λh=> ?_⟩
    ·rw[if_neg hm2,lC,Nat.add_assoc,hl,aAO]
    ·simp only[Bool.and_eq_true] at h
     have hw2:=aLF h.1
     have e3:lh.1*z+(cap-lh.1)*z=cap*z:=by rw[<-Nat.add_mul];congr 1;omega
     rw[aAO]
     omega
 ·rename_i e hu _ _
  obtain⟨z,⟨_,h5⟩,_,h4⟩:=aH.bind' h4
  obtain⟨lh,⟨_,h6⟩,_,h4⟩:=aH.bind' h4
  cases h4
  have ha:a.eval x=.slice none 0 0:=ha
  have hr:=sN (P:=P) h6 (Nat.le_refl 0) ol oh true w
  obtain⟨b1,b2,b3,b4⟩:=h6.RB
  have e1:lh.1=0:=by omega
  have e2:lh.2=0:=by omega
  exact⟨.slice none 0 0,by simp[execOp,ho,Instr.sliceAt,Instr.slice,run_underlying hu,ha,hr,run_sizeOf h5.du,e1,e2],rfl⟩
 ·rename_i e n z cols hu _ _
  obtain⟨z',⟨_,h5⟩,_,h4⟩:=aH.bind' h4
  obtain⟨_,⟨_,h7⟩,_,h4⟩:=aH.bind' h4
  obtain⟨lh,⟨_,h6⟩,_,h4⟩:=aH.bind' h4
  cases h4
  have hz:z=z':=beq_iff.1 h7.ck
  subst hz
  obtain⟨b1,b2,b3,b4⟩:=h6.RB
  have hl:=apC (q:=false) (n:=.s n) h6
  have hfl:(aq2 l lh.1 cols).length=cols.length:=by unfold aq2;split<;>simp
  have hfg:∀j,gK (aq2 l lh.1 cols) j=gK cols (lh.1*cols.length+j):=λj=>by
   unfold aq2
   split
   ·rcases b4 with⟨_,e⟩| ⟨i,e,_⟩
    ·rw[e,Nat.zero_mul,Nat.zero_add]
    ·cases e
   ·exact awi ..
  obtain⟨hz,ha⟩:=ha
  rcases ha with⟨h0,y,ha⟩| ⟨B,s,cap,pd,ha,hc⟩
  ·have hr:=sN (P:=P) h6 (Nat.le_refl _) ol oh true w
   clear b3 b4
   have e1:lh.1=0:=by omega
   have e2:lh.2=0:=by omega
   rw[h0] at hr
   exact⟨.slice y 0 0,by simp[execOp,ho,Instr.sliceAt,Instr.slice,run_underlying hu,ha,hr,run_sizeOf h5.du,e1,e2],hfl.trans hz,.inl ⟨by omega,y,rfl⟩⟩
  ·have hr:=sN (P:=P) h6 pd ol oh true w
   refine⟨_,by simp[execOp,ho,Instr.sliceAt,Instr.slice,run_underlying hu,ha,hr,run_sizeOf h5.du];rfl,hfl.trans hz,?_⟩
   by_cases hm2:cap=lh.1
   ·left
    refine⟨by omega,some ⟨B,s,none⟩,?_⟩
    rw[if_pos hm2]
    have e1:lh.2-lh.1=0:=by omega
    have e2:cap-lh.1=0:=by omega
    rw[e1,e2]
   ·right
    refine⟨B,s+lh.1*z,cap-lh.1,by omega,by rw[if_neg hm2,lC,hl],λj hj=> ?_⟩
    rw[hl] at hj
    have e4:lh.1*z+(lh.2-lh.1)*z=lh.2*z:=by rw[<-Nat.add_mul];congr 1;omega
    have e5:=Nat.mul_le_mul_right z b2
    obtain⟨f,v,f1,f2,f3⟩:=hc (lh.1*z+j) (by omega)
    exact⟨f,v,by rw[hfg,hz];exact f1,by rw[Nat.add_assoc];exact f2,f3⟩
 ·cases h4
omit [ax] in
theorem aIl (vs:List Value):∀(off k:Nat) (cs:Array Value),off+k+vs.length<=cs.size->
  ((vs.zipIdx k).foldl (λ(cs:Array Value) (x:Value×Nat)=>cs.setIfInBounds (off+x.2) x.1) cs).size=cs.size∧
  ∀i d,((vs.zipIdx k).foldl (λ(cs:Array Value) (x:Value×Nat)=>cs.setIfInBounds (off+x.2) x.1) cs).getD i d=if off+k<=i∧i<off+k+vs.length then vs.getD (i-(off+k)) d else cs.getD i d:=by
 induction vs with
 |nil=>intro off k cs _;refine⟨rfl,λi d=> ?_⟩;rw[if_neg (by simp)];rfl
 |cons v vs ih=>
  intro off k cs h
  simp only[List.length_cons] at h
  rw[List.zipIdx_cons,List.foldl_cons]
  obtain⟨h1,h2⟩:=ih off (k+1) (cs.setIfInBounds (off+k) v) (by simp;omega)
  refine⟨by simpa using h1,λi d=> ?_⟩
  rw[h2]
  simp only[List.length_cons]
  by_cases c1:off+(k+1)<=i∧i<off+(k+1)+vs.length
  ·rw[if_pos c1,if_pos (by omega),show i-(off+k)=(i-(off+(k+1)))+1 by omega]
   simp[List.getD]
  ·rw[if_neg c1]
   by_cases c2:i=off+k
   ·subst c2
    rw[if_pos (by omega)]
    simp[Array.getD,show off+k<cs.size by omega]
   ·rw[if_neg (by omega)]
    simp[Array.getD_eq_getD_getElem?,Array.getElem?_setIfInBounds_ne (Ne.symm c2)]
theorem aRI {π:Pi}{cs PY vs:af}{arr:Array Value}{xs:Array Value}{off:Nat}(h1:bh (CV.rel π) cs.list arr.toList)(h2:bh (CV.rel π) vs.list xs.toList)(hle:off+af.size vs<=af.size cs)(hu:ah3 cs off vs=some PY):
  bh (CV.rel π) PY.list (xs.zipIdx.foldl (λ(cs:Array Value) (x:Value×Nat)=>cs.setIfInBounds (off+x.2) x.1) arr).toList:=by
 obtain⟨l1,g1⟩:=ia h1
 obtain⟨l2,g2⟩:=ia h2
 obtain⟨u1,u2⟩:=LU hu
 simp only[Array.length_toList] at l1 l2
 have key:=aIl xs.toList off 0 arr (by simp only[Array.length_toList];omega)
 have e:(xs.zipIdx.foldl (λ(cs:Array Value) (x:Value×Nat)=>cs.setIfInBounds (off+x.2) x.1) arr)=((xs.toList.zipIdx 0).foldl (λ(cs:Array Value) (x:Value×Nat)=>cs.setIfInBounds (off+x.2) x.1) arr):=by
  rw[<-Array.foldl_toList];simp
 rw[e]
 refine vd (by rw[Array.length_toList,key.1,u1,l1]) λj hj=> ?_
 rw[u1] at hj
 have vx:j<((xs.toList.zipIdx 0).foldl (λ(cs:Array Value) (x:Value×Nat)=>cs.setIfInBounds (off+x.2) x.1) arr).size:=by rw[key.1,l1];exact hj
 have hk:=key.2 j undef
 rw[Array.getD_eq_getD_getElem?,Array.getElem?_eq_getElem vx,Option.getD_some] at hk
 refine⟨_,by rw[Array.getElem?_toList,Array.getElem?_eq_getElem vx],?_⟩
 rw[hk,u2 j hj]
 simp only[Nat.add_zero,Array.length_toList,l2]
 by_cases c:off<=j∧j<off+af.size vs
 ·rw[if_pos c,if_pos c]
  obtain⟨x,hx,hr⟩:=g2 (j-off) (by omega)
  simp only[List.getD,hx,Option.getD_some]
  exact hr
 ·rw[if_neg c,if_neg c]
  obtain⟨x,hx,hr⟩:=g1 j hj
  rw[Array.getElem?_toList] at hx
  simp only[Array.getD_eq_getD_getElem?,hx,Option.getD_some]
  exact hr
theorem adr {π:Pi}{pl:Nat->Option (Nat×Nat)}:∀{l:List (Nat×RV)} {l':List (Nat×Value)} {cs PY:af} {arr:Array Value},bh (λ(p:Nat×RV) (q:Nat×Value)=>p.1=q.1∧p.2.rel π q.2) l l'->ah6 pl cs l=some PY->bh (CV.rel π) cs.list arr.toList->
  ∃aNa,Instr.fill pl arr l'=some aNa∧bh (CV.rel π) PY.list aNa.toList∧af.size PY=af.size cs
 | [],[],cs,PY,arr,_,h,ha=>by simp[ah6] at h;subst h;exact⟨arr,rfl,ha,rfl⟩
 |(i,v)::l,(i',x)::l',cs,PY,arr,⟨⟨hi,hv⟩,hl⟩,h,ha=>by
  have hi:i=i':=hi
  subst hi
  simp only[ah6] at h
  split at h
  ·cases h
  ·rename_i q n hpl
   split at h
   ·rename_i hc
    simp only[Bool.and_eq_true,beq_iff,eA] at hc
    obtain⟨c1,c2⟩:=hc
    split at h
    ·rename_i cs1 hu
     have hcx:bh (CV.rel π) v.bE.list x.cells.toList:=RV.LV hv
     have l1:=(ia hcx).1
     have l2:=(ia ha).1
     simp only[Array.length_toList] at l1 l2
     obtain⟨aNa,h1,h2,h3⟩:=adr (pl:=pl) hl h (aRI ha hcx (by omega) hu)
     refine⟨aNa,?_,h2,h3.trans (LU hu).1⟩
     simp only[Instr.fill,hpl]
     rw[if_neg (by simp;omega)]
     exact h1
    ·cases h
   ·cases h
 | [],_::_,_,_,_,h,_,_=>h.elim
 |_::_,[],_,_,_,h,_,_=>h.elim
theorem aAP {ps:Array (Nat×Operand)}{l:List (Nat×RV)}{fp:List Fp}{π:Pi}{a:Act}{w:World}(h:aH (Ab.qW (λp:Nat×Operand=>(tt p.2).bind λv=>.ret (p.1,v)) ps.toList) g l fp)(R:Rel X D π g a w):
  bh (λ(p:Nat×RV) (q:Nat×Value)=>p.1=q.1∧p.2.rel π q.2) l (ps.map λ(i,x)=>(i,a.eval x)).toList:=by
 have:=aH.qW (ρ:=λ(p:Nat×RV) (x:Nat×Operand)=>p.1=x.1∧p.2.rel π (a.eval x.2)) (λx v l hx=>by
  obtain⟨r,⟨_,h1⟩,_,h2⟩:=aH.bind' hx
  cases h2
  exact⟨rfl,h1.tt R⟩) h
 rw[Array.toList_map]
 exact alS this
theorem aIm {t:TypeId}{ps:Array (Nat×Operand)}{fp:List Fp}(ho:o.op=.build t ps)
  (h:aH ((Ab.du (xH P t)).bind λz=>(Ab.qW (λp=>(tt p.2).bind λv=>.ret (p.1,v)) ps.toList).bind λl=>(Ab.du (placesOf P t)).bind λpl=>(Ab.du (ah6 pl z.bE l)).bind λcs=>.ret (dm o.dst (.r (.agg cs)))) g us fp):xp P o X D aJ us g:=by
 obtain⟨z,⟨_,h1⟩,_,h⟩:=aH.bind' h
 obtain⟨l,⟨_,h2⟩,_,h⟩:=aH.bind' h
 obtain⟨pl,⟨_,h3⟩,_,h⟩:=aH.bind' h
 obtain⟨cs,⟨_,h4⟩,_,h⟩:=aH.bind' h
 cases h
 refine gE λπ a w R=> ?_
 have h3:=h3.du
 have h4:=h4.du
 have hp:=aAP h2 R
 obtain⟨zx,_,⟨it,hi,hz⟩,aWt⟩:=aa6 h1.du w
 have hzr:=RV.LV (aWt π)
 have hb:∃arr,P.built t (ps.map λ(i,x)=>(i,a.eval x)).toList=some arr∧bh (CV.rel π) cs.list arr.toList:=by
  unfold placesOf at h3
  split at h3
  ·rename_i fs hu
   cases hq:fs.toList.mapM (λf=>(P.info? f.type).map λi=>(f.offset,i.size)) with
   |none=>rw[hq] at h3;cases h3
   |some aXz=>
    rw[hq] at h3
    cases h3
    obtain⟨arr,e1,e2,_⟩:=adr hp h4 hzr
    refine⟨arr,?_,e2⟩
    simp only[Program.built,hi,hu,hz,hq]
    rw[<-e1];congr 1;funext i;simp
  ·rename_i n e hu
   cases hq:gJ P e with
   |none=>rw[hq] at h3;cases h3
   |some n=>
    rw[hq] at h3
    cases h3
    obtain⟨ie,hie,rfl⟩:=am5 hq
    obtain⟨arr,e1,e2,_⟩:=adr hp h4 hzr
    exact⟨arr,by simp only[Program.built,hi,hu,hz,hie];exact e1,e2⟩
  ·cases h3
 obtain⟨arr,e1,e2⟩:=hb
 exact⟨.agg arr,by simp[execOp,ho,run_build w t _ arr e1],arr,rfl,e2⟩
omit [ax] in
theorem auv (n:Nat)(l:af):af.size (rep n l)=n*af.size l:=by
 induction n with
 |zero=>rw[rep,af.jS,Nat.zero_mul]
 |succ n ih=>rw[rep,af.size_append,ih,Nat.succ_mul];omega
omit [ax] in
theorem aRJ (n:Nat)(l:af)(i:Nat)(h:i<n*af.size l):af.get (rep n l) i=af.get l (i%af.size l):=by
 induction n generalizing i with
 |zero=>omega
 |succ n ih=>
  rw[rep,af.get_append]
  by_cases hi:i<af.size l
  ·rw[if_pos hi,Nat.mod_eq_of_lt hi]
  ·rw[if_neg hi,ih _ (by rw[Nat.succ_mul] at h;omega)]
   congr 1
   exact(Nat.mod_eq_sub_mod (by omega)).symm
theorem Rel.row {π:Pi}{a:Act}{w:World}{g:Gt}(R:Rel X D π g a w){k:af}{n:Sz}{q cap:Nat}{arr:Array Value}{t:TypeId}{dst:Option Tmp}(hd:∀d,dst=some d->d<X.N)(h0:π aJ=none)(hk:X.k<=aJ)(hn:n.val<=cap)(hc:cap*q<=arr.size)(hs:k.size=n.val*q)
  (h2:∀j,j<k.size->∃v,arr[j]? =some v∧(k.get j).rel π v):
  Rel X D (xw π aJ (w.heap.size,0,k.size,cap*q)) (cj (dm dst (.r (.c (.sl aJ (.k 0) n q true)))) ((Up.new aJ k).fP g)) (a.put dst (.slice (some ⟨w.heap.size,0,none⟩) n.val cap)) (w.alloc (.cells arr t)):=by
 have hq:=Nat.mul_le_mul_right q hn
 refine(R.alloc (k:=k) (cs:=arr) (t:=t) (e:=cap*q) h0 hk (by omega) hc h2).dst hd ?_
 exact⟨_,_,_,_,nM _ _ _,by simp only[bX.val];omega,λ_=>by simp only[bX.val];omega,.inr ⟨cap,hn,rfl,λ_=>by simp only[bX.val];omega⟩⟩
omit [ax] in
theorem Tv {π:Pi}{b:Nat}{p:Nat×Nat×Nat×Nat}{aJ c:Nat}(hb:aJ<=b∧b<aJ+c):∀b',xw π b p b'≠none->π b'≠none∨(aJ<=b'∧b'<aJ+c):=by
 intro b' h
 simp only[xw] at h
 by_cases e:b'=b
 ·subst e;exact .inr hb
 ·simp only[e,if_false] at h;exact .inl h
omit [ax] in
theorem Jm (dst:Option Tmp)(v:AV)(us:List Up)(g:Gt)(hus:∀u∈us,∀i x,u≠.t i x):cj (dm dst v++us) g=cj (dm dst v) (cj us g):=by
 rw[Nz]
 cases dst with
 |none=>rfl
 |some d=>
  show cj us ((Up.t d v).fP g)=(Up.t d v).fP (cj us g)
  induction us generalizing g with
  |nil=>rfl
  |cons u us ih=>
   have hu:=hus u (by simp)
   show cj us (u.fP ((Up.t d v).fP g))=(Up.t d v).fP (cj us (u.fP g))
   rw[<-ih _ λx hx=>hus x (by simp[hx])]
   cases u with
   |t i x=>exact absurd rfl (hu i x)
   |_=>rfl
theorem auw {t:TypeId}{n:Nat}{ps:Array (Nat×Operand)}{fp:List Fp}(ho:o.op=.buildSlice t n ps)
  (h:aH (match P.underlying t with
  |some (.slice e)=>(Ab.du (xH P e)).bind λz=>(Ab.du (gJ P e)).bind λq=>
   (Ab.ck (Nat.ble 1 q&&Nat.ble (n*q) 16777216)).bind λ_=>
   (Ab.qW (λp=>(tt p.2).bind λv=>.ret (p.1,v)) ps.toList).bind λl=>
   (Ab.ck (Nat.beq (af.size z.bE) q)).bind λ_=>(Ab.du (ah6 (λi=>some (i*q,q)) (rep n z.bE) l)).bind λcs=>.ret (dm o.dst (.r (.c (.sl aJ (.k 0) (.l n) q true)))++[.new aJ (alR P e n q cs)])
  |_=>.fail) g us fp):xp P o X D aJ us g:=by
 split at h
 ·rename_i e hu
  obtain⟨z,⟨_,h1⟩,_,h⟩:=aH.bind' h
  obtain⟨q,⟨_,h2⟩,_,h⟩:=aH.bind' h
  obtain⟨_,⟨_,h3⟩,_,h⟩:=aH.bind' h
  obtain⟨l,⟨_,h4⟩,_,h⟩:=aH.bind' h
  obtain⟨_,⟨_,h5⟩,_,h⟩:=aH.bind' h
  obtain⟨cs,⟨_,h6⟩,_,h⟩:=aH.bind' h
  cases h
  have h3:=h3.ck
  simp only[Bool.and_eq_true,eA] at h3
  have h5:af.size z.bE=q:=beq_iff.1 h5.ck
  intro π a w next Q R hk hf hd hD hn
  obtain⟨zx,hz1,_,hz2⟩:=aa6 h1.du w
  obtain⟨zl,zg⟩:=ia (RV.LV (hz2 π))
  rw[Array.length_toList] at zl
  have hp:=aAP h4 R
  have aii:bh (CV.rel π) (af.list (rep n z.bE)) ((Array.range (n*q)).map (zx.cells[·%zx.cells.size]!)).toList:=by
   refine vd (by simp[auv,h5]) λj hj=> ?_
   rw[auv,h5] at hj
   rw[aRJ _ _ _ (by rw[h5];exact hj),h5]
   obtain⟨y,hy,hr⟩:=zg (j%q) (by rw[h5];exact Nat.mod_lt _ (by omega))
   refine⟨y,?_,hr⟩
   have e3:zx.cells.size=q:=zl.trans h5
   have e4:zx.cells[j%q]? =some y:=by simpa using hy
   simp[hj,e3,getElem!_def,e4]
  obtain⟨arr,e1,e2,e3⟩:=adr hp h6.du aii
  have e1:Instr.fill (λi=>some (i*q,q)) ((Array.range (n*q)).map (zx.cells[·%zx.cells.size]!)) (ps.toList.map λx=>(x.1,a.eval x.2))=some arr:=by rw[Array.toList_map] at e1;exact e1
  obtain⟨cl1,cl2⟩:=ia e2
  rw[Array.length_toList] at cl1
  rw[auv,h5] at e3
  have hbr:af.size (alR P e n q cs)=af.size cs∧∀j,j<af.size cs->af.get (alR P e n q cs) j=af.get cs j:=by
   unfold alR
   split
   ·exact⟨rfl,λ_ _=>rfl⟩
   ·exact Xn q cs
  generalize alR P e n q cs=kk at hbr hf hn
  obtain⟨br1,br2⟩:=hbr
  have hcn:bY (dm o.dst (.r (.c (.sl aJ (.k 0) (.l n) q true)))++[Up.new aJ kk])=1:=by unfold dm bY;cases o.dst<;>rfl
  have h0:=hf aJ (Nat.le_refl _) (by omega)
  have R1:=R.row (k:=kk) (n:=.l n) (q:=q) (cap:=n) (arr:=arr) (t:=e) hd h0 hk (Nat.le_refl _) (by omega) (br1.trans e3) (λj hj=>by
   rw[br1] at hj
   obtain⟨y,hy,hr⟩:=cl2 j hj
   rw[br2 j hj]
   exact⟨y,by simpa using hy,hr⟩)
  refine Ny (x:=.slice (some ⟨w.heap.size,0,none⟩) n n) (w':=w.alloc (.cells arr e)) ?_ (hn _ _ (xw π aJ (w.heap.size,0,af.size kk,n*q)) (xL h0 _) (Tv ⟨Nat.le_refl _,by omega⟩) ?_)
  ·have h24:¬(16777216<n*q):=by omega
   simp only[execOp,ho,Instr.buildSlice,Sem.run_bind,run_underlying hu,Result.andThen_ok,run_sizeOf h2.du]
   by_cases hnq:n*q=0
   ·have hn0:n=0:=by
     rcases Nat.mul_eq_zero.1 hnq with h|h
     ·exact h
     ·omega
    subst hn0
    simp only[Nat.zero_mul] at e1 ⊢
    have aWu:(Array.range 0).map (zx.cells[·%zx.cells.size]!)=#[]:=Array.eq_empty_of_size_eq_zero (by simp)
    have hr0:Array.range 0=#[]:=Array.eq_empty_of_size_eq_zero (by simp)
    rw[aWu] at e1
    simp[e1,hr0,Jl]
   ·simp[h24,hnq,hz1,e1,Jl]
  ·rw[Jm _ _ _ _ (by simp)];exact R1
 ·cases h
theorem ayD {t:TypeId}{n c:Operand}{fp:List Fp}(ho:o.op=.makeSlice t n c)
  (h:aH (match P.underlying t with
  |some (.slice e)=>(Ab.du (xH P e)).bind λz=>(Ab.du (gJ P e)).bind λq=>(Iq n).bind λn=>(Iq c).bind λc=>
   (Ab.ck (decide (n.2=0)&&decide (c.2=0))).bind λ_=>(Ab.du (B3 q z.bE)).bind λcols=>
   .ret (dm o.dst (.r (.c (.sl aJ (.k 0) (.s 0) q true)))++[.new aJ [.a (.s 0) cols]])
  |_=>.fail) g us fp):xp P o X D aJ us g:=by
 split at h
 ·rename_i e hu
  obtain⟨z,⟨_,h1⟩,_,h⟩:=aH.bind' h
  obtain⟨q,⟨_,h2⟩,_,h⟩:=aH.bind' h
  obtain⟨nn,⟨_,h3⟩,_,h⟩:=aH.bind' h
  obtain⟨cc,⟨_,h4⟩,_,h⟩:=aH.bind' h
  obtain⟨_,⟨_,h5⟩,_,h⟩:=aH.bind' h
  obtain⟨cols,⟨_,h6⟩,_,h⟩:=aH.bind' h
  cases h
  have h5:=h5.ck
  simp only[Bool.and_eq_true,decide_eq_true_eq] at h5
  intro π a w next Q R hk hf hd hD hn
  have hv1:=h3.Iq R
  have hv2:=h4.Iq R
  rw[h5.1] at hv1
  rw[h5.2] at hv2
  have hcn:bY (dm o.dst (.r (.c (.sl aJ (.k 0) (.s 0) q true)))++[Up.new aJ [.a (.s 0) cols]])=1:=by unfold dm bY;cases o.dst<;>rfl
  have h0:=hf aJ (Nat.le_refl _) (by omega)
  have hs0:af.size [.a (.s 0) cols]=0:=by simp[af.size,Sg.size,Sz.val]
  have R1:=R.row (k:=[.a (.s 0) cols]) (n:=.s 0) (q:=q) (cap:=0) (arr:=#[]) (t:=e) hd h0 hk (Nat.le_refl _) (by simp) (by rw[hs0];simp[Sz.val]) (λj hj=>by rw[hs0] at hj;omega)
  obtain⟨i,hi,hby⟩:∃i,P.info? e=some i∧True:=by
   have:=h2.du
   unfold gJ at this
   cases hh:P.info? e with
   |none=>rw[hh] at this;cases this
   |some i=>exact⟨i,rfl,trivial⟩
  refine Ny (x:=.slice (some ⟨w.heap.size,0,none⟩) 0 0) (w':=w.alloc (.cells #[] e)) ?_ (hn _ _ (xw π aJ (w.heap.size,0,af.size [.a (.s 0) cols],0*q)) (xL h0 _) (Tv ⟨Nat.le_refl _,by omega⟩) ?_)
  ·have hw0:IntKind.i64.wrap 0=0:=by decide
   simp[execOp,ho,Instr.makeSlice,run_underlying hu,hv1,hv2,asInt,asIntOf,typeInfo,hi,hw0,run_sizeOf h2.du,askRoom,Jl]
   rw[show Array.range 0=#[] from Array.eq_empty_of_size_eq_zero (by simp),Array.map_empty]
  ·rw[Jm _ _ _ _ (by simp)];exact R1
 ·cases h
end
end Go.Ab
namespace Go.Ab
variable [ax]
section
variable {P:Program} {o:Oper} {X:Cx} {D:Nat->Prop} {aJ:Nat} {us:List Up} {g:Gt}
theorem It {c:Call}{args:List AV}{l:List Fp}{π:Pi}{a:Act}{w:World}(h:aH (Ab.qW Ab.BD c.args.toList) g args l)(R:Rel X D π g a w):bh (AV.rel π) args (c.args.map a.eval).toList:=by
 rw[Array.toList_map]
 exact alS (aH.qW (ρ:=λv x=>v.rel π (a.eval x)) (λx v l hx=>aH.BD hx R) h)
omit [ax] in
theorem aRK {x:Array Value}{y:Value}(h:x.toList=[y]):x=#[y]:=by rw[<-Array.toList_inj];exact h
omit [ax] in
theorem aRL {x:Array Value}{y z:Value}(h:x.toList=[y,z]):x=#[y,z]:=by rw[<-Array.toList_inj];exact h
omit [ax] in
theorem aWv {x:Array TypeId}{y z:TypeId}(h:x.toList=[y,z]):x=#[y,z]:=by rw[<-Array.toList_inj];exact h
omit [ax] in
theorem auy {R:AV->Value->Prop}{x:AV}{l:List Value}(h:bh R [x] l):∃y,l=[y]∧R x y:=by
 match l,h with
 | [y],⟨h,_⟩=>exact⟨y,rfl,h⟩
 | [],h=>exact h.elim
 |_::_::_,⟨_,h⟩=>exact h.elim
omit [ax] in
theorem auz {R:AV->Value->Prop}{x x':AV}{l:List Value}(h:bh R [x,x'] l):∃y y',l=[y,y']∧R x y∧R x' y':=by
 match l,h with
 | [y,y'],⟨h,h',_⟩=>exact⟨y,y',rfl,h,h'⟩
 | [],h=>exact h.elim
 | [_],⟨_,h⟩=>exact h.elim
 |_::_::_::_,⟨_,_,h⟩=>exact h.elim
omit [ax] in
theorem ads {c:Call}{bi:Builtin}(a:Act)(w:World)(ho:o.op=.call c)(hc:c.callee=.builtin bi):∃cs,(execOp a.eval o).run P w=(builtin bi c.argTypes o.type cs (c.args.map a.eval)).run P w:=
 ⟨_,by simp[execOp,ho,resolve,hc,invoke];rfl⟩
theorem aEr {π:Pi}:∀{vs:List FV} {xs:List AV} {ys:List Value},bh (λ(v:FV) (x:AV)=>x=.r (.c (.f v))) vs xs->bh (AV.rel π) xs ys->bh FV.rel vs ys
 | [],[],[],_,_=>trivial
 |v::vs,x::xs,y::ys,⟨e,h⟩,⟨a,b⟩=>by subst e;exact⟨a,aEr h b⟩
 | [],_::_,_,h,_=>h.elim
 |_::_,[],_,h,_=>h.elim
 | [],[],_::_,_,h=>h.elim
 |_::_,_::_,[],_,h=>h.elim
theorem aNL {c:CV}{n:Nat}{l:List Fp}(h:aH (match c with|.f _=>Rd.fail|c=>aM1 c) g n l){π:Pi}{x:Value}(hx:c.rel π x):∃a cap,x=.slice a n cap:=by
 cases c<;>simp only[aM1] at h
 case sl b o m z own=>
  cases h
  obtain⟨B,s,q,e,_,_,_,⟨h0,a,rfl⟩| ⟨cap,_,rfl,_⟩⟩:=hx
  ·exact⟨_,_,by rw[h0]⟩
  ·exact⟨_,_,rfl⟩
 case nils=>cases h;exact⟨_,_,hx⟩
 case fs n z cols=>
  cases h
  obtain⟨_,⟨h0,a,rfl⟩| ⟨B,s,cap,_,rfl,_⟩⟩:=hx
  ·exact⟨_,_,by rw[h0]⟩
  ·exact⟨_,_,rfl⟩
 all_goals cases h
theorem aNM {c:Call}{args:List AV}{x:AV}{fp l0:List Fp}(ho:o.op=.call c)(hc:c.callee=.builtin .len)(ha:aH (Ab.qW Ab.BD c.args.toList) g args l0)(jQ:args=[x])
  (h:aH ((Ab.du ((c.argTypes[0]?).bind P.underlying)).bind λ
  |.array n _=>.ret (dm o.dst (.r (.c (.f (.i .i64 (n:Int))))))
  |.slice _=>(Ab.asC x).bind λc=>(match c with|.f _=>Rd.fail|c=>aM1 c).bind λn=>.ret (dm o.dst (.r (.c (.f (.i .i64 (n:Int))))))
  |.string=>(Ab.asC x).bind λc=>(match c with|.f (.s x)=>Rd.ret x.size|_=>Rd.fail).bind λn=>.ret (dm o.dst (.r (.c (.f (.i .i64 (n:Int))))))
  |_=>.fail) g us fp):xp P o X D aJ us g:=by
 subst jQ
 obtain⟨d,⟨_,h1⟩,_,h⟩:=aH.bind' h
 have h1:=h1.du
 obtain⟨t,ht,hu⟩:∃t,c.argTypes[0]? =some t∧P.underlying t=some d:=by
  cases ht:c.argTypes[0]? with
  |none=>rw[ht] at h1;cases h1
  |some t=>rw[ht] at h1;exact⟨t,rfl,h1⟩
 split at h
 ·rename_i n _ _
  cases h
  refine gE λπ a w R=> ?_
  obtain⟨y,hy,hr⟩:=auy (It ha R)
  have hy:=aRK hy
  exact⟨goInt n,by obtain⟨cs,e⟩:=ads (P:=P) a w ho hc;rw[e,hy];simp[builtin,Builtin.len_,ht,run_underlying hu],rfl⟩
 ·obtain⟨c1,⟨_,h2⟩,_,h⟩:=aH.bind' h
  obtain⟨n,⟨_,h3⟩,_,h⟩:=aH.bind' h
  cases h
  refine gE λπ a w R=> ?_
  obtain⟨y,hy,hr⟩:=auy (It ha R)
  have hy:=aRK hy
  rw[h2.asC] at hr
  obtain⟨ad,cap,rfl⟩:=aNL h3 hr
  exact⟨goInt n,by obtain⟨cs,e⟩:=ads (P:=P) a w ho hc;rw[e,hy];simp[builtin,Builtin.len_,ht,run_underlying hu],rfl⟩
 ·obtain⟨c1,⟨_,h2⟩,_,h⟩:=aH.bind' h
  obtain⟨n,⟨_,h3⟩,_,h⟩:=aH.bind' h
  cases h
  refine gE λπ a w R=> ?_
  obtain⟨y,hy,hr⟩:=auy (It ha R)
  have hy:=aRK hy
  rw[h2.asC] at hr
  split at h3
  ·cases h3
   have hr:y=_:=hr
   subst hr
   exact⟨_,by obtain⟨cs,e⟩:=ads (P:=P) a w ho hc;rw[e,hy];simp[builtin,Builtin.len_,ht,run_underlying hu];rfl,rfl⟩
  ·cases h3
 ·cases h
omit [ax] in
theorem aIn {x:AV}{v:FV}{l:List Fp}(h:aH (Ab.asF x) g v l):x=.r (.c (.f v)):=by
 unfold Ab.asF at h;split at h
 ·cases h;rfl
 ·cases h
theorem aEs {f:FV->FV->Rd FV}{m:Value->Value->Sem Value}(hf:∀x y v l,aH (f x y) g v l->∀a b,x.rel a->y.rel b->∀w,∃z,(m a b).run P w=.ok z w∧v.rel z):∀{xs:List FV} {ys:List Value} {x v:FV} {y:Value} {l:List Fp},aH (aq4 f x xs) g v l->x.rel y->bh FV.rel xs ys->∀w,∃z,(ys.foldlM m y).run P w=.ok z w∧v.rel z
 | [],[],x,v,y,l,h,hx,_,w=>by cases h;exact⟨y,by simp,hx⟩
 |a::xs,b::ys,x,v,y,l,h,hx,⟨ha,hs⟩,w=>by
  obtain⟨r,⟨_,h1⟩,_,h⟩:=aH.bind' h
  obtain⟨z,hz,hr⟩:=hf x a r _ h1 y b hx ha w
  obtain⟨z',ru,hr'⟩:=aEs hf h hr hs w
  exact⟨z',by simp[List.foldlM_cons,hz,ru],hr'⟩
 | [],_::_,_,_,_,_,_,_,h,_=>h.elim
 |_::_,[],_,_,_,_,_,_,h,_=>h.elim
theorem aIo {bi:Builtin}{f:FV->FV->Rd FV}{m:Value->Value->Sem Value}(hf:∀x y v l,aH (f x y) g v l->∀a b,x.rel a->y.rel b->∀w,∃z,(m a b).run P w=.ok z w∧v.rel z)
  {c:Call}{args:List AV}{x:AV}{xs:List AV}{fp l0:List Fp}(ho:o.op=.call c)(hc:c.callee=.builtin bi)(hb:∀t cs y ys w,(builtin bi c.argTypes t cs (y::ys).toArray).run P w=((ys.foldlM m y).run P w).andThen λv w=>.ok (.value v) w)
  (ha:aH (Ab.qW Ab.BD c.args.toList) g args l0)(jQ:args=x::xs)
  (h:aH ((Ab.asF x).bind λx=>(Ab.qW Ab.asF xs).bind λl=>(aq4 f x l).bind λv=>.ret (dm o.dst (.r (.c (.f v))))) g us fp):xp P o X D aJ us g:=by
 subst jQ
 obtain⟨v0,⟨_,h1⟩,_,h⟩:=aH.bind' h
 obtain⟨vs,⟨_,h2⟩,_,h⟩:=aH.bind' h
 obtain⟨v,⟨_,h3⟩,_,h⟩:=aH.bind' h
 cases h
 refine gE λπ a w R=> ?_
 have hr:=It ha R
 have h1:=aIn h1
 subst h1
 have h2:=aH.qW (ρ:=λv x=>x=.r (.c (.f v))) (λx v l hx=>aIn hx) h2
 obtain⟨y,ys,hy,hry,hrs⟩:∃y ys,(c.args.map a.eval).toList=y::ys∧v0.rel y∧bh (AV.rel π) xs ys:=by
  revert hr
  generalize (c.args.map a.eval).toList=L
  intro hr
  cases L with
  |nil=>exact hr.elim
  |cons y ys=>exact⟨y,ys,rfl,hr.1,hr.2⟩
 have hvs:bh FV.rel vs ys:=aEr h2 hrs
 obtain⟨z,hz,hzr⟩:=aEs hf h3 hry hvs w
 have hy':c.args.map a.eval=(y::ys).toArray:=by rw[<-Array.toList_inj];exact hy
 exact⟨z,by obtain⟨cs,e⟩:=ads (P:=P) a w ho hc;rw[e,hy',hb,hz];rfl,hzr⟩
theorem aNN {x y v:FV}{l:List Fp}(h:aH (aRv x y) g v l)(a b:Value)(ha:x.rel a)(hb:y.rel b)(w:World):∃z,(Builtin.min2 a b).run P w=.ok z w∧v.rel z:=by
 unfold aRv at h
 split at h
 ·rename_i k m k' n
  have ha:a=_:=ha
  have hb:b=_:=hb
  subst ha hb
  split at h
  ·cases h;exact⟨_,by simp[Builtin.min2],rfl⟩
  ·cases h
 ·cases h
theorem aNO {x y v:FV}{l:List Fp}(h:aH (aRw x y) g v l)(a b:Value)(ha:x.rel a)(hb:y.rel b)(w:World):∃z,(Builtin.max2 a b).run P w=.ok z w∧v.rel z:=by
 unfold aRw at h
 split at h
 ·rename_i k m k' n
  have ha:a=_:=ha
  have hb:b=_:=hb
  subst ha hb
  split at h
  ·cases h;exact⟨_,by simp[Builtin.max2],rfl⟩
  ·cases h
 ·cases h
omit [ax] in
theorem aTp (ts:Array TypeId)(t:TypeId)(cs:Array Bool)(y:Value)(ys:List Value)(w:World):(builtin .min ts t cs (y::ys).toArray).run P w=((ys.foldlM Builtin.min2 y).run P w).andThen λv w=>.ok (.value v) w:=by
 simp[builtin,Builtin.min_]
omit [ax] in
theorem aTq (ts:Array TypeId)(t:TypeId)(cs:Array Bool)(y:Value)(ys:List Value)(w:World):(builtin .max ts t cs (y::ys).toArray).run P w=((ys.foldlM Builtin.max2 y).run P w).andThen λv w=>.ok (.value v) w:=by
 simp[builtin,Builtin.max_]
end
end Go.Ab
namespace Go.Ab
variable [ax]
section
variable {P:Program} {o:Oper} {X:Cx} {D:Nat->Prop} {aJ:Nat} {us:List Up} {g:Gt}
theorem Rel.aRM {π:Pi}{a:Act}{w:World}(R:Rel X D π g a w){b n B s e lo:Nat}{xs:List Value}(hz:g.z b=some n)(hb:π b=some (B,s,n,e))(h0:n<=lo)(hn:s+lo+xs.length<=e)
  (hD:b<X.k->D b):Rel X D π g a (w.setCells B (s+lo) xs):=by
 obtain⟨B',s',e',ew,hle,h1,h2⟩:=R.hp.hp b n hz
 rw[hb] at ew;cases ew
 have hin:∀j,j<xs.length->(cl w B (s+lo+j)).isSome=true:=λj hj=>(h1 _ (by omega) (by omega)).1
 refine⟨R.tm,R.nt,R.df,⟨R.hp.am.setCells λhl=>R.hp.lb b B s n e (by rw[hz];simp) hb (by omega),R.hp.lb,λb' n' ru=> ?_,R.hp.dj⟩,R.uG,R.ft,R.fr.setCells ?_⟩
 ·obtain⟨B2,s2,e2,CF,aa5,k1,k2⟩:=R.hp.hp b' n' ru
  refine⟨B2,s2,e2,CF,aa5,λi hi he=>⟨isSome_setCells hin (k1 i hi he).1,by rw[ni];exact(k1 i hi he).2⟩,λj hj=> ?_⟩
  rw[dH]
  ·exact k2 j hj
  ·intro e3;subst e3
   by_cases eb:b'=b
   ·subst eb
    rw[hb] at CF;cases CF
    omega
   ·by_cases hc:s+lo<=s2+j∧s2+j<s+lo+xs.length
    ·exact(R.hp.dj b' b B2 s2 _ e2 s _ e eb (by simp[ru]) (by simp[hz]) CF hb (s2+j) (by omega) (by omega) (by omega) (by omega)).elim
    ·omega
 ·rcases Nat.lt_or_ge B X.w0.heap.size with hB|hB
  ·right
   intro j hj
   rcases Nat.lt_or_ge b X.k with hk|hk
   ·exact⟨b,s,n,e,hk,hD hk,(R.uG b hk).symm.trans hb,by omega,by omega⟩
   ·exact R.ft b B s n e hk (by simp[hz]) hb hB _ (by omega) (by omega)
  ·exact .inl hB
theorem aIp {z:Nat}{x:CV}{xb:Sz×af}{l:List Fp}(h:aH (slB z x) g xb l){π:Pi}{a:Act}{w:World}(R:Rel X D π g a w){xv:Value}(hx:x.rel π xv):
  ∃news:List Value,news.length=xb.1.val*z∧xb.2.size=xb.1.val*z∧(∀j,j<xb.1.val*z->∃v,news[j]? =some v∧(xb.2.get j).rel π v)∧(∀v∈news,v.oneCell'=true)∧
   ((xb.1.val=0∧∃y c,xv=.slice y 0 c)∨∃ad c,xv=.slice (some ad) xb.1.val c∧∀j v,news[j]? =some v->w.cell? (ad.add j)=some v):=by
 cases x<;>simp only[slB] at h
 case sl b q n z' own=>
  obtain⟨_,⟨_,h1⟩,_,h2⟩:=aH.bind' h
  clear h
  have ru:z=z':=Nat.eq_of_beq_eq_true h1.ck
  subst ru
  cases h2 with|vw r v hz hs hv h3=>
  cases h3
  obtain⟨B2,s2,q2,e2,CF,hm,_,⟨h0,y,rfl⟩| ⟨cap,pd,rfl,_⟩⟩:=hx
  ·exact⟨[],by simp[h0],hs,λj hj=>by simp only[h0,Nat.zero_mul] at hj;omega,by simp,.inl ⟨h0,y,0,rfl⟩⟩
  ·obtain⟨_,xs,hl,hxs,hc⟩:=R.view hz hs hv CF hm
   have aIq:∀v∈xs,v.oneCell'=true:=λv hv=>by
    obtain⟨i,hi⟩:=List.mem_iff_getElem?.1 hv
    obtain⟨c,_,hr⟩:=hxs.get' hi
    exact CV.Oq hr
   refine⟨xs,hl,hs,λj hj=>(ia hxs).2 j (by rw[hs];exact hj),aIq,.inr ⟨_,cap,rfl,λj v hj=>by rw[lC];exact hc j v hj⟩⟩
 case nils=>
  cases h
  have hx:xv=.slice none 0 0:=hx
  exact⟨[],by simp[Sz.val],by simp[af.size,Sz.val],λj hj=>by simp[Sz.val] at hj,by simp,.inl ⟨rfl,none,0,hx⟩⟩
 case fs n z' cols=>
  obtain⟨_,⟨_,h1⟩,_,h2⟩:=aH.bind' h
  clear h
  have ru:z=z':=Nat.eq_of_beq_eq_true h1.ck
  subst ru
  cases h2
  obtain⟨hz,hx⟩:=hx
  have hs:af.size [.a (.s n) cols]=n*z:=by rw[af.size_cons,af.jS,Sg.jU,hz];rfl
  rcases hx with⟨h0,y,rfl⟩| ⟨B,s,cap,pd,rfl,hc⟩
  ·exact⟨[],by simp[h0,Sz.val],hs,λj hj=>by simp only[h0,Sz.val,Nat.zero_mul] at hj;omega,by simp,.inl ⟨h0,y,0,rfl⟩⟩
  ·have cell:∀j,j<n*z->∃v,cl w B (s+j)=some v∧(gK cols j).rel π v:=λj hj=>by
    obtain⟨f,v,e1,e2,e3⟩:=hc j hj
    exact⟨v,(R.hp.am.st _ _ _ e2).2,by rw[e1];exact e3⟩
   have hat:∀j v,((List.range (n*z)).map λj=>(cl w B (s+j)).getD undef)[j]? =some v->j<n*z∧cl w B (s+j)=some v:=λj v hv=>by
    have hjn:j<n*z:=by
     have:=(List.getElem?_eq_some_iff.1 hv).1;simpa using this
    obtain⟨u,hu,_⟩:=cell j hjn
    simp[hjn,hu] at hv
    exact⟨hjn,by rw[hu,hv]⟩
   refine⟨(List.range (n*z)).map λj=>(cl w B (s+j)).getD undef,by simp[Sz.val],hs,λj hj=> ?_,λv hv=> ?_,.inr ⟨_,cap,rfl,λj v hv=>by rw[lC];exact(hat j v hv).2⟩⟩
   ·obtain⟨v,hv,hr⟩:=cell j hj
    refine⟨v,?_,by rw[af.c9 (by rw[Sg.jU,hz];exact hj),Sg.mZ];exact hr⟩
    have hj':j<n*z:=hj
    rw[List.getElem?_map,List.getElem?_range hj'];simp[hv]
   ·obtain⟨i,hi⟩:=List.mem_iff_getElem?.1 hv
    obtain⟨h1,h2⟩:=hat i v hi
    obtain⟨u,hu,hr⟩:=cell i h1
    rw[h2] at hu;cases hu
    exact CV.Oq hr
 all_goals cases h
omit [ax] in
theorem aIr {z:Nat}{y:Option Addr}{c:Nat}(w:World):(Builtin.firstCells z 0 (.slice y 0 c)).run P w=.ok #[] w:=by
 cases y<;>simp[Builtin.firstCells,loadCells,loadCellsFrom]
omit [ax] in
theorem adt {t ty e:TypeId}{z:Nat}(ht:P.underlying t=some (.slice e))(hz:gJ P e=some z){base y:Option Addr}{n cap c:Nat}(h:n<=cap)(w:World):
  (Builtin.append_ #[t,t] ty #[.slice base n cap,.slice y 0 c]).run P w=.ok (.slice base n cap) w:=by
 cases base<;>simp[Builtin.append_,run_underlying ht,run_sizeOf hz,Builtin.lenOf,h,aIr,storeCells]
omit [ax] in
theorem Jo {t ty e:TypeId}{z:Nat}(ht:P.underlying t=some (.slice e))(hz:gJ P e=some z){B q n cap m c:Nat}{ad:Addr}{news:List Value}(h:n+m<=cap)(hl:news.length=m*z)(w:World)
  (hn:∀j v,news[j]? =some v->w.cell? (ad.add j)=some v)(h1:∀v∈news,v.oneCell'=true)(hc:∀j,j<news.length->(cl w B (q+n*z+j)).isSome=true∧fz w B (q+n*z+j)=false):
  (Builtin.append_ #[t,t] ty #[.slice (some ⟨B,q,none⟩) n cap,.slice (some ad) m c]).run P w=.ok (.slice (some ⟨B,q,none⟩) (n+m) cap) (w.setCells B (q+n*z) news):=by
 have hf:=run_firstCells_some (P:=P) w z m ad m c news hl hn
 have hst:=run_storeCells_cells (P:=P) B (q+n*z) news 0 w (λj hj=>by have:=(hc j hj).1;simpa[cl] using this) (λj hj=>by have:=(hc j hj).2;simpa[fz] using this) h1
 simp[Builtin.append_,run_underlying ht,run_sizeOf hz,Builtin.lenOf,h,hf,lC,hst]
theorem GL {t ty e:TypeId}{z by_:Nat}{zv:RV}(ht:P.underlying t=some (.slice e))(hz:gJ P e=some z)(hb:(P.info? e).map (·.bytes)=some by_)(hv:xH P e=some zv)(hl0:af.size zv.bE=z)(hby:1<=by_)
  {sv:Value}{n cap m c:Nat}{ad:Addr}{EH news:List Value}(w:World)(hs:(sv=.slice none 0 0∧n=0∧cap=0)∨∃b,sv=.slice (some b) n cap∧∀j v,EH[j]? =some v->w.cell? (b.add j)=some v)
  (hlo:EH.length=n*z)(hl:news.length=m*z)(hn:∀j v,news[j]? =some v->w.cell? (ad.add j)=some v)(hg:cap<n+m)(hm:0<m)(awm:(n+m)*by_<=140737488355328):
  ∃gc arr,(Builtin.append_ #[t,t] ty #[sv,.slice (some ad) m c]).run P w=.ok (.slice (some ⟨w.heap.size,0,none⟩) (n+m) gc) (w.drew.alloc (.cells arr e))∧n+m<=gc∧arr.size=gc*z∧∃rest,arr.toList=EH++news++rest:=by
 obtain⟨zx,_,⟨i,hi,hzz⟩,hzr⟩:=aa6 hv w
 rw[hi] at hb
 have hzs:i.size=z:=by unfold gJ at hz;rw[hi] at hz;simpa using hz
 have hbs:i.bytes=by_:=by simpa using hb
 have hzc:zx.cells.size=z:=by
  have:=(ia (RV.LV (hzr λ_=>none))).1
  simp only[Array.length_toList] at this;omega
 have hle:n+m<=(n+m)*by_:=Nat.le_mul_of_pos_right _ (by omega)
 have vx:∀(uG gc:Nat),n+m<=gc->(EH.toArray++news.toArray++Builtin.zeroCells zx.cells (gc-(n+m))).size=gc*z:=λuG gc hgc=>by
  simp only[Array.size_append,List.size_toArray,size_zeroCells,hzc,hlo,hl,<-Nat.add_mul]
  congr 1;omega
 rcases hs with⟨rfl,rfl,rfl⟩| ⟨b,rfl,ho⟩
 ·have ho:EH=[]:=List.eq_nil_of_length_eq_zero (by simpa using hlo)
  subst ho
  have hr:=run_append_nil (P:=P) w t ty e i zx ht hi hzz ad m c news (by rw[hzs];exact hl) hn hm (by omega) (by rw[hbs];simp only[Nat.zero_add] at awm;omega)
  have hge:=grownCap_ge w m 0 e
  refine⟨_,_,by simpa using hr,by simpa using hge,?_,Builtin.zeroCells zx.cells (grownCap w m 0 e-m)|>.toList,?_⟩
  ·have:=vx 0 (grownCap w m 0 e) (by simpa using hge)
   simpa using this
  ·simp
 ·have hr:=run_append_grow (P:=P) w t ty e i zx ht hi hzz b n cap EH (by rw[hzs];exact hlo) ho ad m c news (by rw[hzs];exact hl) hn hg (by omega) (growslice_fits hg (by rw[hbs];exact awm))
  have hge:=grownCap_ge w (n+m) cap e
  refine⟨_,_,hr,hge,vx 0 _ hge,Builtin.zeroCells zx.cells (grownCap w (n+m) cap e-(n+m))|>.toList,?_⟩
  simp
omit [ax] in
theorem aLG {e:TypeId}{n:Nat}{l:List Fp}(h:aH (Ab.du ((P.info? e).map (·.bytes))) g n l):(P.info? e).map (·.bytes)=some n:=h.du
omit [ax] in
theorem S9 {EH news rest:List Value}{arr:Array Value}(h:arr.toList=EH++news++rest){j:Nat}{v:Value}:(EH[j]? =some v->arr[j]? =some v)∧(news[j]? =some v->arr[EH.length+j]? =some v):=by
 refine⟨λhj=> ?_,λhj=> ?_⟩
 ·have lY:=(List.getElem?_eq_some_iff.1 hj).1
  rw[<-Array.getElem?_toList,h,List.getElem?_append_left (by simp;omega),List.getElem?_append_left lY,hj]
 ·have lY:=(List.getElem?_eq_some_iff.1 hj).1
  rw[<-Array.getElem?_toList,h,List.getElem?_append_left (by simp;omega),List.getElem?_append_right (by omega),show EH.length+j-EH.length=j by omega,hj]
theorem aF6 {c:Call}{t:TypeId}{sa xa:AV}{args:List AV}{fp l0:List Fp}(ho:o.op=.call c)(hc:c.callee=.builtin .append)(ha:aH (Ab.qW Ab.BD c.args.toList) g args l0)(jQ:args=[sa,xa])
  (hts:c.argTypes=#[t,t]){s x:CV}(hs:sa=.r (.c s))(hx:xa=.r (.c x))(h:aH (aAl P t s x o.dst aJ) g us fp):xp P o X D aJ us g:=by
 subst hs hx jQ
 unfold aAl at h
 split at h
 case h_2=>cases h
 rename_i e hu
 obtain⟨z,⟨_,h1⟩,_,h⟩:=aH.bind' h
 obtain⟨by_,⟨_,h2⟩,_,h⟩:=aH.bind' h
 obtain⟨zv,⟨_,h3⟩,_,h⟩:=aH.bind' h
 obtain⟨_,⟨_,h4⟩,_,h⟩:=aH.bind' h
 obtain⟨⟨xn,xk⟩,⟨_,h5⟩,_,h⟩:=aH.bind' h
 have h1:=h1.du
 have h2:=aLG h2
 have h3:=h3.du
 have h4:=h4.ck
 simp only[Bool.and_eq_true,eA,beq_iff] at h4
 have hzv:=h4.2.2
 simp only[] at h
 cases s with
 |nils=>
  simp only[] at h
  obtain⟨_,⟨_,h6⟩,_,h⟩:=aH.bind' h
  cases h
  have h6:xn.val*by_<=140737488355328:=Nat.le_of_ble_eq_true h6.ck
  intro π a w next Q R hk hf hd hD hn
  obtain⟨y1,y2,hy,WO,hr2⟩:=auz (It ha R)
  have hy:=aRL hy
  have WO:y1=.slice none 0 0:=WO
  subst WO
  obtain⟨news,n1,n2,n3,n4,n5⟩:=aIp h5 R hr2
  simp only at n1 n2 n3 n4 n5
  obtain⟨cs,er⟩:=ads (P:=P) a w ho hc
  have hcn:bY (dm o.dst (.r (.c (.sl aJ (.k 0) xn z true)))++[Up.new aJ xk])=1:=by unfold dm bY;cases o.dst<;>rfl
  have h0:=hf aJ (Nat.le_refl _) (by omega)
  by_cases hm:xn.val=0
  ·obtain⟨y,c',rfl⟩:∃y c',y2=.slice y 0 c':=by
    rcases n5 with⟨_,y,c',rfl⟩| ⟨ad,c',rfl,_⟩
    ·exact⟨y,c',rfl⟩
    ·exact⟨some ad,c',by rw[hm]⟩
   have mu:=adt (P:=P) (ty:=o.type) hu h1 (base:=none) (y:=y) (n:=0) (cap:=0) (c:=c') (Nat.le_refl _) w
   have hx0:=xL h0 (0,0,af.size xk,0)
   have R1:=(R.Jk hx0 (λb hb=>by simp only[xw];rw[if_neg (by omega)])).new (k:=xk) (nM π aJ (0,0,af.size xk,0)) hk (by rw[n2,hm];omega) (λi _ i2=>by omega) (λj hj=>by rw[n2,hm] at hj;omega)
    (λ_ _ _ _ _ _ _ _ _ i2=>by omega) (λ_ _ _ i2=>by omega)
   have R2:=R1.dst hd (v:=.r (.c (.sl aJ (.k 0) xn z true))) (x:=.slice none 0 0) ⟨_,_,_,_,nM _ _ _,by simp only[bX.val,n2];omega,λ_=>by simp only[bX.val,n2];omega,.inl ⟨hm,none,rfl⟩⟩
   refine Ny (x:=.slice none 0 0) (w':=w) ?_ (hn _ _ (xw π aJ (0,0,af.size xk,0)) hx0 (Tv ⟨Nat.le_refl _,by omega⟩) ?_)
   ·rw[er,hy,hts]
    simp[builtin,mu]
   ·rw[Jm _ _ _ _ (by simp)];exact R2
  ·obtain⟨ad,c',rfl,hn5⟩:∃ad c',y2=.slice (some ad) xn.val c'∧∀j v,news[j]? =some v->w.cell? (ad.add j)=some v:=by
    rcases n5 with⟨h,_⟩|h
    ·exact absurd h hm
    ·exact h
   obtain⟨gc,arr,mu,hgc,vx,rest,adu⟩:=GL (P:=P) (ty:=o.type) hu h1 h2 h3 hzv h4.2.1 (sv:=.slice none 0 0) (n:=0) (cap:=0) (m:=xn.val) (c:=c') (ad:=ad) (EH:=[]) (news:=news) w (.inl ⟨rfl,rfl,rfl⟩) (by simp) n1 hn5 (by omega) (by omega) (by simpa using h6)
   simp only[Nat.zero_add] at mu hgc
   have R1:=(R.drew).row (k:=xk) (n:=xn) (q:=z) (cap:=gc) (arr:=arr) (t:=e) hd h0 hk hgc (by omega) n2 (λj hj=>by
    rw[n2] at hj
    obtain⟨v,hv,hr⟩:=n3 j hj
    exact⟨v,by simpa using(S9 adu).2 hv,hr⟩)
   refine Ny (x:=.slice (some ⟨w.heap.size,0,none⟩) xn.val gc) (w':=w.drew.alloc (.cells arr e)) ?_ (hn _ _ (xw π aJ (w.heap.size,0,af.size xk,gc*z)) (xL h0 _) (Tv ⟨Nat.le_refl _,by omega⟩) ?_)
   ·rw[er,hy,hts]
    simp[builtin,mu]
   ·rw[Jm _ _ _ _ (by simp)];exact R1
 |sl b q n z' own=>
  cases own with
  |false=>cases h
  |true=>
  simp only[] at h
  obtain⟨_,⟨_,h6⟩,_,h⟩:=aH.bind' h
  obtain⟨_,⟨_,h7⟩,_,h⟩:=aH.bind' h
  cases h with|sz r hz h=>
  cases h with|vw r' sb ru hsb hvb h=>
  obtain⟨nb,⟨_,h9⟩,_,h⟩:=aH.bind' h
  obtain⟨_,⟨_,h10⟩,_,h⟩:=aH.bind' h
  cases h
  have h6:z=z':=Nat.eq_of_beq_eq_true h6.ck
  subst h6
  have h7:(n.val+xn.val)*by_<=140737488355328:=Nat.le_of_ble_eq_true h7.ck
  rw[hz] at ru;cases ru
  have arl:(n.add xn).val=n.val+xn.val:=by cases n<;>cases xn<;>rfl
  intro π a w next Q R hk hf hd hD hn
  obtain⟨y1,y2,hy,WO,hr2⟩:=auz (It ha R)
  have hy:=aRL hy
  obtain⟨news,n1,n2,n3,n4,n5⟩:=aIp h5 R hr2
  simp only at n1 n2 n3 n4 n5
  obtain⟨cs,er⟩:=ads (P:=P) a w ho hc
  have Xr:=af.aND h9.du
  have hcn:bY (dm o.dst (.r (.c (.sl aJ (.k 0) (n.add xn) z true)))++[Up.kill b,Up.new aJ nb])=1:=by unfold dm bY;cases o.dst<;>rfl
  have h0:=hf aJ (Nat.le_refl _) (by omega)
  have hDb:b<X.k->D b:=hD (.kill b) (by simp)
  obtain⟨B,s,e',hb,hle,k1,k2⟩:=R.hp.hp b _ hz
  have kV:aJ≠b:=λe=>by rw[e,hb] at h0;cases h0
  have hmul:(n.val+xn.val)*z=n.val*z+xn.val*z:=Nat.add_mul _ _ _
  have apD:af.size nb=(n.val+xn.val)*z:=by rw[Xr.1,hsb,n2,hmul]
  have within:∀(w':World) (y:Value) (cap:Nat),Rel X D π g a w'->(n.val+xn.val)<=cap->s+q.val+cap*z<=e'->y=.slice (some ⟨B,s+q.val,none⟩) (n.val+xn.val) cap->
    (∀i,s+q.val<=i->i<e'->(cl w' B i).isSome=true∧fz w' B i=false)->(∀j,j<(n.val+xn.val)*z->∃v,cl w' B (s+q.val+j)=some v∧(af.get nb j).rel π v)->
    (execOp a.eval o).run P w=.ok (.value y) w'->o.wp P a w next Q:=by
   intro w' y cap R' pd hce hyy hc1 hc2 mu
   have hcz:(n.val+xn.val)*z<=cap*z:=Nat.mul_le_mul_right _ pd
   have hx0:=xL h0 (B,s+q.val,af.size nb,e')
   have R1:=((R'.kill b).Jk hx0 (λb hb=>by simp only[xw];rw[if_neg (by omega)])).new (k:=nb) (nM π aJ (B,s+q.val,af.size nb,e')) hk (by rw[apD];omega) hc1
    (λj hj=>by
     rw[apD] at hj
     obtain⟨v,hv,hr⟩:=hc2 j hj
     exact⟨v,hv,CV.cZ hx0 _ _ hr⟩)
    (λb' s1 q1 e1 aWw hz1 hb1 i i1 i2 i3 i4=>by
     simp only[xw,aWw,if_false] at hb1
     have hbb:b'≠b:=λe=>hz1 (by simp[Up.fP,e])
     have hz2:g.z b'≠none:=by simpa[Up.fP,hbb] using hz1
     exact R'.hp.dj b' b B s1 q1 e1 s _ e' hbb hz2 (by simp[hz]) hb1 hb i i3 i4 (by omega) i2)
    (λhB i i1 i2=>by
     rcases Nat.lt_or_ge b X.k with Y1|Y1
     ·exact⟨b,s,_,e',Y1,hDb Y1,(R'.uG b Y1).symm.trans hb,by omega,i2⟩
     ·exact R'.ft b B s _ e' Y1 (by simp[hz]) hb hB i (by omega) i2)
    (λh=>R'.hp.lb b B s _ e' (by simp[hz]) hb (by omega))
   have R2:=R1.dst hd (v:=.r (.c (.sl aJ (.k 0) (n.add xn) z true))) (x:=y) ⟨_,_,_,_,nM _ _ _,by rw[arl,apD];simp only[bX.val];omega,λ_=>by rw[arl,apD];simp only[bX.val];omega,.inr ⟨cap,by rw[arl];exact pd,by rw[arl];exact hyy,λ_=>hce⟩⟩
   refine Ny mu (hn _ _ (xw π aJ (B,s+q.val,af.size nb,e')) hx0 (Tv ⟨Nat.le_refl _,by omega⟩) ?_)
   rw[Jm _ _ _ _ (by simp)];exact R2
  have apE:∀(sv:Value) (cap:Nat) (xs:List Value) (ad:Addr) (c':Nat),y1=sv->y2=.slice (some ad) xn.val c'->(∀j v,news[j]? =some v->w.cell? (ad.add j)=some v)->xs.length=n.val*z->(∀j,j<n.val*z->∃v,xs[j]? =some v∧(af.get sb j).rel π v)->
    ((sv=.slice none 0 0∧n.val=0∧cap=0)∨∃b,sv=.slice (some b) n.val cap∧∀j v,xs[j]? =some v->w.cell? (b.add j)=some v)->0<xn.val->cap<n.val+xn.val->o.wp P a w next Q:=by
   intro sv cap xs ad c' hsv hy2 hn5 hxl hold hss hm pd
   subst hy2
   obtain⟨gc,arr,mu,hgc,vx,rest,adu⟩:=GL (P:=P) (ty:=o.type) hu h1 h2 h3 hzv h4.2.1 (c:=c') (ad:=ad) (EH:=xs) (news:=news) w hss hxl n1 hn5 pd hm h7
   have R1:=((R.drew).kill b).row (k:=nb) (n:=n.add xn) (q:=z) (cap:=gc) (arr:=arr) (t:=e) hd h0 hk (by rw[arl];exact hgc) (by omega) (by rw[apD,arl]) (λj hj=>by
    rw[apD] at hj
    rw[Xr.2 j (by omega),hsb]
    by_cases hjn:j<n.val*z
    ·obtain⟨v,hv,hr⟩:=hold j hjn
     rw[if_pos hjn]
     exact⟨v,(S9 adu).1 hv,hr⟩
    ·rw[if_neg hjn]
     obtain⟨v,hv,hr⟩:=n3 (j-n.val*z) (by omega)
     have:=(S9 adu).2 hv
     rw[hxl,show n.val*z+(j-n.val*z)=j by omega] at this
     exact⟨v,this,hr⟩)
   refine Ny (x:=.slice (some ⟨w.heap.size,0,none⟩) (n.val+xn.val) gc) (w':=w.drew.alloc (.cells arr e)) ?_ (hn _ _ (xw π aJ (w.heap.size,0,af.size nb,gc*z)) (xL h0 _) (Tv ⟨Nat.le_refl _,by omega⟩) ?_)
   ·rw[er,hy,hts,hsv]
    simp[builtin,mu]
   ·rw[Jm _ _ _ _ (by simp),<-arl];exact R1
  have aUn:xn.val=0->∃y c',y2=.slice y 0 c':=λhm=>by
   rcases n5 with⟨_,y,c',rfl⟩| ⟨ad,c',rfl,_⟩
   ·exact⟨y,c',rfl⟩
   ·exact⟨some ad,c',by rw[hm]⟩
  have aUo:xn.val≠0->∃ad c',y2=.slice (some ad) xn.val c'∧∀j v,news[j]? =some v->w.cell? (ad.add j)=some v:=λhm=>by
   rcases n5 with⟨h,_⟩|h
   ·exact absurd h hm
   ·exact h
  obtain⟨B2,s2,q2,e2,CF,hmq,aVi,⟨hn0,y0,rfl⟩| ⟨cap,pd,rfl,aLF⟩⟩:=WO
  ·by_cases hm:xn.val=0
   ·obtain⟨y,c',rfl⟩:=aUn hm
    have mu:=adt (P:=P) (ty:=o.type) hu h1 (base:=y0) (y:=y) (n:=0) (cap:=0) (c:=c') (Nat.le_refl _) w
    have hs0:af.size nb=0:=by rw[apD,hm,hn0];omega
    have hx0:=xL h0 (0,0,af.size nb,0)
    have R1:=((R.kill b).Jk hx0 (λb hb=>by simp only[xw];rw[if_neg (by omega)])).new (k:=nb) (nM π aJ (0,0,af.size nb,0)) hk (by omega) (λi _ i2=>by omega) (λj hj=>by omega)
     (λ_ _ _ _ _ _ _ _ _ i2=>by omega) (λ_ _ _ i2=>by omega)
    have R2:=R1.dst hd (v:=.r (.c (.sl aJ (.k 0) (n.add xn) z true))) (x:=.slice y0 0 0) ⟨_,_,_,_,nM _ _ _,by rw[arl,hs0,hm,hn0];simp[bX.val],λ_=>by rw[arl,hs0,hm,hn0];simp[bX.val],.inl ⟨by omega,y0,rfl⟩⟩
    refine Ny (x:=.slice y0 0 0) (w':=w) ?_ (hn _ _ (xw π aJ (0,0,af.size nb,0)) hx0 (Tv ⟨Nat.le_refl _,by omega⟩) ?_)
    ·rw[er,hy,hts]
     simp[builtin,mu]
    ·rw[Jm _ _ _ _ (by simp)];exact R2
   ·obtain⟨ad,c',hy2,hn5⟩:=aUo hm
    cases y0 with
    |none=>exact apE _ 0 [] ad c' rfl hy2 hn5 (by simp[hn0]) (λj hj=>by simp only[hn0,Nat.zero_mul] at hj;omega) (.inl ⟨rfl,hn0,rfl⟩) (by omega) (by omega)
    |some ad0=>exact apE _ 0 [] ad c' rfl hy2 hn5 (by simp[hn0]) (λj hj=>by simp only[hn0,Nat.zero_mul] at hj;omega) (.inr ⟨ad0,by rw[hn0],λj v hj=>by simp at hj⟩) (by omega) (by omega)
  ·rw[hb] at CF;cases CF
   have aYn:=aVi rfl
   have aIk:=aLF rfl
   obtain⟨_,xs,hxl,hxs,hxc⟩:=R.view hz hsb hvb hb hmq
   have hold:∀j,j<n.val*z->∃v,xs[j]? =some v∧(af.get sb j).rel π v∧cl w B (s+q.val+j)=some v:=λj hj=>by
    obtain⟨v,hv,hr⟩:=(ia hxs).2 j (by rw[hsb];exact hj)
    exact⟨v,hv,hr,hxc j v hv⟩
   by_cases hm:xn.val=0
   ·obtain⟨y,c',rfl⟩:=aUn hm
    have mu:=adt (P:=P) (ty:=o.type) hu h1 (base:=some ⟨B,s+q.val,none⟩) (y:=y) (n:=n.val) (cap:=cap) (c:=c') pd w
    refine within w _ cap R (by omega) aIk (by rw[hm,Nat.add_zero]) (λi i1 i2=>k1 i (by omega) i2) (λj hj=> ?_) (by rw[er,hy,hts];simp[builtin,mu])
    have hj':j<n.val*z:=by rw[hm] at hj;simpa using hj
    obtain⟨v,_,hr,hc⟩:=hold j hj'
    exact⟨v,hc,by rw[Xr.2 j (by omega),if_pos (by omega)];exact hr⟩
   ·obtain⟨ad,c',hy2,hn5⟩:=aUo hm
    by_cases P3:n.val+xn.val<=cap
    ·subst hy2
     have hcz:(n.val+xn.val)*z<=cap*z:=Nat.mul_le_mul_right _ P3
     have hin:∀j,j<news.length->(cl w B (s+q.val+n.val*z+j)).isSome=true∧fz w B (s+q.val+n.val*z+j)=false:=λj hj=>k1 _ (by omega) (by omega)
     have mu:=Jo (P:=P) (ty:=o.type) hu h1 (B:=B) (q:=s+q.val) (n:=n.val) (cap:=cap) (m:=xn.val) (c:=c') (ad:=ad) P3 n1 w hn5 n4 hin
     have R':=R.aRM (lo:=q.val+n.val*z) (xs:=news) hz hb (by omega) (by omega) hDb
     rw[show s+(q.val+n.val*z)=s+q.val+n.val*z by omega] at R'
     refine within _ _ cap R' P3 aIk rfl (λi i1 i2=>⟨isSome_setCells (λj hj=>(hin j hj).1) (k1 i (by omega) i2).1,by rw[ni];exact(k1 i (by omega) i2).2⟩) (λj hj=> ?_) (by rw[er,hy,hts];simp[builtin,mu])
     rw[Xr.2 j (by omega),hsb]
     by_cases hjn:j<n.val*z
     ·obtain⟨v,hv,hr,hc⟩:=hold j hjn
      rw[if_pos hjn]
      exact⟨v,by rw[dH (λ_=>by omega)];exact hc,hr⟩
     ·rw[if_neg hjn]
      obtain⟨v,hv,hr⟩:=n3 (j-n.val*z) (by omega)
      have lY:=(List.getElem?_eq_some_iff.1 hv)
      have:=lZ (w:=w) (B:=B) (o:=s+q.val+n.val*z) (vs:=news) (λj hj=>(hin j hj).1) lY.1
      rw[show s+q.val+n.val*z+(j-n.val*z)=s+q.val+j by omega,lY.2] at this
      exact⟨v,this,hr⟩
    ·exact apE _ cap xs ad c' rfl hy2 hn5 hxl (λj hj=>let⟨v,hv,hr,_⟩:=hold j hj;⟨v,hv,hr⟩) (.inr ⟨_,rfl,λj v hj=>by rw[lC];exact hxc j v hj⟩) (by omega) (by omega)
 |_=>cases h
omit [ax] in
theorem aH.aEj {v:Nat}:∀{k j:Nat} {l:List Fp},aH (aEj v k) g j l->j=Nat.min v k
 |0,j,l,h=>by cases h;simp
 |k+1,j,l,h=>by
  cases h with|test h=>
  cases hx:Nat.ble (k+1) v with
  |true=>
   rw[hx] at h;cases h
   have:=Nat.le_of_ble_eq_true hx
   show k+1=min v (k+1)
   omega
  |false=>
   rw[hx] at h
   have h0:¬k+1<=v:=λh=>by rw[Nat.ble_eq_true_of_le h] at hx;cases hx
   have e:=aH.aEj h
   rw[e]
   show min v k=min v (k+1)
   omega
omit [ax] in
theorem aH.aHZ {n n':Sz}{m:Bool×Sz}{l:List Fp}(h:aH (aHZ n n') g m l):m.2.val=Nat.min n'.val n.val:=by
 have least:∀n n':Sz,(Sz.least n' n).val=Nat.min n'.val n.val:=λn n'=>by cases n<;>cases n'<;>rfl
 unfold Ab.aHZ at h
 split at h
 ·split at h
  ·obtain⟨j,⟨_,h1⟩,_,h2⟩:=aH.bind' h
   cases h2
   exact aH.aEj h1
  ·cases h;rfl
 ·cases h;exact least _ _
theorem aLH {c:Call}{t:TypeId}{da xa:AV}{args:List AV}{fp l0:List Fp}(ho:o.op=.call c)(hc:c.callee=.builtin .copy)(ha:aH (Ab.qW Ab.BD c.args.toList) g args l0)(jQ:args=[da,xa])
  (hts:c.argTypes[0]? =some t){d x:CV}(hs:da=.r (.c d))(hx:xa=.r (.c x))(h:aH (copyV P t d x o.dst) g us fp):xp P o X D aJ us g:=by
 subst hs hx jQ
 unfold copyV at h
 split at h
 case h_2=>cases h
 rename_i e hu
 obtain⟨z,⟨_,h1⟩,_,h⟩:=aH.bind' h
 have h1:=h1.du
 split at h
 case h_2=>cases h
 rename_i b q n z1 w1 b' q' n' z2 w2 _
 obtain⟨_,⟨_,h2⟩,_,h'⟩:=aH.bind' h
 clear h
 obtain⟨_,⟨_,h3⟩,_,h⟩:=aH.bind' h'
 clear h'
 have h2:=h2.ck
 simp only[Bool.and_eq_true,beq_iff] at h2
 obtain⟨e1,e2⟩:=h2
 obtain⟨⟨fl,m⟩,⟨_,h6⟩,_,h'⟩:=aH.bind' h
 clear h
 have hmv:m.val=Nat.min n'.val n.val:=h6.aHZ
 clear h6
 cases h' with|vw r' v0 ru hs0 hv0 h=>
 cases h with|sz r hz h=>
 cases h
 have hsv:af.size (cond fl (qV v0) v0)=af.size v0∧∀j,j<af.size v0->af.get (cond fl (qV v0) v0) j=af.get v0 j:=by
  cases fl
  ·exact⟨rfl,λ_ _=>rfl⟩
  ·exact vy v0
 have hs:af.size (cond fl (qV v0) v0)=m.val*z:=hsv.1.trans hs0
 have hv:q'.val+m.val*z<=r'->∀j,j<m.val*z->af.get (cond fl (qV v0) v0) j=g.c b' (q'.val+j):=λhb j hj=>(hsv.2 j (by rw[hs0];exact hj)).trans (hv0 hb j hj)
 generalize cond fl (qV v0) v0=v at hs hv ⊢
 clear hsv hs0 hv0
 subst e1 e2
 intro π a w next Q R hk hf hd hD hn
 obtain⟨y1,y2,hy,WO,hr2⟩:=auz (It ha R)
 have hy:=aRL hy
 obtain⟨cs,er⟩:=ads (P:=P) a w ho hc
 have key:∀(w':World) (g':Gt),(execOp a.eval o).run P w=.ok (.value (.int .i64 ((m.val:Nat):Int))) w'->Rel X D π g' a w'->
   cj [Up.c b q v] g=g'->o.wp P a w next Q:=by
  intro w' g' mu R' hg
  refine Ny mu (hn _ _ π (Ext.refl _) (λb h=>.inl h) ?_)
  rw[Jm _ _ _ _ (by simp),hg]
  exact R'.dst hd rfl
 by_cases hm:m.val=0
 ·have hv0:af.size v=0:=by rw[hs,hm,Nat.zero_mul]
  have hg:cj [Up.c b q v] g=g:=by
   show(Up.c b q v).fP g=g
   simp only[Up.fP]
   have:(λb' j=>if b'=b∧q.val<=j∧j<q.val+af.size v then af.get v (j-q.val) else g.c b' j)=g.c:=by
    funext b' j;rw[if_neg (by omega)]
   rw[this]
  have hvv:∀{b q n z own} {y:Value},CV.rel π (.sl b q n z own) y->∃ad cap,y=.slice ad n.val cap:=λhr=>by
   obtain⟨_,_,_,_,_,_,_,⟨h,y,rfl⟩| ⟨cap,_,rfl,_⟩⟩:=hr
   ·exact⟨_,_,by rw[h]⟩
   ·exact⟨_,_,rfl⟩
  obtain⟨ad1,c1,rfl⟩:=hvv WO
  obtain⟨ad2,c2,rfl⟩:=hvv hr2
  have hf0:(Builtin.firstCells z 0 (.slice ad2 n'.val c2)).run P w=.ok #[] w:=by
   cases ad2<;>simp[Builtin.firstCells,loadCells,loadCellsFrom]
  refine key w g ?_ R hg
  rw[er,hy]
  rw[hmv] at hm
  have hc0:(Builtin.copy_ c.argTypes o.type #[.slice ad1 n.val c1,.slice ad2 n'.val c2]).run P w=.ok (goInt 0) w:=by
   cases ad1<;>simp[Builtin.copy_,hts,run_underlying hu,run_sizeOf h1,Builtin.lenOf,hm,hf0,storeCells]
  simp[builtin,hc0,hm,hmv,goInt]
 ·have kV:n.val≠0∧n'.val≠0:=by
   rw[hmv] at hm
   constructor<;>(intro e;apply hm;rw[e];simp[Nat.min_def])
  obtain⟨B,s,r1,e1,hb,hm1,_,⟨h,_⟩| ⟨c1,hc1,rfl,_⟩⟩:=WO
  ·exact absurd h kV.1
  obtain⟨B',s',r2,e1',ew,hm2,_,⟨h,_⟩| ⟨c2,hc2,rfl,_⟩⟩:=hr2
  ·exact absurd h kV.2
  have l1:m.val*z<=n.val*z:=Nat.mul_le_mul_right _ (by rw[hmv];exact Nat.min_le_right _ _)
  have l2:m.val*z<=n'.val*z:=Nat.mul_le_mul_right _ (by rw[hmv];exact Nat.min_le_left _ _)
  obtain⟨_,xs,hxl,hxs,hxc⟩:=R.view ru hs hv ew (by omega)
  rw[hmv] at hxl
  have hfc:=run_firstCells_some (P:=P) w z (Nat.min n'.val n.val) ⟨B',s'+q'.val,none⟩ n'.val c2 xs hxl (λj v hj=>by rw[lC];exact hxc j v hj)
  obtain⟨B0,s0,e0,Ot,hle,k1,k2⟩:=R.hp.hp b _ hz
  rw[hb] at Ot;cases Ot
  rw[hmv] at l1 hs
  have hst:=run_storeCells_cells (P:=P) B (s+q.val) xs 0 w (λj hj=>(k1 _ (by omega) (by omega)).1) (λj hj=>(k1 _ (by omega) (by omega)).2) (λv hv=>by
   obtain⟨i,hi⟩:=List.mem_iff_getElem?.1 hv
   obtain⟨c,_,hr⟩:=hxs.get' hi
   exact CV.Oq hr)
  have R':=R.set (o:=q) hz hb (by omega) hxs (hD (.c b q v) (by simp))
  refine key _ _ ?_ R' rfl
  rw[er,hy]
  simp[builtin,Builtin.copy_,hts,run_underlying hu,run_sizeOf h1,Builtin.lenOf,hfc,hst,goInt,hmv]
end
end Go.Ab
namespace Go.Ab
variable [ax]
def hC (l:List (Option af))(b j:Nat):CV:=match(l[b]?).getD none with
 |some k=>if j<k.size then k.get j else .f .u
 |none=>.f .u
def hZ (l:List (Option af))(b:Nat):Option Nat:=((l[b]?).getD none).map af.size
def after:List af->List Ch->List (Option af)
 | [],_=>[]
 |b::bs,.kU::cs=>some b::after bs cs
 |_::bs,.set b::cs=>some b::after bs cs
 |_::bs,.kill::cs=>none::after bs cs
 |_::bs,[]=>none::after bs []
omit [ax] in
theorem lH:∀(h:List af) (cs:List Ch),(after h cs).length=h.length
 | [],_=>rfl
 |_::bs,.kU::cs=>by simp[after,lH bs cs]
 |_::bs,.set b::cs=>by simp[after,lH bs cs]
 |_::bs,.kill::cs=>by simp[after,lH bs cs]
 |_::bs,[]=>by simp[after,lH bs []]
def m4.heap (r:m4)(h:List af):List (Option af):=after h r.vv++r.news.map some
def P4 (cs:List Ch)(b:Nat):Prop:=cs[b]? ≠some .kU
def qD (π:Pi)(w0:World)(h:List af)(res:m4):Ending->World->Prop:=λe w'=>∃π' v,e=.returned v∧Ext π π'∧res.val.rel π' v∧pM π' (hC (res.heap h)) (hZ (res.heap h)) w'∧bN w0 (AG π h.length (P4 res.vv)) w'∧
   (∀b,π' b≠none->b<h.length+res.news.length)∧
   (∀b B s q e,h.length<=b->π' b=some (B,s,q,e)->B<w0.heap.size->∀i,s<=i->i<e->AG π h.length (P4 res.vv) B i)
def Sound (P:Program)(f:FuncId)(F:CD):Prop:=
 ∀args h res,(F args h).eval=some res->∀(w:World) (π:Pi) (vs:Array Value),bh (AV.rel π) args vs.toList->pM π (hC (h.map some)) (hZ (h.map some)) w->(∀b,π b≠none->b<h.length)->
  ((callFunc f vs).run P w=.ok (.enter f vs) w∧Calls P f vs w (qD π w h res))∨∃v,(callFunc f vs).run P w=.ok (.value v) w∧qD π w h res (.returned v) w
omit [ax] in
theorem T.aRN {t:T}{g:Gt}{r:m4}{l:List Fp}(h:aH t.rd g r l):t.eval=some r:=by
 induction t generalizing l with
 |leaf r=>cases h;rfl
 |fail=>cases h
 |test x a b iha ihb=>
  cases h with|test h=>
  cases x
  ·exact ihb h
  ·exact iha h
 |opt x k ih=>
  cases h with|opt hx h=>
  subst hx
  exact ih _ h
def piL (π:Pi)(vs:List Vw):Pi:=λj=>match vs[j]? with
 |some v=>match π v.b with
  |some (B,s,_,e)=>some (B,s+v.o.val,v.n,if v.own then e else s+v.o.val+v.n)
  |none=>none
 |none=>none
def LX (vs iU:List Vw):Prop:=∃t,iU=vs++t
omit [ax] in
theorem LX.refl (vs:List Vw):LX vs vs:=⟨[],by simp⟩
omit [ax] in
theorem LX.trans {a b c:List Vw}(h:LX a b)(k:LX b c):LX a c:=by
 obtain⟨t,rfl⟩:=h
 obtain⟨u,rfl⟩:=k
 exact⟨t++u,by simp⟩
omit [ax] in
theorem LX.get {vs iU:List Vw}(h:LX vs iU){j:Nat}{v:Vw}(hj:vs[j]? =some v):iU[j]? =some v:=by
 obtain⟨t,rfl⟩:=h
 rw[List.getElem?_append_left (List.getElem?_eq_some_iff.1 hj).1,hj]
omit [ax] in
theorem LX.length {vs iU:List Vw}(h:LX vs iU):vs.length<=iU.length:=by
 obtain⟨t,rfl⟩:=h;simp
omit [ax] in
theorem LX.ext {π:Pi}{vs iU:List Vw}(h:LX vs iU):Ext (piL π vs) (piL π iU):=by
 intro j p hp
 unfold piL at hp ⊢
 cases hj:vs[j]? with
 |none=>rw[hj] at hp;cases hp
 |some v=>rw[h.get hj];rw[hj] at hp;exact hp
def Iu (π:Pi)(vs:List Vw):Prop:=
 (∀(i j:Nat) (v v':Vw),i≠j->vs[i]? =some v->vs[j]? =some v'->v.b=v'.b->(v.o.val+v.n<=v'.o.val∨v'.o.val+v'.n<=v.o.val)∧(v.own=false∨v'.own=false))∧
 ∀(i:Nat) (v:Vw),vs[i]? =some v->∃B s q e,π v.b=some (B,s,q,e)∧v.o.val+v.n<=q∧(v.own=true->v.o.val+v.n=q)
omit [ax] in
theorem Iu.nil (π:Pi):Iu π []:=⟨λi j v v' _ h=>by simp at h,λi v h=>by simp at h⟩
omit [ax] in
theorem ext_eq {o:bX}{bY:Sz}{z c n:Nat}(h:ext o bY z=some (c,n)):o.val=c∧bY.val*z=n:=by
 unfold ext at h
 split at h
 ·simp only[Option.some.injEq,Prod.mk.injEq] at h
  exact h
 ·cases h
omit [ax] in
theorem aF7 {b:Nat}{o:bX}{bY:Sz}{z:Nat}{vs:List Vw}(h:aq3 b (ext o bY z) vs=true):∀v∈vs,v.b=b->(o.val+bY.val*z<=v.o.val∨v.o.val+v.n<=o.val):=λv hv hb=>by
 have:=List.all_eq_true.1 h v hv
 rw[hb,Nat.beq_refl] at this
 simp only[Bool.not_true,Bool.false_or] at this
 split at this
 ·rename_i o1 n1 o2 n2 h1 h2
  obtain⟨e1,e2⟩:=ext_eq h1
  obtain⟨e3,e4⟩:=ext_eq h2
  simp only[Bool.or_eq_true,eA] at this
  rw[e1,e2,e3,Vw.n,e4];exact this
 ·cases this
omit [ax] in
theorem Iu.snoc {π:Pi}{vs:List Vw}(h:Iu π vs)(v:Vw)(ha:aq3 v.b (ext v.o v.bY v.z) vs=true)(hb:∃B s q e,π v.b=some (B,s,q,e)∧v.o.val+v.n<=q∧(v.own=true->v.o.val+v.n=q))(nW:v.own=true->∀v'∈vs,v'.b=v.b->v'.own=false):Iu π (vs++[v]):=by
 have hap:=aF7 ha
 have azM:∀(i:Nat) (w:Vw),(vs++[v])[i]? =some w->(i<vs.length∧vs[i]? =some w)∨(i=vs.length∧w=v):=λi w hw=>by
  rcases Nat.lt_or_ge i vs.length with hi|hi
  ·rw[List.getElem?_append_left hi] at hw;exact .inl ⟨hi,hw⟩
  ·rw[List.getElem?_append_right hi] at hw
   have:i-vs.length=0:=by
    have:=(List.getElem?_eq_some_iff.1 hw).1;simp at this;omega
   rw[this] at hw
   exact .inr ⟨by omega,by simpa using hw.symm⟩
 refine⟨λi j x y hij hx hy hxy=> ?_,λi x hx=> ?_⟩
 ·rcases azM i x hx with⟨hi,hx'⟩| ⟨hi,rfl⟩
  ·rcases azM j y hy with⟨hj,hy'⟩| ⟨hj,rfl⟩
   ·exact h.1 i j x y hij hx' hy' hxy
   ·have hm:=List.mem_of_getElem? hx'
    refine⟨(hap x hm hxy).symm,?_⟩
    cases hvo:y.own with
    |false=>exact .inr rfl
    |true=>exact .inl (nW hvo x hm hxy)
  ·rcases azM j y hy with⟨hj,hy'⟩| ⟨hj,rfl⟩
   ·have hm:=List.mem_of_getElem? hy'
    refine⟨hap y hm hxy.symm,?_⟩
    cases hvo:x.own with
    |false=>exact .inl rfl
    |true=>exact .inr (nW hvo y hm hxy.symm)
   ·omega
 ·rcases azM i x hx with⟨hi,hx'⟩| ⟨hi,rfl⟩
  ·exact h.2 i x hx'
  ·exact hb
omit [ax] in
theorem Xs {b:Nat}{e:Option (Nat×Nat)}:∀{vs:List Vw} {i0 i d:Nat} {ow:Bool},YY b e vs i0=some (i,d,ow)->∃k v o n o' n',i=i0+k∧vs[k]? =some v∧v.b=b∧e=some (o,n)∧ext v.o v.bY v.z=some (o',n')∧o'<=o∧o+n<=o'+n'∧d=o-o'∧ow=v.own
 | [],_,_,_,_,h=>by simp[YY] at h
 |v::vs,i0,i,d,ow,h=>by
  have next:YY b e vs (i0+1)=some (i,d,ow)->∃k u o n o' n',i=i0+k∧(v::vs)[k]? =some u∧u.b=b∧e=some (o,n)∧ext u.o u.bY u.z=some (o',n')∧o'<=o∧o+n<=o'+n'∧d=o-o'∧ow=u.own:=λh=>by
   obtain⟨k,v',o,n,o',n',h1,h2,h3⟩:=Xs h
   exact⟨k+1,v',o,n,o',n',by omega,by simpa using h2,h3⟩
  simp only[YY] at h
  split at h
  ·exact next h
  ·rename_i hb
   rw[beq_iff] at hb
   split at h
   ·rename_i o n o' n' h1
    split at h
    ·rename_i hc
     cases h
     simp only[Bool.and_eq_true,eA] at hc
     exact⟨0,v,o,n,o',n',rfl,rfl,hb,rfl,h1,hc.1,hc.2,rfl,rfl⟩
    ·exact next h
   ·exact next h
omit [ax] in
theorem vz {π:Pi}{vs:List Vw}{j:Nat}{v:Vw}(h:vs[j]? =some v){B s q e:Nat}(hb:π v.b=some (B,s,q,e)):piL π vs j=some (B,s+v.o.val,v.n,if v.own then e else s+v.o.val+v.n):=by
 unfold piL;rw[h];simp only[hb]
omit [ax] in
theorem auA (vs:List Vw)(v:Vw):(vs++[v])[vs.length]? =some v:=by simp
abbrev Loc {α:Type}(R:Pi->α->Value->Prop)(π:Pi)(vs:List Vw)(a':α)(iU:List Vw)(x:Value):Prop:=LX vs iU∧(Iu π vs->Iu π iU∧R (piL π iU) a' x)
theorem aAQ {g:Gt}{π:Pi}{c c':CV}{x:Value}{vs iU:List Vw}{l:List Fp}(h:aH (aMX c vs) g (c',iU) l)(hx:c.rel π x):Loc CV.rel π vs c' iU x:=by
 cases c<;>simp only[aMX] at h
 case ptr b o n=>
  obtain⟨B,s,q,e,hp,hx,hm⟩:=hx
  split at h
  ·rename_i i d ow hf
   cases h
   obtain⟨k,v,o1,n1,o2,n2,hk,hv,hb,h1,h2,h3,h4,h5,h6⟩:=Xs hf
   obtain⟨e1,e2⟩:=ext_eq h1
   obtain⟨e3,e4⟩:=ext_eq h2
   refine⟨LX.refl _,λok=>⟨ok,?_⟩⟩
   rw[<-hb] at hp
   rw[show i=k by omega]
   simp only[Sz.val,Nat.one_mul] at e2
   refine⟨_,_,_,_,vz hv hp,?_,?_⟩
   ·rw[hx,e1,e3];simp only[bX.val];congr 3;omega
   ·show d+n<=v.n
    unfold Vw.n;omega
  ·obtain⟨_,⟨_,h1⟩,_,h⟩:=aH.bind' h
   cases h
   refine⟨⟨_,rfl⟩,λok=>⟨ok.snoc ⟨b,o,.l 1,n,false,false⟩ h1.ck ⟨B,s,q,e,hp,by simp only[Vw.n,Sz.val,Nat.one_mul];exact hm,λh=>by cases h⟩ (λh=>by cases h),?_⟩⟩
   exact⟨_,_,_,_,vz (auA vs ⟨b,o,.l 1,n,false,false⟩) hp,by rw[hx];rfl,by simp[bX.val,Vw.n,Sz.val]⟩
 case cl f b o n=>
  obtain⟨B,s,q,e,hp,hx,hm⟩:=hx
  split at h
  ·rename_i i d ow hf
   cases h
   obtain⟨k,v,o1,n1,o2,n2,hk,hv,hb,h1,h2,h3,h4,h5,h6⟩:=Xs hf
   obtain⟨e1,e2⟩:=ext_eq h1
   obtain⟨e3,e4⟩:=ext_eq h2
   refine⟨LX.refl _,λok=>⟨ok,?_⟩⟩
   rw[<-hb] at hp
   rw[show i=k by omega]
   simp only[Sz.val,Nat.one_mul] at e2
   refine⟨_,_,_,_,vz hv hp,?_,?_⟩
   ·rw[hx];exact congrArg (λt=>Value.func (.func f) #[] #[.pointer (some ⟨B,t,none⟩)]) (by rw[e1,e3];simp only[bX.val];omega)
   ·show d+n<=v.n
    unfold Vw.n;omega
  ·obtain⟨_,⟨_,h1⟩,_,h⟩:=aH.bind' h
   cases h
   refine⟨⟨_,rfl⟩,λok=>⟨ok.snoc ⟨b,o,.l 1,n,false,false⟩ h1.ck ⟨B,s,q,e,hp,by simp only[Vw.n,Sz.val,Nat.one_mul];exact hm,λh=>by cases h⟩ (λh=>by cases h),?_⟩⟩
   exact⟨_,_,_,_,vz (auA vs ⟨b,o,.l 1,n,false,false⟩) hp,by rw[hx];rfl,by simp[bX.val,Vw.n,Sz.val]⟩
 case sl b o len z own=>
  obtain⟨B,s,q,e,hp,hm,nW,hx⟩:=hx
  split at h
  ·rename_i i d ow hf
   cases h
   obtain⟨k,v,o1,n1,o2,n2,hk,hv,hb,h1,h2,h3,h4,h5,h6⟩:=Xs hf
   obtain⟨e1,e2⟩:=ext_eq h1
   obtain⟨e3,e4⟩:=ext_eq h2
   refine⟨LX.refl _,λok=>⟨ok,?_⟩⟩
   rw[<-hb] at hp
   rw[show i=k by omega]
   obtain⟨_,_,_,_,rH,hv1,hv2⟩:=ok.2 k v hv
   rw[hp] at rH
   cases rH
   have hvn:v.n=n2:=e4
   refine⟨_,_,_,_,vz hv hp,?_,λho=> ?_,?_⟩
   ·show d+len.val*z<=v.n
    omega
   ·simp only[Bool.and_eq_true] at ho
    rw[h6] at ho
    have a1:=nW ho.1
    have a2:=hv2 ho.2
    show d+len.val*z=v.n
    omega
   ·refine hx.imp id λ⟨cap,pd,hx,hc⟩=>⟨cap,pd,?_,λho=> ?_⟩
    ·show x=Value.slice (some ⟨B,s+v.o.val+d,none⟩) len.val cap
     rw[hx,show s+o.val=s+v.o.val+d by omega]
    ·simp only[Bool.and_eq_true] at ho
     have a1:=hc ho.1
     rw[h6] at ho
     rw[if_pos ho.2]
     show s+v.o.val+d+cap*z<=e
     omega
  ·obtain⟨_,⟨_,h1⟩,_,h⟩:=aH.bind' h
   cases h
   generalize hu:(own&&vs.all λv=> !Nat.beq v.b b|| !v.own)=u
   have hu1:u=true->own=true∧∀v'∈vs,v'.b=b->v'.own=false:=λh=>by
    rw[<-hu] at h
    simp only[Bool.and_eq_true] at h
    refine⟨h.1,λv' hv' ew=> ?_⟩
    have:=List.all_eq_true.1 h.2 v' hv'
    rw[ew,Nat.beq_refl] at this
    simpa using this
   refine⟨⟨_,rfl⟩,λok=>⟨ok.snoc ⟨b,o,len,z,true,u⟩ h1.ck ⟨B,s,q,e,hp,hm,λho=>nW (hu1 ho).1⟩ (λho=>(hu1 ho).2),?_⟩⟩
   refine⟨_,_,_,_,vz (auA vs ⟨b,o,len,z,true,u⟩) hp,by simp[bX.val,Vw.n,Sz.val],λ_=>by simp[bX.val,Vw.n,Sz.val],?_⟩
   refine hx.imp id λ⟨cap,pd,hx,hc⟩=>⟨cap,pd,by rw[hx];rfl,λho=> ?_⟩
   rw[if_pos ho]
   have:=hc (hu1 ho).1
   show s+o.val+0+cap*z<=e
   omega
 all_goals (cases h;exact⟨LX.refl _,λok=>⟨ok,hx⟩⟩)
omit [ax] in
theorem apF {α:Type}{R:Pi->α->Value->Prop}(mono:∀{π π':Pi},Ext π π'->∀a x,R π a x->R π' a x){f:α->List Vw->Rd (α×List Vw)}{ff:List α->List Vw->Rd (List α×List Vw)}(hff:∀vs,ff [] vs=.ret ([],vs))(aUp:∀a l vs,ff (a::l) vs=(f a vs).bind λx=>(ff l x.2).bind λy=>.ret (x.1::y.1,y.2))
  {g:Gt}{π:Pi}(hf:∀{a a' vs iU l x},aH (f a vs) g (a',iU) l->R π a x->Loc R π vs a' iU x):∀{as as':List α} {vs iU:List Vw} {l:List Fp} {xs:List Value},aH (ff as vs) g (as',iU) l->bh (R π) as xs->LX vs iU∧(Iu π vs->Iu π iU∧bh (R (piL π iU)) as' xs)
 | [],as',vs,iU,l,xs,h,hx=>by
  rw[hff] at h;cases h
  exact⟨LX.refl _,λok=>⟨ok,by cases xs with|nil=>trivial|cons=>exact hx.elim⟩⟩
 |a::as,as',vs,iU,l,[],h,hx=>hx.elim
 |a::as,as',vs,iU,l,x::xs,h,⟨hx,hxs⟩=>by
  rw[aUp] at h
  obtain⟨p,⟨_,h1⟩,_,h⟩:=aH.bind' h
  obtain⟨y,⟨_,h2⟩,_,h⟩:=aH.bind' h
  cases h
  obtain⟨L1,L2⟩:=hf (a':=p.1) (iU:=p.2) h1 hx
  obtain⟨p1,p2⟩:=apF mono hff aUp hf (as:=as) (as':=y.1) (iU:=y.2) h2 hxs
  refine⟨L1.trans p1,λok=> ?_⟩
  obtain⟨ok1,r1⟩:=L2 ok
  obtain⟨ok2,r2⟩:=p2 ok1
  exact⟨ok2,mono p1.ext _ _ r1,r2⟩
theorem adv {g:Gt}{π:Pi}:∀{b b':af} {vs iU:List Vw} {l:List Fp} {f:Nat->Value},aH (aHX b vs) g (b',iU) l->(∀j,j<af.size b->(af.get b j).rel π (f j))->
  LX vs iU∧(Iu π vs->Iu π iU)∧af.size b'=af.size b∧(Iu π vs->∀j,j<af.size b->(af.get b' j).rel (piL π iU) (f j))
 | [],b',vs,iU,l,f,h,_=>by
  cases h
  exact⟨LX.refl _,id,rfl,λ_ j hj=>by rw[af.jS] at hj;omega⟩
 |.c v::r,b',vs,iU,l,f,h,hx=>by
  obtain⟨p,⟨_,h1⟩,_,h⟩:=aH.bind' h
  obtain⟨y,⟨_,h2⟩,_,h⟩:=aH.bind' h
  cases h
  obtain⟨L1,L2⟩:=aAQ (c':=p.1) (iU:=p.2) h1 (hx 0 (by rw[af.size_cons,Sg.jd];omega))
  obtain⟨p1,p2,p3,p4⟩:=adv (b:=r) (b':=y.1) (iU:=y.2) (f:=λj=>f (j+1)) h2 (λj hj=>by
   have:=hx (j+1) (by rw[af.size_cons,Sg.jd];omega)
   rwa [<-af.jf (l:=r) (j':=j) (by omega) (by omega)] at this)
  refine⟨L1.trans p1,λok=>p2 (L2 ok).1,by rw[af.size_cons,af.size_cons,p3];rfl,λok j hj=> ?_⟩
  obtain⟨ok1,r1⟩:=L2 ok
  cases j with
  |zero=>exact CV.cZ p1.ext _ _ r1
  |succ j=>
   rw[<-af.jf (l:=y.1) (j':=j) (by omega) (by omega)]
   exact p4 ok1 j (by rw[af.size_cons,Sg.jd] at hj;omega)
 |.a n cols::r,b',vs,iU,l,f,h,hx=>by
  obtain⟨y,⟨_,h2⟩,_,h⟩:=aH.bind' h
  cases h
  obtain⟨p1,p2,p3,p4⟩:=adv (b:=r) (b':=y.1) (iU:=y.2) (f:=λj=>f (j+(Sg.a n cols).size)) h2 (λj hj=>by
   have:=hx (j+(Sg.a n cols).size) (by rw[af.size_cons];omega)
   rwa [af.jw (by omega),Nat.add_sub_cancel] at this)
  refine⟨p1,p2,by rw[af.size_cons,af.size_cons,p3],λok j hj=> ?_⟩
  rw[af.size_cons] at hj
  by_cases jX:j<(Sg.a n cols).size
  ·have:=hx j (by rw[af.size_cons];omega)
   rw[af.c9 jX,Sg.mZ] at this
   rw[af.c9 jX,Sg.mZ]
   obtain⟨v,hv⟩:=azL cols j
   rw[hv] at this ⊢
   exact this
  ·rw[af.jw (by omega)]
   have:=p4 ok (j-(Sg.a n cols).size) (by omega)
   rwa [Nat.sub_add_cancel (by omega)] at this
theorem aAR {g:Gt}{π:Pi}{r r':RV}{x:Value}{vs iU:List Vw}{l:List Fp}(h:aH (aMY r vs) g (r',iU) l)(hx:r.rel π x):Loc RV.rel π vs r' iU x:=by
 cases r with
 |c c=>
  obtain⟨p,⟨_,h1⟩,_,h⟩:=aH.bind' h
  cases h
  exact aAQ (c':=p.1) (iU:=p.2) h1 hx
 |agg cs=>
  obtain⟨p,⟨_,h1⟩,_,h⟩:=aH.bind' h
  cases h
  obtain⟨arr,rfl,hr⟩:=hx
  obtain⟨l1,l2⟩:=ia hr
  obtain⟨p1,p2,p3,p4⟩:=adv (b':=p.1) (iU:=p.2) (f:=λj=>arr.toList.getD j undef) h1 (λj hj=>by
   obtain⟨x,hx,hr⟩:=l2 j hj
   simp only[List.getD,hx,Option.getD_some];exact hr)
  refine⟨p1,λok=>⟨p2 ok,arr,rfl,vd (by rw[l1,p3]) λj hj=> ?_⟩⟩
  obtain⟨x,hx,_⟩:=l2 j (by omega)
  have:=p4 ok j (by omega)
  simp only[List.getD,hx,Option.getD_some] at this
  exact⟨x,hx,this⟩
theorem awn {g:Gt}{π:Pi}{cs PY:List RV}{xs:List Value}{vs iU:List Vw}{l:List Fp}(h:aH (aAk cs vs) g (PY,iU) l)(hx:bh (RV.rel π) cs xs):LX vs iU∧(Iu π vs->Iu π iU∧bh (RV.rel (piL π iU)) PY xs):=
 apF (R:=RV.rel) (λh a x r=>RV.cZ h a x r) (f:=aMY) (ff:=aAk) (λ_=>rfl) (λ_ _ _=>rfl) (λh hx=>aAR h hx) h hx
theorem aLI {g:Gt}{π:Pi}{r r':AV}{x:Value}{vs iU:List Vw}{l:List Fp}(h:aH (aRt r vs) g (r',iU) l)(hx:r.rel π x):Loc AV.rel π vs r' iU x:=by
 cases r with
 |r c=>
  obtain⟨p,⟨_,h1⟩,_,h⟩:=aH.bind' h
  cases h
  exact aAR (r':=p.1) (iU:=p.2) h1 hx
 |tup cs=>
  obtain⟨p,⟨_,h1⟩,_,h⟩:=aH.bind' h
  cases h
  obtain⟨arr,rfl,hr⟩:=hx
  obtain⟨p1,p2⟩:=awn (PY:=p.1) (iU:=p.2) h1 hr
  exact⟨p1,λok=>⟨(p2 ok).1,arr,rfl,(p2 ok).2⟩⟩
 |fn f cs=>
  obtain⟨p,⟨_,h1⟩,_,h⟩:=aH.bind' h
  cases h
  obtain⟨arr,rfl,hr⟩:=hx
  obtain⟨p1,p2⟩:=awn (PY:=p.1) (iU:=p.2) h1 hr
  exact⟨p1,λok=>⟨(p2 ok).1,arr,rfl,(p2 ok).2⟩⟩
 |Tk=>cases h;exact⟨LX.refl _,λok=>⟨ok,trivial⟩⟩
theorem aIs {g:Gt}{π:Pi}{cs PY:List AV}{xs:List Value}{vs iU:List Vw}{l:List Fp}(h:aH (aFX cs vs) g (PY,iU) l)(hx:bh (AV.rel π) cs xs):LX vs iU∧(Iu π vs->Iu π iU∧bh (AV.rel (piL π iU)) PY xs):=
 apF (R:=AV.rel) (λh a x r=>AV.cZ h a x r) (f:=aRt) (ff:=aFX) (λ_=>rfl) (λ_ _ _=>rfl) (λh hx=>aLI h hx) h hx
structure aAS (π:Pi)(g:Gt)(w:World)(vs:List Vw)(v:Vw)(k:af):Prop where
 live:∃q,g.z v.b=some q
 size:af.size k=v.n
 rel:∀B s q e,π v.b=some (B,s,q,e)->∀j,j<v.n->∃x,cl w B (s+v.o.val+j)=some x∧(af.get k j).rel (piL π vs) x
theorem aAS.pre {π:Pi}{g:Gt}{w:World}{vs iU:List Vw}{v:Vw}{k:af}(h:aAS π g w vs v k)(p:LX vs iU):aAS π g w iU v k:=
 ⟨h.live,h.size,λB s q e hb j hj=>let⟨x,hx,hr⟩:=h.rel B s q e hb j hj;⟨x,hx,CV.cZ p.ext _ _ hr⟩⟩
omit [ax] in
theorem aAT {α:Type}{l:List α}{x y:α}{j:Nat}(h:(l++[x])[j]? =some y):l[j]? =some y∨(j=l.length∧y=x):=by
 rcases Nat.lt_or_ge j l.length with hj|hj
 ·rw[List.getElem?_append_left hj] at h;exact .inl h
 ·rw[List.getElem?_append_right hj] at h
  have:j-l.length=0:=by
   have:=(List.getElem?_eq_some_iff.1 h).1;simp at this;omega
  rw[this] at h
  exact .inr ⟨by omega,by simpa using h.symm⟩
theorem aAU {π:Pi}{g:Gt}{w:World}(H:pM π g.c g.z w):∀{fuel i:Nat} {vs iU:List Vw} {acc lh:List af} {l:List Fp},aH (aMZ fuel i vs acc) g (lh,iU) l->acc.length=i->i<=vs.length->Iu π vs->(∀(j:Nat) v k,vs[j]? =some v->acc[j]? =some k->aAS π g w vs v k)->
  LX vs iU∧Iu π iU∧lh.length=iU.length∧∀(j:Nat) v k,iU[j]? =some v->lh[j]? =some k->aAS π g w iU v k
 |0,_,_,_,_,_,_,h,_,_,_,_=>by cases h
 |fuel+1,i,vs,iU,acc,lh,l,h,hi,hi2,ok,aIt=>by
  simp only[aMZ] at h
  split at h
  ·rename_i hn
   cases h
   have:vs.length<=i:=List.getElem?_eq_none_iff.1 hn
   exact⟨LX.refl _,ok,by omega,aIt⟩
  ·rename_i v hv
   have lY:i<vs.length:=(List.getElem?_eq_some_iff.1 hv).1
   cases h with|vw q k hz hs hk h=>
   obtain⟨x,⟨_,h1⟩,_,h⟩:=aH.bind' h
   obtain⟨B,s,e,hb,hle,_,hc⟩:=H.hp _ _ hz
   obtain⟨_,_,_,_,ew,hvb,_⟩:=ok.2 i v hv
   rw[hb] at ew;cases ew
   have hvn:v.bY.val*v.z=v.n:=rfl
   rw[hvn] at hs hk
   have hk:=hk hvb
   generalize hkk:aLt v.sl v.z k=k2 at h1
   have hk2:af.size k2=af.size k∧∀j,j<af.size k->af.get k2 j=af.get k j:=by
    rw[<-hkk]
    unfold aLt
    cases v.sl
    ·exact⟨rfl,λ_ _=>rfl⟩
    ·obtain⟨t1,t2⟩:=Xn v.z k
     obtain⟨t3,t4⟩:=aus (apt v.z k)
     exact⟨t3.trans t1,λj hj=>(t4 j).trans (t2 j hj)⟩
   have cell:∀j,j<v.n->∃y,cl w B (s+v.o.val+j)=some y∧(af.get k2 j).rel π y:=λj hj=>by
    obtain⟨y,hy,hr⟩:=hc (v.o.val+j) (by omega)
    rw[<-hk j hj,<-hk2.2 j (by omega)] at hr
    exact⟨y,by rw[show s+v.o.val+j=s+(v.o.val+j) by omega];exact hy,hr⟩
   obtain⟨p1,p2,p3,p4⟩:=adv (b':=x.1) (iU:=x.2) (f:=λj=>(cl w B (s+v.o.val+j)).getD undef) h1 (λj hj=>by
    obtain⟨y,hy,hr⟩:=cell j (by omega)
    rw[hy];exact hr)
   have hx2:=p1.length
   obtain⟨q1,q2,q3,q4⟩:=aAU H h (by simp[hi]) (by omega) (p2 ok) (λj u k' hu I8=>by
    rcases aAT I8 with I8| ⟨hj,rfl⟩
    ·have hj:j<acc.length:=(List.getElem?_eq_some_iff.1 I8).1
     have hu':vs[j]? =some u:=by
      have:vs[j]? =some (vs[j]'(by omega)):=List.getElem?_eq_getElem _
      rw[this]
      have:=p1.get this
      rw[hu] at this;exact this.symm
     exact(aIt j u k' hu' I8).pre p1
    ·have huv:u=v:=by
      rw[hj,hi] at hu
      have:=p1.get hv
      rw[hu] at this;exact Option.some.inj this
     subst huv
     refine⟨⟨q,hz⟩,by rw[p3,hk2.1,hs],λB' s' q' e' ew j hj'=> ?_⟩
     rw[hb] at ew;cases ew
     obtain⟨y,hy,_⟩:=cell j hj'
     have:=p4 ok j (by omega)
     rw[hy] at this
     exact⟨y,hy,this⟩)
   exact⟨p1.trans q1,q2,q3,q4⟩
end Go.Ab
namespace Go.Ab
variable [ax]
omit [ax] in
theorem NA (lh:List af)(j:Nat):hZ (lh.map some) j=(lh[j]?).map af.size:=by
 simp only[hZ,List.getElem?_map]
 cases lh[j]? <;>rfl
omit [ax] in
theorem azN {lh:List af}{j i:Nat}{k:af}(h:lh[j]? =some k)(hi:i<k.size):hC (lh.map some) j i=k.get i:=by
 simp[hC,List.getElem?_map,h,hi]
theorem pM.local {π:Pi}{g:Gt}{w:World}(H:pM π g.c g.z w){vs:List Vw}{lh:List af}(ok:Iu π vs)(hl:lh.length=vs.length)(hv:∀(j:Nat) v k,vs[j]? =some v->lh[j]? =some k->aAS π g w vs v k):
  pM (piL π vs) (hC (lh.map some)) (hZ (lh.map some)) w:=by
 have get:∀j n,hZ (lh.map some) j=some n->∃v k q B s e,vs[j]? =some v∧lh[j]? =some k∧af.size k=n∧aAS π g w vs v k∧g.z v.b=some q∧v.o.val+v.n<=q∧af.size k=v.n∧π v.b=some (B,s,q,e)∧s+q<=e∧(v.own=true->v.o.val+v.n=q):=λj n hz=>by
  rw[NA] at hz
  cases hk:lh[j]? with
  |none=>rw[hk] at hz;cases hz
  |some k=>
   rw[hk] at hz
   have hj:j<vs.length:=by rw[<-hl];exact(List.getElem?_eq_some_iff.1 hk).1
   have hvj:vs[j]? =some (vs[j]'hj):=List.getElem?_eq_getElem _
   have V:=hv j _ k hvj hk
   obtain⟨q,hq⟩:=V.live
   obtain⟨B,s,e,hb,yI,_⟩:=H.hp _ _ hq
   obtain⟨_,_,_,_,ew,hle,how⟩:=ok.2 j _ hvj
   rw[hb] at ew;cases ew
   exact⟨_,k,q,B,s,e,hvj,rfl,by simpa using hz,V,hq,hle,V.size,hb,yI,how⟩
 refine⟨H.am,λj B s q e hz hp yI=> ?_,λj n hz=> ?_,λj j' B s q e s' q' e' kV hz ru hp rH i i1 i2 i3 i4=> ?_⟩
 ·cases hh:hZ (lh.map some) j with
  |none=>exact absurd hh hz
  |some n=>
   obtain⟨v,k,q0,B1,s1,e1,hvj,hk,hn,V,hq,hle,vx,hb,aYo,ho⟩:=get j n hh
   rw[vz hvj hb] at hp
   simp only[Option.some.injEq,Prod.mk.injEq] at hp
   obtain⟨rfl,hs1,_,he1⟩:=hp
   rw[<-hs1,<-he1] at yI
   refine H.lb v.b _ s1 q0 e1 (by simp[hq]) hb ?_
   split at yI<;>omega
 ·obtain⟨v,k,q,B,s,e,hvj,hk,hn,V,hq,hle,vx,hb,yI,ho⟩:=get j n hz
  obtain⟨_,_,_,ew,_,k1,k2⟩:=H.hp _ _ hq
  rw[hb] at ew;cases ew
  have hp:=vz hvj hb
  rw[<-vx,hn] at hp
  refine⟨B,s+v.o.val,_,hp,?_,λi i1 i2=> ?_,λi hi=> ?_⟩
  ·split
   ·rename_i h;have:=ho h;omega
   ·omega
  ·refine k1 i (by omega) ?_
   split at i2<;>omega
  ·obtain⟨y,hy,hr⟩:=V.rel B s q e hb i (by omega)
   refine⟨y,hy,?_⟩
   rw[azN hk (by omega)]
   exact hr
 ·cases hh:hZ (lh.map some) j with
  |none=>exact hz hh
  |some n=>
  cases hh':hZ (lh.map some) j' with
  |none=>exact ru hh'
  |some n'=>
  obtain⟨v,k,q0,B1,s1,e1,hvj,hk,hn,V,hq,hle,vx,hb,yI,ho⟩:=get j n hh
  obtain⟨v',k',q0',B2,s2,e2,aUq,I8,hn',V',hq',aYp,aYq,ew,aYr,ho'⟩:=get j' n' hh'
  rw[vz hvj hb] at hp
  rw[vz aUq ew] at rH
  simp only[Option.some.injEq,Prod.mk.injEq] at hp rH
  obtain⟨rfl,hs1,_,he1⟩:=hp
  obtain⟨rfl,Ts,_,he2⟩:=rH
  rw[<-hs1] at i1
  rw[<-he1] at i2
  rw[<-Ts] at i3
  rw[<-he2] at i4
  by_cases hbb:v.b=v'.b
  ·obtain⟨aRO,nW⟩:=ok.1 j j' v v' kV hvj aUq hbb
   rw[hbb] at hb hq
   rw[hb] at ew;cases ew
   cases h1:v.own<;>cases h2:v'.own<;>simp only[h1,h2,if_true,if_false,Bool.false_eq_true] at i2 i4
   ·omega
   ·have:=ho' h2;omega
   ·have:=ho h1;omega
   ·rcases nW with h|h
    ·rw[h1] at h;cases h
    ·rw[h2] at h;cases h
  ·refine H.dj v.b v'.b _ s1 q0 e1 s2 q0' e2 hbb (by simp[hq]) (by simp[hq']) hb ew i (by omega) ?_ (by omega) ?_
   ·split at i2<;>omega
   ·split at i4<;>omega
def piB (π πL:Pi)(n aJ m:Nat):Pi:=λb=>if aJ<=b∧b<aJ+m then πL (n+(b-aJ)) else π b
omit [ax] in
theorem Tw {π πL:Pi}{n aJ m k:Nat}(h:k<m):piB π πL n aJ m (aJ+k)=πL (n+k):=by
 unfold piB;rw[if_pos (by omega),show aJ+k-aJ=k by omega]
omit [ax] in
theorem Tx {π πL:Pi}{n aJ m b:Nat}(h:¬(aJ<=b∧b<aJ+m)):piB π πL n aJ m b=π b:=by
 unfold piB;rw[if_neg h]
structure Bck (π πL:Pi)(vs:List Vw)(aJ m:Nat):Prop where
 ext:Ext (piL π vs) πL
 dom:∀b,πL b≠none->b<vs.length+m
 fresh:∀b,aJ<=b->b<aJ+m->π b=none
 live:∀(j:Nat) v,vs[j]? =some v->∃B s q e,π v.b=some (B,s,q,e)∧v.o.val+v.n<=q∧(v.own=true->v.o.val+v.n=q)
omit [ax] in
theorem Bck.uG {π πL:Pi}{vs:List Vw}{aJ m:Nat}(K:Bck π πL vs aJ m){b:Nat}{p:Nat×Nat×Nat×Nat}(h:π b=some p):piB π πL vs.length aJ m b=some p:=by
 rw[Tx,h]
 intro hc
 rw[K.fresh b hc.1 hc.2] at h;cases h
omit [ax] in
theorem Bck.ext' {π πL:Pi}{vs:List Vw}{aJ m:Nat}(K:Bck π πL vs aJ m):Ext π (piB π πL vs.length aJ m):=λ_ _ h=>K.uG h
omit [ax] in
theorem Bck.at {π πL:Pi}{vs:List Vw}{aJ m:Nat}(K:Bck π πL vs aJ m){j:Nat}{B s q e:Nat}(h:πL j=some (B,s,q,e)):
  (∃v s0 q0 e0,vs[j]? =some v∧π v.b=some (B,s0,q0,e0)∧s=s0+v.o.val∧q=v.n∧(e=if v.own then e0 else s0+v.o.val+v.n)∧v.o.val+v.n<=q0∧(v.own=true->v.o.val+v.n=q0))∨(vs[j]? =none∧vs.length<=j∧j-vs.length<m∧piB π πL vs.length aJ m (aJ+(j-vs.length))=some (B,s,q,e)):=by
 have hd:=K.dom j (by simp[h])
 cases hv:vs[j]? with
 |some v=>
  obtain⟨B0,s0,q0,e0,hp,hle,how⟩:=K.live j v hv
  have:=K.ext _ _ (vz hv hp)
  rw[h] at this
  simp only[Option.some.injEq,Prod.mk.injEq] at this
  obtain⟨rfl,h1,h2,h3⟩:=this
  exact .inl ⟨v,s0,q0,e0,rfl,hp,h1,h2,h3,hle,how⟩
 |none=>
  have hj:vs.length<=j:=List.getElem?_eq_none_iff.1 hv
  refine .inr ⟨rfl,hj,by omega,?_⟩
  rw[Tw (by omega),show vs.length+(j-vs.length)=j by omega,h]
omit [ax] in
theorem bX.Iv (a b:bX):(a.plus b).val=a.val+b.val:=by
 cases a<;>cases b<;>simp only[bX.plus,bX.val]<;>first|omega|skip
 rename_i c i z d j y
 cases hz:Nat.beq z y with
 |true=>
  have:=Nat.eq_of_beq_eq_true hz
  subst this
  simp only[bX.val,Nat.add_mul];omega
 |false=>simp only[bX.val];omega
theorem Bck.aNb {π πL:Pi}{vs:List Vw}{aJ m:Nat}(K:Bck π πL vs aJ m)(c:CV)(x:Value)(h:c.rel πL x):(Jd vs aJ c).rel (piB π πL vs.length aJ m) x:=by
 cases c<;>simp only[Jd]
 case ptr j d n=>
  obtain⟨B,s,q,e,hp,hx,hm⟩:=h
  rcases K.at hp with⟨v,s0,q0,e0,hv,hb,hs,hq,he,hle,how⟩| ⟨hv,hj,hm2,hb⟩
  ·rw[hv]
   refine⟨B,s0,q0,e0,K.uG hb,?_,by rw[bX.Iv];omega⟩
   rw[hx,bX.Iv];congr 3;omega
  ·rw[hv]
   exact⟨B,s,q,e,hb,hx,hm⟩
 case cl f j d n=>
  obtain⟨B,s,q,e,hp,hx,hm⟩:=h
  rcases K.at hp with⟨v,s0,q0,e0,hv,hb,hs,hq,he,hle,how⟩| ⟨hv,hj,hm2,hb⟩
  ·rw[hv]
   refine⟨B,s0,q0,e0,K.uG hb,?_,by rw[bX.Iv];omega⟩
   rw[hx,bX.Iv];exact congrArg (λt=>Value.func (.func f) #[] #[.pointer (some ⟨B,t,none⟩)]) (by omega)
  ·rw[hv]
   exact⟨B,s,q,e,hb,hx,hm⟩
 case sl j d len z own=>
  obtain⟨B,s,q,e,hp,hm,nW,hx⟩:=h
  rcases K.at hp with⟨v,s0,q0,e0,hv,hb,hs,hq,he,hle,how⟩| ⟨hv,hj,hm2,hb⟩
  ·rw[hv]
   refine⟨B,s0,q0,e0,K.uG hb,by rw[bX.Iv];omega,λho=> ?_,hx.imp id λ⟨cap,pd,hx,hc⟩=>⟨cap,pd,?_,λho=> ?_⟩⟩
   ·simp only[Bool.and_eq_true] at ho
    have a1:=nW ho.1
    have a2:=how ho.2
    rw[bX.Iv];omega
   ·rw[hx,bX.Iv];congr 3;omega
   ·simp only[Bool.and_eq_true] at ho
    have:=hc ho.1
    rw[if_pos ho.2] at he
    rw[bX.Iv];omega
  ·rw[hv]
   exact⟨B,s,q,e,hb,hm,nW,hx⟩
 all_goals exact h
omit [ax] in
theorem aF8 (vs:List Vw)(aJ:Nat)(x:FV):Jd vs aJ (.f x)=.f x:=rfl
omit [ax] in
theorem Xt {α β γ:Type}{R:α->γ->Prop}{R':β->γ->Prop}{f:α->β}(hf:∀a c,R a c->R' (f a) c):∀{l:List α} {m:List γ},bh R l m->bh R' (l.map f) m
 | [],[],_=>trivial
 |_::_,_::_,⟨a,b⟩=>⟨hf _ _ a,Xt hf b⟩
 | [],_::_,h=>h.elim
 |_::_,[],h=>h.elim
theorem Bck.aRP {π πL:Pi}{vs:List Vw}{aJ m:Nat}(K:Bck π πL vs aJ m)(c:RV)(x:Value)(h:c.rel πL x):(aM0 vs aJ c).rel (piB π πL vs.length aJ m) x:=by
 cases c with
 |c c=>exact K.aNb c x h
 |agg cs=>
  obtain⟨a,hx,ha⟩:=h
  obtain⟨l1,l2⟩:=ia ha
  refine⟨a,hx,vd (by rw[Hw,l1]) λj hj=> ?_⟩
  rw[Hw] at hj
  obtain⟨x,hx,hr⟩:=l2 j hj
  exact⟨x,hx,by rw[aut (aF8 vs aJ) _ _ hj];exact K.aNb _ _ hr⟩
theorem Bck.aWx {π πL:Pi}{vs:List Vw}{aJ m:Nat}(K:Bck π πL vs aJ m)(c:AV)(x:Value)(h:c.rel πL x):(aHY vs aJ c).rel (piB π πL vs.length aJ m) x:=by
 cases c with
 |r r=>exact K.aRP r x h
 |tup cs=>obtain⟨a,hx,ha⟩:=h;exact⟨a,hx,Xt K.aRP ha⟩
 |fn f cs=>obtain⟨a,hx,ha⟩:=h;exact⟨a,hx,Xt K.aRP ha⟩
 |Tk=>trivial
omit [ax] in
theorem Xu {all:List Vw}{aJ:Nat}:∀{vs:List Vw} {cs:List Ch} {us:List Up},xI all aJ vs cs=some (true,us)->
  (∀(i j:Nat) (v v':Vw),i≠j->vs[i]? =some v->vs[j]? =some v'->v.b=v'.b->(v.o.val+v.n<=v'.o.val∨v'.o.val+v'.n<=v.o.val))->
  vs.length=cs.length∧(∀(j:Nat) v b,vs[j]? =some v->cs[j]? =some (.set b)->af.size b=v.n)∧(∀u∈us,∃(j:Nat) (v:Vw) (b:af),vs[j]? =some v∧cs[j]? =some (.set b)∧u=.c v.b v.o (Is (Jd all aJ) b))∧
  (∀g,(cj us g).z=g.z∧(cj us g).t=g.t)∧
  ∀g (j:Nat) v b i,vs[j]? =some v->cs[j]? =some (.set b)->v.o.val<=i->i<v.o.val+v.n->(cj us g).c v.b i=Jd all aJ (af.get b (i-v.o.val))
 | [],[],us,h,_=>by
  simp[xI] at h;subst h
  exact⟨rfl,λj v b h=>by simp at h,λu h=>by simp at h,λg=>⟨rfl,rfl⟩,λg j v b i h=>by simp at h⟩
 |v0::vs,.kU::cs,us,h,hd=>by
  simp only[xI] at h
  obtain⟨h1,h2,h3,h4,h5⟩:=Xu h (λi j v v' hij hi hj=>hd (i+1) (j+1) v v' (by omega) (by simpa using hi) (by simpa using hj))
  refine⟨by simp[h1],λj v b hv hc=> ?_,λu hu=> ?_,h4,λg j v b i hv hc=> ?_⟩
  ·cases j with
   |zero=>simp at hc
   |succ j=>exact h2 j v b (by simpa using hv) (by simpa using hc)
  ·obtain⟨j,v,b,e1,e2,e3⟩:=h3 u hu
   exact⟨j+1,v,b,by simpa using e1,by simpa using e2,e3⟩
  ·cases j with
   |zero=>simp at hc
   |succ j=>exact h5 g j v b i (by simpa using hv) (by simpa using hc)
 |v0::vs,.kill::cs,us,h,hd=>by
  simp only[xI] at h
  obtain⟨h1,h2,h3,h4,h5⟩:=Xu h (λi j v v' hij hi hj=>hd (i+1) (j+1) v v' (by omega) (by simpa using hi) (by simpa using hj))
  refine⟨by simp[h1],λj v b hv hc=> ?_,λu hu=> ?_,h4,λg j v b i hv hc=> ?_⟩
  ·cases j with
   |zero=>simp at hc
   |succ j=>exact h2 j v b (by simpa using hv) (by simpa using hc)
  ·obtain⟨j,v,b,e1,e2,e3⟩:=h3 u hu
   exact⟨j+1,v,b,by simpa using e1,by simpa using e2,e3⟩
  ·cases j with
   |zero=>simp at hc
   |succ j=>exact h5 g j v b i (by simpa using hv) (by simpa using hc)
 |v0::vs,.set b0::cs,us,h,hd=>by
  simp only[xI] at h
  split at h
  ·rename_i p hu
   simp only[Option.some.injEq,Prod.mk.injEq,Bool.and_eq_true,beq_iff] at h
   obtain⟨⟨hg,vx⟩,rfl⟩:=h
   obtain⟨p1,us'⟩:=p
   simp only at hg
   subst hg
   obtain⟨h1,h2,h3,h4,h5⟩:=Xu hu (λi j v v' hij hi hj=>hd (i+1) (j+1) v v' (by omega) (by simpa using hi) (by simpa using hj))
   have hlen:af.size (Is (Jd all aJ) b0)=v0.n:=by rw[Hw,vx]
   refine⟨by simp[h1],λj v b hv hc=> ?_,λu hu=> ?_,λg=>⟨(h4 _).1,(h4 _).2⟩,λg j v b i hv hc i1 i2=> ?_⟩
   ·cases j with
    |zero=>simp at hv hc;subst hv hc;exact vx
    |succ j=>exact h2 j v b (by simpa using hv) (by simpa using hc)
   ·rcases List.mem_cons.1 hu with rfl|hu
    ·exact⟨0,v0,b0,rfl,rfl,rfl⟩
    ·obtain⟨j,v,b,e1,e2,e3⟩:=h3 u hu
     exact⟨j+1,v,b,by simpa using e1,by simpa using e2,e3⟩
   ·show(cj us' ((Up.c v0.b v0.o (Is (Jd all aJ) b0)).fP g)).c v.b i=_
    cases j with
    |succ j=>exact h5 _ j v b i (by simpa using hv) (by simpa using hc) i1 i2
    |zero=>
     simp at hv hc
     subst hv hc
     have WQ:=oJ (us:=us') (g:=(Up.c v0.b v0.o (Is (Jd all aJ) b0)).fP g) (p:=.c v0.b i) (λu hu ht=>by
      obtain⟨j,v,b,e1,e2,rfl⟩:=h3 u hu
      simp only[Up.E',Hw,h2 j v b e1 e2] at ht
      have:=hd 0 (j+1) v0 v (by omega) rfl (by simpa using e1) ht.1.symm
      omega)
     simp only[Gt.at,PV.c.injEq] at WQ
     rw[WQ]
     simp only[Up.fP]
     rw[if_pos ⟨trivial,i1,by rw[hlen];exact i2⟩,aut (aF8 all aJ) _ _ (by omega)]
  ·cases h
 | [],_::_,us,h,_=>by simp[xI] at h
 |_::_,[],us,h,_=>by simp[xI] at h
omit [ax] in
theorem adw:∀{vs:List Vw} {cs:List Ch} (g:Gt),vs.length=cs.length->
  (cj (nh vs cs) g).t=g.t∧(∀b,(∃(j:Nat) (v:Vw),vs[j]? =some v∧cs[j]? =some .kill∧v.b=b)->(cj (nh vs cs) g).z b=none)∧
  (∀b,¬(∃(j:Nat) (v:Vw),vs[j]? =some v∧cs[j]? =some .kill∧v.b=b)->(cj (nh vs cs) g).z b=g.z b∧∀i,(cj (nh vs cs) g).c b i=g.c b i)
 | [],[],g,_=>⟨rfl,λb ⟨j,v,h,_⟩=>by simp at h,λb _=>⟨rfl,λ_=>rfl⟩⟩
 |v0::vs,c::cs,g,hl=>by
  have hl':vs.length=cs.length:=by simpa using hl
  by_cases hc:c=.kill
  ·subst hc
   show(cj (nh vs cs) ((Up.kill v0.b).fP g)).t=_∧_
   obtain⟨h0,h1,h2⟩:=adw (vs:=vs) (cs:=cs) ((Up.kill v0.b).fP g) hl'
   refine⟨h0,λb hb=> ?_,λb hb=> ?_⟩
   ·show(cj (nh vs cs) ((Up.kill v0.b).fP g)).z b=none
    by_cases hx:∃(j:Nat) (v:Vw),vs[j]? =some v∧cs[j]? =some .kill∧v.b=b
    ·exact h1 b hx
    ·rw[(h2 b hx).1]
     obtain⟨j,v,e1,e2,e3⟩:=hb
     cases j with
     |zero=>simp at e1;subst e1;simp[Up.fP,e3]
     |succ j=>exact absurd ⟨j,v,by simpa using e1,by simpa using e2,e3⟩ hx
   ·have hx:¬∃(j:Nat) (v:Vw),vs[j]? =some v∧cs[j]? =some .kill∧v.b=b:=λ⟨j,v,e1,e2,e3⟩=>hb ⟨j+1,v,by simpa using e1,by simpa using e2,e3⟩
    have kV:b≠v0.b:=λe=>hb ⟨0,v0,rfl,rfl,e.symm⟩
    obtain⟨k1,k2⟩:=h2 b hx
    refine⟨k1.trans (by simp[Up.fP,kV]),λi=>(k2 i).trans (by simp[Up.fP,kV])⟩
  ·have e:nh (v0::vs) (c::cs)=nh vs cs:=by cases c<;>first|rfl|exact absurd rfl hc
   rw[e]
   obtain⟨h0,h1,h2⟩:=adw (vs:=vs) (cs:=cs) g hl'
   refine⟨h0,λb ⟨j,v,e1,e2,e3⟩=> ?_,λb hb=>h2 b λ⟨j,v,e1,e2,e3⟩=>hb ⟨j+1,v,by simpa using e1,by simpa using e2,e3⟩⟩
   cases j with
   |zero=>simp at e2;exact absurd e2 hc
   |succ j=>exact h1 b ⟨j,v,by simpa using e1,by simpa using e2,e3⟩
 | [],_::_,_,h=>by simp at h
 |_::_,[],_,h=>by simp at h
omit [ax] in
theorem aij {vs:List Vw}{aJ:Nat}:∀{bs:List af} {j0:Nat} (g:Gt),
  (cj (EZ vs aJ bs j0) g).t=g.t∧(∀(k:Nat) (b:af),bs[k]? =some b->(cj (EZ vs aJ bs j0) g).z (aJ+(j0+k))=some (af.size b)∧∀i,i<af.size b->(cj (EZ vs aJ bs j0) g).c (aJ+(j0+k)) i=Jd vs aJ (af.get b i))∧
  (∀b,¬(aJ+j0<=b∧b<aJ+j0+bs.length)->(cj (EZ vs aJ bs j0) g).z b=g.z b∧∀i,(cj (EZ vs aJ bs j0) g).c b i=g.c b i)∧bY (EZ vs aJ bs j0)=bs.length
 | [],j0,g=>⟨rfl,λk b h=>by simp at h,λb _=>⟨rfl,λ_=>rfl⟩,rfl⟩
 |b0::bs,j0,g=>by
  obtain⟨h0,h1,h2,h3⟩:=aij (vs:=vs) (aJ:=aJ) (bs:=bs) (j0:=j0+1) ((Up.new (aJ+j0) (Is (Jd vs aJ) b0)).fP g)
  refine⟨h0,λk b hk=> ?_,λb hb=> ?_,?_⟩
  ·show(cj (EZ vs aJ bs (j0+1)) ((Up.new (aJ+j0) (Is (Jd vs aJ) b0)).fP g)).z _=_∧∀i,i<af.size b->(cj (EZ vs aJ bs (j0+1)) ((Up.new (aJ+j0) (Is (Jd vs aJ) b0)).fP g)).c _ i=_
   cases k with
   |zero=>
    simp at hk;subst hk
    obtain⟨k1,k2⟩:=h2 (aJ+(j0+0)) (by omega)
    refine⟨k1.trans (by simp[Up.fP,Hw]),λi hi=>(k2 i).trans ?_⟩
    simp only[Up.fP,Nat.add_zero,if_true,Hw,hi,if_true]
    exact aut (aF8 vs aJ) _ _ hi
   |succ k=>
    have:=h1 k b (by simpa using hk)
    rw[show j0+1+k=j0+(k+1) by omega] at this
    exact this
  ·obtain⟨k1,k2⟩:=h2 b (by simp only[List.length_cons] at hb;omega)
   have kV:b≠aJ+j0:=λe=>hb (by simp only[List.length_cons];omega)
   exact⟨k1.trans (by simp[Up.fP,kV]),λi=>(k2 i).trans (by simp[Up.fP,kV])⟩
  ·show bY (Up.new _ _::EZ vs aJ bs (j0+1))=_
   simp only[bY,List.filter_cons,if_true,List.length_cons]
   have:=h3
   simp only[bY] at this
   omega
end Go.Ab
