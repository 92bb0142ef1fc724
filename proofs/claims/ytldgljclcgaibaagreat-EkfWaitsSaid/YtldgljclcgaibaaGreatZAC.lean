/-
  Parts of the proof: AbP AbQ AbB AbC AbD AbE
-/
import Derived.Test.YtldgljclcgaibaaGreatZAB
import Derived.Laws.StructEq
import Derived.Laws.Tables
import Derived.Laws.Append
import Derived.Laws.AppendOwn
set_option linter.unusedVariables false
set_option linter.unusedSimpArgs false
namespace Go.Ab
variable [ax]
section
variable {P:Program} {o:Oper} {X:Cx} {D:Nat->Prop} {aJ:Nat} {us:List Up} {g:Gt}
omit [ax] in
theorem NN (us vs:List Up)(g:Gt):ck (us++vs) g=ck vs (ck us g):=by simp[ck]
theorem aJi {t:TypeId}{x y:Operand}{fp:List Fp}(ho:o.op=.store t x y)
  (h:aH ((aIX x).bind λp=>(aIW y).bind λv=>(Ab.dt (gK P t)).bind λn=>(Ab.cv (Nat.beq (af.size v.bI) n&&Nat.ble n p.2.2)).bind λ_=>.sz p.1<| .ret (zN (gP P t v.bI aJ).2 aJ++(dk o.dst Y3++[.c p.1 p.2.1 (gP P t v.bI aJ).1]))) g us fp):xN P o X D aJ us g:=by
 obtain⟨p,⟨_,h1⟩,_,h⟩:=aH.bind' h
 obtain⟨v,⟨_,h2⟩,_,h⟩:=aH.bind' h
 obtain⟨n,⟨_,h3⟩,_,h⟩:=aH.bind' h
 obtain⟨_,⟨_,h4⟩,_,h⟩:=aH.bind' h
 cases h with|sz q hz h=>
 cases h
 have h4:=h4.cv
 simp only[Bool.and_eq_true,beq_iff,eF] at h4
 obtain⟨h4,h5⟩:=h4
 obtain⟨n1,n2,n3⟩:=arB P t v.bI aJ
 generalize (gP P t v.bI aJ).1=k at n1 n2 n3
 generalize (gP P t v.bI aJ).2=es at n1 n2 n3
 intro π a w next Q R hk hf hd hD hn
 obtain⟨B,s,q',e,hb,ha,hm⟩:=h1.aIX R
 have hc:=RV.Me (h2.aIW R)
 have hl:=(hM hc).1
 obtain⟨B',s',e',eC,hle,k1,k2⟩:=R.hp.hp _ _ hz
 rw[hb] at eC;cases eC
 have hcn:ch (zN es aJ++(dk o.dst Y3++[.c p.1 p.2.1 k]))=es.length:=by
  rw[aFa,apN];unfold dk ch;cases o.dst<;>rfl
 rw[hcn] at hf hn
 obtain⟨π1,e1,e2,e3,R1⟩:=R.aBh n2 hk hf
 have hc1:=n3 π1 e3 _ (hc.imp (CV.c7 e1))
 have hz1:(ck (zN es aJ) g).z p.1=some q:=by
  have key:∀(es:List af) (aJ:Nat) (g:Gt),g.z p.1=some q->(∀b,aJ<=b->b<aJ+es.length->b≠p.1)->(ck (zN es aJ) g).z p.1=some q:=by
   intro es
   induction es with
   |nil=>intro aJ g h _;exact h
   |cons x es ih=>
    intro aJ g h kZ
    refine ih (aJ+1) _ ?_ (λb h1 h2=>kZ b (by omega) (by simp only[List.length_cons];omega))
    have:=kZ aJ (Nat.le_refl _) (by simp)
    simp only[Up.fU]
    rw[if_neg (by omega)];exact h
  refine key es aJ g hz λb h1 h2 hbp=> ?_
  have:=hf b h1 h2
  rw[hbp,hb] at this;cases this
 have R2:=R1.set hz1 (e1 _ _ hb) (o:=p.2.1) (vs:=k) (by rw[n1];omega) hc1 (hD (.c p.1 p.2.1 k) (by simp))
 have R3:=R2.dst hd (apM π1)
 refine aU4 (w':=w.setCells B (s+p.2.1.val) (a.eval y).cells.toList) ?_ (hn _ _ π1 e1 e2 ?_)
 ·have hst:=run_storeCells_cells (P:=P) B (s+p.2.1.val) (a.eval y).cells.toList 0 w
   (λj hj=>(k1 (s+p.2.1.val+0+j) (by omega) (by omega)).1) (λj hj=>(k1 (s+p.2.1.val+0+j) (by omega) (by omega)).2)
   (λx hx=>by
    obtain⟨i,hi⟩:=List.mem_iff_getElem?.1 hx
    obtain⟨c,_,hr⟩:=hc.get' hi
    exact CV.OC hr)
  have vS:(a.eval y).cells.size=n:=by rw[<-Array.length_toList];omega
  simp[execOp,ho,Instr.storeAt,ha,Instr.sureAddr,storeVar,run_sizeOf h3.dt,vS,hst]
 ·have e1:ck (zN es aJ++(dk o.dst Y3++[.c p.1 p.2.1 k])) g=ck (dk o.dst Y3) ((Up.c p.1 p.2.1 k).fU (ck (zN es aJ) g)):=by
   rw[aBg];cases o.dst<;>rfl
  rw[e1];exact R3
theorem aBj {x:Operand}{fp:List Fp}(ho:o.op=.nilCheck x)
  (h:aH ((E9 x).bind λ|.ptr b q n=>.ret (dk o.dst (.r (.c (.ptr b q n))))|.fp l=>.ret (dk o.dst (.r (.c (.fp l))))|_=>.fail) g us fp):xN P o X D aJ us g:=by
 obtain⟨v,⟨_,h1⟩,_,h⟩:=aH.bind' h
 split at h
 ·rename_i b q n
  cases h
  refine gF λπ a w R=> ?_
  obtain⟨B,s,q',e,hb,ha,hm⟩:=h1.E9 R
  refine⟨_,?_,B,s,q',e,hb,rfl,hm⟩
  simp[execOp,ho,ha]
 ·cases h
  refine gF λπ a w R=> ?_
  obtain⟨B,s,ha,hc⟩:=h1.E9 R
  refine⟨_,?_,B,s,rfl,hc⟩
  simp[execOp,ho,ha]
 ·cases h
theorem aPx {op:BinOp}{k:IntKind}{x y:Int}{v:FV}{fp:List Fp}(hs:op≠.shl∧op≠.shr)(h:aH (aS1 op k x y) g v fp)(t:TypeId)(w:World):
  ∃z,(binOp op t (.int k x) (.int k y)).run P w=.ok z w∧v.rel z:=by
 unfold aS1 at h
 cases op<;>simp only[] at h
 case shl=>exact absurd rfl hs.1
 case shr=>exact absurd rfl hs.2
 case quo=>
  obtain⟨_,⟨_,h1⟩,_,h⟩:=aH.bind' h
  cases h
  have h1:¬y=0:=by simpa using h1.cv
  exact⟨_,by simp[binOp,Op.intDiv,h1],rfl⟩
 case rem=>
  obtain⟨_,⟨_,h1⟩,_,h⟩:=aH.bind' h
  cases h
  have h1:¬y=0:=by simpa using h1.cv
  exact⟨_,by simp[binOp,Op.intDiv,h1],rfl⟩
 case and=>obtain⟨n,⟨_,h1⟩,_,h⟩:=aH.bind' h;cases h;have h1:=h1.dt;simp only[apH,Option.some.injEq] at h1;subst h1;exact⟨_,by simp[binOp,Op.intBits],rfl⟩
 case or=>obtain⟨n,⟨_,h1⟩,_,h⟩:=aH.bind' h;cases h;have h1:=h1.dt;simp only[apH,Option.some.injEq] at h1;subst h1;exact⟨_,by simp[binOp,Op.intBits],rfl⟩
 case xor=>obtain⟨n,⟨_,h1⟩,_,h⟩:=aH.bind' h;cases h;have h1:=h1.dt;simp only[apH,Option.some.injEq] at h1;subst h1;exact⟨_,by simp[binOp,Op.intBits],rfl⟩
 case andNot=>obtain⟨n,⟨_,h1⟩,_,h⟩:=aH.bind' h;cases h;have h1:=h1.dt;simp only[apH,Option.some.injEq] at h1;subst h1;exact⟨_,by simp[binOp,Op.intBits],rfl⟩
 all_goals (cases h;exact⟨_,by simp[binOp,Op.intArith,Op.intCmp],rfl⟩)
theorem awE {op:BinOp}{k k':IntKind}{x y:Int}{v:FV}{fp:List Fp}(h:aH (aOq op k x y) g v fp)(t:TypeId)(w:World):
  ∃z,(binOp op t (.int k x) (.int k' y)).run P w=.ok z w∧v.rel z:=by
 obtain⟨_,⟨_,h1⟩,_,h⟩:=aH.bind' h
 have h1:¬y<0:=by simpa using h1.cv
 cases op<;>simp only[] at h
 case shl=>cases h;exact⟨_,by simp only[binOp,Op.shift,h1,if_false];exact Sem.run_pure ..,rfl⟩
 case shr=>cases h;exact⟨_,by simp only[binOp,Op.shift,h1,if_false];exact Sem.run_pure ..,rfl⟩
 all_goals cases h
omit [ax] in
theorem adx (op:BinOp)(t:TypeId)(x y:Operand)(k k':IntKind)(m n:Int)(w:World):(eqGuard op t x y (.int k m) (.int k' n)).run P w=.ok () w:=by
 cases op<;>simp[eqGuard]
omit [ax] in
theorem aDD (op:BinOp)(t:TypeId)(x y:Operand)(m n:Bool)(w:World):(eqGuard op t x y (.bool m) (.bool n)).run P w=.ok () w:=by
 cases op<;>simp[eqGuard]
omit [ax] in
theorem ady (op:BinOp)(t:TypeId)(x y:Operand)(m n:Option Addr)(w:World):(eqGuard op t x y (.pointer m) (.pointer n)).run P w=.ok () w:=by
 cases op<;>simp[eqGuard]
omit [ax] in
theorem arC {t:TypeId}{x y:Value}{r:Bool}{w:World}(hi:(∀k n,x≠.int k n))(hs:∀s,x≠.string s)(hf:∀k n,x≠.float k n)(hc:∀k n m,x≠.complex k n m)(h:(Op.equal t x y).run P w=.ok r w):(binOp .eql t x y).run P w=.ok (.bool r) w∧(binOp .neq t x y).run P w=.ok (.bool (!r)) w:=by
 cases x<;>first
  |exact absurd rfl (hi _ _)
  |exact absurd rfl (hs _)
  |exact absurd rfl (hf _ _)
  |exact absurd rfl (hc _ _ _)
  |(simp only[binOp];simp[h])
theorem aPy {op:BinOp}{t:TypeId}{x y:RV}{v:RV}{fp:List Fp}(h:aH (aS4 P op t x y) g v fp)(heq:∀r l,aH (eqV P t x y) g r l->∀π a b w,x.rel π a->y.rel π b->(∀(op:BinOp) (p q:Operand),(eqGuard op t p q a b).run P w=.ok () w)∧(binOp .eql t a b).run P w=.ok (.bool r) w∧(binOp .neq t a b).run P w=.ok (.bool (!r)) w)
  {π:Pi}{a b:Value}(hx:x.rel π a)(hy:y.rel π b)(p q:Operand)(w:World):
  ∃z,(do eqGuard op t p q a b;binOp op t a b:Sem Value).run P w=.ok z w∧v.rel π z:=by
 unfold aS4 at h
 split at h
 ·rename_i k m k' n
  have ha:a=.int k m:=hx
  have hb:b=.int k' n:=hy
  subst ha hb
  split at h
  ·obtain⟨r,⟨_,h1⟩,_,h⟩:=aH.bind' h
   cases h
   obtain⟨z,hz,hr⟩:=awE (P:=P) (k':=k') h1 t w
   exact⟨z,by simp[adx,hz],hr⟩
  ·obtain⟨r,⟨_,h1⟩,_,h⟩:=aH.bind' h
   cases h
   obtain⟨z,hz,hr⟩:=awE (P:=P) (k':=k') h1 t w
   exact⟨z,by simp[adx,hz],hr⟩
  ·rename_i n1 n2
   split at h
   ·rename_i hk
    subst hk
    obtain⟨r,⟨_,h1⟩,_,h⟩:=aH.bind' h
    cases h
    obtain⟨z,hz,hr⟩:=aPx (P:=P) ⟨λe=>n1 e,λe=>n2 e⟩ h1 t w
    exact⟨z,by simp[adx,hz],hr⟩
   ·cases h
 ·split at h
  ·obtain⟨r,⟨l1,h1⟩,_,h⟩:=aH.bind' h
   cases h
   obtain⟨e1,e2,_⟩:=heq r _ h1 π a b w hx hy
   exact⟨.bool r,by simp[e1,e2],rfl⟩
  ·obtain⟨r,⟨l1,h1⟩,_,h⟩:=aH.bind' h
   cases h
   obtain⟨e1,_,e2⟩:=heq r _ h1 π a b w hx hy
   exact⟨.bool (!r),by simp[e1,e2],rfl⟩
  ·cases h
theorem aM4 {op:UnOp}{t:TypeId}{x:Operand}{fp:List Fp}(ho:o.op=.unOp op t x)
  (h:aH ((tO x).bind λa=>(unV op a).bind λv=>.ret (dk o.dst (.r v))) g us fp):xN P o X D aJ us g:=by
 obtain⟨r,⟨_,h1⟩,_,h⟩:=aH.bind' h
 obtain⟨v,⟨_,h2⟩,_,h⟩:=aH.bind' h
 cases h
 refine gF λπ a w R=> ?_
 have ha:=h1.tO R
 unfold unV at h2
 split at h2
 ·have ha:a.eval x=_:=ha
  cases h2
  exact⟨_,by simp[execOp,ho,ha,Op.unary,Op.intArith],rfl⟩
 ·have ha:a.eval x=_:=ha
  obtain⟨n,⟨_,h3⟩,_,h2⟩:=aH.bind' h2
  cases h2
  have h3:=h3.dt
  simp only[apH,Option.some.injEq] at h3
  subst h3
  exact⟨_,by simp[execOp,ho,ha,Op.unary,Op.intBits],rfl⟩
 ·have ha:a.eval x=_:=ha
  cases h2
  exact⟨_,by simp[execOp,ho,ha,Op.unary],rfl⟩
 ·cases h2
theorem aDE {s d:TypeId}{x:Operand}{fp:List Fp}(ho:o.op=.convert s d x)
  (h:aH ((tO x).bind λa=>(aMS P s d a).bind λv=>.ret (dk o.dst (.r v))) g us fp):xN P o X D aJ us g:=by
 obtain⟨r,⟨_,h1⟩,_,h⟩:=aH.bind' h
 obtain⟨v,⟨_,h2⟩,_,h⟩:=aH.bind' h
 cases h
 refine gF λπ a w R=> ?_
 have ha:=h1.tO R
 unfold aMS at h2
 split at h2
 ·rename_i d1 k k' n hs hd
  have ha:a.eval x=_:=ha
  cases h2
  exact⟨_,by simp[execOp,ho,ha,convert,run_underlying hs,run_underlying hd,Conv.intToInt],rfl⟩
 ·cases h2
theorem aBk {t:TypeId}{x:Operand}{fp:List Fp}(ho:o.op=.sliceToArrayPointer t x)
  (h:aH ((E9 x).bind λc=>match P.underlying t,c with
   |some (.array n _),.sl b q len z _=>(Ab.cv (Nat.ble 1 n&&Nat.ble n len.val)).bind λ_=>(Rd.ret (CV.ptr b q (n*z))).bind λv=>.ret (dk o.dst (.r (.c v)))
   |_,_=>.fail) g us fp):xN P o X D aJ us g:=by
 obtain⟨r,⟨_,h1⟩,_,h⟩:=aH.bind' h
 split at h
 ·rename_i n e b q len z own hu
  obtain⟨_,⟨_,h2⟩,_,h⟩:=aH.bind' h
  cases h
  have h2:=h2.cv
  simp only[Bool.and_eq_true,Nat.ble_eq] at h2
  refine gF λπ a w R=> ?_
  obtain⟨B,s,q',e,hb,hm,_,⟨h0,_⟩| ⟨cap,pz,ha,_⟩⟩:=h1.E9 R
  ·omega
  ·exact⟨_,by simp[execOp,ho,ha,Instr.arrayAt,run_underlying hu];intro me;omega,B,s,q',e,hb,rfl,by
    have:=Nat.mul_le_mul_right z h2.2
    omega⟩
 ·cases h
omit [ax] in
theorem al5 {α β γ:Type}{R:α->γ->Prop}{f:β->γ}:∀{l:List α} {m:List β},bj (λa b=>R a (f b)) l m->bj R l (m.map f)
 | [],[],_=>trivial
 |_::_,_::_,⟨a,b⟩=>⟨a,al5 b⟩
 | [],_::_,h=>h.elim
 |_::_,[],h=>h.elim
theorem aBl {f:FuncId}{fs aa8:Array Operand}{fp:List Fp}(ho:o.op=.makeFunc (.func f) fs aa8)
  (h:aH (match fs.toList with
   | []=>(Ab.rz Ab.tO aa8.toList).bind λl=>.ret (dk o.dst (.fn f l))
   |_=>.fail) g us fp):xN P o X D aJ us g:=by
 split at h
 ·rename_i hfs
  obtain⟨r,⟨_,h1⟩,_,h⟩:=aH.bind' h
  cases h
  refine gF λπ a w R=>⟨.func (.func f) #[] (aa8.map a.eval),?_,_,rfl,?_⟩
  ·have:fs=#[]:=by
    rw[<-Array.toList_inj];exact hfs
   simp[execOp,ho,this,Instr.makeFunc]
  ·have:=aH.rz (ρ:=λv x=>v.rel π (a.eval x)) (λx v l hx=>aH.tO hx R) h1
   rw[Array.toList_map]
   exact al5 this
 ·cases h
theorem aJj {t:TypeId}{x:Operand}{i:Nat}{fp:List Fp}(ho:o.op=.field t x i)
  (h:aH ((tO x).bind λ|.agg cs=>(Ab.dt (adj P t i)).bind λf=>(Ma P f.type cs f.offset).bind λv=>.ret (dk o.dst (.r v))|_=>.fail) g us fp):xN P o X D aJ us g:=by
 obtain⟨r,⟨_,h1⟩,_,h⟩:=aH.bind' h
 split at h
 ·rename_i cs
  obtain⟨f,⟨_,h2⟩,_,h⟩:=aH.bind' h
  obtain⟨v,⟨_,h3⟩,_,h⟩:=aH.bind' h
  cases h
  refine gF λπ a w R=> ?_
  obtain⟨arr,ha,hx⟩:=h1.tO R
  obtain⟨y,hy,hr⟩:=h3.Ma hx w
  refine⟨y,?_,hr⟩
  have h2:=h2.dt
  unfold adj at h2
  split at h2
  ·rename_i fs hu
   simp[execOp,ho,Instr.field,run_underlying hu,h2,ha,asAgg,hy]
  ·cases h2
 ·cases h
omit [ax] in
theorem aH.anc {i:Int}:∀{n j:Nat} {l:List Fp},aH (anc i n) g j l->0<=i->i<(n:Int)+1->j=i.toNat
 |0,j,l,h,h1,h2=>by cases h;omega
 |n+1,j,l,h,h1,h2=>by
  cases h with|test h=>
  cases hx:i==((n+1:Nat):Int) with
  |true=>
   rw[hx] at h;cases h
   have:=eq_of_beq hx
   omega
  |false=>
   rw[hx] at h
   have:=ne_of_beq_false hx
   exact aH.anc h h1 (by omega)
omit [ax] in
theorem cg.JC (o:cg)(d:Nat):(o.add d).val=o.val+d:=by
 cases o<;>simp only[cg.add,cg.val]<;>omega
omit [ax] in
theorem cg.aJk (o:cg)(j z n:Nat):(o.idx j z n).val=o.val+j*z:=by
 cases o with
 |k c=>rfl
 |x c i y=>
  simp only[cg.idx]
  split
  ·rename_i hy
   rw[beq_iff] at hy
   subst hy
   simp only[cg.val]
   rw[Nat.add_mul,<-Nat.mul_assoc];omega
  ·simp only[cg.val];omega
omit [ax] in
theorem cg.auU (o:cg)(j z:Nat):(o.aIT j z).val=o.val+j*z:=by
 cases o with
 |k c=>rfl
 |x c i y=>
  simp only[cg.aIT]
  split
  ·rename_i hy
   rw[beq_iff] at hy
   subst hy
   simp only[cg.val]
   rw[Nat.add_mul];omega
  ·simp only[cg.val];omega
omit [ax] in
theorem aH.sel {o:cg}{i:Int}{n:Nat}{e:TypeId}{z:Nat}{o':cg}{l:List Fp}(h:aH (sel P o i n e z) g o' l)(h1:0<=i)(h2:i<(n:Int)):o'.val=o.val+i.toNat*z:=by
 unfold Ab.sel at h
 split at h
 ·cases h;exact cg.aJk ..
 ·split at h
  ·obtain⟨j,⟨_,h3⟩,_,h⟩:=aH.bind' h
   cases h
   rw[h3.anc h1 (by omega),cg.JC]
  ·cases h;exact cg.aJk ..
omit [ax] in
theorem aH.aIZ {o:cg}{i:Int}{n:Sz}{e:TypeId}{z:Nat}{o':cg}{l:List Fp}(h:aH (aIZ P o i n e z) g o' l)(h1:0<=i)(h2:i<(n.val:Int)):o'.val=o.val+i.toNat*z:=by
 unfold Ab.aIZ at h
 split at h
 ·split at h
  ·obtain⟨j,⟨_,h3⟩,_,h⟩:=aH.bind' h
   cases h
   simp only[Sz.val] at h2
   rw[h3.anc h1 (by omega),cg.JC]
  ·cases h;exact cg.auU ..
 ·cases h;exact cg.auU ..
theorem aJl {t:TypeId}{x i:Operand}{fp:List Fp}(ho:o.op=.index t x i)
  (h:aH ((tO x).bind λv=>(IE i).bind λi=>match P.underlying t,v with
   |some (.array n e),.agg cs=>(Ab.dt (gK P e)).bind λz=>(Ab.cv (Nat.ble 1 z&&Nat.ble (n*z) (af.size cs))).bind λ_=>(Ab.cv (aX i.2 n)).bind λ_=>(Ab.sel P (.k 0) i.2 n e z).bind λo'=>(partOf P e cs o').bind λv=>.ret (dk o.dst (.r v))
   |some .string,.c (.f (.s b))=>(Ab.cv (aX i.2 b.size)).bind λ_=>.ret (dk o.dst (.r (.c (.f (.i .u8 (Cz b i.2.toNat))))))
   |_,_=>.fail) g us fp):xN P o X D aJ us g:=by
 obtain⟨r,⟨_,h1⟩,_,h⟩:=aH.bind' h
 obtain⟨j,⟨_,h2⟩,_,h⟩:=aH.bind' h
 split at h
 ·rename_i n e cs hu _
  obtain⟨z,⟨_,h3⟩,_,h⟩:=aH.bind' h
  obtain⟨_,⟨_,h7⟩,_,h⟩:=aH.bind' h
  obtain⟨_,⟨_,h4⟩,_,h⟩:=aH.bind' h
  obtain⟨i',⟨_,h6⟩,_,h⟩:=aH.bind' h
  obtain⟨v,⟨_,h5⟩,_,h⟩:=aH.bind' h
  cases h
  refine gF λπ a w R=> ?_
  obtain⟨arr,ha,hx⟩:=h1.tO R
  have h4:=h4.cv
  simp only[aX,Bool.and_eq_true,decide_eq_true_eq] at h4
  have h7:=h7.cv
  simp only[Bool.and_eq_true,eF] at h7
  have hi:i'.val=j.2.toNat*z:=(h6.sel h4.1 h4.2).trans (Nat.zero_add _)
  have hb:j.2.toNat*z+z<=n*z:=by
   have:=Nat.mul_le_mul_right z (show j.2.toNat+1<=n by omega)
   rw[Nat.add_mul] at this;omega
  obtain⟨y,hy,hr⟩:=h5.partOf h3.dt h7.1 (by rw[hi];omega) hx w
  rw[hi] at hy
  refine⟨y,?_,hr⟩
  simp[execOp,ho,Instr.index,run_underlying hu,h2.IE R,ha,asIntOf,h4,run_sizeOf h3.dt,hy]
 ·rename_i b hu _
  obtain⟨_,⟨_,h4⟩,_,h⟩:=aH.bind' h
  cases h
  refine gF λπ a w R=> ?_
  have ha:a.eval x=.string b:=h1.tO R
  have h4:=h4.cv
  simp only[aX,Bool.and_eq_true,decide_eq_true_eq] at h4
  have hb:b[j.2.toNat]? =some (b[j.2.toNat]'(by omega)):=getElem?_pos ..
  refine⟨.int .u8 (Cz b j.2.toNat),?_,rfl⟩
  unfold Cz
  rw[hb]
  simp[execOp,ho,Instr.index,run_underlying hu,h2.IE R,ha,asIntOf,h4.1,hb]
 ·cases h
theorem aDF {x:Operand}{i:Nat}{fp:List Fp}(ho:o.op=.extract x i)
  (h:aH ((Cc x).bind λ|.tup vs=>(Ab.dt (vs[i]?)).bind λv=>.ret (dk o.dst (.r v))|_=>.fail) g us fp):xN P o X D aJ us g:=by
 obtain⟨r,⟨_,h1⟩,_,h⟩:=aH.bind' h
 split at h
 ·rename_i vs
  obtain⟨v,⟨_,h2⟩,_,h⟩:=aH.bind' h
  cases h
  refine gF λπ a w R=> ?_
  obtain⟨arr,ha,hx⟩:=h1.Cc R
  obtain⟨y,hy,hr⟩:=hx.get h2.dt
  refine⟨y,?_,hr⟩
  have hy:arr[i]? =some y:=by simpa using hy
  simp[execOp,ho,Instr.extract,ha,hy]
 ·cases h
theorem ayX {t:TypeId}{x:Operand}{i:Nat}{fp:List Fp}(ho:o.op=.fieldAddr t x i)
  (h:aH ((E9 x).bind λc=>(auM P t c i).bind λv=>.ret (dk o.dst (.r (.c v)))) g us fp):xN P o X D aJ us g:=by
 obtain⟨r,⟨_,h1⟩,_,h⟩:=aH.bind' h
 obtain⟨v,⟨_,h2⟩,_,h⟩:=aH.bind' h
 cases h
 refine gF λπ a w R=> ?_
 have ha:=h1.E9 R
 unfold auM at h2
 split at h2
 ·rename_i l
  obtain⟨f,⟨_,h3⟩,_,h2⟩:=aH.bind' h2
  obtain⟨n,⟨_,h4⟩,_,h2⟩:=aH.bind' h2
  obtain⟨_,⟨_,h5⟩,_,h2⟩:=aH.bind' h2
  cases h2
  obtain⟨B,s,ha,hc⟩:=ha
  have h3:=h3.dt
  have h5:=h5.cv
  simp only[Bool.and_eq_true,eF] at h5
  have hn:n≠0:=by omega
  unfold adj at h3
  split at h3
  ·rename_i fs hu
   refine⟨.pointer (some ⟨B,s+f.offset,none⟩),?_,B,s+f.offset,rfl,λj v hj=> ?_⟩
   ·simp[execOp,ho,Instr.fieldAt,run_underlying hu,h3,ha,Instr.sureAddr,fieldPlace,run_sizeOf h4.dt,hn,lI]
   ·rw[List.getElem?_take] at hj
    split at hj
    ·rw[List.getElem?_drop] at hj
     rw[Nat.add_assoc];exact hc _ v hj
    ·cases hj
  ·cases h3
 ·rename_i b q m
  obtain⟨f,⟨_,h3⟩,_,h2⟩:=aH.bind' h2
  obtain⟨n,⟨_,h4⟩,_,h2⟩:=aH.bind' h2
  obtain⟨_,⟨_,h5⟩,_,h2⟩:=aH.bind' h2
  cases h2
  obtain⟨B,s,q',e,hb,ha,hm⟩:=ha
  have h3:=h3.dt
  have h5:=h5.cv
  simp only[Bool.and_eq_true,eF] at h5
  have hn:n≠0:=by omega
  unfold adj at h3
  split at h3
  ·rename_i fs hu
   refine⟨.pointer (some ⟨B,s+(q.add f.offset).val,none⟩),?_,B,s,q',e,hb,rfl,by rw[cg.JC];omega⟩
   simp[execOp,ho,Instr.fieldAt,run_underlying hu,h3,ha,Instr.sureAddr,fieldPlace,run_sizeOf h4.dt,hn,lI,Nat.add_assoc,cg.JC]
  ·cases h3
 ·cases h2
theorem ayY {t:TypeId}{x i:Operand}{fp:List Fp}(ho:o.op=.indexAddr t x i)
  (h:aH ((E9 x).bind λc=>(IE i).bind λi=>(auN P t c i.2).bind λv=>.ret (dk o.dst (.r (.c v)))) g us fp):xN P o X D aJ us g:=by
 obtain⟨r,⟨_,h1⟩,_,h⟩:=aH.bind' h
 obtain⟨j,⟨_,h2⟩,_,h⟩:=aH.bind' h
 obtain⟨v,⟨_,h3⟩,_,h⟩:=aH.bind' h
 cases h
 refine gF λπ a w R=> ?_
 have ha:=h1.E9 R
 unfold auN at h3
 split at h3
 ·rename_i n e b q m hu _
  obtain⟨z,⟨_,h4⟩,_,h3⟩:=aH.bind' h3
  obtain⟨_,⟨_,h7⟩,_,h3⟩:=aH.bind' h3
  obtain⟨_,⟨_,h5⟩,_,h3⟩:=aH.bind' h3
  obtain⟨o',⟨_,h6⟩,_,h3⟩:=aH.bind' h3
  cases h3
  obtain⟨B,s,q',e',hb,ha,hm⟩:=ha
  have h5:=h5.cv
  simp only[aX,Bool.and_eq_true,decide_eq_true_eq] at h5
  have h7:=eF.1 h7.cv
  have hi:=h6.sel h5.1 h5.2
  have hbd:j.2.toNat*z+z<=n*z:=by
   have:=Nat.mul_le_mul_right z (show j.2.toNat+1<=n by omega)
   rw[Nat.add_mul] at this;omega
  refine⟨.pointer (some ⟨B,s+o'.val,none⟩),?_,B,s,q',e',hb,rfl,by omega⟩
  rw[hi]
  simp[execOp,ho,Instr.indexAt,run_underlying hu,h2.IE R,ha,asIntOf,Instr.sureAddr,h5,run_sizeOf h4.dt,lI,Nat.add_assoc]
 ·rename_i e b q len z' own hu _
  obtain⟨z,⟨_,h4⟩,_,h3⟩:=aH.bind' h3
  obtain⟨_,⟨_,h6⟩,_,h3⟩:=aH.bind' h3
  obtain⟨_,⟨_,h5⟩,_,h3⟩:=aH.bind' h3
  obtain⟨o',⟨_,h8⟩,_,h3⟩:=aH.bind' h3
  cases h3
  have h5:=h5.cv
  simp only[aX,Bool.and_eq_true,decide_eq_true_eq] at h5
  have h6:=beq_iff.1 h6.cv
  subst h6
  have hi:=h8.aIZ h5.1 h5.2
  obtain⟨B,s,q',e',hb,hm,_,⟨h0,_⟩| ⟨cap,pz,ha,_⟩⟩:=ha
  ·omega
  ·have hbd:j.2.toNat*z+z<=len.val*z:=by
    have:=Nat.mul_le_mul_right z (show j.2.toNat+1<=len.val by omega)
    rw[Nat.add_mul] at this;omega
   refine⟨.pointer (some ⟨B,s+o'.val,none⟩),?_,B,s,q',e',hb,rfl,by omega⟩
   rw[hi]
   simp[execOp,ho,Instr.indexAt,run_underlying hu,h2.IE R,ha,asIntOf,h5,run_sizeOf h4.dt,lI,Nat.add_assoc]
 ·rename_i e n z' cols hu _
  obtain⟨z,⟨_,h4⟩,_,h3⟩:=aH.bind' h3
  obtain⟨_,⟨_,h6⟩,_,h3⟩:=aH.bind' h3
  obtain⟨_,⟨_,h5⟩,_,h3⟩:=aH.bind' h3
  cases h3
  have h5:=h5.cv
  simp only[aX,Bool.and_eq_true,decide_eq_true_eq] at h5
  have h6:=beq_iff.1 h6.cv
  subst h6
  obtain⟨hz,⟨h0,_⟩| ⟨B,s,cap,pz,ha,hc⟩⟩:=ha
  ·omega
  ·refine⟨.pointer (some ⟨B,s+j.2.toNat*z,none⟩),?_,B,s+j.2.toNat*z,rfl,λi f hi=> ?_⟩
   ·simp[execOp,ho,Instr.indexAt,run_underlying hu,h2.IE R,ha,asIntOf,h5,run_sizeOf h4.dt,lI]
   ·rw[List.getElem?_map,Option.map_eq_some_iff] at hi
    obtain⟨q,hq,rfl⟩:=hi
    have hil:=(List.getElem?_eq_some_iff.1 hq).1
    have hbd:j.2.toNat*z+z<=n*z:=by
     have:=Nat.mul_le_mul_right z (show j.2.toNat+1<=n by omega)
     rw[Nat.add_mul] at this;omega
    obtain⟨f,v,e1,e2,e3⟩:=hc (j.2.toNat*z+i) (by omega)
    refine⟨v,by rw[Nat.add_assoc];exact e2,?_⟩
    have e4:gL cols (j.2.toNat*z+i)=.f (q.at j.2.toNat):=by
     unfold gL
     rw[hz,Nat.mul_comm,Nat.mul_add_mod,Nat.mul_add_div (by omega),Nat.mod_eq_of_lt (by omega),Nat.div_eq_of_lt (by omega),hq]
     rfl
    rw[e1] at e4;cases e4
    exact e3
 ·rename_i n e l hu _
  obtain⟨z,⟨_,h4⟩,_,h3⟩:=aH.bind' h3
  obtain⟨_,⟨_,h7⟩,_,h3⟩:=aH.bind' h3
  obtain⟨_,⟨_,h5⟩,_,h3⟩:=aH.bind' h3
  obtain⟨o',⟨_,h6⟩,_,h3⟩:=aH.bind' h3
  cases h3
  obtain⟨B,s,ha,hc⟩:=ha
  have h5:=h5.cv
  simp only[aX,Bool.and_eq_true,decide_eq_true_eq] at h5
  have hi:=h6.anc (by omega) (by omega)
  refine⟨.pointer (some ⟨B,s+j.2.toNat*z,none⟩),?_,B,s+j.2.toNat*z,rfl,λi f hf=> ?_⟩
  ·simp[execOp,ho,Instr.indexAt,run_underlying hu,h2.IE R,ha,asIntOf,Instr.sureAddr,h5,run_sizeOf h4.dt,lI]
  ·rw[List.getElem?_take] at hf
   split at hf
   ·rw[List.getElem?_drop,hi] at hf
    rw[Nat.add_assoc];exact hc _ f hf
   ·cases hf
 ·cases h3
theorem aH.awz {x:Option Operand}{v:Option Int}{l:List Fp}{π:Pi}{a:Act}{w:World}(h:aH (awz x) g v l)(R:Rel X D π g a w):
  (x=none∧v=none)∨∃y k i,x=some y∧v=some i∧a.eval y=.int k i:=by
 cases x with
 |none=>cases h;exact .inl ⟨rfl,rfl⟩
 |some y=>
  obtain⟨r,⟨_,h1⟩,_,h⟩:=aH.bind' h
  cases h
  exact .inr ⟨y,r.1,r.2,rfl,rfl,h1.IE R⟩
omit [ax] in
theorem aH.RI {lo hi:Option Int}{n:Nat}{lh:Nat×Nat}{l:List Fp}(h:aH (RI lo hi n) g lh l):
  lh.1<=lh.2∧lh.2<=n∧((hi=none∧lh.2=n)∨∃i,hi=some i∧0<=i∧i<=n∧lh.2=i.toNat)∧((lo=none∧lh.1=0)∨∃i,lo=some i∧0<=i∧i<=lh.2∧lh.1=i.toNat):=by
 obtain⟨hh,⟨_,h1⟩,_,h⟩:=aH.bind' h
 obtain⟨ll,⟨_,h2⟩,_,h⟩:=aH.bind' h
 cases h
 have e1:hh<=n∧((hi=none∧hh=n)∨∃i,hi=some i∧0<=i∧i<=n∧hh=i.toNat):=by
  cases hi with
  |none=>cases h1;exact⟨Nat.le_refl _,.inl ⟨rfl,rfl⟩⟩
  |some i=>
   obtain⟨_,⟨_,h3⟩,_,h1⟩:=aH.bind' h1
   cases h1
   have h3:=h3.cv
   simp only[IF,Bool.and_eq_true,decide_eq_true_eq] at h3
   exact⟨by omega,.inr ⟨i,rfl,h3.1,h3.2,rfl⟩⟩
 have e2:ll<=hh∧((lo=none∧ll=0)∨∃i,lo=some i∧0<=i∧i<=hh∧ll=i.toNat):=by
  cases lo with
  |none=>cases h2;exact⟨Nat.zero_le _,.inl ⟨rfl,rfl⟩⟩
  |some i=>
   obtain⟨_,⟨_,h3⟩,_,h2⟩:=aH.bind' h2
   cases h2
   have h3:=h3.cv
   simp only[IF,Bool.and_eq_true,decide_eq_true_eq] at h3
   exact⟨by omega,.inr ⟨i,rfl,h3.1,h3.2,rfl⟩⟩
 exact⟨e2.1,e1.1,e1.2,e2.2⟩
end
end Go.Ab
namespace Go.Ab
variable [ax]
section
variable {P:Program} {o:Oper} {X:Cx} {D:Nat->Prop} {aJ:Nat} {us:List Up} {g:Gt}
def OI (x:Option Int)(v:Option Value):Prop:=(x=none∧v=none)∨∃k i,x=some i∧v=some (.int k i)
theorem aH.aTi {x:Option Operand}{v:Option Int}{l:List Fp}{π:Pi}{a:Act}{w:World}(h:aH (Ab.awz x) g v l)(R:Rel X D π g a w):OI v (x.map a.eval):=by
 rcases h.awz R with⟨rfl,rfl⟩| ⟨y,k,i,rfl,rfl,e⟩
 ·exact .inl ⟨rfl,rfl⟩
 ·exact .inr ⟨k,i,rfl,by simp[e]⟩
omit [ax] in
theorem tj {lo hi:Option Int}{n cap:Nat}{lh:Nat×Nat}{l:List Fp}(h:aH (Ab.RI lo hi n) g lh l)(hc:n<=cap){lv hv:Option Value}(h1:OI lo lv)(h2:OI hi hv)(isS:Bool)(w:World):
  (Instr.sliceBounds isS n cap lv hv none).run P w=.ok (lh.1,lh.2,cap) w:=by
 obtain⟨b1,b2,b3,b4⟩:=h.RI
 have eh:∀code,(match hv with
   |some v=>Instr.sliceBound v cap code
   |none=>(pure n:Sem Nat)).run P w=.ok lh.2 w:=λcode=>by
  rcases h2 with⟨rfl,rfl⟩| ⟨k,i,rfl,rfl⟩
  ·rcases b3 with⟨_,e⟩| ⟨i,e,_⟩
   ·simp[e]
   ·cases e
  ·rcases b3 with⟨e,_⟩| ⟨i',e,c1,c2,c3⟩
   ·cases e
   ·cases e
    simp only[Instr.sliceBound,asIntOf,Sem.run_bind,Sem.run_pure,Result.andThen_ok]
    rw[if_pos ⟨c1,by omega⟩,c3];exact Sem.run_pure ..
 have el:∀code,(match lv with
   |some v=>Instr.sliceBound v lh.2 code
   |none=>(pure 0:Sem Nat)).run P w=.ok lh.1 w:=λcode=>by
  rcases h1 with⟨rfl,rfl⟩| ⟨k,i,rfl,rfl⟩
  ·rcases b4 with⟨_,e⟩| ⟨i,e,_⟩
   ·simp[e]
   ·cases e
  ·rcases b4 with⟨e,_⟩| ⟨i',e,c1,c2,c3⟩
   ·cases e
   ·cases e
    simp only[Instr.sliceBound,asIntOf,Sem.run_bind,Sem.run_pure,Result.andThen_ok]
    rw[if_pos ⟨c1,c2⟩,c3];exact Sem.run_pure ..
 have eh':=eh (if isS then .sliceAcap else .sliceAlen)
 have el':=el .sliceB
 cases hv<;>cases lv<;>simp_all [Instr.sliceBounds]
omit [ax] in
theorem aTj (q:Bool)(n:Nat):(szQ q n).val=n:=by cases q<;>rfl
omit [ax] in
theorem apO {q:Bool}{lo hi:Option Int}{n:Sz}{lh:Nat×Nat}{l:List Fp}(h:aH (Ab.RI lo hi n.val) g lh l):(lenOf q lo hi n lh).val=lh.2-lh.1:=by
 obtain⟨b1,b2,b3,b4⟩:=h.RI
 cases lo<;>cases hi<;>simp only[lenOf,aTj]
 ·rcases b3 with⟨_,e⟩| ⟨i,e,_⟩
  ·rcases b4 with⟨_,e'⟩| ⟨i,e',_⟩
   ·omega
   ·cases e'
  ·cases e
 ·rcases b4 with⟨_,e'⟩| ⟨i,e',_⟩
  ·omega
  ·cases e'
omit [ax] in
theorem aBm {qq:Bool}{lo hi:Option Int}{n:Nat}{lh:Nat×Nat}{l:List Fp}(h:aH (Ab.RI lo hi n) g lh l)(o:cg)(z:Nat):(adl qq lo o lh.1 z).val=o.val+lh.1*z:=by
 obtain⟨b1,b2,b3,b4⟩:=h.RI
 cases lo<;>simp only[adl]
 ·rcases b4 with⟨_,e'⟩| ⟨i,e',_⟩
  ·rw[e'];omega
  ·cases e'
 ·cases qq
  ·exact cg.auU ..
  ·exact cg.JC ..
theorem aJm {t:TypeId}{x:Operand}{lo hi:Option Operand}{fp:List Fp}(ho:o.op=.slice t x lo hi none)
  (h:aH ((E9 x).bind λc=>(Ab.awz lo).bind λl=>(Ab.awz hi).bind λh=>(aGJ P t c (sV lo&&sV hi) l h).bind λv=>.ret (dk o.dst (.r (.c v)))) g us fp):xN P o X D aJ us g:=by
 obtain⟨r,⟨_,h1⟩,_,h⟩:=aH.bind' h
 obtain⟨l,⟨_,h2⟩,_,h⟩:=aH.bind' h
 obtain⟨hh,⟨_,h3⟩,_,h⟩:=aH.bind' h
 obtain⟨v,⟨_,h4⟩,_,h⟩:=aH.bind' h
 cases h
 refine gF λπ a w R=> ?_
 have ha:=h1.E9 R
 have ol:=h2.aTi R
 have oh:=h3.aTi R
 unfold aGJ at h4
 split at h4
 ·rename_i n e b q m hu _ _
  obtain⟨z,⟨_,h5⟩,_,h4⟩:=aH.bind' h4
  obtain⟨_,⟨_,h7⟩,_,h4⟩:=aH.bind' h4
  obtain⟨lh,⟨_,h6⟩,_,h4⟩:=aH.bind' h4
  cases h4
  have h7:=eF.1 h7.cv
  obtain⟨B,s,q',e',hb,ha,hm⟩:=ha
  have hr:=tj (P:=P) h6 (Nat.le_refl n) ol oh false w
  obtain⟨b1,b2,_,_⟩:=h6.RI
  have hl:=apO (q:=sV lo&&sV hi) (n:=.l n) h6
  have aBn:=aBm (qq:=sV lo&&sV hi) h6 q z
  refine⟨_,by simp[execOp,ho,Instr.sliceAt,run_underlying hu,ha,Instr.sureAddr,hr,run_sizeOf h5.dt];rfl,?_⟩
  show CV.rel π (.sl b (adl (sV lo&&sV hi) l q lh.1 z) (lenOf (sV lo&&sV hi) l hh (.l n) lh) z false) _
  have hbd:(adl (sV lo&&sV hi) l q lh.1 z).val+(lenOf (sV lo&&sV hi) l hh (.l n) lh).val*z<=q':=by
   rw[hl,aBn]
   have:lh.1*z+(lh.2-lh.1)*z=lh.2*z:=by rw[<-Nat.add_mul];congr 1;omega
   have:=Nat.mul_le_mul_right z b2
   omega
  refine⟨B,s,q',e',hb,hbd,(λh=>by cases h),?_⟩
  by_cases hm2:n=lh.1
  ·left
   refine⟨by omega,some ⟨B,s+q.val,none⟩,?_⟩
   rw[if_pos hm2]
   have e1:lh.2-lh.1=0:=by omega
   have e2:n-lh.1=0:=by omega
   rw[e1,e2]
  ·right
   refine⟨n-lh.1,by omega,?_,λh=>by cases h⟩
   rw[if_neg hm2,lI,Nat.add_assoc,hl,aBn]
 ·rename_i e b q len z own hu _ _
  obtain⟨z',⟨_,h5⟩,_,h4⟩:=aH.bind' h4
  obtain⟨_,⟨_,h7⟩,_,h4⟩:=aH.bind' h4
  obtain⟨lh,⟨_,h6⟩,_,h4⟩:=aH.bind' h4
  cases h4
  have hz:z=z':=beq_iff.1 h7.cv
  subst hz
  obtain⟨b1,b2,b3,b4⟩:=h6.RI
  have hl:=apO (q:=ane (sV lo&&sV hi) len) h6
  have aBn:=aBm (qq:=ane (sV lo&&sV hi) len) h6 q z
  have e4:lh.1*z+(lh.2-lh.1)*z=lh.2*z:=by rw[<-Nat.add_mul];congr 1;omega
  obtain⟨B,s,q',e',hb,hm,oq,ha⟩:=ha
  have hbd:(adl (ane (sV lo&&sV hi) len) l q lh.1 z).val+(lenOf (ane (sV lo&&sV hi) len) l hh len lh).val*z<=q':=by
   clear ha
   rw[hl,aBn]
   have:=Nat.mul_le_mul_right z b2
   omega
  have aWW:hh.isNone=true->lh.2=len.val:=λh=>by
   rcases b3 with⟨_,e⟩| ⟨i,e,_⟩
   ·exact e
   ·rw[e] at h;cases h
  have aJn:(own&&hh.isNone)=true->(adl (ane (sV lo&&sV hi) len) l q lh.1 z).val+(lenOf (ane (sV lo&&sV hi) len) l hh len lh).val*z=q':=λh=>by
   clear ha
   simp only[Bool.and_eq_true] at h
   have:=oq h.1
   rw[hl,aBn]
   rw[aWW h.2] at e4 ⊢
   omega
  rcases ha with⟨h0,y,ha⟩| ⟨cap,pz,ha,aM5⟩
  ·have hr:=tj (P:=P) h6 (Nat.le_refl _) ol oh true w
   clear b3 b4
   have e1:lh.1=0:=by omega
   have e2:lh.2=0:=by omega
   rw[h0] at hr
   refine⟨.slice y 0 0,by simp[execOp,ho,Instr.sliceAt,Instr.slice,run_underlying hu,ha,hr,run_sizeOf h5.dt,e1,e2],B,s,q',e',hb,hbd,aJn,.inl ⟨by omega,y,rfl⟩⟩
  ·have hr:=tj (P:=P) h6 pz ol oh true w
   refine⟨_,by simp[execOp,ho,Instr.sliceAt,Instr.slice,run_underlying hu,ha,hr,run_sizeOf h5.dt];rfl,?_⟩
   show CV.rel π (.sl b (adl (ane (sV lo&&sV hi) len) l q lh.1 z) (lenOf (ane (sV lo&&sV hi) len) l hh len lh) z (own&&hh.isNone)) _
   refine⟨B,s,q',e',hb,hbd,aJn,?_⟩
   by_cases hm2:cap=lh.1
   ·left
    refine⟨by omega,some ⟨B,s+q.val,none⟩,?_⟩
    rw[if_pos hm2]
    have e1:lh.2-lh.1=0:=by omega
    have e2:cap-lh.1=0:=by omega
    rw[e1,e2]
   ·right
    refine⟨cap-lh.1,by omega,?_,λh=> ?_⟩
    ·rw[if_neg hm2,lI,Nat.add_assoc,hl,aBn]
    ·simp only[Bool.and_eq_true] at h
     have hw2:=aM5 h.1
     have e3:lh.1*z+(cap-lh.1)*z=cap*z:=by rw[<-Nat.add_mul];congr 1;omega
     rw[aBn]
     omega
 ·rename_i e hu _ _
  obtain⟨z,⟨_,h5⟩,_,h4⟩:=aH.bind' h4
  obtain⟨lh,⟨_,h6⟩,_,h4⟩:=aH.bind' h4
  cases h4
  have ha:a.eval x=.slice none 0 0:=ha
  have hr:=tj (P:=P) h6 (Nat.le_refl 0) ol oh true w
  obtain⟨b1,b2,b3,b4⟩:=h6.RI
  have e1:lh.1=0:=by omega
  have e2:lh.2=0:=by omega
  exact⟨.slice none 0 0,by simp[execOp,ho,Instr.sliceAt,Instr.slice,run_underlying hu,ha,hr,run_sizeOf h5.dt,e1,e2],rfl⟩
 ·rename_i e n z cols hu _ _
  obtain⟨z',⟨_,h5⟩,_,h4⟩:=aH.bind' h4
  obtain⟨_,⟨_,h7⟩,_,h4⟩:=aH.bind' h4
  obtain⟨lh,⟨_,h6⟩,_,h4⟩:=aH.bind' h4
  cases h4
  have hz:z=z':=beq_iff.1 h7.cv
  subst hz
  obtain⟨b1,b2,b3,b4⟩:=h6.RI
  have hl:=apO (q:=false) (n:=.s n) h6
  have hfl:(arj l lh.1 cols).length=cols.length:=by unfold arj;split<;>simp
  have hfg:∀j,gL (arj l lh.1 cols) j=gL cols (lh.1*cols.length+j):=λj=>by
   unfold arj
   split
   ·rcases b4 with⟨_,e⟩| ⟨i,e,_⟩
    ·rw[e,Nat.zero_mul,Nat.zero_add]
    ·cases e
   ·exact awB ..
  obtain⟨hz,ha⟩:=ha
  rcases ha with⟨h0,y,ha⟩| ⟨B,s,cap,pz,ha,hc⟩
  ·have hr:=tj (P:=P) h6 (Nat.le_refl _) ol oh true w
   clear b3 b4
   have e1:lh.1=0:=by omega
   have e2:lh.2=0:=by omega
   rw[h0] at hr
   exact⟨.slice y 0 0,by simp[execOp,ho,Instr.sliceAt,Instr.slice,run_underlying hu,ha,hr,run_sizeOf h5.dt,e1,e2],hfl.trans hz,.inl ⟨by omega,y,rfl⟩⟩
  ·have hr:=tj (P:=P) h6 pz ol oh true w
   refine⟨_,by simp[execOp,ho,Instr.sliceAt,Instr.slice,run_underlying hu,ha,hr,run_sizeOf h5.dt];rfl,hfl.trans hz,?_⟩
   by_cases hm2:cap=lh.1
   ·left
    refine⟨by omega,some ⟨B,s,none⟩,?_⟩
    rw[if_pos hm2]
    have e1:lh.2-lh.1=0:=by omega
    have e2:cap-lh.1=0:=by omega
    rw[e1,e2]
   ·right
    refine⟨B,s+lh.1*z,cap-lh.1,by omega,by rw[if_neg hm2,lI,hl],λj hj=> ?_⟩
    rw[hl] at hj
    have e4:lh.1*z+(lh.2-lh.1)*z=lh.2*z:=by rw[<-Nat.add_mul];congr 1;omega
    have e5:=Nat.mul_le_mul_right z b2
    obtain⟨f,v,f1,f2,f3⟩:=hc (lh.1*z+j) (by omega)
    exact⟨f,v,by rw[hfg,hz];exact f1,by rw[Nat.add_assoc];exact f2,f3⟩
 ·cases h4
omit [ax] in
theorem aJo (vs:List Value):∀(off k:Nat) (cs:Array Value),off+k+vs.length<=cs.size->
  ((vs.zipIdx k).foldl (λ(cs:Array Value) (x:Value×Nat)=>cs.setIfInBounds (off+x.2) x.1) cs).size=cs.size∧
  ∀i d,((vs.zipIdx k).foldl (λ(cs:Array Value) (x:Value×Nat)=>cs.setIfInBounds (off+x.2) x.1) cs).getD i d=if off+k<=i∧i<off+k+vs.length then vs.getD (i-(off+k)) d else cs.getD i d:=by
 induction vs with
 |nil=>intro off k cs _;refine⟨rfl,λi d=> ?_⟩;rw[if_neg (by simp)];rfl
 |cons v vs ih=>
  intro off k cs h
  simp only[List.length_cons] at h
  rw[List.zipIdx_cons,List.foldl_cons]
  obtain⟨h1,h2⟩:=ih off (k+1) (cs.setIfInBounds (off+k) v) (by simp;omega)
  refine⟨by simpa using h1,λi d=> ?_⟩
  rw[h2]
  simp only[List.length_cons]
  by_cases c1:off+(k+1)<=i∧i<off+(k+1)+vs.length
  ·rw[if_pos c1,if_pos (by omega),show i-(off+k)=(i-(off+(k+1)))+1 by omega]
   simp[List.getD]
  ·rw[if_neg c1]
   by_cases c2:i=off+k
   ·subst c2
    rw[if_pos (by omega)]
    simp[Array.getD,show off+k<cs.size by omega]
   ·rw[if_neg (by omega)]
    simp[Array.getD_eq_getD_getElem?,Array.getElem?_setIfInBounds_ne (Ne.symm c2)]
theorem aTk {π:Pi}{cs P3 vs:af}{arr:Array Value}{xs:Array Value}{off:Nat}(h1:bj (CV.rel π) cs.list arr.toList)(h2:bj (CV.rel π) vs.list xs.toList)(hle:off+af.size vs<=af.size cs)(hu:aij cs off vs=some P3):
  bj (CV.rel π) P3.list (xs.zipIdx.foldl (λ(cs:Array Value) (x:Value×Nat)=>cs.setIfInBounds (off+x.2) x.1) arr).toList:=by
 obtain⟨l1,g1⟩:=hM h1
 obtain⟨l2,g2⟩:=hM h2
 obtain⟨u1,u2⟩:=Md hu
 simp only[Array.length_toList] at l1 l2
 have key:=aJo xs.toList off 0 arr (by simp only[Array.length_toList];omega)
 have e:(xs.zipIdx.foldl (λ(cs:Array Value) (x:Value×Nat)=>cs.setIfInBounds (off+x.2) x.1) arr)=((xs.toList.zipIdx 0).foldl (λ(cs:Array Value) (x:Value×Nat)=>cs.setIfInBounds (off+x.2) x.1) arr):=by
  rw[<-Array.foldl_toList];simp
 rw[e]
 refine vC (by rw[Array.length_toList,key.1,u1,l1]) λj hj=> ?_
 rw[u1] at hj
 have vS:j<((xs.toList.zipIdx 0).foldl (λ(cs:Array Value) (x:Value×Nat)=>cs.setIfInBounds (off+x.2) x.1) arr).size:=by rw[key.1,l1];exact hj
 have hk:=key.2 j undef
 rw[Array.getD_eq_getD_getElem?,Array.getElem?_eq_getElem vS,Option.getD_some] at hk
 refine⟨_,by rw[Array.getElem?_toList,Array.getElem?_eq_getElem vS],?_⟩
 rw[hk,u2 j hj]
 simp only[Nat.add_zero,Array.length_toList,l2]
 by_cases c:off<=j∧j<off+af.size vs
 ·rw[if_pos c,if_pos c]
  obtain⟨x,hx,hr⟩:=g2 (j-off) (by omega)
  simp only[List.getD,hx,Option.getD_some]
  exact hr
 ·rw[if_neg c,if_neg c]
  obtain⟨x,hx,hr⟩:=g1 j hj
  rw[Array.getElem?_toList] at hx
  simp only[Array.getD_eq_getD_getElem?,hx,Option.getD_some]
  exact hr
theorem adz {π:Pi}{pl:Nat->Option (Nat×Nat)}:∀{l:List (Nat×RV)} {l':List (Nat×Value)} {cs P3:af} {arr:Array Value},bj (λ(p:Nat×RV) (q:Nat×Value)=>p.1=q.1∧p.2.rel π q.2) l l'->aim pl cs l=some P3->bj (CV.rel π) cs.list arr.toList->
  ∃aOE,Instr.fill pl arr l'=some aOE∧bj (CV.rel π) P3.list aOE.toList∧af.size P3=af.size cs
 | [],[],cs,P3,arr,_,h,ha=>by simp[aim] at h;subst h;exact⟨arr,rfl,ha,rfl⟩
 |(i,v)::l,(i',x)::l',cs,P3,arr,⟨⟨hi,hv⟩,hl⟩,h,ha=>by
  have hi:i=i':=hi
  subst hi
  simp only[aim] at h
  split at h
  ·cases h
  ·rename_i q n hpl
   split at h
   ·rename_i hc
    simp only[Bool.and_eq_true,beq_iff,eF] at hc
    obtain⟨c1,c2⟩:=hc
    split at h
    ·rename_i cs1 hu
     have hcx:bj (CV.rel π) v.bI.list x.cells.toList:=RV.Me hv
     have l1:=(hM hcx).1
     have l2:=(hM ha).1
     simp only[Array.length_toList] at l1 l2
     obtain⟨aOE,h1,h2,h3⟩:=adz (pl:=pl) hl h (aTk ha hcx (by omega) hu)
     refine⟨aOE,?_,h2,h3.trans (Md hu).1⟩
     simp only[Instr.fill,hpl]
     rw[if_neg (by simp;omega)]
     exact h1
    ·cases h
   ·cases h
 | [],_::_,_,_,_,h,_,_=>h.elim
 |_::_,[],_,_,_,h,_,_=>h.elim
theorem aBo {ps:Array (Nat×Operand)}{l:List (Nat×RV)}{fp:List Fp}{π:Pi}{a:Act}{w:World}(h:aH (Ab.rz (λp:Nat×Operand=>(tO p.2).bind λv=>.ret (p.1,v)) ps.toList) g l fp)(R:Rel X D π g a w):
  bj (λ(p:Nat×RV) (q:Nat×Value)=>p.1=q.1∧p.2.rel π q.2) l (ps.map λ(i,x)=>(i,a.eval x)).toList:=by
 have:=aH.rz (ρ:=λ(p:Nat×RV) (x:Nat×Operand)=>p.1=x.1∧p.2.rel π (a.eval x.2)) (λx v l hx=>by
  obtain⟨r,⟨_,h1⟩,_,h2⟩:=aH.bind' hx
  cases h2
  exact⟨rfl,h1.tO R⟩) h
 rw[Array.toList_map]
 exact al5 this
theorem aJp {t:TypeId}{ps:Array (Nat×Operand)}{fp:List Fp}(ho:o.op=.build t ps)
  (h:aH ((Ab.dt (yj P t)).bind λz=>(Ab.rz (λp=>(tO p.2).bind λv=>.ret (p.1,v)) ps.toList).bind λl=>(Ab.dt (placesOf P t)).bind λpl=>(Ab.dt (aim pl z.bI l)).bind λcs=>.ret (dk o.dst (.r (.agg cs)))) g us fp):xN P o X D aJ us g:=by
 obtain⟨z,⟨_,h1⟩,_,h⟩:=aH.bind' h
 obtain⟨l,⟨_,h2⟩,_,h⟩:=aH.bind' h
 obtain⟨pl,⟨_,h3⟩,_,h⟩:=aH.bind' h
 obtain⟨cs,⟨_,h4⟩,_,h⟩:=aH.bind' h
 cases h
 refine gF λπ a w R=> ?_
 have h3:=h3.dt
 have h4:=h4.dt
 have hp:=aBo h2 R
 obtain⟨zx,_,⟨it,hi,hz⟩,aYg⟩:=abd h1.dt w
 have hzr:=RV.Me (aYg π)
 have hb:∃arr,P.built t (ps.map λ(i,x)=>(i,a.eval x)).toList=some arr∧bj (CV.rel π) cs.list arr.toList:=by
  unfold placesOf at h3
  split at h3
  ·rename_i fs hu
   cases hq:fs.toList.mapM (λf=>(P.info? f.type).map λi=>(f.offset,i.size)) with
   |none=>rw[hq] at h3;cases h3
   |some aZG=>
    rw[hq] at h3
    cases h3
    obtain⟨arr,e1,e2,_⟩:=adz hp h4 hzr
    refine⟨arr,?_,e2⟩
    simp only[Program.built,hi,hu,hz,hq]
    rw[<-e1];congr 1;funext i;simp
  ·rename_i n e hu
   cases hq:gK P e with
   |none=>rw[hq] at h3;cases h3
   |some n=>
    rw[hq] at h3
    cases h3
    obtain⟨ie,hie,rfl⟩:=ani hq
    obtain⟨arr,e1,e2,_⟩:=adz hp h4 hzr
    exact⟨arr,by simp only[Program.built,hi,hu,hz,hie];exact e1,e2⟩
  ·cases h3
 obtain⟨arr,e1,e2⟩:=hb
 exact⟨.agg arr,by simp[execOp,ho,run_build w t _ arr e1],arr,rfl,e2⟩
omit [ax] in
theorem auV (n:Nat)(l:af):af.size (rep n l)=n*af.size l:=by
 induction n with
 |zero=>rw[rep,af.jT,Nat.zero_mul]
 |succ n ih=>rw[rep,af.size_append,ih,Nat.succ_mul];omega
omit [ax] in
theorem aTl (n:Nat)(l:af)(i:Nat)(h:i<n*af.size l):af.get (rep n l) i=af.get l (i%af.size l):=by
 induction n generalizing i with
 |zero=>omega
 |succ n ih=>
  rw[rep,af.get_append]
  by_cases hi:i<af.size l
  ·rw[if_pos hi,Nat.mod_eq_of_lt hi]
  ·rw[if_neg hi,ih _ (by rw[Nat.succ_mul] at h;omega)]
   congr 1
   exact(Nat.mod_eq_sub_mod (by omega)).symm
theorem Rel.row {π:Pi}{a:Act}{w:World}{g:Gt}(R:Rel X D π g a w){k:af}{n:Sz}{q cap:Nat}{arr:Array Value}{t:TypeId}{dst:Option Tmp}(hd:∀d,dst=some d->d<X.N)(h0:π aJ=none)(hk:X.k<=aJ)(hn:n.val<=cap)(hc:cap*q<=arr.size)(hs:k.size=n.val*q)
  (h2:∀j,j<k.size->∃v,arr[j]? =some v∧(k.get j).rel π v):
  Rel X D (xT π aJ (w.heap.size,0,k.size,cap*q)) (ck (dk dst (.r (.c (.sl aJ (.k 0) n q true)))) ((Up.new aJ k).fU g)) (a.put dst (.slice (some ⟨w.heap.size,0,none⟩) n.val cap)) (w.alloc (.cells arr t)):=by
 have hq:=Nat.mul_le_mul_right q hn
 refine(R.alloc (k:=k) (cs:=arr) (t:=t) (e:=cap*q) h0 hk (by omega) hc h2).dst hd ?_
 exact⟨_,_,_,_,nZ _ _ _,by simp only[cg.val];omega,λ_=>by simp only[cg.val];omega,.inr ⟨cap,hn,rfl,λ_=>by simp only[cg.val];omega⟩⟩
omit [ax] in
theorem TE {π:Pi}{b:Nat}{p:Nat×Nat×Nat×Nat}{aJ c:Nat}(hb:aJ<=b∧b<aJ+c):∀b',xT π b p b'≠none->π b'≠none∨(aJ<=b'∧b'<aJ+c):=by
 intro b' h
 simp only[xT] at h
 by_cases e:b'=b
 ·subst e;exact .inr hb
 ·simp only[e,if_false] at h;exact .inl h
omit [ax] in
theorem JG (dst:Option Tmp)(v:AV)(us:List Up)(g:Gt)(hus:∀u∈us,∀i x,u≠.t i x):ck (dk dst v++us) g=ck (dk dst v) (ck us g):=by
 rw[NN]
 cases dst with
 |none=>rfl
 |some d=>
  show ck us ((Up.t d v).fU g)=(Up.t d v).fU (ck us g)
  induction us generalizing g with
  |nil=>rfl
  |cons u us ih=>
   have hu:=hus u (by simp)
   show ck us (u.fU ((Up.t d v).fU g))=(Up.t d v).fU (ck us (u.fU g))
   rw[<-ih _ λx hx=>hus x (by simp[hx])]
   cases u with
   |t i x=>exact absurd rfl (hu i x)
   |_=>rfl
theorem auW {t:TypeId}{n:Nat}{ps:Array (Nat×Operand)}{fp:List Fp}(ho:o.op=.buildSlice t n ps)
  (h:aH (match P.underlying t with
  |some (.slice e)=>(Ab.dt (yj P e)).bind λz=>(Ab.dt (gK P e)).bind λq=>
   (Ab.cv (Nat.ble 1 q&&Nat.ble (n*q) 16777216)).bind λ_=>
   (Ab.rz (λp=>(tO p.2).bind λv=>.ret (p.1,v)) ps.toList).bind λl=>
   (Ab.cv (Nat.beq (af.size z.bI) q)).bind λ_=>(Ab.dt (aim (λi=>some (i*q,q)) (rep n z.bI) l)).bind λcs=>.ret (dk o.dst (.r (.c (.sl aJ (.k 0) (.l n) q true)))++[.new aJ (al4 P e n q cs)])
  |_=>.fail) g us fp):xN P o X D aJ us g:=by
 split at h
 ·rename_i e hu
  obtain⟨z,⟨_,h1⟩,_,h⟩:=aH.bind' h
  obtain⟨q,⟨_,h2⟩,_,h⟩:=aH.bind' h
  obtain⟨_,⟨_,h3⟩,_,h⟩:=aH.bind' h
  obtain⟨l,⟨_,h4⟩,_,h⟩:=aH.bind' h
  obtain⟨_,⟨_,h5⟩,_,h⟩:=aH.bind' h
  obtain⟨cs,⟨_,h6⟩,_,h⟩:=aH.bind' h
  cases h
  have h3:=h3.cv
  simp only[Bool.and_eq_true,eF] at h3
  have h5:af.size z.bI=q:=beq_iff.1 h5.cv
  intro π a w next Q R hk hf hd hD hn
  obtain⟨zx,hz1,_,hz2⟩:=abd h1.dt w
  obtain⟨zl,zg⟩:=hM (RV.Me (hz2 π))
  rw[Array.length_toList] at zl
  have hp:=aBo h4 R
  have aix:bj (CV.rel π) (af.list (rep n z.bI)) ((Array.range (n*q)).map (zx.cells[·%zx.cells.size]!)).toList:=by
   refine vC (by simp[auV,h5]) λj hj=> ?_
   rw[auV,h5] at hj
   rw[aTl _ _ _ (by rw[h5];exact hj),h5]
   obtain⟨y,hy,hr⟩:=zg (j%q) (by rw[h5];exact Nat.mod_lt _ (by omega))
   refine⟨y,?_,hr⟩
   have e3:zx.cells.size=q:=zl.trans h5
   have e4:zx.cells[j%q]? =some y:=by simpa using hy
   simp[hj,e3,getElem!_def,e4]
  obtain⟨arr,e1,e2,e3⟩:=adz hp h6.dt aix
  have e1:Instr.fill (λi=>some (i*q,q)) ((Array.range (n*q)).map (zx.cells[·%zx.cells.size]!)) (ps.toList.map λx=>(x.1,a.eval x.2))=some arr:=by rw[Array.toList_map] at e1;exact e1
  obtain⟨cl1,cl2⟩:=hM e2
  rw[Array.length_toList] at cl1
  rw[auV,h5] at e3
  have hbr:af.size (al4 P e n q cs)=af.size cs∧∀j,j<af.size cs->af.get (al4 P e n q cs) j=af.get cs j:=by
   unfold al4
   split
   ·exact⟨rfl,λ_ _=>rfl⟩
   ·exact Xw q cs
  generalize al4 P e n q cs=kk at hbr hf hn
  obtain⟨br1,br2⟩:=hbr
  have hcn:ch (dk o.dst (.r (.c (.sl aJ (.k 0) (.l n) q true)))++[Up.new aJ kk])=1:=by unfold dk ch;cases o.dst<;>rfl
  have h0:=hf aJ (Nat.le_refl _) (by omega)
  have R1:=R.row (k:=kk) (n:=.l n) (q:=q) (cap:=n) (arr:=arr) (t:=e) hd h0 hk (Nat.le_refl _) (by omega) (br1.trans e3) (λj hj=>by
   rw[br1] at hj
   obtain⟨y,hy,hr⟩:=cl2 j hj
   rw[br2 j hj]
   exact⟨y,by simpa using hy,hr⟩)
  refine NM (x:=.slice (some ⟨w.heap.size,0,none⟩) n n) (w':=w.alloc (.cells arr e)) ?_ (hn _ _ (xT π aJ (w.heap.size,0,af.size kk,n*q)) (yp h0 _) (TE ⟨Nat.le_refl _,by omega⟩) ?_)
  ·have h24:¬(16777216<n*q):=by omega
   simp only[execOp,ho,Instr.buildSlice,Sem.run_bind,run_underlying hu,Result.andThen_ok,run_sizeOf h2.dt]
   by_cases hnq:n*q=0
   ·have hn0:n=0:=by
     rcases Nat.mul_eq_zero.1 hnq with h|h
     ·exact h
     ·omega
    subst hn0
    simp only[Nat.zero_mul] at e1 ⊢
    have aYh:(Array.range 0).map (zx.cells[·%zx.cells.size]!)=#[]:=Array.eq_empty_of_size_eq_zero (by simp)
    have hr0:Array.range 0=#[]:=Array.eq_empty_of_size_eq_zero (by simp)
    rw[aYh] at e1
    simp[e1,hr0,JF]
   ·simp[h24,hnq,hz1,e1,JF]
  ·rw[JG _ _ _ _ (by simp)];exact R1
 ·cases h
theorem ayZ {t:TypeId}{n c:Operand}{fp:List Fp}(ho:o.op=.makeSlice t n c)
  (h:aH (match P.underlying t with
  |some (.slice e)=>(Ab.dt (yj P e)).bind λz=>(Ab.dt (gK P e)).bind λq=>(IE n).bind λn=>(IE c).bind λc=>
   (Ab.cv (decide (n.2=0)&&decide (c.2=0))).bind λ_=>(Ab.dt (Cy q z.bI)).bind λcols=>
   .ret (dk o.dst (.r (.c (.sl aJ (.k 0) (.s 0) q true)))++[.new aJ [.a (.s 0) cols]])
  |_=>.fail) g us fp):xN P o X D aJ us g:=by
 split at h
 ·rename_i e hu
  obtain⟨z,⟨_,h1⟩,_,h⟩:=aH.bind' h
  obtain⟨q,⟨_,h2⟩,_,h⟩:=aH.bind' h
  obtain⟨nn,⟨_,h3⟩,_,h⟩:=aH.bind' h
  obtain⟨cc,⟨_,h4⟩,_,h⟩:=aH.bind' h
  obtain⟨_,⟨_,h5⟩,_,h⟩:=aH.bind' h
  obtain⟨cols,⟨_,h6⟩,_,h⟩:=aH.bind' h
  cases h
  have h5:=h5.cv
  simp only[Bool.and_eq_true,decide_eq_true_eq] at h5
  intro π a w next Q R hk hf hd hD hn
  have hv1:=h3.IE R
  have hv2:=h4.IE R
  rw[h5.1] at hv1
  rw[h5.2] at hv2
  have hcn:ch (dk o.dst (.r (.c (.sl aJ (.k 0) (.s 0) q true)))++[Up.new aJ [.a (.s 0) cols]])=1:=by unfold dk ch;cases o.dst<;>rfl
  have h0:=hf aJ (Nat.le_refl _) (by omega)
  have hs0:af.size [.a (.s 0) cols]=0:=by simp[af.size,Sg.size,Sz.val]
  have R1:=R.row (k:=[.a (.s 0) cols]) (n:=.s 0) (q:=q) (cap:=0) (arr:=#[]) (t:=e) hd h0 hk (Nat.le_refl _) (by simp) (by rw[hs0];simp[Sz.val]) (λj hj=>by rw[hs0] at hj;omega)
  obtain⟨i,hi,hby⟩:∃i,P.info? e=some i∧True:=by
   have:=h2.dt
   unfold gK at this
   cases hh:P.info? e with
   |none=>rw[hh] at this;cases this
   |some i=>exact⟨i,rfl,trivial⟩
  refine NM (x:=.slice (some ⟨w.heap.size,0,none⟩) 0 0) (w':=w.alloc (.cells #[] e)) ?_ (hn _ _ (xT π aJ (w.heap.size,0,af.size [.a (.s 0) cols],0*q)) (yp h0 _) (TE ⟨Nat.le_refl _,by omega⟩) ?_)
  ·have hw0:IntKind.i64.wrap 0=0:=by decide
   simp[execOp,ho,Instr.makeSlice,run_underlying hu,hv1,hv2,asInt,asIntOf,typeInfo,hi,hw0,run_sizeOf h2.dt,askRoom,JF]
   rw[show Array.range 0=#[] from Array.eq_empty_of_size_eq_zero (by simp),Array.map_empty]
  ·rw[JG _ _ _ _ (by simp)];exact R1
 ·cases h
end
end Go.Ab
namespace Go.Ab
variable [ax]
section
variable {P:Program} {o:Oper} {X:Cx} {D:Nat->Prop} {aJ:Nat} {us:List Up} {g:Gt}
theorem IH {c:Call}{args:List AV}{l:List Fp}{π:Pi}{a:Act}{w:World}(h:aH (Ab.rz Ab.Cc c.args.toList) g args l)(R:Rel X D π g a w):bj (AV.rel π) args (c.args.map a.eval).toList:=by
 rw[Array.toList_map]
 exact al5 (aH.rz (ρ:=λv x=>v.rel π (a.eval x)) (λx v l hx=>aH.Cc hx R) h)
omit [ax] in
theorem aTm {x:Array Value}{y:Value}(h:x.toList=[y]):x=#[y]:=by rw[<-Array.toList_inj];exact h
omit [ax] in
theorem aTn {x:Array Value}{y z:Value}(h:x.toList=[y,z]):x=#[y,z]:=by rw[<-Array.toList_inj];exact h
omit [ax] in
theorem aYi {x:Array TypeId}{y z:TypeId}(h:x.toList=[y,z]):x=#[y,z]:=by rw[<-Array.toList_inj];exact h
omit [ax] in
theorem auX {R:AV->Value->Prop}{x:AV}{l:List Value}(h:bj R [x] l):∃y,l=[y]∧R x y:=by
 match l,h with
 | [y],⟨h,_⟩=>exact⟨y,rfl,h⟩
 | [],h=>exact h.elim
 |_::_::_,⟨_,h⟩=>exact h.elim
omit [ax] in
theorem auY {R:AV->Value->Prop}{x x':AV}{l:List Value}(h:bj R [x,x'] l):∃y y',l=[y,y']∧R x y∧R x' y':=by
 match l,h with
 | [y,y'],⟨h,h',_⟩=>exact⟨y,y',rfl,h,h'⟩
 | [],h=>exact h.elim
 | [_],⟨_,h⟩=>exact h.elim
 |_::_::_::_,⟨_,_,h⟩=>exact h.elim
omit [ax] in
theorem adA {c:Call}{bi:Builtin}(a:Act)(w:World)(ho:o.op=.call c)(hc:c.callee=.builtin bi):∃cs,(execOp a.eval o).run P w=(builtin bi c.argTypes o.type cs (c.args.map a.eval)).run P w:=
 ⟨_,by simp[execOp,ho,resolve,hc,invoke];rfl⟩
theorem aFb {π:Pi}:∀{vs:List FV} {xs:List AV} {ys:List Value},bj (λ(v:FV) (x:AV)=>x=.r (.c (.f v))) vs xs->bj (AV.rel π) xs ys->bj FV.rel vs ys
 | [],[],[],_,_=>trivial
 |v::vs,x::xs,y::ys,⟨e,h⟩,⟨a,b⟩=>by subst e;exact⟨a,aFb h b⟩
 | [],_::_,_,h,_=>h.elim
 |_::_,[],_,h,_=>h.elim
 | [],[],_::_,_,h=>h.elim
 |_::_,_::_,[],_,h=>h.elim
theorem aPz {c:CV}{n:Nat}{l:List Fp}(h:aH (match c with|.f _=>Rd.fail|c=>aOv c) g n l){π:Pi}{x:Value}(hx:c.rel π x):∃a cap,x=.slice a n cap:=by
 cases c<;>simp only[aOv] at h
 case sl b o m z own=>
  cases h
  obtain⟨B,s,q,e,_,_,_,⟨h0,a,rfl⟩| ⟨cap,_,rfl,_⟩⟩:=hx
  ·exact⟨_,_,by rw[h0]⟩
  ·exact⟨_,_,rfl⟩
 case nils=>cases h;exact⟨_,_,hx⟩
 case fs n z cols=>
  cases h
  obtain⟨_,⟨h0,a,rfl⟩| ⟨B,s,cap,_,rfl,_⟩⟩:=hx
  ·exact⟨_,_,by rw[h0]⟩
  ·exact⟨_,_,rfl⟩
 all_goals cases h
theorem aPA {c:Call}{args:List AV}{x:AV}{fp l0:List Fp}(ho:o.op=.call c)(hc:c.callee=.builtin .len)(ha:aH (Ab.rz Ab.Cc c.args.toList) g args l0)(jR:args=[x])
  (h:aH ((Ab.dt ((c.argTypes[0]?).bind P.underlying)).bind λ
  |.array n _=>.ret (dk o.dst (.r (.c (.f (.i .i64 (n:Int))))))
  |.slice _=>(Ab.asC x).bind λc=>(match c with|.f _=>Rd.fail|c=>aOv c).bind λn=>.ret (dk o.dst (.r (.c (.f (.i .i64 (n:Int))))))
  |.string=>(Ab.asC x).bind λc=>(match c with|.f (.s x)=>Rd.ret x.size|_=>Rd.fail).bind λn=>.ret (dk o.dst (.r (.c (.f (.i .i64 (n:Int))))))
  |_=>.fail) g us fp):xN P o X D aJ us g:=by
 subst jR
 obtain⟨d,⟨_,h1⟩,_,h⟩:=aH.bind' h
 have h1:=h1.dt
 obtain⟨t,ht,hu⟩:∃t,c.argTypes[0]? =some t∧P.underlying t=some d:=by
  cases ht:c.argTypes[0]? with
  |none=>rw[ht] at h1;cases h1
  |some t=>rw[ht] at h1;exact⟨t,rfl,h1⟩
 split at h
 ·rename_i n _ _
  cases h
  refine gF λπ a w R=> ?_
  obtain⟨y,hy,hr⟩:=auX (IH ha R)
  have hy:=aTm hy
  exact⟨goInt n,by obtain⟨cs,e⟩:=adA (P:=P) a w ho hc;rw[e,hy];simp[builtin,Builtin.len_,ht,run_underlying hu],rfl⟩
 ·obtain⟨c1,⟨_,h2⟩,_,h⟩:=aH.bind' h
  obtain⟨n,⟨_,h3⟩,_,h⟩:=aH.bind' h
  cases h
  refine gF λπ a w R=> ?_
  obtain⟨y,hy,hr⟩:=auX (IH ha R)
  have hy:=aTm hy
  rw[h2.asC] at hr
  obtain⟨ad,cap,rfl⟩:=aPz h3 hr
  exact⟨goInt n,by obtain⟨cs,e⟩:=adA (P:=P) a w ho hc;rw[e,hy];simp[builtin,Builtin.len_,ht,run_underlying hu],rfl⟩
 ·obtain⟨c1,⟨_,h2⟩,_,h⟩:=aH.bind' h
  obtain⟨n,⟨_,h3⟩,_,h⟩:=aH.bind' h
  cases h
  refine gF λπ a w R=> ?_
  obtain⟨y,hy,hr⟩:=auX (IH ha R)
  have hy:=aTm hy
  rw[h2.asC] at hr
  split at h3
  ·cases h3
   have hr:y=_:=hr
   subst hr
   exact⟨_,by obtain⟨cs,e⟩:=adA (P:=P) a w ho hc;rw[e,hy];simp[builtin,Builtin.len_,ht,run_underlying hu];rfl,rfl⟩
  ·cases h3
 ·cases h
omit [ax] in
theorem aJq {x:AV}{v:FV}{l:List Fp}(h:aH (Ab.asF x) g v l):x=.r (.c (.f v)):=by
 unfold Ab.asF at h;split at h
 ·cases h;rfl
 ·cases h
theorem aFc {f:FV->FV->Rd FV}{m:Value->Value->Sem Value}(hf:∀x y v l,aH (f x y) g v l->∀a b,x.rel a->y.rel b->∀w,∃z,(m a b).run P w=.ok z w∧v.rel z):∀{xs:List FV} {ys:List Value} {x v:FV} {y:Value} {l:List Fp},aH (arl f x xs) g v l->x.rel y->bj FV.rel xs ys->∀w,∃z,(ys.foldlM m y).run P w=.ok z w∧v.rel z
 | [],[],x,v,y,l,h,hx,_,w=>by cases h;exact⟨y,by simp,hx⟩
 |a::xs,b::ys,x,v,y,l,h,hx,⟨ha,hs⟩,w=>by
  obtain⟨r,⟨_,h1⟩,_,h⟩:=aH.bind' h
  obtain⟨z,hz,hr⟩:=hf x a r _ h1 y b hx ha w
  obtain⟨z',rM,hr'⟩:=aFc hf h hr hs w
  exact⟨z',by simp[List.foldlM_cons,hz,rM],hr'⟩
 | [],_::_,_,_,_,_,_,_,h,_=>h.elim
 |_::_,[],_,_,_,_,_,_,h,_=>h.elim
theorem aJr {bi:Builtin}{f:FV->FV->Rd FV}{m:Value->Value->Sem Value}(hf:∀x y v l,aH (f x y) g v l->∀a b,x.rel a->y.rel b->∀w,∃z,(m a b).run P w=.ok z w∧v.rel z)
  {c:Call}{args:List AV}{x:AV}{xs:List AV}{fp l0:List Fp}(ho:o.op=.call c)(hc:c.callee=.builtin bi)(hb:∀t cs y ys w,(builtin bi c.argTypes t cs (y::ys).toArray).run P w=((ys.foldlM m y).run P w).andThen λv w=>.ok (.value v) w)
  (ha:aH (Ab.rz Ab.Cc c.args.toList) g args l0)(jR:args=x::xs)
  (h:aH ((Ab.asF x).bind λx=>(Ab.rz Ab.asF xs).bind λl=>(arl f x l).bind λv=>.ret (dk o.dst (.r (.c (.f v))))) g us fp):xN P o X D aJ us g:=by
 subst jR
 obtain⟨v0,⟨_,h1⟩,_,h⟩:=aH.bind' h
 obtain⟨vs,⟨_,h2⟩,_,h⟩:=aH.bind' h
 obtain⟨v,⟨_,h3⟩,_,h⟩:=aH.bind' h
 cases h
 refine gF λπ a w R=> ?_
 have hr:=IH ha R
 have h1:=aJq h1
 subst h1
 have h2:=aH.rz (ρ:=λv x=>x=.r (.c (.f v))) (λx v l hx=>aJq hx) h2
 obtain⟨y,ys,hy,hry,hrs⟩:∃y ys,(c.args.map a.eval).toList=y::ys∧v0.rel y∧bj (AV.rel π) xs ys:=by
  revert hr
  generalize (c.args.map a.eval).toList=L
  intro hr
  cases L with
  |nil=>exact hr.elim
  |cons y ys=>exact⟨y,ys,rfl,hr.1,hr.2⟩
 have hvs:bj FV.rel vs ys:=aFb h2 hrs
 obtain⟨z,hz,hzr⟩:=aFc hf h3 hry hvs w
 have hy':c.args.map a.eval=(y::ys).toArray:=by rw[<-Array.toList_inj];exact hy
 exact⟨z,by obtain⟨cs,e⟩:=adA (P:=P) a w ho hc;rw[e,hy',hb,hz];rfl,hzr⟩
theorem aPB {x y v:FV}{l:List Fp}(h:aH (aS7 x y) g v l)(a b:Value)(ha:x.rel a)(hb:y.rel b)(w:World):∃z,(Builtin.min2 a b).run P w=.ok z w∧v.rel z:=by
 unfold aS7 at h
 split at h
 ·rename_i k m k' n
  have ha:a=_:=ha
  have hb:b=_:=hb
  subst ha hb
  split at h
  ·cases h;exact⟨_,by simp[Builtin.min2],rfl⟩
  ·cases h
 ·cases h
theorem aPC {x y v:FV}{l:List Fp}(h:aH (aS8 x y) g v l)(a b:Value)(ha:x.rel a)(hb:y.rel b)(w:World):∃z,(Builtin.max2 a b).run P w=.ok z w∧v.rel z:=by
 unfold aS8 at h
 split at h
 ·rename_i k m k' n
  have ha:a=_:=ha
  have hb:b=_:=hb
  subst ha hb
  split at h
  ·cases h;exact⟨_,by simp[Builtin.max2],rfl⟩
  ·cases h
 ·cases h
omit [ax] in
theorem aU5 (ts:Array TypeId)(t:TypeId)(cs:Array Bool)(y:Value)(ys:List Value)(w:World):(builtin .min ts t cs (y::ys).toArray).run P w=((ys.foldlM Builtin.min2 y).run P w).andThen λv w=>.ok (.value v) w:=by
 simp[builtin,Builtin.min_]
omit [ax] in
theorem aU6 (ts:Array TypeId)(t:TypeId)(cs:Array Bool)(y:Value)(ys:List Value)(w:World):(builtin .max ts t cs (y::ys).toArray).run P w=((ys.foldlM Builtin.max2 y).run P w).andThen λv w=>.ok (.value v) w:=by
 simp[builtin,Builtin.max_]
end
end Go.Ab
namespace Go.Ab
variable [ax]
section
variable {P:Program} {o:Oper} {X:Cx} {D:Nat->Prop} {aJ:Nat} {us:List Up} {g:Gt}
theorem Rel.aTo {π:Pi}{a:Act}{w:World}(R:Rel X D π g a w){b n B s e lo:Nat}{xs:List Value}(hz:g.z b=some n)(hb:π b=some (B,s,n,e))(h0:n<=lo)(hn:s+lo+xs.length<=e)
  (hD:b<X.k->D b):Rel X D π g a (w.setCells B (s+lo) xs):=by
 obtain⟨B',s',e',eC,hle,h1,h2⟩:=R.hp.hp b n hz
 rw[hb] at eC;cases eC
 have hin:∀j,j<xs.length->(cl w B (s+lo+j)).isSome=true:=λj hj=>(h1 _ (by omega) (by omega)).1
 refine⟨R.tm,R.nt,R.df,⟨R.hp.am.setCells λhl=>R.hp.lb b B s n e (by rw[hz];simp) hb (by omega),R.hp.lb,λb' n' rM=> ?_,R.hp.dj⟩,R.vd,R.ft,R.fr.setCells ?_⟩
 ·obtain⟨B2,s2,e2,Da,abc,k1,k2⟩:=R.hp.hp b' n' rM
  refine⟨B2,s2,e2,Da,abc,λi hi he=>⟨isSome_setCells hin (k1 i hi he).1,by rw[nA];exact(k1 i hi he).2⟩,λj hj=> ?_⟩
  rw[dF]
  ·exact k2 j hj
  ·intro e3;subst e3
   by_cases eb:b'=b
   ·subst eb
    rw[hb] at Da;cases Da
    omega
   ·by_cases hc:s+lo<=s2+j∧s2+j<s+lo+xs.length
    ·exact(R.hp.dj b' b B2 s2 _ e2 s _ e eb (by simp[rM]) (by simp[hz]) Da hb (s2+j) (by omega) (by omega) (by omega) (by omega)).elim
    ·omega
 ·rcases Nat.lt_or_ge B X.w0.heap.size with hB|hB
  ·right
   intro j hj
   rcases Nat.lt_or_ge b X.k with hk|hk
   ·exact⟨b,s,n,e,hk,hD hk,(R.vd b hk).symm.trans hb,by omega,by omega⟩
   ·exact R.ft b B s n e hk (by simp[hz]) hb hB _ (by omega) (by omega)
  ·exact .inl hB
theorem aJs {z:Nat}{x:CV}{xb:Sz×af}{l:List Fp}(h:aH (slB z x) g xb l){π:Pi}{a:Act}{w:World}(R:Rel X D π g a w){xv:Value}(hx:x.rel π xv):
  ∃news:List Value,news.length=xb.1.val*z∧xb.2.size=xb.1.val*z∧(∀j,j<xb.1.val*z->∃v,news[j]? =some v∧(xb.2.get j).rel π v)∧(∀v∈news,v.oneCell'=true)∧
   ((xb.1.val=0∧∃y c,xv=.slice y 0 c)∨∃ad c,xv=.slice (some ad) xb.1.val c∧∀j v,news[j]? =some v->w.cell? (ad.add j)=some v):=by
 cases x<;>simp only[slB] at h
 case sl b q n z' own=>
  obtain⟨_,⟨_,h1⟩,_,h2⟩:=aH.bind' h
  clear h
  have rM:z=z':=Nat.eq_of_beq_eq_true h1.cv
  subst rM
  cases h2 with|vw r v hz hs hv h3=>
  cases h3
  obtain⟨B2,s2,q2,e2,Da,hm,_,⟨h0,y,rfl⟩| ⟨cap,pz,rfl,_⟩⟩:=hx
  ·exact⟨[],by simp[h0],hs,λj hj=>by simp only[h0,Nat.zero_mul] at hj;omega,by simp,.inl ⟨h0,y,0,rfl⟩⟩
  ·obtain⟨_,xs,hl,hxs,hc⟩:=R.view hz hs hv Da hm
   have aJt:∀v∈xs,v.oneCell'=true:=λv hv=>by
    obtain⟨i,hi⟩:=List.mem_iff_getElem?.1 hv
    obtain⟨c,_,hr⟩:=hxs.get' hi
    exact CV.OC hr
   refine⟨xs,hl,hs,λj hj=>(hM hxs).2 j (by rw[hs];exact hj),aJt,.inr ⟨_,cap,rfl,λj v hj=>by rw[lI];exact hc j v hj⟩⟩
 case nils=>
  cases h
  have hx:xv=.slice none 0 0:=hx
  exact⟨[],by simp[Sz.val],by simp[af.size,Sz.val],λj hj=>by simp[Sz.val] at hj,by simp,.inl ⟨rfl,none,0,hx⟩⟩
 case fs n z' cols=>
  obtain⟨_,⟨_,h1⟩,_,h2⟩:=aH.bind' h
  clear h
  have rM:z=z':=Nat.eq_of_beq_eq_true h1.cv
  subst rM
  cases h2
  obtain⟨hz,hx⟩:=hx
  have hs:af.size [.a (.s n) cols]=n*z:=by rw[af.size_cons,af.jT,Sg.jV,hz];rfl
  rcases hx with⟨h0,y,rfl⟩| ⟨B,s,cap,pz,rfl,hc⟩
  ·exact⟨[],by simp[h0,Sz.val],hs,λj hj=>by simp only[h0,Sz.val,Nat.zero_mul] at hj;omega,by simp,.inl ⟨h0,y,0,rfl⟩⟩
  ·have cell:∀j,j<n*z->∃v,cl w B (s+j)=some v∧(gL cols j).rel π v:=λj hj=>by
    obtain⟨f,v,e1,e2,e3⟩:=hc j hj
    exact⟨v,(R.hp.am.st _ _ _ e2).2,by rw[e1];exact e3⟩
   have hat:∀j v,((List.range (n*z)).map λj=>(cl w B (s+j)).getD undef)[j]? =some v->j<n*z∧cl w B (s+j)=some v:=λj v hv=>by
    have hjn:j<n*z:=by
     have:=(List.getElem?_eq_some_iff.1 hv).1;simpa using this
    obtain⟨u,hu,_⟩:=cell j hjn
    simp[hjn,hu] at hv
    exact⟨hjn,by rw[hu,hv]⟩
   refine⟨(List.range (n*z)).map λj=>(cl w B (s+j)).getD undef,by simp[Sz.val],hs,λj hj=> ?_,λv hv=> ?_,.inr ⟨_,cap,rfl,λj v hv=>by rw[lI];exact(hat j v hv).2⟩⟩
   ·obtain⟨v,hv,hr⟩:=cell j hj
    refine⟨v,?_,by rw[af.de (by rw[Sg.jV,hz];exact hj),Sg.np];exact hr⟩
    have hj':j<n*z:=hj
    rw[List.getElem?_map,List.getElem?_range hj'];simp[hv]
   ·obtain⟨i,hi⟩:=List.mem_iff_getElem?.1 hv
    obtain⟨h1,h2⟩:=hat i v hi
    obtain⟨u,hu,hr⟩:=cell i h1
    rw[h2] at hu;cases hu
    exact CV.OC hr
 all_goals cases h
omit [ax] in
theorem aJu {z:Nat}{y:Option Addr}{c:Nat}(w:World):(Builtin.firstCells z 0 (.slice y 0 c)).run P w=.ok #[] w:=by
 cases y<;>simp[Builtin.firstCells,loadCells,loadCellsFrom]
omit [ax] in
theorem adB {t ty e:TypeId}{z:Nat}(ht:P.underlying t=some (.slice e))(hz:gK P e=some z){base y:Option Addr}{n cap c:Nat}(h:n<=cap)(w:World):
  (Builtin.append_ #[t,t] ty #[.slice base n cap,.slice y 0 c]).run P w=.ok (.slice base n cap) w:=by
 cases base<;>simp[Builtin.append_,run_underlying ht,run_sizeOf hz,Builtin.lenOf,h,aJu,storeCells]
omit [ax] in
theorem JH {t ty e:TypeId}{z:Nat}(ht:P.underlying t=some (.slice e))(hz:gK P e=some z){B q n cap m c:Nat}{ad:Addr}{news:List Value}(h:n+m<=cap)(hl:news.length=m*z)(w:World)
  (hn:∀j v,news[j]? =some v->w.cell? (ad.add j)=some v)(h1:∀v∈news,v.oneCell'=true)(hc:∀j,j<news.length->(cl w B (q+n*z+j)).isSome=true∧fz w B (q+n*z+j)=false):
  (Builtin.append_ #[t,t] ty #[.slice (some ⟨B,q,none⟩) n cap,.slice (some ad) m c]).run P w=.ok (.slice (some ⟨B,q,none⟩) (n+m) cap) (w.setCells B (q+n*z) news):=by
 have hf:=run_firstCells_some (P:=P) w z m ad m c news hl hn
 have hst:=run_storeCells_cells (P:=P) B (q+n*z) news 0 w (λj hj=>by have:=(hc j hj).1;simpa[cl] using this) (λj hj=>by have:=(hc j hj).2;simpa[fz] using this) h1
 simp[Builtin.append_,run_underlying ht,run_sizeOf hz,Builtin.lenOf,h,hf,lI,hst]
theorem G6 {t ty e:TypeId}{z by_:Nat}{zv:RV}(ht:P.underlying t=some (.slice e))(hz:gK P e=some z)(hb:(P.info? e).map (·.bytes)=some by_)(hv:yj P e=some zv)(hl0:af.size zv.bI=z)(hby:1<=by_)
  {sv:Value}{n cap m c:Nat}{ad:Addr}{Fa news:List Value}(w:World)(hs:(sv=.slice none 0 0∧n=0∧cap=0)∨∃b,sv=.slice (some b) n cap∧∀j v,Fa[j]? =some v->w.cell? (b.add j)=some v)
  (hlo:Fa.length=n*z)(hl:news.length=m*z)(hn:∀j v,news[j]? =some v->w.cell? (ad.add j)=some v)(hg:cap<n+m)(hm:0<m)(awF:(n+m)*by_<=140737488355328):
  ∃gc arr,(Builtin.append_ #[t,t] ty #[sv,.slice (some ad) m c]).run P w=.ok (.slice (some ⟨w.heap.size,0,none⟩) (n+m) gc) (w.drew.alloc (.cells arr e))∧n+m<=gc∧arr.size=gc*z∧∃rest,arr.toList=Fa++news++rest:=by
 obtain⟨zx,_,⟨i,hi,hzz⟩,hzr⟩:=abd hv w
 rw[hi] at hb
 have hzs:i.size=z:=by unfold gK at hz;rw[hi] at hz;simpa using hz
 have hbs:i.bytes=by_:=by simpa using hb
 have hzc:zx.cells.size=z:=by
  have:=(hM (RV.Me (hzr λ_=>none))).1
  simp only[Array.length_toList] at this;omega
 have hle:n+m<=(n+m)*by_:=Nat.le_mul_of_pos_right _ (by omega)
 have vS:∀(vd gc:Nat),n+m<=gc->(Fa.toArray++news.toArray++Builtin.zeroCells zx.cells (gc-(n+m))).size=gc*z:=λvd gc hgc=>by
  simp only[Array.size_append,List.size_toArray,size_zeroCells,hzc,hlo,hl,<-Nat.add_mul]
  congr 1;omega
 rcases hs with⟨rfl,rfl,rfl⟩| ⟨b,rfl,ho⟩
 ·have ho:Fa=[]:=List.eq_nil_of_length_eq_zero (by simpa using hlo)
  subst ho
  have hr:=run_append_nil (P:=P) w t ty e i zx ht hi hzz ad m c news (by rw[hzs];exact hl) hn hm (by omega) (by rw[hbs];simp only[Nat.zero_add] at awF;omega)
  have hge:=grownCap_ge w m 0 e
  refine⟨_,_,by simpa using hr,by simpa using hge,?_,Builtin.zeroCells zx.cells (grownCap w m 0 e-m)|>.toList,?_⟩
  ·have:=vS 0 (grownCap w m 0 e) (by simpa using hge)
   simpa using this
  ·simp
 ·have hr:=run_append_grow (P:=P) w t ty e i zx ht hi hzz b n cap Fa (by rw[hzs];exact hlo) ho ad m c news (by rw[hzs];exact hl) hn hg (by omega) (growslice_fits hg (by rw[hbs];exact awF))
  have hge:=grownCap_ge w (n+m) cap e
  refine⟨_,_,hr,hge,vS 0 _ hge,Builtin.zeroCells zx.cells (grownCap w (n+m) cap e-(n+m))|>.toList,?_⟩
  simp
omit [ax] in
theorem aM6 {e:TypeId}{n:Nat}{l:List Fp}(h:aH (Ab.dt ((P.info? e).map (·.bytes))) g n l):(P.info? e).map (·.bytes)=some n:=h.dt
omit [ax] in
theorem Th {Fa news rest:List Value}{arr:Array Value}(h:arr.toList=Fa++news++rest){j:Nat}{v:Value}:(Fa[j]? =some v->arr[j]? =some v)∧(news[j]? =some v->arr[Fa.length+j]? =some v):=by
 refine⟨λhj=> ?_,λhj=> ?_⟩
 ·have me:=(List.getElem?_eq_some_iff.1 hj).1
  rw[<-Array.getElem?_toList,h,List.getElem?_append_left (by simp;omega),List.getElem?_append_left me,hj]
 ·have me:=(List.getElem?_eq_some_iff.1 hj).1
  rw[<-Array.getElem?_toList,h,List.getElem?_append_left (by simp;omega),List.getElem?_append_right (by omega),show Fa.length+j-Fa.length=j by omega,hj]
theorem aGT {c:Call}{t:TypeId}{sa xa:AV}{args:List AV}{fp l0:List Fp}(ho:o.op=.call c)(hc:c.callee=.builtin .append)(ha:aH (Ab.rz Ab.Cc c.args.toList) g args l0)(jR:args=[sa,xa])
  (hts:c.argTypes=#[t,t]){s x:CV}(hs:sa=.r (.c s))(hx:xa=.r (.c x))(h:aH (aAU P t s x o.dst aJ) g us fp):xN P o X D aJ us g:=by
 subst hs hx jR
 unfold aAU at h
 split at h
 case h_2=>cases h
 rename_i e hu
 obtain⟨z,⟨_,h1⟩,_,h⟩:=aH.bind' h
 obtain⟨by_,⟨_,h2⟩,_,h⟩:=aH.bind' h
 obtain⟨zv,⟨_,h3⟩,_,h⟩:=aH.bind' h
 obtain⟨_,⟨_,h4⟩,_,h⟩:=aH.bind' h
 obtain⟨⟨xn,xk⟩,⟨_,h5⟩,_,h⟩:=aH.bind' h
 have h1:=h1.dt
 have h2:=aM6 h2
 have h3:=h3.dt
 have h4:=h4.cv
 simp only[Bool.and_eq_true,eF,beq_iff] at h4
 have hzv:=h4.2.2
 simp only[] at h
 cases s with
 |nils=>
  simp only[] at h
  obtain⟨_,⟨_,h6⟩,_,h⟩:=aH.bind' h
  cases h
  have h6:xn.val*by_<=140737488355328:=Nat.le_of_ble_eq_true h6.cv
  intro π a w next Q R hk hf hd hD hn
  obtain⟨y1,y2,hy,W0,hr2⟩:=auY (IH ha R)
  have hy:=aTn hy
  have W0:y1=.slice none 0 0:=W0
  subst W0
  obtain⟨news,n1,n2,n3,n4,n5⟩:=aJs h5 R hr2
  simp only at n1 n2 n3 n4 n5
  obtain⟨cs,er⟩:=adA (P:=P) a w ho hc
  have hcn:ch (dk o.dst (.r (.c (.sl aJ (.k 0) xn z true)))++[Up.new aJ xk])=1:=by unfold dk ch;cases o.dst<;>rfl
  have h0:=hf aJ (Nat.le_refl _) (by omega)
  by_cases hm:xn.val=0
  ·obtain⟨y,c',rfl⟩:∃y c',y2=.slice y 0 c':=by
    rcases n5 with⟨_,y,c',rfl⟩| ⟨ad,c',rfl,_⟩
    ·exact⟨y,c',rfl⟩
    ·exact⟨some ad,c',by rw[hm]⟩
   have mz:=adB (P:=P) (ty:=o.type) hu h1 (base:=none) (y:=y) (n:=0) (cap:=0) (c:=c') (Nat.le_refl _) w
   have hx0:=yp h0 (0,0,af.size xk,0)
   have R1:=(R.JE hx0 (λb hb=>by simp only[xT];rw[if_neg (by omega)])).new (k:=xk) (nZ π aJ (0,0,af.size xk,0)) hk (by rw[n2,hm];omega) (λi _ i2=>by omega) (λj hj=>by rw[n2,hm] at hj;omega)
    (λ_ _ _ _ _ _ _ _ _ i2=>by omega) (λ_ _ _ i2=>by omega)
   have R2:=R1.dst hd (v:=.r (.c (.sl aJ (.k 0) xn z true))) (x:=.slice none 0 0) ⟨_,_,_,_,nZ _ _ _,by simp only[cg.val,n2];omega,λ_=>by simp only[cg.val,n2];omega,.inl ⟨hm,none,rfl⟩⟩
   refine NM (x:=.slice none 0 0) (w':=w) ?_ (hn _ _ (xT π aJ (0,0,af.size xk,0)) hx0 (TE ⟨Nat.le_refl _,by omega⟩) ?_)
   ·rw[er,hy,hts]
    simp[builtin,mz]
   ·rw[JG _ _ _ _ (by simp)];exact R2
  ·obtain⟨ad,c',rfl,hn5⟩:∃ad c',y2=.slice (some ad) xn.val c'∧∀j v,news[j]? =some v->w.cell? (ad.add j)=some v:=by
    rcases n5 with⟨h,_⟩|h
    ·exact absurd h hm
    ·exact h
   obtain⟨gc,arr,mz,hgc,vS,rest,adC⟩:=G6 (P:=P) (ty:=o.type) hu h1 h2 h3 hzv h4.2.1 (sv:=.slice none 0 0) (n:=0) (cap:=0) (m:=xn.val) (c:=c') (ad:=ad) (Fa:=[]) (news:=news) w (.inl ⟨rfl,rfl,rfl⟩) (by simp) n1 hn5 (by omega) (by omega) (by simpa using h6)
   simp only[Nat.zero_add] at mz hgc
   have R1:=(R.drew).row (k:=xk) (n:=xn) (q:=z) (cap:=gc) (arr:=arr) (t:=e) hd h0 hk hgc (by omega) n2 (λj hj=>by
    rw[n2] at hj
    obtain⟨v,hv,hr⟩:=n3 j hj
    exact⟨v,by simpa using(Th adC).2 hv,hr⟩)
   refine NM (x:=.slice (some ⟨w.heap.size,0,none⟩) xn.val gc) (w':=w.drew.alloc (.cells arr e)) ?_ (hn _ _ (xT π aJ (w.heap.size,0,af.size xk,gc*z)) (yp h0 _) (TE ⟨Nat.le_refl _,by omega⟩) ?_)
   ·rw[er,hy,hts]
    simp[builtin,mz]
   ·rw[JG _ _ _ _ (by simp)];exact R1
 |sl b q n z' own=>
  cases own with
  |false=>cases h
  |true=>
  simp only[] at h
  obtain⟨_,⟨_,h6⟩,_,h⟩:=aH.bind' h
  obtain⟨_,⟨_,h7⟩,_,h⟩:=aH.bind' h
  cases h with|sz r hz h=>
  cases h with|vw r' sb rM hsb hvb h=>
  obtain⟨nb,⟨_,h9⟩,_,h⟩:=aH.bind' h
  obtain⟨_,⟨_,h10⟩,_,h⟩:=aH.bind' h
  cases h
  have h6:z=z':=Nat.eq_of_beq_eq_true h6.cv
  subst h6
  have h7:(n.val+xn.val)*by_<=140737488355328:=Nat.le_of_ble_eq_true h7.cv
  rw[hz] at rM;cases rM
  have arD:(n.add xn).val=n.val+xn.val:=by cases n<;>cases xn<;>rfl
  intro π a w next Q R hk hf hd hD hn
  obtain⟨y1,y2,hy,W0,hr2⟩:=auY (IH ha R)
  have hy:=aTn hy
  obtain⟨news,n1,n2,n3,n4,n5⟩:=aJs h5 R hr2
  simp only at n1 n2 n3 n4 n5
  obtain⟨cs,er⟩:=adA (P:=P) a w ho hc
  have XA:=af.aPr h9.dt
  have hcn:ch (dk o.dst (.r (.c (.sl aJ (.k 0) (n.add xn) z true)))++[Up.kill b,Up.new aJ nb])=1:=by unfold dk ch;cases o.dst<;>rfl
  have h0:=hf aJ (Nat.le_refl _) (by omega)
  have hDb:b<X.k->D b:=hD (.kill b) (by simp)
  obtain⟨B,s,e',hb,hle,k1,k2⟩:=R.hp.hp b _ hz
  have kZ:aJ≠b:=λe=>by rw[e,hb] at h0;cases h0
  have hmul:(n.val+xn.val)*z=n.val*z+xn.val*z:=Nat.add_mul _ _ _
  have apP:af.size nb=(n.val+xn.val)*z:=by rw[XA.1,hsb,n2,hmul]
  have within:∀(w':World) (y:Value) (cap:Nat),Rel X D π g a w'->(n.val+xn.val)<=cap->s+q.val+cap*z<=e'->y=.slice (some ⟨B,s+q.val,none⟩) (n.val+xn.val) cap->
    (∀i,s+q.val<=i->i<e'->(cl w' B i).isSome=true∧fz w' B i=false)->(∀j,j<(n.val+xn.val)*z->∃v,cl w' B (s+q.val+j)=some v∧(af.get nb j).rel π v)->
    (execOp a.eval o).run P w=.ok (.value y) w'->o.wp P a w next Q:=by
   intro w' y cap R' pz hce hyy hc1 hc2 mz
   have hcz:(n.val+xn.val)*z<=cap*z:=Nat.mul_le_mul_right _ pz
   have hx0:=yp h0 (B,s+q.val,af.size nb,e')
   have R1:=((R'.kill b).JE hx0 (λb hb=>by simp only[xT];rw[if_neg (by omega)])).new (k:=nb) (nZ π aJ (B,s+q.val,af.size nb,e')) hk (by rw[apP];omega) hc1
    (λj hj=>by
     rw[apP] at hj
     obtain⟨v,hv,hr⟩:=hc2 j hj
     exact⟨v,hv,CV.c7 hx0 _ _ hr⟩)
    (λb' s1 q1 e1 aYj hz1 hb1 i i1 i2 i3 i4=>by
     simp only[xT,aYj,if_false] at hb1
     have hbb:b'≠b:=λe=>hz1 (by simp[Up.fU,e])
     have hz2:g.z b'≠none:=by simpa[Up.fU,hbb] using hz1
     exact R'.hp.dj b' b B s1 q1 e1 s _ e' hbb hz2 (by simp[hz]) hb1 hb i i3 i4 (by omega) i2)
    (λhB i i1 i2=>by
     rcases Nat.lt_or_ge b X.k with Y8|Y8
     ·exact⟨b,s,_,e',Y8,hDb Y8,(R'.vd b Y8).symm.trans hb,by omega,i2⟩
     ·exact R'.ft b B s _ e' Y8 (by simp[hz]) hb hB i (by omega) i2)
    (λh=>R'.hp.lb b B s _ e' (by simp[hz]) hb (by omega))
   have R2:=R1.dst hd (v:=.r (.c (.sl aJ (.k 0) (n.add xn) z true))) (x:=y) ⟨_,_,_,_,nZ _ _ _,by rw[arD,apP];simp only[cg.val];omega,λ_=>by rw[arD,apP];simp only[cg.val];omega,.inr ⟨cap,by rw[arD];exact pz,by rw[arD];exact hyy,λ_=>hce⟩⟩
   refine NM mz (hn _ _ (xT π aJ (B,s+q.val,af.size nb,e')) hx0 (TE ⟨Nat.le_refl _,by omega⟩) ?_)
   rw[JG _ _ _ _ (by simp)];exact R2
  have apQ:∀(sv:Value) (cap:Nat) (xs:List Value) (ad:Addr) (c':Nat),y1=sv->y2=.slice (some ad) xn.val c'->(∀j v,news[j]? =some v->w.cell? (ad.add j)=some v)->xs.length=n.val*z->(∀j,j<n.val*z->∃v,xs[j]? =some v∧(af.get sb j).rel π v)->
    ((sv=.slice none 0 0∧n.val=0∧cap=0)∨∃b,sv=.slice (some b) n.val cap∧∀j v,xs[j]? =some v->w.cell? (b.add j)=some v)->0<xn.val->cap<n.val+xn.val->o.wp P a w next Q:=by
   intro sv cap xs ad c' hsv hy2 hn5 hxl hold hss hm pz
   subst hy2
   obtain⟨gc,arr,mz,hgc,vS,rest,adC⟩:=G6 (P:=P) (ty:=o.type) hu h1 h2 h3 hzv h4.2.1 (c:=c') (ad:=ad) (Fa:=xs) (news:=news) w hss hxl n1 hn5 pz hm h7
   have R1:=((R.drew).kill b).row (k:=nb) (n:=n.add xn) (q:=z) (cap:=gc) (arr:=arr) (t:=e) hd h0 hk (by rw[arD];exact hgc) (by omega) (by rw[apP,arD]) (λj hj=>by
    rw[apP] at hj
    rw[XA.2 j (by omega),hsb]
    by_cases hjn:j<n.val*z
    ·obtain⟨v,hv,hr⟩:=hold j hjn
     rw[if_pos hjn]
     exact⟨v,(Th adC).1 hv,hr⟩
    ·rw[if_neg hjn]
     obtain⟨v,hv,hr⟩:=n3 (j-n.val*z) (by omega)
     have:=(Th adC).2 hv
     rw[hxl,show n.val*z+(j-n.val*z)=j by omega] at this
     exact⟨v,this,hr⟩)
   refine NM (x:=.slice (some ⟨w.heap.size,0,none⟩) (n.val+xn.val) gc) (w':=w.drew.alloc (.cells arr e)) ?_ (hn _ _ (xT π aJ (w.heap.size,0,af.size nb,gc*z)) (yp h0 _) (TE ⟨Nat.le_refl _,by omega⟩) ?_)
   ·rw[er,hy,hts,hsv]
    simp[builtin,mz]
   ·rw[JG _ _ _ _ (by simp),<-arD];exact R1
  have aV0:xn.val=0->∃y c',y2=.slice y 0 c':=λhm=>by
   rcases n5 with⟨_,y,c',rfl⟩| ⟨ad,c',rfl,_⟩
   ·exact⟨y,c',rfl⟩
   ·exact⟨some ad,c',by rw[hm]⟩
  have aV1:xn.val≠0->∃ad c',y2=.slice (some ad) xn.val c'∧∀j v,news[j]? =some v->w.cell? (ad.add j)=some v:=λhm=>by
   rcases n5 with⟨h,_⟩|h
   ·exact absurd h hm
   ·exact h
  obtain⟨B2,s2,q2,e2,Da,hmq,aWX,⟨hn0,y0,rfl⟩| ⟨cap,pz,rfl,aM5⟩⟩:=W0
  ·by_cases hm:xn.val=0
   ·obtain⟨y,c',rfl⟩:=aV0 hm
    have mz:=adB (P:=P) (ty:=o.type) hu h1 (base:=y0) (y:=y) (n:=0) (cap:=0) (c:=c') (Nat.le_refl _) w
    have hs0:af.size nb=0:=by rw[apP,hm,hn0];omega
    have hx0:=yp h0 (0,0,af.size nb,0)
    have R1:=((R.kill b).JE hx0 (λb hb=>by simp only[xT];rw[if_neg (by omega)])).new (k:=nb) (nZ π aJ (0,0,af.size nb,0)) hk (by omega) (λi _ i2=>by omega) (λj hj=>by omega)
     (λ_ _ _ _ _ _ _ _ _ i2=>by omega) (λ_ _ _ i2=>by omega)
    have R2:=R1.dst hd (v:=.r (.c (.sl aJ (.k 0) (n.add xn) z true))) (x:=.slice y0 0 0) ⟨_,_,_,_,nZ _ _ _,by rw[arD,hs0,hm,hn0];simp[cg.val],λ_=>by rw[arD,hs0,hm,hn0];simp[cg.val],.inl ⟨by omega,y0,rfl⟩⟩
    refine NM (x:=.slice y0 0 0) (w':=w) ?_ (hn _ _ (xT π aJ (0,0,af.size nb,0)) hx0 (TE ⟨Nat.le_refl _,by omega⟩) ?_)
    ·rw[er,hy,hts]
     simp[builtin,mz]
    ·rw[JG _ _ _ _ (by simp)];exact R2
   ·obtain⟨ad,c',hy2,hn5⟩:=aV1 hm
    cases y0 with
    |none=>exact apQ _ 0 [] ad c' rfl hy2 hn5 (by simp[hn0]) (λj hj=>by simp only[hn0,Nat.zero_mul] at hj;omega) (.inl ⟨rfl,hn0,rfl⟩) (by omega) (by omega)
    |some ad0=>exact apQ _ 0 [] ad c' rfl hy2 hn5 (by simp[hn0]) (λj hj=>by simp only[hn0,Nat.zero_mul] at hj;omega) (.inr ⟨ad0,by rw[hn0],λj v hj=>by simp at hj⟩) (by omega) (by omega)
  ·rw[hb] at Da;cases Da
   have a0O:=aWX rfl
   have aJn:=aM5 rfl
   obtain⟨_,xs,hxl,hxs,hxc⟩:=R.view hz hsb hvb hb hmq
   have hold:∀j,j<n.val*z->∃v,xs[j]? =some v∧(af.get sb j).rel π v∧cl w B (s+q.val+j)=some v:=λj hj=>by
    obtain⟨v,hv,hr⟩:=(hM hxs).2 j (by rw[hsb];exact hj)
    exact⟨v,hv,hr,hxc j v hv⟩
   by_cases hm:xn.val=0
   ·obtain⟨y,c',rfl⟩:=aV0 hm
    have mz:=adB (P:=P) (ty:=o.type) hu h1 (base:=some ⟨B,s+q.val,none⟩) (y:=y) (n:=n.val) (cap:=cap) (c:=c') pz w
    refine within w _ cap R (by omega) aJn (by rw[hm,Nat.add_zero]) (λi i1 i2=>k1 i (by omega) i2) (λj hj=> ?_) (by rw[er,hy,hts];simp[builtin,mz])
    have hj':j<n.val*z:=by rw[hm] at hj;simpa using hj
    obtain⟨v,_,hr,hc⟩:=hold j hj'
    exact⟨v,hc,by rw[XA.2 j (by omega),if_pos (by omega)];exact hr⟩
   ·obtain⟨ad,c',hy2,hn5⟩:=aV1 hm
    by_cases P6:n.val+xn.val<=cap
    ·subst hy2
     have hcz:(n.val+xn.val)*z<=cap*z:=Nat.mul_le_mul_right _ P6
     have hin:∀j,j<news.length->(cl w B (s+q.val+n.val*z+j)).isSome=true∧fz w B (s+q.val+n.val*z+j)=false:=λj hj=>k1 _ (by omega) (by omega)
     have mz:=JH (P:=P) (ty:=o.type) hu h1 (B:=B) (q:=s+q.val) (n:=n.val) (cap:=cap) (m:=xn.val) (c:=c') (ad:=ad) P6 n1 w hn5 n4 hin
     have R':=R.aTo (lo:=q.val+n.val*z) (xs:=news) hz hb (by omega) (by omega) hDb
     rw[show s+(q.val+n.val*z)=s+q.val+n.val*z by omega] at R'
     refine within _ _ cap R' P6 aJn rfl (λi i1 i2=>⟨isSome_setCells (λj hj=>(hin j hj).1) (k1 i (by omega) i2).1,by rw[nA];exact(k1 i (by omega) i2).2⟩) (λj hj=> ?_) (by rw[er,hy,hts];simp[builtin,mz])
     rw[XA.2 j (by omega),hsb]
     by_cases hjn:j<n.val*z
     ·obtain⟨v,hv,hr,hc⟩:=hold j hjn
      rw[if_pos hjn]
      exact⟨v,by rw[dF (λ_=>by omega)];exact hc,hr⟩
     ·rw[if_neg hjn]
      obtain⟨v,hv,hr⟩:=n3 (j-n.val*z) (by omega)
      have me:=(List.getElem?_eq_some_iff.1 hv)
      have:=mf (w:=w) (B:=B) (o:=s+q.val+n.val*z) (vs:=news) (λj hj=>(hin j hj).1) me.1
      rw[show s+q.val+n.val*z+(j-n.val*z)=s+q.val+j by omega,me.2] at this
      exact⟨v,this,hr⟩
    ·exact apQ _ cap xs ad c' rfl hy2 hn5 hxl (λj hj=>let⟨v,hv,hr,_⟩:=hold j hj;⟨v,hv,hr⟩) (.inr ⟨_,rfl,λj v hj=>by rw[lI];exact hxc j v hj⟩) (by omega) (by omega)
 |_=>cases h
omit [ax] in
theorem aH.aE3 {v:Nat}:∀{k j:Nat} {l:List Fp},aH (aE3 v k) g j l->j=Nat.min v k
 |0,j,l,h=>by cases h;simp
 |k+1,j,l,h=>by
  cases h with|test h=>
  cases hx:Nat.ble (k+1) v with
  |true=>
   rw[hx] at h;cases h
   have:=Nat.le_of_ble_eq_true hx
   show k+1=min v (k+1)
   omega
  |false=>
   rw[hx] at h
   have h0:¬k+1<=v:=λh=>by rw[Nat.ble_eq_true_of_le h] at hx;cases hx
   have e:=aH.aE3 h
   rw[e]
   show min v k=min v (k+1)
   omega
omit [ax] in
theorem aH.aI2 {n n':Sz}{m:Bool×Sz}{l:List Fp}(h:aH (aI2 n n') g m l):m.2.val=Nat.min n'.val n.val:=by
 have least:∀n n':Sz,(Sz.least n' n).val=Nat.min n'.val n.val:=λn n'=>by cases n<;>cases n'<;>rfl
 unfold Ab.aI2 at h
 split at h
 ·split at h
  ·obtain⟨j,⟨_,h1⟩,_,h2⟩:=aH.bind' h
   cases h2
   exact aH.aE3 h1
  ·cases h;rfl
 ·cases h;exact least _ _
theorem aM7 {c:Call}{t:TypeId}{da xa:AV}{args:List AV}{fp l0:List Fp}(ho:o.op=.call c)(hc:c.callee=.builtin .copy)(ha:aH (Ab.rz Ab.Cc c.args.toList) g args l0)(jR:args=[da,xa])
  (hts:c.argTypes[0]? =some t){d x:CV}(hs:da=.r (.c d))(hx:xa=.r (.c x))(h:aH (copyV P t d x o.dst) g us fp):xN P o X D aJ us g:=by
 subst hs hx jR
 unfold copyV at h
 split at h
 case h_2=>cases h
 rename_i e hu
 obtain⟨z,⟨_,h1⟩,_,h⟩:=aH.bind' h
 have h1:=h1.dt
 split at h
 case h_2=>cases h
 rename_i b q n z1 w1 b' q' n' z2 w2 _
 obtain⟨_,⟨_,h2⟩,_,h'⟩:=aH.bind' h
 clear h
 obtain⟨_,⟨_,h3⟩,_,h⟩:=aH.bind' h'
 clear h'
 have h2:=h2.cv
 simp only[Bool.and_eq_true,beq_iff] at h2
 obtain⟨e1,e2⟩:=h2
 obtain⟨⟨fl,m⟩,⟨_,h6⟩,_,h'⟩:=aH.bind' h
 clear h
 have hmv:m.val=Nat.min n'.val n.val:=h6.aI2
 clear h6
 cases h' with|vw r' v0 rM hs0 hv0 h=>
 cases h with|sz r hz h=>
 cases h
 have hsv:af.size (cond fl (ry v0) v0)=af.size v0∧∀j,j<af.size v0->af.get (cond fl (ry v0) v0) j=af.get v0 j:=by
  cases fl
  ·exact⟨rfl,λ_ _=>rfl⟩
  ·exact vT v0
 have hs:af.size (cond fl (ry v0) v0)=m.val*z:=hsv.1.trans hs0
 have hv:q'.val+m.val*z<=r'->∀j,j<m.val*z->af.get (cond fl (ry v0) v0) j=g.c b' (q'.val+j):=λhb j hj=>(hsv.2 j (by rw[hs0];exact hj)).trans (hv0 hb j hj)
 generalize cond fl (ry v0) v0=v at hs hv ⊢
 clear hsv hs0 hv0
 subst e1 e2
 intro π a w next Q R hk hf hd hD hn
 obtain⟨y1,y2,hy,W0,hr2⟩:=auY (IH ha R)
 have hy:=aTn hy
 obtain⟨cs,er⟩:=adA (P:=P) a w ho hc
 have key:∀(w':World) (g':Gt),(execOp a.eval o).run P w=.ok (.value (.int .i64 ((m.val:Nat):Int))) w'->Rel X D π g' a w'->
   ck [Up.c b q v] g=g'->o.wp P a w next Q:=by
  intro w' g' mz R' hg
  refine NM mz (hn _ _ π (Ext.refl _) (λb h=>.inl h) ?_)
  rw[JG _ _ _ _ (by simp),hg]
  exact R'.dst hd rfl
 by_cases hm:m.val=0
 ·have hv0:af.size v=0:=by rw[hs,hm,Nat.zero_mul]
  have hg:ck [Up.c b q v] g=g:=by
   show(Up.c b q v).fU g=g
   simp only[Up.fU]
   have:(λb' j=>if b'=b∧q.val<=j∧j<q.val+af.size v then af.get v (j-q.val) else g.c b' j)=g.c:=by
    funext b' j;rw[if_neg (by omega)]
   rw[this]
  have hvv:∀{b q n z own} {y:Value},CV.rel π (.sl b q n z own) y->∃ad cap,y=.slice ad n.val cap:=λhr=>by
   obtain⟨_,_,_,_,_,_,_,⟨h,y,rfl⟩| ⟨cap,_,rfl,_⟩⟩:=hr
   ·exact⟨_,_,by rw[h]⟩
   ·exact⟨_,_,rfl⟩
  obtain⟨ad1,c1,rfl⟩:=hvv W0
  obtain⟨ad2,c2,rfl⟩:=hvv hr2
  have hf0:(Builtin.firstCells z 0 (.slice ad2 n'.val c2)).run P w=.ok #[] w:=by
   cases ad2<;>simp[Builtin.firstCells,loadCells,loadCellsFrom]
  refine key w g ?_ R hg
  rw[er,hy]
  rw[hmv] at hm
  have hc0:(Builtin.copy_ c.argTypes o.type #[.slice ad1 n.val c1,.slice ad2 n'.val c2]).run P w=.ok (goInt 0) w:=by
   cases ad1<;>simp[Builtin.copy_,hts,run_underlying hu,run_sizeOf h1,Builtin.lenOf,hm,hf0,storeCells]
  simp[builtin,hc0,hm,hmv,goInt]
 ·have kZ:n.val≠0∧n'.val≠0:=by
   rw[hmv] at hm
   constructor<;>(intro e;apply hm;rw[e];simp[Nat.min_def])
  obtain⟨B,s,r1,e1,hb,hm1,_,⟨h,_⟩| ⟨c1,hc1,rfl,_⟩⟩:=W0
  ·exact absurd h kZ.1
  obtain⟨B',s',r2,e1',eC,hm2,_,⟨h,_⟩| ⟨c2,hc2,rfl,_⟩⟩:=hr2
  ·exact absurd h kZ.2
  have l1:m.val*z<=n.val*z:=Nat.mul_le_mul_right _ (by rw[hmv];exact Nat.min_le_right _ _)
  have l2:m.val*z<=n'.val*z:=Nat.mul_le_mul_right _ (by rw[hmv];exact Nat.min_le_left _ _)
  obtain⟨_,xs,hxl,hxs,hxc⟩:=R.view rM hs hv eC (by omega)
  rw[hmv] at hxl
  have hfc:=run_firstCells_some (P:=P) w z (Nat.min n'.val n.val) ⟨B',s'+q'.val,none⟩ n'.val c2 xs hxl (λj v hj=>by rw[lI];exact hxc j v hj)
  obtain⟨B0,s0,e0,OD,hle,k1,k2⟩:=R.hp.hp b _ hz
  rw[hb] at OD;cases OD
  rw[hmv] at l1 hs
  have hst:=run_storeCells_cells (P:=P) B (s+q.val) xs 0 w (λj hj=>(k1 _ (by omega) (by omega)).1) (λj hj=>(k1 _ (by omega) (by omega)).2) (λv hv=>by
   obtain⟨i,hi⟩:=List.mem_iff_getElem?.1 hv
   obtain⟨c,_,hr⟩:=hxs.get' hi
   exact CV.OC hr)
  have R':=R.set (o:=q) hz hb (by omega) hxs (hD (.c b q v) (by simp))
  refine key _ _ ?_ R' rfl
  rw[er,hy]
  simp[builtin,Builtin.copy_,hts,run_underlying hu,run_sizeOf h1,Builtin.lenOf,hfc,hst,goInt,hmv]
end
end Go.Ab
namespace Go.Ab
variable [ax]
def hC (l:List (Option af))(b j:Nat):CV:=match(l[b]?).getD none with
 |some k=>if j<k.size then k.get j else .f .u
 |none=>.f .u
def hZ (l:List (Option af))(b:Nat):Option Nat:=((l[b]?).getD none).map af.size
def after:List af->List Ch->List (Option af)
 | [],_=>[]
 |b::bs,.kY::cs=>some b::after bs cs
 |_::bs,.set b::cs=>some b::after bs cs
 |_::bs,.kill::cs=>none::after bs cs
 |_::bs,[]=>none::after bs []
omit [ax] in
theorem lL:∀(h:List af) (cs:List Ch),(after h cs).length=h.length
 | [],_=>rfl
 |_::bs,.kY::cs=>by simp[after,lL bs cs]
 |_::bs,.set b::cs=>by simp[after,lL bs cs]
 |_::bs,.kill::cs=>by simp[after,lL bs cs]
 |_::bs,[]=>by simp[after,lL bs []]
def ns.heap (r:ns)(h:List af):List (Option af):=after h r.vR++r.news.map some
def P7 (cs:List Ch)(b:Nat):Prop:=cs[b]? ≠some .kY
def qS (π:Pi)(w0:World)(h:List af)(res:ns):Ending->World->Prop:=λe w'=>∃π' v,e=.returned v∧Ext π π'∧res.val.rel π' v∧pZ π' (hC (res.heap h)) (hZ (res.heap h)) w'∧bT w0 (Bg π h.length (P7 res.vR)) w'∧
   (∀b,π' b≠none->b<h.length+res.news.length)∧
   (∀b B s q e,h.length<=b->π' b=some (B,s,q,e)->B<w0.heap.size->∀i,s<=i->i<e->Bg π h.length (P7 res.vR) B i)
def Sound (P:Program)(f:FuncId)(F:C9):Prop:=
 ∀args h res,(F args h).eval=some res->∀(w:World) (π:Pi) (vs:Array Value),bj (AV.rel π) args vs.toList->pZ π (hC (h.map some)) (hZ (h.map some)) w->(∀b,π b≠none->b<h.length)->
  ((callFunc f vs).run P w=.ok (.enter f vs) w∧Calls P f vs w (qS π w h res))∨∃v,(callFunc f vs).run P w=.ok (.value v) w∧qS π w h res (.returned v) w
omit [ax] in
theorem T.aTp {t:T}{g:Gt}{r:ns}{l:List Fp}(h:aH t.rd g r l):t.eval=some r:=by
 induction t generalizing l with
 |leaf r=>cases h;rfl
 |fail=>cases h
 |test x a b iha ihb=>
  cases h with|test h=>
  cases x
  ·exact ihb h
  ·exact iha h
 |opt x k ih=>
  cases h with|opt hx h=>
  subst hx
  exact ih _ h
def piL (π:Pi)(vs:List Vw):Pi:=λj=>match vs[j]? with
 |some v=>match π v.b with
  |some (B,s,_,e)=>some (B,s+v.o.val,v.n,if v.own then e else s+v.o.val+v.n)
  |none=>none
 |none=>none
def Mg (vs iX:List Vw):Prop:=∃t,iX=vs++t
omit [ax] in
theorem Mg.refl (vs:List Vw):Mg vs vs:=⟨[],by simp⟩
omit [ax] in
theorem Mg.trans {a b c:List Vw}(h:Mg a b)(k:Mg b c):Mg a c:=by
 obtain⟨t,rfl⟩:=h
 obtain⟨u,rfl⟩:=k
 exact⟨t++u,by simp⟩
omit [ax] in
theorem Mg.get {vs iX:List Vw}(h:Mg vs iX){j:Nat}{v:Vw}(hj:vs[j]? =some v):iX[j]? =some v:=by
 obtain⟨t,rfl⟩:=h
 rw[List.getElem?_append_left (List.getElem?_eq_some_iff.1 hj).1,hj]
omit [ax] in
theorem Mg.length {vs iX:List Vw}(h:Mg vs iX):vs.length<=iX.length:=by
 obtain⟨t,rfl⟩:=h;simp
omit [ax] in
theorem Mg.ext {π:Pi}{vs iX:List Vw}(h:Mg vs iX):Ext (piL π vs) (piL π iX):=by
 intro j p hp
 unfold piL at hp ⊢
 cases hj:vs[j]? with
 |none=>rw[hj] at hp;cases hp
 |some v=>rw[h.get hj];rw[hj] at hp;exact hp
def II (π:Pi)(vs:List Vw):Prop:=
 (∀(i j:Nat) (v v':Vw),i≠j->vs[i]? =some v->vs[j]? =some v'->v.b=v'.b->(v.o.val+v.n<=v'.o.val∨v'.o.val+v'.n<=v.o.val)∧(v.own=false∨v'.own=false))∧
 ∀(i:Nat) (v:Vw),vs[i]? =some v->∃B s q e,π v.b=some (B,s,q,e)∧v.o.val+v.n<=q∧(v.own=true->v.o.val+v.n=q)
omit [ax] in
theorem II.nil (π:Pi):II π []:=⟨λi j v v' _ h=>by simp at h,λi v h=>by simp at h⟩
omit [ax] in
theorem ext_eq {o:cg}{ch:Sz}{z c n:Nat}(h:ext o ch z=some (c,n)):o.val=c∧ch.val*z=n:=by
 unfold ext at h
 split at h
 ·simp only[Option.some.injEq,Prod.mk.injEq] at h
  exact h
 ·cases h
omit [ax] in
theorem aGU {b:Nat}{o:cg}{ch:Sz}{z:Nat}{vs:List Vw}(h:ark b (ext o ch z) vs=true):∀v∈vs,v.b=b->(o.val+ch.val*z<=v.o.val∨v.o.val+v.n<=o.val):=λv hv hb=>by
 have:=List.all_eq_true.1 h v hv
 rw[hb,Nat.beq_refl] at this
 simp only[Bool.not_true,Bool.false_or] at this
 split at this
 ·rename_i o1 n1 o2 n2 h1 h2
  obtain⟨e1,e2⟩:=ext_eq h1
  obtain⟨e3,e4⟩:=ext_eq h2
  simp only[Bool.or_eq_true,eF] at this
  rw[e1,e2,e3,Vw.n,e4];exact this
 ·cases this
omit [ax] in
theorem II.snoc {π:Pi}{vs:List Vw}(h:II π vs)(v:Vw)(ha:ark v.b (ext v.o v.ch v.z) vs=true)(hb:∃B s q e,π v.b=some (B,s,q,e)∧v.o.val+v.n<=q∧(v.own=true->v.o.val+v.n=q))(oq:v.own=true->∀v'∈vs,v'.b=v.b->v'.own=false):II π (vs++[v]):=by
 have hap:=aGU ha
 have aAk:∀(i:Nat) (w:Vw),(vs++[v])[i]? =some w->(i<vs.length∧vs[i]? =some w)∨(i=vs.length∧w=v):=λi w hw=>by
  rcases Nat.lt_or_ge i vs.length with hi|hi
  ·rw[List.getElem?_append_left hi] at hw;exact .inl ⟨hi,hw⟩
  ·rw[List.getElem?_append_right hi] at hw
   have:i-vs.length=0:=by
    have:=(List.getElem?_eq_some_iff.1 hw).1;simp at this;omega
   rw[this] at hw
   exact .inr ⟨by omega,by simpa using hw.symm⟩
 refine⟨λi j x y hij hx hy hxy=> ?_,λi x hx=> ?_⟩
 ·rcases aAk i x hx with⟨hi,hx'⟩| ⟨hi,rfl⟩
  ·rcases aAk j y hy with⟨hj,hy'⟩| ⟨hj,rfl⟩
   ·exact h.1 i j x y hij hx' hy' hxy
   ·have hm:=List.mem_of_getElem? hx'
    refine⟨(hap x hm hxy).symm,?_⟩
    cases hvo:y.own with
    |false=>exact .inr rfl
    |true=>exact .inl (oq hvo x hm hxy)
  ·rcases aAk j y hy with⟨hj,hy'⟩| ⟨hj,rfl⟩
   ·have hm:=List.mem_of_getElem? hy'
    refine⟨hap y hm hxy.symm,?_⟩
    cases hvo:x.own with
    |false=>exact .inl rfl
    |true=>exact .inr (oq hvo y hm hxy.symm)
   ·omega
 ·rcases aAk i x hx with⟨hi,hx'⟩| ⟨hi,rfl⟩
  ·exact h.2 i x hx'
  ·exact hb
omit [ax] in
theorem XB {b:Nat}{e:Option (Nat×Nat)}:∀{vs:List Vw} {i0 i d:Nat} {ow:Bool},Y5 b e vs i0=some (i,d,ow)->∃k v o n o' n',i=i0+k∧vs[k]? =some v∧v.b=b∧e=some (o,n)∧ext v.o v.ch v.z=some (o',n')∧o'<=o∧o+n<=o'+n'∧d=o-o'∧ow=v.own
 | [],_,_,_,_,h=>by simp[Y5] at h
 |v::vs,i0,i,d,ow,h=>by
  have next:Y5 b e vs (i0+1)=some (i,d,ow)->∃k u o n o' n',i=i0+k∧(v::vs)[k]? =some u∧u.b=b∧e=some (o,n)∧ext u.o u.ch u.z=some (o',n')∧o'<=o∧o+n<=o'+n'∧d=o-o'∧ow=u.own:=λh=>by
   obtain⟨k,v',o,n,o',n',h1,h2,h3⟩:=XB h
   exact⟨k+1,v',o,n,o',n',by omega,by simpa using h2,h3⟩
  simp only[Y5] at h
  split at h
  ·exact next h
  ·rename_i hb
   rw[beq_iff] at hb
   split at h
   ·rename_i o n o' n' h1
    split at h
    ·rename_i hc
     cases h
     simp only[Bool.and_eq_true,eF] at hc
     exact⟨0,v,o,n,o',n',rfl,rfl,hb,rfl,h1,hc.1,hc.2,rfl,rfl⟩
    ·exact next h
   ·exact next h
omit [ax] in
theorem vU {π:Pi}{vs:List Vw}{j:Nat}{v:Vw}(h:vs[j]? =some v){B s q e:Nat}(hb:π v.b=some (B,s,q,e)):piL π vs j=some (B,s+v.o.val,v.n,if v.own then e else s+v.o.val+v.n):=by
 unfold piL;rw[h];simp only[hb]
omit [ax] in
theorem auZ (vs:List Vw)(v:Vw):(vs++[v])[vs.length]? =some v:=by simp
abbrev Loc {α:Type}(R:Pi->α->Value->Prop)(π:Pi)(vs:List Vw)(a':α)(iX:List Vw)(x:Value):Prop:=Mg vs iX∧(II π vs->II π iX∧R (piL π iX) a' x)
theorem aBp {g:Gt}{π:Pi}{c c':CV}{x:Value}{vs iX:List Vw}{l:List Fp}(h:aH (aOr c vs) g (c',iX) l)(hx:c.rel π x):Loc CV.rel π vs c' iX x:=by
 cases c<;>simp only[aOr] at h
 case ptr b o n=>
  obtain⟨B,s,q,e,hp,hx,hm⟩:=hx
  split at h
  ·rename_i i d ow hf
   cases h
   obtain⟨k,v,o1,n1,o2,n2,hk,hv,hb,h1,h2,h3,h4,h5,h6⟩:=XB hf
   obtain⟨e1,e2⟩:=ext_eq h1
   obtain⟨e3,e4⟩:=ext_eq h2
   refine⟨Mg.refl _,λok=>⟨ok,?_⟩⟩
   rw[<-hb] at hp
   rw[show i=k by omega]
   simp only[Sz.val,Nat.one_mul] at e2
   refine⟨_,_,_,_,vU hv hp,?_,?_⟩
   ·rw[hx,e1,e3];simp only[cg.val];congr 3;omega
   ·show d+n<=v.n
    unfold Vw.n;omega
  ·obtain⟨_,⟨_,h1⟩,_,h⟩:=aH.bind' h
   cases h
   refine⟨⟨_,rfl⟩,λok=>⟨ok.snoc ⟨b,o,.l 1,n,false,false⟩ h1.cv ⟨B,s,q,e,hp,by simp only[Vw.n,Sz.val,Nat.one_mul];exact hm,λh=>by cases h⟩ (λh=>by cases h),?_⟩⟩
   exact⟨_,_,_,_,vU (auZ vs ⟨b,o,.l 1,n,false,false⟩) hp,by rw[hx];rfl,by simp[cg.val,Vw.n,Sz.val]⟩
 case cl f b o n=>
  obtain⟨B,s,q,e,hp,hx,hm⟩:=hx
  split at h
  ·rename_i i d ow hf
   cases h
   obtain⟨k,v,o1,n1,o2,n2,hk,hv,hb,h1,h2,h3,h4,h5,h6⟩:=XB hf
   obtain⟨e1,e2⟩:=ext_eq h1
   obtain⟨e3,e4⟩:=ext_eq h2
   refine⟨Mg.refl _,λok=>⟨ok,?_⟩⟩
   rw[<-hb] at hp
   rw[show i=k by omega]
   simp only[Sz.val,Nat.one_mul] at e2
   refine⟨_,_,_,_,vU hv hp,?_,?_⟩
   ·rw[hx];exact congrArg (λt=>Value.func (.func f) #[] #[.pointer (some ⟨B,t,none⟩)]) (by rw[e1,e3];simp only[cg.val];omega)
   ·show d+n<=v.n
    unfold Vw.n;omega
  ·obtain⟨_,⟨_,h1⟩,_,h⟩:=aH.bind' h
   cases h
   refine⟨⟨_,rfl⟩,λok=>⟨ok.snoc ⟨b,o,.l 1,n,false,false⟩ h1.cv ⟨B,s,q,e,hp,by simp only[Vw.n,Sz.val,Nat.one_mul];exact hm,λh=>by cases h⟩ (λh=>by cases h),?_⟩⟩
   exact⟨_,_,_,_,vU (auZ vs ⟨b,o,.l 1,n,false,false⟩) hp,by rw[hx];rfl,by simp[cg.val,Vw.n,Sz.val]⟩
 case sl b o len z own=>
  obtain⟨B,s,q,e,hp,hm,oq,hx⟩:=hx
  split at h
  ·rename_i i d ow hf
   cases h
   obtain⟨k,v,o1,n1,o2,n2,hk,hv,hb,h1,h2,h3,h4,h5,h6⟩:=XB hf
   obtain⟨e1,e2⟩:=ext_eq h1
   obtain⟨e3,e4⟩:=ext_eq h2
   refine⟨Mg.refl _,λok=>⟨ok,?_⟩⟩
   rw[<-hb] at hp
   rw[show i=k by omega]
   obtain⟨_,_,_,_,rX,hv1,hv2⟩:=ok.2 k v hv
   rw[hp] at rX
   cases rX
   have hvn:v.n=n2:=e4
   refine⟨_,_,_,_,vU hv hp,?_,λho=> ?_,?_⟩
   ·show d+len.val*z<=v.n
    omega
   ·simp only[Bool.and_eq_true] at ho
    rw[h6] at ho
    have a1:=oq ho.1
    have a2:=hv2 ho.2
    show d+len.val*z=v.n
    omega
   ·refine hx.imp id λ⟨cap,pz,hx,hc⟩=>⟨cap,pz,?_,λho=> ?_⟩
    ·show x=Value.slice (some ⟨B,s+v.o.val+d,none⟩) len.val cap
     rw[hx,show s+o.val=s+v.o.val+d by omega]
    ·simp only[Bool.and_eq_true] at ho
     have a1:=hc ho.1
     rw[h6] at ho
     rw[if_pos ho.2]
     show s+v.o.val+d+cap*z<=e
     omega
  ·obtain⟨_,⟨_,h1⟩,_,h⟩:=aH.bind' h
   cases h
   generalize hu:(own&&vs.all λv=> !Nat.beq v.b b|| !v.own)=u
   have hu1:u=true->own=true∧∀v'∈vs,v'.b=b->v'.own=false:=λh=>by
    rw[<-hu] at h
    simp only[Bool.and_eq_true] at h
    refine⟨h.1,λv' hv' eC=> ?_⟩
    have:=List.all_eq_true.1 h.2 v' hv'
    rw[eC,Nat.beq_refl] at this
    simpa using this
   refine⟨⟨_,rfl⟩,λok=>⟨ok.snoc ⟨b,o,len,z,true,u⟩ h1.cv ⟨B,s,q,e,hp,hm,λho=>oq (hu1 ho).1⟩ (λho=>(hu1 ho).2),?_⟩⟩
   refine⟨_,_,_,_,vU (auZ vs ⟨b,o,len,z,true,u⟩) hp,by simp[cg.val,Vw.n,Sz.val],λ_=>by simp[cg.val,Vw.n,Sz.val],?_⟩
   refine hx.imp id λ⟨cap,pz,hx,hc⟩=>⟨cap,pz,by rw[hx];rfl,λho=> ?_⟩
   rw[if_pos ho]
   have:=hc (hu1 ho).1
   show s+o.val+0+cap*z<=e
   omega
 all_goals (cases h;exact⟨Mg.refl _,λok=>⟨ok,hx⟩⟩)
omit [ax] in
theorem apR {α:Type}{R:Pi->α->Value->Prop}(mono:∀{π π':Pi},Ext π π'->∀a x,R π a x->R π' a x){f:α->List Vw->Rd (α×List Vw)}{ff:List α->List Vw->Rd (List α×List Vw)}(hff:∀vs,ff [] vs=.ret ([],vs))(aV2:∀a l vs,ff (a::l) vs=(f a vs).bind λx=>(ff l x.2).bind λy=>.ret (x.1::y.1,y.2))
  {g:Gt}{π:Pi}(hf:∀{a a' vs iX l x},aH (f a vs) g (a',iX) l->R π a x->Loc R π vs a' iX x):∀{as as':List α} {vs iX:List Vw} {l:List Fp} {xs:List Value},aH (ff as vs) g (as',iX) l->bj (R π) as xs->Mg vs iX∧(II π vs->II π iX∧bj (R (piL π iX)) as' xs)
 | [],as',vs,iX,l,xs,h,hx=>by
  rw[hff] at h;cases h
  exact⟨Mg.refl _,λok=>⟨ok,by cases xs with|nil=>trivial|cons=>exact hx.elim⟩⟩
 |a::as,as',vs,iX,l,[],h,hx=>hx.elim
 |a::as,as',vs,iX,l,x::xs,h,⟨hx,hxs⟩=>by
  rw[aV2] at h
  obtain⟨p,⟨_,h1⟩,_,h⟩:=aH.bind' h
  obtain⟨y,⟨_,h2⟩,_,h⟩:=aH.bind' h
  cases h
  obtain⟨L1,L2⟩:=hf (a':=p.1) (iX:=p.2) h1 hx
  obtain⟨p1,p2⟩:=apR mono hff aV2 hf (as:=as) (as':=y.1) (iX:=y.2) h2 hxs
  refine⟨L1.trans p1,λok=> ?_⟩
  obtain⟨ok1,r1⟩:=L2 ok
  obtain⟨ok2,r2⟩:=p2 ok1
  exact⟨ok2,mono p1.ext _ _ r1,r2⟩
theorem adD {g:Gt}{π:Pi}:∀{b b':af} {vs iX:List Vw} {l:List Fp} {f:Nat->Value},aH (aI0 b vs) g (b',iX) l->(∀j,j<af.size b->(af.get b j).rel π (f j))->
  Mg vs iX∧(II π vs->II π iX)∧af.size b'=af.size b∧(II π vs->∀j,j<af.size b->(af.get b' j).rel (piL π iX) (f j))
 | [],b',vs,iX,l,f,h,_=>by
  cases h
  exact⟨Mg.refl _,id,rfl,λ_ j hj=>by rw[af.jT] at hj;omega⟩
 |.c v::r,b',vs,iX,l,f,h,hx=>by
  obtain⟨p,⟨_,h1⟩,_,h⟩:=aH.bind' h
  obtain⟨y,⟨_,h2⟩,_,h⟩:=aH.bind' h
  cases h
  obtain⟨L1,L2⟩:=aBp (c':=p.1) (iX:=p.2) h1 (hx 0 (by rw[af.size_cons,Sg.jd];omega))
  obtain⟨p1,p2,p3,p4⟩:=adD (b:=r) (b':=y.1) (iX:=y.2) (f:=λj=>f (j+1)) h2 (λj hj=>by
   have:=hx (j+1) (by rw[af.size_cons,Sg.jd];omega)
   rwa [<-af.je (l:=r) (j':=j) (by omega) (by omega)] at this)
  refine⟨L1.trans p1,λok=>p2 (L2 ok).1,by rw[af.size_cons,af.size_cons,p3];rfl,λok j hj=> ?_⟩
  obtain⟨ok1,r1⟩:=L2 ok
  cases j with
  |zero=>exact CV.c7 p1.ext _ _ r1
  |succ j=>
   rw[<-af.je (l:=y.1) (j':=j) (by omega) (by omega)]
   exact p4 ok1 j (by rw[af.size_cons,Sg.jd] at hj;omega)
 |.a n cols::r,b',vs,iX,l,f,h,hx=>by
  obtain⟨y,⟨_,h2⟩,_,h⟩:=aH.bind' h
  cases h
  obtain⟨p1,p2,p3,p4⟩:=adD (b:=r) (b':=y.1) (iX:=y.2) (f:=λj=>f (j+(Sg.a n cols).size)) h2 (λj hj=>by
   have:=hx (j+(Sg.a n cols).size) (by rw[af.size_cons];omega)
   rwa [af.jx (by omega),Nat.add_sub_cancel] at this)
  refine⟨p1,p2,by rw[af.size_cons,af.size_cons,p3],λok j hj=> ?_⟩
  rw[af.size_cons] at hj
  by_cases jZ:j<(Sg.a n cols).size
  ·have:=hx j (by rw[af.size_cons];omega)
   rw[af.de jZ,Sg.np] at this
   rw[af.de jZ,Sg.np]
   obtain⟨v,hv⟩:=aAj cols j
   rw[hv] at this ⊢
   exact this
  ·rw[af.jx (by omega)]
   have:=p4 ok (j-(Sg.a n cols).size) (by omega)
   rwa [Nat.sub_add_cancel (by omega)] at this
theorem aBq {g:Gt}{π:Pi}{r r':RV}{x:Value}{vs iX:List Vw}{l:List Fp}(h:aH (aOs r vs) g (r',iX) l)(hx:r.rel π x):Loc RV.rel π vs r' iX x:=by
 cases r with
 |c c=>
  obtain⟨p,⟨_,h1⟩,_,h⟩:=aH.bind' h
  cases h
  exact aBp (c':=p.1) (iX:=p.2) h1 hx
 |agg cs=>
  obtain⟨p,⟨_,h1⟩,_,h⟩:=aH.bind' h
  cases h
  obtain⟨arr,rfl,hr⟩:=hx
  obtain⟨l1,l2⟩:=hM hr
  obtain⟨p1,p2,p3,p4⟩:=adD (b':=p.1) (iX:=p.2) (f:=λj=>arr.toList.getD j undef) h1 (λj hj=>by
   obtain⟨x,hx,hr⟩:=l2 j hj
   simp only[List.getD,hx,Option.getD_some];exact hr)
  refine⟨p1,λok=>⟨p2 ok,arr,rfl,vC (by rw[l1,p3]) λj hj=> ?_⟩⟩
  obtain⟨x,hx,_⟩:=l2 j (by omega)
  have:=p4 ok j (by omega)
  simp only[List.getD,hx,Option.getD_some] at this
  exact⟨x,hx,this⟩
theorem awG {g:Gt}{π:Pi}{cs P3:List RV}{xs:List Value}{vs iX:List Vw}{l:List Fp}(h:aH (aAT cs vs) g (P3,iX) l)(hx:bj (RV.rel π) cs xs):Mg vs iX∧(II π vs->II π iX∧bj (RV.rel (piL π iX)) P3 xs):=
 apR (R:=RV.rel) (λh a x r=>RV.c7 h a x r) (f:=aOs) (ff:=aAT) (λ_=>rfl) (λ_ _ _=>rfl) (λh hx=>aBq h hx) h hx
theorem aM8 {g:Gt}{π:Pi}{r r':AV}{x:Value}{vs iX:List Vw}{l:List Fp}(h:aH (aS5 r vs) g (r',iX) l)(hx:r.rel π x):Loc AV.rel π vs r' iX x:=by
 cases r with
 |r c=>
  obtain⟨p,⟨_,h1⟩,_,h⟩:=aH.bind' h
  cases h
  exact aBq (r':=p.1) (iX:=p.2) h1 hx
 |tup cs=>
  obtain⟨p,⟨_,h1⟩,_,h⟩:=aH.bind' h
  cases h
  obtain⟨arr,rfl,hr⟩:=hx
  obtain⟨p1,p2⟩:=awG (P3:=p.1) (iX:=p.2) h1 hr
  exact⟨p1,λok=>⟨(p2 ok).1,arr,rfl,(p2 ok).2⟩⟩
 |fn f cs=>
  obtain⟨p,⟨_,h1⟩,_,h⟩:=aH.bind' h
  cases h
  obtain⟨arr,rfl,hr⟩:=hx
  obtain⟨p1,p2⟩:=awG (P3:=p.1) (iX:=p.2) h1 hr
  exact⟨p1,λok=>⟨(p2 ok).1,arr,rfl,(p2 ok).2⟩⟩
 |Tv=>cases h;exact⟨Mg.refl _,λok=>⟨ok,trivial⟩⟩
theorem aJv {g:Gt}{π:Pi}{cs P3:List AV}{xs:List Value}{vs iX:List Vw}{l:List Fp}(h:aH (aGK cs vs) g (P3,iX) l)(hx:bj (AV.rel π) cs xs):Mg vs iX∧(II π vs->II π iX∧bj (AV.rel (piL π iX)) P3 xs):=
 apR (R:=AV.rel) (λh a x r=>AV.c7 h a x r) (f:=aS5) (ff:=aGK) (λ_=>rfl) (λ_ _ _=>rfl) (λh hx=>aM8 h hx) h hx
structure aBr (π:Pi)(g:Gt)(w:World)(vs:List Vw)(v:Vw)(k:af):Prop where
 live:∃q,g.z v.b=some q
 size:af.size k=v.n
 rel:∀B s q e,π v.b=some (B,s,q,e)->∀j,j<v.n->∃x,cl w B (s+v.o.val+j)=some x∧(af.get k j).rel (piL π vs) x
theorem aBr.pre {π:Pi}{g:Gt}{w:World}{vs iX:List Vw}{v:Vw}{k:af}(h:aBr π g w vs v k)(p:Mg vs iX):aBr π g w iX v k:=
 ⟨h.live,h.size,λB s q e hb j hj=>let⟨x,hx,hr⟩:=h.rel B s q e hb j hj;⟨x,hx,CV.c7 p.ext _ _ hr⟩⟩
omit [ax] in
theorem aBs {α:Type}{l:List α}{x y:α}{j:Nat}(h:(l++[x])[j]? =some y):l[j]? =some y∨(j=l.length∧y=x):=by
 rcases Nat.lt_or_ge j l.length with hj|hj
 ·rw[List.getElem?_append_left hj] at h;exact .inl h
 ·rw[List.getElem?_append_right hj] at h
  have:j-l.length=0:=by
   have:=(List.getElem?_eq_some_iff.1 h).1;simp at this;omega
  rw[this] at h
  exact .inr ⟨by omega,by simpa using h.symm⟩
theorem aBt {π:Pi}{g:Gt}{w:World}(H:pZ π g.c g.z w):∀{fuel i:Nat} {vs iX:List Vw} {acc lh:List af} {l:List Fp},aH (aOt fuel i vs acc) g (lh,iX) l->acc.length=i->i<=vs.length->II π vs->(∀(j:Nat) v k,vs[j]? =some v->acc[j]? =some k->aBr π g w vs v k)->
  Mg vs iX∧II π iX∧lh.length=iX.length∧∀(j:Nat) v k,iX[j]? =some v->lh[j]? =some k->aBr π g w iX v k
 |0,_,_,_,_,_,_,h,_,_,_,_=>by cases h
 |fuel+1,i,vs,iX,acc,lh,l,h,hi,hi2,ok,aJw=>by
  simp only[aOt] at h
  split at h
  ·rename_i hn
   cases h
   have:vs.length<=i:=List.getElem?_eq_none_iff.1 hn
   exact⟨Mg.refl _,ok,by omega,aJw⟩
  ·rename_i v hv
   have me:i<vs.length:=(List.getElem?_eq_some_iff.1 hv).1
   cases h with|vw q k hz hs hk h=>
   obtain⟨x,⟨_,h1⟩,_,h⟩:=aH.bind' h
   obtain⟨B,s,e,hb,hle,_,hc⟩:=H.hp _ _ hz
   obtain⟨_,_,_,_,eC,hvb,_⟩:=ok.2 i v hv
   rw[hb] at eC;cases eC
   have hvn:v.ch.val*v.z=v.n:=rfl
   rw[hvn] at hs hk
   have hk:=hk hvb
   generalize hkk:aMT v.sl v.z k=k2 at h1
   have hk2:af.size k2=af.size k∧∀j,j<af.size k->af.get k2 j=af.get k j:=by
    rw[<-hkk]
    unfold aMT
    cases v.sl
    ·exact⟨rfl,λ_ _=>rfl⟩
    ·obtain⟨t1,t2⟩:=Xw v.z k
     obtain⟨t3,t4⟩:=auS (apF v.z k)
     exact⟨t3.trans t1,λj hj=>(t4 j).trans (t2 j hj)⟩
   have cell:∀j,j<v.n->∃y,cl w B (s+v.o.val+j)=some y∧(af.get k2 j).rel π y:=λj hj=>by
    obtain⟨y,hy,hr⟩:=hc (v.o.val+j) (by omega)
    rw[<-hk j hj,<-hk2.2 j (by omega)] at hr
    exact⟨y,by rw[show s+v.o.val+j=s+(v.o.val+j) by omega];exact hy,hr⟩
   obtain⟨p1,p2,p3,p4⟩:=adD (b':=x.1) (iX:=x.2) (f:=λj=>(cl w B (s+v.o.val+j)).getD undef) h1 (λj hj=>by
    obtain⟨y,hy,hr⟩:=cell j (by omega)
    rw[hy];exact hr)
   have hx2:=p1.length
   obtain⟨q1,q2,q3,q4⟩:=aBt H h (by simp[hi]) (by omega) (p2 ok) (λj u k' hu Jl=>by
    rcases aBs Jl with Jl| ⟨hj,rfl⟩
    ·have hj:j<acc.length:=(List.getElem?_eq_some_iff.1 Jl).1
     have hu':vs[j]? =some u:=by
      have:vs[j]? =some (vs[j]'(by omega)):=List.getElem?_eq_getElem _
      rw[this]
      have:=p1.get this
      rw[hu] at this;exact this.symm
     exact(aJw j u k' hu' Jl).pre p1
    ·have huv:u=v:=by
      rw[hj,hi] at hu
      have:=p1.get hv
      rw[hu] at this;exact Option.some.inj this
     subst huv
     refine⟨⟨q,hz⟩,by rw[p3,hk2.1,hs],λB' s' q' e' eC j hj'=> ?_⟩
     rw[hb] at eC;cases eC
     obtain⟨y,hy,_⟩:=cell j hj'
     have:=p4 ok j (by omega)
     rw[hy] at this
     exact⟨y,hy,this⟩)
   exact⟨p1.trans q1,q2,q3,q4⟩
end Go.Ab
namespace Go.Ab
variable [ax]
omit [ax] in
theorem NO (lh:List af)(j:Nat):hZ (lh.map some) j=(lh[j]?).map af.size:=by
 simp only[hZ,List.getElem?_map]
 cases lh[j]? <;>rfl
omit [ax] in
theorem aAl {lh:List af}{j i:Nat}{k:af}(h:lh[j]? =some k)(hi:i<k.size):hC (lh.map some) j i=k.get i:=by
 simp[hC,List.getElem?_map,h,hi]
theorem pZ.local {π:Pi}{g:Gt}{w:World}(H:pZ π g.c g.z w){vs:List Vw}{lh:List af}(ok:II π vs)(hl:lh.length=vs.length)(hv:∀(j:Nat) v k,vs[j]? =some v->lh[j]? =some k->aBr π g w vs v k):
  pZ (piL π vs) (hC (lh.map some)) (hZ (lh.map some)) w:=by
 have get:∀j n,hZ (lh.map some) j=some n->∃v k q B s e,vs[j]? =some v∧lh[j]? =some k∧af.size k=n∧aBr π g w vs v k∧g.z v.b=some q∧v.o.val+v.n<=q∧af.size k=v.n∧π v.b=some (B,s,q,e)∧s+q<=e∧(v.own=true->v.o.val+v.n=q):=λj n hz=>by
  rw[NO] at hz
  cases hk:lh[j]? with
  |none=>rw[hk] at hz;cases hz
  |some k=>
   rw[hk] at hz
   have hj:j<vs.length:=by rw[<-hl];exact(List.getElem?_eq_some_iff.1 hk).1
   have hvj:vs[j]? =some (vs[j]'hj):=List.getElem?_eq_getElem _
   have V:=hv j _ k hvj hk
   obtain⟨q,hq⟩:=V.live
   obtain⟨B,s,e,hb,zn,_⟩:=H.hp _ _ hq
   obtain⟨_,_,_,_,eC,hle,how⟩:=ok.2 j _ hvj
   rw[hb] at eC;cases eC
   exact⟨_,k,q,B,s,e,hvj,rfl,by simpa using hz,V,hq,hle,V.size,hb,zn,how⟩
 refine⟨H.am,λj B s q e hz hp zn=> ?_,λj n hz=> ?_,λj j' B s q e s' q' e' kZ hz rM hp rX i i1 i2 i3 i4=> ?_⟩
 ·cases hh:hZ (lh.map some) j with
  |none=>exact absurd hh hz
  |some n=>
   obtain⟨v,k,q0,B1,s1,e1,hvj,hk,hn,V,hq,hle,vS,hb,a0P,ho⟩:=get j n hh
   rw[vU hvj hb] at hp
   simp only[Option.some.injEq,Prod.mk.injEq] at hp
   obtain⟨rfl,hs1,_,he1⟩:=hp
   rw[<-hs1,<-he1] at zn
   refine H.lb v.b _ s1 q0 e1 (by simp[hq]) hb ?_
   split at zn<;>omega
 ·obtain⟨v,k,q,B,s,e,hvj,hk,hn,V,hq,hle,vS,hb,zn,ho⟩:=get j n hz
  obtain⟨_,_,_,eC,_,k1,k2⟩:=H.hp _ _ hq
  rw[hb] at eC;cases eC
  have hp:=vU hvj hb
  rw[<-vS,hn] at hp
  refine⟨B,s+v.o.val,_,hp,?_,λi i1 i2=> ?_,λi hi=> ?_⟩
  ·split
   ·rename_i h;have:=ho h;omega
   ·omega
  ·refine k1 i (by omega) ?_
   split at i2<;>omega
  ·obtain⟨y,hy,hr⟩:=V.rel B s q e hb i (by omega)
   refine⟨y,hy,?_⟩
   rw[aAl hk (by omega)]
   exact hr
 ·cases hh:hZ (lh.map some) j with
  |none=>exact hz hh
  |some n=>
  cases hh':hZ (lh.map some) j' with
  |none=>exact rM hh'
  |some n'=>
  obtain⟨v,k,q0,B1,s1,e1,hvj,hk,hn,V,hq,hle,vS,hb,zn,ho⟩:=get j n hh
  obtain⟨v',k',q0',B2,s2,e2,aV3,Jl,hn',V',hq',a0Q,a0R,eC,a0S,ho'⟩:=get j' n' hh'
  rw[vU hvj hb] at hp
  rw[vU aV3 eC] at rX
  simp only[Option.some.injEq,Prod.mk.injEq] at hp rX
  obtain⟨rfl,hs1,_,he1⟩:=hp
  obtain⟨rfl,TB,_,he2⟩:=rX
  rw[<-hs1] at i1
  rw[<-he1] at i2
  rw[<-TB] at i3
  rw[<-he2] at i4
  by_cases hbb:v.b=v'.b
  ·obtain⟨aTq,oq⟩:=ok.1 j j' v v' kZ hvj aV3 hbb
   rw[hbb] at hb hq
   rw[hb] at eC;cases eC
   cases h1:v.own<;>cases h2:v'.own<;>simp only[h1,h2,if_true,if_false,Bool.false_eq_true] at i2 i4
   ·omega
   ·have:=ho' h2;omega
   ·have:=ho h1;omega
   ·rcases oq with h|h
    ·rw[h1] at h;cases h
    ·rw[h2] at h;cases h
  ·refine H.dj v.b v'.b _ s1 q0 e1 s2 q0' e2 hbb (by simp[hq]) (by simp[hq']) hb eC i (by omega) ?_ (by omega) ?_
   ·split at i2<;>omega
   ·split at i4<;>omega
def piB (π πL:Pi)(n aJ m:Nat):Pi:=λb=>if aJ<=b∧b<aJ+m then πL (n+(b-aJ)) else π b
omit [ax] in
theorem TF {π πL:Pi}{n aJ m k:Nat}(h:k<m):piB π πL n aJ m (aJ+k)=πL (n+k):=by
 unfold piB;rw[if_pos (by omega),show aJ+k-aJ=k by omega]
omit [ax] in
theorem TG {π πL:Pi}{n aJ m b:Nat}(h:¬(aJ<=b∧b<aJ+m)):piB π πL n aJ m b=π b:=by
 unfold piB;rw[if_neg h]
structure Bck (π πL:Pi)(vs:List Vw)(aJ m:Nat):Prop where
 ext:Ext (piL π vs) πL
 dom:∀b,πL b≠none->b<vs.length+m
 fresh:∀b,aJ<=b->b<aJ+m->π b=none
 live:∀(j:Nat) v,vs[j]? =some v->∃B s q e,π v.b=some (B,s,q,e)∧v.o.val+v.n<=q∧(v.own=true->v.o.val+v.n=q)
omit [ax] in
theorem Bck.vd {π πL:Pi}{vs:List Vw}{aJ m:Nat}(K:Bck π πL vs aJ m){b:Nat}{p:Nat×Nat×Nat×Nat}(h:π b=some p):piB π πL vs.length aJ m b=some p:=by
 rw[TG,h]
 intro hc
 rw[K.fresh b hc.1 hc.2] at h;cases h
omit [ax] in
theorem Bck.ext' {π πL:Pi}{vs:List Vw}{aJ m:Nat}(K:Bck π πL vs aJ m):Ext π (piB π πL vs.length aJ m):=λ_ _ h=>K.vd h
omit [ax] in
theorem Bck.at {π πL:Pi}{vs:List Vw}{aJ m:Nat}(K:Bck π πL vs aJ m){j:Nat}{B s q e:Nat}(h:πL j=some (B,s,q,e)):
  (∃v s0 q0 e0,vs[j]? =some v∧π v.b=some (B,s0,q0,e0)∧s=s0+v.o.val∧q=v.n∧(e=if v.own then e0 else s0+v.o.val+v.n)∧v.o.val+v.n<=q0∧(v.own=true->v.o.val+v.n=q0))∨(vs[j]? =none∧vs.length<=j∧j-vs.length<m∧piB π πL vs.length aJ m (aJ+(j-vs.length))=some (B,s,q,e)):=by
 have hd:=K.dom j (by simp[h])
 cases hv:vs[j]? with
 |some v=>
  obtain⟨B0,s0,q0,e0,hp,hle,how⟩:=K.live j v hv
  have:=K.ext _ _ (vU hv hp)
  rw[h] at this
  simp only[Option.some.injEq,Prod.mk.injEq] at this
  obtain⟨rfl,h1,h2,h3⟩:=this
  exact .inl ⟨v,s0,q0,e0,rfl,hp,h1,h2,h3,hle,how⟩
 |none=>
  have hj:vs.length<=j:=List.getElem?_eq_none_iff.1 hv
  refine .inr ⟨rfl,hj,by omega,?_⟩
  rw[TF (by omega),show vs.length+(j-vs.length)=j by omega,h]
omit [ax] in
theorem cg.IJ (a b:cg):(a.plus b).val=a.val+b.val:=by
 cases a<;>cases b<;>simp only[cg.plus,cg.val]<;>first|omega|skip
 rename_i c i z d j y
 cases hz:Nat.beq z y with
 |true=>
  have:=Nat.eq_of_beq_eq_true hz
  subst this
  simp only[cg.val,Nat.add_mul];omega
 |false=>simp only[cg.val];omega
theorem Bck.aOF {π πL:Pi}{vs:List Vw}{aJ m:Nat}(K:Bck π πL vs aJ m)(c:CV)(x:Value)(h:c.rel πL x):(Jx vs aJ c).rel (piB π πL vs.length aJ m) x:=by
 cases c<;>simp only[Jx]
 case ptr j d n=>
  obtain⟨B,s,q,e,hp,hx,hm⟩:=h
  rcases K.at hp with⟨v,s0,q0,e0,hv,hb,hs,hq,he,hle,how⟩| ⟨hv,hj,hm2,hb⟩
  ·rw[hv]
   refine⟨B,s0,q0,e0,K.vd hb,?_,by rw[cg.IJ];omega⟩
   rw[hx,cg.IJ];congr 3;omega
  ·rw[hv]
   exact⟨B,s,q,e,hb,hx,hm⟩
 case cl f j d n=>
  obtain⟨B,s,q,e,hp,hx,hm⟩:=h
  rcases K.at hp with⟨v,s0,q0,e0,hv,hb,hs,hq,he,hle,how⟩| ⟨hv,hj,hm2,hb⟩
  ·rw[hv]
   refine⟨B,s0,q0,e0,K.vd hb,?_,by rw[cg.IJ];omega⟩
   rw[hx,cg.IJ];exact congrArg (λt=>Value.func (.func f) #[] #[.pointer (some ⟨B,t,none⟩)]) (by omega)
  ·rw[hv]
   exact⟨B,s,q,e,hb,hx,hm⟩
 case sl j d len z own=>
  obtain⟨B,s,q,e,hp,hm,oq,hx⟩:=h
  rcases K.at hp with⟨v,s0,q0,e0,hv,hb,hs,hq,he,hle,how⟩| ⟨hv,hj,hm2,hb⟩
  ·rw[hv]
   refine⟨B,s0,q0,e0,K.vd hb,by rw[cg.IJ];omega,λho=> ?_,hx.imp id λ⟨cap,pz,hx,hc⟩=>⟨cap,pz,?_,λho=> ?_⟩⟩
   ·simp only[Bool.and_eq_true] at ho
    have a1:=oq ho.1
    have a2:=how ho.2
    rw[cg.IJ];omega
   ·rw[hx,cg.IJ];congr 3;omega
   ·simp only[Bool.and_eq_true] at ho
    have:=hc ho.1
    rw[if_pos ho.2] at he
    rw[cg.IJ];omega
  ·rw[hv]
   exact⟨B,s,q,e,hb,hm,oq,hx⟩
 all_goals exact h
omit [ax] in
theorem aGV (vs:List Vw)(aJ:Nat)(x:FV):Jx vs aJ (.f x)=.f x:=rfl
omit [ax] in
theorem XC {α β γ:Type}{R:α->γ->Prop}{R':β->γ->Prop}{f:α->β}(hf:∀a c,R a c->R' (f a) c):∀{l:List α} {m:List γ},bj R l m->bj R' (l.map f) m
 | [],[],_=>trivial
 |_::_,_::_,⟨a,b⟩=>⟨hf _ _ a,XC hf b⟩
 | [],_::_,h=>h.elim
 |_::_,[],h=>h.elim
theorem Bck.aTr {π πL:Pi}{vs:List Vw}{aJ m:Nat}(K:Bck π πL vs aJ m)(c:RV)(x:Value)(h:c.rel πL x):(aOu vs aJ c).rel (piB π πL vs.length aJ m) x:=by
 cases c with
 |c c=>exact K.aOF c x h
 |agg cs=>
  obtain⟨a,hx,ha⟩:=h
  obtain⟨l1,l2⟩:=hM ha
  refine⟨a,hx,vC (by rw[HS,l1]) λj hj=> ?_⟩
  rw[HS] at hj
  obtain⟨x,hx,hr⟩:=l2 j hj
  exact⟨x,hx,by rw[auT (aGV vs aJ) _ _ hj];exact K.aOF _ _ hr⟩
theorem Bck.aYk {π πL:Pi}{vs:List Vw}{aJ m:Nat}(K:Bck π πL vs aJ m)(c:AV)(x:Value)(h:c.rel πL x):(aI1 vs aJ c).rel (piB π πL vs.length aJ m) x:=by
 cases c with
 |r r=>exact K.aTr r x h
 |tup cs=>obtain⟨a,hx,ha⟩:=h;exact⟨a,hx,XC K.aTr ha⟩
 |fn f cs=>obtain⟨a,hx,ha⟩:=h;exact⟨a,hx,XC K.aTr ha⟩
 |Tv=>trivial
omit [ax] in
theorem XD {all:List Vw}{aJ:Nat}:∀{vs:List Vw} {cs:List Ch} {us:List Up},yk all aJ vs cs=some (true,us)->
  (∀(i j:Nat) (v v':Vw),i≠j->vs[i]? =some v->vs[j]? =some v'->v.b=v'.b->(v.o.val+v.n<=v'.o.val∨v'.o.val+v'.n<=v.o.val))->
  vs.length=cs.length∧(∀(j:Nat) v b,vs[j]? =some v->cs[j]? =some (.set b)->af.size b=v.n)∧(∀u∈us,∃(j:Nat) (v:Vw) (b:af),vs[j]? =some v∧cs[j]? =some (.set b)∧u=.c v.b v.o (IG (Jx all aJ) b))∧
  (∀g,(ck us g).z=g.z∧(ck us g).t=g.t)∧
  ∀g (j:Nat) v b i,vs[j]? =some v->cs[j]? =some (.set b)->v.o.val<=i->i<v.o.val+v.n->(ck us g).c v.b i=Jx all aJ (af.get b (i-v.o.val))
 | [],[],us,h,_=>by
  simp[yk] at h;subst h
  exact⟨rfl,λj v b h=>by simp at h,λu h=>by simp at h,λg=>⟨rfl,rfl⟩,λg j v b i h=>by simp at h⟩
 |v0::vs,.kY::cs,us,h,hd=>by
  simp only[yk] at h
  obtain⟨h1,h2,h3,h4,h5⟩:=XD h (λi j v v' hij hi hj=>hd (i+1) (j+1) v v' (by omega) (by simpa using hi) (by simpa using hj))
  refine⟨by simp[h1],λj v b hv hc=> ?_,λu hu=> ?_,h4,λg j v b i hv hc=> ?_⟩
  ·cases j with
   |zero=>simp at hc
   |succ j=>exact h2 j v b (by simpa using hv) (by simpa using hc)
  ·obtain⟨j,v,b,e1,e2,e3⟩:=h3 u hu
   exact⟨j+1,v,b,by simpa using e1,by simpa using e2,e3⟩
  ·cases j with
   |zero=>simp at hc
   |succ j=>exact h5 g j v b i (by simpa using hv) (by simpa using hc)
 |v0::vs,.kill::cs,us,h,hd=>by
  simp only[yk] at h
  obtain⟨h1,h2,h3,h4,h5⟩:=XD h (λi j v v' hij hi hj=>hd (i+1) (j+1) v v' (by omega) (by simpa using hi) (by simpa using hj))
  refine⟨by simp[h1],λj v b hv hc=> ?_,λu hu=> ?_,h4,λg j v b i hv hc=> ?_⟩
  ·cases j with
   |zero=>simp at hc
   |succ j=>exact h2 j v b (by simpa using hv) (by simpa using hc)
  ·obtain⟨j,v,b,e1,e2,e3⟩:=h3 u hu
   exact⟨j+1,v,b,by simpa using e1,by simpa using e2,e3⟩
  ·cases j with
   |zero=>simp at hc
   |succ j=>exact h5 g j v b i (by simpa using hv) (by simpa using hc)
 |v0::vs,.set b0::cs,us,h,hd=>by
  simp only[yk] at h
  split at h
  ·rename_i p hu
   simp only[Option.some.injEq,Prod.mk.injEq,Bool.and_eq_true,beq_iff] at h
   obtain⟨⟨hg,vS⟩,rfl⟩:=h
   obtain⟨p1,us'⟩:=p
   simp only at hg
   subst hg
   obtain⟨h1,h2,h3,h4,h5⟩:=XD hu (λi j v v' hij hi hj=>hd (i+1) (j+1) v v' (by omega) (by simpa using hi) (by simpa using hj))
   have hlen:af.size (IG (Jx all aJ) b0)=v0.n:=by rw[HS,vS]
   refine⟨by simp[h1],λj v b hv hc=> ?_,λu hu=> ?_,λg=>⟨(h4 _).1,(h4 _).2⟩,λg j v b i hv hc i1 i2=> ?_⟩
   ·cases j with
    |zero=>simp at hv hc;subst hv hc;exact vS
    |succ j=>exact h2 j v b (by simpa using hv) (by simpa using hc)
   ·rcases List.mem_cons.1 hu with rfl|hu
    ·exact⟨0,v0,b0,rfl,rfl,rfl⟩
    ·obtain⟨j,v,b,e1,e2,e3⟩:=h3 u hu
     exact⟨j+1,v,b,by simpa using e1,by simpa using e2,e3⟩
   ·show(ck us' ((Up.c v0.b v0.o (IG (Jx all aJ) b0)).fU g)).c v.b i=_
    cases j with
    |succ j=>exact h5 _ j v b i (by simpa using hv) (by simpa using hc) i1 i2
    |zero=>
     simp at hv hc
     subst hv hc
     have W2:=oV (us:=us') (g:=(Up.c v0.b v0.o (IG (Jx all aJ) b0)).fU g) (p:=.c v0.b i) (λu hu ht=>by
      obtain⟨j,v,b,e1,e2,rfl⟩:=h3 u hu
      simp only[Up.Fy,HS,h2 j v b e1 e2] at ht
      have:=hd 0 (j+1) v0 v (by omega) rfl (by simpa using e1) ht.1.symm
      omega)
     simp only[Gt.at,PV.c.injEq] at W2
     rw[W2]
     simp only[Up.fU]
     rw[if_pos ⟨trivial,i1,by rw[hlen];exact i2⟩,auT (aGV all aJ) _ _ (by omega)]
  ·cases h
 | [],_::_,us,h,_=>by simp[yk] at h
 |_::_,[],us,h,_=>by simp[yk] at h
omit [ax] in
theorem adE:∀{vs:List Vw} {cs:List Ch} (g:Gt),vs.length=cs.length->
  (ck (ny vs cs) g).t=g.t∧(∀b,(∃(j:Nat) (v:Vw),vs[j]? =some v∧cs[j]? =some .kill∧v.b=b)->(ck (ny vs cs) g).z b=none)∧
  (∀b,¬(∃(j:Nat) (v:Vw),vs[j]? =some v∧cs[j]? =some .kill∧v.b=b)->(ck (ny vs cs) g).z b=g.z b∧∀i,(ck (ny vs cs) g).c b i=g.c b i)
 | [],[],g,_=>⟨rfl,λb ⟨j,v,h,_⟩=>by simp at h,λb _=>⟨rfl,λ_=>rfl⟩⟩
 |v0::vs,c::cs,g,hl=>by
  have hl':vs.length=cs.length:=by simpa using hl
  by_cases hc:c=.kill
  ·subst hc
   show(ck (ny vs cs) ((Up.kill v0.b).fU g)).t=_∧_
   obtain⟨h0,h1,h2⟩:=adE (vs:=vs) (cs:=cs) ((Up.kill v0.b).fU g) hl'
   refine⟨h0,λb hb=> ?_,λb hb=> ?_⟩
   ·show(ck (ny vs cs) ((Up.kill v0.b).fU g)).z b=none
    by_cases hx:∃(j:Nat) (v:Vw),vs[j]? =some v∧cs[j]? =some .kill∧v.b=b
    ·exact h1 b hx
    ·rw[(h2 b hx).1]
     obtain⟨j,v,e1,e2,e3⟩:=hb
     cases j with
     |zero=>simp at e1;subst e1;simp[Up.fU,e3]
     |succ j=>exact absurd ⟨j,v,by simpa using e1,by simpa using e2,e3⟩ hx
   ·have hx:¬∃(j:Nat) (v:Vw),vs[j]? =some v∧cs[j]? =some .kill∧v.b=b:=λ⟨j,v,e1,e2,e3⟩=>hb ⟨j+1,v,by simpa using e1,by simpa using e2,e3⟩
    have kZ:b≠v0.b:=λe=>hb ⟨0,v0,rfl,rfl,e.symm⟩
    obtain⟨k1,k2⟩:=h2 b hx
    refine⟨k1.trans (by simp[Up.fU,kZ]),λi=>(k2 i).trans (by simp[Up.fU,kZ])⟩
  ·have e:ny (v0::vs) (c::cs)=ny vs cs:=by cases c<;>first|rfl|exact absurd rfl hc
   rw[e]
   obtain⟨h0,h1,h2⟩:=adE (vs:=vs) (cs:=cs) g hl'
   refine⟨h0,λb ⟨j,v,e1,e2,e3⟩=> ?_,λb hb=>h2 b λ⟨j,v,e1,e2,e3⟩=>hb ⟨j+1,v,by simpa using e1,by simpa using e2,e3⟩⟩
   cases j with
   |zero=>simp at e2;exact absurd e2 hc
   |succ j=>exact h1 b ⟨j,v,by simpa using e1,by simpa using e2,e3⟩
 | [],_::_,_,h=>by simp at h
 |_::_,[],_,h=>by simp at h
omit [ax] in
theorem aiy {vs:List Vw}{aJ:Nat}:∀{bs:List af} {j0:Nat} (g:Gt),
  (ck (Fw vs aJ bs j0) g).t=g.t∧(∀(k:Nat) (b:af),bs[k]? =some b->(ck (Fw vs aJ bs j0) g).z (aJ+(j0+k))=some (af.size b)∧∀i,i<af.size b->(ck (Fw vs aJ bs j0) g).c (aJ+(j0+k)) i=Jx vs aJ (af.get b i))∧
  (∀b,¬(aJ+j0<=b∧b<aJ+j0+bs.length)->(ck (Fw vs aJ bs j0) g).z b=g.z b∧∀i,(ck (Fw vs aJ bs j0) g).c b i=g.c b i)∧ch (Fw vs aJ bs j0)=bs.length
 | [],j0,g=>⟨rfl,λk b h=>by simp at h,λb _=>⟨rfl,λ_=>rfl⟩,rfl⟩
 |b0::bs,j0,g=>by
  obtain⟨h0,h1,h2,h3⟩:=aiy (vs:=vs) (aJ:=aJ) (bs:=bs) (j0:=j0+1) ((Up.new (aJ+j0) (IG (Jx vs aJ) b0)).fU g)
  refine⟨h0,λk b hk=> ?_,λb hb=> ?_,?_⟩
  ·show(ck (Fw vs aJ bs (j0+1)) ((Up.new (aJ+j0) (IG (Jx vs aJ) b0)).fU g)).z _=_∧∀i,i<af.size b->(ck (Fw vs aJ bs (j0+1)) ((Up.new (aJ+j0) (IG (Jx vs aJ) b0)).fU g)).c _ i=_
   cases k with
   |zero=>
    simp at hk;subst hk
    obtain⟨k1,k2⟩:=h2 (aJ+(j0+0)) (by omega)
    refine⟨k1.trans (by simp[Up.fU,HS]),λi hi=>(k2 i).trans ?_⟩
    simp only[Up.fU,Nat.add_zero,if_true,HS,hi,if_true]
    exact auT (aGV vs aJ) _ _ hi
   |succ k=>
    have:=h1 k b (by simpa using hk)
    rw[show j0+1+k=j0+(k+1) by omega] at this
    exact this
  ·obtain⟨k1,k2⟩:=h2 b (by simp only[List.length_cons] at hb;omega)
   have kZ:b≠aJ+j0:=λe=>hb (by simp only[List.length_cons];omega)
   exact⟨k1.trans (by simp[Up.fU,kZ]),λi=>(k2 i).trans (by simp[Up.fU,kZ])⟩
  ·show ch (Up.new _ _::Fw vs aJ bs (j0+1))=_
   simp only[ch,List.filter_cons,if_true,List.length_cons]
   have:=h3
   simp only[ch] at this
   omega
end Go.Ab
