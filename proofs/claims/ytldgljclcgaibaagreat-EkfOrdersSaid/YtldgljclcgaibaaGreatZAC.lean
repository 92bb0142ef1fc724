/-
  Parts of the proof: AbP AbQ AbB AbC AbD AbE AbF
-/
import Derived.Test.YtldgljclcgaibaaGreatZAB
import Derived.Laws.StructEq
import Derived.Laws.Tables
import Derived.Laws.Append
import Derived.Laws.AppendOwn
open Nat renaming ble→wl
set_option linter.all false
namespace Go.Ab
variable [ax]
section
variable {P:Program} {o:Oper} {X:Cx} {D:Nat->Prop} {aJ:Nat} {us:List Up} {g:Gt}
omit [ax] in
theorem Qp (us vs:List Up)(g:Gt):cE (us++vs) g=cE vs (cE us g):=by simp[cE]
theorem aNm {t:TypeId}{x y:Operand}{fp:List Fp}(ho:o.op=.store t x y)
  (h:aI ((aM1 x).bind λp=>(aM0 y).bind λv=>(Ab.dX (iH P t)).bind λn=>(Ab.cH (Nat.beq (af.size v.bR) n&&wl n p.2.2)).bind λ_=>.sz p.1<| .ret (By (iN P t v.bR aJ).2 aJ++(dO o.dst udf++[.c p.1 p.2.1 (iN P t v.bR aJ).1]))) g us fp):zP P o X D aJ us g:=by
 obtain⟨p,⟨_,h1⟩,_,h⟩:=aI.bind' h;obtain⟨v,⟨_,h2⟩,_,h⟩:=aI.bind' h;obtain⟨n,⟨_,h3⟩,_,h⟩:=aI.bind' h;obtain⟨_,⟨_,h4⟩,_,h⟩:=aI.bind' h;cases h with|sz q hz h=>
 cases h;have h4:=h4.cH;simp only[cj,beq_iff,fa] at h4;obtain⟨h4,h5⟩:=h4;obtain⟨n1,n2,n3⟩:=avg P t v.bR aJ;generalize (iN P t v.bR aJ).1=k at n1 n2 n3
 generalize (iN P t v.bR aJ).2=es at n1 n2 n3
 intro π a w next Q R hk hf hd hD hn;obtain⟨B,s,q',e,hb,ha,hm⟩:=h1.aM1 R;have hc:=RV.Ox (h2.aM0 R);have hl:=(iY hc).1;obtain⟨B',s',e',eV,hle,k1,k2⟩:=R.hp.hp _ _ hz;rw[hb] at eV;cases eV
 have hcn:cB (By es aJ++(dO o.dst udf++[.c p.1 p.2.1 k]))=es.length:=by
  rw[aIY,ato];unfold dO cB;cases o.dst<;>rfl
 rw[hcn] at hf hn;obtain⟨π1,e1,e2,e3,R1⟩:=R.aE0 n2 hk hf;have hc1:=n3 π1 e3 _ (hc.imp (CV.dC e1))
 have Vf:(cE (By es aJ) g).z p.1=some q:=by
  have key:∀(es:List af) (aJ:Nat) (g:Gt),g.z p.1=some q->(∀b,aJ<=b->b<aJ+es.length->b≠p.1)->(cE (By es aJ) g).z p.1=some q:=by
   intro es;induction es with
   |nil=>intro aJ g h _;exact h
   |cons x es ih=>
    intro aJ g h mc;refine ih (aJ+1) _ ?_ (λb h1 h2=>mc b (by omega) (by simp only[Ls];omega));have:=mc aJ (cW _) (by simp);simp only[Up.gX];rw[if_neg (by omega)];exact h
  refine key es aJ g hz λb h1 h2 hbp=> ?_;have:=hf b h1 h2;rw[hbp,hb] at this;cases this
 have R2:=R1.set Vf (e1 _ _ hb) (o:=p.2.1) (vs:=k) (by rw[n1];omega) hc1 (hD (.c p.1 p.2.1 k) (by simp));have R3:=R2.dst hd (atn π1);refine aZV (w':=w.setCells B (s+p.2.1.val) (a.eval y).cells.toList) ?_ (hn _ _ π1 e1 e2 ?_)
 .have hst:=run_storeCells_cells (P:=P) B (s+p.2.1.val) (a.eval y).cells.toList 0 w
   (λj hj=>(k1 (s+p.2.1.val+0+j) (by omega) (by omega)).1) (λj hj=>(k1 (s+p.2.1.val+0+j) (by omega) (by omega)).2)
   (λx hx=>by
    obtain⟨i,hi⟩:=ayf.1 hx;obtain⟨c,_,hr⟩:=hc.get' hi;exact CV.Rb hr)
  have xI:(a.eval y).cells.size=n:=by rw[<-Wd];omega
  simp[execOp,ho,Instr.storeAt,ha,Instr.sureAddr,storeVar,run_sizeOf h3.dX,xI,hst]
 .have e1:cE (By es aJ++(dO o.dst udf++[.c p.1 p.2.1 k])) g=cE (dO o.dst udf) ((Up.c p.1 p.2.1 k).gX (cE (By es aJ) g)):=by
   rw[aEZ];cases o.dst<;>rfl
  rw[e1];exact R3
theorem aE2 {x:Operand}{fp:List Fp}(ho:o.op=.nilCheck x)
  (h:aI ((G9 x).bind λ|.ptr b q n=>.ret (dO o.dst (.r (.c (.ptr b q n))))|.fp l=>.ret (dO o.dst (.r (.c (.fp l))))|_=>.fail) g us fp):zP P o X D aJ us g:=by
 obtain⟨v,⟨_,h1⟩,_,h⟩:=aI.bind' h;split at h
 .rename_i b q n
  cases h;refine iC λπ a w R=> ?_;obtain⟨B,s,q',e,hb,ha,hm⟩:=h1.G9 R;refine⟨_,?_,B,s,q',e,hb,rfl,hm⟩;simp[execOp,ho,ha]
 .cases h;refine iC λπ a w R=> ?_;obtain⟨B,s,ha,hc⟩:=h1.G9 R;refine⟨_,?_,B,s,rfl,hc⟩;simp[execOp,ho,ha]
 .cases h
theorem aT3 {op:BinOp}{k:IntKind}{x y:Int}{v:FV}{fp:List Fp}(hs:op≠.shl/\op≠.shr)(h:aI (aXE op k x y) g v fp)(t:TypeId)(w:World):
  ∃z,(binOp op t (.int k x) (.int k y)).run P w=.ok z w/\v.rel z:=by
 unfold aXE at h;cases op<;>simp only[] at h
 case shl=>exact absurd rfl hs.1
 case shr=>exact absurd rfl hs.2
 case quo=>
  obtain⟨_,⟨_,h1⟩,_,h⟩:=aI.bind' h;cases h;have h1:¬y=0:=by simpa using h1.cH
  exact⟨_,by simp[binOp,Op.intDiv,h1],rfl⟩
 case rem=>
  obtain⟨_,⟨_,h1⟩,_,h⟩:=aI.bind' h;cases h;have h1:¬y=0:=by simpa using h1.cH
  exact⟨_,by simp[binOp,Op.intDiv,h1],rfl⟩
 case and=>obtain⟨n,⟨_,h1⟩,_,h⟩:=aI.bind' h;cases h;have h1:=h1.dX;simp only[ati,gS] at h1;subst h1;exact⟨_,by simp[binOp,Op.intBits],rfl⟩
 case or=>obtain⟨n,⟨_,h1⟩,_,h⟩:=aI.bind' h;cases h;have h1:=h1.dX;simp only[ati,gS] at h1;subst h1;exact⟨_,by simp[binOp,Op.intBits],rfl⟩
 case xor=>obtain⟨n,⟨_,h1⟩,_,h⟩:=aI.bind' h;cases h;have h1:=h1.dX;simp only[ati,gS] at h1;subst h1;exact⟨_,by simp[binOp,Op.intBits],rfl⟩
 case andNot=>obtain⟨n,⟨_,h1⟩,_,h⟩:=aI.bind' h;cases h;have h1:=h1.dX;simp only[ati,gS] at h1;subst h1;exact⟨_,by simp[binOp,Op.intBits],rfl⟩
 all_goals (cases h;exact⟨_,by simp[binOp,Op.intArith,Op.intCmp],rfl⟩)
theorem aAk {op:BinOp}{k k':IntKind}{x y:Int}{v:FV}{fp:List Fp}(h:aI (aSY op k x y) g v fp)(t:TypeId)(w:World):
  ∃z,(binOp op t (.int k x) (.int k' y)).run P w=.ok z w/\v.rel z:=by
 obtain⟨_,⟨_,h1⟩,_,h⟩:=aI.bind' h;have h1:¬y<0:=by simpa using h1.cH
 cases op<;>simp only[] at h
 case shl=>cases h;exact⟨_,by simp only[binOp,Op.shift,h1,fY];exact Sem.run_pure ..,rfl⟩
 case shr=>cases h;exact⟨_,by simp only[binOp,Op.shift,h1,fY];exact Sem.run_pure ..,rfl⟩
 all_goals cases h
omit [ax] in
theorem agG (op:BinOp)(t:TypeId)(x y:Operand)(k k':IntKind)(m n:Int)(w:World):(eqGuard op t x y (.int k m) (.int k' n)).run P w=.ok () w:=by
 cases op<;>simp[eqGuard]
omit [ax] in
theorem aHl (op:BinOp)(t:TypeId)(x y:Operand)(m n:Bool)(w:World):(eqGuard op t x y (.bool m) (.bool n)).run P w=.ok () w:=by
 cases op<;>simp[eqGuard]
omit [ax] in
theorem agH (op:BinOp)(t:TypeId)(x y:Operand)(m n:Option Addr)(w:World):(eqGuard op t x y (.pointer m) (.pointer n)).run P w=.ok () w:=by
 cases op<;>simp[eqGuard]
omit [ax] in
theorem avh {t:TypeId}{x y:Value}{r:Bool}{w:World}(hi:(∀k n,x≠.int k n))(hs:∀s,x≠.string s)(hf:∀k n,x≠.float k n)(hc:∀k n m,x≠.complex k n m)(h:(Op.equal t x y).run P w=.ok r w):(binOp .eql t x y).run P w=.ok (.bool r) w/\(binOp .neq t x y).run P w=.ok (.bool (!r)) w:=by
 cases x<;>first
  |exact absurd rfl (hi _ _)
  |exact absurd rfl (hs _)
  |exact absurd rfl (hf _ _)
  |exact absurd rfl (hc _ _ _)
  |(simp only[binOp];simp[h])
theorem aT4 {op:BinOp}{t:TypeId}{x y:RV}{v:RV}{fp:List Fp}(h:aI (aXH P op t x y) g v fp)(heq:∀r l,aI (eqV P t x y) g r l->∀π a b w,x.rel π a->y.rel π b->(∀(op:BinOp) (p q:Operand),(eqGuard op t p q a b).run P w=.ok () w)/\(binOp .eql t a b).run P w=.ok (.bool r) w/\(binOp .neq t a b).run P w=.ok (.bool (!r)) w)
  {π:Pi}{a b:Value}(hx:x.rel π a)(hy:y.rel π b)(p q:Operand)(w:World):
  ∃z,(do eqGuard op t p q a b;binOp op t a b:Sem Value).run P w=.ok z w/\v.rel π z:=by
 unfold aXH at h;split at h
 .rename_i k m k' n
  have ha:a=.int k m:=hx;have hb:b=.int k' n:=hy;subst ha hb;split at h
  .obtain⟨r,⟨_,h1⟩,_,h⟩:=aI.bind' h;cases h;obtain⟨z,hz,hr⟩:=aAk (P:=P) (k':=k') h1 t w;exact⟨z,by simp[agG,hz],hr⟩
  .obtain⟨r,⟨_,h1⟩,_,h⟩:=aI.bind' h;cases h;obtain⟨z,hz,hr⟩:=aAk (P:=P) (k':=k') h1 t w;exact⟨z,by simp[agG,hz],hr⟩
  .rename_i n1 n2
   split at h
   .rename_i hk
    subst hk;obtain⟨r,⟨_,h1⟩,_,h⟩:=aI.bind' h;cases h;obtain⟨z,hz,hr⟩:=aT3 (P:=P) ⟨λe=>n1 e,λe=>n2 e⟩ h1 t w;exact⟨z,by simp[agG,hz],hr⟩
   .cases h
 .split at h
  .obtain⟨r,⟨l1,h1⟩,_,h⟩:=aI.bind' h;cases h;obtain⟨e1,e2,_⟩:=heq r _ h1 π a b w hx hy;exact⟨.bool r,by simp[e1,e2],rfl⟩
  .obtain⟨r,⟨l1,h1⟩,_,h⟩:=aI.bind' h;cases h;obtain⟨e1,_,e2⟩:=heq r _ h1 π a b w hx hy;exact⟨.bool (!r),by simp[e1,e2],rfl⟩
  .cases h
theorem aRs {op:UnOp}{t:TypeId}{x:Operand}{fp:List Fp}(ho:o.op=.unOp op t x)
  (h:aI ((vM x).bind λa=>(unV op a).bind λv=>.ret (dO o.dst (.r v))) g us fp):zP P o X D aJ us g:=by
 obtain⟨r,⟨_,h1⟩,_,h⟩:=aI.bind' h;obtain⟨v,⟨_,h2⟩,_,h⟩:=aI.bind' h;cases h;refine iC λπ a w R=> ?_;have ha:=h1.vM R;unfold unV at h2;split at h2
 .have ha:a.eval x=_:=ha;cases h2;exact⟨_,by simp[execOp,ho,ha,Op.unary,Op.intArith],rfl⟩
 .have ha:a.eval x=_:=ha;obtain⟨n,⟨_,h3⟩,_,h2⟩:=aI.bind' h2;cases h2;have h3:=h3.dX;simp only[ati,gS] at h3;subst h3;exact⟨_,by simp[execOp,ho,ha,Op.unary,Op.intBits],rfl⟩
 .have ha:a.eval x=_:=ha;cases h2;exact⟨_,by simp[execOp,ho,ha,Op.unary],rfl⟩
 .cases h2
theorem aHm {s d:TypeId}{x:Operand}{fp:List Fp}(ho:o.op=.convert s d x)
  (h:aI ((vM x).bind λa=>(aRg P s d a).bind λv=>.ret (dO o.dst (.r v))) g us fp):zP P o X D aJ us g:=by
 obtain⟨r,⟨_,h1⟩,_,h⟩:=aI.bind' h;obtain⟨v,⟨_,h2⟩,_,h⟩:=aI.bind' h;cases h;refine iC λπ a w R=> ?_;have ha:=h1.vM R;unfold aRg at h2;split at h2
 .rename_i d1 k k' n hs hd
  have ha:a.eval x=_:=ha;cases h2;exact⟨_,by simp[execOp,ho,ha,convert,run_underlying hs,run_underlying hd,Conv.intToInt],rfl⟩
 .cases h2
theorem aE3 {t:TypeId}{x:Operand}{fp:List Fp}(ho:o.op=.sliceToArrayPointer t x)
  (h:aI ((G9 x).bind λc=>match P.underlying t,c with
   |some (.array n _),.sl b q len z _=>(Ab.cH (wl 1 n&&wl n len.val)).bind λ_=>(Rd.ret (CV.ptr b q (n*z))).bind λv=>.ret (dO o.dst (.r (.c v)))
   |_,_=>.fail) g us fp):zP P o X D aJ us g:=by
 obtain⟨r,⟨_,h1⟩,_,h⟩:=aI.bind' h;split at h
 .rename_i n e b q len z own hu
  obtain⟨_,⟨_,h2⟩,_,h⟩:=aI.bind' h;cases h;have h2:=h2.cH;simp only[cj,Nat.ble_eq] at h2;refine iC λπ a w R=> ?_;obtain⟨B,s,q',e,hb,hm,_,⟨h0,_⟩| ⟨cap,rz,ha,_⟩⟩:=h1.G9 R
  .omega
  .exact⟨_,by simp[execOp,ho,ha,Instr.arrayAt,run_underlying hu];intro mH;omega,B,s,q',e,hb,rfl,by
    have:=vL z h2.2;omega⟩
 .cases h
omit [ax] in
theorem apq {α β γ:Type}{R:α->γ->Prop}{f:β->γ}:∀{l:List α} {m:List β},bl (λa b=>R a (f b)) l m->bl R l (m.map f)
 | [],[],_=>trivial
 |_::_,_::_,⟨a,b⟩=>⟨a,apq b⟩
 | [],_::_,h=>h.elim
 |_::_,[],h=>h.elim
theorem aE4 {f:FuncId}{fs aeh:Array Operand}{fp:List Fp}(ho:o.op=.makeFunc (.func f) fs aeh)
  (h:aI (match fs.toList with
   | []=>(Ab.tH Ab.vM aeh.toList).bind λl=>.ret (dO o.dst (.fn f l))
   |_=>.fail) g us fp):zP P o X D aJ us g:=by
 split at h
 .rename_i hfs
  obtain⟨r,⟨_,h1⟩,_,h⟩:=aI.bind' h;cases h;refine iC λπ a w R=>⟨.func (.func f) #[] (aeh.map a.eval),?_,_,rfl,?_⟩
  .have:fs=#[]:=by
    rw[<-alu];exact hfs
   simp[execOp,ho,this,Instr.makeFunc]
  .have:=aI.tH (ρ:=λv x=>v.rel π (a.eval x)) (λx v l hx=>aI.vM hx R) h1;rw[Array.toList_map];exact apq this
 .cases h
theorem aNn {t:TypeId}{x:Operand}{i:Nat}{fp:List Fp}(ho:o.op=.field t x i)
  (h:aI ((vM x).bind λ|.agg cs=>(Ab.dX (agt P t i)).bind λf=>(Ot P f.type cs f.offset).bind λv=>.ret (dO o.dst (.r v))|_=>.fail) g us fp):zP P o X D aJ us g:=by
 obtain⟨r,⟨_,h1⟩,_,h⟩:=aI.bind' h;split at h
 .rename_i cs
  obtain⟨f,⟨_,h2⟩,_,h⟩:=aI.bind' h;obtain⟨v,⟨_,h3⟩,_,h⟩:=aI.bind' h;cases h;refine iC λπ a w R=> ?_;obtain⟨arr,ha,hx⟩:=h1.vM R;obtain⟨y,hy,hr⟩:=h3.Ot hx w;refine⟨y,?_,hr⟩;have h2:=h2.dX;unfold agt at h2;split at h2
  .rename_i fs hu
   simp[execOp,ho,Instr.field,run_underlying hu,h2,ha,asAgg,hy]
  .cases h2
 .cases h
omit [ax] in
theorem aI.aqB {i:Int}:∀{n j:Nat} {l:List Fp},aI (aqB i n) g j l->0<=i->i<(n:Int)+1->j=i.toNat
 |0,j,l,h,h1,h2=>by cases h;omega
 |n+1,j,l,h,h1,h2=>by
  cases h with|test h=>
  cases hx:i==((n+1:Nat):Int) with
  |true=>
   rw[hx] at h;cases h;have:=eq_of_beq hx;omega
  |false=>
   rw[hx] at h;have:=ayk hx;exact aI.aqB h h1 (by omega)
omit [ax] in
theorem cA.LA (o:cA)(d:Nat):(o.add d).val=o.val+d:=by
 cases o<;>simp only[cA.add,cA.val]<;>omega
omit [ax] in
theorem cA.aNo (o:cA)(j z n:Nat):(o.idx j z n).val=o.val+j*z:=by
 cases o with
 |k c=>rfl
 |x c i y=>
  simp only[cA.idx];split
  .rename_i hy
   rw[beq_iff] at hy;subst hy;simp only[cA.val];rw[pR,<-Nat.mul_assoc];omega
  .simp only[cA.val];omega
omit [ax] in
theorem cA.ayu (o:cA)(j z:Nat):(o.aMX j z).val=o.val+j*z:=by
 cases o with
 |k c=>rfl
 |x c i y=>
  simp only[cA.aMX];split
  .rename_i hy
   rw[beq_iff] at hy;subst hy;simp only[cA.val];rw[pR];omega
  .simp only[cA.val];omega
omit [ax] in
theorem aI.sel {o:cA}{i:Int}{n:Nat}{e:TypeId}{z:Nat}{o':cA}{l:List Fp}(h:aI (sel P o i n e z) g o' l)(h1:0<=i)(h2:i<(n:Int)):o'.val=o.val+i.toNat*z:=by
 unfold Ab.sel at h;split at h
 .cases h;exact cA.aNo ..
 .split at h
  .obtain⟨j,⟨_,h3⟩,_,h⟩:=aI.bind' h;cases h;rw[h3.aqB h1 (by omega),cA.LA]
  .cases h;exact cA.aNo ..
omit [ax] in
theorem aI.aM3 {o:cA}{i:Int}{n:Sz}{e:TypeId}{z:Nat}{o':cA}{l:List Fp}(h:aI (aM3 P o i n e z) g o' l)(h1:0<=i)(h2:i<(n.val:Int)):o'.val=o.val+i.toNat*z:=by
 unfold Ab.aM3 at h;split at h
 .split at h
  .obtain⟨j,⟨_,h3⟩,_,h⟩:=aI.bind' h;cases h;simp only[Sz.val] at h2;rw[h3.aqB h1 (by omega),cA.LA]
  .cases h;exact cA.ayu ..
 .cases h;exact cA.ayu ..
theorem aNp {t:TypeId}{x i:Operand}{fp:List Fp}(ho:o.op=.index t x i)
  (h:aI ((vM x).bind λv=>(KF i).bind λi=>match P.underlying t,v with
   |some (.array n e),.agg cs=>(Ab.dX (iH P e)).bind λz=>(Ab.cH (wl 1 z&&wl (n*z) (af.size cs))).bind λ_=>(Ab.cH (aX i.2 n)).bind λ_=>(Ab.sel P (.k 0) i.2 n e z).bind λo'=>(partOf P e cs o').bind λv=>.ret (dO o.dst (.r v))
   |some .string,.c (.f (.s b))=>(Ab.cH (aX i.2 b.size)).bind λ_=>.ret (dO o.dst (.r (.c (.f (.i .u8 (Em b i.2.toNat))))))
   |_,_=>.fail) g us fp):zP P o X D aJ us g:=by
 obtain⟨r,⟨_,h1⟩,_,h⟩:=aI.bind' h;obtain⟨j,⟨_,h2⟩,_,h⟩:=aI.bind' h;split at h
 .rename_i n e cs hu _
  obtain⟨z,⟨_,h3⟩,_,h⟩:=aI.bind' h;obtain⟨_,⟨_,h7⟩,_,h⟩:=aI.bind' h;obtain⟨_,⟨_,h4⟩,_,h⟩:=aI.bind' h;obtain⟨i',⟨_,h6⟩,_,h⟩:=aI.bind' h;obtain⟨v,⟨_,h5⟩,_,h⟩:=aI.bind' h;cases h;refine iC λπ a w R=> ?_;obtain⟨arr,ha,hx⟩:=h1.vM R;have h4:=h4.cH;simp only[aX,cj,ke] at h4;have h7:=h7.cH;simp only[cj,fa] at h7;have hi:i'.val=j.2.toNat*z:=(h6.sel h4.1 h4.2).trans (eX _)
  have hb:j.2.toNat*z+z<=n*z:=by
   have:=vL z (show j.2.toNat+1<=n by omega);rw[pR] at this;omega
  obtain⟨y,hy,hr⟩:=h5.partOf h3.dX h7.1 (by rw[hi];omega) hx w;rw[hi] at hy;refine⟨y,?_,hr⟩;simp[execOp,ho,Instr.index,run_underlying hu,h2.KF R,ha,asIntOf,h4,run_sizeOf h3.dX,hy]
 .rename_i b hu _
  obtain⟨_,⟨_,h4⟩,_,h⟩:=aI.bind' h;cases h;refine iC λπ a w R=> ?_;have ha:a.eval x=.string b:=h1.vM R;have h4:=h4.cH;simp only[aX,cj,ke] at h4;have hb:b[j.2.toNat]? =some (b[j.2.toNat]'(by omega)):=getElem?_pos ..;refine⟨.int .u8 (Em b j.2.toNat),?_,rfl⟩;unfold Em;rw[hb];simp[execOp,ho,Instr.index,run_underlying hu,h2.KF R,ha,asIntOf,h4.1,hb]
 .cases h
theorem aHn {x:Operand}{i:Nat}{fp:List Fp}(ho:o.op=.extract x i)
  (h:aI ((DW x).bind λ|.tup vs=>(Ab.dX (vs[i]?)).bind λv=>.ret (dO o.dst (.r v))|_=>.fail) g us fp):zP P o X D aJ us g:=by
 obtain⟨r,⟨_,h1⟩,_,h⟩:=aI.bind' h;split at h
 .rename_i vs
  obtain⟨v,⟨_,h2⟩,_,h⟩:=aI.bind' h;cases h;refine iC λπ a w R=> ?_;obtain⟨arr,ha,hx⟩:=h1.DW R;obtain⟨y,hy,hr⟩:=hx.get h2.dX;refine⟨y,?_,hr⟩;have hy:arr[i]? =some y:=by simpa using hy
  simp[execOp,ho,Instr.extract,ha,hy]
 .cases h
theorem aCC {t:TypeId}{x:Operand}{i:Nat}{fp:List Fp}(ho:o.op=.fieldAddr t x i)
  (h:aI ((G9 x).bind λc=>(aym P t c i).bind λv=>.ret (dO o.dst (.r (.c v)))) g us fp):zP P o X D aJ us g:=by
 obtain⟨r,⟨_,h1⟩,_,h⟩:=aI.bind' h;obtain⟨v,⟨_,h2⟩,_,h⟩:=aI.bind' h;cases h;refine iC λπ a w R=> ?_;have ha:=h1.G9 R;unfold aym at h2;split at h2
 .rename_i l
  obtain⟨f,⟨_,h3⟩,_,h2⟩:=aI.bind' h2;obtain⟨n,⟨_,h4⟩,_,h2⟩:=aI.bind' h2;obtain⟨_,⟨_,h5⟩,_,h2⟩:=aI.bind' h2;cases h2;obtain⟨B,s,ha,hc⟩:=ha;have h3:=h3.dX;have h5:=h5.cH;simp only[cj,fa] at h5;have hn:n≠0:=by omega
  unfold agt at h3;split at h3
  .rename_i fs hu
   refine⟨.pointer (some ⟨B,s+f.offset,none⟩),?_,B,s+f.offset,rfl,λj v hj=> ?_⟩
   .simp[execOp,ho,Instr.fieldAt,run_underlying hu,h3,ha,Instr.sureAddr,fieldPlace,run_sizeOf h4.dX,hn,mI]
   .rw[Wf] at hj;split at hj
    .rw[Lp] at hj;rw[Bw];exact hc _ v hj
    .cases hj
  .cases h3
 .rename_i b q m
  obtain⟨f,⟨_,h3⟩,_,h2⟩:=aI.bind' h2;obtain⟨n,⟨_,h4⟩,_,h2⟩:=aI.bind' h2;obtain⟨_,⟨_,h5⟩,_,h2⟩:=aI.bind' h2;cases h2;obtain⟨B,s,q',e,hb,ha,hm⟩:=ha;have h3:=h3.dX;have h5:=h5.cH;simp only[cj,fa] at h5;have hn:n≠0:=by omega
  unfold agt at h3;split at h3
  .rename_i fs hu
   refine⟨.pointer (some ⟨B,s+(q.add f.offset).val,none⟩),?_,B,s,q',e,hb,rfl,by rw[cA.LA];omega⟩;simp[execOp,ho,Instr.fieldAt,run_underlying hu,h3,ha,Instr.sureAddr,fieldPlace,run_sizeOf h4.dX,hn,mI,Bw,cA.LA]
  .cases h3
 .cases h2
theorem aCD {t:TypeId}{x i:Operand}{fp:List Fp}(ho:o.op=.indexAddr t x i)
  (h:aI ((G9 x).bind λc=>(KF i).bind λi=>(ayn P t c i.2).bind λv=>.ret (dO o.dst (.r (.c v)))) g us fp):zP P o X D aJ us g:=by
 obtain⟨r,⟨_,h1⟩,_,h⟩:=aI.bind' h;obtain⟨j,⟨_,h2⟩,_,h⟩:=aI.bind' h;obtain⟨v,⟨_,h3⟩,_,h⟩:=aI.bind' h;cases h;refine iC λπ a w R=> ?_;have ha:=h1.G9 R;unfold ayn at h3;split at h3
 .rename_i n e b q m hu _
  obtain⟨z,⟨_,h4⟩,_,h3⟩:=aI.bind' h3;obtain⟨_,⟨_,h7⟩,_,h3⟩:=aI.bind' h3;obtain⟨_,⟨_,h5⟩,_,h3⟩:=aI.bind' h3;obtain⟨o',⟨_,h6⟩,_,h3⟩:=aI.bind' h3;cases h3;obtain⟨B,s,q',e',hb,ha,hm⟩:=ha;have h5:=h5.cH;simp only[aX,cj,ke] at h5;have h7:=fa.1 h7.cH;have hi:=h6.sel h5.1 h5.2
  have hbd:j.2.toNat*z+z<=n*z:=by
   have:=vL z (show j.2.toNat+1<=n by omega);rw[pR] at this;omega
  refine⟨.pointer (some ⟨B,s+o'.val,none⟩),?_,B,s,q',e',hb,rfl,by omega⟩;rw[hi];simp[execOp,ho,Instr.indexAt,run_underlying hu,h2.KF R,ha,asIntOf,Instr.sureAddr,h5,run_sizeOf h4.dX,mI,Bw]
 .rename_i e b q len z' own hu _
  obtain⟨z,⟨_,h4⟩,_,h3⟩:=aI.bind' h3;obtain⟨_,⟨_,h6⟩,_,h3⟩:=aI.bind' h3;obtain⟨_,⟨_,h5⟩,_,h3⟩:=aI.bind' h3;obtain⟨o',⟨_,h8⟩,_,h3⟩:=aI.bind' h3;cases h3;have h5:=h5.cH;simp only[aX,cj,ke] at h5;have h6:=beq_iff.1 h6.cH;subst h6;have hi:=h8.aM3 h5.1 h5.2;obtain⟨B,s,q',e',hb,hm,_,⟨h0,_⟩| ⟨cap,rz,ha,_⟩⟩:=ha
  .omega
  .have hbd:j.2.toNat*z+z<=len.val*z:=by
    have:=vL z (show j.2.toNat+1<=len.val by omega);rw[pR] at this;omega
   refine⟨.pointer (some ⟨B,s+o'.val,none⟩),?_,B,s,q',e',hb,rfl,by omega⟩;rw[hi];simp[execOp,ho,Instr.indexAt,run_underlying hu,h2.KF R,ha,asIntOf,h5,run_sizeOf h4.dX,mI,Bw]
 .rename_i e n z' cols hu _
  obtain⟨z,⟨_,h4⟩,_,h3⟩:=aI.bind' h3;obtain⟨_,⟨_,h6⟩,_,h3⟩:=aI.bind' h3;obtain⟨_,⟨_,h5⟩,_,h3⟩:=aI.bind' h3;cases h3;have h5:=h5.cH;simp only[aX,cj,ke] at h5;have h6:=beq_iff.1 h6.cH;subst h6;obtain⟨hz,⟨h0,_⟩| ⟨B,s,cap,rz,ha,hc⟩⟩:=ha
  .omega
  .refine⟨.pointer (some ⟨B,s+j.2.toNat*z,none⟩),?_,B,s+j.2.toNat*z,rfl,λi f hi=> ?_⟩
   .simp[execOp,ho,Instr.indexAt,run_underlying hu,h2.KF R,ha,asIntOf,h5,run_sizeOf h4.dX,mI]
   .rw[Af,mm] at hi;obtain⟨q,hq,rfl⟩:=hi;have hil:=(ld.1 hq).1
    have hbd:j.2.toNat*z+z<=n*z:=by
     have:=vL z (show j.2.toNat+1<=n by omega);rw[pR] at this;omega
    obtain⟨f,v,e1,e2,e3⟩:=hc (j.2.toNat*z+i) (by omega);refine⟨v,by rw[Bw];exact e2,?_⟩
    have e4:iI cols (j.2.toNat*z+i)=.f (q.at j.2.toNat):=by
     unfold iI;rw[hz,ab1,atd,Nat.mul_add_div (by omega),alv (by omega),Nat.div_eq_of_lt (by omega),hq];rfl
    rw[e1] at e4;cases e4;exact e3
 .rename_i n e l hu _
  obtain⟨z,⟨_,h4⟩,_,h3⟩:=aI.bind' h3;obtain⟨_,⟨_,h7⟩,_,h3⟩:=aI.bind' h3;obtain⟨_,⟨_,h5⟩,_,h3⟩:=aI.bind' h3;obtain⟨o',⟨_,h6⟩,_,h3⟩:=aI.bind' h3;cases h3;obtain⟨B,s,ha,hc⟩:=ha;have h5:=h5.cH;simp only[aX,cj,ke] at h5;have hi:=h6.aqB (by omega) (by omega);refine⟨.pointer (some ⟨B,s+j.2.toNat*z,none⟩),?_,B,s+j.2.toNat*z,rfl,λi f hf=> ?_⟩
  .simp[execOp,ho,Instr.indexAt,run_underlying hu,h2.KF R,ha,asIntOf,Instr.sureAddr,h5,run_sizeOf h4.dX,mI]
  .rw[Wf] at hf;split at hf
   .rw[Lp,hi] at hf;rw[Bw];exact hc _ f hf
   .cases hf
 .cases h3
theorem aI.aAf {x:Option Operand}{v:Option Int}{l:List Fp}{π:Pi}{a:Act}{w:World}(h:aI (aAf x) g v l)(R:Rel X D π g a w):
  (x=none/\v=none)∨∃y k i,x=some y/\v=some i/\a.eval y=.int k i:=by
 cases x with
 |none=>cases h;exact .inl ⟨rfl,rfl⟩
 |some y=>
  obtain⟨r,⟨_,h1⟩,_,h⟩:=aI.bind' h;cases h;exact .inr ⟨y,r.1,r.2,rfl,rfl,h1.KF R⟩
omit [ax] in
theorem aI.UD {lo hi:Option Int}{n:Nat}{lh:Nat×Nat}{l:List Fp}(h:aI (UD lo hi n) g lh l):
  lh.1<=lh.2/\lh.2<=n/\((hi=none/\lh.2=n)∨∃i,hi=some i/\0<=i/\i<=n/\lh.2=i.toNat)/\((lo=none/\lh.1=0)∨∃i,lo=some i/\0<=i/\i<=lh.2/\lh.1=i.toNat):=by
 obtain⟨hh,⟨_,h1⟩,_,h⟩:=aI.bind' h;obtain⟨ll,⟨_,h2⟩,_,h⟩:=aI.bind' h;cases h
 have e1:hh<=n/\((hi=none/\hh=n)∨∃i,hi=some i/\0<=i/\i<=n/\hh=i.toNat):=by
  cases hi with
  |none=>cases h1;exact⟨cW _,.inl ⟨rfl,rfl⟩⟩
  |some i=>
   obtain⟨_,⟨_,h3⟩,_,h1⟩:=aI.bind' h1;cases h1;have h3:=h3.cH;simp only[KG,cj,ke] at h3;exact⟨by omega,.inr ⟨i,rfl,h3.1,h3.2,rfl⟩⟩
 have e2:ll<=hh/\((lo=none/\ll=0)∨∃i,lo=some i/\0<=i/\i<=hh/\ll=i.toNat):=by
  cases lo with
  |none=>cases h2;exact⟨Nat.zero_le _,.inl ⟨rfl,rfl⟩⟩
  |some i=>
   obtain⟨_,⟨_,h3⟩,_,h2⟩:=aI.bind' h2;cases h2;have h3:=h3.cH;simp only[KG,cj,ke] at h3;exact⟨by omega,.inr ⟨i,rfl,h3.1,h3.2,rfl⟩⟩
 exact⟨e2.1,e1.1,e1.2,e2.2⟩
end
end Go.Ab
namespace Go.Ab
variable [ax]
section
variable {P:Program} {o:Oper} {X:Cx} {D:Nat->Prop} {aJ:Nat} {us:List Up} {g:Gt}
def OI (x:Option Int)(v:Option Value):Prop:=(x=none/\v=none)∨∃k i,x=some i/\v=some (.int k i)
theorem aI.aXV {x:Option Operand}{v:Option Int}{l:List Fp}{π:Pi}{a:Act}{w:World}(h:aI (Ab.aAf x) g v l)(R:Rel X D π g a w):OI v (x.map a.eval):=by
 rcases h.aAf R with⟨rfl,rfl⟩| ⟨y,k,i,rfl,rfl,e⟩
 .exact .inl ⟨rfl,rfl⟩
 .exact .inr ⟨k,i,rfl,by simp[e]⟩
omit [ax] in
theorem vm {lo hi:Option Int}{n cap:Nat}{lh:Nat×Nat}{l:List Fp}(h:aI (Ab.UD lo hi n) g lh l)(hc:n<=cap){lv hv:Option Value}(h1:OI lo lv)(h2:OI hi hv)(isS:Bool)(w:World):
  (Instr.sliceBounds isS n cap lv hv none).run P w=.ok (lh.1,lh.2,cap) w:=by
 obtain⟨b1,b2,b3,b4⟩:=h.UD
 have eh:∀code,(match hv with
   |some v=>Instr.sliceBound v cap code
   |none=>(pure n:Sem Nat)).run P w=.ok lh.2 w:=λcode=>by
  rcases h2 with⟨rfl,rfl⟩| ⟨k,i,rfl,rfl⟩
  .rcases b3 with⟨_,e⟩| ⟨i,e,_⟩
   .simp[e]
   .cases e
  .rcases b3 with⟨e,_⟩| ⟨i',e,c1,c2,c3⟩
   .cases e
   .cases e;simp only[Instr.sliceBound,asIntOf,Sem.run_bind,Sem.run_pure,Result.andThen_ok];rw[if_pos ⟨c1,by omega⟩,c3];exact Sem.run_pure ..
 have el:∀code,(match lv with
   |some v=>Instr.sliceBound v lh.2 code
   |none=>(pure 0:Sem Nat)).run P w=.ok lh.1 w:=λcode=>by
  rcases h1 with⟨rfl,rfl⟩| ⟨k,i,rfl,rfl⟩
  .rcases b4 with⟨_,e⟩| ⟨i,e,_⟩
   .simp[e]
   .cases e
  .rcases b4 with⟨e,_⟩| ⟨i',e,c1,c2,c3⟩
   .cases e
   .cases e;simp only[Instr.sliceBound,asIntOf,Sem.run_bind,Sem.run_pure,Result.andThen_ok];rw[if_pos ⟨c1,c2⟩,c3];exact Sem.run_pure ..
 have eh':=eh (if isS then .sliceAcap else .sliceAlen);have el':=el .sliceB;cases hv<;>cases lv<;>simp_all [Instr.sliceBounds]
omit [ax] in
theorem aXW (q:Bool)(n:Nat):(szQ q n).val=n:=by cases q<;>rfl
omit [ax] in
theorem atp {q:Bool}{lo hi:Option Int}{n:Sz}{lh:Nat×Nat}{l:List Fp}(h:aI (Ab.UD lo hi n.val) g lh l):(lenOf q lo hi n lh).val=lh.2-lh.1:=by
 obtain⟨b1,b2,b3,b4⟩:=h.UD;cases lo<;>cases hi<;>simp only[lenOf,aXW]
 .rcases b3 with⟨_,e⟩| ⟨i,e,_⟩
  .rcases b4 with⟨_,e'⟩| ⟨i,e',_⟩
   .omega
   .cases e'
  .cases e
 .rcases b4 with⟨_,e'⟩| ⟨i,e',_⟩
  .omega
  .cases e'
omit [ax] in
theorem aE5 {qq:Bool}{lo hi:Option Int}{n:Nat}{lh:Nat×Nat}{l:List Fp}(h:aI (Ab.UD lo hi n) g lh l)(o:cA)(z:Nat):(agv qq lo o lh.1 z).val=o.val+lh.1*z:=by
 obtain⟨b1,b2,b3,b4⟩:=h.UD;cases lo<;>simp only[agv]
 .rcases b4 with⟨_,e'⟩| ⟨i,e',_⟩
  .rw[e'];omega
  .cases e'
 .cases qq
  .exact cA.ayu ..
  .exact cA.LA ..
theorem aNq {t:TypeId}{x:Operand}{lo hi:Option Operand}{fp:List Fp}(ho:o.op=.slice t x lo hi none)
  (h:aI ((G9 x).bind λc=>(Ab.aAf lo).bind λl=>(Ab.aAf hi).bind λh=>(aKG P t c (uV lo&&uV hi) l h).bind λv=>.ret (dO o.dst (.r (.c v)))) g us fp):zP P o X D aJ us g:=by
 obtain⟨r,⟨_,h1⟩,_,h⟩:=aI.bind' h;obtain⟨l,⟨_,h2⟩,_,h⟩:=aI.bind' h;obtain⟨hh,⟨_,h3⟩,_,h⟩:=aI.bind' h;obtain⟨v,⟨_,h4⟩,_,h⟩:=aI.bind' h;cases h;refine iC λπ a w R=> ?_;have ha:=h1.G9 R;have ol:=h2.aXV R;have oh:=h3.aXV R;unfold aKG at h4;split at h4
 .rename_i n e b q m hu _ _
  obtain⟨z,⟨_,h5⟩,_,h4⟩:=aI.bind' h4;obtain⟨_,⟨_,h7⟩,_,h4⟩:=aI.bind' h4;obtain⟨lh,⟨_,h6⟩,_,h4⟩:=aI.bind' h4;cases h4;have h7:=fa.1 h7.cH;obtain⟨B,s,q',e',hb,ha,hm⟩:=ha;have hr:=vm (P:=P) h6 (cW n) ol oh false w;obtain⟨b1,b2,_,_⟩:=h6.UD;have hl:=atp (q:=uV lo&&uV hi) (n:=.l n) h6;have aE6:=aE5 (qq:=uV lo&&uV hi) h6 q z;refine⟨_,by simp[execOp,ho,Instr.sliceAt,run_underlying hu,ha,Instr.sureAddr,hr,run_sizeOf h5.dX];rfl,?_⟩;show CV.rel π (.sl b (agv (uV lo&&uV hi) l q lh.1 z) (lenOf (uV lo&&uV hi) l hh (.l n) lh) z false) _
  have hbd:(agv (uV lo&&uV hi) l q lh.1 z).val+(lenOf (uV lo&&uV hi) l hh (.l n) lh).val*z<=q':=by
   rw[hl,aE6];have:lh.1*z+(lh.2-lh.1)*z=lh.2*z:=by rw[<-pR];congr 1;omega
   have:=vL z b2;omega
  refine⟨B,s,q',e',hb,hbd,(λh=>by cases h),?_⟩;by_cases hm2:n=lh.1
  .left
   refine⟨by omega,some ⟨B,s+q.val,none⟩,?_⟩;rw[if_pos hm2];have e1:lh.2-lh.1=0:=by omega
   have e2:n-lh.1=0:=by omega
   rw[e1,e2]
  .right
   refine⟨n-lh.1,by omega,?_,λh=>by cases h⟩;rw[if_neg hm2,mI,Bw,hl,aE6]
 .rename_i e b q len z own hu _ _
  obtain⟨z',⟨_,h5⟩,_,h4⟩:=aI.bind' h4;obtain⟨_,⟨_,h7⟩,_,h4⟩:=aI.bind' h4;obtain⟨lh,⟨_,h6⟩,_,h4⟩:=aI.bind' h4;cases h4;have hz:z=z':=beq_iff.1 h7.cH;subst hz;obtain⟨b1,b2,b3,b4⟩:=h6.UD;have hl:=atp (q:=aqC (uV lo&&uV hi) len) h6;have aE6:=aE5 (qq:=aqC (uV lo&&uV hi) len) h6 q z;have e4:lh.1*z+(lh.2-lh.1)*z=lh.2*z:=by rw[<-pR];congr 1;omega
  obtain⟨B,s,q',e',hb,hm,pE,ha⟩:=ha
  have hbd:(agv (aqC (uV lo&&uV hi) len) l q lh.1 z).val+(lenOf (aqC (uV lo&&uV hi) len) l hh len lh).val*z<=q':=by
   clear ha
   rw[hl,aE6];have:=vL z b2;omega
  have a1Q:hh.isNone=true->lh.2=len.val:=λh=>by
   rcases b3 with⟨_,e⟩| ⟨i,e,_⟩
   .exact e
   .rw[e] at h;cases h
  have aNr:(own&&hh.isNone)=true->(agv (aqC (uV lo&&uV hi) len) l q lh.1 z).val+(lenOf (aqC (uV lo&&uV hi) len) l hh len lh).val*z=q':=λh=>by
   clear ha
   simp only[cj] at h;have:=pE h.1;rw[hl,aE6];rw[a1Q h.2] at e4 ⊢;omega
  rcases ha with⟨h0,y,ha⟩| ⟨cap,rz,ha,aRt⟩
  .have hr:=vm (P:=P) h6 (cW _) ol oh true w;clear b3 b4
   have e1:lh.1=0:=by omega
   have e2:lh.2=0:=by omega
   rw[h0] at hr;refine⟨.slice y 0 0,by simp[execOp,ho,Instr.sliceAt,Instr.slice,run_underlying hu,ha,hr,run_sizeOf h5.dX,e1,e2],B,s,q',e',hb,hbd,aNr,.inl ⟨by omega,y,rfl⟩⟩
  .have hr:=vm (P:=P) h6 rz ol oh true w;refine⟨_,by simp[execOp,ho,Instr.sliceAt,Instr.slice,run_underlying hu,ha,hr,run_sizeOf h5.dX];rfl,?_⟩;show CV.rel π (.sl b (agv (aqC (uV lo&&uV hi) len) l q lh.1 z) (lenOf (aqC (uV lo&&uV hi) len) l hh len lh) z (own&&hh.isNone)) _;refine⟨B,s,q',e',hb,hbd,aNr,?_⟩;by_cases hm2:cap=lh.1
   .left
    refine⟨by omega,some ⟨B,s+q.val,none⟩,?_⟩;rw[if_pos hm2];have e1:lh.2-lh.1=0:=by omega
    have e2:cap-lh.1=0:=by omega
    rw[e1,e2]
   .right
    refine⟨cap-lh.1,by omega,?_,λh=> ?_⟩
    .rw[if_neg hm2,mI,Bw,hl,aE6]
    .simp only[cj] at h;have hw2:=aRt h.1;have e3:lh.1*z+(cap-lh.1)*z=cap*z:=by rw[<-pR];congr 1;omega
     rw[aE6];omega
 .rename_i e hu _ _
  obtain⟨z,⟨_,h5⟩,_,h4⟩:=aI.bind' h4;obtain⟨lh,⟨_,h6⟩,_,h4⟩:=aI.bind' h4;cases h4;have ha:a.eval x=.slice none 0 0:=ha;have hr:=vm (P:=P) h6 (cW 0) ol oh true w;obtain⟨b1,b2,b3,b4⟩:=h6.UD;have e1:lh.1=0:=by omega
  have e2:lh.2=0:=by omega
  exact⟨.slice none 0 0,by simp[execOp,ho,Instr.sliceAt,Instr.slice,run_underlying hu,ha,hr,run_sizeOf h5.dX,e1,e2],rfl⟩
 .rename_i e n z cols hu _ _
  obtain⟨z',⟨_,h5⟩,_,h4⟩:=aI.bind' h4;obtain⟨_,⟨_,h7⟩,_,h4⟩:=aI.bind' h4;obtain⟨lh,⟨_,h6⟩,_,h4⟩:=aI.bind' h4;cases h4;have hz:z=z':=beq_iff.1 h7.cH;subst hz;obtain⟨b1,b2,b3,b4⟩:=h6.UD;have hl:=atp (q:=false) (n:=.s n) h6;have hfl:(au0 l lh.1 cols).length=cols.length:=by unfold au0;split<;>simp
  have hfg:∀j,iI (au0 l lh.1 cols) j=iI cols (lh.1*cols.length+j):=λj=>by
   unfold au0;split
   .rcases b4 with⟨_,e⟩| ⟨i,e,_⟩
    .rw[e,SP,eX]
    .cases e
   .exact aAh ..
  obtain⟨hz,ha⟩:=ha;rcases ha with⟨h0,y,ha⟩| ⟨B,s,cap,rz,ha,hc⟩
  .have hr:=vm (P:=P) h6 (cW _) ol oh true w;clear b3 b4
   have e1:lh.1=0:=by omega
   have e2:lh.2=0:=by omega
   rw[h0] at hr;exact⟨.slice y 0 0,by simp[execOp,ho,Instr.sliceAt,Instr.slice,run_underlying hu,ha,hr,run_sizeOf h5.dX,e1,e2],hfl.trans hz,.inl ⟨by omega,y,rfl⟩⟩
  .have hr:=vm (P:=P) h6 rz ol oh true w;refine⟨_,by simp[execOp,ho,Instr.sliceAt,Instr.slice,run_underlying hu,ha,hr,run_sizeOf h5.dX];rfl,hfl.trans hz,?_⟩;by_cases hm2:cap=lh.1
   .left
    refine⟨by omega,some ⟨B,s,none⟩,?_⟩;rw[if_pos hm2];have e1:lh.2-lh.1=0:=by omega
    have e2:cap-lh.1=0:=by omega
    rw[e1,e2]
   .right
    refine⟨B,s+lh.1*z,cap-lh.1,by omega,by rw[if_neg hm2,mI,hl],λj hj=> ?_⟩;rw[hl] at hj;have e4:lh.1*z+(lh.2-lh.1)*z=lh.2*z:=by rw[<-pR];congr 1;omega
    have e5:=vL z b2;obtain⟨f,v,f1,f2,f3⟩:=hc (lh.1*z+j) (by omega);exact⟨f,v,by rw[hfg,hz];exact f1,by rw[Bw];exact f2,f3⟩
 .cases h4
omit [ax] in
theorem aNs (vs:List Value):∀(off k:Nat) (cs:Array Value),off+k+vs.length<=cs.size->
  ((vs.zipIdx k).foldl (λ(cs:Array Value) (x:Value×Nat)=>cs.setIfInBounds (off+x.2) x.1) cs).size=cs.size/\
  ∀i d,((vs.zipIdx k).foldl (λ(cs:Array Value) (x:Value×Nat)=>cs.setIfInBounds (off+x.2) x.1) cs).getD i d=if off+k<=i/\i<off+k+vs.length then vs.getD (i-(off+k)) d else cs.getD i d:=by
 induction vs with
 |nil=>intro off k cs _;refine⟨rfl,λi d=> ?_⟩;rw[if_neg (by simp)];rfl
 |cons v vs ih=>
  intro off k cs h;simp only[Ls] at h;rw[List.zipIdx_cons,List.foldl_cons];obtain⟨h1,h2⟩:=ih off (k+1) (cs.setIfInBounds (off+k) v) (by simp;omega);refine⟨by simpa using h1,λi d=> ?_⟩;rw[h2];simp only[Ls];by_cases c1:off+(k+1)<=i/\i<off+(k+1)+vs.length
  .rw[if_pos c1,if_pos (by omega),show i-(off+k)=(i-(off+(k+1)))+1 by omega];simp[List.getD]
  .rw[if_neg c1];by_cases c2:i=off+k
   .subst c2;rw[if_pos (by omega)];simp[Array.getD,show off+k<cs.size by omega]
   .rw[if_neg (by omega)];simp[aqz,aSQ (Ne.symm c2)]
theorem aXX {π:Pi}{cs SQ vs:af}{arr:Array Value}{xs:Array Value}{off:Nat}(h1:bl (CV.rel π) cs.list arr.toList)(h2:bl (CV.rel π) vs.list xs.toList)(hle:off+af.size vs<=af.size cs)(hu:aly cs off vs=some SQ):
  bl (CV.rel π) SQ.list (xs.zipIdx.foldl (λ(cs:Array Value) (x:Value×Nat)=>cs.setIfInBounds (off+x.2) x.1) arr).toList:=by
 obtain⟨l1,g1⟩:=iY h1;obtain⟨l2,g2⟩:=iY h2;obtain⟨u1,u2⟩:=Ow hu;simp only[Wd] at l1 l2;have key:=aNs xs.toList off 0 arr (by simp only[Wd];omega)
 have e:(xs.zipIdx.foldl (λ(cs:Array Value) (x:Value×Nat)=>cs.setIfInBounds (off+x.2) x.1) arr)=((xs.toList.zipIdx 0).foldl (λ(cs:Array Value) (x:Value×Nat)=>cs.setIfInBounds (off+x.2) x.1) arr):=by
  rw[<-Array.foldl_toList];simp
 rw[e];refine xq (by rw[Wd,key.1,u1,l1]) λj hj=> ?_;rw[u1] at hj;have xI:j<((xs.toList.zipIdx 0).foldl (λ(cs:Array Value) (x:Value×Nat)=>cs.setIfInBounds (off+x.2) x.1) arr).size:=by rw[key.1,l1];exact hj
 have hk:=key.2 j undef;rw[aqz,ai1 xI,Lq] at hk;refine⟨_,by rw[Wc,ai1 xI],?_⟩;rw[hk,u2 j hj];simp only[jM,Wd,l2];by_cases c:off<=j/\j<off+af.size vs
 .rw[if_pos c,if_pos c];obtain⟨x,hx,hr⟩:=g2 (j-off) (by omega);simp only[List.getD,hx,Lq];exact hr
 .rw[if_neg c,if_neg c];obtain⟨x,hx,hr⟩:=g1 j hj;rw[Wc] at hx;simp only[aqz,hx,Lq];exact hr
theorem agI {π:Pi}{pl:Nat->Option (Nat×Nat)}:∀{l:List (Nat×RV)} {l':List (Nat×Value)} {cs SQ:af} {arr:Array Value},bl (λ(p:Nat×RV) (q:Nat×Value)=>p.1=q.1/\p.2.rel π q.2) l l'->alB pl cs l=some SQ->bl (CV.rel π) cs.list arr.toList->
  ∃aTc,Instr.fill pl arr l'=some aTc/\bl (CV.rel π) SQ.list aTc.toList/\af.size SQ=af.size cs
 | [],[],cs,SQ,arr,_,h,ha=>by simp[alB] at h;subst h;exact⟨arr,rfl,ha,rfl⟩
 |(i,v)::l,(i',x)::l',cs,SQ,arr,⟨⟨hi,hv⟩,hl⟩,h,ha=>by
  have hi:i=i':=hi;subst hi;simp only[alB] at h;split at h
  .cases h
  .rename_i q n hpl
   split at h
   .rename_i hc
    simp only[cj,beq_iff,fa] at hc;obtain⟨c1,c2⟩:=hc;split at h
    .rename_i cs1 hu
     have hcx:bl (CV.rel π) v.bR.list x.cells.toList:=RV.Ox hv;have l1:=(iY hcx).1;have l2:=(iY ha).1;simp only[Wd] at l1 l2;obtain⟨aTc,h1,h2,h3⟩:=agI (pl:=pl) hl h (aXX ha hcx (by omega) hu);refine⟨aTc,?_,h2,h3.trans (Ow hu).1⟩;simp only[Instr.fill,hpl];rw[if_neg (by simp;omega)];exact h1
    .cases h
   .cases h
 | [],_::_,_,_,_,h,_,_=>h.elim
 |_::_,[],_,_,_,h,_,_=>h.elim
theorem aE7 {ps:Array (Nat×Operand)}{l:List (Nat×RV)}{fp:List Fp}{π:Pi}{a:Act}{w:World}(h:aI (Ab.tH (λp:Nat×Operand=>(vM p.2).bind λv=>.ret (p.1,v)) ps.toList) g l fp)(R:Rel X D π g a w):
  bl (λ(p:Nat×RV) (q:Nat×Value)=>p.1=q.1/\p.2.rel π q.2) l (ps.map λ(i,x)=>(i,a.eval x)).toList:=by
 have:=aI.tH (ρ:=λ(p:Nat×RV) (x:Nat×Operand)=>p.1=x.1/\p.2.rel π (a.eval x.2)) (λx v l hx=>by
  obtain⟨r,⟨_,h1⟩,_,h2⟩:=aI.bind' hx;cases h2;exact⟨rfl,h1.vM R⟩) h
 rw[Array.toList_map];exact apq this
theorem aNt {t:TypeId}{ps:Array (Nat×Operand)}{fp:List Fp}(ho:o.op=.build t ps)
  (h:aI ((Ab.dX (Ah P t)).bind λz=>(Ab.tH (λp=>(vM p.2).bind λv=>.ret (p.1,v)) ps.toList).bind λl=>(Ab.dX (placesOf P t)).bind λpl=>(Ab.dX (alB pl z.bR l)).bind λcs=>.ret (dO o.dst (.r (.agg cs)))) g us fp):zP P o X D aJ us g:=by
 obtain⟨z,⟨_,h1⟩,_,h⟩:=aI.bind' h;obtain⟨l,⟨_,h2⟩,_,h⟩:=aI.bind' h;obtain⟨pl,⟨_,h3⟩,_,h⟩:=aI.bind' h;obtain⟨cs,⟨_,h4⟩,_,h⟩:=aI.bind' h;cases h;refine iC λπ a w R=> ?_;have h3:=h3.dX;have h4:=h4.dX;have hp:=aE7 h2 R;obtain⟨zx,_,⟨it,hi,hz⟩,a3C⟩:=aem h1.dX w;have hzr:=RV.Ox (a3C π)
 have hb:∃arr,P.built t (ps.map λ(i,x)=>(i,a.eval x)).toList=some arr/\bl (CV.rel π) cs.list arr.toList:=by
  unfold placesOf at h3;split at h3
  .rename_i fs hu
   cases hq:fs.toList.mapM (λf=>(P.info? f.type).map λi=>(f.offset,i.size)) with
   |none=>rw[hq] at h3;cases h3
   |some a5o=>
    rw[hq] at h3;cases h3;obtain⟨arr,e1,e2,_⟩:=agI hp h4 hzr;refine⟨arr,?_,e2⟩;simp only[Program.built,hi,hu,hz,hq];rw[<-e1];congr 1;funext i;simp
  .rename_i n e hu
   cases hq:iH P e with
   |none=>rw[hq] at h3;cases h3
   |some n=>
    rw[hq] at h3;cases h3;obtain⟨ie,hie,rfl⟩:=aqG hq;obtain⟨arr,e1,e2,_⟩:=agI hp h4 hzr;exact⟨arr,by simp only[Program.built,hi,hu,hz,hie];exact e1,e2⟩
  .cases h3
 obtain⟨arr,e1,e2⟩:=hb;exact⟨.agg arr,by simp[execOp,ho,run_build w t _ arr e1],arr,rfl,e2⟩
omit [ax] in
theorem ayv (n:Nat)(l:af):af.size (rep n l)=n*af.size l:=by
 induction n with
 |zero=>rw[rep,af.kO,SP]
 |succ n ih=>rw[rep,af.size_append,ih,atf];omega
omit [ax] in
theorem aXY (n:Nat)(l:af)(i:Nat)(h:i<n*af.size l):af.get (rep n l) i=af.get l (i%af.size l):=by
 induction n generalizing i with
 |zero=>omega
 |succ n ih=>
  rw[rep,af.get_append];by_cases hi:i<af.size l
  .rw[if_pos hi,alv hi]
  .rw[if_neg hi,ih _ (by rw[atf] at h;omega)];congr 1
   exact(Nat.mod_eq_sub_mod (by omega)).symm
theorem Rel.row {π:Pi}{a:Act}{w:World}{g:Gt}(R:Rel X D π g a w){k:af}{n:Sz}{q cap:Nat}{arr:Array Value}{t:TypeId}{dst:Option Tmp}(hd:∀d,dst=some d->d<X.N)(h0:π aJ=none)(hk:X.k<=aJ)(hn:n.val<=cap)(hc:cap*q<=arr.size)(hs:k.size=n.val*q)
  (h2:∀j,j<k.size->∃v,arr[j]? =some v/\(k.get j).rel π v):
  Rel X D (zV π aJ (w.heap.size,0,k.size,cap*q)) (cE (dO dst (.r (.c (.sl aJ (.k 0) n q true)))) ((Up.new aJ k).gX g)) (a.put dst (.slice (some ⟨w.heap.size,0,none⟩) n.val cap)) (w.alloc (.cells arr t)):=by
 have hq:=vL q hn;refine(R.alloc (k:=k) (cs:=arr) (t:=t) (e:=cap*q) h0 hk (by omega) hc h2).dst hd ?_;exact⟨_,_,_,_,py _ _ _,by simp only[cA.val];omega,λ_=>by simp only[cA.val];omega,.inr ⟨cap,hn,rfl,λ_=>by simp only[cA.val];omega⟩⟩
omit [ax] in
theorem Wr {π:Pi}{b:Nat}{p:Nat×Nat×Nat×Nat}{aJ c:Nat}(hb:aJ<=b/\b<aJ+c):∀b',zV π b p b'≠none->π b'≠none∨(aJ<=b'/\b'<aJ+c):=by
 intro b' h;simp only[zV] at h;by_cases e:b'=b
 .subst e;exact .inr hb
 .simp only[e,fY] at h;exact .inl h
omit [ax] in
theorem LF (dst:Option Tmp)(v:AV)(us:List Up)(g:Gt)(hus:∀u∈us,∀i x,u≠.t i x):cE (dO dst v++us) g=cE (dO dst v) (cE us g):=by
 rw[Qp];cases dst with
 |none=>rfl
 |some d=>
  show cE us ((Up.t d v).gX g)=(Up.t d v).gX (cE us g);induction us generalizing g with
  |nil=>rfl
  |cons u us ih=>
   have hu:=hus u (by simp);show cE us (u.gX ((Up.t d v).gX g))=(Up.t d v).gX (cE us (u.gX g));rw[<-ih _ λx hx=>hus x (by simp[hx])];cases u with
   |t i x=>exact absurd rfl (hu i x)
   |_=>rfl
theorem ayw {t:TypeId}{n:Nat}{ps:Array (Nat×Operand)}{fp:List Fp}(ho:o.op=.buildSlice t n ps)
  (h:aI (match P.underlying t with
  |some (.slice e)=>(Ab.dX (Ah P e)).bind λz=>(Ab.dX (iH P e)).bind λq=>
   (Ab.cH (wl 1 q&&wl (n*q) 16777216)).bind λ_=>
   (Ab.tH (λp=>(vM p.2).bind λv=>.ret (p.1,v)) ps.toList).bind λl=>
   (Ab.cH (Nat.beq (af.size z.bR) q)).bind λ_=>(Ab.dX (alB (λi=>some (i*q,q)) (rep n z.bR) l)).bind λcs=>.ret (dO o.dst (.r (.c (.sl aJ (.k 0) (.l n) q true)))++[.new aJ (apo P e n q cs)])
  |_=>.fail) g us fp):zP P o X D aJ us g:=by
 split at h
 .rename_i e hu
  obtain⟨z,⟨_,h1⟩,_,h⟩:=aI.bind' h;obtain⟨q,⟨_,h2⟩,_,h⟩:=aI.bind' h;obtain⟨_,⟨_,h3⟩,_,h⟩:=aI.bind' h;obtain⟨l,⟨_,h4⟩,_,h⟩:=aI.bind' h;obtain⟨_,⟨_,h5⟩,_,h⟩:=aI.bind' h;obtain⟨cs,⟨_,h6⟩,_,h⟩:=aI.bind' h;cases h;have h3:=h3.cH;simp only[cj,fa] at h3;have h5:af.size z.bR=q:=beq_iff.1 h5.cH;intro π a w next Q R hk hf hd hD hn;obtain⟨zx,Vf,_,Vg⟩:=aem h1.dX w;obtain⟨zl,zg⟩:=iY (RV.Ox (Vg π));rw[Wd] at zl;have hp:=aE7 h4 R
  have alM:bl (CV.rel π) (af.list (rep n z.bR)) ((Array.range (n*q)).map (zx.cells[·%zx.cells.size]!)).toList:=by
   refine xq (by simp[ayv,h5]) λj hj=> ?_;rw[ayv,h5] at hj;rw[aXY _ _ _ (by rw[h5];exact hj),h5];obtain⟨y,hy,hr⟩:=zg (j%q) (by rw[h5];exact Nat.mod_lt _ (by omega));refine⟨y,?_,hr⟩;have e3:zx.cells.size=q:=zl.trans h5;have e4:zx.cells[j%q]? =some y:=by simpa using hy
   simp[hj,e3,getElem!_def,e4]
  obtain⟨arr,e1,e2,e3⟩:=agI hp h6.dX alM;have e1:Instr.fill (λi=>some (i*q,q)) ((Array.range (n*q)).map (zx.cells[·%zx.cells.size]!)) (ps.toList.map λx=>(x.1,a.eval x.2))=some arr:=by rw[Array.toList_map] at e1;exact e1
  obtain⟨cl1,cl2⟩:=iY e2;rw[Wd] at cl1;rw[ayv,h5] at e3
  have hbr:af.size (apo P e n q cs)=af.size cs/\∀j,j<af.size cs->af.get (apo P e n q cs) j=af.get cs j:=by
   unfold apo;split
   .exact⟨rfl,λ_ _=>rfl⟩
   .exact aai q cs
  generalize apo P e n q cs=kk at hbr hf hn
  obtain⟨br1,br2⟩:=hbr;have hcn:cB (dO o.dst (.r (.c (.sl aJ (.k 0) (.l n) q true)))++[Up.new aJ kk])=1:=by unfold dO cB;cases o.dst<;>rfl
  have h0:=hf aJ (cW _) (by omega)
  have R1:=R.row (k:=kk) (n:=.l n) (q:=q) (cap:=n) (arr:=arr) (t:=e) hd h0 hk (cW _) (by omega) (br1.trans e3) (λj hj=>by
   rw[br1] at hj;obtain⟨y,hy,hr⟩:=cl2 j hj;rw[br2 j hj];exact⟨y,by simpa using hy,hr⟩)
  refine Qo (x:=.slice (some ⟨w.heap.size,0,none⟩) n n) (w':=w.alloc (.cells arr e)) ?_ (hn _ _ (zV π aJ (w.heap.size,0,af.size kk,n*q)) (Al h0 _) (Wr ⟨cW _,by omega⟩) ?_)
  .have h24:¬(16777216<n*q):=by omega
   simp only[execOp,ho,Instr.buildSlice,Sem.run_bind,run_underlying hu,Result.andThen_ok,run_sizeOf h2.dX];by_cases hnq:n*q=0
   .have hn0:n=0:=by
     rcases Nat.mul_eq_zero.1 hnq with h|h
     .exact h
     .omega
    subst hn0;simp only[SP] at e1 ⊢;have a3D:(Array.range 0).map (zx.cells[·%zx.cells.size]!)=#[]:=aXD (by simp);have hr0:Array.range 0=#[]:=aXD (by simp);rw[a3D] at e1;simp[e1,hr0,LD]
   .simp[h24,hnq,Vf,e1,LD]
  .rw[LF _ _ _ _ (by simp)];exact R1
 .cases h
theorem aCE {t:TypeId}{n c:Operand}{fp:List Fp}(ho:o.op=.makeSlice t n c)
  (h:aI (match P.underlying t with
  |some (.slice e)=>(Ab.dX (Ah P e)).bind λz=>(Ab.dX (iH P e)).bind λq=>(KF n).bind λn=>(KF c).bind λc=>
   (Ab.cH (decide (n.2=0)&&decide (c.2=0))).bind λ_=>(Ab.dX (El q z.bR)).bind λcols=>
   .ret (dO o.dst (.r (.c (.sl aJ (.k 0) (.s 0) q true)))++[.new aJ [.a (.s 0) cols]])
  |_=>.fail) g us fp):zP P o X D aJ us g:=by
 split at h
 .rename_i e hu
  obtain⟨z,⟨_,h1⟩,_,h⟩:=aI.bind' h;obtain⟨q,⟨_,h2⟩,_,h⟩:=aI.bind' h;obtain⟨nn,⟨_,h3⟩,_,h⟩:=aI.bind' h;obtain⟨cc,⟨_,h4⟩,_,h⟩:=aI.bind' h;obtain⟨_,⟨_,h5⟩,_,h⟩:=aI.bind' h;obtain⟨cols,⟨_,h6⟩,_,h⟩:=aI.bind' h;cases h;have h5:=h5.cH;simp only[cj,ke] at h5;intro π a w next Q R hk hf hd hD hn;have hv1:=h3.KF R;have hv2:=h4.KF R;rw[h5.1] at hv1;rw[h5.2] at hv2;have hcn:cB (dO o.dst (.r (.c (.sl aJ (.k 0) (.s 0) q true)))++[Up.new aJ [.a (.s 0) cols]])=1:=by unfold dO cB;cases o.dst<;>rfl
  have h0:=hf aJ (cW _) (by omega);have hs0:af.size [.a (.s 0) cols]=0:=by simp[af.size,Sg.size,Sz.val]
  have R1:=R.row (k:=[.a (.s 0) cols]) (n:=.s 0) (q:=q) (cap:=0) (arr:=#[]) (t:=e) hd h0 hk (cW _) (by simp) (by rw[hs0];simp[Sz.val]) (λj hj=>by rw[hs0] at hj;omega)
  obtain⟨i,hi,hby⟩:∃i,P.info? e=some i/\True:=by
   have:=h2.dX;unfold iH at this;cases hh:P.info? e with
   |none=>rw[hh] at this;cases this
   |some i=>exact⟨i,rfl,trivial⟩
  refine Qo (x:=.slice (some ⟨w.heap.size,0,none⟩) 0 0) (w':=w.alloc (.cells #[] e)) ?_ (hn _ _ (zV π aJ (w.heap.size,0,af.size [.a (.s 0) cols],0*q)) (Al h0 _) (Wr ⟨cW _,by omega⟩) ?_)
  .have hw0:IntKind.i64.wrap 0=0:=by decide
   simp[execOp,ho,Instr.makeSlice,run_underlying hu,hv1,hv2,asInt,asIntOf,typeInfo,hi,hw0,run_sizeOf h2.dX,askRoom,LD]
   rw[show Array.range 0=#[] from aXD (by simp),Array.map_empty]
  .rw[LF _ _ _ _ (by simp)];exact R1
 .cases h
end
end Go.Ab
namespace Go.Ab
variable [ax]
section
variable {P:Program} {o:Oper} {X:Cx} {D:Nat->Prop} {aJ:Nat} {us:List Up} {g:Gt}
theorem KI {c:Call}{args:List AV}{l:List Fp}{π:Pi}{a:Act}{w:World}(h:aI (Ab.tH Ab.DW c.args.toList) g args l)(R:Rel X D π g a w):bl (AV.rel π) args (c.args.map a.eval).toList:=by
 rw[Array.toList_map];exact apq (aI.tH (ρ:=λv x=>v.rel π (a.eval x)) (λx v l hx=>aI.DW hx R) h)
omit [ax] in
theorem aXZ {x:Array Value}{y:Value}(h:x.toList=[y]):x=#[y]:=by rw[<-alu];exact h
omit [ax] in
theorem aX0 {x:Array Value}{y z:Value}(h:x.toList=[y,z]):x=#[y,z]:=by rw[<-alu];exact h
omit [ax] in
theorem a3E {x:Array TypeId}{y z:TypeId}(h:x.toList=[y,z]):x=#[y,z]:=by rw[<-alu];exact h
omit [ax] in
theorem ayx {R:AV->Value->Prop}{x:AV}{l:List Value}(h:bl R [x] l):∃y,l=[y]/\R x y:=by
 match l,h with
 | [y],⟨h,_⟩=>exact⟨y,rfl,h⟩
 | [],h=>exact h.elim
 |_::_::_,⟨_,h⟩=>exact h.elim
omit [ax] in
theorem ayy {R:AV->Value->Prop}{x x':AV}{l:List Value}(h:bl R [x,x'] l):∃y y',l=[y,y']/\R x y/\R x' y':=by
 match l,h with
 | [y,y'],⟨h,h',_⟩=>exact⟨y,y',rfl,h,h'⟩
 | [],h=>exact h.elim
 | [_],⟨_,h⟩=>exact h.elim
 |_::_::_::_,⟨_,_,h⟩=>exact h.elim
omit [ax] in
theorem agJ {c:Call}{bi:Builtin}(a:Act)(w:World)(ho:o.op=.call c)(hc:c.callee=.builtin bi):∃cs,(execOp a.eval o).run P w=(builtin bi c.argTypes o.type cs (c.args.map a.eval)).run P w:=
 ⟨_,by simp[execOp,ho,resolve,hc,invoke];rfl⟩
theorem aIZ {π:Pi}:∀{vs:List FV} {xs:List AV} {ys:List Value},bl (λ(v:FV) (x:AV)=>x=.r (.c (.f v))) vs xs->bl (AV.rel π) xs ys->bl FV.rel vs ys
 | [],[],[],_,_=>trivial
 |v::vs,x::xs,y::ys,⟨e,h⟩,⟨a,b⟩=>by subst e;exact⟨a,aIZ h b⟩
 | [],_::_,_,h,_=>h.elim
 |_::_,[],_,h,_=>h.elim
 | [],[],_::_,_,h=>h.elim
 |_::_,_::_,[],_,h=>h.elim
theorem aT5 {c:CV}{n:Nat}{l:List Fp}(h:aI (match c with|.f _=>Rd.fail|c=>aS3 c) g n l){π:Pi}{x:Value}(hx:c.rel π x):∃a cap,x=.slice a n cap:=by
 cases c<;>simp only[aS3] at h
 case sl b o m z own=>
  cases h;obtain⟨B,s,q,e,_,_,_,⟨h0,a,rfl⟩| ⟨cap,_,rfl,_⟩⟩:=hx
  .exact⟨_,_,by rw[h0]⟩
  .exact⟨_,_,rfl⟩
 case nils=>cases h;exact⟨_,_,hx⟩
 case fs n z cols=>
  cases h;obtain⟨_,⟨h0,a,rfl⟩| ⟨B,s,cap,_,rfl,_⟩⟩:=hx
  .exact⟨_,_,by rw[h0]⟩
  .exact⟨_,_,rfl⟩
 all_goals cases h
theorem aT6 {c:Call}{args:List AV}{x:AV}{fp l0:List Fp}(ho:o.op=.call c)(hc:c.callee=.builtin .len)(ha:aI (Ab.tH Ab.DW c.args.toList) g args l0)(kI:args=[x])
  (h:aI ((Ab.dX ((c.argTypes[0]?).bind P.underlying)).bind λ
  |.array n _=>.ret (dO o.dst (.r (.c (.f (.i .i64 (n:Int))))))
  |.slice _=>(Ab.asC x).bind λc=>(match c with|.f _=>Rd.fail|c=>aS3 c).bind λn=>.ret (dO o.dst (.r (.c (.f (.i .i64 (n:Int))))))
  |.string=>(Ab.asC x).bind λc=>(match c with|.f (.s x)=>Rd.ret x.size|_=>Rd.fail).bind λn=>.ret (dO o.dst (.r (.c (.f (.i .i64 (n:Int))))))
  |_=>.fail) g us fp):zP P o X D aJ us g:=by
 subst kI;obtain⟨d,⟨_,h1⟩,_,h⟩:=aI.bind' h;have h1:=h1.dX
 obtain⟨t,ht,hu⟩:∃t,c.argTypes[0]? =some t/\P.underlying t=some d:=by
  cases ht:c.argTypes[0]? with
  |none=>rw[ht] at h1;cases h1
  |some t=>rw[ht] at h1;exact⟨t,rfl,h1⟩
 split at h
 .rename_i n _ _
  cases h;refine iC λπ a w R=> ?_;obtain⟨y,hy,hr⟩:=ayx (KI ha R);have hy:=aXZ hy;exact⟨goInt n,by obtain⟨cs,e⟩:=agJ (P:=P) a w ho hc;rw[e,hy];simp[builtin,Builtin.len_,ht,run_underlying hu],rfl⟩
 .obtain⟨c1,⟨_,h2⟩,_,h⟩:=aI.bind' h;obtain⟨n,⟨_,h3⟩,_,h⟩:=aI.bind' h;cases h;refine iC λπ a w R=> ?_;obtain⟨y,hy,hr⟩:=ayx (KI ha R);have hy:=aXZ hy;rw[h2.asC] at hr;obtain⟨ad,cap,rfl⟩:=aT5 h3 hr;exact⟨goInt n,by obtain⟨cs,e⟩:=agJ (P:=P) a w ho hc;rw[e,hy];simp[builtin,Builtin.len_,ht,run_underlying hu],rfl⟩
 .obtain⟨c1,⟨_,h2⟩,_,h⟩:=aI.bind' h;obtain⟨n,⟨_,h3⟩,_,h⟩:=aI.bind' h;cases h;refine iC λπ a w R=> ?_;obtain⟨y,hy,hr⟩:=ayx (KI ha R);have hy:=aXZ hy;rw[h2.asC] at hr;split at h3
  .cases h3;have hr:y=_:=hr;subst hr;exact⟨_,by obtain⟨cs,e⟩:=agJ (P:=P) a w ho hc;rw[e,hy];simp[builtin,Builtin.len_,ht,run_underlying hu];rfl,rfl⟩
  .cases h3
 .cases h
omit [ax] in
theorem aNu {x:AV}{v:FV}{l:List Fp}(h:aI (Ab.asF x) g v l):x=.r (.c (.f v)):=by
 unfold Ab.asF at h;split at h
 .cases h;rfl
 .cases h
theorem aI0 {f:FV->FV->Rd FV}{m:Value->Value->Sem Value}(hf:∀x y v l,aI (f x y) g v l->∀a b,x.rel a->y.rel b->∀w,∃z,(m a b).run P w=.ok z w/\v.rel z):∀{xs:List FV} {ys:List Value} {x v:FV} {y:Value} {l:List Fp},aI (au2 f x xs) g v l->x.rel y->bl FV.rel xs ys->∀w,∃z,(ys.foldlM m y).run P w=.ok z w/\v.rel z
 | [],[],x,v,y,l,h,hx,_,w=>by cases h;exact⟨y,by simp,hx⟩
 |a::xs,b::ys,x,v,y,l,h,hx,⟨ha,hs⟩,w=>by
  obtain⟨r,⟨_,h1⟩,_,h⟩:=aI.bind' h;obtain⟨z,hz,hr⟩:=hf x a r _ h1 y b hx ha w;obtain⟨z',tV,hr'⟩:=aI0 hf h hr hs w;exact⟨z',by simp[List.foldlM_cons,hz,tV],hr'⟩
 | [],_::_,_,_,_,_,_,_,h,_=>h.elim
 |_::_,[],_,_,_,_,_,_,h,_=>h.elim
theorem aNv {bi:Builtin}{f:FV->FV->Rd FV}{m:Value->Value->Sem Value}(hf:∀x y v l,aI (f x y) g v l->∀a b,x.rel a->y.rel b->∀w,∃z,(m a b).run P w=.ok z w/\v.rel z)
  {c:Call}{args:List AV}{x:AV}{xs:List AV}{fp l0:List Fp}(ho:o.op=.call c)(hc:c.callee=.builtin bi)(hb:∀t cs y ys w,(builtin bi c.argTypes t cs (y::ys).toArray).run P w=((ys.foldlM m y).run P w).andThen λv w=>.ok (.value v) w)
  (ha:aI (Ab.tH Ab.DW c.args.toList) g args l0)(kI:args=x::xs)
  (h:aI ((Ab.asF x).bind λx=>(Ab.tH Ab.asF xs).bind λl=>(au2 f x l).bind λv=>.ret (dO o.dst (.r (.c (.f v))))) g us fp):zP P o X D aJ us g:=by
 subst kI;obtain⟨v0,⟨_,h1⟩,_,h⟩:=aI.bind' h;obtain⟨vs,⟨_,h2⟩,_,h⟩:=aI.bind' h;obtain⟨v,⟨_,h3⟩,_,h⟩:=aI.bind' h;cases h;refine iC λπ a w R=> ?_;have hr:=KI ha R;have h1:=aNu h1;subst h1;have h2:=aI.tH (ρ:=λv x=>x=.r (.c (.f v))) (λx v l hx=>aNu hx) h2
 obtain⟨y,ys,hy,hry,hrs⟩:∃y ys,(c.args.map a.eval).toList=y::ys/\v0.rel y/\bl (AV.rel π) xs ys:=by
  revert hr
  generalize (c.args.map a.eval).toList=L
  intro hr;cases L with
  |nil=>exact hr.elim
  |cons y ys=>exact⟨y,ys,rfl,hr.1,hr.2⟩
 have hvs:bl FV.rel vs ys:=aIZ h2 hrs;obtain⟨z,hz,hzr⟩:=aI0 hf h3 hry hvs w;have hy':c.args.map a.eval=(y::ys).toArray:=by rw[<-alu];exact hy
 exact⟨z,by obtain⟨cs,e⟩:=agJ (P:=P) a w ho hc;rw[e,hy',hb,hz];rfl,hzr⟩
theorem aT7 {x y v:FV}{l:List Fp}(h:aI (aXK x y) g v l)(a b:Value)(ha:x.rel a)(hb:y.rel b)(w:World):∃z,(Builtin.min2 a b).run P w=.ok z w/\v.rel z:=by
 unfold aXK at h;split at h
 .rename_i k m k' n
  have ha:a=_:=ha;have hb:b=_:=hb;subst ha hb;split at h
  .cases h;exact⟨_,by simp[Builtin.min2],rfl⟩
  .cases h
 .cases h
theorem aT8 {x y v:FV}{l:List Fp}(h:aI (aXL x y) g v l)(a b:Value)(ha:x.rel a)(hb:y.rel b)(w:World):∃z,(Builtin.max2 a b).run P w=.ok z w/\v.rel z:=by
 unfold aXL at h;split at h
 .rename_i k m k' n
  have ha:a=_:=ha;have hb:b=_:=hb;subst ha hb;split at h
  .cases h;exact⟨_,by simp[Builtin.max2],rfl⟩
  .cases h
 .cases h
omit [ax] in
theorem aZW (ts:Array TypeId)(t:TypeId)(cs:Array Bool)(y:Value)(ys:List Value)(w:World):(builtin .min ts t cs (y::ys).toArray).run P w=((ys.foldlM Builtin.min2 y).run P w).andThen λv w=>.ok (.value v) w:=by
 simp[builtin,Builtin.min_]
omit [ax] in
theorem aZX (ts:Array TypeId)(t:TypeId)(cs:Array Bool)(y:Value)(ys:List Value)(w:World):(builtin .max ts t cs (y::ys).toArray).run P w=((ys.foldlM Builtin.max2 y).run P w).andThen λv w=>.ok (.value v) w:=by
 simp[builtin,Builtin.max_]
end
end Go.Ab
namespace Go.Ab
variable [ax]
section
variable {P:Program} {o:Oper} {X:Cx} {D:Nat->Prop} {aJ:Nat} {us:List Up} {g:Gt}
theorem Rel.aX1 {π:Pi}{a:Act}{w:World}(R:Rel X D π g a w){b n B s e lo:Nat}{xs:List Value}(hz:g.z b=some n)(hb:π b=some (B,s,n,e))(h0:n<=lo)(hn:s+lo+xs.length<=e)
  (hD:b<X.k->D b):Rel X D π g a (w.setCells B (s+lo) xs):=by
 obtain⟨B',s',e',eV,hle,h1,h2⟩:=R.hp.hp b n hz;rw[hb] at eV;cases eV;have hin:∀j,j<xs.length->(cl w B (s+lo+j)).isSome=true:=λj hj=>(h1 _ (by omega) (by omega)).1
 refine⟨R.tm,R.nt,R.df,⟨R.hp.am.setCells λhl=>R.hp.lb b B s n e (by rw[hz];simp) hb (by omega),R.hp.lb,λb' n' tV=> ?_,R.hp.dj⟩,R.wT,R.ft,R.fr.setCells ?_⟩
 .obtain⟨B2,s2,e2,DY,ael,k1,k2⟩:=R.hp.hp b' n' tV;refine⟨B2,s2,e2,DY,ael,λi hi he=>⟨isSome_setCells hin (k1 i hi he).1,by rw[oU];exact(k1 i hi he).2⟩,λj hj=> ?_⟩;rw[eF]
  .exact k2 j hj
  .intro e3;subst e3;by_cases eb:b'=b
   .subst eb;rw[hb] at DY;cases DY;omega
   .by_cases hc:s+lo<=s2+j/\s2+j<s+lo+xs.length
    .exact(R.hp.dj b' b B2 s2 _ e2 s _ e eb (by simp[tV]) (by simp[hz]) DY hb (s2+j) (by omega) (by omega) (by omega) (by omega)).elim
    .omega
 .rcases ns B X.w0.heap.size with hB|hB
  .right
   intro j hj;rcases ns b X.k with hk|hk
   .exact⟨b,s,n,e,hk,hD hk,(R.wT b hk).symm.trans hb,by omega,by omega⟩
   .exact R.ft b B s n e hk (by simp[hz]) hb hB _ (by omega) (by omega)
  .exact .inl hB
theorem aNw {z:Nat}{x:CV}{xb:Sz×af}{l:List Fp}(h:aI (slB z x) g xb l){π:Pi}{a:Act}{w:World}(R:Rel X D π g a w){xv:Value}(hx:x.rel π xv):
  ∃news:List Value,news.length=xb.1.val*z/\xb.2.size=xb.1.val*z/\(∀j,j<xb.1.val*z->∃v,news[j]? =some v/\(xb.2.get j).rel π v)/\(∀v∈news,v.oneCell'=true)/\
   ((xb.1.val=0/\∃y c,xv=.slice y 0 c)∨∃ad c,xv=.slice (some ad) xb.1.val c/\∀j v,news[j]? =some v->w.cell? (ad.add j)=some v):=by
 cases x<;>simp only[slB] at h
 case sl b q n z' own=>
  obtain⟨_,⟨_,h1⟩,_,h2⟩:=aI.bind' h;clear h
  have tV:z=z':=mO h1.cH;subst tV;cases h2 with|vw r v hz hs hv h3=>
  cases h3;obtain⟨B2,s2,q2,e2,DY,hm,_,⟨h0,y,rfl⟩| ⟨cap,rz,rfl,_⟩⟩:=hx
  .exact⟨[],by simp[h0],hs,λj hj=>by simp only[h0,SP] at hj;omega,by simp,.inl ⟨h0,y,0,rfl⟩⟩
  .obtain⟨_,xs,hl,hxs,hc⟩:=R.view hz hs hv DY hm
   have aNx:∀v∈xs,v.oneCell'=true:=λv hv=>by
    obtain⟨i,hi⟩:=ayf.1 hv;obtain⟨c,_,hr⟩:=hxs.get' hi;exact CV.Rb hr
   refine⟨xs,hl,hs,λj hj=>(iY hxs).2 j (by rw[hs];exact hj),aNx,.inr ⟨_,cap,rfl,λj v hj=>by rw[mI];exact hc j v hj⟩⟩
 case nils=>
  cases h;have hx:xv=.slice none 0 0:=hx;exact⟨[],by simp[Sz.val],by simp[af.size,Sz.val],λj hj=>by simp[Sz.val] at hj,by simp,.inl ⟨rfl,none,0,hx⟩⟩
 case fs n z' cols=>
  obtain⟨_,⟨_,h1⟩,_,h2⟩:=aI.bind' h;clear h
  have tV:z=z':=mO h1.cH;subst tV;cases h2;obtain⟨hz,hx⟩:=hx;have hs:af.size [.a (.s n) cols]=n*z:=by rw[af.size_cons,af.kO,Sg.kT,hz];rfl
  rcases hx with⟨h0,y,rfl⟩| ⟨B,s,cap,rz,rfl,hc⟩
  .exact⟨[],by simp[h0,Sz.val],hs,λj hj=>by simp only[h0,Sz.val,SP] at hj;omega,by simp,.inl ⟨h0,y,0,rfl⟩⟩
  .have cell:∀j,j<n*z->∃v,cl w B (s+j)=some v/\(iI cols j).rel π v:=λj hj=>by
    obtain⟨f,v,e1,e2,e3⟩:=hc j hj;exact⟨v,(R.hp.am.st _ _ _ e2).2,by rw[e1];exact e3⟩
   have hat:∀j v,((List.range (n*z)).map λj=>(cl w B (s+j)).getD undef)[j]? =some v->j<n*z/\cl w B (s+j)=some v:=λj v hv=>by
    have hjn:j<n*z:=by
     have:=(ld.1 hv).1;simpa using this
    obtain⟨u,hu,_⟩:=cell j hjn;simp[hjn,hu] at hv
    exact⟨hjn,by rw[hu,hv]⟩
   refine⟨(List.range (n*z)).map λj=>(cl w B (s+j)).getD undef,by simp[Sz.val],hs,λj hj=> ?_,λv hv=> ?_,.inr ⟨_,cap,rfl,λj v hv=>by rw[mI];exact(hat j v hv).2⟩⟩
   .obtain⟨v,hv,hr⟩:=cell j hj;refine⟨v,?_,by rw[af.dJ (by rw[Sg.kT,hz];exact hj),Sg.oL];exact hr⟩;have hj':j<n*z:=hj;rw[Af,List.getElem?_range hj'];simp[hv]
   .obtain⟨i,hi⟩:=ayf.1 hv;obtain⟨h1,h2⟩:=hat i v hi;obtain⟨u,hu,hr⟩:=cell i h1;rw[h2] at hu;cases hu;exact CV.Rb hr
 all_goals cases h
omit [ax] in
theorem aNy {z:Nat}{y:Option Addr}{c:Nat}(w:World):(Builtin.firstCells z 0 (.slice y 0 c)).run P w=.ok #[] w:=by
 cases y<;>simp[Builtin.firstCells,loadCells,loadCellsFrom]
omit [ax] in
theorem agK {t ty e:TypeId}{z:Nat}(ht:P.underlying t=some (.slice e))(hz:iH P e=some z){base y:Option Addr}{n cap c:Nat}(h:n<=cap)(w:World):
  (Builtin.append_ #[t,t] ty #[.slice base n cap,.slice y 0 c]).run P w=.ok (.slice base n cap) w:=by
 cases base<;>simp[Builtin.append_,run_underlying ht,run_sizeOf hz,Builtin.lenOf,h,aNy,storeCells]
omit [ax] in
theorem LG {t ty e:TypeId}{z:Nat}(ht:P.underlying t=some (.slice e))(hz:iH P e=some z){B q n cap m c:Nat}{ad:Addr}{news:List Value}(h:n+m<=cap)(hl:news.length=m*z)(w:World)
  (hn:∀j v,news[j]? =some v->w.cell? (ad.add j)=some v)(h1:∀v∈news,v.oneCell'=true)(hc:∀j,j<news.length->(cl w B (q+n*z+j)).isSome=true/\fz w B (q+n*z+j)=false):
  (Builtin.append_ #[t,t] ty #[.slice (some ⟨B,q,none⟩) n cap,.slice (some ad) m c]).run P w=.ok (.slice (some ⟨B,q,none⟩) (n+m) cap) (w.setCells B (q+n*z) news):=by
 have hf:=run_firstCells_some (P:=P) w z m ad m c news hl hn;have hst:=run_storeCells_cells (P:=P) B (q+n*z) news 0 w (λj hj=>by have:=(hc j hj).1;simpa[cl] using this) (λj hj=>by have:=(hc j hj).2;simpa[fz] using this) h1;simp[Builtin.append_,run_underlying ht,run_sizeOf hz,Builtin.lenOf,h,hf,mI,hst]
theorem I2 {t ty e:TypeId}{z by_:Nat}{zv:RV}(ht:P.underlying t=some (.slice e))(hz:iH P e=some z)(hb:(P.info? e).map (·.bytes)=some by_)(hv:Ah P e=some zv)(hl0:af.size zv.bR=z)(hby:1<=by_)
  {sv:Value}{n cap m c:Nat}{ad:Addr}{Ha news:List Value}(w:World)(hs:(sv=.slice none 0 0/\n=0/\cap=0)∨∃b,sv=.slice (some b) n cap/\∀j v,Ha[j]? =some v->w.cell? (b.add j)=some v)
  (hlo:Ha.length=n*z)(hl:news.length=m*z)(hn:∀j v,news[j]? =some v->w.cell? (ad.add j)=some v)(hg:cap<n+m)(hm:0<m)(aAl:(n+m)*by_<=140737488355328):
  ∃gc arr,(Builtin.append_ #[t,t] ty #[sv,.slice (some ad) m c]).run P w=.ok (.slice (some ⟨w.heap.size,0,none⟩) (n+m) gc) (w.drew.alloc (.cells arr e))/\n+m<=gc/\arr.size=gc*z/\∃rest,arr.toList=Ha++news++rest:=by
 obtain⟨zx,_,⟨i,hi,hzz⟩,hzr⟩:=aem hv w;rw[hi] at hb;have hzs:i.size=z:=by unfold iH at hz;rw[hi] at hz;simpa using hz
 have hbs:i.bytes=by_:=by simpa using hb
 have hzc:zx.cells.size=z:=by
  have:=(iY (RV.Ox (hzr λ_=>none))).1;simp only[Wd] at this;omega
 have hle:n+m<=(n+m)*by_:=Nat.le_mul_of_pos_right _ (by omega)
 have xI:∀(wT gc:Nat),n+m<=gc->(Ha.toArray++news.toArray++Builtin.zeroCells zx.cells (gc-(n+m))).size=gc*z:=λwT gc hgc=>by
  simp only[Array.size_append,List.size_toArray,size_zeroCells,hzc,hlo,hl,<-pR];congr 1;omega
 rcases hs with⟨rfl,rfl,rfl⟩| ⟨b,rfl,ho⟩
 .have ho:Ha=[]:=List.eq_nil_of_length_eq_zero (by simpa using hlo);subst ho;have hr:=run_append_nil (P:=P) w t ty e i zx ht hi hzz ad m c news (by rw[hzs];exact hl) hn hm (by omega) (by rw[hbs];simp only[eX] at aAl;omega);have hge:=grownCap_ge w m 0 e;refine⟨_,_,by simpa using hr,by simpa using hge,?_,Builtin.zeroCells zx.cells (grownCap w m 0 e-m)|>.toList,?_⟩
  .have:=xI 0 (grownCap w m 0 e) (by simpa using hge);simpa using this
  .simp
 .have hr:=run_append_grow (P:=P) w t ty e i zx ht hi hzz b n cap Ha (by rw[hzs];exact hlo) ho ad m c news (by rw[hzs];exact hl) hn hg (by omega) (growslice_fits hg (by rw[hbs];exact aAl));have hge:=grownCap_ge w (n+m) cap e;refine⟨_,_,hr,hge,xI 0 _ hge,Builtin.zeroCells zx.cells (grownCap w (n+m) cap e-(n+m))|>.toList,?_⟩;simp
omit [ax] in
theorem aRu {e:TypeId}{n:Nat}{l:List Fp}(h:aI (Ab.dX ((P.info? e).map (·.bytes))) g n l):(P.info? e).map (·.bytes)=some n:=h.dX
omit [ax] in
theorem V1 {Ha news rest:List Value}{arr:Array Value}(h:arr.toList=Ha++news++rest){j:Nat}{v:Value}:(Ha[j]? =some v->arr[j]? =some v)/\(news[j]? =some v->arr[Ha.length+j]? =some v):=by
 refine⟨λhj=> ?_,λhj=> ?_⟩
 .have mH:=(ld.1 hj).1;rw[<-Wc,h,UC (by simp;omega),UC mH,hj]
 .have mH:=(ld.1 hj).1;rw[<-Wc,h,UC (by simp;omega),aeg (by omega),show Ha.length+j-Ha.length=j by omega,hj]
theorem aKQ {c:Call}{t:TypeId}{sa xa:AV}{args:List AV}{fp l0:List Fp}(ho:o.op=.call c)(hc:c.callee=.builtin .append)(ha:aI (Ab.tH Ab.DW c.args.toList) g args l0)(kI:args=[sa,xa])
  (hts:c.argTypes=#[t,t]){s x:CV}(hs:sa=.r (.c s))(hx:xa=.r (.c x))(h:aI (aED P t s x o.dst aJ) g us fp):zP P o X D aJ us g:=by
 subst hs hx kI;unfold aED at h;split at h
 case h_2=>cases h
 rename_i e hu
 obtain⟨z,⟨_,h1⟩,_,h⟩:=aI.bind' h;obtain⟨by_,⟨_,h2⟩,_,h⟩:=aI.bind' h;obtain⟨zv,⟨_,h3⟩,_,h⟩:=aI.bind' h;obtain⟨_,⟨_,h4⟩,_,h⟩:=aI.bind' h;obtain⟨⟨xn,xk⟩,⟨_,h5⟩,_,h⟩:=aI.bind' h;have h1:=h1.dX;have h2:=aRu h2;have h3:=h3.dX;have h4:=h4.cH;simp only[cj,fa,beq_iff] at h4;have hzv:=h4.2.2;simp only[] at h;cases s with
 |nils=>
  simp only[] at h;obtain⟨_,⟨_,h6⟩,_,h⟩:=aI.bind' h;cases h;have h6:xn.val*by_<=140737488355328:=JK h6.cH;intro π a w next Q R hk hf hd hD hn;obtain⟨y1,y2,hy,ZU,hr2⟩:=ayy (KI ha R);have hy:=aX0 hy;have ZU:y1=.slice none 0 0:=ZU;subst ZU;obtain⟨news,n1,n2,n3,n4,n5⟩:=aNw h5 R hr2;simp only at n1 n2 n3 n4 n5;obtain⟨cs,er⟩:=agJ (P:=P) a w ho hc;have hcn:cB (dO o.dst (.r (.c (.sl aJ (.k 0) xn z true)))++[Up.new aJ xk])=1:=by unfold dO cB;cases o.dst<;>rfl
  have h0:=hf aJ (cW _) (by omega);by_cases hm:xn.val=0
  .obtain⟨y,c',rfl⟩:∃y c',y2=.slice y 0 c':=by
    rcases n5 with⟨_,y,c',rfl⟩| ⟨ad,c',rfl,_⟩
    .exact⟨y,c',rfl⟩
    .exact⟨some ad,c',by rw[hm]⟩
   have nq:=agK (P:=P) (ty:=o.type) hu h1 (base:=none) (y:=y) (n:=0) (cap:=0) (c:=c') (cW _) w;have hx0:=Al h0 (0,0,af.size xk,0)
   have R1:=(R.LC hx0 (λb hb=>by simp only[zV];rw[if_neg (by omega)])).new (k:=xk) (py π aJ (0,0,af.size xk,0)) hk (by rw[n2,hm];omega) (λi _ i2=>by omega) (λj hj=>by rw[n2,hm] at hj;omega)
    (λ_ _ _ _ _ _ _ _ _ i2=>by omega) (λ_ _ _ i2=>by omega)
   have R2:=R1.dst hd (v:=.r (.c (.sl aJ (.k 0) xn z true))) (x:=.slice none 0 0) ⟨_,_,_,_,py _ _ _,by simp only[cA.val,n2];omega,λ_=>by simp only[cA.val,n2];omega,.inl ⟨hm,none,rfl⟩⟩;refine Qo (x:=.slice none 0 0) (w':=w) ?_ (hn _ _ (zV π aJ (0,0,af.size xk,0)) hx0 (Wr ⟨cW _,by omega⟩) ?_)
   .rw[er,hy,hts];simp[builtin,nq]
   .rw[LF _ _ _ _ (by simp)];exact R2
  .obtain⟨ad,c',rfl,hn5⟩:∃ad c',y2=.slice (some ad) xn.val c'/\∀j v,news[j]? =some v->w.cell? (ad.add j)=some v:=by
    rcases n5 with⟨h,_⟩|h
    .exact absurd h hm
    .exact h
   obtain⟨gc,arr,nq,hgc,xI,rest,agL⟩:=I2 (P:=P) (ty:=o.type) hu h1 h2 h3 hzv h4.2.1 (sv:=.slice none 0 0) (n:=0) (cap:=0) (m:=xn.val) (c:=c') (ad:=ad) (Ha:=[]) (news:=news) w (.inl ⟨rfl,rfl,rfl⟩) (by simp) n1 hn5 (by omega) (by omega) (by simpa using h6);simp only[eX] at nq hgc
   have R1:=(R.drew).row (k:=xk) (n:=xn) (q:=z) (cap:=gc) (arr:=arr) (t:=e) hd h0 hk hgc (by omega) n2 (λj hj=>by
    rw[n2] at hj;obtain⟨v,hv,hr⟩:=n3 j hj;exact⟨v,by simpa using(V1 agL).2 hv,hr⟩)
   refine Qo (x:=.slice (some ⟨w.heap.size,0,none⟩) xn.val gc) (w':=w.drew.alloc (.cells arr e)) ?_ (hn _ _ (zV π aJ (w.heap.size,0,af.size xk,gc*z)) (Al h0 _) (Wr ⟨cW _,by omega⟩) ?_)
   .rw[er,hy,hts];simp[builtin,nq]
   .rw[LF _ _ _ _ (by simp)];exact R1
 |sl b q n z' own=>
  cases own with
  |false=>cases h
  |true=>
  simp only[] at h;obtain⟨_,⟨_,h6⟩,_,h⟩:=aI.bind' h;obtain⟨_,⟨_,h7⟩,_,h⟩:=aI.bind' h;cases h with|sz r hz h=>
  cases h with|vw r' sb tV hsb hvb h=>
  obtain⟨nb,⟨_,h9⟩,_,h⟩:=aI.bind' h;obtain⟨_,⟨_,h10⟩,_,h⟩:=aI.bind' h;cases h;have h6:z=z':=mO h6.cH;subst h6;have h7:(n.val+xn.val)*by_<=140737488355328:=JK h7.cH;rw[hz] at tV;cases tV;have avi:(n.add xn).val=n.val+xn.val:=by cases n<;>cases xn<;>rfl
  intro π a w next Q R hk hf hd hD hn;obtain⟨y1,y2,hy,ZU,hr2⟩:=ayy (KI ha R);have hy:=aX0 hy;obtain⟨news,n1,n2,n3,n4,n5⟩:=aNw h5 R hr2;simp only at n1 n2 n3 n4 n5;obtain⟨cs,er⟩:=agJ (P:=P) a w ho hc;have aam:=af.aTX h9.dX;have hcn:cB (dO o.dst (.r (.c (.sl aJ (.k 0) (n.add xn) z true)))++[Up.kill b,Up.new aJ nb])=1:=by unfold dO cB;cases o.dst<;>rfl
  have h0:=hf aJ (cW _) (by omega);have hDb:b<X.k->D b:=hD (.kill b) (by simp);obtain⟨B,s,e',hb,hle,k1,k2⟩:=R.hp.hp b _ hz;have mc:aJ≠b:=λe=>by rw[e,hb] at h0;cases h0
  have hmul:(n.val+xn.val)*z=n.val*z+xn.val*z:=pR _ _ _;have atq:af.size nb=(n.val+xn.val)*z:=by rw[aam.1,hsb,n2,hmul]
  have within:∀(w':World) (y:Value) (cap:Nat),Rel X D π g a w'->(n.val+xn.val)<=cap->s+q.val+cap*z<=e'->y=.slice (some ⟨B,s+q.val,none⟩) (n.val+xn.val) cap->
    (∀i,s+q.val<=i->i<e'->(cl w' B i).isSome=true/\fz w' B i=false)->(∀j,j<(n.val+xn.val)*z->∃v,cl w' B (s+q.val+j)=some v/\(af.get nb j).rel π v)->
    (execOp a.eval o).run P w=.ok (.value y) w'->o.wp P a w next Q:=by
   intro w' y cap R' rz hce hyy hc1 hc2 nq;have hcz:(n.val+xn.val)*z<=cap*z:=vL _ rz;have hx0:=Al h0 (B,s+q.val,af.size nb,e')
   have R1:=((R'.kill b).LC hx0 (λb hb=>by simp only[zV];rw[if_neg (by omega)])).new (k:=nb) (py π aJ (B,s+q.val,af.size nb,e')) hk (by rw[atq];omega) hc1
    (λj hj=>by
     rw[atq] at hj;obtain⟨v,hv,hr⟩:=hc2 j hj;exact⟨v,hv,CV.dC hx0 _ _ hr⟩)
    (λb' s1 q1 e1 a3F Vf hb1 i i1 i2 i3 i4=>by
     simp only[zV,a3F,fY] at hb1;have hbb:b'≠b:=λe=>Vf (by simp[Up.gX,e])
     have Vg:g.z b'≠none:=by simpa[Up.gX,hbb] using Vf
     exact R'.hp.dj b' b B s1 q1 e1 s _ e' hbb Vg (by simp[hz]) hb1 hb i i3 i4 (by omega) i2)
    (λhB i i1 i2=>by
     rcases ns b X.k with hbk|hbk
     .exact⟨b,s,_,e',hbk,hDb hbk,(R'.wT b hbk).symm.trans hb,by omega,i2⟩
     .exact R'.ft b B s _ e' hbk (by simp[hz]) hb hB i (by omega) i2)
    (λh=>R'.hp.lb b B s _ e' (by simp[hz]) hb (by omega))
   have R2:=R1.dst hd (v:=.r (.c (.sl aJ (.k 0) (n.add xn) z true))) (x:=y) ⟨_,_,_,_,py _ _ _,by rw[avi,atq];simp only[cA.val];omega,λ_=>by rw[avi,atq];simp only[cA.val];omega,.inr ⟨cap,by rw[avi];exact rz,by rw[avi];exact hyy,λ_=>hce⟩⟩;refine Qo nq (hn _ _ (zV π aJ (B,s+q.val,af.size nb,e')) hx0 (Wr ⟨cW _,by omega⟩) ?_);rw[LF _ _ _ _ (by simp)];exact R2
  have atr:∀(sv:Value) (cap:Nat) (xs:List Value) (ad:Addr) (c':Nat),y1=sv->y2=.slice (some ad) xn.val c'->(∀j v,news[j]? =some v->w.cell? (ad.add j)=some v)->xs.length=n.val*z->(∀j,j<n.val*z->∃v,xs[j]? =some v/\(af.get sb j).rel π v)->
    ((sv=.slice none 0 0/\n.val=0/\cap=0)∨∃b,sv=.slice (some b) n.val cap/\∀j v,xs[j]? =some v->w.cell? (b.add j)=some v)->0<xn.val->cap<n.val+xn.val->o.wp P a w next Q:=by
   intro sv cap xs ad c' hsv hy2 hn5 hxl hold hss hm rz;subst hy2;obtain⟨gc,arr,nq,hgc,xI,rest,agL⟩:=I2 (P:=P) (ty:=o.type) hu h1 h2 h3 hzv h4.2.1 (c:=c') (ad:=ad) (Ha:=xs) (news:=news) w hss hxl n1 hn5 rz hm h7
   have R1:=((R.drew).kill b).row (k:=nb) (n:=n.add xn) (q:=z) (cap:=gc) (arr:=arr) (t:=e) hd h0 hk (by rw[avi];exact hgc) (by omega) (by rw[atq,avi]) (λj hj=>by
    rw[atq] at hj;rw[aam.2 j (by omega),hsb];by_cases hjn:j<n.val*z
    .obtain⟨v,hv,hr⟩:=hold j hjn;rw[if_pos hjn];exact⟨v,(V1 agL).1 hv,hr⟩
    .rw[if_neg hjn];obtain⟨v,hv,hr⟩:=n3 (j-n.val*z) (by omega);have:=(V1 agL).2 hv;rw[hxl,show n.val*z+(j-n.val*z)=j by omega] at this;exact⟨v,this,hr⟩)
   refine Qo (x:=.slice (some ⟨w.heap.size,0,none⟩) (n.val+xn.val) gc) (w':=w.drew.alloc (.cells arr e)) ?_ (hn _ _ (zV π aJ (w.heap.size,0,af.size nb,gc*z)) (Al h0 _) (Wr ⟨cW _,by omega⟩) ?_)
   .rw[er,hy,hts,hsv];simp[builtin,nq]
   .rw[LF _ _ _ _ (by simp),<-avi];exact R1
  have a0V:xn.val=0->∃y c',y2=.slice y 0 c':=λhm=>by
   rcases n5 with⟨_,y,c',rfl⟩| ⟨ad,c',rfl,_⟩
   .exact⟨y,c',rfl⟩
   .exact⟨some ad,c',by rw[hm]⟩
  have a0W:xn.val≠0->∃ad c',y2=.slice (some ad) xn.val c'/\∀j v,news[j]? =some v->w.cell? (ad.add j)=some v:=λhm=>by
   rcases n5 with⟨h,_⟩|h
   .exact absurd h hm
   .exact h
  obtain⟨B2,s2,q2,e2,DY,hmq,a1R,⟨hn0,y0,rfl⟩| ⟨cap,rz,rfl,aRt⟩⟩:=ZU
  .by_cases hm:xn.val=0
   .obtain⟨y,c',rfl⟩:=a0V hm;have nq:=agK (P:=P) (ty:=o.type) hu h1 (base:=y0) (y:=y) (n:=0) (cap:=0) (c:=c') (cW _) w;have hs0:af.size nb=0:=by rw[atq,hm,hn0];omega
    have hx0:=Al h0 (0,0,af.size nb,0)
    have R1:=((R.kill b).LC hx0 (λb hb=>by simp only[zV];rw[if_neg (by omega)])).new (k:=nb) (py π aJ (0,0,af.size nb,0)) hk (by omega) (λi _ i2=>by omega) (λj hj=>by omega)
     (λ_ _ _ _ _ _ _ _ _ i2=>by omega) (λ_ _ _ i2=>by omega)
    have R2:=R1.dst hd (v:=.r (.c (.sl aJ (.k 0) (n.add xn) z true))) (x:=.slice y0 0 0) ⟨_,_,_,_,py _ _ _,by rw[avi,hs0,hm,hn0];simp[cA.val],λ_=>by rw[avi,hs0,hm,hn0];simp[cA.val],.inl ⟨by omega,y0,rfl⟩⟩;refine Qo (x:=.slice y0 0 0) (w':=w) ?_ (hn _ _ (zV π aJ (0,0,af.size nb,0)) hx0 (Wr ⟨cW _,by omega⟩) ?_)
    .rw[er,hy,hts];simp[builtin,nq]
    .rw[LF _ _ _ _ (by simp)];exact R2
   .obtain⟨ad,c',hy2,hn5⟩:=a0W hm;cases y0 with
    |none=>exact atr _ 0 [] ad c' rfl hy2 hn5 (by simp[hn0]) (λj hj=>by simp only[hn0,SP] at hj;omega) (.inl ⟨rfl,hn0,rfl⟩) (by omega) (by omega)
    |some ad0=>exact atr _ 0 [] ad c' rfl hy2 hn5 (by simp[hn0]) (λj hj=>by simp only[hn0,SP] at hj;omega) (.inr ⟨ad0,by rw[hn0],λj v hj=>by simp at hj⟩) (by omega) (by omega)
  .rw[hb] at DY;cases DY;have a7b:=a1R rfl;have aNr:=aRt rfl;obtain⟨_,xs,hxl,hxs,hxc⟩:=R.view hz hsb hvb hb hmq
   have hold:∀j,j<n.val*z->∃v,xs[j]? =some v/\(af.get sb j).rel π v/\cl w B (s+q.val+j)=some v:=λj hj=>by
    obtain⟨v,hv,hr⟩:=(iY hxs).2 j (by rw[hsb];exact hj);exact⟨v,hv,hr,hxc j v hv⟩
   by_cases hm:xn.val=0
   .obtain⟨y,c',rfl⟩:=a0V hm;have nq:=agK (P:=P) (ty:=o.type) hu h1 (base:=some ⟨B,s+q.val,none⟩) (y:=y) (n:=n.val) (cap:=cap) (c:=c') rz w;refine within w _ cap R (by omega) aNr (by rw[hm,jM]) (λi i1 i2=>k1 i (by omega) i2) (λj hj=> ?_) (by rw[er,hy,hts];simp[builtin,nq]);have hj':j<n.val*z:=by rw[hm] at hj;simpa using hj
    obtain⟨v,_,hr,hc⟩:=hold j hj';exact⟨v,hc,by rw[aam.2 j (by omega),if_pos (by omega)];exact hr⟩
   .obtain⟨ad,c',hy2,hn5⟩:=a0W hm;by_cases SV:n.val+xn.val<=cap
    .subst hy2;have hcz:(n.val+xn.val)*z<=cap*z:=vL _ SV;have hin:∀j,j<news.length->(cl w B (s+q.val+n.val*z+j)).isSome=true/\fz w B (s+q.val+n.val*z+j)=false:=λj hj=>k1 _ (by omega) (by omega)
     have nq:=LG (P:=P) (ty:=o.type) hu h1 (B:=B) (q:=s+q.val) (n:=n.val) (cap:=cap) (m:=xn.val) (c:=c') (ad:=ad) SV n1 w hn5 n4 hin;have R':=R.aX1 (lo:=q.val+n.val*z) (xs:=news) hz hb (by omega) (by omega) hDb;rw[show s+(q.val+n.val*z)=s+q.val+n.val*z by omega] at R';refine within _ _ cap R' SV aNr rfl (λi i1 i2=>⟨isSome_setCells (λj hj=>(hin j hj).1) (k1 i (by omega) i2).1,by rw[oU];exact(k1 i (by omega) i2).2⟩) (λj hj=> ?_) (by rw[er,hy,hts];simp[builtin,nq]);rw[aam.2 j (by omega),hsb];by_cases hjn:j<n.val*z
     .obtain⟨v,hv,hr,hc⟩:=hold j hjn;rw[if_pos hjn];exact⟨v,by rw[eF (λ_=>by omega)];exact hc,hr⟩
     .rw[if_neg hjn];obtain⟨v,hv,hr⟩:=n3 (j-n.val*z) (by omega);have mH:=(ld.1 hv);have:=na (w:=w) (B:=B) (o:=s+q.val+n.val*z) (vs:=news) (λj hj=>(hin j hj).1) mH.1;rw[show s+q.val+n.val*z+(j-n.val*z)=s+q.val+j by omega,mH.2] at this;exact⟨v,this,hr⟩
    .exact atr _ cap xs ad c' rfl hy2 hn5 hxl (λj hj=>let⟨v,hv,hr,_⟩:=hold j hj;⟨v,hv,hr⟩) (.inr ⟨_,rfl,λj v hj=>by rw[mI];exact hxc j v hj⟩) (by omega) (by omega)
 |_=>cases h
omit [ax] in
theorem aI.aIR {v:Nat}:∀{k j:Nat} {l:List Fp},aI (aIR v k) g j l->j=Nat.min v k
 |0,j,l,h=>by cases h;simp
 |k+1,j,l,h=>by
  cases h with|test h=>
  cases hx:wl (k+1) v with
  |true=>
   rw[hx] at h;cases h;have:=JK hx;show k+1=min v (k+1);omega
  |false=>
   rw[hx] at h;have h0:¬k+1<=v:=λh=>by rw[aKA h] at hx;cases hx
   have e:=aI.aIR h;rw[e];show min v k=min v (k+1);omega
omit [ax] in
theorem aI.aM6 {n n':Sz}{m:Bool×Sz}{l:List Fp}(h:aI (aM6 n n') g m l):m.2.val=Nat.min n'.val n.val:=by
 have least:∀n n':Sz,(Sz.least n' n).val=Nat.min n'.val n.val:=λn n'=>by cases n<;>cases n'<;>rfl
 unfold Ab.aM6 at h;split at h
 .split at h
  .obtain⟨j,⟨_,h1⟩,_,h2⟩:=aI.bind' h;cases h2;exact aI.aIR h1
  .cases h;rfl
 .cases h;exact least _ _
theorem aRv {c:Call}{t:TypeId}{da xa:AV}{args:List AV}{fp l0:List Fp}(ho:o.op=.call c)(hc:c.callee=.builtin .copy)(ha:aI (Ab.tH Ab.DW c.args.toList) g args l0)(kI:args=[da,xa])
  (hts:c.argTypes[0]? =some t){d x:CV}(hs:da=.r (.c d))(hx:xa=.r (.c x))(h:aI (copyV P t d x o.dst) g us fp):zP P o X D aJ us g:=by
 subst hs hx kI;unfold copyV at h;split at h
 case h_2=>cases h
 rename_i e hu
 obtain⟨z,⟨_,h1⟩,_,h⟩:=aI.bind' h;have h1:=h1.dX;split at h
 case h_2=>cases h
 rename_i b q n z1 w1 b' q' n' z2 w2 _
 obtain⟨_,⟨_,h2⟩,_,h'⟩:=aI.bind' h;clear h
 obtain⟨_,⟨_,h3⟩,_,h⟩:=aI.bind' h';clear h'
 have h2:=h2.cH;simp only[cj,beq_iff] at h2;obtain⟨e1,e2⟩:=h2;obtain⟨⟨fl,m⟩,⟨_,h6⟩,_,h'⟩:=aI.bind' h;clear h
 have hmv:m.val=Nat.min n'.val n.val:=h6.aM6;clear h6
 cases h' with|vw r' v0 tV hs0 hv0 h=>
 cases h with|sz r hz h=>
 cases h
 have hsv:af.size (cond fl (tG v0) v0)=af.size v0/\∀j,j<af.size v0->af.get (cond fl (tG v0) v0) j=af.get v0 j:=by
  cases fl
  .exact⟨rfl,λ_ _=>rfl⟩
  .exact xJ v0
 have hs:af.size (cond fl (tG v0) v0)=m.val*z:=hsv.1.trans hs0;have hv:q'.val+m.val*z<=r'->∀j,j<m.val*z->af.get (cond fl (tG v0) v0) j=g.c b' (q'.val+j):=λhb j hj=>(hsv.2 j (by rw[hs0];exact hj)).trans (hv0 hb j hj)
 generalize cond fl (tG v0) v0=v at hs hv ⊢
 clear hsv hs0 hv0
 subst e1 e2;intro π a w next Q R hk hf hd hD hn;obtain⟨y1,y2,hy,ZU,hr2⟩:=ayy (KI ha R);have hy:=aX0 hy;obtain⟨cs,er⟩:=agJ (P:=P) a w ho hc
 have key:∀(w':World) (g':Gt),(execOp a.eval o).run P w=.ok (.value (.int .i64 ((m.val:Nat):Int))) w'->Rel X D π g' a w'->
   cE [Up.c b q v] g=g'->o.wp P a w next Q:=by
  intro w' g' nq R' hg;refine Qo nq (hn _ _ π (Ext.refl _) (λb h=>.inl h) ?_);rw[LF _ _ _ _ (by simp),hg];exact R'.dst hd rfl
 by_cases hm:m.val=0
 .have hv0:af.size v=0:=by rw[hs,hm,SP]
  have hg:cE [Up.c b q v] g=g:=by
   show(Up.c b q v).gX g=g;simp only[Up.gX]
   have:(λb' j=>if b'=b/\q.val<=j/\j<q.val+af.size v then af.get v (j-q.val) else g.c b' j)=g.c:=by
    funext b' j;rw[if_neg (by omega)]
   rw[this]
  have hvv:∀{b q n z own} {y:Value},CV.rel π (.sl b q n z own) y->∃ad cap,y=.slice ad n.val cap:=λhr=>by
   obtain⟨_,_,_,_,_,_,_,⟨h,y,rfl⟩| ⟨cap,_,rfl,_⟩⟩:=hr
   .exact⟨_,_,by rw[h]⟩
   .exact⟨_,_,rfl⟩
  obtain⟨ad1,c1,rfl⟩:=hvv ZU;obtain⟨ad2,c2,rfl⟩:=hvv hr2
  have hf0:(Builtin.firstCells z 0 (.slice ad2 n'.val c2)).run P w=.ok #[] w:=by
   cases ad2<;>simp[Builtin.firstCells,loadCells,loadCellsFrom]
  refine key w g ?_ R hg;rw[er,hy];rw[hmv] at hm
  have hc0:(Builtin.copy_ c.argTypes o.type #[.slice ad1 n.val c1,.slice ad2 n'.val c2]).run P w=.ok (goInt 0) w:=by
   cases ad1<;>simp[Builtin.copy_,hts,run_underlying hu,run_sizeOf h1,Builtin.lenOf,hm,hf0,storeCells]
  simp[builtin,hc0,hm,hmv,goInt]
 .have mc:n.val≠0/\n'.val≠0:=by
   rw[hmv] at hm;constructor<;>(intro e;apply hm;rw[e];simp[Nat.min_def])
  obtain⟨B,s,r1,e1,hb,hm1,_,⟨h,_⟩| ⟨c1,hc1,rfl,_⟩⟩:=ZU
  .exact absurd h mc.1
  obtain⟨B',s',r2,e1',eV,hm2,_,⟨h,_⟩| ⟨c2,hc2,rfl,_⟩⟩:=hr2
  .exact absurd h mc.2
  have l1:m.val*z<=n.val*z:=vL _ (by rw[hmv];exact Nat.min_le_right _ _);have l2:m.val*z<=n'.val*z:=vL _ (by rw[hmv];exact Nat.min_le_left _ _);obtain⟨_,xs,hxl,hxs,hxc⟩:=R.view tV hs hv eV (by omega);rw[hmv] at hxl;have hfc:=run_firstCells_some (P:=P) w z (Nat.min n'.val n.val) ⟨B',s'+q'.val,none⟩ n'.val c2 xs hxl (λj v hj=>by rw[mI];exact hxc j v hj);obtain⟨B0,s0,e0,NJ,hle,k1,k2⟩:=R.hp.hp b _ hz;rw[hb] at NJ;cases NJ;rw[hmv] at l1 hs
  have hst:=run_storeCells_cells (P:=P) B (s+q.val) xs 0 w (λj hj=>(k1 _ (by omega) (by omega)).1) (λj hj=>(k1 _ (by omega) (by omega)).2) (λv hv=>by
   obtain⟨i,hi⟩:=ayf.1 hv;obtain⟨c,_,hr⟩:=hxs.get' hi;exact CV.Rb hr)
  have R':=R.set (o:=q) hz hb (by omega) hxs (hD (.c b q v) (by simp));refine key _ _ ?_ R' rfl;rw[er,hy];simp[builtin,Builtin.copy_,hts,run_underlying hu,run_sizeOf h1,Builtin.lenOf,hfc,hst,goInt,hmv]
end
end Go.Ab
namespace Go.Ab
variable [ax]
def hC (l:List (Option af))(b j:Nat):CV:=match(l[b]?).getD none with
 |some k=>if j<k.size then k.get j else .f .u
 |none=>.f .u
def hZ (l:List (Option af))(b:Nat):Option Nat:=((l[b]?).getD none).map af.size
def after:List af->List Ch->List (Option af)
 | [],_=>[]
 |b::bs,.mb::cs=>some b::after bs cs
 |_::bs,.set b::cs=>some b::after bs cs
 |_::bs,.kill::cs=>none::after bs cs
 |_::bs,[]=>none::after bs []
omit [ax] in
theorem mP:∀(h:List af) (cs:List Ch),(after h cs).length=h.length
 | [],_=>rfl
 |_::bs,.mb::cs=>by simp[after,mP bs cs]
 |_::bs,.set b::cs=>by simp[after,mP bs cs]
 |_::bs,.kill::cs=>by simp[after,mP bs cs]
 |_::bs,[]=>by simp[after,mP bs []]
def oO.heap (r:oO)(h:List af):List (Option af):=after h r.xH++r.news.map some
def SW (cs:List Ch)(b:Nat):Prop:=cs[b]? ≠some .mb
def tg (π:Pi)(w0:World)(h:List af)(res:oO):Ending->World->Prop:=λe w'=>∃π' v,e=.returned v/\Ext π π'/\res.val.rel π' v/\r9 π' (hC (res.heap h)) (hZ (res.heap h)) w'/\ck w0 (CW π h.length (SW res.xH)) w'/\
   (∀b,π' b≠none->b<h.length+res.news.length)/\
   (∀b B s q e,h.length<=b->π' b=some (B,s,q,e)->B<w0.heap.size->∀i,s<=i->i<e->CW π h.length (SW res.xH) B i)
def Sound (P:Program)(f:FuncId)(F:EY):Prop:=
 ∀args h res,(F args h).eval=some res->∀(w:World) (π:Pi) (vs:Array Value),bl (AV.rel π) args vs.toList->r9 π (hC (h.map some)) (hZ (h.map some)) w->(∀b,π b≠none->b<h.length)->
  ((callFunc f vs).run P w=.ok (.enter f vs) w/\Calls P f vs w (tg π w h res))∨∃v,(callFunc f vs).run P w=.ok (.value v) w/\tg π w h res (.returned v) w
omit [ax] in
theorem T.aX2 {t:T}{g:Gt}{r:oO}{l:List Fp}(h:aI t.rd g r l):t.eval=some r:=by
 induction t generalizing l with
 |leaf r=>cases h;rfl
 |fail=>cases h
 |test x a b iha ihb=>
  cases h with|test h=>
  cases x
  .exact ihb h
  .exact iha h
 |opt x k ih=>
  cases h with|opt hx h=>
  subst hx;exact ih _ h
def piL (π:Pi)(vs:List Vw):Pi:=λj=>match vs[j]? with
 |some v=>match π v.b with
  |some (B,s,_,e)=>some (B,s+v.o.val,v.n,if v.own then e else s+v.o.val+v.n)
  |none=>none
 |none=>none
def Oz (vs jL:List Vw):Prop:=∃t,jL=vs++t
omit [ax] in
theorem Oz.refl (vs:List Vw):Oz vs vs:=⟨[],by simp⟩
omit [ax] in
theorem Oz.trans {a b c:List Vw}(h:Oz a b)(k:Oz b c):Oz a c:=by
 obtain⟨t,rfl⟩:=h;obtain⟨u,rfl⟩:=k;exact⟨t++u,by simp⟩
omit [ax] in
theorem Oz.get {vs jL:List Vw}(h:Oz vs jL){j:Nat}{v:Vw}(hj:vs[j]? =some v):jL[j]? =some v:=by
 obtain⟨t,rfl⟩:=h;rw[UC (ld.1 hj).1,hj]
omit [ax] in
theorem Oz.length {vs jL:List Vw}(h:Oz vs jL):vs.length<=jL.length:=by
 obtain⟨t,rfl⟩:=h;simp
omit [ax] in
theorem Oz.ext {π:Pi}{vs jL:List Vw}(h:Oz vs jL):Ext (piL π vs) (piL π jL):=by
 intro j p hp;unfold piL at hp ⊢;cases hj:vs[j]? with
 |none=>rw[hj] at hp;cases hp
 |some v=>rw[h.get hj];rw[hj] at hp;exact hp
def KJ (π:Pi)(vs:List Vw):Prop:=
 (∀(i j:Nat) (v v':Vw),i≠j->vs[i]? =some v->vs[j]? =some v'->v.b=v'.b->(v.o.val+v.n<=v'.o.val∨v'.o.val+v'.n<=v.o.val)/\(v.own=false∨v'.own=false))/\
 ∀(i:Nat) (v:Vw),vs[i]? =some v->∃B s q e,π v.b=some (B,s,q,e)/\v.o.val+v.n<=q/\(v.own=true->v.o.val+v.n=q)
omit [ax] in
theorem KJ.nil (π:Pi):KJ π []:=⟨λi j v v' _ h=>by simp at h,λi v h=>by simp at h⟩
omit [ax] in
theorem ext_eq {o:cA}{cB:Sz}{z c n:Nat}(h:ext o cB z=some (c,n)):o.val=c/\cB.val*z=n:=by
 unfold ext at h;split at h
 .simp only[gS,ql] at h;exact h
 .cases h
omit [ax] in
theorem aKR {b:Nat}{o:cA}{cB:Sz}{z:Nat}{vs:List Vw}(h:au1 b (ext o cB z) vs=true):∀v∈vs,v.b=b->(o.val+cB.val*z<=v.o.val∨v.o.val+v.n<=o.val):=λv hv hb=>by
 have:=ayi.1 h v hv;rw[hb,SO] at this;simp only[DV,Bool.false_or] at this;split at this
 .rename_i o1 n1 o2 n2 h1 h2
  obtain⟨e1,e2⟩:=ext_eq h1;obtain⟨e3,e4⟩:=ext_eq h2;simp only[agn,fa] at this;rw[e1,e2,e3,Vw.n,e4];exact this
 .cases this
omit [ax] in
theorem KJ.snoc {π:Pi}{vs:List Vw}(h:KJ π vs)(v:Vw)(ha:au1 v.b (ext v.o v.cB v.z) vs=true)(hb:∃B s q e,π v.b=some (B,s,q,e)/\v.o.val+v.n<=q/\(v.own=true->v.o.val+v.n=q))(pE:v.own=true->∀v'∈vs,v'.b=v.b->v'.own=false):KJ π (vs++[v]):=by
 have hap:=aKR ha
 have aDT:∀(i:Nat) (w:Vw),(vs++[v])[i]? =some w->(i<vs.length/\vs[i]? =some w)∨(i=vs.length/\w=v):=λi w hw=>by
  rcases ns i vs.length with hi|hi
  .rw[UC hi] at hw;exact .inl ⟨hi,hw⟩
  .rw[aeg hi] at hw
   have:i-vs.length=0:=by
    have:=(ld.1 hw).1;simp at this;omega
   rw[this] at hw;exact .inr ⟨by omega,by simpa using hw.symm⟩
 refine⟨λi j x y hij hx hy hxy=> ?_,λi x hx=> ?_⟩
 .rcases aDT i x hx with⟨hi,hx'⟩| ⟨hi,rfl⟩
  .rcases aDT j y hy with⟨hj,hy'⟩| ⟨hj,rfl⟩
   .exact h.1 i j x y hij hx' hy' hxy
   .have hm:=List.mem_of_getElem? hx';refine⟨(hap x hm hxy).symm,?_⟩;cases hvo:y.own with
    |false=>exact .inr rfl
    |true=>exact .inl (pE hvo x hm hxy)
  .rcases aDT j y hy with⟨hj,hy'⟩| ⟨hj,rfl⟩
   .have hm:=List.mem_of_getElem? hy';refine⟨hap y hm hxy.symm,?_⟩;cases hvo:x.own with
    |false=>exact .inl rfl
    |true=>exact .inr (pE hvo y hm hxy.symm)
   .omega
 .rcases aDT i x hx with⟨hi,hx'⟩| ⟨hi,rfl⟩
  .exact h.2 i x hx'
  .exact hb
omit [ax] in
theorem aan {b:Nat}{e:Option (Nat×Nat)}:∀{vs:List Vw} {i0 i d:Nat} {ow:Bool},ab3 b e vs i0=some (i,d,ow)->∃k v o n o' n',i=i0+k/\vs[k]? =some v/\v.b=b/\e=some (o,n)/\ext v.o v.cB v.z=some (o',n')/\o'<=o/\o+n<=o'+n'/\d=o-o'/\ow=v.own
 | [],_,_,_,_,h=>by simp[ab3] at h
 |v::vs,i0,i,d,ow,h=>by
  have next:ab3 b e vs (i0+1)=some (i,d,ow)->∃k u o n o' n',i=i0+k/\(v::vs)[k]? =some u/\u.b=b/\e=some (o,n)/\ext u.o u.cB u.z=some (o',n')/\o'<=o/\o+n<=o'+n'/\d=o-o'/\ow=u.own:=λh=>by
   obtain⟨k,v',o,n,o',n',h1,h2,h3⟩:=aan h;exact⟨k+1,v',o,n,o',n',by omega,by simpa using h2,h3⟩
  simp only[ab3] at h;split at h
  .exact next h
  .rename_i hb
   rw[beq_iff] at hb;split at h
   .rename_i o n o' n' h1
    split at h
    .rename_i hc
     cases h;simp only[cj,fa] at hc;exact⟨0,v,o,n,o',n',rfl,rfl,hb,rfl,h1,hc.1,hc.2,rfl,rfl⟩
    .exact next h
   .exact next h
omit [ax] in
theorem xK {π:Pi}{vs:List Vw}{j:Nat}{v:Vw}(h:vs[j]? =some v){B s q e:Nat}(hb:π v.b=some (B,s,q,e)):piL π vs j=some (B,s+v.o.val,v.n,if v.own then e else s+v.o.val+v.n):=by
 unfold piL;rw[h];simp only[hb]
omit [ax] in
theorem ayz (vs:List Vw)(v:Vw):(vs++[v])[vs.length]? =some v:=by simp
abbrev Loc {α:Type}(R:Pi->α->Value->Prop)(π:Pi)(vs:List Vw)(a':α)(jL:List Vw)(x:Value):Prop:=Oz vs jL/\(KJ π vs->KJ π jL/\R (piL π jL) a' x)
theorem aE8 {g:Gt}{π:Pi}{c c':CV}{x:Value}{vs jL:List Vw}{l:List Fp}(h:aI (aSZ c vs) g (c',jL) l)(hx:c.rel π x):Loc CV.rel π vs c' jL x:=by
 cases c<;>simp only[aSZ] at h
 case ptr b o n=>
  obtain⟨B,s,q,e,hp,hx,hm⟩:=hx;split at h
  .rename_i i d ow hf
   cases h;obtain⟨k,v,o1,n1,o2,n2,hk,hv,hb,h1,h2,h3,h4,h5,h6⟩:=aan hf;obtain⟨e1,e2⟩:=ext_eq h1;obtain⟨e3,e4⟩:=ext_eq h2;refine⟨Oz.refl _,λok=>⟨ok,?_⟩⟩;rw[<-hb] at hp;rw[show i=k by omega];simp only[Sz.val,Vd] at e2;refine⟨_,_,_,_,xK hv hp,?_,?_⟩
   .rw[hx,e1,e3];simp only[cA.val];congr 3;omega
   .show d+n<=v.n;unfold Vw.n;omega
  .obtain⟨_,⟨_,h1⟩,_,h⟩:=aI.bind' h;cases h;refine⟨⟨_,rfl⟩,λok=>⟨ok.snoc ⟨b,o,.l 1,n,false,false⟩ h1.cH ⟨B,s,q,e,hp,by simp only[Vw.n,Sz.val,Vd];exact hm,λh=>by cases h⟩ (λh=>by cases h),?_⟩⟩;exact⟨_,_,_,_,xK (ayz vs ⟨b,o,.l 1,n,false,false⟩) hp,by rw[hx];rfl,by simp[cA.val,Vw.n,Sz.val]⟩
 case cl f b o n=>
  obtain⟨B,s,q,e,hp,hx,hm⟩:=hx;split at h
  .rename_i i d ow hf
   cases h;obtain⟨k,v,o1,n1,o2,n2,hk,hv,hb,h1,h2,h3,h4,h5,h6⟩:=aan hf;obtain⟨e1,e2⟩:=ext_eq h1;obtain⟨e3,e4⟩:=ext_eq h2;refine⟨Oz.refl _,λok=>⟨ok,?_⟩⟩;rw[<-hb] at hp;rw[show i=k by omega];simp only[Sz.val,Vd] at e2;refine⟨_,_,_,_,xK hv hp,?_,?_⟩
   .rw[hx];exact c8 (λt=>Value.func (.func f) #[] #[.pointer (some ⟨B,t,none⟩)]) (by rw[e1,e3];simp only[cA.val];omega)
   .show d+n<=v.n;unfold Vw.n;omega
  .obtain⟨_,⟨_,h1⟩,_,h⟩:=aI.bind' h;cases h;refine⟨⟨_,rfl⟩,λok=>⟨ok.snoc ⟨b,o,.l 1,n,false,false⟩ h1.cH ⟨B,s,q,e,hp,by simp only[Vw.n,Sz.val,Vd];exact hm,λh=>by cases h⟩ (λh=>by cases h),?_⟩⟩;exact⟨_,_,_,_,xK (ayz vs ⟨b,o,.l 1,n,false,false⟩) hp,by rw[hx];rfl,by simp[cA.val,Vw.n,Sz.val]⟩
 case sl b o len z own=>
  obtain⟨B,s,q,e,hp,hm,pE,hx⟩:=hx;split at h
  .rename_i i d ow hf
   cases h;obtain⟨k,v,o1,n1,o2,n2,hk,hv,hb,h1,h2,h3,h4,h5,h6⟩:=aan hf;obtain⟨e1,e2⟩:=ext_eq h1;obtain⟨e3,e4⟩:=ext_eq h2;refine⟨Oz.refl _,λok=>⟨ok,?_⟩⟩;rw[<-hb] at hp;rw[show i=k by omega];obtain⟨_,_,_,_,uj,hv1,hv2⟩:=ok.2 k v hv;rw[hp] at uj;cases uj;have hvn:v.n=n2:=e4;refine⟨_,_,_,_,xK hv hp,?_,λho=> ?_,?_⟩
   .show d+len.val*z<=v.n;omega
   .simp only[cj] at ho;rw[h6] at ho;have a1:=pE ho.1;have a2:=hv2 ho.2;show d+len.val*z=v.n;omega
   .refine hx.imp id λ⟨cap,rz,hx,hc⟩=>⟨cap,rz,?_,λho=> ?_⟩
    .show x=Value.slice (some ⟨B,s+v.o.val+d,none⟩) len.val cap;rw[hx,show s+o.val=s+v.o.val+d by omega]
    .simp only[cj] at ho;have a1:=hc ho.1;rw[h6] at ho;rw[if_pos ho.2];show s+v.o.val+d+cap*z<=e;omega
  .obtain⟨_,⟨_,h1⟩,_,h⟩:=aI.bind' h;cases h;generalize hu:(own&&vs.all λv=> !Nat.beq v.b b|| !v.own)=u
   have hu1:u=true->own=true/\∀v'∈vs,v'.b=b->v'.own=false:=λh=>by
    rw[<-hu] at h;simp only[cj] at h;refine⟨h.1,λv' hv' eV=> ?_⟩;have:=ayi.1 h.2 v' hv';rw[eV,SO] at this;simpa using this
   refine⟨⟨_,rfl⟩,λok=>⟨ok.snoc ⟨b,o,len,z,true,u⟩ h1.cH ⟨B,s,q,e,hp,hm,λho=>pE (hu1 ho).1⟩ (λho=>(hu1 ho).2),?_⟩⟩;refine⟨_,_,_,_,xK (ayz vs ⟨b,o,len,z,true,u⟩) hp,by simp[cA.val,Vw.n,Sz.val],λ_=>by simp[cA.val,Vw.n,Sz.val],?_⟩;refine hx.imp id λ⟨cap,rz,hx,hc⟩=>⟨cap,rz,by rw[hx];rfl,λho=> ?_⟩
   rw[if_pos ho];have:=hc (hu1 ho).1;show s+o.val+0+cap*z<=e;omega
 all_goals (cases h;exact⟨Oz.refl _,λok=>⟨ok,hx⟩⟩)
omit [ax] in
theorem ats {α:Type}{R:Pi->α->Value->Prop}(mono:∀{π π':Pi},Ext π π'->∀a x,R π a x->R π' a x){f:α->List Vw->Rd (α×List Vw)}{ff:List α->List Vw->Rd (List α×List Vw)}(hff:∀vs,ff [] vs=.ret ([],vs))(a0X:∀a l vs,ff (a::l) vs=(f a vs).bind λx=>(ff l x.2).bind λy=>.ret (x.1::y.1,y.2))
  {g:Gt}{π:Pi}(hf:∀{a a' vs jL l x},aI (f a vs) g (a',jL) l->R π a x->Loc R π vs a' jL x):∀{as as':List α} {vs jL:List Vw} {l:List Fp} {xs:List Value},aI (ff as vs) g (as',jL) l->bl (R π) as xs->Oz vs jL/\(KJ π vs->KJ π jL/\bl (R (piL π jL)) as' xs)
 | [],as',vs,jL,l,xs,h,hx=>by
  rw[hff] at h;cases h;exact⟨Oz.refl _,λok=>⟨ok,by cases xs with|nil=>trivial|cons=>exact hx.elim⟩⟩
 |a::as,as',vs,jL,l,[],h,hx=>hx.elim
 |a::as,as',vs,jL,l,x::xs,h,⟨hx,hxs⟩=>by
  rw[a0X] at h;obtain⟨p,⟨_,h1⟩,_,h⟩:=aI.bind' h;obtain⟨y,⟨_,h2⟩,_,h⟩:=aI.bind' h;cases h;obtain⟨L1,L2⟩:=hf (a':=p.1) (jL:=p.2) h1 hx;obtain⟨p1,p2⟩:=ats mono hff a0X hf (as:=as) (as':=y.1) (jL:=y.2) h2 hxs;refine⟨L1.trans p1,λok=> ?_⟩;obtain⟨ok1,r1⟩:=L2 ok;obtain⟨ok2,r2⟩:=p2 ok1;exact⟨ok2,mono p1.ext _ _ r1,r2⟩
theorem agM {g:Gt}{π:Pi}:∀{b b':af} {vs jL:List Vw} {l:List Fp} {f:Nat->Value},aI (aM4 b vs) g (b',jL) l->(∀j,j<af.size b->(af.get b j).rel π (f j))->
  Oz vs jL/\(KJ π vs->KJ π jL)/\af.size b'=af.size b/\(KJ π vs->∀j,j<af.size b->(af.get b' j).rel (piL π jL) (f j))
 | [],b',vs,jL,l,f,h,_=>by
  cases h;exact⟨Oz.refl _,id,rfl,λ_ j hj=>by rw[af.kO] at hj;omega⟩
 |.c v::r,b',vs,jL,l,f,h,hx=>by
  obtain⟨p,⟨_,h1⟩,_,h⟩:=aI.bind' h;obtain⟨y,⟨_,h2⟩,_,h⟩:=aI.bind' h;cases h;obtain⟨L1,L2⟩:=aE8 (c':=p.1) (jL:=p.2) h1 (hx 0 (by rw[af.size_cons,Sg.jR];omega))
  obtain⟨p1,p2,p3,p4⟩:=agM (b:=r) (b':=y.1) (jL:=y.2) (f:=λj=>f (j+1)) h2 (λj hj=>by
   have:=hx (j+1) (by rw[af.size_cons,Sg.jR];omega);rwa [<-af.jS (l:=r) (j':=j) (by omega) (by omega)] at this)
  refine⟨L1.trans p1,λok=>p2 (L2 ok).1,by rw[af.size_cons,af.size_cons,p3];rfl,λok j hj=> ?_⟩;obtain⟨ok1,r1⟩:=L2 ok;cases j with
  |zero=>exact CV.dC p1.ext _ _ r1
  |succ j=>
   rw[<-af.jS (l:=y.1) (j':=j) (by omega) (by omega)];exact p4 ok1 j (by rw[af.size_cons,Sg.jR] at hj;omega)
 |.a n cols::r,b',vs,jL,l,f,h,hx=>by
  obtain⟨y,⟨_,h2⟩,_,h⟩:=aI.bind' h;cases h
  obtain⟨p1,p2,p3,p4⟩:=agM (b:=r) (b':=y.1) (jL:=y.2) (f:=λj=>f (j+(Sg.a n cols).size)) h2 (λj hj=>by
   have:=hx (j+(Sg.a n cols).size) (by rw[af.size_cons];omega);rwa [af.kj (by omega),Nat.add_sub_cancel] at this)
  refine⟨p1,p2,by rw[af.size_cons,af.size_cons,p3],λok j hj=> ?_⟩;rw[af.size_cons] at hj;by_cases lg:j<(Sg.a n cols).size
  .have:=hx j (by rw[af.size_cons];omega);rw[af.dJ lg,Sg.oL] at this;rw[af.dJ lg,Sg.oL];obtain⟨v,hv⟩:=aDS cols j;rw[hv] at this ⊢;exact this
  .rw[af.kj (by omega)];have:=p4 ok (j-(Sg.a n cols).size) (by omega);rwa [Nat.sub_add_cancel (by omega)] at this
theorem aE9 {g:Gt}{π:Pi}{r r':RV}{x:Value}{vs jL:List Vw}{l:List Fp}(h:aI (aS0 r vs) g (r',jL) l)(hx:r.rel π x):Loc RV.rel π vs r' jL x:=by
 cases r with
 |c c=>
  obtain⟨p,⟨_,h1⟩,_,h⟩:=aI.bind' h;cases h;exact aE8 (c':=p.1) (jL:=p.2) h1 hx
 |agg cs=>
  obtain⟨p,⟨_,h1⟩,_,h⟩:=aI.bind' h;cases h;obtain⟨arr,rfl,hr⟩:=hx;obtain⟨l1,l2⟩:=iY hr
  obtain⟨p1,p2,p3,p4⟩:=agM (b':=p.1) (jL:=p.2) (f:=λj=>arr.toList.getD j undef) h1 (λj hj=>by
   obtain⟨x,hx,hr⟩:=l2 j hj;simp only[List.getD,hx,Lq];exact hr)
  refine⟨p1,λok=>⟨p2 ok,arr,rfl,xq (by rw[l1,p3]) λj hj=> ?_⟩⟩;obtain⟨x,hx,_⟩:=l2 j (by omega);have:=p4 ok j (by omega);simp only[List.getD,hx,Lq] at this;exact⟨x,hx,this⟩
theorem aAm {g:Gt}{π:Pi}{cs SQ:List RV}{xs:List Value}{vs jL:List Vw}{l:List Fp}(h:aI (aEC cs vs) g (SQ,jL) l)(hx:bl (RV.rel π) cs xs):Oz vs jL/\(KJ π vs->KJ π jL/\bl (RV.rel (piL π jL)) SQ xs):=
 ats (R:=RV.rel) (λh a x r=>RV.dC h a x r) (f:=aS0) (ff:=aEC) (λ_=>rfl) (λ_ _ _=>rfl) (λh hx=>aE9 h hx) h hx
theorem aRw {g:Gt}{π:Pi}{r r':AV}{x:Value}{vs jL:List Vw}{l:List Fp}(h:aI (aXI r vs) g (r',jL) l)(hx:r.rel π x):Loc AV.rel π vs r' jL x:=by
 cases r with
 |r c=>
  obtain⟨p,⟨_,h1⟩,_,h⟩:=aI.bind' h;cases h;exact aE9 (r':=p.1) (jL:=p.2) h1 hx
 |tup cs=>
  obtain⟨p,⟨_,h1⟩,_,h⟩:=aI.bind' h;cases h;obtain⟨arr,rfl,hr⟩:=hx;obtain⟨p1,p2⟩:=aAm (SQ:=p.1) (jL:=p.2) h1 hr;exact⟨p1,λok=>⟨(p2 ok).1,arr,rfl,(p2 ok).2⟩⟩
 |fn f cs=>
  obtain⟨p,⟨_,h1⟩,_,h⟩:=aI.bind' h;cases h;obtain⟨arr,rfl,hr⟩:=hx;obtain⟨p1,p2⟩:=aAm (SQ:=p.1) (jL:=p.2) h1 hr;exact⟨p1,λok=>⟨(p2 ok).1,arr,rfl,(p2 ok).2⟩⟩
 |Wh=>cases h;exact⟨Oz.refl _,λok=>⟨ok,trivial⟩⟩
theorem aNz {g:Gt}{π:Pi}{cs SQ:List AV}{xs:List Value}{vs jL:List Vw}{l:List Fp}(h:aI (aKH cs vs) g (SQ,jL) l)(hx:bl (AV.rel π) cs xs):Oz vs jL/\(KJ π vs->KJ π jL/\bl (AV.rel (piL π jL)) SQ xs):=
 ats (R:=AV.rel) (λh a x r=>AV.dC h a x r) (f:=aXI) (ff:=aKH) (λ_=>rfl) (λ_ _ _=>rfl) (λh hx=>aRw h hx) h hx
structure aFa (π:Pi)(g:Gt)(w:World)(vs:List Vw)(v:Vw)(k:af):Prop where
 live:∃q,g.z v.b=some q
 size:af.size k=v.n
 rel:∀B s q e,π v.b=some (B,s,q,e)->∀j,j<v.n->∃x,cl w B (s+v.o.val+j)=some x/\(af.get k j).rel (piL π vs) x
theorem aFa.pre {π:Pi}{g:Gt}{w:World}{vs jL:List Vw}{v:Vw}{k:af}(h:aFa π g w vs v k)(p:Oz vs jL):aFa π g w jL v k:=
 ⟨h.live,h.size,λB s q e hb j hj=>let⟨x,hx,hr⟩:=h.rel B s q e hb j hj;⟨x,hx,CV.dC p.ext _ _ hr⟩⟩
omit [ax] in
theorem aFb {α:Type}{l:List α}{x y:α}{j:Nat}(h:(l++[x])[j]? =some y):l[j]? =some y∨(j=l.length/\y=x):=by
 rcases ns j l.length with hj|hj
 .rw[UC hj] at h;exact .inl h
 .rw[aeg hj] at h
  have:j-l.length=0:=by
   have:=(ld.1 h).1;simp at this;omega
  rw[this] at h;exact .inr ⟨by omega,by simpa using h.symm⟩
theorem aFc {π:Pi}{g:Gt}{w:World}(H:r9 π g.c g.z w):∀{fuel i:Nat} {vs jL:List Vw} {acc lh:List af} {l:List Fp},aI (aS1 fuel i vs acc) g (lh,jL) l->acc.length=i->i<=vs.length->KJ π vs->(∀(j:Nat) v k,vs[j]? =some v->acc[j]? =some k->aFa π g w vs v k)->
  Oz vs jL/\KJ π jL/\lh.length=jL.length/\∀(j:Nat) v k,jL[j]? =some v->lh[j]? =some k->aFa π g w jL v k
 |0,_,_,_,_,_,_,h,_,_,_,_=>by cases h
 |fuel+1,i,vs,jL,acc,lh,l,h,hi,hi2,ok,aNA=>by
  simp only[aS1] at h;split at h
  .rename_i hn
   cases h;have:vs.length<=i:=List.getElem?_eq_none_iff.1 hn;exact⟨Oz.refl _,ok,by omega,aNA⟩
  .rename_i v hv
   have mH:i<vs.length:=(ld.1 hv).1;cases h with|vw q k hz hs hk h=>
   obtain⟨x,⟨_,h1⟩,_,h⟩:=aI.bind' h;obtain⟨B,s,e,hb,hle,_,hc⟩:=H.hp _ _ hz;obtain⟨_,_,_,_,eV,hvb,_⟩:=ok.2 i v hv;rw[hb] at eV;cases eV;have hvn:v.cB.val*v.z=v.n:=rfl;rw[hvn] at hs hk;have hk:=hk hvb;generalize hkk:aRh v.sl v.z k=k2 at h1
   have hk2:af.size k2=af.size k/\∀j,j<af.size k->af.get k2 j=af.get k j:=by
    rw[<-hkk];unfold aRh;cases v.sl
    .exact⟨rfl,λ_ _=>rfl⟩
    .obtain⟨t1,t2⟩:=aai v.z k;obtain⟨t3,t4⟩:=ays (atg v.z k);exact⟨t3.trans t1,λj hj=>(t4 j).trans (t2 j hj)⟩
   have cell:∀j,j<v.n->∃y,cl w B (s+v.o.val+j)=some y/\(af.get k2 j).rel π y:=λj hj=>by
    obtain⟨y,hy,hr⟩:=hc (v.o.val+j) (by omega);rw[<-hk j hj,<-hk2.2 j (by omega)] at hr;exact⟨y,by rw[show s+v.o.val+j=s+(v.o.val+j) by omega];exact hy,hr⟩
   obtain⟨p1,p2,p3,p4⟩:=agM (b':=x.1) (jL:=x.2) (f:=λj=>(cl w B (s+v.o.val+j)).getD undef) h1 (λj hj=>by
    obtain⟨y,hy,hr⟩:=cell j (by omega);rw[hy];exact hr)
   have hx2:=p1.length
   obtain⟨q1,q2,q3,q4⟩:=aFc H h (by simp[hi]) (by omega) (p2 ok) (λj u k' hu Li=>by
    rcases aFb Li with Li| ⟨hj,rfl⟩
    .have hj:j<acc.length:=(ld.1 Li).1
     have hu':vs[j]? =some u:=by
      have:vs[j]? =some (vs[j]'(by omega)):=j7 _;rw[this];have:=p1.get this;rw[hu] at this;exact this.symm
     exact(aNA j u k' hu' Li).pre p1
    .have huv:u=v:=by
      rw[hj,hi] at hu;have:=p1.get hv;rw[hu] at this;exact Om this
     subst huv;refine⟨⟨q,hz⟩,by rw[p3,hk2.1,hs],λB' s' q' e' eV j hj'=> ?_⟩;rw[hb] at eV;cases eV;obtain⟨y,hy,_⟩:=cell j hj';have:=p4 ok j (by omega);rw[hy] at this;exact⟨y,hy,this⟩)
   exact⟨p1.trans q1,q2,q3,q4⟩
end Go.Ab
namespace Go.Ab
variable [ax]
omit [ax] in
theorem Qq (lh:List af)(j:Nat):hZ (lh.map some) j=(lh[j]?).map af.size:=by
 simp only[hZ,Af];cases lh[j]? <;>rfl
omit [ax] in
theorem aDU {lh:List af}{j i:Nat}{k:af}(h:lh[j]? =some k)(hi:i<k.size):hC (lh.map some) j i=k.get i:=by
 simp[hC,Af,h,hi]
theorem r9.local {π:Pi}{g:Gt}{w:World}(H:r9 π g.c g.z w){vs:List Vw}{lh:List af}(ok:KJ π vs)(hl:lh.length=vs.length)(hv:∀(j:Nat) v k,vs[j]? =some v->lh[j]? =some k->aFa π g w vs v k):
  r9 (piL π vs) (hC (lh.map some)) (hZ (lh.map some)) w:=by
 have get:∀j n,hZ (lh.map some) j=some n->∃v k q B s e,vs[j]? =some v/\lh[j]? =some k/\af.size k=n/\aFa π g w vs v k/\g.z v.b=some q/\v.o.val+v.n<=q/\af.size k=v.n/\π v.b=some (B,s,q,e)/\s+q<=e/\(v.own=true->v.o.val+v.n=q):=λj n hz=>by
  rw[Qq] at hz;cases hk:lh[j]? with
  |none=>rw[hk] at hz;cases hz
  |some k=>
   rw[hk] at hz;have hj:j<vs.length:=by rw[<-hl];exact(ld.1 hk).1
   have hvj:vs[j]? =some (vs[j]'hj):=j7 _;have V:=hv j _ k hvj hk;obtain⟨q,hq⟩:=V.live;obtain⟨B,s,e,hb,A8,_⟩:=H.hp _ _ hq;obtain⟨_,_,_,_,eV,hle,how⟩:=ok.2 j _ hvj;rw[hb] at eV;cases eV;exact⟨_,k,q,B,s,e,hvj,rfl,by simpa using hz,V,hq,hle,V.size,hb,A8,how⟩
 refine⟨H.am,λj B s q e hz hp A8=> ?_,λj n hz=> ?_,λj j' B s q e s' q' e' mc hz tV hp uj i i1 i2 i3 i4=> ?_⟩
 .cases hh:hZ (lh.map some) j with
  |none=>exact absurd hh hz
  |some n=>
   obtain⟨v,k,q0,B1,s1,e1,hvj,hk,hn,V,hq,hle,xI,hb,a7c,ho⟩:=get j n hh;rw[xK hvj hb] at hp;simp only[gS,ql] at hp;obtain⟨rfl,hs1,_,he1⟩:=hp;rw[<-hs1,<-he1] at A8;refine H.lb v.b _ s1 q0 e1 (by simp[hq]) hb ?_;split at A8<;>omega
 .obtain⟨v,k,q,B,s,e,hvj,hk,hn,V,hq,hle,xI,hb,A8,ho⟩:=get j n hz;obtain⟨_,_,_,eV,_,k1,k2⟩:=H.hp _ _ hq;rw[hb] at eV;cases eV;have hp:=xK hvj hb;rw[<-xI,hn] at hp;refine⟨B,s+v.o.val,_,hp,?_,λi i1 i2=> ?_,λi hi=> ?_⟩
  .split
   .rename_i h;have:=ho h;omega
   .omega
  .refine k1 i (by omega) ?_;split at i2<;>omega
  .obtain⟨y,hy,hr⟩:=V.rel B s q e hb i (by omega);refine⟨y,hy,?_⟩;rw[aDU hk (by omega)];exact hr
 .cases hh:hZ (lh.map some) j with
  |none=>exact hz hh
  |some n=>
  cases hh':hZ (lh.map some) j' with
  |none=>exact tV hh'
  |some n'=>
  obtain⟨v,k,q0,B1,s1,e1,hvj,hk,hn,V,hq,hle,xI,hb,A8,ho⟩:=get j n hh;obtain⟨v',k',q0',B2,s2,e2,a0Y,Li,hn',V',hq',a7d,a7e,eV,a7f,ho'⟩:=get j' n' hh';rw[xK hvj hb] at hp;rw[xK a0Y eV] at uj;simp only[gS,ql] at hp uj;obtain⟨rfl,hs1,_,he1⟩:=hp;obtain⟨rfl,Wo,_,he2⟩:=uj;rw[<-hs1] at i1;rw[<-he1] at i2;rw[<-Wo] at i3;rw[<-he2] at i4;by_cases hbb:v.b=v'.b
  .obtain⟨aX3,pE⟩:=ok.1 j j' v v' mc hvj a0Y hbb;rw[hbb] at hb hq;rw[hb] at eV;cases eV;cases h1:v.own<;>cases h2:v'.own<;>simp only[h1,h2,kR,fY,wS] at i2 i4
   .omega
   .have:=ho' h2;omega
   .have:=ho h1;omega
   .rcases pE with h|h
    .rw[h1] at h;cases h
    .rw[h2] at h;cases h
  .refine H.dj v.b v'.b _ s1 q0 e1 s2 q0' e2 hbb (by simp[hq]) (by simp[hq']) hb eV i (by omega) ?_ (by omega) ?_
   .split at i2<;>omega
   .split at i4<;>omega
def piB (π πL:Pi)(n aJ m:Nat):Pi:=λb=>if aJ<=b/\b<aJ+m then πL (n+(b-aJ)) else π b
omit [ax] in
theorem Ws {π πL:Pi}{n aJ m k:Nat}(h:k<m):piB π πL n aJ m (aJ+k)=πL (n+k):=by
 unfold piB;rw[if_pos (by omega),show aJ+k-aJ=k by omega]
omit [ax] in
theorem Wt {π πL:Pi}{n aJ m b:Nat}(h:¬(aJ<=b/\b<aJ+m)):piB π πL n aJ m b=π b:=by
 unfold piB;rw[if_neg h]
structure Bck (π πL:Pi)(vs:List Vw)(aJ m:Nat):Prop where
 ext:Ext (piL π vs) πL
 dom:∀b,πL b≠none->b<vs.length+m
 fresh:∀b,aJ<=b->b<aJ+m->π b=none
 live:∀(j:Nat) v,vs[j]? =some v->∃B s q e,π v.b=some (B,s,q,e)/\v.o.val+v.n<=q/\(v.own=true->v.o.val+v.n=q)
omit [ax] in
theorem Bck.wT {π πL:Pi}{vs:List Vw}{aJ m:Nat}(K:Bck π πL vs aJ m){b:Nat}{p:Nat×Nat×Nat×Nat}(h:π b=some p):piB π πL vs.length aJ m b=some p:=by
 rw[Wt,h];intro hc;rw[K.fresh b hc.1 hc.2] at h;cases h
omit [ax] in
theorem Bck.ext' {π πL:Pi}{vs:List Vw}{aJ m:Nat}(K:Bck π πL vs aJ m):Ext π (piB π πL vs.length aJ m):=λ_ _ h=>K.wT h
omit [ax] in
theorem Bck.at {π πL:Pi}{vs:List Vw}{aJ m:Nat}(K:Bck π πL vs aJ m){j:Nat}{B s q e:Nat}(h:πL j=some (B,s,q,e)):
  (∃v s0 q0 e0,vs[j]? =some v/\π v.b=some (B,s0,q0,e0)/\s=s0+v.o.val/\q=v.n/\(e=if v.own then e0 else s0+v.o.val+v.n)/\v.o.val+v.n<=q0/\(v.own=true->v.o.val+v.n=q0))∨(vs[j]? =none/\vs.length<=j/\j-vs.length<m/\piB π πL vs.length aJ m (aJ+(j-vs.length))=some (B,s,q,e)):=by
 have hd:=K.dom j (by simp[h]);cases hv:vs[j]? with
 |some v=>
  obtain⟨B0,s0,q0,e0,hp,hle,how⟩:=K.live j v hv;have:=K.ext _ _ (xK hv hp);rw[h] at this;simp only[gS,ql] at this;obtain⟨rfl,h1,h2,h3⟩:=this;exact .inl ⟨v,s0,q0,e0,rfl,hp,h1,h2,h3,hle,how⟩
 |none=>
  have hj:vs.length<=j:=List.getElem?_eq_none_iff.1 hv;refine .inr ⟨rfl,hj,by omega,?_⟩;rw[Ws (by omega),show vs.length+(j-vs.length)=j by omega,h]
omit [ax] in
theorem cA.KL (a b:cA):(a.plus b).val=a.val+b.val:=by
 cases a<;>cases b<;>simp only[cA.plus,cA.val]<;>first|omega|skip
 rename_i c i z d j y
 cases hz:Nat.beq z y with
 |true=>
  have:=mO hz;subst this;simp only[cA.val,pR];omega
 |false=>simp only[cA.val];omega
theorem Bck.aTd {π πL:Pi}{vs:List Vw}{aJ m:Nat}(K:Bck π πL vs aJ m)(c:CV)(x:Value)(h:c.rel πL x):(Lu vs aJ c).rel (piB π πL vs.length aJ m) x:=by
 cases c<;>simp only[Lu]
 case ptr j d n=>
  obtain⟨B,s,q,e,hp,hx,hm⟩:=h;rcases K.at hp with⟨v,s0,q0,e0,hv,hb,hs,hq,he,hle,how⟩| ⟨hv,hj,hm2,hb⟩
  .rw[hv];refine⟨B,s0,q0,e0,K.wT hb,?_,by rw[cA.KL];omega⟩;rw[hx,cA.KL];congr 3;omega
  .rw[hv];exact⟨B,s,q,e,hb,hx,hm⟩
 case cl f j d n=>
  obtain⟨B,s,q,e,hp,hx,hm⟩:=h;rcases K.at hp with⟨v,s0,q0,e0,hv,hb,hs,hq,he,hle,how⟩| ⟨hv,hj,hm2,hb⟩
  .rw[hv];refine⟨B,s0,q0,e0,K.wT hb,?_,by rw[cA.KL];omega⟩;rw[hx,cA.KL];exact c8 (λt=>Value.func (.func f) #[] #[.pointer (some ⟨B,t,none⟩)]) (by omega)
  .rw[hv];exact⟨B,s,q,e,hb,hx,hm⟩
 case sl j d len z own=>
  obtain⟨B,s,q,e,hp,hm,pE,hx⟩:=h;rcases K.at hp with⟨v,s0,q0,e0,hv,hb,hs,hq,he,hle,how⟩| ⟨hv,hj,hm2,hb⟩
  .rw[hv];refine⟨B,s0,q0,e0,K.wT hb,by rw[cA.KL];omega,λho=> ?_,hx.imp id λ⟨cap,rz,hx,hc⟩=>⟨cap,rz,?_,λho=> ?_⟩⟩
   .simp only[cj] at ho;have a1:=pE ho.1;have a2:=how ho.2;rw[cA.KL];omega
   .rw[hx,cA.KL];congr 3;omega
   .simp only[cj] at ho;have:=hc ho.1;rw[if_pos ho.2] at he;rw[cA.KL];omega
  .rw[hv];exact⟨B,s,q,e,hb,hm,pE,hx⟩
 all_goals exact h
omit [ax] in
theorem aKS (vs:List Vw)(aJ:Nat)(x:FV):Lu vs aJ (.f x)=.f x:=rfl
omit [ax] in
theorem aao {α β γ:Type}{R:α->γ->Prop}{R':β->γ->Prop}{f:α->β}(hf:∀a c,R a c->R' (f a) c):∀{l:List α} {m:List γ},bl R l m->bl R' (l.map f) m
 | [],[],_=>trivial
 |_::_,_::_,⟨a,b⟩=>⟨hf _ _ a,aao hf b⟩
 | [],_::_,h=>h.elim
 |_::_,[],h=>h.elim
theorem Bck.aX4 {π πL:Pi}{vs:List Vw}{aJ m:Nat}(K:Bck π πL vs aJ m)(c:RV)(x:Value)(h:c.rel πL x):(aS2 vs aJ c).rel (piB π πL vs.length aJ m) x:=by
 cases c with
 |c c=>exact K.aTd c x h
 |agg cs=>
  obtain⟨a,hx,ha⟩:=h;obtain⟨l1,l2⟩:=iY ha;refine⟨a,hx,xq (by rw[JN,l1]) λj hj=> ?_⟩;rw[JN] at hj;obtain⟨x,hx,hr⟩:=l2 j hj;exact⟨x,hx,by rw[ayt (aKS vs aJ) _ _ hj];exact K.aTd _ _ hr⟩
theorem Bck.a3G {π πL:Pi}{vs:List Vw}{aJ m:Nat}(K:Bck π πL vs aJ m)(c:AV)(x:Value)(h:c.rel πL x):(aM5 vs aJ c).rel (piB π πL vs.length aJ m) x:=by
 cases c with
 |r r=>exact K.aX4 r x h
 |tup cs=>obtain⟨a,hx,ha⟩:=h;exact⟨a,hx,aao K.aX4 ha⟩
 |fn f cs=>obtain⟨a,hx,ha⟩:=h;exact⟨a,hx,aao K.aX4 ha⟩
 |Wh=>trivial
omit [ax] in
theorem aap {all:List Vw}{aJ:Nat}:∀{vs:List Vw} {cs:List Ch} {us:List Up},Ai all aJ vs cs=some (true,us)->
  (∀(i j:Nat) (v v':Vw),i≠j->vs[i]? =some v->vs[j]? =some v'->v.b=v'.b->(v.o.val+v.n<=v'.o.val∨v'.o.val+v'.n<=v.o.val))->
  vs.length=cs.length/\(∀(j:Nat) v b,vs[j]? =some v->cs[j]? =some (.set b)->af.size b=v.n)/\(∀u∈us,∃(j:Nat) (v:Vw) (b:af),vs[j]? =some v/\cs[j]? =some (.set b)/\u=.c v.b v.o (KH (Lu all aJ) b))/\
  (∀g,(cE us g).z=g.z/\(cE us g).t=g.t)/\
  ∀g (j:Nat) v b i,vs[j]? =some v->cs[j]? =some (.set b)->v.o.val<=i->i<v.o.val+v.n->(cE us g).c v.b i=Lu all aJ (af.get b (i-v.o.val))
 | [],[],us,h,_=>by
  simp[Ai] at h;subst h
  exact⟨rfl,λj v b h=>by simp at h,λu h=>by simp at h,λg=>⟨rfl,rfl⟩,λg j v b i h=>by simp at h⟩
 |v0::vs,.mb::cs,us,h,hd=>by
  simp only[Ai] at h;obtain⟨h1,h2,h3,h4,h5⟩:=aap h (λi j v v' hij hi hj=>hd (i+1) (j+1) v v' (by omega) (by simpa using hi) (by simpa using hj));refine⟨by simp[h1],λj v b hv hc=> ?_,λu hu=> ?_,h4,λg j v b i hv hc=> ?_⟩
  .cases j with
   |zero=>simp at hc
   |succ j=>exact h2 j v b (by simpa using hv) (by simpa using hc)
  .obtain⟨j,v,b,e1,e2,e3⟩:=h3 u hu;exact⟨j+1,v,b,by simpa using e1,by simpa using e2,e3⟩
  .cases j with
   |zero=>simp at hc
   |succ j=>exact h5 g j v b i (by simpa using hv) (by simpa using hc)
 |v0::vs,.kill::cs,us,h,hd=>by
  simp only[Ai] at h;obtain⟨h1,h2,h3,h4,h5⟩:=aap h (λi j v v' hij hi hj=>hd (i+1) (j+1) v v' (by omega) (by simpa using hi) (by simpa using hj));refine⟨by simp[h1],λj v b hv hc=> ?_,λu hu=> ?_,h4,λg j v b i hv hc=> ?_⟩
  .cases j with
   |zero=>simp at hc
   |succ j=>exact h2 j v b (by simpa using hv) (by simpa using hc)
  .obtain⟨j,v,b,e1,e2,e3⟩:=h3 u hu;exact⟨j+1,v,b,by simpa using e1,by simpa using e2,e3⟩
  .cases j with
   |zero=>simp at hc
   |succ j=>exact h5 g j v b i (by simpa using hv) (by simpa using hc)
 |v0::vs,.set b0::cs,us,h,hd=>by
  simp only[Ai] at h;split at h
  .rename_i p hu
   simp only[gS,ql,cj,beq_iff] at h;obtain⟨⟨hg,xI⟩,rfl⟩:=h;obtain⟨p1,us'⟩:=p;simp only at hg;subst hg;obtain⟨h1,h2,h3,h4,h5⟩:=aap hu (λi j v v' hij hi hj=>hd (i+1) (j+1) v v' (by omega) (by simpa using hi) (by simpa using hj));have hlen:af.size (KH (Lu all aJ) b0)=v0.n:=by rw[JN,xI]
   refine⟨by simp[h1],λj v b hv hc=> ?_,λu hu=> ?_,λg=>⟨(h4 _).1,(h4 _).2⟩,λg j v b i hv hc i1 i2=> ?_⟩
   .cases j with
    |zero=>simp at hv hc;subst hv hc;exact xI
    |succ j=>exact h2 j v b (by simpa using hv) (by simpa using hc)
   .rcases SN.1 hu with rfl|hu
    .exact⟨0,v0,b0,rfl,rfl,rfl⟩
    .obtain⟨j,v,b,e1,e2,e3⟩:=h3 u hu;exact⟨j+1,v,b,by simpa using e1,by simpa using e2,e3⟩
   .show(cE us' ((Up.c v0.b v0.o (KH (Lu all aJ) b0)).gX g)).c v.b i=_;cases j with
    |succ j=>exact h5 _ j v b i (by simpa using hv) (by simpa using hc) i1 i2
    |zero=>
     simp at hv hc
     subst hv hc
     have ZV:=qv (us:=us') (g:=(Up.c v0.b v0.o (KH (Lu all aJ) b0)).gX g) (p:=.c v0.b i) (λu hu ht=>by
      obtain⟨j,v,b,e1,e2,rfl⟩:=h3 u hu;simp only[Up.Hv,JN,h2 j v b e1 e2] at ht;have:=hd 0 (j+1) v0 v (by omega) rfl (by simpa using e1) ht.1.symm;omega)
     simp only[Gt.at,PV.c.injEq] at ZV;rw[ZV];simp only[Up.gX];rw[if_pos ⟨trivial,i1,by rw[hlen];exact i2⟩,ayt (aKS all aJ) _ _ (by omega)]
  .cases h
 | [],_::_,us,h,_=>by simp[Ai] at h
 |_::_,[],us,h,_=>by simp[Ai] at h
omit [ax] in
theorem agN:∀{vs:List Vw} {cs:List Ch} (g:Gt),vs.length=cs.length->
  (cE (oT vs cs) g).t=g.t/\(∀b,(∃(j:Nat) (v:Vw),vs[j]? =some v/\cs[j]? =some .kill/\v.b=b)->(cE (oT vs cs) g).z b=none)/\
  (∀b,¬(∃(j:Nat) (v:Vw),vs[j]? =some v/\cs[j]? =some .kill/\v.b=b)->(cE (oT vs cs) g).z b=g.z b/\∀i,(cE (oT vs cs) g).c b i=g.c b i)
 | [],[],g,_=>⟨rfl,λb ⟨j,v,h,_⟩=>by simp at h,λb _=>⟨rfl,λ_=>rfl⟩⟩
 |v0::vs,c::cs,g,hl=>by
  have hl':vs.length=cs.length:=by simpa using hl
  by_cases hc:c=.kill
  .subst hc;show(cE (oT vs cs) ((Up.kill v0.b).gX g)).t=_/\_;obtain⟨h0,h1,h2⟩:=agN (vs:=vs) (cs:=cs) ((Up.kill v0.b).gX g) hl';refine⟨h0,λb hb=> ?_,λb hb=> ?_⟩
   .show(cE (oT vs cs) ((Up.kill v0.b).gX g)).z b=none;by_cases hx:∃(j:Nat) (v:Vw),vs[j]? =some v/\cs[j]? =some .kill/\v.b=b
    .exact h1 b hx
    .rw[(h2 b hx).1];obtain⟨j,v,e1,e2,e3⟩:=hb;cases j with
     |zero=>simp at e1;subst e1;simp[Up.gX,e3]
     |succ j=>exact absurd ⟨j,v,by simpa using e1,by simpa using e2,e3⟩ hx
   .have hx:¬∃(j:Nat) (v:Vw),vs[j]? =some v/\cs[j]? =some .kill/\v.b=b:=λ⟨j,v,e1,e2,e3⟩=>hb ⟨j+1,v,by simpa using e1,by simpa using e2,e3⟩
    have mc:b≠v0.b:=λe=>hb ⟨0,v0,rfl,rfl,e.symm⟩
    obtain⟨k1,k2⟩:=h2 b hx;refine⟨k1.trans (by simp[Up.gX,mc]),λi=>(k2 i).trans (by simp[Up.gX,mc])⟩
  .have e:oT (v0::vs) (c::cs)=oT vs cs:=by cases c<;>first|rfl|exact absurd rfl hc
   rw[e];obtain⟨h0,h1,h2⟩:=agN (vs:=vs) (cs:=cs) g hl';refine⟨h0,λb ⟨j,v,e1,e2,e3⟩=> ?_,λb hb=>h2 b λ⟨j,v,e1,e2,e3⟩=>hb ⟨j+1,v,by simpa using e1,by simpa using e2,e3⟩⟩;cases j with
   |zero=>simp at e2;exact absurd e2 hc
   |succ j=>exact h1 b ⟨j,v,by simpa using e1,by simpa using e2,e3⟩
 | [],_::_,_,h=>by simp at h
 |_::_,[],_,h=>by simp at h
omit [ax] in
theorem alN {vs:List Vw}{aJ:Nat}:∀{bs:List af} {j0:Nat} (g:Gt),
  (cE (Ht vs aJ bs j0) g).t=g.t/\(∀(k:Nat) (b:af),bs[k]? =some b->(cE (Ht vs aJ bs j0) g).z (aJ+(j0+k))=some (af.size b)/\∀i,i<af.size b->(cE (Ht vs aJ bs j0) g).c (aJ+(j0+k)) i=Lu vs aJ (af.get b i))/\
  (∀b,¬(aJ+j0<=b/\b<aJ+j0+bs.length)->(cE (Ht vs aJ bs j0) g).z b=g.z b/\∀i,(cE (Ht vs aJ bs j0) g).c b i=g.c b i)/\cB (Ht vs aJ bs j0)=bs.length
 | [],j0,g=>⟨rfl,λk b h=>by simp at h,λb _=>⟨rfl,λ_=>rfl⟩,rfl⟩
 |b0::bs,j0,g=>by
  obtain⟨h0,h1,h2,h3⟩:=alN (vs:=vs) (aJ:=aJ) (bs:=bs) (j0:=j0+1) ((Up.new (aJ+j0) (KH (Lu vs aJ) b0)).gX g);refine⟨h0,λk b hk=> ?_,λb hb=> ?_,?_⟩
  .show(cE (Ht vs aJ bs (j0+1)) ((Up.new (aJ+j0) (KH (Lu vs aJ) b0)).gX g)).z _=_/\∀i,i<af.size b->(cE (Ht vs aJ bs (j0+1)) ((Up.new (aJ+j0) (KH (Lu vs aJ) b0)).gX g)).c _ i=_;cases k with
   |zero=>
    simp at hk;subst hk
    obtain⟨k1,k2⟩:=h2 (aJ+(j0+0)) (by omega);refine⟨k1.trans (by simp[Up.gX,JN]),λi hi=>(k2 i).trans ?_⟩;simp only[Up.gX,jM,kR,JN,hi,kR];exact ayt (aKS vs aJ) _ _ hi
   |succ k=>
    have:=h1 k b (by simpa using hk);rw[show j0+1+k=j0+(k+1) by omega] at this;exact this
  .obtain⟨k1,k2⟩:=h2 b (by simp only[Ls] at hb;omega);have mc:b≠aJ+j0:=λe=>hb (by simp only[Ls];omega)
   exact⟨k1.trans (by simp[Up.gX,mc]),λi=>(k2 i).trans (by simp[Up.gX,mc])⟩
  .show cB (Up.new _ _::Ht vs aJ bs (j0+1))=_;simp only[cB,List.filter_cons,kR,Ls];have:=h3;simp only[cB] at this;omega
end Go.Ab
namespace Go.Ab
variable [ax]
omit [ax] in
theorem E1 (a b:List Up):cB (a++b)=cB a+cB b:=by simp[cB]
omit [ax] in
theorem aX5 (dst:Option Tmp)(v:AV):cB (dO dst v)=0:=by cases dst<;>rfl
omit [ax] in
theorem aI1 {us:List Up}(h:∀u∈us,∀b k,u≠.new b k):cB us=0:=by
 induction us with
 |nil=>rfl
 |cons u us ih=>
  have h1:=ih λv hv=>h v (by simp[hv])
  have h2:=h u (by simp);cases u with
  |new b k=>exact absurd rfl (h2 b k)
  |_=>simpa[cB] using h1
omit [ax] in
theorem aaq:∀{vs:List Vw} {cs:List Ch} {u:Up},u∈oT vs cs->∃b,u=.kill b
 | [],[],u,h=>by simp[oT] at h
 |v0::vs,c::cs,u,h=>by
  by_cases hc:c=.kill
  .subst hc;rcases SN.1 h with rfl|h
   .exact⟨_,rfl⟩
   .exact aaq h
  .have e:oT (v0::vs) (c::cs)=oT vs cs:=by cases c<;>first|rfl|exact absurd rfl hc
   rw[e] at h;exact aaq h
 | [],_::_,u,h=>by simp[oT] at h
 |_::_,[],u,h=>by simp[oT] at h
omit [ax] in
theorem aAn:∀{vs:List Vw} {cs:List Ch} {j:Nat} {v:Vw},vs[j]? =some v->cs[j]? =some .kill->Up.kill v.b∈oT vs cs
 |v0::vs,c::cs,0,v,h1,h2=>by
  simp at h1 h2;subst h1 h2;simp[oT]
 |v0::vs,c::cs,j+1,v,h1,h2=>by
  have:=aAn (vs:=vs) (cs:=cs) (j:=j) (v:=v) (by simpa using h1) (by simpa using h2);cases c<;>simp[oT,this]
 | [],_,j,v,h,_=>by simp at h
 |_::_,[],j,v,_,h=>by simp at h
omit [ax] in
theorem agO {all:List Vw}{aJ:Nat}:∀{vs:List Vw} {cs:List Ch} {g:Bool} {us:List Up},Ai all aJ vs cs=some (g,us)->∀{j:Nat} {v:Vw} {b:af},vs[j]? =some v->cs[j]? =some (.set b)->Up.c v.b v.o (KH (Lu all aJ) b)∈us
 | [],[],g,us,_,j,v,b,h,_=>by simp at h
 |v0::vs,.mb::cs,g,us,h,j,v,b,h1,h2=>by
  cases j with
  |zero=>simp at h2
  |succ j=>exact agO (vs:=vs) (cs:=cs) h (by simpa using h1) (by simpa using h2)
 |v0::vs,.kill::cs,g,us,h,j,v,b,h1,h2=>by
  cases j with
  |zero=>simp at h2
  |succ j=>exact agO (vs:=vs) (cs:=cs) h (by simpa using h1) (by simpa using h2)
 |v0::vs,.set b0::cs,g,us,h,j,v,b,h1,h2=>by
  simp only[Ai] at h;split at h
  .rename_i p hu
   simp only[gS,ql] at h;obtain⟨_,rfl⟩:=h;cases j with
   |zero=>simp at h1 h2;subst h1 h2;simp
   |succ j=>exact List.mem_cons_of_mem _ (agO (g:=p.1) (us:=p.2) hu (by simpa using h1) (by simpa using h2))
  .cases h
 | [],_::_,_,_,h,_,_,_,_,_=>by simp[Ai] at h
 |_::_,[],_,_,h,_,_,_,_,_=>by simp[Ai] at h
omit [ax] in
theorem aFd {vs:List Vw}{aJ:Nat}:∀{bs:List af} {j0:Nat} {u:Up},u∈Ht vs aJ bs j0->∃b k,u=.new b k
 | [],_,_,h=>by simp[Ht] at h
 |b0::bs,j0,u,h=>by
  rcases SN.1 h with rfl|h
  .exact⟨_,_,rfl⟩
  .exact aFd h
omit [ax] in
theorem ck.isSome {w0 w:World}{S:Nat->Nat->Prop}(h:ck w0 S w){B i:Nat}(hi:(Ab.cl w0 B i).isSome=true):(Ab.cl w B i).isSome=true:=by
 have hB:=ab5 hi;simp only[Ab.cl,World.cell?] at hi ⊢;cases hh:w0.heap[B]? with
 |none=>rw[hh] at hi;cases hi
 |some x=>
  rw[hh] at hi;cases x with
  |cells c t f=>
   obtain⟨c',e,z,_⟩:=h.row B c t f hh;simp only[e];simp only[Option.isSome_none,wS,fY] at hi ⊢
   have:i<c.size:=by
    rcases ns i c.size with h'|h'
    .exact h'
    .rw[ata h'] at hi;cases hi
   rw[ai1 (by omega)];rfl
  |_=>cases hi
omit [ax] in
theorem agP:∀{h:List af} {cs:List Ch} {j:Nat},(∀b,cs[j]? =some (.set b)->j<h.length->(after h cs)[j]? =some (some b))/\(cs[j]? =some .mb->∀b,h[j]? =some b->(after h cs)[j]? =some (some b))
 | [],cs,j=>⟨λb _ h=>by simp at h,λ_ b h=>by simp at h⟩
 |b0::bs,[],j=>⟨λb h=>by simp at h,λh=>by simp at h⟩
 |b0::bs,c::cs,0=>by cases c<;>simp[after]
 |b0::bs,c::cs,j+1=>by
  have:=agP (h:=bs) (cs:=cs) (j:=j);cases c<;>simpa[after] using this
omit [ax] in
theorem ab6 {r:oO}{h:List af}{k:Nat}{b:af}(hk:r.news[k]? =some b):(r.heap h)[h.length+k]? =some (some b):=by
 unfold oO.heap;rw[aeg (by rw[mP];omega),mP,show h.length+k-h.length=k by omega];simp[hk]
omit [ax] in
theorem DB {r:oO}{h:List af}{j:Nat}(hj:j<h.length):(r.heap h)[j]? =(after h r.xH)[j]? :=by
 unfold oO.heap;rw[UC (by rw[mP];omega)]
omit [ax] in
theorem aar {l:List (Option af)}{j:Nat}{b:af}(h:l[j]? =some (some b)):hZ l j=some (af.size b):=by simp[hZ,h]
omit [ax] in
theorem agQ {l:List (Option af)}{j i:Nat}{b:af}(h:l[j]? =some (some b))(hi:i<af.size b):hC l j i=af.get b i:=by simp[hC,h,hi]
omit [ax] in
theorem Vh {all:List Vw}{aJ:Nat}:∀{vs:List Vw} {cs:List Ch} {g:Bool} {us:List Up},Ai all aJ vs cs=some (g,us)->∀u∈us,∀b k,u≠.new b k
 | [],[],g,us,h=>by
  simp only[Ai,gS,ql] at h;obtain⟨_,rfl⟩:=h;intro u hu;simp at hu
 |v0::vs,.mb::cs,g,us,h=>Vh (vs:=vs) (cs:=cs) h
 |v0::vs,.kill::cs,g,us,h=>Vh (vs:=vs) (cs:=cs) h
 |v0::vs,.set b0::cs,g,us,h=>by
  simp only[Ai] at h;split at h
  .rename_i p hu
   simp only[gS,ql] at h;obtain⟨_,rfl⟩:=h;intro u hu' b k e;rcases SN.1 hu' with rfl|hu'
   .cases e
   .exact Vh (g:=p.1) (us:=p.2) hu u hu' b k e
  .cases h
 | [],_::_,_,_,h=>by simp[Ai] at h
 |_::_,[],_,_,h=>by simp[Ai] at h
section
variable {P:Program} {o:Oper} {X:Cx} {D:Nat->Prop} {aJ:Nat} {us:List Up} {g:Gt}
theorem aRx {E:Env}(hE:∀f F,E f=some F->Sound P f F){c:Call}{fo:Operand}{f:Nat}{aeh:List RV}{args:List AV}{fp l0 l1:List Fp}(ho:o.op=.call c)(hc:c.callee=.value fo)(ha:aI (Ab.tH Ab.DW c.args.toList) g args l0){fv:AV}(hfo:aI (Ab.DW fo) g fv l1)(aX6:∀(π:Pi) (x:Value),fv.rel π x->∃arr:Array Value,x=.func (.func f) #[] arr/\bl (RV.rel π) aeh arr.toList)
  (h:aI (aXJ E f (args++aeh.map .r) o.dst aJ) g us fp):zP P o X D aJ us g:=by
 obtain⟨x,⟨_,h1⟩,_,h⟩:=aI.bind' h;obtain⟨y,⟨_,h2⟩,_,h⟩:=aI.bind' h;cases hEf:E f with
 |none=>rw[hEf] at h;cases h
 |some F=>
 rw[hEf] at h;obtain⟨r,⟨_,h3⟩,_,h⟩:=aI.bind' h;obtain⟨⟨gd,aTe⟩,⟨_,h4⟩,_,h⟩:=aI.bind' h;obtain⟨_,⟨_,h5⟩,_,h⟩:=aI.bind' h;cases h;have h5:gd=true:=h5.cH;subst h5;have S0:=hE f F hEf;have a1S:=T.aX2 h3;have h4:=h4.dX;obtain⟨lh,vs⟩:=y;simp only at h3 h4
 have aTf:cB (dO o.dst (aM5 vs aJ r.val)++(aTe++(oT vs r.xH++Ht vs aJ r.news 0)))=r.news.length:=by
  rw[E1,E1,E1,aX5,aI1 (Vh h4),aI1 (λu hu b k e=>by obtain⟨_,rfl⟩:=aaq hu;cases e),(alN (vs:=vs) (aJ:=aJ) (bs:=r.news) (j0:=0) g).2.2.2];omega
 intro π a w next Q R hk hfr hd hD hn;simp only at hfr hn hD;rw[aTf] at hfr hn;obtain⟨arr,hfv,a1T⟩:=aX6 _ _ (hfo.DW R)
 have kI:bl (AV.rel π) (args++aeh.map .r) (c.args.map a.eval++arr).toList:=by
  rw[Array.toList_append];exact(KI ha R).append (aao (f:=AV.r) (R':=AV.rel π) (λa c h=>h) a1T)
 obtain⟨a1,a2⟩:=aNz (SQ:=x.1) (jL:=x.2) h1 kI;obtain⟨ok0,a4⟩:=a2 (KJ.nil π);obtain⟨b1,hok,b3,b4⟩:=aFc R.hp (lh:=lh) (jL:=vs) h2 rfl (Nat.zero_le _) ok0 (λj v k _ hk=>by simp at hk);obtain⟨c1,c2,c3,c4,c5⟩:=aap h4 (λi j v v' hij hi hj hb=>(hok.1 i j v v' hij hi hj hb).1);have aZY:bl (AV.rel (piL π vs)) x.1 (c.args.map a.eval++arr).toList:=a4.imp λv z hr=>AV.dC b1.ext v z hr
 have a3H:=R.hp.local hok b3 b4
 have jK:∀b,piL π vs b≠none->b<lh.length:=λb hb=>by
  rw[b3];unfold piL at hb;cases hv:vs[b]? with
  |none=>rw[hv] at hb;exact absurd rfl hb
  |some v=>exact(ld.1 hv).1
 have aZZ:=S0 x.1 lh r a1S w (piL π vs) _ aZY a3H jK
 suffices key:∀(v:Value) (w':World),tg (piL π vs) w lh r (.returned v) w'->next (a.put o.dst v) w' by
  rcases aZZ with⟨S1,S2⟩| ⟨v,S1,S2⟩
  .have nq:(execOp a.eval o).run P w=.ok (.enter f (c.args.map a.eval++arr)) w:=by
    simp[execOp,ho,resolve,hc,hfv,Deferred.ofValue,invoke,S1]
   unfold Oper.wp;rw[nq];refine Calls.mono S2 ?_;intro e w' hp;have uj:=hp;obtain⟨_,v,rfl,_⟩:=uj;exact key v w' hp
  .have nq:(execOp a.eval o).run P w=.ok (.value v) w:=by
    simp[execOp,ho,resolve,hc,hfv,Deferred.ofValue,invoke,S1]
   unfold Oper.wp;rw[nq];exact key v w S2
 rintro v w' ⟨πL,v',hv',avj,aFe,hHL,hFr,a1U,a0Z⟩
 cases hv'
 have live:∀(j:Nat) u,vs[j]? =some u->∃q B s e,g.z u.b=some q/\u.o.val+u.n<=q/\π u.b=some (B,s,q,e)/\s+q<=e/\(u.own=true->u.o.val+u.n=q):=λj u hu=>by
  have hj:j<lh.length:=by rw[b3];exact(ld.1 hu).1
  obtain⟨q,hq⟩:=(b4 j u _ hu (j7 hj)).live;obtain⟨B,s,e,hb,A8,_⟩:=R.hp.hp _ _ hq;obtain⟨_,_,_,_,eV,hle,how⟩:=hok.2 j u hu;rw[hb] at eV;cases eV;exact⟨q,B,s,e,hq,hle,hb,A8,how⟩
 have K:Bck π πL vs aJ r.news.length:=⟨avj,λb hb=>by have:=a1U b hb;omega,hfr,λj u hu=>let⟨q,B,s,e,_,hle,hb,_,how⟩:=live j u hu;⟨B,s,q,e,hb,hle,how⟩⟩
 have aRy:∀B i,CW (piL π vs) lh.length (SW r.xH) B i->∃(j:Nat) (u:Vw) (q s e:Nat),vs[j]? =some u/\g.z u.b=some q/\π u.b=some (B,s,q,e)/\s+q<=e/\s+u.o.val<=i/\i<(if u.own then e else s+u.o.val+u.n)/\i<e/\(u.own=true->u.o.val+u.n=q)/\u.o.val+u.n<=q/\(r.xH[j]? =some .kill∨∃b,r.xH[j]? =some (.set b)):=by
  rintro B i ⟨j,s1,q1,e1,hj,hD1,hp,i1,i2⟩
  have hu:vs[j]? =some (vs[j]'(by omega)):=j7 _;obtain⟨q,B0,s,e,hq,hle,hb,A8,how⟩:=live j _ hu;rw[xK hu hb] at hp;simp only[gS,ql] at hp;obtain⟨rfl,hs1,_,he1⟩:=hp;rw[<-hs1] at i1;rw[<-he1] at i2;refine⟨j,_,q,s,e,hu,hq,hb,A8,i1,i2,?_,how,hle,?_⟩
  .split at i2<;>omega
  .have hcj:r.xH[j]? =some (r.xH[j]'(by omega)):=j7 _;rw[hcj];cases SX:r.xH[j]'(by omega) with
   |mb=>exact absurd (by rw[hcj,SX]) hD1
   |set b=>exact .inr ⟨b,rfl⟩
   |kill=>exact .inl rfl
 have a1V:∀(j:Nat) (u:Vw),vs[j]? =some u->(r.xH[j]? =some .kill∨∃b,r.xH[j]? =some (.set b))->u.b<X.k->D u.b:=λj u hu SX=>by
  rcases SX with SX| ⟨b,SX⟩
  .exact hD (.kill u.b) (by simp[aAn hu SX])
  .exact hD (.c u.b u.o (KH (Lu vs aJ) b)) (by simp[agO h4 hu SX])
 have aTg:∀B i,B<X.w0.heap.size->CW (piL π vs) lh.length (SW r.xH) B i->CW X.p0 X.k D B i:=λB i hB hft=>by
  obtain⟨j,u,q,s,e,hu,hq,hb,A8,i1,_,i3,_,_,SX⟩:=aRy B i hft;rcases ns u.b X.k with hbk|hbk
  .exact⟨u.b,s,q,e,hbk,a1V j u hu SX hbk,(R.wT u.b hbk).symm.trans hb,by omega,i3⟩
  .exact R.ft u.b B s q e hbk (by simp[hq]) hb hB i (by omega) i3
 generalize hg1:cE aTe g=g1
 generalize hg2:cE (oT vs r.xH) g1=g2
 generalize hg3:cE (Ht vs aJ r.news 0) g2=g3
 have G1:=c4 g;rw[hg1] at G1;have G2:=agN (vs:=vs) (cs:=r.xH) g1 c1;rw[hg2] at G2;obtain⟨N0,N1,N2,_⟩:=alN (vs:=vs) (aJ:=aJ) (bs:=r.news) (j0:=0) g2;rw[hg3] at N0 N1 N2
 have wT:∀b n,¬(aJ<=b/\b<aJ+r.news.length)->g3.z b=some n->g.z b=some n/\(¬∃(j:Nat) (v:Vw),vs[j]? =some v/\r.xH[j]? =some .kill/\v.b=b)/\∀i,g3.c b i=g1.c b i:=λb n hb hz=>by
  obtain⟨n1,n2⟩:=N2 b (by omega);rw[n1] at hz;by_cases hkl:∃(j:Nat) (v:Vw),vs[j]? =some v/\r.xH[j]? =some .kill/\v.b=b
  .rw[G2.2.1 b hkl] at hz;cases hz
  .obtain⟨k1,k2⟩:=G2.2.2 b hkl;rw[k1,G1.1] at hz;exact⟨hz,hkl,λi=>(n2 i).trans (k2 i)⟩
 have new:∀k,k<r.news.length->∃b,r.news[k]? =some b/\g3.z (aJ+k)=some (af.size b)/\(∀i,i<af.size b->g3.c (aJ+k) i=Lu vs aJ (af.get b i))/\hZ (r.heap lh) (lh.length+k)=some (af.size b):=λk Li=>by
  have hb:r.news[k]? =some (r.news[k]'Li):=j7 _;have:=N1 k _ hb;rw[eX] at this;exact⟨_,hb,this.1,this.2,aar (ab6 hb)⟩
 have idx:∀b,aJ<=b/\b<aJ+r.news.length->∃k,k<r.news.length/\b=aJ+k:=λb hb=>⟨b-aJ,by omega,by omega⟩
 have H3:r9 (piB π πL vs.length aJ r.news.length) g3.c g3.z w':=by
  refine⟨hHL.am,λb B s q e hz hp A8=> ?_,λb n hz=> ?_,?_⟩
  .by_cases hb:aJ<=b/\b<aJ+r.news.length
   .obtain⟨k,Li,rfl⟩:=idx b hb;obtain⟨bR,aaj,z1,z2,z3⟩:=new k Li;rw[Ws Li,<-b3] at hp;exact hHL.lb _ B s q e (by rw[z3];simp) hp A8
   .cases hh:g3.z b with
    |none=>exact absurd hh hz
    |some n=>
     obtain⟨NK,hkl,hc3⟩:=wT b n hb hh;obtain⟨B1,s1,e1,Hw,_⟩:=R.hp.hp b n NK;have e2:=K.wT Hw;rw[hp] at e2;cases e2;exact R.hp.lb b B s q e (by rw[NK];simp) Hw A8
  .by_cases hb:aJ<=b/\b<aJ+r.news.length
   .obtain⟨k,Li,rfl⟩:=idx b hb;obtain⟨bR,aaj,z1,z2,z3⟩:=new k Li;rw[z1] at hz;cases hz;obtain⟨B,s,e,hp,hle,k1,k2⟩:=hHL.hp _ _ z3;refine⟨B,s,e,by rw[Ws Li,<-b3];exact hp,hle,k1,λj hj=> ?_⟩;obtain⟨x,hx,hr⟩:=k2 j hj;rw[agQ (ab6 aaj) hj] at hr;exact⟨x,hx,by rw[z2 j hj];exact K.aTd _ _ hr⟩
   .obtain⟨NK,hkl,hc3⟩:=wT b n hb hz;obtain⟨B,s,e,hp,hle,k1,k2⟩:=R.hp.hp b n NK;refine⟨B,s,e,K.wT hp,hle,λi i1 i2=> ?_,λj hj=> ?_⟩
    .have:=k1 i i1 i2;exact⟨hFr.isSome this.1,by rw[hFr.fz (ab5 this.1)];exact this.2⟩
    .rw[hc3];by_cases aX7:∃(jv:Nat) (u:Vw) (bR:af),vs[jv]? =some u/\r.xH[jv]? =some (.set bR)/\u.b=b/\u.o.val<=j/\j<u.o.val+u.n
     .obtain⟨jv,u,bR,hu,SX,rfl,j1,j2⟩:=aX7;have e1:=c5 g jv u bR j hu SX j1 j2;rw[hg1] at e1;rw[e1];have xI:=c2 jv u bR hu SX;have hjv:jv<lh.length:=by rw[b3];exact(ld.1 hu).1
      have alK:(r.heap lh)[jv]? =some (some bR):=by rw[DB hjv];exact agP.1 bR SX hjv
      obtain⟨B1,s1,e1',Hw,a3I,_,m2⟩:=hHL.hp jv _ (aar alK);have:=avj _ _ (xK hu hp);rw[Hw] at this;simp only[gS,ql] at this;obtain⟨rfl,rfl,_,_⟩:=this;obtain⟨x,hx,hr⟩:=m2 (j-u.o.val) (by omega);rw[agQ alK (by omega)] at hr;exact⟨x,by rw[show s+j=s+u.o.val+(j-u.o.val) by omega];exact hx,K.aTd _ _ hr⟩
     .obtain⟨x,hx,hr⟩:=k2 j hj
      have ZV:=qv (us:=aTe) (g:=g) (p:=.c b j) (λu hu ht=>by
       obtain⟨jv,v',bR,e1,e2,rfl⟩:=c3 u hu;simp only[Up.Hv,JN,c2 jv v' bR e1 e2] at ht;exact aX7 ⟨jv,v',bR,e1,e2,ht.1,ht.2.1,ht.2.2⟩)
      simp only[Gt.at,PV.c.injEq,hg1] at ZV;rw[ZV];refine⟨x,?_,CV.dC K.ext' _ _ hr⟩;rw[hFr.cl (ab5 (by rw[hx];rfl)),hx];intro hft;obtain⟨jv,u,q,s0,e0,hu,hq,NJ,A8,i1,i2,i3,how,a3J,SX⟩:=aRy _ _ hft;by_cases hbb:u.b=b
      .subst hbb;rw[hp] at NJ;cases NJ;rw[NK] at hq;cases hq;rcases SX with SX| ⟨bR,SX⟩
       .exact hkl ⟨jv,u,hu,SX,rfl⟩
       .refine aX7 ⟨jv,u,bR,hu,SX,rfl,by omega,?_⟩;cases a00:u.own
        .simp only[a00,wS,fY] at i2;omega
        .have:=how a00;omega
      .exact R.hp.dj u.b b B s0 _ e0 s _ e hbb (by simp[hq]) (by simp[NK]) NJ hp (s+j) (by omega) i3 (by omega) (by omega)
  ·
   have no:∀k b' B s q e s' q' e',k<r.news.length->¬(aJ<=b'/\b'<aJ+r.news.length)->g3.z b'≠none->πL (vs.length+k)=some (B,s,q,e)->π b'=some (B,s',q',e')->∀i,s<=i->i<e->s'<=i->i<e'->False:=by
    intro k b' B s qq e s' q' e' Li eV tV hp uj i i1 i2 i3 i4;cases hzz:g3.z b' with
    |none=>exact tV hzz
    |some n'=>
    obtain⟨NK,hkl,_⟩:=wT b' n' eV hzz;obtain⟨_,_,_,hp0,_,k1,_⟩:=R.hp.hp b' n' NK;rw[uj] at hp0;cases hp0;have hB:=ab5 (k1 i i3 i4).1;obtain⟨jv,u,q,s0,e0,hu,hq,NJ,A8,m1,m2,m3,how,a3J,SX⟩:=aRy _ _ (a0Z (vs.length+k) B s qq e (by omega) hp hB i i1 i2);by_cases hbb:u.b=b'
    .subst hbb;rcases SX with SX| ⟨bR,SX⟩
     .exact hkl ⟨jv,u,hu,SX,rfl⟩
     .have hjv:jv<lh.length:=by rw[b3];exact(ld.1 hu).1
      have alK:(r.heap lh)[jv]? =some (some bR):=by rw[DB hjv];exact agP.1 bR SX hjv
      obtain⟨_,_,_,_,z3⟩:=new k Li;rw[b3] at z3;exact hHL.dj (vs.length+k) jv B s qq e _ _ _ (by omega) (by simp[z3]) (by simp[aar alK]) hp (avj _ _ (xK hu NJ)) i i1 i2 m1 m2
    .exact R.hp.dj u.b b' B s0 _ e0 s' _ e' hbb (by simp[hq]) (by simp[NK]) NJ uj i (by omega) m3 i3 i4
   intro b b' B s qq e s' q' e' mc hz tV hp uj i i1 i2 i3 i4;by_cases hb:aJ<=b/\b<aJ+r.news.length
   .obtain⟨k,Li,rfl⟩:=idx b hb;rw[Ws Li] at hp;by_cases eV:aJ<=b'/\b'<aJ+r.news.length
    .obtain⟨k',aNB,rfl⟩:=idx b' eV;rw[Ws aNB] at uj;obtain⟨_,_,_,_,z3⟩:=new k Li;obtain⟨_,_,_,_,z3'⟩:=new k' aNB;rw[b3] at z3 z3';exact hHL.dj (vs.length+k) (vs.length+k') B s qq e s' q' e' (by omega) (by simp[z3]) (by simp[z3']) hp uj i i1 i2 i3 i4
    .rw[Wt eV] at uj;exact no k b' B s qq e s' q' e' Li eV tV hp uj i i1 i2 i3 i4
   .rw[Wt hb] at hp;by_cases eV:aJ<=b'/\b'<aJ+r.news.length
    .obtain⟨k',aNB,rfl⟩:=idx b' eV;rw[Ws aNB] at uj;exact no k' b B s' q' e' s qq e aNB hb hz uj hp i i3 i4 i1 i2
    .rw[Wt eV] at uj;cases hzz:g3.z b with
     |none=>exact hz hzz
     |some n=>
     cases a01:g3.z b' with
     |none=>exact tV a01
     |some n'=>
     exact R.hp.dj b b' B s qq e s' q' e' mc (by simp[(wT b n hb hzz).1]) (by simp[(wT b' n' eV a01).1]) hp uj i i1 i2 i3 i4
 have R3:Rel X D (piB π πL vs.length aJ r.news.length) g3 a w':=by
  refine⟨λi=> ?_,R.nt,R.df,H3,λb hb=> ?_,λb B s qq e hkb hz hp hB i i1 i2=> ?_,R.fr.trans hFr aTg⟩
  .rw[N0,G2.1,G1.2];exact AV.dC K.ext' _ _ (R.tm i)
  .rw[Wt (by omega)];exact R.wT b hb
  .by_cases hb:aJ<=b/\b<aJ+r.news.length
   .obtain⟨k,Li,rfl⟩:=idx b hb;rw[Ws Li] at hp;exact aTg B i hB (a0Z (vs.length+k) B s qq e (by omega) hp (aEv hB R.fr.size) i i1 i2)
   .rw[Wt hb] at hp;cases hzz:g3.z b with
    |none=>exact absurd hzz hz
    |some n=>exact R.ft b B s qq e hkb (by simp[(wT b n hb hzz).1]) hp hB i i1 i2
 refine hn _ _ (piB π πL vs.length aJ r.news.length) K.ext' (λb hb=> ?_) ?_
 .by_cases eV:aJ<=b/\b<aJ+r.news.length
  .exact .inr eV
  .rw[Wt eV] at hb;exact .inl hb
 .have e3:cE (dO o.dst (aM5 vs aJ r.val)++(aTe++(oT vs r.xH++Ht vs aJ r.news 0))) g=cE (dO o.dst (aM5 vs aJ r.val)) g3:=by
   rw[LF _ _ _ _ (λu hu i x e=>by
    rcases List.mem_append.1 hu with hu|hu
    .obtain⟨_,_,_,_,_,rfl⟩:=c3 u hu;cases e
    .rcases List.mem_append.1 hu with hu|hu
     .obtain⟨_,rfl⟩:=aaq hu;cases e
     .obtain⟨_,_,rfl⟩:=aFd hu;cases e)]
   rw[Qp,Qp,hg1,hg2,hg3]
  rw[e3];exact R3.dst hd (K.a3G _ _ aFe)
end
end Go.Ab
