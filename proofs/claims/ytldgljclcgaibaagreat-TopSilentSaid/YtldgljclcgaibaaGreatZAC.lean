/-
  Parts of the proof: AbP AbQ AbB AbC AbD AbE AbF
-/
import Derived.Test.YtldgljclcgaibaaGreatZAB
import Derived.Laws.StructEq
import Derived.Laws.Tables
import Derived.Laws.Append
import Derived.Laws.AppendOwn
open Nat renaming ble→wd
set_option linter.all false
namespace Go.Ab
variable [ax]
section
variable {P:Program} {o:Oper} {X:Cx} {D:Nat->Prop} {aJ:Nat} {us:List Up} {g:Gt}
omit [ax] in
theorem Qc (us vs:List Up)(g:Gt):cI (us++vs) g=cI vs (cI us g):=by simp[cI]
theorem aM0 {t:TypeId}{x y:Operand}{fp:List Fp}(ho:o.op=.store t x y)
  (h:aI ((aMF x).bind λp=>(aME y).bind λv=>(Ab.ey (jf P t)).bind λn=>(Ab.cN (Nat.beq (af.size v.bR) n&&wd n p.2.2)).bind λ_=>.sz p.1<| .ret (BK (js P t v.bR aJ).2 aJ++(ec o.dst udf++[.c p.1 p.2.1 (js P t v.bR aJ).1]))) g us fp):Ao P o X D aJ us g:=by
 obtain⟨p,⟨_,h1⟩,_,h⟩:=aI.bind' h;obtain⟨v,⟨_,h2⟩,_,h⟩:=aI.bind' h;obtain⟨n,⟨_,h3⟩,_,h⟩:=aI.bind' h;obtain⟨_,⟨_,h4⟩,_,h⟩:=aI.bind' h;cases h with|sz q hz h=>
 cases h;have h4:=h4.cN;simp only[cx,beq_iff,fC] at h4;obtain⟨h4,h5⟩:=h4;obtain⟨n1,n2,n3⟩:=auo P t v.bR aJ;generalize (js P t v.bR aJ).1=k at n1 n2 n3
 generalize (js P t v.bR aJ).2=es at n1 n2 n3
 intro π a w next Q R hk hf hd hD hn;obtain⟨B,s,q',e,hb,ha,hm⟩:=h1.aMF R;have hc:=RV.Om (h2.aME R);have hl:=(jI hc).1;obtain⟨B',s',e',fy,hle,k1,k2⟩:=R.hp.hp _ _ hz;rw[hb] at fy;cases fy
 have hcn:cF (BK es aJ++(ec o.dst udf++[.c p.1 p.2.1 k]))=es.length:=by
  rw[aHY,asy];unfold ec cF;cases o.dst<;>rfl
 rw[hcn] at hf hn;obtain⟨π1,e1,e2,e3,R1⟩:=R.aD1 n2 hk hf;have hc1:=n3 π1 e3 _ (hc.imp (CV.dP e1))
 have hz1:(cI (BK es aJ) g).z p.1=some q:=by
  have key:∀(es:List af) (aJ:Nat) (g:Gt),g.z p.1=some q->(∀b,aJ<=b->b<aJ+es.length->b≠p.1)->(cI (BK es aJ) g).z p.1=some q:=by
   intro es;induction es with
   |nil=>intro aJ g h _;exact h
   |cons x es ih=>
    intro aJ g h nd;refine ih (aJ+1) _ ?_ (λb h1 h2=>nd b (by omega) (by simp only[Lu];omega));have:=nd aJ (dq _) (by simp);simp only[Up.iw];rw[if_neg (by omega)];exact h
  refine key es aJ g hz λb h1 h2 hbp=> ?_;have:=hf b h1 h2;rw[hbp,hb] at this;cases this
 have R2:=R1.set hz1 (e1 _ _ hb) (o:=p.2.1) (vs:=k) (by rw[n1];omega) hc1 (hD (.c p.1 p.2.1 k) (by simp));have R3:=R2.dst hd (asx π1);refine aZv (w':=w.setCells B (s+p.2.1.val) (a.eval y).cells.toList) ?_ (hn _ _ π1 e1 e2 ?_)
 .have hst:=run_storeCells_cells (P:=P) B (s+p.2.1.val) (a.eval y).cells.toList 0 w
   (λj hj=>(k1 (s+p.2.1.val+0+j) (by omega) (by omega)).1) (λj hj=>(k1 (s+p.2.1.val+0+j) (by omega) (by omega)).2)
   (λx hx=>by
    obtain⟨i,hi⟩:=axf.1 hx;obtain⟨c,_,hr⟩:=hc.get' hi;exact CV.QV hr)
  have yp:(a.eval y).cells.size=n:=by rw[<-VF];omega
  simp[execOp,ho,Instr.storeAt,ha,Instr.sureAddr,storeVar,run_sizeOf h3.ey,yp,hst]
 .have e1:cI (BK es aJ++(ec o.dst udf++[.c p.1 p.2.1 k])) g=cI (ec o.dst udf) ((Up.c p.1 p.2.1 k).iw (cI (BK es aJ) g)):=by
   rw[aD0];cases o.dst<;>rfl
  rw[e1];exact R3
theorem aD3 {x:Operand}{fp:List Fp}(ho:o.op=.nilCheck x)
  (h:aI ((G9 x).bind λ|.ptr b q n=>.ret (ec o.dst (.r (.c (.ptr b q n))))|.fp l=>.ret (ec o.dst (.r (.c (.fp l))))|_=>.fail) g us fp):Ao P o X D aJ us g:=by
 obtain⟨v,⟨_,h1⟩,_,h⟩:=aI.bind' h;split at h
 .rename_i b q n
  cases h;refine iX λπ a w R=> ?_;obtain⟨B,s,q',e,hb,ha,hm⟩:=h1.G9 R;refine⟨_,?_,B,s,q',e,hb,rfl,hm⟩;simp[execOp,ho,ha]
 .cases h;refine iX λπ a w R=> ?_;obtain⟨B,s,ha,hc⟩:=h1.G9 R;refine⟨_,?_,B,s,rfl,hc⟩;simp[execOp,ho,ha]
 .cases h
theorem aTj {op:BinOp}{k:IntKind}{x y:Int}{v:FV}{fp:List Fp}(hs:op≠.shl/\op≠.shr)(h:aI (aW9 op k x y) g v fp)(t:TypeId)(w:World):
  ∃z,(binOp op t (.int k x) (.int k y)).run P w=.ok z w/\v.rel z:=by
 unfold aW9 at h;cases op<;>simp only[] at h
 case shl=>exact absurd rfl hs.1
 case shr=>exact absurd rfl hs.2
 case quo=>
  obtain⟨_,⟨_,h1⟩,_,h⟩:=aI.bind' h;cases h;have h1:¬y=0:=by simpa using h1.cN
  exact⟨_,by simp[binOp,Op.intDiv,h1],rfl⟩
 case rem=>
  obtain⟨_,⟨_,h1⟩,_,h⟩:=aI.bind' h;cases h;have h1:¬y=0:=by simpa using h1.cN
  exact⟨_,by simp[binOp,Op.intDiv,h1],rfl⟩
 case and=>obtain⟨n,⟨_,h1⟩,_,h⟩:=aI.bind' h;cases h;have h1:=h1.ey;simp only[ass,je] at h1;subst h1;exact⟨_,by simp[binOp,Op.intBits],rfl⟩
 case or=>obtain⟨n,⟨_,h1⟩,_,h⟩:=aI.bind' h;cases h;have h1:=h1.ey;simp only[ass,je] at h1;subst h1;exact⟨_,by simp[binOp,Op.intBits],rfl⟩
 case xor=>obtain⟨n,⟨_,h1⟩,_,h⟩:=aI.bind' h;cases h;have h1:=h1.ey;simp only[ass,je] at h1;subst h1;exact⟨_,by simp[binOp,Op.intBits],rfl⟩
 case andNot=>obtain⟨n,⟨_,h1⟩,_,h⟩:=aI.bind' h;cases h;have h1:=h1.ey;simp only[ass,je] at h1;subst h1;exact⟨_,by simp[binOp,Op.intBits],rfl⟩
 all_goals (cases h;exact⟨_,by simp[binOp,Op.intArith,Op.intCmp],rfl⟩)
theorem azj {op:BinOp}{k k':IntKind}{x y:Int}{v:FV}{fp:List Fp}(h:aI (aSq op k x y) g v fp)(t:TypeId)(w:World):
  ∃z,(binOp op t (.int k x) (.int k' y)).run P w=.ok z w/\v.rel z:=by
 obtain⟨_,⟨_,h1⟩,_,h⟩:=aI.bind' h;have h1:¬y<0:=by simpa using h1.cN
 cases op<;>simp only[] at h
 case shl=>cases h;exact⟨_,by simp only[binOp,Op.shift,h1,gB];exact Sem.run_pure ..,rfl⟩
 case shr=>cases h;exact⟨_,by simp only[binOp,Op.shift,h1,gB];exact Sem.run_pure ..,rfl⟩
 all_goals cases h
omit [ax] in
theorem afP (op:BinOp)(t:TypeId)(x y:Operand)(k k':IntKind)(m n:Int)(w:World):(eqGuard op t x y (.int k m) (.int k' n)).run P w=.ok () w:=by
 cases op<;>simp[eqGuard]
omit [ax] in
theorem aGk (op:BinOp)(t:TypeId)(x y:Operand)(m n:Bool)(w:World):(eqGuard op t x y (.bool m) (.bool n)).run P w=.ok () w:=by
 cases op<;>simp[eqGuard]
omit [ax] in
theorem afQ (op:BinOp)(t:TypeId)(x y:Operand)(m n:Option Addr)(w:World):(eqGuard op t x y (.pointer m) (.pointer n)).run P w=.ok () w:=by
 cases op<;>simp[eqGuard]
omit [ax] in
theorem aup {t:TypeId}{x y:Value}{r:Bool}{w:World}(hi:(∀k n,x≠.int k n))(hs:∀s,x≠.string s)(hf:∀k n,x≠.float k n)(hc:∀k n m,x≠.complex k n m)(h:(Op.equal t x y).run P w=.ok r w):(binOp .eql t x y).run P w=.ok (.bool r) w/\(binOp .neq t x y).run P w=.ok (.bool (!r)) w:=by
 cases x<;>first
  |exact absurd rfl (hi _ _)
  |exact absurd rfl (hs _)
  |exact absurd rfl (hf _ _)
  |exact absurd rfl (hc _ _ _)
  |(simp only[binOp];simp[h])
theorem aTk {op:BinOp}{t:TypeId}{x y:RV}{v:RV}{fp:List Fp}(h:aI (aXc P op t x y) g v fp)(heq:∀r l,aI (eqV P t x y) g r l->∀π a b w,x.rel π a->y.rel π b->(∀(op:BinOp) (p q:Operand),(eqGuard op t p q a b).run P w=.ok () w)/\(binOp .eql t a b).run P w=.ok (.bool r) w/\(binOp .neq t a b).run P w=.ok (.bool (!r)) w)
  {π:Pi}{a b:Value}(hx:x.rel π a)(hy:y.rel π b)(p q:Operand)(w:World):
  ∃z,(do eqGuard op t p q a b;binOp op t a b:Sem Value).run P w=.ok z w/\v.rel π z:=by
 unfold aXc at h;split at h
 .rename_i k m k' n
  have ha:a=.int k m:=hx;have hb:b=.int k' n:=hy;subst ha hb;split at h
  .obtain⟨r,⟨_,h1⟩,_,h⟩:=aI.bind' h;cases h;obtain⟨z,hz,hr⟩:=azj (P:=P) (k':=k') h1 t w;exact⟨z,by simp[afP,hz],hr⟩
  .obtain⟨r,⟨_,h1⟩,_,h⟩:=aI.bind' h;cases h;obtain⟨z,hz,hr⟩:=azj (P:=P) (k':=k') h1 t w;exact⟨z,by simp[afP,hz],hr⟩
  .rename_i n1 n2
   split at h
   .rename_i hk
    subst hk;obtain⟨r,⟨_,h1⟩,_,h⟩:=aI.bind' h;cases h;obtain⟨z,hz,hr⟩:=aTj (P:=P) ⟨λe=>n1 e,λe=>n2 e⟩ h1 t w;exact⟨z,by simp[afP,hz],hr⟩
   .cases h
 .split at h
  .obtain⟨r,⟨l1,h1⟩,_,h⟩:=aI.bind' h;cases h;obtain⟨e1,e2,_⟩:=heq r _ h1 π a b w hx hy;exact⟨.bool r,by simp[e1,e2],rfl⟩
  .obtain⟨r,⟨l1,h1⟩,_,h⟩:=aI.bind' h;cases h;obtain⟨e1,_,e2⟩:=heq r _ h1 π a b w hx hy;exact⟨.bool (!r),by simp[e1,e2],rfl⟩
  .cases h
theorem aQR {op:UnOp}{t:TypeId}{x:Operand}{fp:List Fp}(ho:o.op=.unOp op t x)
  (h:aI ((wD x).bind λa=>(unV op a).bind λv=>.ret (ec o.dst (.r v))) g us fp):Ao P o X D aJ us g:=by
 obtain⟨r,⟨_,h1⟩,_,h⟩:=aI.bind' h;obtain⟨v,⟨_,h2⟩,_,h⟩:=aI.bind' h;cases h;refine iX λπ a w R=> ?_;have ha:=h1.wD R;unfold unV at h2;split at h2
 .have ha:a.eval x=_:=ha;cases h2;exact⟨_,by simp[execOp,ho,ha,Op.unary,Op.intArith],rfl⟩
 .have ha:a.eval x=_:=ha;obtain⟨n,⟨_,h3⟩,_,h2⟩:=aI.bind' h2;cases h2;have h3:=h3.ey;simp only[ass,je] at h3;subst h3;exact⟨_,by simp[execOp,ho,ha,Op.unary,Op.intBits],rfl⟩
 .have ha:a.eval x=_:=ha;cases h2;exact⟨_,by simp[execOp,ho,ha,Op.unary],rfl⟩
 .cases h2
theorem aGl {s d:TypeId}{x:Operand}{fp:List Fp}(ho:o.op=.convert s d x)
  (h:aI ((wD x).bind λa=>(aQF P s d a).bind λv=>.ret (ec o.dst (.r v))) g us fp):Ao P o X D aJ us g:=by
 obtain⟨r,⟨_,h1⟩,_,h⟩:=aI.bind' h;obtain⟨v,⟨_,h2⟩,_,h⟩:=aI.bind' h;cases h;refine iX λπ a w R=> ?_;have ha:=h1.wD R;unfold aQF at h2;split at h2
 .rename_i d1 k k' n hs hd
  have ha:a.eval x=_:=ha;cases h2;exact⟨_,by simp[execOp,ho,ha,convert,run_underlying hs,run_underlying hd,Conv.intToInt],rfl⟩
 .cases h2
theorem aD4 {t:TypeId}{x:Operand}{fp:List Fp}(ho:o.op=.sliceToArrayPointer t x)
  (h:aI ((G9 x).bind λc=>match P.underlying t,c with
   |some (.array n _),.sl b q len z _=>(Ab.cN (wd 1 n&&wd n len.val)).bind λ_=>(Rd.ret (CV.ptr b q (n*z))).bind λv=>.ret (ec o.dst (.r (.c v)))
   |_,_=>.fail) g us fp):Ao P o X D aJ us g:=by
 obtain⟨r,⟨_,h1⟩,_,h⟩:=aI.bind' h;split at h
 .rename_i n e b q len z own hu
  obtain⟨_,⟨_,h2⟩,_,h⟩:=aI.bind' h;cases h;have h2:=h2.cN;simp only[cx,Nat.ble_eq] at h2;refine iX λπ a w R=> ?_;obtain⟨B,s,q',e,hb,hm,_,⟨h0,_⟩| ⟨cap,rS,ha,_⟩⟩:=h1.G9 R
  .omega
  .exact⟨_,by simp[execOp,ho,ha,Instr.arrayAt,run_underlying hu];intro om;omega,B,s,q',e,hb,rfl,by
    have:=wC z h2.2;omega⟩
 .cases h
omit [ax] in
theorem aoG {α β γ:Type}{R:α->γ->Prop}{f:β->γ}:∀{l:List α} {m:List β},bl (λa b=>R a (f b)) l m->bl R l (m.map f)
 | [],[],_=>trivial
 |_::_,_::_,⟨a,b⟩=>⟨a,aoG b⟩
 | [],_::_,h=>h.elim
 |_::_,[],h=>h.elim
theorem aD5 {f:FuncId}{fs ado:Array Operand}{fp:List Fp}(ho:o.op=.makeFunc (.func f) fs ado)
  (h:aI (match fs.toList with
   | []=>(Ab.uj Ab.wD ado.toList).bind λl=>.ret (ec o.dst (.fn f l))
   |_=>.fail) g us fp):Ao P o X D aJ us g:=by
 split at h
 .rename_i hfs
  obtain⟨r,⟨_,h1⟩,_,h⟩:=aI.bind' h;cases h;refine iX λπ a w R=>⟨.func (.func f) #[] (ado.map a.eval),?_,_,rfl,?_⟩
  .have:fs=#[]:=by
    rw[<-akH];exact hfs
   simp[execOp,ho,this,Instr.makeFunc]
  .have:=aI.uj (ρ:=λv x=>v.rel π (a.eval x)) (λx v l hx=>aI.wD hx R) h1;rw[Array.toList_map];exact aoG this
 .cases h
theorem aM1 {t:TypeId}{x:Operand}{i:Nat}{fp:List Fp}(ho:o.op=.field t x i)
  (h:aI ((wD x).bind λ|.agg cs=>(Ab.ey (afB P t i)).bind λf=>(Oh P f.type cs f.offset).bind λv=>.ret (ec o.dst (.r v))|_=>.fail) g us fp):Ao P o X D aJ us g:=by
 obtain⟨r,⟨_,h1⟩,_,h⟩:=aI.bind' h;split at h
 .rename_i cs
  obtain⟨f,⟨_,h2⟩,_,h⟩:=aI.bind' h;obtain⟨v,⟨_,h3⟩,_,h⟩:=aI.bind' h;cases h;refine iX λπ a w R=> ?_;obtain⟨arr,ha,hx⟩:=h1.wD R;obtain⟨y,hy,hr⟩:=h3.Oh hx w;refine⟨y,?_,hr⟩;have h2:=h2.ey;unfold afB at h2;split at h2
  .rename_i fs hu
   simp[execOp,ho,Instr.field,run_underlying hu,h2,ha,asAgg,hy]
  .cases h2
 .cases h
omit [ax] in
theorem aI.apT {i:Int}:∀{n j:Nat} {l:List Fp},aI (apT i n) g j l->0<=i->i<(n:Int)+1->j=i.toNat
 |0,j,l,h,h1,h2=>by cases h;omega
 |n+1,j,l,h,h1,h2=>by
  cases h with|test h=>
  cases hx:i==((n+1:Nat):Int) with
  |true=>
   rw[hx] at h;cases h;have:=eq_of_beq hx;omega
  |false=>
   rw[hx] at h;have:=akI hx;exact aI.apT h h1 (by omega)
omit [ax] in
theorem cE.LC (o:cE)(d:Nat):(o.add d).val=o.val+d:=by
 cases o<;>simp only[cE.add,cE.val]<;>omega
omit [ax] in
theorem cE.aM2 (o:cE)(j z n:Nat):(o.idx j z n).val=o.val+j*z:=by
 cases o with
 |k c=>rfl
 |x c i y=>
  simp only[cE.idx];split
  .rename_i hy
   rw[beq_iff] at hy;subst hy;simp only[cE.val];rw[qx,<-Nat.mul_assoc];omega
  .simp only[cE.val];omega
omit [ax] in
theorem cE.axu (o:cE)(j z:Nat):(o.aMB j z).val=o.val+j*z:=by
 cases o with
 |k c=>rfl
 |x c i y=>
  simp only[cE.aMB];split
  .rename_i hy
   rw[beq_iff] at hy;subst hy;simp only[cE.val];rw[qx];omega
  .simp only[cE.val];omega
omit [ax] in
theorem aI.sel {o:cE}{i:Int}{n:Nat}{e:TypeId}{z:Nat}{o':cE}{l:List Fp}(h:aI (sel P o i n e z) g o' l)(h1:0<=i)(h2:i<(n:Int)):o'.val=o.val+i.toNat*z:=by
 unfold Ab.sel at h;split at h
 .cases h;exact cE.aM2 ..
 .split at h
  .obtain⟨j,⟨_,h3⟩,_,h⟩:=aI.bind' h;cases h;rw[h3.apT h1 (by omega),cE.LC]
  .cases h;exact cE.aM2 ..
omit [ax] in
theorem aI.aMH {o:cE}{i:Int}{n:Sz}{e:TypeId}{z:Nat}{o':cE}{l:List Fp}(h:aI (aMH P o i n e z) g o' l)(h1:0<=i)(h2:i<(n.val:Int)):o'.val=o.val+i.toNat*z:=by
 unfold Ab.aMH at h;split at h
 .split at h
  .obtain⟨j,⟨_,h3⟩,_,h⟩:=aI.bind' h;cases h;simp only[Sz.val] at h2;rw[h3.apT h1 (by omega),cE.LC]
  .cases h;exact cE.axu ..
 .cases h;exact cE.axu ..
theorem aM3 {t:TypeId}{x i:Operand}{fp:List Fp}(ho:o.op=.index t x i)
  (h:aI ((wD x).bind λv=>(KH i).bind λi=>match P.underlying t,v with
   |some (.array n e),.agg cs=>(Ab.ey (jf P e)).bind λz=>(Ab.cN (wd 1 z&&wd (n*z) (af.size cs))).bind λ_=>(Ab.cN (bb i.2 n)).bind λ_=>(Ab.sel P (.k 0) i.2 n e z).bind λo'=>(partOf P e cs o').bind λv=>.ret (ec o.dst (.r v))
   |some .string,.c (.f (.s b))=>(Ab.cN (bb i.2 b.size)).bind λ_=>.ret (ec o.dst (.r (.c (.f (.i .u8 (Ez b i.2.toNat))))))
   |_,_=>.fail) g us fp):Ao P o X D aJ us g:=by
 obtain⟨r,⟨_,h1⟩,_,h⟩:=aI.bind' h;obtain⟨j,⟨_,h2⟩,_,h⟩:=aI.bind' h;split at h
 .rename_i n e cs hu _
  obtain⟨z,⟨_,h3⟩,_,h⟩:=aI.bind' h;obtain⟨_,⟨_,h7⟩,_,h⟩:=aI.bind' h;obtain⟨_,⟨_,h4⟩,_,h⟩:=aI.bind' h;obtain⟨i',⟨_,h6⟩,_,h⟩:=aI.bind' h;obtain⟨v,⟨_,h5⟩,_,h⟩:=aI.bind' h;cases h;refine iX λπ a w R=> ?_;obtain⟨arr,ha,hx⟩:=h1.wD R;have h4:=h4.cN;simp only[bb,cx,lC] at h4;have h7:=h7.cN;simp only[cx,fC] at h7;have hi:i'.val=j.2.toNat*z:=(h6.sel h4.1 h4.2).trans (gy _)
  have hb:j.2.toNat*z+z<=n*z:=by
   have:=wC z (show j.2.toNat+1<=n by omega);rw[qx] at this;omega
  obtain⟨y,hy,hr⟩:=h5.partOf h3.ey h7.1 (by rw[hi];omega) hx w;rw[hi] at hy;refine⟨y,?_,hr⟩;simp[execOp,ho,Instr.index,run_underlying hu,h2.KH R,ha,asIntOf,h4,run_sizeOf h3.ey,hy]
 .rename_i b hu _
  obtain⟨_,⟨_,h4⟩,_,h⟩:=aI.bind' h;cases h;refine iX λπ a w R=> ?_;have ha:a.eval x=.string b:=h1.wD R;have h4:=h4.cN;simp only[bb,cx,lC] at h4;have hb:b[j.2.toNat]? =some (b[j.2.toNat]'(by omega)):=getElem?_pos ..;refine⟨.int .u8 (Ez b j.2.toNat),?_,rfl⟩;unfold Ez;rw[hb];simp[execOp,ho,Instr.index,run_underlying hu,h2.KH R,ha,asIntOf,h4.1,hb]
 .cases h
theorem aGm {x:Operand}{i:Nat}{fp:List Fp}(ho:o.op=.extract x i)
  (h:aI ((Ee x).bind λ|.tup vs=>(Ab.ey (vs[i]?)).bind λv=>.ret (ec o.dst (.r v))|_=>.fail) g us fp):Ao P o X D aJ us g:=by
 obtain⟨r,⟨_,h1⟩,_,h⟩:=aI.bind' h;split at h
 .rename_i vs
  obtain⟨v,⟨_,h2⟩,_,h⟩:=aI.bind' h;cases h;refine iX λπ a w R=> ?_;obtain⟨arr,ha,hx⟩:=h1.Ee R;obtain⟨y,hy,hr⟩:=hx.get h2.ey;refine⟨y,?_,hr⟩;have hy:arr[i]? =some y:=by simpa using hy
  simp[execOp,ho,Instr.extract,ha,hy]
 .cases h
theorem aBx {t:TypeId}{x:Operand}{i:Nat}{fp:List Fp}(ho:o.op=.fieldAddr t x i)
  (h:aI ((G9 x).bind λc=>(axm P t c i).bind λv=>.ret (ec o.dst (.r (.c v)))) g us fp):Ao P o X D aJ us g:=by
 obtain⟨r,⟨_,h1⟩,_,h⟩:=aI.bind' h;obtain⟨v,⟨_,h2⟩,_,h⟩:=aI.bind' h;cases h;refine iX λπ a w R=> ?_;have ha:=h1.G9 R;unfold axm at h2;split at h2
 .rename_i l
  obtain⟨f,⟨_,h3⟩,_,h2⟩:=aI.bind' h2;obtain⟨n,⟨_,h4⟩,_,h2⟩:=aI.bind' h2;obtain⟨_,⟨_,h5⟩,_,h2⟩:=aI.bind' h2;cases h2;obtain⟨B,s,ha,hc⟩:=ha;have h3:=h3.ey;have h5:=h5.cN;simp only[cx,fC] at h5;have hn:n≠0:=by omega
  unfold afB at h3;split at h3
  .rename_i fs hu
   refine⟨.pointer (some ⟨B,s+f.offset,none⟩),?_,B,s+f.offset,rfl,λj v hj=> ?_⟩
   .simp[execOp,ho,Instr.fieldAt,run_underlying hu,h3,ha,Instr.sureAddr,fieldPlace,run_sizeOf h4.ey,hn,nL]
   .rw[abb] at hj;split at hj
    .rw[Sp] at hj;rw[BI];exact hc _ v hj
    .cases hj
  .cases h3
 .rename_i b q m
  obtain⟨f,⟨_,h3⟩,_,h2⟩:=aI.bind' h2;obtain⟨n,⟨_,h4⟩,_,h2⟩:=aI.bind' h2;obtain⟨_,⟨_,h5⟩,_,h2⟩:=aI.bind' h2;cases h2;obtain⟨B,s,q',e,hb,ha,hm⟩:=ha;have h3:=h3.ey;have h5:=h5.cN;simp only[cx,fC] at h5;have hn:n≠0:=by omega
  unfold afB at h3;split at h3
  .rename_i fs hu
   refine⟨.pointer (some ⟨B,s+(q.add f.offset).val,none⟩),?_,B,s,q',e,hb,rfl,by rw[cE.LC];omega⟩;simp[execOp,ho,Instr.fieldAt,run_underlying hu,h3,ha,Instr.sureAddr,fieldPlace,run_sizeOf h4.ey,hn,nL,BI,cE.LC]
  .cases h3
 .cases h2
theorem aBy {t:TypeId}{x i:Operand}{fp:List Fp}(ho:o.op=.indexAddr t x i)
  (h:aI ((G9 x).bind λc=>(KH i).bind λi=>(axn P t c i.2).bind λv=>.ret (ec o.dst (.r (.c v)))) g us fp):Ao P o X D aJ us g:=by
 obtain⟨r,⟨_,h1⟩,_,h⟩:=aI.bind' h;obtain⟨j,⟨_,h2⟩,_,h⟩:=aI.bind' h;obtain⟨v,⟨_,h3⟩,_,h⟩:=aI.bind' h;cases h;refine iX λπ a w R=> ?_;have ha:=h1.G9 R;unfold axn at h3;split at h3
 .rename_i n e b q m hu _
  obtain⟨z,⟨_,h4⟩,_,h3⟩:=aI.bind' h3;obtain⟨_,⟨_,h7⟩,_,h3⟩:=aI.bind' h3;obtain⟨_,⟨_,h5⟩,_,h3⟩:=aI.bind' h3;obtain⟨o',⟨_,h6⟩,_,h3⟩:=aI.bind' h3;cases h3;obtain⟨B,s,q',e',hb,ha,hm⟩:=ha;have h5:=h5.cN;simp only[bb,cx,lC] at h5;have h7:=fC.1 h7.cN;have hi:=h6.sel h5.1 h5.2
  have hbd:j.2.toNat*z+z<=n*z:=by
   have:=wC z (show j.2.toNat+1<=n by omega);rw[qx] at this;omega
  refine⟨.pointer (some ⟨B,s+o'.val,none⟩),?_,B,s,q',e',hb,rfl,by omega⟩;rw[hi];simp[execOp,ho,Instr.indexAt,run_underlying hu,h2.KH R,ha,asIntOf,Instr.sureAddr,h5,run_sizeOf h4.ey,nL,BI]
 .rename_i e b q len z' own hu _
  obtain⟨z,⟨_,h4⟩,_,h3⟩:=aI.bind' h3;obtain⟨_,⟨_,h6⟩,_,h3⟩:=aI.bind' h3;obtain⟨_,⟨_,h5⟩,_,h3⟩:=aI.bind' h3;obtain⟨o',⟨_,h8⟩,_,h3⟩:=aI.bind' h3;cases h3;have h5:=h5.cN;simp only[bb,cx,lC] at h5;have h6:=beq_iff.1 h6.cN;subst h6;have hi:=h8.aMH h5.1 h5.2;obtain⟨B,s,q',e',hb,hm,_,⟨h0,_⟩| ⟨cap,rS,ha,_⟩⟩:=ha
  .omega
  .have hbd:j.2.toNat*z+z<=len.val*z:=by
    have:=wC z (show j.2.toNat+1<=len.val by omega);rw[qx] at this;omega
   refine⟨.pointer (some ⟨B,s+o'.val,none⟩),?_,B,s,q',e',hb,rfl,by omega⟩;rw[hi];simp[execOp,ho,Instr.indexAt,run_underlying hu,h2.KH R,ha,asIntOf,h5,run_sizeOf h4.ey,nL,BI]
 .rename_i e n z' cols hu _
  obtain⟨z,⟨_,h4⟩,_,h3⟩:=aI.bind' h3;obtain⟨_,⟨_,h6⟩,_,h3⟩:=aI.bind' h3;obtain⟨_,⟨_,h5⟩,_,h3⟩:=aI.bind' h3;cases h3;have h5:=h5.cN;simp only[bb,cx,lC] at h5;have h6:=beq_iff.1 h6.cN;subst h6;obtain⟨hz,⟨h0,_⟩| ⟨B,s,cap,rS,ha,hc⟩⟩:=ha
  .omega
  .refine⟨.pointer (some ⟨B,s+j.2.toNat*z,none⟩),?_,B,s+j.2.toNat*z,rfl,λi f hi=> ?_⟩
   .simp[execOp,ho,Instr.indexAt,run_underlying hu,h2.KH R,ha,asIntOf,h5,run_sizeOf h4.ey,nL]
   .rw[BH,nq] at hi;obtain⟨q,hq,rfl⟩:=hi;have hil:=(mi.1 hq).1
    have hbd:j.2.toNat*z+z<=n*z:=by
     have:=wC z (show j.2.toNat+1<=n by omega);rw[qx] at this;omega
    obtain⟨f,v,e1,e2,e3⟩:=hc (j.2.toNat*z+i) (by omega);refine⟨v,by rw[BI];exact e2,?_⟩
    have e4:jg cols (j.2.toNat*z+i)=.f (q.at j.2.toNat):=by
     unfold jg;rw[hz,abf,asn,Nat.mul_add_div (by omega),axi (by omega),Nat.div_eq_of_lt (by omega),hq];rfl
    rw[e1] at e4;cases e4;exact e3
 .rename_i n e l hu _
  obtain⟨z,⟨_,h4⟩,_,h3⟩:=aI.bind' h3;obtain⟨_,⟨_,h7⟩,_,h3⟩:=aI.bind' h3;obtain⟨_,⟨_,h5⟩,_,h3⟩:=aI.bind' h3;obtain⟨o',⟨_,h6⟩,_,h3⟩:=aI.bind' h3;cases h3;obtain⟨B,s,ha,hc⟩:=ha;have h5:=h5.cN;simp only[bb,cx,lC] at h5;have hi:=h6.apT (by omega) (by omega);refine⟨.pointer (some ⟨B,s+j.2.toNat*z,none⟩),?_,B,s+j.2.toNat*z,rfl,λi f hf=> ?_⟩
  .simp[execOp,ho,Instr.indexAt,run_underlying hu,h2.KH R,ha,asIntOf,Instr.sureAddr,h5,run_sizeOf h4.ey,nL]
  .rw[abb] at hf;split at hf
   .rw[Sp,hi] at hf;rw[BI];exact hc _ f hf
   .cases hf
 .cases h3
theorem aI.aze {x:Option Operand}{v:Option Int}{l:List Fp}{π:Pi}{a:Act}{w:World}(h:aI (aze x) g v l)(R:Rel X D π g a w):
  (x=none/\v=none)∨∃y k i,x=some y/\v=some i/\a.eval y=.int k i:=by
 cases x with
 |none=>cases h;exact .inl ⟨rfl,rfl⟩
 |some y=>
  obtain⟨r,⟨_,h1⟩,_,h⟩:=aI.bind' h;cases h;exact .inr ⟨y,r.1,r.2,rfl,rfl,h1.KH R⟩
omit [ax] in
theorem aI.Ub {lo hi:Option Int}{n:Nat}{lh:Nat×Nat}{l:List Fp}(h:aI (Ub lo hi n) g lh l):
  lh.1<=lh.2/\lh.2<=n/\((hi=none/\lh.2=n)∨∃i,hi=some i/\0<=i/\i<=n/\lh.2=i.toNat)/\((lo=none/\lh.1=0)∨∃i,lo=some i/\0<=i/\i<=lh.2/\lh.1=i.toNat):=by
 obtain⟨hh,⟨_,h1⟩,_,h⟩:=aI.bind' h;obtain⟨ll,⟨_,h2⟩,_,h⟩:=aI.bind' h;cases h
 have e1:hh<=n/\((hi=none/\hh=n)∨∃i,hi=some i/\0<=i/\i<=n/\hh=i.toNat):=by
  cases hi with
  |none=>cases h1;exact⟨dq _,.inl ⟨rfl,rfl⟩⟩
  |some i=>
   obtain⟨_,⟨_,h3⟩,_,h1⟩:=aI.bind' h1;cases h1;have h3:=h3.cN;simp only[KI,cx,lC] at h3;exact⟨by omega,.inr ⟨i,rfl,h3.1,h3.2,rfl⟩⟩
 have e2:ll<=hh/\((lo=none/\ll=0)∨∃i,lo=some i/\0<=i/\i<=hh/\ll=i.toNat):=by
  cases lo with
  |none=>cases h2;exact⟨Nat.zero_le _,.inl ⟨rfl,rfl⟩⟩
  |some i=>
   obtain⟨_,⟨_,h3⟩,_,h2⟩:=aI.bind' h2;cases h2;have h3:=h3.cN;simp only[KI,cx,lC] at h3;exact⟨by omega,.inr ⟨i,rfl,h3.1,h3.2,rfl⟩⟩
 exact⟨e2.1,e1.1,e1.2,e2.2⟩
end
end Go.Ab
namespace Go.Ab
variable [ax]
section
variable {P:Program} {o:Oper} {X:Cx} {D:Nat->Prop} {aJ:Nat} {us:List Up} {g:Gt}
def OI (x:Option Int)(v:Option Value):Prop:=(x=none/\v=none)∨∃k i,x=some i/\v=some (.int k i)
theorem aI.aXq {x:Option Operand}{v:Option Int}{l:List Fp}{π:Pi}{a:Act}{w:World}(h:aI (Ab.aze x) g v l)(R:Rel X D π g a w):OI v (x.map a.eval):=by
 rcases h.aze R with⟨rfl,rfl⟩| ⟨y,k,i,rfl,rfl,e⟩
 .exact .inl ⟨rfl,rfl⟩
 .exact .inr ⟨k,i,rfl,by simp[e]⟩
omit [ax] in
theorem vR {lo hi:Option Int}{n cap:Nat}{lh:Nat×Nat}{l:List Fp}(h:aI (Ab.Ub lo hi n) g lh l)(hc:n<=cap){lv hv:Option Value}(h1:OI lo lv)(h2:OI hi hv)(isS:Bool)(w:World):
  (Instr.sliceBounds isS n cap lv hv none).run P w=.ok (lh.1,lh.2,cap) w:=by
 obtain⟨b1,b2,b3,b4⟩:=h.Ub
 have eh:∀code,(match hv with
   |some v=>Instr.sliceBound v cap code
   |none=>(pure n:Sem Nat)).run P w=.ok lh.2 w:=λcode=>by
  rcases h2 with⟨rfl,rfl⟩| ⟨k,i,rfl,rfl⟩
  .rcases b3 with⟨_,e⟩| ⟨i,e,_⟩
   .simp[e]
   .cases e
  .rcases b3 with⟨e,_⟩| ⟨i',e,c1,c2,c3⟩
   .cases e
   .cases e;simp only[Instr.sliceBound,asIntOf,Sem.run_bind,Sem.run_pure,Result.andThen_ok];rw[if_pos ⟨c1,by omega⟩,c3];exact Sem.run_pure ..
 have el:∀code,(match lv with
   |some v=>Instr.sliceBound v lh.2 code
   |none=>(pure 0:Sem Nat)).run P w=.ok lh.1 w:=λcode=>by
  rcases h1 with⟨rfl,rfl⟩| ⟨k,i,rfl,rfl⟩
  .rcases b4 with⟨_,e⟩| ⟨i,e,_⟩
   .simp[e]
   .cases e
  .rcases b4 with⟨e,_⟩| ⟨i',e,c1,c2,c3⟩
   .cases e
   .cases e;simp only[Instr.sliceBound,asIntOf,Sem.run_bind,Sem.run_pure,Result.andThen_ok];rw[if_pos ⟨c1,c2⟩,c3];exact Sem.run_pure ..
 have eh':=eh (if isS then .sliceAcap else .sliceAlen);have el':=el .sliceB;cases hv<;>cases lv<;>simp_all [Instr.sliceBounds]
omit [ax] in
theorem aXr (q:Bool)(n:Nat):(szQ q n).val=n:=by cases q<;>rfl
omit [ax] in
theorem asz {q:Bool}{lo hi:Option Int}{n:Sz}{lh:Nat×Nat}{l:List Fp}(h:aI (Ab.Ub lo hi n.val) g lh l):(lenOf q lo hi n lh).val=lh.2-lh.1:=by
 obtain⟨b1,b2,b3,b4⟩:=h.Ub;cases lo<;>cases hi<;>simp only[lenOf,aXr]
 .rcases b3 with⟨_,e⟩| ⟨i,e,_⟩
  .rcases b4 with⟨_,e'⟩| ⟨i,e',_⟩
   .omega
   .cases e'
  .cases e
 .rcases b4 with⟨_,e'⟩| ⟨i,e',_⟩
  .omega
  .cases e'
omit [ax] in
theorem aD6 {qq:Bool}{lo hi:Option Int}{n:Nat}{lh:Nat×Nat}{l:List Fp}(h:aI (Ab.Ub lo hi n) g lh l)(o:cE)(z:Nat):(afD qq lo o lh.1 z).val=o.val+lh.1*z:=by
 obtain⟨b1,b2,b3,b4⟩:=h.Ub;cases lo<;>simp only[afD]
 .rcases b4 with⟨_,e'⟩| ⟨i,e',_⟩
  .rw[e'];omega
  .cases e'
 .cases qq
  .exact cE.axu ..
  .exact cE.LC ..
theorem aM4 {t:TypeId}{x:Operand}{lo hi:Option Operand}{fp:List Fp}(ho:o.op=.slice t x lo hi none)
  (h:aI ((G9 x).bind λc=>(Ab.aze lo).bind λl=>(Ab.aze hi).bind λh=>(aJS P t c (vD lo&&vD hi) l h).bind λv=>.ret (ec o.dst (.r (.c v)))) g us fp):Ao P o X D aJ us g:=by
 obtain⟨r,⟨_,h1⟩,_,h⟩:=aI.bind' h;obtain⟨l,⟨_,h2⟩,_,h⟩:=aI.bind' h;obtain⟨hh,⟨_,h3⟩,_,h⟩:=aI.bind' h;obtain⟨v,⟨_,h4⟩,_,h⟩:=aI.bind' h;cases h;refine iX λπ a w R=> ?_;have ha:=h1.G9 R;have ol:=h2.aXq R;have oh:=h3.aXq R;unfold aJS at h4;split at h4
 .rename_i n e b q m hu _ _
  obtain⟨z,⟨_,h5⟩,_,h4⟩:=aI.bind' h4;obtain⟨_,⟨_,h7⟩,_,h4⟩:=aI.bind' h4;obtain⟨lh,⟨_,h6⟩,_,h4⟩:=aI.bind' h4;cases h4;have h7:=fC.1 h7.cN;obtain⟨B,s,q',e',hb,ha,hm⟩:=ha;have hr:=vR (P:=P) h6 (dq n) ol oh false w;obtain⟨b1,b2,_,_⟩:=h6.Ub;have hl:=asz (q:=vD lo&&vD hi) (n:=.l n) h6;have aD7:=aD6 (qq:=vD lo&&vD hi) h6 q z;refine⟨_,by simp[execOp,ho,Instr.sliceAt,run_underlying hu,ha,Instr.sureAddr,hr,run_sizeOf h5.ey];rfl,?_⟩;show CV.rel π (.sl b (afD (vD lo&&vD hi) l q lh.1 z) (lenOf (vD lo&&vD hi) l hh (.l n) lh) z false) _
  have hbd:(afD (vD lo&&vD hi) l q lh.1 z).val+(lenOf (vD lo&&vD hi) l hh (.l n) lh).val*z<=q':=by
   rw[hl,aD7];have:lh.1*z+(lh.2-lh.1)*z=lh.2*z:=by rw[<-qx];congr 1;omega
   have:=wC z b2;omega
  refine⟨B,s,q',e',hb,hbd,(λh=>by cases h),?_⟩;by_cases hm2:n=lh.1
  .left
   refine⟨by omega,some ⟨B,s+q.val,none⟩,?_⟩;rw[if_pos hm2];have e1:lh.2-lh.1=0:=by omega
   have e2:n-lh.1=0:=by omega
   rw[e1,e2]
  .right
   refine⟨n-lh.1,by omega,?_,λh=>by cases h⟩;rw[if_neg hm2,nL,BI,hl,aD7]
 .rename_i e b q len z own hu _ _
  obtain⟨z',⟨_,h5⟩,_,h4⟩:=aI.bind' h4;obtain⟨_,⟨_,h7⟩,_,h4⟩:=aI.bind' h4;obtain⟨lh,⟨_,h6⟩,_,h4⟩:=aI.bind' h4;cases h4;have hz:z=z':=beq_iff.1 h7.cN;subst hz;obtain⟨b1,b2,b3,b4⟩:=h6.Ub;have hl:=asz (q:=apU (vD lo&&vD hi) len) h6;have aD7:=aD6 (qq:=apU (vD lo&&vD hi) len) h6 q z;have e4:lh.1*z+(lh.2-lh.1)*z=lh.2*z:=by rw[<-qx];congr 1;omega
  obtain⟨B,s,q',e',hb,hm,pZ,ha⟩:=ha
  have hbd:(afD (apU (vD lo&&vD hi) len) l q lh.1 z).val+(lenOf (apU (vD lo&&vD hi) len) l hh len lh).val*z<=q':=by
   clear ha
   rw[hl,aD7];have:=wC z b2;omega
  have a1w:hh.isNone=true->lh.2=len.val:=λh=>by
   rcases b3 with⟨_,e⟩| ⟨i,e,_⟩
   .exact e
   .rw[e] at h;cases h
  have aM5:(own&&hh.isNone)=true->(afD (apU (vD lo&&vD hi) len) l q lh.1 z).val+(lenOf (apU (vD lo&&vD hi) len) l hh len lh).val*z=q':=λh=>by
   clear ha
   simp only[cx] at h;have:=pZ h.1;rw[hl,aD7];rw[a1w h.2] at e4 ⊢;omega
  rcases ha with⟨h0,y,ha⟩| ⟨cap,rS,ha,aQS⟩
  .have hr:=vR (P:=P) h6 (dq _) ol oh true w;clear b3 b4
   have e1:lh.1=0:=by omega
   have e2:lh.2=0:=by omega
   rw[h0] at hr;refine⟨.slice y 0 0,by simp[execOp,ho,Instr.sliceAt,Instr.slice,run_underlying hu,ha,hr,run_sizeOf h5.ey,e1,e2],B,s,q',e',hb,hbd,aM5,.inl ⟨by omega,y,rfl⟩⟩
  .have hr:=vR (P:=P) h6 rS ol oh true w;refine⟨_,by simp[execOp,ho,Instr.sliceAt,Instr.slice,run_underlying hu,ha,hr,run_sizeOf h5.ey];rfl,?_⟩;show CV.rel π (.sl b (afD (apU (vD lo&&vD hi) len) l q lh.1 z) (lenOf (apU (vD lo&&vD hi) len) l hh len lh) z (own&&hh.isNone)) _;refine⟨B,s,q',e',hb,hbd,aM5,?_⟩;by_cases hm2:cap=lh.1
   .left
    refine⟨by omega,some ⟨B,s+q.val,none⟩,?_⟩;rw[if_pos hm2];have e1:lh.2-lh.1=0:=by omega
    have e2:cap-lh.1=0:=by omega
    rw[e1,e2]
   .right
    refine⟨cap-lh.1,by omega,?_,λh=> ?_⟩
    .rw[if_neg hm2,nL,BI,hl,aD7]
    .simp only[cx] at h;have hw2:=aQS h.1;have e3:lh.1*z+(cap-lh.1)*z=cap*z:=by rw[<-qx];congr 1;omega
     rw[aD7];omega
 .rename_i e hu _ _
  obtain⟨z,⟨_,h5⟩,_,h4⟩:=aI.bind' h4;obtain⟨lh,⟨_,h6⟩,_,h4⟩:=aI.bind' h4;cases h4;have ha:a.eval x=.slice none 0 0:=ha;have hr:=vR (P:=P) h6 (dq 0) ol oh true w;obtain⟨b1,b2,b3,b4⟩:=h6.Ub;have e1:lh.1=0:=by omega
  have e2:lh.2=0:=by omega
  exact⟨.slice none 0 0,by simp[execOp,ho,Instr.sliceAt,Instr.slice,run_underlying hu,ha,hr,run_sizeOf h5.ey,e1,e2],rfl⟩
 .rename_i e n z cols hu _ _
  obtain⟨z',⟨_,h5⟩,_,h4⟩:=aI.bind' h4;obtain⟨_,⟨_,h7⟩,_,h4⟩:=aI.bind' h4;obtain⟨lh,⟨_,h6⟩,_,h4⟩:=aI.bind' h4;cases h4;have hz:z=z':=beq_iff.1 h7.cN;subst hz;obtain⟨b1,b2,b3,b4⟩:=h6.Ub;have hl:=asz (q:=false) (n:=.s n) h6;have hfl:(at8 l lh.1 cols).length=cols.length:=by unfold at8;split<;>simp
  have hfg:∀j,jg (at8 l lh.1 cols) j=jg cols (lh.1*cols.length+j):=λj=>by
   unfold at8;split
   .rcases b4 with⟨_,e⟩| ⟨i,e,_⟩
    .rw[e,Ss,gy]
    .cases e
   .exact azg ..
  obtain⟨hz,ha⟩:=ha;rcases ha with⟨h0,y,ha⟩| ⟨B,s,cap,rS,ha,hc⟩
  .have hr:=vR (P:=P) h6 (dq _) ol oh true w;clear b3 b4
   have e1:lh.1=0:=by omega
   have e2:lh.2=0:=by omega
   rw[h0] at hr;exact⟨.slice y 0 0,by simp[execOp,ho,Instr.sliceAt,Instr.slice,run_underlying hu,ha,hr,run_sizeOf h5.ey,e1,e2],hfl.trans hz,.inl ⟨by omega,y,rfl⟩⟩
  .have hr:=vR (P:=P) h6 rS ol oh true w;refine⟨_,by simp[execOp,ho,Instr.sliceAt,Instr.slice,run_underlying hu,ha,hr,run_sizeOf h5.ey];rfl,hfl.trans hz,?_⟩;by_cases hm2:cap=lh.1
   .left
    refine⟨by omega,some ⟨B,s,none⟩,?_⟩;rw[if_pos hm2];have e1:lh.2-lh.1=0:=by omega
    have e2:cap-lh.1=0:=by omega
    rw[e1,e2]
   .right
    refine⟨B,s+lh.1*z,cap-lh.1,by omega,by rw[if_neg hm2,nL,hl],λj hj=> ?_⟩;rw[hl] at hj;have e4:lh.1*z+(lh.2-lh.1)*z=lh.2*z:=by rw[<-qx];congr 1;omega
    have e5:=wC z b2;obtain⟨f,v,f1,f2,f3⟩:=hc (lh.1*z+j) (by omega);exact⟨f,v,by rw[hfg,hz];exact f1,by rw[BI];exact f2,f3⟩
 .cases h4
omit [ax] in
theorem aM6 (vs:List Value):∀(off k:Nat) (cs:Array Value),off+k+vs.length<=cs.size->
  ((vs.zipIdx k).foldl (λ(cs:Array Value) (x:Value×Nat)=>cs.setIfInBounds (off+x.2) x.1) cs).size=cs.size/\
  ∀i d,((vs.zipIdx k).foldl (λ(cs:Array Value) (x:Value×Nat)=>cs.setIfInBounds (off+x.2) x.1) cs).getD i d=if off+k<=i/\i<off+k+vs.length then vs.getD (i-(off+k)) d else cs.getD i d:=by
 induction vs with
 |nil=>intro off k cs _;refine⟨rfl,λi d=> ?_⟩;rw[if_neg (by simp)];rfl
 |cons v vs ih=>
  intro off k cs h;simp only[Lu] at h;rw[List.zipIdx_cons,List.foldl_cons];obtain⟨h1,h2⟩:=ih off (k+1) (cs.setIfInBounds (off+k) v) (by simp;omega);refine⟨by simpa using h1,λi d=> ?_⟩;rw[h2];simp only[Lu];by_cases c1:off+(k+1)<=i/\i<off+(k+1)+vs.length
  .rw[if_pos c1,if_pos (by omega),show i-(off+k)=(i-(off+(k+1)))+1 by omega];simp[List.getD]
  .rw[if_neg c1];by_cases c2:i=off+k
   .subst c2;rw[if_pos (by omega)];simp[Array.getD,show off+k<cs.size by omega]
   .rw[if_neg (by omega)];simp[apR,aSi (Ne.symm c2)]
theorem aXs {π:Pi}{cs Su vs:af}{arr:Array Value}{xs:Array Value}{off:Nat}(h1:bl (CV.rel π) cs.list arr.toList)(h2:bl (CV.rel π) vs.list xs.toList)(hle:off+af.size vs<=af.size cs)(hu:akL cs off vs=some Su):
  bl (CV.rel π) Su.list (xs.zipIdx.foldl (λ(cs:Array Value) (x:Value×Nat)=>cs.setIfInBounds (off+x.2) x.1) arr).toList:=by
 obtain⟨l1,g1⟩:=jI h1;obtain⟨l2,g2⟩:=jI h2;obtain⟨u1,u2⟩:=Ol hu;simp only[VF] at l1 l2;have key:=aM6 xs.toList off 0 arr (by simp only[VF];omega)
 have e:(xs.zipIdx.foldl (λ(cs:Array Value) (x:Value×Nat)=>cs.setIfInBounds (off+x.2) x.1) arr)=((xs.toList.zipIdx 0).foldl (λ(cs:Array Value) (x:Value×Nat)=>cs.setIfInBounds (off+x.2) x.1) arr):=by
  rw[<-Array.foldl_toList];simp
 rw[e];refine xZ (by rw[VF,key.1,u1,l1]) λj hj=> ?_;rw[u1] at hj;have yp:j<((xs.toList.zipIdx 0).foldl (λ(cs:Array Value) (x:Value×Nat)=>cs.setIfInBounds (off+x.2) x.1) arr).size:=by rw[key.1,l1];exact hj
 have hk:=key.2 j undef;rw[apR,ah6 yp,Lt] at hk;refine⟨_,by rw[VE,ah6 yp],?_⟩;rw[hk,u2 j hj];simp only[kP,VF,l2];by_cases c:off<=j/\j<off+af.size vs
 .rw[if_pos c,if_pos c];obtain⟨x,hx,hr⟩:=g2 (j-off) (by omega);simp only[List.getD,hx,Lt];exact hr
 .rw[if_neg c,if_neg c];obtain⟨x,hx,hr⟩:=g1 j hj;rw[VE] at hx;simp only[apR,hx,Lt];exact hr
theorem afR {π:Pi}{pl:Nat->Option (Nat×Nat)}:∀{l:List (Nat×RV)} {l':List (Nat×Value)} {cs Su:af} {arr:Array Value},bl (λ(p:Nat×RV) (q:Nat×Value)=>p.1=q.1/\p.2.rel π q.2) l l'->akO pl cs l=some Su->bl (CV.rel π) cs.list arr.toList->
  ∃aSF,Instr.fill pl arr l'=some aSF/\bl (CV.rel π) Su.list aSF.toList/\af.size Su=af.size cs
 | [],[],cs,Su,arr,_,h,ha=>by simp[akO] at h;subst h;exact⟨arr,rfl,ha,rfl⟩
 |(i,v)::l,(i',x)::l',cs,Su,arr,⟨⟨hi,hv⟩,hl⟩,h,ha=>by
  have hi:i=i':=hi;subst hi;simp only[akO] at h;split at h
  .cases h
  .rename_i q n hpl
   split at h
   .rename_i hc
    simp only[cx,beq_iff,fC] at hc;obtain⟨c1,c2⟩:=hc;split at h
    .rename_i cs1 hu
     have hcx:bl (CV.rel π) v.bR.list x.cells.toList:=RV.Om hv;have l1:=(jI hcx).1;have l2:=(jI ha).1;simp only[VF] at l1 l2;obtain⟨aSF,h1,h2,h3⟩:=afR (pl:=pl) hl h (aXs ha hcx (by omega) hu);refine⟨aSF,?_,h2,h3.trans (Ol hu).1⟩;simp only[Instr.fill,hpl];rw[if_neg (by simp;omega)];exact h1
    .cases h
   .cases h
 | [],_::_,_,_,_,h,_,_=>h.elim
 |_::_,[],_,_,_,h,_,_=>h.elim
theorem aD8 {ps:Array (Nat×Operand)}{l:List (Nat×RV)}{fp:List Fp}{π:Pi}{a:Act}{w:World}(h:aI (Ab.uj (λp:Nat×Operand=>(wD p.2).bind λv=>.ret (p.1,v)) ps.toList) g l fp)(R:Rel X D π g a w):
  bl (λ(p:Nat×RV) (q:Nat×Value)=>p.1=q.1/\p.2.rel π q.2) l (ps.map λ(i,x)=>(i,a.eval x)).toList:=by
 have:=aI.uj (ρ:=λ(p:Nat×RV) (x:Nat×Operand)=>p.1=x.1/\p.2.rel π (a.eval x.2)) (λx v l hx=>by
  obtain⟨r,⟨_,h1⟩,_,h2⟩:=aI.bind' hx;cases h2;exact⟨rfl,h1.wD R⟩) h
 rw[Array.toList_map];exact aoG this
theorem aM7 {t:TypeId}{ps:Array (Nat×Operand)}{fp:List Fp}(ho:o.op=.build t ps)
  (h:aI ((Ab.ey (AG P t)).bind λz=>(Ab.uj (λp=>(wD p.2).bind λv=>.ret (p.1,v)) ps.toList).bind λl=>(Ab.ey (placesOf P t)).bind λpl=>(Ab.ey (akO pl z.bR l)).bind λcs=>.ret (ec o.dst (.r (.agg cs)))) g us fp):Ao P o X D aJ us g:=by
 obtain⟨z,⟨_,h1⟩,_,h⟩:=aI.bind' h;obtain⟨l,⟨_,h2⟩,_,h⟩:=aI.bind' h;obtain⟨pl,⟨_,h3⟩,_,h⟩:=aI.bind' h;obtain⟨cs,⟨_,h4⟩,_,h⟩:=aI.bind' h;cases h;refine iX λπ a w R=> ?_;have h3:=h3.ey;have h4:=h4.ey;have hp:=aD8 h2 R;obtain⟨zx,_,⟨it,hi,hz⟩,a2Z⟩:=adt h1.ey w;have hzr:=RV.Om (a2Z π)
 have hb:∃arr,P.built t (ps.map λ(i,x)=>(i,a.eval x)).toList=some arr/\bl (CV.rel π) cs.list arr.toList:=by
  unfold placesOf at h3;split at h3
  .rename_i fs hu
   cases hq:fs.toList.mapM (λf=>(P.info? f.type).map λi=>(f.offset,i.size)) with
   |none=>rw[hq] at h3;cases h3
   |some a4g=>
    rw[hq] at h3;cases h3;obtain⟨arr,e1,e2,_⟩:=afR hp h4 hzr;refine⟨arr,?_,e2⟩;simp only[Program.built,hi,hu,hz,hq];rw[<-e1];congr 1;funext i;simp
  .rename_i n e hu
   cases hq:jf P e with
   |none=>rw[hq] at h3;cases h3
   |some n=>
    rw[hq] at h3;cases h3;obtain⟨ie,hie,rfl⟩:=apY hq;obtain⟨arr,e1,e2,_⟩:=afR hp h4 hzr;exact⟨arr,by simp only[Program.built,hi,hu,hz,hie];exact e1,e2⟩
  .cases h3
 obtain⟨arr,e1,e2⟩:=hb;exact⟨.agg arr,by simp[execOp,ho,run_build w t _ arr e1],arr,rfl,e2⟩
omit [ax] in
theorem axv (n:Nat)(l:af):af.size (rep n l)=n*af.size l:=by
 induction n with
 |zero=>rw[rep,af.mb,Ss]
 |succ n ih=>rw[rep,af.size_append,ih,asp];omega
omit [ax] in
theorem aXt (n:Nat)(l:af)(i:Nat)(h:i<n*af.size l):af.get (rep n l) i=af.get l (i%af.size l):=by
 induction n generalizing i with
 |zero=>omega
 |succ n ih=>
  rw[rep,af.get_append];by_cases hi:i<af.size l
  .rw[if_pos hi,axi hi]
  .rw[if_neg hi,ih _ (by rw[asp] at h;omega)];congr 1
   exact(Nat.mod_eq_sub_mod (by omega)).symm
theorem Rel.row {π:Pi}{a:Act}{w:World}{g:Gt}(R:Rel X D π g a w){k:af}{n:Sz}{q cap:Nat}{arr:Array Value}{t:TypeId}{dst:Option Tmp}(hd:∀d,dst=some d->d<X.N)(h0:π aJ=none)(hk:X.k<=aJ)(hn:n.val<=cap)(hc:cap*q<=arr.size)(hs:k.size=n.val*q)
  (h2:∀j,j<k.size->∃v,arr[j]? =some v/\(k.get j).rel π v):
  Rel X D (Au π aJ (w.heap.size,0,k.size,cap*q)) (cI (ec dst (.r (.c (.sl aJ (.k 0) n q true)))) ((Up.new aJ k).iw g)) (a.put dst (.slice (some ⟨w.heap.size,0,none⟩) n.val cap)) (w.alloc (.cells arr t)):=by
 have hq:=wC q hn;refine(R.alloc (k:=k) (cs:=arr) (t:=t) (e:=cap*q) h0 hk (by omega) hc h2).dst hd ?_;exact⟨_,_,_,_,pV _ _ _,by simp only[cE.val];omega,λ_=>by simp only[cE.val];omega,.inr ⟨cap,hn,rfl,λ_=>by simp only[cE.val];omega⟩⟩
omit [ax] in
theorem VQ {π:Pi}{b:Nat}{p:Nat×Nat×Nat×Nat}{aJ c:Nat}(hb:aJ<=b/\b<aJ+c):∀b',Au π b p b'≠none->π b'≠none∨(aJ<=b'/\b'<aJ+c):=by
 intro b' h;simp only[Au] at h;by_cases e:b'=b
 .subst e;exact .inr hb
 .simp only[e,gB] at h;exact .inl h
omit [ax] in
theorem LH (dst:Option Tmp)(v:AV)(us:List Up)(g:Gt)(hus:∀u∈us,∀i x,u≠.t i x):cI (ec dst v++us) g=cI (ec dst v) (cI us g):=by
 rw[Qc];cases dst with
 |none=>rfl
 |some d=>
  show cI us ((Up.t d v).iw g)=(Up.t d v).iw (cI us g);induction us generalizing g with
  |nil=>rfl
  |cons u us ih=>
   have hu:=hus u (by simp);show cI us (u.iw ((Up.t d v).iw g))=(Up.t d v).iw (cI us (u.iw g));rw[<-ih _ λx hx=>hus x (by simp[hx])];cases u with
   |t i x=>exact absurd rfl (hu i x)
   |_=>rfl
theorem axw {t:TypeId}{n:Nat}{ps:Array (Nat×Operand)}{fp:List Fp}(ho:o.op=.buildSlice t n ps)
  (h:aI (match P.underlying t with
  |some (.slice e)=>(Ab.ey (AG P e)).bind λz=>(Ab.ey (jf P e)).bind λq=>
   (Ab.cN (wd 1 q&&wd (n*q) 16777216)).bind λ_=>
   (Ab.uj (λp=>(wD p.2).bind λv=>.ret (p.1,v)) ps.toList).bind λl=>
   (Ab.cN (Nat.beq (af.size z.bR) q)).bind λ_=>(Ab.ey (akO (λi=>some (i*q,q)) (rep n z.bR) l)).bind λcs=>.ret (ec o.dst (.r (.c (.sl aJ (.k 0) (.l n) q true)))++[.new aJ (aoF P e n q cs)])
  |_=>.fail) g us fp):Ao P o X D aJ us g:=by
 split at h
 .rename_i e hu
  obtain⟨z,⟨_,h1⟩,_,h⟩:=aI.bind' h;obtain⟨q,⟨_,h2⟩,_,h⟩:=aI.bind' h;obtain⟨_,⟨_,h3⟩,_,h⟩:=aI.bind' h;obtain⟨l,⟨_,h4⟩,_,h⟩:=aI.bind' h;obtain⟨_,⟨_,h5⟩,_,h⟩:=aI.bind' h;obtain⟨cs,⟨_,h6⟩,_,h⟩:=aI.bind' h;cases h;have h3:=h3.cN;simp only[cx,fC] at h3;have h5:af.size z.bR=q:=beq_iff.1 h5.cN;intro π a w next Q R hk hf hd hD hn;obtain⟨zx,hz1,_,hz2⟩:=adt h1.ey w;obtain⟨zl,zg⟩:=jI (RV.Om (hz2 π));rw[VF] at zl;have hp:=aD8 h4 R
  have akZ:bl (CV.rel π) (af.list (rep n z.bR)) ((Array.range (n*q)).map (zx.cells[·%zx.cells.size]!)).toList:=by
   refine xZ (by simp[axv,h5]) λj hj=> ?_;rw[axv,h5] at hj;rw[aXt _ _ _ (by rw[h5];exact hj),h5];obtain⟨y,hy,hr⟩:=zg (j%q) (by rw[h5];exact Nat.mod_lt _ (by omega));refine⟨y,?_,hr⟩;have e3:zx.cells.size=q:=zl.trans h5;have e4:zx.cells[j%q]? =some y:=by simpa using hy
   simp[hj,e3,getElem!_def,e4]
  obtain⟨arr,e1,e2,e3⟩:=afR hp h6.ey akZ;have e1:Instr.fill (λi=>some (i*q,q)) ((Array.range (n*q)).map (zx.cells[·%zx.cells.size]!)) (ps.toList.map λx=>(x.1,a.eval x.2))=some arr:=by rw[Array.toList_map] at e1;exact e1
  obtain⟨cl1,cl2⟩:=jI e2;rw[VF] at cl1;rw[axv,h5] at e3
  have hbr:af.size (aoF P e n q cs)=af.size cs/\∀j,j<af.size cs->af.get (aoF P e n q cs) j=af.get cs j:=by
   unfold aoF;split
   .exact⟨rfl,λ_ _=>rfl⟩
   .exact Zy q cs
  generalize aoF P e n q cs=kk at hbr hf hn
  obtain⟨br1,br2⟩:=hbr;have hcn:cF (ec o.dst (.r (.c (.sl aJ (.k 0) (.l n) q true)))++[Up.new aJ kk])=1:=by unfold ec cF;cases o.dst<;>rfl
  have h0:=hf aJ (dq _) (by omega)
  have R1:=R.row (k:=kk) (n:=.l n) (q:=q) (cap:=n) (arr:=arr) (t:=e) hd h0 hk (dq _) (by omega) (br1.trans e3) (λj hj=>by
   rw[br1] at hj;obtain⟨y,hy,hr⟩:=cl2 j hj;rw[br2 j hj];exact⟨y,by simpa using hy,hr⟩)
  refine Qb (x:=.slice (some ⟨w.heap.size,0,none⟩) n n) (w':=w.alloc (.cells arr e)) ?_ (hn _ _ (Au π aJ (w.heap.size,0,af.size kk,n*q)) (AK h0 _) (VQ ⟨dq _,by omega⟩) ?_)
  .have h24:¬(16777216<n*q):=by omega
   simp only[execOp,ho,Instr.buildSlice,Sem.run_bind,run_underlying hu,Result.andThen_ok,run_sizeOf h2.ey];by_cases hnq:n*q=0
   .have hn0:n=0:=by
     rcases Nat.mul_eq_zero.1 hnq with h|h
     .exact h
     .omega
    subst hn0;simp only[Ss] at e1 ⊢;have a21:(Array.range 0).map (zx.cells[·%zx.cells.size]!)=#[]:=aW8 (by simp);have hr0:Array.range 0=#[]:=aW8 (by simp);rw[a21] at e1;simp[e1,hr0,LG]
   .simp[h24,hnq,hz1,e1,LG]
  .rw[LH _ _ _ _ (by simp)];exact R1
 .cases h
theorem aBz {t:TypeId}{n c:Operand}{fp:List Fp}(ho:o.op=.makeSlice t n c)
  (h:aI (match P.underlying t with
  |some (.slice e)=>(Ab.ey (AG P e)).bind λz=>(Ab.ey (jf P e)).bind λq=>(KH n).bind λn=>(KH c).bind λc=>
   (Ab.cN (decide (n.2=0)&&decide (c.2=0))).bind λ_=>(Ab.ey (Ey q z.bR)).bind λcols=>
   .ret (ec o.dst (.r (.c (.sl aJ (.k 0) (.s 0) q true)))++[.new aJ [.a (.s 0) cols]])
  |_=>.fail) g us fp):Ao P o X D aJ us g:=by
 split at h
 .rename_i e hu
  obtain⟨z,⟨_,h1⟩,_,h⟩:=aI.bind' h;obtain⟨q,⟨_,h2⟩,_,h⟩:=aI.bind' h;obtain⟨nn,⟨_,h3⟩,_,h⟩:=aI.bind' h;obtain⟨cc,⟨_,h4⟩,_,h⟩:=aI.bind' h;obtain⟨_,⟨_,h5⟩,_,h⟩:=aI.bind' h;obtain⟨cols,⟨_,h6⟩,_,h⟩:=aI.bind' h;cases h;have h5:=h5.cN;simp only[cx,lC] at h5;intro π a w next Q R hk hf hd hD hn;have hv1:=h3.KH R;have hv2:=h4.KH R;rw[h5.1] at hv1;rw[h5.2] at hv2;have hcn:cF (ec o.dst (.r (.c (.sl aJ (.k 0) (.s 0) q true)))++[Up.new aJ [.a (.s 0) cols]])=1:=by unfold ec cF;cases o.dst<;>rfl
  have h0:=hf aJ (dq _) (by omega);have hs0:af.size [.a (.s 0) cols]=0:=by simp[af.size,Sg.size,Sz.val]
  have R1:=R.row (k:=[.a (.s 0) cols]) (n:=.s 0) (q:=q) (cap:=0) (arr:=#[]) (t:=e) hd h0 hk (dq _) (by simp) (by rw[hs0];simp[Sz.val]) (λj hj=>by rw[hs0] at hj;omega)
  obtain⟨i,hi,hby⟩:∃i,P.info? e=some i/\True:=by
   have:=h2.ey;unfold jf at this;cases hh:P.info? e with
   |none=>rw[hh] at this;cases this
   |some i=>exact⟨i,rfl,trivial⟩
  refine Qb (x:=.slice (some ⟨w.heap.size,0,none⟩) 0 0) (w':=w.alloc (.cells #[] e)) ?_ (hn _ _ (Au π aJ (w.heap.size,0,af.size [.a (.s 0) cols],0*q)) (AK h0 _) (VQ ⟨dq _,by omega⟩) ?_)
  .have hw0:IntKind.i64.wrap 0=0:=by decide
   simp[execOp,ho,Instr.makeSlice,run_underlying hu,hv1,hv2,asInt,asIntOf,typeInfo,hi,hw0,run_sizeOf h2.ey,askRoom,LG]
   rw[show Array.range 0=#[] from aW8 (by simp),Array.map_empty]
  .rw[LH _ _ _ _ (by simp)];exact R1
 .cases h
end
end Go.Ab
namespace Go.Ab
variable [ax]
section
variable {P:Program} {o:Oper} {X:Cx} {D:Nat->Prop} {aJ:Nat} {us:List Up} {g:Gt}
theorem KL {c:Call}{args:List AV}{l:List Fp}{π:Pi}{a:Act}{w:World}(h:aI (Ab.uj Ab.Ee c.args.toList) g args l)(R:Rel X D π g a w):bl (AV.rel π) args (c.args.map a.eval).toList:=by
 rw[Array.toList_map];exact aoG (aI.uj (ρ:=λv x=>v.rel π (a.eval x)) (λx v l hx=>aI.Ee hx R) h)
omit [ax] in
theorem aXu {x:Array Value}{y:Value}(h:x.toList=[y]):x=#[y]:=by rw[<-akH];exact h
omit [ax] in
theorem aXv {x:Array Value}{y z:Value}(h:x.toList=[y,z]):x=#[y,z]:=by rw[<-akH];exact h
omit [ax] in
theorem a23 {x:Array TypeId}{y z:TypeId}(h:x.toList=[y,z]):x=#[y,z]:=by rw[<-akH];exact h
omit [ax] in
theorem axx {R:AV->Value->Prop}{x:AV}{l:List Value}(h:bl R [x] l):∃y,l=[y]/\R x y:=by
 match l,h with
 | [y],⟨h,_⟩=>exact⟨y,rfl,h⟩
 | [],h=>exact h.elim
 |_::_::_,⟨_,h⟩=>exact h.elim
omit [ax] in
theorem axy {R:AV->Value->Prop}{x x':AV}{l:List Value}(h:bl R [x,x'] l):∃y y',l=[y,y']/\R x y/\R x' y':=by
 match l,h with
 | [y,y'],⟨h,h',_⟩=>exact⟨y,y',rfl,h,h'⟩
 | [],h=>exact h.elim
 | [_],⟨_,h⟩=>exact h.elim
 |_::_::_::_,⟨_,_,h⟩=>exact h.elim
omit [ax] in
theorem afS {c:Call}{bi:Builtin}(a:Act)(w:World)(ho:o.op=.call c)(hc:c.callee=.builtin bi):∃cs,(execOp a.eval o).run P w=(builtin bi c.argTypes o.type cs (c.args.map a.eval)).run P w:=
 ⟨_,by simp[execOp,ho,resolve,hc,invoke];rfl⟩
theorem aHZ {π:Pi}:∀{vs:List FV} {xs:List AV} {ys:List Value},bl (λ(v:FV) (x:AV)=>x=.r (.c (.f v))) vs xs->bl (AV.rel π) xs ys->bl FV.rel vs ys
 | [],[],[],_,_=>trivial
 |v::vs,x::xs,y::ys,⟨e,h⟩,⟨a,b⟩=>by subst e;exact⟨a,aHZ h b⟩
 | [],_::_,_,h,_=>h.elim
 |_::_,[],_,h,_=>h.elim
 | [],[],_::_,_,h=>h.elim
 |_::_,_::_,[],_,h=>h.elim
theorem aTl {c:CV}{n:Nat}{l:List Fp}(h:aI (match c with|.f _=>Rd.fail|c=>aSw c) g n l){π:Pi}{x:Value}(hx:c.rel π x):∃a cap,x=.slice a n cap:=by
 cases c<;>simp only[aSw] at h
 case sl b o m z own=>
  cases h;obtain⟨B,s,q,e,_,_,_,⟨h0,a,rfl⟩| ⟨cap,_,rfl,_⟩⟩:=hx
  .exact⟨_,_,by rw[h0]⟩
  .exact⟨_,_,rfl⟩
 case nils=>cases h;exact⟨_,_,hx⟩
 case fs n z cols=>
  cases h;obtain⟨_,⟨h0,a,rfl⟩| ⟨B,s,cap,_,rfl,_⟩⟩:=hx
  .exact⟨_,_,by rw[h0]⟩
  .exact⟨_,_,rfl⟩
 all_goals cases h
theorem aTm {c:Call}{args:List AV}{x:AV}{fp l0:List Fp}(ho:o.op=.call c)(hc:c.callee=.builtin .len)(ha:aI (Ab.uj Ab.Ee c.args.toList) g args l0)(lZ:args=[x])
  (h:aI ((Ab.ey ((c.argTypes[0]?).bind P.underlying)).bind λ
  |.array n _=>.ret (ec o.dst (.r (.c (.f (.i .i64 (n:Int))))))
  |.slice _=>(Ab.asC x).bind λc=>(match c with|.f _=>Rd.fail|c=>aSw c).bind λn=>.ret (ec o.dst (.r (.c (.f (.i .i64 (n:Int))))))
  |.string=>(Ab.asC x).bind λc=>(match c with|.f (.s x)=>Rd.ret x.size|_=>Rd.fail).bind λn=>.ret (ec o.dst (.r (.c (.f (.i .i64 (n:Int))))))
  |_=>.fail) g us fp):Ao P o X D aJ us g:=by
 subst lZ;obtain⟨d,⟨_,h1⟩,_,h⟩:=aI.bind' h;have h1:=h1.ey
 obtain⟨t,ht,hu⟩:∃t,c.argTypes[0]? =some t/\P.underlying t=some d:=by
  cases ht:c.argTypes[0]? with
  |none=>rw[ht] at h1;cases h1
  |some t=>rw[ht] at h1;exact⟨t,rfl,h1⟩
 split at h
 .rename_i n _ _
  cases h;refine iX λπ a w R=> ?_;obtain⟨y,hy,hr⟩:=axx (KL ha R);have hy:=aXu hy;exact⟨goInt n,by obtain⟨cs,e⟩:=afS (P:=P) a w ho hc;rw[e,hy];simp[builtin,Builtin.len_,ht,run_underlying hu],rfl⟩
 .obtain⟨c1,⟨_,h2⟩,_,h⟩:=aI.bind' h;obtain⟨n,⟨_,h3⟩,_,h⟩:=aI.bind' h;cases h;refine iX λπ a w R=> ?_;obtain⟨y,hy,hr⟩:=axx (KL ha R);have hy:=aXu hy;rw[h2.asC] at hr;obtain⟨ad,cap,rfl⟩:=aTl h3 hr;exact⟨goInt n,by obtain⟨cs,e⟩:=afS (P:=P) a w ho hc;rw[e,hy];simp[builtin,Builtin.len_,ht,run_underlying hu],rfl⟩
 .obtain⟨c1,⟨_,h2⟩,_,h⟩:=aI.bind' h;obtain⟨n,⟨_,h3⟩,_,h⟩:=aI.bind' h;cases h;refine iX λπ a w R=> ?_;obtain⟨y,hy,hr⟩:=axx (KL ha R);have hy:=aXu hy;rw[h2.asC] at hr;split at h3
  .cases h3;have hr:y=_:=hr;subst hr;exact⟨_,by obtain⟨cs,e⟩:=afS (P:=P) a w ho hc;rw[e,hy];simp[builtin,Builtin.len_,ht,run_underlying hu];rfl,rfl⟩
  .cases h3
 .cases h
omit [ax] in
theorem aM8 {x:AV}{v:FV}{l:List Fp}(h:aI (Ab.asF x) g v l):x=.r (.c (.f v)):=by
 unfold Ab.asF at h;split at h
 .cases h;rfl
 .cases h
theorem aH0 {f:FV->FV->Rd FV}{m:Value->Value->Sem Value}(hf:∀x y v l,aI (f x y) g v l->∀a b,x.rel a->y.rel b->∀w,∃z,(m a b).run P w=.ok z w/\v.rel z):∀{xs:List FV} {ys:List Value} {x v:FV} {y:Value} {l:List Fp},aI (aua f x xs) g v l->x.rel y->bl FV.rel xs ys->∀w,∃z,(ys.foldlM m y).run P w=.ok z w/\v.rel z
 | [],[],x,v,y,l,h,hx,_,w=>by cases h;exact⟨y,by simp,hx⟩
 |a::xs,b::ys,x,v,y,l,h,hx,⟨ha,hs⟩,w=>by
  obtain⟨r,⟨_,h1⟩,_,h⟩:=aI.bind' h;obtain⟨z,hz,hr⟩:=hf x a r _ h1 y b hx ha w;obtain⟨z',uD,hr'⟩:=aH0 hf h hr hs w;exact⟨z',by simp[List.foldlM_cons,hz,uD],hr'⟩
 | [],_::_,_,_,_,_,_,_,h,_=>h.elim
 |_::_,[],_,_,_,_,_,_,h,_=>h.elim
theorem aM9 {bi:Builtin}{f:FV->FV->Rd FV}{m:Value->Value->Sem Value}(hf:∀x y v l,aI (f x y) g v l->∀a b,x.rel a->y.rel b->∀w,∃z,(m a b).run P w=.ok z w/\v.rel z)
  {c:Call}{args:List AV}{x:AV}{xs:List AV}{fp l0:List Fp}(ho:o.op=.call c)(hc:c.callee=.builtin bi)(hb:∀t cs y ys w,(builtin bi c.argTypes t cs (y::ys).toArray).run P w=((ys.foldlM m y).run P w).andThen λv w=>.ok (.value v) w)
  (ha:aI (Ab.uj Ab.Ee c.args.toList) g args l0)(lZ:args=x::xs)
  (h:aI ((Ab.asF x).bind λx=>(Ab.uj Ab.asF xs).bind λl=>(aua f x l).bind λv=>.ret (ec o.dst (.r (.c (.f v))))) g us fp):Ao P o X D aJ us g:=by
 subst lZ;obtain⟨v0,⟨_,h1⟩,_,h⟩:=aI.bind' h;obtain⟨vs,⟨_,h2⟩,_,h⟩:=aI.bind' h;obtain⟨v,⟨_,h3⟩,_,h⟩:=aI.bind' h;cases h;refine iX λπ a w R=> ?_;have hr:=KL ha R;have h1:=aM8 h1;subst h1;have h2:=aI.uj (ρ:=λv x=>x=.r (.c (.f v))) (λx v l hx=>aM8 hx) h2
 obtain⟨y,ys,hy,hry,hrs⟩:∃y ys,(c.args.map a.eval).toList=y::ys/\v0.rel y/\bl (AV.rel π) xs ys:=by
  revert hr
  generalize (c.args.map a.eval).toList=L
  intro hr;cases L with
  |nil=>exact hr.elim
  |cons y ys=>exact⟨y,ys,rfl,hr.1,hr.2⟩
 have hvs:bl FV.rel vs ys:=aHZ h2 hrs;obtain⟨z,hz,hzr⟩:=aH0 hf h3 hry hvs w;have hy':c.args.map a.eval=(y::ys).toArray:=by rw[<-akH];exact hy
 exact⟨z,by obtain⟨cs,e⟩:=afS (P:=P) a w ho hc;rw[e,hy',hb,hz];rfl,hzr⟩
theorem aTn {x y v:FV}{l:List Fp}(h:aI (aXf x y) g v l)(a b:Value)(ha:x.rel a)(hb:y.rel b)(w:World):∃z,(Builtin.min2 a b).run P w=.ok z w/\v.rel z:=by
 unfold aXf at h;split at h
 .rename_i k m k' n
  have ha:a=_:=ha;have hb:b=_:=hb;subst ha hb;split at h
  .cases h;exact⟨_,by simp[Builtin.min2],rfl⟩
  .cases h
 .cases h
theorem aTo {x y v:FV}{l:List Fp}(h:aI (aXg x y) g v l)(a b:Value)(ha:x.rel a)(hb:y.rel b)(w:World):∃z,(Builtin.max2 a b).run P w=.ok z w/\v.rel z:=by
 unfold aXg at h;split at h
 .rename_i k m k' n
  have ha:a=_:=ha;have hb:b=_:=hb;subst ha hb;split at h
  .cases h;exact⟨_,by simp[Builtin.max2],rfl⟩
  .cases h
 .cases h
omit [ax] in
theorem aZw (ts:Array TypeId)(t:TypeId)(cs:Array Bool)(y:Value)(ys:List Value)(w:World):(builtin .min ts t cs (y::ys).toArray).run P w=((ys.foldlM Builtin.min2 y).run P w).andThen λv w=>.ok (.value v) w:=by
 simp[builtin,Builtin.min_]
omit [ax] in
theorem aZx (ts:Array TypeId)(t:TypeId)(cs:Array Bool)(y:Value)(ys:List Value)(w:World):(builtin .max ts t cs (y::ys).toArray).run P w=((ys.foldlM Builtin.max2 y).run P w).andThen λv w=>.ok (.value v) w:=by
 simp[builtin,Builtin.max_]
end
end Go.Ab
namespace Go.Ab
variable [ax]
section
variable {P:Program} {o:Oper} {X:Cx} {D:Nat->Prop} {aJ:Nat} {us:List Up} {g:Gt}
theorem Rel.aXw {π:Pi}{a:Act}{w:World}(R:Rel X D π g a w){b n B s e lo:Nat}{xs:List Value}(hz:g.z b=some n)(hb:π b=some (B,s,n,e))(h0:n<=lo)(hn:s+lo+xs.length<=e)
  (hD:b<X.k->D b):Rel X D π g a (w.setCells B (s+lo) xs):=by
 obtain⟨B',s',e',fy,hle,h1,h2⟩:=R.hp.hp b n hz;rw[hb] at fy;cases fy;have hin:∀j,j<xs.length->(cl w B (s+lo+j)).isSome=true:=λj hj=>(h1 _ (by omega) (by omega)).1
 refine⟨R.tm,R.nt,R.df,⟨R.hp.am.setCells λhl=>R.hp.lb b B s n e (by rw[hz];simp) hb (by omega),R.hp.lb,λb' n' uD=> ?_,R.hp.dj⟩,R.xF,R.ft,R.fr.setCells ?_⟩
 .obtain⟨B2,s2,e2,Fb,ads,k1,k2⟩:=R.hp.hp b' n' uD;refine⟨B2,s2,e2,Fb,ads,λi hi he=>⟨isSome_setCells hin (k1 i hi he).1,by rw[pE];exact(k1 i hi he).2⟩,λj hj=> ?_⟩;rw[eU]
  .exact k2 j hj
  .intro e3;subst e3;by_cases eb:b'=b
   .subst eb;rw[hb] at Fb;cases Fb;omega
   .by_cases hc:s+lo<=s2+j/\s2+j<s+lo+xs.length
    .exact(R.hp.dj b' b B2 s2 _ e2 s _ e eb (by simp[uD]) (by simp[hz]) Fb hb (s2+j) (by omega) (by omega) (by omega) (by omega)).elim
    .omega
 .rcases px B X.w0.heap.size with hB|hB
  .right
   intro j hj;rcases px b X.k with hk|hk
   .exact⟨b,s,n,e,hk,hD hk,(R.xF b hk).symm.trans hb,by omega,by omega⟩
   .exact R.ft b B s n e hk (by simp[hz]) hb hB _ (by omega) (by omega)
  .exact .inl hB
theorem aNa {z:Nat}{x:CV}{xb:Sz×af}{l:List Fp}(h:aI (slB z x) g xb l){π:Pi}{a:Act}{w:World}(R:Rel X D π g a w){xv:Value}(hx:x.rel π xv):
  ∃news:List Value,news.length=xb.1.val*z/\xb.2.size=xb.1.val*z/\(∀j,j<xb.1.val*z->∃v,news[j]? =some v/\(xb.2.get j).rel π v)/\(∀v∈news,v.oneCell'=true)/\
   ((xb.1.val=0/\∃y c,xv=.slice y 0 c)∨∃ad c,xv=.slice (some ad) xb.1.val c/\∀j v,news[j]? =some v->w.cell? (ad.add j)=some v):=by
 cases x<;>simp only[slB] at h
 case sl b q n z' own=>
  obtain⟨_,⟨_,h1⟩,_,h2⟩:=aI.bind' h;clear h
  have uD:z=z':=nQ h1.cN;subst uD;cases h2 with|vw r v hz hs hv h3=>
  cases h3;obtain⟨B2,s2,q2,e2,Fb,hm,_,⟨h0,y,rfl⟩| ⟨cap,rS,rfl,_⟩⟩:=hx
  .exact⟨[],by simp[h0],hs,λj hj=>by simp only[h0,Ss] at hj;omega,by simp,.inl ⟨h0,y,0,rfl⟩⟩
  .obtain⟨_,xs,hl,hxs,hc⟩:=R.view hz hs hv Fb hm
   have aNb:∀v∈xs,v.oneCell'=true:=λv hv=>by
    obtain⟨i,hi⟩:=axf.1 hv;obtain⟨c,_,hr⟩:=hxs.get' hi;exact CV.QV hr
   refine⟨xs,hl,hs,λj hj=>(jI hxs).2 j (by rw[hs];exact hj),aNb,.inr ⟨_,cap,rfl,λj v hj=>by rw[nL];exact hc j v hj⟩⟩
 case nils=>
  cases h;have hx:xv=.slice none 0 0:=hx;exact⟨[],by simp[Sz.val],by simp[af.size,Sz.val],λj hj=>by simp[Sz.val] at hj,by simp,.inl ⟨rfl,none,0,hx⟩⟩
 case fs n z' cols=>
  obtain⟨_,⟨_,h1⟩,_,h2⟩:=aI.bind' h;clear h
  have uD:z=z':=nQ h1.cN;subst uD;cases h2;obtain⟨hz,hx⟩:=hx;have hs:af.size [.a (.s n) cols]=n*z:=by rw[af.size_cons,af.mb,Sg.mf,hz];rfl
  rcases hx with⟨h0,y,rfl⟩| ⟨B,s,cap,rS,rfl,hc⟩
  .exact⟨[],by simp[h0,Sz.val],hs,λj hj=>by simp only[h0,Sz.val,Ss] at hj;omega,by simp,.inl ⟨h0,y,0,rfl⟩⟩
  .have cell:∀j,j<n*z->∃v,cl w B (s+j)=some v/\(jg cols j).rel π v:=λj hj=>by
    obtain⟨f,v,e1,e2,e3⟩:=hc j hj;exact⟨v,(R.hp.am.st _ _ _ e2).2,by rw[e1];exact e3⟩
   have hat:∀j v,((List.range (n*z)).map λj=>(cl w B (s+j)).getD undef)[j]? =some v->j<n*z/\cl w B (s+j)=some v:=λj v hv=>by
    have hjn:j<n*z:=by
     have:=(mi.1 hv).1;simpa using this
    obtain⟨u,hu,_⟩:=cell j hjn;simp[hjn,hu] at hv
    exact⟨hjn,by rw[hu,hv]⟩
   refine⟨(List.range (n*z)).map λj=>(cl w B (s+j)).getD undef,by simp[Sz.val],hs,λj hj=> ?_,λv hv=> ?_,.inr ⟨_,cap,rfl,λj v hv=>by rw[nL];exact(hat j v hv).2⟩⟩
   .obtain⟨v,hv,hr⟩:=cell j hj;refine⟨v,?_,by rw[af.dX (by rw[Sg.mf,hz];exact hj),Sg.py];exact hr⟩;have hj':j<n*z:=hj;rw[BH,List.getElem?_range hj'];simp[hv]
   .obtain⟨i,hi⟩:=axf.1 hv;obtain⟨h1,h2⟩:=hat i v hi;obtain⟨u,hu,hr⟩:=cell i h1;rw[h2] at hu;cases hu;exact CV.QV hr
 all_goals cases h
omit [ax] in
theorem aNc {z:Nat}{y:Option Addr}{c:Nat}(w:World):(Builtin.firstCells z 0 (.slice y 0 c)).run P w=.ok #[] w:=by
 cases y<;>simp[Builtin.firstCells,loadCells,loadCellsFrom]
omit [ax] in
theorem afT {t ty e:TypeId}{z:Nat}(ht:P.underlying t=some (.slice e))(hz:jf P e=some z){base y:Option Addr}{n cap c:Nat}(h:n<=cap)(w:World):
  (Builtin.append_ #[t,t] ty #[.slice base n cap,.slice y 0 c]).run P w=.ok (.slice base n cap) w:=by
 cases base<;>simp[Builtin.append_,run_underlying ht,run_sizeOf hz,Builtin.lenOf,h,aNc,storeCells]
omit [ax] in
theorem LJ {t ty e:TypeId}{z:Nat}(ht:P.underlying t=some (.slice e))(hz:jf P e=some z){B q n cap m c:Nat}{ad:Addr}{news:List Value}(h:n+m<=cap)(hl:news.length=m*z)(w:World)
  (hn:∀j v,news[j]? =some v->w.cell? (ad.add j)=some v)(h1:∀v∈news,v.oneCell'=true)(hc:∀j,j<news.length->(cl w B (q+n*z+j)).isSome=true/\fz w B (q+n*z+j)=false):
  (Builtin.append_ #[t,t] ty #[.slice (some ⟨B,q,none⟩) n cap,.slice (some ad) m c]).run P w=.ok (.slice (some ⟨B,q,none⟩) (n+m) cap) (w.setCells B (q+n*z) news):=by
 have hf:=run_firstCells_some (P:=P) w z m ad m c news hl hn;have hst:=run_storeCells_cells (P:=P) B (q+n*z) news 0 w (λj hj=>by have:=(hc j hj).1;simpa[cl] using this) (λj hj=>by have:=(hc j hj).2;simpa[fz] using this) h1;simp[Builtin.append_,run_underlying ht,run_sizeOf hz,Builtin.lenOf,h,hf,nL,hst]
theorem I1 {t ty e:TypeId}{z by_:Nat}{zv:RV}(ht:P.underlying t=some (.slice e))(hz:jf P e=some z)(hb:(P.info? e).map (·.bytes)=some by_)(hv:AG P e=some zv)(hl0:af.size zv.bR=z)(hby:1<=by_)
  {sv:Value}{n cap m c:Nat}{ad:Addr}{Ha news:List Value}(w:World)(hs:(sv=.slice none 0 0/\n=0/\cap=0)∨∃b,sv=.slice (some b) n cap/\∀j v,Ha[j]? =some v->w.cell? (b.add j)=some v)
  (hlo:Ha.length=n*z)(hl:news.length=m*z)(hn:∀j v,news[j]? =some v->w.cell? (ad.add j)=some v)(hg:cap<n+m)(hm:0<m)(azk:(n+m)*by_<=140737488355328):
  ∃gc arr,(Builtin.append_ #[t,t] ty #[sv,.slice (some ad) m c]).run P w=.ok (.slice (some ⟨w.heap.size,0,none⟩) (n+m) gc) (w.drew.alloc (.cells arr e))/\n+m<=gc/\arr.size=gc*z/\∃rest,arr.toList=Ha++news++rest:=by
 obtain⟨zx,_,⟨i,hi,hzz⟩,hzr⟩:=adt hv w;rw[hi] at hb;have hzs:i.size=z:=by unfold jf at hz;rw[hi] at hz;simpa using hz
 have hbs:i.bytes=by_:=by simpa using hb
 have hzc:zx.cells.size=z:=by
  have:=(jI (RV.Om (hzr λ_=>none))).1;simp only[VF] at this;omega
 have hle:n+m<=(n+m)*by_:=Nat.le_mul_of_pos_right _ (by omega)
 have yp:∀(xF gc:Nat),n+m<=gc->(Ha.toArray++news.toArray++Builtin.zeroCells zx.cells (gc-(n+m))).size=gc*z:=λxF gc hgc=>by
  simp only[Array.size_append,List.size_toArray,size_zeroCells,hzc,hlo,hl,<-qx];congr 1;omega
 rcases hs with⟨rfl,rfl,rfl⟩| ⟨b,rfl,ho⟩
 .have ho:Ha=[]:=List.eq_nil_of_length_eq_zero (by simpa using hlo);subst ho;have hr:=run_append_nil (P:=P) w t ty e i zx ht hi hzz ad m c news (by rw[hzs];exact hl) hn hm (by omega) (by rw[hbs];simp only[gy] at azk;omega);have hge:=grownCap_ge w m 0 e;refine⟨_,_,by simpa using hr,by simpa using hge,?_,Builtin.zeroCells zx.cells (grownCap w m 0 e-m)|>.toList,?_⟩
  .have:=yp 0 (grownCap w m 0 e) (by simpa using hge);simpa using this
  .simp
 .have hr:=run_append_grow (P:=P) w t ty e i zx ht hi hzz b n cap Ha (by rw[hzs];exact hlo) ho ad m c news (by rw[hzs];exact hl) hn hg (by omega) (growslice_fits hg (by rw[hbs];exact azk));have hge:=grownCap_ge w (n+m) cap e;refine⟨_,_,hr,hge,yp 0 _ hge,Builtin.zeroCells zx.cells (grownCap w (n+m) cap e-(n+m))|>.toList,?_⟩;simp
omit [ax] in
theorem aQT {e:TypeId}{n:Nat}{l:List Fp}(h:aI (Ab.ey ((P.info? e).map (·.bytes))) g n l):(P.info? e).map (·.bytes)=some n:=h.ey
omit [ax] in
theorem Vz {Ha news rest:List Value}{arr:Array Value}(h:arr.toList=Ha++news++rest){j:Nat}{v:Value}:(Ha[j]? =some v->arr[j]? =some v)/\(news[j]? =some v->arr[Ha.length+j]? =some v):=by
 refine⟨λhj=> ?_,λhj=> ?_⟩
 .have om:=(mi.1 hj).1;rw[<-VE,h,Ua (by simp;omega),Ua om,hj]
 .have om:=(mi.1 hj).1;rw[<-VE,h,Ua (by simp;omega),adn (by omega),show Ha.length+j-Ha.length=j by omega,hj]
theorem aJ2 {c:Call}{t:TypeId}{sa xa:AV}{args:List AV}{fp l0:List Fp}(ho:o.op=.call c)(hc:c.callee=.builtin .append)(ha:aI (Ab.uj Ab.Ee c.args.toList) g args l0)(lZ:args=[sa,xa])
  (hts:c.argTypes=#[t,t]){s x:CV}(hs:sa=.r (.c s))(hx:xa=.r (.c x))(h:aI (aDE P t s x o.dst aJ) g us fp):Ao P o X D aJ us g:=by
 subst hs hx lZ;unfold aDE at h;split at h
 case h_2=>cases h
 rename_i e hu
 obtain⟨z,⟨_,h1⟩,_,h⟩:=aI.bind' h;obtain⟨by_,⟨_,h2⟩,_,h⟩:=aI.bind' h;obtain⟨zv,⟨_,h3⟩,_,h⟩:=aI.bind' h;obtain⟨_,⟨_,h4⟩,_,h⟩:=aI.bind' h;obtain⟨⟨xn,xk⟩,⟨_,h5⟩,_,h⟩:=aI.bind' h;have h1:=h1.ey;have h2:=aQT h2;have h3:=h3.ey;have h4:=h4.cN;simp only[cx,fC,beq_iff] at h4;have hzv:=h4.2.2;simp only[] at h;cases s with
 |nils=>
  simp only[] at h;obtain⟨_,⟨_,h6⟩,_,h⟩:=aI.bind' h;cases h;have h6:xn.val*by_<=140737488355328:=JN h6.cN;intro π a w next Q R hk hf hd hD hn;obtain⟨y1,y2,hy,Y9,hr2⟩:=axy (KL ha R);have hy:=aXv hy;have Y9:y1=.slice none 0 0:=Y9;subst Y9;obtain⟨news,n1,n2,n3,n4,n5⟩:=aNa h5 R hr2;simp only at n1 n2 n3 n4 n5;obtain⟨cs,er⟩:=afS (P:=P) a w ho hc;have hcn:cF (ec o.dst (.r (.c (.sl aJ (.k 0) xn z true)))++[Up.new aJ xk])=1:=by unfold ec cF;cases o.dst<;>rfl
  have h0:=hf aJ (dq _) (by omega);by_cases hm:xn.val=0
  .obtain⟨y,c',rfl⟩:∃y c',y2=.slice y 0 c':=by
    rcases n5 with⟨_,y,c',rfl⟩| ⟨ad,c',rfl,_⟩
    .exact⟨y,c',rfl⟩
    .exact⟨some ad,c',by rw[hm]⟩
   have oB:=afT (P:=P) (ty:=o.type) hu h1 (base:=none) (y:=y) (n:=0) (cap:=0) (c:=c') (dq _) w;have hx0:=AK h0 (0,0,af.size xk,0)
   have R1:=(R.LF hx0 (λb hb=>by simp only[Au];rw[if_neg (by omega)])).new (k:=xk) (pV π aJ (0,0,af.size xk,0)) hk (by rw[n2,hm];omega) (λi _ i2=>by omega) (λj hj=>by rw[n2,hm] at hj;omega)
    (λ_ _ _ _ _ _ _ _ _ i2=>by omega) (λ_ _ _ i2=>by omega)
   have R2:=R1.dst hd (v:=.r (.c (.sl aJ (.k 0) xn z true))) (x:=.slice none 0 0) ⟨_,_,_,_,pV _ _ _,by simp only[cE.val,n2];omega,λ_=>by simp only[cE.val,n2];omega,.inl ⟨hm,none,rfl⟩⟩;refine Qb (x:=.slice none 0 0) (w':=w) ?_ (hn _ _ (Au π aJ (0,0,af.size xk,0)) hx0 (VQ ⟨dq _,by omega⟩) ?_)
   .rw[er,hy,hts];simp[builtin,oB]
   .rw[LH _ _ _ _ (by simp)];exact R2
  .obtain⟨ad,c',rfl,hn5⟩:∃ad c',y2=.slice (some ad) xn.val c'/\∀j v,news[j]? =some v->w.cell? (ad.add j)=some v:=by
    rcases n5 with⟨h,_⟩|h
    .exact absurd h hm
    .exact h
   obtain⟨gc,arr,oB,hgc,yp,rest,afU⟩:=I1 (P:=P) (ty:=o.type) hu h1 h2 h3 hzv h4.2.1 (sv:=.slice none 0 0) (n:=0) (cap:=0) (m:=xn.val) (c:=c') (ad:=ad) (Ha:=[]) (news:=news) w (.inl ⟨rfl,rfl,rfl⟩) (by simp) n1 hn5 (by omega) (by omega) (by simpa using h6);simp only[gy] at oB hgc
   have R1:=(R.drew).row (k:=xk) (n:=xn) (q:=z) (cap:=gc) (arr:=arr) (t:=e) hd h0 hk hgc (by omega) n2 (λj hj=>by
    rw[n2] at hj;obtain⟨v,hv,hr⟩:=n3 j hj;exact⟨v,by simpa using(Vz afU).2 hv,hr⟩)
   refine Qb (x:=.slice (some ⟨w.heap.size,0,none⟩) xn.val gc) (w':=w.drew.alloc (.cells arr e)) ?_ (hn _ _ (Au π aJ (w.heap.size,0,af.size xk,gc*z)) (AK h0 _) (VQ ⟨dq _,by omega⟩) ?_)
   .rw[er,hy,hts];simp[builtin,oB]
   .rw[LH _ _ _ _ (by simp)];exact R1
 |sl b q n z' own=>
  cases own with
  |false=>cases h
  |true=>
  simp only[] at h;obtain⟨_,⟨_,h6⟩,_,h⟩:=aI.bind' h;obtain⟨_,⟨_,h7⟩,_,h⟩:=aI.bind' h;cases h with|sz r hz h=>
  cases h with|vw r' sb uD hsb hvb h=>
  obtain⟨nb,⟨_,h9⟩,_,h⟩:=aI.bind' h;obtain⟨_,⟨_,h10⟩,_,h⟩:=aI.bind' h;cases h;have h6:z=z':=nQ h6.cN;subst h6;have h7:(n.val+xn.val)*by_<=140737488355328:=JN h7.cN;rw[hz] at uD;cases uD;have auq:(n.add xn).val=n.val+xn.val:=by cases n<;>cases xn<;>rfl
  intro π a w next Q R hk hf hd hD hn;obtain⟨y1,y2,hy,Y9,hr2⟩:=axy (KL ha R);have hy:=aXv hy;obtain⟨news,n1,n2,n3,n4,n5⟩:=aNa h5 R hr2;simp only at n1 n2 n3 n4 n5;obtain⟨cs,er⟩:=afS (P:=P) a w ho hc;have ZC:=af.aTd h9.ey;have hcn:cF (ec o.dst (.r (.c (.sl aJ (.k 0) (n.add xn) z true)))++[Up.kill b,Up.new aJ nb])=1:=by unfold ec cF;cases o.dst<;>rfl
  have h0:=hf aJ (dq _) (by omega);have hDb:b<X.k->D b:=hD (.kill b) (by simp);obtain⟨B,s,e',hb,hle,k1,k2⟩:=R.hp.hp b _ hz;have nd:aJ≠b:=λe=>by rw[e,hb] at h0;cases h0
  have hmul:(n.val+xn.val)*z=n.val*z+xn.val*z:=qx _ _ _;have asA:af.size nb=(n.val+xn.val)*z:=by rw[ZC.1,hsb,n2,hmul]
  have within:∀(w':World) (y:Value) (cap:Nat),Rel X D π g a w'->(n.val+xn.val)<=cap->s+q.val+cap*z<=e'->y=.slice (some ⟨B,s+q.val,none⟩) (n.val+xn.val) cap->
    (∀i,s+q.val<=i->i<e'->(cl w' B i).isSome=true/\fz w' B i=false)->(∀j,j<(n.val+xn.val)*z->∃v,cl w' B (s+q.val+j)=some v/\(af.get nb j).rel π v)->
    (execOp a.eval o).run P w=.ok (.value y) w'->o.wp P a w next Q:=by
   intro w' y cap R' rS hce hyy hc1 hc2 oB;have hcz:(n.val+xn.val)*z<=cap*z:=wC _ rS;have hx0:=AK h0 (B,s+q.val,af.size nb,e')
   have R1:=((R'.kill b).LF hx0 (λb hb=>by simp only[Au];rw[if_neg (by omega)])).new (k:=nb) (pV π aJ (B,s+q.val,af.size nb,e')) hk (by rw[asA];omega) hc1
    (λj hj=>by
     rw[asA] at hj;obtain⟨v,hv,hr⟩:=hc2 j hj;exact⟨v,hv,CV.dP hx0 _ _ hr⟩)
    (λb' s1 q1 e1 a25 hz1 hb1 i i1 i2 i3 i4=>by
     simp only[Au,a25,gB] at hb1;have hbb:b'≠b:=λe=>hz1 (by simp[Up.iw,e])
     have hz2:g.z b'≠none:=by simpa[Up.iw,hbb] using hz1
     exact R'.hp.dj b' b B s1 q1 e1 s _ e' hbb hz2 (by simp[hz]) hb1 hb i i3 i4 (by omega) i2)
    (λhB i i1 i2=>by
     rcases px b X.k with hbk|hbk
     .exact⟨b,s,_,e',hbk,hDb hbk,(R'.xF b hbk).symm.trans hb,by omega,i2⟩
     .exact R'.ft b B s _ e' hbk (by simp[hz]) hb hB i (by omega) i2)
    (λh=>R'.hp.lb b B s _ e' (by simp[hz]) hb (by omega))
   have R2:=R1.dst hd (v:=.r (.c (.sl aJ (.k 0) (n.add xn) z true))) (x:=y) ⟨_,_,_,_,pV _ _ _,by rw[auq,asA];simp only[cE.val];omega,λ_=>by rw[auq,asA];simp only[cE.val];omega,.inr ⟨cap,by rw[auq];exact rS,by rw[auq];exact hyy,λ_=>hce⟩⟩;refine Qb oB (hn _ _ (Au π aJ (B,s+q.val,af.size nb,e')) hx0 (VQ ⟨dq _,by omega⟩) ?_);rw[LH _ _ _ _ (by simp)];exact R2
  have asD:∀(sv:Value) (cap:Nat) (xs:List Value) (ad:Addr) (c':Nat),y1=sv->y2=.slice (some ad) xn.val c'->(∀j v,news[j]? =some v->w.cell? (ad.add j)=some v)->xs.length=n.val*z->(∀j,j<n.val*z->∃v,xs[j]? =some v/\(af.get sb j).rel π v)->
    ((sv=.slice none 0 0/\n.val=0/\cap=0)∨∃b,sv=.slice (some b) n.val cap/\∀j v,xs[j]? =some v->w.cell? (b.add j)=some v)->0<xn.val->cap<n.val+xn.val->o.wp P a w next Q:=by
   intro sv cap xs ad c' hsv hy2 hn5 hxl hold hss hm rS;subst hy2;obtain⟨gc,arr,oB,hgc,yp,rest,afU⟩:=I1 (P:=P) (ty:=o.type) hu h1 h2 h3 hzv h4.2.1 (c:=c') (ad:=ad) (Ha:=xs) (news:=news) w hss hxl n1 hn5 rS hm h7
   have R1:=((R.drew).kill b).row (k:=nb) (n:=n.add xn) (q:=z) (cap:=gc) (arr:=arr) (t:=e) hd h0 hk (by rw[auq];exact hgc) (by omega) (by rw[asA,auq]) (λj hj=>by
    rw[asA] at hj;rw[ZC.2 j (by omega),hsb];by_cases hjn:j<n.val*z
    .obtain⟨v,hv,hr⟩:=hold j hjn;rw[if_pos hjn];exact⟨v,(Vz afU).1 hv,hr⟩
    .rw[if_neg hjn];obtain⟨v,hv,hr⟩:=n3 (j-n.val*z) (by omega);have:=(Vz afU).2 hv;rw[hxl,show n.val*z+(j-n.val*z)=j by omega] at this;exact⟨v,this,hr⟩)
   refine Qb (x:=.slice (some ⟨w.heap.size,0,none⟩) (n.val+xn.val) gc) (w':=w.drew.alloc (.cells arr e)) ?_ (hn _ _ (Au π aJ (w.heap.size,0,af.size nb,gc*z)) (AK h0 _) (VQ ⟨dq _,by omega⟩) ?_)
   .rw[er,hy,hts,hsv];simp[builtin,oB]
   .rw[LH _ _ _ _ (by simp),<-auq];exact R1
  have a0C:xn.val=0->∃y c',y2=.slice y 0 c':=λhm=>by
   rcases n5 with⟨_,y,c',rfl⟩| ⟨ad,c',rfl,_⟩
   .exact⟨y,c',rfl⟩
   .exact⟨some ad,c',by rw[hm]⟩
  have a0D:xn.val≠0->∃ad c',y2=.slice (some ad) xn.val c'/\∀j v,news[j]? =some v->w.cell? (ad.add j)=some v:=λhm=>by
   rcases n5 with⟨h,_⟩|h
   .exact absurd h hm
   .exact h
  obtain⟨B2,s2,q2,e2,Fb,hmq,a1x,⟨hn0,y0,rfl⟩| ⟨cap,rS,rfl,aQS⟩⟩:=Y9
  .by_cases hm:xn.val=0
   .obtain⟨y,c',rfl⟩:=a0C hm;have oB:=afT (P:=P) (ty:=o.type) hu h1 (base:=y0) (y:=y) (n:=0) (cap:=0) (c:=c') (dq _) w;have hs0:af.size nb=0:=by rw[asA,hm,hn0];omega
    have hx0:=AK h0 (0,0,af.size nb,0)
    have R1:=((R.kill b).LF hx0 (λb hb=>by simp only[Au];rw[if_neg (by omega)])).new (k:=nb) (pV π aJ (0,0,af.size nb,0)) hk (by omega) (λi _ i2=>by omega) (λj hj=>by omega)
     (λ_ _ _ _ _ _ _ _ _ i2=>by omega) (λ_ _ _ i2=>by omega)
    have R2:=R1.dst hd (v:=.r (.c (.sl aJ (.k 0) (n.add xn) z true))) (x:=.slice y0 0 0) ⟨_,_,_,_,pV _ _ _,by rw[auq,hs0,hm,hn0];simp[cE.val],λ_=>by rw[auq,hs0,hm,hn0];simp[cE.val],.inl ⟨by omega,y0,rfl⟩⟩;refine Qb (x:=.slice y0 0 0) (w':=w) ?_ (hn _ _ (Au π aJ (0,0,af.size nb,0)) hx0 (VQ ⟨dq _,by omega⟩) ?_)
    .rw[er,hy,hts];simp[builtin,oB]
    .rw[LH _ _ _ _ (by simp)];exact R2
   .obtain⟨ad,c',hy2,hn5⟩:=a0D hm;cases y0 with
    |none=>exact asD _ 0 [] ad c' rfl hy2 hn5 (by simp[hn0]) (λj hj=>by simp only[hn0,Ss] at hj;omega) (.inl ⟨rfl,hn0,rfl⟩) (by omega) (by omega)
    |some ad0=>exact asD _ 0 [] ad c' rfl hy2 hn5 (by simp[hn0]) (λj hj=>by simp only[hn0,Ss] at hj;omega) (.inr ⟨ad0,by rw[hn0],λj v hj=>by simp at hj⟩) (by omega) (by omega)
  .rw[hb] at Fb;cases Fb;have a5q:=a1x rfl;have aM5:=aQS rfl;obtain⟨_,xs,hxl,hxs,hxc⟩:=R.view hz hsb hvb hb hmq
   have hold:∀j,j<n.val*z->∃v,xs[j]? =some v/\(af.get sb j).rel π v/\cl w B (s+q.val+j)=some v:=λj hj=>by
    obtain⟨v,hv,hr⟩:=(jI hxs).2 j (by rw[hsb];exact hj);exact⟨v,hv,hr,hxc j v hv⟩
   by_cases hm:xn.val=0
   .obtain⟨y,c',rfl⟩:=a0C hm;have oB:=afT (P:=P) (ty:=o.type) hu h1 (base:=some ⟨B,s+q.val,none⟩) (y:=y) (n:=n.val) (cap:=cap) (c:=c') rS w;refine within w _ cap R (by omega) aM5 (by rw[hm,kP]) (λi i1 i2=>k1 i (by omega) i2) (λj hj=> ?_) (by rw[er,hy,hts];simp[builtin,oB]);have hj':j<n.val*z:=by rw[hm] at hj;simpa using hj
    obtain⟨v,_,hr,hc⟩:=hold j hj';exact⟨v,hc,by rw[ZC.2 j (by omega),if_pos (by omega)];exact hr⟩
   .obtain⟨ad,c',hy2,hn5⟩:=a0D hm;by_cases Sx:n.val+xn.val<=cap
    .subst hy2;have hcz:(n.val+xn.val)*z<=cap*z:=wC _ Sx;have hin:∀j,j<news.length->(cl w B (s+q.val+n.val*z+j)).isSome=true/\fz w B (s+q.val+n.val*z+j)=false:=λj hj=>k1 _ (by omega) (by omega)
     have oB:=LJ (P:=P) (ty:=o.type) hu h1 (B:=B) (q:=s+q.val) (n:=n.val) (cap:=cap) (m:=xn.val) (c:=c') (ad:=ad) Sx n1 w hn5 n4 hin;have R':=R.aXw (lo:=q.val+n.val*z) (xs:=news) hz hb (by omega) (by omega) hDb;rw[show s+(q.val+n.val*z)=s+q.val+n.val*z by omega] at R';refine within _ _ cap R' Sx aM5 rfl (λi i1 i2=>⟨isSome_setCells (λj hj=>(hin j hj).1) (k1 i (by omega) i2).1,by rw[pE];exact(k1 i (by omega) i2).2⟩) (λj hj=> ?_) (by rw[er,hy,hts];simp[builtin,oB]);rw[ZC.2 j (by omega),hsb];by_cases hjn:j<n.val*z
     .obtain⟨v,hv,hr,hc⟩:=hold j hjn;rw[if_pos hjn];exact⟨v,by rw[eU (λ_=>by omega)];exact hc,hr⟩
     .rw[if_neg hjn];obtain⟨v,hv,hr⟩:=n3 (j-n.val*z) (by omega);have om:=(mi.1 hv);have:=oo (w:=w) (B:=B) (o:=s+q.val+n.val*z) (vs:=news) (λj hj=>(hin j hj).1) om.1;rw[show s+q.val+n.val*z+(j-n.val*z)=s+q.val+j by omega,om.2] at this;exact⟨v,this,hr⟩
    .exact asD _ cap xs ad c' rfl hy2 hn5 hxl (λj hj=>let⟨v,hv,hr,_⟩:=hold j hj;⟨v,hv,hr⟩) (.inr ⟨_,rfl,λj v hj=>by rw[nL];exact hxc j v hj⟩) (by omega) (by omega)
 |_=>cases h
omit [ax] in
theorem aI.aHR {v:Nat}:∀{k j:Nat} {l:List Fp},aI (aHR v k) g j l->j=Nat.min v k
 |0,j,l,h=>by cases h;simp
 |k+1,j,l,h=>by
  cases h with|test h=>
  cases hx:wd (k+1) v with
  |true=>
   rw[hx] at h;cases h;have:=JN hx;show k+1=min v (k+1);omega
  |false=>
   rw[hx] at h;have h0:¬k+1<=v:=λh=>by rw[aDu h] at hx;cases hx
   have e:=aI.aHR h;rw[e];show min v k=min v (k+1);omega
omit [ax] in
theorem aI.aMK {n n':Sz}{m:Bool×Sz}{l:List Fp}(h:aI (aMK n n') g m l):m.2.val=Nat.min n'.val n.val:=by
 have least:∀n n':Sz,(Sz.least n' n).val=Nat.min n'.val n.val:=λn n'=>by cases n<;>cases n'<;>rfl
 unfold Ab.aMK at h;split at h
 .split at h
  .obtain⟨j,⟨_,h1⟩,_,h2⟩:=aI.bind' h;cases h2;exact aI.aHR h1
  .cases h;rfl
 .cases h;exact least _ _
theorem aQU {c:Call}{t:TypeId}{da xa:AV}{args:List AV}{fp l0:List Fp}(ho:o.op=.call c)(hc:c.callee=.builtin .copy)(ha:aI (Ab.uj Ab.Ee c.args.toList) g args l0)(lZ:args=[da,xa])
  (hts:c.argTypes[0]? =some t){d x:CV}(hs:da=.r (.c d))(hx:xa=.r (.c x))(h:aI (copyV P t d x o.dst) g us fp):Ao P o X D aJ us g:=by
 subst hs hx lZ;unfold copyV at h;split at h
 case h_2=>cases h
 rename_i e hu
 obtain⟨z,⟨_,h1⟩,_,h⟩:=aI.bind' h;have h1:=h1.ey;split at h
 case h_2=>cases h
 rename_i b q n z1 w1 b' q' n' z2 w2 _
 obtain⟨_,⟨_,h2⟩,_,h'⟩:=aI.bind' h;clear h
 obtain⟨_,⟨_,h3⟩,_,h⟩:=aI.bind' h';clear h'
 have h2:=h2.cN;simp only[cx,beq_iff] at h2;obtain⟨e1,e2⟩:=h2;obtain⟨⟨fl,m⟩,⟨_,h6⟩,_,h'⟩:=aI.bind' h;clear h
 have hmv:m.val=Nat.min n'.val n.val:=h6.aMK;clear h6
 cases h' with|vw r' v0 uD hs0 hv0 h=>
 cases h with|sz r hz h=>
 cases h
 have hsv:af.size (cond fl (ui v0) v0)=af.size v0/\∀j,j<af.size v0->af.get (cond fl (ui v0) v0) j=af.get v0 j:=by
  cases fl
  .exact⟨rfl,λ_ _=>rfl⟩
  .exact yu v0
 have hs:af.size (cond fl (ui v0) v0)=m.val*z:=hsv.1.trans hs0;have hv:q'.val+m.val*z<=r'->∀j,j<m.val*z->af.get (cond fl (ui v0) v0) j=g.c b' (q'.val+j):=λhb j hj=>(hsv.2 j (by rw[hs0];exact hj)).trans (hv0 hb j hj)
 generalize cond fl (ui v0) v0=v at hs hv ⊢
 clear hsv hs0 hv0
 subst e1 e2;intro π a w next Q R hk hf hd hD hn;obtain⟨y1,y2,hy,Y9,hr2⟩:=axy (KL ha R);have hy:=aXv hy;obtain⟨cs,er⟩:=afS (P:=P) a w ho hc
 have key:∀(w':World) (g':Gt),(execOp a.eval o).run P w=.ok (.value (.int .i64 ((m.val:Nat):Int))) w'->Rel X D π g' a w'->
   cI [Up.c b q v] g=g'->o.wp P a w next Q:=by
  intro w' g' oB R' hg;refine Qb oB (hn _ _ π (Ext.refl _) (λb h=>.inl h) ?_);rw[LH _ _ _ _ (by simp),hg];exact R'.dst hd rfl
 by_cases hm:m.val=0
 .have hv0:af.size v=0:=by rw[hs,hm,Ss]
  have hg:cI [Up.c b q v] g=g:=by
   show(Up.c b q v).iw g=g;simp only[Up.iw]
   have:(λb' j=>if b'=b/\q.val<=j/\j<q.val+af.size v then af.get v (j-q.val) else g.c b' j)=g.c:=by
    funext b' j;rw[if_neg (by omega)]
   rw[this]
  have hvv:∀{b q n z own} {y:Value},CV.rel π (.sl b q n z own) y->∃ad cap,y=.slice ad n.val cap:=λhr=>by
   obtain⟨_,_,_,_,_,_,_,⟨h,y,rfl⟩| ⟨cap,_,rfl,_⟩⟩:=hr
   .exact⟨_,_,by rw[h]⟩
   .exact⟨_,_,rfl⟩
  obtain⟨ad1,c1,rfl⟩:=hvv Y9;obtain⟨ad2,c2,rfl⟩:=hvv hr2
  have hf0:(Builtin.firstCells z 0 (.slice ad2 n'.val c2)).run P w=.ok #[] w:=by
   cases ad2<;>simp[Builtin.firstCells,loadCells,loadCellsFrom]
  refine key w g ?_ R hg;rw[er,hy];rw[hmv] at hm
  have hc0:(Builtin.copy_ c.argTypes o.type #[.slice ad1 n.val c1,.slice ad2 n'.val c2]).run P w=.ok (goInt 0) w:=by
   cases ad1<;>simp[Builtin.copy_,hts,run_underlying hu,run_sizeOf h1,Builtin.lenOf,hm,hf0,storeCells]
  simp[builtin,hc0,hm,hmv,goInt]
 .have nd:n.val≠0/\n'.val≠0:=by
   rw[hmv] at hm;constructor<;>(intro e;apply hm;rw[e];simp[Nat.min_def])
  obtain⟨B,s,r1,e1,hb,hm1,_,⟨h,_⟩| ⟨c1,hc1,rfl,_⟩⟩:=Y9
  .exact absurd h nd.1
  obtain⟨B',s',r2,e1',fy,hm2,_,⟨h,_⟩| ⟨c2,hc2,rfl,_⟩⟩:=hr2
  .exact absurd h nd.2
  have l1:m.val*z<=n.val*z:=wC _ (by rw[hmv];exact Nat.min_le_right _ _);have l2:m.val*z<=n'.val*z:=wC _ (by rw[hmv];exact Nat.min_le_left _ _);obtain⟨_,xs,hxl,hxs,hxc⟩:=R.view uD hs hv fy (by omega);rw[hmv] at hxl;have hfc:=run_firstCells_some (P:=P) w z (Nat.min n'.val n.val) ⟨B',s'+q'.val,none⟩ n'.val c2 xs hxl (λj v hj=>by rw[nL];exact hxc j v hj);obtain⟨B0,s0,e0,QW,hle,k1,k2⟩:=R.hp.hp b _ hz;rw[hb] at QW;cases QW;rw[hmv] at l1 hs
  have hst:=run_storeCells_cells (P:=P) B (s+q.val) xs 0 w (λj hj=>(k1 _ (by omega) (by omega)).1) (λj hj=>(k1 _ (by omega) (by omega)).2) (λv hv=>by
   obtain⟨i,hi⟩:=axf.1 hv;obtain⟨c,_,hr⟩:=hxs.get' hi;exact CV.QV hr)
  have R':=R.set (o:=q) hz hb (by omega) hxs (hD (.c b q v) (by simp));refine key _ _ ?_ R' rfl;rw[er,hy];simp[builtin,Builtin.copy_,hts,run_underlying hu,run_sizeOf h1,Builtin.lenOf,hfc,hst,goInt,hmv]
end
end Go.Ab
namespace Go.Ab
variable [ax]
def hC (l:List (Option af))(b j:Nat):CV:=match(l[b]?).getD none with
 |some k=>if j<k.size then k.get j else .f .u
 |none=>.f .u
def hZ (l:List (Option af))(b:Nat):Option Nat:=((l[b]?).getD none).map af.size
def after:List af->List Ch->List (Option af)
 | [],_=>[]
 |b::bs,.nc::cs=>some b::after bs cs
 |_::bs,.set b::cs=>some b::after bs cs
 |_::bs,.kill::cs=>none::after bs cs
 |_::bs,[]=>none::after bs []
omit [ax] in
theorem nR:∀(h:List af) (cs:List Ch),(after h cs).length=h.length
 | [],_=>rfl
 |_::bs,.nc::cs=>by simp[after,nR bs cs]
 |_::bs,.set b::cs=>by simp[after,nR bs cs]
 |_::bs,.kill::cs=>by simp[after,nR bs cs]
 |_::bs,[]=>by simp[after,nR bs []]
def pz.heap (r:pz)(h:List af):List (Option af):=after h r.yo++r.news.map some
def Sy (cs:List Ch)(b:Nat):Prop:=cs[b]? ≠some .nc
def tV (π:Pi)(w0:World)(h:List af)(res:pz):Ending->World->Prop:=λe w'=>∃π' v,e=.returned v/\Ext π π'/\res.val.rel π' v/\sJ π' (hC (res.heap h)) (hZ (res.heap h)) w'/\cv w0 (De π h.length (Sy res.yo)) w'/\
   (∀b,π' b≠none->b<h.length+res.news.length)/\
   (∀b B s q e,h.length<=b->π' b=some (B,s,q,e)->B<w0.heap.size->∀i,s<=i->i<e->De π h.length (Sy res.yo) B i)
def Sound (P:Program)(f:FuncId)(F:E9):Prop:=
 ∀args h res,(F args h).eval=some res->∀(w:World) (π:Pi) (vs:Array Value),bl (AV.rel π) args vs.toList->sJ π (hC (h.map some)) (hZ (h.map some)) w->(∀b,π b≠none->b<h.length)->
  ((callFunc f vs).run P w=.ok (.enter f vs) w/\Calls P f vs w (tV π w h res))∨∃v,(callFunc f vs).run P w=.ok (.value v) w/\tV π w h res (.returned v) w
omit [ax] in
theorem T.aXx {t:T}{g:Gt}{r:pz}{l:List Fp}(h:aI t.rd g r l):t.eval=some r:=by
 induction t generalizing l with
 |leaf r=>cases h;rfl
 |fail=>cases h
 |test x a b iha ihb=>
  cases h with|test h=>
  cases x
  .exact ihb h
  .exact iha h
 |opt x k ih=>
  cases h with|opt hx h=>
  subst hx;exact ih _ h
def piL (π:Pi)(vs:List Vw):Pi:=λj=>match vs[j]? with
 |some v=>match π v.b with
  |some (B,s,_,e)=>some (B,s+v.o.val,v.n,if v.own then e else s+v.o.val+v.n)
  |none=>none
 |none=>none
def Oo (vs kM:List Vw):Prop:=∃t,kM=vs++t
omit [ax] in
theorem Oo.refl (vs:List Vw):Oo vs vs:=⟨[],by simp⟩
omit [ax] in
theorem Oo.trans {a b c:List Vw}(h:Oo a b)(k:Oo b c):Oo a c:=by
 obtain⟨t,rfl⟩:=h;obtain⟨u,rfl⟩:=k;exact⟨t++u,by simp⟩
omit [ax] in
theorem Oo.get {vs kM:List Vw}(h:Oo vs kM){j:Nat}{v:Vw}(hj:vs[j]? =some v):kM[j]? =some v:=by
 obtain⟨t,rfl⟩:=h;rw[Ua (mi.1 hj).1,hj]
omit [ax] in
theorem Oo.length {vs kM:List Vw}(h:Oo vs kM):vs.length<=kM.length:=by
 obtain⟨t,rfl⟩:=h;simp
omit [ax] in
theorem Oo.ext {π:Pi}{vs kM:List Vw}(h:Oo vs kM):Ext (piL π vs) (piL π kM):=by
 intro j p hp;unfold piL at hp ⊢;cases hj:vs[j]? with
 |none=>rw[hj] at hp;cases hp
 |some v=>rw[h.get hj];rw[hj] at hp;exact hp
def KM (π:Pi)(vs:List Vw):Prop:=
 (∀(i j:Nat) (v v':Vw),i≠j->vs[i]? =some v->vs[j]? =some v'->v.b=v'.b->(v.o.val+v.n<=v'.o.val∨v'.o.val+v'.n<=v.o.val)/\(v.own=false∨v'.own=false))/\
 ∀(i:Nat) (v:Vw),vs[i]? =some v->∃B s q e,π v.b=some (B,s,q,e)/\v.o.val+v.n<=q/\(v.own=true->v.o.val+v.n=q)
omit [ax] in
theorem KM.nil (π:Pi):KM π []:=⟨λi j v v' _ h=>by simp at h,λi v h=>by simp at h⟩
omit [ax] in
theorem ext_eq {o:cE}{cF:Sz}{z c n:Nat}(h:ext o cF z=some (c,n)):o.val=c/\cF.val*z=n:=by
 unfold ext at h;split at h
 .simp only[je,qU] at h;exact h
 .cases h
omit [ax] in
theorem aJ3 {b:Nat}{o:cE}{cF:Sz}{z:Nat}{vs:List Vw}(h:at9 b (ext o cF z) vs=true):∀v∈vs,v.b=b->(o.val+cF.val*z<=v.o.val∨v.o.val+v.n<=o.val):=λv hv hb=>by
 have:=axj.1 h v hv;rw[hb,Lv] at this;simp only[JP,Bool.false_or] at this;split at this
 .rename_i o1 n1 o2 n2 h1 h2
  obtain⟨e1,e2⟩:=ext_eq h1;obtain⟨e3,e4⟩:=ext_eq h2;simp only[afv,fC] at this;rw[e1,e2,e3,Vw.n,e4];exact this
 .cases this
omit [ax] in
theorem KM.snoc {π:Pi}{vs:List Vw}(h:KM π vs)(v:Vw)(ha:at9 v.b (ext v.o v.cF v.z) vs=true)(hb:∃B s q e,π v.b=some (B,s,q,e)/\v.o.val+v.n<=q/\(v.own=true->v.o.val+v.n=q))(pZ:v.own=true->∀v'∈vs,v'.b=v.b->v'.own=false):KM π (vs++[v]):=by
 have hap:=aJ3 ha
 have aCK:∀(i:Nat) (w:Vw),(vs++[v])[i]? =some w->(i<vs.length/\vs[i]? =some w)∨(i=vs.length/\w=v):=λi w hw=>by
  rcases px i vs.length with hi|hi
  .rw[Ua hi] at hw;exact .inl ⟨hi,hw⟩
  .rw[adn hi] at hw
   have:i-vs.length=0:=by
    have:=(mi.1 hw).1;simp at this;omega
   rw[this] at hw;exact .inr ⟨by omega,by simpa using hw.symm⟩
 refine⟨λi j x y hij hx hy hxy=> ?_,λi x hx=> ?_⟩
 .rcases aCK i x hx with⟨hi,hx'⟩| ⟨hi,rfl⟩
  .rcases aCK j y hy with⟨hj,hy'⟩| ⟨hj,rfl⟩
   .exact h.1 i j x y hij hx' hy' hxy
   .have hm:=List.mem_of_getElem? hx';refine⟨(hap x hm hxy).symm,?_⟩;cases hvo:y.own with
    |false=>exact .inr rfl
    |true=>exact .inl (pZ hvo x hm hxy)
  .rcases aCK j y hy with⟨hj,hy'⟩| ⟨hj,rfl⟩
   .have hm:=List.mem_of_getElem? hy';refine⟨hap y hm hxy.symm,?_⟩;cases hvo:x.own with
    |false=>exact .inl rfl
    |true=>exact .inr (pZ hvo y hm hxy.symm)
   .omega
 .rcases aCK i x hx with⟨hi,hx'⟩| ⟨hi,rfl⟩
  .exact h.2 i x hx'
  .exact hb
omit [ax] in
theorem ZD {b:Nat}{e:Option (Nat×Nat)}:∀{vs:List Vw} {i0 i d:Nat} {ow:Bool},abh b e vs i0=some (i,d,ow)->∃k v o n o' n',i=i0+k/\vs[k]? =some v/\v.b=b/\e=some (o,n)/\ext v.o v.cF v.z=some (o',n')/\o'<=o/\o+n<=o'+n'/\d=o-o'/\ow=v.own
 | [],_,_,_,_,h=>by simp[abh] at h
 |v::vs,i0,i,d,ow,h=>by
  have next:abh b e vs (i0+1)=some (i,d,ow)->∃k u o n o' n',i=i0+k/\(v::vs)[k]? =some u/\u.b=b/\e=some (o,n)/\ext u.o u.cF u.z=some (o',n')/\o'<=o/\o+n<=o'+n'/\d=o-o'/\ow=u.own:=λh=>by
   obtain⟨k,v',o,n,o',n',h1,h2,h3⟩:=ZD h;exact⟨k+1,v',o,n,o',n',by omega,by simpa using h2,h3⟩
  simp only[abh] at h;split at h
  .exact next h
  .rename_i hb
   rw[beq_iff] at hb;split at h
   .rename_i o n o' n' h1
    split at h
    .rename_i hc
     cases h;simp only[cx,fC] at hc;exact⟨0,v,o,n,o',n',rfl,rfl,hb,rfl,h1,hc.1,hc.2,rfl,rfl⟩
    .exact next h
   .exact next h
omit [ax] in
theorem yw {π:Pi}{vs:List Vw}{j:Nat}{v:Vw}(h:vs[j]? =some v){B s q e:Nat}(hb:π v.b=some (B,s,q,e)):piL π vs j=some (B,s+v.o.val,v.n,if v.own then e else s+v.o.val+v.n):=by
 unfold piL;rw[h];simp only[hb]
omit [ax] in
theorem axz (vs:List Vw)(v:Vw):(vs++[v])[vs.length]? =some v:=by simp
abbrev Loc {α:Type}(R:Pi->α->Value->Prop)(π:Pi)(vs:List Vw)(a':α)(kM:List Vw)(x:Value):Prop:=Oo vs kM/\(KM π vs->KM π kM/\R (piL π kM) a' x)
theorem aD9 {g:Gt}{π:Pi}{c c':CV}{x:Value}{vs kM:List Vw}{l:List Fp}(h:aI (aSs c vs) g (c',kM) l)(hx:c.rel π x):Loc CV.rel π vs c' kM x:=by
 cases c<;>simp only[aSs] at h
 case ptr b o n=>
  obtain⟨B,s,q,e,hp,hx,hm⟩:=hx;split at h
  .rename_i i d ow hf
   cases h;obtain⟨k,v,o1,n1,o2,n2,hk,hv,hb,h1,h2,h3,h4,h5,h6⟩:=ZD hf;obtain⟨e1,e2⟩:=ext_eq h1;obtain⟨e3,e4⟩:=ext_eq h2;refine⟨Oo.refl _,λok=>⟨ok,?_⟩⟩;rw[<-hb] at hp;rw[show i=k by omega];simp only[Sz.val,UM] at e2;refine⟨_,_,_,_,yw hv hp,?_,?_⟩
   .rw[hx,e1,e3];simp only[cE.val];congr 3;omega
   .show d+n<=v.n;unfold Vw.n;omega
  .obtain⟨_,⟨_,h1⟩,_,h⟩:=aI.bind' h;cases h;refine⟨⟨_,rfl⟩,λok=>⟨ok.snoc ⟨b,o,.l 1,n,false,false⟩ h1.cN ⟨B,s,q,e,hp,by simp only[Vw.n,Sz.val,UM];exact hm,λh=>by cases h⟩ (λh=>by cases h),?_⟩⟩;exact⟨_,_,_,_,yw (axz vs ⟨b,o,.l 1,n,false,false⟩) hp,by rw[hx];rfl,by simp[cE.val,Vw.n,Sz.val]⟩
 case cl f b o n=>
  obtain⟨B,s,q,e,hp,hx,hm⟩:=hx;split at h
  .rename_i i d ow hf
   cases h;obtain⟨k,v,o1,n1,o2,n2,hk,hv,hb,h1,h2,h3,h4,h5,h6⟩:=ZD hf;obtain⟨e1,e2⟩:=ext_eq h1;obtain⟨e3,e4⟩:=ext_eq h2;refine⟨Oo.refl _,λok=>⟨ok,?_⟩⟩;rw[<-hb] at hp;rw[show i=k by omega];simp only[Sz.val,UM] at e2;refine⟨_,_,_,_,yw hv hp,?_,?_⟩
   .rw[hx];exact ck (λt=>Value.func (.func f) #[] #[.pointer (some ⟨B,t,none⟩)]) (by rw[e1,e3];simp only[cE.val];omega)
   .show d+n<=v.n;unfold Vw.n;omega
  .obtain⟨_,⟨_,h1⟩,_,h⟩:=aI.bind' h;cases h;refine⟨⟨_,rfl⟩,λok=>⟨ok.snoc ⟨b,o,.l 1,n,false,false⟩ h1.cN ⟨B,s,q,e,hp,by simp only[Vw.n,Sz.val,UM];exact hm,λh=>by cases h⟩ (λh=>by cases h),?_⟩⟩;exact⟨_,_,_,_,yw (axz vs ⟨b,o,.l 1,n,false,false⟩) hp,by rw[hx];rfl,by simp[cE.val,Vw.n,Sz.val]⟩
 case sl b o len z own=>
  obtain⟨B,s,q,e,hp,hm,pZ,hx⟩:=hx;split at h
  .rename_i i d ow hf
   cases h;obtain⟨k,v,o1,n1,o2,n2,hk,hv,hb,h1,h2,h3,h4,h5,h6⟩:=ZD hf;obtain⟨e1,e2⟩:=ext_eq h1;obtain⟨e3,e4⟩:=ext_eq h2;refine⟨Oo.refl _,λok=>⟨ok,?_⟩⟩;rw[<-hb] at hp;rw[show i=k by omega];obtain⟨_,_,_,_,uP,hv1,hv2⟩:=ok.2 k v hv;rw[hp] at uP;cases uP;have hvn:v.n=n2:=e4;refine⟨_,_,_,_,yw hv hp,?_,λho=> ?_,?_⟩
   .show d+len.val*z<=v.n;omega
   .simp only[cx] at ho;rw[h6] at ho;have a1:=pZ ho.1;have a2:=hv2 ho.2;show d+len.val*z=v.n;omega
   .refine hx.imp id λ⟨cap,rS,hx,hc⟩=>⟨cap,rS,?_,λho=> ?_⟩
    .show x=Value.slice (some ⟨B,s+v.o.val+d,none⟩) len.val cap;rw[hx,show s+o.val=s+v.o.val+d by omega]
    .simp only[cx] at ho;have a1:=hc ho.1;rw[h6] at ho;rw[if_pos ho.2];show s+v.o.val+d+cap*z<=e;omega
  .obtain⟨_,⟨_,h1⟩,_,h⟩:=aI.bind' h;cases h;generalize hu:(own&&vs.all λv=> !Nat.beq v.b b|| !v.own)=u
   have hu1:u=true->own=true/\∀v'∈vs,v'.b=b->v'.own=false:=λh=>by
    rw[<-hu] at h;simp only[cx] at h;refine⟨h.1,λv' hv' fy=> ?_⟩;have:=axj.1 h.2 v' hv';rw[fy,Lv] at this;simpa using this
   refine⟨⟨_,rfl⟩,λok=>⟨ok.snoc ⟨b,o,len,z,true,u⟩ h1.cN ⟨B,s,q,e,hp,hm,λho=>pZ (hu1 ho).1⟩ (λho=>(hu1 ho).2),?_⟩⟩;refine⟨_,_,_,_,yw (axz vs ⟨b,o,len,z,true,u⟩) hp,by simp[cE.val,Vw.n,Sz.val],λ_=>by simp[cE.val,Vw.n,Sz.val],?_⟩;refine hx.imp id λ⟨cap,rS,hx,hc⟩=>⟨cap,rS,by rw[hx];rfl,λho=> ?_⟩
   rw[if_pos ho];have:=hc (hu1 ho).1;show s+o.val+0+cap*z<=e;omega
 all_goals (cases h;exact⟨Oo.refl _,λok=>⟨ok,hx⟩⟩)
omit [ax] in
theorem asE {α:Type}{R:Pi->α->Value->Prop}(mono:∀{π π':Pi},Ext π π'->∀a x,R π a x->R π' a x){f:α->List Vw->Rd (α×List Vw)}{ff:List α->List Vw->Rd (List α×List Vw)}(hff:∀vs,ff [] vs=.ret ([],vs))(a0E:∀a l vs,ff (a::l) vs=(f a vs).bind λx=>(ff l x.2).bind λy=>.ret (x.1::y.1,y.2))
  {g:Gt}{π:Pi}(hf:∀{a a' vs kM l x},aI (f a vs) g (a',kM) l->R π a x->Loc R π vs a' kM x):∀{as as':List α} {vs kM:List Vw} {l:List Fp} {xs:List Value},aI (ff as vs) g (as',kM) l->bl (R π) as xs->Oo vs kM/\(KM π vs->KM π kM/\bl (R (piL π kM)) as' xs)
 | [],as',vs,kM,l,xs,h,hx=>by
  rw[hff] at h;cases h;exact⟨Oo.refl _,λok=>⟨ok,by cases xs with|nil=>trivial|cons=>exact hx.elim⟩⟩
 |a::as,as',vs,kM,l,[],h,hx=>hx.elim
 |a::as,as',vs,kM,l,x::xs,h,⟨hx,hxs⟩=>by
  rw[a0E] at h;obtain⟨p,⟨_,h1⟩,_,h⟩:=aI.bind' h;obtain⟨y,⟨_,h2⟩,_,h⟩:=aI.bind' h;cases h;obtain⟨L1,L2⟩:=hf (a':=p.1) (kM:=p.2) h1 hx;obtain⟨p1,p2⟩:=asE mono hff a0E hf (as:=as) (as':=y.1) (kM:=y.2) h2 hxs;refine⟨L1.trans p1,λok=> ?_⟩;obtain⟨ok1,r1⟩:=L2 ok;obtain⟨ok2,r2⟩:=p2 ok1;exact⟨ok2,mono p1.ext _ _ r1,r2⟩
theorem afV {g:Gt}{π:Pi}:∀{b b':af} {vs kM:List Vw} {l:List Fp} {f:Nat->Value},aI (aMI b vs) g (b',kM) l->(∀j,j<af.size b->(af.get b j).rel π (f j))->
  Oo vs kM/\(KM π vs->KM π kM)/\af.size b'=af.size b/\(KM π vs->∀j,j<af.size b->(af.get b' j).rel (piL π kM) (f j))
 | [],b',vs,kM,l,f,h,_=>by
  cases h;exact⟨Oo.refl _,id,rfl,λ_ j hj=>by rw[af.mb] at hj;omega⟩
 |.c v::r,b',vs,kM,l,f,h,hx=>by
  obtain⟨p,⟨_,h1⟩,_,h⟩:=aI.bind' h;obtain⟨y,⟨_,h2⟩,_,h⟩:=aI.bind' h;cases h;obtain⟨L1,L2⟩:=aD9 (c':=p.1) (kM:=p.2) h1 (hx 0 (by rw[af.size_cons,Sg.kW];omega))
  obtain⟨p1,p2,p3,p4⟩:=afV (b:=r) (b':=y.1) (kM:=y.2) (f:=λj=>f (j+1)) h2 (λj hj=>by
   have:=hx (j+1) (by rw[af.size_cons,Sg.kW];omega);rwa [<-af.kX (l:=r) (j':=j) (by omega) (by omega)] at this)
  refine⟨L1.trans p1,λok=>p2 (L2 ok).1,by rw[af.size_cons,af.size_cons,p3];rfl,λok j hj=> ?_⟩;obtain⟨ok1,r1⟩:=L2 ok;cases j with
  |zero=>exact CV.dP p1.ext _ _ r1
  |succ j=>
   rw[<-af.kX (l:=y.1) (j':=j) (by omega) (by omega)];exact p4 ok1 j (by rw[af.size_cons,Sg.kW] at hj;omega)
 |.a n cols::r,b',vs,kM,l,f,h,hx=>by
  obtain⟨y,⟨_,h2⟩,_,h⟩:=aI.bind' h;cases h
  obtain⟨p1,p2,p3,p4⟩:=afV (b:=r) (b':=y.1) (kM:=y.2) (f:=λj=>f (j+(Sg.a n cols).size)) h2 (λj hj=>by
   have:=hx (j+(Sg.a n cols).size) (by rw[af.size_cons];omega);rwa [af.lH (by omega),Nat.add_sub_cancel] at this)
  refine⟨p1,p2,by rw[af.size_cons,af.size_cons,p3],λok j hj=> ?_⟩;rw[af.size_cons] at hj;by_cases mj:j<(Sg.a n cols).size
  .have:=hx j (by rw[af.size_cons];omega);rw[af.dX mj,Sg.py] at this;rw[af.dX mj,Sg.py];obtain⟨v,hv⟩:=aCJ cols j;rw[hv] at this ⊢;exact this
  .rw[af.lH (by omega)];have:=p4 ok (j-(Sg.a n cols).size) (by omega);rwa [Nat.sub_add_cancel (by omega)] at this
theorem aEa {g:Gt}{π:Pi}{r r':RV}{x:Value}{vs kM:List Vw}{l:List Fp}(h:aI (aSt r vs) g (r',kM) l)(hx:r.rel π x):Loc RV.rel π vs r' kM x:=by
 cases r with
 |c c=>
  obtain⟨p,⟨_,h1⟩,_,h⟩:=aI.bind' h;cases h;exact aD9 (c':=p.1) (kM:=p.2) h1 hx
 |agg cs=>
  obtain⟨p,⟨_,h1⟩,_,h⟩:=aI.bind' h;cases h;obtain⟨arr,rfl,hr⟩:=hx;obtain⟨l1,l2⟩:=jI hr
  obtain⟨p1,p2,p3,p4⟩:=afV (b':=p.1) (kM:=p.2) (f:=λj=>arr.toList.getD j undef) h1 (λj hj=>by
   obtain⟨x,hx,hr⟩:=l2 j hj;simp only[List.getD,hx,Lt];exact hr)
  refine⟨p1,λok=>⟨p2 ok,arr,rfl,xZ (by rw[l1,p3]) λj hj=> ?_⟩⟩;obtain⟨x,hx,_⟩:=l2 j (by omega);have:=p4 ok j (by omega);simp only[List.getD,hx,Lt] at this;exact⟨x,hx,this⟩
theorem azl {g:Gt}{π:Pi}{cs Su:List RV}{xs:List Value}{vs kM:List Vw}{l:List Fp}(h:aI (aDD cs vs) g (Su,kM) l)(hx:bl (RV.rel π) cs xs):Oo vs kM/\(KM π vs->KM π kM/\bl (RV.rel (piL π kM)) Su xs):=
 asE (R:=RV.rel) (λh a x r=>RV.dP h a x r) (f:=aSt) (ff:=aDD) (λ_=>rfl) (λ_ _ _=>rfl) (λh hx=>aEa h hx) h hx
theorem aQV {g:Gt}{π:Pi}{r r':AV}{x:Value}{vs kM:List Vw}{l:List Fp}(h:aI (aXd r vs) g (r',kM) l)(hx:r.rel π x):Loc AV.rel π vs r' kM x:=by
 cases r with
 |r c=>
  obtain⟨p,⟨_,h1⟩,_,h⟩:=aI.bind' h;cases h;exact aEa (r':=p.1) (kM:=p.2) h1 hx
 |tup cs=>
  obtain⟨p,⟨_,h1⟩,_,h⟩:=aI.bind' h;cases h;obtain⟨arr,rfl,hr⟩:=hx;obtain⟨p1,p2⟩:=azl (Su:=p.1) (kM:=p.2) h1 hr;exact⟨p1,λok=>⟨(p2 ok).1,arr,rfl,(p2 ok).2⟩⟩
 |fn f cs=>
  obtain⟨p,⟨_,h1⟩,_,h⟩:=aI.bind' h;cases h;obtain⟨arr,rfl,hr⟩:=hx;obtain⟨p1,p2⟩:=azl (Su:=p.1) (kM:=p.2) h1 hr;exact⟨p1,λok=>⟨(p2 ok).1,arr,rfl,(p2 ok).2⟩⟩
 |VH=>cases h;exact⟨Oo.refl _,λok=>⟨ok,trivial⟩⟩
theorem aNd {g:Gt}{π:Pi}{cs Su:List AV}{xs:List Value}{vs kM:List Vw}{l:List Fp}(h:aI (aJT cs vs) g (Su,kM) l)(hx:bl (AV.rel π) cs xs):Oo vs kM/\(KM π vs->KM π kM/\bl (AV.rel (piL π kM)) Su xs):=
 asE (R:=AV.rel) (λh a x r=>AV.dP h a x r) (f:=aXd) (ff:=aJT) (λ_=>rfl) (λ_ _ _=>rfl) (λh hx=>aQV h hx) h hx
structure aEb (π:Pi)(g:Gt)(w:World)(vs:List Vw)(v:Vw)(k:af):Prop where
 live:∃q,g.z v.b=some q
 size:af.size k=v.n
 rel:∀B s q e,π v.b=some (B,s,q,e)->∀j,j<v.n->∃x,cl w B (s+v.o.val+j)=some x/\(af.get k j).rel (piL π vs) x
theorem aEb.pre {π:Pi}{g:Gt}{w:World}{vs kM:List Vw}{v:Vw}{k:af}(h:aEb π g w vs v k)(p:Oo vs kM):aEb π g w kM v k:=
 ⟨h.live,h.size,λB s q e hb j hj=>let⟨x,hx,hr⟩:=h.rel B s q e hb j hj;⟨x,hx,CV.dP p.ext _ _ hr⟩⟩
omit [ax] in
theorem aEc {α:Type}{l:List α}{x y:α}{j:Nat}(h:(l++[x])[j]? =some y):l[j]? =some y∨(j=l.length/\y=x):=by
 rcases px j l.length with hj|hj
 .rw[Ua hj] at h;exact .inl h
 .rw[adn hj] at h
  have:j-l.length=0:=by
   have:=(mi.1 h).1;simp at this;omega
  rw[this] at h;exact .inr ⟨by omega,by simpa using h.symm⟩
theorem aEd {π:Pi}{g:Gt}{w:World}(H:sJ π g.c g.z w):∀{fuel i:Nat} {vs kM:List Vw} {acc lh:List af} {l:List Fp},aI (aSu fuel i vs acc) g (lh,kM) l->acc.length=i->i<=vs.length->KM π vs->(∀(j:Nat) v k,vs[j]? =some v->acc[j]? =some k->aEb π g w vs v k)->
  Oo vs kM/\KM π kM/\lh.length=kM.length/\∀(j:Nat) v k,kM[j]? =some v->lh[j]? =some k->aEb π g w kM v k
 |0,_,_,_,_,_,_,h,_,_,_,_=>by cases h
 |fuel+1,i,vs,kM,acc,lh,l,h,hi,hi2,ok,aNe=>by
  simp only[aSu] at h;split at h
  .rename_i hn
   cases h;have:vs.length<=i:=List.getElem?_eq_none_iff.1 hn;exact⟨Oo.refl _,ok,by omega,aNe⟩
  .rename_i v hv
   have om:i<vs.length:=(mi.1 hv).1;cases h with|vw q k hz hs hk h=>
   obtain⟨x,⟨_,h1⟩,_,h⟩:=aI.bind' h;obtain⟨B,s,e,hb,hle,_,hc⟩:=H.hp _ _ hz;obtain⟨_,_,_,_,fy,hvb,_⟩:=ok.2 i v hv;rw[hb] at fy;cases fy;have hvn:v.cF.val*v.z=v.n:=rfl;rw[hvn] at hs hk;have hk:=hk hvb;generalize hkk:aQG v.sl v.z k=k2 at h1
   have hk2:af.size k2=af.size k/\∀j,j<af.size k->af.get k2 j=af.get k j:=by
    rw[<-hkk];unfold aQG;cases v.sl
    .exact⟨rfl,λ_ _=>rfl⟩
    .obtain⟨t1,t2⟩:=Zy v.z k;obtain⟨t3,t4⟩:=axs (asq v.z k);exact⟨t3.trans t1,λj hj=>(t4 j).trans (t2 j hj)⟩
   have cell:∀j,j<v.n->∃y,cl w B (s+v.o.val+j)=some y/\(af.get k2 j).rel π y:=λj hj=>by
    obtain⟨y,hy,hr⟩:=hc (v.o.val+j) (by omega);rw[<-hk j hj,<-hk2.2 j (by omega)] at hr;exact⟨y,by rw[show s+v.o.val+j=s+(v.o.val+j) by omega];exact hy,hr⟩
   obtain⟨p1,p2,p3,p4⟩:=afV (b':=x.1) (kM:=x.2) (f:=λj=>(cl w B (s+v.o.val+j)).getD undef) h1 (λj hj=>by
    obtain⟨y,hy,hr⟩:=cell j (by omega);rw[hy];exact hr)
   have hx2:=p1.length
   obtain⟨q1,q2,q3,q4⟩:=aEd H h (by simp[hi]) (by omega) (p2 ok) (λj u k' hu Lh=>by
    rcases aEc Lh with Lh| ⟨hj,rfl⟩
    .have hj:j<acc.length:=(mi.1 Lh).1
     have hu':vs[j]? =some u:=by
      have:vs[j]? =some (vs[j]'(by omega)):=lq _;rw[this];have:=p1.get this;rw[hu] at this;exact this.symm
     exact(aNe j u k' hu' Lh).pre p1
    .have huv:u=v:=by
      rw[hj,hi] at hu;have:=p1.get hv;rw[hu] at this;exact Od this
     subst huv;refine⟨⟨q,hz⟩,by rw[p3,hk2.1,hs],λB' s' q' e' fy j hj'=> ?_⟩;rw[hb] at fy;cases fy;obtain⟨y,hy,_⟩:=cell j hj';have:=p4 ok j (by omega);rw[hy] at this;exact⟨y,hy,this⟩)
   exact⟨p1.trans q1,q2,q3,q4⟩
end Go.Ab
namespace Go.Ab
variable [ax]
omit [ax] in
theorem Qe (lh:List af)(j:Nat):hZ (lh.map some) j=(lh[j]?).map af.size:=by
 simp only[hZ,BH];cases lh[j]? <;>rfl
omit [ax] in
theorem aCL {lh:List af}{j i:Nat}{k:af}(h:lh[j]? =some k)(hi:i<k.size):hC (lh.map some) j i=k.get i:=by
 simp[hC,BH,h,hi]
theorem sJ.local {π:Pi}{g:Gt}{w:World}(H:sJ π g.c g.z w){vs:List Vw}{lh:List af}(ok:KM π vs)(hl:lh.length=vs.length)(hv:∀(j:Nat) v k,vs[j]? =some v->lh[j]? =some k->aEb π g w vs v k):
  sJ (piL π vs) (hC (lh.map some)) (hZ (lh.map some)) w:=by
 have get:∀j n,hZ (lh.map some) j=some n->∃v k q B s e,vs[j]? =some v/\lh[j]? =some k/\af.size k=n/\aEb π g w vs v k/\g.z v.b=some q/\v.o.val+v.n<=q/\af.size k=v.n/\π v.b=some (B,s,q,e)/\s+q<=e/\(v.own=true->v.o.val+v.n=q):=λj n hz=>by
  rw[Qe] at hz;cases hk:lh[j]? with
  |none=>rw[hk] at hz;cases hz
  |some k=>
   rw[hk] at hz;have hj:j<vs.length:=by rw[<-hl];exact(mi.1 hk).1
   have hvj:vs[j]? =some (vs[j]'hj):=lq _;have V:=hv j _ k hvj hk;obtain⟨q,hq⟩:=V.live;obtain⟨B,s,e,hb,Bm,_⟩:=H.hp _ _ hq;obtain⟨_,_,_,_,fy,hle,how⟩:=ok.2 j _ hvj;rw[hb] at fy;cases fy;exact⟨_,k,q,B,s,e,hvj,rfl,by simpa using hz,V,hq,hle,V.size,hb,Bm,how⟩
 refine⟨H.am,λj B s q e hz hp Bm=> ?_,λj n hz=> ?_,λj j' B s q e s' q' e' nd hz uD hp uP i i1 i2 i3 i4=> ?_⟩
 .cases hh:hZ (lh.map some) j with
  |none=>exact absurd hh hz
  |some n=>
   obtain⟨v,k,q0,B1,s1,e1,hvj,hk,hn,V,hq,hle,yp,hb,a5r,ho⟩:=get j n hh;rw[yw hvj hb] at hp;simp only[je,qU] at hp;obtain⟨rfl,hs1,_,he1⟩:=hp;rw[<-hs1,<-he1] at Bm;refine H.lb v.b _ s1 q0 e1 (by simp[hq]) hb ?_;split at Bm<;>omega
 .obtain⟨v,k,q,B,s,e,hvj,hk,hn,V,hq,hle,yp,hb,Bm,ho⟩:=get j n hz;obtain⟨_,_,_,fy,_,k1,k2⟩:=H.hp _ _ hq;rw[hb] at fy;cases fy;have hp:=yw hvj hb;rw[<-yp,hn] at hp;refine⟨B,s+v.o.val,_,hp,?_,λi i1 i2=> ?_,λi hi=> ?_⟩
  .split
   .rename_i h;have:=ho h;omega
   .omega
  .refine k1 i (by omega) ?_;split at i2<;>omega
  .obtain⟨y,hy,hr⟩:=V.rel B s q e hb i (by omega);refine⟨y,hy,?_⟩;rw[aCL hk (by omega)];exact hr
 .cases hh:hZ (lh.map some) j with
  |none=>exact hz hh
  |some n=>
  cases hh':hZ (lh.map some) j' with
  |none=>exact uD hh'
  |some n'=>
  obtain⟨v,k,q0,B1,s1,e1,hvj,hk,hn,V,hq,hle,yp,hb,Bm,ho⟩:=get j n hh;obtain⟨v',k',q0',B2,s2,e2,a0F,Lh,hn',V',hq',a5s,a5t,fy,a5u,ho'⟩:=get j' n' hh';rw[yw hvj hb] at hp;rw[yw a0F fy] at uP;simp only[je,qU] at hp uP;obtain⟨rfl,hs1,_,he1⟩:=hp;obtain⟨rfl,VN,_,he2⟩:=uP;rw[<-hs1] at i1;rw[<-he1] at i2;rw[<-VN] at i3;rw[<-he2] at i4;by_cases hbb:v.b=v'.b
  .obtain⟨aXy,pZ⟩:=ok.1 j j' v v' nd hvj a0F hbb;rw[hbb] at hb hq;rw[hb] at fy;cases fy;cases h1:v.own<;>cases h2:v'.own<;>simp only[h1,h2,me,gB,xE] at i2 i4
   .omega
   .have:=ho' h2;omega
   .have:=ho h1;omega
   .rcases pZ with h|h
    .rw[h1] at h;cases h
    .rw[h2] at h;cases h
  .refine H.dj v.b v'.b _ s1 q0 e1 s2 q0' e2 hbb (by simp[hq]) (by simp[hq']) hb fy i (by omega) ?_ (by omega) ?_
   .split at i2<;>omega
   .split at i4<;>omega
def piB (π πL:Pi)(n aJ m:Nat):Pi:=λb=>if aJ<=b/\b<aJ+m then πL (n+(b-aJ)) else π b
omit [ax] in
theorem VR {π πL:Pi}{n aJ m k:Nat}(h:k<m):piB π πL n aJ m (aJ+k)=πL (n+k):=by
 unfold piB;rw[if_pos (by omega),show aJ+k-aJ=k by omega]
omit [ax] in
theorem VS {π πL:Pi}{n aJ m b:Nat}(h:¬(aJ<=b/\b<aJ+m)):piB π πL n aJ m b=π b:=by
 unfold piB;rw[if_neg h]
structure Bck (π πL:Pi)(vs:List Vw)(aJ m:Nat):Prop where
 ext:Ext (piL π vs) πL
 dom:∀b,πL b≠none->b<vs.length+m
 fresh:∀b,aJ<=b->b<aJ+m->π b=none
 live:∀(j:Nat) v,vs[j]? =some v->∃B s q e,π v.b=some (B,s,q,e)/\v.o.val+v.n<=q/\(v.own=true->v.o.val+v.n=q)
omit [ax] in
theorem Bck.xF {π πL:Pi}{vs:List Vw}{aJ m:Nat}(K:Bck π πL vs aJ m){b:Nat}{p:Nat×Nat×Nat×Nat}(h:π b=some p):piB π πL vs.length aJ m b=some p:=by
 rw[VS,h];intro hc;rw[K.fresh b hc.1 hc.2] at h;cases h
omit [ax] in
theorem Bck.ext' {π πL:Pi}{vs:List Vw}{aJ m:Nat}(K:Bck π πL vs aJ m):Ext π (piB π πL vs.length aJ m):=λ_ _ h=>K.xF h
omit [ax] in
theorem Bck.at {π πL:Pi}{vs:List Vw}{aJ m:Nat}(K:Bck π πL vs aJ m){j:Nat}{B s q e:Nat}(h:πL j=some (B,s,q,e)):
  (∃v s0 q0 e0,vs[j]? =some v/\π v.b=some (B,s0,q0,e0)/\s=s0+v.o.val/\q=v.n/\(e=if v.own then e0 else s0+v.o.val+v.n)/\v.o.val+v.n<=q0/\(v.own=true->v.o.val+v.n=q0))∨(vs[j]? =none/\vs.length<=j/\j-vs.length<m/\piB π πL vs.length aJ m (aJ+(j-vs.length))=some (B,s,q,e)):=by
 have hd:=K.dom j (by simp[h]);cases hv:vs[j]? with
 |some v=>
  obtain⟨B0,s0,q0,e0,hp,hle,how⟩:=K.live j v hv;have:=K.ext _ _ (yw hv hp);rw[h] at this;simp only[je,qU] at this;obtain⟨rfl,h1,h2,h3⟩:=this;exact .inl ⟨v,s0,q0,e0,rfl,hp,h1,h2,h3,hle,how⟩
 |none=>
  have hj:vs.length<=j:=List.getElem?_eq_none_iff.1 hv;refine .inr ⟨rfl,hj,by omega,?_⟩;rw[VR (by omega),show vs.length+(j-vs.length)=j by omega,h]
omit [ax] in
theorem cE.KN (a b:cE):(a.plus b).val=a.val+b.val:=by
 cases a<;>cases b<;>simp only[cE.plus,cE.val]<;>first|omega|skip
 rename_i c i z d j y
 cases hz:Nat.beq z y with
 |true=>
  have:=nQ hz;subst this;simp only[cE.val,qx];omega
 |false=>simp only[cE.val];omega
theorem Bck.aSG {π πL:Pi}{vs:List Vw}{aJ m:Nat}(K:Bck π πL vs aJ m)(c:CV)(x:Value)(h:c.rel πL x):(Lw vs aJ c).rel (piB π πL vs.length aJ m) x:=by
 cases c<;>simp only[Lw]
 case ptr j d n=>
  obtain⟨B,s,q,e,hp,hx,hm⟩:=h;rcases K.at hp with⟨v,s0,q0,e0,hv,hb,hs,hq,he,hle,how⟩| ⟨hv,hj,hm2,hb⟩
  .rw[hv];refine⟨B,s0,q0,e0,K.xF hb,?_,by rw[cE.KN];omega⟩;rw[hx,cE.KN];congr 3;omega
  .rw[hv];exact⟨B,s,q,e,hb,hx,hm⟩
 case cl f j d n=>
  obtain⟨B,s,q,e,hp,hx,hm⟩:=h;rcases K.at hp with⟨v,s0,q0,e0,hv,hb,hs,hq,he,hle,how⟩| ⟨hv,hj,hm2,hb⟩
  .rw[hv];refine⟨B,s0,q0,e0,K.xF hb,?_,by rw[cE.KN];omega⟩;rw[hx,cE.KN];exact ck (λt=>Value.func (.func f) #[] #[.pointer (some ⟨B,t,none⟩)]) (by omega)
  .rw[hv];exact⟨B,s,q,e,hb,hx,hm⟩
 case sl j d len z own=>
  obtain⟨B,s,q,e,hp,hm,pZ,hx⟩:=h;rcases K.at hp with⟨v,s0,q0,e0,hv,hb,hs,hq,he,hle,how⟩| ⟨hv,hj,hm2,hb⟩
  .rw[hv];refine⟨B,s0,q0,e0,K.xF hb,by rw[cE.KN];omega,λho=> ?_,hx.imp id λ⟨cap,rS,hx,hc⟩=>⟨cap,rS,?_,λho=> ?_⟩⟩
   .simp only[cx] at ho;have a1:=pZ ho.1;have a2:=how ho.2;rw[cE.KN];omega
   .rw[hx,cE.KN];congr 3;omega
   .simp only[cx] at ho;have:=hc ho.1;rw[if_pos ho.2] at he;rw[cE.KN];omega
  .rw[hv];exact⟨B,s,q,e,hb,hm,pZ,hx⟩
 all_goals exact h
omit [ax] in
theorem aJ4 (vs:List Vw)(aJ:Nat)(x:FV):Lw vs aJ (.f x)=.f x:=rfl
omit [ax] in
theorem ZE {α β γ:Type}{R:α->γ->Prop}{R':β->γ->Prop}{f:α->β}(hf:∀a c,R a c->R' (f a) c):∀{l:List α} {m:List γ},bl R l m->bl R' (l.map f) m
 | [],[],_=>trivial
 |_::_,_::_,⟨a,b⟩=>⟨hf _ _ a,ZE hf b⟩
 | [],_::_,h=>h.elim
 |_::_,[],h=>h.elim
theorem Bck.aXz {π πL:Pi}{vs:List Vw}{aJ m:Nat}(K:Bck π πL vs aJ m)(c:RV)(x:Value)(h:c.rel πL x):(aSv vs aJ c).rel (piB π πL vs.length aJ m) x:=by
 cases c with
 |c c=>exact K.aSG c x h
 |agg cs=>
  obtain⟨a,hx,ha⟩:=h;obtain⟨l1,l2⟩:=jI ha;refine⟨a,hx,xZ (by rw[JR,l1]) λj hj=> ?_⟩;rw[JR] at hj;obtain⟨x,hx,hr⟩:=l2 j hj;exact⟨x,hx,by rw[axt (aJ4 vs aJ) _ _ hj];exact K.aSG _ _ hr⟩
theorem Bck.a26 {π πL:Pi}{vs:List Vw}{aJ m:Nat}(K:Bck π πL vs aJ m)(c:AV)(x:Value)(h:c.rel πL x):(aMJ vs aJ c).rel (piB π πL vs.length aJ m) x:=by
 cases c with
 |r r=>exact K.aXz r x h
 |tup cs=>obtain⟨a,hx,ha⟩:=h;exact⟨a,hx,ZE K.aXz ha⟩
 |fn f cs=>obtain⟨a,hx,ha⟩:=h;exact⟨a,hx,ZE K.aXz ha⟩
 |VH=>trivial
omit [ax] in
theorem ZF {all:List Vw}{aJ:Nat}:∀{vs:List Vw} {cs:List Ch} {us:List Up},AH all aJ vs cs=some (true,us)->
  (∀(i j:Nat) (v v':Vw),i≠j->vs[i]? =some v->vs[j]? =some v'->v.b=v'.b->(v.o.val+v.n<=v'.o.val∨v'.o.val+v'.n<=v.o.val))->
  vs.length=cs.length/\(∀(j:Nat) v b,vs[j]? =some v->cs[j]? =some (.set b)->af.size b=v.n)/\(∀u∈us,∃(j:Nat) (v:Vw) (b:af),vs[j]? =some v/\cs[j]? =some (.set b)/\u=.c v.b v.o (KJ (Lw all aJ) b))/\
  (∀g,(cI us g).z=g.z/\(cI us g).t=g.t)/\
  ∀g (j:Nat) v b i,vs[j]? =some v->cs[j]? =some (.set b)->v.o.val<=i->i<v.o.val+v.n->(cI us g).c v.b i=Lw all aJ (af.get b (i-v.o.val))
 | [],[],us,h,_=>by
  simp[AH] at h;subst h
  exact⟨rfl,λj v b h=>by simp at h,λu h=>by simp at h,λg=>⟨rfl,rfl⟩,λg j v b i h=>by simp at h⟩
 |v0::vs,.nc::cs,us,h,hd=>by
  simp only[AH] at h;obtain⟨h1,h2,h3,h4,h5⟩:=ZF h (λi j v v' hij hi hj=>hd (i+1) (j+1) v v' (by omega) (by simpa using hi) (by simpa using hj));refine⟨by simp[h1],λj v b hv hc=> ?_,λu hu=> ?_,h4,λg j v b i hv hc=> ?_⟩
  .cases j with
   |zero=>simp at hc
   |succ j=>exact h2 j v b (by simpa using hv) (by simpa using hc)
  .obtain⟨j,v,b,e1,e2,e3⟩:=h3 u hu;exact⟨j+1,v,b,by simpa using e1,by simpa using e2,e3⟩
  .cases j with
   |zero=>simp at hc
   |succ j=>exact h5 g j v b i (by simpa using hv) (by simpa using hc)
 |v0::vs,.kill::cs,us,h,hd=>by
  simp only[AH] at h;obtain⟨h1,h2,h3,h4,h5⟩:=ZF h (λi j v v' hij hi hj=>hd (i+1) (j+1) v v' (by omega) (by simpa using hi) (by simpa using hj));refine⟨by simp[h1],λj v b hv hc=> ?_,λu hu=> ?_,h4,λg j v b i hv hc=> ?_⟩
  .cases j with
   |zero=>simp at hc
   |succ j=>exact h2 j v b (by simpa using hv) (by simpa using hc)
  .obtain⟨j,v,b,e1,e2,e3⟩:=h3 u hu;exact⟨j+1,v,b,by simpa using e1,by simpa using e2,e3⟩
  .cases j with
   |zero=>simp at hc
   |succ j=>exact h5 g j v b i (by simpa using hv) (by simpa using hc)
 |v0::vs,.set b0::cs,us,h,hd=>by
  simp only[AH] at h;split at h
  .rename_i p hu
   simp only[je,qU,cx,beq_iff] at h;obtain⟨⟨hg,yp⟩,rfl⟩:=h;obtain⟨p1,us'⟩:=p;simp only at hg;subst hg;obtain⟨h1,h2,h3,h4,h5⟩:=ZF hu (λi j v v' hij hi hj=>hd (i+1) (j+1) v v' (by omega) (by simpa using hi) (by simpa using hj));have hlen:af.size (KJ (Lw all aJ) b0)=v0.n:=by rw[JR,yp]
   refine⟨by simp[h1],λj v b hv hc=> ?_,λu hu=> ?_,λg=>⟨(h4 _).1,(h4 _).2⟩,λg j v b i hv hc i1 i2=> ?_⟩
   .cases j with
    |zero=>simp at hv hc;subst hv hc;exact yp
    |succ j=>exact h2 j v b (by simpa using hv) (by simpa using hc)
   .rcases abe.1 hu with rfl|hu
    .exact⟨0,v0,b0,rfl,rfl,rfl⟩
    .obtain⟨j,v,b,e1,e2,e3⟩:=h3 u hu;exact⟨j+1,v,b,by simpa using e1,by simpa using e2,e3⟩
   .show(cI us' ((Up.c v0.b v0.o (KJ (Lw all aJ) b0)).iw g)).c v.b i=_;cases j with
    |succ j=>exact h5 _ j v b i (by simpa using hv) (by simpa using hc) i1 i2
    |zero=>
     simp at hv hc
     subst hv hc
     have Y':=qX (us:=us') (g:=(Up.c v0.b v0.o (KJ (Lw all aJ) b0)).iw g) (p:=.c v0.b i) (λu hu ht=>by
      obtain⟨j,v,b,e1,e2,rfl⟩:=h3 u hu;simp only[Up.Hw,JR,h2 j v b e1 e2] at ht;have:=hd 0 (j+1) v0 v (by omega) rfl (by simpa using e1) ht.1.symm;omega)
     simp only[Gt.at,PV.c.injEq] at Y';rw[Y'];simp only[Up.iw];rw[if_pos ⟨trivial,i1,by rw[hlen];exact i2⟩,axt (aJ4 all aJ) _ _ (by omega)]
  .cases h
 | [],_::_,us,h,_=>by simp[AH] at h
 |_::_,[],us,h,_=>by simp[AH] at h
omit [ax] in
theorem afW:∀{vs:List Vw} {cs:List Ch} (g:Gt),vs.length=cs.length->
  (cI (pD vs cs) g).t=g.t/\(∀b,(∃(j:Nat) (v:Vw),vs[j]? =some v/\cs[j]? =some .kill/\v.b=b)->(cI (pD vs cs) g).z b=none)/\
  (∀b,¬(∃(j:Nat) (v:Vw),vs[j]? =some v/\cs[j]? =some .kill/\v.b=b)->(cI (pD vs cs) g).z b=g.z b/\∀i,(cI (pD vs cs) g).c b i=g.c b i)
 | [],[],g,_=>⟨rfl,λb ⟨j,v,h,_⟩=>by simp at h,λb _=>⟨rfl,λ_=>rfl⟩⟩
 |v0::vs,c::cs,g,hl=>by
  have hl':vs.length=cs.length:=by simpa using hl
  by_cases hc:c=.kill
  .subst hc;show(cI (pD vs cs) ((Up.kill v0.b).iw g)).t=_/\_;obtain⟨h0,h1,h2⟩:=afW (vs:=vs) (cs:=cs) ((Up.kill v0.b).iw g) hl';refine⟨h0,λb hb=> ?_,λb hb=> ?_⟩
   .show(cI (pD vs cs) ((Up.kill v0.b).iw g)).z b=none;by_cases hx:∃(j:Nat) (v:Vw),vs[j]? =some v/\cs[j]? =some .kill/\v.b=b
    .exact h1 b hx
    .rw[(h2 b hx).1];obtain⟨j,v,e1,e2,e3⟩:=hb;cases j with
     |zero=>simp at e1;subst e1;simp[Up.iw,e3]
     |succ j=>exact absurd ⟨j,v,by simpa using e1,by simpa using e2,e3⟩ hx
   .have hx:¬∃(j:Nat) (v:Vw),vs[j]? =some v/\cs[j]? =some .kill/\v.b=b:=λ⟨j,v,e1,e2,e3⟩=>hb ⟨j+1,v,by simpa using e1,by simpa using e2,e3⟩
    have nd:b≠v0.b:=λe=>hb ⟨0,v0,rfl,rfl,e.symm⟩
    obtain⟨k1,k2⟩:=h2 b hx;refine⟨k1.trans (by simp[Up.iw,nd]),λi=>(k2 i).trans (by simp[Up.iw,nd])⟩
  .have e:pD (v0::vs) (c::cs)=pD vs cs:=by cases c<;>first|rfl|exact absurd rfl hc
   rw[e];obtain⟨h0,h1,h2⟩:=afW (vs:=vs) (cs:=cs) g hl';refine⟨h0,λb ⟨j,v,e1,e2,e3⟩=> ?_,λb hb=>h2 b λ⟨j,v,e1,e2,e3⟩=>hb ⟨j+1,v,by simpa using e1,by simpa using e2,e3⟩⟩;cases j with
   |zero=>simp at e2;exact absurd e2 hc
   |succ j=>exact h1 b ⟨j,v,by simpa using e1,by simpa using e2,e3⟩
 | [],_::_,_,h=>by simp at h
 |_::_,[],_,h=>by simp at h
omit [ax] in
theorem ak0 {vs:List Vw}{aJ:Nat}:∀{bs:List af} {j0:Nat} (g:Gt),
  (cI (Hu vs aJ bs j0) g).t=g.t/\(∀(k:Nat) (b:af),bs[k]? =some b->(cI (Hu vs aJ bs j0) g).z (aJ+(j0+k))=some (af.size b)/\∀i,i<af.size b->(cI (Hu vs aJ bs j0) g).c (aJ+(j0+k)) i=Lw vs aJ (af.get b i))/\
  (∀b,¬(aJ+j0<=b/\b<aJ+j0+bs.length)->(cI (Hu vs aJ bs j0) g).z b=g.z b/\∀i,(cI (Hu vs aJ bs j0) g).c b i=g.c b i)/\cF (Hu vs aJ bs j0)=bs.length
 | [],j0,g=>⟨rfl,λk b h=>by simp at h,λb _=>⟨rfl,λ_=>rfl⟩,rfl⟩
 |b0::bs,j0,g=>by
  obtain⟨h0,h1,h2,h3⟩:=ak0 (vs:=vs) (aJ:=aJ) (bs:=bs) (j0:=j0+1) ((Up.new (aJ+j0) (KJ (Lw vs aJ) b0)).iw g);refine⟨h0,λk b hk=> ?_,λb hb=> ?_,?_⟩
  .show(cI (Hu vs aJ bs (j0+1)) ((Up.new (aJ+j0) (KJ (Lw vs aJ) b0)).iw g)).z _=_/\∀i,i<af.size b->(cI (Hu vs aJ bs (j0+1)) ((Up.new (aJ+j0) (KJ (Lw vs aJ) b0)).iw g)).c _ i=_;cases k with
   |zero=>
    simp at hk;subst hk
    obtain⟨k1,k2⟩:=h2 (aJ+(j0+0)) (by omega);refine⟨k1.trans (by simp[Up.iw,JR]),λi hi=>(k2 i).trans ?_⟩;simp only[Up.iw,kP,me,JR,hi,me];exact axt (aJ4 vs aJ) _ _ hi
   |succ k=>
    have:=h1 k b (by simpa using hk);rw[show j0+1+k=j0+(k+1) by omega] at this;exact this
  .obtain⟨k1,k2⟩:=h2 b (by simp only[Lu] at hb;omega);have nd:b≠aJ+j0:=λe=>hb (by simp only[Lu];omega)
   exact⟨k1.trans (by simp[Up.iw,nd]),λi=>(k2 i).trans (by simp[Up.iw,nd])⟩
  .show cF (Up.new _ _::Hu vs aJ bs (j0+1))=_;simp only[cF,List.filter_cons,me,Lu];have:=h3;simp only[cF] at this;omega
end Go.Ab
namespace Go.Ab
variable [ax]
omit [ax] in
theorem Fc (a b:List Up):cF (a++b)=cF a+cF b:=by simp[cF]
omit [ax] in
theorem aXA (dst:Option Tmp)(v:AV):cF (ec dst v)=0:=by cases dst<;>rfl
omit [ax] in
theorem aH1 {us:List Up}(h:∀u∈us,∀b k,u≠.new b k):cF us=0:=by
 induction us with
 |nil=>rfl
 |cons u us ih=>
  have h1:=ih λv hv=>h v (by simp[hv])
  have h2:=h u (by simp);cases u with
  |new b k=>exact absurd rfl (h2 b k)
  |_=>simpa[cF] using h1
omit [ax] in
theorem ZG:∀{vs:List Vw} {cs:List Ch} {u:Up},u∈pD vs cs->∃b,u=.kill b
 | [],[],u,h=>by simp[pD] at h
 |v0::vs,c::cs,u,h=>by
  by_cases hc:c=.kill
  .subst hc;rcases abe.1 h with rfl|h
   .exact⟨_,rfl⟩
   .exact ZG h
  .have e:pD (v0::vs) (c::cs)=pD vs cs:=by cases c<;>first|rfl|exact absurd rfl hc
   rw[e] at h;exact ZG h
 | [],_::_,u,h=>by simp[pD] at h
 |_::_,[],u,h=>by simp[pD] at h
omit [ax] in
theorem azm:∀{vs:List Vw} {cs:List Ch} {j:Nat} {v:Vw},vs[j]? =some v->cs[j]? =some .kill->Up.kill v.b∈pD vs cs
 |v0::vs,c::cs,0,v,h1,h2=>by
  simp at h1 h2;subst h1 h2;simp[pD]
 |v0::vs,c::cs,j+1,v,h1,h2=>by
  have:=azm (vs:=vs) (cs:=cs) (j:=j) (v:=v) (by simpa using h1) (by simpa using h2);cases c<;>simp[pD,this]
 | [],_,j,v,h,_=>by simp at h
 |_::_,[],j,v,_,h=>by simp at h
omit [ax] in
theorem afX {all:List Vw}{aJ:Nat}:∀{vs:List Vw} {cs:List Ch} {g:Bool} {us:List Up},AH all aJ vs cs=some (g,us)->∀{j:Nat} {v:Vw} {b:af},vs[j]? =some v->cs[j]? =some (.set b)->Up.c v.b v.o (KJ (Lw all aJ) b)∈us
 | [],[],g,us,_,j,v,b,h,_=>by simp at h
 |v0::vs,.nc::cs,g,us,h,j,v,b,h1,h2=>by
  cases j with
  |zero=>simp at h2
  |succ j=>exact afX (vs:=vs) (cs:=cs) h (by simpa using h1) (by simpa using h2)
 |v0::vs,.kill::cs,g,us,h,j,v,b,h1,h2=>by
  cases j with
  |zero=>simp at h2
  |succ j=>exact afX (vs:=vs) (cs:=cs) h (by simpa using h1) (by simpa using h2)
 |v0::vs,.set b0::cs,g,us,h,j,v,b,h1,h2=>by
  simp only[AH] at h;split at h
  .rename_i p hu
   simp only[je,qU] at h;obtain⟨_,rfl⟩:=h;cases j with
   |zero=>simp at h1 h2;subst h1 h2;simp
   |succ j=>exact List.mem_cons_of_mem _ (afX (g:=p.1) (us:=p.2) hu (by simpa using h1) (by simpa using h2))
  .cases h
 | [],_::_,_,_,h,_,_,_,_,_=>by simp[AH] at h
 |_::_,[],_,_,h,_,_,_,_,_=>by simp[AH] at h
omit [ax] in
theorem aEe {vs:List Vw}{aJ:Nat}:∀{bs:List af} {j0:Nat} {u:Up},u∈Hu vs aJ bs j0->∃b k,u=.new b k
 | [],_,_,h=>by simp[Hu] at h
 |b0::bs,j0,u,h=>by
  rcases abe.1 h with rfl|h
  .exact⟨_,_,rfl⟩
  .exact aEe h
omit [ax] in
theorem cv.isSome {w0 w:World}{S:Nat->Nat->Prop}(h:cv w0 S w){B i:Nat}(hi:(Ab.cl w0 B i).isSome=true):(Ab.cl w B i).isSome=true:=by
 have hB:=abj hi;simp only[Ab.cl,World.cell?] at hi ⊢;cases hh:w0.heap[B]? with
 |none=>rw[hh] at hi;cases hi
 |some x=>
  rw[hh] at hi;cases x with
  |cells c t f=>
   obtain⟨c',e,z,_⟩:=h.row B c t f hh;simp only[e];simp only[Option.isSome_none,xE,gB] at hi ⊢
   have:i<c.size:=by
    rcases px i c.size with h'|h'
    .exact h'
    .rw[asl h'] at hi;cases hi
   rw[ah6 (by omega)];rfl
  |_=>cases hi
omit [ax] in
theorem afY:∀{h:List af} {cs:List Ch} {j:Nat},(∀b,cs[j]? =some (.set b)->j<h.length->(after h cs)[j]? =some (some b))/\(cs[j]? =some .nc->∀b,h[j]? =some b->(after h cs)[j]? =some (some b))
 | [],cs,j=>⟨λb _ h=>by simp at h,λ_ b h=>by simp at h⟩
 |b0::bs,[],j=>⟨λb h=>by simp at h,λh=>by simp at h⟩
 |b0::bs,c::cs,0=>by cases c<;>simp[after]
 |b0::bs,c::cs,j+1=>by
  have:=afY (h:=bs) (cs:=cs) (j:=j);cases c<;>simpa[after] using this
omit [ax] in
theorem abk {r:pz}{h:List af}{k:Nat}{b:af}(hk:r.news[k]? =some b):(r.heap h)[h.length+k]? =some (some b):=by
 unfold pz.heap;rw[adn (by rw[nR];omega),nR,show h.length+k-h.length=k by omega];simp[hk]
omit [ax] in
theorem DT {r:pz}{h:List af}{j:Nat}(hj:j<h.length):(r.heap h)[j]? =(after h r.yo)[j]? :=by
 unfold pz.heap;rw[Ua (by rw[nR];omega)]
omit [ax] in
theorem ZH {l:List (Option af)}{j:Nat}{b:af}(h:l[j]? =some (some b)):hZ l j=some (af.size b):=by simp[hZ,h]
omit [ax] in
theorem afZ {l:List (Option af)}{j i:Nat}{b:af}(h:l[j]? =some (some b))(hi:i<af.size b):hC l j i=af.get b i:=by simp[hC,h,hi]
omit [ax] in
theorem UO {all:List Vw}{aJ:Nat}:∀{vs:List Vw} {cs:List Ch} {g:Bool} {us:List Up},AH all aJ vs cs=some (g,us)->∀u∈us,∀b k,u≠.new b k
 | [],[],g,us,h=>by
  simp only[AH,je,qU] at h;obtain⟨_,rfl⟩:=h;intro u hu;simp at hu
 |v0::vs,.nc::cs,g,us,h=>UO (vs:=vs) (cs:=cs) h
 |v0::vs,.kill::cs,g,us,h=>UO (vs:=vs) (cs:=cs) h
 |v0::vs,.set b0::cs,g,us,h=>by
  simp only[AH] at h;split at h
  .rename_i p hu
   simp only[je,qU] at h;obtain⟨_,rfl⟩:=h;intro u hu' b k e;rcases abe.1 hu' with rfl|hu'
   .cases e
   .exact UO (g:=p.1) (us:=p.2) hu u hu' b k e
  .cases h
 | [],_::_,_,_,h=>by simp[AH] at h
 |_::_,[],_,_,h=>by simp[AH] at h
section
variable {P:Program} {o:Oper} {X:Cx} {D:Nat->Prop} {aJ:Nat} {us:List Up} {g:Gt}
theorem aQW {E:Env}(hE:∀f F,E f=some F->Sound P f F){c:Call}{fo:Operand}{f:Nat}{ado:List RV}{args:List AV}{fp l0 l1:List Fp}(ho:o.op=.call c)(hc:c.callee=.value fo)(ha:aI (Ab.uj Ab.Ee c.args.toList) g args l0){fv:AV}(hfo:aI (Ab.Ee fo) g fv l1)(aXB:∀(π:Pi) (x:Value),fv.rel π x->∃arr:Array Value,x=.func (.func f) #[] arr/\bl (RV.rel π) ado arr.toList)
  (h:aI (aXe E f (args++ado.map .r) o.dst aJ) g us fp):Ao P o X D aJ us g:=by
 obtain⟨x,⟨_,h1⟩,_,h⟩:=aI.bind' h;obtain⟨y,⟨_,h2⟩,_,h⟩:=aI.bind' h;cases hEf:E f with
 |none=>rw[hEf] at h;cases h
 |some F=>
 rw[hEf] at h;obtain⟨r,⟨_,h3⟩,_,h⟩:=aI.bind' h;obtain⟨⟨gd,aSH⟩,⟨_,h4⟩,_,h⟩:=aI.bind' h;obtain⟨_,⟨_,h5⟩,_,h⟩:=aI.bind' h;cases h;have h5:gd=true:=h5.cN;subst h5;have S0:=hE f F hEf;have a1y:=T.aXx h3;have h4:=h4.ey;obtain⟨lh,vs⟩:=y;simp only at h3 h4
 have aSI:cF (ec o.dst (aMJ vs aJ r.val)++(aSH++(pD vs r.yo++Hu vs aJ r.news 0)))=r.news.length:=by
  rw[Fc,Fc,Fc,aXA,aH1 (UO h4),aH1 (λu hu b k e=>by obtain⟨_,rfl⟩:=ZG hu;cases e),(ak0 (vs:=vs) (aJ:=aJ) (bs:=r.news) (j0:=0) g).2.2.2];omega
 intro π a w next Q R hk hfr hd hD hn;simp only at hfr hn hD;rw[aSI] at hfr hn;obtain⟨arr,hfv,a1z⟩:=aXB _ _ (hfo.Ee R)
 have lZ:bl (AV.rel π) (args++ado.map .r) (c.args.map a.eval++arr).toList:=by
  rw[Array.toList_append];exact(KL ha R).append (ZE (f:=AV.r) (R':=AV.rel π) (λa c h=>h) a1z)
 obtain⟨a1,a2⟩:=aNd (Su:=x.1) (kM:=x.2) h1 lZ;obtain⟨ok0,a4⟩:=a2 (KM.nil π);obtain⟨b1,hok,b3,b4⟩:=aEd R.hp (lh:=lh) (kM:=vs) h2 rfl (Nat.zero_le _) ok0 (λj v k _ hk=>by simp at hk);obtain⟨c1,c2,c3,c4,c5⟩:=ZF h4 (λi j v v' hij hi hj hb=>(hok.1 i j v v' hij hi hj hb).1);have aZy:bl (AV.rel (piL π vs)) x.1 (c.args.map a.eval++arr).toList:=a4.imp λv z hr=>AV.dP b1.ext v z hr
 have a27:=R.hp.local hok b3 b4
 have kK:∀b,piL π vs b≠none->b<lh.length:=λb hb=>by
  rw[b3];unfold piL at hb;cases hv:vs[b]? with
  |none=>rw[hv] at hb;exact absurd rfl hb
  |some v=>exact(mi.1 hv).1
 have aZz:=S0 x.1 lh r a1y w (piL π vs) _ aZy a27 kK
 suffices key:∀(v:Value) (w':World),tV (piL π vs) w lh r (.returned v) w'->next (a.put o.dst v) w' by
  rcases aZz with⟨S1,S2⟩| ⟨v,S1,S2⟩
  .have oB:(execOp a.eval o).run P w=.ok (.enter f (c.args.map a.eval++arr)) w:=by
    simp[execOp,ho,resolve,hc,hfv,Deferred.ofValue,invoke,S1]
   unfold Oper.wp;rw[oB];refine Calls.mono S2 ?_;intro e w' hp;have uP:=hp;obtain⟨_,v,rfl,_⟩:=uP;exact key v w' hp
  .have oB:(execOp a.eval o).run P w=.ok (.value v) w:=by
    simp[execOp,ho,resolve,hc,hfv,Deferred.ofValue,invoke,S1]
   unfold Oper.wp;rw[oB];exact key v w S2
 rintro v w' ⟨πL,v',hv',aur,aEf,hHL,hFr,a1A,a0G⟩
 cases hv'
 have live:∀(j:Nat) u,vs[j]? =some u->∃q B s e,g.z u.b=some q/\u.o.val+u.n<=q/\π u.b=some (B,s,q,e)/\s+q<=e/\(u.own=true->u.o.val+u.n=q):=λj u hu=>by
  have hj:j<lh.length:=by rw[b3];exact(mi.1 hu).1
  obtain⟨q,hq⟩:=(b4 j u _ hu (lq hj)).live;obtain⟨B,s,e,hb,Bm,_⟩:=R.hp.hp _ _ hq;obtain⟨_,_,_,_,fy,hle,how⟩:=hok.2 j u hu;rw[hb] at fy;cases fy;exact⟨q,B,s,e,hq,hle,hb,Bm,how⟩
 have K:Bck π πL vs aJ r.news.length:=⟨aur,λb hb=>by have:=a1A b hb;omega,hfr,λj u hu=>let⟨q,B,s,e,_,hle,hb,_,how⟩:=live j u hu;⟨B,s,q,e,hb,hle,how⟩⟩
 have aQX:∀B i,De (piL π vs) lh.length (Sy r.yo) B i->∃(j:Nat) (u:Vw) (q s e:Nat),vs[j]? =some u/\g.z u.b=some q/\π u.b=some (B,s,q,e)/\s+q<=e/\s+u.o.val<=i/\i<(if u.own then e else s+u.o.val+u.n)/\i<e/\(u.own=true->u.o.val+u.n=q)/\u.o.val+u.n<=q/\(r.yo[j]? =some .kill∨∃b,r.yo[j]? =some (.set b)):=by
  rintro B i ⟨j,s1,q1,e1,hj,hD1,hp,i1,i2⟩
  have hu:vs[j]? =some (vs[j]'(by omega)):=lq _;obtain⟨q,B0,s,e,hq,hle,hb,Bm,how⟩:=live j _ hu;rw[yw hu hb] at hp;simp only[je,qU] at hp;obtain⟨rfl,hs1,_,he1⟩:=hp;rw[<-hs1] at i1;rw[<-he1] at i2;refine⟨j,_,q,s,e,hu,hq,hb,Bm,i1,i2,?_,how,hle,?_⟩
  .split at i2<;>omega
  .have hcj:r.yo[j]? =some (r.yo[j]'(by omega)):=lq _;rw[hcj];cases SA:r.yo[j]'(by omega) with
   |nc=>exact absurd (by rw[hcj,SA]) hD1
   |set b=>exact .inr ⟨b,rfl⟩
   |kill=>exact .inl rfl
 have a1B:∀(j:Nat) (u:Vw),vs[j]? =some u->(r.yo[j]? =some .kill∨∃b,r.yo[j]? =some (.set b))->u.b<X.k->D u.b:=λj u hu SA=>by
  rcases SA with SA| ⟨b,SA⟩
  .exact hD (.kill u.b) (by simp[azm hu SA])
  .exact hD (.c u.b u.o (KJ (Lw vs aJ) b)) (by simp[afX h4 hu SA])
 have aSJ:∀B i,B<X.w0.heap.size->De (piL π vs) lh.length (Sy r.yo) B i->De X.p0 X.k D B i:=λB i hB hft=>by
  obtain⟨j,u,q,s,e,hu,hq,hb,Bm,i1,_,i3,_,_,SA⟩:=aQX B i hft;rcases px u.b X.k with hbk|hbk
  .exact⟨u.b,s,q,e,hbk,a1B j u hu SA hbk,(R.xF u.b hbk).symm.trans hb,by omega,i3⟩
  .exact R.ft u.b B s q e hbk (by simp[hq]) hb hB i (by omega) i3
 generalize hg1:cI aSH g=g1
 generalize hg2:cI (pD vs r.yo) g1=g2
 generalize hg3:cI (Hu vs aJ r.news 0) g2=g3
 have G1:=c4 g;rw[hg1] at G1;have G2:=afW (vs:=vs) (cs:=r.yo) g1 c1;rw[hg2] at G2;obtain⟨N0,N1,N2,_⟩:=ak0 (vs:=vs) (aJ:=aJ) (bs:=r.news) (j0:=0) g2;rw[hg3] at N0 N1 N2
 have xF:∀b n,¬(aJ<=b/\b<aJ+r.news.length)->g3.z b=some n->g.z b=some n/\(¬∃(j:Nat) (v:Vw),vs[j]? =some v/\r.yo[j]? =some .kill/\v.b=b)/\∀i,g3.c b i=g1.c b i:=λb n hb hz=>by
  obtain⟨n1,n2⟩:=N2 b (by omega);rw[n1] at hz;by_cases hkl:∃(j:Nat) (v:Vw),vs[j]? =some v/\r.yo[j]? =some .kill/\v.b=b
  .rw[G2.2.1 b hkl] at hz;cases hz
  .obtain⟨k1,k2⟩:=G2.2.2 b hkl;rw[k1,G1.1] at hz;exact⟨hz,hkl,λi=>(n2 i).trans (k2 i)⟩
 have new:∀k,k<r.news.length->∃b,r.news[k]? =some b/\g3.z (aJ+k)=some (af.size b)/\(∀i,i<af.size b->g3.c (aJ+k) i=Lw vs aJ (af.get b i))/\hZ (r.heap lh) (lh.length+k)=some (af.size b):=λk Lh=>by
  have hb:r.news[k]? =some (r.news[k]'Lh):=lq _;have:=N1 k _ hb;rw[gy] at this;exact⟨_,hb,this.1,this.2,ZH (abk hb)⟩
 have idx:∀b,aJ<=b/\b<aJ+r.news.length->∃k,k<r.news.length/\b=aJ+k:=λb hb=>⟨b-aJ,by omega,by omega⟩
 have H3:sJ (piB π πL vs.length aJ r.news.length) g3.c g3.z w':=by
  refine⟨hHL.am,λb B s q e hz hp Bm=> ?_,λb n hz=> ?_,?_⟩
  .by_cases hb:aJ<=b/\b<aJ+r.news.length
   .obtain⟨k,Lh,rfl⟩:=idx b hb;obtain⟨bR,Zz,z1,z2,z3⟩:=new k Lh;rw[VR Lh,<-b3] at hp;exact hHL.lb _ B s q e (by rw[z3];simp) hp Bm
   .cases hh:g3.z b with
    |none=>exact absurd hh hz
    |some n=>
     obtain⟨NK,hkl,hc3⟩:=xF b n hb hh;obtain⟨B1,s1,e1,Hy,_⟩:=R.hp.hp b n NK;have e2:=K.xF Hy;rw[hp] at e2;cases e2;exact R.hp.lb b B s q e (by rw[NK];simp) Hy Bm
  .by_cases hb:aJ<=b/\b<aJ+r.news.length
   .obtain⟨k,Lh,rfl⟩:=idx b hb;obtain⟨bR,Zz,z1,z2,z3⟩:=new k Lh;rw[z1] at hz;cases hz;obtain⟨B,s,e,hp,hle,k1,k2⟩:=hHL.hp _ _ z3;refine⟨B,s,e,by rw[VR Lh,<-b3];exact hp,hle,k1,λj hj=> ?_⟩;obtain⟨x,hx,hr⟩:=k2 j hj;rw[afZ (abk Zz) hj] at hr;exact⟨x,hx,by rw[z2 j hj];exact K.aSG _ _ hr⟩
   .obtain⟨NK,hkl,hc3⟩:=xF b n hb hz;obtain⟨B,s,e,hp,hle,k1,k2⟩:=R.hp.hp b n NK;refine⟨B,s,e,K.xF hp,hle,λi i1 i2=> ?_,λj hj=> ?_⟩
    .have:=k1 i i1 i2;exact⟨hFr.isSome this.1,by rw[hFr.fz (abj this.1)];exact this.2⟩
    .rw[hc3];by_cases aXC:∃(jv:Nat) (u:Vw) (bR:af),vs[jv]? =some u/\r.yo[jv]? =some (.set bR)/\u.b=b/\u.o.val<=j/\j<u.o.val+u.n
     .obtain⟨jv,u,bR,hu,SA,rfl,j1,j2⟩:=aXC;have e1:=c5 g jv u bR j hu SA j1 j2;rw[hg1] at e1;rw[e1];have yp:=c2 jv u bR hu SA;have hjv:jv<lh.length:=by rw[b3];exact(mi.1 hu).1
      have akX:(r.heap lh)[jv]? =some (some bR):=by rw[DT hjv];exact afY.1 bR SA hjv
      obtain⟨B1,s1,e1',Hy,a28,_,m2⟩:=hHL.hp jv _ (ZH akX);have:=aur _ _ (yw hu hp);rw[Hy] at this;simp only[je,qU] at this;obtain⟨rfl,rfl,_,_⟩:=this;obtain⟨x,hx,hr⟩:=m2 (j-u.o.val) (by omega);rw[afZ akX (by omega)] at hr;exact⟨x,by rw[show s+j=s+u.o.val+(j-u.o.val) by omega];exact hx,K.aSG _ _ hr⟩
     .obtain⟨x,hx,hr⟩:=k2 j hj
      have Y':=qX (us:=aSH) (g:=g) (p:=.c b j) (λu hu ht=>by
       obtain⟨jv,v',bR,e1,e2,rfl⟩:=c3 u hu;simp only[Up.Hw,JR,c2 jv v' bR e1 e2] at ht;exact aXC ⟨jv,v',bR,e1,e2,ht.1,ht.2.1,ht.2.2⟩)
      simp only[Gt.at,PV.c.injEq,hg1] at Y';rw[Y'];refine⟨x,?_,CV.dP K.ext' _ _ hr⟩;rw[hFr.cl (abj (by rw[hx];rfl)),hx];intro hft;obtain⟨jv,u,q,s0,e0,hu,hq,QW,Bm,i1,i2,i3,how,a29,SA⟩:=aQX _ _ hft;by_cases hbb:u.b=b
      .subst hbb;rw[hp] at QW;cases QW;rw[NK] at hq;cases hq;rcases SA with SA| ⟨bR,SA⟩
       .exact hkl ⟨jv,u,hu,SA,rfl⟩
       .refine aXC ⟨jv,u,bR,hu,SA,rfl,by omega,?_⟩;cases a0H:u.own
        .simp only[a0H,xE,gB] at i2;omega
        .have:=how a0H;omega
      .exact R.hp.dj u.b b B s0 _ e0 s _ e hbb (by simp[hq]) (by simp[NK]) QW hp (s+j) (by omega) i3 (by omega) (by omega)
  ·
   have no:∀k b' B s q e s' q' e',k<r.news.length->¬(aJ<=b'/\b'<aJ+r.news.length)->g3.z b'≠none->πL (vs.length+k)=some (B,s,q,e)->π b'=some (B,s',q',e')->∀i,s<=i->i<e->s'<=i->i<e'->False:=by
    intro k b' B s qq e s' q' e' Lh fy uD hp uP i i1 i2 i3 i4;cases hzz:g3.z b' with
    |none=>exact uD hzz
    |some n'=>
    obtain⟨NK,hkl,_⟩:=xF b' n' fy hzz;obtain⟨_,_,_,hp0,_,k1,_⟩:=R.hp.hp b' n' NK;rw[uP] at hp0;cases hp0;have hB:=abj (k1 i i3 i4).1;obtain⟨jv,u,q,s0,e0,hu,hq,QW,Bm,m1,m2,m3,how,a29,SA⟩:=aQX _ _ (a0G (vs.length+k) B s qq e (by omega) hp hB i i1 i2);by_cases hbb:u.b=b'
    .subst hbb;rcases SA with SA| ⟨bR,SA⟩
     .exact hkl ⟨jv,u,hu,SA,rfl⟩
     .have hjv:jv<lh.length:=by rw[b3];exact(mi.1 hu).1
      have akX:(r.heap lh)[jv]? =some (some bR):=by rw[DT hjv];exact afY.1 bR SA hjv
      obtain⟨_,_,_,_,z3⟩:=new k Lh;rw[b3] at z3;exact hHL.dj (vs.length+k) jv B s qq e _ _ _ (by omega) (by simp[z3]) (by simp[ZH akX]) hp (aur _ _ (yw hu QW)) i i1 i2 m1 m2
    .exact R.hp.dj u.b b' B s0 _ e0 s' _ e' hbb (by simp[hq]) (by simp[NK]) QW uP i (by omega) m3 i3 i4
   intro b b' B s qq e s' q' e' nd hz uD hp uP i i1 i2 i3 i4;by_cases hb:aJ<=b/\b<aJ+r.news.length
   .obtain⟨k,Lh,rfl⟩:=idx b hb;rw[VR Lh] at hp;by_cases fy:aJ<=b'/\b'<aJ+r.news.length
    .obtain⟨k',aNf,rfl⟩:=idx b' fy;rw[VR aNf] at uP;obtain⟨_,_,_,_,z3⟩:=new k Lh;obtain⟨_,_,_,_,z3'⟩:=new k' aNf;rw[b3] at z3 z3';exact hHL.dj (vs.length+k) (vs.length+k') B s qq e s' q' e' (by omega) (by simp[z3]) (by simp[z3']) hp uP i i1 i2 i3 i4
    .rw[VS fy] at uP;exact no k b' B s qq e s' q' e' Lh fy uD hp uP i i1 i2 i3 i4
   .rw[VS hb] at hp;by_cases fy:aJ<=b'/\b'<aJ+r.news.length
    .obtain⟨k',aNf,rfl⟩:=idx b' fy;rw[VR aNf] at uP;exact no k' b B s' q' e' s qq e aNf hb hz uP hp i i3 i4 i1 i2
    .rw[VS fy] at uP;cases hzz:g3.z b with
     |none=>exact hz hzz
     |some n=>
     cases a0I:g3.z b' with
     |none=>exact uD a0I
     |some n'=>
     exact R.hp.dj b b' B s qq e s' q' e' nd (by simp[(xF b n hb hzz).1]) (by simp[(xF b' n' fy a0I).1]) hp uP i i1 i2 i3 i4
 have R3:Rel X D (piB π πL vs.length aJ r.news.length) g3 a w':=by
  refine⟨λi=> ?_,R.nt,R.df,H3,λb hb=> ?_,λb B s qq e hkb hz hp hB i i1 i2=> ?_,R.fr.trans hFr aSJ⟩
  .rw[N0,G2.1,G1.2];exact AV.dP K.ext' _ _ (R.tm i)
  .rw[VS (by omega)];exact R.xF b hb
  .by_cases hb:aJ<=b/\b<aJ+r.news.length
   .obtain⟨k,Lh,rfl⟩:=idx b hb;rw[VR Lh] at hp;exact aSJ B i hB (a0G (vs.length+k) B s qq e (by omega) hp (aDw hB R.fr.size) i i1 i2)
   .rw[VS hb] at hp;cases hzz:g3.z b with
    |none=>exact absurd hzz hz
    |some n=>exact R.ft b B s qq e hkb (by simp[(xF b n hb hzz).1]) hp hB i i1 i2
 refine hn _ _ (piB π πL vs.length aJ r.news.length) K.ext' (λb hb=> ?_) ?_
 .by_cases fy:aJ<=b/\b<aJ+r.news.length
  .exact .inr fy
  .rw[VS fy] at hb;exact .inl hb
 .have e3:cI (ec o.dst (aMJ vs aJ r.val)++(aSH++(pD vs r.yo++Hu vs aJ r.news 0))) g=cI (ec o.dst (aMJ vs aJ r.val)) g3:=by
   rw[LH _ _ _ _ (λu hu i x e=>by
    rcases List.mem_append.1 hu with hu|hu
    .obtain⟨_,_,_,_,_,rfl⟩:=c3 u hu;cases e
    .rcases List.mem_append.1 hu with hu|hu
     .obtain⟨_,rfl⟩:=ZG hu;cases e
     .obtain⟨_,_,rfl⟩:=aEe hu;cases e)]
   rw[Qc,Qc,hg1,hg2,hg3]
  rw[e3];exact R3.dst hd (K.a26 _ _ aEf)
end
end Go.Ab
