/-
  Parts of the proof: AbP AbQ AbB AbC AbD AbE AbF
-/
import Derived.Test.YtldgljclcgaibaaGreatZAB
import Derived.Laws.StructEq
import Derived.Laws.Tables
import Derived.Laws.Append
import Derived.Laws.AppendOwn
open Nat renaming ble→wr
set_option linter.unusedVariables false
set_option linter.unusedSimpArgs false
namespace Go.Ab
variable [ay]
section
variable {P:Program} {o:Oper} {X:Cx} {D:Nat->Prop} {aM:Nat} {us:List Up} {g:Gt}
omit [ay] in
theorem QC (us vs:List Up)(g:Gt):cH (us++vs) g=cH vs (cH us g):=by simp[cH]
theorem aM6 {t:TypeId}{x y:Operand}{fp:List Fp}(ho:o.op=.store t x y)
  (h:aJ ((aML x).bind λp=>(aMK y).bind λv=>(Ab.eu (iZ P t)).bind λn=>(Ab.cR (Nat.beq (aj.size v.bU) n&&wr n p.2.2)).bind λ_=>.sz p.1<| .ret (Ce (jf P t v.bU aM).2 aM++(dY o.dst udf++[.c p.1 p.2.1 (jf P t v.bU aM).1]))) g us fp):Aw P o X D aM us g:=by
 obtain⟨p,⟨_,h1⟩,_,h⟩:=aJ.bind' h;obtain⟨v,⟨_,h2⟩,_,h⟩:=aJ.bind' h;obtain⟨n,⟨_,h3⟩,_,h⟩:=aJ.bind' h;obtain⟨_,⟨_,h4⟩,_,h⟩:=aJ.bind' h;cases h with|sz q hz h=>
 cases h;have h4:=h4.cR;simp only[cB,beq_iff,fy] at h4;obtain⟨h4,h5⟩:=h4;obtain⟨n1,n2,n3⟩:=avh P t v.bU aM;generalize (jf P t v.bU aM).1=k at n1 n2 n3
 generalize (jf P t v.bU aM).2=es at n1 n2 n3
 intro π a w next Q R hk hf hd hD hn;obtain⟨B,s,q',e,hb,ha,hm⟩:=h1.aML R;have hc:=RV.OO (h2.aMK R);have hl:=(jy hc).1;obtain⟨B',s',e',fu,hle,k1,k2⟩:=R.hp.hp _ _ hz;rw[hb] at fu;cases fu
 have hcn:cF (Ce es aM++(dY o.dst udf++[.c p.1 p.2.1 k]))=es.length:=by
  rw[aI4,att];unfold dY cF;cases o.dst<;>rfl
 rw[hcn] at hf hn;obtain⟨π1,e1,e2,e3,R1⟩:=R.aE6 n2 hk hf;have hc1:=n3 π1 e3 _ (hc.imp (CV.dM e1))
 have hz1:(cH (Ce es aM) g).z p.1=some q:=by
  have key:∀(es:List aj) (aM:Nat) (g:Gt),g.z p.1=some q->(∀b,aM<=b->b<aM+es.length->b≠p.1)->(cH (Ce es aM) g).z p.1=some q:=by
   intro es;induction es with
   |nil=>intro aM g h _;exact h
   |cons x es ih=>
    intro aM g h mC;refine ih (aM+1) _ ?_ (λb h1 h2=>mC b (by omega) (by simp only[LV];omega));have:=mC aM (cZ _) (by simp);simp only[Up.hI];rw[if_neg (by omega)];exact h
  refine key es aM g hz λb h1 h2 hbp=> ?_;have:=hf b h1 h2;rw[hbp,hb] at this;cases this
 have R2:=R1.set hz1 (e1 _ _ hb) (o:=p.2.1) (vs:=k) (by rw[n1];omega) hc1 (hD (.c p.1 p.2.1 k) (by simp));have R3:=R2.dst hd (ats π1);refine aZA (w':=w.setCells B (s+p.2.1.val) (a.eval y).cells.toList) ?_ (hn _ _ π1 e1 e2 ?_)
 .have hst:=run_storeCells_cells (P:=P) B (s+p.2.1.val) (a.eval y).cells.toList 0 w
   (λj hj=>(k1 (s+p.2.1.val+0+j) (by omega) (by omega)).1) (λj hj=>(k1 (s+p.2.1.val+0+j) (by omega) (by omega)).2)
   (λx hx=>by
    obtain⟨i,hi⟩:=ayf.1 hx;obtain⟨c,_,hr⟩:=hc.get' hi;exact CV.Rz hr)
  have yQ:(a.eval y).cells.size=n:=by rw[<-WC];omega
  simp[execOp,ho,Instr.storeAt,ha,Instr.sureAddr,storeVar,run_sizeOf h3.eu,yQ,hst]
 .have e1:cH (Ce es aM++(dY o.dst udf++[.c p.1 p.2.1 k])) g=cH (dY o.dst udf) ((Up.c p.1 p.2.1 k).hI (cH (Ce es aM) g)):=by
   rw[aE5];cases o.dst<;>rfl
  rw[e1];exact R3
theorem aE8 {x:Operand}{fp:List Fp}(ho:o.op=.nilCheck x)
  (h:aJ ((HD x).bind λ|.ptr b q n=>.ret (dY o.dst (.r (.c (.ptr b q n))))|.fp l=>.ret (dY o.dst (.r (.c (.fp l))))|_=>.fail) g us fp):Aw P o X D aM us g:=by
 obtain⟨v,⟨_,h1⟩,_,h⟩:=aJ.bind' h;split at h
 .rename_i b q n
  cases h;refine iQ λπ a w R=> ?_;obtain⟨B,s,q',e,hb,ha,hm⟩:=h1.HD R;refine⟨_,?_,B,s,q',e,hb,rfl,hm⟩;simp[execOp,ho,ha]
 .cases h;refine iQ λπ a w R=> ?_;obtain⟨B,s,ha,hc⟩:=h1.HD R;refine⟨_,?_,B,s,rfl,hc⟩;simp[execOp,ho,ha]
 .cases h
theorem aTy {op:BinOp}{k:IntKind}{x y:Int}{v:FV}{fp:List Fp}(hs:op≠.shl/\op≠.shr)(h:aJ (aXp op k x y) g v fp)(t:TypeId)(w:World):
  ∃z,(binOp op t (.int k x) (.int k y)).run P w=.ok z w/\v.rel z:=by
 unfold aXp at h;cases op<;>simp only[] at h
 case shl=>exact absurd rfl hs.1
 case shr=>exact absurd rfl hs.2
 case quo=>
  obtain⟨_,⟨_,h1⟩,_,h⟩:=aJ.bind' h;cases h;have h1:¬y=0:=by simpa using h1.cR
  exact⟨_,by simp[binOp,Op.intDiv,h1],rfl⟩
 case rem=>
  obtain⟨_,⟨_,h1⟩,_,h⟩:=aJ.bind' h;cases h;have h1:¬y=0:=by simpa using h1.cR
  exact⟨_,by simp[binOp,Op.intDiv,h1],rfl⟩
 case and=>obtain⟨n,⟨_,h1⟩,_,h⟩:=aJ.bind' h;cases h;have h1:=h1.eu;simp only[atn,iI] at h1;subst h1;exact⟨_,by simp[binOp,Op.intBits],rfl⟩
 case or=>obtain⟨n,⟨_,h1⟩,_,h⟩:=aJ.bind' h;cases h;have h1:=h1.eu;simp only[atn,iI] at h1;subst h1;exact⟨_,by simp[binOp,Op.intBits],rfl⟩
 case xor=>obtain⟨n,⟨_,h1⟩,_,h⟩:=aJ.bind' h;cases h;have h1:=h1.eu;simp only[atn,iI] at h1;subst h1;exact⟨_,by simp[binOp,Op.intBits],rfl⟩
 case andNot=>obtain⟨n,⟨_,h1⟩,_,h⟩:=aJ.bind' h;cases h;have h1:=h1.eu;simp only[atn,iI] at h1;subst h1;exact⟨_,by simp[binOp,Op.intBits],rfl⟩
 all_goals (cases h;exact⟨_,by simp[binOp,Op.intArith,Op.intCmp],rfl⟩)
theorem aAf {op:BinOp}{k k':IntKind}{x y:Int}{v:FV}{fp:List Fp}(h:aJ (aSE op k x y) g v fp)(t:TypeId)(w:World):
  ∃z,(binOp op t (.int k x) (.int k' y)).run P w=.ok z w/\v.rel z:=by
 obtain⟨_,⟨_,h1⟩,_,h⟩:=aJ.bind' h;have h1:¬y<0:=by simpa using h1.cR
 cases op<;>simp only[] at h
 case shl=>cases h;exact⟨_,by simp only[binOp,Op.shift,h1,gA];exact Sem.run_pure ..,rfl⟩
 case shr=>cases h;exact⟨_,by simp only[binOp,Op.shift,h1,gA];exact Sem.run_pure ..,rfl⟩
 all_goals cases h
omit [ay] in
theorem agN (op:BinOp)(t:TypeId)(x y:Operand)(k k':IntKind)(m n:Int)(w:World):(eqGuard op t x y (.int k m) (.int k' n)).run P w=.ok () w:=by
 cases op<;>simp[eqGuard]
omit [ay] in
theorem aHs (op:BinOp)(t:TypeId)(x y:Operand)(m n:Bool)(w:World):(eqGuard op t x y (.bool m) (.bool n)).run P w=.ok () w:=by
 cases op<;>simp[eqGuard]
omit [ay] in
theorem agO (op:BinOp)(t:TypeId)(x y:Operand)(m n:Option Addr)(w:World):(eqGuard op t x y (.pointer m) (.pointer n)).run P w=.ok () w:=by
 cases op<;>simp[eqGuard]
omit [ay] in
theorem avi {t:TypeId}{x y:Value}{r:Bool}{w:World}(hi:(∀k n,x≠.int k n))(hs:∀s,x≠.string s)(hf:∀k n,x≠.float k n)(hc:∀k n m,x≠.complex k n m)(h:(Op.equal t x y).run P w=.ok r w):(binOp .eql t x y).run P w=.ok (.bool r) w/\(binOp .neq t x y).run P w=.ok (.bool (!r)) w:=by
 cases x<;>first
  |exact absurd rfl (hi _ _)
  |exact absurd rfl (hs _)
  |exact absurd rfl (hf _ _)
  |exact absurd rfl (hc _ _ _)
  |(simp only[binOp];simp[h])
theorem aTz {op:BinOp}{t:TypeId}{x y:RV}{v:RV}{fp:List Fp}(h:aJ (aXs P op t x y) g v fp)(heq:∀r l,aJ (eqV P t x y) g r l->∀π a b w,x.rel π a->y.rel π b->(∀(op:BinOp) (p q:Operand),(eqGuard op t p q a b).run P w=.ok () w)/\(binOp .eql t a b).run P w=.ok (.bool r) w/\(binOp .neq t a b).run P w=.ok (.bool (!r)) w)
  {π:Pi}{a b:Value}(hx:x.rel π a)(hy:y.rel π b)(p q:Operand)(w:World):
  ∃z,(do eqGuard op t p q a b;binOp op t a b:Sem Value).run P w=.ok z w/\v.rel π z:=by
 unfold aXs at h;split at h
 .rename_i k m k' n
  have ha:a=.int k m:=hx;have hb:b=.int k' n:=hy;subst ha hb;split at h
  .obtain⟨r,⟨_,h1⟩,_,h⟩:=aJ.bind' h;cases h;obtain⟨z,hz,hr⟩:=aAf (P:=P) (k':=k') h1 t w;exact⟨z,by simp[agN,hz],hr⟩
  .obtain⟨r,⟨_,h1⟩,_,h⟩:=aJ.bind' h;cases h;obtain⟨z,hz,hr⟩:=aAf (P:=P) (k':=k') h1 t w;exact⟨z,by simp[agN,hz],hr⟩
  .rename_i n1 n2
   split at h
   .rename_i hk
    subst hk;obtain⟨r,⟨_,h1⟩,_,h⟩:=aJ.bind' h;cases h;obtain⟨z,hz,hr⟩:=aTy (P:=P) ⟨λe=>n1 e,λe=>n2 e⟩ h1 t w;exact⟨z,by simp[agN,hz],hr⟩
   .cases h
 .split at h
  .obtain⟨r,⟨l1,h1⟩,_,h⟩:=aJ.bind' h;cases h;obtain⟨e1,e2,_⟩:=heq r _ h1 π a b w hx hy;exact⟨.bool r,by simp[e1,e2],rfl⟩
  .obtain⟨r,⟨l1,h1⟩,_,h⟩:=aJ.bind' h;cases h;obtain⟨e1,_,e2⟩:=heq r _ h1 π a b w hx hy;exact⟨.bool (!r),by simp[e1,e2],rfl⟩
  .cases h
theorem aQR {op:UnOp}{t:TypeId}{x:Operand}{fp:List Fp}(ho:o.op=.unOp op t x)
  (h:aJ ((wL x).bind λa=>(unV op a).bind λv=>.ret (dY o.dst (.r v))) g us fp):Aw P o X D aM us g:=by
 obtain⟨r,⟨_,h1⟩,_,h⟩:=aJ.bind' h;obtain⟨v,⟨_,h2⟩,_,h⟩:=aJ.bind' h;cases h;refine iQ λπ a w R=> ?_;have ha:=h1.wL R;unfold unV at h2;split at h2
 .have ha:a.eval x=_:=ha;cases h2;exact⟨_,by simp[execOp,ho,ha,Op.unary,Op.intArith],rfl⟩
 .have ha:a.eval x=_:=ha;obtain⟨n,⟨_,h3⟩,_,h2⟩:=aJ.bind' h2;cases h2;have h3:=h3.eu;simp only[atn,iI] at h3;subst h3;exact⟨_,by simp[execOp,ho,ha,Op.unary,Op.intBits],rfl⟩
 .have ha:a.eval x=_:=ha;cases h2;exact⟨_,by simp[execOp,ho,ha,Op.unary],rfl⟩
 .cases h2
theorem aHt {s d:TypeId}{x:Operand}{fp:List Fp}(ho:o.op=.convert s d x)
  (h:aJ ((wL x).bind λa=>(aQF P s d a).bind λv=>.ret (dY o.dst (.r v))) g us fp):Aw P o X D aM us g:=by
 obtain⟨r,⟨_,h1⟩,_,h⟩:=aJ.bind' h;obtain⟨v,⟨_,h2⟩,_,h⟩:=aJ.bind' h;cases h;refine iQ λπ a w R=> ?_;have ha:=h1.wL R;unfold aQF at h2;split at h2
 .rename_i d1 k k' n hs hd
  have ha:a.eval x=_:=ha;cases h2;exact⟨_,by simp[execOp,ho,ha,convert,run_underlying hs,run_underlying hd,Conv.intToInt],rfl⟩
 .cases h2
theorem aE9 {t:TypeId}{x:Operand}{fp:List Fp}(ho:o.op=.sliceToArrayPointer t x)
  (h:aJ ((HD x).bind λc=>match P.underlying t,c with
   |some (.array n _),.sl b q len z _=>(Ab.cR (wr 1 n&&wr n len.val)).bind λ_=>(Rd.ret (CV.ptr b q (n*z))).bind λv=>.ret (dY o.dst (.r (.c v)))
   |_,_=>.fail) g us fp):Aw P o X D aM us g:=by
 obtain⟨r,⟨_,h1⟩,_,h⟩:=aJ.bind' h;split at h
 .rename_i n e b q len z own hu
  obtain⟨_,⟨_,h2⟩,_,h⟩:=aJ.bind' h;cases h;have h2:=h2.cR;simp only[cB,Nat.ble_eq] at h2;refine iQ λπ a w R=> ?_;obtain⟨B,s,q',e,hb,hm,_,⟨h0,_⟩| ⟨cap,r8,ha,_⟩⟩:=h1.HD R
  .omega
  .exact⟨_,by simp[execOp,ho,ha,Instr.arrayAt,run_underlying hu];intro nL;omega,B,s,q',e,hb,rfl,by
    have:=wK z h2.2;omega⟩
 .cases h
omit [ay] in
theorem apl {α β γ:Type}{R:α->γ->Prop}{f:β->γ}:∀{l:List α} {m:List β},bu (λa b=>R a (f b)) l m->bu R l (m.map f)
 | [],[],_=>trivial
 |_::_,_::_,⟨a,b⟩=>⟨a,apl b⟩
 | [],_::_,h=>h.elim
 |_::_,[],h=>h.elim
theorem aFa {f:FuncId}{fs aek:Array Operand}{fp:List Fp}(ho:o.op=.makeFunc (.func f) fs aek)
  (h:aJ (match fs.toList with
   | []=>(Ab.uC Ab.wL aek.toList).bind λl=>.ret (dY o.dst (.fn f l))
   |_=>.fail) g us fp):Aw P o X D aM us g:=by
 split at h
 .rename_i hfs
  obtain⟨r,⟨_,h1⟩,_,h⟩:=aJ.bind' h;cases h;refine iQ λπ a w R=>⟨.func (.func f) #[] (aek.map a.eval),?_,_,rfl,?_⟩
  .have:fs=#[]:=by
    rw[<-ali];exact hfs
   simp[execOp,ho,this,Instr.makeFunc]
  .have:=aJ.uC (ρ:=λv x=>v.rel π (a.eval x)) (λx v l hx=>aJ.wL hx R) h1;rw[Array.toList_map];exact apl this
 .cases h
theorem aM7 {t:TypeId}{x:Operand}{i:Nat}{fp:List Fp}(ho:o.op=.field t x i)
  (h:aJ ((wL x).bind λ|.agg cs=>(Ab.eu (agz P t i)).bind λf=>(OK P f.type cs f.offset).bind λv=>.ret (dY o.dst (.r v))|_=>.fail) g us fp):Aw P o X D aM us g:=by
 obtain⟨r,⟨_,h1⟩,_,h⟩:=aJ.bind' h;split at h
 .rename_i cs
  obtain⟨f,⟨_,h2⟩,_,h⟩:=aJ.bind' h;obtain⟨v,⟨_,h3⟩,_,h⟩:=aJ.bind' h;cases h;refine iQ λπ a w R=> ?_;obtain⟨arr,ha,hx⟩:=h1.wL R;obtain⟨y,hy,hr⟩:=h3.OK hx w;refine⟨y,?_,hr⟩;have h2:=h2.eu;unfold agz at h2;split at h2
  .rename_i fs hu
   simp[execOp,ho,Instr.field,run_underlying hu,h2,ha,asAgg,hy]
  .cases h2
 .cases h
omit [ay] in
theorem aJ.aqC {i:Int}:∀{n j:Nat} {l:List Fp},aJ (aqC i n) g j l->0<=i->i<(n:Int)+1->j=i.toNat
 |0,j,l,h,h1,h2=>by cases h;omega
 |n+1,j,l,h,h1,h2=>by
  cases h with|test h=>
  cases hx:i==((n+1:Nat):Int) with
  |true=>
   rw[hx] at h;cases h;have:=eq_of_beq hx;omega
  |false=>
   rw[hx] at h;have:=ati hx;exact aJ.aqC h h1 (by omega)
omit [ay] in
theorem cE.L4 (o:cE)(d:Nat):(o.add d).val=o.val+d:=by
 cases o<;>simp only[cE.add,cE.val]<;>omega
omit [ay] in
theorem cE.aM8 (o:cE)(j z n:Nat):(o.idx j z n).val=o.val+j*z:=by
 cases o with
 |k c=>rfl
 |x c i y=>
  simp only[cE.idx];split
  .rename_i hy
   rw[beq_iff] at hy;subst hy;simp only[cE.val];rw[qP,<-Nat.mul_assoc];omega
  .simp only[cE.val];omega
omit [ay] in
theorem cE.ayt (o:cE)(j z:Nat):(o.aMH j z).val=o.val+j*z:=by
 cases o with
 |k c=>rfl
 |x c i y=>
  simp only[cE.aMH];split
  .rename_i hy
   rw[beq_iff] at hy;subst hy;simp only[cE.val];rw[qP];omega
  .simp only[cE.val];omega
omit [ay] in
theorem aJ.sel {o:cE}{i:Int}{n:Nat}{e:TypeId}{z:Nat}{o':cE}{l:List Fp}(h:aJ (sel P o i n e z) g o' l)(h1:0<=i)(h2:i<(n:Int)):o'.val=o.val+i.toNat*z:=by
 unfold Ab.sel at h;split at h
 .cases h;exact cE.aM8 ..
 .split at h
  .obtain⟨j,⟨_,h3⟩,_,h⟩:=aJ.bind' h;cases h;rw[h3.aqC h1 (by omega),cE.L4]
  .cases h;exact cE.aM8 ..
omit [ay] in
theorem aJ.aMN {o:cE}{i:Int}{n:Sz}{e:TypeId}{z:Nat}{o':cE}{l:List Fp}(h:aJ (aMN P o i n e z) g o' l)(h1:0<=i)(h2:i<(n.val:Int)):o'.val=o.val+i.toNat*z:=by
 unfold Ab.aMN at h;split at h
 .split at h
  .obtain⟨j,⟨_,h3⟩,_,h⟩:=aJ.bind' h;cases h;simp only[Sz.val] at h2;rw[h3.aqC h1 (by omega),cE.L4]
  .cases h;exact cE.ayt ..
 .cases h;exact cE.ayt ..
theorem aM9 {t:TypeId}{x i:Operand}{fp:List Fp}(ho:o.op=.index t x i)
  (h:aJ ((wL x).bind λv=>(K7 i).bind λi=>match P.underlying t,v with
   |some (.array n e),.agg cs=>(Ab.eu (iZ P e)).bind λz=>(Ab.cR (wr 1 z&&wr (n*z) (aj.size cs))).bind λ_=>(Ab.cR (bf i.2 n)).bind λ_=>(Ab.sel P (.k 0) i.2 n e z).bind λo'=>(partOf P e cs o').bind λv=>.ret (dY o.dst (.r v))
   |some .string,.c (.f (.s b))=>(Ab.cR (bf i.2 b.size)).bind λ_=>.ret (dY o.dst (.r (.c (.f (.i .u8 (EO b i.2.toNat))))))
   |_,_=>.fail) g us fp):Aw P o X D aM us g:=by
 obtain⟨r,⟨_,h1⟩,_,h⟩:=aJ.bind' h;obtain⟨j,⟨_,h2⟩,_,h⟩:=aJ.bind' h;split at h
 .rename_i n e cs hu _
  obtain⟨z,⟨_,h3⟩,_,h⟩:=aJ.bind' h;obtain⟨_,⟨_,h7⟩,_,h⟩:=aJ.bind' h;obtain⟨_,⟨_,h4⟩,_,h⟩:=aJ.bind' h;obtain⟨i',⟨_,h6⟩,_,h⟩:=aJ.bind' h;obtain⟨v,⟨_,h5⟩,_,h⟩:=aJ.bind' h;cases h;refine iQ λπ a w R=> ?_;obtain⟨arr,ha,hx⟩:=h1.wL R;have h4:=h4.cR;simp only[bf,cB,jW] at h4;have h7:=h7.cR;simp only[cB,fy] at h7;have hi:i'.val=j.2.toNat*z:=(h6.sel h4.1 h4.2).trans (dG _)
  have hb:j.2.toNat*z+z<=n*z:=by
   have:=wK z (show j.2.toNat+1<=n by omega);rw[qP] at this;omega
  obtain⟨y,hy,hr⟩:=h5.partOf h3.eu h7.1 (by rw[hi];omega) hx w;rw[hi] at hy;refine⟨y,?_,hr⟩;simp[execOp,ho,Instr.index,run_underlying hu,h2.K7 R,ha,asIntOf,h4,run_sizeOf h3.eu,hy]
 .rename_i b hu _
  obtain⟨_,⟨_,h4⟩,_,h⟩:=aJ.bind' h;cases h;refine iQ λπ a w R=> ?_;have ha:a.eval x=.string b:=h1.wL R;have h4:=h4.cR;simp only[bf,cB,jW] at h4;have hb:b[j.2.toNat]? =some (b[j.2.toNat]'(by omega)):=getElem?_pos ..;refine⟨.int .u8 (EO b j.2.toNat),?_,rfl⟩;unfold EO;rw[hb];simp[execOp,ho,Instr.index,run_underlying hu,h2.K7 R,ha,asIntOf,h4.1,hb]
 .cases h
theorem aHu {x:Operand}{i:Nat}{fp:List Fp}(ho:o.op=.extract x i)
  (h:aJ ((Ep x).bind λ|.tup vs=>(Ab.eu (vs[i]?)).bind λv=>.ret (dY o.dst (.r v))|_=>.fail) g us fp):Aw P o X D aM us g:=by
 obtain⟨r,⟨_,h1⟩,_,h⟩:=aJ.bind' h;split at h
 .rename_i vs
  obtain⟨v,⟨_,h2⟩,_,h⟩:=aJ.bind' h;cases h;refine iQ λπ a w R=> ?_;obtain⟨arr,ha,hx⟩:=h1.Ep R;obtain⟨y,hy,hr⟩:=hx.get h2.eu;refine⟨y,?_,hr⟩;have hy:arr[i]? =some y:=by simpa using hy
  simp[execOp,ho,Instr.extract,ha,hy]
 .cases h
theorem aCA {t:TypeId}{x:Operand}{i:Nat}{fp:List Fp}(ho:o.op=.fieldAddr t x i)
  (h:aJ ((HD x).bind λc=>(ayl P t c i).bind λv=>.ret (dY o.dst (.r (.c v)))) g us fp):Aw P o X D aM us g:=by
 obtain⟨r,⟨_,h1⟩,_,h⟩:=aJ.bind' h;obtain⟨v,⟨_,h2⟩,_,h⟩:=aJ.bind' h;cases h;refine iQ λπ a w R=> ?_;have ha:=h1.HD R;unfold ayl at h2;split at h2
 .rename_i l
  obtain⟨f,⟨_,h3⟩,_,h2⟩:=aJ.bind' h2;obtain⟨n,⟨_,h4⟩,_,h2⟩:=aJ.bind' h2;obtain⟨_,⟨_,h5⟩,_,h2⟩:=aJ.bind' h2;cases h2;obtain⟨B,s,ha,hc⟩:=ha;have h3:=h3.eu;have h5:=h5.cR;simp only[cB,fy] at h5;have hn:n≠0:=by omega
  unfold agz at h3;split at h3
  .rename_i fs hu
   refine⟨.pointer (some ⟨B,s+f.offset,none⟩),?_,B,s+f.offset,rfl,λj v hj=> ?_⟩
   .simp[execOp,ho,Instr.fieldAt,run_underlying hu,h3,ha,Instr.sureAddr,fieldPlace,run_sizeOf h4.eu,hn,na]
   .rw[ab5] at hj;split at hj
    .rw[Te] at hj;rw[Cc];exact hc _ v hj
    .cases hj
  .cases h3
 .rename_i b q m
  obtain⟨f,⟨_,h3⟩,_,h2⟩:=aJ.bind' h2;obtain⟨n,⟨_,h4⟩,_,h2⟩:=aJ.bind' h2;obtain⟨_,⟨_,h5⟩,_,h2⟩:=aJ.bind' h2;cases h2;obtain⟨B,s,q',e,hb,ha,hm⟩:=ha;have h3:=h3.eu;have h5:=h5.cR;simp only[cB,fy] at h5;have hn:n≠0:=by omega
  unfold agz at h3;split at h3
  .rename_i fs hu
   refine⟨.pointer (some ⟨B,s+(q.add f.offset).val,none⟩),?_,B,s,q',e,hb,rfl,by rw[cE.L4];omega⟩;simp[execOp,ho,Instr.fieldAt,run_underlying hu,h3,ha,Instr.sureAddr,fieldPlace,run_sizeOf h4.eu,hn,na,Cc,cE.L4]
  .cases h3
 .cases h2
theorem aCB {t:TypeId}{x i:Operand}{fp:List Fp}(ho:o.op=.indexAddr t x i)
  (h:aJ ((HD x).bind λc=>(K7 i).bind λi=>(aym P t c i.2).bind λv=>.ret (dY o.dst (.r (.c v)))) g us fp):Aw P o X D aM us g:=by
 obtain⟨r,⟨_,h1⟩,_,h⟩:=aJ.bind' h;obtain⟨j,⟨_,h2⟩,_,h⟩:=aJ.bind' h;obtain⟨v,⟨_,h3⟩,_,h⟩:=aJ.bind' h;cases h;refine iQ λπ a w R=> ?_;have ha:=h1.HD R;unfold aym at h3;split at h3
 .rename_i n e b q m hu _
  obtain⟨z,⟨_,h4⟩,_,h3⟩:=aJ.bind' h3;obtain⟨_,⟨_,h7⟩,_,h3⟩:=aJ.bind' h3;obtain⟨_,⟨_,h5⟩,_,h3⟩:=aJ.bind' h3;obtain⟨o',⟨_,h6⟩,_,h3⟩:=aJ.bind' h3;cases h3;obtain⟨B,s,q',e',hb,ha,hm⟩:=ha;have h5:=h5.cR;simp only[bf,cB,jW] at h5;have h7:=fy.1 h7.cR;have hi:=h6.sel h5.1 h5.2
  have hbd:j.2.toNat*z+z<=n*z:=by
   have:=wK z (show j.2.toNat+1<=n by omega);rw[qP] at this;omega
  refine⟨.pointer (some ⟨B,s+o'.val,none⟩),?_,B,s,q',e',hb,rfl,by omega⟩;rw[hi];simp[execOp,ho,Instr.indexAt,run_underlying hu,h2.K7 R,ha,asIntOf,Instr.sureAddr,h5,run_sizeOf h4.eu,na,Cc]
 .rename_i e b q len z' own hu _
  obtain⟨z,⟨_,h4⟩,_,h3⟩:=aJ.bind' h3;obtain⟨_,⟨_,h6⟩,_,h3⟩:=aJ.bind' h3;obtain⟨_,⟨_,h5⟩,_,h3⟩:=aJ.bind' h3;obtain⟨o',⟨_,h8⟩,_,h3⟩:=aJ.bind' h3;cases h3;have h5:=h5.cR;simp only[bf,cB,jW] at h5;have h6:=beq_iff.1 h6.cR;subst h6;have hi:=h8.aMN h5.1 h5.2;obtain⟨B,s,q',e',hb,hm,_,⟨h0,_⟩| ⟨cap,r8,ha,_⟩⟩:=ha
  .omega
  .have hbd:j.2.toNat*z+z<=len.val*z:=by
    have:=wK z (show j.2.toNat+1<=len.val by omega);rw[qP] at this;omega
   refine⟨.pointer (some ⟨B,s+o'.val,none⟩),?_,B,s,q',e',hb,rfl,by omega⟩;rw[hi];simp[execOp,ho,Instr.indexAt,run_underlying hu,h2.K7 R,ha,asIntOf,h5,run_sizeOf h4.eu,na,Cc]
 .rename_i e n z' cols hu _
  obtain⟨z,⟨_,h4⟩,_,h3⟩:=aJ.bind' h3;obtain⟨_,⟨_,h6⟩,_,h3⟩:=aJ.bind' h3;obtain⟨_,⟨_,h5⟩,_,h3⟩:=aJ.bind' h3;cases h3;have h5:=h5.cR;simp only[bf,cB,jW] at h5;have h6:=beq_iff.1 h6.cR;subst h6;obtain⟨hz,⟨h0,_⟩| ⟨B,s,cap,r8,ha,hc⟩⟩:=ha
  .omega
  .refine⟨.pointer (some ⟨B,s+j.2.toNat*z,none⟩),?_,B,s+j.2.toNat*z,rfl,λi f hi=> ?_⟩
   .simp[execOp,ho,Instr.indexAt,run_underlying hu,h2.K7 R,ha,asIntOf,h5,run_sizeOf h4.eu,na]
   .rw[Ca,mL] at hi;obtain⟨q,hq,rfl⟩:=hi;have hil:=(lL.1 hq).1
    have hbd:j.2.toNat*z+z<=n*z:=by
     have:=wK z (show j.2.toNat+1<=n by omega);rw[qP] at this;omega
    obtain⟨f,v,e1,e2,e3⟩:=hc (j.2.toNat*z+i) (by omega);refine⟨v,by rw[Cc];exact e2,?_⟩
    have e4:ja cols (j.2.toNat*z+i)=.f (q.at j.2.toNat):=by
     unfold ja;rw[hz,ab8,atj,Nat.mul_add_div (by omega),ayj (by omega),Nat.div_eq_of_lt (by omega),hq];rfl
    rw[e1] at e4;cases e4;exact e3
 .rename_i n e l hu _
  obtain⟨z,⟨_,h4⟩,_,h3⟩:=aJ.bind' h3;obtain⟨_,⟨_,h7⟩,_,h3⟩:=aJ.bind' h3;obtain⟨_,⟨_,h5⟩,_,h3⟩:=aJ.bind' h3;obtain⟨o',⟨_,h6⟩,_,h3⟩:=aJ.bind' h3;cases h3;obtain⟨B,s,ha,hc⟩:=ha;have h5:=h5.cR;simp only[bf,cB,jW] at h5;have hi:=h6.aqC (by omega) (by omega);refine⟨.pointer (some ⟨B,s+j.2.toNat*z,none⟩),?_,B,s+j.2.toNat*z,rfl,λi f hf=> ?_⟩
  .simp[execOp,ho,Instr.indexAt,run_underlying hu,h2.K7 R,ha,asIntOf,Instr.sureAddr,h5,run_sizeOf h4.eu,na]
  .rw[ab5] at hf;split at hf
   .rw[Te,hi] at hf;rw[Cc];exact hc _ f hf
   .cases hf
 .cases h3
theorem aJ.aAa {x:Option Operand}{v:Option Int}{l:List Fp}{π:Pi}{a:Act}{w:World}(h:aJ (aAa x) g v l)(R:Rel X D π g a w):
  (x=none/\v=none)∨∃y k i,x=some y/\v=some i/\a.eval y=.int k i:=by
 cases x with
 |none=>cases h;exact .inl ⟨rfl,rfl⟩
 |some y=>
  obtain⟨r,⟨_,h1⟩,_,h⟩:=aJ.bind' h;cases h;exact .inr ⟨y,r.1,r.2,rfl,rfl,h1.K7 R⟩
omit [ay] in
theorem aJ.US {lo hi:Option Int}{n:Nat}{lh:Nat×Nat}{l:List Fp}(h:aJ (US lo hi n) g lh l):
  lh.1<=lh.2/\lh.2<=n/\((hi=none/\lh.2=n)∨∃i,hi=some i/\0<=i/\i<=n/\lh.2=i.toNat)/\((lo=none/\lh.1=0)∨∃i,lo=some i/\0<=i/\i<=lh.2/\lh.1=i.toNat):=by
 obtain⟨hh,⟨_,h1⟩,_,h⟩:=aJ.bind' h;obtain⟨ll,⟨_,h2⟩,_,h⟩:=aJ.bind' h;cases h
 have e1:hh<=n/\((hi=none/\hh=n)∨∃i,hi=some i/\0<=i/\i<=n/\hh=i.toNat):=by
  cases hi with
  |none=>cases h1;exact⟨cZ _,.inl ⟨rfl,rfl⟩⟩
  |some i=>
   obtain⟨_,⟨_,h3⟩,_,h1⟩:=aJ.bind' h1;cases h1;have h3:=h3.cR;simp only[HE,cB,jW] at h3;exact⟨by omega,.inr ⟨i,rfl,h3.1,h3.2,rfl⟩⟩
 have e2:ll<=hh/\((lo=none/\ll=0)∨∃i,lo=some i/\0<=i/\i<=hh/\ll=i.toNat):=by
  cases lo with
  |none=>cases h2;exact⟨Nat.zero_le _,.inl ⟨rfl,rfl⟩⟩
  |some i=>
   obtain⟨_,⟨_,h3⟩,_,h2⟩:=aJ.bind' h2;cases h2;have h3:=h3.cR;simp only[HE,cB,jW] at h3;exact⟨by omega,.inr ⟨i,rfl,h3.1,h3.2,rfl⟩⟩
 exact⟨e2.1,e1.1,e1.2,e2.2⟩
end
end Go.Ab
namespace Go.Ab
variable [ay]
section
variable {P:Program} {o:Oper} {X:Cx} {D:Nat->Prop} {aM:Nat} {us:List Up} {g:Gt}
def OI (x:Option Int)(v:Option Value):Prop:=(x=none/\v=none)∨∃k i,x=some i/\v=some (.int k i)
theorem aJ.aXG {x:Option Operand}{v:Option Int}{l:List Fp}{π:Pi}{a:Act}{w:World}(h:aJ (Ab.aAa x) g v l)(R:Rel X D π g a w):OI v (x.map a.eval):=by
 rcases h.aAa R with⟨rfl,rfl⟩| ⟨y,k,i,rfl,rfl,e⟩
 .exact .inl ⟨rfl,rfl⟩
 .exact .inr ⟨k,i,rfl,by simp[e]⟩
omit [ay] in
theorem v8 {lo hi:Option Int}{n cap:Nat}{lh:Nat×Nat}{l:List Fp}(h:aJ (Ab.US lo hi n) g lh l)(hc:n<=cap){lv hv:Option Value}(h1:OI lo lv)(h2:OI hi hv)(isS:Bool)(w:World):
  (Instr.sliceBounds isS n cap lv hv none).run P w=.ok (lh.1,lh.2,cap) w:=by
 obtain⟨b1,b2,b3,b4⟩:=h.US
 have eh:∀code,(match hv with
   |some v=>Instr.sliceBound v cap code
   |none=>(pure n:Sem Nat)).run P w=.ok lh.2 w:=λcode=>by
  rcases h2 with⟨rfl,rfl⟩| ⟨k,i,rfl,rfl⟩
  .rcases b3 with⟨_,e⟩| ⟨i,e,_⟩
   .simp[e]
   .cases e
  .rcases b3 with⟨e,_⟩| ⟨i',e,c1,c2,c3⟩
   .cases e
   .cases e;simp only[Instr.sliceBound,asIntOf,Sem.run_bind,Sem.run_pure,Result.andThen_ok];rw[if_pos ⟨c1,by omega⟩,c3];exact Sem.run_pure ..
 have el:∀code,(match lv with
   |some v=>Instr.sliceBound v lh.2 code
   |none=>(pure 0:Sem Nat)).run P w=.ok lh.1 w:=λcode=>by
  rcases h1 with⟨rfl,rfl⟩| ⟨k,i,rfl,rfl⟩
  .rcases b4 with⟨_,e⟩| ⟨i,e,_⟩
   .simp[e]
   .cases e
  .rcases b4 with⟨e,_⟩| ⟨i',e,c1,c2,c3⟩
   .cases e
   .cases e;simp only[Instr.sliceBound,asIntOf,Sem.run_bind,Sem.run_pure,Result.andThen_ok];rw[if_pos ⟨c1,c2⟩,c3];exact Sem.run_pure ..
 have eh':=eh (if isS then .sliceAcap else .sliceAlen);have el':=el .sliceB;cases hv<;>cases lv<;>simp_all [Instr.sliceBounds]
omit [ay] in
theorem aXH (q:Bool)(n:Nat):(szQ q n).val=n:=by cases q<;>rfl
omit [ay] in
theorem atu {q:Bool}{lo hi:Option Int}{n:Sz}{lh:Nat×Nat}{l:List Fp}(h:aJ (Ab.US lo hi n.val) g lh l):(lenOf q lo hi n lh).val=lh.2-lh.1:=by
 obtain⟨b1,b2,b3,b4⟩:=h.US;cases lo<;>cases hi<;>simp only[lenOf,aXH]
 .rcases b3 with⟨_,e⟩| ⟨i,e,_⟩
  .rcases b4 with⟨_,e'⟩| ⟨i,e',_⟩
   .omega
   .cases e'
  .cases e
 .rcases b4 with⟨_,e'⟩| ⟨i,e',_⟩
  .omega
  .cases e'
omit [ay] in
theorem aFb {qq:Bool}{lo hi:Option Int}{n:Nat}{lh:Nat×Nat}{l:List Fp}(h:aJ (Ab.US lo hi n) g lh l)(o:cE)(z:Nat):(agB qq lo o lh.1 z).val=o.val+lh.1*z:=by
 obtain⟨b1,b2,b3,b4⟩:=h.US;cases lo<;>simp only[agB]
 .rcases b4 with⟨_,e'⟩| ⟨i,e',_⟩
  .rw[e'];omega
  .cases e'
 .cases qq
  .exact cE.ayt ..
  .exact cE.L4 ..
theorem aNa {t:TypeId}{x:Operand}{lo hi:Option Operand}{fp:List Fp}(ho:o.op=.slice t x lo hi none)
  (h:aJ ((HD x).bind λc=>(Ab.aAa lo).bind λl=>(Ab.aAa hi).bind λh=>(aKE P t c (vQ lo&&vQ hi) l h).bind λv=>.ret (dY o.dst (.r (.c v)))) g us fp):Aw P o X D aM us g:=by
 obtain⟨r,⟨_,h1⟩,_,h⟩:=aJ.bind' h;obtain⟨l,⟨_,h2⟩,_,h⟩:=aJ.bind' h;obtain⟨hh,⟨_,h3⟩,_,h⟩:=aJ.bind' h;obtain⟨v,⟨_,h4⟩,_,h⟩:=aJ.bind' h;cases h;refine iQ λπ a w R=> ?_;have ha:=h1.HD R;have ol:=h2.aXG R;have oh:=h3.aXG R;unfold aKE at h4;split at h4
 .rename_i n e b q m hu _ _
  obtain⟨z,⟨_,h5⟩,_,h4⟩:=aJ.bind' h4;obtain⟨_,⟨_,h7⟩,_,h4⟩:=aJ.bind' h4;obtain⟨lh,⟨_,h6⟩,_,h4⟩:=aJ.bind' h4;cases h4;have h7:=fy.1 h7.cR;obtain⟨B,s,q',e',hb,ha,hm⟩:=ha;have hr:=v8 (P:=P) h6 (cZ n) ol oh false w;obtain⟨b1,b2,_,_⟩:=h6.US;have hl:=atu (q:=vQ lo&&vQ hi) (n:=.l n) h6;have aFc:=aFb (qq:=vQ lo&&vQ hi) h6 q z;refine⟨_,by simp[execOp,ho,Instr.sliceAt,run_underlying hu,ha,Instr.sureAddr,hr,run_sizeOf h5.eu];rfl,?_⟩;show CV.rel π (.sl b (agB (vQ lo&&vQ hi) l q lh.1 z) (lenOf (vQ lo&&vQ hi) l hh (.l n) lh) z false) _
  have hbd:(agB (vQ lo&&vQ hi) l q lh.1 z).val+(lenOf (vQ lo&&vQ hi) l hh (.l n) lh).val*z<=q':=by
   rw[hl,aFc];have:lh.1*z+(lh.2-lh.1)*z=lh.2*z:=by rw[<-qP];congr 1;omega
   have:=wK z b2;omega
  refine⟨B,s,q',e',hb,hbd,(λh=>by cases h),?_⟩;by_cases hm2:n=lh.1
  .left
   refine⟨by omega,some ⟨B,s+q.val,none⟩,?_⟩;rw[if_pos hm2];have e1:lh.2-lh.1=0:=by omega
   have e2:n-lh.1=0:=by omega
   rw[e1,e2]
  .right
   refine⟨n-lh.1,by omega,?_,λh=>by cases h⟩;rw[if_neg hm2,na,Cc,hl,aFc]
 .rename_i e b q len z own hu _ _
  obtain⟨z',⟨_,h5⟩,_,h4⟩:=aJ.bind' h4;obtain⟨_,⟨_,h7⟩,_,h4⟩:=aJ.bind' h4;obtain⟨lh,⟨_,h6⟩,_,h4⟩:=aJ.bind' h4;cases h4;have hz:z=z':=beq_iff.1 h7.cR;subst hz;obtain⟨b1,b2,b3,b4⟩:=h6.US;have hl:=atu (q:=aqD (vQ lo&&vQ hi) len) h6;have aFc:=aFb (qq:=aqD (vQ lo&&vQ hi) len) h6 q z;have e4:lh.1*z+(lh.2-lh.1)*z=lh.2*z:=by rw[<-qP];congr 1;omega
  obtain⟨B,s,q',e',hb,hm,qy,ha⟩:=ha
  have hbd:(agB (aqD (vQ lo&&vQ hi) len) l q lh.1 z).val+(lenOf (aqD (vQ lo&&vQ hi) len) l hh len lh).val*z<=q':=by
   clear ha
   rw[hl,aFc];have:=wK z b2;omega
  have a1P:hh.isNone=true->lh.2=len.val:=λh=>by
   rcases b3 with⟨_,e⟩| ⟨i,e,_⟩
   .exact e
   .rw[e] at h;cases h
  have aNb:(own&&hh.isNone)=true->(agB (aqD (vQ lo&&vQ hi) len) l q lh.1 z).val+(lenOf (aqD (vQ lo&&vQ hi) len) l hh len lh).val*z=q':=λh=>by
   clear ha
   simp only[cB] at h;have:=qy h.1;rw[hl,aFc];rw[a1P h.2] at e4 ⊢;omega
  rcases ha with⟨h0,y,ha⟩| ⟨cap,r8,ha,aQS⟩
  .have hr:=v8 (P:=P) h6 (cZ _) ol oh true w;clear b3 b4
   have e1:lh.1=0:=by omega
   have e2:lh.2=0:=by omega
   rw[h0] at hr;refine⟨.slice y 0 0,by simp[execOp,ho,Instr.sliceAt,Instr.slice,run_underlying hu,ha,hr,run_sizeOf h5.eu,e1,e2],B,s,q',e',hb,hbd,aNb,.inl ⟨by omega,y,rfl⟩⟩
  .have hr:=v8 (P:=P) h6 r8 ol oh true w;refine⟨_,by simp[execOp,ho,Instr.sliceAt,Instr.slice,run_underlying hu,ha,hr,run_sizeOf h5.eu];rfl,?_⟩;show CV.rel π (.sl b (agB (aqD (vQ lo&&vQ hi) len) l q lh.1 z) (lenOf (aqD (vQ lo&&vQ hi) len) l hh len lh) z (own&&hh.isNone)) _;refine⟨B,s,q',e',hb,hbd,aNb,?_⟩;by_cases hm2:cap=lh.1
   .left
    refine⟨by omega,some ⟨B,s+q.val,none⟩,?_⟩;rw[if_pos hm2];have e1:lh.2-lh.1=0:=by omega
    have e2:cap-lh.1=0:=by omega
    rw[e1,e2]
   .right
    refine⟨cap-lh.1,by omega,?_,λh=> ?_⟩
    .rw[if_neg hm2,na,Cc,hl,aFc]
    .simp only[cB] at h;have hw2:=aQS h.1;have e3:lh.1*z+(cap-lh.1)*z=cap*z:=by rw[<-qP];congr 1;omega
     rw[aFc];omega
 .rename_i e hu _ _
  obtain⟨z,⟨_,h5⟩,_,h4⟩:=aJ.bind' h4;obtain⟨lh,⟨_,h6⟩,_,h4⟩:=aJ.bind' h4;cases h4;have ha:a.eval x=.slice none 0 0:=ha;have hr:=v8 (P:=P) h6 (cZ 0) ol oh true w;obtain⟨b1,b2,b3,b4⟩:=h6.US;have e1:lh.1=0:=by omega
  have e2:lh.2=0:=by omega
  exact⟨.slice none 0 0,by simp[execOp,ho,Instr.sliceAt,Instr.slice,run_underlying hu,ha,hr,run_sizeOf h5.eu,e1,e2],rfl⟩
 .rename_i e n z cols hu _ _
  obtain⟨z',⟨_,h5⟩,_,h4⟩:=aJ.bind' h4;obtain⟨_,⟨_,h7⟩,_,h4⟩:=aJ.bind' h4;obtain⟨lh,⟨_,h6⟩,_,h4⟩:=aJ.bind' h4;cases h4;have hz:z=z':=beq_iff.1 h7.cR;subst hz;obtain⟨b1,b2,b3,b4⟩:=h6.US;have hl:=atu (q:=false) (n:=.s n) h6;have hfl:(au1 l lh.1 cols).length=cols.length:=by unfold au1;split<;>simp
  have hfg:∀j,ja (au1 l lh.1 cols) j=ja cols (lh.1*cols.length+j):=λj=>by
   unfold au1;split
   .rcases b4 with⟨_,e⟩| ⟨i,e,_⟩
    .rw[e,Th,dG]
    .cases e
   .exact aAc ..
  obtain⟨hz,ha⟩:=ha;rcases ha with⟨h0,y,ha⟩| ⟨B,s,cap,r8,ha,hc⟩
  .have hr:=v8 (P:=P) h6 (cZ _) ol oh true w;clear b3 b4
   have e1:lh.1=0:=by omega
   have e2:lh.2=0:=by omega
   rw[h0] at hr;exact⟨.slice y 0 0,by simp[execOp,ho,Instr.sliceAt,Instr.slice,run_underlying hu,ha,hr,run_sizeOf h5.eu,e1,e2],hfl.trans hz,.inl ⟨by omega,y,rfl⟩⟩
  .have hr:=v8 (P:=P) h6 r8 ol oh true w;refine⟨_,by simp[execOp,ho,Instr.sliceAt,Instr.slice,run_underlying hu,ha,hr,run_sizeOf h5.eu];rfl,hfl.trans hz,?_⟩;by_cases hm2:cap=lh.1
   .left
    refine⟨by omega,some ⟨B,s,none⟩,?_⟩;rw[if_pos hm2];have e1:lh.2-lh.1=0:=by omega
    have e2:cap-lh.1=0:=by omega
    rw[e1,e2]
   .right
    refine⟨B,s+lh.1*z,cap-lh.1,by omega,by rw[if_neg hm2,na,hl],λj hj=> ?_⟩;rw[hl] at hj;have e4:lh.1*z+(lh.2-lh.1)*z=lh.2*z:=by rw[<-qP];congr 1;omega
    have e5:=wK z b2;obtain⟨f,v,f1,f2,f3⟩:=hc (lh.1*z+j) (by omega);exact⟨f,v,by rw[hfg,hz];exact f1,by rw[Cc];exact f2,f3⟩
 .cases h4
omit [ay] in
theorem aNc (vs:List Value):∀(off k:Nat) (cs:Array Value),off+k+vs.length<=cs.size->
  ((vs.zipIdx k).foldl (λ(cs:Array Value) (x:Value×Nat)=>cs.setIfInBounds (off+x.2) x.1) cs).size=cs.size/\
  ∀i d,((vs.zipIdx k).foldl (λ(cs:Array Value) (x:Value×Nat)=>cs.setIfInBounds (off+x.2) x.1) cs).getD i d=if off+k<=i/\i<off+k+vs.length then vs.getD (i-(off+k)) d else cs.getD i d:=by
 induction vs with
 |nil=>intro off k cs _;refine⟨rfl,λi d=> ?_⟩;rw[if_neg (by simp)];rfl
 |cons v vs ih=>
  intro off k cs h;simp only[LV] at h;rw[List.zipIdx_cons,List.foldl_cons];obtain⟨h1,h2⟩:=ih off (k+1) (cs.setIfInBounds (off+k) v) (by simp;omega);refine⟨by simpa using h1,λi d=> ?_⟩;rw[h2];simp only[LV];by_cases c1:off+(k+1)<=i/\i<off+(k+1)+vs.length
  .rw[if_pos c1,if_pos (by omega),show i-(off+k)=(i-(off+(k+1)))+1 by omega];simp[List.getD]
  .rw[if_neg c1];by_cases c2:i=off+k
   .subst c2;rw[if_pos (by omega)];simp[Array.getD,show off+k<cs.size by omega]
   .rw[if_neg (by omega)];simp[aqA,aSw (Ne.symm c2)]
theorem aXI {π:Pi}{cs Ti vs:aj}{arr:Array Value}{xs:Array Value}{off:Nat}(h1:bu (CV.rel π) cs.list arr.toList)(h2:bu (CV.rel π) vs.list xs.toList)(hle:off+aj.size vs<=aj.size cs)(hu:aln cs off vs=some Ti):
  bu (CV.rel π) Ti.list (xs.zipIdx.foldl (λ(cs:Array Value) (x:Value×Nat)=>cs.setIfInBounds (off+x.2) x.1) arr).toList:=by
 obtain⟨l1,g1⟩:=jy h1;obtain⟨l2,g2⟩:=jy h2;obtain⟨u1,u2⟩:=ON hu;simp only[WC] at l1 l2;have key:=aNc xs.toList off 0 arr (by simp only[WC];omega)
 have e:(xs.zipIdx.foldl (λ(cs:Array Value) (x:Value×Nat)=>cs.setIfInBounds (off+x.2) x.1) arr)=((xs.toList.zipIdx 0).foldl (λ(cs:Array Value) (x:Value×Nat)=>cs.setIfInBounds (off+x.2) x.1) arr):=by
  rw[<-Array.foldl_toList];simp
 rw[e];refine yD (by rw[WC,key.1,u1,l1]) λj hj=> ?_;rw[u1] at hj;have yQ:j<((xs.toList.zipIdx 0).foldl (λ(cs:Array Value) (x:Value×Nat)=>cs.setIfInBounds (off+x.2) x.1) arr).size:=by rw[key.1,l1];exact hj
 have hk:=key.2 j undef;rw[aqA,aiX yQ,LU] at hk;refine⟨_,by rw[WB,aiX yQ],?_⟩;rw[hk,u2 j hj];simp only[ku,WC,l2];by_cases c:off<=j/\j<off+aj.size vs
 .rw[if_pos c,if_pos c];obtain⟨x,hx,hr⟩:=g2 (j-off) (by omega);simp only[List.getD,hx,LU];exact hr
 .rw[if_neg c,if_neg c];obtain⟨x,hx,hr⟩:=g1 j hj;rw[WB] at hx;simp only[aqA,hx,LU];exact hr
theorem agP {π:Pi}{pl:Nat->Option (Nat×Nat)}:∀{l:List (Nat×RV)} {l':List (Nat×Value)} {cs Ti:aj} {arr:Array Value},bu (λ(p:Nat×RV) (q:Nat×Value)=>p.1=q.1/\p.2.rel π q.2) l l'->alq pl cs l=some Ti->bu (CV.rel π) cs.list arr.toList->
  ∃aST,Instr.fill pl arr l'=some aST/\bu (CV.rel π) Ti.list aST.toList/\aj.size Ti=aj.size cs
 | [],[],cs,Ti,arr,_,h,ha=>by simp[alq] at h;subst h;exact⟨arr,rfl,ha,rfl⟩
 |(i,v)::l,(i',x)::l',cs,Ti,arr,⟨⟨hi,hv⟩,hl⟩,h,ha=>by
  have hi:i=i':=hi;subst hi;simp only[alq] at h;split at h
  .cases h
  .rename_i q n hpl
   split at h
   .rename_i hc
    simp only[cB,beq_iff,fy] at hc;obtain⟨c1,c2⟩:=hc;split at h
    .rename_i cs1 hu
     have hcx:bu (CV.rel π) v.bU.list x.cells.toList:=RV.OO hv;have l1:=(jy hcx).1;have l2:=(jy ha).1;simp only[WC] at l1 l2;obtain⟨aST,h1,h2,h3⟩:=agP (pl:=pl) hl h (aXI ha hcx (by omega) hu);refine⟨aST,?_,h2,h3.trans (ON hu).1⟩;simp only[Instr.fill,hpl];rw[if_neg (by simp;omega)];exact h1
    .cases h
   .cases h
 | [],_::_,_,_,_,h,_,_=>h.elim
 |_::_,[],_,_,_,h,_,_=>h.elim
theorem aFd {ps:Array (Nat×Operand)}{l:List (Nat×RV)}{fp:List Fp}{π:Pi}{a:Act}{w:World}(h:aJ (Ab.uC (λp:Nat×Operand=>(wL p.2).bind λv=>.ret (p.1,v)) ps.toList) g l fp)(R:Rel X D π g a w):
  bu (λ(p:Nat×RV) (q:Nat×Value)=>p.1=q.1/\p.2.rel π q.2) l (ps.map λ(i,x)=>(i,a.eval x)).toList:=by
 have:=aJ.uC (ρ:=λ(p:Nat×RV) (x:Nat×Operand)=>p.1=x.1/\p.2.rel π (a.eval x.2)) (λx v l hx=>by
  obtain⟨r,⟨_,h1⟩,_,h2⟩:=aJ.bind' hx;cases h2;exact⟨rfl,h1.wL R⟩) h
 rw[Array.toList_map];exact apl this
theorem aNd {t:TypeId}{ps:Array (Nat×Operand)}{fp:List Fp}(ho:o.op=.build t ps)
  (h:aJ ((Ab.eu (AW P t)).bind λz=>(Ab.uC (λp=>(wL p.2).bind λv=>.ret (p.1,v)) ps.toList).bind λl=>(Ab.eu (placesOf P t)).bind λpl=>(Ab.eu (alq pl z.bU l)).bind λcs=>.ret (dY o.dst (.r (.agg cs)))) g us fp):Aw P o X D aM us g:=by
 obtain⟨z,⟨_,h1⟩,_,h⟩:=aJ.bind' h;obtain⟨l,⟨_,h2⟩,_,h⟩:=aJ.bind' h;obtain⟨pl,⟨_,h3⟩,_,h⟩:=aJ.bind' h;obtain⟨cs,⟨_,h4⟩,_,h⟩:=aJ.bind' h;cases h;refine iQ λπ a w R=> ?_;have h3:=h3.eu;have h4:=h4.eu;have hp:=aFd h2 R;obtain⟨zx,_,⟨it,hi,hz⟩,a3p⟩:=aep h1.eu w;have hzr:=RV.OO (a3p π)
 have hb:∃arr,P.built t (ps.map λ(i,x)=>(i,a.eval x)).toList=some arr/\bu (CV.rel π) cs.list arr.toList:=by
  unfold placesOf at h3;split at h3
  .rename_i fs hu
   cases hq:fs.toList.mapM (λf=>(P.info? f.type).map λi=>(f.offset,i.size)) with
   |none=>rw[hq] at h3;cases h3
   |some a4F=>
    rw[hq] at h3;cases h3;obtain⟨arr,e1,e2,_⟩:=agP hp h4 hzr;refine⟨arr,?_,e2⟩;simp only[Program.built,hi,hu,hz,hq];rw[<-e1];congr 1;funext i;simp
  .rename_i n e hu
   cases hq:iZ P e with
   |none=>rw[hq] at h3;cases h3
   |some n=>
    rw[hq] at h3;cases h3;obtain⟨ie,hie,rfl⟩:=aqH hq;obtain⟨arr,e1,e2,_⟩:=agP hp h4 hzr;exact⟨arr,by simp only[Program.built,hi,hu,hz,hie];exact e1,e2⟩
  .cases h3
 obtain⟨arr,e1,e2⟩:=hb;exact⟨.agg arr,by simp[execOp,ho,run_build w t _ arr e1],arr,rfl,e2⟩
omit [ay] in
theorem ayu (n:Nat)(l:aj):aj.size (rep n l)=n*aj.size l:=by
 induction n with
 |zero=>rw[rep,aj.lG,Th]
 |succ n ih=>rw[rep,aj.size_append,ih,atk];omega
omit [ay] in
theorem aXJ (n:Nat)(l:aj)(i:Nat)(h:i<n*aj.size l):aj.get (rep n l) i=aj.get l (i%aj.size l):=by
 induction n generalizing i with
 |zero=>omega
 |succ n ih=>
  rw[rep,aj.get_append];by_cases hi:i<aj.size l
  .rw[if_pos hi,ayj hi]
  .rw[if_neg hi,ih _ (by rw[atk] at h;omega)];congr 1
   exact(Nat.mod_eq_sub_mod (by omega)).symm
theorem Rel.row {π:Pi}{a:Act}{w:World}{g:Gt}(R:Rel X D π g a w){k:aj}{n:Sz}{q cap:Nat}{arr:Array Value}{t:TypeId}{dst:Option Tmp}(hd:∀d,dst=some d->d<X.N)(h0:π aM=none)(hk:X.k<=aM)(hn:n.val<=cap)(hc:cap*q<=arr.size)(hs:k.size=n.val*q)
  (h2:∀j,j<k.size->∃v,arr[j]? =some v/\(k.get j).rel π v):
  Rel X D (AA π aM (w.heap.size,0,k.size,cap*q)) (cH (dY dst (.r (.c (.sl aM (.k 0) n q true)))) ((Up.new aM k).hI g)) (a.put dst (.slice (some ⟨w.heap.size,0,none⟩) n.val cap)) (w.alloc (.cells arr t)):=by
 have hq:=wK q hn;refine(R.alloc (k:=k) (cs:=arr) (t:=t) (e:=cap*q) h0 hk (by omega) hc h2).dst hd ?_;exact⟨_,_,_,_,qi _ _ _,by simp only[cE.val];omega,λ_=>by simp only[cE.val];omega,.inr ⟨cap,hn,rfl,λ_=>by simp only[cE.val];omega⟩⟩
omit [ay] in
theorem WQ {π:Pi}{b:Nat}{p:Nat×Nat×Nat×Nat}{aM c:Nat}(hb:aM<=b/\b<aM+c):∀b',AA π b p b'≠none->π b'≠none∨(aM<=b'/\b'<aM+c):=by
 intro b' h;simp only[AA] at h;by_cases e:b'=b
 .subst e;exact .inr hb
 .simp only[e,gA] at h;exact .inl h
omit [ay] in
theorem L8 (dst:Option Tmp)(v:AV)(us:List Up)(g:Gt)(hus:∀u∈us,∀i x,u≠.t i x):cH (dY dst v++us) g=cH (dY dst v) (cH us g):=by
 rw[QC];cases dst with
 |none=>rfl
 |some d=>
  show cH us ((Up.t d v).hI g)=(Up.t d v).hI (cH us g);induction us generalizing g with
  |nil=>rfl
  |cons u us ih=>
   have hu:=hus u (by simp);show cH us (u.hI ((Up.t d v).hI g))=(Up.t d v).hI (cH us (u.hI g));rw[<-ih _ λx hx=>hus x (by simp[hx])];cases u with
   |t i x=>exact absurd rfl (hu i x)
   |_=>rfl
theorem ayv {t:TypeId}{n:Nat}{ps:Array (Nat×Operand)}{fp:List Fp}(ho:o.op=.buildSlice t n ps)
  (h:aJ (match P.underlying t with
  |some (.slice e)=>(Ab.eu (AW P e)).bind λz=>(Ab.eu (iZ P e)).bind λq=>
   (Ab.cR (wr 1 q&&wr (n*q) 16777216)).bind λ_=>
   (Ab.uC (λp=>(wL p.2).bind λv=>.ret (p.1,v)) ps.toList).bind λl=>
   (Ab.cR (Nat.beq (aj.size z.bU) q)).bind λ_=>(Ab.eu (alq (λi=>some (i*q,q)) (rep n z.bU) l)).bind λcs=>.ret (dY o.dst (.r (.c (.sl aM (.k 0) (.l n) q true)))++[.new aM (apk P e n q cs)])
  |_=>.fail) g us fp):Aw P o X D aM us g:=by
 split at h
 .rename_i e hu
  obtain⟨z,⟨_,h1⟩,_,h⟩:=aJ.bind' h;obtain⟨q,⟨_,h2⟩,_,h⟩:=aJ.bind' h;obtain⟨_,⟨_,h3⟩,_,h⟩:=aJ.bind' h;obtain⟨l,⟨_,h4⟩,_,h⟩:=aJ.bind' h;obtain⟨_,⟨_,h5⟩,_,h⟩:=aJ.bind' h;obtain⟨cs,⟨_,h6⟩,_,h⟩:=aJ.bind' h;cases h;have h3:=h3.cR;simp only[cB,fy] at h3;have h5:aj.size z.bU=q:=beq_iff.1 h5.cR;intro π a w next Q R hk hf hd hD hn;obtain⟨zx,hz1,_,hz2⟩:=aep h1.eu w;obtain⟨zl,zg⟩:=jy (RV.OO (hz2 π));rw[WC] at zl;have hp:=aFd h4 R
  have alC:bu (CV.rel π) (aj.list (rep n z.bU)) ((Array.range (n*q)).map (zx.cells[·%zx.cells.size]!)).toList:=by
   refine yD (by simp[ayu,h5]) λj hj=> ?_;rw[ayu,h5] at hj;rw[aXJ _ _ _ (by rw[h5];exact hj),h5];obtain⟨y,hy,hr⟩:=zg (j%q) (by rw[h5];exact Nat.mod_lt _ (by omega));refine⟨y,?_,hr⟩;have e3:zx.cells.size=q:=zl.trans h5;have e4:zx.cells[j%q]? =some y:=by simpa using hy
   simp[hj,e3,getElem!_def,e4]
  obtain⟨arr,e1,e2,e3⟩:=agP hp h6.eu alC;have e1:Instr.fill (λi=>some (i*q,q)) ((Array.range (n*q)).map (zx.cells[·%zx.cells.size]!)) (ps.toList.map λx=>(x.1,a.eval x.2))=some arr:=by rw[Array.toList_map] at e1;exact e1
  obtain⟨cl1,cl2⟩:=jy e2;rw[WC] at cl1;rw[ayu,h5] at e3
  have hbr:aj.size (apk P e n q cs)=aj.size cs/\∀j,j<aj.size cs->aj.get (apk P e n q cs) j=aj.get cs j:=by
   unfold apk;split
   .exact⟨rfl,λ_ _=>rfl⟩
   .exact aas q cs
  generalize apk P e n q cs=kk at hbr hf hn
  obtain⟨br1,br2⟩:=hbr;have hcn:cF (dY o.dst (.r (.c (.sl aM (.k 0) (.l n) q true)))++[Up.new aM kk])=1:=by unfold dY cF;cases o.dst<;>rfl
  have h0:=hf aM (cZ _) (by omega)
  have R1:=R.row (k:=kk) (n:=.l n) (q:=q) (cap:=n) (arr:=arr) (t:=e) hd h0 hk (cZ _) (by omega) (br1.trans e3) (λj hj=>by
   rw[br1] at hj;obtain⟨y,hy,hr⟩:=cl2 j hj;rw[br2 j hj];exact⟨y,by simpa using hy,hr⟩)
  refine QB (x:=.slice (some ⟨w.heap.size,0,none⟩) n n) (w':=w.alloc (.cells arr e)) ?_ (hn _ _ (AA π aM (w.heap.size,0,aj.size kk,n*q)) (A5 h0 _) (WQ ⟨cZ _,by omega⟩) ?_)
  .have h24:¬(16777216<n*q):=by omega
   simp only[execOp,ho,Instr.buildSlice,Sem.run_bind,run_underlying hu,Result.andThen_ok,run_sizeOf h2.eu];by_cases hnq:n*q=0
   .have hn0:n=0:=by
     rcases Nat.mul_eq_zero.1 hnq with h|h
     .exact h
     .omega
    subst hn0;simp only[Th] at e1 ⊢;have a3q:(Array.range 0).map (zx.cells[·%zx.cells.size]!)=#[]:=aXo (by simp);have hr0:Array.range 0=#[]:=aXo (by simp);rw[a3q] at e1;simp[e1,hr0,L7]
   .simp[h24,hnq,hz1,e1,L7]
  .rw[L8 _ _ _ _ (by simp)];exact R1
 .cases h
theorem aCC {t:TypeId}{n c:Operand}{fp:List Fp}(ho:o.op=.makeSlice t n c)
  (h:aJ (match P.underlying t with
  |some (.slice e)=>(Ab.eu (AW P e)).bind λz=>(Ab.eu (iZ P e)).bind λq=>(K7 n).bind λn=>(K7 c).bind λc=>
   (Ab.cR (decide (n.2=0)&&decide (c.2=0))).bind λ_=>(Ab.eu (EN q z.bU)).bind λcols=>
   .ret (dY o.dst (.r (.c (.sl aM (.k 0) (.s 0) q true)))++[.new aM [.a (.s 0) cols]])
  |_=>.fail) g us fp):Aw P o X D aM us g:=by
 split at h
 .rename_i e hu
  obtain⟨z,⟨_,h1⟩,_,h⟩:=aJ.bind' h;obtain⟨q,⟨_,h2⟩,_,h⟩:=aJ.bind' h;obtain⟨nn,⟨_,h3⟩,_,h⟩:=aJ.bind' h;obtain⟨cc,⟨_,h4⟩,_,h⟩:=aJ.bind' h;obtain⟨_,⟨_,h5⟩,_,h⟩:=aJ.bind' h;obtain⟨cols,⟨_,h6⟩,_,h⟩:=aJ.bind' h;cases h;have h5:=h5.cR;simp only[cB,jW] at h5;intro π a w next Q R hk hf hd hD hn;have hv1:=h3.K7 R;have hv2:=h4.K7 R;rw[h5.1] at hv1;rw[h5.2] at hv2;have hcn:cF (dY o.dst (.r (.c (.sl aM (.k 0) (.s 0) q true)))++[Up.new aM [.a (.s 0) cols]])=1:=by unfold dY cF;cases o.dst<;>rfl
  have h0:=hf aM (cZ _) (by omega);have hs0:aj.size [.a (.s 0) cols]=0:=by simp[aj.size,Sg.size,Sz.val]
  have R1:=R.row (k:=[.a (.s 0) cols]) (n:=.s 0) (q:=q) (cap:=0) (arr:=#[]) (t:=e) hd h0 hk (cZ _) (by simp) (by rw[hs0];simp[Sz.val]) (λj hj=>by rw[hs0] at hj;omega)
  obtain⟨i,hi,hby⟩:∃i,P.info? e=some i/\True:=by
   have:=h2.eu;unfold iZ at this;cases hh:P.info? e with
   |none=>rw[hh] at this;cases this
   |some i=>exact⟨i,rfl,trivial⟩
  refine QB (x:=.slice (some ⟨w.heap.size,0,none⟩) 0 0) (w':=w.alloc (.cells #[] e)) ?_ (hn _ _ (AA π aM (w.heap.size,0,aj.size [.a (.s 0) cols],0*q)) (A5 h0 _) (WQ ⟨cZ _,by omega⟩) ?_)
  .have hw0:IntKind.i64.wrap 0=0:=by decide
   simp[execOp,ho,Instr.makeSlice,run_underlying hu,hv1,hv2,asInt,asIntOf,typeInfo,hi,hw0,run_sizeOf h2.eu,askRoom,L7]
   rw[show Array.range 0=#[] from aXo (by simp),Array.map_empty]
  .rw[L8 _ _ _ _ (by simp)];exact R1
 .cases h
end
end Go.Ab
namespace Go.Ab
variable [ay]
section
variable {P:Program} {o:Oper} {X:Cx} {D:Nat->Prop} {aM:Nat} {us:List Up} {g:Gt}
theorem K9 {c:Call}{args:List AV}{l:List Fp}{π:Pi}{a:Act}{w:World}(h:aJ (Ab.uC Ab.Ep c.args.toList) g args l)(R:Rel X D π g a w):bu (AV.rel π) args (c.args.map a.eval).toList:=by
 rw[Array.toList_map];exact apl (aJ.uC (ρ:=λv x=>v.rel π (a.eval x)) (λx v l hx=>aJ.Ep hx R) h)
omit [ay] in
theorem aXK {x:Array Value}{y:Value}(h:x.toList=[y]):x=#[y]:=by rw[<-ali];exact h
omit [ay] in
theorem aXL {x:Array Value}{y z:Value}(h:x.toList=[y,z]):x=#[y,z]:=by rw[<-ali];exact h
omit [ay] in
theorem a3r {x:Array TypeId}{y z:TypeId}(h:x.toList=[y,z]):x=#[y,z]:=by rw[<-ali];exact h
omit [ay] in
theorem ayw {R:AV->Value->Prop}{x:AV}{l:List Value}(h:bu R [x] l):∃y,l=[y]/\R x y:=by
 match l,h with
 | [y],⟨h,_⟩=>exact⟨y,rfl,h⟩
 | [],h=>exact h.elim
 |_::_::_,⟨_,h⟩=>exact h.elim
omit [ay] in
theorem ayx {R:AV->Value->Prop}{x x':AV}{l:List Value}(h:bu R [x,x'] l):∃y y',l=[y,y']/\R x y/\R x' y':=by
 match l,h with
 | [y,y'],⟨h,h',_⟩=>exact⟨y,y',rfl,h,h'⟩
 | [],h=>exact h.elim
 | [_],⟨_,h⟩=>exact h.elim
 |_::_::_::_,⟨_,_,h⟩=>exact h.elim
omit [ay] in
theorem agQ {c:Call}{bi:Builtin}(a:Act)(w:World)(ho:o.op=.call c)(hc:c.callee=.builtin bi):∃cs,(execOp a.eval o).run P w=(builtin bi c.argTypes o.type cs (c.args.map a.eval)).run P w:=
 ⟨_,by simp[execOp,ho,resolve,hc,invoke];rfl⟩
theorem aI5 {π:Pi}:∀{vs:List FV} {xs:List AV} {ys:List Value},bu (λ(v:FV) (x:AV)=>x=.r (.c (.f v))) vs xs->bu (AV.rel π) xs ys->bu FV.rel vs ys
 | [],[],[],_,_=>trivial
 |v::vs,x::xs,y::ys,⟨e,h⟩,⟨a,b⟩=>by subst e;exact⟨a,aI5 h b⟩
 | [],_::_,_,h,_=>h.elim
 |_::_,[],_,h,_=>h.elim
 | [],[],_::_,_,h=>h.elim
 |_::_,_::_,[],_,h=>h.elim
theorem aTA {c:CV}{n:Nat}{l:List Fp}(h:aJ (match c with|.f _=>Rd.fail|c=>aSK c) g n l){π:Pi}{x:Value}(hx:c.rel π x):∃a cap,x=.slice a n cap:=by
 cases c<;>simp only[aSK] at h
 case sl b o m z own=>
  cases h;obtain⟨B,s,q,e,_,_,_,⟨h0,a,rfl⟩| ⟨cap,_,rfl,_⟩⟩:=hx
  .exact⟨_,_,by rw[h0]⟩
  .exact⟨_,_,rfl⟩
 case nils=>cases h;exact⟨_,_,hx⟩
 case fs n z cols=>
  cases h;obtain⟨_,⟨h0,a,rfl⟩| ⟨B,s,cap,_,rfl,_⟩⟩:=hx
  .exact⟨_,_,by rw[h0]⟩
  .exact⟨_,_,rfl⟩
 all_goals cases h
theorem aTB {c:Call}{args:List AV}{x:AV}{fp l0:List Fp}(ho:o.op=.call c)(hc:c.callee=.builtin .len)(ha:aJ (Ab.uC Ab.Ep c.args.toList) g args l0)(lF:args=[x])
  (h:aJ ((Ab.eu ((c.argTypes[0]?).bind P.underlying)).bind λ
  |.array n _=>.ret (dY o.dst (.r (.c (.f (.i .i64 (n:Int))))))
  |.slice _=>(Ab.asC x).bind λc=>(match c with|.f _=>Rd.fail|c=>aSK c).bind λn=>.ret (dY o.dst (.r (.c (.f (.i .i64 (n:Int))))))
  |.string=>(Ab.asC x).bind λc=>(match c with|.f (.s x)=>Rd.ret x.size|_=>Rd.fail).bind λn=>.ret (dY o.dst (.r (.c (.f (.i .i64 (n:Int))))))
  |_=>.fail) g us fp):Aw P o X D aM us g:=by
 subst lF;obtain⟨d,⟨_,h1⟩,_,h⟩:=aJ.bind' h;have h1:=h1.eu
 obtain⟨t,ht,hu⟩:∃t,c.argTypes[0]? =some t/\P.underlying t=some d:=by
  cases ht:c.argTypes[0]? with
  |none=>rw[ht] at h1;cases h1
  |some t=>rw[ht] at h1;exact⟨t,rfl,h1⟩
 split at h
 .rename_i n _ _
  cases h;refine iQ λπ a w R=> ?_;obtain⟨y,hy,hr⟩:=ayw (K9 ha R);have hy:=aXK hy;exact⟨goInt n,by obtain⟨cs,e⟩:=agQ (P:=P) a w ho hc;rw[e,hy];simp[builtin,Builtin.len_,ht,run_underlying hu],rfl⟩
 .obtain⟨c1,⟨_,h2⟩,_,h⟩:=aJ.bind' h;obtain⟨n,⟨_,h3⟩,_,h⟩:=aJ.bind' h;cases h;refine iQ λπ a w R=> ?_;obtain⟨y,hy,hr⟩:=ayw (K9 ha R);have hy:=aXK hy;rw[h2.asC] at hr;obtain⟨ad,cap,rfl⟩:=aTA h3 hr;exact⟨goInt n,by obtain⟨cs,e⟩:=agQ (P:=P) a w ho hc;rw[e,hy];simp[builtin,Builtin.len_,ht,run_underlying hu],rfl⟩
 .obtain⟨c1,⟨_,h2⟩,_,h⟩:=aJ.bind' h;obtain⟨n,⟨_,h3⟩,_,h⟩:=aJ.bind' h;cases h;refine iQ λπ a w R=> ?_;obtain⟨y,hy,hr⟩:=ayw (K9 ha R);have hy:=aXK hy;rw[h2.asC] at hr;split at h3
  .cases h3;have hr:y=_:=hr;subst hr;exact⟨_,by obtain⟨cs,e⟩:=agQ (P:=P) a w ho hc;rw[e,hy];simp[builtin,Builtin.len_,ht,run_underlying hu];rfl,rfl⟩
  .cases h3
 .cases h
omit [ay] in
theorem aNe {x:AV}{v:FV}{l:List Fp}(h:aJ (Ab.asF x) g v l):x=.r (.c (.f v)):=by
 unfold Ab.asF at h;split at h
 .cases h;rfl
 .cases h
theorem aI6 {f:FV->FV->Rd FV}{m:Value->Value->Sem Value}(hf:∀x y v l,aJ (f x y) g v l->∀a b,x.rel a->y.rel b->∀w,∃z,(m a b).run P w=.ok z w/\v.rel z):∀{xs:List FV} {ys:List Value} {x v:FV} {y:Value} {l:List Fp},aJ (au3 f x xs) g v l->x.rel y->bu FV.rel xs ys->∀w,∃z,(ys.foldlM m y).run P w=.ok z w/\v.rel z
 | [],[],x,v,y,l,h,hx,_,w=>by cases h;exact⟨y,by simp,hx⟩
 |a::xs,b::ys,x,v,y,l,h,hx,⟨ha,hs⟩,w=>by
  obtain⟨r,⟨_,h1⟩,_,h⟩:=aJ.bind' h;obtain⟨z,hz,hr⟩:=hf x a r _ h1 y b hx ha w;obtain⟨z',uY,hr'⟩:=aI6 hf h hr hs w;exact⟨z',by simp[List.foldlM_cons,hz,uY],hr'⟩
 | [],_::_,_,_,_,_,_,_,h,_=>h.elim
 |_::_,[],_,_,_,_,_,_,h,_=>h.elim
theorem aNf {bi:Builtin}{f:FV->FV->Rd FV}{m:Value->Value->Sem Value}(hf:∀x y v l,aJ (f x y) g v l->∀a b,x.rel a->y.rel b->∀w,∃z,(m a b).run P w=.ok z w/\v.rel z)
  {c:Call}{args:List AV}{x:AV}{xs:List AV}{fp l0:List Fp}(ho:o.op=.call c)(hc:c.callee=.builtin bi)(hb:∀t cs y ys w,(builtin bi c.argTypes t cs (y::ys).toArray).run P w=((ys.foldlM m y).run P w).andThen λv w=>.ok (.value v) w)
  (ha:aJ (Ab.uC Ab.Ep c.args.toList) g args l0)(lF:args=x::xs)
  (h:aJ ((Ab.asF x).bind λx=>(Ab.uC Ab.asF xs).bind λl=>(au3 f x l).bind λv=>.ret (dY o.dst (.r (.c (.f v))))) g us fp):Aw P o X D aM us g:=by
 subst lF;obtain⟨v0,⟨_,h1⟩,_,h⟩:=aJ.bind' h;obtain⟨vs,⟨_,h2⟩,_,h⟩:=aJ.bind' h;obtain⟨v,⟨_,h3⟩,_,h⟩:=aJ.bind' h;cases h;refine iQ λπ a w R=> ?_;have hr:=K9 ha R;have h1:=aNe h1;subst h1;have h2:=aJ.uC (ρ:=λv x=>x=.r (.c (.f v))) (λx v l hx=>aNe hx) h2
 obtain⟨y,ys,hy,hry,hrs⟩:∃y ys,(c.args.map a.eval).toList=y::ys/\v0.rel y/\bu (AV.rel π) xs ys:=by
  revert hr
  generalize (c.args.map a.eval).toList=L
  intro hr;cases L with
  |nil=>exact hr.elim
  |cons y ys=>exact⟨y,ys,rfl,hr.1,hr.2⟩
 have hvs:bu FV.rel vs ys:=aI5 h2 hrs;obtain⟨z,hz,hzr⟩:=aI6 hf h3 hry hvs w;have hy':c.args.map a.eval=(y::ys).toArray:=by rw[<-ali];exact hy
 exact⟨z,by obtain⟨cs,e⟩:=agQ (P:=P) a w ho hc;rw[e,hy',hb,hz];rfl,hzr⟩
theorem aTC {x y v:FV}{l:List Fp}(h:aJ (aXv x y) g v l)(a b:Value)(ha:x.rel a)(hb:y.rel b)(w:World):∃z,(Builtin.min2 a b).run P w=.ok z w/\v.rel z:=by
 unfold aXv at h;split at h
 .rename_i k m k' n
  have ha:a=_:=ha;have hb:b=_:=hb;subst ha hb;split at h
  .cases h;exact⟨_,by simp[Builtin.min2],rfl⟩
  .cases h
 .cases h
theorem aTD {x y v:FV}{l:List Fp}(h:aJ (aXw x y) g v l)(a b:Value)(ha:x.rel a)(hb:y.rel b)(w:World):∃z,(Builtin.max2 a b).run P w=.ok z w/\v.rel z:=by
 unfold aXw at h;split at h
 .rename_i k m k' n
  have ha:a=_:=ha;have hb:b=_:=hb;subst ha hb;split at h
  .cases h;exact⟨_,by simp[Builtin.max2],rfl⟩
  .cases h
 .cases h
omit [ay] in
theorem aZB (ts:Array TypeId)(t:TypeId)(cs:Array Bool)(y:Value)(ys:List Value)(w:World):(builtin .min ts t cs (y::ys).toArray).run P w=((ys.foldlM Builtin.min2 y).run P w).andThen λv w=>.ok (.value v) w:=by
 simp[builtin,Builtin.min_]
omit [ay] in
theorem aZC (ts:Array TypeId)(t:TypeId)(cs:Array Bool)(y:Value)(ys:List Value)(w:World):(builtin .max ts t cs (y::ys).toArray).run P w=((ys.foldlM Builtin.max2 y).run P w).andThen λv w=>.ok (.value v) w:=by
 simp[builtin,Builtin.max_]
end
end Go.Ab
namespace Go.Ab
variable [ay]
section
variable {P:Program} {o:Oper} {X:Cx} {D:Nat->Prop} {aM:Nat} {us:List Up} {g:Gt}
theorem Rel.aXM {π:Pi}{a:Act}{w:World}(R:Rel X D π g a w){b n B s e lo:Nat}{xs:List Value}(hz:g.z b=some n)(hb:π b=some (B,s,n,e))(h0:n<=lo)(hn:s+lo+xs.length<=e)
  (hD:b<X.k->D b):Rel X D π g a (w.setCells B (s+lo) xs):=by
 obtain⟨B',s',e',fu,hle,h1,h2⟩:=R.hp.hp b n hz;rw[hb] at fu;cases fu;have hin:∀j,j<xs.length->(cl w B (s+lo+j)).isSome=true:=λj hj=>(h1 _ (by omega) (by omega)).1
 refine⟨R.tm,R.nt,R.df,⟨R.hp.am.setCells λhl=>R.hp.lb b B s n e (by rw[hz];simp) hb (by omega),R.hp.lb,λb' n' uY=> ?_,R.hp.dj⟩,R.yc,R.ft,R.fr.setCells ?_⟩
 .obtain⟨B2,s2,e2,FA,aeo,k1,k2⟩:=R.hp.hp b' n' uY;refine⟨B2,s2,e2,FA,aeo,λi hi he=>⟨isSome_setCells hin (k1 i hi he).1,by rw[pL];exact(k1 i hi he).2⟩,λj hj=> ?_⟩;rw[eK]
  .exact k2 j hj
  .intro e3;subst e3;by_cases eb:b'=b
   .subst eb;rw[hb] at FA;cases FA;omega
   .by_cases hc:s+lo<=s2+j/\s2+j<s+lo+xs.length
    .exact(R.hp.dj b' b B2 s2 _ e2 s _ e eb (by simp[uY]) (by simp[hz]) FA hb (s2+j) (by omega) (by omega) (by omega) (by omega)).elim
    .omega
 .rcases ni B X.w0.heap.size with hB|hB
  .right
   intro j hj;rcases ni b X.k with hk|hk
   .exact⟨b,s,n,e,hk,hD hk,(R.yc b hk).symm.trans hb,by omega,by omega⟩
   .exact R.ft b B s n e hk (by simp[hz]) hb hB _ (by omega) (by omega)
  .exact .inl hB
theorem aNg {z:Nat}{x:CV}{xb:Sz×aj}{l:List Fp}(h:aJ (slB z x) g xb l){π:Pi}{a:Act}{w:World}(R:Rel X D π g a w){xv:Value}(hx:x.rel π xv):
  ∃news:List Value,news.length=xb.1.val*z/\xb.2.size=xb.1.val*z/\(∀j,j<xb.1.val*z->∃v,news[j]? =some v/\(xb.2.get j).rel π v)/\(∀v∈news,v.oneCell'=true)/\
   ((xb.1.val=0/\∃y c,xv=.slice y 0 c)∨∃ad c,xv=.slice (some ad) xb.1.val c/\∀j v,news[j]? =some v->w.cell? (ad.add j)=some v):=by
 cases x<;>simp only[slB] at h
 case sl b q n z' own=>
  obtain⟨_,⟨_,h1⟩,_,h2⟩:=aJ.bind' h;clear h
  have uY:z=z':=lE h1.cR;subst uY;cases h2 with|vw r v hz hs hv h3=>
  cases h3;obtain⟨B2,s2,q2,e2,FA,hm,_,⟨h0,y,rfl⟩| ⟨cap,r8,rfl,_⟩⟩:=hx
  .exact⟨[],by simp[h0],hs,λj hj=>by simp only[h0,Th] at hj;omega,by simp,.inl ⟨h0,y,0,rfl⟩⟩
  .obtain⟨_,xs,hl,hxs,hc⟩:=R.view hz hs hv FA hm
   have aNh:∀v∈xs,v.oneCell'=true:=λv hv=>by
    obtain⟨i,hi⟩:=ayf.1 hv;obtain⟨c,_,hr⟩:=hxs.get' hi;exact CV.Rz hr
   refine⟨xs,hl,hs,λj hj=>(jy hxs).2 j (by rw[hs];exact hj),aNh,.inr ⟨_,cap,rfl,λj v hj=>by rw[na];exact hc j v hj⟩⟩
 case nils=>
  cases h;have hx:xv=.slice none 0 0:=hx;exact⟨[],by simp[Sz.val],by simp[aj.size,Sz.val],λj hj=>by simp[Sz.val] at hj,by simp,.inl ⟨rfl,none,0,hx⟩⟩
 case fs n z' cols=>
  obtain⟨_,⟨_,h1⟩,_,h2⟩:=aJ.bind' h;clear h
  have uY:z=z':=lE h1.cR;subst uY;cases h2;obtain⟨hz,hx⟩:=hx;have hs:aj.size [.a (.s n) cols]=n*z:=by rw[aj.size_cons,aj.lG,Sg.lJ,hz];rfl
  rcases hx with⟨h0,y,rfl⟩| ⟨B,s,cap,r8,rfl,hc⟩
  .exact⟨[],by simp[h0,Sz.val],hs,λj hj=>by simp only[h0,Sz.val,Th] at hj;omega,by simp,.inl ⟨h0,y,0,rfl⟩⟩
  .have cell:∀j,j<n*z->∃v,cl w B (s+j)=some v/\(ja cols j).rel π v:=λj hj=>by
    obtain⟨f,v,e1,e2,e3⟩:=hc j hj;exact⟨v,(R.hp.am.st _ _ _ e2).2,by rw[e1];exact e3⟩
   have hat:∀j v,((List.range (n*z)).map λj=>(cl w B (s+j)).getD undef)[j]? =some v->j<n*z/\cl w B (s+j)=some v:=λj v hv=>by
    have hjn:j<n*z:=by
     have:=(lL.1 hv).1;simpa using this
    obtain⟨u,hu,_⟩:=cell j hjn;simp[hjn,hu] at hv
    exact⟨hjn,by rw[hu,hv]⟩
   refine⟨(List.range (n*z)).map λj=>(cl w B (s+j)).getD undef,by simp[Sz.val],hs,λj hj=> ?_,λv hv=> ?_,.inr ⟨_,cap,rfl,λj v hv=>by rw[na];exact(hat j v hv).2⟩⟩
   .obtain⟨v,hv,hr⟩:=cell j hj;refine⟨v,?_,by rw[aj.dR (by rw[Sg.lJ,hz];exact hj),Sg.pC];exact hr⟩;have hj':j<n*z:=hj;rw[Ca,List.getElem?_range hj'];simp[hv]
   .obtain⟨i,hi⟩:=ayf.1 hv;obtain⟨h1,h2⟩:=hat i v hi;obtain⟨u,hu,hr⟩:=cell i h1;rw[h2] at hu;cases hu;exact CV.Rz hr
 all_goals cases h
omit [ay] in
theorem aNi {z:Nat}{y:Option Addr}{c:Nat}(w:World):(Builtin.firstCells z 0 (.slice y 0 c)).run P w=.ok #[] w:=by
 cases y<;>simp[Builtin.firstCells,loadCells,loadCellsFrom]
omit [ay] in
theorem agR {t ty e:TypeId}{z:Nat}(ht:P.underlying t=some (.slice e))(hz:iZ P e=some z){base y:Option Addr}{n cap c:Nat}(h:n<=cap)(w:World):
  (Builtin.append_ #[t,t] ty #[.slice base n cap,.slice y 0 c]).run P w=.ok (.slice base n cap) w:=by
 cases base<;>simp[Builtin.append_,run_underlying ht,run_sizeOf hz,Builtin.lenOf,h,aNi,storeCells]
omit [ay] in
theorem L9 {t ty e:TypeId}{z:Nat}(ht:P.underlying t=some (.slice e))(hz:iZ P e=some z){B q n cap m c:Nat}{ad:Addr}{news:List Value}(h:n+m<=cap)(hl:news.length=m*z)(w:World)
  (hn:∀j v,news[j]? =some v->w.cell? (ad.add j)=some v)(h1:∀v∈news,v.oneCell'=true)(hc:∀j,j<news.length->(cl w B (q+n*z+j)).isSome=true/\fz w B (q+n*z+j)=false):
  (Builtin.append_ #[t,t] ty #[.slice (some ⟨B,q,none⟩) n cap,.slice (some ad) m c]).run P w=.ok (.slice (some ⟨B,q,none⟩) (n+m) cap) (w.setCells B (q+n*z) news):=by
 have hf:=run_firstCells_some (P:=P) w z m ad m c news hl hn;have hst:=run_storeCells_cells (P:=P) B (q+n*z) news 0 w (λj hj=>by have:=(hc j hj).1;simpa[cl] using this) (λj hj=>by have:=(hc j hj).2;simpa[fz] using this) h1;simp[Builtin.append_,run_underlying ht,run_sizeOf hz,Builtin.lenOf,h,hf,na,hst]
theorem Jp {t ty e:TypeId}{z by_:Nat}{zv:RV}(ht:P.underlying t=some (.slice e))(hz:iZ P e=some z)(hb:(P.info? e).map (·.bytes)=some by_)(hv:AW P e=some zv)(hl0:aj.size zv.bU=z)(hby:1<=by_)
  {sv:Value}{n cap m c:Nat}{ad:Addr}{HG news:List Value}(w:World)(hs:(sv=.slice none 0 0/\n=0/\cap=0)∨∃b,sv=.slice (some b) n cap/\∀j v,HG[j]? =some v->w.cell? (b.add j)=some v)
  (hlo:HG.length=n*z)(hl:news.length=m*z)(hn:∀j v,news[j]? =some v->w.cell? (ad.add j)=some v)(hg:cap<n+m)(hm:0<m)(aAg:(n+m)*by_<=140737488355328):
  ∃gc arr,(Builtin.append_ #[t,t] ty #[sv,.slice (some ad) m c]).run P w=.ok (.slice (some ⟨w.heap.size,0,none⟩) (n+m) gc) (w.drew.alloc (.cells arr e))/\n+m<=gc/\arr.size=gc*z/\∃rest,arr.toList=HG++news++rest:=by
 obtain⟨zx,_,⟨i,hi,hzz⟩,hzr⟩:=aep hv w;rw[hi] at hb;have hzs:i.size=z:=by unfold iZ at hz;rw[hi] at hz;simpa using hz
 have hbs:i.bytes=by_:=by simpa using hb
 have hzc:zx.cells.size=z:=by
  have:=(jy (RV.OO (hzr λ_=>none))).1;simp only[WC] at this;omega
 have hle:n+m<=(n+m)*by_:=Nat.le_mul_of_pos_right _ (by omega)
 have yQ:∀(yc gc:Nat),n+m<=gc->(HG.toArray++news.toArray++Builtin.zeroCells zx.cells (gc-(n+m))).size=gc*z:=λyc gc hgc=>by
  simp only[Array.size_append,List.size_toArray,size_zeroCells,hzc,hlo,hl,<-qP];congr 1;omega
 rcases hs with⟨rfl,rfl,rfl⟩| ⟨b,rfl,ho⟩
 .have ho:HG=[]:=List.eq_nil_of_length_eq_zero (by simpa using hlo);subst ho;have hr:=run_append_nil (P:=P) w t ty e i zx ht hi hzz ad m c news (by rw[hzs];exact hl) hn hm (by omega) (by rw[hbs];simp only[dG] at aAg;omega);have hge:=grownCap_ge w m 0 e;refine⟨_,_,by simpa using hr,by simpa using hge,?_,Builtin.zeroCells zx.cells (grownCap w m 0 e-m)|>.toList,?_⟩
  .have:=yQ 0 (grownCap w m 0 e) (by simpa using hge);simpa using this
  .simp
 .have hr:=run_append_grow (P:=P) w t ty e i zx ht hi hzz b n cap HG (by rw[hzs];exact hlo) ho ad m c news (by rw[hzs];exact hl) hn hg (by omega) (growslice_fits hg (by rw[hbs];exact aAg));have hge:=grownCap_ge w (n+m) cap e;refine⟨_,_,hr,hge,yQ 0 _ hge,Builtin.zeroCells zx.cells (grownCap w (n+m) cap e-(n+m))|>.toList,?_⟩;simp
omit [ay] in
theorem aQT {e:TypeId}{n:Nat}{l:List Fp}(h:aJ (Ab.eu ((P.info? e).map (·.bytes))) g n l):(P.info? e).map (·.bytes)=some n:=h.eu
omit [ay] in
theorem Wp {HG news rest:List Value}{arr:Array Value}(h:arr.toList=HG++news++rest){j:Nat}{v:Value}:(HG[j]? =some v->arr[j]? =some v)/\(news[j]? =some v->arr[HG.length+j]? =some v):=by
 refine⟨λhj=> ?_,λhj=> ?_⟩
 .have nL:=(lL.1 hj).1;rw[<-WB,h,UR (by simp;omega),UR nL,hj]
 .have nL:=(lL.1 hj).1;rw[<-WB,h,UR (by simp;omega),aej (by omega),show HG.length+j-HG.length=j by omega,hj]
theorem aKO {c:Call}{t:TypeId}{sa xa:AV}{args:List AV}{fp l0:List Fp}(ho:o.op=.call c)(hc:c.callee=.builtin .append)(ha:aJ (Ab.uC Ab.Ep c.args.toList) g args l0)(lF:args=[sa,xa])
  (hts:c.argTypes=#[t,t]){s x:CV}(hs:sa=.r (.c s))(hx:xa=.r (.c x))(h:aJ (aEK P t s x o.dst aM) g us fp):Aw P o X D aM us g:=by
 subst hs hx lF;unfold aEK at h;split at h
 case h_2=>cases h
 rename_i e hu
 obtain⟨z,⟨_,h1⟩,_,h⟩:=aJ.bind' h;obtain⟨by_,⟨_,h2⟩,_,h⟩:=aJ.bind' h;obtain⟨zv,⟨_,h3⟩,_,h⟩:=aJ.bind' h;obtain⟨_,⟨_,h4⟩,_,h⟩:=aJ.bind' h;obtain⟨⟨xn,xk⟩,⟨_,h5⟩,_,h⟩:=aJ.bind' h;have h1:=h1.eu;have h2:=aQT h2;have h3:=h3.eu;have h4:=h4.cR;simp only[cB,fy,beq_iff] at h4;have hzv:=h4.2.2;simp only[] at h;cases s with
 |nils=>
  simp only[] at h;obtain⟨_,⟨_,h6⟩,_,h⟩:=aJ.bind' h;cases h;have h6:xn.val*by_<=140737488355328:=WA h6.cR;intro π a w next Q R hk hf hd hD hn;obtain⟨y1,y2,hy,Z3,hr2⟩:=ayx (K9 ha R);have hy:=aXL hy;have Z3:y1=.slice none 0 0:=Z3;subst Z3;obtain⟨news,n1,n2,n3,n4,n5⟩:=aNg h5 R hr2;simp only at n1 n2 n3 n4 n5;obtain⟨cs,er⟩:=agQ (P:=P) a w ho hc;have hcn:cF (dY o.dst (.r (.c (.sl aM (.k 0) xn z true)))++[Up.new aM xk])=1:=by unfold dY cF;cases o.dst<;>rfl
  have h0:=hf aM (cZ _) (by omega);by_cases hm:xn.val=0
  .obtain⟨y,c',rfl⟩:∃y c',y2=.slice y 0 c':=by
    rcases n5 with⟨_,y,c',rfl⟩| ⟨ad,c',rfl,_⟩
    .exact⟨y,c',rfl⟩
    .exact⟨some ad,c',by rw[hm]⟩
   have nW:=agR (P:=P) (ty:=o.type) hu h1 (base:=none) (y:=y) (n:=0) (cap:=0) (c:=c') (cZ _) w;have hx0:=A5 h0 (0,0,aj.size xk,0)
   have R1:=(R.L6 hx0 (λb hb=>by simp only[AA];rw[if_neg (by omega)])).new (k:=xk) (qi π aM (0,0,aj.size xk,0)) hk (by rw[n2,hm];omega) (λi _ i2=>by omega) (λj hj=>by rw[n2,hm] at hj;omega)
    (λ_ _ _ _ _ _ _ _ _ i2=>by omega) (λ_ _ _ i2=>by omega)
   have R2:=R1.dst hd (v:=.r (.c (.sl aM (.k 0) xn z true))) (x:=.slice none 0 0) ⟨_,_,_,_,qi _ _ _,by simp only[cE.val,n2];omega,λ_=>by simp only[cE.val,n2];omega,.inl ⟨hm,none,rfl⟩⟩;refine QB (x:=.slice none 0 0) (w':=w) ?_ (hn _ _ (AA π aM (0,0,aj.size xk,0)) hx0 (WQ ⟨cZ _,by omega⟩) ?_)
   .rw[er,hy,hts];simp[builtin,nW]
   .rw[L8 _ _ _ _ (by simp)];exact R2
  .obtain⟨ad,c',rfl,hn5⟩:∃ad c',y2=.slice (some ad) xn.val c'/\∀j v,news[j]? =some v->w.cell? (ad.add j)=some v:=by
    rcases n5 with⟨h,_⟩|h
    .exact absurd h hm
    .exact h
   obtain⟨gc,arr,nW,hgc,yQ,rest,agS⟩:=Jp (P:=P) (ty:=o.type) hu h1 h2 h3 hzv h4.2.1 (sv:=.slice none 0 0) (n:=0) (cap:=0) (m:=xn.val) (c:=c') (ad:=ad) (HG:=[]) (news:=news) w (.inl ⟨rfl,rfl,rfl⟩) (by simp) n1 hn5 (by omega) (by omega) (by simpa using h6);simp only[dG] at nW hgc
   have R1:=(R.drew).row (k:=xk) (n:=xn) (q:=z) (cap:=gc) (arr:=arr) (t:=e) hd h0 hk hgc (by omega) n2 (λj hj=>by
    rw[n2] at hj;obtain⟨v,hv,hr⟩:=n3 j hj;exact⟨v,by simpa using(Wp agS).2 hv,hr⟩)
   refine QB (x:=.slice (some ⟨w.heap.size,0,none⟩) xn.val gc) (w':=w.drew.alloc (.cells arr e)) ?_ (hn _ _ (AA π aM (w.heap.size,0,aj.size xk,gc*z)) (A5 h0 _) (WQ ⟨cZ _,by omega⟩) ?_)
   .rw[er,hy,hts];simp[builtin,nW]
   .rw[L8 _ _ _ _ (by simp)];exact R1
 |sl b q n z' own=>
  cases own with
  |false=>cases h
  |true=>
  simp only[] at h;obtain⟨_,⟨_,h6⟩,_,h⟩:=aJ.bind' h;obtain⟨_,⟨_,h7⟩,_,h⟩:=aJ.bind' h;cases h with|sz r hz h=>
  cases h with|vw r' sb uY hsb hvb h=>
  obtain⟨nb,⟨_,h9⟩,_,h⟩:=aJ.bind' h;obtain⟨_,⟨_,h10⟩,_,h⟩:=aJ.bind' h;cases h;have h6:z=z':=lE h6.cR;subst h6;have h7:(n.val+xn.val)*by_<=140737488355328:=WA h7.cR;rw[hz] at uY;cases uY;have avj:(n.add xn).val=n.val+xn.val:=by cases n<;>cases xn<;>rfl
  intro π a w next Q R hk hf hd hD hn;obtain⟨y1,y2,hy,Z3,hr2⟩:=ayx (K9 ha R);have hy:=aXL hy;obtain⟨news,n1,n2,n3,n4,n5⟩:=aNg h5 R hr2;simp only at n1 n2 n3 n4 n5;obtain⟨cs,er⟩:=agQ (P:=P) a w ho hc;have aaw:=aj.aTs h9.eu;have hcn:cF (dY o.dst (.r (.c (.sl aM (.k 0) (n.add xn) z true)))++[Up.kill b,Up.new aM nb])=1:=by unfold dY cF;cases o.dst<;>rfl
  have h0:=hf aM (cZ _) (by omega);have hDb:b<X.k->D b:=hD (.kill b) (by simp);obtain⟨B,s,e',hb,hle,k1,k2⟩:=R.hp.hp b _ hz;have mC:aM≠b:=λe=>by rw[e,hb] at h0;cases h0
  have hmul:(n.val+xn.val)*z=n.val*z+xn.val*z:=qP _ _ _;have atv:aj.size nb=(n.val+xn.val)*z:=by rw[aaw.1,hsb,n2,hmul]
  have within:∀(w':World) (y:Value) (cap:Nat),Rel X D π g a w'->(n.val+xn.val)<=cap->s+q.val+cap*z<=e'->y=.slice (some ⟨B,s+q.val,none⟩) (n.val+xn.val) cap->
    (∀i,s+q.val<=i->i<e'->(cl w' B i).isSome=true/\fz w' B i=false)->(∀j,j<(n.val+xn.val)*z->∃v,cl w' B (s+q.val+j)=some v/\(aj.get nb j).rel π v)->
    (execOp a.eval o).run P w=.ok (.value y) w'->o.wp P a w next Q:=by
   intro w' y cap R' r8 hce hyy hc1 hc2 nW;have hcz:(n.val+xn.val)*z<=cap*z:=wK _ r8;have hx0:=A5 h0 (B,s+q.val,aj.size nb,e')
   have R1:=((R'.kill b).L6 hx0 (λb hb=>by simp only[AA];rw[if_neg (by omega)])).new (k:=nb) (qi π aM (B,s+q.val,aj.size nb,e')) hk (by rw[atv];omega) hc1
    (λj hj=>by
     rw[atv] at hj;obtain⟨v,hv,hr⟩:=hc2 j hj;exact⟨v,hv,CV.dM hx0 _ _ hr⟩)
    (λb' s1 q1 e1 a3s hz1 hb1 i i1 i2 i3 i4=>by
     simp only[AA,a3s,gA] at hb1;have hbb:b'≠b:=λe=>hz1 (by simp[Up.hI,e])
     have hz2:g.z b'≠none:=by simpa[Up.hI,hbb] using hz1
     exact R'.hp.dj b' b B s1 q1 e1 s _ e' hbb hz2 (by simp[hz]) hb1 hb i i3 i4 (by omega) i2)
    (λhB i i1 i2=>by
     rcases ni b X.k with hbk|hbk
     .exact⟨b,s,_,e',hbk,hDb hbk,(R'.yc b hbk).symm.trans hb,by omega,i2⟩
     .exact R'.ft b B s _ e' hbk (by simp[hz]) hb hB i (by omega) i2)
    (λh=>R'.hp.lb b B s _ e' (by simp[hz]) hb (by omega))
   have R2:=R1.dst hd (v:=.r (.c (.sl aM (.k 0) (n.add xn) z true))) (x:=y) ⟨_,_,_,_,qi _ _ _,by rw[avj,atv];simp only[cE.val];omega,λ_=>by rw[avj,atv];simp only[cE.val];omega,.inr ⟨cap,by rw[avj];exact r8,by rw[avj];exact hyy,λ_=>hce⟩⟩;refine QB nW (hn _ _ (AA π aM (B,s+q.val,aj.size nb,e')) hx0 (WQ ⟨cZ _,by omega⟩) ?_);rw[L8 _ _ _ _ (by simp)];exact R2
  have atw:∀(sv:Value) (cap:Nat) (xs:List Value) (ad:Addr) (c':Nat),y1=sv->y2=.slice (some ad) xn.val c'->(∀j v,news[j]? =some v->w.cell? (ad.add j)=some v)->xs.length=n.val*z->(∀j,j<n.val*z->∃v,xs[j]? =some v/\(aj.get sb j).rel π v)->
    ((sv=.slice none 0 0/\n.val=0/\cap=0)∨∃b,sv=.slice (some b) n.val cap/\∀j v,xs[j]? =some v->w.cell? (b.add j)=some v)->0<xn.val->cap<n.val+xn.val->o.wp P a w next Q:=by
   intro sv cap xs ad c' hsv hy2 hn5 hxl hold hss hm r8;subst hy2;obtain⟨gc,arr,nW,hgc,yQ,rest,agS⟩:=Jp (P:=P) (ty:=o.type) hu h1 h2 h3 hzv h4.2.1 (c:=c') (ad:=ad) (HG:=xs) (news:=news) w hss hxl n1 hn5 r8 hm h7
   have R1:=((R.drew).kill b).row (k:=nb) (n:=n.add xn) (q:=z) (cap:=gc) (arr:=arr) (t:=e) hd h0 hk (by rw[avj];exact hgc) (by omega) (by rw[atv,avj]) (λj hj=>by
    rw[atv] at hj;rw[aaw.2 j (by omega),hsb];by_cases hjn:j<n.val*z
    .obtain⟨v,hv,hr⟩:=hold j hjn;rw[if_pos hjn];exact⟨v,(Wp agS).1 hv,hr⟩
    .rw[if_neg hjn];obtain⟨v,hv,hr⟩:=n3 (j-n.val*z) (by omega);have:=(Wp agS).2 hv;rw[hxl,show n.val*z+(j-n.val*z)=j by omega] at this;exact⟨v,this,hr⟩)
   refine QB (x:=.slice (some ⟨w.heap.size,0,none⟩) (n.val+xn.val) gc) (w':=w.drew.alloc (.cells arr e)) ?_ (hn _ _ (AA π aM (w.heap.size,0,aj.size nb,gc*z)) (A5 h0 _) (WQ ⟨cZ _,by omega⟩) ?_)
   .rw[er,hy,hts,hsv];simp[builtin,nW]
   .rw[L8 _ _ _ _ (by simp),<-avj];exact R1
  have a0T:xn.val=0->∃y c',y2=.slice y 0 c':=λhm=>by
   rcases n5 with⟨_,y,c',rfl⟩| ⟨ad,c',rfl,_⟩
   .exact⟨y,c',rfl⟩
   .exact⟨some ad,c',by rw[hm]⟩
  have a0U:xn.val≠0->∃ad c',y2=.slice (some ad) xn.val c'/\∀j v,news[j]? =some v->w.cell? (ad.add j)=some v:=λhm=>by
   rcases n5 with⟨h,_⟩|h
   .exact absurd h hm
   .exact h
  obtain⟨B2,s2,q2,e2,FA,hmq,a1Q,⟨hn0,y0,rfl⟩| ⟨cap,r8,rfl,aQS⟩⟩:=Z3
  .by_cases hm:xn.val=0
   .obtain⟨y,c',rfl⟩:=a0T hm;have nW:=agR (P:=P) (ty:=o.type) hu h1 (base:=y0) (y:=y) (n:=0) (cap:=0) (c:=c') (cZ _) w;have hs0:aj.size nb=0:=by rw[atv,hm,hn0];omega
    have hx0:=A5 h0 (0,0,aj.size nb,0)
    have R1:=((R.kill b).L6 hx0 (λb hb=>by simp only[AA];rw[if_neg (by omega)])).new (k:=nb) (qi π aM (0,0,aj.size nb,0)) hk (by omega) (λi _ i2=>by omega) (λj hj=>by omega)
     (λ_ _ _ _ _ _ _ _ _ i2=>by omega) (λ_ _ _ i2=>by omega)
    have R2:=R1.dst hd (v:=.r (.c (.sl aM (.k 0) (n.add xn) z true))) (x:=.slice y0 0 0) ⟨_,_,_,_,qi _ _ _,by rw[avj,hs0,hm,hn0];simp[cE.val],λ_=>by rw[avj,hs0,hm,hn0];simp[cE.val],.inl ⟨by omega,y0,rfl⟩⟩;refine QB (x:=.slice y0 0 0) (w':=w) ?_ (hn _ _ (AA π aM (0,0,aj.size nb,0)) hx0 (WQ ⟨cZ _,by omega⟩) ?_)
    .rw[er,hy,hts];simp[builtin,nW]
    .rw[L8 _ _ _ _ (by simp)];exact R2
   .obtain⟨ad,c',hy2,hn5⟩:=a0U hm;cases y0 with
    |none=>exact atw _ 0 [] ad c' rfl hy2 hn5 (by simp[hn0]) (λj hj=>by simp only[hn0,Th] at hj;omega) (.inl ⟨rfl,hn0,rfl⟩) (by omega) (by omega)
    |some ad0=>exact atw _ 0 [] ad c' rfl hy2 hn5 (by simp[hn0]) (λj hj=>by simp only[hn0,Th] at hj;omega) (.inr ⟨ad0,by rw[hn0],λj v hj=>by simp at hj⟩) (by omega) (by omega)
  .rw[hb] at FA;cases FA;have a5R:=a1Q rfl;have aNb:=aQS rfl;obtain⟨_,xs,hxl,hxs,hxc⟩:=R.view hz hsb hvb hb hmq
   have hold:∀j,j<n.val*z->∃v,xs[j]? =some v/\(aj.get sb j).rel π v/\cl w B (s+q.val+j)=some v:=λj hj=>by
    obtain⟨v,hv,hr⟩:=(jy hxs).2 j (by rw[hsb];exact hj);exact⟨v,hv,hr,hxc j v hv⟩
   by_cases hm:xn.val=0
   .obtain⟨y,c',rfl⟩:=a0T hm;have nW:=agR (P:=P) (ty:=o.type) hu h1 (base:=some ⟨B,s+q.val,none⟩) (y:=y) (n:=n.val) (cap:=cap) (c:=c') r8 w;refine within w _ cap R (by omega) aNb (by rw[hm,ku]) (λi i1 i2=>k1 i (by omega) i2) (λj hj=> ?_) (by rw[er,hy,hts];simp[builtin,nW]);have hj':j<n.val*z:=by rw[hm] at hj;simpa using hj
    obtain⟨v,_,hr,hc⟩:=hold j hj';exact⟨v,hc,by rw[aaw.2 j (by omega),if_pos (by omega)];exact hr⟩
   .obtain⟨ad,c',hy2,hn5⟩:=a0U hm;by_cases Tl:n.val+xn.val<=cap
    .subst hy2;have hcz:(n.val+xn.val)*z<=cap*z:=wK _ Tl;have hin:∀j,j<news.length->(cl w B (s+q.val+n.val*z+j)).isSome=true/\fz w B (s+q.val+n.val*z+j)=false:=λj hj=>k1 _ (by omega) (by omega)
     have nW:=L9 (P:=P) (ty:=o.type) hu h1 (B:=B) (q:=s+q.val) (n:=n.val) (cap:=cap) (m:=xn.val) (c:=c') (ad:=ad) Tl n1 w hn5 n4 hin;have R':=R.aXM (lo:=q.val+n.val*z) (xs:=news) hz hb (by omega) (by omega) hDb;rw[show s+(q.val+n.val*z)=s+q.val+n.val*z by omega] at R';refine within _ _ cap R' Tl aNb rfl (λi i1 i2=>⟨isSome_setCells (λj hj=>(hin j hj).1) (k1 i (by omega) i2).1,by rw[pL];exact(k1 i (by omega) i2).2⟩) (λj hj=> ?_) (by rw[er,hy,hts];simp[builtin,nW]);rw[aaw.2 j (by omega),hsb];by_cases hjn:j<n.val*z
     .obtain⟨v,hv,hr,hc⟩:=hold j hjn;rw[if_pos hjn];exact⟨v,by rw[eK (λ_=>by omega)];exact hc,hr⟩
     .rw[if_neg hjn];obtain⟨v,hv,hr⟩:=n3 (j-n.val*z) (by omega);have nL:=(lL.1 hv);have:=nM (w:=w) (B:=B) (o:=s+q.val+n.val*z) (vs:=news) (λj hj=>(hin j hj).1) nL.1;rw[show s+q.val+n.val*z+(j-n.val*z)=s+q.val+j by omega,nL.2] at this;exact⟨v,this,hr⟩
    .exact atw _ cap xs ad c' rfl hy2 hn5 hxl (λj hj=>let⟨v,hv,hr,_⟩:=hold j hj;⟨v,hv,hr⟩) (.inr ⟨_,rfl,λj v hj=>by rw[na];exact hxc j v hj⟩) (by omega) (by omega)
 |_=>cases h
omit [ay] in
theorem aJ.aIX {v:Nat}:∀{k j:Nat} {l:List Fp},aJ (aIX v k) g j l->j=Nat.min v k
 |0,j,l,h=>by cases h;simp
 |k+1,j,l,h=>by
  cases h with|test h=>
  cases hx:wr (k+1) v with
  |true=>
   rw[hx] at h;cases h;have:=WA hx;show k+1=min v (k+1);omega
  |false=>
   rw[hx] at h;have h0:¬k+1<=v:=λh=>by rw[aEA h] at hx;cases hx
   have e:=aJ.aIX h;rw[e];show min v k=min v (k+1);omega
omit [ay] in
theorem aJ.aMQ {n n':Sz}{m:Bool×Sz}{l:List Fp}(h:aJ (aMQ n n') g m l):m.2.val=Nat.min n'.val n.val:=by
 have least:∀n n':Sz,(Sz.least n' n).val=Nat.min n'.val n.val:=λn n'=>by cases n<;>cases n'<;>rfl
 unfold Ab.aMQ at h;split at h
 .split at h
  .obtain⟨j,⟨_,h1⟩,_,h2⟩:=aJ.bind' h;cases h2;exact aJ.aIX h1
  .cases h;rfl
 .cases h;exact least _ _
theorem aQU {c:Call}{t:TypeId}{da xa:AV}{args:List AV}{fp l0:List Fp}(ho:o.op=.call c)(hc:c.callee=.builtin .copy)(ha:aJ (Ab.uC Ab.Ep c.args.toList) g args l0)(lF:args=[da,xa])
  (hts:c.argTypes[0]? =some t){d x:CV}(hs:da=.r (.c d))(hx:xa=.r (.c x))(h:aJ (copyV P t d x o.dst) g us fp):Aw P o X D aM us g:=by
 subst hs hx lF;unfold copyV at h;split at h
 case h_2=>cases h
 rename_i e hu
 obtain⟨z,⟨_,h1⟩,_,h⟩:=aJ.bind' h;have h1:=h1.eu;split at h
 case h_2=>cases h
 rename_i b q n z1 w1 b' q' n' z2 w2 _
 obtain⟨_,⟨_,h2⟩,_,h'⟩:=aJ.bind' h;clear h
 obtain⟨_,⟨_,h3⟩,_,h⟩:=aJ.bind' h';clear h'
 have h2:=h2.cR;simp only[cB,beq_iff] at h2;obtain⟨e1,e2⟩:=h2;obtain⟨⟨fl,m⟩,⟨_,h6⟩,_,h'⟩:=aJ.bind' h;clear h
 have hmv:m.val=Nat.min n'.val n.val:=h6.aMQ;clear h6
 cases h' with|vw r' v0 uY hs0 hv0 h=>
 cases h with|sz r hz h=>
 cases h
 have hsv:aj.size (cond fl (uB v0) v0)=aj.size v0/\∀j,j<aj.size v0->aj.get (cond fl (uB v0) v0) j=aj.get v0 j:=by
  cases fl
  .exact⟨rfl,λ_ _=>rfl⟩
  .exact yR v0
 have hs:aj.size (cond fl (uB v0) v0)=m.val*z:=hsv.1.trans hs0;have hv:q'.val+m.val*z<=r'->∀j,j<m.val*z->aj.get (cond fl (uB v0) v0) j=g.c b' (q'.val+j):=λhb j hj=>(hsv.2 j (by rw[hs0];exact hj)).trans (hv0 hb j hj)
 generalize cond fl (uB v0) v0=v at hs hv ⊢
 clear hsv hs0 hv0
 subst e1 e2;intro π a w next Q R hk hf hd hD hn;obtain⟨y1,y2,hy,Z3,hr2⟩:=ayx (K9 ha R);have hy:=aXL hy;obtain⟨cs,er⟩:=agQ (P:=P) a w ho hc
 have key:∀(w':World) (g':Gt),(execOp a.eval o).run P w=.ok (.value (.int .i64 ((m.val:Nat):Int))) w'->Rel X D π g' a w'->
   cH [Up.c b q v] g=g'->o.wp P a w next Q:=by
  intro w' g' nW R' hg;refine QB nW (hn _ _ π (Ext.refl _) (λb h=>.inl h) ?_);rw[L8 _ _ _ _ (by simp),hg];exact R'.dst hd rfl
 by_cases hm:m.val=0
 .have hv0:aj.size v=0:=by rw[hs,hm,Th]
  have hg:cH [Up.c b q v] g=g:=by
   show(Up.c b q v).hI g=g;simp only[Up.hI]
   have:(λb' j=>if b'=b/\q.val<=j/\j<q.val+aj.size v then aj.get v (j-q.val) else g.c b' j)=g.c:=by
    funext b' j;rw[if_neg (by omega)]
   rw[this]
  have hvv:∀{b q n z own} {y:Value},CV.rel π (.sl b q n z own) y->∃ad cap,y=.slice ad n.val cap:=λhr=>by
   obtain⟨_,_,_,_,_,_,_,⟨h,y,rfl⟩| ⟨cap,_,rfl,_⟩⟩:=hr
   .exact⟨_,_,by rw[h]⟩
   .exact⟨_,_,rfl⟩
  obtain⟨ad1,c1,rfl⟩:=hvv Z3;obtain⟨ad2,c2,rfl⟩:=hvv hr2
  have hf0:(Builtin.firstCells z 0 (.slice ad2 n'.val c2)).run P w=.ok #[] w:=by
   cases ad2<;>simp[Builtin.firstCells,loadCells,loadCellsFrom]
  refine key w g ?_ R hg;rw[er,hy];rw[hmv] at hm
  have hc0:(Builtin.copy_ c.argTypes o.type #[.slice ad1 n.val c1,.slice ad2 n'.val c2]).run P w=.ok (goInt 0) w:=by
   cases ad1<;>simp[Builtin.copy_,hts,run_underlying hu,run_sizeOf h1,Builtin.lenOf,hm,hf0,storeCells]
  simp[builtin,hc0,hm,hmv,goInt]
 .have mC:n.val≠0/\n'.val≠0:=by
   rw[hmv] at hm;constructor<;>(intro e;apply hm;rw[e];simp[Nat.min_def])
  obtain⟨B,s,r1,e1,hb,hm1,_,⟨h,_⟩| ⟨c1,hc1,rfl,_⟩⟩:=Z3
  .exact absurd h mC.1
  obtain⟨B',s',r2,e1',fu,hm2,_,⟨h,_⟩| ⟨c2,hc2,rfl,_⟩⟩:=hr2
  .exact absurd h mC.2
  have l1:m.val*z<=n.val*z:=wK _ (by rw[hmv];exact Nat.min_le_right _ _);have l2:m.val*z<=n'.val*z:=wK _ (by rw[hmv];exact Nat.min_le_left _ _);obtain⟨_,xs,hxl,hxs,hxc⟩:=R.view uY hs hv fu (by omega);rw[hmv] at hxl;have hfc:=run_firstCells_some (P:=P) w z (Nat.min n'.val n.val) ⟨B',s'+q'.val,none⟩ n'.val c2 xs hxl (λj v hj=>by rw[na];exact hxc j v hj);obtain⟨B0,s0,e0,RB,hle,k1,k2⟩:=R.hp.hp b _ hz;rw[hb] at RB;cases RB;rw[hmv] at l1 hs
  have hst:=run_storeCells_cells (P:=P) B (s+q.val) xs 0 w (λj hj=>(k1 _ (by omega) (by omega)).1) (λj hj=>(k1 _ (by omega) (by omega)).2) (λv hv=>by
   obtain⟨i,hi⟩:=ayf.1 hv;obtain⟨c,_,hr⟩:=hxs.get' hi;exact CV.Rz hr)
  have R':=R.set (o:=q) hz hb (by omega) hxs (hD (.c b q v) (by simp));refine key _ _ ?_ R' rfl;rw[er,hy];simp[builtin,Builtin.copy_,hts,run_underlying hu,run_sizeOf h1,Builtin.lenOf,hfc,hst,goInt,hmv]
end
end Go.Ab
namespace Go.Ab
variable [ay]
def hC (l:List (Option aj))(b j:Nat):CV:=match(l[b]?).getD none with
 |some k=>if j<k.size then k.get j else .f .u
 |none=>.f .u
def hZ (l:List (Option aj))(b:Nat):Option Nat:=((l[b]?).getD none).map aj.size
def after:List aj->List Ch->List (Option aj)
 | [],_=>[]
 |b::bs,.mB::cs=>some b::after bs cs
 |_::bs,.set b::cs=>some b::after bs cs
 |_::bs,.kill::cs=>none::after bs cs
 |_::bs,[]=>none::after bs []
omit [ay] in
theorem nj:∀(h:List aj) (cs:List Ch),(after h cs).length=h.length
 | [],_=>rfl
 |_::bs,.mB::cs=>by simp[after,nj bs cs]
 |_::bs,.set b::cs=>by simp[after,nj bs cs]
 |_::bs,.kill::cs=>by simp[after,nj bs cs]
 |_::bs,[]=>by simp[after,nj bs []]
def pD.heap (r:pD)(h:List aj):List (Option aj):=after h r.yP++r.news.map some
def Tn (cs:List Ch)(b:Nat):Prop:=cs[b]? ≠some .mB
def tY (π:Pi)(w0:World)(h:List aj)(res:pD):Ending->World->Prop:=λe w'=>∃π' v,e=.returned v/\Ext π π'/\res.val.rel π' v/\sU π' (hC (res.heap h)) (hZ (res.heap h)) w'/\cq w0 (Ds π h.length (Tn res.yP)) w'/\
   (∀b,π' b≠none->b<h.length+res.news.length)/\
   (∀b B s q e,h.length<=b->π' b=some (B,s,q,e)->B<w0.heap.size->∀i,s<=i->i<e->Ds π h.length (Tn res.yP) B i)
def Sound (P:Program)(f:FuncId)(F:Fw):Prop:=
 ∀args h res,(F args h).eval=some res->∀(w:World) (π:Pi) (vs:Array Value),bu (AV.rel π) args vs.toList->sU π (hC (h.map some)) (hZ (h.map some)) w->(∀b,π b≠none->b<h.length)->
  ((callFunc f vs).run P w=.ok (.enter f vs) w/\Calls P f vs w (tY π w h res))∨∃v,(callFunc f vs).run P w=.ok (.value v) w/\tY π w h res (.returned v) w
omit [ay] in
theorem T.aXN {t:T}{g:Gt}{r:pD}{l:List Fp}(h:aJ t.rd g r l):t.eval=some r:=by
 induction t generalizing l with
 |leaf r=>cases h;rfl
 |fail=>cases h
 |test x a b iha ihb=>
  cases h with|test h=>
  cases x
  .exact ihb h
  .exact iha h
 |opt x k ih=>
  cases h with|opt hx h=>
  subst hx;exact ih _ h
def piL (π:Pi)(vs:List Vw):Pi:=λj=>match vs[j]? with
 |some v=>match π v.b with
  |some (B,s,_,e)=>some (B,s+v.o.val,v.n,if v.own then e else s+v.o.val+v.n)
  |none=>none
 |none=>none
def OQ (vs kt:List Vw):Prop:=∃t,kt=vs++t
omit [ay] in
theorem OQ.refl (vs:List Vw):OQ vs vs:=⟨[],by simp⟩
omit [ay] in
theorem OQ.trans {a b c:List Vw}(h:OQ a b)(k:OQ b c):OQ a c:=by
 obtain⟨t,rfl⟩:=h;obtain⟨u,rfl⟩:=k;exact⟨t++u,by simp⟩
omit [ay] in
theorem OQ.get {vs kt:List Vw}(h:OQ vs kt){j:Nat}{v:Vw}(hj:vs[j]? =some v):kt[j]? =some v:=by
 obtain⟨t,rfl⟩:=h;rw[UR (lL.1 hj).1,hj]
omit [ay] in
theorem OQ.length {vs kt:List Vw}(h:OQ vs kt):vs.length<=kt.length:=by
 obtain⟨t,rfl⟩:=h;simp
omit [ay] in
theorem OQ.ext {π:Pi}{vs kt:List Vw}(h:OQ vs kt):Ext (piL π vs) (piL π kt):=by
 intro j p hp;unfold piL at hp ⊢;cases hj:vs[j]? with
 |none=>rw[hj] at hp;cases hp
 |some v=>rw[h.get hj];rw[hj] at hp;exact hp
def K' (π:Pi)(vs:List Vw):Prop:=
 (∀(i j:Nat) (v v':Vw),i≠j->vs[i]? =some v->vs[j]? =some v'->v.b=v'.b->(v.o.val+v.n<=v'.o.val∨v'.o.val+v'.n<=v.o.val)/\(v.own=false∨v'.own=false))/\
 ∀(i:Nat) (v:Vw),vs[i]? =some v->∃B s q e,π v.b=some (B,s,q,e)/\v.o.val+v.n<=q/\(v.own=true->v.o.val+v.n=q)
omit [ay] in
theorem K'.nil (π:Pi):K' π []:=⟨λi j v v' _ h=>by simp at h,λi v h=>by simp at h⟩
omit [ay] in
theorem ext_eq {o:cE}{cF:Sz}{z c n:Nat}(h:ext o cF z=some (c,n)):o.val=c/\cF.val*z=n:=by
 unfold ext at h;split at h
 .simp only[iI,rm] at h;exact h
 .cases h
omit [ay] in
theorem aKP {b:Nat}{o:cE}{cF:Sz}{z:Nat}{vs:List Vw}(h:au2 b (ext o cF z) vs=true):∀v∈vs,v.b=b->(o.val+cF.val*z<=v.o.val∨v.o.val+v.n<=o.val):=λv hv hb=>by
 have:=ath.1 h v hv;rw[hb,Fz] at this;simp only[Kg,Bool.false_or] at this;split at this
 .rename_i o1 n1 o2 n2 h1 h2
  obtain⟨e1,e2⟩:=ext_eq h1;obtain⟨e3,e4⟩:=ext_eq h2;simp only[agu,fy] at this;rw[e1,e2,e3,Vw.n,e4];exact this
 .cases this
omit [ay] in
theorem K'.snoc {π:Pi}{vs:List Vw}(h:K' π vs)(v:Vw)(ha:au2 v.b (ext v.o v.cF v.z) vs=true)(hb:∃B s q e,π v.b=some (B,s,q,e)/\v.o.val+v.n<=q/\(v.own=true->v.o.val+v.n=q))(qy:v.own=true->∀v'∈vs,v'.b=v.b->v'.own=false):K' π (vs++[v]):=by
 have hap:=aKP ha
 have aDV:∀(i:Nat) (w:Vw),(vs++[v])[i]? =some w->(i<vs.length/\vs[i]? =some w)∨(i=vs.length/\w=v):=λi w hw=>by
  rcases ni i vs.length with hi|hi
  .rw[UR hi] at hw;exact .inl ⟨hi,hw⟩
  .rw[aej hi] at hw
   have:i-vs.length=0:=by
    have:=(lL.1 hw).1;simp at this;omega
   rw[this] at hw;exact .inr ⟨by omega,by simpa using hw.symm⟩
 refine⟨λi j x y hij hx hy hxy=> ?_,λi x hx=> ?_⟩
 .rcases aDV i x hx with⟨hi,hx'⟩| ⟨hi,rfl⟩
  .rcases aDV j y hy with⟨hj,hy'⟩| ⟨hj,rfl⟩
   .exact h.1 i j x y hij hx' hy' hxy
   .have hm:=List.mem_of_getElem? hx';refine⟨(hap x hm hxy).symm,?_⟩;cases hvo:y.own with
    |false=>exact .inr rfl
    |true=>exact .inl (qy hvo x hm hxy)
  .rcases aDV j y hy with⟨hj,hy'⟩| ⟨hj,rfl⟩
   .have hm:=List.mem_of_getElem? hy';refine⟨hap y hm hxy.symm,?_⟩;cases hvo:x.own with
    |false=>exact .inl rfl
    |true=>exact .inr (qy hvo y hm hxy.symm)
   .omega
 .rcases aDV i x hx with⟨hi,hx'⟩| ⟨hi,rfl⟩
  .exact h.2 i x hx'
  .exact hb
omit [ay] in
theorem aax {b:Nat}{e:Option (Nat×Nat)}:∀{vs:List Vw} {i0 i d:Nat} {ow:Bool},acb b e vs i0=some (i,d,ow)->∃k v o n o' n',i=i0+k/\vs[k]? =some v/\v.b=b/\e=some (o,n)/\ext v.o v.cF v.z=some (o',n')/\o'<=o/\o+n<=o'+n'/\d=o-o'/\ow=v.own
 | [],_,_,_,_,h=>by simp[acb] at h
 |v::vs,i0,i,d,ow,h=>by
  have next:acb b e vs (i0+1)=some (i,d,ow)->∃k u o n o' n',i=i0+k/\(v::vs)[k]? =some u/\u.b=b/\e=some (o,n)/\ext u.o u.cF u.z=some (o',n')/\o'<=o/\o+n<=o'+n'/\d=o-o'/\ow=u.own:=λh=>by
   obtain⟨k,v',o,n,o',n',h1,h2,h3⟩:=aax h;exact⟨k+1,v',o,n,o',n',by omega,by simpa using h2,h3⟩
  simp only[acb] at h;split at h
  .exact next h
  .rename_i hb
   rw[beq_iff] at hb;split at h
   .rename_i o n o' n' h1
    split at h
    .rename_i hc
     cases h;simp only[cB,fy] at hc;exact⟨0,v,o,n,o',n',rfl,rfl,hb,rfl,h1,hc.1,hc.2,rfl,rfl⟩
    .exact next h
   .exact next h
omit [ay] in
theorem yS {π:Pi}{vs:List Vw}{j:Nat}{v:Vw}(h:vs[j]? =some v){B s q e:Nat}(hb:π v.b=some (B,s,q,e)):piL π vs j=some (B,s+v.o.val,v.n,if v.own then e else s+v.o.val+v.n):=by
 unfold piL;rw[h];simp only[hb]
omit [ay] in
theorem ayy (vs:List Vw)(v:Vw):(vs++[v])[vs.length]? =some v:=by simp
abbrev Loc {α:Type}(R:Pi->α->Value->Prop)(π:Pi)(vs:List Vw)(a':α)(kt:List Vw)(x:Value):Prop:=OQ vs kt/\(K' π vs->K' π kt/\R (piL π kt) a' x)
theorem aFe {g:Gt}{π:Pi}{c c':CV}{x:Value}{vs kt:List Vw}{l:List Fp}(h:aJ (aSG c vs) g (c',kt) l)(hx:c.rel π x):Loc CV.rel π vs c' kt x:=by
 cases c<;>simp only[aSG] at h
 case ptr b o n=>
  obtain⟨B,s,q,e,hp,hx,hm⟩:=hx;split at h
  .rename_i i d ow hf
   cases h;obtain⟨k,v,o1,n1,o2,n2,hk,hv,hb,h1,h2,h3,h4,h5,h6⟩:=aax hf;obtain⟨e1,e2⟩:=ext_eq h1;obtain⟨e3,e4⟩:=ext_eq h2;refine⟨OQ.refl _,λok=>⟨ok,?_⟩⟩;rw[<-hb] at hp;rw[show i=k by omega];simp only[Sz.val,Vt] at e2;refine⟨_,_,_,_,yS hv hp,?_,?_⟩
   .rw[hx,e1,e3];simp only[cE.val];congr 3;omega
   .show d+n<=v.n;unfold Vw.n;omega
  .obtain⟨_,⟨_,h1⟩,_,h⟩:=aJ.bind' h;cases h;refine⟨⟨_,rfl⟩,λok=>⟨ok.snoc ⟨b,o,.l 1,n,false,false⟩ h1.cR ⟨B,s,q,e,hp,by simp only[Vw.n,Sz.val,Vt];exact hm,λh=>by cases h⟩ (λh=>by cases h),?_⟩⟩;exact⟨_,_,_,_,yS (ayy vs ⟨b,o,.l 1,n,false,false⟩) hp,by rw[hx];rfl,by simp[cE.val,Vw.n,Sz.val]⟩
 case cl f b o n=>
  obtain⟨B,s,q,e,hp,hx,hm⟩:=hx;split at h
  .rename_i i d ow hf
   cases h;obtain⟨k,v,o1,n1,o2,n2,hk,hv,hb,h1,h2,h3,h4,h5,h6⟩:=aax hf;obtain⟨e1,e2⟩:=ext_eq h1;obtain⟨e3,e4⟩:=ext_eq h2;refine⟨OQ.refl _,λok=>⟨ok,?_⟩⟩;rw[<-hb] at hp;rw[show i=k by omega];simp only[Sz.val,Vt] at e2;refine⟨_,_,_,_,yS hv hp,?_,?_⟩
   .rw[hx];exact cW (λt=>Value.func (.func f) #[] #[.pointer (some ⟨B,t,none⟩)]) (by rw[e1,e3];simp only[cE.val];omega)
   .show d+n<=v.n;unfold Vw.n;omega
  .obtain⟨_,⟨_,h1⟩,_,h⟩:=aJ.bind' h;cases h;refine⟨⟨_,rfl⟩,λok=>⟨ok.snoc ⟨b,o,.l 1,n,false,false⟩ h1.cR ⟨B,s,q,e,hp,by simp only[Vw.n,Sz.val,Vt];exact hm,λh=>by cases h⟩ (λh=>by cases h),?_⟩⟩;exact⟨_,_,_,_,yS (ayy vs ⟨b,o,.l 1,n,false,false⟩) hp,by rw[hx];rfl,by simp[cE.val,Vw.n,Sz.val]⟩
 case sl b o len z own=>
  obtain⟨B,s,q,e,hp,hm,qy,hx⟩:=hx;split at h
  .rename_i i d ow hf
   cases h;obtain⟨k,v,o1,n1,o2,n2,hk,hv,hb,h1,h2,h3,h4,h5,h6⟩:=aax hf;obtain⟨e1,e2⟩:=ext_eq h1;obtain⟨e3,e4⟩:=ext_eq h2;refine⟨OQ.refl _,λok=>⟨ok,?_⟩⟩;rw[<-hb] at hp;rw[show i=k by omega];obtain⟨_,_,_,_,vm,hv1,hv2⟩:=ok.2 k v hv;rw[hp] at vm;cases vm;have hvn:v.n=n2:=e4;refine⟨_,_,_,_,yS hv hp,?_,λho=> ?_,?_⟩
   .show d+len.val*z<=v.n;omega
   .simp only[cB] at ho;rw[h6] at ho;have a1:=qy ho.1;have a2:=hv2 ho.2;show d+len.val*z=v.n;omega
   .refine hx.imp id λ⟨cap,r8,hx,hc⟩=>⟨cap,r8,?_,λho=> ?_⟩
    .show x=Value.slice (some ⟨B,s+v.o.val+d,none⟩) len.val cap;rw[hx,show s+o.val=s+v.o.val+d by omega]
    .simp only[cB] at ho;have a1:=hc ho.1;rw[h6] at ho;rw[if_pos ho.2];show s+v.o.val+d+cap*z<=e;omega
  .obtain⟨_,⟨_,h1⟩,_,h⟩:=aJ.bind' h;cases h;generalize hu:(own&&vs.all λv=> !Nat.beq v.b b|| !v.own)=u
   have hu1:u=true->own=true/\∀v'∈vs,v'.b=b->v'.own=false:=λh=>by
    rw[<-hu] at h;simp only[cB] at h;refine⟨h.1,λv' hv' fu=> ?_⟩;have:=ath.1 h.2 v' hv';rw[fu,Fz] at this;simpa using this
   refine⟨⟨_,rfl⟩,λok=>⟨ok.snoc ⟨b,o,len,z,true,u⟩ h1.cR ⟨B,s,q,e,hp,hm,λho=>qy (hu1 ho).1⟩ (λho=>(hu1 ho).2),?_⟩⟩;refine⟨_,_,_,_,yS (ayy vs ⟨b,o,len,z,true,u⟩) hp,by simp[cE.val,Vw.n,Sz.val],λ_=>by simp[cE.val,Vw.n,Sz.val],?_⟩;refine hx.imp id λ⟨cap,r8,hx,hc⟩=>⟨cap,r8,by rw[hx];rfl,λho=> ?_⟩
   rw[if_pos ho];have:=hc (hu1 ho).1;show s+o.val+0+cap*z<=e;omega
 all_goals (cases h;exact⟨OQ.refl _,λok=>⟨ok,hx⟩⟩)
omit [ay] in
theorem atx {α:Type}{R:Pi->α->Value->Prop}(mono:∀{π π':Pi},Ext π π'->∀a x,R π a x->R π' a x){f:α->List Vw->Rd (α×List Vw)}{ff:List α->List Vw->Rd (List α×List Vw)}(hff:∀vs,ff [] vs=.ret ([],vs))(a0V:∀a l vs,ff (a::l) vs=(f a vs).bind λx=>(ff l x.2).bind λy=>.ret (x.1::y.1,y.2))
  {g:Gt}{π:Pi}(hf:∀{a a' vs kt l x},aJ (f a vs) g (a',kt) l->R π a x->Loc R π vs a' kt x):∀{as as':List α} {vs kt:List Vw} {l:List Fp} {xs:List Value},aJ (ff as vs) g (as',kt) l->bu (R π) as xs->OQ vs kt/\(K' π vs->K' π kt/\bu (R (piL π kt)) as' xs)
 | [],as',vs,kt,l,xs,h,hx=>by
  rw[hff] at h;cases h;exact⟨OQ.refl _,λok=>⟨ok,by cases xs with|nil=>trivial|cons=>exact hx.elim⟩⟩
 |a::as,as',vs,kt,l,[],h,hx=>hx.elim
 |a::as,as',vs,kt,l,x::xs,h,⟨hx,hxs⟩=>by
  rw[a0V] at h;obtain⟨p,⟨_,h1⟩,_,h⟩:=aJ.bind' h;obtain⟨y,⟨_,h2⟩,_,h⟩:=aJ.bind' h;cases h;obtain⟨L1,L2⟩:=hf (a':=p.1) (kt:=p.2) h1 hx;obtain⟨p1,p2⟩:=atx mono hff a0V hf (as:=as) (as':=y.1) (kt:=y.2) h2 hxs;refine⟨L1.trans p1,λok=> ?_⟩;obtain⟨ok1,r1⟩:=L2 ok;obtain⟨ok2,r2⟩:=p2 ok1;exact⟨ok2,mono p1.ext _ _ r1,r2⟩
theorem agT {g:Gt}{π:Pi}:∀{b b':aj} {vs kt:List Vw} {l:List Fp} {f:Nat->Value},aJ (aMO b vs) g (b',kt) l->(∀j,j<aj.size b->(aj.get b j).rel π (f j))->
  OQ vs kt/\(K' π vs->K' π kt)/\aj.size b'=aj.size b/\(K' π vs->∀j,j<aj.size b->(aj.get b' j).rel (piL π kt) (f j))
 | [],b',vs,kt,l,f,h,_=>by
  cases h;exact⟨OQ.refl _,id,rfl,λ_ j hj=>by rw[aj.lG] at hj;omega⟩
 |.c v::r,b',vs,kt,l,f,h,hx=>by
  obtain⟨p,⟨_,h1⟩,_,h⟩:=aJ.bind' h;obtain⟨y,⟨_,h2⟩,_,h⟩:=aJ.bind' h;cases h;obtain⟨L1,L2⟩:=aFe (c':=p.1) (kt:=p.2) h1 (hx 0 (by rw[aj.size_cons,Sg.kF];omega))
  obtain⟨p1,p2,p3,p4⟩:=agT (b:=r) (b':=y.1) (kt:=y.2) (f:=λj=>f (j+1)) h2 (λj hj=>by
   have:=hx (j+1) (by rw[aj.size_cons,Sg.kF];omega);rwa [<-aj.kG (l:=r) (j':=j) (by omega) (by omega)] at this)
  refine⟨L1.trans p1,λok=>p2 (L2 ok).1,by rw[aj.size_cons,aj.size_cons,p3];rfl,λok j hj=> ?_⟩;obtain⟨ok1,r1⟩:=L2 ok;cases j with
  |zero=>exact CV.dM p1.ext _ _ r1
  |succ j=>
   rw[<-aj.kG (l:=y.1) (j':=j) (by omega) (by omega)];exact p4 ok1 j (by rw[aj.size_cons,Sg.kF] at hj;omega)
 |.a n cols::r,b',vs,kt,l,f,h,hx=>by
  obtain⟨y,⟨_,h2⟩,_,h⟩:=aJ.bind' h;cases h
  obtain⟨p1,p2,p3,p4⟩:=agT (b:=r) (b':=y.1) (kt:=y.2) (f:=λj=>f (j+(Sg.a n cols).size)) h2 (λj hj=>by
   have:=hx (j+(Sg.a n cols).size) (by rw[aj.size_cons];omega);rwa [aj.lp (by omega),Nat.add_sub_cancel] at this)
  refine⟨p1,p2,by rw[aj.size_cons,aj.size_cons,p3],λok j hj=> ?_⟩;rw[aj.size_cons] at hj;by_cases lM:j<(Sg.a n cols).size
  .have:=hx j (by rw[aj.size_cons];omega);rw[aj.dR lM,Sg.pC] at this;rw[aj.dR lM,Sg.pC];obtain⟨v,hv⟩:=aDU cols j;rw[hv] at this ⊢;exact this
  .rw[aj.lp (by omega)];have:=p4 ok (j-(Sg.a n cols).size) (by omega);rwa [Nat.sub_add_cancel (by omega)] at this
theorem aFf {g:Gt}{π:Pi}{r r':RV}{x:Value}{vs kt:List Vw}{l:List Fp}(h:aJ (aSH r vs) g (r',kt) l)(hx:r.rel π x):Loc RV.rel π vs r' kt x:=by
 cases r with
 |c c=>
  obtain⟨p,⟨_,h1⟩,_,h⟩:=aJ.bind' h;cases h;exact aFe (c':=p.1) (kt:=p.2) h1 hx
 |agg cs=>
  obtain⟨p,⟨_,h1⟩,_,h⟩:=aJ.bind' h;cases h;obtain⟨arr,rfl,hr⟩:=hx;obtain⟨l1,l2⟩:=jy hr
  obtain⟨p1,p2,p3,p4⟩:=agT (b':=p.1) (kt:=p.2) (f:=λj=>arr.toList.getD j undef) h1 (λj hj=>by
   obtain⟨x,hx,hr⟩:=l2 j hj;simp only[List.getD,hx,LU];exact hr)
  refine⟨p1,λok=>⟨p2 ok,arr,rfl,yD (by rw[l1,p3]) λj hj=> ?_⟩⟩;obtain⟨x,hx,_⟩:=l2 j (by omega);have:=p4 ok j (by omega);simp only[List.getD,hx,LU] at this;exact⟨x,hx,this⟩
theorem aAh {g:Gt}{π:Pi}{cs Ti:List RV}{xs:List Value}{vs kt:List Vw}{l:List Fp}(h:aJ (aEJ cs vs) g (Ti,kt) l)(hx:bu (RV.rel π) cs xs):OQ vs kt/\(K' π vs->K' π kt/\bu (RV.rel (piL π kt)) Ti xs):=
 atx (R:=RV.rel) (λh a x r=>RV.dM h a x r) (f:=aSH) (ff:=aEJ) (λ_=>rfl) (λ_ _ _=>rfl) (λh hx=>aFf h hx) h hx
theorem aQV {g:Gt}{π:Pi}{r r':AV}{x:Value}{vs kt:List Vw}{l:List Fp}(h:aJ (aXt r vs) g (r',kt) l)(hx:r.rel π x):Loc AV.rel π vs r' kt x:=by
 cases r with
 |r c=>
  obtain⟨p,⟨_,h1⟩,_,h⟩:=aJ.bind' h;cases h;exact aFf (r':=p.1) (kt:=p.2) h1 hx
 |tup cs=>
  obtain⟨p,⟨_,h1⟩,_,h⟩:=aJ.bind' h;cases h;obtain⟨arr,rfl,hr⟩:=hx;obtain⟨p1,p2⟩:=aAh (Ti:=p.1) (kt:=p.2) h1 hr;exact⟨p1,λok=>⟨(p2 ok).1,arr,rfl,(p2 ok).2⟩⟩
 |fn f cs=>
  obtain⟨p,⟨_,h1⟩,_,h⟩:=aJ.bind' h;cases h;obtain⟨arr,rfl,hr⟩:=hx;obtain⟨p1,p2⟩:=aAh (Ti:=p.1) (kt:=p.2) h1 hr;exact⟨p1,λok=>⟨(p2 ok).1,arr,rfl,(p2 ok).2⟩⟩
 |WG=>cases h;exact⟨OQ.refl _,λok=>⟨ok,trivial⟩⟩
theorem aNj {g:Gt}{π:Pi}{cs Ti:List AV}{xs:List Value}{vs kt:List Vw}{l:List Fp}(h:aJ (aKF cs vs) g (Ti,kt) l)(hx:bu (AV.rel π) cs xs):OQ vs kt/\(K' π vs->K' π kt/\bu (AV.rel (piL π kt)) Ti xs):=
 atx (R:=AV.rel) (λh a x r=>AV.dM h a x r) (f:=aXt) (ff:=aKF) (λ_=>rfl) (λ_ _ _=>rfl) (λh hx=>aQV h hx) h hx
structure aFg (π:Pi)(g:Gt)(w:World)(vs:List Vw)(v:Vw)(k:aj):Prop where
 live:∃q,g.z v.b=some q
 size:aj.size k=v.n
 rel:∀B s q e,π v.b=some (B,s,q,e)->∀j,j<v.n->∃x,cl w B (s+v.o.val+j)=some x/\(aj.get k j).rel (piL π vs) x
theorem aFg.pre {π:Pi}{g:Gt}{w:World}{vs kt:List Vw}{v:Vw}{k:aj}(h:aFg π g w vs v k)(p:OQ vs kt):aFg π g w kt v k:=
 ⟨h.live,h.size,λB s q e hb j hj=>let⟨x,hx,hr⟩:=h.rel B s q e hb j hj;⟨x,hx,CV.dM p.ext _ _ hr⟩⟩
omit [ay] in
theorem aFh {α:Type}{l:List α}{x y:α}{j:Nat}(h:(l++[x])[j]? =some y):l[j]? =some y∨(j=l.length/\y=x):=by
 rcases ni j l.length with hj|hj
 .rw[UR hj] at h;exact .inl h
 .rw[aej hj] at h
  have:j-l.length=0:=by
   have:=(lL.1 h).1;simp at this;omega
  rw[this] at h;exact .inr ⟨by omega,by simpa using h.symm⟩
theorem aFi {π:Pi}{g:Gt}{w:World}(H:sU π g.c g.z w):∀{fuel i:Nat} {vs kt:List Vw} {acc lh:List aj} {l:List Fp},aJ (aSI fuel i vs acc) g (lh,kt) l->acc.length=i->i<=vs.length->K' π vs->(∀(j:Nat) v k,vs[j]? =some v->acc[j]? =some k->aFg π g w vs v k)->
  OQ vs kt/\K' π kt/\lh.length=kt.length/\∀(j:Nat) v k,kt[j]? =some v->lh[j]? =some k->aFg π g w kt v k
 |0,_,_,_,_,_,_,h,_,_,_,_=>by cases h
 |fuel+1,i,vs,kt,acc,lh,l,h,hi,hi2,ok,aNk=>by
  simp only[aSI] at h;split at h
  .rename_i hn
   cases h;have:vs.length<=i:=List.getElem?_eq_none_iff.1 hn;exact⟨OQ.refl _,ok,by omega,aNk⟩
  .rename_i v hv
   have nL:i<vs.length:=(lL.1 hv).1;cases h with|vw q k hz hs hk h=>
   obtain⟨x,⟨_,h1⟩,_,h⟩:=aJ.bind' h;obtain⟨B,s,e,hb,hle,_,hc⟩:=H.hp _ _ hz;obtain⟨_,_,_,_,fu,hvb,_⟩:=ok.2 i v hv;rw[hb] at fu;cases fu;have hvn:v.cF.val*v.z=v.n:=rfl;rw[hvn] at hs hk;have hk:=hk hvb;generalize hkk:aQG v.sl v.z k=k2 at h1
   have hk2:aj.size k2=aj.size k/\∀j,j<aj.size k->aj.get k2 j=aj.get k j:=by
    rw[<-hkk];unfold aQG;cases v.sl
    .exact⟨rfl,λ_ _=>rfl⟩
    .obtain⟨t1,t2⟩:=aas v.z k;obtain⟨t3,t4⟩:=ayr (atl v.z k);exact⟨t3.trans t1,λj hj=>(t4 j).trans (t2 j hj)⟩
   have cell:∀j,j<v.n->∃y,cl w B (s+v.o.val+j)=some y/\(aj.get k2 j).rel π y:=λj hj=>by
    obtain⟨y,hy,hr⟩:=hc (v.o.val+j) (by omega);rw[<-hk j hj,<-hk2.2 j (by omega)] at hr;exact⟨y,by rw[show s+v.o.val+j=s+(v.o.val+j) by omega];exact hy,hr⟩
   obtain⟨p1,p2,p3,p4⟩:=agT (b':=x.1) (kt:=x.2) (f:=λj=>(cl w B (s+v.o.val+j)).getD undef) h1 (λj hj=>by
    obtain⟨y,hy,hr⟩:=cell j (by omega);rw[hy];exact hr)
   have hx2:=p1.length
   obtain⟨q1,q2,q3,q4⟩:=aFi H h (by simp[hi]) (by omega) (p2 ok) (λj u k' hu LK=>by
    rcases aFh LK with LK| ⟨hj,rfl⟩
    .have hj:j<acc.length:=(lL.1 LK).1
     have hu':vs[j]? =some u:=by
      have:vs[j]? =some (vs[j]'(by omega)):=kR _;rw[this];have:=p1.get this;rw[hu] at this;exact this.symm
     exact(aNk j u k' hu' LK).pre p1
    .have huv:u=v:=by
      rw[hj,hi] at hu;have:=p1.get hv;rw[hu] at this;exact HX this
     subst huv;refine⟨⟨q,hz⟩,by rw[p3,hk2.1,hs],λB' s' q' e' fu j hj'=> ?_⟩;rw[hb] at fu;cases fu;obtain⟨y,hy,_⟩:=cell j hj';have:=p4 ok j (by omega);rw[hy] at this;exact⟨y,hy,this⟩)
   exact⟨p1.trans q1,q2,q3,q4⟩
end Go.Ab
namespace Go.Ab
variable [ay]
omit [ay] in
theorem QD (lh:List aj)(j:Nat):hZ (lh.map some) j=(lh[j]?).map aj.size:=by
 simp only[hZ,Ca];cases lh[j]? <;>rfl
omit [ay] in
theorem aDW {lh:List aj}{j i:Nat}{k:aj}(h:lh[j]? =some k)(hi:i<k.size):hC (lh.map some) j i=k.get i:=by
 simp[hC,Ca,h,hi]
theorem sU.local {π:Pi}{g:Gt}{w:World}(H:sU π g.c g.z w){vs:List Vw}{lh:List aj}(ok:K' π vs)(hl:lh.length=vs.length)(hv:∀(j:Nat) v k,vs[j]? =some v->lh[j]? =some k->aFg π g w vs v k):
  sU (piL π vs) (hC (lh.map some)) (hZ (lh.map some)) w:=by
 have get:∀j n,hZ (lh.map some) j=some n->∃v k q B s e,vs[j]? =some v/\lh[j]? =some k/\aj.size k=n/\aFg π g w vs v k/\g.z v.b=some q/\v.o.val+v.n<=q/\aj.size k=v.n/\π v.b=some (B,s,q,e)/\s+q<=e/\(v.own=true->v.o.val+v.n=q):=λj n hz=>by
  rw[QD] at hz;cases hk:lh[j]? with
  |none=>rw[hk] at hz;cases hz
  |some k=>
   rw[hk] at hz;have hj:j<vs.length:=by rw[<-hl];exact(lL.1 hk).1
   have hvj:vs[j]? =some (vs[j]'hj):=kR _;have V:=hv j _ k hvj hk;obtain⟨q,hq⟩:=V.live;obtain⟨B,s,e,hb,BK,_⟩:=H.hp _ _ hq;obtain⟨_,_,_,_,fu,hle,how⟩:=ok.2 j _ hvj;rw[hb] at fu;cases fu;exact⟨_,k,q,B,s,e,hvj,rfl,by simpa using hz,V,hq,hle,V.size,hb,BK,how⟩
 refine⟨H.am,λj B s q e hz hp BK=> ?_,λj n hz=> ?_,λj j' B s q e s' q' e' mC hz uY hp vm i i1 i2 i3 i4=> ?_⟩
 .cases hh:hZ (lh.map some) j with
  |none=>exact absurd hh hz
  |some n=>
   obtain⟨v,k,q0,B1,s1,e1,hvj,hk,hn,V,hq,hle,yQ,hb,a5S,ho⟩:=get j n hh;rw[yS hvj hb] at hp;simp only[iI,rm] at hp;obtain⟨rfl,hs1,_,he1⟩:=hp;rw[<-hs1,<-he1] at BK;refine H.lb v.b _ s1 q0 e1 (by simp[hq]) hb ?_;split at BK<;>omega
 .obtain⟨v,k,q,B,s,e,hvj,hk,hn,V,hq,hle,yQ,hb,BK,ho⟩:=get j n hz;obtain⟨_,_,_,fu,_,k1,k2⟩:=H.hp _ _ hq;rw[hb] at fu;cases fu;have hp:=yS hvj hb;rw[<-yQ,hn] at hp;refine⟨B,s+v.o.val,_,hp,?_,λi i1 i2=> ?_,λi hi=> ?_⟩
  .split
   .rename_i h;have:=ho h;omega
   .omega
  .refine k1 i (by omega) ?_;split at i2<;>omega
  .obtain⟨y,hy,hr⟩:=V.rel B s q e hb i (by omega);refine⟨y,hy,?_⟩;rw[aDW hk (by omega)];exact hr
 .cases hh:hZ (lh.map some) j with
  |none=>exact hz hh
  |some n=>
  cases hh':hZ (lh.map some) j' with
  |none=>exact uY hh'
  |some n'=>
  obtain⟨v,k,q0,B1,s1,e1,hvj,hk,hn,V,hq,hle,yQ,hb,BK,ho⟩:=get j n hh;obtain⟨v',k',q0',B2,s2,e2,a0W,LK,hn',V',hq',a5T,a5U,fu,a5V,ho'⟩:=get j' n' hh';rw[yS hvj hb] at hp;rw[yS a0W fu] at vm;simp only[iI,rm] at hp vm;obtain⟨rfl,hs1,_,he1⟩:=hp;obtain⟨rfl,WM,_,he2⟩:=vm;rw[<-hs1] at i1;rw[<-he1] at i2;rw[<-WM] at i3;rw[<-he2] at i4;by_cases hbb:v.b=v'.b
  .obtain⟨aXO,qy⟩:=ok.1 j j' v v' mC hvj a0W hbb;rw[hbb] at hb hq;rw[hb] at fu;cases fu;cases h1:v.own<;>cases h2:v'.own<;>simp only[h1,h2,lI,gA,ya] at i2 i4
   .omega
   .have:=ho' h2;omega
   .have:=ho h1;omega
   .rcases qy with h|h
    .rw[h1] at h;cases h
    .rw[h2] at h;cases h
  .refine H.dj v.b v'.b _ s1 q0 e1 s2 q0' e2 hbb (by simp[hq]) (by simp[hq']) hb fu i (by omega) ?_ (by omega) ?_
   .split at i2<;>omega
   .split at i4<;>omega
def piB (π πL:Pi)(n aM m:Nat):Pi:=λb=>if aM<=b/\b<aM+m then πL (n+(b-aM)) else π b
omit [ay] in
theorem WR {π πL:Pi}{n aM m k:Nat}(h:k<m):piB π πL n aM m (aM+k)=πL (n+k):=by
 unfold piB;rw[if_pos (by omega),show aM+k-aM=k by omega]
omit [ay] in
theorem WT {π πL:Pi}{n aM m b:Nat}(h:¬(aM<=b/\b<aM+m)):piB π πL n aM m b=π b:=by
 unfold piB;rw[if_neg h]
structure Bck (π πL:Pi)(vs:List Vw)(aM m:Nat):Prop where
 ext:Ext (piL π vs) πL
 dom:∀b,πL b≠none->b<vs.length+m
 fresh:∀b,aM<=b->b<aM+m->π b=none
 live:∀(j:Nat) v,vs[j]? =some v->∃B s q e,π v.b=some (B,s,q,e)/\v.o.val+v.n<=q/\(v.own=true->v.o.val+v.n=q)
omit [ay] in
theorem Bck.yc {π πL:Pi}{vs:List Vw}{aM m:Nat}(K:Bck π πL vs aM m){b:Nat}{p:Nat×Nat×Nat×Nat}(h:π b=some p):piB π πL vs.length aM m b=some p:=by
 rw[WT,h];intro hc;rw[K.fresh b hc.1 hc.2] at h;cases h
omit [ay] in
theorem Bck.ext' {π πL:Pi}{vs:List Vw}{aM m:Nat}(K:Bck π πL vs aM m):Ext π (piB π πL vs.length aM m):=λ_ _ h=>K.yc h
omit [ay] in
theorem Bck.at {π πL:Pi}{vs:List Vw}{aM m:Nat}(K:Bck π πL vs aM m){j:Nat}{B s q e:Nat}(h:πL j=some (B,s,q,e)):
  (∃v s0 q0 e0,vs[j]? =some v/\π v.b=some (B,s0,q0,e0)/\s=s0+v.o.val/\q=v.n/\(e=if v.own then e0 else s0+v.o.val+v.n)/\v.o.val+v.n<=q0/\(v.own=true->v.o.val+v.n=q0))∨(vs[j]? =none/\vs.length<=j/\j-vs.length<m/\piB π πL vs.length aM m (aM+(j-vs.length))=some (B,s,q,e)):=by
 have hd:=K.dom j (by simp[h]);cases hv:vs[j]? with
 |some v=>
  obtain⟨B0,s0,q0,e0,hp,hle,how⟩:=K.live j v hv;have:=K.ext _ _ (yS hv hp);rw[h] at this;simp only[iI,rm] at this;obtain⟨rfl,h1,h2,h3⟩:=this;exact .inl ⟨v,s0,q0,e0,rfl,hp,h1,h2,h3,hle,how⟩
 |none=>
  have hj:vs.length<=j:=List.getElem?_eq_none_iff.1 hv;refine .inr ⟨rfl,hj,by omega,?_⟩;rw[WR (by omega),show vs.length+(j-vs.length)=j by omega,h]
omit [ay] in
theorem cE.La (a b:cE):(a.plus b).val=a.val+b.val:=by
 cases a<;>cases b<;>simp only[cE.plus,cE.val]<;>first|omega|skip
 rename_i c i z d j y
 cases hz:Nat.beq z y with
 |true=>
  have:=lE hz;subst this;simp only[cE.val,qP];omega
 |false=>simp only[cE.val];omega
theorem Bck.aSU {π πL:Pi}{vs:List Vw}{aM m:Nat}(K:Bck π πL vs aM m)(c:CV)(x:Value)(h:c.rel πL x):(LX vs aM c).rel (piB π πL vs.length aM m) x:=by
 cases c<;>simp only[LX]
 case ptr j d n=>
  obtain⟨B,s,q,e,hp,hx,hm⟩:=h;rcases K.at hp with⟨v,s0,q0,e0,hv,hb,hs,hq,he,hle,how⟩| ⟨hv,hj,hm2,hb⟩
  .rw[hv];refine⟨B,s0,q0,e0,K.yc hb,?_,by rw[cE.La];omega⟩;rw[hx,cE.La];congr 3;omega
  .rw[hv];exact⟨B,s,q,e,hb,hx,hm⟩
 case cl f j d n=>
  obtain⟨B,s,q,e,hp,hx,hm⟩:=h;rcases K.at hp with⟨v,s0,q0,e0,hv,hb,hs,hq,he,hle,how⟩| ⟨hv,hj,hm2,hb⟩
  .rw[hv];refine⟨B,s0,q0,e0,K.yc hb,?_,by rw[cE.La];omega⟩;rw[hx,cE.La];exact cW (λt=>Value.func (.func f) #[] #[.pointer (some ⟨B,t,none⟩)]) (by omega)
  .rw[hv];exact⟨B,s,q,e,hb,hx,hm⟩
 case sl j d len z own=>
  obtain⟨B,s,q,e,hp,hm,qy,hx⟩:=h;rcases K.at hp with⟨v,s0,q0,e0,hv,hb,hs,hq,he,hle,how⟩| ⟨hv,hj,hm2,hb⟩
  .rw[hv];refine⟨B,s0,q0,e0,K.yc hb,by rw[cE.La];omega,λho=> ?_,hx.imp id λ⟨cap,r8,hx,hc⟩=>⟨cap,r8,?_,λho=> ?_⟩⟩
   .simp only[cB] at ho;have a1:=qy ho.1;have a2:=how ho.2;rw[cE.La];omega
   .rw[hx,cE.La];congr 3;omega
   .simp only[cB] at ho;have:=hc ho.1;rw[if_pos ho.2] at he;rw[cE.La];omega
  .rw[hv];exact⟨B,s,q,e,hb,hm,qy,hx⟩
 all_goals exact h
omit [ay] in
theorem aKQ (vs:List Vw)(aM:Nat)(x:FV):LX vs aM (.f x)=.f x:=rfl
omit [ay] in
theorem aay {α β γ:Type}{R:α->γ->Prop}{R':β->γ->Prop}{f:α->β}(hf:∀a c,R a c->R' (f a) c):∀{l:List α} {m:List γ},bu R l m->bu R' (l.map f) m
 | [],[],_=>trivial
 |_::_,_::_,⟨a,b⟩=>⟨hf _ _ a,aay hf b⟩
 | [],_::_,h=>h.elim
 |_::_,[],h=>h.elim
theorem Bck.aXP {π πL:Pi}{vs:List Vw}{aM m:Nat}(K:Bck π πL vs aM m)(c:RV)(x:Value)(h:c.rel πL x):(aSJ vs aM c).rel (piB π πL vs.length aM m) x:=by
 cases c with
 |c c=>exact K.aSU c x h
 |agg cs=>
  obtain⟨a,hx,ha⟩:=h;obtain⟨l1,l2⟩:=jy ha;refine⟨a,hx,yD (by rw[Kj,l1]) λj hj=> ?_⟩;rw[Kj] at hj;obtain⟨x,hx,hr⟩:=l2 j hj;exact⟨x,hx,by rw[ays (aKQ vs aM) _ _ hj];exact K.aSU _ _ hr⟩
theorem Bck.a3t {π πL:Pi}{vs:List Vw}{aM m:Nat}(K:Bck π πL vs aM m)(c:AV)(x:Value)(h:c.rel πL x):(aMP vs aM c).rel (piB π πL vs.length aM m) x:=by
 cases c with
 |r r=>exact K.aXP r x h
 |tup cs=>obtain⟨a,hx,ha⟩:=h;exact⟨a,hx,aay K.aXP ha⟩
 |fn f cs=>obtain⟨a,hx,ha⟩:=h;exact⟨a,hx,aay K.aXP ha⟩
 |WG=>trivial
omit [ay] in
theorem aaz {all:List Vw}{aM:Nat}:∀{vs:List Vw} {cs:List Ch} {us:List Up},AY all aM vs cs=some (true,us)->
  (∀(i j:Nat) (v v':Vw),i≠j->vs[i]? =some v->vs[j]? =some v'->v.b=v'.b->(v.o.val+v.n<=v'.o.val∨v'.o.val+v'.n<=v.o.val))->
  vs.length=cs.length/\(∀(j:Nat) v b,vs[j]? =some v->cs[j]? =some (.set b)->aj.size b=v.n)/\(∀u∈us,∃(j:Nat) (v:Vw) (b:aj),vs[j]? =some v/\cs[j]? =some (.set b)/\u=.c v.b v.o (K8 (LX all aM) b))/\
  (∀g,(cH us g).z=g.z/\(cH us g).t=g.t)/\
  ∀g (j:Nat) v b i,vs[j]? =some v->cs[j]? =some (.set b)->v.o.val<=i->i<v.o.val+v.n->(cH us g).c v.b i=LX all aM (aj.get b (i-v.o.val))
 | [],[],us,h,_=>by
  simp[AY] at h;subst h
  exact⟨rfl,λj v b h=>by simp at h,λu h=>by simp at h,λg=>⟨rfl,rfl⟩,λg j v b i h=>by simp at h⟩
 |v0::vs,.mB::cs,us,h,hd=>by
  simp only[AY] at h;obtain⟨h1,h2,h3,h4,h5⟩:=aaz h (λi j v v' hij hi hj=>hd (i+1) (j+1) v v' (by omega) (by simpa using hi) (by simpa using hj));refine⟨by simp[h1],λj v b hv hc=> ?_,λu hu=> ?_,h4,λg j v b i hv hc=> ?_⟩
  .cases j with
   |zero=>simp at hc
   |succ j=>exact h2 j v b (by simpa using hv) (by simpa using hc)
  .obtain⟨j,v,b,e1,e2,e3⟩:=h3 u hu;exact⟨j+1,v,b,by simpa using e1,by simpa using e2,e3⟩
  .cases j with
   |zero=>simp at hc
   |succ j=>exact h5 g j v b i (by simpa using hv) (by simpa using hc)
 |v0::vs,.kill::cs,us,h,hd=>by
  simp only[AY] at h;obtain⟨h1,h2,h3,h4,h5⟩:=aaz h (λi j v v' hij hi hj=>hd (i+1) (j+1) v v' (by omega) (by simpa using hi) (by simpa using hj));refine⟨by simp[h1],λj v b hv hc=> ?_,λu hu=> ?_,h4,λg j v b i hv hc=> ?_⟩
  .cases j with
   |zero=>simp at hc
   |succ j=>exact h2 j v b (by simpa using hv) (by simpa using hc)
  .obtain⟨j,v,b,e1,e2,e3⟩:=h3 u hu;exact⟨j+1,v,b,by simpa using e1,by simpa using e2,e3⟩
  .cases j with
   |zero=>simp at hc
   |succ j=>exact h5 g j v b i (by simpa using hv) (by simpa using hc)
 |v0::vs,.set b0::cs,us,h,hd=>by
  simp only[AY] at h;split at h
  .rename_i p hu
   simp only[iI,rm,cB,beq_iff] at h;obtain⟨⟨hg,yQ⟩,rfl⟩:=h;obtain⟨p1,us'⟩:=p;simp only at hg;subst hg;obtain⟨h1,h2,h3,h4,h5⟩:=aaz hu (λi j v v' hij hi hj=>hd (i+1) (j+1) v v' (by omega) (by simpa using hi) (by simpa using hj));have hlen:aj.size (K8 (LX all aM) b0)=v0.n:=by rw[Kj,yQ]
   refine⟨by simp[h1],λj v b hv hc=> ?_,λu hu=> ?_,λg=>⟨(h4 _).1,(h4 _).2⟩,λg j v b i hv hc i1 i2=> ?_⟩
   .cases j with
    |zero=>simp at hv hc;subst hv hc;exact yQ
    |succ j=>exact h2 j v b (by simpa using hv) (by simpa using hc)
   .rcases ab7.1 hu with rfl|hu
    .exact⟨0,v0,b0,rfl,rfl,rfl⟩
    .obtain⟨j,v,b,e1,e2,e3⟩:=h3 u hu;exact⟨j+1,v,b,by simpa using e1,by simpa using e2,e3⟩
   .show(cH us' ((Up.c v0.b v0.o (K8 (LX all aM) b0)).hI g)).c v.b i=_;cases j with
    |succ j=>exact h5 _ j v b i (by simpa using hv) (by simpa using hc) i1 i2
    |zero=>
     simp at hv hc
     subst hv hc
     have Z4:=rq (us:=us') (g:=(Up.c v0.b v0.o (K8 (LX all aM) b0)).hI g) (p:=.c v0.b i) (λu hu ht=>by
      obtain⟨j,v,b,e1,e2,rfl⟩:=h3 u hu;simp only[Up.H0,Kj,h2 j v b e1 e2] at ht;have:=hd 0 (j+1) v0 v (by omega) rfl (by simpa using e1) ht.1.symm;omega)
     simp only[Gt.at,PV.c.injEq] at Z4;rw[Z4];simp only[Up.hI];rw[if_pos ⟨trivial,i1,by rw[hlen];exact i2⟩,ays (aKQ all aM) _ _ (by omega)]
  .cases h
 | [],_::_,us,h,_=>by simp[AY] at h
 |_::_,[],us,h,_=>by simp[AY] at h
omit [ay] in
theorem agU:∀{vs:List Vw} {cs:List Ch} (g:Gt),vs.length=cs.length->
  (cH (pK vs cs) g).t=g.t/\(∀b,(∃(j:Nat) (v:Vw),vs[j]? =some v/\cs[j]? =some .kill/\v.b=b)->(cH (pK vs cs) g).z b=none)/\
  (∀b,¬(∃(j:Nat) (v:Vw),vs[j]? =some v/\cs[j]? =some .kill/\v.b=b)->(cH (pK vs cs) g).z b=g.z b/\∀i,(cH (pK vs cs) g).c b i=g.c b i)
 | [],[],g,_=>⟨rfl,λb ⟨j,v,h,_⟩=>by simp at h,λb _=>⟨rfl,λ_=>rfl⟩⟩
 |v0::vs,c::cs,g,hl=>by
  have hl':vs.length=cs.length:=by simpa using hl
  by_cases hc:c=.kill
  .subst hc;show(cH (pK vs cs) ((Up.kill v0.b).hI g)).t=_/\_;obtain⟨h0,h1,h2⟩:=agU (vs:=vs) (cs:=cs) ((Up.kill v0.b).hI g) hl';refine⟨h0,λb hb=> ?_,λb hb=> ?_⟩
   .show(cH (pK vs cs) ((Up.kill v0.b).hI g)).z b=none;by_cases hx:∃(j:Nat) (v:Vw),vs[j]? =some v/\cs[j]? =some .kill/\v.b=b
    .exact h1 b hx
    .rw[(h2 b hx).1];obtain⟨j,v,e1,e2,e3⟩:=hb;cases j with
     |zero=>simp at e1;subst e1;simp[Up.hI,e3]
     |succ j=>exact absurd ⟨j,v,by simpa using e1,by simpa using e2,e3⟩ hx
   .have hx:¬∃(j:Nat) (v:Vw),vs[j]? =some v/\cs[j]? =some .kill/\v.b=b:=λ⟨j,v,e1,e2,e3⟩=>hb ⟨j+1,v,by simpa using e1,by simpa using e2,e3⟩
    have mC:b≠v0.b:=λe=>hb ⟨0,v0,rfl,rfl,e.symm⟩
    obtain⟨k1,k2⟩:=h2 b hx;refine⟨k1.trans (by simp[Up.hI,mC]),λi=>(k2 i).trans (by simp[Up.hI,mC])⟩
  .have e:pK (v0::vs) (c::cs)=pK vs cs:=by cases c<;>first|rfl|exact absurd rfl hc
   rw[e];obtain⟨h0,h1,h2⟩:=agU (vs:=vs) (cs:=cs) g hl';refine⟨h0,λb ⟨j,v,e1,e2,e3⟩=> ?_,λb hb=>h2 b λ⟨j,v,e1,e2,e3⟩=>hb ⟨j+1,v,by simpa using e1,by simpa using e2,e3⟩⟩;cases j with
   |zero=>simp at e2;exact absurd e2 hc
   |succ j=>exact h1 b ⟨j,v,by simpa using e1,by simpa using e2,e3⟩
 | [],_::_,_,h=>by simp at h
 |_::_,[],_,h=>by simp at h
omit [ay] in
theorem alD {vs:List Vw}{aM:Nat}:∀{bs:List aj} {j0:Nat} (g:Gt),
  (cH (HY vs aM bs j0) g).t=g.t/\(∀(k:Nat) (b:aj),bs[k]? =some b->(cH (HY vs aM bs j0) g).z (aM+(j0+k))=some (aj.size b)/\∀i,i<aj.size b->(cH (HY vs aM bs j0) g).c (aM+(j0+k)) i=LX vs aM (aj.get b i))/\
  (∀b,¬(aM+j0<=b/\b<aM+j0+bs.length)->(cH (HY vs aM bs j0) g).z b=g.z b/\∀i,(cH (HY vs aM bs j0) g).c b i=g.c b i)/\cF (HY vs aM bs j0)=bs.length
 | [],j0,g=>⟨rfl,λk b h=>by simp at h,λb _=>⟨rfl,λ_=>rfl⟩,rfl⟩
 |b0::bs,j0,g=>by
  obtain⟨h0,h1,h2,h3⟩:=alD (vs:=vs) (aM:=aM) (bs:=bs) (j0:=j0+1) ((Up.new (aM+j0) (K8 (LX vs aM) b0)).hI g);refine⟨h0,λk b hk=> ?_,λb hb=> ?_,?_⟩
  .show(cH (HY vs aM bs (j0+1)) ((Up.new (aM+j0) (K8 (LX vs aM) b0)).hI g)).z _=_/\∀i,i<aj.size b->(cH (HY vs aM bs (j0+1)) ((Up.new (aM+j0) (K8 (LX vs aM) b0)).hI g)).c _ i=_;cases k with
   |zero=>
    simp at hk;subst hk
    obtain⟨k1,k2⟩:=h2 (aM+(j0+0)) (by omega);refine⟨k1.trans (by simp[Up.hI,Kj]),λi hi=>(k2 i).trans ?_⟩;simp only[Up.hI,ku,lI,Kj,hi,lI];exact ays (aKQ vs aM) _ _ hi
   |succ k=>
    have:=h1 k b (by simpa using hk);rw[show j0+1+k=j0+(k+1) by omega] at this;exact this
  .obtain⟨k1,k2⟩:=h2 b (by simp only[LV] at hb;omega);have mC:b≠aM+j0:=λe=>hb (by simp only[LV];omega)
   exact⟨k1.trans (by simp[Up.hI,mC]),λi=>(k2 i).trans (by simp[Up.hI,mC])⟩
  .show cF (Up.new _ _::HY vs aM bs (j0+1))=_;simp only[cF,List.filter_cons,lI,LV];have:=h3;simp only[cF] at this;omega
end Go.Ab
namespace Go.Ab
variable [ay]
omit [ay] in
theorem FB (a b:List Up):cF (a++b)=cF a+cF b:=by simp[cF]
omit [ay] in
theorem aXQ (dst:Option Tmp)(v:AV):cF (dY dst v)=0:=by cases dst<;>rfl
omit [ay] in
theorem aI7 {us:List Up}(h:∀u∈us,∀b k,u≠.new b k):cF us=0:=by
 induction us with
 |nil=>rfl
 |cons u us ih=>
  have h1:=ih λv hv=>h v (by simp[hv])
  have h2:=h u (by simp);cases u with
  |new b k=>exact absurd rfl (h2 b k)
  |_=>simpa[cF] using h1
omit [ay] in
theorem aaA:∀{vs:List Vw} {cs:List Ch} {u:Up},u∈pK vs cs->∃b,u=.kill b
 | [],[],u,h=>by simp[pK] at h
 |v0::vs,c::cs,u,h=>by
  by_cases hc:c=.kill
  .subst hc;rcases ab7.1 h with rfl|h
   .exact⟨_,rfl⟩
   .exact aaA h
  .have e:pK (v0::vs) (c::cs)=pK vs cs:=by cases c<;>first|rfl|exact absurd rfl hc
   rw[e] at h;exact aaA h
 | [],_::_,u,h=>by simp[pK] at h
 |_::_,[],u,h=>by simp[pK] at h
omit [ay] in
theorem aAi:∀{vs:List Vw} {cs:List Ch} {j:Nat} {v:Vw},vs[j]? =some v->cs[j]? =some .kill->Up.kill v.b∈pK vs cs
 |v0::vs,c::cs,0,v,h1,h2=>by
  simp at h1 h2;subst h1 h2;simp[pK]
 |v0::vs,c::cs,j+1,v,h1,h2=>by
  have:=aAi (vs:=vs) (cs:=cs) (j:=j) (v:=v) (by simpa using h1) (by simpa using h2);cases c<;>simp[pK,this]
 | [],_,j,v,h,_=>by simp at h
 |_::_,[],j,v,_,h=>by simp at h
omit [ay] in
theorem agV {all:List Vw}{aM:Nat}:∀{vs:List Vw} {cs:List Ch} {g:Bool} {us:List Up},AY all aM vs cs=some (g,us)->∀{j:Nat} {v:Vw} {b:aj},vs[j]? =some v->cs[j]? =some (.set b)->Up.c v.b v.o (K8 (LX all aM) b)∈us
 | [],[],g,us,_,j,v,b,h,_=>by simp at h
 |v0::vs,.mB::cs,g,us,h,j,v,b,h1,h2=>by
  cases j with
  |zero=>simp at h2
  |succ j=>exact agV (vs:=vs) (cs:=cs) h (by simpa using h1) (by simpa using h2)
 |v0::vs,.kill::cs,g,us,h,j,v,b,h1,h2=>by
  cases j with
  |zero=>simp at h2
  |succ j=>exact agV (vs:=vs) (cs:=cs) h (by simpa using h1) (by simpa using h2)
 |v0::vs,.set b0::cs,g,us,h,j,v,b,h1,h2=>by
  simp only[AY] at h;split at h
  .rename_i p hu
   simp only[iI,rm] at h;obtain⟨_,rfl⟩:=h;cases j with
   |zero=>simp at h1 h2;subst h1 h2;simp
   |succ j=>exact List.mem_cons_of_mem _ (agV (g:=p.1) (us:=p.2) hu (by simpa using h1) (by simpa using h2))
  .cases h
 | [],_::_,_,_,h,_,_,_,_,_=>by simp[AY] at h
 |_::_,[],_,_,h,_,_,_,_,_=>by simp[AY] at h
omit [ay] in
theorem aFj {vs:List Vw}{aM:Nat}:∀{bs:List aj} {j0:Nat} {u:Up},u∈HY vs aM bs j0->∃b k,u=.new b k
 | [],_,_,h=>by simp[HY] at h
 |b0::bs,j0,u,h=>by
  rcases ab7.1 h with rfl|h
  .exact⟨_,_,rfl⟩
  .exact aFj h
omit [ay] in
theorem cq.isSome {w0 w:World}{S:Nat->Nat->Prop}(h:cq w0 S w){B i:Nat}(hi:(Ab.cl w0 B i).isSome=true):(Ab.cl w B i).isSome=true:=by
 have hB:=ace hi;simp only[Ab.cl,World.cell?] at hi ⊢;cases hh:w0.heap[B]? with
 |none=>rw[hh] at hi;cases hi
 |some x=>
  rw[hh] at hi;cases x with
  |cells c t f=>
   obtain⟨c',e,z,_⟩:=h.row B c t f hh;simp only[e];simp only[Option.isSome_none,ya,gA] at hi ⊢
   have:i<c.size:=by
    rcases ni i c.size with h'|h'
    .exact h'
    .rw[ate h'] at hi;cases hi
   rw[aiX (by omega)];rfl
  |_=>cases hi
omit [ay] in
theorem agW:∀{h:List aj} {cs:List Ch} {j:Nat},(∀b,cs[j]? =some (.set b)->j<h.length->(after h cs)[j]? =some (some b))/\(cs[j]? =some .mB->∀b,h[j]? =some b->(after h cs)[j]? =some (some b))
 | [],cs,j=>⟨λb _ h=>by simp at h,λ_ b h=>by simp at h⟩
 |b0::bs,[],j=>⟨λb h=>by simp at h,λh=>by simp at h⟩
 |b0::bs,c::cs,0=>by cases c<;>simp[after]
 |b0::bs,c::cs,j+1=>by
  have:=agW (h:=bs) (cs:=cs) (j:=j);cases c<;>simpa[after] using this
omit [ay] in
theorem acf {r:pD}{h:List aj}{k:Nat}{b:aj}(hk:r.news[k]? =some b):(r.heap h)[h.length+k]? =some (some b):=by
 unfold pD.heap;rw[aej (by rw[nj];omega),nj,show h.length+k-h.length=k by omega];simp[hk]
omit [ay] in
theorem D4 {r:pD}{h:List aj}{j:Nat}(hj:j<h.length):(r.heap h)[j]? =(after h r.yP)[j]? :=by
 unfold pD.heap;rw[UR (by rw[nj];omega)]
omit [ay] in
theorem aaB {l:List (Option aj)}{j:Nat}{b:aj}(h:l[j]? =some (some b)):hZ l j=some (aj.size b):=by simp[hZ,h]
omit [ay] in
theorem agX {l:List (Option aj)}{j i:Nat}{b:aj}(h:l[j]? =some (some b))(hi:i<aj.size b):hC l j i=aj.get b i:=by simp[hC,h,hi]
omit [ay] in
theorem Vv {all:List Vw}{aM:Nat}:∀{vs:List Vw} {cs:List Ch} {g:Bool} {us:List Up},AY all aM vs cs=some (g,us)->∀u∈us,∀b k,u≠.new b k
 | [],[],g,us,h=>by
  simp only[AY,iI,rm] at h;obtain⟨_,rfl⟩:=h;intro u hu;simp at hu
 |v0::vs,.mB::cs,g,us,h=>Vv (vs:=vs) (cs:=cs) h
 |v0::vs,.kill::cs,g,us,h=>Vv (vs:=vs) (cs:=cs) h
 |v0::vs,.set b0::cs,g,us,h=>by
  simp only[AY] at h;split at h
  .rename_i p hu
   simp only[iI,rm] at h;obtain⟨_,rfl⟩:=h;intro u hu' b k e;rcases ab7.1 hu' with rfl|hu'
   .cases e
   .exact Vv (g:=p.1) (us:=p.2) hu u hu' b k e
  .cases h
 | [],_::_,_,_,h=>by simp[AY] at h
 |_::_,[],_,_,h=>by simp[AY] at h
section
variable {P:Program} {o:Oper} {X:Cx} {D:Nat->Prop} {aM:Nat} {us:List Up} {g:Gt}
theorem aQW {E:Env}(hE:∀f F,E f=some F->Sound P f F){c:Call}{fo:Operand}{f:Nat}{aek:List RV}{args:List AV}{fp l0 l1:List Fp}(ho:o.op=.call c)(hc:c.callee=.value fo)(ha:aJ (Ab.uC Ab.Ep c.args.toList) g args l0){fv:AV}(hfo:aJ (Ab.Ep fo) g fv l1)(aXR:∀(π:Pi) (x:Value),fv.rel π x->∃arr:Array Value,x=.func (.func f) #[] arr/\bu (RV.rel π) aek arr.toList)
  (h:aJ (aXu E f (args++aek.map .r) o.dst aM) g us fp):Aw P o X D aM us g:=by
 obtain⟨x,⟨_,h1⟩,_,h⟩:=aJ.bind' h;obtain⟨y,⟨_,h2⟩,_,h⟩:=aJ.bind' h;cases hEf:E f with
 |none=>rw[hEf] at h;cases h
 |some F=>
 rw[hEf] at h;obtain⟨r,⟨_,h3⟩,_,h⟩:=aJ.bind' h;obtain⟨⟨gd,aSV⟩,⟨_,h4⟩,_,h⟩:=aJ.bind' h;obtain⟨_,⟨_,h5⟩,_,h⟩:=aJ.bind' h;cases h;have h5:gd=true:=h5.cR;subst h5;have S0:=hE f F hEf;have a1R:=T.aXN h3;have h4:=h4.eu;obtain⟨lh,vs⟩:=y;simp only at h3 h4
 have aSW:cF (dY o.dst (aMP vs aM r.val)++(aSV++(pK vs r.yP++HY vs aM r.news 0)))=r.news.length:=by
  rw[FB,FB,FB,aXQ,aI7 (Vv h4),aI7 (λu hu b k e=>by obtain⟨_,rfl⟩:=aaA hu;cases e),(alD (vs:=vs) (aM:=aM) (bs:=r.news) (j0:=0) g).2.2.2];omega
 intro π a w next Q R hk hfr hd hD hn;simp only at hfr hn hD;rw[aSW] at hfr hn;obtain⟨arr,hfv,a1S⟩:=aXR _ _ (hfo.Ep R)
 have lF:bu (AV.rel π) (args++aek.map .r) (c.args.map a.eval++arr).toList:=by
  rw[Array.toList_append];exact(K9 ha R).append (aay (f:=AV.r) (R':=AV.rel π) (λa c h=>h) a1S)
 obtain⟨a1,a2⟩:=aNj (Ti:=x.1) (kt:=x.2) h1 lF;obtain⟨ok0,a4⟩:=a2 (K'.nil π);obtain⟨b1,hok,b3,b4⟩:=aFi R.hp (lh:=lh) (kt:=vs) h2 rfl (Nat.zero_le _) ok0 (λj v k _ hk=>by simp at hk);obtain⟨c1,c2,c3,c4,c5⟩:=aaz h4 (λi j v v' hij hi hj hb=>(hok.1 i j v v' hij hi hj hb).1);have aZD:bu (AV.rel (piL π vs)) x.1 (c.args.map a.eval++arr).toList:=a4.imp λv z hr=>AV.dM b1.ext v z hr
 have a3u:=R.hp.local hok b3 b4
 have kr:∀b,piL π vs b≠none->b<lh.length:=λb hb=>by
  rw[b3];unfold piL at hb;cases hv:vs[b]? with
  |none=>rw[hv] at hb;exact absurd rfl hb
  |some v=>exact(lL.1 hv).1
 have aZE:=S0 x.1 lh r a1R w (piL π vs) _ aZD a3u kr
 suffices key:∀(v:Value) (w':World),tY (piL π vs) w lh r (.returned v) w'->next (a.put o.dst v) w' by
  rcases aZE with⟨S1,S2⟩| ⟨v,S1,S2⟩
  .have nW:(execOp a.eval o).run P w=.ok (.enter f (c.args.map a.eval++arr)) w:=by
    simp[execOp,ho,resolve,hc,hfv,Deferred.ofValue,invoke,S1]
   unfold Oper.wp;rw[nW];refine Calls.mono S2 ?_;intro e w' hp;have vm:=hp;obtain⟨_,v,rfl,_⟩:=vm;exact key v w' hp
  .have nW:(execOp a.eval o).run P w=.ok (.value v) w:=by
    simp[execOp,ho,resolve,hc,hfv,Deferred.ofValue,invoke,S1]
   unfold Oper.wp;rw[nW];exact key v w S2
 rintro v w' ⟨πL,v',hv',avk,aFk,hHL,hFr,a1T,a0X⟩
 cases hv'
 have live:∀(j:Nat) u,vs[j]? =some u->∃q B s e,g.z u.b=some q/\u.o.val+u.n<=q/\π u.b=some (B,s,q,e)/\s+q<=e/\(u.own=true->u.o.val+u.n=q):=λj u hu=>by
  have hj:j<lh.length:=by rw[b3];exact(lL.1 hu).1
  obtain⟨q,hq⟩:=(b4 j u _ hu (kR hj)).live;obtain⟨B,s,e,hb,BK,_⟩:=R.hp.hp _ _ hq;obtain⟨_,_,_,_,fu,hle,how⟩:=hok.2 j u hu;rw[hb] at fu;cases fu;exact⟨q,B,s,e,hq,hle,hb,BK,how⟩
 have K:Bck π πL vs aM r.news.length:=⟨avk,λb hb=>by have:=a1T b hb;omega,hfr,λj u hu=>let⟨q,B,s,e,_,hle,hb,_,how⟩:=live j u hu;⟨B,s,q,e,hb,hle,how⟩⟩
 have aQX:∀B i,Ds (piL π vs) lh.length (Tn r.yP) B i->∃(j:Nat) (u:Vw) (q s e:Nat),vs[j]? =some u/\g.z u.b=some q/\π u.b=some (B,s,q,e)/\s+q<=e/\s+u.o.val<=i/\i<(if u.own then e else s+u.o.val+u.n)/\i<e/\(u.own=true->u.o.val+u.n=q)/\u.o.val+u.n<=q/\(r.yP[j]? =some .kill∨∃b,r.yP[j]? =some (.set b)):=by
  rintro B i ⟨j,s1,q1,e1,hj,hD1,hp,i1,i2⟩
  have hu:vs[j]? =some (vs[j]'(by omega)):=kR _;obtain⟨q,B0,s,e,hq,hle,hb,BK,how⟩:=live j _ hu;rw[yS hu hb] at hp;simp only[iI,rm] at hp;obtain⟨rfl,hs1,_,he1⟩:=hp;rw[<-hs1] at i1;rw[<-he1] at i2;refine⟨j,_,q,s,e,hu,hq,hb,BK,i1,i2,?_,how,hle,?_⟩
  .split at i2<;>omega
  .have hcj:r.yP[j]? =some (r.yP[j]'(by omega)):=kR _;rw[hcj];cases To:r.yP[j]'(by omega) with
   |mB=>exact absurd (by rw[hcj,To]) hD1
   |set b=>exact .inr ⟨b,rfl⟩
   |kill=>exact .inl rfl
 have a1U:∀(j:Nat) (u:Vw),vs[j]? =some u->(r.yP[j]? =some .kill∨∃b,r.yP[j]? =some (.set b))->u.b<X.k->D u.b:=λj u hu To=>by
  rcases To with To| ⟨b,To⟩
  .exact hD (.kill u.b) (by simp[aAi hu To])
  .exact hD (.c u.b u.o (K8 (LX vs aM) b)) (by simp[agV h4 hu To])
 have aSX:∀B i,B<X.w0.heap.size->Ds (piL π vs) lh.length (Tn r.yP) B i->Ds X.p0 X.k D B i:=λB i hB hft=>by
  obtain⟨j,u,q,s,e,hu,hq,hb,BK,i1,_,i3,_,_,To⟩:=aQX B i hft;rcases ni u.b X.k with hbk|hbk
  .exact⟨u.b,s,q,e,hbk,a1U j u hu To hbk,(R.yc u.b hbk).symm.trans hb,by omega,i3⟩
  .exact R.ft u.b B s q e hbk (by simp[hq]) hb hB i (by omega) i3
 generalize hg1:cH aSV g=g1
 generalize hg2:cH (pK vs r.yP) g1=g2
 generalize hg3:cH (HY vs aM r.news 0) g2=g3
 have G1:=c4 g;rw[hg1] at G1;have G2:=agU (vs:=vs) (cs:=r.yP) g1 c1;rw[hg2] at G2;obtain⟨N0,N1,N2,_⟩:=alD (vs:=vs) (aM:=aM) (bs:=r.news) (j0:=0) g2;rw[hg3] at N0 N1 N2
 have yc:∀b n,¬(aM<=b/\b<aM+r.news.length)->g3.z b=some n->g.z b=some n/\(¬∃(j:Nat) (v:Vw),vs[j]? =some v/\r.yP[j]? =some .kill/\v.b=b)/\∀i,g3.c b i=g1.c b i:=λb n hb hz=>by
  obtain⟨n1,n2⟩:=N2 b (by omega);rw[n1] at hz;by_cases hkl:∃(j:Nat) (v:Vw),vs[j]? =some v/\r.yP[j]? =some .kill/\v.b=b
  .rw[G2.2.1 b hkl] at hz;cases hz
  .obtain⟨k1,k2⟩:=G2.2.2 b hkl;rw[k1,G1.1] at hz;exact⟨hz,hkl,λi=>(n2 i).trans (k2 i)⟩
 have new:∀k,k<r.news.length->∃b,r.news[k]? =some b/\g3.z (aM+k)=some (aj.size b)/\(∀i,i<aj.size b->g3.c (aM+k) i=LX vs aM (aj.get b i))/\hZ (r.heap lh) (lh.length+k)=some (aj.size b):=λk LK=>by
  have hb:r.news[k]? =some (r.news[k]'LK):=kR _;have:=N1 k _ hb;rw[dG] at this;exact⟨_,hb,this.1,this.2,aaB (acf hb)⟩
 have idx:∀b,aM<=b/\b<aM+r.news.length->∃k,k<r.news.length/\b=aM+k:=λb hb=>⟨b-aM,by omega,by omega⟩
 have H3:sU (piB π πL vs.length aM r.news.length) g3.c g3.z w':=by
  refine⟨hHL.am,λb B s q e hz hp BK=> ?_,λb n hz=> ?_,?_⟩
  .by_cases hb:aM<=b/\b<aM+r.news.length
   .obtain⟨k,LK,rfl⟩:=idx b hb;obtain⟨bU,aat,z1,z2,z3⟩:=new k LK;rw[WR LK,<-b3] at hp;exact hHL.lb _ B s q e (by rw[z3];simp) hp BK
   .cases hh:g3.z b with
    |none=>exact absurd hh hz
    |some n=>
     obtain⟨N5,hkl,hc3⟩:=yc b n hb hh;obtain⟨B1,s1,e1,H2,_⟩:=R.hp.hp b n N5;have e2:=K.yc H2;rw[hp] at e2;cases e2;exact R.hp.lb b B s q e (by rw[N5];simp) H2 BK
  .by_cases hb:aM<=b/\b<aM+r.news.length
   .obtain⟨k,LK,rfl⟩:=idx b hb;obtain⟨bU,aat,z1,z2,z3⟩:=new k LK;rw[z1] at hz;cases hz;obtain⟨B,s,e,hp,hle,k1,k2⟩:=hHL.hp _ _ z3;refine⟨B,s,e,by rw[WR LK,<-b3];exact hp,hle,k1,λj hj=> ?_⟩;obtain⟨x,hx,hr⟩:=k2 j hj;rw[agX (acf aat) hj] at hr;exact⟨x,hx,by rw[z2 j hj];exact K.aSU _ _ hr⟩
   .obtain⟨N5,hkl,hc3⟩:=yc b n hb hz;obtain⟨B,s,e,hp,hle,k1,k2⟩:=R.hp.hp b n N5;refine⟨B,s,e,K.yc hp,hle,λi i1 i2=> ?_,λj hj=> ?_⟩
    .have:=k1 i i1 i2;exact⟨hFr.isSome this.1,by rw[hFr.fz (ace this.1)];exact this.2⟩
    .rw[hc3];by_cases aXS:∃(jv:Nat) (u:Vw) (bU:aj),vs[jv]? =some u/\r.yP[jv]? =some (.set bU)/\u.b=b/\u.o.val<=j/\j<u.o.val+u.n
     .obtain⟨jv,u,bU,hu,To,rfl,j1,j2⟩:=aXS;have e1:=c5 g jv u bU j hu To j1 j2;rw[hg1] at e1;rw[e1];have yQ:=c2 jv u bU hu To;have hjv:jv<lh.length:=by rw[b3];exact(lL.1 hu).1
      have alA:(r.heap lh)[jv]? =some (some bU):=by rw[D4 hjv];exact agW.1 bU To hjv
      obtain⟨B1,s1,e1',H2,a3v,_,m2⟩:=hHL.hp jv _ (aaB alA);have:=avk _ _ (yS hu hp);rw[H2] at this;simp only[iI,rm] at this;obtain⟨rfl,rfl,_,_⟩:=this;obtain⟨x,hx,hr⟩:=m2 (j-u.o.val) (by omega);rw[agX alA (by omega)] at hr;exact⟨x,by rw[show s+j=s+u.o.val+(j-u.o.val) by omega];exact hx,K.aSU _ _ hr⟩
     .obtain⟨x,hx,hr⟩:=k2 j hj
      have Z4:=rq (us:=aSV) (g:=g) (p:=.c b j) (λu hu ht=>by
       obtain⟨jv,v',bU,e1,e2,rfl⟩:=c3 u hu;simp only[Up.H0,Kj,c2 jv v' bU e1 e2] at ht;exact aXS ⟨jv,v',bU,e1,e2,ht.1,ht.2.1,ht.2.2⟩)
      simp only[Gt.at,PV.c.injEq,hg1] at Z4;rw[Z4];refine⟨x,?_,CV.dM K.ext' _ _ hr⟩;rw[hFr.cl (ace (by rw[hx];rfl)),hx];intro hft;obtain⟨jv,u,q,s0,e0,hu,hq,RB,BK,i1,i2,i3,how,a3w,To⟩:=aQX _ _ hft;by_cases hbb:u.b=b
      .subst hbb;rw[hp] at RB;cases RB;rw[N5] at hq;cases hq;rcases To with To| ⟨bU,To⟩
       .exact hkl ⟨jv,u,hu,To,rfl⟩
       .refine aXS ⟨jv,u,bU,hu,To,rfl,by omega,?_⟩;cases a0Y:u.own
        .simp only[a0Y,ya,gA] at i2;omega
        .have:=how a0Y;omega
      .exact R.hp.dj u.b b B s0 _ e0 s _ e hbb (by simp[hq]) (by simp[N5]) RB hp (s+j) (by omega) i3 (by omega) (by omega)
  ·
   have no:∀k b' B s q e s' q' e',k<r.news.length->¬(aM<=b'/\b'<aM+r.news.length)->g3.z b'≠none->πL (vs.length+k)=some (B,s,q,e)->π b'=some (B,s',q',e')->∀i,s<=i->i<e->s'<=i->i<e'->False:=by
    intro k b' B s qq e s' q' e' LK fu uY hp vm i i1 i2 i3 i4;cases hzz:g3.z b' with
    |none=>exact uY hzz
    |some n'=>
    obtain⟨N5,hkl,_⟩:=yc b' n' fu hzz;obtain⟨_,_,_,hp0,_,k1,_⟩:=R.hp.hp b' n' N5;rw[vm] at hp0;cases hp0;have hB:=ace (k1 i i3 i4).1;obtain⟨jv,u,q,s0,e0,hu,hq,RB,BK,m1,m2,m3,how,a3w,To⟩:=aQX _ _ (a0X (vs.length+k) B s qq e (by omega) hp hB i i1 i2);by_cases hbb:u.b=b'
    .subst hbb;rcases To with To| ⟨bU,To⟩
     .exact hkl ⟨jv,u,hu,To,rfl⟩
     .have hjv:jv<lh.length:=by rw[b3];exact(lL.1 hu).1
      have alA:(r.heap lh)[jv]? =some (some bU):=by rw[D4 hjv];exact agW.1 bU To hjv
      obtain⟨_,_,_,_,z3⟩:=new k LK;rw[b3] at z3;exact hHL.dj (vs.length+k) jv B s qq e _ _ _ (by omega) (by simp[z3]) (by simp[aaB alA]) hp (avk _ _ (yS hu RB)) i i1 i2 m1 m2
    .exact R.hp.dj u.b b' B s0 _ e0 s' _ e' hbb (by simp[hq]) (by simp[N5]) RB vm i (by omega) m3 i3 i4
   intro b b' B s qq e s' q' e' mC hz uY hp vm i i1 i2 i3 i4;by_cases hb:aM<=b/\b<aM+r.news.length
   .obtain⟨k,LK,rfl⟩:=idx b hb;rw[WR LK] at hp;by_cases fu:aM<=b'/\b'<aM+r.news.length
    .obtain⟨k',aNl,rfl⟩:=idx b' fu;rw[WR aNl] at vm;obtain⟨_,_,_,_,z3⟩:=new k LK;obtain⟨_,_,_,_,z3'⟩:=new k' aNl;rw[b3] at z3 z3';exact hHL.dj (vs.length+k) (vs.length+k') B s qq e s' q' e' (by omega) (by simp[z3]) (by simp[z3']) hp vm i i1 i2 i3 i4
    .rw[WT fu] at vm;exact no k b' B s qq e s' q' e' LK fu uY hp vm i i1 i2 i3 i4
   .rw[WT hb] at hp;by_cases fu:aM<=b'/\b'<aM+r.news.length
    .obtain⟨k',aNl,rfl⟩:=idx b' fu;rw[WR aNl] at vm;exact no k' b B s' q' e' s qq e aNl hb hz vm hp i i3 i4 i1 i2
    .rw[WT fu] at vm;cases hzz:g3.z b with
     |none=>exact hz hzz
     |some n=>
     cases a0Z:g3.z b' with
     |none=>exact uY a0Z
     |some n'=>
     exact R.hp.dj b b' B s qq e s' q' e' mC (by simp[(yc b n hb hzz).1]) (by simp[(yc b' n' fu a0Z).1]) hp vm i i1 i2 i3 i4
 have R3:Rel X D (piB π πL vs.length aM r.news.length) g3 a w':=by
  refine⟨λi=> ?_,R.nt,R.df,H3,λb hb=> ?_,λb B s qq e hkb hz hp hB i i1 i2=> ?_,R.fr.trans hFr aSX⟩
  .rw[N0,G2.1,G1.2];exact AV.dM K.ext' _ _ (R.tm i)
  .rw[WT (by omega)];exact R.yc b hb
  .by_cases hb:aM<=b/\b<aM+r.news.length
   .obtain⟨k,LK,rfl⟩:=idx b hb;rw[WR LK] at hp;exact aSX B i hB (a0X (vs.length+k) B s qq e (by omega) hp (aEC hB R.fr.size) i i1 i2)
   .rw[WT hb] at hp;cases hzz:g3.z b with
    |none=>exact absurd hzz hz
    |some n=>exact R.ft b B s qq e hkb (by simp[(yc b n hb hzz).1]) hp hB i i1 i2
 refine hn _ _ (piB π πL vs.length aM r.news.length) K.ext' (λb hb=> ?_) ?_
 .by_cases fu:aM<=b/\b<aM+r.news.length
  .exact .inr fu
  .rw[WT fu] at hb;exact .inl hb
 .have e3:cH (dY o.dst (aMP vs aM r.val)++(aSV++(pK vs r.yP++HY vs aM r.news 0))) g=cH (dY o.dst (aMP vs aM r.val)) g3:=by
   rw[L8 _ _ _ _ (λu hu i x e=>by
    rcases List.mem_append.1 hu with hu|hu
    .obtain⟨_,_,_,_,_,rfl⟩:=c3 u hu;cases e
    .rcases List.mem_append.1 hu with hu|hu
     .obtain⟨_,rfl⟩:=aaA hu;cases e
     .obtain⟨_,_,rfl⟩:=aFj hu;cases e)]
   rw[QC,QC,hg1,hg2,hg3]
  rw[e3];exact R3.dst hd (K.a3t _ _ aFk)
end
end Go.Ab
