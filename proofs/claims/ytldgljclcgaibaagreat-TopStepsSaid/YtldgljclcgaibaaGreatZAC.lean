/-
  Parts of the proof: AbP AbQ AbB AbC AbD AbE AbF
-/
import Derived.Test.YtldgljclcgaibaaGreatZAB
import Derived.Laws.StructEq
import Derived.Laws.Tables
import Derived.Laws.Append
import Derived.Laws.AppendOwn
open Nat renaming ble→wr
set_option linter.unusedVariables false
set_option linter.unusedSimpArgs false
namespace Go.Ab
variable [aA]
section
variable {P:Program} {o:Oper} {X:Cx} {D:Nat->Prop} {aL:Nat} {us:List Up} {g:Gt}
omit [aA] in
theorem Qj (us vs:List Up)(g:Gt):cI (us++vs) g=cI vs (cI us g):=by simp[cI]
theorem aNx {t:TypeId}{x y:Operand}{fp:List Fp}(ho:o.op=.store t x y)
  (h:aH ((aNc x).bind λp=>(aNb y).bind λv=>(Ab.eE (iR P t)).bind λn=>(Ab.cM (Nat.beq (aj.size v.bX) n&&wr n p.2.2)).bind λ_=>.sz p.1<| .ret (CD (iZ P t v.bX aL).2 aL++(dW o.dst udf++[.c p.1 p.2.1 (iZ P t v.bX aL).1]))) g us fp):AU P o X D aL us g:=by
 obtain⟨p,⟨_,h1⟩,_,h⟩:=aH.bind' h;obtain⟨v,⟨_,h2⟩,_,h⟩:=aH.bind' h;obtain⟨n,⟨_,h3⟩,_,h⟩:=aH.bind' h;obtain⟨_,⟨_,h4⟩,_,h⟩:=aH.bind' h;cases h with|sz q hz h=>
 cases h;have h4:=h4.cM;simp only[cL,beq_iff,fD] at h4;obtain⟨h4,h5⟩:=h4;obtain⟨n1,n2,n3⟩:=auM P t v.bX aL;generalize (iZ P t v.bX aL).1=k at n1 n2 n3
 generalize (iZ P t v.bX aL).2=es at n1 n2 n3
 intro π a w next Q R hk hf hd hD hn;obtain⟨B,s,q',e,hb,ha,hm⟩:=h1.aNc R;have hc:=RV.Ow (h2.aNb R);have hl:=(jr hc).1;obtain⟨B',s',e',fB,hle,k1,k2⟩:=R.hp.hp _ _ hz;rw[hb] at fB;cases fB
 have hcn:cH (CD es aL++(dW o.dst udf++[.c p.1 p.2.1 k]))=es.length:=by
  rw[aIS,asY];unfold dW cH;cases o.dst<;>rfl
 rw[hcn] at hf hn;obtain⟨π1,e1,e2,e3,R1⟩:=R.aEX n2 hk hf;have hc1:=n3 π1 e3 _ (hc.imp (CV.dH e1))
 have hz1:(cI (CD es aL) g).z p.1=some q:=by
  have key:∀(es:List aj) (aL:Nat) (g:Gt),g.z p.1=some q->(∀b,aL<=b->b<aL+es.length->b≠p.1)->(cI (CD es aL) g).z p.1=some q:=by
   intro es;induction es with
   |nil=>intro aL g h _;exact h
   |cons x es ih=>
    intro aL g h mX;refine ih (aL+1) _ ?_ (λb h1 h2=>mX b (by omega) (by simp only[LF];omega));have:=mX aL (cP _) (by simp);simp only[Up.gS];rw[if_neg (by omega)];exact h
  refine key es aL g hz λb h1 h2 hbp=> ?_;have:=hf b h1 h2;rw[hbp,hb] at this;cases this
 have R2:=R1.set hz1 (e1 _ _ hb) (o:=p.2.1) (vs:=k) (by rw[n1];omega) hc1 (hD (.c p.1 p.2.1 k) (by simp));have R3:=R2.dst hd (asX π1);refine a1F (w':=w.setCells B (s+p.2.1.val) (a.eval y).cells.toList) ?_ (hn _ _ π1 e1 e2 ?_)
 .have hst:=run_storeCells_cells (P:=P) B (s+p.2.1.val) (a.eval y).cells.toList 0 w
   (λj hj=>(k1 (s+p.2.1.val+0+j) (by omega) (by omega)).1) (λj hj=>(k1 (s+p.2.1.val+0+j) (by omega) (by omega)).2)
   (λx hx=>by
    obtain⟨i,hi⟩:=axG.1 hx;obtain⟨c,_,hr⟩:=hc.get' hi;exact CV.Rf hr)
  have yZ:(a.eval y).cells.size=n:=by rw[<-Wc];omega
  simp[execOp,ho,Instr.storeAt,ha,Instr.sureAddr,storeVar,run_sizeOf h3.eE,yZ,hst]
 .have e1:cI (CD es aL++(dW o.dst udf++[.c p.1 p.2.1 k])) g=cI (dW o.dst udf) ((Up.c p.1 p.2.1 k).gS (cI (CD es aL) g)):=by
   rw[aEW];cases o.dst<;>rfl
  rw[e1];exact R3
theorem aEZ {x:Operand}{fp:List Fp}(ho:o.op=.nilCheck x)
  (h:aH ((Hy x).bind λ|.ptr b q n=>.ret (dW o.dst (.r (.c (.ptr b q n))))|.fp l=>.ret (dW o.dst (.r (.c (.fp l))))|_=>.fail) g us fp):AU P o X D aL us g:=by
 obtain⟨v,⟨_,h1⟩,_,h⟩:=aH.bind' h;split at h
 .rename_i b q n
  cases h;refine iG λπ a w R=> ?_;obtain⟨B,s,q',e,hb,ha,hm⟩:=h1.Hy R;refine⟨_,?_,B,s,q',e,hb,rfl,hm⟩;simp[execOp,ho,ha]
 .cases h;refine iG λπ a w R=> ?_;obtain⟨B,s,ha,hc⟩:=h1.Hy R;refine⟨_,?_,B,s,rfl,hc⟩;simp[execOp,ho,ha]
 .cases h
theorem aUu {op:BinOp}{k:IntKind}{x y:Int}{v:FV}{fp:List Fp}(hs:op≠.shl/\op≠.shr)(h:aH (aYX op k x y) g v fp)(t:TypeId)(w:World):
  ∃z,(binOp op t (.int k x) (.int k y)).run P w=.ok z w/\v.rel z:=by
 unfold aYX at h;cases op<;>simp only[] at h
 case shl=>exact absurd rfl hs.1
 case shr=>exact absurd rfl hs.2
 case quo=>
  obtain⟨_,⟨_,h1⟩,_,h⟩:=aH.bind' h;cases h;have h1:¬y=0:=by simpa using h1.cM
  exact⟨_,by simp[binOp,Op.intDiv,h1],rfl⟩
 case rem=>
  obtain⟨_,⟨_,h1⟩,_,h⟩:=aH.bind' h;cases h;have h1:¬y=0:=by simpa using h1.cM
  exact⟨_,by simp[binOp,Op.intDiv,h1],rfl⟩
 case and=>obtain⟨n,⟨_,h1⟩,_,h⟩:=aH.bind' h;cases h;have h1:=h1.eE;simp only[asQ,iv] at h1;subst h1;exact⟨_,by simp[binOp,Op.intBits],rfl⟩
 case or=>obtain⟨n,⟨_,h1⟩,_,h⟩:=aH.bind' h;cases h;have h1:=h1.eE;simp only[asQ,iv] at h1;subst h1;exact⟨_,by simp[binOp,Op.intBits],rfl⟩
 case xor=>obtain⟨n,⟨_,h1⟩,_,h⟩:=aH.bind' h;cases h;have h1:=h1.eE;simp only[asQ,iv] at h1;subst h1;exact⟨_,by simp[binOp,Op.intBits],rfl⟩
 case andNot=>obtain⟨n,⟨_,h1⟩,_,h⟩:=aH.bind' h;cases h;have h1:=h1.eE;simp only[asQ,iv] at h1;subst h1;exact⟨_,by simp[binOp,Op.intBits],rfl⟩
 all_goals (cases h;exact⟨_,by simp[binOp,Op.intArith,Op.intCmp],rfl⟩)
theorem azM {op:BinOp}{k k':IntKind}{x y:Int}{v:FV}{fp:List Fp}(h:aH (aTr op k x y) g v fp)(t:TypeId)(w:World):
  ∃z,(binOp op t (.int k x) (.int k' y)).run P w=.ok z w/\v.rel z:=by
 obtain⟨_,⟨_,h1⟩,_,h⟩:=aH.bind' h;have h1:¬y<0:=by simpa using h1.cM
 cases op<;>simp only[] at h
 case shl=>cases h;exact⟨_,by simp only[binOp,Op.shift,h1,gq];exact Sem.run_pure ..,rfl⟩
 case shr=>cases h;exact⟨_,by simp only[binOp,Op.shift,h1,gq];exact Sem.run_pure ..,rfl⟩
 all_goals cases h
omit [aA] in
theorem agf (op:BinOp)(t:TypeId)(x y:Operand)(k k':IntKind)(m n:Int)(w:World):(eqGuard op t x y (.int k m) (.int k' n)).run P w=.ok () w:=by
 cases op<;>simp[eqGuard]
omit [aA] in
theorem aHj (op:BinOp)(t:TypeId)(x y:Operand)(m n:Bool)(w:World):(eqGuard op t x y (.bool m) (.bool n)).run P w=.ok () w:=by
 cases op<;>simp[eqGuard]
omit [aA] in
theorem agh (op:BinOp)(t:TypeId)(x y:Operand)(m n:Option Addr)(w:World):(eqGuard op t x y (.pointer m) (.pointer n)).run P w=.ok () w:=by
 cases op<;>simp[eqGuard]
omit [aA] in
theorem auN {t:TypeId}{x y:Value}{r:Bool}{w:World}(hi:(∀k n,x≠.int k n))(hs:∀s,x≠.string s)(hf:∀k n,x≠.float k n)(hc:∀k n m,x≠.complex k n m)(h:(Op.equal t x y).run P w=.ok r w):(binOp .eql t x y).run P w=.ok (.bool r) w/\(binOp .neq t x y).run P w=.ok (.bool (!r)) w:=by
 cases x<;>first
  |exact absurd rfl (hi _ _)
  |exact absurd rfl (hs _)
  |exact absurd rfl (hf _ _)
  |exact absurd rfl (hc _ _ _)
  |(simp only[binOp];simp[h])
theorem aUv {op:BinOp}{t:TypeId}{x y:RV}{v:RV}{fp:List Fp}(h:aH (aY0 P op t x y) g v fp)(heq:∀r l,aH (eqV P t x y) g r l->∀π a b w,x.rel π a->y.rel π b->(∀(op:BinOp) (p q:Operand),(eqGuard op t p q a b).run P w=.ok () w)/\(binOp .eql t a b).run P w=.ok (.bool r) w/\(binOp .neq t a b).run P w=.ok (.bool (!r)) w)
  {π:Pi}{a b:Value}(hx:x.rel π a)(hy:y.rel π b)(p q:Operand)(w:World):
  ∃z,(do eqGuard op t p q a b;binOp op t a b:Sem Value).run P w=.ok z w/\v.rel π z:=by
 unfold aY0 at h;split at h
 .rename_i k m k' n
  have ha:a=.int k m:=hx;have hb:b=.int k' n:=hy;subst ha hb;split at h
  .obtain⟨r,⟨_,h1⟩,_,h⟩:=aH.bind' h;cases h;obtain⟨z,hz,hr⟩:=azM (P:=P) (k':=k') h1 t w;exact⟨z,by simp[agf,hz],hr⟩
  .obtain⟨r,⟨_,h1⟩,_,h⟩:=aH.bind' h;cases h;obtain⟨z,hz,hr⟩:=azM (P:=P) (k':=k') h1 t w;exact⟨z,by simp[agf,hz],hr⟩
  .rename_i n1 n2
   split at h
   .rename_i hk
    subst hk;obtain⟨r,⟨_,h1⟩,_,h⟩:=aH.bind' h;cases h;obtain⟨z,hz,hr⟩:=aUu (P:=P) ⟨λe=>n1 e,λe=>n2 e⟩ h1 t w;exact⟨z,by simp[agf,hz],hr⟩
   .cases h
 .split at h
  .obtain⟨r,⟨l1,h1⟩,_,h⟩:=aH.bind' h;cases h;obtain⟨e1,e2,_⟩:=heq r _ h1 π a b w hx hy;exact⟨.bool r,by simp[e1,e2],rfl⟩
  .obtain⟨r,⟨l1,h1⟩,_,h⟩:=aH.bind' h;cases h;obtain⟨e1,_,e2⟩:=heq r _ h1 π a b w hx hy;exact⟨.bool (!r),by simp[e1,e2],rfl⟩
  .cases h
theorem aRw {op:UnOp}{t:TypeId}{x:Operand}{fp:List Fp}(ho:o.op=.unOp op t x)
  (h:aH ((wT x).bind λa=>(unV op a).bind λv=>.ret (dW o.dst (.r v))) g us fp):AU P o X D aL us g:=by
 obtain⟨r,⟨_,h1⟩,_,h⟩:=aH.bind' h;obtain⟨v,⟨_,h2⟩,_,h⟩:=aH.bind' h;cases h;refine iG λπ a w R=> ?_;have ha:=h1.wT R;unfold unV at h2;split at h2
 .have ha:a.eval x=_:=ha;cases h2;exact⟨_,by simp[execOp,ho,ha,Op.unary,Op.intArith],rfl⟩
 .have ha:a.eval x=_:=ha;obtain⟨n,⟨_,h3⟩,_,h2⟩:=aH.bind' h2;cases h2;have h3:=h3.eE;simp only[asQ,iv] at h3;subst h3;exact⟨_,by simp[execOp,ho,ha,Op.unary,Op.intBits],rfl⟩
 .have ha:a.eval x=_:=ha;cases h2;exact⟨_,by simp[execOp,ho,ha,Op.unary],rfl⟩
 .cases h2
theorem aHk {s d:TypeId}{x:Operand}{fp:List Fp}(ho:o.op=.convert s d x)
  (h:aH ((wT x).bind λa=>(aRk P s d a).bind λv=>.ret (dW o.dst (.r v))) g us fp):AU P o X D aL us g:=by
 obtain⟨r,⟨_,h1⟩,_,h⟩:=aH.bind' h;obtain⟨v,⟨_,h2⟩,_,h⟩:=aH.bind' h;cases h;refine iG λπ a w R=> ?_;have ha:=h1.wT R;unfold aRk at h2;split at h2
 .rename_i d1 k k' n hs hd
  have ha:a.eval x=_:=ha;cases h2;exact⟨_,by simp[execOp,ho,ha,convert,run_underlying hs,run_underlying hd,Conv.intToInt],rfl⟩
 .cases h2
theorem aE0 {t:TypeId}{x:Operand}{fp:List Fp}(ho:o.op=.sliceToArrayPointer t x)
  (h:aH ((Hy x).bind λc=>match P.underlying t,c with
   |some (.array n _),.sl b q len z _=>(Ab.cM (wr 1 n&&wr n len.val)).bind λ_=>(Rd.ret (CV.ptr b q (n*z))).bind λv=>.ret (dW o.dst (.r (.c v)))
   |_,_=>.fail) g us fp):AU P o X D aL us g:=by
 obtain⟨r,⟨_,h1⟩,_,h⟩:=aH.bind' h;split at h
 .rename_i n e b q len z own hu
  obtain⟨_,⟨_,h2⟩,_,h⟩:=aH.bind' h;cases h;have h2:=h2.cM;simp only[cL,Nat.ble_eq] at h2;refine iG λπ a w R=> ?_;obtain⟨B,s,q',e,hb,hm,_,⟨h0,_⟩| ⟨cap,si,ha,_⟩⟩:=h1.Hy R
  .omega
  .exact⟨_,by simp[execOp,ho,ha,Instr.arrayAt,run_underlying hu];intro od;omega,B,s,q',e,hb,rfl,by
    have:=wR z h2.2;omega⟩
 .cases h
omit [aA] in
theorem aoQ {α β γ:Type}{R:α->γ->Prop}{f:β->γ}:∀{l:List α} {m:List β},bq (λa b=>R a (f b)) l m->bq R l (m.map f)
 | [],[],_=>trivial
 |_::_,_::_,⟨a,b⟩=>⟨a,aoQ b⟩
 | [],_::_,h=>h.elim
 |_::_,[],h=>h.elim
theorem aE1 {f:FuncId}{fs adR:Array Operand}{fp:List Fp}(ho:o.op=.makeFunc (.func f) fs adR)
  (h:aH (match fs.toList with
   | []=>(Ab.uk Ab.wT adR.toList).bind λl=>.ret (dW o.dst (.fn f l))
   |_=>.fail) g us fp):AU P o X D aL us g:=by
 split at h
 .rename_i hfs
  obtain⟨r,⟨_,h1⟩,_,h⟩:=aH.bind' h;cases h;refine iG λπ a w R=>⟨.func (.func f) #[] (adR.map a.eval),?_,_,rfl,?_⟩
  .have:fs=#[]:=by
    rw[<-akP];exact hfs
   simp[execOp,ho,this,Instr.makeFunc]
  .have:=aH.uk (ρ:=λv x=>v.rel π (a.eval x)) (λx v l hx=>aH.wT hx R) h1;rw[Array.toList_map];exact aoQ this
 .cases h
theorem aNy {t:TypeId}{x:Operand}{i:Nat}{fp:List Fp}(ho:o.op=.field t x i)
  (h:aH ((wT x).bind λ|.agg cs=>(Ab.eE (af1 P t i)).bind λf=>(Oq P f.type cs f.offset).bind λv=>.ret (dW o.dst (.r v))|_=>.fail) g us fp):AU P o X D aL us g:=by
 obtain⟨r,⟨_,h1⟩,_,h⟩:=aH.bind' h;split at h
 .rename_i cs
  obtain⟨f,⟨_,h2⟩,_,h⟩:=aH.bind' h;obtain⟨v,⟨_,h3⟩,_,h⟩:=aH.bind' h;cases h;refine iG λπ a w R=> ?_;obtain⟨arr,ha,hx⟩:=h1.wT R;obtain⟨y,hy,hr⟩:=h3.Oq hx w;refine⟨y,?_,hr⟩;have h2:=h2.eE;unfold af1 at h2;split at h2
  .rename_i fs hu
   simp[execOp,ho,Instr.field,run_underlying hu,h2,ha,asAgg,hy]
  .cases h2
 .cases h
omit [aA] in
theorem aH.ap5 {i:Int}:∀{n j:Nat} {l:List Fp},aH (ap5 i n) g j l->0<=i->i<(n:Int)+1->j=i.toNat
 |0,j,l,h,h1,h2=>by cases h;omega
 |n+1,j,l,h,h1,h2=>by
  cases h with|test h=>
  cases hx:i==((n+1:Nat):Int) with
  |true=>
   rw[hx] at h;cases h;have:=eq_of_beq hx;omega
  |false=>
   rw[hx] at h;have:=aEu hx;exact aH.ap5 h h1 (by omega)
omit [aA] in
theorem cG.LQ (o:cG)(d:Nat):(o.add d).val=o.val+d:=by
 cases o<;>simp only[cG.add,cG.val]<;>omega
omit [aA] in
theorem cG.aNz (o:cG)(j z n:Nat):(o.idx j z n).val=o.val+j*z:=by
 cases o with
 |k c=>rfl
 |x c i y=>
  simp only[cG.idx];split
  .rename_i hy
   rw[beq_iff] at hy;subst hy;simp only[cG.val];rw[qR,<-Nat.mul_assoc];omega
  .simp only[cG.val];omega
omit [aA] in
theorem cG.axU (o:cG)(j z:Nat):(o.aM8 j z).val=o.val+j*z:=by
 cases o with
 |k c=>rfl
 |x c i y=>
  simp only[cG.aM8];split
  .rename_i hy
   rw[beq_iff] at hy;subst hy;simp only[cG.val];rw[qR];omega
  .simp only[cG.val];omega
omit [aA] in
theorem aH.sel {o:cG}{i:Int}{n:Nat}{e:TypeId}{z:Nat}{o':cG}{l:List Fp}(h:aH (sel P o i n e z) g o' l)(h1:0<=i)(h2:i<(n:Int)):o'.val=o.val+i.toNat*z:=by
 unfold Ab.sel at h;split at h
 .cases h;exact cG.aNz ..
 .split at h
  .obtain⟨j,⟨_,h3⟩,_,h⟩:=aH.bind' h;cases h;rw[h3.ap5 h1 (by omega),cG.LQ]
  .cases h;exact cG.aNz ..
omit [aA] in
theorem aH.aNe {o:cG}{i:Int}{n:Sz}{e:TypeId}{z:Nat}{o':cG}{l:List Fp}(h:aH (aNe P o i n e z) g o' l)(h1:0<=i)(h2:i<(n.val:Int)):o'.val=o.val+i.toNat*z:=by
 unfold Ab.aNe at h;split at h
 .split at h
  .obtain⟨j,⟨_,h3⟩,_,h⟩:=aH.bind' h;cases h;simp only[Sz.val] at h2;rw[h3.ap5 h1 (by omega),cG.LQ]
  .cases h;exact cG.axU ..
 .cases h;exact cG.axU ..
theorem aNA {t:TypeId}{x i:Operand}{fp:List Fp}(ho:o.op=.index t x i)
  (h:aH ((wT x).bind λv=>(KX i).bind λi=>match P.underlying t,v with
   |some (.array n e),.agg cs=>(Ab.eE (iR P e)).bind λz=>(Ab.cM (wr 1 z&&wr (n*z) (aj.size cs))).bind λ_=>(Ab.cM (aZ i.2 n)).bind λ_=>(Ab.sel P (.k 0) i.2 n e z).bind λo'=>(partOf P e cs o').bind λv=>.ret (dW o.dst (.r v))
   |some .string,.c (.f (.s b))=>(Ab.cM (aZ i.2 b.size)).bind λ_=>.ret (dW o.dst (.r (.c (.f (.i .u8 (EU b i.2.toNat))))))
   |_,_=>.fail) g us fp):AU P o X D aL us g:=by
 obtain⟨r,⟨_,h1⟩,_,h⟩:=aH.bind' h;obtain⟨j,⟨_,h2⟩,_,h⟩:=aH.bind' h;split at h
 .rename_i n e cs hu _
  obtain⟨z,⟨_,h3⟩,_,h⟩:=aH.bind' h;obtain⟨_,⟨_,h7⟩,_,h⟩:=aH.bind' h;obtain⟨_,⟨_,h4⟩,_,h⟩:=aH.bind' h;obtain⟨i',⟨_,h6⟩,_,h⟩:=aH.bind' h;obtain⟨v,⟨_,h5⟩,_,h⟩:=aH.bind' h;cases h;refine iG λπ a w R=> ?_;obtain⟨arr,ha,hx⟩:=h1.wT R;have h4:=h4.cM;simp only[aZ,cL,j7] at h4;have h7:=h7.cM;simp only[cL,fD] at h7;have hi:i'.val=j.2.toNat*z:=(h6.sel h4.1 h4.2).trans (gP _)
  have hb:j.2.toNat*z+z<=n*z:=by
   have:=wR z (show j.2.toNat+1<=n by omega);rw[qR] at this;omega
  obtain⟨y,hy,hr⟩:=h5.partOf h3.eE h7.1 (by rw[hi];omega) hx w;rw[hi] at hy;refine⟨y,?_,hr⟩;simp[execOp,ho,Instr.index,run_underlying hu,h2.KX R,ha,asIntOf,h4,run_sizeOf h3.eE,hy]
 .rename_i b hu _
  obtain⟨_,⟨_,h4⟩,_,h⟩:=aH.bind' h;cases h;refine iG λπ a w R=> ?_;have ha:a.eval x=.string b:=h1.wT R;have h4:=h4.cM;simp only[aZ,cL,j7] at h4;have hb:b[j.2.toNat]? =some (b[j.2.toNat]'(by omega)):=getElem?_pos ..;refine⟨.int .u8 (EU b j.2.toNat),?_,rfl⟩;unfold EU;rw[hb];simp[execOp,ho,Instr.index,run_underlying hu,h2.KX R,ha,asIntOf,h4.1,hb]
 .cases h
theorem aHl {x:Operand}{i:Nat}{fp:List Fp}(ho:o.op=.extract x i)
  (h:aH ((EA x).bind λ|.tup vs=>(Ab.eE (vs[i]?)).bind λv=>.ret (dW o.dst (.r v))|_=>.fail) g us fp):AU P o X D aL us g:=by
 obtain⟨r,⟨_,h1⟩,_,h⟩:=aH.bind' h;split at h
 .rename_i vs
  obtain⟨v,⟨_,h2⟩,_,h⟩:=aH.bind' h;cases h;refine iG λπ a w R=> ?_;obtain⟨arr,ha,hx⟩:=h1.EA R;obtain⟨y,hy,hr⟩:=hx.get h2.eE;refine⟨y,?_,hr⟩;have hy:arr[i]? =some y:=by simpa using hy
  simp[execOp,ho,Instr.extract,ha,hy]
 .cases h
theorem aCd {t:TypeId}{x:Operand}{i:Nat}{fp:List Fp}(ho:o.op=.fieldAddr t x i)
  (h:aH ((Hy x).bind λc=>(axM P t c i).bind λv=>.ret (dW o.dst (.r (.c v)))) g us fp):AU P o X D aL us g:=by
 obtain⟨r,⟨_,h1⟩,_,h⟩:=aH.bind' h;obtain⟨v,⟨_,h2⟩,_,h⟩:=aH.bind' h;cases h;refine iG λπ a w R=> ?_;have ha:=h1.Hy R;unfold axM at h2;split at h2
 .rename_i l
  obtain⟨f,⟨_,h3⟩,_,h2⟩:=aH.bind' h2;obtain⟨n,⟨_,h4⟩,_,h2⟩:=aH.bind' h2;obtain⟨_,⟨_,h5⟩,_,h2⟩:=aH.bind' h2;cases h2;obtain⟨B,s,ha,hc⟩:=ha;have h3:=h3.eE;have h5:=h5.cM;simp only[cL,fD] at h5;have hn:n≠0:=by omega
  unfold af1 at h3;split at h3
  .rename_i fs hu
   refine⟨.pointer (some ⟨B,s+f.offset,none⟩),?_,B,s+f.offset,rfl,λj v hj=> ?_⟩
   .simp[execOp,ho,Instr.fieldAt,run_underlying hu,h3,ha,Instr.sureAddr,fieldPlace,run_sizeOf h4.eE,hn,nF]
   .rw[abL] at hj;split at hj
    .rw[SO] at hj;rw[CB];exact hc _ v hj
    .cases hj
  .cases h3
 .rename_i b q m
  obtain⟨f,⟨_,h3⟩,_,h2⟩:=aH.bind' h2;obtain⟨n,⟨_,h4⟩,_,h2⟩:=aH.bind' h2;obtain⟨_,⟨_,h5⟩,_,h2⟩:=aH.bind' h2;cases h2;obtain⟨B,s,q',e,hb,ha,hm⟩:=ha;have h3:=h3.eE;have h5:=h5.cM;simp only[cL,fD] at h5;have hn:n≠0:=by omega
  unfold af1 at h3;split at h3
  .rename_i fs hu
   refine⟨.pointer (some ⟨B,s+(q.add f.offset).val,none⟩),?_,B,s,q',e,hb,rfl,by rw[cG.LQ];omega⟩;simp[execOp,ho,Instr.fieldAt,run_underlying hu,h3,ha,Instr.sureAddr,fieldPlace,run_sizeOf h4.eE,hn,nF,CB,cG.LQ]
  .cases h3
 .cases h2
theorem aCe {t:TypeId}{x i:Operand}{fp:List Fp}(ho:o.op=.indexAddr t x i)
  (h:aH ((Hy x).bind λc=>(KX i).bind λi=>(axN P t c i.2).bind λv=>.ret (dW o.dst (.r (.c v)))) g us fp):AU P o X D aL us g:=by
 obtain⟨r,⟨_,h1⟩,_,h⟩:=aH.bind' h;obtain⟨j,⟨_,h2⟩,_,h⟩:=aH.bind' h;obtain⟨v,⟨_,h3⟩,_,h⟩:=aH.bind' h;cases h;refine iG λπ a w R=> ?_;have ha:=h1.Hy R;unfold axN at h3;split at h3
 .rename_i n e b q m hu _
  obtain⟨z,⟨_,h4⟩,_,h3⟩:=aH.bind' h3;obtain⟨_,⟨_,h7⟩,_,h3⟩:=aH.bind' h3;obtain⟨_,⟨_,h5⟩,_,h3⟩:=aH.bind' h3;obtain⟨o',⟨_,h6⟩,_,h3⟩:=aH.bind' h3;cases h3;obtain⟨B,s,q',e',hb,ha,hm⟩:=ha;have h5:=h5.cM;simp only[aZ,cL,j7] at h5;have h7:=fD.1 h7.cM;have hi:=h6.sel h5.1 h5.2
  have hbd:j.2.toNat*z+z<=n*z:=by
   have:=wR z (show j.2.toNat+1<=n by omega);rw[qR] at this;omega
  refine⟨.pointer (some ⟨B,s+o'.val,none⟩),?_,B,s,q',e',hb,rfl,by omega⟩;rw[hi];simp[execOp,ho,Instr.indexAt,run_underlying hu,h2.KX R,ha,asIntOf,Instr.sureAddr,h5,run_sizeOf h4.eE,nF,CB]
 .rename_i e b q len z' own hu _
  obtain⟨z,⟨_,h4⟩,_,h3⟩:=aH.bind' h3;obtain⟨_,⟨_,h6⟩,_,h3⟩:=aH.bind' h3;obtain⟨_,⟨_,h5⟩,_,h3⟩:=aH.bind' h3;obtain⟨o',⟨_,h8⟩,_,h3⟩:=aH.bind' h3;cases h3;have h5:=h5.cM;simp only[aZ,cL,j7] at h5;have h6:=beq_iff.1 h6.cM;subst h6;have hi:=h8.aNe h5.1 h5.2;obtain⟨B,s,q',e',hb,hm,_,⟨h0,_⟩| ⟨cap,si,ha,_⟩⟩:=ha
  .omega
  .have hbd:j.2.toNat*z+z<=len.val*z:=by
    have:=wR z (show j.2.toNat+1<=len.val by omega);rw[qR] at this;omega
   refine⟨.pointer (some ⟨B,s+o'.val,none⟩),?_,B,s,q',e',hb,rfl,by omega⟩;rw[hi];simp[execOp,ho,Instr.indexAt,run_underlying hu,h2.KX R,ha,asIntOf,h5,run_sizeOf h4.eE,nF,CB]
 .rename_i e n z' cols hu _
  obtain⟨z,⟨_,h4⟩,_,h3⟩:=aH.bind' h3;obtain⟨_,⟨_,h6⟩,_,h3⟩:=aH.bind' h3;obtain⟨_,⟨_,h5⟩,_,h3⟩:=aH.bind' h3;cases h3;have h5:=h5.cM;simp only[aZ,cL,j7] at h5;have h6:=beq_iff.1 h6.cM;subst h6;obtain⟨hz,⟨h0,_⟩| ⟨B,s,cap,si,ha,hc⟩⟩:=ha
  .omega
  .refine⟨.pointer (some ⟨B,s+j.2.toNat*z,none⟩),?_,B,s+j.2.toNat*z,rfl,λi f hi=> ?_⟩
   .simp[execOp,ho,Instr.indexAt,run_underlying hu,h2.KX R,ha,asIntOf,h5,run_sizeOf h4.eE,nF]
   .rw[CA,m9] at hi;obtain⟨q,hq,rfl⟩:=hi;have hil:=(lP.1 hq).1
    have hbd:j.2.toNat*z+z<=n*z:=by
     have:=wR z (show j.2.toNat+1<=n by omega);rw[qR] at this;omega
    obtain⟨f,v,e1,e2,e3⟩:=hc (j.2.toNat*z+i) (by omega);refine⟨v,by rw[CB];exact e2,?_⟩
    have e4:iS cols (j.2.toNat*z+i)=.f (q.at j.2.toNat):=by
     unfold iS;rw[hz,abO,asL,Nat.mul_add_div (by omega),axK (by omega),Nat.div_eq_of_lt (by omega),hq];rfl
    rw[e1] at e4;cases e4;exact e3
 .rename_i n e l hu _
  obtain⟨z,⟨_,h4⟩,_,h3⟩:=aH.bind' h3;obtain⟨_,⟨_,h7⟩,_,h3⟩:=aH.bind' h3;obtain⟨_,⟨_,h5⟩,_,h3⟩:=aH.bind' h3;obtain⟨o',⟨_,h6⟩,_,h3⟩:=aH.bind' h3;cases h3;obtain⟨B,s,ha,hc⟩:=ha;have h5:=h5.cM;simp only[aZ,cL,j7] at h5;have hi:=h6.ap5 (by omega) (by omega);refine⟨.pointer (some ⟨B,s+j.2.toNat*z,none⟩),?_,B,s+j.2.toNat*z,rfl,λi f hf=> ?_⟩
  .simp[execOp,ho,Instr.indexAt,run_underlying hu,h2.KX R,ha,asIntOf,Instr.sureAddr,h5,run_sizeOf h4.eE,nF]
  .rw[abL] at hf;split at hf
   .rw[SO,hi] at hf;rw[CB];exact hc _ f hf
   .cases hf
 .cases h3
theorem aH.azH {x:Option Operand}{v:Option Int}{l:List Fp}{π:Pi}{a:Act}{w:World}(h:aH (azH x) g v l)(R:Rel X D π g a w):
  (x=none/\v=none)∨∃y k i,x=some y/\v=some i/\a.eval y=.int k i:=by
 cases x with
 |none=>cases h;exact .inl ⟨rfl,rfl⟩
 |some y=>
  obtain⟨r,⟨_,h1⟩,_,h⟩:=aH.bind' h;cases h;exact .inr ⟨y,r.1,r.2,rfl,rfl,h1.KX R⟩
omit [aA] in
theorem aH.Uv {lo hi:Option Int}{n:Nat}{lh:Nat×Nat}{l:List Fp}(h:aH (Uv lo hi n) g lh l):
  lh.1<=lh.2/\lh.2<=n/\((hi=none/\lh.2=n)∨∃i,hi=some i/\0<=i/\i<=n/\lh.2=i.toNat)/\((lo=none/\lh.1=0)∨∃i,lo=some i/\0<=i/\i<=lh.2/\lh.1=i.toNat):=by
 obtain⟨hh,⟨_,h1⟩,_,h⟩:=aH.bind' h;obtain⟨ll,⟨_,h2⟩,_,h⟩:=aH.bind' h;cases h
 have e1:hh<=n/\((hi=none/\hh=n)∨∃i,hi=some i/\0<=i/\i<=n/\hh=i.toNat):=by
  cases hi with
  |none=>cases h1;exact⟨cP _,.inl ⟨rfl,rfl⟩⟩
  |some i=>
   obtain⟨_,⟨_,h3⟩,_,h1⟩:=aH.bind' h1;cases h1;have h3:=h3.cM;simp only[HA,cL,j7] at h3;exact⟨by omega,.inr ⟨i,rfl,h3.1,h3.2,rfl⟩⟩
 have e2:ll<=hh/\((lo=none/\ll=0)∨∃i,lo=some i/\0<=i/\i<=hh/\ll=i.toNat):=by
  cases lo with
  |none=>cases h2;exact⟨Nat.zero_le _,.inl ⟨rfl,rfl⟩⟩
  |some i=>
   obtain⟨_,⟨_,h3⟩,_,h2⟩:=aH.bind' h2;cases h2;have h3:=h3.cM;simp only[HA,cL,j7] at h3;exact⟨by omega,.inr ⟨i,rfl,h3.1,h3.2,rfl⟩⟩
 exact⟨e2.1,e1.1,e1.2,e2.2⟩
end
end Go.Ab
namespace Go.Ab
variable [aA]
section
variable {P:Program} {o:Oper} {X:Cx} {D:Nat->Prop} {aL:Nat} {us:List Up} {g:Gt}
def OI (x:Option Int)(v:Option Value):Prop:=(x=none/\v=none)∨∃k i,x=some i/\v=some (.int k i)
theorem aH.aZe {x:Option Operand}{v:Option Int}{l:List Fp}{π:Pi}{a:Act}{w:World}(h:aH (Ab.azH x) g v l)(R:Rel X D π g a w):OI v (x.map a.eval):=by
 rcases h.azH R with⟨rfl,rfl⟩| ⟨y,k,i,rfl,rfl,e⟩
 .exact .inl ⟨rfl,rfl⟩
 .exact .inr ⟨k,i,rfl,by simp[e]⟩
omit [aA] in
theorem wq {lo hi:Option Int}{n cap:Nat}{lh:Nat×Nat}{l:List Fp}(h:aH (Ab.Uv lo hi n) g lh l)(hc:n<=cap){lv hv:Option Value}(h1:OI lo lv)(h2:OI hi hv)(isS:Bool)(w:World):
  (Instr.sliceBounds isS n cap lv hv none).run P w=.ok (lh.1,lh.2,cap) w:=by
 obtain⟨b1,b2,b3,b4⟩:=h.Uv
 have eh:∀code,(match hv with
   |some v=>Instr.sliceBound v cap code
   |none=>(pure n:Sem Nat)).run P w=.ok lh.2 w:=λcode=>by
  rcases h2 with⟨rfl,rfl⟩| ⟨k,i,rfl,rfl⟩
  .rcases b3 with⟨_,e⟩| ⟨i,e,_⟩
   .simp[e]
   .cases e
  .rcases b3 with⟨e,_⟩| ⟨i',e,c1,c2,c3⟩
   .cases e
   .cases e;simp only[Instr.sliceBound,asIntOf,Sem.run_bind,Sem.run_pure,Result.andThen_ok];rw[if_pos ⟨c1,by omega⟩,c3];exact Sem.run_pure ..
 have el:∀code,(match lv with
   |some v=>Instr.sliceBound v lh.2 code
   |none=>(pure 0:Sem Nat)).run P w=.ok lh.1 w:=λcode=>by
  rcases h1 with⟨rfl,rfl⟩| ⟨k,i,rfl,rfl⟩
  .rcases b4 with⟨_,e⟩| ⟨i,e,_⟩
   .simp[e]
   .cases e
  .rcases b4 with⟨e,_⟩| ⟨i',e,c1,c2,c3⟩
   .cases e
   .cases e;simp only[Instr.sliceBound,asIntOf,Sem.run_bind,Sem.run_pure,Result.andThen_ok];rw[if_pos ⟨c1,c2⟩,c3];exact Sem.run_pure ..
 have eh':=eh (if isS then .sliceAcap else .sliceAlen);have el':=el .sliceB;cases hv<;>cases lv<;>simp_all [Instr.sliceBounds]
omit [aA] in
theorem aZf (q:Bool)(n:Nat):(szQ q n).val=n:=by cases q<;>rfl
omit [aA] in
theorem asZ {q:Bool}{lo hi:Option Int}{n:Sz}{lh:Nat×Nat}{l:List Fp}(h:aH (Ab.Uv lo hi n.val) g lh l):(lenOf q lo hi n lh).val=lh.2-lh.1:=by
 obtain⟨b1,b2,b3,b4⟩:=h.Uv;cases lo<;>cases hi<;>simp only[lenOf,aZf]
 .rcases b3 with⟨_,e⟩| ⟨i,e,_⟩
  .rcases b4 with⟨_,e'⟩| ⟨i,e',_⟩
   .omega
   .cases e'
  .cases e
 .rcases b4 with⟨_,e'⟩| ⟨i,e',_⟩
  .omega
  .cases e'
omit [aA] in
theorem aE2 {qq:Bool}{lo hi:Option Int}{n:Nat}{lh:Nat×Nat}{l:List Fp}(h:aH (Ab.Uv lo hi n) g lh l)(o:cG)(z:Nat):(af3 qq lo o lh.1 z).val=o.val+lh.1*z:=by
 obtain⟨b1,b2,b3,b4⟩:=h.Uv;cases lo<;>simp only[af3]
 .rcases b4 with⟨_,e'⟩| ⟨i,e',_⟩
  .rw[e'];omega
  .cases e'
 .cases qq
  .exact cG.axU ..
  .exact cG.LQ ..
theorem aNB {t:TypeId}{x:Operand}{lo hi:Option Operand}{fp:List Fp}(ho:o.op=.slice t x lo hi none)
  (h:aH ((Hy x).bind λc=>(Ab.azH lo).bind λl=>(Ab.azH hi).bind λh=>(aKK P t c (vV lo&&vV hi) l h).bind λv=>.ret (dW o.dst (.r (.c v)))) g us fp):AU P o X D aL us g:=by
 obtain⟨r,⟨_,h1⟩,_,h⟩:=aH.bind' h;obtain⟨l,⟨_,h2⟩,_,h⟩:=aH.bind' h;obtain⟨hh,⟨_,h3⟩,_,h⟩:=aH.bind' h;obtain⟨v,⟨_,h4⟩,_,h⟩:=aH.bind' h;cases h;refine iG λπ a w R=> ?_;have ha:=h1.Hy R;have ol:=h2.aZe R;have oh:=h3.aZe R;unfold aKK at h4;split at h4
 .rename_i n e b q m hu _ _
  obtain⟨z,⟨_,h5⟩,_,h4⟩:=aH.bind' h4;obtain⟨_,⟨_,h7⟩,_,h4⟩:=aH.bind' h4;obtain⟨lh,⟨_,h6⟩,_,h4⟩:=aH.bind' h4;cases h4;have h7:=fD.1 h7.cM;obtain⟨B,s,q',e',hb,ha,hm⟩:=ha;have hr:=wq (P:=P) h6 (cP n) ol oh false w;obtain⟨b1,b2,_,_⟩:=h6.Uv;have hl:=asZ (q:=vV lo&&vV hi) (n:=.l n) h6;have aE3:=aE2 (qq:=vV lo&&vV hi) h6 q z;refine⟨_,by simp[execOp,ho,Instr.sliceAt,run_underlying hu,ha,Instr.sureAddr,hr,run_sizeOf h5.eE];rfl,?_⟩;show CV.rel π (.sl b (af3 (vV lo&&vV hi) l q lh.1 z) (lenOf (vV lo&&vV hi) l hh (.l n) lh) z false) _
  have hbd:(af3 (vV lo&&vV hi) l q lh.1 z).val+(lenOf (vV lo&&vV hi) l hh (.l n) lh).val*z<=q':=by
   rw[hl,aE3];have:lh.1*z+(lh.2-lh.1)*z=lh.2*z:=by rw[<-qR];congr 1;omega
   have:=wR z b2;omega
  refine⟨B,s,q',e',hb,hbd,(λh=>by cases h),?_⟩;by_cases hm2:n=lh.1
  .left
   refine⟨by omega,some ⟨B,s+q.val,none⟩,?_⟩;rw[if_pos hm2];have e1:lh.2-lh.1=0:=by omega
   have e2:n-lh.1=0:=by omega
   rw[e1,e2]
  .right
   refine⟨n-lh.1,by omega,?_,λh=>by cases h⟩;rw[if_neg hm2,nF,CB,hl,aE3]
 .rename_i e b q len z own hu _ _
  obtain⟨z',⟨_,h5⟩,_,h4⟩:=aH.bind' h4;obtain⟨_,⟨_,h7⟩,_,h4⟩:=aH.bind' h4;obtain⟨lh,⟨_,h6⟩,_,h4⟩:=aH.bind' h4;cases h4;have hz:z=z':=beq_iff.1 h7.cM;subst hz;obtain⟨b1,b2,b3,b4⟩:=h6.Uv;have hl:=asZ (q:=ap6 (vV lo&&vV hi) len) h6;have aE3:=aE2 (qq:=ap6 (vV lo&&vV hi) len) h6 q z;have e4:lh.1*z+(lh.2-lh.1)*z=lh.2*z:=by rw[<-qR];congr 1;omega
  obtain⟨B,s,q',e',hb,hm,qE,ha⟩:=ha
  have hbd:(af3 (ap6 (vV lo&&vV hi) len) l q lh.1 z).val+(lenOf (ap6 (vV lo&&vV hi) len) l hh len lh).val*z<=q':=by
   clear ha
   rw[hl,aE3];have:=wR z b2;omega
  have a4v:hh.isNone=true->lh.2=len.val:=λh=>by
   rcases b3 with⟨_,e⟩| ⟨i,e,_⟩
   .exact e
   .rw[e] at h;cases h
  have aNC:(own&&hh.isNone)=true->(af3 (ap6 (vV lo&&vV hi) len) l q lh.1 z).val+(lenOf (ap6 (vV lo&&vV hi) len) l hh len lh).val*z=q':=λh=>by
   clear ha
   simp only[cL] at h;have:=qE h.1;rw[hl,aE3];rw[a4v h.2] at e4 ⊢;omega
  rcases ha with⟨h0,y,ha⟩| ⟨cap,si,ha,aRx⟩
  .have hr:=wq (P:=P) h6 (cP _) ol oh true w;clear b3 b4
   have e1:lh.1=0:=by omega
   have e2:lh.2=0:=by omega
   rw[h0] at hr;refine⟨.slice y 0 0,by simp[execOp,ho,Instr.sliceAt,Instr.slice,run_underlying hu,ha,hr,run_sizeOf h5.eE,e1,e2],B,s,q',e',hb,hbd,aNC,.inl ⟨by omega,y,rfl⟩⟩
  .have hr:=wq (P:=P) h6 si ol oh true w;refine⟨_,by simp[execOp,ho,Instr.sliceAt,Instr.slice,run_underlying hu,ha,hr,run_sizeOf h5.eE];rfl,?_⟩;show CV.rel π (.sl b (af3 (ap6 (vV lo&&vV hi) len) l q lh.1 z) (lenOf (ap6 (vV lo&&vV hi) len) l hh len lh) z (own&&hh.isNone)) _;refine⟨B,s,q',e',hb,hbd,aNC,?_⟩;by_cases hm2:cap=lh.1
   .left
    refine⟨by omega,some ⟨B,s+q.val,none⟩,?_⟩;rw[if_pos hm2];have e1:lh.2-lh.1=0:=by omega
    have e2:cap-lh.1=0:=by omega
    rw[e1,e2]
   .right
    refine⟨cap-lh.1,by omega,?_,λh=> ?_⟩
    .rw[if_neg hm2,nF,CB,hl,aE3]
    .simp only[cL] at h;have hw2:=aRx h.1;have e3:lh.1*z+(cap-lh.1)*z=cap*z:=by rw[<-qR];congr 1;omega
     rw[aE3];omega
 .rename_i e hu _ _
  obtain⟨z,⟨_,h5⟩,_,h4⟩:=aH.bind' h4;obtain⟨lh,⟨_,h6⟩,_,h4⟩:=aH.bind' h4;cases h4;have ha:a.eval x=.slice none 0 0:=ha;have hr:=wq (P:=P) h6 (cP 0) ol oh true w;obtain⟨b1,b2,b3,b4⟩:=h6.Uv;have e1:lh.1=0:=by omega
  have e2:lh.2=0:=by omega
  exact⟨.slice none 0 0,by simp[execOp,ho,Instr.sliceAt,Instr.slice,run_underlying hu,ha,hr,run_sizeOf h5.eE,e1,e2],rfl⟩
 .rename_i e n z cols hu _ _
  obtain⟨z',⟨_,h5⟩,_,h4⟩:=aH.bind' h4;obtain⟨_,⟨_,h7⟩,_,h4⟩:=aH.bind' h4;obtain⟨lh,⟨_,h6⟩,_,h4⟩:=aH.bind' h4;cases h4;have hz:z=z':=beq_iff.1 h7.cM;subst hz;obtain⟨b1,b2,b3,b4⟩:=h6.Uv;have hl:=asZ (q:=false) (n:=.s n) h6;have hfl:(auv l lh.1 cols).length=cols.length:=by unfold auv;split<;>simp
  have hfg:∀j,iS (auv l lh.1 cols) j=iS cols (lh.1*cols.length+j):=λj=>by
   unfold auv;split
   .rcases b4 with⟨_,e⟩| ⟨i,e,_⟩
    .rw[e,SV,gP]
    .cases e
   .exact azJ ..
  obtain⟨hz,ha⟩:=ha;rcases ha with⟨h0,y,ha⟩| ⟨B,s,cap,si,ha,hc⟩
  .have hr:=wq (P:=P) h6 (cP _) ol oh true w;clear b3 b4
   have e1:lh.1=0:=by omega
   have e2:lh.2=0:=by omega
   rw[h0] at hr;exact⟨.slice y 0 0,by simp[execOp,ho,Instr.sliceAt,Instr.slice,run_underlying hu,ha,hr,run_sizeOf h5.eE,e1,e2],hfl.trans hz,.inl ⟨by omega,y,rfl⟩⟩
  .have hr:=wq (P:=P) h6 si ol oh true w;refine⟨_,by simp[execOp,ho,Instr.sliceAt,Instr.slice,run_underlying hu,ha,hr,run_sizeOf h5.eE];rfl,hfl.trans hz,?_⟩;by_cases hm2:cap=lh.1
   .left
    refine⟨by omega,some ⟨B,s,none⟩,?_⟩;rw[if_pos hm2];have e1:lh.2-lh.1=0:=by omega
    have e2:cap-lh.1=0:=by omega
    rw[e1,e2]
   .right
    refine⟨B,s+lh.1*z,cap-lh.1,by omega,by rw[if_neg hm2,nF,hl],λj hj=> ?_⟩;rw[hl] at hj;have e4:lh.1*z+(lh.2-lh.1)*z=lh.2*z:=by rw[<-qR];congr 1;omega
    have e5:=wR z b2;obtain⟨f,v,f1,f2,f3⟩:=hc (lh.1*z+j) (by omega);exact⟨f,v,by rw[hfg,hz];exact f1,by rw[CB];exact f2,f3⟩
 .cases h4
omit [aA] in
theorem aND (vs:List Value):∀(off k:Nat) (cs:Array Value),off+k+vs.length<=cs.size->
  ((vs.zipIdx k).foldl (λ(cs:Array Value) (x:Value×Nat)=>cs.setIfInBounds (off+x.2) x.1) cs).size=cs.size/\
  ∀i d,((vs.zipIdx k).foldl (λ(cs:Array Value) (x:Value×Nat)=>cs.setIfInBounds (off+x.2) x.1) cs).getD i d=if off+k<=i/\i<off+k+vs.length then vs.getD (i-(off+k)) d else cs.getD i d:=by
 induction vs with
 |nil=>intro off k cs _;refine⟨rfl,λi d=> ?_⟩;rw[if_neg (by simp)];rfl
 |cons v vs ih=>
  intro off k cs h;simp only[LF] at h;rw[List.zipIdx_cons,List.foldl_cons];obtain⟨h1,h2⟩:=ih off (k+1) (cs.setIfInBounds (off+k) v) (by simp;omega);refine⟨by simpa using h1,λi d=> ?_⟩;rw[h2];simp only[LF];by_cases c1:off+(k+1)<=i/\i<off+(k+1)+vs.length
  .rw[if_pos c1,if_pos (by omega),show i-(off+k)=(i-(off+(k+1)))+1 by omega];simp[List.getD]
  .rw[if_neg c1];by_cases c2:i=off+k
   .subst c2;rw[if_pos (by omega)];simp[Array.getD,show off+k<cs.size by omega]
   .rw[if_neg (by omega)];simp[ap3,aTj (Ne.symm c2)]
theorem aZg {π:Pi}{cs SW vs:aj}{arr:Array Value}{xs:Array Value}{off:Nat}(h1:bq (CV.rel π) cs.list arr.toList)(h2:bq (CV.rel π) vs.list xs.toList)(hle:off+aj.size vs<=aj.size cs)(hu:akT cs off vs=some SW):
  bq (CV.rel π) SW.list (xs.zipIdx.foldl (λ(cs:Array Value) (x:Value×Nat)=>cs.setIfInBounds (off+x.2) x.1) arr).toList:=by
 obtain⟨l1,g1⟩:=jr h1;obtain⟨l2,g2⟩:=jr h2;obtain⟨u1,u2⟩:=Ov hu;simp only[Wc] at l1 l2;have key:=aND xs.toList off 0 arr (by simp only[Wc];omega)
 have e:(xs.zipIdx.foldl (λ(cs:Array Value) (x:Value×Nat)=>cs.setIfInBounds (off+x.2) x.1) arr)=((xs.toList.zipIdx 0).foldl (λ(cs:Array Value) (x:Value×Nat)=>cs.setIfInBounds (off+x.2) x.1) arr):=by
  rw[<-Array.foldl_toList];simp
 rw[e];refine yH (by rw[Wc,key.1,u1,l1]) λj hj=> ?_;rw[u1] at hj;have yZ:j<((xs.toList.zipIdx 0).foldl (λ(cs:Array Value) (x:Value×Nat)=>cs.setIfInBounds (off+x.2) x.1) arr).size:=by rw[key.1,l1];exact hj
 have hk:=key.2 j undef;rw[ap3,aip yZ,LD] at hk;refine⟨_,by rw[Wb,aip yZ],?_⟩;rw[hk,u2 j hj];simp only[ky,Wc,l2];by_cases c:off<=j/\j<off+aj.size vs
 .rw[if_pos c,if_pos c];obtain⟨x,hx,hr⟩:=g2 (j-off) (by omega);simp only[List.getD,hx,LD];exact hr
 .rw[if_neg c,if_neg c];obtain⟨x,hx,hr⟩:=g1 j hj;rw[Wb] at hx;simp only[ap3,hx,LD];exact hr
theorem agi {π:Pi}{pl:Nat->Option (Nat×Nat)}:∀{l:List (Nat×RV)} {l':List (Nat×Value)} {cs SW:aj} {arr:Array Value},bq (λ(p:Nat×RV) (q:Nat×Value)=>p.1=q.1/\p.2.rel π q.2) l l'->akW pl cs l=some SW->bq (CV.rel π) cs.list arr.toList->
  ∃aTG,Instr.fill pl arr l'=some aTG/\bq (CV.rel π) SW.list aTG.toList/\aj.size SW=aj.size cs
 | [],[],cs,SW,arr,_,h,ha=>by simp[akW] at h;subst h;exact⟨arr,rfl,ha,rfl⟩
 |(i,v)::l,(i',x)::l',cs,SW,arr,⟨⟨hi,hv⟩,hl⟩,h,ha=>by
  have hi:i=i':=hi;subst hi;simp only[akW] at h;split at h
  .cases h
  .rename_i q n hpl
   split at h
   .rename_i hc
    simp only[cL,beq_iff,fD] at hc;obtain⟨c1,c2⟩:=hc;split at h
    .rename_i cs1 hu
     have hcx:bq (CV.rel π) v.bX.list x.cells.toList:=RV.Ow hv;have l1:=(jr hcx).1;have l2:=(jr ha).1;simp only[Wc] at l1 l2;obtain⟨aTG,h1,h2,h3⟩:=agi (pl:=pl) hl h (aZg ha hcx (by omega) hu);refine⟨aTG,?_,h2,h3.trans (Ov hu).1⟩;simp only[Instr.fill,hpl];rw[if_neg (by simp;omega)];exact h1
    .cases h
   .cases h
 | [],_::_,_,_,_,h,_,_=>h.elim
 |_::_,[],_,_,_,h,_,_=>h.elim
theorem aE4 {ps:Array (Nat×Operand)}{l:List (Nat×RV)}{fp:List Fp}{π:Pi}{a:Act}{w:World}(h:aH (Ab.uk (λp:Nat×Operand=>(wT p.2).bind λv=>.ret (p.1,v)) ps.toList) g l fp)(R:Rel X D π g a w):
  bq (λ(p:Nat×RV) (q:Nat×Value)=>p.1=q.1/\p.2.rel π q.2) l (ps.map λ(i,x)=>(i,a.eval x)).toList:=by
 have:=aH.uk (ρ:=λ(p:Nat×RV) (x:Nat×Operand)=>p.1=x.1/\p.2.rel π (a.eval x.2)) (λx v l hx=>by
  obtain⟨r,⟨_,h1⟩,_,h2⟩:=aH.bind' hx;cases h2;exact⟨rfl,h1.wT R⟩) h
 rw[Array.toList_map];exact aoQ this
theorem aNE {t:TypeId}{ps:Array (Nat×Operand)}{fp:List Fp}(ho:o.op=.build t ps)
  (h:aH ((Ab.eE (Bk P t)).bind λz=>(Ab.uk (λp=>(wT p.2).bind λv=>.ret (p.1,v)) ps.toList).bind λl=>(Ab.eE (placesOf P t)).bind λpl=>(Ab.eE (akW pl z.bX l)).bind λcs=>.ret (dW o.dst (.r (.agg cs)))) g us fp):AU P o X D aL us g:=by
 obtain⟨z,⟨_,h1⟩,_,h⟩:=aH.bind' h;obtain⟨l,⟨_,h2⟩,_,h⟩:=aH.bind' h;obtain⟨pl,⟨_,h3⟩,_,h⟩:=aH.bind' h;obtain⟨cs,⟨_,h4⟩,_,h⟩:=aH.bind' h;cases h;refine iG λπ a w R=> ?_;have h3:=h3.eE;have h4:=h4.eE;have hp:=aE4 h2 R;obtain⟨zx,_,⟨it,hi,hz⟩,a6a⟩:=adW h1.eE w;have hzr:=RV.Ow (a6a π)
 have hb:∃arr,P.built t (ps.map λ(i,x)=>(i,a.eval x)).toList=some arr/\bq (CV.rel π) cs.list arr.toList:=by
  unfold placesOf at h3;split at h3
  .rename_i fs hu
   cases hq:fs.toList.mapM (λf=>(P.info? f.type).map λi=>(f.offset,i.size)) with
   |none=>rw[hq] at h3;cases h3
   |some a7r=>
    rw[hq] at h3;cases h3;obtain⟨arr,e1,e2,_⟩:=agi hp h4 hzr;refine⟨arr,?_,e2⟩;simp only[Program.built,hi,hu,hz,hq];rw[<-e1];congr 1;funext i;simp
  .rename_i n e hu
   cases hq:iR P e with
   |none=>rw[hq] at h3;cases h3
   |some n=>
    rw[hq] at h3;cases h3;obtain⟨ie,hie,rfl⟩:=aqa hq;obtain⟨arr,e1,e2,_⟩:=agi hp h4 hzr;exact⟨arr,by simp only[Program.built,hi,hu,hz,hie];exact e1,e2⟩
  .cases h3
 obtain⟨arr,e1,e2⟩:=hb;exact⟨.agg arr,by simp[execOp,ho,run_build w t _ arr e1],arr,rfl,e2⟩
omit [aA] in
theorem axV (n:Nat)(l:aj):aj.size (rep n l)=n*aj.size l:=by
 induction n with
 |zero=>rw[rep,aj.lH,SV]
 |succ n ih=>rw[rep,aj.size_append,ih,asM];omega
omit [aA] in
theorem aZh (n:Nat)(l:aj)(i:Nat)(h:i<n*aj.size l):aj.get (rep n l) i=aj.get l (i%aj.size l):=by
 induction n generalizing i with
 |zero=>omega
 |succ n ih=>
  rw[rep,aj.get_append];by_cases hi:i<aj.size l
  .rw[if_pos hi,axK hi]
  .rw[if_neg hi,ih _ (by rw[asM] at h;omega)];congr 1
   exact(Nat.mod_eq_sub_mod (by omega)).symm
theorem Rel.row {π:Pi}{a:Act}{w:World}{g:Gt}(R:Rel X D π g a w){k:aj}{n:Sz}{q cap:Nat}{arr:Array Value}{t:TypeId}{dst:Option Tmp}(hd:∀d,dst=some d->d<X.N)(h0:π aL=none)(hk:X.k<=aL)(hn:n.val<=cap)(hc:cap*q<=arr.size)(hs:k.size=n.val*q)
  (h2:∀j,j<k.size->∃v,arr[j]? =some v/\(k.get j).rel π v):
  Rel X D (A5 π aL (w.heap.size,0,k.size,cap*q)) (cI (dW dst (.r (.c (.sl aL (.k 0) n q true)))) ((Up.new aL k).gS g)) (a.put dst (.slice (some ⟨w.heap.size,0,none⟩) n.val cap)) (w.alloc (.cells arr t)):=by
 have hq:=wR q hn;refine(R.alloc (k:=k) (cs:=arr) (t:=t) (e:=cap*q) h0 hk (by omega) hc h2).dst hd ?_;exact⟨_,_,_,_,qw _ _ _,by simp only[cG.val];omega,λ_=>by simp only[cG.val];omega,.inr ⟨cap,hn,rfl,λ_=>by simp only[cG.val];omega⟩⟩
omit [aA] in
theorem Wn {π:Pi}{b:Nat}{p:Nat×Nat×Nat×Nat}{aL c:Nat}(hb:aL<=b/\b<aL+c):∀b',A5 π b p b'≠none->π b'≠none∨(aL<=b'/\b'<aL+c):=by
 intro b' h;simp only[A5] at h;by_cases e:b'=b
 .subst e;exact .inr hb
 .simp only[e,gq] at h;exact .inl h
omit [aA] in
theorem LV (dst:Option Tmp)(v:AV)(us:List Up)(g:Gt)(hus:∀u∈us,∀i x,u≠.t i x):cI (dW dst v++us) g=cI (dW dst v) (cI us g):=by
 rw[Qj];cases dst with
 |none=>rfl
 |some d=>
  show cI us ((Up.t d v).gS g)=(Up.t d v).gS (cI us g);induction us generalizing g with
  |nil=>rfl
  |cons u us ih=>
   have hu:=hus u (by simp);show cI us (u.gS ((Up.t d v).gS g))=(Up.t d v).gS (cI us (u.gS g));rw[<-ih _ λx hx=>hus x (by simp[hx])];cases u with
   |t i x=>exact absurd rfl (hu i x)
   |_=>rfl
theorem axW {t:TypeId}{n:Nat}{ps:Array (Nat×Operand)}{fp:List Fp}(ho:o.op=.buildSlice t n ps)
  (h:aH (match P.underlying t with
  |some (.slice e)=>(Ab.eE (Bk P e)).bind λz=>(Ab.eE (iR P e)).bind λq=>
   (Ab.cM (wr 1 q&&wr (n*q) 16777216)).bind λ_=>
   (Ab.uk (λp=>(wT p.2).bind λv=>.ret (p.1,v)) ps.toList).bind λl=>
   (Ab.cM (Nat.beq (aj.size z.bX) q)).bind λ_=>(Ab.eE (akW (λi=>some (i*q,q)) (rep n z.bX) l)).bind λcs=>.ret (dW o.dst (.r (.c (.sl aL (.k 0) (.l n) q true)))++[.new aL (aoP P e n q cs)])
  |_=>.fail) g us fp):AU P o X D aL us g:=by
 split at h
 .rename_i e hu
  obtain⟨z,⟨_,h1⟩,_,h⟩:=aH.bind' h;obtain⟨q,⟨_,h2⟩,_,h⟩:=aH.bind' h;obtain⟨_,⟨_,h3⟩,_,h⟩:=aH.bind' h;obtain⟨l,⟨_,h4⟩,_,h⟩:=aH.bind' h;obtain⟨_,⟨_,h5⟩,_,h⟩:=aH.bind' h;obtain⟨cs,⟨_,h6⟩,_,h⟩:=aH.bind' h;cases h;have h3:=h3.cM;simp only[cL,fD] at h3;have h5:aj.size z.bX=q:=beq_iff.1 h5.cM;intro π a w next Q R hk hf hd hD hn;obtain⟨zx,hz1,_,hz2⟩:=adW h1.eE w;obtain⟨zl,zg⟩:=jr (RV.Ow (hz2 π));rw[Wc] at zl;have hp:=aE4 h4 R
  have ak7:bq (CV.rel π) (aj.list (rep n z.bX)) ((Array.range (n*q)).map (zx.cells[·%zx.cells.size]!)).toList:=by
   refine yH (by simp[axV,h5]) λj hj=> ?_;rw[axV,h5] at hj;rw[aZh _ _ _ (by rw[h5];exact hj),h5];obtain⟨y,hy,hr⟩:=zg (j%q) (by rw[h5];exact Nat.mod_lt _ (by omega));refine⟨y,?_,hr⟩;have e3:zx.cells.size=q:=zl.trans h5;have e4:zx.cells[j%q]? =some y:=by simpa using hy
   simp[hj,e3,getElem!_def,e4]
  obtain⟨arr,e1,e2,e3⟩:=agi hp h6.eE ak7;have e1:Instr.fill (λi=>some (i*q,q)) ((Array.range (n*q)).map (zx.cells[·%zx.cells.size]!)) (ps.toList.map λx=>(x.1,a.eval x.2))=some arr:=by rw[Array.toList_map] at e1;exact e1
  obtain⟨cl1,cl2⟩:=jr e2;rw[Wc] at cl1;rw[axV,h5] at e3
  have hbr:aj.size (aoP P e n q cs)=aj.size cs/\∀j,j<aj.size cs->aj.get (aoP P e n q cs) j=aj.get cs j:=by
   unfold aoP;split
   .exact⟨rfl,λ_ _=>rfl⟩
   .exact ZS q cs
  generalize aoP P e n q cs=kk at hbr hf hn
  obtain⟨br1,br2⟩:=hbr;have hcn:cH (dW o.dst (.r (.c (.sl aL (.k 0) (.l n) q true)))++[Up.new aL kk])=1:=by unfold dW cH;cases o.dst<;>rfl
  have h0:=hf aL (cP _) (by omega)
  have R1:=R.row (k:=kk) (n:=.l n) (q:=q) (cap:=n) (arr:=arr) (t:=e) hd h0 hk (cP _) (by omega) (br1.trans e3) (λj hj=>by
   rw[br1] at hj;obtain⟨y,hy,hr⟩:=cl2 j hj;rw[br2 j hj];exact⟨y,by simpa using hy,hr⟩)
  refine Qi (x:=.slice (some ⟨w.heap.size,0,none⟩) n n) (w':=w.alloc (.cells arr e)) ?_ (hn _ _ (A5 π aL (w.heap.size,0,aj.size kk,n*q)) (Bo h0 _) (Wn ⟨cP _,by omega⟩) ?_)
  .have h24:¬(16777216<n*q):=by omega
   simp only[execOp,ho,Instr.buildSlice,Sem.run_bind,run_underlying hu,Result.andThen_ok,run_sizeOf h2.eE];by_cases hnq:n*q=0
   .have hn0:n=0:=by
     rcases Nat.mul_eq_zero.1 hnq with h|h
     .exact h
     .omega
    subst hn0;simp only[SV] at e1 ⊢;have a6b:(Array.range 0).map (zx.cells[·%zx.cells.size]!)=#[]:=aYW (by simp);have hr0:Array.range 0=#[]:=aYW (by simp);rw[a6b] at e1;simp[e1,hr0,LU]
   .simp[h24,hnq,hz1,e1,LU]
  .rw[LV _ _ _ _ (by simp)];exact R1
 .cases h
theorem aCf {t:TypeId}{n c:Operand}{fp:List Fp}(ho:o.op=.makeSlice t n c)
  (h:aH (match P.underlying t with
  |some (.slice e)=>(Ab.eE (Bk P e)).bind λz=>(Ab.eE (iR P e)).bind λq=>(KX n).bind λn=>(KX c).bind λc=>
   (Ab.cM (decide (n.2=0)&&decide (c.2=0))).bind λ_=>(Ab.eE (ET q z.bX)).bind λcols=>
   .ret (dW o.dst (.r (.c (.sl aL (.k 0) (.s 0) q true)))++[.new aL [.a (.s 0) cols]])
  |_=>.fail) g us fp):AU P o X D aL us g:=by
 split at h
 .rename_i e hu
  obtain⟨z,⟨_,h1⟩,_,h⟩:=aH.bind' h;obtain⟨q,⟨_,h2⟩,_,h⟩:=aH.bind' h;obtain⟨nn,⟨_,h3⟩,_,h⟩:=aH.bind' h;obtain⟨cc,⟨_,h4⟩,_,h⟩:=aH.bind' h;obtain⟨_,⟨_,h5⟩,_,h⟩:=aH.bind' h;obtain⟨cols,⟨_,h6⟩,_,h⟩:=aH.bind' h;cases h;have h5:=h5.cM;simp only[cL,j7] at h5;intro π a w next Q R hk hf hd hD hn;have hv1:=h3.KX R;have hv2:=h4.KX R;rw[h5.1] at hv1;rw[h5.2] at hv2;have hcn:cH (dW o.dst (.r (.c (.sl aL (.k 0) (.s 0) q true)))++[Up.new aL [.a (.s 0) cols]])=1:=by unfold dW cH;cases o.dst<;>rfl
  have h0:=hf aL (cP _) (by omega);have hs0:aj.size [.a (.s 0) cols]=0:=by simp[aj.size,Sg.size,Sz.val]
  have R1:=R.row (k:=[.a (.s 0) cols]) (n:=.s 0) (q:=q) (cap:=0) (arr:=#[]) (t:=e) hd h0 hk (cP _) (by simp) (by rw[hs0];simp[Sz.val]) (λj hj=>by rw[hs0] at hj;omega)
  obtain⟨i,hi,hby⟩:∃i,P.info? e=some i/\True:=by
   have:=h2.eE;unfold iR at this;cases hh:P.info? e with
   |none=>rw[hh] at this;cases this
   |some i=>exact⟨i,rfl,trivial⟩
  refine Qi (x:=.slice (some ⟨w.heap.size,0,none⟩) 0 0) (w':=w.alloc (.cells #[] e)) ?_ (hn _ _ (A5 π aL (w.heap.size,0,aj.size [.a (.s 0) cols],0*q)) (Bo h0 _) (Wn ⟨cP _,by omega⟩) ?_)
  .have hw0:IntKind.i64.wrap 0=0:=by decide
   simp[execOp,ho,Instr.makeSlice,run_underlying hu,hv1,hv2,asInt,asIntOf,typeInfo,hi,hw0,run_sizeOf h2.eE,askRoom,LU]
   rw[show Array.range 0=#[] from aYW (by simp),Array.map_empty]
  .rw[LV _ _ _ _ (by simp)];exact R1
 .cases h
end
end Go.Ab
namespace Go.Ab
variable [aA]
section
variable {P:Program} {o:Oper} {X:Cx} {D:Nat->Prop} {aL:Nat} {us:List Up} {g:Gt}
theorem KZ {c:Call}{args:List AV}{l:List Fp}{π:Pi}{a:Act}{w:World}(h:aH (Ab.uk Ab.EA c.args.toList) g args l)(R:Rel X D π g a w):bq (AV.rel π) args (c.args.map a.eval).toList:=by
 rw[Array.toList_map];exact aoQ (aH.uk (ρ:=λv x=>v.rel π (a.eval x)) (λx v l hx=>aH.EA hx R) h)
omit [aA] in
theorem aZi {x:Array Value}{y:Value}(h:x.toList=[y]):x=#[y]:=by rw[<-akP];exact h
omit [aA] in
theorem aZj {x:Array Value}{y z:Value}(h:x.toList=[y,z]):x=#[y,z]:=by rw[<-akP];exact h
omit [aA] in
theorem a6c {x:Array TypeId}{y z:TypeId}(h:x.toList=[y,z]):x=#[y,z]:=by rw[<-akP];exact h
omit [aA] in
theorem axX {R:AV->Value->Prop}{x:AV}{l:List Value}(h:bq R [x] l):∃y,l=[y]/\R x y:=by
 match l,h with
 | [y],⟨h,_⟩=>exact⟨y,rfl,h⟩
 | [],h=>exact h.elim
 |_::_::_,⟨_,h⟩=>exact h.elim
omit [aA] in
theorem axY {R:AV->Value->Prop}{x x':AV}{l:List Value}(h:bq R [x,x'] l):∃y y',l=[y,y']/\R x y/\R x' y':=by
 match l,h with
 | [y,y'],⟨h,h',_⟩=>exact⟨y,y',rfl,h,h'⟩
 | [],h=>exact h.elim
 | [_],⟨_,h⟩=>exact h.elim
 |_::_::_::_,⟨_,_,h⟩=>exact h.elim
omit [aA] in
theorem agj {c:Call}{bi:Builtin}(a:Act)(w:World)(ho:o.op=.call c)(hc:c.callee=.builtin bi):∃cs,(execOp a.eval o).run P w=(builtin bi c.argTypes o.type cs (c.args.map a.eval)).run P w:=
 ⟨_,by simp[execOp,ho,resolve,hc,invoke];rfl⟩
theorem aIT {π:Pi}:∀{vs:List FV} {xs:List AV} {ys:List Value},bq (λ(v:FV) (x:AV)=>x=.r (.c (.f v))) vs xs->bq (AV.rel π) xs ys->bq FV.rel vs ys
 | [],[],[],_,_=>trivial
 |v::vs,x::xs,y::ys,⟨e,h⟩,⟨a,b⟩=>by subst e;exact⟨a,aIT h b⟩
 | [],_::_,_,h,_=>h.elim
 |_::_,[],_,h,_=>h.elim
 | [],[],_::_,_,h=>h.elim
 |_::_,_::_,[],_,h=>h.elim
theorem aUw {c:CV}{n:Nat}{l:List Fp}(h:aH (match c with|.f _=>Rd.fail|c=>aTx c) g n l){π:Pi}{x:Value}(hx:c.rel π x):∃a cap,x=.slice a n cap:=by
 cases c<;>simp only[aTx] at h
 case sl b o m z own=>
  cases h;obtain⟨B,s,q,e,_,_,_,⟨h0,a,rfl⟩| ⟨cap,_,rfl,_⟩⟩:=hx
  .exact⟨_,_,by rw[h0]⟩
  .exact⟨_,_,rfl⟩
 case nils=>cases h;exact⟨_,_,hx⟩
 case fs n z cols=>
  cases h;obtain⟨_,⟨h0,a,rfl⟩| ⟨B,s,cap,_,rfl,_⟩⟩:=hx
  .exact⟨_,_,by rw[h0]⟩
  .exact⟨_,_,rfl⟩
 all_goals cases h
theorem aUx {c:Call}{args:List AV}{x:AV}{fp l0:List Fp}(ho:o.op=.call c)(hc:c.callee=.builtin .len)(ha:aH (Ab.uk Ab.EA c.args.toList) g args l0)(lF:args=[x])
  (h:aH ((Ab.eE ((c.argTypes[0]?).bind P.underlying)).bind λ
  |.array n _=>.ret (dW o.dst (.r (.c (.f (.i .i64 (n:Int))))))
  |.slice _=>(Ab.asC x).bind λc=>(match c with|.f _=>Rd.fail|c=>aTx c).bind λn=>.ret (dW o.dst (.r (.c (.f (.i .i64 (n:Int))))))
  |.string=>(Ab.asC x).bind λc=>(match c with|.f (.s x)=>Rd.ret x.size|_=>Rd.fail).bind λn=>.ret (dW o.dst (.r (.c (.f (.i .i64 (n:Int))))))
  |_=>.fail) g us fp):AU P o X D aL us g:=by
 subst lF;obtain⟨d,⟨_,h1⟩,_,h⟩:=aH.bind' h;have h1:=h1.eE
 obtain⟨t,ht,hu⟩:∃t,c.argTypes[0]? =some t/\P.underlying t=some d:=by
  cases ht:c.argTypes[0]? with
  |none=>rw[ht] at h1;cases h1
  |some t=>rw[ht] at h1;exact⟨t,rfl,h1⟩
 split at h
 .rename_i n _ _
  cases h;refine iG λπ a w R=> ?_;obtain⟨y,hy,hr⟩:=axX (KZ ha R);have hy:=aZi hy;exact⟨goInt n,by obtain⟨cs,e⟩:=agj (P:=P) a w ho hc;rw[e,hy];simp[builtin,Builtin.len_,ht,run_underlying hu],rfl⟩
 .obtain⟨c1,⟨_,h2⟩,_,h⟩:=aH.bind' h;obtain⟨n,⟨_,h3⟩,_,h⟩:=aH.bind' h;cases h;refine iG λπ a w R=> ?_;obtain⟨y,hy,hr⟩:=axX (KZ ha R);have hy:=aZi hy;rw[h2.asC] at hr;obtain⟨ad,cap,rfl⟩:=aUw h3 hr;exact⟨goInt n,by obtain⟨cs,e⟩:=agj (P:=P) a w ho hc;rw[e,hy];simp[builtin,Builtin.len_,ht,run_underlying hu],rfl⟩
 .obtain⟨c1,⟨_,h2⟩,_,h⟩:=aH.bind' h;obtain⟨n,⟨_,h3⟩,_,h⟩:=aH.bind' h;cases h;refine iG λπ a w R=> ?_;obtain⟨y,hy,hr⟩:=axX (KZ ha R);have hy:=aZi hy;rw[h2.asC] at hr;split at h3
  .cases h3;have hr:y=_:=hr;subst hr;exact⟨_,by obtain⟨cs,e⟩:=agj (P:=P) a w ho hc;rw[e,hy];simp[builtin,Builtin.len_,ht,run_underlying hu];rfl,rfl⟩
  .cases h3
 .cases h
omit [aA] in
theorem aNF {x:AV}{v:FV}{l:List Fp}(h:aH (Ab.asF x) g v l):x=.r (.c (.f v)):=by
 unfold Ab.asF at h;split at h
 .cases h;rfl
 .cases h
theorem aIU {f:FV->FV->Rd FV}{m:Value->Value->Sem Value}(hf:∀x y v l,aH (f x y) g v l->∀a b,x.rel a->y.rel b->∀w,∃z,(m a b).run P w=.ok z w/\v.rel z):∀{xs:List FV} {ys:List Value} {x v:FV} {y:Value} {l:List Fp},aH (auy f x xs) g v l->x.rel y->bq FV.rel xs ys->∀w,∃z,(ys.foldlM m y).run P w=.ok z w/\v.rel z
 | [],[],x,v,y,l,h,hx,_,w=>by cases h;exact⟨y,by simp,hx⟩
 |a::xs,b::ys,x,v,y,l,h,hx,⟨ha,hs⟩,w=>by
  obtain⟨r,⟨_,h1⟩,_,h⟩:=aH.bind' h;obtain⟨z,hz,hr⟩:=hf x a r _ h1 y b hx ha w;obtain⟨z',uJ,hr'⟩:=aIU hf h hr hs w;exact⟨z',by simp[List.foldlM_cons,hz,uJ],hr'⟩
 | [],_::_,_,_,_,_,_,_,h,_=>h.elim
 |_::_,[],_,_,_,_,_,_,h,_=>h.elim
theorem aNG {bi:Builtin}{f:FV->FV->Rd FV}{m:Value->Value->Sem Value}(hf:∀x y v l,aH (f x y) g v l->∀a b,x.rel a->y.rel b->∀w,∃z,(m a b).run P w=.ok z w/\v.rel z)
  {c:Call}{args:List AV}{x:AV}{xs:List AV}{fp l0:List Fp}(ho:o.op=.call c)(hc:c.callee=.builtin bi)(hb:∀t cs y ys w,(builtin bi c.argTypes t cs (y::ys).toArray).run P w=((ys.foldlM m y).run P w).andThen λv w=>.ok (.value v) w)
  (ha:aH (Ab.uk Ab.EA c.args.toList) g args l0)(lF:args=x::xs)
  (h:aH ((Ab.asF x).bind λx=>(Ab.uk Ab.asF xs).bind λl=>(auy f x l).bind λv=>.ret (dW o.dst (.r (.c (.f v))))) g us fp):AU P o X D aL us g:=by
 subst lF;obtain⟨v0,⟨_,h1⟩,_,h⟩:=aH.bind' h;obtain⟨vs,⟨_,h2⟩,_,h⟩:=aH.bind' h;obtain⟨v,⟨_,h3⟩,_,h⟩:=aH.bind' h;cases h;refine iG λπ a w R=> ?_;have hr:=KZ ha R;have h1:=aNF h1;subst h1;have h2:=aH.uk (ρ:=λv x=>x=.r (.c (.f v))) (λx v l hx=>aNF hx) h2
 obtain⟨y,ys,hy,hry,hrs⟩:∃y ys,(c.args.map a.eval).toList=y::ys/\v0.rel y/\bq (AV.rel π) xs ys:=by
  revert hr
  generalize (c.args.map a.eval).toList=L
  intro hr;cases L with
  |nil=>exact hr.elim
  |cons y ys=>exact⟨y,ys,rfl,hr.1,hr.2⟩
 have hvs:bq FV.rel vs ys:=aIT h2 hrs;obtain⟨z,hz,hzr⟩:=aIU hf h3 hry hvs w;have hy':c.args.map a.eval=(y::ys).toArray:=by rw[<-akP];exact hy
 exact⟨z,by obtain⟨cs,e⟩:=agj (P:=P) a w ho hc;rw[e,hy',hb,hz];rfl,hzr⟩
theorem aUy {x y v:FV}{l:List Fp}(h:aH (aY3 x y) g v l)(a b:Value)(ha:x.rel a)(hb:y.rel b)(w:World):∃z,(Builtin.min2 a b).run P w=.ok z w/\v.rel z:=by
 unfold aY3 at h;split at h
 .rename_i k m k' n
  have ha:a=_:=ha;have hb:b=_:=hb;subst ha hb;split at h
  .cases h;exact⟨_,by simp[Builtin.min2],rfl⟩
  .cases h
 .cases h
theorem aUz {x y v:FV}{l:List Fp}(h:aH (aY4 x y) g v l)(a b:Value)(ha:x.rel a)(hb:y.rel b)(w:World):∃z,(Builtin.max2 a b).run P w=.ok z w/\v.rel z:=by
 unfold aY4 at h;split at h
 .rename_i k m k' n
  have ha:a=_:=ha;have hb:b=_:=hb;subst ha hb;split at h
  .cases h;exact⟨_,by simp[Builtin.max2],rfl⟩
  .cases h
 .cases h
omit [aA] in
theorem a1G (ts:Array TypeId)(t:TypeId)(cs:Array Bool)(y:Value)(ys:List Value)(w:World):(builtin .min ts t cs (y::ys).toArray).run P w=((ys.foldlM Builtin.min2 y).run P w).andThen λv w=>.ok (.value v) w:=by
 simp[builtin,Builtin.min_]
omit [aA] in
theorem a1H (ts:Array TypeId)(t:TypeId)(cs:Array Bool)(y:Value)(ys:List Value)(w:World):(builtin .max ts t cs (y::ys).toArray).run P w=((ys.foldlM Builtin.max2 y).run P w).andThen λv w=>.ok (.value v) w:=by
 simp[builtin,Builtin.max_]
end
end Go.Ab
namespace Go.Ab
variable [aA]
section
variable {P:Program} {o:Oper} {X:Cx} {D:Nat->Prop} {aL:Nat} {us:List Up} {g:Gt}
theorem Rel.aZk {π:Pi}{a:Act}{w:World}(R:Rel X D π g a w){b n B s e lo:Nat}{xs:List Value}(hz:g.z b=some n)(hb:π b=some (B,s,n,e))(h0:n<=lo)(hn:s+lo+xs.length<=e)
  (hD:b<X.k->D b):Rel X D π g a (w.setCells B (s+lo) xs):=by
 obtain⟨B',s',e',fB,hle,h1,h2⟩:=R.hp.hp b n hz;rw[hb] at fB;cases fB;have hin:∀j,j<xs.length->(cl w B (s+lo+j)).isSome=true:=λj hj=>(h1 _ (by omega) (by omega)).1
 refine⟨R.tm,R.nt,R.df,⟨R.hp.am.setCells λhl=>R.hp.lb b B s n e (by rw[hz];simp) hb (by omega),R.hp.lb,λb' n' uJ=> ?_,R.hp.dj⟩,R.yi,R.ft,R.fr.setCells ?_⟩
 .obtain⟨B2,s2,e2,FI,adV,k1,k2⟩:=R.hp.hp b' n' uJ;refine⟨B2,s2,e2,FI,adV,λi hi he=>⟨isSome_setCells hin (k1 i hi he).1,by rw[pU];exact(k1 i hi he).2⟩,λj hj=> ?_⟩;rw[eR]
  .exact k2 j hj
  .intro e3;subst e3;by_cases eb:b'=b
   .subst eb;rw[hb] at FI;cases FI;omega
   .by_cases hc:s+lo<=s2+j/\s2+j<s+lo+xs.length
    .exact(R.hp.dj b' b B2 s2 _ e2 s _ e eb (by simp[uJ]) (by simp[hz]) FI hb (s2+j) (by omega) (by omega) (by omega) (by omega)).elim
    .omega
 .rcases mO B X.w0.heap.size with hB|hB
  .right
   intro j hj;rcases mO b X.k with hk|hk
   .exact⟨b,s,n,e,hk,hD hk,(R.yi b hk).symm.trans hb,by omega,by omega⟩
   .exact R.ft b B s n e hk (by simp[hz]) hb hB _ (by omega) (by omega)
  .exact .inl hB
theorem aNH {z:Nat}{x:CV}{xb:Sz×aj}{l:List Fp}(h:aH (slB z x) g xb l){π:Pi}{a:Act}{w:World}(R:Rel X D π g a w){xv:Value}(hx:x.rel π xv):
  ∃news:List Value,news.length=xb.1.val*z/\xb.2.size=xb.1.val*z/\(∀j,j<xb.1.val*z->∃v,news[j]? =some v/\(xb.2.get j).rel π v)/\(∀v∈news,v.oneCell'=true)/\
   ((xb.1.val=0/\∃y c,xv=.slice y 0 c)∨∃ad c,xv=.slice (some ad) xb.1.val c/\∀j v,news[j]? =some v->w.cell? (ad.add j)=some v):=by
 cases x<;>simp only[slB] at h
 case sl b q n z' own=>
  obtain⟨_,⟨_,h1⟩,_,h2⟩:=aH.bind' h;clear h
  have uJ:z=z':=lE h1.cM;subst uJ;cases h2 with|vw r v hz hs hv h3=>
  cases h3;obtain⟨B2,s2,q2,e2,FI,hm,_,⟨h0,y,rfl⟩| ⟨cap,si,rfl,_⟩⟩:=hx
  .exact⟨[],by simp[h0],hs,λj hj=>by simp only[h0,SV] at hj;omega,by simp,.inl ⟨h0,y,0,rfl⟩⟩
  .obtain⟨_,xs,hl,hxs,hc⟩:=R.view hz hs hv FI hm
   have aNI:∀v∈xs,v.oneCell'=true:=λv hv=>by
    obtain⟨i,hi⟩:=axG.1 hv;obtain⟨c,_,hr⟩:=hxs.get' hi;exact CV.Rf hr
   refine⟨xs,hl,hs,λj hj=>(jr hxs).2 j (by rw[hs];exact hj),aNI,.inr ⟨_,cap,rfl,λj v hj=>by rw[nF];exact hc j v hj⟩⟩
 case nils=>
  cases h;have hx:xv=.slice none 0 0:=hx;exact⟨[],by simp[Sz.val],by simp[aj.size,Sz.val],λj hj=>by simp[Sz.val] at hj,by simp,.inl ⟨rfl,none,0,hx⟩⟩
 case fs n z' cols=>
  obtain⟨_,⟨_,h1⟩,_,h2⟩:=aH.bind' h;clear h
  have uJ:z=z':=lE h1.cM;subst uJ;cases h2;obtain⟨hz,hx⟩:=hx;have hs:aj.size [.a (.s n) cols]=n*z:=by rw[aj.size_cons,aj.lH,Sg.lL,hz];rfl
  rcases hx with⟨h0,y,rfl⟩| ⟨B,s,cap,si,rfl,hc⟩
  .exact⟨[],by simp[h0,Sz.val],hs,λj hj=>by simp only[h0,Sz.val,SV] at hj;omega,by simp,.inl ⟨h0,y,0,rfl⟩⟩
  .have cell:∀j,j<n*z->∃v,cl w B (s+j)=some v/\(iS cols j).rel π v:=λj hj=>by
    obtain⟨f,v,e1,e2,e3⟩:=hc j hj;exact⟨v,(R.hp.am.st _ _ _ e2).2,by rw[e1];exact e3⟩
   have hat:∀j v,((List.range (n*z)).map λj=>(cl w B (s+j)).getD undef)[j]? =some v->j<n*z/\cl w B (s+j)=some v:=λj v hv=>by
    have hjn:j<n*z:=by
     have:=(lP.1 hv).1;simpa using this
    obtain⟨u,hu,_⟩:=cell j hjn;simp[hjn,hu] at hv
    exact⟨hjn,by rw[hu,hv]⟩
   refine⟨(List.range (n*z)).map λj=>(cl w B (s+j)).getD undef,by simp[Sz.val],hs,λj hj=> ?_,λv hv=> ?_,.inr ⟨_,cap,rfl,λj v hv=>by rw[nF];exact(hat j v hv).2⟩⟩
   .obtain⟨v,hv,hr⟩:=cell j hj;refine⟨v,?_,by rw[aj.dN (by rw[Sg.lL,hz];exact hj),Sg.pN];exact hr⟩;have hj':j<n*z:=hj;rw[CA,List.getElem?_range hj'];simp[hv]
   .obtain⟨i,hi⟩:=axG.1 hv;obtain⟨h1,h2⟩:=hat i v hi;obtain⟨u,hu,hr⟩:=cell i h1;rw[h2] at hu;cases hu;exact CV.Rf hr
 all_goals cases h
omit [aA] in
theorem aNJ {z:Nat}{y:Option Addr}{c:Nat}(w:World):(Builtin.firstCells z 0 (.slice y 0 c)).run P w=.ok #[] w:=by
 cases y<;>simp[Builtin.firstCells,loadCells,loadCellsFrom]
omit [aA] in
theorem agk {t ty e:TypeId}{z:Nat}(ht:P.underlying t=some (.slice e))(hz:iR P e=some z){base y:Option Addr}{n cap c:Nat}(h:n<=cap)(w:World):
  (Builtin.append_ #[t,t] ty #[.slice base n cap,.slice y 0 c]).run P w=.ok (.slice base n cap) w:=by
 cases base<;>simp[Builtin.append_,run_underlying ht,run_sizeOf hz,Builtin.lenOf,h,aNJ,storeCells]
omit [aA] in
theorem LW {t ty e:TypeId}{z:Nat}(ht:P.underlying t=some (.slice e))(hz:iR P e=some z){B q n cap m c:Nat}{ad:Addr}{news:List Value}(h:n+m<=cap)(hl:news.length=m*z)(w:World)
  (hn:∀j v,news[j]? =some v->w.cell? (ad.add j)=some v)(h1:∀v∈news,v.oneCell'=true)(hc:∀j,j<news.length->(cl w B (q+n*z+j)).isSome=true/\fz w B (q+n*z+j)=false):
  (Builtin.append_ #[t,t] ty #[.slice (some ⟨B,q,none⟩) n cap,.slice (some ad) m c]).run P w=.ok (.slice (some ⟨B,q,none⟩) (n+m) cap) (w.setCells B (q+n*z) news):=by
 have hf:=run_firstCells_some (P:=P) w z m ad m c news hl hn;have hst:=run_storeCells_cells (P:=P) B (q+n*z) news 0 w (λj hj=>by have:=(hc j hj).1;simpa[cl] using this) (λj hj=>by have:=(hc j hj).2;simpa[fz] using this) h1;simp[Builtin.append_,run_underlying ht,run_sizeOf hz,Builtin.lenOf,h,hf,nF,hst]
theorem Jj {t ty e:TypeId}{z by_:Nat}{zv:RV}(ht:P.underlying t=some (.slice e))(hz:iR P e=some z)(hb:(P.info? e).map (·.bytes)=some by_)(hv:Bk P e=some zv)(hl0:aj.size zv.bX=z)(hby:1<=by_)
  {sv:Value}{n cap m c:Nat}{ad:Addr}{HC news:List Value}(w:World)(hs:(sv=.slice none 0 0/\n=0/\cap=0)∨∃b,sv=.slice (some b) n cap/\∀j v,HC[j]? =some v->w.cell? (b.add j)=some v)
  (hlo:HC.length=n*z)(hl:news.length=m*z)(hn:∀j v,news[j]? =some v->w.cell? (ad.add j)=some v)(hg:cap<n+m)(hm:0<m)(azN:(n+m)*by_<=140737488355328):
  ∃gc arr,(Builtin.append_ #[t,t] ty #[sv,.slice (some ad) m c]).run P w=.ok (.slice (some ⟨w.heap.size,0,none⟩) (n+m) gc) (w.drew.alloc (.cells arr e))/\n+m<=gc/\arr.size=gc*z/\∃rest,arr.toList=HC++news++rest:=by
 obtain⟨zx,_,⟨i,hi,hzz⟩,hzr⟩:=adW hv w;rw[hi] at hb;have hzs:i.size=z:=by unfold iR at hz;rw[hi] at hz;simpa using hz
 have hbs:i.bytes=by_:=by simpa using hb
 have hzc:zx.cells.size=z:=by
  have:=(jr (RV.Ow (hzr λ_=>none))).1;simp only[Wc] at this;omega
 have hle:n+m<=(n+m)*by_:=Nat.le_mul_of_pos_right _ (by omega)
 have yZ:∀(yi gc:Nat),n+m<=gc->(HC.toArray++news.toArray++Builtin.zeroCells zx.cells (gc-(n+m))).size=gc*z:=λyi gc hgc=>by
  simp only[Array.size_append,List.size_toArray,size_zeroCells,hzc,hlo,hl,<-qR];congr 1;omega
 rcases hs with⟨rfl,rfl,rfl⟩| ⟨b,rfl,ho⟩
 .have ho:HC=[]:=List.eq_nil_of_length_eq_zero (by simpa using hlo);subst ho;have hr:=run_append_nil (P:=P) w t ty e i zx ht hi hzz ad m c news (by rw[hzs];exact hl) hn hm (by omega) (by rw[hbs];simp only[gP] at azN;omega);have hge:=grownCap_ge w m 0 e;refine⟨_,_,by simpa using hr,by simpa using hge,?_,Builtin.zeroCells zx.cells (grownCap w m 0 e-m)|>.toList,?_⟩
  .have:=yZ 0 (grownCap w m 0 e) (by simpa using hge);simpa using this
  .simp
 .have hr:=run_append_grow (P:=P) w t ty e i zx ht hi hzz b n cap HC (by rw[hzs];exact hlo) ho ad m c news (by rw[hzs];exact hl) hn hg (by omega) (growslice_fits hg (by rw[hbs];exact azN));have hge:=grownCap_ge w (n+m) cap e;refine⟨_,_,hr,hge,yZ 0 _ hge,Builtin.zeroCells zx.cells (grownCap w (n+m) cap e-(n+m))|>.toList,?_⟩;simp
omit [aA] in
theorem aRy {e:TypeId}{n:Nat}{l:List Fp}(h:aH (Ab.eE ((P.info? e).map (·.bytes))) g n l):(P.info? e).map (·.bytes)=some n:=h.eE
omit [aA] in
theorem V4 {HC news rest:List Value}{arr:Array Value}(h:arr.toList=HC++news++rest){j:Nat}{v:Value}:(HC[j]? =some v->arr[j]? =some v)/\(news[j]? =some v->arr[HC.length+j]? =some v):=by
 refine⟨λhj=> ?_,λhj=> ?_⟩
 .have od:=(lP.1 hj).1;rw[<-Wb,h,Uu (by simp;omega),Uu od,hj]
 .have od:=(lP.1 hj).1;rw[<-Wb,h,Uu (by simp;omega),adQ (by omega),show HC.length+j-HC.length=j by omega,hj]
theorem aKU {c:Call}{t:TypeId}{sa xa:AV}{args:List AV}{fp l0:List Fp}(ho:o.op=.call c)(hc:c.callee=.builtin .append)(ha:aH (Ab.uk Ab.EA c.args.toList) g args l0)(lF:args=[sa,xa])
  (hts:c.argTypes=#[t,t]){s x:CV}(hs:sa=.r (.c s))(hx:xa=.r (.c x))(h:aH (aEB P t s x o.dst aL) g us fp):AU P o X D aL us g:=by
 subst hs hx lF;unfold aEB at h;split at h
 case h_2=>cases h
 rename_i e hu
 obtain⟨z,⟨_,h1⟩,_,h⟩:=aH.bind' h;obtain⟨by_,⟨_,h2⟩,_,h⟩:=aH.bind' h;obtain⟨zv,⟨_,h3⟩,_,h⟩:=aH.bind' h;obtain⟨_,⟨_,h4⟩,_,h⟩:=aH.bind' h;obtain⟨⟨xn,xk⟩,⟨_,h5⟩,_,h⟩:=aH.bind' h;have h1:=h1.eE;have h2:=aRy h2;have h3:=h3.eE;have h4:=h4.cM;simp only[cL,fD,beq_iff] at h4;have hzv:=h4.2.2;simp only[] at h;cases s with
 |nils=>
  simp only[] at h;obtain⟨_,⟨_,h6⟩,_,h⟩:=aH.bind' h;cases h;have h6:xn.val*by_<=140737488355328:=Wa h6.cM;intro π a w next Q R hk hf hd hD hn;obtain⟨y1,y2,hy,Zp,hr2⟩:=axY (KZ ha R);have hy:=aZj hy;have Zp:y1=.slice none 0 0:=Zp;subst Zp;obtain⟨news,n1,n2,n3,n4,n5⟩:=aNH h5 R hr2;simp only at n1 n2 n3 n4 n5;obtain⟨cs,er⟩:=agj (P:=P) a w ho hc;have hcn:cH (dW o.dst (.r (.c (.sl aL (.k 0) xn z true)))++[Up.new aL xk])=1:=by unfold dW cH;cases o.dst<;>rfl
  have h0:=hf aL (cP _) (by omega);by_cases hm:xn.val=0
  .obtain⟨y,c',rfl⟩:∃y c',y2=.slice y 0 c':=by
    rcases n5 with⟨_,y,c',rfl⟩| ⟨ad,c',rfl,_⟩
    .exact⟨y,c',rfl⟩
    .exact⟨some ad,c',by rw[hm]⟩
   have oD:=agk (P:=P) (ty:=o.type) hu h1 (base:=none) (y:=y) (n:=0) (cap:=0) (c:=c') (cP _) w;have hx0:=Bo h0 (0,0,aj.size xk,0)
   have R1:=(R.LS hx0 (λb hb=>by simp only[A5];rw[if_neg (by omega)])).new (k:=xk) (qw π aL (0,0,aj.size xk,0)) hk (by rw[n2,hm];omega) (λi _ i2=>by omega) (λj hj=>by rw[n2,hm] at hj;omega)
    (λ_ _ _ _ _ _ _ _ _ i2=>by omega) (λ_ _ _ i2=>by omega)
   have R2:=R1.dst hd (v:=.r (.c (.sl aL (.k 0) xn z true))) (x:=.slice none 0 0) ⟨_,_,_,_,qw _ _ _,by simp only[cG.val,n2];omega,λ_=>by simp only[cG.val,n2];omega,.inl ⟨hm,none,rfl⟩⟩;refine Qi (x:=.slice none 0 0) (w':=w) ?_ (hn _ _ (A5 π aL (0,0,aj.size xk,0)) hx0 (Wn ⟨cP _,by omega⟩) ?_)
   .rw[er,hy,hts];simp[builtin,oD]
   .rw[LV _ _ _ _ (by simp)];exact R2
  .obtain⟨ad,c',rfl,hn5⟩:∃ad c',y2=.slice (some ad) xn.val c'/\∀j v,news[j]? =some v->w.cell? (ad.add j)=some v:=by
    rcases n5 with⟨h,_⟩|h
    .exact absurd h hm
    .exact h
   obtain⟨gc,arr,oD,hgc,yZ,rest,agl⟩:=Jj (P:=P) (ty:=o.type) hu h1 h2 h3 hzv h4.2.1 (sv:=.slice none 0 0) (n:=0) (cap:=0) (m:=xn.val) (c:=c') (ad:=ad) (HC:=[]) (news:=news) w (.inl ⟨rfl,rfl,rfl⟩) (by simp) n1 hn5 (by omega) (by omega) (by simpa using h6);simp only[gP] at oD hgc
   have R1:=(R.drew).row (k:=xk) (n:=xn) (q:=z) (cap:=gc) (arr:=arr) (t:=e) hd h0 hk hgc (by omega) n2 (λj hj=>by
    rw[n2] at hj;obtain⟨v,hv,hr⟩:=n3 j hj;exact⟨v,by simpa using(V4 agl).2 hv,hr⟩)
   refine Qi (x:=.slice (some ⟨w.heap.size,0,none⟩) xn.val gc) (w':=w.drew.alloc (.cells arr e)) ?_ (hn _ _ (A5 π aL (w.heap.size,0,aj.size xk,gc*z)) (Bo h0 _) (Wn ⟨cP _,by omega⟩) ?_)
   .rw[er,hy,hts];simp[builtin,oD]
   .rw[LV _ _ _ _ (by simp)];exact R1
 |sl b q n z' own=>
  cases own with
  |false=>cases h
  |true=>
  simp only[] at h;obtain⟨_,⟨_,h6⟩,_,h⟩:=aH.bind' h;obtain⟨_,⟨_,h7⟩,_,h⟩:=aH.bind' h;cases h with|sz r hz h=>
  cases h with|vw r' sb uJ hsb hvb h=>
  obtain⟨nb,⟨_,h9⟩,_,h⟩:=aH.bind' h;obtain⟨_,⟨_,h10⟩,_,h⟩:=aH.bind' h;cases h;have h6:z=z':=lE h6.cM;subst h6;have h7:(n.val+xn.val)*by_<=140737488355328:=Wa h7.cM;rw[hz] at uJ;cases uJ;have auO:(n.add xn).val=n.val+xn.val:=by cases n<;>cases xn<;>rfl
  intro π a w next Q R hk hf hd hD hn;obtain⟨y1,y2,hy,Zp,hr2⟩:=axY (KZ ha R);have hy:=aZj hy;obtain⟨news,n1,n2,n3,n4,n5⟩:=aNH h5 R hr2;simp only at n1 n2 n3 n4 n5;obtain⟨cs,er⟩:=agj (P:=P) a w ho hc;have ZW:=aj.aUo h9.eE;have hcn:cH (dW o.dst (.r (.c (.sl aL (.k 0) (n.add xn) z true)))++[Up.kill b,Up.new aL nb])=1:=by unfold dW cH;cases o.dst<;>rfl
  have h0:=hf aL (cP _) (by omega);have hDb:b<X.k->D b:=hD (.kill b) (by simp);obtain⟨B,s,e',hb,hle,k1,k2⟩:=R.hp.hp b _ hz;have mX:aL≠b:=λe=>by rw[e,hb] at h0;cases h0
  have hmul:(n.val+xn.val)*z=n.val*z+xn.val*z:=qR _ _ _;have as0:aj.size nb=(n.val+xn.val)*z:=by rw[ZW.1,hsb,n2,hmul]
  have within:∀(w':World) (y:Value) (cap:Nat),Rel X D π g a w'->(n.val+xn.val)<=cap->s+q.val+cap*z<=e'->y=.slice (some ⟨B,s+q.val,none⟩) (n.val+xn.val) cap->
    (∀i,s+q.val<=i->i<e'->(cl w' B i).isSome=true/\fz w' B i=false)->(∀j,j<(n.val+xn.val)*z->∃v,cl w' B (s+q.val+j)=some v/\(aj.get nb j).rel π v)->
    (execOp a.eval o).run P w=.ok (.value y) w'->o.wp P a w next Q:=by
   intro w' y cap R' si hce hyy hc1 hc2 oD;have hcz:(n.val+xn.val)*z<=cap*z:=wR _ si;have hx0:=Bo h0 (B,s+q.val,aj.size nb,e')
   have R1:=((R'.kill b).LS hx0 (λb hb=>by simp only[A5];rw[if_neg (by omega)])).new (k:=nb) (qw π aL (B,s+q.val,aj.size nb,e')) hk (by rw[as0];omega) hc1
    (λj hj=>by
     rw[as0] at hj;obtain⟨v,hv,hr⟩:=hc2 j hj;exact⟨v,hv,CV.dH hx0 _ _ hr⟩)
    (λb' s1 q1 e1 a6d hz1 hb1 i i1 i2 i3 i4=>by
     simp only[A5,a6d,gq] at hb1;have hbb:b'≠b:=λe=>hz1 (by simp[Up.gS,e])
     have hz2:g.z b'≠none:=by simpa[Up.gS,hbb] using hz1
     exact R'.hp.dj b' b B s1 q1 e1 s _ e' hbb hz2 (by simp[hz]) hb1 hb i i3 i4 (by omega) i2)
    (λhB i i1 i2=>by
     rcases mO b X.k with hbk|hbk
     .exact⟨b,s,_,e',hbk,hDb hbk,(R'.yi b hbk).symm.trans hb,by omega,i2⟩
     .exact R'.ft b B s _ e' hbk (by simp[hz]) hb hB i (by omega) i2)
    (λh=>R'.hp.lb b B s _ e' (by simp[hz]) hb (by omega))
   have R2:=R1.dst hd (v:=.r (.c (.sl aL (.k 0) (n.add xn) z true))) (x:=y) ⟨_,_,_,_,qw _ _ _,by rw[auO,as0];simp only[cG.val];omega,λ_=>by rw[auO,as0];simp only[cG.val];omega,.inr ⟨cap,by rw[auO];exact si,by rw[auO];exact hyy,λ_=>hce⟩⟩;refine Qi oD (hn _ _ (A5 π aL (B,s+q.val,aj.size nb,e')) hx0 (Wn ⟨cP _,by omega⟩) ?_);rw[LV _ _ _ _ (by simp)];exact R2
  have as1:∀(sv:Value) (cap:Nat) (xs:List Value) (ad:Addr) (c':Nat),y1=sv->y2=.slice (some ad) xn.val c'->(∀j v,news[j]? =some v->w.cell? (ad.add j)=some v)->xs.length=n.val*z->(∀j,j<n.val*z->∃v,xs[j]? =some v/\(aj.get sb j).rel π v)->
    ((sv=.slice none 0 0/\n.val=0/\cap=0)∨∃b,sv=.slice (some b) n.val cap/\∀j v,xs[j]? =some v->w.cell? (b.add j)=some v)->0<xn.val->cap<n.val+xn.val->o.wp P a w next Q:=by
   intro sv cap xs ad c' hsv hy2 hn5 hxl hold hss hm si;subst hy2;obtain⟨gc,arr,oD,hgc,yZ,rest,agl⟩:=Jj (P:=P) (ty:=o.type) hu h1 h2 h3 hzv h4.2.1 (c:=c') (ad:=ad) (HC:=xs) (news:=news) w hss hxl n1 hn5 si hm h7
   have R1:=((R.drew).kill b).row (k:=nb) (n:=n.add xn) (q:=z) (cap:=gc) (arr:=arr) (t:=e) hd h0 hk (by rw[auO];exact hgc) (by omega) (by rw[as0,auO]) (λj hj=>by
    rw[as0] at hj;rw[ZW.2 j (by omega),hsb];by_cases hjn:j<n.val*z
    .obtain⟨v,hv,hr⟩:=hold j hjn;rw[if_pos hjn];exact⟨v,(V4 agl).1 hv,hr⟩
    .rw[if_neg hjn];obtain⟨v,hv,hr⟩:=n3 (j-n.val*z) (by omega);have:=(V4 agl).2 hv;rw[hxl,show n.val*z+(j-n.val*z)=j by omega] at this;exact⟨v,this,hr⟩)
   refine Qi (x:=.slice (some ⟨w.heap.size,0,none⟩) (n.val+xn.val) gc) (w':=w.drew.alloc (.cells arr e)) ?_ (hn _ _ (A5 π aL (w.heap.size,0,aj.size nb,gc*z)) (Bo h0 _) (Wn ⟨cP _,by omega⟩) ?_)
   .rw[er,hy,hts,hsv];simp[builtin,oD]
   .rw[LV _ _ _ _ (by simp),<-auO];exact R1
  have a3j:xn.val=0->∃y c',y2=.slice y 0 c':=λhm=>by
   rcases n5 with⟨_,y,c',rfl⟩| ⟨ad,c',rfl,_⟩
   .exact⟨y,c',rfl⟩
   .exact⟨some ad,c',by rw[hm]⟩
  have a3k:xn.val≠0->∃ad c',y2=.slice (some ad) xn.val c'/\∀j v,news[j]? =some v->w.cell? (ad.add j)=some v:=λhm=>by
   rcases n5 with⟨h,_⟩|h
   .exact absurd h hm
   .exact h
  obtain⟨B2,s2,q2,e2,FI,hmq,a4w,⟨hn0,y0,rfl⟩| ⟨cap,si,rfl,aRx⟩⟩:=Zp
  .by_cases hm:xn.val=0
   .obtain⟨y,c',rfl⟩:=a3j hm;have oD:=agk (P:=P) (ty:=o.type) hu h1 (base:=y0) (y:=y) (n:=0) (cap:=0) (c:=c') (cP _) w;have hs0:aj.size nb=0:=by rw[as0,hm,hn0];omega
    have hx0:=Bo h0 (0,0,aj.size nb,0)
    have R1:=((R.kill b).LS hx0 (λb hb=>by simp only[A5];rw[if_neg (by omega)])).new (k:=nb) (qw π aL (0,0,aj.size nb,0)) hk (by omega) (λi _ i2=>by omega) (λj hj=>by omega)
     (λ_ _ _ _ _ _ _ _ _ i2=>by omega) (λ_ _ _ i2=>by omega)
    have R2:=R1.dst hd (v:=.r (.c (.sl aL (.k 0) (n.add xn) z true))) (x:=.slice y0 0 0) ⟨_,_,_,_,qw _ _ _,by rw[auO,hs0,hm,hn0];simp[cG.val],λ_=>by rw[auO,hs0,hm,hn0];simp[cG.val],.inl ⟨by omega,y0,rfl⟩⟩;refine Qi (x:=.slice y0 0 0) (w':=w) ?_ (hn _ _ (A5 π aL (0,0,aj.size nb,0)) hx0 (Wn ⟨cP _,by omega⟩) ?_)
    .rw[er,hy,hts];simp[builtin,oD]
    .rw[LV _ _ _ _ (by simp)];exact R2
   .obtain⟨ad,c',hy2,hn5⟩:=a3k hm;cases y0 with
    |none=>exact as1 _ 0 [] ad c' rfl hy2 hn5 (by simp[hn0]) (λj hj=>by simp only[hn0,SV] at hj;omega) (.inl ⟨rfl,hn0,rfl⟩) (by omega) (by omega)
    |some ad0=>exact as1 _ 0 [] ad c' rfl hy2 hn5 (by simp[hn0]) (λj hj=>by simp only[hn0,SV] at hj;omega) (.inr ⟨ad0,by rw[hn0],λj v hj=>by simp at hj⟩) (by omega) (by omega)
  .rw[hb] at FI;cases FI;have a8C:=a4w rfl;have aNC:=aRx rfl;obtain⟨_,xs,hxl,hxs,hxc⟩:=R.view hz hsb hvb hb hmq
   have hold:∀j,j<n.val*z->∃v,xs[j]? =some v/\(aj.get sb j).rel π v/\cl w B (s+q.val+j)=some v:=λj hj=>by
    obtain⟨v,hv,hr⟩:=(jr hxs).2 j (by rw[hsb];exact hj);exact⟨v,hv,hr,hxc j v hv⟩
   by_cases hm:xn.val=0
   .obtain⟨y,c',rfl⟩:=a3j hm;have oD:=agk (P:=P) (ty:=o.type) hu h1 (base:=some ⟨B,s+q.val,none⟩) (y:=y) (n:=n.val) (cap:=cap) (c:=c') si w;refine within w _ cap R (by omega) aNC (by rw[hm,ky]) (λi i1 i2=>k1 i (by omega) i2) (λj hj=> ?_) (by rw[er,hy,hts];simp[builtin,oD]);have hj':j<n.val*z:=by rw[hm] at hj;simpa using hj
    obtain⟨v,_,hr,hc⟩:=hold j hj';exact⟨v,hc,by rw[ZW.2 j (by omega),if_pos (by omega)];exact hr⟩
   .obtain⟨ad,c',hy2,hn5⟩:=a3k hm;by_cases SZ:n.val+xn.val<=cap
    .subst hy2;have hcz:(n.val+xn.val)*z<=cap*z:=wR _ SZ;have hin:∀j,j<news.length->(cl w B (s+q.val+n.val*z+j)).isSome=true/\fz w B (s+q.val+n.val*z+j)=false:=λj hj=>k1 _ (by omega) (by omega)
     have oD:=LW (P:=P) (ty:=o.type) hu h1 (B:=B) (q:=s+q.val) (n:=n.val) (cap:=cap) (m:=xn.val) (c:=c') (ad:=ad) SZ n1 w hn5 n4 hin;have R':=R.aZk (lo:=q.val+n.val*z) (xs:=news) hz hb (by omega) (by omega) hDb;rw[show s+(q.val+n.val*z)=s+q.val+n.val*z by omega] at R';refine within _ _ cap R' SZ aNC rfl (λi i1 i2=>⟨isSome_setCells (λj hj=>(hin j hj).1) (k1 i (by omega) i2).1,by rw[pU];exact(k1 i (by omega) i2).2⟩) (λj hj=> ?_) (by rw[er,hy,hts];simp[builtin,oD]);rw[ZW.2 j (by omega),hsb];by_cases hjn:j<n.val*z
     .obtain⟨v,hv,hr,hc⟩:=hold j hjn;rw[if_pos hjn];exact⟨v,by rw[eR (λ_=>by omega)];exact hc,hr⟩
     .rw[if_neg hjn];obtain⟨v,hv,hr⟩:=n3 (j-n.val*z) (by omega);have od:=(lP.1 hv);have:=oe (w:=w) (B:=B) (o:=s+q.val+n.val*z) (vs:=news) (λj hj=>(hin j hj).1) od.1;rw[show s+q.val+n.val*z+(j-n.val*z)=s+q.val+j by omega,od.2] at this;exact⟨v,this,hr⟩
    .exact as1 _ cap xs ad c' rfl hy2 hn5 hxl (λj hj=>let⟨v,hv,hr,_⟩:=hold j hj;⟨v,hv,hr⟩) (.inr ⟨_,rfl,λj v hj=>by rw[nF];exact hxc j v hj⟩) (by omega) (by omega)
 |_=>cases h
omit [aA] in
theorem aH.aIL {v:Nat}:∀{k j:Nat} {l:List Fp},aH (aIL v k) g j l->j=Nat.min v k
 |0,j,l,h=>by cases h;simp
 |k+1,j,l,h=>by
  cases h with|test h=>
  cases hx:wr (k+1) v with
  |true=>
   rw[hx] at h;cases h;have:=Wa hx;show k+1=min v (k+1);omega
  |false=>
   rw[hx] at h;have h0:¬k+1<=v:=λh=>by rw[axH h] at hx;cases hx
   have e:=aH.aIL h;rw[e];show min v k=min v (k+1);omega
omit [aA] in
theorem aH.aNh {n n':Sz}{m:Bool×Sz}{l:List Fp}(h:aH (aNh n n') g m l):m.2.val=Nat.min n'.val n.val:=by
 have least:∀n n':Sz,(Sz.least n' n).val=Nat.min n'.val n.val:=λn n'=>by cases n<;>cases n'<;>rfl
 unfold Ab.aNh at h;split at h
 .split at h
  .obtain⟨j,⟨_,h1⟩,_,h2⟩:=aH.bind' h;cases h2;exact aH.aIL h1
  .cases h;rfl
 .cases h;exact least _ _
theorem aRz {c:Call}{t:TypeId}{da xa:AV}{args:List AV}{fp l0:List Fp}(ho:o.op=.call c)(hc:c.callee=.builtin .copy)(ha:aH (Ab.uk Ab.EA c.args.toList) g args l0)(lF:args=[da,xa])
  (hts:c.argTypes[0]? =some t){d x:CV}(hs:da=.r (.c d))(hx:xa=.r (.c x))(h:aH (copyV P t d x o.dst) g us fp):AU P o X D aL us g:=by
 subst hs hx lF;unfold copyV at h;split at h
 case h_2=>cases h
 rename_i e hu
 obtain⟨z,⟨_,h1⟩,_,h⟩:=aH.bind' h;have h1:=h1.eE;split at h
 case h_2=>cases h
 rename_i b q n z1 w1 b' q' n' z2 w2 _
 obtain⟨_,⟨_,h2⟩,_,h'⟩:=aH.bind' h;clear h
 obtain⟨_,⟨_,h3⟩,_,h⟩:=aH.bind' h';clear h'
 have h2:=h2.cM;simp only[cL,beq_iff] at h2;obtain⟨e1,e2⟩:=h2;obtain⟨⟨fl,m⟩,⟨_,h6⟩,_,h'⟩:=aH.bind' h;clear h
 have hmv:m.val=Nat.min n'.val n.val:=h6.aNh;clear h6
 cases h' with|vw r' v0 uJ hs0 hv0 h=>
 cases h with|sz r hz h=>
 cases h
 have hsv:aj.size (cond fl (uj v0) v0)=aj.size v0/\∀j,j<aj.size v0->aj.get (cond fl (uj v0) v0) j=aj.get v0 j:=by
  cases fl
  .exact⟨rfl,λ_ _=>rfl⟩
  .exact za v0
 have hs:aj.size (cond fl (uj v0) v0)=m.val*z:=hsv.1.trans hs0;have hv:q'.val+m.val*z<=r'->∀j,j<m.val*z->aj.get (cond fl (uj v0) v0) j=g.c b' (q'.val+j):=λhb j hj=>(hsv.2 j (by rw[hs0];exact hj)).trans (hv0 hb j hj)
 generalize cond fl (uj v0) v0=v at hs hv ⊢
 clear hsv hs0 hv0
 subst e1 e2;intro π a w next Q R hk hf hd hD hn;obtain⟨y1,y2,hy,Zp,hr2⟩:=axY (KZ ha R);have hy:=aZj hy;obtain⟨cs,er⟩:=agj (P:=P) a w ho hc
 have key:∀(w':World) (g':Gt),(execOp a.eval o).run P w=.ok (.value (.int .i64 ((m.val:Nat):Int))) w'->Rel X D π g' a w'->
   cI [Up.c b q v] g=g'->o.wp P a w next Q:=by
  intro w' g' oD R' hg;refine Qi oD (hn _ _ π (Ext.refl _) (λb h=>.inl h) ?_);rw[LV _ _ _ _ (by simp),hg];exact R'.dst hd rfl
 by_cases hm:m.val=0
 .have hv0:aj.size v=0:=by rw[hs,hm,SV]
  have hg:cI [Up.c b q v] g=g:=by
   show(Up.c b q v).gS g=g;simp only[Up.gS]
   have:(λb' j=>if b'=b/\q.val<=j/\j<q.val+aj.size v then aj.get v (j-q.val) else g.c b' j)=g.c:=by
    funext b' j;rw[if_neg (by omega)]
   rw[this]
  have hvv:∀{b q n z own} {y:Value},CV.rel π (.sl b q n z own) y->∃ad cap,y=.slice ad n.val cap:=λhr=>by
   obtain⟨_,_,_,_,_,_,_,⟨h,y,rfl⟩| ⟨cap,_,rfl,_⟩⟩:=hr
   .exact⟨_,_,by rw[h]⟩
   .exact⟨_,_,rfl⟩
  obtain⟨ad1,c1,rfl⟩:=hvv Zp;obtain⟨ad2,c2,rfl⟩:=hvv hr2
  have hf0:(Builtin.firstCells z 0 (.slice ad2 n'.val c2)).run P w=.ok #[] w:=by
   cases ad2<;>simp[Builtin.firstCells,loadCells,loadCellsFrom]
  refine key w g ?_ R hg;rw[er,hy];rw[hmv] at hm
  have hc0:(Builtin.copy_ c.argTypes o.type #[.slice ad1 n.val c1,.slice ad2 n'.val c2]).run P w=.ok (goInt 0) w:=by
   cases ad1<;>simp[Builtin.copy_,hts,run_underlying hu,run_sizeOf h1,Builtin.lenOf,hm,hf0,storeCells]
  simp[builtin,hc0,hm,hmv,goInt]
 .have mX:n.val≠0/\n'.val≠0:=by
   rw[hmv] at hm;constructor<;>(intro e;apply hm;rw[e];simp[Nat.min_def])
  obtain⟨B,s,r1,e1,hb,hm1,_,⟨h,_⟩| ⟨c1,hc1,rfl,_⟩⟩:=Zp
  .exact absurd h mX.1
  obtain⟨B',s',r2,e1',fB,hm2,_,⟨h,_⟩| ⟨c2,hc2,rfl,_⟩⟩:=hr2
  .exact absurd h mX.2
  have l1:m.val*z<=n.val*z:=wR _ (by rw[hmv];exact Nat.min_le_right _ _);have l2:m.val*z<=n'.val*z:=wR _ (by rw[hmv];exact Nat.min_le_left _ _);obtain⟨_,xs,hxl,hxs,hxc⟩:=R.view uJ hs hv fB (by omega);rw[hmv] at hxl;have hfc:=run_firstCells_some (P:=P) w z (Nat.min n'.val n.val) ⟨B',s'+q'.val,none⟩ n'.val c2 xs hxl (λj v hj=>by rw[nF];exact hxc j v hj);obtain⟨B0,s0,e0,Rg,hle,k1,k2⟩:=R.hp.hp b _ hz;rw[hb] at Rg;cases Rg;rw[hmv] at l1 hs
  have hst:=run_storeCells_cells (P:=P) B (s+q.val) xs 0 w (λj hj=>(k1 _ (by omega) (by omega)).1) (λj hj=>(k1 _ (by omega) (by omega)).2) (λv hv=>by
   obtain⟨i,hi⟩:=axG.1 hv;obtain⟨c,_,hr⟩:=hxs.get' hi;exact CV.Rf hr)
  have R':=R.set (o:=q) hz hb (by omega) hxs (hD (.c b q v) (by simp));refine key _ _ ?_ R' rfl;rw[er,hy];simp[builtin,Builtin.copy_,hts,run_underlying hu,run_sizeOf h1,Builtin.lenOf,hfc,hst,goInt,hmv]
end
end Go.Ab
namespace Go.Ab
variable [aA]
def hC (l:List (Option aj))(b j:Nat):CV:=match(l[b]?).getD none with
 |some k=>if j<k.size then k.get j else .f .u
 |none=>.f .u
def hZ (l:List (Option aj))(b:Nat):Option Nat:=((l[b]?).getD none).map aj.size
def after:List aj->List Ch->List (Option aj)
 | [],_=>[]
 |b::bs,.mW::cs=>some b::after bs cs
 |_::bs,.set b::cs=>some b::after bs cs
 |_::bs,.kill::cs=>none::after bs cs
 |_::bs,[]=>none::after bs []
omit [aA] in
theorem nL:∀(h:List aj) (cs:List Ch),(after h cs).length=h.length
 | [],_=>rfl
 |_::bs,.mW::cs=>by simp[after,nL bs cs]
 |_::bs,.set b::cs=>by simp[after,nL bs cs]
 |_::bs,.kill::cs=>by simp[after,nL bs cs]
 |_::bs,[]=>by simp[after,nL bs []]
def pP.heap (r:pP)(h:List aj):List (Option aj):=after h r.yY++r.news.map some
def S3 (cs:List Ch)(b:Nat):Prop:=cs[b]? ≠some .mW
def tQ (π:Pi)(w0:World)(h:List aj)(res:pP):Ending->World->Prop:=λe w'=>∃π' v,e=.returned v/\Ext π π'/\res.val.rel π' v/\sV π' (hC (res.heap h)) (hZ (res.heap h)) w'/\cy w0 (DH π h.length (S3 res.yY)) w'/\
   (∀b,π' b≠none->b<h.length+res.news.length)/\
   (∀b B s q e,h.length<=b->π' b=some (B,s,q,e)->B<w0.heap.size->∀i,s<=i->i<e->DH π h.length (S3 res.yY) B i)
def Sound (P:Program)(f:FuncId)(F:FE):Prop:=
 ∀args h res,(F args h).eval=some res->∀(w:World) (π:Pi) (vs:Array Value),bq (AV.rel π) args vs.toList->sV π (hC (h.map some)) (hZ (h.map some)) w->(∀b,π b≠none->b<h.length)->
  ((callFunc f vs).run P w=.ok (.enter f vs) w/\Calls P f vs w (tQ π w h res))∨∃v,(callFunc f vs).run P w=.ok (.value v) w/\tQ π w h res (.returned v) w
omit [aA] in
theorem T.aZl {t:T}{g:Gt}{r:pP}{l:List Fp}(h:aH t.rd g r l):t.eval=some r:=by
 induction t generalizing l with
 |leaf r=>cases h;rfl
 |fail=>cases h
 |test x a b iha ihb=>
  cases h with|test h=>
  cases x
  .exact ihb h
  .exact iha h
 |opt x k ih=>
  cases h with|opt hx h=>
  subst hx;exact ih _ h
def piL (π:Pi)(vs:List Vw):Pi:=λj=>match vs[j]? with
 |some v=>match π v.b with
  |some (B,s,_,e)=>some (B,s+v.o.val,v.n,if v.own then e else s+v.o.val+v.n)
  |none=>none
 |none=>none
def Oy (vs kt:List Vw):Prop:=∃t,kt=vs++t
omit [aA] in
theorem Oy.refl (vs:List Vw):Oy vs vs:=⟨[],by simp⟩
omit [aA] in
theorem Oy.trans {a b c:List Vw}(h:Oy a b)(k:Oy b c):Oy a c:=by
 obtain⟨t,rfl⟩:=h;obtain⟨u,rfl⟩:=k;exact⟨t++u,by simp⟩
omit [aA] in
theorem Oy.get {vs kt:List Vw}(h:Oy vs kt){j:Nat}{v:Vw}(hj:vs[j]? =some v):kt[j]? =some v:=by
 obtain⟨t,rfl⟩:=h;rw[Uu (lP.1 hj).1,hj]
omit [aA] in
theorem Oy.length {vs kt:List Vw}(h:Oy vs kt):vs.length<=kt.length:=by
 obtain⟨t,rfl⟩:=h;simp
omit [aA] in
theorem Oy.ext {π:Pi}{vs kt:List Vw}(h:Oy vs kt):Ext (piL π vs) (piL π kt):=by
 intro j p hp;unfold piL at hp ⊢;cases hj:vs[j]? with
 |none=>rw[hj] at hp;cases hp
 |some v=>rw[h.get hj];rw[hj] at hp;exact hp
def K0 (π:Pi)(vs:List Vw):Prop:=
 (∀(i j:Nat) (v v':Vw),i≠j->vs[i]? =some v->vs[j]? =some v'->v.b=v'.b->(v.o.val+v.n<=v'.o.val∨v'.o.val+v'.n<=v.o.val)/\(v.own=false∨v'.own=false))/\
 ∀(i:Nat) (v:Vw),vs[i]? =some v->∃B s q e,π v.b=some (B,s,q,e)/\v.o.val+v.n<=q/\(v.own=true->v.o.val+v.n=q)
omit [aA] in
theorem K0.nil (π:Pi):K0 π []:=⟨λi j v v' _ h=>by simp at h,λi v h=>by simp at h⟩
omit [aA] in
theorem ext_eq {o:cG}{cH:Sz}{z c n:Nat}(h:ext o cH z=some (c,n)):o.val=c/\cH.val*z=n:=by
 unfold ext at h;split at h
 .simp only[iv,rq] at h;exact h
 .cases h
omit [aA] in
theorem aKV {b:Nat}{o:cG}{cH:Sz}{z:Nat}{vs:List Vw}(h:auw b (ext o cH z) vs=true):∀v∈vs,v.b=b->(o.val+cH.val*z<=v.o.val∨v.o.val+v.n<=o.val):=λv hv hb=>by
 have:=asK.1 h v hv;rw[hb,Ar] at this;simp only[HW,Bool.false_or] at this;split at this
 .rename_i o1 n1 o2 n2 h1 h2
  obtain⟨e1,e2⟩:=ext_eq h1;obtain⟨e3,e4⟩:=ext_eq h2;simp only[afX,fD] at this;rw[e1,e2,e3,Vw.n,e4];exact this
 .cases this
omit [aA] in
theorem K0.snoc {π:Pi}{vs:List Vw}(h:K0 π vs)(v:Vw)(ha:auw v.b (ext v.o v.cH v.z) vs=true)(hb:∃B s q e,π v.b=some (B,s,q,e)/\v.o.val+v.n<=q/\(v.own=true->v.o.val+v.n=q))(qE:v.own=true->∀v'∈vs,v'.b=v.b->v'.own=false):K0 π (vs++[v]):=by
 have hap:=aKV ha
 have aDA:∀(i:Nat) (w:Vw),(vs++[v])[i]? =some w->(i<vs.length/\vs[i]? =some w)∨(i=vs.length/\w=v):=λi w hw=>by
  rcases mO i vs.length with hi|hi
  .rw[Uu hi] at hw;exact .inl ⟨hi,hw⟩
  .rw[adQ hi] at hw
   have:i-vs.length=0:=by
    have:=(lP.1 hw).1;simp at this;omega
   rw[this] at hw;exact .inr ⟨by omega,by simpa using hw.symm⟩
 refine⟨λi j x y hij hx hy hxy=> ?_,λi x hx=> ?_⟩
 .rcases aDA i x hx with⟨hi,hx'⟩| ⟨hi,rfl⟩
  .rcases aDA j y hy with⟨hj,hy'⟩| ⟨hj,rfl⟩
   .exact h.1 i j x y hij hx' hy' hxy
   .have hm:=List.mem_of_getElem? hx';refine⟨(hap x hm hxy).symm,?_⟩;cases hvo:y.own with
    |false=>exact .inr rfl
    |true=>exact .inl (qE hvo x hm hxy)
  .rcases aDA j y hy with⟨hj,hy'⟩| ⟨hj,rfl⟩
   .have hm:=List.mem_of_getElem? hy';refine⟨hap y hm hxy.symm,?_⟩;cases hvo:x.own with
    |false=>exact .inl rfl
    |true=>exact .inr (qE hvo y hm hxy.symm)
   .omega
 .rcases aDA i x hx with⟨hi,hx'⟩| ⟨hi,rfl⟩
  .exact h.2 i x hx'
  .exact hb
omit [aA] in
theorem ZX {b:Nat}{e:Option (Nat×Nat)}:∀{vs:List Vw} {i0 i d:Nat} {ow:Bool},abR b e vs i0=some (i,d,ow)->∃k v o n o' n',i=i0+k/\vs[k]? =some v/\v.b=b/\e=some (o,n)/\ext v.o v.cH v.z=some (o',n')/\o'<=o/\o+n<=o'+n'/\d=o-o'/\ow=v.own
 | [],_,_,_,_,h=>by simp[abR] at h
 |v::vs,i0,i,d,ow,h=>by
  have next:abR b e vs (i0+1)=some (i,d,ow)->∃k u o n o' n',i=i0+k/\(v::vs)[k]? =some u/\u.b=b/\e=some (o,n)/\ext u.o u.cH u.z=some (o',n')/\o'<=o/\o+n<=o'+n'/\d=o-o'/\ow=u.own:=λh=>by
   obtain⟨k,v',o,n,o',n',h1,h2,h3⟩:=ZX h;exact⟨k+1,v',o,n,o',n',by omega,by simpa using h2,h3⟩
  simp only[abR] at h;split at h
  .exact next h
  .rename_i hb
   rw[beq_iff] at hb;split at h
   .rename_i o n o' n' h1
    split at h
    .rename_i hc
     cases h;simp only[cL,fD] at hc;exact⟨0,v,o,n,o',n',rfl,rfl,hb,rfl,h1,hc.1,hc.2,rfl,rfl⟩
    .exact next h
   .exact next h
omit [aA] in
theorem zb {π:Pi}{vs:List Vw}{j:Nat}{v:Vw}(h:vs[j]? =some v){B s q e:Nat}(hb:π v.b=some (B,s,q,e)):piL π vs j=some (B,s+v.o.val,v.n,if v.own then e else s+v.o.val+v.n):=by
 unfold piL;rw[h];simp only[hb]
omit [aA] in
theorem axZ (vs:List Vw)(v:Vw):(vs++[v])[vs.length]? =some v:=by simp
abbrev Loc {α:Type}(R:Pi->α->Value->Prop)(π:Pi)(vs:List Vw)(a':α)(kt:List Vw)(x:Value):Prop:=Oy vs kt/\(K0 π vs->K0 π kt/\R (piL π kt) a' x)
theorem aE5 {g:Gt}{π:Pi}{c c':CV}{x:Value}{vs kt:List Vw}{l:List Fp}(h:aH (aTt c vs) g (c',kt) l)(hx:c.rel π x):Loc CV.rel π vs c' kt x:=by
 cases c<;>simp only[aTt] at h
 case ptr b o n=>
  obtain⟨B,s,q,e,hp,hx,hm⟩:=hx;split at h
  .rename_i i d ow hf
   cases h;obtain⟨k,v,o1,n1,o2,n2,hk,hv,hb,h1,h2,h3,h4,h5,h6⟩:=ZX hf;obtain⟨e1,e2⟩:=ext_eq h1;obtain⟨e3,e4⟩:=ext_eq h2;refine⟨Oy.refl _,λok=>⟨ok,?_⟩⟩;rw[<-hb] at hp;rw[show i=k by omega];simp only[Sz.val,Vc] at e2;refine⟨_,_,_,_,zb hv hp,?_,?_⟩
   .rw[hx,e1,e3];simp only[cG.val];congr 3;omega
   .show d+n<=v.n;unfold Vw.n;omega
  .obtain⟨_,⟨_,h1⟩,_,h⟩:=aH.bind' h;cases h;refine⟨⟨_,rfl⟩,λok=>⟨ok.snoc ⟨b,o,.l 1,n,false,false⟩ h1.cM ⟨B,s,q,e,hp,by simp only[Vw.n,Sz.val,Vc];exact hm,λh=>by cases h⟩ (λh=>by cases h),?_⟩⟩;exact⟨_,_,_,_,zb (axZ vs ⟨b,o,.l 1,n,false,false⟩) hp,by rw[hx];rfl,by simp[cG.val,Vw.n,Sz.val]⟩
 case cl f b o n=>
  obtain⟨B,s,q,e,hp,hx,hm⟩:=hx;split at h
  .rename_i i d ow hf
   cases h;obtain⟨k,v,o1,n1,o2,n2,hk,hv,hb,h1,h2,h3,h4,h5,h6⟩:=ZX hf;obtain⟨e1,e2⟩:=ext_eq h1;obtain⟨e3,e4⟩:=ext_eq h2;refine⟨Oy.refl _,λok=>⟨ok,?_⟩⟩;rw[<-hb] at hp;rw[show i=k by omega];simp only[Sz.val,Vc] at e2;refine⟨_,_,_,_,zb hv hp,?_,?_⟩
   .rw[hx];exact eC (λt=>Value.func (.func f) #[] #[.pointer (some ⟨B,t,none⟩)]) (by rw[e1,e3];simp only[cG.val];omega)
   .show d+n<=v.n;unfold Vw.n;omega
  .obtain⟨_,⟨_,h1⟩,_,h⟩:=aH.bind' h;cases h;refine⟨⟨_,rfl⟩,λok=>⟨ok.snoc ⟨b,o,.l 1,n,false,false⟩ h1.cM ⟨B,s,q,e,hp,by simp only[Vw.n,Sz.val,Vc];exact hm,λh=>by cases h⟩ (λh=>by cases h),?_⟩⟩;exact⟨_,_,_,_,zb (axZ vs ⟨b,o,.l 1,n,false,false⟩) hp,by rw[hx];rfl,by simp[cG.val,Vw.n,Sz.val]⟩
 case sl b o len z own=>
  obtain⟨B,s,q,e,hp,hm,qE,hx⟩:=hx;split at h
  .rename_i i d ow hf
   cases h;obtain⟨k,v,o1,n1,o2,n2,hk,hv,hb,h1,h2,h3,h4,h5,h6⟩:=ZX hf;obtain⟨e1,e2⟩:=ext_eq h1;obtain⟨e3,e4⟩:=ext_eq h2;refine⟨Oy.refl _,λok=>⟨ok,?_⟩⟩;rw[<-hb] at hp;rw[show i=k by omega];obtain⟨_,_,_,_,vf,hv1,hv2⟩:=ok.2 k v hv;rw[hp] at vf;cases vf;have hvn:v.n=n2:=e4;refine⟨_,_,_,_,zb hv hp,?_,λho=> ?_,?_⟩
   .show d+len.val*z<=v.n;omega
   .simp only[cL] at ho;rw[h6] at ho;have a1:=qE ho.1;have a2:=hv2 ho.2;show d+len.val*z=v.n;omega
   .refine hx.imp id λ⟨cap,si,hx,hc⟩=>⟨cap,si,?_,λho=> ?_⟩
    .show x=Value.slice (some ⟨B,s+v.o.val+d,none⟩) len.val cap;rw[hx,show s+o.val=s+v.o.val+d by omega]
    .simp only[cL] at ho;have a1:=hc ho.1;rw[h6] at ho;rw[if_pos ho.2];show s+v.o.val+d+cap*z<=e;omega
  .obtain⟨_,⟨_,h1⟩,_,h⟩:=aH.bind' h;cases h;generalize hu:(own&&vs.all λv=> !Nat.beq v.b b|| !v.own)=u
   have hu1:u=true->own=true/\∀v'∈vs,v'.b=b->v'.own=false:=λh=>by
    rw[<-hu] at h;simp only[cL] at h;refine⟨h.1,λv' hv' fB=> ?_⟩;have:=asK.1 h.2 v' hv';rw[fB,Ar] at this;simpa using this
   refine⟨⟨_,rfl⟩,λok=>⟨ok.snoc ⟨b,o,len,z,true,u⟩ h1.cM ⟨B,s,q,e,hp,hm,λho=>qE (hu1 ho).1⟩ (λho=>(hu1 ho).2),?_⟩⟩;refine⟨_,_,_,_,zb (axZ vs ⟨b,o,len,z,true,u⟩) hp,by simp[cG.val,Vw.n,Sz.val],λ_=>by simp[cG.val,Vw.n,Sz.val],?_⟩;refine hx.imp id λ⟨cap,si,hx,hc⟩=>⟨cap,si,by rw[hx];rfl,λho=> ?_⟩
   rw[if_pos ho];have:=hc (hu1 ho).1;show s+o.val+0+cap*z<=e;omega
 all_goals (cases h;exact⟨Oy.refl _,λok=>⟨ok,hx⟩⟩)
omit [aA] in
theorem as2 {α:Type}{R:Pi->α->Value->Prop}(mono:∀{π π':Pi},Ext π π'->∀a x,R π a x->R π' a x){f:α->List Vw->Rd (α×List Vw)}{ff:List α->List Vw->Rd (List α×List Vw)}(hff:∀vs,ff [] vs=.ret ([],vs))(a3l:∀a l vs,ff (a::l) vs=(f a vs).bind λx=>(ff l x.2).bind λy=>.ret (x.1::y.1,y.2))
  {g:Gt}{π:Pi}(hf:∀{a a' vs kt l x},aH (f a vs) g (a',kt) l->R π a x->Loc R π vs a' kt x):∀{as as':List α} {vs kt:List Vw} {l:List Fp} {xs:List Value},aH (ff as vs) g (as',kt) l->bq (R π) as xs->Oy vs kt/\(K0 π vs->K0 π kt/\bq (R (piL π kt)) as' xs)
 | [],as',vs,kt,l,xs,h,hx=>by
  rw[hff] at h;cases h;exact⟨Oy.refl _,λok=>⟨ok,by cases xs with|nil=>trivial|cons=>exact hx.elim⟩⟩
 |a::as,as',vs,kt,l,[],h,hx=>hx.elim
 |a::as,as',vs,kt,l,x::xs,h,⟨hx,hxs⟩=>by
  rw[a3l] at h;obtain⟨p,⟨_,h1⟩,_,h⟩:=aH.bind' h;obtain⟨y,⟨_,h2⟩,_,h⟩:=aH.bind' h;cases h;obtain⟨L1,L2⟩:=hf (a':=p.1) (kt:=p.2) h1 hx;obtain⟨p1,p2⟩:=as2 mono hff a3l hf (as:=as) (as':=y.1) (kt:=y.2) h2 hxs;refine⟨L1.trans p1,λok=> ?_⟩;obtain⟨ok1,r1⟩:=L2 ok;obtain⟨ok2,r2⟩:=p2 ok1;exact⟨ok2,mono p1.ext _ _ r1,r2⟩
theorem agm {g:Gt}{π:Pi}:∀{b b':aj} {vs kt:List Vw} {l:List Fp} {f:Nat->Value},aH (aNf b vs) g (b',kt) l->(∀j,j<aj.size b->(aj.get b j).rel π (f j))->
  Oy vs kt/\(K0 π vs->K0 π kt)/\aj.size b'=aj.size b/\(K0 π vs->∀j,j<aj.size b->(aj.get b' j).rel (piL π kt) (f j))
 | [],b',vs,kt,l,f,h,_=>by
  cases h;exact⟨Oy.refl _,id,rfl,λ_ j hj=>by rw[aj.lH] at hj;omega⟩
 |.c v::r,b',vs,kt,l,f,h,hx=>by
  obtain⟨p,⟨_,h1⟩,_,h⟩:=aH.bind' h;obtain⟨y,⟨_,h2⟩,_,h⟩:=aH.bind' h;cases h;obtain⟨L1,L2⟩:=aE5 (c':=p.1) (kt:=p.2) h1 (hx 0 (by rw[aj.size_cons,Sg.kH];omega))
  obtain⟨p1,p2,p3,p4⟩:=agm (b:=r) (b':=y.1) (kt:=y.2) (f:=λj=>f (j+1)) h2 (λj hj=>by
   have:=hx (j+1) (by rw[aj.size_cons,Sg.kH];omega);rwa [<-aj.kK (l:=r) (j':=j) (by omega) (by omega)] at this)
  refine⟨L1.trans p1,λok=>p2 (L2 ok).1,by rw[aj.size_cons,aj.size_cons,p3];rfl,λok j hj=> ?_⟩;obtain⟨ok1,r1⟩:=L2 ok;cases j with
  |zero=>exact CV.dH p1.ext _ _ r1
  |succ j=>
   rw[<-aj.kK (l:=y.1) (j':=j) (by omega) (by omega)];exact p4 ok1 j (by rw[aj.size_cons,Sg.kH] at hj;omega)
 |.a n cols::r,b',vs,kt,l,f,h,hx=>by
  obtain⟨y,⟨_,h2⟩,_,h⟩:=aH.bind' h;cases h
  obtain⟨p1,p2,p3,p4⟩:=agm (b:=r) (b':=y.1) (kt:=y.2) (f:=λj=>f (j+(Sg.a n cols).size)) h2 (λj hj=>by
   have:=hx (j+(Sg.a n cols).size) (by rw[aj.size_cons];omega);rwa [aj.lq (by omega),Nat.add_sub_cancel] at this)
  refine⟨p1,p2,by rw[aj.size_cons,aj.size_cons,p3],λok j hj=> ?_⟩;rw[aj.size_cons] at hj;by_cases lQ:j<(Sg.a n cols).size
  .have:=hx j (by rw[aj.size_cons];omega);rw[aj.dN lQ,Sg.pN] at this;rw[aj.dN lQ,Sg.pN];obtain⟨v,hv⟩:=aDz cols j;rw[hv] at this ⊢;exact this
  .rw[aj.lq (by omega)];have:=p4 ok (j-(Sg.a n cols).size) (by omega);rwa [Nat.sub_add_cancel (by omega)] at this
theorem aE6 {g:Gt}{π:Pi}{r r':RV}{x:Value}{vs kt:List Vw}{l:List Fp}(h:aH (aTu r vs) g (r',kt) l)(hx:r.rel π x):Loc RV.rel π vs r' kt x:=by
 cases r with
 |c c=>
  obtain⟨p,⟨_,h1⟩,_,h⟩:=aH.bind' h;cases h;exact aE5 (c':=p.1) (kt:=p.2) h1 hx
 |agg cs=>
  obtain⟨p,⟨_,h1⟩,_,h⟩:=aH.bind' h;cases h;obtain⟨arr,rfl,hr⟩:=hx;obtain⟨l1,l2⟩:=jr hr
  obtain⟨p1,p2,p3,p4⟩:=agm (b':=p.1) (kt:=p.2) (f:=λj=>arr.toList.getD j undef) h1 (λj hj=>by
   obtain⟨x,hx,hr⟩:=l2 j hj;simp only[List.getD,hx,LD];exact hr)
  refine⟨p1,λok=>⟨p2 ok,arr,rfl,yH (by rw[l1,p3]) λj hj=> ?_⟩⟩;obtain⟨x,hx,_⟩:=l2 j (by omega);have:=p4 ok j (by omega);simp only[List.getD,hx,LD] at this;exact⟨x,hx,this⟩
theorem azO {g:Gt}{π:Pi}{cs SW:List RV}{xs:List Value}{vs kt:List Vw}{l:List Fp}(h:aH (aEA cs vs) g (SW,kt) l)(hx:bq (RV.rel π) cs xs):Oy vs kt/\(K0 π vs->K0 π kt/\bq (RV.rel (piL π kt)) SW xs):=
 as2 (R:=RV.rel) (λh a x r=>RV.dH h a x r) (f:=aTu) (ff:=aEA) (λ_=>rfl) (λ_ _ _=>rfl) (λh hx=>aE6 h hx) h hx
theorem aRA {g:Gt}{π:Pi}{r r':AV}{x:Value}{vs kt:List Vw}{l:List Fp}(h:aH (aY1 r vs) g (r',kt) l)(hx:r.rel π x):Loc AV.rel π vs r' kt x:=by
 cases r with
 |r c=>
  obtain⟨p,⟨_,h1⟩,_,h⟩:=aH.bind' h;cases h;exact aE6 (r':=p.1) (kt:=p.2) h1 hx
 |tup cs=>
  obtain⟨p,⟨_,h1⟩,_,h⟩:=aH.bind' h;cases h;obtain⟨arr,rfl,hr⟩:=hx;obtain⟨p1,p2⟩:=azO (SW:=p.1) (kt:=p.2) h1 hr;exact⟨p1,λok=>⟨(p2 ok).1,arr,rfl,(p2 ok).2⟩⟩
 |fn f cs=>
  obtain⟨p,⟨_,h1⟩,_,h⟩:=aH.bind' h;cases h;obtain⟨arr,rfl,hr⟩:=hx;obtain⟨p1,p2⟩:=azO (SW:=p.1) (kt:=p.2) h1 hr;exact⟨p1,λok=>⟨(p2 ok).1,arr,rfl,(p2 ok).2⟩⟩
 |We=>cases h;exact⟨Oy.refl _,λok=>⟨ok,trivial⟩⟩
theorem aNK {g:Gt}{π:Pi}{cs SW:List AV}{xs:List Value}{vs kt:List Vw}{l:List Fp}(h:aH (aKL cs vs) g (SW,kt) l)(hx:bq (AV.rel π) cs xs):Oy vs kt/\(K0 π vs->K0 π kt/\bq (AV.rel (piL π kt)) SW xs):=
 as2 (R:=AV.rel) (λh a x r=>AV.dH h a x r) (f:=aY1) (ff:=aKL) (λ_=>rfl) (λ_ _ _=>rfl) (λh hx=>aRA h hx) h hx
structure aE7 (π:Pi)(g:Gt)(w:World)(vs:List Vw)(v:Vw)(k:aj):Prop where
 live:∃q,g.z v.b=some q
 size:aj.size k=v.n
 rel:∀B s q e,π v.b=some (B,s,q,e)->∀j,j<v.n->∃x,cl w B (s+v.o.val+j)=some x/\(aj.get k j).rel (piL π vs) x
theorem aE7.pre {π:Pi}{g:Gt}{w:World}{vs kt:List Vw}{v:Vw}{k:aj}(h:aE7 π g w vs v k)(p:Oy vs kt):aE7 π g w kt v k:=
 ⟨h.live,h.size,λB s q e hb j hj=>let⟨x,hx,hr⟩:=h.rel B s q e hb j hj;⟨x,hx,CV.dH p.ext _ _ hr⟩⟩
omit [aA] in
theorem aE8 {α:Type}{l:List α}{x y:α}{j:Nat}(h:(l++[x])[j]? =some y):l[j]? =some y∨(j=l.length/\y=x):=by
 rcases mO j l.length with hj|hj
 .rw[Uu hj] at h;exact .inl h
 .rw[adQ hj] at h
  have:j-l.length=0:=by
   have:=(lP.1 h).1;simp at this;omega
  rw[this] at h;exact .inr ⟨by omega,by simpa using h.symm⟩
theorem aE9 {π:Pi}{g:Gt}{w:World}(H:sV π g.c g.z w):∀{fuel i:Nat} {vs kt:List Vw} {acc lh:List aj} {l:List Fp},aH (aTv fuel i vs acc) g (lh,kt) l->acc.length=i->i<=vs.length->K0 π vs->(∀(j:Nat) v k,vs[j]? =some v->acc[j]? =some k->aE7 π g w vs v k)->
  Oy vs kt/\K0 π kt/\lh.length=kt.length/\∀(j:Nat) v k,kt[j]? =some v->lh[j]? =some k->aE7 π g w kt v k
 |0,_,_,_,_,_,_,h,_,_,_,_=>by cases h
 |fuel+1,i,vs,kt,acc,lh,l,h,hi,hi2,ok,aNL=>by
  simp only[aTv] at h;split at h
  .rename_i hn
   cases h;have:vs.length<=i:=List.getElem?_eq_none_iff.1 hn;exact⟨Oy.refl _,ok,by omega,aNL⟩
  .rename_i v hv
   have od:i<vs.length:=(lP.1 hv).1;cases h with|vw q k hz hs hk h=>
   obtain⟨x,⟨_,h1⟩,_,h⟩:=aH.bind' h;obtain⟨B,s,e,hb,hle,_,hc⟩:=H.hp _ _ hz;obtain⟨_,_,_,_,fB,hvb,_⟩:=ok.2 i v hv;rw[hb] at fB;cases fB;have hvn:v.cH.val*v.z=v.n:=rfl;rw[hvn] at hs hk;have hk:=hk hvb;generalize hkk:aRl v.sl v.z k=k2 at h1
   have hk2:aj.size k2=aj.size k/\∀j,j<aj.size k->aj.get k2 j=aj.get k j:=by
    rw[<-hkk];unfold aRl;cases v.sl
    .exact⟨rfl,λ_ _=>rfl⟩
    .obtain⟨t1,t2⟩:=ZS v.z k;obtain⟨t3,t4⟩:=axS (asN v.z k);exact⟨t3.trans t1,λj hj=>(t4 j).trans (t2 j hj)⟩
   have cell:∀j,j<v.n->∃y,cl w B (s+v.o.val+j)=some y/\(aj.get k2 j).rel π y:=λj hj=>by
    obtain⟨y,hy,hr⟩:=hc (v.o.val+j) (by omega);rw[<-hk j hj,<-hk2.2 j (by omega)] at hr;exact⟨y,by rw[show s+v.o.val+j=s+(v.o.val+j) by omega];exact hy,hr⟩
   obtain⟨p1,p2,p3,p4⟩:=agm (b':=x.1) (kt:=x.2) (f:=λj=>(cl w B (s+v.o.val+j)).getD undef) h1 (λj hj=>by
    obtain⟨y,hy,hr⟩:=cell j (by omega);rw[hy];exact hr)
   have hx2:=p1.length
   obtain⟨q1,q2,q3,q4⟩:=aE9 H h (by simp[hi]) (by omega) (p2 ok) (λj u k' hu Lt=>by
    rcases aE8 Lt with Lt| ⟨hj,rfl⟩
    .have hj:j<acc.length:=(lP.1 Lt).1
     have hu':vs[j]? =some u:=by
      have:vs[j]? =some (vs[j]'(by omega)):=kT _;rw[this];have:=p1.get this;rw[hu] at this;exact this.symm
     exact(aNL j u k' hu' Lt).pre p1
    .have huv:u=v:=by
      rw[hj,hi] at hu;have:=p1.get hv;rw[hu] at this;exact LG this
     subst huv;refine⟨⟨q,hz⟩,by rw[p3,hk2.1,hs],λB' s' q' e' fB j hj'=> ?_⟩;rw[hb] at fB;cases fB;obtain⟨y,hy,_⟩:=cell j hj';have:=p4 ok j (by omega);rw[hy] at this;exact⟨y,hy,this⟩)
   exact⟨p1.trans q1,q2,q3,q4⟩
end Go.Ab
namespace Go.Ab
variable [aA]
omit [aA] in
theorem Qk (lh:List aj)(j:Nat):hZ (lh.map some) j=(lh[j]?).map aj.size:=by
 simp only[hZ,CA];cases lh[j]? <;>rfl
omit [aA] in
theorem aDB {lh:List aj}{j i:Nat}{k:aj}(h:lh[j]? =some k)(hi:i<k.size):hC (lh.map some) j i=k.get i:=by
 simp[hC,CA,h,hi]
theorem sV.local {π:Pi}{g:Gt}{w:World}(H:sV π g.c g.z w){vs:List Vw}{lh:List aj}(ok:K0 π vs)(hl:lh.length=vs.length)(hv:∀(j:Nat) v k,vs[j]? =some v->lh[j]? =some k->aE7 π g w vs v k):
  sV (piL π vs) (hC (lh.map some)) (hZ (lh.map some)) w:=by
 have get:∀j n,hZ (lh.map some) j=some n->∃v k q B s e,vs[j]? =some v/\lh[j]? =some k/\aj.size k=n/\aE7 π g w vs v k/\g.z v.b=some q/\v.o.val+v.n<=q/\aj.size k=v.n/\π v.b=some (B,s,q,e)/\s+q<=e/\(v.own=true->v.o.val+v.n=q):=λj n hz=>by
  rw[Qk] at hz;cases hk:lh[j]? with
  |none=>rw[hk] at hz;cases hz
  |some k=>
   rw[hk] at hz;have hj:j<vs.length:=by rw[<-hl];exact(lP.1 hk).1
   have hvj:vs[j]? =some (vs[j]'hj):=kT _;have V:=hv j _ k hvj hk;obtain⟨q,hq⟩:=V.live;obtain⟨B,s,e,hb,B7,_⟩:=H.hp _ _ hq;obtain⟨_,_,_,_,fB,hle,how⟩:=ok.2 j _ hvj;rw[hb] at fB;cases fB;exact⟨_,k,q,B,s,e,hvj,rfl,by simpa using hz,V,hq,hle,V.size,hb,B7,how⟩
 refine⟨H.am,λj B s q e hz hp B7=> ?_,λj n hz=> ?_,λj j' B s q e s' q' e' mX hz uJ hp vf i i1 i2 i3 i4=> ?_⟩
 .cases hh:hZ (lh.map some) j with
  |none=>exact absurd hh hz
  |some n=>
   obtain⟨v,k,q0,B1,s1,e1,hvj,hk,hn,V,hq,hle,yZ,hb,a8D,ho⟩:=get j n hh;rw[zb hvj hb] at hp;simp only[iv,rq] at hp;obtain⟨rfl,hs1,_,he1⟩:=hp;rw[<-hs1,<-he1] at B7;refine H.lb v.b _ s1 q0 e1 (by simp[hq]) hb ?_;split at B7<;>omega
 .obtain⟨v,k,q,B,s,e,hvj,hk,hn,V,hq,hle,yZ,hb,B7,ho⟩:=get j n hz;obtain⟨_,_,_,fB,_,k1,k2⟩:=H.hp _ _ hq;rw[hb] at fB;cases fB;have hp:=zb hvj hb;rw[<-yZ,hn] at hp;refine⟨B,s+v.o.val,_,hp,?_,λi i1 i2=> ?_,λi hi=> ?_⟩
  .split
   .rename_i h;have:=ho h;omega
   .omega
  .refine k1 i (by omega) ?_;split at i2<;>omega
  .obtain⟨y,hy,hr⟩:=V.rel B s q e hb i (by omega);refine⟨y,hy,?_⟩;rw[aDB hk (by omega)];exact hr
 .cases hh:hZ (lh.map some) j with
  |none=>exact hz hh
  |some n=>
  cases hh':hZ (lh.map some) j' with
  |none=>exact uJ hh'
  |some n'=>
  obtain⟨v,k,q0,B1,s1,e1,hvj,hk,hn,V,hq,hle,yZ,hb,B7,ho⟩:=get j n hh;obtain⟨v',k',q0',B2,s2,e2,a3m,Lt,hn',V',hq',a8E,a8F,fB,a8G,ho'⟩:=get j' n' hh';rw[zb hvj hb] at hp;rw[zb a3m fB] at vf;simp only[iv,rq] at hp vf;obtain⟨rfl,hs1,_,he1⟩:=hp;obtain⟨rfl,Wk,_,he2⟩:=vf;rw[<-hs1] at i1;rw[<-he1] at i2;rw[<-Wk] at i3;rw[<-he2] at i4;by_cases hbb:v.b=v'.b
  .obtain⟨aZm,qE⟩:=ok.1 j j' v v' mX hvj a3m hbb;rw[hbb] at hb hq;rw[hb] at fB;cases fB;cases h1:v.own<;>cases h2:v'.own<;>simp only[h1,h2,lK,gq,yf] at i2 i4
   .omega
   .have:=ho' h2;omega
   .have:=ho h1;omega
   .rcases qE with h|h
    .rw[h1] at h;cases h
    .rw[h2] at h;cases h
  .refine H.dj v.b v'.b _ s1 q0 e1 s2 q0' e2 hbb (by simp[hq]) (by simp[hq']) hb fB i (by omega) ?_ (by omega) ?_
   .split at i2<;>omega
   .split at i4<;>omega
def piB (π πL:Pi)(n aL m:Nat):Pi:=λb=>if aL<=b/\b<aL+m then πL (n+(b-aL)) else π b
omit [aA] in
theorem Wo {π πL:Pi}{n aL m k:Nat}(h:k<m):piB π πL n aL m (aL+k)=πL (n+k):=by
 unfold piB;rw[if_pos (by omega),show aL+k-aL=k by omega]
omit [aA] in
theorem Wp {π πL:Pi}{n aL m b:Nat}(h:¬(aL<=b/\b<aL+m)):piB π πL n aL m b=π b:=by
 unfold piB;rw[if_neg h]
structure Bck (π πL:Pi)(vs:List Vw)(aL m:Nat):Prop where
 ext:Ext (piL π vs) πL
 dom:∀b,πL b≠none->b<vs.length+m
 fresh:∀b,aL<=b->b<aL+m->π b=none
 live:∀(j:Nat) v,vs[j]? =some v->∃B s q e,π v.b=some (B,s,q,e)/\v.o.val+v.n<=q/\(v.own=true->v.o.val+v.n=q)
omit [aA] in
theorem Bck.yi {π πL:Pi}{vs:List Vw}{aL m:Nat}(K:Bck π πL vs aL m){b:Nat}{p:Nat×Nat×Nat×Nat}(h:π b=some p):piB π πL vs.length aL m b=some p:=by
 rw[Wp,h];intro hc;rw[K.fresh b hc.1 hc.2] at h;cases h
omit [aA] in
theorem Bck.ext' {π πL:Pi}{vs:List Vw}{aL m:Nat}(K:Bck π πL vs aL m):Ext π (piB π πL vs.length aL m):=λ_ _ h=>K.yi h
omit [aA] in
theorem Bck.at {π πL:Pi}{vs:List Vw}{aL m:Nat}(K:Bck π πL vs aL m){j:Nat}{B s q e:Nat}(h:πL j=some (B,s,q,e)):
  (∃v s0 q0 e0,vs[j]? =some v/\π v.b=some (B,s0,q0,e0)/\s=s0+v.o.val/\q=v.n/\(e=if v.own then e0 else s0+v.o.val+v.n)/\v.o.val+v.n<=q0/\(v.own=true->v.o.val+v.n=q0))∨(vs[j]? =none/\vs.length<=j/\j-vs.length<m/\piB π πL vs.length aL m (aL+(j-vs.length))=some (B,s,q,e)):=by
 have hd:=K.dom j (by simp[h]);cases hv:vs[j]? with
 |some v=>
  obtain⟨B0,s0,q0,e0,hp,hle,how⟩:=K.live j v hv;have:=K.ext _ _ (zb hv hp);rw[h] at this;simp only[iv,rq] at this;obtain⟨rfl,h1,h2,h3⟩:=this;exact .inl ⟨v,s0,q0,e0,rfl,hp,h1,h2,h3,hle,how⟩
 |none=>
  have hj:vs.length<=j:=List.getElem?_eq_none_iff.1 hv;refine .inr ⟨rfl,hj,by omega,?_⟩;rw[Wo (by omega),show vs.length+(j-vs.length)=j by omega,h]
omit [aA] in
theorem cG.K1 (a b:cG):(a.plus b).val=a.val+b.val:=by
 cases a<;>cases b<;>simp only[cG.plus,cG.val]<;>first|omega|skip
 rename_i c i z d j y
 cases hz:Nat.beq z y with
 |true=>
  have:=lE hz;subst this;simp only[cG.val,qR];omega
 |false=>simp only[cG.val];omega
theorem Bck.aTH {π πL:Pi}{vs:List Vw}{aL m:Nat}(K:Bck π πL vs aL m)(c:CV)(x:Value)(h:c.rel πL x):(LL vs aL c).rel (piB π πL vs.length aL m) x:=by
 cases c<;>simp only[LL]
 case ptr j d n=>
  obtain⟨B,s,q,e,hp,hx,hm⟩:=h;rcases K.at hp with⟨v,s0,q0,e0,hv,hb,hs,hq,he,hle,how⟩| ⟨hv,hj,hm2,hb⟩
  .rw[hv];refine⟨B,s0,q0,e0,K.yi hb,?_,by rw[cG.K1];omega⟩;rw[hx,cG.K1];congr 3;omega
  .rw[hv];exact⟨B,s,q,e,hb,hx,hm⟩
 case cl f j d n=>
  obtain⟨B,s,q,e,hp,hx,hm⟩:=h;rcases K.at hp with⟨v,s0,q0,e0,hv,hb,hs,hq,he,hle,how⟩| ⟨hv,hj,hm2,hb⟩
  .rw[hv];refine⟨B,s0,q0,e0,K.yi hb,?_,by rw[cG.K1];omega⟩;rw[hx,cG.K1];exact eC (λt=>Value.func (.func f) #[] #[.pointer (some ⟨B,t,none⟩)]) (by omega)
  .rw[hv];exact⟨B,s,q,e,hb,hx,hm⟩
 case sl j d len z own=>
  obtain⟨B,s,q,e,hp,hm,qE,hx⟩:=h;rcases K.at hp with⟨v,s0,q0,e0,hv,hb,hs,hq,he,hle,how⟩| ⟨hv,hj,hm2,hb⟩
  .rw[hv];refine⟨B,s0,q0,e0,K.yi hb,by rw[cG.K1];omega,λho=> ?_,hx.imp id λ⟨cap,si,hx,hc⟩=>⟨cap,si,?_,λho=> ?_⟩⟩
   .simp only[cL] at ho;have a1:=qE ho.1;have a2:=how ho.2;rw[cG.K1];omega
   .rw[hx,cG.K1];congr 3;omega
   .simp only[cL] at ho;have:=hc ho.1;rw[if_pos ho.2] at he;rw[cG.K1];omega
  .rw[hv];exact⟨B,s,q,e,hb,hm,qE,hx⟩
 all_goals exact h
omit [aA] in
theorem aKW (vs:List Vw)(aL:Nat)(x:FV):LL vs aL (.f x)=.f x:=rfl
omit [aA] in
theorem ZY {α β γ:Type}{R:α->γ->Prop}{R':β->γ->Prop}{f:α->β}(hf:∀a c,R a c->R' (f a) c):∀{l:List α} {m:List γ},bq R l m->bq R' (l.map f) m
 | [],[],_=>trivial
 |_::_,_::_,⟨a,b⟩=>⟨hf _ _ a,ZY hf b⟩
 | [],_::_,h=>h.elim
 |_::_,[],h=>h.elim
theorem Bck.aZn {π πL:Pi}{vs:List Vw}{aL m:Nat}(K:Bck π πL vs aL m)(c:RV)(x:Value)(h:c.rel πL x):(aTw vs aL c).rel (piB π πL vs.length aL m) x:=by
 cases c with
 |c c=>exact K.aTH c x h
 |agg cs=>
  obtain⟨a,hx,ha⟩:=h;obtain⟨l1,l2⟩:=jr ha;refine⟨a,hx,yH (by rw[Kf,l1]) λj hj=> ?_⟩;rw[Kf] at hj;obtain⟨x,hx,hr⟩:=l2 j hj;exact⟨x,hx,by rw[axT (aKW vs aL) _ _ hj];exact K.aTH _ _ hr⟩
theorem Bck.a6e {π πL:Pi}{vs:List Vw}{aL m:Nat}(K:Bck π πL vs aL m)(c:AV)(x:Value)(h:c.rel πL x):(aNg vs aL c).rel (piB π πL vs.length aL m) x:=by
 cases c with
 |r r=>exact K.aZn r x h
 |tup cs=>obtain⟨a,hx,ha⟩:=h;exact⟨a,hx,ZY K.aZn ha⟩
 |fn f cs=>obtain⟨a,hx,ha⟩:=h;exact⟨a,hx,ZY K.aZn ha⟩
 |We=>trivial
omit [aA] in
theorem ZZ {all:List Vw}{aL:Nat}:∀{vs:List Vw} {cs:List Ch} {us:List Up},Bl all aL vs cs=some (true,us)->
  (∀(i j:Nat) (v v':Vw),i≠j->vs[i]? =some v->vs[j]? =some v'->v.b=v'.b->(v.o.val+v.n<=v'.o.val∨v'.o.val+v'.n<=v.o.val))->
  vs.length=cs.length/\(∀(j:Nat) v b,vs[j]? =some v->cs[j]? =some (.set b)->aj.size b=v.n)/\(∀u∈us,∃(j:Nat) (v:Vw) (b:aj),vs[j]? =some v/\cs[j]? =some (.set b)/\u=.c v.b v.o (KY (LL all aL) b))/\
  (∀g,(cI us g).z=g.z/\(cI us g).t=g.t)/\
  ∀g (j:Nat) v b i,vs[j]? =some v->cs[j]? =some (.set b)->v.o.val<=i->i<v.o.val+v.n->(cI us g).c v.b i=LL all aL (aj.get b (i-v.o.val))
 | [],[],us,h,_=>by
  simp[Bl] at h;subst h
  exact⟨rfl,λj v b h=>by simp at h,λu h=>by simp at h,λg=>⟨rfl,rfl⟩,λg j v b i h=>by simp at h⟩
 |v0::vs,.mW::cs,us,h,hd=>by
  simp only[Bl] at h;obtain⟨h1,h2,h3,h4,h5⟩:=ZZ h (λi j v v' hij hi hj=>hd (i+1) (j+1) v v' (by omega) (by simpa using hi) (by simpa using hj));refine⟨by simp[h1],λj v b hv hc=> ?_,λu hu=> ?_,h4,λg j v b i hv hc=> ?_⟩
  .cases j with
   |zero=>simp at hc
   |succ j=>exact h2 j v b (by simpa using hv) (by simpa using hc)
  .obtain⟨j,v,b,e1,e2,e3⟩:=h3 u hu;exact⟨j+1,v,b,by simpa using e1,by simpa using e2,e3⟩
  .cases j with
   |zero=>simp at hc
   |succ j=>exact h5 g j v b i (by simpa using hv) (by simpa using hc)
 |v0::vs,.kill::cs,us,h,hd=>by
  simp only[Bl] at h;obtain⟨h1,h2,h3,h4,h5⟩:=ZZ h (λi j v v' hij hi hj=>hd (i+1) (j+1) v v' (by omega) (by simpa using hi) (by simpa using hj));refine⟨by simp[h1],λj v b hv hc=> ?_,λu hu=> ?_,h4,λg j v b i hv hc=> ?_⟩
  .cases j with
   |zero=>simp at hc
   |succ j=>exact h2 j v b (by simpa using hv) (by simpa using hc)
  .obtain⟨j,v,b,e1,e2,e3⟩:=h3 u hu;exact⟨j+1,v,b,by simpa using e1,by simpa using e2,e3⟩
  .cases j with
   |zero=>simp at hc
   |succ j=>exact h5 g j v b i (by simpa using hv) (by simpa using hc)
 |v0::vs,.set b0::cs,us,h,hd=>by
  simp only[Bl] at h;split at h
  .rename_i p hu
   simp only[iv,rq,cL,beq_iff] at h;obtain⟨⟨hg,yZ⟩,rfl⟩:=h;obtain⟨p1,us'⟩:=p;simp only at hg;subst hg;obtain⟨h1,h2,h3,h4,h5⟩:=ZZ hu (λi j v v' hij hi hj=>hd (i+1) (j+1) v v' (by omega) (by simpa using hi) (by simpa using hj));have hlen:aj.size (KY (LL all aL) b0)=v0.n:=by rw[Kf,yZ]
   refine⟨by simp[h1],λj v b hv hc=> ?_,λu hu=> ?_,λg=>⟨(h4 _).1,(h4 _).2⟩,λg j v b i hv hc i1 i2=> ?_⟩
   .cases j with
    |zero=>simp at hv hc;subst hv hc;exact yZ
    |succ j=>exact h2 j v b (by simpa using hv) (by simpa using hc)
   .rcases abN.1 hu with rfl|hu
    .exact⟨0,v0,b0,rfl,rfl,rfl⟩
    .obtain⟨j,v,b,e1,e2,e3⟩:=h3 u hu;exact⟨j+1,v,b,by simpa using e1,by simpa using e2,e3⟩
   .show(cI us' ((Up.c v0.b v0.o (KY (LL all aL) b0)).gS g)).c v.b i=_;cases j with
    |succ j=>exact h5 _ j v b i (by simpa using hv) (by simpa using hc) i1 i2
    |zero=>
     simp at hv hc
     subst hv hc
     have Zq:=rv (us:=us') (g:=(Up.c v0.b v0.o (KY (LL all aL) b0)).gS g) (p:=.c v0.b i) (λu hu ht=>by
      obtain⟨j,v,b,e1,e2,rfl⟩:=h3 u hu;simp only[Up.HZ,Kf,h2 j v b e1 e2] at ht;have:=hd 0 (j+1) v0 v (by omega) rfl (by simpa using e1) ht.1.symm;omega)
     simp only[Gt.at,PV.c.injEq] at Zq;rw[Zq];simp only[Up.gS];rw[if_pos ⟨trivial,i1,by rw[hlen];exact i2⟩,axT (aKW all aL) _ _ (by omega)]
  .cases h
 | [],_::_,us,h,_=>by simp[Bl] at h
 |_::_,[],us,h,_=>by simp[Bl] at h
omit [aA] in
theorem agn:∀{vs:List Vw} {cs:List Ch} (g:Gt),vs.length=cs.length->
  (cI (pT vs cs) g).t=g.t/\(∀b,(∃(j:Nat) (v:Vw),vs[j]? =some v/\cs[j]? =some .kill/\v.b=b)->(cI (pT vs cs) g).z b=none)/\
  (∀b,¬(∃(j:Nat) (v:Vw),vs[j]? =some v/\cs[j]? =some .kill/\v.b=b)->(cI (pT vs cs) g).z b=g.z b/\∀i,(cI (pT vs cs) g).c b i=g.c b i)
 | [],[],g,_=>⟨rfl,λb ⟨j,v,h,_⟩=>by simp at h,λb _=>⟨rfl,λ_=>rfl⟩⟩
 |v0::vs,c::cs,g,hl=>by
  have hl':vs.length=cs.length:=by simpa using hl
  by_cases hc:c=.kill
  .subst hc;show(cI (pT vs cs) ((Up.kill v0.b).gS g)).t=_/\_;obtain⟨h0,h1,h2⟩:=agn (vs:=vs) (cs:=cs) ((Up.kill v0.b).gS g) hl';refine⟨h0,λb hb=> ?_,λb hb=> ?_⟩
   .show(cI (pT vs cs) ((Up.kill v0.b).gS g)).z b=none;by_cases hx:∃(j:Nat) (v:Vw),vs[j]? =some v/\cs[j]? =some .kill/\v.b=b
    .exact h1 b hx
    .rw[(h2 b hx).1];obtain⟨j,v,e1,e2,e3⟩:=hb;cases j with
     |zero=>simp at e1;subst e1;simp[Up.gS,e3]
     |succ j=>exact absurd ⟨j,v,by simpa using e1,by simpa using e2,e3⟩ hx
   .have hx:¬∃(j:Nat) (v:Vw),vs[j]? =some v/\cs[j]? =some .kill/\v.b=b:=λ⟨j,v,e1,e2,e3⟩=>hb ⟨j+1,v,by simpa using e1,by simpa using e2,e3⟩
    have mX:b≠v0.b:=λe=>hb ⟨0,v0,rfl,rfl,e.symm⟩
    obtain⟨k1,k2⟩:=h2 b hx;refine⟨k1.trans (by simp[Up.gS,mX]),λi=>(k2 i).trans (by simp[Up.gS,mX])⟩
  .have e:pT (v0::vs) (c::cs)=pT vs cs:=by cases c<;>first|rfl|exact absurd rfl hc
   rw[e];obtain⟨h0,h1,h2⟩:=agn (vs:=vs) (cs:=cs) g hl';refine⟨h0,λb ⟨j,v,e1,e2,e3⟩=> ?_,λb hb=>h2 b λ⟨j,v,e1,e2,e3⟩=>hb ⟨j+1,v,by simpa using e1,by simpa using e2,e3⟩⟩;cases j with
   |zero=>simp at e2;exact absurd e2 hc
   |succ j=>exact h1 b ⟨j,v,by simpa using e1,by simpa using e2,e3⟩
 | [],_::_,_,h=>by simp at h
 |_::_,[],_,h=>by simp at h
omit [aA] in
theorem ak8 {vs:List Vw}{aL:Nat}:∀{bs:List aj} {j0:Nat} (g:Gt),
  (cI (HX vs aL bs j0) g).t=g.t/\(∀(k:Nat) (b:aj),bs[k]? =some b->(cI (HX vs aL bs j0) g).z (aL+(j0+k))=some (aj.size b)/\∀i,i<aj.size b->(cI (HX vs aL bs j0) g).c (aL+(j0+k)) i=LL vs aL (aj.get b i))/\
  (∀b,¬(aL+j0<=b/\b<aL+j0+bs.length)->(cI (HX vs aL bs j0) g).z b=g.z b/\∀i,(cI (HX vs aL bs j0) g).c b i=g.c b i)/\cH (HX vs aL bs j0)=bs.length
 | [],j0,g=>⟨rfl,λk b h=>by simp at h,λb _=>⟨rfl,λ_=>rfl⟩,rfl⟩
 |b0::bs,j0,g=>by
  obtain⟨h0,h1,h2,h3⟩:=ak8 (vs:=vs) (aL:=aL) (bs:=bs) (j0:=j0+1) ((Up.new (aL+j0) (KY (LL vs aL) b0)).gS g);refine⟨h0,λk b hk=> ?_,λb hb=> ?_,?_⟩
  .show(cI (HX vs aL bs (j0+1)) ((Up.new (aL+j0) (KY (LL vs aL) b0)).gS g)).z _=_/\∀i,i<aj.size b->(cI (HX vs aL bs (j0+1)) ((Up.new (aL+j0) (KY (LL vs aL) b0)).gS g)).c _ i=_;cases k with
   |zero=>
    simp at hk;subst hk
    obtain⟨k1,k2⟩:=h2 (aL+(j0+0)) (by omega);refine⟨k1.trans (by simp[Up.gS,Kf]),λi hi=>(k2 i).trans ?_⟩;simp only[Up.gS,ky,lK,Kf,hi,lK];exact axT (aKW vs aL) _ _ hi
   |succ k=>
    have:=h1 k b (by simpa using hk);rw[show j0+1+k=j0+(k+1) by omega] at this;exact this
  .obtain⟨k1,k2⟩:=h2 b (by simp only[LF] at hb;omega);have mX:b≠aL+j0:=λe=>hb (by simp only[LF];omega)
   exact⟨k1.trans (by simp[Up.gS,mX]),λi=>(k2 i).trans (by simp[Up.gS,mX])⟩
  .show cH (Up.new _ _::HX vs aL bs (j0+1))=_;simp only[cH,List.filter_cons,lK,LF];have:=h3;simp only[cH] at this;omega
end Go.Ab
namespace Go.Ab
variable [aA]
omit [aA] in
theorem FJ (a b:List Up):cH (a++b)=cH a+cH b:=by simp[cH]
omit [aA] in
theorem aZo (dst:Option Tmp)(v:AV):cH (dW dst v)=0:=by cases dst<;>rfl
omit [aA] in
theorem aIV {us:List Up}(h:∀u∈us,∀b k,u≠.new b k):cH us=0:=by
 induction us with
 |nil=>rfl
 |cons u us ih=>
  have h1:=ih λv hv=>h v (by simp[hv])
  have h2:=h u (by simp);cases u with
  |new b k=>exact absurd rfl (h2 b k)
  |_=>simpa[cH] using h1
omit [aA] in
theorem Z0:∀{vs:List Vw} {cs:List Ch} {u:Up},u∈pT vs cs->∃b,u=.kill b
 | [],[],u,h=>by simp[pT] at h
 |v0::vs,c::cs,u,h=>by
  by_cases hc:c=.kill
  .subst hc;rcases abN.1 h with rfl|h
   .exact⟨_,rfl⟩
   .exact Z0 h
  .have e:pT (v0::vs) (c::cs)=pT vs cs:=by cases c<;>first|rfl|exact absurd rfl hc
   rw[e] at h;exact Z0 h
 | [],_::_,u,h=>by simp[pT] at h
 |_::_,[],u,h=>by simp[pT] at h
omit [aA] in
theorem azP:∀{vs:List Vw} {cs:List Ch} {j:Nat} {v:Vw},vs[j]? =some v->cs[j]? =some .kill->Up.kill v.b∈pT vs cs
 |v0::vs,c::cs,0,v,h1,h2=>by
  simp at h1 h2;subst h1 h2;simp[pT]
 |v0::vs,c::cs,j+1,v,h1,h2=>by
  have:=azP (vs:=vs) (cs:=cs) (j:=j) (v:=v) (by simpa using h1) (by simpa using h2);cases c<;>simp[pT,this]
 | [],_,j,v,h,_=>by simp at h
 |_::_,[],j,v,_,h=>by simp at h
omit [aA] in
theorem ago {all:List Vw}{aL:Nat}:∀{vs:List Vw} {cs:List Ch} {g:Bool} {us:List Up},Bl all aL vs cs=some (g,us)->∀{j:Nat} {v:Vw} {b:aj},vs[j]? =some v->cs[j]? =some (.set b)->Up.c v.b v.o (KY (LL all aL) b)∈us
 | [],[],g,us,_,j,v,b,h,_=>by simp at h
 |v0::vs,.mW::cs,g,us,h,j,v,b,h1,h2=>by
  cases j with
  |zero=>simp at h2
  |succ j=>exact ago (vs:=vs) (cs:=cs) h (by simpa using h1) (by simpa using h2)
 |v0::vs,.kill::cs,g,us,h,j,v,b,h1,h2=>by
  cases j with
  |zero=>simp at h2
  |succ j=>exact ago (vs:=vs) (cs:=cs) h (by simpa using h1) (by simpa using h2)
 |v0::vs,.set b0::cs,g,us,h,j,v,b,h1,h2=>by
  simp only[Bl] at h;split at h
  .rename_i p hu
   simp only[iv,rq] at h;obtain⟨_,rfl⟩:=h;cases j with
   |zero=>simp at h1 h2;subst h1 h2;simp
   |succ j=>exact List.mem_cons_of_mem _ (ago (g:=p.1) (us:=p.2) hu (by simpa using h1) (by simpa using h2))
  .cases h
 | [],_::_,_,_,h,_,_,_,_,_=>by simp[Bl] at h
 |_::_,[],_,_,h,_,_,_,_,_=>by simp[Bl] at h
omit [aA] in
theorem aFa {vs:List Vw}{aL:Nat}:∀{bs:List aj} {j0:Nat} {u:Up},u∈HX vs aL bs j0->∃b k,u=.new b k
 | [],_,_,h=>by simp[HX] at h
 |b0::bs,j0,u,h=>by
  rcases abN.1 h with rfl|h
  .exact⟨_,_,rfl⟩
  .exact aFa h
omit [aA] in
theorem cy.isSome {w0 w:World}{S:Nat->Nat->Prop}(h:cy w0 S w){B i:Nat}(hi:(Ab.cl w0 B i).isSome=true):(Ab.cl w B i).isSome=true:=by
 have hB:=abT hi;simp only[Ab.cl,World.cell?] at hi ⊢;cases hh:w0.heap[B]? with
 |none=>rw[hh] at hi;cases hi
 |some x=>
  rw[hh] at hi;cases x with
  |cells c t f=>
   obtain⟨c',e,z,_⟩:=h.row B c t f hh;simp only[e];simp only[Option.isSome_none,yf,gq] at hi ⊢
   have:i<c.size:=by
    rcases mO i c.size with h'|h'
    .exact h'
    .rw[asG h'] at hi;cases hi
   rw[aip (by omega)];rfl
  |_=>cases hi
omit [aA] in
theorem agp:∀{h:List aj} {cs:List Ch} {j:Nat},(∀b,cs[j]? =some (.set b)->j<h.length->(after h cs)[j]? =some (some b))/\(cs[j]? =some .mW->∀b,h[j]? =some b->(after h cs)[j]? =some (some b))
 | [],cs,j=>⟨λb _ h=>by simp at h,λ_ b h=>by simp at h⟩
 |b0::bs,[],j=>⟨λb h=>by simp at h,λh=>by simp at h⟩
 |b0::bs,c::cs,0=>by cases c<;>simp[after]
 |b0::bs,c::cs,j+1=>by
  have:=agp (h:=bs) (cs:=cs) (j:=j);cases c<;>simpa[after] using this
omit [aA] in
theorem abU {r:pP}{h:List aj}{k:Nat}{b:aj}(hk:r.news[k]? =some b):(r.heap h)[h.length+k]? =some (some b):=by
 unfold pP.heap;rw[adQ (by rw[nL];omega),nL,show h.length+k-h.length=k by omega];simp[hk]
omit [aA] in
theorem Eg {r:pP}{h:List aj}{j:Nat}(hj:j<h.length):(r.heap h)[j]? =(after h r.yY)[j]? :=by
 unfold pP.heap;rw[Uu (by rw[nL];omega)]
omit [aA] in
theorem Z1 {l:List (Option aj)}{j:Nat}{b:aj}(h:l[j]? =some (some b)):hZ l j=some (aj.size b):=by simp[hZ,h]
omit [aA] in
theorem agq {l:List (Option aj)}{j i:Nat}{b:aj}(h:l[j]? =some (some b))(hi:i<aj.size b):hC l j i=aj.get b i:=by simp[hC,h,hi]
omit [aA] in
theorem Ve {all:List Vw}{aL:Nat}:∀{vs:List Vw} {cs:List Ch} {g:Bool} {us:List Up},Bl all aL vs cs=some (g,us)->∀u∈us,∀b k,u≠.new b k
 | [],[],g,us,h=>by
  simp only[Bl,iv,rq] at h;obtain⟨_,rfl⟩:=h;intro u hu;simp at hu
 |v0::vs,.mW::cs,g,us,h=>Ve (vs:=vs) (cs:=cs) h
 |v0::vs,.kill::cs,g,us,h=>Ve (vs:=vs) (cs:=cs) h
 |v0::vs,.set b0::cs,g,us,h=>by
  simp only[Bl] at h;split at h
  .rename_i p hu
   simp only[iv,rq] at h;obtain⟨_,rfl⟩:=h;intro u hu' b k e;rcases abN.1 hu' with rfl|hu'
   .cases e
   .exact Ve (g:=p.1) (us:=p.2) hu u hu' b k e
  .cases h
 | [],_::_,_,_,h=>by simp[Bl] at h
 |_::_,[],_,_,h=>by simp[Bl] at h
section
variable {P:Program} {o:Oper} {X:Cx} {D:Nat->Prop} {aL:Nat} {us:List Up} {g:Gt}
theorem aRB {E:Env}(hE:∀f F,E f=some F->Sound P f F){c:Call}{fo:Operand}{f:Nat}{adR:List RV}{args:List AV}{fp l0 l1:List Fp}(ho:o.op=.call c)(hc:c.callee=.value fo)(ha:aH (Ab.uk Ab.EA c.args.toList) g args l0){fv:AV}(hfo:aH (Ab.EA fo) g fv l1)(aZp:∀(π:Pi) (x:Value),fv.rel π x->∃arr:Array Value,x=.func (.func f) #[] arr/\bq (RV.rel π) adR arr.toList)
  (h:aH (aY2 E f (args++adR.map .r) o.dst aL) g us fp):AU P o X D aL us g:=by
 obtain⟨x,⟨_,h1⟩,_,h⟩:=aH.bind' h;obtain⟨y,⟨_,h2⟩,_,h⟩:=aH.bind' h;cases hEf:E f with
 |none=>rw[hEf] at h;cases h
 |some F=>
 rw[hEf] at h;obtain⟨r,⟨_,h3⟩,_,h⟩:=aH.bind' h;obtain⟨⟨gd,aTI⟩,⟨_,h4⟩,_,h⟩:=aH.bind' h;obtain⟨_,⟨_,h5⟩,_,h⟩:=aH.bind' h;cases h;have h5:gd=true:=h5.cM;subst h5;have S0:=hE f F hEf;have a4x:=T.aZl h3;have h4:=h4.eE;obtain⟨lh,vs⟩:=y;simp only at h3 h4
 have aTJ:cH (dW o.dst (aNg vs aL r.val)++(aTI++(pT vs r.yY++HX vs aL r.news 0)))=r.news.length:=by
  rw[FJ,FJ,FJ,aZo,aIV (Ve h4),aIV (λu hu b k e=>by obtain⟨_,rfl⟩:=Z0 hu;cases e),(ak8 (vs:=vs) (aL:=aL) (bs:=r.news) (j0:=0) g).2.2.2];omega
 intro π a w next Q R hk hfr hd hD hn;simp only at hfr hn hD;rw[aTJ] at hfr hn;obtain⟨arr,hfv,a4y⟩:=aZp _ _ (hfo.EA R)
 have lF:bq (AV.rel π) (args++adR.map .r) (c.args.map a.eval++arr).toList:=by
  rw[Array.toList_append];exact(KZ ha R).append (ZY (f:=AV.r) (R':=AV.rel π) (λa c h=>h) a4y)
 obtain⟨a1,a2⟩:=aNK (SW:=x.1) (kt:=x.2) h1 lF;obtain⟨ok0,a4⟩:=a2 (K0.nil π);obtain⟨b1,hok,b3,b4⟩:=aE9 R.hp (lh:=lh) (kt:=vs) h2 rfl (Nat.zero_le _) ok0 (λj v k _ hk=>by simp at hk);obtain⟨c1,c2,c3,c4,c5⟩:=ZZ h4 (λi j v v' hij hi hj hb=>(hok.1 i j v v' hij hi hj hb).1);have a1I:bq (AV.rel (piL π vs)) x.1 (c.args.map a.eval++arr).toList:=a4.imp λv z hr=>AV.dH b1.ext v z hr
 have a6f:=R.hp.local hok b3 b4
 have kr:∀b,piL π vs b≠none->b<lh.length:=λb hb=>by
  rw[b3];unfold piL at hb;cases hv:vs[b]? with
  |none=>rw[hv] at hb;exact absurd rfl hb
  |some v=>exact(lP.1 hv).1
 have a1J:=S0 x.1 lh r a4x w (piL π vs) _ a1I a6f kr
 suffices key:∀(v:Value) (w':World),tQ (piL π vs) w lh r (.returned v) w'->next (a.put o.dst v) w' by
  rcases a1J with⟨S1,S2⟩| ⟨v,S1,S2⟩
  .have oD:(execOp a.eval o).run P w=.ok (.enter f (c.args.map a.eval++arr)) w:=by
    simp[execOp,ho,resolve,hc,hfv,Deferred.ofValue,invoke,S1]
   unfold Oper.wp;rw[oD];refine Calls.mono S2 ?_;intro e w' hp;have vf:=hp;obtain⟨_,v,rfl,_⟩:=vf;exact key v w' hp
  .have oD:(execOp a.eval o).run P w=.ok (.value v) w:=by
    simp[execOp,ho,resolve,hc,hfv,Deferred.ofValue,invoke,S1]
   unfold Oper.wp;rw[oD];exact key v w S2
 rintro v w' ⟨πL,v',hv',auP,aFb,hHL,hFr,a4z,a3n⟩
 cases hv'
 have live:∀(j:Nat) u,vs[j]? =some u->∃q B s e,g.z u.b=some q/\u.o.val+u.n<=q/\π u.b=some (B,s,q,e)/\s+q<=e/\(u.own=true->u.o.val+u.n=q):=λj u hu=>by
  have hj:j<lh.length:=by rw[b3];exact(lP.1 hu).1
  obtain⟨q,hq⟩:=(b4 j u _ hu (kT hj)).live;obtain⟨B,s,e,hb,B7,_⟩:=R.hp.hp _ _ hq;obtain⟨_,_,_,_,fB,hle,how⟩:=hok.2 j u hu;rw[hb] at fB;cases fB;exact⟨q,B,s,e,hq,hle,hb,B7,how⟩
 have K:Bck π πL vs aL r.news.length:=⟨auP,λb hb=>by have:=a4z b hb;omega,hfr,λj u hu=>let⟨q,B,s,e,_,hle,hb,_,how⟩:=live j u hu;⟨B,s,q,e,hb,hle,how⟩⟩
 have aRC:∀B i,DH (piL π vs) lh.length (S3 r.yY) B i->∃(j:Nat) (u:Vw) (q s e:Nat),vs[j]? =some u/\g.z u.b=some q/\π u.b=some (B,s,q,e)/\s+q<=e/\s+u.o.val<=i/\i<(if u.own then e else s+u.o.val+u.n)/\i<e/\(u.own=true->u.o.val+u.n=q)/\u.o.val+u.n<=q/\(r.yY[j]? =some .kill∨∃b,r.yY[j]? =some (.set b)):=by
  rintro B i ⟨j,s1,q1,e1,hj,hD1,hp,i1,i2⟩
  have hu:vs[j]? =some (vs[j]'(by omega)):=kT _;obtain⟨q,B0,s,e,hq,hle,hb,B7,how⟩:=live j _ hu;rw[zb hu hb] at hp;simp only[iv,rq] at hp;obtain⟨rfl,hs1,_,he1⟩:=hp;rw[<-hs1] at i1;rw[<-he1] at i2;refine⟨j,_,q,s,e,hu,hq,hb,B7,i1,i2,?_,how,hle,?_⟩
  .split at i2<;>omega
  .have hcj:r.yY[j]? =some (r.yY[j]'(by omega)):=kT _;rw[hcj];cases S4:r.yY[j]'(by omega) with
   |mW=>exact absurd (by rw[hcj,S4]) hD1
   |set b=>exact .inr ⟨b,rfl⟩
   |kill=>exact .inl rfl
 have a4A:∀(j:Nat) (u:Vw),vs[j]? =some u->(r.yY[j]? =some .kill∨∃b,r.yY[j]? =some (.set b))->u.b<X.k->D u.b:=λj u hu S4=>by
  rcases S4 with S4| ⟨b,S4⟩
  .exact hD (.kill u.b) (by simp[azP hu S4])
  .exact hD (.c u.b u.o (KY (LL vs aL) b)) (by simp[ago h4 hu S4])
 have aTK:∀B i,B<X.w0.heap.size->DH (piL π vs) lh.length (S3 r.yY) B i->DH X.p0 X.k D B i:=λB i hB hft=>by
  obtain⟨j,u,q,s,e,hu,hq,hb,B7,i1,_,i3,_,_,S4⟩:=aRC B i hft;rcases mO u.b X.k with hbk|hbk
  .exact⟨u.b,s,q,e,hbk,a4A j u hu S4 hbk,(R.yi u.b hbk).symm.trans hb,by omega,i3⟩
  .exact R.ft u.b B s q e hbk (by simp[hq]) hb hB i (by omega) i3
 generalize hg1:cI aTI g=g1
 generalize hg2:cI (pT vs r.yY) g1=g2
 generalize hg3:cI (HX vs aL r.news 0) g2=g3
 have G1:=c4 g;rw[hg1] at G1;have G2:=agn (vs:=vs) (cs:=r.yY) g1 c1;rw[hg2] at G2;obtain⟨N0,N1,N2,_⟩:=ak8 (vs:=vs) (aL:=aL) (bs:=r.news) (j0:=0) g2;rw[hg3] at N0 N1 N2
 have yi:∀b n,¬(aL<=b/\b<aL+r.news.length)->g3.z b=some n->g.z b=some n/\(¬∃(j:Nat) (v:Vw),vs[j]? =some v/\r.yY[j]? =some .kill/\v.b=b)/\∀i,g3.c b i=g1.c b i:=λb n hb hz=>by
  obtain⟨n1,n2⟩:=N2 b (by omega);rw[n1] at hz;by_cases hkl:∃(j:Nat) (v:Vw),vs[j]? =some v/\r.yY[j]? =some .kill/\v.b=b
  .rw[G2.2.1 b hkl] at hz;cases hz
  .obtain⟨k1,k2⟩:=G2.2.2 b hkl;rw[k1,G1.1] at hz;exact⟨hz,hkl,λi=>(n2 i).trans (k2 i)⟩
 have new:∀k,k<r.news.length->∃b,r.news[k]? =some b/\g3.z (aL+k)=some (aj.size b)/\(∀i,i<aj.size b->g3.c (aL+k) i=LL vs aL (aj.get b i))/\hZ (r.heap lh) (lh.length+k)=some (aj.size b):=λk Lt=>by
  have hb:r.news[k]? =some (r.news[k]'Lt):=kT _;have:=N1 k _ hb;rw[gP] at this;exact⟨_,hb,this.1,this.2,Z1 (abU hb)⟩
 have idx:∀b,aL<=b/\b<aL+r.news.length->∃k,k<r.news.length/\b=aL+k:=λb hb=>⟨b-aL,by omega,by omega⟩
 have H3:sV (piB π πL vs.length aL r.news.length) g3.c g3.z w':=by
  refine⟨hHL.am,λb B s q e hz hp B7=> ?_,λb n hz=> ?_,?_⟩
  .by_cases hb:aL<=b/\b<aL+r.news.length
   .obtain⟨k,Lt,rfl⟩:=idx b hb;obtain⟨bX,ZT,z1,z2,z3⟩:=new k Lt;rw[Wo Lt,<-b3] at hp;exact hHL.lb _ B s q e (by rw[z3];simp) hp B7
   .cases hh:g3.z b with
    |none=>exact absurd hh hz
    |some n=>
     obtain⟨NS,hkl,hc3⟩:=yi b n hb hh;obtain⟨B1,s1,e1,H0,_⟩:=R.hp.hp b n NS;have e2:=K.yi H0;rw[hp] at e2;cases e2;exact R.hp.lb b B s q e (by rw[NS];simp) H0 B7
  .by_cases hb:aL<=b/\b<aL+r.news.length
   .obtain⟨k,Lt,rfl⟩:=idx b hb;obtain⟨bX,ZT,z1,z2,z3⟩:=new k Lt;rw[z1] at hz;cases hz;obtain⟨B,s,e,hp,hle,k1,k2⟩:=hHL.hp _ _ z3;refine⟨B,s,e,by rw[Wo Lt,<-b3];exact hp,hle,k1,λj hj=> ?_⟩;obtain⟨x,hx,hr⟩:=k2 j hj;rw[agq (abU ZT) hj] at hr;exact⟨x,hx,by rw[z2 j hj];exact K.aTH _ _ hr⟩
   .obtain⟨NS,hkl,hc3⟩:=yi b n hb hz;obtain⟨B,s,e,hp,hle,k1,k2⟩:=R.hp.hp b n NS;refine⟨B,s,e,K.yi hp,hle,λi i1 i2=> ?_,λj hj=> ?_⟩
    .have:=k1 i i1 i2;exact⟨hFr.isSome this.1,by rw[hFr.fz (abT this.1)];exact this.2⟩
    .rw[hc3];by_cases aZq:∃(jv:Nat) (u:Vw) (bX:aj),vs[jv]? =some u/\r.yY[jv]? =some (.set bX)/\u.b=b/\u.o.val<=j/\j<u.o.val+u.n
     .obtain⟨jv,u,bX,hu,S4,rfl,j1,j2⟩:=aZq;have e1:=c5 g jv u bX j hu S4 j1 j2;rw[hg1] at e1;rw[e1];have yZ:=c2 jv u bX hu S4;have hjv:jv<lh.length:=by rw[b3];exact(lP.1 hu).1
      have ak5:(r.heap lh)[jv]? =some (some bX):=by rw[Eg hjv];exact agp.1 bX S4 hjv
      obtain⟨B1,s1,e1',H0,a6g,_,m2⟩:=hHL.hp jv _ (Z1 ak5);have:=auP _ _ (zb hu hp);rw[H0] at this;simp only[iv,rq] at this;obtain⟨rfl,rfl,_,_⟩:=this;obtain⟨x,hx,hr⟩:=m2 (j-u.o.val) (by omega);rw[agq ak5 (by omega)] at hr;exact⟨x,by rw[show s+j=s+u.o.val+(j-u.o.val) by omega];exact hx,K.aTH _ _ hr⟩
     .obtain⟨x,hx,hr⟩:=k2 j hj
      have Zq:=rv (us:=aTI) (g:=g) (p:=.c b j) (λu hu ht=>by
       obtain⟨jv,v',bX,e1,e2,rfl⟩:=c3 u hu;simp only[Up.HZ,Kf,c2 jv v' bX e1 e2] at ht;exact aZq ⟨jv,v',bX,e1,e2,ht.1,ht.2.1,ht.2.2⟩)
      simp only[Gt.at,PV.c.injEq,hg1] at Zq;rw[Zq];refine⟨x,?_,CV.dH K.ext' _ _ hr⟩;rw[hFr.cl (abT (by rw[hx];rfl)),hx];intro hft;obtain⟨jv,u,q,s0,e0,hu,hq,Rg,B7,i1,i2,i3,how,a6h,S4⟩:=aRC _ _ hft;by_cases hbb:u.b=b
      .subst hbb;rw[hp] at Rg;cases Rg;rw[NS] at hq;cases hq;rcases S4 with S4| ⟨bX,S4⟩
       .exact hkl ⟨jv,u,hu,S4,rfl⟩
       .refine aZq ⟨jv,u,bX,hu,S4,rfl,by omega,?_⟩;cases a3o:u.own
        .simp only[a3o,yf,gq] at i2;omega
        .have:=how a3o;omega
      .exact R.hp.dj u.b b B s0 _ e0 s _ e hbb (by simp[hq]) (by simp[NS]) Rg hp (s+j) (by omega) i3 (by omega) (by omega)
  ·
   have no:∀k b' B s q e s' q' e',k<r.news.length->¬(aL<=b'/\b'<aL+r.news.length)->g3.z b'≠none->πL (vs.length+k)=some (B,s,q,e)->π b'=some (B,s',q',e')->∀i,s<=i->i<e->s'<=i->i<e'->False:=by
    intro k b' B s qq e s' q' e' Lt fB uJ hp vf i i1 i2 i3 i4;cases hzz:g3.z b' with
    |none=>exact uJ hzz
    |some n'=>
    obtain⟨NS,hkl,_⟩:=yi b' n' fB hzz;obtain⟨_,_,_,hp0,_,k1,_⟩:=R.hp.hp b' n' NS;rw[vf] at hp0;cases hp0;have hB:=abT (k1 i i3 i4).1;obtain⟨jv,u,q,s0,e0,hu,hq,Rg,B7,m1,m2,m3,how,a6h,S4⟩:=aRC _ _ (a3n (vs.length+k) B s qq e (by omega) hp hB i i1 i2);by_cases hbb:u.b=b'
    .subst hbb;rcases S4 with S4| ⟨bX,S4⟩
     .exact hkl ⟨jv,u,hu,S4,rfl⟩
     .have hjv:jv<lh.length:=by rw[b3];exact(lP.1 hu).1
      have ak5:(r.heap lh)[jv]? =some (some bX):=by rw[Eg hjv];exact agp.1 bX S4 hjv
      obtain⟨_,_,_,_,z3⟩:=new k Lt;rw[b3] at z3;exact hHL.dj (vs.length+k) jv B s qq e _ _ _ (by omega) (by simp[z3]) (by simp[Z1 ak5]) hp (auP _ _ (zb hu Rg)) i i1 i2 m1 m2
    .exact R.hp.dj u.b b' B s0 _ e0 s' _ e' hbb (by simp[hq]) (by simp[NS]) Rg vf i (by omega) m3 i3 i4
   intro b b' B s qq e s' q' e' mX hz uJ hp vf i i1 i2 i3 i4;by_cases hb:aL<=b/\b<aL+r.news.length
   .obtain⟨k,Lt,rfl⟩:=idx b hb;rw[Wo Lt] at hp;by_cases fB:aL<=b'/\b'<aL+r.news.length
    .obtain⟨k',aNM,rfl⟩:=idx b' fB;rw[Wo aNM] at vf;obtain⟨_,_,_,_,z3⟩:=new k Lt;obtain⟨_,_,_,_,z3'⟩:=new k' aNM;rw[b3] at z3 z3';exact hHL.dj (vs.length+k) (vs.length+k') B s qq e s' q' e' (by omega) (by simp[z3]) (by simp[z3']) hp vf i i1 i2 i3 i4
    .rw[Wp fB] at vf;exact no k b' B s qq e s' q' e' Lt fB uJ hp vf i i1 i2 i3 i4
   .rw[Wp hb] at hp;by_cases fB:aL<=b'/\b'<aL+r.news.length
    .obtain⟨k',aNM,rfl⟩:=idx b' fB;rw[Wo aNM] at vf;exact no k' b B s' q' e' s qq e aNM hb hz vf hp i i3 i4 i1 i2
    .rw[Wp fB] at vf;cases hzz:g3.z b with
     |none=>exact hz hzz
     |some n=>
     cases a3p:g3.z b' with
     |none=>exact uJ a3p
     |some n'=>
     exact R.hp.dj b b' B s qq e s' q' e' mX (by simp[(yi b n hb hzz).1]) (by simp[(yi b' n' fB a3p).1]) hp vf i i1 i2 i3 i4
 have R3:Rel X D (piB π πL vs.length aL r.news.length) g3 a w':=by
  refine⟨λi=> ?_,R.nt,R.df,H3,λb hb=> ?_,λb B s qq e hkb hz hp hB i i1 i2=> ?_,R.fr.trans hFr aTK⟩
  .rw[N0,G2.1,G1.2];exact AV.dH K.ext' _ _ (R.tm i)
  .rw[Wp (by omega)];exact R.yi b hb
  .by_cases hb:aL<=b/\b<aL+r.news.length
   .obtain⟨k,Lt,rfl⟩:=idx b hb;rw[Wo Lt] at hp;exact aTK B i hB (a3n (vs.length+k) B s qq e (by omega) hp (aEs hB R.fr.size) i i1 i2)
   .rw[Wp hb] at hp;cases hzz:g3.z b with
    |none=>exact absurd hzz hz
    |some n=>exact R.ft b B s qq e hkb (by simp[(yi b n hb hzz).1]) hp hB i i1 i2
 refine hn _ _ (piB π πL vs.length aL r.news.length) K.ext' (λb hb=> ?_) ?_
 .by_cases fB:aL<=b/\b<aL+r.news.length
  .exact .inr fB
  .rw[Wp fB] at hb;exact .inl hb
 .have e3:cI (dW o.dst (aNg vs aL r.val)++(aTI++(pT vs r.yY++HX vs aL r.news 0))) g=cI (dW o.dst (aNg vs aL r.val)) g3:=by
   rw[LV _ _ _ _ (λu hu i x e=>by
    rcases List.mem_append.1 hu with hu|hu
    .obtain⟨_,_,_,_,_,rfl⟩:=c3 u hu;cases e
    .rcases List.mem_append.1 hu with hu|hu
     .obtain⟨_,rfl⟩:=Z0 hu;cases e
     .obtain⟨_,_,rfl⟩:=aFa hu;cases e)]
   rw[Qj,Qj,hg1,hg2,hg3]
  rw[e3];exact R3.dst hd (K.a6e _ _ aFb)
end
end Go.Ab
