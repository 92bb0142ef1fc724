/-
  Parts of the proof: AbP AbQ AbB AbC AbD AbE AbF
-/
import Derived.Test.YtldgljclcgaibaaGreatZAB
import Derived.Laws.StructEq
import Derived.Laws.Tables
import Derived.Laws.Append
import Derived.Laws.AppendOwn
open Nat renaming ble→wd
set_option linter.all false
namespace Go.Ab
variable [ax]
section
variable {P:Program} {o:Oper} {X:Cx} {D:Nat->Prop} {aI:Nat} {us:List Up} {g:Gt}
omit [ax] in
theorem PH (us vs:List Up)(g:Gt):cE (us++vs) g=cE vs (cE us g):=by simp[cE]
theorem aMN {t:TypeId}{x y:Operand}{fp:List Fp}(ho:o.op=.store t x y)
  (h:aH ((aMs x).bind λp=>(aMr y).bind λv=>(Ab.ej (iO P t)).bind λn=>(Ab.cI (Nat.beq (af.size v.bO) n&&wd n p.2.2)).bind λ_=>.sz p.1<| .ret (BD (iX P t v.bO aI).2 aI++(dV o.dst udf++[.c p.1 p.2.1 (iX P t v.bO aI).1]))) g us fp):Ad P o X D aI us g:=by
 obtain⟨p,⟨_,h1⟩,_,h⟩:=aH.bind' h;obtain⟨v,⟨_,h2⟩,_,h⟩:=aH.bind' h;obtain⟨n,⟨_,h3⟩,_,h⟩:=aH.bind' h;obtain⟨_,⟨_,h4⟩,_,h⟩:=aH.bind' h;cases h with|sz q hz h=>
 cases h;have h4:=h4.cI;simp only[cy,beq_iff,fA] at h4;obtain⟨h4,h5⟩:=h4;obtain⟨n1,n2,n3⟩:=aue P t v.bO aI;generalize (iX P t v.bO aI).1=k at n1 n2 n3
 generalize (iX P t v.bO aI).2=es at n1 n2 n3
 intro π a w next Q R hk hf hd hD hn;obtain⟨B,s,q',e,hb,ha,hm⟩:=h1.aMs R;have hc:=RV.NT (h2.aMr R);have hl:=(jm hc).1;obtain⟨B',s',e',fw,hle,k1,k2⟩:=R.hp.hp _ _ hz;rw[hb] at fw;cases fw
 have hcn:cB (BD es aI++(dV o.dst udf++[.c p.1 p.2.1 k]))=es.length:=by
  rw[aHM,asj];unfold dV cB;cases o.dst<;>rfl
 rw[hcn] at hf hn;obtain⟨π1,e1,e2,e3,R1⟩:=R.aDQ n2 hk hf;have hc1:=n3 π1 e3 _ (hc.imp (CV.dK e1))
 have hz1:(cE (BD es aI) g).z p.1=some q:=by
  have key:∀(es:List af) (aI:Nat) (g:Gt),g.z p.1=some q->(∀b,aI<=b->b<aI+es.length->b≠p.1)->(cE (BD es aI) g).z p.1=some q:=by
   intro es;induction es with
   |nil=>intro aI g h _;exact h
   |cons x es ih=>
    intro aI g h oe;refine ih (aI+1) _ ?_ (λb h1 h2=>oe b (by omega) (by simp only[KZ];omega));have:=oe aI (eO _) (by simp);simp only[Up.hI];rw[if_neg (by omega)];exact h
  refine key es aI g hz λb h1 h2 hbp=> ?_;have:=hf b h1 h2;rw[hbp,hb] at this;cases this
 have R2:=R1.set hz1 (e1 _ _ hb) (o:=p.2.1) (vs:=k) (by rw[n1];omega) hc1 (hD (.c p.1 p.2.1 k) (by simp));have R3:=R2.dst hd (asi π1);refine aYX (w':=w.setCells B (s+p.2.1.val) (a.eval y).cells.toList) ?_ (hn _ _ π1 e1 e2 ?_)
 .have hst:=run_storeCells_cells (P:=P) B (s+p.2.1.val) (a.eval y).cells.toList 0 w
   (λj hj=>(k1 (s+p.2.1.val+0+j) (by omega) (by omega)).1) (λj hj=>(k1 (s+p.2.1.val+0+j) (by omega) (by omega)).2)
   (λx hx=>by
    obtain⟨i,hi⟩:=aw4.1 hx;obtain⟨c,_,hr⟩:=hc.get' hi;exact CV.Qy hr)
  have yb:(a.eval y).cells.size=n:=by rw[<-Vi];omega
  simp[execOp,ho,Instr.storeAt,ha,Instr.sureAddr,storeVar,run_sizeOf h3.ej,yb,hst]
 .have e1:cE (BD es aI++(dV o.dst udf++[.c p.1 p.2.1 k])) g=cE (dV o.dst udf) ((Up.c p.1 p.2.1 k).hI (cE (BD es aI) g)):=by
   rw[aDP];cases o.dst<;>rfl
  rw[e1];exact R3
theorem aDS {x:Operand}{fp:List Fp}(ho:o.op=.nilCheck x)
  (h:aH ((Gi x).bind λ|.ptr b q n=>.ret (dV o.dst (.r (.c (.ptr b q n))))|.fp l=>.ret (dV o.dst (.r (.c (.fp l))))|_=>.fail) g us fp):Ad P o X D aI us g:=by
 obtain⟨v,⟨_,h1⟩,_,h⟩:=aH.bind' h;split at h
 .rename_i b q n
  cases h;refine iH λπ a w R=> ?_;obtain⟨B,s,q',e,hb,ha,hm⟩:=h1.Gi R;refine⟨_,?_,B,s,q',e,hb,rfl,hm⟩;simp[execOp,ho,ha]
 .cases h;refine iH λπ a w R=> ?_;obtain⟨B,s,ha,hc⟩:=h1.Gi R;refine⟨_,?_,B,s,rfl,hc⟩;simp[execOp,ho,ha]
 .cases h
theorem aST {op:BinOp}{k:IntKind}{x y:Int}{v:FV}{fp:List Fp}(hs:op≠.shl/\op≠.shr)(h:aH (aWG op k x y) g v fp)(t:TypeId)(w:World):
  ∃z,(binOp op t (.int k x) (.int k y)).run P w=.ok z w/\v.rel z:=by
 unfold aWG at h;cases op<;>simp only[] at h
 case shl=>exact absurd rfl hs.1
 case shr=>exact absurd rfl hs.2
 case quo=>
  obtain⟨_,⟨_,h1⟩,_,h⟩:=aH.bind' h;cases h;have h1:¬y=0:=by simpa using h1.cI
  exact⟨_,by simp[binOp,Op.intDiv,h1],rfl⟩
 case rem=>
  obtain⟨_,⟨_,h1⟩,_,h⟩:=aH.bind' h;cases h;have h1:¬y=0:=by simpa using h1.cI
  exact⟨_,by simp[binOp,Op.intDiv,h1],rfl⟩
 case and=>obtain⟨n,⟨_,h1⟩,_,h⟩:=aH.bind' h;cases h;have h1:=h1.ej;simp only[asd,jY] at h1;subst h1;exact⟨_,by simp[binOp,Op.intBits],rfl⟩
 case or=>obtain⟨n,⟨_,h1⟩,_,h⟩:=aH.bind' h;cases h;have h1:=h1.ej;simp only[asd,jY] at h1;subst h1;exact⟨_,by simp[binOp,Op.intBits],rfl⟩
 case xor=>obtain⟨n,⟨_,h1⟩,_,h⟩:=aH.bind' h;cases h;have h1:=h1.ej;simp only[asd,jY] at h1;subst h1;exact⟨_,by simp[binOp,Op.intBits],rfl⟩
 case andNot=>obtain⟨n,⟨_,h1⟩,_,h⟩:=aH.bind' h;cases h;have h1:=h1.ej;simp only[asd,jY] at h1;subst h1;exact⟨_,by simp[binOp,Op.intBits],rfl⟩
 all_goals (cases h;exact⟨_,by simp[binOp,Op.intArith,Op.intCmp],rfl⟩)
theorem ay8 {op:BinOp}{k k':IntKind}{x y:Int}{v:FV}{fp:List Fp}(h:aH (aR3 op k x y) g v fp)(t:TypeId)(w:World):
  ∃z,(binOp op t (.int k x) (.int k' y)).run P w=.ok z w/\v.rel z:=by
 obtain⟨_,⟨_,h1⟩,_,h⟩:=aH.bind' h;have h1:¬y<0:=by simpa using h1.cI
 cases op<;>simp only[] at h
 case shl=>cases h;exact⟨_,by simp only[binOp,Op.shift,h1,gA];exact Sem.run_pure ..,rfl⟩
 case shr=>cases h;exact⟨_,by simp only[binOp,Op.shift,h1,gA];exact Sem.run_pure ..,rfl⟩
 all_goals cases h
omit [ax] in
theorem afv (op:BinOp)(t:TypeId)(x y:Operand)(k k':IntKind)(m n:Int)(w:World):(eqGuard op t x y (.int k m) (.int k' n)).run P w=.ok () w:=by
 cases op<;>simp[eqGuard]
omit [ax] in
theorem aF9 (op:BinOp)(t:TypeId)(x y:Operand)(m n:Bool)(w:World):(eqGuard op t x y (.bool m) (.bool n)).run P w=.ok () w:=by
 cases op<;>simp[eqGuard]
omit [ax] in
theorem afw (op:BinOp)(t:TypeId)(x y:Operand)(m n:Option Addr)(w:World):(eqGuard op t x y (.pointer m) (.pointer n)).run P w=.ok () w:=by
 cases op<;>simp[eqGuard]
omit [ax] in
theorem auf {t:TypeId}{x y:Value}{r:Bool}{w:World}(hi:(∀k n,x≠.int k n))(hs:∀s,x≠.string s)(hf:∀k n,x≠.float k n)(hc:∀k n m,x≠.complex k n m)(h:(Op.equal t x y).run P w=.ok r w):(binOp .eql t x y).run P w=.ok (.bool r) w/\(binOp .neq t x y).run P w=.ok (.bool (!r)) w:=by
 cases x<;>first
  |exact absurd rfl (hi _ _)
  |exact absurd rfl (hs _)
  |exact absurd rfl (hf _ _)
  |exact absurd rfl (hc _ _ _)
  |(simp only[binOp];simp[h])
theorem aSU {op:BinOp}{t:TypeId}{x y:RV}{v:RV}{fp:List Fp}(h:aH (aWJ P op t x y) g v fp)(heq:∀r l,aH (eqV P t x y) g r l->∀π a b w,x.rel π a->y.rel π b->(∀(op:BinOp) (p q:Operand),(eqGuard op t p q a b).run P w=.ok () w)/\(binOp .eql t a b).run P w=.ok (.bool r) w/\(binOp .neq t a b).run P w=.ok (.bool (!r)) w)
  {π:Pi}{a b:Value}(hx:x.rel π a)(hy:y.rel π b)(p q:Operand)(w:World):
  ∃z,(do eqGuard op t p q a b;binOp op t a b:Sem Value).run P w=.ok z w/\v.rel π z:=by
 unfold aWJ at h;split at h
 .rename_i k m k' n
  have ha:a=.int k m:=hx;have hb:b=.int k' n:=hy;subst ha hb;split at h
  .obtain⟨r,⟨_,h1⟩,_,h⟩:=aH.bind' h;cases h;obtain⟨z,hz,hr⟩:=ay8 (P:=P) (k':=k') h1 t w;exact⟨z,by simp[afv,hz],hr⟩
  .obtain⟨r,⟨_,h1⟩,_,h⟩:=aH.bind' h;cases h;obtain⟨z,hz,hr⟩:=ay8 (P:=P) (k':=k') h1 t w;exact⟨z,by simp[afv,hz],hr⟩
  .rename_i n1 n2
   split at h
   .rename_i hk
    subst hk;obtain⟨r,⟨_,h1⟩,_,h⟩:=aH.bind' h;cases h;obtain⟨z,hz,hr⟩:=aST (P:=P) ⟨λe=>n1 e,λe=>n2 e⟩ h1 t w;exact⟨z,by simp[afv,hz],hr⟩
   .cases h
 .split at h
  .obtain⟨r,⟨l1,h1⟩,_,h⟩:=aH.bind' h;cases h;obtain⟨e1,e2,_⟩:=heq r _ h1 π a b w hx hy;exact⟨.bool r,by simp[e1,e2],rfl⟩
  .obtain⟨r,⟨l1,h1⟩,_,h⟩:=aH.bind' h;cases h;obtain⟨e1,_,e2⟩:=heq r _ h1 π a b w hx hy;exact⟨.bool (!r),by simp[e1,e2],rfl⟩
  .cases h
theorem aQy {op:UnOp}{t:TypeId}{x:Operand}{fp:List Fp}(ho:o.op=.unOp op t x)
  (h:aH ((vX x).bind λa=>(unV op a).bind λv=>.ret (dV o.dst (.r v))) g us fp):Ad P o X D aI us g:=by
 obtain⟨r,⟨_,h1⟩,_,h⟩:=aH.bind' h;obtain⟨v,⟨_,h2⟩,_,h⟩:=aH.bind' h;cases h;refine iH λπ a w R=> ?_;have ha:=h1.vX R;unfold unV at h2;split at h2
 .have ha:a.eval x=_:=ha;cases h2;exact⟨_,by simp[execOp,ho,ha,Op.unary,Op.intArith],rfl⟩
 .have ha:a.eval x=_:=ha;obtain⟨n,⟨_,h3⟩,_,h2⟩:=aH.bind' h2;cases h2;have h3:=h3.ej;simp only[asd,jY] at h3;subst h3;exact⟨_,by simp[execOp,ho,ha,Op.unary,Op.intBits],rfl⟩
 .have ha:a.eval x=_:=ha;cases h2;exact⟨_,by simp[execOp,ho,ha,Op.unary],rfl⟩
 .cases h2
theorem aGa {s d:TypeId}{x:Operand}{fp:List Fp}(ho:o.op=.convert s d x)
  (h:aH ((vX x).bind λa=>(aQm P s d a).bind λv=>.ret (dV o.dst (.r v))) g us fp):Ad P o X D aI us g:=by
 obtain⟨r,⟨_,h1⟩,_,h⟩:=aH.bind' h;obtain⟨v,⟨_,h2⟩,_,h⟩:=aH.bind' h;cases h;refine iH λπ a w R=> ?_;have ha:=h1.vX R;unfold aQm at h2;split at h2
 .rename_i d1 k k' n hs hd
  have ha:a.eval x=_:=ha;cases h2;exact⟨_,by simp[execOp,ho,ha,convert,run_underlying hs,run_underlying hd,Conv.intToInt],rfl⟩
 .cases h2
theorem aDT {t:TypeId}{x:Operand}{fp:List Fp}(ho:o.op=.sliceToArrayPointer t x)
  (h:aH ((Gi x).bind λc=>match P.underlying t,c with
   |some (.array n _),.sl b q len z _=>(Ab.cI (wd 1 n&&wd n len.val)).bind λ_=>(Rd.ret (CV.ptr b q (n*z))).bind λv=>.ret (dV o.dst (.r (.c v)))
   |_,_=>.fail) g us fp):Ad P o X D aI us g:=by
 obtain⟨r,⟨_,h1⟩,_,h⟩:=aH.bind' h;split at h
 .rename_i n e b q len z own hu
  obtain⟨_,⟨_,h2⟩,_,h⟩:=aH.bind' h;cases h;have h2:=h2.cI;simp only[cy,Nat.ble_eq] at h2;refine iH λπ a w R=> ?_;obtain⟨B,s,q',e,hb,hm,_,⟨h0,_⟩| ⟨cap,rp,ha,_⟩⟩:=h1.Gi R
  .omega
  .exact⟨_,by simp[execOp,ho,ha,Instr.arrayAt,run_underlying hu];intro nR;omega,B,s,q',e,hb,rfl,by
    have:=vV z h2.2;omega⟩
 .cases h
omit [ax] in
theorem aor {α β γ:Type}{R:α->γ->Prop}{f:β->γ}:∀{l:List α} {m:List β},bj (λa b=>R a (f b)) l m->bj R l (m.map f)
 | [],[],_=>trivial
 |_::_,_::_,⟨a,b⟩=>⟨a,aor b⟩
 | [],_::_,h=>h.elim
 |_::_,[],h=>h.elim
theorem aDU {f:FuncId}{fs ac2:Array Operand}{fp:List Fp}(ho:o.op=.makeFunc (.func f) fs ac2)
  (h:aH (match fs.toList with
   | []=>(Ab.tG Ab.vX ac2.toList).bind λl=>.ret (dV o.dst (.fn f l))
   |_=>.fail) g us fp):Ad P o X D aI us g:=by
 split at h
 .rename_i hfs
  obtain⟨r,⟨_,h1⟩,_,h⟩:=aH.bind' h;cases h;refine iH λπ a w R=>⟨.func (.func f) #[] (ac2.map a.eval),?_,_,rfl,?_⟩
  .have:fs=#[]:=by
    rw[<-akp];exact hfs
   simp[execOp,ho,this,Instr.makeFunc]
  .have:=aH.tG (ρ:=λv x=>v.rel π (a.eval x)) (λx v l hx=>aH.vX hx R) h1;rw[Array.toList_map];exact aor this
 .cases h
theorem aMO {t:TypeId}{x:Operand}{i:Nat}{fp:List Fp}(ho:o.op=.field t x i)
  (h:aH ((vX x).bind λ|.agg cs=>(Ab.ej (afg P t i)).bind λf=>(NP P f.type cs f.offset).bind λv=>.ret (dV o.dst (.r v))|_=>.fail) g us fp):Ad P o X D aI us g:=by
 obtain⟨r,⟨_,h1⟩,_,h⟩:=aH.bind' h;split at h
 .rename_i cs
  obtain⟨f,⟨_,h2⟩,_,h⟩:=aH.bind' h;obtain⟨v,⟨_,h3⟩,_,h⟩:=aH.bind' h;cases h;refine iH λπ a w R=> ?_;obtain⟨arr,ha,hx⟩:=h1.vX R;obtain⟨y,hy,hr⟩:=h3.NP hx w;refine⟨y,?_,hr⟩;have h2:=h2.ej;unfold afg at h2;split at h2
  .rename_i fs hu
   simp[execOp,ho,Instr.field,run_underlying hu,h2,ha,asAgg,hy]
  .cases h2
 .cases h
omit [ax] in
theorem aH.apG {i:Int}:∀{n j:Nat} {l:List Fp},aH (apG i n) g j l->0<=i->i<(n:Int)+1->j=i.toNat
 |0,j,l,h,h1,h2=>by cases h;omega
 |n+1,j,l,h,h1,h2=>by
  cases h with|test h=>
  cases hx:i==((n+1:Nat):Int) with
  |true=>
   rw[hx] at h;cases h;have:=eq_of_beq hx;omega
  |false=>
   rw[hx] at h;have:=akr hx;exact aH.apG h h1 (by omega)
omit [ax] in
theorem cA.K6 (o:cA)(d:Nat):(o.add d).val=o.val+d:=by
 cases o<;>simp only[cA.add,cA.val]<;>omega
omit [ax] in
theorem cA.aMP (o:cA)(j z n:Nat):(o.idx j z n).val=o.val+j*z:=by
 cases o with
 |k c=>rfl
 |x c i y=>
  simp only[cA.idx];split
  .rename_i hy
   rw[beq_iff] at hy;subst hy;simp only[cA.val];rw[p9,<-Nat.mul_assoc];omega
  .simp only[cA.val];omega
omit [ax] in
theorem cA.axj (o:cA)(j z:Nat):(o.aMo j z).val=o.val+j*z:=by
 cases o with
 |k c=>rfl
 |x c i y=>
  simp only[cA.aMo];split
  .rename_i hy
   rw[beq_iff] at hy;subst hy;simp only[cA.val];rw[p9];omega
  .simp only[cA.val];omega
omit [ax] in
theorem aH.sel {o:cA}{i:Int}{n:Nat}{e:TypeId}{z:Nat}{o':cA}{l:List Fp}(h:aH (sel P o i n e z) g o' l)(h1:0<=i)(h2:i<(n:Int)):o'.val=o.val+i.toNat*z:=by
 unfold Ab.sel at h;split at h
 .cases h;exact cA.aMP ..
 .split at h
  .obtain⟨j,⟨_,h3⟩,_,h⟩:=aH.bind' h;cases h;rw[h3.apG h1 (by omega),cA.K6]
  .cases h;exact cA.aMP ..
omit [ax] in
theorem aH.aMu {o:cA}{i:Int}{n:Sz}{e:TypeId}{z:Nat}{o':cA}{l:List Fp}(h:aH (aMu P o i n e z) g o' l)(h1:0<=i)(h2:i<(n.val:Int)):o'.val=o.val+i.toNat*z:=by
 unfold Ab.aMu at h;split at h
 .split at h
  .obtain⟨j,⟨_,h3⟩,_,h⟩:=aH.bind' h;cases h;simp only[Sz.val] at h2;rw[h3.apG h1 (by omega),cA.K6]
  .cases h;exact cA.axj ..
 .cases h;exact cA.axj ..
theorem aMQ {t:TypeId}{x i:Operand}{fp:List Fp}(ho:o.op=.index t x i)
  (h:aH ((vX x).bind λv=>(Kf i).bind λi=>match P.underlying t,v with
   |some (.array n e),.agg cs=>(Ab.ej (iO P e)).bind λz=>(Ab.cI (wd 1 z&&wd (n*z) (af.size cs))).bind λ_=>(Ab.cI (bg i.2 n)).bind λ_=>(Ab.sel P (.k 0) i.2 n e z).bind λo'=>(partOf P e cs o').bind λv=>.ret (dV o.dst (.r v))
   |some .string,.c (.f (.s b))=>(Ab.cI (bg i.2 b.size)).bind λ_=>.ret (dV o.dst (.r (.c (.f (.i .u8 (DV b i.2.toNat))))))
   |_,_=>.fail) g us fp):Ad P o X D aI us g:=by
 obtain⟨r,⟨_,h1⟩,_,h⟩:=aH.bind' h;obtain⟨j,⟨_,h2⟩,_,h⟩:=aH.bind' h;split at h
 .rename_i n e cs hu _
  obtain⟨z,⟨_,h3⟩,_,h⟩:=aH.bind' h;obtain⟨_,⟨_,h7⟩,_,h⟩:=aH.bind' h;obtain⟨_,⟨_,h4⟩,_,h⟩:=aH.bind' h;obtain⟨i',⟨_,h6⟩,_,h⟩:=aH.bind' h;obtain⟨v,⟨_,h5⟩,_,h⟩:=aH.bind' h;cases h;refine iH λπ a w R=> ?_;obtain⟨arr,ha,hx⟩:=h1.vX R;have h4:=h4.cI;simp only[bg,cy,lY] at h4;have h7:=h7.cI;simp only[cy,fA] at h7;have hi:i'.val=j.2.toNat*z:=(h6.sel h4.1 h4.2).trans (gW _)
  have hb:j.2.toNat*z+z<=n*z:=by
   have:=vV z (show j.2.toNat+1<=n by omega);rw[p9] at this;omega
  obtain⟨y,hy,hr⟩:=h5.partOf h3.ej h7.1 (by rw[hi];omega) hx w;rw[hi] at hy;refine⟨y,?_,hr⟩;simp[execOp,ho,Instr.index,run_underlying hu,h2.Kf R,ha,asIntOf,h4,run_sizeOf h3.ej,hy]
 .rename_i b hu _
  obtain⟨_,⟨_,h4⟩,_,h⟩:=aH.bind' h;cases h;refine iH λπ a w R=> ?_;have ha:a.eval x=.string b:=h1.vX R;have h4:=h4.cI;simp only[bg,cy,lY] at h4;have hb:b[j.2.toNat]? =some (b[j.2.toNat]'(by omega)):=getElem?_pos ..;refine⟨.int .u8 (DV b j.2.toNat),?_,rfl⟩;unfold DV;rw[hb];simp[execOp,ho,Instr.index,run_underlying hu,h2.Kf R,ha,asIntOf,h4.1,hb]
 .cases h
theorem aGb {x:Operand}{i:Nat}{fp:List Fp}(ho:o.op=.extract x i)
  (h:aH ((DD x).bind λ|.tup vs=>(Ab.ej (vs[i]?)).bind λv=>.ret (dV o.dst (.r v))|_=>.fail) g us fp):Ad P o X D aI us g:=by
 obtain⟨r,⟨_,h1⟩,_,h⟩:=aH.bind' h;split at h
 .rename_i vs
  obtain⟨v,⟨_,h2⟩,_,h⟩:=aH.bind' h;cases h;refine iH λπ a w R=> ?_;obtain⟨arr,ha,hx⟩:=h1.DD R;obtain⟨y,hy,hr⟩:=hx.get h2.ej;refine⟨y,?_,hr⟩;have hy:arr[i]? =some y:=by simpa using hy
  simp[execOp,ho,Instr.extract,ha,hy]
 .cases h
theorem aBl {t:TypeId}{x:Operand}{i:Nat}{fp:List Fp}(ho:o.op=.fieldAddr t x i)
  (h:aH ((Gi x).bind λc=>(axb P t c i).bind λv=>.ret (dV o.dst (.r (.c v)))) g us fp):Ad P o X D aI us g:=by
 obtain⟨r,⟨_,h1⟩,_,h⟩:=aH.bind' h;obtain⟨v,⟨_,h2⟩,_,h⟩:=aH.bind' h;cases h;refine iH λπ a w R=> ?_;have ha:=h1.Gi R;unfold axb at h2;split at h2
 .rename_i l
  obtain⟨f,⟨_,h3⟩,_,h2⟩:=aH.bind' h2;obtain⟨n,⟨_,h4⟩,_,h2⟩:=aH.bind' h2;obtain⟨_,⟨_,h5⟩,_,h2⟩:=aH.bind' h2;cases h2;obtain⟨B,s,ha,hc⟩:=ha;have h3:=h3.ej;have h5:=h5.cI;simp only[cy,fA] at h5;have hn:n≠0:=by omega
  unfold afg at h3;split at h3
  .rename_i fs hu
   refine⟨.pointer (some ⟨B,s+f.offset,none⟩),?_,B,s+f.offset,rfl,λj v hj=> ?_⟩
   .simp[execOp,ho,Instr.fieldAt,run_underlying hu,h3,ha,Instr.sureAddr,fieldPlace,run_sizeOf h4.ej,hn,nu]
   .rw[aaQ] at hj;split at hj
    .rw[RW] at hj;rw[BB];exact hc _ v hj
    .cases hj
  .cases h3
 .rename_i b q m
  obtain⟨f,⟨_,h3⟩,_,h2⟩:=aH.bind' h2;obtain⟨n,⟨_,h4⟩,_,h2⟩:=aH.bind' h2;obtain⟨_,⟨_,h5⟩,_,h2⟩:=aH.bind' h2;cases h2;obtain⟨B,s,q',e,hb,ha,hm⟩:=ha;have h3:=h3.ej;have h5:=h5.cI;simp only[cy,fA] at h5;have hn:n≠0:=by omega
  unfold afg at h3;split at h3
  .rename_i fs hu
   refine⟨.pointer (some ⟨B,s+(q.add f.offset).val,none⟩),?_,B,s,q',e,hb,rfl,by rw[cA.K6];omega⟩;simp[execOp,ho,Instr.fieldAt,run_underlying hu,h3,ha,Instr.sureAddr,fieldPlace,run_sizeOf h4.ej,hn,nu,BB,cA.K6]
  .cases h3
 .cases h2
theorem aBm {t:TypeId}{x i:Operand}{fp:List Fp}(ho:o.op=.indexAddr t x i)
  (h:aH ((Gi x).bind λc=>(Kf i).bind λi=>(axc P t c i.2).bind λv=>.ret (dV o.dst (.r (.c v)))) g us fp):Ad P o X D aI us g:=by
 obtain⟨r,⟨_,h1⟩,_,h⟩:=aH.bind' h;obtain⟨j,⟨_,h2⟩,_,h⟩:=aH.bind' h;obtain⟨v,⟨_,h3⟩,_,h⟩:=aH.bind' h;cases h;refine iH λπ a w R=> ?_;have ha:=h1.Gi R;unfold axc at h3;split at h3
 .rename_i n e b q m hu _
  obtain⟨z,⟨_,h4⟩,_,h3⟩:=aH.bind' h3;obtain⟨_,⟨_,h7⟩,_,h3⟩:=aH.bind' h3;obtain⟨_,⟨_,h5⟩,_,h3⟩:=aH.bind' h3;obtain⟨o',⟨_,h6⟩,_,h3⟩:=aH.bind' h3;cases h3;obtain⟨B,s,q',e',hb,ha,hm⟩:=ha;have h5:=h5.cI;simp only[bg,cy,lY] at h5;have h7:=fA.1 h7.cI;have hi:=h6.sel h5.1 h5.2
  have hbd:j.2.toNat*z+z<=n*z:=by
   have:=vV z (show j.2.toNat+1<=n by omega);rw[p9] at this;omega
  refine⟨.pointer (some ⟨B,s+o'.val,none⟩),?_,B,s,q',e',hb,rfl,by omega⟩;rw[hi];simp[execOp,ho,Instr.indexAt,run_underlying hu,h2.Kf R,ha,asIntOf,Instr.sureAddr,h5,run_sizeOf h4.ej,nu,BB]
 .rename_i e b q len z' own hu _
  obtain⟨z,⟨_,h4⟩,_,h3⟩:=aH.bind' h3;obtain⟨_,⟨_,h6⟩,_,h3⟩:=aH.bind' h3;obtain⟨_,⟨_,h5⟩,_,h3⟩:=aH.bind' h3;obtain⟨o',⟨_,h8⟩,_,h3⟩:=aH.bind' h3;cases h3;have h5:=h5.cI;simp only[bg,cy,lY] at h5;have h6:=beq_iff.1 h6.cI;subst h6;have hi:=h8.aMu h5.1 h5.2;obtain⟨B,s,q',e',hb,hm,_,⟨h0,_⟩| ⟨cap,rp,ha,_⟩⟩:=ha
  .omega
  .have hbd:j.2.toNat*z+z<=len.val*z:=by
    have:=vV z (show j.2.toNat+1<=len.val by omega);rw[p9] at this;omega
   refine⟨.pointer (some ⟨B,s+o'.val,none⟩),?_,B,s,q',e',hb,rfl,by omega⟩;rw[hi];simp[execOp,ho,Instr.indexAt,run_underlying hu,h2.Kf R,ha,asIntOf,h5,run_sizeOf h4.ej,nu,BB]
 .rename_i e n z' cols hu _
  obtain⟨z,⟨_,h4⟩,_,h3⟩:=aH.bind' h3;obtain⟨_,⟨_,h6⟩,_,h3⟩:=aH.bind' h3;obtain⟨_,⟨_,h5⟩,_,h3⟩:=aH.bind' h3;cases h3;have h5:=h5.cI;simp only[bg,cy,lY] at h5;have h6:=beq_iff.1 h6.cI;subst h6;obtain⟨hz,⟨h0,_⟩| ⟨B,s,cap,rp,ha,hc⟩⟩:=ha
  .omega
  .refine⟨.pointer (some ⟨B,s+j.2.toNat*z,none⟩),?_,B,s+j.2.toNat*z,rfl,λi f hi=> ?_⟩
   .simp[execOp,ho,Instr.indexAt,run_underlying hu,h2.Kf R,ha,asIntOf,h5,run_sizeOf h4.ej,nu]
   .rw[BA,m6] at hi;obtain⟨q,hq,rfl⟩:=hi;have hil:=(lX.1 hq).1
    have hbd:j.2.toNat*z+z<=n*z:=by
     have:=vV z (show j.2.toNat+1<=n by omega);rw[p9] at this;omega
    obtain⟨f,v,e1,e2,e3⟩:=hc (j.2.toNat*z+i) (by omega);refine⟨v,by rw[BB];exact e2,?_⟩
    have e4:iP cols (j.2.toNat*z+i)=.f (q.at j.2.toNat):=by
     unfold iP;rw[hz,aaU,ar9,Nat.mul_add_div (by omega),aw7 (by omega),Nat.div_eq_of_lt (by omega),hq];rfl
    rw[e1] at e4;cases e4;exact e3
 .rename_i n e l hu _
  obtain⟨z,⟨_,h4⟩,_,h3⟩:=aH.bind' h3;obtain⟨_,⟨_,h7⟩,_,h3⟩:=aH.bind' h3;obtain⟨_,⟨_,h5⟩,_,h3⟩:=aH.bind' h3;obtain⟨o',⟨_,h6⟩,_,h3⟩:=aH.bind' h3;cases h3;obtain⟨B,s,ha,hc⟩:=ha;have h5:=h5.cI;simp only[bg,cy,lY] at h5;have hi:=h6.apG (by omega) (by omega);refine⟨.pointer (some ⟨B,s+j.2.toNat*z,none⟩),?_,B,s+j.2.toNat*z,rfl,λi f hf=> ?_⟩
  .simp[execOp,ho,Instr.indexAt,run_underlying hu,h2.Kf R,ha,asIntOf,Instr.sureAddr,h5,run_sizeOf h4.ej,nu]
  .rw[aaQ] at hf;split at hf
   .rw[RW,hi] at hf;rw[BB];exact hc _ f hf
   .cases hf
 .cases h3
theorem aH.ay3 {x:Option Operand}{v:Option Int}{l:List Fp}{π:Pi}{a:Act}{w:World}(h:aH (ay3 x) g v l)(R:Rel X D π g a w):
  (x=none/\v=none)∨∃y k i,x=some y/\v=some i/\a.eval y=.int k i:=by
 cases x with
 |none=>cases h;exact .inl ⟨rfl,rfl⟩
 |some y=>
  obtain⟨r,⟨_,h1⟩,_,h⟩:=aH.bind' h;cases h;exact .inr ⟨y,r.1,r.2,rfl,rfl,h1.Kf R⟩
omit [ax] in
theorem aH.TQ {lo hi:Option Int}{n:Nat}{lh:Nat×Nat}{l:List Fp}(h:aH (TQ lo hi n) g lh l):
  lh.1<=lh.2/\lh.2<=n/\((hi=none/\lh.2=n)∨∃i,hi=some i/\0<=i/\i<=n/\lh.2=i.toNat)/\((lo=none/\lh.1=0)∨∃i,lo=some i/\0<=i/\i<=lh.2/\lh.1=i.toNat):=by
 obtain⟨hh,⟨_,h1⟩,_,h⟩:=aH.bind' h;obtain⟨ll,⟨_,h2⟩,_,h⟩:=aH.bind' h;cases h
 have e1:hh<=n/\((hi=none/\hh=n)∨∃i,hi=some i/\0<=i/\i<=n/\hh=i.toNat):=by
  cases hi with
  |none=>cases h1;exact⟨eO _,.inl ⟨rfl,rfl⟩⟩
  |some i=>
   obtain⟨_,⟨_,h3⟩,_,h1⟩:=aH.bind' h1;cases h1;have h3:=h3.cI;simp only[Kg,cy,lY] at h3;exact⟨by omega,.inr ⟨i,rfl,h3.1,h3.2,rfl⟩⟩
 have e2:ll<=hh/\((lo=none/\ll=0)∨∃i,lo=some i/\0<=i/\i<=hh/\ll=i.toNat):=by
  cases lo with
  |none=>cases h2;exact⟨Nat.zero_le _,.inl ⟨rfl,rfl⟩⟩
  |some i=>
   obtain⟨_,⟨_,h3⟩,_,h2⟩:=aH.bind' h2;cases h2;have h3:=h3.cI;simp only[Kg,cy,lY] at h3;exact⟨by omega,.inr ⟨i,rfl,h3.1,h3.2,rfl⟩⟩
 exact⟨e2.1,e1.1,e1.2,e2.2⟩
end
end Go.Ab
namespace Go.Ab
variable [ax]
section
variable {P:Program} {o:Oper} {X:Cx} {D:Nat->Prop} {aI:Nat} {us:List Up} {g:Gt}
def OI (x:Option Int)(v:Option Value):Prop:=(x=none/\v=none)∨∃k i,x=some i/\v=some (.int k i)
theorem aH.aWX {x:Option Operand}{v:Option Int}{l:List Fp}{π:Pi}{a:Act}{w:World}(h:aH (Ab.ay3 x) g v l)(R:Rel X D π g a w):OI v (x.map a.eval):=by
 rcases h.ay3 R with⟨rfl,rfl⟩| ⟨y,k,i,rfl,rfl,e⟩
 .exact .inl ⟨rfl,rfl⟩
 .exact .inr ⟨k,i,rfl,by simp[e]⟩
omit [ax] in
theorem vp {lo hi:Option Int}{n cap:Nat}{lh:Nat×Nat}{l:List Fp}(h:aH (Ab.TQ lo hi n) g lh l)(hc:n<=cap){lv hv:Option Value}(h1:OI lo lv)(h2:OI hi hv)(isS:Bool)(w:World):
  (Instr.sliceBounds isS n cap lv hv none).run P w=.ok (lh.1,lh.2,cap) w:=by
 obtain⟨b1,b2,b3,b4⟩:=h.TQ
 have eh:∀code,(match hv with
   |some v=>Instr.sliceBound v cap code
   |none=>(pure n:Sem Nat)).run P w=.ok lh.2 w:=λcode=>by
  rcases h2 with⟨rfl,rfl⟩| ⟨k,i,rfl,rfl⟩
  .rcases b3 with⟨_,e⟩| ⟨i,e,_⟩
   .simp[e]
   .cases e
  .rcases b3 with⟨e,_⟩| ⟨i',e,c1,c2,c3⟩
   .cases e
   .cases e;simp only[Instr.sliceBound,asIntOf,Sem.run_bind,Sem.run_pure,Result.andThen_ok];rw[if_pos ⟨c1,by omega⟩,c3];exact Sem.run_pure ..
 have el:∀code,(match lv with
   |some v=>Instr.sliceBound v lh.2 code
   |none=>(pure 0:Sem Nat)).run P w=.ok lh.1 w:=λcode=>by
  rcases h1 with⟨rfl,rfl⟩| ⟨k,i,rfl,rfl⟩
  .rcases b4 with⟨_,e⟩| ⟨i,e,_⟩
   .simp[e]
   .cases e
  .rcases b4 with⟨e,_⟩| ⟨i',e,c1,c2,c3⟩
   .cases e
   .cases e;simp only[Instr.sliceBound,asIntOf,Sem.run_bind,Sem.run_pure,Result.andThen_ok];rw[if_pos ⟨c1,c2⟩,c3];exact Sem.run_pure ..
 have eh':=eh (if isS then .sliceAcap else .sliceAlen);have el':=el .sliceB;cases hv<;>cases lv<;>simp_all [Instr.sliceBounds]
omit [ax] in
theorem aWY (q:Bool)(n:Nat):(szQ q n).val=n:=by cases q<;>rfl
omit [ax] in
theorem asl {q:Bool}{lo hi:Option Int}{n:Sz}{lh:Nat×Nat}{l:List Fp}(h:aH (Ab.TQ lo hi n.val) g lh l):(lenOf q lo hi n lh).val=lh.2-lh.1:=by
 obtain⟨b1,b2,b3,b4⟩:=h.TQ;cases lo<;>cases hi<;>simp only[lenOf,aWY]
 .rcases b3 with⟨_,e⟩| ⟨i,e,_⟩
  .rcases b4 with⟨_,e'⟩| ⟨i,e',_⟩
   .omega
   .cases e'
  .cases e
 .rcases b4 with⟨_,e'⟩| ⟨i,e',_⟩
  .omega
  .cases e'
omit [ax] in
theorem aDV {qq:Bool}{lo hi:Option Int}{n:Nat}{lh:Nat×Nat}{l:List Fp}(h:aH (Ab.TQ lo hi n) g lh l)(o:cA)(z:Nat):(afi qq lo o lh.1 z).val=o.val+lh.1*z:=by
 obtain⟨b1,b2,b3,b4⟩:=h.TQ;cases lo<;>simp only[afi]
 .rcases b4 with⟨_,e'⟩| ⟨i,e',_⟩
  .rw[e'];omega
  .cases e'
 .cases qq
  .exact cA.axj ..
  .exact cA.K6 ..
theorem aMR {t:TypeId}{x:Operand}{lo hi:Option Operand}{fp:List Fp}(ho:o.op=.slice t x lo hi none)
  (h:aH ((Gi x).bind λc=>(Ab.ay3 lo).bind λl=>(Ab.ay3 hi).bind λh=>(aJF P t c (uU lo&&uU hi) l h).bind λv=>.ret (dV o.dst (.r (.c v)))) g us fp):Ad P o X D aI us g:=by
 obtain⟨r,⟨_,h1⟩,_,h⟩:=aH.bind' h;obtain⟨l,⟨_,h2⟩,_,h⟩:=aH.bind' h;obtain⟨hh,⟨_,h3⟩,_,h⟩:=aH.bind' h;obtain⟨v,⟨_,h4⟩,_,h⟩:=aH.bind' h;cases h;refine iH λπ a w R=> ?_;have ha:=h1.Gi R;have ol:=h2.aWX R;have oh:=h3.aWX R;unfold aJF at h4;split at h4
 .rename_i n e b q m hu _ _
  obtain⟨z,⟨_,h5⟩,_,h4⟩:=aH.bind' h4;obtain⟨_,⟨_,h7⟩,_,h4⟩:=aH.bind' h4;obtain⟨lh,⟨_,h6⟩,_,h4⟩:=aH.bind' h4;cases h4;have h7:=fA.1 h7.cI;obtain⟨B,s,q',e',hb,ha,hm⟩:=ha;have hr:=vp (P:=P) h6 (eO n) ol oh false w;obtain⟨b1,b2,_,_⟩:=h6.TQ;have hl:=asl (q:=uU lo&&uU hi) (n:=.l n) h6;have aDW:=aDV (qq:=uU lo&&uU hi) h6 q z;refine⟨_,by simp[execOp,ho,Instr.sliceAt,run_underlying hu,ha,Instr.sureAddr,hr,run_sizeOf h5.ej];rfl,?_⟩;show CV.rel π (.sl b (afi (uU lo&&uU hi) l q lh.1 z) (lenOf (uU lo&&uU hi) l hh (.l n) lh) z false) _
  have hbd:(afi (uU lo&&uU hi) l q lh.1 z).val+(lenOf (uU lo&&uU hi) l hh (.l n) lh).val*z<=q':=by
   rw[hl,aDW];have:lh.1*z+(lh.2-lh.1)*z=lh.2*z:=by rw[<-p9];congr 1;omega
   have:=vV z b2;omega
  refine⟨B,s,q',e',hb,hbd,(λh=>by cases h),?_⟩;by_cases hm2:n=lh.1
  .left
   refine⟨by omega,some ⟨B,s+q.val,none⟩,?_⟩;rw[if_pos hm2];have e1:lh.2-lh.1=0:=by omega
   have e2:n-lh.1=0:=by omega
   rw[e1,e2]
  .right
   refine⟨n-lh.1,by omega,?_,λh=>by cases h⟩;rw[if_neg hm2,nu,BB,hl,aDW]
 .rename_i e b q len z own hu _ _
  obtain⟨z',⟨_,h5⟩,_,h4⟩:=aH.bind' h4;obtain⟨_,⟨_,h7⟩,_,h4⟩:=aH.bind' h4;obtain⟨lh,⟨_,h6⟩,_,h4⟩:=aH.bind' h4;cases h4;have hz:z=z':=beq_iff.1 h7.cI;subst hz;obtain⟨b1,b2,b3,b4⟩:=h6.TQ;have hl:=asl (q:=apH (uU lo&&uU hi) len) h6;have aDW:=aDV (qq:=apH (uU lo&&uU hi) len) h6 q z;have e4:lh.1*z+(lh.2-lh.1)*z=lh.2*z:=by rw[<-p9];congr 1;omega
  obtain⟨B,s,q',e',hb,hm,pM,ha⟩:=ha
  have hbd:(afi (apH (uU lo&&uU hi) len) l q lh.1 z).val+(lenOf (apH (uU lo&&uU hi) len) l hh len lh).val*z<=q':=by
   clear ha
   rw[hl,aDW];have:=vV z b2;omega
  have a0S:hh.isNone=true->lh.2=len.val:=λh=>by
   rcases b3 with⟨_,e⟩| ⟨i,e,_⟩
   .exact e
   .rw[e] at h;cases h
  have aMS:(own&&hh.isNone)=true->(afi (apH (uU lo&&uU hi) len) l q lh.1 z).val+(lenOf (apH (uU lo&&uU hi) len) l hh len lh).val*z=q':=λh=>by
   clear ha
   simp only[cy] at h;have:=pM h.1;rw[hl,aDW];rw[a0S h.2] at e4 ⊢;omega
  rcases ha with⟨h0,y,ha⟩| ⟨cap,rp,ha,aQz⟩
  .have hr:=vp (P:=P) h6 (eO _) ol oh true w;clear b3 b4
   have e1:lh.1=0:=by omega
   have e2:lh.2=0:=by omega
   rw[h0] at hr;refine⟨.slice y 0 0,by simp[execOp,ho,Instr.sliceAt,Instr.slice,run_underlying hu,ha,hr,run_sizeOf h5.ej,e1,e2],B,s,q',e',hb,hbd,aMS,.inl ⟨by omega,y,rfl⟩⟩
  .have hr:=vp (P:=P) h6 rp ol oh true w;refine⟨_,by simp[execOp,ho,Instr.sliceAt,Instr.slice,run_underlying hu,ha,hr,run_sizeOf h5.ej];rfl,?_⟩;show CV.rel π (.sl b (afi (apH (uU lo&&uU hi) len) l q lh.1 z) (lenOf (apH (uU lo&&uU hi) len) l hh len lh) z (own&&hh.isNone)) _;refine⟨B,s,q',e',hb,hbd,aMS,?_⟩;by_cases hm2:cap=lh.1
   .left
    refine⟨by omega,some ⟨B,s+q.val,none⟩,?_⟩;rw[if_pos hm2];have e1:lh.2-lh.1=0:=by omega
    have e2:cap-lh.1=0:=by omega
    rw[e1,e2]
   .right
    refine⟨cap-lh.1,by omega,?_,λh=> ?_⟩
    .rw[if_neg hm2,nu,BB,hl,aDW]
    .simp only[cy] at h;have hw2:=aQz h.1;have e3:lh.1*z+(cap-lh.1)*z=cap*z:=by rw[<-p9];congr 1;omega
     rw[aDW];omega
 .rename_i e hu _ _
  obtain⟨z,⟨_,h5⟩,_,h4⟩:=aH.bind' h4;obtain⟨lh,⟨_,h6⟩,_,h4⟩:=aH.bind' h4;cases h4;have ha:a.eval x=.slice none 0 0:=ha;have hr:=vp (P:=P) h6 (eO 0) ol oh true w;obtain⟨b1,b2,b3,b4⟩:=h6.TQ;have e1:lh.1=0:=by omega
  have e2:lh.2=0:=by omega
  exact⟨.slice none 0 0,by simp[execOp,ho,Instr.sliceAt,Instr.slice,run_underlying hu,ha,hr,run_sizeOf h5.ej,e1,e2],rfl⟩
 .rename_i e n z cols hu _ _
  obtain⟨z',⟨_,h5⟩,_,h4⟩:=aH.bind' h4;obtain⟨_,⟨_,h7⟩,_,h4⟩:=aH.bind' h4;obtain⟨lh,⟨_,h6⟩,_,h4⟩:=aH.bind' h4;cases h4;have hz:z=z':=beq_iff.1 h7.cI;subst hz;obtain⟨b1,b2,b3,b4⟩:=h6.TQ;have hl:=asl (q:=false) (n:=.s n) h6;have hfl:(atX l lh.1 cols).length=cols.length:=by unfold atX;split<;>simp
  have hfg:∀j,iP (atX l lh.1 cols) j=iP cols (lh.1*cols.length+j):=λj=>by
   unfold atX;split
   .rcases b4 with⟨_,e⟩| ⟨i,e,_⟩
    .rw[e,RY,gW]
    .cases e
   .exact ay5 ..
  obtain⟨hz,ha⟩:=ha;rcases ha with⟨h0,y,ha⟩| ⟨B,s,cap,rp,ha,hc⟩
  .have hr:=vp (P:=P) h6 (eO _) ol oh true w;clear b3 b4
   have e1:lh.1=0:=by omega
   have e2:lh.2=0:=by omega
   rw[h0] at hr;exact⟨.slice y 0 0,by simp[execOp,ho,Instr.sliceAt,Instr.slice,run_underlying hu,ha,hr,run_sizeOf h5.ej,e1,e2],hfl.trans hz,.inl ⟨by omega,y,rfl⟩⟩
  .have hr:=vp (P:=P) h6 rp ol oh true w;refine⟨_,by simp[execOp,ho,Instr.sliceAt,Instr.slice,run_underlying hu,ha,hr,run_sizeOf h5.ej];rfl,hfl.trans hz,?_⟩;by_cases hm2:cap=lh.1
   .left
    refine⟨by omega,some ⟨B,s,none⟩,?_⟩;rw[if_pos hm2];have e1:lh.2-lh.1=0:=by omega
    have e2:cap-lh.1=0:=by omega
    rw[e1,e2]
   .right
    refine⟨B,s+lh.1*z,cap-lh.1,by omega,by rw[if_neg hm2,nu,hl],λj hj=> ?_⟩;rw[hl] at hj;have e4:lh.1*z+(lh.2-lh.1)*z=lh.2*z:=by rw[<-p9];congr 1;omega
    have e5:=vV z b2;obtain⟨f,v,f1,f2,f3⟩:=hc (lh.1*z+j) (by omega);exact⟨f,v,by rw[hfg,hz];exact f1,by rw[BB];exact f2,f3⟩
 .cases h4
omit [ax] in
theorem aMT (vs:List Value):∀(off k:Nat) (cs:Array Value),off+k+vs.length<=cs.size->
  ((vs.zipIdx k).foldl (λ(cs:Array Value) (x:Value×Nat)=>cs.setIfInBounds (off+x.2) x.1) cs).size=cs.size/\
  ∀i d,((vs.zipIdx k).foldl (λ(cs:Array Value) (x:Value×Nat)=>cs.setIfInBounds (off+x.2) x.1) cs).getD i d=if off+k<=i/\i<off+k+vs.length then vs.getD (i-(off+k)) d else cs.getD i d:=by
 induction vs with
 |nil=>intro off k cs _;refine⟨rfl,λi d=> ?_⟩;rw[if_neg (by simp)];rfl
 |cons v vs ih=>
  intro off k cs h;simp only[KZ] at h;rw[List.zipIdx_cons,List.foldl_cons];obtain⟨h1,h2⟩:=ih off (k+1) (cs.setIfInBounds (off+k) v) (by simp;omega);refine⟨by simpa using h1,λi d=> ?_⟩;rw[h2];simp only[KZ];by_cases c1:off+(k+1)<=i/\i<off+(k+1)+vs.length
  .rw[if_pos c1,if_pos (by omega),show i-(off+k)=(i-(off+(k+1)))+1 by omega];simp[List.getD]
  .rw[if_neg c1];by_cases c2:i=off+k
   .subst c2;rw[if_pos (by omega)];simp[Array.getD,show off+k<cs.size by omega]
   .rw[if_neg (by omega)];simp[apE,aRV (Ne.symm c2)]
theorem aWZ {π:Pi}{cs RZ vs:af}{arr:Array Value}{xs:Array Value}{off:Nat}(h1:bj (CV.rel π) cs.list arr.toList)(h2:bj (CV.rel π) vs.list xs.toList)(hle:off+af.size vs<=af.size cs)(hu:aku cs off vs=some RZ):
  bj (CV.rel π) RZ.list (xs.zipIdx.foldl (λ(cs:Array Value) (x:Value×Nat)=>cs.setIfInBounds (off+x.2) x.1) arr).toList:=by
 obtain⟨l1,g1⟩:=jm h1;obtain⟨l2,g2⟩:=jm h2;obtain⟨u1,u2⟩:=NS hu;simp only[Vi] at l1 l2;have key:=aMT xs.toList off 0 arr (by simp only[Vi];omega)
 have e:(xs.zipIdx.foldl (λ(cs:Array Value) (x:Value×Nat)=>cs.setIfInBounds (off+x.2) x.1) arr)=((xs.toList.zipIdx 0).foldl (λ(cs:Array Value) (x:Value×Nat)=>cs.setIfInBounds (off+x.2) x.1) arr):=by
  rw[<-Array.foldl_toList];simp
 rw[e];refine xP (by rw[Vi,key.1,u1,l1]) λj hj=> ?_;rw[u1] at hj;have yb:j<((xs.toList.zipIdx 0).foldl (λ(cs:Array Value) (x:Value×Nat)=>cs.setIfInBounds (off+x.2) x.1) arr).size:=by rw[key.1,l1];exact hj
 have hk:=key.2 j undef;rw[apE,ahM yb,KY] at hk;refine⟨_,by rw[Vh,ahM yb],?_⟩;rw[hk,u2 j hj];simp only[km,Vi,l2];by_cases c:off<=j/\j<off+af.size vs
 .rw[if_pos c,if_pos c];obtain⟨x,hx,hr⟩:=g2 (j-off) (by omega);simp only[List.getD,hx,KY];exact hr
 .rw[if_neg c,if_neg c];obtain⟨x,hx,hr⟩:=g1 j hj;rw[Vh] at hx;simp only[apE,hx,KY];exact hr
theorem afx {π:Pi}{pl:Nat->Option (Nat×Nat)}:∀{l:List (Nat×RV)} {l':List (Nat×Value)} {cs RZ:af} {arr:Array Value},bj (λ(p:Nat×RV) (q:Nat×Value)=>p.1=q.1/\p.2.rel π q.2) l l'->akx pl cs l=some RZ->bj (CV.rel π) cs.list arr.toList->
  ∃aSi,Instr.fill pl arr l'=some aSi/\bj (CV.rel π) RZ.list aSi.toList/\af.size RZ=af.size cs
 | [],[],cs,RZ,arr,_,h,ha=>by simp[akx] at h;subst h;exact⟨arr,rfl,ha,rfl⟩
 |(i,v)::l,(i',x)::l',cs,RZ,arr,⟨⟨hi,hv⟩,hl⟩,h,ha=>by
  have hi:i=i':=hi;subst hi;simp only[akx] at h;split at h
  .cases h
  .rename_i q n hpl
   split at h
   .rename_i hc
    simp only[cy,beq_iff,fA] at hc;obtain⟨c1,c2⟩:=hc;split at h
    .rename_i cs1 hu
     have hcx:bj (CV.rel π) v.bO.list x.cells.toList:=RV.NT hv;have l1:=(jm hcx).1;have l2:=(jm ha).1;simp only[Vi] at l1 l2;obtain⟨aSi,h1,h2,h3⟩:=afx (pl:=pl) hl h (aWZ ha hcx (by omega) hu);refine⟨aSi,?_,h2,h3.trans (NS hu).1⟩;simp only[Instr.fill,hpl];rw[if_neg (by simp;omega)];exact h1
    .cases h
   .cases h
 | [],_::_,_,_,_,h,_,_=>h.elim
 |_::_,[],_,_,_,h,_,_=>h.elim
theorem aDX {ps:Array (Nat×Operand)}{l:List (Nat×RV)}{fp:List Fp}{π:Pi}{a:Act}{w:World}(h:aH (Ab.tG (λp:Nat×Operand=>(vX p.2).bind λv=>.ret (p.1,v)) ps.toList) g l fp)(R:Rel X D π g a w):
  bj (λ(p:Nat×RV) (q:Nat×Value)=>p.1=q.1/\p.2.rel π q.2) l (ps.map λ(i,x)=>(i,a.eval x)).toList:=by
 have:=aH.tG (ρ:=λ(p:Nat×RV) (x:Nat×Operand)=>p.1=x.1/\p.2.rel π (a.eval x.2)) (λx v l hx=>by
  obtain⟨r,⟨_,h1⟩,_,h2⟩:=aH.bind' hx;cases h2;exact⟨rfl,h1.vX R⟩) h
 rw[Array.toList_map];exact aor this
theorem aMU {t:TypeId}{ps:Array (Nat×Operand)}{fp:List Fp}(ho:o.op=.build t ps)
  (h:aH ((Ab.ej (At P t)).bind λz=>(Ab.tG (λp=>(vX p.2).bind λv=>.ret (p.1,v)) ps.toList).bind λl=>(Ab.ej (placesOf P t)).bind λpl=>(Ab.ej (akx pl z.bO l)).bind λcs=>.ret (dV o.dst (.r (.agg cs)))) g us fp):Ad P o X D aI us g:=by
 obtain⟨z,⟨_,h1⟩,_,h⟩:=aH.bind' h;obtain⟨l,⟨_,h2⟩,_,h⟩:=aH.bind' h;obtain⟨pl,⟨_,h3⟩,_,h⟩:=aH.bind' h;obtain⟨cs,⟨_,h4⟩,_,h⟩:=aH.bind' h;cases h;refine iH λπ a w R=> ?_;have h3:=h3.ej;have h4:=h4.ej;have hp:=aDX h2 R;obtain⟨zx,_,⟨it,hi,hz⟩,a2h⟩:=ac7 h1.ej w;have hzr:=RV.NT (a2h π)
 have hb:∃arr,P.built t (ps.map λ(i,x)=>(i,a.eval x)).toList=some arr/\bj (CV.rel π) cs.list arr.toList:=by
  unfold placesOf at h3;split at h3
  .rename_i fs hu
   cases hq:fs.toList.mapM (λf=>(P.info? f.type).map λi=>(f.offset,i.size)) with
   |none=>rw[hq] at h3;cases h3
   |some a3p=>
    rw[hq] at h3;cases h3;obtain⟨arr,e1,e2,_⟩:=afx hp h4 hzr;refine⟨arr,?_,e2⟩;simp only[Program.built,hi,hu,hz,hq];rw[<-e1];congr 1;funext i;simp
  .rename_i n e hu
   cases hq:iO P e with
   |none=>rw[hq] at h3;cases h3
   |some n=>
    rw[hq] at h3;cases h3;obtain⟨ie,hie,rfl⟩:=apL hq;obtain⟨arr,e1,e2,_⟩:=afx hp h4 hzr;exact⟨arr,by simp only[Program.built,hi,hu,hz,hie];exact e1,e2⟩
  .cases h3
 obtain⟨arr,e1,e2⟩:=hb;exact⟨.agg arr,by simp[execOp,ho,run_build w t _ arr e1],arr,rfl,e2⟩
omit [ax] in
theorem axk (n:Nat)(l:af):af.size (rep n l)=n*af.size l:=by
 induction n with
 |zero=>rw[rep,af.lR,RY]
 |succ n ih=>rw[rep,af.size_append,ih,asa];omega
omit [ax] in
theorem aW0 (n:Nat)(l:af)(i:Nat)(h:i<n*af.size l):af.get (rep n l) i=af.get l (i%af.size l):=by
 induction n generalizing i with
 |zero=>omega
 |succ n ih=>
  rw[rep,af.get_append];by_cases hi:i<af.size l
  .rw[if_pos hi,aw7 hi]
  .rw[if_neg hi,ih _ (by rw[asa] at h;omega)];congr 1
   exact(Nat.mod_eq_sub_mod (by omega)).symm
theorem Rel.row {π:Pi}{a:Act}{w:World}{g:Gt}(R:Rel X D π g a w){k:af}{n:Sz}{q cap:Nat}{arr:Array Value}{t:TypeId}{dst:Option Tmp}(hd:∀d,dst=some d->d<X.N)(h0:π aI=none)(hk:X.k<=aI)(hn:n.val<=cap)(hc:cap*q<=arr.size)(hs:k.size=n.val*q)
  (h2:∀j,j<k.size->∃v,arr[j]? =some v/\(k.get j).rel π v):
  Rel X D (Ai π aI (w.heap.size,0,k.size,cap*q)) (cE (dV dst (.r (.c (.sl aI (.k 0) n q true)))) ((Up.new aI k).hI g)) (a.put dst (.slice (some ⟨w.heap.size,0,none⟩) n.val cap)) (w.alloc (.cells arr t)):=by
 have hq:=vV q hn;refine(R.alloc (k:=k) (cs:=arr) (t:=t) (e:=cap*q) h0 hk (by omega) hc h2).dst hd ?_;exact⟨_,_,_,_,pI _ _ _,by simp only[cA.val];omega,λ_=>by simp only[cA.val];omega,.inr ⟨cap,hn,rfl,λ_=>by simp only[cA.val];omega⟩⟩
omit [ax] in
theorem Vt {π:Pi}{b:Nat}{p:Nat×Nat×Nat×Nat}{aI c:Nat}(hb:aI<=b/\b<aI+c):∀b',Ai π b p b'≠none->π b'≠none∨(aI<=b'/\b'<aI+c):=by
 intro b' h;simp only[Ai] at h;by_cases e:b'=b
 .subst e;exact .inr hb
 .simp only[e,gA] at h;exact .inl h
omit [ax] in
theorem K' (dst:Option Tmp)(v:AV)(us:List Up)(g:Gt)(hus:∀u∈us,∀i x,u≠.t i x):cE (dV dst v++us) g=cE (dV dst v) (cE us g):=by
 rw[PH];cases dst with
 |none=>rfl
 |some d=>
  show cE us ((Up.t d v).hI g)=(Up.t d v).hI (cE us g);induction us generalizing g with
  |nil=>rfl
  |cons u us ih=>
   have hu:=hus u (by simp);show cE us (u.hI ((Up.t d v).hI g))=(Up.t d v).hI (cE us (u.hI g));rw[<-ih _ λx hx=>hus x (by simp[hx])];cases u with
   |t i x=>exact absurd rfl (hu i x)
   |_=>rfl
theorem axl {t:TypeId}{n:Nat}{ps:Array (Nat×Operand)}{fp:List Fp}(ho:o.op=.buildSlice t n ps)
  (h:aH (match P.underlying t with
  |some (.slice e)=>(Ab.ej (At P e)).bind λz=>(Ab.ej (iO P e)).bind λq=>
   (Ab.cI (wd 1 q&&wd (n*q) 16777216)).bind λ_=>
   (Ab.tG (λp=>(vX p.2).bind λv=>.ret (p.1,v)) ps.toList).bind λl=>
   (Ab.cI (Nat.beq (af.size z.bO) q)).bind λ_=>(Ab.ej (akx (λi=>some (i*q,q)) (rep n z.bO) l)).bind λcs=>.ret (dV o.dst (.r (.c (.sl aI (.k 0) (.l n) q true)))++[.new aI (aoq P e n q cs)])
  |_=>.fail) g us fp):Ad P o X D aI us g:=by
 split at h
 .rename_i e hu
  obtain⟨z,⟨_,h1⟩,_,h⟩:=aH.bind' h;obtain⟨q,⟨_,h2⟩,_,h⟩:=aH.bind' h;obtain⟨_,⟨_,h3⟩,_,h⟩:=aH.bind' h;obtain⟨l,⟨_,h4⟩,_,h⟩:=aH.bind' h;obtain⟨_,⟨_,h5⟩,_,h⟩:=aH.bind' h;obtain⟨cs,⟨_,h6⟩,_,h⟩:=aH.bind' h;cases h;have h3:=h3.cI;simp only[cy,fA] at h3;have h5:af.size z.bO=q:=beq_iff.1 h5.cI;intro π a w next Q R hk hf hd hD hn;obtain⟨zx,hz1,_,hz2⟩:=ac7 h1.ej w;obtain⟨zl,zg⟩:=jm (RV.NT (hz2 π));rw[Vi] at zl;have hp:=aDX h4 R
  have akI:bj (CV.rel π) (af.list (rep n z.bO)) ((Array.range (n*q)).map (zx.cells[·%zx.cells.size]!)).toList:=by
   refine xP (by simp[axk,h5]) λj hj=> ?_;rw[axk,h5] at hj;rw[aW0 _ _ _ (by rw[h5];exact hj),h5];obtain⟨y,hy,hr⟩:=zg (j%q) (by rw[h5];exact Nat.mod_lt _ (by omega));refine⟨y,?_,hr⟩;have e3:zx.cells.size=q:=zl.trans h5;have e4:zx.cells[j%q]? =some y:=by simpa using hy
   simp[hj,e3,getElem!_def,e4]
  obtain⟨arr,e1,e2,e3⟩:=afx hp h6.ej akI;have e1:Instr.fill (λi=>some (i*q,q)) ((Array.range (n*q)).map (zx.cells[·%zx.cells.size]!)) (ps.toList.map λx=>(x.1,a.eval x.2))=some arr:=by rw[Array.toList_map] at e1;exact e1
  obtain⟨cl1,cl2⟩:=jm e2;rw[Vi] at cl1;rw[axk,h5] at e3
  have hbr:af.size (aoq P e n q cs)=af.size cs/\∀j,j<af.size cs->af.get (aoq P e n q cs) j=af.get cs j:=by
   unfold aoq;split
   .exact⟨rfl,λ_ _=>rfl⟩
   .exact Zd q cs
  generalize aoq P e n q cs=kk at hbr hf hn
  obtain⟨br1,br2⟩:=hbr;have hcn:cB (dV o.dst (.r (.c (.sl aI (.k 0) (.l n) q true)))++[Up.new aI kk])=1:=by unfold dV cB;cases o.dst<;>rfl
  have h0:=hf aI (eO _) (by omega)
  have R1:=R.row (k:=kk) (n:=.l n) (q:=q) (cap:=n) (arr:=arr) (t:=e) hd h0 hk (eO _) (by omega) (br1.trans e3) (λj hj=>by
   rw[br1] at hj;obtain⟨y,hy,hr⟩:=cl2 j hj;rw[br2 j hj];exact⟨y,by simpa using hy,hr⟩)
  refine PG (x:=.slice (some ⟨w.heap.size,0,none⟩) n n) (w':=w.alloc (.cells arr e)) ?_ (hn _ _ (Ai π aI (w.heap.size,0,af.size kk,n*q)) (Ax h0 _) (Vt ⟨eO _,by omega⟩) ?_)
  .have h24:¬(16777216<n*q):=by omega
   simp only[execOp,ho,Instr.buildSlice,Sem.run_bind,run_underlying hu,Result.andThen_ok,run_sizeOf h2.ej];by_cases hnq:n*q=0
   .have hn0:n=0:=by
     rcases Nat.mul_eq_zero.1 hnq with h|h
     .exact h
     .omega
    subst hn0;simp only[RY] at e1 ⊢;have a2i:(Array.range 0).map (zx.cells[·%zx.cells.size]!)=#[]:=aWF (by simp);have hr0:Array.range 0=#[]:=aWF (by simp);rw[a2i] at e1;simp[e1,hr0,K9]
   .simp[h24,hnq,hz1,e1,K9]
  .rw[K' _ _ _ _ (by simp)];exact R1
 .cases h
theorem aBn {t:TypeId}{n c:Operand}{fp:List Fp}(ho:o.op=.makeSlice t n c)
  (h:aH (match P.underlying t with
  |some (.slice e)=>(Ab.ej (At P e)).bind λz=>(Ab.ej (iO P e)).bind λq=>(Kf n).bind λn=>(Kf c).bind λc=>
   (Ab.cI (decide (n.2=0)&&decide (c.2=0))).bind λ_=>(Ab.ej (DU q z.bO)).bind λcols=>
   .ret (dV o.dst (.r (.c (.sl aI (.k 0) (.s 0) q true)))++[.new aI [.a (.s 0) cols]])
  |_=>.fail) g us fp):Ad P o X D aI us g:=by
 split at h
 .rename_i e hu
  obtain⟨z,⟨_,h1⟩,_,h⟩:=aH.bind' h;obtain⟨q,⟨_,h2⟩,_,h⟩:=aH.bind' h;obtain⟨nn,⟨_,h3⟩,_,h⟩:=aH.bind' h;obtain⟨cc,⟨_,h4⟩,_,h⟩:=aH.bind' h;obtain⟨_,⟨_,h5⟩,_,h⟩:=aH.bind' h;obtain⟨cols,⟨_,h6⟩,_,h⟩:=aH.bind' h;cases h;have h5:=h5.cI;simp only[cy,lY] at h5;intro π a w next Q R hk hf hd hD hn;have hv1:=h3.Kf R;have hv2:=h4.Kf R;rw[h5.1] at hv1;rw[h5.2] at hv2;have hcn:cB (dV o.dst (.r (.c (.sl aI (.k 0) (.s 0) q true)))++[Up.new aI [.a (.s 0) cols]])=1:=by unfold dV cB;cases o.dst<;>rfl
  have h0:=hf aI (eO _) (by omega);have hs0:af.size [.a (.s 0) cols]=0:=by simp[af.size,Sg.size,Sz.val]
  have R1:=R.row (k:=[.a (.s 0) cols]) (n:=.s 0) (q:=q) (cap:=0) (arr:=#[]) (t:=e) hd h0 hk (eO _) (by simp) (by rw[hs0];simp[Sz.val]) (λj hj=>by rw[hs0] at hj;omega)
  obtain⟨i,hi,hby⟩:∃i,P.info? e=some i/\True:=by
   have:=h2.ej;unfold iO at this;cases hh:P.info? e with
   |none=>rw[hh] at this;cases this
   |some i=>exact⟨i,rfl,trivial⟩
  refine PG (x:=.slice (some ⟨w.heap.size,0,none⟩) 0 0) (w':=w.alloc (.cells #[] e)) ?_ (hn _ _ (Ai π aI (w.heap.size,0,af.size [.a (.s 0) cols],0*q)) (Ax h0 _) (Vt ⟨eO _,by omega⟩) ?_)
  .have hw0:IntKind.i64.wrap 0=0:=by decide
   simp[execOp,ho,Instr.makeSlice,run_underlying hu,hv1,hv2,asInt,asIntOf,typeInfo,hi,hw0,run_sizeOf h2.ej,askRoom,K9]
   rw[show Array.range 0=#[] from aWF (by simp),Array.map_empty]
  .rw[K' _ _ _ _ (by simp)];exact R1
 .cases h
end
end Go.Ab
namespace Go.Ab
variable [ax]
section
variable {P:Program} {o:Oper} {X:Cx} {D:Nat->Prop} {aI:Nat} {us:List Up} {g:Gt}
theorem Ki {c:Call}{args:List AV}{l:List Fp}{π:Pi}{a:Act}{w:World}(h:aH (Ab.tG Ab.DD c.args.toList) g args l)(R:Rel X D π g a w):bj (AV.rel π) args (c.args.map a.eval).toList:=by
 rw[Array.toList_map];exact aor (aH.tG (ρ:=λv x=>v.rel π (a.eval x)) (λx v l hx=>aH.DD hx R) h)
omit [ax] in
theorem aW1 {x:Array Value}{y:Value}(h:x.toList=[y]):x=#[y]:=by rw[<-akp];exact h
omit [ax] in
theorem aW2 {x:Array Value}{y z:Value}(h:x.toList=[y,z]):x=#[y,z]:=by rw[<-akp];exact h
omit [ax] in
theorem a2j {x:Array TypeId}{y z:TypeId}(h:x.toList=[y,z]):x=#[y,z]:=by rw[<-akp];exact h
omit [ax] in
theorem axm {R:AV->Value->Prop}{x:AV}{l:List Value}(h:bj R [x] l):∃y,l=[y]/\R x y:=by
 match l,h with
 | [y],⟨h,_⟩=>exact⟨y,rfl,h⟩
 | [],h=>exact h.elim
 |_::_::_,⟨_,h⟩=>exact h.elim
omit [ax] in
theorem axn {R:AV->Value->Prop}{x x':AV}{l:List Value}(h:bj R [x,x'] l):∃y y',l=[y,y']/\R x y/\R x' y':=by
 match l,h with
 | [y,y'],⟨h,h',_⟩=>exact⟨y,y',rfl,h,h'⟩
 | [],h=>exact h.elim
 | [_],⟨_,h⟩=>exact h.elim
 |_::_::_::_,⟨_,_,h⟩=>exact h.elim
omit [ax] in
theorem afy {c:Call}{bi:Builtin}(a:Act)(w:World)(ho:o.op=.call c)(hc:c.callee=.builtin bi):∃cs,(execOp a.eval o).run P w=(builtin bi c.argTypes o.type cs (c.args.map a.eval)).run P w:=
 ⟨_,by simp[execOp,ho,resolve,hc,invoke];rfl⟩
theorem aHN {π:Pi}:∀{vs:List FV} {xs:List AV} {ys:List Value},bj (λ(v:FV) (x:AV)=>x=.r (.c (.f v))) vs xs->bj (AV.rel π) xs ys->bj FV.rel vs ys
 | [],[],[],_,_=>trivial
 |v::vs,x::xs,y::ys,⟨e,h⟩,⟨a,b⟩=>by subst e;exact⟨a,aHN h b⟩
 | [],_::_,_,h,_=>h.elim
 |_::_,[],_,h,_=>h.elim
 | [],[],_::_,_,h=>h.elim
 |_::_,_::_,[],_,h=>h.elim
theorem aSV {c:CV}{n:Nat}{l:List Fp}(h:aH (match c with|.f _=>Rd.fail|c=>aR9 c) g n l){π:Pi}{x:Value}(hx:c.rel π x):∃a cap,x=.slice a n cap:=by
 cases c<;>simp only[aR9] at h
 case sl b o m z own=>
  cases h;obtain⟨B,s,q,e,_,_,_,⟨h0,a,rfl⟩| ⟨cap,_,rfl,_⟩⟩:=hx
  .exact⟨_,_,by rw[h0]⟩
  .exact⟨_,_,rfl⟩
 case nils=>cases h;exact⟨_,_,hx⟩
 case fs n z cols=>
  cases h;obtain⟨_,⟨h0,a,rfl⟩| ⟨B,s,cap,_,rfl,_⟩⟩:=hx
  .exact⟨_,_,by rw[h0]⟩
  .exact⟨_,_,rfl⟩
 all_goals cases h
theorem aSW {c:Call}{args:List AV}{x:AV}{fp l0:List Fp}(ho:o.op=.call c)(hc:c.callee=.builtin .len)(ha:aH (Ab.tG Ab.DD c.args.toList) g args l0)(lP:args=[x])
  (h:aH ((Ab.ej ((c.argTypes[0]?).bind P.underlying)).bind λ
  |.array n _=>.ret (dV o.dst (.r (.c (.f (.i .i64 (n:Int))))))
  |.slice _=>(Ab.asC x).bind λc=>(match c with|.f _=>Rd.fail|c=>aR9 c).bind λn=>.ret (dV o.dst (.r (.c (.f (.i .i64 (n:Int))))))
  |.string=>(Ab.asC x).bind λc=>(match c with|.f (.s x)=>Rd.ret x.size|_=>Rd.fail).bind λn=>.ret (dV o.dst (.r (.c (.f (.i .i64 (n:Int))))))
  |_=>.fail) g us fp):Ad P o X D aI us g:=by
 subst lP;obtain⟨d,⟨_,h1⟩,_,h⟩:=aH.bind' h;have h1:=h1.ej
 obtain⟨t,ht,hu⟩:∃t,c.argTypes[0]? =some t/\P.underlying t=some d:=by
  cases ht:c.argTypes[0]? with
  |none=>rw[ht] at h1;cases h1
  |some t=>rw[ht] at h1;exact⟨t,rfl,h1⟩
 split at h
 .rename_i n _ _
  cases h;refine iH λπ a w R=> ?_;obtain⟨y,hy,hr⟩:=axm (Ki ha R);have hy:=aW1 hy;exact⟨goInt n,by obtain⟨cs,e⟩:=afy (P:=P) a w ho hc;rw[e,hy];simp[builtin,Builtin.len_,ht,run_underlying hu],rfl⟩
 .obtain⟨c1,⟨_,h2⟩,_,h⟩:=aH.bind' h;obtain⟨n,⟨_,h3⟩,_,h⟩:=aH.bind' h;cases h;refine iH λπ a w R=> ?_;obtain⟨y,hy,hr⟩:=axm (Ki ha R);have hy:=aW1 hy;rw[h2.asC] at hr;obtain⟨ad,cap,rfl⟩:=aSV h3 hr;exact⟨goInt n,by obtain⟨cs,e⟩:=afy (P:=P) a w ho hc;rw[e,hy];simp[builtin,Builtin.len_,ht,run_underlying hu],rfl⟩
 .obtain⟨c1,⟨_,h2⟩,_,h⟩:=aH.bind' h;obtain⟨n,⟨_,h3⟩,_,h⟩:=aH.bind' h;cases h;refine iH λπ a w R=> ?_;obtain⟨y,hy,hr⟩:=axm (Ki ha R);have hy:=aW1 hy;rw[h2.asC] at hr;split at h3
  .cases h3;have hr:y=_:=hr;subst hr;exact⟨_,by obtain⟨cs,e⟩:=afy (P:=P) a w ho hc;rw[e,hy];simp[builtin,Builtin.len_,ht,run_underlying hu];rfl,rfl⟩
  .cases h3
 .cases h
omit [ax] in
theorem aMV {x:AV}{v:FV}{l:List Fp}(h:aH (Ab.asF x) g v l):x=.r (.c (.f v)):=by
 unfold Ab.asF at h;split at h
 .cases h;rfl
 .cases h
theorem aHO {f:FV->FV->Rd FV}{m:Value->Value->Sem Value}(hf:∀x y v l,aH (f x y) g v l->∀a b,x.rel a->y.rel b->∀w,∃z,(m a b).run P w=.ok z w/\v.rel z):∀{xs:List FV} {ys:List Value} {x v:FV} {y:Value} {l:List Fp},aH (atZ f x xs) g v l->x.rel y->bj FV.rel xs ys->∀w,∃z,(ys.foldlM m y).run P w=.ok z w/\v.rel z
 | [],[],x,v,y,l,h,hx,_,w=>by cases h;exact⟨y,by simp,hx⟩
 |a::xs,b::ys,x,v,y,l,h,hx,⟨ha,hs⟩,w=>by
  obtain⟨r,⟨_,h1⟩,_,h⟩:=aH.bind' h;obtain⟨z,hz,hr⟩:=hf x a r _ h1 y b hx ha w;obtain⟨z',tZ,hr'⟩:=aHO hf h hr hs w;exact⟨z',by simp[List.foldlM_cons,hz,tZ],hr'⟩
 | [],_::_,_,_,_,_,_,_,h,_=>h.elim
 |_::_,[],_,_,_,_,_,_,h,_=>h.elim
theorem aMW {bi:Builtin}{f:FV->FV->Rd FV}{m:Value->Value->Sem Value}(hf:∀x y v l,aH (f x y) g v l->∀a b,x.rel a->y.rel b->∀w,∃z,(m a b).run P w=.ok z w/\v.rel z)
  {c:Call}{args:List AV}{x:AV}{xs:List AV}{fp l0:List Fp}(ho:o.op=.call c)(hc:c.callee=.builtin bi)(hb:∀t cs y ys w,(builtin bi c.argTypes t cs (y::ys).toArray).run P w=((ys.foldlM m y).run P w).andThen λv w=>.ok (.value v) w)
  (ha:aH (Ab.tG Ab.DD c.args.toList) g args l0)(lP:args=x::xs)
  (h:aH ((Ab.asF x).bind λx=>(Ab.tG Ab.asF xs).bind λl=>(atZ f x l).bind λv=>.ret (dV o.dst (.r (.c (.f v))))) g us fp):Ad P o X D aI us g:=by
 subst lP;obtain⟨v0,⟨_,h1⟩,_,h⟩:=aH.bind' h;obtain⟨vs,⟨_,h2⟩,_,h⟩:=aH.bind' h;obtain⟨v,⟨_,h3⟩,_,h⟩:=aH.bind' h;cases h;refine iH λπ a w R=> ?_;have hr:=Ki ha R;have h1:=aMV h1;subst h1;have h2:=aH.tG (ρ:=λv x=>x=.r (.c (.f v))) (λx v l hx=>aMV hx) h2
 obtain⟨y,ys,hy,hry,hrs⟩:∃y ys,(c.args.map a.eval).toList=y::ys/\v0.rel y/\bj (AV.rel π) xs ys:=by
  revert hr
  generalize (c.args.map a.eval).toList=L
  intro hr;cases L with
  |nil=>exact hr.elim
  |cons y ys=>exact⟨y,ys,rfl,hr.1,hr.2⟩
 have hvs:bj FV.rel vs ys:=aHN h2 hrs;obtain⟨z,hz,hzr⟩:=aHO hf h3 hry hvs w;have hy':c.args.map a.eval=(y::ys).toArray:=by rw[<-akp];exact hy
 exact⟨z,by obtain⟨cs,e⟩:=afy (P:=P) a w ho hc;rw[e,hy',hb,hz];rfl,hzr⟩
theorem aSX {x y v:FV}{l:List Fp}(h:aH (aWM x y) g v l)(a b:Value)(ha:x.rel a)(hb:y.rel b)(w:World):∃z,(Builtin.min2 a b).run P w=.ok z w/\v.rel z:=by
 unfold aWM at h;split at h
 .rename_i k m k' n
  have ha:a=_:=ha;have hb:b=_:=hb;subst ha hb;split at h
  .cases h;exact⟨_,by simp[Builtin.min2],rfl⟩
  .cases h
 .cases h
theorem aSY {x y v:FV}{l:List Fp}(h:aH (aWN x y) g v l)(a b:Value)(ha:x.rel a)(hb:y.rel b)(w:World):∃z,(Builtin.max2 a b).run P w=.ok z w/\v.rel z:=by
 unfold aWN at h;split at h
 .rename_i k m k' n
  have ha:a=_:=ha;have hb:b=_:=hb;subst ha hb;split at h
  .cases h;exact⟨_,by simp[Builtin.max2],rfl⟩
  .cases h
 .cases h
omit [ax] in
theorem aYY (ts:Array TypeId)(t:TypeId)(cs:Array Bool)(y:Value)(ys:List Value)(w:World):(builtin .min ts t cs (y::ys).toArray).run P w=((ys.foldlM Builtin.min2 y).run P w).andThen λv w=>.ok (.value v) w:=by
 simp[builtin,Builtin.min_]
omit [ax] in
theorem aYZ (ts:Array TypeId)(t:TypeId)(cs:Array Bool)(y:Value)(ys:List Value)(w:World):(builtin .max ts t cs (y::ys).toArray).run P w=((ys.foldlM Builtin.max2 y).run P w).andThen λv w=>.ok (.value v) w:=by
 simp[builtin,Builtin.max_]
end
end Go.Ab
namespace Go.Ab
variable [ax]
section
variable {P:Program} {o:Oper} {X:Cx} {D:Nat->Prop} {aI:Nat} {us:List Up} {g:Gt}
theorem Rel.aW3 {π:Pi}{a:Act}{w:World}(R:Rel X D π g a w){b n B s e lo:Nat}{xs:List Value}(hz:g.z b=some n)(hb:π b=some (B,s,n,e))(h0:n<=lo)(hn:s+lo+xs.length<=e)
  (hD:b<X.k->D b):Rel X D π g a (w.setCells B (s+lo) xs):=by
 obtain⟨B',s',e',fw,hle,h1,h2⟩:=R.hp.hp b n hz;rw[hb] at fw;cases fw;have hin:∀j,j<xs.length->(cl w B (s+lo+j)).isSome=true:=λj hj=>(h1 _ (by omega) (by omega)).1
 refine⟨R.tm,R.nt,R.df,⟨R.hp.am.setCells λhl=>R.hp.lb b B s n e (by rw[hz];simp) hb (by omega),R.hp.lb,λb' n' tZ=> ?_,R.hp.dj⟩,R.xt,R.ft,R.fr.setCells ?_⟩
 .obtain⟨B2,s2,e2,ED,ac6,k1,k2⟩:=R.hp.hp b' n' tZ;refine⟨B2,s2,e2,ED,ac6,λi hi he=>⟨isSome_setCells hin (k1 i hi he).1,by rw[pj];exact(k1 i hi he).2⟩,λj hj=> ?_⟩;rw[eP]
  .exact k2 j hj
  .intro e3;subst e3;by_cases eb:b'=b
   .subst eb;rw[hb] at ED;cases ED;omega
   .by_cases hc:s+lo<=s2+j/\s2+j<s+lo+xs.length
    .exact(R.hp.dj b' b B2 s2 _ e2 s _ e eb (by simp[tZ]) (by simp[hz]) ED hb (s2+j) (by omega) (by omega) (by omega) (by omega)).elim
    .omega
 .rcases o7 B X.w0.heap.size with hB|hB
  .right
   intro j hj;rcases o7 b X.k with hk|hk
   .exact⟨b,s,n,e,hk,hD hk,(R.xt b hk).symm.trans hb,by omega,by omega⟩
   .exact R.ft b B s n e hk (by simp[hz]) hb hB _ (by omega) (by omega)
  .exact .inl hB
theorem aMX {z:Nat}{x:CV}{xb:Sz×af}{l:List Fp}(h:aH (slB z x) g xb l){π:Pi}{a:Act}{w:World}(R:Rel X D π g a w){xv:Value}(hx:x.rel π xv):
  ∃news:List Value,news.length=xb.1.val*z/\xb.2.size=xb.1.val*z/\(∀j,j<xb.1.val*z->∃v,news[j]? =some v/\(xb.2.get j).rel π v)/\(∀v∈news,v.oneCell'=true)/\
   ((xb.1.val=0/\∃y c,xv=.slice y 0 c)∨∃ad c,xv=.slice (some ad) xb.1.val c/\∀j v,news[j]? =some v->w.cell? (ad.add j)=some v):=by
 cases x<;>simp only[slB] at h
 case sl b q n z' own=>
  obtain⟨_,⟨_,h1⟩,_,h2⟩:=aH.bind' h;clear h
  have tZ:z=z':=oZ h1.cI;subst tZ;cases h2 with|vw r v hz hs hv h3=>
  cases h3;obtain⟨B2,s2,q2,e2,ED,hm,_,⟨h0,y,rfl⟩| ⟨cap,rp,rfl,_⟩⟩:=hx
  .exact⟨[],by simp[h0],hs,λj hj=>by simp only[h0,RY] at hj;omega,by simp,.inl ⟨h0,y,0,rfl⟩⟩
  .obtain⟨_,xs,hl,hxs,hc⟩:=R.view hz hs hv ED hm
   have aMY:∀v∈xs,v.oneCell'=true:=λv hv=>by
    obtain⟨i,hi⟩:=aw4.1 hv;obtain⟨c,_,hr⟩:=hxs.get' hi;exact CV.Qy hr
   refine⟨xs,hl,hs,λj hj=>(jm hxs).2 j (by rw[hs];exact hj),aMY,.inr ⟨_,cap,rfl,λj v hj=>by rw[nu];exact hc j v hj⟩⟩
 case nils=>
  cases h;have hx:xv=.slice none 0 0:=hx;exact⟨[],by simp[Sz.val],by simp[af.size,Sz.val],λj hj=>by simp[Sz.val] at hj,by simp,.inl ⟨rfl,none,0,hx⟩⟩
 case fs n z' cols=>
  obtain⟨_,⟨_,h1⟩,_,h2⟩:=aH.bind' h;clear h
  have tZ:z=z':=oZ h1.cI;subst tZ;cases h2;obtain⟨hz,hx⟩:=hx;have hs:af.size [.a (.s n) cols]=n*z:=by rw[af.size_cons,af.lR,Sg.lU,hz];rfl
  rcases hx with⟨h0,y,rfl⟩| ⟨B,s,cap,rp,rfl,hc⟩
  .exact⟨[],by simp[h0,Sz.val],hs,λj hj=>by simp only[h0,Sz.val,RY] at hj;omega,by simp,.inl ⟨h0,y,0,rfl⟩⟩
  .have cell:∀j,j<n*z->∃v,cl w B (s+j)=some v/\(iP cols j).rel π v:=λj hj=>by
    obtain⟨f,v,e1,e2,e3⟩:=hc j hj;exact⟨v,(R.hp.am.st _ _ _ e2).2,by rw[e1];exact e3⟩
   have hat:∀j v,((List.range (n*z)).map λj=>(cl w B (s+j)).getD undef)[j]? =some v->j<n*z/\cl w B (s+j)=some v:=λj v hv=>by
    have hjn:j<n*z:=by
     have:=(lX.1 hv).1;simpa using this
    obtain⟨u,hu,_⟩:=cell j hjn;simp[hjn,hu] at hv
    exact⟨hjn,by rw[hu,hv]⟩
   refine⟨(List.range (n*z)).map λj=>(cl w B (s+j)).getD undef,by simp[Sz.val],hs,λj hj=> ?_,λv hv=> ?_,.inr ⟨_,cap,rfl,λj v hv=>by rw[nu];exact(hat j v hv).2⟩⟩
   .obtain⟨v,hv,hr⟩:=cell j hj;refine⟨v,?_,by rw[af.dR (by rw[Sg.lU,hz];exact hj),Sg.o8];exact hr⟩;have hj':j<n*z:=hj;rw[BA,List.getElem?_range hj'];simp[hv]
   .obtain⟨i,hi⟩:=aw4.1 hv;obtain⟨h1,h2⟩:=hat i v hi;obtain⟨u,hu,hr⟩:=cell i h1;rw[h2] at hu;cases hu;exact CV.Qy hr
 all_goals cases h
omit [ax] in
theorem aMZ {z:Nat}{y:Option Addr}{c:Nat}(w:World):(Builtin.firstCells z 0 (.slice y 0 c)).run P w=.ok #[] w:=by
 cases y<;>simp[Builtin.firstCells,loadCells,loadCellsFrom]
omit [ax] in
theorem afz {t ty e:TypeId}{z:Nat}(ht:P.underlying t=some (.slice e))(hz:iO P e=some z){base y:Option Addr}{n cap c:Nat}(h:n<=cap)(w:World):
  (Builtin.append_ #[t,t] ty #[.slice base n cap,.slice y 0 c]).run P w=.ok (.slice base n cap) w:=by
 cases base<;>simp[Builtin.append_,run_underlying ht,run_sizeOf hz,Builtin.lenOf,h,aMZ,storeCells]
omit [ax] in
theorem La {t ty e:TypeId}{z:Nat}(ht:P.underlying t=some (.slice e))(hz:iO P e=some z){B q n cap m c:Nat}{ad:Addr}{news:List Value}(h:n+m<=cap)(hl:news.length=m*z)(w:World)
  (hn:∀j v,news[j]? =some v->w.cell? (ad.add j)=some v)(h1:∀v∈news,v.oneCell'=true)(hc:∀j,j<news.length->(cl w B (q+n*z+j)).isSome=true/\fz w B (q+n*z+j)=false):
  (Builtin.append_ #[t,t] ty #[.slice (some ⟨B,q,none⟩) n cap,.slice (some ad) m c]).run P w=.ok (.slice (some ⟨B,q,none⟩) (n+m) cap) (w.setCells B (q+n*z) news):=by
 have hf:=run_firstCells_some (P:=P) w z m ad m c news hl hn;have hst:=run_storeCells_cells (P:=P) B (q+n*z) news 0 w (λj hj=>by have:=(hc j hj).1;simpa[cl] using this) (λj hj=>by have:=(hc j hj).2;simpa[fz] using this) h1;simp[Builtin.append_,run_underlying ht,run_sizeOf hz,Builtin.lenOf,h,hf,nu,hst]
theorem H' {t ty e:TypeId}{z by_:Nat}{zv:RV}(ht:P.underlying t=some (.slice e))(hz:iO P e=some z)(hb:(P.info? e).map (·.bytes)=some by_)(hv:At P e=some zv)(hl0:af.size zv.bO=z)(hby:1<=by_)
  {sv:Value}{n cap m c:Nat}{ad:Addr}{Gk news:List Value}(w:World)(hs:(sv=.slice none 0 0/\n=0/\cap=0)∨∃b,sv=.slice (some b) n cap/\∀j v,Gk[j]? =some v->w.cell? (b.add j)=some v)
  (hlo:Gk.length=n*z)(hl:news.length=m*z)(hn:∀j v,news[j]? =some v->w.cell? (ad.add j)=some v)(hg:cap<n+m)(hm:0<m)(ay9:(n+m)*by_<=140737488355328):
  ∃gc arr,(Builtin.append_ #[t,t] ty #[sv,.slice (some ad) m c]).run P w=.ok (.slice (some ⟨w.heap.size,0,none⟩) (n+m) gc) (w.drew.alloc (.cells arr e))/\n+m<=gc/\arr.size=gc*z/\∃rest,arr.toList=Gk++news++rest:=by
 obtain⟨zx,_,⟨i,hi,hzz⟩,hzr⟩:=ac7 hv w;rw[hi] at hb;have hzs:i.size=z:=by unfold iO at hz;rw[hi] at hz;simpa using hz
 have hbs:i.bytes=by_:=by simpa using hb
 have hzc:zx.cells.size=z:=by
  have:=(jm (RV.NT (hzr λ_=>none))).1;simp only[Vi] at this;omega
 have hle:n+m<=(n+m)*by_:=Nat.le_mul_of_pos_right _ (by omega)
 have yb:∀(xt gc:Nat),n+m<=gc->(Gk.toArray++news.toArray++Builtin.zeroCells zx.cells (gc-(n+m))).size=gc*z:=λxt gc hgc=>by
  simp only[Array.size_append,List.size_toArray,size_zeroCells,hzc,hlo,hl,<-p9];congr 1;omega
 rcases hs with⟨rfl,rfl,rfl⟩| ⟨b,rfl,ho⟩
 .have ho:Gk=[]:=List.eq_nil_of_length_eq_zero (by simpa using hlo);subst ho;have hr:=run_append_nil (P:=P) w t ty e i zx ht hi hzz ad m c news (by rw[hzs];exact hl) hn hm (by omega) (by rw[hbs];simp only[gW] at ay9;omega);have hge:=grownCap_ge w m 0 e;refine⟨_,_,by simpa using hr,by simpa using hge,?_,Builtin.zeroCells zx.cells (grownCap w m 0 e-m)|>.toList,?_⟩
  .have:=yb 0 (grownCap w m 0 e) (by simpa using hge);simpa using this
  .simp
 .have hr:=run_append_grow (P:=P) w t ty e i zx ht hi hzz b n cap Gk (by rw[hzs];exact hlo) ho ad m c news (by rw[hzs];exact hl) hn hg (by omega) (growslice_fits hg (by rw[hbs];exact ay9));have hge:=grownCap_ge w (n+m) cap e;refine⟨_,_,hr,hge,yb 0 _ hge,Builtin.zeroCells zx.cells (grownCap w (n+m) cap e-(n+m))|>.toList,?_⟩;simp
omit [ax] in
theorem aQA {e:TypeId}{n:Nat}{l:List Fp}(h:aH (Ab.ej ((P.info? e).map (·.bytes))) g n l):(P.info? e).map (·.bytes)=some n:=h.ej
omit [ax] in
theorem Vc {Gk news rest:List Value}{arr:Array Value}(h:arr.toList=Gk++news++rest){j:Nat}{v:Value}:(Gk[j]? =some v->arr[j]? =some v)/\(news[j]? =some v->arr[Gk.length+j]? =some v):=by
 refine⟨λhj=> ?_,λhj=> ?_⟩
 .have nR:=(lX.1 hj).1;rw[<-Vh,h,TO (by simp;omega),TO nR,hj]
 .have nR:=(lX.1 hj).1;rw[<-Vh,h,TO (by simp;omega),ac1 (by omega),show Gk.length+j-Gk.length=j by omega,hj]
theorem aJP {c:Call}{t:TypeId}{sa xa:AV}{args:List AV}{fp l0:List Fp}(ho:o.op=.call c)(hc:c.callee=.builtin .append)(ha:aH (Ab.tG Ab.DD c.args.toList) g args l0)(lP:args=[sa,xa])
  (hts:c.argTypes=#[t,t]){s x:CV}(hs:sa=.r (.c s))(hx:xa=.r (.c x))(h:aH (aDt P t s x o.dst aI) g us fp):Ad P o X D aI us g:=by
 subst hs hx lP;unfold aDt at h;split at h
 case h_2=>cases h
 rename_i e hu
 obtain⟨z,⟨_,h1⟩,_,h⟩:=aH.bind' h;obtain⟨by_,⟨_,h2⟩,_,h⟩:=aH.bind' h;obtain⟨zv,⟨_,h3⟩,_,h⟩:=aH.bind' h;obtain⟨_,⟨_,h4⟩,_,h⟩:=aH.bind' h;obtain⟨⟨xn,xk⟩,⟨_,h5⟩,_,h⟩:=aH.bind' h;have h1:=h1.ej;have h2:=aQA h2;have h3:=h3.ej;have h4:=h4.cI;simp only[cy,fA,beq_iff] at h4;have hzv:=h4.2.2;simp only[] at h;cases s with
 |nils=>
  simp only[] at h;obtain⟨_,⟨_,h6⟩,_,h⟩:=aH.bind' h;cases h;have h6:xn.val*by_<=140737488355328:=EA h6.cI;intro π a w next Q R hk hf hd hD hn;obtain⟨y1,y2,hy,YO,hr2⟩:=axn (Ki ha R);have hy:=aW2 hy;have YO:y1=.slice none 0 0:=YO;subst YO;obtain⟨news,n1,n2,n3,n4,n5⟩:=aMX h5 R hr2;simp only at n1 n2 n3 n4 n5;obtain⟨cs,er⟩:=afy (P:=P) a w ho hc;have hcn:cB (dV o.dst (.r (.c (.sl aI (.k 0) xn z true)))++[Up.new aI xk])=1:=by unfold dV cB;cases o.dst<;>rfl
  have h0:=hf aI (eO _) (by omega);by_cases hm:xn.val=0
  .obtain⟨y,c',rfl⟩:∃y c',y2=.slice y 0 c':=by
    rcases n5 with⟨_,y,c',rfl⟩| ⟨ad,c',rfl,_⟩
    .exact⟨y,c',rfl⟩
    .exact⟨some ad,c',by rw[hm]⟩
   have nZ:=afz (P:=P) (ty:=o.type) hu h1 (base:=none) (y:=y) (n:=0) (cap:=0) (c:=c') (eO _) w;have hx0:=Ax h0 (0,0,af.size xk,0)
   have R1:=(R.K8 hx0 (λb hb=>by simp only[Ai];rw[if_neg (by omega)])).new (k:=xk) (pI π aI (0,0,af.size xk,0)) hk (by rw[n2,hm];omega) (λi _ i2=>by omega) (λj hj=>by rw[n2,hm] at hj;omega)
    (λ_ _ _ _ _ _ _ _ _ i2=>by omega) (λ_ _ _ i2=>by omega)
   have R2:=R1.dst hd (v:=.r (.c (.sl aI (.k 0) xn z true))) (x:=.slice none 0 0) ⟨_,_,_,_,pI _ _ _,by simp only[cA.val,n2];omega,λ_=>by simp only[cA.val,n2];omega,.inl ⟨hm,none,rfl⟩⟩;refine PG (x:=.slice none 0 0) (w':=w) ?_ (hn _ _ (Ai π aI (0,0,af.size xk,0)) hx0 (Vt ⟨eO _,by omega⟩) ?_)
   .rw[er,hy,hts];simp[builtin,nZ]
   .rw[K' _ _ _ _ (by simp)];exact R2
  .obtain⟨ad,c',rfl,hn5⟩:∃ad c',y2=.slice (some ad) xn.val c'/\∀j v,news[j]? =some v->w.cell? (ad.add j)=some v:=by
    rcases n5 with⟨h,_⟩|h
    .exact absurd h hm
    .exact h
   obtain⟨gc,arr,nZ,hgc,yb,rest,afA⟩:=H' (P:=P) (ty:=o.type) hu h1 h2 h3 hzv h4.2.1 (sv:=.slice none 0 0) (n:=0) (cap:=0) (m:=xn.val) (c:=c') (ad:=ad) (Gk:=[]) (news:=news) w (.inl ⟨rfl,rfl,rfl⟩) (by simp) n1 hn5 (by omega) (by omega) (by simpa using h6);simp only[gW] at nZ hgc
   have R1:=(R.drew).row (k:=xk) (n:=xn) (q:=z) (cap:=gc) (arr:=arr) (t:=e) hd h0 hk hgc (by omega) n2 (λj hj=>by
    rw[n2] at hj;obtain⟨v,hv,hr⟩:=n3 j hj;exact⟨v,by simpa using(Vc afA).2 hv,hr⟩)
   refine PG (x:=.slice (some ⟨w.heap.size,0,none⟩) xn.val gc) (w':=w.drew.alloc (.cells arr e)) ?_ (hn _ _ (Ai π aI (w.heap.size,0,af.size xk,gc*z)) (Ax h0 _) (Vt ⟨eO _,by omega⟩) ?_)
   .rw[er,hy,hts];simp[builtin,nZ]
   .rw[K' _ _ _ _ (by simp)];exact R1
 |sl b q n z' own=>
  cases own with
  |false=>cases h
  |true=>
  simp only[] at h;obtain⟨_,⟨_,h6⟩,_,h⟩:=aH.bind' h;obtain⟨_,⟨_,h7⟩,_,h⟩:=aH.bind' h;cases h with|sz r hz h=>
  cases h with|vw r' sb tZ hsb hvb h=>
  obtain⟨nb,⟨_,h9⟩,_,h⟩:=aH.bind' h;obtain⟨_,⟨_,h10⟩,_,h⟩:=aH.bind' h;cases h;have h6:z=z':=oZ h6.cI;subst h6;have h7:(n.val+xn.val)*by_<=140737488355328:=EA h7.cI;rw[hz] at tZ;cases tZ;have aug:(n.add xn).val=n.val+xn.val:=by cases n<;>cases xn<;>rfl
  intro π a w next Q R hk hf hd hD hn;obtain⟨y1,y2,hy,YO,hr2⟩:=axn (Ki ha R);have hy:=aW2 hy;obtain⟨news,n1,n2,n3,n4,n5⟩:=aMX h5 R hr2;simp only at n1 n2 n3 n4 n5;obtain⟨cs,er⟩:=afy (P:=P) a w ho hc;have Zh:=af.aSN h9.ej;have hcn:cB (dV o.dst (.r (.c (.sl aI (.k 0) (n.add xn) z true)))++[Up.kill b,Up.new aI nb])=1:=by unfold dV cB;cases o.dst<;>rfl
  have h0:=hf aI (eO _) (by omega);have hDb:b<X.k->D b:=hD (.kill b) (by simp);obtain⟨B,s,e',hb,hle,k1,k2⟩:=R.hp.hp b _ hz;have oe:aI≠b:=λe=>by rw[e,hb] at h0;cases h0
  have hmul:(n.val+xn.val)*z=n.val*z+xn.val*z:=p9 _ _ _;have asm:af.size nb=(n.val+xn.val)*z:=by rw[Zh.1,hsb,n2,hmul]
  have within:∀(w':World) (y:Value) (cap:Nat),Rel X D π g a w'->(n.val+xn.val)<=cap->s+q.val+cap*z<=e'->y=.slice (some ⟨B,s+q.val,none⟩) (n.val+xn.val) cap->
    (∀i,s+q.val<=i->i<e'->(cl w' B i).isSome=true/\fz w' B i=false)->(∀j,j<(n.val+xn.val)*z->∃v,cl w' B (s+q.val+j)=some v/\(af.get nb j).rel π v)->
    (execOp a.eval o).run P w=.ok (.value y) w'->o.wp P a w next Q:=by
   intro w' y cap R' rp hce hyy hc1 hc2 nZ;have hcz:(n.val+xn.val)*z<=cap*z:=vV _ rp;have hx0:=Ax h0 (B,s+q.val,af.size nb,e')
   have R1:=((R'.kill b).K8 hx0 (λb hb=>by simp only[Ai];rw[if_neg (by omega)])).new (k:=nb) (pI π aI (B,s+q.val,af.size nb,e')) hk (by rw[asm];omega) hc1
    (λj hj=>by
     rw[asm] at hj;obtain⟨v,hv,hr⟩:=hc2 j hj;exact⟨v,hv,CV.dK hx0 _ _ hr⟩)
    (λb' s1 q1 e1 a2k hz1 hb1 i i1 i2 i3 i4=>by
     simp only[Ai,a2k,gA] at hb1;have hbb:b'≠b:=λe=>hz1 (by simp[Up.hI,e])
     have hz2:g.z b'≠none:=by simpa[Up.hI,hbb] using hz1
     exact R'.hp.dj b' b B s1 q1 e1 s _ e' hbb hz2 (by simp[hz]) hb1 hb i i3 i4 (by omega) i2)
    (λhB i i1 i2=>by
     rcases o7 b X.k with hbk|hbk
     .exact⟨b,s,_,e',hbk,hDb hbk,(R'.xt b hbk).symm.trans hb,by omega,i2⟩
     .exact R'.ft b B s _ e' hbk (by simp[hz]) hb hB i (by omega) i2)
    (λh=>R'.hp.lb b B s _ e' (by simp[hz]) hb (by omega))
   have R2:=R1.dst hd (v:=.r (.c (.sl aI (.k 0) (n.add xn) z true))) (x:=y) ⟨_,_,_,_,pI _ _ _,by rw[aug,asm];simp only[cA.val];omega,λ_=>by rw[aug,asm];simp only[cA.val];omega,.inr ⟨cap,by rw[aug];exact rp,by rw[aug];exact hyy,λ_=>hce⟩⟩;refine PG nZ (hn _ _ (Ai π aI (B,s+q.val,af.size nb,e')) hx0 (Vt ⟨eO _,by omega⟩) ?_);rw[K' _ _ _ _ (by simp)];exact R2
  have asn:∀(sv:Value) (cap:Nat) (xs:List Value) (ad:Addr) (c':Nat),y1=sv->y2=.slice (some ad) xn.val c'->(∀j v,news[j]? =some v->w.cell? (ad.add j)=some v)->xs.length=n.val*z->(∀j,j<n.val*z->∃v,xs[j]? =some v/\(af.get sb j).rel π v)->
    ((sv=.slice none 0 0/\n.val=0/\cap=0)∨∃b,sv=.slice (some b) n.val cap/\∀j v,xs[j]? =some v->w.cell? (b.add j)=some v)->0<xn.val->cap<n.val+xn.val->o.wp P a w next Q:=by
   intro sv cap xs ad c' hsv hy2 hn5 hxl hold hss hm rp;subst hy2;obtain⟨gc,arr,nZ,hgc,yb,rest,afA⟩:=H' (P:=P) (ty:=o.type) hu h1 h2 h3 hzv h4.2.1 (c:=c') (ad:=ad) (Gk:=xs) (news:=news) w hss hxl n1 hn5 rp hm h7
   have R1:=((R.drew).kill b).row (k:=nb) (n:=n.add xn) (q:=z) (cap:=gc) (arr:=arr) (t:=e) hd h0 hk (by rw[aug];exact hgc) (by omega) (by rw[asm,aug]) (λj hj=>by
    rw[asm] at hj;rw[Zh.2 j (by omega),hsb];by_cases hjn:j<n.val*z
    .obtain⟨v,hv,hr⟩:=hold j hjn;rw[if_pos hjn];exact⟨v,(Vc afA).1 hv,hr⟩
    .rw[if_neg hjn];obtain⟨v,hv,hr⟩:=n3 (j-n.val*z) (by omega);have:=(Vc afA).2 hv;rw[hxl,show n.val*z+(j-n.val*z)=j by omega] at this;exact⟨v,this,hr⟩)
   refine PG (x:=.slice (some ⟨w.heap.size,0,none⟩) (n.val+xn.val) gc) (w':=w.drew.alloc (.cells arr e)) ?_ (hn _ _ (Ai π aI (w.heap.size,0,af.size nb,gc*z)) (Ax h0 _) (Vt ⟨eO _,by omega⟩) ?_)
   .rw[er,hy,hts,hsv];simp[builtin,nZ]
   .rw[K' _ _ _ _ (by simp),<-aug];exact R1
  have aZ0:xn.val=0->∃y c',y2=.slice y 0 c':=λhm=>by
   rcases n5 with⟨_,y,c',rfl⟩| ⟨ad,c',rfl,_⟩
   .exact⟨y,c',rfl⟩
   .exact⟨some ad,c',by rw[hm]⟩
  have aZ1:xn.val≠0->∃ad c',y2=.slice (some ad) xn.val c'/\∀j v,news[j]? =some v->w.cell? (ad.add j)=some v:=λhm=>by
   rcases n5 with⟨h,_⟩|h
   .exact absurd h hm
   .exact h
  obtain⟨B2,s2,q2,e2,ED,hmq,a0T,⟨hn0,y0,rfl⟩| ⟨cap,rp,rfl,aQz⟩⟩:=YO
  .by_cases hm:xn.val=0
   .obtain⟨y,c',rfl⟩:=aZ0 hm;have nZ:=afz (P:=P) (ty:=o.type) hu h1 (base:=y0) (y:=y) (n:=0) (cap:=0) (c:=c') (eO _) w;have hs0:af.size nb=0:=by rw[asm,hm,hn0];omega
    have hx0:=Ax h0 (0,0,af.size nb,0)
    have R1:=((R.kill b).K8 hx0 (λb hb=>by simp only[Ai];rw[if_neg (by omega)])).new (k:=nb) (pI π aI (0,0,af.size nb,0)) hk (by omega) (λi _ i2=>by omega) (λj hj=>by omega)
     (λ_ _ _ _ _ _ _ _ _ i2=>by omega) (λ_ _ _ i2=>by omega)
    have R2:=R1.dst hd (v:=.r (.c (.sl aI (.k 0) (n.add xn) z true))) (x:=.slice y0 0 0) ⟨_,_,_,_,pI _ _ _,by rw[aug,hs0,hm,hn0];simp[cA.val],λ_=>by rw[aug,hs0,hm,hn0];simp[cA.val],.inl ⟨by omega,y0,rfl⟩⟩;refine PG (x:=.slice y0 0 0) (w':=w) ?_ (hn _ _ (Ai π aI (0,0,af.size nb,0)) hx0 (Vt ⟨eO _,by omega⟩) ?_)
    .rw[er,hy,hts];simp[builtin,nZ]
    .rw[K' _ _ _ _ (by simp)];exact R2
   .obtain⟨ad,c',hy2,hn5⟩:=aZ1 hm;cases y0 with
    |none=>exact asn _ 0 [] ad c' rfl hy2 hn5 (by simp[hn0]) (λj hj=>by simp only[hn0,RY] at hj;omega) (.inl ⟨rfl,hn0,rfl⟩) (by omega) (by omega)
    |some ad0=>exact asn _ 0 [] ad c' rfl hy2 hn5 (by simp[hn0]) (λj hj=>by simp only[hn0,RY] at hj;omega) (.inr ⟨ad0,by rw[hn0],λj v hj=>by simp at hj⟩) (by omega) (by omega)
  .rw[hb] at ED;cases ED;have a4y:=a0T rfl;have aMS:=aQz rfl;obtain⟨_,xs,hxl,hxs,hxc⟩:=R.view hz hsb hvb hb hmq
   have hold:∀j,j<n.val*z->∃v,xs[j]? =some v/\(af.get sb j).rel π v/\cl w B (s+q.val+j)=some v:=λj hj=>by
    obtain⟨v,hv,hr⟩:=(jm hxs).2 j (by rw[hsb];exact hj);exact⟨v,hv,hr,hxc j v hv⟩
   by_cases hm:xn.val=0
   .obtain⟨y,c',rfl⟩:=aZ0 hm;have nZ:=afz (P:=P) (ty:=o.type) hu h1 (base:=some ⟨B,s+q.val,none⟩) (y:=y) (n:=n.val) (cap:=cap) (c:=c') rp w;refine within w _ cap R (by omega) aMS (by rw[hm,km]) (λi i1 i2=>k1 i (by omega) i2) (λj hj=> ?_) (by rw[er,hy,hts];simp[builtin,nZ]);have hj':j<n.val*z:=by rw[hm] at hj;simpa using hj
    obtain⟨v,_,hr,hc⟩:=hold j hj';exact⟨v,hc,by rw[Zh.2 j (by omega),if_pos (by omega)];exact hr⟩
   .obtain⟨ad,c',hy2,hn5⟩:=aZ1 hm;by_cases R6:n.val+xn.val<=cap
    .subst hy2;have hcz:(n.val+xn.val)*z<=cap*z:=vV _ R6;have hin:∀j,j<news.length->(cl w B (s+q.val+n.val*z+j)).isSome=true/\fz w B (s+q.val+n.val*z+j)=false:=λj hj=>k1 _ (by omega) (by omega)
     have nZ:=La (P:=P) (ty:=o.type) hu h1 (B:=B) (q:=s+q.val) (n:=n.val) (cap:=cap) (m:=xn.val) (c:=c') (ad:=ad) R6 n1 w hn5 n4 hin;have R':=R.aW3 (lo:=q.val+n.val*z) (xs:=news) hz hb (by omega) (by omega) hDb;rw[show s+(q.val+n.val*z)=s+q.val+n.val*z by omega] at R';refine within _ _ cap R' R6 aMS rfl (λi i1 i2=>⟨isSome_setCells (λj hj=>(hin j hj).1) (k1 i (by omega) i2).1,by rw[pj];exact(k1 i (by omega) i2).2⟩) (λj hj=> ?_) (by rw[er,hy,hts];simp[builtin,nZ]);rw[Zh.2 j (by omega),hsb];by_cases hjn:j<n.val*z
     .obtain⟨v,hv,hr,hc⟩:=hold j hjn;rw[if_pos hjn];exact⟨v,by rw[eP (λ_=>by omega)];exact hc,hr⟩
     .rw[if_neg hjn];obtain⟨v,hv,hr⟩:=n3 (j-n.val*z) (by omega);have nR:=(lX.1 hv);have:=nS (w:=w) (B:=B) (o:=s+q.val+n.val*z) (vs:=news) (λj hj=>(hin j hj).1) nR.1;rw[show s+q.val+n.val*z+(j-n.val*z)=s+q.val+j by omega,nR.2] at this;exact⟨v,this,hr⟩
    .exact asn _ cap xs ad c' rfl hy2 hn5 hxl (λj hj=>let⟨v,hv,hr,_⟩:=hold j hj;⟨v,hv,hr⟩) (.inr ⟨_,rfl,λj v hj=>by rw[nu];exact hxc j v hj⟩) (by omega) (by omega)
 |_=>cases h
omit [ax] in
theorem aH.aHF {v:Nat}:∀{k j:Nat} {l:List Fp},aH (aHF v k) g j l->j=Nat.min v k
 |0,j,l,h=>by cases h;simp
 |k+1,j,l,h=>by
  cases h with|test h=>
  cases hx:wd (k+1) v with
  |true=>
   rw[hx] at h;cases h;have:=EA hx;show k+1=min v (k+1);omega
  |false=>
   rw[hx] at h;have h0:¬k+1<=v:=λh=>by rw[aDi h] at hx;cases hx
   have e:=aH.aHF h;rw[e];show min v k=min v (k+1);omega
omit [ax] in
theorem aH.aMx {n n':Sz}{m:Bool×Sz}{l:List Fp}(h:aH (aMx n n') g m l):m.2.val=Nat.min n'.val n.val:=by
 have least:∀n n':Sz,(Sz.least n' n).val=Nat.min n'.val n.val:=λn n'=>by cases n<;>cases n'<;>rfl
 unfold Ab.aMx at h;split at h
 .split at h
  .obtain⟨j,⟨_,h1⟩,_,h2⟩:=aH.bind' h;cases h2;exact aH.aHF h1
  .cases h;rfl
 .cases h;exact least _ _
theorem aQB {c:Call}{t:TypeId}{da xa:AV}{args:List AV}{fp l0:List Fp}(ho:o.op=.call c)(hc:c.callee=.builtin .copy)(ha:aH (Ab.tG Ab.DD c.args.toList) g args l0)(lP:args=[da,xa])
  (hts:c.argTypes[0]? =some t){d x:CV}(hs:da=.r (.c d))(hx:xa=.r (.c x))(h:aH (copyV P t d x o.dst) g us fp):Ad P o X D aI us g:=by
 subst hs hx lP;unfold copyV at h;split at h
 case h_2=>cases h
 rename_i e hu
 obtain⟨z,⟨_,h1⟩,_,h⟩:=aH.bind' h;have h1:=h1.ej;split at h
 case h_2=>cases h
 rename_i b q n z1 w1 b' q' n' z2 w2 _
 obtain⟨_,⟨_,h2⟩,_,h'⟩:=aH.bind' h;clear h
 obtain⟨_,⟨_,h3⟩,_,h⟩:=aH.bind' h';clear h'
 have h2:=h2.cI;simp only[cy,beq_iff] at h2;obtain⟨e1,e2⟩:=h2;obtain⟨⟨fl,m⟩,⟨_,h6⟩,_,h'⟩:=aH.bind' h;clear h
 have hmv:m.val=Nat.min n'.val n.val:=h6.aMx;clear h6
 cases h' with|vw r' v0 tZ hs0 hv0 h=>
 cases h with|sz r hz h=>
 cases h
 have hsv:af.size (cond fl (tF v0) v0)=af.size v0/\∀j,j<af.size v0->af.get (cond fl (tF v0) v0) j=af.get v0 j:=by
  cases fl
  .exact⟨rfl,λ_ _=>rfl⟩
  .exact yc v0
 have hs:af.size (cond fl (tF v0) v0)=m.val*z:=hsv.1.trans hs0;have hv:q'.val+m.val*z<=r'->∀j,j<m.val*z->af.get (cond fl (tF v0) v0) j=g.c b' (q'.val+j):=λhb j hj=>(hsv.2 j (by rw[hs0];exact hj)).trans (hv0 hb j hj)
 generalize cond fl (tF v0) v0=v at hs hv ⊢
 clear hsv hs0 hv0
 subst e1 e2;intro π a w next Q R hk hf hd hD hn;obtain⟨y1,y2,hy,YO,hr2⟩:=axn (Ki ha R);have hy:=aW2 hy;obtain⟨cs,er⟩:=afy (P:=P) a w ho hc
 have key:∀(w':World) (g':Gt),(execOp a.eval o).run P w=.ok (.value (.int .i64 ((m.val:Nat):Int))) w'->Rel X D π g' a w'->
   cE [Up.c b q v] g=g'->o.wp P a w next Q:=by
  intro w' g' nZ R' hg;refine PG nZ (hn _ _ π (Ext.refl _) (λb h=>.inl h) ?_);rw[K' _ _ _ _ (by simp),hg];exact R'.dst hd rfl
 by_cases hm:m.val=0
 .have hv0:af.size v=0:=by rw[hs,hm,RY]
  have hg:cE [Up.c b q v] g=g:=by
   show(Up.c b q v).hI g=g;simp only[Up.hI]
   have:(λb' j=>if b'=b/\q.val<=j/\j<q.val+af.size v then af.get v (j-q.val) else g.c b' j)=g.c:=by
    funext b' j;rw[if_neg (by omega)]
   rw[this]
  have hvv:∀{b q n z own} {y:Value},CV.rel π (.sl b q n z own) y->∃ad cap,y=.slice ad n.val cap:=λhr=>by
   obtain⟨_,_,_,_,_,_,_,⟨h,y,rfl⟩| ⟨cap,_,rfl,_⟩⟩:=hr
   .exact⟨_,_,by rw[h]⟩
   .exact⟨_,_,rfl⟩
  obtain⟨ad1,c1,rfl⟩:=hvv YO;obtain⟨ad2,c2,rfl⟩:=hvv hr2
  have hf0:(Builtin.firstCells z 0 (.slice ad2 n'.val c2)).run P w=.ok #[] w:=by
   cases ad2<;>simp[Builtin.firstCells,loadCells,loadCellsFrom]
  refine key w g ?_ R hg;rw[er,hy];rw[hmv] at hm
  have hc0:(Builtin.copy_ c.argTypes o.type #[.slice ad1 n.val c1,.slice ad2 n'.val c2]).run P w=.ok (goInt 0) w:=by
   cases ad1<;>simp[Builtin.copy_,hts,run_underlying hu,run_sizeOf h1,Builtin.lenOf,hm,hf0,storeCells]
  simp[builtin,hc0,hm,hmv,goInt]
 .have oe:n.val≠0/\n'.val≠0:=by
   rw[hmv] at hm;constructor<;>(intro e;apply hm;rw[e];simp[Nat.min_def])
  obtain⟨B,s,r1,e1,hb,hm1,_,⟨h,_⟩| ⟨c1,hc1,rfl,_⟩⟩:=YO
  .exact absurd h oe.1
  obtain⟨B',s',r2,e1',fw,hm2,_,⟨h,_⟩| ⟨c2,hc2,rfl,_⟩⟩:=hr2
  .exact absurd h oe.2
  have l1:m.val*z<=n.val*z:=vV _ (by rw[hmv];exact Nat.min_le_right _ _);have l2:m.val*z<=n'.val*z:=vV _ (by rw[hmv];exact Nat.min_le_left _ _);obtain⟨_,xs,hxl,hxs,hxc⟩:=R.view tZ hs hv fw (by omega);rw[hmv] at hxl;have hfc:=run_firstCells_some (P:=P) w z (Nat.min n'.val n.val) ⟨B',s'+q'.val,none⟩ n'.val c2 xs hxl (λj v hj=>by rw[nu];exact hxc j v hj);obtain⟨B0,s0,e0,Qz,hle,k1,k2⟩:=R.hp.hp b _ hz;rw[hb] at Qz;cases Qz;rw[hmv] at l1 hs
  have hst:=run_storeCells_cells (P:=P) B (s+q.val) xs 0 w (λj hj=>(k1 _ (by omega) (by omega)).1) (λj hj=>(k1 _ (by omega) (by omega)).2) (λv hv=>by
   obtain⟨i,hi⟩:=aw4.1 hv;obtain⟨c,_,hr⟩:=hxs.get' hi;exact CV.Qy hr)
  have R':=R.set (o:=q) hz hb (by omega) hxs (hD (.c b q v) (by simp));refine key _ _ ?_ R' rfl;rw[er,hy];simp[builtin,Builtin.copy_,hts,run_underlying hu,run_sizeOf h1,Builtin.lenOf,hfc,hst,goInt,hmv]
end
end Go.Ab
namespace Go.Ab
variable [ax]
def hC (l:List (Option af))(b j:Nat):CV:=match(l[b]?).getD none with
 |some k=>if j<k.size then k.get j else .f .u
 |none=>.f .u
def hZ (l:List (Option af))(b:Nat):Option Nat:=((l[b]?).getD none).map af.size
def after:List af->List Ch->List (Option af)
 | [],_=>[]
 |b::bs,.mT::cs=>some b::after bs cs
 |_::bs,.set b::cs=>some b::after bs cs
 |_::bs,.kill::cs=>none::after bs cs
 |_::bs,[]=>none::after bs []
omit [ax] in
theorem nA:∀(h:List af) (cs:List Ch),(after h cs).length=h.length
 | [],_=>rfl
 |_::bs,.mT::cs=>by simp[after,nA bs cs]
 |_::bs,.set b::cs=>by simp[after,nA bs cs]
 |_::bs,.kill::cs=>by simp[after,nA bs cs]
 |_::bs,[]=>by simp[after,nA bs []]
def o9.heap (r:o9)(h:List af):List (Option af):=after h r.ya++r.news.map some
def R7 (cs:List Ch)(b:Nat):Prop:=cs[b]? ≠some .mT
def ti (π:Pi)(w0:World)(h:List af)(res:o9):Ending->World->Prop:=λe w'=>∃π' v,e=.returned v/\Ext π π'/\res.val.rel π' v/\rW π' (hC (res.heap h)) (hZ (res.heap h)) w'/\cg w0 (CC π h.length (R7 res.ya)) w'/\
   (∀b,π' b≠none->b<h.length+res.news.length)/\
   (∀b B s q e,h.length<=b->π' b=some (B,s,q,e)->B<w0.heap.size->∀i,s<=i->i<e->CC π h.length (R7 res.ya) B i)
def Sound (P:Program)(f:FuncId)(F:Ey):Prop:=
 ∀args h res,(F args h).eval=some res->∀(w:World) (π:Pi) (vs:Array Value),bj (AV.rel π) args vs.toList->rW π (hC (h.map some)) (hZ (h.map some)) w->(∀b,π b≠none->b<h.length)->
  ((callFunc f vs).run P w=.ok (.enter f vs) w/\Calls P f vs w (ti π w h res))∨∃v,(callFunc f vs).run P w=.ok (.value v) w/\ti π w h res (.returned v) w
omit [ax] in
theorem T.aW4 {t:T}{g:Gt}{r:o9}{l:List Fp}(h:aH t.rd g r l):t.eval=some r:=by
 induction t generalizing l with
 |leaf r=>cases h;rfl
 |fail=>cases h
 |test x a b iha ihb=>
  cases h with|test h=>
  cases x
  .exact ihb h
  .exact iha h
 |opt x k ih=>
  cases h with|opt hx h=>
  subst hx;exact ih _ h
def piL (π:Pi)(vs:List Vw):Pi:=λj=>match vs[j]? with
 |some v=>match π v.b with
  |some (B,s,_,e)=>some (B,s+v.o.val,v.n,if v.own then e else s+v.o.val+v.n)
  |none=>none
 |none=>none
def NV (vs kl:List Vw):Prop:=∃t,kl=vs++t
omit [ax] in
theorem NV.refl (vs:List Vw):NV vs vs:=⟨[],by simp⟩
omit [ax] in
theorem NV.trans {a b c:List Vw}(h:NV a b)(k:NV b c):NV a c:=by
 obtain⟨t,rfl⟩:=h;obtain⟨u,rfl⟩:=k;exact⟨t++u,by simp⟩
omit [ax] in
theorem NV.get {vs kl:List Vw}(h:NV vs kl){j:Nat}{v:Vw}(hj:vs[j]? =some v):kl[j]? =some v:=by
 obtain⟨t,rfl⟩:=h;rw[TO (lX.1 hj).1,hj]
omit [ax] in
theorem NV.length {vs kl:List Vw}(h:NV vs kl):vs.length<=kl.length:=by
 obtain⟨t,rfl⟩:=h;simp
omit [ax] in
theorem NV.ext {π:Pi}{vs kl:List Vw}(h:NV vs kl):Ext (piL π vs) (piL π kl):=by
 intro j p hp;unfold piL at hp ⊢;cases hj:vs[j]? with
 |none=>rw[hj] at hp;cases hp
 |some v=>rw[h.get hj];rw[hj] at hp;exact hp
def Kj (π:Pi)(vs:List Vw):Prop:=
 (∀(i j:Nat) (v v':Vw),i≠j->vs[i]? =some v->vs[j]? =some v'->v.b=v'.b->(v.o.val+v.n<=v'.o.val∨v'.o.val+v'.n<=v.o.val)/\(v.own=false∨v'.own=false))/\
 ∀(i:Nat) (v:Vw),vs[i]? =some v->∃B s q e,π v.b=some (B,s,q,e)/\v.o.val+v.n<=q/\(v.own=true->v.o.val+v.n=q)
omit [ax] in
theorem Kj.nil (π:Pi):Kj π []:=⟨λi j v v' _ h=>by simp at h,λi v h=>by simp at h⟩
omit [ax] in
theorem ext_eq {o:cA}{cB:Sz}{z c n:Nat}(h:ext o cB z=some (c,n)):o.val=c/\cB.val*z=n:=by
 unfold ext at h;split at h
 .simp only[jY,qG] at h;exact h
 .cases h
omit [ax] in
theorem aJQ {b:Nat}{o:cA}{cB:Sz}{z:Nat}{vs:List Vw}(h:atY b (ext o cB z) vs=true):∀v∈vs,v.b=b->(o.val+cB.val*z<=v.o.val∨v.o.val+v.n<=o.val):=λv hv hb=>by
 have:=aw8.1 h v hv;rw[hb,NL] at this;simp only[K0,Bool.false_or] at this;split at this
 .rename_i o1 n1 o2 n2 h1 h2
  obtain⟨e1,e2⟩:=ext_eq h1;obtain⟨e3,e4⟩:=ext_eq h2;simp only[akq,fA] at this;rw[e1,e2,e3,Vw.n,e4];exact this
 .cases this
omit [ax] in
theorem Kj.snoc {π:Pi}{vs:List Vw}(h:Kj π vs)(v:Vw)(ha:atY v.b (ext v.o v.cB v.z) vs=true)(hb:∃B s q e,π v.b=some (B,s,q,e)/\v.o.val+v.n<=q/\(v.own=true->v.o.val+v.n=q))(pM:v.own=true->∀v'∈vs,v'.b=v.b->v'.own=false):Kj π (vs++[v]):=by
 have hap:=aJQ ha
 have aCz:∀(i:Nat) (w:Vw),(vs++[v])[i]? =some w->(i<vs.length/\vs[i]? =some w)∨(i=vs.length/\w=v):=λi w hw=>by
  rcases o7 i vs.length with hi|hi
  .rw[TO hi] at hw;exact .inl ⟨hi,hw⟩
  .rw[ac1 hi] at hw
   have:i-vs.length=0:=by
    have:=(lX.1 hw).1;simp at this;omega
   rw[this] at hw;exact .inr ⟨by omega,by simpa using hw.symm⟩
 refine⟨λi j x y hij hx hy hxy=> ?_,λi x hx=> ?_⟩
 .rcases aCz i x hx with⟨hi,hx'⟩| ⟨hi,rfl⟩
  .rcases aCz j y hy with⟨hj,hy'⟩| ⟨hj,rfl⟩
   .exact h.1 i j x y hij hx' hy' hxy
   .have hm:=List.mem_of_getElem? hx';refine⟨(hap x hm hxy).symm,?_⟩;cases hvo:y.own with
    |false=>exact .inr rfl
    |true=>exact .inl (pM hvo x hm hxy)
  .rcases aCz j y hy with⟨hj,hy'⟩| ⟨hj,rfl⟩
   .have hm:=List.mem_of_getElem? hy';refine⟨hap y hm hxy.symm,?_⟩;cases hvo:x.own with
    |false=>exact .inl rfl
    |true=>exact .inr (pM hvo y hm hxy.symm)
   .omega
 .rcases aCz i x hx with⟨hi,hx'⟩| ⟨hi,rfl⟩
  .exact h.2 i x hx'
  .exact hb
omit [ax] in
theorem Zi {b:Nat}{e:Option (Nat×Nat)}:∀{vs:List Vw} {i0 i d:Nat} {ow:Bool},aaW b e vs i0=some (i,d,ow)->∃k v o n o' n',i=i0+k/\vs[k]? =some v/\v.b=b/\e=some (o,n)/\ext v.o v.cB v.z=some (o',n')/\o'<=o/\o+n<=o'+n'/\d=o-o'/\ow=v.own
 | [],_,_,_,_,h=>by simp[aaW] at h
 |v::vs,i0,i,d,ow,h=>by
  have next:aaW b e vs (i0+1)=some (i,d,ow)->∃k u o n o' n',i=i0+k/\(v::vs)[k]? =some u/\u.b=b/\e=some (o,n)/\ext u.o u.cB u.z=some (o',n')/\o'<=o/\o+n<=o'+n'/\d=o-o'/\ow=u.own:=λh=>by
   obtain⟨k,v',o,n,o',n',h1,h2,h3⟩:=Zi h;exact⟨k+1,v',o,n,o',n',by omega,by simpa using h2,h3⟩
  simp only[aaW] at h;split at h
  .exact next h
  .rename_i hb
   rw[beq_iff] at hb;split at h
   .rename_i o n o' n' h1
    split at h
    .rename_i hc
     cases h;simp only[cy,fA] at hc;exact⟨0,v,o,n,o',n',rfl,rfl,hb,rfl,h1,hc.1,hc.2,rfl,rfl⟩
    .exact next h
   .exact next h
omit [ax] in
theorem yd {π:Pi}{vs:List Vw}{j:Nat}{v:Vw}(h:vs[j]? =some v){B s q e:Nat}(hb:π v.b=some (B,s,q,e)):piL π vs j=some (B,s+v.o.val,v.n,if v.own then e else s+v.o.val+v.n):=by
 unfold piL;rw[h];simp only[hb]
omit [ax] in
theorem axo (vs:List Vw)(v:Vw):(vs++[v])[vs.length]? =some v:=by simp
abbrev Loc {α:Type}(R:Pi->α->Value->Prop)(π:Pi)(vs:List Vw)(a':α)(kl:List Vw)(x:Value):Prop:=NV vs kl/\(Kj π vs->Kj π kl/\R (piL π kl) a' x)
theorem aDY {g:Gt}{π:Pi}{c c':CV}{x:Value}{vs kl:List Vw}{l:List Fp}(h:aH (aR5 c vs) g (c',kl) l)(hx:c.rel π x):Loc CV.rel π vs c' kl x:=by
 cases c<;>simp only[aR5] at h
 case ptr b o n=>
  obtain⟨B,s,q,e,hp,hx,hm⟩:=hx;split at h
  .rename_i i d ow hf
   cases h;obtain⟨k,v,o1,n1,o2,n2,hk,hv,hb,h1,h2,h3,h4,h5,h6⟩:=Zi hf;obtain⟨e1,e2⟩:=ext_eq h1;obtain⟨e3,e4⟩:=ext_eq h2;refine⟨NV.refl _,λok=>⟨ok,?_⟩⟩;rw[<-hb] at hp;rw[show i=k by omega];simp only[Sz.val,Uo] at e2;refine⟨_,_,_,_,yd hv hp,?_,?_⟩
   .rw[hx,e1,e3];simp only[cA.val];congr 3;omega
   .show d+n<=v.n;unfold Vw.n;omega
  .obtain⟨_,⟨_,h1⟩,_,h⟩:=aH.bind' h;cases h;refine⟨⟨_,rfl⟩,λok=>⟨ok.snoc ⟨b,o,.l 1,n,false,false⟩ h1.cI ⟨B,s,q,e,hp,by simp only[Vw.n,Sz.val,Uo];exact hm,λh=>by cases h⟩ (λh=>by cases h),?_⟩⟩;exact⟨_,_,_,_,yd (axo vs ⟨b,o,.l 1,n,false,false⟩) hp,by rw[hx];rfl,by simp[cA.val,Vw.n,Sz.val]⟩
 case cl f b o n=>
  obtain⟨B,s,q,e,hp,hx,hm⟩:=hx;split at h
  .rename_i i d ow hf
   cases h;obtain⟨k,v,o1,n1,o2,n2,hk,hv,hb,h1,h2,h3,h4,h5,h6⟩:=Zi hf;obtain⟨e1,e2⟩:=ext_eq h1;obtain⟨e3,e4⟩:=ext_eq h2;refine⟨NV.refl _,λok=>⟨ok,?_⟩⟩;rw[<-hb] at hp;rw[show i=k by omega];simp only[Sz.val,Uo] at e2;refine⟨_,_,_,_,yd hv hp,?_,?_⟩
   .rw[hx];exact cM (λt=>Value.func (.func f) #[] #[.pointer (some ⟨B,t,none⟩)]) (by rw[e1,e3];simp only[cA.val];omega)
   .show d+n<=v.n;unfold Vw.n;omega
  .obtain⟨_,⟨_,h1⟩,_,h⟩:=aH.bind' h;cases h;refine⟨⟨_,rfl⟩,λok=>⟨ok.snoc ⟨b,o,.l 1,n,false,false⟩ h1.cI ⟨B,s,q,e,hp,by simp only[Vw.n,Sz.val,Uo];exact hm,λh=>by cases h⟩ (λh=>by cases h),?_⟩⟩;exact⟨_,_,_,_,yd (axo vs ⟨b,o,.l 1,n,false,false⟩) hp,by rw[hx];rfl,by simp[cA.val,Vw.n,Sz.val]⟩
 case sl b o len z own=>
  obtain⟨B,s,q,e,hp,hm,pM,hx⟩:=hx;split at h
  .rename_i i d ow hf
   cases h;obtain⟨k,v,o1,n1,o2,n2,hk,hv,hb,h1,h2,h3,h4,h5,h6⟩:=Zi hf;obtain⟨e1,e2⟩:=ext_eq h1;obtain⟨e3,e4⟩:=ext_eq h2;refine⟨NV.refl _,λok=>⟨ok,?_⟩⟩;rw[<-hb] at hp;rw[show i=k by omega];obtain⟨_,_,_,_,uk,hv1,hv2⟩:=ok.2 k v hv;rw[hp] at uk;cases uk;have hvn:v.n=n2:=e4;refine⟨_,_,_,_,yd hv hp,?_,λho=> ?_,?_⟩
   .show d+len.val*z<=v.n;omega
   .simp only[cy] at ho;rw[h6] at ho;have a1:=pM ho.1;have a2:=hv2 ho.2;show d+len.val*z=v.n;omega
   .refine hx.imp id λ⟨cap,rp,hx,hc⟩=>⟨cap,rp,?_,λho=> ?_⟩
    .show x=Value.slice (some ⟨B,s+v.o.val+d,none⟩) len.val cap;rw[hx,show s+o.val=s+v.o.val+d by omega]
    .simp only[cy] at ho;have a1:=hc ho.1;rw[h6] at ho;rw[if_pos ho.2];show s+v.o.val+d+cap*z<=e;omega
  .obtain⟨_,⟨_,h1⟩,_,h⟩:=aH.bind' h;cases h;generalize hu:(own&&vs.all λv=> !Nat.beq v.b b|| !v.own)=u
   have hu1:u=true->own=true/\∀v'∈vs,v'.b=b->v'.own=false:=λh=>by
    rw[<-hu] at h;simp only[cy] at h;refine⟨h.1,λv' hv' fw=> ?_⟩;have:=aw8.1 h.2 v' hv';rw[fw,NL] at this;simpa using this
   refine⟨⟨_,rfl⟩,λok=>⟨ok.snoc ⟨b,o,len,z,true,u⟩ h1.cI ⟨B,s,q,e,hp,hm,λho=>pM (hu1 ho).1⟩ (λho=>(hu1 ho).2),?_⟩⟩;refine⟨_,_,_,_,yd (axo vs ⟨b,o,len,z,true,u⟩) hp,by simp[cA.val,Vw.n,Sz.val],λ_=>by simp[cA.val,Vw.n,Sz.val],?_⟩;refine hx.imp id λ⟨cap,rp,hx,hc⟩=>⟨cap,rp,by rw[hx];rfl,λho=> ?_⟩
   rw[if_pos ho];have:=hc (hu1 ho).1;show s+o.val+0+cap*z<=e;omega
 all_goals (cases h;exact⟨NV.refl _,λok=>⟨ok,hx⟩⟩)
omit [ax] in
theorem aso {α:Type}{R:Pi->α->Value->Prop}(mono:∀{π π':Pi},Ext π π'->∀a x,R π a x->R π' a x){f:α->List Vw->Rd (α×List Vw)}{ff:List α->List Vw->Rd (List α×List Vw)}(hff:∀vs,ff [] vs=.ret ([],vs))(aZ2:∀a l vs,ff (a::l) vs=(f a vs).bind λx=>(ff l x.2).bind λy=>.ret (x.1::y.1,y.2))
  {g:Gt}{π:Pi}(hf:∀{a a' vs kl l x},aH (f a vs) g (a',kl) l->R π a x->Loc R π vs a' kl x):∀{as as':List α} {vs kl:List Vw} {l:List Fp} {xs:List Value},aH (ff as vs) g (as',kl) l->bj (R π) as xs->NV vs kl/\(Kj π vs->Kj π kl/\bj (R (piL π kl)) as' xs)
 | [],as',vs,kl,l,xs,h,hx=>by
  rw[hff] at h;cases h;exact⟨NV.refl _,λok=>⟨ok,by cases xs with|nil=>trivial|cons=>exact hx.elim⟩⟩
 |a::as,as',vs,kl,l,[],h,hx=>hx.elim
 |a::as,as',vs,kl,l,x::xs,h,⟨hx,hxs⟩=>by
  rw[aZ2] at h;obtain⟨p,⟨_,h1⟩,_,h⟩:=aH.bind' h;obtain⟨y,⟨_,h2⟩,_,h⟩:=aH.bind' h;cases h;obtain⟨L1,L2⟩:=hf (a':=p.1) (kl:=p.2) h1 hx;obtain⟨p1,p2⟩:=aso mono hff aZ2 hf (as:=as) (as':=y.1) (kl:=y.2) h2 hxs;refine⟨L1.trans p1,λok=> ?_⟩;obtain⟨ok1,r1⟩:=L2 ok;obtain⟨ok2,r2⟩:=p2 ok1;exact⟨ok2,mono p1.ext _ _ r1,r2⟩
theorem afB {g:Gt}{π:Pi}:∀{b b':af} {vs kl:List Vw} {l:List Fp} {f:Nat->Value},aH (aMv b vs) g (b',kl) l->(∀j,j<af.size b->(af.get b j).rel π (f j))->
  NV vs kl/\(Kj π vs->Kj π kl)/\af.size b'=af.size b/\(Kj π vs->∀j,j<af.size b->(af.get b' j).rel (piL π kl) (f j))
 | [],b',vs,kl,l,f,h,_=>by
  cases h;exact⟨NV.refl _,id,rfl,λ_ j hj=>by rw[af.lR] at hj;omega⟩
 |.c v::r,b',vs,kl,l,f,h,hx=>by
  obtain⟨p,⟨_,h1⟩,_,h⟩:=aH.bind' h;obtain⟨y,⟨_,h2⟩,_,h⟩:=aH.bind' h;cases h;obtain⟨L1,L2⟩:=aDY (c':=p.1) (kl:=p.2) h1 (hx 0 (by rw[af.size_cons,Sg.kt];omega))
  obtain⟨p1,p2,p3,p4⟩:=afB (b:=r) (b':=y.1) (kl:=y.2) (f:=λj=>f (j+1)) h2 (λj hj=>by
   have:=hx (j+1) (by rw[af.size_cons,Sg.kt];omega);rwa [<-af.ku (l:=r) (j':=j) (by omega) (by omega)] at this)
  refine⟨L1.trans p1,λok=>p2 (L2 ok).1,by rw[af.size_cons,af.size_cons,p3];rfl,λok j hj=> ?_⟩;obtain⟨ok1,r1⟩:=L2 ok;cases j with
  |zero=>exact CV.dK p1.ext _ _ r1
  |succ j=>
   rw[<-af.ku (l:=y.1) (j':=j) (by omega) (by omega)];exact p4 ok1 j (by rw[af.size_cons,Sg.kt] at hj;omega)
 |.a n cols::r,b',vs,kl,l,f,h,hx=>by
  obtain⟨y,⟨_,h2⟩,_,h⟩:=aH.bind' h;cases h
  obtain⟨p1,p2,p3,p4⟩:=afB (b:=r) (b':=y.1) (kl:=y.2) (f:=λj=>f (j+(Sg.a n cols).size)) h2 (λj hj=>by
   have:=hx (j+(Sg.a n cols).size) (by rw[af.size_cons];omega);rwa [af.lx (by omega),Nat.add_sub_cancel] at this)
  refine⟨p1,p2,by rw[af.size_cons,af.size_cons,p3],λok j hj=> ?_⟩;rw[af.size_cons] at hj;by_cases lZ:j<(Sg.a n cols).size
  .have:=hx j (by rw[af.size_cons];omega);rw[af.dR lZ,Sg.o8] at this;rw[af.dR lZ,Sg.o8];obtain⟨v,hv⟩:=aCy cols j;rw[hv] at this ⊢;exact this
  .rw[af.lx (by omega)];have:=p4 ok (j-(Sg.a n cols).size) (by omega);rwa [Nat.sub_add_cancel (by omega)] at this
theorem aDZ {g:Gt}{π:Pi}{r r':RV}{x:Value}{vs kl:List Vw}{l:List Fp}(h:aH (aR6 r vs) g (r',kl) l)(hx:r.rel π x):Loc RV.rel π vs r' kl x:=by
 cases r with
 |c c=>
  obtain⟨p,⟨_,h1⟩,_,h⟩:=aH.bind' h;cases h;exact aDY (c':=p.1) (kl:=p.2) h1 hx
 |agg cs=>
  obtain⟨p,⟨_,h1⟩,_,h⟩:=aH.bind' h;cases h;obtain⟨arr,rfl,hr⟩:=hx;obtain⟨l1,l2⟩:=jm hr
  obtain⟨p1,p2,p3,p4⟩:=afB (b':=p.1) (kl:=p.2) (f:=λj=>arr.toList.getD j undef) h1 (λj hj=>by
   obtain⟨x,hx,hr⟩:=l2 j hj;simp only[List.getD,hx,KY];exact hr)
  refine⟨p1,λok=>⟨p2 ok,arr,rfl,xP (by rw[l1,p3]) λj hj=> ?_⟩⟩;obtain⟨x,hx,_⟩:=l2 j (by omega);have:=p4 ok j (by omega);simp only[List.getD,hx,KY] at this;exact⟨x,hx,this⟩
theorem aza {g:Gt}{π:Pi}{cs RZ:List RV}{xs:List Value}{vs kl:List Vw}{l:List Fp}(h:aH (aDs cs vs) g (RZ,kl) l)(hx:bj (RV.rel π) cs xs):NV vs kl/\(Kj π vs->Kj π kl/\bj (RV.rel (piL π kl)) RZ xs):=
 aso (R:=RV.rel) (λh a x r=>RV.dK h a x r) (f:=aR6) (ff:=aDs) (λ_=>rfl) (λ_ _ _=>rfl) (λh hx=>aDZ h hx) h hx
theorem aQC {g:Gt}{π:Pi}{r r':AV}{x:Value}{vs kl:List Vw}{l:List Fp}(h:aH (aWK r vs) g (r',kl) l)(hx:r.rel π x):Loc AV.rel π vs r' kl x:=by
 cases r with
 |r c=>
  obtain⟨p,⟨_,h1⟩,_,h⟩:=aH.bind' h;cases h;exact aDZ (r':=p.1) (kl:=p.2) h1 hx
 |tup cs=>
  obtain⟨p,⟨_,h1⟩,_,h⟩:=aH.bind' h;cases h;obtain⟨arr,rfl,hr⟩:=hx;obtain⟨p1,p2⟩:=aza (RZ:=p.1) (kl:=p.2) h1 hr;exact⟨p1,λok=>⟨(p2 ok).1,arr,rfl,(p2 ok).2⟩⟩
 |fn f cs=>
  obtain⟨p,⟨_,h1⟩,_,h⟩:=aH.bind' h;cases h;obtain⟨arr,rfl,hr⟩:=hx;obtain⟨p1,p2⟩:=aza (RZ:=p.1) (kl:=p.2) h1 hr;exact⟨p1,λok=>⟨(p2 ok).1,arr,rfl,(p2 ok).2⟩⟩
 |Vk=>cases h;exact⟨NV.refl _,λok=>⟨ok,trivial⟩⟩
theorem aM0 {g:Gt}{π:Pi}{cs RZ:List AV}{xs:List Value}{vs kl:List Vw}{l:List Fp}(h:aH (aJG cs vs) g (RZ,kl) l)(hx:bj (AV.rel π) cs xs):NV vs kl/\(Kj π vs->Kj π kl/\bj (AV.rel (piL π kl)) RZ xs):=
 aso (R:=AV.rel) (λh a x r=>AV.dK h a x r) (f:=aWK) (ff:=aJG) (λ_=>rfl) (λ_ _ _=>rfl) (λh hx=>aQC h hx) h hx
structure aD0 (π:Pi)(g:Gt)(w:World)(vs:List Vw)(v:Vw)(k:af):Prop where
 live:∃q,g.z v.b=some q
 size:af.size k=v.n
 rel:∀B s q e,π v.b=some (B,s,q,e)->∀j,j<v.n->∃x,cl w B (s+v.o.val+j)=some x/\(af.get k j).rel (piL π vs) x
theorem aD0.pre {π:Pi}{g:Gt}{w:World}{vs kl:List Vw}{v:Vw}{k:af}(h:aD0 π g w vs v k)(p:NV vs kl):aD0 π g w kl v k:=
 ⟨h.live,h.size,λB s q e hb j hj=>let⟨x,hx,hr⟩:=h.rel B s q e hb j hj;⟨x,hx,CV.dK p.ext _ _ hr⟩⟩
omit [ax] in
theorem aD1 {α:Type}{l:List α}{x y:α}{j:Nat}(h:(l++[x])[j]? =some y):l[j]? =some y∨(j=l.length/\y=x):=by
 rcases o7 j l.length with hj|hj
 .rw[TO hj] at h;exact .inl h
 .rw[ac1 hj] at h
  have:j-l.length=0:=by
   have:=(lX.1 h).1;simp at this;omega
  rw[this] at h;exact .inr ⟨by omega,by simpa using h.symm⟩
theorem aD2 {π:Pi}{g:Gt}{w:World}(H:rW π g.c g.z w):∀{fuel i:Nat} {vs kl:List Vw} {acc lh:List af} {l:List Fp},aH (aR7 fuel i vs acc) g (lh,kl) l->acc.length=i->i<=vs.length->Kj π vs->(∀(j:Nat) v k,vs[j]? =some v->acc[j]? =some k->aD0 π g w vs v k)->
  NV vs kl/\Kj π kl/\lh.length=kl.length/\∀(j:Nat) v k,kl[j]? =some v->lh[j]? =some k->aD0 π g w kl v k
 |0,_,_,_,_,_,_,h,_,_,_,_=>by cases h
 |fuel+1,i,vs,kl,acc,lh,l,h,hi,hi2,ok,aM1=>by
  simp only[aR7] at h;split at h
  .rename_i hn
   cases h;have:vs.length<=i:=List.getElem?_eq_none_iff.1 hn;exact⟨NV.refl _,ok,by omega,aM1⟩
  .rename_i v hv
   have nR:i<vs.length:=(lX.1 hv).1;cases h with|vw q k hz hs hk h=>
   obtain⟨x,⟨_,h1⟩,_,h⟩:=aH.bind' h;obtain⟨B,s,e,hb,hle,_,hc⟩:=H.hp _ _ hz;obtain⟨_,_,_,_,fw,hvb,_⟩:=ok.2 i v hv;rw[hb] at fw;cases fw;have hvn:v.cB.val*v.z=v.n:=rfl;rw[hvn] at hs hk;have hk:=hk hvb;generalize hkk:aQn v.sl v.z k=k2 at h1
   have hk2:af.size k2=af.size k/\∀j,j<af.size k->af.get k2 j=af.get k j:=by
    rw[<-hkk];unfold aQn;cases v.sl
    .exact⟨rfl,λ_ _=>rfl⟩
    .obtain⟨t1,t2⟩:=Zd v.z k;obtain⟨t3,t4⟩:=axh (asb v.z k);exact⟨t3.trans t1,λj hj=>(t4 j).trans (t2 j hj)⟩
   have cell:∀j,j<v.n->∃y,cl w B (s+v.o.val+j)=some y/\(af.get k2 j).rel π y:=λj hj=>by
    obtain⟨y,hy,hr⟩:=hc (v.o.val+j) (by omega);rw[<-hk j hj,<-hk2.2 j (by omega)] at hr;exact⟨y,by rw[show s+v.o.val+j=s+(v.o.val+j) by omega];exact hy,hr⟩
   obtain⟨p1,p2,p3,p4⟩:=afB (b':=x.1) (kl:=x.2) (f:=λj=>(cl w B (s+v.o.val+j)).getD undef) h1 (λj hj=>by
    obtain⟨y,hy,hr⟩:=cell j (by omega);rw[hy];exact hr)
   have hx2:=p1.length
   obtain⟨q1,q2,q3,q4⟩:=aD2 H h (by simp[hi]) (by omega) (p2 ok) (λj u k' hu KO=>by
    rcases aD1 KO with KO| ⟨hj,rfl⟩
    .have hj:j<acc.length:=(lX.1 KO).1
     have hu':vs[j]? =some u:=by
      have:vs[j]? =some (vs[j]'(by omega)):=kE _;rw[this];have:=p1.get this;rw[hu] at this;exact this.symm
     exact(aM1 j u k' hu' KO).pre p1
    .have huv:u=v:=by
      rw[hj,hi] at hu;have:=p1.get hv;rw[hu] at this;exact NJ this
     subst huv;refine⟨⟨q,hz⟩,by rw[p3,hk2.1,hs],λB' s' q' e' fw j hj'=> ?_⟩;rw[hb] at fw;cases fw;obtain⟨y,hy,_⟩:=cell j hj';have:=p4 ok j (by omega);rw[hy] at this;exact⟨y,hy,this⟩)
   exact⟨p1.trans q1,q2,q3,q4⟩
end Go.Ab
namespace Go.Ab
variable [ax]
omit [ax] in
theorem PI (lh:List af)(j:Nat):hZ (lh.map some) j=(lh[j]?).map af.size:=by
 simp only[hZ,BA];cases lh[j]? <;>rfl
omit [ax] in
theorem aCA {lh:List af}{j i:Nat}{k:af}(h:lh[j]? =some k)(hi:i<k.size):hC (lh.map some) j i=k.get i:=by
 simp[hC,BA,h,hi]
theorem rW.local {π:Pi}{g:Gt}{w:World}(H:rW π g.c g.z w){vs:List Vw}{lh:List af}(ok:Kj π vs)(hl:lh.length=vs.length)(hv:∀(j:Nat) v k,vs[j]? =some v->lh[j]? =some k->aD0 π g w vs v k):
  rW (piL π vs) (hC (lh.map some)) (hZ (lh.map some)) w:=by
 have get:∀j n,hZ (lh.map some) j=some n->∃v k q B s e,vs[j]? =some v/\lh[j]? =some k/\af.size k=n/\aD0 π g w vs v k/\g.z v.b=some q/\v.o.val+v.n<=q/\af.size k=v.n/\π v.b=some (B,s,q,e)/\s+q<=e/\(v.own=true->v.o.val+v.n=q):=λj n hz=>by
  rw[PI] at hz;cases hk:lh[j]? with
  |none=>rw[hk] at hz;cases hz
  |some k=>
   rw[hk] at hz;have hj:j<vs.length:=by rw[<-hl];exact(lX.1 hk).1
   have hvj:vs[j]? =some (vs[j]'hj):=kE _;have V:=hv j _ k hvj hk;obtain⟨q,hq⟩:=V.live;obtain⟨B,s,e,hb,Be,_⟩:=H.hp _ _ hq;obtain⟨_,_,_,_,fw,hle,how⟩:=ok.2 j _ hvj;rw[hb] at fw;cases fw;exact⟨_,k,q,B,s,e,hvj,rfl,by simpa using hz,V,hq,hle,V.size,hb,Be,how⟩
 refine⟨H.am,λj B s q e hz hp Be=> ?_,λj n hz=> ?_,λj j' B s q e s' q' e' oe hz tZ hp uk i i1 i2 i3 i4=> ?_⟩
 .cases hh:hZ (lh.map some) j with
  |none=>exact absurd hh hz
  |some n=>
   obtain⟨v,k,q0,B1,s1,e1,hvj,hk,hn,V,hq,hle,yb,hb,a4z,ho⟩:=get j n hh;rw[yd hvj hb] at hp;simp only[jY,qG] at hp;obtain⟨rfl,hs1,_,he1⟩:=hp;rw[<-hs1,<-he1] at Be;refine H.lb v.b _ s1 q0 e1 (by simp[hq]) hb ?_;split at Be<;>omega
 .obtain⟨v,k,q,B,s,e,hvj,hk,hn,V,hq,hle,yb,hb,Be,ho⟩:=get j n hz;obtain⟨_,_,_,fw,_,k1,k2⟩:=H.hp _ _ hq;rw[hb] at fw;cases fw;have hp:=yd hvj hb;rw[<-yb,hn] at hp;refine⟨B,s+v.o.val,_,hp,?_,λi i1 i2=> ?_,λi hi=> ?_⟩
  .split
   .rename_i h;have:=ho h;omega
   .omega
  .refine k1 i (by omega) ?_;split at i2<;>omega
  .obtain⟨y,hy,hr⟩:=V.rel B s q e hb i (by omega);refine⟨y,hy,?_⟩;rw[aCA hk (by omega)];exact hr
 .cases hh:hZ (lh.map some) j with
  |none=>exact hz hh
  |some n=>
  cases hh':hZ (lh.map some) j' with
  |none=>exact tZ hh'
  |some n'=>
  obtain⟨v,k,q0,B1,s1,e1,hvj,hk,hn,V,hq,hle,yb,hb,Be,ho⟩:=get j n hh;obtain⟨v',k',q0',B2,s2,e2,aZ3,KO,hn',V',hq',a4A,a4B,fw,a4C,ho'⟩:=get j' n' hh';rw[yd hvj hb] at hp;rw[yd aZ3 fw] at uk;simp only[jY,qG] at hp uk;obtain⟨rfl,hs1,_,he1⟩:=hp;obtain⟨rfl,Vq,_,he2⟩:=uk;rw[<-hs1] at i1;rw[<-he1] at i2;rw[<-Vq] at i3;rw[<-he2] at i4;by_cases hbb:v.b=v'.b
  .obtain⟨aW5,pM⟩:=ok.1 j j' v v' oe hvj aZ3 hbb;rw[hbb] at hb hq;rw[hb] at fw;cases fw;cases h1:v.own<;>cases h2:v'.own<;>simp only[h1,h2,lT,gA,xr] at i2 i4
   .omega
   .have:=ho' h2;omega
   .have:=ho h1;omega
   .rcases pM with h|h
    .rw[h1] at h;cases h
    .rw[h2] at h;cases h
  .refine H.dj v.b v'.b _ s1 q0 e1 s2 q0' e2 hbb (by simp[hq]) (by simp[hq']) hb fw i (by omega) ?_ (by omega) ?_
   .split at i2<;>omega
   .split at i4<;>omega
def piB (π πL:Pi)(n aI m:Nat):Pi:=λb=>if aI<=b/\b<aI+m then πL (n+(b-aI)) else π b
omit [ax] in
theorem Vu {π πL:Pi}{n aI m k:Nat}(h:k<m):piB π πL n aI m (aI+k)=πL (n+k):=by
 unfold piB;rw[if_pos (by omega),show aI+k-aI=k by omega]
omit [ax] in
theorem Vv {π πL:Pi}{n aI m b:Nat}(h:¬(aI<=b/\b<aI+m)):piB π πL n aI m b=π b:=by
 unfold piB;rw[if_neg h]
structure Bck (π πL:Pi)(vs:List Vw)(aI m:Nat):Prop where
 ext:Ext (piL π vs) πL
 dom:∀b,πL b≠none->b<vs.length+m
 fresh:∀b,aI<=b->b<aI+m->π b=none
 live:∀(j:Nat) v,vs[j]? =some v->∃B s q e,π v.b=some (B,s,q,e)/\v.o.val+v.n<=q/\(v.own=true->v.o.val+v.n=q)
omit [ax] in
theorem Bck.xt {π πL:Pi}{vs:List Vw}{aI m:Nat}(K:Bck π πL vs aI m){b:Nat}{p:Nat×Nat×Nat×Nat}(h:π b=some p):piB π πL vs.length aI m b=some p:=by
 rw[Vv,h];intro hc;rw[K.fresh b hc.1 hc.2] at h;cases h
omit [ax] in
theorem Bck.ext' {π πL:Pi}{vs:List Vw}{aI m:Nat}(K:Bck π πL vs aI m):Ext π (piB π πL vs.length aI m):=λ_ _ h=>K.xt h
omit [ax] in
theorem Bck.at {π πL:Pi}{vs:List Vw}{aI m:Nat}(K:Bck π πL vs aI m){j:Nat}{B s q e:Nat}(h:πL j=some (B,s,q,e)):
  (∃v s0 q0 e0,vs[j]? =some v/\π v.b=some (B,s0,q0,e0)/\s=s0+v.o.val/\q=v.n/\(e=if v.own then e0 else s0+v.o.val+v.n)/\v.o.val+v.n<=q0/\(v.own=true->v.o.val+v.n=q0))∨(vs[j]? =none/\vs.length<=j/\j-vs.length<m/\piB π πL vs.length aI m (aI+(j-vs.length))=some (B,s,q,e)):=by
 have hd:=K.dom j (by simp[h]);cases hv:vs[j]? with
 |some v=>
  obtain⟨B0,s0,q0,e0,hp,hle,how⟩:=K.live j v hv;have:=K.ext _ _ (yd hv hp);rw[h] at this;simp only[jY,qG] at this;obtain⟨rfl,h1,h2,h3⟩:=this;exact .inl ⟨v,s0,q0,e0,rfl,hp,h1,h2,h3,hle,how⟩
 |none=>
  have hj:vs.length<=j:=List.getElem?_eq_none_iff.1 hv;refine .inr ⟨rfl,hj,by omega,?_⟩;rw[Vu (by omega),show vs.length+(j-vs.length)=j by omega,h]
omit [ax] in
theorem cA.Kk (a b:cA):(a.plus b).val=a.val+b.val:=by
 cases a<;>cases b<;>simp only[cA.plus,cA.val]<;>first|omega|skip
 rename_i c i z d j y
 cases hz:Nat.beq z y with
 |true=>
  have:=oZ hz;subst this;simp only[cA.val,p9];omega
 |false=>simp only[cA.val];omega
theorem Bck.aSj {π πL:Pi}{vs:List Vw}{aI m:Nat}(K:Bck π πL vs aI m)(c:CV)(x:Value)(h:c.rel πL x):(K1 vs aI c).rel (piB π πL vs.length aI m) x:=by
 cases c<;>simp only[K1]
 case ptr j d n=>
  obtain⟨B,s,q,e,hp,hx,hm⟩:=h;rcases K.at hp with⟨v,s0,q0,e0,hv,hb,hs,hq,he,hle,how⟩| ⟨hv,hj,hm2,hb⟩
  .rw[hv];refine⟨B,s0,q0,e0,K.xt hb,?_,by rw[cA.Kk];omega⟩;rw[hx,cA.Kk];congr 3;omega
  .rw[hv];exact⟨B,s,q,e,hb,hx,hm⟩
 case cl f j d n=>
  obtain⟨B,s,q,e,hp,hx,hm⟩:=h;rcases K.at hp with⟨v,s0,q0,e0,hv,hb,hs,hq,he,hle,how⟩| ⟨hv,hj,hm2,hb⟩
  .rw[hv];refine⟨B,s0,q0,e0,K.xt hb,?_,by rw[cA.Kk];omega⟩;rw[hx,cA.Kk];exact cM (λt=>Value.func (.func f) #[] #[.pointer (some ⟨B,t,none⟩)]) (by omega)
  .rw[hv];exact⟨B,s,q,e,hb,hx,hm⟩
 case sl j d len z own=>
  obtain⟨B,s,q,e,hp,hm,pM,hx⟩:=h;rcases K.at hp with⟨v,s0,q0,e0,hv,hb,hs,hq,he,hle,how⟩| ⟨hv,hj,hm2,hb⟩
  .rw[hv];refine⟨B,s0,q0,e0,K.xt hb,by rw[cA.Kk];omega,λho=> ?_,hx.imp id λ⟨cap,rp,hx,hc⟩=>⟨cap,rp,?_,λho=> ?_⟩⟩
   .simp only[cy] at ho;have a1:=pM ho.1;have a2:=how ho.2;rw[cA.Kk];omega
   .rw[hx,cA.Kk];congr 3;omega
   .simp only[cy] at ho;have:=hc ho.1;rw[if_pos ho.2] at he;rw[cA.Kk];omega
  .rw[hv];exact⟨B,s,q,e,hb,hm,pM,hx⟩
 all_goals exact h
omit [ax] in
theorem aJR (vs:List Vw)(aI:Nat)(x:FV):K1 vs aI (.f x)=.f x:=rfl
omit [ax] in
theorem Zj {α β γ:Type}{R:α->γ->Prop}{R':β->γ->Prop}{f:α->β}(hf:∀a c,R a c->R' (f a) c):∀{l:List α} {m:List γ},bj R l m->bj R' (l.map f) m
 | [],[],_=>trivial
 |_::_,_::_,⟨a,b⟩=>⟨hf _ _ a,Zj hf b⟩
 | [],_::_,h=>h.elim
 |_::_,[],h=>h.elim
theorem Bck.aW6 {π πL:Pi}{vs:List Vw}{aI m:Nat}(K:Bck π πL vs aI m)(c:RV)(x:Value)(h:c.rel πL x):(aR8 vs aI c).rel (piB π πL vs.length aI m) x:=by
 cases c with
 |c c=>exact K.aSj c x h
 |agg cs=>
  obtain⟨a,hx,ha⟩:=h;obtain⟨l1,l2⟩:=jm ha;refine⟨a,hx,xP (by rw[IZ,l1]) λj hj=> ?_⟩;rw[IZ] at hj;obtain⟨x,hx,hr⟩:=l2 j hj;exact⟨x,hx,by rw[axi (aJR vs aI) _ _ hj];exact K.aSj _ _ hr⟩
theorem Bck.a2l {π πL:Pi}{vs:List Vw}{aI m:Nat}(K:Bck π πL vs aI m)(c:AV)(x:Value)(h:c.rel πL x):(aMw vs aI c).rel (piB π πL vs.length aI m) x:=by
 cases c with
 |r r=>exact K.aW6 r x h
 |tup cs=>obtain⟨a,hx,ha⟩:=h;exact⟨a,hx,Zj K.aW6 ha⟩
 |fn f cs=>obtain⟨a,hx,ha⟩:=h;exact⟨a,hx,Zj K.aW6 ha⟩
 |Vk=>trivial
omit [ax] in
theorem Zk {all:List Vw}{aI:Nat}:∀{vs:List Vw} {cs:List Ch} {us:List Up},Au all aI vs cs=some (true,us)->
  (∀(i j:Nat) (v v':Vw),i≠j->vs[i]? =some v->vs[j]? =some v'->v.b=v'.b->(v.o.val+v.n<=v'.o.val∨v'.o.val+v'.n<=v.o.val))->
  vs.length=cs.length/\(∀(j:Nat) v b,vs[j]? =some v->cs[j]? =some (.set b)->af.size b=v.n)/\(∀u∈us,∃(j:Nat) (v:Vw) (b:af),vs[j]? =some v/\cs[j]? =some (.set b)/\u=.c v.b v.o (Kh (K1 all aI) b))/\
  (∀g,(cE us g).z=g.z/\(cE us g).t=g.t)/\
  ∀g (j:Nat) v b i,vs[j]? =some v->cs[j]? =some (.set b)->v.o.val<=i->i<v.o.val+v.n->(cE us g).c v.b i=K1 all aI (af.get b (i-v.o.val))
 | [],[],us,h,_=>by
  simp[Au] at h;subst h
  exact⟨rfl,λj v b h=>by simp at h,λu h=>by simp at h,λg=>⟨rfl,rfl⟩,λg j v b i h=>by simp at h⟩
 |v0::vs,.mT::cs,us,h,hd=>by
  simp only[Au] at h;obtain⟨h1,h2,h3,h4,h5⟩:=Zk h (λi j v v' hij hi hj=>hd (i+1) (j+1) v v' (by omega) (by simpa using hi) (by simpa using hj));refine⟨by simp[h1],λj v b hv hc=> ?_,λu hu=> ?_,h4,λg j v b i hv hc=> ?_⟩
  .cases j with
   |zero=>simp at hc
   |succ j=>exact h2 j v b (by simpa using hv) (by simpa using hc)
  .obtain⟨j,v,b,e1,e2,e3⟩:=h3 u hu;exact⟨j+1,v,b,by simpa using e1,by simpa using e2,e3⟩
  .cases j with
   |zero=>simp at hc
   |succ j=>exact h5 g j v b i (by simpa using hv) (by simpa using hc)
 |v0::vs,.kill::cs,us,h,hd=>by
  simp only[Au] at h;obtain⟨h1,h2,h3,h4,h5⟩:=Zk h (λi j v v' hij hi hj=>hd (i+1) (j+1) v v' (by omega) (by simpa using hi) (by simpa using hj));refine⟨by simp[h1],λj v b hv hc=> ?_,λu hu=> ?_,h4,λg j v b i hv hc=> ?_⟩
  .cases j with
   |zero=>simp at hc
   |succ j=>exact h2 j v b (by simpa using hv) (by simpa using hc)
  .obtain⟨j,v,b,e1,e2,e3⟩:=h3 u hu;exact⟨j+1,v,b,by simpa using e1,by simpa using e2,e3⟩
  .cases j with
   |zero=>simp at hc
   |succ j=>exact h5 g j v b i (by simpa using hv) (by simpa using hc)
 |v0::vs,.set b0::cs,us,h,hd=>by
  simp only[Au] at h;split at h
  .rename_i p hu
   simp only[jY,qG,cy,beq_iff] at h;obtain⟨⟨hg,yb⟩,rfl⟩:=h;obtain⟨p1,us'⟩:=p;simp only at hg;subst hg;obtain⟨h1,h2,h3,h4,h5⟩:=Zk hu (λi j v v' hij hi hj=>hd (i+1) (j+1) v v' (by omega) (by simpa using hi) (by simpa using hj));have hlen:af.size (Kh (K1 all aI) b0)=v0.n:=by rw[IZ,yb]
   refine⟨by simp[h1],λj v b hv hc=> ?_,λu hu=> ?_,λg=>⟨(h4 _).1,(h4 _).2⟩,λg j v b i hv hc i1 i2=> ?_⟩
   .cases j with
    |zero=>simp at hv hc;subst hv hc;exact yb
    |succ j=>exact h2 j v b (by simpa using hv) (by simpa using hc)
   .rcases aaT.1 hu with rfl|hu
    .exact⟨0,v0,b0,rfl,rfl,rfl⟩
    .obtain⟨j,v,b,e1,e2,e3⟩:=h3 u hu;exact⟨j+1,v,b,by simpa using e1,by simpa using e2,e3⟩
   .show(cE us' ((Up.c v0.b v0.o (Kh (K1 all aI) b0)).hI g)).c v.b i=_;cases j with
    |succ j=>exact h5 _ j v b i (by simpa using hv) (by simpa using hc) i1 i2
    |zero=>
     simp at hv hc
     subst hv hc
     have YP:=qJ (us:=us') (g:=(Up.c v0.b v0.o (Kh (K1 all aI) b0)).hI g) (p:=.c v0.b i) (λu hu ht=>by
      obtain⟨j,v,b,e1,e2,rfl⟩:=h3 u hu;simp only[Up.GI,IZ,h2 j v b e1 e2] at ht;have:=hd 0 (j+1) v0 v (by omega) rfl (by simpa using e1) ht.1.symm;omega)
     simp only[Gt.at,PV.c.injEq] at YP;rw[YP];simp only[Up.hI];rw[if_pos ⟨trivial,i1,by rw[hlen];exact i2⟩,axi (aJR all aI) _ _ (by omega)]
  .cases h
 | [],_::_,us,h,_=>by simp[Au] at h
 |_::_,[],us,h,_=>by simp[Au] at h
omit [ax] in
theorem afC:∀{vs:List Vw} {cs:List Ch} (g:Gt),vs.length=cs.length->
  (cE (ph vs cs) g).t=g.t/\(∀b,(∃(j:Nat) (v:Vw),vs[j]? =some v/\cs[j]? =some .kill/\v.b=b)->(cE (ph vs cs) g).z b=none)/\
  (∀b,¬(∃(j:Nat) (v:Vw),vs[j]? =some v/\cs[j]? =some .kill/\v.b=b)->(cE (ph vs cs) g).z b=g.z b/\∀i,(cE (ph vs cs) g).c b i=g.c b i)
 | [],[],g,_=>⟨rfl,λb ⟨j,v,h,_⟩=>by simp at h,λb _=>⟨rfl,λ_=>rfl⟩⟩
 |v0::vs,c::cs,g,hl=>by
  have hl':vs.length=cs.length:=by simpa using hl
  by_cases hc:c=.kill
  .subst hc;show(cE (ph vs cs) ((Up.kill v0.b).hI g)).t=_/\_;obtain⟨h0,h1,h2⟩:=afC (vs:=vs) (cs:=cs) ((Up.kill v0.b).hI g) hl';refine⟨h0,λb hb=> ?_,λb hb=> ?_⟩
   .show(cE (ph vs cs) ((Up.kill v0.b).hI g)).z b=none;by_cases hx:∃(j:Nat) (v:Vw),vs[j]? =some v/\cs[j]? =some .kill/\v.b=b
    .exact h1 b hx
    .rw[(h2 b hx).1];obtain⟨j,v,e1,e2,e3⟩:=hb;cases j with
     |zero=>simp at e1;subst e1;simp[Up.hI,e3]
     |succ j=>exact absurd ⟨j,v,by simpa using e1,by simpa using e2,e3⟩ hx
   .have hx:¬∃(j:Nat) (v:Vw),vs[j]? =some v/\cs[j]? =some .kill/\v.b=b:=λ⟨j,v,e1,e2,e3⟩=>hb ⟨j+1,v,by simpa using e1,by simpa using e2,e3⟩
    have oe:b≠v0.b:=λe=>hb ⟨0,v0,rfl,rfl,e.symm⟩
    obtain⟨k1,k2⟩:=h2 b hx;refine⟨k1.trans (by simp[Up.hI,oe]),λi=>(k2 i).trans (by simp[Up.hI,oe])⟩
  .have e:ph (v0::vs) (c::cs)=ph vs cs:=by cases c<;>first|rfl|exact absurd rfl hc
   rw[e];obtain⟨h0,h1,h2⟩:=afC (vs:=vs) (cs:=cs) g hl';refine⟨h0,λb ⟨j,v,e1,e2,e3⟩=> ?_,λb hb=>h2 b λ⟨j,v,e1,e2,e3⟩=>hb ⟨j+1,v,by simpa using e1,by simpa using e2,e3⟩⟩;cases j with
   |zero=>simp at e2;exact absurd e2 hc
   |succ j=>exact h1 b ⟨j,v,by simpa using e1,by simpa using e2,e3⟩
 | [],_::_,_,h=>by simp at h
 |_::_,[],_,h=>by simp at h
omit [ax] in
theorem akJ {vs:List Vw}{aI:Nat}:∀{bs:List af} {j0:Nat} (g:Gt),
  (cE (GG vs aI bs j0) g).t=g.t/\(∀(k:Nat) (b:af),bs[k]? =some b->(cE (GG vs aI bs j0) g).z (aI+(j0+k))=some (af.size b)/\∀i,i<af.size b->(cE (GG vs aI bs j0) g).c (aI+(j0+k)) i=K1 vs aI (af.get b i))/\
  (∀b,¬(aI+j0<=b/\b<aI+j0+bs.length)->(cE (GG vs aI bs j0) g).z b=g.z b/\∀i,(cE (GG vs aI bs j0) g).c b i=g.c b i)/\cB (GG vs aI bs j0)=bs.length
 | [],j0,g=>⟨rfl,λk b h=>by simp at h,λb _=>⟨rfl,λ_=>rfl⟩,rfl⟩
 |b0::bs,j0,g=>by
  obtain⟨h0,h1,h2,h3⟩:=akJ (vs:=vs) (aI:=aI) (bs:=bs) (j0:=j0+1) ((Up.new (aI+j0) (Kh (K1 vs aI) b0)).hI g);refine⟨h0,λk b hk=> ?_,λb hb=> ?_,?_⟩
  .show(cE (GG vs aI bs (j0+1)) ((Up.new (aI+j0) (Kh (K1 vs aI) b0)).hI g)).z _=_/\∀i,i<af.size b->(cE (GG vs aI bs (j0+1)) ((Up.new (aI+j0) (Kh (K1 vs aI) b0)).hI g)).c _ i=_;cases k with
   |zero=>
    simp at hk;subst hk
    obtain⟨k1,k2⟩:=h2 (aI+(j0+0)) (by omega);refine⟨k1.trans (by simp[Up.hI,IZ]),λi hi=>(k2 i).trans ?_⟩;simp only[Up.hI,km,lT,IZ,hi,lT];exact axi (aJR vs aI) _ _ hi
   |succ k=>
    have:=h1 k b (by simpa using hk);rw[show j0+1+k=j0+(k+1) by omega] at this;exact this
  .obtain⟨k1,k2⟩:=h2 b (by simp only[KZ] at hb;omega);have oe:b≠aI+j0:=λe=>hb (by simp only[KZ];omega)
   exact⟨k1.trans (by simp[Up.hI,oe]),λi=>(k2 i).trans (by simp[Up.hI,oe])⟩
  .show cB (Up.new _ _::GG vs aI bs (j0+1))=_;simp only[cB,List.filter_cons,lT,KZ];have:=h3;simp only[cB] at this;omega
end Go.Ab
namespace Go.Ab
variable [ax]
omit [ax] in
theorem EE (a b:List Up):cB (a++b)=cB a+cB b:=by simp[cB]
omit [ax] in
theorem aW7 (dst:Option Tmp)(v:AV):cB (dV dst v)=0:=by cases dst<;>rfl
omit [ax] in
theorem aHP {us:List Up}(h:∀u∈us,∀b k,u≠.new b k):cB us=0:=by
 induction us with
 |nil=>rfl
 |cons u us ih=>
  have h1:=ih λv hv=>h v (by simp[hv])
  have h2:=h u (by simp);cases u with
  |new b k=>exact absurd rfl (h2 b k)
  |_=>simpa[cB] using h1
omit [ax] in
theorem Zl:∀{vs:List Vw} {cs:List Ch} {u:Up},u∈ph vs cs->∃b,u=.kill b
 | [],[],u,h=>by simp[ph] at h
 |v0::vs,c::cs,u,h=>by
  by_cases hc:c=.kill
  .subst hc;rcases aaT.1 h with rfl|h
   .exact⟨_,rfl⟩
   .exact Zl h
  .have e:ph (v0::vs) (c::cs)=ph vs cs:=by cases c<;>first|rfl|exact absurd rfl hc
   rw[e] at h;exact Zl h
 | [],_::_,u,h=>by simp[ph] at h
 |_::_,[],u,h=>by simp[ph] at h
omit [ax] in
theorem azb:∀{vs:List Vw} {cs:List Ch} {j:Nat} {v:Vw},vs[j]? =some v->cs[j]? =some .kill->Up.kill v.b∈ph vs cs
 |v0::vs,c::cs,0,v,h1,h2=>by
  simp at h1 h2;subst h1 h2;simp[ph]
 |v0::vs,c::cs,j+1,v,h1,h2=>by
  have:=azb (vs:=vs) (cs:=cs) (j:=j) (v:=v) (by simpa using h1) (by simpa using h2);cases c<;>simp[ph,this]
 | [],_,j,v,h,_=>by simp at h
 |_::_,[],j,v,_,h=>by simp at h
omit [ax] in
theorem afD {all:List Vw}{aI:Nat}:∀{vs:List Vw} {cs:List Ch} {g:Bool} {us:List Up},Au all aI vs cs=some (g,us)->∀{j:Nat} {v:Vw} {b:af},vs[j]? =some v->cs[j]? =some (.set b)->Up.c v.b v.o (Kh (K1 all aI) b)∈us
 | [],[],g,us,_,j,v,b,h,_=>by simp at h
 |v0::vs,.mT::cs,g,us,h,j,v,b,h1,h2=>by
  cases j with
  |zero=>simp at h2
  |succ j=>exact afD (vs:=vs) (cs:=cs) h (by simpa using h1) (by simpa using h2)
 |v0::vs,.kill::cs,g,us,h,j,v,b,h1,h2=>by
  cases j with
  |zero=>simp at h2
  |succ j=>exact afD (vs:=vs) (cs:=cs) h (by simpa using h1) (by simpa using h2)
 |v0::vs,.set b0::cs,g,us,h,j,v,b,h1,h2=>by
  simp only[Au] at h;split at h
  .rename_i p hu
   simp only[jY,qG] at h;obtain⟨_,rfl⟩:=h;cases j with
   |zero=>simp at h1 h2;subst h1 h2;simp
   |succ j=>exact List.mem_cons_of_mem _ (afD (g:=p.1) (us:=p.2) hu (by simpa using h1) (by simpa using h2))
  .cases h
 | [],_::_,_,_,h,_,_,_,_,_=>by simp[Au] at h
 |_::_,[],_,_,h,_,_,_,_,_=>by simp[Au] at h
omit [ax] in
theorem aD3 {vs:List Vw}{aI:Nat}:∀{bs:List af} {j0:Nat} {u:Up},u∈GG vs aI bs j0->∃b k,u=.new b k
 | [],_,_,h=>by simp[GG] at h
 |b0::bs,j0,u,h=>by
  rcases aaT.1 h with rfl|h
  .exact⟨_,_,rfl⟩
  .exact aD3 h
omit [ax] in
theorem cg.isSome {w0 w:World}{S:Nat->Nat->Prop}(h:cg w0 S w){B i:Nat}(hi:(Ab.cl w0 B i).isSome=true):(Ab.cl w B i).isSome=true:=by
 have hB:=aaY hi;simp only[Ab.cl,World.cell?] at hi ⊢;cases hh:w0.heap[B]? with
 |none=>rw[hh] at hi;cases hi
 |some x=>
  rw[hh] at hi;cases x with
  |cells c t f=>
   obtain⟨c',e,z,_⟩:=h.row B c t f hh;simp only[e];simp only[Option.isSome_none,xr,gA] at hi ⊢
   have:i<c.size:=by
    rcases o7 i c.size with h'|h'
    .exact h'
    .rw[ar7 h'] at hi;cases hi
   rw[ahM (by omega)];rfl
  |_=>cases hi
omit [ax] in
theorem afE:∀{h:List af} {cs:List Ch} {j:Nat},(∀b,cs[j]? =some (.set b)->j<h.length->(after h cs)[j]? =some (some b))/\(cs[j]? =some .mT->∀b,h[j]? =some b->(after h cs)[j]? =some (some b))
 | [],cs,j=>⟨λb _ h=>by simp at h,λ_ b h=>by simp at h⟩
 |b0::bs,[],j=>⟨λb h=>by simp at h,λh=>by simp at h⟩
 |b0::bs,c::cs,0=>by cases c<;>simp[after]
 |b0::bs,c::cs,j+1=>by
  have:=afE (h:=bs) (cs:=cs) (j:=j);cases c<;>simpa[after] using this
omit [ax] in
theorem aaZ {r:o9}{h:List af}{k:Nat}{b:af}(hk:r.news[k]? =some b):(r.heap h)[h.length+k]? =some (some b):=by
 unfold o9.heap;rw[ac1 (by rw[nA];omega),nA,show h.length+k-h.length=k by omega];simp[hk]
omit [ax] in
theorem Dj {r:o9}{h:List af}{j:Nat}(hj:j<h.length):(r.heap h)[j]? =(after h r.ya)[j]? :=by
 unfold o9.heap;rw[TO (by rw[nA];omega)]
omit [ax] in
theorem Zm {l:List (Option af)}{j:Nat}{b:af}(h:l[j]? =some (some b)):hZ l j=some (af.size b):=by simp[hZ,h]
omit [ax] in
theorem afF {l:List (Option af)}{j i:Nat}{b:af}(h:l[j]? =some (some b))(hi:i<af.size b):hC l j i=af.get b i:=by simp[hC,h,hi]
omit [ax] in
theorem Ur {all:List Vw}{aI:Nat}:∀{vs:List Vw} {cs:List Ch} {g:Bool} {us:List Up},Au all aI vs cs=some (g,us)->∀u∈us,∀b k,u≠.new b k
 | [],[],g,us,h=>by
  simp only[Au,jY,qG] at h;obtain⟨_,rfl⟩:=h;intro u hu;simp at hu
 |v0::vs,.mT::cs,g,us,h=>Ur (vs:=vs) (cs:=cs) h
 |v0::vs,.kill::cs,g,us,h=>Ur (vs:=vs) (cs:=cs) h
 |v0::vs,.set b0::cs,g,us,h=>by
  simp only[Au] at h;split at h
  .rename_i p hu
   simp only[jY,qG] at h;obtain⟨_,rfl⟩:=h;intro u hu' b k e;rcases aaT.1 hu' with rfl|hu'
   .cases e
   .exact Ur (g:=p.1) (us:=p.2) hu u hu' b k e
  .cases h
 | [],_::_,_,_,h=>by simp[Au] at h
 |_::_,[],_,_,h=>by simp[Au] at h
section
variable {P:Program} {o:Oper} {X:Cx} {D:Nat->Prop} {aI:Nat} {us:List Up} {g:Gt}
theorem aQD {E:Env}(hE:∀f F,E f=some F->Sound P f F){c:Call}{fo:Operand}{f:Nat}{ac2:List RV}{args:List AV}{fp l0 l1:List Fp}(ho:o.op=.call c)(hc:c.callee=.value fo)(ha:aH (Ab.tG Ab.DD c.args.toList) g args l0){fv:AV}(hfo:aH (Ab.DD fo) g fv l1)(aW8:∀(π:Pi) (x:Value),fv.rel π x->∃arr:Array Value,x=.func (.func f) #[] arr/\bj (RV.rel π) ac2 arr.toList)
  (h:aH (aWL E f (args++ac2.map .r) o.dst aI) g us fp):Ad P o X D aI us g:=by
 obtain⟨x,⟨_,h1⟩,_,h⟩:=aH.bind' h;obtain⟨y,⟨_,h2⟩,_,h⟩:=aH.bind' h;cases hEf:E f with
 |none=>rw[hEf] at h;cases h
 |some F=>
 rw[hEf] at h;obtain⟨r,⟨_,h3⟩,_,h⟩:=aH.bind' h;obtain⟨⟨gd,aSk⟩,⟨_,h4⟩,_,h⟩:=aH.bind' h;obtain⟨_,⟨_,h5⟩,_,h⟩:=aH.bind' h;cases h;have h5:gd=true:=h5.cI;subst h5;have S0:=hE f F hEf;have a0U:=T.aW4 h3;have h4:=h4.ej;obtain⟨lh,vs⟩:=y;simp only at h3 h4
 have aSl:cB (dV o.dst (aMw vs aI r.val)++(aSk++(ph vs r.ya++GG vs aI r.news 0)))=r.news.length:=by
  rw[EE,EE,EE,aW7,aHP (Ur h4),aHP (λu hu b k e=>by obtain⟨_,rfl⟩:=Zl hu;cases e),(akJ (vs:=vs) (aI:=aI) (bs:=r.news) (j0:=0) g).2.2.2];omega
 intro π a w next Q R hk hfr hd hD hn;simp only at hfr hn hD;rw[aSl] at hfr hn;obtain⟨arr,hfv,a0V⟩:=aW8 _ _ (hfo.DD R)
 have lP:bj (AV.rel π) (args++ac2.map .r) (c.args.map a.eval++arr).toList:=by
  rw[Array.toList_append];exact(Ki ha R).append (Zj (f:=AV.r) (R':=AV.rel π) (λa c h=>h) a0V)
 obtain⟨a1,a2⟩:=aM0 (RZ:=x.1) (kl:=x.2) h1 lP;obtain⟨ok0,a4⟩:=a2 (Kj.nil π);obtain⟨b1,hok,b3,b4⟩:=aD2 R.hp (lh:=lh) (kl:=vs) h2 rfl (Nat.zero_le _) ok0 (λj v k _ hk=>by simp at hk);obtain⟨c1,c2,c3,c4,c5⟩:=Zk h4 (λi j v v' hij hi hj hb=>(hok.1 i j v v' hij hi hj hb).1);have aY0:bj (AV.rel (piL π vs)) x.1 (c.args.map a.eval++arr).toList:=a4.imp λv z hr=>AV.dK b1.ext v z hr
 have a2m:=R.hp.local hok b3 b4
 have kj:∀b,piL π vs b≠none->b<lh.length:=λb hb=>by
  rw[b3];unfold piL at hb;cases hv:vs[b]? with
  |none=>rw[hv] at hb;exact absurd rfl hb
  |some v=>exact(lX.1 hv).1
 have aY1:=S0 x.1 lh r a0U w (piL π vs) _ aY0 a2m kj
 suffices key:∀(v:Value) (w':World),ti (piL π vs) w lh r (.returned v) w'->next (a.put o.dst v) w' by
  rcases aY1 with⟨S1,S2⟩| ⟨v,S1,S2⟩
  .have nZ:(execOp a.eval o).run P w=.ok (.enter f (c.args.map a.eval++arr)) w:=by
    simp[execOp,ho,resolve,hc,hfv,Deferred.ofValue,invoke,S1]
   unfold Oper.wp;rw[nZ];refine Calls.mono S2 ?_;intro e w' hp;have uk:=hp;obtain⟨_,v,rfl,_⟩:=uk;exact key v w' hp
  .have nZ:(execOp a.eval o).run P w=.ok (.value v) w:=by
    simp[execOp,ho,resolve,hc,hfv,Deferred.ofValue,invoke,S1]
   unfold Oper.wp;rw[nZ];exact key v w S2
 rintro v w' ⟨πL,v',hv',auh,aD4,hHL,hFr,a0W,aZ4⟩
 cases hv'
 have live:∀(j:Nat) u,vs[j]? =some u->∃q B s e,g.z u.b=some q/\u.o.val+u.n<=q/\π u.b=some (B,s,q,e)/\s+q<=e/\(u.own=true->u.o.val+u.n=q):=λj u hu=>by
  have hj:j<lh.length:=by rw[b3];exact(lX.1 hu).1
  obtain⟨q,hq⟩:=(b4 j u _ hu (kE hj)).live;obtain⟨B,s,e,hb,Be,_⟩:=R.hp.hp _ _ hq;obtain⟨_,_,_,_,fw,hle,how⟩:=hok.2 j u hu;rw[hb] at fw;cases fw;exact⟨q,B,s,e,hq,hle,hb,Be,how⟩
 have K:Bck π πL vs aI r.news.length:=⟨auh,λb hb=>by have:=a0W b hb;omega,hfr,λj u hu=>let⟨q,B,s,e,_,hle,hb,_,how⟩:=live j u hu;⟨B,s,q,e,hb,hle,how⟩⟩
 have aQE:∀B i,CC (piL π vs) lh.length (R7 r.ya) B i->∃(j:Nat) (u:Vw) (q s e:Nat),vs[j]? =some u/\g.z u.b=some q/\π u.b=some (B,s,q,e)/\s+q<=e/\s+u.o.val<=i/\i<(if u.own then e else s+u.o.val+u.n)/\i<e/\(u.own=true->u.o.val+u.n=q)/\u.o.val+u.n<=q/\(r.ya[j]? =some .kill∨∃b,r.ya[j]? =some (.set b)):=by
  rintro B i ⟨j,s1,q1,e1,hj,hD1,hp,i1,i2⟩
  have hu:vs[j]? =some (vs[j]'(by omega)):=kE _;obtain⟨q,B0,s,e,hq,hle,hb,Be,how⟩:=live j _ hu;rw[yd hu hb] at hp;simp only[jY,qG] at hp;obtain⟨rfl,hs1,_,he1⟩:=hp;rw[<-hs1] at i1;rw[<-he1] at i2;refine⟨j,_,q,s,e,hu,hq,hb,Be,i1,i2,?_,how,hle,?_⟩
  .split at i2<;>omega
  .have hcj:r.ya[j]? =some (r.ya[j]'(by omega)):=kE _;rw[hcj];cases R8:r.ya[j]'(by omega) with
   |mT=>exact absurd (by rw[hcj,R8]) hD1
   |set b=>exact .inr ⟨b,rfl⟩
   |kill=>exact .inl rfl
 have a0X:∀(j:Nat) (u:Vw),vs[j]? =some u->(r.ya[j]? =some .kill∨∃b,r.ya[j]? =some (.set b))->u.b<X.k->D u.b:=λj u hu R8=>by
  rcases R8 with R8| ⟨b,R8⟩
  .exact hD (.kill u.b) (by simp[azb hu R8])
  .exact hD (.c u.b u.o (Kh (K1 vs aI) b)) (by simp[afD h4 hu R8])
 have aSm:∀B i,B<X.w0.heap.size->CC (piL π vs) lh.length (R7 r.ya) B i->CC X.p0 X.k D B i:=λB i hB hft=>by
  obtain⟨j,u,q,s,e,hu,hq,hb,Be,i1,_,i3,_,_,R8⟩:=aQE B i hft;rcases o7 u.b X.k with hbk|hbk
  .exact⟨u.b,s,q,e,hbk,a0X j u hu R8 hbk,(R.xt u.b hbk).symm.trans hb,by omega,i3⟩
  .exact R.ft u.b B s q e hbk (by simp[hq]) hb hB i (by omega) i3
 generalize hg1:cE aSk g=g1
 generalize hg2:cE (ph vs r.ya) g1=g2
 generalize hg3:cE (GG vs aI r.news 0) g2=g3
 have G1:=c4 g;rw[hg1] at G1;have G2:=afC (vs:=vs) (cs:=r.ya) g1 c1;rw[hg2] at G2;obtain⟨N0,N1,N2,_⟩:=akJ (vs:=vs) (aI:=aI) (bs:=r.news) (j0:=0) g2;rw[hg3] at N0 N1 N2
 have xt:∀b n,¬(aI<=b/\b<aI+r.news.length)->g3.z b=some n->g.z b=some n/\(¬∃(j:Nat) (v:Vw),vs[j]? =some v/\r.ya[j]? =some .kill/\v.b=b)/\∀i,g3.c b i=g1.c b i:=λb n hb hz=>by
  obtain⟨n1,n2⟩:=N2 b (by omega);rw[n1] at hz;by_cases hkl:∃(j:Nat) (v:Vw),vs[j]? =some v/\r.ya[j]? =some .kill/\v.b=b
  .rw[G2.2.1 b hkl] at hz;cases hz
  .obtain⟨k1,k2⟩:=G2.2.2 b hkl;rw[k1,G1.1] at hz;exact⟨hz,hkl,λi=>(n2 i).trans (k2 i)⟩
 have new:∀k,k<r.news.length->∃b,r.news[k]? =some b/\g3.z (aI+k)=some (af.size b)/\(∀i,i<af.size b->g3.c (aI+k) i=K1 vs aI (af.get b i))/\hZ (r.heap lh) (lh.length+k)=some (af.size b):=λk KO=>by
  have hb:r.news[k]? =some (r.news[k]'KO):=kE _;have:=N1 k _ hb;rw[gW] at this;exact⟨_,hb,this.1,this.2,Zm (aaZ hb)⟩
 have idx:∀b,aI<=b/\b<aI+r.news.length->∃k,k<r.news.length/\b=aI+k:=λb hb=>⟨b-aI,by omega,by omega⟩
 have H3:rW (piB π πL vs.length aI r.news.length) g3.c g3.z w':=by
  refine⟨hHL.am,λb B s q e hz hp Be=> ?_,λb n hz=> ?_,?_⟩
  .by_cases hb:aI<=b/\b<aI+r.news.length
   .obtain⟨k,KO,rfl⟩:=idx b hb;obtain⟨bO,Ze,z1,z2,z3⟩:=new k KO;rw[Vu KO,<-b3] at hp;exact hHL.lb _ B s q e (by rw[z3];simp) hp Be
   .cases hh:g3.z b with
    |none=>exact absurd hh hz
    |some n=>
     obtain⟨Ng,hkl,hc3⟩:=xt b n hb hh;obtain⟨B1,s1,e1,GJ,_⟩:=R.hp.hp b n Ng;have e2:=K.xt GJ;rw[hp] at e2;cases e2;exact R.hp.lb b B s q e (by rw[Ng];simp) GJ Be
  .by_cases hb:aI<=b/\b<aI+r.news.length
   .obtain⟨k,KO,rfl⟩:=idx b hb;obtain⟨bO,Ze,z1,z2,z3⟩:=new k KO;rw[z1] at hz;cases hz;obtain⟨B,s,e,hp,hle,k1,k2⟩:=hHL.hp _ _ z3;refine⟨B,s,e,by rw[Vu KO,<-b3];exact hp,hle,k1,λj hj=> ?_⟩;obtain⟨x,hx,hr⟩:=k2 j hj;rw[afF (aaZ Ze) hj] at hr;exact⟨x,hx,by rw[z2 j hj];exact K.aSj _ _ hr⟩
   .obtain⟨Ng,hkl,hc3⟩:=xt b n hb hz;obtain⟨B,s,e,hp,hle,k1,k2⟩:=R.hp.hp b n Ng;refine⟨B,s,e,K.xt hp,hle,λi i1 i2=> ?_,λj hj=> ?_⟩
    .have:=k1 i i1 i2;exact⟨hFr.isSome this.1,by rw[hFr.fz (aaY this.1)];exact this.2⟩
    .rw[hc3];by_cases aW9:∃(jv:Nat) (u:Vw) (bO:af),vs[jv]? =some u/\r.ya[jv]? =some (.set bO)/\u.b=b/\u.o.val<=j/\j<u.o.val+u.n
     .obtain⟨jv,u,bO,hu,R8,rfl,j1,j2⟩:=aW9;have e1:=c5 g jv u bO j hu R8 j1 j2;rw[hg1] at e1;rw[e1];have yb:=c2 jv u bO hu R8;have hjv:jv<lh.length:=by rw[b3];exact(lX.1 hu).1
      have akG:(r.heap lh)[jv]? =some (some bO):=by rw[Dj hjv];exact afE.1 bO R8 hjv
      obtain⟨B1,s1,e1',GJ,a2n,_,m2⟩:=hHL.hp jv _ (Zm akG);have:=auh _ _ (yd hu hp);rw[GJ] at this;simp only[jY,qG] at this;obtain⟨rfl,rfl,_,_⟩:=this;obtain⟨x,hx,hr⟩:=m2 (j-u.o.val) (by omega);rw[afF akG (by omega)] at hr;exact⟨x,by rw[show s+j=s+u.o.val+(j-u.o.val) by omega];exact hx,K.aSj _ _ hr⟩
     .obtain⟨x,hx,hr⟩:=k2 j hj
      have YP:=qJ (us:=aSk) (g:=g) (p:=.c b j) (λu hu ht=>by
       obtain⟨jv,v',bO,e1,e2,rfl⟩:=c3 u hu;simp only[Up.GI,IZ,c2 jv v' bO e1 e2] at ht;exact aW9 ⟨jv,v',bO,e1,e2,ht.1,ht.2.1,ht.2.2⟩)
      simp only[Gt.at,PV.c.injEq,hg1] at YP;rw[YP];refine⟨x,?_,CV.dK K.ext' _ _ hr⟩;rw[hFr.cl (aaY (by rw[hx];rfl)),hx];intro hft;obtain⟨jv,u,q,s0,e0,hu,hq,Qz,Be,i1,i2,i3,how,a2o,R8⟩:=aQE _ _ hft;by_cases hbb:u.b=b
      .subst hbb;rw[hp] at Qz;cases Qz;rw[Ng] at hq;cases hq;rcases R8 with R8| ⟨bO,R8⟩
       .exact hkl ⟨jv,u,hu,R8,rfl⟩
       .refine aW9 ⟨jv,u,bO,hu,R8,rfl,by omega,?_⟩;cases aZ5:u.own
        .simp only[aZ5,xr,gA] at i2;omega
        .have:=how aZ5;omega
      .exact R.hp.dj u.b b B s0 _ e0 s _ e hbb (by simp[hq]) (by simp[Ng]) Qz hp (s+j) (by omega) i3 (by omega) (by omega)
  ·
   have no:∀k b' B s q e s' q' e',k<r.news.length->¬(aI<=b'/\b'<aI+r.news.length)->g3.z b'≠none->πL (vs.length+k)=some (B,s,q,e)->π b'=some (B,s',q',e')->∀i,s<=i->i<e->s'<=i->i<e'->False:=by
    intro k b' B s qq e s' q' e' KO fw tZ hp uk i i1 i2 i3 i4;cases hzz:g3.z b' with
    |none=>exact tZ hzz
    |some n'=>
    obtain⟨Ng,hkl,_⟩:=xt b' n' fw hzz;obtain⟨_,_,_,hp0,_,k1,_⟩:=R.hp.hp b' n' Ng;rw[uk] at hp0;cases hp0;have hB:=aaY (k1 i i3 i4).1;obtain⟨jv,u,q,s0,e0,hu,hq,Qz,Be,m1,m2,m3,how,a2o,R8⟩:=aQE _ _ (aZ4 (vs.length+k) B s qq e (by omega) hp hB i i1 i2);by_cases hbb:u.b=b'
    .subst hbb;rcases R8 with R8| ⟨bO,R8⟩
     .exact hkl ⟨jv,u,hu,R8,rfl⟩
     .have hjv:jv<lh.length:=by rw[b3];exact(lX.1 hu).1
      have akG:(r.heap lh)[jv]? =some (some bO):=by rw[Dj hjv];exact afE.1 bO R8 hjv
      obtain⟨_,_,_,_,z3⟩:=new k KO;rw[b3] at z3;exact hHL.dj (vs.length+k) jv B s qq e _ _ _ (by omega) (by simp[z3]) (by simp[Zm akG]) hp (auh _ _ (yd hu Qz)) i i1 i2 m1 m2
    .exact R.hp.dj u.b b' B s0 _ e0 s' _ e' hbb (by simp[hq]) (by simp[Ng]) Qz uk i (by omega) m3 i3 i4
   intro b b' B s qq e s' q' e' oe hz tZ hp uk i i1 i2 i3 i4;by_cases hb:aI<=b/\b<aI+r.news.length
   .obtain⟨k,KO,rfl⟩:=idx b hb;rw[Vu KO] at hp;by_cases fw:aI<=b'/\b'<aI+r.news.length
    .obtain⟨k',aM2,rfl⟩:=idx b' fw;rw[Vu aM2] at uk;obtain⟨_,_,_,_,z3⟩:=new k KO;obtain⟨_,_,_,_,z3'⟩:=new k' aM2;rw[b3] at z3 z3';exact hHL.dj (vs.length+k) (vs.length+k') B s qq e s' q' e' (by omega) (by simp[z3]) (by simp[z3']) hp uk i i1 i2 i3 i4
    .rw[Vv fw] at uk;exact no k b' B s qq e s' q' e' KO fw tZ hp uk i i1 i2 i3 i4
   .rw[Vv hb] at hp;by_cases fw:aI<=b'/\b'<aI+r.news.length
    .obtain⟨k',aM2,rfl⟩:=idx b' fw;rw[Vu aM2] at uk;exact no k' b B s' q' e' s qq e aM2 hb hz uk hp i i3 i4 i1 i2
    .rw[Vv fw] at uk;cases hzz:g3.z b with
     |none=>exact hz hzz
     |some n=>
     cases aZ6:g3.z b' with
     |none=>exact tZ aZ6
     |some n'=>
     exact R.hp.dj b b' B s qq e s' q' e' oe (by simp[(xt b n hb hzz).1]) (by simp[(xt b' n' fw aZ6).1]) hp uk i i1 i2 i3 i4
 have R3:Rel X D (piB π πL vs.length aI r.news.length) g3 a w':=by
  refine⟨λi=> ?_,R.nt,R.df,H3,λb hb=> ?_,λb B s qq e hkb hz hp hB i i1 i2=> ?_,R.fr.trans hFr aSm⟩
  .rw[N0,G2.1,G1.2];exact AV.dK K.ext' _ _ (R.tm i)
  .rw[Vv (by omega)];exact R.xt b hb
  .by_cases hb:aI<=b/\b<aI+r.news.length
   .obtain⟨k,KO,rfl⟩:=idx b hb;rw[Vu KO] at hp;exact aSm B i hB (aZ4 (vs.length+k) B s qq e (by omega) hp (aDk hB R.fr.size) i i1 i2)
   .rw[Vv hb] at hp;cases hzz:g3.z b with
    |none=>exact absurd hzz hz
    |some n=>exact R.ft b B s qq e hkb (by simp[(xt b n hb hzz).1]) hp hB i i1 i2
 refine hn _ _ (piB π πL vs.length aI r.news.length) K.ext' (λb hb=> ?_) ?_
 .by_cases fw:aI<=b/\b<aI+r.news.length
  .exact .inr fw
  .rw[Vv fw] at hb;exact .inl hb
 .have e3:cE (dV o.dst (aMw vs aI r.val)++(aSk++(ph vs r.ya++GG vs aI r.news 0))) g=cE (dV o.dst (aMw vs aI r.val)) g3:=by
   rw[K' _ _ _ _ (λu hu i x e=>by
    rcases List.mem_append.1 hu with hu|hu
    .obtain⟨_,_,_,_,_,rfl⟩:=c3 u hu;cases e
    .rcases List.mem_append.1 hu with hu|hu
     .obtain⟨_,rfl⟩:=Zl hu;cases e
     .obtain⟨_,_,rfl⟩:=aD3 hu;cases e)]
   rw[PH,PH,hg1,hg2,hg3]
  rw[e3];exact R3.dst hd (K.a2l _ _ aD4)
end
end Go.Ab
