/-
  Parts of the proof: AbP AbQ AbB AbC AbD AbE AbF
-/
import Derived.Test.YtldgljclcgaibaaGreatZAB
import Derived.Laws.StructEq
import Derived.Laws.Tables
import Derived.Laws.Append
import Derived.Laws.AppendOwn
open Nat renaming ble→wd
set_option linter.all false
namespace Go.Ab
variable [ax]
section
variable {P:Program} {o:Oper} {X:Cx} {D:Nat->Prop} {aI:Nat} {us:List Up} {g:Gt}
omit [ax] in
theorem QI (us vs:List Up)(g:Gt):cH (us++vs) g=cH vs (cH us g):=by simp[cH]
theorem aOp {t:TypeId}{x y:Operand}{fp:List Fp}(ho:o.op=.store t x y)
  (h:aH ((aN4 x).bind λp=>(aN3 y).bind λv=>(Ab.ey (jd P t)).bind λn=>(Ab.cL (Nat.beq (af.size v.bS) n&&wd n p.2.2)).bind λ_=>.sz p.1<| .ret (Ce (jm P t v.bS aI).2 aI++(ee o.dst udf++[.c p.1 p.2.1 (jm P t v.bS aI).1]))) g us fp):AE P o X D aI us g:=by
 obtain⟨p,⟨_,h1⟩,_,h⟩:=aH.bind' h;obtain⟨v,⟨_,h2⟩,_,h⟩:=aH.bind' h;obtain⟨n,⟨_,h3⟩,_,h⟩:=aH.bind' h;obtain⟨_,⟨_,h4⟩,_,h⟩:=aH.bind' h;cases h with|sz q hz h=>
 cases h;have h4:=h4.cL;simp only[cq,beq_iff,fH] at h4;obtain⟨h4,h5⟩:=h4;obtain⟨n1,n2,n3⟩:=avA P t v.bS aI;generalize (jm P t v.bS aI).1=k at n1 n2 n3
 generalize (jm P t v.bS aI).2=es at n1 n2 n3
 intro π a w next Q R hk hf hd hD hn;obtain⟨B,s,q',e,hb,ha,hm⟩:=h1.aN4 R;have hc:=RV.OP (h2.aN3 R);have hl:=(jF hc).1;obtain⟨B',s',e',fC,hle,k1,k2⟩:=R.hp.hp _ _ hz;rw[hb] at fC;cases fC
 have hcn:cE (Ce es aI++(ee o.dst udf++[.c p.1 p.2.1 k]))=es.length:=by
  rw[aJl,atF];unfold ee cE;cases o.dst<;>rfl
 rw[hcn] at hf hn;obtain⟨π1,e1,e2,e3,R1⟩:=R.aFf n2 hk hf;have hc1:=n3 π1 e3 _ (hc.imp (CV.dR e1))
 have hz1:(cH (Ce es aI) g).z p.1=some q:=by
  have key:∀(es:List af) (aI:Nat) (g:Gt),g.z p.1=some q->(∀b,aI<=b->b<aI+es.length->b≠p.1)->(cH (Ce es aI) g).z p.1=some q:=by
   intro es;induction es with
   |nil=>intro aI g h _;exact h
   |cons x es ih=>
    intro aI g h oM;refine ih (aI+1) _ ?_ (λb h1 h2=>oM b (by omega) (by simp only[LN];omega));have:=oM aI (eT _) (by simp);simp only[Up.hX];rw[if_neg (by omega)];exact h
  refine key es aI g hz λb h1 h2 hbp=> ?_;have:=hf b h1 h2;rw[hbp,hb] at this;cases this
 have R2:=R1.set hz1 (e1 _ _ hb) (o:=p.2.1) (vs:=k) (by rw[n1];omega) hc1 (hD (.c p.1 p.2.1 k) (by simp));have R3:=R2.dst hd (atE π1);refine a0G (w':=w.setCells B (s+p.2.1.val) (a.eval y).cells.toList) ?_ (hn _ _ π1 e1 e2 ?_)
 .have hst:=run_storeCells_cells (P:=P) B (s+p.2.1.val) (a.eval y).cells.toList 0 w
   (λj hj=>(k1 (s+p.2.1.val+0+j) (by omega) (by omega)).1) (λj hj=>(k1 (s+p.2.1.val+0+j) (by omega) (by omega)).2)
   (λx hx=>by
    obtain⟨i,hi⟩:=ayj.1 hx;obtain⟨c,_,hr⟩:=hc.get' hi;exact CV.RI hr)
  have yN:(a.eval y).cells.size=n:=by rw[<-WA];omega
  simp[execOp,ho,Instr.storeAt,ha,Instr.sureAddr,storeVar,run_sizeOf h3.ey,yN,hst]
 .have e1:cH (Ce es aI++(ee o.dst udf++[.c p.1 p.2.1 k])) g=cH (ee o.dst udf) ((Up.c p.1 p.2.1 k).hX (cH (Ce es aI) g)):=by
   rw[aFe];cases o.dst<;>rfl
  rw[e1];exact R3
theorem aFh {x:Operand}{fp:List Fp}(ho:o.op=.nilCheck x)
  (h:aH ((G7 x).bind λ|.ptr b q n=>.ret (ee o.dst (.r (.c (.ptr b q n))))|.fp l=>.ret (ee o.dst (.r (.c (.fp l))))|_=>.fail) g us fp):AE P o X D aI us g:=by
 obtain⟨v,⟨_,h1⟩,_,h⟩:=aH.bind' h;split at h
 .rename_i b q n
  cases h;refine iR λπ a w R=> ?_;obtain⟨B,s,q',e,hb,ha,hm⟩:=h1.G7 R;refine⟨_,?_,B,s,q',e,hb,rfl,hm⟩;simp[execOp,ho,ha]
 .cases h;refine iR λπ a w R=> ?_;obtain⟨B,s,ha,hc⟩:=h1.G7 R;refine⟨_,?_,B,s,rfl,hc⟩;simp[execOp,ho,ha]
 .cases h
theorem aUG {op:BinOp}{k:IntKind}{x y:Int}{v:FV}{fp:List Fp}(hs:op≠.shl/\op≠.shr)(h:aH (aYt op k x y) g v fp)(t:TypeId)(w:World):
  ∃z,(binOp op t (.int k x) (.int k y)).run P w=.ok z w/\v.rel z:=by
 unfold aYt at h;cases op<;>simp only[] at h
 case shl=>exact absurd rfl hs.1
 case shr=>exact absurd rfl hs.2
 case quo=>
  obtain⟨_,⟨_,h1⟩,_,h⟩:=aH.bind' h;cases h;have h1:¬y=0:=by simpa using h1.cL
  exact⟨_,by simp[binOp,Op.intDiv,h1],rfl⟩
 case rem=>
  obtain⟨_,⟨_,h1⟩,_,h⟩:=aH.bind' h;cases h;have h1:¬y=0:=by simpa using h1.cL
  exact⟨_,by simp[binOp,Op.intDiv,h1],rfl⟩
 case and=>obtain⟨n,⟨_,h1⟩,_,h⟩:=aH.bind' h;cases h;have h1:=h1.ey;simp only[atz,j9] at h1;subst h1;exact⟨_,by simp[binOp,Op.intBits],rfl⟩
 case or=>obtain⟨n,⟨_,h1⟩,_,h⟩:=aH.bind' h;cases h;have h1:=h1.ey;simp only[atz,j9] at h1;subst h1;exact⟨_,by simp[binOp,Op.intBits],rfl⟩
 case xor=>obtain⟨n,⟨_,h1⟩,_,h⟩:=aH.bind' h;cases h;have h1:=h1.ey;simp only[atz,j9] at h1;subst h1;exact⟨_,by simp[binOp,Op.intBits],rfl⟩
 case andNot=>obtain⟨n,⟨_,h1⟩,_,h⟩:=aH.bind' h;cases h;have h1:=h1.ey;simp only[atz,j9] at h1;subst h1;exact⟨_,by simp[binOp,Op.intBits],rfl⟩
 all_goals (cases h;exact⟨_,by simp[binOp,Op.intArith,Op.intCmp],rfl⟩)
theorem aAt {op:BinOp}{k k':IntKind}{x y:Int}{v:FV}{fp:List Fp}(h:aH (aTQ op k x y) g v fp)(t:TypeId)(w:World):
  ∃z,(binOp op t (.int k x) (.int k' y)).run P w=.ok z w/\v.rel z:=by
 obtain⟨_,⟨_,h1⟩,_,h⟩:=aH.bind' h;have h1:¬y<0:=by simpa using h1.cL
 cases op<;>simp only[] at h
 case shl=>cases h;exact⟨_,by simp only[binOp,Op.shift,h1,gG];exact Sem.run_pure ..,rfl⟩
 case shr=>cases h;exact⟨_,by simp only[binOp,Op.shift,h1,gG];exact Sem.run_pure ..,rfl⟩
 all_goals cases h
omit [ax] in
theorem agL (op:BinOp)(t:TypeId)(x y:Operand)(k k':IntKind)(m n:Int)(w:World):(eqGuard op t x y (.int k m) (.int k' n)).run P w=.ok () w:=by
 cases op<;>simp[eqGuard]
omit [ax] in
theorem aHD (op:BinOp)(t:TypeId)(x y:Operand)(m n:Bool)(w:World):(eqGuard op t x y (.bool m) (.bool n)).run P w=.ok () w:=by
 cases op<;>simp[eqGuard]
omit [ax] in
theorem agM (op:BinOp)(t:TypeId)(x y:Operand)(m n:Option Addr)(w:World):(eqGuard op t x y (.pointer m) (.pointer n)).run P w=.ok () w:=by
 cases op<;>simp[eqGuard]
omit [ax] in
theorem avB {t:TypeId}{x y:Value}{r:Bool}{w:World}(hi:(∀k n,x≠.int k n))(hs:∀s,x≠.string s)(hf:∀k n,x≠.float k n)(hc:∀k n m,x≠.complex k n m)(h:(Op.equal t x y).run P w=.ok r w):(binOp .eql t x y).run P w=.ok (.bool r) w/\(binOp .neq t x y).run P w=.ok (.bool (!r)) w:=by
 cases x<;>first
  |exact absurd rfl (hi _ _)
  |exact absurd rfl (hs _)
  |exact absurd rfl (hf _ _)
  |exact absurd rfl (hc _ _ _)
  |(simp only[binOp];simp[h])
theorem aUH {op:BinOp}{t:TypeId}{x y:RV}{v:RV}{fp:List Fp}(h:aH (aYw P op t x y) g v fp)(heq:∀r l,aH (eqV P t x y) g r l->∀π a b w,x.rel π a->y.rel π b->(∀(op:BinOp) (p q:Operand),(eqGuard op t p q a b).run P w=.ok () w)/\(binOp .eql t a b).run P w=.ok (.bool r) w/\(binOp .neq t a b).run P w=.ok (.bool (!r)) w)
  {π:Pi}{a b:Value}(hx:x.rel π a)(hy:y.rel π b)(p q:Operand)(w:World):
  ∃z,(do eqGuard op t p q a b;binOp op t a b:Sem Value).run P w=.ok z w/\v.rel π z:=by
 unfold aYw at h;split at h
 .rename_i k m k' n
  have ha:a=.int k m:=hx;have hb:b=.int k' n:=hy;subst ha hb;split at h
  .obtain⟨r,⟨_,h1⟩,_,h⟩:=aH.bind' h;cases h;obtain⟨z,hz,hr⟩:=aAt (P:=P) (k':=k') h1 t w;exact⟨z,by simp[agL,hz],hr⟩
  .obtain⟨r,⟨_,h1⟩,_,h⟩:=aH.bind' h;cases h;obtain⟨z,hz,hr⟩:=aAt (P:=P) (k':=k') h1 t w;exact⟨z,by simp[agL,hz],hr⟩
  .rename_i n1 n2
   split at h
   .rename_i hk
    subst hk;obtain⟨r,⟨_,h1⟩,_,h⟩:=aH.bind' h;cases h;obtain⟨z,hz,hr⟩:=aUG (P:=P) ⟨λe=>n1 e,λe=>n2 e⟩ h1 t w;exact⟨z,by simp[agL,hz],hr⟩
   .cases h
 .split at h
  .obtain⟨r,⟨l1,h1⟩,_,h⟩:=aH.bind' h;cases h;obtain⟨e1,e2,_⟩:=heq r _ h1 π a b w hx hy;exact⟨.bool r,by simp[e1,e2],rfl⟩
  .obtain⟨r,⟨l1,h1⟩,_,h⟩:=aH.bind' h;cases h;obtain⟨e1,_,e2⟩:=heq r _ h1 π a b w hx hy;exact⟨.bool (!r),by simp[e1,e2],rfl⟩
  .cases h
theorem aSk {op:UnOp}{t:TypeId}{x:Operand}{fp:List Fp}(ho:o.op=.unOp op t x)
  (h:aH ((wM x).bind λa=>(unV op a).bind λv=>.ret (ee o.dst (.r v))) g us fp):AE P o X D aI us g:=by
 obtain⟨r,⟨_,h1⟩,_,h⟩:=aH.bind' h;obtain⟨v,⟨_,h2⟩,_,h⟩:=aH.bind' h;cases h;refine iR λπ a w R=> ?_;have ha:=h1.wM R;unfold unV at h2;split at h2
 .have ha:a.eval x=_:=ha;cases h2;exact⟨_,by simp[execOp,ho,ha,Op.unary,Op.intArith],rfl⟩
 .have ha:a.eval x=_:=ha;obtain⟨n,⟨_,h3⟩,_,h2⟩:=aH.bind' h2;cases h2;have h3:=h3.ey;simp only[atz,j9] at h3;subst h3;exact⟨_,by simp[execOp,ho,ha,Op.unary,Op.intBits],rfl⟩
 .have ha:a.eval x=_:=ha;cases h2;exact⟨_,by simp[execOp,ho,ha,Op.unary],rfl⟩
 .cases h2
theorem aHE {s d:TypeId}{x:Operand}{fp:List Fp}(ho:o.op=.convert s d x)
  (h:aH ((wM x).bind λa=>(aR8 P s d a).bind λv=>.ret (ee o.dst (.r v))) g us fp):AE P o X D aI us g:=by
 obtain⟨r,⟨_,h1⟩,_,h⟩:=aH.bind' h;obtain⟨v,⟨_,h2⟩,_,h⟩:=aH.bind' h;cases h;refine iR λπ a w R=> ?_;have ha:=h1.wM R;unfold aR8 at h2;split at h2
 .rename_i d1 k k' n hs hd
  have ha:a.eval x=_:=ha;cases h2;exact⟨_,by simp[execOp,ho,ha,convert,run_underlying hs,run_underlying hd,Conv.intToInt],rfl⟩
 .cases h2
theorem aFi {t:TypeId}{x:Operand}{fp:List Fp}(ho:o.op=.sliceToArrayPointer t x)
  (h:aH ((G7 x).bind λc=>match P.underlying t,c with
   |some (.array n _),.sl b q len z _=>(Ab.cL (wd 1 n&&wd n len.val)).bind λ_=>(Rd.ret (CV.ptr b q (n*z))).bind λv=>.ret (ee o.dst (.r (.c v)))
   |_,_=>.fail) g us fp):AE P o X D aI us g:=by
 obtain⟨r,⟨_,h1⟩,_,h⟩:=aH.bind' h;split at h
 .rename_i n e b q len z own hu
  obtain⟨_,⟨_,h2⟩,_,h⟩:=aH.bind' h;cases h;have h2:=h2.cL;simp only[cq,Nat.ble_eq] at h2;refine iR λπ a w R=> ?_;obtain⟨B,s,q',e,hb,hm,_,⟨h0,_⟩| ⟨cap,sw,ha,_⟩⟩:=h1.G7 R
  .omega
  .exact⟨_,by simp[execOp,ho,ha,Instr.arrayAt,run_underlying hu];intro oo;omega,B,s,q',e,hb,rfl,by
    have:=wL z h2.2;omega⟩
 .cases h
omit [ax] in
theorem apJ {α β γ:Type}{R:α->γ->Prop}{f:β->γ}:∀{l:List α} {m:List β},bn (λa b=>R a (f b)) l m->bn R l (m.map f)
 | [],[],_=>trivial
 |_::_,_::_,⟨a,b⟩=>⟨a,apJ b⟩
 | [],_::_,h=>h.elim
 |_::_,[],h=>h.elim
theorem aFj {f:FuncId}{fs aeo:Array Operand}{fp:List Fp}(ho:o.op=.makeFunc (.func f) fs aeo)
  (h:aH (match fs.toList with
   | []=>(Ab.uw Ab.wM aeo.toList).bind λl=>.ret (ee o.dst (.fn f l))
   |_=>.fail) g us fp):AE P o X D aI us g:=by
 split at h
 .rename_i hfs
  obtain⟨r,⟨_,h1⟩,_,h⟩:=aH.bind' h;cases h;refine iR λπ a w R=>⟨.func (.func f) #[] (aeo.map a.eval),?_,_,rfl,?_⟩
  .have:fs=#[]:=by
    rw[<-alI];exact hfs
   simp[execOp,ho,this,Instr.makeFunc]
  .have:=aH.uw (ρ:=λv x=>v.rel π (a.eval x)) (λx v l hx=>aH.wM hx R) h1;rw[Array.toList_map];exact apJ this
 .cases h
theorem aOq {t:TypeId}{x:Operand}{i:Nat}{fp:List Fp}(ho:o.op=.field t x i)
  (h:aH ((wM x).bind λ|.agg cs=>(Ab.ey (agx P t i)).bind λf=>(OL P f.type cs f.offset).bind λv=>.ret (ee o.dst (.r v))|_=>.fail) g us fp):AE P o X D aI us g:=by
 obtain⟨r,⟨_,h1⟩,_,h⟩:=aH.bind' h;split at h
 .rename_i cs
  obtain⟨f,⟨_,h2⟩,_,h⟩:=aH.bind' h;obtain⟨v,⟨_,h3⟩,_,h⟩:=aH.bind' h;cases h;refine iR λπ a w R=> ?_;obtain⟨arr,ha,hx⟩:=h1.wM R;obtain⟨y,hy,hr⟩:=h3.OL hx w;refine⟨y,?_,hr⟩;have h2:=h2.ey;unfold agx at h2;split at h2
  .rename_i fs hu
   simp[execOp,ho,Instr.field,run_underlying hu,h2,ha,asAgg,hy]
  .cases h2
 .cases h
omit [ax] in
theorem aH.aqY {i:Int}:∀{n j:Nat} {l:List Fp},aH (aqY i n) g j l->0<=i->i<(n:Int)+1->j=i.toNat
 |0,j,l,h,h1,h2=>by cases h;omega
 |n+1,j,l,h,h1,h2=>by
  cases h with|test h=>
  cases hx:i==((n+1:Nat):Int) with
  |true=>
   rw[hx] at h;cases h;have:=eq_of_beq hx;omega
  |false=>
   rw[hx] at h;have:=alK hx;exact aH.aqY h h1 (by omega)
omit [ax] in
theorem cD.LV (o:cD)(d:Nat):(o.add d).val=o.val+d:=by
 cases o<;>simp only[cD.add,cD.val]<;>omega
omit [ax] in
theorem cD.aOr (o:cD)(j z n:Nat):(o.idx j z n).val=o.val+j*z:=by
 cases o with
 |k c=>rfl
 |x c i y=>
  simp only[cD.idx];split
  .rename_i hy
   rw[beq_iff] at hy;subst hy;simp only[cD.val];rw[qV,<-Nat.mul_assoc];omega
  .simp only[cD.val];omega
omit [ax] in
theorem cD.ayy (o:cD)(j z:Nat):(o.aN0 j z).val=o.val+j*z:=by
 cases o with
 |k c=>rfl
 |x c i y=>
  simp only[cD.aN0];split
  .rename_i hy
   rw[beq_iff] at hy;subst hy;simp only[cD.val];rw[qV];omega
  .simp only[cD.val];omega
omit [ax] in
theorem aH.sel {o:cD}{i:Int}{n:Nat}{e:TypeId}{z:Nat}{o':cD}{l:List Fp}(h:aH (sel P o i n e z) g o' l)(h1:0<=i)(h2:i<(n:Int)):o'.val=o.val+i.toNat*z:=by
 unfold Ab.sel at h;split at h
 .cases h;exact cD.aOr ..
 .split at h
  .obtain⟨j,⟨_,h3⟩,_,h⟩:=aH.bind' h;cases h;rw[h3.aqY h1 (by omega),cD.LV]
  .cases h;exact cD.aOr ..
omit [ax] in
theorem aH.aN6 {o:cD}{i:Int}{n:Sz}{e:TypeId}{z:Nat}{o':cD}{l:List Fp}(h:aH (aN6 P o i n e z) g o' l)(h1:0<=i)(h2:i<(n.val:Int)):o'.val=o.val+i.toNat*z:=by
 unfold Ab.aN6 at h;split at h
 .split at h
  .obtain⟨j,⟨_,h3⟩,_,h⟩:=aH.bind' h;cases h;simp only[Sz.val] at h2;rw[h3.aqY h1 (by omega),cD.LV]
  .cases h;exact cD.ayy ..
 .cases h;exact cD.ayy ..
theorem aOs {t:TypeId}{x i:Operand}{fp:List Fp}(ho:o.op=.index t x i)
  (h:aH ((wM x).bind λv=>(KZ i).bind λi=>match P.underlying t,v with
   |some (.array n e),.agg cs=>(Ab.ey (jd P e)).bind λz=>(Ab.cL (wd 1 z&&wd (n*z) (af.size cs))).bind λ_=>(Ab.cL (bk i.2 n)).bind λ_=>(Ab.sel P (.k 0) i.2 n e z).bind λo'=>(partOf P e cs o').bind λv=>.ret (ee o.dst (.r v))
   |some .string,.c (.f (.s b))=>(Ab.cL (bk i.2 b.size)).bind λ_=>.ret (ee o.dst (.r (.c (.f (.i .u8 (EC b i.2.toNat))))))
   |_,_=>.fail) g us fp):AE P o X D aI us g:=by
 obtain⟨r,⟨_,h1⟩,_,h⟩:=aH.bind' h;obtain⟨j,⟨_,h2⟩,_,h⟩:=aH.bind' h;split at h
 .rename_i n e cs hu _
  obtain⟨z,⟨_,h3⟩,_,h⟩:=aH.bind' h;obtain⟨_,⟨_,h7⟩,_,h⟩:=aH.bind' h;obtain⟨_,⟨_,h4⟩,_,h⟩:=aH.bind' h;obtain⟨i',⟨_,h6⟩,_,h⟩:=aH.bind' h;obtain⟨v,⟨_,h5⟩,_,h⟩:=aH.bind' h;cases h;refine iR λπ a w R=> ?_;obtain⟨arr,ha,hx⟩:=h1.wM R;have h4:=h4.cL;simp only[bk,cq,mf] at h4;have h7:=h7.cL;simp only[cq,fH] at h7;have hi:i'.val=j.2.toNat*z:=(h6.sel h4.1 h4.2).trans (hI _)
  have hb:j.2.toNat*z+z<=n*z:=by
   have:=wL z (show j.2.toNat+1<=n by omega);rw[qV] at this;omega
  obtain⟨y,hy,hr⟩:=h5.partOf h3.ey h7.1 (by rw[hi];omega) hx w;rw[hi] at hy;refine⟨y,?_,hr⟩;simp[execOp,ho,Instr.index,run_underlying hu,h2.KZ R,ha,asIntOf,h4,run_sizeOf h3.ey,hy]
 .rename_i b hu _
  obtain⟨_,⟨_,h4⟩,_,h⟩:=aH.bind' h;cases h;refine iR λπ a w R=> ?_;have ha:a.eval x=.string b:=h1.wM R;have h4:=h4.cL;simp only[bk,cq,mf] at h4;have hb:b[j.2.toNat]? =some (b[j.2.toNat]'(by omega)):=getElem?_pos ..;refine⟨.int .u8 (EC b j.2.toNat),?_,rfl⟩;unfold EC;rw[hb];simp[execOp,ho,Instr.index,run_underlying hu,h2.KZ R,ha,asIntOf,h4.1,hb]
 .cases h
theorem aHF {x:Operand}{i:Nat}{fp:List Fp}(ho:o.op=.extract x i)
  (h:aH ((Ei x).bind λ|.tup vs=>(Ab.ey (vs[i]?)).bind λv=>.ret (ee o.dst (.r v))|_=>.fail) g us fp):AE P o X D aI us g:=by
 obtain⟨r,⟨_,h1⟩,_,h⟩:=aH.bind' h;split at h
 .rename_i vs
  obtain⟨v,⟨_,h2⟩,_,h⟩:=aH.bind' h;cases h;refine iR λπ a w R=> ?_;obtain⟨arr,ha,hx⟩:=h1.Ei R;obtain⟨y,hy,hr⟩:=hx.get h2.ey;refine⟨y,?_,hr⟩;have hy:arr[i]? =some y:=by simpa using hy
  simp[execOp,ho,Instr.extract,ha,hy]
 .cases h
theorem aCz {t:TypeId}{x:Operand}{i:Nat}{fp:List Fp}(ho:o.op=.fieldAddr t x i)
  (h:aH ((G7 x).bind λc=>(ayq P t c i).bind λv=>.ret (ee o.dst (.r (.c v)))) g us fp):AE P o X D aI us g:=by
 obtain⟨r,⟨_,h1⟩,_,h⟩:=aH.bind' h;obtain⟨v,⟨_,h2⟩,_,h⟩:=aH.bind' h;cases h;refine iR λπ a w R=> ?_;have ha:=h1.G7 R;unfold ayq at h2;split at h2
 .rename_i l
  obtain⟨f,⟨_,h3⟩,_,h2⟩:=aH.bind' h2;obtain⟨n,⟨_,h4⟩,_,h2⟩:=aH.bind' h2;obtain⟨_,⟨_,h5⟩,_,h2⟩:=aH.bind' h2;cases h2;obtain⟨B,s,ha,hc⟩:=ha;have h3:=h3.ey;have h5:=h5.cL;simp only[cq,fH] at h5;have hn:n≠0:=by omega
  unfold agx at h3;split at h3
  .rename_i fs hu
   refine⟨.pointer (some ⟨B,s+f.offset,none⟩),?_,B,s+f.offset,rfl,λj v hj=> ?_⟩
   .simp[execOp,ho,Instr.fieldAt,run_underlying hu,h3,ha,Instr.sureAddr,fieldPlace,run_sizeOf h4.ey,hn,nL]
   .rw[acd] at hj;split at hj
    .rw[Te] at hj;rw[Cc];exact hc _ v hj
    .cases hj
  .cases h3
 .rename_i b q m
  obtain⟨f,⟨_,h3⟩,_,h2⟩:=aH.bind' h2;obtain⟨n,⟨_,h4⟩,_,h2⟩:=aH.bind' h2;obtain⟨_,⟨_,h5⟩,_,h2⟩:=aH.bind' h2;cases h2;obtain⟨B,s,q',e,hb,ha,hm⟩:=ha;have h3:=h3.ey;have h5:=h5.cL;simp only[cq,fH] at h5;have hn:n≠0:=by omega
  unfold agx at h3;split at h3
  .rename_i fs hu
   refine⟨.pointer (some ⟨B,s+(q.add f.offset).val,none⟩),?_,B,s,q',e,hb,rfl,by rw[cD.LV];omega⟩;simp[execOp,ho,Instr.fieldAt,run_underlying hu,h3,ha,Instr.sureAddr,fieldPlace,run_sizeOf h4.ey,hn,nL,Cc,cD.LV]
  .cases h3
 .cases h2
theorem aCA {t:TypeId}{x i:Operand}{fp:List Fp}(ho:o.op=.indexAddr t x i)
  (h:aH ((G7 x).bind λc=>(KZ i).bind λi=>(ayr P t c i.2).bind λv=>.ret (ee o.dst (.r (.c v)))) g us fp):AE P o X D aI us g:=by
 obtain⟨r,⟨_,h1⟩,_,h⟩:=aH.bind' h;obtain⟨j,⟨_,h2⟩,_,h⟩:=aH.bind' h;obtain⟨v,⟨_,h3⟩,_,h⟩:=aH.bind' h;cases h;refine iR λπ a w R=> ?_;have ha:=h1.G7 R;unfold ayr at h3;split at h3
 .rename_i n e b q m hu _
  obtain⟨z,⟨_,h4⟩,_,h3⟩:=aH.bind' h3;obtain⟨_,⟨_,h7⟩,_,h3⟩:=aH.bind' h3;obtain⟨_,⟨_,h5⟩,_,h3⟩:=aH.bind' h3;obtain⟨o',⟨_,h6⟩,_,h3⟩:=aH.bind' h3;cases h3;obtain⟨B,s,q',e',hb,ha,hm⟩:=ha;have h5:=h5.cL;simp only[bk,cq,mf] at h5;have h7:=fH.1 h7.cL;have hi:=h6.sel h5.1 h5.2
  have hbd:j.2.toNat*z+z<=n*z:=by
   have:=wL z (show j.2.toNat+1<=n by omega);rw[qV] at this;omega
  refine⟨.pointer (some ⟨B,s+o'.val,none⟩),?_,B,s,q',e',hb,rfl,by omega⟩;rw[hi];simp[execOp,ho,Instr.indexAt,run_underlying hu,h2.KZ R,ha,asIntOf,Instr.sureAddr,h5,run_sizeOf h4.ey,nL,Cc]
 .rename_i e b q len z' own hu _
  obtain⟨z,⟨_,h4⟩,_,h3⟩:=aH.bind' h3;obtain⟨_,⟨_,h6⟩,_,h3⟩:=aH.bind' h3;obtain⟨_,⟨_,h5⟩,_,h3⟩:=aH.bind' h3;obtain⟨o',⟨_,h8⟩,_,h3⟩:=aH.bind' h3;cases h3;have h5:=h5.cL;simp only[bk,cq,mf] at h5;have h6:=beq_iff.1 h6.cL;subst h6;have hi:=h8.aN6 h5.1 h5.2;obtain⟨B,s,q',e',hb,hm,_,⟨h0,_⟩| ⟨cap,sw,ha,_⟩⟩:=ha
  .omega
  .have hbd:j.2.toNat*z+z<=len.val*z:=by
    have:=wL z (show j.2.toNat+1<=len.val by omega);rw[qV] at this;omega
   refine⟨.pointer (some ⟨B,s+o'.val,none⟩),?_,B,s,q',e',hb,rfl,by omega⟩;rw[hi];simp[execOp,ho,Instr.indexAt,run_underlying hu,h2.KZ R,ha,asIntOf,h5,run_sizeOf h4.ey,nL,Cc]
 .rename_i e n z' cols hu _
  obtain⟨z,⟨_,h4⟩,_,h3⟩:=aH.bind' h3;obtain⟨_,⟨_,h6⟩,_,h3⟩:=aH.bind' h3;obtain⟨_,⟨_,h5⟩,_,h3⟩:=aH.bind' h3;cases h3;have h5:=h5.cL;simp only[bk,cq,mf] at h5;have h6:=beq_iff.1 h6.cL;subst h6;obtain⟨hz,⟨h0,_⟩| ⟨B,s,cap,sw,ha,hc⟩⟩:=ha
  .omega
  .refine⟨.pointer (some ⟨B,s+j.2.toNat*z,none⟩),?_,B,s+j.2.toNat*z,rfl,λi f hi=> ?_⟩
   .simp[execOp,ho,Instr.indexAt,run_underlying hu,h2.KZ R,ha,asIntOf,h5,run_sizeOf h4.ey,nL]
   .rw[Cb,nj] at hi;obtain⟨q,hq,rfl⟩:=hi;have hil:=(me.1 hq).1
    have hbd:j.2.toNat*z+z<=n*z:=by
     have:=wL z (show j.2.toNat+1<=n by omega);rw[qV] at this;omega
    obtain⟨f,v,e1,e2,e3⟩:=hc (j.2.toNat*z+i) (by omega);refine⟨v,by rw[Cc];exact e2,?_⟩
    have e4:je cols (j.2.toNat*z+i)=.f (q.at j.2.toNat):=by
     unfold je;rw[hz,ach,atv,Nat.mul_add_div (by omega),aym (by omega),Nat.div_eq_of_lt (by omega),hq];rfl
    rw[e1] at e4;cases e4;exact e3
 .rename_i n e l hu _
  obtain⟨z,⟨_,h4⟩,_,h3⟩:=aH.bind' h3;obtain⟨_,⟨_,h7⟩,_,h3⟩:=aH.bind' h3;obtain⟨_,⟨_,h5⟩,_,h3⟩:=aH.bind' h3;obtain⟨o',⟨_,h6⟩,_,h3⟩:=aH.bind' h3;cases h3;obtain⟨B,s,ha,hc⟩:=ha;have h5:=h5.cL;simp only[bk,cq,mf] at h5;have hi:=h6.aqY (by omega) (by omega);refine⟨.pointer (some ⟨B,s+j.2.toNat*z,none⟩),?_,B,s+j.2.toNat*z,rfl,λi f hf=> ?_⟩
  .simp[execOp,ho,Instr.indexAt,run_underlying hu,h2.KZ R,ha,asIntOf,Instr.sureAddr,h5,run_sizeOf h4.ey,nL]
  .rw[acd] at hf;split at hf
   .rw[Te,hi] at hf;rw[Cc];exact hc _ f hf
   .cases hf
 .cases h3
theorem aH.aAo {x:Option Operand}{v:Option Int}{l:List Fp}{π:Pi}{a:Act}{w:World}(h:aH (aAo x) g v l)(R:Rel X D π g a w):
  (x=none/\v=none)∨∃y k i,x=some y/\v=some i/\a.eval y=.int k i:=by
 cases x with
 |none=>cases h;exact .inl ⟨rfl,rfl⟩
 |some y=>
  obtain⟨r,⟨_,h1⟩,_,h⟩:=aH.bind' h;cases h;exact .inr ⟨y,r.1,r.2,rfl,rfl,h1.KZ R⟩
omit [ax] in
theorem aH.UU {lo hi:Option Int}{n:Nat}{lh:Nat×Nat}{l:List Fp}(h:aH (UU lo hi n) g lh l):
  lh.1<=lh.2/\lh.2<=n/\((hi=none/\lh.2=n)∨∃i,hi=some i/\0<=i/\i<=n/\lh.2=i.toNat)/\((lo=none/\lh.1=0)∨∃i,lo=some i/\0<=i/\i<=lh.2/\lh.1=i.toNat):=by
 obtain⟨hh,⟨_,h1⟩,_,h⟩:=aH.bind' h;obtain⟨ll,⟨_,h2⟩,_,h⟩:=aH.bind' h;cases h
 have e1:hh<=n/\((hi=none/\hh=n)∨∃i,hi=some i/\0<=i/\i<=n/\hh=i.toNat):=by
  cases hi with
  |none=>cases h1;exact⟨eT _,.inl ⟨rfl,rfl⟩⟩
  |some i=>
   obtain⟨_,⟨_,h3⟩,_,h1⟩:=aH.bind' h1;cases h1;have h3:=h3.cL;simp only[K0,cq,mf] at h3;exact⟨by omega,.inr ⟨i,rfl,h3.1,h3.2,rfl⟩⟩
 have e2:ll<=hh/\((lo=none/\ll=0)∨∃i,lo=some i/\0<=i/\i<=hh/\ll=i.toNat):=by
  cases lo with
  |none=>cases h2;exact⟨Nat.zero_le _,.inl ⟨rfl,rfl⟩⟩
  |some i=>
   obtain⟨_,⟨_,h3⟩,_,h2⟩:=aH.bind' h2;cases h2;have h3:=h3.cL;simp only[K0,cq,mf] at h3;exact⟨by omega,.inr ⟨i,rfl,h3.1,h3.2,rfl⟩⟩
 exact⟨e2.1,e1.1,e1.2,e2.2⟩
end
end Go.Ab
namespace Go.Ab
variable [ax]
section
variable {P:Program} {o:Oper} {X:Cx} {D:Nat->Prop} {aI:Nat} {us:List Up} {g:Gt}
def OI (x:Option Int)(v:Option Value):Prop:=(x=none/\v=none)∨∃k i,x=some i/\v=some (.int k i)
theorem aH.aYK {x:Option Operand}{v:Option Int}{l:List Fp}{π:Pi}{a:Act}{w:World}(h:aH (Ab.aAo x) g v l)(R:Rel X D π g a w):OI v (x.map a.eval):=by
 rcases h.aAo R with⟨rfl,rfl⟩| ⟨y,k,i,rfl,rfl,e⟩
 .exact .inl ⟨rfl,rfl⟩
 .exact .inr ⟨k,i,rfl,by simp[e]⟩
omit [ax] in
theorem v7 {lo hi:Option Int}{n cap:Nat}{lh:Nat×Nat}{l:List Fp}(h:aH (Ab.UU lo hi n) g lh l)(hc:n<=cap){lv hv:Option Value}(h1:OI lo lv)(h2:OI hi hv)(isS:Bool)(w:World):
  (Instr.sliceBounds isS n cap lv hv none).run P w=.ok (lh.1,lh.2,cap) w:=by
 obtain⟨b1,b2,b3,b4⟩:=h.UU
 have eh:∀code,(match hv with
   |some v=>Instr.sliceBound v cap code
   |none=>(pure n:Sem Nat)).run P w=.ok lh.2 w:=λcode=>by
  rcases h2 with⟨rfl,rfl⟩| ⟨k,i,rfl,rfl⟩
  .rcases b3 with⟨_,e⟩| ⟨i,e,_⟩
   .simp[e]
   .cases e
  .rcases b3 with⟨e,_⟩| ⟨i',e,c1,c2,c3⟩
   .cases e
   .cases e;simp only[Instr.sliceBound,asIntOf,Sem.run_bind,Sem.run_pure,Result.andThen_ok];rw[if_pos ⟨c1,by omega⟩,c3];exact Sem.run_pure ..
 have el:∀code,(match lv with
   |some v=>Instr.sliceBound v lh.2 code
   |none=>(pure 0:Sem Nat)).run P w=.ok lh.1 w:=λcode=>by
  rcases h1 with⟨rfl,rfl⟩| ⟨k,i,rfl,rfl⟩
  .rcases b4 with⟨_,e⟩| ⟨i,e,_⟩
   .simp[e]
   .cases e
  .rcases b4 with⟨e,_⟩| ⟨i',e,c1,c2,c3⟩
   .cases e
   .cases e;simp only[Instr.sliceBound,asIntOf,Sem.run_bind,Sem.run_pure,Result.andThen_ok];rw[if_pos ⟨c1,c2⟩,c3];exact Sem.run_pure ..
 have eh':=eh (if isS then .sliceAcap else .sliceAlen);have el':=el .sliceB;cases hv<;>cases lv<;>simp_all [Instr.sliceBounds]
omit [ax] in
theorem aYL (q:Bool)(n:Nat):(szQ q n).val=n:=by cases q<;>rfl
omit [ax] in
theorem atG {q:Bool}{lo hi:Option Int}{n:Sz}{lh:Nat×Nat}{l:List Fp}(h:aH (Ab.UU lo hi n.val) g lh l):(lenOf q lo hi n lh).val=lh.2-lh.1:=by
 obtain⟨b1,b2,b3,b4⟩:=h.UU;cases lo<;>cases hi<;>simp only[lenOf,aYL]
 .rcases b3 with⟨_,e⟩| ⟨i,e,_⟩
  .rcases b4 with⟨_,e'⟩| ⟨i,e',_⟩
   .omega
   .cases e'
  .cases e
 .rcases b4 with⟨_,e'⟩| ⟨i,e',_⟩
  .omega
  .cases e'
omit [ax] in
theorem aFk {qq:Bool}{lo hi:Option Int}{n:Nat}{lh:Nat×Nat}{l:List Fp}(h:aH (Ab.UU lo hi n) g lh l)(o:cD)(z:Nat):(agz qq lo o lh.1 z).val=o.val+lh.1*z:=by
 obtain⟨b1,b2,b3,b4⟩:=h.UU;cases lo<;>simp only[agz]
 .rcases b4 with⟨_,e'⟩| ⟨i,e',_⟩
  .rw[e'];omega
  .cases e'
 .cases qq
  .exact cD.ayy ..
  .exact cD.LV ..
theorem aOt {t:TypeId}{x:Operand}{lo hi:Option Operand}{fp:List Fp}(ho:o.op=.slice t x lo hi none)
  (h:aH ((G7 x).bind λc=>(Ab.aAo lo).bind λl=>(Ab.aAo hi).bind λh=>(aLc P t c (vM lo&&vM hi) l h).bind λv=>.ret (ee o.dst (.r (.c v)))) g us fp):AE P o X D aI us g:=by
 obtain⟨r,⟨_,h1⟩,_,h⟩:=aH.bind' h;obtain⟨l,⟨_,h2⟩,_,h⟩:=aH.bind' h;obtain⟨hh,⟨_,h3⟩,_,h⟩:=aH.bind' h;obtain⟨v,⟨_,h4⟩,_,h⟩:=aH.bind' h;cases h;refine iR λπ a w R=> ?_;have ha:=h1.G7 R;have ol:=h2.aYK R;have oh:=h3.aYK R;unfold aLc at h4;split at h4
 .rename_i n e b q m hu _ _
  obtain⟨z,⟨_,h5⟩,_,h4⟩:=aH.bind' h4;obtain⟨_,⟨_,h7⟩,_,h4⟩:=aH.bind' h4;obtain⟨lh,⟨_,h6⟩,_,h4⟩:=aH.bind' h4;cases h4;have h7:=fH.1 h7.cL;obtain⟨B,s,q',e',hb,ha,hm⟩:=ha;have hr:=v7 (P:=P) h6 (eT n) ol oh false w;obtain⟨b1,b2,_,_⟩:=h6.UU;have hl:=atG (q:=vM lo&&vM hi) (n:=.l n) h6;have aFl:=aFk (qq:=vM lo&&vM hi) h6 q z;refine⟨_,by simp[execOp,ho,Instr.sliceAt,run_underlying hu,ha,Instr.sureAddr,hr,run_sizeOf h5.ey];rfl,?_⟩;show CV.rel π (.sl b (agz (vM lo&&vM hi) l q lh.1 z) (lenOf (vM lo&&vM hi) l hh (.l n) lh) z false) _
  have hbd:(agz (vM lo&&vM hi) l q lh.1 z).val+(lenOf (vM lo&&vM hi) l hh (.l n) lh).val*z<=q':=by
   rw[hl,aFl];have:lh.1*z+(lh.2-lh.1)*z=lh.2*z:=by rw[<-qV];congr 1;omega
   have:=wL z b2;omega
  refine⟨B,s,q',e',hb,hbd,(λh=>by cases h),?_⟩;by_cases hm2:n=lh.1
  .left
   refine⟨by omega,some ⟨B,s+q.val,none⟩,?_⟩;rw[if_pos hm2];have e1:lh.2-lh.1=0:=by omega
   have e2:n-lh.1=0:=by omega
   rw[e1,e2]
  .right
   refine⟨n-lh.1,by omega,?_,λh=>by cases h⟩;rw[if_neg hm2,nL,Cc,hl,aFl]
 .rename_i e b q len z own hu _ _
  obtain⟨z',⟨_,h5⟩,_,h4⟩:=aH.bind' h4;obtain⟨_,⟨_,h7⟩,_,h4⟩:=aH.bind' h4;obtain⟨lh,⟨_,h6⟩,_,h4⟩:=aH.bind' h4;cases h4;have hz:z=z':=beq_iff.1 h7.cL;subst hz;obtain⟨b1,b2,b3,b4⟩:=h6.UU;have hl:=atG (q:=aqZ (vM lo&&vM hi) len) h6;have aFl:=aFk (qq:=aqZ (vM lo&&vM hi) len) h6 q z;have e4:lh.1*z+(lh.2-lh.1)*z=lh.2*z:=by rw[<-qV];congr 1;omega
  obtain⟨B,s,q',e',hb,hm,qJ,ha⟩:=ha
  have hbd:(agz (aqZ (vM lo&&vM hi) len) l q lh.1 z).val+(lenOf (aqZ (vM lo&&vM hi) len) l hh len lh).val*z<=q':=by
   clear ha
   rw[hl,aFl];have:=wL z b2;omega
  have a2C:hh.isNone=true->lh.2=len.val:=λh=>by
   rcases b3 with⟨_,e⟩| ⟨i,e,_⟩
   .exact e
   .rw[e] at h;cases h
  have aOu:(own&&hh.isNone)=true->(agz (aqZ (vM lo&&vM hi) len) l q lh.1 z).val+(lenOf (aqZ (vM lo&&vM hi) len) l hh len lh).val*z=q':=λh=>by
   clear ha
   simp only[cq] at h;have:=qJ h.1;rw[hl,aFl];rw[a2C h.2] at e4 ⊢;omega
  rcases ha with⟨h0,y,ha⟩| ⟨cap,sw,ha,aSl⟩
  .have hr:=v7 (P:=P) h6 (eT _) ol oh true w;clear b3 b4
   have e1:lh.1=0:=by omega
   have e2:lh.2=0:=by omega
   rw[h0] at hr;refine⟨.slice y 0 0,by simp[execOp,ho,Instr.sliceAt,Instr.slice,run_underlying hu,ha,hr,run_sizeOf h5.ey,e1,e2],B,s,q',e',hb,hbd,aOu,.inl ⟨by omega,y,rfl⟩⟩
  .have hr:=v7 (P:=P) h6 sw ol oh true w;refine⟨_,by simp[execOp,ho,Instr.sliceAt,Instr.slice,run_underlying hu,ha,hr,run_sizeOf h5.ey];rfl,?_⟩;show CV.rel π (.sl b (agz (aqZ (vM lo&&vM hi) len) l q lh.1 z) (lenOf (aqZ (vM lo&&vM hi) len) l hh len lh) z (own&&hh.isNone)) _;refine⟨B,s,q',e',hb,hbd,aOu,?_⟩;by_cases hm2:cap=lh.1
   .left
    refine⟨by omega,some ⟨B,s+q.val,none⟩,?_⟩;rw[if_pos hm2];have e1:lh.2-lh.1=0:=by omega
    have e2:cap-lh.1=0:=by omega
    rw[e1,e2]
   .right
    refine⟨cap-lh.1,by omega,?_,λh=> ?_⟩
    .rw[if_neg hm2,nL,Cc,hl,aFl]
    .simp only[cq] at h;have hw2:=aSl h.1;have e3:lh.1*z+(cap-lh.1)*z=cap*z:=by rw[<-qV];congr 1;omega
     rw[aFl];omega
 .rename_i e hu _ _
  obtain⟨z,⟨_,h5⟩,_,h4⟩:=aH.bind' h4;obtain⟨lh,⟨_,h6⟩,_,h4⟩:=aH.bind' h4;cases h4;have ha:a.eval x=.slice none 0 0:=ha;have hr:=v7 (P:=P) h6 (eT 0) ol oh true w;obtain⟨b1,b2,b3,b4⟩:=h6.UU;have e1:lh.1=0:=by omega
  have e2:lh.2=0:=by omega
  exact⟨.slice none 0 0,by simp[execOp,ho,Instr.sliceAt,Instr.slice,run_underlying hu,ha,hr,run_sizeOf h5.ey,e1,e2],rfl⟩
 .rename_i e n z cols hu _ _
  obtain⟨z',⟨_,h5⟩,_,h4⟩:=aH.bind' h4;obtain⟨_,⟨_,h7⟩,_,h4⟩:=aH.bind' h4;obtain⟨lh,⟨_,h6⟩,_,h4⟩:=aH.bind' h4;cases h4;have hz:z=z':=beq_iff.1 h7.cL;subst hz;obtain⟨b1,b2,b3,b4⟩:=h6.UU;have hl:=atG (q:=false) (n:=.s n) h6;have hfl:(avk l lh.1 cols).length=cols.length:=by unfold avk;split<;>simp
  have hfg:∀j,je (avk l lh.1 cols) j=je cols (lh.1*cols.length+j):=λj=>by
   unfold avk;split
   .rcases b4 with⟨_,e⟩| ⟨i,e,_⟩
    .rw[e,Tg,hI]
    .cases e
   .exact aAq ..
  obtain⟨hz,ha⟩:=ha;rcases ha with⟨h0,y,ha⟩| ⟨B,s,cap,sw,ha,hc⟩
  .have hr:=v7 (P:=P) h6 (eT _) ol oh true w;clear b3 b4
   have e1:lh.1=0:=by omega
   have e2:lh.2=0:=by omega
   rw[h0] at hr;exact⟨.slice y 0 0,by simp[execOp,ho,Instr.sliceAt,Instr.slice,run_underlying hu,ha,hr,run_sizeOf h5.ey,e1,e2],hfl.trans hz,.inl ⟨by omega,y,rfl⟩⟩
  .have hr:=v7 (P:=P) h6 sw ol oh true w;refine⟨_,by simp[execOp,ho,Instr.sliceAt,Instr.slice,run_underlying hu,ha,hr,run_sizeOf h5.ey];rfl,hfl.trans hz,?_⟩;by_cases hm2:cap=lh.1
   .left
    refine⟨by omega,some ⟨B,s,none⟩,?_⟩;rw[if_pos hm2];have e1:lh.2-lh.1=0:=by omega
    have e2:cap-lh.1=0:=by omega
    rw[e1,e2]
   .right
    refine⟨B,s+lh.1*z,cap-lh.1,by omega,by rw[if_neg hm2,nL,hl],λj hj=> ?_⟩;rw[hl] at hj;have e4:lh.1*z+(lh.2-lh.1)*z=lh.2*z:=by rw[<-qV];congr 1;omega
    have e5:=wL z b2;obtain⟨f,v,f1,f2,f3⟩:=hc (lh.1*z+j) (by omega);exact⟨f,v,by rw[hfg,hz];exact f1,by rw[Cc];exact f2,f3⟩
 .cases h4
omit [ax] in
theorem aOv (vs:List Value):∀(off k:Nat) (cs:Array Value),off+k+vs.length<=cs.size->
  ((vs.zipIdx k).foldl (λ(cs:Array Value) (x:Value×Nat)=>cs.setIfInBounds (off+x.2) x.1) cs).size=cs.size/\
  ∀i d,((vs.zipIdx k).foldl (λ(cs:Array Value) (x:Value×Nat)=>cs.setIfInBounds (off+x.2) x.1) cs).getD i d=if off+k<=i/\i<off+k+vs.length then vs.getD (i-(off+k)) d else cs.getD i d:=by
 induction vs with
 |nil=>intro off k cs _;refine⟨rfl,λi d=> ?_⟩;rw[if_neg (by simp)];rfl
 |cons v vs ih=>
  intro off k cs h;simp only[LN] at h;rw[List.zipIdx_cons,List.foldl_cons];obtain⟨h1,h2⟩:=ih off (k+1) (cs.setIfInBounds (off+k) v) (by simp;omega);refine⟨by simpa using h1,λi d=> ?_⟩;rw[h2];simp only[LN];by_cases c1:off+(k+1)<=i/\i<off+(k+1)+vs.length
  .rw[if_pos c1,if_pos (by omega),show i-(off+k)=(i-(off+(k+1)))+1 by omega];simp[List.getD]
  .rw[if_neg c1];by_cases c2:i=off+k
   .subst c2;rw[if_pos (by omega)];simp[Array.getD,show off+k<cs.size by omega]
   .rw[if_neg (by omega)];simp[aqW,aTI (Ne.symm c2)]
theorem aYM {π:Pi}{cs Th vs:af}{arr:Array Value}{xs:Array Value}{off:Nat}(h1:bn (CV.rel π) cs.list arr.toList)(h2:bn (CV.rel π) vs.list xs.toList)(hle:off+af.size vs<=af.size cs)(hu:alN cs off vs=some Th):
  bn (CV.rel π) Th.list (xs.zipIdx.foldl (λ(cs:Array Value) (x:Value×Nat)=>cs.setIfInBounds (off+x.2) x.1) arr).toList:=by
 obtain⟨l1,g1⟩:=jF h1;obtain⟨l2,g2⟩:=jF h2;obtain⟨u1,u2⟩:=OO hu;simp only[WA] at l1 l2;have key:=aOv xs.toList off 0 arr (by simp only[WA];omega)
 have e:(xs.zipIdx.foldl (λ(cs:Array Value) (x:Value×Nat)=>cs.setIfInBounds (off+x.2) x.1) arr)=((xs.toList.zipIdx 0).foldl (λ(cs:Array Value) (x:Value×Nat)=>cs.setIfInBounds (off+x.2) x.1) arr):=by
  rw[<-Array.foldl_toList];simp
 rw[e];refine yC (by rw[WA,key.1,u1,l1]) λj hj=> ?_;rw[u1] at hj;have yN:j<((xs.toList.zipIdx 0).foldl (λ(cs:Array Value) (x:Value×Nat)=>cs.setIfInBounds (off+x.2) x.1) arr).size:=by rw[key.1,l1];exact hj
 have hk:=key.2 j undef;rw[aqW,ai8 yN,LM] at hk;refine⟨_,by rw[Wz,ai8 yN],?_⟩;rw[hk,u2 j hj];simp only[kC,WA,l2];by_cases c:off<=j/\j<off+af.size vs
 .rw[if_pos c,if_pos c];obtain⟨x,hx,hr⟩:=g2 (j-off) (by omega);simp only[List.getD,hx,LM];exact hr
 .rw[if_neg c,if_neg c];obtain⟨x,hx,hr⟩:=g1 j hj;rw[Wz] at hx;simp only[aqW,hx,LM];exact hr
theorem agN {π:Pi}{pl:Nat->Option (Nat×Nat)}:∀{l:List (Nat×RV)} {l':List (Nat×Value)} {cs Th:af} {arr:Array Value},bn (λ(p:Nat×RV) (q:Nat×Value)=>p.1=q.1/\p.2.rel π q.2) l l'->alQ pl cs l=some Th->bn (CV.rel π) cs.list arr.toList->
  ∃aT5,Instr.fill pl arr l'=some aT5/\bn (CV.rel π) Th.list aT5.toList/\af.size Th=af.size cs
 | [],[],cs,Th,arr,_,h,ha=>by simp[alQ] at h;subst h;exact⟨arr,rfl,ha,rfl⟩
 |(i,v)::l,(i',x)::l',cs,Th,arr,⟨⟨hi,hv⟩,hl⟩,h,ha=>by
  have hi:i=i':=hi;subst hi;simp only[alQ] at h;split at h
  .cases h
  .rename_i q n hpl
   split at h
   .rename_i hc
    simp only[cq,beq_iff,fH] at hc;obtain⟨c1,c2⟩:=hc;split at h
    .rename_i cs1 hu
     have hcx:bn (CV.rel π) v.bS.list x.cells.toList:=RV.OP hv;have l1:=(jF hcx).1;have l2:=(jF ha).1;simp only[WA] at l1 l2;obtain⟨aT5,h1,h2,h3⟩:=agN (pl:=pl) hl h (aYM ha hcx (by omega) hu);refine⟨aT5,?_,h2,h3.trans (OO hu).1⟩;simp only[Instr.fill,hpl];rw[if_neg (by simp;omega)];exact h1
    .cases h
   .cases h
 | [],_::_,_,_,_,h,_,_=>h.elim
 |_::_,[],_,_,_,h,_,_=>h.elim
theorem aFm {ps:Array (Nat×Operand)}{l:List (Nat×RV)}{fp:List Fp}{π:Pi}{a:Act}{w:World}(h:aH (Ab.uw (λp:Nat×Operand=>(wM p.2).bind λv=>.ret (p.1,v)) ps.toList) g l fp)(R:Rel X D π g a w):
  bn (λ(p:Nat×RV) (q:Nat×Value)=>p.1=q.1/\p.2.rel π q.2) l (ps.map λ(i,x)=>(i,a.eval x)).toList:=by
 have:=aH.uw (ρ:=λ(p:Nat×RV) (x:Nat×Operand)=>p.1=x.1/\p.2.rel π (a.eval x.2)) (λx v l hx=>by
  obtain⟨r,⟨_,h1⟩,_,h2⟩:=aH.bind' hx;cases h2;exact⟨rfl,h1.wM R⟩) h
 rw[Array.toList_map];exact apJ this
theorem aOw {t:TypeId}{ps:Array (Nat×Operand)}{fp:List Fp}(ho:o.op=.build t ps)
  (h:aH ((Ab.ey (A3 P t)).bind λz=>(Ab.uw (λp=>(wM p.2).bind λv=>.ret (p.1,v)) ps.toList).bind λl=>(Ab.ey (placesOf P t)).bind λpl=>(Ab.ey (alQ pl z.bS l)).bind λcs=>.ret (ee o.dst (.r (.agg cs)))) g us fp):AE P o X D aI us g:=by
 obtain⟨z,⟨_,h1⟩,_,h⟩:=aH.bind' h;obtain⟨l,⟨_,h2⟩,_,h⟩:=aH.bind' h;obtain⟨pl,⟨_,h3⟩,_,h⟩:=aH.bind' h;obtain⟨cs,⟨_,h4⟩,_,h⟩:=aH.bind' h;cases h;refine iR λπ a w R=> ?_;have h3:=h3.ey;have h4:=h4.ey;have hp:=aFm h2 R;obtain⟨zx,_,⟨it,hi,hz⟩,a39⟩:=aet h1.ey w;have hzr:=RV.OP (a39 π)
 have hb:∃arr,P.built t (ps.map λ(i,x)=>(i,a.eval x)).toList=some arr/\bn (CV.rel π) cs.list arr.toList:=by
  unfold placesOf at h3;split at h3
  .rename_i fs hu
   cases hq:fs.toList.mapM (λf=>(P.info? f.type).map λi=>(f.offset,i.size)) with
   |none=>rw[hq] at h3;cases h3
   |some a5f=>
    rw[hq] at h3;cases h3;obtain⟨arr,e1,e2,_⟩:=agN hp h4 hzr;refine⟨arr,?_,e2⟩;simp only[Program.built,hi,hu,hz,hq];rw[<-e1];congr 1;funext i;simp
  .rename_i n e hu
   cases hq:jd P e with
   |none=>rw[hq] at h3;cases h3
   |some n=>
    rw[hq] at h3;cases h3;obtain⟨ie,hie,rfl⟩:=aq3 hq;obtain⟨arr,e1,e2,_⟩:=agN hp h4 hzr;exact⟨arr,by simp only[Program.built,hi,hu,hz,hie];exact e1,e2⟩
  .cases h3
 obtain⟨arr,e1,e2⟩:=hb;exact⟨.agg arr,by simp[execOp,ho,run_build w t _ arr e1],arr,rfl,e2⟩
omit [ax] in
theorem ayz (n:Nat)(l:af):af.size (rep n l)=n*af.size l:=by
 induction n with
 |zero=>rw[rep,af.lX,Tg]
 |succ n ih=>rw[rep,af.size_append,ih,atw];omega
omit [ax] in
theorem aYN (n:Nat)(l:af)(i:Nat)(h:i<n*af.size l):af.get (rep n l) i=af.get l (i%af.size l):=by
 induction n generalizing i with
 |zero=>omega
 |succ n ih=>
  rw[rep,af.get_append];by_cases hi:i<af.size l
  .rw[if_pos hi,aym hi]
  .rw[if_neg hi,ih _ (by rw[atw] at h;omega)];congr 1
   exact(Nat.mod_eq_sub_mod (by omega)).symm
theorem Rel.row {π:Pi}{a:Act}{w:World}{g:Gt}(R:Rel X D π g a w){k:af}{n:Sz}{q cap:Nat}{arr:Array Value}{t:TypeId}{dst:Option Tmp}(hd:∀d,dst=some d->d<X.N)(h0:π aI=none)(hk:X.k<=aI)(hn:n.val<=cap)(hc:cap*q<=arr.size)(hs:k.size=n.val*q)
  (h2:∀j,j<k.size->∃v,arr[j]? =some v/\(k.get j).rel π v):
  Rel X D (AJ π aI (w.heap.size,0,k.size,cap*q)) (cH (ee dst (.r (.c (.sl aI (.k 0) n q true)))) ((Up.new aI k).hX g)) (a.put dst (.slice (some ⟨w.heap.size,0,none⟩) n.val cap)) (w.alloc (.cells arr t)):=by
 have hq:=wL q hn;refine(R.alloc (k:=k) (cs:=arr) (t:=t) (e:=cap*q) h0 hk (by omega) hc h2).dst hd ?_;exact⟨_,_,_,_,qC _ _ _,by simp only[cD.val];omega,λ_=>by simp only[cD.val];omega,.inr ⟨cap,hn,rfl,λ_=>by simp only[cD.val];omega⟩⟩
omit [ax] in
theorem WM {π:Pi}{b:Nat}{p:Nat×Nat×Nat×Nat}{aI c:Nat}(hb:aI<=b/\b<aI+c):∀b',AJ π b p b'≠none->π b'≠none∨(aI<=b'/\b'<aI+c):=by
 intro b' h;simp only[AJ] at h;by_cases e:b'=b
 .subst e;exact .inr hb
 .simp only[e,gG] at h;exact .inl h
omit [ax] in
theorem LZ (dst:Option Tmp)(v:AV)(us:List Up)(g:Gt)(hus:∀u∈us,∀i x,u≠.t i x):cH (ee dst v++us) g=cH (ee dst v) (cH us g):=by
 rw[QI];cases dst with
 |none=>rfl
 |some d=>
  show cH us ((Up.t d v).hX g)=(Up.t d v).hX (cH us g);induction us generalizing g with
  |nil=>rfl
  |cons u us ih=>
   have hu:=hus u (by simp);show cH us (u.hX ((Up.t d v).hX g))=(Up.t d v).hX (cH us (u.hX g));rw[<-ih _ λx hx=>hus x (by simp[hx])];cases u with
   |t i x=>exact absurd rfl (hu i x)
   |_=>rfl
theorem ayA {t:TypeId}{n:Nat}{ps:Array (Nat×Operand)}{fp:List Fp}(ho:o.op=.buildSlice t n ps)
  (h:aH (match P.underlying t with
  |some (.slice e)=>(Ab.ey (A3 P e)).bind λz=>(Ab.ey (jd P e)).bind λq=>
   (Ab.cL (wd 1 q&&wd (n*q) 16777216)).bind λ_=>
   (Ab.uw (λp=>(wM p.2).bind λv=>.ret (p.1,v)) ps.toList).bind λl=>
   (Ab.cL (Nat.beq (af.size z.bS) q)).bind λ_=>(Ab.ey (alQ (λi=>some (i*q,q)) (rep n z.bS) l)).bind λcs=>.ret (ee o.dst (.r (.c (.sl aI (.k 0) (.l n) q true)))++[.new aI (apI P e n q cs)])
  |_=>.fail) g us fp):AE P o X D aI us g:=by
 split at h
 .rename_i e hu
  obtain⟨z,⟨_,h1⟩,_,h⟩:=aH.bind' h;obtain⟨q,⟨_,h2⟩,_,h⟩:=aH.bind' h;obtain⟨_,⟨_,h3⟩,_,h⟩:=aH.bind' h;obtain⟨l,⟨_,h4⟩,_,h⟩:=aH.bind' h;obtain⟨_,⟨_,h5⟩,_,h⟩:=aH.bind' h;obtain⟨cs,⟨_,h6⟩,_,h⟩:=aH.bind' h;cases h;have h3:=h3.cL;simp only[cq,fH] at h3;have h5:af.size z.bS=q:=beq_iff.1 h5.cL;intro π a w next Q R hk hf hd hD hn;obtain⟨zx,hz1,_,hz2⟩:=aet h1.ey w;obtain⟨zl,zg⟩:=jF (RV.OP (hz2 π));rw[WA] at zl;have hp:=aFm h4 R
  have al1:bn (CV.rel π) (af.list (rep n z.bS)) ((Array.range (n*q)).map (zx.cells[·%zx.cells.size]!)).toList:=by
   refine yC (by simp[ayz,h5]) λj hj=> ?_;rw[ayz,h5] at hj;rw[aYN _ _ _ (by rw[h5];exact hj),h5];obtain⟨y,hy,hr⟩:=zg (j%q) (by rw[h5];exact Nat.mod_lt _ (by omega));refine⟨y,?_,hr⟩;have e3:zx.cells.size=q:=zl.trans h5;have e4:zx.cells[j%q]? =some y:=by simpa using hy
   simp[hj,e3,getElem!_def,e4]
  obtain⟨arr,e1,e2,e3⟩:=agN hp h6.ey al1;have e1:Instr.fill (λi=>some (i*q,q)) ((Array.range (n*q)).map (zx.cells[·%zx.cells.size]!)) (ps.toList.map λx=>(x.1,a.eval x.2))=some arr:=by rw[Array.toList_map] at e1;exact e1
  obtain⟨cl1,cl2⟩:=jF e2;rw[WA] at cl1;rw[ayz,h5] at e3
  have hbr:af.size (apI P e n q cs)=af.size cs/\∀j,j<af.size cs->af.get (apI P e n q cs) j=af.get cs j:=by
   unfold apI;split
   .exact⟨rfl,λ_ _=>rfl⟩
   .exact aan q cs
  generalize apI P e n q cs=kk at hbr hf hn
  obtain⟨br1,br2⟩:=hbr;have hcn:cE (ee o.dst (.r (.c (.sl aI (.k 0) (.l n) q true)))++[Up.new aI kk])=1:=by unfold ee cE;cases o.dst<;>rfl
  have h0:=hf aI (eT _) (by omega)
  have R1:=R.row (k:=kk) (n:=.l n) (q:=q) (cap:=n) (arr:=arr) (t:=e) hd h0 hk (eT _) (by omega) (br1.trans e3) (λj hj=>by
   rw[br1] at hj;obtain⟨y,hy,hr⟩:=cl2 j hj;rw[br2 j hj];exact⟨y,by simpa using hy,hr⟩)
  refine QH (x:=.slice (some ⟨w.heap.size,0,none⟩) n n) (w':=w.alloc (.cells arr e)) ?_ (hn _ _ (AJ π aI (w.heap.size,0,af.size kk,n*q)) (A7 h0 _) (WM ⟨eT _,by omega⟩) ?_)
  .have h24:¬(16777216<n*q):=by omega
   simp only[execOp,ho,Instr.buildSlice,Sem.run_bind,run_underlying hu,Result.andThen_ok,run_sizeOf h2.ey];by_cases hnq:n*q=0
   .have hn0:n=0:=by
     rcases Nat.mul_eq_zero.1 hnq with h|h
     .exact h
     .omega
    subst hn0;simp only[Tg] at e1 ⊢;have a4a:(Array.range 0).map (zx.cells[·%zx.cells.size]!)=#[]:=aYs (by simp);have hr0:Array.range 0=#[]:=aYs (by simp);rw[a4a] at e1;simp[e1,hr0,LY]
   .simp[h24,hnq,hz1,e1,LY]
  .rw[LZ _ _ _ _ (by simp)];exact R1
 .cases h
theorem aCB {t:TypeId}{n c:Operand}{fp:List Fp}(ho:o.op=.makeSlice t n c)
  (h:aH (match P.underlying t with
  |some (.slice e)=>(Ab.ey (A3 P e)).bind λz=>(Ab.ey (jd P e)).bind λq=>(KZ n).bind λn=>(KZ c).bind λc=>
   (Ab.cL (decide (n.2=0)&&decide (c.2=0))).bind λ_=>(Ab.ey (EB q z.bS)).bind λcols=>
   .ret (ee o.dst (.r (.c (.sl aI (.k 0) (.s 0) q true)))++[.new aI [.a (.s 0) cols]])
  |_=>.fail) g us fp):AE P o X D aI us g:=by
 split at h
 .rename_i e hu
  obtain⟨z,⟨_,h1⟩,_,h⟩:=aH.bind' h;obtain⟨q,⟨_,h2⟩,_,h⟩:=aH.bind' h;obtain⟨nn,⟨_,h3⟩,_,h⟩:=aH.bind' h;obtain⟨cc,⟨_,h4⟩,_,h⟩:=aH.bind' h;obtain⟨_,⟨_,h5⟩,_,h⟩:=aH.bind' h;obtain⟨cols,⟨_,h6⟩,_,h⟩:=aH.bind' h;cases h;have h5:=h5.cL;simp only[cq,mf] at h5;intro π a w next Q R hk hf hd hD hn;have hv1:=h3.KZ R;have hv2:=h4.KZ R;rw[h5.1] at hv1;rw[h5.2] at hv2;have hcn:cE (ee o.dst (.r (.c (.sl aI (.k 0) (.s 0) q true)))++[Up.new aI [.a (.s 0) cols]])=1:=by unfold ee cE;cases o.dst<;>rfl
  have h0:=hf aI (eT _) (by omega);have hs0:af.size [.a (.s 0) cols]=0:=by simp[af.size,Sg.size,Sz.val]
  have R1:=R.row (k:=[.a (.s 0) cols]) (n:=.s 0) (q:=q) (cap:=0) (arr:=#[]) (t:=e) hd h0 hk (eT _) (by simp) (by rw[hs0];simp[Sz.val]) (λj hj=>by rw[hs0] at hj;omega)
  obtain⟨i,hi,hby⟩:∃i,P.info? e=some i/\True:=by
   have:=h2.ey;unfold jd at this;cases hh:P.info? e with
   |none=>rw[hh] at this;cases this
   |some i=>exact⟨i,rfl,trivial⟩
  refine QH (x:=.slice (some ⟨w.heap.size,0,none⟩) 0 0) (w':=w.alloc (.cells #[] e)) ?_ (hn _ _ (AJ π aI (w.heap.size,0,af.size [.a (.s 0) cols],0*q)) (A7 h0 _) (WM ⟨eT _,by omega⟩) ?_)
  .have hw0:IntKind.i64.wrap 0=0:=by decide
   simp[execOp,ho,Instr.makeSlice,run_underlying hu,hv1,hv2,asInt,asIntOf,typeInfo,hi,hw0,run_sizeOf h2.ey,askRoom,LY]
   rw[show Array.range 0=#[] from aYs (by simp),Array.map_empty]
  .rw[LZ _ _ _ _ (by simp)];exact R1
 .cases h
end
end Go.Ab
namespace Go.Ab
variable [ax]
section
variable {P:Program} {o:Oper} {X:Cx} {D:Nat->Prop} {aI:Nat} {us:List Up} {g:Gt}
theorem K2 {c:Call}{args:List AV}{l:List Fp}{π:Pi}{a:Act}{w:World}(h:aH (Ab.uw Ab.Ei c.args.toList) g args l)(R:Rel X D π g a w):bn (AV.rel π) args (c.args.map a.eval).toList:=by
 rw[Array.toList_map];exact apJ (aH.uw (ρ:=λv x=>v.rel π (a.eval x)) (λx v l hx=>aH.Ei hx R) h)
omit [ax] in
theorem aYO {x:Array Value}{y:Value}(h:x.toList=[y]):x=#[y]:=by rw[<-alI];exact h
omit [ax] in
theorem aYP {x:Array Value}{y z:Value}(h:x.toList=[y,z]):x=#[y,z]:=by rw[<-alI];exact h
omit [ax] in
theorem a4b {x:Array TypeId}{y z:TypeId}(h:x.toList=[y,z]):x=#[y,z]:=by rw[<-alI];exact h
omit [ax] in
theorem ayB {R:AV->Value->Prop}{x:AV}{l:List Value}(h:bn R [x] l):∃y,l=[y]/\R x y:=by
 match l,h with
 | [y],⟨h,_⟩=>exact⟨y,rfl,h⟩
 | [],h=>exact h.elim
 |_::_::_,⟨_,h⟩=>exact h.elim
omit [ax] in
theorem ayC {R:AV->Value->Prop}{x x':AV}{l:List Value}(h:bn R [x,x'] l):∃y y',l=[y,y']/\R x y/\R x' y':=by
 match l,h with
 | [y,y'],⟨h,h',_⟩=>exact⟨y,y',rfl,h,h'⟩
 | [],h=>exact h.elim
 | [_],⟨_,h⟩=>exact h.elim
 |_::_::_::_,⟨_,_,h⟩=>exact h.elim
omit [ax] in
theorem agO {c:Call}{bi:Builtin}(a:Act)(w:World)(ho:o.op=.call c)(hc:c.callee=.builtin bi):∃cs,(execOp a.eval o).run P w=(builtin bi c.argTypes o.type cs (c.args.map a.eval)).run P w:=
 ⟨_,by simp[execOp,ho,resolve,hc,invoke];rfl⟩
theorem aJm {π:Pi}:∀{vs:List FV} {xs:List AV} {ys:List Value},bn (λ(v:FV) (x:AV)=>x=.r (.c (.f v))) vs xs->bn (AV.rel π) xs ys->bn FV.rel vs ys
 | [],[],[],_,_=>trivial
 |v::vs,x::xs,y::ys,⟨e,h⟩,⟨a,b⟩=>by subst e;exact⟨a,aJm h b⟩
 | [],_::_,_,h,_=>h.elim
 |_::_,[],_,h,_=>h.elim
 | [],[],_::_,_,h=>h.elim
 |_::_,_::_,[],_,h=>h.elim
theorem aUI {c:CV}{n:Nat}{l:List Fp}(h:aH (match c with|.f _=>Rd.fail|c=>aTW c) g n l){π:Pi}{x:Value}(hx:c.rel π x):∃a cap,x=.slice a n cap:=by
 cases c<;>simp only[aTW] at h
 case sl b o m z own=>
  cases h;obtain⟨B,s,q,e,_,_,_,⟨h0,a,rfl⟩| ⟨cap,_,rfl,_⟩⟩:=hx
  .exact⟨_,_,by rw[h0]⟩
  .exact⟨_,_,rfl⟩
 case nils=>cases h;exact⟨_,_,hx⟩
 case fs n z cols=>
  cases h;obtain⟨_,⟨h0,a,rfl⟩| ⟨B,s,cap,_,rfl,_⟩⟩:=hx
  .exact⟨_,_,by rw[h0]⟩
  .exact⟨_,_,rfl⟩
 all_goals cases h
theorem aUJ {c:Call}{args:List AV}{x:AV}{fp l0:List Fp}(ho:o.op=.call c)(hc:c.callee=.builtin .len)(ha:aH (Ab.uw Ab.Ei c.args.toList) g args l0)(lV:args=[x])
  (h:aH ((Ab.ey ((c.argTypes[0]?).bind P.underlying)).bind λ
  |.array n _=>.ret (ee o.dst (.r (.c (.f (.i .i64 (n:Int))))))
  |.slice _=>(Ab.asC x).bind λc=>(match c with|.f _=>Rd.fail|c=>aTW c).bind λn=>.ret (ee o.dst (.r (.c (.f (.i .i64 (n:Int))))))
  |.string=>(Ab.asC x).bind λc=>(match c with|.f (.s x)=>Rd.ret x.size|_=>Rd.fail).bind λn=>.ret (ee o.dst (.r (.c (.f (.i .i64 (n:Int))))))
  |_=>.fail) g us fp):AE P o X D aI us g:=by
 subst lV;obtain⟨d,⟨_,h1⟩,_,h⟩:=aH.bind' h;have h1:=h1.ey
 obtain⟨t,ht,hu⟩:∃t,c.argTypes[0]? =some t/\P.underlying t=some d:=by
  cases ht:c.argTypes[0]? with
  |none=>rw[ht] at h1;cases h1
  |some t=>rw[ht] at h1;exact⟨t,rfl,h1⟩
 split at h
 .rename_i n _ _
  cases h;refine iR λπ a w R=> ?_;obtain⟨y,hy,hr⟩:=ayB (K2 ha R);have hy:=aYO hy;exact⟨goInt n,by obtain⟨cs,e⟩:=agO (P:=P) a w ho hc;rw[e,hy];simp[builtin,Builtin.len_,ht,run_underlying hu],rfl⟩
 .obtain⟨c1,⟨_,h2⟩,_,h⟩:=aH.bind' h;obtain⟨n,⟨_,h3⟩,_,h⟩:=aH.bind' h;cases h;refine iR λπ a w R=> ?_;obtain⟨y,hy,hr⟩:=ayB (K2 ha R);have hy:=aYO hy;rw[h2.asC] at hr;obtain⟨ad,cap,rfl⟩:=aUI h3 hr;exact⟨goInt n,by obtain⟨cs,e⟩:=agO (P:=P) a w ho hc;rw[e,hy];simp[builtin,Builtin.len_,ht,run_underlying hu],rfl⟩
 .obtain⟨c1,⟨_,h2⟩,_,h⟩:=aH.bind' h;obtain⟨n,⟨_,h3⟩,_,h⟩:=aH.bind' h;cases h;refine iR λπ a w R=> ?_;obtain⟨y,hy,hr⟩:=ayB (K2 ha R);have hy:=aYO hy;rw[h2.asC] at hr;split at h3
  .cases h3;have hr:y=_:=hr;subst hr;exact⟨_,by obtain⟨cs,e⟩:=agO (P:=P) a w ho hc;rw[e,hy];simp[builtin,Builtin.len_,ht,run_underlying hu];rfl,rfl⟩
  .cases h3
 .cases h
omit [ax] in
theorem aOx {x:AV}{v:FV}{l:List Fp}(h:aH (Ab.asF x) g v l):x=.r (.c (.f v)):=by
 unfold Ab.asF at h;split at h
 .cases h;rfl
 .cases h
theorem aJn {f:FV->FV->Rd FV}{m:Value->Value->Sem Value}(hf:∀x y v l,aH (f x y) g v l->∀a b,x.rel a->y.rel b->∀w,∃z,(m a b).run P w=.ok z w/\v.rel z):∀{xs:List FV} {ys:List Value} {x v:FV} {y:Value} {l:List Fp},aH (avm f x xs) g v l->x.rel y->bn FV.rel xs ys->∀w,∃z,(ys.foldlM m y).run P w=.ok z w/\v.rel z
 | [],[],x,v,y,l,h,hx,_,w=>by cases h;exact⟨y,by simp,hx⟩
 |a::xs,b::ys,x,v,y,l,h,hx,⟨ha,hs⟩,w=>by
  obtain⟨r,⟨_,h1⟩,_,h⟩:=aH.bind' h;obtain⟨z,hz,hr⟩:=hf x a r _ h1 y b hx ha w;obtain⟨z',uN,hr'⟩:=aJn hf h hr hs w;exact⟨z',by simp[List.foldlM_cons,hz,uN],hr'⟩
 | [],_::_,_,_,_,_,_,_,h,_=>h.elim
 |_::_,[],_,_,_,_,_,_,h,_=>h.elim
theorem aOy {bi:Builtin}{f:FV->FV->Rd FV}{m:Value->Value->Sem Value}(hf:∀x y v l,aH (f x y) g v l->∀a b,x.rel a->y.rel b->∀w,∃z,(m a b).run P w=.ok z w/\v.rel z)
  {c:Call}{args:List AV}{x:AV}{xs:List AV}{fp l0:List Fp}(ho:o.op=.call c)(hc:c.callee=.builtin bi)(hb:∀t cs y ys w,(builtin bi c.argTypes t cs (y::ys).toArray).run P w=((ys.foldlM m y).run P w).andThen λv w=>.ok (.value v) w)
  (ha:aH (Ab.uw Ab.Ei c.args.toList) g args l0)(lV:args=x::xs)
  (h:aH ((Ab.asF x).bind λx=>(Ab.uw Ab.asF xs).bind λl=>(avm f x l).bind λv=>.ret (ee o.dst (.r (.c (.f v))))) g us fp):AE P o X D aI us g:=by
 subst lV;obtain⟨v0,⟨_,h1⟩,_,h⟩:=aH.bind' h;obtain⟨vs,⟨_,h2⟩,_,h⟩:=aH.bind' h;obtain⟨v,⟨_,h3⟩,_,h⟩:=aH.bind' h;cases h;refine iR λπ a w R=> ?_;have hr:=K2 ha R;have h1:=aOx h1;subst h1;have h2:=aH.uw (ρ:=λv x=>x=.r (.c (.f v))) (λx v l hx=>aOx hx) h2
 obtain⟨y,ys,hy,hry,hrs⟩:∃y ys,(c.args.map a.eval).toList=y::ys/\v0.rel y/\bn (AV.rel π) xs ys:=by
  revert hr
  generalize (c.args.map a.eval).toList=L
  intro hr;cases L with
  |nil=>exact hr.elim
  |cons y ys=>exact⟨y,ys,rfl,hr.1,hr.2⟩
 have hvs:bn FV.rel vs ys:=aJm h2 hrs;obtain⟨z,hz,hzr⟩:=aJn hf h3 hry hvs w;have hy':c.args.map a.eval=(y::ys).toArray:=by rw[<-alI];exact hy
 exact⟨z,by obtain⟨cs,e⟩:=agO (P:=P) a w ho hc;rw[e,hy',hb,hz];rfl,hzr⟩
theorem aUK {x y v:FV}{l:List Fp}(h:aH (aYz x y) g v l)(a b:Value)(ha:x.rel a)(hb:y.rel b)(w:World):∃z,(Builtin.min2 a b).run P w=.ok z w/\v.rel z:=by
 unfold aYz at h;split at h
 .rename_i k m k' n
  have ha:a=_:=ha;have hb:b=_:=hb;subst ha hb;split at h
  .cases h;exact⟨_,by simp[Builtin.min2],rfl⟩
  .cases h
 .cases h
theorem aUL {x y v:FV}{l:List Fp}(h:aH (aYA x y) g v l)(a b:Value)(ha:x.rel a)(hb:y.rel b)(w:World):∃z,(Builtin.max2 a b).run P w=.ok z w/\v.rel z:=by
 unfold aYA at h;split at h
 .rename_i k m k' n
  have ha:a=_:=ha;have hb:b=_:=hb;subst ha hb;split at h
  .cases h;exact⟨_,by simp[Builtin.max2],rfl⟩
  .cases h
 .cases h
omit [ax] in
theorem a0H (ts:Array TypeId)(t:TypeId)(cs:Array Bool)(y:Value)(ys:List Value)(w:World):(builtin .min ts t cs (y::ys).toArray).run P w=((ys.foldlM Builtin.min2 y).run P w).andThen λv w=>.ok (.value v) w:=by
 simp[builtin,Builtin.min_]
omit [ax] in
theorem a0I (ts:Array TypeId)(t:TypeId)(cs:Array Bool)(y:Value)(ys:List Value)(w:World):(builtin .max ts t cs (y::ys).toArray).run P w=((ys.foldlM Builtin.max2 y).run P w).andThen λv w=>.ok (.value v) w:=by
 simp[builtin,Builtin.max_]
end
end Go.Ab
namespace Go.Ab
variable [ax]
section
variable {P:Program} {o:Oper} {X:Cx} {D:Nat->Prop} {aI:Nat} {us:List Up} {g:Gt}
theorem Rel.aYQ {π:Pi}{a:Act}{w:World}(R:Rel X D π g a w){b n B s e lo:Nat}{xs:List Value}(hz:g.z b=some n)(hb:π b=some (B,s,n,e))(h0:n<=lo)(hn:s+lo+xs.length<=e)
  (hD:b<X.k->D b):Rel X D π g a (w.setCells B (s+lo) xs):=by
 obtain⟨B',s',e',fC,hle,h1,h2⟩:=R.hp.hp b n hz;rw[hb] at fC;cases fC;have hin:∀j,j<xs.length->(cl w B (s+lo+j)).isSome=true:=λj hj=>(h1 _ (by omega) (by omega)).1
 refine⟨R.tm,R.nt,R.df,⟨R.hp.am.setCells λhl=>R.hp.lb b B s n e (by rw[hz];simp) hb (by omega),R.hp.lb,λb' n' uN=> ?_,R.hp.dj⟩,R.yd,R.ft,R.fr.setCells ?_⟩
 .obtain⟨B2,s2,e2,Fj,aes,k1,k2⟩:=R.hp.hp b' n' uN;refine⟨B2,s2,e2,Fj,aes,λi hi he=>⟨isSome_setCells hin (k1 i hi he).1,by rw[pX];exact(k1 i hi he).2⟩,λj hj=> ?_⟩;rw[eU]
  .exact k2 j hj
  .intro e3;subst e3;by_cases eb:b'=b
   .subst eb;rw[hb] at Fj;cases Fj;omega
   .by_cases hc:s+lo<=s2+j/\s2+j<s+lo+xs.length
    .exact(R.hp.dj b' b B2 s2 _ e2 s _ e eb (by simp[uN]) (by simp[hz]) Fj hb (s2+j) (by omega) (by omega) (by omega) (by omega)).elim
    .omega
 .rcases pQ B X.w0.heap.size with hB|hB
  .right
   intro j hj;rcases pQ b X.k with hk|hk
   .exact⟨b,s,n,e,hk,hD hk,(R.yd b hk).symm.trans hb,by omega,by omega⟩
   .exact R.ft b B s n e hk (by simp[hz]) hb hB _ (by omega) (by omega)
  .exact .inl hB
theorem aOz {z:Nat}{x:CV}{xb:Sz×af}{l:List Fp}(h:aH (slB z x) g xb l){π:Pi}{a:Act}{w:World}(R:Rel X D π g a w){xv:Value}(hx:x.rel π xv):
  ∃news:List Value,news.length=xb.1.val*z/\xb.2.size=xb.1.val*z/\(∀j,j<xb.1.val*z->∃v,news[j]? =some v/\(xb.2.get j).rel π v)/\(∀v∈news,v.oneCell'=true)/\
   ((xb.1.val=0/\∃y c,xv=.slice y 0 c)∨∃ad c,xv=.slice (some ad) xb.1.val c/\∀j v,news[j]? =some v->w.cell? (ad.add j)=some v):=by
 cases x<;>simp only[slB] at h
 case sl b q n z' own=>
  obtain⟨_,⟨_,h1⟩,_,h2⟩:=aH.bind' h;clear h
  have uN:z=z':=oK h1.cL;subst uN;cases h2 with|vw r v hz hs hv h3=>
  cases h3;obtain⟨B2,s2,q2,e2,Fj,hm,_,⟨h0,y,rfl⟩| ⟨cap,sw,rfl,_⟩⟩:=hx
  .exact⟨[],by simp[h0],hs,λj hj=>by simp only[h0,Tg] at hj;omega,by simp,.inl ⟨h0,y,0,rfl⟩⟩
  .obtain⟨_,xs,hl,hxs,hc⟩:=R.view hz hs hv Fj hm
   have aOA:∀v∈xs,v.oneCell'=true:=λv hv=>by
    obtain⟨i,hi⟩:=ayj.1 hv;obtain⟨c,_,hr⟩:=hxs.get' hi;exact CV.RI hr
   refine⟨xs,hl,hs,λj hj=>(jF hxs).2 j (by rw[hs];exact hj),aOA,.inr ⟨_,cap,rfl,λj v hj=>by rw[nL];exact hc j v hj⟩⟩
 case nils=>
  cases h;have hx:xv=.slice none 0 0:=hx;exact⟨[],by simp[Sz.val],by simp[af.size,Sz.val],λj hj=>by simp[Sz.val] at hj,by simp,.inl ⟨rfl,none,0,hx⟩⟩
 case fs n z' cols=>
  obtain⟨_,⟨_,h1⟩,_,h2⟩:=aH.bind' h;clear h
  have uN:z=z':=oK h1.cL;subst uN;cases h2;obtain⟨hz,hx⟩:=hx;have hs:af.size [.a (.s n) cols]=n*z:=by rw[af.size_cons,af.lX,Sg.ma,hz];rfl
  rcases hx with⟨h0,y,rfl⟩| ⟨B,s,cap,sw,rfl,hc⟩
  .exact⟨[],by simp[h0,Sz.val],hs,λj hj=>by simp only[h0,Sz.val,Tg] at hj;omega,by simp,.inl ⟨h0,y,0,rfl⟩⟩
  .have cell:∀j,j<n*z->∃v,cl w B (s+j)=some v/\(je cols j).rel π v:=λj hj=>by
    obtain⟨f,v,e1,e2,e3⟩:=hc j hj;exact⟨v,(R.hp.am.st _ _ _ e2).2,by rw[e1];exact e3⟩
   have hat:∀j v,((List.range (n*z)).map λj=>(cl w B (s+j)).getD undef)[j]? =some v->j<n*z/\cl w B (s+j)=some v:=λj v hv=>by
    have hjn:j<n*z:=by
     have:=(me.1 hv).1;simpa using this
    obtain⟨u,hu,_⟩:=cell j hjn;simp[hjn,hu] at hv
    exact⟨hjn,by rw[hu,hv]⟩
   refine⟨(List.range (n*z)).map λj=>(cl w B (s+j)).getD undef,by simp[Sz.val],hs,λj hj=> ?_,λv hv=> ?_,.inr ⟨_,cap,rfl,λj v hv=>by rw[nL];exact(hat j v hv).2⟩⟩
   .obtain⟨v,hv,hr⟩:=cell j hj;refine⟨v,?_,by rw[af.dY (by rw[Sg.ma,hz];exact hj),Sg.pR];exact hr⟩;have hj':j<n*z:=hj;rw[Cb,List.getElem?_range hj'];simp[hv]
   .obtain⟨i,hi⟩:=ayj.1 hv;obtain⟨h1,h2⟩:=hat i v hi;obtain⟨u,hu,hr⟩:=cell i h1;rw[h2] at hu;cases hu;exact CV.RI hr
 all_goals cases h
omit [ax] in
theorem aOB {z:Nat}{y:Option Addr}{c:Nat}(w:World):(Builtin.firstCells z 0 (.slice y 0 c)).run P w=.ok #[] w:=by
 cases y<;>simp[Builtin.firstCells,loadCells,loadCellsFrom]
omit [ax] in
theorem agP {t ty e:TypeId}{z:Nat}(ht:P.underlying t=some (.slice e))(hz:jd P e=some z){base y:Option Addr}{n cap c:Nat}(h:n<=cap)(w:World):
  (Builtin.append_ #[t,t] ty #[.slice base n cap,.slice y 0 c]).run P w=.ok (.slice base n cap) w:=by
 cases base<;>simp[Builtin.append_,run_underlying ht,run_sizeOf hz,Builtin.lenOf,h,aOB,storeCells]
omit [ax] in
theorem L3 {t ty e:TypeId}{z:Nat}(ht:P.underlying t=some (.slice e))(hz:jd P e=some z){B q n cap m c:Nat}{ad:Addr}{news:List Value}(h:n+m<=cap)(hl:news.length=m*z)(w:World)
  (hn:∀j v,news[j]? =some v->w.cell? (ad.add j)=some v)(h1:∀v∈news,v.oneCell'=true)(hc:∀j,j<news.length->(cl w B (q+n*z+j)).isSome=true/\fz w B (q+n*z+j)=false):
  (Builtin.append_ #[t,t] ty #[.slice (some ⟨B,q,none⟩) n cap,.slice (some ad) m c]).run P w=.ok (.slice (some ⟨B,q,none⟩) (n+m) cap) (w.setCells B (q+n*z) news):=by
 have hf:=run_firstCells_some (P:=P) w z m ad m c news hl hn;have hst:=run_storeCells_cells (P:=P) B (q+n*z) news 0 w (λj hj=>by have:=(hc j hj).1;simpa[cl] using this) (λj hj=>by have:=(hc j hj).2;simpa[fz] using this) h1;simp[Builtin.append_,run_underlying ht,run_sizeOf hz,Builtin.lenOf,h,hf,nL,hst]
theorem IU {t ty e:TypeId}{z by_:Nat}{zv:RV}(ht:P.underlying t=some (.slice e))(hz:jd P e=some z)(hb:(P.info? e).map (·.bytes)=some by_)(hv:A3 P e=some zv)(hl0:af.size zv.bS=z)(hby:1<=by_)
  {sv:Value}{n cap m c:Nat}{ad:Addr}{G9 news:List Value}(w:World)(hs:(sv=.slice none 0 0/\n=0/\cap=0)∨∃b,sv=.slice (some b) n cap/\∀j v,G9[j]? =some v->w.cell? (b.add j)=some v)
  (hlo:G9.length=n*z)(hl:news.length=m*z)(hn:∀j v,news[j]? =some v->w.cell? (ad.add j)=some v)(hg:cap<n+m)(hm:0<m)(aAu:(n+m)*by_<=140737488355328):
  ∃gc arr,(Builtin.append_ #[t,t] ty #[sv,.slice (some ad) m c]).run P w=.ok (.slice (some ⟨w.heap.size,0,none⟩) (n+m) gc) (w.drew.alloc (.cells arr e))/\n+m<=gc/\arr.size=gc*z/\∃rest,arr.toList=G9++news++rest:=by
 obtain⟨zx,_,⟨i,hi,hzz⟩,hzr⟩:=aet hv w;rw[hi] at hb;have hzs:i.size=z:=by unfold jd at hz;rw[hi] at hz;simpa using hz
 have hbs:i.bytes=by_:=by simpa using hb
 have hzc:zx.cells.size=z:=by
  have:=(jF (RV.OP (hzr λ_=>none))).1;simp only[WA] at this;omega
 have hle:n+m<=(n+m)*by_:=Nat.le_mul_of_pos_right _ (by omega)
 have yN:∀(yd gc:Nat),n+m<=gc->(G9.toArray++news.toArray++Builtin.zeroCells zx.cells (gc-(n+m))).size=gc*z:=λyd gc hgc=>by
  simp only[Array.size_append,List.size_toArray,size_zeroCells,hzc,hlo,hl,<-qV];congr 1;omega
 rcases hs with⟨rfl,rfl,rfl⟩| ⟨b,rfl,ho⟩
 .have ho:G9=[]:=List.eq_nil_of_length_eq_zero (by simpa using hlo);subst ho;have hr:=run_append_nil (P:=P) w t ty e i zx ht hi hzz ad m c news (by rw[hzs];exact hl) hn hm (by omega) (by rw[hbs];simp only[hI] at aAu;omega);have hge:=grownCap_ge w m 0 e;refine⟨_,_,by simpa using hr,by simpa using hge,?_,Builtin.zeroCells zx.cells (grownCap w m 0 e-m)|>.toList,?_⟩
  .have:=yN 0 (grownCap w m 0 e) (by simpa using hge);simpa using this
  .simp
 .have hr:=run_append_grow (P:=P) w t ty e i zx ht hi hzz b n cap G9 (by rw[hzs];exact hlo) ho ad m c news (by rw[hzs];exact hl) hn hg (by omega) (growslice_fits hg (by rw[hbs];exact aAu));have hge:=grownCap_ge w (n+m) cap e;refine⟨_,_,hr,hge,yN 0 _ hge,Builtin.zeroCells zx.cells (grownCap w (n+m) cap e-(n+m))|>.toList,?_⟩;simp
omit [ax] in
theorem aSm {e:TypeId}{n:Nat}{l:List Fp}(h:aH (Ab.ey ((P.info? e).map (·.bytes))) g n l):(P.info? e).map (·.bytes)=some n:=h.ey
omit [ax] in
theorem Wt {G9 news rest:List Value}{arr:Array Value}(h:arr.toList=G9++news++rest){j:Nat}{v:Value}:(G9[j]? =some v->arr[j]? =some v)/\(news[j]? =some v->arr[G9.length+j]? =some v):=by
 refine⟨λhj=> ?_,λhj=> ?_⟩
 .have oo:=(me.1 hj).1;rw[<-Wz,h,UT (by simp;omega),UT oo,hj]
 .have oo:=(me.1 hj).1;rw[<-Wz,h,UT (by simp;omega),aen (by omega),show G9.length+j-G9.length=j by omega,hj]
theorem aLm {c:Call}{t:TypeId}{sa xa:AV}{args:List AV}{fp l0:List Fp}(ho:o.op=.call c)(hc:c.callee=.builtin .append)(ha:aH (Ab.uw Ab.Ei c.args.toList) g args l0)(lV:args=[sa,xa])
  (hts:c.argTypes=#[t,t]){s x:CV}(hs:sa=.r (.c s))(hx:xa=.r (.c x))(h:aH (aES P t s x o.dst aI) g us fp):AE P o X D aI us g:=by
 subst hs hx lV;unfold aES at h;split at h
 case h_2=>cases h
 rename_i e hu
 obtain⟨z,⟨_,h1⟩,_,h⟩:=aH.bind' h;obtain⟨by_,⟨_,h2⟩,_,h⟩:=aH.bind' h;obtain⟨zv,⟨_,h3⟩,_,h⟩:=aH.bind' h;obtain⟨_,⟨_,h4⟩,_,h⟩:=aH.bind' h;obtain⟨⟨xn,xk⟩,⟨_,h5⟩,_,h⟩:=aH.bind' h;have h1:=h1.ey;have h2:=aSm h2;have h3:=h3.ey;have h4:=h4.cL;simp only[cq,fH,beq_iff] at h4;have hzv:=h4.2.2;simp only[] at h;cases s with
 |nils=>
  simp only[] at h;obtain⟨_,⟨_,h6⟩,_,h⟩:=aH.bind' h;cases h;have h6:xn.val*by_<=140737488355328:=yb h6.cL;intro π a w next Q R hk hf hd hD hn;obtain⟨y1,y2,hy,ZV,hr2⟩:=ayC (K2 ha R);have hy:=aYP hy;have ZV:y1=.slice none 0 0:=ZV;subst ZV;obtain⟨news,n1,n2,n3,n4,n5⟩:=aOz h5 R hr2;simp only at n1 n2 n3 n4 n5;obtain⟨cs,er⟩:=agO (P:=P) a w ho hc;have hcn:cE (ee o.dst (.r (.c (.sl aI (.k 0) xn z true)))++[Up.new aI xk])=1:=by unfold ee cE;cases o.dst<;>rfl
  have h0:=hf aI (eT _) (by omega);by_cases hm:xn.val=0
  .obtain⟨y,c',rfl⟩:∃y c',y2=.slice y 0 c':=by
    rcases n5 with⟨_,y,c',rfl⟩| ⟨ad,c',rfl,_⟩
    .exact⟨y,c',rfl⟩
    .exact⟨some ad,c',by rw[hm]⟩
   have oH:=agP (P:=P) (ty:=o.type) hu h1 (base:=none) (y:=y) (n:=0) (cap:=0) (c:=c') (eT _) w;have hx0:=A7 h0 (0,0,af.size xk,0)
   have R1:=(R.LX hx0 (λb hb=>by simp only[AJ];rw[if_neg (by omega)])).new (k:=xk) (qC π aI (0,0,af.size xk,0)) hk (by rw[n2,hm];omega) (λi _ i2=>by omega) (λj hj=>by rw[n2,hm] at hj;omega)
    (λ_ _ _ _ _ _ _ _ _ i2=>by omega) (λ_ _ _ i2=>by omega)
   have R2:=R1.dst hd (v:=.r (.c (.sl aI (.k 0) xn z true))) (x:=.slice none 0 0) ⟨_,_,_,_,qC _ _ _,by simp only[cD.val,n2];omega,λ_=>by simp only[cD.val,n2];omega,.inl ⟨hm,none,rfl⟩⟩;refine QH (x:=.slice none 0 0) (w':=w) ?_ (hn _ _ (AJ π aI (0,0,af.size xk,0)) hx0 (WM ⟨eT _,by omega⟩) ?_)
   .rw[er,hy,hts];simp[builtin,oH]
   .rw[LZ _ _ _ _ (by simp)];exact R2
  .obtain⟨ad,c',rfl,hn5⟩:∃ad c',y2=.slice (some ad) xn.val c'/\∀j v,news[j]? =some v->w.cell? (ad.add j)=some v:=by
    rcases n5 with⟨h,_⟩|h
    .exact absurd h hm
    .exact h
   obtain⟨gc,arr,oH,hgc,yN,rest,agQ⟩:=IU (P:=P) (ty:=o.type) hu h1 h2 h3 hzv h4.2.1 (sv:=.slice none 0 0) (n:=0) (cap:=0) (m:=xn.val) (c:=c') (ad:=ad) (G9:=[]) (news:=news) w (.inl ⟨rfl,rfl,rfl⟩) (by simp) n1 hn5 (by omega) (by omega) (by simpa using h6);simp only[hI] at oH hgc
   have R1:=(R.drew).row (k:=xk) (n:=xn) (q:=z) (cap:=gc) (arr:=arr) (t:=e) hd h0 hk hgc (by omega) n2 (λj hj=>by
    rw[n2] at hj;obtain⟨v,hv,hr⟩:=n3 j hj;exact⟨v,by simpa using(Wt agQ).2 hv,hr⟩)
   refine QH (x:=.slice (some ⟨w.heap.size,0,none⟩) xn.val gc) (w':=w.drew.alloc (.cells arr e)) ?_ (hn _ _ (AJ π aI (w.heap.size,0,af.size xk,gc*z)) (A7 h0 _) (WM ⟨eT _,by omega⟩) ?_)
   .rw[er,hy,hts];simp[builtin,oH]
   .rw[LZ _ _ _ _ (by simp)];exact R1
 |sl b q n z' own=>
  cases own with
  |false=>cases h
  |true=>
  simp only[] at h;obtain⟨_,⟨_,h6⟩,_,h⟩:=aH.bind' h;obtain⟨_,⟨_,h7⟩,_,h⟩:=aH.bind' h;cases h with|sz r hz h=>
  cases h with|vw r' sb uN hsb hvb h=>
  obtain⟨nb,⟨_,h9⟩,_,h⟩:=aH.bind' h;obtain⟨_,⟨_,h10⟩,_,h⟩:=aH.bind' h;cases h;have h6:z=z':=oK h6.cL;subst h6;have h7:(n.val+xn.val)*by_<=140737488355328:=yb h7.cL;rw[hz] at uN;cases uN;have avC:(n.add xn).val=n.val+xn.val:=by cases n<;>cases xn<;>rfl
  intro π a w next Q R hk hf hd hD hn;obtain⟨y1,y2,hy,ZV,hr2⟩:=ayC (K2 ha R);have hy:=aYP hy;obtain⟨news,n1,n2,n3,n4,n5⟩:=aOz h5 R hr2;simp only at n1 n2 n3 n4 n5;obtain⟨cs,er⟩:=agO (P:=P) a w ho hc;have aar:=af.aUA h9.ey;have hcn:cE (ee o.dst (.r (.c (.sl aI (.k 0) (n.add xn) z true)))++[Up.kill b,Up.new aI nb])=1:=by unfold ee cE;cases o.dst<;>rfl
  have h0:=hf aI (eT _) (by omega);have hDb:b<X.k->D b:=hD (.kill b) (by simp);obtain⟨B,s,e',hb,hle,k1,k2⟩:=R.hp.hp b _ hz;have oM:aI≠b:=λe=>by rw[e,hb] at h0;cases h0
  have hmul:(n.val+xn.val)*z=n.val*z+xn.val*z:=qV _ _ _;have atH:af.size nb=(n.val+xn.val)*z:=by rw[aar.1,hsb,n2,hmul]
  have within:∀(w':World) (y:Value) (cap:Nat),Rel X D π g a w'->(n.val+xn.val)<=cap->s+q.val+cap*z<=e'->y=.slice (some ⟨B,s+q.val,none⟩) (n.val+xn.val) cap->
    (∀i,s+q.val<=i->i<e'->(cl w' B i).isSome=true/\fz w' B i=false)->(∀j,j<(n.val+xn.val)*z->∃v,cl w' B (s+q.val+j)=some v/\(af.get nb j).rel π v)->
    (execOp a.eval o).run P w=.ok (.value y) w'->o.wp P a w next Q:=by
   intro w' y cap R' sw hce hyy hc1 hc2 oH;have hcz:(n.val+xn.val)*z<=cap*z:=wL _ sw;have hx0:=A7 h0 (B,s+q.val,af.size nb,e')
   have R1:=((R'.kill b).LX hx0 (λb hb=>by simp only[AJ];rw[if_neg (by omega)])).new (k:=nb) (qC π aI (B,s+q.val,af.size nb,e')) hk (by rw[atH];omega) hc1
    (λj hj=>by
     rw[atH] at hj;obtain⟨v,hv,hr⟩:=hc2 j hj;exact⟨v,hv,CV.dR hx0 _ _ hr⟩)
    (λb' s1 q1 e1 a4c hz1 hb1 i i1 i2 i3 i4=>by
     simp only[AJ,a4c,gG] at hb1;have hbb:b'≠b:=λe=>hz1 (by simp[Up.hX,e])
     have hz2:g.z b'≠none:=by simpa[Up.hX,hbb] using hz1
     exact R'.hp.dj b' b B s1 q1 e1 s _ e' hbb hz2 (by simp[hz]) hb1 hb i i3 i4 (by omega) i2)
    (λhB i i1 i2=>by
     rcases pQ b X.k with hbk|hbk
     .exact⟨b,s,_,e',hbk,hDb hbk,(R'.yd b hbk).symm.trans hb,by omega,i2⟩
     .exact R'.ft b B s _ e' hbk (by simp[hz]) hb hB i (by omega) i2)
    (λh=>R'.hp.lb b B s _ e' (by simp[hz]) hb (by omega))
   have R2:=R1.dst hd (v:=.r (.c (.sl aI (.k 0) (n.add xn) z true))) (x:=y) ⟨_,_,_,_,qC _ _ _,by rw[avC,atH];simp only[cD.val];omega,λ_=>by rw[avC,atH];simp only[cD.val];omega,.inr ⟨cap,by rw[avC];exact sw,by rw[avC];exact hyy,λ_=>hce⟩⟩;refine QH oH (hn _ _ (AJ π aI (B,s+q.val,af.size nb,e')) hx0 (WM ⟨eT _,by omega⟩) ?_);rw[LZ _ _ _ _ (by simp)];exact R2
  have atI:∀(sv:Value) (cap:Nat) (xs:List Value) (ad:Addr) (c':Nat),y1=sv->y2=.slice (some ad) xn.val c'->(∀j v,news[j]? =some v->w.cell? (ad.add j)=some v)->xs.length=n.val*z->(∀j,j<n.val*z->∃v,xs[j]? =some v/\(af.get sb j).rel π v)->
    ((sv=.slice none 0 0/\n.val=0/\cap=0)∨∃b,sv=.slice (some b) n.val cap/\∀j v,xs[j]? =some v->w.cell? (b.add j)=some v)->0<xn.val->cap<n.val+xn.val->o.wp P a w next Q:=by
   intro sv cap xs ad c' hsv hy2 hn5 hxl hold hss hm sw;subst hy2;obtain⟨gc,arr,oH,hgc,yN,rest,agQ⟩:=IU (P:=P) (ty:=o.type) hu h1 h2 h3 hzv h4.2.1 (c:=c') (ad:=ad) (G9:=xs) (news:=news) w hss hxl n1 hn5 sw hm h7
   have R1:=((R.drew).kill b).row (k:=nb) (n:=n.add xn) (q:=z) (cap:=gc) (arr:=arr) (t:=e) hd h0 hk (by rw[avC];exact hgc) (by omega) (by rw[atH,avC]) (λj hj=>by
    rw[atH] at hj;rw[aar.2 j (by omega),hsb];by_cases hjn:j<n.val*z
    .obtain⟨v,hv,hr⟩:=hold j hjn;rw[if_pos hjn];exact⟨v,(Wt agQ).1 hv,hr⟩
    .rw[if_neg hjn];obtain⟨v,hv,hr⟩:=n3 (j-n.val*z) (by omega);have:=(Wt agQ).2 hv;rw[hxl,show n.val*z+(j-n.val*z)=j by omega] at this;exact⟨v,this,hr⟩)
   refine QH (x:=.slice (some ⟨w.heap.size,0,none⟩) (n.val+xn.val) gc) (w':=w.drew.alloc (.cells arr e)) ?_ (hn _ _ (AJ π aI (w.heap.size,0,af.size nb,gc*z)) (A7 h0 _) (WM ⟨eT _,by omega⟩) ?_)
   .rw[er,hy,hts,hsv];simp[builtin,oH]
   .rw[LZ _ _ _ _ (by simp),<-avC];exact R1
  have a1J:xn.val=0->∃y c',y2=.slice y 0 c':=λhm=>by
   rcases n5 with⟨_,y,c',rfl⟩| ⟨ad,c',rfl,_⟩
   .exact⟨y,c',rfl⟩
   .exact⟨some ad,c',by rw[hm]⟩
  have a1K:xn.val≠0->∃ad c',y2=.slice (some ad) xn.val c'/\∀j v,news[j]? =some v->w.cell? (ad.add j)=some v:=λhm=>by
   rcases n5 with⟨h,_⟩|h
   .exact absurd h hm
   .exact h
  obtain⟨B2,s2,q2,e2,Fj,hmq,a2D,⟨hn0,y0,rfl⟩| ⟨cap,sw,rfl,aSl⟩⟩:=ZV
  .by_cases hm:xn.val=0
   .obtain⟨y,c',rfl⟩:=a1J hm;have oH:=agP (P:=P) (ty:=o.type) hu h1 (base:=y0) (y:=y) (n:=0) (cap:=0) (c:=c') (eT _) w;have hs0:af.size nb=0:=by rw[atH,hm,hn0];omega
    have hx0:=A7 h0 (0,0,af.size nb,0)
    have R1:=((R.kill b).LX hx0 (λb hb=>by simp only[AJ];rw[if_neg (by omega)])).new (k:=nb) (qC π aI (0,0,af.size nb,0)) hk (by omega) (λi _ i2=>by omega) (λj hj=>by omega)
     (λ_ _ _ _ _ _ _ _ _ i2=>by omega) (λ_ _ _ i2=>by omega)
    have R2:=R1.dst hd (v:=.r (.c (.sl aI (.k 0) (n.add xn) z true))) (x:=.slice y0 0 0) ⟨_,_,_,_,qC _ _ _,by rw[avC,hs0,hm,hn0];simp[cD.val],λ_=>by rw[avC,hs0,hm,hn0];simp[cD.val],.inl ⟨by omega,y0,rfl⟩⟩;refine QH (x:=.slice y0 0 0) (w':=w) ?_ (hn _ _ (AJ π aI (0,0,af.size nb,0)) hx0 (WM ⟨eT _,by omega⟩) ?_)
    .rw[er,hy,hts];simp[builtin,oH]
    .rw[LZ _ _ _ _ (by simp)];exact R2
   .obtain⟨ad,c',hy2,hn5⟩:=a1K hm;cases y0 with
    |none=>exact atI _ 0 [] ad c' rfl hy2 hn5 (by simp[hn0]) (λj hj=>by simp only[hn0,Tg] at hj;omega) (.inl ⟨rfl,hn0,rfl⟩) (by omega) (by omega)
    |some ad0=>exact atI _ 0 [] ad c' rfl hy2 hn5 (by simp[hn0]) (λj hj=>by simp only[hn0,Tg] at hj;omega) (.inr ⟨ad0,by rw[hn0],λj v hj=>by simp at hj⟩) (by omega) (by omega)
  .rw[hb] at Fj;cases Fj;have a6o:=a2D rfl;have aOu:=aSl rfl;obtain⟨_,xs,hxl,hxs,hxc⟩:=R.view hz hsb hvb hb hmq
   have hold:∀j,j<n.val*z->∃v,xs[j]? =some v/\(af.get sb j).rel π v/\cl w B (s+q.val+j)=some v:=λj hj=>by
    obtain⟨v,hv,hr⟩:=(jF hxs).2 j (by rw[hsb];exact hj);exact⟨v,hv,hr,hxc j v hv⟩
   by_cases hm:xn.val=0
   .obtain⟨y,c',rfl⟩:=a1J hm;have oH:=agP (P:=P) (ty:=o.type) hu h1 (base:=some ⟨B,s+q.val,none⟩) (y:=y) (n:=n.val) (cap:=cap) (c:=c') sw w;refine within w _ cap R (by omega) aOu (by rw[hm,kC]) (λi i1 i2=>k1 i (by omega) i2) (λj hj=> ?_) (by rw[er,hy,hts];simp[builtin,oH]);have hj':j<n.val*z:=by rw[hm] at hj;simpa using hj
    obtain⟨v,_,hr,hc⟩:=hold j hj';exact⟨v,hc,by rw[aar.2 j (by omega),if_pos (by omega)];exact hr⟩
   .obtain⟨ad,c',hy2,hn5⟩:=a1K hm;by_cases Tk:n.val+xn.val<=cap
    .subst hy2;have hcz:(n.val+xn.val)*z<=cap*z:=wL _ Tk;have hin:∀j,j<news.length->(cl w B (s+q.val+n.val*z+j)).isSome=true/\fz w B (s+q.val+n.val*z+j)=false:=λj hj=>k1 _ (by omega) (by omega)
     have oH:=L3 (P:=P) (ty:=o.type) hu h1 (B:=B) (q:=s+q.val) (n:=n.val) (cap:=cap) (m:=xn.val) (c:=c') (ad:=ad) Tk n1 w hn5 n4 hin;have R':=R.aYQ (lo:=q.val+n.val*z) (xs:=news) hz hb (by omega) (by omega) hDb;rw[show s+(q.val+n.val*z)=s+q.val+n.val*z by omega] at R';refine within _ _ cap R' Tk aOu rfl (λi i1 i2=>⟨isSome_setCells (λj hj=>(hin j hj).1) (k1 i (by omega) i2).1,by rw[pX];exact(k1 i (by omega) i2).2⟩) (λj hj=> ?_) (by rw[er,hy,hts];simp[builtin,oH]);rw[aar.2 j (by omega),hsb];by_cases hjn:j<n.val*z
     .obtain⟨v,hv,hr,hc⟩:=hold j hjn;rw[if_pos hjn];exact⟨v,by rw[eU (λ_=>by omega)];exact hc,hr⟩
     .rw[if_neg hjn];obtain⟨v,hv,hr⟩:=n3 (j-n.val*z) (by omega);have oo:=(me.1 hv);have:=oq (w:=w) (B:=B) (o:=s+q.val+n.val*z) (vs:=news) (λj hj=>(hin j hj).1) oo.1;rw[show s+q.val+n.val*z+(j-n.val*z)=s+q.val+j by omega,oo.2] at this;exact⟨v,this,hr⟩
    .exact atI _ cap xs ad c' rfl hy2 hn5 hxl (λj hj=>let⟨v,hv,hr,_⟩:=hold j hj;⟨v,hv,hr⟩) (.inr ⟨_,rfl,λj v hj=>by rw[nL];exact hxc j v hj⟩) (by omega) (by omega)
 |_=>cases h
omit [ax] in
theorem aH.aJe {v:Nat}:∀{k j:Nat} {l:List Fp},aH (aJe v k) g j l->j=Nat.min v k
 |0,j,l,h=>by cases h;simp
 |k+1,j,l,h=>by
  cases h with|test h=>
  cases hx:wd (k+1) v with
  |true=>
   rw[hx] at h;cases h;have:=yb hx;show k+1=min v (k+1);omega
  |false=>
   rw[hx] at h;have h0:¬k+1<=v:=λh=>by rw[aEH h] at hx;cases hx
   have e:=aH.aJe h;rw[e];show min v k=min v (k+1);omega
omit [ax] in
theorem aH.aN9 {n n':Sz}{m:Bool×Sz}{l:List Fp}(h:aH (aN9 n n') g m l):m.2.val=Nat.min n'.val n.val:=by
 have least:∀n n':Sz,(Sz.least n' n).val=Nat.min n'.val n.val:=λn n'=>by cases n<;>cases n'<;>rfl
 unfold Ab.aN9 at h;split at h
 .split at h
  .obtain⟨j,⟨_,h1⟩,_,h2⟩:=aH.bind' h;cases h2;exact aH.aJe h1
  .cases h;rfl
 .cases h;exact least _ _
theorem aSn {c:Call}{t:TypeId}{da xa:AV}{args:List AV}{fp l0:List Fp}(ho:o.op=.call c)(hc:c.callee=.builtin .copy)(ha:aH (Ab.uw Ab.Ei c.args.toList) g args l0)(lV:args=[da,xa])
  (hts:c.argTypes[0]? =some t){d x:CV}(hs:da=.r (.c d))(hx:xa=.r (.c x))(h:aH (copyV P t d x o.dst) g us fp):AE P o X D aI us g:=by
 subst hs hx lV;unfold copyV at h;split at h
 case h_2=>cases h
 rename_i e hu
 obtain⟨z,⟨_,h1⟩,_,h⟩:=aH.bind' h;have h1:=h1.ey;split at h
 case h_2=>cases h
 rename_i b q n z1 w1 b' q' n' z2 w2 _
 obtain⟨_,⟨_,h2⟩,_,h'⟩:=aH.bind' h;clear h
 obtain⟨_,⟨_,h3⟩,_,h⟩:=aH.bind' h';clear h'
 have h2:=h2.cL;simp only[cq,beq_iff] at h2;obtain⟨e1,e2⟩:=h2;obtain⟨⟨fl,m⟩,⟨_,h6⟩,_,h'⟩:=aH.bind' h;clear h
 have hmv:m.val=Nat.min n'.val n.val:=h6.aN9;clear h6
 cases h' with|vw r' v0 uN hs0 hv0 h=>
 cases h with|sz r hz h=>
 cases h
 have hsv:af.size (cond fl (uv v0) v0)=af.size v0/\∀j,j<af.size v0->af.get (cond fl (uv v0) v0) j=af.get v0 j:=by
  cases fl
  .exact⟨rfl,λ_ _=>rfl⟩
  .exact yO v0
 have hs:af.size (cond fl (uv v0) v0)=m.val*z:=hsv.1.trans hs0;have hv:q'.val+m.val*z<=r'->∀j,j<m.val*z->af.get (cond fl (uv v0) v0) j=g.c b' (q'.val+j):=λhb j hj=>(hsv.2 j (by rw[hs0];exact hj)).trans (hv0 hb j hj)
 generalize cond fl (uv v0) v0=v at hs hv ⊢
 clear hsv hs0 hv0
 subst e1 e2;intro π a w next Q R hk hf hd hD hn;obtain⟨y1,y2,hy,ZV,hr2⟩:=ayC (K2 ha R);have hy:=aYP hy;obtain⟨cs,er⟩:=agO (P:=P) a w ho hc
 have key:∀(w':World) (g':Gt),(execOp a.eval o).run P w=.ok (.value (.int .i64 ((m.val:Nat):Int))) w'->Rel X D π g' a w'->
   cH [Up.c b q v] g=g'->o.wp P a w next Q:=by
  intro w' g' oH R' hg;refine QH oH (hn _ _ π (Ext.refl _) (λb h=>.inl h) ?_);rw[LZ _ _ _ _ (by simp),hg];exact R'.dst hd rfl
 by_cases hm:m.val=0
 .have hv0:af.size v=0:=by rw[hs,hm,Tg]
  have hg:cH [Up.c b q v] g=g:=by
   show(Up.c b q v).hX g=g;simp only[Up.hX]
   have:(λb' j=>if b'=b/\q.val<=j/\j<q.val+af.size v then af.get v (j-q.val) else g.c b' j)=g.c:=by
    funext b' j;rw[if_neg (by omega)]
   rw[this]
  have hvv:∀{b q n z own} {y:Value},CV.rel π (.sl b q n z own) y->∃ad cap,y=.slice ad n.val cap:=λhr=>by
   obtain⟨_,_,_,_,_,_,_,⟨h,y,rfl⟩| ⟨cap,_,rfl,_⟩⟩:=hr
   .exact⟨_,_,by rw[h]⟩
   .exact⟨_,_,rfl⟩
  obtain⟨ad1,c1,rfl⟩:=hvv ZV;obtain⟨ad2,c2,rfl⟩:=hvv hr2
  have hf0:(Builtin.firstCells z 0 (.slice ad2 n'.val c2)).run P w=.ok #[] w:=by
   cases ad2<;>simp[Builtin.firstCells,loadCells,loadCellsFrom]
  refine key w g ?_ R hg;rw[er,hy];rw[hmv] at hm
  have hc0:(Builtin.copy_ c.argTypes o.type #[.slice ad1 n.val c1,.slice ad2 n'.val c2]).run P w=.ok (goInt 0) w:=by
   cases ad1<;>simp[Builtin.copy_,hts,run_underlying hu,run_sizeOf h1,Builtin.lenOf,hm,hf0,storeCells]
  simp[builtin,hc0,hm,hmv,goInt]
 .have oM:n.val≠0/\n'.val≠0:=by
   rw[hmv] at hm;constructor<;>(intro e;apply hm;rw[e];simp[Nat.min_def])
  obtain⟨B,s,r1,e1,hb,hm1,_,⟨h,_⟩| ⟨c1,hc1,rfl,_⟩⟩:=ZV
  .exact absurd h oM.1
  obtain⟨B',s',r2,e1',fC,hm2,_,⟨h,_⟩| ⟨c2,hc2,rfl,_⟩⟩:=hr2
  .exact absurd h oM.2
  have l1:m.val*z<=n.val*z:=wL _ (by rw[hmv];exact Nat.min_le_right _ _);have l2:m.val*z<=n'.val*z:=wL _ (by rw[hmv];exact Nat.min_le_left _ _);obtain⟨_,xs,hxl,hxs,hxc⟩:=R.view uN hs hv fC (by omega);rw[hmv] at hxl;have hfc:=run_firstCells_some (P:=P) w z (Nat.min n'.val n.val) ⟨B',s'+q'.val,none⟩ n'.val c2 xs hxl (λj v hj=>by rw[nL];exact hxc j v hj);obtain⟨B0,s0,e0,RJ,hle,k1,k2⟩:=R.hp.hp b _ hz;rw[hb] at RJ;cases RJ;rw[hmv] at l1 hs
  have hst:=run_storeCells_cells (P:=P) B (s+q.val) xs 0 w (λj hj=>(k1 _ (by omega) (by omega)).1) (λj hj=>(k1 _ (by omega) (by omega)).2) (λv hv=>by
   obtain⟨i,hi⟩:=ayj.1 hv;obtain⟨c,_,hr⟩:=hxs.get' hi;exact CV.RI hr)
  have R':=R.set (o:=q) hz hb (by omega) hxs (hD (.c b q v) (by simp));refine key _ _ ?_ R' rfl;rw[er,hy];simp[builtin,Builtin.copy_,hts,run_underlying hu,run_sizeOf h1,Builtin.lenOf,hfc,hst,goInt,hmv]
end
end Go.Ab
namespace Go.Ab
variable [ax]
def hC (l:List (Option af))(b j:Nat):CV:=match(l[b]?).getD none with
 |some k=>if j<k.size then k.get j else .f .u
 |none=>.f .u
def hZ (l:List (Option af))(b:Nat):Option Nat:=((l[b]?).getD none).map af.size
def after:List af->List Ch->List (Option af)
 | [],_=>[]
 |b::bs,.m7::cs=>some b::after bs cs
 |_::bs,.set b::cs=>some b::after bs cs
 |_::bs,.kill::cs=>none::after bs cs
 |_::bs,[]=>none::after bs []
omit [ax] in
theorem nR:∀(h:List af) (cs:List Ch),(after h cs).length=h.length
 | [],_=>rfl
 |_::bs,.m7::cs=>by simp[after,nR bs cs]
 |_::bs,.set b::cs=>by simp[after,nR bs cs]
 |_::bs,.kill::cs=>by simp[after,nR bs cs]
 |_::bs,[]=>by simp[after,nR bs []]
def pS.heap (r:pS)(h:List af):List (Option af):=after h r.yM++r.news.map some
def Tl (cs:List Ch)(b:Nat):Prop:=cs[b]? ≠some .m7
def ub (π:Pi)(w0:World)(h:List af)(res:pS):Ending->World->Prop:=λe w'=>∃π' v,e=.returned v/\Ext π π'/\res.val.rel π' v/\tf π' (hC (res.heap h)) (hZ (res.heap h)) w'/\cj w0 (Df π h.length (Tl res.yM)) w'/\
   (∀b,π' b≠none->b<h.length+res.news.length)/\
   (∀b B s q e,h.length<=b->π' b=some (B,s,q,e)->B<w0.heap.size->∀i,s<=i->i<e->Df π h.length (Tl res.yM) B i)
def Sound (P:Program)(f:FuncId)(F:Ff):Prop:=
 ∀args h res,(F args h).eval=some res->∀(w:World) (π:Pi) (vs:Array Value),bn (AV.rel π) args vs.toList->tf π (hC (h.map some)) (hZ (h.map some)) w->(∀b,π b≠none->b<h.length)->
  ((callFunc f vs).run P w=.ok (.enter f vs) w/\Calls P f vs w (ub π w h res))∨∃v,(callFunc f vs).run P w=.ok (.value v) w/\ub π w h res (.returned v) w
omit [ax] in
theorem T.aYR {t:T}{g:Gt}{r:pS}{l:List Fp}(h:aH t.rd g r l):t.eval=some r:=by
 induction t generalizing l with
 |leaf r=>cases h;rfl
 |fail=>cases h
 |test x a b iha ihb=>
  cases h with|test h=>
  cases x
  .exact ihb h
  .exact iha h
 |opt x k ih=>
  cases h with|opt hx h=>
  subst hx;exact ih _ h
def piL (π:Pi)(vs:List Vw):Pi:=λj=>match vs[j]? with
 |some v=>match π v.b with
  |some (B,s,_,e)=>some (B,s+v.o.val,v.n,if v.own then e else s+v.o.val+v.n)
  |none=>none
 |none=>none
def OR (vs kz:List Vw):Prop:=∃t,kz=vs++t
omit [ax] in
theorem OR.refl (vs:List Vw):OR vs vs:=⟨[],by simp⟩
omit [ax] in
theorem OR.trans {a b c:List Vw}(h:OR a b)(k:OR b c):OR a c:=by
 obtain⟨t,rfl⟩:=h;obtain⟨u,rfl⟩:=k;exact⟨t++u,by simp⟩
omit [ax] in
theorem OR.get {vs kz:List Vw}(h:OR vs kz){j:Nat}{v:Vw}(hj:vs[j]? =some v):kz[j]? =some v:=by
 obtain⟨t,rfl⟩:=h;rw[UT (me.1 hj).1,hj]
omit [ax] in
theorem OR.length {vs kz:List Vw}(h:OR vs kz):vs.length<=kz.length:=by
 obtain⟨t,rfl⟩:=h;simp
omit [ax] in
theorem OR.ext {π:Pi}{vs kz:List Vw}(h:OR vs kz):Ext (piL π vs) (piL π kz):=by
 intro j p hp;unfold piL at hp ⊢;cases hj:vs[j]? with
 |none=>rw[hj] at hp;cases hp
 |some v=>rw[h.get hj];rw[hj] at hp;exact hp
def K3 (π:Pi)(vs:List Vw):Prop:=
 (∀(i j:Nat) (v v':Vw),i≠j->vs[i]? =some v->vs[j]? =some v'->v.b=v'.b->(v.o.val+v.n<=v'.o.val∨v'.o.val+v'.n<=v.o.val)/\(v.own=false∨v'.own=false))/\
 ∀(i:Nat) (v:Vw),vs[i]? =some v->∃B s q e,π v.b=some (B,s,q,e)/\v.o.val+v.n<=q/\(v.own=true->v.o.val+v.n=q)
omit [ax] in
theorem K3.nil (π:Pi):K3 π []:=⟨λi j v v' _ h=>by simp at h,λi v h=>by simp at h⟩
omit [ax] in
theorem ext_eq {o:cD}{cE:Sz}{z c n:Nat}(h:ext o cE z=some (c,n)):o.val=c/\cE.val*z=n:=by
 unfold ext at h;split at h
 .simp only[j9,rE] at h;exact h
 .cases h
omit [ax] in
theorem aLn {b:Nat}{o:cD}{cE:Sz}{z:Nat}{vs:List Vw}(h:avl b (ext o cE z) vs=true):∀v∈vs,v.b=b->(o.val+cE.val*z<=v.o.val∨v.o.val+v.n<=o.val):=λv hv hb=>by
 have:=ayn.1 h v hv;rw[hb,OG] at this;simp only[LO,Bool.false_or] at this;split at this
 .rename_i o1 n1 o2 n2 h1 h2
  obtain⟨e1,e2⟩:=ext_eq h1;obtain⟨e3,e4⟩:=ext_eq h2;simp only[alJ,fH] at this;rw[e1,e2,e3,Vw.n,e4];exact this
 .cases this
omit [ax] in
theorem K3.snoc {π:Pi}{vs:List Vw}(h:K3 π vs)(v:Vw)(ha:avl v.b (ext v.o v.cE v.z) vs=true)(hb:∃B s q e,π v.b=some (B,s,q,e)/\v.o.val+v.n<=q/\(v.own=true->v.o.val+v.n=q))(qJ:v.own=true->∀v'∈vs,v'.b=v.b->v'.own=false):K3 π (vs++[v]):=by
 have hap:=aLn ha
 have aDY:∀(i:Nat) (w:Vw),(vs++[v])[i]? =some w->(i<vs.length/\vs[i]? =some w)∨(i=vs.length/\w=v):=λi w hw=>by
  rcases pQ i vs.length with hi|hi
  .rw[UT hi] at hw;exact .inl ⟨hi,hw⟩
  .rw[aen hi] at hw
   have:i-vs.length=0:=by
    have:=(me.1 hw).1;simp at this;omega
   rw[this] at hw;exact .inr ⟨by omega,by simpa using hw.symm⟩
 refine⟨λi j x y hij hx hy hxy=> ?_,λi x hx=> ?_⟩
 .rcases aDY i x hx with⟨hi,hx'⟩| ⟨hi,rfl⟩
  .rcases aDY j y hy with⟨hj,hy'⟩| ⟨hj,rfl⟩
   .exact h.1 i j x y hij hx' hy' hxy
   .have hm:=List.mem_of_getElem? hx';refine⟨(hap x hm hxy).symm,?_⟩;cases hvo:y.own with
    |false=>exact .inr rfl
    |true=>exact .inl (qJ hvo x hm hxy)
  .rcases aDY j y hy with⟨hj,hy'⟩| ⟨hj,rfl⟩
   .have hm:=List.mem_of_getElem? hy';refine⟨hap y hm hxy.symm,?_⟩;cases hvo:x.own with
    |false=>exact .inl rfl
    |true=>exact .inr (qJ hvo y hm hxy.symm)
   .omega
 .rcases aDY i x hx with⟨hi,hx'⟩| ⟨hi,rfl⟩
  .exact h.2 i x hx'
  .exact hb
omit [ax] in
theorem aas {b:Nat}{e:Option (Nat×Nat)}:∀{vs:List Vw} {i0 i d:Nat} {ow:Bool},acj b e vs i0=some (i,d,ow)->∃k v o n o' n',i=i0+k/\vs[k]? =some v/\v.b=b/\e=some (o,n)/\ext v.o v.cE v.z=some (o',n')/\o'<=o/\o+n<=o'+n'/\d=o-o'/\ow=v.own
 | [],_,_,_,_,h=>by simp[acj] at h
 |v::vs,i0,i,d,ow,h=>by
  have next:acj b e vs (i0+1)=some (i,d,ow)->∃k u o n o' n',i=i0+k/\(v::vs)[k]? =some u/\u.b=b/\e=some (o,n)/\ext u.o u.cE u.z=some (o',n')/\o'<=o/\o+n<=o'+n'/\d=o-o'/\ow=u.own:=λh=>by
   obtain⟨k,v',o,n,o',n',h1,h2,h3⟩:=aas h;exact⟨k+1,v',o,n,o',n',by omega,by simpa using h2,h3⟩
  simp only[acj] at h;split at h
  .exact next h
  .rename_i hb
   rw[beq_iff] at hb;split at h
   .rename_i o n o' n' h1
    split at h
    .rename_i hc
     cases h;simp only[cq,fH] at hc;exact⟨0,v,o,n,o',n',rfl,rfl,hb,rfl,h1,hc.1,hc.2,rfl,rfl⟩
    .exact next h
   .exact next h
omit [ax] in
theorem yP {π:Pi}{vs:List Vw}{j:Nat}{v:Vw}(h:vs[j]? =some v){B s q e:Nat}(hb:π v.b=some (B,s,q,e)):piL π vs j=some (B,s+v.o.val,v.n,if v.own then e else s+v.o.val+v.n):=by
 unfold piL;rw[h];simp only[hb]
omit [ax] in
theorem ayD (vs:List Vw)(v:Vw):(vs++[v])[vs.length]? =some v:=by simp
abbrev Loc {α:Type}(R:Pi->α->Value->Prop)(π:Pi)(vs:List Vw)(a':α)(kz:List Vw)(x:Value):Prop:=OR vs kz/\(K3 π vs->K3 π kz/\R (piL π kz) a' x)
theorem aFn {g:Gt}{π:Pi}{c c':CV}{x:Value}{vs kz:List Vw}{l:List Fp}(h:aH (aTS c vs) g (c',kz) l)(hx:c.rel π x):Loc CV.rel π vs c' kz x:=by
 cases c<;>simp only[aTS] at h
 case ptr b o n=>
  obtain⟨B,s,q,e,hp,hx,hm⟩:=hx;split at h
  .rename_i i d ow hf
   cases h;obtain⟨k,v,o1,n1,o2,n2,hk,hv,hb,h1,h2,h3,h4,h5,h6⟩:=aas hf;obtain⟨e1,e2⟩:=ext_eq h1;obtain⟨e3,e4⟩:=ext_eq h2;refine⟨OR.refl _,λok=>⟨ok,?_⟩⟩;rw[<-hb] at hp;rw[show i=k by omega];simp only[Sz.val,Vt] at e2;refine⟨_,_,_,_,yP hv hp,?_,?_⟩
   .rw[hx,e1,e3];simp only[cD.val];congr 3;omega
   .show d+n<=v.n;unfold Vw.n;omega
  .obtain⟨_,⟨_,h1⟩,_,h⟩:=aH.bind' h;cases h;refine⟨⟨_,rfl⟩,λok=>⟨ok.snoc ⟨b,o,.l 1,n,false,false⟩ h1.cL ⟨B,s,q,e,hp,by simp only[Vw.n,Sz.val,Vt];exact hm,λh=>by cases h⟩ (λh=>by cases h),?_⟩⟩;exact⟨_,_,_,_,yP (ayD vs ⟨b,o,.l 1,n,false,false⟩) hp,by rw[hx];rfl,by simp[cD.val,Vw.n,Sz.val]⟩
 case cl f b o n=>
  obtain⟨B,s,q,e,hp,hx,hm⟩:=hx;split at h
  .rename_i i d ow hf
   cases h;obtain⟨k,v,o1,n1,o2,n2,hk,hv,hb,h1,h2,h3,h4,h5,h6⟩:=aas hf;obtain⟨e1,e2⟩:=ext_eq h1;obtain⟨e3,e4⟩:=ext_eq h2;refine⟨OR.refl _,λok=>⟨ok,?_⟩⟩;rw[<-hb] at hp;rw[show i=k by omega];simp only[Sz.val,Vt] at e2;refine⟨_,_,_,_,yP hv hp,?_,?_⟩
   .rw[hx];exact cO (λt=>Value.func (.func f) #[] #[.pointer (some ⟨B,t,none⟩)]) (by rw[e1,e3];simp only[cD.val];omega)
   .show d+n<=v.n;unfold Vw.n;omega
  .obtain⟨_,⟨_,h1⟩,_,h⟩:=aH.bind' h;cases h;refine⟨⟨_,rfl⟩,λok=>⟨ok.snoc ⟨b,o,.l 1,n,false,false⟩ h1.cL ⟨B,s,q,e,hp,by simp only[Vw.n,Sz.val,Vt];exact hm,λh=>by cases h⟩ (λh=>by cases h),?_⟩⟩;exact⟨_,_,_,_,yP (ayD vs ⟨b,o,.l 1,n,false,false⟩) hp,by rw[hx];rfl,by simp[cD.val,Vw.n,Sz.val]⟩
 case sl b o len z own=>
  obtain⟨B,s,q,e,hp,hm,qJ,hx⟩:=hx;split at h
  .rename_i i d ow hf
   cases h;obtain⟨k,v,o1,n1,o2,n2,hk,hv,hb,h1,h2,h3,h4,h5,h6⟩:=aas hf;obtain⟨e1,e2⟩:=ext_eq h1;obtain⟨e3,e4⟩:=ext_eq h2;refine⟨OR.refl _,λok=>⟨ok,?_⟩⟩;rw[<-hb] at hp;rw[show i=k by omega];obtain⟨_,_,_,_,uW,hv1,hv2⟩:=ok.2 k v hv;rw[hp] at uW;cases uW;have hvn:v.n=n2:=e4;refine⟨_,_,_,_,yP hv hp,?_,λho=> ?_,?_⟩
   .show d+len.val*z<=v.n;omega
   .simp only[cq] at ho;rw[h6] at ho;have a1:=qJ ho.1;have a2:=hv2 ho.2;show d+len.val*z=v.n;omega
   .refine hx.imp id λ⟨cap,sw,hx,hc⟩=>⟨cap,sw,?_,λho=> ?_⟩
    .show x=Value.slice (some ⟨B,s+v.o.val+d,none⟩) len.val cap;rw[hx,show s+o.val=s+v.o.val+d by omega]
    .simp only[cq] at ho;have a1:=hc ho.1;rw[h6] at ho;rw[if_pos ho.2];show s+v.o.val+d+cap*z<=e;omega
  .obtain⟨_,⟨_,h1⟩,_,h⟩:=aH.bind' h;cases h;generalize hu:(own&&vs.all λv=> !Nat.beq v.b b|| !v.own)=u
   have hu1:u=true->own=true/\∀v'∈vs,v'.b=b->v'.own=false:=λh=>by
    rw[<-hu] at h;simp only[cq] at h;refine⟨h.1,λv' hv' fC=> ?_⟩;have:=ayn.1 h.2 v' hv';rw[fC,OG] at this;simpa using this
   refine⟨⟨_,rfl⟩,λok=>⟨ok.snoc ⟨b,o,len,z,true,u⟩ h1.cL ⟨B,s,q,e,hp,hm,λho=>qJ (hu1 ho).1⟩ (λho=>(hu1 ho).2),?_⟩⟩;refine⟨_,_,_,_,yP (ayD vs ⟨b,o,len,z,true,u⟩) hp,by simp[cD.val,Vw.n,Sz.val],λ_=>by simp[cD.val,Vw.n,Sz.val],?_⟩;refine hx.imp id λ⟨cap,sw,hx,hc⟩=>⟨cap,sw,by rw[hx];rfl,λho=> ?_⟩
   rw[if_pos ho];have:=hc (hu1 ho).1;show s+o.val+0+cap*z<=e;omega
 all_goals (cases h;exact⟨OR.refl _,λok=>⟨ok,hx⟩⟩)
omit [ax] in
theorem atJ {α:Type}{R:Pi->α->Value->Prop}(mono:∀{π π':Pi},Ext π π'->∀a x,R π a x->R π' a x){f:α->List Vw->Rd (α×List Vw)}{ff:List α->List Vw->Rd (List α×List Vw)}(hff:∀vs,ff [] vs=.ret ([],vs))(a1L:∀a l vs,ff (a::l) vs=(f a vs).bind λx=>(ff l x.2).bind λy=>.ret (x.1::y.1,y.2))
  {g:Gt}{π:Pi}(hf:∀{a a' vs kz l x},aH (f a vs) g (a',kz) l->R π a x->Loc R π vs a' kz x):∀{as as':List α} {vs kz:List Vw} {l:List Fp} {xs:List Value},aH (ff as vs) g (as',kz) l->bn (R π) as xs->OR vs kz/\(K3 π vs->K3 π kz/\bn (R (piL π kz)) as' xs)
 | [],as',vs,kz,l,xs,h,hx=>by
  rw[hff] at h;cases h;exact⟨OR.refl _,λok=>⟨ok,by cases xs with|nil=>trivial|cons=>exact hx.elim⟩⟩
 |a::as,as',vs,kz,l,[],h,hx=>hx.elim
 |a::as,as',vs,kz,l,x::xs,h,⟨hx,hxs⟩=>by
  rw[a1L] at h;obtain⟨p,⟨_,h1⟩,_,h⟩:=aH.bind' h;obtain⟨y,⟨_,h2⟩,_,h⟩:=aH.bind' h;cases h;obtain⟨L1,L2⟩:=hf (a':=p.1) (kz:=p.2) h1 hx;obtain⟨p1,p2⟩:=atJ mono hff a1L hf (as:=as) (as':=y.1) (kz:=y.2) h2 hxs;refine⟨L1.trans p1,λok=> ?_⟩;obtain⟨ok1,r1⟩:=L2 ok;obtain⟨ok2,r2⟩:=p2 ok1;exact⟨ok2,mono p1.ext _ _ r1,r2⟩
theorem agR {g:Gt}{π:Pi}:∀{b b':af} {vs kz:List Vw} {l:List Fp} {f:Nat->Value},aH (aN7 b vs) g (b',kz) l->(∀j,j<af.size b->(af.get b j).rel π (f j))->
  OR vs kz/\(K3 π vs->K3 π kz)/\af.size b'=af.size b/\(K3 π vs->∀j,j<af.size b->(af.get b' j).rel (piL π kz) (f j))
 | [],b',vs,kz,l,f,h,_=>by
  cases h;exact⟨OR.refl _,id,rfl,λ_ j hj=>by rw[af.lX] at hj;omega⟩
 |.c v::r,b',vs,kz,l,f,h,hx=>by
  obtain⟨p,⟨_,h1⟩,_,h⟩:=aH.bind' h;obtain⟨y,⟨_,h2⟩,_,h⟩:=aH.bind' h;cases h;obtain⟨L1,L2⟩:=aFn (c':=p.1) (kz:=p.2) h1 (hx 0 (by rw[af.size_cons,Sg.kI];omega))
  obtain⟨p1,p2,p3,p4⟩:=agR (b:=r) (b':=y.1) (kz:=y.2) (f:=λj=>f (j+1)) h2 (λj hj=>by
   have:=hx (j+1) (by rw[af.size_cons,Sg.kI];omega);rwa [<-af.kK (l:=r) (j':=j) (by omega) (by omega)] at this)
  refine⟨L1.trans p1,λok=>p2 (L2 ok).1,by rw[af.size_cons,af.size_cons,p3];rfl,λok j hj=> ?_⟩;obtain⟨ok1,r1⟩:=L2 ok;cases j with
  |zero=>exact CV.dR p1.ext _ _ r1
  |succ j=>
   rw[<-af.kK (l:=y.1) (j':=j) (by omega) (by omega)];exact p4 ok1 j (by rw[af.size_cons,Sg.kI] at hj;omega)
 |.a n cols::r,b',vs,kz,l,f,h,hx=>by
  obtain⟨y,⟨_,h2⟩,_,h⟩:=aH.bind' h;cases h
  obtain⟨p1,p2,p3,p4⟩:=agR (b:=r) (b':=y.1) (kz:=y.2) (f:=λj=>f (j+(Sg.a n cols).size)) h2 (λj hj=>by
   have:=hx (j+(Sg.a n cols).size) (by rw[af.size_cons];omega);rwa [af.lH (by omega),Nat.add_sub_cancel] at this)
  refine⟨p1,p2,by rw[af.size_cons,af.size_cons,p3],λok j hj=> ?_⟩;rw[af.size_cons] at hj;by_cases mg:j<(Sg.a n cols).size
  .have:=hx j (by rw[af.size_cons];omega);rw[af.dY mg,Sg.pR] at this;rw[af.dY mg,Sg.pR];obtain⟨v,hv⟩:=aDX cols j;rw[hv] at this ⊢;exact this
  .rw[af.lH (by omega)];have:=p4 ok (j-(Sg.a n cols).size) (by omega);rwa [Nat.sub_add_cancel (by omega)] at this
theorem aFo {g:Gt}{π:Pi}{r r':RV}{x:Value}{vs kz:List Vw}{l:List Fp}(h:aH (aTT r vs) g (r',kz) l)(hx:r.rel π x):Loc RV.rel π vs r' kz x:=by
 cases r with
 |c c=>
  obtain⟨p,⟨_,h1⟩,_,h⟩:=aH.bind' h;cases h;exact aFn (c':=p.1) (kz:=p.2) h1 hx
 |agg cs=>
  obtain⟨p,⟨_,h1⟩,_,h⟩:=aH.bind' h;cases h;obtain⟨arr,rfl,hr⟩:=hx;obtain⟨l1,l2⟩:=jF hr
  obtain⟨p1,p2,p3,p4⟩:=agR (b':=p.1) (kz:=p.2) (f:=λj=>arr.toList.getD j undef) h1 (λj hj=>by
   obtain⟨x,hx,hr⟩:=l2 j hj;simp only[List.getD,hx,LM];exact hr)
  refine⟨p1,λok=>⟨p2 ok,arr,rfl,yC (by rw[l1,p3]) λj hj=> ?_⟩⟩;obtain⟨x,hx,_⟩:=l2 j (by omega);have:=p4 ok j (by omega);simp only[List.getD,hx,LM] at this;exact⟨x,hx,this⟩
theorem aAv {g:Gt}{π:Pi}{cs Th:List RV}{xs:List Value}{vs kz:List Vw}{l:List Fp}(h:aH (aER cs vs) g (Th,kz) l)(hx:bn (RV.rel π) cs xs):OR vs kz/\(K3 π vs->K3 π kz/\bn (RV.rel (piL π kz)) Th xs):=
 atJ (R:=RV.rel) (λh a x r=>RV.dR h a x r) (f:=aTT) (ff:=aER) (λ_=>rfl) (λ_ _ _=>rfl) (λh hx=>aFo h hx) h hx
theorem aSo {g:Gt}{π:Pi}{r r':AV}{x:Value}{vs kz:List Vw}{l:List Fp}(h:aH (aYx r vs) g (r',kz) l)(hx:r.rel π x):Loc AV.rel π vs r' kz x:=by
 cases r with
 |r c=>
  obtain⟨p,⟨_,h1⟩,_,h⟩:=aH.bind' h;cases h;exact aFo (r':=p.1) (kz:=p.2) h1 hx
 |tup cs=>
  obtain⟨p,⟨_,h1⟩,_,h⟩:=aH.bind' h;cases h;obtain⟨arr,rfl,hr⟩:=hx;obtain⟨p1,p2⟩:=aAv (Th:=p.1) (kz:=p.2) h1 hr;exact⟨p1,λok=>⟨(p2 ok).1,arr,rfl,(p2 ok).2⟩⟩
 |fn f cs=>
  obtain⟨p,⟨_,h1⟩,_,h⟩:=aH.bind' h;cases h;obtain⟨arr,rfl,hr⟩:=hx;obtain⟨p1,p2⟩:=aAv (Th:=p.1) (kz:=p.2) h1 hr;exact⟨p1,λok=>⟨(p2 ok).1,arr,rfl,(p2 ok).2⟩⟩
 |WC=>cases h;exact⟨OR.refl _,λok=>⟨ok,trivial⟩⟩
theorem aOC {g:Gt}{π:Pi}{cs Th:List AV}{xs:List Value}{vs kz:List Vw}{l:List Fp}(h:aH (aLd cs vs) g (Th,kz) l)(hx:bn (AV.rel π) cs xs):OR vs kz/\(K3 π vs->K3 π kz/\bn (AV.rel (piL π kz)) Th xs):=
 atJ (R:=AV.rel) (λh a x r=>AV.dR h a x r) (f:=aYx) (ff:=aLd) (λ_=>rfl) (λ_ _ _=>rfl) (λh hx=>aSo h hx) h hx
structure aFp (π:Pi)(g:Gt)(w:World)(vs:List Vw)(v:Vw)(k:af):Prop where
 live:∃q,g.z v.b=some q
 size:af.size k=v.n
 rel:∀B s q e,π v.b=some (B,s,q,e)->∀j,j<v.n->∃x,cl w B (s+v.o.val+j)=some x/\(af.get k j).rel (piL π vs) x
theorem aFp.pre {π:Pi}{g:Gt}{w:World}{vs kz:List Vw}{v:Vw}{k:af}(h:aFp π g w vs v k)(p:OR vs kz):aFp π g w kz v k:=
 ⟨h.live,h.size,λB s q e hb j hj=>let⟨x,hx,hr⟩:=h.rel B s q e hb j hj;⟨x,hx,CV.dR p.ext _ _ hr⟩⟩
omit [ax] in
theorem aFq {α:Type}{l:List α}{x y:α}{j:Nat}(h:(l++[x])[j]? =some y):l[j]? =some y∨(j=l.length/\y=x):=by
 rcases pQ j l.length with hj|hj
 .rw[UT hj] at h;exact .inl h
 .rw[aen hj] at h
  have:j-l.length=0:=by
   have:=(me.1 h).1;simp at this;omega
  rw[this] at h;exact .inr ⟨by omega,by simpa using h.symm⟩
theorem aFr {π:Pi}{g:Gt}{w:World}(H:tf π g.c g.z w):∀{fuel i:Nat} {vs kz:List Vw} {acc lh:List af} {l:List Fp},aH (aTU fuel i vs acc) g (lh,kz) l->acc.length=i->i<=vs.length->K3 π vs->(∀(j:Nat) v k,vs[j]? =some v->acc[j]? =some k->aFp π g w vs v k)->
  OR vs kz/\K3 π kz/\lh.length=kz.length/\∀(j:Nat) v k,kz[j]? =some v->lh[j]? =some k->aFp π g w kz v k
 |0,_,_,_,_,_,_,h,_,_,_,_=>by cases h
 |fuel+1,i,vs,kz,acc,lh,l,h,hi,hi2,ok,aOD=>by
  simp only[aTU] at h;split at h
  .rename_i hn
   cases h;have:vs.length<=i:=List.getElem?_eq_none_iff.1 hn;exact⟨OR.refl _,ok,by omega,aOD⟩
  .rename_i v hv
   have oo:i<vs.length:=(me.1 hv).1;cases h with|vw q k hz hs hk h=>
   obtain⟨x,⟨_,h1⟩,_,h⟩:=aH.bind' h;obtain⟨B,s,e,hb,hle,_,hc⟩:=H.hp _ _ hz;obtain⟨_,_,_,_,fC,hvb,_⟩:=ok.2 i v hv;rw[hb] at fC;cases fC;have hvn:v.cE.val*v.z=v.n:=rfl;rw[hvn] at hs hk;have hk:=hk hvb;generalize hkk:aR9 v.sl v.z k=k2 at h1
   have hk2:af.size k2=af.size k/\∀j,j<af.size k->af.get k2 j=af.get k j:=by
    rw[<-hkk];unfold aR9;cases v.sl
    .exact⟨rfl,λ_ _=>rfl⟩
    .obtain⟨t1,t2⟩:=aan v.z k;obtain⟨t3,t4⟩:=ayw (atx v.z k);exact⟨t3.trans t1,λj hj=>(t4 j).trans (t2 j hj)⟩
   have cell:∀j,j<v.n->∃y,cl w B (s+v.o.val+j)=some y/\(af.get k2 j).rel π y:=λj hj=>by
    obtain⟨y,hy,hr⟩:=hc (v.o.val+j) (by omega);rw[<-hk j hj,<-hk2.2 j (by omega)] at hr;exact⟨y,by rw[show s+v.o.val+j=s+(v.o.val+j) by omega];exact hy,hr⟩
   obtain⟨p1,p2,p3,p4⟩:=agR (b':=x.1) (kz:=x.2) (f:=λj=>(cl w B (s+v.o.val+j)).getD undef) h1 (λj hj=>by
    obtain⟨y,hy,hr⟩:=cell j (by omega);rw[hy];exact hr)
   have hx2:=p1.length
   obtain⟨q1,q2,q3,q4⟩:=aFr H h (by simp[hi]) (by omega) (p2 ok) (λj u k' hu LA=>by
    rcases aFq LA with LA| ⟨hj,rfl⟩
    .have hj:j<acc.length:=(me.1 LA).1
     have hu':vs[j]? =some u:=by
      have:vs[j]? =some (vs[j]'(by omega)):=kT _;rw[this];have:=p1.get this;rw[hu] at this;exact this.symm
     exact(aOD j u k' hu' LA).pre p1
    .have huv:u=v:=by
      rw[hj,hi] at hu;have:=p1.get hv;rw[hu] at this;exact OE this
     subst huv;refine⟨⟨q,hz⟩,by rw[p3,hk2.1,hs],λB' s' q' e' fC j hj'=> ?_⟩;rw[hb] at fC;cases fC;obtain⟨y,hy,_⟩:=cell j hj';have:=p4 ok j (by omega);rw[hy] at this;exact⟨y,hy,this⟩)
   exact⟨p1.trans q1,q2,q3,q4⟩
end Go.Ab
namespace Go.Ab
variable [ax]
omit [ax] in
theorem QJ (lh:List af)(j:Nat):hZ (lh.map some) j=(lh[j]?).map af.size:=by
 simp only[hZ,Cb];cases lh[j]? <;>rfl
omit [ax] in
theorem aDZ {lh:List af}{j i:Nat}{k:af}(h:lh[j]? =some k)(hi:i<k.size):hC (lh.map some) j i=k.get i:=by
 simp[hC,Cb,h,hi]
theorem tf.local {π:Pi}{g:Gt}{w:World}(H:tf π g.c g.z w){vs:List Vw}{lh:List af}(ok:K3 π vs)(hl:lh.length=vs.length)(hv:∀(j:Nat) v k,vs[j]? =some v->lh[j]? =some k->aFp π g w vs v k):
  tf (piL π vs) (hC (lh.map some)) (hZ (lh.map some)) w:=by
 have get:∀j n,hZ (lh.map some) j=some n->∃v k q B s e,vs[j]? =some v/\lh[j]? =some k/\af.size k=n/\aFp π g w vs v k/\g.z v.b=some q/\v.o.val+v.n<=q/\af.size k=v.n/\π v.b=some (B,s,q,e)/\s+q<=e/\(v.own=true->v.o.val+v.n=q):=λj n hz=>by
  rw[QJ] at hz;cases hk:lh[j]? with
  |none=>rw[hk] at hz;cases hz
  |some k=>
   rw[hk] at hz;have hj:j<vs.length:=by rw[<-hl];exact(me.1 hk).1
   have hvj:vs[j]? =some (vs[j]'hj):=kT _;have V:=hv j _ k hvj hk;obtain⟨q,hq⟩:=V.live;obtain⟨B,s,e,hb,BN,_⟩:=H.hp _ _ hq;obtain⟨_,_,_,_,fC,hle,how⟩:=ok.2 j _ hvj;rw[hb] at fC;cases fC;exact⟨_,k,q,B,s,e,hvj,rfl,by simpa using hz,V,hq,hle,V.size,hb,BN,how⟩
 refine⟨H.am,λj B s q e hz hp BN=> ?_,λj n hz=> ?_,λj j' B s q e s' q' e' oM hz uN hp uW i i1 i2 i3 i4=> ?_⟩
 .cases hh:hZ (lh.map some) j with
  |none=>exact absurd hh hz
  |some n=>
   obtain⟨v,k,q0,B1,s1,e1,hvj,hk,hn,V,hq,hle,yN,hb,a6p,ho⟩:=get j n hh;rw[yP hvj hb] at hp;simp only[j9,rE] at hp;obtain⟨rfl,hs1,_,he1⟩:=hp;rw[<-hs1,<-he1] at BN;refine H.lb v.b _ s1 q0 e1 (by simp[hq]) hb ?_;split at BN<;>omega
 .obtain⟨v,k,q,B,s,e,hvj,hk,hn,V,hq,hle,yN,hb,BN,ho⟩:=get j n hz;obtain⟨_,_,_,fC,_,k1,k2⟩:=H.hp _ _ hq;rw[hb] at fC;cases fC;have hp:=yP hvj hb;rw[<-yN,hn] at hp;refine⟨B,s+v.o.val,_,hp,?_,λi i1 i2=> ?_,λi hi=> ?_⟩
  .split
   .rename_i h;have:=ho h;omega
   .omega
  .refine k1 i (by omega) ?_;split at i2<;>omega
  .obtain⟨y,hy,hr⟩:=V.rel B s q e hb i (by omega);refine⟨y,hy,?_⟩;rw[aDZ hk (by omega)];exact hr
 .cases hh:hZ (lh.map some) j with
  |none=>exact hz hh
  |some n=>
  cases hh':hZ (lh.map some) j' with
  |none=>exact uN hh'
  |some n'=>
  obtain⟨v,k,q0,B1,s1,e1,hvj,hk,hn,V,hq,hle,yN,hb,BN,ho⟩:=get j n hh;obtain⟨v',k',q0',B2,s2,e2,a1M,LA,hn',V',hq',a6q,a6r,fC,a6s,ho'⟩:=get j' n' hh';rw[yP hvj hb] at hp;rw[yP a1M fC] at uW;simp only[j9,rE] at hp uW;obtain⟨rfl,hs1,_,he1⟩:=hp;obtain⟨rfl,WJ,_,he2⟩:=uW;rw[<-hs1] at i1;rw[<-he1] at i2;rw[<-WJ] at i3;rw[<-he2] at i4;by_cases hbb:v.b=v'.b
  .obtain⟨aYS,qJ⟩:=ok.1 j j' v v' oM hvj a1M hbb;rw[hbb] at hb hq;rw[hb] at fC;cases fC;cases h1:v.own<;>cases h2:v'.own<;>simp only[h1,h2,lZ,gG,yc] at i2 i4
   .omega
   .have:=ho' h2;omega
   .have:=ho h1;omega
   .rcases qJ with h|h
    .rw[h1] at h;cases h
    .rw[h2] at h;cases h
  .refine H.dj v.b v'.b _ s1 q0 e1 s2 q0' e2 hbb (by simp[hq]) (by simp[hq']) hb fC i (by omega) ?_ (by omega) ?_
   .split at i2<;>omega
   .split at i4<;>omega
def piB (π πL:Pi)(n aI m:Nat):Pi:=λb=>if aI<=b/\b<aI+m then πL (n+(b-aI)) else π b
omit [ax] in
theorem WN {π πL:Pi}{n aI m k:Nat}(h:k<m):piB π πL n aI m (aI+k)=πL (n+k):=by
 unfold piB;rw[if_pos (by omega),show aI+k-aI=k by omega]
omit [ax] in
theorem WO {π πL:Pi}{n aI m b:Nat}(h:¬(aI<=b/\b<aI+m)):piB π πL n aI m b=π b:=by
 unfold piB;rw[if_neg h]
structure Bck (π πL:Pi)(vs:List Vw)(aI m:Nat):Prop where
 ext:Ext (piL π vs) πL
 dom:∀b,πL b≠none->b<vs.length+m
 fresh:∀b,aI<=b->b<aI+m->π b=none
 live:∀(j:Nat) v,vs[j]? =some v->∃B s q e,π v.b=some (B,s,q,e)/\v.o.val+v.n<=q/\(v.own=true->v.o.val+v.n=q)
omit [ax] in
theorem Bck.yd {π πL:Pi}{vs:List Vw}{aI m:Nat}(K:Bck π πL vs aI m){b:Nat}{p:Nat×Nat×Nat×Nat}(h:π b=some p):piB π πL vs.length aI m b=some p:=by
 rw[WO,h];intro hc;rw[K.fresh b hc.1 hc.2] at h;cases h
omit [ax] in
theorem Bck.ext' {π πL:Pi}{vs:List Vw}{aI m:Nat}(K:Bck π πL vs aI m):Ext π (piB π πL vs.length aI m):=λ_ _ h=>K.yd h
omit [ax] in
theorem Bck.at {π πL:Pi}{vs:List Vw}{aI m:Nat}(K:Bck π πL vs aI m){j:Nat}{B s q e:Nat}(h:πL j=some (B,s,q,e)):
  (∃v s0 q0 e0,vs[j]? =some v/\π v.b=some (B,s0,q0,e0)/\s=s0+v.o.val/\q=v.n/\(e=if v.own then e0 else s0+v.o.val+v.n)/\v.o.val+v.n<=q0/\(v.own=true->v.o.val+v.n=q0))∨(vs[j]? =none/\vs.length<=j/\j-vs.length<m/\piB π πL vs.length aI m (aI+(j-vs.length))=some (B,s,q,e)):=by
 have hd:=K.dom j (by simp[h]);cases hv:vs[j]? with
 |some v=>
  obtain⟨B0,s0,q0,e0,hp,hle,how⟩:=K.live j v hv;have:=K.ext _ _ (yP hv hp);rw[h] at this;simp only[j9,rE] at this;obtain⟨rfl,h1,h2,h3⟩:=this;exact .inl ⟨v,s0,q0,e0,rfl,hp,h1,h2,h3,hle,how⟩
 |none=>
  have hj:vs.length<=j:=List.getElem?_eq_none_iff.1 hv;refine .inr ⟨rfl,hj,by omega,?_⟩;rw[WN (by omega),show vs.length+(j-vs.length)=j by omega,h]
omit [ax] in
theorem cD.K4 (a b:cD):(a.plus b).val=a.val+b.val:=by
 cases a<;>cases b<;>simp only[cD.plus,cD.val]<;>first|omega|skip
 rename_i c i z d j y
 cases hz:Nat.beq z y with
 |true=>
  have:=oK hz;subst this;simp only[cD.val,qV];omega
 |false=>simp only[cD.val];omega
theorem Bck.aT6 {π πL:Pi}{vs:List Vw}{aI m:Nat}(K:Bck π πL vs aI m)(c:CV)(x:Value)(h:c.rel πL x):(LP vs aI c).rel (piB π πL vs.length aI m) x:=by
 cases c<;>simp only[LP]
 case ptr j d n=>
  obtain⟨B,s,q,e,hp,hx,hm⟩:=h;rcases K.at hp with⟨v,s0,q0,e0,hv,hb,hs,hq,he,hle,how⟩| ⟨hv,hj,hm2,hb⟩
  .rw[hv];refine⟨B,s0,q0,e0,K.yd hb,?_,by rw[cD.K4];omega⟩;rw[hx,cD.K4];congr 3;omega
  .rw[hv];exact⟨B,s,q,e,hb,hx,hm⟩
 case cl f j d n=>
  obtain⟨B,s,q,e,hp,hx,hm⟩:=h;rcases K.at hp with⟨v,s0,q0,e0,hv,hb,hs,hq,he,hle,how⟩| ⟨hv,hj,hm2,hb⟩
  .rw[hv];refine⟨B,s0,q0,e0,K.yd hb,?_,by rw[cD.K4];omega⟩;rw[hx,cD.K4];exact cO (λt=>Value.func (.func f) #[] #[.pointer (some ⟨B,t,none⟩)]) (by omega)
  .rw[hv];exact⟨B,s,q,e,hb,hx,hm⟩
 case sl j d len z own=>
  obtain⟨B,s,q,e,hp,hm,qJ,hx⟩:=h;rcases K.at hp with⟨v,s0,q0,e0,hv,hb,hs,hq,he,hle,how⟩| ⟨hv,hj,hm2,hb⟩
  .rw[hv];refine⟨B,s0,q0,e0,K.yd hb,by rw[cD.K4];omega,λho=> ?_,hx.imp id λ⟨cap,sw,hx,hc⟩=>⟨cap,sw,?_,λho=> ?_⟩⟩
   .simp only[cq] at ho;have a1:=qJ ho.1;have a2:=how ho.2;rw[cD.K4];omega
   .rw[hx,cD.K4];congr 3;omega
   .simp only[cq] at ho;have:=hc ho.1;rw[if_pos ho.2] at he;rw[cD.K4];omega
  .rw[hv];exact⟨B,s,q,e,hb,hm,qJ,hx⟩
 all_goals exact h
omit [ax] in
theorem aLo (vs:List Vw)(aI:Nat)(x:FV):LP vs aI (.f x)=.f x:=rfl
omit [ax] in
theorem aat {α β γ:Type}{R:α->γ->Prop}{R':β->γ->Prop}{f:α->β}(hf:∀a c,R a c->R' (f a) c):∀{l:List α} {m:List γ},bn R l m->bn R' (l.map f) m
 | [],[],_=>trivial
 |_::_,_::_,⟨a,b⟩=>⟨hf _ _ a,aat hf b⟩
 | [],_::_,h=>h.elim
 |_::_,[],h=>h.elim
theorem Bck.aYT {π πL:Pi}{vs:List Vw}{aI m:Nat}(K:Bck π πL vs aI m)(c:RV)(x:Value)(h:c.rel πL x):(aTV vs aI c).rel (piB π πL vs.length aI m) x:=by
 cases c with
 |c c=>exact K.aT6 c x h
 |agg cs=>
  obtain⟨a,hx,ha⟩:=h;obtain⟨l1,l2⟩:=jF ha;refine⟨a,hx,yC (by rw[JP,l1]) λj hj=> ?_⟩;rw[JP] at hj;obtain⟨x,hx,hr⟩:=l2 j hj;exact⟨x,hx,by rw[ayx (aLo vs aI) _ _ hj];exact K.aT6 _ _ hr⟩
theorem Bck.a4d {π πL:Pi}{vs:List Vw}{aI m:Nat}(K:Bck π πL vs aI m)(c:AV)(x:Value)(h:c.rel πL x):(aN8 vs aI c).rel (piB π πL vs.length aI m) x:=by
 cases c with
 |r r=>exact K.aYT r x h
 |tup cs=>obtain⟨a,hx,ha⟩:=h;exact⟨a,hx,aat K.aYT ha⟩
 |fn f cs=>obtain⟨a,hx,ha⟩:=h;exact⟨a,hx,aat K.aYT ha⟩
 |WC=>trivial
omit [ax] in
theorem aau {all:List Vw}{aI:Nat}:∀{vs:List Vw} {cs:List Ch} {us:List Up},A4 all aI vs cs=some (true,us)->
  (∀(i j:Nat) (v v':Vw),i≠j->vs[i]? =some v->vs[j]? =some v'->v.b=v'.b->(v.o.val+v.n<=v'.o.val∨v'.o.val+v'.n<=v.o.val))->
  vs.length=cs.length/\(∀(j:Nat) v b,vs[j]? =some v->cs[j]? =some (.set b)->af.size b=v.n)/\(∀u∈us,∃(j:Nat) (v:Vw) (b:af),vs[j]? =some v/\cs[j]? =some (.set b)/\u=.c v.b v.o (K1 (LP all aI) b))/\
  (∀g,(cH us g).z=g.z/\(cH us g).t=g.t)/\
  ∀g (j:Nat) v b i,vs[j]? =some v->cs[j]? =some (.set b)->v.o.val<=i->i<v.o.val+v.n->(cH us g).c v.b i=LP all aI (af.get b (i-v.o.val))
 | [],[],us,h,_=>by
  simp[A4] at h;subst h
  exact⟨rfl,λj v b h=>by simp at h,λu h=>by simp at h,λg=>⟨rfl,rfl⟩,λg j v b i h=>by simp at h⟩
 |v0::vs,.m7::cs,us,h,hd=>by
  simp only[A4] at h;obtain⟨h1,h2,h3,h4,h5⟩:=aau h (λi j v v' hij hi hj=>hd (i+1) (j+1) v v' (by omega) (by simpa using hi) (by simpa using hj));refine⟨by simp[h1],λj v b hv hc=> ?_,λu hu=> ?_,h4,λg j v b i hv hc=> ?_⟩
  .cases j with
   |zero=>simp at hc
   |succ j=>exact h2 j v b (by simpa using hv) (by simpa using hc)
  .obtain⟨j,v,b,e1,e2,e3⟩:=h3 u hu;exact⟨j+1,v,b,by simpa using e1,by simpa using e2,e3⟩
  .cases j with
   |zero=>simp at hc
   |succ j=>exact h5 g j v b i (by simpa using hv) (by simpa using hc)
 |v0::vs,.kill::cs,us,h,hd=>by
  simp only[A4] at h;obtain⟨h1,h2,h3,h4,h5⟩:=aau h (λi j v v' hij hi hj=>hd (i+1) (j+1) v v' (by omega) (by simpa using hi) (by simpa using hj));refine⟨by simp[h1],λj v b hv hc=> ?_,λu hu=> ?_,h4,λg j v b i hv hc=> ?_⟩
  .cases j with
   |zero=>simp at hc
   |succ j=>exact h2 j v b (by simpa using hv) (by simpa using hc)
  .obtain⟨j,v,b,e1,e2,e3⟩:=h3 u hu;exact⟨j+1,v,b,by simpa using e1,by simpa using e2,e3⟩
  .cases j with
   |zero=>simp at hc
   |succ j=>exact h5 g j v b i (by simpa using hv) (by simpa using hc)
 |v0::vs,.set b0::cs,us,h,hd=>by
  simp only[A4] at h;split at h
  .rename_i p hu
   simp only[j9,rE,cq,beq_iff] at h;obtain⟨⟨hg,yN⟩,rfl⟩:=h;obtain⟨p1,us'⟩:=p;simp only at hg;subst hg;obtain⟨h1,h2,h3,h4,h5⟩:=aau hu (λi j v v' hij hi hj=>hd (i+1) (j+1) v v' (by omega) (by simpa using hi) (by simpa using hj));have hlen:af.size (K1 (LP all aI) b0)=v0.n:=by rw[JP,yN]
   refine⟨by simp[h1],λj v b hv hc=> ?_,λu hu=> ?_,λg=>⟨(h4 _).1,(h4 _).2⟩,λg j v b i hv hc i1 i2=> ?_⟩
   .cases j with
    |zero=>simp at hv hc;subst hv hc;exact yN
    |succ j=>exact h2 j v b (by simpa using hv) (by simpa using hc)
   .rcases acg.1 hu with rfl|hu
    .exact⟨0,v0,b0,rfl,rfl,rfl⟩
    .obtain⟨j,v,b,e1,e2,e3⟩:=h3 u hu;exact⟨j+1,v,b,by simpa using e1,by simpa using e2,e3⟩
   .show(cH us' ((Up.c v0.b v0.o (K1 (LP all aI) b0)).hX g)).c v.b i=_;cases j with
    |succ j=>exact h5 _ j v b i (by simpa using hv) (by simpa using hc) i1 i2
    |zero=>
     simp at hv hc
     subst hv hc
     have ZW:=rH (us:=us') (g:=(Up.c v0.b v0.o (K1 (LP all aI) b0)).hX g) (p:=.c v0.b i) (λu hu ht=>by
      obtain⟨j,v,b,e1,e2,rfl⟩:=h3 u hu;simp only[Up.Hw,JP,h2 j v b e1 e2] at ht;have:=hd 0 (j+1) v0 v (by omega) rfl (by simpa using e1) ht.1.symm;omega)
     simp only[Gt.at,PV.c.injEq] at ZW;rw[ZW];simp only[Up.hX];rw[if_pos ⟨trivial,i1,by rw[hlen];exact i2⟩,ayx (aLo all aI) _ _ (by omega)]
  .cases h
 | [],_::_,us,h,_=>by simp[A4] at h
 |_::_,[],us,h,_=>by simp[A4] at h
omit [ax] in
theorem agS:∀{vs:List Vw} {cs:List Ch} (g:Gt),vs.length=cs.length->
  (cH (pW vs cs) g).t=g.t/\(∀b,(∃(j:Nat) (v:Vw),vs[j]? =some v/\cs[j]? =some .kill/\v.b=b)->(cH (pW vs cs) g).z b=none)/\
  (∀b,¬(∃(j:Nat) (v:Vw),vs[j]? =some v/\cs[j]? =some .kill/\v.b=b)->(cH (pW vs cs) g).z b=g.z b/\∀i,(cH (pW vs cs) g).c b i=g.c b i)
 | [],[],g,_=>⟨rfl,λb ⟨j,v,h,_⟩=>by simp at h,λb _=>⟨rfl,λ_=>rfl⟩⟩
 |v0::vs,c::cs,g,hl=>by
  have hl':vs.length=cs.length:=by simpa using hl
  by_cases hc:c=.kill
  .subst hc;show(cH (pW vs cs) ((Up.kill v0.b).hX g)).t=_/\_;obtain⟨h0,h1,h2⟩:=agS (vs:=vs) (cs:=cs) ((Up.kill v0.b).hX g) hl';refine⟨h0,λb hb=> ?_,λb hb=> ?_⟩
   .show(cH (pW vs cs) ((Up.kill v0.b).hX g)).z b=none;by_cases hx:∃(j:Nat) (v:Vw),vs[j]? =some v/\cs[j]? =some .kill/\v.b=b
    .exact h1 b hx
    .rw[(h2 b hx).1];obtain⟨j,v,e1,e2,e3⟩:=hb;cases j with
     |zero=>simp at e1;subst e1;simp[Up.hX,e3]
     |succ j=>exact absurd ⟨j,v,by simpa using e1,by simpa using e2,e3⟩ hx
   .have hx:¬∃(j:Nat) (v:Vw),vs[j]? =some v/\cs[j]? =some .kill/\v.b=b:=λ⟨j,v,e1,e2,e3⟩=>hb ⟨j+1,v,by simpa using e1,by simpa using e2,e3⟩
    have oM:b≠v0.b:=λe=>hb ⟨0,v0,rfl,rfl,e.symm⟩
    obtain⟨k1,k2⟩:=h2 b hx;refine⟨k1.trans (by simp[Up.hX,oM]),λi=>(k2 i).trans (by simp[Up.hX,oM])⟩
  .have e:pW (v0::vs) (c::cs)=pW vs cs:=by cases c<;>first|rfl|exact absurd rfl hc
   rw[e];obtain⟨h0,h1,h2⟩:=agS (vs:=vs) (cs:=cs) g hl';refine⟨h0,λb ⟨j,v,e1,e2,e3⟩=> ?_,λb hb=>h2 b λ⟨j,v,e1,e2,e3⟩=>hb ⟨j+1,v,by simpa using e1,by simpa using e2,e3⟩⟩;cases j with
   |zero=>simp at e2;exact absurd e2 hc
   |succ j=>exact h1 b ⟨j,v,by simpa using e1,by simpa using e2,e3⟩
 | [],_::_,_,h=>by simp at h
 |_::_,[],_,h=>by simp at h
omit [ax] in
theorem al2 {vs:List Vw}{aI:Nat}:∀{bs:List af} {j0:Nat} (g:Gt),
  (cH (Hu vs aI bs j0) g).t=g.t/\(∀(k:Nat) (b:af),bs[k]? =some b->(cH (Hu vs aI bs j0) g).z (aI+(j0+k))=some (af.size b)/\∀i,i<af.size b->(cH (Hu vs aI bs j0) g).c (aI+(j0+k)) i=LP vs aI (af.get b i))/\
  (∀b,¬(aI+j0<=b/\b<aI+j0+bs.length)->(cH (Hu vs aI bs j0) g).z b=g.z b/\∀i,(cH (Hu vs aI bs j0) g).c b i=g.c b i)/\cE (Hu vs aI bs j0)=bs.length
 | [],j0,g=>⟨rfl,λk b h=>by simp at h,λb _=>⟨rfl,λ_=>rfl⟩,rfl⟩
 |b0::bs,j0,g=>by
  obtain⟨h0,h1,h2,h3⟩:=al2 (vs:=vs) (aI:=aI) (bs:=bs) (j0:=j0+1) ((Up.new (aI+j0) (K1 (LP vs aI) b0)).hX g);refine⟨h0,λk b hk=> ?_,λb hb=> ?_,?_⟩
  .show(cH (Hu vs aI bs (j0+1)) ((Up.new (aI+j0) (K1 (LP vs aI) b0)).hX g)).z _=_/\∀i,i<af.size b->(cH (Hu vs aI bs (j0+1)) ((Up.new (aI+j0) (K1 (LP vs aI) b0)).hX g)).c _ i=_;cases k with
   |zero=>
    simp at hk;subst hk
    obtain⟨k1,k2⟩:=h2 (aI+(j0+0)) (by omega);refine⟨k1.trans (by simp[Up.hX,JP]),λi hi=>(k2 i).trans ?_⟩;simp only[Up.hX,kC,lZ,JP,hi,lZ];exact ayx (aLo vs aI) _ _ hi
   |succ k=>
    have:=h1 k b (by simpa using hk);rw[show j0+1+k=j0+(k+1) by omega] at this;exact this
  .obtain⟨k1,k2⟩:=h2 b (by simp only[LN] at hb;omega);have oM:b≠aI+j0:=λe=>hb (by simp only[LN];omega)
   exact⟨k1.trans (by simp[Up.hX,oM]),λi=>(k2 i).trans (by simp[Up.hX,oM])⟩
  .show cE (Up.new _ _::Hu vs aI bs (j0+1))=_;simp only[cE,List.filter_cons,lZ,LN];have:=h3;simp only[cE] at this;omega
end Go.Ab
namespace Go.Ab
variable [ax]
omit [ax] in
theorem Fk (a b:List Up):cE (a++b)=cE a+cE b:=by simp[cE]
omit [ax] in
theorem aYU (dst:Option Tmp)(v:AV):cE (ee dst v)=0:=by cases dst<;>rfl
omit [ax] in
theorem aJo {us:List Up}(h:∀u∈us,∀b k,u≠.new b k):cE us=0:=by
 induction us with
 |nil=>rfl
 |cons u us ih=>
  have h1:=ih λv hv=>h v (by simp[hv])
  have h2:=h u (by simp);cases u with
  |new b k=>exact absurd rfl (h2 b k)
  |_=>simpa[cE] using h1
omit [ax] in
theorem aav:∀{vs:List Vw} {cs:List Ch} {u:Up},u∈pW vs cs->∃b,u=.kill b
 | [],[],u,h=>by simp[pW] at h
 |v0::vs,c::cs,u,h=>by
  by_cases hc:c=.kill
  .subst hc;rcases acg.1 h with rfl|h
   .exact⟨_,rfl⟩
   .exact aav h
  .have e:pW (v0::vs) (c::cs)=pW vs cs:=by cases c<;>first|rfl|exact absurd rfl hc
   rw[e] at h;exact aav h
 | [],_::_,u,h=>by simp[pW] at h
 |_::_,[],u,h=>by simp[pW] at h
omit [ax] in
theorem aAw:∀{vs:List Vw} {cs:List Ch} {j:Nat} {v:Vw},vs[j]? =some v->cs[j]? =some .kill->Up.kill v.b∈pW vs cs
 |v0::vs,c::cs,0,v,h1,h2=>by
  simp at h1 h2;subst h1 h2;simp[pW]
 |v0::vs,c::cs,j+1,v,h1,h2=>by
  have:=aAw (vs:=vs) (cs:=cs) (j:=j) (v:=v) (by simpa using h1) (by simpa using h2);cases c<;>simp[pW,this]
 | [],_,j,v,h,_=>by simp at h
 |_::_,[],j,v,_,h=>by simp at h
omit [ax] in
theorem agT {all:List Vw}{aI:Nat}:∀{vs:List Vw} {cs:List Ch} {g:Bool} {us:List Up},A4 all aI vs cs=some (g,us)->∀{j:Nat} {v:Vw} {b:af},vs[j]? =some v->cs[j]? =some (.set b)->Up.c v.b v.o (K1 (LP all aI) b)∈us
 | [],[],g,us,_,j,v,b,h,_=>by simp at h
 |v0::vs,.m7::cs,g,us,h,j,v,b,h1,h2=>by
  cases j with
  |zero=>simp at h2
  |succ j=>exact agT (vs:=vs) (cs:=cs) h (by simpa using h1) (by simpa using h2)
 |v0::vs,.kill::cs,g,us,h,j,v,b,h1,h2=>by
  cases j with
  |zero=>simp at h2
  |succ j=>exact agT (vs:=vs) (cs:=cs) h (by simpa using h1) (by simpa using h2)
 |v0::vs,.set b0::cs,g,us,h,j,v,b,h1,h2=>by
  simp only[A4] at h;split at h
  .rename_i p hu
   simp only[j9,rE] at h;obtain⟨_,rfl⟩:=h;cases j with
   |zero=>simp at h1 h2;subst h1 h2;simp
   |succ j=>exact List.mem_cons_of_mem _ (agT (g:=p.1) (us:=p.2) hu (by simpa using h1) (by simpa using h2))
  .cases h
 | [],_::_,_,_,h,_,_,_,_,_=>by simp[A4] at h
 |_::_,[],_,_,h,_,_,_,_,_=>by simp[A4] at h
omit [ax] in
theorem aFs {vs:List Vw}{aI:Nat}:∀{bs:List af} {j0:Nat} {u:Up},u∈Hu vs aI bs j0->∃b k,u=.new b k
 | [],_,_,h=>by simp[Hu] at h
 |b0::bs,j0,u,h=>by
  rcases acg.1 h with rfl|h
  .exact⟨_,_,rfl⟩
  .exact aFs h
omit [ax] in
theorem cj.isSome {w0 w:World}{S:Nat->Nat->Prop}(h:cj w0 S w){B i:Nat}(hi:(Ab.cl w0 B i).isSome=true):(Ab.cl w B i).isSome=true:=by
 have hB:=acm hi;simp only[Ab.cl,World.cell?] at hi ⊢;cases hh:w0.heap[B]? with
 |none=>rw[hh] at hi;cases hi
 |some x=>
  rw[hh] at hi;cases x with
  |cells c t f=>
   obtain⟨c',e,z,_⟩:=h.row B c t f hh;simp only[e];simp only[Option.isSome_none,yc,gG] at hi ⊢
   have:i<c.size:=by
    rcases pQ i c.size with h'|h'
    .exact h'
    .rw[att h'] at hi;cases hi
   rw[ai8 (by omega)];rfl
  |_=>cases hi
omit [ax] in
theorem agU:∀{h:List af} {cs:List Ch} {j:Nat},(∀b,cs[j]? =some (.set b)->j<h.length->(after h cs)[j]? =some (some b))/\(cs[j]? =some .m7->∀b,h[j]? =some b->(after h cs)[j]? =some (some b))
 | [],cs,j=>⟨λb _ h=>by simp at h,λ_ b h=>by simp at h⟩
 |b0::bs,[],j=>⟨λb h=>by simp at h,λh=>by simp at h⟩
 |b0::bs,c::cs,0=>by cases c<;>simp[after]
 |b0::bs,c::cs,j+1=>by
  have:=agU (h:=bs) (cs:=cs) (j:=j);cases c<;>simpa[after] using this
omit [ax] in
theorem acn {r:pS}{h:List af}{k:Nat}{b:af}(hk:r.news[k]? =some b):(r.heap h)[h.length+k]? =some (some b):=by
 unfold pS.heap;rw[aen (by rw[nR];omega),nR,show h.length+k-h.length=k by omega];simp[hk]
omit [ax] in
theorem DU {r:pS}{h:List af}{j:Nat}(hj:j<h.length):(r.heap h)[j]? =(after h r.yM)[j]? :=by
 unfold pS.heap;rw[UT (by rw[nR];omega)]
omit [ax] in
theorem aaw {l:List (Option af)}{j:Nat}{b:af}(h:l[j]? =some (some b)):hZ l j=some (af.size b):=by simp[hZ,h]
omit [ax] in
theorem agV {l:List (Option af)}{j i:Nat}{b:af}(h:l[j]? =some (some b))(hi:i<af.size b):hC l j i=af.get b i:=by simp[hC,h,hi]
omit [ax] in
theorem Vv {all:List Vw}{aI:Nat}:∀{vs:List Vw} {cs:List Ch} {g:Bool} {us:List Up},A4 all aI vs cs=some (g,us)->∀u∈us,∀b k,u≠.new b k
 | [],[],g,us,h=>by
  simp only[A4,j9,rE] at h;obtain⟨_,rfl⟩:=h;intro u hu;simp at hu
 |v0::vs,.m7::cs,g,us,h=>Vv (vs:=vs) (cs:=cs) h
 |v0::vs,.kill::cs,g,us,h=>Vv (vs:=vs) (cs:=cs) h
 |v0::vs,.set b0::cs,g,us,h=>by
  simp only[A4] at h;split at h
  .rename_i p hu
   simp only[j9,rE] at h;obtain⟨_,rfl⟩:=h;intro u hu' b k e;rcases acg.1 hu' with rfl|hu'
   .cases e
   .exact Vv (g:=p.1) (us:=p.2) hu u hu' b k e
  .cases h
 | [],_::_,_,_,h=>by simp[A4] at h
 |_::_,[],_,_,h=>by simp[A4] at h
section
variable {P:Program} {o:Oper} {X:Cx} {D:Nat->Prop} {aI:Nat} {us:List Up} {g:Gt}
theorem aSp {E:Env}(hE:∀f F,E f=some F->Sound P f F){c:Call}{fo:Operand}{f:Nat}{aeo:List RV}{args:List AV}{fp l0 l1:List Fp}(ho:o.op=.call c)(hc:c.callee=.value fo)(ha:aH (Ab.uw Ab.Ei c.args.toList) g args l0){fv:AV}(hfo:aH (Ab.Ei fo) g fv l1)(aYV:∀(π:Pi) (x:Value),fv.rel π x->∃arr:Array Value,x=.func (.func f) #[] arr/\bn (RV.rel π) aeo arr.toList)
  (h:aH (aYy E f (args++aeo.map .r) o.dst aI) g us fp):AE P o X D aI us g:=by
 obtain⟨x,⟨_,h1⟩,_,h⟩:=aH.bind' h;obtain⟨y,⟨_,h2⟩,_,h⟩:=aH.bind' h;cases hEf:E f with
 |none=>rw[hEf] at h;cases h
 |some F=>
 rw[hEf] at h;obtain⟨r,⟨_,h3⟩,_,h⟩:=aH.bind' h;obtain⟨⟨gd,aT7⟩,⟨_,h4⟩,_,h⟩:=aH.bind' h;obtain⟨_,⟨_,h5⟩,_,h⟩:=aH.bind' h;cases h;have h5:gd=true:=h5.cL;subst h5;have S0:=hE f F hEf;have a2E:=T.aYR h3;have h4:=h4.ey;obtain⟨lh,vs⟩:=y;simp only at h3 h4
 have aT8:cE (ee o.dst (aN8 vs aI r.val)++(aT7++(pW vs r.yM++Hu vs aI r.news 0)))=r.news.length:=by
  rw[Fk,Fk,Fk,aYU,aJo (Vv h4),aJo (λu hu b k e=>by obtain⟨_,rfl⟩:=aav hu;cases e),(al2 (vs:=vs) (aI:=aI) (bs:=r.news) (j0:=0) g).2.2.2];omega
 intro π a w next Q R hk hfr hd hD hn;simp only at hfr hn hD;rw[aT8] at hfr hn;obtain⟨arr,hfv,a2F⟩:=aYV _ _ (hfo.Ei R)
 have lV:bn (AV.rel π) (args++aeo.map .r) (c.args.map a.eval++arr).toList:=by
  rw[Array.toList_append];exact(K2 ha R).append (aat (f:=AV.r) (R':=AV.rel π) (λa c h=>h) a2F)
 obtain⟨a1,a2⟩:=aOC (Th:=x.1) (kz:=x.2) h1 lV;obtain⟨ok0,a4⟩:=a2 (K3.nil π);obtain⟨b1,hok,b3,b4⟩:=aFr R.hp (lh:=lh) (kz:=vs) h2 rfl (Nat.zero_le _) ok0 (λj v k _ hk=>by simp at hk);obtain⟨c1,c2,c3,c4,c5⟩:=aau h4 (λi j v v' hij hi hj hb=>(hok.1 i j v v' hij hi hj hb).1);have a0J:bn (AV.rel (piL π vs)) x.1 (c.args.map a.eval++arr).toList:=a4.imp λv z hr=>AV.dR b1.ext v z hr
 have a4e:=R.hp.local hok b3 b4
 have ky:∀b,piL π vs b≠none->b<lh.length:=λb hb=>by
  rw[b3];unfold piL at hb;cases hv:vs[b]? with
  |none=>rw[hv] at hb;exact absurd rfl hb
  |some v=>exact(me.1 hv).1
 have a0K:=S0 x.1 lh r a2E w (piL π vs) _ a0J a4e ky
 suffices key:∀(v:Value) (w':World),ub (piL π vs) w lh r (.returned v) w'->next (a.put o.dst v) w' by
  rcases a0K with⟨S1,S2⟩| ⟨v,S1,S2⟩
  .have oH:(execOp a.eval o).run P w=.ok (.enter f (c.args.map a.eval++arr)) w:=by
    simp[execOp,ho,resolve,hc,hfv,Deferred.ofValue,invoke,S1]
   unfold Oper.wp;rw[oH];refine Calls.mono S2 ?_;intro e w' hp;have uW:=hp;obtain⟨_,v,rfl,_⟩:=uW;exact key v w' hp
  .have oH:(execOp a.eval o).run P w=.ok (.value v) w:=by
    simp[execOp,ho,resolve,hc,hfv,Deferred.ofValue,invoke,S1]
   unfold Oper.wp;rw[oH];exact key v w S2
 rintro v w' ⟨πL,v',hv',avD,aFt,hHL,hFr,a2G,a1N⟩
 cases hv'
 have live:∀(j:Nat) u,vs[j]? =some u->∃q B s e,g.z u.b=some q/\u.o.val+u.n<=q/\π u.b=some (B,s,q,e)/\s+q<=e/\(u.own=true->u.o.val+u.n=q):=λj u hu=>by
  have hj:j<lh.length:=by rw[b3];exact(me.1 hu).1
  obtain⟨q,hq⟩:=(b4 j u _ hu (kT hj)).live;obtain⟨B,s,e,hb,BN,_⟩:=R.hp.hp _ _ hq;obtain⟨_,_,_,_,fC,hle,how⟩:=hok.2 j u hu;rw[hb] at fC;cases fC;exact⟨q,B,s,e,hq,hle,hb,BN,how⟩
 have K:Bck π πL vs aI r.news.length:=⟨avD,λb hb=>by have:=a2G b hb;omega,hfr,λj u hu=>let⟨q,B,s,e,_,hle,hb,_,how⟩:=live j u hu;⟨B,s,q,e,hb,hle,how⟩⟩
 have aSq:∀B i,Df (piL π vs) lh.length (Tl r.yM) B i->∃(j:Nat) (u:Vw) (q s e:Nat),vs[j]? =some u/\g.z u.b=some q/\π u.b=some (B,s,q,e)/\s+q<=e/\s+u.o.val<=i/\i<(if u.own then e else s+u.o.val+u.n)/\i<e/\(u.own=true->u.o.val+u.n=q)/\u.o.val+u.n<=q/\(r.yM[j]? =some .kill∨∃b,r.yM[j]? =some (.set b)):=by
  rintro B i ⟨j,s1,q1,e1,hj,hD1,hp,i1,i2⟩
  have hu:vs[j]? =some (vs[j]'(by omega)):=kT _;obtain⟨q,B0,s,e,hq,hle,hb,BN,how⟩:=live j _ hu;rw[yP hu hb] at hp;simp only[j9,rE] at hp;obtain⟨rfl,hs1,_,he1⟩:=hp;rw[<-hs1] at i1;rw[<-he1] at i2;refine⟨j,_,q,s,e,hu,hq,hb,BN,i1,i2,?_,how,hle,?_⟩
  .split at i2<;>omega
  .have hcj:r.yM[j]? =some (r.yM[j]'(by omega)):=kT _;rw[hcj];cases Tn:r.yM[j]'(by omega) with
   |m7=>exact absurd (by rw[hcj,Tn]) hD1
   |set b=>exact .inr ⟨b,rfl⟩
   |kill=>exact .inl rfl
 have a2H:∀(j:Nat) (u:Vw),vs[j]? =some u->(r.yM[j]? =some .kill∨∃b,r.yM[j]? =some (.set b))->u.b<X.k->D u.b:=λj u hu Tn=>by
  rcases Tn with Tn| ⟨b,Tn⟩
  .exact hD (.kill u.b) (by simp[aAw hu Tn])
  .exact hD (.c u.b u.o (K1 (LP vs aI) b)) (by simp[agT h4 hu Tn])
 have aT9:∀B i,B<X.w0.heap.size->Df (piL π vs) lh.length (Tl r.yM) B i->Df X.p0 X.k D B i:=λB i hB hft=>by
  obtain⟨j,u,q,s,e,hu,hq,hb,BN,i1,_,i3,_,_,Tn⟩:=aSq B i hft;rcases pQ u.b X.k with hbk|hbk
  .exact⟨u.b,s,q,e,hbk,a2H j u hu Tn hbk,(R.yd u.b hbk).symm.trans hb,by omega,i3⟩
  .exact R.ft u.b B s q e hbk (by simp[hq]) hb hB i (by omega) i3
 generalize hg1:cH aT7 g=g1
 generalize hg2:cH (pW vs r.yM) g1=g2
 generalize hg3:cH (Hu vs aI r.news 0) g2=g3
 have G1:=c4 g;rw[hg1] at G1;have G2:=agS (vs:=vs) (cs:=r.yM) g1 c1;rw[hg2] at G2;obtain⟨N0,N1,N2,_⟩:=al2 (vs:=vs) (aI:=aI) (bs:=r.news) (j0:=0) g2;rw[hg3] at N0 N1 N2
 have yd:∀b n,¬(aI<=b/\b<aI+r.news.length)->g3.z b=some n->g.z b=some n/\(¬∃(j:Nat) (v:Vw),vs[j]? =some v/\r.yM[j]? =some .kill/\v.b=b)/\∀i,g3.c b i=g1.c b i:=λb n hb hz=>by
  obtain⟨n1,n2⟩:=N2 b (by omega);rw[n1] at hz;by_cases hkl:∃(j:Nat) (v:Vw),vs[j]? =some v/\r.yM[j]? =some .kill/\v.b=b
  .rw[G2.2.1 b hkl] at hz;cases hz
  .obtain⟨k1,k2⟩:=G2.2.2 b hkl;rw[k1,G1.1] at hz;exact⟨hz,hkl,λi=>(n2 i).trans (k2 i)⟩
 have new:∀k,k<r.news.length->∃b,r.news[k]? =some b/\g3.z (aI+k)=some (af.size b)/\(∀i,i<af.size b->g3.c (aI+k) i=LP vs aI (af.get b i))/\hZ (r.heap lh) (lh.length+k)=some (af.size b):=λk LA=>by
  have hb:r.news[k]? =some (r.news[k]'LA):=kT _;have:=N1 k _ hb;rw[hI] at this;exact⟨_,hb,this.1,this.2,aaw (acn hb)⟩
 have idx:∀b,aI<=b/\b<aI+r.news.length->∃k,k<r.news.length/\b=aI+k:=λb hb=>⟨b-aI,by omega,by omega⟩
 have H3:tf (piB π πL vs.length aI r.news.length) g3.c g3.z w':=by
  refine⟨hHL.am,λb B s q e hz hp BN=> ?_,λb n hz=> ?_,?_⟩
  .by_cases hb:aI<=b/\b<aI+r.news.length
   .obtain⟨k,LA,rfl⟩:=idx b hb;obtain⟨bS,aao,z1,z2,z3⟩:=new k LA;rw[WN LA,<-b3] at hp;exact hHL.lb _ B s q e (by rw[z3];simp) hp BN
   .cases hh:g3.z b with
    |none=>exact absurd hh hz
    |some n=>
     obtain⟨Ob,hkl,hc3⟩:=yd b n hb hh;obtain⟨B1,s1,e1,Hy,_⟩:=R.hp.hp b n Ob;have e2:=K.yd Hy;rw[hp] at e2;cases e2;exact R.hp.lb b B s q e (by rw[Ob];simp) Hy BN
  .by_cases hb:aI<=b/\b<aI+r.news.length
   .obtain⟨k,LA,rfl⟩:=idx b hb;obtain⟨bS,aao,z1,z2,z3⟩:=new k LA;rw[z1] at hz;cases hz;obtain⟨B,s,e,hp,hle,k1,k2⟩:=hHL.hp _ _ z3;refine⟨B,s,e,by rw[WN LA,<-b3];exact hp,hle,k1,λj hj=> ?_⟩;obtain⟨x,hx,hr⟩:=k2 j hj;rw[agV (acn aao) hj] at hr;exact⟨x,hx,by rw[z2 j hj];exact K.aT6 _ _ hr⟩
   .obtain⟨Ob,hkl,hc3⟩:=yd b n hb hz;obtain⟨B,s,e,hp,hle,k1,k2⟩:=R.hp.hp b n Ob;refine⟨B,s,e,K.yd hp,hle,λi i1 i2=> ?_,λj hj=> ?_⟩
    .have:=k1 i i1 i2;exact⟨hFr.isSome this.1,by rw[hFr.fz (acm this.1)];exact this.2⟩
    .rw[hc3];by_cases aYW:∃(jv:Nat) (u:Vw) (bS:af),vs[jv]? =some u/\r.yM[jv]? =some (.set bS)/\u.b=b/\u.o.val<=j/\j<u.o.val+u.n
     .obtain⟨jv,u,bS,hu,Tn,rfl,j1,j2⟩:=aYW;have e1:=c5 g jv u bS j hu Tn j1 j2;rw[hg1] at e1;rw[e1];have yN:=c2 jv u bS hu Tn;have hjv:jv<lh.length:=by rw[b3];exact(me.1 hu).1
      have alZ:(r.heap lh)[jv]? =some (some bS):=by rw[DU hjv];exact agU.1 bS Tn hjv
      obtain⟨B1,s1,e1',Hy,a4f,_,m2⟩:=hHL.hp jv _ (aaw alZ);have:=avD _ _ (yP hu hp);rw[Hy] at this;simp only[j9,rE] at this;obtain⟨rfl,rfl,_,_⟩:=this;obtain⟨x,hx,hr⟩:=m2 (j-u.o.val) (by omega);rw[agV alZ (by omega)] at hr;exact⟨x,by rw[show s+j=s+u.o.val+(j-u.o.val) by omega];exact hx,K.aT6 _ _ hr⟩
     .obtain⟨x,hx,hr⟩:=k2 j hj
      have ZW:=rH (us:=aT7) (g:=g) (p:=.c b j) (λu hu ht=>by
       obtain⟨jv,v',bS,e1,e2,rfl⟩:=c3 u hu;simp only[Up.Hw,JP,c2 jv v' bS e1 e2] at ht;exact aYW ⟨jv,v',bS,e1,e2,ht.1,ht.2.1,ht.2.2⟩)
      simp only[Gt.at,PV.c.injEq,hg1] at ZW;rw[ZW];refine⟨x,?_,CV.dR K.ext' _ _ hr⟩;rw[hFr.cl (acm (by rw[hx];rfl)),hx];intro hft;obtain⟨jv,u,q,s0,e0,hu,hq,RJ,BN,i1,i2,i3,how,a4g,Tn⟩:=aSq _ _ hft;by_cases hbb:u.b=b
      .subst hbb;rw[hp] at RJ;cases RJ;rw[Ob] at hq;cases hq;rcases Tn with Tn| ⟨bS,Tn⟩
       .exact hkl ⟨jv,u,hu,Tn,rfl⟩
       .refine aYW ⟨jv,u,bS,hu,Tn,rfl,by omega,?_⟩;cases a1O:u.own
        .simp only[a1O,yc,gG] at i2;omega
        .have:=how a1O;omega
      .exact R.hp.dj u.b b B s0 _ e0 s _ e hbb (by simp[hq]) (by simp[Ob]) RJ hp (s+j) (by omega) i3 (by omega) (by omega)
  ·
   have no:∀k b' B s q e s' q' e',k<r.news.length->¬(aI<=b'/\b'<aI+r.news.length)->g3.z b'≠none->πL (vs.length+k)=some (B,s,q,e)->π b'=some (B,s',q',e')->∀i,s<=i->i<e->s'<=i->i<e'->False:=by
    intro k b' B s qq e s' q' e' LA fC uN hp uW i i1 i2 i3 i4;cases hzz:g3.z b' with
    |none=>exact uN hzz
    |some n'=>
    obtain⟨Ob,hkl,_⟩:=yd b' n' fC hzz;obtain⟨_,_,_,hp0,_,k1,_⟩:=R.hp.hp b' n' Ob;rw[uW] at hp0;cases hp0;have hB:=acm (k1 i i3 i4).1;obtain⟨jv,u,q,s0,e0,hu,hq,RJ,BN,m1,m2,m3,how,a4g,Tn⟩:=aSq _ _ (a1N (vs.length+k) B s qq e (by omega) hp hB i i1 i2);by_cases hbb:u.b=b'
    .subst hbb;rcases Tn with Tn| ⟨bS,Tn⟩
     .exact hkl ⟨jv,u,hu,Tn,rfl⟩
     .have hjv:jv<lh.length:=by rw[b3];exact(me.1 hu).1
      have alZ:(r.heap lh)[jv]? =some (some bS):=by rw[DU hjv];exact agU.1 bS Tn hjv
      obtain⟨_,_,_,_,z3⟩:=new k LA;rw[b3] at z3;exact hHL.dj (vs.length+k) jv B s qq e _ _ _ (by omega) (by simp[z3]) (by simp[aaw alZ]) hp (avD _ _ (yP hu RJ)) i i1 i2 m1 m2
    .exact R.hp.dj u.b b' B s0 _ e0 s' _ e' hbb (by simp[hq]) (by simp[Ob]) RJ uW i (by omega) m3 i3 i4
   intro b b' B s qq e s' q' e' oM hz uN hp uW i i1 i2 i3 i4;by_cases hb:aI<=b/\b<aI+r.news.length
   .obtain⟨k,LA,rfl⟩:=idx b hb;rw[WN LA] at hp;by_cases fC:aI<=b'/\b'<aI+r.news.length
    .obtain⟨k',aOE,rfl⟩:=idx b' fC;rw[WN aOE] at uW;obtain⟨_,_,_,_,z3⟩:=new k LA;obtain⟨_,_,_,_,z3'⟩:=new k' aOE;rw[b3] at z3 z3';exact hHL.dj (vs.length+k) (vs.length+k') B s qq e s' q' e' (by omega) (by simp[z3]) (by simp[z3']) hp uW i i1 i2 i3 i4
    .rw[WO fC] at uW;exact no k b' B s qq e s' q' e' LA fC uN hp uW i i1 i2 i3 i4
   .rw[WO hb] at hp;by_cases fC:aI<=b'/\b'<aI+r.news.length
    .obtain⟨k',aOE,rfl⟩:=idx b' fC;rw[WN aOE] at uW;exact no k' b B s' q' e' s qq e aOE hb hz uW hp i i3 i4 i1 i2
    .rw[WO fC] at uW;cases hzz:g3.z b with
     |none=>exact hz hzz
     |some n=>
     cases a1P:g3.z b' with
     |none=>exact uN a1P
     |some n'=>
     exact R.hp.dj b b' B s qq e s' q' e' oM (by simp[(yd b n hb hzz).1]) (by simp[(yd b' n' fC a1P).1]) hp uW i i1 i2 i3 i4
 have R3:Rel X D (piB π πL vs.length aI r.news.length) g3 a w':=by
  refine⟨λi=> ?_,R.nt,R.df,H3,λb hb=> ?_,λb B s qq e hkb hz hp hB i i1 i2=> ?_,R.fr.trans hFr aT9⟩
  .rw[N0,G2.1,G1.2];exact AV.dR K.ext' _ _ (R.tm i)
  .rw[WO (by omega)];exact R.yd b hb
  .by_cases hb:aI<=b/\b<aI+r.news.length
   .obtain⟨k,LA,rfl⟩:=idx b hb;rw[WN LA] at hp;exact aT9 B i hB (a1N (vs.length+k) B s qq e (by omega) hp (aEJ hB R.fr.size) i i1 i2)
   .rw[WO hb] at hp;cases hzz:g3.z b with
    |none=>exact absurd hzz hz
    |some n=>exact R.ft b B s qq e hkb (by simp[(yd b n hb hzz).1]) hp hB i i1 i2
 refine hn _ _ (piB π πL vs.length aI r.news.length) K.ext' (λb hb=> ?_) ?_
 .by_cases fC:aI<=b/\b<aI+r.news.length
  .exact .inr fC
  .rw[WO fC] at hb;exact .inl hb
 .have e3:cH (ee o.dst (aN8 vs aI r.val)++(aT7++(pW vs r.yM++Hu vs aI r.news 0))) g=cH (ee o.dst (aN8 vs aI r.val)) g3:=by
   rw[LZ _ _ _ _ (λu hu i x e=>by
    rcases List.mem_append.1 hu with hu|hu
    .obtain⟨_,_,_,_,_,rfl⟩:=c3 u hu;cases e
    .rcases List.mem_append.1 hu with hu|hu
     .obtain⟨_,rfl⟩:=aav hu;cases e
     .obtain⟨_,_,rfl⟩:=aFs hu;cases e)]
   rw[QI,QI,hg1,hg2,hg3]
  rw[e3];exact R3.dst hd (K.a4d _ _ aFt)
end
end Go.Ab
