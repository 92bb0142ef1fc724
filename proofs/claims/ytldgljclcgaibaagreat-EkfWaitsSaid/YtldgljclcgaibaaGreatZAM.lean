/-
  Parts of the proof: QS TSm Q9 TRn TRu TWt TWq
-/
import Derived.Test.YtldgljclcgaibaaGreatZAE
import Derived.Test.YtldgljclcgaibaaGreatZAJ
import Derived.Test.YtldgljclcgaibaaGreatZAK
import Derived.Test.YtldgljclcgaibaaGreatZAL
set_option linter.unusedVariables false
set_option linter.unusedSimpArgs false
set_option maxRecDepth 100000
set_option maxHeartbeats 4000000
noncomputable section
namespace Go.Proofs.YtldgljclcgaibaaGreat
open Go.Ab Go.Ab.Pg Go.Ab.Rq
def kW:=qa (pr (cu ep aGz) (cd oA λb0=>(c jY (c lr (c (cl (gs b0.c.1 lq) nil) (cd oT λb4=>(cd nh λb5=>(cd ni λb6=>(cd nj λb7=>(cd nk λb8=>(cd nm λb9=>(c kG (cd pX λrI=>(c (cl (gs b0.e jq) nil) (c (cl (gs b4.b.1 aA) nil) (c (cl (gs b5.b.1 aA) nil) (c (cl (gs b6.b.1 aA) nil) (c (cl (gs b7.b.1 aA) nil) (c (cl (gs b8.b.1 aA) nil) (c (cl (gs b9.b.1 aA) nil) (cl (cl (gs rI.b fX) nil) nil)))))))))))))))))))))
def acO:=qe (res (pr ab (pr (cl (zM (a 26 u3 (c gb (c jo (a 2 w8 (cu (gp 20 5) (cu (gp 21 10) (c (gc (il (pu (nat 22) (pu (ox (pu dE (pu dE ID))) (pl jQ (pu ID iy)))))) aSX)))))))) aMy) aMP)))
abbrev nY:=(Bool×(Js×Bool×NI×(NI×NI)×Nat×tM×Bool×Int×nr×Bool×Bool×Bool×Int×Int×Int×HI×Nat)×(nr×Int×Int)×Tk×(NI×NI×NI×NI×NI×NI×NI×NI)×cz×cz×cz×cz×cz×cz×So×xM×aN4×xS×xS×xS×xS×xS×xS×NI×NI×NI×NI×NI×NI×NI×NI×NI×NI×NI)
def Lr:nY->T:=λd=>lf acO (d.1,d.2.1,d.b.1,d.b.2.1,(d.2.1.c.1,d.c.1),d.c.2.1,d.c.b.1,d.c.b.2.1,d.d.1,d.d.2.1,d.d.b.1,d.d.b.2.1,d.d.c.1,(d.2.1.e,d.d.c.2.1),d.d.c.b.1,d.d.c.b.2.1,d.e.1,d.e.2.1,d.e.b.1,d.e.b.2.1,d.d.c.1.b,d.e.c)
abbrev sR:=kW.B->Option nY
def sS (g:sR):Ct:=(22,FC kW Lr g)
def sU (zk:acm)(eT:yV)(azZ:Rm)(lK:Cl)(po:Ih)(x:kW.B):Pg nY:=let n30:=x.1.1;let n28:=x.1.2;let n29:=n28.2.2.2.2;let n23:=x.2.1;let n19:=x.2.2;let n24:=n19.2.1;let bL:=n19.2.2;let n20:=bL.2.1;let n17:=bL.2.2;let n33:=n17.1.2.2.1;let n21:=n17.2.1;let bx:=n17.2.2;let n34:=bx.1.2.2.1;let n22:=bx.2.1;let n18:=bx.2.2;let n35:=n18.1.2.2.1;let n25:=n18.2.1;let n15:=n18.2.2;let n31:=n15.2.2;let n27:=n15.2.1;let n26:=n31.2.2;let n32:=n26.2.2;let n16:=n32.2.2;let bp:=(lK (n20,n31.1));let bh:=(lK (n17.1,n31.2.1));let aY:=(lK (n21,n26.1));let n9:=(lK (bx.1,n26.2.1));let n8:=(lK (n22,n32.1));let n7:=(lK (n18.1,n32.2.1));let n6:=(n20.2.2.1,n31.1);let n5:=(n33,n31.2.1);let n4:=(n21.2.2.1,n26.1);let n3:=(n34,n26.2.1);let n2:=(n22.2.2.1,n32.1);let n1:=(n35,n32.2.1);let y0:=aX n30 6;let y1:=n30==1;let y2:=n30==4;let y3:=n30==3;let y4:=n30==2;let y5:=n30==5;let y6:=Nat.beq n20.2.2.1 n20.2.2.1;let y7:=Nat.beq n33 n33;let y8:=Nat.beq n21.2.2.1 n21.2.2.1;let y9:=Nat.beq n34 n34;let uS:=Nat.beq n22.2.2.1 n22.2.2.1;let uU:=Nat.beq n35 n35;opt (zk n30) λd=>ae (!d) (ret (false,n23,n19.1,n24,bL.1,n20,n17.1,n21,bx.1,n22,n18.1,n25,n15.1,n27,n6,n5,n4,n3,n2,n1,n16)) (opt (eT n28.1 0 1125899906842624) λd=>ae (!d) (ae y0 (ae y5 (ae uU (opt n7 λd=>ret (false,n23,n19.1,n24,bL.1,n20,n17.1,n21,bx.1,n22,d,n25,n15.1,n27,n6,n5,n4,n3,n2,n1,n16)) no) (ae y2 (ae uS (opt n8 λd=>ret (false,n23,n19.1,n24,bL.1,n20,n17.1,n21,bx.1,d,n18.1,n25,n15.1,n27,n6,n5,n4,n3,n2,n1,n16)) no) (ae y3 (ae y9 (opt n9 λd=>ret (false,n23,n19.1,n24,bL.1,n20,n17.1,n21,d,n22,n18.1,n25,n15.1,n27,n6,n5,n4,n3,n2,n1,n16)) no) (ae y4 (ae y8 (opt aY λd=>ret (false,n23,n19.1,n24,bL.1,n20,n17.1,d,bx.1,n22,n18.1,n25,n15.1,n27,n6,n5,n4,n3,n2,n1,n16)) no) (ae y1 (ae y7 (opt bh λd=>ret (false,n23,n19.1,n24,bL.1,n20,d,n21,bx.1,n22,n18.1,n25,n15.1,n27,n6,n5,n4,n3,n2,n1,n16)) no) (ae y6 (opt bp λd=>ret (false,n23,n19.1,n24,bL.1,d,n17.1,n21,bx.1,n22,n18.1,n25,n15.1,n27,n6,n5,n4,n3,n2,n1,n16)) no)))))) no) (opt (azZ n30 n28.1 n28.2.1 n28.2.2.1 n28.2.2.2.1 n29.1 n29.2.1 n29.2.2.1 n29.2.2.2.1 n29.2.2.2.2) λd=>ae (!d) (ae y0 (ae y5 (ae uU (opt n7 λd=>ret (false,n23,n19.1,n24,bL.1,n20,n17.1,n21,bx.1,n22,d,n25,n15.1,n27,n6,n5,n4,n3,n2,n1,n16)) no) (ae y2 (ae uS (opt n8 λd=>ret (false,n23,n19.1,n24,bL.1,n20,n17.1,n21,bx.1,d,n18.1,n25,n15.1,n27,n6,n5,n4,n3,n2,n1,n16)) no) (ae y3 (ae y9 (opt n9 λd=>ret (false,n23,n19.1,n24,bL.1,n20,n17.1,n21,d,n22,n18.1,n25,n15.1,n27,n6,n5,n4,n3,n2,n1,n16)) no) (ae y4 (ae y8 (opt aY λd=>ret (false,n23,n19.1,n24,bL.1,n20,n17.1,d,bx.1,n22,n18.1,n25,n15.1,n27,n6,n5,n4,n3,n2,n1,n16)) no) (ae y1 (ae y7 (opt bh λd=>ret (false,n23,n19.1,n24,bL.1,n20,d,n21,bx.1,n22,n18.1,n25,n15.1,n27,n6,n5,n4,n3,n2,n1,n16)) no) (ae y6 (opt bp λd=>ret (false,n23,n19.1,n24,bL.1,d,n17.1,n21,bx.1,n22,n18.1,n25,n15.1,n27,n6,n5,n4,n3,n2,n1,n16)) no)))))) no) (ae y0 (ae y5 (ae uU (opt (po (n28,n18.1,n32.2.1)) λd=>sm d (λd=>ret (false,n23,n19.1,n24,bL.1,n20,n17.1,n21,bx.1,n22,d,n25,n15.1,n27,n6,n5,n4,n3,n2,n1,n16)) (λd=>ret (d.1,n23,n19.1,n24,bL.1,n20,n17.1,n21,bx.1,n22,d.2.1,n25,n15.1,n27,n6,n5,n4,n3,n2,(d.2.1.2.2.1,d.2.2),n16))) no) (ae y2 (ae uS (opt (po (n28,n22,n32.1)) λd=>sm d (λd=>ret (false,n23,n19.1,n24,bL.1,n20,n17.1,n21,bx.1,d,n18.1,n25,n15.1,n27,n6,n5,n4,n3,n2,n1,n16)) (λd=>ret (d.1,n23,n19.1,n24,bL.1,n20,n17.1,n21,bx.1,d.2.1,n18.1,n25,n15.1,n27,n6,n5,n4,n3,(d.2.1.2.2.1,d.2.2),n1,n16))) no) (ae y3 (ae y9 (opt (po (n28,bx.1,n26.2.1)) λd=>sm d (λd=>ret (false,n23,n19.1,n24,bL.1,n20,n17.1,n21,d,n22,n18.1,n25,n15.1,n27,n6,n5,n4,n3,n2,n1,n16)) (λd=>ret (d.1,n23,n19.1,n24,bL.1,n20,n17.1,n21,d.2.1,n22,n18.1,n25,n15.1,n27,n6,n5,n4,(d.2.1.2.2.1,d.2.2),n2,n1,n16))) no) (ae y4 (ae y8 (opt (po (n28,n21,n26.1)) λd=>sm d (λd=>ret (false,n23,n19.1,n24,bL.1,n20,n17.1,d,bx.1,n22,n18.1,n25,n15.1,n27,n6,n5,n4,n3,n2,n1,n16)) (λd=>ret (d.1,n23,n19.1,n24,bL.1,n20,n17.1,d.2.1,bx.1,n22,n18.1,n25,n15.1,n27,n6,n5,(d.2.1.2.2.1,d.2.2),n3,n2,n1,n16))) no) (ae y1 (ae y7 (opt (po (n28,n17.1,n31.2.1)) λd=>sm d (λd=>ret (false,n23,n19.1,n24,bL.1,n20,d,n21,bx.1,n22,n18.1,n25,n15.1,n27,n6,n5,n4,n3,n2,n1,n16)) (λd=>ret (d.1,n23,n19.1,n24,bL.1,n20,d.2.1,n21,bx.1,n22,n18.1,n25,n15.1,n27,n6,(d.2.1.2.2.1,d.2.2),n4,n3,n2,n1,n16))) no) (ae y6 (opt (po (n28,n20,n31.1)) λd=>sm d (λd=>ret (false,n23,n19.1,n24,bL.1,d,n17.1,n21,bx.1,n22,n18.1,n25,n15.1,n27,n6,n5,n4,n3,n2,n1,n16)) (λd=>ret (d.1,n23,n19.1,n24,bL.1,d.2.1,n17.1,n21,bx.1,n22,n18.1,n25,n15.1,n27,(d.2.1.2.2.1,d.2.2),n5,n4,n3,n2,n1,n16))) no)))))) no)))
def ek:=λx=>(sU yY lZ BE fy mD x).val
abbrev A9:=acm×yV×Rm×Cl×Ih
def Ls (p:A9):KK:=⟨[amh p.1,VV p.2.1,ahm p.b.1,LV p.b.2.1,V9 p.c],⟨[],[],(0::rg 4 6 []),[],(some ⟨0,(rg 0 6 (rg 7 28 [])),[(3,[]),(4,[]),(5,[]),(6,[]),(7,[]),(8,[]),(9,[]),(10,[]),(11,[]),(12,[]),(13,[]),(14,[]),(15,[]),(16,[]),(17,[]),(18,[]),(19,[]),(20,[]),(21,[]),(0,[])]⟩)⟩,0,22⟩
theorem afG (p:A9):D2 (Ls p) kW Lr λb=>sU p.1 p.2.1 p.b.1 p.b.2.1 p.c b:=λb=>by kernel_rfl
abbrev Lt:A9:=(yY,lZ,BE,fy,mD)
theorem A' [ax]:SC (sS ek):=sc (kS (k:=Ls Lt) (.c av3 (.c ak8 (.c azP (.c ahQ (.c aqD (.nil _)))))) [] [] trivial trivial (afG Lt))
end Go.Proofs.YtldgljclcgaibaaGreat
namespace Go.Proofs.YtldgljclcgaibaaGreat
open Go.Ab Go.Ab.Pg
theorem aNS (x:kW.B)(l5:x.2.2.2.2.2.1.2.2.1<=1000)(l6:x.2.2.2.2.2.2.1.2.2.1<=1000)(l7:x.2.2.2.2.2.2.2.1.2.2.1<=1000)(l8:x.2.2.2.2.2.2.2.2.1.2.2.1<=1000)(l9:x.2.2.2.2.2.2.2.2.2.1.2.2.1<=1000)(l10:x.2.2.2.2.2.2.2.2.2.2.1.2.2.1<=1000):Ok (ek x) (λe:nY=>e.2.1=x.2.1∧e.2.2.1=x.2.2.1∧e.2.2.2.1=x.2.2.2.1∧e.2.2.2.2.1=x.2.2.2.2.1∧e.2.2.2.2.2.2.2.2.2.2.2.1=x.2.2.2.2.2.2.2.2.2.2.2.1∧e.2.2.2.2.2.2.2.2.2.2.2.2.1=x.2.2.2.2.2.2.2.2.2.2.2.2.1∧e.2.2.2.2.2.2.2.2.2.2.2.2.2.1=x.2.2.2.2.2.2.2.2.2.2.2.2.2.1∧e.2.2.2.2.2.2.2.2.2.2.2.2.2.2.2.2.2.2.2.2=x.2.2.2.2.2.2.2.2.2.2.2.2.2.2.2.2.2.2.2.2∧((¬(0<=x.1.1∧x.1.1<6)∧e.2.2.2.2.2.1=x.2.2.2.2.2.1∧e.2.2.2.2.2.2.1=x.2.2.2.2.2.2.1∧e.2.2.2.2.2.2.2.1=x.2.2.2.2.2.2.2.1∧e.2.2.2.2.2.2.2.2.1=x.2.2.2.2.2.2.2.2.1∧e.2.2.2.2.2.2.2.2.2.1=x.2.2.2.2.2.2.2.2.2.1∧e.2.2.2.2.2.2.2.2.2.2.1=x.2.2.2.2.2.2.2.2.2.2.1)∨(x.1.1=0∧(PR x.2.2.2.2.2.1 e.2.2.2.2.2.1∨SR x.2.2.2.2.2.1 e.2.2.2.2.2.1)∧e.2.2.2.2.2.2.1=x.2.2.2.2.2.2.1∧e.2.2.2.2.2.2.2.1=x.2.2.2.2.2.2.2.1∧e.2.2.2.2.2.2.2.2.1=x.2.2.2.2.2.2.2.2.1∧e.2.2.2.2.2.2.2.2.2.1=x.2.2.2.2.2.2.2.2.2.1∧e.2.2.2.2.2.2.2.2.2.2.1=x.2.2.2.2.2.2.2.2.2.2.1)∨(x.1.1=1∧e.2.2.2.2.2.1=x.2.2.2.2.2.1∧(PR x.2.2.2.2.2.2.1 e.2.2.2.2.2.2.1∨SR x.2.2.2.2.2.2.1 e.2.2.2.2.2.2.1)∧e.2.2.2.2.2.2.2.1=x.2.2.2.2.2.2.2.1∧e.2.2.2.2.2.2.2.2.1=x.2.2.2.2.2.2.2.2.1∧e.2.2.2.2.2.2.2.2.2.1=x.2.2.2.2.2.2.2.2.2.1∧e.2.2.2.2.2.2.2.2.2.2.1=x.2.2.2.2.2.2.2.2.2.2.1)∨(x.1.1=2∧e.2.2.2.2.2.1=x.2.2.2.2.2.1∧e.2.2.2.2.2.2.1=x.2.2.2.2.2.2.1∧(PR x.2.2.2.2.2.2.2.1 e.2.2.2.2.2.2.2.1∨SR x.2.2.2.2.2.2.2.1 e.2.2.2.2.2.2.2.1)∧e.2.2.2.2.2.2.2.2.1=x.2.2.2.2.2.2.2.2.1∧e.2.2.2.2.2.2.2.2.2.1=x.2.2.2.2.2.2.2.2.2.1∧e.2.2.2.2.2.2.2.2.2.2.1=x.2.2.2.2.2.2.2.2.2.2.1)∨(x.1.1=3∧e.2.2.2.2.2.1=x.2.2.2.2.2.1∧e.2.2.2.2.2.2.1=x.2.2.2.2.2.2.1∧e.2.2.2.2.2.2.2.1=x.2.2.2.2.2.2.2.1∧(PR x.2.2.2.2.2.2.2.2.1 e.2.2.2.2.2.2.2.2.1∨SR x.2.2.2.2.2.2.2.2.1 e.2.2.2.2.2.2.2.2.1)∧e.2.2.2.2.2.2.2.2.2.1=x.2.2.2.2.2.2.2.2.2.1∧e.2.2.2.2.2.2.2.2.2.2.1=x.2.2.2.2.2.2.2.2.2.2.1)∨(x.1.1=4∧e.2.2.2.2.2.1=x.2.2.2.2.2.1∧e.2.2.2.2.2.2.1=x.2.2.2.2.2.2.1∧e.2.2.2.2.2.2.2.1=x.2.2.2.2.2.2.2.1∧e.2.2.2.2.2.2.2.2.1=x.2.2.2.2.2.2.2.2.1∧(PR x.2.2.2.2.2.2.2.2.2.1 e.2.2.2.2.2.2.2.2.2.1∨SR x.2.2.2.2.2.2.2.2.2.1 e.2.2.2.2.2.2.2.2.2.1)∧e.2.2.2.2.2.2.2.2.2.2.1=x.2.2.2.2.2.2.2.2.2.2.1)∨(x.1.1=5∧e.2.2.2.2.2.1=x.2.2.2.2.2.1∧e.2.2.2.2.2.2.1=x.2.2.2.2.2.2.1∧e.2.2.2.2.2.2.2.1=x.2.2.2.2.2.2.2.1∧e.2.2.2.2.2.2.2.2.1=x.2.2.2.2.2.2.2.2.1∧e.2.2.2.2.2.2.2.2.2.1=x.2.2.2.2.2.2.2.2.2.1∧(PR x.2.2.2.2.2.2.2.2.2.2.1 e.2.2.2.2.2.2.2.2.2.2.1∨SR x.2.2.2.2.2.2.2.2.2.2.1 e.2.2.2.2.2.2.2.2.2.2.1)))):=by
 unfold ek sU
 try dsimp only
 show PQ _ _
 rw[afy,bM,aK]
 refine⟨λhn=> ?_,λhk=> ?_⟩
 ·rw[av]
  refine⟨rfl,rfl,rfl,rfl,rfl,rfl,rfl,rfl,.inl ⟨λh=> ?_,rfl,rfl,rfl,rfl,rfl,rfl⟩⟩
  rw[decide_eq_true h.1,decide_eq_true h.2] at hn
  cases hn
 rw[Bool.not_eq_false'] at hk
 obtain⟨b,_,_⟩:=aCZ hk 6 (by omega)
 have hr:=hk
 rw[Bool.and_eq_true,decide_eq_true_eq,decide_eq_true_eq] at hr
 obtain⟨k0,k6⟩:=hr
 simp only[aM,b]
 repeat' (first
  |rw[aB]
  |(with_reducible refine ay (aQs _ ?_) λe _ he=> ?_)
  |(with_reducible refine ay (aH5 _) λe _ he=> ?_)
  |(rw[qh];refine⟨λa ha=> ?_,λa ha=> ?_⟩)
  |(rw[bu];intro _ _)
  |(rw[aK];refine⟨λc=> ?_,λc=> ?_⟩<;>first|have c:=eq_of_beq c|have c:=ne_of_beq_false c|skip))
 all_goals first
  |(dsimp only;omega)
  |(rw[av];exact⟨rfl,rfl,rfl,rfl,rfl,rfl,rfl,rfl,.inr (.inl ⟨by omega,.inr he,rfl,rfl,rfl,rfl,rfl⟩)⟩)
  |(rw[ha] at he;rw[av];exact⟨rfl,rfl,rfl,rfl,rfl,rfl,rfl,rfl,.inr (.inl ⟨by omega,.inl he,rfl,rfl,rfl,rfl,rfl⟩)⟩)
  |(rw[av];exact⟨rfl,rfl,rfl,rfl,rfl,rfl,rfl,rfl,.inr (.inr (.inl ⟨by omega,rfl,.inr he,rfl,rfl,rfl,rfl⟩))⟩)
  |(rw[ha] at he;rw[av];exact⟨rfl,rfl,rfl,rfl,rfl,rfl,rfl,rfl,.inr (.inr (.inl ⟨by omega,rfl,.inl he,rfl,rfl,rfl,rfl⟩))⟩)
  |(rw[av];exact⟨rfl,rfl,rfl,rfl,rfl,rfl,rfl,rfl,.inr (.inr (.inr (.inl ⟨by omega,rfl,rfl,.inr he,rfl,rfl,rfl⟩)))⟩)
  |(rw[ha] at he;rw[av];exact⟨rfl,rfl,rfl,rfl,rfl,rfl,rfl,rfl,.inr (.inr (.inr (.inl ⟨by omega,rfl,rfl,.inl he,rfl,rfl,rfl⟩)))⟩)
  |(rw[av];exact⟨rfl,rfl,rfl,rfl,rfl,rfl,rfl,rfl,.inr (.inr (.inr (.inr (.inl ⟨by omega,rfl,rfl,rfl,.inr he,rfl,rfl⟩))))⟩)
  |(rw[ha] at he;rw[av];exact⟨rfl,rfl,rfl,rfl,rfl,rfl,rfl,rfl,.inr (.inr (.inr (.inr (.inl ⟨by omega,rfl,rfl,rfl,.inl he,rfl,rfl⟩))))⟩)
  |(rw[av];exact⟨rfl,rfl,rfl,rfl,rfl,rfl,rfl,rfl,.inr (.inr (.inr (.inr (.inr (.inl ⟨by omega,rfl,rfl,rfl,rfl,.inr he,rfl⟩)))))⟩)
  |(rw[ha] at he;rw[av];exact⟨rfl,rfl,rfl,rfl,rfl,rfl,rfl,rfl,.inr (.inr (.inr (.inr (.inr (.inl ⟨by omega,rfl,rfl,rfl,rfl,.inl he,rfl⟩)))))⟩)
  |(rw[av];exact⟨rfl,rfl,rfl,rfl,rfl,rfl,rfl,rfl,.inr (.inr (.inr (.inr (.inr (.inr (⟨by omega,rfl,rfl,rfl,rfl,rfl,.inr he⟩))))))⟩)
  |(rw[ha] at he;rw[av];exact⟨rfl,rfl,rfl,rfl,rfl,rfl,rfl,rfl,.inr (.inr (.inr (.inr (.inr (.inr (⟨by omega,rfl,rfl,rfl,rfl,rfl,.inl he⟩))))))⟩)
  |skip
end Go.Proofs.YtldgljclcgaibaaGreat
noncomputable section
namespace Go.Proofs.YtldgljclcgaibaaGreat
open Go.Ab Go.Ab.Pg Go.Ab.Rq
def G4:=qa (pl (c (aa u3) fT) nil)
def YU:=qe (res (pu (ac auy) (pu nil nil)))
def aua:=qe (res (pu ep (pu nil (c aMM (c jY (c lr (c aMh (c aMA (c aMB (c aMC (c aMD (c aME (c aMF (c kG (c aMw aMK)))))))))))))))
abbrev Ou:=YU.B⊕((Js×Bool×NI×(NI×NI)×(Nat×Nat)×tM×Bool×Int×nr×Bool×Bool×Bool×Int×Int×Int×HI×Nat)×(nr×Int×Int)×Tk×YV×cz×cz×cz×cz×cz×cz×So×xM×HJ×eD×eD×eD×eD×eD×eD×Nat×NI×NI×NI×NI×NI×NI×NI×NI×NI×NI×NI)
def apr:Ou->T:=ls (lf YU) (λd=>lf aua (d.1,d.2.1,d.b.1,d.b.2.1,d.c.1,d.c.2.1,d.c.b.1,d.c.b.2.1,d.d.1,d.d.2.1,d.d.b.1,d.d.b.2.1,d.d.c.1,(d.c.1.b.1,d.d.c.2.1),(d.c.2.1.b.1,d.d.c.b.1),(d.c.b.1.b.1,d.d.c.b.2.1),(d.c.b.2.1.b.1,d.e.1),(d.d.1.b.1,d.e.2.1),(d.d.2.1.b.1,d.e.b.1),d.e.b.2))
abbrev aEJ:=G4.B->Option Ou
def aa3 (g:aEJ):Ct:=(47,FC G4 apr g)
def px:=qs (st (pr (us 1 (c ai (us 3 (cu ep (us 1 (cl ai (us 29 nil))))))) (pl (c (so aMM) (c rV (c rW (c uY (cd (so aMA) λb4=>(cd (so aMB) λb5=>(cd (so aMC) λb6=>(cd (so aMD) λb7=>(cd (so aME) λb8=>(cd (so aMF) λb9=>(c pY (c (so aMw) (c uZ (c (so (cl (gs b4.b.1 aA) nil)) (c (so (cl (gs b5.b.1 aA) nil)) (c (so (cl (gs b6.b.1 aA) nil)) (c (so (cl (gs b7.b.1 aA) nil)) (c (so (cl (gs b8.b.1 aA) nil)) (c (so (cl (gs b9.b.1 aA) nil)) Jt))))))))))))))))))) nil)))
def WV:=qs (st (pu (us 4 (cu (ac auy) (us 32 nil))) (pu nil nil)))
def ara:=qs (st (pr (us 1 (c ai (us 3 (cu ep (us 1 (c ai (us 13 (c ai aRy)))))))) (pl (c (so aMM) (c rV (c rW (c uY (c (so aMA) (c (so aMB) (c (so aMC) (c (so aMD) (c (so aME) (c (so aMF) (c pY (c (so aMw) L8)))))))))))) nil)))
abbrev BL:=WV.B⊕((Int×Int×Bool)×(Js×Bool×NI×(NI×NI)×(Nat×Nat)×tM×Bool×Int×nr×Bool×Bool×Bool×Int×Int×Int×HI×Nat)×(nr×Int×Int)×Tk×YV×cz×cz×cz×cz×cz×cz×So×xM×HJ×eD×eD×eD×eD×eD×eD×Nat×NI×NI×NI×NI×NI×NI×NI×NI×NI×NI×NI)
def ahH {ρ:Type}(x:BL)(K:AX->St->Option ρ):Option ρ:=(Sum.elim (λd=>K .ret (WV.em d)) (λd=>K (.ex 0) (ara.em ((d.1.1,d.1.2.1,d.1.2.1,d.1.1,d.1.b),d.2.1,d.b.1,d.b.2.1,d.c.1,d.c.2.1,d.c.b.1,d.c.b.2.1,d.d.1,d.d.2.1,d.d.b.1,d.d.b.2.1,d.d.c.1,d.d.c.2.1,(d.c.2.1.b.1,d.d.c.b.1),(d.c.b.1.b.1,d.d.c.b.2.1),(d.c.b.2.1.b.1,d.e.1),(d.d.1.b.1,d.e.2.1),(d.d.2.1.b.1,d.e.b.1),(d.d.b.1.b.1,d.e.b.2.1),d.e.c)))) x
def RD (afK:Lv)(wX:rr)(d:px.B):PL px BL:=let aY:=d.2.1.2;let n4:=aY.2.2.2;let n9:=n4.2.2.2.2.2.2.2.2.2.2.2.2;let n3:=d.2.2.2.2.2;let n8:=n3.2.2;let n1:=n8.2.2;let n5:=n1.2.2.2;let n7:=n5.2.2.2.2;let n2:=n7.2.2.2.2.2;let n6:=n2.2.2.2.2.2;let y0:=decide (d.1.2<=d.1.1);ae y0 (opt (afK (wI (8000*d.1.2)) 8000) λaj=>ae (Nat.beq n4.1.2 n4.1.2) (ae (Nat.beq n9 n9) (ae (Nat.beq n3.1.2.2.1 n3.1.2.2.1) (ae (Nat.beq n3.2.1.2.2.1 n3.2.1.2.2.1) (ae (Nat.beq n8.1.2.2.1 n8.1.2.2.1) (ae (Nat.beq n8.2.1.2.2.1 n8.2.1.2.2.1) (ae (Nat.beq n1.1.2.2.1 n1.1.2.2.1) (ae (Nat.beq n1.2.1.2.2.1 n1.2.1.2.2.1) (ae (Nat.beq n5.1.2.2 n5.1.2.2) (opt (wX ((aj.1,aj.2.1,(0,0,0),0,0,aj.2.2),(d.2.1.1,aY.1,aY.2.1,aY.2.2.1,n4.1.2,n4.2),d.2.2.1,d.2.2.2.1,(sh8 n4.1.1 d.2.2.2.2.1.2),n3.1,n3.2.1,n8.1,n8.2.1,n1.1,n1.2.1,n1.2.2.1,n5.1,(aAs 0 n5.2.1.2),(C4 0 n5.2.2.1),(C4 0 n5.2.2.2.1),(C4 0 n7.1),(C4 0 n7.2.1),(C4 0 n7.2.2.1),(C4 0 n7.2.2.2.1),λj=>n2.1 (0+j),λj=>n2.2.1 (0+j),λj=>n2.2.2.1 (0+j),λj=>n2.2.2.2.1 (0+j),λj=>n2.2.2.2.2.1 (0+j),λj=>n6.1 (0+j),λj=>n6.2.1 (0+j),λj=>n6.2.2.1 (0+j),λj=>n6.2.2.2.1 (0+j),λj=>n6.2.2.2.2.1 (0+j),λj=>n6.2.2.2.2.2 (0+j))) λaI=>ae (aI.1.2!=0) (ret (Sum.inr (Sum.inl ()))) (ret (Sum.inl ((d.1.1,wI (d.1.2+1)),aI.2)))) no) no) no) no) no) no) no) no) no) (ret (Sum.inr (Sum.inr ((d.1.1,d.1.2,y0),d.2))))
def ahI:=bD (RD Ba lG) 2000
def aa4 (Ep:afC)(dG:LT px BL)(x:G4.B):Pg Ou:=opt (Ep x.1) λd=>sm d (λd=>ret (Sum.inl ())) (λd=>let bL:=d.1.2.2;let n6:=bL.2.2.2.2;let n15:=n6.2.2.2;let n4:=d.2.2.2;let n8:=n4.2.2.2.2.2;let n2:=n15.2.2.2.2;let n16:=n2.2.2.2;let n5:=n16.2.2.2.2;let bx:=n5.2.2.2.2;let n1:=n8.2.2.2.2;let aY:=n1.2.1;let n7:=n1.2.2;let bh:=n7.2.1;let n3:=n7.2.2;let bp:=n3.2.1;let n9:=n3.2.2;ae true (ae true (ae true (ae true (ae true (ae true (opt (dG ((x.2,1),((d.1.1,d.1.2.1,bL.1,bL.2.1,(bL.2.2.1,bL.2.2.2.1,n6.1,n6.2.1,n6.2.2.1,n15.1),(n15.2.1,n15.2.2.1,n15.2.2.2.1,n2.1,n2.2.1,n2.2.2.1),n16.1,n16.2.1,n16.2.2.1,n16.2.2.2.1,n5.1,n5.2.1,n5.2.2.1,n5.2.2.2.1,bx.1,bx.2.1),bx.2.2.1,bx.2.2.2.1,bx.2.2.2.2,(0,0),(0,0,false,false),false,0,(0,0,0),false,false,false,0,0,0,((1073741824,0,0,0),(0,0,0),0,0,0),0),((d.2.1.1,d.2.1.2.1,d.2.1.2.2.1),d.2.1.2.2.2),(d.2.2.1,(0,0,(0,0,0),0,0,0),false),(0,n4.1,n4.1,n4.1,n4.1,n4.1,n4.1,n4.1,n4.1),((0,0,0,0,0),n4.2.1,0, -9223372036854775808),((0,0,0,0,0),n4.2.2.1,0, -9223372036854775808),((0,0,0,0,0),n4.2.2.2.1,0, -9223372036854775808),((0,0,0,0,0),n4.2.2.2.2.1,0, -9223372036854775808),((0,0,0,0,0),n8.1,0, -9223372036854775808),((0,0,0,0,0),n8.2.1,0, -9223372036854775808),(n8.2.2.1,0),(n8.2.2.2.1.1,n8.2.2.2.1.2,0),(0,n4.1,n4.1,n4.1,n4.1,n4.1,n4.1,n4.1,n4.1,n4.1,n4.1),(n1.1,n1.1,n1.1,n1.1,n1.1,n1.1,n1.1,n1.1,n1.1),(aY,aY,aY,aY,aY,aY,aY,aY,aY),(n7.1,n7.1,n7.1,n7.1,n7.1,n7.1,n7.1,n7.1,n7.1),(bh,bh,bh,bh,bh,bh,bh,bh,bh),(n3.1,n3.1,n3.1,n3.1,n3.1,n3.1,n3.1,n3.1,n3.1),(bp,bp,bp,bp,bp,bp,bp,bp,bp),0,n9,n9,n9,n9,n9,n9,n9,n9,n9,n9,n9)) λx=>sum x (λd=>ret (Sum.inl ())) λd=>ret (Sum.inr d.2)) no) no) no) no) no) no)
def aps:=λx=>(aa4 Ec ahI x).val
abbrev Ov:=afC×Lv×rr×(LT px BL)
def aa5 (p:Ov):KK:=⟨[aqT p.1,afJ p.2.1,Lq p.b.1],⟨[⟨5,(0::2::3::4::6::rg 8 29 []),[(0,[])]⟩],[fx 5 0 px ahH p.b.2],[],[],(some ⟨0,(rg 0 4 (rg 5 32 [])),[]⟩)⟩,0,47⟩
theorem awl (p:Ov):LI (aa5 p) 5 px ahH (RD p.2.1 p.b.1):=λ_ d c K=>by kernel_rfl
theorem aEK (p:Ov):D2 (aa5 p) G4 apr λb=>aa4 p.1 p.b.2 b:=λb=>by kernel_rfl
abbrev aa6:Ov:=(Ec,Ba,lG,ahI)
theorem aEL [ax]:SC (aa3 aps):=sc (kS (k:=aa5 aa6) (.c aC9 (.c at8 (.c YQ (.nil _)))) [5] [] ⟨kL (awl aa6),trivial⟩ trivial (aEK aa6))
def WW:=qa (pr (cu ep (cl L7 nil)) (cd oA λb0=>(c jY (c lr (c (cl (gs b0.c.1 lq) nil) (cd oT λb4=>(cd nh λb5=>(cd ni λb6=>(cd nj λb7=>(cd nk λb8=>(cd nm λb9=>(c kG (cd pX λrI=>(c (cl (gs b0.e jq) nil) (c (cl (gs b4.b.1 aA) nil) (c (cl (gs b5.b.1 aA) nil) (c (cl (gs b6.b.1 aA) nil) (c (cl (gs b7.b.1 aA) nil) (c (cl (gs b8.b.1 aA) nil) (c (cl (gs b9.b.1 aA) nil) (cl (cl (gs rI.b fX) nil) nil)))))))))))))))))))))
def al3:=qe (res (pr ai (pr (cl (zM aML) aMy) aMP)))
abbrev arb:=al3.B
abbrev aDm:=WW.B->Option arb
def aDn (g:aDm):Ct:=(21,FC WW (lf al3) g)
def nx:=qs (st (pr (cu ep (c L7 (us 2 (cu YY (c ai (c ai (c ai (cu aOe (us 2 aRq))))))))) (pl (c (so (a 26 u3 (c gb (c jo (a 2 w8 (cu (gp 21 5) (cu (gp 22 10) (c (gc (il (pu (nat 23) (pr ac5 (pl jQ (pu ID iy)))))) (au 6 (cu (gp 24 8) (cu (gp 25 8) (cu (gp 26 8) (cu (gp 27 8) (cu (gp 28 8) (cu (gp 29 8) nil)))))) (cu (gp 30 37) (a 4 Ca (cu (gp 31 3) (c gb (c gi (a 3 jW (c gb (c gb (c gb (c gi (c gi (c gi (a 10 Cb (cl (gc (il (pu (nat 32) (pu (ox (pu dE (pu dE (nat 10)))) (pl jQ (pu (nat 10) iy)))))) nil))))))))))))))))))))))) (cu nO (cu nO (cu nO (cu nO (cu nO (cu nO (cu nO (cu nO (cu nO (cu nO (cu nO (cu nO (cu nO (cu nO (cu nO (cu nO (cu nO (cu nO (cu nO (c (so (c gi (c gi (c gi (c gi aib))))) (c rV (c rW (c uY (c (so auG) (c (so auH) (c (so auI) (c (so auJ) (c (so auK) (c (so (a 5 ix (c gi (c (gc (il (pu (nat 38) (pu (ox (pu dE (pu dE fO))) (pl jQ (pu fO iy)))))) kF)))) (c pY (c (so (c gi (c gi (cl (gc (il (pu (nat 39) (pu (ox (pu dE (pu dE L3))) (pl jQ (pu L3 iy)))))) nil)))) L8)))))))))))))))))))))))))))))))) aif)))
def az3:=qs (st (pr (cu ep (c L7 (us 2 (cu YY (c ai (c ai (c ai (cu aOe (us 2 (c ai (us 25 (c ai (cu aL3 (c ai (c ab (cu PZ (c ai (c ab (c ab (us 2 aRH)))))))))))))))))))) (pl (c (so (a 26 u3 (c gb (c jo (a 2 w8 (cu (gp 21 5) (cu (gp 22 10) (c (gc (il (pu (nat 23) (pr ac5 (pl jQ (pu ID iy)))))) (au 6 (cu (gp 24 8) (cu (gp 25 8) (cu (gp 26 8) (cu (gp 27 8) (cu (gp 28 8) (cu (gp 29 8) nil)))))) (cu (gp 30 37) (a 4 Ca (cu (gp 31 3) (c gb (c gi (a 3 jW (c gb (c gb (c gb (c gi (c gi (c gi (a 10 Cb (cl (gc (il (pu (nat 32) (pu (ox (pu dE (pu dE (nat 10)))) (pl jQ (pu (nat 10) iy)))))) nil))))))))))))))))))))))) (cu nO (cu nO (cu nO (cu nO (cu nO (cu nO (cu nO (cu nO (cu nO (cu nO (cu nO (cu nO (cu nO (cu nO (cu nO (cu nO (cu nO (cu nO (cu nO (c (so (c gi (c gi (c gi (c gi aib))))) (c rV (c rW (c uY (c (so auG) (c (so auH) (c (so auI) (c (so auJ) (c (so auK) (c (so (a 5 ix (c gi (c (gc (il (pu (nat 38) (pu (ox (pu dE (pu dE fO))) (pl jQ (pu fO iy)))))) kF)))) (c pY (c (so (c gi (c gi (cl (gc (il (pu (nat 39) (pu (ox (pu dE (pu dE L3))) (pl jQ (pu L3 iy)))))) nil)))) L8)))))))))))))))))))))))))))))))) aif)))
def az4:=qs (st (pr (cu ep (c L7 (us 2 (cu YY (c ai (c ai (c ai (cu aOe (us 2 (c ai (us 25 (c ai (cu aL3 (c ai (c ab (cu PZ (c ai (c ab (cl ab (us 45 nil)))))))))))))))))))) (pl (c (so (a 26 u3 (c gb (c jo (a 2 w8 (cu (gp 21 5) (cu (gp 22 10) (c (gc (il (pu (nat 23) (pr ac5 (pl jQ (pu ID iy)))))) (au 6 (cu (gp 24 8) (cu (gp 25 8) (cu (gp 26 8) (cu (gp 27 8) (cu (gp 28 8) (cu (gp 29 8) nil)))))) (cu (gp 30 37) (a 4 Ca (cu (gp 31 3) (c gb (c gi (a 3 jW (c gb (c gb (c gb (c gi (c gi (c gi (a 10 Cb (cl (gc (il (pu (nat 32) (pu (ox (pu dE (pu dE (nat 10)))) (pl jQ (pu (nat 10) iy)))))) nil))))))))))))))))))))))) (cu nO (cu nO (cu nO (cu nO (cu nO (cu nO (cu nO (cu nO (cu nO (cu nO (cu nO (cu nO (cu nO (cu nO (cu nO (cu nO (cu nO (cu nO (cu nO (c (so (c gi (c gi (c gi (c gi aib))))) (c rV (c rW (c uY (c (so auG) (c (so auH) (c (so auI) (c (so auJ) (c (so auK) (c (so (a 5 ix (c gi (c (gc (il (pu (nat 38) (pu (ox (pu dE (pu dE fO))) (pl jQ (pu fO iy)))))) kF)))) (c pY (c (so (c gi (c gi (cl (gc (il (pu (nat 39) (pu (ox (pu dE (pu dE L3))) (pl jQ (pu L3 iy)))))) nil)))) L8)))))))))))))))))))))))))))))))) aif)))
def az5:=qs (st (pr (cu ep (c L7 (us 2 (cu YY (c ai (c ai (c ai (cu aOe (us 2 (c ai (us 25 (c ai (cu aL3 (c ai (cl ab (cu tN (xs 2 (cu tN (us 45 nil))))))))))))))))))) (pl (c (so (a 26 u3 (c gb (c jo (a 2 w8 (cu (gp 21 5) (cu (gp 22 10) (c (gc (il (pu (nat 23) (pr ac5 (pl jQ (pu ID iy)))))) (au 6 (cu (gp 24 8) (cu (gp 25 8) (cu (gp 26 8) (cu (gp 27 8) (cu (gp 28 8) (cu (gp 29 8) nil)))))) (cu (gp 30 37) (a 4 Ca (cu (gp 31 3) (c gb (c gi (a 3 jW (c gb (c gb (c gb (c gi (c gi (c gi (a 10 Cb (cl (gc (il (pu (nat 32) (pu (ox (pu dE (pu dE (nat 10)))) (pl jQ (pu (nat 10) iy)))))) nil))))))))))))))))))))))) (cu nO (cu nO (cu nO (cu nO (cu nO (cu nO (cu nO (cu nO (cu nO (cu nO (cu nO (cu nO (cu nO (cu nO (cu nO (cu nO (cu nO (cu nO (cu nO (c (so (c gi (c gi (c gi (c gi aib))))) (c rV (c rW (c uY (c (so auG) (c (so auH) (c (so auI) (c (so auJ) (c (so auK) (c (so (a 5 ix (c gi (c (gc (il (pu (nat 38) (pu (ox (pu dE (pu dE fO))) (pl jQ (pu fO iy)))))) kF)))) (c pY (c (so (c gi (c gi (cl (gc (il (pu (nat 39) (pu (ox (pu dE (pu dE L3))) (pl jQ (pu L3 iy)))))) nil)))) L8)))))))))))))))))))))))))))))))) aif)))
abbrev Be:=((aEQ×Int×Int×Int×Int×Int×Bool×Bool×Bool)×(Js×Bool×NI×(NI×NI)×(Nat×Nat)×tM×Bool×Int×nr×Bool×Bool×Bool×Int×Int×Int×HI×Nat)×aQ0×(nr×Int×Int)×Tk×YV×cz×cz×cz×cz×cz×cz×So×xM×HJ×xS×xS×xS×xS×xS×xS×Nat×NI×NI×NI×NI×NI×NI×NI×NI×NI×NI×NI)⊕(((aEQ×Int×Int×Int×Int×Int×Bool×Bool)×(Js×Bool×NI×(NI×NI)×(Nat×Nat)×tM×Bool×Int×nr×Bool×Bool×Bool×Int×Int×Int×HI×Nat)×aQ0×(nr×Int×Int)×Tk×YV×cz×cz×cz×cz×cz×cz×So×xM×HJ×xS×xS×xS×xS×xS×xS×Nat×NI×NI×NI×NI×NI×NI×NI×NI×NI×NI×NI)⊕((aEQ×Int×Int×Int×Int×Int×Bool)×(Js×Bool×NI×(NI×NI)×(Nat×Nat)×tM×Bool×Int×nr×Bool×Bool×Bool×Int×Int×Int×HI×Nat)×aQ0×(nr×Int×Int)×Tk×YV×cz×cz×cz×cz×cz×cz×So×xM×HJ×xS×xS×xS×xS×xS×xS×Nat×NI×NI×NI×NI×NI×NI×NI×NI×NI×NI×NI))
def aub {ρ:Type}(x:Be)(K:AX->St->Option ρ):Option ρ:=(Sum.elim (λd=>K (.ex 3) (az3.em ((d.1.1,d.1.2.1,d.1.b.1,d.1.b.2.1,d.1.c.1,d.1.c.1,d.1.c.2.1,d.1.c.b.1,d.1.c.1,d.1.c.b.2.1,d.1.c.b.2.1,d.1.b.1,d.1.d),d.2.1,(d.b.1.1,d.b.1.2.1,d.1.c.2.1,d.b.1.b),d.b.2))) (Sum.elim (λd=>K (.ex 3) (az4.em ((d.1.1,d.1.2.1,d.1.b.1,d.1.b.2.1,d.1.c.1,d.1.c.1,d.1.c.2.1,d.1.c.b.1,d.1.c.1,d.1.c.b.2,d.1.c.b.2),d.2.1,(d.b.1.1,d.b.1.2.1,d.1.c.2.1,d.b.1.b),d.b.2))) (λd=>K (.ex 3) (az5.em ((d.1.1,d.1.2.1,d.1.b.1,d.1.b.2.1,d.1.c.1,d.1.c),d.2.1,(d.b.1.1,d.b.1.2.1,d.1.c.2.1,d.b.1.b),d.b.2))))) x
def afL (wX:rr)(afK:Lv)(d:nx.B):PL nx Be:=let n28:=d.1.1;let n27:=d.1.2.1;let n21:=d.2.1;let n17:=d.2.2;let n23:=n17.1.2.2;let n16:=n21.2.2.2.2;let n25:=n16.2.2.2.2.2.2.2.2.2.2.2.2;let bp:=d.1.2.2;let n29:=bp.2.1;let n24:=bp.2.2;let bh:=n17.2.2.2.2;let n8:=bh.2.2.2;let n30:=n8.2.2;let n15:=n30.2.2;let n19:=n15.2.2.2.2;let aY:=n19.2.2.2.2.2;let n18:=aY.2.2.2.2.2;let n2:=(n17.1.1,n17.1.2.1,n23.2);let y0:=wI (bp.1+8000);let y1:=decide (bp.1>1099511627776);let y2:=decide (n24<40);let y3:=decide (n24<n23.1);ae y3 (ae y2 (ae y1 (ret (Sum.inr (Sum.inl ((n28,n27,bp.1,n29,n24,n23.1,y3,y2,y1),n21,n2,n17.2)))) (opt (afK y0 8000) λaj=>ae (Nat.beq n16.1.2 n16.1.2) (ae (Nat.beq n25 n25) (ae (Nat.beq bh.1.2.2.1 bh.1.2.2.1) (ae (Nat.beq bh.2.1.2.2.1 bh.2.1.2.2.1) (ae (Nat.beq bh.2.2.1.2.2.1 bh.2.2.1.2.2.1) (ae (Nat.beq n8.1.2.2.1 n8.1.2.2.1) (ae (Nat.beq n8.2.1.2.2.1 n8.2.1.2.2.1) (ae (Nat.beq n30.1.2.2.1 n30.1.2.2.1) (ae (Nat.beq n15.1.2.2 n15.1.2.2) (opt (wX ((aj.1,aj.2.1,(0,0,0),0,0,aj.2.2),(n21.1,n21.2.1,n21.2.2.1,n21.2.2.2.1,n16.1.2,n16.2),n17.2.1,n17.2.2.1,(sh8 n16.1.1 n17.2.2.2.1.2),bh.1,bh.2.1,bh.2.2.1,n8.1,n8.2.1,n30.1,n30.2.1,n15.1,(aAs 0 n15.2.1.2),(C4 0 n15.2.2.1.2),(C4 0 n15.2.2.2.1.2),(C4 0 n19.1.2),(C4 0 n19.2.1.2),(C4 0 n19.2.2.1.2),(C4 0 n19.2.2.2.1.2),λj=>aY.1 (0+j),λj=>aY.2.1 (0+j),λj=>aY.2.2.1 (0+j),λj=>aY.2.2.2.1 (0+j),λj=>aY.2.2.2.2.1 (0+j),λj=>n18.1 (0+j),λj=>n18.2.1 (0+j),λj=>n18.2.2.1 (0+j),λj=>n18.2.2.2.1 (0+j),λj=>n18.2.2.2.2.1 (0+j),λj=>n18.2.2.2.2.2 (0+j))) λaI=>let n26:=aI.2.2;let bx:=n26.2.2.2;let n9:=bx.2.2.2;let n22:=n9.2.2;let bL:=n22.2.2.2;let n20:=bL.2.2.2.2;let n7:=(bx.1.2.2.1,bL.2.1);let n6:=(bx.2.1.2.2.1,bL.2.2.1);let n5:=(bx.2.2.1.2.2.1,bL.2.2.2.1);let n4:=(n9.1.2.2.1,n20.1);let n3:=(n9.2.1.2.2.1,n20.2.1);let n1:=(n22.1.2.2.1,n20.2.2.1);let nq:=wI (n27+aI.1.1);ae (aI.1.2==0) (ret (Sum.inl ((n28,nq,y0,n29,wI (n24+1)),aI.2.1,n17.1,n26.1,n26.2.1,n26.2.2.1,bx.1,bx.2.1,bx.2.2.1,n9.1,n9.2.1,n22.1,n22.2.1,n22.2.2.1,bL.1,n7,n6,n5,n4,n3,n1,n20.2.2.2))) (ret (Sum.inl ((n28,nq,bp.1,n29,wI (n24+1)),aI.2.1,n17.1,n26.1,n26.2.1,n26.2.2.1,bx.1,bx.2.1,bx.2.2.1,n9.1,n9.2.1,n22.1,n22.2.1,n22.2.2.1,bL.1,n7,n6,n5,n4,n3,n1,n20.2.2.2)))) no) no) no) no) no) no) no) no) no)) (ret (Sum.inr (Sum.inr (Sum.inl ((n28,n27,bp.1,n29,n24,n23.1,y3,y2),n21,n2,n17.2)))))) (ret (Sum.inr (Sum.inr (Sum.inr ((n28,n27,bp.1,n29,n24,n23.1,y3),n21,n2,n17.2)))))
def Te:=bD (afL lG Ba) 2000
def pW:=qs (st (pr (cu ep (c L7 (us 2 (cu YY (c ai (c ai aLG)))))) (pl aAN aif)))
def az6:=qs (st (pr (cu ep (c L7 (us 2 (cu YY (c ai (c ai (c ai (us 9 (c ai (c L7 (c ai (c ab (cu PZ (c ai (c ab (c ab (cu PZ (c ai (c ab (cl ab (us 61 nil))))))))))))))))))))) (pl aAN aif)))
def az7:=qs (st (pr (cu ep (c L7 (us 2 (cu YY (c ai (c ai (c ai (us 9 (c ai (c L7 (c ai (c ab (cu PZ (c ai (c ab (cl ab aSk)))))))))))))))) (pl aAN aif)))
def az8:=qs (st (pr (cu ep (c L7 (us 2 (cu YY (c ai (c ai (c ai (us 9 (c ai (c L7 (c ai (cl ab (cu tN (xs 2 (cu tN aSk))))))))))))))) (pl aAN aif)))
abbrev E6:=((aEQ×Int×Int×Int×Int×Bool×Bool×Bool)×(Js×Bool×NI×(NI×NI)×(Nat×Nat)×tM×Bool×Int×nr×Bool×Bool×Bool×Int×Int×Int×HI×Nat)×(nr×Int×Int)×Tk×YV×cz×cz×cz×cz×cz×cz×So×xM×HJ×xS×xS×xS×xS×xS×xS×Nat×NI×NI×NI×NI×NI×NI×NI×NI×NI×NI×NI)⊕(((aEQ×Int×Int×Int×Int×Bool×Bool)×(Js×Bool×NI×(NI×NI)×(Nat×Nat)×tM×Bool×Int×nr×Bool×Bool×Bool×Int×Int×Int×HI×Nat)×(nr×Int×Int)×Tk×YV×cz×cz×cz×cz×cz×cz×So×xM×HJ×xS×xS×xS×xS×xS×xS×Nat×NI×NI×NI×NI×NI×NI×NI×NI×NI×NI×NI)⊕((aEQ×Int×Int×Int×Int×Bool)×(Js×Bool×NI×(NI×NI)×(Nat×Nat)×tM×Bool×Int×nr×Bool×Bool×Bool×Int×Int×Int×HI×Nat)×(nr×Int×Int)×Tk×YV×cz×cz×cz×cz×cz×cz×So×xM×HJ×xS×xS×xS×xS×xS×xS×Nat×NI×NI×NI×NI×NI×NI×NI×NI×NI×NI×NI))
def auc {ρ:Type}(x:E6)(K:AX->St->Option ρ):Option ρ:=(Sum.elim (λd=>K (.ex 0) (az6.em ((d.1.1,d.1.2.1,d.1.b.1,d.1.b.2.1,d.1.b.2.1,d.1.1,d.1.c.1,d.1.c.2.1,d.1.b.2.1,d.1.c.b.1,d.1.c.b.1,d.1.2.1,d.1.c.b.2,d.1.c.b.2),d.2))) (Sum.elim (λd=>K (.ex 0) (az7.em ((d.1.1,d.1.2.1,d.1.b.1,d.1.b.2.1,d.1.b.2.1,d.1.1,d.1.c.1,d.1.c.2.1,d.1.b.2.1,d.1.c.b,d.1.c.b),d.2))) (λd=>K (.ex 0) (az8.em ((d.1.1,d.1.2.1,d.1.b.1,d.1.b.2.1,d.1.b.2.1,d.1.1,d.1.c),d.2))))) x
def afM (kX:sR)(wX:rr)(qd:LT nx Be)(d:pW.B):PL pW E6:=let n38:=d.2.1;let n26:=d.2.2.2;let Jq:=n26.2.2.1;let n22:=d.1.1;let n20:=d.1.2;let n39:=n20.2.1;let n29:=n20.2.2;let n19:=n38.2.2.2.2;let n36:=n19.2.2.2.2.2.2.2.2.2.2.2.2;let bL:=n22.2.2.2.2;let n33:=bL.2.2;let bp:=n26.2.2.2;let GZ:=bp.2.2.1;let n23:=bp.2.2.2;let n9:=n33.2.2.2;let n28:=n9.2.2.2;let n15:=n28.2.2.2;let n31:=n15.2.2.2;let n8:=n23.2.2.2;let Lh:=n8.2.2;let n21:=Lh.2.2;let n34:=n21.2.2;let aY:=n34.2.2.2.2;let n35:=aY.2.2;let n16:=n35.2.2.2;let Jp:=n16.2.2;let n1:=(n38.1,n38.2.1,n38.2.2.1,n38.2.2.2.1,n19.1.2,n19.2);let y0:=Int.toNat n29;let y1:=wI (n29+1);let y2:=Int.ofNat n22.1;let y3:=decide (n20.1<60);let y4:=decide (n29<30);let y5:=decide (n29<y2);let y6:=Nat.beq n19.1.2 n19.1.2;let y7:=Nat.beq n36 n36;let y8:=Nat.beq Jq.2.2.1 Jq.2.2.1;let y9:=Nat.beq bp.1.2.2.1 bp.1.2.2.1;let uS:=Nat.beq bp.2.1.2.2.1 bp.2.1.2.2.1;let uU:=Nat.beq GZ.2.2.1 GZ.2.2.1;let xU:=Nat.beq n23.1.2.2.1 n23.1.2.2.1;let xV:=Nat.beq n23.2.1.2.2.1 n23.2.1.2.2.1;let xW:=Nat.beq n8.1.2.2 n8.1.2.2;ae y5 (ae y4 (ae y3 (ae (aX n29 n22.1) (ae (n22.2.1 y0==1) (ae y6 (ae y7 (ae y8 (ae y9 (ae uS (ae uU (ae xU (ae xV (ae xW (opt (kX ((n22.2.2.1 y0,n28.1 y0,n28.2.1 y0,n28.2.2.1 y0,n15.1 y0,n15.2.1 y0,n15.2.2.1 y0,n31.1 y0,n31.2.1 y0,n31.2.2 y0),n1,d.2.2.1,n26.1,(sh8 n19.1.1 n26.2.1.2),Jq,bp.1,bp.2.1,GZ,n23.1,n23.2.1,n23.2.2.1,n8.1,(aAs 0 n8.2.1.2),(C4 0 Lh.1.2),(C4 0 Lh.2.1.2),(C4 0 n21.1.2),(C4 0 n21.2.1.2),(C4 0 n34.1.2),(C4 0 n34.2.1.2),λj=>n34.2.2.2.1 (0+j),λj=>aY.1 (0+j),λj=>aY.2.1 (0+j),λj=>n35.1 (0+j),λj=>n35.2.1 (0+j),λj=>n35.2.2.1 (0+j),λj=>n16.1 (0+j),λj=>n16.2.1 (0+j),λj=>Jp.1 (0+j),λj=>Jp.2.1 (0+j),λj=>Jp.2.2 (0+j))) λaj=>let n27:=aj.2.1.2.2;let n24:=aj.2.2.2.2.2;let bx:=n24.2.2.2.2.2;let Li:=bx.2.2;let n25:=Li.2.2.2;ret (Sum.inl ((n22,n20.1,n39,y1),(aj.2.1.1,aj.2.1.2.1,n27.1,n27.2.1,(0,n27.2.2.1),n27.2.2.2),aj.2.2.1,aj.2.2.2.1,(n27.2.2.1,aj.2.2.2.2.1),n24.1,n24.2.1,n24.2.2.1,n24.2.2.2.1,n24.2.2.2.2.1,bx.1,bx.2.1,Li.1,(n27.2.2.2.2.2.2.2.2.2.2.2.2.2.2,Li.2.1),Li.2.2.1,n25.1,n25.2.1,n25.2.2.1,n25.2.2.2.1,n25.2.2.2.2.1,Li.1.2.2,n25.2.2.2.2.2))) no) no) no) no) no) no) no) no) no) (ae (n22.2.1 y0==0) (ae y6 (ae y7 (ae y8 (ae y9 (ae uS (ae uU (ae xU (ae xV (ae xW (opt (wX ((bL.1 y0,bL.2.1 y0,(n33.1 y0,n33.2.1 y0,n33.2.2.1 y0),n9.1 y0,n9.2.1 y0,n9.2.2.1 y0),n1,d.2.2.1,n26.1,(sh8 n19.1.1 n26.2.1.2),Jq,bp.1,bp.2.1,GZ,n23.1,n23.2.1,n23.2.2.1,n8.1,(aAs 0 n8.2.1.2),(C4 0 Lh.1.2),(C4 0 Lh.2.1.2),(C4 0 n21.1.2),(C4 0 n21.2.1.2),(C4 0 n34.1.2),(C4 0 n34.2.1.2),λj=>n34.2.2.2.1 (0+j),λj=>aY.1 (0+j),λj=>aY.2.1 (0+j),λj=>n35.1 (0+j),λj=>n35.2.1 (0+j),λj=>n35.2.2.1 (0+j),λj=>n16.1 (0+j),λj=>n16.2.1 (0+j),λj=>Jp.1 (0+j),λj=>Jp.2.1 (0+j),λj=>Jp.2.2 (0+j))) λaj=>let n37:=aj.2.2;let n17:=n37.2.2.2;let bh:=n17.2.2.2;let n32:=bh.2.2;let n18:=n32.2.2.2;let n30:=n18.2.2.2.2;let n7:=(n17.1.2.2.1,n18.2.1);let n6:=(n17.2.1.2.2.1,n18.2.2.1);let n5:=(n17.2.2.1.2.2.1,n18.2.2.2.1);let n4:=(bh.1.2.2.1,n30.1);let n3:=(bh.2.1.2.2.1,n30.2.1);let n2:=(n32.1.2.2.1,n30.2.2.1);let nq:=wI (n20.1+aj.1.1);ae (aj.1.2==0) (ret (Sum.inl ((n22,nq,bL.1 y0,y1),aj.2.1,n37.1,n37.2.1,n37.2.2.1,n17.1,n17.2.1,n17.2.2.1,bh.1,bh.2.1,n32.1,n32.2.1,n32.2.2.1,n18.1,n7,n6,n5,n4,n3,n2,n30.2.2.2))) (ret (Sum.inl ((n22,nq,n39,y1),aj.2.1,n37.1,n37.2.1,n37.2.2.1,n17.1,n17.2.1,n17.2.2.1,bh.1,bh.2.1,n32.1,n32.2.1,n32.2.2.1,n18.1,n7,n6,n5,n4,n3,n2,n30.2.2.2)))) no) no) no) no) no) no) no) no) no) (opt (qd ((n22,n20.1,n39,n29,0),n38,(n22.2.1 y0,n22.2.2.1 y0,n22.2.2.2.1 y0,bL.1 y0,bL.2.1 y0,n33.1 y0,n33.2.1 y0,n33.2.2.1 y0,n9.1 y0,n9.2.1 y0,n9.2.2.1 y0,n28.1 y0,n28.2.1 y0,n28.2.2.1 y0,n15.1 y0,n15.2.1 y0,n15.2.2.1 y0,n31.1 y0,n31.2.1 y0,n31.2.2 y0),d.2.2)) λx=>sum x (λd=>ret (Sum.inl ((d.1.1,d.1.2.1,d.1.2.2.1,wI (d.1.2.2.2.1+1)),d.2.1,d.2.2.2))) λx=>sum x (λd=>ret (Sum.inl ((d.1.1,d.1.2.1,d.1.2.2.1,wI (d.1.2.2.2.1+1)),d.2.1,d.2.2.2))) λd=>ret (Sum.inl ((d.1.1,d.1.2.1,d.1.2.2.1,wI (d.1.2.2.2.1+1)),d.2.1,d.2.2.2))))) no) (ret (Sum.inr (Sum.inl ((n22,n20.1,n39,n29,y2,y5,y4,y3),d.2))))) (ret (Sum.inr (Sum.inr (Sum.inl ((n22,n20.1,n39,n29,y2,y5,y4),d.2)))))) (ret (Sum.inr (Sum.inr (Sum.inr ((n22,n20.1,n39,n29,y2,y5),d.2)))))
def afN:=bD (afM ek lG Te) 2000
def arc (iC:wK)(dG:LT pW E6)(x:WW.B):Pg arb:=let bh:=x.2.1.2;let n4:=x.2.2.2.2.2;let bp:=n4.1.2.2.1;let n8:=n4.2.1.2.2.1;let n3:=bh.2.2.2;let n5:=n3.2.2.2.2.2.2.2.2.2.2.2.2;let n1:=n4.2.2;let bx:=n1.1.2.2.1;let n9:=n1.2.1.2.2.1;let n6:=n1.2.2;let bL:=n6.1.2.2.1;let aY:=n6.2.1.2.2.1;let n2:=n6.2.2.2;let n7:=n2.2.2.2.2;ae (Nat.beq n3.1 n3.1) (ae (Nat.beq n5 n5) (ae (Nat.beq bp bp) (ae (Nat.beq n8 n8) (ae (Nat.beq bx bx) (ae (Nat.beq n9 n9) (ae (Nat.beq bL bL) (ae (Nat.beq aY aY) (ae (Nat.beq n2.1.2.2 n2.1.2.2) (opt (iC x.2) λd=>opt (dG ((x.1,0,d.2.2.2.2.1,0),(x.2.1.1,bh.1,bh.2.1,bh.2.2.1,(0,n3.1),n3.2),x.2.2.1,x.2.2.2.1,(n3.1,x.2.2.2.2.1),n4.1,n4.2.1,n1.1,n1.2.1,n6.1,n6.2.1,n6.2.2.1,n2.1,(n5,n2.2.1),(bp,n2.2.2.1),(n8,n2.2.2.2.1),(bx,n7.1),(n9,n7.2.1),(bL,n7.2.2.1),(aY,n7.2.2.2.1),n2.1.2.2,n7.2.2.2.2)) λx=>sum x (λd=>ret (d.1.2.1,d.2)) λx=>sum x (λd=>ret (d.1.2.1,d.2)) λd=>ret (d.1.2.1,d.2)) no) no) no) no) no) no) no) no) no
def WX:=λx=>(arc db afN x).val
abbrev WY:=wK×sR×rr×Lv×(LT nx Be)×(LT pW E6)
def afO (p:WY):KK:=⟨[wL p.1,sS p.2.1,Lq p.b.1,afJ p.b.2.1],⟨[⟨4,(2::3::rg 9 81 [8]),[(3,[]),(4,[]),(5,[]),(6,[]),(7,[]),(8,[]),(9,[]),(10,[]),(11,[]),(12,[]),(13,[]),(14,[]),(15,[]),(16,[]),(17,[]),(18,[]),(19,[]),(20,[]),(21,[]),(0,[])]⟩,⟨9,(2::3::9::10::rg 12 78 []),[(3,[]),(4,[]),(5,[]),(6,[]),(7,[]),(8,[]),(9,[]),(10,[]),(11,[]),(12,[]),(13,[]),(14,[]),(15,[]),(16,[]),(17,[]),(18,[]),(19,[]),(20,[]),(21,[]),(0,[])]⟩],[fx 9 20 nx aub p.c.1,fx 4 20 pW auc p.c.2],(0::rg 4 6 []),[],(some ⟨0,(rg 0 4 (rg 5 85 [])),[(3,[]),(4,[]),(5,[]),(6,[]),(7,[]),(8,[]),(9,[]),(10,[]),(11,[]),(12,[]),(13,[]),(14,[]),(15,[]),(16,[]),(17,[]),(18,[]),(19,[]),(20,[]),(21,[]),(0,[])]⟩)⟩,20,21⟩
theorem aEM (p:WY):LI (afO p) 9 nx aub (afL p.b.1 p.b.2.1):=λ_ d c K=>by kernel_rfl
theorem aEN (p:WY):LI (afO p) 4 pW auc (afM p.2.1 p.b.1 p.c.1):=λ_ d c K=>by kernel_rfl
theorem aNW (p:WY):D2 (afO p) WW (lf al3) λb=>arc p.1 p.c.2 b:=λb=>by kernel_rfl
abbrev afP:WY:=(db,ek,lG,Ba,Te,afN)
theorem aNX [ax]:SC (aDn WX):=sc (kS (k:=afO afP) (.c D3 (.c A' (.c YQ (.c at8 (.nil _))))) [4,9] [] ⟨kL (aEN afP),⟨kL (aEM afP),trivial⟩⟩ trivial (aNW afP))
end Go.Proofs.YtldgljclcgaibaaGreat
namespace Go.Proofs.YtldgljclcgaibaaGreat
open Go.Ab Go.Ab.Pg
structure Clo (P:Int->Int->Bf->Prop):Prop where
 len:∀{m t b},P m t b->b.2.2.1<=64
 br:∀{m t u b c},P m t b->t<=u->BR u b c->P m u c
 pr:∀{m t b c},0<=m->m<=1000->P m t b->(PR b c∨SR b c)->P (m+1) t c
 up:∀{m t b},P m t b->P (m+1) t b
def Tq (T S:Int)(a:Bool)(n:Nat)(r:Nat->Int):Prop:=(a=false->S<=0)∧Qd T S n r
theorem aQH (t:Int):Ba t 8000=some (t,8000, -84238486):=by kernel_rfl
theorem aNY (N:Nat)(h1:1<=N)(hN:N<=1999){P:Int->Int->Bf->Prop}(C:Clo P)(m:Int)(q:Int)(hq:q+40<=1998)(w d:nx.B)(hd:d.1.1=w.1.1∧d.1.2.2.2.1=w.1.2.2.2.1∧0<=d.1.2.2.2.2∧d.1.2.2.2.2<=40∧((d.2.1.2.2.2.2.1.2:Nat):Int)<=q+d.1.2.2.2.2∧Tq d.2.1.2.2.2.2.2.2.2.2.2.2.2.2.2.1 d.2.2.2.2.1.2.1.1 d.2.2.2.2.1.2.2 d.2.1.2.2.2.2.1.2 (λi=>d.2.2.2.2.2.1.2.1 (d.2.1.2.2.2.2.1.1+i))∧P (m) d.2.1.2.2.2.2.2.2.2.2.2.2.2.2.2.1 d.2.2.2.2.2.2.1∧P (m) d.2.1.2.2.2.2.2.2.2.2.2.2.2.2.2.1 d.2.2.2.2.2.2.2.1∧P (m) d.2.1.2.2.2.2.2.2.2.2.2.2.2.2.2.1 d.2.2.2.2.2.2.2.2.1∧P (m) d.2.1.2.2.2.2.2.2.2.2.2.2.2.2.2.1 d.2.2.2.2.2.2.2.2.2.1∧P (m) d.2.1.2.2.2.2.2.2.2.2.2.2.2.2.2.1 d.2.2.2.2.2.2.2.2.2.2.1∧P (m) d.2.1.2.2.2.2.2.2.2.2.2.2.2.2.2.1 d.2.2.2.2.2.2.2.2.2.2.2.1∧d.2.2.2.2.2.2.2.2.2.2.2.2.2.1.1<=(N:Int)∧d.2.2.2.2.2.2.2.2.2.2.2.2.2.1.2.2<=N):Ok (Te d) (λx:Be=>match x with|.inl x=>x.1.1=w.1.1∧x.1.2.2.2.1=w.1.2.2.2.1∧((x.2.1.2.2.2.2.1.2:Nat):Int)<=q+40∧Tq x.2.1.2.2.2.2.2.2.2.2.2.2.2.2.2.1 x.2.2.2.2.1.2.1.1 x.2.2.2.2.1.2.2 x.2.1.2.2.2.2.1.2 (λi=>x.2.2.2.2.2.1.2.1 (x.2.1.2.2.2.2.1.1+i))∧P (m) x.2.1.2.2.2.2.2.2.2.2.2.2.2.2.2.1 x.2.2.2.2.2.2.1∧P (m) x.2.1.2.2.2.2.2.2.2.2.2.2.2.2.2.1 x.2.2.2.2.2.2.2.1∧P (m) x.2.1.2.2.2.2.2.2.2.2.2.2.2.2.2.1 x.2.2.2.2.2.2.2.2.1∧P (m) x.2.1.2.2.2.2.2.2.2.2.2.2.2.2.2.1 x.2.2.2.2.2.2.2.2.2.1∧P (m) x.2.1.2.2.2.2.2.2.2.2.2.2.2.2.2.1 x.2.2.2.2.2.2.2.2.2.2.1∧P (m) x.2.1.2.2.2.2.2.2.2.2.2.2.2.2.2.1 x.2.2.2.2.2.2.2.2.2.2.2.1∧x.2.2.2.2.2.2.2.2.2.2.2.2.2.1.1<=(N:Int)∧x.2.2.2.2.2.2.2.2.2.2.2.2.2.1.2.2<=N|.inr (.inl x)=>x.1.1=w.1.1∧x.1.2.2.2.1=w.1.2.2.2.1∧((x.2.1.2.2.2.2.1.2:Nat):Int)<=q+40∧Tq x.2.1.2.2.2.2.2.2.2.2.2.2.2.2.2.1 x.2.2.2.2.1.2.1.1 x.2.2.2.2.1.2.2 x.2.1.2.2.2.2.1.2 (λi=>x.2.2.2.2.2.1.2.1 (x.2.1.2.2.2.2.1.1+i))∧P (m) x.2.1.2.2.2.2.2.2.2.2.2.2.2.2.2.1 x.2.2.2.2.2.2.1∧P (m) x.2.1.2.2.2.2.2.2.2.2.2.2.2.2.2.1 x.2.2.2.2.2.2.2.1∧P (m) x.2.1.2.2.2.2.2.2.2.2.2.2.2.2.2.1 x.2.2.2.2.2.2.2.2.1∧P (m) x.2.1.2.2.2.2.2.2.2.2.2.2.2.2.2.1 x.2.2.2.2.2.2.2.2.2.1∧P (m) x.2.1.2.2.2.2.2.2.2.2.2.2.2.2.2.1 x.2.2.2.2.2.2.2.2.2.2.1∧P (m) x.2.1.2.2.2.2.2.2.2.2.2.2.2.2.2.1 x.2.2.2.2.2.2.2.2.2.2.2.1∧x.2.2.2.2.2.2.2.2.2.2.2.2.2.1.1<=(N:Int)∧x.2.2.2.2.2.2.2.2.2.2.2.2.2.1.2.2<=N|.inr (.inr x)=>x.1.1=w.1.1∧x.1.2.2.2.1=w.1.2.2.2.1∧((x.2.1.2.2.2.2.1.2:Nat):Int)<=q+40∧Tq x.2.1.2.2.2.2.2.2.2.2.2.2.2.2.2.1 x.2.2.2.2.1.2.1.1 x.2.2.2.2.1.2.2 x.2.1.2.2.2.2.1.2 (λi=>x.2.2.2.2.2.1.2.1 (x.2.1.2.2.2.2.1.1+i))∧P (m) x.2.1.2.2.2.2.2.2.2.2.2.2.2.2.2.1 x.2.2.2.2.2.2.1∧P (m) x.2.1.2.2.2.2.2.2.2.2.2.2.2.2.2.1 x.2.2.2.2.2.2.2.1∧P (m) x.2.1.2.2.2.2.2.2.2.2.2.2.2.2.2.1 x.2.2.2.2.2.2.2.2.1∧P (m) x.2.1.2.2.2.2.2.2.2.2.2.2.2.2.2.1 x.2.2.2.2.2.2.2.2.2.1∧P (m) x.2.1.2.2.2.2.2.2.2.2.2.2.2.2.2.1 x.2.2.2.2.2.2.2.2.2.2.1∧P (m) x.2.1.2.2.2.2.2.2.2.2.2.2.2.2.2.1 x.2.2.2.2.2.2.2.2.2.2.2.1∧x.2.2.2.2.2.2.2.2.2.2.2.2.2.1.1<=(N:Int)∧x.2.2.2.2.2.2.2.2.2.2.2.2.2.1.2.2<=N):=
 ba (s:=_) (λd:nx.B=>d.1.1=w.1.1∧d.1.2.2.2.1=w.1.2.2.2.1∧0<=d.1.2.2.2.2∧d.1.2.2.2.2<=40∧((d.2.1.2.2.2.2.1.2:Nat):Int)<=q+d.1.2.2.2.2∧Tq d.2.1.2.2.2.2.2.2.2.2.2.2.2.2.2.1 d.2.2.2.2.1.2.1.1 d.2.2.2.2.1.2.2 d.2.1.2.2.2.2.1.2 (λi=>d.2.2.2.2.2.1.2.1 (d.2.1.2.2.2.2.1.1+i))∧P (m) d.2.1.2.2.2.2.2.2.2.2.2.2.2.2.2.1 d.2.2.2.2.2.2.1∧P (m) d.2.1.2.2.2.2.2.2.2.2.2.2.2.2.2.1 d.2.2.2.2.2.2.2.1∧P (m) d.2.1.2.2.2.2.2.2.2.2.2.2.2.2.2.1 d.2.2.2.2.2.2.2.2.1∧P (m) d.2.1.2.2.2.2.2.2.2.2.2.2.2.2.2.1 d.2.2.2.2.2.2.2.2.2.1∧P (m) d.2.1.2.2.2.2.2.2.2.2.2.2.2.2.2.1 d.2.2.2.2.2.2.2.2.2.2.1∧P (m) d.2.1.2.2.2.2.2.2.2.2.2.2.2.2.2.1 d.2.2.2.2.2.2.2.2.2.2.2.1∧d.2.2.2.2.2.2.2.2.2.2.2.2.2.1.1<=(N:Int)∧d.2.2.2.2.2.2.2.2.2.2.2.2.2.1.2.2<=N) (λd:nx.B=>Int.toNat (40-d.1.2.2.2.2)) (λx:Be=>match x with|.inl x=>x.1.1=w.1.1∧x.1.2.2.2.1=w.1.2.2.2.1∧((x.2.1.2.2.2.2.1.2:Nat):Int)<=q+40∧Tq x.2.1.2.2.2.2.2.2.2.2.2.2.2.2.2.1 x.2.2.2.2.1.2.1.1 x.2.2.2.2.1.2.2 x.2.1.2.2.2.2.1.2 (λi=>x.2.2.2.2.2.1.2.1 (x.2.1.2.2.2.2.1.1+i))∧P (m) x.2.1.2.2.2.2.2.2.2.2.2.2.2.2.2.1 x.2.2.2.2.2.2.1∧P (m) x.2.1.2.2.2.2.2.2.2.2.2.2.2.2.2.1 x.2.2.2.2.2.2.2.1∧P (m) x.2.1.2.2.2.2.2.2.2.2.2.2.2.2.2.1 x.2.2.2.2.2.2.2.2.1∧P (m) x.2.1.2.2.2.2.2.2.2.2.2.2.2.2.2.1 x.2.2.2.2.2.2.2.2.2.1∧P (m) x.2.1.2.2.2.2.2.2.2.2.2.2.2.2.2.1 x.2.2.2.2.2.2.2.2.2.2.1∧P (m) x.2.1.2.2.2.2.2.2.2.2.2.2.2.2.2.1 x.2.2.2.2.2.2.2.2.2.2.2.1∧x.2.2.2.2.2.2.2.2.2.2.2.2.2.1.1<=(N:Int)∧x.2.2.2.2.2.2.2.2.2.2.2.2.2.1.2.2<=N|.inr (.inl x)=>x.1.1=w.1.1∧x.1.2.2.2.1=w.1.2.2.2.1∧((x.2.1.2.2.2.2.1.2:Nat):Int)<=q+40∧Tq x.2.1.2.2.2.2.2.2.2.2.2.2.2.2.2.1 x.2.2.2.2.1.2.1.1 x.2.2.2.2.1.2.2 x.2.1.2.2.2.2.1.2 (λi=>x.2.2.2.2.2.1.2.1 (x.2.1.2.2.2.2.1.1+i))∧P (m) x.2.1.2.2.2.2.2.2.2.2.2.2.2.2.2.1 x.2.2.2.2.2.2.1∧P (m) x.2.1.2.2.2.2.2.2.2.2.2.2.2.2.2.1 x.2.2.2.2.2.2.2.1∧P (m) x.2.1.2.2.2.2.2.2.2.2.2.2.2.2.2.1 x.2.2.2.2.2.2.2.2.1∧P (m) x.2.1.2.2.2.2.2.2.2.2.2.2.2.2.2.1 x.2.2.2.2.2.2.2.2.2.1∧P (m) x.2.1.2.2.2.2.2.2.2.2.2.2.2.2.2.1 x.2.2.2.2.2.2.2.2.2.2.1∧P (m) x.2.1.2.2.2.2.2.2.2.2.2.2.2.2.2.1 x.2.2.2.2.2.2.2.2.2.2.2.1∧x.2.2.2.2.2.2.2.2.2.2.2.2.2.1.1<=(N:Int)∧x.2.2.2.2.2.2.2.2.2.2.2.2.2.1.2.2<=N|.inr (.inr x)=>x.1.1=w.1.1∧x.1.2.2.2.1=w.1.2.2.2.1∧((x.2.1.2.2.2.2.1.2:Nat):Int)<=q+40∧Tq x.2.1.2.2.2.2.2.2.2.2.2.2.2.2.2.1 x.2.2.2.2.1.2.1.1 x.2.2.2.2.1.2.2 x.2.1.2.2.2.2.1.2 (λi=>x.2.2.2.2.2.1.2.1 (x.2.1.2.2.2.2.1.1+i))∧P (m) x.2.1.2.2.2.2.2.2.2.2.2.2.2.2.2.1 x.2.2.2.2.2.2.1∧P (m) x.2.1.2.2.2.2.2.2.2.2.2.2.2.2.2.1 x.2.2.2.2.2.2.2.1∧P (m) x.2.1.2.2.2.2.2.2.2.2.2.2.2.2.2.1 x.2.2.2.2.2.2.2.2.1∧P (m) x.2.1.2.2.2.2.2.2.2.2.2.2.2.2.2.1 x.2.2.2.2.2.2.2.2.2.1∧P (m) x.2.1.2.2.2.2.2.2.2.2.2.2.2.2.2.1 x.2.2.2.2.2.2.2.2.2.2.1∧P (m) x.2.1.2.2.2.2.2.2.2.2.2.2.2.2.2.1 x.2.2.2.2.2.2.2.2.2.2.2.1∧x.2.2.2.2.2.2.2.2.2.2.2.2.2.1.1<=(N:Int)∧x.2.2.2.2.2.2.2.2.2.2.2.2.2.1.2.2<=N) (λd hd=>by
  obtain⟨wa,wi,c0,c1,i0,tq,s0,s1,s2,s3,s4,s5,p0,p1⟩:=hd
  unfold afL
  dsimp only
  have fin:((d.2.1.2.2.2.2.1.2:Nat):Int)<=q+40:=by omega
  rw[aK]
  refine⟨λ_=> ?_,λ_=>by rw[av];exact⟨wa,wi,fin,tq,s0,s1,s2,s3,s4,s5,p0,p1⟩⟩
  rw[aK]
  refine⟨λh=> ?_,λ_=>by rw[av];exact⟨wa,wi,fin,tq,s0,s1,s2,s3,s4,s5,p0,p1⟩⟩
  have h:=of_decide_eq_true h
  rw[aK]
  refine⟨λ_=>by rw[av];exact⟨wa,wi,fin,tq,s0,s1,s2,s3,s4,s5,p0,p1⟩,λ_=> ?_⟩
  rw[aQH,bM]
  simp only[aM,aB]
  have hw:wI (d.1.2.2.2.2+1)=d.1.2.2.2.2+1:=bg (by omega) (by omega)
  with_reducible refine ay (aO2 N h1 hN _ ?_ ?_ ?_ ?_ ?_ ?_ ?_ ?_ ?_ ?_ ?_) λe _ he=> ?_
  ·show d.2.1.2.2.2.2.1.2<=1998
   omega
  ·exact C.len s0
  ·exact C.len s1
  ·exact C.len s2
  ·exact C.len s3
  ·exact C.len s4
  ·exact C.len s5
  ·exact p0
  ·exact p1
  ·exact tq.1
  ·exact tq.2
  obtain⟨e4,eh,et,eq,t0,t1,t2,t3,t4,t5,u0,u1⟩:=he
  have e4:e.2.1.2.2.2.2.1.2<=d.2.1.2.2.2.2.1.2+1:=e4
  have key:((e.2.1.2.2.2.2.1.2:Nat):Int)<=q+(d.1.2.2.2.2+1):=by omega
  have k1:Int.toNat (40-(d.1.2.2.2.2+1))<Int.toNat (40-d.1.2.2.2.2):=by omega
  have u0:e.2.2.2.2.2.2.2.2.2.2.2.2.1.1<=(N:Int):=by rw[u0];exact p0
  rw[hw]
  rw[aK]
  refine⟨λ_=> ?_,λ_=> ?_⟩
  ·rw[av];exact⟨⟨wa,wi,by show 0<=d.1.2.2.2.2+1;omega,by show d.1.2.2.2.2+1<=40;omega,key,⟨eh,eq⟩,C.br s0 et t0,C.br s1 et t1,C.br s2 et t2,C.br s3 et t3,C.br s4 et t4,C.br s5 et t5,u0,u1⟩,k1⟩
  ·rw[av];exact⟨⟨wa,wi,by show 0<=d.1.2.2.2.2+1;omega,by show d.1.2.2.2.2+1<=40;omega,key,⟨eh,eq⟩,C.br s0 et t0,C.br s1 et t1,C.br s2 et t2,C.br s3 et t3,C.br s4 et t4,C.br s5 et t5,u0,u1⟩,k1⟩) 2000 d hd (by omega)
theorem aKZ (N:Nat)(h1:1<=N)(hN:N<=1999){P:Int->Int->Bf->Prop}(C:Clo P)(m:Int)(q:Int)(hq:q+40<=1998)(d:nx.B)(hd:0<=d.1.2.2.2.2∧d.1.2.2.2.2<=40∧((d.2.1.2.2.2.2.1.2:Nat):Int)<=q+d.1.2.2.2.2∧Tq d.2.1.2.2.2.2.2.2.2.2.2.2.2.2.2.1 d.2.2.2.2.1.2.1.1 d.2.2.2.2.1.2.2 d.2.1.2.2.2.2.1.2 (λi=>d.2.2.2.2.2.1.2.1 (d.2.1.2.2.2.2.1.1+i))∧P (m) d.2.1.2.2.2.2.2.2.2.2.2.2.2.2.2.1 d.2.2.2.2.2.2.1∧P (m) d.2.1.2.2.2.2.2.2.2.2.2.2.2.2.2.1 d.2.2.2.2.2.2.2.1∧P (m) d.2.1.2.2.2.2.2.2.2.2.2.2.2.2.2.1 d.2.2.2.2.2.2.2.2.1∧P (m) d.2.1.2.2.2.2.2.2.2.2.2.2.2.2.2.1 d.2.2.2.2.2.2.2.2.2.1∧P (m) d.2.1.2.2.2.2.2.2.2.2.2.2.2.2.2.1 d.2.2.2.2.2.2.2.2.2.2.1∧P (m) d.2.1.2.2.2.2.2.2.2.2.2.2.2.2.2.1 d.2.2.2.2.2.2.2.2.2.2.2.1∧d.2.2.2.2.2.2.2.2.2.2.2.2.2.1.1<=(N:Int)∧d.2.2.2.2.2.2.2.2.2.2.2.2.2.1.2.2<=N):Ok (Te d) (λx:Be=>match x with|.inl x=>x.1.1=d.1.1∧x.1.2.2.2.1=d.1.2.2.2.1∧((x.2.1.2.2.2.2.1.2:Nat):Int)<=q+40∧Tq x.2.1.2.2.2.2.2.2.2.2.2.2.2.2.2.1 x.2.2.2.2.1.2.1.1 x.2.2.2.2.1.2.2 x.2.1.2.2.2.2.1.2 (λi=>x.2.2.2.2.2.1.2.1 (x.2.1.2.2.2.2.1.1+i))∧P (m) x.2.1.2.2.2.2.2.2.2.2.2.2.2.2.2.1 x.2.2.2.2.2.2.1∧P (m) x.2.1.2.2.2.2.2.2.2.2.2.2.2.2.2.1 x.2.2.2.2.2.2.2.1∧P (m) x.2.1.2.2.2.2.2.2.2.2.2.2.2.2.2.1 x.2.2.2.2.2.2.2.2.1∧P (m) x.2.1.2.2.2.2.2.2.2.2.2.2.2.2.2.1 x.2.2.2.2.2.2.2.2.2.1∧P (m) x.2.1.2.2.2.2.2.2.2.2.2.2.2.2.2.1 x.2.2.2.2.2.2.2.2.2.2.1∧P (m) x.2.1.2.2.2.2.2.2.2.2.2.2.2.2.2.1 x.2.2.2.2.2.2.2.2.2.2.2.1∧x.2.2.2.2.2.2.2.2.2.2.2.2.2.1.1<=(N:Int)∧x.2.2.2.2.2.2.2.2.2.2.2.2.2.1.2.2<=N|.inr (.inl x)=>x.1.1=d.1.1∧x.1.2.2.2.1=d.1.2.2.2.1∧((x.2.1.2.2.2.2.1.2:Nat):Int)<=q+40∧Tq x.2.1.2.2.2.2.2.2.2.2.2.2.2.2.2.1 x.2.2.2.2.1.2.1.1 x.2.2.2.2.1.2.2 x.2.1.2.2.2.2.1.2 (λi=>x.2.2.2.2.2.1.2.1 (x.2.1.2.2.2.2.1.1+i))∧P (m) x.2.1.2.2.2.2.2.2.2.2.2.2.2.2.2.1 x.2.2.2.2.2.2.1∧P (m) x.2.1.2.2.2.2.2.2.2.2.2.2.2.2.2.1 x.2.2.2.2.2.2.2.1∧P (m) x.2.1.2.2.2.2.2.2.2.2.2.2.2.2.2.1 x.2.2.2.2.2.2.2.2.1∧P (m) x.2.1.2.2.2.2.2.2.2.2.2.2.2.2.2.1 x.2.2.2.2.2.2.2.2.2.1∧P (m) x.2.1.2.2.2.2.2.2.2.2.2.2.2.2.2.1 x.2.2.2.2.2.2.2.2.2.2.1∧P (m) x.2.1.2.2.2.2.2.2.2.2.2.2.2.2.2.1 x.2.2.2.2.2.2.2.2.2.2.2.1∧x.2.2.2.2.2.2.2.2.2.2.2.2.2.1.1<=(N:Int)∧x.2.2.2.2.2.2.2.2.2.2.2.2.2.1.2.2<=N|.inr (.inr x)=>x.1.1=d.1.1∧x.1.2.2.2.1=d.1.2.2.2.1∧((x.2.1.2.2.2.2.1.2:Nat):Int)<=q+40∧Tq x.2.1.2.2.2.2.2.2.2.2.2.2.2.2.2.1 x.2.2.2.2.1.2.1.1 x.2.2.2.2.1.2.2 x.2.1.2.2.2.2.1.2 (λi=>x.2.2.2.2.2.1.2.1 (x.2.1.2.2.2.2.1.1+i))∧P (m) x.2.1.2.2.2.2.2.2.2.2.2.2.2.2.2.1 x.2.2.2.2.2.2.1∧P (m) x.2.1.2.2.2.2.2.2.2.2.2.2.2.2.2.1 x.2.2.2.2.2.2.2.1∧P (m) x.2.1.2.2.2.2.2.2.2.2.2.2.2.2.2.1 x.2.2.2.2.2.2.2.2.1∧P (m) x.2.1.2.2.2.2.2.2.2.2.2.2.2.2.2.1 x.2.2.2.2.2.2.2.2.2.1∧P (m) x.2.1.2.2.2.2.2.2.2.2.2.2.2.2.2.1 x.2.2.2.2.2.2.2.2.2.2.1∧P (m) x.2.1.2.2.2.2.2.2.2.2.2.2.2.2.2.1 x.2.2.2.2.2.2.2.2.2.2.2.1∧x.2.2.2.2.2.2.2.2.2.2.2.2.2.1.1<=(N:Int)∧x.2.2.2.2.2.2.2.2.2.2.2.2.2.1.2.2<=N):=aNY N h1 hN C m q hq d d ⟨rfl,rfl,hd⟩
theorem aNZ (N:Nat)(h1:1<=N)(hN:N<=1999){P:Int->Int->Bf->Prop}(C:Clo P)(q K:Nat)(hK:K<=30)(hq:q+40*K<=1998)(d:pW.B)(hd:0<=d.1.2.2.2∧d.1.2.2.2<=K∧((d.2.1.2.2.2.2.1.2:Nat):Int)<=q+40*d.1.2.2.2∧(d.1.1.1<=K∨30<=K)∧Tq d.2.1.2.2.2.2.2.2.2.2.2.2.2.2.2.1 d.2.2.2.1.2.1.1 d.2.2.2.1.2.2 d.2.1.2.2.2.2.1.2 (λi=>d.2.2.2.2.1.2.1 (d.2.1.2.2.2.2.1.1+i))∧P (d.1.2.2.2) d.2.1.2.2.2.2.2.2.2.2.2.2.2.2.2.1 d.2.2.2.2.2.1∧P (d.1.2.2.2) d.2.1.2.2.2.2.2.2.2.2.2.2.2.2.2.1 d.2.2.2.2.2.2.1∧P (d.1.2.2.2) d.2.1.2.2.2.2.2.2.2.2.2.2.2.2.2.1 d.2.2.2.2.2.2.2.1∧P (d.1.2.2.2) d.2.1.2.2.2.2.2.2.2.2.2.2.2.2.2.1 d.2.2.2.2.2.2.2.2.1∧P (d.1.2.2.2) d.2.1.2.2.2.2.2.2.2.2.2.2.2.2.2.1 d.2.2.2.2.2.2.2.2.2.1∧P (d.1.2.2.2) d.2.1.2.2.2.2.2.2.2.2.2.2.2.2.2.1 d.2.2.2.2.2.2.2.2.2.2.1∧d.2.2.2.2.2.2.2.2.2.2.2.2.1.1<=(N:Int)∧d.2.2.2.2.2.2.2.2.2.2.2.2.1.2.2<=N):Ok (afN d) (λx:E6=>match x with|.inl x=>((x.2.1.2.2.2.2.1.2:Nat):Int)<=q+40*K∧Tq x.2.1.2.2.2.2.2.2.2.2.2.2.2.2.2.1 x.2.2.2.1.2.1.1 x.2.2.2.1.2.2 x.2.1.2.2.2.2.1.2 (λi=>x.2.2.2.2.1.2.1 (x.2.1.2.2.2.2.1.1+i))∧(∃m:Int,0<=m∧m<=K∧P (m) x.2.1.2.2.2.2.2.2.2.2.2.2.2.2.2.1 x.2.2.2.2.2.1∧P (m) x.2.1.2.2.2.2.2.2.2.2.2.2.2.2.2.1 x.2.2.2.2.2.2.1∧P (m) x.2.1.2.2.2.2.2.2.2.2.2.2.2.2.2.1 x.2.2.2.2.2.2.2.1∧P (m) x.2.1.2.2.2.2.2.2.2.2.2.2.2.2.2.1 x.2.2.2.2.2.2.2.2.1∧P (m) x.2.1.2.2.2.2.2.2.2.2.2.2.2.2.2.1 x.2.2.2.2.2.2.2.2.2.1∧P (m) x.2.1.2.2.2.2.2.2.2.2.2.2.2.2.2.1 x.2.2.2.2.2.2.2.2.2.2.1)∧x.2.2.2.2.2.2.2.2.2.2.2.2.1.1<=(N:Int)∧x.2.2.2.2.2.2.2.2.2.2.2.2.1.2.2<=N|.inr (.inl x)=>((x.2.1.2.2.2.2.1.2:Nat):Int)<=q+40*K∧Tq x.2.1.2.2.2.2.2.2.2.2.2.2.2.2.2.1 x.2.2.2.1.2.1.1 x.2.2.2.1.2.2 x.2.1.2.2.2.2.1.2 (λi=>x.2.2.2.2.1.2.1 (x.2.1.2.2.2.2.1.1+i))∧(∃m:Int,0<=m∧m<=K∧P (m) x.2.1.2.2.2.2.2.2.2.2.2.2.2.2.2.1 x.2.2.2.2.2.1∧P (m) x.2.1.2.2.2.2.2.2.2.2.2.2.2.2.2.1 x.2.2.2.2.2.2.1∧P (m) x.2.1.2.2.2.2.2.2.2.2.2.2.2.2.2.1 x.2.2.2.2.2.2.2.1∧P (m) x.2.1.2.2.2.2.2.2.2.2.2.2.2.2.2.1 x.2.2.2.2.2.2.2.2.1∧P (m) x.2.1.2.2.2.2.2.2.2.2.2.2.2.2.2.1 x.2.2.2.2.2.2.2.2.2.1∧P (m) x.2.1.2.2.2.2.2.2.2.2.2.2.2.2.2.1 x.2.2.2.2.2.2.2.2.2.2.1)∧x.2.2.2.2.2.2.2.2.2.2.2.2.1.1<=(N:Int)∧x.2.2.2.2.2.2.2.2.2.2.2.2.1.2.2<=N|.inr (.inr x)=>((x.2.1.2.2.2.2.1.2:Nat):Int)<=q+40*K∧Tq x.2.1.2.2.2.2.2.2.2.2.2.2.2.2.2.1 x.2.2.2.1.2.1.1 x.2.2.2.1.2.2 x.2.1.2.2.2.2.1.2 (λi=>x.2.2.2.2.1.2.1 (x.2.1.2.2.2.2.1.1+i))∧(∃m:Int,0<=m∧m<=K∧P (m) x.2.1.2.2.2.2.2.2.2.2.2.2.2.2.2.1 x.2.2.2.2.2.1∧P (m) x.2.1.2.2.2.2.2.2.2.2.2.2.2.2.2.1 x.2.2.2.2.2.2.1∧P (m) x.2.1.2.2.2.2.2.2.2.2.2.2.2.2.2.1 x.2.2.2.2.2.2.2.1∧P (m) x.2.1.2.2.2.2.2.2.2.2.2.2.2.2.2.1 x.2.2.2.2.2.2.2.2.1∧P (m) x.2.1.2.2.2.2.2.2.2.2.2.2.2.2.2.1 x.2.2.2.2.2.2.2.2.2.1∧P (m) x.2.1.2.2.2.2.2.2.2.2.2.2.2.2.2.1 x.2.2.2.2.2.2.2.2.2.2.1)∧x.2.2.2.2.2.2.2.2.2.2.2.2.1.1<=(N:Int)∧x.2.2.2.2.2.2.2.2.2.2.2.2.1.2.2<=N):=
 ba (s:=_) (λd:pW.B=>0<=d.1.2.2.2∧d.1.2.2.2<=K∧((d.2.1.2.2.2.2.1.2:Nat):Int)<=q+40*d.1.2.2.2∧(d.1.1.1<=K∨30<=K)∧Tq d.2.1.2.2.2.2.2.2.2.2.2.2.2.2.2.1 d.2.2.2.1.2.1.1 d.2.2.2.1.2.2 d.2.1.2.2.2.2.1.2 (λi=>d.2.2.2.2.1.2.1 (d.2.1.2.2.2.2.1.1+i))∧P (d.1.2.2.2) d.2.1.2.2.2.2.2.2.2.2.2.2.2.2.2.1 d.2.2.2.2.2.1∧P (d.1.2.2.2) d.2.1.2.2.2.2.2.2.2.2.2.2.2.2.2.1 d.2.2.2.2.2.2.1∧P (d.1.2.2.2) d.2.1.2.2.2.2.2.2.2.2.2.2.2.2.2.1 d.2.2.2.2.2.2.2.1∧P (d.1.2.2.2) d.2.1.2.2.2.2.2.2.2.2.2.2.2.2.2.1 d.2.2.2.2.2.2.2.2.1∧P (d.1.2.2.2) d.2.1.2.2.2.2.2.2.2.2.2.2.2.2.2.1 d.2.2.2.2.2.2.2.2.2.1∧P (d.1.2.2.2) d.2.1.2.2.2.2.2.2.2.2.2.2.2.2.2.1 d.2.2.2.2.2.2.2.2.2.2.1∧d.2.2.2.2.2.2.2.2.2.2.2.2.1.1<=(N:Int)∧d.2.2.2.2.2.2.2.2.2.2.2.2.1.2.2<=N) (λd:pW.B=>Int.toNat (30-d.1.2.2.2)) (λx:E6=>match x with|.inl x=>((x.2.1.2.2.2.2.1.2:Nat):Int)<=q+40*K∧Tq x.2.1.2.2.2.2.2.2.2.2.2.2.2.2.2.1 x.2.2.2.1.2.1.1 x.2.2.2.1.2.2 x.2.1.2.2.2.2.1.2 (λi=>x.2.2.2.2.1.2.1 (x.2.1.2.2.2.2.1.1+i))∧(∃m:Int,0<=m∧m<=K∧P (m) x.2.1.2.2.2.2.2.2.2.2.2.2.2.2.2.1 x.2.2.2.2.2.1∧P (m) x.2.1.2.2.2.2.2.2.2.2.2.2.2.2.2.1 x.2.2.2.2.2.2.1∧P (m) x.2.1.2.2.2.2.2.2.2.2.2.2.2.2.2.1 x.2.2.2.2.2.2.2.1∧P (m) x.2.1.2.2.2.2.2.2.2.2.2.2.2.2.2.1 x.2.2.2.2.2.2.2.2.1∧P (m) x.2.1.2.2.2.2.2.2.2.2.2.2.2.2.2.1 x.2.2.2.2.2.2.2.2.2.1∧P (m) x.2.1.2.2.2.2.2.2.2.2.2.2.2.2.2.1 x.2.2.2.2.2.2.2.2.2.2.1)∧x.2.2.2.2.2.2.2.2.2.2.2.2.1.1<=(N:Int)∧x.2.2.2.2.2.2.2.2.2.2.2.2.1.2.2<=N|.inr (.inl x)=>((x.2.1.2.2.2.2.1.2:Nat):Int)<=q+40*K∧Tq x.2.1.2.2.2.2.2.2.2.2.2.2.2.2.2.1 x.2.2.2.1.2.1.1 x.2.2.2.1.2.2 x.2.1.2.2.2.2.1.2 (λi=>x.2.2.2.2.1.2.1 (x.2.1.2.2.2.2.1.1+i))∧(∃m:Int,0<=m∧m<=K∧P (m) x.2.1.2.2.2.2.2.2.2.2.2.2.2.2.2.1 x.2.2.2.2.2.1∧P (m) x.2.1.2.2.2.2.2.2.2.2.2.2.2.2.2.1 x.2.2.2.2.2.2.1∧P (m) x.2.1.2.2.2.2.2.2.2.2.2.2.2.2.2.1 x.2.2.2.2.2.2.2.1∧P (m) x.2.1.2.2.2.2.2.2.2.2.2.2.2.2.2.1 x.2.2.2.2.2.2.2.2.1∧P (m) x.2.1.2.2.2.2.2.2.2.2.2.2.2.2.2.1 x.2.2.2.2.2.2.2.2.2.1∧P (m) x.2.1.2.2.2.2.2.2.2.2.2.2.2.2.2.1 x.2.2.2.2.2.2.2.2.2.2.1)∧x.2.2.2.2.2.2.2.2.2.2.2.2.1.1<=(N:Int)∧x.2.2.2.2.2.2.2.2.2.2.2.2.1.2.2<=N|.inr (.inr x)=>((x.2.1.2.2.2.2.1.2:Nat):Int)<=q+40*K∧Tq x.2.1.2.2.2.2.2.2.2.2.2.2.2.2.2.1 x.2.2.2.1.2.1.1 x.2.2.2.1.2.2 x.2.1.2.2.2.2.1.2 (λi=>x.2.2.2.2.1.2.1 (x.2.1.2.2.2.2.1.1+i))∧(∃m:Int,0<=m∧m<=K∧P (m) x.2.1.2.2.2.2.2.2.2.2.2.2.2.2.2.1 x.2.2.2.2.2.1∧P (m) x.2.1.2.2.2.2.2.2.2.2.2.2.2.2.2.1 x.2.2.2.2.2.2.1∧P (m) x.2.1.2.2.2.2.2.2.2.2.2.2.2.2.2.1 x.2.2.2.2.2.2.2.1∧P (m) x.2.1.2.2.2.2.2.2.2.2.2.2.2.2.2.1 x.2.2.2.2.2.2.2.2.1∧P (m) x.2.1.2.2.2.2.2.2.2.2.2.2.2.2.2.1 x.2.2.2.2.2.2.2.2.2.1∧P (m) x.2.1.2.2.2.2.2.2.2.2.2.2.2.2.2.1 x.2.2.2.2.2.2.2.2.2.2.1)∧x.2.2.2.2.2.2.2.2.2.2.2.2.1.1<=(N:Int)∧x.2.2.2.2.2.2.2.2.2.2.2.2.1.2.2<=N) (λd hd=>by
  obtain⟨c0,c1,i0,n0,tq,s0,s1,s2,s3,s4,s5,p0,p1⟩:=hd
  unfold afM
  dsimp only
  have fin:((d.2.1.2.2.2.2.1.2:Nat):Int)<=q+40*K:=by omega
  rw[aK]
  refine⟨λh5=> ?_,λ_=>by rw[av];exact⟨fin,tq,⟨_,c0,c1,s0,s1,s2,s3,s4,s5⟩,p0,p1⟩⟩
  have h5:=of_decide_eq_true h5
  rw[Int.ofNat_eq_natCast] at h5
  rw[aK]
  refine⟨λh4=> ?_,λ_=>by rw[av];exact⟨fin,tq,⟨_,c0,c1,s0,s1,s2,s3,s4,s5⟩,p0,p1⟩⟩
  have h4:=of_decide_eq_true h4
  rw[aK]
  refine⟨λ_=> ?_,λ_=>by rw[av];exact⟨fin,tq,⟨_,c0,c1,s0,s1,s2,s3,s4,s5⟩,p0,p1⟩⟩
  have r0:aX d.1.2.2.2 d.1.1.1=true:=by rw[bk];omega
  have hw:wI (d.1.2.2.2+1)=d.1.2.2.2+1:=bg (by omega) (by omega)
  have k1:Int.toNat (30-(d.1.2.2.2+1))<Int.toNat (30-d.1.2.2.2):=by omega
  have cK:d.1.2.2.2+1<=K:=by omega
  have c2:0<=d.1.2.2.2+1:=by omega
  simp only[aM,r0,aB]
  rw[aK]
  refine⟨λ_=> ?_,λ_=> ?_⟩
  ·simp only[aB]
   with_reducible refine ay (aNS _ ?_ ?_ ?_ ?_ ?_ ?_) λe _ he=> ?_
   ·exact Nat.le_trans (C.len s0) (by decide)
   ·exact Nat.le_trans (C.len s1) (by decide)
   ·exact Nat.le_trans (C.len s2) (by decide)
   ·exact Nat.le_trans (C.len s3) (by decide)
   ·exact Nat.le_trans (C.len s4) (by decide)
   ·exact Nat.le_trans (C.len s5) (by decide)
   obtain⟨f1,f2,f3,f4,f11,f12,f13,f20,CH⟩:=he
   have c3:d.1.2.2.2<=1000:=by omega
   have all:P (d.1.2.2.2+1) e.2.1.2.2.2.2.2.2.2.2.2.2.2.2.2.1 e.2.2.2.2.2.1∧P (d.1.2.2.2+1) e.2.1.2.2.2.2.2.2.2.2.2.2.2.2.2.1 e.2.2.2.2.2.2.1∧P (d.1.2.2.2+1) e.2.1.2.2.2.2.2.2.2.2.2.2.2.2.2.1 e.2.2.2.2.2.2.2.1∧P (d.1.2.2.2+1) e.2.1.2.2.2.2.2.2.2.2.2.2.2.2.2.1 e.2.2.2.2.2.2.2.2.1∧P (d.1.2.2.2+1) e.2.1.2.2.2.2.2.2.2.2.2.2.2.2.2.1 e.2.2.2.2.2.2.2.2.2.1∧P (d.1.2.2.2+1) e.2.1.2.2.2.2.2.2.2.2.2.2.2.2.2.1 e.2.2.2.2.2.2.2.2.2.2.1:=by
    rcases CH with⟨_,v0,v1,v2,v3,v4,v5⟩| ⟨_,v0,v1,v2,v3,v4,v5⟩| ⟨_,v0,v1,v2,v3,v4,v5⟩| ⟨_,v0,v1,v2,v3,v4,v5⟩| ⟨_,v0,v1,v2,v3,v4,v5⟩| ⟨_,v0,v1,v2,v3,v4,v5⟩| ⟨_,v0,v1,v2,v3,v4,v5⟩
    ·exact⟨by rw[v0,f1];exact C.up s0,by rw[v1,f1];exact C.up s1,by rw[v2,f1];exact C.up s2,by rw[v3,f1];exact C.up s3,by rw[v4,f1];exact C.up s4,by rw[v5,f1];exact C.up s5⟩
    ·exact⟨by rw[f1];exact C.pr c0 c3 s0 v0,by rw[v1,f1];exact C.up s1,by rw[v2,f1];exact C.up s2,by rw[v3,f1];exact C.up s3,by rw[v4,f1];exact C.up s4,by rw[v5,f1];exact C.up s5⟩
    ·exact⟨by rw[v0,f1];exact C.up s0,by rw[f1];exact C.pr c0 c3 s1 v1,by rw[v2,f1];exact C.up s2,by rw[v3,f1];exact C.up s3,by rw[v4,f1];exact C.up s4,by rw[v5,f1];exact C.up s5⟩
    ·exact⟨by rw[v0,f1];exact C.up s0,by rw[v1,f1];exact C.up s1,by rw[f1];exact C.pr c0 c3 s2 v2,by rw[v3,f1];exact C.up s3,by rw[v4,f1];exact C.up s4,by rw[v5,f1];exact C.up s5⟩
    ·exact⟨by rw[v0,f1];exact C.up s0,by rw[v1,f1];exact C.up s1,by rw[v2,f1];exact C.up s2,by rw[f1];exact C.pr c0 c3 s3 v3,by rw[v4,f1];exact C.up s4,by rw[v5,f1];exact C.up s5⟩
    ·exact⟨by rw[v0,f1];exact C.up s0,by rw[v1,f1];exact C.up s1,by rw[v2,f1];exact C.up s2,by rw[v3,f1];exact C.up s3,by rw[f1];exact C.pr c0 c3 s4 v4,by rw[v5,f1];exact C.up s5⟩
    ·exact⟨by rw[v0,f1];exact C.up s0,by rw[v1,f1];exact C.up s1,by rw[v2,f1];exact C.up s2,by rw[v3,f1];exact C.up s3,by rw[v4,f1];exact C.up s4,by rw[f1];exact C.pr c0 c3 s5 v5⟩
   obtain⟨w0,w1,w2,w3,w4,w5⟩:=all
   have f4':e.2.1.2.2.2.2.1=d.2.1.2.2.2.2.1.2:=by rw[f1]
   rw[hw,av]
   refine⟨⟨c2,cK,?_,n0,?_,w0,w1,w2,w3,w4,w5,?_,?_⟩,k1⟩
   ·show((e.2.1.2.2.2.2.1:Nat):Int)<=q+40*(d.1.2.2.2+1)
    omega
   ·show Tq e.2.1.2.2.2.2.2.2.2.2.2.2.2.2.2.1 e.2.2.2.1.2.1.1 e.2.2.2.1.2.2 e.2.1.2.2.2.2.1 (λi=>e.2.2.2.2.1.1 (0+i))
    rw[f1,f3,f4]
    exact⟨tq.1,tq.2.up (Int.le_refl _) (λi=>by first|(rw[Nat.zero_add];done)|(rw[Nat.zero_add];rfl))⟩
   ·show e.2.2.2.2.2.2.2.2.2.2.2.2.1.1<=(N:Int)
    rw[f12];exact p0
   ·show e.2.2.2.2.2.2.2.2.2.2.2.2.1.2.2<=N
    rw[f12];exact p1
  rw[aK]
  refine⟨λ_=> ?_,λ_=> ?_⟩
  ·simp only[aB]
   with_reducible refine ay (aO2 N h1 hN _ ?_ ?_ ?_ ?_ ?_ ?_ ?_ ?_ ?_ ?_ ?_) λe _ he=> ?_
   ·show d.2.1.2.2.2.2.1.2<=1998
    omega
   ·exact C.len s0
   ·exact C.len s1
   ·exact C.len s2
   ·exact C.len s3
   ·exact C.len s4
   ·exact C.len s5
   ·exact p0
   ·exact p1
   ·exact tq.1
   ·exact tq.2
   obtain⟨e4,eh,et,eq,t0,t1,t2,t3,t4,t5,u0,u1⟩:=he
   have e4:e.2.1.2.2.2.2.1.2<=d.2.1.2.2.2.2.1.2+1:=e4
   have key:((e.2.1.2.2.2.2.1.2:Nat):Int)<=q+40*(d.1.2.2.2+1):=by omega
   have u0:e.2.2.2.2.2.2.2.2.2.2.2.2.1.1<=(N:Int):=by rw[u0];exact p0
   rw[hw]
   rw[aK]
   refine⟨λ_=> ?_,λ_=> ?_⟩
   ·rw[av];exact⟨⟨c2,cK,key,n0,⟨eh,eq⟩,C.up (C.br s0 et t0),C.up (C.br s1 et t1),C.up (C.br s2 et t2),C.up (C.br s3 et t3),C.up (C.br s4 et t4),C.up (C.br s5 et t5),u0,u1⟩,k1⟩
   ·rw[av];exact⟨⟨c2,cK,key,n0,⟨eh,eq⟩,C.up (C.br s0 et t0),C.up (C.br s1 et t1),C.up (C.br s2 et t2),C.up (C.br s3 et t3),C.up (C.br s4 et t4),C.up (C.br s5 et t5),u0,u1⟩,k1⟩
  ·with_reducible refine ay (aKZ N h1 hN C d.1.2.2.2 (q+40*d.1.2.2.2) ?_ _ ⟨?_,?_,?_,tq,s0,s1,s2,s3,s4,s5,p0,p1⟩) λx _ hx=> ?_
   ·omega
   ·show(0:Int)<=0
    omega
   ·show(0:Int)<=40
    omega
   ·show((d.2.1.2.2.2.2.1.2:Nat):Int)<=q+40*d.1.2.2.2+0
    omega
   have stp:∀a:Nat,((a:Nat):Int)<=q+40*d.1.2.2.2+40->((a:Nat):Int)<=q+40*(d.1.2.2.2+1):=λa ha=>by omega
   rw[r9]
   refine⟨λa ha=> ?_,λa ha=> ?_⟩
   ·rw[ha] at hx;obtain⟨wa,wi,e4,tq',t0,t1,t2,t3,t4,t5,u0,u1⟩:=hx
    have wi:a.1.2.2.2.1=d.1.2.2.2:=wi
    have wa:a.1.1=d.1.1:=wa
    rw[av]
    rw[wi,hw]
    exact⟨⟨c2,cK,stp _ e4,by rw[wa];exact n0,tq',C.up t0,C.up t1,C.up t2,C.up t3,C.up t4,C.up t5,u0,u1⟩,k1⟩
   rw[r9]
   refine⟨λb hb=> ?_,λb hb=> ?_⟩
   ·rw[ha,hb] at hx;obtain⟨wa,wi,e4,tq',t0,t1,t2,t3,t4,t5,u0,u1⟩:=hx
    have wi:b.1.2.2.2.1=d.1.2.2.2:=wi
    have wa:b.1.1=d.1.1:=wa
    rw[av]
    rw[wi,hw]
    exact⟨⟨c2,cK,stp _ e4,by rw[wa];exact n0,tq',C.up t0,C.up t1,C.up t2,C.up t3,C.up t4,C.up t5,u0,u1⟩,k1⟩
   ·rw[ha,hb] at hx;obtain⟨wa,wi,e4,tq',t0,t1,t2,t3,t4,t5,u0,u1⟩:=hx
    have wi:b.1.2.2.2.1=d.1.2.2.2:=wi
    have wa:b.1.1=d.1.1:=wa
    rw[av]
    rw[wi,hw]
    exact⟨⟨c2,cK,stp _ e4,by rw[wa];exact n0,tq',C.up t0,C.up t1,C.up t2,C.up t3,C.up t4,C.up t5,u0,u1⟩,k1⟩) 2000 d hd (by omega)
end Go.Proofs.YtldgljclcgaibaaGreat
namespace Go.Proofs.YtldgljclcgaibaaGreat
open Go.Ab Go.Ab.Pg
theorem aUs (N:Nat)(h1:1<=N)(hN:N<=1999){P:Int->Int->Bf->Prop}(C:Clo P)(K:Nat)(hK:K<=30)(x:WW.B)(hq:x.2.1.2.2.2.2.1+40*K<=1998)(hn:x.1.1<=K∨30<=K)(tq:Tq x.2.1.2.2.2.2.2.2.2.2.2.2.2.2.2.1 x.2.2.2.1.2.1.1 x.2.2.2.1.2.2 x.2.1.2.2.2.2.1 x.2.2.2.2.1.1)(s0:P 0 x.2.1.2.2.2.2.2.2.2.2.2.2.2.2.2.1 x.2.2.2.2.2.1)(s1:P 0 x.2.1.2.2.2.2.2.2.2.2.2.2.2.2.2.1 x.2.2.2.2.2.2.1)(s2:P 0 x.2.1.2.2.2.2.2.2.2.2.2.2.2.2.2.1 x.2.2.2.2.2.2.2.1)(s3:P 0 x.2.1.2.2.2.2.2.2.2.2.2.2.2.2.2.1 x.2.2.2.2.2.2.2.2.1)(s4:P 0 x.2.1.2.2.2.2.2.2.2.2.2.2.2.2.2.1 x.2.2.2.2.2.2.2.2.2.1)(s5:P 0 x.2.1.2.2.2.2.2.2.2.2.2.2.2.2.2.1 x.2.2.2.2.2.2.2.2.2.2.1)(p0:x.2.2.2.2.2.2.2.2.2.2.2.2.1.1<=(N:Int))(p1:x.2.2.2.2.2.2.2.2.2.2.2.2.1.2.2<=N):
  Ok (WX x) (λe:arb=>((e.2.1.2.2.2.2.1.2:Nat):Int)<=x.2.1.2.2.2.2.1+40*K∧Tq e.2.1.2.2.2.2.2.2.2.2.2.2.2.2.2.1 e.2.2.2.1.2.1.1 e.2.2.2.1.2.2 e.2.1.2.2.2.2.1.2 (λi=>e.2.2.2.2.1.2.1 (e.2.1.2.2.2.2.1.1+i))∧(∃m:Int,0<=m∧m<=K∧P (m) e.2.1.2.2.2.2.2.2.2.2.2.2.2.2.2.1 e.2.2.2.2.2.1∧P (m) e.2.1.2.2.2.2.2.2.2.2.2.2.2.2.2.1 e.2.2.2.2.2.2.1∧P (m) e.2.1.2.2.2.2.2.2.2.2.2.2.2.2.2.1 e.2.2.2.2.2.2.2.1∧P (m) e.2.1.2.2.2.2.2.2.2.2.2.2.2.2.2.1 e.2.2.2.2.2.2.2.2.1∧P (m) e.2.1.2.2.2.2.2.2.2.2.2.2.2.2.2.1 e.2.2.2.2.2.2.2.2.2.1∧P (m) e.2.1.2.2.2.2.2.2.2.2.2.2.2.2.2.1 e.2.2.2.2.2.2.2.2.2.2.1)∧e.2.2.2.2.2.2.2.2.2.2.2.2.1.1<=(N:Int)∧e.2.2.2.2.2.2.2.2.2.2.2.2.1.2.2<=N):=by
 unfold WX arc
 try dsimp only
 show PQ _ _
 simp only[aM,aB]
 rw[bu]
 intro d _
 try rw[aB]
 with_reducible refine ay (aNZ N h1 hN C x.2.1.2.2.2.2.1 K hK hq _ ⟨?_,?_,?_,hn,?_,s0,s1,s2,s3,s4,s5,p0,p1⟩) λy _ hy=> ?_
 ·show(0:Int)<=0
  omega
 ·show(0:Int)<=K
  omega
 ·show((x.2.1.2.2.2.2.1:Nat):Int)<=x.2.1.2.2.2.2.1+40*0
  omega
 ·exact⟨tq.1,tq.2.up (Int.le_refl _) (λi=>by first|rfl|(show x.2.2.2.2.1.1 (0+i)=_;rw[Nat.zero_add])|(show x.2.2.2.2.1.1 (0+(0+i))=_;rw[Nat.zero_add,Nat.zero_add]))⟩
 rw[r9]
 refine⟨λa ha=> ?_,λa ha=> ?_⟩
 ·rw[ha] at hy;rw[av];exact hy
 rw[r9]
 refine⟨λb hb=> ?_,λb hb=> ?_⟩
 ·rw[ha,hb] at hy;rw[av];exact hy
 ·rw[ha,hb] at hy;rw[av];exact hy
def Pw (B:Int)(_:Int)(T:Int)(b:Bf):Prop:=b.2.1=B∧((b.2.2.1:Nat):Int)<=B∧b.2.2.2<=T
theorem Pw.clo {B:Int}(hB:B<=64):Clo (Pw B) where
 len:=λh=>by have:=h.2.1;omega
 br:=λh t k=>⟨k.2.1.trans h.1,by have:=h.2.1;have:=k.len;omega,k.1 _ (Int.le_refl _) (Int.le_trans h.2.2 t)⟩
 pr:=λ_ _ h k=>by
  obtain⟨a,b,c⟩:=h
  rcases k with k|k
  ·obtain⟨k1,_,_,_,k5,k6⟩:=k
   refine⟨k1.trans a,?_,by rw[k5];exact c⟩
   rcases k6 with k6|k6|k6
   ·rw[k6.2.2];exact b
   ·rw[<-a];exact k6.2.2.2
   ·rw[k6.2.2];exact b
  ·have e:=k.1
   exact⟨by rw[e];exact a,by rw[e];exact b,by rw[e];exact c⟩
 up:=λh=>h
end Go.Proofs.YtldgljclcgaibaaGreat
namespace Go.Proofs.YtldgljclcgaibaaGreat
open Go.Ab Go.Ab.Pg
def WR (k:Bool)(b c:Bf):Prop:=c.1.1=wI (b.1.1+1)∧((k=true∧c.2.2.1=b.2.2.1+1∧c.1.2.2.2.1=b.1.2.2.2.1)∨(k=false∧c.2.2.1=b.2.2.1∧c.1.2.2.2.1=wI (b.1.2.2.2.1+1)))
theorem aQI (x:pe.B)(h:x.2.1.2.2.1<=1000)(hh:x.2.1.2.2.2<x.1.1)(hl:((x.2.1.2.2.1:Nat):Int)<x.2.1.2.1):Ok (mD x) (λr:um=>match r with
  |.inl _=>False
  |.inr e=>WR e.1 x.2.1 e.2.1):=by
 unfold mD AH
 try dsimp only
 show PQ _ _
 rw[aK]
 refine⟨λc=>by have c:=of_decide_eq_true c;omega,λ_=> ?_⟩
 rw[aM,bB]
 refine⟨rfl,ay (aC1 (((x.2.1.2.2.1,true),x.1),x.2.2) (by show x.2.1.2.2.1<=1999;omega)) λd _ hd=> ?_⟩
 rw[bB]
 refine⟨rfl,ay (ayw x.2.1.2.2.1 d.1 hd.1 hd.2 (by omega) _ _ _ _ _ _ _ _ _ _ _ _ _ _ _ _ _ _ _) λd2 _ h2=> ?_⟩
 rw[aK]
 refine⟨λc=> ?_,λc=> ?_⟩
 ·rw[av]
  exact⟨rfl,.inl ⟨rfl,h2,rfl⟩⟩
 ·have c:=of_decide_eq_false c
  rw[h2,Int.ofNat_eq_natCast] at c
  omega
theorem aIm (x:js.B):Ok (fy x) (λr:uP=>WR false x.1 r):=by
 unfold fy oP
 show PQ _ _
 rw[av]
 exact⟨rfl,.inr ⟨rfl,rfl,rfl⟩⟩
theorem aIn (x:kW.B)(k0:0<=x.1.1)(k5:x.1.1<=5)(l5:x.2.2.2.2.2.1.2.2.1<=1000)(m5:x.2.2.2.2.2.1.2.2.2<x.1.2.1)(n5:x.1.1=0->((x.2.2.2.2.2.1.2.2.1:Nat):Int)<x.2.2.2.2.2.1.2.1)(l6:x.2.2.2.2.2.2.1.2.2.1<=1000)(m6:x.2.2.2.2.2.2.1.2.2.2<x.1.2.1)(n6:x.1.1=1->((x.2.2.2.2.2.2.1.2.2.1:Nat):Int)<x.2.2.2.2.2.2.1.2.1)(l7:x.2.2.2.2.2.2.2.1.2.2.1<=1000)(m7:x.2.2.2.2.2.2.2.1.2.2.2<x.1.2.1)(n7:x.1.1=2->((x.2.2.2.2.2.2.2.1.2.2.1:Nat):Int)<x.2.2.2.2.2.2.2.1.2.1)(l8:x.2.2.2.2.2.2.2.2.1.2.2.1<=1000)(m8:x.2.2.2.2.2.2.2.2.1.2.2.2<x.1.2.1)(n8:x.1.1=3->((x.2.2.2.2.2.2.2.2.1.2.2.1:Nat):Int)<x.2.2.2.2.2.2.2.2.1.2.1)(l9:x.2.2.2.2.2.2.2.2.2.1.2.2.1<=1000)(m9:x.2.2.2.2.2.2.2.2.2.1.2.2.2<x.1.2.1)(n9:x.1.1=4->((x.2.2.2.2.2.2.2.2.2.1.2.2.1:Nat):Int)<x.2.2.2.2.2.2.2.2.2.1.2.1)(l10:x.2.2.2.2.2.2.2.2.2.2.1.2.2.1<=1000)(m10:x.2.2.2.2.2.2.2.2.2.2.1.2.2.2<x.1.2.1)(aY:x.1.1=5->((x.2.2.2.2.2.2.2.2.2.2.1.2.2.1:Nat):Int)<x.2.2.2.2.2.2.2.2.2.2.1.2.1):Ok (ek x) (λe:nY=>e.2.1=x.2.1∧e.2.2.1=x.2.2.1∧e.2.2.2.1=x.2.2.2.1∧e.2.2.2.2.1=x.2.2.2.2.1∧e.2.2.2.2.2.2.2.2.2.2.2.1=x.2.2.2.2.2.2.2.2.2.2.2.1∧e.2.2.2.2.2.2.2.2.2.2.2.2.1=x.2.2.2.2.2.2.2.2.2.2.2.2.1∧e.2.2.2.2.2.2.2.2.2.2.2.2.2.1=x.2.2.2.2.2.2.2.2.2.2.2.2.2.1∧e.2.2.2.2.2.2.2.2.2.2.2.2.2.2.2.2.2.2.2.2=x.2.2.2.2.2.2.2.2.2.2.2.2.2.2.2.2.2.2.2.2∧((x.1.1=0∧WR e.1 x.2.2.2.2.2.1 e.2.2.2.2.2.1∧e.2.2.2.2.2.2.1=x.2.2.2.2.2.2.1∧e.2.2.2.2.2.2.2.1=x.2.2.2.2.2.2.2.1∧e.2.2.2.2.2.2.2.2.1=x.2.2.2.2.2.2.2.2.1∧e.2.2.2.2.2.2.2.2.2.1=x.2.2.2.2.2.2.2.2.2.1∧e.2.2.2.2.2.2.2.2.2.2.1=x.2.2.2.2.2.2.2.2.2.2.1)∨(x.1.1=1∧e.2.2.2.2.2.1=x.2.2.2.2.2.1∧WR e.1 x.2.2.2.2.2.2.1 e.2.2.2.2.2.2.1∧e.2.2.2.2.2.2.2.1=x.2.2.2.2.2.2.2.1∧e.2.2.2.2.2.2.2.2.1=x.2.2.2.2.2.2.2.2.1∧e.2.2.2.2.2.2.2.2.2.1=x.2.2.2.2.2.2.2.2.2.1∧e.2.2.2.2.2.2.2.2.2.2.1=x.2.2.2.2.2.2.2.2.2.2.1)∨(x.1.1=2∧e.2.2.2.2.2.1=x.2.2.2.2.2.1∧e.2.2.2.2.2.2.1=x.2.2.2.2.2.2.1∧WR e.1 x.2.2.2.2.2.2.2.1 e.2.2.2.2.2.2.2.1∧e.2.2.2.2.2.2.2.2.1=x.2.2.2.2.2.2.2.2.1∧e.2.2.2.2.2.2.2.2.2.1=x.2.2.2.2.2.2.2.2.2.1∧e.2.2.2.2.2.2.2.2.2.2.1=x.2.2.2.2.2.2.2.2.2.2.1)∨(x.1.1=3∧e.2.2.2.2.2.1=x.2.2.2.2.2.1∧e.2.2.2.2.2.2.1=x.2.2.2.2.2.2.1∧e.2.2.2.2.2.2.2.1=x.2.2.2.2.2.2.2.1∧WR e.1 x.2.2.2.2.2.2.2.2.1 e.2.2.2.2.2.2.2.2.1∧e.2.2.2.2.2.2.2.2.2.1=x.2.2.2.2.2.2.2.2.2.1∧e.2.2.2.2.2.2.2.2.2.2.1=x.2.2.2.2.2.2.2.2.2.2.1)∨(x.1.1=4∧e.2.2.2.2.2.1=x.2.2.2.2.2.1∧e.2.2.2.2.2.2.1=x.2.2.2.2.2.2.1∧e.2.2.2.2.2.2.2.1=x.2.2.2.2.2.2.2.1∧e.2.2.2.2.2.2.2.2.1=x.2.2.2.2.2.2.2.2.1∧WR e.1 x.2.2.2.2.2.2.2.2.2.1 e.2.2.2.2.2.2.2.2.2.1∧e.2.2.2.2.2.2.2.2.2.2.1=x.2.2.2.2.2.2.2.2.2.2.1)∨(x.1.1=5∧e.2.2.2.2.2.1=x.2.2.2.2.2.1∧e.2.2.2.2.2.2.1=x.2.2.2.2.2.2.1∧e.2.2.2.2.2.2.2.1=x.2.2.2.2.2.2.2.1∧e.2.2.2.2.2.2.2.2.1=x.2.2.2.2.2.2.2.2.1∧e.2.2.2.2.2.2.2.2.2.1=x.2.2.2.2.2.2.2.2.2.1∧WR e.1 x.2.2.2.2.2.2.2.2.2.2.1 e.2.2.2.2.2.2.2.2.2.2.1))):=by
 unfold ek sU
 try dsimp only
 show PQ _ _
 have hk:(decide (0<=x.1.1)&&decide (x.1.1<6))=true:=by rw[decide_eq_true k0,decide_eq_true (show x.1.1<6 by omega)];rfl
 rw[afy,bM,hk]
 obtain⟨b,_,_⟩:=aCZ hk 6 (by omega)
 simp only[aM,b]
 rw[show(!true)=false from rfl,zj]
 repeat' (first
  |rw[aB]
  |(with_reducible refine ay (aQI _ ?_ ?_ ?_) λe _ he=> ?_)
  |(with_reducible refine ay (aIm _) λe _ he=> ?_)
  |(rw[qh];refine⟨λa ha=> ?_,λa ha=> ?_⟩)
  |(rw[bu];intro _ _)
  |(rw[aK];refine⟨λc=> ?_,λc=> ?_⟩<;>first|have c:=eq_of_beq c|have c:=ne_of_beq_false c|skip))
 all_goals first
  |(dsimp only;omega)
  |(rw[ha] at he;exact he.elim)
  |exact m5
  |exact n5 (by omega)
  |(rw[av];exact⟨rfl,rfl,rfl,rfl,rfl,rfl,rfl,rfl,.inl ⟨by omega,he,rfl,rfl,rfl,rfl,rfl⟩⟩)
  |(rw[ha] at he;rw[av];exact⟨rfl,rfl,rfl,rfl,rfl,rfl,rfl,rfl,.inl ⟨by omega,he,rfl,rfl,rfl,rfl,rfl⟩⟩)
  |exact m6
  |exact n6 (by omega)
  |(rw[av];exact⟨rfl,rfl,rfl,rfl,rfl,rfl,rfl,rfl,.inr (.inl ⟨by omega,rfl,he,rfl,rfl,rfl,rfl⟩)⟩)
  |(rw[ha] at he;rw[av];exact⟨rfl,rfl,rfl,rfl,rfl,rfl,rfl,rfl,.inr (.inl ⟨by omega,rfl,he,rfl,rfl,rfl,rfl⟩)⟩)
  |exact m7
  |exact n7 (by omega)
  |(rw[av];exact⟨rfl,rfl,rfl,rfl,rfl,rfl,rfl,rfl,.inr (.inr (.inl ⟨by omega,rfl,rfl,he,rfl,rfl,rfl⟩))⟩)
  |(rw[ha] at he;rw[av];exact⟨rfl,rfl,rfl,rfl,rfl,rfl,rfl,rfl,.inr (.inr (.inl ⟨by omega,rfl,rfl,he,rfl,rfl,rfl⟩))⟩)
  |exact m8
  |exact n8 (by omega)
  |(rw[av];exact⟨rfl,rfl,rfl,rfl,rfl,rfl,rfl,rfl,.inr (.inr (.inr (.inl ⟨by omega,rfl,rfl,rfl,he,rfl,rfl⟩)))⟩)
  |(rw[ha] at he;rw[av];exact⟨rfl,rfl,rfl,rfl,rfl,rfl,rfl,rfl,.inr (.inr (.inr (.inl ⟨by omega,rfl,rfl,rfl,he,rfl,rfl⟩)))⟩)
  |exact m9
  |exact n9 (by omega)
  |(rw[av];exact⟨rfl,rfl,rfl,rfl,rfl,rfl,rfl,rfl,.inr (.inr (.inr (.inr (.inl ⟨by omega,rfl,rfl,rfl,rfl,he,rfl⟩))))⟩)
  |(rw[ha] at he;rw[av];exact⟨rfl,rfl,rfl,rfl,rfl,rfl,rfl,rfl,.inr (.inr (.inr (.inr (.inl ⟨by omega,rfl,rfl,rfl,rfl,he,rfl⟩))))⟩)
  |exact m10
  |exact aY (by omega)
  |(rw[av];exact⟨rfl,rfl,rfl,rfl,rfl,rfl,rfl,rfl,.inr (.inr (.inr (.inr (.inr (⟨by omega,rfl,rfl,rfl,rfl,rfl,he⟩)))))⟩)
  |(rw[ha] at he;rw[av];exact⟨rfl,rfl,rfl,rfl,rfl,rfl,rfl,rfl,.inr (.inr (.inr (.inr (.inr (⟨by omega,rfl,rfl,rfl,rfl,rfl,he⟩)))))⟩)
  |skip
end Go.Proofs.YtldgljclcgaibaaGreat
namespace Go.Proofs.YtldgljclcgaibaaGreat
open Go.Ab Go.Ab.Pg
theorem aN0 (x y:ku.B)(h:x.1=y.1)(k:x.2.2.2.2.2.2.2.2.2.2.1=y.2.2.2.2.2.2.2.2.2.2.1):db x=db y:=by
 unfold db qF
 try dsimp only
 rw[show x.1=y.1 from h,k]
theorem aQJ (x:ku.B):Ok (db x) (λr:DZ=>r.2.2.2.2.1=x.1.2.2.2.2.2.2.2.2.2.2.2.2.2.1):=by
 unfold db qF
 try dsimp only
 show PQ _ _
 repeat' (first|(rw[bu];intro _ _))
 rw[av]
theorem aAq (x:wW.B)(k0:0<=x.1)(k5:x.1<=5):Ok (rv x) (λr:C2=>(x.1=0->r=((x.2.2.2.2.2.1.2.2.1:Nat):Int))∧(x.1=1->r=((x.2.2.2.2.2.2.1.2.2.1:Nat):Int))∧(x.1=2->r=((x.2.2.2.2.2.2.2.1.2.2.1:Nat):Int))∧(x.1=3->r=((x.2.2.2.2.2.2.2.2.1.2.2.1:Nat):Int))∧(x.1=4->r=((x.2.2.2.2.2.2.2.2.2.1.2.2.1:Nat):Int))∧(x.1=5->r=((x.2.2.2.2.2.2.2.2.2.2.1.2.2.1:Nat):Int))):=by
 unfold rv Ly
 try dsimp only
 show PQ _ _
 have hk:(decide (0<=x.1)&&decide (x.1<6))=true:=by rw[decide_eq_true k0,decide_eq_true (show x.1<6 by omega)];rfl
 rw[afy,bM,hk]
 obtain⟨b,_,_⟩:=aCZ hk 6 (by omega)
 simp only[aM,b]
 rw[show(!true)=false from rfl,zj,aB]
 have hl:∀y:uM.B,Bd y=some ((y.1.2.2.1:Nat):Int):=λy=>rfl
 repeat' (first
  |rw[aB]
  |rw[hl,bM]
  |(rw[aK];refine⟨λc=> ?_,λc=> ?_⟩<;>first|have c:=eq_of_beq c|have c:=ne_of_beq_false c))
 all_goals
  rw[av]
  refine⟨?_,?_,?_,?_,?_,?_⟩<;>intro h<;>first|rfl|omega
theorem aDo (x:qQ.B)(k0:0<=x.1)(k5:x.1<=5):Ok (m4 x) (λr:Em=>(x.1=0->r=x.2.2.2.2.2.1.1)∧(x.1=1->r=x.2.2.2.2.2.2.1.1)∧(x.1=2->r=x.2.2.2.2.2.2.2.1.1)∧(x.1=3->r=x.2.2.2.2.2.2.2.2.1.1)∧(x.1=4->r=x.2.2.2.2.2.2.2.2.2.1.1)∧(x.1=5->r=x.2.2.2.2.2.2.2.2.2.2.1.1)):=by
 unfold m4 Eo
 try dsimp only
 show PQ _ _
 have hk:(decide (0<=x.1)&&decide (x.1<6))=true:=by rw[decide_eq_true k0,decide_eq_true (show x.1<6 by omega)];rfl
 rw[afy,bM,hk]
 obtain⟨b,_,_⟩:=aCZ hk 6 (by omega)
 simp only[aM,b]
 rw[show(!true)=false from rfl,zj,aB]
 repeat' (first
  |rw[aB]
  |(rw[aK];refine⟨λc=> ?_,λc=> ?_⟩<;>first|have c:=eq_of_beq c|have c:=ne_of_beq_false c))
 all_goals
  rw[av]
  refine⟨?_,?_,?_,?_,?_,?_⟩<;>intro h<;>first|rfl|(exfalso;omega)
end Go.Proofs.YtldgljclcgaibaaGreat
