/-
  Parts of the proof: QS TSm Q7 TIm TGi TGo TGp Q8 Q9 TGr TRn TRu TWt
-/
import Derived.Test.YtldgljclcgaibaaGreatZAE
import Derived.Test.YtldgljclcgaibaaGreatZAJ
import Derived.Test.YtldgljclcgaibaaGreatZAK
import Derived.Test.YtldgljclcgaibaaGreatZAL
open Nat renaming beq→z9,ble→wr,blt→wl
open Int renaming toNat→z4,ofNat→ws,fdiv→v9
open Sum renaming inl→ww,inr→wt,elim→t9
open BitVec renaming ofInt→wn,toNat→wd
set_option linter.unusedVariables false
set_option linter.unusedSimpArgs false
set_option maxRecDepth 100000
set_option maxHeartbeats 4000000
noncomputable section
namespace Go.Proofs.YtldgljclcgaibaaGreat
open Go.Ab Go.Ab.Pg Go.Ab.Rq
def mA:=qa (pr (cu eW (c ai Em)) (cd qL λb0=>(c lK (c mJ (c (cl (gs b0.c.1 mI) nil) (cd rj λb4=>(cd pn λb5=>(cd px λb6=>(cd py λb7=>(cd pz λb8=>(cd pA λb9=>(c ml (cd sQ λuQ=>(c (cl (gs b0.e kZ) nil) (c (cl (gs b4.b.1 aB) nil) (c (cl (gs b5.b.1 aB) nil) (c (cl (gs b6.b.1 aB) nil) (c (cl (gs b7.b.1 aB) nil) (c (cl (gs b8.b.1 aB) nil) (c (cl (gs b9.b.1 aB) nil) (cl (cl (gs uQ.b ia) nil) nil)))))))))))))))))))))
def afY:=qe (res (pr ab (pr (cl (B9 (a 26 sS (c gb (c jw (a 2 uA (cu (gp 20 5) (cu (gp 21 10) (c (gc (fJ (pu azZ (pu (ox (pu cX (pu cX EK))) (pl gH (pu EK fL)))))) aXk)))))))) aQo) aQC)))
abbrev qg:=(Bool×(J7×Bool×NI×(NI×NI)×Nat×uW×Bool×Int×nJ×Bool×Bool×Bool×Int×Int×Int×HS×Nat)×(nJ×Int×Int)×S9×(NI×NI×NI×NI×NI×NI×NI×NI)×cD×cD×cD×cD×cD×cD×Rt×xT×aSf×si×si×si×si×si×si×NI×NI×NI×NI×NI×NI×NI×NI×NI×NI×NI)
def NN:qg->T:=λd=>lf afY (d.1,d.2.1,d.b.1,d.b.2.1,(d.2.1.c.1,d.c.1),d.c.2.1,d.c.b.1,d.c.b.2.1,d.d.1,d.d.2.1,d.d.b.1,d.d.b.2.1,d.d.c.1,(d.2.1.e,d.d.c.2.1),d.d.c.b.1,d.d.c.b.2.1,d.e.1,d.e.2.1,d.e.b.1,d.e.b.2.1,d.d.c.1.b,d.e.c)
abbrev Dk:=mA.B->Option qg
def Dl (g:Dk):Ct:=(22,FC mA NN g)
def vP (BG:afw)(fT:Bu)(aDE:Ux)(nh:EA)(rW:KH)(x:mA.B):Pg qg:=let n30:=x.1.1;let n28:=x.1.2;let n29:=n28.2.2.2.2;let n23:=x.2.1;let n19:=x.2.2;let n24:=n19.2.1;let bR:=n19.2.2;let n20:=bR.2.1;let n17:=bR.2.2;let n33:=n17.1.2.2.1;let n21:=n17.2.1;let bA:=n17.2.2;let n34:=bA.1.2.2.1;let n22:=bA.2.1;let n18:=bA.2.2;let n35:=n18.1.2.2.1;let n25:=n18.2.1;let n15:=n18.2.2;let n31:=n15.2.2;let n27:=n15.2.1;let n26:=n31.2.2;let n32:=n26.2.2;let n16:=n32.2.2;let bx:=(nh (n20,n31.1));let bn:=(nh (n17.1,n31.2.1));let bc:=(nh (n21,n26.1));let n9:=(nh (bA.1,n26.2.1));let n8:=(nh (n22,n32.1));let n7:=(nh (n18.1,n32.2.1));let n6:=(n20.2.2.1,n31.1);let n5:=(n33,n31.2.1);let n4:=(n21.2.2.1,n26.1);let n3:=(n34,n26.2.1);let n2:=(n22.2.2.1,n32.1);let n1:=(n35,n32.2.1);let y0:=bf n30 6;let y1:=n30==1;let y2:=n30==4;let y3:=n30==3;let y4:=n30==2;let y5:=n30==5;let y6:=z9 n20.2.2.1 n20.2.2.1;let y7:=z9 n33 n33;let y8:=z9 n21.2.2.1 n21.2.2.1;let y9:=z9 n34 n34;let xR:=z9 n22.2.2.1 n22.2.2.1;let xS:=z9 n35 n35;opt (BG n30) λd=>ae (!d) (ret (false,n23,n19.1,n24,bR.1,n20,n17.1,n21,bA.1,n22,n18.1,n25,n15.1,n27,n6,n5,n4,n3,n2,n1,n16)) (opt (fT n28.1 0 1125899906842624) λd=>ae (!d) (ae y0 (ae y5 (ae xS (opt n7 λd=>ret (false,n23,n19.1,n24,bR.1,n20,n17.1,n21,bA.1,n22,d,n25,n15.1,n27,n6,n5,n4,n3,n2,n1,n16)) no) (ae y2 (ae xR (opt n8 λd=>ret (false,n23,n19.1,n24,bR.1,n20,n17.1,n21,bA.1,d,n18.1,n25,n15.1,n27,n6,n5,n4,n3,n2,n1,n16)) no) (ae y3 (ae y9 (opt n9 λd=>ret (false,n23,n19.1,n24,bR.1,n20,n17.1,n21,d,n22,n18.1,n25,n15.1,n27,n6,n5,n4,n3,n2,n1,n16)) no) (ae y4 (ae y8 (opt bc λd=>ret (false,n23,n19.1,n24,bR.1,n20,n17.1,d,bA.1,n22,n18.1,n25,n15.1,n27,n6,n5,n4,n3,n2,n1,n16)) no) (ae y1 (ae y7 (opt bn λd=>ret (false,n23,n19.1,n24,bR.1,n20,d,n21,bA.1,n22,n18.1,n25,n15.1,n27,n6,n5,n4,n3,n2,n1,n16)) no) (ae y6 (opt bx λd=>ret (false,n23,n19.1,n24,bR.1,d,n17.1,n21,bA.1,n22,n18.1,n25,n15.1,n27,n6,n5,n4,n3,n2,n1,n16)) no)))))) no) (opt (aDE n30 n28.1 n28.2.1 n28.2.2.1 n28.2.2.2.1 n29.1 n29.2.1 n29.2.2.1 n29.2.2.2.1 n29.2.2.2.2) λd=>ae (!d) (ae y0 (ae y5 (ae xS (opt n7 λd=>ret (false,n23,n19.1,n24,bR.1,n20,n17.1,n21,bA.1,n22,d,n25,n15.1,n27,n6,n5,n4,n3,n2,n1,n16)) no) (ae y2 (ae xR (opt n8 λd=>ret (false,n23,n19.1,n24,bR.1,n20,n17.1,n21,bA.1,d,n18.1,n25,n15.1,n27,n6,n5,n4,n3,n2,n1,n16)) no) (ae y3 (ae y9 (opt n9 λd=>ret (false,n23,n19.1,n24,bR.1,n20,n17.1,n21,d,n22,n18.1,n25,n15.1,n27,n6,n5,n4,n3,n2,n1,n16)) no) (ae y4 (ae y8 (opt bc λd=>ret (false,n23,n19.1,n24,bR.1,n20,n17.1,d,bA.1,n22,n18.1,n25,n15.1,n27,n6,n5,n4,n3,n2,n1,n16)) no) (ae y1 (ae y7 (opt bn λd=>ret (false,n23,n19.1,n24,bR.1,n20,d,n21,bA.1,n22,n18.1,n25,n15.1,n27,n6,n5,n4,n3,n2,n1,n16)) no) (ae y6 (opt bx λd=>ret (false,n23,n19.1,n24,bR.1,d,n17.1,n21,bA.1,n22,n18.1,n25,n15.1,n27,n6,n5,n4,n3,n2,n1,n16)) no)))))) no) (ae y0 (ae y5 (ae xS (opt (rW (n28,n18.1,n32.2.1)) λd=>sm d (λd=>ret (false,n23,n19.1,n24,bR.1,n20,n17.1,n21,bA.1,n22,d,n25,n15.1,n27,n6,n5,n4,n3,n2,n1,n16)) (λd=>ret (d.1,n23,n19.1,n24,bR.1,n20,n17.1,n21,bA.1,n22,d.2.1,n25,n15.1,n27,n6,n5,n4,n3,n2,(d.2.1.2.2.1,d.2.2),n16))) no) (ae y2 (ae xR (opt (rW (n28,n22,n32.1)) λd=>sm d (λd=>ret (false,n23,n19.1,n24,bR.1,n20,n17.1,n21,bA.1,d,n18.1,n25,n15.1,n27,n6,n5,n4,n3,n2,n1,n16)) (λd=>ret (d.1,n23,n19.1,n24,bR.1,n20,n17.1,n21,bA.1,d.2.1,n18.1,n25,n15.1,n27,n6,n5,n4,n3,(d.2.1.2.2.1,d.2.2),n1,n16))) no) (ae y3 (ae y9 (opt (rW (n28,bA.1,n26.2.1)) λd=>sm d (λd=>ret (false,n23,n19.1,n24,bR.1,n20,n17.1,n21,d,n22,n18.1,n25,n15.1,n27,n6,n5,n4,n3,n2,n1,n16)) (λd=>ret (d.1,n23,n19.1,n24,bR.1,n20,n17.1,n21,d.2.1,n22,n18.1,n25,n15.1,n27,n6,n5,n4,(d.2.1.2.2.1,d.2.2),n2,n1,n16))) no) (ae y4 (ae y8 (opt (rW (n28,n21,n26.1)) λd=>sm d (λd=>ret (false,n23,n19.1,n24,bR.1,n20,n17.1,d,bA.1,n22,n18.1,n25,n15.1,n27,n6,n5,n4,n3,n2,n1,n16)) (λd=>ret (d.1,n23,n19.1,n24,bR.1,n20,n17.1,d.2.1,bA.1,n22,n18.1,n25,n15.1,n27,n6,n5,(d.2.1.2.2.1,d.2.2),n3,n2,n1,n16))) no) (ae y1 (ae y7 (opt (rW (n28,n17.1,n31.2.1)) λd=>sm d (λd=>ret (false,n23,n19.1,n24,bR.1,n20,d,n21,bA.1,n22,n18.1,n25,n15.1,n27,n6,n5,n4,n3,n2,n1,n16)) (λd=>ret (d.1,n23,n19.1,n24,bR.1,n20,d.2.1,n21,bA.1,n22,n18.1,n25,n15.1,n27,n6,(d.2.1.2.2.1,d.2.2),n4,n3,n2,n1,n16))) no) (ae y6 (opt (rW (n28,n20,n31.1)) λd=>sm d (λd=>ret (false,n23,n19.1,n24,bR.1,d,n17.1,n21,bA.1,n22,n18.1,n25,n15.1,n27,n6,n5,n4,n3,n2,n1,n16)) (λd=>ret (d.1,n23,n19.1,n24,bR.1,d.2.1,n17.1,n21,bA.1,n22,n18.1,n25,n15.1,n27,(d.2.1.2.2.1,d.2.2),n5,n4,n3,n2,n1,n16))) no)))))) no)))
def iF:=λx=>(vP Bx nH DR lk xw x).val
abbrev Dm:=afw×Bu×Ux×EA×KH
def NO (p:Dm):KK:=⟨[apC p.1,Y2 p.2.1,akm p.b.1,On p.b.2.1,Zf p.c],⟨[],[],(0::rg 4 6 []),[],(some ⟨0,(rg 0 6 (rg 7 28 [])),[(3,[]),(4,[]),(5,[]),(6,[]),(7,[]),(8,[]),(9,[]),(10,[]),(11,[]),(12,[]),(13,[]),(14,[]),(15,[]),(16,[]),(17,[]),(18,[]),(19,[]),(20,[]),(21,[]),(0,[])]⟩)⟩,0,22⟩
theorem aiF (p:Dm):D2 (NO p) mA NN λb=>vP p.1 p.2.1 p.b.1 p.b.2.1 p.c b:=λb=>by kernel_rfl
abbrev NP:Dm:=(Bx,nH,DR,lk,xw)
theorem NQ [ay]:SC (Dl iF):=sc (kS (k:=NO NP) (.c azB (.c aod (.c aDs (.c akR (.c auk (.nil _)))))) [] [] trivial trivial (aiF NP))
end Go.Proofs.YtldgljclcgaibaaGreat
namespace Go.Proofs.YtldgljclcgaibaaGreat
open Go.Ab Go.Ab.Pg
theorem aRS (x:mA.B)(l5:x.c.2.1.b.1<=1000)(l6:x.c.b.1.b.1<=1000)(l7:x.c.b.2.1.b.1<=1000)(l8:x.d.1.b.1<=1000)(l9:x.d.2.1.b.1<=1000)(l10:x.d.b.1.b.1<=1000):Ok (iF x) (λe:qg=>e.2.1=x.2.1/\e.b.1=x.b.1/\e.b.2.1=x.b.2.1/\e.c.1=x.c.1/\e.d.b.2.1=x.d.b.2.1/\e.d.c.1=x.d.c.1/\e.d.c.2.1=x.d.c.2.1/\e.e.b.2.2=x.e.b.2.2/\((¬(0<=x.1.1/\x.1.1<6)/\e.c.2.1=x.c.2.1/\e.c.b.1=x.c.b.1/\e.c.b.2.1=x.c.b.2.1/\e.d.1=x.d.1/\e.d.2.1=x.d.2.1/\e.d.b.1=x.d.b.1)∨(x.1.1=0/\(PR x.c.2.1 e.c.2.1∨SR x.c.2.1 e.c.2.1)/\e.c.b.1=x.c.b.1/\e.c.b.2.1=x.c.b.2.1/\e.d.1=x.d.1/\e.d.2.1=x.d.2.1/\e.d.b.1=x.d.b.1)∨(x.1.1=1/\e.c.2.1=x.c.2.1/\(PR x.c.b.1 e.c.b.1∨SR x.c.b.1 e.c.b.1)/\e.c.b.2.1=x.c.b.2.1/\e.d.1=x.d.1/\e.d.2.1=x.d.2.1/\e.d.b.1=x.d.b.1)∨(x.1.1=2/\e.c.2.1=x.c.2.1/\e.c.b.1=x.c.b.1/\(PR x.c.b.2.1 e.c.b.2.1∨SR x.c.b.2.1 e.c.b.2.1)/\e.d.1=x.d.1/\e.d.2.1=x.d.2.1/\e.d.b.1=x.d.b.1)∨(x.1.1=3/\e.c.2.1=x.c.2.1/\e.c.b.1=x.c.b.1/\e.c.b.2.1=x.c.b.2.1/\(PR x.d.1 e.d.1∨SR x.d.1 e.d.1)/\e.d.2.1=x.d.2.1/\e.d.b.1=x.d.b.1)∨(x.1.1=4/\e.c.2.1=x.c.2.1/\e.c.b.1=x.c.b.1/\e.c.b.2.1=x.c.b.2.1/\e.d.1=x.d.1/\(PR x.d.2.1 e.d.2.1∨SR x.d.2.1 e.d.2.1)/\e.d.b.1=x.d.b.1)∨(x.1.1=5/\e.c.2.1=x.c.2.1/\e.c.b.1=x.c.b.1/\e.c.b.2.1=x.c.b.2.1/\e.d.1=x.d.1/\e.d.2.1=x.d.2.1/\(PR x.d.b.1 e.d.b.1∨SR x.d.b.1 e.d.b.1)))):=by
 unfold iF vP;try dsimp only
 show PQ _ _;rw[auy,bV,aN];refine⟨λhn=> ?_,λhk=> ?_⟩
 .rw[aw];refine⟨rfl,rfl,rfl,rfl,rfl,rfl,rfl,rfl,.inl ⟨λh=> ?_,rfl,rfl,rfl,rfl,rfl,rfl⟩⟩;rw[dW h.1,dW h.2] at hn;cases hn
 rw[ayh] at hk;obtain⟨b,_,_⟩:=aJH hk 6 (by omega);have hr:=hk;rw[cB,jW,jW] at hr;obtain⟨k0,k6⟩:=hr;simp only[aQ,b]
 repeat' (first
  |rw[aE]
  |(with_reducible refine aA (aUt _ ?_) λe _ he=> ?_)
  |(with_reducible refine aA (aLY _) λe _ he=> ?_)
  |(rw[uD];refine⟨λa ha=> ?_,λa ha=> ?_⟩)
  |(rw[bH];intro _ _)
  |(rw[aN];refine⟨λc=> ?_,λc=> ?_⟩<;>first|have c:=eq_of_beq c|have c:=ati c|skip))
 all_goals first
  |(dsimp only;omega)
  |(rw[aw];exact⟨rfl,rfl,rfl,rfl,rfl,rfl,rfl,rfl,.inr (.inl ⟨by omega,.inr he,rfl,rfl,rfl,rfl,rfl⟩)⟩)
  |(rw[ha] at he;rw[aw];exact⟨rfl,rfl,rfl,rfl,rfl,rfl,rfl,rfl,.inr (.inl ⟨by omega,.inl he,rfl,rfl,rfl,rfl,rfl⟩)⟩)
  |(rw[aw];exact⟨rfl,rfl,rfl,rfl,rfl,rfl,rfl,rfl,.inr (.inr (.inl ⟨by omega,rfl,.inr he,rfl,rfl,rfl,rfl⟩))⟩)
  |(rw[ha] at he;rw[aw];exact⟨rfl,rfl,rfl,rfl,rfl,rfl,rfl,rfl,.inr (.inr (.inl ⟨by omega,rfl,.inl he,rfl,rfl,rfl,rfl⟩))⟩)
  |(rw[aw];exact⟨rfl,rfl,rfl,rfl,rfl,rfl,rfl,rfl,.inr (.inr (.inr (.inl ⟨by omega,rfl,rfl,.inr he,rfl,rfl,rfl⟩)))⟩)
  |(rw[ha] at he;rw[aw];exact⟨rfl,rfl,rfl,rfl,rfl,rfl,rfl,rfl,.inr (.inr (.inr (.inl ⟨by omega,rfl,rfl,.inl he,rfl,rfl,rfl⟩)))⟩)
  |(rw[aw];exact⟨rfl,rfl,rfl,rfl,rfl,rfl,rfl,rfl,.inr (.inr (.inr (.inr (.inl ⟨by omega,rfl,rfl,rfl,.inr he,rfl,rfl⟩))))⟩)
  |(rw[ha] at he;rw[aw];exact⟨rfl,rfl,rfl,rfl,rfl,rfl,rfl,rfl,.inr (.inr (.inr (.inr (.inl ⟨by omega,rfl,rfl,rfl,.inl he,rfl,rfl⟩))))⟩)
  |(rw[aw];exact⟨rfl,rfl,rfl,rfl,rfl,rfl,rfl,rfl,.inr (.inr (.inr (.inr (.inr (.inl ⟨by omega,rfl,rfl,rfl,rfl,.inr he,rfl⟩)))))⟩)
  |(rw[ha] at he;rw[aw];exact⟨rfl,rfl,rfl,rfl,rfl,rfl,rfl,rfl,.inr (.inr (.inr (.inr (.inr (.inl ⟨by omega,rfl,rfl,rfl,rfl,.inl he,rfl⟩)))))⟩)
  |(rw[aw];exact⟨rfl,rfl,rfl,rfl,rfl,rfl,rfl,rfl,.inr (.inr (.inr (.inr (.inr (.inr (⟨by omega,rfl,rfl,rfl,rfl,rfl,.inr he⟩))))))⟩)
  |(rw[ha] at he;rw[aw];exact⟨rfl,rfl,rfl,rfl,rfl,rfl,rfl,rfl,.inr (.inr (.inr (.inr (.inr (.inr (⟨by omega,rfl,rfl,rfl,rfl,rfl,.inl he⟩))))))⟩)
  |skip
open Go.Ab Go.Ab.Pg Go.Ab.Rq
def m9:=qa (pr (cu eW ab1) (cd qL λb0=>(c lK (c mJ (c (cl (gs b0.c.1 mI) nil) (cd rj λb4=>(cd pn λb5=>(cd px λb6=>(cd py λb7=>(cd pz λb8=>(cd pA λb9=>(c ml (cd sQ λuQ=>(c (cl (gs b0.e kZ) nil) (c (cl (gs b4.b.1 aB) nil) (c (cl (gs b5.b.1 aB) nil) (c (cl (gs b6.b.1 aB) nil) (c (cl (gs b7.b.1 aB) nil) (c (cl (gs b8.b.1 aB) nil) (c (cl (gs b9.b.1 aB) nil) (cl (cl (gs uQ.b ia) nil) nil)))))))))))))))))))))
def auG:=qe (res (pr aPL (pr (cl (B9 aQy) aQo) aQC)))
abbrev qh:=((Int×Int)×(J7×Bool×NI×(NI×NI)×(Nat×Nat)×uW×Bool×Int×nJ×Bool×Bool×Bool×Int×Int×Int×HS×Nat)×(nJ×Int×Int)×S9×Ws×cD×cD×cD×cD×cD×cD×Rt×xT×HT×fw×fw×fw×fw×fw×fw×Nat×NI×NI×NI×NI×NI×NI×NI×NI×NI×NI×NI)
def abS:qh->T:=λd=>lf auG (d.1,d.2.1,d.b.1,d.b.2.1,d.c.1,d.c.2.1,d.c.b.1,d.c.b.2.1,d.d.1,d.d.2.1,d.d.b.1,d.d.b.2.1,d.d.c.1,d.d.c.2.1,(d.c.2.1.b.1,d.d.c.b.1),(d.c.b.1.b.1,d.d.c.b.2.1),(d.c.b.2.1.b.1,d.e.1),(d.d.1.b.1,d.e.2.1),(d.d.2.1.b.1,d.e.b.1),(d.d.b.1.b.1,d.e.b.2.1),d.e.c)
abbrev ur:=m9.B->Option qh
def NR (g:ur):Ct:=(27,FC m9 abS g)
def dy:=qs (st (pr (cu eW (us 5 (cu aaj (us 2 (cl ai (us 92 nil)))))) (pl (c aQA (c qJ (c qK (cu nO (cd J9 λb4=>(cd J' λb5=>(cd Ka λb6=>(cd Kb λb7=>(cd Kc λb8=>(cd agp λb9=>(c pk (c ago (cu nO (cu nO (cu nO (cu nO (cu nO (cu nO (cu nO (cu nO (c Fu (c sR (c xZ (c (so (cl (gs b4.b.1 aB) nil)) (c (so (cl (gs b5.b.1 aB) nil)) (c (so (cl (gs b6.b.1 aB) nil)) (c (so (cl (gs b7.b.1 aB) nil)) (c (so (cl (gs b8.b.1 aB) nil)) (c (so (cl (gs b9.b.1 aB) nil)) LO))))))))))))))))))))))))))))) aEu)))
def aiG:=qs (st (pr (cu eW (us 5 (cu aaj (us 2 (c ai (us 48 (cu eW (cu eW (cu aPT (c (ac aKs) (c ai (c ab (cu Ta (cu eW (cu eW (cu aPT (c (ac aKs) (c (ac (N7 (pu aIN (pl Ox EK)))) (c (ac (N7 (pu aIN (pl Ox Ek)))) (c ai (cu (app 20 1) (c ai (cu eW (cu eW (cu auW (cu aWh (c ai (c ai (c ab (cl ab aSi)))))))))))))))))))))))))))))) (pl (c aQA (c qJ (c qK (cu nO (c J9 (c J' (c Ka (c Kb (c Kc (c agp (c pk (c ago (cu nO (cu nO (cu nO (cu nO (cu nO (cu nO (cu nO (cu nO (c Fu (c sR Fv)))))))))))))))))))))) aEu)))
def aiH:=qs (st (pr (cu eW (us 5 (cu aaj (us 2 (c ai (us 48 (cu eW (cu eW (cu aPT (c (ac aKs) (c ai (cl ab (cu uy (xs 16 (cu uy aSi))))))))))))))) (pl (c aQA (c qJ (c qK (cu nO (c J9 (c J' (c Ka (c Kb (c Kc (c agp (c pk (c ago (cu nO (cu nO (cu nO (cu nO (cu nO (cu nO (cu nO (cu nO (c Fu (c sR Fv)))))))))))))))))))))) aEu)))
abbrev fU:=((Int×(Nat×Nat)×Int×Bool×Nat×Int×Int×Int×Int×Bool)×((Int×Int×Int×(Int×Int×Int×Int×Int×Int)×(Int×Int×Int×Int×Int×Int)×NI×NI×Int×Int×Int×Int×Int×Int×Int×Int)×Bool×NI×(NI×NI)×uW×Bool×Int×nJ×Bool×Bool×Bool×Int×Int×Int×HS×Nat)×(nJ×Int×Int)×S9×cD×cD×cD×cD×cD×cD×Rt×xT×aSg×Ws×HT×fw×fw×fw×fw×fw×fw×Nat×NI×NI×NI×NI×NI×NI×NI×NI×NI×NI×NI)⊕((Int×(Nat×Nat)×Int×Bool)×(J7×Bool×NI×(NI×NI)×uW×Bool×Int×nJ×Bool×Bool×Bool×Int×Int×Int×HS×Nat)×(nJ×Int×Int)×S9×cD×cD×cD×cD×cD×cD×Rt×xT×aD5×Ws×HT×fw×fw×fw×fw×fw×fw×Nat×NI×NI×NI×NI×NI×NI×NI×NI×NI×NI×NI)
def Vl {ρ:Type}(x:fU)(K:AX->St->Option ρ):Option ρ:=(t9 (λd=>K (.ex 0) (aiG.em ((d.1.1,d.1.2.1,d.1.b.1,d.1.b.2.1,d.1.2.1,d.1.c.1,d.1.c.1,d.1.c.2.1,d.1.c.b.1,d.1.c.b.2.1,d.1.d.1,d.1.d.2,d.1.d.2),((d.2.1.1.1,d.1.c.b.2.1,d.2.1.1.2),d.2.1.2.1,d.2.1.b.1,d.2.1.b.2.1,d.1.2.1,d.2.1.c),d.b.1,d.b.2.1,d.c.1,d.c.2.1,d.c.b.1,d.c.b.2.1,d.d.1,d.d.2.1,d.d.b.1,d.d.b.2.1,(d.1.c.b.1,d.d.c.1),d.d.c.2.1,d.d.c.b.1,(d.c.1.b.1,d.d.c.b.2.1),(d.c.2.1.b.1,d.e.1),(d.c.b.1.b.1,d.e.2.1),(d.c.b.2.1.b.1,d.e.b.1),(d.d.1.b.1,d.e.b.2.1),(d.d.2.1.b.1,d.e.c.1),d.e.c.2))) (λd=>K (.ex 0) (aiH.em (d.1,(d.2.1.1,d.2.1.2.1,d.2.1.b.1,d.2.1.b.2.1,d.1.2.1,d.2.1.c),d.b.1,d.b.2.1,d.c.1,d.c.2.1,d.c.b.1,d.c.b.2.1,d.d.1,d.d.2.1,d.d.b.1,d.d.b.2.1,d.d.c.1,d.d.c.2.1,d.d.c.b.1,(d.c.1.b.1,d.d.c.b.2.1),(d.c.2.1.b.1,d.e.1),(d.c.b.1.b.1,d.e.2.1),(d.c.b.2.1.b.1,d.e.b.1),(d.d.1.b.1,d.e.b.2.1),(d.d.2.1.b.1,d.e.c.1),d.e.c.2)))) x
def qv (auH:K0)(d:dy.B):PL dy fU:=let n9:=d.2.2;let n17:=n9.2.2.1;let n8:=d.2.1;let n4:=n8.2.2.2;let bR:=n4.2.2.2.2.2.2.2.2.2.2.2.2.2;let bA:=n4.2.1;let n2:=n9.2.2.2;let n18:=n2.2.2.1;let n6:=n2.2.2.2;let n1:=n6.2.2.2;let n5:=n1.2.2;let bx:=n5.2.2.2.2;let bc:=n5.1.2;let n15:=bc.2.2.2;let n3:=bx.2.2.2.2.2;let n7:=n3.2.2.2.2.2;let y0:=ws bA.2;let y1:=bf 0 bA.2;let y2:=bA.1+0;let y3:=bA.2-1;let y4:=bA.1+1;let y5:=decide (y0>0);let y6:=wI (n1.2.1.1-n8.1.2.1);let y7:=decide (bc.1 y2<=y6);ae y5 (ae y1 (ae y7 (ae y1 (ae (HE 1 bA.2) (ae (z9 y3 y3) (ae (z9 bR bR) (ae (z9 n17.2.2.1 n17.2.2.1) (ae (z9 n2.1.2.2.1 n2.1.2.2.1) (ae (z9 n2.2.1.2.2.1 n2.2.1.2.2.1) (ae (z9 n18.2.2.1 n18.2.2.1) (ae (z9 n6.1.2.2.1 n6.1.2.2.1) (ae (z9 n6.2.1.2.2.1 n6.2.1.2.2.1) (ae (z9 n1.1.2.2 n1.1.2.2) (opt (auH ((bc.1 y2,bc.2.1 y2,(bc.2.2.1 y2,n15.1 y2,n15.2.1 y2),n15.2.2.1 y2,n15.2.2.2.1 y2,n15.2.2.2.2 y2),(n8.1,n8.2.1,n8.2.2.1,n4.1,y3,n4.2.2),n9.1,n9.2.1,(sh8 y4 bc),n17,n2.1,n2.2.1,n18,n6.1,n6.2.1,n6.2.2.1,n1.1,(aqr 0 n5.2.1.2),(sf 0 n5.2.2.1),(sf 0 n5.2.2.2.1),(sf 0 bx.1),(sf 0 bx.2.1),(sf 0 bx.2.2.1),(sf 0 bx.2.2.2.1),λj=>n3.1 (0+j),λj=>n3.2.1 (0+j),λj=>n3.2.2.1 (0+j),λj=>n3.2.2.2.1 (0+j),λj=>n3.2.2.2.2.1 (0+j),λj=>n7.1 (0+j),λj=>n7.2.1 (0+j),λj=>n7.2.2.1 (0+j),λj=>n7.2.2.2.1 (0+j),λj=>n7.2.2.2.2.1 (0+j),λj=>n7.2.2.2.2.2 (0+j))) λak=>let n16:=ak.1.1.2;let bn:=ak.1.2.2.2;ret (ww (wI (d.1+1),(ak.1.1.1,n16.1,n16.2.1,n16.2.2.1,(y4+0,n16.2.2.2.1),n16.2.2.2.2),n9.1,n9.2.1,ak.1.2.1,ak.1.2.2.1,bn.1,bn.2.1,bn.2.2.1,bn.2.2.2.1,bn.2.2.2.2.1,bn.2.2.2.2.2,n1.2.1,n5.1,ak.2))) no) no) no) no) no) no) no) no) no) no) no) (ret (wt (ww ((d.1,bA,y0,y5,y2,bc.1 y2,n1.2.1.1,n8.1.2.1,y6,y7),((n8.1.1,n8.1.2.2),n8.2.1,n8.2.2.1,n4.1,n4.2.2),n9.1,n9.2.1,n17,n2.1,n2.2.1,n18,n6.1,n6.2.1,n6.2.2.1,n1.1,n1.2.1.2,n5))))) no) (ret (wt (wt ((d.1,bA,y0,y5),(n8.1,n8.2.1,n8.2.2.1,n4.1,n4.2.2),n9))))
def vi:=bE (qv kn) 2000
def gw:=qs (st (pu (cu eW (us 5 (cu aaj (us 95 nil)))) (pl (cd (so (a 26 sS (c gb (c jw (a 2 uA (cu aiV (cu aiW (c (gc (fJ (pu aIN (pu (ox (pu cX (pu cX EK))) (pl gH (pu EK fL)))))) aQv)))))))) λb0=>(c qJ (c qK (cu nO (cd J9 λb4=>(cd J' λb5=>(cd Ka λb6=>(cd Kb λb7=>(cd Kc λb8=>(cd agp λb9=>(c pk (c ago (cu nO (cu nO (cu nO (cu nO (cu nO (cu nO (cu nO (cu nO (c Fu (c (so (cl (gs b0.c.1 mI) nil)) (c (so (cl (gs b0.e kZ) nil)) (c (so (cl (gs b4.b.1 aB) nil)) (c (so (cl (gs b5.b.1 aB) nil)) (c (so (cl (gs b6.b.1 aB) nil)) (c (so (cl (gs b7.b.1 aB) nil)) (c (so (cl (gs b8.b.1 aB) nil)) (c (so (cl (gs b9.b.1 aB) nil)) LO))))))))))))))))))))))))))))) aEu)))
def aqm:=qs (st (pr (us 4 (cl ai (cu Tb (us 96 nil)))) (pl aEx (cu Ek aEu))))
abbrev jr:=(Int×(J7×Bool×NI×(NI×NI)×(Nat×Nat)×uW×Bool×Int×nJ×Bool×Bool×Bool×Int×Int×Int×HS×Nat)×(nJ×Int×Int)×S9×Ws×cD×cD×cD×cD×cD×cD×Rt×xT×HT×fw×fw×fw×fw×fw×fw×Nat×NI×NI×NI×NI×NI×NI×NI×NI×NI×NI×NI)
def Vm {ρ:Type}(x:jr)(K:AX->St->Option ρ):Option ρ:=(λd=>K .ret (aqm.em (d.1,d.2.1,d.b.1,d.b.2.1,d.c.1,d.c.2.1,d.c.b.1,d.c.b.2.1,d.d.1,d.d.2.1,d.d.b.1,d.d.b.2.1,d.d.c.1,d.d.c.2.1,(d.c.2.1.b.1,d.d.c.b.1),(d.c.b.1.b.1,d.d.c.b.2.1),(d.c.b.2.1.b.1,d.e.1),(d.d.1.b.1,d.e.2.1),(d.d.2.1.b.1,d.e.b.1),(d.d.b.1.b.1,d.e.b.2.1),d.e.c))) x
def qw (eB:LT dy fU)(d:gw.B):Pg jr:=let n7:=d.2.2.2;let n3:=d.1.2.2.2.2;let n2:=n7.2.2;let n8:=n2.2.2;let n1:=n8.2.2.2.2;let n9:=n1.1.2.2.2;let n6:=n1.2.1.2.2;let y0:=n3.1+1;ae (wr (y0*64) 140737488355328) (ae (z9 n7.1.2.2.1 n7.1.2.2.1) (ae (z9 n7.2.1.2.2.1 n7.2.1.2.2.1) (ae (z9 n2.1.2.2.1 n2.1.2.2.1) (ae (z9 n2.2.1.2.2.1 n2.2.1.2.2.1) (ae (z9 n8.1.2.2.1 n8.1.2.2.1) (ae (z9 n8.2.1.2.2.1 n8.2.1.2.2.1) (opt (eB (0,(d.1.1,d.1.2.1,d.1.2.2.1,d.1.2.2.2.1,(0,y0),n3.2),d.2.1,d.2.2.1,n7.1,n7.2.1,n2.1,n2.2.1,n8.1,n8.2.1,n8.2.2.1,n8.2.2.2.1,n1.1,(y0,λj=>bif z9 j n3.1 then n1.1.1 else n1.2.1.1 (0+j),λj=>bif z9 j n3.1 then n1.1.2.1 else n1.2.1.2.1 (0+j),λj=>bif z9 j n3.1 then n1.1.2.2.1 else n6.1 (0+j),λj=>bif z9 j n3.1 then n9.1 else n6.2.1 (0+j),λj=>bif z9 j n3.1 then n9.2.1 else n6.2.2.1 (0+j),λj=>bif z9 j n3.1 then n9.2.2.1 else n6.2.2.2.1 (0+j),λj=>bif z9 j n3.1 then n9.2.2.2.1 else n6.2.2.2.2.1 (0+j),λj=>bif z9 j n3.1 then n9.2.2.2.2 else n6.2.2.2.2.2 (0+j)),(n3.2.2.2.2.2.2.2.2.2.2.2.2,n1.2.2.1),n1.2.2.2)) λx=>sum x (λd=>let bA:=d.2.2.2;let bx:=d.2.1;let n4:=bA.2.2.2;let bc:=n4.2.2.2;ret (d.1.1,((bx.1.1,d.1.2.2.2.2.2.2.2.1,bx.1.2),bx.2.1,bx.2.2.1,bx.2.2.2.1,d.1.2.1,bx.2.2.2.2),d.2.2.1,bA.1,bc.2.2.2.2.1,bA.2.1,bA.2.2.1,n4.1,n4.2.1,n4.2.2.1,bc.1,bc.2.1,bc.2.2.1,bc.2.2.2.2.2)) λd=>let n15:=d.2.1.2;let bR:=d.2.2.2;let n5:=bR.2.2.2;let bn:=n5.2.2.2;ret (d.1.1,(d.2.1.1,n15.1,n15.2.1,n15.2.2.1,d.1.2.1,n15.2.2.2),d.2.2.1,bR.1,bn.2.2.2.2.1,bR.2.1,bR.2.2.1,n5.1,n5.2.1,n5.2.2.1,bn.1,bn.2.1,bn.2.2.1,bn.2.2.2.2.2)) no) no) no) no) no) no) no
def kX (d:gw.B):Option jr:=(qw vi d).val
def Vn:Hd:=⟨6,(rg 1 5 (rg 7 95 [])),[(5,[]),(14,[]),(15,[]),(16,[]),(17,[]),(18,[]),(19,[]),(20,[]),(21,[]),(0,[])]⟩
def uu (aoX:Gj)(At:nF)(ru:LT gw jr)(x:m9.B):Pg qh:=let bR:=x.2.1;let bc:=x.2.2;let n15:=bc.2.2.1;let n5:=bR.2.2;let bn:=n5.2.2;let n9:=bn.2.2.2.2.2.2.2.2.2.2.2.2;let n4:=bc.2.2.2;let n16:=n4.2.1;let n8:=n4.2.2;let n17:=n8.2.1;let n2:=n8.2.2;let n19:=n2.2.2.1;let n18:=n2.2.1;let n6:=n2.2.2.2;let n20:=n6.2.2.1;let bA:=n6.1.2.2;let n3:=n6.2.2.2;let n22:=n3.2.1;let n21:=n3.2.2.1;let n7:=n3.2.2.2;let n25:=n7.2.2;let n24:=n7.2.1;let n1:=(n9,n6.2.1);let y0:=z9 bn.1 bn.1;let y1:=z9 n9 n9;let y2:=z9 n4.1.2.2.1 n4.1.2.2.1;let y3:=z9 n16.2.2.1 n16.2.2.1;let y4:=z9 n8.1.2.2.1 n8.1.2.2.1;let y5:=z9 n17.2.2.1 n17.2.2.1;let y6:=z9 n2.1.2.2.1 n2.1.2.2.1;let y7:=z9 n18.2.2.1 n18.2.2.1;opt (aoX (x.1,bc.2.1,bR.2.1)) λd=>let n23:=d.2.1;let bx:=d.1.1;ae (d.1.2.2!=0) (ret ((0,d.1.2.2),(bR.1,d.2.2,n5.1,n5.2.1,(0,bn.1),bn.2),bc.1,n23,(bn.1,n15),n4.1,n16,n8.1,n17,n2.1,n18,n19,n6.1,n1,n20,n3.1,n22,n21,n7.1,n24,bA,n25)) (ae (!d.1.2.1) (ret ((0,d.1.2.2),(bR.1,d.2.2,n5.1,n5.2.1,(0,bn.1),bn.2),bc.1,n23,(bn.1,n15),n4.1,n16,n8.1,n17,n2.1,n18,n19,n6.1,n1,n20,n3.1,n22,n21,n7.1,n24,bA,n25)) (ae bn.2.2.1 (ae (z9 bA bA) (opt (At ((n5.1,bx.1,bx.2.1,(bx.2.2.1,bx.2.2.2.1,bx.2.2.2.2.1),bx.2.2.2.2.2),n6.1,d.2.2,n25)) λak=>sm ak (λaK=>ae y0 (ae y1 (ae y2 (ae y3 (ae y4 (ae y5 (ae y6 (ae y7 (opt (ru ((bR.1,aK.2.2,n5),bc.1,n23,n4.1,n16,n8.1,n17,n2.1,n18,n19,aK.2.1,bx,n15,n6.2.1,n20,n3.1,n22,n21,n7.1,n24,bA,n25)) λd=>ret ((d.1,0),d.2)) no) no) no) no) no) no) no) no) (λaK=>ae y0 (ae y1 (ae y2 (ae y3 (ae y4 (ae y5 (ae y6 (ae y7 (opt (ru ((bR.1,aK.1.2,n5),bc.1,n23,n4.1,n16,n8.1,n17,n2.1,n18,n19,aK.1.1,bx,n15,n6.2.1,n20,n3.1,n22,n21,n7.1,n24,aK.2)) λd=>ret ((d.1,0),d.2)) no) no) no) no) no) no) no) no)) no) (ae y0 (ae y1 (ae y2 (ae y3 (ae y4 (ae y5 (ae y6 (ae y7 (opt (ru ((bR.1,d.2.2,n5),bc.1,n23,n4.1,n16,n8.1,n17,n2.1,n18,n19,n6.1,bx,n15,n6.2.1,n20,n3.1,n22,n21,n7.1,n24,bA,n25)) λd=>ret ((d.1,0),d.2)) no) no) no) no) no) no) no) no)))
def gC:=λx=>(uu jM cM kX x).val
abbrev zP:=Gj×nF×K0×(LT dy fU)×(LT gw jr)
def Fj (p:zP):KK:=⟨[Sb p.1,Ap p.2.1,ZI p.b.1],⟨[⟨8,(rg 1 5 (7::8::rg 10 92 [])),[(5,[]),(14,[]),(15,[]),(16,[]),(17,[]),(18,[]),(19,[]),(20,[]),(21,[]),(0,[])]⟩],[gx 8 20 dy Vl p.b.2.1],(0::rg 4 6 [19,18,17,16,15,14,13,12,3,11,2,10]),[⟨Vn,gx 6 20 gw Vm p.c⟩],(some ⟨0,(rg 0 4 (rg 6 96 [])),[(3,[]),(4,[]),(5,[]),(6,[]),(7,[]),(8,[]),(9,[]),(10,[]),(11,[]),(12,[]),(13,[]),(14,[]),(15,[]),(16,[]),(17,[]),(18,[]),(19,[]),(20,[]),(21,[]),(0,[])]⟩)⟩,20,27⟩
theorem aoY (p:zP):LI (Fj p) 8 dy Vl (qv p.b.1):=λ_ d c K=>by kernel_rfl
theorem aoZ (p:zP):JI (Fj p) 6 gw Vm (qw p.b.2.1):=λ_ d K=>by kernel_rfl
theorem axz (p:zP):D2 (Fj p) m9 abS λb=>uu p.1 p.2.1 p.c b:=λb=>by kernel_rfl
abbrev Fk:zP:=(jM,cM,kn,vi,kX)
theorem abT [ay]:SC (NR gC):=sc (kS (k:=Fj Fk) (.c aoa (.c Je (.c auF (.nil _)))) [8] [6] ⟨kL (aoY Fk),trivial⟩ ⟨kJ Vn (aoZ Fk),trivial⟩ (axz Fk))
end Go.Proofs.YtldgljclcgaibaaGreat
namespace Go.Proofs.YtldgljclcgaibaaGreat
open Go.Ab Go.Ab.Pg
theorem aUO (N l:Nat)(S:Int)(h1:1<=N)(hN:N<=1999)(hl:l<=1999)(w d:dy.B)(W4:w.2.2.2.2.1.2.2.1<=64)(W5:w.2.2.2.2.2.1.2.2.1<=64)(W6:w.2.2.2.2.2.2.1.2.2.1<=64)(W7:w.2.2.2.2.2.2.2.1.2.2.1<=64)(W8:w.2.2.2.2.2.2.2.2.1.2.2.1<=64)(W9:w.2.2.2.2.2.2.2.2.2.1.2.2.1<=64)(WS:w.2.2.2.2.2.2.2.2.2.2.2.1.1<=(N:Int))(hd:d.2.1.2.2.2.2.1.2<=l/\d.2.2.2.1=w.2.2.2.1/\d.2.2.2.2.2.2.2.2.2.2.2.2.2.1=w.2.2.2.2.2.2.2.2.2.2.2.2.2.1/\w.2.1.2.2.2.2.2.2.2.2.2.2.2.2.2.1<=d.2.1.2.2.2.2.2.2.2.2.2.2.2.2.2.1/\Qd d.2.1.2.2.2.2.2.2.2.2.2.2.2.2.2.1 S d.2.1.2.2.2.2.1.2 (λi=>w.2.2.2.2.2.2.2.2.2.2.2.2.2.1.2.1 (d.2.1.2.2.2.2.1.1+i))/\BR d.2.1.2.2.2.2.2.2.2.2.2.2.2.2.2.1 w.2.2.2.2.1 d.2.2.2.2.1/\BR d.2.1.2.2.2.2.2.2.2.2.2.2.2.2.2.1 w.2.2.2.2.2.1 d.2.2.2.2.2.1/\BR d.2.1.2.2.2.2.2.2.2.2.2.2.2.2.2.1 w.2.2.2.2.2.2.1 d.2.2.2.2.2.2.1/\BR d.2.1.2.2.2.2.2.2.2.2.2.2.2.2.2.1 w.2.2.2.2.2.2.2.1 d.2.2.2.2.2.2.2.1/\BR d.2.1.2.2.2.2.2.2.2.2.2.2.2.2.2.1 w.2.2.2.2.2.2.2.2.1 d.2.2.2.2.2.2.2.2.1/\BR d.2.1.2.2.2.2.2.2.2.2.2.2.2.2.2.1 w.2.2.2.2.2.2.2.2.2.1 d.2.2.2.2.2.2.2.2.2.1/\d.2.2.2.2.2.2.2.2.2.2.2.1.1=w.2.2.2.2.2.2.2.2.2.2.2.1.1/\d.2.2.2.2.2.2.2.2.2.2.2.1.2.2<=N):Ok (vi d) (λx:fU=>match x with|.inl x=>x.1.2.1.2<=l/\x.2.2.2.1=w.2.2.2.1/\x.2.2.2.2.2.2.2.2.2.2.2.2.2.1=w.2.2.2.2.2.2.2.2.2.2.2.2.2.1/\w.2.1.2.2.2.2.2.2.2.2.2.2.2.2.2.1<=x.2.1.2.2.2.2.2.2.2.2.2.2.2.2.1/\Qd x.2.1.2.2.2.2.2.2.2.2.2.2.2.2.1 S x.1.2.1.2 (λi=>w.2.2.2.2.2.2.2.2.2.2.2.2.2.1.2.1 (x.1.2.1.1+i))/\BR x.2.1.2.2.2.2.2.2.2.2.2.2.2.2.1 w.2.2.2.2.1 x.2.2.2.2.1/\BR x.2.1.2.2.2.2.2.2.2.2.2.2.2.2.1 w.2.2.2.2.2.1 x.2.2.2.2.2.1/\BR x.2.1.2.2.2.2.2.2.2.2.2.2.2.2.1 w.2.2.2.2.2.2.1 x.2.2.2.2.2.2.1/\BR x.2.1.2.2.2.2.2.2.2.2.2.2.2.2.1 w.2.2.2.2.2.2.2.1 x.2.2.2.2.2.2.2.1/\BR x.2.1.2.2.2.2.2.2.2.2.2.2.2.2.1 w.2.2.2.2.2.2.2.2.1 x.2.2.2.2.2.2.2.2.1/\BR x.2.1.2.2.2.2.2.2.2.2.2.2.2.2.1 w.2.2.2.2.2.2.2.2.2.1 x.2.2.2.2.2.2.2.2.2.1/\x.2.2.2.2.2.2.2.2.2.2.2.1.1=w.2.2.2.2.2.2.2.2.2.2.2.1.1/\x.2.2.2.2.2.2.2.2.2.2.2.1.2.2<=N|.inr x=>x.1.2.1.2<=l/\x.2.2.2.1=w.2.2.2.1/\x.2.2.2.2.2.2.2.2.2.2.2.2.2.1=w.2.2.2.2.2.2.2.2.2.2.2.2.2.1/\w.2.1.2.2.2.2.2.2.2.2.2.2.2.2.2.1<=x.2.1.2.2.2.2.2.2.2.2.2.2.2.2.1/\Qd x.2.1.2.2.2.2.2.2.2.2.2.2.2.2.1 S x.1.2.1.2 (λi=>w.2.2.2.2.2.2.2.2.2.2.2.2.2.1.2.1 (x.1.2.1.1+i))/\BR x.2.1.2.2.2.2.2.2.2.2.2.2.2.2.1 w.2.2.2.2.1 x.2.2.2.2.1/\BR x.2.1.2.2.2.2.2.2.2.2.2.2.2.2.1 w.2.2.2.2.2.1 x.2.2.2.2.2.1/\BR x.2.1.2.2.2.2.2.2.2.2.2.2.2.2.1 w.2.2.2.2.2.2.1 x.2.2.2.2.2.2.1/\BR x.2.1.2.2.2.2.2.2.2.2.2.2.2.2.1 w.2.2.2.2.2.2.2.1 x.2.2.2.2.2.2.2.1/\BR x.2.1.2.2.2.2.2.2.2.2.2.2.2.2.1 w.2.2.2.2.2.2.2.2.1 x.2.2.2.2.2.2.2.2.1/\BR x.2.1.2.2.2.2.2.2.2.2.2.2.2.2.1 w.2.2.2.2.2.2.2.2.2.1 x.2.2.2.2.2.2.2.2.2.1/\x.2.2.2.2.2.2.2.2.2.2.2.1.1=w.2.2.2.2.2.2.2.2.2.2.2.1.1/\x.2.2.2.2.2.2.2.2.2.2.2.1.2.2<=N):=
 wN (s:=_) (λd:dy.B=>d.2.1.2.2.2.2.1.2<=l/\d.2.2.2.1=w.2.2.2.1/\d.2.2.2.2.2.2.2.2.2.2.2.2.2.1=w.2.2.2.2.2.2.2.2.2.2.2.2.2.1/\w.2.1.2.2.2.2.2.2.2.2.2.2.2.2.2.1<=d.2.1.2.2.2.2.2.2.2.2.2.2.2.2.2.1/\Qd d.2.1.2.2.2.2.2.2.2.2.2.2.2.2.2.1 S d.2.1.2.2.2.2.1.2 (λi=>w.2.2.2.2.2.2.2.2.2.2.2.2.2.1.2.1 (d.2.1.2.2.2.2.1.1+i))/\BR d.2.1.2.2.2.2.2.2.2.2.2.2.2.2.2.1 w.2.2.2.2.1 d.2.2.2.2.1/\BR d.2.1.2.2.2.2.2.2.2.2.2.2.2.2.2.1 w.2.2.2.2.2.1 d.2.2.2.2.2.1/\BR d.2.1.2.2.2.2.2.2.2.2.2.2.2.2.2.1 w.2.2.2.2.2.2.1 d.2.2.2.2.2.2.1/\BR d.2.1.2.2.2.2.2.2.2.2.2.2.2.2.2.1 w.2.2.2.2.2.2.2.1 d.2.2.2.2.2.2.2.1/\BR d.2.1.2.2.2.2.2.2.2.2.2.2.2.2.2.1 w.2.2.2.2.2.2.2.2.1 d.2.2.2.2.2.2.2.2.1/\BR d.2.1.2.2.2.2.2.2.2.2.2.2.2.2.2.1 w.2.2.2.2.2.2.2.2.2.1 d.2.2.2.2.2.2.2.2.2.1/\d.2.2.2.2.2.2.2.2.2.2.2.1.1=w.2.2.2.2.2.2.2.2.2.2.2.1.1/\d.2.2.2.2.2.2.2.2.2.2.2.1.2.2<=N) (λd:dy.B=>d.2.1.2.2.2.2.1.2) (λx:fU=>match x with|.inl x=>x.1.2.1.2<=l/\x.2.2.2.1=w.2.2.2.1/\x.2.2.2.2.2.2.2.2.2.2.2.2.2.1=w.2.2.2.2.2.2.2.2.2.2.2.2.2.1/\w.2.1.2.2.2.2.2.2.2.2.2.2.2.2.2.1<=x.2.1.2.2.2.2.2.2.2.2.2.2.2.2.1/\Qd x.2.1.2.2.2.2.2.2.2.2.2.2.2.2.1 S x.1.2.1.2 (λi=>w.2.2.2.2.2.2.2.2.2.2.2.2.2.1.2.1 (x.1.2.1.1+i))/\BR x.2.1.2.2.2.2.2.2.2.2.2.2.2.2.1 w.2.2.2.2.1 x.2.2.2.2.1/\BR x.2.1.2.2.2.2.2.2.2.2.2.2.2.2.1 w.2.2.2.2.2.1 x.2.2.2.2.2.1/\BR x.2.1.2.2.2.2.2.2.2.2.2.2.2.2.1 w.2.2.2.2.2.2.1 x.2.2.2.2.2.2.1/\BR x.2.1.2.2.2.2.2.2.2.2.2.2.2.2.1 w.2.2.2.2.2.2.2.1 x.2.2.2.2.2.2.2.1/\BR x.2.1.2.2.2.2.2.2.2.2.2.2.2.2.1 w.2.2.2.2.2.2.2.2.1 x.2.2.2.2.2.2.2.2.1/\BR x.2.1.2.2.2.2.2.2.2.2.2.2.2.2.1 w.2.2.2.2.2.2.2.2.2.1 x.2.2.2.2.2.2.2.2.2.1/\x.2.2.2.2.2.2.2.2.2.2.2.1.1=w.2.2.2.2.2.2.2.2.2.2.2.1.1/\x.2.2.2.2.2.2.2.2.2.2.2.1.2.2<=N|.inr x=>x.1.2.1.2<=l/\x.2.2.2.1=w.2.2.2.1/\x.2.2.2.2.2.2.2.2.2.2.2.2.2.1=w.2.2.2.2.2.2.2.2.2.2.2.2.2.1/\w.2.1.2.2.2.2.2.2.2.2.2.2.2.2.2.1<=x.2.1.2.2.2.2.2.2.2.2.2.2.2.2.1/\Qd x.2.1.2.2.2.2.2.2.2.2.2.2.2.2.1 S x.1.2.1.2 (λi=>w.2.2.2.2.2.2.2.2.2.2.2.2.2.1.2.1 (x.1.2.1.1+i))/\BR x.2.1.2.2.2.2.2.2.2.2.2.2.2.2.1 w.2.2.2.2.1 x.2.2.2.2.1/\BR x.2.1.2.2.2.2.2.2.2.2.2.2.2.2.1 w.2.2.2.2.2.1 x.2.2.2.2.2.1/\BR x.2.1.2.2.2.2.2.2.2.2.2.2.2.2.1 w.2.2.2.2.2.2.1 x.2.2.2.2.2.2.1/\BR x.2.1.2.2.2.2.2.2.2.2.2.2.2.2.1 w.2.2.2.2.2.2.2.1 x.2.2.2.2.2.2.2.1/\BR x.2.1.2.2.2.2.2.2.2.2.2.2.2.2.1 w.2.2.2.2.2.2.2.2.1 x.2.2.2.2.2.2.2.2.1/\BR x.2.1.2.2.2.2.2.2.2.2.2.2.2.2.1 w.2.2.2.2.2.2.2.2.2.1 x.2.2.2.2.2.2.2.2.2.1/\x.2.2.2.2.2.2.2.2.2.2.2.1.1=w.2.2.2.2.2.2.2.2.2.2.2.1.1/\x.2.2.2.2.2.2.2.2.2.2.2.1.2.2<=N) (λd hd=>by
  obtain⟨i0,ic,ir,it,iq,s4,s5,s6,s7,s8,s9,i11,bn⟩:=hd;unfold qv;dsimp only;rw[aN];refine⟨λh=> ?_,λ_=>by rw[aw];exact⟨i0,ic,ir,it,iq,s4,s5,s6,s7,s8,s9,i11,bn⟩⟩;have h:=dm h;rw[dz] at h;have h:1<=d.2.1.2.2.2.2.1.2:=by omega
  have r0:bf 0 d.2.1.2.2.2.2.1.2=true:=by rw[bq];omega
  have r1:HE 1 d.2.1.2.2.2.2.1.2=true:=by rw[aeu];omega
  rw[r0,r1,aE,aN];simp only[aQ];refine⟨λ_=> ?_,λ_=>by rw[aw];exact⟨i0,ic,ir,it,iq,s4,s5,s6,s7,s8,s9,i11,bn⟩⟩;simp only[aE];with_reducible refine aA (aYN N h1 hN _ ?_ ?_ ?_ ?_ ?_ ?_ ?_ ?_ ?_) λe _ he=> ?_
  .show d.2.2.2.2.2.2.2.2.2.2.2.1.1<=(N:Int);rw[i11];exact WS
  .exact bn
  .show d.2.1.2.2.2.2.1.2-1<=1999;omega
  .exact dL s4.len W4
  .exact dL s5.len W5
  .exact dL s6.len W6
  .exact dL s7.len W7
  .exact dL s8.len W8
  .exact dL s9.len W9
  obtain⟨a4,a5,a6,a7,a8,a9,a11,uQ,e4,et⟩:=he;have e4:e.1.1.2.2.2.2.1=d.2.1.2.2.2.2.1.2-1:=e4;have et:e.1.1.2.2.2.2.2.2.2.2.2.2.2.2.2.1=d.2.2.2.2.2.2.2.2.2.2.2.2.2.1.2.1 (d.2.1.2.2.2.2.1.1+0):=et;have iq':=iq.pop (q:=λi=>w.2.2.2.2.2.2.2.2.2.2.2.2.2.1.2.1 (d.2.1.2.2.2.2.1.1+1+i)) h (λi=>by show w.2.2.2.2.2.2.2.2.2.2.2.2.2.1.2.1 (d.2.1.2.2.2.2.1.1+1+i)=w.2.2.2.2.2.2.2.2.2.2.2.2.2.1.2.1 (d.2.1.2.2.2.2.1.1+(i+1));rw[show d.2.1.2.2.2.2.1.1+1+i=d.2.1.2.2.2.2.1.1+(i+1) by omega]);have et':e.1.1.2.2.2.2.2.2.2.2.2.2.2.2.2.1=w.2.2.2.2.2.2.2.2.2.2.2.2.2.1.2.1 (d.2.1.2.2.2.2.1.1+0):=by rw[et,ir]
  have ll:d.2.1.2.2.2.2.2.2.2.2.2.2.2.2.2.1<=e.1.1.2.2.2.2.2.2.2.2.2.2.2.2.2.1:=by rw[et'];exact iq'.1
  have le:=Int.le_of_eq et.symm;rw[aw];exact⟨⟨by show e.1.1.2.2.2.2.1<=l;omega,ic,ir,ab9 it ll,(by show Qd e.1.1.2.2.2.2.2.2.2.2.2.2.2.2.2.1 S e.1.1.2.2.2.2.1 _;rw[et',e4];exact iq'.2),(s4.mono ll).trans (a4.mono le),(s5.mono ll).trans (a5.mono le),(s6.mono ll).trans (a6.mono le),(s7.mono ll).trans (a7.mono le),(s8.mono ll).trans (a8.mono le),(s9.mono ll).trans (a9.mono le),a11.trans i11,uQ⟩,by show e.1.1.2.2.2.2.1<d.2.1.2.2.2.2.1.2;omega⟩) 2000 d hd (by omega)
theorem aMi (N:Nat)(h1:1<=N)(hN:N<=1999)(d:gw.B)(hq:d.1.c.1<=1998)(l3:d.b.2.1.b.1<=64)(l4:d.c.1.b.1<=64)(l5:d.c.2.1.b.1<=64)(l6:d.c.b.1.b.1<=64)(l7:d.c.b.2.1.b.1<=64)(l8:d.d.1.b.1<=64)(hs:d.d.b.1.1<=(N:Int))(hl:d.d.b.1.2.2<=N)(S:Int)(hS:S<=d.d.b.2.1.1)(hQ:Qd d.1.d.c.2.1 S d.1.c.1 d.d.c.1.1):Ok (kX d) (λx:jr=>x.2.1.c.1.2<=d.1.c.1+1/\x.b.2.1=d.b.1/\d.1.d.c.2.1<=x.2.1.d.c.2.1/\Qd x.2.1.d.c.2.1 d.d.b.2.1.1 x.2.1.c.1.2 (λi=>x.c.1.2.1 (x.2.1.c.1.1+i))/\BR x.2.1.d.c.2.1 d.b.2.1 x.c.2.1/\BR x.2.1.d.c.2.1 d.c.1 x.c.b.1/\BR x.2.1.d.c.2.1 d.c.2.1 x.c.b.2.1/\BR x.2.1.d.c.2.1 d.c.b.1 x.d.1/\BR x.2.1.d.c.2.1 d.c.b.2.1 x.d.2.1/\BR x.2.1.d.c.2.1 d.d.1 x.d.b.1/\x.d.c.1.1=d.d.b.1.1/\x.d.c.1.2.2<=N):=by
 unfold kX qw;try dsimp only
 show PQ _ _;simp only[aQ];have b:wr ((d.1.c.1+1)*64) 140737488355328=true:=by rw[bZ];omega
 rw[b];simp only[aE]
 have hQ':Qd d.1.d.c.2.1 d.d.b.2.1.1 (d.1.c.1+1) (λi=>bif z9 (0+i) d.1.c.1 then d.d.b.2.1.1 else d.d.c.1.1 (0+(0+i))):=hQ.push hS (λi hi=>by
  have b:z9 (0+i) d.1.c.1=false:=by
   cases hb:z9 (0+i) d.1.c.1
   .rfl
   .have:=lE hb;omega
  show(bif z9 (0+i) d.1.c.1 then d.d.b.2.1.1 else d.d.c.1.1 (0+(0+i)))=_;rw[b];simp only[bI,dG]) (by simp only[dG,aQ,bB])
 refine aA (aUO N (d.1.c.1+1) d.d.b.2.1.1 h1 hN (by omega) _ _ l3 l4 l5 l6 l7 l8 hs ⟨cZ _,rfl,rfl,fk _,hQ',BR.refl _ _,BR.refl _ _,BR.refl _ _,BR.refl _ _,BR.refl _ _,BR.refl _ _,rfl,hl⟩) λy _ hy=> ?_;rw[qQ];refine⟨λa ha=> ?_,λa ha=> ?_⟩
 .rw[ha] at hy;rw[aw];obtain⟨y0,y3,yr,yt,yq,ys⟩:=hy;exact⟨y0,y3,yt,(by rw[<-yr] at yq;exact yq),ys⟩
 .rw[ha] at hy;rw[aw];obtain⟨y0,y3,yr,yt,yq,ys⟩:=hy;exact⟨y0,y3,yt,(by rw[<-yr] at yq;exact yq),ys⟩
theorem aTk (N:Nat)(h1:1<=N)(hN:N<=1999)(x:m9.B)(hq:x.2.1.c.1<=1998)(l5:x.c.2.1.b.1<=64)(l6:x.c.b.1.b.1<=64)(l7:x.c.b.2.1.b.1<=64)(l8:x.d.1.b.1<=64)(l9:x.d.2.1.b.1<=64)(l10:x.d.b.1.b.1<=64)(hs:x.d.c.1.1<=(N:Int))(hl:x.d.c.1.2.2<=N)(h3:x.b.2.1.2.2=false->x.b.2.1.2.1.1<=0)(hQ:Qd x.2.1.d.c.2.1 x.b.2.1.2.1.1 x.2.1.c.1 x.c.1.1):Ok (gC x) (λe:qh=>e.2.1.c.1.2<=x.2.1.c.1+1/\(e.b.2.1.2.2=false->e.b.2.1.2.1.1<=0)/\x.2.1.d.c.2.1<=e.2.1.d.c.2.1/\Qd e.2.1.d.c.2.1 e.b.2.1.2.1.1 e.2.1.c.1.2 (λi=>e.c.1.2.1 (e.2.1.c.1.1+i))/\BR e.2.1.d.c.2.1 x.c.2.1 e.c.2.1/\BR e.2.1.d.c.2.1 x.c.b.1 e.c.b.1/\BR e.2.1.d.c.2.1 x.c.b.2.1 e.c.b.2.1/\BR e.2.1.d.c.2.1 x.d.1 e.d.1/\BR e.2.1.d.c.2.1 x.d.2.1 e.d.2.1/\BR e.2.1.d.c.2.1 x.d.b.1 e.d.b.1/\e.d.c.1.1=x.d.c.1.1/\e.d.c.1.2.2<=N):=by
 unfold gC uu;try dsimp only
 show PQ _ _;simp only[aQ];refine aA (aY1 _ h3) λd _ hd=> ?_;obtain⟨d1,d2,d3⟩:=hd;have d2:x.b.2.1.2.1.1<=d.2.1.2.1.1:=d2;rw[aN];refine⟨λ_=>by rw[aw];exact⟨Nat.le_succ _,d1,fk _,hQ.up d2 (λi=>by rw[dG]),BR.refl _ _,BR.refl _ _,BR.refl _ _,BR.refl _ _,BR.refl _ _,BR.refl _ _,rfl,hl⟩,λ_=> ?_⟩;rw[aN];refine⟨λ_=>by rw[aw];exact⟨Nat.le_succ _,d1,fk _,hQ.up d2 (λi=>by rw[dG]),BR.refl _ _,BR.refl _ _,BR.refl _ _,BR.refl _ _,BR.refl _ _,BR.refl _ _,rfl,hl⟩,λc=> ?_⟩;have c:d.1.2.1=true:=by simpa using c
 have d3:=d3 c;have d4:x.b.2.1.2.1.1<=d.1.1.1:=by omega
 rw[aN];refine⟨λ_=> ?_,λ_=> ?_⟩
 .simp only[aE];with_reducible refine aA (aOF N hN _ ?_ ?_) λe _ he=> ?_
  .exact hl
  .exact hs
  rw[uD];refine⟨λa ha=> ?_,λa ha=> ?_⟩
  .rw[ha] at he;have he:a.2.1=x.d.c.1:=he;simp only[aE];with_reducible refine aA (aMi N h1 hN _ ?_ ?_ ?_ ?_ ?_ ?_ ?_ ?_ ?_ x.b.2.1.2.1.1 d4 hQ) λy _ hy=> ?_
   .exact hq
   .exact l5
   .exact l6
   .exact l7
   .exact l8
   .exact l9
   .exact l10
   .show a.2.1.1<=(N:Int);rw[he];exact hs
   .show a.2.1.2.2<=N;rw[he];exact hl
   rw[aw];have e0:(a.2.1.1:Int)=x.d.c.1.1:=by rw[he]
   obtain⟨q,qs,qt,qq,s5,s6,s7,s8,s9,s10,p1,p2⟩:=hy;exact⟨q,(by rw[show y.b.2.1=d.2.1 from qs];exact d1),qt,(by rw[show y.b.2.1=d.2.1 from qs,<-d3];exact qq),s5,s6,s7,s8,s9,s10,p1.trans e0,p2⟩
  .rw[ha] at he;obtain⟨e1,e2,e3,e4⟩:=he;have e1:a.1.1.1=x.d.c.1.1:=e1;simp only[aE];with_reducible refine aA (aMi N h1 hN _ ?_ ?_ ?_ ?_ ?_ ?_ ?_ ?_ ?_ x.b.2.1.2.1.1 d4 hQ) λy _ hy=> ?_
   .exact hq
   .exact l5
   .exact l6
   .exact l7
   .exact l8
   .exact l9
   .exact l10
   .show a.1.1.1<=(N:Int);rw[e1];exact hs
   .exact e2
   rw[aw];obtain⟨q,qs,qt,qq,s5,s6,s7,s8,s9,s10,p1,p2⟩:=hy;exact⟨q,(by rw[show y.b.2.1=d.2.1 from qs];exact d1),qt,(by rw[show y.b.2.1=d.2.1 from qs,<-d3];exact qq),s5,s6,s7,s8,s9,s10,p1.trans e1,p2⟩
 .simp only[aE];with_reducible refine aA (aMi N h1 hN _ ?_ ?_ ?_ ?_ ?_ ?_ ?_ ?_ ?_ x.b.2.1.2.1.1 d4 hQ) λy _ hy=> ?_
  .exact hq
  .exact l5
  .exact l6
  .exact l7
  .exact l8
  .exact l9
  .exact l10
  .exact hs
  .exact hl
  rw[aw];obtain⟨q,qs,qt,qq,qr⟩:=hy;exact⟨q,(by rw[show y.b.2.1=d.2.1 from qs];exact d1),qt,(by rw[show y.b.2.1=d.2.1 from qs,<-d3];exact qq),qr⟩
theorem aUP (d:dy.B)(hd:GF d.2.1.b.1 d.2.1.b.2.1 d.2.1.c.2.1 d.2.1.d.c.b.2.1):Po (vi d) (λx:fU=>match x with|.inl x=>GF x.2.1.b.1 x.2.1.b.2.1 x.2.1.c.1 x.2.1.d.c.b.1|.inr x=>GF x.2.1.b.1 x.2.1.b.2.1 x.2.1.c.1 x.2.1.d.c.b.1):=
 u3 (s:=_) (λd:dy.B=>GF d.2.1.b.1 d.2.1.b.2.1 d.2.1.c.2.1 d.2.1.d.c.b.2.1) (λx:fU=>match x with|.inl x=>GF x.2.1.b.1 x.2.1.b.2.1 x.2.1.c.1 x.2.1.d.c.b.1|.inr x=>GF x.2.1.b.1 x.2.1.b.2.1 x.2.1.c.1 x.2.1.d.c.b.1) (λd hd=>by
  unfold qv;try dsimp only
  try dsimp only
  repeat' (first
   |(rw[cw];exact trivial)
   |(with_reducible refine aC (a0B _ ?_) λe _ he=> ?_)
   |(rw[jY];refine⟨λe0 e1=> ?_,λe0 e1=> ?_⟩)
   |(rw[gB];refine⟨λe0 e1=> ?_,λe0 e1=> ?_⟩)
   |(rw[aT];refine⟨λ_=> ?_,λ_=> ?_⟩)
   |(rw[bg];intro _ _))
  all_goals first
   |exact hd
   |(rw[aL];first|exact he|exact hd)) 2000 d hd
theorem aUQ (d:gw.B)(h:GF d.1.b.1 d.1.b.2.1 d.1.c.2.1 d.1.d.c.b.2.1):Po (kX d) (λx:jr=>GF x.2.1.b.1 x.2.1.b.2.1 x.2.1.c.2.1 x.2.1.d.c.b.2.1):=by
 unfold kX qw;try dsimp only
 show PW _ _;try dsimp only
 repeat' (first
   |(rw[cw];exact trivial)
   |(with_reducible refine aC (aUP _ ?_) λe _ he=> ?_)
   |(rw[jY];refine⟨λe0 e1=> ?_,λe0 e1=> ?_⟩)
   |(rw[gB];refine⟨λe0 e1=> ?_,λe0 e1=> ?_⟩)
   |(rw[aT];refine⟨λ_=> ?_,λ_=> ?_⟩)
   |(rw[bg];intro _ _))
 all_goals first
   |exact h
   |(rw[aL];subst e1;exact he)
theorem aY2 (x:m9.B)(h:GF x.2.1.b.1 x.2.1.b.2.1 x.2.1.c.2.1 x.2.1.d.c.b.2.1):Po (gC x) (λe:qh=>GF e.2.1.b.1 e.2.1.b.2.1 e.2.1.c.2.1 e.2.1.d.c.b.2.1):=by
 unfold gC uu;try dsimp only
 show PW _ _;try dsimp only
 repeat' (first
   |(rw[cw];exact trivial)
   |(with_reducible refine aC (aUQ _ ?_) λe _ he=> ?_)
   |(rw[jY];refine⟨λe0 e1=> ?_,λe0 e1=> ?_⟩)
   |(rw[gB];refine⟨λe0 e1=> ?_,λe0 e1=> ?_⟩)
   |(rw[aT];refine⟨λ_=> ?_,λ_=> ?_⟩)
   |(rw[bg];intro _ _))
 all_goals first
   |exact h
   |(rw[aL];first|exact h|exact he)
theorem aRT:∀(d:sF.B) (hd:0<=d.1.2/\d.1.2<=24/\(∀j,j<276->Ur (d.c.1 j))/\(∀j:Nat,(j:Int)<d.1.2->Dr (d.c.2 j))),Po (VE d) (λx:G5=>vh x.b.2.2):=
 lN (λd hd=>by
  unfold VD;try dsimp only
  try dsimp only
  obtain⟨i0,i1,i2,i3⟩:=hd;rw[aT];refine⟨λh=> ?_,λh=> ?_⟩
  .have h:=dm h;have hw:wI (d.1.2+1)=d.1.2+1:=aW
   have key:∀(x:Int) (n:Nat->Int),Dr x->(∀j,n j=bif z9 j (z4 d.1.2) then x else d.c.2 j)->(∀j:Nat,(j:Int)<d.1.2+1->Dr (n j)):=λx n hx hn j hj=>by
    rw[hn];cases hb:z9 j (z4 d.1.2) with
    |true=>exact hx
    |false=>
     have nb:j≠z4 d.1.2:=λh=>by rw[h,Fz] at hb;cases hb
     exact i3 j (by omega)
   rw[hw]
   repeat' (first
    |(rw[cw];exact trivial)
    |(with_reducible refine aC (aCj _ _) λe _ he=> ?_)
    |(rw[aT];refine⟨λ_=> ?_,λ_=> ?_⟩))
   .rw[aL]
    exact⟨by show 0<=d.1.2+1;omega,by show d.1.2+1<=24;omega,i2,key e.1 _ he λj=>by
     show(bif z9 j (z4 d.1.2) then e.1 else bif z9 j (z4 d.1.2) then 1 else d.c.2 j)=_;cases z9 j (z4 d.1.2)<;>rfl⟩
   .rw[aL];exact⟨by show 0<=d.1.2+1;omega,by show d.1.2+1<=24;omega,i2,key 1 _ (by decide) λj=>rfl⟩
  .have h:=vk h;rw[aL];exact⟨i2,λj hj=>i3 j (by omega)⟩)
theorem aUR (x0:Nat)(x1:Bool)(x2:Nat->Int)(w0:Bool):Po (Kr x0 x1 x2 w0) (λr=>vh r.1):=by
 unfold Kr ahx;show PW _ _;rw[gU];intro _;refine aC (aRT _ ⟨(show(0:Int)<=0 by decide),(show(0:Int)<=24 by decide),λj _=>(show Ur 0 by decide),λj hj=>absurd (show(j:Int)<0 from hj) (by omega)⟩) λe _ he=> ?_;rw[aL];exact he
theorem a2n (x:KZ.B):Po (uU x) (λr:Qn=>match r with|.inl _=>True|.inr e=>Iw e.1.e.d.b.2.1/\vh e.1.e.d.b.2.2):=by
 unfold uU ZG;try dsimp only
 show PW _ _;try dsimp only
 repeat' (first
   |(rw[cw];exact trivial)
   |(with_reducible refine aC (NM _ _) λs _ hs=> ?_)
   |(with_reducible refine aC (aUR _ _ _ _) λv _ hv=> ?_)
   |(rw[jY];refine⟨λe0 e1=> ?_,λe0 e1=> ?_⟩)
   |(rw[gB];refine⟨λe0 e1=> ?_,λe0 e1=> ?_⟩)
   |(rw[aT];refine⟨λ_=> ?_,λ_=> ?_⟩)
   |(rw[bg];intro _ _))
 all_goals (rw[aL];first|exact trivial|exact⟨hs,hv⟩)
theorem aUS (x:mA.B):Po (iF x) (λe:qg=>e.2.1=x.2.1/\e.d.c.1=x.d.c.1/\e.e.b.2.2=x.e.b.2.2):=by
 unfold iF vP;try dsimp only
 show PW _ _;try dsimp only
 repeat' (first
   |(rw[cw];exact trivial)
   |(rw[jY];refine⟨λe0 e1=> ?_,λe0 e1=> ?_⟩)
   |(rw[gB];refine⟨λe0 e1=> ?_,λe0 e1=> ?_⟩)
   |(rw[aT];refine⟨λ_=> ?_,λ_=> ?_⟩)
   |(rw[bg];intro _ _))
 all_goals (rw[aL];exact⟨rfl,rfl,rfl⟩)
def OE (e:Int×Int×Int×Int×Int×Int×Int×Int×Int×Int×Int):Prop:=UQ e.2.1 e.b.1 e.b.2.1 e.c.1/\((-549755813888<=e.c.2.1/\e.c.2.1<=549755813888)/\(-549755813888<=e.c.b.1/\e.c.b.1<=549755813888)/\(-549755813888<=e.c.b.2.1/\e.c.b.2.1<=549755813888))/\(-9007199254740992<=e.d.1/\e.d.1<=9007199254740992)/\(-9007199254740992<=e.d.2.1/\e.d.2.1<=9007199254740992)/\(-9007199254740992<=e.d.2.2/\e.d.2.2<=9007199254740992)
abbrev ao0:Type:=(Nat->Int)×(Nat->Int)×(Nat->Int)×(Nat->Int)×(Nat->Int)×(Nat->Int)×(Nat->Int)×(Nat->Int)×(Nat->Int)×(Nat->Int)×(Nat->Int)
def N8 (rr:ao0)(i:Nat):Int×Int×Int×Int×Int×Int×Int×Int×Int×Int×Int:=(rr.1 i,rr.2.1 i,rr.b.1 i,rr.b.2.1 i,rr.c.1 i,rr.c.2.1 i,rr.c.b.1 i,rr.c.b.2.1 i,rr.d.1 i,rr.d.2.1 i,rr.d.2.2 i)
def OG (n:Nat)(rr:ao0):Prop:=(∀i,i<n->OE (N8 rr i))/\∀i,1<=i->i<n->rr.1 (i-1)<rr.1 i
theorem OG.none (rr:ao0):OG 0 rr:=⟨λi h=>absurd h (Nat.not_lt_zero _),λi _ h=>absurd h (Nat.not_lt_zero _)⟩
theorem OG.ext {n:Nat}{rr ss:ao0}(h:OG n rr)(k:∀i,i<n->N8 ss i=N8 rr i):OG n ss:=by
 refine⟨λi hi=>by rw[k i hi];exact h.1 i hi,λi h1 hi=> ?_⟩;have a:ss.1 i=rr.1 i:=cW (λe=>e.1) (k i hi);have b:ss.1 (i-1)=rr.1 (i-1):=cW (λe=>e.1) (k (i-1) (by omega));rw[a,b];exact h.2 i h1 hi
theorem OG.zero {n:Nat}{rr:ao0}(h:OG n rr):OG n (λj=>rr.1 (0+j),λj=>rr.2.1 (0+j),λj=>rr.b.1 (0+j),λj=>rr.b.2.1 (0+j),λj=>rr.c.1 (0+j),λj=>rr.c.2.1 (0+j),λj=>rr.c.b.1 (0+j),λj=>rr.c.b.2.1 (0+j),λj=>rr.d.1 (0+j),λj=>rr.d.2.1 (0+j),λj=>rr.d.2.2 (0+j)):=h.ext λi _=>by unfold N8;dsimp only;rw[dG]
theorem OG.le {n m:Nat}{rr:ao0}(h:OG n rr)(k:m<=n):OG m rr:=⟨λi hi=>h.1 i (by omega),λi h1 hi=>h.2 i h1 (by omega)⟩
theorem OG.tail {n:Nat}{rr:ao0}(h:OG (n+1) rr):OG n (λj=>rr.1 (1+j),λj=>rr.2.1 (1+j),λj=>rr.b.1 (1+j),λj=>rr.b.2.1 (1+j),λj=>rr.c.1 (1+j),λj=>rr.c.2.1 (1+j),λj=>rr.c.b.1 (1+j),λj=>rr.c.b.2.1 (1+j),λj=>rr.d.1 (1+j),λj=>rr.d.2.1 (1+j),λj=>rr.d.2.2 (1+j)):=by
 refine⟨λi hi=>h.1 (1+i) (by omega),λi h1 hi=> ?_⟩;have:=h.2 (1+i) (by omega) (by omega);show rr.1 (1+(i-1))<rr.1 (1+i);rw[show 1+(i-1)=1+i-1 by omega];exact this
theorem OG.put {n k:Nat}{rr:ao0}{e:Int×Int×Int×Int×Int×Int×Int×Int×Int×Int×Int}(h:OG n rr)(he:OE e)(ht:k<n->e.1=rr.1 k)(hk:k<=n)(hl:k=n->1<=n->rr.1 (n-1)<e.1)(m:Nat)(hm:m=n∨(m=n+1/\k=n)):OG m (λj=>bif z9 j k then e.1 else rr.1 j,λj=>bif z9 j k then e.2.1 else rr.2.1 j,λj=>bif z9 j k then e.b.1 else rr.b.1 j,λj=>bif z9 j k then e.b.2.1 else rr.b.2.1 j,λj=>bif z9 j k then e.c.1 else rr.c.1 j,λj=>bif z9 j k then e.c.2.1 else rr.c.2.1 j,λj=>bif z9 j k then e.c.b.1 else rr.c.b.1 j,λj=>bif z9 j k then e.c.b.2.1 else rr.c.b.2.1 j,λj=>bif z9 j k then e.d.1 else rr.d.1 j,λj=>bif z9 j k then e.d.2.1 else rr.d.2.1 j,λj=>bif z9 j k then e.d.2.2 else rr.d.2.2 j):=by
 have no:∀i,i≠k->z9 i k=false:=λi hi=>by
  cases hb:z9 i k with
  |false=>rfl
  |true=>exact absurd (lE hb) hi
 have rk:N8 (λj=>bif z9 j k then e.1 else rr.1 j,λj=>bif z9 j k then e.2.1 else rr.2.1 j,λj=>bif z9 j k then e.b.1 else rr.b.1 j,λj=>bif z9 j k then e.b.2.1 else rr.b.2.1 j,λj=>bif z9 j k then e.c.1 else rr.c.1 j,λj=>bif z9 j k then e.c.2.1 else rr.c.2.1 j,λj=>bif z9 j k then e.c.b.1 else rr.c.b.1 j,λj=>bif z9 j k then e.c.b.2.1 else rr.c.b.2.1 j,λj=>bif z9 j k then e.d.1 else rr.d.1 j,λj=>bif z9 j k then e.d.2.1 else rr.d.2.1 j,λj=>bif z9 j k then e.d.2.2 else rr.d.2.2 j) k=e:=by
  unfold N8;dsimp only;rw[Fz];rfl
 have ri:∀i,i≠k->N8 (λj=>bif z9 j k then e.1 else rr.1 j,λj=>bif z9 j k then e.2.1 else rr.2.1 j,λj=>bif z9 j k then e.b.1 else rr.b.1 j,λj=>bif z9 j k then e.b.2.1 else rr.b.2.1 j,λj=>bif z9 j k then e.c.1 else rr.c.1 j,λj=>bif z9 j k then e.c.2.1 else rr.c.2.1 j,λj=>bif z9 j k then e.c.b.1 else rr.c.b.1 j,λj=>bif z9 j k then e.c.b.2.1 else rr.c.b.2.1 j,λj=>bif z9 j k then e.d.1 else rr.d.1 j,λj=>bif z9 j k then e.d.2.1 else rr.d.2.1 j,λj=>bif z9 j k then e.d.2.2 else rr.d.2.2 j) i=N8 rr i:=λi hi=>by
  unfold N8;dsimp only;rw[no i hi];rfl
 refine⟨λi hi=> ?_,λi h1 hi=> ?_⟩
 .rcases Nat.decEq i k with c|c
  .rw[ri i c];exact h.1 i (by omega)
  .rw[c,rk];exact he
 .show(bif z9 (i-1) k then e.1 else rr.1 (i-1))<(bif z9 i k then e.1 else rr.1 i);rcases Nat.decEq i k with c|c
  .rw[no i c];have hi:i<n:=by omega
   rcases Nat.decEq (i-1) k with d|d
   .rw[no (i-1) d];exact h.2 i h1 hi
   .rw[d,Fz];show e.1<rr.1 i;rw[ht (by omega),<-d];exact h.2 i h1 hi
  .rw[no (i-1) (by omega),c,Fz];show rr.1 (k-1)<e.1;rcases ni k n with d|d
   .rw[ht d];exact h.2 k (by omega) d
   .have e1:k=n:=by omega
    rw[e1];exact hl e1 (by omega)
theorem OG.mix {n m:Nat}{rr ss:ao0}(h:OG n rr)(e:m=n):OG n (λj=>bif true&&wl j (0+m) then rr.1 j else ss.1 j,λj=>bif true&&wl j (0+m) then rr.2.1 j else ss.2.1 j,λj=>bif true&&wl j (0+m) then rr.b.1 j else ss.b.1 j,λj=>bif true&&wl j (0+m) then rr.b.2.1 j else ss.b.2.1 j,λj=>bif true&&wl j (0+m) then rr.c.1 j else ss.c.1 j,λj=>bif true&&wl j (0+m) then rr.c.2.1 j else ss.c.2.1 j,λj=>bif true&&wl j (0+m) then rr.c.b.1 j else ss.c.b.1 j,λj=>bif true&&wl j (0+m) then rr.c.b.2.1 j else ss.c.b.2.1 j,λj=>bif true&&wl j (0+m) then rr.d.1 j else ss.d.1 j,λj=>bif true&&wl j (0+m) then rr.d.2.1 j else ss.d.2.1 j,λj=>bif true&&wl j (0+m) then rr.d.2.2 j else ss.d.2.2 j):=h.ext λi hi=>by
 subst e;have b:(true&&wl i (0+m))=true:=by rw[nY,dG];exact aEA hi
 unfold N8;dsimp only;rw[b];rfl
theorem a0C (s:Nat->Int):dZ s 4=some (s 4,s 5,s 6):=by kernel_rfl
theorem a0D (s:Nat->Int):dZ s 7=some (s 7,s 8,s 9):=by kernel_rfl
theorem aTl (s:Nat->Int)(t:Int)(c:Bool):Po (kd s t c) (λr=>OE r.1/\r.1.1=t):=by
 unfold kd V2;show PW _ _;refine aC (NM _ _) λd _ hd=> ?_;rw[aRJ,bg];intro a ha;have ha:=HX ha;subst ha;rw[a0C,bg];intro a ha;have ha:=HX ha;subst ha;rw[a0D,bg];intro a ha;have ha:=HX ha;subst ha;rw[aL];have b:=λj h=>hd.2 j h
 exact⟨⟨hd.1,⟨hd.2 4 (by decide) (by decide),hd.2 5 (by decide) (by decide),hd.2 6 (by decide) (by decide)⟩,hd.2 7 (by decide) (by decide),hd.2 8 (by decide) (by decide),hd.2 9 (by decide) (by decide)⟩,rfl⟩
theorem aY3 (x:gV.B):Po (dK x) (λr=>OE r.2/\r.1.1.1=x.2.1.1):=by
 unfold dK mD;show PW _ _;refine aC (aTl _ _ _) λd _ hd=> ?_;rw[aL];exact⟨hd.1,rfl⟩
theorem OG.one {e:Int×Int×Int×Int×Int×Int×Int×Int×Int×Int×Int}(h:OE e):OG 1 (λj=>bif z9 j 0 then e.1 else e.1,λj=>bif z9 j 0 then e.2.1 else e.2.1,λj=>bif z9 j 0 then e.b.1 else e.b.1,λj=>bif z9 j 0 then e.b.2.1 else e.b.2.1,λj=>bif z9 j 0 then e.c.1 else e.c.1,λj=>bif z9 j 0 then e.c.2.1 else e.c.2.1,λj=>bif z9 j 0 then e.c.b.1 else e.c.b.1,λj=>bif z9 j 0 then e.c.b.2.1 else e.c.b.2.1,λj=>bif z9 j 0 then e.d.1 else e.d.1,λj=>bif z9 j 0 then e.d.2.1 else e.d.2.1,λj=>bif z9 j 0 then e.d.2.2 else e.d.2.2):=by
 refine⟨λi hi=> ?_,λi h1 hi=>absurd hi (by omega)⟩;have:i=0:=by omega
 subst this;exact h
theorem a0E (x:iN.B)(hx:OG x.2.1.2.2 x.2.2.2)(hn:x.2.1.2.2<=1999):Po (cM x) (λr:iO=>match r with|.inl e=>e.2.1=x.2.1|.inr e=>OG e.1.1.2.2 e.2.2):=by
 unfold cM nG;try dsimp only
 show PW _ _;rw[aT];refine⟨λ_=>by rw[aL],λn0=> ?_⟩;have n0:¬ws x.2.1.2.2=0:=ati n0;rw[dz] at n0
 have w1:wI (ws x.2.1.2.2-1)=((x.2.1.2.2-1:Nat):Int):=by
  rw[dz];exact(dV (by omega) (by omega)).trans (by omega)
 rw[w1,Kf];rw[gU];intro _;rw[aT];refine⟨λ_=>by rw[aL],λ_=> ?_⟩;rw[aT];refine⟨λ_=>by rw[aL],λht=> ?_⟩;have ht:=vk ht;rw[bg];intro _ _;rw[bg];intro _ _;refine aC (aTl _ _ _) λe _ he=> ?_;have p:=OG.put (e:=e.1) hx he.1 (k:=x.2.1.2.2) (λh=>absurd h (Nat.lt_irrefl _)) (cZ _) (λ_ _=>by rw[he.2];show x.2.2.2.1 (x.2.1.2.2-1)<x.1.2.1;omega) (x.2.1.2.2+1) (.inr ⟨rfl,rfl⟩);rw[gU];intro _;rw[aT];refine⟨λ_=> ?_,λ_=> ?_⟩
 .rw[gU];intro _;rw[gU];intro _;rw[aL];have t:=p.tail;have en:0+(x.2.1.2.2+1-1)=x.2.1.2.2:=by omega
  show OG (0+(x.2.1.2.2+1-1)) _;rw[en];exact t
 .rw[aL];exact p
theorem aRU (n:Nat)(d:cN.B)(hn:n<=1999)(hd:d.1.1=n/\0<=d.1.2.2/\OG n d.c.2.2):Po (mU d) (λx:fe=>x.1.1=n/\OG n x.c.2.2):=
 u3 (s:=_) (λd:cN.B=>d.1.1=n/\0<=d.1.2.2/\OG n d.c.2.2) (λx:fe=>x.1.1=n/\OG n x.c.2.2) (λd hd=>by
  obtain⟨i0,i1,i2⟩:=hd;unfold mT;dsimp only;rw[aT];refine⟨λ_=> ?_,λ_=>by rw[aL];exact⟨i0,i2⟩⟩;rw[gU];intro hr;rw[bq,i0] at hr;have hw:wI (d.1.2.2+1)=d.1.2.2+1:=aW
  repeat' (first
   |(rw[cw];exact trivial)
   |(with_reducible refine aC (aTl _ _ _) λe _ he=> ?_)
   |(rw[bg];intro _ _)
   |(rw[aT];refine⟨λc=> ?_,λc=> ?_⟩))
  rw[aL];exact⟨i0,by show 0<=wI (d.1.2.2+1);rw[hw];omega,OG.put (e:=e.1) (k:=z4 d.1.2.2) i2 he.1 (λ_=>he.2) (by omega) (λh=>absurd h (by omega)) n (.inl rfl)⟩) 2000 d hd
theorem aUT (x:iT.B)(hn:x.1.2.2<=1999)(hx:OG x.1.2.2 x.c.2):Po (fZ x) (λr=>r.2.1=x.1.2.2/\OG x.1.2.2 r.2.2):=by
 unfold fZ o9;show PW _ _;rw[gU];intro _;refine aC (aRU x.1.2.2 _ hn ⟨rfl,fk 0,hx⟩) λe _ he=> ?_;rw[aL];exact he
theorem aRV (n:Nat)(d:cO.B)(hn:n<=1999)(hd:d.1.1=n/\0<=d.1.2.2/\OG n d.b.2.2):Po (mW d) (λx:fg=>x.1.1=n/\OG n x.b.2.2):=
 u3 (s:=_) (λd:cO.B=>d.1.1=n/\0<=d.1.2.2/\OG n d.b.2.2) (λx:fg=>x.1.1=n/\OG n x.b.2.2) (λd hd=>by
  obtain⟨i0,i1,i2⟩:=hd;unfold mV;dsimp only;rw[aT];refine⟨λ_=> ?_,λ_=>by rw[aL];exact⟨i0,i2⟩⟩;rw[gU];intro hr;rw[bq,i0] at hr;have hw:wI (d.1.2.2+1)=d.1.2.2+1:=aW
  repeat' (first
   |(rw[cw];exact trivial)
   |(with_reducible refine aC (aTl _ _ _) λe _ he=> ?_)
   |(rw[bg];intro _ _)
   |(rw[aT];refine⟨λc=> ?_,λc=> ?_⟩))
  rw[aL];exact⟨i0,by show 0<=wI (d.1.2.2+1);rw[hw];omega,OG.put (e:=e.1) (k:=z4 d.1.2.2) i2 he.1 (λ_=>he.2) (by omega) (λh=>absurd h (by omega)) n (.inl rfl)⟩) 2000 d hd
theorem aUU (x:iU.B)(hn:x.1.2.2<=1999)(hx:OG x.1.2.2 x.b.2):Po (gf x) (λr=>r.2.1=x.1.2.2/\OG x.1.2.2 r.2.2):=by
 unfold gf pe;show PW _ _;rw[gU];intro _;refine aC (aRV x.1.2.2 _ hn ⟨rfl,fk 0,hx⟩) λe _ he=> ?_;rw[aL];exact he
theorem aUV (n:Nat)(hn:n<=1999):∀(d:dE.B) (hd:d.2.1.2.2=n/\OG n d.b.2.2),Po (ph d) (λx:iV=>x.2.1.2.2=n/\OG n x.b.2.2):=
 lN (λd hd=>by
  obtain⟨i0,i1⟩:=hd;unfold pg;dsimp only
  repeat' (first
   |(rw[cw];exact trivial)
   |(with_reducible refine aC (aUU _ ?_ ?_) λe _ he=> ?_)
   |(rw[aT];refine⟨λc=> ?_,λc=> ?_⟩))
  .show d.2.1.2.2<=1999;omega
  .show OG d.2.1.2.2 d.b.2.2;rw[i0];exact i1
  .rw[aL];obtain⟨h1,h2⟩:=he;have h1:e.2.1=d.2.1.2.2:=h1;have h2:OG d.2.1.2.2 e.2.2:=h2;rw[i0] at h1 h2;exact⟨i0,h2.mix (ss:=d.b.2.2) h1⟩
  .rw[aL];exact⟨i0,i1⟩)
theorem aY4 (x:jU.B)(hn:x.2.1.2.2<=1999)(hx:OG x.2.1.2.2 x.b.2.2):Po (gW x) (λr=>r.2.1=x.2.1.2.2/\OG x.2.1.2.2 r.2.2):=by
 unfold gW qR;show PW _ _;rw[gU];intro _;rw[gU];intro _;refine aC (aUV x.2.1.2.2 hn _ ⟨rfl,hx⟩) λe _ he=> ?_;rw[aL];exact he
def OB (p:Int×Int×Nat)(r:ao0):Prop:=p.1<=64/\p.2.2<=64/\OG p.2.2 r
theorem OB.zero {p:Int×Int×Nat}{rr:ao0}(h:OB p rr):OB p (λj=>rr.1 (0+j),λj=>rr.2.1 (0+j),λj=>rr.b.1 (0+j),λj=>rr.b.2.1 (0+j),λj=>rr.c.1 (0+j),λj=>rr.c.2.1 (0+j),λj=>rr.c.b.1 (0+j),λj=>rr.c.b.2.1 (0+j),λj=>rr.d.1 (0+j),λj=>rr.d.2.1 (0+j),λj=>rr.d.2.2 (0+j)):=⟨h.1,h.2.1,h.2.2.zero⟩
theorem aOR (x:iN.B)(hx:OB x.2.1 x.b.2):Po (cM x) (λr:iO=>match r with|.inl e=>e.2.1=x.2.1|.inr e=>OB e.1.1 e.2.2):=by
 have a:=a0E x hx.2.2 (dL hx.2.1 (by decide))
 have b:Po (cM x) (λr:iO=>match r with|.inl _=>True|.inr e=>e.1.1.1<=64/\e.1.1.2.2<=64):=by
  have h1:=hx.1;have h2:=hx.2.1;unfold cM nG;try dsimp only
  show PW _ _
  repeat' (first
   |(rw[cw];exact trivial)
   |(rw[bg];intro _ _)
   |(rw[aT];refine⟨λc=> ?_,λc=> ?_⟩))
  all_goals (rw[aL];first|exact trivial|skip)
  .exact⟨h1,by show 0+(x.2.1.2.2+1-1)<=64;omega⟩
  .have c:=vk c;rw[dz] at c;exact⟨h1,by show x.2.1.2.2+1<=64;omega⟩
 intro r hr;have a:=a r hr;have b:=b r hr;cases r with
 |inl e=>exact a
 |inr e=>exact⟨b.1,b.2,a⟩
theorem aIp (w:cP.B):∀(d:cP.B) (hd:d.1.b.1=w.1.b.1/\d.2.1=w.2.1/\d.b.2.1=w.b.2.1),Po (m5 d) (λx:gO=>x.1.b.1=w.1.b.1/\x.2.1=w.2.1/\x.b.2.1=w.b.2.1):=
 lN (λd hd=>by
  unfold m4;dsimp only
  repeat' (first
   |(rw[cw];exact trivial)
   |(rw[bg];intro _ _)
   |(rw[aT];refine⟨λc=> ?_,λc=> ?_⟩))
  all_goals first
   |(rw[aL];exact hd)
   |(rw[aL];exact⟨(by rw[he.1,he.2.1];exact hd.1),he.2.2.trans hd.2⟩))
theorem aIq (d:dQ.B):Po (gP d) (λx:fh=>x.1.2.1=d.2.1.2.1/\x.2.1=(d.2.1.1,d.2.1.2.2)/\x.b.2.1=d.b.2.1):=by
 unfold gP m6;try dsimp only
 show PW _ _
 repeat' (first
  |(rw[cw];exact trivial)
  |(rw[bg];intro _ _)
  |(rw[aT];refine⟨λc=> ?_,λc=> ?_⟩))
 all_goals (rw[aL];exact⟨rfl,rfl,rfl⟩)
theorem aIr (w:cQ.B):∀(d:cQ.B) (hd:d.2.1=w.2.1/\d.b.2.1=w.b.2.1),Po (m8 d) (λx:gQ=>x.2.1=w.2.1/\x.b.2.1=w.b.2.1):=
 lN (λd hd=>by
  unfold m7;dsimp only
  repeat' (first
   |(rw[cw];exact trivial)
   |(with_reducible refine aC (aIq _) λe _ he=> ?_)
   |(rw[aT];refine⟨λc=> ?_,λc=> ?_⟩))
  all_goals (rw[aL];first
   |exact hd
   |(obtain⟨h1,h2,h3⟩:=he
     refine⟨?_,h3.trans hd.2⟩;rw[<-hd.1];show(e.2.1.1,e.1.2.1,e.2.1.2)=d.2.1;rw[h1,h2])))
theorem aRW (x:iW.B)(hx:OB x.2.1 x.b.2):Po (gh x) (λr=>OB x.2.1 r.b.2/\r.b.1=x.2.1.2.2):=by
 unfold gh pj;try dsimp only
 show PW _ _;rw[gU];intro _;refine aC (aIp _ _ ⟨rfl,rfl,rfl⟩) λd _ hd=> ?_;obtain⟨d0,d1,d3⟩:=hd;have d0:d.1.b.1=x.2.1.2.2:=d0;have d1:d.2.1=x.2.1:=d1;have d3:d.b.2.1=x.b.2:=d3;try dsimp only
 rw[aT];refine⟨λ_=> ?_,λ_=> ?_⟩
 .rw[aL];refine⟨?_,d0⟩;show OB x.2.1 d.b.2.1;rw[d3];exact hx
 rw[gU];intro _;rw[bg];intro _ _;rw[bg];intro _ _;rw[bg];intro _ _;rw[bg];intro _ _;rw[bg];intro _ _;refine aC (aIr _ _ ⟨rfl,rfl⟩) λe _ he=> ?_;obtain⟨e1,e3⟩:=he;have e1:e.2.1=x.2.1:=e1.trans d1;have e3:e.b.2.1=(x.2.1.2.2,x.b.2):=e3.trans (by show(d.1.b.1,d.b.2.1)=_;rw[d0,d3]);rw[bg];intro _ _;rw[gU];intro _;refine aC (aUT _ ?_ ?_) λq _ hq=> ?_
 .show e.2.1.2.2<=1999;rw[e1];exact dL hx.2.1 (by decide)
 .show OG e.2.1.2.2 e.b.2.1.2;rw[e1,e3];exact hx.2.2
 obtain⟨q1,q2⟩:=hq;have q1:q.2.1=x.2.1.2.2:=q1.trans (by show e.2.1.2.2=_;rw[e1])
 have q2:OG x.2.1.2.2 q.2.2:=by
  have q2:OG e.2.1.2.2 q.2.2:=q2;rw[e1] at q2;exact q2
 rw[gU];intro _;rw[gU];intro _;rw[aL];refine⟨⟨hx.1,hx.2.1,q2.mix (ss:=e.b.2.1.2) q1⟩,?_⟩;show e.b.2.1.1=_;rw[e3]
theorem aOS (d:dk.B)(hd:OB d.d.c.1 d.e.c.2.2):Po (nd d) (λx:fI=>OB x.d.c.1 x.e.c.2.2):=
 u3 (s:=_) (λd:dk.B=>OB d.d.c.1 d.e.c.2.2) (λx:fI=>OB x.d.c.1 x.e.c.2.2) (λd hd=>by
  unfold re;dsimp only
  repeat' (first
   |(rw[cw];exact trivial)
   |(with_reducible refine aC (aOR _ ?_) λe _ he=> ?_)
   |(rw[jY];refine⟨λe0 e1=> ?_,λe0 e1=> ?_⟩)
   |(rw[aT];refine⟨λc=> ?_,λc=> ?_⟩))
  .exact hd.zero
  .subst e1;rw[aL];have he:e0.2.1=d.d.c.1:=he;show OB e0.2.1 d.e.c.2.2;rw[he];exact hd
  .subst e1;rw[aL];exact he
  .rw[aL];exact hd) 2000 d hd
theorem aUW (x:kV.B)(h:x.d.c.1.1<=64):Po (jq x) (λr:mP=>match r with|.inl e=>e.2=x.d.c.1|.inr e=>OB e.1.2 e.2.2):=by
 unfold jq qu;try dsimp only
 show PW _ _
 repeat' (first
   |(rw[cw];exact trivial)
   |(with_reducible refine aC (aY3 _) λq _ hq=> ?_)
   |(with_reducible refine aC (aOS _ ?_) λl _ hl=> ?_)
   |(rw[aT];refine⟨λ_=> ?_,λ_=> ?_⟩)
   |(rw[bg];intro _ _))
 all_goals first
  |(rw[aL];done)
  |(rw[aL];exact hl)
  |exact⟨by show q.1.1.1<=64;rw[hq.2];exact h,by show 1<=64;decide,OG.one hq.1⟩
theorem aRX (d:dh.B)(hd:OB d.d.c.1 d.e.c.b.2.2):Po (oY d) (λx:gq=>OB x.d.c.1 x.e.c.b.2.2):=
 u3 (s:=_) (λd:dh.B=>OB d.d.c.1 d.e.c.b.2.2) (λx:gq=>OB x.d.c.1 x.e.c.b.2.2) (λd hd=>by
  unfold tL;dsimp only
  repeat' (first
   |(rw[cw];exact trivial)
   |(rw[jY];refine⟨λe0 e1=> ?_,λe0 e1=> ?_⟩)
   |(rw[gB];refine⟨λe0 e1=> ?_,λe0 e1=> ?_⟩)
   |(rw[aT];refine⟨λ_=> ?_,λ_=> ?_⟩)
   |(rw[bg];intro _ _))
  all_goals first
   |exact hd
   |(rw[aL];first|exact hd|exact he)) 2000 d hd
theorem aRY (d:dC.B)(hd:OB d.d.c.1 d.e.c.b.2):Po (tQ d) (λx:gu=>OB x.d.c.1 x.e.c.b.2):=
 u3 (s:=_) (λd:dC.B=>OB d.d.c.1 d.e.c.b.2) (λx:gu=>OB x.d.c.1 x.e.c.b.2) (λd hd=>by
  unfold tP;dsimp only
  repeat' (first
   |(rw[cw];exact trivial)
   |(with_reducible refine aC (aRX _ ?_) λe _ he=> ?_)
   |(rw[jY];refine⟨λe0 e1=> ?_,λe0 e1=> ?_⟩)
   |(rw[gB];refine⟨λe0 e1=> ?_,λe0 e1=> ?_⟩)
   |(rw[aT];refine⟨λ_=> ?_,λ_=> ?_⟩)
   |(rw[bg];intro _ _))
  all_goals first
   |exact hd
   |(rw[aL];first|exact hd|exact he)) 2000 d hd
theorem aRZ (d:dB.B)(hd:OB d.d.c.1 d.e.c.b.2.2):Po (tN d) (λx:gr=>OB x.d.c.1 x.e.c.b.2.2):=
 u3 (s:=_) (λd:dB.B=>OB d.d.c.1 d.e.c.b.2.2) (λx:gr=>OB x.d.c.1 x.e.c.b.2.2) (λd hd=>by
  unfold tM;dsimp only
  repeat' (first
   |(rw[cw];exact trivial)
   |(rw[jY];refine⟨λe0 e1=> ?_,λe0 e1=> ?_⟩)
   |(rw[gB];refine⟨λe0 e1=> ?_,λe0 e1=> ?_⟩)
   |(rw[aT];refine⟨λ_=> ?_,λ_=> ?_⟩)
   |(rw[bg];intro _ _))
  all_goals first
   |exact hd
   |(rw[aL];first|exact hd|exact he)) 2000 d hd
theorem aG4 (d:gJ.B)(hd:OB d.d.b.2.1 d.e.c.2.2):Po (jP d) (λx:jO=>match x with|.inl x=>OB x.d.c.1 x.e.c.b.2|.inr x=>OB x.d.c.1 x.e.c.b.2):=by
 unfold jP tO;try dsimp only
 show PW _ _;rw[aT];refine⟨λ_=> ?_,λ_=>by rw[aL];exact hd⟩;rw[gU];intro _;with_reducible refine aC (aRW _ ?_) λe _ he=> ?_
 .exact hd.zero
 obtain⟨h1,h2⟩:=he;have h1:OB d.d.b.2.1 e.b.2:=h1;have h2:e.b.1=d.d.b.2.1.2.2:=h2;rw[gU];intro _;rw[gU];intro _;rw[aL];exact⟨hd.1,hd.2.1,h1.2.2.mix (ss:=d.e.c.2.2) h2⟩
theorem aR0 (d:gK.B)(hd:OB d.d.b.2.1 d.e.c.b.2):Po (jR d) (λx:jQ=>match x with|.inl x=>OB x.d.c.1 x.e.c.b.2|.inr x=>OB x.d.c.1 x.e.c.b.2):=by
 unfold jR tT;try dsimp only
 show PW _ _;rw[bg];intro _ _;rw[aT];refine⟨λ_=> ?_,λ_=> ?_⟩
 .rw[gU];intro _;rw[gU];intro _;with_reducible refine aC (aY4 _ ?_ ?_) λe _ he=> ?_
  .exact dL hd.2.1 (by decide)
  .exact hd.zero.2.2
  obtain⟨h1,h2⟩:=he;have h1:e.2.1=d.d.b.2.1.2.2:=h1;have h2:OG d.d.b.2.1.2.2 e.2.2:=h2;have key:OB d.d.b.2.1 (λj=>bif true&&wl j (0+e.2.1) then e.b.1 j else d.e.c.b.2.1 j,λj=>bif true&&wl j (0+e.2.1) then e.b.2.1 j else d.e.d.1 j,λj=>bif true&&wl j (0+e.2.1) then e.c.1 j else d.e.d.2.1 j,λj=>bif true&&wl j (0+e.2.1) then e.c.2.1 j else d.e.d.b.1 j,λj=>bif true&&wl j (0+e.2.1) then e.c.b.1 j else d.e.d.b.2.1 j,λj=>bif true&&wl j (0+e.2.1) then e.c.b.2.1 j else d.e.d.c.1 j,λj=>bif true&&wl j (0+e.2.1) then e.d.1 j else d.e.d.c.2.1 j,λj=>bif true&&wl j (0+e.2.1) then e.d.2.1 j else d.e.d.c.b.1 j,λj=>bif true&&wl j (0+e.2.1) then e.d.b.1 j else d.e.d.c.b.2.1 j,λj=>bif true&&wl j (0+e.2.1) then e.d.b.2.1 j else d.e.e.1 j,λj=>bif true&&wl j (0+e.2.1) then e.d.b.2.2 j else d.e.e.2 j):=⟨hd.1,hd.2.1,h2.mix (ss:=d.e.c.b.2) h1⟩
  repeat' (first
   |(rw[cw];exact trivial)
   |(with_reducible refine aC (aG4 _ ?_) λq _ hq=> ?_)
   |(rw[jY];refine⟨λe0 e1=> ?_,λe0 e1=> ?_⟩)
   |(rw[gB];refine⟨λe0 e1=> ?_,λe0 e1=> ?_⟩)
   |(rw[aT];refine⟨λ_=> ?_,λ_=> ?_⟩)
   |(rw[bg];intro _ _))
  all_goals first
   |exact key
   |(subst e1;rw[aL];exact hq)
 .repeat' (first
   |(rw[cw];exact trivial)
   |(with_reducible refine aC (aG4 _ ?_) λq _ hq=> ?_)
   |(rw[jY];refine⟨λe0 e1=> ?_,λe0 e1=> ?_⟩)
   |(rw[gB];refine⟨λe0 e1=> ?_,λe0 e1=> ?_⟩)
   |(rw[aT];refine⟨λ_=> ?_,λ_=> ?_⟩)
   |(rw[bg];intro _ _))
  all_goals first
   |exact hd
   |(subst e1;rw[aL];exact hq)
theorem aR1 (d:gL.B)(hd:OB d.d.b.2.1 d.e.c.2.2):Po (iD d) (λx:jS=>match x with|.inl x=>OB x.d.c.1 x.e.c.b.2|.inr x=>OB x.d.c.1 x.e.c.b.2):=by
 unfold iD tU;try dsimp only
 show PW _ _
 repeat' (first
   |(rw[cw];exact trivial)
   |(with_reducible refine aC (aRY _ ?_) λa _ ha=> ?_)
   |(with_reducible refine aC (aRZ _ ?_) λb _ hb=> ?_)
   |(with_reducible refine aC (aR0 _ ?_) λq _ hq=> ?_)
   |(rw[jY];refine⟨λe0 e1=> ?_,λe0 e1=> ?_⟩)
   |(rw[gB];refine⟨λe0 e1=> ?_,λe0 e1=> ?_⟩)
   |(rw[aT];refine⟨λ_=> ?_,λ_=> ?_⟩)
   |(rw[bg];intro _ _))
 all_goals first
   |exact hd
   |exact ha
   |exact hb
   |(subst e1;rw[aL];exact hq)
theorem go_step (x:mb.B)(h:OB x.d.c.1 x.e.b.2.2):Po (kn x) (λr:oD=>OB r.1.c.b.2.2 r.d.2):=by
 have h0:=h.1;unfold kn rV;try dsimp only
 show PW _ _
 repeat' (first
   |(rw[cw];exact trivial)
   |(with_reducible refine aC (aUW _ ?_) λe _ he=> ?_)
   |(with_reducible refine aC (aR1 _ ?_) λq _ hq=> ?_)
   |(rw[jY];refine⟨λe0 e1=> ?_,λe0 e1=> ?_⟩)
   |(rw[gB];refine⟨λe0 e1=> ?_,λe0 e1=> ?_⟩)
   |(rw[aT];refine⟨λ_=> ?_,λ_=> ?_⟩)
   |(rw[bg];intro _ _))
 all_goals first
   |exact h
   |exact h0
   |(subst e1;first|exact he|(have he:e0.2=x.d.c.1:=he;show OB e0.2 x.e.b.2.2;rw[he];exact h))
   |(subst e1;rw[aL];exact hq)
   |skip
theorem aUX (d:dy.B)(hd:OB d.d.b.2.1 d.e.c.2.2):Po (vi d) (λx:fU=>match x with|.inl x=>OB x.d.b.2.1 x.e.c.2.2|.inr x=>OB x.d.b.2.1 x.e.c.2.2):=
 u3 (s:=_) (λd:dy.B=>OB d.d.b.2.1 d.e.c.2.2) (λx:fU=>match x with|.inl x=>OB x.d.b.2.1 x.e.c.2.2|.inr x=>OB x.d.b.2.1 x.e.c.2.2) (λd hd=>by
  unfold qv;dsimp only
  repeat' (first
   |(rw[cw];exact trivial)
   |(with_reducible refine aC (go_step _ ?_) λe _ he=> ?_)
   |(rw[jY];refine⟨λe0 e1=> ?_,λe0 e1=> ?_⟩)
   |(rw[gB];refine⟨λe0 e1=> ?_,λe0 e1=> ?_⟩)
   |(rw[aT];refine⟨λ_=> ?_,λ_=> ?_⟩)
   |(rw[bg];intro _ _))
  all_goals first
   |exact hd.zero
   |exact hd
   |(rw[aL];first|exact hd|exact he)) 2000 d hd
theorem aUY (d:gw.B)(h:OB d.d.b.1 d.e.c.2):Po (kX d) (λx:jr=>OB x.d.c.1 x.e.c.2):=by
 unfold kX qw;try dsimp only
 show PW _ _;try dsimp only
 repeat' (first
   |(rw[cw];exact trivial)
   |(with_reducible refine aC (aUX _ ?_) λe _ he=> ?_)
   |(rw[jY];refine⟨λe0 e1=> ?_,λe0 e1=> ?_⟩)
   |(rw[gB];refine⟨λe0 e1=> ?_,λe0 e1=> ?_⟩)
   |(rw[aT];refine⟨λ_=> ?_,λ_=> ?_⟩)
   |(rw[bg];intro _ _))
 all_goals first
   |exact h
   |(rw[aL];subst e1;exact he)
theorem aTm (x:m9.B)(h:OB x.d.c.1 x.e.b.2.2):Po (gC x) (λe:qh=>OB e.d.c.1 e.e.c.2):=by
 unfold gC uu;try dsimp only
 show PW _ _;try dsimp only
 repeat' (first
   |(rw[cw];exact trivial)
   |(with_reducible refine aC (aOR _ ?_) λp _ hp=> ?_)
   |(with_reducible refine aC (aUY _ ?_) λe _ he=> ?_)
   |(rw[jY];refine⟨λe0 e1=> ?_,λe0 e1=> ?_⟩)
   |(rw[gB];refine⟨λe0 e1=> ?_,λe0 e1=> ?_⟩)
   |(rw[aT];refine⟨λ_=> ?_,λ_=> ?_⟩)
   |(rw[bg];intro _ _))
 all_goals first
   |exact h
   |(subst e1;first|exact hp|(have hp:e0.2.1=x.d.c.1:=hp;show OB e0.2.1 x.e.b.2.2;rw[hp];exact h))
   |(rw[aL];first|exact h|exact he)
   |skip
open Go.Ab Go.Ab.Pg Go.Ab.Rq
def akz:=qa (pr (cu aS Fs) bK)
def Qr:=qe rf
abbrev akA:=Qr.B
abbrev akB:=Int->Int->Int->Bool->Option akA
def akC (g:akB):Ct:=(208,FC akz (lf Qr) (λb=>g b.1.1 b.1.2.1 b.1.b b.2))
def akD (x0:Int)(x1:Int)(x2:Int)(x3:Bool):Pg akA:=let y0:=decide (x1>x2);ae (decide (x0<x1)) (ae (x1 !=x0) (ret (x1,true)) (ae y0 (ret (x1,true)) (ret (x1,x3)))) (ae y0 (ae (x1 !=x0) (ret (x1,true)) (ae y0 (ret (x1,true)) (ret (x1,x3)))) (ae (decide (x0>x2)) (ae (x2 !=x0) (ret (x2,true)) (ae y0 (ret (x2,true)) (ret (x2,x3)))) (ae (x0 !=x0) (ret (x0,true)) (ae y0 (ret (x0,true)) (ret (x0,x3))))))
def UJ:=λx0 x1 x2 x3=>(akD x0 x1 x2 x3).val
theorem aDF:D1 [] [0] 208 akz (lf Qr) λb=>akD b.1.1 b.1.2.1 b.1.b b.2:=λb=>by kernel_rfl
theorem aDG [ay]:SC (akC UJ):=s0 (.nil _) aDF
def asn:=qa (pr (cu aS gZ) bK)
def ZJ:=qe rf
abbrev aso:=ZJ.B
abbrev adW:=Int->Bool->Option aso
def adX (g:adW):Ct:=(150,FC asn (lf ZJ) (λb=>g b.1 b.2))
def asp (J5:akB)(x0:Int)(x1:Bool):Pg aso:=opt (J5 x0 (-1152921504606846976) 1152921504606846976 x1) λd=>ret d
def Jj:=λx0 x1=>(asp UJ x0 x1).val
theorem aIs:∀J5,D0 [akC J5] 150 asn (lf ZJ) λb=>asp J5 b.1 b.2:=λ_ b=>by kernel_rfl
theorem asq [ay]:SC (adX Jj):=s0 (.c aDG (.nil _)) (aIs UJ)
def aG5:=qa (pl gZ nil)
def ao1:=qe aVM
abbrev aG6:=ao1.B
abbrev auI:=Int->Option aG6
def auJ (g:auI):Ct:=(152,FC aG5 (lf ao1) (λb=>g b))
def aG7 (x0:Int):Pg aG6:=ae (decide (x0<0)) (ret (wU (wI (0-x0)))) (ret (wU x0))
def ZK:=λx0=>(aG7 x0).val
theorem aR2:D0 [] 152 aG5 (lf ao1) λb=>aG7 b:=λb=>by kernel_rfl
theorem aG8 [ay]:SC (auJ ZK):=s0 (.nil _) aR2
def asr:=qa (pl (c an aIO) nil)
def ZL:=qe aPY
abbrev ass:=ZL.B
abbrev ast:=Int->Int->Option ass
def asu (g:ast):Ct:=(207,FC asr (lf ZL) (λb=>g b.1 b.2))
def asv (x0:Int)(x1:Int):Pg ass:=let y0:=v9 x0 4294967296;let y1:=v9 x1 4294967296;let y2:=wU (ws (wd (wn 64 x0&&&wn 64 4294967295)));let y3:=wU (ws (wd (wn 64 x1&&&wn 64 4294967295)));let y4:=wU (y2*y3);let y5:=wU (wU (y0*y3)+v9 y4 4294967296);let y6:=wU (wU (y2*y1)+wU (ws (wd (wn 64 y5&&&wn 64 4294967295))));ret (wU (wU (wU (y0*y1)+v9 y5 4294967296)+v9 y6 4294967296),wU (ws (wd (wn 64 (wU (y6*4294967296))|||wn 64 (wU (ws (wd (wn 64 y4&&&wn 64 4294967295))))))))
def adY:=λx0 x1=>(asv x0 x1).val
theorem aIt:D0 [] 207 asr (lf ZL) λb=>asv b.1 b.2:=λb=>by kernel_rfl
theorem aIu [ay]:SC (asu adY):=s0 (.nil _) aIt
def aJT:=qa (pl zW nil)
def auK:=qe aKn
abbrev aJU:=auK.B
abbrev azO:=Int->Int->Option aJU
def azP (g:azO):Ct:=(149,FC aJT (lf auK) (λb=>g b.1 b.2))
def aJV (Au:auI)(Ri:ast)(x0:Int)(x1:Int):Pg aJU:=opt (Au x0) λd=>opt (Au x1) λak=>opt (Ri d ak) λd=>ret (d.1,d.2,!decide (x0<0)==decide (x1<0))
def afZ:=λx0 x1=>(aJV ZK adY x0 x1).val
theorem aUZ:∀Au Ri,D0 [auJ Au,asu Ri] 149 aJT (lf auK) λb=>aJV Au Ri b.1 b.2:=λ_ _ b=>by kernel_rfl
theorem aJW [ay]:SC (azP afZ):=s0 (.c aG8 (.c aIu (.nil _))) (aUZ ZK adY)
def aG9:=qa (pl (c ak6 (cl ak6 nil)) nil)
def ao2:=qe AT
abbrev aHa:=ao2.B
abbrev aHb:=Int->Int->Bool->Int->Int->Bool->Option aHa
def aHc (g:aHb):Ct:=(246,FC aG9 (lf ao2) (λb=>g b.1.1 b.1.2.1 b.1.b b.2.1 b.b.1 b.b.2))
def aHd (x0:Int)(x1:Int)(x2:Bool)(x3:Int)(x4:Int)(x5:Bool):Pg aHa:=ae (decide (x0<x3)) (ret true) (ae (x0==x3) (ret (decide (x1<x4))) (ret false))
def auL:=λx0 x1 x2 x3 x4 x5=>(aHd x0 x1 x2 x3 x4 x5).val
theorem aR3:D0 [] 246 aG9 (lf ao2) λb=>aHd b.1.1 b.1.2.1 b.1.b b.2.1 b.b.1 b.b.2:=λb=>by kernel_rfl
theorem aR4 [ay]:SC (aHc auL):=s0 (.nil _) aR3
def aJX:=qa (pl (c ak6 (cl ak6 nil)) nil)
def auM:=qe aKn
abbrev aJY:=auM.B
abbrev apG:=Int->Int->Bool->Int->Int->Bool->Option aJY
def azQ (g:apG):Ct:=(206,FC aJX (lf auM) (λb=>g b.1.1 b.1.2.1 b.1.b b.2.1 b.b.1 b.b.2))
def aJZ (aiI:aHb)(x0:Int)(x1:Int)(x2:Bool)(x3:Int)(x4:Int)(x5:Bool):Pg aJY:=let y0:=wU (x0-x3);let y1:=wU (x3-x0);let y2:=wU (x0+x3);let y3:=wU (x1+x4);ae (x2==x5) (ae (decide (y3<x1)) (ret (wU (y2+1),y3,x2)) (ret (y2,y3,x2))) (opt (aiI x0 x1 x2 x3 x4 x5) λd=>ae d (ae (decide (x4<x1)) (ret (wU (y1-1),wU (x4-x1),x5)) (ret (y1,wU (x4-x1),x5))) (ae (decide (x1<x4)) (ret (wU (y0-1),wU (x1-x4),x2)) (ret (y0,wU (x1-x4),x2))))
def af0:=λx0 x1 x2 x3 x4 x5=>(aJZ auL x0 x1 x2 x3 x4 x5).val
theorem aU0:∀aiI,D0 [aHc aiI] 206 aJX (lf auM) λb=>aJZ aiI b.1.1 b.1.2.1 b.1.b b.2.1 b.b.1 b.b.2:=λ_ b=>by kernel_rfl
theorem aJ0 [ay]:SC (azQ af0):=s0 (.c aR4 (.nil _)) (aU0 auL)
def asw:=qa (pl (c ak6 aIO) nil)
def ZM:=qe aKn
abbrev asx:=ZM.B
abbrev asy:=Int->Int->Bool->Int->Option asx
def asz (g:asy):Ct:=(151,FC asw (lf ZM) (λb=>g b.1.1 b.1.2.1 b.1.b b.2))
def wG:=qs (st (pr (us 1 (c an (cu IB (us 1 (cu aME (cu aag (c an (cl ai (us 63 nil))))))))) (pl (c (so aEf) (cu (so (cu aEd (cu aEd (cu agc nil)))) (cl (so aEf) nil))) nil)))
def aDH:=qs (st (pr (us 1 (c an (cu IB (us 1 (cu aME (cu aag (c an (c ai (us 4 (c ai (cl ab (us 57 nil)))))))))))) (pl (c (so aEf) (cu (so (cu aEd (cu aEd (cu agc nil)))) (cl (so aEf) nil))) nil)))
abbrev J6:=((Int×Int×Int×Bool)×(Int×Int×Bool)×Int×Int×Bool)
def akE {ρ:Type}(x:J6)(K:AX->St->Option ρ):Option ρ:=(λd=>K (.ex 0) (aDH.em ((d.1.1,d.1.2.1,d.1.b.1,d.1.b),d.2))) x
def akF (d:wG.B):PL wG J6:=let n4:=d.2.1;let n3:=d.1.2;let n2:=d.2.2;let n1:=d.1.1;let y0:=wI (n3.2-1);let y1:=decide (n3.2>=0);let y2:=decide (n3.2>=64);let y3:=wU (wI (ws (wd (wn 64 n3.2&&&wn 64 63))));let y4:=2^min (z4 y3) 64;let y5:= !decide (y3<0);let y6:=wU (ws (wd (wn 64 (wU (n3.1*2))|||wn 64 (wU (ws (wd (wn 64 (v9 n4.1 y4)&&&wn 64 1)))))));let y7:=wU (ws (wd (wn 64 (wU (n3.1*2))|||wn 64 (wU (ws (wd (wn 64 (v9 n4.2.1 y4)&&&wn 64 1)))))));ae y1 (ae y5 (ae y2 (ae y5 (ae (decide (y6>=n1)) (ae y2 (ae y5 (ret (ww ((n1,wU (y6-n1),y0),n4,wU (ws (wd (wn 64 n2.1|||wn 64 (wU (1*y4))))),n2.2))) no) (ae y5 (ret (ww ((n1,wU (y6-n1),y0),n4,n2.1,wU (ws (wd (wn 64 n2.2.1|||wn 64 (wU (1*y4))))),n2.2.2))) no)) (ret (ww ((n1,y6,y0),d.2)))) no) (ae (decide (y7>=n1)) (ae y2 (ae y5 (ret (ww ((n1,wU (y7-n1),y0),n4,wU (ws (wd (wn 64 n2.1|||wn 64 (wU (1*y4))))),n2.2))) no) (ae y5 (ret (ww ((n1,wU (y7-n1),y0),n4,n2.1,wU (ws (wd (wn 64 n2.2.1|||wn 64 (wU (1*y4))))),n2.2.2))) no)) (ret (ww ((n1,y7,y0),d.2))))) no) (ret (wt ((n1,n3.1,n3.2,y1),d.2)))
def akG:=bE (akF) 2000
def asA (Qs:apG)(eB:LT wG J6)(x0:Int)(x1:Int)(x2:Bool)(x3:Int):Pg asx:=opt (eB ((x3,0,127),(x0,x1,x2),0,0,x2)) λd=>ae (decide (d.1.2.1>=wU (d.1.1-d.1.2.1))) (opt (Qs d.2.2.1 d.2.2.2.1 d.2.2.2.2 0 1 d.2.2.2.2) λd=>ret d) (ret d.2.2)
def adZ:=λx0 x1 x2 x3=>(asA af0 akG x0 x1 x2 x3).val
abbrev Rj:=apG×(LT wG J6)
def ad3 (p:Rj):KK:=⟨[azQ p.1],⟨[⟨4,(0::3::rg 8 63 []),[]⟩],[gx 4 0 wG akE p.2],[],[],(some ⟨0,(rg 0 4 (rg 5 66 [])),[]⟩)⟩,0,151⟩
theorem azR (p:Rj):LI (ad3 p) 4 wG akE (akF):=λ_ d c K=>by kernel_rfl
theorem aIv (p:Rj):D2 (ad3 p) asw (lf ZM) λb=>asA p.1 p.2 b.1.1 b.1.2.1 b.1.b b.2:=λb=>by kernel_rfl
abbrev ad4:Rj:=(af0,akG)
theorem aIw [ay]:SC (asz adZ):=sc (kS (k:=ad3 ad4) (.c aJ0 (.nil _)) [4] [] ⟨kL (azR ad4),trivial⟩ trivial (aIv ad4))
def asD:=qa (pr (cu aS (cl ak6 nil)) bK)
def ZN:=qe rf
abbrev asE:=ZN.B
abbrev ad5:=Int->Int->Bool->Bool->Option asE
def ad6 (g:ad5):Ct:=(147,FC asD (lf ZN) (λb=>g b.1.1 b.1.2.1 b.1.b b.2))
def asG (x0:Int)(x1:Int)(x2:Bool)(x3:Bool):Pg asE:=ae (decide (x0>0)) (ae x2 (ret (-1152921504606846976,true)) (ret (1152921504606846976,true))) (ae (decide (x1>1152921504606846976)) (ae x2 (ret (-1152921504606846976,true)) (ret (1152921504606846976,true))) (ae x2 (ret (wI (0-wI x1),x3)) (ret (wI x1,x3))))
def Jk:=λx0 x1 x2 x3=>(asG x0 x1 x2 x3).val
theorem aIx:D1 [] [0] 147 asD (lf ZN) λb=>asG b.1.1 b.1.2.1 b.1.b b.2:=λb=>by kernel_rfl
theorem asH [ay]:SC (ad6 Jk):=s0 (.nil _) aIx
def af1:=qa (pr (cu aS Fs) bK)
def NS:=qe rf
abbrev af2:=NS.B
abbrev af3:=Int->Int->Int->Bool->Option af2
def af4 (g:af3):Ct:=(100,FC af1 (lf NS) (λb=>g b.1.1 b.1.2.1 b.1.b b.2))
def af5 (mh:adW)(Hz:azO)(Au:auI)(Rk:asy)(sP:ad5)(x0:Int)(x1:Int)(x2:Int)(x3:Bool):Pg af2:=opt (mh x0 x3) λd=>opt (mh x1 d.2) λak=>opt (Hz d.1 ak.1) λd=>opt (mh x2 ak.2) λaK=>ae (aK.1==0) (ae (d.1==0) (ae (d.2.1==0) (ret (0,true)) (ae d.2.2 (ret (-1152921504606846976,true)) (ret (1152921504606846976,true)))) (ae d.2.2 (ret (-1152921504606846976,true)) (ret (1152921504606846976,true)))) (opt (Au aK.1) λbJ=>opt (Rk d.1 d.2.1 (!d.2.2==decide (aK.1<0)) bJ) λd=>opt (sP d.1 d.2.1 d.2.2 aK.2) λd=>ret d)
def Qt:=λx0 x1 x2 x3=>(af5 Jj afZ ZK adZ Jk x0 x1 x2 x3).val
theorem azS:∀mh Hz Au Rk sP,D0 [adX mh,azP Hz,auJ Au,asz Rk,ad6 sP] 100 af1 (lf NS) λb=>af5 mh Hz Au Rk sP b.1.1 b.1.2.1 b.1.b b.2:=λ_ _ _ _ _ b=>by kernel_rfl
theorem azT [ay]:SC (af4 Qt):=s0 (.c asq (.c aJW (.c aG8 (.c aIw (.c asH (.nil _)))))) (azS Jj afZ ZK adZ Jk)
def ao3:=qa (pr (cu aS gZ) bK)
def UK:=qe rf
abbrev ao4:=UK.B
abbrev ao5:=Int->Bool->Option ao4
def ao6 (g:ao5):Ct:=(61,FC ao3 (lf UK) (λb=>g b.1 b.2))
def ao7 (HA:af3)(x0:Int)(x1:Bool):Pg ao4:=opt (HA x0 1073741824 1000000 x1) λd=>ret d
def ZO:=λx0 x1=>(ao7 Qt x0 x1).val
theorem aHe:∀HA,D0 [af4 HA] 61 ao3 (lf UK) λb=>ao7 HA b.1 b.2:=λ_ b=>by kernel_rfl
theorem aHf [ay]:SC (ao6 ZO):=s0 (.c azT (.nil _)) (aHe Qt)
def asJ:=qa (pl (c ak6 gZ) nil)
def ZP:=qe aKn
abbrev asK:=ZP.B
abbrev asL:=Int->Int->Bool->Int->Option asK
def asM (g:asL):Ct:=(148,FC asJ (lf ZP) (λb=>g b.1.1 b.1.2.1 b.1.b b.2))
def asN (Qs:apG)(x0:Int)(x1:Int)(x2:Bool)(x3:Int):Pg asK:=let y0:=wI (x3-1);let y1:=wU (wI (x3-64));let y2:=wU (wI (64-x3));let y3:=wU y0;let y4:=wU (wI (x3-65));let y5:=2^min (z4 (wU x3)) 64;let y6:= !decide (wU x3<0);ae (x3==0) (ret (x0,x1,x2)) (ae (decide (y0>=64)) (ae (!decide (y4<0)) (opt (Qs x0 x1 x2 (wU (1*2^min (z4 y4) 64)) 0 x2) λd=>ae (decide (x3>=64)) (ae (!decide (y1<0)) (ret (0,v9 d.1 (2^min (z4 y1) 64),d.2.2)) no) (ae y6 (ae y6 (ae (!decide (y2<0)) (ret (v9 d.1 y5,wU (ws (wd (wn 64 (v9 d.2.1 y5)|||wn 64 (wU (d.1*2^min (z4 y2) 64))))),d.2.2)) no) no) no)) no) (ae (!decide (y3<0)) (opt (Qs x0 x1 x2 0 (wU (1*2^min (z4 y3) 64)) x2) λd=>ae (decide (x3>=64)) (ae (!decide (y1<0)) (ret (0,v9 d.1 (2^min (z4 y1) 64),d.2.2)) no) (ae y6 (ae y6 (ae (!decide (y2<0)) (ret (v9 d.1 y5,wU (ws (wd (wn 64 (v9 d.2.1 y5)|||wn 64 (wU (d.1*2^min (z4 y2) 64))))),d.2.2)) no) no) no)) no))
def ad7:=λx0 x1 x2 x3=>(asN af0 x0 x1 x2 x3).val
theorem aIy:∀Qs,D0 [azQ Qs] 148 asJ (lf ZP) λb=>asN Qs b.1.1 b.1.2.1 b.1.b b.2:=λ_ b=>by kernel_rfl
theorem aIz [ay]:SC (asM ad7):=s0 (.c aJ0 (.nil _)) (aIy af0)
def asO:=qa (pr (cu aS Fs) bK)
def ZQ:=qe rf
abbrev asQ:=ZQ.B
abbrev asT:=Int->Int->Int->Bool->Option asQ
def asU (g:asT):Ct:=(99,FC asO (lf ZQ) (λb=>g b.1.1 b.1.2.1 b.1.b b.2))
def asV (mh:adW)(Hz:azO)(Rl:asL)(sP:ad5)(x0:Int)(x1:Int)(x2:Int)(x3:Bool):Pg asQ:=opt (mh x0 x3) λd=>opt (mh x1 d.2) λak=>opt (Hz d.1 ak.1) λd=>opt (Rl d.1 d.2.1 d.2.2 x2) λd=>opt (sP d.1 d.2.1 d.2.2 ak.2) λd=>ret d
def ad8:=λx0 x1 x2 x3=>(asV Jj afZ ad7 Jk x0 x1 x2 x3).val
theorem aIA:∀mh Hz Rl sP,D0 [adX mh,azP Hz,asM Rl,ad6 sP] 99 asO (lf ZQ) λb=>asV mh Hz Rl sP b.1.1 b.1.2.1 b.1.b b.2:=λ_ _ _ _ b=>by kernel_rfl
theorem aIB [ay]:SC (asU ad8):=s0 (.c asq (.c aJW (.c aIz (.c asH (.nil _))))) (aIA Jj afZ ad7 Jk)
def aCm:=qa (pr (cu aS zW) bK)
def aiJ:=qe rf
abbrev aCn:=aiJ.B
abbrev aCo:=Int->Int->Bool->Option aCn
def aCp (g:aCo):Ct:=(60,FC aCm (lf aiJ) (λb=>g b.1.1 b.1.2 b.2))
def aCq (Rm:asT)(x0:Int)(x1:Int)(x2:Bool):Pg aCn:=opt (Rm x0 x1 30 x2) λd=>ret d
def ao8:=λx0 x1 x2=>(aCq ad8 x0 x1 x2).val
theorem aOT:∀Rm,D0 [asU Rm] 60 aCm (lf aiJ) λb=>aCq Rm b.1.1 b.1.2 b.2:=λ_ b=>by kernel_rfl
theorem aOU [ay]:SC (aCp ao8):=s0 (.c aIB (.nil _)) (aOT ad8)
def axA:=qa (pl zW nil)
def ad9:=qe (res (pl (aa (c gi (c gi (cu aX (cu aX (cu aX (cu aX (cu aX jG)))))))) (pu nil nil)))
abbrev axB:=ad9.B
abbrev NT:=Int->Int->Option axB
def aiK (g:NT):Ct:=(26,FC axA (lf ad9) (λb=>g b.1 b.2))
def axC (NU:ao5)(abU:aCo)(x0:Int)(x1:Int):Pg axB:=opt (NU x1 false) λd=>opt (abU 10529810258 d.1 d.2) λd=>ret (x0,x1,wI (0-d.1))
def Dn:=λx0 x1=>(axC ZO ao8 x0 x1).val
theorem aMj:∀NU abU,D0 [ao6 NU,aCp abU] 26 axA (lf ad9) λb=>axC NU abU b.1 b.2:=λ_ _ b=>by kernel_rfl
theorem axD [ay]:SC (aiK Dn):=s0 (.c aHf (.c aOU (.nil _))) (aMj ZO ao8)
def AR:=qa (pu (cu eW nil) (cd qL λb0=>(c lK (c mJ (c (cl (gs b0.c.1 mI) nil) (cd rj λb4=>(cd pn λb5=>(cd px λb6=>(cd py λb7=>(cd pz λb8=>(cd pA λb9=>(c ml (cd sQ λuQ=>(c (cl (gs b0.e kZ) nil) (c (cl (gs b4.b.1 aB) nil) (c (cl (gs b5.b.1 aB) nil) (c (cl (gs b6.b.1 aB) nil) (c (cl (gs b7.b.1 aB) nil) (c (cl (gs b8.b.1 aB) nil) (c (cl (gs b9.b.1 aB) nil) (cl (cl (gs uQ.b ia) nil) nil)))))))))))))))))))))
def GH:=qe (res (pl (rZ (c agf (cl ala nil))) (pu alf nil)))
abbrev Vo:=GH.B
abbrev Ix:=AR.B->Option Vo
def Iy (g:Ix):Ct:=(24,FC AR (lf GH) g)
def Vp (x:AR.B):Pg Vo:=ret (x.1.2.2.1,x.1.2.2.2.1)
def vj:=λx=>(Vp x).val
theorem aqn:D0 [] 24 AR (lf GH) λb=>Vp b:=λb=>by kernel_rfl
theorem Vq [ay]:SC (Iy vj):=s0 (.nil _) aqn
def LD:=qa (pu (cu IB nil) (cd (c gi (c gi (cl (gc (zV 1 11)) nil))) λb0=>(cl (cl (gs b0.b ia) nil) nil)))
def Av:=qe (res (pr aPn (pu axR aEq)))
abbrev LF:=Av.B
abbrev LG:=Int->Int->Nat->NI->NI->NI->NI->NI->NI->NI->NI->NI->NI->NI->Option LF
def LH (g:LG):Ct:=(59,FC LD (lf Av) (λb=>g b.1.1 b.1.2.1 b.1.b b.2.1 b.b.1 b.b.2.1 b.c.1 b.c.2.1 b.c.b.1 b.c.b.2.1 b.d.1 b.d.2.1 b.d.b.1 b.d.b.2))
def BH (x0:Int)(x1:Int)(x2:Nat)(x3:Nat->Int)(x4:Nat->Int)(x5:Nat->Int)(x6:Nat->Int)(x7:Nat->Int)(x8:Nat->Int)(x9:Nat->Int)(fX:Nat->Int)(fY:Nat->Int)(A7:Nat->Int)(x13:Nat->Int):Pg LF:=let y0:=0+x2;ae (wr (y0*88) 140737488355328) (ret (y0,x2,x3,x4,x5,x6,x7,x8,x9,fX,fY,A7,x13)) no
def uv:=λx0 x1 x2 x3 x4 x5 x6 x7 x8 x9 fX fY A7 x13=>(BH x0 x1 x2 x3 x4 x5 x6 x7 x8 x9 fX fY A7 x13).val
theorem af6:D0 [] 59 LD (lf Av) λb=>BH b.1.1 b.1.2.1 b.1.b b.2.1 b.b.1 b.b.2.1 b.c.1 b.c.2.1 b.c.b.1 b.c.b.2.1 b.d.1 b.d.2.1 b.d.b.1 b.d.b.2:=λb=>by kernel_rfl
theorem af7 [ay]:SC (LH uv):=s0 (.nil _) af6
def xL:=qa (pu (cu eW nil) (cd qL λb0=>(c lK (c mJ (c (cl (gs b0.c.1 mI) nil) (cd rj λb4=>(cd pn λb5=>(cd px λb6=>(cd py λb7=>(cd pz λb8=>(cd pA λb9=>(c ml (cd sQ λuQ=>(c (cl (gs b0.e kZ) nil) (c (cl (gs b4.b.1 aB) nil) (c (cl (gs b5.b.1 aB) nil) (c (cl (gs b6.b.1 aB) nil) (c (cl (gs b7.b.1 aB) nil) (c (cl (gs b8.b.1 aB) nil) (c (cl (gs b9.b.1 aB) nil) (cl (cl (gs uQ.b ia) nil) nil)))))))))))))))))))))
def Iz:=qe (res (pr (ac (zV 20 11)) (pu alf aEq)))
abbrev K1:=Iz.B
abbrev K2:=xL.B->Option K1
def K3 (g:K2):Ct:=(25,FC xL (lf Iz) g)
def K4 (uw:LG)(x:xL.B):Pg K1:=let n2:=x.2.2.2.2.2.2.2.2.2.2.2;let n1:=n2.2.2.2.2.2.2.2.2;let n3:=n1.2.2.2.2.2;ae (z9 n2.1.2.2 n2.1.2.2) (opt (uw n2.1.1 n2.1.2.1 n2.1.2.2 n1.1 n1.2.1 n1.2.2.1 n1.2.2.2.1 n1.2.2.2.2.1 n3.1 n3.2.1 n3.2.2.1 n3.2.2.2.1 n3.2.2.2.2.1 n3.2.2.2.2.2) λd=>ret d) no
def rX:=λx=>(K4 uv x).val
theorem auN:∀uw,D0 [LH uw] 25 xL (lf Iz) λb=>K4 uw b:=λ_ b=>by kernel_rfl
theorem ZR [ay]:SC (K3 rX):=s0 (.c af7 (.nil _)) (auN uv)
def tV:=qa (pr (cu eW gZ) (cd qL λb0=>(c lK (c mJ (c (cl (gs b0.c.1 mI) nil) (cd rj λb4=>(cd pn λb5=>(cd px λb6=>(cd py λb7=>(cd pz λb8=>(cd pA λb9=>(c ml (cd sQ λuQ=>(c (cl (gs b0.e kZ) nil) (c (cl (gs b4.b.1 aB) nil) (c (cl (gs b5.b.1 aB) nil) (c (cl (gs b6.b.1 aB) nil) (c (cl (gs b7.b.1 aB) nil) (c (cl (gs b8.b.1 aB) nil) (c (cl (gs b9.b.1 aB) nil) (cl (cl (gs uQ.b ia) nil) nil)))))))))))))))))))))
def EI:=qe (res (pl (aa fW) (pu alf nil)))
abbrev GI:=EI.B
abbrev GJ:=tV.B->Option GI
def GK (g:GJ):Ct:=(23,FC tV (lf EI) g)
def GL (BG:afw)(x:tV.B):Pg GI:=let n1:=x.2.2.2.2.2;opt (BG x.1) λd=>ae (!d) (ret (0,0,0,0,0)) (ae (bf x.1 6) (ae (x.1==5) (ret n1.2.2.2.2.2.1.1) (ae (x.1==4) (ret n1.2.2.2.2.1.1) (ae (x.1==3) (ret n1.2.2.2.1.1) (ae (x.1==2) (ret n1.2.2.1.1) (ae (x.1==1) (ret n1.2.1.1) (ret n1.1.1)))))) no)
def o6:=λx=>(GL Bx x).val
theorem ao9:∀BG,D0 [apC BG] 23 tV (lf EI) λb=>GL BG b:=λ_ b=>by kernel_rfl
theorem S3 [ay]:SC (GK o6):=s0 (.c azB (.nil _)) (ao9 Bx)
def xM:=qa (pu (cu Wv nil) (cd agl λb0=>(cl (cl (gs b0.b.1 aB) nil) nil)))
def IA:=qe aPP
abbrev ZS:=IA.B
abbrev ZT:=xM.B->Option ZS
def ZU (g:ZT):Ct:=(65,FC xM (lf IA) g)
def ZV (x:xM.B):Pg ZS:=ret (ws x.1.2.2.1)
def Dp:=λx=>(ZV x).val
theorem auO:D0 [] 65 xM (lf IA) λb=>ZV b:=λb=>by kernel_rfl
theorem auP [ay]:SC (ZU Dp):=s0 (.nil _) auO
def zQ:=qa (pr (cu eW gZ) (cd qL λb0=>(c lK (c mJ (c (cl (gs b0.c.1 mI) nil) (cd rj λb4=>(cd pn λb5=>(cd px λb6=>(cd py λb7=>(cd pz λb8=>(cd pA λb9=>(c ml (cd sQ λuQ=>(c (cl (gs b0.e kZ) nil) (c (cl (gs b4.b.1 aB) nil) (c (cl (gs b5.b.1 aB) nil) (c (cl (gs b6.b.1 aB) nil) (c (cl (gs b7.b.1 aB) nil) (c (cl (gs b8.b.1 aB) nil) (c (cl (gs b9.b.1 aB) nil) (cl (cl (gs uQ.b ia) nil) nil)))))))))))))))))))))
def K5:=qe aW8
abbrev NV:=K5.B
abbrev NW:=zQ.B->Option NV
def NX (g:NW):Ct:=(28,FC zQ (lf K5) g)
def NY (BG:afw)(kq:ZT)(x:zQ.B):Pg NV:=let n4:=x.2.2.2.2.2;let n1:=n4.2;let n3:=n1.2.2;let n2:=n3.2.2.2.2.2.2;opt (BG x.1) λd=>ae (!d) (ret 0) (ae (bf x.1 6) (ae (x.1==5) (ae (z9 n3.2.2.1.2.2.1 n3.2.2.1.2.2.1) (opt (kq (n3.2.2.1,n2.2.2.2.2.2.1)) λd=>ret d) no) (ae (x.1==4) (ae (z9 n3.2.1.2.2.1 n3.2.1.2.2.1) (opt (kq (n3.2.1,n2.2.2.2.2.1)) λd=>ret d) no) (ae (x.1==3) (ae (z9 n3.1.2.2.1 n3.1.2.2.1) (opt (kq (n3.1,n2.2.2.2.1)) λd=>ret d) no) (ae (x.1==2) (ae (z9 n1.2.1.2.2.1 n1.2.1.2.2.1) (opt (kq (n1.2.1,n2.2.2.1)) λd=>ret d) no) (ae (x.1==1) (ae (z9 n1.1.2.2.1 n1.1.2.2.1) (opt (kq (n1.1,n2.2.1)) λd=>ret d) no) (ae (z9 n4.1.2.2.1 n4.1.2.2.1) (opt (kq (n4.1,n2.1)) λd=>ret d) no)))))) no)
def ux:=λx=>(NY Bx Dp x).val
theorem axE:∀BG kq,D0 [apC BG,ZU kq] 28 zQ (lf K5) λb=>NY BG kq b:=λ_ _ b=>by kernel_rfl
theorem abV [ay]:SC (NX ux):=s0 (.c azB (.c auP (.nil _))) (axE Bx Dp)
def Jl:=qa (pl (c (aa sS) gZ) nil)
def abW:=qe (res (pu (ac axZ) (pu nil nil)))
def axF:=qe (res (pu eW (pu nil (c aQz (c lK (c mJ (c aP8 (c aQq (c aQr (c aQs (c ata (c atb (c atc (c ml (c aQm aQx)))))))))))))))
abbrev Rn:=abW.B⊕((J7×Bool×NI×(NI×NI)×(Nat×Nat)×uW×Bool×Int×nJ×Bool×Bool×Bool×Int×Int×Int×HS×Nat)×(nJ×Int×Int)×S9×Ws×cD×cD×cD×cD×cD×cD×Rt×xT×HT×fw×fw×fw×fw×fw×fw×Nat×NI×NI×NI×NI×NI×NI×NI×NI×NI×NI×NI)
def asW:Rn->T:=ls (lf abW) (λd=>lf axF (d.1,d.2.1,d.b.1,d.b.2.1,d.c.1,d.c.2.1,d.c.b.1,d.c.b.2.1,d.d.1,d.d.2.1,d.d.b.1,d.d.b.2.1,d.d.c.1,(d.c.1.b.1,d.d.c.2.1),(d.c.2.1.b.1,d.d.c.b.1),(d.c.b.1.b.1,d.d.c.b.2.1),(d.c.b.2.1.b.1,d.e.1),(d.d.1.b.1,d.e.2.1),(d.d.2.1.b.1,d.e.b.1),d.e.b.2))
abbrev aIC:=Jl.B->Option Rn
def aea (g:aIC):Ct:=(47,FC Jl asW g)
def rY:=qs (st (pr (us 1 (c ai (us 3 (cu eW (us 1 (cl ai (us 29 nil))))))) (pl (c (so aQz) (c qJ (c qK (c sR (cd (so aQq) λb4=>(cd (so aQr) λb5=>(cd (so aQs) λb6=>(cd (so ata) λb7=>(cd (so atb) λb8=>(cd (so atc) λb9=>(c pk (c (so aQm) (c xZ (c (so (cl (gs b4.b.1 aB) nil)) (c (so (cl (gs b5.b.1 aB) nil)) (c (so (cl (gs b6.b.1 aB) nil)) (c (so (cl (gs b7.b.1 aB) nil)) (c (so (cl (gs b8.b.1 aB) nil)) (c (so (cl (gs b9.b.1 aB) nil)) LO))))))))))))))))))) nil)))
def ZW:=qs (st (pu (us 4 (cu (ac axZ) (us 32 nil))) (pu nil nil)))
def auQ:=qs (st (pr (us 1 (c ai (us 3 (cu eW (us 1 (c ai (us 13 (c ai aVT)))))))) (pl (c (so aQz) (c qJ (c qK (c sR (c (so aQq) (c (so aQr) (c (so aQs) (c (so ata) (c (so atb) (c (so atc) (c pk (c (so aQm) Fv)))))))))))) nil)))
abbrev DY:=ZW.B⊕((Int×Int×Bool)×(J7×Bool×NI×(NI×NI)×(Nat×Nat)×uW×Bool×Int×nJ×Bool×Bool×Bool×Int×Int×Int×HS×Nat)×(nJ×Int×Int)×S9×Ws×cD×cD×cD×cD×cD×cD×Rt×xT×HT×fw×fw×fw×fw×fw×fw×Nat×NI×NI×NI×NI×NI×NI×NI×NI×NI×NI×NI)
def akH {ρ:Type}(x:DY)(K:AX->St->Option ρ):Option ρ:=(t9 (λd=>K .ret (ZW.em d)) (λd=>K (.ex 0) (auQ.em ((d.1.1,d.1.2.1,d.1.2.1,d.1.1,d.1.b),d.2.1,d.b.1,d.b.2.1,d.c.1,d.c.2.1,d.c.b.1,d.c.b.2.1,d.d.1,d.d.2.1,d.d.b.1,d.d.b.2.1,d.d.c.1,d.d.c.2.1,(d.c.2.1.b.1,d.d.c.b.1),(d.c.b.1.b.1,d.d.c.b.2.1),(d.c.b.2.1.b.1,d.e.1),(d.d.1.b.1,d.e.2.1),(d.d.2.1.b.1,d.e.b.1),(d.d.b.1.b.1,d.e.b.2.1),d.e.c)))) x
def UL (aiL:NT)(zR:ur)(d:rY.B):PL rY DY:=let bc:=d.2.1.2;let n4:=bc.2.2.2;let n9:=n4.2.2.2.2.2.2.2.2.2.2.2.2;let n3:=d.2.2.2.2.2;let n8:=n3.2.2;let n1:=n8.2.2;let n5:=n1.2.2.2;let n7:=n5.2.2.2.2;let n2:=n7.2.2.2.2.2;let n6:=n2.2.2.2.2.2;let y0:=decide (d.1.2<=d.1.1);ae y0 (opt (aiL (wI (8000*d.1.2)) 8000) λak=>ae (z9 n4.1.2 n4.1.2) (ae (z9 n9 n9) (ae (z9 n3.1.2.2.1 n3.1.2.2.1) (ae (z9 n3.2.1.2.2.1 n3.2.1.2.2.1) (ae (z9 n8.1.2.2.1 n8.1.2.2.1) (ae (z9 n8.2.1.2.2.1 n8.2.1.2.2.1) (ae (z9 n1.1.2.2.1 n1.1.2.2.1) (ae (z9 n1.2.1.2.2.1 n1.2.1.2.2.1) (ae (z9 n5.1.2.2 n5.1.2.2) (opt (zR ((ak.1,ak.2.1,(0,0,0),0,0,ak.2.2),(d.2.1.1,bc.1,bc.2.1,bc.2.2.1,n4.1.2,n4.2),d.2.2.1,d.2.2.2.1,(sh8 n4.1.1 d.2.2.2.2.1.2),n3.1,n3.2.1,n8.1,n8.2.1,n1.1,n1.2.1,n1.2.2.1,n5.1,(aqr 0 n5.2.1.2),(sf 0 n5.2.2.1),(sf 0 n5.2.2.2.1),(sf 0 n7.1),(sf 0 n7.2.1),(sf 0 n7.2.2.1),(sf 0 n7.2.2.2.1),λj=>n2.1 (0+j),λj=>n2.2.1 (0+j),λj=>n2.2.2.1 (0+j),λj=>n2.2.2.2.1 (0+j),λj=>n2.2.2.2.2.1 (0+j),λj=>n6.1 (0+j),λj=>n6.2.1 (0+j),λj=>n6.2.2.1 (0+j),λj=>n6.2.2.2.1 (0+j),λj=>n6.2.2.2.2.1 (0+j),λj=>n6.2.2.2.2.2 (0+j))) λaK=>ae (aK.1.2!=0) (ret (wt (ww ()))) (ret (ww ((d.1.1,wI (d.1.2+1)),aK.2)))) no) no) no) no) no) no) no) no) no) (ret (wt (wt ((d.1.1,d.1.2,y0),d.2))))
def akI:=bE (UL Dn gC) 2000
def aeb (auR:ZF)(eB:LT rY DY)(x:Jl.B):Pg Rn:=opt (auR x.1) λd=>sm d (λd=>ret (ww ())) (λd=>let bR:=d.1.2.2;let n6:=bR.2.2.2.2;let n15:=n6.2.2.2;let n4:=d.2.2.2;let n8:=n4.2.2.2.2.2;let n2:=n15.2.2.2.2;let n16:=n2.2.2.2;let n5:=n16.2.2.2.2;let bA:=n5.2.2.2.2;let n1:=n8.2.2.2.2;let bc:=n1.2.1;let n7:=n1.2.2;let bn:=n7.2.1;let n3:=n7.2.2;let bx:=n3.2.1;let n9:=n3.2.2;ae true (ae true (ae true (ae true (ae true (ae true (opt (eB ((x.2,1),((d.1.1,d.1.2.1,bR.1,bR.2.1,(bR.2.2.1,bR.2.2.2.1,n6.1,n6.2.1,n6.2.2.1,n15.1),(n15.2.1,n15.2.2.1,n15.2.2.2.1,n2.1,n2.2.1,n2.2.2.1),n16.1,n16.2.1,n16.2.2.1,n16.2.2.2.1,n5.1,n5.2.1,n5.2.2.1,n5.2.2.2.1,bA.1,bA.2.1),bA.2.2.1,bA.2.2.2.1,bA.2.2.2.2,(0,0),(0,0,false,false),false,0,(0,0,0),false,false,false,0,0,0,((1073741824,0,0,0),(0,0,0),0,0,0),0),((d.2.1.1,d.2.1.2.1,d.2.1.2.2.1),d.2.1.2.2.2),(d.2.2.1,(0,0,(0,0,0),0,0,0),false),(0,n4.1,n4.1,n4.1,n4.1,n4.1,n4.1,n4.1,n4.1),((0,0,0,0,0),n4.2.1,0, -9223372036854775808),((0,0,0,0,0),n4.2.2.1,0, -9223372036854775808),((0,0,0,0,0),n4.2.2.2.1,0, -9223372036854775808),((0,0,0,0,0),n4.2.2.2.2.1,0, -9223372036854775808),((0,0,0,0,0),n8.1,0, -9223372036854775808),((0,0,0,0,0),n8.2.1,0, -9223372036854775808),(n8.2.2.1,0),(n8.2.2.2.1.1,n8.2.2.2.1.2,0),(0,n4.1,n4.1,n4.1,n4.1,n4.1,n4.1,n4.1,n4.1,n4.1,n4.1),(n1.1,n1.1,n1.1,n1.1,n1.1,n1.1,n1.1,n1.1,n1.1),(bc,bc,bc,bc,bc,bc,bc,bc,bc),(n7.1,n7.1,n7.1,n7.1,n7.1,n7.1,n7.1,n7.1,n7.1),(bn,bn,bn,bn,bn,bn,bn,bn,bn),(n3.1,n3.1,n3.1,n3.1,n3.1,n3.1,n3.1,n3.1,n3.1),(bx,bx,bx,bx,bx,bx,bx,bx,bx),0,n9,n9,n9,n9,n9,n9,n9,n9,n9,n9,n9)) λx=>sum x (λd=>ret (ww ())) λd=>ret (wt d.2)) no) no) no) no) no) no)
def asX:=λx=>(aeb uU akI x).val
abbrev Ro:=ZF×NT×ur×(LT rY DY)
def aec (p:Ro):KK:=⟨[auC p.1,aiK p.2.1,NR p.b.1],⟨[⟨5,(0::2::3::4::6::rg 8 29 []),[(0,[])]⟩],[gx 5 0 rY akH p.b.2],[],[],(some ⟨0,(rg 0 4 (rg 5 32 [])),[]⟩)⟩,0,47⟩
theorem azU (p:Ro):LI (aec p) 5 rY akH (UL p.2.1 p.b.1):=λ_ d c K=>by kernel_rfl
theorem aID (p:Ro):D2 (aec p) Jl asW λb=>aeb p.1 p.b.2 b:=λb=>by kernel_rfl
abbrev aed:Ro:=(uU,Dn,gC,akI)
theorem aIE [ay]:SC (aea asX):=sc (kS (k:=aec aed) (.c aGX (.c axD (.c abT (.nil _)))) [5] [] ⟨kL (azU aed),trivial⟩ trivial (aID aed))
def Qu:=qa (pr (cu eW (cl OA nil)) (cd qL λb0=>(c lK (c mJ (c (cl (gs b0.c.1 mI) nil) (cd rj λb4=>(cd pn λb5=>(cd px λb6=>(cd py λb7=>(cd pz λb8=>(cd pA λb9=>(c ml (cd sQ λuQ=>(c (cl (gs b0.e kZ) nil) (c (cl (gs b4.b.1 aB) nil) (c (cl (gs b5.b.1 aB) nil) (c (cl (gs b6.b.1 aB) nil) (c (cl (gs b7.b.1 aB) nil) (c (cl (gs b8.b.1 aB) nil) (c (cl (gs b9.b.1 aB) nil) (cl (cl (gs uQ.b ia) nil) nil)))))))))))))))))))))
def apa:=qe (res (pr ai (pr (cl (B9 aQy) aQo) aQC)))
abbrev aiM:=apa.B
abbrev auS:=Qu.B->Option aiM
def aHg (g:auS):Ct:=(21,FC Qu (lf apa) g)
def mi:=qs (st (pr (cu eW (c OA (us 2 (cu Tb (c ai (c ai (c ai (cu aSq (us 2 aVK))))))))) (pl (c (so (a 26 sS (c gb (c jw (a 2 uA (cu (gp 21 5) (cu (gp 22 10) (c (gc (fJ (pu (nat 23) (pr Ox (pl gH (pu EK fL)))))) (au 6 (cu (gp 24 8) (cu (gp 25 8) (cu (gp 26 8) (cu (gp 27 8) (cu (gp 28 8) (cu (gp 29 8) nil)))))) (cu (gp 30 37) (a 4 wJ (cu (gp 31 3) (c gb (c gi (a 3 jV (c gb (c gb (c gb (c gi (c gi (c gi (a 10 xY (cl (gc (fJ (pu (nat 32) (pu (ox (pu cX (pu cX (nat 10)))) (pl gH (pu (nat 10) fL)))))) nil))))))))))))))))))))))) (cu nO (cu nO (cu nO (cu nO (cu nO (cu nO (cu nO (cu nO (cu nO (cu nO (cu nO (cu nO (cu nO (cu nO (cu nO (cu nO (cu nO (cu nO (cu nO (c (so (c gi (c gi (c gi (c gi alc))))) (c qJ (c qK (c sR (c (so ax7) (c (so ax8) (c (so ax9) (c (so aya) (c (so ayb) (c (so (a 5 fW (c gi (c (gc (fJ (pu (nat 38) (pu (ox (pu cX (pu cX ep))) (pl gH (pu ep fL)))))) jG)))) (c pk (c (so (c gi (c gi (cl (gc (fJ (pu (nat 39) (pu (ox (pu cX (pu cX El))) (pl gH (pu El fL)))))) nil)))) Fv)))))))))))))))))))))))))))))))) alg)))
def aDI:=qs (st (pr (cu eW (c OA (us 2 (cu Tb (c ai (c ai (c ai (cu aSq (us 2 (c ai (us 25 (c ai (cu aPU (c ai (c ab (cu Ta (c ai (c ab (c ab (us 2 aV2)))))))))))))))))))) (pl (c (so (a 26 sS (c gb (c jw (a 2 uA (cu (gp 21 5) (cu (gp 22 10) (c (gc (fJ (pu (nat 23) (pr Ox (pl gH (pu EK fL)))))) (au 6 (cu (gp 24 8) (cu (gp 25 8) (cu (gp 26 8) (cu (gp 27 8) (cu (gp 28 8) (cu (gp 29 8) nil)))))) (cu (gp 30 37) (a 4 wJ (cu (gp 31 3) (c gb (c gi (a 3 jV (c gb (c gb (c gb (c gi (c gi (c gi (a 10 xY (cl (gc (fJ (pu (nat 32) (pu (ox (pu cX (pu cX (nat 10)))) (pl gH (pu (nat 10) fL)))))) nil))))))))))))))))))))))) (cu nO (cu nO (cu nO (cu nO (cu nO (cu nO (cu nO (cu nO (cu nO (cu nO (cu nO (cu nO (cu nO (cu nO (cu nO (cu nO (cu nO (cu nO (cu nO (c (so (c gi (c gi (c gi (c gi alc))))) (c qJ (c qK (c sR (c (so ax7) (c (so ax8) (c (so ax9) (c (so aya) (c (so ayb) (c (so (a 5 fW (c gi (c (gc (fJ (pu (nat 38) (pu (ox (pu cX (pu cX ep))) (pl gH (pu ep fL)))))) jG)))) (c pk (c (so (c gi (c gi (cl (gc (fJ (pu (nat 39) (pu (ox (pu cX (pu cX El))) (pl gH (pu El fL)))))) nil)))) Fv)))))))))))))))))))))))))))))))) alg)))
def aDJ:=qs (st (pr (cu eW (c OA (us 2 (cu Tb (c ai (c ai (c ai (cu aSq (us 2 (c ai (us 25 (c ai (cu aPU (c ai (c ab (cu Ta (c ai (c ab (cl ab (us 45 nil)))))))))))))))))))) (pl (c (so (a 26 sS (c gb (c jw (a 2 uA (cu (gp 21 5) (cu (gp 22 10) (c (gc (fJ (pu (nat 23) (pr Ox (pl gH (pu EK fL)))))) (au 6 (cu (gp 24 8) (cu (gp 25 8) (cu (gp 26 8) (cu (gp 27 8) (cu (gp 28 8) (cu (gp 29 8) nil)))))) (cu (gp 30 37) (a 4 wJ (cu (gp 31 3) (c gb (c gi (a 3 jV (c gb (c gb (c gb (c gi (c gi (c gi (a 10 xY (cl (gc (fJ (pu (nat 32) (pu (ox (pu cX (pu cX (nat 10)))) (pl gH (pu (nat 10) fL)))))) nil))))))))))))))))))))))) (cu nO (cu nO (cu nO (cu nO (cu nO (cu nO (cu nO (cu nO (cu nO (cu nO (cu nO (cu nO (cu nO (cu nO (cu nO (cu nO (cu nO (cu nO (cu nO (c (so (c gi (c gi (c gi (c gi alc))))) (c qJ (c qK (c sR (c (so ax7) (c (so ax8) (c (so ax9) (c (so aya) (c (so ayb) (c (so (a 5 fW (c gi (c (gc (fJ (pu (nat 38) (pu (ox (pu cX (pu cX ep))) (pl gH (pu ep fL)))))) jG)))) (c pk (c (so (c gi (c gi (cl (gc (fJ (pu (nat 39) (pu (ox (pu cX (pu cX El))) (pl gH (pu El fL)))))) nil)))) Fv)))))))))))))))))))))))))))))))) alg)))
def aDK:=qs (st (pr (cu eW (c OA (us 2 (cu Tb (c ai (c ai (c ai (cu aSq (us 2 (c ai (us 25 (c ai (cu aPU (c ai (cl ab (cu uy (xs 2 (cu uy (us 45 nil))))))))))))))))))) (pl (c (so (a 26 sS (c gb (c jw (a 2 uA (cu (gp 21 5) (cu (gp 22 10) (c (gc (fJ (pu (nat 23) (pr Ox (pl gH (pu EK fL)))))) (au 6 (cu (gp 24 8) (cu (gp 25 8) (cu (gp 26 8) (cu (gp 27 8) (cu (gp 28 8) (cu (gp 29 8) nil)))))) (cu (gp 30 37) (a 4 wJ (cu (gp 31 3) (c gb (c gi (a 3 jV (c gb (c gb (c gb (c gi (c gi (c gi (a 10 xY (cl (gc (fJ (pu (nat 32) (pu (ox (pu cX (pu cX (nat 10)))) (pl gH (pu (nat 10) fL)))))) nil))))))))))))))))))))))) (cu nO (cu nO (cu nO (cu nO (cu nO (cu nO (cu nO (cu nO (cu nO (cu nO (cu nO (cu nO (cu nO (cu nO (cu nO (cu nO (cu nO (cu nO (cu nO (c (so (c gi (c gi (c gi (c gi alc))))) (c qJ (c qK (c sR (c (so ax7) (c (so ax8) (c (so ax9) (c (so aya) (c (so ayb) (c (so (a 5 fW (c gi (c (gc (fJ (pu (nat 38) (pu (ox (pu cX (pu cX ep))) (pl gH (pu ep fL)))))) jG)))) (c pk (c (so (c gi (c gi (cl (gc (fJ (pu (nat 39) (pu (ox (pu cX (pu cX El))) (pl gH (pu El fL)))))) nil)))) Fv)))))))))))))))))))))))))))))))) alg)))
abbrev zT:=((aIL×Int×Int×Int×Int×Int×Bool×Bool×Bool)×(J7×Bool×NI×(NI×NI)×(Nat×Nat)×uW×Bool×Int×nJ×Bool×Bool×Bool×Int×Int×Int×HS×Nat)×aVp×(nJ×Int×Int)×S9×Ws×cD×cD×cD×cD×cD×cD×Rt×xT×HT×si×si×si×si×si×si×Nat×NI×NI×NI×NI×NI×NI×NI×NI×NI×NI×NI)⊕(((aIL×Int×Int×Int×Int×Int×Bool×Bool)×(J7×Bool×NI×(NI×NI)×(Nat×Nat)×uW×Bool×Int×nJ×Bool×Bool×Bool×Int×Int×Int×HS×Nat)×aVp×(nJ×Int×Int)×S9×Ws×cD×cD×cD×cD×cD×cD×Rt×xT×HT×si×si×si×si×si×si×Nat×NI×NI×NI×NI×NI×NI×NI×NI×NI×NI×NI)⊕((aIL×Int×Int×Int×Int×Int×Bool)×(J7×Bool×NI×(NI×NI)×(Nat×Nat)×uW×Bool×Int×nJ×Bool×Bool×Bool×Int×Int×Int×HS×Nat)×aVp×(nJ×Int×Int)×S9×Ws×cD×cD×cD×cD×cD×cD×Rt×xT×HT×si×si×si×si×si×si×Nat×NI×NI×NI×NI×NI×NI×NI×NI×NI×NI×NI))
def axG {ρ:Type}(x:zT)(K:AX->St->Option ρ):Option ρ:=(t9 (λd=>K (.ex 3) (aDI.em ((d.1.1,d.1.2.1,d.1.b.1,d.1.b.2.1,d.1.c.1,d.1.c.1,d.1.c.2.1,d.1.c.b.1,d.1.c.1,d.1.c.b.2.1,d.1.c.b.2.1,d.1.b.1,d.1.d),d.2.1,(d.b.1.1,d.b.1.2.1,d.1.c.2.1,d.b.1.b),d.b.2))) (t9 (λd=>K (.ex 3) (aDJ.em ((d.1.1,d.1.2.1,d.1.b.1,d.1.b.2.1,d.1.c.1,d.1.c.1,d.1.c.2.1,d.1.c.b.1,d.1.c.1,d.1.c.b.2,d.1.c.b.2),d.2.1,(d.b.1.1,d.b.1.2.1,d.1.c.2.1,d.b.1.b),d.b.2))) (λd=>K (.ex 3) (aDK.em ((d.1.1,d.1.2.1,d.1.b.1,d.1.b.2.1,d.1.c.1,d.1.c),d.2.1,(d.b.1.1,d.b.1.2.1,d.1.c.2.1,d.b.1.b),d.b.2))))) x
def Wl (zR:ur)(aiL:NT)(d:mi.B):PL mi zT:=let n28:=d.1.1;let n27:=d.1.2.1;let n21:=d.2.1;let n17:=d.2.2;let n23:=n17.1.2.2;let n16:=n21.2.2.2.2;let n25:=n16.2.2.2.2.2.2.2.2.2.2.2.2;let bx:=d.1.2.2;let n29:=bx.2.1;let n24:=bx.2.2;let bn:=n17.2.2.2.2;let n8:=bn.2.2.2;let n30:=n8.2.2;let n15:=n30.2.2;let n19:=n15.2.2.2.2;let bc:=n19.2.2.2.2.2;let n18:=bc.2.2.2.2.2;let n2:=(n17.1.1,n17.1.2.1,n23.2);let y0:=wI (bx.1+8000);let y1:=decide (bx.1>1099511627776);let y2:=decide (n24<40);let y3:=decide (n24<n23.1);ae y3 (ae y2 (ae y1 (ret (wt (ww ((n28,n27,bx.1,n29,n24,n23.1,y3,y2,y1),n21,n2,n17.2)))) (opt (aiL y0 8000) λak=>ae (z9 n16.1.2 n16.1.2) (ae (z9 n25 n25) (ae (z9 bn.1.2.2.1 bn.1.2.2.1) (ae (z9 bn.2.1.2.2.1 bn.2.1.2.2.1) (ae (z9 bn.2.2.1.2.2.1 bn.2.2.1.2.2.1) (ae (z9 n8.1.2.2.1 n8.1.2.2.1) (ae (z9 n8.2.1.2.2.1 n8.2.1.2.2.1) (ae (z9 n30.1.2.2.1 n30.1.2.2.1) (ae (z9 n15.1.2.2 n15.1.2.2) (opt (zR ((ak.1,ak.2.1,(0,0,0),0,0,ak.2.2),(n21.1,n21.2.1,n21.2.2.1,n21.2.2.2.1,n16.1.2,n16.2),n17.2.1,n17.2.2.1,(sh8 n16.1.1 n17.2.2.2.1.2),bn.1,bn.2.1,bn.2.2.1,n8.1,n8.2.1,n30.1,n30.2.1,n15.1,(aqr 0 n15.2.1.2),(sf 0 n15.2.2.1.2),(sf 0 n15.2.2.2.1.2),(sf 0 n19.1.2),(sf 0 n19.2.1.2),(sf 0 n19.2.2.1.2),(sf 0 n19.2.2.2.1.2),λj=>bc.1 (0+j),λj=>bc.2.1 (0+j),λj=>bc.2.2.1 (0+j),λj=>bc.2.2.2.1 (0+j),λj=>bc.2.2.2.2.1 (0+j),λj=>n18.1 (0+j),λj=>n18.2.1 (0+j),λj=>n18.2.2.1 (0+j),λj=>n18.2.2.2.1 (0+j),λj=>n18.2.2.2.2.1 (0+j),λj=>n18.2.2.2.2.2 (0+j))) λaK=>let n26:=aK.2.2;let bA:=n26.2.2.2;let n9:=bA.2.2.2;let n22:=n9.2.2;let bR:=n22.2.2.2;let n20:=bR.2.2.2.2;let n7:=(bA.1.2.2.1,bR.2.1);let n6:=(bA.2.1.2.2.1,bR.2.2.1);let n5:=(bA.2.2.1.2.2.1,bR.2.2.2.1);let n4:=(n9.1.2.2.1,n20.1);let n3:=(n9.2.1.2.2.1,n20.2.1);let n1:=(n22.1.2.2.1,n20.2.2.1);let se:=wI (n27+aK.1.1);ae (aK.1.2==0) (ret (ww ((n28,se,y0,n29,wI (n24+1)),aK.2.1,n17.1,n26.1,n26.2.1,n26.2.2.1,bA.1,bA.2.1,bA.2.2.1,n9.1,n9.2.1,n22.1,n22.2.1,n22.2.2.1,bR.1,n7,n6,n5,n4,n3,n1,n20.2.2.2))) (ret (ww ((n28,se,bx.1,n29,wI (n24+1)),aK.2.1,n17.1,n26.1,n26.2.1,n26.2.2.1,bA.1,bA.2.1,bA.2.2.1,n9.1,n9.2.1,n22.1,n22.2.1,n22.2.2.1,bR.1,n7,n6,n5,n4,n3,n1,n20.2.2.2)))) no) no) no) no) no) no) no) no) no)) (ret (wt (wt (ww ((n28,n27,bx.1,n29,n24,n23.1,y3,y2),n21,n2,n17.2)))))) (ret (wt (wt (wt ((n28,n27,bx.1,n29,n24,n23.1,y3),n21,n2,n17.2)))))
def NZ:=bE (Wl gC Dn) 2000
def pI:=qs (st (pr (cu eW (c OA (us 2 (cu Tb (c ai (c ai aPy)))))) (pl aEx alg)))
def aDL:=qs (st (pr (cu eW (c OA (us 2 (cu Tb (c ai (c ai (c ai (us 9 (c ai (c OA (c ai (c ab (cu Ta (c ai (c ab (c ab (cu Ta (c ai (c ab (cl ab (us 61 nil))))))))))))))))))))) (pl aEx alg)))
def aDM:=qs (st (pr (cu eW (c OA (us 2 (cu Tb (c ai (c ai (c ai (us 9 (c ai (c OA (c ai (c ab (cu Ta (c ai (c ab (cl ab aWG)))))))))))))))) (pl aEx alg)))
def aDN:=qs (st (pr (cu eW (c OA (us 2 (cu Tb (c ai (c ai (c ai (us 9 (c ai (c OA (c ai (cl ab (cu uy (xs 2 (cu uy aWG))))))))))))))) (pl aEx alg)))
abbrev Dq:=((aIL×Int×Int×Int×Int×Bool×Bool×Bool)×(J7×Bool×NI×(NI×NI)×(Nat×Nat)×uW×Bool×Int×nJ×Bool×Bool×Bool×Int×Int×Int×HS×Nat)×(nJ×Int×Int)×S9×Ws×cD×cD×cD×cD×cD×cD×Rt×xT×HT×si×si×si×si×si×si×Nat×NI×NI×NI×NI×NI×NI×NI×NI×NI×NI×NI)⊕(((aIL×Int×Int×Int×Int×Bool×Bool)×(J7×Bool×NI×(NI×NI)×(Nat×Nat)×uW×Bool×Int×nJ×Bool×Bool×Bool×Int×Int×Int×HS×Nat)×(nJ×Int×Int)×S9×Ws×cD×cD×cD×cD×cD×cD×Rt×xT×HT×si×si×si×si×si×si×Nat×NI×NI×NI×NI×NI×NI×NI×NI×NI×NI×NI)⊕((aIL×Int×Int×Int×Int×Bool)×(J7×Bool×NI×(NI×NI)×(Nat×Nat)×uW×Bool×Int×nJ×Bool×Bool×Bool×Int×Int×Int×HS×Nat)×(nJ×Int×Int)×S9×Ws×cD×cD×cD×cD×cD×cD×Rt×xT×HT×si×si×si×si×si×si×Nat×NI×NI×NI×NI×NI×NI×NI×NI×NI×NI×NI))
def axH {ρ:Type}(x:Dq)(K:AX->St->Option ρ):Option ρ:=(t9 (λd=>K (.ex 0) (aDL.em ((d.1.1,d.1.2.1,d.1.b.1,d.1.b.2.1,d.1.b.2.1,d.1.1,d.1.c.1,d.1.c.2.1,d.1.b.2.1,d.1.c.b.1,d.1.c.b.1,d.1.2.1,d.1.c.b.2,d.1.c.b.2),d.2))) (t9 (λd=>K (.ex 0) (aDM.em ((d.1.1,d.1.2.1,d.1.b.1,d.1.b.2.1,d.1.b.2.1,d.1.1,d.1.c.1,d.1.c.2.1,d.1.b.2.1,d.1.c.b,d.1.c.b),d.2))) (λd=>K (.ex 0) (aDN.em ((d.1.1,d.1.2.1,d.1.b.1,d.1.b.2.1,d.1.b.2.1,d.1.1,d.1.c),d.2))))) x
def Wm (aiN:Dk)(zR:ur)(ru:LT mi zT)(d:pI.B):PL pI Dq:=let n38:=d.2.1;let n26:=d.2.2.2;let KV:=n26.2.2.1;let n22:=d.1.1;let n20:=d.1.2;let n39:=n20.2.1;let n29:=n20.2.2;let n19:=n38.2.2.2.2;let n36:=n19.2.2.2.2.2.2.2.2.2.2.2.2;let bR:=n22.2.2.2.2;let n33:=bR.2.2;let bx:=n26.2.2.2;let LN:=bx.2.2.1;let n23:=bx.2.2.2;let n9:=n33.2.2.2;let n28:=n9.2.2.2;let n15:=n28.2.2.2;let n31:=n15.2.2.2;let n8:=n23.2.2.2;let P6:=n8.2.2;let n21:=P6.2.2;let n34:=n21.2.2;let bc:=n34.2.2.2.2;let n35:=bc.2.2;let n16:=n35.2.2.2;let KU:=n16.2.2;let n1:=(n38.1,n38.2.1,n38.2.2.1,n38.2.2.2.1,n19.1.2,n19.2);let y0:=z4 n29;let y1:=wI (n29+1);let y2:=ws n22.1;let y3:=decide (n20.1<60);let y4:=decide (n29<30);let y5:=decide (n29<y2);let y6:=z9 n19.1.2 n19.1.2;let y7:=z9 n36 n36;let y8:=z9 KV.2.2.1 KV.2.2.1;let y9:=z9 bx.1.2.2.1 bx.1.2.2.1;let xR:=z9 bx.2.1.2.2.1 bx.2.1.2.2.1;let xS:=z9 LN.2.2.1 LN.2.2.1;let AB:=z9 n23.1.2.2.1 n23.1.2.2.1;let AD:=z9 n23.2.1.2.2.1 n23.2.1.2.2.1;let AE:=z9 n8.1.2.2 n8.1.2.2;ae y5 (ae y4 (ae y3 (ae (bf n29 n22.1) (ae (n22.2.1 y0==1) (ae y6 (ae y7 (ae y8 (ae y9 (ae xR (ae xS (ae AB (ae AD (ae AE (opt (aiN ((n22.2.2.1 y0,n28.1 y0,n28.2.1 y0,n28.2.2.1 y0,n15.1 y0,n15.2.1 y0,n15.2.2.1 y0,n31.1 y0,n31.2.1 y0,n31.2.2 y0),n1,d.2.2.1,n26.1,(sh8 n19.1.1 n26.2.1.2),KV,bx.1,bx.2.1,LN,n23.1,n23.2.1,n23.2.2.1,n8.1,(aqr 0 n8.2.1.2),(sf 0 P6.1.2),(sf 0 P6.2.1.2),(sf 0 n21.1.2),(sf 0 n21.2.1.2),(sf 0 n34.1.2),(sf 0 n34.2.1.2),λj=>n34.2.2.2.1 (0+j),λj=>bc.1 (0+j),λj=>bc.2.1 (0+j),λj=>n35.1 (0+j),λj=>n35.2.1 (0+j),λj=>n35.2.2.1 (0+j),λj=>n16.1 (0+j),λj=>n16.2.1 (0+j),λj=>KU.1 (0+j),λj=>KU.2.1 (0+j),λj=>KU.2.2 (0+j))) λak=>let n27:=ak.2.1.2.2;let n24:=ak.2.2.2.2.2;let bA:=n24.2.2.2.2.2;let Zu:=bA.2.2;let n25:=Zu.2.2.2;ret (ww ((n22,n20.1,n39,y1),(ak.2.1.1,ak.2.1.2.1,n27.1,n27.2.1,(0,n27.2.2.1),n27.2.2.2),ak.2.2.1,ak.2.2.2.1,(n27.2.2.1,ak.2.2.2.2.1),n24.1,n24.2.1,n24.2.2.1,n24.2.2.2.1,n24.2.2.2.2.1,bA.1,bA.2.1,Zu.1,(n27.2.2.2.2.2.2.2.2.2.2.2.2.2.2,Zu.2.1),Zu.2.2.1,n25.1,n25.2.1,n25.2.2.1,n25.2.2.2.1,n25.2.2.2.2.1,Zu.1.2.2,n25.2.2.2.2.2))) no) no) no) no) no) no) no) no) no) (ae (n22.2.1 y0==0) (ae y6 (ae y7 (ae y8 (ae y9 (ae xR (ae xS (ae AB (ae AD (ae AE (opt (zR ((bR.1 y0,bR.2.1 y0,(n33.1 y0,n33.2.1 y0,n33.2.2.1 y0),n9.1 y0,n9.2.1 y0,n9.2.2.1 y0),n1,d.2.2.1,n26.1,(sh8 n19.1.1 n26.2.1.2),KV,bx.1,bx.2.1,LN,n23.1,n23.2.1,n23.2.2.1,n8.1,(aqr 0 n8.2.1.2),(sf 0 P6.1.2),(sf 0 P6.2.1.2),(sf 0 n21.1.2),(sf 0 n21.2.1.2),(sf 0 n34.1.2),(sf 0 n34.2.1.2),λj=>n34.2.2.2.1 (0+j),λj=>bc.1 (0+j),λj=>bc.2.1 (0+j),λj=>n35.1 (0+j),λj=>n35.2.1 (0+j),λj=>n35.2.2.1 (0+j),λj=>n16.1 (0+j),λj=>n16.2.1 (0+j),λj=>KU.1 (0+j),λj=>KU.2.1 (0+j),λj=>KU.2.2 (0+j))) λak=>let n37:=ak.2.2;let n17:=n37.2.2.2;let bn:=n17.2.2.2;let n32:=bn.2.2;let n18:=n32.2.2.2;let n30:=n18.2.2.2.2;let n7:=(n17.1.2.2.1,n18.2.1);let n6:=(n17.2.1.2.2.1,n18.2.2.1);let n5:=(n17.2.2.1.2.2.1,n18.2.2.2.1);let n4:=(bn.1.2.2.1,n30.1);let n3:=(bn.2.1.2.2.1,n30.2.1);let n2:=(n32.1.2.2.1,n30.2.2.1);let se:=wI (n20.1+ak.1.1);ae (ak.1.2==0) (ret (ww ((n22,se,bR.1 y0,y1),ak.2.1,n37.1,n37.2.1,n37.2.2.1,n17.1,n17.2.1,n17.2.2.1,bn.1,bn.2.1,n32.1,n32.2.1,n32.2.2.1,n18.1,n7,n6,n5,n4,n3,n2,n30.2.2.2))) (ret (ww ((n22,se,n39,y1),ak.2.1,n37.1,n37.2.1,n37.2.2.1,n17.1,n17.2.1,n17.2.2.1,bn.1,bn.2.1,n32.1,n32.2.1,n32.2.2.1,n18.1,n7,n6,n5,n4,n3,n2,n30.2.2.2)))) no) no) no) no) no) no) no) no) no) (opt (ru ((n22,n20.1,n39,n29,0),n38,(n22.2.1 y0,n22.2.2.1 y0,n22.2.2.2.1 y0,bR.1 y0,bR.2.1 y0,n33.1 y0,n33.2.1 y0,n33.2.2.1 y0,n9.1 y0,n9.2.1 y0,n9.2.2.1 y0,n28.1 y0,n28.2.1 y0,n28.2.2.1 y0,n15.1 y0,n15.2.1 y0,n15.2.2.1 y0,n31.1 y0,n31.2.1 y0,n31.2.2 y0),d.2.2)) λx=>sum x (λd=>ret (ww ((d.1.1,d.1.2.1,d.1.2.2.1,wI (d.1.2.2.2.1+1)),d.2.1,d.2.2.2))) λx=>sum x (λd=>ret (ww ((d.1.1,d.1.2.1,d.1.2.2.1,wI (d.1.2.2.2.1+1)),d.2.1,d.2.2.2))) λd=>ret (ww ((d.1.1,d.1.2.1,d.1.2.2.1,wI (d.1.2.2.2.1+1)),d.2.1,d.2.2.2))))) no) (ret (wt (ww ((n22,n20.1,n39,n29,y2,y5,y4,y3),d.2))))) (ret (wt (wt (ww ((n22,n20.1,n39,n29,y2,y5,y4),d.2)))))) (ret (wt (wt (wt ((n22,n20.1,n39,n29,y2,y5),d.2)))))
def Wn:=bE (Wm iF gC NZ) 2000
def aiO (GM:tI)(eB:LT pI Dq)(x:Qu.B):Pg aiM:=let bn:=x.2.1.2;let n4:=x.2.2.2.2.2;let bx:=n4.1.2.2.1;let n8:=n4.2.1.2.2.1;let n3:=bn.2.2.2;let n5:=n3.2.2.2.2.2.2.2.2.2.2.2.2;let n1:=n4.2.2;let bA:=n1.1.2.2.1;let n9:=n1.2.1.2.2.1;let n6:=n1.2.2;let bR:=n6.1.2.2.1;let bc:=n6.2.1.2.2.1;let n2:=n6.2.2.2;let n7:=n2.2.2.2.2;ae (z9 n3.1 n3.1) (ae (z9 n5 n5) (ae (z9 bx bx) (ae (z9 n8 n8) (ae (z9 bA bA) (ae (z9 n9 n9) (ae (z9 bR bR) (ae (z9 bc bc) (ae (z9 n2.1.2.2 n2.1.2.2) (opt (GM x.2) λd=>opt (eB ((x.1,0,d.2.2.2.2.1,0),(x.2.1.1,bn.1,bn.2.1,bn.2.2.1,(0,n3.1),n3.2),x.2.2.1,x.2.2.2.1,(n3.1,x.2.2.2.2.1),n4.1,n4.2.1,n1.1,n1.2.1,n6.1,n6.2.1,n6.2.2.1,n2.1,(n5,n2.2.1),(bx,n2.2.2.1),(n8,n2.2.2.2.1),(bA,n7.1),(n9,n7.2.1),(bR,n7.2.2.1),(bc,n7.2.2.2.1),n2.1.2.2,n7.2.2.2.2)) λx=>sum x (λd=>ret (d.1.2.1,d.2)) λx=>sum x (λd=>ret (d.1.2.1,d.2)) λd=>ret (d.1.2.1,d.2)) no) no) no) no) no) no) no) no) no
def K6:=λx=>(aiO gm Wn x).val
abbrev ZX:=tI×Dk×ur×NT×(LT mi zT)×(LT pI Dq)
def aiP (p:ZX):KK:=⟨[zE p.1,Dl p.2.1,NR p.b.1,aiK p.b.2.1],⟨[⟨4,(2::3::rg 9 81 [8]),[(3,[]),(4,[]),(5,[]),(6,[]),(7,[]),(8,[]),(9,[]),(10,[]),(11,[]),(12,[]),(13,[]),(14,[]),(15,[]),(16,[]),(17,[]),(18,[]),(19,[]),(20,[]),(21,[]),(0,[])]⟩,⟨9,(2::3::9::10::rg 12 78 []),[(3,[]),(4,[]),(5,[]),(6,[]),(7,[]),(8,[]),(9,[]),(10,[]),(11,[]),(12,[]),(13,[]),(14,[]),(15,[]),(16,[]),(17,[]),(18,[]),(19,[]),(20,[]),(21,[]),(0,[])]⟩],[gx 9 20 mi axG p.c.1,gx 4 20 pI axH p.c.2],(0::rg 4 6 []),[],(some ⟨0,(rg 0 4 (rg 5 85 [])),[(3,[]),(4,[]),(5,[]),(6,[]),(7,[]),(8,[]),(9,[]),(10,[]),(11,[]),(12,[]),(13,[]),(14,[]),(15,[]),(16,[]),(17,[]),(18,[]),(19,[]),(20,[]),(21,[]),(0,[])]⟩)⟩,20,21⟩
theorem aIF (p:ZX):LI (aiP p) 9 mi axG (Wl p.b.1 p.b.2.1):=λ_ d c K=>by kernel_rfl
theorem aIG (p:ZX):LI (aiP p) 4 pI axH (Wm p.2.1 p.b.1 p.c.1):=λ_ d c K=>by kernel_rfl
theorem aR5 (p:ZX):D2 (aiP p) Qu (lf apa) λb=>aiO p.1 p.c.2 b:=λb=>by kernel_rfl
abbrev aiQ:ZX:=(gm,iF,gC,Dn,NZ,Wn)
theorem aR6 [ay]:SC (aHg K6):=sc (kS (k:=aiP aiQ) (.c Gy (.c NQ (.c abT (.c axD (.nil _))))) [4,9] [] ⟨kL (aIG aiQ),⟨kL (aIF aiQ),trivial⟩⟩ trivial (aR5 aiQ))
end Go.Proofs.YtldgljclcgaibaaGreat
namespace Go.Proofs.YtldgljclcgaibaaGreat
open Go.Ab Go.Ab.Pg
theorem aU1 (d:mi.B)(hd:GF d.2.1.b.1 d.2.1.b.2.1 d.2.1.c.2.1 d.2.1.d.c.b.2.1/\OB d.d.c.2.1 d.e.c.2.2):Po (NZ d) (λx:zT=>match x with|.inl x=>GF x.2.1.b.1 x.2.1.b.2.1 x.2.1.c.2.1 x.2.1.d.c.b.2.1/\OB x.d.c.2.1 x.e.c.2.2|.inr (.inl x)=>GF x.2.1.b.1 x.2.1.b.2.1 x.2.1.c.2.1 x.2.1.d.c.b.2.1/\OB x.d.c.2.1 x.e.c.2.2|.inr (.inr x)=>GF x.2.1.b.1 x.2.1.b.2.1 x.2.1.c.2.1 x.2.1.d.c.b.2.1/\OB x.d.c.2.1 x.e.c.2.2):=
 u3 (s:=_) (λd:mi.B=>GF d.2.1.b.1 d.2.1.b.2.1 d.2.1.c.2.1 d.2.1.d.c.b.2.1/\OB d.d.c.2.1 d.e.c.2.2) (λx:zT=>match x with|.inl x=>GF x.2.1.b.1 x.2.1.b.2.1 x.2.1.c.2.1 x.2.1.d.c.b.2.1/\OB x.d.c.2.1 x.e.c.2.2|.inr (.inl x)=>GF x.2.1.b.1 x.2.1.b.2.1 x.2.1.c.2.1 x.2.1.d.c.b.2.1/\OB x.d.c.2.1 x.e.c.2.2|.inr (.inr x)=>GF x.2.1.b.1 x.2.1.b.2.1 x.2.1.c.2.1 x.2.1.d.c.b.2.1/\OB x.d.c.2.1 x.e.c.2.2) (λd hd=>by
  unfold Wl;dsimp only
  repeat' (first
   |(rw[cw];exact trivial)
   |(with_reducible refine aC ((aY2 _ ?_).and (aTm _ ?_)) λe _ he=> ?_)
   |(rw[jY];refine⟨λe0 e1=> ?_,λe0 e1=> ?_⟩<;>subst e1)
   |(rw[gB];refine⟨λe0 e1=> ?_,λe0 e1=> ?_⟩<;>subst e1)
   |(rw[aT];refine⟨λ_=> ?_,λ_=> ?_⟩)
   |(rw[bg];intro _ _))
  all_goals first
   |exact hd.1
   |exact hd.2.zero
   |(rw[aL];first|exact hd|exact he)) 2000 d hd
theorem aU2 (d:pI.B)(hd:GF d.2.1.b.1 d.2.1.b.2.1 d.2.1.c.2.1 d.2.1.d.c.b.2.1/\OB d.d.c.1 d.e.c.2):Po (Wn d) (λx:Dq=>match x with|.inl x=>GF x.2.1.b.1 x.2.1.b.2.1 x.2.1.c.2.1 x.2.1.d.c.b.2.1/\OB x.d.c.1 x.e.c.2|.inr (.inl x)=>GF x.2.1.b.1 x.2.1.b.2.1 x.2.1.c.2.1 x.2.1.d.c.b.2.1/\OB x.d.c.1 x.e.c.2|.inr (.inr x)=>GF x.2.1.b.1 x.2.1.b.2.1 x.2.1.c.2.1 x.2.1.d.c.b.2.1/\OB x.d.c.1 x.e.c.2):=
 u3 (s:=_) (λd:pI.B=>GF d.2.1.b.1 d.2.1.b.2.1 d.2.1.c.2.1 d.2.1.d.c.b.2.1/\OB d.d.c.1 d.e.c.2) (λx:Dq=>match x with|.inl x=>GF x.2.1.b.1 x.2.1.b.2.1 x.2.1.c.2.1 x.2.1.d.c.b.2.1/\OB x.d.c.1 x.e.c.2|.inr (.inl x)=>GF x.2.1.b.1 x.2.1.b.2.1 x.2.1.c.2.1 x.2.1.d.c.b.2.1/\OB x.d.c.1 x.e.c.2|.inr (.inr x)=>GF x.2.1.b.1 x.2.1.b.2.1 x.2.1.c.2.1 x.2.1.d.c.b.2.1/\OB x.d.c.1 x.e.c.2) (λd hd=>by
  unfold Wm;dsimp only
  repeat' (first
   |(rw[cw];exact trivial)
   |(with_reducible refine aC (aUS _) λe _ hs=> ?_)
   |(with_reducible refine aC ((aY2 _ ?_).and (aTm _ ?_)) λe _ he=> ?_)
   |(with_reducible refine aC (aU1 _ ?_) λe _ he=> ?_)
   |(rw[jY];refine⟨λe0 e1=> ?_,λe0 e1=> ?_⟩<;>subst e1)
   |(rw[gB];refine⟨λe0 e1=> ?_,λe0 e1=> ?_⟩<;>subst e1)
   |(rw[aT];refine⟨λ_=> ?_,λ_=> ?_⟩)
   |(rw[bg];intro _ _))
  all_goals first
   |exact hd.1
   |exact hd.2.zero
   |exact hd
   |(rw[aL]
     first
      |exact hd
      |exact he
      |(obtain⟨h1,h2,h3⟩:=hs;exact⟨(by show GF e.2.1.b.1 e.2.1.b.2.1 e.2.1.c.2.1 e.2.1.d.c.b.2.1;rw[h1];exact hd.1),(by show OB e.d.c.1 e.e.b.2.2;rw[h2,h3];exact hd.2.zero)⟩))
   |skip) 2000 d hd
theorem a2o (x:Qu.B)(h:GF x.2.1.b.1 x.2.1.b.2.1 x.2.1.c.2.1 x.2.1.d.c.b.2.1/\OB x.d.c.1 x.e.b.2.2):Po (K6 x) (λe:aiM=>GF e.2.1.b.1 e.2.1.b.2.1 e.2.1.c.2.1 e.2.1.d.c.b.2.1/\OB e.d.c.1 e.e.c.2):=by
 unfold K6 aiO;try dsimp only
 show PW _ _;try dsimp only
 repeat' (first
   |(rw[cw];exact trivial)
   |(with_reducible refine aC (aU2 _ ?_) λe _ he=> ?_)
   |(rw[jY];refine⟨λe0 e1=> ?_,λe0 e1=> ?_⟩<;>subst e1)
   |(rw[gB];refine⟨λe0 e1=> ?_,λe0 e1=> ?_⟩<;>subst e1)
   |(rw[aT];refine⟨λ_=> ?_,λ_=> ?_⟩)
   |(rw[bg];intro _ _))
 all_goals first
   |exact h
   |(rw[aL];exact he)
   |skip
structure Clo (P:Int->Int->Bf->Prop):Prop where
 len:∀{m t b},P m t b->b.2.2.1<=64
 br:∀{m t u b c},P m t b->t<=u->BR u b c->P m u c
 pr:∀{m t b c},0<=m->m<=1000->P m t b->(PR b c∨SR b c)->P (m+1) t c
 up:∀{m t b},P m t b->P (m+1) t b
def Tq (T S:Int)(a:Bool)(n:Nat)(r:Nat->Int):Prop:=(a=false->S<=0)/\Qd T S n r
theorem aU6 (t:Int):Dn t 8000=some (t,8000, -84238486):=by kernel_rfl
theorem aSc (N:Nat)(h1:1<=N)(hN:N<=1999){P:Int->Int->Bf->Prop}(C:Clo P)(m:Int)(q:Int)(hq:q+40<=1998)(w:mi.B):∀(d:mi.B) (hd:d.1.1=w.1.1/\d.1.2.2.2.1=w.1.2.2.2.1/\0<=d.1.2.2.2.2/\d.1.2.2.2.2<=40/\((d.2.1.2.2.2.2.1.2:Nat):Int)<=q+d.1.2.2.2.2/\Tq d.2.1.2.2.2.2.2.2.2.2.2.2.2.2.2.1 d.2.2.2.2.1.2.1.1 d.2.2.2.2.1.2.2 d.2.1.2.2.2.2.1.2 (λi=>d.2.2.2.2.2.1.2.1 (d.2.1.2.2.2.2.1.1+i))/\P (m) d.2.1.2.2.2.2.2.2.2.2.2.2.2.2.2.1 d.2.2.2.2.2.2.1/\P (m) d.2.1.2.2.2.2.2.2.2.2.2.2.2.2.2.1 d.2.2.2.2.2.2.2.1/\P (m) d.2.1.2.2.2.2.2.2.2.2.2.2.2.2.2.1 d.2.2.2.2.2.2.2.2.1/\P (m) d.2.1.2.2.2.2.2.2.2.2.2.2.2.2.2.1 d.2.2.2.2.2.2.2.2.2.1/\P (m) d.2.1.2.2.2.2.2.2.2.2.2.2.2.2.2.1 d.2.2.2.2.2.2.2.2.2.2.1/\P (m) d.2.1.2.2.2.2.2.2.2.2.2.2.2.2.2.1 d.2.2.2.2.2.2.2.2.2.2.2.1/\d.2.2.2.2.2.2.2.2.2.2.2.2.2.1.1<=(N:Int)/\d.2.2.2.2.2.2.2.2.2.2.2.2.2.1.2.2<=N),Ok (NZ d) (λx:zT=>match x with|.inl x=>x.1.1=w.1.1/\x.1.2.2.2.1=w.1.2.2.2.1/\((x.2.1.2.2.2.2.1.2:Nat):Int)<=q+40/\Tq x.2.1.2.2.2.2.2.2.2.2.2.2.2.2.2.1 x.2.2.2.2.1.2.1.1 x.2.2.2.2.1.2.2 x.2.1.2.2.2.2.1.2 (λi=>x.2.2.2.2.2.1.2.1 (x.2.1.2.2.2.2.1.1+i))/\P (m) x.2.1.2.2.2.2.2.2.2.2.2.2.2.2.2.1 x.2.2.2.2.2.2.1/\P (m) x.2.1.2.2.2.2.2.2.2.2.2.2.2.2.2.1 x.2.2.2.2.2.2.2.1/\P (m) x.2.1.2.2.2.2.2.2.2.2.2.2.2.2.2.1 x.2.2.2.2.2.2.2.2.1/\P (m) x.2.1.2.2.2.2.2.2.2.2.2.2.2.2.2.1 x.2.2.2.2.2.2.2.2.2.1/\P (m) x.2.1.2.2.2.2.2.2.2.2.2.2.2.2.2.1 x.2.2.2.2.2.2.2.2.2.2.1/\P (m) x.2.1.2.2.2.2.2.2.2.2.2.2.2.2.2.1 x.2.2.2.2.2.2.2.2.2.2.2.1/\x.2.2.2.2.2.2.2.2.2.2.2.2.2.1.1<=(N:Int)/\x.2.2.2.2.2.2.2.2.2.2.2.2.2.1.2.2<=N|.inr (.inl x)=>x.1.1=w.1.1/\x.1.2.2.2.1=w.1.2.2.2.1/\((x.2.1.2.2.2.2.1.2:Nat):Int)<=q+40/\Tq x.2.1.2.2.2.2.2.2.2.2.2.2.2.2.2.1 x.2.2.2.2.1.2.1.1 x.2.2.2.2.1.2.2 x.2.1.2.2.2.2.1.2 (λi=>x.2.2.2.2.2.1.2.1 (x.2.1.2.2.2.2.1.1+i))/\P (m) x.2.1.2.2.2.2.2.2.2.2.2.2.2.2.2.1 x.2.2.2.2.2.2.1/\P (m) x.2.1.2.2.2.2.2.2.2.2.2.2.2.2.2.1 x.2.2.2.2.2.2.2.1/\P (m) x.2.1.2.2.2.2.2.2.2.2.2.2.2.2.2.1 x.2.2.2.2.2.2.2.2.1/\P (m) x.2.1.2.2.2.2.2.2.2.2.2.2.2.2.2.1 x.2.2.2.2.2.2.2.2.2.1/\P (m) x.2.1.2.2.2.2.2.2.2.2.2.2.2.2.2.1 x.2.2.2.2.2.2.2.2.2.2.1/\P (m) x.2.1.2.2.2.2.2.2.2.2.2.2.2.2.2.1 x.2.2.2.2.2.2.2.2.2.2.2.1/\x.2.2.2.2.2.2.2.2.2.2.2.2.2.1.1<=(N:Int)/\x.2.2.2.2.2.2.2.2.2.2.2.2.2.1.2.2<=N|.inr (.inr x)=>x.1.1=w.1.1/\x.1.2.2.2.1=w.1.2.2.2.1/\((x.2.1.2.2.2.2.1.2:Nat):Int)<=q+40/\Tq x.2.1.2.2.2.2.2.2.2.2.2.2.2.2.2.1 x.2.2.2.2.1.2.1.1 x.2.2.2.2.1.2.2 x.2.1.2.2.2.2.1.2 (λi=>x.2.2.2.2.2.1.2.1 (x.2.1.2.2.2.2.1.1+i))/\P (m) x.2.1.2.2.2.2.2.2.2.2.2.2.2.2.2.1 x.2.2.2.2.2.2.1/\P (m) x.2.1.2.2.2.2.2.2.2.2.2.2.2.2.2.1 x.2.2.2.2.2.2.2.1/\P (m) x.2.1.2.2.2.2.2.2.2.2.2.2.2.2.2.1 x.2.2.2.2.2.2.2.2.1/\P (m) x.2.1.2.2.2.2.2.2.2.2.2.2.2.2.2.1 x.2.2.2.2.2.2.2.2.2.1/\P (m) x.2.1.2.2.2.2.2.2.2.2.2.2.2.2.2.1 x.2.2.2.2.2.2.2.2.2.2.1/\P (m) x.2.1.2.2.2.2.2.2.2.2.2.2.2.2.2.1 x.2.2.2.2.2.2.2.2.2.2.2.1/\x.2.2.2.2.2.2.2.2.2.2.2.2.2.1.1<=(N:Int)/\x.2.2.2.2.2.2.2.2.2.2.2.2.2.1.2.2<=N):=
 bO (λd:mi.B=>z4 (40-d.1.2.2.2.2)) (λd hd=>by
  obtain⟨wa,wi,c0,c1,i0,tq,s0,s1,s2,s3,s4,s5,p0,p1⟩:=hd;unfold Wl;dsimp only;have fin:((d.2.1.2.2.2.2.1.2:Nat):Int)<=q+40:=by omega
  rw[aN];refine⟨λ_=> ?_,λ_=>by rw[aw];exact⟨wa,wi,fin,tq,s0,s1,s2,s3,s4,s5,p0,p1⟩⟩;rw[aN];refine⟨λh=> ?_,λ_=>by rw[aw];exact⟨wa,wi,fin,tq,s0,s1,s2,s3,s4,s5,p0,p1⟩⟩;have h:=dm h;rw[aN];refine⟨λ_=>by rw[aw];exact⟨wa,wi,fin,tq,s0,s1,s2,s3,s4,s5,p0,p1⟩,λ_=> ?_⟩;rw[aU6,bV];simp only[aQ,aE];have hw:wI (d.1.2.2.2.2+1)=d.1.2.2.2.2+1:=aW;with_reducible refine aA (aTk N h1 hN _ ?_ ?_ ?_ ?_ ?_ ?_ ?_ ?_ ?_ ?_ ?_) λe _ he=> ?_
  .show d.2.1.2.2.2.2.1.2<=1998;omega
  .exact C.len s0
  .exact C.len s1
  .exact C.len s2
  .exact C.len s3
  .exact C.len s4
  .exact C.len s5
  .exact p0
  .exact p1
  .exact tq.1
  .exact tq.2
  obtain⟨e4,eh,et,eq,t0,t1,t2,t3,t4,t5,u0,u1⟩:=he;have e4:e.2.1.2.2.2.2.1.2<=d.2.1.2.2.2.2.1.2+1:=e4;have key:((e.2.1.2.2.2.2.1.2:Nat):Int)<=q+(d.1.2.2.2.2+1):=by omega
  have k1:z4 (40-(d.1.2.2.2.2+1))<z4 (40-d.1.2.2.2.2):=by omega
  have u0:e.2.2.2.2.2.2.2.2.2.2.2.2.1.1<=(N:Int):=by rw[u0];exact p0
  rw[hw];rw[aN];refine⟨λ_=> ?_,λ_=> ?_⟩
  .rw[aw];exact⟨⟨wa,wi,by show 0<=d.1.2.2.2.2+1;omega,by show d.1.2.2.2.2+1<=40;omega,key,⟨eh,eq⟩,C.br s0 et t0,C.br s1 et t1,C.br s2 et t2,C.br s3 et t3,C.br s4 et t4,C.br s5 et t5,u0,u1⟩,k1⟩
  .rw[aw];exact⟨⟨wa,wi,by show 0<=d.1.2.2.2.2+1;omega,by show d.1.2.2.2.2+1<=40;omega,key,⟨eh,eq⟩,C.br s0 et t0,C.br s1 et t1,C.br s2 et t2,C.br s3 et t3,C.br s4 et t4,C.br s5 et t5,u0,u1⟩,k1⟩) (λd hd=>by omega)
theorem aO6 (N:Nat)(h1:1<=N)(hN:N<=1999){P:Int->Int->Bf->Prop}(C:Clo P)(m:Int)(q:Int)(hq:q+40<=1998)(d:mi.B)(hd:0<=d.1.b.2.2/\d.1.b.2.2<=40/\((d.2.1.c.1.2:Nat):Int)<=q+d.1.b.2.2/\Tq d.2.1.d.c.2.1 d.c.1.2.1.1 d.c.1.2.2 d.2.1.c.1.2 (λi=>d.c.2.1.2.1 (d.2.1.c.1.1+i))/\P (m) d.2.1.d.c.2.1 d.c.b.1/\P (m) d.2.1.d.c.2.1 d.c.b.2.1/\P (m) d.2.1.d.c.2.1 d.d.1/\P (m) d.2.1.d.c.2.1 d.d.2.1/\P (m) d.2.1.d.c.2.1 d.d.b.1/\P (m) d.2.1.d.c.2.1 d.d.b.2.1/\d.d.c.2.1.1<=(N:Int)/\d.d.c.2.1.2.2<=N):Ok (NZ d) (λx:zT=>match x with|.inl x=>x.1.1=d.1.1/\x.1.b.2.1=d.1.b.2.1/\((x.2.1.c.1.2:Nat):Int)<=q+40/\Tq x.2.1.d.c.2.1 x.c.1.2.1.1 x.c.1.2.2 x.2.1.c.1.2 (λi=>x.c.2.1.2.1 (x.2.1.c.1.1+i))/\P (m) x.2.1.d.c.2.1 x.c.b.1/\P (m) x.2.1.d.c.2.1 x.c.b.2.1/\P (m) x.2.1.d.c.2.1 x.d.1/\P (m) x.2.1.d.c.2.1 x.d.2.1/\P (m) x.2.1.d.c.2.1 x.d.b.1/\P (m) x.2.1.d.c.2.1 x.d.b.2.1/\x.d.c.2.1.1<=(N:Int)/\x.d.c.2.1.2.2<=N|.inr (.inl x)=>x.1.1=d.1.1/\x.1.b.2.1=d.1.b.2.1/\((x.2.1.c.1.2:Nat):Int)<=q+40/\Tq x.2.1.d.c.2.1 x.c.1.2.1.1 x.c.1.2.2 x.2.1.c.1.2 (λi=>x.c.2.1.2.1 (x.2.1.c.1.1+i))/\P (m) x.2.1.d.c.2.1 x.c.b.1/\P (m) x.2.1.d.c.2.1 x.c.b.2.1/\P (m) x.2.1.d.c.2.1 x.d.1/\P (m) x.2.1.d.c.2.1 x.d.2.1/\P (m) x.2.1.d.c.2.1 x.d.b.1/\P (m) x.2.1.d.c.2.1 x.d.b.2.1/\x.d.c.2.1.1<=(N:Int)/\x.d.c.2.1.2.2<=N|.inr (.inr x)=>x.1.1=d.1.1/\x.1.b.2.1=d.1.b.2.1/\((x.2.1.c.1.2:Nat):Int)<=q+40/\Tq x.2.1.d.c.2.1 x.c.1.2.1.1 x.c.1.2.2 x.2.1.c.1.2 (λi=>x.c.2.1.2.1 (x.2.1.c.1.1+i))/\P (m) x.2.1.d.c.2.1 x.c.b.1/\P (m) x.2.1.d.c.2.1 x.c.b.2.1/\P (m) x.2.1.d.c.2.1 x.d.1/\P (m) x.2.1.d.c.2.1 x.d.2.1/\P (m) x.2.1.d.c.2.1 x.d.b.1/\P (m) x.2.1.d.c.2.1 x.d.b.2.1/\x.d.c.2.1.1<=(N:Int)/\x.d.c.2.1.2.2<=N):=aSc N h1 hN C m q hq d d ⟨rfl,rfl,hd⟩
theorem aSd (N:Nat)(h1:1<=N)(hN:N<=1999){P:Int->Int->Bf->Prop}(C:Clo P)(q K:Nat)(hK:K<=30)(hq:q+40*K<=1998):∀(d:pI.B) (hd:0<=d.1.2.2.2/\d.1.2.2.2<=K/\((d.2.1.2.2.2.2.1.2:Nat):Int)<=q+40*d.1.2.2.2/\(d.1.1.1<=K∨30<=K)/\Tq d.2.1.2.2.2.2.2.2.2.2.2.2.2.2.2.1 d.2.2.2.1.2.1.1 d.2.2.2.1.2.2 d.2.1.2.2.2.2.1.2 (λi=>d.2.2.2.2.1.2.1 (d.2.1.2.2.2.2.1.1+i))/\P (d.1.2.2.2) d.2.1.2.2.2.2.2.2.2.2.2.2.2.2.2.1 d.2.2.2.2.2.1/\P (d.1.2.2.2) d.2.1.2.2.2.2.2.2.2.2.2.2.2.2.2.1 d.2.2.2.2.2.2.1/\P (d.1.2.2.2) d.2.1.2.2.2.2.2.2.2.2.2.2.2.2.2.1 d.2.2.2.2.2.2.2.1/\P (d.1.2.2.2) d.2.1.2.2.2.2.2.2.2.2.2.2.2.2.2.1 d.2.2.2.2.2.2.2.2.1/\P (d.1.2.2.2) d.2.1.2.2.2.2.2.2.2.2.2.2.2.2.2.1 d.2.2.2.2.2.2.2.2.2.1/\P (d.1.2.2.2) d.2.1.2.2.2.2.2.2.2.2.2.2.2.2.2.1 d.2.2.2.2.2.2.2.2.2.2.1/\d.2.2.2.2.2.2.2.2.2.2.2.2.1.1<=(N:Int)/\d.2.2.2.2.2.2.2.2.2.2.2.2.1.2.2<=N),Ok (Wn d) (λx:Dq=>match x with|.inl x=>((x.2.1.2.2.2.2.1.2:Nat):Int)<=q+40*K/\Tq x.2.1.2.2.2.2.2.2.2.2.2.2.2.2.2.1 x.2.2.2.1.2.1.1 x.2.2.2.1.2.2 x.2.1.2.2.2.2.1.2 (λi=>x.2.2.2.2.1.2.1 (x.2.1.2.2.2.2.1.1+i))/\(∃m:Int,0<=m/\m<=K/\P (m) x.2.1.2.2.2.2.2.2.2.2.2.2.2.2.2.1 x.2.2.2.2.2.1/\P (m) x.2.1.2.2.2.2.2.2.2.2.2.2.2.2.2.1 x.2.2.2.2.2.2.1/\P (m) x.2.1.2.2.2.2.2.2.2.2.2.2.2.2.2.1 x.2.2.2.2.2.2.2.1/\P (m) x.2.1.2.2.2.2.2.2.2.2.2.2.2.2.2.1 x.2.2.2.2.2.2.2.2.1/\P (m) x.2.1.2.2.2.2.2.2.2.2.2.2.2.2.2.1 x.2.2.2.2.2.2.2.2.2.1/\P (m) x.2.1.2.2.2.2.2.2.2.2.2.2.2.2.2.1 x.2.2.2.2.2.2.2.2.2.2.1)/\x.2.2.2.2.2.2.2.2.2.2.2.2.1.1<=(N:Int)/\x.2.2.2.2.2.2.2.2.2.2.2.2.1.2.2<=N|.inr (.inl x)=>((x.2.1.2.2.2.2.1.2:Nat):Int)<=q+40*K/\Tq x.2.1.2.2.2.2.2.2.2.2.2.2.2.2.2.1 x.2.2.2.1.2.1.1 x.2.2.2.1.2.2 x.2.1.2.2.2.2.1.2 (λi=>x.2.2.2.2.1.2.1 (x.2.1.2.2.2.2.1.1+i))/\(∃m:Int,0<=m/\m<=K/\P (m) x.2.1.2.2.2.2.2.2.2.2.2.2.2.2.2.1 x.2.2.2.2.2.1/\P (m) x.2.1.2.2.2.2.2.2.2.2.2.2.2.2.2.1 x.2.2.2.2.2.2.1/\P (m) x.2.1.2.2.2.2.2.2.2.2.2.2.2.2.2.1 x.2.2.2.2.2.2.2.1/\P (m) x.2.1.2.2.2.2.2.2.2.2.2.2.2.2.2.1 x.2.2.2.2.2.2.2.2.1/\P (m) x.2.1.2.2.2.2.2.2.2.2.2.2.2.2.2.1 x.2.2.2.2.2.2.2.2.2.1/\P (m) x.2.1.2.2.2.2.2.2.2.2.2.2.2.2.2.1 x.2.2.2.2.2.2.2.2.2.2.1)/\x.2.2.2.2.2.2.2.2.2.2.2.2.1.1<=(N:Int)/\x.2.2.2.2.2.2.2.2.2.2.2.2.1.2.2<=N|.inr (.inr x)=>((x.2.1.2.2.2.2.1.2:Nat):Int)<=q+40*K/\Tq x.2.1.2.2.2.2.2.2.2.2.2.2.2.2.2.1 x.2.2.2.1.2.1.1 x.2.2.2.1.2.2 x.2.1.2.2.2.2.1.2 (λi=>x.2.2.2.2.1.2.1 (x.2.1.2.2.2.2.1.1+i))/\(∃m:Int,0<=m/\m<=K/\P (m) x.2.1.2.2.2.2.2.2.2.2.2.2.2.2.2.1 x.2.2.2.2.2.1/\P (m) x.2.1.2.2.2.2.2.2.2.2.2.2.2.2.2.1 x.2.2.2.2.2.2.1/\P (m) x.2.1.2.2.2.2.2.2.2.2.2.2.2.2.2.1 x.2.2.2.2.2.2.2.1/\P (m) x.2.1.2.2.2.2.2.2.2.2.2.2.2.2.2.1 x.2.2.2.2.2.2.2.2.1/\P (m) x.2.1.2.2.2.2.2.2.2.2.2.2.2.2.2.1 x.2.2.2.2.2.2.2.2.2.1/\P (m) x.2.1.2.2.2.2.2.2.2.2.2.2.2.2.2.1 x.2.2.2.2.2.2.2.2.2.2.1)/\x.2.2.2.2.2.2.2.2.2.2.2.2.1.1<=(N:Int)/\x.2.2.2.2.2.2.2.2.2.2.2.2.1.2.2<=N):=
 bO (λd:pI.B=>z4 (30-d.1.2.2.2)) (λd hd=>by
  obtain⟨c0,c1,i0,n0,tq,s0,s1,s2,s3,s4,s5,p0,p1⟩:=hd;unfold Wm;dsimp only;have fin:((d.2.1.2.2.2.2.1.2:Nat):Int)<=q+40*K:=by omega
  rw[aN];refine⟨λh5=> ?_,λ_=>by rw[aw];exact⟨fin,tq,⟨_,c0,c1,s0,s1,s2,s3,s4,s5⟩,p0,p1⟩⟩;have h5:=dm h5;rw[dz] at h5;rw[aN];refine⟨λh4=> ?_,λ_=>by rw[aw];exact⟨fin,tq,⟨_,c0,c1,s0,s1,s2,s3,s4,s5⟩,p0,p1⟩⟩;have h4:=dm h4;rw[aN];refine⟨λ_=> ?_,λ_=>by rw[aw];exact⟨fin,tq,⟨_,c0,c1,s0,s1,s2,s3,s4,s5⟩,p0,p1⟩⟩;have r0:bf d.1.2.2.2 d.1.1.1=true:=by rw[bq];omega
  have hw:wI (d.1.2.2.2+1)=d.1.2.2.2+1:=aW;have k1:z4 (30-(d.1.2.2.2+1))<z4 (30-d.1.2.2.2):=by omega
  have cK:d.1.2.2.2+1<=K:=by omega
  have c2:0<=d.1.2.2.2+1:=by omega
  simp only[aQ,r0,aE];rw[aN];refine⟨λ_=> ?_,λ_=> ?_⟩
  .simp only[aE];with_reducible refine aA (aRS _ ?_ ?_ ?_ ?_ ?_ ?_) λe _ he=> ?_
   .exact dL (C.len s0) (by decide)
   .exact dL (C.len s1) (by decide)
   .exact dL (C.len s2) (by decide)
   .exact dL (C.len s3) (by decide)
   .exact dL (C.len s4) (by decide)
   .exact dL (C.len s5) (by decide)
   obtain⟨f1,f2,f3,f4,f11,f12,f13,f20,CH⟩:=he;have c3:d.1.2.2.2<=1000:=by omega
   have all:P (d.1.2.2.2+1) e.2.1.2.2.2.2.2.2.2.2.2.2.2.2.2.1 e.2.2.2.2.2.1/\P (d.1.2.2.2+1) e.2.1.2.2.2.2.2.2.2.2.2.2.2.2.2.1 e.2.2.2.2.2.2.1/\P (d.1.2.2.2+1) e.2.1.2.2.2.2.2.2.2.2.2.2.2.2.2.1 e.2.2.2.2.2.2.2.1/\P (d.1.2.2.2+1) e.2.1.2.2.2.2.2.2.2.2.2.2.2.2.2.1 e.2.2.2.2.2.2.2.2.1/\P (d.1.2.2.2+1) e.2.1.2.2.2.2.2.2.2.2.2.2.2.2.2.1 e.2.2.2.2.2.2.2.2.2.1/\P (d.1.2.2.2+1) e.2.1.2.2.2.2.2.2.2.2.2.2.2.2.2.1 e.2.2.2.2.2.2.2.2.2.2.1:=by
    rcases CH with⟨_,v0,v1,v2,v3,v4,v5⟩| ⟨_,v0,v1,v2,v3,v4,v5⟩| ⟨_,v0,v1,v2,v3,v4,v5⟩| ⟨_,v0,v1,v2,v3,v4,v5⟩| ⟨_,v0,v1,v2,v3,v4,v5⟩| ⟨_,v0,v1,v2,v3,v4,v5⟩| ⟨_,v0,v1,v2,v3,v4,v5⟩
    .exact⟨by rw[v0,f1];exact C.up s0,by rw[v1,f1];exact C.up s1,by rw[v2,f1];exact C.up s2,by rw[v3,f1];exact C.up s3,by rw[v4,f1];exact C.up s4,by rw[v5,f1];exact C.up s5⟩
    .exact⟨by rw[f1];exact C.pr c0 c3 s0 v0,by rw[v1,f1];exact C.up s1,by rw[v2,f1];exact C.up s2,by rw[v3,f1];exact C.up s3,by rw[v4,f1];exact C.up s4,by rw[v5,f1];exact C.up s5⟩
    .exact⟨by rw[v0,f1];exact C.up s0,by rw[f1];exact C.pr c0 c3 s1 v1,by rw[v2,f1];exact C.up s2,by rw[v3,f1];exact C.up s3,by rw[v4,f1];exact C.up s4,by rw[v5,f1];exact C.up s5⟩
    .exact⟨by rw[v0,f1];exact C.up s0,by rw[v1,f1];exact C.up s1,by rw[f1];exact C.pr c0 c3 s2 v2,by rw[v3,f1];exact C.up s3,by rw[v4,f1];exact C.up s4,by rw[v5,f1];exact C.up s5⟩
    .exact⟨by rw[v0,f1];exact C.up s0,by rw[v1,f1];exact C.up s1,by rw[v2,f1];exact C.up s2,by rw[f1];exact C.pr c0 c3 s3 v3,by rw[v4,f1];exact C.up s4,by rw[v5,f1];exact C.up s5⟩
    .exact⟨by rw[v0,f1];exact C.up s0,by rw[v1,f1];exact C.up s1,by rw[v2,f1];exact C.up s2,by rw[v3,f1];exact C.up s3,by rw[f1];exact C.pr c0 c3 s4 v4,by rw[v5,f1];exact C.up s5⟩
    .exact⟨by rw[v0,f1];exact C.up s0,by rw[v1,f1];exact C.up s1,by rw[v2,f1];exact C.up s2,by rw[v3,f1];exact C.up s3,by rw[v4,f1];exact C.up s4,by rw[f1];exact C.pr c0 c3 s5 v5⟩
   obtain⟨w0,w1,w2,w3,w4,w5⟩:=all;have f4':e.2.1.2.2.2.2.1=d.2.1.2.2.2.2.1.2:=by rw[f1]
   rw[hw,aw];refine⟨⟨c2,cK,?_,n0,?_,w0,w1,w2,w3,w4,w5,?_,?_⟩,k1⟩
   .show((e.2.1.2.2.2.2.1:Nat):Int)<=q+40*(d.1.2.2.2+1);omega
   .show Tq e.2.1.2.2.2.2.2.2.2.2.2.2.2.2.2.1 e.2.2.2.1.2.1.1 e.2.2.2.1.2.2 e.2.1.2.2.2.2.1 (λi=>e.2.2.2.2.1.1 (0+i));rw[f1,f3,f4];exact⟨tq.1,tq.2.up (fk _) (λi=>by first|(rw[dG];done)|(rw[dG];rfl))⟩
   .show e.2.2.2.2.2.2.2.2.2.2.2.2.1.1<=(N:Int);rw[f12];exact p0
   .show e.2.2.2.2.2.2.2.2.2.2.2.2.1.2.2<=N;rw[f12];exact p1
  rw[aN];refine⟨λ_=> ?_,λ_=> ?_⟩
  .simp only[aE];with_reducible refine aA (aTk N h1 hN _ ?_ ?_ ?_ ?_ ?_ ?_ ?_ ?_ ?_ ?_ ?_) λe _ he=> ?_
   .show d.2.1.2.2.2.2.1.2<=1998;omega
   .exact C.len s0
   .exact C.len s1
   .exact C.len s2
   .exact C.len s3
   .exact C.len s4
   .exact C.len s5
   .exact p0
   .exact p1
   .exact tq.1
   .exact tq.2
   obtain⟨e4,eh,et,eq,t0,t1,t2,t3,t4,t5,u0,u1⟩:=he;have e4:e.2.1.2.2.2.2.1.2<=d.2.1.2.2.2.2.1.2+1:=e4;have key:((e.2.1.2.2.2.2.1.2:Nat):Int)<=q+40*(d.1.2.2.2+1):=by omega
   have u0:e.2.2.2.2.2.2.2.2.2.2.2.2.1.1<=(N:Int):=by rw[u0];exact p0
   rw[hw];rw[aN];refine⟨λ_=> ?_,λ_=> ?_⟩
   .rw[aw];exact⟨⟨c2,cK,key,n0,⟨eh,eq⟩,C.up (C.br s0 et t0),C.up (C.br s1 et t1),C.up (C.br s2 et t2),C.up (C.br s3 et t3),C.up (C.br s4 et t4),C.up (C.br s5 et t5),u0,u1⟩,k1⟩
   .rw[aw];exact⟨⟨c2,cK,key,n0,⟨eh,eq⟩,C.up (C.br s0 et t0),C.up (C.br s1 et t1),C.up (C.br s2 et t2),C.up (C.br s3 et t3),C.up (C.br s4 et t4),C.up (C.br s5 et t5),u0,u1⟩,k1⟩
  .with_reducible refine aA (aO6 N h1 hN C d.1.2.2.2 (q+40*d.1.2.2.2) ?_ _ ⟨?_,?_,?_,tq,s0,s1,s2,s3,s4,s5,p0,p1⟩) λx _ hx=> ?_
   .omega
   .show(0:Int)<=0;omega
   .show(0:Int)<=40;omega
   .show((d.2.1.2.2.2.2.1.2:Nat):Int)<=q+40*d.1.2.2.2+0;omega
   have stp:∀a:Nat,((a:Nat):Int)<=q+40*d.1.2.2.2+40->((a:Nat):Int)<=q+40*(d.1.2.2.2+1):=λa ha=>by omega
   rw[qQ];refine⟨λa ha=> ?_,λa ha=> ?_⟩
   .rw[ha] at hx;obtain⟨wa,wi,e4,tq',t0,t1,t2,t3,t4,t5,u0,u1⟩:=hx;have wi:a.1.2.2.2.1=d.1.2.2.2:=wi;have wa:a.1.1=d.1.1:=wa;rw[aw];rw[wi,hw];exact⟨⟨c2,cK,stp _ e4,by rw[wa];exact n0,tq',C.up t0,C.up t1,C.up t2,C.up t3,C.up t4,C.up t5,u0,u1⟩,k1⟩
   rw[qQ];refine⟨λb hb=> ?_,λb hb=> ?_⟩
   .rw[ha,hb] at hx;obtain⟨wa,wi,e4,tq',t0,t1,t2,t3,t4,t5,u0,u1⟩:=hx;have wi:b.1.2.2.2.1=d.1.2.2.2:=wi;have wa:b.1.1=d.1.1:=wa;rw[aw];rw[wi,hw];exact⟨⟨c2,cK,stp _ e4,by rw[wa];exact n0,tq',C.up t0,C.up t1,C.up t2,C.up t3,C.up t4,C.up t5,u0,u1⟩,k1⟩
   .rw[ha,hb] at hx;obtain⟨wa,wi,e4,tq',t0,t1,t2,t3,t4,t5,u0,u1⟩:=hx;have wi:b.1.2.2.2.1=d.1.2.2.2:=wi;have wa:b.1.1=d.1.1:=wa;rw[aw];rw[wi,hw];exact⟨⟨c2,cK,stp _ e4,by rw[wa];exact n0,tq',C.up t0,C.up t1,C.up t2,C.up t3,C.up t4,C.up t5,u0,u1⟩,k1⟩) (λd hd=>by omega)
theorem aZc (N:Nat)(h1:1<=N)(hN:N<=1999){P:Int->Int->Bf->Prop}(C:Clo P)(K:Nat)(hK:K<=30)(x:Qu.B)(hq:x.2.1.c.1+40*K<=1998)(hn:x.1.1<=K∨30<=K)(tq:Tq x.2.1.d.c.2.1 x.b.2.1.2.1.1 x.b.2.1.2.2 x.2.1.c.1 x.c.1.1)(s0:P 0 x.2.1.d.c.2.1 x.c.2.1)(s1:P 0 x.2.1.d.c.2.1 x.c.b.1)(s2:P 0 x.2.1.d.c.2.1 x.c.b.2.1)(s3:P 0 x.2.1.d.c.2.1 x.d.1)(s4:P 0 x.2.1.d.c.2.1 x.d.2.1)(s5:P 0 x.2.1.d.c.2.1 x.d.b.1)(p0:x.d.c.1.1<=(N:Int))(p1:x.d.c.1.2.2<=N):
  Ok (K6 x) (λe:aiM=>((e.2.1.c.1.2:Nat):Int)<=x.2.1.c.1+40*K/\Tq e.2.1.d.c.2.1 e.b.2.1.2.1.1 e.b.2.1.2.2 e.2.1.c.1.2 (λi=>e.c.1.2.1 (e.2.1.c.1.1+i))/\(∃m:Int,0<=m/\m<=K/\P (m) e.2.1.d.c.2.1 e.c.2.1/\P (m) e.2.1.d.c.2.1 e.c.b.1/\P (m) e.2.1.d.c.2.1 e.c.b.2.1/\P (m) e.2.1.d.c.2.1 e.d.1/\P (m) e.2.1.d.c.2.1 e.d.2.1/\P (m) e.2.1.d.c.2.1 e.d.b.1)/\e.d.c.1.1<=(N:Int)/\e.d.c.1.2.2<=N):=by
 unfold K6 aiO;try dsimp only
 show PQ _ _;simp only[aQ,aE];rw[bH];intro d _;try rw[aE]
 with_reducible refine aA (aSd N h1 hN C x.2.1.c.1 K hK hq _ ⟨?_,?_,?_,hn,?_,s0,s1,s2,s3,s4,s5,p0,p1⟩) λy _ hy=> ?_
 .show(0:Int)<=0;omega
 .show(0:Int)<=K;omega
 .show((x.2.1.c.1:Nat):Int)<=x.2.1.c.1+40*0;omega
 .exact⟨tq.1,tq.2.up (fk _) (λi=>by first|rfl|(show x.c.1.1 (0+i)=_;rw[dG])|(show x.c.1.1 (0+(0+i))=_;rw[dG,dG]))⟩
 rw[qQ];refine⟨λa ha=> ?_,λa ha=> ?_⟩
 .rw[ha] at hy;rw[aw];exact hy
 rw[qQ];refine⟨λb hb=> ?_,λb hb=> ?_⟩
 .rw[ha,hb] at hy;rw[aw];exact hy
 .rw[ha,hb] at hy;rw[aw];exact hy
def Pw (B:Int)(_:Int)(T:Int)(b:Bf):Prop:=b.2.1=B/\((b.2.2.1:Nat):Int)<=B/\b.2.2.2<=T
theorem Pw.clo {B:Int}(hB:B<=64):Clo (Pw B) where
 len:=λh=>by have:=h.2.1;omega
 br:=λh t k=>⟨k.2.1.trans h.1,by have:=h.2.1;have:=k.len;omega,k.1 _ (fk _) (ab9 h.2.2 t)⟩
 pr:=λ_ _ h k=>by
  obtain⟨a,b,c⟩:=h;rcases k with k|k
  .obtain⟨k1,_,_,_,k5,k6⟩:=k;refine⟨k1.trans a,?_,by rw[k5];exact c⟩;rcases k6 with k6|k6|k6
   .rw[k6.2.2];exact b
   .rw[<-a];exact k6.2.2.2
   .rw[k6.2.2];exact b
  .have e:=k.1;exact⟨by rw[e];exact a,by rw[e];exact b,by rw[e];exact c⟩
 up:=λh=>h
end Go.Proofs.YtldgljclcgaibaaGreat
