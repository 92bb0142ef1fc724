/-
  Parts of the proof: QS TSm Q9 TRn
-/
import Derived.Test.YtldgljclcgaibaaGreatZAE
import Derived.Test.YtldgljclcgaibaaGreatZAJ
import Derived.Test.YtldgljclcgaibaaGreatZAK
import Derived.Test.YtldgljclcgaibaaGreatZAL
set_option linter.unusedVariables false
set_option linter.unusedSimpArgs false
set_option maxRecDepth 100000
set_option maxHeartbeats 4000000
noncomputable section
namespace Go.Proofs.YtldgljclcgaibaaGreat
open Go.Ab Go.Ab.Pg Go.Ab.Rq
def sC:=qa (pr (cu eZ (c ai BC)) (cd oH λb0=>(c kF (c lG (c (cl (gs b0.c.1 lF) nil) (cd pK λb4=>(cd m8 λb5=>(cd m9 λb6=>(cd na λb7=>(cd nc λb8=>(cd nd λb9=>(c lk (cd qU λsi=>(c (cl (gs b0.e jP) nil) (c (cl (gs b4.b.1 ay) nil) (c (cl (gs b5.b.1 ay) nil) (c (cl (gs b6.b.1 ay) nil) (c (cl (gs b7.b.1 ay) nil) (c (cl (gs b8.b.1 ay) nil) (c (cl (gs b9.b.1 ay) nil) (cl (cl (gs si.b gA) nil) nil)))))))))))))))))))))
def acH:=qe (res (pr ab (pr (cl (AF (a 26 xG (c gb (c jV (a 2 zd (cu (gp 20 5) (cu (gp 21 10) (c (gc (je (pu (nat 22) (pu (ox (pu eP (pu eP Oh))) (pl kZ (pu Oh ju)))))) aRg)))))))) aQU) aRo)))
abbrev AA:=(Bool×(PS×Bool×NI×(NI×NI)×Nat×LL×Bool×Int×qB×Bool×Bool×Bool×Int×Int×Int×LJ×Nat)×(qB×Int×Int)×Ty5×(NI×NI×NI×NI×NI×NI×NI×NI)×dh×dh×dh×dh×dh×dh×(PU×Int)×BY×aMA×aD5×aD5×aD5×aD5×aD5×aD5×NI×NI×NI×NI×NI×NI×NI×NI×NI×NI×NI)
def K9:AA->T:=λd=>lf acH (d.1,d.2.1,d.b.1,d.b.2.1,(d.2.1.c.1,d.c.1),d.c.2.1,d.c.b.1,d.c.b.2.1,d.d.1,d.d.2.1,d.d.b.1,d.d.b.2.1,d.d.c.1,(d.2.1.e,d.d.c.2.1),d.d.c.b.1,d.d.c.b.2.1,d.e.1,d.e.2.1,d.e.b.1,d.e.b.2.1,d.d.c.1.b,d.e.c)
abbrev afw:=sC.B->Option AA
def K' (g:afw):Ct:=(22,FC sC K9 g)
def La (yG:ace)(eQ:yp)(azD:Rj)(lE:BM)(oZ:HU)(x:sC.B):Pg AA:=let n30:=x.1.1;let n28:=x.1.2;let n29:=n28.2.2.2.2;let n23:=x.2.1;let n19:=x.2.2;let n24:=n19.2.1;let bL:=n19.2.2;let n20:=bL.2.1;let n17:=bL.2.2;let n33:=n17.1.2.2.1;let n21:=n17.2.1;let bu:=n17.2.2;let n34:=bu.1.2.2.1;let n22:=bu.2.1;let n18:=bu.2.2;let n35:=n18.1.2.2.1;let n25:=n18.2.1;let n15:=n18.2.2;let n31:=n15.2.2;let n27:=n15.2.1;let n26:=n31.2.2;let n32:=n26.2.2;let n16:=n32.2.2;let bq:=(lE (n20,n31.1));let bg:=(lE (n17.1,n31.2.1));let bc:=(lE (n21,n26.1));let n9:=(lE (bu.1,n26.2.1));let n8:=(lE (n22,n32.1));let n7:=(lE (n18.1,n32.2.1));let n6:=(n20.2.2.1,n31.1);let n5:=(n33,n31.2.1);let n4:=(n21.2.2.1,n26.1);let n3:=(n34,n26.2.1);let n2:=(n22.2.2.1,n32.1);let n1:=(n35,n32.2.1);let y0:=aW n30 6;let y1:=n30==1;let y2:=n30==4;let y3:=n30==3;let y4:=n30==2;let y5:=n30==5;let y6:=Nat.beq n20.2.2.1 n20.2.2.1;let y7:=Nat.beq n33 n33;let y8:=Nat.beq n21.2.2.1 n21.2.2.1;let y9:=Nat.beq n34 n34;let tV:=Nat.beq n22.2.2.1 n22.2.2.1;let tW:=Nat.beq n35 n35;opt (yG n30) λd=>ae (!d) (ret (false,n23,n19.1,n24,bL.1,n20,n17.1,n21,bu.1,n22,n18.1,n25,n15.1,n27,n6,n5,n4,n3,n2,n1,n16)) (opt (eQ n28.1 0 1125899906842624) λd=>ae (!d) (ae y0 (ae y5 (ae tW (opt n7 λd=>ret (false,n23,n19.1,n24,bL.1,n20,n17.1,n21,bu.1,n22,d,n25,n15.1,n27,n6,n5,n4,n3,n2,n1,n16)) no) (ae y2 (ae tV (opt n8 λd=>ret (false,n23,n19.1,n24,bL.1,n20,n17.1,n21,bu.1,d,n18.1,n25,n15.1,n27,n6,n5,n4,n3,n2,n1,n16)) no) (ae y3 (ae y9 (opt n9 λd=>ret (false,n23,n19.1,n24,bL.1,n20,n17.1,n21,d,n22,n18.1,n25,n15.1,n27,n6,n5,n4,n3,n2,n1,n16)) no) (ae y4 (ae y8 (opt bc λd=>ret (false,n23,n19.1,n24,bL.1,n20,n17.1,d,bu.1,n22,n18.1,n25,n15.1,n27,n6,n5,n4,n3,n2,n1,n16)) no) (ae y1 (ae y7 (opt bg λd=>ret (false,n23,n19.1,n24,bL.1,n20,d,n21,bu.1,n22,n18.1,n25,n15.1,n27,n6,n5,n4,n3,n2,n1,n16)) no) (ae y6 (opt bq λd=>ret (false,n23,n19.1,n24,bL.1,d,n17.1,n21,bu.1,n22,n18.1,n25,n15.1,n27,n6,n5,n4,n3,n2,n1,n16)) no)))))) no) (opt (azD n30 n28.1 n28.2.1 n28.2.2.1 n28.2.2.2.1 n29.1 n29.2.1 n29.2.2.1 n29.2.2.2.1 n29.2.2.2.2) λd=>ae (!d) (ae y0 (ae y5 (ae tW (opt n7 λd=>ret (false,n23,n19.1,n24,bL.1,n20,n17.1,n21,bu.1,n22,d,n25,n15.1,n27,n6,n5,n4,n3,n2,n1,n16)) no) (ae y2 (ae tV (opt n8 λd=>ret (false,n23,n19.1,n24,bL.1,n20,n17.1,n21,bu.1,d,n18.1,n25,n15.1,n27,n6,n5,n4,n3,n2,n1,n16)) no) (ae y3 (ae y9 (opt n9 λd=>ret (false,n23,n19.1,n24,bL.1,n20,n17.1,n21,d,n22,n18.1,n25,n15.1,n27,n6,n5,n4,n3,n2,n1,n16)) no) (ae y4 (ae y8 (opt bc λd=>ret (false,n23,n19.1,n24,bL.1,n20,n17.1,d,bu.1,n22,n18.1,n25,n15.1,n27,n6,n5,n4,n3,n2,n1,n16)) no) (ae y1 (ae y7 (opt bg λd=>ret (false,n23,n19.1,n24,bL.1,n20,d,n21,bu.1,n22,n18.1,n25,n15.1,n27,n6,n5,n4,n3,n2,n1,n16)) no) (ae y6 (opt bq λd=>ret (false,n23,n19.1,n24,bL.1,d,n17.1,n21,bu.1,n22,n18.1,n25,n15.1,n27,n6,n5,n4,n3,n2,n1,n16)) no)))))) no) (ae y0 (ae y5 (ae tW (opt (oZ (n28,n18.1,n32.2.1)) λd=>sm d (λd=>ret (false,n23,n19.1,n24,bL.1,n20,n17.1,n21,bu.1,n22,d,n25,n15.1,n27,n6,n5,n4,n3,n2,n1,n16)) (λd=>ret (d.1,n23,n19.1,n24,bL.1,n20,n17.1,n21,bu.1,n22,d.2.1,n25,n15.1,n27,n6,n5,n4,n3,n2,(d.2.1.2.2.1,d.2.2),n16))) no) (ae y2 (ae tV (opt (oZ (n28,n22,n32.1)) λd=>sm d (λd=>ret (false,n23,n19.1,n24,bL.1,n20,n17.1,n21,bu.1,d,n18.1,n25,n15.1,n27,n6,n5,n4,n3,n2,n1,n16)) (λd=>ret (d.1,n23,n19.1,n24,bL.1,n20,n17.1,n21,bu.1,d.2.1,n18.1,n25,n15.1,n27,n6,n5,n4,n3,(d.2.1.2.2.1,d.2.2),n1,n16))) no) (ae y3 (ae y9 (opt (oZ (n28,bu.1,n26.2.1)) λd=>sm d (λd=>ret (false,n23,n19.1,n24,bL.1,n20,n17.1,n21,d,n22,n18.1,n25,n15.1,n27,n6,n5,n4,n3,n2,n1,n16)) (λd=>ret (d.1,n23,n19.1,n24,bL.1,n20,n17.1,n21,d.2.1,n22,n18.1,n25,n15.1,n27,n6,n5,n4,(d.2.1.2.2.1,d.2.2),n2,n1,n16))) no) (ae y4 (ae y8 (opt (oZ (n28,n21,n26.1)) λd=>sm d (λd=>ret (false,n23,n19.1,n24,bL.1,n20,n17.1,d,bu.1,n22,n18.1,n25,n15.1,n27,n6,n5,n4,n3,n2,n1,n16)) (λd=>ret (d.1,n23,n19.1,n24,bL.1,n20,n17.1,d.2.1,bu.1,n22,n18.1,n25,n15.1,n27,n6,n5,(d.2.1.2.2.1,d.2.2),n3,n2,n1,n16))) no) (ae y1 (ae y7 (opt (oZ (n28,n17.1,n31.2.1)) λd=>sm d (λd=>ret (false,n23,n19.1,n24,bL.1,n20,d,n21,bu.1,n22,n18.1,n25,n15.1,n27,n6,n5,n4,n3,n2,n1,n16)) (λd=>ret (d.1,n23,n19.1,n24,bL.1,n20,d.2.1,n21,bu.1,n22,n18.1,n25,n15.1,n27,n6,(d.2.1.2.2.1,d.2.2),n4,n3,n2,n1,n16))) no) (ae y6 (opt (oZ (n28,n20,n31.1)) λd=>sm d (λd=>ret (false,n23,n19.1,n24,bL.1,d,n17.1,n21,bu.1,n22,n18.1,n25,n15.1,n27,n6,n5,n4,n3,n2,n1,n16)) (λd=>ret (d.1,n23,n19.1,n24,bL.1,d.2.1,n17.1,n21,bu.1,n22,n18.1,n25,n15.1,n27,(d.2.1.2.2.1,d.2.2),n5,n4,n3,n2,n1,n16))) no)))))) no)))
def Lb:=λx=>(La Et lV A' oD HV x).val
abbrev AB:=ace×yp×Rj×BM×HU
def Lc (p:AB):KK:=⟨[al5 p.1,VM p.2.1,aha p.b.1,LB p.b.2.1,V0 p.c],⟨[],[],(0::rg 4 6 []),[],(some ⟨0,(rg 0 6 (rg 7 28 [])),[(3,[]),(4,[]),(5,[]),(6,[]),(7,[]),(8,[]),(9,[]),(10,[]),(11,[]),(12,[]),(13,[]),(14,[]),(15,[]),(16,[]),(17,[]),(18,[]),(19,[]),(20,[]),(21,[]),(0,[])]⟩)⟩,0,22⟩
theorem afx (p:AB):D2 (Lc p) sC K9 λb=>La p.1 p.2.1 p.b.1 p.b.2.1 p.c b:=λb=>by kernel_rfl
abbrev Ld:AB:=(Et,lV,A',oD,HV)
theorem afy [ax]:SC (K' Lb):=sc (kS (k:=Lc Ld) (.c avE (.c akT (.c azt (.c ahE (.c aqr (.nil _)))))) [] [] trivial trivial (afx Ld))
end Go.Proofs.YtldgljclcgaibaaGreat
namespace Go.Proofs.YtldgljclcgaibaaGreat
open Go.Ab Go.Ab.Pg
end Go.Proofs.YtldgljclcgaibaaGreat
noncomputable section
namespace Go.Proofs.YtldgljclcgaibaaGreat
open Go.Ab Go.Ab.Pg Go.Ab.Rq
def GJ:=qa (pl (c (aa xG) fM) nil)
def YO:=qe (res (pu (ac auc) (pu nil nil)))
def atX:=qe (res (pu eZ (pu nil (c aLn (c kF (c lG (c aKV (c aLc (c aLd (c aLe (c aLf (c aLg (c aLh (c lk (c aK9 aLm)))))))))))))))
abbrev Oe:=YO.B⊕((PS×Bool×NI×(NI×NI)×(Nat×Nat)×LL×Bool×Int×qB×Bool×Bool×Bool×Int×Int×Int×LJ×Nat)×(qB×Int×Int)×Ty5×Ty7×dh×dh×dh×dh×dh×dh×(PU×Int)×BY×LK×dt×dt×dt×dt×dt×dt×Nat×NI×NI×NI×NI×NI×NI×NI×NI×NI×NI×NI)
def ape:Oe->T:=ls (lf YO) (λd=>lf atX (d.1,d.2.1,d.b.1,d.b.2.1,d.c.1,d.c.2.1,d.c.b.1,d.c.b.2.1,d.d.1,d.d.2.1,d.d.b.1,d.d.b.2.1,d.d.c.1,(d.c.1.b.1,d.d.c.2.1),(d.c.2.1.b.1,d.d.c.b.1),(d.c.b.1.b.1,d.d.c.b.2.1),(d.c.b.2.1.b.1,d.e.1),(d.d.1.b.1,d.e.2.1),(d.d.2.1.b.1,d.e.b.1),d.e.b.2))
abbrev aDU:=GJ.B->Option Oe
def aaW (g:aDU):Ct:=(47,FC GJ ape g)
def o7:=qs (st (pr (us 1 (c ai (us 3 (cu eZ (us 1 (cl ai (us 29 nil))))))) (pl (c (so aLn) (c rF (c rG (c uD (cd (so aLc) λb4=>(cd (so aLd) λb5=>(cd (so aLe) λb6=>(cd (so aLf) λb7=>(cd (so aLg) λb8=>(cd (so aLh) λb9=>(c pJ (c (so aK9) (c pL (c (so (cl (gs b4.b.1 ay) nil)) (c (so (cl (gs b5.b.1 ay) nil)) (c (so (cl (gs b6.b.1 ay) nil)) (c (so (cl (gs b7.b.1 ay) nil)) (c (so (cl (gs b8.b.1 ay) nil)) (c (so (cl (gs b9.b.1 ay) nil)) Hq))))))))))))))))))) nil)))
def WJ:=qs (st (pu (us 4 (cu (ac auc) (us 32 nil))) (pu nil nil)))
def aqV:=qs (st (pr (us 1 (c ai (us 3 (cu eZ (us 1 (c ai (us 13 (c ai aPM)))))))) (pl (c (so aLn) (c rF (c rG (c uD (c (so aLc) (c (so aLd) (c (so aLe) (c (so aLf) (c (so aLg) (c (so aLh) (c pJ (c (so aK9) ac5)))))))))))) nil)))
abbrev Bi:=WJ.B⊕((Int×Int×Bool)×(PS×Bool×NI×(NI×NI)×(Nat×Nat)×LL×Bool×Int×qB×Bool×Bool×Bool×Int×Int×Int×LJ×Nat)×(qB×Int×Int)×Ty5×Ty7×dh×dh×dh×dh×dh×dh×(PU×Int)×BY×LK×dt×dt×dt×dt×dt×dt×Nat×NI×NI×NI×NI×NI×NI×NI×NI×NI×NI×NI)
def ahv {ρ:Type}(x:Bi)(K:AX->St->Option ρ):Option ρ:=(Sum.elim (λd=>K .ret (WJ.em d)) (λd=>K (.ex 0) (aqV.em ((d.1.1,d.1.2.1,d.1.2.1,d.1.1,d.1.b),d.2.1,d.b.1,d.b.2.1,d.c.1,d.c.2.1,d.c.b.1,d.c.b.2.1,d.d.1,d.d.2.1,d.d.b.1,d.d.b.2.1,d.d.c.1,d.d.c.2.1,(d.c.2.1.b.1,d.d.c.b.1),(d.c.b.1.b.1,d.d.c.b.2.1),(d.c.b.2.1.b.1,d.e.1),(d.d.1.b.1,d.e.2.1),(d.d.2.1.b.1,d.e.b.1),(d.d.b.1.b.1,d.e.b.2.1),d.e.c)))) x
def Ry (afC:Lf)(wy:wq)(d:o7.B):PL o7 Bi:=let bc:=d.2.1.2;let n4:=bc.2.2.2;let n9:=n4.2.2.2.2.2.2.2.2.2.2.2.2;let n3:=d.2.2.2.2.2;let n8:=n3.2.2;let n1:=n8.2.2;let n5:=n1.2.2.2;let n7:=n5.2.2.2.2;let n2:=n7.2.2.2.2.2;let n6:=n2.2.2.2.2.2;let y0:=decide (d.1.2<=d.1.1);ae y0 (opt (afC (wI (8000*d.1.2)) 8000) λaj=>ae (Nat.beq n4.1.2 n4.1.2) (ae (Nat.beq n9 n9) (ae (Nat.beq n3.1.2.2.1 n3.1.2.2.1) (ae (Nat.beq n3.2.1.2.2.1 n3.2.1.2.2.1) (ae (Nat.beq n8.1.2.2.1 n8.1.2.2.1) (ae (Nat.beq n8.2.1.2.2.1 n8.2.1.2.2.1) (ae (Nat.beq n1.1.2.2.1 n1.1.2.2.1) (ae (Nat.beq n1.2.1.2.2.1 n1.2.1.2.2.1) (ae (Nat.beq n5.1.2.2 n5.1.2.2) (opt (wy ((aj.1,aj.2.1,(0,0,0),0,0,aj.2.2),(d.2.1.1,bc.1,bc.2.1,bc.2.2.1,n4.1.2,n4.2),d.2.2.1,d.2.2.2.1,(sh8 n4.1.1 d.2.2.2.2.1.2),n3.1,n3.2.1,n8.1,n8.2.1,n1.1,n1.2.1,n1.2.2.1,n5.1,(afF 0 n5.2.1.2),(lB 0 n5.2.2.1),(lB 0 n5.2.2.2.1),(lB 0 n7.1),(lB 0 n7.2.1),(lB 0 n7.2.2.1),(lB 0 n7.2.2.2.1),λj=>n2.1 (0+j),λj=>n2.2.1 (0+j),λj=>n2.2.2.1 (0+j),λj=>n2.2.2.2.1 (0+j),λj=>n2.2.2.2.2.1 (0+j),λj=>n6.1 (0+j),λj=>n6.2.1 (0+j),λj=>n6.2.2.1 (0+j),λj=>n6.2.2.2.1 (0+j),λj=>n6.2.2.2.2.1 (0+j),λj=>n6.2.2.2.2.2 (0+j))) λaI=>ae (aI.1.2!=0) (ret (Sum.inr (Sum.inl ()))) (ret (Sum.inl ((d.1.1,wI (d.1.2+1)),aI.2)))) no) no) no) no) no) no) no) no) no) (ret (Sum.inr (Sum.inr ((d.1.1,d.1.2,y0),d.2))))
def ahw:=bA (Ry AD cS) 2000
def aaX (WK:Wr)(dI:LT o7 Bi)(x:GJ.B):Pg Oe:=opt (WK x.1) λd=>sm d (λd=>ret (Sum.inl ())) (λd=>let bL:=d.1.2.2;let n6:=bL.2.2.2.2;let n15:=n6.2.2.2;let n4:=d.2.2.2;let n8:=n4.2.2.2.2.2;let n2:=n15.2.2.2.2;let n16:=n2.2.2.2;let n5:=n16.2.2.2.2;let bu:=n5.2.2.2.2;let n1:=n8.2.2.2.2;let bc:=n1.2.1;let n7:=n1.2.2;let bg:=n7.2.1;let n3:=n7.2.2;let bq:=n3.2.1;let n9:=n3.2.2;ae true (ae true (ae true (ae true (ae true (ae true (opt (dI ((x.2,1),((d.1.1,d.1.2.1,bL.1,bL.2.1,(bL.2.2.1,bL.2.2.2.1,n6.1,n6.2.1,n6.2.2.1,n15.1),(n15.2.1,n15.2.2.1,n15.2.2.2.1,n2.1,n2.2.1,n2.2.2.1),n16.1,n16.2.1,n16.2.2.1,n16.2.2.2.1,n5.1,n5.2.1,n5.2.2.1,n5.2.2.2.1,bu.1,bu.2.1),bu.2.2.1,bu.2.2.2.1,bu.2.2.2.2,(0,0),(0,0,false,false),false,0,(0,0,0),false,false,false,0,0,0,((1073741824,0,0,0),(0,0,0),0,0,0),0),((d.2.1.1,d.2.1.2.1,d.2.1.2.2.1),d.2.1.2.2.2),(d.2.2.1,(0,0,(0,0,0),0,0,0),false),(0,n4.1,n4.1,n4.1,n4.1,n4.1,n4.1,n4.1,n4.1),((0,0,0,0,0),n4.2.1,0, -9223372036854775808),((0,0,0,0,0),n4.2.2.1,0, -9223372036854775808),((0,0,0,0,0),n4.2.2.2.1,0, -9223372036854775808),((0,0,0,0,0),n4.2.2.2.2.1,0, -9223372036854775808),((0,0,0,0,0),n8.1,0, -9223372036854775808),((0,0,0,0,0),n8.2.1,0, -9223372036854775808),(n8.2.2.1,0),(n8.2.2.2.1.1,n8.2.2.2.1.2,0),(0,n4.1,n4.1,n4.1,n4.1,n4.1,n4.1,n4.1,n4.1,n4.1,n4.1),(n1.1,n1.1,n1.1,n1.1,n1.1,n1.1,n1.1,n1.1,n1.1),(bc,bc,bc,bc,bc,bc,bc,bc,bc),(n7.1,n7.1,n7.1,n7.1,n7.1,n7.1,n7.1,n7.1,n7.1),(bg,bg,bg,bg,bg,bg,bg,bg,bg),(n3.1,n3.1,n3.1,n3.1,n3.1,n3.1,n3.1,n3.1,n3.1),(bq,bq,bq,bq,bq,bq,bq,bq,bq),0,n9,n9,n9,n9,n9,n9,n9,n9,n9,n9,n9)) λx=>sum x (λd=>ret (Sum.inl ())) λd=>ret (Sum.inr d.2)) no) no) no) no) no) no)
def apf:=λx=>(aaX xj ahw x).val
abbrev Of:=Wr×Lf×wq×(LT o7 Bi)
def aaY (p:Of):KK:=⟨[aqH p.1,afB p.2.1,K8 p.b.1],⟨[⟨5,(0::2::3::4::6::rg 8 29 []),[(0,[])]⟩],[fH 5 0 o7 ahv p.b.2],[],[],(some ⟨0,(rg 0 4 (rg 5 32 [])),[]⟩)⟩,0,47⟩
theorem avW (p:Of):LI (aaY p) 5 o7 ahv (Ry p.2.1 p.b.1):=λ_ d c K=>by kernel_rfl
theorem aDV (p:Of):D2 (aaY p) GJ ape λb=>aaX p.1 p.b.2 b:=λb=>by kernel_rfl
abbrev aaZ:Of:=(xj,AD,cS,ahw)
theorem aDW [ax]:SC (aaW apf):=sc (kS (k:=aaY aaZ) (.c aCw (.c atT (.c YI (.nil _)))) [5] [] ⟨kL (avW aaZ),trivial⟩ trivial (aDV aaZ))
end Go.Proofs.YtldgljclcgaibaaGreat
namespace Go.Proofs.YtldgljclcgaibaaGreat
open Go.Ab Go.Ab.Pg
structure Clo (P:Int->Int->Bf->Prop):Prop where
 len:∀{m t b},P m t b->b.2.2.1<=64
 br:∀{m t u b c},P m t b->t<=u->BR u b c->P m u c
 pr:∀{m t b c},0<=m->m<=1000->P m t b->(PR b c∨SR b c)->P (m+1) t c
 up:∀{m t b},P m t b->P (m+1) t b
theorem aOS (t:Int):AD t 8000=some (t,8000, -84238486):=by kernel_rfl
end Go.Proofs.YtldgljclcgaibaaGreat
