/-
  Parts of the proof: Q6 TSp TDn Q7 TIm Q8
-/
import Derived.Test.YtldgljclcgaibaaGreatZAE
import Derived.Test.YtldgljclcgaibaaGreatZAK
set_option linter.unusedVariables false
set_option linter.unusedSimpArgs false
set_option maxRecDepth 100000
set_option maxHeartbeats 4000000
noncomputable section
namespace Go.Proofs.YtldgljclcgaibaaGreat
open Go.Ab Go.Ab.Pg Go.Ab.Rq
def oX:=qa (pr (cu eZ YS) (cd oH λb0=>(c kF (c lG (c (cl (gs b0.c.1 lF) nil) (cd pK λb4=>(cd m8 λb5=>(cd m9 λb6=>(cd na λb7=>(cd nc λb8=>(cd nd λb9=>(c lk (cd qU λsi=>(c (cl (gs b0.e jP) nil) (c (cl (gs b4.b.1 ay) nil) (c (cl (gs b5.b.1 ay) nil) (c (cl (gs b6.b.1 ay) nil) (c (cl (gs b7.b.1 ay) nil) (c (cl (gs b8.b.1 ay) nil) (c (cl (gs b9.b.1 ay) nil) (cl (cl (gs si.b gA) nil) nil)))))))))))))))))))))
def amL:=qe (res (pu Tc (pr (c (AF (a 26 xG (c gb (c jV (a 2 zd (cu afH (cu afI (c aFI (au 6 ac2 (cu amU (a 4 EW (cu amV (c gb (c gi (a 3 ld (c gb (c gb (c gb (c gi (c gi (c gi (a 10 EY (cl (gc (je (pu (nat 20) (pu (ox (pu eP (pu eP (nat 10)))) (pl kZ (pu (nat 10) ju)))))) nil))))))))))))))))))))))) (cu eT (cu eT (cu eT (c (AF (a 5 iy (c gi (c (gc aK1) kD)))) (c (AF apr) (c (AF aQV) (c (AF aQW) (c (AF aQX) (c (AF aQY) (c az7 (cl (AF (c gi (c gi (cl (gc (je (pu (nat 27) (pu (ox (pu eP (pu eP WN))) (pl kZ (pu WN ju)))))) nil)))) (cu eT aQg))))))))))))) aLm)))
abbrev um:=(((PS×Bool×NI×(NI×NI)×Nat×LL×Bool×Int×qB×Bool×Bool×Bool×Int×Int×Int×LJ×Nat)×dh×dh×dh×dh×dh×dh×(PU×Int)×Int×Int×Nat)×LK×dt×dt×dt×dt×dt×dt×Nat×NI×NI×NI×NI×NI×NI×NI×NI×NI×NI×NI)
def Ws:um->T:=λd=>lf amL (d.1,d.2.1,(d.1.2.1.b.1,d.b.1),(d.1.b.1.b.1,d.b.2.1),(d.1.b.2.1.b.1,d.c.1),(d.1.c.1.b.1,d.c.2.1),(d.1.c.2.1.b.1,d.c.b.1),(d.1.c.b.1.b.1,d.c.b.2.1),d.d)
abbrev Ih:=oX.B->Option um
def Wt (g:Ih):Ct:=(64,FC oX Ws g)
def eJ:=qs (st (dp (cu eZ (us 2 (cu Xg (cu LN (c ai (us 53 (c ai (us 10 (c (ac aK1) (c ai (cl ai (us 126 nil)))))))))))) λv=>(pl (c aAe (c rF (c rG (c uD (cd Hr λb4=>(cd Ht λb5=>(cd Hu λb6=>(cd CB λb7=>(cd CC λb8=>(cd Ti λb9=>(c pJ (c ac4 (c pL (cu nO (cu nO (cu nO (cu nO (cu nO (cu nO (cu nO (c CA (c (so (cl (gs v.b.1 ay) nil)) (c pL (c (so (cl (gs b4.b.1 ay) nil)) (c (so (cl (gs b5.b.1 ay) nil)) (c (so (cl (gs b6.b.1 ay) nil)) (c (so (cl (gs b7.b.1 ay) nil)) (c (so (cl (gs b8.b.1 ay) nil)) (c (so (cl (gs b9.b.1 ay) nil)) Hq))))))))))))))))))))))))))))) Tj)))
def alA:=qs (st (pr (cu eZ (us 2 (cu Xg (cu LN (c ai (us 53 (c ai (us 10 (c (ac aK1) (c ai (c ai (cl ab (us 125 nil))))))))))))) (pl (c aAe (c rF (c rG (c uD (c Hr (c Ht (c Hu (c CB (c CC (c Ti (c pJ (c ac4 (c pL (cu nO (cu nO (cu nO (cu nO (cu nO (cu nO (cu nO (c CA (c uF ac5)))))))))))))))))))))) Tj)))
abbrev kt:=((Int×Int×Nat×Int×Int×Bool)×(PS×Bool×NI×(NI×NI)×Nat×LL×Bool×Int×qB×Bool×Bool×Bool×Int×Int×Int×LJ×Nat)×(qB×Int×Int)×Ty5×Ty7×dh×dh×dh×dh×dh×dh×(PU×Int)×BY×LK×azU×dt×LK×dt×dt×dt×dt×dt×dt×Nat×NI×NI×NI×NI×NI×NI×NI×NI×NI×NI×NI)
def Pz {ρ:Type}(x:kt)(K:AX->St->Option ρ):Option ρ:=(λd=>K (.ex 2) (alA.em (d.1,d.2.1,d.b.1,d.b.2.1,d.c.1,d.c.2.1,d.c.b.1,d.c.b.2.1,d.d.1,d.d.2.1,d.d.b.1,d.d.b.2.1,d.d.c.1,d.d.c.2.1,d.d.c.b.1,(d.1.b.1,d.d.c.b.2.1),d.e.1,(d.c.2.1.b.1,d.e.2.1),(d.c.b.1.b.1,d.e.b.1),(d.c.b.2.1.b.1,d.e.b.2.1),(d.d.1.b.1,d.e.c.1),(d.d.2.1.b.1,d.e.c.2.1),(d.d.b.1.b.1,d.e.c.b.1),d.e.c.b.2))) x
def DK (atN:K5)(d:eJ.B):PL eJ kt:=let bg:=d.2.1.2.2.2.2;let n15:=bg.2.2.2.2.2.2.2.2.2.2.2.2;let n8:=d.1.2.2;let n18:=n8.2.2;let n6:=d.2.2.2;let bu:=n6.2.2.1;let n3:=n6.2.2.2;let n16:=n3.2.1;let bL:=n3.2.2.1;let n7:=n3.2.2.2;let n17:=n7.2.1;let n2:=n7.2.2.2;let n5:=n2.2.2.2;let bq:=n5.2.2.2.2;let bc:=n5.1.2.2.2;let n4:=bq.2.2.2.2.2;let n9:=n4.2.2.2.2.2;let n1:=(d.1.1,d.1.2.1,n8.1,n8.2.1,wI (n18+1));let y0:=0+Int.toNat n18;let y1:=decide (n18<n8.2.1);ae y1 (ae (aW n18 n8.1) (ae (Nat.beq bg.1 bg.1) (ae (Nat.beq n15 n15) (ae (Nat.beq bu.2.2.1 bu.2.2.1) (ae (Nat.beq n3.1.2.2.1 n3.1.2.2.1) (ae (Nat.beq n16.2.2.1 n16.2.2.1) (ae (Nat.beq bL.2.2.1 bL.2.2.1) (ae (Nat.beq n7.1.2.2.1 n7.1.2.2.1) (ae (Nat.beq n17.2.2.1 n17.2.2.1) (ae (Nat.beq n2.1.2.2 n2.1.2.2) (opt (atN ((d.1.1,n5.1.1 y0,n5.1.2.1 y0,n5.1.2.2.1 y0,bc.1 y0,bc.2.1 y0,bc.2.2.1 y0,bc.2.2.2.1 y0,bc.2.2.2.2.1 y0,bc.2.2.2.2.2 y0),d.2.1,d.2.2.1,n6.1,(sh8 0 n6.2.1.2),bu,n3.1,n16,bL,n7.1,n17,n7.2.2.1,n2.1,(afF 0 n5.2.1.2),(lB 0 n5.2.2.1),(lB 0 n5.2.2.2.1),(lB 0 bq.1),(lB 0 bq.2.1),(lB 0 bq.2.2.1),(lB 0 bq.2.2.2.1),λj=>n4.1 (0+j),λj=>n4.2.1 (0+j),λj=>n4.2.2.1 (0+j),λj=>n4.2.2.2.1 (0+j),λj=>n4.2.2.2.2.1 (0+j),λj=>n9.1 (0+j),λj=>n9.2.1 (0+j),λj=>n9.2.2.1 (0+j),λj=>n9.2.2.2.1 (0+j),λj=>n9.2.2.2.2.1 (0+j),λj=>n9.2.2.2.2.2 (0+j))) λaj=>sm aj (λaI=>ret (Sum.inl (n1,aI.1,d.2.2.1,n6.1,n6.2.1,bu,n3.1,n16,bL,n7.1,n17,aI.2,n2))) (λaI=>ret (Sum.inl (n1,aI.1.1,d.2.2.1,n6.1,n6.2.1,bu,n3.1,n16,bL,n7.1,n17,aI.1.2,n2.1,n2.2.1,n2.2.2.1,n5.1,(aI.1.1.2.2.2.2.2.2.2.2.2.2.2.2.2.2.2.2,aI.2),n5.2.2)))) no) no) no) no) no) no) no) no) no) no) (ret (Sum.inr ((d.1.1,d.1.2.1,n8.1,n8.2.1,n18,y1),d.2)))
def wi:=bA (DK wg) 2000
def fx:=qs (st (pr (cu eZ (us 2 (cu Xg (cu LN (us 3 (cu aPi (us 92 (cl ai (us 97 nil))))))))) (pl (c aAe (c rF (c rG (c uD (cd Hr λb4=>(cd Ht λb5=>(cd Hu λb6=>(cd CB λb7=>(cd CC λb8=>(cd Ti λb9=>(c pJ (c ac4 (c pL (cu nO (cu nO (cu nO (cu nO (cu nO (cu nO (cu nO (c CA (c aQK (c pL (c (so (cl (gs b4.b.1 ay) nil)) (c (so (cl (gs b5.b.1 ay) nil)) (c (so (cl (gs b6.b.1 ay) nil)) (c (so (cl (gs b7.b.1 ay) nil)) (c (so (cl (gs b8.b.1 ay) nil)) (c (so (cl (gs b9.b.1 ay) nil)) Hq))))))))))))))))))))))))))))) Tj)))
def alB:=qs (st (pr (cu eZ (us 2 (cu Xg (cu LN (us 3 (cu aPi (us 92 (c ai (cl ab (us 96 nil)))))))))) (pl (c aAe (c rF (c rG (c uD (c Hr (c Ht (c Hu (c CB (c CC (c Ti (c pJ (c ac4 (c pL (cu nO (cu nO (cu nO (cu nO (cu nO (cu nO (cu nO (c CA (c aQK ac5)))))))))))))))))))))) Tj)))
abbrev mQ:=((Int×Bool)×(PS×Bool×NI×(NI×NI)×Nat×LL×Bool×Int×qB×Bool×Bool×Bool×Int×Int×Int×LJ×Nat)×(qB×Int×Int)×Ty5×Ty7×dh×dh×dh×dh×dh×dh×(PU×Int)×BY×LK×azU×(Bool×Bool×Bool×Bool×Bool×Bool×Bool×Bool×Int×Int)×LK×dt×dt×dt×dt×dt×dt×Nat×NI×NI×NI×NI×NI×NI×NI×NI×NI×NI×NI)
def PA {ρ:Type}(x:mQ)(K:AX->St->Option ρ):Option ρ:=(λd=>K (.ex 4) (alB.em (d.1,d.2.1,d.b.1,d.b.2.1,d.c.1,d.c.2.1,d.c.b.1,d.c.b.2.1,d.d.1,d.d.2.1,d.d.b.1,d.d.b.2.1,d.d.c.1,d.d.c.2.1,d.d.c.b.1,d.d.c.b.2.1,d.e.1,(d.c.2.1.b.1,d.e.2.1),(d.c.b.1.b.1,d.e.b.1),(d.c.b.2.1.b.1,d.e.b.2.1),(d.d.1.b.1,d.e.c.1),(d.d.2.1.b.1,d.e.c.2.1),(d.d.b.1.b.1,d.e.c.b.1),d.e.c.b.2))) x
def DL (aaK:wO)(d:fx.B):PL fx mQ:=let n15:=d.2.1;let n7:=d.2.2;let n16:=n7.2.1;let n8:=n7.2.2.1;let n2:=n7.2.2.2;let n17:=n2.2.1;let n9:=n2.2.2.1;let n4:=n2.2.2.2;let n18:=n4.2.1;let bc:=n4.2.2.1;let n1:=n4.2.2.2;let n19:=n1.2.1;let bq:=n1.1.1.2;let bg:=n1.2.2.1;let n6:=n1.2.2.2;let n20:=n6.2.2;let n3:=n6.2.1;let n21:=n3.2.1;let bu:=n3.2.2.1;let n5:=n3.2.2.2;let bL:=n5.2.2;let y0:=wI (d.1+1);let y1:=decide (d.1<6);ae y1 (opt (aaK d.1 n6.1.1 n1.1.1.1 bq.1 bq.2.1 bq.2.2.1 bq.2.2.2.1 bq.2.2.2.2 n1.1.2) λaj=>ae (aW d.1 6) (ae (d.1==5) (ret (Sum.inl (y0,n15,n7.1,n16,n8,n2.1,n17,n9,n4.1,n18,bc,n1.1,n19,bg,n6.1,(n3.1,n21,bu,n5.1,n5.2.1,bL.1,bL.2.1,aj,bL.2.2.2),n20))) (ae (d.1==4) (ret (Sum.inl (y0,n15,n7.1,n16,n8,n2.1,n17,n9,n4.1,n18,bc,n1.1,n19,bg,n6.1,(n3.1,n21,bu,n5.1,n5.2.1,bL.1,aj,bL.2.2),n20))) (ae (d.1==3) (ret (Sum.inl (y0,n15,n7.1,n16,n8,n2.1,n17,n9,n4.1,n18,bc,n1.1,n19,bg,n6.1,(n3.1,n21,bu,n5.1,n5.2.1,aj,bL.2),n20))) (ae (d.1==2) (ret (Sum.inl (y0,n15,n7.1,n16,n8,n2.1,n17,n9,n4.1,n18,bc,n1.1,n19,bg,n6.1,(n3.1,n21,bu,n5.1,aj,bL),n20))) (ae (d.1==1) (ret (Sum.inl (y0,n15,n7.1,n16,n8,n2.1,n17,n9,n4.1,n18,bc,n1.1,n19,bg,n6.1,(n3.1,n21,bu,aj,n5.2),n20))) (ret (Sum.inl (y0,n15,n7.1,n16,n8,n2.1,n17,n9,n4.1,n18,bc,n1.1,n19,bg,n6.1,(n3.1,n21,aj,n5),n20)))))))) no) (ret (Sum.inr ((d.1,y1),d.2)))
def DM:=bA (DL lQ) 2000
def jr:=qs (st (pu aQG (pl (c aul (c rF (c rG (c uD (cd (so apr) λb4=>(cd Hr λb5=>(cd Ht λb6=>(cd Hu λb7=>(cd CB λb8=>(cd CC λb9=>(c pJ (c auk (c pL (cu nO (cu nO (cu nO (cu nO (cu nO (cu nO (cu nO (c CA (c pL (c (so (cl (gs b4.b.1 ay) nil)) (c (so (cl (gs b5.b.1 ay) nil)) (c (so (cl (gs b6.b.1 ay) nil)) (c (so (cl (gs b7.b.1 ay) nil)) (c (so (cl (gs b8.b.1 ay) nil)) (c (so (cl (gs b9.b.1 ay) nil)) Hq)))))))))))))))))))))))))))) Tj)))
def acB:=qs aLr
def acC:=qs aLq
abbrev mR:=((Bool×NI×Int×Int)×(PS×Bool×(NI×NI)×Nat×LL×Int×qB×Bool×Bool×Bool×Int×Int×Int×LJ×Nat)×(qB×Int×Int)×Ty5×Ty7×dh×dh×dh×dh×dh×dh×(PU×Int)×BY×LK×aMB×LK×dt×dt×dt×dt×dt×dt×Nat×NI×NI×NI×NI×NI×NI×NI×NI×NI×NI×NI)⊕(Bool×(PS×Bool×NI×(NI×NI)×Nat×LL×Int×qB×Bool×Bool×Bool×Int×Int×Int×LJ×Nat)×(qB×Int×Int)×Ty5×Ty7×dh×dh×dh×dh×dh×dh×(PU×Int)×BY×LK×azU×LK×dt×dt×dt×dt×dt×dt×Nat×NI×NI×NI×NI×NI×NI×NI×NI×NI×NI×NI)
def PC {ρ:Type}(x:mR)(K:AX->St->Option ρ):Option ρ:=(Sum.elim (λd=>K .nrm (acB.em (d.1,(d.2.1.1,d.2.1.2.1,d.1.2.1,d.2.1.b.1,d.2.1.b.2.1,d.2.1.c.1,d.1.1,d.2.1.c.2),d.b.1,d.b.2.1,d.c.1,d.c.2.1,d.c.b.1,d.c.b.2.1,d.d.1,d.d.2.1,d.d.b.1,d.d.b.2.1,d.d.c.1,d.d.c.2.1,(d.1.b.1,d.d.c.b.1),d.d.c.b.2.1,(d.c.2.1.b.1,d.e.1),(d.c.b.1.b.1,d.e.2.1),(d.c.b.2.1.b.1,d.e.b.1),(d.d.1.b.1,d.e.b.2.1),(d.d.2.1.b.1,d.e.c.1),(d.d.b.1.b.1,d.e.c.2.1),d.e.c.b))) (λd=>K .nrm (acC.em (d.1,(d.2.1.1,d.2.1.2.1,d.2.1.b.1,d.2.1.b.2.1,d.2.1.c.1,d.2.1.c.2.1,d.1,d.2.1.c.b),d.b.1,d.b.2.1,d.c.1,d.c.2.1,d.c.b.1,d.c.b.2.1,d.d.1,d.d.2.1,d.d.b.1,d.d.b.2.1,d.d.c.1,d.d.c.2.1,d.d.c.b.1,d.d.c.b.2.1,(d.c.2.1.b.1,d.e.1),(d.c.b.1.b.1,d.e.2.1),(d.c.b.2.1.b.1,d.e.b.1),(d.d.1.b.1,d.e.b.2.1),(d.d.2.1.b.1,d.e.c.1),(d.d.b.1.b.1,d.e.c.2.1),d.e.c.b)))) x
def DN (S7:sx)(d:jr.B):Pg mR:=let bq:=d.1.2;let n6:=d.2.2.2.2.2;let bL:=n6.2.2.2;let n5:=bq.2.2;let bg:=n5.2.2;let n2:=bL.2.2.2;let bu:=n2.2.2;let n8:=bu.2.2.2;let n1:=n8.2.2.2.2.2;let n9:=n1.2.2.2;let n3:=n9.2.2.2;let bc:=n3.2.2.2;ae bg.2.1 (ae (Nat.beq n2.1.2.2 n2.1.2.2) (opt (S7 ((bq.2.1,bu.1.1),n2.1,bq.1,λj=>n1.2.1 (0+j),λj=>n1.2.2.1 (0+j),λj=>n9.1 (0+j),λj=>n9.2.1 (0+j),λj=>n9.2.2.1 (0+j),λj=>n3.1 (0+j),λj=>n3.2.1 (0+j),λj=>n3.2.2.1 (0+j),λj=>bc.1 (0+j),λj=>bc.2.1 (0+j),λj=>bc.2.2 (0+j))) λaj=>let n4:=aj.2.2;let n7:=n4.2.2.2.2.2;let n15:=n7.2.2.2;let y0:=n4.1*11+0;ae (true&&Nat.beq y0 (n2.1.2.2*11)&&true) (ae (true&&Nat.ble (0+y0) (n1.1*11+0)) (ret (Sum.inl ((bg.2.1,bq.2.1,bu.1.1,aj.1),(d.1.1,aj.2.1,n5.1,n5.2.1,bg.1,bg.2.2),d.2.1,d.2.2.1,d.2.2.2.1,d.2.2.2.2.1,n6.1,n6.2.1,n6.2.2.1,bL.1,bL.2.1,bL.2.2.1,n2.1,n2.2.1,bu.1.2,bu.2.1,bu.2.2.1,n8.1,n8.2.1,n8.2.2.1,n8.2.2.2.1,n8.2.2.2.2.1,n1.1,λj=>bif true&&Nat.blt j (0+n4.1) then n4.2.1 j else n1.2.1 j,λj=>bif true&&Nat.blt j (0+n4.1) then n4.2.2.1 j else n1.2.2.1 j,λj=>bif true&&Nat.blt j (0+n4.1) then n4.2.2.2.1 j else n9.1 j,λj=>bif true&&Nat.blt j (0+n4.1) then n4.2.2.2.2.1 j else n9.2.1 j,λj=>bif true&&Nat.blt j (0+n4.1) then n7.1 j else n9.2.2.1 j,λj=>bif true&&Nat.blt j (0+n4.1) then n7.2.1 j else n3.1 j,λj=>bif true&&Nat.blt j (0+n4.1) then n7.2.2.1 j else n3.2.1 j,λj=>bif true&&Nat.blt j (0+n4.1) then n15.1 j else n3.2.2.1 j,λj=>bif true&&Nat.blt j (0+n4.1) then n15.2.1 j else bc.1 j,λj=>bif true&&Nat.blt j (0+n4.1) then n15.2.2.1 j else bc.2.1 j,λj=>bif true&&Nat.blt j (0+n4.1) then n15.2.2.2 j else bc.2.2 j))) no) no) no) (ret (Sum.inr (bg.2.1,(d.1.1,bq.1,bq.2.1,n5.1,n5.2.1,bg.1,bg.2.2),d.2)))
def wj (d:jr.B):Option mR:=(DN jL d).val
def fy:=qs (st (pr (cu eZ (us 2 (cu Xg (cu LN (us 54 (cl ai (us 139 nil))))))) (pl (c aul (c rF (c rG (c uD (cd (so apr) λb4=>(cd Hr λb5=>(cd Ht λb6=>(cd Hu λb7=>(cd CB λb8=>(cd CC λb9=>(c pJ (c auk (c pL (cu nO (cu nO (cu nO (cu nO (cu nO (cu nO (cu nO (c CA (c pL (c (so (cl (gs b4.b.1 ay) nil)) (c (so (cl (gs b5.b.1 ay) nil)) (c (so (cl (gs b6.b.1 ay) nil)) (c (so (cl (gs b7.b.1 ay) nil)) (c (so (cl (gs b8.b.1 ay) nil)) (c (so (cl (gs b9.b.1 ay) nil)) Hq)))))))))))))))))))))))))))) Tj)))
def alC:=qs (st (pr (cu eZ (us 2 (cu Xg (cu LN (us 54 (c ai (cl ab (us 138 nil)))))))) (pl (c aul (c rF (c rG (c uD (c (so apr) (c Hr (c Ht (c Hu (c CB (c CC (c pJ (c auk (c pL (cu nO (cu nO (cu nO (cu nO (cu nO (cu nO (cu nO (c CA ac5))))))))))))))))))))) Tj)))
abbrev mS:=((Int×Bool)×(PS×Bool×NI×(NI×NI)×Nat×LL×Bool×Int×qB×Bool×Bool×Bool×Int×Int×Int×LJ×Nat)×(qB×Int×Int)×Ty5×Ty7×dh×dh×dh×dh×dh×dh×(PU×Int)×BY×LK×azU×LK×dt×dt×dt×dt×dt×dt×Nat×NI×NI×NI×NI×NI×NI×NI×NI×NI×NI×NI)
def PD {ρ:Type}(x:mS)(K:AX->St->Option ρ):Option ρ:=(λd=>K (.ex 0) (alC.em (d.1,d.2.1,d.b.1,d.b.2.1,d.c.1,d.c.2.1,d.c.b.1,d.c.b.2.1,d.d.1,d.d.2.1,d.d.b.1,d.d.b.2.1,d.d.c.1,d.d.c.2.1,d.d.c.b.1,d.d.c.b.2.1,(d.c.2.1.b.1,d.e.1),(d.c.b.1.b.1,d.e.2.1),(d.c.b.2.1.b.1,d.e.b.1),(d.d.1.b.1,d.e.b.2.1),(d.d.2.1.b.1,d.e.c.1),(d.d.b.1.b.1,d.e.c.2.1),d.e.c.b))) x
def DO (oY:HW)(qX:LT eJ kt)(d:fy.B):PL fy mS:=let n39:=d.2.1;let n17:=d.2.2;let FF:=n17.2.1;let n4:=n17.2.2;let n30:=n4.2.1;let n19:=n4.2.2.1;let n2:=n4.2.2.2;let n31:=n2.2.1;let n20:=n2.2.2.1;let n5:=n2.2.2.2;let DD:=n5.2.1;let n18:=n5.2.2;let FG:=n18.2.1;let n1:=n18.2.2;let Rl:=n1.2.1;let K0:=n1.1.1;let n6:=n1.2.2;let n32:=n6.2.1;let n21:=n6.1.2.2.2;let bL:=n32.2.2.2;let n3:=n6.2.2;let M3:=n3.2.1;let n22:=n3.1.2.2.2;let n15:=M3.2.2.2;let bu:=n3.2.2;let n23:=bu.1.2.2.2;let n16:=bu.2.1.2.2.2;let y0:=decide (d.1<6);let y1:=Nat.beq n30.2.2.1 n30.2.2.1;let y2:=Nat.beq n19.2.2.1 n19.2.2.1;let y3:=Nat.beq n2.1.2.2.1 n2.1.2.2.1;let y4:=Nat.beq n31.2.2.1 n31.2.2.1;let y5:=Nat.beq n20.2.2.1 n20.2.2.1;let y6:=Nat.beq n5.1.2.2.1 n5.1.2.2.1;ae y0 (ae (aW d.1 6) (ae (d.1==5) (ae y6 (opt (oY (K0,n5.1,λj=>bu.2.1.1 (0+j),λj=>bu.2.1.2.1 (0+j),λj=>bu.2.1.2.2.1 (0+j),λj=>n16.1 (0+j),λj=>n16.2.1 (0+j),λj=>n16.2.2.1 (0+j),λj=>n16.2.2.2.1 (0+j),λj=>n16.2.2.2.2.1 (0+j),λj=>n16.2.2.2.2.2 (0+j))) λaj=>ae (Nat.beq aj.1 aj.1) (ae y1 (ae y2 (ae y3 (ae y4 (ae y5 (ae (Nat.beq aj.2.1.2.2.1 aj.2.1.2.2.1) (opt (qX ((d.1,d.1,aj.1,Int.ofNat aj.1,0),n39,n17.1,FF,n4.1,n30,n19,n2.1,n31,n20,aj.2.1,DD,n18.1,FG,n1.1,aj.2.2.1,Rl,n6.1,n32,n3.1,M3,bu.1,aj.2.2.2,bu.2.2)) λd=>let n33:=d.2.2.2;let n7:=n33.2.2.2.2;let n24:=n7.2.2.2.2;ret (Sum.inl (wI (d.1.2.1+1),d.2.1,d.2.2.1,n33.1,n33.2.1,n33.2.2.1,n33.2.2.2.1,n7.1,n7.2.1,n7.2.2.1,n7.2.2.2.1,n24.1,n24.2.1,n24.2.2.1,n24.2.2.2.1,n24.2.2.2.2.2))) no) no) no) no) no) no) no) no) (ae (d.1==4) (ae y5 (opt (oY (K0,n20,λj=>bu.1.1 (0+j),λj=>bu.1.2.1 (0+j),λj=>bu.1.2.2.1 (0+j),λj=>n23.1 (0+j),λj=>n23.2.1 (0+j),λj=>n23.2.2.1 (0+j),λj=>n23.2.2.2.1 (0+j),λj=>n23.2.2.2.2.1 (0+j),λj=>n23.2.2.2.2.2 (0+j))) λaj=>ae (Nat.beq aj.1 aj.1) (ae y1 (ae y2 (ae y3 (ae y4 (ae (Nat.beq aj.2.1.2.2.1 aj.2.1.2.2.1) (ae y6 (opt (qX ((d.1,d.1,aj.1,Int.ofNat aj.1,0),n39,n17.1,FF,n4.1,n30,n19,n2.1,n31,aj.2.1,n5.1,DD,n18.1,FG,n1.1,aj.2.2.1,Rl,n6.1,n32,n3.1,M3,aj.2.2.2,bu.2)) λd=>let n34:=d.2.2.2;let n8:=n34.2.2.2.2;let n25:=n8.2.2.2.2;ret (Sum.inl (wI (d.1.2.1+1),d.2.1,d.2.2.1,n34.1,n34.2.1,n34.2.2.1,n34.2.2.2.1,n8.1,n8.2.1,n8.2.2.1,n8.2.2.2.1,n25.1,n25.2.1,n25.2.2.1,n25.2.2.2.1,n25.2.2.2.2.2))) no) no) no) no) no) no) no) no) (ae (d.1==3) (ae y4 (opt (oY (K0,n31,λj=>M3.1 (0+j),λj=>M3.2.1 (0+j),λj=>M3.2.2.1 (0+j),λj=>n15.1 (0+j),λj=>n15.2.1 (0+j),λj=>n15.2.2.1 (0+j),λj=>n15.2.2.2.1 (0+j),λj=>n15.2.2.2.2.1 (0+j),λj=>n15.2.2.2.2.2 (0+j))) λaj=>ae (Nat.beq aj.1 aj.1) (ae y1 (ae y2 (ae y3 (ae (Nat.beq aj.2.1.2.2.1 aj.2.1.2.2.1) (ae y5 (ae y6 (opt (qX ((d.1,d.1,aj.1,Int.ofNat aj.1,0),n39,n17.1,FF,n4.1,n30,n19,n2.1,aj.2.1,n20,n5.1,DD,n18.1,FG,n1.1,aj.2.2.1,Rl,n6.1,n32,n3.1,aj.2.2.2,bu)) λd=>let n35:=d.2.2.2;let n9:=n35.2.2.2.2;let n26:=n9.2.2.2.2;ret (Sum.inl (wI (d.1.2.1+1),d.2.1,d.2.2.1,n35.1,n35.2.1,n35.2.2.1,n35.2.2.2.1,n9.1,n9.2.1,n9.2.2.1,n9.2.2.2.1,n26.1,n26.2.1,n26.2.2.1,n26.2.2.2.1,n26.2.2.2.2.2))) no) no) no) no) no) no) no) no) (ae (d.1==2) (ae y3 (opt (oY (K0,n2.1,λj=>n3.1.1 (0+j),λj=>n3.1.2.1 (0+j),λj=>n3.1.2.2.1 (0+j),λj=>n22.1 (0+j),λj=>n22.2.1 (0+j),λj=>n22.2.2.1 (0+j),λj=>n22.2.2.2.1 (0+j),λj=>n22.2.2.2.2.1 (0+j),λj=>n22.2.2.2.2.2 (0+j))) λaj=>ae (Nat.beq aj.1 aj.1) (ae y1 (ae y2 (ae (Nat.beq aj.2.1.2.2.1 aj.2.1.2.2.1) (ae y4 (ae y5 (ae y6 (opt (qX ((d.1,d.1,aj.1,Int.ofNat aj.1,0),n39,n17.1,FF,n4.1,n30,n19,aj.2.1,n31,n20,n5.1,DD,n18.1,FG,n1.1,aj.2.2.1,Rl,n6.1,n32,aj.2.2.2,n3.2)) λd=>let n36:=d.2.2.2;let bc:=n36.2.2.2.2;let n27:=bc.2.2.2.2;ret (Sum.inl (wI (d.1.2.1+1),d.2.1,d.2.2.1,n36.1,n36.2.1,n36.2.2.1,n36.2.2.2.1,bc.1,bc.2.1,bc.2.2.1,bc.2.2.2.1,n27.1,n27.2.1,n27.2.2.1,n27.2.2.2.1,n27.2.2.2.2.2))) no) no) no) no) no) no) no) no) (ae (d.1==1) (ae y2 (opt (oY (K0,n19,λj=>n32.1 (0+j),λj=>n32.2.1 (0+j),λj=>n32.2.2.1 (0+j),λj=>bL.1 (0+j),λj=>bL.2.1 (0+j),λj=>bL.2.2.1 (0+j),λj=>bL.2.2.2.1 (0+j),λj=>bL.2.2.2.2.1 (0+j),λj=>bL.2.2.2.2.2 (0+j))) λaj=>ae (Nat.beq aj.1 aj.1) (ae y1 (ae (Nat.beq aj.2.1.2.2.1 aj.2.1.2.2.1) (ae y3 (ae y4 (ae y5 (ae y6 (opt (qX ((d.1,d.1,aj.1,Int.ofNat aj.1,0),n39,n17.1,FF,n4.1,n30,aj.2.1,n2.1,n31,n20,n5.1,DD,n18.1,FG,n1.1,aj.2.2.1,Rl,n6.1,aj.2.2.2,n3)) λd=>let n37:=d.2.2.2;let bg:=n37.2.2.2.2;let n28:=bg.2.2.2.2;ret (Sum.inl (wI (d.1.2.1+1),d.2.1,d.2.2.1,n37.1,n37.2.1,n37.2.2.1,n37.2.2.2.1,bg.1,bg.2.1,bg.2.2.1,bg.2.2.2.1,n28.1,n28.2.1,n28.2.2.1,n28.2.2.2.1,n28.2.2.2.2.2))) no) no) no) no) no) no) no) no) (ae y1 (opt (oY (K0,n30,λj=>n6.1.1 (0+j),λj=>n6.1.2.1 (0+j),λj=>n6.1.2.2.1 (0+j),λj=>n21.1 (0+j),λj=>n21.2.1 (0+j),λj=>n21.2.2.1 (0+j),λj=>n21.2.2.2.1 (0+j),λj=>n21.2.2.2.2.1 (0+j),λj=>n21.2.2.2.2.2 (0+j))) λaj=>ae (Nat.beq aj.1 aj.1) (ae (Nat.beq aj.2.1.2.2.1 aj.2.1.2.2.1) (ae y2 (ae y3 (ae y4 (ae y5 (ae y6 (opt (qX ((d.1,d.1,aj.1,Int.ofNat aj.1,0),n39,n17.1,FF,n4.1,aj.2.1,n19,n2.1,n31,n20,n5.1,DD,n18.1,FG,n1.1,aj.2.2.1,Rl,aj.2.2.2,n6.2)) λd=>let n38:=d.2.2.2;let bq:=n38.2.2.2.2;let n29:=bq.2.2.2.2;ret (Sum.inl (wI (d.1.2.1+1),d.2.1,d.2.2.1,n38.1,n38.2.1,n38.2.2.1,n38.2.2.2.1,bq.1,bq.2.1,bq.2.2.1,bq.2.2.2.1,n29.1,n29.2.1,n29.2.2.1,n29.2.2.2.1,n29.2.2.2.2.2))) no) no) no) no) no) no) no) no)))))) no) (ret (Sum.inr ((d.1,y0),d.2)))
def DP:=bA (DO tU wi) 2000
def js:=qs (st (pu (cu eZ (us 2 (cu Xg (cu LN (us 3 (cu aPi (us 190 nil))))))) (pl (c aAe (c rF (c rG (c uD (cd Hr λb4=>(cd Ht λb5=>(cd Hu λb6=>(cd CB λb7=>(cd CC λb8=>(cd Ti λb9=>(c pJ (c ac4 (c pL (cu nO (cu nO (cu nO (cu nO (cu nO (cu nO (cu nO (c CA (c aKW (c pL (c (so (cl (gs b4.b.1 ay) nil)) (c (so (cl (gs b5.b.1 ay) nil)) (c (so (cl (gs b6.b.1 ay) nil)) (c (so (cl (gs b7.b.1 ay) nil)) (c (so (cl (gs b8.b.1 ay) nil)) (c (so (cl (gs b9.b.1 ay) nil)) Hq))))))))))))))))))))))))))))) Tj)))
def acD:=qs aLr
def acE:=qs aLq
abbrev mT:=((Bool×NI×Int×Int)×(PS×Bool×(NI×NI)×Nat×LL×Int×qB×Bool×Bool×Bool×Int×Int×Int×LJ×Nat)×(qB×Int×Int)×Ty5×Ty7×dh×dh×dh×dh×dh×dh×(PU×Int)×BY×LK×aMB×LK×dt×dt×dt×dt×dt×dt×Nat×NI×NI×NI×NI×NI×NI×NI×NI×NI×NI×NI)⊕(Bool×(PS×Bool×NI×(NI×NI)×Nat×LL×Int×qB×Bool×Bool×Bool×Int×Int×Int×LJ×Nat)×(qB×Int×Int)×Ty5×Ty7×dh×dh×dh×dh×dh×dh×(PU×Int)×BY×LK×azU×LK×dt×dt×dt×dt×dt×dt×Nat×NI×NI×NI×NI×NI×NI×NI×NI×NI×NI×NI)
def PE {ρ:Type}(x:mT)(K:AX->St->Option ρ):Option ρ:=(Sum.elim (λd=>K .nrm (acD.em (d.1,(d.2.1.1,d.2.1.2.1,d.1.2.1,d.2.1.b.1,d.2.1.b.2.1,d.2.1.c.1,d.1.1,d.2.1.c.2),d.b.1,d.b.2.1,d.c.1,d.c.2.1,d.c.b.1,d.c.b.2.1,d.d.1,d.d.2.1,d.d.b.1,d.d.b.2.1,d.d.c.1,d.d.c.2.1,(d.1.b.1,d.d.c.b.1),d.d.c.b.2.1,(d.c.2.1.b.1,d.e.1),(d.c.b.1.b.1,d.e.2.1),(d.c.b.2.1.b.1,d.e.b.1),(d.d.1.b.1,d.e.b.2.1),(d.d.2.1.b.1,d.e.c.1),(d.d.b.1.b.1,d.e.c.2.1),d.e.c.b))) (λd=>K .nrm (acE.em (d.1,(d.2.1.1,d.2.1.2.1,d.2.1.b.1,d.2.1.b.2.1,d.2.1.c.1,d.2.1.c.2.1,d.1,d.2.1.c.b),d.b.1,d.b.2.1,d.c.1,d.c.2.1,d.c.b.1,d.c.b.2.1,d.d.1,d.d.2.1,d.d.b.1,d.d.b.2.1,d.d.c.1,d.d.c.2.1,d.d.c.b.1,d.d.c.b.2.1,(d.c.2.1.b.1,d.e.1),(d.c.b.1.b.1,d.e.2.1),(d.c.b.2.1.b.1,d.e.b.1),(d.d.1.b.1,d.e.b.2.1),(d.d.2.1.b.1,d.e.c.1),(d.d.b.1.b.1,d.e.c.2.1),d.e.c.b)))) x
def DQ (aHt:aep)(Xa:uP)(aDJ:Z9)(l_5:LT jr mR)(d:js.B):Pg mT:=let n27:=d.2.2;let bL:=d.1.2.2;let bg:=n27.2.2;let n5:=bL.2.2.2.2;let n16:=n5.2.2.2.2;let n4:=bg.2.2;let n15:=n4.2.2;let n6:=n15.2.2.2;let n2:=n16.2.2.2.2.2;let n19:=n2.1.1.2;let bq:=n2.1.2;let n1:=n6.2.2.2;let n23:=n1.2.2.2;let n20:=n1.2.1.2;let n17:=n1.1.2.2.2;let n9:=n20.2.2.2;let n25:=n9.2.2.2;let n8:=n23.2.2.2;let n28:=n8.2.2;let n3:=n28.2.2;let n21:=n3.2.2;let n7:=n21.2.2.2;let n22:=n7.2.2;let y0:=Int.ofNat n2.2;let y1:=1+n2.2;let y2:=Nat.beq bg.1.2.2.1 bg.1.2.2.1;let y3:=Nat.beq bg.2.1.2.2.1 bg.2.1.2.2.1;let y4:=Nat.beq n4.1.2.2.1 n4.1.2.2.1;let y5:=Nat.beq n4.2.1.2.2.1 n4.2.1.2.2.1;let y6:=Nat.beq n15.1.2.2.1 n15.1.2.2.1;let y7:=Nat.beq n15.2.1.2.2.1 n15.2.1.2.2.1;opt (aHt (bL.2.2.2.1,n1.1.1,n1.1.2.1,(n1.1.2.2.1,n17.1,n17.2.1,n17.2.2.1,n17.2.2.2.1,n17.2.2.2.2.1),n17.2.2.2.2.2)) λaj=>ae (decide (y0>0)) (ae (Nat.beq n2.2 n2.2) (ae (Nat.beq n6.1.2.2 n6.1.2.2) (opt (Xa ((n2.2,true),n6.1,d.1.2.1,(afF 0 n20),λj=>n28.2.1 (0+j),λj=>n3.1 (0+j),λj=>n3.2.1 (0+j),λj=>n21.1 (0+j),λj=>n21.2.1 (0+j),λj=>n21.2.2.1 (0+j),λj=>n7.1 (0+j),λj=>n7.2.1 (0+j),λj=>n22.1 (0+j),λj=>n22.2.1 (0+j),λj=>n22.2.2 (0+j))) λaI=>let n24:=aI.2.2.2;let bu:=aI.2.1;let bc:=n24.2.2.2;let n26:=bc.2.2.2;let uy:=bu*11+0;ae (true&&Nat.beq uy (n6.1.2.2*11)&&true) (ae (true&&Nat.ble (0+uy) (n28.1*11+0)) (ae (Nat.ble (y1*80) 140737488355328) (ae (Nat.beq y1 y1) (opt (aDJ y1 aI.1 (λj=>bif Nat.blt j 1 then bif Nat.beq j 0 then n2.1.1.1 else n2.1.1.1 else n20.1 (0+(j-1))) (λj=>bif Nat.blt j 1 then bif Nat.beq j 0 then n19.1 else n19.1 else n20.2.1 (0+(j-1))) (λj=>bif Nat.blt j 1 then bif Nat.beq j 0 then n19.2.1 else n19.2.1 else n20.2.2.1 (0+(j-1))) (λj=>bif Nat.blt j 1 then bif Nat.beq j 0 then n19.2.2 else n19.2.2 else n9.1 (0+(j-1))) (λj=>bif Nat.blt j 1 then bif Nat.beq j 0 then bq.1.1 else bq.1.1 else n9.2.1 (0+(j-1))) (λj=>bif Nat.blt j 1 then bif Nat.beq j 0 then bq.1.2.1 else bq.1.2.1 else n9.2.2.1 (0+(j-1))) (λj=>bif Nat.blt j 1 then bif Nat.beq j 0 then bq.1.2.2 else bq.1.2.2 else n25.1 (0+(j-1))) (λj=>bif Nat.blt j 1 then bif Nat.beq j 0 then bq.2.1 else bq.2.1 else n25.2.1 (0+(j-1))) (λj=>bif Nat.blt j 1 then bif Nat.beq j 0 then bq.2.2.1 else bq.2.2.1 else n25.2.2.1 (0+(j-1))) (λj=>bif Nat.blt j 1 then bif Nat.beq j 0 then bq.2.2.2 else bq.2.2.2 else n25.2.2.2 (0+(j-1))) true) λbp=>let n18:=bp.1.2.2.2;ae y2 (ae y3 (ae y4 (ae y5 (ae y6 (ae y7 (opt (l_5 ((d.1.1,bp.2,bL.1,bL.2.1,bL.2.2.1,aj.1,n5.1,n5.2.1,n5.2.2.1,n5.2.2.2.1,n16.1,n16.2.1,n16.2.2.1,n16.2.2.2.1,wI (n16.2.2.2.2.1+y0),((bp.1.1,bp.1.2.1,bp.1.2.2.1,n18.1),(n18.2.1,n18.2.2.1,n18.2.2.2.1),n18.2.2.2.2),n2.2),d.2.1,n27.1,n27.2.1,bg.1,bg.2.1,n4.1,n4.2.1,n15.1,n15.2.1,n15.2.2.1,n6.1,n6.2.1,n6.2.2.1,n1.2.1,n1.2.2.1,n23.1,n23.2.1,n23.2.2.1,n8.1,n8.2.1,n28.1,λj=>bif true&&Nat.blt j (0+bu) then aI.2.2.1 j else n28.2.1 j,λj=>bif true&&Nat.blt j (0+bu) then n24.1 j else n3.1 j,λj=>bif true&&Nat.blt j (0+bu) then n24.2.1 j else n3.2.1 j,λj=>bif true&&Nat.blt j (0+bu) then n24.2.2.1 j else n21.1 j,λj=>bif true&&Nat.blt j (0+bu) then bc.1 j else n21.2.1 j,λj=>bif true&&Nat.blt j (0+bu) then bc.2.1 j else n21.2.2.1 j,λj=>bif true&&Nat.blt j (0+bu) then bc.2.2.1 j else n7.1 j,λj=>bif true&&Nat.blt j (0+bu) then n26.1 j else n7.2.1 j,λj=>bif true&&Nat.blt j (0+bu) then n26.2.1 j else n22.1 j,λj=>bif true&&Nat.blt j (0+bu) then n26.2.2.1 j else n22.2.1 j,λj=>bif true&&Nat.blt j (0+bu) then n26.2.2.2 j else n22.2.2 j)) λx=>sum x (λd=>ret (Sum.inl d)) λd=>ret (Sum.inr d)) no) no) no) no) no) no) no) no) no) no) no) no) (ae y2 (ae y3 (ae y4 (ae y5 (ae y6 (ae y7 (opt (l_5 ((d.1.1,d.1.2.1,bL.1,bL.2.1,bL.2.2.1,aj.1,n5),d.2.1,n27.1,n27.2.1,bg.1,bg.2.1,n4.1,n4.2.1,n15.1,n15.2.1,n15.2.2.1,n6.1,n6.2.1,n6.2.2.1,n1.2)) λx=>sum x (λd=>ret (Sum.inl d)) λd=>ret (Sum.inr d)) no) no) no) no) no) no)
def wo (d:js.B):Option mT:=(DQ JY kX Gf wj d).val
def jt:=qs (st (pu aQG (pl (c aul (c rF (c rG (c uD (cd (so apr) λb4=>(cd Hr λb5=>(cd Ht λb6=>(cd Hu λb7=>(cd CB λb8=>(cd CC λb9=>(c pJ (c auk (c pL (cu nO (cu nO (cu nO (cu nO (cu nO (cu nO (cu nO (c CA (c (so aQJ) (c (so (cl (gs b4.b.1 ay) nil)) (c (so (cl (gs b5.b.1 ay) nil)) (c (so (cl (gs b6.b.1 ay) nil)) (c (so (cl (gs b7.b.1 ay) nil)) (c (so (cl (gs b8.b.1 ay) nil)) (c (so (cl (gs b9.b.1 ay) nil)) Hq)))))))))))))))))))))))))))) Tj)))
def acF:=qs aLr
def acG:=qs aLq
abbrev mU:=((Bool×NI×Int×Int)×(PS×Bool×(NI×NI)×Nat×LL×Int×qB×Bool×Bool×Bool×Int×Int×Int×LJ×Nat)×(qB×Int×Int)×Ty5×Ty7×dh×dh×dh×dh×dh×dh×(PU×Int)×BY×LK×aMB×LK×dt×dt×dt×dt×dt×dt×Nat×NI×NI×NI×NI×NI×NI×NI×NI×NI×NI×NI)⊕(Bool×(PS×Bool×NI×(NI×NI)×Nat×LL×Int×qB×Bool×Bool×Bool×Int×Int×Int×LJ×Nat)×(qB×Int×Int)×Ty5×Ty7×dh×dh×dh×dh×dh×dh×(PU×Int)×BY×LK×azU×LK×dt×dt×dt×dt×dt×dt×Nat×NI×NI×NI×NI×NI×NI×NI×NI×NI×NI×NI)
def PF {ρ:Type}(x:mU)(K:AX->St->Option ρ):Option ρ:=(Sum.elim (λd=>K .nrm (acF.em (d.1,(d.2.1.1,d.2.1.2.1,d.1.2.1,d.2.1.b.1,d.2.1.b.2.1,d.2.1.c.1,d.1.1,d.2.1.c.2),d.b.1,d.b.2.1,d.c.1,d.c.2.1,d.c.b.1,d.c.b.2.1,d.d.1,d.d.2.1,d.d.b.1,d.d.b.2.1,d.d.c.1,d.d.c.2.1,(d.1.b.1,d.d.c.b.1),d.d.c.b.2.1,(d.c.2.1.b.1,d.e.1),(d.c.b.1.b.1,d.e.2.1),(d.c.b.2.1.b.1,d.e.b.1),(d.d.1.b.1,d.e.b.2.1),(d.d.2.1.b.1,d.e.c.1),(d.d.b.1.b.1,d.e.c.2.1),d.e.c.b))) (λd=>K .nrm (acG.em (d.1,(d.2.1.1,d.2.1.2.1,d.2.1.b.1,d.2.1.b.2.1,d.2.1.c.1,d.2.1.c.2.1,d.1,d.2.1.c.b),d.b.1,d.b.2.1,d.c.1,d.c.2.1,d.c.b.1,d.c.b.2.1,d.d.1,d.d.2.1,d.d.b.1,d.d.b.2.1,d.d.c.1,d.d.c.2.1,d.d.c.b.1,d.d.c.b.2.1,(d.c.2.1.b.1,d.e.1),(d.c.b.1.b.1,d.e.2.1),(d.c.b.2.1.b.1,d.e.b.1),(d.d.1.b.1,d.e.b.2.1),(d.d.2.1.b.1,d.e.c.1),(d.d.b.1.b.1,d.e.c.2.1),d.e.c.b)))) x
def DR (J1:LT fx mQ)(dI:LT fy mS)(l_4:LT js mT)(d:jt.B):Pg mU:=let n9:=d.2.2.2.2;let n4:=n9.2.2;let bc:=n4.2.2.2;let n17:=bc.2.2.2;ae (Nat.beq n9.1.2.2.1 n9.1.2.2.1) (ae (Nat.beq n9.2.1.2.2.1 n9.2.1.2.2.1) (ae (Nat.beq n4.1.2.2.1 n4.1.2.2.1) (ae (Nat.beq n4.2.1.2.2.1 n4.2.1.2.2.1) (ae (Nat.beq n4.2.2.1.2.2.1 n4.2.2.1.2.2.1) (ae (Nat.beq bc.1.2.2.1 bc.1.2.2.1) (opt (dI (0,d.1,d.2.1,d.2.2.1,d.2.2.2.1,n9.1,n9.2.1,n4.1,n4.2.1,n4.2.2.1,bc.1,bc.2.1,bc.2.2.1,n17.1,n17.2.1,(0,n17.2.2.1),n17.2.2.2)) λd=>let n16:=d.2.1.1.2.2.2.2.2.2.2.2;let n15:=d.2.1.2.2.2.2.2.2.2.2.2;let bg:=d.2.2.2.2;let n3:=bg.2.2;let n7:=n3.2.2.2;let n18:=n7.2.2.2;ae (Nat.beq bg.2.1.2.2.1 bg.2.1.2.2.1) (ae (Nat.beq n3.1.2.2.1 n3.1.2.2.1) (ae (Nat.beq n3.2.1.2.2.1 n3.2.1.2.2.1) (ae (Nat.beq n3.2.2.1.2.2.1 n3.2.2.1.2.2.1) (ae (Nat.beq n7.1.2.2.1 n7.1.2.2.1) (ae (Nat.beq n7.2.1.2.2.1 n7.2.1.2.2.1) (opt (J1 (0,d.2.1,d.2.2.1,d.2.2.2.1,bg.1,bg.2.1,n3.1,n3.2.1,n3.2.2.1,n7.1,n7.2.1,n7.2.2.1,n18.1,n18.2.1,n18.2.2.1,(n15.1,n15.2.1,false,false,false,false,false,false,n16.1,n16.2.2.1),n18.2.2.2)) λd=>let bL:=d.2.2;let bu:=d.2.1.2.2.2.2.2.2.2.2.2.2.2;let n5:=bL.2.2.2;let bq:=n5.2.2;let n1:=bq.2.2;let n19:=n1.2.2;let n6:=n19.2.2;let n20:=n6.2.2;let n2:=n20.1.2;let n21:=n2.2.2;let n8:=n21.2.2;let y0:=Nat.beq n5.1.2.2.1 n5.1.2.2.1;let y1:=Nat.beq n5.2.1.2.2.1 n5.2.1.2.2.1;let y2:=Nat.beq bq.1.2.2.1 bq.1.2.2.1;let y3:=Nat.beq bq.2.1.2.2.1 bq.2.1.2.2.1;let y4:=Nat.beq n1.1.2.2.1 n1.1.2.2.1;let y5:=Nat.beq n1.2.1.2.2.1 n1.2.1.2.2.1;ae bu.1 (ae y0 (ae y1 (ae y2 (ae y3 (ae y4 (ae y5 (opt (l_4 (d.2.1,bL.1,bL.2.1,bL.2.2.1,n5.1,n5.2.1,bq.1,bq.2.1,n1.1,n1.2.1,n19.1,n19.2.1,n6.1,n6.2.1,(n20.1.1,n2.1,n2.2.1,n21.1,n21.2.1,n8.1,n8.2.1,n8.2.2.1,wI (n6.2.1.1-bu.2.1),n8.2.2.2),n20.2)) λx=>sum x (λd=>ret (Sum.inl d)) λd=>ret (Sum.inr d)) no) no) no) no) no) no) (ae y0 (ae y1 (ae y2 (ae y3 (ae y4 (ae y5 (opt (l_4 (d.2.1,bL.1,bL.2.1,bL.2.2.1,n5.1,n5.2.1,bq.1,bq.2.1,n1.1,n1.2.1,n19.1,n19.2.1,n6.1,n6.2.1,(n20.1.1,n2.1,n2.2.1,n21.1,n21.2.1,n8.1,n8.2.1,n8.2.2.1,1125899906842624,n8.2.2.2),n20.2)) λx=>sum x (λd=>ret (Sum.inl d)) λd=>ret (Sum.inr d)) no) no) no) no) no) no)) no) no) no) no) no) no) no) no) no) no) no) no
def qA (d:jt.B):Option mU:=(DR DM DP wo d).val
def PG:Hd:=⟨7,(1::2::rg 5 194 []),[(15,[]),(16,[]),(17,[]),(18,[]),(19,[]),(20,[]),(21,[]),(0,[])]⟩
def PH:Hd:=⟨24,(1::2::5::6::7::rg 9 190 []),[(15,[]),(16,[]),(17,[]),(18,[]),(19,[]),(20,[]),(21,[]),(0,[])]⟩
def PI:Hd:=⟨29,(1::2::rg 5 194 []),[(15,[]),(16,[]),(17,[]),(18,[]),(19,[]),(20,[]),(21,[]),(0,[])]⟩
def Az (amM:FL)(aJV:alq)(BA:NV)(l_3:LT jt mU)(x:oX.B):Pg um:=let FF:=x.1.1;let n19:=x.2.1.2;let n18:=x.2.2;let n39:=n18.2.2.1;let n8:=x.1.2.2;let n38:=n8.1.2;let n6:=n18.2.2.2;let n36:=n6.2.1;let n24:=n6.2.2.1;let n4:=n19.2.2.2;let n26:=n4.2.2;let n7:=n26.2.2.2;let DD:=n7.2.2;let n20:=DD.2.2.2;let n3:=n6.2.2.2;let n37:=n3.2.1;let n15:=n3.2.2;let n25:=n15.2.2.1;let n5:=n15.2.2.2.2;let n16:=n5.2.2.2;let FG:=n16.2.2;let n2:=(FF,x.1.2.1,n8.1.1,n38.1,n38.2,n8.2);let n1:=(n20.2.2,n15.2.2.2.1);let y0:=Nat.beq n6.1.2.2.1 n6.1.2.2.1;let y1:=Nat.beq n36.2.2.1 n36.2.2.1;let y2:=Nat.beq n24.2.2.1 n24.2.2.1;let y3:=Nat.beq n3.1.2.2.1 n3.1.2.2.1;let y4:=Nat.beq n37.2.2.1 n37.2.2.1;let y5:=Nat.beq n15.1.2.2.1 n15.1.2.2.1;ae (n4.2.1.1==0) (ae (Nat.beq n4.1 n4.1) (ae y0 (ae y1 (ae y2 (ae y3 (ae y4 (ae y5 (ae (Nat.beq n25.2.2 n25.2.2) (opt (amM (x.1,(x.2.1.1,n19.1,n19.2.1,n19.2.2.1,n4.1,n4.2.1,n26.1,n26.2.1,n26.2.2.1,n7.1,n7.2.1,DD.1,DD.2.1,FF,n20.1,n20.2.1,0),n18.1,n18.2.1,n39,n6.1,n36,n24,n3.1,n37,n15.1,n15.2.1,n25,(λx=>0,λx=>0,λx=>0,λx=>0,λx=>0,λx=>0,λx=>0,λx=>0,λx=>0,λx=>0),n5)) λd=>sm d (λd=>ae y0 (ae y1 (ae y2 (ae y3 (ae y4 (ae y5 (opt (l_3 (d.1,n18.1,n18.2.1,(n4.1,n39),n6.1,n36,n24,n3.1,n37,n15.1,n15.2.1,d.2,n1,n2,(λx=>0,λx=>0,λx=>0,λx=>0,λx=>0,λx=>0,λx=>0,λx=>0,λx=>0,λx=>0),n5.1,n5.2.1,n5.2.2.1,n16.1,n16.2.1,FG.1,n25.2.2,FG.2)) λx=>sum x (λd=>let n27:=d.2.1.2;let n9:=d.2.2.2.2.2.2;let n28:=n9.2.2.2;ret (((d.2.1.1,n27.1,d.1.2.1,n27.2.1,n27.2.2.1,n27.2.2.2.1,d.1.1,n27.2.2.2.2),d.2.2.2.2.2.1,n9.1,n9.2.1,n9.2.2.1,n28.1,n28.2.1,n28.2.2.1,n28.2.2.2.1),n28.2.2.2.2.2.2)) λd=>let n21:=d.2.1.2.2;let bc:=d.2.2.2.2.2.2;let n29:=bc.2.2.2;ret (((d.2.1.1,d.2.1.2.1,n21.1,n21.2.1,n21.2.2.1,n21.2.2.2.1,d.1,n21.2.2.2.2),d.2.2.2.2.2.1,bc.1,bc.2.1,bc.2.2.1,n29.1,n29.2.1,n29.2.2.1,n29.2.2.2.1),n29.2.2.2.2.2.2)) no) no) no) no) no) no) (λd=>let n17:=d.1.1.2.2.2;ae y0 (ae y1 (ae y2 (ae y3 (ae y4 (ae y5 (opt (l_3 ((d.1.1.1,d.1.1.2.1,d.1.1.2.2.1,n17.1,n17.2.1,n17.2.2.1,true,n17.2.2.2.1,n17.2.2.2.2.1,true,n17.2.2.2.2.2),n18.1,n18.2.1,(n4.1,n39),n6.1,n36,n24,n3.1,n37,n15.1,n15.2.1,d.1.2,n1,n2,(λx=>0,λx=>0,λx=>0,λx=>0,λx=>0,λx=>0,λx=>0,λx=>0,λx=>0,λx=>0),n5.1,n5.2.1,n5.2.2.1,n16.1,n16.2.1,FG.1,d.2)) λx=>sum x (λd=>let n30:=d.2.1.2;let bg:=d.2.2.2.2.2.2;let n31:=bg.2.2.2;ret (((d.2.1.1,n30.1,d.1.2.1,n30.2.1,n30.2.2.1,n30.2.2.2.1,d.1.1,n30.2.2.2.2),d.2.2.2.2.2.1,bg.1,bg.2.1,bg.2.2.1,n31.1,n31.2.1,n31.2.2.1,n31.2.2.2.1),n31.2.2.2.2.2.2)) λd=>let n22:=d.2.1.2.2;let bq:=d.2.2.2.2.2.2;let n32:=bq.2.2.2;ret (((d.2.1.1,d.2.1.2.1,n22.1,n22.2.1,n22.2.2.1,n22.2.2.2.1,d.1,n22.2.2.2.2),d.2.2.2.2.2.1,bq.1,bq.2.1,bq.2.2.1,n32.1,n32.2.1,n32.2.2.1,n32.2.2.2.1),n32.2.2.2.2.2.2)) no) no) no) no) no) no)) no) no) no) no) no) no) no) no) (opt (aJV n19.2.2.1.1 n19.2.2.1.2 n19.2.1 FF x.1.2.1 n8.1.1 n38.1 n38.2 n8.2.1 n8.2.2.1 n8.2.2.2 x.2.1.1.2.2.2.2.2.2.1 n19.1) λd=>opt (BA n19.2.1 FF x.1.2.1 n8.1.1 n38.1 n38.2 n8.2.1 n8.2.2.1 n8.2.2.2 d.2) λaj=>ae y0 (ae y1 (ae y2 (ae y3 (ae y4 (ae y5 (opt (l_3 ((x.2.1.1,aj.2,aj.1,d.1,n4.1,n4.2.1,n26.1,n26.2.1,n26.2.2.1,n7.1,n7.2.1,DD.1,DD.2.1,FF,n20.1,n20.2.1,0),n18.1,n18.2.1,(n4.1,n39),n6.1,n36,n24,n3.1,n37,n15.1,n15.2.1,n25,n1,n2,(λx=>0,λx=>0,λx=>0,λx=>0,λx=>0,λx=>0,λx=>0,λx=>0,λx=>0,λx=>0),n5.1,n5.2.1,n5.2.2.1,n16.1,n16.2.1,FG.1,n25.2.2,FG.2)) λx=>sum x (λd=>let n33:=d.2.1.2;let bu:=d.2.2.2.2.2.2;let n34:=bu.2.2.2;ret (((d.2.1.1,n33.1,d.1.2.1,n33.2.1,n33.2.2.1,n33.2.2.2.1,d.1.1,n33.2.2.2.2),d.2.2.2.2.2.1,bu.1,bu.2.1,bu.2.2.1,n34.1,n34.2.1,n34.2.2.1,n34.2.2.2.1),n34.2.2.2.2.2.2)) λd=>let n23:=d.2.1.2.2;let bL:=d.2.2.2.2.2.2;let n35:=bL.2.2.2;ret (((d.2.1.1,d.2.1.2.1,n23.1,n23.2.1,n23.2.2.1,n23.2.2.2.1,d.1,n23.2.2.2.2),d.2.2.2.2.2.1,bL.1,bL.2.1,bL.2.2.1,n35.1,n35.2.1,n35.2.2.1,n35.2.2.2.1),n35.2.2.2.2.2.2)) no) no) no) no) no) no)
def uo:=λx=>(Az rA IX sJ qA x).val
abbrev iR:=FL×alq×NV×HW×K5×wO×aep×uP×Z9×sx×(LT eJ kt)×(LT fx mQ)×(LT jr mR)×(LT fy mS)×(LT js mT)×(LT jt mU)
def ku (p:iR):KK:=⟨[R7 p.1,ayo p.2.1,ZW p.b.1,V3 p.b.2.1,YE p.c.1,Gq p.c.2.1,asi p.c.b.1,EJ p.c.b.2.1,aoi p.d.1,Cp p.d.2.1],⟨[⟨8,(1::2::rg 5 54 (rg 60 139 [])),[(15,[]),(16,[]),(17,[]),(18,[]),(19,[]),(20,[]),(21,[]),(0,[])]⟩,⟨11,(1::2::rg 6 53 (rg 60 10 (rg 73 126 []))),[(15,[]),(16,[]),(17,[]),(18,[]),(19,[]),(20,[]),(21,[]),(0,[])]⟩,⟨18,(1::2::5::6::7::rg 9 92 (rg 102 97 [])),[(15,[]),(16,[]),(17,[]),(18,[]),(19,[]),(20,[]),(21,[]),(0,[])]⟩],[fH 11 20 eJ Pz p.d.b.1,fH 18 20 fx PA p.d.b.2.1,fH 8 20 fy PD p.d.c.2.1],(rg 4 6 [19,18,17,16,15,14,13,11,0,10]),[⟨PG,fH 7 20 jt PF p.d.c.b.2⟩,⟨PH,fH 24 20 js PE p.d.c.b.1⟩,⟨PI,fH 29 20 jr PC p.d.c.1⟩],(some ⟨0,(rg 0 199 []),[]⟩)⟩,20,64⟩
theorem ahL (p:iR):LI (ku p) 11 eJ Pz (DK p.c.1):=λ_ d c K=>by kernel_rfl
theorem ahM (p:iR):LI (ku p) 18 fx PA (DL p.c.2.1):=λ_ d c K=>by kernel_rfl
theorem ahN (p:iR):JI (ku p) 29 jr PC (DN p.d.2.1):=λ_ d K=>by kernel_rfl
theorem ahO (p:iR):LI (ku p) 8 fy PD (DO p.b.2.1 p.d.b.1):=λ_ d c K=>by kernel_rfl
theorem ahP (p:iR):JI (ku p) 24 js PE (DQ p.c.b.1 p.c.b.2.1 p.d.1 p.d.c.1):=λ_ d K=>by kernel_rfl
theorem ahQ (p:iR):JI (ku p) 7 jt PF (DR p.d.b.2.1 p.d.c.2.1 p.d.c.b.1):=λ_ d K=>by kernel_rfl
theorem aqJ (p:iR):D2 (ku p) oX Ws λb=>Az p.1 p.2.1 p.b.1 p.d.c.b.2 b:=λb=>by kernel_rfl
abbrev kv:iR:=(rA,IX,sJ,tU,wg,lQ,JY,kX,Gf,jL,wi,DM,wj,DP,wo,qA)
theorem aqK [ax]:SC (Wt uo):=sc (kS (k:=ku kv) (.c amJ (.c aJN (.c an8 (.c aqt (.c atM (.c aaw (.c aGC (.c WV (.c aDt (.c S6 (.nil _))))))))))) [8,11,18] [7,24,29] ⟨kL (ahO kv),⟨kL (ahL kv),⟨kL (ahM kv),trivial⟩⟩⟩ ⟨kJ PG (ahQ kv),⟨kJ PH (ahP kv),⟨kJ PI (ahN kv),trivial⟩⟩⟩ (aqJ kv))
end Go.Proofs.YtldgljclcgaibaaGreat
namespace Go.Proofs.YtldgljclcgaibaaGreat
open Go.Ab Go.Ab.Pg
theorem aOL (J:Int)(w d:eJ.B)(hd:0<=d.1.2.2.2.2∧d.1.2.2.2.2<=d.1.2.2.2.1∧d.1.2.2.2.1=((d.1.2.2.1:Nat):Int)∧d.1.2.2.2.1<=64∧((d.2.1.2.2.2.2.2.2.2.2.2.2.2.2.2.2.2.2:Nat):Int)+3*(d.1.2.2.2.1-d.1.2.2.2.2)<=J∧J<=90000∧aW d.1.1 6=true∧d.1.2.1=w.1.2.1∧d.2.2.2.2.2.1=w.2.2.2.2.2.1∧d.2.2.2.2.2.2.1=w.2.2.2.2.2.2.1∧d.2.2.2.2.2.2.2.1=w.2.2.2.2.2.2.2.1∧d.2.2.2.2.2.2.2.2.1=w.2.2.2.2.2.2.2.2.1∧d.2.2.2.2.2.2.2.2.2.1=w.2.2.2.2.2.2.2.2.2.1∧d.2.2.2.2.2.2.2.2.2.2.1=w.2.2.2.2.2.2.2.2.2.2.1∧d.2.2.2.2.2.2.2.2.2.2.2.2.1=w.2.2.2.2.2.2.2.2.2.2.2.2.1∧d.2.2.2.2.2.2.2.2.2.2.2.2.2.2.2.2.2.2.2.2.2.2.2.1=w.2.2.2.2.2.2.2.2.2.2.2.2.2.2.2.2.2.2.2.2.2.2.2.1∧d.2.1.2.2.2.2.1=w.2.1.2.2.2.2.1∧d.2.1.2.2.2.2.2.2.2.2.2.2.2.2.2.1=w.2.1.2.2.2.2.2.2.2.2.2.2.2.2.2.1∧d.2.2.2.2.2.2.2.2.2.2.2.2.2.2.1=w.2.2.2.2.2.2.2.2.2.2.2.2.2.2.1):Ok (wi d) (λx:kt=>((x.2.1.2.2.2.2.2.2.2.2.2.2.2.2.2.2.2.2:Nat):Int)<=J∧x.1.2.1=w.1.2.1∧x.2.2.2.2.2.1=w.2.2.2.2.2.1∧x.2.2.2.2.2.2.1=w.2.2.2.2.2.2.1∧x.2.2.2.2.2.2.2.1=w.2.2.2.2.2.2.2.1∧x.2.2.2.2.2.2.2.2.1=w.2.2.2.2.2.2.2.2.1∧x.2.2.2.2.2.2.2.2.2.1=w.2.2.2.2.2.2.2.2.2.1∧x.2.2.2.2.2.2.2.2.2.2.1=w.2.2.2.2.2.2.2.2.2.2.1∧x.2.2.2.2.2.2.2.2.2.2.2.2.1=w.2.2.2.2.2.2.2.2.2.2.2.2.1∧x.2.2.2.2.2.2.2.2.2.2.2.2.2.2.2.2.2.2.2.2.2.2.2.1=w.2.2.2.2.2.2.2.2.2.2.2.2.2.2.2.2.2.2.2.2.2.2.2.1∧x.2.1.2.2.2.2.1=w.2.1.2.2.2.2.1∧x.2.1.2.2.2.2.2.2.2.2.2.2.2.2.2.1=w.2.1.2.2.2.2.2.2.2.2.2.2.2.2.2.1∧x.2.2.2.2.2.2.2.2.2.2.2.2.2.2.1=w.2.2.2.2.2.2.2.2.2.2.2.2.2.2.1):=
 bd (s:=_) (λd:eJ.B=>0<=d.1.2.2.2.2∧d.1.2.2.2.2<=d.1.2.2.2.1∧d.1.2.2.2.1=((d.1.2.2.1:Nat):Int)∧d.1.2.2.2.1<=64∧((d.2.1.2.2.2.2.2.2.2.2.2.2.2.2.2.2.2.2:Nat):Int)+3*(d.1.2.2.2.1-d.1.2.2.2.2)<=J∧J<=90000∧aW d.1.1 6=true∧d.1.2.1=w.1.2.1∧d.2.2.2.2.2.1=w.2.2.2.2.2.1∧d.2.2.2.2.2.2.1=w.2.2.2.2.2.2.1∧d.2.2.2.2.2.2.2.1=w.2.2.2.2.2.2.2.1∧d.2.2.2.2.2.2.2.2.1=w.2.2.2.2.2.2.2.2.1∧d.2.2.2.2.2.2.2.2.2.1=w.2.2.2.2.2.2.2.2.2.1∧d.2.2.2.2.2.2.2.2.2.2.1=w.2.2.2.2.2.2.2.2.2.2.1∧d.2.2.2.2.2.2.2.2.2.2.2.2.1=w.2.2.2.2.2.2.2.2.2.2.2.2.1∧d.2.2.2.2.2.2.2.2.2.2.2.2.2.2.2.2.2.2.2.2.2.2.2.1=w.2.2.2.2.2.2.2.2.2.2.2.2.2.2.2.2.2.2.2.2.2.2.2.1∧d.2.1.2.2.2.2.1=w.2.1.2.2.2.2.1∧d.2.1.2.2.2.2.2.2.2.2.2.2.2.2.2.1=w.2.1.2.2.2.2.2.2.2.2.2.2.2.2.2.1∧d.2.2.2.2.2.2.2.2.2.2.2.2.2.2.1=w.2.2.2.2.2.2.2.2.2.2.2.2.2.2.1) (λd:eJ.B=>Int.toNat (d.1.2.2.2.1-d.1.2.2.2.2)) (λx:kt=>((x.2.1.2.2.2.2.2.2.2.2.2.2.2.2.2.2.2.2:Nat):Int)<=J∧x.1.2.1=w.1.2.1∧x.2.2.2.2.2.1=w.2.2.2.2.2.1∧x.2.2.2.2.2.2.1=w.2.2.2.2.2.2.1∧x.2.2.2.2.2.2.2.1=w.2.2.2.2.2.2.2.1∧x.2.2.2.2.2.2.2.2.1=w.2.2.2.2.2.2.2.2.1∧x.2.2.2.2.2.2.2.2.2.1=w.2.2.2.2.2.2.2.2.2.1∧x.2.2.2.2.2.2.2.2.2.2.1=w.2.2.2.2.2.2.2.2.2.2.1∧x.2.2.2.2.2.2.2.2.2.2.2.2.1=w.2.2.2.2.2.2.2.2.2.2.2.2.1∧x.2.2.2.2.2.2.2.2.2.2.2.2.2.2.2.2.2.2.2.2.2.2.2.1=w.2.2.2.2.2.2.2.2.2.2.2.2.2.2.2.2.2.2.2.2.2.2.2.1∧x.2.1.2.2.2.2.1=w.2.1.2.2.2.2.1∧x.2.1.2.2.2.2.2.2.2.2.2.2.2.2.2.1=w.2.1.2.2.2.2.2.2.2.2.2.2.2.2.2.1∧x.2.2.2.2.2.2.2.2.2.2.2.2.2.2.1=w.2.2.2.2.2.2.2.2.2.2.2.2.2.2.1) (λd hd=>by
  obtain⟨i0,i1,i2,i3,i4,i5,i6,i7,ik⟩:=hd
  have hw:wI (d.1.2.2.2.2+1)=d.1.2.2.2.2+1:=bf (by omega) (by omega)
  unfold DK
  dsimp only
  rw[aL]
  refine⟨λh=> ?_,λ_=>by rw[av];exact⟨by show((d.2.1.2.2.2.2.2.2.2.2.2.2.2.2.2.2.2.2:Nat):Int)<=J;omega,i7,ik⟩⟩
  have h:=of_decide_eq_true h
  have r0:aW d.1.2.2.2.2 d.1.2.2.1=true:=by rw[bl];omega
  rw[r0,hw]
  simp only[aR]
  repeat' (first
   |rw[aC]
   |(with_reducible refine aA (aT7 _ ?_ ?_) λe _ he=> ?_)
   |(rw[rI];refine⟨λa ha=> ?_,λa ha=> ?_⟩))
  ·exact i6
  ·show d.2.1.2.2.2.2.2.2.2.2.2.2.2.2.2.2.2.2<=90000
   omega
  ·rw[ha] at he
   have he:a.1.2.2.2.2.2.2.2.2.2.2.2.2.2.2.2.2<=d.2.1.2.2.2.2.2.2.2.2.2.2.2.2.2.2.2.2+3∧a.1.2.2.2.2.1=d.2.1.2.2.2.2.1∧a.1.2.2.2.2.2.2.2.2.2.2.2.2.2.1=d.2.1.2.2.2.2.2.2.2.2.2.2.2.2.2.1:=he
   rw[av]
   exact⟨⟨by show 0<=d.1.2.2.2.2+1;omega,by show d.1.2.2.2.2+1<=d.1.2.2.2.1;omega,i2,i3,by show((a.1.2.2.2.2.2.2.2.2.2.2.2.2.2.2.2.2:Nat):Int)+3*(d.1.2.2.2.1-(d.1.2.2.2.2+1))<=J;omega,i5,i6,i7,ik.1,ik.2.1,ik.2.2.1,ik.2.2.2.1,ik.2.2.2.2.1,ik.2.2.2.2.2.1,ik.2.2.2.2.2.2.1,ik.2.2.2.2.2.2.2.1,he.2.1.trans ik.2.2.2.2.2.2.2.2.1,he.2.2.trans ik.2.2.2.2.2.2.2.2.2.1,ik.2.2.2.2.2.2.2.2.2.2⟩,by show Int.toNat (d.1.2.2.2.1-(d.1.2.2.2.2+1))<_;omega⟩
  ·rw[ha] at he
   have he:a.1.1.2.2.2.2.2.2.2.2.2.2.2.2.2.2.2.2<=d.2.1.2.2.2.2.2.2.2.2.2.2.2.2.2.2.2.2+3∧a.1.1.2.2.2.2.1=d.2.1.2.2.2.2.1∧a.1.1.2.2.2.2.2.2.2.2.2.2.2.2.2.1=d.2.1.2.2.2.2.2.2.2.2.2.2.2.2.2.1:=he
   rw[av]
   exact⟨⟨by show 0<=d.1.2.2.2.2+1;omega,by show d.1.2.2.2.2+1<=d.1.2.2.2.1;omega,i2,i3,by show((a.1.1.2.2.2.2.2.2.2.2.2.2.2.2.2.2.2.2:Nat):Int)+3*(d.1.2.2.2.1-(d.1.2.2.2.2+1))<=J;omega,i5,i6,i7,ik.1,ik.2.1,ik.2.2.1,ik.2.2.2.1,ik.2.2.2.2.1,ik.2.2.2.2.2.1,ik.2.2.2.2.2.2.1,ik.2.2.2.2.2.2.2.1,he.2.1.trans ik.2.2.2.2.2.2.2.2.1,he.2.2.trans ik.2.2.2.2.2.2.2.2.2.1,ik.2.2.2.2.2.2.2.2.2.2⟩,by show Int.toNat (d.1.2.2.2.1-(d.1.2.2.2.2+1))<_;omega⟩) 2000 d hd (by omega)
theorem aT9 (d:eJ.B)(a:d.1.2.2.2.2=0)(b:d.1.2.2.2.1=((d.1.2.2.1:Nat):Int))(c:d.1.2.2.1<=64)(k:aW d.1.1 6=true)(j:d.2.1.2.2.2.2.2.2.2.2.2.2.2.2.2.2.2.2<=80000):Ok (wi d) (λx:kt=>x.2.1.2.2.2.2.2.2.2.2.2.2.2.2.2.2.2.2<=d.2.1.2.2.2.2.2.2.2.2.2.2.2.2.2.2.2.2+3*d.1.2.2.1∧x.1.2.1=d.1.2.1∧x.2.2.2.2.2.1=d.2.2.2.2.2.1∧x.2.2.2.2.2.2.1=d.2.2.2.2.2.2.1∧x.2.2.2.2.2.2.2.1=d.2.2.2.2.2.2.2.1∧x.2.2.2.2.2.2.2.2.1=d.2.2.2.2.2.2.2.2.1∧x.2.2.2.2.2.2.2.2.2.1=d.2.2.2.2.2.2.2.2.2.1∧x.2.2.2.2.2.2.2.2.2.2.1=d.2.2.2.2.2.2.2.2.2.2.1∧x.2.2.2.2.2.2.2.2.2.2.2.2.1=d.2.2.2.2.2.2.2.2.2.2.2.2.1∧x.2.2.2.2.2.2.2.2.2.2.2.2.2.2.2.2.2.2.2.2.2.2.2.1=d.2.2.2.2.2.2.2.2.2.2.2.2.2.2.2.2.2.2.2.2.2.2.2.1∧x.2.1.2.2.2.2.1=d.2.1.2.2.2.2.1∧x.2.1.2.2.2.2.2.2.2.2.2.2.2.2.2.1=d.2.1.2.2.2.2.2.2.2.2.2.2.2.2.2.1∧x.2.2.2.2.2.2.2.2.2.2.2.2.2.2.1=d.2.2.2.2.2.2.2.2.2.2.2.2.2.2.1):=
 Ok.mono (aOL (((d.2.1.2.2.2.2.2.2.2.2.2.2.2.2.2.2.2.2:Nat):Int)+3*d.1.2.2.2.1) d d ⟨by omega,by omega,b,by omega,by omega,by omega,k,rfl,rfl,rfl,rfl,rfl,rfl,rfl,rfl,rfl,rfl,rfl,rfl⟩) λx hx=>⟨by have h:=hx.1;omega,hx.2⟩
theorem aOM (w d:fy.B)(W5:w.2.2.2.2.2.1.2.2.1<=64)(W6:w.2.2.2.2.2.2.1.2.2.1<=64)(W7:w.2.2.2.2.2.2.2.1.2.2.1<=64)(W8:w.2.2.2.2.2.2.2.2.1.2.2.1<=64)(W9:w.2.2.2.2.2.2.2.2.2.1.2.2.1<=64)(W10:w.2.2.2.2.2.2.2.2.2.2.1.2.2.1<=64)(hd:0<=d.1∧d.1<=6∧((d.2.1.2.2.2.2.2.2.2.2.2.2.2.2.2.2.2.2:Nat):Int)+192*(6-d.1)<=1152∧BR w.2.2.2.2.2.2.2.2.2.2.2.2.2.2.1.1 w.2.2.2.2.2.1 d.2.2.2.2.2.1∧BR w.2.2.2.2.2.2.2.2.2.2.2.2.2.2.1.1 w.2.2.2.2.2.2.1 d.2.2.2.2.2.2.1∧BR w.2.2.2.2.2.2.2.2.2.2.2.2.2.2.1.1 w.2.2.2.2.2.2.2.1 d.2.2.2.2.2.2.2.1∧BR w.2.2.2.2.2.2.2.2.2.2.2.2.2.2.1.1 w.2.2.2.2.2.2.2.2.1 d.2.2.2.2.2.2.2.2.1∧BR w.2.2.2.2.2.2.2.2.2.2.2.2.2.2.1.1 w.2.2.2.2.2.2.2.2.2.1 d.2.2.2.2.2.2.2.2.2.1∧BR w.2.2.2.2.2.2.2.2.2.2.2.2.2.2.1.1 w.2.2.2.2.2.2.2.2.2.2.1 d.2.2.2.2.2.2.2.2.2.2.1∧d.2.2.2.2.2.2.2.2.2.2.2.2.1=w.2.2.2.2.2.2.2.2.2.2.2.2.1∧d.2.2.2.2.2.2.2.2.2.2.2.2.2.2.2.2.2.2.2.2.2.2.1=w.2.2.2.2.2.2.2.2.2.2.2.2.2.2.2.2.2.2.2.2.2.2.1∧d.2.1.2.2.2.2.1=w.2.1.2.2.2.2.1∧d.2.1.2.2.2.2.2.2.2.2.2.2.2.2.2.1=w.2.1.2.2.2.2.2.2.2.2.2.2.2.2.2.1∧d.2.2.2.2.2.2.2.2.2.2.2.2.2.2.1.1=w.2.2.2.2.2.2.2.2.2.2.2.2.2.2.1.1):Ok (DP d) (λx:mS=>x.2.1.2.2.2.2.2.2.2.2.2.2.2.2.2.2.2.2<=1152∧BR w.2.2.2.2.2.2.2.2.2.2.2.2.2.2.1.1 w.2.2.2.2.2.1 x.2.2.2.2.2.1∧BR w.2.2.2.2.2.2.2.2.2.2.2.2.2.2.1.1 w.2.2.2.2.2.2.1 x.2.2.2.2.2.2.1∧BR w.2.2.2.2.2.2.2.2.2.2.2.2.2.2.1.1 w.2.2.2.2.2.2.2.1 x.2.2.2.2.2.2.2.1∧BR w.2.2.2.2.2.2.2.2.2.2.2.2.2.2.1.1 w.2.2.2.2.2.2.2.2.1 x.2.2.2.2.2.2.2.2.1∧BR w.2.2.2.2.2.2.2.2.2.2.2.2.2.2.1.1 w.2.2.2.2.2.2.2.2.2.1 x.2.2.2.2.2.2.2.2.2.1∧BR w.2.2.2.2.2.2.2.2.2.2.2.2.2.2.1.1 w.2.2.2.2.2.2.2.2.2.2.1 x.2.2.2.2.2.2.2.2.2.2.1∧x.2.2.2.2.2.2.2.2.2.2.2.2.1=w.2.2.2.2.2.2.2.2.2.2.2.2.1∧x.2.2.2.2.2.2.2.2.2.2.2.2.2.2.2.2.2.2.2.2.2.2.1=w.2.2.2.2.2.2.2.2.2.2.2.2.2.2.2.2.2.2.2.2.2.2.1∧x.2.1.2.2.2.2.1=w.2.1.2.2.2.2.1∧x.2.1.2.2.2.2.2.2.2.2.2.2.2.2.2.1=w.2.1.2.2.2.2.2.2.2.2.2.2.2.2.2.1):=
 bd (s:=_) (λd:fy.B=>0<=d.1∧d.1<=6∧((d.2.1.2.2.2.2.2.2.2.2.2.2.2.2.2.2.2.2:Nat):Int)+192*(6-d.1)<=1152∧BR w.2.2.2.2.2.2.2.2.2.2.2.2.2.2.1.1 w.2.2.2.2.2.1 d.2.2.2.2.2.1∧BR w.2.2.2.2.2.2.2.2.2.2.2.2.2.2.1.1 w.2.2.2.2.2.2.1 d.2.2.2.2.2.2.1∧BR w.2.2.2.2.2.2.2.2.2.2.2.2.2.2.1.1 w.2.2.2.2.2.2.2.1 d.2.2.2.2.2.2.2.1∧BR w.2.2.2.2.2.2.2.2.2.2.2.2.2.2.1.1 w.2.2.2.2.2.2.2.2.1 d.2.2.2.2.2.2.2.2.1∧BR w.2.2.2.2.2.2.2.2.2.2.2.2.2.2.1.1 w.2.2.2.2.2.2.2.2.2.1 d.2.2.2.2.2.2.2.2.2.1∧BR w.2.2.2.2.2.2.2.2.2.2.2.2.2.2.1.1 w.2.2.2.2.2.2.2.2.2.2.1 d.2.2.2.2.2.2.2.2.2.2.1∧d.2.2.2.2.2.2.2.2.2.2.2.2.1=w.2.2.2.2.2.2.2.2.2.2.2.2.1∧d.2.2.2.2.2.2.2.2.2.2.2.2.2.2.2.2.2.2.2.2.2.2.1=w.2.2.2.2.2.2.2.2.2.2.2.2.2.2.2.2.2.2.2.2.2.2.1∧d.2.1.2.2.2.2.1=w.2.1.2.2.2.2.1∧d.2.1.2.2.2.2.2.2.2.2.2.2.2.2.2.1=w.2.1.2.2.2.2.2.2.2.2.2.2.2.2.2.1∧d.2.2.2.2.2.2.2.2.2.2.2.2.2.2.1.1=w.2.2.2.2.2.2.2.2.2.2.2.2.2.2.1.1) (λd:fy.B=>Int.toNat (6-d.1)) (λx:mS=>x.2.1.2.2.2.2.2.2.2.2.2.2.2.2.2.2.2.2<=1152∧BR w.2.2.2.2.2.2.2.2.2.2.2.2.2.2.1.1 w.2.2.2.2.2.1 x.2.2.2.2.2.1∧BR w.2.2.2.2.2.2.2.2.2.2.2.2.2.2.1.1 w.2.2.2.2.2.2.1 x.2.2.2.2.2.2.1∧BR w.2.2.2.2.2.2.2.2.2.2.2.2.2.2.1.1 w.2.2.2.2.2.2.2.1 x.2.2.2.2.2.2.2.1∧BR w.2.2.2.2.2.2.2.2.2.2.2.2.2.2.1.1 w.2.2.2.2.2.2.2.2.1 x.2.2.2.2.2.2.2.2.1∧BR w.2.2.2.2.2.2.2.2.2.2.2.2.2.2.1.1 w.2.2.2.2.2.2.2.2.2.1 x.2.2.2.2.2.2.2.2.2.1∧BR w.2.2.2.2.2.2.2.2.2.2.2.2.2.2.1.1 w.2.2.2.2.2.2.2.2.2.2.1 x.2.2.2.2.2.2.2.2.2.2.1∧x.2.2.2.2.2.2.2.2.2.2.2.2.1=w.2.2.2.2.2.2.2.2.2.2.2.2.1∧x.2.2.2.2.2.2.2.2.2.2.2.2.2.2.2.2.2.2.2.2.2.2.1=w.2.2.2.2.2.2.2.2.2.2.2.2.2.2.2.2.2.2.2.2.2.2.1∧x.2.1.2.2.2.2.1=w.2.1.2.2.2.2.1∧x.2.1.2.2.2.2.2.2.2.2.2.2.2.2.2.1=w.2.1.2.2.2.2.2.2.2.2.2.2.2.2.2.1) (λd hd=>by
  obtain⟨i0,i1,i2,s5,s6,s7,s8,s9,Xb,i12,i22,i4,it,i14⟩:=hd
  have hw:wI (d.1+1)=d.1+1:=bf (by omega) (by omega)
  unfold DO
  dsimp only
  rw[aL]
  refine⟨λh=> ?_,λ_=>by rw[av];exact⟨by show d.2.1.2.2.2.2.2.2.2.2.2.2.2.2.2.2.2.2<=1152;omega,s5,s6,s7,s8,s9,Xb,i12,i22,i4,it⟩⟩
  have h:=of_decide_eq_true h
  have r0:aW d.1 6=true:=by rw[bl];omega
  rw[r0]
  simp only[aR]
  repeat' (first
   |rw[aC]
   |(with_reducible refine aA (aOE _ ?_) λe _ he=> ?_)
   |(with_reducible refine aA (aT9 _ ?_ ?_ ?_ ?_ ?_) λy _ hy=> ?_)
   |(rw[aL];refine⟨λc=> ?_,λc=> ?_⟩))
  all_goals first
   |(rw[av]
     obtain⟨p1,p2⟩:=he
     have p2:=BR.mono (Int.le_of_eq i14) p2
     obtain⟨y1,y2,hb5,hb6,hb7,hb8,hb9,aW9,h12,h23,h4,ht,hh⟩:=hy
     have p1':e.1<=64:=by first|exact Nat.le_trans p1 (Nat.le_trans s5.len W5)|exact Nat.le_trans p1 (Nat.le_trans s6.len W6)|exact Nat.le_trans p1 (Nat.le_trans s7.len W7)|exact Nat.le_trans p1 (Nat.le_trans s8.len W8)|exact Nat.le_trans p1 (Nat.le_trans s9.len W9)|exact Nat.le_trans p1 (Nat.le_trans Xb.len W10)
     have y2:y.1.2.1=d.1:=y2
     have y1:y.2.1.2.2.2.2.2.2.2.2.2.2.2.2.2.2.2.2<=d.2.1.2.2.2.2.2.2.2.2.2.2.2.2.2.2.2.2+3*e.1:=y1
     have hw':wI (y.1.2.1+1)=d.1+1:=by rw[y2];exact hw
     exact⟨⟨by show 0<=wI (y.1.2.1+1);omega,by show wI (y.1.2.1+1)<=6;omega,by show((y.2.1.2.2.2.2.2.2.2.2.2.2.2.2.2.2.2.2:Nat):Int)+192*(6-wI (y.1.2.1+1))<=1152;omega,
    (by rw[show y.2.2.2.2.2.1=_ from hb5];first|exact s5|exact s5.trans p2),
    (by rw[show y.2.2.2.2.2.2.1=_ from hb6];first|exact s6|exact s6.trans p2),
    (by rw[show y.2.2.2.2.2.2.2.1=_ from hb7];first|exact s7|exact s7.trans p2),
    (by rw[show y.2.2.2.2.2.2.2.2.1=_ from hb8];first|exact s8|exact s8.trans p2),
    (by rw[show y.2.2.2.2.2.2.2.2.2.1=_ from hb9];first|exact s9|exact s9.trans p2),
    (by rw[show y.2.2.2.2.2.2.2.2.2.2.1=_ from aW9];first|exact Xb|exact Xb.trans p2),
    h12.trans i12,h23.trans i22,h4.trans i4,ht.trans it,(congrArg (λz=>z.1) hh).trans i14⟩,by show Int.toNat (6-wI (y.1.2.1+1))<_;omega⟩)
   |rfl
   |exact r0
   |(show d.2.1.2.2.2.2.2.2.2.2.2.2.2.2.2.2.2.2<=80000
     omega)
   |(obtain⟨p1,p2⟩:=he
     first|exact Nat.le_trans p1 (Nat.le_trans s5.len W5)|exact Nat.le_trans p1 (Nat.le_trans s6.len W6)|exact Nat.le_trans p1 (Nat.le_trans s7.len W7)|exact Nat.le_trans p1 (Nat.le_trans s8.len W8)|exact Nat.le_trans p1 (Nat.le_trans s9.len W9)|exact Nat.le_trans p1 (Nat.le_trans Xb.len W10))
   |exact Nat.le_trans s5.len (Nat.le_trans W5 (by decide))
   |exact Nat.le_trans s6.len (Nat.le_trans W6 (by decide))
   |exact Nat.le_trans s7.len (Nat.le_trans W7 (by decide))
   |exact Nat.le_trans s8.len (Nat.le_trans W8 (by decide))
   |exact Nat.le_trans s9.len (Nat.le_trans W9 (by decide))
   |exact Nat.le_trans Xb.len (Nat.le_trans W10 (by decide))) 2000 d hd (by omega)
theorem aON (w d:fx.B)(hd:0<=d.1∧d.1<=6∧d.2.1=w.2.1∧d.2.2.2.2.2.1=w.2.2.2.2.2.1∧d.2.2.2.2.2.2.1=w.2.2.2.2.2.2.1∧d.2.2.2.2.2.2.2.1=w.2.2.2.2.2.2.2.1∧d.2.2.2.2.2.2.2.2.1=w.2.2.2.2.2.2.2.2.1∧d.2.2.2.2.2.2.2.2.2.1=w.2.2.2.2.2.2.2.2.2.1∧d.2.2.2.2.2.2.2.2.2.2.1=w.2.2.2.2.2.2.2.2.2.2.1∧d.2.2.2.2.2.2.2.2.2.2.2.2.1=w.2.2.2.2.2.2.2.2.2.2.2.2.1∧d.2.2.2.2.2.2.2.2.2.2.2.2.2.2.2.2.2.2.2.2.2.2.2.1=w.2.2.2.2.2.2.2.2.2.2.2.2.2.2.2.2.2.2.2.2.2.2.2.1):Ok (DM d) (λx:mQ=>x.2.1=w.2.1∧x.2.2.2.2.2.1=w.2.2.2.2.2.1∧x.2.2.2.2.2.2.1=w.2.2.2.2.2.2.1∧x.2.2.2.2.2.2.2.1=w.2.2.2.2.2.2.2.1∧x.2.2.2.2.2.2.2.2.1=w.2.2.2.2.2.2.2.2.1∧x.2.2.2.2.2.2.2.2.2.1=w.2.2.2.2.2.2.2.2.2.1∧x.2.2.2.2.2.2.2.2.2.2.1=w.2.2.2.2.2.2.2.2.2.2.1∧x.2.2.2.2.2.2.2.2.2.2.2.2.1=w.2.2.2.2.2.2.2.2.2.2.2.2.1∧x.2.2.2.2.2.2.2.2.2.2.2.2.2.2.2.2.2.2.2.2.2.2.2.1=w.2.2.2.2.2.2.2.2.2.2.2.2.2.2.2.2.2.2.2.2.2.2.2.1):=
 bd (s:=_) (λd:fx.B=>0<=d.1∧d.1<=6∧d.2.1=w.2.1∧d.2.2.2.2.2.1=w.2.2.2.2.2.1∧d.2.2.2.2.2.2.1=w.2.2.2.2.2.2.1∧d.2.2.2.2.2.2.2.1=w.2.2.2.2.2.2.2.1∧d.2.2.2.2.2.2.2.2.1=w.2.2.2.2.2.2.2.2.1∧d.2.2.2.2.2.2.2.2.2.1=w.2.2.2.2.2.2.2.2.2.1∧d.2.2.2.2.2.2.2.2.2.2.1=w.2.2.2.2.2.2.2.2.2.2.1∧d.2.2.2.2.2.2.2.2.2.2.2.2.1=w.2.2.2.2.2.2.2.2.2.2.2.2.1∧d.2.2.2.2.2.2.2.2.2.2.2.2.2.2.2.2.2.2.2.2.2.2.2.1=w.2.2.2.2.2.2.2.2.2.2.2.2.2.2.2.2.2.2.2.2.2.2.2.1) (λd:fx.B=>Int.toNat (6-d.1)) (λx:mQ=>x.2.1=w.2.1∧x.2.2.2.2.2.1=w.2.2.2.2.2.1∧x.2.2.2.2.2.2.1=w.2.2.2.2.2.2.1∧x.2.2.2.2.2.2.2.1=w.2.2.2.2.2.2.2.1∧x.2.2.2.2.2.2.2.2.1=w.2.2.2.2.2.2.2.2.1∧x.2.2.2.2.2.2.2.2.2.1=w.2.2.2.2.2.2.2.2.2.1∧x.2.2.2.2.2.2.2.2.2.2.1=w.2.2.2.2.2.2.2.2.2.2.1∧x.2.2.2.2.2.2.2.2.2.2.2.2.1=w.2.2.2.2.2.2.2.2.2.2.2.2.1∧x.2.2.2.2.2.2.2.2.2.2.2.2.2.2.2.2.2.2.2.2.2.2.2.1=w.2.2.2.2.2.2.2.2.2.2.2.2.2.2.2.2.2.2.2.2.2.2.2.1) (λd hd=>by
  obtain⟨i0,i1,ik⟩:=hd
  have hw:wI (d.1+1)=d.1+1:=bf (by omega) (by omega)
  unfold DL
  dsimp only
  rw[aL]
  refine⟨λh=> ?_,λ_=>by rw[av];exact ik⟩
  have h:=of_decide_eq_true h
  have r0:aW d.1 6=true:=by rw[bl];omega
  rw[r0,hw,bx]
  intro _ _
  rw[aC]
  repeat' (first
   |(rw[aL];refine⟨λc=> ?_,λc=> ?_⟩))
  all_goals
   rw[av]
   exact⟨⟨by show 0<=d.1+1;omega,by show d.1+1<=6;omega,ik⟩,by show Int.toNat (6-(d.1+1))<_;omega⟩) 2000 d hd (by omega)
theorem aNx (d:jr.B)(h:d.2.2.2.2.2.2.2.2.2.2.2.1.2.2<=1999)(k:d.2.2.2.2.2.2.2.2.2.2.2.1.2.2<=d.2.2.2.2.2.2.2.2.2.2.2.2.2.2.2.2.2.2.2.2.2.1):Ok (wj d) (λx:mR=>match x with|.inl e=>e.2.2.2.2.2.1=d.2.2.2.2.1∧e.2.2.2.2.2.2.1=d.2.2.2.2.2.1∧e.2.2.2.2.2.2.2.1=d.2.2.2.2.2.2.1∧e.2.2.2.2.2.2.2.2.1=d.2.2.2.2.2.2.2.1∧e.2.2.2.2.2.2.2.2.2.1=d.2.2.2.2.2.2.2.2.1∧e.2.2.2.2.2.2.2.2.2.2.1=d.2.2.2.2.2.2.2.2.2.1∧e.2.2.2.2.2.2.2.2.2.2.2.2.1=d.2.2.2.2.2.2.2.2.2.2.2.1∧e.2.1.2.2.2.1=d.1.2.2.2.2.1∧e.2.1.2.2.2.2.2.2.2.2.2.2.2.1=d.1.2.2.2.2.2.2.2.2.2.2.2.2.2.1|.inr e=>e.2.2.2.2.2.1=d.2.2.2.2.1∧e.2.2.2.2.2.2.1=d.2.2.2.2.2.1∧e.2.2.2.2.2.2.2.1=d.2.2.2.2.2.2.1∧e.2.2.2.2.2.2.2.2.1=d.2.2.2.2.2.2.2.1∧e.2.2.2.2.2.2.2.2.2.1=d.2.2.2.2.2.2.2.2.1∧e.2.2.2.2.2.2.2.2.2.2.1=d.2.2.2.2.2.2.2.2.2.1∧e.2.2.2.2.2.2.2.2.2.2.2.2.1=d.2.2.2.2.2.2.2.2.2.2.2.1∧e.2.1.2.2.2.2.1=d.1.2.2.2.2.1∧e.2.1.2.2.2.2.2.2.2.2.2.2.2.2.1=d.1.2.2.2.2.2.2.2.2.2.2.2.2.2.1):=by
 unfold wj DN
 try dsimp only
 show PQ _ _
 rw[aL]
 refine⟨λ_=> ?_,λ_=>by rw[av];exact⟨rfl,rfl,rfl,rfl,rfl,rfl,rfl,rfl,rfl⟩⟩
 rw[aR,aC]
 with_reducible refine aA (aJS _ ?_) λe _ he=> ?_
 ·exact h
 have he:e.2.2.1=d.2.2.2.2.2.2.2.2.2.2.2.1.2.2:=he
 have b1:(true&&Nat.beq (e.2.2.1*11+0) (d.2.2.2.2.2.2.2.2.2.2.2.1.2.2*11)&&true)=true:=by rw[he,Nat.add_zero,aR];rfl
 have b2:(true&&Nat.ble (0+(e.2.2.1*11+0)) (d.2.2.2.2.2.2.2.2.2.2.2.2.2.2.2.2.2.2.2.2.2.1*11+0))=true:=by rw[he,Bool.true_and,bP];omega
 try dsimp only
 rw[b1,b2,aC,aC,av]
 exact⟨rfl,rfl,rfl,rfl,rfl,rfl,rfl,rfl,rfl⟩
theorem aNy (d:js.B)(j:d.1.2.2.2.2.2.2.2.2.2.2.2.2.2.2.2.2<=1800)(h:d.2.2.2.2.2.2.2.2.2.2.2.1.2.2<=1999)(k:d.2.2.2.2.2.2.2.2.2.2.2.1.2.2<=d.2.2.2.2.2.2.2.2.2.2.2.2.2.2.2.2.2.2.2.2.2.2.1):Ok (wo d) (λx:mT=>match x with|.inl e=>e.2.2.2.2.2.1=d.2.2.2.2.1∧e.2.2.2.2.2.2.1=d.2.2.2.2.2.1∧e.2.2.2.2.2.2.2.1=d.2.2.2.2.2.2.1∧e.2.2.2.2.2.2.2.2.1=d.2.2.2.2.2.2.2.1∧e.2.2.2.2.2.2.2.2.2.1=d.2.2.2.2.2.2.2.2.1∧e.2.2.2.2.2.2.2.2.2.2.1=d.2.2.2.2.2.2.2.2.2.1∧e.2.2.2.2.2.2.2.2.2.2.2.2.1=d.2.2.2.2.2.2.2.2.2.2.2.1∧e.2.1.2.2.2.1=d.1.2.2.2.2.1∧e.2.1.2.2.2.2.2.2.2.2.2.2.2.1=d.1.2.2.2.2.2.2.2.2.2.2.2.2.2.1|.inr e=>e.2.2.2.2.2.1=d.2.2.2.2.1∧e.2.2.2.2.2.2.1=d.2.2.2.2.2.1∧e.2.2.2.2.2.2.2.1=d.2.2.2.2.2.2.1∧e.2.2.2.2.2.2.2.2.1=d.2.2.2.2.2.2.2.1∧e.2.2.2.2.2.2.2.2.2.1=d.2.2.2.2.2.2.2.2.1∧e.2.2.2.2.2.2.2.2.2.2.1=d.2.2.2.2.2.2.2.2.2.1∧e.2.2.2.2.2.2.2.2.2.2.2.2.1=d.2.2.2.2.2.2.2.2.2.2.2.1∧e.2.1.2.2.2.2.1=d.1.2.2.2.2.1∧e.2.1.2.2.2.2.2.2.2.2.2.2.2.2.1=d.1.2.2.2.2.2.2.2.2.2.2.2.2.2.1):=by
 unfold wo DQ
 try dsimp only
 show PQ _ _
 simp only[aR]
 have b3:Nat.ble ((1+d.1.2.2.2.2.2.2.2.2.2.2.2.2.2.2.2.2)*80) 140737488355328=true:=by rw[bP];omega
 rw[bx]
 intro _ _
 rw[aL]
 refine⟨λ_=> ?_,λ_=> ?_⟩
 ·rw[aC,aC]
  with_reducible refine aA (aOD _ ?_ ?_) λe _ he=> ?_
  ·show d.1.2.2.2.2.2.2.2.2.2.2.2.2.2.2.2.2<=1999
   omega
  ·exact h
  have he:e.2.1=d.2.2.2.2.2.2.2.2.2.2.2.1.2.2:=he
  have b1:(true&&Nat.beq (e.2.1*11+0) (d.2.2.2.2.2.2.2.2.2.2.2.1.2.2*11)&&true)=true:=by rw[he,Nat.add_zero,aR];rfl
  have b2:(true&&Nat.ble (0+(e.2.1*11+0)) (d.2.2.2.2.2.2.2.2.2.2.2.2.2.2.2.2.2.2.2.2.2.2.1*11+0))=true:=by rw[he,Bool.true_and,bP];omega
  rw[b1,b2,b3,aC,aC,aC,aC]
  with_reducible refine aA (bj.Ok (Q:=λ_=>True) (aDy _ _ _ _ _ _ _ _ _ _ _ _ _ ?_) λ_ _=>trivial) λe3 _ _=> ?_
  ·omega
  simp only[aC]
  with_reducible refine aA (aNx _ ?_ ?_) λy _ hy=> ?_
  ·exact h
  ·exact k
  rw[zf]
  refine⟨λa ha=> ?_,λa ha=> ?_⟩
  ·rw[av];rw[ha] at hy;exact hy
  ·rw[av];rw[ha] at hy;exact hy
 ·simp only[aC]
  with_reducible refine aA (aNx _ ?_ ?_) λy _ hy=> ?_
  ·exact h
  ·exact k
  rw[zf]
  refine⟨λa ha=> ?_,λa ha=> ?_⟩
  ·rw[av];rw[ha] at hy;exact hy
  ·rw[av];rw[ha] at hy;exact hy
theorem aHu (d:jt.B)(j:d.1.2.2.2.2.2.2.2.2.2.2.2.2.2.2.2.2=0)(l4:d.2.2.2.2.1.2.2.1<=64)(l5:d.2.2.2.2.2.1.2.2.1<=64)(l6:d.2.2.2.2.2.2.1.2.2.1<=64)(l7:d.2.2.2.2.2.2.2.1.2.2.1<=64)(l8:d.2.2.2.2.2.2.2.2.1.2.2.1<=64)(l9:d.2.2.2.2.2.2.2.2.2.1.2.2.1<=64)(h:d.2.2.2.2.2.2.2.2.2.2.2.1.2.2<=1999)(k:d.2.2.2.2.2.2.2.2.2.2.2.1.2.2<=d.2.2.2.2.2.2.2.2.2.2.2.2.2.2.2.2.2.2.2.2.2.1):Ok (qA d) (λx:mU=>match x with|.inl e=>BR d.2.2.2.2.2.2.2.2.2.2.2.2.2.1.1 d.2.2.2.2.1 e.2.2.2.2.2.1∧BR d.2.2.2.2.2.2.2.2.2.2.2.2.2.1.1 d.2.2.2.2.2.1 e.2.2.2.2.2.2.1∧BR d.2.2.2.2.2.2.2.2.2.2.2.2.2.1.1 d.2.2.2.2.2.2.1 e.2.2.2.2.2.2.2.1∧BR d.2.2.2.2.2.2.2.2.2.2.2.2.2.1.1 d.2.2.2.2.2.2.2.1 e.2.2.2.2.2.2.2.2.1∧BR d.2.2.2.2.2.2.2.2.2.2.2.2.2.1.1 d.2.2.2.2.2.2.2.2.1 e.2.2.2.2.2.2.2.2.2.1∧BR d.2.2.2.2.2.2.2.2.2.2.2.2.2.1.1 d.2.2.2.2.2.2.2.2.2.1 e.2.2.2.2.2.2.2.2.2.2.1∧e.2.2.2.2.2.2.2.2.2.2.2.2.1=d.2.2.2.2.2.2.2.2.2.2.2.1∧e.2.1.2.2.2.1=d.1.2.2.2.2.1∧e.2.1.2.2.2.2.2.2.2.2.2.2.2.1=d.1.2.2.2.2.2.2.2.2.2.2.2.2.2.1|.inr e=>BR d.2.2.2.2.2.2.2.2.2.2.2.2.2.1.1 d.2.2.2.2.1 e.2.2.2.2.2.1∧BR d.2.2.2.2.2.2.2.2.2.2.2.2.2.1.1 d.2.2.2.2.2.1 e.2.2.2.2.2.2.1∧BR d.2.2.2.2.2.2.2.2.2.2.2.2.2.1.1 d.2.2.2.2.2.2.1 e.2.2.2.2.2.2.2.1∧BR d.2.2.2.2.2.2.2.2.2.2.2.2.2.1.1 d.2.2.2.2.2.2.2.1 e.2.2.2.2.2.2.2.2.1∧BR d.2.2.2.2.2.2.2.2.2.2.2.2.2.1.1 d.2.2.2.2.2.2.2.2.1 e.2.2.2.2.2.2.2.2.2.1∧BR d.2.2.2.2.2.2.2.2.2.2.2.2.2.1.1 d.2.2.2.2.2.2.2.2.2.1 e.2.2.2.2.2.2.2.2.2.2.1∧e.2.2.2.2.2.2.2.2.2.2.2.2.1=d.2.2.2.2.2.2.2.2.2.2.2.1∧e.2.1.2.2.2.2.1=d.1.2.2.2.2.1∧e.2.1.2.2.2.2.2.2.2.2.2.2.2.2.1=d.1.2.2.2.2.2.2.2.2.2.2.2.2.2.1):=by
 unfold qA DR
 try dsimp only
 show PQ _ _
 simp only[aR]
 simp only[aC]
 refine aA (aOM _ _ l4 l5 l6 l7 l8 l9 ⟨Int.le_refl 0,(show(0:Int)<=6 by decide),(by show((d.1.2.2.2.2.2.2.2.2.2.2.2.2.2.2.2.2:Nat):Int)+192*(6-0)<=1152;omega),BR.refl _ _,BR.refl _ _,BR.refl _ _,BR.refl _ _,BR.refl _ _,BR.refl _ _,rfl,rfl,rfl,rfl,rfl⟩) λa _ ha=> ?_
 obtain⟨u1,u5,u6,u7,u8,u9,u10,u12,u22,u4,ut⟩:=ha
 simp only[aC]
 refine aA (aON _ _ ⟨Int.le_refl 0,(show(0:Int)<=6 by decide),rfl,rfl,rfl,rfl,rfl,rfl,rfl,rfl,rfl⟩) λb _ hb=> ?_
 obtain⟨g1,g5,g6,g7,g8,g9,g10,g12,g23⟩:=hb
 rw[aL]
 refine⟨λ_=> ?_,λ_=> ?_⟩
 ·simp only[aC]
  with_reducible refine aA (aNy _ ?_ ?_ ?_) λy _ hy=> ?_
  ·show b.2.1.2.2.2.2.2.2.2.2.2.2.2.2.2.2.2.2<=1800
   rw[g1];exact Nat.le_trans u1 (by decide)
  ·show b.2.2.2.2.2.2.2.2.2.2.2.2.1.2.2<=1999
   rw[g12];show a.2.2.2.2.2.2.2.2.2.2.2.2.1.2.2<=1999;rw[u12];exact h
  ·show b.2.2.2.2.2.2.2.2.2.2.2.2.1.2.2<=b.2.2.2.2.2.2.2.2.2.2.2.2.2.2.2.2.2.2.2.2.2.2.2.1
   rw[g12,g23];show a.2.2.2.2.2.2.2.2.2.2.2.2.1.2.2<=a.2.2.2.2.2.2.2.2.2.2.2.2.2.2.2.2.2.2.2.2.2.2.1;rw[u12,u22];exact k
  rw[zf]
  refine⟨λa1 ha=> ?_,λa1 ha=> ?_⟩
  ·rw[av];rw[ha] at hy
   obtain⟨q5,q6,q7,q8,q9,q10,Rv,q4,qt⟩:=hy
   exact⟨(by rw[q5];show BR _ _ b.2.2.2.2.2.1;rw[g5];exact u5),(by rw[q6];show BR _ _ b.2.2.2.2.2.2.1;rw[g6];exact u6),(by rw[q7];show BR _ _ b.2.2.2.2.2.2.2.1;rw[g7];exact u7),(by rw[q8];show BR _ _ b.2.2.2.2.2.2.2.2.1;rw[g8];exact u8),(by rw[q9];show BR _ _ b.2.2.2.2.2.2.2.2.2.1;rw[g9];exact u9),(by rw[q10];show BR _ _ b.2.2.2.2.2.2.2.2.2.2.1;rw[g10];exact u10),Rv.trans (g12.trans u12),q4.trans ((congrArg (λz=>z.2.2.2.2.1) g1).trans u4),qt.trans ((congrArg (λz=>z.2.2.2.2.2.2.2.2.2.2.2.2.2.1) g1).trans ut)⟩
  ·rw[av];rw[ha] at hy
   obtain⟨q5,q6,q7,q8,q9,q10,Rv,q4,qt⟩:=hy
   exact⟨(by rw[q5];show BR _ _ b.2.2.2.2.2.1;rw[g5];exact u5),(by rw[q6];show BR _ _ b.2.2.2.2.2.2.1;rw[g6];exact u6),(by rw[q7];show BR _ _ b.2.2.2.2.2.2.2.1;rw[g7];exact u7),(by rw[q8];show BR _ _ b.2.2.2.2.2.2.2.2.1;rw[g8];exact u8),(by rw[q9];show BR _ _ b.2.2.2.2.2.2.2.2.2.1;rw[g9];exact u9),(by rw[q10];show BR _ _ b.2.2.2.2.2.2.2.2.2.2.1;rw[g10];exact u10),Rv.trans (g12.trans u12),q4.trans ((congrArg (λz=>z.2.2.2.2.1) g1).trans u4),qt.trans ((congrArg (λz=>z.2.2.2.2.2.2.2.2.2.2.2.2.2.1) g1).trans ut)⟩
 ·simp only[aC]
  with_reducible refine aA (aNy _ ?_ ?_ ?_) λy _ hy=> ?_
  ·show b.2.1.2.2.2.2.2.2.2.2.2.2.2.2.2.2.2.2<=1800
   rw[g1];exact Nat.le_trans u1 (by decide)
  ·show b.2.2.2.2.2.2.2.2.2.2.2.2.1.2.2<=1999
   rw[g12];show a.2.2.2.2.2.2.2.2.2.2.2.2.1.2.2<=1999;rw[u12];exact h
  ·show b.2.2.2.2.2.2.2.2.2.2.2.2.1.2.2<=b.2.2.2.2.2.2.2.2.2.2.2.2.2.2.2.2.2.2.2.2.2.2.2.1
   rw[g12,g23];show a.2.2.2.2.2.2.2.2.2.2.2.2.1.2.2<=a.2.2.2.2.2.2.2.2.2.2.2.2.2.2.2.2.2.2.2.2.2.2.1;rw[u12,u22];exact k
  rw[zf]
  refine⟨λa1 ha=> ?_,λa1 ha=> ?_⟩
  ·rw[av];rw[ha] at hy
   obtain⟨q5,q6,q7,q8,q9,q10,Rv,q4,qt⟩:=hy
   exact⟨(by rw[q5];show BR _ _ b.2.2.2.2.2.1;rw[g5];exact u5),(by rw[q6];show BR _ _ b.2.2.2.2.2.2.1;rw[g6];exact u6),(by rw[q7];show BR _ _ b.2.2.2.2.2.2.2.1;rw[g7];exact u7),(by rw[q8];show BR _ _ b.2.2.2.2.2.2.2.2.1;rw[g8];exact u8),(by rw[q9];show BR _ _ b.2.2.2.2.2.2.2.2.2.1;rw[g9];exact u9),(by rw[q10];show BR _ _ b.2.2.2.2.2.2.2.2.2.2.1;rw[g10];exact u10),Rv.trans (g12.trans u12),q4.trans ((congrArg (λz=>z.2.2.2.2.1) g1).trans u4),qt.trans ((congrArg (λz=>z.2.2.2.2.2.2.2.2.2.2.2.2.2.1) g1).trans ut)⟩
  ·rw[av];rw[ha] at hy
   obtain⟨q5,q6,q7,q8,q9,q10,Rv,q4,qt⟩:=hy
   exact⟨(by rw[q5];show BR _ _ b.2.2.2.2.2.1;rw[g5];exact u5),(by rw[q6];show BR _ _ b.2.2.2.2.2.2.1;rw[g6];exact u6),(by rw[q7];show BR _ _ b.2.2.2.2.2.2.2.1;rw[g7];exact u7),(by rw[q8];show BR _ _ b.2.2.2.2.2.2.2.2.1;rw[g8];exact u8),(by rw[q9];show BR _ _ b.2.2.2.2.2.2.2.2.2.1;rw[g9];exact u9),(by rw[q10];show BR _ _ b.2.2.2.2.2.2.2.2.2.2.1;rw[g10];exact u10),Rv.trans (g12.trans u12),q4.trans ((congrArg (λz=>z.2.2.2.2.1) g1).trans u4),qt.trans ((congrArg (λz=>z.2.2.2.2.2.2.2.2.2.2.2.2.2.1) g1).trans ut)⟩
theorem aSS (N:Nat)(h1:1<=N)(hN:N<=1999)(x:oX.B)(hs:x.2.2.2.2.2.2.2.2.2.2.2.2.1.1<=(N:Int))(hl:x.2.2.2.2.2.2.2.2.2.2.2.2.1.2.2<=N)(hq:x.2.1.2.2.2.2.1<=1999)(l5:x.2.2.2.2.2.1.2.2.1<=64)(l6:x.2.2.2.2.2.2.1.2.2.1<=64)(l7:x.2.2.2.2.2.2.2.1.2.2.1<=64)(l8:x.2.2.2.2.2.2.2.2.1.2.2.1<=64)(l9:x.2.2.2.2.2.2.2.2.2.1.2.2.1<=64)(l10:x.2.2.2.2.2.2.2.2.2.2.1.2.2.1<=64):Ok (uo x) (λr:um=>BR x.1.1 x.2.2.2.2.2.1 r.1.2.1∧BR x.1.1 x.2.2.2.2.2.2.1 r.1.2.2.1∧BR x.1.1 x.2.2.2.2.2.2.2.1 r.1.2.2.2.1∧BR x.1.1 x.2.2.2.2.2.2.2.2.1 r.1.2.2.2.2.1∧BR x.1.1 x.2.2.2.2.2.2.2.2.2.1 r.1.2.2.2.2.2.1∧BR x.1.1 x.2.2.2.2.2.2.2.2.2.2.1 r.1.2.2.2.2.2.2.1∧r.1.2.2.2.2.2.2.2.2.1=x.2.2.2.2.2.2.2.2.2.2.2.2.1.1∧r.1.2.2.2.2.2.2.2.2.2.2<=N∧r.1.1.2.2.2.2.1=x.2.1.2.2.2.2.1∧r.1.1.2.2.2.2.2.2.2.2.2.2.2.2.2.1=x.1.1):=by
 unfold uo Az
 try dsimp only
 show PQ _ _
 simp only[aR]
 rw[aL]
 refine⟨λ_=> ?_,λ_=> ?_⟩
 ·simp only[aC]
  with_reducible refine aA (aOJ N h1 hN _ ?_ ?_) λe _ he=> ?_
  ·exact hs
  ·exact hq
  rw[rI]
  refine⟨λb hb=> ?_,λb hb=> ?_⟩
  ·rw[hb] at he
   obtain⟨e1,e2,e4,et⟩:=he
   have e1:b.2=x.2.2.2.2.2.2.2.2.2.2.2.2.1:=e1
   simp only[aC]
   with_reducible refine aA (aHu _ ?_ ?_ ?_ ?_ ?_ ?_ ?_ ?_ ?_) λy _ hy=> ?_
   ·exact e2
   ·exact l5
   ·exact l6
   ·exact l7
   ·exact l8
   ·exact l9
   ·exact l10
   ·show b.2.2.2<=1999
    rw[e1];omega
   ·show b.2.2.2<=x.2.2.2.2.2.2.2.2.2.2.2.2.1.2.2
    rw[e1];exact Nat.le_refl _
   rw[zf]
   refine⟨λa ha=> ?_,λa ha=> ?_⟩
   ·rw[ha] at hy
    obtain⟨s5,s6,s7,s8,s9,Xb,Rv,q4,qt⟩:=hy
    rw[av]
    exact⟨s5,s6,s7,s8,s9,Xb,(by show a.2.2.2.2.2.2.2.2.2.2.2.2.1.1=x.2.2.2.2.2.2.2.2.2.2.2.2.1.1;rw[Rv];show b.2.1=_;rw[e1]),(by show a.2.2.2.2.2.2.2.2.2.2.2.2.1.2.2<=N;rw[Rv];show b.2.2.2<=N;rw[e1];exact hl),q4.trans e4,qt.trans et⟩
   ·rw[ha] at hy
    obtain⟨s5,s6,s7,s8,s9,Xb,Rv,q4,qt⟩:=hy
    rw[av]
    exact⟨s5,s6,s7,s8,s9,Xb,(by show a.2.2.2.2.2.2.2.2.2.2.2.2.1.1=x.2.2.2.2.2.2.2.2.2.2.2.2.1.1;rw[Rv];show b.2.1=_;rw[e1]),(by show a.2.2.2.2.2.2.2.2.2.2.2.2.1.2.2<=N;rw[Rv];show b.2.2.2<=N;rw[e1];exact hl),q4.trans e4,qt.trans et⟩
  ·rw[hb] at he
   obtain⟨e1,e2,e3,e4,e5,et⟩:=he
   have e2:b.1.2.1=x.2.2.2.2.2.2.2.2.2.2.2.2.1.1:=e2
   simp only[aC]
   with_reducible refine aA (aHu _ ?_ ?_ ?_ ?_ ?_ ?_ ?_ ?_ ?_) λy _ hy=> ?_
   ·exact e4
   ·exact l5
   ·exact l6
   ·exact l7
   ·exact l8
   ·exact l9
   ·exact l10
   ·show b.1.2.2.2<=1999
    omega
   ·exact e3
   rw[zf]
   refine⟨λa ha=> ?_,λa ha=> ?_⟩
   ·rw[ha] at hy
    obtain⟨s5,s6,s7,s8,s9,Xb,Rv,q4,qt⟩:=hy
    rw[av]
    exact⟨s5,s6,s7,s8,s9,Xb,(by show a.2.2.2.2.2.2.2.2.2.2.2.2.1.1=x.2.2.2.2.2.2.2.2.2.2.2.2.1.1;rw[Rv];exact e2),(by show a.2.2.2.2.2.2.2.2.2.2.2.2.1.2.2<=N;rw[Rv];exact e1),q4.trans e5,qt.trans et⟩
   ·rw[ha] at hy
    obtain⟨s5,s6,s7,s8,s9,Xb,Rv,q4,qt⟩:=hy
    rw[av]
    exact⟨s5,s6,s7,s8,s9,Xb,(by show a.2.2.2.2.2.2.2.2.2.2.2.2.1.1=x.2.2.2.2.2.2.2.2.2.2.2.2.1.1;rw[Rv];exact e2),(by show a.2.2.2.2.2.2.2.2.2.2.2.2.1.2.2<=N;rw[Rv];exact e1),q4.trans e5,qt.trans et⟩
 ·rw[bx]
  intro _ _
  rw[bx]
  intro _ _
  simp only[aC]
  with_reducible refine aA (aHu _ ?_ ?_ ?_ ?_ ?_ ?_ ?_ ?_ ?_) λy _ hy=> ?_
  ·rfl
  ·exact l5
  ·exact l6
  ·exact l7
  ·exact l8
  ·exact l9
  ·exact l10
  ·show x.2.2.2.2.2.2.2.2.2.2.2.2.1.2.2<=1999
   omega
  ·exact Nat.le_refl _
  rw[zf]
  refine⟨λa ha=> ?_,λa ha=> ?_⟩
  ·rw[ha] at hy
   obtain⟨s5,s6,s7,s8,s9,Xb,Rv,q4,qt⟩:=hy
   rw[av]
   exact⟨s5,s6,s7,s8,s9,Xb,(by show a.2.2.2.2.2.2.2.2.2.2.2.2.1.1=x.2.2.2.2.2.2.2.2.2.2.2.2.1.1;rw[Rv];done),(by show a.2.2.2.2.2.2.2.2.2.2.2.2.1.2.2<=N;rw[Rv];exact hl),q4.trans rfl,qt.trans rfl⟩
  ·rw[ha] at hy
   obtain⟨s5,s6,s7,s8,s9,Xb,Rv,q4,qt⟩:=hy
   rw[av]
   exact⟨s5,s6,s7,s8,s9,Xb,(by show a.2.2.2.2.2.2.2.2.2.2.2.2.1.1=x.2.2.2.2.2.2.2.2.2.2.2.2.1.1;rw[Rv];done),(by show a.2.2.2.2.2.2.2.2.2.2.2.2.1.2.2<=N;rw[Rv];exact hl),q4.trans rfl,qt.trans rfl⟩
end Go.Proofs.YtldgljclcgaibaaGreat
namespace Go.Proofs.YtldgljclcgaibaaGreat
open Go.Ab Go.Ab.Pg
theorem aJW (w:Int×Int×(Int×Int×Int)×Int×Int×Int)(d:fR.B)(hd:0<=d.1∧d.1<=3∧d.2.1=w.1):Ok (He d) (λx:oc=>match x with|.inl _=>True|.inr e=>e.2.1=w.1):=
 bd (s:=_) (λd:fR.B=>0<=d.1∧d.1<=3∧d.2.1=w.1) (λd:fR.B=>Int.toNat (3-d.1)) (λx:oc=>match x with|.inl _=>True|.inr e=>e.2.1=w.1) (λd hd=>by
  have hw:wI (d.1+1)=d.1+1:=bf (by omega) (by omega)
  unfold Hc
  simp only[bB]
  simp only[nf,Bool.not_eq_true',sO,hw]
  repeat' (first|exact True.intro|exact hd.2.2|omega|(intro _)|(apply And.intro))) 2000 d hd (by omega)
theorem aOO (x0:Int)(x1:Int)(x2:Int)(x3:Int)(x4:Int)(x5:Int)(x6:Int)(x7:Int):Ok (wV x0 x1 x2 x3 x4 x5 x6 x7) (λr=>r=true->0<=x0):=by
 unfold wV N3
 show PQ _ _
 refine aA (aJW (x0,x1,(x2,x3,x4),x5,x6,x7) _ ⟨Int.le_refl 0,(show(0:Int)<=3 by decide),rfl⟩) λd _ hd=> ?_
 rw[zf]
 refine⟨λa _=>by rw[av];intro h;exact absurd h (by decide),λa ha=> ?_⟩
 rw[ha] at hd
 have hd:a.2.1=x0:=hd
 rw[aL]
 refine⟨λ_=> ?_,λ_=>by rw[av];intro h;exact absurd h (by decide)⟩
 rw[aL]
 refine⟨λ_=> ?_,λ_=>by rw[av];intro h;exact absurd h (by decide)⟩
 rw[aL]
 refine⟨λc=> ?_,λ_=>by rw[av];intro h;exact absurd h (by decide)⟩
 rw[av]
 have c:=of_decide_eq_true c
 intro _
 omega
theorem aE8 (x:Bz.B):Ok (wW x) (λr=>r.1.1=x.1.2.1):=by
 unfold wW N5
 try dsimp only
 show PQ _ _
 rw[bx]
 intro _ _
 rw[bx]
 intro _ _
 rw[av]
theorem aST (x:mJ.B)(h:x.2.1.2.2=false->x.2.1.2.1.1<=0):Ok (bH x) (λr=>(r.2.1.2.2=false->r.2.1.2.1.1<=0)∧x.2.1.2.1.1<=r.2.1.2.1.1∧(r.1.2.1=true->r.1.1.1=r.2.1.2.1.1)):=by
 unfold bH vX
 try dsimp only
 show PQ _ _
 refine aA (aOO _ _ _ _ _ _ _ _) λd _ hd=> ?_
 rw[aL]
 refine⟨λ_=>by rw[av];exact⟨h,Int.le_refl _,(λh=>nomatch h)⟩,λc=> ?_⟩
 have c:d=true:=by cases d<;>first|rfl|cases c
 have hx:0<=x.1.1:=hd c
 rw[aL]
 refine⟨λ_=> ?_,λca=> ?_⟩
 ·rw[aL]
  refine⟨λ_=>by rw[av];exact⟨h,Int.le_refl _,(λh=>nomatch h)⟩,λcb=> ?_⟩
  have cb:=of_decide_eq_false cb
  refine aA (aE8 _) λe _ he=> ?_
  have he:e.1.1=x.1.1:=he
  rw[aL]
  refine⟨λ_=> ?_,λ_=> ?_⟩
  ·rw[av]
   exact⟨(λh=>nomatch h),by show x.2.1.2.1.1<=e.1.1;omega,(λh=>nomatch h)⟩
  ·rw[av]
   exact⟨(λh=>nomatch h),by show x.2.1.2.1.1<=x.1.1;omega,λ_=>he⟩
 ·have h:=h ca
  refine aA (aE8 _) λe _ he=> ?_
  have he:e.1.1=x.1.1:=he
  rw[aL]
  refine⟨λ_=> ?_,λ_=> ?_⟩
  ·rw[av]
   exact⟨(λh=>nomatch h),by show x.2.1.2.1.1<=e.1.1;omega,(λh=>nomatch h)⟩
  ·rw[av]
   exact⟨(λh=>nomatch h),by show x.2.1.2.1.1<=x.1.1;omega,λ_=>he⟩
def Qd (T S:Int)(n:Nat)(r:Nat->Int):Prop:=T<=S∧∀i k,i<=k->k<n->T<=r i∧r i<=r k∧r k<=S
theorem Qd.pop {T S:Int}{n:Nat}{r q:Nat->Int}(h:Qd T S n r)(hn:1<=n)(e:∀i,q i=r (i+1)):T<=r 0∧Qd (r 0) S (n-1) q:=by
 have a:=h.2 0 0 (Nat.le_refl _) (by omega)
 refine⟨a.1,Int.le_trans a.2.1 a.2.2,λi k p l=> ?_⟩
 have b:=h.2 (i+1) (k+1) (by omega) (by omega)
 have c:=h.2 0 (i+1) (by omega) (by omega)
 rw[e,e]
 exact⟨c.2.1,b.2⟩
theorem Qd.push {T S j:Int}{n:Nat}{r q:Nat->Int}(h:Qd T S n r)(l:S<=j)(e:∀i,i<n->q i=r i)(en:q n=j):Qd T j (n+1) q:=by
 refine⟨Int.le_trans h.1 l,λi k p l2=> ?_⟩
 have hT:=h.1
 by_cases hk:k<n
 ·rw[e i (by omega),e k hk]
  have a:=h.2 i k p hk
  exact⟨a.1,a.2.1,Int.le_trans a.2.2 l⟩
 ·have hk:k=n:=by omega
  subst hk
  rw[en]
  by_cases hi:i<k
  ·rw[e i hi]
   have a:=h.2 i i (Nat.le_refl _) hi
   exact⟨a.1,Int.le_trans a.2.2 l,Int.le_refl _⟩
  ·have hi:i=k:=by omega
   subst hi
   rw[en]
   exact⟨Int.le_trans hT l,Int.le_refl _,Int.le_refl _⟩
theorem Qd.up {T S j:Int}{n:Nat}{r q:Nat->Int}(h:Qd T S n r)(l:S<=j)(e:∀i,q i=r i):Qd T j n q:=
 ⟨Int.le_trans h.1 l,λi k p l2=>by rw[e,e];have a:=h.2 i k p l2;exact⟨a.1,a.2.1,Int.le_trans a.2.2 l⟩⟩
end Go.Proofs.YtldgljclcgaibaaGreat
noncomputable section
namespace Go.Proofs.YtldgljclcgaibaaGreat
open Go.Ab Go.Ab.Pg Go.Ab.Rq
def gr:=qa (pr (cu eZ YS) (cd oH λb0=>(c kF (c lG (c (cl (gs b0.c.1 lF) nil) (cd pK λb4=>(cd m8 λb5=>(cd m9 λb6=>(cd na λb7=>(cd nc λb8=>(cd nd λb9=>(c lk (cd qU λsi=>(c (cl (gs b0.e jP) nil) (c (cl (gs b4.b.1 ay) nil) (c (cl (gs b5.b.1 ay) nil) (c (cl (gs b6.b.1 ay) nil) (c (cl (gs b7.b.1 ay) nil) (c (cl (gs b8.b.1 ay) nil) (c (cl (gs b9.b.1 ay) nil) (cl (cl (gs si.b gA) nil) nil)))))))))))))))))))))
def aqL:=qe (res (pr aKz (pr (cl (AF aRk) aQU) aRo)))
abbrev jO:=((Int×Int)×(PS×Bool×NI×(NI×NI)×(Nat×Nat)×LL×Bool×Int×qB×Bool×Bool×Bool×Int×Int×Int×LJ×Nat)×(qB×Int×Int)×Ty5×Ty7×dh×dh×dh×dh×dh×dh×(PU×Int)×BY×LK×dt×dt×dt×dt×dt×dt×Nat×NI×NI×NI×NI×NI×NI×NI×NI×NI×NI×NI)
def YH:jO->T:=λd=>lf aqL (d.1,d.2.1,d.b.1,d.b.2.1,d.c.1,d.c.2.1,d.c.b.1,d.c.b.2.1,d.d.1,d.d.2.1,d.d.b.1,d.d.b.2.1,d.d.c.1,d.d.c.2.1,(d.c.2.1.b.1,d.d.c.b.1),(d.c.b.1.b.1,d.d.c.b.2.1),(d.c.b.2.1.b.1,d.e.1),(d.d.1.b.1,d.e.2.1),(d.d.2.1.b.1,d.e.b.1),(d.d.b.1.b.1,d.e.b.2.1),d.e.c)
abbrev wq:=gr.B->Option jO
def K8 (g:wq):Ct:=(27,FC gr YH g)
def dy:=qs (st (pr (cu eZ (us 5 (cu Xg (us 2 (cl ai (us 92 nil)))))) (pl (c aLo (c rF (c rG (cu nO (cd Hr λb4=>(cd Ht λb5=>(cd Hu λb6=>(cd CB λb7=>(cd CC λb8=>(cd Ti λb9=>(c pJ (c ac4 (cu nO (cu nO (cu nO (cu nO (cu nO (cu nO (cu nO (cu nO (c CA (c uD (c pL (c (so (cl (gs b4.b.1 ay) nil)) (c (so (cl (gs b5.b.1 ay) nil)) (c (so (cl (gs b6.b.1 ay) nil)) (c (so (cl (gs b7.b.1 ay) nil)) (c (so (cl (gs b8.b.1 ay) nil)) (c (so (cl (gs b9.b.1 ay) nil)) Hq))))))))))))))))))))))))))))) aAc)))
def afu:=qs (st (pr (cu eZ (us 5 (cu Xg (us 2 (c ai (us 48 (cu eZ (cu eZ (cu aKH (c (ac aFH) (c ai (c ab (cu apg (cu eZ (cu eZ (cu aKH (c (ac aFH) (c (ac (Ol (pu aD7 (pl apl Oh)))) (c (ac (Ol (pu aD7 (pl apl Cw)))) (c ai (cu (app 20 1) (c ai (cu eZ (cu eZ (cu aHN (cu aP9 (c ai (c ai (c ab (cl ab aMC)))))))))))))))))))))))))))))) (pl (c aLo (c rF (c rG (cu nO (c Hr (c Ht (c Hu (c CB (c CC (c Ti (c pJ (c ac4 (cu nO (cu nO (cu nO (cu nO (cu nO (cu nO (cu nO (cu nO (c CA (c uD ac5)))))))))))))))))))))) aAc)))
def afv:=qs (st (pr (cu eZ (us 5 (cu Xg (us 2 (c ai (us 48 (cu eZ (cu eZ (cu aKH (c (ac aFH) (c ai (cl ab (cu Cy (xs 16 (cu Cy aMC))))))))))))))) (pl (c aLo (c rF (c rG (cu nO (c Hr (c Ht (c Hu (c CB (c CC (c Ti (c pJ (c ac4 (cu nO (cu nO (cu nO (cu nO (cu nO (cu nO (cu nO (cu nO (c CA (c uD ac5)))))))))))))))))))))) aAc)))
abbrev gY:=((Int×(Nat×Nat)×Int×Bool×Nat×Int×Int×Int×Int×Bool)×((Int×Int×Int×(Int×Int×Int×Int×Int×Int)×(Int×Int×Int×Int×Int×Int)×NI×NI×Int×Int×Int×Int×Int×Int×Int×Int)×Bool×NI×(NI×NI)×LL×Bool×Int×qB×Bool×Bool×Bool×Int×Int×Int×LJ×Nat)×(qB×Int×Int)×Ty5×dh×dh×dh×dh×dh×dh×(PU×Int)×BY×aMB×Ty7×LK×dt×dt×dt×dt×dt×dt×Nat×NI×NI×NI×NI×NI×NI×NI×NI×NI×NI×NI)⊕((Int×(Nat×Nat)×Int×Bool)×(PS×Bool×NI×(NI×NI)×LL×Bool×Int×qB×Bool×Bool×Bool×Int×Int×Int×LJ×Nat)×(qB×Int×Int)×Ty5×dh×dh×dh×dh×dh×dh×(PU×Int)×BY×azU×Ty7×LK×dt×dt×dt×dt×dt×dt×Nat×NI×NI×NI×NI×NI×NI×NI×NI×NI×NI×NI)
def Sa {ρ:Type}(x:gY)(K:AX->St->Option ρ):Option ρ:=(Sum.elim (λd=>K (.ex 0) (afu.em ((d.1.1,d.1.2.1,d.1.b.1,d.1.b.2.1,d.1.2.1,d.1.c.1,d.1.c.1,d.1.c.2.1,d.1.c.b.1,d.1.c.b.2.1,d.1.d.1,d.1.d.2,d.1.d.2),((d.2.1.1.1,d.1.c.b.2.1,d.2.1.1.2),d.2.1.2.1,d.2.1.b.1,d.2.1.b.2.1,d.1.2.1,d.2.1.c),d.b.1,d.b.2.1,d.c.1,d.c.2.1,d.c.b.1,d.c.b.2.1,d.d.1,d.d.2.1,d.d.b.1,d.d.b.2.1,(d.1.c.b.1,d.d.c.1),d.d.c.2.1,d.d.c.b.1,(d.c.1.b.1,d.d.c.b.2.1),(d.c.2.1.b.1,d.e.1),(d.c.b.1.b.1,d.e.2.1),(d.c.b.2.1.b.1,d.e.b.1),(d.d.1.b.1,d.e.b.2.1),(d.d.2.1.b.1,d.e.c.1),d.e.c.2))) (λd=>K (.ex 0) (afv.em (d.1,(d.2.1.1,d.2.1.2.1,d.2.1.b.1,d.2.1.b.2.1,d.1.2.1,d.2.1.c),d.b.1,d.b.2.1,d.c.1,d.c.2.1,d.c.b.1,d.c.b.2.1,d.d.1,d.d.2.1,d.d.b.1,d.d.b.2.1,d.d.c.1,d.d.c.2.1,d.d.c.b.1,(d.c.1.b.1,d.d.c.b.2.1),(d.c.2.1.b.1,d.e.1),(d.c.b.1.b.1,d.e.2.1),(d.c.b.2.1.b.1,d.e.b.1),(d.d.1.b.1,d.e.b.2.1),(d.d.2.1.b.1,d.e.c.1),d.e.c.2)))) x
def rB (aqM:Ih)(d:dy.B):PL dy gY:=let n9:=d.2.2;let n17:=n9.2.2.1;let n8:=d.2.1;let n4:=n8.2.2.2;let bL:=n4.2.2.2.2.2.2.2.2.2.2.2.2.2;let bu:=n4.2.1;let n2:=n9.2.2.2;let n18:=n2.2.2.1;let n6:=n2.2.2.2;let n1:=n6.2.2.2;let n5:=n1.2.2;let bq:=n5.2.2.2.2;let bc:=n5.1.2;let n15:=bc.2.2.2;let n3:=bq.2.2.2.2.2;let n7:=n3.2.2.2.2.2;let y0:=Int.ofNat bu.2;let y1:=aW 0 bu.2;let y2:=bu.1+0;let y3:=bu.2-1;let y4:=bu.1+1;let y5:=decide (y0>0);let y6:=wI (n1.2.1.1-n8.1.2.1);let y7:=decide (bc.1 y2<=y6);ae y5 (ae y1 (ae y7 (ae y1 (ae (Ir 1 bu.2) (ae (Nat.beq y3 y3) (ae (Nat.beq bL bL) (ae (Nat.beq n17.2.2.1 n17.2.2.1) (ae (Nat.beq n2.1.2.2.1 n2.1.2.2.1) (ae (Nat.beq n2.2.1.2.2.1 n2.2.1.2.2.1) (ae (Nat.beq n18.2.2.1 n18.2.2.1) (ae (Nat.beq n6.1.2.2.1 n6.1.2.2.1) (ae (Nat.beq n6.2.1.2.2.1 n6.2.1.2.2.1) (ae (Nat.beq n1.1.2.2 n1.1.2.2) (opt (aqM ((bc.1 y2,bc.2.1 y2,(bc.2.2.1 y2,n15.1 y2,n15.2.1 y2),n15.2.2.1 y2,n15.2.2.2.1 y2,n15.2.2.2.2 y2),(n8.1,n8.2.1,n8.2.2.1,n4.1,y3,n4.2.2),n9.1,n9.2.1,(sh8 y4 bc),n17,n2.1,n2.2.1,n18,n6.1,n6.2.1,n6.2.2.1,n1.1,(afF 0 n5.2.1.2),(lB 0 n5.2.2.1),(lB 0 n5.2.2.2.1),(lB 0 bq.1),(lB 0 bq.2.1),(lB 0 bq.2.2.1),(lB 0 bq.2.2.2.1),λj=>n3.1 (0+j),λj=>n3.2.1 (0+j),λj=>n3.2.2.1 (0+j),λj=>n3.2.2.2.1 (0+j),λj=>n3.2.2.2.2.1 (0+j),λj=>n7.1 (0+j),λj=>n7.2.1 (0+j),λj=>n7.2.2.1 (0+j),λj=>n7.2.2.2.1 (0+j),λj=>n7.2.2.2.2.1 (0+j),λj=>n7.2.2.2.2.2 (0+j))) λaj=>let n16:=aj.1.1.2;let bg:=aj.1.2.2.2;ret (Sum.inl (wI (d.1+1),(aj.1.1.1,n16.1,n16.2.1,n16.2.2.1,(y4+0,n16.2.2.2.1),n16.2.2.2.2),n9.1,n9.2.1,aj.1.2.1,aj.1.2.2.1,bg.1,bg.2.1,bg.2.2.1,bg.2.2.2.1,bg.2.2.2.2.1,bg.2.2.2.2.2,n1.2.1,n5.1,aj.2))) no) no) no) no) no) no) no) no) no) no) no) (ret (Sum.inr (Sum.inl ((d.1,bu,y0,y5,y2,bc.1 y2,n1.2.1.1,n8.1.2.1,y6,y7),((n8.1.1,n8.1.2.2),n8.2.1,n8.2.2.1,n4.1,n4.2.2),n9.1,n9.2.1,n17,n2.1,n2.2.1,n18,n6.1,n6.2.1,n6.2.2.1,n1.1,n1.2.1.2,n5))))) no) (ret (Sum.inr (Sum.inr ((d.1,bu,y0,y5),(n8.1,n8.2.1,n8.2.2.1,n4.1,n4.2.2),n9))))
def xD:=bA (rB uo) 2000
def gu:=qs (st (pu (cu eZ (us 5 (cu Xg (us 95 nil)))) (pl (cd (so (a 26 xG (c gb (c jV (a 2 zd (cu afH (cu afI (c (gc (je (pu aD7 (pu (ox (pu eP (pu eP Oh))) (pl kZ (pu Oh ju)))))) aLk)))))))) λb0=>(c rF (c rG (cu nO (cd Hr λb4=>(cd Ht λb5=>(cd Hu λb6=>(cd CB λb7=>(cd CC λb8=>(cd Ti λb9=>(c pJ (c ac4 (cu nO (cu nO (cu nO (cu nO (cu nO (cu nO (cu nO (cu nO (c CA (c (so (cl (gs b0.c.1 lF) nil)) (c (so (cl (gs b0.e jP) nil)) (c (so (cl (gs b4.b.1 ay) nil)) (c (so (cl (gs b5.b.1 ay) nil)) (c (so (cl (gs b6.b.1 ay) nil)) (c (so (cl (gs b7.b.1 ay) nil)) (c (so (cl (gs b8.b.1 ay) nil)) (c (so (cl (gs b9.b.1 ay) nil)) Hq))))))))))))))))))))))))))))) aAc)))
def amN:=qs (st (pr (us 4 (cl ai (cu aFt (us 96 nil)))) (pl (c (so aRk) (cu nO (cu nO (cu nO (cu nO (cu nO (cu nO (cu nO (cu nO (cu nO (cu nO (cu nO (cu nO (cu nO (cu nO (cu nO (cu nO (cu nO (cu nO (cu nO (c rF (c rG (c uD (c (so aQZ) (c (so aFL) (c (so aFM) (c (so aFN) (c (so aFO) (c (so aFP) (c pJ (c (so aQN) ac5))))))))))))))))))))))))))))))) (cu Cw aAc))))
abbrev jo:=(Int×(PS×Bool×NI×(NI×NI)×(Nat×Nat)×LL×Bool×Int×qB×Bool×Bool×Bool×Int×Int×Int×LJ×Nat)×(qB×Int×Int)×Ty5×Ty7×dh×dh×dh×dh×dh×dh×(PU×Int)×BY×LK×dt×dt×dt×dt×dt×dt×Nat×NI×NI×NI×NI×NI×NI×NI×NI×NI×NI×NI)
def Sb {ρ:Type}(x:jo)(K:AX->St->Option ρ):Option ρ:=(λd=>K .ret (amN.em (d.1,d.2.1,d.b.1,d.b.2.1,d.c.1,d.c.2.1,d.c.b.1,d.c.b.2.1,d.d.1,d.d.2.1,d.d.b.1,d.d.b.2.1,d.d.c.1,d.d.c.2.1,(d.c.2.1.b.1,d.d.c.b.1),(d.c.b.1.b.1,d.d.c.b.2.1),(d.c.b.2.1.b.1,d.e.1),(d.d.1.b.1,d.e.2.1),(d.d.2.1.b.1,d.e.b.1),(d.d.b.1.b.1,d.e.b.2.1),d.e.c))) x
def rC (dI:LT dy gY)(d:gu.B):Pg jo:=let n7:=d.2.2.2;let n3:=d.1.2.2.2.2;let n2:=n7.2.2;let n8:=n2.2.2;let n1:=n8.2.2.2.2;let n9:=n1.1.2.2.2;let n6:=n1.2.1.2.2;let y0:=n3.1+1;ae (Nat.ble (y0*64) 140737488355328) (ae (Nat.beq n7.1.2.2.1 n7.1.2.2.1) (ae (Nat.beq n7.2.1.2.2.1 n7.2.1.2.2.1) (ae (Nat.beq n2.1.2.2.1 n2.1.2.2.1) (ae (Nat.beq n2.2.1.2.2.1 n2.2.1.2.2.1) (ae (Nat.beq n8.1.2.2.1 n8.1.2.2.1) (ae (Nat.beq n8.2.1.2.2.1 n8.2.1.2.2.1) (opt (dI (0,(d.1.1,d.1.2.1,d.1.2.2.1,d.1.2.2.2.1,(0,y0),n3.2),d.2.1,d.2.2.1,n7.1,n7.2.1,n2.1,n2.2.1,n8.1,n8.2.1,n8.2.2.1,n8.2.2.2.1,n1.1,(y0,λj=>bif Nat.beq j n3.1 then n1.1.1 else n1.2.1.1 (0+j),λj=>bif Nat.beq j n3.1 then n1.1.2.1 else n1.2.1.2.1 (0+j),λj=>bif Nat.beq j n3.1 then n1.1.2.2.1 else n6.1 (0+j),λj=>bif Nat.beq j n3.1 then n9.1 else n6.2.1 (0+j),λj=>bif Nat.beq j n3.1 then n9.2.1 else n6.2.2.1 (0+j),λj=>bif Nat.beq j n3.1 then n9.2.2.1 else n6.2.2.2.1 (0+j),λj=>bif Nat.beq j n3.1 then n9.2.2.2.1 else n6.2.2.2.2.1 (0+j),λj=>bif Nat.beq j n3.1 then n9.2.2.2.2 else n6.2.2.2.2.2 (0+j)),(n3.2.2.2.2.2.2.2.2.2.2.2.2,n1.2.2.1),n1.2.2.2)) λx=>sum x (λd=>let bu:=d.2.2.2;let bq:=d.2.1;let n4:=bu.2.2.2;let bc:=n4.2.2.2;ret (d.1.1,((bq.1.1,d.1.2.2.2.2.2.2.2.1,bq.1.2),bq.2.1,bq.2.2.1,bq.2.2.2.1,d.1.2.1,bq.2.2.2.2),d.2.2.1,bu.1,bc.2.2.2.2.1,bu.2.1,bu.2.2.1,n4.1,n4.2.1,n4.2.2.1,bc.1,bc.2.1,bc.2.2.1,bc.2.2.2.2.2)) λd=>let n15:=d.2.1.2;let bL:=d.2.2.2;let n5:=bL.2.2.2;let bg:=n5.2.2.2;ret (d.1.1,(d.2.1.1,n15.1,n15.2.1,n15.2.2.1,d.1.2.1,n15.2.2.2),d.2.2.1,bL.1,bg.2.2.2.2.1,bL.2.1,bL.2.2.1,n5.1,n5.2.1,n5.2.2.1,bg.1,bg.2.1,bg.2.2.1,bg.2.2.2.2.2)) no) no) no) no) no) no) no
def nU (d:gu.B):Option jo:=(rC xD d).val
def Sc:Hd:=⟨6,(rg 1 5 (rg 7 95 [])),[(5,[]),(14,[]),(15,[]),(16,[]),(17,[]),(18,[]),(19,[]),(20,[]),(21,[]),(0,[])]⟩
def nL (alD:Dh)(xi:lU)(qX:LT gu jo)(x:gr.B):Pg jO:=let bL:=x.2.1;let bc:=x.2.2;let n15:=bc.2.2.1;let n5:=bL.2.2;let bg:=n5.2.2;let n9:=bg.2.2.2.2.2.2.2.2.2.2.2.2;let n4:=bc.2.2.2;let n16:=n4.2.1;let n8:=n4.2.2;let n17:=n8.2.1;let n2:=n8.2.2;let n19:=n2.2.2.1;let n18:=n2.2.1;let n6:=n2.2.2.2;let n20:=n6.2.2.1;let bu:=n6.1.2.2;let n3:=n6.2.2.2;let n22:=n3.2.1;let n21:=n3.2.2.1;let n7:=n3.2.2.2;let n25:=n7.2.2;let n24:=n7.2.1;let n1:=(n9,n6.2.1);let y0:=Nat.beq bg.1 bg.1;let y1:=Nat.beq n9 n9;let y2:=Nat.beq n4.1.2.2.1 n4.1.2.2.1;let y3:=Nat.beq n16.2.2.1 n16.2.2.1;let y4:=Nat.beq n8.1.2.2.1 n8.1.2.2.1;let y5:=Nat.beq n17.2.2.1 n17.2.2.1;let y6:=Nat.beq n2.1.2.2.1 n2.1.2.2.1;let y7:=Nat.beq n18.2.2.1 n18.2.2.1;opt (alD (x.1,bc.2.1,bL.2.1)) λd=>let n23:=d.2.1;let bq:=d.1.1;ae (d.1.2.2!=0) (ret ((0,d.1.2.2),(bL.1,d.2.2,n5.1,n5.2.1,(0,bg.1),bg.2),bc.1,n23,(bg.1,n15),n4.1,n16,n8.1,n17,n2.1,n18,n19,n6.1,n1,n20,n3.1,n22,n21,n7.1,n24,bu,n25)) (ae (!d.1.2.1) (ret ((0,d.1.2.2),(bL.1,d.2.2,n5.1,n5.2.1,(0,bg.1),bg.2),bc.1,n23,(bg.1,n15),n4.1,n16,n8.1,n17,n2.1,n18,n19,n6.1,n1,n20,n3.1,n22,n21,n7.1,n24,bu,n25)) (ae bg.2.2.1 (ae (Nat.beq bu bu) (opt (xi ((n5.1,bq.1,bq.2.1,(bq.2.2.1,bq.2.2.2.1,bq.2.2.2.2.1),bq.2.2.2.2.2),n6.1,d.2.2,n25)) λaj=>sm aj (λaI=>ae y0 (ae y1 (ae y2 (ae y3 (ae y4 (ae y5 (ae y6 (ae y7 (opt (qX ((bL.1,aI.2.2,n5),bc.1,n23,n4.1,n16,n8.1,n17,n2.1,n18,n19,aI.2.1,bq,n15,n6.2.1,n20,n3.1,n22,n21,n7.1,n24,bu,n25)) λd=>ret ((d.1,0),d.2)) no) no) no) no) no) no) no) no) (λaI=>ae y0 (ae y1 (ae y2 (ae y3 (ae y4 (ae y5 (ae y6 (ae y7 (opt (qX ((bL.1,aI.1.2,n5),bc.1,n23,n4.1,n16,n8.1,n17,n2.1,n18,n19,aI.1.1,bq,n15,n6.2.1,n20,n3.1,n22,n21,n7.1,n24,aI.2)) λd=>ret ((d.1,0),d.2)) no) no) no) no) no) no) no) no)) no) (ae y0 (ae y1 (ae y2 (ae y3 (ae y4 (ae y5 (ae y6 (ae y7 (opt (qX ((bL.1,d.2.2,n5),bc.1,n23,n4.1,n16,n8.1,n17,n2.1,n18,n19,n6.1,bq,n15,n6.2.1,n20,n3.1,n22,n21,n7.1,n24,bu,n25)) λd=>ret ((d.1,0),d.2)) no) no) no) no) no) no) no) no)))
def cS:=λx=>(nL bH eW nU x).val
abbrev wu:=Dh×lU×Ih×(LT dy gY)×(LT gu jo)
def Cq (p:wu):KK:=⟨[OY p.1,wX p.2.1,Wt p.b.1],⟨[⟨8,(rg 1 5 (7::8::rg 10 92 [])),[(5,[]),(14,[]),(15,[]),(16,[]),(17,[]),(18,[]),(19,[]),(20,[]),(21,[]),(0,[])]⟩],[fH 8 20 dy Sa p.b.2.1],(0::rg 4 6 [19,18,17,16,15,14,13,12,3,11,2,10]),[⟨Sc,fH 6 20 gu Sb p.c⟩],(some ⟨0,(rg 0 4 (rg 6 96 [])),[(3,[]),(4,[]),(5,[]),(6,[]),(7,[]),(8,[]),(9,[]),(10,[]),(11,[]),(12,[]),(13,[]),(14,[]),(15,[]),(16,[]),(17,[]),(18,[]),(19,[]),(20,[]),(21,[]),(0,[])]⟩)⟩,20,27⟩
theorem alE (p:wu):LI (Cq p) 8 dy Sa (rB p.b.1):=λ_ d c K=>by kernel_rfl
theorem alF (p:wu):JI (Cq p) 6 gu Sb (rC p.b.2.1):=λ_ d K=>by kernel_rfl
theorem atO (p:wu):D2 (Cq p) gr YH λb=>nL p.1 p.2.1 p.c b:=λb=>by kernel_rfl
abbrev Cr:wu:=(bH,eW,uo,xD,nU)
theorem YI [ax]:SC (K8 cS):=sc (kS (k:=Cq Cr) (.c akQ (.c GB (.c aqK (.nil _)))) [8] [6] ⟨kL (alE Cr),trivial⟩ ⟨kJ Sc (alF Cr),trivial⟩ (atO Cr))
end Go.Proofs.YtldgljclcgaibaaGreat
namespace Go.Proofs.YtldgljclcgaibaaGreat
open Go.Ab Go.Ab.Pg
theorem aOP (N l:Nat)(S:Int)(h1:1<=N)(hN:N<=1999)(hl:l<=1999)(w d:dy.B)(W4:w.2.2.2.2.1.2.2.1<=64)(W5:w.2.2.2.2.2.1.2.2.1<=64)(W6:w.2.2.2.2.2.2.1.2.2.1<=64)(W7:w.2.2.2.2.2.2.2.1.2.2.1<=64)(W8:w.2.2.2.2.2.2.2.2.1.2.2.1<=64)(W9:w.2.2.2.2.2.2.2.2.2.1.2.2.1<=64)(WS:w.2.2.2.2.2.2.2.2.2.2.2.1.1<=(N:Int))(hd:d.2.1.2.2.2.2.1.2<=l∧d.2.2.2.1=w.2.2.2.1∧d.2.2.2.2.2.2.2.2.2.2.2.2.2.1=w.2.2.2.2.2.2.2.2.2.2.2.2.2.1∧w.2.1.2.2.2.2.2.2.2.2.2.2.2.2.2.1<=d.2.1.2.2.2.2.2.2.2.2.2.2.2.2.2.1∧Qd d.2.1.2.2.2.2.2.2.2.2.2.2.2.2.2.1 S d.2.1.2.2.2.2.1.2 (λi=>w.2.2.2.2.2.2.2.2.2.2.2.2.2.1.2.1 (d.2.1.2.2.2.2.1.1+i))∧BR d.2.1.2.2.2.2.2.2.2.2.2.2.2.2.2.1 w.2.2.2.2.1 d.2.2.2.2.1∧BR d.2.1.2.2.2.2.2.2.2.2.2.2.2.2.2.1 w.2.2.2.2.2.1 d.2.2.2.2.2.1∧BR d.2.1.2.2.2.2.2.2.2.2.2.2.2.2.2.1 w.2.2.2.2.2.2.1 d.2.2.2.2.2.2.1∧BR d.2.1.2.2.2.2.2.2.2.2.2.2.2.2.2.1 w.2.2.2.2.2.2.2.1 d.2.2.2.2.2.2.2.1∧BR d.2.1.2.2.2.2.2.2.2.2.2.2.2.2.2.1 w.2.2.2.2.2.2.2.2.1 d.2.2.2.2.2.2.2.2.1∧BR d.2.1.2.2.2.2.2.2.2.2.2.2.2.2.2.1 w.2.2.2.2.2.2.2.2.2.1 d.2.2.2.2.2.2.2.2.2.1∧d.2.2.2.2.2.2.2.2.2.2.2.1.1=w.2.2.2.2.2.2.2.2.2.2.2.1.1∧d.2.2.2.2.2.2.2.2.2.2.2.1.2.2<=N):Ok (xD d) (λx:gY=>match x with|.inl x=>x.1.2.1.2<=l∧x.2.2.2.1=w.2.2.2.1∧x.2.2.2.2.2.2.2.2.2.2.2.2.2.1=w.2.2.2.2.2.2.2.2.2.2.2.2.2.1∧w.2.1.2.2.2.2.2.2.2.2.2.2.2.2.2.1<=x.2.1.2.2.2.2.2.2.2.2.2.2.2.2.1∧Qd x.2.1.2.2.2.2.2.2.2.2.2.2.2.2.1 S x.1.2.1.2 (λi=>w.2.2.2.2.2.2.2.2.2.2.2.2.2.1.2.1 (x.1.2.1.1+i))∧BR x.2.1.2.2.2.2.2.2.2.2.2.2.2.2.1 w.2.2.2.2.1 x.2.2.2.2.1∧BR x.2.1.2.2.2.2.2.2.2.2.2.2.2.2.1 w.2.2.2.2.2.1 x.2.2.2.2.2.1∧BR x.2.1.2.2.2.2.2.2.2.2.2.2.2.2.1 w.2.2.2.2.2.2.1 x.2.2.2.2.2.2.1∧BR x.2.1.2.2.2.2.2.2.2.2.2.2.2.2.1 w.2.2.2.2.2.2.2.1 x.2.2.2.2.2.2.2.1∧BR x.2.1.2.2.2.2.2.2.2.2.2.2.2.2.1 w.2.2.2.2.2.2.2.2.1 x.2.2.2.2.2.2.2.2.1∧BR x.2.1.2.2.2.2.2.2.2.2.2.2.2.2.1 w.2.2.2.2.2.2.2.2.2.1 x.2.2.2.2.2.2.2.2.2.1∧x.2.2.2.2.2.2.2.2.2.2.2.1.1=w.2.2.2.2.2.2.2.2.2.2.2.1.1∧x.2.2.2.2.2.2.2.2.2.2.2.1.2.2<=N|.inr x=>x.1.2.1.2<=l∧x.2.2.2.1=w.2.2.2.1∧x.2.2.2.2.2.2.2.2.2.2.2.2.2.1=w.2.2.2.2.2.2.2.2.2.2.2.2.2.1∧w.2.1.2.2.2.2.2.2.2.2.2.2.2.2.2.1<=x.2.1.2.2.2.2.2.2.2.2.2.2.2.2.1∧Qd x.2.1.2.2.2.2.2.2.2.2.2.2.2.2.1 S x.1.2.1.2 (λi=>w.2.2.2.2.2.2.2.2.2.2.2.2.2.1.2.1 (x.1.2.1.1+i))∧BR x.2.1.2.2.2.2.2.2.2.2.2.2.2.2.1 w.2.2.2.2.1 x.2.2.2.2.1∧BR x.2.1.2.2.2.2.2.2.2.2.2.2.2.2.1 w.2.2.2.2.2.1 x.2.2.2.2.2.1∧BR x.2.1.2.2.2.2.2.2.2.2.2.2.2.2.1 w.2.2.2.2.2.2.1 x.2.2.2.2.2.2.1∧BR x.2.1.2.2.2.2.2.2.2.2.2.2.2.2.1 w.2.2.2.2.2.2.2.1 x.2.2.2.2.2.2.2.1∧BR x.2.1.2.2.2.2.2.2.2.2.2.2.2.2.1 w.2.2.2.2.2.2.2.2.1 x.2.2.2.2.2.2.2.2.1∧BR x.2.1.2.2.2.2.2.2.2.2.2.2.2.2.1 w.2.2.2.2.2.2.2.2.2.1 x.2.2.2.2.2.2.2.2.2.1∧x.2.2.2.2.2.2.2.2.2.2.2.1.1=w.2.2.2.2.2.2.2.2.2.2.2.1.1∧x.2.2.2.2.2.2.2.2.2.2.2.1.2.2<=N):=
 bd (s:=_) (λd:dy.B=>d.2.1.2.2.2.2.1.2<=l∧d.2.2.2.1=w.2.2.2.1∧d.2.2.2.2.2.2.2.2.2.2.2.2.2.1=w.2.2.2.2.2.2.2.2.2.2.2.2.2.1∧w.2.1.2.2.2.2.2.2.2.2.2.2.2.2.2.1<=d.2.1.2.2.2.2.2.2.2.2.2.2.2.2.2.1∧Qd d.2.1.2.2.2.2.2.2.2.2.2.2.2.2.2.1 S d.2.1.2.2.2.2.1.2 (λi=>w.2.2.2.2.2.2.2.2.2.2.2.2.2.1.2.1 (d.2.1.2.2.2.2.1.1+i))∧BR d.2.1.2.2.2.2.2.2.2.2.2.2.2.2.2.1 w.2.2.2.2.1 d.2.2.2.2.1∧BR d.2.1.2.2.2.2.2.2.2.2.2.2.2.2.2.1 w.2.2.2.2.2.1 d.2.2.2.2.2.1∧BR d.2.1.2.2.2.2.2.2.2.2.2.2.2.2.2.1 w.2.2.2.2.2.2.1 d.2.2.2.2.2.2.1∧BR d.2.1.2.2.2.2.2.2.2.2.2.2.2.2.2.1 w.2.2.2.2.2.2.2.1 d.2.2.2.2.2.2.2.1∧BR d.2.1.2.2.2.2.2.2.2.2.2.2.2.2.2.1 w.2.2.2.2.2.2.2.2.1 d.2.2.2.2.2.2.2.2.1∧BR d.2.1.2.2.2.2.2.2.2.2.2.2.2.2.2.1 w.2.2.2.2.2.2.2.2.2.1 d.2.2.2.2.2.2.2.2.2.1∧d.2.2.2.2.2.2.2.2.2.2.2.1.1=w.2.2.2.2.2.2.2.2.2.2.2.1.1∧d.2.2.2.2.2.2.2.2.2.2.2.1.2.2<=N) (λd:dy.B=>d.2.1.2.2.2.2.1.2) (λx:gY=>match x with|.inl x=>x.1.2.1.2<=l∧x.2.2.2.1=w.2.2.2.1∧x.2.2.2.2.2.2.2.2.2.2.2.2.2.1=w.2.2.2.2.2.2.2.2.2.2.2.2.2.1∧w.2.1.2.2.2.2.2.2.2.2.2.2.2.2.2.1<=x.2.1.2.2.2.2.2.2.2.2.2.2.2.2.1∧Qd x.2.1.2.2.2.2.2.2.2.2.2.2.2.2.1 S x.1.2.1.2 (λi=>w.2.2.2.2.2.2.2.2.2.2.2.2.2.1.2.1 (x.1.2.1.1+i))∧BR x.2.1.2.2.2.2.2.2.2.2.2.2.2.2.1 w.2.2.2.2.1 x.2.2.2.2.1∧BR x.2.1.2.2.2.2.2.2.2.2.2.2.2.2.1 w.2.2.2.2.2.1 x.2.2.2.2.2.1∧BR x.2.1.2.2.2.2.2.2.2.2.2.2.2.2.1 w.2.2.2.2.2.2.1 x.2.2.2.2.2.2.1∧BR x.2.1.2.2.2.2.2.2.2.2.2.2.2.2.1 w.2.2.2.2.2.2.2.1 x.2.2.2.2.2.2.2.1∧BR x.2.1.2.2.2.2.2.2.2.2.2.2.2.2.1 w.2.2.2.2.2.2.2.2.1 x.2.2.2.2.2.2.2.2.1∧BR x.2.1.2.2.2.2.2.2.2.2.2.2.2.2.1 w.2.2.2.2.2.2.2.2.2.1 x.2.2.2.2.2.2.2.2.2.1∧x.2.2.2.2.2.2.2.2.2.2.2.1.1=w.2.2.2.2.2.2.2.2.2.2.2.1.1∧x.2.2.2.2.2.2.2.2.2.2.2.1.2.2<=N|.inr x=>x.1.2.1.2<=l∧x.2.2.2.1=w.2.2.2.1∧x.2.2.2.2.2.2.2.2.2.2.2.2.2.1=w.2.2.2.2.2.2.2.2.2.2.2.2.2.1∧w.2.1.2.2.2.2.2.2.2.2.2.2.2.2.2.1<=x.2.1.2.2.2.2.2.2.2.2.2.2.2.2.1∧Qd x.2.1.2.2.2.2.2.2.2.2.2.2.2.2.1 S x.1.2.1.2 (λi=>w.2.2.2.2.2.2.2.2.2.2.2.2.2.1.2.1 (x.1.2.1.1+i))∧BR x.2.1.2.2.2.2.2.2.2.2.2.2.2.2.1 w.2.2.2.2.1 x.2.2.2.2.1∧BR x.2.1.2.2.2.2.2.2.2.2.2.2.2.2.1 w.2.2.2.2.2.1 x.2.2.2.2.2.1∧BR x.2.1.2.2.2.2.2.2.2.2.2.2.2.2.1 w.2.2.2.2.2.2.1 x.2.2.2.2.2.2.1∧BR x.2.1.2.2.2.2.2.2.2.2.2.2.2.2.1 w.2.2.2.2.2.2.2.1 x.2.2.2.2.2.2.2.1∧BR x.2.1.2.2.2.2.2.2.2.2.2.2.2.2.1 w.2.2.2.2.2.2.2.2.1 x.2.2.2.2.2.2.2.2.1∧BR x.2.1.2.2.2.2.2.2.2.2.2.2.2.2.1 w.2.2.2.2.2.2.2.2.2.1 x.2.2.2.2.2.2.2.2.2.1∧x.2.2.2.2.2.2.2.2.2.2.2.1.1=w.2.2.2.2.2.2.2.2.2.2.2.1.1∧x.2.2.2.2.2.2.2.2.2.2.2.1.2.2<=N) (λd hd=>by
  obtain⟨i0,ic,ir,it,iq,s4,s5,s6,s7,s8,s9,i11,bg⟩:=hd
  unfold rB
  dsimp only
  rw[aL]
  refine⟨λh=> ?_,λ_=>by rw[av];exact⟨i0,ic,ir,it,iq,s4,s5,s6,s7,s8,s9,i11,bg⟩⟩
  have h:=of_decide_eq_true h
  rw[Int.ofNat_eq_natCast] at h
  have h:1<=d.2.1.2.2.2.2.1.2:=by omega
  have r0:aW 0 d.2.1.2.2.2.2.1.2=true:=by rw[bl];omega
  have r1:Ir 1 d.2.1.2.2.2.2.1.2=true:=by rw[abb];omega
  rw[r0,r1,aC,aL]
  simp only[aR]
  refine⟨λ_=> ?_,λ_=>by rw[av];exact⟨i0,ic,ir,it,iq,s4,s5,s6,s7,s8,s9,i11,bg⟩⟩
  simp only[aC]
  with_reducible refine aA (aSS N h1 hN _ ?_ ?_ ?_ ?_ ?_ ?_ ?_ ?_ ?_) λe _ he=> ?_
  ·show d.2.2.2.2.2.2.2.2.2.2.2.1.1<=(N:Int)
   rw[i11];exact WS
  ·exact bg
  ·show d.2.1.2.2.2.2.1.2-1<=1999
   omega
  ·exact Nat.le_trans s4.len W4
  ·exact Nat.le_trans s5.len W5
  ·exact Nat.le_trans s6.len W6
  ·exact Nat.le_trans s7.len W7
  ·exact Nat.le_trans s8.len W8
  ·exact Nat.le_trans s9.len W9
  obtain⟨a4,a5,a6,a7,a8,a9,a11,si,e4,et⟩:=he
  have e4:e.1.1.2.2.2.2.1=d.2.1.2.2.2.2.1.2-1:=e4
  have et:e.1.1.2.2.2.2.2.2.2.2.2.2.2.2.2.1=d.2.2.2.2.2.2.2.2.2.2.2.2.2.1.2.1 (d.2.1.2.2.2.2.1.1+0):=et
  have iq':=iq.pop (q:=λi=>w.2.2.2.2.2.2.2.2.2.2.2.2.2.1.2.1 (d.2.1.2.2.2.2.1.1+1+i)) h (λi=>by show w.2.2.2.2.2.2.2.2.2.2.2.2.2.1.2.1 (d.2.1.2.2.2.2.1.1+1+i)=w.2.2.2.2.2.2.2.2.2.2.2.2.2.1.2.1 (d.2.1.2.2.2.2.1.1+(i+1));rw[show d.2.1.2.2.2.2.1.1+1+i=d.2.1.2.2.2.2.1.1+(i+1) by omega])
  have et':e.1.1.2.2.2.2.2.2.2.2.2.2.2.2.2.1=w.2.2.2.2.2.2.2.2.2.2.2.2.2.1.2.1 (d.2.1.2.2.2.2.1.1+0):=by rw[et,ir]
  have ll:d.2.1.2.2.2.2.2.2.2.2.2.2.2.2.2.1<=e.1.1.2.2.2.2.2.2.2.2.2.2.2.2.2.1:=by rw[et'];exact iq'.1
  have le:=Int.le_of_eq et.symm
  rw[av]
  exact⟨⟨by show e.1.1.2.2.2.2.1<=l;omega,ic,ir,Int.le_trans it ll,(by show Qd e.1.1.2.2.2.2.2.2.2.2.2.2.2.2.2.1 S e.1.1.2.2.2.2.1 _;rw[et',e4];exact iq'.2),(s4.mono ll).trans (a4.mono le),(s5.mono ll).trans (a5.mono le),(s6.mono ll).trans (a6.mono le),(s7.mono ll).trans (a7.mono le),(s8.mono ll).trans (a8.mono le),(s9.mono ll).trans (a9.mono le),a11.trans i11,si⟩,by show e.1.1.2.2.2.2.1<d.2.1.2.2.2.2.1.2;omega⟩) 2000 d hd (by omega)
theorem aHv (N:Nat)(h1:1<=N)(hN:N<=1999)(d:gu.B)(hq:d.1.2.2.2.2.1<=1998)(l3:d.2.2.2.1.2.2.1<=64)(l4:d.2.2.2.2.1.2.2.1<=64)(l5:d.2.2.2.2.2.1.2.2.1<=64)(l6:d.2.2.2.2.2.2.1.2.2.1<=64)(l7:d.2.2.2.2.2.2.2.1.2.2.1<=64)(l8:d.2.2.2.2.2.2.2.2.1.2.2.1<=64)(hs:d.2.2.2.2.2.2.2.2.2.2.1.1<=(N:Int))(hl:d.2.2.2.2.2.2.2.2.2.2.1.2.2<=N)(S:Int)(hS:S<=d.2.2.2.2.2.2.2.2.2.2.2.1.1)(hQ:Qd d.1.2.2.2.2.2.2.2.2.2.2.2.2.2.1 S d.1.2.2.2.2.1 d.2.2.2.2.2.2.2.2.2.2.2.2.1.1):Ok (nU d) (λx:jo=>x.2.1.2.2.2.2.1.2<=d.1.2.2.2.2.1+1∧x.2.2.2.1=d.2.2.1∧d.1.2.2.2.2.2.2.2.2.2.2.2.2.2.1<=x.2.1.2.2.2.2.2.2.2.2.2.2.2.2.2.1∧Qd x.2.1.2.2.2.2.2.2.2.2.2.2.2.2.2.1 d.2.2.2.2.2.2.2.2.2.2.2.1.1 x.2.1.2.2.2.2.1.2 (λi=>x.2.2.2.2.1.2.1 (x.2.1.2.2.2.2.1.1+i))∧BR x.2.1.2.2.2.2.2.2.2.2.2.2.2.2.2.1 d.2.2.2.1 x.2.2.2.2.2.1∧BR x.2.1.2.2.2.2.2.2.2.2.2.2.2.2.2.1 d.2.2.2.2.1 x.2.2.2.2.2.2.1∧BR x.2.1.2.2.2.2.2.2.2.2.2.2.2.2.2.1 d.2.2.2.2.2.1 x.2.2.2.2.2.2.2.1∧BR x.2.1.2.2.2.2.2.2.2.2.2.2.2.2.2.1 d.2.2.2.2.2.2.1 x.2.2.2.2.2.2.2.2.1∧BR x.2.1.2.2.2.2.2.2.2.2.2.2.2.2.2.1 d.2.2.2.2.2.2.2.1 x.2.2.2.2.2.2.2.2.2.1∧BR x.2.1.2.2.2.2.2.2.2.2.2.2.2.2.2.1 d.2.2.2.2.2.2.2.2.1 x.2.2.2.2.2.2.2.2.2.2.1∧x.2.2.2.2.2.2.2.2.2.2.2.2.1.1=d.2.2.2.2.2.2.2.2.2.2.1.1∧x.2.2.2.2.2.2.2.2.2.2.2.2.1.2.2<=N):=by
 unfold nU rC
 try dsimp only
 show PQ _ _
 simp only[aR]
 have b:Nat.ble ((d.1.2.2.2.2.1+1)*64) 140737488355328=true:=by rw[bP];omega
 rw[b]
 simp only[aC]
 have hQ':Qd d.1.2.2.2.2.2.2.2.2.2.2.2.2.2.1 d.2.2.2.2.2.2.2.2.2.2.2.1.1 (d.1.2.2.2.2.1+1) (λi=>bif Nat.beq (0+i) d.1.2.2.2.2.1 then d.2.2.2.2.2.2.2.2.2.2.2.1.1 else d.2.2.2.2.2.2.2.2.2.2.2.2.1.1 (0+(0+i))):=hQ.push hS (λi hi=>by
  have b:Nat.beq (0+i) d.1.2.2.2.2.1=false:=by
   cases hb:Nat.beq (0+i) d.1.2.2.2.2.1
   ·rfl
   ·have:=Nat.eq_of_beq_eq_true hb;omega
  show(bif Nat.beq (0+i) d.1.2.2.2.2.1 then d.2.2.2.2.2.2.2.2.2.2.2.1.1 else d.2.2.2.2.2.2.2.2.2.2.2.2.1.1 (0+(0+i)))=_
  rw[b]
  simp only[cond_false,Nat.zero_add]) (by simp only[Nat.zero_add,aR,cond_true])
 refine aA (aOP N (d.1.2.2.2.2.1+1) d.2.2.2.2.2.2.2.2.2.2.2.1.1 h1 hN (by omega) _ _ l3 l4 l5 l6 l7 l8 hs ⟨Nat.le_refl _,rfl,rfl,Int.le_refl _,hQ',BR.refl _ _,BR.refl _ _,BR.refl _ _,BR.refl _ _,BR.refl _ _,BR.refl _ _,rfl,hl⟩) λy _ hy=> ?_
 rw[zf]
 refine⟨λa ha=> ?_,λa ha=> ?_⟩
 ·rw[ha] at hy;rw[av]
  obtain⟨y0,y3,yr,yt,yq,ys⟩:=hy
  exact⟨y0,y3,yt,(by rw[<-yr] at yq;exact yq),ys⟩
 ·rw[ha] at hy;rw[av]
  obtain⟨y0,y3,yr,yt,yq,ys⟩:=hy
  exact⟨y0,y3,yt,(by rw[<-yr] at yq;exact yq),ys⟩
theorem aUa (N:Nat)(h1:1<=N)(hN:N<=1999)(x:gr.B)(hq:x.2.1.2.2.2.2.1<=1998)(l5:x.2.2.2.2.2.1.2.2.1<=64)(l6:x.2.2.2.2.2.2.1.2.2.1<=64)(l7:x.2.2.2.2.2.2.2.1.2.2.1<=64)(l8:x.2.2.2.2.2.2.2.2.1.2.2.1<=64)(l9:x.2.2.2.2.2.2.2.2.2.1.2.2.1<=64)(l10:x.2.2.2.2.2.2.2.2.2.2.1.2.2.1<=64)(hs:x.2.2.2.2.2.2.2.2.2.2.2.2.1.1<=(N:Int))(hl:x.2.2.2.2.2.2.2.2.2.2.2.2.1.2.2<=N)(h3:x.2.2.2.1.2.2=false->x.2.2.2.1.2.1.1<=0)(hQ:Qd x.2.1.2.2.2.2.2.2.2.2.2.2.2.2.2.1 x.2.2.2.1.2.1.1 x.2.1.2.2.2.2.1 x.2.2.2.2.1.1):Ok (cS x) (λe:jO=>e.2.1.2.2.2.2.1.2<=x.2.1.2.2.2.2.1+1∧(e.2.2.2.1.2.2=false->e.2.2.2.1.2.1.1<=0)∧x.2.1.2.2.2.2.2.2.2.2.2.2.2.2.2.1<=e.2.1.2.2.2.2.2.2.2.2.2.2.2.2.2.1∧Qd e.2.1.2.2.2.2.2.2.2.2.2.2.2.2.2.1 e.2.2.2.1.2.1.1 e.2.1.2.2.2.2.1.2 (λi=>e.2.2.2.2.1.2.1 (e.2.1.2.2.2.2.1.1+i))∧BR e.2.1.2.2.2.2.2.2.2.2.2.2.2.2.2.1 x.2.2.2.2.2.1 e.2.2.2.2.2.1∧BR e.2.1.2.2.2.2.2.2.2.2.2.2.2.2.2.1 x.2.2.2.2.2.2.1 e.2.2.2.2.2.2.1∧BR e.2.1.2.2.2.2.2.2.2.2.2.2.2.2.2.1 x.2.2.2.2.2.2.2.1 e.2.2.2.2.2.2.2.1∧BR e.2.1.2.2.2.2.2.2.2.2.2.2.2.2.2.1 x.2.2.2.2.2.2.2.2.1 e.2.2.2.2.2.2.2.2.1∧BR e.2.1.2.2.2.2.2.2.2.2.2.2.2.2.2.1 x.2.2.2.2.2.2.2.2.2.1 e.2.2.2.2.2.2.2.2.2.1∧BR e.2.1.2.2.2.2.2.2.2.2.2.2.2.2.2.1 x.2.2.2.2.2.2.2.2.2.2.1 e.2.2.2.2.2.2.2.2.2.2.1∧e.2.2.2.2.2.2.2.2.2.2.2.2.1.1=x.2.2.2.2.2.2.2.2.2.2.2.2.1.1∧e.2.2.2.2.2.2.2.2.2.2.2.2.1.2.2<=N):=by
 unfold cS nL
 try dsimp only
 show PQ _ _
 simp only[aR]
 refine aA (aST _ h3) λd _ hd=> ?_
 obtain⟨d1,d2,d3⟩:=hd
 have d2:x.2.2.2.1.2.1.1<=d.2.1.2.1.1:=d2
 rw[aL]
 refine⟨λ_=>by rw[av];exact⟨Nat.le_succ _,d1,Int.le_refl _,hQ.up d2 (λi=>by rw[Nat.zero_add]),BR.refl _ _,BR.refl _ _,BR.refl _ _,BR.refl _ _,BR.refl _ _,BR.refl _ _,rfl,hl⟩,λ_=> ?_⟩
 rw[aL]
 refine⟨λ_=>by rw[av];exact⟨Nat.le_succ _,d1,Int.le_refl _,hQ.up d2 (λi=>by rw[Nat.zero_add]),BR.refl _ _,BR.refl _ _,BR.refl _ _,BR.refl _ _,BR.refl _ _,BR.refl _ _,rfl,hl⟩,λc=> ?_⟩
 have c:d.1.2.1=true:=by simpa using c
 have d3:=d3 c
 have d4:x.2.2.2.1.2.1.1<=d.1.1.1:=by omega
 rw[aL]
 refine⟨λ_=> ?_,λ_=> ?_⟩
 ·simp only[aC]
  with_reducible refine aA (aJR N hN _ ?_ ?_) λe _ he=> ?_
  ·exact hl
  ·exact hs
  rw[rI]
  refine⟨λa ha=> ?_,λa ha=> ?_⟩
  ·rw[ha] at he
   have he:a.2.1=x.2.2.2.2.2.2.2.2.2.2.2.2.1:=he
   simp only[aC]
   with_reducible refine aA (aHv N h1 hN _ ?_ ?_ ?_ ?_ ?_ ?_ ?_ ?_ ?_ x.2.2.2.1.2.1.1 d4 hQ) λy _ hy=> ?_
   ·exact hq
   ·exact l5
   ·exact l6
   ·exact l7
   ·exact l8
   ·exact l9
   ·exact l10
   ·show a.2.1.1<=(N:Int)
    rw[he];exact hs
   ·show a.2.1.2.2<=N
    rw[he];exact hl
   rw[av]
   have e0:(a.2.1.1:Int)=x.2.2.2.2.2.2.2.2.2.2.2.2.1.1:=by rw[he]
   obtain⟨q,qs,qt,qq,s5,s6,s7,s8,s9,Xb,p1,p2⟩:=hy
   exact⟨q,(by rw[show y.2.2.2.1=d.2.1 from qs];exact d1),qt,(by rw[show y.2.2.2.1=d.2.1 from qs,<-d3];exact qq),s5,s6,s7,s8,s9,Xb,p1.trans e0,p2⟩
  ·rw[ha] at he
   obtain⟨e1,e2,e3,e4⟩:=he
   have e1:a.1.1.1=x.2.2.2.2.2.2.2.2.2.2.2.2.1.1:=e1
   simp only[aC]
   with_reducible refine aA (aHv N h1 hN _ ?_ ?_ ?_ ?_ ?_ ?_ ?_ ?_ ?_ x.2.2.2.1.2.1.1 d4 hQ) λy _ hy=> ?_
   ·exact hq
   ·exact l5
   ·exact l6
   ·exact l7
   ·exact l8
   ·exact l9
   ·exact l10
   ·show a.1.1.1<=(N:Int)
    rw[e1];exact hs
   ·exact e2
   rw[av]
   obtain⟨q,qs,qt,qq,s5,s6,s7,s8,s9,Xb,p1,p2⟩:=hy
   exact⟨q,(by rw[show y.2.2.2.1=d.2.1 from qs];exact d1),qt,(by rw[show y.2.2.2.1=d.2.1 from qs,<-d3];exact qq),s5,s6,s7,s8,s9,Xb,p1.trans e1,p2⟩
 ·simp only[aC]
  with_reducible refine aA (aHv N h1 hN _ ?_ ?_ ?_ ?_ ?_ ?_ ?_ ?_ ?_ x.2.2.2.1.2.1.1 d4 hQ) λy _ hy=> ?_
  ·exact hq
  ·exact l5
  ·exact l6
  ·exact l7
  ·exact l8
  ·exact l9
  ·exact l10
  ·exact hs
  ·exact hl
  rw[av]
  obtain⟨q,qs,qt,qq,qr⟩:=hy
  exact⟨q,(by rw[show y.2.2.2.1=d.2.1 from qs];exact d1),qt,(by rw[show y.2.2.2.1=d.2.1 from qs,<-d3];exact qq),qr⟩
end Go.Proofs.YtldgljclcgaibaaGreat
noncomputable section
namespace Go.Proofs.YtldgljclcgaibaaGreat
open Go.Ab Go.Ab.Pg Go.Ab.Rq
def ahn:=qa (pr (cu aN Cz) cq)
def Np:=qe oG
abbrev aho:=Np.B
abbrev ahp:=Int->Int->Int->Bool->Option aho
def ahq (g:ahp):Ct:=(208,FC ahn (lf Np) (λb=>g b.1.1 b.1.2.1 b.1.b b.2))
def ahr (x0:Int)(x1:Int)(x2:Int)(x3:Bool):Pg aho:=let y0:=decide (x1>x2);ae (decide (x0<x1)) (ae (x1 !=x0) (ret (x1,true)) (ae y0 (ret (x1,true)) (ret (x1,x3)))) (ae y0 (ae (x1 !=x0) (ret (x1,true)) (ae y0 (ret (x1,true)) (ret (x1,x3)))) (ae (decide (x0>x2)) (ae (x2 !=x0) (ret (x2,true)) (ae y0 (ret (x2,true)) (ret (x2,x3)))) (ae (x0 !=x0) (ret (x0,true)) (ae y0 (ret (x0,true)) (ret (x0,x3))))))
def Rw:=λx0 x1 x2 x3=>(ahr x0 x1 x2 x3).val
theorem azE:D1 [] [0] 208 ahn (lf Np) λb=>ahr b.1.1 b.1.2.1 b.1.b b.2:=λb=>by kernel_rfl
theorem azF [ax]:SC (ahq Rw):=s0 (.nil _) azE
def aoM:=qa (pr (cu aN fM) cq)
def Wu:=qe oG
abbrev aoN:=Wu.B
abbrev aaL:=Int->Bool->Option aoN
def aaM (g:aaL):Ct:=(150,FC aoM (lf Wu) (λb=>g b.1 b.2))
def aoO (Hm:ahp)(x0:Int)(x1:Bool):Pg aoN:=opt (Hm x0 (-1152921504606846976) 1152921504606846976 x1) λd=>ret d
def GH:=λx0 x1=>(aoO Rw x0 x1).val
theorem aDK:∀Hm,D0 [ahq Hm] 150 aoM (lf Wu) λb=>aoO Hm b.1 b.2:=λ_ b=>by kernel_rfl
theorem aoP [ax]:SC (aaM GH):=s0 (.c azF (.nil _)) (aDK Rw)
def aCy:=qa (pl fM nil)
def alG:=qe aPG
abbrev aCz:=alG.B
abbrev aqN:=Int->Option aCz
def aqO (g:aqN):Ct:=(152,FC aCy (lf alG) (λb=>g b))
def aCA (x0:Int):Pg aCz:=ae (decide (x0<0)) (ret (wU (wI (0-x0)))) (ret (wU x0))
def Wv:=λx0=>(aCA x0).val
theorem aMs:D0 [] 152 aCy (lf alG) λb=>aCA b:=λb=>by kernel_rfl
theorem aCB [ax]:SC (aqO Wv):=s0 (.nil _) aMs
def aoQ:=qa (pl (c an aD8) nil)
def Ww:=qe aKL
abbrev aoR:=Ww.B
abbrev aoS:=Int->Int->Option aoR
def aoT (g:aoS):Ct:=(207,FC aoQ (lf Ww) (λb=>g b.1 b.2))
def aoU (x0:Int)(x1:Int):Pg aoR:=let y0:=Int.fdiv x0 4294967296;let y1:=Int.fdiv x1 4294967296;let y2:=wU (Int.ofNat (BitVec.toNat (BitVec.ofInt 64 x0&&&BitVec.ofInt 64 4294967295)));let y3:=wU (Int.ofNat (BitVec.toNat (BitVec.ofInt 64 x1&&&BitVec.ofInt 64 4294967295)));let y4:=wU (y2*y3);let y5:=wU (wU (y0*y3)+Int.fdiv y4 4294967296);let y6:=wU (wU (y2*y1)+wU (Int.ofNat (BitVec.toNat (BitVec.ofInt 64 y5&&&BitVec.ofInt 64 4294967295))));ret (wU (wU (wU (y0*y1)+Int.fdiv y5 4294967296)+Int.fdiv y6 4294967296),wU (Int.ofNat (BitVec.toNat (BitVec.ofInt 64 (wU (y6*4294967296))|||BitVec.ofInt 64 (wU (Int.ofNat (BitVec.toNat (BitVec.ofInt 64 y4&&&BitVec.ofInt 64 4294967295))))))))
def aaN:=λx0 x1=>(aoU x0 x1).val
theorem aDL:D0 [] 207 aoQ (lf Ww) λb=>aoU b.1 b.2:=λb=>by kernel_rfl
theorem aDM [ax]:SC (aoT aaN):=s0 (.nil _) aDL
def aE9:=qa (pl FZ nil)
def aqP:=qe aFC
abbrev aFa:=aqP.B
abbrev avQ:=Int->Int->Option aFa
def avR (g:avQ):Ct:=(149,FC aE9 (lf aqP) (λb=>g b.1 b.2))
def aFb (xm:aqN)(N':aoS)(x0:Int)(x1:Int):Pg aFa:=opt (xm x0) λd=>opt (xm x1) λaj=>opt (N' d aj) λd=>ret (d.1,d.2,!decide (x0<0)==decide (x1<0))
def acI:=λx0 x1=>(aFb Wv aaN x0 x1).val
theorem aOQ:∀xm N',D0 [aqO xm,aoT N'] 149 aE9 (lf aqP) λb=>aFb xm N' b.1 b.2:=λ_ _ b=>by kernel_rfl
theorem aFc [ax]:SC (avR acI):=s0 (.c aCB (.c aDM (.nil _))) (aOQ Wv aaN)
def aCC:=qa (pl (c ahT (cl ahT nil)) nil)
def alH:=qe BB
abbrev aCD:=alH.B
abbrev aCE:=Int->Int->Bool->Int->Int->Bool->Option aCD
def aCF (g:aCE):Ct:=(246,FC aCC (lf alH) (λb=>g b.1.1 b.1.2.1 b.1.b b.2.1 b.b.1 b.b.2))
def aCG (x0:Int)(x1:Int)(x2:Bool)(x3:Int)(x4:Int)(x5:Bool):Pg aCD:=ae (decide (x0<x3)) (ret true) (ae (x0==x3) (ret (decide (x1<x4))) (ret false))
def aqQ:=λx0 x1 x2 x3 x4 x5=>(aCG x0 x1 x2 x3 x4 x5).val
theorem aMt:D0 [] 246 aCC (lf alH) λb=>aCG b.1.1 b.1.2.1 b.1.b b.2.1 b.b.1 b.b.2:=λb=>by kernel_rfl
theorem aMu [ax]:SC (aCF aqQ):=s0 (.nil _) aMt
def aFd:=qa (pl (c ahT (cl ahT nil)) nil)
def aqR:=qe aFC
abbrev aFe:=aqR.B
abbrev al7:=Int->Int->Bool->Int->Int->Bool->Option aFe
def avS (g:al7):Ct:=(206,FC aFd (lf aqR) (λb=>g b.1.1 b.1.2.1 b.1.b b.2.1 b.b.1 b.b.2))
def aFf (afz:aCE)(x0:Int)(x1:Int)(x2:Bool)(x3:Int)(x4:Int)(x5:Bool):Pg aFe:=let y0:=wU (x0-x3);let y1:=wU (x3-x0);let y2:=wU (x0+x3);let y3:=wU (x1+x4);ae (x2==x5) (ae (decide (y3<x1)) (ret (wU (y2+1),y3,x2)) (ret (y2,y3,x2))) (opt (afz x0 x1 x2 x3 x4 x5) λd=>ae d (ae (decide (x4<x1)) (ret (wU (y1-1),wU (x4-x1),x5)) (ret (y1,wU (x4-x1),x5))) (ae (decide (x1<x4)) (ret (wU (y0-1),wU (x1-x4),x2)) (ret (y0,wU (x1-x4),x2))))
def acJ:=λx0 x1 x2 x3 x4 x5=>(aFf aqQ x0 x1 x2 x3 x4 x5).val
theorem aOR:∀afz,D0 [aCF afz] 206 aFd (lf aqR) λb=>aFf afz b.1.1 b.1.2.1 b.1.b b.2.1 b.b.1 b.b.2:=λ_ b=>by kernel_rfl
theorem aFg [ax]:SC (avS acJ):=s0 (.c aMu (.nil _)) (aOR aqQ)
def aoV:=qa (pl (c ahT aD8) nil)
def Wx:=qe aFC
abbrev aoW:=Wx.B
abbrev aoX:=Int->Int->Bool->Int->Option aoW
def aoY (g:aoX):Ct:=(151,FC aoV (lf Wx) (λb=>g b.1.1 b.1.2.1 b.1.b b.2))
def tp:=qs (st (pr (us 1 (c an (cu FX (us 1 (cu aHL (cu Xd (c an (cl ai (us 63 nil))))))))) (pl (c (so az0) (cu (so (cu azY (cu azY (cu acT nil)))) (cl (so az0) nil))) nil)))
def azG:=qs (st (pr (us 1 (c an (cu FX (us 1 (cu aHL (cu Xd (c an (c ai (us 4 (c ai (cl ab (us 57 nil)))))))))))) (pl (c (so az0) (cu (so (cu azY (cu azY (cu acT nil)))) (cl (so az0) nil))) nil)))
abbrev Hn:=((Int×Int×Int×Bool)×(Int×Int×Bool)×Int×Int×Bool)
def ahs {ρ:Type}(x:Hn)(K:AX->St->Option ρ):Option ρ:=(λd=>K (.ex 0) (azG.em ((d.1.1,d.1.2.1,d.1.b.1,d.1.b),d.2))) x
def aht (d:tp.B):PL tp Hn:=let n4:=d.2.1;let n3:=d.1.2;let n2:=d.2.2;let n1:=d.1.1;let y0:=wI (n3.2-1);let y1:=decide (n3.2>=0);let y2:=decide (n3.2>=64);let y3:=wU (wI (Int.ofNat (BitVec.toNat (BitVec.ofInt 64 n3.2&&&BitVec.ofInt 64 63))));let y4:=2^min (Int.toNat y3) 64;let y5:= !decide (y3<0);let y6:=wU (Int.ofNat (BitVec.toNat (BitVec.ofInt 64 (wU (n3.1*2))|||BitVec.ofInt 64 (wU (Int.ofNat (BitVec.toNat (BitVec.ofInt 64 (Int.fdiv n4.1 y4)&&&BitVec.ofInt 64 1)))))));let y7:=wU (Int.ofNat (BitVec.toNat (BitVec.ofInt 64 (wU (n3.1*2))|||BitVec.ofInt 64 (wU (Int.ofNat (BitVec.toNat (BitVec.ofInt 64 (Int.fdiv n4.2.1 y4)&&&BitVec.ofInt 64 1)))))));ae y1 (ae y5 (ae y2 (ae y5 (ae (decide (y6>=n1)) (ae y2 (ae y5 (ret (Sum.inl ((n1,wU (y6-n1),y0),n4,wU (Int.ofNat (BitVec.toNat (BitVec.ofInt 64 n2.1|||BitVec.ofInt 64 (wU (1*y4))))),n2.2))) no) (ae y5 (ret (Sum.inl ((n1,wU (y6-n1),y0),n4,n2.1,wU (Int.ofNat (BitVec.toNat (BitVec.ofInt 64 n2.2.1|||BitVec.ofInt 64 (wU (1*y4))))),n2.2.2))) no)) (ret (Sum.inl ((n1,y6,y0),d.2)))) no) (ae (decide (y7>=n1)) (ae y2 (ae y5 (ret (Sum.inl ((n1,wU (y7-n1),y0),n4,wU (Int.ofNat (BitVec.toNat (BitVec.ofInt 64 n2.1|||BitVec.ofInt 64 (wU (1*y4))))),n2.2))) no) (ae y5 (ret (Sum.inl ((n1,wU (y7-n1),y0),n4,n2.1,wU (Int.ofNat (BitVec.toNat (BitVec.ofInt 64 n2.2.1|||BitVec.ofInt 64 (wU (1*y4))))),n2.2.2))) no)) (ret (Sum.inl ((n1,y7,y0),d.2))))) no) (ret (Sum.inr ((n1,n3.1,n3.2,y1),d.2)))
def ahu:=bA (aht) 2000
def aoZ (Nq:al7)(dI:LT tp Hn)(x0:Int)(x1:Int)(x2:Bool)(x3:Int):Pg aoW:=opt (dI ((x3,0,127),(x0,x1,x2),0,0,x2)) λd=>ae (decide (d.1.2.1>=wU (d.1.1-d.1.2.1))) (opt (Nq d.2.2.1 d.2.2.2.1 d.2.2.2.2 0 1 d.2.2.2.2) λd=>ret d) (ret d.2.2)
def aaO:=λx0 x1 x2 x3=>(aoZ acJ ahu x0 x1 x2 x3).val
abbrev Oa:=al7×(LT tp Hn)
def aaP (p:Oa):KK:=⟨[avS p.1],⟨[⟨4,(0::3::rg 8 63 []),[]⟩],[fH 4 0 tp ahs p.2],[],[],(some ⟨0,(rg 0 4 (rg 5 66 [])),[]⟩)⟩,0,151⟩
theorem avT (p:Oa):LI (aaP p) 4 tp ahs (aht):=λ_ d c K=>by kernel_rfl
theorem aDN (p:Oa):D2 (aaP p) aoV (lf Wx) λb=>aoZ p.1 p.2 b.1.1 b.1.2.1 b.1.b b.2:=λb=>by kernel_rfl
abbrev aaQ:Oa:=(acJ,ahu)
theorem aDO [ax]:SC (aoY aaO):=sc (kS (k:=aaP aaQ) (.c aFg (.nil _)) [4] [] ⟨kL (avT aaQ),trivial⟩ trivial (aDN aaQ))
def ao0:=qa (pr (cu aN (cl ahT nil)) cq)
def Wy:=qe oG
abbrev ao1:=Wy.B
abbrev aaR:=Int->Int->Bool->Bool->Option ao1
def aaS (g:aaR):Ct:=(147,FC ao0 (lf Wy) (λb=>g b.1.1 b.1.2.1 b.1.b b.2))
def ao2 (x0:Int)(x1:Int)(x2:Bool)(x3:Bool):Pg ao1:=ae (decide (x0>0)) (ae x2 (ret (-1152921504606846976,true)) (ret (1152921504606846976,true))) (ae (decide (x1>1152921504606846976)) (ae x2 (ret (-1152921504606846976,true)) (ret (1152921504606846976,true))) (ae x2 (ret (wI (0-wI x1),x3)) (ret (wI x1,x3))))
def GI:=λx0 x1 x2 x3=>(ao2 x0 x1 x2 x3).val
theorem aDP:D1 [] [0] 147 ao0 (lf Wy) λb=>ao2 b.1.1 b.1.2.1 b.1.b b.2:=λb=>by kernel_rfl
theorem ao3 [ax]:SC (aaS GI):=s0 (.nil _) aDP
def acK:=qa (pr (cu aN Cz) cq)
def Le:=qe oG
abbrev acL:=Le.B
abbrev acM:=Int->Int->Int->Bool->Option acL
def acN (g:acM):Ct:=(100,FC acK (lf Le) (λb=>g b.1.1 b.1.2.1 b.1.b b.2))
def acO (kC:aaL)(EA:avQ)(xm:aqN)(Ob:aoX)(pI:aaR)(x0:Int)(x1:Int)(x2:Int)(x3:Bool):Pg acL:=opt (kC x0 x3) λd=>opt (kC x1 d.2) λaj=>opt (EA d.1 aj.1) λd=>opt (kC x2 aj.2) λaI=>ae (aI.1==0) (ae (d.1==0) (ae (d.2.1==0) (ret (0,true)) (ae d.2.2 (ret (-1152921504606846976,true)) (ret (1152921504606846976,true)))) (ae d.2.2 (ret (-1152921504606846976,true)) (ret (1152921504606846976,true)))) (opt (xm aI.1) λbp=>opt (Ob d.1 d.2.1 (!d.2.2==decide (aI.1<0)) bp) λd=>opt (pI d.1 d.2.1 d.2.2 aI.2) λd=>ret d)
def Nr:=λx0 x1 x2 x3=>(acO GH acI Wv aaO GI x0 x1 x2 x3).val
theorem avU:∀kC EA xm Ob pI,D0 [aaM kC,avR EA,aqO xm,aoY Ob,aaS pI] 100 acK (lf Le) λb=>acO kC EA xm Ob pI b.1.1 b.1.2.1 b.1.b b.2:=λ_ _ _ _ _ b=>by kernel_rfl
theorem avV [ax]:SC (acN Nr):=s0 (.c aoP (.c aFc (.c aCB (.c aDO (.c ao3 (.nil _)))))) (avU GH acI Wv aaO GI)
def alI:=qa (pr (cu aN fM) cq)
def Rx:=qe oG
abbrev alJ:=Rx.B
abbrev alK:=Int->Bool->Option alJ
def alL (g:alK):Ct:=(61,FC alI (lf Rx) (λb=>g b.1 b.2))
def alM (EB:acM)(x0:Int)(x1:Bool):Pg alJ:=opt (EB x0 1073741824 1000000 x1) λd=>ret d
def Wz:=λx0 x1=>(alM Nr x0 x1).val
theorem aCH:∀EB,D0 [acN EB] 61 alI (lf Rx) λb=>alM EB b.1 b.2:=λ_ b=>by kernel_rfl
theorem aCI [ax]:SC (alL Wz):=s0 (.c avV (.nil _)) (aCH Nr)
def ao4:=qa (pl (c ahT fM) nil)
def WA:=qe aFC
abbrev ao5:=WA.B
abbrev ao6:=Int->Int->Bool->Int->Option ao5
def ao7 (g:ao6):Ct:=(148,FC ao4 (lf WA) (λb=>g b.1.1 b.1.2.1 b.1.b b.2))
def ao8 (Nq:al7)(x0:Int)(x1:Int)(x2:Bool)(x3:Int):Pg ao5:=let y0:=wI (x3-1);let y1:=wU (wI (x3-64));let y2:=wU (wI (64-x3));let y3:=wU y0;let y4:=wU (wI (x3-65));let y5:=2^min (Int.toNat (wU x3)) 64;let y6:= !decide (wU x3<0);ae (x3==0) (ret (x0,x1,x2)) (ae (decide (y0>=64)) (ae (!decide (y4<0)) (opt (Nq x0 x1 x2 (wU (1*2^min (Int.toNat y4) 64)) 0 x2) λd=>ae (decide (x3>=64)) (ae (!decide (y1<0)) (ret (0,Int.fdiv d.1 (2^min (Int.toNat y1) 64),d.2.2)) no) (ae y6 (ae y6 (ae (!decide (y2<0)) (ret (Int.fdiv d.1 y5,wU (Int.ofNat (BitVec.toNat (BitVec.ofInt 64 (Int.fdiv d.2.1 y5)|||BitVec.ofInt 64 (wU (d.1*2^min (Int.toNat y2) 64))))),d.2.2)) no) no) no)) no) (ae (!decide (y3<0)) (opt (Nq x0 x1 x2 0 (wU (1*2^min (Int.toNat y3) 64)) x2) λd=>ae (decide (x3>=64)) (ae (!decide (y1<0)) (ret (0,Int.fdiv d.1 (2^min (Int.toNat y1) 64),d.2.2)) no) (ae y6 (ae y6 (ae (!decide (y2<0)) (ret (Int.fdiv d.1 y5,wU (Int.ofNat (BitVec.toNat (BitVec.ofInt 64 (Int.fdiv d.2.1 y5)|||BitVec.ofInt 64 (wU (d.1*2^min (Int.toNat y2) 64))))),d.2.2)) no) no) no)) no))
def aaT:=λx0 x1 x2 x3=>(ao8 acJ x0 x1 x2 x3).val
theorem aDQ:∀Nq,D0 [avS Nq] 148 ao4 (lf WA) λb=>ao8 Nq b.1.1 b.1.2.1 b.1.b b.2:=λ_ b=>by kernel_rfl
theorem aDR [ax]:SC (ao7 aaT):=s0 (.c aFg (.nil _)) (aDQ acJ)
def ao9:=qa (pr (cu aN Cz) cq)
def WB:=qe oG
abbrev apa:=WB.B
abbrev apb:=Int->Int->Int->Bool->Option apa
def apc (g:apb):Ct:=(99,FC ao9 (lf WB) (λb=>g b.1.1 b.1.2.1 b.1.b b.2))
def apd (kC:aaL)(EA:avQ)(Oc:ao6)(pI:aaR)(x0:Int)(x1:Int)(x2:Int)(x3:Bool):Pg apa:=opt (kC x0 x3) λd=>opt (kC x1 d.2) λaj=>opt (EA d.1 aj.1) λd=>opt (Oc d.1 d.2.1 d.2.2 x2) λd=>opt (pI d.1 d.2.1 d.2.2 aj.2) λd=>ret d
def aaU:=λx0 x1 x2 x3=>(apd GH acI aaT GI x0 x1 x2 x3).val
theorem aDS:∀kC EA Oc pI,D0 [aaM kC,avR EA,ao7 Oc,aaS pI] 99 ao9 (lf WB) λb=>apd kC EA Oc pI b.1.1 b.1.2.1 b.1.b b.2:=λ_ _ _ _ b=>by kernel_rfl
theorem aDT [ax]:SC (apc aaU):=s0 (.c aoP (.c aFc (.c aDR (.c ao3 (.nil _))))) (aDS GH acI aaT GI)
def ayp:=qa (pr (cu aN FZ) cq)
def afA:=qe oG
abbrev ayq:=afA.B
abbrev ayr:=Int->Int->Bool->Option ayq
def ays (g:ayr):Ct:=(60,FC ayp (lf afA) (λb=>g b.1.1 b.1.2 b.2))
def ayt (Od:apb)(x0:Int)(x1:Int)(x2:Bool):Pg ayq:=opt (Od x0 x1 30 x2) λd=>ret d
def alN:=λx0 x1 x2=>(ayt aaU x0 x1 x2).val
theorem aJX:∀Od,D0 [apc Od] 60 ayp (lf afA) λb=>ayt Od b.1.1 b.1.2 b.2:=λ_ b=>by kernel_rfl
theorem aJY [ax]:SC (ays alN):=s0 (.c aDT (.nil _)) (aJX aaU)
def atP:=qa (pl FZ nil)
def aaV:=qe (res (pl (aa (c gi (c gi (cu aQ (cu aQ (cu aQ (cu aQ (cu aQ kD)))))))) (pu nil nil)))
abbrev atQ:=aaV.B
abbrev Lf:=Int->Int->Option atQ
def afB (g:Lf):Ct:=(26,FC atP (lf aaV) (λb=>g b.1 b.2))
def atS (Lg:alK)(YJ:ayr)(x0:Int)(x1:Int):Pg atQ:=opt (Lg x1 false) λd=>opt (YJ 10529810258 d.1 d.2) λd=>ret (x0,x1,wI (0-d.1))
def AD:=λx0 x1=>(atS Wz alN x0 x1).val
theorem aHw:∀Lg YJ,D0 [alL Lg,ays YJ] 26 atP (lf aaV) λb=>atS Lg YJ b.1 b.2:=λ_ _ b=>by kernel_rfl
theorem atT [ax]:SC (afB AD):=s0 (.c aCI (.c aJY (.nil _))) (aHw Wz alN)
def rD:=qa (pu (cu eZ nil) (cd oH λb0=>(c kF (c lG (c (cl (gs b0.c.1 lF) nil) (cd pK λb4=>(cd m8 λb5=>(cd m9 λb6=>(cd na λb7=>(cd nc λb8=>(cd nd λb9=>(c lk (cd qU λsi=>(c (cl (gs b0.e jP) nil) (c (cl (gs b4.b.1 ay) nil) (c (cl (gs b5.b.1 ay) nil) (c (cl (gs b6.b.1 ay) nil) (c (cl (gs b7.b.1 ay) nil) (c (cl (gs b8.b.1 ay) nil) (c (cl (gs b9.b.1 ay) nil) (cl (cl (gs si.b gA) nil) nil)))))))))))))))))))))
def DS:=qe (res (pl (o9 (c acW (cl ahW nil))) (pu ah0 nil)))
abbrev FQ:=DS.B
abbrev FR:=rD.B->Option FQ
def FT (g:FR):Ct:=(24,FC rD (lf DS) g)
def Sd (x:rD.B):Pg FQ:=ret (x.1.2.2.1,x.1.2.2.2.1)
def rE:=λx=>(Sd x).val
theorem amO:D0 [] 24 rD (lf DS) λb=>Sd b:=λb=>by kernel_rfl
theorem Se [ax]:SC (FT rE):=s0 (.nil _) amO
def I4:=qa (pu (cu FX nil) (cd (c gi (c gi (cl (gc (wz 1 11)) nil))) λb0=>(cl (cl (gs b0.b gA) nil) nil)))
def xo:=qe (res (pr aPq (pu at4 aAa)))
abbrev I5:=xo.B
abbrev I6:=Int->Int->Nat->NI->NI->NI->NI->NI->NI->NI->NI->NI->NI->NI->Option I5
def I7 (g:I6):Ct:=(59,FC I4 (lf xo) (λb=>g b.1.1 b.1.2.1 b.1.b b.2.1 b.b.1 b.b.2.1 b.c.1 b.c.2.1 b.c.b.1 b.c.b.2.1 b.d.1 b.d.2.1 b.d.b.1 b.d.b.2))
def yH (x0:Int)(x1:Int)(x2:Nat)(x3:Nat->Int)(x4:Nat->Int)(x5:Nat->Int)(x6:Nat->Int)(x7:Nat->Int)(x8:Nat->Int)(x9:Nat->Int)(fS:Nat->Int)(fT:Nat->Int)(BF:Nat->Int)(x13:Nat->Int):Pg I5:=let y0:=0+x2;ae (Nat.ble (y0*88) 140737488355328) (ret (y0,x2,x3,x4,x5,x6,x7,x8,x9,fS,fT,BF,x13)) no
def qS:=λx0 x1 x2 x3 x4 x5 x6 x7 x8 x9 fS fT BF x13=>(yH x0 x1 x2 x3 x4 x5 x6 x7 x8 x9 fS fT BF x13).val
theorem acP:D0 [] 59 I4 (lf xo) λb=>yH b.1.1 b.1.2.1 b.1.b b.2.1 b.b.1 b.b.2.1 b.c.1 b.c.2.1 b.c.b.1 b.c.b.2.1 b.d.1 b.d.2.1 b.d.b.1 b.d.b.2:=λb=>by kernel_rfl
theorem acQ [ax]:SC (I7 qS):=s0 (.nil _) acP
def uq:=qa (pu (cu eZ nil) (cd oH λb0=>(c kF (c lG (c (cl (gs b0.c.1 lF) nil) (cd pK λb4=>(cd m8 λb5=>(cd m9 λb6=>(cd na λb7=>(cd nc λb8=>(cd nd λb9=>(c lk (cd qU λsi=>(c (cl (gs b0.e jP) nil) (c (cl (gs b4.b.1 ay) nil) (c (cl (gs b5.b.1 ay) nil) (c (cl (gs b6.b.1 ay) nil) (c (cl (gs b7.b.1 ay) nil) (c (cl (gs b8.b.1 ay) nil) (c (cl (gs b9.b.1 ay) nil) (cl (cl (gs si.b gA) nil) nil)))))))))))))))))))))
def FU:=qe (res (pr (ac (wz 20 11)) (pu ah0 aAa)))
abbrev WC:=FU.B
abbrev Ii:=uq.B->Option WC
def Ij (g:Ii):Ct:=(25,FC uq (lf FU) g)
def Ik (qT:I6)(x:uq.B):Pg WC:=let n2:=x.2.2.2.2.2.2.2.2.2.2.2;let n1:=n2.2.2.2.2.2.2.2.2;let n3:=n1.2.2.2.2.2;ae (Nat.beq n2.1.2.2 n2.1.2.2) (opt (qT n2.1.1 n2.1.2.1 n2.1.2.2 n1.1 n1.2.1 n1.2.2.1 n1.2.2.2.1 n1.2.2.2.2.1 n3.1 n3.2.1 n3.2.2.1 n3.2.2.2.1 n3.2.2.2.2.1 n3.2.2.2.2.2) λd=>ret d) no
def o6:=λx=>(Ik qS x).val
theorem aqS:∀qT,D0 [I7 qT] 25 uq (lf FU) λb=>Ik qT b:=λ_ b=>by kernel_rfl
theorem WD [ax]:SC (Ij o6):=s0 (.c acQ (.nil _)) (aqS qS)
def wx:=qa (pr (cu eZ fM) (cd oH λb0=>(c kF (c lG (c (cl (gs b0.c.1 lF) nil) (cd pK λb4=>(cd m8 λb5=>(cd m9 λb6=>(cd na λb7=>(cd nc λb8=>(cd nd λb9=>(c lk (cd qU λsi=>(c (cl (gs b0.e jP) nil) (c (cl (gs b4.b.1 ay) nil) (c (cl (gs b5.b.1 ay) nil) (c (cl (gs b6.b.1 ay) nil) (c (cl (gs b7.b.1 ay) nil) (c (cl (gs b8.b.1 ay) nil) (c (cl (gs b9.b.1 ay) nil) (cl (cl (gs si.b gA) nil) nil)))))))))))))))))))))
def BX:=qe (res (pl (aa iy) (pu ah0 nil)))
abbrev PJ:=BX.B
abbrev alO:=wx.B->Option PJ
def PK (g:alO):Ct:=(23,FC wx (lf BX) g)
def PM (yG:ace)(x:wx.B):Pg PJ:=let n1:=x.2.2.2.2.2;opt (yG x.1) λd=>ae (!d) (ret (0,0,0,0,0)) (ae (aW x.1 6) (ae (x.1==5) (ret n1.2.2.2.2.2.1.1) (ae (x.1==4) (ret n1.2.2.2.2.1.1) (ae (x.1==3) (ret n1.2.2.2.1.1) (ae (x.1==2) (ret n1.2.2.1.1) (ae (x.1==1) (ret n1.2.1.1) (ret n1.1.1)))))) no)
def PN:=λx=>(PM Et x).val
theorem alP:∀yG,D0 [al5 yG] 23 wx (lf BX) λb=>PM yG b:=λ_ b=>by kernel_rfl
theorem alQ [ax]:SC (PK PN):=s0 (.c avE (.nil _)) (alP Et)
def AE:=qa (pu (cu Te nil) (cd ac1 λb0=>(cl (cl (gs b0.b.1 ay) nil) nil)))
def FW:=qe aKD
abbrev WE:=FW.B
abbrev WG:=AE.B->Option WE
def WH (g:WG):Ct:=(65,FC AE (lf FW) g)
def WI (x:AE.B):Pg WE:=ret (Int.ofNat x.1.2.2.1)
def Il:=λx=>(WI x).val
theorem aqT:D0 [] 65 AE (lf FW) λb=>WI b:=λb=>by kernel_rfl
theorem aqU [ax]:SC (WH Il):=s0 (.nil _) aqT
def Cs:=qa (pr (cu eZ fM) (cd oH λb0=>(c kF (c lG (c (cl (gs b0.c.1 lF) nil) (cd pK λb4=>(cd m8 λb5=>(cd m9 λb6=>(cd na λb7=>(cd nc λb8=>(cd nd λb9=>(c lk (cd qU λsi=>(c (cl (gs b0.e jP) nil) (c (cl (gs b4.b.1 ay) nil) (c (cl (gs b5.b.1 ay) nil) (c (cl (gs b6.b.1 ay) nil) (c (cl (gs b7.b.1 ay) nil) (c (cl (gs b8.b.1 ay) nil) (c (cl (gs b9.b.1 ay) nil) (cl (cl (gs si.b gA) nil) nil)))))))))))))))))))))
def Im:=qe aQ0
abbrev YK:=Im.B
abbrev atU:=Cs.B->Option YK
def YL (g:atU):Ct:=(28,FC Cs (lf Im) g)
def YM (yG:ace)(iS:WG)(x:Cs.B):Pg YK:=let n4:=x.2.2.2.2.2;let n1:=n4.2;let n3:=n1.2.2;let n2:=n3.2.2.2.2.2.2;opt (yG x.1) λd=>ae (!d) (ret 0) (ae (aW x.1 6) (ae (x.1==5) (ae (Nat.beq n3.2.2.1.2.2.1 n3.2.2.1.2.2.1) (opt (iS (n3.2.2.1,n2.2.2.2.2.2.1)) λd=>ret d) no) (ae (x.1==4) (ae (Nat.beq n3.2.1.2.2.1 n3.2.1.2.2.1) (opt (iS (n3.2.1,n2.2.2.2.2.1)) λd=>ret d) no) (ae (x.1==3) (ae (Nat.beq n3.1.2.2.1 n3.1.2.2.1) (opt (iS (n3.1,n2.2.2.2.1)) λd=>ret d) no) (ae (x.1==2) (ae (Nat.beq n1.2.1.2.2.1 n1.2.1.2.2.1) (opt (iS (n1.2.1,n2.2.2.1)) λd=>ret d) no) (ae (x.1==1) (ae (Nat.beq n1.1.2.2.1 n1.1.2.2.1) (opt (iS (n1.1,n2.2.1)) λd=>ret d) no) (ae (Nat.beq n4.1.2.2.1 n4.1.2.2.1) (opt (iS (n4.1,n2.1)) λd=>ret d) no)))))) no)
def YN:=λx=>(YM Et Il x).val
theorem atV:∀yG iS,D0 [al5 yG,WH iS] 28 Cs (lf Im) λb=>YM yG iS b:=λ_ _ b=>by kernel_rfl
theorem atW [ax]:SC (YL YN):=s0 (.c avE (.c aqU (.nil _))) (atV Et Il)
end Go.Proofs.YtldgljclcgaibaaGreat
