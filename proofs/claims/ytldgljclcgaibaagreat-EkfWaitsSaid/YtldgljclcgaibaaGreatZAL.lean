/-
  Parts of the proof: Q6 TSp TDn Q7 TIm Q8
-/
import Derived.Test.YtldgljclcgaibaaGreatZAE
import Derived.Test.YtldgljclcgaibaaGreatZAK
set_option linter.unusedVariables false
set_option linter.unusedSimpArgs false
set_option maxRecDepth 100000
set_option maxHeartbeats 4000000
noncomputable section
namespace Go.Proofs.YtldgljclcgaibaaGreat
open Go.Ab Go.Ab.Pg Go.Ab.Rq
def pk:=qa (pr (cu ep Y0) (cd oA λb0=>(c jY (c lr (c (cl (gs b0.c.1 lq) nil) (cd oT λb4=>(cd nh λb5=>(cd ni λb6=>(cd nj λb7=>(cd nk λb8=>(cd nm λb9=>(c kG (cd pX λrI=>(c (cl (gs b0.e jq) nil) (c (cl (gs b4.b.1 aA) nil) (c (cl (gs b5.b.1 aA) nil) (c (cl (gs b6.b.1 aA) nil) (c (cl (gs b7.b.1 aA) nil) (c (cl (gs b8.b.1 aA) nil) (c (cl (gs b9.b.1 aA) nil) (cl (cl (gs rI.b fX) nil) nil)))))))))))))))))))))
def amY:=qe (res (pu Tl (pr (c (zM (a 26 u3 (c gb (c jo (a 2 w8 (cu afS (cu afT (c aGA (au 6 ada (cu am8 (a 4 Ca (cu am9 (c gb (c gi (a 3 jW (c gb (c gb (c gb (c gi (c gi (c gi (a 10 Cb (cl (gc (il (pu (nat 20) (pu (ox (pu dE (pu dE (nat 10)))) (pl jQ (pu (nat 10) iy)))))) nil))))))))))))))))))))))) (cu eW (cu eW (cu eW (c (zM (a 5 ix (c gi (c (gc aMo) kF)))) (c (zM apD) (c (zM aSG) (c (zM aSH) (c (zM aSI) (c (zM aSJ) (c aAF (cl (zM (c gi (c gi (cl (gc (il (pu (nat 27) (pu (ox (pu dE (pu dE L3))) (pl jQ (pu L3 iy)))))) nil)))) (cu eW aR3))))))))))))) aMK)))
abbrev uK:=(((Js×Bool×NI×(NI×NI)×Nat×tM×Bool×Int×nr×Bool×Bool×Bool×Int×Int×Int×HI×Nat)×cz×cz×cz×cz×cz×cz×So×Int×Int×Nat)×HJ×eD×eD×eD×eD×eD×eD×Nat×NI×NI×NI×NI×NI×NI×NI×NI×NI×NI×NI)
def Wz:uK->T:=λd=>lf amY (d.1,d.2.1,(d.1.2.1.b.1,d.b.1),(d.1.b.1.b.1,d.b.2.1),(d.1.b.2.1.b.1,d.c.1),(d.1.c.1.b.1,d.c.2.1),(d.1.c.2.1.b.1,d.c.b.1),(d.1.c.b.1.b.1,d.c.b.2.1),d.d)
abbrev IB:=pk.B->Option uK
def WA (g:IB):Ct:=(64,FC pk Wz g)
def eO:=qs (st (dp (cu ep (us 2 (cu Xp (cu L5 (c ai (us 53 (c ai (us 10 (c (ac aMo) (c ai (cl ai (us 126 nil)))))))))))) λv=>(pl (c aAM (c rV (c rW (c uY (cd HM λb4=>(cd HN λb5=>(cd HO λb6=>(cd HP λb7=>(cd HQ λb8=>(cd adf λb9=>(c pY (c ade (c uZ (cu nO (cu nO (cu nO (cu nO (cu nO (cu nO (cu nO (c C8 (c (so (cl (gs v.b.1 aA) nil)) (c uZ (c (so (cl (gs b4.b.1 aA) nil)) (c (so (cl (gs b5.b.1 aA) nil)) (c (so (cl (gs b6.b.1 aA) nil)) (c (so (cl (gs b7.b.1 aA) nil)) (c (so (cl (gs b8.b.1 aA) nil)) (c (so (cl (gs b9.b.1 aA) nil)) Jt))))))))))))))))))))))))))))) Tu)))
def alO:=qs (st (pr (cu ep (us 2 (cu Xp (cu L5 (c ai (us 53 (c ai (us 10 (c (ac aMo) (c ai (c ai (cl ab (us 125 nil))))))))))))) (pl (c aAM (c rV (c rW (c uY (c HM (c HN (c HO (c HP (c HQ (c adf (c pY (c ade (c uZ (cu nO (cu nO (cu nO (cu nO (cu nO (cu nO (cu nO (c C8 (c Fv L8)))))))))))))))))))))) Tu)))
abbrev kv:=((Int×Int×Nat×Int×Int×Bool)×(Js×Bool×NI×(NI×NI)×Nat×tM×Bool×Int×nr×Bool×Bool×Bool×Int×Int×Int×HI×Nat)×(nr×Int×Int)×Tk×YV×cz×cz×cz×cz×cz×cz×So×xM×HJ×aAt×eD×HJ×eD×eD×eD×eD×eD×eD×Nat×NI×NI×NI×NI×NI×NI×NI×NI×NI×NI×NI)
def PI {ρ:Type}(x:kv)(K:AX->St->Option ρ):Option ρ:=(λd=>K (.ex 2) (alO.em (d.1,d.2.1,d.b.1,d.b.2.1,d.c.1,d.c.2.1,d.c.b.1,d.c.b.2.1,d.d.1,d.d.2.1,d.d.b.1,d.d.b.2.1,d.d.c.1,d.d.c.2.1,d.d.c.b.1,(d.1.b.1,d.d.c.b.2.1),d.e.1,(d.c.2.1.b.1,d.e.2.1),(d.c.b.1.b.1,d.e.b.1),(d.c.b.2.1.b.1,d.e.b.2.1),(d.d.1.b.1,d.e.c.1),(d.d.2.1.b.1,d.e.c.2.1),(d.d.b.1.b.1,d.e.c.b.1),d.e.c.b.2))) x
def Ed (at3:Ln)(d:eO.B):PL eO kv:=let bh:=d.2.1.2.2.2.2;let n15:=bh.2.2.2.2.2.2.2.2.2.2.2.2;let n8:=d.1.2.2;let n18:=n8.2.2;let n6:=d.2.2.2;let bx:=n6.2.2.1;let n3:=n6.2.2.2;let n16:=n3.2.1;let bL:=n3.2.2.1;let n7:=n3.2.2.2;let n17:=n7.2.1;let n2:=n7.2.2.2;let n5:=n2.2.2.2;let bp:=n5.2.2.2.2;let aY:=n5.1.2.2.2;let n4:=bp.2.2.2.2.2;let n9:=n4.2.2.2.2.2;let n1:=(d.1.1,d.1.2.1,n8.1,n8.2.1,wI (n18+1));let y0:=0+Int.toNat n18;let y1:=decide (n18<n8.2.1);ae y1 (ae (aX n18 n8.1) (ae (Nat.beq bh.1 bh.1) (ae (Nat.beq n15 n15) (ae (Nat.beq bx.2.2.1 bx.2.2.1) (ae (Nat.beq n3.1.2.2.1 n3.1.2.2.1) (ae (Nat.beq n16.2.2.1 n16.2.2.1) (ae (Nat.beq bL.2.2.1 bL.2.2.1) (ae (Nat.beq n7.1.2.2.1 n7.1.2.2.1) (ae (Nat.beq n17.2.2.1 n17.2.2.1) (ae (Nat.beq n2.1.2.2 n2.1.2.2) (opt (at3 ((d.1.1,n5.1.1 y0,n5.1.2.1 y0,n5.1.2.2.1 y0,aY.1 y0,aY.2.1 y0,aY.2.2.1 y0,aY.2.2.2.1 y0,aY.2.2.2.2.1 y0,aY.2.2.2.2.2 y0),d.2.1,d.2.2.1,n6.1,(sh8 0 n6.2.1.2),bx,n3.1,n16,bL,n7.1,n17,n7.2.2.1,n2.1,(aAs 0 n5.2.1.2),(C4 0 n5.2.2.1),(C4 0 n5.2.2.2.1),(C4 0 bp.1),(C4 0 bp.2.1),(C4 0 bp.2.2.1),(C4 0 bp.2.2.2.1),λj=>n4.1 (0+j),λj=>n4.2.1 (0+j),λj=>n4.2.2.1 (0+j),λj=>n4.2.2.2.1 (0+j),λj=>n4.2.2.2.2.1 (0+j),λj=>n9.1 (0+j),λj=>n9.2.1 (0+j),λj=>n9.2.2.1 (0+j),λj=>n9.2.2.2.1 (0+j),λj=>n9.2.2.2.2.1 (0+j),λj=>n9.2.2.2.2.2 (0+j))) λaj=>sm aj (λaI=>ret (Sum.inl (n1,aI.1,d.2.2.1,n6.1,n6.2.1,bx,n3.1,n16,bL,n7.1,n17,aI.2,n2))) (λaI=>ret (Sum.inl (n1,aI.1.1,d.2.2.1,n6.1,n6.2.1,bx,n3.1,n16,bL,n7.1,n17,aI.1.2,n2.1,n2.2.1,n2.2.2.1,n5.1,(aI.1.1.2.2.2.2.2.2.2.2.2.2.2.2.2.2.2.2,aI.2),n5.2.2)))) no) no) no) no) no) no) no) no) no) no) (ret (Sum.inr ((d.1.1,d.1.2.1,n8.1,n8.2.1,n18,y1),d.2)))
def wQ:=bD (Ed wP) 2000
def fB:=qs (st (pr (cu ep (us 2 (cu Xp (cu L5 (us 3 (cu aQ6 (us 92 (cl ai (us 97 nil))))))))) (pl (c aAM (c rV (c rW (c uY (cd HM λb4=>(cd HN λb5=>(cd HO λb6=>(cd HP λb7=>(cd HQ λb8=>(cd adf λb9=>(c pY (c ade (c uZ (cu nO (cu nO (cu nO (cu nO (cu nO (cu nO (cu nO (c C8 (c aSx (c uZ (c (so (cl (gs b4.b.1 aA) nil)) (c (so (cl (gs b5.b.1 aA) nil)) (c (so (cl (gs b6.b.1 aA) nil)) (c (so (cl (gs b7.b.1 aA) nil)) (c (so (cl (gs b8.b.1 aA) nil)) (c (so (cl (gs b9.b.1 aA) nil)) Jt))))))))))))))))))))))))))))) Tu)))
def alP:=qs (st (pr (cu ep (us 2 (cu Xp (cu L5 (us 3 (cu aQ6 (us 92 (c ai (cl ab (us 96 nil)))))))))) (pl (c aAM (c rV (c rW (c uY (c HM (c HN (c HO (c HP (c HQ (c adf (c pY (c ade (c uZ (cu nO (cu nO (cu nO (cu nO (cu nO (cu nO (cu nO (c C8 (c aSx L8)))))))))))))))))))))) Tu)))
abbrev mV:=((Int×Bool)×(Js×Bool×NI×(NI×NI)×Nat×tM×Bool×Int×nr×Bool×Bool×Bool×Int×Int×Int×HI×Nat)×(nr×Int×Int)×Tk×YV×cz×cz×cz×cz×cz×cz×So×xM×HJ×aAt×(Bool×Bool×Bool×Bool×Bool×Bool×Bool×Bool×Int×Int)×HJ×eD×eD×eD×eD×eD×eD×Nat×NI×NI×NI×NI×NI×NI×NI×NI×NI×NI×NI)
def PJ {ρ:Type}(x:mV)(K:AX->St->Option ρ):Option ρ:=(λd=>K (.ex 4) (alP.em (d.1,d.2.1,d.b.1,d.b.2.1,d.c.1,d.c.2.1,d.c.b.1,d.c.b.2.1,d.d.1,d.d.2.1,d.d.b.1,d.d.b.2.1,d.d.c.1,d.d.c.2.1,d.d.c.b.1,d.d.c.b.2.1,d.e.1,(d.c.2.1.b.1,d.e.2.1),(d.c.b.1.b.1,d.e.b.1),(d.c.b.2.1.b.1,d.e.b.2.1),(d.d.1.b.1,d.e.c.1),(d.d.2.1.b.1,d.e.c.2.1),(d.d.b.1.b.1,d.e.c.b.1),d.e.c.b.2))) x
def Ee (aaR:xt)(d:fB.B):PL fB mV:=let n15:=d.2.1;let n7:=d.2.2;let n16:=n7.2.1;let n8:=n7.2.2.1;let n2:=n7.2.2.2;let n17:=n2.2.1;let n9:=n2.2.2.1;let n4:=n2.2.2.2;let n18:=n4.2.1;let aY:=n4.2.2.1;let n1:=n4.2.2.2;let n19:=n1.2.1;let bp:=n1.1.1.2;let bh:=n1.2.2.1;let n6:=n1.2.2.2;let n20:=n6.2.2;let n3:=n6.2.1;let n21:=n3.2.1;let bx:=n3.2.2.1;let n5:=n3.2.2.2;let bL:=n5.2.2;let y0:=wI (d.1+1);let y1:=decide (d.1<6);ae y1 (opt (aaR d.1 n6.1.1 n1.1.1.1 bp.1 bp.2.1 bp.2.2.1 bp.2.2.2.1 bp.2.2.2.2 n1.1.2) λaj=>ae (aX d.1 6) (ae (d.1==5) (ret (Sum.inl (y0,n15,n7.1,n16,n8,n2.1,n17,n9,n4.1,n18,aY,n1.1,n19,bh,n6.1,(n3.1,n21,bx,n5.1,n5.2.1,bL.1,bL.2.1,aj,bL.2.2.2),n20))) (ae (d.1==4) (ret (Sum.inl (y0,n15,n7.1,n16,n8,n2.1,n17,n9,n4.1,n18,aY,n1.1,n19,bh,n6.1,(n3.1,n21,bx,n5.1,n5.2.1,bL.1,aj,bL.2.2),n20))) (ae (d.1==3) (ret (Sum.inl (y0,n15,n7.1,n16,n8,n2.1,n17,n9,n4.1,n18,aY,n1.1,n19,bh,n6.1,(n3.1,n21,bx,n5.1,n5.2.1,aj,bL.2),n20))) (ae (d.1==2) (ret (Sum.inl (y0,n15,n7.1,n16,n8,n2.1,n17,n9,n4.1,n18,aY,n1.1,n19,bh,n6.1,(n3.1,n21,bx,n5.1,aj,bL),n20))) (ae (d.1==1) (ret (Sum.inl (y0,n15,n7.1,n16,n8,n2.1,n17,n9,n4.1,n18,aY,n1.1,n19,bh,n6.1,(n3.1,n21,bx,aj,n5.2),n20))) (ret (Sum.inl (y0,n15,n7.1,n16,n8,n2.1,n17,n9,n4.1,n18,aY,n1.1,n19,bh,n6.1,(n3.1,n21,aj,n5),n20)))))))) no) (ret (Sum.inr ((d.1,y1),d.2)))
def Ef:=bD (Ee lU) 2000
def jt:=qs (st (pu aSt (pl (c auL (c rV (c rW (c uY (cd (so apD) λb4=>(cd HM λb5=>(cd HN λb6=>(cd HO λb7=>(cd HP λb8=>(cd HQ λb9=>(c pY (c auF (c uZ (cu nO (cu nO (cu nO (cu nO (cu nO (cu nO (cu nO (c C8 (c uZ (c (so (cl (gs b4.b.1 aA) nil)) (c (so (cl (gs b5.b.1 aA) nil)) (c (so (cl (gs b6.b.1 aA) nil)) (c (so (cl (gs b7.b.1 aA) nil)) (c (so (cl (gs b8.b.1 aA) nil)) (c (so (cl (gs b9.b.1 aA) nil)) Jt)))))))))))))))))))))))))))) Tu)))
def acI:=qs aMR
def acJ:=qs aMQ
abbrev mW:=((Bool×NI×Int×Int)×(Js×Bool×(NI×NI)×Nat×tM×Int×nr×Bool×Bool×Bool×Int×Int×Int×HI×Nat)×(nr×Int×Int)×Tk×YV×cz×cz×cz×cz×cz×cz×So×xM×HJ×aN5×HJ×eD×eD×eD×eD×eD×eD×Nat×NI×NI×NI×NI×NI×NI×NI×NI×NI×NI×NI)⊕(Bool×(Js×Bool×NI×(NI×NI)×Nat×tM×Int×nr×Bool×Bool×Bool×Int×Int×Int×HI×Nat)×(nr×Int×Int)×Tk×YV×cz×cz×cz×cz×cz×cz×So×xM×HJ×aAt×HJ×eD×eD×eD×eD×eD×eD×Nat×NI×NI×NI×NI×NI×NI×NI×NI×NI×NI×NI)
def PK {ρ:Type}(x:mW)(K:AX->St->Option ρ):Option ρ:=(Sum.elim (λd=>K .nrm (acI.em (d.1,(d.2.1.1,d.2.1.2.1,d.1.2.1,d.2.1.b.1,d.2.1.b.2.1,d.2.1.c.1,d.1.1,d.2.1.c.2),d.b.1,d.b.2.1,d.c.1,d.c.2.1,d.c.b.1,d.c.b.2.1,d.d.1,d.d.2.1,d.d.b.1,d.d.b.2.1,d.d.c.1,d.d.c.2.1,(d.1.b.1,d.d.c.b.1),d.d.c.b.2.1,(d.c.2.1.b.1,d.e.1),(d.c.b.1.b.1,d.e.2.1),(d.c.b.2.1.b.1,d.e.b.1),(d.d.1.b.1,d.e.b.2.1),(d.d.2.1.b.1,d.e.c.1),(d.d.b.1.b.1,d.e.c.2.1),d.e.c.b))) (λd=>K .nrm (acJ.em (d.1,(d.2.1.1,d.2.1.2.1,d.2.1.b.1,d.2.1.b.2.1,d.2.1.c.1,d.2.1.c.2.1,d.1,d.2.1.c.b),d.b.1,d.b.2.1,d.c.1,d.c.2.1,d.c.b.1,d.c.b.2.1,d.d.1,d.d.2.1,d.d.b.1,d.d.b.2.1,d.d.c.1,d.d.c.2.1,d.d.c.b.1,d.d.c.b.2.1,(d.c.2.1.b.1,d.e.1),(d.c.b.1.b.1,d.e.2.1),(d.c.b.2.1.b.1,d.e.b.1),(d.d.1.b.1,d.e.b.2.1),(d.d.2.1.b.1,d.e.c.1),(d.d.b.1.b.1,d.e.c.2.1),d.e.c.b)))) x
def Eg (Td:sP)(d:jt.B):Pg mW:=let bp:=d.1.2;let n6:=d.2.2.2.2.2;let bL:=n6.2.2.2;let n5:=bp.2.2;let bh:=n5.2.2;let n2:=bL.2.2.2;let bx:=n2.2.2;let n8:=bx.2.2.2;let n1:=n8.2.2.2.2.2;let n9:=n1.2.2.2;let n3:=n9.2.2.2;let aY:=n3.2.2.2;ae bh.2.1 (ae (Nat.beq n2.1.2.2 n2.1.2.2) (opt (Td ((bp.2.1,bx.1.1),n2.1,bp.1,λj=>n1.2.1 (0+j),λj=>n1.2.2.1 (0+j),λj=>n9.1 (0+j),λj=>n9.2.1 (0+j),λj=>n9.2.2.1 (0+j),λj=>n3.1 (0+j),λj=>n3.2.1 (0+j),λj=>n3.2.2.1 (0+j),λj=>aY.1 (0+j),λj=>aY.2.1 (0+j),λj=>aY.2.2 (0+j))) λaj=>let n4:=aj.2.2;let n7:=n4.2.2.2.2.2;let n15:=n7.2.2.2;let y0:=n4.1*11+0;ae (true&&Nat.beq y0 (n2.1.2.2*11)&&true) (ae (true&&Nat.ble (0+y0) (n1.1*11+0)) (ret (Sum.inl ((bh.2.1,bp.2.1,bx.1.1,aj.1),(d.1.1,aj.2.1,n5.1,n5.2.1,bh.1,bh.2.2),d.2.1,d.2.2.1,d.2.2.2.1,d.2.2.2.2.1,n6.1,n6.2.1,n6.2.2.1,bL.1,bL.2.1,bL.2.2.1,n2.1,n2.2.1,bx.1.2,bx.2.1,bx.2.2.1,n8.1,n8.2.1,n8.2.2.1,n8.2.2.2.1,n8.2.2.2.2.1,n1.1,λj=>bif true&&Nat.blt j (0+n4.1) then n4.2.1 j else n1.2.1 j,λj=>bif true&&Nat.blt j (0+n4.1) then n4.2.2.1 j else n1.2.2.1 j,λj=>bif true&&Nat.blt j (0+n4.1) then n4.2.2.2.1 j else n9.1 j,λj=>bif true&&Nat.blt j (0+n4.1) then n4.2.2.2.2.1 j else n9.2.1 j,λj=>bif true&&Nat.blt j (0+n4.1) then n7.1 j else n9.2.2.1 j,λj=>bif true&&Nat.blt j (0+n4.1) then n7.2.1 j else n3.1 j,λj=>bif true&&Nat.blt j (0+n4.1) then n7.2.2.1 j else n3.2.1 j,λj=>bif true&&Nat.blt j (0+n4.1) then n15.1 j else n3.2.2.1 j,λj=>bif true&&Nat.blt j (0+n4.1) then n15.2.1 j else aY.1 j,λj=>bif true&&Nat.blt j (0+n4.1) then n15.2.2.1 j else aY.2.1 j,λj=>bif true&&Nat.blt j (0+n4.1) then n15.2.2.2 j else aY.2.2 j))) no) no) no) (ret (Sum.inr (bh.2.1,(d.1.1,bp.1,bp.2.1,n5.1,n5.2.1,bh.1,bh.2.2),d.2)))
def wR (d:jt.B):Option mW:=(Eg jN d).val
def fC:=qs (st (pr (cu ep (us 2 (cu Xp (cu L5 (us 54 (cl ai (us 139 nil))))))) (pl (c auL (c rV (c rW (c uY (cd (so apD) λb4=>(cd HM λb5=>(cd HN λb6=>(cd HO λb7=>(cd HP λb8=>(cd HQ λb9=>(c pY (c auF (c uZ (cu nO (cu nO (cu nO (cu nO (cu nO (cu nO (cu nO (c C8 (c uZ (c (so (cl (gs b4.b.1 aA) nil)) (c (so (cl (gs b5.b.1 aA) nil)) (c (so (cl (gs b6.b.1 aA) nil)) (c (so (cl (gs b7.b.1 aA) nil)) (c (so (cl (gs b8.b.1 aA) nil)) (c (so (cl (gs b9.b.1 aA) nil)) Jt)))))))))))))))))))))))))))) Tu)))
def alQ:=qs (st (pr (cu ep (us 2 (cu Xp (cu L5 (us 54 (c ai (cl ab (us 138 nil)))))))) (pl (c auL (c rV (c rW (c uY (c (so apD) (c HM (c HN (c HO (c HP (c HQ (c pY (c auF (c uZ (cu nO (cu nO (cu nO (cu nO (cu nO (cu nO (cu nO (c C8 L8))))))))))))))))))))) Tu)))
abbrev mX:=((Int×Bool)×(Js×Bool×NI×(NI×NI)×Nat×tM×Bool×Int×nr×Bool×Bool×Bool×Int×Int×Int×HI×Nat)×(nr×Int×Int)×Tk×YV×cz×cz×cz×cz×cz×cz×So×xM×HJ×aAt×HJ×eD×eD×eD×eD×eD×eD×Nat×NI×NI×NI×NI×NI×NI×NI×NI×NI×NI×NI)
def PM {ρ:Type}(x:mX)(K:AX->St->Option ρ):Option ρ:=(λd=>K (.ex 0) (alQ.em (d.1,d.2.1,d.b.1,d.b.2.1,d.c.1,d.c.2.1,d.c.b.1,d.c.b.2.1,d.d.1,d.d.2.1,d.d.b.1,d.d.b.2.1,d.d.c.1,d.d.c.2.1,d.d.c.b.1,d.d.c.b.2.1,(d.c.2.1.b.1,d.e.1),(d.c.b.1.b.1,d.e.2.1),(d.c.b.2.1.b.1,d.e.b.1),(d.d.1.b.1,d.e.b.2.1),(d.d.2.1.b.1,d.e.c.1),(d.d.b.1.b.1,d.e.c.2.1),d.e.c.b))) x
def Eh (pn:Ii)(qd:LT eO kv)(d:fC.B):PL fC mX:=let n39:=d.2.1;let n17:=d.2.2;let Jp:=n17.2.1;let n4:=n17.2.2;let n30:=n4.2.1;let n19:=n4.2.2.1;let n2:=n4.2.2.2;let n31:=n2.2.1;let n20:=n2.2.2.1;let n5:=n2.2.2.2;let Jq:=n5.2.1;let n18:=n5.2.2;let GZ:=n18.2.1;let n1:=n18.2.2;let Li:=n1.2.1;let Lh:=n1.1.1;let n6:=n1.2.2;let n32:=n6.2.1;let n21:=n6.1.2.2.2;let bL:=n32.2.2.2;let n3:=n6.2.2;let Ro:=n3.2.1;let n22:=n3.1.2.2.2;let n15:=Ro.2.2.2;let bx:=n3.2.2;let n23:=bx.1.2.2.2;let n16:=bx.2.1.2.2.2;let y0:=decide (d.1<6);let y1:=Nat.beq n30.2.2.1 n30.2.2.1;let y2:=Nat.beq n19.2.2.1 n19.2.2.1;let y3:=Nat.beq n2.1.2.2.1 n2.1.2.2.1;let y4:=Nat.beq n31.2.2.1 n31.2.2.1;let y5:=Nat.beq n20.2.2.1 n20.2.2.1;let y6:=Nat.beq n5.1.2.2.1 n5.1.2.2.1;ae y0 (ae (aX d.1 6) (ae (d.1==5) (ae y6 (opt (pn (Lh,n5.1,λj=>bx.2.1.1 (0+j),λj=>bx.2.1.2.1 (0+j),λj=>bx.2.1.2.2.1 (0+j),λj=>n16.1 (0+j),λj=>n16.2.1 (0+j),λj=>n16.2.2.1 (0+j),λj=>n16.2.2.2.1 (0+j),λj=>n16.2.2.2.2.1 (0+j),λj=>n16.2.2.2.2.2 (0+j))) λaj=>ae (Nat.beq aj.1 aj.1) (ae y1 (ae y2 (ae y3 (ae y4 (ae y5 (ae (Nat.beq aj.2.1.2.2.1 aj.2.1.2.2.1) (opt (qd ((d.1,d.1,aj.1,Int.ofNat aj.1,0),n39,n17.1,Jp,n4.1,n30,n19,n2.1,n31,n20,aj.2.1,Jq,n18.1,GZ,n1.1,aj.2.2.1,Li,n6.1,n32,n3.1,Ro,bx.1,aj.2.2.2,bx.2.2)) λd=>let n33:=d.2.2.2;let n7:=n33.2.2.2.2;let n24:=n7.2.2.2.2;ret (Sum.inl (wI (d.1.2.1+1),d.2.1,d.2.2.1,n33.1,n33.2.1,n33.2.2.1,n33.2.2.2.1,n7.1,n7.2.1,n7.2.2.1,n7.2.2.2.1,n24.1,n24.2.1,n24.2.2.1,n24.2.2.2.1,n24.2.2.2.2.2))) no) no) no) no) no) no) no) no) (ae (d.1==4) (ae y5 (opt (pn (Lh,n20,λj=>bx.1.1 (0+j),λj=>bx.1.2.1 (0+j),λj=>bx.1.2.2.1 (0+j),λj=>n23.1 (0+j),λj=>n23.2.1 (0+j),λj=>n23.2.2.1 (0+j),λj=>n23.2.2.2.1 (0+j),λj=>n23.2.2.2.2.1 (0+j),λj=>n23.2.2.2.2.2 (0+j))) λaj=>ae (Nat.beq aj.1 aj.1) (ae y1 (ae y2 (ae y3 (ae y4 (ae (Nat.beq aj.2.1.2.2.1 aj.2.1.2.2.1) (ae y6 (opt (qd ((d.1,d.1,aj.1,Int.ofNat aj.1,0),n39,n17.1,Jp,n4.1,n30,n19,n2.1,n31,aj.2.1,n5.1,Jq,n18.1,GZ,n1.1,aj.2.2.1,Li,n6.1,n32,n3.1,Ro,aj.2.2.2,bx.2)) λd=>let n34:=d.2.2.2;let n8:=n34.2.2.2.2;let n25:=n8.2.2.2.2;ret (Sum.inl (wI (d.1.2.1+1),d.2.1,d.2.2.1,n34.1,n34.2.1,n34.2.2.1,n34.2.2.2.1,n8.1,n8.2.1,n8.2.2.1,n8.2.2.2.1,n25.1,n25.2.1,n25.2.2.1,n25.2.2.2.1,n25.2.2.2.2.2))) no) no) no) no) no) no) no) no) (ae (d.1==3) (ae y4 (opt (pn (Lh,n31,λj=>Ro.1 (0+j),λj=>Ro.2.1 (0+j),λj=>Ro.2.2.1 (0+j),λj=>n15.1 (0+j),λj=>n15.2.1 (0+j),λj=>n15.2.2.1 (0+j),λj=>n15.2.2.2.1 (0+j),λj=>n15.2.2.2.2.1 (0+j),λj=>n15.2.2.2.2.2 (0+j))) λaj=>ae (Nat.beq aj.1 aj.1) (ae y1 (ae y2 (ae y3 (ae (Nat.beq aj.2.1.2.2.1 aj.2.1.2.2.1) (ae y5 (ae y6 (opt (qd ((d.1,d.1,aj.1,Int.ofNat aj.1,0),n39,n17.1,Jp,n4.1,n30,n19,n2.1,aj.2.1,n20,n5.1,Jq,n18.1,GZ,n1.1,aj.2.2.1,Li,n6.1,n32,n3.1,aj.2.2.2,bx)) λd=>let n35:=d.2.2.2;let n9:=n35.2.2.2.2;let n26:=n9.2.2.2.2;ret (Sum.inl (wI (d.1.2.1+1),d.2.1,d.2.2.1,n35.1,n35.2.1,n35.2.2.1,n35.2.2.2.1,n9.1,n9.2.1,n9.2.2.1,n9.2.2.2.1,n26.1,n26.2.1,n26.2.2.1,n26.2.2.2.1,n26.2.2.2.2.2))) no) no) no) no) no) no) no) no) (ae (d.1==2) (ae y3 (opt (pn (Lh,n2.1,λj=>n3.1.1 (0+j),λj=>n3.1.2.1 (0+j),λj=>n3.1.2.2.1 (0+j),λj=>n22.1 (0+j),λj=>n22.2.1 (0+j),λj=>n22.2.2.1 (0+j),λj=>n22.2.2.2.1 (0+j),λj=>n22.2.2.2.2.1 (0+j),λj=>n22.2.2.2.2.2 (0+j))) λaj=>ae (Nat.beq aj.1 aj.1) (ae y1 (ae y2 (ae (Nat.beq aj.2.1.2.2.1 aj.2.1.2.2.1) (ae y4 (ae y5 (ae y6 (opt (qd ((d.1,d.1,aj.1,Int.ofNat aj.1,0),n39,n17.1,Jp,n4.1,n30,n19,aj.2.1,n31,n20,n5.1,Jq,n18.1,GZ,n1.1,aj.2.2.1,Li,n6.1,n32,aj.2.2.2,n3.2)) λd=>let n36:=d.2.2.2;let aY:=n36.2.2.2.2;let n27:=aY.2.2.2.2;ret (Sum.inl (wI (d.1.2.1+1),d.2.1,d.2.2.1,n36.1,n36.2.1,n36.2.2.1,n36.2.2.2.1,aY.1,aY.2.1,aY.2.2.1,aY.2.2.2.1,n27.1,n27.2.1,n27.2.2.1,n27.2.2.2.1,n27.2.2.2.2.2))) no) no) no) no) no) no) no) no) (ae (d.1==1) (ae y2 (opt (pn (Lh,n19,λj=>n32.1 (0+j),λj=>n32.2.1 (0+j),λj=>n32.2.2.1 (0+j),λj=>bL.1 (0+j),λj=>bL.2.1 (0+j),λj=>bL.2.2.1 (0+j),λj=>bL.2.2.2.1 (0+j),λj=>bL.2.2.2.2.1 (0+j),λj=>bL.2.2.2.2.2 (0+j))) λaj=>ae (Nat.beq aj.1 aj.1) (ae y1 (ae (Nat.beq aj.2.1.2.2.1 aj.2.1.2.2.1) (ae y3 (ae y4 (ae y5 (ae y6 (opt (qd ((d.1,d.1,aj.1,Int.ofNat aj.1,0),n39,n17.1,Jp,n4.1,n30,aj.2.1,n2.1,n31,n20,n5.1,Jq,n18.1,GZ,n1.1,aj.2.2.1,Li,n6.1,aj.2.2.2,n3)) λd=>let n37:=d.2.2.2;let bh:=n37.2.2.2.2;let n28:=bh.2.2.2.2;ret (Sum.inl (wI (d.1.2.1+1),d.2.1,d.2.2.1,n37.1,n37.2.1,n37.2.2.1,n37.2.2.2.1,bh.1,bh.2.1,bh.2.2.1,bh.2.2.2.1,n28.1,n28.2.1,n28.2.2.1,n28.2.2.2.1,n28.2.2.2.2.2))) no) no) no) no) no) no) no) no) (ae y1 (opt (pn (Lh,n30,λj=>n6.1.1 (0+j),λj=>n6.1.2.1 (0+j),λj=>n6.1.2.2.1 (0+j),λj=>n21.1 (0+j),λj=>n21.2.1 (0+j),λj=>n21.2.2.1 (0+j),λj=>n21.2.2.2.1 (0+j),λj=>n21.2.2.2.2.1 (0+j),λj=>n21.2.2.2.2.2 (0+j))) λaj=>ae (Nat.beq aj.1 aj.1) (ae (Nat.beq aj.2.1.2.2.1 aj.2.1.2.2.1) (ae y2 (ae y3 (ae y4 (ae y5 (ae y6 (opt (qd ((d.1,d.1,aj.1,Int.ofNat aj.1,0),n39,n17.1,Jp,n4.1,aj.2.1,n19,n2.1,n31,n20,n5.1,Jq,n18.1,GZ,n1.1,aj.2.2.1,Li,aj.2.2.2,n6.2)) λd=>let n38:=d.2.2.2;let bp:=n38.2.2.2.2;let n29:=bp.2.2.2.2;ret (Sum.inl (wI (d.1.2.1+1),d.2.1,d.2.2.1,n38.1,n38.2.1,n38.2.2.1,n38.2.2.2.1,bp.1,bp.2.1,bp.2.2.1,bp.2.2.2.1,n29.1,n29.2.1,n29.2.2.1,n29.2.2.2.1,n29.2.2.2.2.2))) no) no) no) no) no) no) no) no)))))) no) (ret (Sum.inr ((d.1,y0),d.2)))
def Ei:=bD (Eh uq wQ) 2000
def ju:=qs (st (pu (cu ep (us 2 (cu Xp (cu L5 (us 3 (cu aQ6 (us 190 nil))))))) (pl (c aAM (c rV (c rW (c uY (cd HM λb4=>(cd HN λb5=>(cd HO λb6=>(cd HP λb7=>(cd HQ λb8=>(cd adf λb9=>(c pY (c ade (c uZ (cu nO (cu nO (cu nO (cu nO (cu nO (cu nO (cu nO (c C8 (c aMi (c uZ (c (so (cl (gs b4.b.1 aA) nil)) (c (so (cl (gs b5.b.1 aA) nil)) (c (so (cl (gs b6.b.1 aA) nil)) (c (so (cl (gs b7.b.1 aA) nil)) (c (so (cl (gs b8.b.1 aA) nil)) (c (so (cl (gs b9.b.1 aA) nil)) Jt))))))))))))))))))))))))))))) Tu)))
def acK:=qs aMR
def acL:=qs aMQ
abbrev mY:=((Bool×NI×Int×Int)×(Js×Bool×(NI×NI)×Nat×tM×Int×nr×Bool×Bool×Bool×Int×Int×Int×HI×Nat)×(nr×Int×Int)×Tk×YV×cz×cz×cz×cz×cz×cz×So×xM×HJ×aN5×HJ×eD×eD×eD×eD×eD×eD×Nat×NI×NI×NI×NI×NI×NI×NI×NI×NI×NI×NI)⊕(Bool×(Js×Bool×NI×(NI×NI)×Nat×tM×Int×nr×Bool×Bool×Bool×Int×Int×Int×HI×Nat)×(nr×Int×Int)×Tk×YV×cz×cz×cz×cz×cz×cz×So×xM×HJ×aAt×HJ×eD×eD×eD×eD×eD×eD×Nat×NI×NI×NI×NI×NI×NI×NI×NI×NI×NI×NI)
def PN {ρ:Type}(x:mY)(K:AX->St->Option ρ):Option ρ:=(Sum.elim (λd=>K .nrm (acK.em (d.1,(d.2.1.1,d.2.1.2.1,d.1.2.1,d.2.1.b.1,d.2.1.b.2.1,d.2.1.c.1,d.1.1,d.2.1.c.2),d.b.1,d.b.2.1,d.c.1,d.c.2.1,d.c.b.1,d.c.b.2.1,d.d.1,d.d.2.1,d.d.b.1,d.d.b.2.1,d.d.c.1,d.d.c.2.1,(d.1.b.1,d.d.c.b.1),d.d.c.b.2.1,(d.c.2.1.b.1,d.e.1),(d.c.b.1.b.1,d.e.2.1),(d.c.b.2.1.b.1,d.e.b.1),(d.d.1.b.1,d.e.b.2.1),(d.d.2.1.b.1,d.e.c.1),(d.d.b.1.b.1,d.e.c.2.1),d.e.c.b))) (λd=>K .nrm (acL.em (d.1,(d.2.1.1,d.2.1.2.1,d.2.1.b.1,d.2.1.b.2.1,d.2.1.c.1,d.2.1.c.2.1,d.1,d.2.1.c.b),d.b.1,d.b.2.1,d.c.1,d.c.2.1,d.c.b.1,d.c.b.2.1,d.d.1,d.d.2.1,d.d.b.1,d.d.b.2.1,d.d.c.1,d.d.c.2.1,d.d.c.b.1,d.d.c.b.2.1,(d.c.2.1.b.1,d.e.1),(d.c.b.1.b.1,d.e.2.1),(d.c.b.2.1.b.1,d.e.b.1),(d.d.1.b.1,d.e.b.2.1),(d.d.2.1.b.1,d.e.c.1),(d.d.b.1.b.1,d.e.c.2.1),d.e.c.b)))) x
def Ej (aIi:aex)(Xj:vo)(aEy:aaf)(l_5:LT jt mW)(d:ju.B):Pg mY:=let n27:=d.2.2;let bL:=d.1.2.2;let bh:=n27.2.2;let n5:=bL.2.2.2.2;let n16:=n5.2.2.2.2;let n4:=bh.2.2;let n15:=n4.2.2;let n6:=n15.2.2.2;let n2:=n16.2.2.2.2.2;let n19:=n2.1.1.2;let bp:=n2.1.2;let n1:=n6.2.2.2;let n23:=n1.2.2.2;let n20:=n1.2.1.2;let n17:=n1.1.2.2.2;let n9:=n20.2.2.2;let n25:=n9.2.2.2;let n8:=n23.2.2.2;let n28:=n8.2.2;let n3:=n28.2.2;let n21:=n3.2.2;let n7:=n21.2.2.2;let n22:=n7.2.2;let y0:=Int.ofNat n2.2;let y1:=1+n2.2;let y2:=Nat.beq bh.1.2.2.1 bh.1.2.2.1;let y3:=Nat.beq bh.2.1.2.2.1 bh.2.1.2.2.1;let y4:=Nat.beq n4.1.2.2.1 n4.1.2.2.1;let y5:=Nat.beq n4.2.1.2.2.1 n4.2.1.2.2.1;let y6:=Nat.beq n15.1.2.2.1 n15.1.2.2.1;let y7:=Nat.beq n15.2.1.2.2.1 n15.2.1.2.2.1;opt (aIi (bL.2.2.2.1,n1.1.1,n1.1.2.1,(n1.1.2.2.1,n17.1,n17.2.1,n17.2.2.1,n17.2.2.2.1,n17.2.2.2.2.1),n17.2.2.2.2.2)) λaj=>ae (decide (y0>0)) (ae (Nat.beq n2.2 n2.2) (ae (Nat.beq n6.1.2.2 n6.1.2.2) (opt (Xj ((n2.2,true),n6.1,d.1.2.1,(aAs 0 n20),λj=>n28.2.1 (0+j),λj=>n3.1 (0+j),λj=>n3.2.1 (0+j),λj=>n21.1 (0+j),λj=>n21.2.1 (0+j),λj=>n21.2.2.1 (0+j),λj=>n7.1 (0+j),λj=>n7.2.1 (0+j),λj=>n22.1 (0+j),λj=>n22.2.1 (0+j),λj=>n22.2.2 (0+j))) λaI=>let n24:=aI.2.2.2;let bx:=aI.2.1;let aY:=n24.2.2.2;let n26:=aY.2.2.2;let nq:=bx*11+0;ae (true&&Nat.beq nq (n6.1.2.2*11)&&true) (ae (true&&Nat.ble (0+nq) (n28.1*11+0)) (ae (Nat.ble (y1*80) 140737488355328) (ae (Nat.beq y1 y1) (opt (aEy y1 aI.1 (λj=>bif Nat.blt j 1 then bif Nat.beq j 0 then n2.1.1.1 else n2.1.1.1 else n20.1 (0+(j-1))) (λj=>bif Nat.blt j 1 then bif Nat.beq j 0 then n19.1 else n19.1 else n20.2.1 (0+(j-1))) (λj=>bif Nat.blt j 1 then bif Nat.beq j 0 then n19.2.1 else n19.2.1 else n20.2.2.1 (0+(j-1))) (λj=>bif Nat.blt j 1 then bif Nat.beq j 0 then n19.2.2 else n19.2.2 else n9.1 (0+(j-1))) (λj=>bif Nat.blt j 1 then bif Nat.beq j 0 then bp.1.1 else bp.1.1 else n9.2.1 (0+(j-1))) (λj=>bif Nat.blt j 1 then bif Nat.beq j 0 then bp.1.2.1 else bp.1.2.1 else n9.2.2.1 (0+(j-1))) (λj=>bif Nat.blt j 1 then bif Nat.beq j 0 then bp.1.2.2 else bp.1.2.2 else n25.1 (0+(j-1))) (λj=>bif Nat.blt j 1 then bif Nat.beq j 0 then bp.2.1 else bp.2.1 else n25.2.1 (0+(j-1))) (λj=>bif Nat.blt j 1 then bif Nat.beq j 0 then bp.2.2.1 else bp.2.2.1 else n25.2.2.1 (0+(j-1))) (λj=>bif Nat.blt j 1 then bif Nat.beq j 0 then bp.2.2.2 else bp.2.2.2 else n25.2.2.2 (0+(j-1))) true) λbz=>let n18:=bz.1.2.2.2;ae y2 (ae y3 (ae y4 (ae y5 (ae y6 (ae y7 (opt (l_5 ((d.1.1,bz.2,bL.1,bL.2.1,bL.2.2.1,aj.1,n5.1,n5.2.1,n5.2.2.1,n5.2.2.2.1,n16.1,n16.2.1,n16.2.2.1,n16.2.2.2.1,wI (n16.2.2.2.2.1+y0),((bz.1.1,bz.1.2.1,bz.1.2.2.1,n18.1),(n18.2.1,n18.2.2.1,n18.2.2.2.1),n18.2.2.2.2),n2.2),d.2.1,n27.1,n27.2.1,bh.1,bh.2.1,n4.1,n4.2.1,n15.1,n15.2.1,n15.2.2.1,n6.1,n6.2.1,n6.2.2.1,n1.2.1,n1.2.2.1,n23.1,n23.2.1,n23.2.2.1,n8.1,n8.2.1,n28.1,λj=>bif true&&Nat.blt j (0+bx) then aI.2.2.1 j else n28.2.1 j,λj=>bif true&&Nat.blt j (0+bx) then n24.1 j else n3.1 j,λj=>bif true&&Nat.blt j (0+bx) then n24.2.1 j else n3.2.1 j,λj=>bif true&&Nat.blt j (0+bx) then n24.2.2.1 j else n21.1 j,λj=>bif true&&Nat.blt j (0+bx) then aY.1 j else n21.2.1 j,λj=>bif true&&Nat.blt j (0+bx) then aY.2.1 j else n21.2.2.1 j,λj=>bif true&&Nat.blt j (0+bx) then aY.2.2.1 j else n7.1 j,λj=>bif true&&Nat.blt j (0+bx) then n26.1 j else n7.2.1 j,λj=>bif true&&Nat.blt j (0+bx) then n26.2.1 j else n22.1 j,λj=>bif true&&Nat.blt j (0+bx) then n26.2.2.1 j else n22.2.1 j,λj=>bif true&&Nat.blt j (0+bx) then n26.2.2.2 j else n22.2.2 j)) λx=>sum x (λd=>ret (Sum.inl d)) λd=>ret (Sum.inr d)) no) no) no) no) no) no) no) no) no) no) no) no) (ae y2 (ae y3 (ae y4 (ae y5 (ae y6 (ae y7 (opt (l_5 ((d.1.1,d.1.2.1,bL.1,bL.2.1,bL.2.2.1,aj.1,n5),d.2.1,n27.1,n27.2.1,bh.1,bh.2.1,n4.1,n4.2.1,n15.1,n15.2.1,n15.2.2.1,n6.1,n6.2.1,n6.2.2.1,n1.2)) λx=>sum x (λd=>ret (Sum.inl d)) λd=>ret (Sum.inr d)) no) no) no) no) no) no)
def wS (d:ju.B):Option mY:=(Ej Kg ld Gy wR d).val
def jw:=qs (st (pu aSt (pl (c auL (c rV (c rW (c uY (cd (so apD) λb4=>(cd HM λb5=>(cd HN λb6=>(cd HO λb7=>(cd HP λb8=>(cd HQ λb9=>(c pY (c auF (c uZ (cu nO (cu nO (cu nO (cu nO (cu nO (cu nO (cu nO (c C8 (c (so aSw) (c (so (cl (gs b4.b.1 aA) nil)) (c (so (cl (gs b5.b.1 aA) nil)) (c (so (cl (gs b6.b.1 aA) nil)) (c (so (cl (gs b7.b.1 aA) nil)) (c (so (cl (gs b8.b.1 aA) nil)) (c (so (cl (gs b9.b.1 aA) nil)) Jt)))))))))))))))))))))))))))) Tu)))
def acM:=qs aMR
def acN:=qs aMQ
abbrev mZ:=((Bool×NI×Int×Int)×(Js×Bool×(NI×NI)×Nat×tM×Int×nr×Bool×Bool×Bool×Int×Int×Int×HI×Nat)×(nr×Int×Int)×Tk×YV×cz×cz×cz×cz×cz×cz×So×xM×HJ×aN5×HJ×eD×eD×eD×eD×eD×eD×Nat×NI×NI×NI×NI×NI×NI×NI×NI×NI×NI×NI)⊕(Bool×(Js×Bool×NI×(NI×NI)×Nat×tM×Int×nr×Bool×Bool×Bool×Int×Int×Int×HI×Nat)×(nr×Int×Int)×Tk×YV×cz×cz×cz×cz×cz×cz×So×xM×HJ×aAt×HJ×eD×eD×eD×eD×eD×eD×Nat×NI×NI×NI×NI×NI×NI×NI×NI×NI×NI×NI)
def PO {ρ:Type}(x:mZ)(K:AX->St->Option ρ):Option ρ:=(Sum.elim (λd=>K .nrm (acM.em (d.1,(d.2.1.1,d.2.1.2.1,d.1.2.1,d.2.1.b.1,d.2.1.b.2.1,d.2.1.c.1,d.1.1,d.2.1.c.2),d.b.1,d.b.2.1,d.c.1,d.c.2.1,d.c.b.1,d.c.b.2.1,d.d.1,d.d.2.1,d.d.b.1,d.d.b.2.1,d.d.c.1,d.d.c.2.1,(d.1.b.1,d.d.c.b.1),d.d.c.b.2.1,(d.c.2.1.b.1,d.e.1),(d.c.b.1.b.1,d.e.2.1),(d.c.b.2.1.b.1,d.e.b.1),(d.d.1.b.1,d.e.b.2.1),(d.d.2.1.b.1,d.e.c.1),(d.d.b.1.b.1,d.e.c.2.1),d.e.c.b))) (λd=>K .nrm (acN.em (d.1,(d.2.1.1,d.2.1.2.1,d.2.1.b.1,d.2.1.b.2.1,d.2.1.c.1,d.2.1.c.2.1,d.1,d.2.1.c.b),d.b.1,d.b.2.1,d.c.1,d.c.2.1,d.c.b.1,d.c.b.2.1,d.d.1,d.d.2.1,d.d.b.1,d.d.b.2.1,d.d.c.1,d.d.c.2.1,d.d.c.b.1,d.d.c.b.2.1,(d.c.2.1.b.1,d.e.1),(d.c.b.1.b.1,d.e.2.1),(d.c.b.2.1.b.1,d.e.b.1),(d.d.1.b.1,d.e.b.2.1),(d.d.2.1.b.1,d.e.c.1),(d.d.b.1.b.1,d.e.c.2.1),d.e.c.b)))) x
def Ek (Kj:LT fB mV)(dG:LT fC mX)(l_4:LT ju mY)(d:jw.B):Pg mZ:=let n9:=d.2.2.2.2;let n4:=n9.2.2;let aY:=n4.2.2.2;let n17:=aY.2.2.2;ae (Nat.beq n9.1.2.2.1 n9.1.2.2.1) (ae (Nat.beq n9.2.1.2.2.1 n9.2.1.2.2.1) (ae (Nat.beq n4.1.2.2.1 n4.1.2.2.1) (ae (Nat.beq n4.2.1.2.2.1 n4.2.1.2.2.1) (ae (Nat.beq n4.2.2.1.2.2.1 n4.2.2.1.2.2.1) (ae (Nat.beq aY.1.2.2.1 aY.1.2.2.1) (opt (dG (0,d.1,d.2.1,d.2.2.1,d.2.2.2.1,n9.1,n9.2.1,n4.1,n4.2.1,n4.2.2.1,aY.1,aY.2.1,aY.2.2.1,n17.1,n17.2.1,(0,n17.2.2.1),n17.2.2.2)) λd=>let n16:=d.2.1.1.2.2.2.2.2.2.2.2;let n15:=d.2.1.2.2.2.2.2.2.2.2.2;let bh:=d.2.2.2.2;let n3:=bh.2.2;let n7:=n3.2.2.2;let n18:=n7.2.2.2;ae (Nat.beq bh.2.1.2.2.1 bh.2.1.2.2.1) (ae (Nat.beq n3.1.2.2.1 n3.1.2.2.1) (ae (Nat.beq n3.2.1.2.2.1 n3.2.1.2.2.1) (ae (Nat.beq n3.2.2.1.2.2.1 n3.2.2.1.2.2.1) (ae (Nat.beq n7.1.2.2.1 n7.1.2.2.1) (ae (Nat.beq n7.2.1.2.2.1 n7.2.1.2.2.1) (opt (Kj (0,d.2.1,d.2.2.1,d.2.2.2.1,bh.1,bh.2.1,n3.1,n3.2.1,n3.2.2.1,n7.1,n7.2.1,n7.2.2.1,n18.1,n18.2.1,n18.2.2.1,(n15.1,n15.2.1,false,false,false,false,false,false,n16.1,n16.2.2.1),n18.2.2.2)) λd=>let bL:=d.2.2;let bx:=d.2.1.2.2.2.2.2.2.2.2.2.2.2;let n5:=bL.2.2.2;let bp:=n5.2.2;let n1:=bp.2.2;let n19:=n1.2.2;let n6:=n19.2.2;let n20:=n6.2.2;let n2:=n20.1.2;let n21:=n2.2.2;let n8:=n21.2.2;let y0:=Nat.beq n5.1.2.2.1 n5.1.2.2.1;let y1:=Nat.beq n5.2.1.2.2.1 n5.2.1.2.2.1;let y2:=Nat.beq bp.1.2.2.1 bp.1.2.2.1;let y3:=Nat.beq bp.2.1.2.2.1 bp.2.1.2.2.1;let y4:=Nat.beq n1.1.2.2.1 n1.1.2.2.1;let y5:=Nat.beq n1.2.1.2.2.1 n1.2.1.2.2.1;ae bx.1 (ae y0 (ae y1 (ae y2 (ae y3 (ae y4 (ae y5 (opt (l_4 (d.2.1,bL.1,bL.2.1,bL.2.2.1,n5.1,n5.2.1,bp.1,bp.2.1,n1.1,n1.2.1,n19.1,n19.2.1,n6.1,n6.2.1,(n20.1.1,n2.1,n2.2.1,n21.1,n21.2.1,n8.1,n8.2.1,n8.2.2.1,wI (n6.2.1.1-bx.2.1),n8.2.2.2),n20.2)) λx=>sum x (λd=>ret (Sum.inl d)) λd=>ret (Sum.inr d)) no) no) no) no) no) no) (ae y0 (ae y1 (ae y2 (ae y3 (ae y4 (ae y5 (opt (l_4 (d.2.1,bL.1,bL.2.1,bL.2.2.1,n5.1,n5.2.1,bp.1,bp.2.1,n1.1,n1.2.1,n19.1,n19.2.1,n6.1,n6.2.1,(n20.1.1,n2.1,n2.2.1,n21.1,n21.2.1,n8.1,n8.2.1,n8.2.2.1,1125899906842624,n8.2.2.2),n20.2)) λx=>sum x (λd=>ret (Sum.inl d)) λd=>ret (Sum.inr d)) no) no) no) no) no) no)) no) no) no) no) no) no) no) no) no) no) no) no
def qP (d:jw.B):Option mZ:=(Ek Ef Ei wS d).val
def PS:Hd:=⟨7,(1::2::rg 5 194 []),[(15,[]),(16,[]),(17,[]),(18,[]),(19,[]),(20,[]),(21,[]),(0,[])]⟩
def PU:Hd:=⟨24,(1::2::5::6::7::rg 9 190 []),[(15,[]),(16,[]),(17,[]),(18,[]),(19,[]),(20,[]),(21,[]),(0,[])]⟩
def PW:Hd:=⟨29,(1::2::rg 5 194 []),[(15,[]),(16,[]),(17,[]),(18,[]),(19,[]),(20,[]),(21,[]),(0,[])]⟩
def A8 (amZ:F6)(aKV:alF)(B7:N')(l_3:LT jw mZ)(x:pk.B):Pg uK:=let Jp:=x.1.1;let n19:=x.2.1.2;let n18:=x.2.2;let n39:=n18.2.2.1;let n8:=x.1.2.2;let n38:=n8.1.2;let n6:=n18.2.2.2;let n36:=n6.2.1;let n24:=n6.2.2.1;let n4:=n19.2.2.2;let n26:=n4.2.2;let n7:=n26.2.2.2;let Jq:=n7.2.2;let n20:=Jq.2.2.2;let n3:=n6.2.2.2;let n37:=n3.2.1;let n15:=n3.2.2;let n25:=n15.2.2.1;let n5:=n15.2.2.2.2;let n16:=n5.2.2.2;let GZ:=n16.2.2;let n2:=(Jp,x.1.2.1,n8.1.1,n38.1,n38.2,n8.2);let n1:=(n20.2.2,n15.2.2.2.1);let y0:=Nat.beq n6.1.2.2.1 n6.1.2.2.1;let y1:=Nat.beq n36.2.2.1 n36.2.2.1;let y2:=Nat.beq n24.2.2.1 n24.2.2.1;let y3:=Nat.beq n3.1.2.2.1 n3.1.2.2.1;let y4:=Nat.beq n37.2.2.1 n37.2.2.1;let y5:=Nat.beq n15.1.2.2.1 n15.1.2.2.1;ae (n4.2.1.1==0) (ae (Nat.beq n4.1 n4.1) (ae y0 (ae y1 (ae y2 (ae y3 (ae y4 (ae y5 (ae (Nat.beq n25.2.2 n25.2.2) (opt (amZ (x.1,(x.2.1.1,n19.1,n19.2.1,n19.2.2.1,n4.1,n4.2.1,n26.1,n26.2.1,n26.2.2.1,n7.1,n7.2.1,Jq.1,Jq.2.1,Jp,n20.1,n20.2.1,0),n18.1,n18.2.1,n39,n6.1,n36,n24,n3.1,n37,n15.1,n15.2.1,n25,(λx=>0,λx=>0,λx=>0,λx=>0,λx=>0,λx=>0,λx=>0,λx=>0,λx=>0,λx=>0),n5)) λd=>sm d (λd=>ae y0 (ae y1 (ae y2 (ae y3 (ae y4 (ae y5 (opt (l_3 (d.1,n18.1,n18.2.1,(n4.1,n39),n6.1,n36,n24,n3.1,n37,n15.1,n15.2.1,d.2,n1,n2,(λx=>0,λx=>0,λx=>0,λx=>0,λx=>0,λx=>0,λx=>0,λx=>0,λx=>0,λx=>0),n5.1,n5.2.1,n5.2.2.1,n16.1,n16.2.1,GZ.1,n25.2.2,GZ.2)) λx=>sum x (λd=>let n27:=d.2.1.2;let n9:=d.2.2.2.2.2.2;let n28:=n9.2.2.2;ret (((d.2.1.1,n27.1,d.1.2.1,n27.2.1,n27.2.2.1,n27.2.2.2.1,d.1.1,n27.2.2.2.2),d.2.2.2.2.2.1,n9.1,n9.2.1,n9.2.2.1,n28.1,n28.2.1,n28.2.2.1,n28.2.2.2.1),n28.2.2.2.2.2.2)) λd=>let n21:=d.2.1.2.2;let aY:=d.2.2.2.2.2.2;let n29:=aY.2.2.2;ret (((d.2.1.1,d.2.1.2.1,n21.1,n21.2.1,n21.2.2.1,n21.2.2.2.1,d.1,n21.2.2.2.2),d.2.2.2.2.2.1,aY.1,aY.2.1,aY.2.2.1,n29.1,n29.2.1,n29.2.2.1,n29.2.2.2.1),n29.2.2.2.2.2.2)) no) no) no) no) no) no) (λd=>let n17:=d.1.1.2.2.2;ae y0 (ae y1 (ae y2 (ae y3 (ae y4 (ae y5 (opt (l_3 ((d.1.1.1,d.1.1.2.1,d.1.1.2.2.1,n17.1,n17.2.1,n17.2.2.1,true,n17.2.2.2.1,n17.2.2.2.2.1,true,n17.2.2.2.2.2),n18.1,n18.2.1,(n4.1,n39),n6.1,n36,n24,n3.1,n37,n15.1,n15.2.1,d.1.2,n1,n2,(λx=>0,λx=>0,λx=>0,λx=>0,λx=>0,λx=>0,λx=>0,λx=>0,λx=>0,λx=>0),n5.1,n5.2.1,n5.2.2.1,n16.1,n16.2.1,GZ.1,d.2)) λx=>sum x (λd=>let n30:=d.2.1.2;let bh:=d.2.2.2.2.2.2;let n31:=bh.2.2.2;ret (((d.2.1.1,n30.1,d.1.2.1,n30.2.1,n30.2.2.1,n30.2.2.2.1,d.1.1,n30.2.2.2.2),d.2.2.2.2.2.1,bh.1,bh.2.1,bh.2.2.1,n31.1,n31.2.1,n31.2.2.1,n31.2.2.2.1),n31.2.2.2.2.2.2)) λd=>let n22:=d.2.1.2.2;let bp:=d.2.2.2.2.2.2;let n32:=bp.2.2.2;ret (((d.2.1.1,d.2.1.2.1,n22.1,n22.2.1,n22.2.2.1,n22.2.2.2.1,d.1,n22.2.2.2.2),d.2.2.2.2.2.1,bp.1,bp.2.1,bp.2.2.1,n32.1,n32.2.1,n32.2.2.1,n32.2.2.2.1),n32.2.2.2.2.2.2)) no) no) no) no) no) no)) no) no) no) no) no) no) no) no) (opt (aKV n19.2.2.1.1 n19.2.2.1.2 n19.2.1 Jp x.1.2.1 n8.1.1 n38.1 n38.2 n8.2.1 n8.2.2.1 n8.2.2.2 x.2.1.1.2.2.2.2.2.2.1 n19.1) λd=>opt (B7 n19.2.1 Jp x.1.2.1 n8.1.1 n38.1 n38.2 n8.2.1 n8.2.2.1 n8.2.2.2 d.2) λaj=>ae y0 (ae y1 (ae y2 (ae y3 (ae y4 (ae y5 (opt (l_3 ((x.2.1.1,aj.2,aj.1,d.1,n4.1,n4.2.1,n26.1,n26.2.1,n26.2.2.1,n7.1,n7.2.1,Jq.1,Jq.2.1,Jp,n20.1,n20.2.1,0),n18.1,n18.2.1,(n4.1,n39),n6.1,n36,n24,n3.1,n37,n15.1,n15.2.1,n25,n1,n2,(λx=>0,λx=>0,λx=>0,λx=>0,λx=>0,λx=>0,λx=>0,λx=>0,λx=>0,λx=>0),n5.1,n5.2.1,n5.2.2.1,n16.1,n16.2.1,GZ.1,n25.2.2,GZ.2)) λx=>sum x (λd=>let n33:=d.2.1.2;let bx:=d.2.2.2.2.2.2;let n34:=bx.2.2.2;ret (((d.2.1.1,n33.1,d.1.2.1,n33.2.1,n33.2.2.1,n33.2.2.2.1,d.1.1,n33.2.2.2.2),d.2.2.2.2.2.1,bx.1,bx.2.1,bx.2.2.1,n34.1,n34.2.1,n34.2.2.1,n34.2.2.2.1),n34.2.2.2.2.2.2)) λd=>let n23:=d.2.1.2.2;let bL:=d.2.2.2.2.2.2;let n35:=bL.2.2.2;ret (((d.2.1.1,d.2.1.2.1,n23.1,n23.2.1,n23.2.2.1,n23.2.2.2.1,d.1,n23.2.2.2.2),d.2.2.2.2.2.1,bL.1,bL.2.1,bL.2.2.1,n35.1,n35.2.1,n35.2.2.1,n35.2.2.2.1),n35.2.2.2.2.2.2)) no) no) no) no) no) no)
def uL:=λx=>(A8 rR I' tf qP x).val
abbrev iU:=F6×alF×N'×Ii×Ln×xt×aex×vo×aaf×sP×(LT eO kv)×(LT fB mV)×(LT jt mW)×(LT fC mX)×(LT ju mY)×(LT jw mZ)
def ky (p:iU):KK:=⟨[Sd p.1,ayI p.2.1,Z3 p.b.1,Wb p.b.2.1,YM p.c.1,GJ p.c.2.1,asx p.c.b.1,Fc p.c.b.2.1,aov p.d.1,CW p.d.2.1],⟨[⟨8,(1::2::rg 5 54 (rg 60 139 [])),[(15,[]),(16,[]),(17,[]),(18,[]),(19,[]),(20,[]),(21,[]),(0,[])]⟩,⟨11,(1::2::rg 6 53 (rg 60 10 (rg 73 126 []))),[(15,[]),(16,[]),(17,[]),(18,[]),(19,[]),(20,[]),(21,[]),(0,[])]⟩,⟨18,(1::2::5::6::7::rg 9 92 (rg 102 97 [])),[(15,[]),(16,[]),(17,[]),(18,[]),(19,[]),(20,[]),(21,[]),(0,[])]⟩],[fx 11 20 eO PI p.d.b.1,fx 18 20 fB PJ p.d.b.2.1,fx 8 20 fC PM p.d.c.2.1],(rg 4 6 [19,18,17,16,15,14,13,11,0,10]),[⟨PS,fx 7 20 jw PO p.d.c.b.2⟩,⟨PU,fx 24 20 ju PN p.d.c.b.1⟩,⟨PW,fx 29 20 jt PK p.d.c.1⟩],(some ⟨0,(rg 0 199 []),[]⟩)⟩,20,64⟩
theorem ahX (p:iU):LI (ky p) 11 eO PI (Ed p.c.1):=λ_ d c K=>by kernel_rfl
theorem ahY (p:iU):LI (ky p) 18 fB PJ (Ee p.c.2.1):=λ_ d c K=>by kernel_rfl
theorem ahZ (p:iU):JI (ky p) 29 jt PK (Eg p.d.2.1):=λ_ d K=>by kernel_rfl
theorem ah0 (p:iU):LI (ky p) 8 fC PM (Eh p.b.2.1 p.d.b.1):=λ_ d c K=>by kernel_rfl
theorem ah1 (p:iU):JI (ky p) 24 ju PN (Ej p.c.b.1 p.c.b.2.1 p.d.1 p.d.c.1):=λ_ d K=>by kernel_rfl
theorem ah2 (p:iU):JI (ky p) 7 jw PO (Ek p.d.b.2.1 p.d.c.2.1 p.d.c.b.1):=λ_ d K=>by kernel_rfl
theorem aqW (p:iU):D2 (ky p) pk Wz λb=>A8 p.1 p.2.1 p.b.1 p.d.c.b.2 b:=λb=>by kernel_rfl
abbrev kC:iU:=(rR,I',tf,uq,wP,lU,Kg,ld,Gy,jN,wQ,Ef,wR,Ei,wS,qP)
theorem aqX [ax]:SC (WA uL):=sc (kS (k:=ky kC) (.c amW (.c aKN (.c aok (.c aqF (.c at2 (.c aaD (.c aHp (.c Xc (.c aEi (.c Tc (.nil _))))))))))) [8,11,18] [7,24,29] ⟨kL (ah0 kC),⟨kL (ahX kC),⟨kL (ahY kC),trivial⟩⟩⟩ ⟨kJ PS (ah2 kC),⟨kJ PU (ah1 kC),⟨kJ PW (ahZ kC),trivial⟩⟩⟩ (aqW kC))
end Go.Proofs.YtldgljclcgaibaaGreat
namespace Go.Proofs.YtldgljclcgaibaaGreat
open Go.Ab Go.Ab.Pg
theorem aQA (J:Int)(w d:eO.B)(hd:0<=d.1.2.2.2.2∧d.1.2.2.2.2<=d.1.2.2.2.1∧d.1.2.2.2.1=((d.1.2.2.1:Nat):Int)∧d.1.2.2.2.1<=64∧((d.2.1.2.2.2.2.2.2.2.2.2.2.2.2.2.2.2.2:Nat):Int)+3*(d.1.2.2.2.1-d.1.2.2.2.2)<=J∧J<=90000∧aX d.1.1 6=true∧d.1.2.1=w.1.2.1∧d.2.2.2.2.2.1=w.2.2.2.2.2.1∧d.2.2.2.2.2.2.1=w.2.2.2.2.2.2.1∧d.2.2.2.2.2.2.2.1=w.2.2.2.2.2.2.2.1∧d.2.2.2.2.2.2.2.2.1=w.2.2.2.2.2.2.2.2.1∧d.2.2.2.2.2.2.2.2.2.1=w.2.2.2.2.2.2.2.2.2.1∧d.2.2.2.2.2.2.2.2.2.2.1=w.2.2.2.2.2.2.2.2.2.2.1∧d.2.2.2.2.2.2.2.2.2.2.2.2.1=w.2.2.2.2.2.2.2.2.2.2.2.2.1∧d.2.2.2.2.2.2.2.2.2.2.2.2.2.2.2.2.2.2.2.2.2.2.2.1=w.2.2.2.2.2.2.2.2.2.2.2.2.2.2.2.2.2.2.2.2.2.2.2.1∧d.2.1.2.2.2.2.1=w.2.1.2.2.2.2.1∧d.2.1.2.2.2.2.2.2.2.2.2.2.2.2.2.1=w.2.1.2.2.2.2.2.2.2.2.2.2.2.2.2.1∧d.2.2.2.2.2.2.2.2.2.2.2.2.2.2.1=w.2.2.2.2.2.2.2.2.2.2.2.2.2.2.1):Ok (wQ d) (λx:kv=>((x.2.1.2.2.2.2.2.2.2.2.2.2.2.2.2.2.2.2:Nat):Int)<=J∧x.1.2.1=w.1.2.1∧x.2.2.2.2.2.1=w.2.2.2.2.2.1∧x.2.2.2.2.2.2.1=w.2.2.2.2.2.2.1∧x.2.2.2.2.2.2.2.1=w.2.2.2.2.2.2.2.1∧x.2.2.2.2.2.2.2.2.1=w.2.2.2.2.2.2.2.2.1∧x.2.2.2.2.2.2.2.2.2.1=w.2.2.2.2.2.2.2.2.2.1∧x.2.2.2.2.2.2.2.2.2.2.1=w.2.2.2.2.2.2.2.2.2.2.1∧x.2.2.2.2.2.2.2.2.2.2.2.2.1=w.2.2.2.2.2.2.2.2.2.2.2.2.1∧x.2.2.2.2.2.2.2.2.2.2.2.2.2.2.2.2.2.2.2.2.2.2.2.1=w.2.2.2.2.2.2.2.2.2.2.2.2.2.2.2.2.2.2.2.2.2.2.2.1∧x.2.1.2.2.2.2.1=w.2.1.2.2.2.2.1∧x.2.1.2.2.2.2.2.2.2.2.2.2.2.2.2.1=w.2.1.2.2.2.2.2.2.2.2.2.2.2.2.2.1∧x.2.2.2.2.2.2.2.2.2.2.2.2.2.2.1=w.2.2.2.2.2.2.2.2.2.2.2.2.2.2.1):=
 ba (s:=_) (λd:eO.B=>0<=d.1.2.2.2.2∧d.1.2.2.2.2<=d.1.2.2.2.1∧d.1.2.2.2.1=((d.1.2.2.1:Nat):Int)∧d.1.2.2.2.1<=64∧((d.2.1.2.2.2.2.2.2.2.2.2.2.2.2.2.2.2.2:Nat):Int)+3*(d.1.2.2.2.1-d.1.2.2.2.2)<=J∧J<=90000∧aX d.1.1 6=true∧d.1.2.1=w.1.2.1∧d.2.2.2.2.2.1=w.2.2.2.2.2.1∧d.2.2.2.2.2.2.1=w.2.2.2.2.2.2.1∧d.2.2.2.2.2.2.2.1=w.2.2.2.2.2.2.2.1∧d.2.2.2.2.2.2.2.2.1=w.2.2.2.2.2.2.2.2.1∧d.2.2.2.2.2.2.2.2.2.1=w.2.2.2.2.2.2.2.2.2.1∧d.2.2.2.2.2.2.2.2.2.2.1=w.2.2.2.2.2.2.2.2.2.2.1∧d.2.2.2.2.2.2.2.2.2.2.2.2.1=w.2.2.2.2.2.2.2.2.2.2.2.2.1∧d.2.2.2.2.2.2.2.2.2.2.2.2.2.2.2.2.2.2.2.2.2.2.2.1=w.2.2.2.2.2.2.2.2.2.2.2.2.2.2.2.2.2.2.2.2.2.2.2.1∧d.2.1.2.2.2.2.1=w.2.1.2.2.2.2.1∧d.2.1.2.2.2.2.2.2.2.2.2.2.2.2.2.1=w.2.1.2.2.2.2.2.2.2.2.2.2.2.2.2.1∧d.2.2.2.2.2.2.2.2.2.2.2.2.2.2.1=w.2.2.2.2.2.2.2.2.2.2.2.2.2.2.1) (λd:eO.B=>Int.toNat (d.1.2.2.2.1-d.1.2.2.2.2)) (λx:kv=>((x.2.1.2.2.2.2.2.2.2.2.2.2.2.2.2.2.2.2:Nat):Int)<=J∧x.1.2.1=w.1.2.1∧x.2.2.2.2.2.1=w.2.2.2.2.2.1∧x.2.2.2.2.2.2.1=w.2.2.2.2.2.2.1∧x.2.2.2.2.2.2.2.1=w.2.2.2.2.2.2.2.1∧x.2.2.2.2.2.2.2.2.1=w.2.2.2.2.2.2.2.2.1∧x.2.2.2.2.2.2.2.2.2.1=w.2.2.2.2.2.2.2.2.2.1∧x.2.2.2.2.2.2.2.2.2.2.1=w.2.2.2.2.2.2.2.2.2.2.1∧x.2.2.2.2.2.2.2.2.2.2.2.2.1=w.2.2.2.2.2.2.2.2.2.2.2.2.1∧x.2.2.2.2.2.2.2.2.2.2.2.2.2.2.2.2.2.2.2.2.2.2.2.1=w.2.2.2.2.2.2.2.2.2.2.2.2.2.2.2.2.2.2.2.2.2.2.2.1∧x.2.1.2.2.2.2.1=w.2.1.2.2.2.2.1∧x.2.1.2.2.2.2.2.2.2.2.2.2.2.2.2.1=w.2.1.2.2.2.2.2.2.2.2.2.2.2.2.2.1∧x.2.2.2.2.2.2.2.2.2.2.2.2.2.2.1=w.2.2.2.2.2.2.2.2.2.2.2.2.2.2.1) (λd hd=>by
  obtain⟨i0,i1,i2,i3,i4,i5,i6,i7,ik⟩:=hd
  have hw:wI (d.1.2.2.2.2+1)=d.1.2.2.2.2+1:=bg (by omega) (by omega)
  unfold Ed
  dsimp only
  rw[aK]
  refine⟨λh=> ?_,λ_=>by rw[av];exact⟨by show((d.2.1.2.2.2.2.2.2.2.2.2.2.2.2.2.2.2.2:Nat):Int)<=J;omega,i7,ik⟩⟩
  have h:=of_decide_eq_true h
  have r0:aX d.1.2.2.2.2 d.1.2.2.1=true:=by rw[bk];omega
  rw[r0,hw]
  simp only[aM]
  repeat' (first
   |rw[aB]
   |(with_reducible refine ay (aVN _ ?_ ?_) λe _ he=> ?_)
   |(rw[qh];refine⟨λa ha=> ?_,λa ha=> ?_⟩))
  ·exact i6
  ·show d.2.1.2.2.2.2.2.2.2.2.2.2.2.2.2.2.2.2<=90000
   omega
  ·rw[ha] at he
   have he:a.1.2.2.2.2.2.2.2.2.2.2.2.2.2.2.2.2<=d.2.1.2.2.2.2.2.2.2.2.2.2.2.2.2.2.2.2+3∧a.1.2.2.2.2.1=d.2.1.2.2.2.2.1∧a.1.2.2.2.2.2.2.2.2.2.2.2.2.2.1=d.2.1.2.2.2.2.2.2.2.2.2.2.2.2.2.1:=he
   rw[av]
   exact⟨⟨by show 0<=d.1.2.2.2.2+1;omega,by show d.1.2.2.2.2+1<=d.1.2.2.2.1;omega,i2,i3,by show((a.1.2.2.2.2.2.2.2.2.2.2.2.2.2.2.2.2:Nat):Int)+3*(d.1.2.2.2.1-(d.1.2.2.2.2+1))<=J;omega,i5,i6,i7,ik.1,ik.2.1,ik.2.2.1,ik.2.2.2.1,ik.2.2.2.2.1,ik.2.2.2.2.2.1,ik.2.2.2.2.2.2.1,ik.2.2.2.2.2.2.2.1,he.2.1.trans ik.2.2.2.2.2.2.2.2.1,he.2.2.trans ik.2.2.2.2.2.2.2.2.2.1,ik.2.2.2.2.2.2.2.2.2.2⟩,by show Int.toNat (d.1.2.2.2.1-(d.1.2.2.2.2+1))<_;omega⟩
  ·rw[ha] at he
   have he:a.1.1.2.2.2.2.2.2.2.2.2.2.2.2.2.2.2.2<=d.2.1.2.2.2.2.2.2.2.2.2.2.2.2.2.2.2.2+3∧a.1.1.2.2.2.2.1=d.2.1.2.2.2.2.1∧a.1.1.2.2.2.2.2.2.2.2.2.2.2.2.2.1=d.2.1.2.2.2.2.2.2.2.2.2.2.2.2.2.1:=he
   rw[av]
   exact⟨⟨by show 0<=d.1.2.2.2.2+1;omega,by show d.1.2.2.2.2+1<=d.1.2.2.2.1;omega,i2,i3,by show((a.1.1.2.2.2.2.2.2.2.2.2.2.2.2.2.2.2.2:Nat):Int)+3*(d.1.2.2.2.1-(d.1.2.2.2.2+1))<=J;omega,i5,i6,i7,ik.1,ik.2.1,ik.2.2.1,ik.2.2.2.1,ik.2.2.2.2.1,ik.2.2.2.2.2.1,ik.2.2.2.2.2.2.1,ik.2.2.2.2.2.2.2.1,he.2.1.trans ik.2.2.2.2.2.2.2.2.1,he.2.2.trans ik.2.2.2.2.2.2.2.2.2.1,ik.2.2.2.2.2.2.2.2.2.2⟩,by show Int.toNat (d.1.2.2.2.1-(d.1.2.2.2.2+1))<_;omega⟩) 2000 d hd (by omega)
theorem aVP (d:eO.B)(a:d.1.2.2.2.2=0)(b:d.1.2.2.2.1=((d.1.2.2.1:Nat):Int))(c:d.1.2.2.1<=64)(k:aX d.1.1 6=true)(j:d.2.1.2.2.2.2.2.2.2.2.2.2.2.2.2.2.2.2<=80000):Ok (wQ d) (λx:kv=>x.2.1.2.2.2.2.2.2.2.2.2.2.2.2.2.2.2.2<=d.2.1.2.2.2.2.2.2.2.2.2.2.2.2.2.2.2.2+3*d.1.2.2.1∧x.1.2.1=d.1.2.1∧x.2.2.2.2.2.1=d.2.2.2.2.2.1∧x.2.2.2.2.2.2.1=d.2.2.2.2.2.2.1∧x.2.2.2.2.2.2.2.1=d.2.2.2.2.2.2.2.1∧x.2.2.2.2.2.2.2.2.1=d.2.2.2.2.2.2.2.2.1∧x.2.2.2.2.2.2.2.2.2.1=d.2.2.2.2.2.2.2.2.2.1∧x.2.2.2.2.2.2.2.2.2.2.1=d.2.2.2.2.2.2.2.2.2.2.1∧x.2.2.2.2.2.2.2.2.2.2.2.2.1=d.2.2.2.2.2.2.2.2.2.2.2.2.1∧x.2.2.2.2.2.2.2.2.2.2.2.2.2.2.2.2.2.2.2.2.2.2.2.1=d.2.2.2.2.2.2.2.2.2.2.2.2.2.2.2.2.2.2.2.2.2.2.2.1∧x.2.1.2.2.2.2.1=d.2.1.2.2.2.2.1∧x.2.1.2.2.2.2.2.2.2.2.2.2.2.2.2.1=d.2.1.2.2.2.2.2.2.2.2.2.2.2.2.2.1∧x.2.2.2.2.2.2.2.2.2.2.2.2.2.2.1=d.2.2.2.2.2.2.2.2.2.2.2.2.2.2.1):=
 Ok.mono (aQA (((d.2.1.2.2.2.2.2.2.2.2.2.2.2.2.2.2.2.2:Nat):Int)+3*d.1.2.2.2.1) d d ⟨by omega,by omega,b,by omega,by omega,by omega,k,rfl,rfl,rfl,rfl,rfl,rfl,rfl,rfl,rfl,rfl,rfl,rfl⟩) λx hx=>⟨by have h:=hx.1;omega,hx.2⟩
theorem aQB (w d:fC.B)(W5:w.2.2.2.2.2.1.2.2.1<=64)(W6:w.2.2.2.2.2.2.1.2.2.1<=64)(W7:w.2.2.2.2.2.2.2.1.2.2.1<=64)(W8:w.2.2.2.2.2.2.2.2.1.2.2.1<=64)(W9:w.2.2.2.2.2.2.2.2.2.1.2.2.1<=64)(W10:w.2.2.2.2.2.2.2.2.2.2.1.2.2.1<=64)(hd:0<=d.1∧d.1<=6∧((d.2.1.2.2.2.2.2.2.2.2.2.2.2.2.2.2.2.2:Nat):Int)+192*(6-d.1)<=1152∧BR w.2.2.2.2.2.2.2.2.2.2.2.2.2.2.1.1 w.2.2.2.2.2.1 d.2.2.2.2.2.1∧BR w.2.2.2.2.2.2.2.2.2.2.2.2.2.2.1.1 w.2.2.2.2.2.2.1 d.2.2.2.2.2.2.1∧BR w.2.2.2.2.2.2.2.2.2.2.2.2.2.2.1.1 w.2.2.2.2.2.2.2.1 d.2.2.2.2.2.2.2.1∧BR w.2.2.2.2.2.2.2.2.2.2.2.2.2.2.1.1 w.2.2.2.2.2.2.2.2.1 d.2.2.2.2.2.2.2.2.1∧BR w.2.2.2.2.2.2.2.2.2.2.2.2.2.2.1.1 w.2.2.2.2.2.2.2.2.2.1 d.2.2.2.2.2.2.2.2.2.1∧BR w.2.2.2.2.2.2.2.2.2.2.2.2.2.2.1.1 w.2.2.2.2.2.2.2.2.2.2.1 d.2.2.2.2.2.2.2.2.2.2.1∧d.2.2.2.2.2.2.2.2.2.2.2.2.1=w.2.2.2.2.2.2.2.2.2.2.2.2.1∧d.2.2.2.2.2.2.2.2.2.2.2.2.2.2.2.2.2.2.2.2.2.2.1=w.2.2.2.2.2.2.2.2.2.2.2.2.2.2.2.2.2.2.2.2.2.2.1∧d.2.1.2.2.2.2.1=w.2.1.2.2.2.2.1∧d.2.1.2.2.2.2.2.2.2.2.2.2.2.2.2.1=w.2.1.2.2.2.2.2.2.2.2.2.2.2.2.2.1∧d.2.2.2.2.2.2.2.2.2.2.2.2.2.2.1.1=w.2.2.2.2.2.2.2.2.2.2.2.2.2.2.1.1):Ok (Ei d) (λx:mX=>x.2.1.2.2.2.2.2.2.2.2.2.2.2.2.2.2.2.2<=1152∧BR w.2.2.2.2.2.2.2.2.2.2.2.2.2.2.1.1 w.2.2.2.2.2.1 x.2.2.2.2.2.1∧BR w.2.2.2.2.2.2.2.2.2.2.2.2.2.2.1.1 w.2.2.2.2.2.2.1 x.2.2.2.2.2.2.1∧BR w.2.2.2.2.2.2.2.2.2.2.2.2.2.2.1.1 w.2.2.2.2.2.2.2.1 x.2.2.2.2.2.2.2.1∧BR w.2.2.2.2.2.2.2.2.2.2.2.2.2.2.1.1 w.2.2.2.2.2.2.2.2.1 x.2.2.2.2.2.2.2.2.1∧BR w.2.2.2.2.2.2.2.2.2.2.2.2.2.2.1.1 w.2.2.2.2.2.2.2.2.2.1 x.2.2.2.2.2.2.2.2.2.1∧BR w.2.2.2.2.2.2.2.2.2.2.2.2.2.2.1.1 w.2.2.2.2.2.2.2.2.2.2.1 x.2.2.2.2.2.2.2.2.2.2.1∧x.2.2.2.2.2.2.2.2.2.2.2.2.1=w.2.2.2.2.2.2.2.2.2.2.2.2.1∧x.2.2.2.2.2.2.2.2.2.2.2.2.2.2.2.2.2.2.2.2.2.2.1=w.2.2.2.2.2.2.2.2.2.2.2.2.2.2.2.2.2.2.2.2.2.2.1∧x.2.1.2.2.2.2.1=w.2.1.2.2.2.2.1∧x.2.1.2.2.2.2.2.2.2.2.2.2.2.2.2.1=w.2.1.2.2.2.2.2.2.2.2.2.2.2.2.2.1):=
 ba (s:=_) (λd:fC.B=>0<=d.1∧d.1<=6∧((d.2.1.2.2.2.2.2.2.2.2.2.2.2.2.2.2.2.2:Nat):Int)+192*(6-d.1)<=1152∧BR w.2.2.2.2.2.2.2.2.2.2.2.2.2.2.1.1 w.2.2.2.2.2.1 d.2.2.2.2.2.1∧BR w.2.2.2.2.2.2.2.2.2.2.2.2.2.2.1.1 w.2.2.2.2.2.2.1 d.2.2.2.2.2.2.1∧BR w.2.2.2.2.2.2.2.2.2.2.2.2.2.2.1.1 w.2.2.2.2.2.2.2.1 d.2.2.2.2.2.2.2.1∧BR w.2.2.2.2.2.2.2.2.2.2.2.2.2.2.1.1 w.2.2.2.2.2.2.2.2.1 d.2.2.2.2.2.2.2.2.1∧BR w.2.2.2.2.2.2.2.2.2.2.2.2.2.2.1.1 w.2.2.2.2.2.2.2.2.2.1 d.2.2.2.2.2.2.2.2.2.1∧BR w.2.2.2.2.2.2.2.2.2.2.2.2.2.2.1.1 w.2.2.2.2.2.2.2.2.2.2.1 d.2.2.2.2.2.2.2.2.2.2.1∧d.2.2.2.2.2.2.2.2.2.2.2.2.1=w.2.2.2.2.2.2.2.2.2.2.2.2.1∧d.2.2.2.2.2.2.2.2.2.2.2.2.2.2.2.2.2.2.2.2.2.2.1=w.2.2.2.2.2.2.2.2.2.2.2.2.2.2.2.2.2.2.2.2.2.2.1∧d.2.1.2.2.2.2.1=w.2.1.2.2.2.2.1∧d.2.1.2.2.2.2.2.2.2.2.2.2.2.2.2.1=w.2.1.2.2.2.2.2.2.2.2.2.2.2.2.2.1∧d.2.2.2.2.2.2.2.2.2.2.2.2.2.2.1.1=w.2.2.2.2.2.2.2.2.2.2.2.2.2.2.1.1) (λd:fC.B=>Int.toNat (6-d.1)) (λx:mX=>x.2.1.2.2.2.2.2.2.2.2.2.2.2.2.2.2.2.2<=1152∧BR w.2.2.2.2.2.2.2.2.2.2.2.2.2.2.1.1 w.2.2.2.2.2.1 x.2.2.2.2.2.1∧BR w.2.2.2.2.2.2.2.2.2.2.2.2.2.2.1.1 w.2.2.2.2.2.2.1 x.2.2.2.2.2.2.1∧BR w.2.2.2.2.2.2.2.2.2.2.2.2.2.2.1.1 w.2.2.2.2.2.2.2.1 x.2.2.2.2.2.2.2.1∧BR w.2.2.2.2.2.2.2.2.2.2.2.2.2.2.1.1 w.2.2.2.2.2.2.2.2.1 x.2.2.2.2.2.2.2.2.1∧BR w.2.2.2.2.2.2.2.2.2.2.2.2.2.2.1.1 w.2.2.2.2.2.2.2.2.2.1 x.2.2.2.2.2.2.2.2.2.1∧BR w.2.2.2.2.2.2.2.2.2.2.2.2.2.2.1.1 w.2.2.2.2.2.2.2.2.2.2.1 x.2.2.2.2.2.2.2.2.2.2.1∧x.2.2.2.2.2.2.2.2.2.2.2.2.1=w.2.2.2.2.2.2.2.2.2.2.2.2.1∧x.2.2.2.2.2.2.2.2.2.2.2.2.2.2.2.2.2.2.2.2.2.2.1=w.2.2.2.2.2.2.2.2.2.2.2.2.2.2.2.2.2.2.2.2.2.2.1∧x.2.1.2.2.2.2.1=w.2.1.2.2.2.2.1∧x.2.1.2.2.2.2.2.2.2.2.2.2.2.2.2.1=w.2.1.2.2.2.2.2.2.2.2.2.2.2.2.2.1) (λd hd=>by
  obtain⟨i0,i1,i2,s5,s6,s7,s8,s9,Xk,i12,i22,i4,it,i14⟩:=hd
  have hw:wI (d.1+1)=d.1+1:=bg (by omega) (by omega)
  unfold Eh
  dsimp only
  rw[aK]
  refine⟨λh=> ?_,λ_=>by rw[av];exact⟨by show d.2.1.2.2.2.2.2.2.2.2.2.2.2.2.2.2.2.2<=1152;omega,s5,s6,s7,s8,s9,Xk,i12,i22,i4,it⟩⟩
  have h:=of_decide_eq_true h
  have r0:aX d.1 6=true:=by rw[bk];omega
  rw[r0]
  simp only[aM]
  repeat' (first
   |rw[aB]
   |(with_reducible refine ay (aQt _ ?_) λe _ he=> ?_)
   |(with_reducible refine ay (aVP _ ?_ ?_ ?_ ?_ ?_) λy _ hy=> ?_)
   |(rw[aK];refine⟨λc=> ?_,λc=> ?_⟩))
  all_goals first
   |(rw[av]
     obtain⟨p1,p2⟩:=he
     have p2:=BR.mono (Int.le_of_eq i14) p2
     obtain⟨y1,y2,hb5,hb6,hb7,hb8,hb9,aYW,h12,h23,h4,ht,hh⟩:=hy
     have p1':e.1<=64:=by first|exact Nat.le_trans p1 (Nat.le_trans s5.len W5)|exact Nat.le_trans p1 (Nat.le_trans s6.len W6)|exact Nat.le_trans p1 (Nat.le_trans s7.len W7)|exact Nat.le_trans p1 (Nat.le_trans s8.len W8)|exact Nat.le_trans p1 (Nat.le_trans s9.len W9)|exact Nat.le_trans p1 (Nat.le_trans Xk.len W10)
     have y2:y.1.2.1=d.1:=y2
     have y1:y.2.1.2.2.2.2.2.2.2.2.2.2.2.2.2.2.2.2<=d.2.1.2.2.2.2.2.2.2.2.2.2.2.2.2.2.2.2+3*e.1:=y1
     have hw':wI (y.1.2.1+1)=d.1+1:=by rw[y2];exact hw
     exact⟨⟨by show 0<=wI (y.1.2.1+1);omega,by show wI (y.1.2.1+1)<=6;omega,by show((y.2.1.2.2.2.2.2.2.2.2.2.2.2.2.2.2.2.2:Nat):Int)+192*(6-wI (y.1.2.1+1))<=1152;omega,
    (by rw[show y.2.2.2.2.2.1=_ from hb5];first|exact s5|exact s5.trans p2),
    (by rw[show y.2.2.2.2.2.2.1=_ from hb6];first|exact s6|exact s6.trans p2),
    (by rw[show y.2.2.2.2.2.2.2.1=_ from hb7];first|exact s7|exact s7.trans p2),
    (by rw[show y.2.2.2.2.2.2.2.2.1=_ from hb8];first|exact s8|exact s8.trans p2),
    (by rw[show y.2.2.2.2.2.2.2.2.2.1=_ from hb9];first|exact s9|exact s9.trans p2),
    (by rw[show y.2.2.2.2.2.2.2.2.2.2.1=_ from aYW];first|exact Xk|exact Xk.trans p2),
    h12.trans i12,h23.trans i22,h4.trans i4,ht.trans it,(congrArg (λz=>z.1) hh).trans i14⟩,by show Int.toNat (6-wI (y.1.2.1+1))<_;omega⟩)
   |rfl
   |exact r0
   |(show d.2.1.2.2.2.2.2.2.2.2.2.2.2.2.2.2.2.2<=80000
     omega)
   |(obtain⟨p1,p2⟩:=he
     first|exact Nat.le_trans p1 (Nat.le_trans s5.len W5)|exact Nat.le_trans p1 (Nat.le_trans s6.len W6)|exact Nat.le_trans p1 (Nat.le_trans s7.len W7)|exact Nat.le_trans p1 (Nat.le_trans s8.len W8)|exact Nat.le_trans p1 (Nat.le_trans s9.len W9)|exact Nat.le_trans p1 (Nat.le_trans Xk.len W10))
   |exact Nat.le_trans s5.len (Nat.le_trans W5 (by decide))
   |exact Nat.le_trans s6.len (Nat.le_trans W6 (by decide))
   |exact Nat.le_trans s7.len (Nat.le_trans W7 (by decide))
   |exact Nat.le_trans s8.len (Nat.le_trans W8 (by decide))
   |exact Nat.le_trans s9.len (Nat.le_trans W9 (by decide))
   |exact Nat.le_trans Xk.len (Nat.le_trans W10 (by decide))) 2000 d hd (by omega)
theorem aQC (w d:fB.B)(hd:0<=d.1∧d.1<=6∧d.2.1=w.2.1∧d.2.2.2.2.2.1=w.2.2.2.2.2.1∧d.2.2.2.2.2.2.1=w.2.2.2.2.2.2.1∧d.2.2.2.2.2.2.2.1=w.2.2.2.2.2.2.2.1∧d.2.2.2.2.2.2.2.2.1=w.2.2.2.2.2.2.2.2.1∧d.2.2.2.2.2.2.2.2.2.1=w.2.2.2.2.2.2.2.2.2.1∧d.2.2.2.2.2.2.2.2.2.2.1=w.2.2.2.2.2.2.2.2.2.2.1∧d.2.2.2.2.2.2.2.2.2.2.2.2.1=w.2.2.2.2.2.2.2.2.2.2.2.2.1∧d.2.2.2.2.2.2.2.2.2.2.2.2.2.2.2.2.2.2.2.2.2.2.2.1=w.2.2.2.2.2.2.2.2.2.2.2.2.2.2.2.2.2.2.2.2.2.2.2.1):Ok (Ef d) (λx:mV=>x.2.1=w.2.1∧x.2.2.2.2.2.1=w.2.2.2.2.2.1∧x.2.2.2.2.2.2.1=w.2.2.2.2.2.2.1∧x.2.2.2.2.2.2.2.1=w.2.2.2.2.2.2.2.1∧x.2.2.2.2.2.2.2.2.1=w.2.2.2.2.2.2.2.2.1∧x.2.2.2.2.2.2.2.2.2.1=w.2.2.2.2.2.2.2.2.2.1∧x.2.2.2.2.2.2.2.2.2.2.1=w.2.2.2.2.2.2.2.2.2.2.1∧x.2.2.2.2.2.2.2.2.2.2.2.2.1=w.2.2.2.2.2.2.2.2.2.2.2.2.1∧x.2.2.2.2.2.2.2.2.2.2.2.2.2.2.2.2.2.2.2.2.2.2.2.1=w.2.2.2.2.2.2.2.2.2.2.2.2.2.2.2.2.2.2.2.2.2.2.2.1):=
 ba (s:=_) (λd:fB.B=>0<=d.1∧d.1<=6∧d.2.1=w.2.1∧d.2.2.2.2.2.1=w.2.2.2.2.2.1∧d.2.2.2.2.2.2.1=w.2.2.2.2.2.2.1∧d.2.2.2.2.2.2.2.1=w.2.2.2.2.2.2.2.1∧d.2.2.2.2.2.2.2.2.1=w.2.2.2.2.2.2.2.2.1∧d.2.2.2.2.2.2.2.2.2.1=w.2.2.2.2.2.2.2.2.2.1∧d.2.2.2.2.2.2.2.2.2.2.1=w.2.2.2.2.2.2.2.2.2.2.1∧d.2.2.2.2.2.2.2.2.2.2.2.2.1=w.2.2.2.2.2.2.2.2.2.2.2.2.1∧d.2.2.2.2.2.2.2.2.2.2.2.2.2.2.2.2.2.2.2.2.2.2.2.1=w.2.2.2.2.2.2.2.2.2.2.2.2.2.2.2.2.2.2.2.2.2.2.2.1) (λd:fB.B=>Int.toNat (6-d.1)) (λx:mV=>x.2.1=w.2.1∧x.2.2.2.2.2.1=w.2.2.2.2.2.1∧x.2.2.2.2.2.2.1=w.2.2.2.2.2.2.1∧x.2.2.2.2.2.2.2.1=w.2.2.2.2.2.2.2.1∧x.2.2.2.2.2.2.2.2.1=w.2.2.2.2.2.2.2.2.1∧x.2.2.2.2.2.2.2.2.2.1=w.2.2.2.2.2.2.2.2.2.1∧x.2.2.2.2.2.2.2.2.2.2.1=w.2.2.2.2.2.2.2.2.2.2.1∧x.2.2.2.2.2.2.2.2.2.2.2.2.1=w.2.2.2.2.2.2.2.2.2.2.2.2.1∧x.2.2.2.2.2.2.2.2.2.2.2.2.2.2.2.2.2.2.2.2.2.2.2.1=w.2.2.2.2.2.2.2.2.2.2.2.2.2.2.2.2.2.2.2.2.2.2.2.1) (λd hd=>by
  obtain⟨i0,i1,ik⟩:=hd
  have hw:wI (d.1+1)=d.1+1:=bg (by omega) (by omega)
  unfold Ee
  dsimp only
  rw[aK]
  refine⟨λh=> ?_,λ_=>by rw[av];exact ik⟩
  have h:=of_decide_eq_true h
  have r0:aX d.1 6=true:=by rw[bk];omega
  rw[r0,hw,bu]
  intro _ _
  rw[aB]
  repeat' (first
   |(rw[aK];refine⟨λc=> ?_,λc=> ?_⟩))
  all_goals
   rw[av]
   exact⟨⟨by show 0<=d.1+1;omega,by show d.1+1<=6;omega,ik⟩,by show Int.toNat (6-(d.1+1))<_;omega⟩) 2000 d hd (by omega)
theorem aO0 (d:jt.B)(h:d.2.2.2.2.2.2.2.2.2.2.2.1.2.2<=1999)(k:d.2.2.2.2.2.2.2.2.2.2.2.1.2.2<=d.2.2.2.2.2.2.2.2.2.2.2.2.2.2.2.2.2.2.2.2.2.1):Ok (wR d) (λx:mW=>match x with|.inl e=>e.2.2.2.2.2.1=d.2.2.2.2.1∧e.2.2.2.2.2.2.1=d.2.2.2.2.2.1∧e.2.2.2.2.2.2.2.1=d.2.2.2.2.2.2.1∧e.2.2.2.2.2.2.2.2.1=d.2.2.2.2.2.2.2.1∧e.2.2.2.2.2.2.2.2.2.1=d.2.2.2.2.2.2.2.2.1∧e.2.2.2.2.2.2.2.2.2.2.1=d.2.2.2.2.2.2.2.2.2.1∧e.2.2.2.2.2.2.2.2.2.2.2.2.1=d.2.2.2.2.2.2.2.2.2.2.2.1∧e.2.1.2.2.2.1=d.1.2.2.2.2.1∧e.2.1.2.2.2.2.2.2.2.2.2.2.2.1=d.1.2.2.2.2.2.2.2.2.2.2.2.2.2.1|.inr e=>e.2.2.2.2.2.1=d.2.2.2.2.1∧e.2.2.2.2.2.2.1=d.2.2.2.2.2.1∧e.2.2.2.2.2.2.2.1=d.2.2.2.2.2.2.1∧e.2.2.2.2.2.2.2.2.1=d.2.2.2.2.2.2.2.1∧e.2.2.2.2.2.2.2.2.2.1=d.2.2.2.2.2.2.2.2.1∧e.2.2.2.2.2.2.2.2.2.2.1=d.2.2.2.2.2.2.2.2.2.1∧e.2.2.2.2.2.2.2.2.2.2.2.2.1=d.2.2.2.2.2.2.2.2.2.2.2.1∧e.2.1.2.2.2.2.1=d.1.2.2.2.2.1∧e.2.1.2.2.2.2.2.2.2.2.2.2.2.2.1=d.1.2.2.2.2.2.2.2.2.2.2.2.2.2.1):=by
 unfold wR Eg
 try dsimp only
 show PQ _ _
 rw[aK]
 refine⟨λ_=> ?_,λ_=>by rw[av];exact⟨rfl,rfl,rfl,rfl,rfl,rfl,rfl,rfl,rfl⟩⟩
 rw[aM,aB]
 with_reducible refine ay (aKS _ ?_) λe _ he=> ?_
 ·exact h
 have he:e.2.2.1=d.2.2.2.2.2.2.2.2.2.2.2.1.2.2:=he
 have b1:(true&&Nat.beq (e.2.2.1*11+0) (d.2.2.2.2.2.2.2.2.2.2.2.1.2.2*11)&&true)=true:=by rw[he,Nat.add_zero,aM];rfl
 have b2:(true&&Nat.ble (0+(e.2.2.1*11+0)) (d.2.2.2.2.2.2.2.2.2.2.2.2.2.2.2.2.2.2.2.2.2.1*11+0))=true:=by rw[he,Bool.true_and,bO];omega
 try dsimp only
 rw[b1,b2,aB,aB,av]
 exact⟨rfl,rfl,rfl,rfl,rfl,rfl,rfl,rfl,rfl⟩
theorem aO1 (d:ju.B)(j:d.1.2.2.2.2.2.2.2.2.2.2.2.2.2.2.2.2<=1800)(h:d.2.2.2.2.2.2.2.2.2.2.2.1.2.2<=1999)(k:d.2.2.2.2.2.2.2.2.2.2.2.1.2.2<=d.2.2.2.2.2.2.2.2.2.2.2.2.2.2.2.2.2.2.2.2.2.2.1):Ok (wS d) (λx:mY=>match x with|.inl e=>e.2.2.2.2.2.1=d.2.2.2.2.1∧e.2.2.2.2.2.2.1=d.2.2.2.2.2.1∧e.2.2.2.2.2.2.2.1=d.2.2.2.2.2.2.1∧e.2.2.2.2.2.2.2.2.1=d.2.2.2.2.2.2.2.1∧e.2.2.2.2.2.2.2.2.2.1=d.2.2.2.2.2.2.2.2.1∧e.2.2.2.2.2.2.2.2.2.2.1=d.2.2.2.2.2.2.2.2.2.1∧e.2.2.2.2.2.2.2.2.2.2.2.2.1=d.2.2.2.2.2.2.2.2.2.2.2.1∧e.2.1.2.2.2.1=d.1.2.2.2.2.1∧e.2.1.2.2.2.2.2.2.2.2.2.2.2.1=d.1.2.2.2.2.2.2.2.2.2.2.2.2.2.1|.inr e=>e.2.2.2.2.2.1=d.2.2.2.2.1∧e.2.2.2.2.2.2.1=d.2.2.2.2.2.1∧e.2.2.2.2.2.2.2.1=d.2.2.2.2.2.2.1∧e.2.2.2.2.2.2.2.2.1=d.2.2.2.2.2.2.2.1∧e.2.2.2.2.2.2.2.2.2.1=d.2.2.2.2.2.2.2.2.1∧e.2.2.2.2.2.2.2.2.2.2.1=d.2.2.2.2.2.2.2.2.2.1∧e.2.2.2.2.2.2.2.2.2.2.2.2.1=d.2.2.2.2.2.2.2.2.2.2.2.1∧e.2.1.2.2.2.2.1=d.1.2.2.2.2.1∧e.2.1.2.2.2.2.2.2.2.2.2.2.2.2.1=d.1.2.2.2.2.2.2.2.2.2.2.2.2.2.1):=by
 unfold wS Ej
 try dsimp only
 show PQ _ _
 simp only[aM]
 have b3:Nat.ble ((1+d.1.2.2.2.2.2.2.2.2.2.2.2.2.2.2.2.2)*80) 140737488355328=true:=by rw[bO];omega
 rw[bu]
 intro _ _
 rw[aK]
 refine⟨λ_=> ?_,λ_=> ?_⟩
 ·rw[aB,aB]
  with_reducible refine ay (aQr _ ?_ ?_) λe _ he=> ?_
  ·show d.1.2.2.2.2.2.2.2.2.2.2.2.2.2.2.2.2<=1999
   omega
  ·exact h
  have he:e.2.1=d.2.2.2.2.2.2.2.2.2.2.2.1.2.2:=he
  have b1:(true&&Nat.beq (e.2.1*11+0) (d.2.2.2.2.2.2.2.2.2.2.2.1.2.2*11)&&true)=true:=by rw[he,Nat.add_zero,aM];rfl
  have b2:(true&&Nat.ble (0+(e.2.1*11+0)) (d.2.2.2.2.2.2.2.2.2.2.2.2.2.2.2.2.2.2.2.2.2.2.1*11+0))=true:=by rw[he,Bool.true_and,bO];omega
  rw[b1,b2,b3,aB,aB,aB,aB]
  with_reducible refine ay (bl.Ok (Q:=λ_=>True) (aEn _ _ _ _ _ _ _ _ _ _ _ _ _ ?_) λ_ _=>trivial) λe3 _ _=> ?_
  ·omega
  simp only[aB]
  with_reducible refine ay (aO0 _ ?_ ?_) λy _ hy=> ?_
  ·exact h
  ·exact k
  rw[r9]
  refine⟨λa ha=> ?_,λa ha=> ?_⟩
  ·rw[av];rw[ha] at hy;exact hy
  ·rw[av];rw[ha] at hy;exact hy
 ·simp only[aB]
  with_reducible refine ay (aO0 _ ?_ ?_) λy _ hy=> ?_
  ·exact h
  ·exact k
  rw[r9]
  refine⟨λa ha=> ?_,λa ha=> ?_⟩
  ·rw[av];rw[ha] at hy;exact hy
  ·rw[av];rw[ha] at hy;exact hy
theorem aIj (d:jw.B)(j:d.1.2.2.2.2.2.2.2.2.2.2.2.2.2.2.2.2=0)(l4:d.2.2.2.2.1.2.2.1<=64)(l5:d.2.2.2.2.2.1.2.2.1<=64)(l6:d.2.2.2.2.2.2.1.2.2.1<=64)(l7:d.2.2.2.2.2.2.2.1.2.2.1<=64)(l8:d.2.2.2.2.2.2.2.2.1.2.2.1<=64)(l9:d.2.2.2.2.2.2.2.2.2.1.2.2.1<=64)(h:d.2.2.2.2.2.2.2.2.2.2.2.1.2.2<=1999)(k:d.2.2.2.2.2.2.2.2.2.2.2.1.2.2<=d.2.2.2.2.2.2.2.2.2.2.2.2.2.2.2.2.2.2.2.2.2.1):Ok (qP d) (λx:mZ=>match x with|.inl e=>BR d.2.2.2.2.2.2.2.2.2.2.2.2.2.1.1 d.2.2.2.2.1 e.2.2.2.2.2.1∧BR d.2.2.2.2.2.2.2.2.2.2.2.2.2.1.1 d.2.2.2.2.2.1 e.2.2.2.2.2.2.1∧BR d.2.2.2.2.2.2.2.2.2.2.2.2.2.1.1 d.2.2.2.2.2.2.1 e.2.2.2.2.2.2.2.1∧BR d.2.2.2.2.2.2.2.2.2.2.2.2.2.1.1 d.2.2.2.2.2.2.2.1 e.2.2.2.2.2.2.2.2.1∧BR d.2.2.2.2.2.2.2.2.2.2.2.2.2.1.1 d.2.2.2.2.2.2.2.2.1 e.2.2.2.2.2.2.2.2.2.1∧BR d.2.2.2.2.2.2.2.2.2.2.2.2.2.1.1 d.2.2.2.2.2.2.2.2.2.1 e.2.2.2.2.2.2.2.2.2.2.1∧e.2.2.2.2.2.2.2.2.2.2.2.2.1=d.2.2.2.2.2.2.2.2.2.2.2.1∧e.2.1.2.2.2.1=d.1.2.2.2.2.1∧e.2.1.2.2.2.2.2.2.2.2.2.2.2.1=d.1.2.2.2.2.2.2.2.2.2.2.2.2.2.1|.inr e=>BR d.2.2.2.2.2.2.2.2.2.2.2.2.2.1.1 d.2.2.2.2.1 e.2.2.2.2.2.1∧BR d.2.2.2.2.2.2.2.2.2.2.2.2.2.1.1 d.2.2.2.2.2.1 e.2.2.2.2.2.2.1∧BR d.2.2.2.2.2.2.2.2.2.2.2.2.2.1.1 d.2.2.2.2.2.2.1 e.2.2.2.2.2.2.2.1∧BR d.2.2.2.2.2.2.2.2.2.2.2.2.2.1.1 d.2.2.2.2.2.2.2.1 e.2.2.2.2.2.2.2.2.1∧BR d.2.2.2.2.2.2.2.2.2.2.2.2.2.1.1 d.2.2.2.2.2.2.2.2.1 e.2.2.2.2.2.2.2.2.2.1∧BR d.2.2.2.2.2.2.2.2.2.2.2.2.2.1.1 d.2.2.2.2.2.2.2.2.2.1 e.2.2.2.2.2.2.2.2.2.2.1∧e.2.2.2.2.2.2.2.2.2.2.2.2.1=d.2.2.2.2.2.2.2.2.2.2.2.1∧e.2.1.2.2.2.2.1=d.1.2.2.2.2.1∧e.2.1.2.2.2.2.2.2.2.2.2.2.2.2.1=d.1.2.2.2.2.2.2.2.2.2.2.2.2.2.1):=by
 unfold qP Ek
 try dsimp only
 show PQ _ _
 simp only[aM]
 simp only[aB]
 refine ay (aQB _ _ l4 l5 l6 l7 l8 l9 ⟨Int.le_refl 0,(show(0:Int)<=6 by decide),(by show((d.1.2.2.2.2.2.2.2.2.2.2.2.2.2.2.2.2:Nat):Int)+192*(6-0)<=1152;omega),BR.refl _ _,BR.refl _ _,BR.refl _ _,BR.refl _ _,BR.refl _ _,BR.refl _ _,rfl,rfl,rfl,rfl,rfl⟩) λa _ ha=> ?_
 obtain⟨u1,u5,u6,u7,u8,u9,u10,u12,u22,u4,ut⟩:=ha
 simp only[aB]
 refine ay (aQC _ _ ⟨Int.le_refl 0,(show(0:Int)<=6 by decide),rfl,rfl,rfl,rfl,rfl,rfl,rfl,rfl,rfl⟩) λb _ hb=> ?_
 obtain⟨g1,g5,g6,g7,g8,g9,g10,g12,g23⟩:=hb
 rw[aK]
 refine⟨λ_=> ?_,λ_=> ?_⟩
 ·simp only[aB]
  with_reducible refine ay (aO1 _ ?_ ?_ ?_) λy _ hy=> ?_
  ·show b.2.1.2.2.2.2.2.2.2.2.2.2.2.2.2.2.2.2<=1800
   rw[g1];exact Nat.le_trans u1 (by decide)
  ·show b.2.2.2.2.2.2.2.2.2.2.2.2.1.2.2<=1999
   rw[g12];show a.2.2.2.2.2.2.2.2.2.2.2.2.1.2.2<=1999;rw[u12];exact h
  ·show b.2.2.2.2.2.2.2.2.2.2.2.2.1.2.2<=b.2.2.2.2.2.2.2.2.2.2.2.2.2.2.2.2.2.2.2.2.2.2.2.1
   rw[g12,g23];show a.2.2.2.2.2.2.2.2.2.2.2.2.1.2.2<=a.2.2.2.2.2.2.2.2.2.2.2.2.2.2.2.2.2.2.2.2.2.2.1;rw[u12,u22];exact k
  rw[r9]
  refine⟨λa1 ha=> ?_,λa1 ha=> ?_⟩
  ·rw[av];rw[ha] at hy
   obtain⟨q5,q6,q7,q8,q9,q10,Rz,q4,qt⟩:=hy
   exact⟨(by rw[q5];show BR _ _ b.2.2.2.2.2.1;rw[g5];exact u5),(by rw[q6];show BR _ _ b.2.2.2.2.2.2.1;rw[g6];exact u6),(by rw[q7];show BR _ _ b.2.2.2.2.2.2.2.1;rw[g7];exact u7),(by rw[q8];show BR _ _ b.2.2.2.2.2.2.2.2.1;rw[g8];exact u8),(by rw[q9];show BR _ _ b.2.2.2.2.2.2.2.2.2.1;rw[g9];exact u9),(by rw[q10];show BR _ _ b.2.2.2.2.2.2.2.2.2.2.1;rw[g10];exact u10),Rz.trans (g12.trans u12),q4.trans ((congrArg (λz=>z.2.2.2.2.1) g1).trans u4),qt.trans ((congrArg (λz=>z.2.2.2.2.2.2.2.2.2.2.2.2.2.1) g1).trans ut)⟩
  ·rw[av];rw[ha] at hy
   obtain⟨q5,q6,q7,q8,q9,q10,Rz,q4,qt⟩:=hy
   exact⟨(by rw[q5];show BR _ _ b.2.2.2.2.2.1;rw[g5];exact u5),(by rw[q6];show BR _ _ b.2.2.2.2.2.2.1;rw[g6];exact u6),(by rw[q7];show BR _ _ b.2.2.2.2.2.2.2.1;rw[g7];exact u7),(by rw[q8];show BR _ _ b.2.2.2.2.2.2.2.2.1;rw[g8];exact u8),(by rw[q9];show BR _ _ b.2.2.2.2.2.2.2.2.2.1;rw[g9];exact u9),(by rw[q10];show BR _ _ b.2.2.2.2.2.2.2.2.2.2.1;rw[g10];exact u10),Rz.trans (g12.trans u12),q4.trans ((congrArg (λz=>z.2.2.2.2.1) g1).trans u4),qt.trans ((congrArg (λz=>z.2.2.2.2.2.2.2.2.2.2.2.2.2.1) g1).trans ut)⟩
 ·simp only[aB]
  with_reducible refine ay (aO1 _ ?_ ?_ ?_) λy _ hy=> ?_
  ·show b.2.1.2.2.2.2.2.2.2.2.2.2.2.2.2.2.2.2<=1800
   rw[g1];exact Nat.le_trans u1 (by decide)
  ·show b.2.2.2.2.2.2.2.2.2.2.2.2.1.2.2<=1999
   rw[g12];show a.2.2.2.2.2.2.2.2.2.2.2.2.1.2.2<=1999;rw[u12];exact h
  ·show b.2.2.2.2.2.2.2.2.2.2.2.2.1.2.2<=b.2.2.2.2.2.2.2.2.2.2.2.2.2.2.2.2.2.2.2.2.2.2.2.1
   rw[g12,g23];show a.2.2.2.2.2.2.2.2.2.2.2.2.1.2.2<=a.2.2.2.2.2.2.2.2.2.2.2.2.2.2.2.2.2.2.2.2.2.2.1;rw[u12,u22];exact k
  rw[r9]
  refine⟨λa1 ha=> ?_,λa1 ha=> ?_⟩
  ·rw[av];rw[ha] at hy
   obtain⟨q5,q6,q7,q8,q9,q10,Rz,q4,qt⟩:=hy
   exact⟨(by rw[q5];show BR _ _ b.2.2.2.2.2.1;rw[g5];exact u5),(by rw[q6];show BR _ _ b.2.2.2.2.2.2.1;rw[g6];exact u6),(by rw[q7];show BR _ _ b.2.2.2.2.2.2.2.1;rw[g7];exact u7),(by rw[q8];show BR _ _ b.2.2.2.2.2.2.2.2.1;rw[g8];exact u8),(by rw[q9];show BR _ _ b.2.2.2.2.2.2.2.2.2.1;rw[g9];exact u9),(by rw[q10];show BR _ _ b.2.2.2.2.2.2.2.2.2.2.1;rw[g10];exact u10),Rz.trans (g12.trans u12),q4.trans ((congrArg (λz=>z.2.2.2.2.1) g1).trans u4),qt.trans ((congrArg (λz=>z.2.2.2.2.2.2.2.2.2.2.2.2.2.1) g1).trans ut)⟩
  ·rw[av];rw[ha] at hy
   obtain⟨q5,q6,q7,q8,q9,q10,Rz,q4,qt⟩:=hy
   exact⟨(by rw[q5];show BR _ _ b.2.2.2.2.2.1;rw[g5];exact u5),(by rw[q6];show BR _ _ b.2.2.2.2.2.2.1;rw[g6];exact u6),(by rw[q7];show BR _ _ b.2.2.2.2.2.2.2.1;rw[g7];exact u7),(by rw[q8];show BR _ _ b.2.2.2.2.2.2.2.2.1;rw[g8];exact u8),(by rw[q9];show BR _ _ b.2.2.2.2.2.2.2.2.2.1;rw[g9];exact u9),(by rw[q10];show BR _ _ b.2.2.2.2.2.2.2.2.2.2.1;rw[g10];exact u10),Rz.trans (g12.trans u12),q4.trans ((congrArg (λz=>z.2.2.2.2.1) g1).trans u4),qt.trans ((congrArg (λz=>z.2.2.2.2.2.2.2.2.2.2.2.2.2.1) g1).trans ut)⟩
theorem aUq (N:Nat)(h1:1<=N)(hN:N<=1999)(x:pk.B)(hs:x.2.2.2.2.2.2.2.2.2.2.2.2.1.1<=(N:Int))(hl:x.2.2.2.2.2.2.2.2.2.2.2.2.1.2.2<=N)(hq:x.2.1.2.2.2.2.1<=1999)(l5:x.2.2.2.2.2.1.2.2.1<=64)(l6:x.2.2.2.2.2.2.1.2.2.1<=64)(l7:x.2.2.2.2.2.2.2.1.2.2.1<=64)(l8:x.2.2.2.2.2.2.2.2.1.2.2.1<=64)(l9:x.2.2.2.2.2.2.2.2.2.1.2.2.1<=64)(l10:x.2.2.2.2.2.2.2.2.2.2.1.2.2.1<=64):Ok (uL x) (λr:uK=>BR x.1.1 x.2.2.2.2.2.1 r.1.2.1∧BR x.1.1 x.2.2.2.2.2.2.1 r.1.2.2.1∧BR x.1.1 x.2.2.2.2.2.2.2.1 r.1.2.2.2.1∧BR x.1.1 x.2.2.2.2.2.2.2.2.1 r.1.2.2.2.2.1∧BR x.1.1 x.2.2.2.2.2.2.2.2.2.1 r.1.2.2.2.2.2.1∧BR x.1.1 x.2.2.2.2.2.2.2.2.2.2.1 r.1.2.2.2.2.2.2.1∧r.1.2.2.2.2.2.2.2.2.1=x.2.2.2.2.2.2.2.2.2.2.2.2.1.1∧r.1.2.2.2.2.2.2.2.2.2.2<=N∧r.1.1.2.2.2.2.1=x.2.1.2.2.2.2.1∧r.1.1.2.2.2.2.2.2.2.2.2.2.2.2.2.1=x.1.1):=by
 unfold uL A8
 try dsimp only
 show PQ _ _
 simp only[aM]
 rw[aK]
 refine⟨λ_=> ?_,λ_=> ?_⟩
 ·simp only[aB]
  with_reducible refine ay (aQy N h1 hN _ ?_ ?_) λe _ he=> ?_
  ·exact hs
  ·exact hq
  rw[qh]
  refine⟨λb hb=> ?_,λb hb=> ?_⟩
  ·rw[hb] at he
   obtain⟨e1,e2,e4,et⟩:=he
   have e1:b.2=x.2.2.2.2.2.2.2.2.2.2.2.2.1:=e1
   simp only[aB]
   with_reducible refine ay (aIj _ ?_ ?_ ?_ ?_ ?_ ?_ ?_ ?_ ?_) λy _ hy=> ?_
   ·exact e2
   ·exact l5
   ·exact l6
   ·exact l7
   ·exact l8
   ·exact l9
   ·exact l10
   ·show b.2.2.2<=1999
    rw[e1];omega
   ·show b.2.2.2<=x.2.2.2.2.2.2.2.2.2.2.2.2.1.2.2
    rw[e1];exact Nat.le_refl _
   rw[r9]
   refine⟨λa ha=> ?_,λa ha=> ?_⟩
   ·rw[ha] at hy
    obtain⟨s5,s6,s7,s8,s9,Xk,Rz,q4,qt⟩:=hy
    rw[av]
    exact⟨s5,s6,s7,s8,s9,Xk,(by show a.2.2.2.2.2.2.2.2.2.2.2.2.1.1=x.2.2.2.2.2.2.2.2.2.2.2.2.1.1;rw[Rz];show b.2.1=_;rw[e1]),(by show a.2.2.2.2.2.2.2.2.2.2.2.2.1.2.2<=N;rw[Rz];show b.2.2.2<=N;rw[e1];exact hl),q4.trans e4,qt.trans et⟩
   ·rw[ha] at hy
    obtain⟨s5,s6,s7,s8,s9,Xk,Rz,q4,qt⟩:=hy
    rw[av]
    exact⟨s5,s6,s7,s8,s9,Xk,(by show a.2.2.2.2.2.2.2.2.2.2.2.2.1.1=x.2.2.2.2.2.2.2.2.2.2.2.2.1.1;rw[Rz];show b.2.1=_;rw[e1]),(by show a.2.2.2.2.2.2.2.2.2.2.2.2.1.2.2<=N;rw[Rz];show b.2.2.2<=N;rw[e1];exact hl),q4.trans e4,qt.trans et⟩
  ·rw[hb] at he
   obtain⟨e1,e2,e3,e4,e5,et⟩:=he
   have e2:b.1.2.1=x.2.2.2.2.2.2.2.2.2.2.2.2.1.1:=e2
   simp only[aB]
   with_reducible refine ay (aIj _ ?_ ?_ ?_ ?_ ?_ ?_ ?_ ?_ ?_) λy _ hy=> ?_
   ·exact e4
   ·exact l5
   ·exact l6
   ·exact l7
   ·exact l8
   ·exact l9
   ·exact l10
   ·show b.1.2.2.2<=1999
    omega
   ·exact e3
   rw[r9]
   refine⟨λa ha=> ?_,λa ha=> ?_⟩
   ·rw[ha] at hy
    obtain⟨s5,s6,s7,s8,s9,Xk,Rz,q4,qt⟩:=hy
    rw[av]
    exact⟨s5,s6,s7,s8,s9,Xk,(by show a.2.2.2.2.2.2.2.2.2.2.2.2.1.1=x.2.2.2.2.2.2.2.2.2.2.2.2.1.1;rw[Rz];exact e2),(by show a.2.2.2.2.2.2.2.2.2.2.2.2.1.2.2<=N;rw[Rz];exact e1),q4.trans e5,qt.trans et⟩
   ·rw[ha] at hy
    obtain⟨s5,s6,s7,s8,s9,Xk,Rz,q4,qt⟩:=hy
    rw[av]
    exact⟨s5,s6,s7,s8,s9,Xk,(by show a.2.2.2.2.2.2.2.2.2.2.2.2.1.1=x.2.2.2.2.2.2.2.2.2.2.2.2.1.1;rw[Rz];exact e2),(by show a.2.2.2.2.2.2.2.2.2.2.2.2.1.2.2<=N;rw[Rz];exact e1),q4.trans e5,qt.trans et⟩
 ·rw[bu]
  intro _ _
  rw[bu]
  intro _ _
  simp only[aB]
  with_reducible refine ay (aIj _ ?_ ?_ ?_ ?_ ?_ ?_ ?_ ?_ ?_) λy _ hy=> ?_
  ·rfl
  ·exact l5
  ·exact l6
  ·exact l7
  ·exact l8
  ·exact l9
  ·exact l10
  ·show x.2.2.2.2.2.2.2.2.2.2.2.2.1.2.2<=1999
   omega
  ·exact Nat.le_refl _
  rw[r9]
  refine⟨λa ha=> ?_,λa ha=> ?_⟩
  ·rw[ha] at hy
   obtain⟨s5,s6,s7,s8,s9,Xk,Rz,q4,qt⟩:=hy
   rw[av]
   exact⟨s5,s6,s7,s8,s9,Xk,(by show a.2.2.2.2.2.2.2.2.2.2.2.2.1.1=x.2.2.2.2.2.2.2.2.2.2.2.2.1.1;rw[Rz];done),(by show a.2.2.2.2.2.2.2.2.2.2.2.2.1.2.2<=N;rw[Rz];exact hl),q4.trans rfl,qt.trans rfl⟩
  ·rw[ha] at hy
   obtain⟨s5,s6,s7,s8,s9,Xk,Rz,q4,qt⟩:=hy
   rw[av]
   exact⟨s5,s6,s7,s8,s9,Xk,(by show a.2.2.2.2.2.2.2.2.2.2.2.2.1.1=x.2.2.2.2.2.2.2.2.2.2.2.2.1.1;rw[Rz];done),(by show a.2.2.2.2.2.2.2.2.2.2.2.2.1.2.2<=N;rw[Rz];exact hl),q4.trans rfl,qt.trans rfl⟩
end Go.Proofs.YtldgljclcgaibaaGreat
namespace Go.Proofs.YtldgljclcgaibaaGreat
open Go.Ab Go.Ab.Pg
theorem aKW (w:Int×Int×(Int×Int×Int)×Int×Int×Int)(d:fW.B)(hd:0<=d.1∧d.1<=3∧d.2.1=w.1):Ok (Hy d) (λx:oy=>match x with|.inl _=>True|.inr e=>e.2.1=w.1):=
 ba (s:=_) (λd:fW.B=>0<=d.1∧d.1<=3∧d.2.1=w.1) (λd:fW.B=>Int.toNat (3-d.1)) (λx:oy=>match x with|.inl _=>True|.inr e=>e.2.1=w.1) (λd hd=>by
  have hw:wI (d.1+1)=d.1+1:=bg (by omega) (by omega)
  unfold Hw
  simp only[bE]
  simp only[nf,Bool.not_eq_true',rN,hw]
  repeat' (first|exact True.intro|exact hd.2.2|omega|(intro _)|(apply And.intro))) 2000 d hd (by omega)
theorem aQD (x0:Int)(x1:Int)(x2:Int)(x3:Int)(x4:Int)(x5:Int)(x6:Int)(x7:Int):Ok (xB x0 x1 x2 x3 x4 x5 x6 x7) (λr=>r=true->0<=x0):=by
 unfold xB Oe
 show PQ _ _
 refine ay (aKW (x0,x1,(x2,x3,x4),x5,x6,x7) _ ⟨Int.le_refl 0,(show(0:Int)<=3 by decide),rfl⟩) λd _ hd=> ?_
 rw[r9]
 refine⟨λa _=>by rw[av];intro h;exact absurd h (by decide),λa ha=> ?_⟩
 rw[ha] at hd
 have hd:a.2.1=x0:=hd
 rw[aK]
 refine⟨λ_=> ?_,λ_=>by rw[av];intro h;exact absurd h (by decide)⟩
 rw[aK]
 refine⟨λ_=> ?_,λ_=>by rw[av];intro h;exact absurd h (by decide)⟩
 rw[aK]
 refine⟨λc=> ?_,λ_=>by rw[av];intro h;exact absurd h (by decide)⟩
 rw[av]
 have c:=of_decide_eq_true c
 intro _
 omega
theorem aFS (x:B6.B):Ok (xC x) (λr=>r.1.1=x.1.2.1):=by
 unfold xC Og
 try dsimp only
 show PQ _ _
 rw[bu]
 intro _ _
 rw[bu]
 intro _ _
 rw[av]
theorem aUr (x:mP.B)(h:x.2.1.2.2=false->x.2.1.2.1.1<=0):Ok (iz x) (λr=>(r.2.1.2.2=false->r.2.1.2.1.1<=0)∧x.2.1.2.1.1<=r.2.1.2.1.1∧(r.1.2.1=true->r.1.1.1=r.2.1.2.1.1)):=by
 unfold iz wD
 try dsimp only
 show PQ _ _
 refine ay (aQD _ _ _ _ _ _ _ _) λd _ hd=> ?_
 rw[aK]
 refine⟨λ_=>by rw[av];exact⟨h,Int.le_refl _,(λh=>nomatch h)⟩,λc=> ?_⟩
 have c:d=true:=by cases d<;>first|rfl|cases c
 have hx:0<=x.1.1:=hd c
 rw[aK]
 refine⟨λ_=> ?_,λca=> ?_⟩
 ·rw[aK]
  refine⟨λ_=>by rw[av];exact⟨h,Int.le_refl _,(λh=>nomatch h)⟩,λcb=> ?_⟩
  have cb:=of_decide_eq_false cb
  refine ay (aFS _) λe _ he=> ?_
  have he:e.1.1=x.1.1:=he
  rw[aK]
  refine⟨λ_=> ?_,λ_=> ?_⟩
  ·rw[av]
   exact⟨(λh=>nomatch h),by show x.2.1.2.1.1<=e.1.1;omega,(λh=>nomatch h)⟩
  ·rw[av]
   exact⟨(λh=>nomatch h),by show x.2.1.2.1.1<=x.1.1;omega,λ_=>he⟩
 ·have h:=h ca
  refine ay (aFS _) λe _ he=> ?_
  have he:e.1.1=x.1.1:=he
  rw[aK]
  refine⟨λ_=> ?_,λ_=> ?_⟩
  ·rw[av]
   exact⟨(λh=>nomatch h),by show x.2.1.2.1.1<=e.1.1;omega,(λh=>nomatch h)⟩
  ·rw[av]
   exact⟨(λh=>nomatch h),by show x.2.1.2.1.1<=x.1.1;omega,λ_=>he⟩
def Qd (T S:Int)(n:Nat)(r:Nat->Int):Prop:=T<=S∧∀i k,i<=k->k<n->T<=r i∧r i<=r k∧r k<=S
theorem Qd.pop {T S:Int}{n:Nat}{r q:Nat->Int}(h:Qd T S n r)(hn:1<=n)(e:∀i,q i=r (i+1)):T<=r 0∧Qd (r 0) S (n-1) q:=by
 have a:=h.2 0 0 (Nat.le_refl _) (by omega)
 refine⟨a.1,Int.le_trans a.2.1 a.2.2,λi k p l=> ?_⟩
 have b:=h.2 (i+1) (k+1) (by omega) (by omega)
 have c:=h.2 0 (i+1) (by omega) (by omega)
 rw[e,e]
 exact⟨c.2.1,b.2⟩
theorem Qd.push {T S j:Int}{n:Nat}{r q:Nat->Int}(h:Qd T S n r)(l:S<=j)(e:∀i,i<n->q i=r i)(en:q n=j):Qd T j (n+1) q:=by
 refine⟨Int.le_trans h.1 l,λi k p l2=> ?_⟩
 have hT:=h.1
 by_cases hk:k<n
 ·rw[e i (by omega),e k hk]
  have a:=h.2 i k p hk
  exact⟨a.1,a.2.1,Int.le_trans a.2.2 l⟩
 ·have hk:k=n:=by omega
  subst hk
  rw[en]
  by_cases hi:i<k
  ·rw[e i hi]
   have a:=h.2 i i (Nat.le_refl _) hi
   exact⟨a.1,Int.le_trans a.2.2 l,Int.le_refl _⟩
  ·have hi:i=k:=by omega
   subst hi
   rw[en]
   exact⟨Int.le_trans hT l,Int.le_refl _,Int.le_refl _⟩
theorem Qd.up {T S j:Int}{n:Nat}{r q:Nat->Int}(h:Qd T S n r)(l:S<=j)(e:∀i,q i=r i):Qd T j n q:=
 ⟨Int.le_trans h.1 l,λi k p l2=>by rw[e,e];have a:=h.2 i k p l2;exact⟨a.1,a.2.1,Int.le_trans a.2.2 l⟩⟩
end Go.Proofs.YtldgljclcgaibaaGreat
noncomputable section
namespace Go.Proofs.YtldgljclcgaibaaGreat
open Go.Ab Go.Ab.Pg Go.Ab.Rq
def rq:=qa (pr (cu ep Y0) (cd oA λb0=>(c jY (c lr (c (cl (gs b0.c.1 lq) nil) (cd oT λb4=>(cd nh λb5=>(cd ni λb6=>(cd nj λb7=>(cd nk λb8=>(cd nm λb9=>(c kG (cd pX λrI=>(c (cl (gs b0.e jq) nil) (c (cl (gs b4.b.1 aA) nil) (c (cl (gs b5.b.1 aA) nil) (c (cl (gs b6.b.1 aA) nil) (c (cl (gs b7.b.1 aA) nil) (c (cl (gs b8.b.1 aA) nil) (c (cl (gs b9.b.1 aA) nil) (cl (cl (gs rI.b fX) nil) nil)))))))))))))))))))))
def aqY:=qe (res (pr aLU (pr (cl (zM aML) aMy) aMP)))
abbrev wT:=((Int×Int)×(Js×Bool×NI×(NI×NI)×(Nat×Nat)×tM×Bool×Int×nr×Bool×Bool×Bool×Int×Int×Int×HI×Nat)×(nr×Int×Int)×Tk×YV×cz×cz×cz×cz×cz×cz×So×xM×HJ×eD×eD×eD×eD×eD×eD×Nat×NI×NI×NI×NI×NI×NI×NI×NI×NI×NI×NI)
def YP:wT->T:=λd=>lf aqY (d.1,d.2.1,d.b.1,d.b.2.1,d.c.1,d.c.2.1,d.c.b.1,d.c.b.2.1,d.d.1,d.d.2.1,d.d.b.1,d.d.b.2.1,d.d.c.1,d.d.c.2.1,(d.c.2.1.b.1,d.d.c.b.1),(d.c.b.1.b.1,d.d.c.b.2.1),(d.c.b.2.1.b.1,d.e.1),(d.d.1.b.1,d.e.2.1),(d.d.2.1.b.1,d.e.b.1),(d.d.b.1.b.1,d.e.b.2.1),d.e.c)
abbrev rr:=rq.B->Option wT
def Lq (g:rr):Ct:=(27,FC rq YP g)
def fa:=qs (st (pr (cu ep (us 5 (cu Xp (us 2 (cl ai (us 92 nil)))))) (pl (c aMN (c rV (c rW (cu nO (cd HM λb4=>(cd HN λb5=>(cd HO λb6=>(cd HP λb7=>(cd HQ λb8=>(cd adf λb9=>(c pY (c ade (cu nO (cu nO (cu nO (cu nO (cu nO (cu nO (cu nO (cu nO (c C8 (c uY (c uZ (c (so (cl (gs b4.b.1 aA) nil)) (c (so (cl (gs b5.b.1 aA) nil)) (c (so (cl (gs b6.b.1 aA) nil)) (c (so (cl (gs b7.b.1 aA) nil)) (c (so (cl (gs b8.b.1 aA) nil)) (c (so (cl (gs b9.b.1 aA) nil)) Jt))))))))))))))))))))))))))))) aAK)))
def afE:=qs (st (pr (cu ep (us 5 (cu Xp (us 2 (c ai (us 48 (cu ep (cu ep (cu aL2 (c (ac aGy) (c ai (c ab (cu PZ (cu ep (cu ep (cu aL2 (c (ac aGy) (c (ac (LD (pu aES (pl ac5 ID)))) (c (ac (LD (pu aES (pl ac5 B8)))) (c ai (cu (app 20 1) (c ai (cu ep (cu ep (cu aIQ (cu aRW (c ai (c ai (c ab (cl ab aN6)))))))))))))))))))))))))))))) (pl (c aMN (c rV (c rW (cu nO (c HM (c HN (c HO (c HP (c HQ (c adf (c pY (c ade (cu nO (cu nO (cu nO (cu nO (cu nO (cu nO (cu nO (cu nO (c C8 (c uY L8)))))))))))))))))))))) aAK)))
def afF:=qs (st (pr (cu ep (us 5 (cu Xp (us 2 (c ai (us 48 (cu ep (cu ep (cu aL2 (c (ac aGy) (c ai (cl ab (cu tN (xs 16 (cu tN aN6))))))))))))))) (pl (c aMN (c rV (c rW (cu nO (c HM (c HN (c HO (c HP (c HQ (c adf (c pY (c ade (cu nO (cu nO (cu nO (cu nO (cu nO (cu nO (cu nO (cu nO (c C8 (c uY L8)))))))))))))))))))))) aAK)))
abbrev ly:=((Int×(Nat×Nat)×Int×Bool×Nat×Int×Int×Int×Int×Bool)×((Int×Int×Int×(Int×Int×Int×Int×Int×Int)×(Int×Int×Int×Int×Int×Int)×NI×NI×Int×Int×Int×Int×Int×Int×Int×Int)×Bool×NI×(NI×NI)×tM×Bool×Int×nr×Bool×Bool×Bool×Int×Int×Int×HI×Nat)×(nr×Int×Int)×Tk×cz×cz×cz×cz×cz×cz×So×xM×aN5×YV×HJ×eD×eD×eD×eD×eD×eD×Nat×NI×NI×NI×NI×NI×NI×NI×NI×NI×NI×NI)⊕((Int×(Nat×Nat)×Int×Bool)×(Js×Bool×NI×(NI×NI)×tM×Bool×Int×nr×Bool×Bool×Bool×Int×Int×Int×HI×Nat)×(nr×Int×Int)×Tk×cz×cz×cz×cz×cz×cz×So×xM×aAt×YV×HJ×eD×eD×eD×eD×eD×eD×Nat×NI×NI×NI×NI×NI×NI×NI×NI×NI×NI×NI)
def Sh {ρ:Type}(x:ly)(K:AX->St->Option ρ):Option ρ:=(Sum.elim (λd=>K (.ex 0) (afE.em ((d.1.1,d.1.2.1,d.1.b.1,d.1.b.2.1,d.1.2.1,d.1.c.1,d.1.c.1,d.1.c.2.1,d.1.c.b.1,d.1.c.b.2.1,d.1.d.1,d.1.d.2,d.1.d.2),((d.2.1.1.1,d.1.c.b.2.1,d.2.1.1.2),d.2.1.2.1,d.2.1.b.1,d.2.1.b.2.1,d.1.2.1,d.2.1.c),d.b.1,d.b.2.1,d.c.1,d.c.2.1,d.c.b.1,d.c.b.2.1,d.d.1,d.d.2.1,d.d.b.1,d.d.b.2.1,(d.1.c.b.1,d.d.c.1),d.d.c.2.1,d.d.c.b.1,(d.c.1.b.1,d.d.c.b.2.1),(d.c.2.1.b.1,d.e.1),(d.c.b.1.b.1,d.e.2.1),(d.c.b.2.1.b.1,d.e.b.1),(d.d.1.b.1,d.e.b.2.1),(d.d.2.1.b.1,d.e.c.1),d.e.c.2))) (λd=>K (.ex 0) (afF.em (d.1,(d.2.1.1,d.2.1.2.1,d.2.1.b.1,d.2.1.b.2.1,d.1.2.1,d.2.1.c),d.b.1,d.b.2.1,d.c.1,d.c.2.1,d.c.b.1,d.c.b.2.1,d.d.1,d.d.2.1,d.d.b.1,d.d.b.2.1,d.d.c.1,d.d.c.2.1,d.d.c.b.1,(d.c.1.b.1,d.d.c.b.2.1),(d.c.2.1.b.1,d.e.1),(d.c.b.1.b.1,d.e.2.1),(d.c.b.2.1.b.1,d.e.b.1),(d.d.1.b.1,d.e.b.2.1),(d.d.2.1.b.1,d.e.c.1),d.e.c.2)))) x
def yc (aqZ:IB)(d:fa.B):PL fa ly:=let n9:=d.2.2;let n17:=n9.2.2.1;let n8:=d.2.1;let n4:=n8.2.2.2;let bL:=n4.2.2.2.2.2.2.2.2.2.2.2.2.2;let bx:=n4.2.1;let n2:=n9.2.2.2;let n18:=n2.2.2.1;let n6:=n2.2.2.2;let n1:=n6.2.2.2;let n5:=n1.2.2;let bp:=n5.2.2.2.2;let aY:=n5.1.2;let n15:=aY.2.2.2;let n3:=bp.2.2.2.2.2;let n7:=n3.2.2.2.2.2;let y0:=Int.ofNat bx.2;let y1:=aX 0 bx.2;let y2:=bx.1+0;let y3:=bx.2-1;let y4:=bx.1+1;let y5:=decide (y0>0);let y6:=wI (n1.2.1.1-n8.1.2.1);let y7:=decide (aY.1 y2<=y6);ae y5 (ae y1 (ae y7 (ae y1 (ae (IF 1 bx.2) (ae (Nat.beq y3 y3) (ae (Nat.beq bL bL) (ae (Nat.beq n17.2.2.1 n17.2.2.1) (ae (Nat.beq n2.1.2.2.1 n2.1.2.2.1) (ae (Nat.beq n2.2.1.2.2.1 n2.2.1.2.2.1) (ae (Nat.beq n18.2.2.1 n18.2.2.1) (ae (Nat.beq n6.1.2.2.1 n6.1.2.2.1) (ae (Nat.beq n6.2.1.2.2.1 n6.2.1.2.2.1) (ae (Nat.beq n1.1.2.2 n1.1.2.2) (opt (aqZ ((aY.1 y2,aY.2.1 y2,(aY.2.2.1 y2,n15.1 y2,n15.2.1 y2),n15.2.2.1 y2,n15.2.2.2.1 y2,n15.2.2.2.2 y2),(n8.1,n8.2.1,n8.2.2.1,n4.1,y3,n4.2.2),n9.1,n9.2.1,(sh8 y4 aY),n17,n2.1,n2.2.1,n18,n6.1,n6.2.1,n6.2.2.1,n1.1,(aAs 0 n5.2.1.2),(C4 0 n5.2.2.1),(C4 0 n5.2.2.2.1),(C4 0 bp.1),(C4 0 bp.2.1),(C4 0 bp.2.2.1),(C4 0 bp.2.2.2.1),λj=>n3.1 (0+j),λj=>n3.2.1 (0+j),λj=>n3.2.2.1 (0+j),λj=>n3.2.2.2.1 (0+j),λj=>n3.2.2.2.2.1 (0+j),λj=>n7.1 (0+j),λj=>n7.2.1 (0+j),λj=>n7.2.2.1 (0+j),λj=>n7.2.2.2.1 (0+j),λj=>n7.2.2.2.2.1 (0+j),λj=>n7.2.2.2.2.2 (0+j))) λaj=>let n16:=aj.1.1.2;let bh:=aj.1.2.2.2;ret (Sum.inl (wI (d.1+1),(aj.1.1.1,n16.1,n16.2.1,n16.2.2.1,(y4+0,n16.2.2.2.1),n16.2.2.2.2),n9.1,n9.2.1,aj.1.2.1,aj.1.2.2.1,bh.1,bh.2.1,bh.2.2.1,bh.2.2.2.1,bh.2.2.2.2.1,bh.2.2.2.2.2,n1.2.1,n5.1,aj.2))) no) no) no) no) no) no) no) no) no) no) no) (ret (Sum.inr (Sum.inl ((d.1,bx,y0,y5,y2,aY.1 y2,n1.2.1.1,n8.1.2.1,y6,y7),((n8.1.1,n8.1.2.2),n8.2.1,n8.2.2.1,n4.1,n4.2.2),n9.1,n9.2.1,n17,n2.1,n2.2.1,n18,n6.1,n6.2.1,n6.2.2.1,n1.1,n1.2.1.2,n5))))) no) (ret (Sum.inr (Sum.inr ((d.1,bx,y0,y5),(n8.1,n8.2.1,n8.2.2.1,n4.1,n4.2.2),n9))))
def Ga:=bD (yc uL) 2000
def iB:=qs (st (pu (cu ep (us 5 (cu Xp (us 95 nil)))) (pl (cd (so (a 26 u3 (c gb (c jo (a 2 w8 (cu afS (cu afT (c (gc (il (pu aES (pu (ox (pu dE (pu dE ID))) (pl jQ (pu ID iy)))))) aMI)))))))) λb0=>(c rV (c rW (cu nO (cd HM λb4=>(cd HN λb5=>(cd HO λb6=>(cd HP λb7=>(cd HQ λb8=>(cd adf λb9=>(c pY (c ade (cu nO (cu nO (cu nO (cu nO (cu nO (cu nO (cu nO (cu nO (c C8 (c (so (cl (gs b0.c.1 lq) nil)) (c (so (cl (gs b0.e jq) nil)) (c (so (cl (gs b4.b.1 aA) nil)) (c (so (cl (gs b5.b.1 aA) nil)) (c (so (cl (gs b6.b.1 aA) nil)) (c (so (cl (gs b7.b.1 aA) nil)) (c (so (cl (gs b8.b.1 aA) nil)) (c (so (cl (gs b9.b.1 aA) nil)) Jt))))))))))))))))))))))))))))) aAK)))
def am0:=qs (st (pr (us 4 (cl ai (cu YY (us 96 nil)))) (pl aAN (cu B8 aAK))))
abbrev lz:=(Int×(Js×Bool×NI×(NI×NI)×(Nat×Nat)×tM×Bool×Int×nr×Bool×Bool×Bool×Int×Int×Int×HI×Nat)×(nr×Int×Int)×Tk×YV×cz×cz×cz×cz×cz×cz×So×xM×HJ×eD×eD×eD×eD×eD×eD×Nat×NI×NI×NI×NI×NI×NI×NI×NI×NI×NI×NI)
def Si {ρ:Type}(x:lz)(K:AX->St->Option ρ):Option ρ:=(λd=>K .ret (am0.em (d.1,d.2.1,d.b.1,d.b.2.1,d.c.1,d.c.2.1,d.c.b.1,d.c.b.2.1,d.d.1,d.d.2.1,d.d.b.1,d.d.b.2.1,d.d.c.1,d.d.c.2.1,(d.c.2.1.b.1,d.d.c.b.1),(d.c.b.1.b.1,d.d.c.b.2.1),(d.c.b.2.1.b.1,d.e.1),(d.d.1.b.1,d.e.2.1),(d.d.2.1.b.1,d.e.b.1),(d.d.b.1.b.1,d.e.b.2.1),d.e.c))) x
def yd (dG:LT fa ly)(d:iB.B):Pg lz:=let n7:=d.2.2.2;let n3:=d.1.2.2.2.2;let n2:=n7.2.2;let n8:=n2.2.2;let n1:=n8.2.2.2.2;let n9:=n1.1.2.2.2;let n6:=n1.2.1.2.2;let y0:=n3.1+1;ae (Nat.ble (y0*64) 140737488355328) (ae (Nat.beq n7.1.2.2.1 n7.1.2.2.1) (ae (Nat.beq n7.2.1.2.2.1 n7.2.1.2.2.1) (ae (Nat.beq n2.1.2.2.1 n2.1.2.2.1) (ae (Nat.beq n2.2.1.2.2.1 n2.2.1.2.2.1) (ae (Nat.beq n8.1.2.2.1 n8.1.2.2.1) (ae (Nat.beq n8.2.1.2.2.1 n8.2.1.2.2.1) (opt (dG (0,(d.1.1,d.1.2.1,d.1.2.2.1,d.1.2.2.2.1,(0,y0),n3.2),d.2.1,d.2.2.1,n7.1,n7.2.1,n2.1,n2.2.1,n8.1,n8.2.1,n8.2.2.1,n8.2.2.2.1,n1.1,(y0,λj=>bif Nat.beq j n3.1 then n1.1.1 else n1.2.1.1 (0+j),λj=>bif Nat.beq j n3.1 then n1.1.2.1 else n1.2.1.2.1 (0+j),λj=>bif Nat.beq j n3.1 then n1.1.2.2.1 else n6.1 (0+j),λj=>bif Nat.beq j n3.1 then n9.1 else n6.2.1 (0+j),λj=>bif Nat.beq j n3.1 then n9.2.1 else n6.2.2.1 (0+j),λj=>bif Nat.beq j n3.1 then n9.2.2.1 else n6.2.2.2.1 (0+j),λj=>bif Nat.beq j n3.1 then n9.2.2.2.1 else n6.2.2.2.2.1 (0+j),λj=>bif Nat.beq j n3.1 then n9.2.2.2.2 else n6.2.2.2.2.2 (0+j)),(n3.2.2.2.2.2.2.2.2.2.2.2.2,n1.2.2.1),n1.2.2.2)) λx=>sum x (λd=>let bx:=d.2.2.2;let bp:=d.2.1;let n4:=bx.2.2.2;let aY:=n4.2.2.2;ret (d.1.1,((bp.1.1,d.1.2.2.2.2.2.2.2.1,bp.1.2),bp.2.1,bp.2.2.1,bp.2.2.2.1,d.1.2.1,bp.2.2.2.2),d.2.2.1,bx.1,aY.2.2.2.2.1,bx.2.1,bx.2.2.1,n4.1,n4.2.1,n4.2.2.1,aY.1,aY.2.1,aY.2.2.1,aY.2.2.2.2.2)) λd=>let n15:=d.2.1.2;let bL:=d.2.2.2;let n5:=bL.2.2.2;let bh:=n5.2.2.2;ret (d.1.1,(d.2.1.1,n15.1,n15.2.1,n15.2.2.1,d.1.2.1,n15.2.2.2),d.2.2.1,bL.1,bh.2.2.2.2.1,bL.2.1,bL.2.2.1,n5.1,n5.2.1,n5.2.2.1,bh.1,bh.2.1,bh.2.2.1,bh.2.2.2.2.2)) no) no) no) no) no) no) no
def yf (d:iB.B):Option lz:=(yd Ga d).val
def Sj:Hd:=⟨6,(rg 1 5 (rg 7 95 [])),[(5,[]),(14,[]),(15,[]),(16,[]),(17,[]),(18,[]),(19,[]),(20,[]),(21,[]),(0,[])]⟩
def CX (alR:DK)(xJ:lY)(qd:LT iB lz)(x:rq.B):Pg wT:=let bL:=x.2.1;let aY:=x.2.2;let n15:=aY.2.2.1;let n5:=bL.2.2;let bh:=n5.2.2;let n9:=bh.2.2.2.2.2.2.2.2.2.2.2.2;let n4:=aY.2.2.2;let n16:=n4.2.1;let n8:=n4.2.2;let n17:=n8.2.1;let n2:=n8.2.2;let n19:=n2.2.2.1;let n18:=n2.2.1;let n6:=n2.2.2.2;let n20:=n6.2.2.1;let bx:=n6.1.2.2;let n3:=n6.2.2.2;let n22:=n3.2.1;let n21:=n3.2.2.1;let n7:=n3.2.2.2;let n25:=n7.2.2;let n24:=n7.2.1;let n1:=(n9,n6.2.1);let y0:=Nat.beq bh.1 bh.1;let y1:=Nat.beq n9 n9;let y2:=Nat.beq n4.1.2.2.1 n4.1.2.2.1;let y3:=Nat.beq n16.2.2.1 n16.2.2.1;let y4:=Nat.beq n8.1.2.2.1 n8.1.2.2.1;let y5:=Nat.beq n17.2.2.1 n17.2.2.1;let y6:=Nat.beq n2.1.2.2.1 n2.1.2.2.1;let y7:=Nat.beq n18.2.2.1 n18.2.2.1;opt (alR (x.1,aY.2.1,bL.2.1)) λd=>let n23:=d.2.1;let bp:=d.1.1;ae (d.1.2.2!=0) (ret ((0,d.1.2.2),(bL.1,d.2.2,n5.1,n5.2.1,(0,bh.1),bh.2),aY.1,n23,(bh.1,n15),n4.1,n16,n8.1,n17,n2.1,n18,n19,n6.1,n1,n20,n3.1,n22,n21,n7.1,n24,bx,n25)) (ae (!d.1.2.1) (ret ((0,d.1.2.2),(bL.1,d.2.2,n5.1,n5.2.1,(0,bh.1),bh.2),aY.1,n23,(bh.1,n15),n4.1,n16,n8.1,n17,n2.1,n18,n19,n6.1,n1,n20,n3.1,n22,n21,n7.1,n24,bx,n25)) (ae bh.2.2.1 (ae (Nat.beq bx bx) (opt (xJ ((n5.1,bp.1,bp.2.1,(bp.2.2.1,bp.2.2.2.1,bp.2.2.2.2.1),bp.2.2.2.2.2),n6.1,d.2.2,n25)) λaj=>sm aj (λaI=>ae y0 (ae y1 (ae y2 (ae y3 (ae y4 (ae y5 (ae y6 (ae y7 (opt (qd ((bL.1,aI.2.2,n5),aY.1,n23,n4.1,n16,n8.1,n17,n2.1,n18,n19,aI.2.1,bp,n15,n6.2.1,n20,n3.1,n22,n21,n7.1,n24,bx,n25)) λd=>ret ((d.1,0),d.2)) no) no) no) no) no) no) no) no) (λaI=>ae y0 (ae y1 (ae y2 (ae y3 (ae y4 (ae y5 (ae y6 (ae y7 (opt (qd ((bL.1,aI.1.2,n5),aY.1,n23,n4.1,n16,n8.1,n17,n2.1,n18,n19,aI.1.1,bp,n15,n6.2.1,n20,n3.1,n22,n21,n7.1,n24,aI.2)) λd=>ret ((d.1,0),d.2)) no) no) no) no) no) no) no) no)) no) (ae y0 (ae y1 (ae y2 (ae y3 (ae y4 (ae y5 (ae y6 (ae y7 (opt (qd ((bL.1,d.2.2,n5),aY.1,n23,n4.1,n16,n8.1,n17,n2.1,n18,n19,n6.1,bp,n15,n6.2.1,n20,n3.1,n22,n21,n7.1,n24,bx,n25)) λd=>ret ((d.1,0),d.2)) no) no) no) no) no) no) no) no)))
def lG:=λx=>(CX iz eZ yf x).val
abbrev wV:=DK×lY×IB×(LT fa ly)×(LT iB lz)
def CY (p:wV):KK:=⟨[O8 p.1,xD p.2.1,WA p.b.1],⟨[⟨8,(rg 1 5 (7::8::rg 10 92 [])),[(5,[]),(14,[]),(15,[]),(16,[]),(17,[]),(18,[]),(19,[]),(20,[]),(21,[]),(0,[])]⟩],[fx 8 20 fa Sh p.b.2.1],(0::rg 4 6 [19,18,17,16,15,14,13,12,3,11,2,10]),[⟨Sj,fx 6 20 iB Si p.c⟩],(some ⟨0,(rg 0 4 (rg 6 96 [])),[(3,[]),(4,[]),(5,[]),(6,[]),(7,[]),(8,[]),(9,[]),(10,[]),(11,[]),(12,[]),(13,[]),(14,[]),(15,[]),(16,[]),(17,[]),(18,[]),(19,[]),(20,[]),(21,[]),(0,[])]⟩)⟩,20,27⟩
theorem alS (p:wV):LI (CY p) 8 fa Sh (yc p.b.1):=λ_ d c K=>by kernel_rfl
theorem alT (p:wV):JI (CY p) 6 iB Si (yd p.b.2.1):=λ_ d K=>by kernel_rfl
theorem at4 (p:wV):D2 (CY p) rq YP λb=>CX p.1 p.2.1 p.c b:=λb=>by kernel_rfl
abbrev CZ:wV:=(iz,eZ,uL,Ga,yf)
theorem YQ [ax]:SC (Lq lG):=sc (kS (k:=CY CZ) (.c ak5 (.c GU (.c aqX (.nil _)))) [8] [6] ⟨kL (alS CZ),trivial⟩ ⟨kJ Sj (alT CZ),trivial⟩ (at4 CZ))
end Go.Proofs.YtldgljclcgaibaaGreat
namespace Go.Proofs.YtldgljclcgaibaaGreat
open Go.Ab Go.Ab.Pg
theorem aQE (N l:Nat)(S:Int)(h1:1<=N)(hN:N<=1999)(hl:l<=1999)(w d:fa.B)(W4:w.2.2.2.2.1.2.2.1<=64)(W5:w.2.2.2.2.2.1.2.2.1<=64)(W6:w.2.2.2.2.2.2.1.2.2.1<=64)(W7:w.2.2.2.2.2.2.2.1.2.2.1<=64)(W8:w.2.2.2.2.2.2.2.2.1.2.2.1<=64)(W9:w.2.2.2.2.2.2.2.2.2.1.2.2.1<=64)(WS:w.2.2.2.2.2.2.2.2.2.2.2.1.1<=(N:Int))(hd:d.2.1.2.2.2.2.1.2<=l∧d.2.2.2.1=w.2.2.2.1∧d.2.2.2.2.2.2.2.2.2.2.2.2.2.1=w.2.2.2.2.2.2.2.2.2.2.2.2.2.1∧w.2.1.2.2.2.2.2.2.2.2.2.2.2.2.2.1<=d.2.1.2.2.2.2.2.2.2.2.2.2.2.2.2.1∧Qd d.2.1.2.2.2.2.2.2.2.2.2.2.2.2.2.1 S d.2.1.2.2.2.2.1.2 (λi=>w.2.2.2.2.2.2.2.2.2.2.2.2.2.1.2.1 (d.2.1.2.2.2.2.1.1+i))∧BR d.2.1.2.2.2.2.2.2.2.2.2.2.2.2.2.1 w.2.2.2.2.1 d.2.2.2.2.1∧BR d.2.1.2.2.2.2.2.2.2.2.2.2.2.2.2.1 w.2.2.2.2.2.1 d.2.2.2.2.2.1∧BR d.2.1.2.2.2.2.2.2.2.2.2.2.2.2.2.1 w.2.2.2.2.2.2.1 d.2.2.2.2.2.2.1∧BR d.2.1.2.2.2.2.2.2.2.2.2.2.2.2.2.1 w.2.2.2.2.2.2.2.1 d.2.2.2.2.2.2.2.1∧BR d.2.1.2.2.2.2.2.2.2.2.2.2.2.2.2.1 w.2.2.2.2.2.2.2.2.1 d.2.2.2.2.2.2.2.2.1∧BR d.2.1.2.2.2.2.2.2.2.2.2.2.2.2.2.1 w.2.2.2.2.2.2.2.2.2.1 d.2.2.2.2.2.2.2.2.2.1∧d.2.2.2.2.2.2.2.2.2.2.2.1.1=w.2.2.2.2.2.2.2.2.2.2.2.1.1∧d.2.2.2.2.2.2.2.2.2.2.2.1.2.2<=N):Ok (Ga d) (λx:ly=>match x with|.inl x=>x.1.2.1.2<=l∧x.2.2.2.1=w.2.2.2.1∧x.2.2.2.2.2.2.2.2.2.2.2.2.2.1=w.2.2.2.2.2.2.2.2.2.2.2.2.2.1∧w.2.1.2.2.2.2.2.2.2.2.2.2.2.2.2.1<=x.2.1.2.2.2.2.2.2.2.2.2.2.2.2.1∧Qd x.2.1.2.2.2.2.2.2.2.2.2.2.2.2.1 S x.1.2.1.2 (λi=>w.2.2.2.2.2.2.2.2.2.2.2.2.2.1.2.1 (x.1.2.1.1+i))∧BR x.2.1.2.2.2.2.2.2.2.2.2.2.2.2.1 w.2.2.2.2.1 x.2.2.2.2.1∧BR x.2.1.2.2.2.2.2.2.2.2.2.2.2.2.1 w.2.2.2.2.2.1 x.2.2.2.2.2.1∧BR x.2.1.2.2.2.2.2.2.2.2.2.2.2.2.1 w.2.2.2.2.2.2.1 x.2.2.2.2.2.2.1∧BR x.2.1.2.2.2.2.2.2.2.2.2.2.2.2.1 w.2.2.2.2.2.2.2.1 x.2.2.2.2.2.2.2.1∧BR x.2.1.2.2.2.2.2.2.2.2.2.2.2.2.1 w.2.2.2.2.2.2.2.2.1 x.2.2.2.2.2.2.2.2.1∧BR x.2.1.2.2.2.2.2.2.2.2.2.2.2.2.1 w.2.2.2.2.2.2.2.2.2.1 x.2.2.2.2.2.2.2.2.2.1∧x.2.2.2.2.2.2.2.2.2.2.2.1.1=w.2.2.2.2.2.2.2.2.2.2.2.1.1∧x.2.2.2.2.2.2.2.2.2.2.2.1.2.2<=N|.inr x=>x.1.2.1.2<=l∧x.2.2.2.1=w.2.2.2.1∧x.2.2.2.2.2.2.2.2.2.2.2.2.2.1=w.2.2.2.2.2.2.2.2.2.2.2.2.2.1∧w.2.1.2.2.2.2.2.2.2.2.2.2.2.2.2.1<=x.2.1.2.2.2.2.2.2.2.2.2.2.2.2.1∧Qd x.2.1.2.2.2.2.2.2.2.2.2.2.2.2.1 S x.1.2.1.2 (λi=>w.2.2.2.2.2.2.2.2.2.2.2.2.2.1.2.1 (x.1.2.1.1+i))∧BR x.2.1.2.2.2.2.2.2.2.2.2.2.2.2.1 w.2.2.2.2.1 x.2.2.2.2.1∧BR x.2.1.2.2.2.2.2.2.2.2.2.2.2.2.1 w.2.2.2.2.2.1 x.2.2.2.2.2.1∧BR x.2.1.2.2.2.2.2.2.2.2.2.2.2.2.1 w.2.2.2.2.2.2.1 x.2.2.2.2.2.2.1∧BR x.2.1.2.2.2.2.2.2.2.2.2.2.2.2.1 w.2.2.2.2.2.2.2.1 x.2.2.2.2.2.2.2.1∧BR x.2.1.2.2.2.2.2.2.2.2.2.2.2.2.1 w.2.2.2.2.2.2.2.2.1 x.2.2.2.2.2.2.2.2.1∧BR x.2.1.2.2.2.2.2.2.2.2.2.2.2.2.1 w.2.2.2.2.2.2.2.2.2.1 x.2.2.2.2.2.2.2.2.2.1∧x.2.2.2.2.2.2.2.2.2.2.2.1.1=w.2.2.2.2.2.2.2.2.2.2.2.1.1∧x.2.2.2.2.2.2.2.2.2.2.2.1.2.2<=N):=
 ba (s:=_) (λd:fa.B=>d.2.1.2.2.2.2.1.2<=l∧d.2.2.2.1=w.2.2.2.1∧d.2.2.2.2.2.2.2.2.2.2.2.2.2.1=w.2.2.2.2.2.2.2.2.2.2.2.2.2.1∧w.2.1.2.2.2.2.2.2.2.2.2.2.2.2.2.1<=d.2.1.2.2.2.2.2.2.2.2.2.2.2.2.2.1∧Qd d.2.1.2.2.2.2.2.2.2.2.2.2.2.2.2.1 S d.2.1.2.2.2.2.1.2 (λi=>w.2.2.2.2.2.2.2.2.2.2.2.2.2.1.2.1 (d.2.1.2.2.2.2.1.1+i))∧BR d.2.1.2.2.2.2.2.2.2.2.2.2.2.2.2.1 w.2.2.2.2.1 d.2.2.2.2.1∧BR d.2.1.2.2.2.2.2.2.2.2.2.2.2.2.2.1 w.2.2.2.2.2.1 d.2.2.2.2.2.1∧BR d.2.1.2.2.2.2.2.2.2.2.2.2.2.2.2.1 w.2.2.2.2.2.2.1 d.2.2.2.2.2.2.1∧BR d.2.1.2.2.2.2.2.2.2.2.2.2.2.2.2.1 w.2.2.2.2.2.2.2.1 d.2.2.2.2.2.2.2.1∧BR d.2.1.2.2.2.2.2.2.2.2.2.2.2.2.2.1 w.2.2.2.2.2.2.2.2.1 d.2.2.2.2.2.2.2.2.1∧BR d.2.1.2.2.2.2.2.2.2.2.2.2.2.2.2.1 w.2.2.2.2.2.2.2.2.2.1 d.2.2.2.2.2.2.2.2.2.1∧d.2.2.2.2.2.2.2.2.2.2.2.1.1=w.2.2.2.2.2.2.2.2.2.2.2.1.1∧d.2.2.2.2.2.2.2.2.2.2.2.1.2.2<=N) (λd:fa.B=>d.2.1.2.2.2.2.1.2) (λx:ly=>match x with|.inl x=>x.1.2.1.2<=l∧x.2.2.2.1=w.2.2.2.1∧x.2.2.2.2.2.2.2.2.2.2.2.2.2.1=w.2.2.2.2.2.2.2.2.2.2.2.2.2.1∧w.2.1.2.2.2.2.2.2.2.2.2.2.2.2.2.1<=x.2.1.2.2.2.2.2.2.2.2.2.2.2.2.1∧Qd x.2.1.2.2.2.2.2.2.2.2.2.2.2.2.1 S x.1.2.1.2 (λi=>w.2.2.2.2.2.2.2.2.2.2.2.2.2.1.2.1 (x.1.2.1.1+i))∧BR x.2.1.2.2.2.2.2.2.2.2.2.2.2.2.1 w.2.2.2.2.1 x.2.2.2.2.1∧BR x.2.1.2.2.2.2.2.2.2.2.2.2.2.2.1 w.2.2.2.2.2.1 x.2.2.2.2.2.1∧BR x.2.1.2.2.2.2.2.2.2.2.2.2.2.2.1 w.2.2.2.2.2.2.1 x.2.2.2.2.2.2.1∧BR x.2.1.2.2.2.2.2.2.2.2.2.2.2.2.1 w.2.2.2.2.2.2.2.1 x.2.2.2.2.2.2.2.1∧BR x.2.1.2.2.2.2.2.2.2.2.2.2.2.2.1 w.2.2.2.2.2.2.2.2.1 x.2.2.2.2.2.2.2.2.1∧BR x.2.1.2.2.2.2.2.2.2.2.2.2.2.2.1 w.2.2.2.2.2.2.2.2.2.1 x.2.2.2.2.2.2.2.2.2.1∧x.2.2.2.2.2.2.2.2.2.2.2.1.1=w.2.2.2.2.2.2.2.2.2.2.2.1.1∧x.2.2.2.2.2.2.2.2.2.2.2.1.2.2<=N|.inr x=>x.1.2.1.2<=l∧x.2.2.2.1=w.2.2.2.1∧x.2.2.2.2.2.2.2.2.2.2.2.2.2.1=w.2.2.2.2.2.2.2.2.2.2.2.2.2.1∧w.2.1.2.2.2.2.2.2.2.2.2.2.2.2.2.1<=x.2.1.2.2.2.2.2.2.2.2.2.2.2.2.1∧Qd x.2.1.2.2.2.2.2.2.2.2.2.2.2.2.1 S x.1.2.1.2 (λi=>w.2.2.2.2.2.2.2.2.2.2.2.2.2.1.2.1 (x.1.2.1.1+i))∧BR x.2.1.2.2.2.2.2.2.2.2.2.2.2.2.1 w.2.2.2.2.1 x.2.2.2.2.1∧BR x.2.1.2.2.2.2.2.2.2.2.2.2.2.2.1 w.2.2.2.2.2.1 x.2.2.2.2.2.1∧BR x.2.1.2.2.2.2.2.2.2.2.2.2.2.2.1 w.2.2.2.2.2.2.1 x.2.2.2.2.2.2.1∧BR x.2.1.2.2.2.2.2.2.2.2.2.2.2.2.1 w.2.2.2.2.2.2.2.1 x.2.2.2.2.2.2.2.1∧BR x.2.1.2.2.2.2.2.2.2.2.2.2.2.2.1 w.2.2.2.2.2.2.2.2.1 x.2.2.2.2.2.2.2.2.1∧BR x.2.1.2.2.2.2.2.2.2.2.2.2.2.2.1 w.2.2.2.2.2.2.2.2.2.1 x.2.2.2.2.2.2.2.2.2.1∧x.2.2.2.2.2.2.2.2.2.2.2.1.1=w.2.2.2.2.2.2.2.2.2.2.2.1.1∧x.2.2.2.2.2.2.2.2.2.2.2.1.2.2<=N) (λd hd=>by
  obtain⟨i0,ic,ir,it,iq,s4,s5,s6,s7,s8,s9,i11,bh⟩:=hd
  unfold yc
  dsimp only
  rw[aK]
  refine⟨λh=> ?_,λ_=>by rw[av];exact⟨i0,ic,ir,it,iq,s4,s5,s6,s7,s8,s9,i11,bh⟩⟩
  have h:=of_decide_eq_true h
  rw[Int.ofNat_eq_natCast] at h
  have h:1<=d.2.1.2.2.2.2.1.2:=by omega
  have r0:aX 0 d.2.1.2.2.2.2.1.2=true:=by rw[bk];omega
  have r1:IF 1 d.2.1.2.2.2.2.1.2=true:=by rw[abK];omega
  rw[r0,r1,aB,aK]
  simp only[aM]
  refine⟨λ_=> ?_,λ_=>by rw[av];exact⟨i0,ic,ir,it,iq,s4,s5,s6,s7,s8,s9,i11,bh⟩⟩
  simp only[aB]
  with_reducible refine ay (aUq N h1 hN _ ?_ ?_ ?_ ?_ ?_ ?_ ?_ ?_ ?_) λe _ he=> ?_
  ·show d.2.2.2.2.2.2.2.2.2.2.2.1.1<=(N:Int)
   rw[i11];exact WS
  ·exact bh
  ·show d.2.1.2.2.2.2.1.2-1<=1999
   omega
  ·exact Nat.le_trans s4.len W4
  ·exact Nat.le_trans s5.len W5
  ·exact Nat.le_trans s6.len W6
  ·exact Nat.le_trans s7.len W7
  ·exact Nat.le_trans s8.len W8
  ·exact Nat.le_trans s9.len W9
  obtain⟨a4,a5,a6,a7,a8,a9,a11,rI,e4,et⟩:=he
  have e4:e.1.1.2.2.2.2.1=d.2.1.2.2.2.2.1.2-1:=e4
  have et:e.1.1.2.2.2.2.2.2.2.2.2.2.2.2.2.1=d.2.2.2.2.2.2.2.2.2.2.2.2.2.1.2.1 (d.2.1.2.2.2.2.1.1+0):=et
  have iq':=iq.pop (q:=λi=>w.2.2.2.2.2.2.2.2.2.2.2.2.2.1.2.1 (d.2.1.2.2.2.2.1.1+1+i)) h (λi=>by show w.2.2.2.2.2.2.2.2.2.2.2.2.2.1.2.1 (d.2.1.2.2.2.2.1.1+1+i)=w.2.2.2.2.2.2.2.2.2.2.2.2.2.1.2.1 (d.2.1.2.2.2.2.1.1+(i+1));rw[show d.2.1.2.2.2.2.1.1+1+i=d.2.1.2.2.2.2.1.1+(i+1) by omega])
  have et':e.1.1.2.2.2.2.2.2.2.2.2.2.2.2.2.1=w.2.2.2.2.2.2.2.2.2.2.2.2.2.1.2.1 (d.2.1.2.2.2.2.1.1+0):=by rw[et,ir]
  have ll:d.2.1.2.2.2.2.2.2.2.2.2.2.2.2.2.1<=e.1.1.2.2.2.2.2.2.2.2.2.2.2.2.2.1:=by rw[et'];exact iq'.1
  have le:=Int.le_of_eq et.symm
  rw[av]
  exact⟨⟨by show e.1.1.2.2.2.2.1<=l;omega,ic,ir,Int.le_trans it ll,(by show Qd e.1.1.2.2.2.2.2.2.2.2.2.2.2.2.2.1 S e.1.1.2.2.2.2.1 _;rw[et',e4];exact iq'.2),(s4.mono ll).trans (a4.mono le),(s5.mono ll).trans (a5.mono le),(s6.mono ll).trans (a6.mono le),(s7.mono ll).trans (a7.mono le),(s8.mono ll).trans (a8.mono le),(s9.mono ll).trans (a9.mono le),a11.trans i11,rI⟩,by show e.1.1.2.2.2.2.1<d.2.1.2.2.2.2.1.2;omega⟩) 2000 d hd (by omega)
theorem aIk (N:Nat)(h1:1<=N)(hN:N<=1999)(d:iB.B)(hq:d.1.2.2.2.2.1<=1998)(l3:d.2.2.2.1.2.2.1<=64)(l4:d.2.2.2.2.1.2.2.1<=64)(l5:d.2.2.2.2.2.1.2.2.1<=64)(l6:d.2.2.2.2.2.2.1.2.2.1<=64)(l7:d.2.2.2.2.2.2.2.1.2.2.1<=64)(l8:d.2.2.2.2.2.2.2.2.1.2.2.1<=64)(hs:d.2.2.2.2.2.2.2.2.2.2.1.1<=(N:Int))(hl:d.2.2.2.2.2.2.2.2.2.2.1.2.2<=N)(S:Int)(hS:S<=d.2.2.2.2.2.2.2.2.2.2.2.1.1)(hQ:Qd d.1.2.2.2.2.2.2.2.2.2.2.2.2.2.1 S d.1.2.2.2.2.1 d.2.2.2.2.2.2.2.2.2.2.2.2.1.1):Ok (yf d) (λx:lz=>x.2.1.2.2.2.2.1.2<=d.1.2.2.2.2.1+1∧x.2.2.2.1=d.2.2.1∧d.1.2.2.2.2.2.2.2.2.2.2.2.2.2.1<=x.2.1.2.2.2.2.2.2.2.2.2.2.2.2.2.1∧Qd x.2.1.2.2.2.2.2.2.2.2.2.2.2.2.2.1 d.2.2.2.2.2.2.2.2.2.2.2.1.1 x.2.1.2.2.2.2.1.2 (λi=>x.2.2.2.2.1.2.1 (x.2.1.2.2.2.2.1.1+i))∧BR x.2.1.2.2.2.2.2.2.2.2.2.2.2.2.2.1 d.2.2.2.1 x.2.2.2.2.2.1∧BR x.2.1.2.2.2.2.2.2.2.2.2.2.2.2.2.1 d.2.2.2.2.1 x.2.2.2.2.2.2.1∧BR x.2.1.2.2.2.2.2.2.2.2.2.2.2.2.2.1 d.2.2.2.2.2.1 x.2.2.2.2.2.2.2.1∧BR x.2.1.2.2.2.2.2.2.2.2.2.2.2.2.2.1 d.2.2.2.2.2.2.1 x.2.2.2.2.2.2.2.2.1∧BR x.2.1.2.2.2.2.2.2.2.2.2.2.2.2.2.1 d.2.2.2.2.2.2.2.1 x.2.2.2.2.2.2.2.2.2.1∧BR x.2.1.2.2.2.2.2.2.2.2.2.2.2.2.2.1 d.2.2.2.2.2.2.2.2.1 x.2.2.2.2.2.2.2.2.2.2.1∧x.2.2.2.2.2.2.2.2.2.2.2.2.1.1=d.2.2.2.2.2.2.2.2.2.2.1.1∧x.2.2.2.2.2.2.2.2.2.2.2.2.1.2.2<=N):=by
 unfold yf yd
 try dsimp only
 show PQ _ _
 simp only[aM]
 have b:Nat.ble ((d.1.2.2.2.2.1+1)*64) 140737488355328=true:=by rw[bO];omega
 rw[b]
 simp only[aB]
 have hQ':Qd d.1.2.2.2.2.2.2.2.2.2.2.2.2.2.1 d.2.2.2.2.2.2.2.2.2.2.2.1.1 (d.1.2.2.2.2.1+1) (λi=>bif Nat.beq (0+i) d.1.2.2.2.2.1 then d.2.2.2.2.2.2.2.2.2.2.2.1.1 else d.2.2.2.2.2.2.2.2.2.2.2.2.1.1 (0+(0+i))):=hQ.push hS (λi hi=>by
  have b:Nat.beq (0+i) d.1.2.2.2.2.1=false:=by
   cases hb:Nat.beq (0+i) d.1.2.2.2.2.1
   ·rfl
   ·have:=Nat.eq_of_beq_eq_true hb;omega
  show(bif Nat.beq (0+i) d.1.2.2.2.2.1 then d.2.2.2.2.2.2.2.2.2.2.2.1.1 else d.2.2.2.2.2.2.2.2.2.2.2.2.1.1 (0+(0+i)))=_
  rw[b]
  simp only[cond_false,Nat.zero_add]) (by simp only[Nat.zero_add,aM,cond_true])
 refine ay (aQE N (d.1.2.2.2.2.1+1) d.2.2.2.2.2.2.2.2.2.2.2.1.1 h1 hN (by omega) _ _ l3 l4 l5 l6 l7 l8 hs ⟨Nat.le_refl _,rfl,rfl,Int.le_refl _,hQ',BR.refl _ _,BR.refl _ _,BR.refl _ _,BR.refl _ _,BR.refl _ _,BR.refl _ _,rfl,hl⟩) λy _ hy=> ?_
 rw[r9]
 refine⟨λa ha=> ?_,λa ha=> ?_⟩
 ·rw[ha] at hy;rw[av]
  obtain⟨y0,y3,yr,yt,yq,ys⟩:=hy
  exact⟨y0,y3,yt,(by rw[<-yr] at yq;exact yq),ys⟩
 ·rw[ha] at hy;rw[av]
  obtain⟨y0,y3,yr,yt,yq,ys⟩:=hy
  exact⟨y0,y3,yt,(by rw[<-yr] at yq;exact yq),ys⟩
theorem aO2 (N:Nat)(h1:1<=N)(hN:N<=1999)(x:rq.B)(hq:x.2.1.2.2.2.2.1<=1998)(l5:x.2.2.2.2.2.1.2.2.1<=64)(l6:x.2.2.2.2.2.2.1.2.2.1<=64)(l7:x.2.2.2.2.2.2.2.1.2.2.1<=64)(l8:x.2.2.2.2.2.2.2.2.1.2.2.1<=64)(l9:x.2.2.2.2.2.2.2.2.2.1.2.2.1<=64)(l10:x.2.2.2.2.2.2.2.2.2.2.1.2.2.1<=64)(hs:x.2.2.2.2.2.2.2.2.2.2.2.2.1.1<=(N:Int))(hl:x.2.2.2.2.2.2.2.2.2.2.2.2.1.2.2<=N)(h3:x.2.2.2.1.2.2=false->x.2.2.2.1.2.1.1<=0)(hQ:Qd x.2.1.2.2.2.2.2.2.2.2.2.2.2.2.2.1 x.2.2.2.1.2.1.1 x.2.1.2.2.2.2.1 x.2.2.2.2.1.1):Ok (lG x) (λe:wT=>e.2.1.2.2.2.2.1.2<=x.2.1.2.2.2.2.1+1∧(e.2.2.2.1.2.2=false->e.2.2.2.1.2.1.1<=0)∧x.2.1.2.2.2.2.2.2.2.2.2.2.2.2.2.1<=e.2.1.2.2.2.2.2.2.2.2.2.2.2.2.2.1∧Qd e.2.1.2.2.2.2.2.2.2.2.2.2.2.2.2.1 e.2.2.2.1.2.1.1 e.2.1.2.2.2.2.1.2 (λi=>e.2.2.2.2.1.2.1 (e.2.1.2.2.2.2.1.1+i))∧BR e.2.1.2.2.2.2.2.2.2.2.2.2.2.2.2.1 x.2.2.2.2.2.1 e.2.2.2.2.2.1∧BR e.2.1.2.2.2.2.2.2.2.2.2.2.2.2.2.1 x.2.2.2.2.2.2.1 e.2.2.2.2.2.2.1∧BR e.2.1.2.2.2.2.2.2.2.2.2.2.2.2.2.1 x.2.2.2.2.2.2.2.1 e.2.2.2.2.2.2.2.1∧BR e.2.1.2.2.2.2.2.2.2.2.2.2.2.2.2.1 x.2.2.2.2.2.2.2.2.1 e.2.2.2.2.2.2.2.2.1∧BR e.2.1.2.2.2.2.2.2.2.2.2.2.2.2.2.1 x.2.2.2.2.2.2.2.2.2.1 e.2.2.2.2.2.2.2.2.2.1∧BR e.2.1.2.2.2.2.2.2.2.2.2.2.2.2.2.1 x.2.2.2.2.2.2.2.2.2.2.1 e.2.2.2.2.2.2.2.2.2.2.1∧e.2.2.2.2.2.2.2.2.2.2.2.2.1.1=x.2.2.2.2.2.2.2.2.2.2.2.2.1.1∧e.2.2.2.2.2.2.2.2.2.2.2.2.1.2.2<=N):=by
 unfold lG CX
 try dsimp only
 show PQ _ _
 simp only[aM]
 refine ay (aUr _ h3) λd _ hd=> ?_
 obtain⟨d1,d2,d3⟩:=hd
 have d2:x.2.2.2.1.2.1.1<=d.2.1.2.1.1:=d2
 rw[aK]
 refine⟨λ_=>by rw[av];exact⟨Nat.le_succ _,d1,Int.le_refl _,hQ.up d2 (λi=>by rw[Nat.zero_add]),BR.refl _ _,BR.refl _ _,BR.refl _ _,BR.refl _ _,BR.refl _ _,BR.refl _ _,rfl,hl⟩,λ_=> ?_⟩
 rw[aK]
 refine⟨λ_=>by rw[av];exact⟨Nat.le_succ _,d1,Int.le_refl _,hQ.up d2 (λi=>by rw[Nat.zero_add]),BR.refl _ _,BR.refl _ _,BR.refl _ _,BR.refl _ _,BR.refl _ _,BR.refl _ _,rfl,hl⟩,λc=> ?_⟩
 have c:d.1.2.1=true:=by simpa using c
 have d3:=d3 c
 have d4:x.2.2.2.1.2.1.1<=d.1.1.1:=by omega
 rw[aK]
 refine⟨λ_=> ?_,λ_=> ?_⟩
 ·simp only[aB]
  with_reducible refine ay (aKR N hN _ ?_ ?_) λe _ he=> ?_
  ·exact hl
  ·exact hs
  rw[qh]
  refine⟨λa ha=> ?_,λa ha=> ?_⟩
  ·rw[ha] at he
   have he:a.2.1=x.2.2.2.2.2.2.2.2.2.2.2.2.1:=he
   simp only[aB]
   with_reducible refine ay (aIk N h1 hN _ ?_ ?_ ?_ ?_ ?_ ?_ ?_ ?_ ?_ x.2.2.2.1.2.1.1 d4 hQ) λy _ hy=> ?_
   ·exact hq
   ·exact l5
   ·exact l6
   ·exact l7
   ·exact l8
   ·exact l9
   ·exact l10
   ·show a.2.1.1<=(N:Int)
    rw[he];exact hs
   ·show a.2.1.2.2<=N
    rw[he];exact hl
   rw[av]
   have e0:(a.2.1.1:Int)=x.2.2.2.2.2.2.2.2.2.2.2.2.1.1:=by rw[he]
   obtain⟨q,qs,qt,qq,s5,s6,s7,s8,s9,Xk,p1,p2⟩:=hy
   exact⟨q,(by rw[show y.2.2.2.1=d.2.1 from qs];exact d1),qt,(by rw[show y.2.2.2.1=d.2.1 from qs,<-d3];exact qq),s5,s6,s7,s8,s9,Xk,p1.trans e0,p2⟩
  ·rw[ha] at he
   obtain⟨e1,e2,e3,e4⟩:=he
   have e1:a.1.1.1=x.2.2.2.2.2.2.2.2.2.2.2.2.1.1:=e1
   simp only[aB]
   with_reducible refine ay (aIk N h1 hN _ ?_ ?_ ?_ ?_ ?_ ?_ ?_ ?_ ?_ x.2.2.2.1.2.1.1 d4 hQ) λy _ hy=> ?_
   ·exact hq
   ·exact l5
   ·exact l6
   ·exact l7
   ·exact l8
   ·exact l9
   ·exact l10
   ·show a.1.1.1<=(N:Int)
    rw[e1];exact hs
   ·exact e2
   rw[av]
   obtain⟨q,qs,qt,qq,s5,s6,s7,s8,s9,Xk,p1,p2⟩:=hy
   exact⟨q,(by rw[show y.2.2.2.1=d.2.1 from qs];exact d1),qt,(by rw[show y.2.2.2.1=d.2.1 from qs,<-d3];exact qq),s5,s6,s7,s8,s9,Xk,p1.trans e1,p2⟩
 ·simp only[aB]
  with_reducible refine ay (aIk N h1 hN _ ?_ ?_ ?_ ?_ ?_ ?_ ?_ ?_ ?_ x.2.2.2.1.2.1.1 d4 hQ) λy _ hy=> ?_
  ·exact hq
  ·exact l5
  ·exact l6
  ·exact l7
  ·exact l8
  ·exact l9
  ·exact l10
  ·exact hs
  ·exact hl
  rw[av]
  obtain⟨q,qs,qt,qq,qr⟩:=hy
  exact⟨q,(by rw[show y.2.2.2.1=d.2.1 from qs];exact d1),qt,(by rw[show y.2.2.2.1=d.2.1 from qs,<-d3];exact qq),qr⟩
end Go.Proofs.YtldgljclcgaibaaGreat
noncomputable section
namespace Go.Proofs.YtldgljclcgaibaaGreat
open Go.Ab Go.Ab.Pg Go.Ab.Rq
def ahz:=qa (pr (cu aP C7) bA)
def NF:=qe oS
abbrev ahA:=NF.B
abbrev ahB:=Int->Int->Int->Bool->Option ahA
def ahC (g:ahB):Ct:=(208,FC ahz (lf NF) (λb=>g b.1.1 b.1.2.1 b.1.b b.2))
def ahD (x0:Int)(x1:Int)(x2:Int)(x3:Bool):Pg ahA:=let y0:=decide (x1>x2);ae (decide (x0<x1)) (ae (x1 !=x0) (ret (x1,true)) (ae y0 (ret (x1,true)) (ret (x1,x3)))) (ae y0 (ae (x1 !=x0) (ret (x1,true)) (ae y0 (ret (x1,true)) (ret (x1,x3)))) (ae (decide (x0>x2)) (ae (x2 !=x0) (ret (x2,true)) (ae y0 (ret (x2,true)) (ret (x2,x3)))) (ae (x0 !=x0) (ret (x0,true)) (ae y0 (ret (x0,true)) (ret (x0,x3))))))
def RB:=λx0 x1 x2 x3=>(ahD x0 x1 x2 x3).val
theorem az0:D1 [] [0] 208 ahz (lf NF) λb=>ahD b.1.1 b.1.2.1 b.1.b b.2:=λb=>by kernel_rfl
theorem az1 [ax]:SC (ahC RB):=s0 (.nil _) az0
def aoY:=qa (pr (cu aP fT) bA)
def WB:=qe oS
abbrev aoZ:=WB.B
abbrev aaS:=Int->Bool->Option aoZ
def aaT (g:aaS):Ct:=(150,FC aoY (lf WB) (λb=>g b.1 b.2))
def ao0 (HG:ahB)(x0:Int)(x1:Bool):Pg aoZ:=opt (HG x0 (-1152921504606846976) 1152921504606846976 x1) λd=>ret d
def G0:=λx0 x1=>(ao0 RB x0 x1).val
theorem aEz:∀HG,D0 [ahC HG] 150 aoY (lf WB) λb=>ao0 HG b.1 b.2:=λ_ b=>by kernel_rfl
theorem ao1 [ax]:SC (aaT G0):=s0 (.c az1 (.nil _)) (aEz RB)
def aDb:=qa (pl fT nil)
def alU:=qe aRs
abbrev aDc:=alU.B
abbrev aq0:=Int->Option aDc
def aq1 (g:aq0):Ct:=(152,FC aDb (lf alU) (λb=>g b))
def aDd (x0:Int):Pg aDc:=ae (decide (x0<0)) (ret (wU (wI (0-x0)))) (ret (wU x0))
def WC:=λx0=>(aDd x0).val
theorem aNT:D0 [] 152 aDb (lf alU) λb=>aDd b:=λb=>by kernel_rfl
theorem aDe [ax]:SC (aq1 WC):=s0 (.nil _) aNT
def ao2:=qa (pl (c an aET) nil)
def WD:=qe aL7
abbrev ao3:=WD.B
abbrev ao4:=Int->Int->Option ao3
def ao5 (g:ao4):Ct:=(207,FC ao2 (lf WD) (λb=>g b.1 b.2))
def ao6 (x0:Int)(x1:Int):Pg ao3:=let y0:=Int.fdiv x0 4294967296;let y1:=Int.fdiv x1 4294967296;let y2:=wU (Int.ofNat (BitVec.toNat (BitVec.ofInt 64 x0&&&BitVec.ofInt 64 4294967295)));let y3:=wU (Int.ofNat (BitVec.toNat (BitVec.ofInt 64 x1&&&BitVec.ofInt 64 4294967295)));let y4:=wU (y2*y3);let y5:=wU (wU (y0*y3)+Int.fdiv y4 4294967296);let y6:=wU (wU (y2*y1)+wU (Int.ofNat (BitVec.toNat (BitVec.ofInt 64 y5&&&BitVec.ofInt 64 4294967295))));ret (wU (wU (wU (y0*y1)+Int.fdiv y5 4294967296)+Int.fdiv y6 4294967296),wU (Int.ofNat (BitVec.toNat (BitVec.ofInt 64 (wU (y6*4294967296))|||BitVec.ofInt 64 (wU (Int.ofNat (BitVec.toNat (BitVec.ofInt 64 y4&&&BitVec.ofInt 64 4294967295))))))))
def aaU:=λx0 x1=>(ao6 x0 x1).val
theorem aEA:D0 [] 207 ao2 (lf WD) λb=>ao6 b.1 b.2:=λb=>by kernel_rfl
theorem aEB [ax]:SC (ao5 aaU):=s0 (.nil _) aEA
def aFT:=qa (pl wZ nil)
def aq2:=qe aGt
abbrev aFU:=aq2.B
abbrev awf:=Int->Int->Option aFU
def awg (g:awf):Ct:=(149,FC aFT (lf aq2) (λb=>g b.1 b.2))
def aFV (xK:aq0)(Om:ao4)(x0:Int)(x1:Int):Pg aFU:=opt (xK x0) λd=>opt (xK x1) λaj=>opt (Om d aj) λd=>ret (d.1,d.2,!decide (x0<0)==decide (x1<0))
def acP:=λx0 x1=>(aFV WC aaU x0 x1).val
theorem aQF:∀xK Om,D0 [aq1 xK,ao5 Om] 149 aFT (lf aq2) λb=>aFV xK Om b.1 b.2:=λ_ _ b=>by kernel_rfl
theorem aFW [ax]:SC (awg acP):=s0 (.c aDe (.c aEB (.nil _))) (aQF WC aaU)
def aDf:=qa (pl (c ah5 (cl ah5 nil)) nil)
def alV:=qe B9
abbrev aDg:=alV.B
abbrev aDh:=Int->Int->Bool->Int->Int->Bool->Option aDg
def aDi (g:aDh):Ct:=(246,FC aDf (lf alV) (λb=>g b.1.1 b.1.2.1 b.1.b b.2.1 b.b.1 b.b.2))
def aDj (x0:Int)(x1:Int)(x2:Bool)(x3:Int)(x4:Int)(x5:Bool):Pg aDg:=ae (decide (x0<x3)) (ret true) (ae (x0==x3) (ret (decide (x1<x4))) (ret false))
def aq3:=λx0 x1 x2 x3 x4 x5=>(aDj x0 x1 x2 x3 x4 x5).val
theorem aNU:D0 [] 246 aDf (lf alV) λb=>aDj b.1.1 b.1.2.1 b.1.b b.2.1 b.b.1 b.b.2:=λb=>by kernel_rfl
theorem aNV [ax]:SC (aDi aq3):=s0 (.nil _) aNU
def aFX:=qa (pl (c ah5 (cl ah5 nil)) nil)
def aq4:=qe aGt
abbrev aFY:=aq4.B
abbrev amk:=Int->Int->Bool->Int->Int->Bool->Option aFY
def awh (g:amk):Ct:=(206,FC aFX (lf aq4) (λb=>g b.1.1 b.1.2.1 b.1.b b.2.1 b.b.1 b.b.2))
def aFZ (afH:aDh)(x0:Int)(x1:Int)(x2:Bool)(x3:Int)(x4:Int)(x5:Bool):Pg aFY:=let y0:=wU (x0-x3);let y1:=wU (x3-x0);let y2:=wU (x0+x3);let y3:=wU (x1+x4);ae (x2==x5) (ae (decide (y3<x1)) (ret (wU (y2+1),y3,x2)) (ret (y2,y3,x2))) (opt (afH x0 x1 x2 x3 x4 x5) λd=>ae d (ae (decide (x4<x1)) (ret (wU (y1-1),wU (x4-x1),x5)) (ret (y1,wU (x4-x1),x5))) (ae (decide (x1<x4)) (ret (wU (y0-1),wU (x1-x4),x2)) (ret (y0,wU (x1-x4),x2))))
def acQ:=λx0 x1 x2 x3 x4 x5=>(aFZ aq3 x0 x1 x2 x3 x4 x5).val
theorem aQG:∀afH,D0 [aDi afH] 206 aFX (lf aq4) λb=>aFZ afH b.1.1 b.1.2.1 b.1.b b.2.1 b.b.1 b.b.2:=λ_ b=>by kernel_rfl
theorem aF0 [ax]:SC (awh acQ):=s0 (.c aNV (.nil _)) (aQG aq3)
def ao7:=qa (pl (c ah5 aET) nil)
def WE:=qe aGt
abbrev ao8:=WE.B
abbrev ao9:=Int->Int->Bool->Int->Option ao8
def apa (g:ao9):Ct:=(151,FC ao7 (lf WE) (λb=>g b.1.1 b.1.2.1 b.1.b b.2))
def tL:=qs (st (pr (us 1 (c an (cu Gg (us 1 (cu aIO (cu Xm (c an (cl ai (us 63 nil))))))))) (pl (c (so aAy) (cu (so (cu aAw (cu aAw (cu ac0 nil)))) (cl (so aAy) nil))) nil)))
def az2:=qs (st (pr (us 1 (c an (cu Gg (us 1 (cu aIO (cu Xm (c an (c ai (us 4 (c ai (cl ab (us 57 nil)))))))))))) (pl (c (so aAy) (cu (so (cu aAw (cu aAw (cu ac0 nil)))) (cl (so aAy) nil))) nil)))
abbrev HH:=((Int×Int×Int×Bool)×(Int×Int×Bool)×Int×Int×Bool)
def ahE {ρ:Type}(x:HH)(K:AX->St->Option ρ):Option ρ:=(λd=>K (.ex 0) (az2.em ((d.1.1,d.1.2.1,d.1.b.1,d.1.b),d.2))) x
def ahF (d:tL.B):PL tL HH:=let n4:=d.2.1;let n3:=d.1.2;let n2:=d.2.2;let n1:=d.1.1;let y0:=wI (n3.2-1);let y1:=decide (n3.2>=0);let y2:=decide (n3.2>=64);let y3:=wU (wI (Int.ofNat (BitVec.toNat (BitVec.ofInt 64 n3.2&&&BitVec.ofInt 64 63))));let y4:=2^min (Int.toNat y3) 64;let y5:= !decide (y3<0);let y6:=wU (Int.ofNat (BitVec.toNat (BitVec.ofInt 64 (wU (n3.1*2))|||BitVec.ofInt 64 (wU (Int.ofNat (BitVec.toNat (BitVec.ofInt 64 (Int.fdiv n4.1 y4)&&&BitVec.ofInt 64 1)))))));let y7:=wU (Int.ofNat (BitVec.toNat (BitVec.ofInt 64 (wU (n3.1*2))|||BitVec.ofInt 64 (wU (Int.ofNat (BitVec.toNat (BitVec.ofInt 64 (Int.fdiv n4.2.1 y4)&&&BitVec.ofInt 64 1)))))));ae y1 (ae y5 (ae y2 (ae y5 (ae (decide (y6>=n1)) (ae y2 (ae y5 (ret (Sum.inl ((n1,wU (y6-n1),y0),n4,wU (Int.ofNat (BitVec.toNat (BitVec.ofInt 64 n2.1|||BitVec.ofInt 64 (wU (1*y4))))),n2.2))) no) (ae y5 (ret (Sum.inl ((n1,wU (y6-n1),y0),n4,n2.1,wU (Int.ofNat (BitVec.toNat (BitVec.ofInt 64 n2.2.1|||BitVec.ofInt 64 (wU (1*y4))))),n2.2.2))) no)) (ret (Sum.inl ((n1,y6,y0),d.2)))) no) (ae (decide (y7>=n1)) (ae y2 (ae y5 (ret (Sum.inl ((n1,wU (y7-n1),y0),n4,wU (Int.ofNat (BitVec.toNat (BitVec.ofInt 64 n2.1|||BitVec.ofInt 64 (wU (1*y4))))),n2.2))) no) (ae y5 (ret (Sum.inl ((n1,wU (y7-n1),y0),n4,n2.1,wU (Int.ofNat (BitVec.toNat (BitVec.ofInt 64 n2.2.1|||BitVec.ofInt 64 (wU (1*y4))))),n2.2.2))) no)) (ret (Sum.inl ((n1,y7,y0),d.2))))) no) (ret (Sum.inr ((n1,n3.1,n3.2,y1),d.2)))
def ahG:=bD (ahF) 2000
def apb (NG:amk)(dG:LT tL HH)(x0:Int)(x1:Int)(x2:Bool)(x3:Int):Pg ao8:=opt (dG ((x3,0,127),(x0,x1,x2),0,0,x2)) λd=>ae (decide (d.1.2.1>=wU (d.1.1-d.1.2.1))) (opt (NG d.2.2.1 d.2.2.2.1 d.2.2.2.2 0 1 d.2.2.2.2) λd=>ret d) (ret d.2.2)
def aaV:=λx0 x1 x2 x3=>(apb acQ ahG x0 x1 x2 x3).val
abbrev On:=amk×(LT tL HH)
def aaW (p:On):KK:=⟨[awh p.1],⟨[⟨4,(0::3::rg 8 63 []),[]⟩],[fx 4 0 tL ahE p.2],[],[],(some ⟨0,(rg 0 4 (rg 5 66 [])),[]⟩)⟩,0,151⟩
theorem awi (p:On):LI (aaW p) 4 tL ahE (ahF):=λ_ d c K=>by kernel_rfl
theorem aEC (p:On):D2 (aaW p) ao7 (lf WE) λb=>apb p.1 p.2 b.1.1 b.1.2.1 b.1.b b.2:=λb=>by kernel_rfl
abbrev aaX:On:=(acQ,ahG)
theorem aED [ax]:SC (apa aaV):=sc (kS (k:=aaW aaX) (.c aF0 (.nil _)) [4] [] ⟨kL (awi aaX),trivial⟩ trivial (aEC aaX))
def apc:=qa (pr (cu aP (cl ah5 nil)) bA)
def WG:=qe oS
abbrev apd:=WG.B
abbrev aaY:=Int->Int->Bool->Bool->Option apd
def aaZ (g:aaY):Ct:=(147,FC apc (lf WG) (λb=>g b.1.1 b.1.2.1 b.1.b b.2))
def ape (x0:Int)(x1:Int)(x2:Bool)(x3:Bool):Pg apd:=ae (decide (x0>0)) (ae x2 (ret (-1152921504606846976,true)) (ret (1152921504606846976,true))) (ae (decide (x1>1152921504606846976)) (ae x2 (ret (-1152921504606846976,true)) (ret (1152921504606846976,true))) (ae x2 (ret (wI (0-wI x1),x3)) (ret (wI x1,x3))))
def G3:=λx0 x1 x2 x3=>(ape x0 x1 x2 x3).val
theorem aEE:D1 [] [0] 147 apc (lf WG) λb=>ape b.1.1 b.1.2.1 b.1.b b.2:=λb=>by kernel_rfl
theorem apf [ax]:SC (aaZ G3):=s0 (.nil _) aEE
def acR:=qa (pr (cu aP C7) bA)
def Lu:=qe oS
abbrev acS:=Lu.B
abbrev acT:=Int->Int->Int->Bool->Option acS
def acU (g:acT):Ct:=(100,FC acR (lf Lu) (λb=>g b.1.1 b.1.2.1 b.1.b b.2))
def acV (kE:aaS)(E4:awf)(xK:aq0)(Oo:ao9)(pV:aaY)(x0:Int)(x1:Int)(x2:Int)(x3:Bool):Pg acS:=opt (kE x0 x3) λd=>opt (kE x1 d.2) λaj=>opt (E4 d.1 aj.1) λd=>opt (kE x2 aj.2) λaI=>ae (aI.1==0) (ae (d.1==0) (ae (d.2.1==0) (ret (0,true)) (ae d.2.2 (ret (-1152921504606846976,true)) (ret (1152921504606846976,true)))) (ae d.2.2 (ret (-1152921504606846976,true)) (ret (1152921504606846976,true)))) (opt (xK aI.1) λbz=>opt (Oo d.1 d.2.1 (!d.2.2==decide (aI.1<0)) bz) λd=>opt (pV d.1 d.2.1 d.2.2 aI.2) λd=>ret d)
def NH:=λx0 x1 x2 x3=>(acV G0 acP WC aaV G3 x0 x1 x2 x3).val
theorem awj:∀kE E4 xK Oo pV,D0 [aaT kE,awg E4,aq1 xK,apa Oo,aaZ pV] 100 acR (lf Lu) λb=>acV kE E4 xK Oo pV b.1.1 b.1.2.1 b.1.b b.2:=λ_ _ _ _ _ b=>by kernel_rfl
theorem awk [ax]:SC (acU NH):=s0 (.c ao1 (.c aFW (.c aDe (.c aED (.c apf (.nil _)))))) (awj G0 acP WC aaV G3)
def alW:=qa (pr (cu aP fT) bA)
def RC:=qe oS
abbrev alX:=RC.B
abbrev alY:=Int->Bool->Option alX
def alZ (g:alY):Ct:=(61,FC alW (lf RC) (λb=>g b.1 b.2))
def al0 (E5:acT)(x0:Int)(x1:Bool):Pg alX:=opt (E5 x0 1073741824 1000000 x1) λd=>ret d
def WH:=λx0 x1=>(al0 NH x0 x1).val
theorem aDk:∀E5,D0 [acU E5] 61 alW (lf RC) λb=>al0 E5 b.1 b.2:=λ_ b=>by kernel_rfl
theorem aDl [ax]:SC (alZ WH):=s0 (.c awk (.nil _)) (aDk NH)
def apg:=qa (pl (c ah5 fT) nil)
def WI:=qe aGt
abbrev aph:=WI.B
abbrev api:=Int->Int->Bool->Int->Option aph
def apj (g:api):Ct:=(148,FC apg (lf WI) (λb=>g b.1.1 b.1.2.1 b.1.b b.2))
def apk (NG:amk)(x0:Int)(x1:Int)(x2:Bool)(x3:Int):Pg aph:=let y0:=wI (x3-1);let y1:=wU (wI (x3-64));let y2:=wU (wI (64-x3));let y3:=wU y0;let y4:=wU (wI (x3-65));let y5:=2^min (Int.toNat (wU x3)) 64;let y6:= !decide (wU x3<0);ae (x3==0) (ret (x0,x1,x2)) (ae (decide (y0>=64)) (ae (!decide (y4<0)) (opt (NG x0 x1 x2 (wU (1*2^min (Int.toNat y4) 64)) 0 x2) λd=>ae (decide (x3>=64)) (ae (!decide (y1<0)) (ret (0,Int.fdiv d.1 (2^min (Int.toNat y1) 64),d.2.2)) no) (ae y6 (ae y6 (ae (!decide (y2<0)) (ret (Int.fdiv d.1 y5,wU (Int.ofNat (BitVec.toNat (BitVec.ofInt 64 (Int.fdiv d.2.1 y5)|||BitVec.ofInt 64 (wU (d.1*2^min (Int.toNat y2) 64))))),d.2.2)) no) no) no)) no) (ae (!decide (y3<0)) (opt (NG x0 x1 x2 0 (wU (1*2^min (Int.toNat y3) 64)) x2) λd=>ae (decide (x3>=64)) (ae (!decide (y1<0)) (ret (0,Int.fdiv d.1 (2^min (Int.toNat y1) 64),d.2.2)) no) (ae y6 (ae y6 (ae (!decide (y2<0)) (ret (Int.fdiv d.1 y5,wU (Int.ofNat (BitVec.toNat (BitVec.ofInt 64 (Int.fdiv d.2.1 y5)|||BitVec.ofInt 64 (wU (d.1*2^min (Int.toNat y2) 64))))),d.2.2)) no) no) no)) no))
def aa0:=λx0 x1 x2 x3=>(apk acQ x0 x1 x2 x3).val
theorem aEF:∀NG,D0 [awh NG] 148 apg (lf WI) λb=>apk NG b.1.1 b.1.2.1 b.1.b b.2:=λ_ b=>by kernel_rfl
theorem aEG [ax]:SC (apj aa0):=s0 (.c aF0 (.nil _)) (aEF acQ)
def apl:=qa (pr (cu aP C7) bA)
def WJ:=qe oS
abbrev apm:=WJ.B
abbrev apn:=Int->Int->Int->Bool->Option apm
def apo (g:apn):Ct:=(99,FC apl (lf WJ) (λb=>g b.1.1 b.1.2.1 b.1.b b.2))
def apq (kE:aaS)(E4:awf)(Oq:api)(pV:aaY)(x0:Int)(x1:Int)(x2:Int)(x3:Bool):Pg apm:=opt (kE x0 x3) λd=>opt (kE x1 d.2) λaj=>opt (E4 d.1 aj.1) λd=>opt (Oq d.1 d.2.1 d.2.2 x2) λd=>opt (pV d.1 d.2.1 d.2.2 aj.2) λd=>ret d
def aa1:=λx0 x1 x2 x3=>(apq G0 acP aa0 G3 x0 x1 x2 x3).val
theorem aEH:∀kE E4 Oq pV,D0 [aaT kE,awg E4,apj Oq,aaZ pV] 99 apl (lf WJ) λb=>apq kE E4 Oq pV b.1.1 b.1.2.1 b.1.b b.2:=λ_ _ _ _ b=>by kernel_rfl
theorem aEI [ax]:SC (apo aa1):=s0 (.c ao1 (.c aFW (.c aEG (.c apf (.nil _))))) (aEH G0 acP aa0 G3)
def ayJ:=qa (pr (cu aP wZ) bA)
def afI:=qe oS
abbrev ayK:=afI.B
abbrev ayL:=Int->Int->Bool->Option ayK
def ayM (g:ayL):Ct:=(60,FC ayJ (lf afI) (λb=>g b.1.1 b.1.2 b.2))
def ayN (Ot:apn)(x0:Int)(x1:Int)(x2:Bool):Pg ayK:=opt (Ot x0 x1 30 x2) λd=>ret d
def al1:=λx0 x1 x2=>(ayN aa1 x0 x1 x2).val
theorem aKX:∀Ot,D0 [apo Ot] 60 ayJ (lf afI) λb=>ayN Ot b.1.1 b.1.2 b.2:=λ_ b=>by kernel_rfl
theorem aKY [ax]:SC (ayM al1):=s0 (.c aEI (.nil _)) (aKX aa1)
def at5:=qa (pl wZ nil)
def aa2:=qe (res (pl (aa (c gi (c gi (cu aS (cu aS (cu aS (cu aS (cu aS kF)))))))) (pu nil nil)))
abbrev at6:=aa2.B
abbrev Lv:=Int->Int->Option at6
def afJ (g:Lv):Ct:=(26,FC at5 (lf aa2) (λb=>g b.1 b.2))
def at7 (Lw:alY)(YR:ayL)(x0:Int)(x1:Int):Pg at6:=opt (Lw x1 false) λd=>opt (YR 10529810258 d.1 d.2) λd=>ret (x0,x1,wI (0-d.1))
def Ba:=λx0 x1=>(at7 WH al1 x0 x1).val
theorem aIl:∀Lw YR,D0 [alZ Lw,ayM YR] 26 at5 (lf aa2) λb=>at7 Lw YR b.1 b.2:=λ_ _ b=>by kernel_rfl
theorem at8 [ax]:SC (afJ Ba):=s0 (.c aDl (.c aKY (.nil _))) (aIl WH al1)
def rS:=qa (pu (cu ep nil) (cd oA λb0=>(c jY (c lr (c (cl (gs b0.c.1 lq) nil) (cd oT λb4=>(cd nh λb5=>(cd ni λb6=>(cd nj λb7=>(cd nk λb8=>(cd nm λb9=>(c kG (cd pX λrI=>(c (cl (gs b0.e jq) nil) (c (cl (gs b4.b.1 aA) nil) (c (cl (gs b5.b.1 aA) nil) (c (cl (gs b6.b.1 aA) nil) (c (cl (gs b7.b.1 aA) nil) (c (cl (gs b8.b.1 aA) nil) (c (cl (gs b9.b.1 aA) nil) (cl (cl (gs rI.b fX) nil) nil)))))))))))))))))))))
def El:=qe (res (pl (py (c ac3 (cl ah8 nil))) (pu aie nil)))
abbrev Gb:=El.B
abbrev Sk:=rS.B->Option Gb
def Gd (g:Sk):Ct:=(24,FC rS (lf El) g)
def Sl (x:rS.B):Pg Gb:=ret (x.1.2.2.1,x.1.2.2.2.1)
def rT:=λx=>(Sl x).val
theorem am3:D0 [] 24 rS (lf El) λb=>Sl b:=λb=>by kernel_rfl
theorem Sn [ax]:SC (Gd rT):=s0 (.nil _) am3
def Jg:=qa (pu (cu Gg nil) (cd (c gi (c gi (cl (gc (wY 1 11)) nil))) λb0=>(cl (cl (gs b0.b fX) nil) nil)))
def xL:=qe (res (pr aLv (pu aup aAI)))
abbrev Jh:=xL.B
abbrev Ji:=Int->Int->Nat->NI->NI->NI->NI->NI->NI->NI->NI->NI->NI->NI->Option Jh
def Jj (g:Ji):Ct:=(59,FC Jg (lf xL) (λb=>g b.1.1 b.1.2.1 b.1.b b.2.1 b.b.1 b.b.2.1 b.c.1 b.c.2.1 b.c.b.1 b.c.b.2.1 b.d.1 b.d.2.1 b.d.b.1 b.d.b.2))
def Jk (x0:Int)(x1:Int)(x2:Nat)(x3:Nat->Int)(x4:Nat->Int)(x5:Nat->Int)(x6:Nat->Int)(x7:Nat->Int)(x8:Nat->Int)(x9:Nat->Int)(fP:Nat->Int)(fQ:Nat->Int)(zO:Nat->Int)(x13:Nat->Int):Pg Jh:=let y0:=0+x2;ae (Nat.ble (y0*88) 140737488355328) (ret (y0,x2,x3,x4,x5,x6,x7,x8,x9,fP,fQ,zO,x13)) no
def zm:=λx0 x1 x2 x3 x4 x5 x6 x7 x8 x9 fP fQ zO x13=>(Jk x0 x1 x2 x3 x4 x5 x6 x7 x8 x9 fP fQ zO x13).val
theorem acW:D0 [] 59 Jg (lf xL) λb=>Jk b.1.1 b.1.2.1 b.1.b b.2.1 b.b.1 b.b.2.1 b.c.1 b.c.2.1 b.c.b.1 b.c.b.2.1 b.d.1 b.d.2.1 b.d.b.1 b.d.b.2:=λb=>by kernel_rfl
theorem acX [ax]:SC (Jj zm):=s0 (.nil _) acW
def Bc:=qa (pu (cu ep nil) (cd oA λb0=>(c jY (c lr (c (cl (gs b0.c.1 lq) nil) (cd oT λb4=>(cd nh λb5=>(cd ni λb6=>(cd nj λb7=>(cd nk λb8=>(cd nm λb9=>(c kG (cd pX λrI=>(c (cl (gs b0.e jq) nil) (c (cl (gs b4.b.1 aA) nil) (c (cl (gs b5.b.1 aA) nil) (c (cl (gs b6.b.1 aA) nil) (c (cl (gs b7.b.1 aA) nil) (c (cl (gs b8.b.1 aA) nil) (c (cl (gs b9.b.1 aA) nil) (cl (cl (gs rI.b fX) nil) nil)))))))))))))))))))))
def Ge:=qe (res (pr (ac (wY 20 11)) (pu aie aAI)))
abbrev WK:=Ge.B
abbrev aq5:=Bc.B->Option WK
def WL (g:aq5):Ct:=(25,FC Bc (lf Ge) g)
def WM (ru:Ji)(x:Bc.B):Pg WK:=let n2:=x.2.2.2.2.2.2.2.2.2.2.2;let n1:=n2.2.2.2.2.2.2.2.2;let n3:=n1.2.2.2.2.2;ae (Nat.beq n2.1.2.2 n2.1.2.2) (opt (ru n2.1.1 n2.1.2.1 n2.1.2.2 n1.1 n1.2.1 n1.2.2.1 n1.2.2.2.1 n1.2.2.2.2.1 n3.1 n3.2.1 n3.2.2.1 n3.2.2.2.1 n3.2.2.2.2.1 n3.2.2.2.2.2) λd=>ret d) no
def WN:=λx=>(WM zm x).val
theorem aq6:∀ru,D0 [Jj ru] 25 Bc (lf Ge) λb=>WM ru b:=λ_ b=>by kernel_rfl
theorem aq7 [ax]:SC (WL WN):=s0 (.c acX (.nil _)) (aq6 zm)
def qQ:=qa (pr (cu ep fT) (cd oA λb0=>(c jY (c lr (c (cl (gs b0.c.1 lq) nil) (cd oT λb4=>(cd nh λb5=>(cd ni λb6=>(cd nj λb7=>(cd nk λb8=>(cd nm λb9=>(c kG (cd pX λrI=>(c (cl (gs b0.e jq) nil) (c (cl (gs b4.b.1 aA) nil) (c (cl (gs b5.b.1 aA) nil) (c (cl (gs b6.b.1 aA) nil) (c (cl (gs b7.b.1 aA) nil) (c (cl (gs b8.b.1 aA) nil) (c (cl (gs b9.b.1 aA) nil) (cl (cl (gs rI.b fX) nil) nil)))))))))))))))))))))
def Cv:=qe (res (pl (aa ix) (pu aie nil)))
abbrev Em:=Cv.B
abbrev PX:=qQ.B->Option Em
def En (g:PX):Ct:=(23,FC qQ (lf Cv) g)
def Eo (zk:acm)(x:qQ.B):Pg Em:=let n1:=x.2.2.2.2.2;opt (zk x.1) λd=>ae (!d) (ret (0,0,0,0,0)) (ae (aX x.1 6) (ae (x.1==5) (ret n1.2.2.2.2.2.1.1) (ae (x.1==4) (ret n1.2.2.2.2.1.1) (ae (x.1==3) (ret n1.2.2.2.1.1) (ae (x.1==2) (ret n1.2.2.1.1) (ae (x.1==1) (ret n1.2.1.1) (ret n1.1.1)))))) no)
def m4:=λx=>(Eo yY x).val
theorem al2:∀zk,D0 [amh zk] 23 qQ (lf Cv) λb=>Eo zk b:=λ_ b=>by kernel_rfl
theorem PY [ax]:SC (En m4):=s0 (.c av3 (.nil _)) (al2 yY)
def uM:=qa (pu (cu To nil) (cd ac9 λb0=>(cl (cl (gs b0.b.1 aA) nil) nil)))
def Gf:=qe aLY
abbrev WO:=Gf.B
abbrev WQ:=uM.B->Option WO
def WT (g:WQ):Ct:=(65,FC uM (lf Gf) g)
def WU (x:uM.B):Pg WO:=ret (Int.ofNat x.1.2.2.1)
def Bd:=λx=>(WU x).val
theorem aq8:D0 [] 65 uM (lf Gf) λb=>WU b:=λb=>by kernel_rfl
theorem aq9 [ax]:SC (WT Bd):=s0 (.nil _) aq8
def wW:=qa (pr (cu ep fT) (cd oA λb0=>(c jY (c lr (c (cl (gs b0.c.1 lq) nil) (cd oT λb4=>(cd nh λb5=>(cd ni λb6=>(cd nj λb7=>(cd nk λb8=>(cd nm λb9=>(c kG (cd pX λrI=>(c (cl (gs b0.e jq) nil) (c (cl (gs b4.b.1 aA) nil) (c (cl (gs b5.b.1 aA) nil) (c (cl (gs b6.b.1 aA) nil) (c (cl (gs b7.b.1 aA) nil) (c (cl (gs b8.b.1 aA) nil) (c (cl (gs b9.b.1 aA) nil) (cl (cl (gs rI.b fX) nil) nil)))))))))))))))))))))
def IC:=qe aSL
abbrev C2:=IC.B
abbrev YS:=wW.B->Option C2
def Lx (g:YS):Ct:=(28,FC wW (lf IC) g)
def Ly (zk:acm)(iV:WQ)(x:wW.B):Pg C2:=let n4:=x.2.2.2.2.2;let n1:=n4.2;let n3:=n1.2.2;let n2:=n3.2.2.2.2.2.2;opt (zk x.1) λd=>ae (!d) (ret 0) (ae (aX x.1 6) (ae (x.1==5) (ae (Nat.beq n3.2.2.1.2.2.1 n3.2.2.1.2.2.1) (opt (iV (n3.2.2.1,n2.2.2.2.2.2.1)) λd=>ret d) no) (ae (x.1==4) (ae (Nat.beq n3.2.1.2.2.1 n3.2.1.2.2.1) (opt (iV (n3.2.1,n2.2.2.2.2.1)) λd=>ret d) no) (ae (x.1==3) (ae (Nat.beq n3.1.2.2.1 n3.1.2.2.1) (opt (iV (n3.1,n2.2.2.2.1)) λd=>ret d) no) (ae (x.1==2) (ae (Nat.beq n1.2.1.2.2.1 n1.2.1.2.2.1) (opt (iV (n1.2.1,n2.2.2.1)) λd=>ret d) no) (ae (x.1==1) (ae (Nat.beq n1.1.2.2.1 n1.1.2.2.1) (opt (iV (n1.1,n2.2.1)) λd=>ret d) no) (ae (Nat.beq n4.1.2.2.1 n4.1.2.2.1) (opt (iV (n4.1,n2.1)) λd=>ret d) no)))))) no)
def rv:=λx=>(Ly yY Bd x).val
theorem at9:∀zk iV,D0 [amh zk,WT iV] 28 wW (lf IC) λb=>Ly zk iV b:=λ_ _ b=>by kernel_rfl
theorem YT [ax]:SC (Lx rv):=s0 (.c av3 (.c aq9 (.nil _))) (at9 yY Bd)
end Go.Proofs.YtldgljclcgaibaaGreat
