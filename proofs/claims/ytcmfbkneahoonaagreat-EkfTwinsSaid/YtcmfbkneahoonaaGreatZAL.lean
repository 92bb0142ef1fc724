/-
  Parts of the proof: Q6 TSp Q7 TIm Q8
-/
import Derived.Test.YtcmfbkneahoonaaGreatZAE
import Derived.Test.YtcmfbkneahoonaaGreatZAK
set_option maxRecDepth 100000
set_option maxHeartbeats 4000000
set_option linter.unusedVariables false
noncomputable section
namespace Go.Proofs.YtcmfbkneahoonaaGreat
open Go.Ab Go.Ab.Pg Go.Ab.Rq
def ph:=qa (pr (cu dy YX) (cd oy λb0=>(c jT (c lk (c (cl (gs b0.c.1 lg) nil) (cd oR λb4=>(cd na λb5=>(cd nc λb6=>(cd nd λb7=>(cd nh λb8=>(cd ni λb9=>(c kC (cd pX λpQ=>(c (cl (gs b0.e jk) nil) (c (cl (gs b4.b.1 aA) nil) (c (cl (gs b5.b.1 aA) nil) (c (cl (gs b6.b.1 aA) nil) (c (cl (gs b7.b.1 aA) nil) (c (cl (gs b8.b.1 aA) nil) (c (cl (gs b9.b.1 aA) nil) (cl (cl (gs pQ.b fX) nil) nil)))))))))))))))))))))
def am8:=qe (res (pu Th (pr (c (zC (a 26 lI (c gb (c fq (a 2 my (cu afX (cu afY (c aGl (au 6 ade (cu anh (a 4 ot (cu ani (c gb (c gi (a 3 fP (c gb (c gb (c gb (c gi (c gi (c gi (a 10 ou (cl (gc (dG (pu (nat 20) (pu (ox (pu cw (pu cw (nat 10)))) (pl eS (pu (nat 10) ek)))))) nil))))))))))))))))))))))) (cu eW (cu eW (cu eW (c (zC (a 5 gJ (c gi (c (gc aLQ) jO)))) (c (zC apL) (c (zC aRQ) (c (zC aRR) (c (zC aRS) (c (zC aRT) (c aAH (cl (zC (c gi (c gi (cl (gc (dG (pu (nat 27) (pu (ox (pu cw (pu cw mD))) (pl eS (pu mD ek)))))) nil)))) (cu eW aRd))))))))))))) aMf)))
abbrev uC:=((Ty4×bH×bH×bH×bH×bH×bH×Jf×Int×Int×Nat)×BZ×eB×eB×eB×eB×eB×eB×Nat×NI×NI×NI×NI×NI×NI×NI×NI×NI×NI×NI)
def Ww:uC->T:=λd=>lf am8 (d.1,d.2.1,(d.1.2.1.b.1,d.b.1),(d.1.b.1.b.1,d.b.2.1),(d.1.b.2.1.b.1,d.c.1),(d.1.c.1.b.1,d.c.2.1),(d.1.c.2.1.b.1,d.c.b.1),(d.1.c.b.1.b.1,d.c.b.2.1),d.d)
abbrev It:=ph.B->Option uC
def Wx (g:It):Ct:=(40,FC ph Ww g)
def eM:=qs (st (dp (cu dy (us 2 (cu Xj (cu L3 (c ai (us 53 (c ai (us 10 (c (ac aLQ) (c ai (cl ai (us 126 nil)))))))))))) λv=>(pl (c aAR (c ky (c kD (c lH (cd HF λb4=>(cd HG λb5=>(cd HH λb6=>(cd B5 λb7=>(cd xY λb8=>(cd Jl λb9=>(c jL (c adg (c ov (cu nO (cu nO (cu nO (cu nO (cu nO (cu nO (cu nO (c C5 (c (so (cl (gs v.b.1 aA) nil)) (c ov (c (so (cl (gs b4.b.1 aA) nil)) (c (so (cl (gs b5.b.1 aA) nil)) (c (so (cl (gs b6.b.1 aA) nil)) (c (so (cl (gs b7.b.1 aA) nil)) (c (so (cl (gs b8.b.1 aA) nil)) (c (so (cl (gs b9.b.1 aA) nil)) L5))))))))))))))))))))))))))))) To)))
def alR:=qs (st (pr (cu dy (us 2 (cu Xj (cu L3 (c ai (us 53 (c ai (us 10 (c (ac aLQ) (c ai (c ai (cl ab (us 125 nil))))))))))))) (pl (c aAR (c ky (c kD (c lH (c HF (c HG (c HH (c B5 (c xY (c Jl (c jL (c adg (c ov (cu nO (cu nO (cu nO (cu nO (cu nO (cu nO (cu nO (c C5 (c uR L6)))))))))))))))))))))) To)))
abbrev kn:=((Int×Int×Nat×Int×Int×Bool)×Ty4×vO×Jk×LY×bH×bH×bH×bH×bH×bH×Jf×qP×BZ×aAt×eB×BZ×eB×eB×eB×eB×eB×eB×Nat×NI×NI×NI×NI×NI×NI×NI×NI×NI×NI×NI)
def PE {ρ:Type}(x:kn)(K:AX->St->Option ρ):Option ρ:=(λd=>K (.ex 2) (alR.em (d.1,d.2.1,d.b.1,d.b.2.1,d.c.1,d.c.2.1,d.c.b.1,d.c.b.2.1,d.d.1,d.d.2.1,d.d.b.1,d.d.b.2.1,d.d.c.1,d.d.c.2.1,d.d.c.b.1,(d.1.b.1,d.d.c.b.2.1),d.e.1,(d.c.2.1.b.1,d.e.2.1),(d.c.b.1.b.1,d.e.b.1),(d.c.b.2.1.b.1,d.e.b.2.1),(d.d.1.b.1,d.e.c.1),(d.d.2.1.b.1,d.e.c.2.1),(d.d.b.1.b.1,d.e.c.b.1),d.e.c.b.2))) x
def Eb (aue:Le)(d:eM.B):PL eM kn:=let ba:=d.2.1.2.2.2.2;let n15:=ba.2.2.2.2.2.2.2.2.2.2.2.2;let n8:=d.1.2.2;let n18:=n8.2.2;let n6:=d.2.2.2;let bl:=n6.2.2.1;let n3:=n6.2.2.2;let n16:=n3.2.1;let bA:=n3.2.2.1;let n7:=n3.2.2.2;let n17:=n7.2.1;let n2:=n7.2.2.2;let n5:=n2.2.2.2;let bk:=n5.2.2.2.2;let aS:=n5.1.2.2.2;let n4:=bk.2.2.2.2.2;let n9:=n4.2.2.2.2.2;let n1:=(d.1.1,d.1.2.1,n8.1,n8.2.1,wI (n18+1));let y0:=0+Int.toNat n18;let y1:=decide (n18<n8.2.1);ae y1 (ae (aX n18 n8.1) (ae (Nat.beq ba.1 ba.1) (ae (Nat.beq n15 n15) (ae (Nat.beq bl.2.2.1 bl.2.2.1) (ae (Nat.beq n3.1.2.2.1 n3.1.2.2.1) (ae (Nat.beq n16.2.2.1 n16.2.2.1) (ae (Nat.beq bA.2.2.1 bA.2.2.1) (ae (Nat.beq n7.1.2.2.1 n7.1.2.2.1) (ae (Nat.beq n17.2.2.1 n17.2.2.1) (ae (Nat.beq n2.1.2.2 n2.1.2.2) (opt (aue ((d.1.1,n5.1.1 y0,n5.1.2.1 y0,n5.1.2.2.1 y0,aS.1 y0,aS.2.1 y0,aS.2.2.1 y0,aS.2.2.2.1 y0,aS.2.2.2.2.1 y0,aS.2.2.2.2.2 y0),d.2.1,d.2.2.1,n6.1,(sh8 0 n6.2.1.2),bl,n3.1,n16,bA,n7.1,n17,n7.2.2.1,n2.1,(Jj 0 n5.2.1.2),(ep 0 n5.2.2.1),(ep 0 n5.2.2.2.1),(ep 0 bk.1),(ep 0 bk.2.1),(ep 0 bk.2.2.1),(ep 0 bk.2.2.2.1),λj=>n4.1 (0+j),λj=>n4.2.1 (0+j),λj=>n4.2.2.1 (0+j),λj=>n4.2.2.2.1 (0+j),λj=>n4.2.2.2.2.1 (0+j),λj=>n9.1 (0+j),λj=>n9.2.1 (0+j),λj=>n9.2.2.1 (0+j),λj=>n9.2.2.2.1 (0+j),λj=>n9.2.2.2.2.1 (0+j),λj=>n9.2.2.2.2.2 (0+j))) λaj=>sm aj (λaF=>ret (Sum.inl (n1,aF.1,d.2.2.1,n6.1,n6.2.1,bl,n3.1,n16,bA,n7.1,n17,aF.2,n2))) (λaF=>ret (Sum.inl (n1,aF.1.1,d.2.2.1,n6.1,n6.2.1,bl,n3.1,n16,bA,n7.1,n17,aF.1.2,n2.1,n2.2.1,n2.2.2.1,n5.1,(aF.1.1.2.2.2.2.2.2.2.2.2.2.2.2.2.2.2.2,aF.2),n5.2.2)))) no) no) no) no) no) no) no) no) no) no) (ret (Sum.inr ((d.1.1,d.1.2.1,n8.1,n8.2.1,n18,y1),d.2)))
def wP:=bD (Eb wO) 2000
def fC:=qs (st (pr (cu dy (us 2 (cu Xj (cu L3 (us 3 (cu aQi (us 92 (cl ai (us 97 nil))))))))) (pl (c aAR (c ky (c kD (c lH (cd HF λb4=>(cd HG λb5=>(cd HH λb6=>(cd B5 λb7=>(cd xY λb8=>(cd Jl λb9=>(c jL (c adg (c ov (cu nO (cu nO (cu nO (cu nO (cu nO (cu nO (cu nO (c C5 (c aRH (c ov (c (so (cl (gs b4.b.1 aA) nil)) (c (so (cl (gs b5.b.1 aA) nil)) (c (so (cl (gs b6.b.1 aA) nil)) (c (so (cl (gs b7.b.1 aA) nil)) (c (so (cl (gs b8.b.1 aA) nil)) (c (so (cl (gs b9.b.1 aA) nil)) L5))))))))))))))))))))))))))))) To)))
def alS:=qs (st (pr (cu dy (us 2 (cu Xj (cu L3 (us 3 (cu aQi (us 92 (c ai (cl ab (us 96 nil)))))))))) (pl (c aAR (c ky (c kD (c lH (c HF (c HG (c HH (c B5 (c xY (c Jl (c jL (c adg (c ov (cu nO (cu nO (cu nO (cu nO (cu nO (cu nO (cu nO (c C5 (c aRH L6)))))))))))))))))))))) To)))
abbrev mS:=((Int×Bool)×Ty4×vO×Jk×LY×bH×bH×bH×bH×bH×bH×Jf×qP×BZ×aAt×(Bool×Bool×Bool×Bool×Bool×Bool×Bool×Bool×Int×Int)×BZ×eB×eB×eB×eB×eB×eB×Nat×NI×NI×NI×NI×NI×NI×NI×NI×NI×NI×NI)
def PF {ρ:Type}(x:mS)(K:AX->St->Option ρ):Option ρ:=(λd=>K (.ex 4) (alS.em (d.1,d.2.1,d.b.1,d.b.2.1,d.c.1,d.c.2.1,d.c.b.1,d.c.b.2.1,d.d.1,d.d.2.1,d.d.b.1,d.d.b.2.1,d.d.c.1,d.d.c.2.1,d.d.c.b.1,d.d.c.b.2.1,d.e.1,(d.c.2.1.b.1,d.e.2.1),(d.c.b.1.b.1,d.e.b.1),(d.c.b.2.1.b.1,d.e.b.2.1),(d.d.1.b.1,d.e.c.1),(d.d.2.1.b.1,d.e.c.2.1),(d.d.b.1.b.1,d.e.c.b.1),d.e.c.b.2))) x
def Ec (aaV:xq)(d:fC.B):PL fC mS:=let n15:=d.2.1;let n7:=d.2.2;let n16:=n7.2.1;let n8:=n7.2.2.1;let n2:=n7.2.2.2;let n17:=n2.2.1;let n9:=n2.2.2.1;let n4:=n2.2.2.2;let n18:=n4.2.1;let aS:=n4.2.2.1;let n1:=n4.2.2.2;let n19:=n1.2.1;let bk:=n1.1.1.2;let ba:=n1.2.2.1;let n6:=n1.2.2.2;let n20:=n6.2.2;let n3:=n6.2.1;let n21:=n3.2.1;let bl:=n3.2.2.1;let n5:=n3.2.2.2;let bA:=n5.2.2;let y0:=wI (d.1+1);let y1:=decide (d.1<6);ae y1 (opt (aaV d.1 n6.1.1 n1.1.1.1 bk.1 bk.2.1 bk.2.2.1 bk.2.2.2.1 bk.2.2.2.2 n1.1.2) λaj=>ae (aX d.1 6) (ae (d.1==5) (ret (Sum.inl (y0,n15,n7.1,n16,n8,n2.1,n17,n9,n4.1,n18,aS,n1.1,n19,ba,n6.1,(n3.1,n21,bl,n5.1,n5.2.1,bA.1,bA.2.1,aj,bA.2.2.2),n20))) (ae (d.1==4) (ret (Sum.inl (y0,n15,n7.1,n16,n8,n2.1,n17,n9,n4.1,n18,aS,n1.1,n19,ba,n6.1,(n3.1,n21,bl,n5.1,n5.2.1,bA.1,aj,bA.2.2),n20))) (ae (d.1==3) (ret (Sum.inl (y0,n15,n7.1,n16,n8,n2.1,n17,n9,n4.1,n18,aS,n1.1,n19,ba,n6.1,(n3.1,n21,bl,n5.1,n5.2.1,aj,bA.2),n20))) (ae (d.1==2) (ret (Sum.inl (y0,n15,n7.1,n16,n8,n2.1,n17,n9,n4.1,n18,aS,n1.1,n19,ba,n6.1,(n3.1,n21,bl,n5.1,aj,bA),n20))) (ae (d.1==1) (ret (Sum.inl (y0,n15,n7.1,n16,n8,n2.1,n17,n9,n4.1,n18,aS,n1.1,n19,ba,n6.1,(n3.1,n21,bl,aj,n5.2),n20))) (ret (Sum.inl (y0,n15,n7.1,n16,n8,n2.1,n17,n9,n4.1,n18,aS,n1.1,n19,ba,n6.1,(n3.1,n21,aj,n5),n20)))))))) no) (ret (Sum.inr ((d.1,y1),d.2)))
def Ed:=bD (Ec lS) 2000
def jo:=qs (st (pu aRD (pl (c auO (c ky (c kD (c lH (cd (so apL) λb4=>(cd HF λb5=>(cd HG λb6=>(cd HH λb7=>(cd B5 λb8=>(cd xY λb9=>(c jL (c auN (c ov (cu nO (cu nO (cu nO (cu nO (cu nO (cu nO (cu nO (c C5 (c ov (c (so (cl (gs b4.b.1 aA) nil)) (c (so (cl (gs b5.b.1 aA) nil)) (c (so (cl (gs b6.b.1 aA) nil)) (c (so (cl (gs b7.b.1 aA) nil)) (c (so (cl (gs b8.b.1 aA) nil)) (c (so (cl (gs b9.b.1 aA) nil)) L5)))))))))))))))))))))))))))) To)))
def acL:=qs aMm
def acM:=qs aMl
abbrev mT:=((Bool×NI×Int×Int)×(Ty7×Bool×(NI×NI)×Nat×afV×Int×Lx×Bool×Bool×Bool×Int×Int×Int×afU×Nat)×vO×Jk×LY×bH×bH×bH×bH×bH×bH×Jf×qP×BZ×aNC×BZ×eB×eB×eB×eB×eB×eB×Nat×NI×NI×NI×NI×NI×NI×NI×NI×NI×NI×NI)⊕(Bool×(Ty7×Bool×NI×(NI×NI)×Nat×afV×Int×Lx×Bool×Bool×Bool×Int×Int×Int×afU×Nat)×vO×Jk×LY×bH×bH×bH×bH×bH×bH×Jf×qP×BZ×aAt×BZ×eB×eB×eB×eB×eB×eB×Nat×NI×NI×NI×NI×NI×NI×NI×NI×NI×NI×NI)
def PG {ρ:Type}(x:mT)(K:AX->St->Option ρ):Option ρ:=(Sum.elim (λd=>K .nrm (acL.em (d.1,(d.2.1.1,d.2.1.2.1,d.1.2.1,d.2.1.b.1,d.2.1.b.2.1,d.2.1.c.1,d.1.1,d.2.1.c.2),d.b.1,d.b.2.1,d.c.1,d.c.2.1,d.c.b.1,d.c.b.2.1,d.d.1,d.d.2.1,d.d.b.1,d.d.b.2.1,d.d.c.1,d.d.c.2.1,(d.1.b.1,d.d.c.b.1),d.d.c.b.2.1,(d.c.2.1.b.1,d.e.1),(d.c.b.1.b.1,d.e.2.1),(d.c.b.2.1.b.1,d.e.b.1),(d.d.1.b.1,d.e.b.2.1),(d.d.2.1.b.1,d.e.c.1),(d.d.b.1.b.1,d.e.c.2.1),d.e.c.b))) (λd=>K .nrm (acM.em (d.1,(d.2.1.1,d.2.1.2.1,d.2.1.b.1,d.2.1.b.2.1,d.2.1.c.1,d.2.1.c.2.1,d.1,d.2.1.c.b),d.b.1,d.b.2.1,d.c.1,d.c.2.1,d.c.b.1,d.c.b.2.1,d.d.1,d.d.2.1,d.d.b.1,d.d.b.2.1,d.d.c.1,d.d.c.2.1,d.d.c.b.1,d.d.c.b.2.1,(d.c.2.1.b.1,d.e.1),(d.c.b.1.b.1,d.e.2.1),(d.c.b.2.1.b.1,d.e.b.1),(d.d.1.b.1,d.e.b.2.1),(d.d.2.1.b.1,d.e.c.1),(d.d.b.1.b.1,d.e.c.2.1),d.e.c.b)))) x
def Ee (Tb:sM)(d:jo.B):Pg mT:=let bk:=d.1.2;let n6:=d.2.2.2.2.2;let bA:=n6.2.2.2;let n5:=bk.2.2;let ba:=n5.2.2;let n2:=bA.2.2.2;let bl:=n2.2.2;let n8:=bl.2.2.2;let n1:=n8.2.2.2.2.2;let n9:=n1.2.2.2;let n3:=n9.2.2.2;let aS:=n3.2.2.2;ae ba.2.1 (ae (Nat.beq n2.1.2.2 n2.1.2.2) (opt (Tb ((bk.2.1,bl.1.1),n2.1,bk.1,λj=>n1.2.1 (0+j),λj=>n1.2.2.1 (0+j),λj=>n9.1 (0+j),λj=>n9.2.1 (0+j),λj=>n9.2.2.1 (0+j),λj=>n3.1 (0+j),λj=>n3.2.1 (0+j),λj=>n3.2.2.1 (0+j),λj=>aS.1 (0+j),λj=>aS.2.1 (0+j),λj=>aS.2.2 (0+j))) λaj=>let n4:=aj.2.2;let n7:=n4.2.2.2.2.2;let n15:=n7.2.2.2;let y0:=n4.1*11+0;ae (true&&Nat.beq y0 (n2.1.2.2*11)&&true) (ae (true&&Nat.ble (0+y0) (n1.1*11+0)) (ret (Sum.inl ((ba.2.1,bk.2.1,bl.1.1,aj.1),(d.1.1,aj.2.1,n5.1,n5.2.1,ba.1,ba.2.2),d.2.1,d.2.2.1,d.2.2.2.1,d.2.2.2.2.1,n6.1,n6.2.1,n6.2.2.1,bA.1,bA.2.1,bA.2.2.1,n2.1,n2.2.1,bl.1.2,bl.2.1,bl.2.2.1,n8.1,n8.2.1,n8.2.2.1,n8.2.2.2.1,n8.2.2.2.2.1,n1.1,λj=>bif true&&Nat.blt j (0+n4.1) then n4.2.1 j else n1.2.1 j,λj=>bif true&&Nat.blt j (0+n4.1) then n4.2.2.1 j else n1.2.2.1 j,λj=>bif true&&Nat.blt j (0+n4.1) then n4.2.2.2.1 j else n9.1 j,λj=>bif true&&Nat.blt j (0+n4.1) then n4.2.2.2.2.1 j else n9.2.1 j,λj=>bif true&&Nat.blt j (0+n4.1) then n7.1 j else n9.2.2.1 j,λj=>bif true&&Nat.blt j (0+n4.1) then n7.2.1 j else n3.1 j,λj=>bif true&&Nat.blt j (0+n4.1) then n7.2.2.1 j else n3.2.1 j,λj=>bif true&&Nat.blt j (0+n4.1) then n15.1 j else n3.2.2.1 j,λj=>bif true&&Nat.blt j (0+n4.1) then n15.2.1 j else aS.1 j,λj=>bif true&&Nat.blt j (0+n4.1) then n15.2.2.1 j else aS.2.1 j,λj=>bif true&&Nat.blt j (0+n4.1) then n15.2.2.2 j else aS.2.2 j))) no) no) no) (ret (Sum.inr (ba.2.1,(d.1.1,bk.1,bk.2.1,n5.1,n5.2.1,ba.1,ba.2.2),d.2)))
def wQ (d:jo.B):Option mT:=(Ee jI d).val
def fD:=qs (st (pr (cu dy (us 2 (cu Xj (cu L3 (us 54 (cl ai (us 139 nil))))))) (pl (c auO (c ky (c kD (c lH (cd (so apL) λb4=>(cd HF λb5=>(cd HG λb6=>(cd HH λb7=>(cd B5 λb8=>(cd xY λb9=>(c jL (c auN (c ov (cu nO (cu nO (cu nO (cu nO (cu nO (cu nO (cu nO (c C5 (c ov (c (so (cl (gs b4.b.1 aA) nil)) (c (so (cl (gs b5.b.1 aA) nil)) (c (so (cl (gs b6.b.1 aA) nil)) (c (so (cl (gs b7.b.1 aA) nil)) (c (so (cl (gs b8.b.1 aA) nil)) (c (so (cl (gs b9.b.1 aA) nil)) L5)))))))))))))))))))))))))))) To)))
def alT:=qs (st (pr (cu dy (us 2 (cu Xj (cu L3 (us 54 (c ai aQA)))))) (pl (c auO (c ky (c kD (c lH (c (so apL) (c HF (c HG (c HH (c B5 (c xY (c jL (c auN (c ov (cu nO (cu nO (cu nO (cu nO (cu nO (cu nO (cu nO (c C5 L6))))))))))))))))))))) To)))
abbrev mU:=((Int×Bool)×Ty4×vO×Jk×LY×bH×bH×bH×bH×bH×bH×Jf×qP×BZ×aAt×BZ×eB×eB×eB×eB×eB×eB×Nat×NI×NI×NI×NI×NI×NI×NI×NI×NI×NI×NI)
def PH {ρ:Type}(x:mU)(K:AX->St->Option ρ):Option ρ:=(λd=>K (.ex 0) (alT.em (d.1,d.2.1,d.b.1,d.b.2.1,d.c.1,d.c.2.1,d.c.b.1,d.c.b.2.1,d.d.1,d.d.2.1,d.d.b.1,d.d.b.2.1,d.d.c.1,d.d.c.2.1,d.d.c.b.1,d.d.c.b.2.1,(d.c.2.1.b.1,d.e.1),(d.c.b.1.b.1,d.e.2.1),(d.c.b.2.1.b.1,d.e.b.1),(d.d.1.b.1,d.e.b.2.1),(d.d.2.1.b.1,d.e.c.1),(d.d.b.1.b.1,d.e.c.2.1),d.e.c.b))) x
def Ef (pj:H9)(oV:LT eM kn)(d:fD.B):PL fD mU:=let n39:=d.2.1;let n17:=d.2.2;let yS:=n17.2.1;let n4:=n17.2.2;let n30:=n4.2.1;let n19:=n4.2.2.1;let n2:=n4.2.2.2;let n31:=n2.2.1;let n20:=n2.2.2.1;let n5:=n2.2.2.2;let wL:=n5.2.1;let n18:=n5.2.2;let Cn:=n18.2.1;let n1:=n18.2.2;let C2:=n1.2.1;let AO:=n1.1.1;let n6:=n1.2.2;let n32:=n6.2.1;let n21:=n6.1.2.2.2;let bA:=n32.2.2.2;let n3:=n6.2.2;let GV:=n3.2.1;let n22:=n3.1.2.2.2;let n15:=GV.2.2.2;let bl:=n3.2.2;let n23:=bl.1.2.2.2;let n16:=bl.2.1.2.2.2;let y0:=decide (d.1<6);let y1:=Nat.beq n30.2.2.1 n30.2.2.1;let y2:=Nat.beq n19.2.2.1 n19.2.2.1;let y3:=Nat.beq n2.1.2.2.1 n2.1.2.2.1;let y4:=Nat.beq n31.2.2.1 n31.2.2.1;let y5:=Nat.beq n20.2.2.1 n20.2.2.1;let y6:=Nat.beq n5.1.2.2.1 n5.1.2.2.1;ae y0 (ae (aX d.1 6) (ae (d.1==5) (ae y6 (opt (pj (AO,n5.1,λj=>bl.2.1.1 (0+j),λj=>bl.2.1.2.1 (0+j),λj=>bl.2.1.2.2.1 (0+j),λj=>n16.1 (0+j),λj=>n16.2.1 (0+j),λj=>n16.2.2.1 (0+j),λj=>n16.2.2.2.1 (0+j),λj=>n16.2.2.2.2.1 (0+j),λj=>n16.2.2.2.2.2 (0+j))) λaj=>ae (Nat.beq aj.1 aj.1) (ae y1 (ae y2 (ae y3 (ae y4 (ae y5 (ae (Nat.beq aj.2.1.2.2.1 aj.2.1.2.2.1) (opt (oV ((d.1,d.1,aj.1,Int.ofNat aj.1,0),n39,n17.1,yS,n4.1,n30,n19,n2.1,n31,n20,aj.2.1,wL,n18.1,Cn,n1.1,aj.2.2.1,C2,n6.1,n32,n3.1,GV,bl.1,aj.2.2.2,bl.2.2)) λd=>let n33:=d.2.2.2;let n7:=n33.2.2.2.2;let n24:=n7.2.2.2.2;ret (Sum.inl (wI (d.1.2.1+1),d.2.1,d.2.2.1,n33.1,n33.2.1,n33.2.2.1,n33.2.2.2.1,n7.1,n7.2.1,n7.2.2.1,n7.2.2.2.1,n24.1,n24.2.1,n24.2.2.1,n24.2.2.2.1,n24.2.2.2.2.2))) no) no) no) no) no) no) no) no) (ae (d.1==4) (ae y5 (opt (pj (AO,n20,λj=>bl.1.1 (0+j),λj=>bl.1.2.1 (0+j),λj=>bl.1.2.2.1 (0+j),λj=>n23.1 (0+j),λj=>n23.2.1 (0+j),λj=>n23.2.2.1 (0+j),λj=>n23.2.2.2.1 (0+j),λj=>n23.2.2.2.2.1 (0+j),λj=>n23.2.2.2.2.2 (0+j))) λaj=>ae (Nat.beq aj.1 aj.1) (ae y1 (ae y2 (ae y3 (ae y4 (ae (Nat.beq aj.2.1.2.2.1 aj.2.1.2.2.1) (ae y6 (opt (oV ((d.1,d.1,aj.1,Int.ofNat aj.1,0),n39,n17.1,yS,n4.1,n30,n19,n2.1,n31,aj.2.1,n5.1,wL,n18.1,Cn,n1.1,aj.2.2.1,C2,n6.1,n32,n3.1,GV,aj.2.2.2,bl.2)) λd=>let n34:=d.2.2.2;let n8:=n34.2.2.2.2;let n25:=n8.2.2.2.2;ret (Sum.inl (wI (d.1.2.1+1),d.2.1,d.2.2.1,n34.1,n34.2.1,n34.2.2.1,n34.2.2.2.1,n8.1,n8.2.1,n8.2.2.1,n8.2.2.2.1,n25.1,n25.2.1,n25.2.2.1,n25.2.2.2.1,n25.2.2.2.2.2))) no) no) no) no) no) no) no) no) (ae (d.1==3) (ae y4 (opt (pj (AO,n31,λj=>GV.1 (0+j),λj=>GV.2.1 (0+j),λj=>GV.2.2.1 (0+j),λj=>n15.1 (0+j),λj=>n15.2.1 (0+j),λj=>n15.2.2.1 (0+j),λj=>n15.2.2.2.1 (0+j),λj=>n15.2.2.2.2.1 (0+j),λj=>n15.2.2.2.2.2 (0+j))) λaj=>ae (Nat.beq aj.1 aj.1) (ae y1 (ae y2 (ae y3 (ae (Nat.beq aj.2.1.2.2.1 aj.2.1.2.2.1) (ae y5 (ae y6 (opt (oV ((d.1,d.1,aj.1,Int.ofNat aj.1,0),n39,n17.1,yS,n4.1,n30,n19,n2.1,aj.2.1,n20,n5.1,wL,n18.1,Cn,n1.1,aj.2.2.1,C2,n6.1,n32,n3.1,aj.2.2.2,bl)) λd=>let n35:=d.2.2.2;let n9:=n35.2.2.2.2;let n26:=n9.2.2.2.2;ret (Sum.inl (wI (d.1.2.1+1),d.2.1,d.2.2.1,n35.1,n35.2.1,n35.2.2.1,n35.2.2.2.1,n9.1,n9.2.1,n9.2.2.1,n9.2.2.2.1,n26.1,n26.2.1,n26.2.2.1,n26.2.2.2.1,n26.2.2.2.2.2))) no) no) no) no) no) no) no) no) (ae (d.1==2) (ae y3 (opt (pj (AO,n2.1,λj=>n3.1.1 (0+j),λj=>n3.1.2.1 (0+j),λj=>n3.1.2.2.1 (0+j),λj=>n22.1 (0+j),λj=>n22.2.1 (0+j),λj=>n22.2.2.1 (0+j),λj=>n22.2.2.2.1 (0+j),λj=>n22.2.2.2.2.1 (0+j),λj=>n22.2.2.2.2.2 (0+j))) λaj=>ae (Nat.beq aj.1 aj.1) (ae y1 (ae y2 (ae (Nat.beq aj.2.1.2.2.1 aj.2.1.2.2.1) (ae y4 (ae y5 (ae y6 (opt (oV ((d.1,d.1,aj.1,Int.ofNat aj.1,0),n39,n17.1,yS,n4.1,n30,n19,aj.2.1,n31,n20,n5.1,wL,n18.1,Cn,n1.1,aj.2.2.1,C2,n6.1,n32,aj.2.2.2,n3.2)) λd=>let n36:=d.2.2.2;let aS:=n36.2.2.2.2;let n27:=aS.2.2.2.2;ret (Sum.inl (wI (d.1.2.1+1),d.2.1,d.2.2.1,n36.1,n36.2.1,n36.2.2.1,n36.2.2.2.1,aS.1,aS.2.1,aS.2.2.1,aS.2.2.2.1,n27.1,n27.2.1,n27.2.2.1,n27.2.2.2.1,n27.2.2.2.2.2))) no) no) no) no) no) no) no) no) (ae (d.1==1) (ae y2 (opt (pj (AO,n19,λj=>n32.1 (0+j),λj=>n32.2.1 (0+j),λj=>n32.2.2.1 (0+j),λj=>bA.1 (0+j),λj=>bA.2.1 (0+j),λj=>bA.2.2.1 (0+j),λj=>bA.2.2.2.1 (0+j),λj=>bA.2.2.2.2.1 (0+j),λj=>bA.2.2.2.2.2 (0+j))) λaj=>ae (Nat.beq aj.1 aj.1) (ae y1 (ae (Nat.beq aj.2.1.2.2.1 aj.2.1.2.2.1) (ae y3 (ae y4 (ae y5 (ae y6 (opt (oV ((d.1,d.1,aj.1,Int.ofNat aj.1,0),n39,n17.1,yS,n4.1,n30,aj.2.1,n2.1,n31,n20,n5.1,wL,n18.1,Cn,n1.1,aj.2.2.1,C2,n6.1,aj.2.2.2,n3)) λd=>let n37:=d.2.2.2;let ba:=n37.2.2.2.2;let n28:=ba.2.2.2.2;ret (Sum.inl (wI (d.1.2.1+1),d.2.1,d.2.2.1,n37.1,n37.2.1,n37.2.2.1,n37.2.2.2.1,ba.1,ba.2.1,ba.2.2.1,ba.2.2.2.1,n28.1,n28.2.1,n28.2.2.1,n28.2.2.2.1,n28.2.2.2.2.2))) no) no) no) no) no) no) no) no) (ae y1 (opt (pj (AO,n30,λj=>n6.1.1 (0+j),λj=>n6.1.2.1 (0+j),λj=>n6.1.2.2.1 (0+j),λj=>n21.1 (0+j),λj=>n21.2.1 (0+j),λj=>n21.2.2.1 (0+j),λj=>n21.2.2.2.1 (0+j),λj=>n21.2.2.2.2.1 (0+j),λj=>n21.2.2.2.2.2 (0+j))) λaj=>ae (Nat.beq aj.1 aj.1) (ae (Nat.beq aj.2.1.2.2.1 aj.2.1.2.2.1) (ae y2 (ae y3 (ae y4 (ae y5 (ae y6 (opt (oV ((d.1,d.1,aj.1,Int.ofNat aj.1,0),n39,n17.1,yS,n4.1,aj.2.1,n19,n2.1,n31,n20,n5.1,wL,n18.1,Cn,n1.1,aj.2.2.1,C2,aj.2.2.2,n6.2)) λd=>let n38:=d.2.2.2;let bk:=n38.2.2.2.2;let n29:=bk.2.2.2.2;ret (Sum.inl (wI (d.1.2.1+1),d.2.1,d.2.2.1,n38.1,n38.2.1,n38.2.2.1,n38.2.2.2.1,bk.1,bk.2.1,bk.2.2.1,bk.2.2.2.1,n29.1,n29.2.1,n29.2.2.1,n29.2.2.2.1,n29.2.2.2.2.2))) no) no) no) no) no) no) no) no)))))) no) (ret (Sum.inr ((d.1,y0),d.2)))
def Eg:=bD (Ef uh wP) 2000
def jq:=qs (st (pu (cu dy (us 2 (cu Xj (cu L3 (us 3 (cu aQi (us 190 nil))))))) (pl (c aAR (c ky (c kD (c lH (cd HF λb4=>(cd HG λb5=>(cd HH λb6=>(cd B5 λb7=>(cd xY λb8=>(cd Jl λb9=>(c jL (c adg (c ov (cu nO (cu nO (cu nO (cu nO (cu nO (cu nO (cu nO (c C5 (c aLK (c ov (c (so (cl (gs b4.b.1 aA) nil)) (c (so (cl (gs b5.b.1 aA) nil)) (c (so (cl (gs b6.b.1 aA) nil)) (c (so (cl (gs b7.b.1 aA) nil)) (c (so (cl (gs b8.b.1 aA) nil)) (c (so (cl (gs b9.b.1 aA) nil)) L5))))))))))))))))))))))))))))) To)))
def acN:=qs aMm
def acO:=qs aMl
abbrev mV:=((Bool×NI×Int×Int)×(Ty7×Bool×(NI×NI)×Nat×afV×Int×Lx×Bool×Bool×Bool×Int×Int×Int×afU×Nat)×vO×Jk×LY×bH×bH×bH×bH×bH×bH×Jf×qP×BZ×aNC×BZ×eB×eB×eB×eB×eB×eB×Nat×NI×NI×NI×NI×NI×NI×NI×NI×NI×NI×NI)⊕(Bool×(Ty7×Bool×NI×(NI×NI)×Nat×afV×Int×Lx×Bool×Bool×Bool×Int×Int×Int×afU×Nat)×vO×Jk×LY×bH×bH×bH×bH×bH×bH×Jf×qP×BZ×aAt×BZ×eB×eB×eB×eB×eB×eB×Nat×NI×NI×NI×NI×NI×NI×NI×NI×NI×NI×NI)
def PI {ρ:Type}(x:mV)(K:AX->St->Option ρ):Option ρ:=(Sum.elim (λd=>K .nrm (acN.em (d.1,(d.2.1.1,d.2.1.2.1,d.1.2.1,d.2.1.b.1,d.2.1.b.2.1,d.2.1.c.1,d.1.1,d.2.1.c.2),d.b.1,d.b.2.1,d.c.1,d.c.2.1,d.c.b.1,d.c.b.2.1,d.d.1,d.d.2.1,d.d.b.1,d.d.b.2.1,d.d.c.1,d.d.c.2.1,(d.1.b.1,d.d.c.b.1),d.d.c.b.2.1,(d.c.2.1.b.1,d.e.1),(d.c.b.1.b.1,d.e.2.1),(d.c.b.2.1.b.1,d.e.b.1),(d.d.1.b.1,d.e.b.2.1),(d.d.2.1.b.1,d.e.c.1),(d.d.b.1.b.1,d.e.c.2.1),d.e.c.b))) (λd=>K .nrm (acO.em (d.1,(d.2.1.1,d.2.1.2.1,d.2.1.b.1,d.2.1.b.2.1,d.2.1.c.1,d.2.1.c.2.1,d.1,d.2.1.c.b),d.b.1,d.b.2.1,d.c.1,d.c.2.1,d.c.b.1,d.c.b.2.1,d.d.1,d.d.2.1,d.d.b.1,d.d.b.2.1,d.d.c.1,d.d.c.2.1,d.d.c.b.1,d.d.c.b.2.1,(d.c.2.1.b.1,d.e.1),(d.c.b.1.b.1,d.e.2.1),(d.c.b.2.1.b.1,d.e.b.1),(d.d.1.b.1,d.e.b.2.1),(d.d.2.1.b.1,d.e.c.1),(d.d.b.1.b.1,d.e.c.2.1),d.e.c.b)))) x
def Eh (aH3:aeA)(Xe:vf)(aEs:aah)(l_5:LT jo mT)(d:jq.B):Pg mV:=let n27:=d.2.2;let bA:=d.1.2.2;let ba:=n27.2.2;let n5:=bA.2.2.2.2;let n16:=n5.2.2.2.2;let n4:=ba.2.2;let n15:=n4.2.2;let n6:=n15.2.2.2;let n2:=n16.2.2.2.2.2;let n19:=n2.1.1.2;let bk:=n2.1.2;let n1:=n6.2.2.2;let n23:=n1.2.2.2;let n20:=n1.2.1.2;let n17:=n1.1.2.2.2;let n9:=n20.2.2.2;let n25:=n9.2.2.2;let n8:=n23.2.2.2;let n28:=n8.2.2;let n3:=n28.2.2;let n21:=n3.2.2;let n7:=n21.2.2.2;let n22:=n7.2.2;let y0:=Int.ofNat n2.2;let y1:=1+n2.2;let y2:=Nat.beq ba.1.2.2.1 ba.1.2.2.1;let y3:=Nat.beq ba.2.1.2.2.1 ba.2.1.2.2.1;let y4:=Nat.beq n4.1.2.2.1 n4.1.2.2.1;let y5:=Nat.beq n4.2.1.2.2.1 n4.2.1.2.2.1;let y6:=Nat.beq n15.1.2.2.1 n15.1.2.2.1;let y7:=Nat.beq n15.2.1.2.2.1 n15.2.1.2.2.1;opt (aH3 (bA.2.2.2.1,n1.1.1,n1.1.2.1,(n1.1.2.2.1,n17.1,n17.2.1,n17.2.2.1,n17.2.2.2.1,n17.2.2.2.2.1),n17.2.2.2.2.2)) λaj=>ae (decide (y0>0)) (ae (Nat.beq n2.2 n2.2) (ae (Nat.beq n6.1.2.2 n6.1.2.2) (opt (Xe ((n2.2,true),n6.1,d.1.2.1,(Jj 0 n20),λj=>n28.2.1 (0+j),λj=>n3.1 (0+j),λj=>n3.2.1 (0+j),λj=>n21.1 (0+j),λj=>n21.2.1 (0+j),λj=>n21.2.2.1 (0+j),λj=>n7.1 (0+j),λj=>n7.2.1 (0+j),λj=>n22.1 (0+j),λj=>n22.2.1 (0+j),λj=>n22.2.2 (0+j))) λaF=>let n24:=aF.2.2.2;let bl:=aF.2.1;let aS:=n24.2.2.2;let n26:=aS.2.2.2;let pA:=bl*11+0;ae (true&&Nat.beq pA (n6.1.2.2*11)&&true) (ae (true&&Nat.ble (0+pA) (n28.1*11+0)) (ae (Nat.ble (y1*80) 140737488355328) (ae (Nat.beq y1 y1) (opt (aEs y1 aF.1 (λj=>bif Nat.blt j 1 then bif Nat.beq j 0 then n2.1.1.1 else n2.1.1.1 else n20.1 (0+(j-1))) (λj=>bif Nat.blt j 1 then bif Nat.beq j 0 then n19.1 else n19.1 else n20.2.1 (0+(j-1))) (λj=>bif Nat.blt j 1 then bif Nat.beq j 0 then n19.2.1 else n19.2.1 else n20.2.2.1 (0+(j-1))) (λj=>bif Nat.blt j 1 then bif Nat.beq j 0 then n19.2.2 else n19.2.2 else n9.1 (0+(j-1))) (λj=>bif Nat.blt j 1 then bif Nat.beq j 0 then bk.1.1 else bk.1.1 else n9.2.1 (0+(j-1))) (λj=>bif Nat.blt j 1 then bif Nat.beq j 0 then bk.1.2.1 else bk.1.2.1 else n9.2.2.1 (0+(j-1))) (λj=>bif Nat.blt j 1 then bif Nat.beq j 0 then bk.1.2.2 else bk.1.2.2 else n25.1 (0+(j-1))) (λj=>bif Nat.blt j 1 then bif Nat.beq j 0 then bk.2.1 else bk.2.1 else n25.2.1 (0+(j-1))) (λj=>bif Nat.blt j 1 then bif Nat.beq j 0 then bk.2.2.1 else bk.2.2.1 else n25.2.2.1 (0+(j-1))) (λj=>bif Nat.blt j 1 then bif Nat.beq j 0 then bk.2.2.2 else bk.2.2.2 else n25.2.2.2 (0+(j-1))) true) λbx=>let n18:=bx.1.2.2.2;ae y2 (ae y3 (ae y4 (ae y5 (ae y6 (ae y7 (opt (l_5 ((d.1.1,bx.2,bA.1,bA.2.1,bA.2.2.1,aj.1,n5.1,n5.2.1,n5.2.2.1,n5.2.2.2.1,n16.1,n16.2.1,n16.2.2.1,n16.2.2.2.1,wI (n16.2.2.2.2.1+y0),((bx.1.1,bx.1.2.1,bx.1.2.2.1,n18.1),(n18.2.1,n18.2.2.1,n18.2.2.2.1),n18.2.2.2.2),n2.2),d.2.1,n27.1,n27.2.1,ba.1,ba.2.1,n4.1,n4.2.1,n15.1,n15.2.1,n15.2.2.1,n6.1,n6.2.1,n6.2.2.1,n1.2.1,n1.2.2.1,n23.1,n23.2.1,n23.2.2.1,n8.1,n8.2.1,n28.1,λj=>bif true&&Nat.blt j (0+bl) then aF.2.2.1 j else n28.2.1 j,λj=>bif true&&Nat.blt j (0+bl) then n24.1 j else n3.1 j,λj=>bif true&&Nat.blt j (0+bl) then n24.2.1 j else n3.2.1 j,λj=>bif true&&Nat.blt j (0+bl) then n24.2.2.1 j else n21.1 j,λj=>bif true&&Nat.blt j (0+bl) then aS.1 j else n21.2.1 j,λj=>bif true&&Nat.blt j (0+bl) then aS.2.1 j else n21.2.2.1 j,λj=>bif true&&Nat.blt j (0+bl) then aS.2.2.1 j else n7.1 j,λj=>bif true&&Nat.blt j (0+bl) then n26.1 j else n7.2.1 j,λj=>bif true&&Nat.blt j (0+bl) then n26.2.1 j else n22.1 j,λj=>bif true&&Nat.blt j (0+bl) then n26.2.2.1 j else n22.2.1 j,λj=>bif true&&Nat.blt j (0+bl) then n26.2.2.2 j else n22.2.2 j)) λx=>sum x (λd=>ret (Sum.inl d)) λd=>ret (Sum.inr d)) no) no) no) no) no) no) no) no) no) no) no) no) (ae y2 (ae y3 (ae y4 (ae y5 (ae y6 (ae y7 (opt (l_5 ((d.1.1,d.1.2.1,bA.1,bA.2.1,bA.2.2.1,aj.1,n5),d.2.1,n27.1,n27.2.1,ba.1,ba.2.1,n4.1,n4.2.1,n15.1,n15.2.1,n15.2.2.1,n6.1,n6.2.1,n6.2.2.1,n1.2)) λx=>sum x (λd=>ret (Sum.inl d)) λd=>ret (Sum.inr d)) no) no) no) no) no) no)
def wR (d:jq.B):Option mV:=(Eh J' kX Gq wQ d).val
def jr:=qs (st (pu aRD (pl (c auO (c ky (c kD (c lH (cd (so apL) λb4=>(cd HF λb5=>(cd HG λb6=>(cd HH λb7=>(cd B5 λb8=>(cd xY λb9=>(c jL (c auN (c ov (cu nO (cu nO (cu nO (cu nO (cu nO (cu nO (cu nO (c C5 (c (so aRG) (c (so (cl (gs b4.b.1 aA) nil)) (c (so (cl (gs b5.b.1 aA) nil)) (c (so (cl (gs b6.b.1 aA) nil)) (c (so (cl (gs b7.b.1 aA) nil)) (c (so (cl (gs b8.b.1 aA) nil)) (c (so (cl (gs b9.b.1 aA) nil)) L5)))))))))))))))))))))))))))) To)))
def acP:=qs aMm
def acQ:=qs aMl
abbrev mW:=((Bool×NI×Int×Int)×(Ty7×Bool×(NI×NI)×Nat×afV×Int×Lx×Bool×Bool×Bool×Int×Int×Int×afU×Nat)×vO×Jk×LY×bH×bH×bH×bH×bH×bH×Jf×qP×BZ×aNC×BZ×eB×eB×eB×eB×eB×eB×Nat×NI×NI×NI×NI×NI×NI×NI×NI×NI×NI×NI)⊕(Bool×(Ty7×Bool×NI×(NI×NI)×Nat×afV×Int×Lx×Bool×Bool×Bool×Int×Int×Int×afU×Nat)×vO×Jk×LY×bH×bH×bH×bH×bH×bH×Jf×qP×BZ×aAt×BZ×eB×eB×eB×eB×eB×eB×Nat×NI×NI×NI×NI×NI×NI×NI×NI×NI×NI×NI)
def PJ {ρ:Type}(x:mW)(K:AX->St->Option ρ):Option ρ:=(Sum.elim (λd=>K .nrm (acP.em (d.1,(d.2.1.1,d.2.1.2.1,d.1.2.1,d.2.1.b.1,d.2.1.b.2.1,d.2.1.c.1,d.1.1,d.2.1.c.2),d.b.1,d.b.2.1,d.c.1,d.c.2.1,d.c.b.1,d.c.b.2.1,d.d.1,d.d.2.1,d.d.b.1,d.d.b.2.1,d.d.c.1,d.d.c.2.1,(d.1.b.1,d.d.c.b.1),d.d.c.b.2.1,(d.c.2.1.b.1,d.e.1),(d.c.b.1.b.1,d.e.2.1),(d.c.b.2.1.b.1,d.e.b.1),(d.d.1.b.1,d.e.b.2.1),(d.d.2.1.b.1,d.e.c.1),(d.d.b.1.b.1,d.e.c.2.1),d.e.c.b))) (λd=>K .nrm (acQ.em (d.1,(d.2.1.1,d.2.1.2.1,d.2.1.b.1,d.2.1.b.2.1,d.2.1.c.1,d.2.1.c.2.1,d.1,d.2.1.c.b),d.b.1,d.b.2.1,d.c.1,d.c.2.1,d.c.b.1,d.c.b.2.1,d.d.1,d.d.2.1,d.d.b.1,d.d.b.2.1,d.d.c.1,d.d.c.2.1,d.d.c.b.1,d.d.c.b.2.1,(d.c.2.1.b.1,d.e.1),(d.c.b.1.b.1,d.e.2.1),(d.c.b.2.1.b.1,d.e.b.1),(d.d.1.b.1,d.e.b.2.1),(d.d.2.1.b.1,d.e.c.1),(d.d.b.1.b.1,d.e.c.2.1),d.e.c.b)))) x
def Ei (Gn:LT fC mS)(dA:LT fD mU)(l_4:LT jq mV)(d:jr.B):Pg mW:=let n9:=d.2.2.2.2;let n4:=n9.2.2;let aS:=n4.2.2.2;let n17:=aS.2.2.2;ae (Nat.beq n9.1.2.2.1 n9.1.2.2.1) (ae (Nat.beq n9.2.1.2.2.1 n9.2.1.2.2.1) (ae (Nat.beq n4.1.2.2.1 n4.1.2.2.1) (ae (Nat.beq n4.2.1.2.2.1 n4.2.1.2.2.1) (ae (Nat.beq n4.2.2.1.2.2.1 n4.2.2.1.2.2.1) (ae (Nat.beq aS.1.2.2.1 aS.1.2.2.1) (opt (dA (0,d.1,d.2.1,d.2.2.1,d.2.2.2.1,n9.1,n9.2.1,n4.1,n4.2.1,n4.2.2.1,aS.1,aS.2.1,aS.2.2.1,n17.1,n17.2.1,(0,n17.2.2.1),n17.2.2.2)) λd=>let n16:=d.2.1.1.2.2.2.2.2.2.2.2;let n15:=d.2.1.2.2.2.2.2.2.2.2.2;let ba:=d.2.2.2.2;let n3:=ba.2.2;let n7:=n3.2.2.2;let n18:=n7.2.2.2;ae (Nat.beq ba.2.1.2.2.1 ba.2.1.2.2.1) (ae (Nat.beq n3.1.2.2.1 n3.1.2.2.1) (ae (Nat.beq n3.2.1.2.2.1 n3.2.1.2.2.1) (ae (Nat.beq n3.2.2.1.2.2.1 n3.2.2.1.2.2.1) (ae (Nat.beq n7.1.2.2.1 n7.1.2.2.1) (ae (Nat.beq n7.2.1.2.2.1 n7.2.1.2.2.1) (opt (Gn (0,d.2.1,d.2.2.1,d.2.2.2.1,ba.1,ba.2.1,n3.1,n3.2.1,n3.2.2.1,n7.1,n7.2.1,n7.2.2.1,n18.1,n18.2.1,n18.2.2.1,(n15.1,n15.2.1,false,false,false,false,false,false,n16.1,n16.2.2.1),n18.2.2.2)) λd=>let bA:=d.2.2;let bl:=d.2.1.2.2.2.2.2.2.2.2.2.2.2;let n5:=bA.2.2.2;let bk:=n5.2.2;let n1:=bk.2.2;let n19:=n1.2.2;let n6:=n19.2.2;let n20:=n6.2.2;let n2:=n20.1.2;let n21:=n2.2.2;let n8:=n21.2.2;let y0:=Nat.beq n5.1.2.2.1 n5.1.2.2.1;let y1:=Nat.beq n5.2.1.2.2.1 n5.2.1.2.2.1;let y2:=Nat.beq bk.1.2.2.1 bk.1.2.2.1;let y3:=Nat.beq bk.2.1.2.2.1 bk.2.1.2.2.1;let y4:=Nat.beq n1.1.2.2.1 n1.1.2.2.1;let y5:=Nat.beq n1.2.1.2.2.1 n1.2.1.2.2.1;ae bl.1 (ae y0 (ae y1 (ae y2 (ae y3 (ae y4 (ae y5 (opt (l_4 (d.2.1,bA.1,bA.2.1,bA.2.2.1,n5.1,n5.2.1,bk.1,bk.2.1,n1.1,n1.2.1,n19.1,n19.2.1,n6.1,n6.2.1,(n20.1.1,n2.1,n2.2.1,n21.1,n21.2.1,n8.1,n8.2.1,n8.2.2.1,wI (n6.2.1.1-bl.2.1),n8.2.2.2),n20.2)) λx=>sum x (λd=>ret (Sum.inl d)) λd=>ret (Sum.inr d)) no) no) no) no) no) no) (ae y0 (ae y1 (ae y2 (ae y3 (ae y4 (ae y5 (opt (l_4 (d.2.1,bA.1,bA.2.1,bA.2.2.1,n5.1,n5.2.1,bk.1,bk.2.1,n1.1,n1.2.1,n19.1,n19.2.1,n6.1,n6.2.1,(n20.1.1,n2.1,n2.2.1,n21.1,n21.2.1,n8.1,n8.2.1,n8.2.2.1,1125899906842624,n8.2.2.2),n20.2)) λx=>sum x (λd=>ret (Sum.inl d)) λd=>ret (Sum.inr d)) no) no) no) no) no) no)) no) no) no) no) no) no) no) no) no) no) no) no
def qN (d:jr.B):Option mW:=(Ei Ed Eg wR d).val
def PK:Hd:=⟨7,(1::2::rg 5 194 []),[(15,[]),(16,[]),(17,[]),(18,[]),(19,[]),(20,[]),(21,[]),(0,[])]⟩
def PM:Hd:=⟨24,(1::2::5::6::7::rg 9 190 []),[(15,[]),(16,[]),(17,[]),(18,[]),(19,[]),(20,[]),(21,[]),(0,[])]⟩
def PN:Hd:=⟨29,(1::2::rg 5 194 []),[(15,[]),(16,[]),(17,[]),(18,[]),(19,[]),(20,[]),(21,[]),(0,[])]⟩
def AW (am9:FY)(aKC:alI)(BY:N8)(l_3:LT jr mW)(x:ph.B):Pg uC:=let yS:=x.1.1;let n19:=x.2.1.2;let n18:=x.2.2;let n39:=n18.2.2.1;let n8:=x.1.2.2;let n38:=n8.1.2;let n6:=n18.2.2.2;let n36:=n6.2.1;let n24:=n6.2.2.1;let n4:=n19.2.2.2;let n26:=n4.2.2;let n7:=n26.2.2.2;let wL:=n7.2.2;let n20:=wL.2.2.2;let n3:=n6.2.2.2;let n37:=n3.2.1;let n15:=n3.2.2;let n25:=n15.2.2.1;let n5:=n15.2.2.2.2;let n16:=n5.2.2.2;let Cn:=n16.2.2;let n2:=(yS,x.1.2.1,n8.1.1,n38.1,n38.2,n8.2);let n1:=(n20.2.2,n15.2.2.2.1);let y0:=Nat.beq n6.1.2.2.1 n6.1.2.2.1;let y1:=Nat.beq n36.2.2.1 n36.2.2.1;let y2:=Nat.beq n24.2.2.1 n24.2.2.1;let y3:=Nat.beq n3.1.2.2.1 n3.1.2.2.1;let y4:=Nat.beq n37.2.2.1 n37.2.2.1;let y5:=Nat.beq n15.1.2.2.1 n15.1.2.2.1;ae (n4.2.1.1==0) (ae (Nat.beq n4.1 n4.1) (ae y0 (ae y1 (ae y2 (ae y3 (ae y4 (ae y5 (ae (Nat.beq n25.2.2 n25.2.2) (opt (am9 (x.1,(x.2.1.1,n19.1,n19.2.1,n19.2.2.1,n4.1,n4.2.1,n26.1,n26.2.1,n26.2.2.1,n7.1,n7.2.1,wL.1,wL.2.1,yS,n20.1,n20.2.1,0),n18.1,n18.2.1,n39,n6.1,n36,n24,n3.1,n37,n15.1,n15.2.1,n25,(λx=>0,λx=>0,λx=>0,λx=>0,λx=>0,λx=>0,λx=>0,λx=>0,λx=>0,λx=>0),n5)) λd=>sm d (λd=>ae y0 (ae y1 (ae y2 (ae y3 (ae y4 (ae y5 (opt (l_3 (d.1,n18.1,n18.2.1,(n4.1,n39),n6.1,n36,n24,n3.1,n37,n15.1,n15.2.1,d.2,n1,n2,(λx=>0,λx=>0,λx=>0,λx=>0,λx=>0,λx=>0,λx=>0,λx=>0,λx=>0,λx=>0),n5.1,n5.2.1,n5.2.2.1,n16.1,n16.2.1,Cn.1,n25.2.2,Cn.2)) λx=>sum x (λd=>let n27:=d.2.1.2;let n9:=d.2.2.2.2.2.2;let n28:=n9.2.2.2;ret (((d.2.1.1,n27.1,d.1.2.1,n27.2.1,n27.2.2.1,n27.2.2.2.1,d.1.1,n27.2.2.2.2),d.2.2.2.2.2.1,n9.1,n9.2.1,n9.2.2.1,n28.1,n28.2.1,n28.2.2.1,n28.2.2.2.1),n28.2.2.2.2.2.2)) λd=>let n21:=d.2.1.2.2;let aS:=d.2.2.2.2.2.2;let n29:=aS.2.2.2;ret (((d.2.1.1,d.2.1.2.1,n21.1,n21.2.1,n21.2.2.1,n21.2.2.2.1,d.1,n21.2.2.2.2),d.2.2.2.2.2.1,aS.1,aS.2.1,aS.2.2.1,n29.1,n29.2.1,n29.2.2.1,n29.2.2.2.1),n29.2.2.2.2.2.2)) no) no) no) no) no) no) (λd=>let n17:=d.1.1.2.2.2;ae y0 (ae y1 (ae y2 (ae y3 (ae y4 (ae y5 (opt (l_3 ((d.1.1.1,d.1.1.2.1,d.1.1.2.2.1,n17.1,n17.2.1,n17.2.2.1,true,n17.2.2.2.1,n17.2.2.2.2.1,true,n17.2.2.2.2.2),n18.1,n18.2.1,(n4.1,n39),n6.1,n36,n24,n3.1,n37,n15.1,n15.2.1,d.1.2,n1,n2,(λx=>0,λx=>0,λx=>0,λx=>0,λx=>0,λx=>0,λx=>0,λx=>0,λx=>0,λx=>0),n5.1,n5.2.1,n5.2.2.1,n16.1,n16.2.1,Cn.1,d.2)) λx=>sum x (λd=>let n30:=d.2.1.2;let ba:=d.2.2.2.2.2.2;let n31:=ba.2.2.2;ret (((d.2.1.1,n30.1,d.1.2.1,n30.2.1,n30.2.2.1,n30.2.2.2.1,d.1.1,n30.2.2.2.2),d.2.2.2.2.2.1,ba.1,ba.2.1,ba.2.2.1,n31.1,n31.2.1,n31.2.2.1,n31.2.2.2.1),n31.2.2.2.2.2.2)) λd=>let n22:=d.2.1.2.2;let bk:=d.2.2.2.2.2.2;let n32:=bk.2.2.2;ret (((d.2.1.1,d.2.1.2.1,n22.1,n22.2.1,n22.2.2.1,n22.2.2.2.1,d.1,n22.2.2.2.2),d.2.2.2.2.2.1,bk.1,bk.2.1,bk.2.2.1,n32.1,n32.2.1,n32.2.2.1,n32.2.2.2.1),n32.2.2.2.2.2.2)) no) no) no) no) no) no)) no) no) no) no) no) no) no) no) (opt (aKC n19.2.2.1.1 n19.2.2.1.2 n19.2.1 yS x.1.2.1 n8.1.1 n38.1 n38.2 n8.2.1 n8.2.2.1 n8.2.2.2 x.2.1.1.2.2.2.2.2.2.1 n19.1) λd=>opt (BY n19.2.1 yS x.1.2.1 n8.1.1 n38.1 n38.2 n8.2.1 n8.2.2.1 n8.2.2.2 d.2) λaj=>ae y0 (ae y1 (ae y2 (ae y3 (ae y4 (ae y5 (opt (l_3 ((x.2.1.1,aj.2,aj.1,d.1,n4.1,n4.2.1,n26.1,n26.2.1,n26.2.2.1,n7.1,n7.2.1,wL.1,wL.2.1,yS,n20.1,n20.2.1,0),n18.1,n18.2.1,(n4.1,n39),n6.1,n36,n24,n3.1,n37,n15.1,n15.2.1,n25,n1,n2,(λx=>0,λx=>0,λx=>0,λx=>0,λx=>0,λx=>0,λx=>0,λx=>0,λx=>0,λx=>0),n5.1,n5.2.1,n5.2.2.1,n16.1,n16.2.1,Cn.1,n25.2.2,Cn.2)) λx=>sum x (λd=>let n33:=d.2.1.2;let bl:=d.2.2.2.2.2.2;let n34:=bl.2.2.2;ret (((d.2.1.1,n33.1,d.1.2.1,n33.2.1,n33.2.2.1,n33.2.2.2.1,d.1.1,n33.2.2.2.2),d.2.2.2.2.2.1,bl.1,bl.2.1,bl.2.2.1,n34.1,n34.2.1,n34.2.2.1,n34.2.2.2.1),n34.2.2.2.2.2.2)) λd=>let n23:=d.2.1.2.2;let bA:=d.2.2.2.2.2.2;let n35:=bA.2.2.2;ret (((d.2.1.1,d.2.1.2.1,n23.1,n23.2.1,n23.2.2.1,n23.2.2.2.1,d.1,n23.2.2.2.2),d.2.2.2.2.2.1,bA.1,bA.2.1,bA.2.2.1,n35.1,n35.2.1,n35.2.2.1,n35.2.2.2.1),n35.2.2.2.2.2.2)) no) no) no) no) no) no)
def uD:=λx=>(AW rQ I5 sW qN x).val
abbrev iO:=FY×alI×N8×H9×Le×xq×aeA×vf×aah×sM×(LT eM kn)×(LT fC mS)×(LT jo mT)×(LT fD mU)×(LT jq mV)×(LT jr mW)
def ko (p:iO):KK:=⟨[Sb p.1,ayN p.2.1,Z5 p.b.1,V6 p.b.2.1,YG p.c.1,GB p.c.2.1,asM p.c.b.1,E8 p.c.b.2.1,aoD p.d.1,CS p.d.2.1],⟨[⟨8,(1::2::rg 5 54 (rg 60 139 [])),[(15,[]),(16,[]),(17,[]),(18,[]),(19,[]),(20,[]),(21,[]),(0,[])]⟩,⟨11,(1::2::rg 6 53 (rg 60 10 (rg 73 126 []))),[(15,[]),(16,[]),(17,[]),(18,[]),(19,[]),(20,[]),(21,[]),(0,[])]⟩,⟨18,(1::2::5::6::7::rg 9 92 (rg 102 97 [])),[(15,[]),(16,[]),(17,[]),(18,[]),(19,[]),(20,[]),(21,[]),(0,[])]⟩],[fg 11 20 eM PE p.d.b.1,fg 18 20 fC PF p.d.b.2.1,fg 8 20 fD PH p.d.c.2.1],(rg 4 6 [19,18,17,16,15,14,13,11,0,10]),[⟨PK,fg 7 20 jr PJ p.d.c.b.2⟩,⟨PM,fg 24 20 jq PI p.d.c.b.1⟩,⟨PN,fg 29 20 jo PG p.d.c.1⟩],(some ⟨0,(rg 0 199 []),[]⟩)⟩,20,40⟩
theorem ah1 (p:iO):LI (ko p) 11 eM PE (Eb p.c.1):=λ_ d c K=>by kernel_rfl
theorem ah2 (p:iO):LI (ko p) 18 fC PF (Ec p.c.2.1):=λ_ d c K=>by kernel_rfl
theorem ah3 (p:iO):JI (ko p) 29 jo PG (Ee p.d.2.1):=λ_ d K=>by kernel_rfl
theorem ah4 (p:iO):LI (ko p) 8 fD PH (Ef p.b.2.1 p.d.b.1):=λ_ d c K=>by kernel_rfl
theorem ah5 (p:iO):JI (ko p) 24 jq PI (Eh p.c.b.1 p.c.b.2.1 p.d.1 p.d.c.1):=λ_ d K=>by kernel_rfl
theorem ah6 (p:iO):JI (ko p) 7 jr PJ (Ei p.d.b.2.1 p.d.c.2.1 p.d.c.b.1):=λ_ d K=>by kernel_rfl
theorem aq4 (p:iO):D2 (ko p) ph Ww λb=>AW p.1 p.2.1 p.b.1 p.d.c.b.2 b:=λb=>by kernel_rfl
abbrev kq:iO:=(rQ,I5,sW,uh,wO,lS,J',kX,Gq,jI,wP,Ed,wQ,Eg,wR,qN)
theorem aq5 [ax]:SC (Wx uD):=sc (kS (k:=ko kq) (.c am6 (.c aKu (.c aot (.c aqN (.c aud (.c aaF (.c aHc (.c WY (.c aEc (.c Ta (.nil _))))))))))) [8,11,18] [7,24,29] ⟨kL (ah4 kq),⟨kL (ah1 kq),⟨kL (ah2 kq),trivial⟩⟩⟩ ⟨kJ PK (ah6 kq),⟨kJ PM (ah5 kq),⟨kJ PN (ah3 kq),trivial⟩⟩⟩ (aq4 kq))
end Go.Proofs.YtcmfbkneahoonaaGreat
set_option linter.unusedSimpArgs false
namespace Go.Proofs.YtcmfbkneahoonaaGreat
open Go.Ab Go.Ab.Pg
theorem aPO (J:Int)(w d:eM.B)(hd:0<=d.1.2.2.2.2∧d.1.2.2.2.2<=d.1.2.2.2.1∧d.1.2.2.2.1=((d.1.2.2.1:Nat):Int)∧d.1.2.2.2.1<=64∧((d.2.1.2.2.2.2.2.2.2.2.2.2.2.2.2.2.2.2:Nat):Int)+3*(d.1.2.2.2.1-d.1.2.2.2.2)<=J∧J<=90000∧aX d.1.1 6=true∧d.1.2.1=w.1.2.1∧d.2.2.2.2.2.1=w.2.2.2.2.2.1∧d.2.2.2.2.2.2.1=w.2.2.2.2.2.2.1∧d.2.2.2.2.2.2.2.1=w.2.2.2.2.2.2.2.1∧d.2.2.2.2.2.2.2.2.1=w.2.2.2.2.2.2.2.2.1∧d.2.2.2.2.2.2.2.2.2.1=w.2.2.2.2.2.2.2.2.2.1∧d.2.2.2.2.2.2.2.2.2.2.1=w.2.2.2.2.2.2.2.2.2.2.1∧d.2.2.2.2.2.2.2.2.2.2.2.2.1=w.2.2.2.2.2.2.2.2.2.2.2.2.1∧d.2.2.2.2.2.2.2.2.2.2.2.2.2.2.2.2.2.2.2.2.2.2.2.1=w.2.2.2.2.2.2.2.2.2.2.2.2.2.2.2.2.2.2.2.2.2.2.2.1∧d.2.1.2.2.2.2.1=w.2.1.2.2.2.2.1):Ok (wP d) (λx:kn=>((x.2.1.2.2.2.2.2.2.2.2.2.2.2.2.2.2.2.2:Nat):Int)<=J∧x.1.2.1=w.1.2.1∧x.2.2.2.2.2.1=w.2.2.2.2.2.1∧x.2.2.2.2.2.2.1=w.2.2.2.2.2.2.1∧x.2.2.2.2.2.2.2.1=w.2.2.2.2.2.2.2.1∧x.2.2.2.2.2.2.2.2.1=w.2.2.2.2.2.2.2.2.1∧x.2.2.2.2.2.2.2.2.2.1=w.2.2.2.2.2.2.2.2.2.1∧x.2.2.2.2.2.2.2.2.2.2.1=w.2.2.2.2.2.2.2.2.2.2.1∧x.2.2.2.2.2.2.2.2.2.2.2.2.1=w.2.2.2.2.2.2.2.2.2.2.2.2.1∧x.2.2.2.2.2.2.2.2.2.2.2.2.2.2.2.2.2.2.2.2.2.2.2.1=w.2.2.2.2.2.2.2.2.2.2.2.2.2.2.2.2.2.2.2.2.2.2.2.1∧x.2.1.2.2.2.2.1=w.2.1.2.2.2.2.1):=
 aZ (s:=_) (λd:eM.B=>0<=d.1.2.2.2.2∧d.1.2.2.2.2<=d.1.2.2.2.1∧d.1.2.2.2.1=((d.1.2.2.1:Nat):Int)∧d.1.2.2.2.1<=64∧((d.2.1.2.2.2.2.2.2.2.2.2.2.2.2.2.2.2.2:Nat):Int)+3*(d.1.2.2.2.1-d.1.2.2.2.2)<=J∧J<=90000∧aX d.1.1 6=true∧d.1.2.1=w.1.2.1∧d.2.2.2.2.2.1=w.2.2.2.2.2.1∧d.2.2.2.2.2.2.1=w.2.2.2.2.2.2.1∧d.2.2.2.2.2.2.2.1=w.2.2.2.2.2.2.2.1∧d.2.2.2.2.2.2.2.2.1=w.2.2.2.2.2.2.2.2.1∧d.2.2.2.2.2.2.2.2.2.1=w.2.2.2.2.2.2.2.2.2.1∧d.2.2.2.2.2.2.2.2.2.2.1=w.2.2.2.2.2.2.2.2.2.2.1∧d.2.2.2.2.2.2.2.2.2.2.2.2.1=w.2.2.2.2.2.2.2.2.2.2.2.2.1∧d.2.2.2.2.2.2.2.2.2.2.2.2.2.2.2.2.2.2.2.2.2.2.2.1=w.2.2.2.2.2.2.2.2.2.2.2.2.2.2.2.2.2.2.2.2.2.2.2.1∧d.2.1.2.2.2.2.1=w.2.1.2.2.2.2.1) (λd:eM.B=>Int.toNat (d.1.2.2.2.1-d.1.2.2.2.2)) (λx:kn=>((x.2.1.2.2.2.2.2.2.2.2.2.2.2.2.2.2.2.2:Nat):Int)<=J∧x.1.2.1=w.1.2.1∧x.2.2.2.2.2.1=w.2.2.2.2.2.1∧x.2.2.2.2.2.2.1=w.2.2.2.2.2.2.1∧x.2.2.2.2.2.2.2.1=w.2.2.2.2.2.2.2.1∧x.2.2.2.2.2.2.2.2.1=w.2.2.2.2.2.2.2.2.1∧x.2.2.2.2.2.2.2.2.2.1=w.2.2.2.2.2.2.2.2.2.1∧x.2.2.2.2.2.2.2.2.2.2.1=w.2.2.2.2.2.2.2.2.2.2.1∧x.2.2.2.2.2.2.2.2.2.2.2.2.1=w.2.2.2.2.2.2.2.2.2.2.2.2.1∧x.2.2.2.2.2.2.2.2.2.2.2.2.2.2.2.2.2.2.2.2.2.2.2.1=w.2.2.2.2.2.2.2.2.2.2.2.2.2.2.2.2.2.2.2.2.2.2.2.1∧x.2.1.2.2.2.2.1=w.2.1.2.2.2.2.1) (λd hd=>by
  obtain⟨i0,i1,i2,i3,i4,i5,i6,i7,ik⟩:=hd
  have hw:wI (d.1.2.2.2.2+1)=d.1.2.2.2.2+1:=bd (by omega) (by omega)
  unfold Eb
  dsimp only
  rw[aL]
  refine⟨λh=> ?_,λ_=>by rw[av];exact⟨by show((d.2.1.2.2.2.2.2.2.2.2.2.2.2.2.2.2.2.2:Nat):Int)<=J;omega,i7,ik⟩⟩
  have h:=of_decide_eq_true h
  have r0:aX d.1.2.2.2.2 d.1.2.2.1=true:=by rw[bn];omega
  rw[r0,hw]
  simp only[aM]
  repeat' (first
   |rw[aC]
   |(with_reducible refine ay (aUQ _ ?_ ?_) λe _ he=> ?_)
   |(rw[oA];refine⟨λa ha=> ?_,λa ha=> ?_⟩))
  ·exact i6
  ·show d.2.1.2.2.2.2.2.2.2.2.2.2.2.2.2.2.2.2<=90000
   omega
  ·rw[ha] at he
   have he:a.1.2.2.2.2.2.2.2.2.2.2.2.2.2.2.2.2<=d.2.1.2.2.2.2.2.2.2.2.2.2.2.2.2.2.2.2+3∧a.1.2.2.2.2.1=d.2.1.2.2.2.2.1:=he
   rw[av]
   exact⟨⟨by show 0<=d.1.2.2.2.2+1;omega,by show d.1.2.2.2.2+1<=d.1.2.2.2.1;omega,i2,i3,by show((a.1.2.2.2.2.2.2.2.2.2.2.2.2.2.2.2.2:Nat):Int)+3*(d.1.2.2.2.1-(d.1.2.2.2.2+1))<=J;omega,i5,i6,i7,ik.1,ik.2.1,ik.2.2.1,ik.2.2.2.1,ik.2.2.2.2.1,ik.2.2.2.2.2.1,ik.2.2.2.2.2.2.1,ik.2.2.2.2.2.2.2.1,he.2.trans ik.2.2.2.2.2.2.2.2⟩,by show Int.toNat (d.1.2.2.2.1-(d.1.2.2.2.2+1))<_;omega⟩
  ·rw[ha] at he
   have he:a.1.1.2.2.2.2.2.2.2.2.2.2.2.2.2.2.2.2<=d.2.1.2.2.2.2.2.2.2.2.2.2.2.2.2.2.2.2+3∧a.1.1.2.2.2.2.1=d.2.1.2.2.2.2.1:=he
   rw[av]
   exact⟨⟨by show 0<=d.1.2.2.2.2+1;omega,by show d.1.2.2.2.2+1<=d.1.2.2.2.1;omega,i2,i3,by show((a.1.1.2.2.2.2.2.2.2.2.2.2.2.2.2.2.2.2:Nat):Int)+3*(d.1.2.2.2.1-(d.1.2.2.2.2+1))<=J;omega,i5,i6,i7,ik.1,ik.2.1,ik.2.2.1,ik.2.2.2.1,ik.2.2.2.2.1,ik.2.2.2.2.2.1,ik.2.2.2.2.2.2.1,ik.2.2.2.2.2.2.2.1,he.2.trans ik.2.2.2.2.2.2.2.2⟩,by show Int.toNat (d.1.2.2.2.1-(d.1.2.2.2.2+1))<_;omega⟩) 2000 d hd (by omega)
theorem aUS (d:eM.B)(a:d.1.2.2.2.2=0)(b:d.1.2.2.2.1=((d.1.2.2.1:Nat):Int))(c:d.1.2.2.1<=64)(k:aX d.1.1 6=true)(j:d.2.1.2.2.2.2.2.2.2.2.2.2.2.2.2.2.2.2<=80000):Ok (wP d) (λx:kn=>x.2.1.2.2.2.2.2.2.2.2.2.2.2.2.2.2.2.2<=d.2.1.2.2.2.2.2.2.2.2.2.2.2.2.2.2.2.2+3*d.1.2.2.1∧x.1.2.1=d.1.2.1∧x.2.2.2.2.2.1=d.2.2.2.2.2.1∧x.2.2.2.2.2.2.1=d.2.2.2.2.2.2.1∧x.2.2.2.2.2.2.2.1=d.2.2.2.2.2.2.2.1∧x.2.2.2.2.2.2.2.2.1=d.2.2.2.2.2.2.2.2.1∧x.2.2.2.2.2.2.2.2.2.1=d.2.2.2.2.2.2.2.2.2.1∧x.2.2.2.2.2.2.2.2.2.2.1=d.2.2.2.2.2.2.2.2.2.2.1∧x.2.2.2.2.2.2.2.2.2.2.2.2.1=d.2.2.2.2.2.2.2.2.2.2.2.2.1∧x.2.2.2.2.2.2.2.2.2.2.2.2.2.2.2.2.2.2.2.2.2.2.2.1=d.2.2.2.2.2.2.2.2.2.2.2.2.2.2.2.2.2.2.2.2.2.2.2.1∧x.2.1.2.2.2.2.1=d.2.1.2.2.2.2.1):=
 Ok.mono (aPO (((d.2.1.2.2.2.2.2.2.2.2.2.2.2.2.2.2.2.2:Nat):Int)+3*d.1.2.2.2.1) d d ⟨by omega,by omega,b,by omega,by omega,by omega,k,rfl,rfl,rfl,rfl,rfl,rfl,rfl,rfl,rfl,rfl⟩) λx hx=>⟨by have h:=hx.1;omega,hx.2⟩
theorem aPP (w d:fD.B)(W5:w.2.2.2.2.2.1.2.2.1<=64)(W6:w.2.2.2.2.2.2.1.2.2.1<=64)(W7:w.2.2.2.2.2.2.2.1.2.2.1<=64)(W8:w.2.2.2.2.2.2.2.2.1.2.2.1<=64)(W9:w.2.2.2.2.2.2.2.2.2.1.2.2.1<=64)(W10:w.2.2.2.2.2.2.2.2.2.2.1.2.2.1<=64)(hd:0<=d.1∧d.1<=6∧((d.2.1.2.2.2.2.2.2.2.2.2.2.2.2.2.2.2.2:Nat):Int)+192*(6-d.1)<=1152∧d.2.2.2.2.2.1.2.1=w.2.2.2.2.2.1.2.1∧d.2.2.2.2.2.1.2.2.1<=w.2.2.2.2.2.1.2.2.1∧d.2.2.2.2.2.2.1.2.1=w.2.2.2.2.2.2.1.2.1∧d.2.2.2.2.2.2.1.2.2.1<=w.2.2.2.2.2.2.1.2.2.1∧d.2.2.2.2.2.2.2.1.2.1=w.2.2.2.2.2.2.2.1.2.1∧d.2.2.2.2.2.2.2.1.2.2.1<=w.2.2.2.2.2.2.2.1.2.2.1∧d.2.2.2.2.2.2.2.2.1.2.1=w.2.2.2.2.2.2.2.2.1.2.1∧d.2.2.2.2.2.2.2.2.1.2.2.1<=w.2.2.2.2.2.2.2.2.1.2.2.1∧d.2.2.2.2.2.2.2.2.2.1.2.1=w.2.2.2.2.2.2.2.2.2.1.2.1∧d.2.2.2.2.2.2.2.2.2.1.2.2.1<=w.2.2.2.2.2.2.2.2.2.1.2.2.1∧d.2.2.2.2.2.2.2.2.2.2.1.2.1=w.2.2.2.2.2.2.2.2.2.2.1.2.1∧d.2.2.2.2.2.2.2.2.2.2.1.2.2.1<=w.2.2.2.2.2.2.2.2.2.2.1.2.2.1∧d.2.2.2.2.2.2.2.2.2.2.2.2.1=w.2.2.2.2.2.2.2.2.2.2.2.2.1∧d.2.2.2.2.2.2.2.2.2.2.2.2.2.2.2.2.2.2.2.2.2.2.1=w.2.2.2.2.2.2.2.2.2.2.2.2.2.2.2.2.2.2.2.2.2.2.1∧d.2.1.2.2.2.2.1=w.2.1.2.2.2.2.1):Ok (Eg d) (λx:mU=>x.2.1.2.2.2.2.2.2.2.2.2.2.2.2.2.2.2.2<=1152∧x.2.2.2.2.2.1.2.1=w.2.2.2.2.2.1.2.1∧x.2.2.2.2.2.1.2.2.1<=w.2.2.2.2.2.1.2.2.1∧x.2.2.2.2.2.2.1.2.1=w.2.2.2.2.2.2.1.2.1∧x.2.2.2.2.2.2.1.2.2.1<=w.2.2.2.2.2.2.1.2.2.1∧x.2.2.2.2.2.2.2.1.2.1=w.2.2.2.2.2.2.2.1.2.1∧x.2.2.2.2.2.2.2.1.2.2.1<=w.2.2.2.2.2.2.2.1.2.2.1∧x.2.2.2.2.2.2.2.2.1.2.1=w.2.2.2.2.2.2.2.2.1.2.1∧x.2.2.2.2.2.2.2.2.1.2.2.1<=w.2.2.2.2.2.2.2.2.1.2.2.1∧x.2.2.2.2.2.2.2.2.2.1.2.1=w.2.2.2.2.2.2.2.2.2.1.2.1∧x.2.2.2.2.2.2.2.2.2.1.2.2.1<=w.2.2.2.2.2.2.2.2.2.1.2.2.1∧x.2.2.2.2.2.2.2.2.2.2.1.2.1=w.2.2.2.2.2.2.2.2.2.2.1.2.1∧x.2.2.2.2.2.2.2.2.2.2.1.2.2.1<=w.2.2.2.2.2.2.2.2.2.2.1.2.2.1∧x.2.2.2.2.2.2.2.2.2.2.2.2.1=w.2.2.2.2.2.2.2.2.2.2.2.2.1∧x.2.2.2.2.2.2.2.2.2.2.2.2.2.2.2.2.2.2.2.2.2.2.1=w.2.2.2.2.2.2.2.2.2.2.2.2.2.2.2.2.2.2.2.2.2.2.1∧x.2.1.2.2.2.2.1=w.2.1.2.2.2.2.1):=
 aZ (s:=_) (λd:fD.B=>0<=d.1∧d.1<=6∧((d.2.1.2.2.2.2.2.2.2.2.2.2.2.2.2.2.2.2:Nat):Int)+192*(6-d.1)<=1152∧d.2.2.2.2.2.1.2.1=w.2.2.2.2.2.1.2.1∧d.2.2.2.2.2.1.2.2.1<=w.2.2.2.2.2.1.2.2.1∧d.2.2.2.2.2.2.1.2.1=w.2.2.2.2.2.2.1.2.1∧d.2.2.2.2.2.2.1.2.2.1<=w.2.2.2.2.2.2.1.2.2.1∧d.2.2.2.2.2.2.2.1.2.1=w.2.2.2.2.2.2.2.1.2.1∧d.2.2.2.2.2.2.2.1.2.2.1<=w.2.2.2.2.2.2.2.1.2.2.1∧d.2.2.2.2.2.2.2.2.1.2.1=w.2.2.2.2.2.2.2.2.1.2.1∧d.2.2.2.2.2.2.2.2.1.2.2.1<=w.2.2.2.2.2.2.2.2.1.2.2.1∧d.2.2.2.2.2.2.2.2.2.1.2.1=w.2.2.2.2.2.2.2.2.2.1.2.1∧d.2.2.2.2.2.2.2.2.2.1.2.2.1<=w.2.2.2.2.2.2.2.2.2.1.2.2.1∧d.2.2.2.2.2.2.2.2.2.2.1.2.1=w.2.2.2.2.2.2.2.2.2.2.1.2.1∧d.2.2.2.2.2.2.2.2.2.2.1.2.2.1<=w.2.2.2.2.2.2.2.2.2.2.1.2.2.1∧d.2.2.2.2.2.2.2.2.2.2.2.2.1=w.2.2.2.2.2.2.2.2.2.2.2.2.1∧d.2.2.2.2.2.2.2.2.2.2.2.2.2.2.2.2.2.2.2.2.2.2.1=w.2.2.2.2.2.2.2.2.2.2.2.2.2.2.2.2.2.2.2.2.2.2.1∧d.2.1.2.2.2.2.1=w.2.1.2.2.2.2.1) (λd:fD.B=>Int.toNat (6-d.1)) (λx:mU=>x.2.1.2.2.2.2.2.2.2.2.2.2.2.2.2.2.2.2<=1152∧x.2.2.2.2.2.1.2.1=w.2.2.2.2.2.1.2.1∧x.2.2.2.2.2.1.2.2.1<=w.2.2.2.2.2.1.2.2.1∧x.2.2.2.2.2.2.1.2.1=w.2.2.2.2.2.2.1.2.1∧x.2.2.2.2.2.2.1.2.2.1<=w.2.2.2.2.2.2.1.2.2.1∧x.2.2.2.2.2.2.2.1.2.1=w.2.2.2.2.2.2.2.1.2.1∧x.2.2.2.2.2.2.2.1.2.2.1<=w.2.2.2.2.2.2.2.1.2.2.1∧x.2.2.2.2.2.2.2.2.1.2.1=w.2.2.2.2.2.2.2.2.1.2.1∧x.2.2.2.2.2.2.2.2.1.2.2.1<=w.2.2.2.2.2.2.2.2.1.2.2.1∧x.2.2.2.2.2.2.2.2.2.1.2.1=w.2.2.2.2.2.2.2.2.2.1.2.1∧x.2.2.2.2.2.2.2.2.2.1.2.2.1<=w.2.2.2.2.2.2.2.2.2.1.2.2.1∧x.2.2.2.2.2.2.2.2.2.2.1.2.1=w.2.2.2.2.2.2.2.2.2.2.1.2.1∧x.2.2.2.2.2.2.2.2.2.2.1.2.2.1<=w.2.2.2.2.2.2.2.2.2.2.1.2.2.1∧x.2.2.2.2.2.2.2.2.2.2.2.2.1=w.2.2.2.2.2.2.2.2.2.2.2.2.1∧x.2.2.2.2.2.2.2.2.2.2.2.2.2.2.2.2.2.2.2.2.2.2.1=w.2.2.2.2.2.2.2.2.2.2.2.2.2.2.2.2.2.2.2.2.2.2.1∧x.2.1.2.2.2.2.1=w.2.1.2.2.2.2.1) (λd hd=>by
  obtain⟨i0,i1,i2,s5,l5,s6,l6,s7,l7,s8,l8,s9,l9,s10,EY,i12,i22,i4⟩:=hd
  have hw:wI (d.1+1)=d.1+1:=bd (by omega) (by omega)
  unfold Ef
  dsimp only
  rw[aL]
  refine⟨λh=> ?_,λ_=>by rw[av];exact⟨by show d.2.1.2.2.2.2.2.2.2.2.2.2.2.2.2.2.2.2<=1152;omega,s5,l5,s6,l6,s7,l7,s8,l8,s9,l9,s10,EY,i12,i22,i4⟩⟩
  have h:=of_decide_eq_true h
  have r0:aX d.1 6=true:=by rw[bn];omega
  rw[r0]
  simp only[aM]
  repeat' (first
   |rw[aC]
   |(with_reducible refine ay (aPH _ ?_) λe _ he=> ?_)
   |(with_reducible refine ay (aUS _ ?_ ?_ ?_ ?_ ?_) λy _ hy=> ?_)
   |(rw[aL];refine⟨λc=> ?_,λc=> ?_⟩))
  all_goals first
   |(rw[av]
     obtain⟨p1,p2,p3⟩:=he
     obtain⟨y1,y2,hb5,hb6,hb7,hb8,hb9,aVS,h12,h23,h4⟩:=hy
     have p1':e.1<=64:=by first|exact Nat.le_trans p1 (Nat.le_trans l5 W5)|exact Nat.le_trans p1 (Nat.le_trans l6 W6)|exact Nat.le_trans p1 (Nat.le_trans l7 W7)|exact Nat.le_trans p1 (Nat.le_trans l8 W8)|exact Nat.le_trans p1 (Nat.le_trans l9 W9)|exact Nat.le_trans p1 (Nat.le_trans EY W10)
     have y2:y.1.2.1=d.1:=y2
     have y1:y.2.1.2.2.2.2.2.2.2.2.2.2.2.2.2.2.2.2<=d.2.1.2.2.2.2.2.2.2.2.2.2.2.2.2.2.2.2+3*e.1:=y1
     have hw':wI (y.1.2.1+1)=d.1+1:=by rw[y2];exact hw
     exact⟨⟨by show 0<=wI (y.1.2.1+1);omega,by show wI (y.1.2.1+1)<=6;omega,by show((y.2.1.2.2.2.2.2.2.2.2.2.2.2.2.2.2.2.2:Nat):Int)+192*(6-wI (y.1.2.1+1))<=1152;omega,
    (by show y.2.2.2.2.2.1.2.1=w.2.2.2.2.2.1.2.1;rw[hb5];first|exact s5|exact p3.trans s5),
    (by show y.2.2.2.2.2.1.2.2.1<=w.2.2.2.2.2.1.2.2.1;rw[hb5];first|exact l5|exact Nat.le_trans p2 l5),
    (by show y.2.2.2.2.2.2.1.2.1=w.2.2.2.2.2.2.1.2.1;rw[hb6];first|exact s6|exact p3.trans s6),
    (by show y.2.2.2.2.2.2.1.2.2.1<=w.2.2.2.2.2.2.1.2.2.1;rw[hb6];first|exact l6|exact Nat.le_trans p2 l6),
    (by show y.2.2.2.2.2.2.2.1.2.1=w.2.2.2.2.2.2.2.1.2.1;rw[hb7];first|exact s7|exact p3.trans s7),
    (by show y.2.2.2.2.2.2.2.1.2.2.1<=w.2.2.2.2.2.2.2.1.2.2.1;rw[hb7];first|exact l7|exact Nat.le_trans p2 l7),
    (by show y.2.2.2.2.2.2.2.2.1.2.1=w.2.2.2.2.2.2.2.2.1.2.1;rw[hb8];first|exact s8|exact p3.trans s8),
    (by show y.2.2.2.2.2.2.2.2.1.2.2.1<=w.2.2.2.2.2.2.2.2.1.2.2.1;rw[hb8];first|exact l8|exact Nat.le_trans p2 l8),
    (by show y.2.2.2.2.2.2.2.2.2.1.2.1=w.2.2.2.2.2.2.2.2.2.1.2.1;rw[hb9];first|exact s9|exact p3.trans s9),
    (by show y.2.2.2.2.2.2.2.2.2.1.2.2.1<=w.2.2.2.2.2.2.2.2.2.1.2.2.1;rw[hb9];first|exact l9|exact Nat.le_trans p2 l9),
    (by show y.2.2.2.2.2.2.2.2.2.2.1.2.1=w.2.2.2.2.2.2.2.2.2.2.1.2.1;rw[aVS];first|exact s10|exact p3.trans s10),
    (by show y.2.2.2.2.2.2.2.2.2.2.1.2.2.1<=w.2.2.2.2.2.2.2.2.2.2.1.2.2.1;rw[aVS];first|exact EY|exact Nat.le_trans p2 EY),
    h12.trans i12,h23.trans i22,h4.trans i4⟩,by show Int.toNat (6-wI (y.1.2.1+1))<_;omega⟩)
   |rfl
   |exact r0
   |(show d.2.1.2.2.2.2.2.2.2.2.2.2.2.2.2.2.2.2<=80000
     omega)
   |(obtain⟨p1,p2,p3⟩:=he
     first|exact Nat.le_trans p1 (Nat.le_trans l5 W5)|exact Nat.le_trans p1 (Nat.le_trans l6 W6)|exact Nat.le_trans p1 (Nat.le_trans l7 W7)|exact Nat.le_trans p1 (Nat.le_trans l8 W8)|exact Nat.le_trans p1 (Nat.le_trans l9 W9)|exact Nat.le_trans p1 (Nat.le_trans EY W10))
   |exact Nat.le_trans l5 (Nat.le_trans W5 (by decide))
   |exact Nat.le_trans l6 (Nat.le_trans W6 (by decide))
   |exact Nat.le_trans l7 (Nat.le_trans W7 (by decide))
   |exact Nat.le_trans l8 (Nat.le_trans W8 (by decide))
   |exact Nat.le_trans l9 (Nat.le_trans W9 (by decide))
   |exact Nat.le_trans EY (Nat.le_trans W10 (by decide))) 2000 d hd (by omega)
theorem aPQ (w d:fC.B)(hd:0<=d.1∧d.1<=6∧d.2.1=w.2.1∧d.2.2.2.2.2.1=w.2.2.2.2.2.1∧d.2.2.2.2.2.2.1=w.2.2.2.2.2.2.1∧d.2.2.2.2.2.2.2.1=w.2.2.2.2.2.2.2.1∧d.2.2.2.2.2.2.2.2.1=w.2.2.2.2.2.2.2.2.1∧d.2.2.2.2.2.2.2.2.2.1=w.2.2.2.2.2.2.2.2.2.1∧d.2.2.2.2.2.2.2.2.2.2.1=w.2.2.2.2.2.2.2.2.2.2.1∧d.2.2.2.2.2.2.2.2.2.2.2.2.1=w.2.2.2.2.2.2.2.2.2.2.2.2.1∧d.2.2.2.2.2.2.2.2.2.2.2.2.2.2.2.2.2.2.2.2.2.2.2.1=w.2.2.2.2.2.2.2.2.2.2.2.2.2.2.2.2.2.2.2.2.2.2.2.1):Ok (Ed d) (λx:mS=>x.2.1=w.2.1∧x.2.2.2.2.2.1=w.2.2.2.2.2.1∧x.2.2.2.2.2.2.1=w.2.2.2.2.2.2.1∧x.2.2.2.2.2.2.2.1=w.2.2.2.2.2.2.2.1∧x.2.2.2.2.2.2.2.2.1=w.2.2.2.2.2.2.2.2.1∧x.2.2.2.2.2.2.2.2.2.1=w.2.2.2.2.2.2.2.2.2.1∧x.2.2.2.2.2.2.2.2.2.2.1=w.2.2.2.2.2.2.2.2.2.2.1∧x.2.2.2.2.2.2.2.2.2.2.2.2.1=w.2.2.2.2.2.2.2.2.2.2.2.2.1∧x.2.2.2.2.2.2.2.2.2.2.2.2.2.2.2.2.2.2.2.2.2.2.2.1=w.2.2.2.2.2.2.2.2.2.2.2.2.2.2.2.2.2.2.2.2.2.2.2.1):=
 aZ (s:=_) (λd:fC.B=>0<=d.1∧d.1<=6∧d.2.1=w.2.1∧d.2.2.2.2.2.1=w.2.2.2.2.2.1∧d.2.2.2.2.2.2.1=w.2.2.2.2.2.2.1∧d.2.2.2.2.2.2.2.1=w.2.2.2.2.2.2.2.1∧d.2.2.2.2.2.2.2.2.1=w.2.2.2.2.2.2.2.2.1∧d.2.2.2.2.2.2.2.2.2.1=w.2.2.2.2.2.2.2.2.2.1∧d.2.2.2.2.2.2.2.2.2.2.1=w.2.2.2.2.2.2.2.2.2.2.1∧d.2.2.2.2.2.2.2.2.2.2.2.2.1=w.2.2.2.2.2.2.2.2.2.2.2.2.1∧d.2.2.2.2.2.2.2.2.2.2.2.2.2.2.2.2.2.2.2.2.2.2.2.1=w.2.2.2.2.2.2.2.2.2.2.2.2.2.2.2.2.2.2.2.2.2.2.2.1) (λd:fC.B=>Int.toNat (6-d.1)) (λx:mS=>x.2.1=w.2.1∧x.2.2.2.2.2.1=w.2.2.2.2.2.1∧x.2.2.2.2.2.2.1=w.2.2.2.2.2.2.1∧x.2.2.2.2.2.2.2.1=w.2.2.2.2.2.2.2.1∧x.2.2.2.2.2.2.2.2.1=w.2.2.2.2.2.2.2.2.1∧x.2.2.2.2.2.2.2.2.2.1=w.2.2.2.2.2.2.2.2.2.1∧x.2.2.2.2.2.2.2.2.2.2.1=w.2.2.2.2.2.2.2.2.2.2.1∧x.2.2.2.2.2.2.2.2.2.2.2.2.1=w.2.2.2.2.2.2.2.2.2.2.2.2.1∧x.2.2.2.2.2.2.2.2.2.2.2.2.2.2.2.2.2.2.2.2.2.2.2.1=w.2.2.2.2.2.2.2.2.2.2.2.2.2.2.2.2.2.2.2.2.2.2.2.1) (λd hd=>by
  obtain⟨i0,i1,ik⟩:=hd
  have hw:wI (d.1+1)=d.1+1:=bd (by omega) (by omega)
  unfold Ec
  dsimp only
  rw[aL]
  refine⟨λh=> ?_,λ_=>by rw[av];exact ik⟩
  have h:=of_decide_eq_true h
  have r0:aX d.1 6=true:=by rw[bn];omega
  rw[r0,hw,bz]
  intro _ _
  rw[aC]
  repeat' (first
   |(rw[aL];refine⟨λc=> ?_,λc=> ?_⟩))
  all_goals
   rw[av]
   exact⟨⟨by show 0<=d.1+1;omega,by show d.1+1<=6;omega,ik⟩,by show Int.toNat (6-(d.1+1))<_;omega⟩) 2000 d hd (by omega)
theorem aOx (d:jo.B)(h:d.2.2.2.2.2.2.2.2.2.2.2.1.2.2<=1999)(k:d.2.2.2.2.2.2.2.2.2.2.2.1.2.2<=d.2.2.2.2.2.2.2.2.2.2.2.2.2.2.2.2.2.2.2.2.2.1):Ok (wQ d) (λx:mT=>match x with|.inl e=>e.2.2.2.2.2.1=d.2.2.2.2.1∧e.2.2.2.2.2.2.1=d.2.2.2.2.2.1∧e.2.2.2.2.2.2.2.1=d.2.2.2.2.2.2.1∧e.2.2.2.2.2.2.2.2.1=d.2.2.2.2.2.2.2.1∧e.2.2.2.2.2.2.2.2.2.1=d.2.2.2.2.2.2.2.2.1∧e.2.2.2.2.2.2.2.2.2.2.1=d.2.2.2.2.2.2.2.2.2.1∧e.2.2.2.2.2.2.2.2.2.2.2.2.1=d.2.2.2.2.2.2.2.2.2.2.2.1∧e.2.1.2.2.2.1=d.1.2.2.2.2.1|.inr e=>e.2.2.2.2.2.1=d.2.2.2.2.1∧e.2.2.2.2.2.2.1=d.2.2.2.2.2.1∧e.2.2.2.2.2.2.2.1=d.2.2.2.2.2.2.1∧e.2.2.2.2.2.2.2.2.1=d.2.2.2.2.2.2.2.1∧e.2.2.2.2.2.2.2.2.2.1=d.2.2.2.2.2.2.2.2.1∧e.2.2.2.2.2.2.2.2.2.2.1=d.2.2.2.2.2.2.2.2.2.1∧e.2.2.2.2.2.2.2.2.2.2.2.2.1=d.2.2.2.2.2.2.2.2.2.2.2.1∧e.2.1.2.2.2.2.1=d.1.2.2.2.2.1):=by
 unfold wQ Ee
 try dsimp only
 show PQ _ _
 rw[aL]
 refine⟨λ_=> ?_,λ_=>by rw[av];exact⟨rfl,rfl,rfl,rfl,rfl,rfl,rfl,rfl⟩⟩
 rw[aM,aC]
 with_reducible refine ay (aKz _ ?_) λe _ he=> ?_
 ·exact h
 have he:e.2.2.1=d.2.2.2.2.2.2.2.2.2.2.2.1.2.2:=he
 have b1:(true&&Nat.beq (e.2.2.1*11+0) (d.2.2.2.2.2.2.2.2.2.2.2.1.2.2*11)&&true)=true:=by rw[he,Nat.add_zero,aM];rfl
 have b2:(true&&Nat.ble (0+(e.2.2.1*11+0)) (d.2.2.2.2.2.2.2.2.2.2.2.2.2.2.2.2.2.2.2.2.2.1*11+0))=true:=by rw[he,Bool.true_and,bL];omega
 try dsimp only
 rw[b1,b2,aC,aC,av]
 exact⟨rfl,rfl,rfl,rfl,rfl,rfl,rfl,rfl⟩
theorem aOy (d:jq.B)(j:d.1.2.2.2.2.2.2.2.2.2.2.2.2.2.2.2.2<=1800)(h:d.2.2.2.2.2.2.2.2.2.2.2.1.2.2<=1999)(k:d.2.2.2.2.2.2.2.2.2.2.2.1.2.2<=d.2.2.2.2.2.2.2.2.2.2.2.2.2.2.2.2.2.2.2.2.2.2.1):Ok (wR d) (λx:mV=>match x with|.inl e=>e.2.2.2.2.2.1=d.2.2.2.2.1∧e.2.2.2.2.2.2.1=d.2.2.2.2.2.1∧e.2.2.2.2.2.2.2.1=d.2.2.2.2.2.2.1∧e.2.2.2.2.2.2.2.2.1=d.2.2.2.2.2.2.2.1∧e.2.2.2.2.2.2.2.2.2.1=d.2.2.2.2.2.2.2.2.1∧e.2.2.2.2.2.2.2.2.2.2.1=d.2.2.2.2.2.2.2.2.2.1∧e.2.2.2.2.2.2.2.2.2.2.2.2.1=d.2.2.2.2.2.2.2.2.2.2.2.1∧e.2.1.2.2.2.1=d.1.2.2.2.2.1|.inr e=>e.2.2.2.2.2.1=d.2.2.2.2.1∧e.2.2.2.2.2.2.1=d.2.2.2.2.2.1∧e.2.2.2.2.2.2.2.1=d.2.2.2.2.2.2.1∧e.2.2.2.2.2.2.2.2.1=d.2.2.2.2.2.2.2.1∧e.2.2.2.2.2.2.2.2.2.1=d.2.2.2.2.2.2.2.2.1∧e.2.2.2.2.2.2.2.2.2.2.1=d.2.2.2.2.2.2.2.2.2.1∧e.2.2.2.2.2.2.2.2.2.2.2.2.1=d.2.2.2.2.2.2.2.2.2.2.2.1∧e.2.1.2.2.2.2.1=d.1.2.2.2.2.1):=by
 unfold wR Eh
 try dsimp only
 show PQ _ _
 simp only[aM]
 have b3:Nat.ble ((1+d.1.2.2.2.2.2.2.2.2.2.2.2.2.2.2.2.2)*80) 140737488355328=true:=by rw[bL];omega
 rw[bz]
 intro _ _
 rw[aL]
 refine⟨λ_=> ?_,λ_=> ?_⟩
 ·rw[aC,aC]
  with_reducible refine ay (aPF _ ?_ ?_) λe _ he=> ?_
  ·show d.1.2.2.2.2.2.2.2.2.2.2.2.2.2.2.2.2<=1999
   omega
  ·exact h
  have he:e.2.1=d.2.2.2.2.2.2.2.2.2.2.2.1.2.2:=he
  have b1:(true&&Nat.beq (e.2.1*11+0) (d.2.2.2.2.2.2.2.2.2.2.2.1.2.2*11)&&true)=true:=by rw[he,Nat.add_zero,aM];rfl
  have b2:(true&&Nat.ble (0+(e.2.1*11+0)) (d.2.2.2.2.2.2.2.2.2.2.2.2.2.2.2.2.2.2.2.2.2.2.1*11+0))=true:=by rw[he,Bool.true_and,bL];omega
  rw[b1,b2,b3,aC,aC,aC,aC]
  with_reducible refine ay (bo.Ok (Q:=λ_=>True) (aEh _ _ _ _ _ _ _ _ _ _ _ _ _ ?_) λ_ _=>trivial) λe3 _ _=> ?_
  ·omega
  simp only[aC]
  with_reducible refine ay (aOx _ ?_ ?_) λy _ hy=> ?_
  ·exact h
  ·exact k
  rw[oE]
  refine⟨λa ha=> ?_,λa ha=> ?_⟩
  ·rw[av];rw[ha] at hy;exact hy
  ·rw[av];rw[ha] at hy;exact hy
 ·simp only[aC]
  with_reducible refine ay (aOx _ ?_ ?_) λy _ hy=> ?_
  ·exact h
  ·exact k
  rw[oE]
  refine⟨λa ha=> ?_,λa ha=> ?_⟩
  ·rw[av];rw[ha] at hy;exact hy
  ·rw[av];rw[ha] at hy;exact hy
theorem aH4 (d:jr.B)(j:d.1.2.2.2.2.2.2.2.2.2.2.2.2.2.2.2.2=0)(l4:d.2.2.2.2.1.2.2.1<=64)(l5:d.2.2.2.2.2.1.2.2.1<=64)(l6:d.2.2.2.2.2.2.1.2.2.1<=64)(l7:d.2.2.2.2.2.2.2.1.2.2.1<=64)(l8:d.2.2.2.2.2.2.2.2.1.2.2.1<=64)(l9:d.2.2.2.2.2.2.2.2.2.1.2.2.1<=64)(h:d.2.2.2.2.2.2.2.2.2.2.2.1.2.2<=1999)(k:d.2.2.2.2.2.2.2.2.2.2.2.1.2.2<=d.2.2.2.2.2.2.2.2.2.2.2.2.2.2.2.2.2.2.2.2.2.1):Ok (qN d) (λx:mW=>match x with|.inl e=>e.2.2.2.2.2.1.2.1=d.2.2.2.2.1.2.1∧e.2.2.2.2.2.1.2.2.1<=d.2.2.2.2.1.2.2.1∧e.2.2.2.2.2.2.1.2.1=d.2.2.2.2.2.1.2.1∧e.2.2.2.2.2.2.1.2.2.1<=d.2.2.2.2.2.1.2.2.1∧e.2.2.2.2.2.2.2.1.2.1=d.2.2.2.2.2.2.1.2.1∧e.2.2.2.2.2.2.2.1.2.2.1<=d.2.2.2.2.2.2.1.2.2.1∧e.2.2.2.2.2.2.2.2.1.2.1=d.2.2.2.2.2.2.2.1.2.1∧e.2.2.2.2.2.2.2.2.1.2.2.1<=d.2.2.2.2.2.2.2.1.2.2.1∧e.2.2.2.2.2.2.2.2.2.1.2.1=d.2.2.2.2.2.2.2.2.1.2.1∧e.2.2.2.2.2.2.2.2.2.1.2.2.1<=d.2.2.2.2.2.2.2.2.1.2.2.1∧e.2.2.2.2.2.2.2.2.2.2.1.2.1=d.2.2.2.2.2.2.2.2.2.1.2.1∧e.2.2.2.2.2.2.2.2.2.2.1.2.2.1<=d.2.2.2.2.2.2.2.2.2.1.2.2.1∧e.2.2.2.2.2.2.2.2.2.2.2.2.1=d.2.2.2.2.2.2.2.2.2.2.2.1∧e.2.1.2.2.2.1=d.1.2.2.2.2.1|.inr e=>e.2.2.2.2.2.1.2.1=d.2.2.2.2.1.2.1∧e.2.2.2.2.2.1.2.2.1<=d.2.2.2.2.1.2.2.1∧e.2.2.2.2.2.2.1.2.1=d.2.2.2.2.2.1.2.1∧e.2.2.2.2.2.2.1.2.2.1<=d.2.2.2.2.2.1.2.2.1∧e.2.2.2.2.2.2.2.1.2.1=d.2.2.2.2.2.2.1.2.1∧e.2.2.2.2.2.2.2.1.2.2.1<=d.2.2.2.2.2.2.1.2.2.1∧e.2.2.2.2.2.2.2.2.1.2.1=d.2.2.2.2.2.2.2.1.2.1∧e.2.2.2.2.2.2.2.2.1.2.2.1<=d.2.2.2.2.2.2.2.1.2.2.1∧e.2.2.2.2.2.2.2.2.2.1.2.1=d.2.2.2.2.2.2.2.2.1.2.1∧e.2.2.2.2.2.2.2.2.2.1.2.2.1<=d.2.2.2.2.2.2.2.2.1.2.2.1∧e.2.2.2.2.2.2.2.2.2.2.1.2.1=d.2.2.2.2.2.2.2.2.2.1.2.1∧e.2.2.2.2.2.2.2.2.2.2.1.2.2.1<=d.2.2.2.2.2.2.2.2.2.1.2.2.1∧e.2.2.2.2.2.2.2.2.2.2.2.2.1=d.2.2.2.2.2.2.2.2.2.2.2.1∧e.2.1.2.2.2.2.1=d.1.2.2.2.2.1):=by
 unfold qN Ei
 try dsimp only
 show PQ _ _
 simp only[aM]
 simp only[aC]
 refine ay (aPP _ _ l4 l5 l6 l7 l8 l9 ⟨Int.le_refl 0,(show(0:Int)<=6 by decide),(by show((d.1.2.2.2.2.2.2.2.2.2.2.2.2.2.2.2.2:Nat):Int)+192*(6-0)<=1152;omega),rfl,Nat.le_refl _,rfl,Nat.le_refl _,rfl,Nat.le_refl _,rfl,Nat.le_refl _,rfl,Nat.le_refl _,rfl,Nat.le_refl _,rfl,rfl,rfl⟩) λa _ ha=> ?_
 obtain⟨u1,u5,v5,u6,v6,u7,v7,u8,v8,u9,v9,u10,v10,u12,u22,u4⟩:=ha
 simp only[aC]
 refine ay (aPQ _ _ ⟨Int.le_refl 0,(show(0:Int)<=6 by decide),rfl,rfl,rfl,rfl,rfl,rfl,rfl,rfl,rfl⟩) λb _ hb=> ?_
 obtain⟨g1,g5,g6,g7,g8,g9,g10,g12,g23⟩:=hb
 rw[aL]
 refine⟨λ_=> ?_,λ_=> ?_⟩
 ·simp only[aC]
  with_reducible refine ay (aOy _ ?_ ?_ ?_) λy _ hy=> ?_
  ·show b.2.1.2.2.2.2.2.2.2.2.2.2.2.2.2.2.2.2<=1800
   rw[g1];exact Nat.le_trans u1 (by decide)
  ·show b.2.2.2.2.2.2.2.2.2.2.2.2.1.2.2<=1999
   rw[g12];show a.2.2.2.2.2.2.2.2.2.2.2.2.1.2.2<=1999;rw[u12];exact h
  ·show b.2.2.2.2.2.2.2.2.2.2.2.2.1.2.2<=b.2.2.2.2.2.2.2.2.2.2.2.2.2.2.2.2.2.2.2.2.2.2.2.1
   rw[g12,g23];show a.2.2.2.2.2.2.2.2.2.2.2.2.1.2.2<=a.2.2.2.2.2.2.2.2.2.2.2.2.2.2.2.2.2.2.2.2.2.2.1;rw[u12,u22];exact k
  rw[oE]
  refine⟨λa1 ha=> ?_,λa1 ha=> ?_⟩
  ·rw[av];rw[ha] at hy
   obtain⟨q5,q6,q7,q8,q9,q10,Rx,q4⟩:=hy
   exact⟨(by rw[q5];show b.2.2.2.2.2.1.2.1=_;rw[g5];exact u5),(by rw[q5];show b.2.2.2.2.2.1.2.2.1<=_;rw[g5];exact v5),(by rw[q6];show b.2.2.2.2.2.2.1.2.1=_;rw[g6];exact u6),(by rw[q6];show b.2.2.2.2.2.2.1.2.2.1<=_;rw[g6];exact v6),(by rw[q7];show b.2.2.2.2.2.2.2.1.2.1=_;rw[g7];exact u7),(by rw[q7];show b.2.2.2.2.2.2.2.1.2.2.1<=_;rw[g7];exact v7),(by rw[q8];show b.2.2.2.2.2.2.2.2.1.2.1=_;rw[g8];exact u8),(by rw[q8];show b.2.2.2.2.2.2.2.2.1.2.2.1<=_;rw[g8];exact v8),(by rw[q9];show b.2.2.2.2.2.2.2.2.2.1.2.1=_;rw[g9];exact u9),(by rw[q9];show b.2.2.2.2.2.2.2.2.2.1.2.2.1<=_;rw[g9];exact v9),(by rw[q10];show b.2.2.2.2.2.2.2.2.2.2.1.2.1=_;rw[g10];exact u10),(by rw[q10];show b.2.2.2.2.2.2.2.2.2.2.1.2.2.1<=_;rw[g10];exact v10),Rx.trans (g12.trans u12),q4.trans ((congrArg (λz=>z.2.2.2.2.1) g1).trans u4)⟩
  ·rw[av];rw[ha] at hy
   obtain⟨q5,q6,q7,q8,q9,q10,Rx,q4⟩:=hy
   exact⟨(by rw[q5];show b.2.2.2.2.2.1.2.1=_;rw[g5];exact u5),(by rw[q5];show b.2.2.2.2.2.1.2.2.1<=_;rw[g5];exact v5),(by rw[q6];show b.2.2.2.2.2.2.1.2.1=_;rw[g6];exact u6),(by rw[q6];show b.2.2.2.2.2.2.1.2.2.1<=_;rw[g6];exact v6),(by rw[q7];show b.2.2.2.2.2.2.2.1.2.1=_;rw[g7];exact u7),(by rw[q7];show b.2.2.2.2.2.2.2.1.2.2.1<=_;rw[g7];exact v7),(by rw[q8];show b.2.2.2.2.2.2.2.2.1.2.1=_;rw[g8];exact u8),(by rw[q8];show b.2.2.2.2.2.2.2.2.1.2.2.1<=_;rw[g8];exact v8),(by rw[q9];show b.2.2.2.2.2.2.2.2.2.1.2.1=_;rw[g9];exact u9),(by rw[q9];show b.2.2.2.2.2.2.2.2.2.1.2.2.1<=_;rw[g9];exact v9),(by rw[q10];show b.2.2.2.2.2.2.2.2.2.2.1.2.1=_;rw[g10];exact u10),(by rw[q10];show b.2.2.2.2.2.2.2.2.2.2.1.2.2.1<=_;rw[g10];exact v10),Rx.trans (g12.trans u12),q4.trans ((congrArg (λz=>z.2.2.2.2.1) g1).trans u4)⟩
 ·simp only[aC]
  with_reducible refine ay (aOy _ ?_ ?_ ?_) λy _ hy=> ?_
  ·show b.2.1.2.2.2.2.2.2.2.2.2.2.2.2.2.2.2.2<=1800
   rw[g1];exact Nat.le_trans u1 (by decide)
  ·show b.2.2.2.2.2.2.2.2.2.2.2.2.1.2.2<=1999
   rw[g12];show a.2.2.2.2.2.2.2.2.2.2.2.2.1.2.2<=1999;rw[u12];exact h
  ·show b.2.2.2.2.2.2.2.2.2.2.2.2.1.2.2<=b.2.2.2.2.2.2.2.2.2.2.2.2.2.2.2.2.2.2.2.2.2.2.2.1
   rw[g12,g23];show a.2.2.2.2.2.2.2.2.2.2.2.2.1.2.2<=a.2.2.2.2.2.2.2.2.2.2.2.2.2.2.2.2.2.2.2.2.2.2.1;rw[u12,u22];exact k
  rw[oE]
  refine⟨λa1 ha=> ?_,λa1 ha=> ?_⟩
  ·rw[av];rw[ha] at hy
   obtain⟨q5,q6,q7,q8,q9,q10,Rx,q4⟩:=hy
   exact⟨(by rw[q5];show b.2.2.2.2.2.1.2.1=_;rw[g5];exact u5),(by rw[q5];show b.2.2.2.2.2.1.2.2.1<=_;rw[g5];exact v5),(by rw[q6];show b.2.2.2.2.2.2.1.2.1=_;rw[g6];exact u6),(by rw[q6];show b.2.2.2.2.2.2.1.2.2.1<=_;rw[g6];exact v6),(by rw[q7];show b.2.2.2.2.2.2.2.1.2.1=_;rw[g7];exact u7),(by rw[q7];show b.2.2.2.2.2.2.2.1.2.2.1<=_;rw[g7];exact v7),(by rw[q8];show b.2.2.2.2.2.2.2.2.1.2.1=_;rw[g8];exact u8),(by rw[q8];show b.2.2.2.2.2.2.2.2.1.2.2.1<=_;rw[g8];exact v8),(by rw[q9];show b.2.2.2.2.2.2.2.2.2.1.2.1=_;rw[g9];exact u9),(by rw[q9];show b.2.2.2.2.2.2.2.2.2.1.2.2.1<=_;rw[g9];exact v9),(by rw[q10];show b.2.2.2.2.2.2.2.2.2.2.1.2.1=_;rw[g10];exact u10),(by rw[q10];show b.2.2.2.2.2.2.2.2.2.2.1.2.2.1<=_;rw[g10];exact v10),Rx.trans (g12.trans u12),q4.trans ((congrArg (λz=>z.2.2.2.2.1) g1).trans u4)⟩
  ·rw[av];rw[ha] at hy
   obtain⟨q5,q6,q7,q8,q9,q10,Rx,q4⟩:=hy
   exact⟨(by rw[q5];show b.2.2.2.2.2.1.2.1=_;rw[g5];exact u5),(by rw[q5];show b.2.2.2.2.2.1.2.2.1<=_;rw[g5];exact v5),(by rw[q6];show b.2.2.2.2.2.2.1.2.1=_;rw[g6];exact u6),(by rw[q6];show b.2.2.2.2.2.2.1.2.2.1<=_;rw[g6];exact v6),(by rw[q7];show b.2.2.2.2.2.2.2.1.2.1=_;rw[g7];exact u7),(by rw[q7];show b.2.2.2.2.2.2.2.1.2.2.1<=_;rw[g7];exact v7),(by rw[q8];show b.2.2.2.2.2.2.2.2.1.2.1=_;rw[g8];exact u8),(by rw[q8];show b.2.2.2.2.2.2.2.2.1.2.2.1<=_;rw[g8];exact v8),(by rw[q9];show b.2.2.2.2.2.2.2.2.2.1.2.1=_;rw[g9];exact u9),(by rw[q9];show b.2.2.2.2.2.2.2.2.2.1.2.2.1<=_;rw[g9];exact v9),(by rw[q10];show b.2.2.2.2.2.2.2.2.2.2.1.2.1=_;rw[g10];exact u10),(by rw[q10];show b.2.2.2.2.2.2.2.2.2.2.1.2.2.1<=_;rw[g10];exact v10),Rx.trans (g12.trans u12),q4.trans ((congrArg (λz=>z.2.2.2.2.1) g1).trans u4)⟩
theorem aTE (N:Nat)(h1:1<=N)(hN:N<=1999)(x:ph.B)(hs:x.2.2.2.2.2.2.2.2.2.2.2.2.1.1<=(N:Int))(hl:x.2.2.2.2.2.2.2.2.2.2.2.2.1.2.2<=N)(hq:x.2.1.2.2.2.2.1<=1999)(l5:x.2.2.2.2.2.1.2.2.1<=64)(l6:x.2.2.2.2.2.2.1.2.2.1<=64)(l7:x.2.2.2.2.2.2.2.1.2.2.1<=64)(l8:x.2.2.2.2.2.2.2.2.1.2.2.1<=64)(l9:x.2.2.2.2.2.2.2.2.2.1.2.2.1<=64)(EY:x.2.2.2.2.2.2.2.2.2.2.1.2.2.1<=64):Ok (uD x) (λr:uC=>r.1.2.1.2.1=x.2.2.2.2.2.1.2.1∧r.1.2.1.2.2.1<=x.2.2.2.2.2.1.2.2.1∧r.1.2.2.1.2.1=x.2.2.2.2.2.2.1.2.1∧r.1.2.2.1.2.2.1<=x.2.2.2.2.2.2.1.2.2.1∧r.1.2.2.2.1.2.1=x.2.2.2.2.2.2.2.1.2.1∧r.1.2.2.2.1.2.2.1<=x.2.2.2.2.2.2.2.1.2.2.1∧r.1.2.2.2.2.1.2.1=x.2.2.2.2.2.2.2.2.1.2.1∧r.1.2.2.2.2.1.2.2.1<=x.2.2.2.2.2.2.2.2.1.2.2.1∧r.1.2.2.2.2.2.1.2.1=x.2.2.2.2.2.2.2.2.2.1.2.1∧r.1.2.2.2.2.2.1.2.2.1<=x.2.2.2.2.2.2.2.2.2.1.2.2.1∧r.1.2.2.2.2.2.2.1.2.1=x.2.2.2.2.2.2.2.2.2.2.1.2.1∧r.1.2.2.2.2.2.2.1.2.2.1<=x.2.2.2.2.2.2.2.2.2.2.1.2.2.1∧r.1.2.2.2.2.2.2.2.2.1=x.2.2.2.2.2.2.2.2.2.2.2.2.1.1∧r.1.2.2.2.2.2.2.2.2.2.2<=N∧r.1.1.2.2.2.2.1=x.2.1.2.2.2.2.1):=by
 unfold uD AW
 try dsimp only
 show PQ _ _
 simp only[aM]
 rw[aL]
 refine⟨λ_=> ?_,λ_=> ?_⟩
 ·simp only[aC]
  with_reducible refine ay (aPM N h1 hN _ ?_ ?_) λe _ he=> ?_
  ·exact hs
  ·exact hq
  rw[oA]
  refine⟨λb hb=> ?_,λb hb=> ?_⟩
  ·rw[hb] at he
   obtain⟨e1,e2,e4⟩:=he
   have e1:b.2=x.2.2.2.2.2.2.2.2.2.2.2.2.1:=e1
   simp only[aC]
   with_reducible refine ay (aH4 _ ?_ ?_ ?_ ?_ ?_ ?_ ?_ ?_ ?_) λy _ hy=> ?_
   ·exact e2
   ·exact l5
   ·exact l6
   ·exact l7
   ·exact l8
   ·exact l9
   ·exact EY
   ·show b.2.2.2<=1999
    rw[e1];omega
   ·show b.2.2.2<=x.2.2.2.2.2.2.2.2.2.2.2.2.1.2.2
    rw[e1];exact Nat.le_refl _
   rw[oE]
   refine⟨λa ha=> ?_,λa ha=> ?_⟩
   ·rw[ha] at hy
    obtain⟨s5,m5,s6,m6,s7,m7,s8,m8,s9,m9,s10,m10,Rx,q4⟩:=hy
    rw[av]
    exact⟨s5,m5,s6,m6,s7,m7,s8,m8,s9,m9,s10,m10,(by show a.2.2.2.2.2.2.2.2.2.2.2.2.1.1=x.2.2.2.2.2.2.2.2.2.2.2.2.1.1;rw[Rx];show b.2.1=_;rw[e1]),(by show a.2.2.2.2.2.2.2.2.2.2.2.2.1.2.2<=N;rw[Rx];show b.2.2.2<=N;rw[e1];exact hl),q4.trans e4⟩
   ·rw[ha] at hy
    obtain⟨s5,m5,s6,m6,s7,m7,s8,m8,s9,m9,s10,m10,Rx,q4⟩:=hy
    rw[av]
    exact⟨s5,m5,s6,m6,s7,m7,s8,m8,s9,m9,s10,m10,(by show a.2.2.2.2.2.2.2.2.2.2.2.2.1.1=x.2.2.2.2.2.2.2.2.2.2.2.2.1.1;rw[Rx];show b.2.1=_;rw[e1]),(by show a.2.2.2.2.2.2.2.2.2.2.2.2.1.2.2<=N;rw[Rx];show b.2.2.2<=N;rw[e1];exact hl),q4.trans e4⟩
  ·rw[hb] at he
   obtain⟨e1,e2,e3,e4,e5⟩:=he
   have e2:b.1.2.1=x.2.2.2.2.2.2.2.2.2.2.2.2.1.1:=e2
   simp only[aC]
   with_reducible refine ay (aH4 _ ?_ ?_ ?_ ?_ ?_ ?_ ?_ ?_ ?_) λy _ hy=> ?_
   ·exact e4
   ·exact l5
   ·exact l6
   ·exact l7
   ·exact l8
   ·exact l9
   ·exact EY
   ·show b.1.2.2.2<=1999
    omega
   ·exact e3
   rw[oE]
   refine⟨λa ha=> ?_,λa ha=> ?_⟩
   ·rw[ha] at hy
    obtain⟨s5,m5,s6,m6,s7,m7,s8,m8,s9,m9,s10,m10,Rx,q4⟩:=hy
    rw[av]
    exact⟨s5,m5,s6,m6,s7,m7,s8,m8,s9,m9,s10,m10,(by show a.2.2.2.2.2.2.2.2.2.2.2.2.1.1=x.2.2.2.2.2.2.2.2.2.2.2.2.1.1;rw[Rx];exact e2),(by show a.2.2.2.2.2.2.2.2.2.2.2.2.1.2.2<=N;rw[Rx];exact e1),q4.trans e5⟩
   ·rw[ha] at hy
    obtain⟨s5,m5,s6,m6,s7,m7,s8,m8,s9,m9,s10,m10,Rx,q4⟩:=hy
    rw[av]
    exact⟨s5,m5,s6,m6,s7,m7,s8,m8,s9,m9,s10,m10,(by show a.2.2.2.2.2.2.2.2.2.2.2.2.1.1=x.2.2.2.2.2.2.2.2.2.2.2.2.1.1;rw[Rx];exact e2),(by show a.2.2.2.2.2.2.2.2.2.2.2.2.1.2.2<=N;rw[Rx];exact e1),q4.trans e5⟩
 ·rw[bz]
  intro _ _
  rw[bz]
  intro _ _
  simp only[aC]
  with_reducible refine ay (aH4 _ ?_ ?_ ?_ ?_ ?_ ?_ ?_ ?_ ?_) λy _ hy=> ?_
  ·rfl
  ·exact l5
  ·exact l6
  ·exact l7
  ·exact l8
  ·exact l9
  ·exact EY
  ·show x.2.2.2.2.2.2.2.2.2.2.2.2.1.2.2<=1999
   omega
  ·exact Nat.le_refl _
  rw[oE]
  refine⟨λa ha=> ?_,λa ha=> ?_⟩
  ·rw[ha] at hy
   obtain⟨s5,m5,s6,m6,s7,m7,s8,m8,s9,m9,s10,m10,Rx,q4⟩:=hy
   rw[av]
   exact⟨s5,m5,s6,m6,s7,m7,s8,m8,s9,m9,s10,m10,(by show a.2.2.2.2.2.2.2.2.2.2.2.2.1.1=x.2.2.2.2.2.2.2.2.2.2.2.2.1.1;rw[Rx];done),(by show a.2.2.2.2.2.2.2.2.2.2.2.2.1.2.2<=N;rw[Rx];exact hl),q4.trans rfl⟩
  ·rw[ha] at hy
   obtain⟨s5,m5,s6,m6,s7,m7,s8,m8,s9,m9,s10,m10,Rx,q4⟩:=hy
   rw[av]
   exact⟨s5,m5,s6,m6,s7,m7,s8,m8,s9,m9,s10,m10,(by show a.2.2.2.2.2.2.2.2.2.2.2.2.1.1=x.2.2.2.2.2.2.2.2.2.2.2.2.1.1;rw[Rx];done),(by show a.2.2.2.2.2.2.2.2.2.2.2.2.1.2.2<=N;rw[Rx];exact hl),q4.trans rfl⟩
end Go.Proofs.YtcmfbkneahoonaaGreat
noncomputable section
namespace Go.Proofs.YtcmfbkneahoonaaGreat
open Go.Ab Go.Ab.Pg Go.Ab.Rq
def rm:=qa (pr (cu dy YX) (cd oy λb0=>(c jT (c lk (c (cl (gs b0.c.1 lg) nil) (cd oR λb4=>(cd na λb5=>(cd nc λb6=>(cd nd λb7=>(cd nh λb8=>(cd ni λb9=>(c kC (cd pX λpQ=>(c (cl (gs b0.e jk) nil) (c (cl (gs b4.b.1 aA) nil) (c (cl (gs b5.b.1 aA) nil) (c (cl (gs b6.b.1 aA) nil) (c (cl (gs b7.b.1 aA) nil) (c (cl (gs b8.b.1 aA) nil) (c (cl (gs b9.b.1 aA) nil) (cl (cl (gs pQ.b fX) nil) nil)))))))))))))))))))))
def aq6:=qe (res (pr aLm (pr (cl (zC aMg) aL3) aMk)))
abbrev wS:=((Int×Int)×Ty1×vO×Jk×LY×bH×bH×bH×bH×bH×bH×Jf×qP×BZ×eB×eB×eB×eB×eB×eB×Nat×NI×NI×NI×NI×NI×NI×NI×NI×NI×NI×NI)
def YJ:wS->T:=λd=>lf aq6 (d.1,d.2.1,d.b.1,d.b.2.1,d.c.1,d.c.2.1,d.c.b.1,d.c.b.2.1,d.d.1,d.d.2.1,d.d.b.1,d.d.b.2.1,d.d.c.1,d.d.c.2.1,(d.c.2.1.b.1,d.d.c.b.1),(d.c.b.1.b.1,d.d.c.b.2.1),(d.c.b.2.1.b.1,d.e.1),(d.d.1.b.1,d.e.2.1),(d.d.2.1.b.1,d.e.b.1),(d.d.b.1.b.1,d.e.b.2.1),d.e.c)
abbrev rn:=rm.B->Option wS
def Lh (g:rn):Ct:=(12,FC rm YJ g)
def fe:=qs (st (pr (cu dy (us 5 (cu Xj (us 2 (cl ai (us 92 nil)))))) (pl (c aMi (c ky (c kD (cu nO (cd HF λb4=>(cd HG λb5=>(cd HH λb6=>(cd B5 λb7=>(cd xY λb8=>(cd Jl λb9=>(c jL (c adg (cu nO (cu nO (cu nO (cu nO (cu nO (cu nO (cu nO (cu nO (c C5 (c lH (c ov (c (so (cl (gs b4.b.1 aA) nil)) (c (so (cl (gs b5.b.1 aA) nil)) (c (so (cl (gs b6.b.1 aA) nil)) (c (so (cl (gs b7.b.1 aA) nil)) (c (so (cl (gs b8.b.1 aA) nil)) (c (so (cl (gs b9.b.1 aA) nil)) L5))))))))))))))))))))))))))))) aAP)))
def afF:=qs (st (pr (cu dy (us 5 (cu Xj (us 2 (c ai (us 48 (cu dy (cu dy (cu aLu (c (ac aGj) (c ai (c ab (cu LZ (cu dy (cu dy (cu aLu (c (ac aGj) (c (ac (LA (pu aEL (pl zD uM)))) (c (ac (LA (pu aEL (pl zD A9)))) (c ai (cu (app 20 1) (c ai (cu dy (cu dy (cu aIr (cu aQ6 (c ai (c ai (c ab (cl ab aND)))))))))))))))))))))))))))))) (pl (c aMi (c ky (c kD (cu nO (c HF (c HG (c HH (c B5 (c xY (c Jl (c jL (c adg (cu nO (cu nO (cu nO (cu nO (cu nO (cu nO (cu nO (cu nO (c C5 (c lH L6)))))))))))))))))))))) aAP)))
def afG:=qs (st (pr (cu dy (us 5 (cu Xj (us 2 (c ai (us 48 (cu dy (cu dy (cu aLu (c (ac aGj) (c ai (cl ab (cu kv (xs 16 (cu kv aND))))))))))))))) (pl (c aMi (c ky (c kD (cu nO (c HF (c HG (c HH (c B5 (c xY (c Jl (c jL (c adg (cu nO (cu nO (cu nO (cu nO (cu nO (cu nO (cu nO (cu nO (c C5 (c lH L6)))))))))))))))))))))) aAP)))
abbrev lq:=((Int×(Nat×Nat)×Int×Bool×Nat×Int×Int×Int×Int×Bool)×((Int×Int×Int×(Int×Int×Int×Int×Int×Int)×(Int×Int×Int×Int×Int×Int)×NI×NI×Int×Int×Int×Int×Int×Int×Int×Int)×Bool×NI×(NI×NI)×afV×Bool×Int×Lx×Bool×Bool×Bool×Int×Int×Int×afU×Nat)×vO×Jk×bH×bH×bH×bH×bH×bH×Jf×qP×aNC×LY×BZ×eB×eB×eB×eB×eB×eB×Nat×NI×NI×NI×NI×NI×NI×NI×NI×NI×NI×NI)⊕((Int×(Nat×Nat)×Int×Bool)×(Ty7×Bool×NI×(NI×NI)×afV×Bool×Int×Lx×Bool×Bool×Bool×Int×Int×Int×afU×Nat)×vO×Jk×bH×bH×bH×bH×bH×bH×Jf×qP×aAt×LY×BZ×eB×eB×eB×eB×eB×eB×Nat×NI×NI×NI×NI×NI×NI×NI×NI×NI×NI×NI)
def Se {ρ:Type}(x:lq)(K:AX->St->Option ρ):Option ρ:=(Sum.elim (λd=>K (.ex 0) (afF.em ((d.1.1,d.1.2.1,d.1.b.1,d.1.b.2.1,d.1.2.1,d.1.c.1,d.1.c.1,d.1.c.2.1,d.1.c.b.1,d.1.c.b.2.1,d.1.d.1,d.1.d.2,d.1.d.2),((d.2.1.1.1,d.1.c.b.2.1,d.2.1.1.2),d.2.1.2.1,d.2.1.b.1,d.2.1.b.2.1,d.1.2.1,d.2.1.c),d.b.1,d.b.2.1,d.c.1,d.c.2.1,d.c.b.1,d.c.b.2.1,d.d.1,d.d.2.1,d.d.b.1,d.d.b.2.1,(d.1.c.b.1,d.d.c.1),d.d.c.2.1,d.d.c.b.1,(d.c.1.b.1,d.d.c.b.2.1),(d.c.2.1.b.1,d.e.1),(d.c.b.1.b.1,d.e.2.1),(d.c.b.2.1.b.1,d.e.b.1),(d.d.1.b.1,d.e.b.2.1),(d.d.2.1.b.1,d.e.c.1),d.e.c.2))) (λd=>K (.ex 0) (afG.em (d.1,(d.2.1.1,d.2.1.2.1,d.2.1.b.1,d.2.1.b.2.1,d.1.2.1,d.2.1.c),d.b.1,d.b.2.1,d.c.1,d.c.2.1,d.c.b.1,d.c.b.2.1,d.d.1,d.d.2.1,d.d.b.1,d.d.b.2.1,d.d.c.1,d.d.c.2.1,d.d.c.b.1,(d.c.1.b.1,d.d.c.b.2.1),(d.c.2.1.b.1,d.e.1),(d.c.b.1.b.1,d.e.2.1),(d.c.b.2.1.b.1,d.e.b.1),(d.d.1.b.1,d.e.b.2.1),(d.d.2.1.b.1,d.e.c.1),d.e.c.2)))) x
def xT (aq7:It)(d:fe.B):PL fe lq:=let n9:=d.2.2;let n17:=n9.2.2.1;let n8:=d.2.1;let n4:=n8.2.2.2;let bA:=n4.2.2.2.2.2.2.2.2.2.2.2.2.2;let bl:=n4.2.1;let n2:=n9.2.2.2;let n18:=n2.2.2.1;let n6:=n2.2.2.2;let n1:=n6.2.2.2;let n5:=n1.2.2;let bk:=n5.2.2.2.2;let aS:=n5.1.2;let n15:=aS.2.2.2;let n3:=bk.2.2.2.2.2;let n7:=n3.2.2.2.2.2;let y0:=Int.ofNat bl.2;let y1:=aX 0 bl.2;let y2:=bl.1+0;let y3:=bl.2-1;let y4:=bl.1+1;let y5:=decide (y0>0);let y6:=wI (n1.2.1.1-n8.1.2.1);let y7:=decide (aS.1 y2<=y6);ae y5 (ae y1 (ae y7 (ae y1 (ae (Cu 1 bl.2) (ae (Nat.beq y3 y3) (ae (Nat.beq bA bA) (ae (Nat.beq n17.2.2.1 n17.2.2.1) (ae (Nat.beq n2.1.2.2.1 n2.1.2.2.1) (ae (Nat.beq n2.2.1.2.2.1 n2.2.1.2.2.1) (ae (Nat.beq n18.2.2.1 n18.2.2.1) (ae (Nat.beq n6.1.2.2.1 n6.1.2.2.1) (ae (Nat.beq n6.2.1.2.2.1 n6.2.1.2.2.1) (ae (Nat.beq n1.1.2.2 n1.1.2.2) (opt (aq7 ((aS.1 y2,aS.2.1 y2,(aS.2.2.1 y2,n15.1 y2,n15.2.1 y2),n15.2.2.1 y2,n15.2.2.2.1 y2,n15.2.2.2.2 y2),(n8.1,n8.2.1,n8.2.2.1,n4.1,y3,n4.2.2),n9.1,n9.2.1,(sh8 y4 aS),n17,n2.1,n2.2.1,n18,n6.1,n6.2.1,n6.2.2.1,n1.1,(Jj 0 n5.2.1.2),(ep 0 n5.2.2.1),(ep 0 n5.2.2.2.1),(ep 0 bk.1),(ep 0 bk.2.1),(ep 0 bk.2.2.1),(ep 0 bk.2.2.2.1),λj=>n3.1 (0+j),λj=>n3.2.1 (0+j),λj=>n3.2.2.1 (0+j),λj=>n3.2.2.2.1 (0+j),λj=>n3.2.2.2.2.1 (0+j),λj=>n7.1 (0+j),λj=>n7.2.1 (0+j),λj=>n7.2.2.1 (0+j),λj=>n7.2.2.2.1 (0+j),λj=>n7.2.2.2.2.1 (0+j),λj=>n7.2.2.2.2.2 (0+j))) λaj=>let n16:=aj.1.1.2;let ba:=aj.1.2.2.2;ret (Sum.inl (wI (d.1+1),(aj.1.1.1,n16.1,n16.2.1,n16.2.2.1,(y4+0,n16.2.2.2.1),n16.2.2.2.2),n9.1,n9.2.1,aj.1.2.1,aj.1.2.2.1,ba.1,ba.2.1,ba.2.2.1,ba.2.2.2.1,ba.2.2.2.2.1,ba.2.2.2.2.2,n1.2.1,n5.1,aj.2))) no) no) no) no) no) no) no) no) no) no) no) (ret (Sum.inr (Sum.inl ((d.1,bl,y0,y5,y2,aS.1 y2,n1.2.1.1,n8.1.2.1,y6,y7),((n8.1.1,n8.1.2.2),n8.2.1,n8.2.2.1,n4.1,n4.2.2),n9.1,n9.2.1,n17,n2.1,n2.2.1,n18,n6.1,n6.2.1,n6.2.2.1,n1.1,n1.2.1.2,n5))))) no) (ret (Sum.inr (Sum.inr ((d.1,bl,y0,y5),(n8.1,n8.2.1,n8.2.2.1,n4.1,n4.2.2),n9))))
def F4:=bD (xT uD) 2000
def iw:=qs (st (pu (cu dy (us 5 (cu Xj aQj))) (pl (cd (so (a 26 lI (c gb (c fq (a 2 my (cu afX (cu afY (c (gc (dG (pu aEL (pu (ox (pu cw (pu cw uM))) (pl eS (pu uM ek)))))) aMd)))))))) λb0=>(c ky (c kD (cu nO (cd HF λb4=>(cd HG λb5=>(cd HH λb6=>(cd B5 λb7=>(cd xY λb8=>(cd Jl λb9=>(c jL (c adg (cu nO (cu nO (cu nO (cu nO (cu nO (cu nO (cu nO (cu nO (c C5 (c (so (cl (gs b0.c.1 lg) nil)) (c (so (cl (gs b0.e jk) nil)) (c (so (cl (gs b4.b.1 aA) nil)) (c (so (cl (gs b5.b.1 aA) nil)) (c (so (cl (gs b6.b.1 aA) nil)) (c (so (cl (gs b7.b.1 aA) nil)) (c (so (cl (gs b8.b.1 aA) nil)) (c (so (cl (gs b9.b.1 aA) nil)) L5))))))))))))))))))))))))))))) aAP)))
def ana:=qs (st (pr (us 4 (cl ai (cu HC (us 96 nil)))) (pl aAT (cu A9 aAP))))
abbrev lr:=(Int×Ty1×vO×Jk×LY×bH×bH×bH×bH×bH×bH×Jf×qP×BZ×eB×eB×eB×eB×eB×eB×Nat×NI×NI×NI×NI×NI×NI×NI×NI×NI×NI×NI)
def Sf {ρ:Type}(x:lr)(K:AX->St->Option ρ):Option ρ:=(λd=>K .ret (ana.em (d.1,d.2.1,d.b.1,d.b.2.1,d.c.1,d.c.2.1,d.c.b.1,d.c.b.2.1,d.d.1,d.d.2.1,d.d.b.1,d.d.b.2.1,d.d.c.1,d.d.c.2.1,(d.c.2.1.b.1,d.d.c.b.1),(d.c.b.1.b.1,d.d.c.b.2.1),(d.c.b.2.1.b.1,d.e.1),(d.d.1.b.1,d.e.2.1),(d.d.2.1.b.1,d.e.b.1),(d.d.b.1.b.1,d.e.b.2.1),d.e.c))) x
def xU (dA:LT fe lq)(d:iw.B):Pg lr:=let n7:=d.2.2.2;let n3:=d.1.2.2.2.2;let n2:=n7.2.2;let n8:=n2.2.2;let n1:=n8.2.2.2.2;let n9:=n1.1.2.2.2;let n6:=n1.2.1.2.2;let y0:=n3.1+1;ae (Nat.ble (y0*64) 140737488355328) (ae (Nat.beq n7.1.2.2.1 n7.1.2.2.1) (ae (Nat.beq n7.2.1.2.2.1 n7.2.1.2.2.1) (ae (Nat.beq n2.1.2.2.1 n2.1.2.2.1) (ae (Nat.beq n2.2.1.2.2.1 n2.2.1.2.2.1) (ae (Nat.beq n8.1.2.2.1 n8.1.2.2.1) (ae (Nat.beq n8.2.1.2.2.1 n8.2.1.2.2.1) (opt (dA (0,(d.1.1,d.1.2.1,d.1.2.2.1,d.1.2.2.2.1,(0,y0),n3.2),d.2.1,d.2.2.1,n7.1,n7.2.1,n2.1,n2.2.1,n8.1,n8.2.1,n8.2.2.1,n8.2.2.2.1,n1.1,(y0,λj=>bif Nat.beq j n3.1 then n1.1.1 else n1.2.1.1 (0+j),λj=>bif Nat.beq j n3.1 then n1.1.2.1 else n1.2.1.2.1 (0+j),λj=>bif Nat.beq j n3.1 then n1.1.2.2.1 else n6.1 (0+j),λj=>bif Nat.beq j n3.1 then n9.1 else n6.2.1 (0+j),λj=>bif Nat.beq j n3.1 then n9.2.1 else n6.2.2.1 (0+j),λj=>bif Nat.beq j n3.1 then n9.2.2.1 else n6.2.2.2.1 (0+j),λj=>bif Nat.beq j n3.1 then n9.2.2.2.1 else n6.2.2.2.2.1 (0+j),λj=>bif Nat.beq j n3.1 then n9.2.2.2.2 else n6.2.2.2.2.2 (0+j)),(n3.2.2.2.2.2.2.2.2.2.2.2.2,n1.2.2.1),n1.2.2.2)) λx=>sum x (λd=>let bl:=d.2.2.2;let bk:=d.2.1;let n4:=bl.2.2.2;let aS:=n4.2.2.2;ret (d.1.1,((bk.1.1,d.1.2.2.2.2.2.2.2.1,bk.1.2),bk.2.1,bk.2.2.1,bk.2.2.2.1,d.1.2.1,bk.2.2.2.2),d.2.2.1,bl.1,aS.2.2.2.2.1,bl.2.1,bl.2.2.1,n4.1,n4.2.1,n4.2.2.1,aS.1,aS.2.1,aS.2.2.1,aS.2.2.2.2.2)) λd=>let n15:=d.2.1.2;let bA:=d.2.2.2;let n5:=bA.2.2.2;let ba:=n5.2.2.2;ret (d.1.1,(d.2.1.1,n15.1,n15.2.1,n15.2.2.1,d.1.2.1,n15.2.2.2),d.2.2.1,bA.1,ba.2.2.2.2.1,bA.2.1,bA.2.2.1,n5.1,n5.2.1,n5.2.2.1,ba.1,ba.2.1,ba.2.2.1,ba.2.2.2.2.2)) no) no) no) no) no) no) no
def xV (d:iw.B):Option lr:=(xU F4 d).val
def Sh:Hd:=⟨6,(rg 1 5 (rg 7 95 [])),[(5,[]),(14,[]),(15,[]),(16,[]),(17,[]),(18,[]),(19,[]),(20,[]),(21,[]),(0,[])]⟩
def CT (alU:DH)(xF:lW)(oV:LT iw lr)(x:rm.B):Pg wS:=let bA:=x.2.1;let aS:=x.2.2;let n15:=aS.2.2.1;let n5:=bA.2.2;let ba:=n5.2.2;let n9:=ba.2.2.2.2.2.2.2.2.2.2.2.2;let n4:=aS.2.2.2;let n16:=n4.2.1;let n8:=n4.2.2;let n17:=n8.2.1;let n2:=n8.2.2;let n19:=n2.2.2.1;let n18:=n2.2.1;let n6:=n2.2.2.2;let n20:=n6.2.2.1;let bl:=n6.1.2.2;let n3:=n6.2.2.2;let n22:=n3.2.1;let n21:=n3.2.2.1;let n7:=n3.2.2.2;let n25:=n7.2.2;let n24:=n7.2.1;let n1:=(n9,n6.2.1);let y0:=Nat.beq ba.1 ba.1;let y1:=Nat.beq n9 n9;let y2:=Nat.beq n4.1.2.2.1 n4.1.2.2.1;let y3:=Nat.beq n16.2.2.1 n16.2.2.1;let y4:=Nat.beq n8.1.2.2.1 n8.1.2.2.1;let y5:=Nat.beq n17.2.2.1 n17.2.2.1;let y6:=Nat.beq n2.1.2.2.1 n2.1.2.2.1;let y7:=Nat.beq n18.2.2.1 n18.2.2.1;opt (alU (x.1,aS.2.1,bA.2.1)) λd=>let n23:=d.2.1;let bk:=d.1.1;ae (d.1.2.2!=0) (ret ((0,d.1.2.2),(bA.1,d.2.2,n5.1,n5.2.1,(0,ba.1),ba.2),aS.1,n23,(ba.1,n15),n4.1,n16,n8.1,n17,n2.1,n18,n19,n6.1,n1,n20,n3.1,n22,n21,n7.1,n24,bl,n25)) (ae (!d.1.2.1) (ret ((0,d.1.2.2),(bA.1,d.2.2,n5.1,n5.2.1,(0,ba.1),ba.2),aS.1,n23,(ba.1,n15),n4.1,n16,n8.1,n17,n2.1,n18,n19,n6.1,n1,n20,n3.1,n22,n21,n7.1,n24,bl,n25)) (ae ba.2.2.1 (ae (Nat.beq bl bl) (opt (xF ((n5.1,bk.1,bk.2.1,(bk.2.2.1,bk.2.2.2.1,bk.2.2.2.2.1),bk.2.2.2.2.2),n6.1,d.2.2,n25)) λaj=>sm aj (λaF=>ae y0 (ae y1 (ae y2 (ae y3 (ae y4 (ae y5 (ae y6 (ae y7 (opt (oV ((bA.1,aF.2.2,n5),aS.1,n23,n4.1,n16,n8.1,n17,n2.1,n18,n19,aF.2.1,bk,n15,n6.2.1,n20,n3.1,n22,n21,n7.1,n24,bl,n25)) λd=>ret ((d.1,0),d.2)) no) no) no) no) no) no) no) no) (λaF=>ae y0 (ae y1 (ae y2 (ae y3 (ae y4 (ae y5 (ae y6 (ae y7 (opt (oV ((bA.1,aF.1.2,n5),aS.1,n23,n4.1,n16,n8.1,n17,n2.1,n18,n19,aF.1.1,bk,n15,n6.2.1,n20,n3.1,n22,n21,n7.1,n24,aF.2)) λd=>ret ((d.1,0),d.2)) no) no) no) no) no) no) no) no)) no) (ae y0 (ae y1 (ae y2 (ae y3 (ae y4 (ae y5 (ae y6 (ae y7 (opt (oV ((bA.1,d.2.2,n5),aS.1,n23,n4.1,n16,n8.1,n17,n2.1,n18,n19,n6.1,bk,n15,n6.2.1,n20,n3.1,n22,n21,n7.1,n24,bl,n25)) λd=>ret ((d.1,0),d.2)) no) no) no) no) no) no) no) no)))
def lC:=λx=>(CT mM fa xV x).val
abbrev wT:=DH×lW×It×(LT fe lq)×(LT iw lr)
def CU (p:wT):KK:=⟨[O4 p.1,xy p.2.1,Wx p.b.1],⟨[⟨8,(rg 1 5 (7::8::rg 10 92 [])),[(5,[]),(14,[]),(15,[]),(16,[]),(17,[]),(18,[]),(19,[]),(20,[]),(21,[]),(0,[])]⟩],[fg 8 20 fe Se p.b.2.1],(0::rg 4 6 [19,18,17,16,15,14,13,12,3,11,2,10]),[⟨Sh,fg 6 20 iw Sf p.c⟩],(some ⟨0,(rg 0 4 (rg 6 96 [])),[(3,[]),(4,[]),(5,[]),(6,[]),(7,[]),(8,[]),(9,[]),(10,[]),(11,[]),(12,[]),(13,[]),(14,[]),(15,[]),(16,[]),(17,[]),(18,[]),(19,[]),(20,[]),(21,[]),(0,[])]⟩)⟩,20,12⟩
theorem alV (p:wT):LI (CU p) 8 fe Se (xT p.b.1):=λ_ d c K=>by kernel_rfl
theorem alW (p:wT):JI (CU p) 6 iw Sf (xU p.b.2.1):=λ_ d K=>by kernel_rfl
theorem auf (p:wT):D2 (CU p) rm YJ λb=>CT p.1 p.2.1 p.c b:=λb=>by kernel_rfl
abbrev CW:wT:=(mM,fa,uD,F4,xV)
theorem YK [ax]:SC (Lh lC):=sc (kS (k:=CU CW) (.c ak8 (.c GP (.c aq5 (.nil _)))) [8] [6] ⟨kL (alV CW),trivial⟩ ⟨kJ Sh (alW CW),trivial⟩ (auf CW))
end Go.Proofs.YtcmfbkneahoonaaGreat
namespace Go.Proofs.YtcmfbkneahoonaaGreat
open Go.Ab Go.Ab.Pg
theorem aPR (N l:Nat)(h1:1<=N)(hN:N<=1999)(hl:l<=1999)(w d:fe.B)(W4:w.2.2.2.2.1.2.2.1<=64)(W5:w.2.2.2.2.2.1.2.2.1<=64)(W6:w.2.2.2.2.2.2.1.2.2.1<=64)(W7:w.2.2.2.2.2.2.2.1.2.2.1<=64)(W8:w.2.2.2.2.2.2.2.2.1.2.2.1<=64)(W9:w.2.2.2.2.2.2.2.2.2.1.2.2.1<=64)(WS:w.2.2.2.2.2.2.2.2.2.2.2.1.1<=(N:Int))(hd:d.2.1.2.2.2.2.1.2<=l∧d.2.2.2.2.1.2.1=w.2.2.2.2.1.2.1∧d.2.2.2.2.1.2.2.1<=w.2.2.2.2.1.2.2.1∧d.2.2.2.2.2.1.2.1=w.2.2.2.2.2.1.2.1∧d.2.2.2.2.2.1.2.2.1<=w.2.2.2.2.2.1.2.2.1∧d.2.2.2.2.2.2.1.2.1=w.2.2.2.2.2.2.1.2.1∧d.2.2.2.2.2.2.1.2.2.1<=w.2.2.2.2.2.2.1.2.2.1∧d.2.2.2.2.2.2.2.1.2.1=w.2.2.2.2.2.2.2.1.2.1∧d.2.2.2.2.2.2.2.1.2.2.1<=w.2.2.2.2.2.2.2.1.2.2.1∧d.2.2.2.2.2.2.2.2.1.2.1=w.2.2.2.2.2.2.2.2.1.2.1∧d.2.2.2.2.2.2.2.2.1.2.2.1<=w.2.2.2.2.2.2.2.2.1.2.2.1∧d.2.2.2.2.2.2.2.2.2.1.2.1=w.2.2.2.2.2.2.2.2.2.1.2.1∧d.2.2.2.2.2.2.2.2.2.1.2.2.1<=w.2.2.2.2.2.2.2.2.2.1.2.2.1∧d.2.2.2.2.2.2.2.2.2.2.2.1.1=w.2.2.2.2.2.2.2.2.2.2.2.1.1∧d.2.2.2.2.2.2.2.2.2.2.2.1.2.2<=N):Ok (F4 d) (λx:lq=>match x with|.inl x=>x.1.2.1.2<=l∧x.2.2.2.2.1.2.1=w.2.2.2.2.1.2.1∧x.2.2.2.2.1.2.2.1<=w.2.2.2.2.1.2.2.1∧x.2.2.2.2.2.1.2.1=w.2.2.2.2.2.1.2.1∧x.2.2.2.2.2.1.2.2.1<=w.2.2.2.2.2.1.2.2.1∧x.2.2.2.2.2.2.1.2.1=w.2.2.2.2.2.2.1.2.1∧x.2.2.2.2.2.2.1.2.2.1<=w.2.2.2.2.2.2.1.2.2.1∧x.2.2.2.2.2.2.2.1.2.1=w.2.2.2.2.2.2.2.1.2.1∧x.2.2.2.2.2.2.2.1.2.2.1<=w.2.2.2.2.2.2.2.1.2.2.1∧x.2.2.2.2.2.2.2.2.1.2.1=w.2.2.2.2.2.2.2.2.1.2.1∧x.2.2.2.2.2.2.2.2.1.2.2.1<=w.2.2.2.2.2.2.2.2.1.2.2.1∧x.2.2.2.2.2.2.2.2.2.1.2.1=w.2.2.2.2.2.2.2.2.2.1.2.1∧x.2.2.2.2.2.2.2.2.2.1.2.2.1<=w.2.2.2.2.2.2.2.2.2.1.2.2.1∧x.2.2.2.2.2.2.2.2.2.2.2.1.1=w.2.2.2.2.2.2.2.2.2.2.2.1.1∧x.2.2.2.2.2.2.2.2.2.2.2.1.2.2<=N|.inr x=>x.1.2.1.2<=l∧x.2.2.2.2.1.2.1=w.2.2.2.2.1.2.1∧x.2.2.2.2.1.2.2.1<=w.2.2.2.2.1.2.2.1∧x.2.2.2.2.2.1.2.1=w.2.2.2.2.2.1.2.1∧x.2.2.2.2.2.1.2.2.1<=w.2.2.2.2.2.1.2.2.1∧x.2.2.2.2.2.2.1.2.1=w.2.2.2.2.2.2.1.2.1∧x.2.2.2.2.2.2.1.2.2.1<=w.2.2.2.2.2.2.1.2.2.1∧x.2.2.2.2.2.2.2.1.2.1=w.2.2.2.2.2.2.2.1.2.1∧x.2.2.2.2.2.2.2.1.2.2.1<=w.2.2.2.2.2.2.2.1.2.2.1∧x.2.2.2.2.2.2.2.2.1.2.1=w.2.2.2.2.2.2.2.2.1.2.1∧x.2.2.2.2.2.2.2.2.1.2.2.1<=w.2.2.2.2.2.2.2.2.1.2.2.1∧x.2.2.2.2.2.2.2.2.2.1.2.1=w.2.2.2.2.2.2.2.2.2.1.2.1∧x.2.2.2.2.2.2.2.2.2.1.2.2.1<=w.2.2.2.2.2.2.2.2.2.1.2.2.1∧x.2.2.2.2.2.2.2.2.2.2.2.1.1=w.2.2.2.2.2.2.2.2.2.2.2.1.1∧x.2.2.2.2.2.2.2.2.2.2.2.1.2.2<=N):=
 aZ (s:=_) (λd:fe.B=>d.2.1.2.2.2.2.1.2<=l∧d.2.2.2.2.1.2.1=w.2.2.2.2.1.2.1∧d.2.2.2.2.1.2.2.1<=w.2.2.2.2.1.2.2.1∧d.2.2.2.2.2.1.2.1=w.2.2.2.2.2.1.2.1∧d.2.2.2.2.2.1.2.2.1<=w.2.2.2.2.2.1.2.2.1∧d.2.2.2.2.2.2.1.2.1=w.2.2.2.2.2.2.1.2.1∧d.2.2.2.2.2.2.1.2.2.1<=w.2.2.2.2.2.2.1.2.2.1∧d.2.2.2.2.2.2.2.1.2.1=w.2.2.2.2.2.2.2.1.2.1∧d.2.2.2.2.2.2.2.1.2.2.1<=w.2.2.2.2.2.2.2.1.2.2.1∧d.2.2.2.2.2.2.2.2.1.2.1=w.2.2.2.2.2.2.2.2.1.2.1∧d.2.2.2.2.2.2.2.2.1.2.2.1<=w.2.2.2.2.2.2.2.2.1.2.2.1∧d.2.2.2.2.2.2.2.2.2.1.2.1=w.2.2.2.2.2.2.2.2.2.1.2.1∧d.2.2.2.2.2.2.2.2.2.1.2.2.1<=w.2.2.2.2.2.2.2.2.2.1.2.2.1∧d.2.2.2.2.2.2.2.2.2.2.2.1.1=w.2.2.2.2.2.2.2.2.2.2.2.1.1∧d.2.2.2.2.2.2.2.2.2.2.2.1.2.2<=N) (λd:fe.B=>d.2.1.2.2.2.2.1.2) (λx:lq=>match x with|.inl x=>x.1.2.1.2<=l∧x.2.2.2.2.1.2.1=w.2.2.2.2.1.2.1∧x.2.2.2.2.1.2.2.1<=w.2.2.2.2.1.2.2.1∧x.2.2.2.2.2.1.2.1=w.2.2.2.2.2.1.2.1∧x.2.2.2.2.2.1.2.2.1<=w.2.2.2.2.2.1.2.2.1∧x.2.2.2.2.2.2.1.2.1=w.2.2.2.2.2.2.1.2.1∧x.2.2.2.2.2.2.1.2.2.1<=w.2.2.2.2.2.2.1.2.2.1∧x.2.2.2.2.2.2.2.1.2.1=w.2.2.2.2.2.2.2.1.2.1∧x.2.2.2.2.2.2.2.1.2.2.1<=w.2.2.2.2.2.2.2.1.2.2.1∧x.2.2.2.2.2.2.2.2.1.2.1=w.2.2.2.2.2.2.2.2.1.2.1∧x.2.2.2.2.2.2.2.2.1.2.2.1<=w.2.2.2.2.2.2.2.2.1.2.2.1∧x.2.2.2.2.2.2.2.2.2.1.2.1=w.2.2.2.2.2.2.2.2.2.1.2.1∧x.2.2.2.2.2.2.2.2.2.1.2.2.1<=w.2.2.2.2.2.2.2.2.2.1.2.2.1∧x.2.2.2.2.2.2.2.2.2.2.2.1.1=w.2.2.2.2.2.2.2.2.2.2.2.1.1∧x.2.2.2.2.2.2.2.2.2.2.2.1.2.2<=N|.inr x=>x.1.2.1.2<=l∧x.2.2.2.2.1.2.1=w.2.2.2.2.1.2.1∧x.2.2.2.2.1.2.2.1<=w.2.2.2.2.1.2.2.1∧x.2.2.2.2.2.1.2.1=w.2.2.2.2.2.1.2.1∧x.2.2.2.2.2.1.2.2.1<=w.2.2.2.2.2.1.2.2.1∧x.2.2.2.2.2.2.1.2.1=w.2.2.2.2.2.2.1.2.1∧x.2.2.2.2.2.2.1.2.2.1<=w.2.2.2.2.2.2.1.2.2.1∧x.2.2.2.2.2.2.2.1.2.1=w.2.2.2.2.2.2.2.1.2.1∧x.2.2.2.2.2.2.2.1.2.2.1<=w.2.2.2.2.2.2.2.1.2.2.1∧x.2.2.2.2.2.2.2.2.1.2.1=w.2.2.2.2.2.2.2.2.1.2.1∧x.2.2.2.2.2.2.2.2.1.2.2.1<=w.2.2.2.2.2.2.2.2.1.2.2.1∧x.2.2.2.2.2.2.2.2.2.1.2.1=w.2.2.2.2.2.2.2.2.2.1.2.1∧x.2.2.2.2.2.2.2.2.2.1.2.2.1<=w.2.2.2.2.2.2.2.2.2.1.2.2.1∧x.2.2.2.2.2.2.2.2.2.2.2.1.1=w.2.2.2.2.2.2.2.2.2.2.2.1.1∧x.2.2.2.2.2.2.2.2.2.2.2.1.2.2<=N) (λd hd=>by
  obtain⟨i0,s4,l4,s5,l5,s6,l6,s7,l7,s8,l8,s9,l9,i11,ba⟩:=hd
  unfold xT
  dsimp only
  rw[aL]
  refine⟨λh=> ?_,λ_=>by rw[av];exact⟨i0,s4,l4,s5,l5,s6,l6,s7,l7,s8,l8,s9,l9,i11,ba⟩⟩
  have h:=of_decide_eq_true h
  rw[Int.ofNat_eq_natCast] at h
  have h:1<=d.2.1.2.2.2.2.1.2:=by omega
  have r0:aX 0 d.2.1.2.2.2.2.1.2=true:=by rw[bn];omega
  have r1:Cu 1 d.2.1.2.2.2.2.1.2=true:=by rw[MO];omega
  rw[r0,r1,aC,aL]
  simp only[aM]
  refine⟨λ_=> ?_,λ_=>by rw[av];exact⟨i0,s4,l4,s5,l5,s6,l6,s7,l7,s8,l8,s9,l9,i11,ba⟩⟩
  simp only[aC]
  with_reducible refine ay (aTE N h1 hN _ ?_ ?_ ?_ ?_ ?_ ?_ ?_ ?_ ?_) λe _ he=> ?_
  ·show d.2.2.2.2.2.2.2.2.2.2.2.1.1<=(N:Int)
   rw[i11];exact WS
  ·exact ba
  ·show d.2.1.2.2.2.2.1.2-1<=1999
   omega
  ·exact Nat.le_trans l4 W4
  ·exact Nat.le_trans l5 W5
  ·exact Nat.le_trans l6 W6
  ·exact Nat.le_trans l7 W7
  ·exact Nat.le_trans l8 W8
  ·exact Nat.le_trans l9 W9
  obtain⟨a4,b4,a5,b5,a6,b6,a7,b7,a8,b8,a9,b9,a11,pQ,e4⟩:=he
  have e4:e.1.1.2.2.2.2.1=d.2.1.2.2.2.2.1.2-1:=e4
  rw[av]
  exact⟨⟨by show e.1.1.2.2.2.2.1<=l;omega,a4.trans s4,Nat.le_trans b4 l4,a5.trans s5,Nat.le_trans b5 l5,a6.trans s6,Nat.le_trans b6 l6,a7.trans s7,Nat.le_trans b7 l7,a8.trans s8,Nat.le_trans b8 l8,a9.trans s9,Nat.le_trans b9 l9,a11.trans i11,pQ⟩,by show e.1.1.2.2.2.2.1<d.2.1.2.2.2.2.1.2;omega⟩) 2000 d hd (by omega)
theorem aH5 (N:Nat)(h1:1<=N)(hN:N<=1999)(d:iw.B)(hq:d.1.2.2.2.2.1<=1998)(l3:d.2.2.2.1.2.2.1<=64)(l4:d.2.2.2.2.1.2.2.1<=64)(l5:d.2.2.2.2.2.1.2.2.1<=64)(l6:d.2.2.2.2.2.2.1.2.2.1<=64)(l7:d.2.2.2.2.2.2.2.1.2.2.1<=64)(l8:d.2.2.2.2.2.2.2.2.1.2.2.1<=64)(hs:d.2.2.2.2.2.2.2.2.2.2.1.1<=(N:Int))(hl:d.2.2.2.2.2.2.2.2.2.2.1.2.2<=N):Ok (xV d) (λx:lr=>x.2.1.2.2.2.2.1.2<=d.1.2.2.2.2.1+1∧x.2.2.2.2.2.1.2.1=d.2.2.2.1.2.1∧x.2.2.2.2.2.1.2.2.1<=d.2.2.2.1.2.2.1∧x.2.2.2.2.2.2.1.2.1=d.2.2.2.2.1.2.1∧x.2.2.2.2.2.2.1.2.2.1<=d.2.2.2.2.1.2.2.1∧x.2.2.2.2.2.2.2.1.2.1=d.2.2.2.2.2.1.2.1∧x.2.2.2.2.2.2.2.1.2.2.1<=d.2.2.2.2.2.1.2.2.1∧x.2.2.2.2.2.2.2.2.1.2.1=d.2.2.2.2.2.2.1.2.1∧x.2.2.2.2.2.2.2.2.1.2.2.1<=d.2.2.2.2.2.2.1.2.2.1∧x.2.2.2.2.2.2.2.2.2.1.2.1=d.2.2.2.2.2.2.2.1.2.1∧x.2.2.2.2.2.2.2.2.2.1.2.2.1<=d.2.2.2.2.2.2.2.1.2.2.1∧x.2.2.2.2.2.2.2.2.2.2.1.2.1=d.2.2.2.2.2.2.2.2.1.2.1∧x.2.2.2.2.2.2.2.2.2.2.1.2.2.1<=d.2.2.2.2.2.2.2.2.1.2.2.1∧x.2.2.2.2.2.2.2.2.2.2.2.2.1.1=d.2.2.2.2.2.2.2.2.2.2.1.1∧x.2.2.2.2.2.2.2.2.2.2.2.2.1.2.2<=N):=by
 unfold xV xU
 try dsimp only
 show PQ _ _
 simp only[aM]
 have b:Nat.ble ((d.1.2.2.2.2.1+1)*64) 140737488355328=true:=by rw[bL];omega
 rw[b]
 simp only[aC]
 refine ay (aPR N (d.1.2.2.2.2.1+1) h1 hN (by omega) _ _ l3 l4 l5 l6 l7 l8 hs ⟨Nat.le_refl _,rfl,Nat.le_refl _,rfl,Nat.le_refl _,rfl,Nat.le_refl _,rfl,Nat.le_refl _,rfl,Nat.le_refl _,rfl,Nat.le_refl _,rfl,hl⟩) λy _ hy=> ?_
 rw[oE]
 refine⟨λa ha=> ?_,λa ha=> ?_⟩
 ·rw[ha] at hy;rw[av];exact hy
 ·rw[ha] at hy;rw[av];exact hy
theorem aOz (N:Nat)(h1:1<=N)(hN:N<=1999)(x:rm.B)(hq:x.2.1.2.2.2.2.1<=1998)(l5:x.2.2.2.2.2.1.2.2.1<=64)(l6:x.2.2.2.2.2.2.1.2.2.1<=64)(l7:x.2.2.2.2.2.2.2.1.2.2.1<=64)(l8:x.2.2.2.2.2.2.2.2.1.2.2.1<=64)(l9:x.2.2.2.2.2.2.2.2.2.1.2.2.1<=64)(EY:x.2.2.2.2.2.2.2.2.2.2.1.2.2.1<=64)(hs:x.2.2.2.2.2.2.2.2.2.2.2.2.1.1<=(N:Int))(hl:x.2.2.2.2.2.2.2.2.2.2.2.2.1.2.2<=N):Ok (lC x) (λe:wS=>e.2.1.2.2.2.2.1.2<=x.2.1.2.2.2.2.1+1∧e.2.2.2.2.2.1.2.1=x.2.2.2.2.2.1.2.1∧e.2.2.2.2.2.1.2.2.1<=x.2.2.2.2.2.1.2.2.1∧e.2.2.2.2.2.2.1.2.1=x.2.2.2.2.2.2.1.2.1∧e.2.2.2.2.2.2.1.2.2.1<=x.2.2.2.2.2.2.1.2.2.1∧e.2.2.2.2.2.2.2.1.2.1=x.2.2.2.2.2.2.2.1.2.1∧e.2.2.2.2.2.2.2.1.2.2.1<=x.2.2.2.2.2.2.2.1.2.2.1∧e.2.2.2.2.2.2.2.2.1.2.1=x.2.2.2.2.2.2.2.2.1.2.1∧e.2.2.2.2.2.2.2.2.1.2.2.1<=x.2.2.2.2.2.2.2.2.1.2.2.1∧e.2.2.2.2.2.2.2.2.2.1.2.1=x.2.2.2.2.2.2.2.2.2.1.2.1∧e.2.2.2.2.2.2.2.2.2.1.2.2.1<=x.2.2.2.2.2.2.2.2.2.1.2.2.1∧e.2.2.2.2.2.2.2.2.2.2.1.2.1=x.2.2.2.2.2.2.2.2.2.2.1.2.1∧e.2.2.2.2.2.2.2.2.2.2.1.2.2.1<=x.2.2.2.2.2.2.2.2.2.2.1.2.2.1∧e.2.2.2.2.2.2.2.2.2.2.2.2.1.1=x.2.2.2.2.2.2.2.2.2.2.2.2.1.1∧e.2.2.2.2.2.2.2.2.2.2.2.2.1.2.2<=N):=by
 unfold lC CT
 try dsimp only
 show PQ _ _
 simp only[aM]
 rw[bz]
 intro d _
 rw[aL]
 refine⟨λ_=>by rw[av];exact⟨Nat.le_succ _,rfl,Nat.le_refl _,rfl,Nat.le_refl _,rfl,Nat.le_refl _,rfl,Nat.le_refl _,rfl,Nat.le_refl _,rfl,Nat.le_refl _,rfl,hl⟩,λ_=> ?_⟩
 rw[aL]
 refine⟨λ_=>by rw[av];exact⟨Nat.le_succ _,rfl,Nat.le_refl _,rfl,Nat.le_refl _,rfl,Nat.le_refl _,rfl,Nat.le_refl _,rfl,Nat.le_refl _,rfl,Nat.le_refl _,rfl,hl⟩,λ_=> ?_⟩
 rw[aL]
 refine⟨λ_=> ?_,λ_=> ?_⟩
 ·simp only[aC]
  with_reducible refine ay (aKy N hN _ ?_ ?_) λe _ he=> ?_
  ·exact hl
  ·exact hs
  rw[oA]
  refine⟨λa ha=> ?_,λa ha=> ?_⟩
  ·rw[ha] at he
   have he:a.2.1=x.2.2.2.2.2.2.2.2.2.2.2.2.1:=he
   simp only[aC]
   with_reducible refine ay (aH5 N h1 hN _ ?_ ?_ ?_ ?_ ?_ ?_ ?_ ?_ ?_) λy _ hy=> ?_
   ·exact hq
   ·exact l5
   ·exact l6
   ·exact l7
   ·exact l8
   ·exact l9
   ·exact EY
   ·show a.2.1.1<=(N:Int)
    rw[he];exact hs
   ·show a.2.1.2.2<=N
    rw[he];exact hl
   rw[av]
   have e0:(a.2.1.1:Int)=x.2.2.2.2.2.2.2.2.2.2.2.2.1.1:=by rw[he]
   obtain⟨q,s5,m5,s6,m6,s7,m7,s8,m8,s9,m9,s10,m10,p1,p2⟩:=hy
   exact⟨q,s5,m5,s6,m6,s7,m7,s8,m8,s9,m9,s10,m10,p1.trans e0,p2⟩
  ·rw[ha] at he
   obtain⟨e1,e2,e3,e4⟩:=he
   have e1:a.1.1.1=x.2.2.2.2.2.2.2.2.2.2.2.2.1.1:=e1
   simp only[aC]
   with_reducible refine ay (aH5 N h1 hN _ ?_ ?_ ?_ ?_ ?_ ?_ ?_ ?_ ?_) λy _ hy=> ?_
   ·exact hq
   ·exact l5
   ·exact l6
   ·exact l7
   ·exact l8
   ·exact l9
   ·exact EY
   ·show a.1.1.1<=(N:Int)
    rw[e1];exact hs
   ·exact e2
   rw[av]
   obtain⟨q,s5,m5,s6,m6,s7,m7,s8,m8,s9,m9,s10,m10,p1,p2⟩:=hy
   exact⟨q,s5,m5,s6,m6,s7,m7,s8,m8,s9,m9,s10,m10,p1.trans e1,p2⟩
 ·simp only[aC]
  with_reducible refine ay (aH5 N h1 hN _ ?_ ?_ ?_ ?_ ?_ ?_ ?_ ?_ ?_) λy _ hy=> ?_
  ·exact hq
  ·exact l5
  ·exact l6
  ·exact l7
  ·exact l8
  ·exact l9
  ·exact EY
  ·exact hs
  ·exact hl
  rw[av];exact hy
end Go.Proofs.YtcmfbkneahoonaaGreat
noncomputable section
namespace Go.Proofs.YtcmfbkneahoonaaGreat
open Go.Ab Go.Ab.Pg Go.Ab.Rq
def ahD:=qa (pr (cu aP C4) bB)
def NC:=qe oQ
abbrev ahE:=NC.B
abbrev ahF:=Int->Int->Int->Bool->Option ahE
def ahG (g:ahF):Ct:=(213,FC ahD (lf NC) (λb=>g b.1.1 b.1.2.1 b.1.b b.2))
def ahH (x0:Int)(x1:Int)(x2:Int)(x3:Bool):Pg ahE:=let y0:=decide (x1>x2);ae (decide (x0<x1)) (ae (x1 !=x0) (ret (x1,true)) (ae y0 (ret (x1,true)) (ret (x1,x3)))) (ae y0 (ae (x1 !=x0) (ret (x1,true)) (ae y0 (ret (x1,true)) (ret (x1,x3)))) (ae (decide (x0>x2)) (ae (x2 !=x0) (ret (x2,true)) (ae y0 (ret (x2,true)) (ret (x2,x3)))) (ae (x0 !=x0) (ret (x0,true)) (ae y0 (ret (x0,true)) (ret (x0,x3))))))
def Ry:=λx0 x1 x2 x3=>(ahH x0 x1 x2 x3).val
theorem az3:D1 [] [0] 213 ahD (lf NC) λb=>ahH b.1.1 b.1.2.1 b.1.b b.2:=λb=>by kernel_rfl
theorem az4 [ax]:SC (ahG Ry):=s0 (.nil _) az3
def ao6:=qa (pr (cu aP fU) bB)
def Wy:=qe oQ
abbrev ao7:=Wy.B
abbrev aaW:=Int->Bool->Option ao7
def aaX (g:aaW):Ct:=(149,FC ao6 (lf Wy) (λb=>g b.1 b.2))
def ao8 (HA:ahF)(x0:Int)(x1:Bool):Pg ao7:=opt (HA x0 (-1152921504606846976) 1152921504606846976 x1) λd=>ret d
def GW:=λx0 x1=>(ao8 Ry x0 x1).val
theorem aEt:∀HA,D0 [ahG HA] 149 ao6 (lf Wy) λb=>ao8 HA b.1 b.2:=λ_ b=>by kernel_rfl
theorem ao9 [ax]:SC (aaX GW):=s0 (.c az4 (.nil _)) (aEt Ry)
def aDf:=qa (pl fU nil)
def alX:=qe aQC
abbrev aDg:=alX.B
abbrev aq8:=Int->Option aDg
def aq9 (g:aq8):Ct:=(151,FC aDf (lf alX) (λb=>g b))
def aDh (x0:Int):Pg aDg:=ae (decide (x0<0)) (ret (wU (wI (0-x0)))) (ret (wU x0))
def Wz:=λx0=>(aDh x0).val
theorem aNq:D0 [] 151 aDf (lf alX) λb=>aDh b:=λb=>by kernel_rfl
theorem aDi [ax]:SC (aq9 Wz):=s0 (.nil _) aNq
def apa:=qa (pl (c an aEM) nil)
def WA:=qe aLz
abbrev apb:=WA.B
abbrev apc:=Int->Int->Option apb
def apd (g:apc):Ct:=(212,FC apa (lf WA) (λb=>g b.1 b.2))
def ape (x0:Int)(x1:Int):Pg apb:=let y0:=Int.fdiv x0 4294967296;let y1:=Int.fdiv x1 4294967296;let y2:=wU (Int.ofNat (BitVec.toNat (BitVec.ofInt 64 x0&&&BitVec.ofInt 64 4294967295)));let y3:=wU (Int.ofNat (BitVec.toNat (BitVec.ofInt 64 x1&&&BitVec.ofInt 64 4294967295)));let y4:=wU (y2*y3);let y5:=wU (wU (y0*y3)+Int.fdiv y4 4294967296);let y6:=wU (wU (y2*y1)+wU (Int.ofNat (BitVec.toNat (BitVec.ofInt 64 y5&&&BitVec.ofInt 64 4294967295))));ret (wU (wU (wU (y0*y1)+Int.fdiv y5 4294967296)+Int.fdiv y6 4294967296),wU (Int.ofNat (BitVec.toNat (BitVec.ofInt 64 (wU (y6*4294967296))|||BitVec.ofInt 64 (wU (Int.ofNat (BitVec.toNat (BitVec.ofInt 64 y4&&&BitVec.ofInt 64 4294967295))))))))
def aaY:=λx0 x1=>(ape x0 x1).val
theorem aEu:D0 [] 212 apa (lf WA) λb=>ape b.1 b.2:=λb=>by kernel_rfl
theorem aEv [ax]:SC (apd aaY):=s0 (.nil _) aEu
def aFJ:=qa (pl wY nil)
def ara:=qe aGe
abbrev aFK:=ara.B
abbrev awh:=Int->Int->Option aFK
def awi (g:awh):Ct:=(148,FC aFJ (lf ara) (λb=>g b.1 b.2))
def aFL (xG:aq8)(Oh:apc)(x0:Int)(x1:Int):Pg aFK:=opt (xG x0) λd=>opt (xG x1) λaj=>opt (Oh d aj) λd=>ret (d.1,d.2,!decide (x0<0)==decide (x1<0))
def acS:=λx0 x1=>(aFL Wz aaY x0 x1).val
theorem aPS:∀xG Oh,D0 [aq9 xG,apd Oh] 148 aFJ (lf ara) λb=>aFL xG Oh b.1 b.2:=λ_ _ b=>by kernel_rfl
theorem aFM [ax]:SC (awi acS):=s0 (.c aDi (.c aEv (.nil _))) (aPS Wz aaY)
def aDj:=qa (pl (c ah9 (cl ah9 nil)) nil)
def alY:=qe B3
abbrev aDk:=alY.B
abbrev aDl:=Int->Int->Bool->Int->Int->Bool->Option aDk
def aDm (g:aDl):Ct:=(243,FC aDj (lf alY) (λb=>g b.1.1 b.1.2.1 b.1.b b.2.1 b.b.1 b.b.2))
def aDn (x0:Int)(x1:Int)(x2:Bool)(x3:Int)(x4:Int)(x5:Bool):Pg aDk:=ae (decide (x0<x3)) (ret true) (ae (x0==x3) (ret (decide (x1<x4))) (ret false))
def arb:=λx0 x1 x2 x3 x4 x5=>(aDn x0 x1 x2 x3 x4 x5).val
theorem aNr:D0 [] 243 aDj (lf alY) λb=>aDn b.1.1 b.1.2.1 b.1.b b.2.1 b.b.1 b.b.2:=λb=>by kernel_rfl
theorem aNs [ax]:SC (aDm arb):=s0 (.nil _) aNr
def aFN:=qa (pl (c ah9 (cl ah9 nil)) nil)
def arc:=qe aGe
abbrev aFO:=arc.B
abbrev ams:=Int->Int->Bool->Int->Int->Bool->Option aFO
def awj (g:ams):Ct:=(211,FC aFN (lf arc) (λb=>g b.1.1 b.1.2.1 b.1.b b.2.1 b.b.1 b.b.2))
def aFP (afI:aDl)(x0:Int)(x1:Int)(x2:Bool)(x3:Int)(x4:Int)(x5:Bool):Pg aFO:=let y0:=wU (x0-x3);let y1:=wU (x3-x0);let y2:=wU (x0+x3);let y3:=wU (x1+x4);ae (x2==x5) (ae (decide (y3<x1)) (ret (wU (y2+1),y3,x2)) (ret (y2,y3,x2))) (opt (afI x0 x1 x2 x3 x4 x5) λd=>ae d (ae (decide (x4<x1)) (ret (wU (y1-1),wU (x4-x1),x5)) (ret (y1,wU (x4-x1),x5))) (ae (decide (x1<x4)) (ret (wU (y0-1),wU (x1-x4),x2)) (ret (y0,wU (x1-x4),x2))))
def acT:=λx0 x1 x2 x3 x4 x5=>(aFP arb x0 x1 x2 x3 x4 x5).val
theorem aPT:∀afI,D0 [aDm afI] 211 aFN (lf arc) λb=>aFP afI b.1.1 b.1.2.1 b.1.b b.2.1 b.b.1 b.b.2:=λ_ b=>by kernel_rfl
theorem aFQ [ax]:SC (awj acT):=s0 (.c aNs (.nil _)) (aPT arb)
def apf:=qa (pl (c ah9 aEM) nil)
def WB:=qe aGe
abbrev apg:=WB.B
abbrev aph:=Int->Int->Bool->Int->Option apg
def api (g:aph):Ct:=(150,FC apf (lf WB) (λb=>g b.1.1 b.1.2.1 b.1.b b.2))
def tG:=qs (st (pr (us 1 (c an (cu F9 (us 1 (cu aIp (cu Xg (c an (cl ai (us 63 nil))))))))) (pl (c (so aAA) (cu (so (cu aAy (cu aAy (cu ac3 nil)))) (cl (so aAA) nil))) nil)))
def az5:=qs (st (pr (us 1 (c an (cu F9 (us 1 (cu aIp (cu Xg (c an (c ai (us 4 (c ai (cl ab (us 57 nil)))))))))))) (pl (c (so aAA) (cu (so (cu aAy (cu aAy (cu ac3 nil)))) (cl (so aAA) nil))) nil)))
abbrev HB:=((Int×Int×Int×Bool)×(Int×Int×Bool)×Int×Int×Bool)
def ahI {ρ:Type}(x:HB)(K:AX->St->Option ρ):Option ρ:=(λd=>K (.ex 0) (az5.em ((d.1.1,d.1.2.1,d.1.b.1,d.1.b),d.2))) x
def ahJ (d:tG.B):PL tG HB:=let n4:=d.2.1;let n3:=d.1.2;let n2:=d.2.2;let n1:=d.1.1;let y0:=wI (n3.2-1);let y1:=decide (n3.2>=0);let y2:=decide (n3.2>=64);let y3:=wU (wI (Int.ofNat (BitVec.toNat (BitVec.ofInt 64 n3.2&&&BitVec.ofInt 64 63))));let y4:=2^min (Int.toNat y3) 64;let y5:= !decide (y3<0);let y6:=wU (Int.ofNat (BitVec.toNat (BitVec.ofInt 64 (wU (n3.1*2))|||BitVec.ofInt 64 (wU (Int.ofNat (BitVec.toNat (BitVec.ofInt 64 (Int.fdiv n4.1 y4)&&&BitVec.ofInt 64 1)))))));let y7:=wU (Int.ofNat (BitVec.toNat (BitVec.ofInt 64 (wU (n3.1*2))|||BitVec.ofInt 64 (wU (Int.ofNat (BitVec.toNat (BitVec.ofInt 64 (Int.fdiv n4.2.1 y4)&&&BitVec.ofInt 64 1)))))));ae y1 (ae y5 (ae y2 (ae y5 (ae (decide (y6>=n1)) (ae y2 (ae y5 (ret (Sum.inl ((n1,wU (y6-n1),y0),n4,wU (Int.ofNat (BitVec.toNat (BitVec.ofInt 64 n2.1|||BitVec.ofInt 64 (wU (1*y4))))),n2.2))) no) (ae y5 (ret (Sum.inl ((n1,wU (y6-n1),y0),n4,n2.1,wU (Int.ofNat (BitVec.toNat (BitVec.ofInt 64 n2.2.1|||BitVec.ofInt 64 (wU (1*y4))))),n2.2.2))) no)) (ret (Sum.inl ((n1,y6,y0),d.2)))) no) (ae (decide (y7>=n1)) (ae y2 (ae y5 (ret (Sum.inl ((n1,wU (y7-n1),y0),n4,wU (Int.ofNat (BitVec.toNat (BitVec.ofInt 64 n2.1|||BitVec.ofInt 64 (wU (1*y4))))),n2.2))) no) (ae y5 (ret (Sum.inl ((n1,wU (y7-n1),y0),n4,n2.1,wU (Int.ofNat (BitVec.toNat (BitVec.ofInt 64 n2.2.1|||BitVec.ofInt 64 (wU (1*y4))))),n2.2.2))) no)) (ret (Sum.inl ((n1,y7,y0),d.2))))) no) (ret (Sum.inr ((n1,n3.1,n3.2,y1),d.2)))
def ahK:=bD (ahJ) 2000
def apj (ND:ams)(dA:LT tG HB)(x0:Int)(x1:Int)(x2:Bool)(x3:Int):Pg apg:=opt (dA ((x3,0,127),(x0,x1,x2),0,0,x2)) λd=>ae (decide (d.1.2.1>=wU (d.1.1-d.1.2.1))) (opt (ND d.2.2.1 d.2.2.2.1 d.2.2.2.2 0 1 d.2.2.2.2) λd=>ret d) (ret d.2.2)
def aaZ:=λx0 x1 x2 x3=>(apj acT ahK x0 x1 x2 x3).val
abbrev Oi:=ams×(LT tG HB)
def aa0 (p:Oi):KK:=⟨[awj p.1],⟨[⟨4,(0::3::rg 8 63 []),[]⟩],[fg 4 0 tG ahI p.2],[],[],(some ⟨0,(rg 0 4 (rg 5 66 [])),[]⟩)⟩,0,150⟩
theorem awk (p:Oi):LI (aa0 p) 4 tG ahI (ahJ):=λ_ d c K=>by kernel_rfl
theorem aEw (p:Oi):D2 (aa0 p) apf (lf WB) λb=>apj p.1 p.2 b.1.1 b.1.2.1 b.1.b b.2:=λb=>by kernel_rfl
abbrev aa1:Oi:=(acT,ahK)
theorem aEx [ax]:SC (api aaZ):=sc (kS (k:=aa0 aa1) (.c aFQ (.nil _)) [4] [] ⟨kL (awk aa1),trivial⟩ trivial (aEw aa1))
def apk:=qa (pr (cu aP (cl ah9 nil)) bB)
def WC:=qe oQ
abbrev apl:=WC.B
abbrev aa2:=Int->Int->Bool->Bool->Option apl
def aa3 (g:aa2):Ct:=(146,FC apk (lf WC) (λb=>g b.1.1 b.1.2.1 b.1.b b.2))
def apm (x0:Int)(x1:Int)(x2:Bool)(x3:Bool):Pg apl:=ae (decide (x0>0)) (ae x2 (ret (-1152921504606846976,true)) (ret (1152921504606846976,true))) (ae (decide (x1>1152921504606846976)) (ae x2 (ret (-1152921504606846976,true)) (ret (1152921504606846976,true))) (ae x2 (ret (wI (0-wI x1),x3)) (ret (wI x1,x3))))
def GX:=λx0 x1 x2 x3=>(apm x0 x1 x2 x3).val
theorem aEy:D1 [] [0] 146 apk (lf WC) λb=>apm b.1.1 b.1.2.1 b.1.b b.2:=λb=>by kernel_rfl
theorem apn [ax]:SC (aa3 GX):=s0 (.nil _) aEy
def acU:=qa (pr (cu aP C4) bB)
def Lm:=qe oQ
abbrev acV:=Lm.B
abbrev acW:=Int->Int->Int->Bool->Option acV
def acX (g:acW):Ct:=(85,FC acU (lf Lm) (λb=>g b.1.1 b.1.2.1 b.1.b b.2))
def acY (kt:aaW)(EZ:awh)(xG:aq8)(Oj:aph)(pV:aa2)(x0:Int)(x1:Int)(x2:Int)(x3:Bool):Pg acV:=opt (kt x0 x3) λd=>opt (kt x1 d.2) λaj=>opt (EZ d.1 aj.1) λd=>opt (kt x2 aj.2) λaF=>ae (aF.1==0) (ae (d.1==0) (ae (d.2.1==0) (ret (0,true)) (ae d.2.2 (ret (-1152921504606846976,true)) (ret (1152921504606846976,true)))) (ae d.2.2 (ret (-1152921504606846976,true)) (ret (1152921504606846976,true)))) (opt (xG aF.1) λbx=>opt (Oj d.1 d.2.1 (!d.2.2==decide (aF.1<0)) bx) λd=>opt (pV d.1 d.2.1 d.2.2 aF.2) λd=>ret d)
def NF:=λx0 x1 x2 x3=>(acY GW acS Wz aaZ GX x0 x1 x2 x3).val
theorem awl:∀kt EZ xG Oj pV,D0 [aaX kt,awi EZ,aq9 xG,api Oj,aa3 pV] 85 acU (lf Lm) λb=>acY kt EZ xG Oj pV b.1.1 b.1.2.1 b.1.b b.2:=λ_ _ _ _ _ b=>by kernel_rfl
theorem awm [ax]:SC (acX NF):=s0 (.c ao9 (.c aFM (.c aDi (.c aEx (.c apn (.nil _)))))) (awl GW acS Wz aaZ GX)
def alZ:=qa (pr (cu aP fU) bB)
def Rz:=qe oQ
abbrev al0:=Rz.B
abbrev al1:=Int->Bool->Option al0
def al2 (g:al1):Ct:=(42,FC alZ (lf Rz) (λb=>g b.1 b.2))
def al3 (E0:acW)(x0:Int)(x1:Bool):Pg al0:=opt (E0 x0 1073741824 1000000 x1) λd=>ret d
def WD:=λx0 x1=>(al3 NF x0 x1).val
theorem aDo:∀E0,D0 [acX E0] 42 alZ (lf Rz) λb=>al3 E0 b.1 b.2:=λ_ b=>by kernel_rfl
theorem aDp [ax]:SC (al2 WD):=s0 (.c awm (.nil _)) (aDo NF)
def apo:=qa (pl (c ah9 fU) nil)
def WE:=qe aGe
abbrev apq:=WE.B
abbrev apr:=Int->Int->Bool->Int->Option apq
def aps (g:apr):Ct:=(147,FC apo (lf WE) (λb=>g b.1.1 b.1.2.1 b.1.b b.2))
def apt (ND:ams)(x0:Int)(x1:Int)(x2:Bool)(x3:Int):Pg apq:=let y0:=wI (x3-1);let y1:=wU (wI (x3-64));let y2:=wU (wI (64-x3));let y3:=wU y0;let y4:=wU (wI (x3-65));let y5:=2^min (Int.toNat (wU x3)) 64;let y6:= !decide (wU x3<0);ae (x3==0) (ret (x0,x1,x2)) (ae (decide (y0>=64)) (ae (!decide (y4<0)) (opt (ND x0 x1 x2 (wU (1*2^min (Int.toNat y4) 64)) 0 x2) λd=>ae (decide (x3>=64)) (ae (!decide (y1<0)) (ret (0,Int.fdiv d.1 (2^min (Int.toNat y1) 64),d.2.2)) no) (ae y6 (ae y6 (ae (!decide (y2<0)) (ret (Int.fdiv d.1 y5,wU (Int.ofNat (BitVec.toNat (BitVec.ofInt 64 (Int.fdiv d.2.1 y5)|||BitVec.ofInt 64 (wU (d.1*2^min (Int.toNat y2) 64))))),d.2.2)) no) no) no)) no) (ae (!decide (y3<0)) (opt (ND x0 x1 x2 0 (wU (1*2^min (Int.toNat y3) 64)) x2) λd=>ae (decide (x3>=64)) (ae (!decide (y1<0)) (ret (0,Int.fdiv d.1 (2^min (Int.toNat y1) 64),d.2.2)) no) (ae y6 (ae y6 (ae (!decide (y2<0)) (ret (Int.fdiv d.1 y5,wU (Int.ofNat (BitVec.toNat (BitVec.ofInt 64 (Int.fdiv d.2.1 y5)|||BitVec.ofInt 64 (wU (d.1*2^min (Int.toNat y2) 64))))),d.2.2)) no) no) no)) no))
def aa4:=λx0 x1 x2 x3=>(apt acT x0 x1 x2 x3).val
theorem aEz:∀ND,D0 [awj ND] 147 apo (lf WE) λb=>apt ND b.1.1 b.1.2.1 b.1.b b.2:=λ_ b=>by kernel_rfl
theorem aEA [ax]:SC (aps aa4):=s0 (.c aFQ (.nil _)) (aEz acT)
def apu:=qa (pr (cu aP C4) bB)
def WG:=qe oQ
abbrev apv:=WG.B
abbrev apw:=Int->Int->Int->Bool->Option apv
def apx (g:apw):Ct:=(84,FC apu (lf WG) (λb=>g b.1.1 b.1.2.1 b.1.b b.2))
def apy (kt:aaW)(EZ:awh)(Ol:apr)(pV:aa2)(x0:Int)(x1:Int)(x2:Int)(x3:Bool):Pg apv:=opt (kt x0 x3) λd=>opt (kt x1 d.2) λaj=>opt (EZ d.1 aj.1) λd=>opt (Ol d.1 d.2.1 d.2.2 x2) λd=>opt (pV d.1 d.2.1 d.2.2 aj.2) λd=>ret d
def aa5:=λx0 x1 x2 x3=>(apy GW acS aa4 GX x0 x1 x2 x3).val
theorem aEB:∀kt EZ Ol pV,D0 [aaX kt,awi EZ,aps Ol,aa3 pV] 84 apu (lf WG) λb=>apy kt EZ Ol pV b.1.1 b.1.2.1 b.1.b b.2:=λ_ _ _ _ b=>by kernel_rfl
theorem aEC [ax]:SC (apx aa5):=s0 (.c ao9 (.c aFM (.c aEA (.c apn (.nil _))))) (aEB GW acS aa4 GX)
def ayO:=qa (pr (cu aP wY) bB)
def afJ:=qe oQ
abbrev ayP:=afJ.B
abbrev ayQ:=Int->Int->Bool->Option ayP
def ayR (g:ayQ):Ct:=(41,FC ayO (lf afJ) (λb=>g b.1.1 b.1.2 b.2))
def ayS (Om:apw)(x0:Int)(x1:Int)(x2:Bool):Pg ayP:=opt (Om x0 x1 30 x2) λd=>ret d
def al4:=λx0 x1 x2=>(ayS aa5 x0 x1 x2).val
theorem aKD:∀Om,D0 [apx Om] 41 ayO (lf afJ) λb=>ayS Om b.1.1 b.1.2 b.2:=λ_ b=>by kernel_rfl
theorem aKE [ax]:SC (ayR al4):=s0 (.c aEC (.nil _)) (aKD aa5)
def aug:=qa (pl wY nil)
def aa6:=qe (res (pl (aa (c gi (c gi (cu aT (cu aT (cu aT (cu aT (cu aT jO)))))))) (pu nil nil)))
abbrev auh:=aa6.B
abbrev Ln:=Int->Int->Option auh
def afK (g:Ln):Ct:=(13,FC aug (lf aa6) (λb=>g b.1 b.2))
def aui (Lo:al1)(YL:ayQ)(x0:Int)(x1:Int):Pg auh:=opt (Lo x1 false) λd=>opt (YL 10529810258 d.1 d.2) λd=>ret (x0,x1,wI (0-d.1))
def A5:=λx0 x1=>(aui WD al4 x0 x1).val
theorem aH7:∀Lo YL,D0 [al2 Lo,ayR YL] 13 aug (lf aa6) λb=>aui Lo YL b.1 b.2:=λ_ _ b=>by kernel_rfl
theorem auj [ax]:SC (afK A5):=s0 (.c aDp (.c aKE (.nil _))) (aH7 WD al4)
def rR:=qa (pu (cu dy nil) (cd oy λb0=>(c jT (c lk (c (cl (gs b0.c.1 lg) nil) (cd oR λb4=>(cd na λb5=>(cd nc λb6=>(cd nd λb7=>(cd nh λb8=>(cd ni λb9=>(c kC (cd pX λpQ=>(c (cl (gs b0.e jk) nil) (c (cl (gs b4.b.1 aA) nil) (c (cl (gs b5.b.1 aA) nil) (c (cl (gs b6.b.1 aA) nil) (c (cl (gs b7.b.1 aA) nil) (c (cl (gs b8.b.1 aA) nil) (c (cl (gs b9.b.1 aA) nil) (cl (cl (gs pQ.b fX) nil) nil)))))))))))))))))))))
def Ej:=qe (res (pl (pw (c ac6 (cl aic nil))) (pu aii nil)))
abbrev Si:=Ej.B
abbrev F5:=rR.B->Option Si
def F6 (g:F5):Ct:=(20,FC rR (lf Ej) g)
def Sj (x:rR.B):Pg Si:=ret (x.1.2.2.1,x.1.2.2.2.1)
def rS:=λx=>(Sj x).val
theorem anb:D0 [] 20 rR (lf Ej) λb=>Sj b:=λb=>by kernel_rfl
theorem Sk [ax]:SC (F6 rS):=s0 (.nil _) anb
def Jb:=qa (pu (cu F9 nil) (cd (c gi (c gi (cl (gc (wX 1 11)) nil))) λb0=>(cl (cl (gs b0.b fX) nil) nil)))
def xH:=qe (res (pr aKX (pu auy aAK)))
abbrev Jc:=xH.B
abbrev Jd:=Int->Int->Nat->NI->NI->NI->NI->NI->NI->NI->NI->NI->NI->NI->Option Jc
def Je (g:Jd):Ct:=(46,FC Jb (lf xH) (λb=>g b.1.1 b.1.2.1 b.1.b b.2.1 b.b.1 b.b.2.1 b.c.1 b.c.2.1 b.c.b.1 b.c.b.2.1 b.d.1 b.d.2.1 b.d.b.1 b.d.b.2))
def za (x0:Int)(x1:Int)(x2:Nat)(x3:Nat->Int)(x4:Nat->Int)(x5:Nat->Int)(x6:Nat->Int)(x7:Nat->Int)(x8:Nat->Int)(x9:Nat->Int)(fQ:Nat->Int)(fR:Nat->Int)(zF:Nat->Int)(x13:Nat->Int):Pg Jc:=let y0:=0+x2;ae (Nat.ble (y0*88) 140737488355328) (ret (y0,x2,x3,x4,x5,x6,x7,x8,x9,fQ,fR,zF,x13)) no
def rp:=λx0 x1 x2 x3 x4 x5 x6 x7 x8 x9 fQ fR zF x13=>(za x0 x1 x2 x3 x4 x5 x6 x7 x8 x9 fQ fR zF x13).val
theorem acZ:D0 [] 46 Jb (lf xH) λb=>za b.1.1 b.1.2.1 b.1.b b.2.1 b.b.1 b.b.2.1 b.c.1 b.c.2.1 b.c.b.1 b.c.b.2.1 b.d.1 b.d.2.1 b.d.b.1 b.d.b.2:=λb=>by kernel_rfl
theorem ac0 [ax]:SC (Je rp):=s0 (.nil _) acZ
def uF:=qa (pu (cu dy nil) (cd oy λb0=>(c jT (c lk (c (cl (gs b0.c.1 lg) nil) (cd oR λb4=>(cd na λb5=>(cd nc λb6=>(cd nd λb7=>(cd nh λb8=>(cd ni λb9=>(c kC (cd pX λpQ=>(c (cl (gs b0.e jk) nil) (c (cl (gs b4.b.1 aA) nil) (c (cl (gs b5.b.1 aA) nil) (c (cl (gs b6.b.1 aA) nil) (c (cl (gs b7.b.1 aA) nil) (c (cl (gs b8.b.1 aA) nil) (c (cl (gs b9.b.1 aA) nil) (cl (cl (gs pQ.b fX) nil) nil)))))))))))))))))))))
def F7:=qe (res (pr (ac (wX 20 11)) (pu aii aAK)))
abbrev Iu:=F7.B
abbrev A6:=uF.B->Option Iu
def Iv (g:A6):Ct:=(16,FC uF (lf F7) g)
def Iw (rq:Jd)(x:uF.B):Pg Iu:=let n2:=x.2.2.2.2.2.2.2.2.2.2.2;let n1:=n2.2.2.2.2.2.2.2.2;let n3:=n1.2.2.2.2.2;ae (Nat.beq n2.1.2.2 n2.1.2.2) (opt (rq n2.1.1 n2.1.2.1 n2.1.2.2 n1.1 n1.2.1 n1.2.2.1 n1.2.2.2.1 n1.2.2.2.2.1 n3.1 n3.2.1 n3.2.2.1 n3.2.2.2.1 n3.2.2.2.2.1 n3.2.2.2.2.2) λd=>ret d) no
def mC:=λx=>(Iw rp x).val
theorem ard:∀rq,D0 [Je rq] 16 uF (lf F7) λb=>Iw rq b:=λ_ b=>by kernel_rfl
theorem WH [ax]:SC (Iv mC):=s0 (.c ac0 (.nil _)) (ard rp)
def wV:=qa (pr (cu dy fU) (cd oy λb0=>(c jT (c lk (c (cl (gs b0.c.1 lg) nil) (cd oR λb4=>(cd na λb5=>(cd nc λb6=>(cd nd λb7=>(cd nh λb8=>(cd ni λb9=>(c kC (cd pX λpQ=>(c (cl (gs b0.e jk) nil) (c (cl (gs b4.b.1 aA) nil) (c (cl (gs b5.b.1 aA) nil) (c (cl (gs b6.b.1 aA) nil) (c (cl (gs b7.b.1 aA) nil) (c (cl (gs b8.b.1 aA) nil) (c (cl (gs b9.b.1 aA) nil) (cl (cl (gs pQ.b fX) nil) nil)))))))))))))))))))))
def Cq:=qe (res (pl (aa gJ) (pu aii nil)))
abbrev PO:=Cq.B
abbrev al5:=wV.B->Option PO
def PR (g:al5):Ct:=(17,FC wV (lf Cq) g)
def PS (yZ:acp)(x:wV.B):Pg PO:=let n1:=x.2.2.2.2.2;opt (yZ x.1) λd=>ae (!d) (ret (0,0,0,0,0)) (ae (aX x.1 6) (ae (x.1==5) (ret n1.2.2.2.2.2.1.1) (ae (x.1==4) (ret n1.2.2.2.2.1.1) (ae (x.1==3) (ret n1.2.2.2.1.1) (ae (x.1==2) (ret n1.2.2.1.1) (ae (x.1==1) (ret n1.2.1.1) (ret n1.1.1)))))) no)
def PU:=λx=>(PS yP x).val
theorem al6:∀yZ,D0 [amp yZ] 17 wV (lf Cq) λb=>PS yZ b:=λ_ b=>by kernel_rfl
theorem al7 [ax]:SC (PR PU):=s0 (.c av5 (.nil _)) (al6 yP)
def A7:=qa (pu (cu Tj nil) (cd adb λb0=>(cl (cl (gs b0.b.1 aA) nil) nil)))
def F8:=qe aLq
abbrev WI:=F8.B
abbrev WJ:=A7.B->Option WI
def WK (g:WJ):Ct:=(49,FC A7 (lf F8) g)
def WL (x:A7.B):Pg WI:=ret (Int.ofNat x.1.2.2.1)
def Ix:=λx=>(WL x).val
theorem are:D0 [] 49 A7 (lf F8) λb=>WL b:=λb=>by kernel_rfl
theorem arf [ax]:SC (WK Ix):=s0 (.nil _) are
def CX:=qa (pr (cu dy fU) (cd oy λb0=>(c jT (c lk (c (cl (gs b0.c.1 lg) nil) (cd oR λb4=>(cd na λb5=>(cd nc λb6=>(cd nd λb7=>(cd nh λb8=>(cd ni λb9=>(c kC (cd pX λpQ=>(c (cl (gs b0.e jk) nil) (c (cl (gs b4.b.1 aA) nil) (c (cl (gs b5.b.1 aA) nil) (c (cl (gs b6.b.1 aA) nil) (c (cl (gs b7.b.1 aA) nil) (c (cl (gs b8.b.1 aA) nil) (c (cl (gs b9.b.1 aA) nil) (cl (cl (gs pQ.b fX) nil) nil)))))))))))))))))))))
def Iy:=qe aRY
abbrev YM:=Iy.B
abbrev auk:=CX.B->Option YM
def YN (g:auk):Ct:=(21,FC CX (lf Iy) g)
def YO (yZ:acp)(iP:WJ)(x:CX.B):Pg YM:=let n4:=x.2.2.2.2.2;let n1:=n4.2;let n3:=n1.2.2;let n2:=n3.2.2.2.2.2.2;opt (yZ x.1) λd=>ae (!d) (ret 0) (ae (aX x.1 6) (ae (x.1==5) (ae (Nat.beq n3.2.2.1.2.2.1 n3.2.2.1.2.2.1) (opt (iP (n3.2.2.1,n2.2.2.2.2.2.1)) λd=>ret d) no) (ae (x.1==4) (ae (Nat.beq n3.2.1.2.2.1 n3.2.1.2.2.1) (opt (iP (n3.2.1,n2.2.2.2.2.1)) λd=>ret d) no) (ae (x.1==3) (ae (Nat.beq n3.1.2.2.1 n3.1.2.2.1) (opt (iP (n3.1,n2.2.2.2.1)) λd=>ret d) no) (ae (x.1==2) (ae (Nat.beq n1.2.1.2.2.1 n1.2.1.2.2.1) (opt (iP (n1.2.1,n2.2.2.1)) λd=>ret d) no) (ae (x.1==1) (ae (Nat.beq n1.1.2.2.1 n1.1.2.2.1) (opt (iP (n1.1,n2.2.1)) λd=>ret d) no) (ae (Nat.beq n4.1.2.2.1 n4.1.2.2.1) (opt (iP (n4.1,n2.1)) λd=>ret d) no)))))) no)
def YP:=λx=>(YO yP Ix x).val
theorem aul:∀yZ iP,D0 [amp yZ,WK iP] 21 CX (lf Iy) λb=>YO yZ iP b:=λ_ _ b=>by kernel_rfl
theorem aum [ax]:SC (YN YP):=s0 (.c av5 (.c arf (.nil _))) (aul yP Ix)
end Go.Proofs.YtcmfbkneahoonaaGreat
