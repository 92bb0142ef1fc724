/-
  Parts of the proof: Q6 TSp TGa TGu TGs TGm TGf TGg TDn
-/
import Derived.Test.YtldgljclcgaibaaGreatZAE
import Derived.Test.YtldgljclcgaibaaGreatZAG
import Derived.Test.YtldgljclcgaibaaGreatZAH
import Derived.Test.YtldgljclcgaibaaGreatZAK
open Nat renaming beq→z9,ble→wr,blt→wl
open Int renaming toNat→z4,ofNat→ws
open Sum renaming inl→ww,inr→wt,elim→t9
set_option linter.unusedVariables false
set_option linter.unusedSimpArgs false
set_option maxRecDepth 100000
set_option maxHeartbeats 4000000
noncomputable section
namespace Go.Proofs.YtldgljclcgaibaaGreat
open Go.Ab Go.Ab.Pg Go.Ab.Rq
def mb:=qa (pr (cu eW ab1) (cd qL λb0=>(c lK (c mJ (c (cl (gs b0.c.1 mI) nil) (cd rj λb4=>(cd pn λb5=>(cd px λb6=>(cd py λb7=>(cd pz λb8=>(cd pA λb9=>(c ml (cd sQ λuQ=>(c (cl (gs b0.e kZ) nil) (c (cl (gs b4.b.1 aB) nil) (c (cl (gs b5.b.1 aB) nil) (c (cl (gs b6.b.1 aB) nil) (c (cl (gs b7.b.1 aB) nil) (c (cl (gs b8.b.1 aB) nil) (c (cl (gs b9.b.1 aB) nil) (cl (cl (gs uQ.b ia) nil) nil)))))))))))))))))))))
def aqk:=qe (res (pu Wt (pr (c (B9 (a 26 sS (c gb (c jw (a 2 uA (cu aiV (cu aiW (c aKt (au 6 agm (cu aqx (a 4 wJ (cu aqy (c gb (c gi (a 3 jV (c gb (c gb (c gb (c gi (c gi (c gi (a 10 xY (cl (gc (fJ (pu azY (pu (ox (pu cX (pu cX (nat 10)))) (pl gH (pu (nat 10) fL)))))) nil))))))))))))))))))))))) (cu fV (cu fV (cu fV (c (B9 aEs) (c (B9 as9) (c (B9 aW3) (c (B9 aW4) (c (B9 aW5) (c (B9 aW6) (c aEm (cl (B9 (c gi (c gi (cl (gc (fJ (pu (nat 27) (pu (ox (pu cX (pu cX El))) (pl gH (pu El fL)))))) nil)))) (cu fV aWo))))))))))))) aQx)))
abbrev oD:=(((J7×Bool×NI×(NI×NI)×Nat×uW×Bool×Int×nJ×Bool×Bool×Bool×Int×Int×Int×HS×Nat)×cD×cD×cD×cD×cD×cD×Rt×Int×Int×Nat)×HT×fw×fw×fw×fw×fw×fw×Nat×NI×NI×NI×NI×NI×NI×NI×NI×NI×NI×NI)
def ZH:oD->T:=λd=>lf aqk (d.1,d.2.1,(d.1.2.1.b.1,d.b.1),(d.1.b.1.b.1,d.b.2.1),(d.1.b.2.1.b.1,d.c.1),(d.1.c.1.b.1,d.c.2.1),(d.1.c.2.1.b.1,d.c.b.1),(d.1.c.b.1.b.1,d.c.b.2.1),d.d)
abbrev K0:=mb.B->Option oD
def ZI (g:K0):Ct:=(64,FC mb ZH g)
def dh:=qs (st (dp (cu eW (us 2 (cu aaj (cu Oy (c ai (us 53 (c ai (us 10 (c (ac aQf) (c ai (cl ai (us 126 nil)))))))))))) λv=>(pl (c aEw (c qJ (c qK (c sR (cd J9 λb4=>(cd J' λb5=>(cd Ka λb6=>(cd Kb λb7=>(cd Kc λb8=>(cd agp λb9=>(c pk (c ago (c xZ (cu nO (cu nO (cu nO (cu nO (cu nO (cu nO (cu nO (c Fu (c (so (cl (gs v.b.1 aB) nil)) (c xZ (c (so (cl (gs b4.b.1 aB) nil)) (c (so (cl (gs b5.b.1 aB) nil)) (c (so (cl (gs b6.b.1 aB) nil)) (c (so (cl (gs b7.b.1 aB) nil)) (c (so (cl (gs b8.b.1 aB) nil)) (c (so (cl (gs b9.b.1 aB) nil)) LO))))))))))))))))))))))))))))) Wz)))
def aoS:=qs (st (pr (cu eW (us 2 (cu aaj (cu Oy (c ai (us 53 (c ai (us 10 (c (ac aQf) (c ai (c ai (cl ab (us 125 nil))))))))))))) (pl (c aEw (c qJ (c qK (c sR (c J9 (c J' (c Ka (c Kb (c Kc (c agp (c pk (c ago (c xZ (cu nO (cu nO (cu nO (cu nO (cu nO (cu nO (cu nO (c Fu (c HW Fv)))))))))))))))))))))) Wz)))
abbrev gq:=((Int×Int×Nat×Int×Int×Bool)×(J7×Bool×NI×(NI×NI)×Nat×uW×Bool×Int×nJ×Bool×Bool×Bool×Int×Int×Int×HS×Nat)×(nJ×Int×Int)×S9×Ws×cD×cD×cD×cD×cD×cD×Rt×xT×HT×aD5×fw×HT×fw×fw×fw×fw×fw×fw×Nat×NI×NI×NI×NI×NI×NI×NI×NI×NI×NI×NI)
def SP {ρ:Type}(x:gq)(K:AX->St->Option ρ):Option ρ:=(λd=>K (.ex 2) (aoS.em (d.1,d.2.1,d.b.1,d.b.2.1,d.c.1,d.c.2.1,d.c.b.1,d.c.b.2.1,d.d.1,d.d.2.1,d.d.b.1,d.d.b.2.1,d.d.c.1,d.d.c.2.1,d.d.c.b.1,(d.1.b.1,d.d.c.b.2.1),d.e.1,(d.c.2.1.b.1,d.e.2.1),(d.c.b.1.b.1,d.e.b.1),(d.c.b.2.1.b.1,d.e.b.2.1),(d.d.1.b.1,d.e.c.1),(d.d.2.1.b.1,d.e.c.2.1),(d.d.b.1.b.1,d.e.c.b.1),d.e.c.b.2))) x
def tL (axv:NK)(d:dh.B):PL dh gq:=let bn:=d.2.1.2.2.2.2;let n15:=bn.2.2.2.2.2.2.2.2.2.2.2.2;let n8:=d.1.2.2;let n18:=n8.2.2;let n6:=d.2.2.2;let bA:=n6.2.2.1;let n3:=n6.2.2.2;let n16:=n3.2.1;let bR:=n3.2.2.1;let n7:=n3.2.2.2;let n17:=n7.2.1;let n2:=n7.2.2.2;let n5:=n2.2.2.2;let bx:=n5.2.2.2.2;let bc:=n5.1.2.2.2;let n4:=bx.2.2.2.2.2;let n9:=n4.2.2.2.2.2;let n1:=(d.1.1,d.1.2.1,n8.1,n8.2.1,wI (n18+1));let y0:=0+z4 n18;let y1:=decide (n18<n8.2.1);ae y1 (ae (bf n18 n8.1) (ae (z9 bn.1 bn.1) (ae (z9 n15 n15) (ae (z9 bA.2.2.1 bA.2.2.1) (ae (z9 n3.1.2.2.1 n3.1.2.2.1) (ae (z9 n16.2.2.1 n16.2.2.1) (ae (z9 bR.2.2.1 bR.2.2.1) (ae (z9 n7.1.2.2.1 n7.1.2.2.1) (ae (z9 n17.2.2.1 n17.2.2.1) (ae (z9 n2.1.2.2 n2.1.2.2) (opt (axv ((d.1.1,n5.1.1 y0,n5.1.2.1 y0,n5.1.2.2.1 y0,bc.1 y0,bc.2.1 y0,bc.2.2.1 y0,bc.2.2.2.1 y0,bc.2.2.2.2.1 y0,bc.2.2.2.2.2 y0),d.2.1,d.2.2.1,n6.1,(sh8 0 n6.2.1.2),bA,n3.1,n16,bR,n7.1,n17,n7.2.2.1,n2.1,(aqr 0 n5.2.1.2),(sf 0 n5.2.2.1),(sf 0 n5.2.2.2.1),(sf 0 bx.1),(sf 0 bx.2.1),(sf 0 bx.2.2.1),(sf 0 bx.2.2.2.1),λj=>n4.1 (0+j),λj=>n4.2.1 (0+j),λj=>n4.2.2.1 (0+j),λj=>n4.2.2.2.1 (0+j),λj=>n4.2.2.2.2.1 (0+j),λj=>n9.1 (0+j),λj=>n9.2.1 (0+j),λj=>n9.2.2.1 (0+j),λj=>n9.2.2.2.1 (0+j),λj=>n9.2.2.2.2.1 (0+j),λj=>n9.2.2.2.2.2 (0+j))) λak=>sm ak (λaK=>ret (ww (n1,aK.1,d.2.2.1,n6.1,n6.2.1,bA,n3.1,n16,bR,n7.1,n17,aK.2,n2))) (λaK=>ret (ww (n1,aK.1.1,d.2.2.1,n6.1,n6.2.1,bA,n3.1,n16,bR,n7.1,n17,aK.1.2,n2.1,n2.2.1,n2.2.2.1,n5.1,(aK.1.1.2.2.2.2.2.2.2.2.2.2.2.2.2.2.2.2,aK.2),n5.2.2)))) no) no) no) no) no) no) no) no) no) no) (ret (wt ((d.1.1,d.1.2.1,n8.1,n8.2.1,n18,y1),d.2)))
def oY:=bE (tL qf) 2000
def dB:=qs (st (pr (cu eW (us 2 (cu aaj (cu Oy (us 3 (cu aVv (us 92 (cl ai (us 97 nil))))))))) (pl (c aEw (c qJ (c qK (c sR (cd J9 λb4=>(cd J' λb5=>(cd Ka λb6=>(cd Kb λb7=>(cd Kc λb8=>(cd agp λb9=>(c pk (c ago (c xZ (cu nO (cu nO (cu nO (cu nO (cu nO (cu nO (cu nO (c Fu (c aWU (c xZ (c (so (cl (gs b4.b.1 aB) nil)) (c (so (cl (gs b5.b.1 aB) nil)) (c (so (cl (gs b6.b.1 aB) nil)) (c (so (cl (gs b7.b.1 aB) nil)) (c (so (cl (gs b8.b.1 aB) nil)) (c (so (cl (gs b9.b.1 aB) nil)) LO))))))))))))))))))))))))))))) Wz)))
def aoT:=qs (st (pr (cu eW (us 2 (cu aaj (cu Oy (us 3 (cu aVv (us 92 (c ai (cl ab (us 96 nil)))))))))) (pl (c aEw (c qJ (c qK (c sR (c J9 (c J' (c Ka (c Kb (c Kc (c agp (c pk (c ago (c xZ (cu nO (cu nO (cu nO (cu nO (cu nO (cu nO (cu nO (c Fu (c aWU Fv)))))))))))))))))))))) Wz)))
abbrev gr:=((Int×Bool)×(J7×Bool×NI×(NI×NI)×Nat×uW×Bool×Int×nJ×Bool×Bool×Bool×Int×Int×Int×HS×Nat)×(nJ×Int×Int)×S9×Ws×cD×cD×cD×cD×cD×cD×Rt×xT×HT×aD5×(Bool×Bool×Bool×Bool×Bool×Bool×Bool×Bool×Int×Int)×HT×fw×fw×fw×fw×fw×fw×Nat×NI×NI×NI×NI×NI×NI×NI×NI×NI×NI×NI)
def SQ {ρ:Type}(x:gr)(K:AX->St->Option ρ):Option ρ:=(λd=>K (.ex 4) (aoT.em (d.1,d.2.1,d.b.1,d.b.2.1,d.c.1,d.c.2.1,d.c.b.1,d.c.b.2.1,d.d.1,d.d.2.1,d.d.b.1,d.d.b.2.1,d.d.c.1,d.d.c.2.1,d.d.c.b.1,d.d.c.b.2.1,d.e.1,(d.c.2.1.b.1,d.e.2.1),(d.c.b.1.b.1,d.e.b.1),(d.c.b.2.1.b.1,d.e.b.2.1),(d.d.1.b.1,d.e.c.1),(d.d.2.1.b.1,d.e.c.2.1),(d.d.b.1.b.1,d.e.c.b.1),d.e.c.b.2))) x
def tM (adU:Ah)(d:dB.B):PL dB gr:=let n15:=d.2.1;let n7:=d.2.2;let n16:=n7.2.1;let n8:=n7.2.2.1;let n2:=n7.2.2.2;let n17:=n2.2.1;let n9:=n2.2.2.1;let n4:=n2.2.2.2;let n18:=n4.2.1;let bc:=n4.2.2.1;let n1:=n4.2.2.2;let n19:=n1.2.1;let bx:=n1.1.1.2;let bn:=n1.2.2.1;let n6:=n1.2.2.2;let n20:=n6.2.2;let n3:=n6.2.1;let n21:=n3.2.1;let bA:=n3.2.2.1;let n5:=n3.2.2.2;let bR:=n5.2.2;let y0:=wI (d.1+1);let y1:=decide (d.1<6);ae y1 (opt (adU d.1 n6.1.1 n1.1.1.1 bx.1 bx.2.1 bx.2.2.1 bx.2.2.2.1 bx.2.2.2.2 n1.1.2) λak=>ae (bf d.1 6) (ae (d.1==5) (ret (ww (y0,n15,n7.1,n16,n8,n2.1,n17,n9,n4.1,n18,bc,n1.1,n19,bn,n6.1,(n3.1,n21,bA,n5.1,n5.2.1,bR.1,bR.2.1,ak,bR.2.2.2),n20))) (ae (d.1==4) (ret (ww (y0,n15,n7.1,n16,n8,n2.1,n17,n9,n4.1,n18,bc,n1.1,n19,bn,n6.1,(n3.1,n21,bA,n5.1,n5.2.1,bR.1,ak,bR.2.2),n20))) (ae (d.1==3) (ret (ww (y0,n15,n7.1,n16,n8,n2.1,n17,n9,n4.1,n18,bc,n1.1,n19,bn,n6.1,(n3.1,n21,bA,n5.1,n5.2.1,ak,bR.2),n20))) (ae (d.1==2) (ret (ww (y0,n15,n7.1,n16,n8,n2.1,n17,n9,n4.1,n18,bc,n1.1,n19,bn,n6.1,(n3.1,n21,bA,n5.1,ak,bR),n20))) (ae (d.1==1) (ret (ww (y0,n15,n7.1,n16,n8,n2.1,n17,n9,n4.1,n18,bc,n1.1,n19,bn,n6.1,(n3.1,n21,bA,ak,n5.2),n20))) (ret (ww (y0,n15,n7.1,n16,n8,n2.1,n17,n9,n4.1,n18,bc,n1.1,n19,bn,n6.1,(n3.1,n21,ak,n5),n20)))))))) no) (ret (wt ((d.1,y1),d.2)))
def tN:=bE (tM nC) 2000
def gJ:=qs (st (pu aWP (pl (c ayd (c qJ (c qK (c sR (cd (so as9) λb4=>(cd J9 λb5=>(cd J' λb6=>(cd Ka λb7=>(cd Kb λb8=>(cd Kc λb9=>(c pk (c ax6 (c xZ (cu nO (cu nO (cu nO (cu nO (cu nO (cu nO (cu nO (c Fu (c xZ (c (so (cl (gs b4.b.1 aB) nil)) (c (so (cl (gs b5.b.1 aB) nil)) (c (so (cl (gs b6.b.1 aB) nil)) (c (so (cl (gs b7.b.1 aB) nil)) (c (so (cl (gs b8.b.1 aB) nil)) (c (so (cl (gs b9.b.1 aB) nil)) LO)))))))))))))))))))))))))))) Wz)))
def afR:=qs aQE
def afS:=qs aQD
abbrev jO:=((Bool×NI×Int×Int)×(J7×Bool×(NI×NI)×Nat×uW×Int×nJ×Bool×Bool×Bool×Int×Int×Int×HS×Nat)×(nJ×Int×Int)×S9×Ws×cD×cD×cD×cD×cD×cD×Rt×xT×HT×aSg×HT×fw×fw×fw×fw×fw×fw×Nat×NI×NI×NI×NI×NI×NI×NI×NI×NI×NI×NI)⊕(Bool×(J7×Bool×NI×(NI×NI)×Nat×uW×Int×nJ×Bool×Bool×Bool×Int×Int×Int×HS×Nat)×(nJ×Int×Int)×S9×Ws×cD×cD×cD×cD×cD×cD×Rt×xT×HT×aD5×HT×fw×fw×fw×fw×fw×fw×Nat×NI×NI×NI×NI×NI×NI×NI×NI×NI×NI×NI)
def SS {ρ:Type}(x:jO)(K:AX->St->Option ρ):Option ρ:=(t9 (λd=>K .nrm (afR.em (d.1,(d.2.1.1,d.2.1.2.1,d.1.2.1,d.2.1.b.1,d.2.1.b.2.1,d.2.1.c.1,d.1.1,d.2.1.c.2),d.b.1,d.b.2.1,d.c.1,d.c.2.1,d.c.b.1,d.c.b.2.1,d.d.1,d.d.2.1,d.d.b.1,d.d.b.2.1,d.d.c.1,d.d.c.2.1,(d.1.b.1,d.d.c.b.1),d.d.c.b.2.1,(d.c.2.1.b.1,d.e.1),(d.c.b.1.b.1,d.e.2.1),(d.c.b.2.1.b.1,d.e.b.1),(d.d.1.b.1,d.e.b.2.1),(d.d.2.1.b.1,d.e.c.1),(d.d.b.1.b.1,d.e.c.2.1),d.e.c.b))) (λd=>K .nrm (afS.em (d.1,(d.2.1.1,d.2.1.2.1,d.2.1.b.1,d.2.1.b.2.1,d.2.1.c.1,d.2.1.c.2.1,d.1,d.2.1.c.b),d.b.1,d.b.2.1,d.c.1,d.c.2.1,d.c.b.1,d.c.b.2.1,d.d.1,d.d.2.1,d.d.b.1,d.d.b.2.1,d.d.c.1,d.d.c.2.1,d.d.c.b.1,d.d.c.b.2.1,(d.c.2.1.b.1,d.e.1),(d.c.b.1.b.1,d.e.2.1),(d.c.b.2.1.b.1,d.e.b.1),(d.d.1.b.1,d.e.b.2.1),(d.d.2.1.b.1,d.e.c.1),(d.d.b.1.b.1,d.e.c.2.1),d.e.c.b)))) x
def tO (Wk:vO)(d:gJ.B):Pg jO:=let bx:=d.1.2;let n6:=d.2.2.2.2.2;let bR:=n6.2.2.2;let n5:=bx.2.2;let bn:=n5.2.2;let n2:=bR.2.2.2;let bA:=n2.2.2;let n8:=bA.2.2.2;let n1:=n8.2.2.2.2.2;let n9:=n1.2.2.2;let n3:=n9.2.2.2;let bc:=n3.2.2.2;ae bn.2.1 (ae (z9 n2.1.2.2 n2.1.2.2) (opt (Wk ((bx.2.1,bA.1.1),n2.1,bx.1,λj=>n1.2.1 (0+j),λj=>n1.2.2.1 (0+j),λj=>n9.1 (0+j),λj=>n9.2.1 (0+j),λj=>n9.2.2.1 (0+j),λj=>n3.1 (0+j),λj=>n3.2.1 (0+j),λj=>n3.2.2.1 (0+j),λj=>bc.1 (0+j),λj=>bc.2.1 (0+j),λj=>bc.2.2 (0+j))) λak=>let n4:=ak.2.2;let n7:=n4.2.2.2.2.2;let n15:=n7.2.2.2;let y0:=n4.1*11+0;ae (true&&z9 y0 (n2.1.2.2*11)&&true) (ae (true&&wr (0+y0) (n1.1*11+0)) (ret (ww ((bn.2.1,bx.2.1,bA.1.1,ak.1),(d.1.1,ak.2.1,n5.1,n5.2.1,bn.1,bn.2.2),d.2.1,d.2.2.1,d.2.2.2.1,d.2.2.2.2.1,n6.1,n6.2.1,n6.2.2.1,bR.1,bR.2.1,bR.2.2.1,n2.1,n2.2.1,bA.1.2,bA.2.1,bA.2.2.1,n8.1,n8.2.1,n8.2.2.1,n8.2.2.2.1,n8.2.2.2.2.1,n1.1,λj=>bif true&&wl j (0+n4.1) then n4.2.1 j else n1.2.1 j,λj=>bif true&&wl j (0+n4.1) then n4.2.2.1 j else n1.2.2.1 j,λj=>bif true&&wl j (0+n4.1) then n4.2.2.2.1 j else n9.1 j,λj=>bif true&&wl j (0+n4.1) then n4.2.2.2.2.1 j else n9.2.1 j,λj=>bif true&&wl j (0+n4.1) then n7.1 j else n9.2.2.1 j,λj=>bif true&&wl j (0+n4.1) then n7.2.1 j else n3.1 j,λj=>bif true&&wl j (0+n4.1) then n7.2.2.1 j else n3.2.1 j,λj=>bif true&&wl j (0+n4.1) then n15.1 j else n3.2.2.1 j,λj=>bif true&&wl j (0+n4.1) then n15.2.1 j else bc.1 j,λj=>bif true&&wl j (0+n4.1) then n15.2.2.1 j else bc.2.1 j,λj=>bif true&&wl j (0+n4.1) then n15.2.2.2 j else bc.2.2 j))) no) no) no) (ret (wt (bn.2.1,(d.1.1,bx.1,bx.2.1,n5.1,n5.2.1,bn.1,bn.2.2),d.2)))
def jP (d:gJ.B):Option jO:=(tO gh d).val
def dC:=qs (st (pr (cu eW (us 2 (cu aaj (cu Oy (us 54 (cl ai (us 139 nil))))))) (pl (c ayd (c qJ (c qK (c sR (cd (so as9) λb4=>(cd J9 λb5=>(cd J' λb6=>(cd Ka λb7=>(cd Kb λb8=>(cd Kc λb9=>(c pk (c ax6 (c xZ (cu nO (cu nO (cu nO (cu nO (cu nO (cu nO (cu nO (c Fu (c xZ (c (so (cl (gs b4.b.1 aB) nil)) (c (so (cl (gs b5.b.1 aB) nil)) (c (so (cl (gs b6.b.1 aB) nil)) (c (so (cl (gs b7.b.1 aB) nil)) (c (so (cl (gs b8.b.1 aB) nil)) (c (so (cl (gs b9.b.1 aB) nil)) LO)))))))))))))))))))))))))))) Wz)))
def aoU:=qs (st (pr (cu eW (us 2 (cu aaj (cu Oy (us 54 (c ai (cl ab (us 138 nil)))))))) (pl (c ayd (c qJ (c qK (c sR (c (so as9) (c J9 (c J' (c Ka (c Kb (c Kc (c pk (c ax6 (c xZ (cu nO (cu nO (cu nO (cu nO (cu nO (cu nO (cu nO (c Fu Fv))))))))))))))))))))) Wz)))
abbrev gu:=((Int×Bool)×(J7×Bool×NI×(NI×NI)×Nat×uW×Bool×Int×nJ×Bool×Bool×Bool×Int×Int×Int×HS×Nat)×(nJ×Int×Int)×S9×Ws×cD×cD×cD×cD×cD×cD×Rt×xT×HT×aD5×HT×fw×fw×fw×fw×fw×fw×Nat×NI×NI×NI×NI×NI×NI×NI×NI×NI×NI×NI)
def SU {ρ:Type}(x:gu)(K:AX->St->Option ρ):Option ρ:=(λd=>K (.ex 0) (aoU.em (d.1,d.2.1,d.b.1,d.b.2.1,d.c.1,d.c.2.1,d.c.b.1,d.c.b.2.1,d.d.1,d.d.2.1,d.d.b.1,d.d.b.2.1,d.d.c.1,d.d.c.2.1,d.d.c.b.1,d.d.c.b.2.1,(d.c.2.1.b.1,d.e.1),(d.c.b.1.b.1,d.e.2.1),(d.c.b.2.1.b.1,d.e.b.1),(d.d.1.b.1,d.e.b.2.1),(d.d.2.1.b.1,d.e.c.1),(d.d.b.1.b.1,d.e.c.2.1),d.e.c.b))) x
def tP (rU:KJ)(ru:LT dh gq)(d:dC.B):PL dC gu:=let n39:=d.2.1;let n17:=d.2.2;let KU:=n17.2.1;let n4:=n17.2.2;let n30:=n4.2.1;let n19:=n4.2.2.1;let n2:=n4.2.2.2;let n31:=n2.2.1;let n20:=n2.2.2.1;let n5:=n2.2.2.2;let KV:=n5.2.1;let n18:=n5.2.2;let LN:=n18.2.1;let n1:=n18.2.2;let Zu:=n1.2.1;let P6:=n1.1.1;let n6:=n1.2.2;let n32:=n6.2.1;let n21:=n6.1.2.2.2;let bR:=n32.2.2.2;let n3:=n6.2.2;let n45:=n3.2.1;let n22:=n3.1.2.2.2;let n15:=n45.2.2.2;let bA:=n3.2.2;let n23:=bA.1.2.2.2;let n16:=bA.2.1.2.2.2;let y0:=decide (d.1<6);let y1:=z9 n30.2.2.1 n30.2.2.1;let y2:=z9 n19.2.2.1 n19.2.2.1;let y3:=z9 n2.1.2.2.1 n2.1.2.2.1;let y4:=z9 n31.2.2.1 n31.2.2.1;let y5:=z9 n20.2.2.1 n20.2.2.1;let y6:=z9 n5.1.2.2.1 n5.1.2.2.1;ae y0 (ae (bf d.1 6) (ae (d.1==5) (ae y6 (opt (rU (P6,n5.1,λj=>bA.2.1.1 (0+j),λj=>bA.2.1.2.1 (0+j),λj=>bA.2.1.2.2.1 (0+j),λj=>n16.1 (0+j),λj=>n16.2.1 (0+j),λj=>n16.2.2.1 (0+j),λj=>n16.2.2.2.1 (0+j),λj=>n16.2.2.2.2.1 (0+j),λj=>n16.2.2.2.2.2 (0+j))) λak=>ae (z9 ak.1 ak.1) (ae y1 (ae y2 (ae y3 (ae y4 (ae y5 (ae (z9 ak.2.1.2.2.1 ak.2.1.2.2.1) (opt (ru ((d.1,d.1,ak.1,ws ak.1,0),n39,n17.1,KU,n4.1,n30,n19,n2.1,n31,n20,ak.2.1,KV,n18.1,LN,n1.1,ak.2.2.1,Zu,n6.1,n32,n3.1,n45,bA.1,ak.2.2.2,bA.2.2)) λd=>let n33:=d.2.2.2;let n7:=n33.2.2.2.2;let n24:=n7.2.2.2.2;ret (ww (wI (d.1.2.1+1),d.2.1,d.2.2.1,n33.1,n33.2.1,n33.2.2.1,n33.2.2.2.1,n7.1,n7.2.1,n7.2.2.1,n7.2.2.2.1,n24.1,n24.2.1,n24.2.2.1,n24.2.2.2.1,n24.2.2.2.2.2))) no) no) no) no) no) no) no) no) (ae (d.1==4) (ae y5 (opt (rU (P6,n20,λj=>bA.1.1 (0+j),λj=>bA.1.2.1 (0+j),λj=>bA.1.2.2.1 (0+j),λj=>n23.1 (0+j),λj=>n23.2.1 (0+j),λj=>n23.2.2.1 (0+j),λj=>n23.2.2.2.1 (0+j),λj=>n23.2.2.2.2.1 (0+j),λj=>n23.2.2.2.2.2 (0+j))) λak=>ae (z9 ak.1 ak.1) (ae y1 (ae y2 (ae y3 (ae y4 (ae (z9 ak.2.1.2.2.1 ak.2.1.2.2.1) (ae y6 (opt (ru ((d.1,d.1,ak.1,ws ak.1,0),n39,n17.1,KU,n4.1,n30,n19,n2.1,n31,ak.2.1,n5.1,KV,n18.1,LN,n1.1,ak.2.2.1,Zu,n6.1,n32,n3.1,n45,ak.2.2.2,bA.2)) λd=>let n34:=d.2.2.2;let n8:=n34.2.2.2.2;let n25:=n8.2.2.2.2;ret (ww (wI (d.1.2.1+1),d.2.1,d.2.2.1,n34.1,n34.2.1,n34.2.2.1,n34.2.2.2.1,n8.1,n8.2.1,n8.2.2.1,n8.2.2.2.1,n25.1,n25.2.1,n25.2.2.1,n25.2.2.2.1,n25.2.2.2.2.2))) no) no) no) no) no) no) no) no) (ae (d.1==3) (ae y4 (opt (rU (P6,n31,λj=>n45.1 (0+j),λj=>n45.2.1 (0+j),λj=>n45.2.2.1 (0+j),λj=>n15.1 (0+j),λj=>n15.2.1 (0+j),λj=>n15.2.2.1 (0+j),λj=>n15.2.2.2.1 (0+j),λj=>n15.2.2.2.2.1 (0+j),λj=>n15.2.2.2.2.2 (0+j))) λak=>ae (z9 ak.1 ak.1) (ae y1 (ae y2 (ae y3 (ae (z9 ak.2.1.2.2.1 ak.2.1.2.2.1) (ae y5 (ae y6 (opt (ru ((d.1,d.1,ak.1,ws ak.1,0),n39,n17.1,KU,n4.1,n30,n19,n2.1,ak.2.1,n20,n5.1,KV,n18.1,LN,n1.1,ak.2.2.1,Zu,n6.1,n32,n3.1,ak.2.2.2,bA)) λd=>let n35:=d.2.2.2;let n9:=n35.2.2.2.2;let n26:=n9.2.2.2.2;ret (ww (wI (d.1.2.1+1),d.2.1,d.2.2.1,n35.1,n35.2.1,n35.2.2.1,n35.2.2.2.1,n9.1,n9.2.1,n9.2.2.1,n9.2.2.2.1,n26.1,n26.2.1,n26.2.2.1,n26.2.2.2.1,n26.2.2.2.2.2))) no) no) no) no) no) no) no) no) (ae (d.1==2) (ae y3 (opt (rU (P6,n2.1,λj=>n3.1.1 (0+j),λj=>n3.1.2.1 (0+j),λj=>n3.1.2.2.1 (0+j),λj=>n22.1 (0+j),λj=>n22.2.1 (0+j),λj=>n22.2.2.1 (0+j),λj=>n22.2.2.2.1 (0+j),λj=>n22.2.2.2.2.1 (0+j),λj=>n22.2.2.2.2.2 (0+j))) λak=>ae (z9 ak.1 ak.1) (ae y1 (ae y2 (ae (z9 ak.2.1.2.2.1 ak.2.1.2.2.1) (ae y4 (ae y5 (ae y6 (opt (ru ((d.1,d.1,ak.1,ws ak.1,0),n39,n17.1,KU,n4.1,n30,n19,ak.2.1,n31,n20,n5.1,KV,n18.1,LN,n1.1,ak.2.2.1,Zu,n6.1,n32,ak.2.2.2,n3.2)) λd=>let n36:=d.2.2.2;let bc:=n36.2.2.2.2;let n27:=bc.2.2.2.2;ret (ww (wI (d.1.2.1+1),d.2.1,d.2.2.1,n36.1,n36.2.1,n36.2.2.1,n36.2.2.2.1,bc.1,bc.2.1,bc.2.2.1,bc.2.2.2.1,n27.1,n27.2.1,n27.2.2.1,n27.2.2.2.1,n27.2.2.2.2.2))) no) no) no) no) no) no) no) no) (ae (d.1==1) (ae y2 (opt (rU (P6,n19,λj=>n32.1 (0+j),λj=>n32.2.1 (0+j),λj=>n32.2.2.1 (0+j),λj=>bR.1 (0+j),λj=>bR.2.1 (0+j),λj=>bR.2.2.1 (0+j),λj=>bR.2.2.2.1 (0+j),λj=>bR.2.2.2.2.1 (0+j),λj=>bR.2.2.2.2.2 (0+j))) λak=>ae (z9 ak.1 ak.1) (ae y1 (ae (z9 ak.2.1.2.2.1 ak.2.1.2.2.1) (ae y3 (ae y4 (ae y5 (ae y6 (opt (ru ((d.1,d.1,ak.1,ws ak.1,0),n39,n17.1,KU,n4.1,n30,ak.2.1,n2.1,n31,n20,n5.1,KV,n18.1,LN,n1.1,ak.2.2.1,Zu,n6.1,ak.2.2.2,n3)) λd=>let n37:=d.2.2.2;let bn:=n37.2.2.2.2;let n28:=bn.2.2.2.2;ret (ww (wI (d.1.2.1+1),d.2.1,d.2.2.1,n37.1,n37.2.1,n37.2.2.1,n37.2.2.2.1,bn.1,bn.2.1,bn.2.2.1,bn.2.2.2.1,n28.1,n28.2.1,n28.2.2.1,n28.2.2.2.1,n28.2.2.2.2.2))) no) no) no) no) no) no) no) no) (ae y1 (opt (rU (P6,n30,λj=>n6.1.1 (0+j),λj=>n6.1.2.1 (0+j),λj=>n6.1.2.2.1 (0+j),λj=>n21.1 (0+j),λj=>n21.2.1 (0+j),λj=>n21.2.2.1 (0+j),λj=>n21.2.2.2.1 (0+j),λj=>n21.2.2.2.2.1 (0+j),λj=>n21.2.2.2.2.2 (0+j))) λak=>ae (z9 ak.1 ak.1) (ae (z9 ak.2.1.2.2.1 ak.2.1.2.2.1) (ae y2 (ae y3 (ae y4 (ae y5 (ae y6 (opt (ru ((d.1,d.1,ak.1,ws ak.1,0),n39,n17.1,KU,n4.1,ak.2.1,n19,n2.1,n31,n20,n5.1,KV,n18.1,LN,n1.1,ak.2.2.1,Zu,ak.2.2.2,n6.2)) λd=>let n38:=d.2.2.2;let bx:=n38.2.2.2.2;let n29:=bx.2.2.2.2;ret (ww (wI (d.1.2.1+1),d.2.1,d.2.2.1,n38.1,n38.2.1,n38.2.2.1,n38.2.2.2.1,bx.1,bx.2.1,bx.2.2.1,bx.2.2.2.1,n29.1,n29.2.1,n29.2.2.1,n29.2.2.2.1,n29.2.2.2.2.2))) no) no) no) no) no) no) no) no)))))) no) (ret (wt ((d.1,y0),d.2)))
def tQ:=bE (tP xy oY) 2000
def gK:=qs (st (pu (cu eW (us 2 (cu aaj (cu Oy (us 3 (cu aVv (us 190 nil))))))) (pl (c aEw (c qJ (c qK (c sR (cd J9 λb4=>(cd J' λb5=>(cd Ka λb6=>(cd Kb λb7=>(cd Kc λb8=>(cd agp λb9=>(c pk (c ago (c xZ (cu nO (cu nO (cu nO (cu nO (cu nO (cu nO (cu nO (c Fu (c aP9 (c xZ (c (so (cl (gs b4.b.1 aB) nil)) (c (so (cl (gs b5.b.1 aB) nil)) (c (so (cl (gs b6.b.1 aB) nil)) (c (so (cl (gs b7.b.1 aB) nil)) (c (so (cl (gs b8.b.1 aB) nil)) (c (so (cl (gs b9.b.1 aB) nil)) LO))))))))))))))))))))))))))))) Wz)))
def afT:=qs aQE
def afU:=qs aQD
abbrev jQ:=((Bool×NI×Int×Int)×(J7×Bool×(NI×NI)×Nat×uW×Int×nJ×Bool×Bool×Bool×Int×Int×Int×HS×Nat)×(nJ×Int×Int)×S9×Ws×cD×cD×cD×cD×cD×cD×Rt×xT×HT×aSg×HT×fw×fw×fw×fw×fw×fw×Nat×NI×NI×NI×NI×NI×NI×NI×NI×NI×NI×NI)⊕(Bool×(J7×Bool×NI×(NI×NI)×Nat×uW×Int×nJ×Bool×Bool×Bool×Int×Int×Int×HS×Nat)×(nJ×Int×Int)×S9×Ws×cD×cD×cD×cD×cD×cD×Rt×xT×HT×aD5×HT×fw×fw×fw×fw×fw×fw×Nat×NI×NI×NI×NI×NI×NI×NI×NI×NI×NI×NI)
def SV {ρ:Type}(x:jQ)(K:AX->St->Option ρ):Option ρ:=(t9 (λd=>K .nrm (afT.em (d.1,(d.2.1.1,d.2.1.2.1,d.1.2.1,d.2.1.b.1,d.2.1.b.2.1,d.2.1.c.1,d.1.1,d.2.1.c.2),d.b.1,d.b.2.1,d.c.1,d.c.2.1,d.c.b.1,d.c.b.2.1,d.d.1,d.d.2.1,d.d.b.1,d.d.b.2.1,d.d.c.1,d.d.c.2.1,(d.1.b.1,d.d.c.b.1),d.d.c.b.2.1,(d.c.2.1.b.1,d.e.1),(d.c.b.1.b.1,d.e.2.1),(d.c.b.2.1.b.1,d.e.b.1),(d.d.1.b.1,d.e.b.2.1),(d.d.2.1.b.1,d.e.c.1),(d.d.b.1.b.1,d.e.c.2.1),d.e.c.b))) (λd=>K .nrm (afU.em (d.1,(d.2.1.1,d.2.1.2.1,d.2.1.b.1,d.2.1.b.2.1,d.2.1.c.1,d.2.1.c.2.1,d.1,d.2.1.c.b),d.b.1,d.b.2.1,d.c.1,d.c.2.1,d.c.b.1,d.c.b.2.1,d.d.1,d.d.2.1,d.d.b.1,d.d.b.2.1,d.d.c.1,d.d.c.2.1,d.d.c.b.1,d.d.c.b.2.1,(d.c.2.1.b.1,d.e.1),(d.c.b.1.b.1,d.e.2.1),(d.c.b.2.1.b.1,d.e.b.1),(d.d.1.b.1,d.e.b.2.1),(d.d.2.1.b.1,d.e.c.1),(d.d.b.1.b.1,d.e.c.2.1),d.e.c.b)))) x
def tT (aMb:ahG)(aae:yp)(aIm:adj)(l_5:LT gJ jO)(d:gK.B):Pg jQ:=let n27:=d.2.2;let bR:=d.1.2.2;let bn:=n27.2.2;let n5:=bR.2.2.2.2;let n16:=n5.2.2.2.2;let n4:=bn.2.2;let n15:=n4.2.2;let n6:=n15.2.2.2;let n2:=n16.2.2.2.2.2;let n19:=n2.1.1.2;let bx:=n2.1.2;let n1:=n6.2.2.2;let n23:=n1.2.2.2;let n20:=n1.2.1.2;let n17:=n1.1.2.2.2;let n9:=n20.2.2.2;let n25:=n9.2.2.2;let n8:=n23.2.2.2;let n28:=n8.2.2;let n3:=n28.2.2;let n21:=n3.2.2;let n7:=n21.2.2.2;let n22:=n7.2.2;let y0:=ws n2.2;let y1:=1+n2.2;let y2:=z9 bn.1.2.2.1 bn.1.2.2.1;let y3:=z9 bn.2.1.2.2.1 bn.2.1.2.2.1;let y4:=z9 n4.1.2.2.1 n4.1.2.2.1;let y5:=z9 n4.2.1.2.2.1 n4.2.1.2.2.1;let y6:=z9 n15.1.2.2.1 n15.1.2.2.1;let y7:=z9 n15.2.1.2.2.1 n15.2.1.2.2.1;opt (aMb (bR.2.2.2.1,n1.1.1,n1.1.2.1,(n1.1.2.2.1,n17.1,n17.2.1,n17.2.2.1,n17.2.2.2.1,n17.2.2.2.2.1),n17.2.2.2.2.2)) λak=>ae (decide (y0>0)) (ae (z9 n2.2 n2.2) (ae (z9 n6.1.2.2 n6.1.2.2) (opt (aae ((n2.2,true),n6.1,d.1.2.1,(aqr 0 n20),λj=>n28.2.1 (0+j),λj=>n3.1 (0+j),λj=>n3.2.1 (0+j),λj=>n21.1 (0+j),λj=>n21.2.1 (0+j),λj=>n21.2.2.1 (0+j),λj=>n7.1 (0+j),λj=>n7.2.1 (0+j),λj=>n22.1 (0+j),λj=>n22.2.1 (0+j),λj=>n22.2.2 (0+j))) λaK=>let n24:=aK.2.2.2;let bA:=aK.2.1;let bc:=n24.2.2.2;let n26:=bc.2.2.2;let se:=bA*11+0;ae (true&&z9 se (n6.1.2.2*11)&&true) (ae (true&&wr (0+se) (n28.1*11+0)) (ae (wr (y1*80) 140737488355328) (ae (z9 y1 y1) (opt (aIm y1 aK.1 (λj=>bif wl j 1 then bif z9 j 0 then n2.1.1.1 else n2.1.1.1 else n20.1 (0+(j-1))) (λj=>bif wl j 1 then bif z9 j 0 then n19.1 else n19.1 else n20.2.1 (0+(j-1))) (λj=>bif wl j 1 then bif z9 j 0 then n19.2.1 else n19.2.1 else n20.2.2.1 (0+(j-1))) (λj=>bif wl j 1 then bif z9 j 0 then n19.2.2 else n19.2.2 else n9.1 (0+(j-1))) (λj=>bif wl j 1 then bif z9 j 0 then bx.1.1 else bx.1.1 else n9.2.1 (0+(j-1))) (λj=>bif wl j 1 then bif z9 j 0 then bx.1.2.1 else bx.1.2.1 else n9.2.2.1 (0+(j-1))) (λj=>bif wl j 1 then bif z9 j 0 then bx.1.2.2 else bx.1.2.2 else n25.1 (0+(j-1))) (λj=>bif wl j 1 then bif z9 j 0 then bx.2.1 else bx.2.1 else n25.2.1 (0+(j-1))) (λj=>bif wl j 1 then bif z9 j 0 then bx.2.2.1 else bx.2.2.1 else n25.2.2.1 (0+(j-1))) (λj=>bif wl j 1 then bif z9 j 0 then bx.2.2.2 else bx.2.2.2 else n25.2.2.2 (0+(j-1))) true) λbJ=>let n18:=bJ.1.2.2.2;ae y2 (ae y3 (ae y4 (ae y5 (ae y6 (ae y7 (opt (l_5 ((d.1.1,bJ.2,bR.1,bR.2.1,bR.2.2.1,ak.1,n5.1,n5.2.1,n5.2.2.1,n5.2.2.2.1,n16.1,n16.2.1,n16.2.2.1,n16.2.2.2.1,wI (n16.2.2.2.2.1+y0),((bJ.1.1,bJ.1.2.1,bJ.1.2.2.1,n18.1),(n18.2.1,n18.2.2.1,n18.2.2.2.1),n18.2.2.2.2),n2.2),d.2.1,n27.1,n27.2.1,bn.1,bn.2.1,n4.1,n4.2.1,n15.1,n15.2.1,n15.2.2.1,n6.1,n6.2.1,n6.2.2.1,n1.2.1,n1.2.2.1,n23.1,n23.2.1,n23.2.2.1,n8.1,n8.2.1,n28.1,λj=>bif true&&wl j (0+bA) then aK.2.2.1 j else n28.2.1 j,λj=>bif true&&wl j (0+bA) then n24.1 j else n3.1 j,λj=>bif true&&wl j (0+bA) then n24.2.1 j else n3.2.1 j,λj=>bif true&&wl j (0+bA) then n24.2.2.1 j else n21.1 j,λj=>bif true&&wl j (0+bA) then bc.1 j else n21.2.1 j,λj=>bif true&&wl j (0+bA) then bc.2.1 j else n21.2.2.1 j,λj=>bif true&&wl j (0+bA) then bc.2.2.1 j else n7.1 j,λj=>bif true&&wl j (0+bA) then n26.1 j else n7.2.1 j,λj=>bif true&&wl j (0+bA) then n26.2.1 j else n22.1 j,λj=>bif true&&wl j (0+bA) then n26.2.2.1 j else n22.2.1 j,λj=>bif true&&wl j (0+bA) then n26.2.2.2 j else n22.2.2 j)) λx=>sum x (λd=>ret (ww d)) λd=>ret (wt d)) no) no) no) no) no) no) no) no) no) no) no) no) (ae y2 (ae y3 (ae y4 (ae y5 (ae y6 (ae y7 (opt (l_5 ((d.1.1,d.1.2.1,bR.1,bR.2.1,bR.2.2.1,ak.1,n5),d.2.1,n27.1,n27.2.1,bn.1,bn.2.1,n4.1,n4.2.1,n15.1,n15.2.1,n15.2.2.1,n6.1,n6.2.1,n6.2.2.1,n1.2)) λx=>sum x (λd=>ret (ww d)) λd=>ret (wt d)) no) no) no) no) no) no)
def jR (d:gK.B):Option jQ:=(tT Cs gW z8 jP d).val
def gL:=qs (st (pu aWP (pl (c ayd (c qJ (c qK (c sR (cd (so as9) λb4=>(cd J9 λb5=>(cd J' λb6=>(cd Ka λb7=>(cd Kb λb8=>(cd Kc λb9=>(c pk (c ax6 (c xZ (cu nO (cu nO (cu nO (cu nO (cu nO (cu nO (cu nO (c Fu (c (so aWT) (c (so (cl (gs b4.b.1 aB) nil)) (c (so (cl (gs b5.b.1 aB) nil)) (c (so (cl (gs b6.b.1 aB) nil)) (c (so (cl (gs b7.b.1 aB) nil)) (c (so (cl (gs b8.b.1 aB) nil)) (c (so (cl (gs b9.b.1 aB) nil)) LO)))))))))))))))))))))))))))) Wz)))
def afV:=qs aQE
def afW:=qs aQD
abbrev jS:=((Bool×NI×Int×Int)×(J7×Bool×(NI×NI)×Nat×uW×Int×nJ×Bool×Bool×Bool×Int×Int×Int×HS×Nat)×(nJ×Int×Int)×S9×Ws×cD×cD×cD×cD×cD×cD×Rt×xT×HT×aSg×HT×fw×fw×fw×fw×fw×fw×Nat×NI×NI×NI×NI×NI×NI×NI×NI×NI×NI×NI)⊕(Bool×(J7×Bool×NI×(NI×NI)×Nat×uW×Int×nJ×Bool×Bool×Bool×Int×Int×Int×HS×Nat)×(nJ×Int×Int)×S9×Ws×cD×cD×cD×cD×cD×cD×Rt×xT×HT×aD5×HT×fw×fw×fw×fw×fw×fw×Nat×NI×NI×NI×NI×NI×NI×NI×NI×NI×NI×NI)
def SW {ρ:Type}(x:jS)(K:AX->St->Option ρ):Option ρ:=(t9 (λd=>K .nrm (afV.em (d.1,(d.2.1.1,d.2.1.2.1,d.1.2.1,d.2.1.b.1,d.2.1.b.2.1,d.2.1.c.1,d.1.1,d.2.1.c.2),d.b.1,d.b.2.1,d.c.1,d.c.2.1,d.c.b.1,d.c.b.2.1,d.d.1,d.d.2.1,d.d.b.1,d.d.b.2.1,d.d.c.1,d.d.c.2.1,(d.1.b.1,d.d.c.b.1),d.d.c.b.2.1,(d.c.2.1.b.1,d.e.1),(d.c.b.1.b.1,d.e.2.1),(d.c.b.2.1.b.1,d.e.b.1),(d.d.1.b.1,d.e.b.2.1),(d.d.2.1.b.1,d.e.c.1),(d.d.b.1.b.1,d.e.c.2.1),d.e.c.b))) (λd=>K .nrm (afW.em (d.1,(d.2.1.1,d.2.1.2.1,d.2.1.b.1,d.2.1.b.2.1,d.2.1.c.1,d.2.1.c.2.1,d.1,d.2.1.c.b),d.b.1,d.b.2.1,d.c.1,d.c.2.1,d.c.b.1,d.c.b.2.1,d.d.1,d.d.2.1,d.d.b.1,d.d.b.2.1,d.d.c.1,d.d.c.2.1,d.d.c.b.1,d.d.c.b.2.1,(d.c.2.1.b.1,d.e.1),(d.c.b.1.b.1,d.e.2.1),(d.c.b.2.1.b.1,d.e.b.1),(d.d.1.b.1,d.e.b.2.1),(d.d.2.1.b.1,d.e.c.1),(d.d.b.1.b.1,d.e.c.2.1),d.e.c.b)))) x
def tU (MK:LT dB gr)(eB:LT dC gu)(l_4:LT gK jQ)(d:gL.B):Pg jS:=let n9:=d.2.2.2.2;let n4:=n9.2.2;let bc:=n4.2.2.2;let n17:=bc.2.2.2;ae (z9 n9.1.2.2.1 n9.1.2.2.1) (ae (z9 n9.2.1.2.2.1 n9.2.1.2.2.1) (ae (z9 n4.1.2.2.1 n4.1.2.2.1) (ae (z9 n4.2.1.2.2.1 n4.2.1.2.2.1) (ae (z9 n4.2.2.1.2.2.1 n4.2.2.1.2.2.1) (ae (z9 bc.1.2.2.1 bc.1.2.2.1) (opt (eB (0,d.1,d.2.1,d.2.2.1,d.2.2.2.1,n9.1,n9.2.1,n4.1,n4.2.1,n4.2.2.1,bc.1,bc.2.1,bc.2.2.1,n17.1,n17.2.1,(0,n17.2.2.1),n17.2.2.2)) λd=>let n16:=d.2.1.1.2.2.2.2.2.2.2.2;let n15:=d.2.1.2.2.2.2.2.2.2.2.2;let bn:=d.2.2.2.2;let n3:=bn.2.2;let n7:=n3.2.2.2;let n18:=n7.2.2.2;ae (z9 bn.2.1.2.2.1 bn.2.1.2.2.1) (ae (z9 n3.1.2.2.1 n3.1.2.2.1) (ae (z9 n3.2.1.2.2.1 n3.2.1.2.2.1) (ae (z9 n3.2.2.1.2.2.1 n3.2.2.1.2.2.1) (ae (z9 n7.1.2.2.1 n7.1.2.2.1) (ae (z9 n7.2.1.2.2.1 n7.2.1.2.2.1) (opt (MK (0,d.2.1,d.2.2.1,d.2.2.2.1,bn.1,bn.2.1,n3.1,n3.2.1,n3.2.2.1,n7.1,n7.2.1,n7.2.2.1,n18.1,n18.2.1,n18.2.2.1,(n15.1,n15.2.1,false,false,false,false,false,false,n16.1,n16.2.2.1),n18.2.2.2)) λd=>let bR:=d.2.2;let bA:=d.2.1.2.2.2.2.2.2.2.2.2.2.2;let n5:=bR.2.2.2;let bx:=n5.2.2;let n1:=bx.2.2;let n19:=n1.2.2;let n6:=n19.2.2;let n20:=n6.2.2;let n2:=n20.1.2;let n21:=n2.2.2;let n8:=n21.2.2;let y0:=z9 n5.1.2.2.1 n5.1.2.2.1;let y1:=z9 n5.2.1.2.2.1 n5.2.1.2.2.1;let y2:=z9 bx.1.2.2.1 bx.1.2.2.1;let y3:=z9 bx.2.1.2.2.1 bx.2.1.2.2.1;let y4:=z9 n1.1.2.2.1 n1.1.2.2.1;let y5:=z9 n1.2.1.2.2.1 n1.2.1.2.2.1;ae bA.1 (ae y0 (ae y1 (ae y2 (ae y3 (ae y4 (ae y5 (opt (l_4 (d.2.1,bR.1,bR.2.1,bR.2.2.1,n5.1,n5.2.1,bx.1,bx.2.1,n1.1,n1.2.1,n19.1,n19.2.1,n6.1,n6.2.1,(n20.1.1,n2.1,n2.2.1,n21.1,n21.2.1,n8.1,n8.2.1,n8.2.2.1,wI (n6.2.1.1-bA.2.1),n8.2.2.2),n20.2)) λx=>sum x (λd=>ret (ww d)) λd=>ret (wt d)) no) no) no) no) no) no) (ae y0 (ae y1 (ae y2 (ae y3 (ae y4 (ae y5 (opt (l_4 (d.2.1,bR.1,bR.2.1,bR.2.2.1,n5.1,n5.2.1,bx.1,bx.2.1,n1.1,n1.2.1,n19.1,n19.2.1,n6.1,n6.2.1,(n20.1.1,n2.1,n2.2.1,n21.1,n21.2.1,n8.1,n8.2.1,n8.2.2.1,1125899906842624,n8.2.2.2),n20.2)) λx=>sum x (λd=>ret (ww d)) λd=>ret (wt d)) no) no) no) no) no) no)) no) no) no) no) no) no) no) no) no) no) no) no
def iD (d:gL.B):Option jS:=(tU tN tQ jR d).val
def SX:Hd:=⟨7,(1::2::rg 5 194 []),[(15,[]),(16,[]),(17,[]),(18,[]),(19,[]),(20,[]),(21,[]),(0,[])]⟩
def SY:Hd:=⟨24,(1::2::5::6::7::rg 9 190 []),[(15,[]),(16,[]),(17,[]),(18,[]),(19,[]),(20,[]),(21,[]),(0,[])]⟩
def SZ:Hd:=⟨29,(1::2::rg 5 194 []),[(15,[]),(16,[]),(17,[]),(18,[]),(19,[]),(20,[]),(21,[]),(0,[])]⟩
def rV (aql:Ir)(aOJ:aoJ)(Eh:QZ)(l_3:LT gL jS)(x:mb.B):Pg oD:=let KU:=x.1.1;let n19:=x.2.1.2;let n18:=x.2.2;let n39:=n18.2.2.1;let n8:=x.1.2.2;let n38:=n8.1.2;let n6:=n18.2.2.2;let n36:=n6.2.1;let n24:=n6.2.2.1;let n4:=n19.2.2.2;let n26:=n4.2.2;let n7:=n26.2.2.2;let KV:=n7.2.2;let n20:=KV.2.2.2;let n3:=n6.2.2.2;let n37:=n3.2.1;let n15:=n3.2.2;let n25:=n15.2.2.1;let n5:=n15.2.2.2.2;let n16:=n5.2.2.2;let LN:=n16.2.2;let n2:=(KU,x.1.2.1,n8.1.1,n38.1,n38.2,n8.2);let n1:=(n20.2.2,n15.2.2.2.1);let y0:=z9 n6.1.2.2.1 n6.1.2.2.1;let y1:=z9 n36.2.2.1 n36.2.2.1;let y2:=z9 n24.2.2.1 n24.2.2.1;let y3:=z9 n3.1.2.2.1 n3.1.2.2.1;let y4:=z9 n37.2.2.1 n37.2.2.1;let y5:=z9 n15.1.2.2.1 n15.1.2.2.1;ae (n4.2.1.1==0) (ae (z9 n4.1 n4.1) (ae y0 (ae y1 (ae y2 (ae y3 (ae y4 (ae y5 (ae (z9 n25.2.2 n25.2.2) (opt (aql (x.1,(x.2.1.1,n19.1,n19.2.1,n19.2.2.1,n4.1,n4.2.1,n26.1,n26.2.1,n26.2.2.1,n7.1,n7.2.1,KV.1,KV.2.1,KU,n20.1,n20.2.1,0),n18.1,n18.2.1,n39,n6.1,n36,n24,n3.1,n37,n15.1,n15.2.1,n25,(λx=>0,λx=>0,λx=>0,λx=>0,λx=>0,λx=>0,λx=>0,λx=>0,λx=>0,λx=>0),n5)) λd=>sm d (λd=>ae y0 (ae y1 (ae y2 (ae y3 (ae y4 (ae y5 (opt (l_3 (d.1,n18.1,n18.2.1,(n4.1,n39),n6.1,n36,n24,n3.1,n37,n15.1,n15.2.1,d.2,n1,n2,(λx=>0,λx=>0,λx=>0,λx=>0,λx=>0,λx=>0,λx=>0,λx=>0,λx=>0,λx=>0),n5.1,n5.2.1,n5.2.2.1,n16.1,n16.2.1,LN.1,n25.2.2,LN.2)) λx=>sum x (λd=>let n27:=d.2.1.2;let n9:=d.2.2.2.2.2.2;let n28:=n9.2.2.2;ret (((d.2.1.1,n27.1,d.1.2.1,n27.2.1,n27.2.2.1,n27.2.2.2.1,d.1.1,n27.2.2.2.2),d.2.2.2.2.2.1,n9.1,n9.2.1,n9.2.2.1,n28.1,n28.2.1,n28.2.2.1,n28.2.2.2.1),n28.2.2.2.2.2.2)) λd=>let n21:=d.2.1.2.2;let bc:=d.2.2.2.2.2.2;let n29:=bc.2.2.2;ret (((d.2.1.1,d.2.1.2.1,n21.1,n21.2.1,n21.2.2.1,n21.2.2.2.1,d.1,n21.2.2.2.2),d.2.2.2.2.2.1,bc.1,bc.2.1,bc.2.2.1,n29.1,n29.2.1,n29.2.2.1,n29.2.2.2.1),n29.2.2.2.2.2.2)) no) no) no) no) no) no) (λd=>let n17:=d.1.1.2.2.2;ae y0 (ae y1 (ae y2 (ae y3 (ae y4 (ae y5 (opt (l_3 ((d.1.1.1,d.1.1.2.1,d.1.1.2.2.1,n17.1,n17.2.1,n17.2.2.1,true,n17.2.2.2.1,n17.2.2.2.2.1,true,n17.2.2.2.2.2),n18.1,n18.2.1,(n4.1,n39),n6.1,n36,n24,n3.1,n37,n15.1,n15.2.1,d.1.2,n1,n2,(λx=>0,λx=>0,λx=>0,λx=>0,λx=>0,λx=>0,λx=>0,λx=>0,λx=>0,λx=>0),n5.1,n5.2.1,n5.2.2.1,n16.1,n16.2.1,LN.1,d.2)) λx=>sum x (λd=>let n30:=d.2.1.2;let bn:=d.2.2.2.2.2.2;let n31:=bn.2.2.2;ret (((d.2.1.1,n30.1,d.1.2.1,n30.2.1,n30.2.2.1,n30.2.2.2.1,d.1.1,n30.2.2.2.2),d.2.2.2.2.2.1,bn.1,bn.2.1,bn.2.2.1,n31.1,n31.2.1,n31.2.2.1,n31.2.2.2.1),n31.2.2.2.2.2.2)) λd=>let n22:=d.2.1.2.2;let bx:=d.2.2.2.2.2.2;let n32:=bx.2.2.2;ret (((d.2.1.1,d.2.1.2.1,n22.1,n22.2.1,n22.2.2.1,n22.2.2.2.1,d.1,n22.2.2.2.2),d.2.2.2.2.2.1,bx.1,bx.2.1,bx.2.2.1,n32.1,n32.2.1,n32.2.2.1,n32.2.2.2.1),n32.2.2.2.2.2.2)) no) no) no) no) no) no)) no) no) no) no) no) no) no) no) (opt (aOJ n19.2.2.1.1 n19.2.2.1.2 n19.2.1 KU x.1.2.1 n8.1.1 n38.1 n38.2 n8.2.1 n8.2.2.1 n8.2.2.2 x.2.1.1.2.2.2.2.2.2.1 n19.1) λd=>opt (Eh n19.2.1 KU x.1.2.1 n8.1.1 n38.1 n38.2 n8.2.1 n8.2.2.1 n8.2.2.2 d.2) λak=>ae y0 (ae y1 (ae y2 (ae y3 (ae y4 (ae y5 (opt (l_3 ((x.2.1.1,ak.2,ak.1,d.1,n4.1,n4.2.1,n26.1,n26.2.1,n26.2.2.1,n7.1,n7.2.1,KV.1,KV.2.1,KU,n20.1,n20.2.1,0),n18.1,n18.2.1,(n4.1,n39),n6.1,n36,n24,n3.1,n37,n15.1,n15.2.1,n25,n1,n2,(λx=>0,λx=>0,λx=>0,λx=>0,λx=>0,λx=>0,λx=>0,λx=>0,λx=>0,λx=>0),n5.1,n5.2.1,n5.2.2.1,n16.1,n16.2.1,LN.1,n25.2.2,LN.2)) λx=>sum x (λd=>let n33:=d.2.1.2;let bA:=d.2.2.2.2.2.2;let n34:=bA.2.2.2;ret (((d.2.1.1,n33.1,d.1.2.1,n33.2.1,n33.2.2.1,n33.2.2.2.1,d.1.1,n33.2.2.2.2),d.2.2.2.2.2.1,bA.1,bA.2.1,bA.2.2.1,n34.1,n34.2.1,n34.2.2.1,n34.2.2.2.1),n34.2.2.2.2.2.2)) λd=>let n23:=d.2.1.2.2;let bR:=d.2.2.2.2.2.2;let n35:=bR.2.2.2;ret (((d.2.1.1,d.2.1.2.1,n23.1,n23.2.1,n23.2.2.1,n23.2.2.2.1,d.1,n23.2.2.2.2),d.2.2.2.2.2.1,bR.1,bR.2.1,bR.2.2.1,n35.1,n35.2.1,n35.2.2.1,n35.2.2.2.1),n35.2.2.2.2.2.2)) no) no) no) no) no) no)
def kn:=λx=>(rV jq B5 pG iD x).val
abbrev ko:=Ir×aoJ×QZ×KJ×NK×Ah×ahG×yp×adj×vO×(LT dh gq)×(LT dB gr)×(LT gJ jO)×(LT dC gu)×(LT gK jQ)×(LT gL jS)
def mc (p:ko):KK:=⟨[Vi p.1,aCi p.2.1,ac7 p.b.1,Zh p.b.2.1,abP p.c.1,I5 p.c.2.1,awd p.c.b.1,HI p.c.b.2.1,arT p.d.1,Fi p.d.2.1],⟨[⟨8,(1::2::rg 5 54 (rg 60 139 [])),[(15,[]),(16,[]),(17,[]),(18,[]),(19,[]),(20,[]),(21,[]),(0,[])]⟩,⟨11,(1::2::rg 6 53 (rg 60 10 (rg 73 126 []))),[(15,[]),(16,[]),(17,[]),(18,[]),(19,[]),(20,[]),(21,[]),(0,[])]⟩,⟨18,(1::2::5::6::7::rg 9 92 (rg 102 97 [])),[(15,[]),(16,[]),(17,[]),(18,[]),(19,[]),(20,[]),(21,[]),(0,[])]⟩],[gx 11 20 dh SP p.d.b.1,gx 18 20 dB SQ p.d.b.2.1,gx 8 20 dC SU p.d.c.2.1],(rg 4 6 [19,18,17,16,15,14,13,11,0,10]),[⟨SX,gx 7 20 gL SW p.d.c.b.2⟩,⟨SY,gx 24 20 gK SV p.d.c.b.1⟩,⟨SZ,gx 29 20 gJ SS p.d.c.1⟩],(some ⟨0,(rg 0 199 []),[]⟩)⟩,20,64⟩
theorem akY (p:ko):LI (mc p) 11 dh SP (tL p.c.1):=λ_ d c K=>by kernel_rfl
theorem akZ (p:ko):LI (mc p) 18 dB SQ (tM p.c.2.1):=λ_ d c K=>by kernel_rfl
theorem ak0 (p:ko):JI (mc p) 29 gJ SS (tO p.d.2.1):=λ_ d K=>by kernel_rfl
theorem ak1 (p:ko):LI (mc p) 8 dC SU (tP p.b.2.1 p.d.b.1):=λ_ d c K=>by kernel_rfl
theorem ak2 (p:ko):JI (mc p) 24 gK SV (tT p.c.b.1 p.c.b.2.1 p.d.1 p.d.c.1):=λ_ d K=>by kernel_rfl
theorem ak3 (p:ko):JI (mc p) 7 gL SW (tU p.d.b.2.1 p.d.c.2.1 p.d.c.b.1):=λ_ d K=>by kernel_rfl
theorem auE (p:ko):D2 (mc p) mb ZH λb=>rV p.1 p.2.1 p.b.1 p.d.c.b.2 b:=λb=>by kernel_rfl
abbrev me:ko:=(jq,B5,pG,xy,qf,nC,Cs,gW,z8,gh,oY,tN,jP,tQ,jR,iD)
theorem auF [ay]:SC (ZI kn):=sc (kS (k:=mc me) (.c aqi (.c aOC (.c arJ (.c aum (.c axu (.c adG (.c aLj (.c Z8 (.c aH6 (.c Wj (.nil _))))))))))) [8,11,18] [7,24,29] ⟨kL (ak1 me),⟨kL (akY me),⟨kL (akZ me),trivial⟩⟩⟩ ⟨kJ SX (ak3 me),⟨kJ SY (ak2 me),⟨kJ SZ (ak0 me),trivial⟩⟩⟩ (auE me))
end Go.Proofs.YtldgljclcgaibaaGreat
namespace Go.Proofs.YtldgljclcgaibaaGreat
open Go.Ab Go.Ab.Pg
theorem aUB (J:Int)(w:dh.B):∀(d:dh.B) (hd:0<=d.1.2.2.2.2/\d.1.2.2.2.2<=d.1.2.2.2.1/\d.1.2.2.2.1=((d.1.2.2.1:Nat):Int)/\d.1.2.2.2.1<=64/\((d.2.1.2.2.2.2.2.2.2.2.2.2.2.2.2.2.2.2:Nat):Int)+3*(d.1.2.2.2.1-d.1.2.2.2.2)<=J/\J<=90000/\bf d.1.1 6=true/\d.1.2.1=w.1.2.1/\d.2.2.2.2.2.1=w.2.2.2.2.2.1/\d.2.2.2.2.2.2.1=w.2.2.2.2.2.2.1/\d.2.2.2.2.2.2.2.1=w.2.2.2.2.2.2.2.1/\d.2.2.2.2.2.2.2.2.1=w.2.2.2.2.2.2.2.2.1/\d.2.2.2.2.2.2.2.2.2.1=w.2.2.2.2.2.2.2.2.2.1/\d.2.2.2.2.2.2.2.2.2.2.1=w.2.2.2.2.2.2.2.2.2.2.1/\d.2.2.2.2.2.2.2.2.2.2.2.2.1=w.2.2.2.2.2.2.2.2.2.2.2.2.1/\d.2.2.2.2.2.2.2.2.2.2.2.2.2.2.2.2.2.2.2.2.2.2.2.1=w.2.2.2.2.2.2.2.2.2.2.2.2.2.2.2.2.2.2.2.2.2.2.2.1/\d.2.1.2.2.2.2.1=w.2.1.2.2.2.2.1/\d.2.1.2.2.2.2.2.2.2.2.2.2.2.2.2.1=w.2.1.2.2.2.2.2.2.2.2.2.2.2.2.2.1/\d.2.2.2.2.2.2.2.2.2.2.2.2.2.2.1=w.2.2.2.2.2.2.2.2.2.2.2.2.2.2.1),Ok (oY d) (λx:gq=>((x.2.1.2.2.2.2.2.2.2.2.2.2.2.2.2.2.2.2:Nat):Int)<=J/\x.1.2.1=w.1.2.1/\x.2.2.2.2.2.1=w.2.2.2.2.2.1/\x.2.2.2.2.2.2.1=w.2.2.2.2.2.2.1/\x.2.2.2.2.2.2.2.1=w.2.2.2.2.2.2.2.1/\x.2.2.2.2.2.2.2.2.1=w.2.2.2.2.2.2.2.2.1/\x.2.2.2.2.2.2.2.2.2.1=w.2.2.2.2.2.2.2.2.2.1/\x.2.2.2.2.2.2.2.2.2.2.1=w.2.2.2.2.2.2.2.2.2.2.1/\x.2.2.2.2.2.2.2.2.2.2.2.2.1=w.2.2.2.2.2.2.2.2.2.2.2.2.1/\x.2.2.2.2.2.2.2.2.2.2.2.2.2.2.2.2.2.2.2.2.2.2.2.1=w.2.2.2.2.2.2.2.2.2.2.2.2.2.2.2.2.2.2.2.2.2.2.2.1/\x.2.1.2.2.2.2.1=w.2.1.2.2.2.2.1/\x.2.1.2.2.2.2.2.2.2.2.2.2.2.2.2.1=w.2.1.2.2.2.2.2.2.2.2.2.2.2.2.2.1/\x.2.2.2.2.2.2.2.2.2.2.2.2.2.2.1=w.2.2.2.2.2.2.2.2.2.2.2.2.2.2.1):=
 bO (λd:dh.B=>z4 (d.1.2.2.2.1-d.1.2.2.2.2)) (λd hd=>by
  obtain⟨i0,i1,i2,i3,i4,i5,i6,i7,ik⟩:=hd;have hw:wI (d.1.2.2.2.2+1)=d.1.2.2.2.2+1:=aW;unfold tL;dsimp only;rw[aN];refine⟨λh=> ?_,λ_=>by rw[aw];exact⟨by show((d.2.1.2.2.2.2.2.2.2.2.2.2.2.2.2.2.2.2:Nat):Int)<=J;omega,i7,ik⟩⟩;have h:=dm h;have r0:bf d.1.2.2.2.2 d.1.2.2.1=true:=by rw[bq];omega
  rw[r0,hw];simp only[aQ]
  repeat' (first
   |rw[aE]
   |(with_reducible refine aA (a0k _ ?_ ?_) λe _ he=> ?_)
   |(rw[uD];refine⟨λa ha=> ?_,λa ha=> ?_⟩))
  .exact i6
  .show d.2.1.2.2.2.2.2.2.2.2.2.2.2.2.2.2.2.2<=90000;omega
  .rw[ha] at he;have he:a.1.2.2.2.2.2.2.2.2.2.2.2.2.2.2.2.2<=d.2.1.2.2.2.2.2.2.2.2.2.2.2.2.2.2.2.2+3/\a.1.2.2.2.2.1=d.2.1.2.2.2.2.1/\a.1.2.2.2.2.2.2.2.2.2.2.2.2.2.1=d.2.1.2.2.2.2.2.2.2.2.2.2.2.2.2.1:=he;rw[aw];exact⟨⟨by show 0<=d.1.2.2.2.2+1;omega,by show d.1.2.2.2.2+1<=d.1.2.2.2.1;omega,i2,i3,by show((a.1.2.2.2.2.2.2.2.2.2.2.2.2.2.2.2.2:Nat):Int)+3*(d.1.2.2.2.1-(d.1.2.2.2.2+1))<=J;omega,i5,i6,i7,ik.1,ik.2.1,ik.2.2.1,ik.2.2.2.1,ik.2.2.2.2.1,ik.2.2.2.2.2.1,ik.2.2.2.2.2.2.1,ik.2.2.2.2.2.2.2.1,he.2.1.trans ik.2.2.2.2.2.2.2.2.1,he.2.2.trans ik.2.2.2.2.2.2.2.2.2.1,ik.2.2.2.2.2.2.2.2.2.2⟩,by show z4 (d.1.2.2.2.1-(d.1.2.2.2.2+1))<_;omega⟩
  .rw[ha] at he;have he:a.1.1.2.2.2.2.2.2.2.2.2.2.2.2.2.2.2.2<=d.2.1.2.2.2.2.2.2.2.2.2.2.2.2.2.2.2.2+3/\a.1.1.2.2.2.2.1=d.2.1.2.2.2.2.1/\a.1.1.2.2.2.2.2.2.2.2.2.2.2.2.2.1=d.2.1.2.2.2.2.2.2.2.2.2.2.2.2.2.1:=he;rw[aw];exact⟨⟨by show 0<=d.1.2.2.2.2+1;omega,by show d.1.2.2.2.2+1<=d.1.2.2.2.1;omega,i2,i3,by show((a.1.1.2.2.2.2.2.2.2.2.2.2.2.2.2.2.2.2:Nat):Int)+3*(d.1.2.2.2.1-(d.1.2.2.2.2+1))<=J;omega,i5,i6,i7,ik.1,ik.2.1,ik.2.2.1,ik.2.2.2.1,ik.2.2.2.2.1,ik.2.2.2.2.2.1,ik.2.2.2.2.2.2.1,ik.2.2.2.2.2.2.2.1,he.2.1.trans ik.2.2.2.2.2.2.2.2.1,he.2.2.trans ik.2.2.2.2.2.2.2.2.2.1,ik.2.2.2.2.2.2.2.2.2.2⟩,by show z4 (d.1.2.2.2.1-(d.1.2.2.2.2+1))<_;omega⟩) (λd hd=>by omega)
theorem a0m (d:dh.B)(a:d.1.2.2.2.2=0)(b:d.1.2.2.2.1=((d.1.2.2.1:Nat):Int))(c:d.1.2.2.1<=64)(k:bf d.1.1 6=true)(j:d.2.1.2.2.2.2.2.2.2.2.2.2.2.2.2.2.2.2<=80000):Ok (oY d) (λx:gq=>x.2.1.2.2.2.2.2.2.2.2.2.2.2.2.2.2.2.2<=d.2.1.2.2.2.2.2.2.2.2.2.2.2.2.2.2.2.2+3*d.1.2.2.1/\x.1.2.1=d.1.2.1/\x.2.2.2.2.2.1=d.2.2.2.2.2.1/\x.2.2.2.2.2.2.1=d.2.2.2.2.2.2.1/\x.2.2.2.2.2.2.2.1=d.2.2.2.2.2.2.2.1/\x.2.2.2.2.2.2.2.2.1=d.2.2.2.2.2.2.2.2.1/\x.2.2.2.2.2.2.2.2.2.1=d.2.2.2.2.2.2.2.2.2.1/\x.2.2.2.2.2.2.2.2.2.2.1=d.2.2.2.2.2.2.2.2.2.2.1/\x.2.2.2.2.2.2.2.2.2.2.2.2.1=d.2.2.2.2.2.2.2.2.2.2.2.2.1/\x.2.2.2.2.2.2.2.2.2.2.2.2.2.2.2.2.2.2.2.2.2.2.2.1=d.2.2.2.2.2.2.2.2.2.2.2.2.2.2.2.2.2.2.2.2.2.2.2.1/\x.2.1.2.2.2.2.1=d.2.1.2.2.2.2.1/\x.2.1.2.2.2.2.2.2.2.2.2.2.2.2.2.1=d.2.1.2.2.2.2.2.2.2.2.2.2.2.2.2.1/\x.2.2.2.2.2.2.2.2.2.2.2.2.2.2.1=d.2.2.2.2.2.2.2.2.2.2.2.2.2.2.1):=
 Ok.mono (aUB (((d.2.1.2.2.2.2.2.2.2.2.2.2.2.2.2.2.2.2:Nat):Int)+3*d.1.2.2.2.1) d d ⟨by omega,by omega,b,by omega,by omega,by omega,k,rfl,rfl,rfl,rfl,rfl,rfl,rfl,rfl,rfl,rfl,rfl,rfl⟩) λx hx=>⟨by have h:=hx.1;omega,hx.2⟩
theorem aUC (w d:dC.B)(W5:w.c.2.1.b.1<=64)(W6:w.c.b.1.b.1<=64)(W7:w.c.b.2.1.b.1<=64)(W8:w.d.1.b.1<=64)(W9:w.d.2.1.b.1<=64)(W10:w.d.b.1.b.1<=64)(hd:0<=d.1/\d.1<=6/\((d.2.1.d.c.b.2.2:Nat):Int)+192*(6-d.1)<=1152/\BR w.d.c.b.1.1 w.c.2.1 d.c.2.1/\BR w.d.c.b.1.1 w.c.b.1 d.c.b.1/\BR w.d.c.b.1.1 w.c.b.2.1 d.c.b.2.1/\BR w.d.c.b.1.1 w.d.1 d.d.1/\BR w.d.c.b.1.1 w.d.2.1 d.d.2.1/\BR w.d.c.b.1.1 w.d.b.1 d.d.b.1/\d.d.c.1=w.d.c.1/\d.e.c.b.1=w.e.c.b.1/\d.2.1.c.1=w.2.1.c.1/\d.2.1.d.c.2.1=w.2.1.d.c.2.1/\d.d.c.b.1.1=w.d.c.b.1.1):Ok (tQ d) (λx:gu=>x.2.1.d.c.b.2.2<=1152/\BR w.d.c.b.1.1 w.c.2.1 x.c.2.1/\BR w.d.c.b.1.1 w.c.b.1 x.c.b.1/\BR w.d.c.b.1.1 w.c.b.2.1 x.c.b.2.1/\BR w.d.c.b.1.1 w.d.1 x.d.1/\BR w.d.c.b.1.1 w.d.2.1 x.d.2.1/\BR w.d.c.b.1.1 w.d.b.1 x.d.b.1/\x.d.c.1=w.d.c.1/\x.e.c.b.1=w.e.c.b.1/\x.2.1.c.1=w.2.1.c.1/\x.2.1.d.c.2.1=w.2.1.d.c.2.1):=
 wN (s:=_) (λd:dC.B=>0<=d.1/\d.1<=6/\((d.2.1.d.c.b.2.2:Nat):Int)+192*(6-d.1)<=1152/\BR w.d.c.b.1.1 w.c.2.1 d.c.2.1/\BR w.d.c.b.1.1 w.c.b.1 d.c.b.1/\BR w.d.c.b.1.1 w.c.b.2.1 d.c.b.2.1/\BR w.d.c.b.1.1 w.d.1 d.d.1/\BR w.d.c.b.1.1 w.d.2.1 d.d.2.1/\BR w.d.c.b.1.1 w.d.b.1 d.d.b.1/\d.d.c.1=w.d.c.1/\d.e.c.b.1=w.e.c.b.1/\d.2.1.c.1=w.2.1.c.1/\d.2.1.d.c.2.1=w.2.1.d.c.2.1/\d.d.c.b.1.1=w.d.c.b.1.1) (λd:dC.B=>z4 (6-d.1)) (λx:gu=>x.2.1.d.c.b.2.2<=1152/\BR w.d.c.b.1.1 w.c.2.1 x.c.2.1/\BR w.d.c.b.1.1 w.c.b.1 x.c.b.1/\BR w.d.c.b.1.1 w.c.b.2.1 x.c.b.2.1/\BR w.d.c.b.1.1 w.d.1 x.d.1/\BR w.d.c.b.1.1 w.d.2.1 x.d.2.1/\BR w.d.c.b.1.1 w.d.b.1 x.d.b.1/\x.d.c.1=w.d.c.1/\x.e.c.b.1=w.e.c.b.1/\x.2.1.c.1=w.2.1.c.1/\x.2.1.d.c.2.1=w.2.1.d.c.2.1) (λd hd=>by
  obtain⟨i0,i1,i2,s5,s6,s7,s8,s9,s10,i12,i22,i4,it,i14⟩:=hd;have hw:wI (d.1+1)=d.1+1:=aW;unfold tP;dsimp only;rw[aN];refine⟨λh=> ?_,λ_=>by rw[aw];exact⟨by show d.2.1.d.c.b.2.2<=1152;omega,s5,s6,s7,s8,s9,s10,i12,i22,i4,it⟩⟩;have h:=dm h;have r0:bf d.1 6=true:=by rw[bq];omega
  rw[r0];simp only[aQ]
  repeat' (first
   |rw[aE]
   |(with_reducible refine aA (aUu _ ?_) λe _ he=> ?_)
   |(with_reducible refine aA (a0m _ ?_ ?_ ?_ ?_ ?_) λy _ hy=> ?_)
   |(rw[aN];refine⟨λc=> ?_,λc=> ?_⟩))
  all_goals first
   |(rw[aw]
     obtain⟨p1,p2⟩:=he;have p2:=BR.mono (Int.le_of_eq i14) p2;obtain⟨y1,y2,hb5,hb6,hb7,hb8,hb9,a35,h12,h23,h4,ht,hh⟩:=hy;have p1':e.1<=64:=by first|exact dL p1 (dL s5.len W5)|exact dL p1 (dL s6.len W6)|exact dL p1 (dL s7.len W7)|exact dL p1 (dL s8.len W8)|exact dL p1 (dL s9.len W9)|exact dL p1 (dL s10.len W10)
     have y2:y.1.2.1=d.1:=y2;have y1:y.2.1.d.c.b.2.2<=d.2.1.d.c.b.2.2+3*e.1:=y1;have hw':wI (y.1.2.1+1)=d.1+1:=by rw[y2];exact hw
     exact⟨⟨by show 0<=wI (y.1.2.1+1);omega,by show wI (y.1.2.1+1)<=6;omega,by show((y.2.1.d.c.b.2.2:Nat):Int)+192*(6-wI (y.1.2.1+1))<=1152;omega,
    (by rw[show y.c.2.1=_ from hb5];first|exact s5|exact s5.trans p2),
    (by rw[show y.c.b.1=_ from hb6];first|exact s6|exact s6.trans p2),
    (by rw[show y.c.b.2.1=_ from hb7];first|exact s7|exact s7.trans p2),
    (by rw[show y.d.1=_ from hb8];first|exact s8|exact s8.trans p2),
    (by rw[show y.d.2.1=_ from hb9];first|exact s9|exact s9.trans p2),
    (by rw[show y.d.b.1=_ from a35];first|exact s10|exact s10.trans p2),
    h12.trans i12,h23.trans i22,h4.trans i4,ht.trans it,(cW (λz=>z.1) hh).trans i14⟩,by show z4 (6-wI (y.1.2.1+1))<_;omega⟩)
   |rfl
   |exact r0
   |(show d.2.1.d.c.b.2.2<=80000
     omega)
   |(obtain⟨p1,p2⟩:=he
     first|exact dL p1 (dL s5.len W5)|exact dL p1 (dL s6.len W6)|exact dL p1 (dL s7.len W7)|exact dL p1 (dL s8.len W8)|exact dL p1 (dL s9.len W9)|exact dL p1 (dL s10.len W10))
   |exact dL s5.len (dL W5 (by decide))
   |exact dL s6.len (dL W6 (by decide))
   |exact dL s7.len (dL W7 (by decide))
   |exact dL s8.len (dL W8 (by decide))
   |exact dL s9.len (dL W9 (by decide))
   |exact dL s10.len (dL W10 (by decide))) 2000 d hd (by omega)
theorem aUD (w d:dB.B)(hd:0<=d.1/\d.1<=6/\d.2.1=w.2.1/\d.c.2.1=w.c.2.1/\d.c.b.1=w.c.b.1/\d.c.b.2.1=w.c.b.2.1/\d.d.1=w.d.1/\d.d.2.1=w.d.2.1/\d.d.b.1=w.d.b.1/\d.d.c.1=w.d.c.1/\d.e.c.b.2.1=w.e.c.b.2.1):Ok (tN d) (λx:gr=>x.2.1=w.2.1/\x.c.2.1=w.c.2.1/\x.c.b.1=w.c.b.1/\x.c.b.2.1=w.c.b.2.1/\x.d.1=w.d.1/\x.d.2.1=w.d.2.1/\x.d.b.1=w.d.b.1/\x.d.c.1=w.d.c.1/\x.e.c.b.2.1=w.e.c.b.2.1):=
 wN (s:=_) (λd:dB.B=>0<=d.1/\d.1<=6/\d.2.1=w.2.1/\d.c.2.1=w.c.2.1/\d.c.b.1=w.c.b.1/\d.c.b.2.1=w.c.b.2.1/\d.d.1=w.d.1/\d.d.2.1=w.d.2.1/\d.d.b.1=w.d.b.1/\d.d.c.1=w.d.c.1/\d.e.c.b.2.1=w.e.c.b.2.1) (λd:dB.B=>z4 (6-d.1)) (λx:gr=>x.2.1=w.2.1/\x.c.2.1=w.c.2.1/\x.c.b.1=w.c.b.1/\x.c.b.2.1=w.c.b.2.1/\x.d.1=w.d.1/\x.d.2.1=w.d.2.1/\x.d.b.1=w.d.b.1/\x.d.c.1=w.d.c.1/\x.e.c.b.2.1=w.e.c.b.2.1) (λd hd=>by
  obtain⟨i0,i1,ik⟩:=hd;have hw:wI (d.1+1)=d.1+1:=aW;unfold tM;dsimp only;rw[aN];refine⟨λh=> ?_,λ_=>by rw[aw];exact ik⟩;have h:=dm h;have r0:bf d.1 6=true:=by rw[bq];omega
  rw[r0,hw,bH];intro _ _;rw[aE]
  repeat' (first
   |(rw[aN];refine⟨λc=> ?_,λc=> ?_⟩))
  all_goals
   rw[aw];exact⟨⟨by show 0<=d.1+1;omega,by show d.1+1<=6;omega,ik⟩,by show z4 (6-(d.1+1))<_;omega⟩) 2000 d hd (by omega)
theorem aTf (d:gJ.B)(h:d.d.b.2.1.2.2<=1999)(k:d.d.b.2.1.2.2<=d.e.c.2.1):Ok (jP d) (λx:jO=>match x with|.inl e=>e.c.2.1=d.c.1/\e.c.b.1=d.c.2.1/\e.c.b.2.1=d.c.b.1/\e.d.1=d.c.b.2.1/\e.d.2.1=d.d.1/\e.d.b.1=d.d.2.1/\e.d.c.1=d.d.b.2.1/\e.2.1.b.2.1=d.1.c.1/\e.2.1.d.b.2.1=d.1.d.c.2.1|.inr e=>e.c.2.1=d.c.1/\e.c.b.1=d.c.2.1/\e.c.b.2.1=d.c.b.1/\e.d.1=d.c.b.2.1/\e.d.2.1=d.d.1/\e.d.b.1=d.d.2.1/\e.d.c.1=d.d.b.2.1/\e.2.1.c.1=d.1.c.1/\e.2.1.d.c.1=d.1.d.c.2.1):=by
 unfold jP tO;try dsimp only
 show PQ _ _;rw[aN];refine⟨λ_=> ?_,λ_=>by rw[aw];exact⟨rfl,rfl,rfl,rfl,rfl,rfl,rfl,rfl,rfl⟩⟩;rw[aQ,aE];with_reducible refine aA (aOG _ ?_) λe _ he=> ?_
 .exact h
 have he:e.b.1=d.d.b.2.1.2.2:=he;have b1:(true&&z9 (e.b.1*11+0) (d.d.b.2.1.2.2*11)&&true)=true:=by rw[he,ku,aQ];rfl
 have b2:(true&&wr (0+(e.b.1*11+0)) (d.e.c.2.1*11+0))=true:=by rw[he,nY,bZ];omega
 try dsimp only
 rw[b1,b2,aE,aE,aw];exact⟨rfl,rfl,rfl,rfl,rfl,rfl,rfl,rfl,rfl⟩
theorem aTg (d:gK.B)(j:d.1.2.2.2.2.2.2.2.2.2.2.2.2.2.2.2.2<=1800)(h:d.2.2.2.2.2.2.2.2.2.2.2.1.2.2<=1999)(k:d.2.2.2.2.2.2.2.2.2.2.2.1.2.2<=d.2.2.2.2.2.2.2.2.2.2.2.2.2.2.2.2.2.2.2.2.2.2.1):Ok (jR d) (λx:jQ=>match x with|.inl e=>e.2.2.2.2.2.1=d.2.2.2.2.1/\e.2.2.2.2.2.2.1=d.2.2.2.2.2.1/\e.2.2.2.2.2.2.2.1=d.2.2.2.2.2.2.1/\e.2.2.2.2.2.2.2.2.1=d.2.2.2.2.2.2.2.1/\e.2.2.2.2.2.2.2.2.2.1=d.2.2.2.2.2.2.2.2.1/\e.2.2.2.2.2.2.2.2.2.2.1=d.2.2.2.2.2.2.2.2.2.1/\e.2.2.2.2.2.2.2.2.2.2.2.2.1=d.2.2.2.2.2.2.2.2.2.2.2.1/\e.2.1.2.2.2.1=d.1.2.2.2.2.1/\e.2.1.2.2.2.2.2.2.2.2.2.2.2.1=d.1.2.2.2.2.2.2.2.2.2.2.2.2.2.1|.inr e=>e.2.2.2.2.2.1=d.2.2.2.2.1/\e.2.2.2.2.2.2.1=d.2.2.2.2.2.1/\e.2.2.2.2.2.2.2.1=d.2.2.2.2.2.2.1/\e.2.2.2.2.2.2.2.2.1=d.2.2.2.2.2.2.2.1/\e.2.2.2.2.2.2.2.2.2.1=d.2.2.2.2.2.2.2.2.1/\e.2.2.2.2.2.2.2.2.2.2.1=d.2.2.2.2.2.2.2.2.2.1/\e.2.2.2.2.2.2.2.2.2.2.2.2.1=d.2.2.2.2.2.2.2.2.2.2.2.1/\e.2.1.2.2.2.2.1=d.1.2.2.2.2.1/\e.2.1.2.2.2.2.2.2.2.2.2.2.2.2.1=d.1.2.2.2.2.2.2.2.2.2.2.2.2.2.1):=by
 unfold jR tT;try dsimp only
 show PQ _ _;simp only[aQ];have b3:wr ((1+d.1.2.2.2.2.2.2.2.2.2.2.2.2.2.2.2.2)*80) 140737488355328=true:=by rw[bZ];omega
 rw[bH];intro _ _;rw[aN];refine⟨λ_=> ?_,λ_=> ?_⟩
 .rw[aE,aE];with_reducible refine aA (aUs _ ?_ ?_) λe _ he=> ?_
  .show d.1.2.2.2.2.2.2.2.2.2.2.2.2.2.2.2.2<=1999;omega
  .exact h
  have he:e.2.1=d.2.2.2.2.2.2.2.2.2.2.2.1.2.2:=he;have b1:(true&&z9 (e.2.1*11+0) (d.2.2.2.2.2.2.2.2.2.2.2.1.2.2*11)&&true)=true:=by rw[he,ku,aQ];rfl
  have b2:(true&&wr (0+(e.2.1*11+0)) (d.2.2.2.2.2.2.2.2.2.2.2.2.2.2.2.2.2.2.2.2.2.2.1*11+0))=true:=by rw[he,nY,bZ];omega
  rw[b1,b2,b3,aE,aE,aE,aE];with_reducible refine aA (bz.Ok (Q:=λ_=>True) (aIb _ _ _ _ _ _ _ _ _ _ _ _ _ ?_) λ_ _=>trivial) λe3 _ _=> ?_
  .omega
  simp only[aE];with_reducible refine aA (aTf _ ?_ ?_) λy _ hy=> ?_
  .exact h
  .exact k
  rw[qQ];refine⟨λa ha=> ?_,λa ha=> ?_⟩
  .rw[aw];rw[ha] at hy;exact hy
  .rw[aw];rw[ha] at hy;exact hy
 .simp only[aE];with_reducible refine aA (aTf _ ?_ ?_) λy _ hy=> ?_
  .exact h
  .exact k
  rw[qQ];refine⟨λa ha=> ?_,λa ha=> ?_⟩
  .rw[aw];rw[ha] at hy;exact hy
  .rw[aw];rw[ha] at hy;exact hy
theorem aMc (d:gL.B)(j:d.1.2.2.2.2.2.2.2.2.2.2.2.2.2.2.2.2=0)(l4:d.2.2.2.2.1.2.2.1<=64)(l5:d.2.2.2.2.2.1.2.2.1<=64)(l6:d.2.2.2.2.2.2.1.2.2.1<=64)(l7:d.2.2.2.2.2.2.2.1.2.2.1<=64)(l8:d.2.2.2.2.2.2.2.2.1.2.2.1<=64)(l9:d.2.2.2.2.2.2.2.2.2.1.2.2.1<=64)(h:d.2.2.2.2.2.2.2.2.2.2.2.1.2.2<=1999)(k:d.2.2.2.2.2.2.2.2.2.2.2.1.2.2<=d.2.2.2.2.2.2.2.2.2.2.2.2.2.2.2.2.2.2.2.2.2.1):Ok (iD d) (λx:jS=>match x with|.inl e=>BR d.2.2.2.2.2.2.2.2.2.2.2.2.2.1.1 d.2.2.2.2.1 e.2.2.2.2.2.1/\BR d.2.2.2.2.2.2.2.2.2.2.2.2.2.1.1 d.2.2.2.2.2.1 e.2.2.2.2.2.2.1/\BR d.2.2.2.2.2.2.2.2.2.2.2.2.2.1.1 d.2.2.2.2.2.2.1 e.2.2.2.2.2.2.2.1/\BR d.2.2.2.2.2.2.2.2.2.2.2.2.2.1.1 d.2.2.2.2.2.2.2.1 e.2.2.2.2.2.2.2.2.1/\BR d.2.2.2.2.2.2.2.2.2.2.2.2.2.1.1 d.2.2.2.2.2.2.2.2.1 e.2.2.2.2.2.2.2.2.2.1/\BR d.2.2.2.2.2.2.2.2.2.2.2.2.2.1.1 d.2.2.2.2.2.2.2.2.2.1 e.2.2.2.2.2.2.2.2.2.2.1/\e.2.2.2.2.2.2.2.2.2.2.2.2.1=d.2.2.2.2.2.2.2.2.2.2.2.1/\e.2.1.2.2.2.1=d.1.2.2.2.2.1/\e.2.1.2.2.2.2.2.2.2.2.2.2.2.1=d.1.2.2.2.2.2.2.2.2.2.2.2.2.2.1|.inr e=>BR d.2.2.2.2.2.2.2.2.2.2.2.2.2.1.1 d.2.2.2.2.1 e.2.2.2.2.2.1/\BR d.2.2.2.2.2.2.2.2.2.2.2.2.2.1.1 d.2.2.2.2.2.1 e.2.2.2.2.2.2.1/\BR d.2.2.2.2.2.2.2.2.2.2.2.2.2.1.1 d.2.2.2.2.2.2.1 e.2.2.2.2.2.2.2.1/\BR d.2.2.2.2.2.2.2.2.2.2.2.2.2.1.1 d.2.2.2.2.2.2.2.1 e.2.2.2.2.2.2.2.2.1/\BR d.2.2.2.2.2.2.2.2.2.2.2.2.2.1.1 d.2.2.2.2.2.2.2.2.1 e.2.2.2.2.2.2.2.2.2.1/\BR d.2.2.2.2.2.2.2.2.2.2.2.2.2.1.1 d.2.2.2.2.2.2.2.2.2.1 e.2.2.2.2.2.2.2.2.2.2.1/\e.2.2.2.2.2.2.2.2.2.2.2.2.1=d.2.2.2.2.2.2.2.2.2.2.2.1/\e.2.1.2.2.2.2.1=d.1.2.2.2.2.1/\e.2.1.2.2.2.2.2.2.2.2.2.2.2.2.1=d.1.2.2.2.2.2.2.2.2.2.2.2.2.2.1):=by
 unfold iD tU;try dsimp only
 show PQ _ _;simp only[aQ];simp only[aE];refine aA (aUC _ _ l4 l5 l6 l7 l8 l9 ⟨fk 0,(show(0:Int)<=6 by decide),(by show((d.1.2.2.2.2.2.2.2.2.2.2.2.2.2.2.2.2:Nat):Int)+192*(6-0)<=1152;omega),BR.refl _ _,BR.refl _ _,BR.refl _ _,BR.refl _ _,BR.refl _ _,BR.refl _ _,rfl,rfl,rfl,rfl,rfl⟩) λa _ ha=> ?_;obtain⟨u1,u5,u6,u7,u8,u9,u10,u12,u22,u4,ut⟩:=ha;simp only[aE];refine aA (aUD _ _ ⟨fk 0,(show(0:Int)<=6 by decide),rfl,rfl,rfl,rfl,rfl,rfl,rfl,rfl,rfl⟩) λb _ hb=> ?_;obtain⟨g1,g5,g6,g7,g8,g9,g10,g12,g23⟩:=hb;rw[aN];refine⟨λ_=> ?_,λ_=> ?_⟩
 .simp only[aE];with_reducible refine aA (aTg _ ?_ ?_ ?_) λy _ hy=> ?_
  .show b.2.1.2.2.2.2.2.2.2.2.2.2.2.2.2.2.2.2<=1800;rw[g1];exact dL u1 (by decide)
  .show b.2.2.2.2.2.2.2.2.2.2.2.2.1.2.2<=1999;rw[g12];show a.2.2.2.2.2.2.2.2.2.2.2.2.1.2.2<=1999;rw[u12];exact h
  .show b.2.2.2.2.2.2.2.2.2.2.2.2.1.2.2<=b.2.2.2.2.2.2.2.2.2.2.2.2.2.2.2.2.2.2.2.2.2.2.2.1;rw[g12,g23];show a.2.2.2.2.2.2.2.2.2.2.2.2.1.2.2<=a.2.2.2.2.2.2.2.2.2.2.2.2.2.2.2.2.2.2.2.2.2.2.1;rw[u12,u22];exact k
  rw[qQ];refine⟨λa1 ha=> ?_,λa1 ha=> ?_⟩
  .rw[aw];rw[ha] at hy;obtain⟨q5,q6,q7,q8,q9,q10,UI,q4,qt⟩:=hy;exact⟨(by rw[q5];show BR _ _ b.2.2.2.2.2.1;rw[g5];exact u5),(by rw[q6];show BR _ _ b.2.2.2.2.2.2.1;rw[g6];exact u6),(by rw[q7];show BR _ _ b.2.2.2.2.2.2.2.1;rw[g7];exact u7),(by rw[q8];show BR _ _ b.2.2.2.2.2.2.2.2.1;rw[g8];exact u8),(by rw[q9];show BR _ _ b.2.2.2.2.2.2.2.2.2.1;rw[g9];exact u9),(by rw[q10];show BR _ _ b.2.2.2.2.2.2.2.2.2.2.1;rw[g10];exact u10),UI.trans (g12.trans u12),q4.trans ((cW (λz=>z.2.2.2.2.1) g1).trans u4),qt.trans ((cW (λz=>z.2.2.2.2.2.2.2.2.2.2.2.2.2.1) g1).trans ut)⟩
  .rw[aw];rw[ha] at hy;obtain⟨q5,q6,q7,q8,q9,q10,UI,q4,qt⟩:=hy;exact⟨(by rw[q5];show BR _ _ b.2.2.2.2.2.1;rw[g5];exact u5),(by rw[q6];show BR _ _ b.2.2.2.2.2.2.1;rw[g6];exact u6),(by rw[q7];show BR _ _ b.2.2.2.2.2.2.2.1;rw[g7];exact u7),(by rw[q8];show BR _ _ b.2.2.2.2.2.2.2.2.1;rw[g8];exact u8),(by rw[q9];show BR _ _ b.2.2.2.2.2.2.2.2.2.1;rw[g9];exact u9),(by rw[q10];show BR _ _ b.2.2.2.2.2.2.2.2.2.2.1;rw[g10];exact u10),UI.trans (g12.trans u12),q4.trans ((cW (λz=>z.2.2.2.2.1) g1).trans u4),qt.trans ((cW (λz=>z.2.2.2.2.2.2.2.2.2.2.2.2.2.1) g1).trans ut)⟩
 .simp only[aE];with_reducible refine aA (aTg _ ?_ ?_ ?_) λy _ hy=> ?_
  .show b.2.1.2.2.2.2.2.2.2.2.2.2.2.2.2.2.2.2<=1800;rw[g1];exact dL u1 (by decide)
  .show b.2.2.2.2.2.2.2.2.2.2.2.2.1.2.2<=1999;rw[g12];show a.2.2.2.2.2.2.2.2.2.2.2.2.1.2.2<=1999;rw[u12];exact h
  .show b.2.2.2.2.2.2.2.2.2.2.2.2.1.2.2<=b.2.2.2.2.2.2.2.2.2.2.2.2.2.2.2.2.2.2.2.2.2.2.2.1;rw[g12,g23];show a.2.2.2.2.2.2.2.2.2.2.2.2.1.2.2<=a.2.2.2.2.2.2.2.2.2.2.2.2.2.2.2.2.2.2.2.2.2.2.1;rw[u12,u22];exact k
  rw[qQ];refine⟨λa1 ha=> ?_,λa1 ha=> ?_⟩
  .rw[aw];rw[ha] at hy;obtain⟨q5,q6,q7,q8,q9,q10,UI,q4,qt⟩:=hy;exact⟨(by rw[q5];show BR _ _ b.2.2.2.2.2.1;rw[g5];exact u5),(by rw[q6];show BR _ _ b.2.2.2.2.2.2.1;rw[g6];exact u6),(by rw[q7];show BR _ _ b.2.2.2.2.2.2.2.1;rw[g7];exact u7),(by rw[q8];show BR _ _ b.2.2.2.2.2.2.2.2.1;rw[g8];exact u8),(by rw[q9];show BR _ _ b.2.2.2.2.2.2.2.2.2.1;rw[g9];exact u9),(by rw[q10];show BR _ _ b.2.2.2.2.2.2.2.2.2.2.1;rw[g10];exact u10),UI.trans (g12.trans u12),q4.trans ((cW (λz=>z.2.2.2.2.1) g1).trans u4),qt.trans ((cW (λz=>z.2.2.2.2.2.2.2.2.2.2.2.2.2.1) g1).trans ut)⟩
  .rw[aw];rw[ha] at hy;obtain⟨q5,q6,q7,q8,q9,q10,UI,q4,qt⟩:=hy;exact⟨(by rw[q5];show BR _ _ b.2.2.2.2.2.1;rw[g5];exact u5),(by rw[q6];show BR _ _ b.2.2.2.2.2.2.1;rw[g6];exact u6),(by rw[q7];show BR _ _ b.2.2.2.2.2.2.2.1;rw[g7];exact u7),(by rw[q8];show BR _ _ b.2.2.2.2.2.2.2.2.1;rw[g8];exact u8),(by rw[q9];show BR _ _ b.2.2.2.2.2.2.2.2.2.1;rw[g9];exact u9),(by rw[q10];show BR _ _ b.2.2.2.2.2.2.2.2.2.2.1;rw[g10];exact u10),UI.trans (g12.trans u12),q4.trans ((cW (λz=>z.2.2.2.2.1) g1).trans u4),qt.trans ((cW (λz=>z.2.2.2.2.2.2.2.2.2.2.2.2.2.1) g1).trans ut)⟩
theorem aYN (N:Nat)(h1:1<=N)(hN:N<=1999)(x:mb.B)(hs:x.2.2.2.2.2.2.2.2.2.2.2.2.1.1<=(N:Int))(hl:x.2.2.2.2.2.2.2.2.2.2.2.2.1.2.2<=N)(hq:x.2.1.2.2.2.2.1<=1999)(l5:x.2.2.2.2.2.1.2.2.1<=64)(l6:x.2.2.2.2.2.2.1.2.2.1<=64)(l7:x.2.2.2.2.2.2.2.1.2.2.1<=64)(l8:x.2.2.2.2.2.2.2.2.1.2.2.1<=64)(l9:x.2.2.2.2.2.2.2.2.2.1.2.2.1<=64)(l10:x.2.2.2.2.2.2.2.2.2.2.1.2.2.1<=64):Ok (kn x) (λr:oD=>BR x.1.1 x.2.2.2.2.2.1 r.1.2.1/\BR x.1.1 x.2.2.2.2.2.2.1 r.1.2.2.1/\BR x.1.1 x.2.2.2.2.2.2.2.1 r.1.2.2.2.1/\BR x.1.1 x.2.2.2.2.2.2.2.2.1 r.1.2.2.2.2.1/\BR x.1.1 x.2.2.2.2.2.2.2.2.2.1 r.1.2.2.2.2.2.1/\BR x.1.1 x.2.2.2.2.2.2.2.2.2.2.1 r.1.2.2.2.2.2.2.1/\r.1.2.2.2.2.2.2.2.2.1=x.2.2.2.2.2.2.2.2.2.2.2.2.1.1/\r.1.2.2.2.2.2.2.2.2.2.2<=N/\r.1.1.2.2.2.2.1=x.2.1.2.2.2.2.1/\r.1.1.2.2.2.2.2.2.2.2.2.2.2.2.2.1=x.1.1):=by
 unfold kn rV;try dsimp only
 show PQ _ _;simp only[aQ];rw[aN];refine⟨λ_=> ?_,λ_=> ?_⟩
 .simp only[aE];with_reducible refine aA (aUz N h1 hN _ ?_ ?_) λe _ he=> ?_
  .exact hs
  .exact hq
  rw[uD];refine⟨λb hb=> ?_,λb hb=> ?_⟩
  .rw[hb] at he;obtain⟨e1,e2,e4,et⟩:=he;have e1:b.2=x.2.2.2.2.2.2.2.2.2.2.2.2.1:=e1;simp only[aE];with_reducible refine aA (aMc _ ?_ ?_ ?_ ?_ ?_ ?_ ?_ ?_ ?_) λy _ hy=> ?_
   .exact e2
   .exact l5
   .exact l6
   .exact l7
   .exact l8
   .exact l9
   .exact l10
   .show b.2.2.2<=1999;rw[e1];omega
   .show b.2.2.2<=x.2.2.2.2.2.2.2.2.2.2.2.2.1.2.2;rw[e1];exact cZ _
   rw[qQ];refine⟨λa ha=> ?_,λa ha=> ?_⟩
   .rw[ha] at hy;obtain⟨s5,s6,s7,s8,s9,s10,UI,q4,qt⟩:=hy;rw[aw];exact⟨s5,s6,s7,s8,s9,s10,(by show a.2.2.2.2.2.2.2.2.2.2.2.2.1.1=x.2.2.2.2.2.2.2.2.2.2.2.2.1.1;rw[UI];show b.2.1=_;rw[e1]),(by show a.2.2.2.2.2.2.2.2.2.2.2.2.1.2.2<=N;rw[UI];show b.2.2.2<=N;rw[e1];exact hl),q4.trans e4,qt.trans et⟩
   .rw[ha] at hy;obtain⟨s5,s6,s7,s8,s9,s10,UI,q4,qt⟩:=hy;rw[aw];exact⟨s5,s6,s7,s8,s9,s10,(by show a.2.2.2.2.2.2.2.2.2.2.2.2.1.1=x.2.2.2.2.2.2.2.2.2.2.2.2.1.1;rw[UI];show b.2.1=_;rw[e1]),(by show a.2.2.2.2.2.2.2.2.2.2.2.2.1.2.2<=N;rw[UI];show b.2.2.2<=N;rw[e1];exact hl),q4.trans e4,qt.trans et⟩
  .rw[hb] at he;obtain⟨e1,e2,e3,e4,e5,et⟩:=he;have e2:b.1.2.1=x.2.2.2.2.2.2.2.2.2.2.2.2.1.1:=e2;simp only[aE];with_reducible refine aA (aMc _ ?_ ?_ ?_ ?_ ?_ ?_ ?_ ?_ ?_) λy _ hy=> ?_
   .exact e4
   .exact l5
   .exact l6
   .exact l7
   .exact l8
   .exact l9
   .exact l10
   .show b.1.2.2.2<=1999;omega
   .exact e3
   rw[qQ];refine⟨λa ha=> ?_,λa ha=> ?_⟩
   .rw[ha] at hy;obtain⟨s5,s6,s7,s8,s9,s10,UI,q4,qt⟩:=hy;rw[aw];exact⟨s5,s6,s7,s8,s9,s10,(by show a.2.2.2.2.2.2.2.2.2.2.2.2.1.1=x.2.2.2.2.2.2.2.2.2.2.2.2.1.1;rw[UI];exact e2),(by show a.2.2.2.2.2.2.2.2.2.2.2.2.1.2.2<=N;rw[UI];exact e1),q4.trans e5,qt.trans et⟩
   .rw[ha] at hy;obtain⟨s5,s6,s7,s8,s9,s10,UI,q4,qt⟩:=hy;rw[aw];exact⟨s5,s6,s7,s8,s9,s10,(by show a.2.2.2.2.2.2.2.2.2.2.2.2.1.1=x.2.2.2.2.2.2.2.2.2.2.2.2.1.1;rw[UI];exact e2),(by show a.2.2.2.2.2.2.2.2.2.2.2.2.1.2.2<=N;rw[UI];exact e1),q4.trans e5,qt.trans et⟩
 .rw[bH];intro _ _;rw[bH];intro _ _;simp only[aE];with_reducible refine aA (aMc _ ?_ ?_ ?_ ?_ ?_ ?_ ?_ ?_ ?_) λy _ hy=> ?_
  .rfl
  .exact l5
  .exact l6
  .exact l7
  .exact l8
  .exact l9
  .exact l10
  .show x.2.2.2.2.2.2.2.2.2.2.2.2.1.2.2<=1999;omega
  .exact cZ _
  rw[qQ];refine⟨λa ha=> ?_,λa ha=> ?_⟩
  .rw[ha] at hy;obtain⟨s5,s6,s7,s8,s9,s10,UI,q4,qt⟩:=hy;rw[aw];exact⟨s5,s6,s7,s8,s9,s10,(by show a.2.2.2.2.2.2.2.2.2.2.2.2.1.1=x.2.2.2.2.2.2.2.2.2.2.2.2.1.1;rw[UI];done),(by show a.2.2.2.2.2.2.2.2.2.2.2.2.1.2.2<=N;rw[UI];exact hl),q4.trans rfl,qt.trans rfl⟩
  .rw[ha] at hy;obtain⟨s5,s6,s7,s8,s9,s10,UI,q4,qt⟩:=hy;rw[aw];exact⟨s5,s6,s7,s8,s9,s10,(by show a.2.2.2.2.2.2.2.2.2.2.2.2.1.1=x.2.2.2.2.2.2.2.2.2.2.2.2.1.1;rw[UI];done),(by show a.2.2.2.2.2.2.2.2.2.2.2.2.1.2.2<=N;rw[UI];exact hl),q4.trans rfl,qt.trans rfl⟩
abbrev Ur (x:Int):Prop:= -1152921504606846976<=x/\x<=1152921504606846976
abbrev Dr (x:Int):Prop:=1<=x/\x<=72057594037927936
def vh (v:(Nat->Int)×(Nat->Int)):Prop:=(∀j,j<276->Ur (v.1 j))/\(∀j,j<24->Dr (v.2 j))
theorem vh.of {u v:Nat->Int}(h:∀j,j<276->Ur (u j))(k:∀j,j<24->Dr (v j)):vh (u,v):=⟨h,k⟩
theorem apF {P:Int->Prop}{m:Nat}{v:Nat->Int}{k:Nat}{x:Int}(h:∀j,j<m->P (v j))(hx:P x):∀j,j<m->P (bif z9 j k then x else v j):=by
 intro j hj;cases z9 j k
 .exact h j hj
 .exact hx
theorem afX (x0 x1 x2:Int)(x3:Bool)(h:x1<=x2):Po (aV x0 x1 x2 x3) (λr=>x1<=r.1/\r.1<=x2):=by
 unfold aV qz;show PW _ _;simp only[aT,aL,jW,OD];omega
theorem a2f (x0:Int)(x1:Bool):Po (aP x0 x1) (λr=>Ur r.1):=by
 unfold aP QE;show PW _ _;refine aC (afX _ _ _ _ (by decide)) λd _ hd=> ?_;rw[aL];exact hd
theorem aTh (x0:Bool):Po (oc x0) (λr:Int=>Ur r):=by
 unfold oc OZ;show PW _ _;simp only[aT,aL];exact⟨λ_=>by decide,λ_=>by decide⟩
theorem aYO (x0:Int)(x1 x2 x3:Bool):Po (kH x0 x1 x2 x3) (λr=>Ur r.1):=by
 unfold kH D6;show PW _ _;rw[aT];refine⟨λ_=>aC (aTh _) λd _ hd=> ?_,λ_=>aC (a2f _ _) λd _ hd=> ?_⟩;all_goals rw[aL];exact hd
theorem a36 (x0 x1 x2:Int)(x3:Bool):Po (su x0 x1 x2 x3) (λr=>Ur r.1):=by
 unfold su GW;show PW _ _;try dsimp only
 repeat' (first
  |(with_reducible refine aC (aTh _) λe _ he=> ?_)
  |(with_reducible refine aC (aYO _ _ _ _) λe _ he=> ?_)
  |(rw[bg];intro _ _)
  |(rw[aT];refine⟨λ_=> ?_,λ_=> ?_⟩))
 all_goals (rw[aL];first|exact he|(show Ur 0;decide))
theorem a2g (x0 x1 x2:Int)(x3:Bool):Po (bl x0 x1 x2 x3) (λr=>Ur r.1):=by
 unfold bl IJ;show PW _ _;try dsimp only
 repeat' (first
  |(with_reducible refine aC (a36 _ _ _ _) λe _ he=> ?_)
  |(rw[bg];intro _ _)
  |(rw[aT];refine⟨λ_=> ?_,λ_=> ?_⟩))
 all_goals (rw[aL];first|exact he|(show Ur 0;decide))
theorem a2h (x0:Nat)(x1:Bool)(x2:Nat->Int)(w0:Bool):Po (cJ x0 x1 x2 w0) (λr=>Ur r.1):=by
 unfold cJ QO;show PW _ _;try dsimp only
 repeat' (first
  |(rw[cw];exact trivial)
  |(with_reducible refine aC (aYO _ _ _ _) λe _ he=> ?_)
  |(rw[bg];intro _ _)
  |(rw[aT];refine⟨λ_=> ?_,λ_=> ?_⟩))
 all_goals (rw[aL];exact he)
theorem aCj (x0:Int)(x1:Bool):Po (hO x0 x1) (λr=>Dr r.1):=by
 unfold hO yI;show PW _ _;refine aC (afX _ _ _ _ (by decide)) λd _ hd=> ?_;rw[aL];exact hd
theorem aYP (x0 x1:Nat->Int)(x2 x3 x4:Int)(h:∀j,j<276->Ur (x0 j))(k:Ur x4):Po (uG x0 x1 x2 x3 x4) (λr=>(∀j,j<276->Ur (r.1 j))/\r.2=x1):=by
 unfold uG XG;show PW _ _;try dsimp only
 rw[bg];intro d _
 repeat' (first
  |(rw[cw];exact trivial)
  |(rw[aT];refine⟨λ_=> ?_,λ_=> ?_⟩))
 .rw[aL];exact⟨apF h k,rfl⟩
 .rw[aL];exact⟨h,rfl⟩
theorem aDC:∀(d:eP.B) (hd:vh d.b.1),Po (rz d) (λx:lP=>vh x.b.1):=
 lN (λd hd=>by
  unfold ry;try dsimp only
  repeat' (first
   |(rw[cw];exact trivial)
   |(with_reducible refine aC (aCj _ _) λe _ he=> ?_)
   |(rw[aT];refine⟨λ_=> ?_,λ_=> ?_⟩))
  .rw[aL];exact⟨hd.1,apF hd.2 he⟩
  .rw[aL];exact hd)
theorem aDD:∀(d:eQ.B) (hd:vh d.b.1),Po (rB d) (λx:lQ=>vh x.b.1):=
 lN (λd hd=>by
  unfold rA;try dsimp only
  repeat' (first
   |(rw[cw];exact trivial)
   |(with_reducible refine aC (afX _ _ _ _ (by decide)) λe _ he=> ?_)
   |(rw[aT];refine⟨λ_=> ?_,λ_=> ?_⟩))
  .rw[aL];exact⟨apF hd.1 he,hd.2⟩
  .rw[aL];exact hd)
theorem axw (x0 x1:Nat->Int)(x2:Bool)(h:vh (x0,x1)):Po (dO x0 x1 x2) (λr=>vh r.1):=by
 unfold dO wq;show PW _ _;refine aC (aDC _ (by exact h)) λd _ hd=> ?_;refine aC (aDD _ (by exact hd)) λe _ he=> ?_;rw[aL];exact he
theorem aGZ (j:Int)(v:(Nat->Int)×(Nat->Int)):∀(d:eR.B) (hd:d.1.1=j/\d.c.2.1=v),Po (wV d) (λx:lS=>x.1.1=j/\x.c.2.1=v):=
 lN (λd hd=>by
  unfold wT;try dsimp only
  try dsimp only
  repeat' (first
   |(rw[cw];exact trivial)
   |(rw[bg];intro _ _)
   |(rw[aT];refine⟨λ_=> ?_,λ_=> ?_⟩))
  all_goals (rw[aL];exact hd))
theorem aG0 (j:Int)(v:(Nat->Int)×(Nat->Int)):∀(d:eS.B) (hd:d.1.1=j/\d.c.2.1=v),Po (wX d) (λx:lT=>x.1.1=j/\x.c.2.1=v):=
 lN (λd hd=>by
  unfold wW;try dsimp only
  try dsimp only
  repeat' (first
   |(rw[cw];exact trivial)
   |(rw[bg];intro _ _)
   |(rw[aT];refine⟨λ_=> ?_,λ_=> ?_⟩))
  all_goals (rw[aL];exact hd))
theorem aG1 (j:Int)(v:Nat->Int):∀(d:eT.B) (hd:d.1.1=j/\(∀k,k<276->Ur (d.c.2.1.1 k))/\d.c.2.1.2=v),Po (wZ d) (λx:ov=>x.1.1=j/\(∀k,k<276->Ur (x.c.2.1.1 k))/\x.c.2.1.2=v):=
 lN (λd hd=>by
  unfold wY;try dsimp only
  try dsimp only
  repeat' (first
   |(rw[cw];exact trivial)
   |(with_reducible refine aC (a2g _ _ _ _) λe _ he=> ?_)
   |(with_reducible refine aC (aYP _ _ _ _ _ hd.2.1 he) λq _ hq=> ?_)
   |(with_reducible refine aC (aG0 j q _ ⟨hd.1,rfl⟩) λw _ hw=> ?_)
   |(rw[bg];intro _ _)
   |(rw[aT];refine⟨λ_=> ?_,λ_=> ?_⟩))
  .rw[aL];obtain⟨w1,w2⟩:=hw;exact⟨w1,by rw[show _=q from w2];exact hq.1,by rw[show _=q from w2];exact hq.2.trans hd.2.2⟩
  .rw[aL];exact hd)
theorem aG2:∀(d:fS.B) (hd:d.1<=23/\ -1<=d.1/\(∀k,k<276->Ur (d.c.2.1 k))/\(∀k:Nat,d.1<(k:Int)->k<24->Dr (d.c.2.2 k))),Po (w8 d) (λx:oy=>vh x.c.2):=
 lN (λd hd=>by
  unfold w7;try dsimp only
  try dsimp only
  obtain⟨i0,i1,i2,i3⟩:=hd;rw[aT];refine⟨λh=> ?_,λh=> ?_⟩
  .have h:=dm h;have hw:wI (d.1-1)=d.1-1:=dV;with_reducible refine aC (aGZ d.1 d.c.2 _ ⟨rfl,rfl⟩) λa _ ha=> ?_
   obtain⟨a1,a2⟩:=ha;try dsimp only
   repeat' (first
    |(rw[cw];exact trivial)
    |(with_reducible refine aC (afX _ 1 72057594037927936 _ (by decide)) λe _ he=> ?_)
    |(with_reducible refine aC (aG1 a.1.1 _ _ ⟨rfl,by rw[a2];exact i2,rfl⟩) λw _ hw=> ?_)
    |(rw[bg];intro _ _)
    |(rw[aT];refine⟨λ_=> ?_,λ_=> ?_⟩))
   rw[aL];obtain⟨w1,w2,w3⟩:=hw;have w1:w.1.1=d.1:=w1.trans a1;show wI (w.1.1-1)<=23/\ -1<=wI (w.1.1-1)/\(∀k,k<276->Ur (w.c.2.1.1 k))/\(∀k:Nat,wI (w.1.1-1)<(k:Int)->k<24->Dr (w.c.2.1.2 k));rw[w1,hw,w3];refine⟨by omega,by omega,w2,λk hk h24=> ?_⟩;show Dr (bif z9 k (z4 a.1.1) then e.1 else a.c.2.1.2 k);cases hb:z9 k (z4 a.1.1) with
   |true=>exact he
   |false=>
    rw[a2];have nb:k≠z4 a.1.1:=λh=>by rw[h,Fz] at hb;cases hb
    have a1:a.1.1=d.1:=a1;rw[a1] at nb;exact i3 k (by omega) h24
  .have h:=vk h;rw[aL];exact⟨i2,λk hk=>i3 k (by omega) hk⟩)
theorem aCk (x0 x1 x2 x3:Nat->Int)(x4:Bool):Po (hX x0 x1 x2 x3 x4) (λr=>vh r.1):=by
 unfold hX Bi;show PW _ _;rw[bg];intro _ _;rw[bg];intro _ _;rw[bg];intro _ _;refine aC (aG2 _ ⟨(show(23:Int)<=23 by decide),(show(-1:Int)<=23 by decide),λk _=>(show Ur 0 by decide),λk h1 h2=>absurd (show(23:Int)<k from h1) (by omega)⟩) λe _ he=> ?_;rw[aL];exact he
theorem aoV (x0 x1:Nat->Int)(x2:Int)(x3:Nat)(x4:Bool)(x5:Nat->Int)(w0:Bool):Po (cS x0 x1 x2 x3 x4 x5 w0) (λr=>vh r.1):=by
 unfold cS FW;show PW _ _;rw[bg];intro _ _;rw[aT];refine⟨λ_=> ?_,λ_=>by rw[cw];exact trivial⟩;rw[bg];intro _ _;refine aC (aCk _ _ _ _ _) λe _ he=> ?_;rw[aL];exact he
theorem aRF:∀(d:j9.B) (hd:vh (d.b.2.1,d.c.1)),Po (EY d) (λx:ud=>vh (x.b.2.1,x.c.1)):=
 lN (λd hd=>by
  unfold EX;try dsimp only
  repeat' (first
   |(rw[cw];exact trivial)
   |(rw[bg];intro _ _)
   |(rw[aT];refine⟨λ_=> ?_,λ_=> ?_⟩))
  all_goals (rw[aL];exact hd))
theorem aRG:∀(d:ka.B) (hd:vh (d.b.2.1.1,d.b.2.1.2.1)),Po (E0 d) (λx:ue=>vh (x.b.2.1.1,x.b.2.1.2.1)):=
 lN (λd hd=>by
  unfold EZ;try dsimp only
  try dsimp only
  repeat' (first
   |(rw[cw];exact trivial)
   |(rw[bg];intro _ _)
   |(rw[aT];refine⟨λ_=> ?_,λ_=> ?_⟩))
  all_goals (rw[aL];exact hd))
theorem aRH:∀(d:kc.B) (hd:vh (d.b.2.1,d.c.1)),Po (E2 d) (λx:uf=>vh (x.b.2.1,x.c.1)):=
 lN (λd hd=>by
  unfold E1;try dsimp only
  try dsimp only
  rw[aT];refine⟨λ_=> ?_,λ_=>by rw[aL];exact hd⟩;rw[aT];refine⟨λ_=> ?_,λ_=>by rw[cw];exact trivial⟩;with_reducible refine aC (aRG _ hd) λa _ ha=> ?_
  try dsimp only
  repeat' (first
   |(rw[cw];exact trivial)
   |(rw[bg];intro _ _)
   |(rw[aT];refine⟨λ_=> ?_,λ_=> ?_⟩))
  all_goals (rw[aL];exact ha))
theorem a0n (x0 x1 x2:Nat->Int)(x3:Int)(x4:Bool)(h:vh (x0,x1)):Po (nR x0 x1 x2 x3 x4) (λr=>vh (r.2.1,r.b.1)):=by
 unfold nR JN;try dsimp only
 show PW _ _;refine aC (axw _ _ _ h) λd _ hd=> ?_;refine aC (aRF _ hd) λd1 _ h1=> ?_;rw[bg];intro _ _;refine aC (aRH _ h1) λd2 _ h2=> ?_;rw[aL];exact h2
theorem aMd:∀(d:iu.B) (hd:vh d.c.2.1),Po (AH d) (λx:qj=>vh x.c.2.1):=
 lN (λd hd=>by
  unfold AG;try dsimp only
  try dsimp only
  have hU:=hd.1;have hV:=hd.2
  repeat' (first
   |(rw[cw];exact trivial)
   |(with_reducible refine aC (aYP _ _ _ _ _ hU he) λq _ hq=> ?_)
   |(with_reducible refine aC (a2h _ _ _ _) λe _ he=> ?_)
   |(rw[bg];intro _ _)
   |(rw[aT];refine⟨λ_=> ?_,λ_=> ?_⟩))
  all_goals (rw[aL];first|exact hd|exact⟨hq.1,by rw[show _=_ from hq.2];exact hd.2⟩))
theorem aMe:∀(d:iw.B) (hd:vh d.c.2.1),Po (AL d) (λx:ql=>vh x.c.2.1):=
 lN (λd hd=>by
  unfold AK;try dsimp only
  try dsimp only
  have hU:=hd.1;have hV:=hd.2
  repeat' (first
   |(rw[cw];exact trivial)
   |(with_reducible refine aC (afX _ 1 72057594037927936 _ (by decide)) λe _ he=> ?_)
   |(with_reducible refine aC (aMd _ (vh.of hU (apF hV he))) λq _ hq=> ?_)
   |(rw[bg];intro _ _)
   |(rw[aT];refine⟨λ_=> ?_,λ_=> ?_⟩))
  all_goals (rw[aL];first|exact hd|exact hq))
theorem aMf:∀(d:iv.B) (hd:vh d.c.2.1),Po (AJ d) (λx:qk=>vh x.c.2.1):=
 lN (λd hd=>by
  unfold AI;try dsimp only
  try dsimp only
  repeat' (first
   |(rw[cw];exact trivial)
   |(rw[bg];intro _ _)
   |(rw[aT];refine⟨λ_=> ?_,λ_=> ?_⟩))
  all_goals (rw[aL];exact hd))
theorem aUE (x0 x1 x2:Nat->Int)(x3:Int)(x4:Bool)(h:vh (x0,x1)):Po (pT x0 x1 x2 x3 x4) (λr=>vh r.1.1):=by
 unfold pT E3;show PW _ _;refine aC (a0n _ _ _ _ _ h) λd _ hd=> ?_;refine aC (aMe _ hd) λd1 _ h1=> ?_;refine aC (aMf _ h1) λd2 _ h2=> ?_;rw[aL];exact h2
theorem aRI (x0:Nat->Int)(x1:Nat->Int)(x2:Nat->Int)(x3:Int)(x4:Int)(x5:Int)(x6:Int)(x7:Int)(x8:Int)(x9:Int)(fX:Int)(fY:Nat->Int)(A7:Bool):Po (B5 x0 x1 x2 x3 x4 x5 x6 x7 x8 x9 fX fY A7) (λr=>vh r.1):=by
 unfold B5 abL;show PW _ _;rw[bg];intro _ _;rw[bg];intro _ _;refine aC (aCk _ _ _ _ _) λe _ he=> ?_;rw[aL];exact he
theorem aYQ {f:Nat->Int}(n:Nat)(h:∀j,0<=f j):0<=vf f n:=by
 induction n with
 |zero=>exact fk _
 |succ n ih=>have:=h n;rw[vf];omega
theorem uq (a:Int):0<=a*a:=by
 rcases agv 0 a with h|h
 .exact Cb h h
 .have:=Cb (a:= -a) (b:= -a) (by omega) (by omega);rwa [Int.neg_mul_neg] at this
theorem aCl (n:Nat)(hn:n<=64)(eZ w:Bool)(l:Nat->Int)(r:Int)(hr:isR r (vf (λj=>sat (l j)*sat (l j)) n)):
  cz n eZ l w=some (sat r,(eZ||zk (λj=>eN (l j)) n)||eN r):=by
 have m:(if 64<ws n then 64 else ws n)=ws n:=by rw[if_neg (by simp only[dz];omega)]
 have hre:HE (ws n) n=true:=by
  unfold HE;simp only[dz,cB,jW];omega
 have q0:z4 (ws n)=n:=rfl;simp only[cz,QQ,Pg.bQ,Pg.bN,Pg.cx,Pg.fq,Pg.ew];unfold JD;rw[m,hre,bB,q0]
 refine Km (λt d=>∃(i:Nat) (h l':Int),i+t=n/\okW h l'/\vW h l'=vf (λj=>sat (l j)*sat (l j)) i/\d=(((n,w&&false),ws n,ws i),(eZ||zk (λj=>eN (l j)) i),(n,l),h,l')) ?_ 2000 n _ (by omega)
  ⟨0,0,0,by omega,⟨by omega,by omega,by omega,by omega⟩,rfl,by simp only[zk,OF];rfl⟩
 rintro t _ c ⟨i,h,l',hi,ho,hv,rfl⟩ hc
 have bnd:=aeV (λj=>sat (l j)*sat (l j)) 1329227995784915872903807060280344576 (by omega) i (λj _=>RT _ _);rcases WD t with t0|t0
 .have e:i=n:=by omega
  subst e;have nn:=aYQ (f:=λj=>sat (l j)*sat (l j)) i λj=>uq _
  rw[<-hv] at nn hr
  have h0:0<=h:=by
   obtain⟨o1,o2,o3,o4⟩:=ho;simp only[vW] at nn;omega
  simp only[uF,Pg.sV,Pg.sW,Pg.wM,Pg.Cf,Pg.sX,nZ,ld,apz (cZ i),bI,ahZ h l' r _ ho h0 hr,bG]
 .have hs:=mu (l i);have hm:=RT (l i) (l i);obtain⟨h1,l1,e1,o1,v1⟩:=Bl (sat (l i)) (sat (l i)) (by omega) (by omega) (by omega) (by omega)
  obtain⟨h2,l2,e2,o2,v2⟩:=Yq (λj:Nat=>bif z9 j 1 then h1 else bif z9 j 0 then h else h) (λj:Nat=>bif z9 j 1 then l1 else bif z9 j 0 then l' else l') true
   ho o1 (by show _<=vW h l'+vW h1 l1;rw[hv,v1];omega) (by show vW h l'+vW h1 l1<_;rw[hv,v1];omega)
  have v2:vW h2 l2=vW h l'+vW h1 l1:=v2;rw[hv,v1] at v2;have q:z4 (ws i)=i:=rfl;simp only[uF,Pg.sV,Pg.sW,Pg.wM,Pg.Cf,Pg.sX,nZ,ld,wI,apy hi t0,apA (show i<n by omega),bB,q,oO,bG,e1,e2,apB (show i<9000000000000000000 by omega)];refine hc (t-1) _ (by omega) ⟨i+1,h2,l2,by omega,o2,v2,?_⟩;simp only[zk,Bool.or_assoc]
def UQ (a b c d:Int):Prop:=(∀j,j<4-> -1073741840<=w9 a b c d j/\w9 a b c d j<=1073741840)/\ -4294967296<=a*a+b*b+c*c+d*d-1152921504606846976/\a*a+b*b+c*c+d*d-1152921504606846976<=4294967296
theorem azN {a b c d:Int}{P:Int->Prop}(h0:P a)(h1:P b)(h2:P c)(h3:P d):∀j,j<4->P (w9 a b c d j):=by
 intro j _;unfold w9;split
 .exact h0
 split
 .exact h1
 split
 .exact h2
 .exact h3
def Nr (n a q:Int):Prop:=2*(q*n-a*1073741824)<=n/\2*(a*1073741824-q*n)<=n
theorem aJN (V n:Int)(h:0<n):2*(qdq V n*n-V)<=n/\2*(V-qdq V n*n)<=n:=by
 have e:=atf V n;have m0:=WE V (show n≠0 by omega);have m1:=Tf V h;unfold qdq;split
 .rw[Int.add_zero,yb (V/n) n];omega
 .have e2:(V/n+1)*n=n*(V/n)+n:=by rw[aan,Int.one_mul,yb]
  rw[e2];omega
theorem aUF (x n:Int)(h:0<n):2*(Hl x n*n-x)<=n/\2*(x-Hl x n*n)<=n:=by
 have hn:jK n=n:=by unfold jK;rw[if_neg (by omega)]
 have dn:decide (n<0)=false:=cV (by omega);unfold Hl;rw[hn,dn];by_cases hx:x<0
 .rw[if_neg (by rw[dW hx];decide)];have m:jK x= -x:=by unfold jK;rw[if_pos hx]
  have q:=aJN (jK x) n h;rw[m] at q ⊢;rw[Int.neg_mul];omega
 .rw[if_pos (cV hx)];have m:jK x=x:=by unfold jK;rw[if_neg hx]
  have q:=aJN (jK x) n h;rw[m] at q ⊢;omega
theorem Hy {n a q:Int}(h:0<n)(k:Nr n a q)(a0: -n<=a)(a1:a<=n): -1073741824<=q/\q<=1073741824:=by
 obtain⟨k0,k1⟩:=k;constructor
 .have p:(-1073741825)*n<q*n:=by omega
  have:=Int.lt_of_mul_lt_mul_right p (by omega);omega
 .have p:q*n<1073741825*n:=by omega
  have:=Int.lt_of_mul_lt_mul_right p (by omega);omega
theorem aoW {n a q:Int}(h:0<n)(k:Nr n a q):4*(n*n*(q*q))<=4*(1152921504606846976*(a*a)+1073741824*(a*a))+1073741825*(n*n)/\
  4*(1152921504606846976*(a*a))-4*(1073741824*(a*a))-1073741825*(n*n)<=4*(n*n*(q*q)):=by
 obtain⟨k0,k1⟩:=k;have e:n*n*(q*q)=(q*n)*(q*n):=by grind
 rw[e];generalize hg:q*n=g at*
 obtain⟨f,hf⟩:∃f,g=a*1073741824+f:=⟨g-a*1073741824,by omega⟩;subst hf;have e2:(a*1073741824+f)*(a*1073741824+f)=1152921504606846976*(a*a)+2147483648*(a*f)+f*f:=by grind
 rw[e2]
 have f4:4*(f*f)<=n*n:=by
  have:=Cb (a:=n-2*f) (b:=n+2*f) (by omega) (by omega);have e3:(n-2*f)*(n+2*f)=n*n-4*(f*f):=by grind
  omega
 have f0:=uq f;have p1:=uq (a-f);have p2:=uq (a+f);have e4:(a-f)*(a-f)=a*a-2*(a*f)+f*f:=by grind
 have e5:(a+f)*(a+f)=a*a+2*(a*f)+f*f:=by grind
 rw[e4] at p1;rw[e5] at p2;generalize a*a=aa at*
 generalize a*f=af at*
 generalize f*f=ff at*
 generalize n*n=nn at*
 omega
theorem uV {a V n:Int}(h:0<=n)(k:a*a<=V)(hV:V<=n*n+n): -n<=a/\a<=n:=by
 have e:n*n+n<(n+1)*(n+1):=by
  have:(n+1)*(n+1)=n*n+2*n+1:=by grind
  omega
 constructor
 .rcases agv 0 a with ha|ha
  .omega
  .have:=aGn (a:= -a) (b:=n+1) (by omega) (by omega) (by rw[Int.neg_mul_neg];omega);omega
 .rcases agv 0 a with ha|ha
  .have:=aGn (a:=a) (b:=n+1) ha (by omega) (by omega);omega
  .omega
theorem aUG {a0 a1 a2 a3 q0 q1 q2 q3 n:Int}(hn:isR n (a0*a0+a1*a1+a2*a2+a3*a3))(hl:700000000<=n)
  (k0:Nr n a0 q0)(k1:Nr n a1 q1)(k2:Nr n a2 q2)(k3:Nr n a3 q3):UQ q0 q1 q2 q3:=by
 obtain⟨n0,v1,v2⟩:=hn
 have v2:n*n-n<a0*a0+a1*a1+a2*a2+a3*a3:=by
  rcases v2 with v2|v2
  .omega
  .exact v2
 have z0:=uq a0;have z1:=uq a1;have z2:=uq a2;have z3:=uq a3;have b0:=uV (a:=a0) n0 (by omega) v1;have b1:=uV (a:=a1) n0 (by omega) v1;have b2:=uV (a:=a2) n0 (by omega) v1;have b3:=uV (a:=a3) n0 (by omega) v1;have np:0<n:=by omega
 have c0:=Hy np k0 b0.1 b0.2;have c1:=Hy np k1 b1.1 b1.2;have c2:=Hy np k2 b2.1 b2.2;have c3:=Hy np k3 b3.1 b3.2;have s0:=aoW np k0;have s1:=aoW np k1;have s2:=aoW np k2;have s3:=aoW np k3;refine⟨azN (P:=λx=> -1073741840<=x/\x<=1073741840) (by omega) (by omega) (by omega) (by omega),?_⟩;have nl:700000000*n<=n*n:=aam hl (by omega);have nn:0<n*n:=Int.mul_pos np np;have ed:n*n*(q0*q0+q1*q1+q2*q2+q3*q3-1152921504606846976)=n*n*(q0*q0)+n*n*(q1*q1)+n*n*(q2*q2)+n*n*(q3*q3)-1152921504606846976*(n*n):=by grind
 generalize q0*q0+q1*q1+q2*q2+q3*q3=S at*
 generalize n*n*(q0*q0)=t0 at*
 generalize n*n*(q1*q1)=t1 at*
 generalize n*n*(q2*q2)=t2 at*
 generalize n*n*(q3*q3)=t3 at*
 generalize a0*a0=A0 at*
 generalize a1*a1=A1 at*
 generalize a2*a2=A2 at*
 generalize a3*a3=A3 at*
 constructor
 .refine Int.le_of_mul_le_mul_left (a:=n*n) ?_ nn;rw[ed];generalize n*n=P at*
  omega
 .refine Int.le_of_mul_le_mul_left (a:=n*n) ?_ nn;rw[ed];generalize n*n=P at*
  omega
theorem aUH {a0 a1 a2 a3 b0 b1 b2 b3 n:Int}(np:0<n)(hs:n*n<=2*(a0*a0+a1*a1+a2*a2+a3*a3))
  (k0:Nr n a0 b0)(k1:Nr n a1 b1)(k2:Nr n a2 b2)(k3:Nr n a3 b3):576000000000000000<=b0*b0+b1*b1+b2*b2+b3*b3:=by
 have s0:=aoW np k0;have s1:=aoW np k1;have s2:=aoW np k2;have s3:=aoW np k3;have nn:0<n*n:=Int.mul_pos np np;have ed:n*n*(b0*b0+b1*b1+b2*b2+b3*b3)=n*n*(b0*b0)+n*n*(b1*b1)+n*n*(b2*b2)+n*n*(b3*b3):=by grind
 refine Int.le_of_mul_le_mul_left (a:=n*n) ?_ nn;rw[ed];generalize n*n*(b0*b0)=t0 at*
 generalize n*n*(b1*b1)=t1 at*
 generalize n*n*(b2*b2)=t2 at*
 generalize n*n*(b3*b3)=t3 at*
 generalize a0*a0=A0 at*
 generalize a1*a1=A1 at*
 generalize a2*a2=A2 at*
 generalize a3*a3=A3 at*
 generalize n*n=P at*
 omega
theorem aYR (n i:Int)(c:Bool)(a0 a1 a2 a3:Int):fM ((n,i,0),c,a0,a1,a2,a3)=(bl a0 n 30 c).bind λd0=>(bl a1 n 30 d0.2).bind λd1=>(bl a2 n 30 d1.2).bind λd2=>(bl a3 n 30 d2.2).bind λd3=>some ((n,i,4,false),d3.2,d0.1,d1.1,d2.1,d3.1):=by kernel_rfl
theorem aYS {ρ:Type}(k:_->Option ρ)(c:Bool)(a0 a1 a2 a3:Int):(ky cz fM (0,c,a0,a1,a2,a3)).run k=(cz 4 c (λj=>bif z9 j 3 then a3 else bif z9 j 2 then a2 else bif z9 j 1 then a1 else bif z9 j 0 then a0 else a0) false).bind λh=>(fM ((h.1,0,0),h.2,a0,a1,a2,a3)).bind λx=>k (ww (wI (x.1.2.1+1),x.2)):=by kernel_rfl
theorem aYT {ρ:Type}(k:_->Option ρ)(c:Bool)(a0 a1 a2 a3:Int):(ky cz fM (1,c,a0,a1,a2,a3)).run k=(cz 4 c (λj=>bif z9 j 3 then a3 else bif z9 j 2 then a2 else bif z9 j 1 then a1 else bif z9 j 0 then a0 else a0) false).bind λh=>(fM ((h.1,1,0),h.2,a0,a1,a2,a3)).bind λx=>k (ww (wI (x.1.2.1+1),x.2)):=by kernel_rfl
theorem aYU {ρ:Type}(k:_->Option ρ)(c:Bool)(a0 a1 a2 a3:Int):(ky cz fM (2,c,a0,a1,a2,a3)).run k=k (wt ((2,false),c,a0,a1,a2,a3)):=by kernel_rfl
theorem aJO (n i:Int)(c:Bool)(a0 a1 a2 a3:Int)(n0:0<n)(n1:n<=1152921504606846976)(h0: -n<=a0/\a0<=n)(h1: -n<=a1/\a1<=n)(h2: -n<=a2/\a2<=n)(h3: -n<=a3/\a3<=n):
  ∃b0 b1 b2 b3 c',fM ((n,i,0),c,a0,a1,a2,a3)=some ((n,i,4,false),c',b0,b1,b2,b3)/\Nr n a0 b0/\Nr n a1 b1/\Nr n a2 b2/\Nr n a3 b3:=by
 have sn:sat n=n:=(JQ ⟨by omega,n1⟩).1
 have one:∀(a:Int) (c:Bool), -n<=a/\a<=n->∃b c',bl a n 30 c=some (b,c')/\Nr n a b:=λa c ha=>by
  have sa:sat a=a:=(JQ ⟨by omega,by omega⟩).1;have e:=aOh a n 30 c (by decide) (by rw[sn];omega);rw[sa,sn] at e
  have nr:Nr n a (Hl (a*2^30) n):=by
   have:=aUF (a*2^30) n n0;exact this
  have bd:=Hy n0 nr ha.1 ha.2;have sr:sat (Hl (a*2^30) n)=Hl (a*2^30) n:=(JQ ⟨by omega,by omega⟩).1;rw[sr] at e;exact⟨_,_,e,nr⟩
 obtain⟨b0,c0,e0,r0⟩:=one a0 c h0;obtain⟨b1,c1,e1,r1⟩:=one a1 c0 h1;obtain⟨b2,c2,e2,r2⟩:=one a2 c1 h2;obtain⟨b3,c3,e3,r3⟩:=one a3 c2 h3;refine⟨b0,b1,b2,b3,c3,?_,r0,r1,r2,r3⟩;rw[aYR,e0,bG,e1,bG,e2,bG,e3,bG]
theorem a1I (a0 a1 a2 a3:Int)(h0:sat a0=a0)(h1:sat a1=a1)(h2:sat a2=a2)(h3:sat a3=a3):vf (λj=>sat ((λj=>bif z9 j 3 then a3 else bif z9 j 2 then a2 else bif z9 j 1 then a1 else bif z9 j 0 then a0 else a0) j)*sat ((λj=>bif z9 j 3 then a3 else bif z9 j 2 then a2 else bif z9 j 1 then a1 else bif z9 j 0 then a0 else a0) j)) 4=a0*a0+a1*a1+a2*a2+a3*a3:=by
 show 0+sat a0*sat a0+sat a1*sat a1+sat a2*sat a2+sat a3*sat a3=_;rw[h0,h1,h2,h3,alk]
theorem aOK (c:Bool)(a0 a1 a2 a3:Int)(h0: -1152921504606846976<=a0/\a0<=1152921504606846976)(h1: -1152921504606846976<=a1/\a1<=1152921504606846976)(h2: -1152921504606846976<=a2/\a2<=1152921504606846976)(h3: -1152921504606846976<=a3/\a3<=1152921504606846976)
  (nz:0<a0*a0+a1*a1+a2*a2+a3*a3):∃q0 q1 q2 q3 c' t,FQ (0,c,a0,a1,a2,a3)=some (t,c',q0,q1,q2,q3)/\UQ q0 q1 q2 q3:=by
 obtain⟨r,hr⟩:=aS8 (a0*a0+a1*a1+a2*a2+a3*a3) (by omega);have z0:=uq a0;have z1:=uq a1;have z2:=uq a2;have z3:=uq a3;have e1:=aCl 4 (by decide) c false (λj=>bif z9 j 3 then a3 else bif z9 j 2 then a2 else bif z9 j 1 then a1 else bif z9 j 0 then a0 else a0) r (by rw[a1I a0 a1 a2 a3 (JQ h0).1 (JQ h1).1 (JQ h2).1 (JQ h3).1];exact hr);obtain⟨r0,r1,r2⟩:=hr;have b0:=uV (a:=a0) r0 (by omega) r1;have b1:=uV (a:=a1) r0 (by omega) r1;have b2:=uV (a:=a2) r0 (by omega) r1;have b3:=uV (a:=a3) r0 (by omega) r1
 have rp:0<r:=by
  rcases Ki 0 r with h|h
  .exact h
  .have:r=0:=by omega
   subst this;omega
 have hs:sat r*sat r<=2*(a0*a0+a1*a1+a2*a2+a3*a3)/\0<sat r/\sat r<=1152921504606846976/\(sat r=r∨sat r=1152921504606846976):=by
  have r2:r*r-r<a0*a0+a1*a1+a2*a2+a3*a3:=by
   rcases r2 with h|h
   .omega
   .exact h
  generalize a0*a0+a1*a1+a2*a2+a3*a3=S at*
  by_cases hb:r<=1152921504606846976
  .have sr:sat r=r:=(JQ ⟨by omega,hb⟩).1;rw[sr];refine⟨?_,rp,hb,.inl rfl⟩;rcases Ki r 2 with h|h
   .have:r=1:=by omega
    subst this;omega
   .have:=aam h r0;omega
  .have sr:sat r=1152921504606846976:=by unfold sat;rw[if_neg (by omega),if_pos (by omega)]
   rw[sr];refine⟨?_,by decide,by decide,.inr rfl⟩;have k:1152921504606846976<=r:=by omega
   have k1:=LW k (show 1152921504606846976<=r-1 by omega) (by decide) r0;have e:r*(r-1)=r*r-r:=by grind
   omega
 obtain⟨s1,s2,s3,s4⟩:=hs;have bb:∀a:Int, -r<=a/\a<=r-> -1152921504606846976<=a/\a<=1152921504606846976-> -sat r<=a/\a<=sat r:=λa p q=>by omega
 obtain⟨x0,x1,x2,x3,c1,e2,k0,k1,k2,k3⟩:=aJO (sat r) 0 ((c||zk (λj=>eN ((λj=>bif z9 j 3 then a3 else bif z9 j 2 then a2 else bif z9 j 1 then a1 else bif z9 j 0 then a0 else a0) j)) 4)||eN r) a0 a1 a2 a3 s2 s3 (bb _ b0 h0) (bb _ b1 h1) (bb _ b2 h2) (bb _ b3 h3);have low:=aUH s2 s1 k0 k1 k2 k3;have d0:=Hy s2 k0 (bb _ b0 h0).1 (bb _ b0 h0).2;have d1:=Hy s2 k1 (bb _ b1 h1).1 (bb _ b1 h1).2;have d2:=Hy s2 k2 (bb _ b2 h2).1 (bb _ b2 h2).2;have d3:=Hy s2 k3 (bb _ b3 h3).1 (bb _ b3 h3).2;have sx:∀x:Int, -1073741824<=x/\x<=1073741824->sat x=x:=λx h=>(JQ ⟨by omega,by omega⟩).1
 obtain⟨n,hn⟩:=aS8 (x0*x0+x1*x1+x2*x2+x3*x3) (by omega);have e3:=aCl 4 (by decide) c1 false (λj=>bif z9 j 3 then x3 else bif z9 j 2 then x2 else bif z9 j 1 then x1 else bif z9 j 0 then x0 else x0) n (by rw[a1I x0 x1 x2 x3 (sx _ d0) (sx _ d1) (sx _ d2) (sx _ d3)];exact hn);obtain⟨n0,n1,n2⟩:=id hn
 have nl:700000000<=n:=by
  rcases Ki n 700000000 with h|h
  .have:=aam (show n<=700000000 by omega) n0;omega
  .exact h
 have sq1:∀x:Int, -1073741824<=x/\x<=1073741824->x*x<=1152921504606846976:=λx h=>by
  have:=Cb (a:=1073741824-x) (b:=1073741824+x) (by omega) (by omega);have e:(1073741824-x)*(1073741824+x)=1152921504606846976-x*x:=by grind
  omega
 have y0:=sq1 _ d0;have y1:=sq1 _ d1;have y2:=sq1 _ d2;have y3:=sq1 _ d3;have w0:=uq x0;have w1:=uq x1;have w2:=uq x2;have w3:=uq x3
 have nb:n<=2200000000:=by
  rcases Ki 2200000000 n with h|h
  .have n2:n*n-n<x0*x0+x1*x1+x2*x2+x3*x3:=by
    rcases n2 with h|h
    .omega
    .exact h
   have:=aam (show 2200000000<=n by omega) n0;omega
  .exact h
 have sn:sat n=n:=(JQ ⟨by omega,by omega⟩).1;rw[sn] at e3;have b0:=uV (a:=x0) n0 (by omega) n1;have b1:=uV (a:=x1) n0 (by omega) n1;have b2:=uV (a:=x2) n0 (by omega) n1;have b3:=uV (a:=x3) n0 (by omega) n1;obtain⟨q0,q1,q2,q3,c2,e4,m0,m1,m2,m3⟩:=aJO n 1 ((c1||zk (λj=>eN ((λj=>bif z9 j 3 then x3 else bif z9 j 2 then x2 else bif z9 j 1 then x1 else bif z9 j 0 then x0 else x0) j)) 4)||eN n) x0 x1 x2 x3 (by omega) (by omega) b0 b1 b2 b3;refine⟨q0,q1,q2,q3,c2,(2,false),?_,aUG hn nl m0 m1 m2 m3⟩;show(ky cz fM (0,c,a0,a1,a2,a3)).run (t9 (λd=>bE (ky cz fM) 1999 d) some)=_;rw[aYS,e1,bG,e2,bG,nZ];show(ky cz fM (1,c1,x0,x1,x2,x3)).run (t9 (λd=>bE (ky cz fM) 1998 d) some)=_;rw[aYT,e3,bG,e4,bG,nZ];show(ky cz fM (2,c2,q0,q1,q2,q3)).run (t9 (λd=>bE (ky cz fM) 1997 d) some)=_;rw[aYU,ld]
theorem aD2:UQ 1073741824 0 0 0:=⟨azN (P:=λx=> -1073741840<=x/\x<=1073741840) (by decide) (by decide) (by decide) (by decide),by decide,by decide⟩
theorem a0o (x0 x1 x2 x3:Int)(c:Bool):Po (tl x0 x1 x2 x3 c) (λr=>Ur r.1.1/\Ur r.1.2.1/\Ur r.1.b.1/\Ur r.1.b.2):=by
 intro d hd;have e:IQ (0,c,x0,x1,x2,x3)=(aP x0 c).bind λd0=>(aP x1 d0.2).bind λd1=>(aP x2 d1.2).bind λd2=>(aP x3 d2.2).bind λd3=>some ((4,false),d3.2,d0.1,d1.1,d2.1,d3.1):=by kernel_rfl
 have e2:tl x0 x1 x2 x3 c=(IQ (0,c,x0,x1,x2,x3)).bind λd=>some (d.2.2,d.2.1):=rfl
 rw[e2,e] at hd;simp only[oO,bG,iI] at hd;subst hd;exact⟨mu x0,mu x1,mu x2,mu x3⟩
theorem aD3 (x0 x1 x2 x3:Int)(c:Bool):Po (di x0 x1 x2 x3 c) (λr=>UQ r.1.1 r.1.2.1 r.1.b.1 r.1.b.2):=by
 unfold di VM;show PW _ _;refine aC (a0o _ _ _ _ _) λd _ hd=> ?_;rw[aT];refine⟨λ_=> ?_,λhz=> ?_⟩
 .rw[bg];intro _ _;rw[aL];exact aD2
 .have nz:0<d.1.1*d.1.1+d.1.2.1*d.1.2.1+d.1.b.1*d.1.b.1+d.1.b.2*d.1.b.2:=by
   have z0:=uq d.1.1;have z1:=uq d.1.2.1;have z2:=uq d.1.b.1;have z3:=uq d.1.b.2
   have sqz:∀a:Int,a*a<=0->a=0:=λa h=>by
    rcases Int.lt_trichotomy a 0 with k|k|k
    .have:=Int.mul_pos_of_neg_of_neg k k;omega
    .exact k
    .have:=Int.mul_pos k k;omega
   rcases Ki 0 (d.1.1*d.1.1+d.1.2.1*d.1.2.1+d.1.b.1*d.1.b.1+d.1.b.2*d.1.b.2) with h|h
   .exact h
   .rw[sqz d.1.1 (by omega),sqz d.1.2.1 (by omega),sqz d.1.b.1 (by omega),sqz d.1.b.2 (by omega)] at hz;cases hz
  obtain⟨q0,q1,q2,q3,c',t,e,u⟩:=aOK d.2 d.1.1 d.1.2.1 d.1.b.1 d.1.b.2 hd.1 hd.2.1 hd.b.1 hd.b.2 nz;refine aC (R:=λx=>UQ x.b.1 x.b.2.1 x.c.1 x.c.2) (λx hx=> ?_) λx _ hx=> ?_
  .have e:FQ (0,d.2,d.1)=some (t,c',q0,q1,q2,q3):=e;rw[e] at hx;cases hx;exact u
  .rw[aL];exact hx
def box (j:Nat):Int:=if j<4 then 1073741840 else if j<7 then 549755813888 else if j<10 then 9007199254740992 else if j<13 then 134217728 else if j<16 then 1073741824 else if j<22 then 2147483648 else 137438953472
theorem aMg (j:Nat):0<box j/\box j<=9007199254740992:=by
 unfold box;repeat' split
 all_goals decide
theorem aG3:∀b:uH,kC=some b->∀j,j<24->b j=box j:=by
 have h:(kC.map λb:uH=>(List.range 24).all λj=>b j==box j)=some true:=by kernel_rfl
 intro b e j hj;rw[e] at h;have h:=ath.mp (HX h) j (List.mem_range.mpr hj);exact eq_of_beq h
def Iw (s:Nat->Int):Prop:=UQ (s 0) (s 1) (s 2) (s 3)/\∀j,4<=j->j<24-> -box j<=s j/\s j<=box j
theorem aUI (s:Nat->Int):∀(d:lu.B) (hd:4<=d.1/\d.1<=24/\(∀j,j<24->d.b.2.2 j=box j)/\(∀j,j<4->d.b.1 j=s j)/\(∀j:Nat,4<=j->(j:Int)<d.1-> -box j<=d.b.1 j/\d.b.1 j<=box j)),Po (He d) (λx:wz=>(∀j,j<4->x.b.1 j=s j)/\(∀j:Nat,4<=j->j<24-> -box j<=x.b.1 j/\x.b.1 j<=box j)):=
 lN (λd hd=>by
  unfold Hc;try dsimp only
  obtain⟨i0,i1,i2,i3,i4⟩:=hd;rw[aT];refine⟨λh=> ?_,λh=> ?_⟩
  .have h:=dm h;have hw:wI (d.1+1)=d.1+1:=aW;obtain⟨n,hn⟩:∃n:Nat,d.1=n:=⟨z4 d.1,by omega⟩;have b1:=i2 n (by omega);have b2:=aMg n;have nn:z4 d.1=n:=by rw[hn];rfl
   have w0:wI (0-box n)= -box n:=by rw[Int.zero_sub];exact dV (by omega) (by omega)
   rw[nn,b1,w0,hw]
   repeat' (first
    |(rw[cw];exact trivial)
    |(with_reducible refine aC (afX _ (-box n) (box n) _ (by omega)) λe _ he=> ?_)
    |(rw[aT];refine⟨λ_=> ?_,λ_=> ?_⟩))
   rw[aL];refine⟨by show 4<=d.1+1;omega,by show d.1+1<=24;omega,i2,λj hj=> ?_,λj h4 hj=> ?_⟩
   .show(bif z9 j n then e.1 else d.b.1 j)=s j
    have:z9 j n=false:=by
     cases hb:z9 j n with
     |false=>rfl
     |true=>have:=lE hb;omega
    rw[this];exact i3 j hj
   .have hj:(j:Int)<d.1+1:=hj;show -box j<=(bif z9 j n then e.1 else d.b.1 j)/\(bif z9 j n then e.1 else d.b.1 j)<=box j;cases hb:z9 j n with
    |true=>have:=lE hb;subst this;exact he
    |false=>
     have nb:j≠n:=λh=>by rw[h,Fz] at hb;cases hb
     exact i4 j h4 (by omega)
  .have h:=vk h;rw[aL];exact⟨i3,λj h4 h24=>i4 j h4 (by omega)⟩)
theorem aJP (s:Nat->Int)(c:Bool):Po (nx s c) (λr=>(∀j,j<4->r.1 j=s j)/\(∀j:Nat,4<=j->j<24-> -box j<=r.1 j/\r.1 j<=box j)):=by
 unfold nx MN;show PW _ _;rw[bg];intro b hb;have hb:=aG3 b hb;refine aC (aUI s _ ⟨(show(4:Int)<=4 by decide),(show(4:Int)<=24 by decide),hb,λ_ _=>rfl,λj h4 hj=>absurd (show(j:Int)<4 from hj) (by omega)⟩) λd _ hd=> ?_;rw[aL];exact hd
theorem Iw.of {s r:Nat->Int}(u:UQ (s 0) (s 1) (s 2) (s 3))(h:(∀j,j<4->r j=s j)/\(∀j:Nat,4<=j->j<24-> -box j<=r j/\r j<=box j)):Iw r:=by
 refine⟨?_,h.2⟩;rw[h.1 0 (by decide),h.1 1 (by decide),h.1 2 (by decide),h.1 3 (by decide)];exact u
theorem aUJ (s:Nat->Int)(a b c d:Int):Po (mg s a b c d) (λr:TQ=>r 0=a/\r 1=b/\r 2=c/\r 3=d):=by
 unfold mg JK;show PW _ _;rw[aL];exact⟨rfl,rfl,rfl,rfl⟩
theorem aRJ (s:Nat->Int):cg s=some (s 0,s 1,s 2,s 3):=rfl
theorem aYV (a b c d:Int):Po (sE a b c d) (λr:Bool=>r=true->UQ a b c d):=(aGs a b c d).po.mono λ_ h e=>h.1 e
theorem a1J {δ:Type}{Q:δ->Prop}{s:Nat->Int}{q:Int×Int×Int×Int}{c:Bool}{f:ML->Pg δ}(u:UQ q.1 q.2.1 q.b.1 q.b.2)(k:∀d:ML,Iw d.1->PW (f d) Q):
  PW (.opt (mg s q.1 q.2.1 q.b.1 q.b.2) λt=>.opt (nx t c) f) Q:=by
 refine aC (aUJ _ _ _ _ _) λt _ ht=> ?_;refine aC (aJP _ _) λd _ hd=>k d (Iw.of ?_ hd)
 rw[ht.1,ht.2.1,ht.b.1,ht.b.2];exact u
theorem NM (s:Nat->Int)(c:Bool):Po (bY s c) (λr=>Iw r.1):=by
 unfold bY QY;show PW _ _;rw[aRJ,bg];intro d hd;have hd:=HX hd;subst hd;refine aC (aYV _ _ _ _) λu _ hu=> ?_;rw[aT];refine⟨λ_=> ?_,λh=> ?_⟩
 .rw[bg];intro d hd;refine aC (aD3 _ _ _ _ _) λq _ hq=> ?_;refine a1J hq λr hr=> ?_;rw[aL];exact hr
 .have hu:=hu (by cases u with|true=>rfl|false=>cases h);refine aC (aJP _ _) λr _ hr=> ?_;rw[aL];exact Iw.of hu hr
theorem aUK:∀(d:nS.B) (hd:Iw d.b.2.1),Po (MZ d) (λx:Bk=>Iw x.b.2.1):=
 lN (λd hd=>by
  unfold MY;try dsimp only
  try dsimp only
  rw[aT];refine⟨λ_=> ?_,λ_=>by rw[aL];exact hd⟩
  repeat' (first
   |(rw[cw];exact trivial)
   |(rw[aT];refine⟨λ_=> ?_,λ_=> ?_⟩))
  rw[bg];intro a _;rw[bg];intro _ _;refine aC (aD3 _ _ _ _ _) λq _ hq=> ?_;refine a1J hq λr hr=> ?_;rw[aL];exact hr)
theorem a0p (x:Hj.B)(h:Iw x.1.1):Po (CL x) (λr=>Iw r.1):=by
 unfold CL VQ;show PW _ _;try dsimp only
 rw[aT];refine⟨λ_=> ?_,λ_=> ?_⟩
 .refine aC (NM _ _) λr _ hr=> ?_;rw[aL];exact hr
 .rw[aT];refine⟨λ_=> ?_,λ_=>by rw[cw];exact trivial⟩;refine aC (aUK _ (by exact h)) λr _ hr=> ?_;rw[aL];exact hr
theorem a0q (s f:Nat->Int):Po (dJ s 0 4 f false) (λr:IS=>r 0=f 0/\r 1=f 1/\r 2=f 2/\r 3=f 3/\∀j,4<=j->r j=s j):=by
 intro r hr;have e:dJ s 0 4 f false=some (λj=>bif z9 j 3 then f 3 else bif z9 j 2 then f 2 else bif z9 j 1 then f 1 else bif z9 j 0 then f 0 else s j):=by kernel_rfl
 rw[e] at hr;have hr:=HX hr;subst hr;refine⟨rfl,rfl,rfl,rfl,λj hj=> ?_⟩
 have ne:∀k,k<4->z9 j k=false:=λk hk=>by
  cases hb:z9 j k with
  |false=>rfl
  |true=>have:=lE hb;omega
 show(bif z9 j 3 then f 3 else bif z9 j 2 then f 2 else bif z9 j 1 then f 1 else bif z9 j 0 then f 0 else s j)=s j;rw[ne 3 (by decide),ne 2 (by decide),ne 1 (by decide),ne 0 (by decide)];rfl
theorem a0r (s g:Nat->Int)(a0 a1 a2 a3:Int)(u:UQ a0 a1 a2 a3)(h:Iw s)(e:g=λj=>bif z9 j 3 then a3 else bif z9 j 2 then a2 else bif z9 j 1 then a1 else bif z9 j 0 then a0 else a0):Po (dJ s 0 4 g false) (λr:IS=>Iw r):=(a0q s _).mono λr k=>by
 subst e;obtain⟨k0,k1,k2,k3,k4⟩:=k;refine⟨by rw[k0,k1,k2,k3];exact u,λj h4 h24=> ?_⟩;rw[k4 j h4];exact h.2 j h4 h24
theorem a0s:UQ 0 1073741824 0 0:=⟨azN (P:=λx=> -1073741840<=x/\x<=1073741840) (by decide) (by decide) (by decide) (by decide),by decide,by decide⟩
theorem a0t (x0 x1 x2:Int)(x3:Bool):Po (BT x0 x1 x2 x3) (λr=>UQ r.1.1 r.1.2.1 r.1.b.1 r.1.b.2):=by
 unfold BT aa3;show PW _ _
 repeat' (first
  |(rw[cw];exact trivial)
  |(with_reducible refine aC (aD3 _ _ _ _ _) λe _ he=> ?_)
  |(rw[bg];intro _ _)
  |(rw[aT];refine⟨λ_=> ?_,λ_=> ?_⟩))
 all_goals rw[aL];first
  |exact he
  |exact aD2
  |exact a0s
theorem aYW (x0:Nat->Int)(x1:Int)(x2:Int)(x3:Int)(x4:Int)(x5:Int)(x6:Int)(x7:Int)(x8:Int)(x9:Bool):Po (pG x0 x1 x2 x3 x4 x5 x6 x7 x8 x9) (λr=>Iw r.1):=by
 unfold pG Q3;try dsimp only
 show PW _ _
 repeat' (first
  |(with_reducible refine aC (NM _ _) λe _ he=> ?_)
  |(rw[bg];intro _ _))
 rw[aL];assumption
theorem axx (x0:Nat->Int)(x1:Int)(x2:Nat)(x3:Bool)(x4:Nat->Int)(w0:Bool):Po (iy x0 x1 x2 x3 x4 w0) (λr:M9=>Iw r.1.1):=by
 unfold iy Nb;show PW _ _
 repeat' (first
  |(rw[cw];exact trivial)
  |(with_reducible refine aC (NM _ _) λe _ he=> ?_)
  |(rw[bg];intro _ _)
  |(rw[aT];refine⟨λ_=> ?_,λ_=> ?_⟩))
 rw[aL];assumption
theorem a2i (x0:Nat->Int)(x1:Nat->Int)(x2:Nat->Int)(x3:Int)(x4:Int)(x5:Bool):Po (CM x0 x1 x2 x3 x4 x5) (λr=>Iw r.1.1/\vh r.1.2.1):=by
 unfold CM VV;show PW _ _
 repeat' (first
  |(rw[cw];exact trivial)
  |(with_reducible refine aC (NM _ _) λe _ he=> ?_)
  |(with_reducible refine aC (axx _ _ _ _ _ _) λm _ hm=> ?_)
  |(with_reducible refine aC (aoV _ _ _ _ _ _ _) λv _ hv=> ?_)
  |(rw[bg];intro _ _)
  |(rw[aT];refine⟨λ_=> ?_,λ_=> ?_⟩))
 all_goals rw[aL];exact⟨by assumption,by assumption⟩
theorem aOL (x0:Nat->Int)(x1:Nat->Int)(x2:Nat->Int)(x3:Int)(x4:Int)(x5:Int)(x6:Int)(x7:Bool):Po (pY x0 x1 x2 x3 x4 x5 x6 x7) (λr=>Iw r.1.1/\vh r.1.2.1):=by
 unfold pY E8;try dsimp only
 show PW _ _
 repeat' (first
  |(rw[cw];exact trivial)
  |(with_reducible refine aC (NM _ _) λe _ he=> ?_)
  |(with_reducible refine aC (axx _ _ _ _ _ _) λm _ hm=> ?_)
  |(with_reducible refine aC (aoV _ _ _ _ _ _ _) λv _ hv=> ?_)
  |(rw[bg];intro _ _)
  |(rw[aT];refine⟨λ_=> ?_,λ_=> ?_⟩))
 all_goals rw[aL];exact⟨by assumption,by assumption⟩
theorem aIn (x0:Nat->Int)(x1:Nat->Int)(x2:Nat->Int)(x3:Int)(x4:Int)(x5:Int)(x6:Bool):Po (mN x0 x1 x2 x3 x4 x5 x6) (λr=>Iw r.1.1/\vh r.1.2.1):=by
 unfold mN AM;try dsimp only
 show PW _ _
 repeat' (first
  |(rw[cw];exact trivial)
  |(with_reducible refine aC (NM _ _) λe _ he=> ?_)
  |(with_reducible refine aC (axx _ _ _ _ _ _) λm _ hm=> ?_)
  |(with_reducible refine aC (aoV _ _ _ _ _ _ _) λv _ hv=> ?_)
  |(rw[bg];intro _ _)
  |(rw[aT];refine⟨λ_=> ?_,λ_=> ?_⟩))
 all_goals rw[aL];exact⟨by assumption,by assumption⟩
theorem aUL (x0:Nat->Int)(x1:Nat->Int)(x2:Nat->Int)(x3:Int)(x4:Int)(x5:Bool):Po (uL x0 x1 x2 x3 x4 x5) (λr=>Iw r.1.1/\vh r.1.2.1):=by
 unfold uL JX;show PW _ _
 repeat' (first
  |(rw[cw];exact trivial)
  |(with_reducible refine aC (NM _ _) λe _ he=> ?_)
  |(with_reducible refine aC (axx _ _ _ _ _ _) λm _ hm=> ?_)
  |(with_reducible refine aC (aoV _ _ _ _ _ _ _) λv _ hv=> ?_)
  |(rw[bg];intro _ _)
  |(rw[aT];refine⟨λ_=> ?_,λ_=> ?_⟩))
 all_goals rw[aL];exact⟨by assumption,by assumption⟩
theorem aRK (x0:Nat->Int)(x1:Nat->Int)(x2:Nat->Int)(x3:Nat->Int)(x4:Int)(x5:Int)(x6:Int)(x7:Bool)(h:vh (x1,x2)):Po (F2 x0 x1 x2 x3 x4 x5 x6 x7) (λr=>Iw r.1.1/\vh r.1.2.1):=by
 unfold F2 abk;show PW _ _;refine aC (NM _ _) λs _ hs=> ?_;refine aC (axw _ _ _ h) λv _ hv=> ?_;rw[bg];intro _ _;rw[bg];intro _ _;rw[bg];intro _ _;rw[aT];refine⟨λ_=>by rw[aL];exact⟨hs,hv⟩,λ_=> ?_⟩;refine aC (aUE _ _ _ _ _ hv) λu _ hu=> ?_;rw[bg];intro _ _;refine aC (a0p _ (by exact hs)) λa _ ha=> ?_;rw[aL];exact⟨ha,hu⟩
theorem a0u:∀(d:pV.B) (hd:Iw d.b.2.1/\vh d.c.1),Po (Q5 d) (λx:Ec=>Iw x.b.2.1/\vh x.c.1):=
 lN (λd hd=>by
  unfold Q4;try dsimp only
  try dsimp only
  repeat' (first
   |(rw[cw];exact trivial)
   |(with_reducible refine aC (aRK _ _ _ _ _ _ _ _ hd.2) λe _ he=> ?_)
   |(rw[aT];refine⟨λ_=> ?_,λ_=> ?_⟩))
  .rw[aL];exact he
  .rw[aL];exact hd)
theorem a2j (x:Lm.B)(h:Iw x.1.1/\vh x.1.2.1):Po (F4 x) (λr=>Iw r.1.1/\vh r.1.2.1):=by
 unfold F4 abm;show PW _ _
 repeat' (first
  |(rw[cw];exact trivial)
  |(refine aC (a0u _ (by exact h)) λe _ he=> ?_)
  |(rw[aT];refine⟨λ_=> ?_,λ_=> ?_⟩))
 rw[aL];exact he
def MG (m:Int×Int×Bool×Bool):Prop:=((m.1=0∨m.1=1)/\m.2.1=0/\m.b.1=false/\m.b.2=false)∨((m.1=2∨m.1=3)/\1<=m.2.1/\m.2.1<=3/\(m.b.1=true∨m.1=2))
theorem aYX (a b:Int)(c d:Bool):Po (Cq a b c d) (λr:Bool=>r=true->0<=a/\a<=3/\0<=b/\b<=3):=by
 unfold Cq VI;show PW _ _;dsimp only
 repeat' (first
  |(rw[cw];exact trivial)
  |(rw[aT];refine⟨λc=> ?_,λc=> ?_⟩<;>try simp only[beq_iff_eq,agr,jW,OD,ne_eq] at c))
 all_goals (rw[aL];first|(intro h;cases h;done)|(intro _;omega))
theorem aTi (x0:Int)(x1 x2 x3 x4 x5 x6 x7 x8:Bool)(x9 fX fY:Int)(h0:0<=x0)(h1:x0<=3):Po (Cr x0 x1 x2 x3 x4 x5 x6 x7 x8 x9 fX fY) (λr:Int=>0<=r/\r<=3):=by
 unfold Cr VJ;show PW _ _;dsimp only
 repeat' (first
  |(rw[aT];refine⟨λ_=> ?_,λ_=> ?_⟩))
 all_goals (rw[aL];first|exact⟨h0,h1⟩|decide)
theorem aRL (s:Int):∀(d:lr.B) (hd:d.1.1=s),Po (G9 d) (λx:wu=>match x with|.inl v=>(1:Int)<=v/\v<=3|.inr e=>e.1.1=s):=
 lN (λd hd=>by
  unfold G8;dsimp only
  repeat' (first
   |(rw[cw];exact trivial)
   |(rw[bg];intro _ _)
   |(rw[aT];refine⟨λc=> ?_,λc=> ?_⟩<;>try simp only[jW,OD,EM] at c))
  all_goals (rw[aL];first|exact hd|exact⟨by decide,by decide⟩|exact⟨by assumption,by assumption⟩))
theorem aJQ (x0:Int)(x1 x2 x3 x4 x5 x6 x7 x8:Bool)(x9 fX fY:Int)(h1:x0<=3):Po (wQ x0 x1 x2 x3 x4 x5 x6 x7 x8 x9 fX fY) (λr=>1<=r.1/\r.1<=3):=by
 unfold wQ MC;show PW _ _;refine aC (aRL x0 _ rfl) λe _ he=> ?_;rw[gB];refine⟨λa ha=> ?_,λa ha=> ?_⟩
 .subst ha;rw[aL];exact he
 .subst ha;rw[aL];have he:a.1.1=x0:=he;show 1<=(if 1>a.1.1 then 1 else a.1.1)/\(if 1>a.1.1 then 1 else a.1.1)<=3;split<;>omega
theorem aOM (x:G'.B):Po (Cs x) (λr=>MG r.1):=by
 unfold Cs VK;try dsimp only
 show PW _ _;refine aC (aYX _ _ _ _) λg _ hg=> ?_;rw[aT];refine⟨λ_=> ?_,λhb=> ?_⟩
 .refine aC (aTi 0 _ _ _ _ _ _ _ _ _ _ _ (by decide) (by decide)) λ(n:Int) _ hn=> ?_;rw[aT];refine⟨λc=> ?_,λc=> ?_⟩
  .have c:(2:Int)<=n:=dm c;refine aC (aJQ 0 _ _ _ _ _ _ _ _ _ _ _ (by decide)) λq _ hq=> ?_;rw[aT];refine⟨λc3=> ?_,λc3=> ?_⟩
   .have c3:=eq_of_beq c3;rw[aL];exact .inr ⟨.inr c3,hq.1,hq.2,.inl rfl⟩
   .have c3:¬n=3:=ati c3;have n2:n=2:=by omega
    rw[aT];exact⟨λ_=>by rw[aL];exact .inr ⟨.inl n2,hq.1,hq.2,.inr n2⟩,λ_=>by rw[aL];exact .inr ⟨.inl n2,hq.1,hq.2,.inr n2⟩⟩
  .have c:¬(2:Int)<=n:=vk c;have n0:n=0∨n=1:=by omega
   rw[aL];exact .inl ⟨n0,rfl,rfl,rfl⟩
 .have hg:=hg (by cases g with|true=>rfl|false=>cases hb);refine aC (aTi _ _ _ _ _ _ _ _ _ _ _ _ hg.1 hg.2.1) λ(n:Int) _ hn=> ?_;rw[aT];refine⟨λc=> ?_,λc=> ?_⟩
  .have c:(2:Int)<=n:=dm c;refine aC (aJQ _ _ _ _ _ _ _ _ _ _ _ _ hg.b.2) λq _ hq=> ?_;rw[aT];refine⟨λc3=> ?_,λc3=> ?_⟩
   .have c3:=eq_of_beq c3;rw[aL];exact .inr ⟨.inr c3,hq.1,hq.2,.inl rfl⟩
   .have c3:¬n=3:=ati c3;have n2:n=2:=by omega
    rw[aT];exact⟨λ_=>by rw[aL];exact .inr ⟨.inl n2,hq.1,hq.2,.inr n2⟩,λ_=>by rw[aL];exact .inr ⟨.inl n2,hq.1,hq.2,.inr n2⟩⟩
  .have c:¬(2:Int)<=n:=vk c;have n0:n=0∨n=1:=by omega
   rw[aL];exact .inl ⟨n0,rfl,rfl,rfl⟩
theorem aYY:∀(d:mx.B) (hd:UQ d.b.2.1.1 d.b.2.1.2.1 d.b.2.1.b.1 d.b.2.1.b.2),Po (JS d) (λx:yM=>UQ x.b.2.1.1 x.b.2.1.2.1 x.b.2.1.b.1 x.b.2.1.b.2):=
 lN (λd hd=>by
  unfold JR;dsimp only
  repeat' (first
   |(rw[cw];exact trivial)
   |(with_reducible refine aC (aD3 _ _ _ _ _) λu _ hu=> ?_)
   |(rw[bg];intro _ _)
   |(rw[aT];refine⟨λc=> ?_,λc=> ?_⟩))
  all_goals (rw[aL];first|exact hu|exact hd))
theorem a0v (x0:Nat)(x1:Bool)(x2:Nat->Int)(x3:Nat->Int)(x4:Nat->Int)(x5:Nat->Int)(x6:Nat->Int)(x7:Nat->Int)(x8:Nat->Int)(x9:Nat->Int)(fX:Nat->Int)(fY:Nat->Int)(w0:Bool):Po (z8 x0 x1 x2 x3 x4 x5 x6 x7 x8 x9 fX fY w0) (λr=>UQ r.1.1 r.1.2.1 r.1.b.1 r.1.b.2.1):=by
 unfold z8 Q7;try dsimp only
 show PW _ _;rw[bg];intro _ _;rw[gU];intro _;rw[aT];refine⟨λ_=> ?_,λ_=>by rw[cw];exact trivial⟩;refine aC (aYY _ aD2) λe _ he=> ?_
 repeat' (first
  |(rw[cw];exact trivial)
  |(rw[bg];intro _ _)
  |(rw[aT];refine⟨λc=> ?_,λc=> ?_⟩))
 rw[aL];exact he
def GF (s:Nat->Int)(v:(Nat->Int)×(Nat->Int))(m:Int×Int×Bool×Bool)(t:(Int×Int×Int×Int)×(Int×Int×Int)×Int×Int×Int):Prop:=Iw s/\vh v/\MG m/\UQ t.1.1 t.1.2.1 t.1.b.1 t.1.b.2
theorem GF.of {s s':Nat->Int}{v v':(Nat->Int)×(Nat->Int)}{m:Int×Int×Bool×Bool}{t:(Int×Int×Int×Int)×(Int×Int×Int)×Int×Int×Int}(h:Iw s')(k:vh v')(g:GF s v m t):GF s' v' m t:=⟨h,k,g.2.2⟩
theorem aTj (x:rL.B)(h:GF x.2.1.b.1 x.2.1.b.2.1 x.2.1.c.2.1 x.2.1.d.c.b.2.1):Po (kj x) (λr:xB=>GF r.1.b.1 r.1.b.2.1 r.1.c.2.1 r.1.d.c.b.2.1):=by
 unfold kj C7;try dsimp only
 show PW _ _;try dsimp only
 repeat' (first
   |(rw[cw];exact trivial)
   |(rw[jY];refine⟨λe0 e1=> ?_,λe0 e1=> ?_⟩)
   |(rw[gB];refine⟨λe0 e1=> ?_,λe0 e1=> ?_⟩)
   |(rw[aT];refine⟨λ_=> ?_,λ_=> ?_⟩)
   |(rw[bg];intro _ _))
 all_goals first
  |assumption
  |exact GF.of jE.1 jE.2 h
  |exact GF.of fE.1 fE.2 oE
  |exact GF.of oZ.1 oZ.2 oE
  |exact GF.of LC.1 LC.2 pH
  |(rw[aL];first|assumption|exact⟨by assumption,by assumption⟩|(subst e1;assumption)|exact⟨adV,oE.2⟩)
theorem a0w (x:gX.B)(h:GF x.1.b.1 x.1.b.2.1 x.1.c.2.1 x.1.d.c.b.2.1):Po (eD x) (λr:qT=>GF r.b.2.1 r.c.1 r.c.b.1 r.e.1):=by
 unfold eD mE;try dsimp only
 show PW _ _;rw[bg];intro d _;rw[aL];exact h
theorem axy (x:rM.B)(h:GF x.2.1.b.1 x.2.1.b.2.1 x.2.1.c.2.1 x.2.1.d.c.b.2.1):Po (dH x) (λr:xC=>GF r.2.1.1.b.1 r.2.1.1.b.2.1 r.2.1.1.c.2.1 r.2.1.1.d.c.b.2.1):=by
 unfold dH C8;try dsimp only
 show PW _ _;rw[gU];intro _;refine aC (a2j _ (by exact⟨h.1,h.2.1⟩)) λe _ he=> ?_
 repeat' (first
  |(rw[cw];exact trivial)
  |(rw[bg];intro _ _)
  |(rw[aT];refine⟨λ_=> ?_,λ_=> ?_⟩))
 rw[aL];exact⟨he.1,he.2,h.2.2⟩
theorem aJR (x:oU.B)(h:GF x.2.1.b.1 x.2.1.b.2.1 x.2.1.c.2.1 x.2.1.d.c.b.2.1):Po (iC x) (λr:zA=>GF r.b.1 r.b.2.1 r.c.2.1 r.d.c.b.2.1):=by
 unfold iC zB;try dsimp only
 show PW _ _;try dsimp only
 repeat' (first
   |(rw[cw];exact trivial)
   |(rw[jY];refine⟨λe0 e1=> ?_,λe0 e1=> ?_⟩)
   |(rw[gB];refine⟨λe0 e1=> ?_,λe0 e1=> ?_⟩)
   |(rw[aT];refine⟨λ_=> ?_,λ_=> ?_⟩)
   |(rw[bg];intro _ _))
 all_goals first
  |assumption
  |exact GF.of jE.1 jE.2 h
  |exact GF.of fE.1 fE.2 oE
  |exact GF.of oZ.1 oZ.2 oE
  |exact GF.of LC.1 LC.2 pH
  |(rw[aL];first|assumption|exact⟨by assumption,by assumption⟩|(subst e1;assumption)|exact⟨adV,oE.2⟩)
theorem a0x (x:rQ.B)(h:GF x.2.1.b.1 x.2.1.b.2.1 x.2.1.c.2.1 x.2.1.d.c.b.2.1):Po (oB x) (λr:xG=>GF r.1.b.1 r.1.b.2.1 r.1.c.2.1 r.1.d.c.b.2.1):=by
 unfold oB C';try dsimp only
 show PW _ _;try dsimp only
 repeat' (first
   |(rw[cw];exact trivial)
   |(with_reducible refine aC (aTj _ ?_) λe _ oE=> ?_)
   |(with_reducible refine aC (aOL _ _ _ _ _ _ _ _) λe _ jE=> ?_)
   |(with_reducible refine aC (aIn _ _ _ _ _ _ _) λe _ fE=> ?_)
   |(with_reducible refine aC (aUL _ _ _ _ _ _) λe _ oZ=> ?_)
   |(rw[jY];refine⟨λe0 e1=> ?_,λe0 e1=> ?_⟩)
   |(rw[gB];refine⟨λe0 e1=> ?_,λe0 e1=> ?_⟩)
   |(rw[aT];refine⟨λ_=> ?_,λ_=> ?_⟩)
   |(rw[bg];intro _ _))
 all_goals first
  |assumption
  |exact GF.of jE.1 jE.2 h
  |exact GF.of fE.1 fE.2 oE
  |exact GF.of oZ.1 oZ.2 oE
  |exact GF.of LC.1 LC.2 pH
  |(rw[aL];first|assumption|exact⟨by assumption,by assumption⟩|(subst e1;assumption)|exact⟨adV,oE.2⟩)
theorem a0y (x:rP.B)(h:GF x.2.1.b.1 x.2.1.b.2.1 x.2.1.c.2.1 x.2.1.d.c.b.2.1):Po (oA x) (λr:xF=>match r with|.inl e=>GF e.1.b.1 e.1.b.2.1 e.1.c.2.1 e.1.d.c.b.2.1|.inr e=>GF e.1.1.b.1 e.1.1.b.2.1 e.1.1.c.2.1 e.1.1.d.c.b.1):=by
 unfold oA C9;try dsimp only
 show PW _ _;try dsimp only
 repeat' (first
   |(rw[cw];exact trivial)
   |(with_reducible refine aC (a0w _ ?_) λe _ pH=> ?_)
   |(with_reducible refine aC (aTj _ ?_) λe _ oE=> ?_)
   |(with_reducible refine aC (a2i _ _ _ _ _ _) λe _ LC=> ?_)
   |(with_reducible refine aC (NM _ _) λe _ adV=> ?_)
   |(rw[jY];refine⟨λe0 e1=> ?_,λe0 e1=> ?_⟩)
   |(rw[gB];refine⟨λe0 e1=> ?_,λe0 e1=> ?_⟩)
   |(rw[aT];refine⟨λ_=> ?_,λ_=> ?_⟩)
   |(rw[bg];intro _ _))
 all_goals first
  |assumption
  |exact GF.of jE.1 jE.2 h
  |exact GF.of fE.1 fE.2 oE
  |exact GF.of oZ.1 oZ.2 oE
  |exact GF.of LC.1 LC.2 pH
  |(rw[aL];first|assumption|exact⟨by assumption,by assumption⟩|(subst e1;assumption)|exact⟨adV,oE.2⟩)
theorem aIo (x:kQ.B)(h:GF x.2.1.b.1 x.2.1.b.2.1 x.2.1.c.2.1 x.2.1.d.c.b.2.1):Po (iP x) (λr:nI=>match r with|.inl e=>GF e.1.1.b.1 e.1.1.b.2.1 e.1.1.c.2.1 e.1.1.d.c.2.1|.inr e=>GF e.1.b.1 e.1.b.2.1 e.1.c.2.1 e.1.d.c.b.2.1):=by
 unfold iP sN;try dsimp only
 show PW _ _;try dsimp only
 repeat' (first
   |(rw[cw];exact trivial)
   |(with_reducible refine aC (a0x _ ?_) λe _ a42=> ?_)
   |(with_reducible refine aC (axy _ ?_) λe _ aMh=> ?_)
   |(with_reducible refine aC (aJR _ ?_) λe _ aYZ=> ?_)
   |(rw[jY];refine⟨λe0 e1=> ?_,λe0 e1=> ?_⟩)
   |(rw[gB];refine⟨λe0 e1=> ?_,λe0 e1=> ?_⟩)
   |(rw[aT];refine⟨λ_=> ?_,λ_=> ?_⟩)
   |(rw[bg];intro _ _))
 all_goals first
  |assumption
  |exact GF.of jE.1 jE.2 h
  |exact GF.of fE.1 fE.2 oE
  |exact GF.of oZ.1 oZ.2 oE
  |exact GF.of LC.1 LC.2 pH
  |(rw[aL];first|assumption|exact⟨by assumption,by assumption⟩|(subst e1;assumption)|exact⟨adV,oE.2⟩)
theorem aON (x:my.B)(h:GF x.2.1.b.1 x.2.1.b.2.1 x.2.1.c.2.1 x.2.1.d.c.b.2.1):Po (kl x) (λr:vI=>GF r.1.b.1 r.1.b.2.1 r.1.c.2.1 r.1.d.c.b.2.1):=by
 unfold kl vJ;try dsimp only
 show PW _ _;try dsimp only
 repeat' (first
   |(rw[cw];exact trivial)
   |(with_reducible refine aC (axy _ ?_) λe _ aMh=> ?_)
   |(rw[jY];refine⟨λe0 e1=> ?_,λe0 e1=> ?_⟩)
   |(rw[gB];refine⟨λe0 e1=> ?_,λe0 e1=> ?_⟩)
   |(rw[aT];refine⟨λ_=> ?_,λ_=> ?_⟩)
   |(rw[bg];intro _ _))
 all_goals first
  |assumption
  |exact GF.of jE.1 jE.2 h
  |exact GF.of fE.1 fE.2 oE
  |exact GF.of oZ.1 oZ.2 oE
  |exact GF.of LC.1 LC.2 pH
  |(rw[aL];first|assumption|exact⟨by assumption,by assumption⟩|(subst e1;assumption)|exact⟨adV,oE.2⟩)
theorem aOO (x:mz.B)(h:GF x.2.1.b.1 x.2.1.b.2.1 x.2.1.c.2.1 x.2.1.d.c.b.2.1):Po (km x) (λr:vK=>GF r.1.b.1 r.1.b.2.1 r.1.c.2.1 r.1.d.c.b.2.1):=by
 unfold km vL;try dsimp only
 show PW _ _;try dsimp only
 repeat' (first
   |(rw[cw];exact trivial)
   |(with_reducible refine aC (axy _ ?_) λe _ aMh=> ?_)
   |(rw[jY];refine⟨λe0 e1=> ?_,λe0 e1=> ?_⟩)
   |(rw[gB];refine⟨λe0 e1=> ?_,λe0 e1=> ?_⟩)
   |(rw[aT];refine⟨λ_=> ?_,λ_=> ?_⟩)
   |(rw[bg];intro _ _))
 all_goals first
  |assumption
  |exact GF.of jE.1 jE.2 h
  |exact GF.of fE.1 fE.2 oE
  |exact GF.of oZ.1 oZ.2 oE
  |exact GF.of LC.1 LC.2 pH
  |(rw[aL];first|assumption|exact⟨by assumption,by assumption⟩|(subst e1;assumption)|exact⟨adV,oE.2⟩)
theorem a0z (x:rR.B)(h:GF x.2.1.b.1 x.2.1.b.2.1 x.2.1.c.2.1 x.2.1.d.c.b.2.1):Po (oC x) (λr:Da=>GF r.1.b.1 r.1.b.2.1 r.1.c.2.1 r.1.d.c.b.2.1):=by
 unfold oC Db;try dsimp only
 show PW _ _;try dsimp only
 repeat' (first
   |(rw[cw];exact trivial)
   |(with_reducible refine aC (axy _ ?_) λe _ aMh=> ?_)
   |(with_reducible refine aC (aJR _ ?_) λe _ aYZ=> ?_)
   |(rw[jY];refine⟨λe0 e1=> ?_,λe0 e1=> ?_⟩)
   |(rw[gB];refine⟨λe0 e1=> ?_,λe0 e1=> ?_⟩)
   |(rw[aT];refine⟨λ_=> ?_,λ_=> ?_⟩)
   |(rw[bg];intro _ _))
 all_goals first
  |assumption
  |exact GF.of jE.1 jE.2 h
  |exact GF.of fE.1 fE.2 oE
  |exact GF.of oZ.1 oZ.2 oE
  |exact GF.of LC.1 LC.2 pH
  |(rw[aL];first|assumption|exact⟨by assumption,by assumption⟩|(subst e1;assumption)|exact⟨adV,oE.2⟩)
theorem aUM (x:oX.B)(h:GF x.2.1.b.1 x.2.1.b.2.1 x.2.1.c.2.1 x.2.1.d.c.b.2.1):Po (ma x) (λr:zL=>GF r.1.b.1 r.1.b.2.1 r.1.c.2.1 r.1.d.c.b.2.1):=by
 unfold ma zM;try dsimp only
 show PW _ _;try dsimp only
 repeat' (first
   |(rw[cw];exact trivial)
   |(with_reducible refine aC (axy _ ?_) λe _ aMh=> ?_)
   |(rw[jY];refine⟨λe0 e1=> ?_,λe0 e1=> ?_⟩)
   |(rw[gB];refine⟨λe0 e1=> ?_,λe0 e1=> ?_⟩)
   |(rw[aT];refine⟨λ_=> ?_,λ_=> ?_⟩)
   |(rw[bg];intro _ _))
 all_goals first
  |assumption
  |exact GF.of jE.1 jE.2 h
  |exact GF.of fE.1 fE.2 oE
  |exact GF.of oZ.1 oZ.2 oE
  |exact GF.of LC.1 LC.2 pH
  |(rw[aL];first|assumption|exact⟨by assumption,by assumption⟩|(subst e1;assumption)|exact⟨adV,oE.2⟩)
theorem a2k (x:uo.B)(h:GF x.2.1.b.1 x.2.1.b.2.1 x.2.1.c.2.1 x.2.1.d.c.b.2.1):Po (qf x) (λr:zN=>match r with|.inl e=>GF e.1.b.1 e.1.b.2.1 e.1.c.2.1 e.1.d.c.b.2.1|.inr e=>GF e.1.1.b.1 e.1.1.b.2.1 e.1.1.c.2.1 e.1.1.d.c.b.2.1):=by
 unfold qf Fh;try dsimp only
 show PW _ _;try dsimp only
 repeat' (first
   |(rw[cw];exact trivial)
   |(with_reducible refine aC (a0y _ ?_) λe _ a43=> ?_)
   |(with_reducible refine aC (aIo _ ?_) λe _ a0A=> ?_)
   |(with_reducible refine aC (aON _ ?_) λe _ a2l=> ?_)
   |(with_reducible refine aC (aUM _ ?_) λe _ a37=> ?_)
   |(with_reducible refine aC (aOO _ ?_) λe _ a2m=> ?_)
   |(with_reducible refine aC (a0z _ ?_) λe _ a44=> ?_)
   |(rw[jY];refine⟨λe0 e1=> ?_,λe0 e1=> ?_⟩)
   |(rw[gB];refine⟨λe0 e1=> ?_,λe0 e1=> ?_⟩)
   |(rw[aT];refine⟨λ_=> ?_,λ_=> ?_⟩)
   |(rw[bg];intro _ _))
 all_goals first
  |assumption
  |exact GF.of jE.1 jE.2 h
  |exact GF.of fE.1 fE.2 oE
  |exact GF.of oZ.1 oZ.2 oE
  |exact GF.of LC.1 LC.2 pH
  |(rw[aL];first|assumption|exact⟨by assumption,by assumption⟩|(subst e1;assumption)|exact⟨adV,oE.2⟩)
theorem aOP (d:dk.B)(hd:GF d.2.1.b.1 d.2.1.b.2.1 d.2.1.c.2.1 d.2.1.d.c.2.1):Po (nd d) (λx:fI=>GF x.2.1.b.1 x.2.1.b.2.1 x.2.1.c.2.1 x.2.1.d.c.2.1):=
 u3 (s:=_) (λd:dk.B=>GF d.2.1.b.1 d.2.1.b.2.1 d.2.1.c.2.1 d.2.1.d.c.2.1) (λx:fI=>GF x.2.1.b.1 x.2.1.b.2.1 x.2.1.c.2.1 x.2.1.d.c.2.1) (λd hd=>by
  unfold re;try dsimp only
  try dsimp only
  repeat' (first
   |(rw[cw];exact trivial)
   |(rw[jY];refine⟨λe0 e1=> ?_,λe0 e1=> ?_⟩)
   |(rw[gB];refine⟨λe0 e1=> ?_,λe0 e1=> ?_⟩)
   |(rw[aT];refine⟨λ_=> ?_,λ_=> ?_⟩)
   |(rw[bg];intro _ _))
  all_goals first
   |assumption
   |(rw[aL];first|assumption|exact hd|(subst e1;assumption))
   |exact hd) 2000 d hd
theorem aY0 (x:kV.B)(h:GF x.2.1.b.1 x.2.1.b.2.1 x.2.1.c.2.1 x.2.1.d.c.b.2.1):Po (jq x) (λr:mP=>match r with|.inl e=>GF e.1.b.1 e.1.b.2.1 e.1.c.2.1 e.1.d.c.b.2.1|.inr e=>GF e.1.1.b.1 e.1.1.b.2.1 e.1.1.c.2.1 e.1.1.d.c.2.1):=by
 unfold jq qu;try dsimp only
 show PW _ _;try dsimp only
 have hs:=h.1
 repeat' (first
   |(rw[cw];exact trivial)
   |(with_reducible refine aC (a0t _ _ _ _) λt _ ht=> ?_)
   |((with_reducible refine aC (a0r _ _ _ _ _ _ ht hs ?_) λs' _ hs'=> ?_);exact rfl)
   |(with_reducible refine aC (aoV _ _ _ _ _ _ _) λv _ hv=> ?_)
   |(with_reducible refine aC (aOP _ (GF.of hs' hv h)) λl _ hl=> ?_)
   |(rw[jY];refine⟨λe0 e1=> ?_,λe0 e1=> ?_⟩)
   |(rw[gB];refine⟨λe0 e1=> ?_,λe0 e1=> ?_⟩)
   |(rw[aT];refine⟨λ_=> ?_,λ_=> ?_⟩)
   |(rw[bg];intro _ _))
 all_goals (rw[aL];first|exact h|exact hl)
theorem aRM (d:dh.B)(hd:GF d.2.1.b.1 d.2.1.b.2.1 d.2.1.c.2.1 d.2.1.d.c.b.2.1):Po (oY d) (λx:gq=>GF x.2.1.b.1 x.2.1.b.2.1 x.2.1.c.2.1 x.2.1.d.c.b.2.1):=
 u3 (s:=_) (λd:dh.B=>GF d.2.1.b.1 d.2.1.b.2.1 d.2.1.c.2.1 d.2.1.d.c.b.2.1) (λx:gq=>GF x.2.1.b.1 x.2.1.b.2.1 x.2.1.c.2.1 x.2.1.d.c.b.2.1) (λd hd=>by
  unfold tL;try dsimp only
  try dsimp only
  repeat' (first
   |(rw[cw];exact trivial)
   |(with_reducible refine aC (a2k _ ?_) λe _ a5Z=> ?_)
   |(rw[jY];refine⟨λe0 e1=> ?_,λe0 e1=> ?_⟩)
   |(rw[gB];refine⟨λe0 e1=> ?_,λe0 e1=> ?_⟩)
   |(rw[aT];refine⟨λ_=> ?_,λ_=> ?_⟩)
   |(rw[bg];intro _ _))
  all_goals first
   |assumption
   |(rw[aL];first|assumption|exact hd|(subst e1;assumption))
   |exact hd) 2000 d hd
theorem aRN (d:dC.B)(hd:GF d.2.1.b.1 d.2.1.b.2.1 d.2.1.c.2.1 d.2.1.d.c.b.2.1):Po (tQ d) (λx:gu=>GF x.2.1.b.1 x.2.1.b.2.1 x.2.1.c.2.1 x.2.1.d.c.b.2.1):=
 u3 (s:=_) (λd:dC.B=>GF d.2.1.b.1 d.2.1.b.2.1 d.2.1.c.2.1 d.2.1.d.c.b.2.1) (λx:gu=>GF x.2.1.b.1 x.2.1.b.2.1 x.2.1.c.2.1 x.2.1.d.c.b.2.1) (λd hd=>by
  unfold tP;try dsimp only
  try dsimp only
  repeat' (first
   |(rw[cw];exact trivial)
   |(with_reducible refine aC (aRM _ ?_) λe _ he=> ?_)
   |(rw[jY];refine⟨λe0 e1=> ?_,λe0 e1=> ?_⟩)
   |(rw[gB];refine⟨λe0 e1=> ?_,λe0 e1=> ?_⟩)
   |(rw[aT];refine⟨λ_=> ?_,λ_=> ?_⟩)
   |(rw[bg];intro _ _))
  all_goals first
   |assumption
   |(rw[aL];first|assumption|exact hd|(subst e1;assumption))
   |exact hd) 2000 d hd
theorem aRO (d:dB.B)(hd:GF d.2.1.b.1 d.2.1.b.2.1 d.2.1.c.2.1 d.2.1.d.c.b.2.1):Po (tN d) (λx:gr=>GF x.2.1.b.1 x.2.1.b.2.1 x.2.1.c.2.1 x.2.1.d.c.b.2.1):=
 u3 (s:=_) (λd:dB.B=>GF d.2.1.b.1 d.2.1.b.2.1 d.2.1.c.2.1 d.2.1.d.c.b.2.1) (λx:gr=>GF x.2.1.b.1 x.2.1.b.2.1 x.2.1.c.2.1 x.2.1.d.c.b.2.1) (λd hd=>by
  unfold tM;try dsimp only
  try dsimp only
  repeat' (first
   |(rw[cw];exact trivial)
   |(rw[jY];refine⟨λe0 e1=> ?_,λe0 e1=> ?_⟩)
   |(rw[gB];refine⟨λe0 e1=> ?_,λe0 e1=> ?_⟩)
   |(rw[aT];refine⟨λ_=> ?_,λ_=> ?_⟩)
   |(rw[bg];intro _ _))
  all_goals first
   |assumption
   |(rw[aL];first|assumption|exact hd|(subst e1;assumption))
   |exact hd) 2000 d hd
theorem aRP (d:gJ.B)(hd:GF d.1.b.1 d.1.b.2.1 d.1.c.2.1 d.1.d.c.b.2.1):Po (jP d) (λx:jO=>match x with|.inl x=>GF x.1.2.1 x.2.1.b.1 x.2.1.c.1 x.2.1.d.c.2.1|.inr x=>GF x.2.1.b.1 x.2.1.b.2.1 x.2.1.c.2.1 x.2.1.d.c.b.1):=by
 unfold jP tO;try dsimp only
 show PW _ _;try dsimp only
 repeat' (first
   |(rw[cw];exact trivial)
   |(rw[jY];refine⟨λe0 e1=> ?_,λe0 e1=> ?_⟩)
   |(rw[gB];refine⟨λe0 e1=> ?_,λe0 e1=> ?_⟩)
   |(rw[aT];refine⟨λ_=> ?_,λ_=> ?_⟩)
   |(rw[bg];intro _ _))
 all_goals first
   |assumption
   |(rw[aL];first|assumption|exact hd|(subst e1;assumption))
   |exact hd
theorem aRQ (d:gK.B)(hd:GF d.1.b.1 d.1.b.2.1 d.1.c.2.1 d.1.d.c.b.2.1):Po (jR d) (λx:jQ=>match x with|.inl x=>GF x.1.2.1 x.2.1.b.1 x.2.1.c.1 x.2.1.d.c.2.1|.inr x=>GF x.2.1.b.1 x.2.1.b.2.1 x.2.1.c.2.1 x.2.1.d.c.b.1):=by
 unfold jR tT;try dsimp only
 show PW _ _;try dsimp only
 repeat' (first
   |(rw[cw];exact trivial)
   |(with_reducible refine aC (aOM _) λmm _ hm=> ?_)
   |(with_reducible refine aC (a0v _ _ _ _ _ _ _ _ _ _ _ _ _) λjj _ hj=> ?_)
   |(with_reducible refine aC (aRP _ ?_) λe _ he=> ?_)
   |(rw[jY];refine⟨λe0 e1=> ?_,λe0 e1=> ?_⟩)
   |(rw[gB];refine⟨λe0 e1=> ?_,λe0 e1=> ?_⟩)
   |(rw[aT];refine⟨λ_=> ?_,λ_=> ?_⟩)
   |(rw[bg];intro _ _))
 all_goals first
   |assumption
   |(rw[aL];first|assumption|exact hd|(subst e1;assumption))
   |exact⟨hd.1,hd.2.1,hm,hj⟩
   |exact⟨hd.1,hd.2.1,hm,hd.b.2⟩
   |exact hd
theorem aRR (d:gL.B)(hd:GF d.1.b.1 d.1.b.2.1 d.1.c.2.1 d.1.d.c.b.2.1):Po (iD d) (λx:jS=>match x with|.inl x=>GF x.1.2.1 x.2.1.b.1 x.2.1.c.1 x.2.1.d.c.2.1|.inr x=>GF x.2.1.b.1 x.2.1.b.2.1 x.2.1.c.2.1 x.2.1.d.c.b.1):=by
 unfold iD tU;try dsimp only
 show PW _ _;try dsimp only
 repeat' (first
   |(rw[cw];exact trivial)
   |(with_reducible refine aC (aRN _ ?_) λe _ he=> ?_)
   |(with_reducible refine aC (aRO _ ?_) λe _ he=> ?_)
   |(with_reducible refine aC (aRQ _ ?_) λe _ he=> ?_)
   |(rw[jY];refine⟨λe0 e1=> ?_,λe0 e1=> ?_⟩)
   |(rw[gB];refine⟨λe0 e1=> ?_,λe0 e1=> ?_⟩)
   |(rw[aT];refine⟨λ_=> ?_,λ_=> ?_⟩)
   |(rw[bg];intro _ _))
 all_goals first
   |assumption
   |(rw[aL];first|assumption|exact hd|(subst e1;assumption))
   |exact hd
theorem a0B (x:mb.B)(h:GF x.2.1.b.1 x.2.1.b.2.1 x.2.1.c.2.1 x.2.1.d.c.b.2.1):Po (kn x) (λr:oD=>GF r.1.1.b.1 r.1.1.b.2.1 r.1.1.c.2.1 r.1.1.d.c.b.2.1):=by
 unfold kn rV;try dsimp only
 show PW _ _;try dsimp only
 repeat' (first
   |(rw[cw];exact trivial)
   |(with_reducible refine aC (aY0 _ ?_) λe _ he=> ?_)
   |(with_reducible refine aC (aRI _ _ _ _ _ _ _ _ _ _ _ _ _) λv _ hv=> ?_)
   |(with_reducible refine aC (aYW _ _ _ _ _ _ _ _ _ _) λs _ hs=> ?_)
   |(with_reducible refine aC (aRR _ ?_) λq _ hq=> ?_)
   |(rw[jY];refine⟨λe0 e1=> ?_,λe0 e1=> ?_⟩)
   |(rw[gB];refine⟨λe0 e1=> ?_,λe0 e1=> ?_⟩)
   |(rw[aT];refine⟨λ_=> ?_,λ_=> ?_⟩)
   |(rw[bg];intro _ _))
 all_goals first
   |assumption
   |exact h
   |exact GF.of hs hv h
   |(subst e1;assumption)
   |(rw[aL];first|assumption|(subst e1;exact hq))
   |skip
theorem aOQ (w:Int×Int×(Int×Int×Int)×Int×Int×Int):∀(d:kP.B) (hd:0<=d.1/\d.1<=3/\d.2.1=w.1),Ok (JW d) (λx:yN=>match x with|.inl _=>True|.inr e=>e.2.1=w.1):=
 bO (λd:kP.B=>z4 (3-d.1)) (λd hd=>by
  have hw:wI (d.1+1)=d.1+1:=aW;unfold JV;simp only[bP];simp only[nf,pB,uZ,hw];repeat' (first|exact True.intro|exact hd.2.2|omega|(intro _)|(apply And.intro))) (λd hd=>by omega)
theorem aUN (x0:Int)(x1:Int)(x2:Int)(x3:Int)(x4:Int)(x5:Int)(x6:Int)(x7:Int):Ok (An x0 x1 x2 x3 x4 x5 x6 x7) (λr=>r=true->0<=x0):=by
 unfold An Ra;show PQ _ _;refine aA (aOQ (x0,x1,(x2,x3,x4),x5,x6,x7) _ ⟨fk 0,(show(0:Int)<=3 by decide),rfl⟩) λd _ hd=> ?_;rw[qQ];refine⟨λa _=>by rw[aw];intro h;exact absurd h (by decide),λa ha=> ?_⟩;rw[ha] at hd;have hd:a.2.1=x0:=hd;rw[aN];refine⟨λ_=> ?_,λ_=>by rw[aw];intro h;exact absurd h (by decide)⟩;rw[aN];refine⟨λ_=> ?_,λ_=>by rw[aw];intro h;exact absurd h (by decide)⟩;rw[aN];refine⟨λc=> ?_,λ_=>by rw[aw];intro h;exact absurd h (by decide)⟩;rw[aw];have c:=dm c;intro _;omega
theorem aJS (x:Eg.B):Ok (Ao x) (λr=>r.1.1=x.1.2.1):=by
 unfold Ao Rc;try dsimp only
 show PQ _ _;rw[bH];intro _ _;rw[bH];intro _ _;rw[aw]
theorem aY1 (x:oQ.B)(h:x.2.1.2.2=false->x.2.1.2.1.1<=0):Ok (jM x) (λr=>(r.2.1.2.2=false->r.2.1.2.1.1<=0)/\x.2.1.2.1.1<=r.2.1.2.1.1/\(r.1.2.1=true->r.1.1.1=r.2.1.2.1.1)):=by
 unfold jM zu;try dsimp only
 show PQ _ _;refine aA (aUN _ _ _ _ _ _ _ _) λd _ hd=> ?_;rw[aN];refine⟨λ_=>by rw[aw];exact⟨h,fk _,(λh=>nomatch h)⟩,λc=> ?_⟩;have c:d=true:=by cases d<;>first|rfl|cases c
 have hx:0<=x.1.1:=hd c;rw[aN];refine⟨λ_=> ?_,λca=> ?_⟩
 .rw[aN];refine⟨λ_=>by rw[aw];exact⟨h,fk _,(λh=>nomatch h)⟩,λcb=> ?_⟩;have cb:=vk cb;refine aA (aJS _) λe _ he=> ?_;have he:e.1.1=x.1.1:=he;rw[aN];refine⟨λ_=> ?_,λ_=> ?_⟩
  .rw[aw];exact⟨(λh=>nomatch h),by show x.2.1.2.1.1<=e.1.1;omega,(λh=>nomatch h)⟩
  .rw[aw];exact⟨(λh=>nomatch h),by show x.2.1.2.1.1<=x.1.1;omega,λ_=>he⟩
 .have h:=h ca;refine aA (aJS _) λe _ he=> ?_;have he:e.1.1=x.1.1:=he;rw[aN];refine⟨λ_=> ?_,λ_=> ?_⟩
  .rw[aw];exact⟨(λh=>nomatch h),by show x.2.1.2.1.1<=e.1.1;omega,(λh=>nomatch h)⟩
  .rw[aw];exact⟨(λh=>nomatch h),by show x.2.1.2.1.1<=x.1.1;omega,λ_=>he⟩
def Qd (T S:Int)(n:Nat)(r:Nat->Int):Prop:=T<=S/\∀i k,i<=k->k<n->T<=r i/\r i<=r k/\r k<=S
theorem Qd.pop {T S:Int}{n:Nat}{r q:Nat->Int}(h:Qd T S n r)(hn:1<=n)(e:∀i,q i=r (i+1)):T<=r 0/\Qd (r 0) S (n-1) q:=by
 have a:=h.2 0 0 (cZ _) (by omega);refine⟨a.1,ab9 a.2.1 a.2.2,λi k p l=> ?_⟩;have b:=h.2 (i+1) (k+1) (by omega) (by omega);have c:=h.2 0 (i+1) (by omega) (by omega);rw[e,e];exact⟨c.2.1,b.2⟩
theorem Qd.push {T S j:Int}{n:Nat}{r q:Nat->Int}(h:Qd T S n r)(l:S<=j)(e:∀i,i<n->q i=r i)(en:q n=j):Qd T j (n+1) q:=by
 refine⟨ab9 h.1 l,λi k p l2=> ?_⟩;have hT:=h.1;by_cases hk:k<n
 .rw[e i (by omega),e k hk];have a:=h.2 i k p hk;exact⟨a.1,a.2.1,ab9 a.2.2 l⟩
 .have hk:k=n:=by omega
  subst hk;rw[en];by_cases hi:i<k
  .rw[e i hi];have a:=h.2 i i (cZ _) hi;exact⟨a.1,ab9 a.2.2 l,fk _⟩
  .have hi:i=k:=by omega
   subst hi;rw[en];exact⟨ab9 hT l,fk _,fk _⟩
theorem Qd.up {T S j:Int}{n:Nat}{r q:Nat->Int}(h:Qd T S n r)(l:S<=j)(e:∀i,q i=r i):Qd T j n q:=
 ⟨ab9 h.1 l,λi k p l2=>by rw[e,e];have a:=h.2 i k p l2;exact⟨a.1,a.2.1,ab9 a.2.2 l⟩⟩
end Go.Proofs.YtldgljclcgaibaaGreat
