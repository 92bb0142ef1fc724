/-
  Parts of the proof: Q6 TSp TGa TGu TGs TGm TGf TGg TDn
-/
import Derived.Test.YtldgljclcgaibaaGreatZAE
import Derived.Test.YtldgljclcgaibaaGreatZAG
import Derived.Test.YtldgljclcgaibaaGreatZAH
import Derived.Test.YtldgljclcgaibaaGreatZAK
open Nat renaming beq→z9,ble→wl,blt→v9
open Int renaming toNat→z4,ofNat→wr
open Sum renaming inl→ww,inr→ws,elim→t9
set_option linter.unusedVariables false
set_option linter.unusedSimpArgs false
set_option maxRecDepth 100000
set_option maxHeartbeats 4000000
noncomputable section
namespace Go.Proofs.YtldgljclcgaibaaGreat
open Go.Ab Go.Ab.Pg Go.Ab.Rq
def oq:=qa (pr (cu iW abA) (cd wg λb0=>(c mb (c m8 (c (cl (gs b0.c.1 o6) nil) (cd xQ λb4=>(cd qO λb5=>(cd qP λb6=>(cd qQ λb7=>(cd qR λb8=>(cd qS λb9=>(c mH (cd zW λAv=>(c (cl (gs b0.e mc) nil) (c (cl (gs b4.b.1 aB) nil) (c (cl (gs b5.b.1 aB) nil) (c (cl (gs b6.b.1 aB) nil) (c (cl (gs b7.b.1 aB) nil) (c (cl (gs b8.b.1 aB) nil) (c (cl (gs b9.b.1 aB) nil) (cl (cl (gs Av.b jo) nil) nil)))))))))))))))))))))
def apT:=qe (res (pu Q' (pr (c (zT (a 26 tU (c gb (c gJ (a 2 uF (cu akJ (cu akK (c aKh (au 6 akR (cu aun (a 4 A5 (cu auo (c gb (c gi (a 3 ld (c gb (c gb (c gb (c gi (c gi (c gi (a 10 zY (cl (gc (gr (pu aIh (pu (ox (pu dJ (pu dJ (nat 10)))) (pl jr (pu (nat 10) gB)))))) nil))))))))))))))))))))))) (cu fD (cu fD (cu fD (c (zT aP8) (c (zT asz) (c (zT aWR) (c (zT aWS) (c (zT aWT) (c (zT aWU) (c aDU (cl (zT (c gi (c gi (cl (gc (gr (pu (nat 27) (pu (ox (pu dJ (pu dJ xK))) (pl jr (pu xK gB)))))) nil)))) (cu fD aV9))))))))))))) aD7)))
abbrev rB:=(((Fu×Bool×NI×(NI×NI)×Nat×qF×Bool×Int×kG×Bool×Bool×Bool×Int×Int×Int×En×Nat)×bT×bT×bT×bT×bT×bT×Lu×Int×Int×Nat)×Fo×cP×cP×cP×cP×cP×cP×Nat×NI×NI×NI×NI×NI×NI×NI×NI×NI×NI×NI)
def Zm:rB->T:=λd=>lf apT (d.1,d.2.1,(d.1.2.1.b.1,d.b.1),(d.1.b.1.b.1,d.b.2.1),(d.1.b.2.1.b.1,d.c.1),(d.1.c.1.b.1,d.c.2.1),(d.1.c.2.1.b.1,d.c.b.1),(d.1.c.b.1.b.1,d.c.b.2.1),d.d)
abbrev KR:=oq.B->Option rB
def Zn (g:KR):Ct:=(64,FC oq Zm g)
def dI:=qs (st (dp (cu iW (us 2 (cu ZT (cu On (c ai (us 53 (c ai (us 10 (c (ac aPX) (c ai (cl ai (us 126 nil)))))))))))) λv=>(pl (c aD9 (c lg (c lk (c me (cd J4 λb4=>(cd J5 λb5=>(cd J6 λb6=>(cd J7 λb7=>(cd J8 λb8=>(cd afO λb9=>(c j8 (c afN (c tT (cu nO (cu nO (cu nO (cu nO (cu nO (cu nO (cu nO (c zX (c (so (cl (gs v.b.1 aB) nil)) (c tT (c (so (cl (gs b4.b.1 aB) nil)) (c (so (cl (gs b5.b.1 aB) nil)) (c (so (cl (gs b6.b.1 aB) nil)) (c (so (cl (gs b7.b.1 aB) nil)) (c (so (cl (gs b8.b.1 aB) nil)) (c (so (cl (gs b9.b.1 aB) nil)) Fy))))))))))))))))))))))))))))) We)))
def aov:=qs (st (pr (cu iW (us 2 (cu ZT (cu On (c ai (us 53 (c ai (us 10 (c (ac aPX) (c ai (c ai (cl ab (us 125 nil))))))))))))) (pl (c aD9 (c lg (c lk (c me (c J4 (c J5 (c J6 (c J7 (c J8 (c afO (c j8 (c afN (c tT (cu nO (cu nO (cu nO (cu nO (cu nO (cu nO (cu nO (c zX (c HX xR)))))))))))))))))))))) We)))
abbrev jB:=((Int×Int×Nat×Int×Int×Bool)×(Fu×Bool×NI×(NI×NI)×Nat×qF×Bool×Int×kG×Bool×Bool×Bool×Int×Int×Int×En×Nat)×(kG×Int×Int)×Ly×Q9×bT×bT×bT×bT×bT×bT×Lu×tt×Fo×aul×cP×Fo×cP×cP×cP×cP×cP×cP×Nat×NI×NI×NI×NI×NI×NI×NI×NI×NI×NI×NI)
def Su {ρ:Type}(x:jB)(K:AX->St->Option ρ):Option ρ:=(λd=>K (.ex 2) (aov.em (d.1,d.2.1,d.b.1,d.b.2.1,d.c.1,d.c.2.1,d.c.b.1,d.c.b.2.1,d.d.1,d.d.2.1,d.d.b.1,d.d.b.2.1,d.d.c.1,d.d.c.2.1,d.d.c.b.1,(d.1.b.1,d.d.c.b.2.1),d.e.1,(d.c.2.1.b.1,d.e.2.1),(d.c.b.1.b.1,d.e.b.1),(d.c.b.2.1.b.1,d.e.b.2.1),(d.d.1.b.1,d.e.c.1),(d.d.2.1.b.1,d.e.c.2.1),(d.d.b.1.b.1,d.e.c.b.1),d.e.c.b.2))) x
def zE (awX:Nx)(d:dI.B):PL dI jB:=let bh:=d.2.1.2.2.2.2;let n15:=bh.2.2.2.2.2.2.2.2.2.2.2.2;let n8:=d.1.2.2;let n18:=n8.2.2;let n6:=d.2.2.2;let bC:=n6.2.2.1;let n3:=n6.2.2.2;let n16:=n3.2.1;let bP:=n3.2.2.1;let n7:=n3.2.2.2;let n17:=n7.2.1;let n2:=n7.2.2.2;let n5:=n2.2.2.2;let bB:=n5.2.2.2.2;let aT:=n5.1.2.2.2;let n4:=bB.2.2.2.2.2;let n9:=n4.2.2.2.2.2;let n1:=(d.1.1,d.1.2.1,n8.1,n8.2.1,wI (n18+1));let y0:=0+z4 n18;let y1:=decide (n18<n8.2.1);ae y1 (ae (bg n18 n8.1) (ae (z9 bh.1 bh.1) (ae (z9 n15 n15) (ae (z9 bC.2.2.1 bC.2.2.1) (ae (z9 n3.1.2.2.1 n3.1.2.2.1) (ae (z9 n16.2.2.1 n16.2.2.1) (ae (z9 bP.2.2.1 bP.2.2.1) (ae (z9 n7.1.2.2.1 n7.1.2.2.1) (ae (z9 n17.2.2.1 n17.2.2.1) (ae (z9 n2.1.2.2 n2.1.2.2) (opt (awX ((d.1.1,n5.1.1 y0,n5.1.2.1 y0,n5.1.2.2.1 y0,aT.1 y0,aT.2.1 y0,aT.2.2.1 y0,aT.2.2.2.1 y0,aT.2.2.2.2.1 y0,aT.2.2.2.2.2 y0),d.2.1,d.2.2.1,n6.1,(sh8 0 n6.2.1.2),bC,n3.1,n16,bP,n7.1,n17,n7.2.2.1,n2.1,(ais 0 n5.2.1.2),(mZ 0 n5.2.2.1),(mZ 0 n5.2.2.2.1),(mZ 0 bB.1),(mZ 0 bB.2.1),(mZ 0 bB.2.2.1),(mZ 0 bB.2.2.2.1),λj=>n4.1 (0+j),λj=>n4.2.1 (0+j),λj=>n4.2.2.1 (0+j),λj=>n4.2.2.2.1 (0+j),λj=>n4.2.2.2.2.1 (0+j),λj=>n9.1 (0+j),λj=>n9.2.1 (0+j),λj=>n9.2.2.1 (0+j),λj=>n9.2.2.2.1 (0+j),λj=>n9.2.2.2.2.1 (0+j),λj=>n9.2.2.2.2.2 (0+j))) λak=>sm ak (λaF=>ret (ww (n1,aF.1,d.2.2.1,n6.1,n6.2.1,bC,n3.1,n16,bP,n7.1,n17,aF.2,n2))) (λaF=>ret (ww (n1,aF.1.1,d.2.2.1,n6.1,n6.2.1,bC,n3.1,n16,bP,n7.1,n17,aF.1.2,n2.1,n2.2.1,n2.2.2.1,n5.1,(aF.1.1.2.2.2.2.2.2.2.2.2.2.2.2.2.2.2.2,aF.2),n5.2.2)))) no) no) no) no) no) no) no) no) no) no) (ret (ws ((d.1.1,d.1.2.1,n8.1,n8.2.1,n18,y1),d.2)))
def tl:=bI (zE pQ) 2000
def eG:=qs (st (pr (cu iW (us 2 (cu ZT (cu On (us 3 (cu aVe (us 92 (cl ai (us 97 nil))))))))) (pl (c aD9 (c lg (c lk (c me (cd J4 λb4=>(cd J5 λb5=>(cd J6 λb6=>(cd J7 λb7=>(cd J8 λb8=>(cd afO λb9=>(c j8 (c afN (c tT (cu nO (cu nO (cu nO (cu nO (cu nO (cu nO (cu nO (c zX (c aWH (c tT (c (so (cl (gs b4.b.1 aB) nil)) (c (so (cl (gs b5.b.1 aB) nil)) (c (so (cl (gs b6.b.1 aB) nil)) (c (so (cl (gs b7.b.1 aB) nil)) (c (so (cl (gs b8.b.1 aB) nil)) (c (so (cl (gs b9.b.1 aB) nil)) Fy))))))))))))))))))))))))))))) We)))
def aow:=qs (st (pr (cu iW (us 2 (cu ZT (cu On (us 3 (cu aVe (us 92 (c ai (cl ab (us 96 nil)))))))))) (pl (c aD9 (c lg (c lk (c me (c J4 (c J5 (c J6 (c J7 (c J8 (c afO (c j8 (c afN (c tT (cu nO (cu nO (cu nO (cu nO (cu nO (cu nO (cu nO (c zX (c aWH xR)))))))))))))))))))))) We)))
abbrev jC:=((Int×Bool)×(Fu×Bool×NI×(NI×NI)×Nat×qF×Bool×Int×kG×Bool×Bool×Bool×Int×Int×Int×En×Nat)×(kG×Int×Int)×Ly×Q9×bT×bT×bT×bT×bT×bT×Lu×tt×Fo×aul×(Bool×Bool×Bool×Bool×Bool×Bool×Bool×Bool×Int×Int)×Fo×cP×cP×cP×cP×cP×cP×Nat×NI×NI×NI×NI×NI×NI×NI×NI×NI×NI×NI)
def Sv {ρ:Type}(x:jC)(K:AX->St->Option ρ):Option ρ:=(λd=>K (.ex 4) (aow.em (d.1,d.2.1,d.b.1,d.b.2.1,d.c.1,d.c.2.1,d.c.b.1,d.c.b.2.1,d.d.1,d.d.2.1,d.d.b.1,d.d.b.2.1,d.d.c.1,d.d.c.2.1,d.d.c.b.1,d.d.c.b.2.1,d.e.1,(d.c.2.1.b.1,d.e.2.1),(d.c.b.1.b.1,d.e.b.1),(d.c.b.2.1.b.1,d.e.b.2.1),(d.d.1.b.1,d.e.c.1),(d.d.2.1.b.1,d.e.c.2.1),(d.d.b.1.b.1,d.e.c.b.1),d.e.c.b.2))) x
def zF (adr:Aj)(d:eG.B):PL eG jC:=let n15:=d.2.1;let n7:=d.2.2;let n16:=n7.2.1;let n8:=n7.2.2.1;let n2:=n7.2.2.2;let n17:=n2.2.1;let n9:=n2.2.2.1;let n4:=n2.2.2.2;let n18:=n4.2.1;let aT:=n4.2.2.1;let n1:=n4.2.2.2;let n19:=n1.2.1;let bB:=n1.1.1.2;let bh:=n1.2.2.1;let n6:=n1.2.2.2;let n20:=n6.2.2;let n3:=n6.2.1;let n21:=n3.2.1;let bC:=n3.2.2.1;let n5:=n3.2.2.2;let bP:=n5.2.2;let y0:=wI (d.1+1);let y1:=decide (d.1<6);ae y1 (opt (adr d.1 n6.1.1 n1.1.1.1 bB.1 bB.2.1 bB.2.2.1 bB.2.2.2.1 bB.2.2.2.2 n1.1.2) λak=>ae (bg d.1 6) (ae (d.1==5) (ret (ww (y0,n15,n7.1,n16,n8,n2.1,n17,n9,n4.1,n18,aT,n1.1,n19,bh,n6.1,(n3.1,n21,bC,n5.1,n5.2.1,bP.1,bP.2.1,ak,bP.2.2.2),n20))) (ae (d.1==4) (ret (ww (y0,n15,n7.1,n16,n8,n2.1,n17,n9,n4.1,n18,aT,n1.1,n19,bh,n6.1,(n3.1,n21,bC,n5.1,n5.2.1,bP.1,ak,bP.2.2),n20))) (ae (d.1==3) (ret (ww (y0,n15,n7.1,n16,n8,n2.1,n17,n9,n4.1,n18,aT,n1.1,n19,bh,n6.1,(n3.1,n21,bC,n5.1,n5.2.1,ak,bP.2),n20))) (ae (d.1==2) (ret (ww (y0,n15,n7.1,n16,n8,n2.1,n17,n9,n4.1,n18,aT,n1.1,n19,bh,n6.1,(n3.1,n21,bC,n5.1,ak,bP),n20))) (ae (d.1==1) (ret (ww (y0,n15,n7.1,n16,n8,n2.1,n17,n9,n4.1,n18,aT,n1.1,n19,bh,n6.1,(n3.1,n21,bC,ak,n5.2),n20))) (ret (ww (y0,n15,n7.1,n16,n8,n2.1,n17,n9,n4.1,n18,aT,n1.1,n19,bh,n6.1,(n3.1,n21,ak,n5),n20)))))))) no) (ret (ws ((d.1,y1),d.2)))
def zG:=bI (zF ns) 2000
def iI:=qs (st (pu aWC (pl (c axC (c lg (c lk (c me (cd (so asz) λb4=>(cd J4 λb5=>(cd J5 λb6=>(cd J6 λb7=>(cd J7 λb8=>(cd J8 λb9=>(c j8 (c axx (c tT (cu nO (cu nO (cu nO (cu nO (cu nO (cu nO (cu nO (c zX (c tT (c (so (cl (gs b4.b.1 aB) nil)) (c (so (cl (gs b5.b.1 aB) nil)) (c (so (cl (gs b6.b.1 aB) nil)) (c (so (cl (gs b7.b.1 aB) nil)) (c (so (cl (gs b8.b.1 aB) nil)) (c (so (cl (gs b9.b.1 aB) nil)) Fy)))))))))))))))))))))))))))) We)))
def afe:=qs aQk
def aff:=qs aQj
abbrev lO:=((Bool×NI×Int×Int)×(Fu×Bool×(NI×NI)×Nat×qF×Int×kG×Bool×Bool×Bool×Int×Int×Int×En×Nat)×(kG×Int×Int)×Ly×Q9×bT×bT×bT×bT×bT×bT×Lu×tt×Fo×aRU×Fo×cP×cP×cP×cP×cP×cP×Nat×NI×NI×NI×NI×NI×NI×NI×NI×NI×NI×NI)⊕(Bool×(Fu×Bool×NI×(NI×NI)×Nat×qF×Int×kG×Bool×Bool×Bool×Int×Int×Int×En×Nat)×(kG×Int×Int)×Ly×Q9×bT×bT×bT×bT×bT×bT×Lu×tt×Fo×aul×Fo×cP×cP×cP×cP×cP×cP×Nat×NI×NI×NI×NI×NI×NI×NI×NI×NI×NI×NI)
def Sw {ρ:Type}(x:lO)(K:AX->St->Option ρ):Option ρ:=(t9 (λd=>K .nrm (afe.em (d.1,(d.2.1.1,d.2.1.2.1,d.1.2.1,d.2.1.b.1,d.2.1.b.2.1,d.2.1.c.1,d.1.1,d.2.1.c.2),d.b.1,d.b.2.1,d.c.1,d.c.2.1,d.c.b.1,d.c.b.2.1,d.d.1,d.d.2.1,d.d.b.1,d.d.b.2.1,d.d.c.1,d.d.c.2.1,(d.1.b.1,d.d.c.b.1),d.d.c.b.2.1,(d.c.2.1.b.1,d.e.1),(d.c.b.1.b.1,d.e.2.1),(d.c.b.2.1.b.1,d.e.b.1),(d.d.1.b.1,d.e.b.2.1),(d.d.2.1.b.1,d.e.c.1),(d.d.b.1.b.1,d.e.c.2.1),d.e.c.b))) (λd=>K .nrm (aff.em (d.1,(d.2.1.1,d.2.1.2.1,d.2.1.b.1,d.2.1.b.2.1,d.2.1.c.1,d.2.1.c.2.1,d.1,d.2.1.c.b),d.b.1,d.b.2.1,d.c.1,d.c.2.1,d.c.b.1,d.c.b.2.1,d.d.1,d.d.2.1,d.d.b.1,d.d.b.2.1,d.d.c.1,d.d.c.2.1,d.d.c.b.1,d.d.c.b.2.1,(d.c.2.1.b.1,d.e.1),(d.c.b.1.b.1,d.e.2.1),(d.c.b.2.1.b.1,d.e.b.1),(d.d.1.b.1,d.e.b.2.1),(d.d.2.1.b.1,d.e.c.1),(d.d.b.1.b.1,d.e.c.2.1),d.e.c.b)))) x
def zH (V1:vt)(d:iI.B):Pg lO:=let bB:=d.1.2;let n6:=d.2.2.2.2.2;let bP:=n6.2.2.2;let n5:=bB.2.2;let bh:=n5.2.2;let n2:=bP.2.2.2;let bC:=n2.2.2;let n8:=bC.2.2.2;let n1:=n8.2.2.2.2.2;let n9:=n1.2.2.2;let n3:=n9.2.2.2;let aT:=n3.2.2.2;ae bh.2.1 (ae (z9 n2.1.2.2 n2.1.2.2) (opt (V1 ((bB.2.1,bC.1.1),n2.1,bB.1,λj=>n1.2.1 (0+j),λj=>n1.2.2.1 (0+j),λj=>n9.1 (0+j),λj=>n9.2.1 (0+j),λj=>n9.2.2.1 (0+j),λj=>n3.1 (0+j),λj=>n3.2.1 (0+j),λj=>n3.2.2.1 (0+j),λj=>aT.1 (0+j),λj=>aT.2.1 (0+j),λj=>aT.2.2 (0+j))) λak=>let n4:=ak.2.2;let n7:=n4.2.2.2.2.2;let n15:=n7.2.2.2;let y0:=n4.1*11+0;ae (true&&z9 y0 (n2.1.2.2*11)&&true) (ae (true&&wl (0+y0) (n1.1*11+0)) (ret (ww ((bh.2.1,bB.2.1,bC.1.1,ak.1),(d.1.1,ak.2.1,n5.1,n5.2.1,bh.1,bh.2.2),d.2.1,d.2.2.1,d.2.2.2.1,d.2.2.2.2.1,n6.1,n6.2.1,n6.2.2.1,bP.1,bP.2.1,bP.2.2.1,n2.1,n2.2.1,bC.1.2,bC.2.1,bC.2.2.1,n8.1,n8.2.1,n8.2.2.1,n8.2.2.2.1,n8.2.2.2.2.1,n1.1,λj=>bif true&&v9 j (0+n4.1) then n4.2.1 j else n1.2.1 j,λj=>bif true&&v9 j (0+n4.1) then n4.2.2.1 j else n1.2.2.1 j,λj=>bif true&&v9 j (0+n4.1) then n4.2.2.2.1 j else n9.1 j,λj=>bif true&&v9 j (0+n4.1) then n4.2.2.2.2.1 j else n9.2.1 j,λj=>bif true&&v9 j (0+n4.1) then n7.1 j else n9.2.2.1 j,λj=>bif true&&v9 j (0+n4.1) then n7.2.1 j else n3.1 j,λj=>bif true&&v9 j (0+n4.1) then n7.2.2.1 j else n3.2.1 j,λj=>bif true&&v9 j (0+n4.1) then n15.1 j else n3.2.2.1 j,λj=>bif true&&v9 j (0+n4.1) then n15.2.1 j else aT.1 j,λj=>bif true&&v9 j (0+n4.1) then n15.2.2.1 j else aT.2.1 j,λj=>bif true&&v9 j (0+n4.1) then n15.2.2.2 j else aT.2.2 j))) no) no) no) (ret (ws (bh.2.1,(d.1.1,bB.1,bB.2.1,n5.1,n5.2.1,bh.1,bh.2.2),d.2)))
def oS (d:iI.B):Option lO:=(zH kY d).val
def eH:=qs (st (pr (cu iW (us 2 (cu ZT (cu On (us 54 (cl ai (us 139 nil))))))) (pl (c axC (c lg (c lk (c me (cd (so asz) λb4=>(cd J4 λb5=>(cd J5 λb6=>(cd J6 λb7=>(cd J7 λb8=>(cd J8 λb9=>(c j8 (c axx (c tT (cu nO (cu nO (cu nO (cu nO (cu nO (cu nO (cu nO (c zX (c tT (c (so (cl (gs b4.b.1 aB) nil)) (c (so (cl (gs b5.b.1 aB) nil)) (c (so (cl (gs b6.b.1 aB) nil)) (c (so (cl (gs b7.b.1 aB) nil)) (c (so (cl (gs b8.b.1 aB) nil)) (c (so (cl (gs b9.b.1 aB) nil)) Fy)))))))))))))))))))))))))))) We)))
def aox:=qs (st (pr (cu iW (us 2 (cu ZT (cu On (us 54 (c ai (cl ab (us 138 nil)))))))) (pl (c axC (c lg (c lk (c me (c (so asz) (c J4 (c J5 (c J6 (c J7 (c J8 (c j8 (c axx (c tT (cu nO (cu nO (cu nO (cu nO (cu nO (cu nO (cu nO (c zX xR))))))))))))))))))))) We)))
abbrev jD:=((Int×Bool)×(Fu×Bool×NI×(NI×NI)×Nat×qF×Bool×Int×kG×Bool×Bool×Bool×Int×Int×Int×En×Nat)×(kG×Int×Int)×Ly×Q9×bT×bT×bT×bT×bT×bT×Lu×tt×Fo×aul×Fo×cP×cP×cP×cP×cP×cP×Nat×NI×NI×NI×NI×NI×NI×NI×NI×NI×NI×NI)
def Sx {ρ:Type}(x:jD)(K:AX->St->Option ρ):Option ρ:=(λd=>K (.ex 0) (aox.em (d.1,d.2.1,d.b.1,d.b.2.1,d.c.1,d.c.2.1,d.c.b.1,d.c.b.2.1,d.d.1,d.d.2.1,d.d.b.1,d.d.b.2.1,d.d.c.1,d.d.c.2.1,d.d.c.b.1,d.d.c.b.2.1,(d.c.2.1.b.1,d.e.1),(d.c.b.1.b.1,d.e.2.1),(d.c.b.2.1.b.1,d.e.b.1),(d.d.1.b.1,d.e.b.2.1),(d.d.2.1.b.1,d.e.c.1),(d.d.b.1.b.1,d.e.c.2.1),d.e.c.b))) x
def zI (rC:KD)(pD:LT dI jB)(d:eH.B):PL eH jD:=let n39:=d.2.1;let n17:=d.2.2;let GG:=n17.2.1;let n4:=n17.2.2;let n30:=n4.2.1;let n19:=n4.2.2.1;let n2:=n4.2.2.2;let n31:=n2.2.1;let n20:=n2.2.2.1;let n5:=n2.2.2.2;let Hp:=n5.2.1;let n18:=n5.2.2;let Ip:=n18.2.1;let n1:=n18.2.2;let Uf:=n1.2.1;let PK:=n1.1.1;let n6:=n1.2.2;let n32:=n6.2.1;let n21:=n6.1.2.2.2;let bP:=n32.2.2.2;let n3:=n6.2.2;let VV:=n3.2.1;let n22:=n3.1.2.2.2;let n15:=VV.2.2.2;let bC:=n3.2.2;let n23:=bC.1.2.2.2;let n16:=bC.2.1.2.2.2;let y0:=decide (d.1<6);let y1:=z9 n30.2.2.1 n30.2.2.1;let y2:=z9 n19.2.2.1 n19.2.2.1;let y3:=z9 n2.1.2.2.1 n2.1.2.2.1;let y4:=z9 n31.2.2.1 n31.2.2.1;let y5:=z9 n20.2.2.1 n20.2.2.1;let y6:=z9 n5.1.2.2.1 n5.1.2.2.1;ae y0 (ae (bg d.1 6) (ae (d.1==5) (ae y6 (opt (rC (PK,n5.1,λj=>bC.2.1.1 (0+j),λj=>bC.2.1.2.1 (0+j),λj=>bC.2.1.2.2.1 (0+j),λj=>n16.1 (0+j),λj=>n16.2.1 (0+j),λj=>n16.2.2.1 (0+j),λj=>n16.2.2.2.1 (0+j),λj=>n16.2.2.2.2.1 (0+j),λj=>n16.2.2.2.2.2 (0+j))) λak=>ae (z9 ak.1 ak.1) (ae y1 (ae y2 (ae y3 (ae y4 (ae y5 (ae (z9 ak.2.1.2.2.1 ak.2.1.2.2.1) (opt (pD ((d.1,d.1,ak.1,wr ak.1,0),n39,n17.1,GG,n4.1,n30,n19,n2.1,n31,n20,ak.2.1,Hp,n18.1,Ip,n1.1,ak.2.2.1,Uf,n6.1,n32,n3.1,VV,bC.1,ak.2.2.2,bC.2.2)) λd=>let n33:=d.2.2.2;let n7:=n33.2.2.2.2;let n24:=n7.2.2.2.2;ret (ww (wI (d.1.2.1+1),d.2.1,d.2.2.1,n33.1,n33.2.1,n33.2.2.1,n33.2.2.2.1,n7.1,n7.2.1,n7.2.2.1,n7.2.2.2.1,n24.1,n24.2.1,n24.2.2.1,n24.2.2.2.1,n24.2.2.2.2.2))) no) no) no) no) no) no) no) no) (ae (d.1==4) (ae y5 (opt (rC (PK,n20,λj=>bC.1.1 (0+j),λj=>bC.1.2.1 (0+j),λj=>bC.1.2.2.1 (0+j),λj=>n23.1 (0+j),λj=>n23.2.1 (0+j),λj=>n23.2.2.1 (0+j),λj=>n23.2.2.2.1 (0+j),λj=>n23.2.2.2.2.1 (0+j),λj=>n23.2.2.2.2.2 (0+j))) λak=>ae (z9 ak.1 ak.1) (ae y1 (ae y2 (ae y3 (ae y4 (ae (z9 ak.2.1.2.2.1 ak.2.1.2.2.1) (ae y6 (opt (pD ((d.1,d.1,ak.1,wr ak.1,0),n39,n17.1,GG,n4.1,n30,n19,n2.1,n31,ak.2.1,n5.1,Hp,n18.1,Ip,n1.1,ak.2.2.1,Uf,n6.1,n32,n3.1,VV,ak.2.2.2,bC.2)) λd=>let n34:=d.2.2.2;let n8:=n34.2.2.2.2;let n25:=n8.2.2.2.2;ret (ww (wI (d.1.2.1+1),d.2.1,d.2.2.1,n34.1,n34.2.1,n34.2.2.1,n34.2.2.2.1,n8.1,n8.2.1,n8.2.2.1,n8.2.2.2.1,n25.1,n25.2.1,n25.2.2.1,n25.2.2.2.1,n25.2.2.2.2.2))) no) no) no) no) no) no) no) no) (ae (d.1==3) (ae y4 (opt (rC (PK,n31,λj=>VV.1 (0+j),λj=>VV.2.1 (0+j),λj=>VV.2.2.1 (0+j),λj=>n15.1 (0+j),λj=>n15.2.1 (0+j),λj=>n15.2.2.1 (0+j),λj=>n15.2.2.2.1 (0+j),λj=>n15.2.2.2.2.1 (0+j),λj=>n15.2.2.2.2.2 (0+j))) λak=>ae (z9 ak.1 ak.1) (ae y1 (ae y2 (ae y3 (ae (z9 ak.2.1.2.2.1 ak.2.1.2.2.1) (ae y5 (ae y6 (opt (pD ((d.1,d.1,ak.1,wr ak.1,0),n39,n17.1,GG,n4.1,n30,n19,n2.1,ak.2.1,n20,n5.1,Hp,n18.1,Ip,n1.1,ak.2.2.1,Uf,n6.1,n32,n3.1,ak.2.2.2,bC)) λd=>let n35:=d.2.2.2;let n9:=n35.2.2.2.2;let n26:=n9.2.2.2.2;ret (ww (wI (d.1.2.1+1),d.2.1,d.2.2.1,n35.1,n35.2.1,n35.2.2.1,n35.2.2.2.1,n9.1,n9.2.1,n9.2.2.1,n9.2.2.2.1,n26.1,n26.2.1,n26.2.2.1,n26.2.2.2.1,n26.2.2.2.2.2))) no) no) no) no) no) no) no) no) (ae (d.1==2) (ae y3 (opt (rC (PK,n2.1,λj=>n3.1.1 (0+j),λj=>n3.1.2.1 (0+j),λj=>n3.1.2.2.1 (0+j),λj=>n22.1 (0+j),λj=>n22.2.1 (0+j),λj=>n22.2.2.1 (0+j),λj=>n22.2.2.2.1 (0+j),λj=>n22.2.2.2.2.1 (0+j),λj=>n22.2.2.2.2.2 (0+j))) λak=>ae (z9 ak.1 ak.1) (ae y1 (ae y2 (ae (z9 ak.2.1.2.2.1 ak.2.1.2.2.1) (ae y4 (ae y5 (ae y6 (opt (pD ((d.1,d.1,ak.1,wr ak.1,0),n39,n17.1,GG,n4.1,n30,n19,ak.2.1,n31,n20,n5.1,Hp,n18.1,Ip,n1.1,ak.2.2.1,Uf,n6.1,n32,ak.2.2.2,n3.2)) λd=>let n36:=d.2.2.2;let aT:=n36.2.2.2.2;let n27:=aT.2.2.2.2;ret (ww (wI (d.1.2.1+1),d.2.1,d.2.2.1,n36.1,n36.2.1,n36.2.2.1,n36.2.2.2.1,aT.1,aT.2.1,aT.2.2.1,aT.2.2.2.1,n27.1,n27.2.1,n27.2.2.1,n27.2.2.2.1,n27.2.2.2.2.2))) no) no) no) no) no) no) no) no) (ae (d.1==1) (ae y2 (opt (rC (PK,n19,λj=>n32.1 (0+j),λj=>n32.2.1 (0+j),λj=>n32.2.2.1 (0+j),λj=>bP.1 (0+j),λj=>bP.2.1 (0+j),λj=>bP.2.2.1 (0+j),λj=>bP.2.2.2.1 (0+j),λj=>bP.2.2.2.2.1 (0+j),λj=>bP.2.2.2.2.2 (0+j))) λak=>ae (z9 ak.1 ak.1) (ae y1 (ae (z9 ak.2.1.2.2.1 ak.2.1.2.2.1) (ae y3 (ae y4 (ae y5 (ae y6 (opt (pD ((d.1,d.1,ak.1,wr ak.1,0),n39,n17.1,GG,n4.1,n30,ak.2.1,n2.1,n31,n20,n5.1,Hp,n18.1,Ip,n1.1,ak.2.2.1,Uf,n6.1,ak.2.2.2,n3)) λd=>let n37:=d.2.2.2;let bh:=n37.2.2.2.2;let n28:=bh.2.2.2.2;ret (ww (wI (d.1.2.1+1),d.2.1,d.2.2.1,n37.1,n37.2.1,n37.2.2.1,n37.2.2.2.1,bh.1,bh.2.1,bh.2.2.1,bh.2.2.2.1,n28.1,n28.2.1,n28.2.2.1,n28.2.2.2.1,n28.2.2.2.2.2))) no) no) no) no) no) no) no) no) (ae y1 (opt (rC (PK,n30,λj=>n6.1.1 (0+j),λj=>n6.1.2.1 (0+j),λj=>n6.1.2.2.1 (0+j),λj=>n21.1 (0+j),λj=>n21.2.1 (0+j),λj=>n21.2.2.1 (0+j),λj=>n21.2.2.2.1 (0+j),λj=>n21.2.2.2.2.1 (0+j),λj=>n21.2.2.2.2.2 (0+j))) λak=>ae (z9 ak.1 ak.1) (ae (z9 ak.2.1.2.2.1 ak.2.1.2.2.1) (ae y2 (ae y3 (ae y4 (ae y5 (ae y6 (opt (pD ((d.1,d.1,ak.1,wr ak.1,0),n39,n17.1,GG,n4.1,ak.2.1,n19,n2.1,n31,n20,n5.1,Hp,n18.1,Ip,n1.1,ak.2.2.1,Uf,ak.2.2.2,n6.2)) λd=>let n38:=d.2.2.2;let bB:=n38.2.2.2.2;let n29:=bB.2.2.2.2;ret (ww (wI (d.1.2.1+1),d.2.1,d.2.2.1,n38.1,n38.2.1,n38.2.2.1,n38.2.2.2.1,bB.1,bB.2.1,bB.2.2.1,bB.2.2.2.1,n29.1,n29.2.1,n29.2.2.1,n29.2.2.2.1,n29.2.2.2.2.2))) no) no) no) no) no) no) no) no)))))) no) (ret (ws ((d.1,y0),d.2)))
def zJ:=bI (zI xi tl) 2000
def iJ:=qs (st (pu (cu iW (us 2 (cu ZT (cu On (us 3 (cu aVe (us 190 nil))))))) (pl (c aD9 (c lg (c lk (c me (cd J4 λb4=>(cd J5 λb5=>(cd J6 λb6=>(cd J7 λb7=>(cd J8 λb8=>(cd afO λb9=>(c j8 (c afN (c tT (cu nO (cu nO (cu nO (cu nO (cu nO (cu nO (cu nO (c zX (c aPS (c tT (c (so (cl (gs b4.b.1 aB) nil)) (c (so (cl (gs b5.b.1 aB) nil)) (c (so (cl (gs b6.b.1 aB) nil)) (c (so (cl (gs b7.b.1 aB) nil)) (c (so (cl (gs b8.b.1 aB) nil)) (c (so (cl (gs b9.b.1 aB) nil)) Fy))))))))))))))))))))))))))))) We)))
def afg:=qs aQk
def afh:=qs aQj
abbrev lP:=((Bool×NI×Int×Int)×(Fu×Bool×(NI×NI)×Nat×qF×Int×kG×Bool×Bool×Bool×Int×Int×Int×En×Nat)×(kG×Int×Int)×Ly×Q9×bT×bT×bT×bT×bT×bT×Lu×tt×Fo×aRU×Fo×cP×cP×cP×cP×cP×cP×Nat×NI×NI×NI×NI×NI×NI×NI×NI×NI×NI×NI)⊕(Bool×(Fu×Bool×NI×(NI×NI)×Nat×qF×Int×kG×Bool×Bool×Bool×Int×Int×Int×En×Nat)×(kG×Int×Int)×Ly×Q9×bT×bT×bT×bT×bT×bT×Lu×tt×Fo×aul×Fo×cP×cP×cP×cP×cP×cP×Nat×NI×NI×NI×NI×NI×NI×NI×NI×NI×NI×NI)
def Sy {ρ:Type}(x:lP)(K:AX->St->Option ρ):Option ρ:=(t9 (λd=>K .nrm (afg.em (d.1,(d.2.1.1,d.2.1.2.1,d.1.2.1,d.2.1.b.1,d.2.1.b.2.1,d.2.1.c.1,d.1.1,d.2.1.c.2),d.b.1,d.b.2.1,d.c.1,d.c.2.1,d.c.b.1,d.c.b.2.1,d.d.1,d.d.2.1,d.d.b.1,d.d.b.2.1,d.d.c.1,d.d.c.2.1,(d.1.b.1,d.d.c.b.1),d.d.c.b.2.1,(d.c.2.1.b.1,d.e.1),(d.c.b.1.b.1,d.e.2.1),(d.c.b.2.1.b.1,d.e.b.1),(d.d.1.b.1,d.e.b.2.1),(d.d.2.1.b.1,d.e.c.1),(d.d.b.1.b.1,d.e.c.2.1),d.e.c.b))) (λd=>K .nrm (afh.em (d.1,(d.2.1.1,d.2.1.2.1,d.2.1.b.1,d.2.1.b.2.1,d.2.1.c.1,d.2.1.c.2.1,d.1,d.2.1.c.b),d.b.1,d.b.2.1,d.c.1,d.c.2.1,d.c.b.1,d.c.b.2.1,d.d.1,d.d.2.1,d.d.b.1,d.d.b.2.1,d.d.c.1,d.d.c.2.1,d.d.c.b.1,d.d.c.b.2.1,(d.c.2.1.b.1,d.e.1),(d.c.b.1.b.1,d.e.2.1),(d.c.b.2.1.b.1,d.e.b.1),(d.d.1.b.1,d.e.b.2.1),(d.d.2.1.b.1,d.e.c.1),(d.d.b.1.b.1,d.e.c.2.1),d.e.c.b)))) x
def zK (aL6:ahb)(ZO:yc)(aHU:acR)(l_5:LT iI lO)(d:iJ.B):Pg lP:=let n27:=d.2.2;let bP:=d.1.2.2;let bh:=n27.2.2;let n5:=bP.2.2.2.2;let n16:=n5.2.2.2.2;let n4:=bh.2.2;let n15:=n4.2.2;let n6:=n15.2.2.2;let n2:=n16.2.2.2.2.2;let n19:=n2.1.1.2;let bB:=n2.1.2;let n1:=n6.2.2.2;let n23:=n1.2.2.2;let n20:=n1.2.1.2;let n17:=n1.1.2.2.2;let n9:=n20.2.2.2;let n25:=n9.2.2.2;let n8:=n23.2.2.2;let n28:=n8.2.2;let n3:=n28.2.2;let n21:=n3.2.2;let n7:=n21.2.2.2;let n22:=n7.2.2;let y0:=wr n2.2;let y1:=1+n2.2;let y2:=z9 bh.1.2.2.1 bh.1.2.2.1;let y3:=z9 bh.2.1.2.2.1 bh.2.1.2.2.1;let y4:=z9 n4.1.2.2.1 n4.1.2.2.1;let y5:=z9 n4.2.1.2.2.1 n4.2.1.2.2.1;let y6:=z9 n15.1.2.2.1 n15.1.2.2.1;let y7:=z9 n15.2.1.2.2.1 n15.2.1.2.2.1;opt (aL6 (bP.2.2.2.1,n1.1.1,n1.1.2.1,(n1.1.2.2.1,n17.1,n17.2.1,n17.2.2.1,n17.2.2.2.1,n17.2.2.2.2.1),n17.2.2.2.2.2)) λak=>ae (decide (y0>0)) (ae (z9 n2.2 n2.2) (ae (z9 n6.1.2.2 n6.1.2.2) (opt (ZO ((n2.2,true),n6.1,d.1.2.1,(ais 0 n20),λj=>n28.2.1 (0+j),λj=>n3.1 (0+j),λj=>n3.2.1 (0+j),λj=>n21.1 (0+j),λj=>n21.2.1 (0+j),λj=>n21.2.2.1 (0+j),λj=>n7.1 (0+j),λj=>n7.2.1 (0+j),λj=>n22.1 (0+j),λj=>n22.2.1 (0+j),λj=>n22.2.2 (0+j))) λaF=>let n24:=aF.2.2.2;let bC:=aF.2.1;let aT:=n24.2.2.2;let n26:=aT.2.2.2;let ur:=bC*11+0;ae (true&&z9 ur (n6.1.2.2*11)&&true) (ae (true&&wl (0+ur) (n28.1*11+0)) (ae (wl (y1*80) 140737488355328) (ae (z9 y1 y1) (opt (aHU y1 aF.1 (λj=>bif v9 j 1 then bif z9 j 0 then n2.1.1.1 else n2.1.1.1 else n20.1 (0+(j-1))) (λj=>bif v9 j 1 then bif z9 j 0 then n19.1 else n19.1 else n20.2.1 (0+(j-1))) (λj=>bif v9 j 1 then bif z9 j 0 then n19.2.1 else n19.2.1 else n20.2.2.1 (0+(j-1))) (λj=>bif v9 j 1 then bif z9 j 0 then n19.2.2 else n19.2.2 else n9.1 (0+(j-1))) (λj=>bif v9 j 1 then bif z9 j 0 then bB.1.1 else bB.1.1 else n9.2.1 (0+(j-1))) (λj=>bif v9 j 1 then bif z9 j 0 then bB.1.2.1 else bB.1.2.1 else n9.2.2.1 (0+(j-1))) (λj=>bif v9 j 1 then bif z9 j 0 then bB.1.2.2 else bB.1.2.2 else n25.1 (0+(j-1))) (λj=>bif v9 j 1 then bif z9 j 0 then bB.2.1 else bB.2.1 else n25.2.1 (0+(j-1))) (λj=>bif v9 j 1 then bif z9 j 0 then bB.2.2.1 else bB.2.2.1 else n25.2.2.1 (0+(j-1))) (λj=>bif v9 j 1 then bif z9 j 0 then bB.2.2.2 else bB.2.2.2 else n25.2.2.2 (0+(j-1))) true) λbA=>let n18:=bA.1.2.2.2;ae y2 (ae y3 (ae y4 (ae y5 (ae y6 (ae y7 (opt (l_5 ((d.1.1,bA.2,bP.1,bP.2.1,bP.2.2.1,ak.1,n5.1,n5.2.1,n5.2.2.1,n5.2.2.2.1,n16.1,n16.2.1,n16.2.2.1,n16.2.2.2.1,wI (n16.2.2.2.2.1+y0),((bA.1.1,bA.1.2.1,bA.1.2.2.1,n18.1),(n18.2.1,n18.2.2.1,n18.2.2.2.1),n18.2.2.2.2),n2.2),d.2.1,n27.1,n27.2.1,bh.1,bh.2.1,n4.1,n4.2.1,n15.1,n15.2.1,n15.2.2.1,n6.1,n6.2.1,n6.2.2.1,n1.2.1,n1.2.2.1,n23.1,n23.2.1,n23.2.2.1,n8.1,n8.2.1,n28.1,λj=>bif true&&v9 j (0+bC) then aF.2.2.1 j else n28.2.1 j,λj=>bif true&&v9 j (0+bC) then n24.1 j else n3.1 j,λj=>bif true&&v9 j (0+bC) then n24.2.1 j else n3.2.1 j,λj=>bif true&&v9 j (0+bC) then n24.2.2.1 j else n21.1 j,λj=>bif true&&v9 j (0+bC) then aT.1 j else n21.2.1 j,λj=>bif true&&v9 j (0+bC) then aT.2.1 j else n21.2.2.1 j,λj=>bif true&&v9 j (0+bC) then aT.2.2.1 j else n7.1 j,λj=>bif true&&v9 j (0+bC) then n26.1 j else n7.2.1 j,λj=>bif true&&v9 j (0+bC) then n26.2.1 j else n22.1 j,λj=>bif true&&v9 j (0+bC) then n26.2.2.1 j else n22.2.1 j,λj=>bif true&&v9 j (0+bC) then n26.2.2.2 j else n22.2.2 j)) λx=>sum x (λd=>ret (ww d)) λd=>ret (ws d)) no) no) no) no) no) no) no) no) no) no) no) no) (ae y2 (ae y3 (ae y4 (ae y5 (ae y6 (ae y7 (opt (l_5 ((d.1.1,d.1.2.1,bP.1,bP.2.1,bP.2.2.1,ak.1,n5),d.2.1,n27.1,n27.2.1,bh.1,bh.2.1,n4.1,n4.2.1,n15.1,n15.2.1,n15.2.2.1,n6.1,n6.2.1,n6.2.2.1,n1.2)) λx=>sum x (λd=>ret (ww d)) λd=>ret (ws d)) no) no) no) no) no) no)
def oT (d:iJ.B):Option lP:=(zK Cu mC Ac oS d).val
def iK:=qs (st (pu aWC (pl (c axC (c lg (c lk (c me (cd (so asz) λb4=>(cd J4 λb5=>(cd J5 λb6=>(cd J6 λb7=>(cd J7 λb8=>(cd J8 λb9=>(c j8 (c axx (c tT (cu nO (cu nO (cu nO (cu nO (cu nO (cu nO (cu nO (c zX (c (so aWG) (c (so (cl (gs b4.b.1 aB) nil)) (c (so (cl (gs b5.b.1 aB) nil)) (c (so (cl (gs b6.b.1 aB) nil)) (c (so (cl (gs b7.b.1 aB) nil)) (c (so (cl (gs b8.b.1 aB) nil)) (c (so (cl (gs b9.b.1 aB) nil)) Fy)))))))))))))))))))))))))))) We)))
def afi:=qs aQk
def afj:=qs aQj
abbrev lQ:=((Bool×NI×Int×Int)×(Fu×Bool×(NI×NI)×Nat×qF×Int×kG×Bool×Bool×Bool×Int×Int×Int×En×Nat)×(kG×Int×Int)×Ly×Q9×bT×bT×bT×bT×bT×bT×Lu×tt×Fo×aRU×Fo×cP×cP×cP×cP×cP×cP×Nat×NI×NI×NI×NI×NI×NI×NI×NI×NI×NI×NI)⊕(Bool×(Fu×Bool×NI×(NI×NI)×Nat×qF×Int×kG×Bool×Bool×Bool×Int×Int×Int×En×Nat)×(kG×Int×Int)×Ly×Q9×bT×bT×bT×bT×bT×bT×Lu×tt×Fo×aul×Fo×cP×cP×cP×cP×cP×cP×Nat×NI×NI×NI×NI×NI×NI×NI×NI×NI×NI×NI)
def SA {ρ:Type}(x:lQ)(K:AX->St->Option ρ):Option ρ:=(t9 (λd=>K .nrm (afi.em (d.1,(d.2.1.1,d.2.1.2.1,d.1.2.1,d.2.1.b.1,d.2.1.b.2.1,d.2.1.c.1,d.1.1,d.2.1.c.2),d.b.1,d.b.2.1,d.c.1,d.c.2.1,d.c.b.1,d.c.b.2.1,d.d.1,d.d.2.1,d.d.b.1,d.d.b.2.1,d.d.c.1,d.d.c.2.1,(d.1.b.1,d.d.c.b.1),d.d.c.b.2.1,(d.c.2.1.b.1,d.e.1),(d.c.b.1.b.1,d.e.2.1),(d.c.b.2.1.b.1,d.e.b.1),(d.d.1.b.1,d.e.b.2.1),(d.d.2.1.b.1,d.e.c.1),(d.d.b.1.b.1,d.e.c.2.1),d.e.c.b))) (λd=>K .nrm (afj.em (d.1,(d.2.1.1,d.2.1.2.1,d.2.1.b.1,d.2.1.b.2.1,d.2.1.c.1,d.2.1.c.2.1,d.1,d.2.1.c.b),d.b.1,d.b.2.1,d.c.1,d.c.2.1,d.c.b.1,d.c.b.2.1,d.d.1,d.d.2.1,d.d.b.1,d.d.b.2.1,d.d.c.1,d.d.c.2.1,d.d.c.b.1,d.d.c.b.2.1,(d.c.2.1.b.1,d.e.1),(d.c.b.1.b.1,d.e.2.1),(d.c.b.2.1.b.1,d.e.b.1),(d.d.1.b.1,d.e.b.2.1),(d.d.2.1.b.1,d.e.c.1),(d.d.b.1.b.1,d.e.c.2.1),d.e.c.b)))) x
def zL (Km:LT eG jC)(dR:LT eH jD)(l_4:LT iJ lP)(d:iK.B):Pg lQ:=let n9:=d.2.2.2.2;let n4:=n9.2.2;let aT:=n4.2.2.2;let n17:=aT.2.2.2;ae (z9 n9.1.2.2.1 n9.1.2.2.1) (ae (z9 n9.2.1.2.2.1 n9.2.1.2.2.1) (ae (z9 n4.1.2.2.1 n4.1.2.2.1) (ae (z9 n4.2.1.2.2.1 n4.2.1.2.2.1) (ae (z9 n4.2.2.1.2.2.1 n4.2.2.1.2.2.1) (ae (z9 aT.1.2.2.1 aT.1.2.2.1) (opt (dR (0,d.1,d.2.1,d.2.2.1,d.2.2.2.1,n9.1,n9.2.1,n4.1,n4.2.1,n4.2.2.1,aT.1,aT.2.1,aT.2.2.1,n17.1,n17.2.1,(0,n17.2.2.1),n17.2.2.2)) λd=>let n16:=d.2.1.1.2.2.2.2.2.2.2.2;let n15:=d.2.1.2.2.2.2.2.2.2.2.2;let bh:=d.2.2.2.2;let n3:=bh.2.2;let n7:=n3.2.2.2;let n18:=n7.2.2.2;ae (z9 bh.2.1.2.2.1 bh.2.1.2.2.1) (ae (z9 n3.1.2.2.1 n3.1.2.2.1) (ae (z9 n3.2.1.2.2.1 n3.2.1.2.2.1) (ae (z9 n3.2.2.1.2.2.1 n3.2.2.1.2.2.1) (ae (z9 n7.1.2.2.1 n7.1.2.2.1) (ae (z9 n7.2.1.2.2.1 n7.2.1.2.2.1) (opt (Km (0,d.2.1,d.2.2.1,d.2.2.2.1,bh.1,bh.2.1,n3.1,n3.2.1,n3.2.2.1,n7.1,n7.2.1,n7.2.2.1,n18.1,n18.2.1,n18.2.2.1,(n15.1,n15.2.1,false,false,false,false,false,false,n16.1,n16.2.2.1),n18.2.2.2)) λd=>let bP:=d.2.2;let bC:=d.2.1.2.2.2.2.2.2.2.2.2.2.2;let n5:=bP.2.2.2;let bB:=n5.2.2;let n1:=bB.2.2;let n19:=n1.2.2;let n6:=n19.2.2;let n20:=n6.2.2;let n2:=n20.1.2;let n21:=n2.2.2;let n8:=n21.2.2;let y0:=z9 n5.1.2.2.1 n5.1.2.2.1;let y1:=z9 n5.2.1.2.2.1 n5.2.1.2.2.1;let y2:=z9 bB.1.2.2.1 bB.1.2.2.1;let y3:=z9 bB.2.1.2.2.1 bB.2.1.2.2.1;let y4:=z9 n1.1.2.2.1 n1.1.2.2.1;let y5:=z9 n1.2.1.2.2.1 n1.2.1.2.2.1;ae bC.1 (ae y0 (ae y1 (ae y2 (ae y3 (ae y4 (ae y5 (opt (l_4 (d.2.1,bP.1,bP.2.1,bP.2.2.1,n5.1,n5.2.1,bB.1,bB.2.1,n1.1,n1.2.1,n19.1,n19.2.1,n6.1,n6.2.1,(n20.1.1,n2.1,n2.2.1,n21.1,n21.2.1,n8.1,n8.2.1,n8.2.2.1,wI (n6.2.1.1-bC.2.1),n8.2.2.2),n20.2)) λx=>sum x (λd=>ret (ww d)) λd=>ret (ws d)) no) no) no) no) no) no) (ae y0 (ae y1 (ae y2 (ae y3 (ae y4 (ae y5 (opt (l_4 (d.2.1,bP.1,bP.2.1,bP.2.2.1,n5.1,n5.2.1,bB.1,bB.2.1,n1.1,n1.2.1,n19.1,n19.2.1,n6.1,n6.2.1,(n20.1.1,n2.1,n2.2.1,n21.1,n21.2.1,n8.1,n8.2.1,n8.2.2.1,1125899906842624,n8.2.2.2),n20.2)) λx=>sum x (λd=>ret (ww d)) λd=>ret (ws d)) no) no) no) no) no) no)) no) no) no) no) no) no) no) no) no) no) no) no
def lR (d:iK.B):Option lQ:=(zL zG zJ oT d).val
def SB:Hd:=⟨7,(1::2::rg 5 194 []),[(15,[]),(16,[]),(17,[]),(18,[]),(19,[]),(20,[]),(21,[]),(0,[])]⟩
def SD:Hd:=⟨24,(1::2::5::6::7::rg 9 190 []),[(15,[]),(16,[]),(17,[]),(18,[]),(19,[]),(20,[]),(21,[]),(0,[])]⟩
def SE:Hd:=⟨29,(1::2::rg 5 194 []),[(15,[]),(16,[]),(17,[]),(18,[]),(19,[]),(20,[]),(21,[]),(0,[])]⟩
def xA (apU:Iu)(aOJ:aom)(El:QJ)(l_3:LT iK lQ)(x:oq.B):Pg rB:=let GG:=x.1.1;let n19:=x.2.1.2;let n18:=x.2.2;let n39:=n18.2.2.1;let n8:=x.1.2.2;let n38:=n8.1.2;let n6:=n18.2.2.2;let n36:=n6.2.1;let n24:=n6.2.2.1;let n4:=n19.2.2.2;let n26:=n4.2.2;let n7:=n26.2.2.2;let Hp:=n7.2.2;let n20:=Hp.2.2.2;let n3:=n6.2.2.2;let n37:=n3.2.1;let n15:=n3.2.2;let n25:=n15.2.2.1;let n5:=n15.2.2.2.2;let n16:=n5.2.2.2;let Ip:=n16.2.2;let n2:=(GG,x.1.2.1,n8.1.1,n38.1,n38.2,n8.2);let n1:=(n20.2.2,n15.2.2.2.1);let y0:=z9 n6.1.2.2.1 n6.1.2.2.1;let y1:=z9 n36.2.2.1 n36.2.2.1;let y2:=z9 n24.2.2.1 n24.2.2.1;let y3:=z9 n3.1.2.2.1 n3.1.2.2.1;let y4:=z9 n37.2.2.1 n37.2.2.1;let y5:=z9 n15.1.2.2.1 n15.1.2.2.1;ae (n4.2.1.1==0) (ae (z9 n4.1 n4.1) (ae y0 (ae y1 (ae y2 (ae y3 (ae y4 (ae y5 (ae (z9 n25.2.2 n25.2.2) (opt (apU (x.1,(x.2.1.1,n19.1,n19.2.1,n19.2.2.1,n4.1,n4.2.1,n26.1,n26.2.1,n26.2.2.1,n7.1,n7.2.1,Hp.1,Hp.2.1,GG,n20.1,n20.2.1,0),n18.1,n18.2.1,n39,n6.1,n36,n24,n3.1,n37,n15.1,n15.2.1,n25,(λx=>0,λx=>0,λx=>0,λx=>0,λx=>0,λx=>0,λx=>0,λx=>0,λx=>0,λx=>0),n5)) λd=>sm d (λd=>ae y0 (ae y1 (ae y2 (ae y3 (ae y4 (ae y5 (opt (l_3 (d.1,n18.1,n18.2.1,(n4.1,n39),n6.1,n36,n24,n3.1,n37,n15.1,n15.2.1,d.2,n1,n2,(λx=>0,λx=>0,λx=>0,λx=>0,λx=>0,λx=>0,λx=>0,λx=>0,λx=>0,λx=>0),n5.1,n5.2.1,n5.2.2.1,n16.1,n16.2.1,Ip.1,n25.2.2,Ip.2)) λx=>sum x (λd=>let n27:=d.2.1.2;let n9:=d.2.2.2.2.2.2;let n28:=n9.2.2.2;ret (((d.2.1.1,n27.1,d.1.2.1,n27.2.1,n27.2.2.1,n27.2.2.2.1,d.1.1,n27.2.2.2.2),d.2.2.2.2.2.1,n9.1,n9.2.1,n9.2.2.1,n28.1,n28.2.1,n28.2.2.1,n28.2.2.2.1),n28.2.2.2.2.2.2)) λd=>let n21:=d.2.1.2.2;let aT:=d.2.2.2.2.2.2;let n29:=aT.2.2.2;ret (((d.2.1.1,d.2.1.2.1,n21.1,n21.2.1,n21.2.2.1,n21.2.2.2.1,d.1,n21.2.2.2.2),d.2.2.2.2.2.1,aT.1,aT.2.1,aT.2.2.1,n29.1,n29.2.1,n29.2.2.1,n29.2.2.2.1),n29.2.2.2.2.2.2)) no) no) no) no) no) no) (λd=>let n17:=d.1.1.2.2.2;ae y0 (ae y1 (ae y2 (ae y3 (ae y4 (ae y5 (opt (l_3 ((d.1.1.1,d.1.1.2.1,d.1.1.2.2.1,n17.1,n17.2.1,n17.2.2.1,true,n17.2.2.2.1,n17.2.2.2.2.1,true,n17.2.2.2.2.2),n18.1,n18.2.1,(n4.1,n39),n6.1,n36,n24,n3.1,n37,n15.1,n15.2.1,d.1.2,n1,n2,(λx=>0,λx=>0,λx=>0,λx=>0,λx=>0,λx=>0,λx=>0,λx=>0,λx=>0,λx=>0),n5.1,n5.2.1,n5.2.2.1,n16.1,n16.2.1,Ip.1,d.2)) λx=>sum x (λd=>let n30:=d.2.1.2;let bh:=d.2.2.2.2.2.2;let n31:=bh.2.2.2;ret (((d.2.1.1,n30.1,d.1.2.1,n30.2.1,n30.2.2.1,n30.2.2.2.1,d.1.1,n30.2.2.2.2),d.2.2.2.2.2.1,bh.1,bh.2.1,bh.2.2.1,n31.1,n31.2.1,n31.2.2.1,n31.2.2.2.1),n31.2.2.2.2.2.2)) λd=>let n22:=d.2.1.2.2;let bB:=d.2.2.2.2.2.2;let n32:=bB.2.2.2;ret (((d.2.1.1,d.2.1.2.1,n22.1,n22.2.1,n22.2.2.1,n22.2.2.2.1,d.1,n22.2.2.2.2),d.2.2.2.2.2.1,bB.1,bB.2.1,bB.2.2.1,n32.1,n32.2.1,n32.2.2.1,n32.2.2.2.1),n32.2.2.2.2.2.2)) no) no) no) no) no) no)) no) no) no) no) no) no) no) no) (opt (aOJ n19.2.2.1.1 n19.2.2.1.2 n19.2.1 GG x.1.2.1 n8.1.1 n38.1 n38.2 n8.2.1 n8.2.2.1 n8.2.2.2 x.2.1.1.2.2.2.2.2.2.1 n19.1) λd=>opt (El n19.2.1 GG x.1.2.1 n8.1.1 n38.1 n38.2 n8.2.1 n8.2.2.1 n8.2.2.2 d.2) λak=>ae y0 (ae y1 (ae y2 (ae y3 (ae y4 (ae y5 (opt (l_3 ((x.2.1.1,ak.2,ak.1,d.1,n4.1,n4.2.1,n26.1,n26.2.1,n26.2.2.1,n7.1,n7.2.1,Hp.1,Hp.2.1,GG,n20.1,n20.2.1,0),n18.1,n18.2.1,(n4.1,n39),n6.1,n36,n24,n3.1,n37,n15.1,n15.2.1,n25,n1,n2,(λx=>0,λx=>0,λx=>0,λx=>0,λx=>0,λx=>0,λx=>0,λx=>0,λx=>0,λx=>0),n5.1,n5.2.1,n5.2.2.1,n16.1,n16.2.1,Ip.1,n25.2.2,Ip.2)) λx=>sum x (λd=>let n33:=d.2.1.2;let bC:=d.2.2.2.2.2.2;let n34:=bC.2.2.2;ret (((d.2.1.1,n33.1,d.1.2.1,n33.2.1,n33.2.2.1,n33.2.2.2.1,d.1.1,n33.2.2.2.2),d.2.2.2.2.2.1,bC.1,bC.2.1,bC.2.2.1,n34.1,n34.2.1,n34.2.2.1,n34.2.2.2.1),n34.2.2.2.2.2.2)) λd=>let n23:=d.2.1.2.2;let bP:=d.2.2.2.2.2.2;let n35:=bP.2.2.2;ret (((d.2.1.1,d.2.1.2.1,n23.1,n23.2.1,n23.2.2.1,n23.2.2.2.1,d.1,n23.2.2.2.2),d.2.2.2.2.2.1,bP.1,bP.2.1,bP.2.2.1,n35.1,n35.2.1,n35.2.2.1,n35.2.2.2.1),n35.2.2.2.2.2.2)) no) no) no) no) no) no)
def ot:=λx=>(xA mP Ca pg lR x).val
abbrev jW:=Iu×aom×QJ×KD×Nx×Aj×ahb×yc×acR×vt×(LT dI jB)×(LT eG jC)×(LT iI lO)×(LT eH jD)×(LT iJ lP)×(LT iK lQ)
def lS (p:jW):KK:=⟨[UY p.1,aBP p.2.1,acH p.b.1,YZ p.b.2.1,abl p.c.1,I5 p.c.2.1,avE p.c.b.1,HJ p.c.b.2.1,arq p.d.1,Fg p.d.2.1],⟨[⟨8,(1::2::rg 5 54 (rg 60 139 [])),[(15,[]),(16,[]),(17,[]),(18,[]),(19,[]),(20,[]),(21,[]),(0,[])]⟩,⟨11,(1::2::rg 6 53 (rg 60 10 (rg 73 126 []))),[(15,[]),(16,[]),(17,[]),(18,[]),(19,[]),(20,[]),(21,[]),(0,[])]⟩,⟨18,(1::2::5::6::7::rg 9 92 (rg 102 97 [])),[(15,[]),(16,[]),(17,[]),(18,[]),(19,[]),(20,[]),(21,[]),(0,[])]⟩],[fQ 11 20 dI Su p.d.b.1,fQ 18 20 eG Sv p.d.b.2.1,fQ 8 20 eH Sx p.d.c.2.1],(rg 4 6 [19,18,17,16,15,14,13,11,0,10]),[⟨SB,fQ 7 20 iK SA p.d.c.b.2⟩,⟨SD,fQ 24 20 iJ Sy p.d.c.b.1⟩,⟨SE,fQ 29 20 iI Sw p.d.c.1⟩],(some ⟨0,(rg 0 199 []),[]⟩)⟩,20,64⟩
theorem akv (p:jW):LI (lS p) 11 dI Su (zE p.c.1):=λ_ d c K=>by kernel_rfl
theorem akw (p:jW):LI (lS p) 18 eG Sv (zF p.c.2.1):=λ_ d c K=>by kernel_rfl
theorem akx (p:jW):JI (lS p) 29 iI Sw (zH p.d.2.1):=λ_ d K=>by kernel_rfl
theorem aky (p:jW):LI (lS p) 8 eH Sx (zI p.b.2.1 p.d.b.1):=λ_ d c K=>by kernel_rfl
theorem akz (p:jW):JI (lS p) 24 iJ Sy (zK p.c.b.1 p.c.b.2.1 p.d.1 p.d.c.1):=λ_ d K=>by kernel_rfl
theorem akA (p:jW):JI (lS p) 7 iK SA (zL p.d.b.2.1 p.d.c.2.1 p.d.c.b.1):=λ_ d K=>by kernel_rfl
theorem at9 (p:jW):D2 (lS p) oq Zm λb=>xA p.1 p.2.1 p.b.1 p.d.c.b.2 b:=λb=>by kernel_rfl
abbrev lT:jW:=(mP,Ca,pg,xi,pQ,ns,Cu,mC,Ac,kY,tl,zG,oS,zJ,oT,lR)
theorem aua [aA]:SC (Zn ot):=sc (kS (k:=lS lT) (.c apR (.c aOB (.c are (.c atQ (.c awW (.c adg (.c aLd (.c ZH (.c aHF (.c V0 (.nil _))))))))))) [8,11,18] [7,24,29] ⟨kL (aky lT),⟨kL (akv lT),⟨kL (akw lT),trivial⟩⟩⟩ ⟨kJ SB (akA lT),⟨kJ SD (akz lT),⟨kJ SE (akx lT),trivial⟩⟩⟩ (at9 lT))
end Go.Proofs.YtldgljclcgaibaaGreat
namespace Go.Proofs.YtldgljclcgaibaaGreat
open Go.Ab Go.Ab.Pg
theorem aUg (J:Int)(w:dI.B):∀(d:dI.B) (hd:0<=d.1.2.2.2.2/\d.1.2.2.2.2<=d.1.2.2.2.1/\d.1.2.2.2.1=((d.1.2.2.1:Nat):Int)/\d.1.2.2.2.1<=64/\((d.2.1.2.2.2.2.2.2.2.2.2.2.2.2.2.2.2.2:Nat):Int)+3*(d.1.2.2.2.1-d.1.2.2.2.2)<=J/\J<=90000/\bg d.1.1 6=true/\d.1.2.1=w.1.2.1/\d.2.2.2.2.2.1=w.2.2.2.2.2.1/\d.2.2.2.2.2.2.1=w.2.2.2.2.2.2.1/\d.2.2.2.2.2.2.2.1=w.2.2.2.2.2.2.2.1/\d.2.2.2.2.2.2.2.2.1=w.2.2.2.2.2.2.2.2.1/\d.2.2.2.2.2.2.2.2.2.1=w.2.2.2.2.2.2.2.2.2.1/\d.2.2.2.2.2.2.2.2.2.2.1=w.2.2.2.2.2.2.2.2.2.2.1/\d.2.2.2.2.2.2.2.2.2.2.2.2.1=w.2.2.2.2.2.2.2.2.2.2.2.2.1/\d.2.2.2.2.2.2.2.2.2.2.2.2.2.2.2.2.2.2.2.2.2.2.2.1=w.2.2.2.2.2.2.2.2.2.2.2.2.2.2.2.2.2.2.2.2.2.2.2.1/\d.2.1.2.2.2.2.1=w.2.1.2.2.2.2.1/\d.2.1.2.2.2.2.2.2.2.2.2.2.2.2.2.1=w.2.1.2.2.2.2.2.2.2.2.2.2.2.2.2.1/\d.2.2.2.2.2.2.2.2.2.2.2.2.2.2.1=w.2.2.2.2.2.2.2.2.2.2.2.2.2.2.1),Ok (tl d) (λx:jB=>((x.2.1.2.2.2.2.2.2.2.2.2.2.2.2.2.2.2.2:Nat):Int)<=J/\x.1.2.1=w.1.2.1/\x.2.2.2.2.2.1=w.2.2.2.2.2.1/\x.2.2.2.2.2.2.1=w.2.2.2.2.2.2.1/\x.2.2.2.2.2.2.2.1=w.2.2.2.2.2.2.2.1/\x.2.2.2.2.2.2.2.2.1=w.2.2.2.2.2.2.2.2.1/\x.2.2.2.2.2.2.2.2.2.1=w.2.2.2.2.2.2.2.2.2.1/\x.2.2.2.2.2.2.2.2.2.2.1=w.2.2.2.2.2.2.2.2.2.2.1/\x.2.2.2.2.2.2.2.2.2.2.2.2.1=w.2.2.2.2.2.2.2.2.2.2.2.2.1/\x.2.2.2.2.2.2.2.2.2.2.2.2.2.2.2.2.2.2.2.2.2.2.2.1=w.2.2.2.2.2.2.2.2.2.2.2.2.2.2.2.2.2.2.2.2.2.2.2.1/\x.2.1.2.2.2.2.1=w.2.1.2.2.2.2.1/\x.2.1.2.2.2.2.2.2.2.2.2.2.2.2.2.1=w.2.1.2.2.2.2.2.2.2.2.2.2.2.2.2.1/\x.2.2.2.2.2.2.2.2.2.2.2.2.2.2.1=w.2.2.2.2.2.2.2.2.2.2.2.2.2.2.1):=
 bV (λd:dI.B=>z4 (d.1.2.2.2.1-d.1.2.2.2.2)) (λd hd=>by
  obtain⟨i0,i1,i2,i3,i4,i5,i6,i7,ik⟩:=hd;have hw:wI (d.1.2.2.2.2+1)=d.1.2.2.2.2+1:=aZ;unfold zE;dsimp only;rw[aL];refine⟨λh=> ?_,λ_=>by rw[aw];exact⟨by show((d.2.1.2.2.2.2.2.2.2.2.2.2.2.2.2.2.2.2:Nat):Int)<=J;omega,i7,ik⟩⟩;have h:=db h;have r0:bg d.1.2.2.2.2 d.1.2.2.1=true:=by rw[bz];omega
  rw[r0,hw];simp only[aQ]
  repeat' (first
   |rw[aD]
   |(with_reducible refine ax (a0j _ ?_ ?_) λe _ he=> ?_)
   |(rw[tX];refine⟨λa ha=> ?_,λa ha=> ?_⟩))
  .exact i6
  .show d.2.1.2.2.2.2.2.2.2.2.2.2.2.2.2.2.2.2<=90000;omega
  .rw[ha] at he;have he:a.1.2.2.2.2.2.2.2.2.2.2.2.2.2.2.2.2<=d.2.1.2.2.2.2.2.2.2.2.2.2.2.2.2.2.2.2+3/\a.1.2.2.2.2.1=d.2.1.2.2.2.2.1/\a.1.2.2.2.2.2.2.2.2.2.2.2.2.2.1=d.2.1.2.2.2.2.2.2.2.2.2.2.2.2.2.1:=he;rw[aw];exact⟨⟨by show 0<=d.1.2.2.2.2+1;omega,by show d.1.2.2.2.2+1<=d.1.2.2.2.1;omega,i2,i3,by show((a.1.2.2.2.2.2.2.2.2.2.2.2.2.2.2.2.2:Nat):Int)+3*(d.1.2.2.2.1-(d.1.2.2.2.2+1))<=J;omega,i5,i6,i7,ik.1,ik.2.1,ik.2.2.1,ik.2.2.2.1,ik.2.2.2.2.1,ik.2.2.2.2.2.1,ik.2.2.2.2.2.2.1,ik.2.2.2.2.2.2.2.1,he.2.1.trans ik.2.2.2.2.2.2.2.2.1,he.2.2.trans ik.2.2.2.2.2.2.2.2.2.1,ik.2.2.2.2.2.2.2.2.2.2⟩,by show z4 (d.1.2.2.2.1-(d.1.2.2.2.2+1))<_;omega⟩
  .rw[ha] at he;have he:a.1.1.2.2.2.2.2.2.2.2.2.2.2.2.2.2.2.2<=d.2.1.2.2.2.2.2.2.2.2.2.2.2.2.2.2.2.2+3/\a.1.1.2.2.2.2.1=d.2.1.2.2.2.2.1/\a.1.1.2.2.2.2.2.2.2.2.2.2.2.2.2.1=d.2.1.2.2.2.2.2.2.2.2.2.2.2.2.2.1:=he;rw[aw];exact⟨⟨by show 0<=d.1.2.2.2.2+1;omega,by show d.1.2.2.2.2+1<=d.1.2.2.2.1;omega,i2,i3,by show((a.1.1.2.2.2.2.2.2.2.2.2.2.2.2.2.2.2.2:Nat):Int)+3*(d.1.2.2.2.1-(d.1.2.2.2.2+1))<=J;omega,i5,i6,i7,ik.1,ik.2.1,ik.2.2.1,ik.2.2.2.1,ik.2.2.2.2.1,ik.2.2.2.2.2.1,ik.2.2.2.2.2.2.1,ik.2.2.2.2.2.2.2.1,he.2.1.trans ik.2.2.2.2.2.2.2.2.1,he.2.2.trans ik.2.2.2.2.2.2.2.2.2.1,ik.2.2.2.2.2.2.2.2.2.2⟩,by show z4 (d.1.2.2.2.1-(d.1.2.2.2.2+1))<_;omega⟩) (λd hd=>by omega)
theorem a0l (d:dI.B)(a:d.1.2.2.2.2=0)(b:d.1.2.2.2.1=((d.1.2.2.1:Nat):Int))(c:d.1.2.2.1<=64)(k:bg d.1.1 6=true)(j:d.2.1.2.2.2.2.2.2.2.2.2.2.2.2.2.2.2.2<=80000):Ok (tl d) (λx:jB=>x.2.1.2.2.2.2.2.2.2.2.2.2.2.2.2.2.2.2<=d.2.1.2.2.2.2.2.2.2.2.2.2.2.2.2.2.2.2+3*d.1.2.2.1/\x.1.2.1=d.1.2.1/\x.2.2.2.2.2.1=d.2.2.2.2.2.1/\x.2.2.2.2.2.2.1=d.2.2.2.2.2.2.1/\x.2.2.2.2.2.2.2.1=d.2.2.2.2.2.2.2.1/\x.2.2.2.2.2.2.2.2.1=d.2.2.2.2.2.2.2.2.1/\x.2.2.2.2.2.2.2.2.2.1=d.2.2.2.2.2.2.2.2.2.1/\x.2.2.2.2.2.2.2.2.2.2.1=d.2.2.2.2.2.2.2.2.2.2.1/\x.2.2.2.2.2.2.2.2.2.2.2.2.1=d.2.2.2.2.2.2.2.2.2.2.2.2.1/\x.2.2.2.2.2.2.2.2.2.2.2.2.2.2.2.2.2.2.2.2.2.2.2.1=d.2.2.2.2.2.2.2.2.2.2.2.2.2.2.2.2.2.2.2.2.2.2.2.1/\x.2.1.2.2.2.2.1=d.2.1.2.2.2.2.1/\x.2.1.2.2.2.2.2.2.2.2.2.2.2.2.2.1=d.2.1.2.2.2.2.2.2.2.2.2.2.2.2.2.1/\x.2.2.2.2.2.2.2.2.2.2.2.2.2.2.1=d.2.2.2.2.2.2.2.2.2.2.2.2.2.2.1):=
 Ok.mono (aUg (((d.2.1.2.2.2.2.2.2.2.2.2.2.2.2.2.2.2.2:Nat):Int)+3*d.1.2.2.2.1) d d ⟨by omega,by omega,b,by omega,by omega,by omega,k,rfl,rfl,rfl,rfl,rfl,rfl,rfl,rfl,rfl,rfl,rfl,rfl⟩) λx hx=>⟨by have h:=hx.1;omega,hx.2⟩
theorem aUh (w d:eH.B)(W5:w.c.2.1.b.1<=64)(W6:w.c.b.1.b.1<=64)(W7:w.c.b.2.1.b.1<=64)(W8:w.d.1.b.1<=64)(W9:w.d.2.1.b.1<=64)(W10:w.d.b.1.b.1<=64)(hd:0<=d.1/\d.1<=6/\((d.2.1.d.c.b.2.2:Nat):Int)+192*(6-d.1)<=1152/\BR w.d.c.b.1.1 w.c.2.1 d.c.2.1/\BR w.d.c.b.1.1 w.c.b.1 d.c.b.1/\BR w.d.c.b.1.1 w.c.b.2.1 d.c.b.2.1/\BR w.d.c.b.1.1 w.d.1 d.d.1/\BR w.d.c.b.1.1 w.d.2.1 d.d.2.1/\BR w.d.c.b.1.1 w.d.b.1 d.d.b.1/\d.d.c.1=w.d.c.1/\d.e.c.b.1=w.e.c.b.1/\d.2.1.c.1=w.2.1.c.1/\d.2.1.d.c.2.1=w.2.1.d.c.2.1/\d.d.c.b.1.1=w.d.c.b.1.1):Ok (zJ d) (λx:jD=>x.2.1.d.c.b.2.2<=1152/\BR w.d.c.b.1.1 w.c.2.1 x.c.2.1/\BR w.d.c.b.1.1 w.c.b.1 x.c.b.1/\BR w.d.c.b.1.1 w.c.b.2.1 x.c.b.2.1/\BR w.d.c.b.1.1 w.d.1 x.d.1/\BR w.d.c.b.1.1 w.d.2.1 x.d.2.1/\BR w.d.c.b.1.1 w.d.b.1 x.d.b.1/\x.d.c.1=w.d.c.1/\x.e.c.b.1=w.e.c.b.1/\x.2.1.c.1=w.2.1.c.1/\x.2.1.d.c.2.1=w.2.1.d.c.2.1):=
 qG (s:=_) (λd:eH.B=>0<=d.1/\d.1<=6/\((d.2.1.d.c.b.2.2:Nat):Int)+192*(6-d.1)<=1152/\BR w.d.c.b.1.1 w.c.2.1 d.c.2.1/\BR w.d.c.b.1.1 w.c.b.1 d.c.b.1/\BR w.d.c.b.1.1 w.c.b.2.1 d.c.b.2.1/\BR w.d.c.b.1.1 w.d.1 d.d.1/\BR w.d.c.b.1.1 w.d.2.1 d.d.2.1/\BR w.d.c.b.1.1 w.d.b.1 d.d.b.1/\d.d.c.1=w.d.c.1/\d.e.c.b.1=w.e.c.b.1/\d.2.1.c.1=w.2.1.c.1/\d.2.1.d.c.2.1=w.2.1.d.c.2.1/\d.d.c.b.1.1=w.d.c.b.1.1) (λd:eH.B=>z4 (6-d.1)) (λx:jD=>x.2.1.d.c.b.2.2<=1152/\BR w.d.c.b.1.1 w.c.2.1 x.c.2.1/\BR w.d.c.b.1.1 w.c.b.1 x.c.b.1/\BR w.d.c.b.1.1 w.c.b.2.1 x.c.b.2.1/\BR w.d.c.b.1.1 w.d.1 x.d.1/\BR w.d.c.b.1.1 w.d.2.1 x.d.2.1/\BR w.d.c.b.1.1 w.d.b.1 x.d.b.1/\x.d.c.1=w.d.c.1/\x.e.c.b.1=w.e.c.b.1/\x.2.1.c.1=w.2.1.c.1/\x.2.1.d.c.2.1=w.2.1.d.c.2.1) (λd hd=>by
  obtain⟨i0,i1,i2,s5,s6,s7,s8,s9,ZP,i12,i22,i4,it,i14⟩:=hd;have hw:wI (d.1+1)=d.1+1:=aZ;unfold zI;dsimp only;rw[aL];refine⟨λh=> ?_,λ_=>by rw[aw];exact⟨by show d.2.1.d.c.b.2.2<=1152;omega,s5,s6,s7,s8,s9,ZP,i12,i22,i4,it⟩⟩;have h:=db h;have r0:bg d.1 6=true:=by rw[bz];omega
  rw[r0];simp only[aQ]
  repeat' (first
   |rw[aD]
   |(with_reducible refine ax (aT9 _ ?_) λe _ he=> ?_)
   |(with_reducible refine ax (a0l _ ?_ ?_ ?_ ?_ ?_) λy _ hy=> ?_)
   |(rw[aL];refine⟨λc=> ?_,λc=> ?_⟩))
  all_goals first
   |(rw[aw]
     obtain⟨p1,p2⟩:=he;have p2:=BR.mono (Int.le_of_eq i14) p2;obtain⟨y1,y2,hb5,hb6,hb7,hb8,hb9,a3M,h12,h23,h4,ht,hh⟩:=hy;have p1':e.1<=64:=by first|exact cQ p1 (cQ s5.len W5)|exact cQ p1 (cQ s6.len W6)|exact cQ p1 (cQ s7.len W7)|exact cQ p1 (cQ s8.len W8)|exact cQ p1 (cQ s9.len W9)|exact cQ p1 (cQ ZP.len W10)
     have y2:y.1.2.1=d.1:=y2;have y1:y.2.1.d.c.b.2.2<=d.2.1.d.c.b.2.2+3*e.1:=y1;have hw':wI (y.1.2.1+1)=d.1+1:=by rw[y2];exact hw
     exact⟨⟨by show 0<=wI (y.1.2.1+1);omega,by show wI (y.1.2.1+1)<=6;omega,by show((y.2.1.d.c.b.2.2:Nat):Int)+192*(6-wI (y.1.2.1+1))<=1152;omega,
    (by rw[show y.c.2.1=_ from hb5];first|exact s5|exact s5.trans p2),
    (by rw[show y.c.b.1=_ from hb6];first|exact s6|exact s6.trans p2),
    (by rw[show y.c.b.2.1=_ from hb7];first|exact s7|exact s7.trans p2),
    (by rw[show y.d.1=_ from hb8];first|exact s8|exact s8.trans p2),
    (by rw[show y.d.2.1=_ from hb9];first|exact s9|exact s9.trans p2),
    (by rw[show y.d.b.1=_ from a3M];first|exact ZP|exact ZP.trans p2),
    h12.trans i12,h23.trans i22,h4.trans i4,ht.trans it,(fe (λz=>z.1) hh).trans i14⟩,by show z4 (6-wI (y.1.2.1+1))<_;omega⟩)
   |rfl
   |exact r0
   |(show d.2.1.d.c.b.2.2<=80000
     omega)
   |(obtain⟨p1,p2⟩:=he
     first|exact cQ p1 (cQ s5.len W5)|exact cQ p1 (cQ s6.len W6)|exact cQ p1 (cQ s7.len W7)|exact cQ p1 (cQ s8.len W8)|exact cQ p1 (cQ s9.len W9)|exact cQ p1 (cQ ZP.len W10))
   |exact cQ s5.len (cQ W5 (by decide))
   |exact cQ s6.len (cQ W6 (by decide))
   |exact cQ s7.len (cQ W7 (by decide))
   |exact cQ s8.len (cQ W8 (by decide))
   |exact cQ s9.len (cQ W9 (by decide))
   |exact cQ ZP.len (cQ W10 (by decide))) 2000 d hd (by omega)
theorem aUi (w d:eG.B)(hd:0<=d.1/\d.1<=6/\d.2.1=w.2.1/\d.c.2.1=w.c.2.1/\d.c.b.1=w.c.b.1/\d.c.b.2.1=w.c.b.2.1/\d.d.1=w.d.1/\d.d.2.1=w.d.2.1/\d.d.b.1=w.d.b.1/\d.d.c.1=w.d.c.1/\d.e.c.b.2.1=w.e.c.b.2.1):Ok (zG d) (λx:jC=>x.2.1=w.2.1/\x.c.2.1=w.c.2.1/\x.c.b.1=w.c.b.1/\x.c.b.2.1=w.c.b.2.1/\x.d.1=w.d.1/\x.d.2.1=w.d.2.1/\x.d.b.1=w.d.b.1/\x.d.c.1=w.d.c.1/\x.e.c.b.2.1=w.e.c.b.2.1):=
 qG (s:=_) (λd:eG.B=>0<=d.1/\d.1<=6/\d.2.1=w.2.1/\d.c.2.1=w.c.2.1/\d.c.b.1=w.c.b.1/\d.c.b.2.1=w.c.b.2.1/\d.d.1=w.d.1/\d.d.2.1=w.d.2.1/\d.d.b.1=w.d.b.1/\d.d.c.1=w.d.c.1/\d.e.c.b.2.1=w.e.c.b.2.1) (λd:eG.B=>z4 (6-d.1)) (λx:jC=>x.2.1=w.2.1/\x.c.2.1=w.c.2.1/\x.c.b.1=w.c.b.1/\x.c.b.2.1=w.c.b.2.1/\x.d.1=w.d.1/\x.d.2.1=w.d.2.1/\x.d.b.1=w.d.b.1/\x.d.c.1=w.d.c.1/\x.e.c.b.2.1=w.e.c.b.2.1) (λd hd=>by
  obtain⟨i0,i1,ik⟩:=hd;have hw:wI (d.1+1)=d.1+1:=aZ;unfold zF;dsimp only;rw[aL];refine⟨λh=> ?_,λ_=>by rw[aw];exact ik⟩;have h:=db h;have r0:bg d.1 6=true:=by rw[bz];omega
  rw[r0,hw,bL];intro _ _;rw[aD]
  repeat' (first
   |(rw[aL];refine⟨λc=> ?_,λc=> ?_⟩))
  all_goals
   rw[aw];exact⟨⟨by show 0<=d.1+1;omega,by show d.1+1<=6;omega,ik⟩,by show z4 (6-(d.1+1))<_;omega⟩) 2000 d hd (by omega)
theorem aSV (d:iI.B)(h:d.d.b.2.1.2.2<=1999)(k:d.d.b.2.1.2.2<=d.e.c.2.1):Ok (oS d) (λx:lO=>match x with|.inl e=>e.c.2.1=d.c.1/\e.c.b.1=d.c.2.1/\e.c.b.2.1=d.c.b.1/\e.d.1=d.c.b.2.1/\e.d.2.1=d.d.1/\e.d.b.1=d.d.2.1/\e.d.c.1=d.d.b.2.1/\e.2.1.b.2.1=d.1.c.1/\e.2.1.d.b.2.1=d.1.d.c.2.1|.inr e=>e.c.2.1=d.c.1/\e.c.b.1=d.c.2.1/\e.c.b.2.1=d.c.b.1/\e.d.1=d.c.b.2.1/\e.d.2.1=d.d.1/\e.d.b.1=d.d.2.1/\e.d.c.1=d.d.b.2.1/\e.2.1.c.1=d.1.c.1/\e.2.1.d.c.1=d.1.d.c.2.1):=by
 unfold oS zH;try dsimp only
 show PQ _ _;rw[aL];refine⟨λ_=> ?_,λ_=>by rw[aw];exact⟨rfl,rfl,rfl,rfl,rfl,rfl,rfl,rfl,rfl⟩⟩;rw[aQ,aD];with_reducible refine ax (aOG _ ?_) λe _ he=> ?_
 .exact h
 have he:e.b.1=d.d.b.2.1.2.2:=he;have b1:(true&&z9 (e.b.1*11+0) (d.d.b.2.1.2.2*11)&&true)=true:=by rw[he,jH,aQ];rfl
 have b2:(true&&wl (0+(e.b.1*11+0)) (d.e.c.2.1*11+0))=true:=by rw[he,o8,ch];omega
 try dsimp only
 rw[b1,b2,aD,aD,aw];exact⟨rfl,rfl,rfl,rfl,rfl,rfl,rfl,rfl,rfl⟩
theorem aSW (d:iJ.B)(j:d.1.2.2.2.2.2.2.2.2.2.2.2.2.2.2.2.2<=1800)(h:d.2.2.2.2.2.2.2.2.2.2.2.1.2.2<=1999)(k:d.2.2.2.2.2.2.2.2.2.2.2.1.2.2<=d.2.2.2.2.2.2.2.2.2.2.2.2.2.2.2.2.2.2.2.2.2.2.1):Ok (oT d) (λx:lP=>match x with|.inl e=>e.2.2.2.2.2.1=d.2.2.2.2.1/\e.2.2.2.2.2.2.1=d.2.2.2.2.2.1/\e.2.2.2.2.2.2.2.1=d.2.2.2.2.2.2.1/\e.2.2.2.2.2.2.2.2.1=d.2.2.2.2.2.2.2.1/\e.2.2.2.2.2.2.2.2.2.1=d.2.2.2.2.2.2.2.2.1/\e.2.2.2.2.2.2.2.2.2.2.1=d.2.2.2.2.2.2.2.2.2.1/\e.2.2.2.2.2.2.2.2.2.2.2.2.1=d.2.2.2.2.2.2.2.2.2.2.2.1/\e.2.1.2.2.2.1=d.1.2.2.2.2.1/\e.2.1.2.2.2.2.2.2.2.2.2.2.2.1=d.1.2.2.2.2.2.2.2.2.2.2.2.2.2.1|.inr e=>e.2.2.2.2.2.1=d.2.2.2.2.1/\e.2.2.2.2.2.2.1=d.2.2.2.2.2.1/\e.2.2.2.2.2.2.2.1=d.2.2.2.2.2.2.1/\e.2.2.2.2.2.2.2.2.1=d.2.2.2.2.2.2.2.1/\e.2.2.2.2.2.2.2.2.2.1=d.2.2.2.2.2.2.2.2.1/\e.2.2.2.2.2.2.2.2.2.2.1=d.2.2.2.2.2.2.2.2.2.1/\e.2.2.2.2.2.2.2.2.2.2.2.2.1=d.2.2.2.2.2.2.2.2.2.2.2.1/\e.2.1.2.2.2.2.1=d.1.2.2.2.2.1/\e.2.1.2.2.2.2.2.2.2.2.2.2.2.2.1=d.1.2.2.2.2.2.2.2.2.2.2.2.2.2.1):=by
 unfold oT zK;try dsimp only
 show PQ _ _;simp only[aQ];have b3:wl ((1+d.1.2.2.2.2.2.2.2.2.2.2.2.2.2.2.2.2)*80) 140737488355328=true:=by rw[ch];omega
 rw[bL];intro _ _;rw[aL];refine⟨λ_=> ?_,λ_=> ?_⟩
 .rw[aD,aD];with_reducible refine ax (aT7 _ ?_ ?_) λe _ he=> ?_
  .show d.1.2.2.2.2.2.2.2.2.2.2.2.2.2.2.2.2<=1999;omega
  .exact h
  have he:e.2.1=d.2.2.2.2.2.2.2.2.2.2.2.1.2.2:=he;have b1:(true&&z9 (e.2.1*11+0) (d.2.2.2.2.2.2.2.2.2.2.2.1.2.2*11)&&true)=true:=by rw[he,jH,aQ];rfl
  have b2:(true&&wl (0+(e.2.1*11+0)) (d.2.2.2.2.2.2.2.2.2.2.2.2.2.2.2.2.2.2.2.2.2.2.1*11+0))=true:=by rw[he,o8,ch];omega
  rw[b1,b2,b3,aD,aD,aD,aD];with_reducible refine ax (bp.Ok (Q:=λ_=>True) (aHK _ _ _ _ _ _ _ _ _ _ _ _ _ ?_) λ_ _=>trivial) λe3 _ _=> ?_
  .omega
  simp only[aD];with_reducible refine ax (aSV _ ?_ ?_) λy _ hy=> ?_
  .exact h
  .exact k
  rw[tw];refine⟨λa ha=> ?_,λa ha=> ?_⟩
  .rw[aw];rw[ha] at hy;exact hy
  .rw[aw];rw[ha] at hy;exact hy
 .simp only[aD];with_reducible refine ax (aSV _ ?_ ?_) λy _ hy=> ?_
  .exact h
  .exact k
  rw[tw];refine⟨λa ha=> ?_,λa ha=> ?_⟩
  .rw[aw];rw[ha] at hy;exact hy
  .rw[aw];rw[ha] at hy;exact hy
theorem aL7 (d:iK.B)(j:d.1.2.2.2.2.2.2.2.2.2.2.2.2.2.2.2.2=0)(l4:d.2.2.2.2.1.2.2.1<=64)(l5:d.2.2.2.2.2.1.2.2.1<=64)(l6:d.2.2.2.2.2.2.1.2.2.1<=64)(l7:d.2.2.2.2.2.2.2.1.2.2.1<=64)(l8:d.2.2.2.2.2.2.2.2.1.2.2.1<=64)(l9:d.2.2.2.2.2.2.2.2.2.1.2.2.1<=64)(h:d.2.2.2.2.2.2.2.2.2.2.2.1.2.2<=1999)(k:d.2.2.2.2.2.2.2.2.2.2.2.1.2.2<=d.2.2.2.2.2.2.2.2.2.2.2.2.2.2.2.2.2.2.2.2.2.1):Ok (lR d) (λx:lQ=>match x with|.inl e=>BR d.2.2.2.2.2.2.2.2.2.2.2.2.2.1.1 d.2.2.2.2.1 e.2.2.2.2.2.1/\BR d.2.2.2.2.2.2.2.2.2.2.2.2.2.1.1 d.2.2.2.2.2.1 e.2.2.2.2.2.2.1/\BR d.2.2.2.2.2.2.2.2.2.2.2.2.2.1.1 d.2.2.2.2.2.2.1 e.2.2.2.2.2.2.2.1/\BR d.2.2.2.2.2.2.2.2.2.2.2.2.2.1.1 d.2.2.2.2.2.2.2.1 e.2.2.2.2.2.2.2.2.1/\BR d.2.2.2.2.2.2.2.2.2.2.2.2.2.1.1 d.2.2.2.2.2.2.2.2.1 e.2.2.2.2.2.2.2.2.2.1/\BR d.2.2.2.2.2.2.2.2.2.2.2.2.2.1.1 d.2.2.2.2.2.2.2.2.2.1 e.2.2.2.2.2.2.2.2.2.2.1/\e.2.2.2.2.2.2.2.2.2.2.2.2.1=d.2.2.2.2.2.2.2.2.2.2.2.1/\e.2.1.2.2.2.1=d.1.2.2.2.2.1/\e.2.1.2.2.2.2.2.2.2.2.2.2.2.1=d.1.2.2.2.2.2.2.2.2.2.2.2.2.2.1|.inr e=>BR d.2.2.2.2.2.2.2.2.2.2.2.2.2.1.1 d.2.2.2.2.1 e.2.2.2.2.2.1/\BR d.2.2.2.2.2.2.2.2.2.2.2.2.2.1.1 d.2.2.2.2.2.1 e.2.2.2.2.2.2.1/\BR d.2.2.2.2.2.2.2.2.2.2.2.2.2.1.1 d.2.2.2.2.2.2.1 e.2.2.2.2.2.2.2.1/\BR d.2.2.2.2.2.2.2.2.2.2.2.2.2.1.1 d.2.2.2.2.2.2.2.1 e.2.2.2.2.2.2.2.2.1/\BR d.2.2.2.2.2.2.2.2.2.2.2.2.2.1.1 d.2.2.2.2.2.2.2.2.1 e.2.2.2.2.2.2.2.2.2.1/\BR d.2.2.2.2.2.2.2.2.2.2.2.2.2.1.1 d.2.2.2.2.2.2.2.2.2.1 e.2.2.2.2.2.2.2.2.2.2.1/\e.2.2.2.2.2.2.2.2.2.2.2.2.1=d.2.2.2.2.2.2.2.2.2.2.2.1/\e.2.1.2.2.2.2.1=d.1.2.2.2.2.1/\e.2.1.2.2.2.2.2.2.2.2.2.2.2.2.1=d.1.2.2.2.2.2.2.2.2.2.2.2.2.2.1):=by
 unfold lR zL;try dsimp only
 show PQ _ _;simp only[aQ];simp only[aD];refine ax (aUh _ _ l4 l5 l6 l7 l8 l9 ⟨dW 0,(show(0:Int)<=6 by decide),(by show((d.1.2.2.2.2.2.2.2.2.2.2.2.2.2.2.2.2:Nat):Int)+192*(6-0)<=1152;omega),BR.refl _ _,BR.refl _ _,BR.refl _ _,BR.refl _ _,BR.refl _ _,BR.refl _ _,rfl,rfl,rfl,rfl,rfl⟩) λa _ ha=> ?_;obtain⟨u1,u5,u6,u7,u8,u9,u10,u12,u22,u4,ut⟩:=ha;simp only[aD];refine ax (aUi _ _ ⟨dW 0,(show(0:Int)<=6 by decide),rfl,rfl,rfl,rfl,rfl,rfl,rfl,rfl,rfl⟩) λb _ hb=> ?_;obtain⟨g1,g5,g6,g7,g8,g9,g10,g12,g23⟩:=hb;rw[aL];refine⟨λ_=> ?_,λ_=> ?_⟩
 .simp only[aD];with_reducible refine ax (aSW _ ?_ ?_ ?_) λy _ hy=> ?_
  .show b.2.1.2.2.2.2.2.2.2.2.2.2.2.2.2.2.2.2<=1800;rw[g1];exact cQ u1 (by decide)
  .show b.2.2.2.2.2.2.2.2.2.2.2.2.1.2.2<=1999;rw[g12];show a.2.2.2.2.2.2.2.2.2.2.2.2.1.2.2<=1999;rw[u12];exact h
  .show b.2.2.2.2.2.2.2.2.2.2.2.2.1.2.2<=b.2.2.2.2.2.2.2.2.2.2.2.2.2.2.2.2.2.2.2.2.2.2.2.1;rw[g12,g23];show a.2.2.2.2.2.2.2.2.2.2.2.2.1.2.2<=a.2.2.2.2.2.2.2.2.2.2.2.2.2.2.2.2.2.2.2.2.2.2.1;rw[u12,u22];exact k
  rw[tw];refine⟨λa1 ha=> ?_,λa1 ha=> ?_⟩
  .rw[aw];rw[ha] at hy;obtain⟨q5,q6,q7,q8,q9,q10,Uq,q4,qt⟩:=hy;exact⟨(by rw[q5];show BR _ _ b.2.2.2.2.2.1;rw[g5];exact u5),(by rw[q6];show BR _ _ b.2.2.2.2.2.2.1;rw[g6];exact u6),(by rw[q7];show BR _ _ b.2.2.2.2.2.2.2.1;rw[g7];exact u7),(by rw[q8];show BR _ _ b.2.2.2.2.2.2.2.2.1;rw[g8];exact u8),(by rw[q9];show BR _ _ b.2.2.2.2.2.2.2.2.2.1;rw[g9];exact u9),(by rw[q10];show BR _ _ b.2.2.2.2.2.2.2.2.2.2.1;rw[g10];exact u10),Uq.trans (g12.trans u12),q4.trans ((fe (λz=>z.2.2.2.2.1) g1).trans u4),qt.trans ((fe (λz=>z.2.2.2.2.2.2.2.2.2.2.2.2.2.1) g1).trans ut)⟩
  .rw[aw];rw[ha] at hy;obtain⟨q5,q6,q7,q8,q9,q10,Uq,q4,qt⟩:=hy;exact⟨(by rw[q5];show BR _ _ b.2.2.2.2.2.1;rw[g5];exact u5),(by rw[q6];show BR _ _ b.2.2.2.2.2.2.1;rw[g6];exact u6),(by rw[q7];show BR _ _ b.2.2.2.2.2.2.2.1;rw[g7];exact u7),(by rw[q8];show BR _ _ b.2.2.2.2.2.2.2.2.1;rw[g8];exact u8),(by rw[q9];show BR _ _ b.2.2.2.2.2.2.2.2.2.1;rw[g9];exact u9),(by rw[q10];show BR _ _ b.2.2.2.2.2.2.2.2.2.2.1;rw[g10];exact u10),Uq.trans (g12.trans u12),q4.trans ((fe (λz=>z.2.2.2.2.1) g1).trans u4),qt.trans ((fe (λz=>z.2.2.2.2.2.2.2.2.2.2.2.2.2.1) g1).trans ut)⟩
 .simp only[aD];with_reducible refine ax (aSW _ ?_ ?_ ?_) λy _ hy=> ?_
  .show b.2.1.2.2.2.2.2.2.2.2.2.2.2.2.2.2.2.2<=1800;rw[g1];exact cQ u1 (by decide)
  .show b.2.2.2.2.2.2.2.2.2.2.2.2.1.2.2<=1999;rw[g12];show a.2.2.2.2.2.2.2.2.2.2.2.2.1.2.2<=1999;rw[u12];exact h
  .show b.2.2.2.2.2.2.2.2.2.2.2.2.1.2.2<=b.2.2.2.2.2.2.2.2.2.2.2.2.2.2.2.2.2.2.2.2.2.2.2.1;rw[g12,g23];show a.2.2.2.2.2.2.2.2.2.2.2.2.1.2.2<=a.2.2.2.2.2.2.2.2.2.2.2.2.2.2.2.2.2.2.2.2.2.2.1;rw[u12,u22];exact k
  rw[tw];refine⟨λa1 ha=> ?_,λa1 ha=> ?_⟩
  .rw[aw];rw[ha] at hy;obtain⟨q5,q6,q7,q8,q9,q10,Uq,q4,qt⟩:=hy;exact⟨(by rw[q5];show BR _ _ b.2.2.2.2.2.1;rw[g5];exact u5),(by rw[q6];show BR _ _ b.2.2.2.2.2.2.1;rw[g6];exact u6),(by rw[q7];show BR _ _ b.2.2.2.2.2.2.2.1;rw[g7];exact u7),(by rw[q8];show BR _ _ b.2.2.2.2.2.2.2.2.1;rw[g8];exact u8),(by rw[q9];show BR _ _ b.2.2.2.2.2.2.2.2.2.1;rw[g9];exact u9),(by rw[q10];show BR _ _ b.2.2.2.2.2.2.2.2.2.2.1;rw[g10];exact u10),Uq.trans (g12.trans u12),q4.trans ((fe (λz=>z.2.2.2.2.1) g1).trans u4),qt.trans ((fe (λz=>z.2.2.2.2.2.2.2.2.2.2.2.2.2.1) g1).trans ut)⟩
  .rw[aw];rw[ha] at hy;obtain⟨q5,q6,q7,q8,q9,q10,Uq,q4,qt⟩:=hy;exact⟨(by rw[q5];show BR _ _ b.2.2.2.2.2.1;rw[g5];exact u5),(by rw[q6];show BR _ _ b.2.2.2.2.2.2.1;rw[g6];exact u6),(by rw[q7];show BR _ _ b.2.2.2.2.2.2.2.1;rw[g7];exact u7),(by rw[q8];show BR _ _ b.2.2.2.2.2.2.2.2.1;rw[g8];exact u8),(by rw[q9];show BR _ _ b.2.2.2.2.2.2.2.2.2.1;rw[g9];exact u9),(by rw[q10];show BR _ _ b.2.2.2.2.2.2.2.2.2.2.1;rw[g10];exact u10),Uq.trans (g12.trans u12),q4.trans ((fe (λz=>z.2.2.2.2.1) g1).trans u4),qt.trans ((fe (λz=>z.2.2.2.2.2.2.2.2.2.2.2.2.2.1) g1).trans ut)⟩
theorem aYR (N:Nat)(h1:1<=N)(hN:N<=1999)(x:oq.B)(hs:x.2.2.2.2.2.2.2.2.2.2.2.2.1.1<=(N:Int))(hl:x.2.2.2.2.2.2.2.2.2.2.2.2.1.2.2<=N)(hq:x.2.1.2.2.2.2.1<=1999)(l5:x.2.2.2.2.2.1.2.2.1<=64)(l6:x.2.2.2.2.2.2.1.2.2.1<=64)(l7:x.2.2.2.2.2.2.2.1.2.2.1<=64)(l8:x.2.2.2.2.2.2.2.2.1.2.2.1<=64)(l9:x.2.2.2.2.2.2.2.2.2.1.2.2.1<=64)(l10:x.2.2.2.2.2.2.2.2.2.2.1.2.2.1<=64):Ok (ot x) (λr:rB=>BR x.1.1 x.2.2.2.2.2.1 r.1.2.1/\BR x.1.1 x.2.2.2.2.2.2.1 r.1.2.2.1/\BR x.1.1 x.2.2.2.2.2.2.2.1 r.1.2.2.2.1/\BR x.1.1 x.2.2.2.2.2.2.2.2.1 r.1.2.2.2.2.1/\BR x.1.1 x.2.2.2.2.2.2.2.2.2.1 r.1.2.2.2.2.2.1/\BR x.1.1 x.2.2.2.2.2.2.2.2.2.2.1 r.1.2.2.2.2.2.2.1/\r.1.2.2.2.2.2.2.2.2.1=x.2.2.2.2.2.2.2.2.2.2.2.2.1.1/\r.1.2.2.2.2.2.2.2.2.2.2<=N/\r.1.1.2.2.2.2.1=x.2.1.2.2.2.2.1/\r.1.1.2.2.2.2.2.2.2.2.2.2.2.2.2.1=x.1.1):=by
 unfold ot xA;try dsimp only
 show PQ _ _;simp only[aQ];rw[aL];refine⟨λ_=> ?_,λ_=> ?_⟩
 .simp only[aD];with_reducible refine ax (aUe N h1 hN _ ?_ ?_) λe _ he=> ?_
  .exact hs
  .exact hq
  rw[tX];refine⟨λb hb=> ?_,λb hb=> ?_⟩
  .rw[hb] at he;obtain⟨e1,e2,e4,et⟩:=he;have e1:b.2=x.2.2.2.2.2.2.2.2.2.2.2.2.1:=e1;simp only[aD];with_reducible refine ax (aL7 _ ?_ ?_ ?_ ?_ ?_ ?_ ?_ ?_ ?_) λy _ hy=> ?_
   .exact e2
   .exact l5
   .exact l6
   .exact l7
   .exact l8
   .exact l9
   .exact l10
   .show b.2.2.2<=1999;rw[e1];omega
   .show b.2.2.2<=x.2.2.2.2.2.2.2.2.2.2.2.2.1.2.2;rw[e1];exact cR _
   rw[tw];refine⟨λa ha=> ?_,λa ha=> ?_⟩
   .rw[ha] at hy;obtain⟨s5,s6,s7,s8,s9,ZP,Uq,q4,qt⟩:=hy;rw[aw];exact⟨s5,s6,s7,s8,s9,ZP,(by show a.2.2.2.2.2.2.2.2.2.2.2.2.1.1=x.2.2.2.2.2.2.2.2.2.2.2.2.1.1;rw[Uq];show b.2.1=_;rw[e1]),(by show a.2.2.2.2.2.2.2.2.2.2.2.2.1.2.2<=N;rw[Uq];show b.2.2.2<=N;rw[e1];exact hl),q4.trans e4,qt.trans et⟩
   .rw[ha] at hy;obtain⟨s5,s6,s7,s8,s9,ZP,Uq,q4,qt⟩:=hy;rw[aw];exact⟨s5,s6,s7,s8,s9,ZP,(by show a.2.2.2.2.2.2.2.2.2.2.2.2.1.1=x.2.2.2.2.2.2.2.2.2.2.2.2.1.1;rw[Uq];show b.2.1=_;rw[e1]),(by show a.2.2.2.2.2.2.2.2.2.2.2.2.1.2.2<=N;rw[Uq];show b.2.2.2<=N;rw[e1];exact hl),q4.trans e4,qt.trans et⟩
  .rw[hb] at he;obtain⟨e1,e2,e3,e4,e5,et⟩:=he;have e2:b.1.2.1=x.2.2.2.2.2.2.2.2.2.2.2.2.1.1:=e2;simp only[aD];with_reducible refine ax (aL7 _ ?_ ?_ ?_ ?_ ?_ ?_ ?_ ?_ ?_) λy _ hy=> ?_
   .exact e4
   .exact l5
   .exact l6
   .exact l7
   .exact l8
   .exact l9
   .exact l10
   .show b.1.2.2.2<=1999;omega
   .exact e3
   rw[tw];refine⟨λa ha=> ?_,λa ha=> ?_⟩
   .rw[ha] at hy;obtain⟨s5,s6,s7,s8,s9,ZP,Uq,q4,qt⟩:=hy;rw[aw];exact⟨s5,s6,s7,s8,s9,ZP,(by show a.2.2.2.2.2.2.2.2.2.2.2.2.1.1=x.2.2.2.2.2.2.2.2.2.2.2.2.1.1;rw[Uq];exact e2),(by show a.2.2.2.2.2.2.2.2.2.2.2.2.1.2.2<=N;rw[Uq];exact e1),q4.trans e5,qt.trans et⟩
   .rw[ha] at hy;obtain⟨s5,s6,s7,s8,s9,ZP,Uq,q4,qt⟩:=hy;rw[aw];exact⟨s5,s6,s7,s8,s9,ZP,(by show a.2.2.2.2.2.2.2.2.2.2.2.2.1.1=x.2.2.2.2.2.2.2.2.2.2.2.2.1.1;rw[Uq];exact e2),(by show a.2.2.2.2.2.2.2.2.2.2.2.2.1.2.2<=N;rw[Uq];exact e1),q4.trans e5,qt.trans et⟩
 .rw[bL];intro _ _;rw[bL];intro _ _;simp only[aD];with_reducible refine ax (aL7 _ ?_ ?_ ?_ ?_ ?_ ?_ ?_ ?_ ?_) λy _ hy=> ?_
  .rfl
  .exact l5
  .exact l6
  .exact l7
  .exact l8
  .exact l9
  .exact l10
  .show x.2.2.2.2.2.2.2.2.2.2.2.2.1.2.2<=1999;omega
  .exact cR _
  rw[tw];refine⟨λa ha=> ?_,λa ha=> ?_⟩
  .rw[ha] at hy;obtain⟨s5,s6,s7,s8,s9,ZP,Uq,q4,qt⟩:=hy;rw[aw];exact⟨s5,s6,s7,s8,s9,ZP,(by show a.2.2.2.2.2.2.2.2.2.2.2.2.1.1=x.2.2.2.2.2.2.2.2.2.2.2.2.1.1;rw[Uq];done),(by show a.2.2.2.2.2.2.2.2.2.2.2.2.1.2.2<=N;rw[Uq];exact hl),q4.trans rfl,qt.trans rfl⟩
  .rw[ha] at hy;obtain⟨s5,s6,s7,s8,s9,ZP,Uq,q4,qt⟩:=hy;rw[aw];exact⟨s5,s6,s7,s8,s9,ZP,(by show a.2.2.2.2.2.2.2.2.2.2.2.2.1.1=x.2.2.2.2.2.2.2.2.2.2.2.2.1.1;rw[Uq];done),(by show a.2.2.2.2.2.2.2.2.2.2.2.2.1.2.2<=N;rw[Uq];exact hl),q4.trans rfl,qt.trans rfl⟩
abbrev Ur (x:Int):Prop:= -1152921504606846976<=x/\x<=1152921504606846976
abbrev Dr (x:Int):Prop:=1<=x/\x<=72057594037927936
def xJ (v:(Nat->Int)×(Nat->Int)):Prop:=(∀j,j<276->Ur (v.1 j))/\(∀j,j<24->Dr (v.2 j))
theorem xJ.of {u v:Nat->Int}(h:∀j,j<276->Ur (u j))(k:∀j,j<24->Dr (v j)):xJ (u,v):=⟨h,k⟩
theorem aDs {P:Int->Prop}{m:Nat}{v:Nat->Int}{k:Nat}{x:Int}(h:∀j,j<m->P (v j))(hx:P x):∀j,j<m->P (bif z9 j k then x else v j):=by
 intro j hj;cases z9 j k
 .exact h j hj
 .exact hx
theorem afk (x0 x1 x2:Int)(x3:Bool)(h:x1<=x2):Po (aY x0 x1 x2 x3) (λr=>x1<=r.1/\r.1<=x2):=by
 unfold aY tY;show PW _ _;simp only[bD,ba,jG,Ot];omega
theorem a2d (x0:Int)(x1:Bool):Po (aP x0 x1) (λr=>Ur r.1):=by
 unfold aP Qo;show PW _ _;refine aK (afk _ _ _ _ (by decide)) λd _ hd=> ?_;rw[ba];exact hd
theorem aSX (x0:Bool):Po (nS x0) (λr:Int=>Ur r):=by
 unfold nS OM;show PW _ _;simp only[bD,ba];exact⟨λ_=>by decide,λ_=>by decide⟩
theorem aYS (x0:Int)(x1 x2 x3:Bool):Po (kl x0 x1 x2 x3) (λr=>Ur r.1):=by
 unfold kl Ec;show PW _ _;rw[bD];refine⟨λ_=>aK (aSX _) λd _ hd=> ?_,λ_=>aK (a2d _ _) λd _ hd=> ?_⟩;all_goals rw[ba];exact hd
theorem a3N (x0 x1 x2:Int)(x3:Bool):Po (rN x0 x1 x2 x3) (λr=>Ur r.1):=by
 unfold rN GS;show PW _ _;try dsimp only
 repeat' (first
  |(with_reducible refine aK (aSX _) λe _ he=> ?_)
  |(with_reducible refine aK (aYS _ _ _ _) λe _ he=> ?_)
  |(rw[bQ];intro _ _)
  |(rw[bD];refine⟨λ_=> ?_,λ_=> ?_⟩))
 all_goals (rw[ba];first|exact he|(show Ur 0;decide))
theorem a2e (x0 x1 x2:Int)(x3:Bool):Po (bk x0 x1 x2 x3) (λr=>Ur r.1):=by
 unfold bk IH;show PW _ _;try dsimp only
 repeat' (first
  |(with_reducible refine aK (a3N _ _ _ _) λe _ he=> ?_)
  |(rw[bQ];intro _ _)
  |(rw[bD];refine⟨λ_=> ?_,λ_=> ?_⟩))
 all_goals (rw[ba];first|exact he|(show Ur 0;decide))
theorem a2f (x0:Nat)(x1:Bool)(x2:Nat->Int)(w0:Bool):Po (cJ x0 x1 x2 w0) (λr=>Ur r.1):=by
 unfold cJ Qy;show PW _ _;try dsimp only
 repeat' (first
  |(rw[du];exact trivial)
  |(with_reducible refine aK (aYS _ _ _ _) λe _ he=> ?_)
  |(rw[bQ];intro _ _)
  |(rw[bD];refine⟨λ_=> ?_,λ_=> ?_⟩))
 all_goals (rw[ba];exact he)
theorem aBQ (x0:Int)(x1:Bool):Po (kc x0 x1) (λr=>Dr r.1):=by
 unfold kc DJ;show PW _ _;refine aK (afk _ _ _ _ (by decide)) λd _ hd=> ?_;rw[ba];exact hd
theorem aYT (x0 x1:Nat->Int)(x2 x3 x4:Int)(h:∀j,j<276->Ur (x0 j))(k:Ur x4):Po (ua x0 x1 x2 x3 x4) (λr=>(∀j,j<276->Ur (r.1 j))/\r.2=x1):=by
 unfold ua Xl;show PW _ _;try dsimp only
 rw[bQ];intro d _
 repeat' (first
  |(rw[du];exact trivial)
  |(rw[bD];refine⟨λ_=> ?_,λ_=> ?_⟩))
 .rw[ba];exact⟨aDs h k,rfl⟩
 .rw[ba];exact⟨h,rfl⟩
theorem aC6:∀(d:fG.B) (hd:xJ d.b.1),Po (wu d) (λx:nT=>xJ x.b.1):=
 qH (λd hd=>by
  unfold wq;try dsimp only
  repeat' (first
   |(rw[du];exact trivial)
   |(with_reducible refine aK (aBQ _ _) λe _ he=> ?_)
   |(rw[bD];refine⟨λ_=> ?_,λ_=> ?_⟩))
  .rw[ba];exact⟨hd.1,aDs hd.2 he⟩
  .rw[ba];exact hd)
theorem aC7:∀(d:fH.B) (hd:xJ d.b.1),Po (wy d) (λx:nU=>xJ x.b.1):=
 qH (λd hd=>by
  unfold wx;try dsimp only
  repeat' (first
   |(rw[du];exact trivial)
   |(with_reducible refine aK (afk _ _ _ _ (by decide)) λe _ he=> ?_)
   |(rw[bD];refine⟨λ_=> ?_,λ_=> ?_⟩))
  .rw[ba];exact⟨aDs hd.1 he,hd.2⟩
  .rw[ba];exact hd)
theorem awY (x0 x1:Nat->Int)(x2:Bool)(h:xJ (x0,x1)):Po (fS x0 x1 x2) (λr=>xJ r.1):=by
 unfold fS Bl;show PW _ _;refine aK (aC6 _ (by exact h)) λd _ hd=> ?_;refine aK (aC7 _ (by exact hd)) λe _ he=> ?_;rw[ba];exact he
theorem aGB (j:Int)(v:(Nat->Int)×(Nat->Int)):∀(d:eQ.B) (hd:d.1.1=j/\d.c.2.1=v),Po (wG d) (λx:lF=>x.1.1=j/\x.c.2.1=v):=
 qH (λd hd=>by
  unfold wF;try dsimp only
  try dsimp only
  repeat' (first
   |(rw[du];exact trivial)
   |(rw[bQ];intro _ _)
   |(rw[bD];refine⟨λ_=> ?_,λ_=> ?_⟩))
  all_goals (rw[ba];exact hd))
theorem aGC (j:Int)(v:(Nat->Int)×(Nat->Int)):∀(d:eR.B) (hd:d.1.1=j/\d.c.2.1=v),Po (wJ d) (λx:lG=>x.1.1=j/\x.c.2.1=v):=
 qH (λd hd=>by
  unfold wH;try dsimp only
  try dsimp only
  repeat' (first
   |(rw[du];exact trivial)
   |(rw[bQ];intro _ _)
   |(rw[bD];refine⟨λ_=> ?_,λ_=> ?_⟩))
  all_goals (rw[ba];exact hd))
theorem aGD (j:Int)(v:Nat->Int):∀(d:eS.B) (hd:d.1.1=j/\(∀k,k<276->Ur (d.c.2.1.1 k))/\d.c.2.1.2=v),Po (wL d) (λx:od=>x.1.1=j/\(∀k,k<276->Ur (x.c.2.1.1 k))/\x.c.2.1.2=v):=
 qH (λd hd=>by
  unfold wK;try dsimp only
  try dsimp only
  repeat' (first
   |(rw[du];exact trivial)
   |(with_reducible refine aK (a2e _ _ _ _) λe _ he=> ?_)
   |(with_reducible refine aK (aYT _ _ _ _ _ hd.2.1 he) λq _ hq=> ?_)
   |(with_reducible refine aK (aGC j q _ ⟨hd.1,rfl⟩) λw _ hw=> ?_)
   |(rw[bQ];intro _ _)
   |(rw[bD];refine⟨λ_=> ?_,λ_=> ?_⟩))
  .rw[ba];obtain⟨w1,w2⟩:=hw;exact⟨w1,by rw[show _=q from w2];exact hq.1,by rw[show _=q from w2];exact hq.2.trans hd.2.2⟩
  .rw[ba];exact hd)
theorem aGE:∀(d:fO.B) (hd:d.1<=23/\ -1<=d.1/\(∀k,k<276->Ur (d.c.2.1 k))/\(∀k:Nat,d.1<(k:Int)->k<24->Dr (d.c.2.2 k))),Po (wN d) (λx:oe=>xJ x.c.2):=
 qH (λd hd=>by
  unfold wM;try dsimp only
  try dsimp only
  obtain⟨i0,i1,i2,i3⟩:=hd;rw[bD];refine⟨λh=> ?_,λh=> ?_⟩
  .have h:=db h;have hw:wI (d.1-1)=d.1-1:=dS;with_reducible refine aK (aGB d.1 d.c.2 _ ⟨rfl,rfl⟩) λa _ ha=> ?_
   obtain⟨a1,a2⟩:=ha;try dsimp only
   repeat' (first
    |(rw[du];exact trivial)
    |(with_reducible refine aK (afk _ 1 72057594037927936 _ (by decide)) λe _ he=> ?_)
    |(with_reducible refine aK (aGD a.1.1 _ _ ⟨rfl,by rw[a2];exact i2,rfl⟩) λw _ hw=> ?_)
    |(rw[bQ];intro _ _)
    |(rw[bD];refine⟨λ_=> ?_,λ_=> ?_⟩))
   rw[ba];obtain⟨w1,w2,w3⟩:=hw;have w1:w.1.1=d.1:=w1.trans a1;show wI (w.1.1-1)<=23/\ -1<=wI (w.1.1-1)/\(∀k,k<276->Ur (w.c.2.1.1 k))/\(∀k:Nat,wI (w.1.1-1)<(k:Int)->k<24->Dr (w.c.2.1.2 k));rw[w1,hw,w3];refine⟨by omega,by omega,w2,λk hk h24=> ?_⟩;show Dr (bif z9 k (z4 a.1.1) then e.1 else a.c.2.1.2 k);cases hb:z9 k (z4 a.1.1) with
   |true=>exact he
   |false=>
    rw[a2];have nb:k≠z4 a.1.1:=λh=>by rw[h,FE] at hb;cases hb
    have a1:a.1.1=d.1:=a1;rw[a1] at nb;exact i3 k (by omega) h24
  .have h:=kD h;rw[ba];exact⟨i2,λk hk=>i3 k (by omega) hk⟩)
theorem aBR (x0 x1 x2 x3:Nat->Int)(x4:Bool):Po (gI x0 x1 x2 x3 x4) (λr=>xJ r.1):=by
 unfold gI Bq;show PW _ _;rw[bQ];intro _ _;rw[bQ];intro _ _;rw[bQ];intro _ _;refine aK (aGE _ ⟨(show(23:Int)<=23 by decide),(show(-1:Int)<=23 by decide),λk _=>(show Ur 0 by decide),λk h1 h2=>absurd (show(23:Int)<k from h1) (by omega)⟩) λe _ he=> ?_;rw[ba];exact he
theorem aoy (x0 x1:Nat->Int)(x2:Int)(x3:Nat)(x4:Bool)(x5:Nat->Int)(w0:Bool):Po (cM x0 x1 x2 x3 x4 x5 w0) (λr=>xJ r.1):=by
 unfold cM FY;show PW _ _;rw[bQ];intro _ _;rw[bD];refine⟨λ_=> ?_,λ_=>by rw[du];exact trivial⟩;rw[bQ];intro _ _;refine aK (aBR _ _ _ _ _) λe _ he=> ?_;rw[ba];exact he
theorem aRm:∀(d:jN.B) (hd:xJ (d.b.2.1,d.c.1)),Po (EW d) (λx:tD=>xJ (x.b.2.1,x.c.1)):=
 qH (λd hd=>by
  unfold EV;try dsimp only
  repeat' (first
   |(rw[du];exact trivial)
   |(rw[bQ];intro _ _)
   |(rw[bD];refine⟨λ_=> ?_,λ_=> ?_⟩))
  all_goals (rw[ba];exact hd))
theorem aRn:∀(d:jO.B) (hd:xJ (d.b.2.1.1,d.b.2.1.2.1)),Po (EY d) (λx:tE=>xJ (x.b.2.1.1,x.b.2.1.2.1)):=
 qH (λd hd=>by
  unfold EX;try dsimp only
  try dsimp only
  repeat' (first
   |(rw[du];exact trivial)
   |(rw[bQ];intro _ _)
   |(rw[bD];refine⟨λ_=> ?_,λ_=> ?_⟩))
  all_goals (rw[ba];exact hd))
theorem aRo:∀(d:jP.B) (hd:xJ (d.b.2.1,d.c.1)),Po (E0 d) (λx:tF=>xJ (x.b.2.1,x.c.1)):=
 qH (λd hd=>by
  unfold EZ;try dsimp only
  try dsimp only
  rw[bD];refine⟨λ_=> ?_,λ_=>by rw[ba];exact hd⟩;rw[bD];refine⟨λ_=> ?_,λ_=>by rw[du];exact trivial⟩;with_reducible refine aK (aRn _ hd) λa _ ha=> ?_
  try dsimp only
  repeat' (first
   |(rw[du];exact trivial)
   |(rw[bQ];intro _ _)
   |(rw[bD];refine⟨λ_=> ?_,λ_=> ?_⟩))
  all_goals (rw[ba];exact ha))
theorem a0m (x0 x1 x2:Nat->Int)(x3:Int)(x4:Bool)(h:xJ (x0,x1)):Po (nI x0 x1 x2 x3 x4) (λr=>xJ (r.2.1,r.b.1)):=by
 unfold nI JG;try dsimp only
 show PW _ _;refine aK (awY _ _ _ h) λd _ hd=> ?_;refine aK (aRm _ hd) λd1 _ h1=> ?_;rw[bQ];intro _ _;refine aK (aRo _ h1) λd2 _ h2=> ?_;rw[ba];exact h2
theorem aL8:∀(d:gP.B) (hd:xJ d.c.2.1),Po (AK d) (λx:pW=>xJ x.c.2.1):=
 qH (λd hd=>by
  unfold AJ;try dsimp only
  try dsimp only
  have hU:=hd.1;have hV:=hd.2
  repeat' (first
   |(rw[du];exact trivial)
   |(with_reducible refine aK (aYT _ _ _ _ _ hU he) λq _ hq=> ?_)
   |(with_reducible refine aK (a2f _ _ _ _) λe _ he=> ?_)
   |(rw[bQ];intro _ _)
   |(rw[bD];refine⟨λ_=> ?_,λ_=> ?_⟩))
  all_goals (rw[ba];first|exact hd|exact⟨hq.1,by rw[show _=_ from hq.2];exact hd.2⟩))
theorem aL9:∀(d:gR.B) (hd:xJ d.c.2.1),Po (AO d) (λx:pY=>xJ x.c.2.1):=
 qH (λd hd=>by
  unfold AN;try dsimp only
  try dsimp only
  have hU:=hd.1;have hV:=hd.2
  repeat' (first
   |(rw[du];exact trivial)
   |(with_reducible refine aK (afk _ 1 72057594037927936 _ (by decide)) λe _ he=> ?_)
   |(with_reducible refine aK (aL8 _ (xJ.of hU (aDs hV he))) λq _ hq=> ?_)
   |(rw[bQ];intro _ _)
   |(rw[bD];refine⟨λ_=> ?_,λ_=> ?_⟩))
  all_goals (rw[ba];first|exact hd|exact hq))
theorem aMa:∀(d:gQ.B) (hd:xJ d.c.2.1),Po (AM d) (λx:pX=>xJ x.c.2.1):=
 qH (λd hd=>by
  unfold AL;try dsimp only
  try dsimp only
  repeat' (first
   |(rw[du];exact trivial)
   |(rw[bQ];intro _ _)
   |(rw[bD];refine⟨λ_=> ?_,λ_=> ?_⟩))
  all_goals (rw[ba];exact hd))
theorem aUj (x0 x1 x2:Nat->Int)(x3:Int)(x4:Bool)(h:xJ (x0,x1)):Po (pH x0 x1 x2 x3 x4) (λr=>xJ r.1.1):=by
 unfold pH E1;show PW _ _;refine aK (a0m _ _ _ _ _ h) λd _ hd=> ?_;refine aK (aL9 _ hd) λd1 _ h1=> ?_;refine aK (aMa _ h1) λd2 _ h2=> ?_;rw[ba];exact h2
theorem aRp (x0:Nat->Int)(x1:Nat->Int)(x2:Nat->Int)(x3:Int)(x4:Int)(x5:Int)(x6:Int)(x7:Int)(x8:Int)(x9:Int)(fU:Int)(fV:Nat->Int)(Et:Bool):Po (Ca x0 x1 x2 x3 x4 x5 x6 x7 x8 x9 fU fV Et) (λr=>xJ r.1):=by
 unfold Ca abh;show PW _ _;rw[bQ];intro _ _;rw[bQ];intro _ _;refine aK (aBR _ _ _ _ _) λe _ he=> ?_;rw[ba];exact he
theorem aYU {f:Nat->Int}(n:Nat)(h:∀j,0<=f j):0<=eJ f n:=by
 induction n with
 |zero=>exact dW _
 |succ n ih=>have:=h n;rw[eJ];omega
theorem qE (a:Int):0<=a*a:=by
 rcases Wk 0 a with h|h
 .exact pj h h
 .have:=pj (a:= -a) (b:= -a) (by omega) (by omega);rwa [Int.neg_mul_neg] at this
theorem aBS (n:Nat)(hn:n<=64)(eA w:Bool)(l:Nat->Int)(r:Int)(hr:isR r (eJ (λj=>sat (l j)*sat (l j)) n)):
  cB n eA l w=some (sat r,(eA||mA (λj=>dq (l j)) n)||dq r):=by
 have m:(if 64<wr n then 64 else wr n)=wr n:=by rw[if_neg (by simp only[dH];omega)]
 have hre:HF (wr n) n=true:=by
  unfold HF;simp only[dH,cK,jG];omega
 have q0:z4 (wr n)=n:=rfl;simp only[cB,QA,Pg.bS,Pg.bM,Pg.ck,Pg.dX,Pg.dt];unfold Jy;rw[m,hre,bo,q0]
 refine FI (λt d=>∃(i:Nat) (h l':Int),i+t=n/\okW h l'/\vW h l'=eJ (λj=>sat (l j)*sat (l j)) i/\d=(((n,w&&false),wr n,wr i),(eA||mA (λj=>dq (l j)) i),(n,l),h,l')) ?_ 2000 n _ (by omega)
  ⟨0,0,0,by omega,⟨by omega,by omega,by omega,by omega⟩,rfl,by simp only[mA,LL];rfl⟩
 rintro t _ c ⟨i,h,l',hi,ho,hv,rfl⟩ hc
 have bnd:=aek (λj=>sat (l j)*sat (l j)) 1329227995784915872903807060280344576 (by omega) i (λj _=>RB _ _);rcases SO t with t0|t0
 .have e:i=n:=by omega
  subst e;have nn:=aYU (f:=λj=>sat (l j)*sat (l j)) i λj=>qE _
  rw[<-hv] at nn hr
  have h0:0<=h:=by
   obtain⟨o1,o2,o3,o4⟩:=ho;simp only[vW] at nn;omega
  simp only[tZ,Pg.px,Pg.py,Pg.si,Pg.yJ,Pg.pA,mK,jI,ao9 (cR i),bq,ahu h l' r _ ho h0 hr,bG]
 .have hs:=ly (l i);have hm:=RB (l i) (l i);obtain⟨h1,l1,e1,o1,v1⟩:=Bt (sat (l i)) (sat (l i)) (by omega) (by omega) (by omega) (by omega)
  obtain⟨h2,l2,e2,o2,v2⟩:=X7 (λj:Nat=>bif z9 j 1 then h1 else bif z9 j 0 then h else h) (λj:Nat=>bif z9 j 1 then l1 else bif z9 j 0 then l' else l') true
   ho o1 (by show _<=vW h l'+vW h1 l1;rw[hv,v1];omega) (by show vW h l'+vW h1 l1<_;rw[hv,v1];omega)
  have v2:vW h2 l2=vW h l'+vW h1 l1:=v2;rw[hv,v1] at v2;have q:z4 (wr i)=i:=rfl;simp only[tZ,Pg.px,Pg.py,Pg.si,Pg.yJ,Pg.pA,mK,jI,wI,ao8 hi t0,aaS (show i<n by omega),bo,q,oI,bG,e1,e2,apa (show i<9000000000000000000 by omega)];refine hc (t-1) _ (by omega) ⟨i+1,h2,l2,by omega,o2,v2,?_⟩;simp only[mA,Bool.or_assoc]
def UQ (a b c d:Int):Prop:=(∀j,j<4-> -1073741840<=wO a b c d j/\wO a b c d j<=1073741840)/\ -4294967296<=a*a+b*b+c*c+d*d-1152921504606846976/\a*a+b*b+c*c+d*d-1152921504606846976<=4294967296
theorem azc {a b c d:Int}{P:Int->Prop}(h0:P a)(h1:P b)(h2:P c)(h3:P d):∀j,j<4->P (wO a b c d j):=by
 intro j _;unfold wO;split
 .exact h0
 split
 .exact h1
 split
 .exact h2
 .exact h3
def Nr (n a q:Int):Prop:=2*(q*n-a*1073741824)<=n/\2*(a*1073741824-q*n)<=n
theorem aJp (V n:Int)(h:0<n):2*(qdq V n*n-V)<=n/\2*(V-qdq V n*n)<=n:=by
 have e:=asH V n;have m0:=Wj V (show n≠0 by omega);have m1:=SN V h;unfold qdq;split
 .rw[Int.add_zero,xT (V/n) n];omega
 .have e2:(V/n+1)*n=n*(V/n)+n:=by rw[Vd,Int.one_mul,xT]
  rw[e2];omega
theorem aUk (x n:Int)(h:0<n):2*(Hi x n*n-x)<=n/\2*(x-Hi x n*n)<=n:=by
 have hn:jq n=n:=by unfold jq;rw[if_neg (by omega)]
 have dn:decide (n<0)=false:=cE (by omega);unfold Hi;rw[hn,dn];by_cases hx:x<0
 .rw[if_neg (by rw[dy hx];decide)];have m:jq x= -x:=by unfold jq;rw[if_pos hx]
  have q:=aJp (jq x) n h;rw[m] at q ⊢;rw[Int.neg_mul];omega
 .rw[if_pos (cE hx)];have m:jq x=x:=by unfold jq;rw[if_neg hx]
  have q:=aJp (jq x) n h;rw[m] at q ⊢;omega
theorem Hv {n a q:Int}(h:0<n)(k:Nr n a q)(a0: -n<=a)(a1:a<=n): -1073741824<=q/\q<=1073741824:=by
 obtain⟨k0,k1⟩:=k;constructor
 .have p:(-1073741825)*n<q*n:=by omega
  have:=Int.lt_of_mul_lt_mul_right p (by omega);omega
 .have p:q*n<1073741825*n:=by omega
  have:=Int.lt_of_mul_lt_mul_right p (by omega);omega
theorem aoz {n a q:Int}(h:0<n)(k:Nr n a q):4*(n*n*(q*q))<=4*(1152921504606846976*(a*a)+1073741824*(a*a))+1073741825*(n*n)/\
  4*(1152921504606846976*(a*a))-4*(1073741824*(a*a))-1073741825*(n*n)<=4*(n*n*(q*q)):=by
 obtain⟨k0,k1⟩:=k;have e:n*n*(q*q)=(q*n)*(q*n):=by grind
 rw[e];generalize hg:q*n=g at*
 obtain⟨f,hf⟩:∃f,g=a*1073741824+f:=⟨g-a*1073741824,by omega⟩;subst hf;have e2:(a*1073741824+f)*(a*1073741824+f)=1152921504606846976*(a*a)+2147483648*(a*f)+f*f:=by grind
 rw[e2]
 have f4:4*(f*f)<=n*n:=by
  have:=pj (a:=n-2*f) (b:=n+2*f) (by omega) (by omega);have e3:(n-2*f)*(n+2*f)=n*n-4*(f*f):=by grind
  omega
 have f0:=qE f;have p1:=qE (a-f);have p2:=qE (a+f);have e4:(a-f)*(a-f)=a*a-2*(a*f)+f*f:=by grind
 have e5:(a+f)*(a+f)=a*a+2*(a*f)+f*f:=by grind
 rw[e4] at p1;rw[e5] at p2;generalize a*a=aa at*
 generalize a*f=af at*
 generalize f*f=ff at*
 generalize n*n=nn at*
 omega
theorem uk {a V n:Int}(h:0<=n)(k:a*a<=V)(hV:V<=n*n+n): -n<=a/\a<=n:=by
 have e:n*n+n<(n+1)*(n+1):=by
  have:(n+1)*(n+1)=n*n+2*n+1:=by grind
  omega
 constructor
 .rcases Wk 0 a with ha|ha
  .omega
  .have:=aF1 (a:= -a) (b:=n+1) (by omega) (by omega) (by rw[Int.neg_mul_neg];omega);omega
 .rcases Wk 0 a with ha|ha
  .have:=aF1 (a:=a) (b:=n+1) ha (by omega) (by omega);omega
  .omega
theorem aUl {a0 a1 a2 a3 q0 q1 q2 q3 n:Int}(hn:isR n (a0*a0+a1*a1+a2*a2+a3*a3))(hl:700000000<=n)
  (k0:Nr n a0 q0)(k1:Nr n a1 q1)(k2:Nr n a2 q2)(k3:Nr n a3 q3):UQ q0 q1 q2 q3:=by
 obtain⟨n0,v1,v2⟩:=hn
 have v2:n*n-n<a0*a0+a1*a1+a2*a2+a3*a3:=by
  rcases v2 with v2|v2
  .omega
  .exact v2
 have z0:=qE a0;have z1:=qE a1;have z2:=qE a2;have z3:=qE a3;have b0:=uk (a:=a0) n0 (by omega) v1;have b1:=uk (a:=a1) n0 (by omega) v1;have b2:=uk (a:=a2) n0 (by omega) v1;have b3:=uk (a:=a3) n0 (by omega) v1;have np:0<n:=by omega
 have c0:=Hv np k0 b0.1 b0.2;have c1:=Hv np k1 b1.1 b1.2;have c2:=Hv np k2 b2.1 b2.2;have c3:=Hv np k3 b3.1 b3.2;have s0:=aoz np k0;have s1:=aoz np k1;have s2:=aoz np k2;have s3:=aoz np k3;refine⟨azc (P:=λx=> -1073741840<=x/\x<=1073741840) (by omega) (by omega) (by omega) (by omega),?_⟩;have nl:700000000*n<=n*n:=Wf hl (by omega);have nn:0<n*n:=Int.mul_pos np np;have ed:n*n*(q0*q0+q1*q1+q2*q2+q3*q3-1152921504606846976)=n*n*(q0*q0)+n*n*(q1*q1)+n*n*(q2*q2)+n*n*(q3*q3)-1152921504606846976*(n*n):=by grind
 generalize q0*q0+q1*q1+q2*q2+q3*q3=S at*
 generalize n*n*(q0*q0)=t0 at*
 generalize n*n*(q1*q1)=t1 at*
 generalize n*n*(q2*q2)=t2 at*
 generalize n*n*(q3*q3)=t3 at*
 generalize a0*a0=A0 at*
 generalize a1*a1=A1 at*
 generalize a2*a2=A2 at*
 generalize a3*a3=A3 at*
 constructor
 .refine Int.le_of_mul_le_mul_left (a:=n*n) ?_ nn;rw[ed];generalize n*n=P at*
  omega
 .refine Int.le_of_mul_le_mul_left (a:=n*n) ?_ nn;rw[ed];generalize n*n=P at*
  omega
theorem aUm {a0 a1 a2 a3 b0 b1 b2 b3 n:Int}(np:0<n)(hs:n*n<=2*(a0*a0+a1*a1+a2*a2+a3*a3))
  (k0:Nr n a0 b0)(k1:Nr n a1 b1)(k2:Nr n a2 b2)(k3:Nr n a3 b3):576000000000000000<=b0*b0+b1*b1+b2*b2+b3*b3:=by
 have s0:=aoz np k0;have s1:=aoz np k1;have s2:=aoz np k2;have s3:=aoz np k3;have nn:0<n*n:=Int.mul_pos np np;have ed:n*n*(b0*b0+b1*b1+b2*b2+b3*b3)=n*n*(b0*b0)+n*n*(b1*b1)+n*n*(b2*b2)+n*n*(b3*b3):=by grind
 refine Int.le_of_mul_le_mul_left (a:=n*n) ?_ nn;rw[ed];generalize n*n*(b0*b0)=t0 at*
 generalize n*n*(b1*b1)=t1 at*
 generalize n*n*(b2*b2)=t2 at*
 generalize n*n*(b3*b3)=t3 at*
 generalize a0*a0=A0 at*
 generalize a1*a1=A1 at*
 generalize a2*a2=A2 at*
 generalize a3*a3=A3 at*
 generalize n*n=P at*
 omega
theorem aYV (n i:Int)(c:Bool)(a0 a1 a2 a3:Int):fI ((n,i,0),c,a0,a1,a2,a3)=(bk a0 n 30 c).bind λd0=>(bk a1 n 30 d0.2).bind λd1=>(bk a2 n 30 d1.2).bind λd2=>(bk a3 n 30 d2.2).bind λd3=>some ((n,i,4,false),d3.2,d0.1,d1.1,d2.1,d3.1):=by kernel_rfl
theorem aYW {ρ:Type}(k:_->Option ρ)(c:Bool)(a0 a1 a2 a3:Int):(kd cB fI (0,c,a0,a1,a2,a3)).run k=(cB 4 c (λj=>bif z9 j 3 then a3 else bif z9 j 2 then a2 else bif z9 j 1 then a1 else bif z9 j 0 then a0 else a0) false).bind λh=>(fI ((h.1,0,0),h.2,a0,a1,a2,a3)).bind λx=>k (ww (wI (x.1.2.1+1),x.2)):=by kernel_rfl
theorem aYX {ρ:Type}(k:_->Option ρ)(c:Bool)(a0 a1 a2 a3:Int):(kd cB fI (1,c,a0,a1,a2,a3)).run k=(cB 4 c (λj=>bif z9 j 3 then a3 else bif z9 j 2 then a2 else bif z9 j 1 then a1 else bif z9 j 0 then a0 else a0) false).bind λh=>(fI ((h.1,1,0),h.2,a0,a1,a2,a3)).bind λx=>k (ww (wI (x.1.2.1+1),x.2)):=by kernel_rfl
theorem aYY {ρ:Type}(k:_->Option ρ)(c:Bool)(a0 a1 a2 a3:Int):(kd cB fI (2,c,a0,a1,a2,a3)).run k=k (ws ((2,false),c,a0,a1,a2,a3)):=by kernel_rfl
theorem aJq (n i:Int)(c:Bool)(a0 a1 a2 a3:Int)(n0:0<n)(n1:n<=1152921504606846976)(h0: -n<=a0/\a0<=n)(h1: -n<=a1/\a1<=n)(h2: -n<=a2/\a2<=n)(h3: -n<=a3/\a3<=n):
  ∃b0 b1 b2 b3 c',fI ((n,i,0),c,a0,a1,a2,a3)=some ((n,i,4,false),c',b0,b1,b2,b3)/\Nr n a0 b0/\Nr n a1 b1/\Nr n a2 b2/\Nr n a3 b3:=by
 have sn:sat n=n:=(Hh ⟨by omega,n1⟩).1
 have one:∀(a:Int) (c:Bool), -n<=a/\a<=n->∃b c',bk a n 30 c=some (b,c')/\Nr n a b:=λa c ha=>by
  have sa:sat a=a:=(Hh ⟨by omega,by omega⟩).1;have e:=aOe a n 30 c (by decide) (by rw[sn];omega);rw[sa,sn] at e
  have nr:Nr n a (Hi (a*2^30) n):=by
   have:=aUk (a*2^30) n n0;exact this
  have bd:=Hv n0 nr ha.1 ha.2;have sr:sat (Hi (a*2^30) n)=Hi (a*2^30) n:=(Hh ⟨by omega,by omega⟩).1;rw[sr] at e;exact⟨_,_,e,nr⟩
 obtain⟨b0,c0,e0,r0⟩:=one a0 c h0;obtain⟨b1,c1,e1,r1⟩:=one a1 c0 h1;obtain⟨b2,c2,e2,r2⟩:=one a2 c1 h2;obtain⟨b3,c3,e3,r3⟩:=one a3 c2 h3;refine⟨b0,b1,b2,b3,c3,?_,r0,r1,r2,r3⟩;rw[aYV,e0,bG,e1,bG,e2,bG,e3,bG]
theorem a1G (a0 a1 a2 a3:Int)(h0:sat a0=a0)(h1:sat a1=a1)(h2:sat a2=a2)(h3:sat a3=a3):eJ (λj=>sat ((λj=>bif z9 j 3 then a3 else bif z9 j 2 then a2 else bif z9 j 1 then a1 else bif z9 j 0 then a0 else a0) j)*sat ((λj=>bif z9 j 3 then a3 else bif z9 j 2 then a2 else bif z9 j 1 then a1 else bif z9 j 0 then a0 else a0) j)) 4=a0*a0+a1*a1+a2*a2+a3*a3:=by
 show 0+sat a0*sat a0+sat a1*sat a1+sat a2*sat a2+sat a3*sat a3=_;rw[h0,h1,h2,h3,ak0]
theorem aOK (c:Bool)(a0 a1 a2 a3:Int)(h0: -1152921504606846976<=a0/\a0<=1152921504606846976)(h1: -1152921504606846976<=a1/\a1<=1152921504606846976)(h2: -1152921504606846976<=a2/\a2<=1152921504606846976)(h3: -1152921504606846976<=a3/\a3<=1152921504606846976)
  (nz:0<a0*a0+a1*a1+a2*a2+a3*a3):∃q0 q1 q2 q3 c' t,FU (0,c,a0,a1,a2,a3)=some (t,c',q0,q1,q2,q3)/\UQ q0 q1 q2 q3:=by
 obtain⟨r,hr⟩:=aSO (a0*a0+a1*a1+a2*a2+a3*a3) (by omega);have z0:=qE a0;have z1:=qE a1;have z2:=qE a2;have z3:=qE a3;have e1:=aBS 4 (by decide) c false (λj=>bif z9 j 3 then a3 else bif z9 j 2 then a2 else bif z9 j 1 then a1 else bif z9 j 0 then a0 else a0) r (by rw[a1G a0 a1 a2 a3 (Hh h0).1 (Hh h1).1 (Hh h2).1 (Hh h3).1];exact hr);obtain⟨r0,r1,r2⟩:=hr;have b0:=uk (a:=a0) r0 (by omega) r1;have b1:=uk (a:=a1) r0 (by omega) r1;have b2:=uk (a:=a2) r0 (by omega) r1;have b3:=uk (a:=a3) r0 (by omega) r1
 have rp:0<r:=by
  rcases Kc 0 r with h|h
  .exact h
  .have:r=0:=by omega
   subst this;omega
 have hs:sat r*sat r<=2*(a0*a0+a1*a1+a2*a2+a3*a3)/\0<sat r/\sat r<=1152921504606846976/\(sat r=r∨sat r=1152921504606846976):=by
  have r2:r*r-r<a0*a0+a1*a1+a2*a2+a3*a3:=by
   rcases r2 with h|h
   .omega
   .exact h
  generalize a0*a0+a1*a1+a2*a2+a3*a3=S at*
  by_cases hb:r<=1152921504606846976
  .have sr:sat r=r:=(Hh ⟨by omega,hb⟩).1;rw[sr];refine⟨?_,rp,hb,.inl rfl⟩;rcases Kc r 2 with h|h
   .have:r=1:=by omega
    subst this;omega
   .have:=Wf h r0;omega
  .have sr:sat r=1152921504606846976:=by unfold sat;rw[if_neg (by omega),if_pos (by omega)]
   rw[sr];refine⟨?_,by decide,by decide,.inr rfl⟩;have k:1152921504606846976<=r:=by omega
   have k1:=LK k (show 1152921504606846976<=r-1 by omega) (by decide) r0;have e:r*(r-1)=r*r-r:=by grind
   omega
 obtain⟨s1,s2,s3,s4⟩:=hs;have bb:∀a:Int, -r<=a/\a<=r-> -1152921504606846976<=a/\a<=1152921504606846976-> -sat r<=a/\a<=sat r:=λa p q=>by omega
 obtain⟨x0,x1,x2,x3,c1,e2,k0,k1,k2,k3⟩:=aJq (sat r) 0 ((c||mA (λj=>dq ((λj=>bif z9 j 3 then a3 else bif z9 j 2 then a2 else bif z9 j 1 then a1 else bif z9 j 0 then a0 else a0) j)) 4)||dq r) a0 a1 a2 a3 s2 s3 (bb _ b0 h0) (bb _ b1 h1) (bb _ b2 h2) (bb _ b3 h3);have low:=aUm s2 s1 k0 k1 k2 k3;have d0:=Hv s2 k0 (bb _ b0 h0).1 (bb _ b0 h0).2;have d1:=Hv s2 k1 (bb _ b1 h1).1 (bb _ b1 h1).2;have d2:=Hv s2 k2 (bb _ b2 h2).1 (bb _ b2 h2).2;have d3:=Hv s2 k3 (bb _ b3 h3).1 (bb _ b3 h3).2;have sx:∀x:Int, -1073741824<=x/\x<=1073741824->sat x=x:=λx h=>(Hh ⟨by omega,by omega⟩).1
 obtain⟨n,hn⟩:=aSO (x0*x0+x1*x1+x2*x2+x3*x3) (by omega);have e3:=aBS 4 (by decide) c1 false (λj=>bif z9 j 3 then x3 else bif z9 j 2 then x2 else bif z9 j 1 then x1 else bif z9 j 0 then x0 else x0) n (by rw[a1G x0 x1 x2 x3 (sx _ d0) (sx _ d1) (sx _ d2) (sx _ d3)];exact hn);obtain⟨n0,n1,n2⟩:=id hn
 have nl:700000000<=n:=by
  rcases Kc n 700000000 with h|h
  .have:=Wf (show n<=700000000 by omega) n0;omega
  .exact h
 have sq1:∀x:Int, -1073741824<=x/\x<=1073741824->x*x<=1152921504606846976:=λx h=>by
  have:=pj (a:=1073741824-x) (b:=1073741824+x) (by omega) (by omega);have e:(1073741824-x)*(1073741824+x)=1152921504606846976-x*x:=by grind
  omega
 have y0:=sq1 _ d0;have y1:=sq1 _ d1;have y2:=sq1 _ d2;have y3:=sq1 _ d3;have w0:=qE x0;have w1:=qE x1;have w2:=qE x2;have w3:=qE x3
 have nb:n<=2200000000:=by
  rcases Kc 2200000000 n with h|h
  .have n2:n*n-n<x0*x0+x1*x1+x2*x2+x3*x3:=by
    rcases n2 with h|h
    .omega
    .exact h
   have:=Wf (show 2200000000<=n by omega) n0;omega
  .exact h
 have sn:sat n=n:=(Hh ⟨by omega,by omega⟩).1;rw[sn] at e3;have b0:=uk (a:=x0) n0 (by omega) n1;have b1:=uk (a:=x1) n0 (by omega) n1;have b2:=uk (a:=x2) n0 (by omega) n1;have b3:=uk (a:=x3) n0 (by omega) n1;obtain⟨q0,q1,q2,q3,c2,e4,m0,m1,m2,m3⟩:=aJq n 1 ((c1||mA (λj=>dq ((λj=>bif z9 j 3 then x3 else bif z9 j 2 then x2 else bif z9 j 1 then x1 else bif z9 j 0 then x0 else x0) j)) 4)||dq n) x0 x1 x2 x3 (by omega) (by omega) b0 b1 b2 b3;refine⟨q0,q1,q2,q3,c2,(2,false),?_,aUl hn nl m0 m1 m2 m3⟩;show(kd cB fI (0,c,a0,a1,a2,a3)).run (t9 (λd=>bI (kd cB fI) 1999 d) some)=_;rw[aYW,e1,bG,e2,bG,mK];show(kd cB fI (1,c1,x0,x1,x2,x3)).run (t9 (λd=>bI (kd cB fI) 1998 d) some)=_;rw[aYX,e3,bG,e4,bG,mK];show(kd cB fI (2,c2,q0,q1,q2,q3)).run (t9 (λd=>bI (kd cB fI) 1997 d) some)=_;rw[aYY,jI]
theorem aDt:UQ 1073741824 0 0 0:=⟨azc (P:=λx=> -1073741840<=x/\x<=1073741840) (by decide) (by decide) (by decide) (by decide),by decide,by decide⟩
theorem a0n (x0 x1 x2 x3:Int)(c:Bool):Po (sG x0 x1 x2 x3 c) (λr=>Ur r.1.1/\Ur r.1.2.1/\Ur r.1.b.1/\Ur r.1.b.2):=by
 intro d hd;have e:IN (0,c,x0,x1,x2,x3)=(aP x0 c).bind λd0=>(aP x1 d0.2).bind λd1=>(aP x2 d1.2).bind λd2=>(aP x3 d2.2).bind λd3=>some ((4,false),d3.2,d0.1,d1.1,d2.1,d3.1):=by kernel_rfl
 have e2:sG x0 x1 x2 x3 c=(IN (0,c,x0,x1,x2,x3)).bind λd=>some (d.2.2,d.2.1):=rfl
 rw[e2,e] at hd;simp only[oI,bG,hM] at hd;subst hd;exact⟨ly x0,ly x1,ly x2,ly x3⟩
theorem aDu (x0 x1 x2 x3:Int)(c:Bool):Po (c9 x0 x1 x2 x3 c) (λr=>UQ r.1.1 r.1.2.1 r.1.b.1 r.1.b.2):=by
 unfold c9 Vu;show PW _ _;refine aK (a0n _ _ _ _ _) λd _ hd=> ?_;rw[bD];refine⟨λ_=> ?_,λhz=> ?_⟩
 .rw[bQ];intro _ _;rw[ba];exact aDt
 .have nz:0<d.1.1*d.1.1+d.1.2.1*d.1.2.1+d.1.b.1*d.1.b.1+d.1.b.2*d.1.b.2:=by
   have z0:=qE d.1.1;have z1:=qE d.1.2.1;have z2:=qE d.1.b.1;have z3:=qE d.1.b.2
   have sqz:∀a:Int,a*a<=0->a=0:=λa h=>by
    rcases Int.lt_trichotomy a 0 with k|k|k
    .have:=Int.mul_pos_of_neg_of_neg k k;omega
    .exact k
    .have:=Int.mul_pos k k;omega
   rcases Kc 0 (d.1.1*d.1.1+d.1.2.1*d.1.2.1+d.1.b.1*d.1.b.1+d.1.b.2*d.1.b.2) with h|h
   .exact h
   .rw[sqz d.1.1 (by omega),sqz d.1.2.1 (by omega),sqz d.1.b.1 (by omega),sqz d.1.b.2 (by omega)] at hz;cases hz
  obtain⟨q0,q1,q2,q3,c',t,e,u⟩:=aOK d.2 d.1.1 d.1.2.1 d.1.b.1 d.1.b.2 hd.1 hd.2.1 hd.b.1 hd.b.2 nz;refine aK (R:=λx=>UQ x.b.1 x.b.2.1 x.c.1 x.c.2) (λx hx=> ?_) λx _ hx=> ?_
  .have e:FU (0,d.2,d.1)=some (t,c',q0,q1,q2,q3):=e;rw[e] at hx;cases hx;exact u
  .rw[ba];exact hx
def box (j:Nat):Int:=if j<4 then 1073741840 else if j<7 then 549755813888 else if j<10 then 9007199254740992 else if j<13 then 134217728 else if j<16 then 1073741824 else if j<22 then 2147483648 else 137438953472
theorem a0o (j:Nat):0<box j/\box j<=9007199254740992:=by
 unfold box;repeat' split
 all_goals decide
theorem aRq:∀b:ub,nH=some b->∀j,j<24->b j=box j:=by
 have h:(nH.map λb:ub=>(List.range 24).all λj=>b j==box j)=some true:=by kernel_rfl
 intro b e j hj;rw[e] at h;have h:=asK.mp (Ka h) j (List.mem_range.mpr hj);exact eq_of_beq h
def NW (s:Nat->Int):Prop:=UQ (s 0) (s 1) (s 2) (s 3)/\∀j,4<=j->j<24-> -box j<=s j/\s j<=box j
theorem aUn (s:Nat->Int):∀(d:kO.B) (hd:4<=d.1/\d.1<=24/\(∀j,j<24->d.b.2.2 j=box j)/\(∀j,j<4->d.b.1 j=s j)/\(∀j:Nat,4<=j->(j:Int)<d.1-> -box j<=d.b.1 j/\d.b.1 j<=box j)),Po (G' d) (λx:vX=>(∀j,j<4->x.b.1 j=s j)/\(∀j:Nat,4<=j->j<24-> -box j<=x.b.1 j/\x.b.1 j<=box j)):=
 qH (λd hd=>by
  unfold G9;try dsimp only
  obtain⟨i0,i1,i2,i3,i4⟩:=hd;rw[bD];refine⟨λh=> ?_,λh=> ?_⟩
  .have h:=db h;have hw:wI (d.1+1)=d.1+1:=aZ;obtain⟨n,hn⟩:∃n:Nat,d.1=n:=⟨z4 d.1,by omega⟩;have b1:=i2 n (by omega);have b2:=a0o n;have nn:z4 d.1=n:=by rw[hn];rfl
   have w0:wI (0-box n)= -box n:=by rw[Int.zero_sub];exact dS (by omega) (by omega)
   rw[nn,b1,w0,hw]
   repeat' (first
    |(rw[du];exact trivial)
    |(with_reducible refine aK (afk _ (-box n) (box n) _ (by omega)) λe _ he=> ?_)
    |(rw[bD];refine⟨λ_=> ?_,λ_=> ?_⟩))
   rw[ba];refine⟨by show 4<=d.1+1;omega,by show d.1+1<=24;omega,i2,λj hj=> ?_,λj h4 hj=> ?_⟩
   .show(bif z9 j n then e.1 else d.b.1 j)=s j
    have:z9 j n=false:=by
     cases hb:z9 j n with
     |false=>rfl
     |true=>have:=lB hb;omega
    rw[this];exact i3 j hj
   .have hj:(j:Int)<d.1+1:=hj;show -box j<=(bif z9 j n then e.1 else d.b.1 j)/\(bif z9 j n then e.1 else d.b.1 j)<=box j;cases hb:z9 j n with
    |true=>have:=lB hb;subst this;exact he
    |false=>
     have nb:j≠n:=λh=>by rw[h,FE] at hb;cases hb
     exact i4 j h4 (by omega)
  .have h:=kD h;rw[ba];exact⟨i3,λj h4 h24=>i4 j h4 (by omega)⟩)
theorem aJr (s:Nat->Int)(c:Bool):Po (nk s c) (λr=>(∀j,j<4->r.1 j=s j)/\(∀j:Nat,4<=j->j<24-> -box j<=r.1 j/\r.1 j<=box j)):=by
 unfold nk MD;show PW _ _;rw[bQ];intro b hb;have hb:=aRq b hb;refine aK (aUn s _ ⟨(show(4:Int)<=4 by decide),(show(4:Int)<=24 by decide),hb,λ_ _=>rfl,λj h4 hj=>absurd (show(j:Int)<4 from hj) (by omega)⟩) λd _ hd=> ?_;rw[ba];exact hd
theorem NW.of {s r:Nat->Int}(u:UQ (s 0) (s 1) (s 2) (s 3))(h:(∀j,j<4->r j=s j)/\(∀j:Nat,4<=j->j<24-> -box j<=r j/\r j<=box j)):NW r:=by
 refine⟨?_,h.2⟩;rw[h.1 0 (by decide),h.1 1 (by decide),h.1 2 (by decide),h.1 3 (by decide)];exact u
theorem aUo (s:Nat->Int)(a b c d:Int):Po (lW s a b c d) (λr:Tw=>r 0=a/\r 1=b/\r 2=c/\r 3=d):=by
 unfold lW JE;show PW _ _;rw[ba];exact⟨rfl,rfl,rfl,rfl⟩
theorem a2g (s:Nat->Int):cC s=some (s 0,s 1,s 2,s 3):=rfl
theorem aYZ (a b c d:Int):Po (z7 a b c d) (λr:Bool=>r=true->UQ a b c d):=(aOh a b c d).po.mono λ_ h e=>h.1 e
theorem a1H {δ:Type}{Q:δ->Prop}{s:Nat->Int}{q:Int×Int×Int×Int}{c:Bool}{f:MB->Pg δ}(u:UQ q.1 q.2.1 q.b.1 q.b.2)(k:∀d:MB,NW d.1->PW (f d) Q):
  PW (.opt (lW s q.1 q.2.1 q.b.1 q.b.2) λt=>.opt (nk t c) f) Q:=by
 refine aK (aUo _ _ _ _ _) λt _ ht=> ?_;refine aK (aJr _ _) λd _ hd=>k d (NW.of ?_ hd)
 rw[ht.1,ht.2.1,ht.b.1,ht.b.2];exact u
theorem QZ (s:Nat->Int)(c:Bool):Po (cg s c) (λr=>NW r.1):=by
 unfold cg QH;show PW _ _;rw[a2g,bQ];intro d hd;have hd:=Ka hd;subst hd;refine aK (aYZ _ _ _ _) λu _ hu=> ?_;rw[bD];refine⟨λ_=> ?_,λh=> ?_⟩
 .rw[bQ];intro d hd;refine aK (aDu _ _ _ _ _) λq _ hq=> ?_;refine a1H hq λr hr=> ?_;rw[ba];exact hr
 .have hu:=hu (by cases u with|true=>rfl|false=>cases h);refine aK (aJr _ _) λr _ hr=> ?_;rw[ba];exact NW.of hu hr
theorem aUp:∀(d:nJ.B) (hd:NW d.b.2.1),Po (MQ d) (λx:Bs=>NW x.b.2.1):=
 qH (λd hd=>by
  unfold MP;try dsimp only
  try dsimp only
  rw[bD];refine⟨λ_=> ?_,λ_=>by rw[ba];exact hd⟩
  repeat' (first
   |(rw[du];exact trivial)
   |(rw[bD];refine⟨λ_=> ?_,λ_=> ?_⟩))
  rw[bQ];intro a _;rw[bQ];intro _ _;refine aK (aDu _ _ _ _ _) λq _ hq=> ?_;refine a1H hq λr hr=> ?_;rw[ba];exact hr)
theorem a0p (x:Hf.B)(h:NW x.1.1):Po (CM x) (λr=>NW r.1):=by
 unfold CM Vz;show PW _ _;try dsimp only
 rw[bD];refine⟨λ_=> ?_,λ_=> ?_⟩
 .refine aK (QZ _ _) λr _ hr=> ?_;rw[ba];exact hr
 .rw[bD];refine⟨λ_=> ?_,λ_=>by rw[du];exact trivial⟩;refine aK (aUp _ (by exact h)) λr _ hr=> ?_;rw[ba];exact hr
theorem a0q (s f:Nat->Int):Po (eW s 0 4 f false) (λr:IP=>r 0=f 0/\r 1=f 1/\r 2=f 2/\r 3=f 3/\∀j,4<=j->r j=s j):=by
 intro r hr;have e:eW s 0 4 f false=some (λj=>bif z9 j 3 then f 3 else bif z9 j 2 then f 2 else bif z9 j 1 then f 1 else bif z9 j 0 then f 0 else s j):=by kernel_rfl
 rw[e] at hr;have hr:=Ka hr;subst hr;refine⟨rfl,rfl,rfl,rfl,λj hj=> ?_⟩
 have ne:∀k,k<4->z9 j k=false:=λk hk=>by
  cases hb:z9 j k with
  |false=>rfl
  |true=>have:=lB hb;omega
 show(bif z9 j 3 then f 3 else bif z9 j 2 then f 2 else bif z9 j 1 then f 1 else bif z9 j 0 then f 0 else s j)=s j;rw[ne 3 (by decide),ne 2 (by decide),ne 1 (by decide),ne 0 (by decide)];rfl
theorem a0r (s g:Nat->Int)(a0 a1 a2 a3:Int)(u:UQ a0 a1 a2 a3)(h:NW s)(e:g=λj=>bif z9 j 3 then a3 else bif z9 j 2 then a2 else bif z9 j 1 then a1 else bif z9 j 0 then a0 else a0):Po (eW s 0 4 g false) (λr:IP=>NW r):=(a0q s _).mono λr k=>by
 subst e;obtain⟨k0,k1,k2,k3,k4⟩:=k;refine⟨by rw[k0,k1,k2,k3];exact u,λj h4 h24=> ?_⟩;rw[k4 j h4];exact h.2 j h4 h24
theorem a0s:UQ 0 1073741824 0 0:=⟨azc (P:=λx=> -1073741840<=x/\x<=1073741840) (by decide) (by decide) (by decide) (by decide),by decide,by decide⟩
theorem a0t (x0 x1 x2:Int)(x3:Bool):Po (BY x0 x1 x2 x3) (λr=>UQ r.1.1 r.1.2.1 r.1.b.1 r.1.b.2):=by
 unfold BY aaA;show PW _ _
 repeat' (first
  |(rw[du];exact trivial)
  |(with_reducible refine aK (aDu _ _ _ _ _) λe _ he=> ?_)
  |(rw[bQ];intro _ _)
  |(rw[bD];refine⟨λ_=> ?_,λ_=> ?_⟩))
 all_goals rw[ba];first
  |exact he
  |exact aDt
  |exact a0s
theorem aY0 (x0:Nat->Int)(x1:Int)(x2:Int)(x3:Int)(x4:Int)(x5:Int)(x6:Int)(x7:Int)(x8:Int)(x9:Bool):Po (pg x0 x1 x2 x3 x4 x5 x6 x7 x8 x9) (λr=>NW r.1):=by
 unfold pg QK;try dsimp only
 show PW _ _
 repeat' (first
  |(with_reducible refine aK (QZ _ _) λe _ he=> ?_)
  |(rw[bQ];intro _ _))
 rw[ba];assumption
theorem awZ (x0:Nat->Int)(x1:Int)(x2:Nat)(x3:Bool)(x4:Nat->Int)(w0:Bool):Po (gT x0 x1 x2 x3 x4 w0) (λr:MX=>NW r.1.1):=by
 unfold gT M0;show PW _ _
 repeat' (first
  |(rw[du];exact trivial)
  |(with_reducible refine aK (QZ _ _) λe _ he=> ?_)
  |(rw[bQ];intro _ _)
  |(rw[bD];refine⟨λ_=> ?_,λ_=> ?_⟩))
 rw[ba];assumption
theorem a2h (x0:Nat->Int)(x1:Nat->Int)(x2:Nat->Int)(x3:Int)(x4:Int)(x5:Bool):Po (CN x0 x1 x2 x3 x4 x5) (λr=>NW r.1.1/\xJ r.1.2.1):=by
 unfold CN VE;show PW _ _
 repeat' (first
  |(rw[du];exact trivial)
  |(with_reducible refine aK (QZ _ _) λe _ he=> ?_)
  |(with_reducible refine aK (awZ _ _ _ _ _ _) λm _ hm=> ?_)
  |(with_reducible refine aK (aoy _ _ _ _ _ _ _) λv _ hv=> ?_)
  |(rw[bQ];intro _ _)
  |(rw[bD];refine⟨λ_=> ?_,λ_=> ?_⟩))
 all_goals rw[ba];exact⟨by assumption,by assumption⟩
theorem aOL (x0:Nat->Int)(x1:Nat->Int)(x2:Nat->Int)(x3:Int)(x4:Int)(x5:Int)(x6:Int)(x7:Bool):Po (pL x0 x1 x2 x3 x4 x5 x6 x7) (λr=>NW r.1.1/\xJ r.1.2.1):=by
 unfold pL E6;try dsimp only
 show PW _ _
 repeat' (first
  |(rw[du];exact trivial)
  |(with_reducible refine aK (QZ _ _) λe _ he=> ?_)
  |(with_reducible refine aK (awZ _ _ _ _ _ _) λm _ hm=> ?_)
  |(with_reducible refine aK (aoy _ _ _ _ _ _ _) λv _ hv=> ?_)
  |(rw[bQ];intro _ _)
  |(rw[bD];refine⟨λ_=> ?_,λ_=> ?_⟩))
 all_goals rw[ba];exact⟨by assumption,by assumption⟩
theorem aHV (x0:Nat->Int)(x1:Nat->Int)(x2:Nat->Int)(x3:Int)(x4:Int)(x5:Int)(x6:Bool):Po (mM x0 x1 x2 x3 x4 x5 x6) (λr=>NW r.1.1/\xJ r.1.2.1):=by
 unfold mM AP;try dsimp only
 show PW _ _
 repeat' (first
  |(rw[du];exact trivial)
  |(with_reducible refine aK (QZ _ _) λe _ he=> ?_)
  |(with_reducible refine aK (awZ _ _ _ _ _ _) λm _ hm=> ?_)
  |(with_reducible refine aK (aoy _ _ _ _ _ _ _) λv _ hv=> ?_)
  |(rw[bQ];intro _ _)
  |(rw[bD];refine⟨λ_=> ?_,λ_=> ?_⟩))
 all_goals rw[ba];exact⟨by assumption,by assumption⟩
theorem aUq (x0:Nat->Int)(x1:Nat->Int)(x2:Nat->Int)(x3:Int)(x4:Int)(x5:Bool):Po (ud x0 x1 x2 x3 x4 x5) (λr=>NW r.1.1/\xJ r.1.2.1):=by
 unfold ud JQ;show PW _ _
 repeat' (first
  |(rw[du];exact trivial)
  |(with_reducible refine aK (QZ _ _) λe _ he=> ?_)
  |(with_reducible refine aK (awZ _ _ _ _ _ _) λm _ hm=> ?_)
  |(with_reducible refine aK (aoy _ _ _ _ _ _ _) λv _ hv=> ?_)
  |(rw[bQ];intro _ _)
  |(rw[bD];refine⟨λ_=> ?_,λ_=> ?_⟩))
 all_goals rw[ba];exact⟨by assumption,by assumption⟩
theorem aRr (x0:Nat->Int)(x1:Nat->Int)(x2:Nat->Int)(x3:Nat->Int)(x4:Int)(x5:Int)(x6:Int)(x7:Bool)(h:xJ (x1,x2)):Po (F4 x0 x1 x2 x3 x4 x5 x6 x7) (λr=>NW r.1.1/\xJ r.1.2.1):=by
 unfold F4 aaR;show PW _ _;refine aK (QZ _ _) λs _ hs=> ?_;refine aK (awY _ _ _ h) λv _ hv=> ?_;rw[bQ];intro _ _;rw[bQ];intro _ _;rw[bQ];intro _ _;rw[bD];refine⟨λ_=>by rw[ba];exact⟨hs,hv⟩,λ_=> ?_⟩;refine aK (aUj _ _ _ _ _ hv) λu _ hu=> ?_;rw[bQ];intro _ _;refine aK (a0p _ (by exact hs)) λa _ ha=> ?_;rw[ba];exact⟨ha,hu⟩
theorem a0u:∀(d:pJ.B) (hd:NW d.b.2.1/\xJ d.c.1),Po (QM d) (λx:Eg=>NW x.b.2.1/\xJ x.c.1):=
 qH (λd hd=>by
  unfold QL;try dsimp only
  try dsimp only
  repeat' (first
   |(rw[du];exact trivial)
   |(with_reducible refine aK (aRr _ _ _ _ _ _ _ _ hd.2) λe _ he=> ?_)
   |(rw[bD];refine⟨λ_=> ?_,λ_=> ?_⟩))
  .rw[ba];exact he
  .rw[ba];exact hd)
theorem a2i (x:Le.B)(h:NW x.1.1/\xJ x.1.2.1):Po (F6 x) (λr=>NW r.1.1/\xJ r.1.2.1):=by
 unfold F6 aaU;show PW _ _
 repeat' (first
  |(rw[du];exact trivial)
  |(refine aK (a0u _ (by exact h)) λe _ he=> ?_)
  |(rw[bD];refine⟨λ_=> ?_,λ_=> ?_⟩))
 rw[ba];exact he
def MG (m:Int×Int×Bool×Bool):Prop:=((m.1=0∨m.1=1)/\m.2.1=0/\m.b.1=false/\m.b.2=false)∨((m.1=2∨m.1=3)/\1<=m.2.1/\m.2.1<=3/\(m.b.1=true∨m.1=2))
theorem aY1 (a b:Int)(c d:Bool):Po (Cr a b c d) (λr:Bool=>r=true->0<=a/\a<=3/\0<=b/\b<=3):=by
 unfold Cr Vq;show PW _ _;dsimp only
 repeat' (first
  |(rw[du];exact trivial)
  |(rw[bD];refine⟨λc=> ?_,λc=> ?_⟩<;>try simp only[beq_iff_eq,afW,jG,Ot,ne_eq] at c))
 all_goals (rw[ba];first|(intro h;cases h;done)|(intro _;omega))
theorem aSY (x0:Int)(x1 x2 x3 x4 x5 x6 x7 x8:Bool)(x9 fU fV:Int)(h0:0<=x0)(h1:x0<=3):Po (Cs x0 x1 x2 x3 x4 x5 x6 x7 x8 x9 fU fV) (λr:Int=>0<=r/\r<=3):=by
 unfold Cs Vr;show PW _ _;dsimp only
 repeat' (first
  |(rw[bD];refine⟨λ_=> ?_,λ_=> ?_⟩))
 all_goals (rw[ba];first|exact⟨h0,h1⟩|decide)
theorem aRs (s:Int):∀(d:kK.B) (hd:d.1.1=s),Po (G6 d) (λx:vT=>match x with|.inl v=>(1:Int)<=v/\v<=3|.inr e=>e.1.1=s):=
 qH (λd hd=>by
  unfold G5;dsimp only
  repeat' (first
   |(rw[du];exact trivial)
   |(rw[bQ];intro _ _)
   |(rw[bD];refine⟨λc=> ?_,λc=> ?_⟩<;>try simp only[jG,Ot,EL] at c))
  all_goals (rw[ba];first|exact hd|exact⟨by decide,by decide⟩|exact⟨by assumption,by assumption⟩))
theorem aJs (x0:Int)(x1 x2 x3 x4 x5 x6 x7 x8:Bool)(x9 fU fV:Int)(h1:x0<=3):Po (wB x0 x1 x2 x3 x4 x5 x6 x7 x8 x9 fU fV) (λr=>1<=r.1/\r.1<=3):=by
 unfold wB Mt;show PW _ _;refine aK (aRs x0 _ rfl) λe _ he=> ?_;rw[lx];refine⟨λa ha=> ?_,λa ha=> ?_⟩
 .subst ha;rw[ba];exact he
 .subst ha;rw[ba];have he:a.1.1=x0:=he;show 1<=(if 1>a.1.1 then 1 else a.1.1)/\(if 1>a.1.1 then 1 else a.1.1)<=3;split<;>omega
theorem aOM (x:G7.B):Po (Cu x) (λr=>MG r.1):=by
 unfold Cu Vs;try dsimp only
 show PW _ _;refine aK (aY1 _ _ _ _) λg _ hg=> ?_;rw[bD];refine⟨λ_=> ?_,λhb=> ?_⟩
 .refine aK (aSY 0 _ _ _ _ _ _ _ _ _ _ _ (by decide) (by decide)) λ(n:Int) _ hn=> ?_;rw[bD];refine⟨λc=> ?_,λc=> ?_⟩
  .have c:(2:Int)<=n:=db c;refine aK (aJs 0 _ _ _ _ _ _ _ _ _ _ _ (by decide)) λq _ hq=> ?_;rw[bD];refine⟨λc3=> ?_,λc3=> ?_⟩
   .have c3:=eq_of_beq c3;rw[ba];exact .inr ⟨.inr c3,hq.1,hq.2,.inl rfl⟩
   .have c3:¬n=3:=aEg c3;have n2:n=2:=by omega
    rw[bD];exact⟨λ_=>by rw[ba];exact .inr ⟨.inl n2,hq.1,hq.2,.inr n2⟩,λ_=>by rw[ba];exact .inr ⟨.inl n2,hq.1,hq.2,.inr n2⟩⟩
  .have c:¬(2:Int)<=n:=kD c;have n0:n=0∨n=1:=by omega
   rw[ba];exact .inl ⟨n0,rfl,rfl,rfl⟩
 .have hg:=hg (by cases g with|true=>rfl|false=>cases hb);refine aK (aSY _ _ _ _ _ _ _ _ _ _ _ _ hg.1 hg.2.1) λ(n:Int) _ hn=> ?_;rw[bD];refine⟨λc=> ?_,λc=> ?_⟩
  .have c:(2:Int)<=n:=db c;refine aK (aJs _ _ _ _ _ _ _ _ _ _ _ _ hg.b.2) λq _ hq=> ?_;rw[bD];refine⟨λc3=> ?_,λc3=> ?_⟩
   .have c3:=eq_of_beq c3;rw[ba];exact .inr ⟨.inr c3,hq.1,hq.2,.inl rfl⟩
   .have c3:¬n=3:=aEg c3;have n2:n=2:=by omega
    rw[bD];exact⟨λ_=>by rw[ba];exact .inr ⟨.inl n2,hq.1,hq.2,.inr n2⟩,λ_=>by rw[ba];exact .inr ⟨.inl n2,hq.1,hq.2,.inr n2⟩⟩
  .have c:¬(2:Int)<=n:=kD c;have n0:n=0∨n=1:=by omega
   rw[ba];exact .inl ⟨n0,rfl,rfl,rfl⟩
theorem aY2:∀(d:mo.B) (hd:UQ d.b.2.1.1 d.b.2.1.2.1 d.b.2.1.b.1 d.b.2.1.b.2),Po (JL d) (λx:yC=>UQ x.b.2.1.1 x.b.2.1.2.1 x.b.2.1.b.1 x.b.2.1.b.2):=
 qH (λd hd=>by
  unfold JK;dsimp only
  repeat' (first
   |(rw[du];exact trivial)
   |(with_reducible refine aK (aDu _ _ _ _ _) λu _ hu=> ?_)
   |(rw[bQ];intro _ _)
   |(rw[bD];refine⟨λc=> ?_,λc=> ?_⟩))
  all_goals (rw[ba];first|exact hu|exact hd))
theorem a0v (x0:Nat)(x1:Bool)(x2:Nat->Int)(x3:Nat->Int)(x4:Nat->Int)(x5:Nat->Int)(x6:Nat->Int)(x7:Nat->Int)(x8:Nat->Int)(x9:Nat->Int)(fU:Nat->Int)(fV:Nat->Int)(w0:Bool):Po (Ac x0 x1 x2 x3 x4 x5 x6 x7 x8 x9 fU fV w0) (λr=>UQ r.1.1 r.1.2.1 r.1.b.1 r.1.b.2.1):=by
 unfold Ac QO;try dsimp only
 show PW _ _;rw[bQ];intro _ _;rw[aFi];intro _;rw[bD];refine⟨λ_=> ?_,λ_=>by rw[du];exact trivial⟩;refine aK (aY2 _ aDt) λe _ he=> ?_
 repeat' (first
  |(rw[du];exact trivial)
  |(rw[bQ];intro _ _)
  |(rw[bD];refine⟨λc=> ?_,λc=> ?_⟩))
 rw[ba];exact he
def GF (s:Nat->Int)(v:(Nat->Int)×(Nat->Int))(m:Int×Int×Bool×Bool)(t:(Int×Int×Int×Int)×(Int×Int×Int)×Int×Int×Int):Prop:=NW s/\xJ v/\MG m/\UQ t.1.1 t.1.2.1 t.1.b.1 t.1.b.2
theorem GF.of {s s':Nat->Int}{v v':(Nat->Int)×(Nat->Int)}{m:Int×Int×Bool×Bool}{t:(Int×Int×Int×Int)×(Int×Int×Int)×Int×Int×Int}(h:NW s')(k:xJ v')(g:GF s v m t):GF s' v' m t:=⟨h,k,g.2.2⟩
theorem aSZ (x:rn.B)(h:GF x.2.1.b.1 x.2.1.b.2.1 x.2.1.c.2.1 x.2.1.d.c.b.2.1):Po (jT x) (λr:xm=>GF r.1.b.1 r.1.b.2.1 r.1.c.2.1 r.1.d.c.b.2.1):=by
 unfold jT Da;try dsimp only
 show PW _ _;try dsimp only
 repeat' (first
   |(rw[du];exact trivial)
   |(rw[qw];refine⟨λe0 e1=> ?_,λe0 e1=> ?_⟩)
   |(rw[lx];refine⟨λe0 e1=> ?_,λe0 e1=> ?_⟩)
   |(rw[bD];refine⟨λ_=> ?_,λ_=> ?_⟩)
   |(rw[bQ];intro _ _))
 all_goals first
  |assumption
  |exact GF.of jf.1 jf.2 h
  |exact GF.of fy.1 fy.2 ou
  |exact GF.of oU.1 oU.2 ou
  |exact GF.of Lt.1 Lt.2 ph
  |(rw[ba];first|assumption|exact⟨by assumption,by assumption⟩|(subst e1;assumption)|exact⟨ads,ou.2⟩)
theorem a0w (x:gE.B)(h:GF x.1.b.1 x.1.b.2.1 x.1.c.2.1 x.1.d.c.b.2.1):Po (eB x) (λr:qC=>GF r.b.2.1 r.c.1 r.c.b.1 r.e.1):=by
 unfold eB mD;try dsimp only
 show PW _ _;rw[bQ];intro d _;rw[ba];exact h
theorem aw0 (x:rq.B)(h:GF x.2.1.b.1 x.2.1.b.2.1 x.2.1.c.2.1 x.2.1.d.c.b.2.1):Po (dw x) (λr:xo=>GF r.2.1.1.b.1 r.2.1.1.b.2.1 r.2.1.1.c.2.1 r.2.1.1.d.c.b.2.1):=by
 unfold dw Db;try dsimp only
 show PW _ _;rw[aFi];intro _;refine aK (a2i _ (by exact⟨h.1,h.2.1⟩)) λe _ he=> ?_
 repeat' (first
  |(rw[du];exact trivial)
  |(rw[bQ];intro _ _)
  |(rw[bD];refine⟨λ_=> ?_,λ_=> ?_⟩))
 rw[ba];exact⟨he.1,he.2,h.2.2⟩
theorem aJt (x:oO.B)(h:GF x.2.1.b.1 x.2.1.b.2.1 x.2.1.c.2.1 x.2.1.d.c.b.2.1):Po (gX x) (λr:zq=>GF r.b.1 r.b.2.1 r.c.2.1 r.d.c.b.2.1):=by
 unfold gX zr;try dsimp only
 show PW _ _;try dsimp only
 repeat' (first
   |(rw[du];exact trivial)
   |(rw[qw];refine⟨λe0 e1=> ?_,λe0 e1=> ?_⟩)
   |(rw[lx];refine⟨λe0 e1=> ?_,λe0 e1=> ?_⟩)
   |(rw[bD];refine⟨λ_=> ?_,λ_=> ?_⟩)
   |(rw[bQ];intro _ _))
 all_goals first
  |assumption
  |exact GF.of jf.1 jf.2 h
  |exact GF.of fy.1 fy.2 ou
  |exact GF.of oU.1 oU.2 ou
  |exact GF.of Lt.1 Lt.2 ph
  |(rw[ba];first|assumption|exact⟨by assumption,by assumption⟩|(subst e1;assumption)|exact⟨ads,ou.2⟩)
theorem a0x (x:ry.B)(h:GF x.2.1.b.1 x.2.1.b.2.1 x.2.1.c.2.1 x.2.1.d.c.b.2.1):Po (om x) (λr:xt=>GF r.1.b.1 r.1.b.2.1 r.1.c.2.1 r.1.d.c.b.2.1):=by
 unfold om Dd;try dsimp only
 show PW _ _;try dsimp only
 repeat' (first
   |(rw[du];exact trivial)
   |(with_reducible refine aK (aSZ _ ?_) λe _ ou=> ?_)
   |(with_reducible refine aK (aOL _ _ _ _ _ _ _ _) λe _ jf=> ?_)
   |(with_reducible refine aK (aHV _ _ _ _ _ _ _) λe _ fy=> ?_)
   |(with_reducible refine aK (aUq _ _ _ _ _ _) λe _ oU=> ?_)
   |(rw[qw];refine⟨λe0 e1=> ?_,λe0 e1=> ?_⟩)
   |(rw[lx];refine⟨λe0 e1=> ?_,λe0 e1=> ?_⟩)
   |(rw[bD];refine⟨λ_=> ?_,λ_=> ?_⟩)
   |(rw[bQ];intro _ _))
 all_goals first
  |assumption
  |exact GF.of jf.1 jf.2 h
  |exact GF.of fy.1 fy.2 ou
  |exact GF.of oU.1 oU.2 ou
  |exact GF.of Lt.1 Lt.2 ph
  |(rw[ba];first|assumption|exact⟨by assumption,by assumption⟩|(subst e1;assumption)|exact⟨ads,ou.2⟩)
theorem a0y (x:rv.B)(h:GF x.2.1.b.1 x.2.1.b.2.1 x.2.1.c.2.1 x.2.1.d.c.b.2.1):Po (oi x) (λr:xr=>match r with|.inl e=>GF e.1.b.1 e.1.b.2.1 e.1.c.2.1 e.1.d.c.b.2.1|.inr e=>GF e.1.1.b.1 e.1.1.b.2.1 e.1.1.c.2.1 e.1.1.d.c.b.1):=by
 unfold oi Dc;try dsimp only
 show PW _ _;try dsimp only
 repeat' (first
   |(rw[du];exact trivial)
   |(with_reducible refine aK (a0w _ ?_) λe _ ph=> ?_)
   |(with_reducible refine aK (aSZ _ ?_) λe _ ou=> ?_)
   |(with_reducible refine aK (a2h _ _ _ _ _ _) λe _ Lt=> ?_)
   |(with_reducible refine aK (QZ _ _) λe _ ads=> ?_)
   |(rw[qw];refine⟨λe0 e1=> ?_,λe0 e1=> ?_⟩)
   |(rw[lx];refine⟨λe0 e1=> ?_,λe0 e1=> ?_⟩)
   |(rw[bD];refine⟨λ_=> ?_,λ_=> ?_⟩)
   |(rw[bQ];intro _ _))
 all_goals first
  |assumption
  |exact GF.of jf.1 jf.2 h
  |exact GF.of fy.1 fy.2 ou
  |exact GF.of oU.1 oU.2 ou
  |exact GF.of Lt.1 Lt.2 ph
  |(rw[ba];first|assumption|exact⟨by assumption,by assumption⟩|(subst e1;assumption)|exact⟨ads,ou.2⟩)
theorem aHW (x:kr.B)(h:GF x.2.1.b.1 x.2.1.b.2.1 x.2.1.c.2.1 x.2.1.d.c.b.2.1):Po (ig x) (λr:nA=>match r with|.inl e=>GF e.1.1.b.1 e.1.1.b.2.1 e.1.1.c.2.1 e.1.1.d.c.2.1|.inr e=>GF e.1.b.1 e.1.b.2.1 e.1.c.2.1 e.1.d.c.b.2.1):=by
 unfold ig r9;try dsimp only
 show PW _ _;try dsimp only
 repeat' (first
   |(rw[du];exact trivial)
   |(with_reducible refine aK (a0x _ ?_) λe _ a4z=> ?_)
   |(with_reducible refine aK (aw0 _ ?_) λe _ aMb=> ?_)
   |(with_reducible refine aK (aJt _ ?_) λe _ aY3=> ?_)
   |(rw[qw];refine⟨λe0 e1=> ?_,λe0 e1=> ?_⟩)
   |(rw[lx];refine⟨λe0 e1=> ?_,λe0 e1=> ?_⟩)
   |(rw[bD];refine⟨λ_=> ?_,λ_=> ?_⟩)
   |(rw[bQ];intro _ _))
 all_goals first
  |assumption
  |exact GF.of jf.1 jf.2 h
  |exact GF.of fy.1 fy.2 ou
  |exact GF.of oU.1 oU.2 ou
  |exact GF.of Lt.1 Lt.2 ph
  |(rw[ba];first|assumption|exact⟨by assumption,by assumption⟩|(subst e1;assumption)|exact⟨ads,ou.2⟩)
theorem aON (x:mr.B)(h:GF x.2.1.b.1 x.2.1.b.2.1 x.2.1.c.2.1 x.2.1.d.c.b.2.1):Po (jU x) (λr:vk=>GF r.1.b.1 r.1.b.2.1 r.1.c.2.1 r.1.d.c.b.2.1):=by
 unfold jU vm;try dsimp only
 show PW _ _;try dsimp only
 repeat' (first
   |(rw[du];exact trivial)
   |(with_reducible refine aK (aw0 _ ?_) λe _ aMb=> ?_)
   |(rw[qw];refine⟨λe0 e1=> ?_,λe0 e1=> ?_⟩)
   |(rw[lx];refine⟨λe0 e1=> ?_,λe0 e1=> ?_⟩)
   |(rw[bD];refine⟨λ_=> ?_,λ_=> ?_⟩)
   |(rw[bQ];intro _ _))
 all_goals first
  |assumption
  |exact GF.of jf.1 jf.2 h
  |exact GF.of fy.1 fy.2 ou
  |exact GF.of oU.1 oU.2 ou
  |exact GF.of Lt.1 Lt.2 ph
  |(rw[ba];first|assumption|exact⟨by assumption,by assumption⟩|(subst e1;assumption)|exact⟨ads,ou.2⟩)
theorem aOO (x:mw.B)(h:GF x.2.1.b.1 x.2.1.b.2.1 x.2.1.c.2.1 x.2.1.d.c.b.2.1):Po (jV x) (λr:vn=>GF r.1.b.1 r.1.b.2.1 r.1.c.2.1 r.1.d.c.b.2.1):=by
 unfold jV vo;try dsimp only
 show PW _ _;try dsimp only
 repeat' (first
   |(rw[du];exact trivial)
   |(with_reducible refine aK (aw0 _ ?_) λe _ aMb=> ?_)
   |(rw[qw];refine⟨λe0 e1=> ?_,λe0 e1=> ?_⟩)
   |(rw[lx];refine⟨λe0 e1=> ?_,λe0 e1=> ?_⟩)
   |(rw[bD];refine⟨λ_=> ?_,λ_=> ?_⟩)
   |(rw[bQ];intro _ _))
 all_goals first
  |assumption
  |exact GF.of jf.1 jf.2 h
  |exact GF.of fy.1 fy.2 ou
  |exact GF.of oU.1 oU.2 ou
  |exact GF.of Lt.1 Lt.2 ph
  |(rw[ba];first|assumption|exact⟨by assumption,by assumption⟩|(subst e1;assumption)|exact⟨ads,ou.2⟩)
theorem a0z (x:rz.B)(h:GF x.2.1.b.1 x.2.1.b.2.1 x.2.1.c.2.1 x.2.1.d.c.b.2.1):Po (oo x) (λr:De=>GF r.1.b.1 r.1.b.2.1 r.1.c.2.1 r.1.d.c.b.2.1):=by
 unfold oo Df;try dsimp only
 show PW _ _;try dsimp only
 repeat' (first
   |(rw[du];exact trivial)
   |(with_reducible refine aK (aw0 _ ?_) λe _ aMb=> ?_)
   |(with_reducible refine aK (aJt _ ?_) λe _ aY3=> ?_)
   |(rw[qw];refine⟨λe0 e1=> ?_,λe0 e1=> ?_⟩)
   |(rw[lx];refine⟨λe0 e1=> ?_,λe0 e1=> ?_⟩)
   |(rw[bD];refine⟨λ_=> ?_,λ_=> ?_⟩)
   |(rw[bQ];intro _ _))
 all_goals first
  |assumption
  |exact GF.of jf.1 jf.2 h
  |exact GF.of fy.1 fy.2 ou
  |exact GF.of oU.1 oU.2 ou
  |exact GF.of Lt.1 Lt.2 ph
  |(rw[ba];first|assumption|exact⟨by assumption,by assumption⟩|(subst e1;assumption)|exact⟨ads,ou.2⟩)
theorem aUr (x:oR.B)(h:GF x.2.1.b.1 x.2.1.b.2.1 x.2.1.c.2.1 x.2.1.d.c.b.2.1):Po (lN x) (λr:zA=>GF r.1.b.1 r.1.b.2.1 r.1.c.2.1 r.1.d.c.b.2.1):=by
 unfold lN zB;try dsimp only
 show PW _ _;try dsimp only
 repeat' (first
   |(rw[du];exact trivial)
   |(with_reducible refine aK (aw0 _ ?_) λe _ aMb=> ?_)
   |(rw[qw];refine⟨λe0 e1=> ?_,λe0 e1=> ?_⟩)
   |(rw[lx];refine⟨λe0 e1=> ?_,λe0 e1=> ?_⟩)
   |(rw[bD];refine⟨λ_=> ?_,λ_=> ?_⟩)
   |(rw[bQ];intro _ _))
 all_goals first
  |assumption
  |exact GF.of jf.1 jf.2 h
  |exact GF.of fy.1 fy.2 ou
  |exact GF.of oU.1 oU.2 ou
  |exact GF.of Lt.1 Lt.2 ph
  |(rw[ba];first|assumption|exact⟨by assumption,by assumption⟩|(subst e1;assumption)|exact⟨ads,ou.2⟩)
theorem a2j (x:tM.B)(h:GF x.2.1.b.1 x.2.1.b.2.1 x.2.1.c.2.1 x.2.1.d.c.b.2.1):Po (pQ x) (λr:zC=>match r with|.inl e=>GF e.1.b.1 e.1.b.2.1 e.1.c.2.1 e.1.d.c.b.2.1|.inr e=>GF e.1.1.b.1 e.1.1.b.2.1 e.1.1.c.2.1 e.1.1.d.c.b.2.1):=by
 unfold pQ Ff;try dsimp only
 show PW _ _;try dsimp only
 repeat' (first
   |(rw[du];exact trivial)
   |(with_reducible refine aK (a0y _ ?_) λe _ a4A=> ?_)
   |(with_reducible refine aK (aHW _ ?_) λe _ a0A=> ?_)
   |(with_reducible refine aK (aON _ ?_) λe _ a2k=> ?_)
   |(with_reducible refine aK (aUr _ ?_) λe _ a3O=> ?_)
   |(with_reducible refine aK (aOO _ ?_) λe _ a2l=> ?_)
   |(with_reducible refine aK (a0z _ ?_) λe _ a4B=> ?_)
   |(rw[qw];refine⟨λe0 e1=> ?_,λe0 e1=> ?_⟩)
   |(rw[lx];refine⟨λe0 e1=> ?_,λe0 e1=> ?_⟩)
   |(rw[bD];refine⟨λ_=> ?_,λ_=> ?_⟩)
   |(rw[bQ];intro _ _))
 all_goals first
  |assumption
  |exact GF.of jf.1 jf.2 h
  |exact GF.of fy.1 fy.2 ou
  |exact GF.of oU.1 oU.2 ou
  |exact GF.of Lt.1 Lt.2 ph
  |(rw[ba];first|assumption|exact⟨by assumption,by assumption⟩|(subst e1;assumption)|exact⟨ads,ou.2⟩)
theorem aOP (d:dP.B)(hd:GF d.2.1.b.1 d.2.1.b.2.1 d.2.1.c.2.1 d.2.1.d.c.2.1):Po (qN d) (λx:iH=>GF x.2.1.b.1 x.2.1.b.2.1 x.2.1.c.2.1 x.2.1.d.c.2.1):=
 Ri (s:=_) (λd:dP.B=>GF d.2.1.b.1 d.2.1.b.2.1 d.2.1.c.2.1 d.2.1.d.c.2.1) (λx:iH=>GF x.2.1.b.1 x.2.1.b.2.1 x.2.1.c.2.1 x.2.1.d.c.2.1) (λd hd=>by
  unfold xI;try dsimp only
  try dsimp only
  repeat' (first
   |(rw[du];exact trivial)
   |(rw[qw];refine⟨λe0 e1=> ?_,λe0 e1=> ?_⟩)
   |(rw[lx];refine⟨λe0 e1=> ?_,λe0 e1=> ?_⟩)
   |(rw[bD];refine⟨λ_=> ?_,λ_=> ?_⟩)
   |(rw[bQ];intro _ _))
  all_goals first
   |assumption
   |(rw[ba];first|assumption|exact hd|(subst e1;assumption))
   |exact hd) 2000 d hd
theorem aY4 (x:mO.B)(h:GF x.2.1.b.1 x.2.1.b.2.1 x.2.1.c.2.1 x.2.1.d.c.b.2.1):Po (mP x) (λr:p6=>match r with|.inl e=>GF e.1.b.1 e.1.b.2.1 e.1.c.2.1 e.1.d.c.b.2.1|.inr e=>GF e.1.1.b.1 e.1.1.b.2.1 e.1.1.c.2.1 e.1.1.d.c.2.1):=by
 unfold mP uw;try dsimp only
 show PW _ _;try dsimp only
 have hs:=h.1
 repeat' (first
   |(rw[du];exact trivial)
   |(with_reducible refine aK (a0t _ _ _ _) λt _ ht=> ?_)
   |((with_reducible refine aK (a0r _ _ _ _ _ _ ht hs ?_) λs' _ hs'=> ?_);exact rfl)
   |(with_reducible refine aK (aoy _ _ _ _ _ _ _) λv _ hv=> ?_)
   |(with_reducible refine aK (aOP _ (GF.of hs' hv h)) λl _ hl=> ?_)
   |(rw[qw];refine⟨λe0 e1=> ?_,λe0 e1=> ?_⟩)
   |(rw[lx];refine⟨λe0 e1=> ?_,λe0 e1=> ?_⟩)
   |(rw[bD];refine⟨λ_=> ?_,λ_=> ?_⟩)
   |(rw[bQ];intro _ _))
 all_goals (rw[ba];first|exact h|exact hl)
theorem aRt (d:dI.B)(hd:GF d.2.1.b.1 d.2.1.b.2.1 d.2.1.c.2.1 d.2.1.d.c.b.2.1):Po (tl d) (λx:jB=>GF x.2.1.b.1 x.2.1.b.2.1 x.2.1.c.2.1 x.2.1.d.c.b.2.1):=
 Ri (s:=_) (λd:dI.B=>GF d.2.1.b.1 d.2.1.b.2.1 d.2.1.c.2.1 d.2.1.d.c.b.2.1) (λx:jB=>GF x.2.1.b.1 x.2.1.b.2.1 x.2.1.c.2.1 x.2.1.d.c.b.2.1) (λd hd=>by
  unfold zE;try dsimp only
  try dsimp only
  repeat' (first
   |(rw[du];exact trivial)
   |(with_reducible refine aK (a2j _ ?_) λe _ a45=> ?_)
   |(rw[qw];refine⟨λe0 e1=> ?_,λe0 e1=> ?_⟩)
   |(rw[lx];refine⟨λe0 e1=> ?_,λe0 e1=> ?_⟩)
   |(rw[bD];refine⟨λ_=> ?_,λ_=> ?_⟩)
   |(rw[bQ];intro _ _))
  all_goals first
   |assumption
   |(rw[ba];first|assumption|exact hd|(subst e1;assumption))
   |exact hd) 2000 d hd
theorem aRu (d:eH.B)(hd:GF d.2.1.b.1 d.2.1.b.2.1 d.2.1.c.2.1 d.2.1.d.c.b.2.1):Po (zJ d) (λx:jD=>GF x.2.1.b.1 x.2.1.b.2.1 x.2.1.c.2.1 x.2.1.d.c.b.2.1):=
 Ri (s:=_) (λd:eH.B=>GF d.2.1.b.1 d.2.1.b.2.1 d.2.1.c.2.1 d.2.1.d.c.b.2.1) (λx:jD=>GF x.2.1.b.1 x.2.1.b.2.1 x.2.1.c.2.1 x.2.1.d.c.b.2.1) (λd hd=>by
  unfold zI;try dsimp only
  try dsimp only
  repeat' (first
   |(rw[du];exact trivial)
   |(with_reducible refine aK (aRt _ ?_) λe _ he=> ?_)
   |(rw[qw];refine⟨λe0 e1=> ?_,λe0 e1=> ?_⟩)
   |(rw[lx];refine⟨λe0 e1=> ?_,λe0 e1=> ?_⟩)
   |(rw[bD];refine⟨λ_=> ?_,λ_=> ?_⟩)
   |(rw[bQ];intro _ _))
  all_goals first
   |assumption
   |(rw[ba];first|assumption|exact hd|(subst e1;assumption))
   |exact hd) 2000 d hd
theorem aRv (d:eG.B)(hd:GF d.2.1.b.1 d.2.1.b.2.1 d.2.1.c.2.1 d.2.1.d.c.b.2.1):Po (zG d) (λx:jC=>GF x.2.1.b.1 x.2.1.b.2.1 x.2.1.c.2.1 x.2.1.d.c.b.2.1):=
 Ri (s:=_) (λd:eG.B=>GF d.2.1.b.1 d.2.1.b.2.1 d.2.1.c.2.1 d.2.1.d.c.b.2.1) (λx:jC=>GF x.2.1.b.1 x.2.1.b.2.1 x.2.1.c.2.1 x.2.1.d.c.b.2.1) (λd hd=>by
  unfold zF;try dsimp only
  try dsimp only
  repeat' (first
   |(rw[du];exact trivial)
   |(rw[qw];refine⟨λe0 e1=> ?_,λe0 e1=> ?_⟩)
   |(rw[lx];refine⟨λe0 e1=> ?_,λe0 e1=> ?_⟩)
   |(rw[bD];refine⟨λ_=> ?_,λ_=> ?_⟩)
   |(rw[bQ];intro _ _))
  all_goals first
   |assumption
   |(rw[ba];first|assumption|exact hd|(subst e1;assumption))
   |exact hd) 2000 d hd
theorem aRw (d:iI.B)(hd:GF d.1.b.1 d.1.b.2.1 d.1.c.2.1 d.1.d.c.b.2.1):Po (oS d) (λx:lO=>match x with|.inl x=>GF x.1.2.1 x.2.1.b.1 x.2.1.c.1 x.2.1.d.c.2.1|.inr x=>GF x.2.1.b.1 x.2.1.b.2.1 x.2.1.c.2.1 x.2.1.d.c.b.1):=by
 unfold oS zH;try dsimp only
 show PW _ _;try dsimp only
 repeat' (first
   |(rw[du];exact trivial)
   |(rw[qw];refine⟨λe0 e1=> ?_,λe0 e1=> ?_⟩)
   |(rw[lx];refine⟨λe0 e1=> ?_,λe0 e1=> ?_⟩)
   |(rw[bD];refine⟨λ_=> ?_,λ_=> ?_⟩)
   |(rw[bQ];intro _ _))
 all_goals first
   |assumption
   |(rw[ba];first|assumption|exact hd|(subst e1;assumption))
   |exact hd
theorem aRx (d:iJ.B)(hd:GF d.1.b.1 d.1.b.2.1 d.1.c.2.1 d.1.d.c.b.2.1):Po (oT d) (λx:lP=>match x with|.inl x=>GF x.1.2.1 x.2.1.b.1 x.2.1.c.1 x.2.1.d.c.2.1|.inr x=>GF x.2.1.b.1 x.2.1.b.2.1 x.2.1.c.2.1 x.2.1.d.c.b.1):=by
 unfold oT zK;try dsimp only
 show PW _ _;try dsimp only
 repeat' (first
   |(rw[du];exact trivial)
   |(with_reducible refine aK (aOM _) λmm _ hm=> ?_)
   |(with_reducible refine aK (a0v _ _ _ _ _ _ _ _ _ _ _ _ _) λjj _ hj=> ?_)
   |(with_reducible refine aK (aRw _ ?_) λe _ he=> ?_)
   |(rw[qw];refine⟨λe0 e1=> ?_,λe0 e1=> ?_⟩)
   |(rw[lx];refine⟨λe0 e1=> ?_,λe0 e1=> ?_⟩)
   |(rw[bD];refine⟨λ_=> ?_,λ_=> ?_⟩)
   |(rw[bQ];intro _ _))
 all_goals first
   |assumption
   |(rw[ba];first|assumption|exact hd|(subst e1;assumption))
   |exact⟨hd.1,hd.2.1,hm,hj⟩
   |exact⟨hd.1,hd.2.1,hm,hd.b.2⟩
   |exact hd
theorem aRy (d:iK.B)(hd:GF d.1.b.1 d.1.b.2.1 d.1.c.2.1 d.1.d.c.b.2.1):Po (lR d) (λx:lQ=>match x with|.inl x=>GF x.1.2.1 x.2.1.b.1 x.2.1.c.1 x.2.1.d.c.2.1|.inr x=>GF x.2.1.b.1 x.2.1.b.2.1 x.2.1.c.2.1 x.2.1.d.c.b.1):=by
 unfold lR zL;try dsimp only
 show PW _ _;try dsimp only
 repeat' (first
   |(rw[du];exact trivial)
   |(with_reducible refine aK (aRu _ ?_) λe _ he=> ?_)
   |(with_reducible refine aK (aRv _ ?_) λe _ he=> ?_)
   |(with_reducible refine aK (aRx _ ?_) λe _ he=> ?_)
   |(rw[qw];refine⟨λe0 e1=> ?_,λe0 e1=> ?_⟩)
   |(rw[lx];refine⟨λe0 e1=> ?_,λe0 e1=> ?_⟩)
   |(rw[bD];refine⟨λ_=> ?_,λ_=> ?_⟩)
   |(rw[bQ];intro _ _))
 all_goals first
   |assumption
   |(rw[ba];first|assumption|exact hd|(subst e1;assumption))
   |exact hd
theorem a0B (x:oq.B)(h:GF x.2.1.b.1 x.2.1.b.2.1 x.2.1.c.2.1 x.2.1.d.c.b.2.1):Po (ot x) (λr:rB=>GF r.1.1.b.1 r.1.1.b.2.1 r.1.1.c.2.1 r.1.1.d.c.b.2.1):=by
 unfold ot xA;try dsimp only
 show PW _ _;try dsimp only
 repeat' (first
   |(rw[du];exact trivial)
   |(with_reducible refine aK (aY4 _ ?_) λe _ he=> ?_)
   |(with_reducible refine aK (aRp _ _ _ _ _ _ _ _ _ _ _ _ _) λv _ hv=> ?_)
   |(with_reducible refine aK (aY0 _ _ _ _ _ _ _ _ _ _) λs _ hs=> ?_)
   |(with_reducible refine aK (aRy _ ?_) λq _ hq=> ?_)
   |(rw[qw];refine⟨λe0 e1=> ?_,λe0 e1=> ?_⟩)
   |(rw[lx];refine⟨λe0 e1=> ?_,λe0 e1=> ?_⟩)
   |(rw[bD];refine⟨λ_=> ?_,λ_=> ?_⟩)
   |(rw[bQ];intro _ _))
 all_goals first
   |assumption
   |exact h
   |exact GF.of hs hv h
   |(subst e1;assumption)
   |(rw[ba];first|assumption|(subst e1;exact hq))
   |skip
theorem aOQ (w:Int×Int×(Int×Int×Int)×Int×Int×Int):∀(d:kq.B) (hd:0<=d.1/\d.1<=3/\d.2.1=w.1),Ok (JP d) (λx:yD=>match x with|.inl _=>True|.inr e=>e.2.1=w.1):=
 bV (λd:kq.B=>z4 (3-d.1)) (λd hd=>by
  have hw:wI (d.1+1)=d.1+1:=aZ;unfold JO;simp only[bU];simp only[nf,o7,uq,hw];repeat' (first|exact True.intro|exact hd.2.2|omega|(intro _)|(apply And.intro))) (λd hd=>by omega)
theorem aUt (x0:Int)(x1:Int)(x2:Int)(x3:Int)(x4:Int)(x5:Int)(x6:Int)(x7:Int):Ok (Ao x0 x1 x2 x3 x4 x5 x6 x7) (λr=>r=true->0<=x0):=by
 unfold Ao QS;show PQ _ _;refine ax (aOQ (x0,x1,(x2,x3,x4),x5,x6,x7) _ ⟨dW 0,(show(0:Int)<=3 by decide),rfl⟩) λd _ hd=> ?_;rw[tw];refine⟨λa _=>by rw[aw];intro h;exact absurd h (by decide),λa ha=> ?_⟩;rw[ha] at hd;have hd:a.2.1=x0:=hd;rw[aL];refine⟨λ_=> ?_,λ_=>by rw[aw];intro h;exact absurd h (by decide)⟩;rw[aL];refine⟨λ_=> ?_,λ_=>by rw[aw];intro h;exact absurd h (by decide)⟩;rw[aL];refine⟨λc=> ?_,λ_=>by rw[aw];intro h;exact absurd h (by decide)⟩;rw[aw];have c:=db c;intro _;omega
theorem aJu (x:Ek.B):Ok (Ap x) (λr=>r.1.1=x.1.2.1):=by
 unfold Ap QU;try dsimp only
 show PQ _ _;rw[bL];intro _ _;rw[bL];intro _ _;rw[aw]
theorem aY5 (x:oK.B)(h:x.2.1.2.2=false->x.2.1.2.1.1<=0):Ok (jt x) (λr=>(r.2.1.2.2=false->r.2.1.2.1.1<=0)/\x.2.1.2.1.1<=r.2.1.2.1.1/\(r.1.2.1=true->r.1.1.1=r.2.1.2.1.1)):=by
 unfold jt zj;try dsimp only
 show PQ _ _;refine ax (aUt _ _ _ _ _ _ _ _) λd _ hd=> ?_;rw[aL];refine⟨λ_=>by rw[aw];exact⟨h,dW _,(λh=>nomatch h)⟩,λc=> ?_⟩;have c:d=true:=by cases d<;>first|rfl|cases c
 have hx:0<=x.1.1:=hd c;rw[aL];refine⟨λ_=> ?_,λca=> ?_⟩
 .rw[aL];refine⟨λ_=>by rw[aw];exact⟨h,dW _,(λh=>nomatch h)⟩,λcb=> ?_⟩;have cb:=kD cb;refine ax (aJu _) λe _ he=> ?_;have he:e.1.1=x.1.1:=he;rw[aL];refine⟨λ_=> ?_,λ_=> ?_⟩
  .rw[aw];exact⟨(λh=>nomatch h),by show x.2.1.2.1.1<=e.1.1;omega,(λh=>nomatch h)⟩
  .rw[aw];exact⟨(λh=>nomatch h),by show x.2.1.2.1.1<=x.1.1;omega,λ_=>he⟩
 .have h:=h ca;refine ax (aJu _) λe _ he=> ?_;have he:e.1.1=x.1.1:=he;rw[aL];refine⟨λ_=> ?_,λ_=> ?_⟩
  .rw[aw];exact⟨(λh=>nomatch h),by show x.2.1.2.1.1<=e.1.1;omega,(λh=>nomatch h)⟩
  .rw[aw];exact⟨(λh=>nomatch h),by show x.2.1.2.1.1<=x.1.1;omega,λ_=>he⟩
def Qd (T S:Int)(n:Nat)(r:Nat->Int):Prop:=T<=S/\∀i k,i<=k->k<n->T<=r i/\r i<=r k/\r k<=S
theorem Qd.pop {T S:Int}{n:Nat}{r q:Nat->Int}(h:Qd T S n r)(hn:1<=n)(e:∀i,q i=r (i+1)):T<=r 0/\Qd (r 0) S (n-1) q:=by
 have a:=h.2 0 0 (cR _) (by omega);refine⟨a.1,SU a.2.1 a.2.2,λi k p l=> ?_⟩;have b:=h.2 (i+1) (k+1) (by omega) (by omega);have c:=h.2 0 (i+1) (by omega) (by omega);rw[e,e];exact⟨c.2.1,b.2⟩
theorem Qd.push {T S j:Int}{n:Nat}{r q:Nat->Int}(h:Qd T S n r)(l:S<=j)(e:∀i,i<n->q i=r i)(en:q n=j):Qd T j (n+1) q:=by
 refine⟨SU h.1 l,λi k p l2=> ?_⟩;have hT:=h.1;by_cases hk:k<n
 .rw[e i (by omega),e k hk];have a:=h.2 i k p hk;exact⟨a.1,a.2.1,SU a.2.2 l⟩
 .have hk:k=n:=by omega
  subst hk;rw[en];by_cases hi:i<k
  .rw[e i hi];have a:=h.2 i i (cR _) hi;exact⟨a.1,SU a.2.2 l,dW _⟩
  .have hi:i=k:=by omega
   subst hi;rw[en];exact⟨SU hT l,dW _,dW _⟩
theorem Qd.up {T S j:Int}{n:Nat}{r q:Nat->Int}(h:Qd T S n r)(l:S<=j)(e:∀i,q i=r i):Qd T j n q:=
 ⟨SU h.1 l,λi k p l2=>by rw[e,e];have a:=h.2 i k p l2;exact⟨a.1,a.2.1,SU a.2.2 l⟩⟩
end Go.Proofs.YtldgljclcgaibaaGreat
