/-
  Parts of the proof: Q6 TSp TGa TGu TGs TGm TGf TGg TDn TGo
-/
import Derived.Test.YtldgljclcgaibaaGreatZAE
import Derived.Test.YtldgljclcgaibaaGreatZAG
import Derived.Test.YtldgljclcgaibaaGreatZAH
import Derived.Test.YtldgljclcgaibaaGreatZAK
open Nat renaming beq→z9,ble→wr,blt→wl
open Int renaming toNat→z4,ofNat→ws
open Sum renaming inl→w7,inr→ww,elim→v4
set_option linter.unusedVariables false
set_option linter.unusedSimpArgs false
set_option maxRecDepth 100000
set_option maxHeartbeats 4000000
noncomputable section
namespace Go.Proofs.YtldgljclcgaibaaGreat
open Go.Ab Go.Ab.Pg Go.Ab.Rq
def mn:=qa (pr (cu jq abD) (cd wQ λb0=>(c m6 (c oG (c (cl (gs b0.c.1 pK) nil) (cd yd λb4=>(cd rb λb5=>(cd re λb6=>(cd rf λb7=>(cd rj λb8=>(cd rm λb9=>(c nK (cd Ap λBV=>(c (cl (gs b0.e mN) nil) (c (cl (gs b4.b.1 aC) nil) (c (cl (gs b5.b.1 aC) nil) (c (cl (gs b6.b.1 aC) nil) (c (cl (gs b7.b.1 aC) nil) (c (cl (gs b8.b.1 aC) nil) (c (cl (gs b9.b.1 aC) nil) (cl (cl (gs BV.b jJ) nil) nil)))))))))))))))))))))
def apP:=qe (res (pu Q8 (pr (c (An (a 26 rn (c gb (c gK (a 2 sU (cu akz (cu akA (c aKu (au 6 akJ (cu auq (a 4 yb (cu aur (c gb (c gi (a 3 kv (c gb (c gb (c gb (c gi (c gi (c gi (a 10 wP (cl (gc (fO (pu aDQ (pu (ox (pu db (pu db (nat 10)))) (pl gT (pu (nat 10) fR)))))) nil))))))))))))))))))))))) (cu fN (cu fN (cu fN (c (An aQ7) (c (An asz) (c (An aYs) (c (An aYt) (c (An aYu) (c (An aYv) (c aD9 (cl (An (c gi (c gi (cl (gc (fO (pu (nat 27) (pu (ox (pu db (pu db NR))) (pl gT (pu NR fR)))))) nil)))) (cu fN aXL))))))))))))) aKD)))
abbrev rY:=(((GJ×Bool×NI×(NI×NI)×Nat×se×Bool×Int×lJ×Bool×Bool×Bool×Int×Int×Int×Fv×Nat)×bY×bY×bY×bY×bY×bY×Lw×Int×Int×Nat)×Fz×cY×cY×cY×cY×cY×cY×Nat×NI×NI×NI×NI×NI×NI×NI×NI×NI×NI×NI)
def Za:rY->T:=λd=>lf apP (d.1,d.2.1,(d.1.2.1.b.1,d.b.1),(d.1.b.1.b.1,d.b.2.1),(d.1.b.2.1.b.1,d.c.1),(d.1.c.1.b.1,d.c.2.1),(d.1.c.2.1.b.1,d.c.b.1),(d.1.c.b.1.b.1,d.c.b.2.1),d.d)
abbrev KR:=mn.B->Option rY
def Zb (g:KR):Ct:=(64,FC mn Za g)
def dw:=qs (st (dp (cu jq (us 2 (cu ZJ (cu Oj (c ai (us 53 (c ai (us 10 (c (ac aQV) (c ai (cl ai (us 126 nil)))))))))))) λv=>(pl (c aEn (c m7 (c m8 (c oF (cd J7 λb4=>(cd J8 λb5=>(cd J9 λb6=>(cd J' λb7=>(cd Ka λb8=>(cd afQ λb9=>(c lO (c afP (c vd (cu nO (cu nO (cu nO (cu nO (cu nO (cu nO (cu nO (c FD (c (so (cl (gs v.b.1 aC) nil)) (c vd (c (so (cl (gs b4.b.1 aC) nil)) (c (so (cl (gs b5.b.1 aC) nil)) (c (so (cl (gs b6.b.1 aC) nil)) (c (so (cl (gs b7.b.1 aC) nil)) (c (so (cl (gs b8.b.1 aC) nil)) (c (so (cl (gs b9.b.1 aC) nil)) HU))))))))))))))))))))))))))))) V9)))
def aoh:=qs (st (pr (cu jq (us 2 (cu ZJ (cu Oj (c ai (us 53 (c ai (us 10 (c (ac aQV) (c ai (c ai (cl ab (us 125 nil))))))))))))) (pl (c aEn (c m7 (c m8 (c oF (c J7 (c J8 (c J9 (c J' (c Ka (c afQ (c lO (c afP (c vd (cu nO (cu nO (cu nO (cu nO (cu nO (cu nO (cu nO (c FD (c HT Bj)))))))))))))))))))))) V9)))
abbrev jT:=((Int×Int×Nat×Int×Int×Bool)×(GJ×Bool×NI×(NI×NI)×Nat×se×Bool×Int×lJ×Bool×Bool×Bool×Int×Int×Int×Fv×Nat)×(lJ×Int×Int)×NQ×SM×bY×bY×bY×bY×bY×bY×Lw×uG×Fz×aDP×cY×Fz×cY×cY×cY×cY×cY×cY×Nat×NI×NI×NI×NI×NI×NI×NI×NI×NI×NI×NI)
def Sq {ρ:Type}(x:jT)(K:AX->St->Option ρ):Option ρ:=(λd=>K (.ex 2) (aoh.em (d.1,d.2.1,d.b.1,d.b.2.1,d.c.1,d.c.2.1,d.c.b.1,d.c.b.2.1,d.d.1,d.d.2.1,d.d.b.1,d.d.b.2.1,d.d.c.1,d.d.c.2.1,d.d.c.b.1,(d.1.b.1,d.d.c.b.2.1),d.e.1,(d.c.2.1.b.1,d.e.2.1),(d.c.b.1.b.1,d.e.b.1),(d.c.b.2.1.b.1,d.e.b.2.1),(d.d.1.b.1,d.e.c.1),(d.d.2.1.b.1,d.e.c.2.1),(d.d.b.1.b.1,d.e.c.b.1),d.e.c.b.2))) x
def Aa (aw0:Ny)(d:dw.B):PL dw jT:=let bo:=d.2.1.2.2.2.2;let n15:=bo.2.2.2.2.2.2.2.2.2.2.2.2;let n8:=d.1.2.2;let n18:=n8.2.2;let n6:=d.2.2.2;let bM:=n6.2.2.1;let n3:=n6.2.2.2;let n16:=n3.2.1;let cm:=n3.2.2.1;let n7:=n3.2.2.2;let n17:=n7.2.1;let n2:=n7.2.2.2;let n5:=n2.2.2.2;let bH:=n5.2.2.2.2;let bk:=n5.1.2.2.2;let n4:=bH.2.2.2.2.2;let n9:=n4.2.2.2.2.2;let n1:=(d.1.1,d.1.2.1,n8.1,n8.2.1,wI (n18+1));let y0:=0+z4 n18;let y1:=decide (n18<n8.2.1);ae y1 (ae (aZ n18 n8.1) (ae (z9 bo.1 bo.1) (ae (z9 n15 n15) (ae (z9 bM.2.2.1 bM.2.2.1) (ae (z9 n3.1.2.2.1 n3.1.2.2.1) (ae (z9 n16.2.2.1 n16.2.2.1) (ae (z9 cm.2.2.1 cm.2.2.1) (ae (z9 n7.1.2.2.1 n7.1.2.2.1) (ae (z9 n17.2.2.1 n17.2.2.1) (ae (z9 n2.1.2.2 n2.1.2.2) (opt (aw0 ((d.1.1,n5.1.1 y0,n5.1.2.1 y0,n5.1.2.2.1 y0,bk.1 y0,bk.2.1 y0,bk.2.2.1 y0,bk.2.2.2.1 y0,bk.2.2.2.2.1 y0,bk.2.2.2.2.2 y0),d.2.1,d.2.2.1,n6.1,(sh8 0 n6.2.1.2),bM,n3.1,n16,cm,n7.1,n17,n7.2.2.1,n2.1,(aMV 0 n5.2.1.2),(Va 0 n5.2.2.1),(Va 0 n5.2.2.2.1),(Va 0 bH.1),(Va 0 bH.2.1),(Va 0 bH.2.2.1),(Va 0 bH.2.2.2.1),λj=>n4.1 (0+j),λj=>n4.2.1 (0+j),λj=>n4.2.2.1 (0+j),λj=>n4.2.2.2.1 (0+j),λj=>n4.2.2.2.2.1 (0+j),λj=>n9.1 (0+j),λj=>n9.2.1 (0+j),λj=>n9.2.2.1 (0+j),λj=>n9.2.2.2.1 (0+j),λj=>n9.2.2.2.2.1 (0+j),λj=>n9.2.2.2.2.2 (0+j))) λak=>sm ak (λaJ=>ret (w7 (n1,aJ.1,d.2.2.1,n6.1,n6.2.1,bM,n3.1,n16,cm,n7.1,n17,aJ.2,n2))) (λaJ=>ret (w7 (n1,aJ.1.1,d.2.2.1,n6.1,n6.2.1,bM,n3.1,n16,cm,n7.1,n17,aJ.1.2,n2.1,n2.2.1,n2.2.2.1,n5.1,(aJ.1.1.2.2.2.2.2.2.2.2.2.2.2.2.2.2.2.2,aJ.2),n5.2.2)))) no) no) no) no) no) no) no) no) no) no) (ret (ww ((d.1.1,d.1.2.1,n8.1,n8.2.1,n18,y1),d.2)))
def pD:=bG (Aa nA) 2000
def dS:=qs (st (pr (cu jq (us 2 (cu ZJ (cu Oj (us 3 (cu aWW (us 92 (cl ai (us 97 nil))))))))) (pl (c aEn (c m7 (c m8 (c oF (cd J7 λb4=>(cd J8 λb5=>(cd J9 λb6=>(cd J' λb7=>(cd Ka λb8=>(cd afQ λb9=>(c lO (c afP (c vd (cu nO (cu nO (cu nO (cu nO (cu nO (cu nO (cu nO (c FD (c aYj (c vd (c (so (cl (gs b4.b.1 aC) nil)) (c (so (cl (gs b5.b.1 aC) nil)) (c (so (cl (gs b6.b.1 aC) nil)) (c (so (cl (gs b7.b.1 aC) nil)) (c (so (cl (gs b8.b.1 aC) nil)) (c (so (cl (gs b9.b.1 aC) nil)) HU))))))))))))))))))))))))))))) V9)))
def aoi:=qs (st (pr (cu jq (us 2 (cu ZJ (cu Oj (us 3 (cu aWW (us 92 (c ai (cl ab (us 96 nil)))))))))) (pl (c aEn (c m7 (c m8 (c oF (c J7 (c J8 (c J9 (c J' (c Ka (c afQ (c lO (c afP (c vd (cu nO (cu nO (cu nO (cu nO (cu nO (cu nO (cu nO (c FD (c aYj Bj)))))))))))))))))))))) V9)))
abbrev jU:=((Int×Bool)×(GJ×Bool×NI×(NI×NI)×Nat×se×Bool×Int×lJ×Bool×Bool×Bool×Int×Int×Int×Fv×Nat)×(lJ×Int×Int)×NQ×SM×bY×bY×bY×bY×bY×bY×Lw×uG×Fz×aDP×(Bool×Bool×Bool×Bool×Bool×Bool×Bool×Bool×Int×Int)×Fz×cY×cY×cY×cY×cY×cY×Nat×NI×NI×NI×NI×NI×NI×NI×NI×NI×NI×NI)
def Sr {ρ:Type}(x:jU)(K:AX->St->Option ρ):Option ρ:=(λd=>K (.ex 4) (aoi.em (d.1,d.2.1,d.b.1,d.b.2.1,d.c.1,d.c.2.1,d.c.b.1,d.c.b.2.1,d.d.1,d.d.2.1,d.d.b.1,d.d.b.2.1,d.d.c.1,d.d.c.2.1,d.d.c.b.1,d.d.c.b.2.1,d.e.1,(d.c.2.1.b.1,d.e.2.1),(d.c.b.1.b.1,d.e.b.1),(d.c.b.2.1.b.1,d.e.b.2.1),(d.d.1.b.1,d.e.c.1),(d.d.2.1.b.1,d.e.c.2.1),(d.d.b.1.b.1,d.e.c.b.1),d.e.c.b.2))) x
def Ac (adv:AB)(d:dS.B):PL dS jU:=let n15:=d.2.1;let n7:=d.2.2;let n16:=n7.2.1;let n8:=n7.2.2.1;let n2:=n7.2.2.2;let n17:=n2.2.1;let n9:=n2.2.2.1;let n4:=n2.2.2.2;let n18:=n4.2.1;let bk:=n4.2.2.1;let n1:=n4.2.2.2;let n19:=n1.2.1;let bH:=n1.1.1.2;let bo:=n1.2.2.1;let n6:=n1.2.2.2;let n20:=n6.2.2;let n3:=n6.2.1;let n21:=n3.2.1;let bM:=n3.2.2.1;let n5:=n3.2.2.2;let cm:=n5.2.2;let y0:=wI (d.1+1);let y1:=decide (d.1<6);ae y1 (opt (adv d.1 n6.1.1 n1.1.1.1 bH.1 bH.2.1 bH.2.2.1 bH.2.2.2.1 bH.2.2.2.2 n1.1.2) λak=>ae (aZ d.1 6) (ae (d.1==5) (ret (w7 (y0,n15,n7.1,n16,n8,n2.1,n17,n9,n4.1,n18,bk,n1.1,n19,bo,n6.1,(n3.1,n21,bM,n5.1,n5.2.1,cm.1,cm.2.1,ak,cm.2.2.2),n20))) (ae (d.1==4) (ret (w7 (y0,n15,n7.1,n16,n8,n2.1,n17,n9,n4.1,n18,bk,n1.1,n19,bo,n6.1,(n3.1,n21,bM,n5.1,n5.2.1,cm.1,ak,cm.2.2),n20))) (ae (d.1==3) (ret (w7 (y0,n15,n7.1,n16,n8,n2.1,n17,n9,n4.1,n18,bk,n1.1,n19,bo,n6.1,(n3.1,n21,bM,n5.1,n5.2.1,ak,cm.2),n20))) (ae (d.1==2) (ret (w7 (y0,n15,n7.1,n16,n8,n2.1,n17,n9,n4.1,n18,bk,n1.1,n19,bo,n6.1,(n3.1,n21,bM,n5.1,ak,cm),n20))) (ae (d.1==1) (ret (w7 (y0,n15,n7.1,n16,n8,n2.1,n17,n9,n4.1,n18,bk,n1.1,n19,bo,n6.1,(n3.1,n21,bM,ak,n5.2),n20))) (ret (w7 (y0,n15,n7.1,n16,n8,n2.1,n17,n9,n4.1,n18,bk,n1.1,n19,bo,n6.1,(n3.1,n21,ak,n5),n20)))))))) no) (ret (ww ((d.1,y1),d.2)))
def tK:=bG (Ac nV) 2000
def gE:=qs (st (pu aYf (pl (c axE (c m7 (c m8 (c oF (cd (so asz) λb4=>(cd J7 λb5=>(cd J8 λb6=>(cd J9 λb7=>(cd J' λb8=>(cd Ka λb9=>(c lO (c axy (c vd (cu nO (cu nO (cu nO (cu nO (cu nO (cu nO (cu nO (c FD (c vd (c (so (cl (gs b4.b.1 aC) nil)) (c (so (cl (gs b5.b.1 aC) nil)) (c (so (cl (gs b6.b.1 aC) nil)) (c (so (cl (gs b7.b.1 aC) nil)) (c (so (cl (gs b8.b.1 aC) nil)) (c (so (cl (gs b9.b.1 aC) nil)) HU)))))))))))))))))))))))))))) V9)))
def afp:=qs aRj
def afq:=qs aRi
abbrev mo:=((Bool×NI×Int×Int)×(GJ×Bool×(NI×NI)×Nat×se×Int×lJ×Bool×Bool×Bool×Int×Int×Int×Fv×Nat)×(lJ×Int×Int)×NQ×SM×bY×bY×bY×bY×bY×bY×Lw×uG×Fz×aS0×Fz×cY×cY×cY×cY×cY×cY×Nat×NI×NI×NI×NI×NI×NI×NI×NI×NI×NI×NI)⊕(Bool×(GJ×Bool×NI×(NI×NI)×Nat×se×Int×lJ×Bool×Bool×Bool×Int×Int×Int×Fv×Nat)×(lJ×Int×Int)×NQ×SM×bY×bY×bY×bY×bY×bY×Lw×uG×Fz×aDP×Fz×cY×cY×cY×cY×cY×cY×Nat×NI×NI×NI×NI×NI×NI×NI×NI×NI×NI×NI)
def Ss {ρ:Type}(x:mo)(K:AX->St->Option ρ):Option ρ:=(v4 (λd=>K .nrm (afp.em (d.1,(d.2.1.1,d.2.1.2.1,d.1.2.1,d.2.1.b.1,d.2.1.b.2.1,d.2.1.c.1,d.1.1,d.2.1.c.2),d.b.1,d.b.2.1,d.c.1,d.c.2.1,d.c.b.1,d.c.b.2.1,d.d.1,d.d.2.1,d.d.b.1,d.d.b.2.1,d.d.c.1,d.d.c.2.1,(d.1.b.1,d.d.c.b.1),d.d.c.b.2.1,(d.c.2.1.b.1,d.e.1),(d.c.b.1.b.1,d.e.2.1),(d.c.b.2.1.b.1,d.e.b.1),(d.d.1.b.1,d.e.b.2.1),(d.d.2.1.b.1,d.e.c.1),(d.d.b.1.b.1,d.e.c.2.1),d.e.c.b))) (λd=>K .nrm (afq.em (d.1,(d.2.1.1,d.2.1.2.1,d.2.1.b.1,d.2.1.b.2.1,d.2.1.c.1,d.2.1.c.2.1,d.1,d.2.1.c.b),d.b.1,d.b.2.1,d.c.1,d.c.2.1,d.c.b.1,d.c.b.2.1,d.d.1,d.d.2.1,d.d.b.1,d.d.b.2.1,d.d.c.1,d.d.c.2.1,d.d.c.b.1,d.d.c.b.2.1,(d.c.2.1.b.1,d.e.1),(d.c.b.1.b.1,d.e.2.1),(d.c.b.2.1.b.1,d.e.b.1),(d.d.1.b.1,d.e.b.2.1),(d.d.2.1.b.1,d.e.c.1),(d.d.b.1.b.1,d.e.c.2.1),d.e.c.b)))) x
def Ad (V2:vR)(d:gE.B):Pg mo:=let bH:=d.1.2;let n6:=d.2.2.2.2.2;let cm:=n6.2.2.2;let n5:=bH.2.2;let bo:=n5.2.2;let n2:=cm.2.2.2;let bM:=n2.2.2;let n8:=bM.2.2.2;let n1:=n8.2.2.2.2.2;let n9:=n1.2.2.2;let n3:=n9.2.2.2;let bk:=n3.2.2.2;ae bo.2.1 (ae (z9 n2.1.2.2 n2.1.2.2) (opt (V2 ((bH.2.1,bM.1.1),n2.1,bH.1,λj=>n1.2.1 (0+j),λj=>n1.2.2.1 (0+j),λj=>n9.1 (0+j),λj=>n9.2.1 (0+j),λj=>n9.2.2.1 (0+j),λj=>n3.1 (0+j),λj=>n3.2.1 (0+j),λj=>n3.2.2.1 (0+j),λj=>bk.1 (0+j),λj=>bk.2.1 (0+j),λj=>bk.2.2 (0+j))) λak=>let n4:=ak.2.2;let n7:=n4.2.2.2.2.2;let n15:=n7.2.2.2;let y0:=n4.1*11+0;ae (true&&z9 y0 (n2.1.2.2*11)&&true) (ae (true&&wr (0+y0) (n1.1*11+0)) (ret (w7 ((bo.2.1,bH.2.1,bM.1.1,ak.1),(d.1.1,ak.2.1,n5.1,n5.2.1,bo.1,bo.2.2),d.2.1,d.2.2.1,d.2.2.2.1,d.2.2.2.2.1,n6.1,n6.2.1,n6.2.2.1,cm.1,cm.2.1,cm.2.2.1,n2.1,n2.2.1,bM.1.2,bM.2.1,bM.2.2.1,n8.1,n8.2.1,n8.2.2.1,n8.2.2.2.1,n8.2.2.2.2.1,n1.1,λj=>bif true&&wl j (0+n4.1) then n4.2.1 j else n1.2.1 j,λj=>bif true&&wl j (0+n4.1) then n4.2.2.1 j else n1.2.2.1 j,λj=>bif true&&wl j (0+n4.1) then n4.2.2.2.1 j else n9.1 j,λj=>bif true&&wl j (0+n4.1) then n4.2.2.2.2.1 j else n9.2.1 j,λj=>bif true&&wl j (0+n4.1) then n7.1 j else n9.2.2.1 j,λj=>bif true&&wl j (0+n4.1) then n7.2.1 j else n3.1 j,λj=>bif true&&wl j (0+n4.1) then n7.2.2.1 j else n3.2.1 j,λj=>bif true&&wl j (0+n4.1) then n15.1 j else n3.2.2.1 j,λj=>bif true&&wl j (0+n4.1) then n15.2.1 j else bk.1 j,λj=>bif true&&wl j (0+n4.1) then n15.2.2.1 j else bk.2.1 j,λj=>bif true&&wl j (0+n4.1) then n15.2.2.2 j else bk.2.2 j))) no) no) no) (ret (ww (bo.2.1,(d.1.1,bH.1,bH.2.1,n5.1,n5.2.1,bo.1,bo.2.2),d.2)))
def mq (d:gE.B):Option mo:=(Ad iO d).val
def dU:=qs (st (pr (cu jq (us 2 (cu ZJ (cu Oj (us 54 (cl ai (us 139 nil))))))) (pl (c axE (c m7 (c m8 (c oF (cd (so asz) λb4=>(cd J7 λb5=>(cd J8 λb6=>(cd J9 λb7=>(cd J' λb8=>(cd Ka λb9=>(c lO (c axy (c vd (cu nO (cu nO (cu nO (cu nO (cu nO (cu nO (cu nO (c FD (c vd (c (so (cl (gs b4.b.1 aC) nil)) (c (so (cl (gs b5.b.1 aC) nil)) (c (so (cl (gs b6.b.1 aC) nil)) (c (so (cl (gs b7.b.1 aC) nil)) (c (so (cl (gs b8.b.1 aC) nil)) (c (so (cl (gs b9.b.1 aC) nil)) HU)))))))))))))))))))))))))))) V9)))
def aoj:=qs (st (pr (cu jq (us 2 (cu ZJ (cu Oj (us 54 (c ai (cl ab (us 138 nil)))))))) (pl (c axE (c m7 (c m8 (c oF (c (so asz) (c J7 (c J8 (c J9 (c J' (c Ka (c lO (c axy (c vd (cu nO (cu nO (cu nO (cu nO (cu nO (cu nO (cu nO (c FD Bj))))))))))))))))))))) V9)))
abbrev jV:=((Int×Bool)×(GJ×Bool×NI×(NI×NI)×Nat×se×Bool×Int×lJ×Bool×Bool×Bool×Int×Int×Int×Fv×Nat)×(lJ×Int×Int)×NQ×SM×bY×bY×bY×bY×bY×bY×Lw×uG×Fz×aDP×Fz×cY×cY×cY×cY×cY×cY×Nat×NI×NI×NI×NI×NI×NI×NI×NI×NI×NI×NI)
def Su {ρ:Type}(x:jV)(K:AX->St->Option ρ):Option ρ:=(λd=>K (.ex 0) (aoj.em (d.1,d.2.1,d.b.1,d.b.2.1,d.c.1,d.c.2.1,d.c.b.1,d.c.b.2.1,d.d.1,d.d.2.1,d.d.b.1,d.d.b.2.1,d.d.c.1,d.d.c.2.1,d.d.c.b.1,d.d.c.b.2.1,(d.c.2.1.b.1,d.e.1),(d.c.b.1.b.1,d.e.2.1),(d.c.b.2.1.b.1,d.e.b.1),(d.d.1.b.1,d.e.b.2.1),(d.d.2.1.b.1,d.e.c.1),(d.d.b.1.b.1,d.e.c.2.1),d.e.c.b))) x
def Ae (rZ:KD)(p6:LT dw jT)(d:dU.B):PL dU jV:=let n39:=d.2.1;let n17:=d.2.2;let YZ:=n17.2.1;let n4:=n17.2.2;let n30:=n4.2.1;let n19:=n4.2.2.1;let n2:=n4.2.2.2;let n31:=n2.2.1;let n20:=n2.2.2.1;let n5:=n2.2.2.2;let Jc:=n5.2.1;let n18:=n5.2.2;let Zx:=n18.2.1;let n1:=n18.2.2;let n44:=n1.2.1;let n43:=n1.1.1;let n6:=n1.2.2;let n32:=n6.2.1;let n21:=n6.1.2.2.2;let cm:=n32.2.2.2;let n3:=n6.2.2;let n45:=n3.2.1;let n22:=n3.1.2.2.2;let n15:=n45.2.2.2;let bM:=n3.2.2;let n23:=bM.1.2.2.2;let n16:=bM.2.1.2.2.2;let y0:=decide (d.1<6);let y1:=z9 n30.2.2.1 n30.2.2.1;let y2:=z9 n19.2.2.1 n19.2.2.1;let y3:=z9 n2.1.2.2.1 n2.1.2.2.1;let y4:=z9 n31.2.2.1 n31.2.2.1;let y5:=z9 n20.2.2.1 n20.2.2.1;let y6:=z9 n5.1.2.2.1 n5.1.2.2.1;ae y0 (ae (aZ d.1 6) (ae (d.1==5) (ae y6 (opt (rZ (n43,n5.1,λj=>bM.2.1.1 (0+j),λj=>bM.2.1.2.1 (0+j),λj=>bM.2.1.2.2.1 (0+j),λj=>n16.1 (0+j),λj=>n16.2.1 (0+j),λj=>n16.2.2.1 (0+j),λj=>n16.2.2.2.1 (0+j),λj=>n16.2.2.2.2.1 (0+j),λj=>n16.2.2.2.2.2 (0+j))) λak=>ae (z9 ak.1 ak.1) (ae y1 (ae y2 (ae y3 (ae y4 (ae y5 (ae (z9 ak.2.1.2.2.1 ak.2.1.2.2.1) (opt (p6 ((d.1,d.1,ak.1,ws ak.1,0),n39,n17.1,YZ,n4.1,n30,n19,n2.1,n31,n20,ak.2.1,Jc,n18.1,Zx,n1.1,ak.2.2.1,n44,n6.1,n32,n3.1,n45,bM.1,ak.2.2.2,bM.2.2)) λd=>let n33:=d.2.2.2;let n7:=n33.2.2.2.2;let n24:=n7.2.2.2.2;ret (w7 (wI (d.1.2.1+1),d.2.1,d.2.2.1,n33.1,n33.2.1,n33.2.2.1,n33.2.2.2.1,n7.1,n7.2.1,n7.2.2.1,n7.2.2.2.1,n24.1,n24.2.1,n24.2.2.1,n24.2.2.2.1,n24.2.2.2.2.2))) no) no) no) no) no) no) no) no) (ae (d.1==4) (ae y5 (opt (rZ (n43,n20,λj=>bM.1.1 (0+j),λj=>bM.1.2.1 (0+j),λj=>bM.1.2.2.1 (0+j),λj=>n23.1 (0+j),λj=>n23.2.1 (0+j),λj=>n23.2.2.1 (0+j),λj=>n23.2.2.2.1 (0+j),λj=>n23.2.2.2.2.1 (0+j),λj=>n23.2.2.2.2.2 (0+j))) λak=>ae (z9 ak.1 ak.1) (ae y1 (ae y2 (ae y3 (ae y4 (ae (z9 ak.2.1.2.2.1 ak.2.1.2.2.1) (ae y6 (opt (p6 ((d.1,d.1,ak.1,ws ak.1,0),n39,n17.1,YZ,n4.1,n30,n19,n2.1,n31,ak.2.1,n5.1,Jc,n18.1,Zx,n1.1,ak.2.2.1,n44,n6.1,n32,n3.1,n45,ak.2.2.2,bM.2)) λd=>let n34:=d.2.2.2;let n8:=n34.2.2.2.2;let n25:=n8.2.2.2.2;ret (w7 (wI (d.1.2.1+1),d.2.1,d.2.2.1,n34.1,n34.2.1,n34.2.2.1,n34.2.2.2.1,n8.1,n8.2.1,n8.2.2.1,n8.2.2.2.1,n25.1,n25.2.1,n25.2.2.1,n25.2.2.2.1,n25.2.2.2.2.2))) no) no) no) no) no) no) no) no) (ae (d.1==3) (ae y4 (opt (rZ (n43,n31,λj=>n45.1 (0+j),λj=>n45.2.1 (0+j),λj=>n45.2.2.1 (0+j),λj=>n15.1 (0+j),λj=>n15.2.1 (0+j),λj=>n15.2.2.1 (0+j),λj=>n15.2.2.2.1 (0+j),λj=>n15.2.2.2.2.1 (0+j),λj=>n15.2.2.2.2.2 (0+j))) λak=>ae (z9 ak.1 ak.1) (ae y1 (ae y2 (ae y3 (ae (z9 ak.2.1.2.2.1 ak.2.1.2.2.1) (ae y5 (ae y6 (opt (p6 ((d.1,d.1,ak.1,ws ak.1,0),n39,n17.1,YZ,n4.1,n30,n19,n2.1,ak.2.1,n20,n5.1,Jc,n18.1,Zx,n1.1,ak.2.2.1,n44,n6.1,n32,n3.1,ak.2.2.2,bM)) λd=>let n35:=d.2.2.2;let n9:=n35.2.2.2.2;let n26:=n9.2.2.2.2;ret (w7 (wI (d.1.2.1+1),d.2.1,d.2.2.1,n35.1,n35.2.1,n35.2.2.1,n35.2.2.2.1,n9.1,n9.2.1,n9.2.2.1,n9.2.2.2.1,n26.1,n26.2.1,n26.2.2.1,n26.2.2.2.1,n26.2.2.2.2.2))) no) no) no) no) no) no) no) no) (ae (d.1==2) (ae y3 (opt (rZ (n43,n2.1,λj=>n3.1.1 (0+j),λj=>n3.1.2.1 (0+j),λj=>n3.1.2.2.1 (0+j),λj=>n22.1 (0+j),λj=>n22.2.1 (0+j),λj=>n22.2.2.1 (0+j),λj=>n22.2.2.2.1 (0+j),λj=>n22.2.2.2.2.1 (0+j),λj=>n22.2.2.2.2.2 (0+j))) λak=>ae (z9 ak.1 ak.1) (ae y1 (ae y2 (ae (z9 ak.2.1.2.2.1 ak.2.1.2.2.1) (ae y4 (ae y5 (ae y6 (opt (p6 ((d.1,d.1,ak.1,ws ak.1,0),n39,n17.1,YZ,n4.1,n30,n19,ak.2.1,n31,n20,n5.1,Jc,n18.1,Zx,n1.1,ak.2.2.1,n44,n6.1,n32,ak.2.2.2,n3.2)) λd=>let n36:=d.2.2.2;let bk:=n36.2.2.2.2;let n27:=bk.2.2.2.2;ret (w7 (wI (d.1.2.1+1),d.2.1,d.2.2.1,n36.1,n36.2.1,n36.2.2.1,n36.2.2.2.1,bk.1,bk.2.1,bk.2.2.1,bk.2.2.2.1,n27.1,n27.2.1,n27.2.2.1,n27.2.2.2.1,n27.2.2.2.2.2))) no) no) no) no) no) no) no) no) (ae (d.1==1) (ae y2 (opt (rZ (n43,n19,λj=>n32.1 (0+j),λj=>n32.2.1 (0+j),λj=>n32.2.2.1 (0+j),λj=>cm.1 (0+j),λj=>cm.2.1 (0+j),λj=>cm.2.2.1 (0+j),λj=>cm.2.2.2.1 (0+j),λj=>cm.2.2.2.2.1 (0+j),λj=>cm.2.2.2.2.2 (0+j))) λak=>ae (z9 ak.1 ak.1) (ae y1 (ae (z9 ak.2.1.2.2.1 ak.2.1.2.2.1) (ae y3 (ae y4 (ae y5 (ae y6 (opt (p6 ((d.1,d.1,ak.1,ws ak.1,0),n39,n17.1,YZ,n4.1,n30,ak.2.1,n2.1,n31,n20,n5.1,Jc,n18.1,Zx,n1.1,ak.2.2.1,n44,n6.1,ak.2.2.2,n3)) λd=>let n37:=d.2.2.2;let bo:=n37.2.2.2.2;let n28:=bo.2.2.2.2;ret (w7 (wI (d.1.2.1+1),d.2.1,d.2.2.1,n37.1,n37.2.1,n37.2.2.1,n37.2.2.2.1,bo.1,bo.2.1,bo.2.2.1,bo.2.2.2.1,n28.1,n28.2.1,n28.2.2.1,n28.2.2.2.1,n28.2.2.2.2.2))) no) no) no) no) no) no) no) no) (ae y1 (opt (rZ (n43,n30,λj=>n6.1.1 (0+j),λj=>n6.1.2.1 (0+j),λj=>n6.1.2.2.1 (0+j),λj=>n21.1 (0+j),λj=>n21.2.1 (0+j),λj=>n21.2.2.1 (0+j),λj=>n21.2.2.2.1 (0+j),λj=>n21.2.2.2.2.1 (0+j),λj=>n21.2.2.2.2.2 (0+j))) λak=>ae (z9 ak.1 ak.1) (ae (z9 ak.2.1.2.2.1 ak.2.1.2.2.1) (ae y2 (ae y3 (ae y4 (ae y5 (ae y6 (opt (p6 ((d.1,d.1,ak.1,ws ak.1,0),n39,n17.1,YZ,n4.1,ak.2.1,n19,n2.1,n31,n20,n5.1,Jc,n18.1,Zx,n1.1,ak.2.2.1,n44,ak.2.2.2,n6.2)) λd=>let n38:=d.2.2.2;let bH:=n38.2.2.2.2;let n29:=bH.2.2.2.2;ret (w7 (wI (d.1.2.1+1),d.2.1,d.2.2.1,n38.1,n38.2.1,n38.2.2.1,n38.2.2.2.1,bH.1,bH.2.1,bH.2.2.1,bH.2.2.2.1,n29.1,n29.2.1,n29.2.2.1,n29.2.2.2.1,n29.2.2.2.2.2))) no) no) no) no) no) no) no) no)))))) no) (ret (ww ((d.1,y0),d.2)))
def tL:=bG (Ae xD pD) 2000
def gF:=qs (st (pu (cu jq (us 2 (cu ZJ (cu Oj (us 3 (cu aWW (us 190 nil))))))) (pl (c aEn (c m7 (c m8 (c oF (cd J7 λb4=>(cd J8 λb5=>(cd J9 λb6=>(cd J' λb7=>(cd Ka λb8=>(cd afQ λb9=>(c lO (c afP (c vd (cu nO (cu nO (cu nO (cu nO (cu nO (cu nO (cu nO (c FD (c aQQ (c vd (c (so (cl (gs b4.b.1 aC) nil)) (c (so (cl (gs b5.b.1 aC) nil)) (c (so (cl (gs b6.b.1 aC) nil)) (c (so (cl (gs b7.b.1 aC) nil)) (c (so (cl (gs b8.b.1 aC) nil)) (c (so (cl (gs b9.b.1 aC) nil)) HU))))))))))))))))))))))))))))) V9)))
def afr:=qs aRj
def afs:=qs aRi
abbrev mr:=((Bool×NI×Int×Int)×(GJ×Bool×(NI×NI)×Nat×se×Int×lJ×Bool×Bool×Bool×Int×Int×Int×Fv×Nat)×(lJ×Int×Int)×NQ×SM×bY×bY×bY×bY×bY×bY×Lw×uG×Fz×aS0×Fz×cY×cY×cY×cY×cY×cY×Nat×NI×NI×NI×NI×NI×NI×NI×NI×NI×NI×NI)⊕(Bool×(GJ×Bool×NI×(NI×NI)×Nat×se×Int×lJ×Bool×Bool×Bool×Int×Int×Int×Fv×Nat)×(lJ×Int×Int)×NQ×SM×bY×bY×bY×bY×bY×bY×Lw×uG×Fz×aDP×Fz×cY×cY×cY×cY×cY×cY×Nat×NI×NI×NI×NI×NI×NI×NI×NI×NI×NI×NI)
def Sv {ρ:Type}(x:mr)(K:AX->St->Option ρ):Option ρ:=(v4 (λd=>K .nrm (afr.em (d.1,(d.2.1.1,d.2.1.2.1,d.1.2.1,d.2.1.b.1,d.2.1.b.2.1,d.2.1.c.1,d.1.1,d.2.1.c.2),d.b.1,d.b.2.1,d.c.1,d.c.2.1,d.c.b.1,d.c.b.2.1,d.d.1,d.d.2.1,d.d.b.1,d.d.b.2.1,d.d.c.1,d.d.c.2.1,(d.1.b.1,d.d.c.b.1),d.d.c.b.2.1,(d.c.2.1.b.1,d.e.1),(d.c.b.1.b.1,d.e.2.1),(d.c.b.2.1.b.1,d.e.b.1),(d.d.1.b.1,d.e.b.2.1),(d.d.2.1.b.1,d.e.c.1),(d.d.b.1.b.1,d.e.c.2.1),d.e.c.b))) (λd=>K .nrm (afs.em (d.1,(d.2.1.1,d.2.1.2.1,d.2.1.b.1,d.2.1.b.2.1,d.2.1.c.1,d.2.1.c.2.1,d.1,d.2.1.c.b),d.b.1,d.b.2.1,d.c.1,d.c.2.1,d.c.b.1,d.c.b.2.1,d.d.1,d.d.2.1,d.d.b.1,d.d.b.2.1,d.d.c.1,d.d.c.2.1,d.d.c.b.1,d.d.c.b.2.1,(d.c.2.1.b.1,d.e.1),(d.c.b.1.b.1,d.e.2.1),(d.c.b.2.1.b.1,d.e.b.1),(d.d.1.b.1,d.e.b.2.1),(d.d.2.1.b.1,d.e.c.1),(d.d.b.1.b.1,d.e.c.2.1),d.e.c.b)))) x
def Af (aMh:ag9)(ZC:yx)(aIc:acV)(l_5:LT gE mo)(d:gF.B):Pg mr:=let n27:=d.2.2;let cm:=d.1.2.2;let bo:=n27.2.2;let n5:=cm.2.2.2.2;let n16:=n5.2.2.2.2;let n4:=bo.2.2;let n15:=n4.2.2;let n6:=n15.2.2.2;let n2:=n16.2.2.2.2.2;let n19:=n2.1.1.2;let bH:=n2.1.2;let n1:=n6.2.2.2;let n23:=n1.2.2.2;let n20:=n1.2.1.2;let n17:=n1.1.2.2.2;let n9:=n20.2.2.2;let n25:=n9.2.2.2;let n8:=n23.2.2.2;let n28:=n8.2.2;let n3:=n28.2.2;let n21:=n3.2.2;let n7:=n21.2.2.2;let n22:=n7.2.2;let y0:=ws n2.2;let y1:=1+n2.2;let y2:=z9 bo.1.2.2.1 bo.1.2.2.1;let y3:=z9 bo.2.1.2.2.1 bo.2.1.2.2.1;let y4:=z9 n4.1.2.2.1 n4.1.2.2.1;let y5:=z9 n4.2.1.2.2.1 n4.2.1.2.2.1;let y6:=z9 n15.1.2.2.1 n15.1.2.2.1;let y7:=z9 n15.2.1.2.2.1 n15.2.1.2.2.1;opt (aMh (cm.2.2.2.1,n1.1.1,n1.1.2.1,(n1.1.2.2.1,n17.1,n17.2.1,n17.2.2.1,n17.2.2.2.1,n17.2.2.2.2.1),n17.2.2.2.2.2)) λak=>ae (decide (y0>0)) (ae (z9 n2.2 n2.2) (ae (z9 n6.1.2.2 n6.1.2.2) (opt (ZC ((n2.2,true),n6.1,d.1.2.1,(aMV 0 n20),λj=>n28.2.1 (0+j),λj=>n3.1 (0+j),λj=>n3.2.1 (0+j),λj=>n21.1 (0+j),λj=>n21.2.1 (0+j),λj=>n21.2.2.1 (0+j),λj=>n7.1 (0+j),λj=>n7.2.1 (0+j),λj=>n22.1 (0+j),λj=>n22.2.1 (0+j),λj=>n22.2.2 (0+j))) λaJ=>let n24:=aJ.2.2.2;let bM:=aJ.2.1;let bk:=n24.2.2.2;let n26:=bk.2.2.2;let uM:=bM*11+0;ae (true&&z9 uM (n6.1.2.2*11)&&true) (ae (true&&wr (0+uM) (n28.1*11+0)) (ae (wr (y1*80) 140737488355328) (ae (z9 y1 y1) (opt (aIc y1 aJ.1 (λj=>bif wl j 1 then bif z9 j 0 then n2.1.1.1 else n2.1.1.1 else n20.1 (0+(j-1))) (λj=>bif wl j 1 then bif z9 j 0 then n19.1 else n19.1 else n20.2.1 (0+(j-1))) (λj=>bif wl j 1 then bif z9 j 0 then n19.2.1 else n19.2.1 else n20.2.2.1 (0+(j-1))) (λj=>bif wl j 1 then bif z9 j 0 then n19.2.2 else n19.2.2 else n9.1 (0+(j-1))) (λj=>bif wl j 1 then bif z9 j 0 then bH.1.1 else bH.1.1 else n9.2.1 (0+(j-1))) (λj=>bif wl j 1 then bif z9 j 0 then bH.1.2.1 else bH.1.2.1 else n9.2.2.1 (0+(j-1))) (λj=>bif wl j 1 then bif z9 j 0 then bH.1.2.2 else bH.1.2.2 else n25.1 (0+(j-1))) (λj=>bif wl j 1 then bif z9 j 0 then bH.2.1 else bH.2.1 else n25.2.1 (0+(j-1))) (λj=>bif wl j 1 then bif z9 j 0 then bH.2.2.1 else bH.2.2.1 else n25.2.2.1 (0+(j-1))) (λj=>bif wl j 1 then bif z9 j 0 then bH.2.2.2 else bH.2.2.2 else n25.2.2.2 (0+(j-1))) true) λbB=>let n18:=bB.1.2.2.2;ae y2 (ae y3 (ae y4 (ae y5 (ae y6 (ae y7 (opt (l_5 ((d.1.1,bB.2,cm.1,cm.2.1,cm.2.2.1,ak.1,n5.1,n5.2.1,n5.2.2.1,n5.2.2.2.1,n16.1,n16.2.1,n16.2.2.1,n16.2.2.2.1,wI (n16.2.2.2.2.1+y0),((bB.1.1,bB.1.2.1,bB.1.2.2.1,n18.1),(n18.2.1,n18.2.2.1,n18.2.2.2.1),n18.2.2.2.2),n2.2),d.2.1,n27.1,n27.2.1,bo.1,bo.2.1,n4.1,n4.2.1,n15.1,n15.2.1,n15.2.2.1,n6.1,n6.2.1,n6.2.2.1,n1.2.1,n1.2.2.1,n23.1,n23.2.1,n23.2.2.1,n8.1,n8.2.1,n28.1,λj=>bif true&&wl j (0+bM) then aJ.2.2.1 j else n28.2.1 j,λj=>bif true&&wl j (0+bM) then n24.1 j else n3.1 j,λj=>bif true&&wl j (0+bM) then n24.2.1 j else n3.2.1 j,λj=>bif true&&wl j (0+bM) then n24.2.2.1 j else n21.1 j,λj=>bif true&&wl j (0+bM) then bk.1 j else n21.2.1 j,λj=>bif true&&wl j (0+bM) then bk.2.1 j else n21.2.2.1 j,λj=>bif true&&wl j (0+bM) then bk.2.2.1 j else n7.1 j,λj=>bif true&&wl j (0+bM) then n26.1 j else n7.2.1 j,λj=>bif true&&wl j (0+bM) then n26.2.1 j else n22.1 j,λj=>bif true&&wl j (0+bM) then n26.2.2.1 j else n22.2.1 j,λj=>bif true&&wl j (0+bM) then n26.2.2.2 j else n22.2.2 j)) λx=>sum x (λd=>ret (w7 d)) λd=>ret (ww d)) no) no) no) no) no) no) no) no) no) no) no) no) (ae y2 (ae y3 (ae y4 (ae y5 (ae y6 (ae y7 (opt (l_5 ((d.1.1,d.1.2.1,cm.1,cm.2.1,cm.2.2.1,ak.1,n5),d.2.1,n27.1,n27.2.1,bo.1,bo.2.1,n4.1,n4.2.1,n15.1,n15.2.1,n15.2.2.1,n6.1,n6.2.1,n6.2.2.1,n1.2)) λx=>sum x (λd=>ret (w7 d)) λd=>ret (ww d)) no) no) no) no) no) no)
def mw (d:gF.B):Option mr:=(Af CQ j6 wc mq d).val
def gG:=qs (st (pu aYf (pl (c axE (c m7 (c m8 (c oF (cd (so asz) λb4=>(cd J7 λb5=>(cd J8 λb6=>(cd J9 λb7=>(cd J' λb8=>(cd Ka λb9=>(c lO (c axy (c vd (cu nO (cu nO (cu nO (cu nO (cu nO (cu nO (cu nO (c FD (c (so aYi) (c (so (cl (gs b4.b.1 aC) nil)) (c (so (cl (gs b5.b.1 aC) nil)) (c (so (cl (gs b6.b.1 aC) nil)) (c (so (cl (gs b7.b.1 aC) nil)) (c (so (cl (gs b8.b.1 aC) nil)) (c (so (cl (gs b9.b.1 aC) nil)) HU)))))))))))))))))))))))))))) V9)))
def aft:=qs aRj
def afu:=qs aRi
abbrev mx:=((Bool×NI×Int×Int)×(GJ×Bool×(NI×NI)×Nat×se×Int×lJ×Bool×Bool×Bool×Int×Int×Int×Fv×Nat)×(lJ×Int×Int)×NQ×SM×bY×bY×bY×bY×bY×bY×Lw×uG×Fz×aS0×Fz×cY×cY×cY×cY×cY×cY×Nat×NI×NI×NI×NI×NI×NI×NI×NI×NI×NI×NI)⊕(Bool×(GJ×Bool×NI×(NI×NI)×Nat×se×Int×lJ×Bool×Bool×Bool×Int×Int×Int×Fv×Nat)×(lJ×Int×Int)×NQ×SM×bY×bY×bY×bY×bY×bY×Lw×uG×Fz×aDP×Fz×cY×cY×cY×cY×cY×cY×Nat×NI×NI×NI×NI×NI×NI×NI×NI×NI×NI×NI)
def Sw {ρ:Type}(x:mx)(K:AX->St->Option ρ):Option ρ:=(v4 (λd=>K .nrm (aft.em (d.1,(d.2.1.1,d.2.1.2.1,d.1.2.1,d.2.1.b.1,d.2.1.b.2.1,d.2.1.c.1,d.1.1,d.2.1.c.2),d.b.1,d.b.2.1,d.c.1,d.c.2.1,d.c.b.1,d.c.b.2.1,d.d.1,d.d.2.1,d.d.b.1,d.d.b.2.1,d.d.c.1,d.d.c.2.1,(d.1.b.1,d.d.c.b.1),d.d.c.b.2.1,(d.c.2.1.b.1,d.e.1),(d.c.b.1.b.1,d.e.2.1),(d.c.b.2.1.b.1,d.e.b.1),(d.d.1.b.1,d.e.b.2.1),(d.d.2.1.b.1,d.e.c.1),(d.d.b.1.b.1,d.e.c.2.1),d.e.c.b))) (λd=>K .nrm (afu.em (d.1,(d.2.1.1,d.2.1.2.1,d.2.1.b.1,d.2.1.b.2.1,d.2.1.c.1,d.2.1.c.2.1,d.1,d.2.1.c.b),d.b.1,d.b.2.1,d.c.1,d.c.2.1,d.c.b.1,d.c.b.2.1,d.d.1,d.d.2.1,d.d.b.1,d.d.b.2.1,d.d.c.1,d.d.c.2.1,d.d.c.b.1,d.d.c.b.2.1,(d.c.2.1.b.1,d.e.1),(d.c.b.1.b.1,d.e.2.1),(d.c.b.2.1.b.1,d.e.b.1),(d.d.1.b.1,d.e.b.2.1),(d.d.2.1.b.1,d.e.c.1),(d.d.b.1.b.1,d.e.c.2.1),d.e.c.b)))) x
def Ag (MC:LT dS jU)(dX:LT dU jV)(l_4:LT gF mr)(d:gG.B):Pg mx:=let n9:=d.2.2.2.2;let n4:=n9.2.2;let bk:=n4.2.2.2;let n17:=bk.2.2.2;ae (z9 n9.1.2.2.1 n9.1.2.2.1) (ae (z9 n9.2.1.2.2.1 n9.2.1.2.2.1) (ae (z9 n4.1.2.2.1 n4.1.2.2.1) (ae (z9 n4.2.1.2.2.1 n4.2.1.2.2.1) (ae (z9 n4.2.2.1.2.2.1 n4.2.2.1.2.2.1) (ae (z9 bk.1.2.2.1 bk.1.2.2.1) (opt (dX (0,d.1,d.2.1,d.2.2.1,d.2.2.2.1,n9.1,n9.2.1,n4.1,n4.2.1,n4.2.2.1,bk.1,bk.2.1,bk.2.2.1,n17.1,n17.2.1,(0,n17.2.2.1),n17.2.2.2)) λd=>let n16:=d.2.1.1.2.2.2.2.2.2.2.2;let n15:=d.2.1.2.2.2.2.2.2.2.2.2;let bo:=d.2.2.2.2;let n3:=bo.2.2;let n7:=n3.2.2.2;let n18:=n7.2.2.2;ae (z9 bo.2.1.2.2.1 bo.2.1.2.2.1) (ae (z9 n3.1.2.2.1 n3.1.2.2.1) (ae (z9 n3.2.1.2.2.1 n3.2.1.2.2.1) (ae (z9 n3.2.2.1.2.2.1 n3.2.2.1.2.2.1) (ae (z9 n7.1.2.2.1 n7.1.2.2.1) (ae (z9 n7.2.1.2.2.1 n7.2.1.2.2.1) (opt (MC (0,d.2.1,d.2.2.1,d.2.2.2.1,bo.1,bo.2.1,n3.1,n3.2.1,n3.2.2.1,n7.1,n7.2.1,n7.2.2.1,n18.1,n18.2.1,n18.2.2.1,(n15.1,n15.2.1,false,false,false,false,false,false,n16.1,n16.2.2.1),n18.2.2.2)) λd=>let cm:=d.2.2;let bM:=d.2.1.2.2.2.2.2.2.2.2.2.2.2;let n5:=cm.2.2.2;let bH:=n5.2.2;let n1:=bH.2.2;let n19:=n1.2.2;let n6:=n19.2.2;let n20:=n6.2.2;let n2:=n20.1.2;let n21:=n2.2.2;let n8:=n21.2.2;let y0:=z9 n5.1.2.2.1 n5.1.2.2.1;let y1:=z9 n5.2.1.2.2.1 n5.2.1.2.2.1;let y2:=z9 bH.1.2.2.1 bH.1.2.2.1;let y3:=z9 bH.2.1.2.2.1 bH.2.1.2.2.1;let y4:=z9 n1.1.2.2.1 n1.1.2.2.1;let y5:=z9 n1.2.1.2.2.1 n1.2.1.2.2.1;ae bM.1 (ae y0 (ae y1 (ae y2 (ae y3 (ae y4 (ae y5 (opt (l_4 (d.2.1,cm.1,cm.2.1,cm.2.2.1,n5.1,n5.2.1,bH.1,bH.2.1,n1.1,n1.2.1,n19.1,n19.2.1,n6.1,n6.2.1,(n20.1.1,n2.1,n2.2.1,n21.1,n21.2.1,n8.1,n8.2.1,n8.2.2.1,wI (n6.2.1.1-bM.2.1),n8.2.2.2),n20.2)) λx=>sum x (λd=>ret (w7 d)) λd=>ret (ww d)) no) no) no) no) no) no) (ae y0 (ae y1 (ae y2 (ae y3 (ae y4 (ae y5 (opt (l_4 (d.2.1,cm.1,cm.2.1,cm.2.2.1,n5.1,n5.2.1,bH.1,bH.2.1,n1.1,n1.2.1,n19.1,n19.2.1,n6.1,n6.2.1,(n20.1.1,n2.1,n2.2.1,n21.1,n21.2.1,n8.1,n8.2.1,n8.2.2.1,1125899906842624,n8.2.2.2),n20.2)) λx=>sum x (λd=>ret (w7 d)) λd=>ret (ww d)) no) no) no) no) no) no)) no) no) no) no) no) no) no) no) no) no) no) no
def jW (d:gG.B):Option mx:=(Ag tK tL mw d).val
def Sx:Hd:=⟨7,(1::2::rg 5 194 []),[(15,[]),(16,[]),(17,[]),(18,[]),(19,[]),(20,[]),(21,[]),(0,[])]⟩
def Sy:Hd:=⟨24,(1::2::5::6::7::rg 9 190 []),[(15,[]),(16,[]),(17,[]),(18,[]),(19,[]),(20,[]),(21,[]),(0,[])]⟩
def SA:Hd:=⟨29,(1::2::rg 5 194 []),[(15,[]),(16,[]),(17,[]),(18,[]),(19,[]),(20,[]),(21,[]),(0,[])]⟩
def xQ (apQ:Iq)(aO7:an8)(Ev:QH)(l_3:LT gG mx)(x:mn.B):Pg rY:=let YZ:=x.1.1;let n19:=x.2.1.2;let n18:=x.2.2;let n39:=n18.2.2.1;let n8:=x.1.2.2;let n38:=n8.1.2;let n6:=n18.2.2.2;let n36:=n6.2.1;let n24:=n6.2.2.1;let n4:=n19.2.2.2;let n26:=n4.2.2;let n7:=n26.2.2.2;let Jc:=n7.2.2;let n20:=Jc.2.2.2;let n3:=n6.2.2.2;let n37:=n3.2.1;let n15:=n3.2.2;let n25:=n15.2.2.1;let n5:=n15.2.2.2.2;let n16:=n5.2.2.2;let Zx:=n16.2.2;let n2:=(YZ,x.1.2.1,n8.1.1,n38.1,n38.2,n8.2);let n1:=(n20.2.2,n15.2.2.2.1);let y0:=z9 n6.1.2.2.1 n6.1.2.2.1;let y1:=z9 n36.2.2.1 n36.2.2.1;let y2:=z9 n24.2.2.1 n24.2.2.1;let y3:=z9 n3.1.2.2.1 n3.1.2.2.1;let y4:=z9 n37.2.2.1 n37.2.2.1;let y5:=z9 n15.1.2.2.1 n15.1.2.2.1;ae (n4.2.1.1==0) (ae (z9 n4.1 n4.1) (ae y0 (ae y1 (ae y2 (ae y3 (ae y4 (ae y5 (ae (z9 n25.2.2 n25.2.2) (opt (apQ (x.1,(x.2.1.1,n19.1,n19.2.1,n19.2.2.1,n4.1,n4.2.1,n26.1,n26.2.1,n26.2.2.1,n7.1,n7.2.1,Jc.1,Jc.2.1,YZ,n20.1,n20.2.1,0),n18.1,n18.2.1,n39,n6.1,n36,n24,n3.1,n37,n15.1,n15.2.1,n25,(λx=>0,λx=>0,λx=>0,λx=>0,λx=>0,λx=>0,λx=>0,λx=>0,λx=>0,λx=>0),n5)) λd=>sm d (λd=>ae y0 (ae y1 (ae y2 (ae y3 (ae y4 (ae y5 (opt (l_3 (d.1,n18.1,n18.2.1,(n4.1,n39),n6.1,n36,n24,n3.1,n37,n15.1,n15.2.1,d.2,n1,n2,(λx=>0,λx=>0,λx=>0,λx=>0,λx=>0,λx=>0,λx=>0,λx=>0,λx=>0,λx=>0),n5.1,n5.2.1,n5.2.2.1,n16.1,n16.2.1,Zx.1,n25.2.2,Zx.2)) λx=>sum x (λd=>let n27:=d.2.1.2;let n9:=d.2.2.2.2.2.2;let n28:=n9.2.2.2;ret (((d.2.1.1,n27.1,d.1.2.1,n27.2.1,n27.2.2.1,n27.2.2.2.1,d.1.1,n27.2.2.2.2),d.2.2.2.2.2.1,n9.1,n9.2.1,n9.2.2.1,n28.1,n28.2.1,n28.2.2.1,n28.2.2.2.1),n28.2.2.2.2.2.2)) λd=>let n21:=d.2.1.2.2;let bk:=d.2.2.2.2.2.2;let n29:=bk.2.2.2;ret (((d.2.1.1,d.2.1.2.1,n21.1,n21.2.1,n21.2.2.1,n21.2.2.2.1,d.1,n21.2.2.2.2),d.2.2.2.2.2.1,bk.1,bk.2.1,bk.2.2.1,n29.1,n29.2.1,n29.2.2.1,n29.2.2.2.1),n29.2.2.2.2.2.2)) no) no) no) no) no) no) (λd=>let n17:=d.1.1.2.2.2;ae y0 (ae y1 (ae y2 (ae y3 (ae y4 (ae y5 (opt (l_3 ((d.1.1.1,d.1.1.2.1,d.1.1.2.2.1,n17.1,n17.2.1,n17.2.2.1,true,n17.2.2.2.1,n17.2.2.2.2.1,true,n17.2.2.2.2.2),n18.1,n18.2.1,(n4.1,n39),n6.1,n36,n24,n3.1,n37,n15.1,n15.2.1,d.1.2,n1,n2,(λx=>0,λx=>0,λx=>0,λx=>0,λx=>0,λx=>0,λx=>0,λx=>0,λx=>0,λx=>0),n5.1,n5.2.1,n5.2.2.1,n16.1,n16.2.1,Zx.1,d.2)) λx=>sum x (λd=>let n30:=d.2.1.2;let bo:=d.2.2.2.2.2.2;let n31:=bo.2.2.2;ret (((d.2.1.1,n30.1,d.1.2.1,n30.2.1,n30.2.2.1,n30.2.2.2.1,d.1.1,n30.2.2.2.2),d.2.2.2.2.2.1,bo.1,bo.2.1,bo.2.2.1,n31.1,n31.2.1,n31.2.2.1,n31.2.2.2.1),n31.2.2.2.2.2.2)) λd=>let n22:=d.2.1.2.2;let bH:=d.2.2.2.2.2.2;let n32:=bH.2.2.2;ret (((d.2.1.1,d.2.1.2.1,n22.1,n22.2.1,n22.2.2.1,n22.2.2.2.1,d.1,n22.2.2.2.2),d.2.2.2.2.2.1,bH.1,bH.2.1,bH.2.2.1,n32.1,n32.2.1,n32.2.2.1,n32.2.2.2.1),n32.2.2.2.2.2.2)) no) no) no) no) no) no)) no) no) no) no) no) no) no) no) (opt (aO7 n19.2.2.1.1 n19.2.2.1.2 n19.2.1 YZ x.1.2.1 n8.1.1 n38.1 n38.2 n8.2.1 n8.2.2.1 n8.2.2.2 x.2.1.1.2.2.2.2.2.2.1 n19.1) λd=>opt (Ev n19.2.1 YZ x.1.2.1 n8.1.1 n38.1 n38.2 n8.2.1 n8.2.2.1 n8.2.2.2 d.2) λak=>ae y0 (ae y1 (ae y2 (ae y3 (ae y4 (ae y5 (opt (l_3 ((x.2.1.1,ak.2,ak.1,d.1,n4.1,n4.2.1,n26.1,n26.2.1,n26.2.2.1,n7.1,n7.2.1,Jc.1,Jc.2.1,YZ,n20.1,n20.2.1,0),n18.1,n18.2.1,(n4.1,n39),n6.1,n36,n24,n3.1,n37,n15.1,n15.2.1,n25,n1,n2,(λx=>0,λx=>0,λx=>0,λx=>0,λx=>0,λx=>0,λx=>0,λx=>0,λx=>0,λx=>0),n5.1,n5.2.1,n5.2.2.1,n16.1,n16.2.1,Zx.1,n25.2.2,Zx.2)) λx=>sum x (λd=>let n33:=d.2.1.2;let bM:=d.2.2.2.2.2.2;let n34:=bM.2.2.2;ret (((d.2.1.1,n33.1,d.1.2.1,n33.2.1,n33.2.2.1,n33.2.2.2.1,d.1.1,n33.2.2.2.2),d.2.2.2.2.2.1,bM.1,bM.2.1,bM.2.2.1,n34.1,n34.2.1,n34.2.2.1,n34.2.2.2.1),n34.2.2.2.2.2.2)) λd=>let n23:=d.2.1.2.2;let cm:=d.2.2.2.2.2.2;let n35:=cm.2.2.2;ret (((d.2.1.1,d.2.1.2.1,n23.1,n23.2.1,n23.2.2.1,n23.2.2.2.1,d.1,n23.2.2.2.2),d.2.2.2.2.2.1,cm.1,cm.2.1,cm.2.2.1,n35.1,n35.2.1,n35.2.2.1,n35.2.2.2.1),n35.2.2.2.2.2.2)) no) no) no) no) no) no)
def my:=λx=>(xQ k9 zZ nR jW x).val
abbrev kn:=Iq×an8×QH×KD×Ny×AB×ag9×yx×acV×vR×(LT dw jT)×(LT dS jU)×(LT gE mo)×(LT dU jV)×(LT gF mr)×(LT gG mx)
def mA (p:kn):KK:=⟨[UW p.1,aBQ p.2.1,acM p.b.1,YM p.b.2.1,abi p.c.1,I2 p.c.2.1,avH p.c.b.1,HE p.c.b.2.1,ark p.d.1,Fl p.d.2.1],⟨[⟨8,(1::2::rg 5 54 (rg 60 139 [])),[(15,[]),(16,[]),(17,[]),(18,[]),(19,[]),(20,[]),(21,[]),(0,[])]⟩,⟨11,(1::2::rg 6 53 (rg 60 10 (rg 73 126 []))),[(15,[]),(16,[]),(17,[]),(18,[]),(19,[]),(20,[]),(21,[]),(0,[])]⟩,⟨18,(1::2::5::6::7::rg 9 92 (rg 102 97 [])),[(15,[]),(16,[]),(17,[]),(18,[]),(19,[]),(20,[]),(21,[]),(0,[])]⟩],[fU 11 20 dw Sq p.d.b.1,fU 18 20 dS Sr p.d.b.2.1,fU 8 20 dU Su p.d.c.2.1],(rg 4 6 [19,18,17,16,15,14,13,11,0,10]),[⟨Sx,fU 7 20 gG Sw p.d.c.b.2⟩,⟨Sy,fU 24 20 gF Sv p.d.c.b.1⟩,⟨SA,fU 29 20 gE Ss p.d.c.1⟩],(some ⟨0,(rg 0 199 []),[]⟩)⟩,20,64⟩
theorem akp (p:kn):LI (mA p) 11 dw Sq (Aa p.c.1):=λ_ d c K=>by kernel_rfl
theorem akq (p:kn):LI (mA p) 18 dS Sr (Ac p.c.2.1):=λ_ d c K=>by kernel_rfl
theorem akr (p:kn):JI (mA p) 29 gE Ss (Ad p.d.2.1):=λ_ d K=>by kernel_rfl
theorem aks (p:kn):LI (mA p) 8 dU Su (Ae p.b.2.1 p.d.b.1):=λ_ d c K=>by kernel_rfl
theorem akt (p:kn):JI (mA p) 24 gF Sv (Af p.c.b.1 p.c.b.2.1 p.d.1 p.d.c.1):=λ_ d K=>by kernel_rfl
theorem aku (p:kn):JI (mA p) 7 gG Sw (Ag p.d.b.2.1 p.d.c.2.1 p.d.c.b.1):=λ_ d K=>by kernel_rfl
theorem at9 (p:kn):D2 (mA p) mn Za λb=>xQ p.1 p.2.1 p.b.1 p.d.c.b.2 b:=λb=>by kernel_rfl
abbrev mB:kn:=(k9,zZ,nR,xD,nA,nV,CQ,j6,wc,iO,pD,tK,mq,tL,mw,jW)
theorem aua [aA]:SC (Zb my):=sc (kS (k:=mA mB) (.c apN (.c aO0 (.c aq9 (.c atQ (.c awZ (.c adk (.c aLp (.c Zu (.c aHX (.c V1 (.nil _))))))))))) [8,11,18] [7,24,29] ⟨kL (aks mB),⟨kL (akp mB),⟨kL (akq mB),trivial⟩⟩⟩ ⟨kJ Sx (aku mB),⟨kJ Sy (akt mB),⟨kJ SA (akr mB),trivial⟩⟩⟩ (at9 mB))
end Go.Proofs.YtldgljclcgaibaaGreat
namespace Go.Proofs.YtldgljclcgaibaaGreat
open Go.Ab Go.Ab.Pg
theorem aVy (J:Int)(w:dw.B):∀(d:dw.B) (hd:0<=d.1.2.2.2.2/\d.1.2.2.2.2<=d.1.2.2.2.1/\d.1.2.2.2.1=((d.1.2.2.1:Nat):Int)/\d.1.2.2.2.1<=64/\((d.2.1.2.2.2.2.2.2.2.2.2.2.2.2.2.2.2.2:Nat):Int)+3*(d.1.2.2.2.1-d.1.2.2.2.2)<=J/\J<=90000/\aZ d.1.1 6=true/\d.1.2.1=w.1.2.1/\d.2.2.2.2.2.1=w.2.2.2.2.2.1/\d.2.2.2.2.2.2.1=w.2.2.2.2.2.2.1/\d.2.2.2.2.2.2.2.1=w.2.2.2.2.2.2.2.1/\d.2.2.2.2.2.2.2.2.1=w.2.2.2.2.2.2.2.2.1/\d.2.2.2.2.2.2.2.2.2.1=w.2.2.2.2.2.2.2.2.2.1/\d.2.2.2.2.2.2.2.2.2.2.1=w.2.2.2.2.2.2.2.2.2.2.1/\d.2.2.2.2.2.2.2.2.2.2.2.2.1=w.2.2.2.2.2.2.2.2.2.2.2.2.1/\d.2.2.2.2.2.2.2.2.2.2.2.2.2.2.2.2.2.2.2.2.2.2.2.1=w.2.2.2.2.2.2.2.2.2.2.2.2.2.2.2.2.2.2.2.2.2.2.2.1/\d.2.1.2.2.2.2.1=w.2.1.2.2.2.2.1/\d.2.1.2.2.2.2.2.2.2.2.2.2.2.2.2.1=w.2.1.2.2.2.2.2.2.2.2.2.2.2.2.2.1/\d.2.2.2.2.2.2.2.2.2.2.2.2.2.2.1=w.2.2.2.2.2.2.2.2.2.2.2.2.2.2.1),Ok (pD d) (λx:jT=>((x.2.1.2.2.2.2.2.2.2.2.2.2.2.2.2.2.2.2:Nat):Int)<=J/\x.1.2.1=w.1.2.1/\x.2.2.2.2.2.1=w.2.2.2.2.2.1/\x.2.2.2.2.2.2.1=w.2.2.2.2.2.2.1/\x.2.2.2.2.2.2.2.1=w.2.2.2.2.2.2.2.1/\x.2.2.2.2.2.2.2.2.1=w.2.2.2.2.2.2.2.2.1/\x.2.2.2.2.2.2.2.2.2.1=w.2.2.2.2.2.2.2.2.2.1/\x.2.2.2.2.2.2.2.2.2.2.1=w.2.2.2.2.2.2.2.2.2.2.1/\x.2.2.2.2.2.2.2.2.2.2.2.2.1=w.2.2.2.2.2.2.2.2.2.2.2.2.1/\x.2.2.2.2.2.2.2.2.2.2.2.2.2.2.2.2.2.2.2.2.2.2.2.1=w.2.2.2.2.2.2.2.2.2.2.2.2.2.2.2.2.2.2.2.2.2.2.2.1/\x.2.1.2.2.2.2.1=w.2.1.2.2.2.2.1/\x.2.1.2.2.2.2.2.2.2.2.2.2.2.2.2.1=w.2.1.2.2.2.2.2.2.2.2.2.2.2.2.2.1/\x.2.2.2.2.2.2.2.2.2.2.2.2.2.2.1=w.2.2.2.2.2.2.2.2.2.2.2.2.2.2.1):=
 bT (λd:dw.B=>z4 (d.1.2.2.2.1-d.1.2.2.2.2)) (λd hd=>by
  obtain⟨i0,i1,i2,i3,i4,i5,i6,i7,ik⟩:=hd;have hw:wI (d.1.2.2.2.2+1)=d.1.2.2.2.2+1:=bf;unfold Aa;dsimp only;rw[aM];refine⟨λh=> ?_,λ_=>by rw[aw];exact⟨by show((d.2.1.2.2.2.2.2.2.2.2.2.2.2.2.2.2.2.2:Nat):Int)<=J;omega,i7,ik⟩⟩;have h:=dh h;have r0:aZ d.1.2.2.2.2 d.1.2.2.1=true:=by rw[bp];omega
  rw[r0,hw];simp only[aS]
  repeat' (first
   |rw[aD]
   |(with_reducible refine ax (a2q _ ?_ ?_) λe _ he=> ?_)
   |(rw[um];refine⟨λa ha=> ?_,λa ha=> ?_⟩))
  .exact i6
  .show d.2.1.2.2.2.2.2.2.2.2.2.2.2.2.2.2.2.2<=90000;omega
  .rw[ha] at he;have he:a.1.2.2.2.2.2.2.2.2.2.2.2.2.2.2.2.2<=d.2.1.2.2.2.2.2.2.2.2.2.2.2.2.2.2.2.2+3/\a.1.2.2.2.2.1=d.2.1.2.2.2.2.1/\a.1.2.2.2.2.2.2.2.2.2.2.2.2.2.1=d.2.1.2.2.2.2.2.2.2.2.2.2.2.2.2.1:=he;rw[aw];exact⟨⟨by show 0<=d.1.2.2.2.2+1;omega,by show d.1.2.2.2.2+1<=d.1.2.2.2.1;omega,i2,i3,by show((a.1.2.2.2.2.2.2.2.2.2.2.2.2.2.2.2.2:Nat):Int)+3*(d.1.2.2.2.1-(d.1.2.2.2.2+1))<=J;omega,i5,i6,i7,ik.1,ik.2.1,ik.2.2.1,ik.2.2.2.1,ik.2.2.2.2.1,ik.2.2.2.2.2.1,ik.2.2.2.2.2.2.1,ik.2.2.2.2.2.2.2.1,he.2.1.trans ik.2.2.2.2.2.2.2.2.1,he.2.2.trans ik.2.2.2.2.2.2.2.2.2.1,ik.2.2.2.2.2.2.2.2.2.2⟩,by show z4 (d.1.2.2.2.1-(d.1.2.2.2.2+1))<_;omega⟩
  .rw[ha] at he;have he:a.1.1.2.2.2.2.2.2.2.2.2.2.2.2.2.2.2.2<=d.2.1.2.2.2.2.2.2.2.2.2.2.2.2.2.2.2.2+3/\a.1.1.2.2.2.2.1=d.2.1.2.2.2.2.1/\a.1.1.2.2.2.2.2.2.2.2.2.2.2.2.2.1=d.2.1.2.2.2.2.2.2.2.2.2.2.2.2.2.1:=he;rw[aw];exact⟨⟨by show 0<=d.1.2.2.2.2+1;omega,by show d.1.2.2.2.2+1<=d.1.2.2.2.1;omega,i2,i3,by show((a.1.1.2.2.2.2.2.2.2.2.2.2.2.2.2.2.2.2:Nat):Int)+3*(d.1.2.2.2.1-(d.1.2.2.2.2+1))<=J;omega,i5,i6,i7,ik.1,ik.2.1,ik.2.2.1,ik.2.2.2.1,ik.2.2.2.2.1,ik.2.2.2.2.2.1,ik.2.2.2.2.2.2.1,ik.2.2.2.2.2.2.2.1,he.2.1.trans ik.2.2.2.2.2.2.2.2.1,he.2.2.trans ik.2.2.2.2.2.2.2.2.2.1,ik.2.2.2.2.2.2.2.2.2.2⟩,by show z4 (d.1.2.2.2.1-(d.1.2.2.2.2+1))<_;omega⟩) (λd hd=>by omega)
theorem a2s (d:dw.B)(a:d.1.2.2.2.2=0)(b:d.1.2.2.2.1=((d.1.2.2.1:Nat):Int))(c:d.1.2.2.1<=64)(k:aZ d.1.1 6=true)(j:d.2.1.2.2.2.2.2.2.2.2.2.2.2.2.2.2.2.2<=80000):Ok (pD d) (λx:jT=>x.2.1.2.2.2.2.2.2.2.2.2.2.2.2.2.2.2.2<=d.2.1.2.2.2.2.2.2.2.2.2.2.2.2.2.2.2.2+3*d.1.2.2.1/\x.1.2.1=d.1.2.1/\x.2.2.2.2.2.1=d.2.2.2.2.2.1/\x.2.2.2.2.2.2.1=d.2.2.2.2.2.2.1/\x.2.2.2.2.2.2.2.1=d.2.2.2.2.2.2.2.1/\x.2.2.2.2.2.2.2.2.1=d.2.2.2.2.2.2.2.2.1/\x.2.2.2.2.2.2.2.2.2.1=d.2.2.2.2.2.2.2.2.2.1/\x.2.2.2.2.2.2.2.2.2.2.1=d.2.2.2.2.2.2.2.2.2.2.1/\x.2.2.2.2.2.2.2.2.2.2.2.2.1=d.2.2.2.2.2.2.2.2.2.2.2.2.1/\x.2.2.2.2.2.2.2.2.2.2.2.2.2.2.2.2.2.2.2.2.2.2.2.1=d.2.2.2.2.2.2.2.2.2.2.2.2.2.2.2.2.2.2.2.2.2.2.2.1/\x.2.1.2.2.2.2.1=d.2.1.2.2.2.2.1/\x.2.1.2.2.2.2.2.2.2.2.2.2.2.2.2.1=d.2.1.2.2.2.2.2.2.2.2.2.2.2.2.2.1/\x.2.2.2.2.2.2.2.2.2.2.2.2.2.2.1=d.2.2.2.2.2.2.2.2.2.2.2.2.2.2.1):=
 Ok.mono (aVy (((d.2.1.2.2.2.2.2.2.2.2.2.2.2.2.2.2.2.2:Nat):Int)+3*d.1.2.2.2.1) d d ⟨by omega,by omega,b,by omega,by omega,by omega,k,rfl,rfl,rfl,rfl,rfl,rfl,rfl,rfl,rfl,rfl,rfl,rfl⟩) λx hx=>⟨by have h:=hx.1;omega,hx.2⟩
theorem aVz (w d:dU.B)(W5:w.c.2.1.b.1<=64)(W6:w.c.b.1.b.1<=64)(W7:w.c.b.2.1.b.1<=64)(W8:w.d.1.b.1<=64)(W9:w.d.2.1.b.1<=64)(W10:w.d.b.1.b.1<=64)(hd:0<=d.1/\d.1<=6/\((d.2.1.d.c.b.2.2:Nat):Int)+192*(6-d.1)<=1152/\BR w.d.c.b.1.1 w.c.2.1 d.c.2.1/\BR w.d.c.b.1.1 w.c.b.1 d.c.b.1/\BR w.d.c.b.1.1 w.c.b.2.1 d.c.b.2.1/\BR w.d.c.b.1.1 w.d.1 d.d.1/\BR w.d.c.b.1.1 w.d.2.1 d.d.2.1/\BR w.d.c.b.1.1 w.d.b.1 d.d.b.1/\d.d.c.1=w.d.c.1/\d.e.c.b.1=w.e.c.b.1/\d.2.1.c.1=w.2.1.c.1/\d.2.1.d.c.2.1=w.2.1.d.c.2.1/\d.d.c.b.1.1=w.d.c.b.1.1):Ok (tL d) (λx:jV=>x.2.1.d.c.b.2.2<=1152/\BR w.d.c.b.1.1 w.c.2.1 x.c.2.1/\BR w.d.c.b.1.1 w.c.b.1 x.c.b.1/\BR w.d.c.b.1.1 w.c.b.2.1 x.c.b.2.1/\BR w.d.c.b.1.1 w.d.1 x.d.1/\BR w.d.c.b.1.1 w.d.2.1 x.d.2.1/\BR w.d.c.b.1.1 w.d.b.1 x.d.b.1/\x.d.c.1=w.d.c.1/\x.e.c.b.1=w.e.c.b.1/\x.2.1.c.1=w.2.1.c.1/\x.2.1.d.c.2.1=w.2.1.d.c.2.1):=
 uK (s:=_) (λd:dU.B=>0<=d.1/\d.1<=6/\((d.2.1.d.c.b.2.2:Nat):Int)+192*(6-d.1)<=1152/\BR w.d.c.b.1.1 w.c.2.1 d.c.2.1/\BR w.d.c.b.1.1 w.c.b.1 d.c.b.1/\BR w.d.c.b.1.1 w.c.b.2.1 d.c.b.2.1/\BR w.d.c.b.1.1 w.d.1 d.d.1/\BR w.d.c.b.1.1 w.d.2.1 d.d.2.1/\BR w.d.c.b.1.1 w.d.b.1 d.d.b.1/\d.d.c.1=w.d.c.1/\d.e.c.b.1=w.e.c.b.1/\d.2.1.c.1=w.2.1.c.1/\d.2.1.d.c.2.1=w.2.1.d.c.2.1/\d.d.c.b.1.1=w.d.c.b.1.1) (λd:dU.B=>z4 (6-d.1)) (λx:jV=>x.2.1.d.c.b.2.2<=1152/\BR w.d.c.b.1.1 w.c.2.1 x.c.2.1/\BR w.d.c.b.1.1 w.c.b.1 x.c.b.1/\BR w.d.c.b.1.1 w.c.b.2.1 x.c.b.2.1/\BR w.d.c.b.1.1 w.d.1 x.d.1/\BR w.d.c.b.1.1 w.d.2.1 x.d.2.1/\BR w.d.c.b.1.1 w.d.b.1 x.d.b.1/\x.d.c.1=w.d.c.1/\x.e.c.b.1=w.e.c.b.1/\x.2.1.c.1=w.2.1.c.1/\x.2.1.d.c.2.1=w.2.1.d.c.2.1) (λd hd=>by
  obtain⟨i0,i1,i2,s5,s6,s7,s8,s9,ZD,i12,i22,i4,it,i14⟩:=hd;have hw:wI (d.1+1)=d.1+1:=bf;unfold Ae;dsimp only;rw[aM];refine⟨λh=> ?_,λ_=>by rw[aw];exact⟨by show d.2.1.d.c.b.2.2<=1152;omega,s5,s6,s7,s8,s9,ZD,i12,i22,i4,it⟩⟩;have h:=dh h;have r0:aZ d.1 6=true:=by rw[bp];omega
  rw[r0];simp only[aS]
  repeat' (first
   |rw[aD]
   |(with_reducible refine ax (aVr _ ?_) λe _ he=> ?_)
   |(with_reducible refine ax (a2s _ ?_ ?_ ?_ ?_ ?_) λy _ hy=> ?_)
   |(rw[aM];refine⟨λc=> ?_,λc=> ?_⟩))
  all_goals first
   |(rw[aw]
     obtain⟨p1,p2⟩:=he;have p2:=BR.mono (Int.le_of_eq i14) p2;obtain⟨y1,y2,hb5,hb6,hb7,hb8,hb9,a6Q,h12,h23,h4,ht,hh⟩:=hy;have p1':e.1<=64:=by first|exact dx p1 (dx s5.len W5)|exact dx p1 (dx s6.len W6)|exact dx p1 (dx s7.len W7)|exact dx p1 (dx s8.len W8)|exact dx p1 (dx s9.len W9)|exact dx p1 (dx ZD.len W10)
     have y2:y.1.2.1=d.1:=y2;have y1:y.2.1.d.c.b.2.2<=d.2.1.d.c.b.2.2+3*e.1:=y1;have hw':wI (y.1.2.1+1)=d.1+1:=by rw[y2];exact hw
     exact⟨⟨by show 0<=wI (y.1.2.1+1);omega,by show wI (y.1.2.1+1)<=6;omega,by show((y.2.1.d.c.b.2.2:Nat):Int)+192*(6-wI (y.1.2.1+1))<=1152;omega,
    (by rw[show y.c.2.1=_ from hb5];first|exact s5|exact s5.trans p2),
    (by rw[show y.c.b.1=_ from hb6];first|exact s6|exact s6.trans p2),
    (by rw[show y.c.b.2.1=_ from hb7];first|exact s7|exact s7.trans p2),
    (by rw[show y.d.1=_ from hb8];first|exact s8|exact s8.trans p2),
    (by rw[show y.d.2.1=_ from hb9];first|exact s9|exact s9.trans p2),
    (by rw[show y.d.b.1=_ from a6Q];first|exact ZD|exact ZD.trans p2),
    h12.trans i12,h23.trans i22,h4.trans i4,ht.trans it,(eC (λz=>z.1) hh).trans i14⟩,by show z4 (6-wI (y.1.2.1+1))<_;omega⟩)
   |rfl
   |exact r0
   |(show d.2.1.d.c.b.2.2<=80000
     omega)
   |(obtain⟨p1,p2⟩:=he
     first|exact dx p1 (dx s5.len W5)|exact dx p1 (dx s6.len W6)|exact dx p1 (dx s7.len W7)|exact dx p1 (dx s8.len W8)|exact dx p1 (dx s9.len W9)|exact dx p1 (dx ZD.len W10))
   |exact dx s5.len (dx W5 (by decide))
   |exact dx s6.len (dx W6 (by decide))
   |exact dx s7.len (dx W7 (by decide))
   |exact dx s8.len (dx W8 (by decide))
   |exact dx s9.len (dx W9 (by decide))
   |exact dx ZD.len (dx W10 (by decide))) 2000 d hd (by omega)
theorem aVA (w d:dS.B)(hd:0<=d.1/\d.1<=6/\d.2.1=w.2.1/\d.c.2.1=w.c.2.1/\d.c.b.1=w.c.b.1/\d.c.b.2.1=w.c.b.2.1/\d.d.1=w.d.1/\d.d.2.1=w.d.2.1/\d.d.b.1=w.d.b.1/\d.d.c.1=w.d.c.1/\d.e.c.b.2.1=w.e.c.b.2.1):Ok (tK d) (λx:jU=>x.2.1=w.2.1/\x.c.2.1=w.c.2.1/\x.c.b.1=w.c.b.1/\x.c.b.2.1=w.c.b.2.1/\x.d.1=w.d.1/\x.d.2.1=w.d.2.1/\x.d.b.1=w.d.b.1/\x.d.c.1=w.d.c.1/\x.e.c.b.2.1=w.e.c.b.2.1):=
 uK (s:=_) (λd:dS.B=>0<=d.1/\d.1<=6/\d.2.1=w.2.1/\d.c.2.1=w.c.2.1/\d.c.b.1=w.c.b.1/\d.c.b.2.1=w.c.b.2.1/\d.d.1=w.d.1/\d.d.2.1=w.d.2.1/\d.d.b.1=w.d.b.1/\d.d.c.1=w.d.c.1/\d.e.c.b.2.1=w.e.c.b.2.1) (λd:dS.B=>z4 (6-d.1)) (λx:jU=>x.2.1=w.2.1/\x.c.2.1=w.c.2.1/\x.c.b.1=w.c.b.1/\x.c.b.2.1=w.c.b.2.1/\x.d.1=w.d.1/\x.d.2.1=w.d.2.1/\x.d.b.1=w.d.b.1/\x.d.c.1=w.d.c.1/\x.e.c.b.2.1=w.e.c.b.2.1) (λd hd=>by
  obtain⟨i0,i1,ik⟩:=hd;have hw:wI (d.1+1)=d.1+1:=bf;unfold Ac;dsimp only;rw[aM];refine⟨λh=> ?_,λ_=>by rw[aw];exact ik⟩;have h:=dh h;have r0:aZ d.1 6=true:=by rw[bp];omega
  rw[r0,hw,bI];intro _ _;rw[aD]
  repeat' (first
   |(rw[aM];refine⟨λc=> ?_,λc=> ?_⟩))
  all_goals
   rw[aw];exact⟨⟨by show 0<=d.1+1;omega,by show d.1+1<=6;omega,ik⟩,by show z4 (6-(d.1+1))<_;omega⟩) 2000 d hd (by omega)
theorem aT2 (d:gE.B)(h:d.d.b.2.1.2.2<=1999)(k:d.d.b.2.1.2.2<=d.e.c.2.1):Ok (mq d) (λx:mo=>match x with|.inl e=>e.c.2.1=d.c.1/\e.c.b.1=d.c.2.1/\e.c.b.2.1=d.c.b.1/\e.d.1=d.c.b.2.1/\e.d.2.1=d.d.1/\e.d.b.1=d.d.2.1/\e.d.c.1=d.d.b.2.1/\e.2.1.b.2.1=d.1.c.1/\e.2.1.d.b.2.1=d.1.d.c.2.1|.inr e=>e.c.2.1=d.c.1/\e.c.b.1=d.c.2.1/\e.c.b.2.1=d.c.b.1/\e.d.1=d.c.b.2.1/\e.d.2.1=d.d.1/\e.d.b.1=d.d.2.1/\e.d.c.1=d.d.b.2.1/\e.2.1.c.1=d.1.c.1/\e.2.1.d.c.1=d.1.d.c.2.1):=by
 unfold mq Ad;try dsimp only
 show PQ _ _;rw[aM];refine⟨λ_=> ?_,λ_=>by rw[aw];exact⟨rfl,rfl,rfl,rfl,rfl,rfl,rfl,rfl,rfl⟩⟩;rw[aS,aD];with_reducible refine ax (aO4 _ ?_) λe _ he=> ?_
 .exact h
 have he:e.b.1=d.d.b.2.1.2.2:=he;have b1:(true&&z9 (e.b.1*11+0) (d.d.b.2.1.2.2*11)&&true)=true:=by rw[he,ky,aS];rfl
 have b2:(true&&wr (0+(e.b.1*11+0)) (d.e.c.2.1*11+0))=true:=by rw[he,pM,ch];omega
 try dsimp only
 rw[b1,b2,aD,aD,aw];exact⟨rfl,rfl,rfl,rfl,rfl,rfl,rfl,rfl,rfl⟩
theorem aT3 (d:gF.B)(j:d.1.2.2.2.2.2.2.2.2.2.2.2.2.2.2.2.2<=1800)(h:d.2.2.2.2.2.2.2.2.2.2.2.1.2.2<=1999)(k:d.2.2.2.2.2.2.2.2.2.2.2.1.2.2<=d.2.2.2.2.2.2.2.2.2.2.2.2.2.2.2.2.2.2.2.2.2.2.1):Ok (mw d) (λx:mr=>match x with|.inl e=>e.2.2.2.2.2.1=d.2.2.2.2.1/\e.2.2.2.2.2.2.1=d.2.2.2.2.2.1/\e.2.2.2.2.2.2.2.1=d.2.2.2.2.2.2.1/\e.2.2.2.2.2.2.2.2.1=d.2.2.2.2.2.2.2.1/\e.2.2.2.2.2.2.2.2.2.1=d.2.2.2.2.2.2.2.2.1/\e.2.2.2.2.2.2.2.2.2.2.1=d.2.2.2.2.2.2.2.2.2.1/\e.2.2.2.2.2.2.2.2.2.2.2.2.1=d.2.2.2.2.2.2.2.2.2.2.2.1/\e.2.1.2.2.2.1=d.1.2.2.2.2.1/\e.2.1.2.2.2.2.2.2.2.2.2.2.2.1=d.1.2.2.2.2.2.2.2.2.2.2.2.2.2.1|.inr e=>e.2.2.2.2.2.1=d.2.2.2.2.1/\e.2.2.2.2.2.2.1=d.2.2.2.2.2.1/\e.2.2.2.2.2.2.2.1=d.2.2.2.2.2.2.1/\e.2.2.2.2.2.2.2.2.1=d.2.2.2.2.2.2.2.1/\e.2.2.2.2.2.2.2.2.2.1=d.2.2.2.2.2.2.2.2.1/\e.2.2.2.2.2.2.2.2.2.2.1=d.2.2.2.2.2.2.2.2.2.1/\e.2.2.2.2.2.2.2.2.2.2.2.2.1=d.2.2.2.2.2.2.2.2.2.2.2.1/\e.2.1.2.2.2.2.1=d.1.2.2.2.2.1/\e.2.1.2.2.2.2.2.2.2.2.2.2.2.2.1=d.1.2.2.2.2.2.2.2.2.2.2.2.2.2.1):=by
 unfold mw Af;try dsimp only
 show PQ _ _;simp only[aS];have b3:wr ((1+d.1.2.2.2.2.2.2.2.2.2.2.2.2.2.2.2.2)*80) 140737488355328=true:=by rw[ch];omega
 rw[bI];intro _ _;rw[aM];refine⟨λ_=> ?_,λ_=> ?_⟩
 .rw[aD,aD];with_reducible refine ax (aVp _ ?_ ?_) λe _ he=> ?_
  .show d.1.2.2.2.2.2.2.2.2.2.2.2.2.2.2.2.2<=1999;omega
  .exact h
  have he:e.2.1=d.2.2.2.2.2.2.2.2.2.2.2.1.2.2:=he;have b1:(true&&z9 (e.2.1*11+0) (d.2.2.2.2.2.2.2.2.2.2.2.1.2.2*11)&&true)=true:=by rw[he,ky,aS];rfl
  have b2:(true&&wr (0+(e.2.1*11+0)) (d.2.2.2.2.2.2.2.2.2.2.2.2.2.2.2.2.2.2.2.2.2.2.1*11+0))=true:=by rw[he,pM,ch];omega
  rw[b1,b2,b3,aD,aD,aD,aD];with_reducible refine ax (bA.Ok (Q:=λ_=>True) (aH2 _ _ _ _ _ _ _ _ _ _ _ _ _ ?_) λ_ _=>trivial) λe3 _ _=> ?_
  .omega
  simp only[aD];with_reducible refine ax (aT2 _ ?_ ?_) λy _ hy=> ?_
  .exact h
  .exact k
  rw[og];refine⟨λa ha=> ?_,λa ha=> ?_⟩
  .rw[aw];rw[ha] at hy;exact hy
  .rw[aw];rw[ha] at hy;exact hy
 .simp only[aD];with_reducible refine ax (aT2 _ ?_ ?_) λy _ hy=> ?_
  .exact h
  .exact k
  rw[og];refine⟨λa ha=> ?_,λa ha=> ?_⟩
  .rw[aw];rw[ha] at hy;exact hy
  .rw[aw];rw[ha] at hy;exact hy
theorem aMi (d:gG.B)(j:d.1.2.2.2.2.2.2.2.2.2.2.2.2.2.2.2.2=0)(l4:d.2.2.2.2.1.2.2.1<=64)(l5:d.2.2.2.2.2.1.2.2.1<=64)(l6:d.2.2.2.2.2.2.1.2.2.1<=64)(l7:d.2.2.2.2.2.2.2.1.2.2.1<=64)(l8:d.2.2.2.2.2.2.2.2.1.2.2.1<=64)(l9:d.2.2.2.2.2.2.2.2.2.1.2.2.1<=64)(h:d.2.2.2.2.2.2.2.2.2.2.2.1.2.2<=1999)(k:d.2.2.2.2.2.2.2.2.2.2.2.1.2.2<=d.2.2.2.2.2.2.2.2.2.2.2.2.2.2.2.2.2.2.2.2.2.1):Ok (jW d) (λx:mx=>match x with|.inl e=>BR d.2.2.2.2.2.2.2.2.2.2.2.2.2.1.1 d.2.2.2.2.1 e.2.2.2.2.2.1/\BR d.2.2.2.2.2.2.2.2.2.2.2.2.2.1.1 d.2.2.2.2.2.1 e.2.2.2.2.2.2.1/\BR d.2.2.2.2.2.2.2.2.2.2.2.2.2.1.1 d.2.2.2.2.2.2.1 e.2.2.2.2.2.2.2.1/\BR d.2.2.2.2.2.2.2.2.2.2.2.2.2.1.1 d.2.2.2.2.2.2.2.1 e.2.2.2.2.2.2.2.2.1/\BR d.2.2.2.2.2.2.2.2.2.2.2.2.2.1.1 d.2.2.2.2.2.2.2.2.1 e.2.2.2.2.2.2.2.2.2.1/\BR d.2.2.2.2.2.2.2.2.2.2.2.2.2.1.1 d.2.2.2.2.2.2.2.2.2.1 e.2.2.2.2.2.2.2.2.2.2.1/\e.2.2.2.2.2.2.2.2.2.2.2.2.1=d.2.2.2.2.2.2.2.2.2.2.2.1/\e.2.1.2.2.2.1=d.1.2.2.2.2.1/\e.2.1.2.2.2.2.2.2.2.2.2.2.2.1=d.1.2.2.2.2.2.2.2.2.2.2.2.2.2.1|.inr e=>BR d.2.2.2.2.2.2.2.2.2.2.2.2.2.1.1 d.2.2.2.2.1 e.2.2.2.2.2.1/\BR d.2.2.2.2.2.2.2.2.2.2.2.2.2.1.1 d.2.2.2.2.2.1 e.2.2.2.2.2.2.1/\BR d.2.2.2.2.2.2.2.2.2.2.2.2.2.1.1 d.2.2.2.2.2.2.1 e.2.2.2.2.2.2.2.1/\BR d.2.2.2.2.2.2.2.2.2.2.2.2.2.1.1 d.2.2.2.2.2.2.2.1 e.2.2.2.2.2.2.2.2.1/\BR d.2.2.2.2.2.2.2.2.2.2.2.2.2.1.1 d.2.2.2.2.2.2.2.2.1 e.2.2.2.2.2.2.2.2.2.1/\BR d.2.2.2.2.2.2.2.2.2.2.2.2.2.1.1 d.2.2.2.2.2.2.2.2.2.1 e.2.2.2.2.2.2.2.2.2.2.1/\e.2.2.2.2.2.2.2.2.2.2.2.2.1=d.2.2.2.2.2.2.2.2.2.2.2.1/\e.2.1.2.2.2.2.1=d.1.2.2.2.2.1/\e.2.1.2.2.2.2.2.2.2.2.2.2.2.2.1=d.1.2.2.2.2.2.2.2.2.2.2.2.2.2.1):=by
 unfold jW Ag;try dsimp only
 show PQ _ _;simp only[aS];simp only[aD];refine ax (aVz _ _ l4 l5 l6 l7 l8 l9 ⟨dZ 0,(show(0:Int)<=6 by decide),(by show((d.1.2.2.2.2.2.2.2.2.2.2.2.2.2.2.2.2:Nat):Int)+192*(6-0)<=1152;omega),BR.refl _ _,BR.refl _ _,BR.refl _ _,BR.refl _ _,BR.refl _ _,BR.refl _ _,rfl,rfl,rfl,rfl,rfl⟩) λa _ ha=> ?_;obtain⟨u1,u5,u6,u7,u8,u9,u10,u12,u22,u4,ut⟩:=ha;simp only[aD];refine ax (aVA _ _ ⟨dZ 0,(show(0:Int)<=6 by decide),rfl,rfl,rfl,rfl,rfl,rfl,rfl,rfl,rfl⟩) λb _ hb=> ?_;obtain⟨g1,g5,g6,g7,g8,g9,g10,g12,g23⟩:=hb;rw[aM];refine⟨λ_=> ?_,λ_=> ?_⟩
 .simp only[aD];with_reducible refine ax (aT3 _ ?_ ?_ ?_) λy _ hy=> ?_
  .show b.2.1.2.2.2.2.2.2.2.2.2.2.2.2.2.2.2.2<=1800;rw[g1];exact dx u1 (by decide)
  .show b.2.2.2.2.2.2.2.2.2.2.2.2.1.2.2<=1999;rw[g12];show a.2.2.2.2.2.2.2.2.2.2.2.2.1.2.2<=1999;rw[u12];exact h
  .show b.2.2.2.2.2.2.2.2.2.2.2.2.1.2.2<=b.2.2.2.2.2.2.2.2.2.2.2.2.2.2.2.2.2.2.2.2.2.2.2.1;rw[g12,g23];show a.2.2.2.2.2.2.2.2.2.2.2.2.1.2.2<=a.2.2.2.2.2.2.2.2.2.2.2.2.2.2.2.2.2.2.2.2.2.2.1;rw[u12,u22];exact k
  rw[og];refine⟨λa1 ha=> ?_,λa1 ha=> ?_⟩
  .rw[aw];rw[ha] at hy;obtain⟨q5,q6,q7,q8,q9,q10,Ul,q4,qt⟩:=hy;exact⟨(by rw[q5];show BR _ _ b.2.2.2.2.2.1;rw[g5];exact u5),(by rw[q6];show BR _ _ b.2.2.2.2.2.2.1;rw[g6];exact u6),(by rw[q7];show BR _ _ b.2.2.2.2.2.2.2.1;rw[g7];exact u7),(by rw[q8];show BR _ _ b.2.2.2.2.2.2.2.2.1;rw[g8];exact u8),(by rw[q9];show BR _ _ b.2.2.2.2.2.2.2.2.2.1;rw[g9];exact u9),(by rw[q10];show BR _ _ b.2.2.2.2.2.2.2.2.2.2.1;rw[g10];exact u10),Ul.trans (g12.trans u12),q4.trans ((eC (λz=>z.2.2.2.2.1) g1).trans u4),qt.trans ((eC (λz=>z.2.2.2.2.2.2.2.2.2.2.2.2.2.1) g1).trans ut)⟩
  .rw[aw];rw[ha] at hy;obtain⟨q5,q6,q7,q8,q9,q10,Ul,q4,qt⟩:=hy;exact⟨(by rw[q5];show BR _ _ b.2.2.2.2.2.1;rw[g5];exact u5),(by rw[q6];show BR _ _ b.2.2.2.2.2.2.1;rw[g6];exact u6),(by rw[q7];show BR _ _ b.2.2.2.2.2.2.2.1;rw[g7];exact u7),(by rw[q8];show BR _ _ b.2.2.2.2.2.2.2.2.1;rw[g8];exact u8),(by rw[q9];show BR _ _ b.2.2.2.2.2.2.2.2.2.1;rw[g9];exact u9),(by rw[q10];show BR _ _ b.2.2.2.2.2.2.2.2.2.2.1;rw[g10];exact u10),Ul.trans (g12.trans u12),q4.trans ((eC (λz=>z.2.2.2.2.1) g1).trans u4),qt.trans ((eC (λz=>z.2.2.2.2.2.2.2.2.2.2.2.2.2.1) g1).trans ut)⟩
 .simp only[aD];with_reducible refine ax (aT3 _ ?_ ?_ ?_) λy _ hy=> ?_
  .show b.2.1.2.2.2.2.2.2.2.2.2.2.2.2.2.2.2.2<=1800;rw[g1];exact dx u1 (by decide)
  .show b.2.2.2.2.2.2.2.2.2.2.2.2.1.2.2<=1999;rw[g12];show a.2.2.2.2.2.2.2.2.2.2.2.2.1.2.2<=1999;rw[u12];exact h
  .show b.2.2.2.2.2.2.2.2.2.2.2.2.1.2.2<=b.2.2.2.2.2.2.2.2.2.2.2.2.2.2.2.2.2.2.2.2.2.2.2.1;rw[g12,g23];show a.2.2.2.2.2.2.2.2.2.2.2.2.1.2.2<=a.2.2.2.2.2.2.2.2.2.2.2.2.2.2.2.2.2.2.2.2.2.2.1;rw[u12,u22];exact k
  rw[og];refine⟨λa1 ha=> ?_,λa1 ha=> ?_⟩
  .rw[aw];rw[ha] at hy;obtain⟨q5,q6,q7,q8,q9,q10,Ul,q4,qt⟩:=hy;exact⟨(by rw[q5];show BR _ _ b.2.2.2.2.2.1;rw[g5];exact u5),(by rw[q6];show BR _ _ b.2.2.2.2.2.2.1;rw[g6];exact u6),(by rw[q7];show BR _ _ b.2.2.2.2.2.2.2.1;rw[g7];exact u7),(by rw[q8];show BR _ _ b.2.2.2.2.2.2.2.2.1;rw[g8];exact u8),(by rw[q9];show BR _ _ b.2.2.2.2.2.2.2.2.2.1;rw[g9];exact u9),(by rw[q10];show BR _ _ b.2.2.2.2.2.2.2.2.2.2.1;rw[g10];exact u10),Ul.trans (g12.trans u12),q4.trans ((eC (λz=>z.2.2.2.2.1) g1).trans u4),qt.trans ((eC (λz=>z.2.2.2.2.2.2.2.2.2.2.2.2.2.1) g1).trans ut)⟩
  .rw[aw];rw[ha] at hy;obtain⟨q5,q6,q7,q8,q9,q10,Ul,q4,qt⟩:=hy;exact⟨(by rw[q5];show BR _ _ b.2.2.2.2.2.1;rw[g5];exact u5),(by rw[q6];show BR _ _ b.2.2.2.2.2.2.1;rw[g6];exact u6),(by rw[q7];show BR _ _ b.2.2.2.2.2.2.2.1;rw[g7];exact u7),(by rw[q8];show BR _ _ b.2.2.2.2.2.2.2.2.1;rw[g8];exact u8),(by rw[q9];show BR _ _ b.2.2.2.2.2.2.2.2.2.1;rw[g9];exact u9),(by rw[q10];show BR _ _ b.2.2.2.2.2.2.2.2.2.2.1;rw[g10];exact u10),Ul.trans (g12.trans u12),q4.trans ((eC (λz=>z.2.2.2.2.1) g1).trans u4),qt.trans ((eC (λz=>z.2.2.2.2.2.2.2.2.2.2.2.2.2.1) g1).trans ut)⟩
theorem a0m (N:Nat)(h1:1<=N)(hN:N<=1999)(x:mn.B)(hs:x.2.2.2.2.2.2.2.2.2.2.2.2.1.1<=(N:Int))(hl:x.2.2.2.2.2.2.2.2.2.2.2.2.1.2.2<=N)(hq:x.2.1.2.2.2.2.1<=1999)(l5:x.2.2.2.2.2.1.2.2.1<=64)(l6:x.2.2.2.2.2.2.1.2.2.1<=64)(l7:x.2.2.2.2.2.2.2.1.2.2.1<=64)(l8:x.2.2.2.2.2.2.2.2.1.2.2.1<=64)(l9:x.2.2.2.2.2.2.2.2.2.1.2.2.1<=64)(l10:x.2.2.2.2.2.2.2.2.2.2.1.2.2.1<=64):Ok (my x) (λr:rY=>BR x.1.1 x.2.2.2.2.2.1 r.1.2.1/\BR x.1.1 x.2.2.2.2.2.2.1 r.1.2.2.1/\BR x.1.1 x.2.2.2.2.2.2.2.1 r.1.2.2.2.1/\BR x.1.1 x.2.2.2.2.2.2.2.2.1 r.1.2.2.2.2.1/\BR x.1.1 x.2.2.2.2.2.2.2.2.2.1 r.1.2.2.2.2.2.1/\BR x.1.1 x.2.2.2.2.2.2.2.2.2.2.1 r.1.2.2.2.2.2.2.1/\r.1.2.2.2.2.2.2.2.2.1=x.2.2.2.2.2.2.2.2.2.2.2.2.1.1/\r.1.2.2.2.2.2.2.2.2.2.2<=N/\r.1.1.2.2.2.2.1=x.2.1.2.2.2.2.1/\r.1.1.2.2.2.2.2.2.2.2.2.2.2.2.2.1=x.1.1):=by
 unfold my xQ;try dsimp only
 show PQ _ _;simp only[aS];rw[aM];refine⟨λ_=> ?_,λ_=> ?_⟩
 .simp only[aD];with_reducible refine ax (aVw N h1 hN _ ?_ ?_) λe _ he=> ?_
  .exact hs
  .exact hq
  rw[um];refine⟨λb hb=> ?_,λb hb=> ?_⟩
  .rw[hb] at he;obtain⟨e1,e2,e4,et⟩:=he;have e1:b.2=x.2.2.2.2.2.2.2.2.2.2.2.2.1:=e1;simp only[aD];with_reducible refine ax (aMi _ ?_ ?_ ?_ ?_ ?_ ?_ ?_ ?_ ?_) λy _ hy=> ?_
   .exact e2
   .exact l5
   .exact l6
   .exact l7
   .exact l8
   .exact l9
   .exact l10
   .show b.2.2.2<=1999;rw[e1];omega
   .show b.2.2.2<=x.2.2.2.2.2.2.2.2.2.2.2.2.1.2.2;rw[e1];exact cP _
   rw[og];refine⟨λa ha=> ?_,λa ha=> ?_⟩
   .rw[ha] at hy;obtain⟨s5,s6,s7,s8,s9,ZD,Ul,q4,qt⟩:=hy;rw[aw];exact⟨s5,s6,s7,s8,s9,ZD,(by show a.2.2.2.2.2.2.2.2.2.2.2.2.1.1=x.2.2.2.2.2.2.2.2.2.2.2.2.1.1;rw[Ul];show b.2.1=_;rw[e1]),(by show a.2.2.2.2.2.2.2.2.2.2.2.2.1.2.2<=N;rw[Ul];show b.2.2.2<=N;rw[e1];exact hl),q4.trans e4,qt.trans et⟩
   .rw[ha] at hy;obtain⟨s5,s6,s7,s8,s9,ZD,Ul,q4,qt⟩:=hy;rw[aw];exact⟨s5,s6,s7,s8,s9,ZD,(by show a.2.2.2.2.2.2.2.2.2.2.2.2.1.1=x.2.2.2.2.2.2.2.2.2.2.2.2.1.1;rw[Ul];show b.2.1=_;rw[e1]),(by show a.2.2.2.2.2.2.2.2.2.2.2.2.1.2.2<=N;rw[Ul];show b.2.2.2<=N;rw[e1];exact hl),q4.trans e4,qt.trans et⟩
  .rw[hb] at he;obtain⟨e1,e2,e3,e4,e5,et⟩:=he;have e2:b.1.2.1=x.2.2.2.2.2.2.2.2.2.2.2.2.1.1:=e2;simp only[aD];with_reducible refine ax (aMi _ ?_ ?_ ?_ ?_ ?_ ?_ ?_ ?_ ?_) λy _ hy=> ?_
   .exact e4
   .exact l5
   .exact l6
   .exact l7
   .exact l8
   .exact l9
   .exact l10
   .show b.1.2.2.2<=1999;omega
   .exact e3
   rw[og];refine⟨λa ha=> ?_,λa ha=> ?_⟩
   .rw[ha] at hy;obtain⟨s5,s6,s7,s8,s9,ZD,Ul,q4,qt⟩:=hy;rw[aw];exact⟨s5,s6,s7,s8,s9,ZD,(by show a.2.2.2.2.2.2.2.2.2.2.2.2.1.1=x.2.2.2.2.2.2.2.2.2.2.2.2.1.1;rw[Ul];exact e2),(by show a.2.2.2.2.2.2.2.2.2.2.2.2.1.2.2<=N;rw[Ul];exact e1),q4.trans e5,qt.trans et⟩
   .rw[ha] at hy;obtain⟨s5,s6,s7,s8,s9,ZD,Ul,q4,qt⟩:=hy;rw[aw];exact⟨s5,s6,s7,s8,s9,ZD,(by show a.2.2.2.2.2.2.2.2.2.2.2.2.1.1=x.2.2.2.2.2.2.2.2.2.2.2.2.1.1;rw[Ul];exact e2),(by show a.2.2.2.2.2.2.2.2.2.2.2.2.1.2.2<=N;rw[Ul];exact e1),q4.trans e5,qt.trans et⟩
 .rw[bI];intro _ _;rw[bI];intro _ _;simp only[aD];with_reducible refine ax (aMi _ ?_ ?_ ?_ ?_ ?_ ?_ ?_ ?_ ?_) λy _ hy=> ?_
  .rfl
  .exact l5
  .exact l6
  .exact l7
  .exact l8
  .exact l9
  .exact l10
  .show x.2.2.2.2.2.2.2.2.2.2.2.2.1.2.2<=1999;omega
  .exact cP _
  rw[og];refine⟨λa ha=> ?_,λa ha=> ?_⟩
  .rw[ha] at hy;obtain⟨s5,s6,s7,s8,s9,ZD,Ul,q4,qt⟩:=hy;rw[aw];exact⟨s5,s6,s7,s8,s9,ZD,(by show a.2.2.2.2.2.2.2.2.2.2.2.2.1.1=x.2.2.2.2.2.2.2.2.2.2.2.2.1.1;rw[Ul];done),(by show a.2.2.2.2.2.2.2.2.2.2.2.2.1.2.2<=N;rw[Ul];exact hl),q4.trans rfl,qt.trans rfl⟩
  .rw[ha] at hy;obtain⟨s5,s6,s7,s8,s9,ZD,Ul,q4,qt⟩:=hy;rw[aw];exact⟨s5,s6,s7,s8,s9,ZD,(by show a.2.2.2.2.2.2.2.2.2.2.2.2.1.1=x.2.2.2.2.2.2.2.2.2.2.2.2.1.1;rw[Ul];done),(by show a.2.2.2.2.2.2.2.2.2.2.2.2.1.2.2<=N;rw[Ul];exact hl),q4.trans rfl,qt.trans rfl⟩
abbrev Ur (x:Int):Prop:= -1152921504606846976<=x/\x<=1152921504606846976
abbrev Dr (x:Int):Prop:=1<=x/\x<=72057594037927936
def uD (v:(Nat->Int)×(Nat->Int)):Prop:=(∀j,j<276->Ur (v.1 j))/\(∀j,j<24->Dr (v.2 j))
theorem uD.of {u v:Nat->Int}(h:∀j,j<276->Ur (u j))(k:∀j,j<24->Dr (v j)):uD (u,v):=⟨h,k⟩
theorem ao7 {P:Int->Prop}{m:Nat}{v:Nat->Int}{k:Nat}{x:Int}(h:∀j,j<m->P (v j))(hx:P x):∀j,j<m->P (bif z9 j k then x else v j):=by
 intro j hj;cases z9 j k
 .exact h j hj
 .exact hx
theorem afv (x0 x1 x2:Int)(x3:Bool)(h:x1<=x2):Po (aT x0 x1 x2 x3) (λr=>x1<=r.1/\r.1<=x2):=by
 unfold aT qF;show PW _ _;simp only[bz,aW,j7,Om];omega
theorem a4U (x0:Int)(x1:Bool):Po (aO x0 x1) (λr=>Ur r.1):=by
 unfold aO Ql;show PW _ _;refine aI (afv _ _ _ _ (by decide)) λd _ hd=> ?_;rw[aW];exact hd
theorem aT4 (x0:Bool):Po (oH x0) (λr:Int=>Ur r):=by
 unfold oH OL;show PW _ _;simp only[bz,aW];exact⟨λ_=>by decide,λ_=>by decide⟩
theorem a0n (x0:Int)(x1 x2 x3:Bool):Po (jC x0 x1 x2 x3) (λr=>Ur r.1):=by
 unfold jC Ei;show PW _ _;rw[bz];refine⟨λ_=>aI (aT4 _) λd _ hd=> ?_,λ_=>aI (a4U _ _) λd _ hd=> ?_⟩;all_goals rw[aW];exact hd
theorem a6R (x0 x1 x2:Int)(x3:Bool):Po (p7 x0 x1 x2 x3) (λr=>Ur r.1):=by
 unfold p7 GP;show PW _ _;try dsimp only
 repeat' (first
  |(with_reducible refine aI (aT4 _) λe _ he=> ?_)
  |(with_reducible refine aI (a0n _ _ _ _) λe _ he=> ?_)
  |(rw[bJ];intro _ _)
  |(rw[bz];refine⟨λ_=> ?_,λ_=> ?_⟩))
 all_goals (rw[aW];first|exact he|(show Ur 0;decide))
theorem a4V (x0 x1 x2:Int)(x3:Bool):Po (bh x0 x1 x2 x3) (λr=>Ur r.1):=by
 unfold bh IF;show PW _ _;try dsimp only
 repeat' (first
  |(with_reducible refine aI (a6R _ _ _ _) λe _ he=> ?_)
  |(rw[bJ];intro _ _)
  |(rw[bz];refine⟨λ_=> ?_,λ_=> ?_⟩))
 all_goals (rw[aW];first|exact he|(show Ur 0;decide))
theorem a4W (x0:Nat)(x1:Bool)(x2:Nat->Int)(w0:Bool):Po (cF x0 x1 x2 w0) (λr=>Ur r.1):=by
 unfold cF Qv;show PW _ _;try dsimp only
 repeat' (first
  |(rw[dz];exact trivial)
  |(with_reducible refine aI (a0n _ _ _ _) λe _ he=> ?_)
  |(rw[bJ];intro _ _)
  |(rw[bz];refine⟨λ_=> ?_,λ_=> ?_⟩))
 all_goals (rw[aW];exact he)
theorem aBR (x0:Int)(x1:Bool):Po (gr x0 x1) (λr=>Dr r.1):=by
 unfold gr yM;show PW _ _;refine aI (afv _ _ _ _ (by decide)) λd _ hd=> ?_;rw[aW];exact hd
theorem a0o (x0 x1:Nat->Int)(x2 x3 x4:Int)(h:∀j,j<276->Ur (x0 j))(k:Ur x4):Po (ur x0 x1 x2 x3 x4) (λr=>(∀j,j<276->Ur (r.1 j))/\r.2=x1):=by
 unfold ur Xe;show PW _ _;try dsimp only
 rw[bJ];intro d _
 repeat' (first
  |(rw[dz];exact trivial)
  |(rw[bz];refine⟨λ_=> ?_,λ_=> ?_⟩))
 .rw[aW];exact⟨ao7 h k,rfl⟩
 .rw[aW];exact⟨h,rfl⟩
theorem aDf:∀(d:ek.B) (hd:uD d.b.1),Po (oI d) (λx:lT=>uD x.b.1):=
 oZ (λd hd=>by
  unfold rD;try dsimp only
  repeat' (first
   |(rw[dz];exact trivial)
   |(with_reducible refine aI (aBR _ _) λe _ he=> ?_)
   |(rw[bz];refine⟨λ_=> ?_,λ_=> ?_⟩))
  .rw[aW];exact⟨hd.1,ao7 hd.2 he⟩
  .rw[aW];exact hd)
theorem aDg:∀(d:eo.B) (hd:uD d.b.1),Po (oJ d) (λx:lU=>uD x.b.1):=
 oZ (λd hd=>by
  unfold rE;try dsimp only
  repeat' (first
   |(rw[dz];exact trivial)
   |(with_reducible refine aI (afv _ _ _ _ (by decide)) λe _ he=> ?_)
   |(rw[bz];refine⟨λ_=> ?_,λ_=> ?_⟩))
  .rw[aW];exact⟨ao7 hd.1 he,hd.2⟩
  .rw[aW];exact hd)
theorem aw1 (x0 x1:Nat->Int)(x2:Bool)(h:uD (x0,x1)):Po (du x0 x1 x2) (λr=>uD r.1):=by
 unfold du wA;show PW _ _;refine aI (aDf _ (by exact h)) λd _ hd=> ?_;refine aI (aDg _ (by exact hd)) λe _ he=> ?_;rw[aW];exact he
theorem aGS (j:Int)(v:(Nat->Int)×(Nat->Int)):∀(d:ep.B) (hd:d.1.1=j/\d.c.2.1=v),Po (rI d) (λx:lW=>x.1.1=j/\x.c.2.1=v):=
 oZ (λd hd=>by
  unfold xf;try dsimp only
  try dsimp only
  repeat' (first
   |(rw[dz];exact trivial)
   |(rw[bJ];intro _ _)
   |(rw[bz];refine⟨λ_=> ?_,λ_=> ?_⟩))
  all_goals (rw[aW];exact hd))
theorem aGT (j:Int)(v:(Nat->Int)×(Nat->Int)):∀(d:eu.B) (hd:d.1.1=j/\d.c.2.1=v),Po (rJ d) (λx:lX=>x.1.1=j/\x.c.2.1=v):=
 oZ (λd hd=>by
  unfold xg;try dsimp only
  try dsimp only
  repeat' (first
   |(rw[dz];exact trivial)
   |(rw[bJ];intro _ _)
   |(rw[bz];refine⟨λ_=> ?_,λ_=> ?_⟩))
  all_goals (rw[aW];exact hd))
theorem aGU (j:Int)(v:Nat->Int):∀(d:ew.B) (hd:d.1.1=j/\(∀k,k<276->Ur (d.c.2.1.1 k))/\d.c.2.1.2=v),Po (rK d) (λx:oQ=>x.1.1=j/\(∀k,k<276->Ur (x.c.2.1.1 k))/\x.c.2.1.2=v):=
 oZ (λd hd=>by
  unfold xj;try dsimp only
  try dsimp only
  repeat' (first
   |(rw[dz];exact trivial)
   |(with_reducible refine aI (a4V _ _ _ _) λe _ he=> ?_)
   |(with_reducible refine aI (a0o _ _ _ _ _ hd.2.1 he) λq _ hq=> ?_)
   |(with_reducible refine aI (aGT j q _ ⟨hd.1,rfl⟩) λw _ hw=> ?_)
   |(rw[bJ];intro _ _)
   |(rw[bz];refine⟨λ_=> ?_,λ_=> ?_⟩))
  .rw[aW];obtain⟨w1,w2⟩:=hw;exact⟨w1,by rw[show _=q from w2];exact hq.1,by rw[show _=q from w2];exact hq.2.trans hd.2.2⟩
  .rw[aW];exact hd)
theorem aGV:∀(d:fe.B) (hd:d.1<=23/\ -1<=d.1/\(∀k,k<276->Ur (d.c.2.1 k))/\(∀k:Nat,d.1<(k:Int)->k<24->Dr (d.c.2.2 k))),Po (rL d) (λx:oR=>uD x.c.2):=
 oZ (λd hd=>by
  unfold xm;try dsimp only
  try dsimp only
  obtain⟨i0,i1,i2,i3⟩:=hd;rw[bz];refine⟨λh=> ?_,λh=> ?_⟩
  .have h:=dh h;have hw:wI (d.1-1)=d.1-1:=eS;with_reducible refine aI (aGS d.1 d.c.2 _ ⟨rfl,rfl⟩) λa _ ha=> ?_
   obtain⟨a1,a2⟩:=ha;try dsimp only
   repeat' (first
    |(rw[dz];exact trivial)
    |(with_reducible refine aI (afv _ 1 72057594037927936 _ (by decide)) λe _ he=> ?_)
    |(with_reducible refine aI (aGU a.1.1 _ _ ⟨rfl,by rw[a2];exact i2,rfl⟩) λw _ hw=> ?_)
    |(rw[bJ];intro _ _)
    |(rw[bz];refine⟨λ_=> ?_,λ_=> ?_⟩))
   rw[aW];obtain⟨w1,w2,w3⟩:=hw;have w1:w.1.1=d.1:=w1.trans a1;show wI (w.1.1-1)<=23/\ -1<=wI (w.1.1-1)/\(∀k,k<276->Ur (w.c.2.1.1 k))/\(∀k:Nat,wI (w.1.1-1)<(k:Int)->k<24->Dr (w.c.2.1.2 k));rw[w1,hw,w3];refine⟨by omega,by omega,w2,λk hk h24=> ?_⟩;show Dr (bif z9 k (z4 a.1.1) then e.1 else a.c.2.1.2 k);cases hb:z9 k (z4 a.1.1) with
   |true=>exact he
   |false=>
    rw[a2];have nb:k≠z4 a.1.1:=λh=>by rw[h,Ar] at hb;cases hb
    have a1:a.1.1=d.1:=a1;rw[a1] at nb;exact i3 k (by omega) h24
  .have h:=wS h;rw[aW];exact⟨i2,λk hk=>i3 k (by omega) hk⟩)
theorem aBS (x0 x1 x2 x3:Nat->Int)(x4:Bool):Po (gm x0 x1 x2 x3 x4) (λr=>uD r.1):=by
 unfold gm BC;show PW _ _;rw[bJ];intro _ _;rw[bJ];intro _ _;rw[bJ];intro _ _;refine aI (aGV _ ⟨(show(23:Int)<=23 by decide),(show(-1:Int)<=23 by decide),λk _=>(show Ur 0 by decide),λk h1 h2=>absurd (show(23:Int)<k from h1) (by omega)⟩) λe _ he=> ?_;rw[aW];exact he
theorem aok (x0 x1:Nat->Int)(x2:Int)(x3:Nat)(x4:Bool)(x5:Nat->Int)(w0:Bool):Po (cJ x0 x1 x2 x3 x4 x5 w0) (λr=>uD r.1):=by
 unfold cJ F2;show PW _ _;rw[bJ];intro _ _;rw[bz];refine⟨λ_=> ?_,λ_=>by rw[dz];exact trivial⟩;rw[bJ];intro _ _;refine aI (aBS _ _ _ _ _) λe _ he=> ?_;rw[aW];exact he
theorem aSl:∀(d:iA.B) (hd:uD (d.b.2.1,d.c.1)),Po (zz d) (λx:tX=>uD (x.b.2.1,x.c.1)):=
 oZ (λd hd=>by
  unfold E2;try dsimp only
  repeat' (first
   |(rw[dz];exact trivial)
   |(rw[bJ];intro _ _)
   |(rw[bz];refine⟨λ_=> ?_,λ_=> ?_⟩))
  all_goals (rw[aW];exact hd))
theorem aSm:∀(d:iB.B) (hd:uD (d.b.2.1.1,d.b.2.1.2.1)),Po (zA d) (λx:tY=>uD (x.b.2.1.1,x.b.2.1.2.1)):=
 oZ (λd hd=>by
  unfold E3;try dsimp only
  try dsimp only
  repeat' (first
   |(rw[dz];exact trivial)
   |(rw[bJ];intro _ _)
   |(rw[bz];refine⟨λ_=> ?_,λ_=> ?_⟩))
  all_goals (rw[aW];exact hd))
theorem aSn:∀(d:iC.B) (hd:uD (d.b.2.1,d.c.1)),Po (zB d) (λx:tZ=>uD (x.b.2.1,x.c.1)):=
 oZ (λd hd=>by
  unfold E4;try dsimp only
  try dsimp only
  rw[bz];refine⟨λ_=> ?_,λ_=>by rw[aW];exact hd⟩;rw[bz];refine⟨λ_=> ?_,λ_=>by rw[dz];exact trivial⟩;with_reducible refine aI (aSm _ hd) λa _ ha=> ?_
  try dsimp only
  repeat' (first
   |(rw[dz];exact trivial)
   |(rw[bJ];intro _ _)
   |(rw[bz];refine⟨λ_=> ?_,λ_=> ?_⟩))
  all_goals (rw[aW];exact ha))
theorem a2t (x0 x1 x2:Nat->Int)(x3:Int)(x4:Bool)(h:uD (x0,x1)):Po (mJ x0 x1 x2 x3 x4) (λr=>uD (r.2.1,r.b.1)):=by
 unfold mJ JJ;try dsimp only
 show PW _ _;refine aI (aw1 _ _ _ h) λd _ hd=> ?_;refine aI (aSl _ hd) λd1 _ h1=> ?_;rw[bJ];intro _ _;refine aI (aSn _ h1) λd2 _ h2=> ?_;rw[aW];exact h2
theorem aMj:∀(d:fW.B) (hd:uD d.c.2.1),Po (uO d) (λx:qx=>uD x.c.2.1):=
 oZ (λd hd=>by
  unfold A7;try dsimp only
  try dsimp only
  have hU:=hd.1;have hV:=hd.2
  repeat' (first
   |(rw[dz];exact trivial)
   |(with_reducible refine aI (a0o _ _ _ _ _ hU he) λq _ hq=> ?_)
   |(with_reducible refine aI (a4W _ _ _ _) λe _ he=> ?_)
   |(rw[bJ];intro _ _)
   |(rw[bz];refine⟨λ_=> ?_,λ_=> ?_⟩))
  all_goals (rw[aW];first|exact hd|exact⟨hq.1,by rw[show _=_ from hq.2];exact hd.2⟩))
theorem aMk:∀(d:fY.B) (hd:uD d.c.2.1),Po (uQ d) (λx:qz=>uD x.c.2.1):=
 oZ (λd hd=>by
  unfold A9;try dsimp only
  try dsimp only
  have hU:=hd.1;have hV:=hd.2
  repeat' (first
   |(rw[dz];exact trivial)
   |(with_reducible refine aI (afv _ 1 72057594037927936 _ (by decide)) λe _ he=> ?_)
   |(with_reducible refine aI (aMj _ (uD.of hU (ao7 hV he))) λq _ hq=> ?_)
   |(rw[bJ];intro _ _)
   |(rw[bz];refine⟨λ_=> ?_,λ_=> ?_⟩))
  all_goals (rw[aW];first|exact hd|exact hq))
theorem aMl:∀(d:fX.B) (hd:uD d.c.2.1),Po (uP d) (λx:qy=>uD x.c.2.1):=
 oZ (λd hd=>by
  unfold A8;try dsimp only
  try dsimp only
  repeat' (first
   |(rw[dz];exact trivial)
   |(rw[bJ];intro _ _)
   |(rw[bz];refine⟨λ_=> ?_,λ_=> ?_⟩))
  all_goals (rw[aW];exact hd))
theorem aVB (x0 x1 x2:Nat->Int)(x3:Int)(x4:Bool)(h:uD (x0,x1)):Po (nk x0 x1 x2 x3 x4) (λr=>uD r.1.1):=by
 unfold nk E5;show PW _ _;refine aI (a2t _ _ _ _ _ h) λd _ hd=> ?_;refine aI (aMk _ hd) λd1 _ h1=> ?_;refine aI (aMl _ h1) λd2 _ h2=> ?_;rw[aW];exact h2
theorem aSo (x0:Nat->Int)(x1:Nat->Int)(x2:Nat->Int)(x3:Int)(x4:Int)(x5:Int)(x6:Int)(x7:Int)(x8:Int)(x9:Int)(gw:Int)(gx:Nat->Int)(EC:Bool):Po (zZ x0 x1 x2 x3 x4 x5 x6 x7 x8 x9 gw gx EC) (λr=>uD r.1):=by
 unfold zZ abe;show PW _ _;rw[bJ];intro _ _;rw[bJ];intro _ _;refine aI (aBS _ _ _ _ _) λe _ he=> ?_;rw[aW];exact he
theorem a0p {f:Nat->Int}(n:Nat)(h:∀j,0<=f j):0<=pk f n:=by
 induction n with
 |zero=>exact dZ _
 |succ n ih=>have:=h n;rw[pk];omega
theorem ug (a:Int):0<=a*a:=by
 rcases abP 0 a with h|h
 .exact Aq h h
 .have:=Aq (a:= -a) (b:= -a) (by omega) (by omega);rwa [Int.neg_mul_neg] at this
theorem aBT (n:Nat)(hn:n<=64)(eJ w:Bool)(l:Nat->Int)(r:Int)(hr:isR r (pk (λj=>sat (l j)*sat (l j)) n)):
  cw n eJ l w=some (sat r,(eJ||oE (λj=>dE (l j)) n)||dE r):=by
 have m:(if 64<ws n then 64 else ws n)=ws n:=by rw[if_neg (by simp only[dQ];omega)]
 have hre:HA (ws n) n=true:=by
  unfold HA;simp only[dQ,cL,j7];omega
 have q0:z4 (ws n)=n:=rfl;simp only[cw,Qx,Pg.bP,Pg.bN,Pg.bZ,Pg.eD,Pg.dD];unfold DN;rw[m,hre,bn,q0]
 refine FL (λt d=>∃(i:Nat) (h l':Int),i+t=n/\okW h l'/\vW h l'=pk (λj=>sat (l j)*sat (l j)) i/\d=(((n,w&&false),ws n,ws i),(eJ||oE (λj=>dE (l j)) i),(n,l),h,l')) ?_ 2000 n _ (by omega)
  ⟨0,0,0,by omega,⟨by omega,by omega,by omega,by omega⟩,rfl,by simp only[oE,LJ];rfl⟩
 rintro t _ c ⟨i,h,l',hi,ho,hv,rfl⟩ hc
 have bnd:=aev (λj=>sat (l j)*sat (l j)) 1329227995784915872903807060280344576 (by omega) i (λj _=>Rw _ _);rcases SQ t with t0|t0
 .have e:i=n:=by omega
  subst e;have nn:=a0p (f:=λj=>sat (l j)*sat (l j)) i λj=>ug _
  rw[<-hv] at nn hr
  have h0:0<=h:=by
   obtain⟨o1,o2,o3,o4⟩:=ho;simp only[vW] at nn;omega
  simp only[uq,Pg.pV,Pg.pW,Pg.sW,Pg.zd,Pg.pX,na,j8,ao3 (cP i),bx,ahq h l' r _ ho h0 hr,bC]
 .have hs:=mT (l i);have hm:=Rw (l i) (l i);obtain⟨h1,l1,e1,o1,v1⟩:=BG (sat (l i)) (sat (l i)) (by omega) (by omega) (by omega) (by omega)
  obtain⟨h2,l2,e2,o2,v2⟩:=XV (λj:Nat=>bif z9 j 1 then h1 else bif z9 j 0 then h else h) (λj:Nat=>bif z9 j 1 then l1 else bif z9 j 0 then l' else l') true
   ho o1 (by show _<=vW h l'+vW h1 l1;rw[hv,v1];omega) (by show vW h l'+vW h1 l1<_;rw[hv,v1];omega)
  have v2:vW h2 l2=vW h l'+vW h1 l1:=v2;rw[hv,v1] at v2;have q:z4 (ws i)=i:=rfl;simp only[uq,Pg.pV,Pg.pW,Pg.sW,Pg.zd,Pg.pX,na,j8,wI,ao2 hi t0,aaL (show i<n by omega),bn,q,pj,bC,e1,e2,ao4 (show i<9000000000000000000 by omega)];refine hc (t-1) _ (by omega) ⟨i+1,h2,l2,by omega,o2,v2,?_⟩;simp only[oE,Bool.or_assoc]
def UQ (a b c d:Int):Prop:=(∀j,j<4-> -1073741840<=xo a b c d j/\xo a b c d j<=1073741840)/\ -4294967296<=a*a+b*b+c*c+d*d-1152921504606846976/\a*a+b*b+c*c+d*d-1152921504606846976<=4294967296
theorem aze {a b c d:Int}{P:Int->Prop}(h0:P a)(h1:P b)(h2:P c)(h3:P d):∀j,j<4->P (xo a b c d j):=by
 intro j _;unfold xo;split
 .exact h0
 split
 .exact h1
 split
 .exact h2
 .exact h3
def Nr (n a q:Int):Prop:=2*(q*n-a*1073741824)<=n/\2*(a*1073741824-q*n)<=n
theorem aJB (V n:Int)(h:0<n):2*(qdq V n*n-V)<=n/\2*(V-qdq V n*n)<=n:=by
 have e:=asH V n;have m0:=Wd V (show n≠0 by omega);have m1:=SP V h;unfold qdq;split
 .rw[Int.add_zero,yg (V/n) n];omega
 .have e2:(V/n+1)*n=n*(V/n)+n:=by rw[ZN,Int.one_mul,yg]
  rw[e2];omega
theorem aVC (x n:Int)(h:0<n):2*(He x n*n-x)<=n/\2*(x-He x n*n)<=n:=by
 have hn:jK n=n:=by unfold jK;rw[if_neg (by omega)]
 have dn:decide (n<0)=false:=cC (by omega);unfold He;rw[hn,dn];by_cases hx:x<0
 .rw[if_neg (by rw[dR hx];decide)];have m:jK x= -x:=by unfold jK;rw[if_pos hx]
  have q:=aJB (jK x) n h;rw[m] at q ⊢;rw[Int.neg_mul];omega
 .rw[if_pos (cC hx)];have m:jK x=x:=by unfold jK;rw[if_neg hx]
  have q:=aJB (jK x) n h;rw[m] at q ⊢;omega
theorem Hr {n a q:Int}(h:0<n)(k:Nr n a q)(a0: -n<=a)(a1:a<=n): -1073741824<=q/\q<=1073741824:=by
 obtain⟨k0,k1⟩:=k;constructor
 .have p:(-1073741825)*n<q*n:=by omega
  have:=Int.lt_of_mul_lt_mul_right p (by omega);omega
 .have p:q*n<1073741825*n:=by omega
  have:=Int.lt_of_mul_lt_mul_right p (by omega);omega
theorem aol {n a q:Int}(h:0<n)(k:Nr n a q):4*(n*n*(q*q))<=4*(1152921504606846976*(a*a)+1073741824*(a*a))+1073741825*(n*n)/\
  4*(1152921504606846976*(a*a))-4*(1073741824*(a*a))-1073741825*(n*n)<=4*(n*n*(q*q)):=by
 obtain⟨k0,k1⟩:=k;have e:n*n*(q*q)=(q*n)*(q*n):=by grind
 rw[e];generalize hg:q*n=g at*
 obtain⟨f,hf⟩:∃f,g=a*1073741824+f:=⟨g-a*1073741824,by omega⟩;subst hf;have e2:(a*1073741824+f)*(a*1073741824+f)=1152921504606846976*(a*a)+2147483648*(a*f)+f*f:=by grind
 rw[e2]
 have f4:4*(f*f)<=n*n:=by
  have:=Aq (a:=n-2*f) (b:=n+2*f) (by omega) (by omega);have e3:(n-2*f)*(n+2*f)=n*n-4*(f*f):=by grind
  omega
 have f0:=ug f;have p1:=ug (a-f);have p2:=ug (a+f);have e4:(a-f)*(a-f)=a*a-2*(a*f)+f*f:=by grind
 have e5:(a+f)*(a+f)=a*a+2*(a*f)+f*f:=by grind
 rw[e4] at p1;rw[e5] at p2;generalize a*a=aa at*
 generalize a*f=af at*
 generalize f*f=ff at*
 generalize n*n=nn at*
 omega
theorem uF {a V n:Int}(h:0<=n)(k:a*a<=V)(hV:V<=n*n+n): -n<=a/\a<=n:=by
 have e:n*n+n<(n+1)*(n+1):=by
  have:(n+1)*(n+1)=n*n+2*n+1:=by grind
  omega
 constructor
 .rcases abP 0 a with ha|ha
  .omega
  .have:=aGf (a:= -a) (b:=n+1) (by omega) (by omega) (by rw[Int.neg_mul_neg];omega);omega
 .rcases abP 0 a with ha|ha
  .have:=aGf (a:=a) (b:=n+1) ha (by omega) (by omega);omega
  .omega
theorem aVD {a0 a1 a2 a3 q0 q1 q2 q3 n:Int}(hn:isR n (a0*a0+a1*a1+a2*a2+a3*a3))(hl:700000000<=n)
  (k0:Nr n a0 q0)(k1:Nr n a1 q1)(k2:Nr n a2 q2)(k3:Nr n a3 q3):UQ q0 q1 q2 q3:=by
 obtain⟨n0,v1,v2⟩:=hn
 have v2:n*n-n<a0*a0+a1*a1+a2*a2+a3*a3:=by
  rcases v2 with v2|v2
  .omega
  .exact v2
 have z0:=ug a0;have z1:=ug a1;have z2:=ug a2;have z3:=ug a3;have b0:=uF (a:=a0) n0 (by omega) v1;have b1:=uF (a:=a1) n0 (by omega) v1;have b2:=uF (a:=a2) n0 (by omega) v1;have b3:=uF (a:=a3) n0 (by omega) v1;have np:0<n:=by omega
 have c0:=Hr np k0 b0.1 b0.2;have c1:=Hr np k1 b1.1 b1.2;have c2:=Hr np k2 b2.1 b2.2;have c3:=Hr np k3 b3.1 b3.2;have s0:=aol np k0;have s1:=aol np k1;have s2:=aol np k2;have s3:=aol np k3;refine⟨aze (P:=λx=> -1073741840<=x/\x<=1073741840) (by omega) (by omega) (by omega) (by omega),?_⟩;have nl:700000000*n<=n*n:=ZM hl (by omega);have nn:0<n*n:=Int.mul_pos np np;have ed:n*n*(q0*q0+q1*q1+q2*q2+q3*q3-1152921504606846976)=n*n*(q0*q0)+n*n*(q1*q1)+n*n*(q2*q2)+n*n*(q3*q3)-1152921504606846976*(n*n):=by grind
 generalize q0*q0+q1*q1+q2*q2+q3*q3=S at*
 generalize n*n*(q0*q0)=t0 at*
 generalize n*n*(q1*q1)=t1 at*
 generalize n*n*(q2*q2)=t2 at*
 generalize n*n*(q3*q3)=t3 at*
 generalize a0*a0=A0 at*
 generalize a1*a1=A1 at*
 generalize a2*a2=A2 at*
 generalize a3*a3=A3 at*
 constructor
 .refine Int.le_of_mul_le_mul_left (a:=n*n) ?_ nn;rw[ed];generalize n*n=P at*
  omega
 .refine Int.le_of_mul_le_mul_left (a:=n*n) ?_ nn;rw[ed];generalize n*n=P at*
  omega
theorem aVE {a0 a1 a2 a3 b0 b1 b2 b3 n:Int}(np:0<n)(hs:n*n<=2*(a0*a0+a1*a1+a2*a2+a3*a3))
  (k0:Nr n a0 b0)(k1:Nr n a1 b1)(k2:Nr n a2 b2)(k3:Nr n a3 b3):576000000000000000<=b0*b0+b1*b1+b2*b2+b3*b3:=by
 have s0:=aol np k0;have s1:=aol np k1;have s2:=aol np k2;have s3:=aol np k3;have nn:0<n*n:=Int.mul_pos np np;have ed:n*n*(b0*b0+b1*b1+b2*b2+b3*b3)=n*n*(b0*b0)+n*n*(b1*b1)+n*n*(b2*b2)+n*n*(b3*b3):=by grind
 refine Int.le_of_mul_le_mul_left (a:=n*n) ?_ nn;rw[ed];generalize n*n*(b0*b0)=t0 at*
 generalize n*n*(b1*b1)=t1 at*
 generalize n*n*(b2*b2)=t2 at*
 generalize n*n*(b3*b3)=t3 at*
 generalize a0*a0=A0 at*
 generalize a1*a1=A1 at*
 generalize a2*a2=A2 at*
 generalize a3*a3=A3 at*
 generalize n*n=P at*
 omega
theorem a0q (n i:Int)(c:Bool)(a0 a1 a2 a3:Int):fu ((n,i,0),c,a0,a1,a2,a3)=(bh a0 n 30 c).bind λd0=>(bh a1 n 30 d0.2).bind λd1=>(bh a2 n 30 d1.2).bind λd2=>(bh a3 n 30 d2.2).bind λd3=>some ((n,i,4,false),d3.2,d0.1,d1.1,d2.1,d3.1):=by kernel_rfl
theorem a0r {ρ:Type}(k:_->Option ρ)(c:Bool)(a0 a1 a2 a3:Int):(kD cw fu (0,c,a0,a1,a2,a3)).run k=(cw 4 c (λj=>bif z9 j 3 then a3 else bif z9 j 2 then a2 else bif z9 j 1 then a1 else bif z9 j 0 then a0 else a0) false).bind λh=>(fu ((h.1,0,0),h.2,a0,a1,a2,a3)).bind λx=>k (w7 (wI (x.1.2.1+1),x.2)):=by kernel_rfl
theorem a0s {ρ:Type}(k:_->Option ρ)(c:Bool)(a0 a1 a2 a3:Int):(kD cw fu (1,c,a0,a1,a2,a3)).run k=(cw 4 c (λj=>bif z9 j 3 then a3 else bif z9 j 2 then a2 else bif z9 j 1 then a1 else bif z9 j 0 then a0 else a0) false).bind λh=>(fu ((h.1,1,0),h.2,a0,a1,a2,a3)).bind λx=>k (w7 (wI (x.1.2.1+1),x.2)):=by kernel_rfl
theorem a0t {ρ:Type}(k:_->Option ρ)(c:Bool)(a0 a1 a2 a3:Int):(kD cw fu (2,c,a0,a1,a2,a3)).run k=k (ww ((2,false),c,a0,a1,a2,a3)):=by kernel_rfl
theorem aJC (n i:Int)(c:Bool)(a0 a1 a2 a3:Int)(n0:0<n)(n1:n<=1152921504606846976)(h0: -n<=a0/\a0<=n)(h1: -n<=a1/\a1<=n)(h2: -n<=a2/\a2<=n)(h3: -n<=a3/\a3<=n):
  ∃b0 b1 b2 b3 c',fu ((n,i,0),c,a0,a1,a2,a3)=some ((n,i,4,false),c',b0,b1,b2,b3)/\Nr n a0 b0/\Nr n a1 b1/\Nr n a2 b2/\Nr n a3 b3:=by
 have sn:sat n=n:=(JM ⟨by omega,n1⟩).1
 have one:∀(a:Int) (c:Bool), -n<=a/\a<=n->∃b c',bh a n 30 c=some (b,c')/\Nr n a b:=λa c ha=>by
  have sa:sat a=a:=(JM ⟨by omega,by omega⟩).1;have e:=aOG a n 30 c (by decide) (by rw[sn];omega);rw[sa,sn] at e
  have nr:Nr n a (He (a*2^30) n):=by
   have:=aVC (a*2^30) n n0;exact this
  have bd:=Hr n0 nr ha.1 ha.2;have sr:sat (He (a*2^30) n)=He (a*2^30) n:=(JM ⟨by omega,by omega⟩).1;rw[sr] at e;exact⟨_,_,e,nr⟩
 obtain⟨b0,c0,e0,r0⟩:=one a0 c h0;obtain⟨b1,c1,e1,r1⟩:=one a1 c0 h1;obtain⟨b2,c2,e2,r2⟩:=one a2 c1 h2;obtain⟨b3,c3,e3,r3⟩:=one a3 c2 h3;refine⟨b0,b1,b2,b3,c3,?_,r0,r1,r2,r3⟩;rw[a0q,e0,bC,e1,bC,e2,bC,e3,bC]
theorem a38 (a0 a1 a2 a3:Int)(h0:sat a0=a0)(h1:sat a1=a1)(h2:sat a2=a2)(h3:sat a3=a3):pk (λj=>sat ((λj=>bif z9 j 3 then a3 else bif z9 j 2 then a2 else bif z9 j 1 then a1 else bif z9 j 0 then a0 else a0) j)*sat ((λj=>bif z9 j 3 then a3 else bif z9 j 2 then a2 else bif z9 j 1 then a1 else bif z9 j 0 then a0 else a0) j)) 4=a0*a0+a1*a1+a2*a2+a3*a3:=by
 show 0+sat a0*sat a0+sat a1*sat a1+sat a2*sat a2+sat a3*sat a3=_;rw[h0,h1,h2,h3,akR]
theorem aO8 (c:Bool)(a0 a1 a2 a3:Int)(h0: -1152921504606846976<=a0/\a0<=1152921504606846976)(h1: -1152921504606846976<=a1/\a1<=1152921504606846976)(h2: -1152921504606846976<=a2/\a2<=1152921504606846976)(h3: -1152921504606846976<=a3/\a3<=1152921504606846976)
  (nz:0<a0*a0+a1*a1+a2*a2+a3*a3):∃q0 q1 q2 q3 c' t,By (0,c,a0,a1,a2,a3)=some (t,c',q0,q1,q2,q3)/\UQ q0 q1 q2 q3:=by
 obtain⟨r,hr⟩:=aTV (a0*a0+a1*a1+a2*a2+a3*a3) (by omega);have z0:=ug a0;have z1:=ug a1;have z2:=ug a2;have z3:=ug a3;have e1:=aBT 4 (by decide) c false (λj=>bif z9 j 3 then a3 else bif z9 j 2 then a2 else bif z9 j 1 then a1 else bif z9 j 0 then a0 else a0) r (by rw[a38 a0 a1 a2 a3 (JM h0).1 (JM h1).1 (JM h2).1 (JM h3).1];exact hr);obtain⟨r0,r1,r2⟩:=hr;have b0:=uF (a:=a0) r0 (by omega) r1;have b1:=uF (a:=a1) r0 (by omega) r1;have b2:=uF (a:=a2) r0 (by omega) r1;have b3:=uF (a:=a3) r0 (by omega) r1
 have rp:0<r:=by
  rcases Ke 0 r with h|h
  .exact h
  .have:r=0:=by omega
   subst this;omega
 have hs:sat r*sat r<=2*(a0*a0+a1*a1+a2*a2+a3*a3)/\0<sat r/\sat r<=1152921504606846976/\(sat r=r∨sat r=1152921504606846976):=by
  have r2:r*r-r<a0*a0+a1*a1+a2*a2+a3*a3:=by
   rcases r2 with h|h
   .omega
   .exact h
  generalize a0*a0+a1*a1+a2*a2+a3*a3=S at*
  by_cases hb:r<=1152921504606846976
  .have sr:sat r=r:=(JM ⟨by omega,hb⟩).1;rw[sr];refine⟨?_,rp,hb,.inl rfl⟩;rcases Ke r 2 with h|h
   .have:r=1:=by omega
    subst this;omega
   .have:=ZM h r0;omega
  .have sr:sat r=1152921504606846976:=by unfold sat;rw[if_neg (by omega),if_pos (by omega)]
   rw[sr];refine⟨?_,by decide,by decide,.inr rfl⟩;have k:1152921504606846976<=r:=by omega
   have k1:=LH k (show 1152921504606846976<=r-1 by omega) (by decide) r0;have e:r*(r-1)=r*r-r:=by grind
   omega
 obtain⟨s1,s2,s3,s4⟩:=hs;have bb:∀a:Int, -r<=a/\a<=r-> -1152921504606846976<=a/\a<=1152921504606846976-> -sat r<=a/\a<=sat r:=λa p q=>by omega
 obtain⟨x0,x1,x2,x3,c1,e2,k0,k1,k2,k3⟩:=aJC (sat r) 0 ((c||oE (λj=>dE ((λj=>bif z9 j 3 then a3 else bif z9 j 2 then a2 else bif z9 j 1 then a1 else bif z9 j 0 then a0 else a0) j)) 4)||dE r) a0 a1 a2 a3 s2 s3 (bb _ b0 h0) (bb _ b1 h1) (bb _ b2 h2) (bb _ b3 h3);have low:=aVE s2 s1 k0 k1 k2 k3;have d0:=Hr s2 k0 (bb _ b0 h0).1 (bb _ b0 h0).2;have d1:=Hr s2 k1 (bb _ b1 h1).1 (bb _ b1 h1).2;have d2:=Hr s2 k2 (bb _ b2 h2).1 (bb _ b2 h2).2;have d3:=Hr s2 k3 (bb _ b3 h3).1 (bb _ b3 h3).2;have sx:∀x:Int, -1073741824<=x/\x<=1073741824->sat x=x:=λx h=>(JM ⟨by omega,by omega⟩).1
 obtain⟨n,hn⟩:=aTV (x0*x0+x1*x1+x2*x2+x3*x3) (by omega);have e3:=aBT 4 (by decide) c1 false (λj=>bif z9 j 3 then x3 else bif z9 j 2 then x2 else bif z9 j 1 then x1 else bif z9 j 0 then x0 else x0) n (by rw[a38 x0 x1 x2 x3 (sx _ d0) (sx _ d1) (sx _ d2) (sx _ d3)];exact hn);obtain⟨n0,n1,n2⟩:=id hn
 have nl:700000000<=n:=by
  rcases Ke n 700000000 with h|h
  .have:=ZM (show n<=700000000 by omega) n0;omega
  .exact h
 have sq1:∀x:Int, -1073741824<=x/\x<=1073741824->x*x<=1152921504606846976:=λx h=>by
  have:=Aq (a:=1073741824-x) (b:=1073741824+x) (by omega) (by omega);have e:(1073741824-x)*(1073741824+x)=1152921504606846976-x*x:=by grind
  omega
 have y0:=sq1 _ d0;have y1:=sq1 _ d1;have y2:=sq1 _ d2;have y3:=sq1 _ d3;have w0:=ug x0;have w1:=ug x1;have w2:=ug x2;have w3:=ug x3
 have nb:n<=2200000000:=by
  rcases Ke 2200000000 n with h|h
  .have n2:n*n-n<x0*x0+x1*x1+x2*x2+x3*x3:=by
    rcases n2 with h|h
    .omega
    .exact h
   have:=ZM (show 2200000000<=n by omega) n0;omega
  .exact h
 have sn:sat n=n:=(JM ⟨by omega,by omega⟩).1;rw[sn] at e3;have b0:=uF (a:=x0) n0 (by omega) n1;have b1:=uF (a:=x1) n0 (by omega) n1;have b2:=uF (a:=x2) n0 (by omega) n1;have b3:=uF (a:=x3) n0 (by omega) n1;obtain⟨q0,q1,q2,q3,c2,e4,m0,m1,m2,m3⟩:=aJC n 1 ((c1||oE (λj=>dE ((λj=>bif z9 j 3 then x3 else bif z9 j 2 then x2 else bif z9 j 1 then x1 else bif z9 j 0 then x0 else x0) j)) 4)||dE n) x0 x1 x2 x3 (by omega) (by omega) b0 b1 b2 b3;refine⟨q0,q1,q2,q3,c2,(2,false),?_,aVD hn nl m0 m1 m2 m3⟩;show(kD cw fu (0,c,a0,a1,a2,a3)).run (v4 (λd=>bG (kD cw fu) 1999 d) some)=_;rw[a0r,e1,bC,e2,bC,na];show(kD cw fu (1,c1,x0,x1,x2,x3)).run (v4 (λd=>bG (kD cw fu) 1998 d) some)=_;rw[a0s,e3,bC,e4,bC,na];show(kD cw fu (2,c2,q0,q1,q2,q3)).run (v4 (λd=>bG (kD cw fu) 1997 d) some)=_;rw[a0t,j8]
theorem aDH:UQ 1073741824 0 0 0:=⟨aze (P:=λx=> -1073741840<=x/\x<=1073741840) (by decide) (by decide) (by decide) (by decide),by decide,by decide⟩
theorem a2u (x0 x1 x2 x3:Int)(c:Bool):Po (qH x0 x1 x2 x3 c) (λr=>Ur r.1.1/\Ur r.1.2.1/\Ur r.1.b.1/\Ur r.1.b.2):=by
 intro d hd;have e:El (0,c,x0,x1,x2,x3)=(aO x0 c).bind λd0=>(aO x1 d0.2).bind λd1=>(aO x2 d1.2).bind λd2=>(aO x3 d2.2).bind λd3=>some ((4,false),d3.2,d0.1,d1.1,d2.1,d3.1):=by kernel_rfl
 have e2:qH x0 x1 x2 x3 c=(El (0,c,x0,x1,x2,x3)).bind λd=>some (d.2.2,d.2.1):=rfl
 rw[e2,e] at hd;simp only[pj,bC,iv] at hd;subst hd;exact⟨mT x0,mT x1,mT x2,mT x3⟩
theorem aDI (x0 x1 x2 x3:Int)(c:Bool):Po (cQ x0 x1 x2 x3 c) (λr=>UQ r.1.1 r.1.2.1 r.1.b.1 r.1.b.2):=by
 unfold cQ Vx;show PW _ _;refine aI (a2u _ _ _ _ _) λd _ hd=> ?_;rw[bz];refine⟨λ_=> ?_,λhz=> ?_⟩
 .rw[bJ];intro _ _;rw[aW];exact aDH
 .have nz:0<d.1.1*d.1.1+d.1.2.1*d.1.2.1+d.1.b.1*d.1.b.1+d.1.b.2*d.1.b.2:=by
   have z0:=ug d.1.1;have z1:=ug d.1.2.1;have z2:=ug d.1.b.1;have z3:=ug d.1.b.2
   have sqz:∀a:Int,a*a<=0->a=0:=λa h=>by
    rcases Int.lt_trichotomy a 0 with k|k|k
    .have:=Int.mul_pos_of_neg_of_neg k k;omega
    .exact k
    .have:=Int.mul_pos k k;omega
   rcases Ke 0 (d.1.1*d.1.1+d.1.2.1*d.1.2.1+d.1.b.1*d.1.b.1+d.1.b.2*d.1.b.2) with h|h
   .exact h
   .rw[sqz d.1.1 (by omega),sqz d.1.2.1 (by omega),sqz d.1.b.1 (by omega),sqz d.1.b.2 (by omega)] at hz;cases hz
  obtain⟨q0,q1,q2,q3,c',t,e,u⟩:=aO8 d.2 d.1.1 d.1.2.1 d.1.b.1 d.1.b.2 hd.1 hd.2.1 hd.b.1 hd.b.2 nz;refine aI (R:=λx=>UQ x.b.1 x.b.2.1 x.c.1 x.c.2) (λx hx=> ?_) λx _ hx=> ?_
  .have e:By (0,d.2,d.1)=some (t,c',q0,q1,q2,q3):=e;rw[e] at hx;cases hx;exact u
  .rw[aW];exact hx
def box (j:Nat):Int:=if j<4 then 1073741840 else if j<7 then 549755813888 else if j<10 then 9007199254740992 else if j<13 then 134217728 else if j<16 then 1073741824 else if j<22 then 2147483648 else 137438953472
theorem aT5 (j:Nat):0<box j/\box j<=9007199254740992:=by
 unfold box;repeat' split
 all_goals decide
theorem aGW:∀b:uu,kE=some b->∀j,j<24->b j=box j:=by
 have h:(kE.map λb:uu=>(List.range 24).all λj=>b j==box j)=some true:=by kernel_rfl
 intro b e j hj;rw[e] at h;have h:=asK.mp (LG h) j (List.mem_range.mpr hj);exact eq_of_beq h
def Iv (s:Nat->Int):Prop:=UQ (s 0) (s 1) (s 2) (s 3)/\∀j,4<=j->j<24-> -box j<=s j/\s j<=box j
theorem aVF (s:Nat->Int):∀(d:jF.B) (hd:4<=d.1/\d.1<=24/\(∀j,j<24->d.b.2.2 j=box j)/\(∀j,j<4->d.b.1 j=s j)/\(∀j:Nat,4<=j->(j:Int)<d.1-> -box j<=d.b.1 j/\d.b.1 j<=box j)),Po (BA d) (λx:wE=>(∀j,j<4->x.b.1 j=s j)/\(∀j:Nat,4<=j->j<24-> -box j<=x.b.1 j/\x.b.1 j<=box j)):=
 oZ (λd hd=>by
  unfold G8;try dsimp only
  obtain⟨i0,i1,i2,i3,i4⟩:=hd;rw[bz];refine⟨λh=> ?_,λh=> ?_⟩
  .have h:=dh h;have hw:wI (d.1+1)=d.1+1:=bf;obtain⟨n,hn⟩:∃n:Nat,d.1=n:=⟨z4 d.1,by omega⟩;have b1:=i2 n (by omega);have b2:=aT5 n;have nn:z4 d.1=n:=by rw[hn];rfl
   have w0:wI (0-box n)= -box n:=by rw[Int.zero_sub];exact eS (by omega) (by omega)
   rw[nn,b1,w0,hw]
   repeat' (first
    |(rw[dz];exact trivial)
    |(with_reducible refine aI (afv _ (-box n) (box n) _ (by omega)) λe _ he=> ?_)
    |(rw[bz];refine⟨λ_=> ?_,λ_=> ?_⟩))
   rw[aW];refine⟨by show 4<=d.1+1;omega,by show d.1+1<=24;omega,i2,λj hj=> ?_,λj h4 hj=> ?_⟩
   .show(bif z9 j n then e.1 else d.b.1 j)=s j
    have:z9 j n=false:=by
     cases hb:z9 j n with
     |false=>rfl
     |true=>have:=lE hb;omega
    rw[this];exact i3 j hj
   .have hj:(j:Int)<d.1+1:=hj;show -box j<=(bif z9 j n then e.1 else d.b.1 j)/\(bif z9 j n then e.1 else d.b.1 j)<=box j;cases hb:z9 j n with
    |true=>have:=lE hb;subst this;exact he
    |false=>
     have nb:j≠n:=λh=>by rw[h,Ar] at hb;cases hb
     exact i4 j h4 (by omega)
  .have h:=wS h;rw[aW];exact⟨i3,λj h4 h24=>i4 j h4 (by omega)⟩)
theorem aJD (s:Nat->Int)(c:Bool):Po (lV s c) (λr=>(∀j,j<4->r.1 j=s j)/\(∀j:Nat,4<=j->j<24-> -box j<=r.1 j/\r.1 j<=box j)):=by
 unfold lV MF;show PW _ _;rw[bJ];intro b hb;have hb:=aGW b hb;refine aI (aVF s _ ⟨(show(4:Int)<=4 by decide),(show(4:Int)<=24 by decide),hb,λ_ _=>rfl,λj h4 hj=>absurd (show(j:Int)<4 from hj) (by omega)⟩) λd _ hd=> ?_;rw[aW];exact hd
theorem Iv.of {s r:Nat->Int}(u:UQ (s 0) (s 1) (s 2) (s 3))(h:(∀j,j<4->r j=s j)/\(∀j:Nat,4<=j->j<24-> -box j<=r j/\r j<=box j)):Iv r:=by
 refine⟨?_,h.2⟩;rw[h.1 0 (by decide),h.1 1 (by decide),h.1 2 (by decide),h.1 3 (by decide)];exact u
theorem aVG (s:Nat->Int)(a b c d:Int):Po (mI s a b c d) (λr:Tu=>r 0=a/\r 1=b/\r 2=c/\r 3=d):=by
 unfold mI JF;show PW _ _;rw[aW];exact⟨rfl,rfl,rfl,rfl⟩
theorem a0u (s:Nat->Int):cj s=some (s 0,s 1,s 2,s 3):=rfl
theorem a0v (a b c d:Int):Po (sF a b c d) (λr:Bool=>r=true->UQ a b c d):=(aGk a b c d).po.mono λ_ h e=>h.1 e
theorem a39 {δ:Type}{Q:δ->Prop}{s:Nat->Int}{q:Int×Int×Int×Int}{c:Bool}{f:MD->Pg δ}(u:UQ q.1 q.2.1 q.b.1 q.b.2)(k:∀d:MD,Iv d.1->PW (f d) Q):
  PW (.opt (mI s q.1 q.2.1 q.b.1 q.b.2) λt=>.opt (lV t c) f) Q:=by
 refine aI (aVG _ _ _ _ _) λt _ ht=> ?_;refine aI (aJD _ _) λd _ hd=>k d (Iv.of ?_ hd)
 rw[ht.1,ht.2.1,ht.b.1,ht.b.2];exact u
theorem QX (s:Nat->Int)(c:Bool):Po (bW s c) (λr=>Iv r.1):=by
 unfold bW QG;show PW _ _;rw[a0u,bJ];intro d hd;have hd:=LG hd;subst hd;refine aI (a0v _ _ _ _) λu _ hu=> ?_;rw[bz];refine⟨λ_=> ?_,λh=> ?_⟩
 .rw[bJ];intro d hd;refine aI (aDI _ _ _ _ _) λq _ hq=> ?_;refine a39 hq λr hr=> ?_;rw[aW];exact hr
 .have hu:=hu (by cases u with|true=>rfl|false=>cases h);refine aI (aJD _ _) λr _ hr=> ?_;rw[aW];exact Iv.of hu hr
theorem aVH:∀(d:mK.B) (hd:Iv d.b.2.1),Po (F7 d) (λx:BF=>Iv x.b.2.1):=
 oZ (λd hd=>by
  unfold MR;try dsimp only
  try dsimp only
  rw[bz];refine⟨λ_=> ?_,λ_=>by rw[aW];exact hd⟩
  repeat' (first
   |(rw[dz];exact trivial)
   |(rw[bz];refine⟨λ_=> ?_,λ_=> ?_⟩))
  rw[bJ];intro a _;rw[bJ];intro _ _;refine aI (aDI _ _ _ _ _) λq _ hq=> ?_;refine a39 hq λr hr=> ?_;rw[aW];exact hr)
theorem a2v (x:C2.B)(h:Iv x.1.1):Po (zF x) (λr=>Iv r.1):=by
 unfold zF VB;show PW _ _;try dsimp only
 rw[bz];refine⟨λ_=> ?_,λ_=> ?_⟩
 .refine aI (QX _ _) λr _ hr=> ?_;rw[aW];exact hr
 .rw[bz];refine⟨λ_=> ?_,λ_=>by rw[dz];exact trivial⟩;refine aI (aVH _ (by exact h)) λr _ hr=> ?_;rw[aW];exact hr
theorem a2w (s f:Nat->Int):Po (fk s 0 4 f false) (λr:IL=>r 0=f 0/\r 1=f 1/\r 2=f 2/\r 3=f 3/\∀j,4<=j->r j=s j):=by
 intro r hr;have e:fk s 0 4 f false=some (λj=>bif z9 j 3 then f 3 else bif z9 j 2 then f 2 else bif z9 j 1 then f 1 else bif z9 j 0 then f 0 else s j):=by kernel_rfl
 rw[e] at hr;have hr:=LG hr;subst hr;refine⟨rfl,rfl,rfl,rfl,λj hj=> ?_⟩
 have ne:∀k,k<4->z9 j k=false:=λk hk=>by
  cases hb:z9 j k with
  |false=>rfl
  |true=>have:=lE hb;omega
 show(bif z9 j 3 then f 3 else bif z9 j 2 then f 2 else bif z9 j 1 then f 1 else bif z9 j 0 then f 0 else s j)=s j;rw[ne 3 (by decide),ne 2 (by decide),ne 1 (by decide),ne 0 (by decide)];rfl
theorem a2x (s g:Nat->Int)(a0 a1 a2 a3:Int)(u:UQ a0 a1 a2 a3)(h:Iv s)(e:g=λj=>bif z9 j 3 then a3 else bif z9 j 2 then a2 else bif z9 j 1 then a1 else bif z9 j 0 then a0 else a0):Po (fk s 0 4 g false) (λr:IL=>Iv r):=(a2w s _).mono λr k=>by
 subst e;obtain⟨k0,k1,k2,k3,k4⟩:=k;refine⟨by rw[k0,k1,k2,k3];exact u,λj h4 h24=> ?_⟩;rw[k4 j h4];exact h.2 j h4 h24
theorem a2y:UQ 0 1073741824 0 0:=⟨aze (P:=λx=> -1073741840<=x/\x<=1073741840) (by decide) (by decide) (by decide) (by decide),by decide,by decide⟩
theorem a2z (x0 x1 x2:Int)(x3:Bool):Po (zw x0 x1 x2 x3) (λr=>UQ r.1.1 r.1.2.1 r.1.b.1 r.1.b.2):=by
 unfold zw aat;show PW _ _
 repeat' (first
  |(rw[dz];exact trivial)
  |(with_reducible refine aI (aDI _ _ _ _ _) λe _ he=> ?_)
  |(rw[bJ];intro _ _)
  |(rw[bz];refine⟨λ_=> ?_,λ_=> ?_⟩))
 all_goals rw[aW];first
  |exact he
  |exact aDH
  |exact a2y
theorem a0w (x0:Nat->Int)(x1:Int)(x2:Int)(x3:Int)(x4:Int)(x5:Int)(x6:Int)(x7:Int)(x8:Int)(x9:Bool):Po (nR x0 x1 x2 x3 x4 x5 x6 x7 x8 x9) (λr=>Iv r.1):=by
 unfold nR QI;try dsimp only
 show PW _ _
 repeat' (first
  |(with_reducible refine aI (QX _ _) λe _ he=> ?_)
  |(rw[bJ];intro _ _))
 rw[aW];assumption
theorem aw2 (x0:Nat->Int)(x1:Int)(x2:Nat)(x3:Bool)(x4:Nat->Int)(w0:Bool):Po (gA x0 x1 x2 x3 x4 w0) (λr:MZ=>Iv r.1.1):=by
 unfold gA M3;show PW _ _
 repeat' (first
  |(rw[dz];exact trivial)
  |(with_reducible refine aI (QX _ _) λe _ he=> ?_)
  |(rw[bJ];intro _ _)
  |(rw[bz];refine⟨λ_=> ?_,λ_=> ?_⟩))
 rw[aW];assumption
theorem a4X (x0:Nat->Int)(x1:Nat->Int)(x2:Nat->Int)(x3:Int)(x4:Int)(x5:Bool):Po (zH x0 x1 x2 x3 x4 x5) (λr=>Iv r.1.1/\uD r.1.2.1):=by
 unfold zH VG;show PW _ _
 repeat' (first
  |(rw[dz];exact trivial)
  |(with_reducible refine aI (QX _ _) λe _ he=> ?_)
  |(with_reducible refine aI (aw2 _ _ _ _ _ _) λm _ hm=> ?_)
  |(with_reducible refine aI (aok _ _ _ _ _ _ _) λv _ hv=> ?_)
  |(rw[bJ];intro _ _)
  |(rw[bz];refine⟨λ_=> ?_,λ_=> ?_⟩))
 all_goals rw[aW];exact⟨by assumption,by assumption⟩
theorem aO9 (x0:Nat->Int)(x1:Nat->Int)(x2:Nat->Int)(x3:Int)(x4:Int)(x5:Int)(x6:Int)(x7:Bool):Po (nm x0 x1 x2 x3 x4 x5 x6 x7) (λr=>Iv r.1.1/\uD r.1.2.1):=by
 unfold nm Fa;try dsimp only
 show PW _ _
 repeat' (first
  |(rw[dz];exact trivial)
  |(with_reducible refine aI (QX _ _) λe _ he=> ?_)
  |(with_reducible refine aI (aw2 _ _ _ _ _ _) λm _ hm=> ?_)
  |(with_reducible refine aI (aok _ _ _ _ _ _ _) λv _ hv=> ?_)
  |(rw[bJ];intro _ _)
  |(rw[bz];refine⟨λ_=> ?_,λ_=> ?_⟩))
 all_goals rw[aW];exact⟨by assumption,by assumption⟩
theorem aId (x0:Nat->Int)(x1:Nat->Int)(x2:Nat->Int)(x3:Int)(x4:Int)(x5:Int)(x6:Bool):Po (kX x0 x1 x2 x3 x4 x5 x6) (λr=>Iv r.1.1/\uD r.1.2.1):=by
 unfold kX A';try dsimp only
 show PW _ _
 repeat' (first
  |(rw[dz];exact trivial)
  |(with_reducible refine aI (QX _ _) λe _ he=> ?_)
  |(with_reducible refine aI (aw2 _ _ _ _ _ _) λm _ hm=> ?_)
  |(with_reducible refine aI (aok _ _ _ _ _ _ _) λv _ hv=> ?_)
  |(rw[bJ];intro _ _)
  |(rw[bz];refine⟨λ_=> ?_,λ_=> ?_⟩))
 all_goals rw[aW];exact⟨by assumption,by assumption⟩
theorem aVI (x0:Nat->Int)(x1:Nat->Int)(x2:Nat->Int)(x3:Int)(x4:Int)(x5:Bool):Po (qL x0 x1 x2 x3 x4 x5) (λr=>Iv r.1.1/\uD r.1.2.1):=by
 unfold qL JS;show PW _ _
 repeat' (first
  |(rw[dz];exact trivial)
  |(with_reducible refine aI (QX _ _) λe _ he=> ?_)
  |(with_reducible refine aI (aw2 _ _ _ _ _ _) λm _ hm=> ?_)
  |(with_reducible refine aI (aok _ _ _ _ _ _ _) λv _ hv=> ?_)
  |(rw[bJ];intro _ _)
  |(rw[bz];refine⟨λ_=> ?_,λ_=> ?_⟩))
 all_goals rw[aW];exact⟨by assumption,by assumption⟩
theorem aSp (x0:Nat->Int)(x1:Nat->Int)(x2:Nat->Int)(x3:Nat->Int)(x4:Int)(x5:Int)(x6:Int)(x7:Bool)(h:uD (x1,x2)):Po (Cg x0 x1 x2 x3 x4 x5 x6 x7) (λr=>Iv r.1.1/\uD r.1.2.1):=by
 unfold Cg aaK;show PW _ _;refine aI (QX _ _) λs _ hs=> ?_;refine aI (aw1 _ _ _ h) λv _ hv=> ?_;rw[bJ];intro _ _;rw[bJ];intro _ _;rw[bJ];intro _ _;rw[bz];refine⟨λ_=>by rw[aW];exact⟨hs,hv⟩,λ_=> ?_⟩;refine aI (aVB _ _ _ _ _ hv) λu _ hu=> ?_;rw[bJ];intro _ _;refine aI (a2v _ (by exact hs)) λa _ ha=> ?_;rw[aW];exact⟨ha,hu⟩
theorem a2A:∀(d:nS.B) (hd:Iv d.b.2.1/\uD d.c.1),Po (IQ d) (λx:Er=>Iv x.b.2.1/\uD x.c.1):=
 oZ (λd hd=>by
  unfold QK;try dsimp only
  try dsimp only
  repeat' (first
   |(rw[dz];exact trivial)
   |(with_reducible refine aI (aSp _ _ _ _ _ _ _ _ hd.2) λe _ he=> ?_)
   |(rw[bz];refine⟨λ_=> ?_,λ_=> ?_⟩))
  .rw[aW];exact he
  .rw[aW];exact hd)
theorem a4Y (x:F9.B)(h:Iv x.1.1/\uD x.1.2.1):Po (Ci x) (λr=>Iv r.1.1/\uD r.1.2.1):=by
 unfold Ci aaN;show PW _ _
 repeat' (first
  |(rw[dz];exact trivial)
  |(refine aI (a2A _ (by exact h)) λe _ he=> ?_)
  |(rw[bz];refine⟨λ_=> ?_,λ_=> ?_⟩))
 rw[aW];exact he
def MG (m:Int×Int×Bool×Bool):Prop:=((m.1=0∨m.1=1)/\m.2.1=0/\m.b.1=false/\m.b.2=false)∨((m.1=2∨m.1=3)/\1<=m.2.1/\m.2.1<=3/\(m.b.1=true∨m.1=2))
theorem a0x (a b:Int)(c d:Bool):Po (CO a b c d) (λr:Bool=>r=true->0<=a/\a<=3/\0<=b/\b<=3):=by
 unfold CO Vq;show PW _ _;dsimp only
 repeat' (first
  |(rw[dz];exact trivial)
  |(rw[bz];refine⟨λc=> ?_,λc=> ?_⟩<;>try simp only[beq_iff_eq,afU,j7,Om,ne_eq] at c))
 all_goals (rw[aW];first|(intro h;cases h;done)|(intro _;omega))
theorem aT6 (x0:Int)(x1 x2 x3 x4 x5 x6 x7 x8:Bool)(x9 gw gx:Int)(h0:0<=x0)(h1:x0<=3):Po (CP x0 x1 x2 x3 x4 x5 x6 x7 x8 x9 gw gx) (λr:Int=>0<=r/\r<=3):=by
 unfold CP Vr;show PW _ _;dsimp only
 repeat' (first
  |(rw[bz];refine⟨λ_=> ?_,λ_=> ?_⟩))
 all_goals (rw[aW];first|exact⟨h0,h1⟩|decide)
theorem aSq (s:Int):∀(d:lx.B) (hd:d.1.1=s),Po (G4 d) (λx:wB=>match x with|.inl v=>(1:Int)<=v/\v<=3|.inr e=>e.1.1=s):=
 oZ (λd hd=>by
  unfold G3;dsimp only
  repeat' (first
   |(rw[dz];exact trivial)
   |(rw[bJ];intro _ _)
   |(rw[bz];refine⟨λc=> ?_,λc=> ?_⟩<;>try simp only[j7,Om,ES] at c))
  all_goals (rw[aW];first|exact hd|exact⟨by decide,by decide⟩|exact⟨by assumption,by assumption⟩))
theorem aJE (x0:Int)(x1 x2 x3 x4 x5 x6 x7 x8:Bool)(x9 gw gx:Int)(h1:x0<=3):Po (wX x0 x1 x2 x3 x4 x5 x6 x7 x8 x9 gw gx) (λr=>1<=r.1/\r.1<=3):=by
 unfold wX Mv;show PW _ _;refine aI (aSq x0 _ rfl) λe _ he=> ?_;rw[kI];refine⟨λa ha=> ?_,λa ha=> ?_⟩
 .subst ha;rw[aW];exact he
 .subst ha;rw[aW];have he:a.1.1=x0:=he;show 1<=(if 1>a.1.1 then 1 else a.1.1)/\(if 1>a.1.1 then 1 else a.1.1)<=3;split<;>omega
theorem aPa (x:G5.B):Po (CQ x) (λr=>MG r.1):=by
 unfold CQ Vs;try dsimp only
 show PW _ _;refine aI (a0x _ _ _ _) λg _ hg=> ?_;rw[bz];refine⟨λ_=> ?_,λhb=> ?_⟩
 .refine aI (aT6 0 _ _ _ _ _ _ _ _ _ _ _ (by decide) (by decide)) λ(n:Int) _ hn=> ?_;rw[bz];refine⟨λc=> ?_,λc=> ?_⟩
  .have c:(2:Int)<=n:=dh c;refine aI (aJE 0 _ _ _ _ _ _ _ _ _ _ _ (by decide)) λq _ hq=> ?_;rw[bz];refine⟨λc3=> ?_,λc3=> ?_⟩
   .have c3:=eq_of_beq c3;rw[aW];exact .inr ⟨.inr c3,hq.1,hq.2,.inl rfl⟩
   .have c3:¬n=3:=aEu c3;have n2:n=2:=by omega
    rw[bz];exact⟨λ_=>by rw[aW];exact .inr ⟨.inl n2,hq.1,hq.2,.inr n2⟩,λ_=>by rw[aW];exact .inr ⟨.inl n2,hq.1,hq.2,.inr n2⟩⟩
  .have c:¬(2:Int)<=n:=wS c;have n0:n=0∨n=1:=by omega
   rw[aW];exact .inl ⟨n0,rfl,rfl,rfl⟩
 .have hg:=hg (by cases g with|true=>rfl|false=>cases hb);refine aI (aT6 _ _ _ _ _ _ _ _ _ _ _ _ hg.1 hg.2.1) λ(n:Int) _ hn=> ?_;rw[bz];refine⟨λc=> ?_,λc=> ?_⟩
  .have c:(2:Int)<=n:=dh c;refine aI (aJE _ _ _ _ _ _ _ _ _ _ _ _ hg.b.2) λq _ hq=> ?_;rw[bz];refine⟨λc3=> ?_,λc3=> ?_⟩
   .have c3:=eq_of_beq c3;rw[aW];exact .inr ⟨.inr c3,hq.1,hq.2,.inl rfl⟩
   .have c3:¬n=3:=aEu c3;have n2:n=2:=by omega
    rw[bz];exact⟨λ_=>by rw[aW];exact .inr ⟨.inl n2,hq.1,hq.2,.inr n2⟩,λ_=>by rw[aW];exact .inr ⟨.inl n2,hq.1,hq.2,.inr n2⟩⟩
  .have c:¬(2:Int)<=n:=wS c;have n0:n=0∨n=1:=by omega
   rw[aW];exact .inl ⟨n0,rfl,rfl,rfl⟩
theorem a0y:∀(d:kP.B) (hd:UQ d.b.2.1.1 d.b.2.1.2.1 d.b.2.1.b.1 d.b.2.1.b.2),Po (DX d) (λx:yR=>UQ x.b.2.1.1 x.b.2.1.2.1 x.b.2.1.b.1 x.b.2.1.b.2):=
 oZ (λd hd=>by
  unfold JN;dsimp only
  repeat' (first
   |(rw[dz];exact trivial)
   |(with_reducible refine aI (aDI _ _ _ _ _) λu _ hu=> ?_)
   |(rw[bJ];intro _ _)
   |(rw[bz];refine⟨λc=> ?_,λc=> ?_⟩))
  all_goals (rw[aW];first|exact hu|exact hd))
theorem a2B (x0:Nat)(x1:Bool)(x2:Nat->Int)(x3:Nat->Int)(x4:Nat->Int)(x5:Nat->Int)(x6:Nat->Int)(x7:Nat->Int)(x8:Nat->Int)(x9:Nat->Int)(gw:Nat->Int)(gx:Nat->Int)(w0:Bool):Po (wc x0 x1 x2 x3 x4 x5 x6 x7 x8 x9 gw gx w0) (λr=>UQ r.1.1 r.1.2.1 r.1.b.1 r.1.b.2.1):=by
 unfold wc QM;try dsimp only
 show PW _ _;rw[bJ];intro _ _;rw[Iz];intro _;rw[bz];refine⟨λ_=> ?_,λ_=>by rw[dz];exact trivial⟩;refine aI (a0y _ aDH) λe _ he=> ?_
 repeat' (first
  |(rw[dz];exact trivial)
  |(rw[bJ];intro _ _)
  |(rw[bz];refine⟨λc=> ?_,λc=> ?_⟩))
 rw[aW];exact he
def GF (s:Nat->Int)(v:(Nat->Int)×(Nat->Int))(m:Int×Int×Bool×Bool)(t:(Int×Int×Int×Int)×(Int×Int×Int)×Int×Int×Int):Prop:=Iv s/\uD v/\MG m/\UQ t.1.1 t.1.2.1 t.1.b.1 t.1.b.2
theorem GF.of {s s':Nat->Int}{v v':(Nat->Int)×(Nat->Int)}{m:Int×Int×Bool×Bool}{t:(Int×Int×Int×Int)×(Int×Int×Int)×Int×Int×Int}(h:Iv s')(k:uD v')(g:GF s v m t):GF s' v' m t:=⟨h,k,g.2.2⟩
theorem aT7 (x:oS.B)(h:GF x.2.1.b.1 x.2.1.b.2.1 x.2.1.c.2.1 x.2.1.d.c.b.2.1):Po (iD x) (λr:xF=>GF r.1.b.1 r.1.b.2.1 r.1.c.2.1 r.1.d.c.b.2.1):=by
 unfold iD Dl;try dsimp only
 show PW _ _;try dsimp only
 repeat' (first
   |(rw[dz];exact trivial)
   |(rw[pO];refine⟨λe0 e1=> ?_,λe0 e1=> ?_⟩)
   |(rw[kI];refine⟨λe0 e1=> ?_,λe0 e1=> ?_⟩)
   |(rw[bz];refine⟨λ_=> ?_,λ_=> ?_⟩)
   |(rw[bJ];intro _ _))
 all_goals first
  |assumption
  |exact GF.of jA.1 jA.2 h
  |exact GF.of fJ.1 fJ.2 oX
  |exact GF.of pE.1 pE.2 oX
  |exact GF.of Ls.1 Ls.2 pR
  |(rw[aW];first|assumption|exact⟨by assumption,by assumption⟩|(subst e1;assumption)|exact⟨adw,oX.2⟩)
theorem a2C (x:fQ.B)(h:GF x.1.b.1 x.1.b.2.1 x.1.c.2.1 x.1.d.c.b.2.1):Po (dG x) (λr:qU=>GF r.b.2.1 r.c.1 r.c.b.1 r.e.1):=by
 unfold dG mY;try dsimp only
 show PW _ _;rw[bJ];intro d _;rw[aW];exact h
theorem aw3 (x:oT.B)(h:GF x.2.1.b.1 x.2.1.b.2.1 x.2.1.c.2.1 x.2.1.d.c.b.2.1):Po (di x) (λr:xG=>GF r.2.1.1.b.1 r.2.1.1.b.2.1 r.2.1.1.c.2.1 r.2.1.1.d.c.b.2.1):=by
 unfold di Dm;try dsimp only
 show PW _ _;rw[Iz];intro _;refine aI (a4Y _ (by exact⟨h.1,h.2.1⟩)) λe _ he=> ?_
 repeat' (first
  |(rw[dz];exact trivial)
  |(rw[bJ];intro _ _)
  |(rw[bz];refine⟨λ_=> ?_,λ_=> ?_⟩))
 rw[aW];exact⟨he.1,he.2,h.2.2⟩
theorem aJF (x:mg.B)(h:GF x.2.1.b.1 x.2.1.b.2.1 x.2.1.c.2.1 x.2.1.d.c.b.2.1):Po (fZ x) (λr:zU=>GF r.b.1 r.b.2.1 r.c.2.1 r.d.c.b.2.1):=by
 unfold fZ zV;try dsimp only
 show PW _ _;try dsimp only
 repeat' (first
   |(rw[dz];exact trivial)
   |(rw[pO];refine⟨λe0 e1=> ?_,λe0 e1=> ?_⟩)
   |(rw[kI];refine⟨λe0 e1=> ?_,λe0 e1=> ?_⟩)
   |(rw[bz];refine⟨λ_=> ?_,λ_=> ?_⟩)
   |(rw[bJ];intro _ _))
 all_goals first
  |assumption
  |exact GF.of jA.1 jA.2 h
  |exact GF.of fJ.1 fJ.2 oX
  |exact GF.of pE.1 pE.2 oX
  |exact GF.of Ls.1 Ls.2 pR
  |(rw[aW];first|assumption|exact⟨by assumption,by assumption⟩|(subst e1;assumption)|exact⟨adw,oX.2⟩)
theorem a2D (x:oV.B)(h:GF x.2.1.b.1 x.2.1.b.2.1 x.2.1.c.2.1 x.2.1.d.c.b.2.1):Po (mi x) (λr:xK=>GF r.1.b.1 r.1.b.2.1 r.1.c.2.1 r.1.d.c.b.2.1):=by
 unfold mi Dp;try dsimp only
 show PW _ _;try dsimp only
 repeat' (first
   |(rw[dz];exact trivial)
   |(with_reducible refine aI (aT7 _ ?_) λe _ oX=> ?_)
   |(with_reducible refine aI (aO9 _ _ _ _ _ _ _ _) λe _ jA=> ?_)
   |(with_reducible refine aI (aId _ _ _ _ _ _ _) λe _ fJ=> ?_)
   |(with_reducible refine aI (aVI _ _ _ _ _ _) λe _ pE=> ?_)
   |(rw[pO];refine⟨λe0 e1=> ?_,λe0 e1=> ?_⟩)
   |(rw[kI];refine⟨λe0 e1=> ?_,λe0 e1=> ?_⟩)
   |(rw[bz];refine⟨λ_=> ?_,λ_=> ?_⟩)
   |(rw[bJ];intro _ _))
 all_goals first
  |assumption
  |exact GF.of jA.1 jA.2 h
  |exact GF.of fJ.1 fJ.2 oX
  |exact GF.of pE.1 pE.2 oX
  |exact GF.of Ls.1 Ls.2 pR
  |(rw[aW];first|assumption|exact⟨by assumption,by assumption⟩|(subst e1;assumption)|exact⟨adw,oX.2⟩)
theorem a2E (x:oU.B)(h:GF x.2.1.b.1 x.2.1.b.2.1 x.2.1.c.2.1 x.2.1.d.c.b.2.1):Po (mh x) (λr:xJ=>match r with|.inl e=>GF e.1.b.1 e.1.b.2.1 e.1.c.2.1 e.1.d.c.b.2.1|.inr e=>GF e.1.1.b.1 e.1.1.b.2.1 e.1.1.c.2.1 e.1.1.d.c.b.1):=by
 unfold mh Dn;try dsimp only
 show PW _ _;try dsimp only
 repeat' (first
   |(rw[dz];exact trivial)
   |(with_reducible refine aI (a2C _ ?_) λe _ pR=> ?_)
   |(with_reducible refine aI (aT7 _ ?_) λe _ oX=> ?_)
   |(with_reducible refine aI (a4X _ _ _ _ _ _) λe _ Ls=> ?_)
   |(with_reducible refine aI (QX _ _) λe _ adw=> ?_)
   |(rw[pO];refine⟨λe0 e1=> ?_,λe0 e1=> ?_⟩)
   |(rw[kI];refine⟨λe0 e1=> ?_,λe0 e1=> ?_⟩)
   |(rw[bz];refine⟨λ_=> ?_,λ_=> ?_⟩)
   |(rw[bJ];intro _ _))
 all_goals first
  |assumption
  |exact GF.of jA.1 jA.2 h
  |exact GF.of fJ.1 fJ.2 oX
  |exact GF.of pE.1 pE.2 oX
  |exact GF.of Ls.1 Ls.2 pR
  |(rw[aW];first|assumption|exact⟨by assumption,by assumption⟩|(subst e1;assumption)|exact⟨adw,oX.2⟩)
theorem aIe (x:iF.B)(h:GF x.2.1.b.1 x.2.1.b.2.1 x.2.1.c.2.1 x.2.1.d.c.b.2.1):Po (gf x) (λr:nZ=>match r with|.inl e=>GF e.1.1.b.1 e.1.1.b.2.1 e.1.1.c.2.1 e.1.1.d.c.2.1|.inr e=>GF e.1.b.1 e.1.b.2.1 e.1.c.2.1 e.1.d.c.b.2.1):=by
 unfold gf sQ;try dsimp only
 show PW _ _;try dsimp only
 repeat' (first
   |(rw[dz];exact trivial)
   |(with_reducible refine aI (a2D _ ?_) λe _ a7N=> ?_)
   |(with_reducible refine aI (aw3 _ ?_) λe _ aMm=> ?_)
   |(with_reducible refine aI (aJF _ ?_) λe _ a0z=> ?_)
   |(rw[pO];refine⟨λe0 e1=> ?_,λe0 e1=> ?_⟩)
   |(rw[kI];refine⟨λe0 e1=> ?_,λe0 e1=> ?_⟩)
   |(rw[bz];refine⟨λ_=> ?_,λ_=> ?_⟩)
   |(rw[bJ];intro _ _))
 all_goals first
  |assumption
  |exact GF.of jA.1 jA.2 h
  |exact GF.of fJ.1 fJ.2 oX
  |exact GF.of pE.1 pE.2 oX
  |exact GF.of Ls.1 Ls.2 pR
  |(rw[aW];first|assumption|exact⟨by assumption,by assumption⟩|(subst e1;assumption)|exact⟨adw,oX.2⟩)
theorem aPb (x:kl.B)(h:GF x.2.1.b.1 x.2.1.b.2.1 x.2.1.c.2.1 x.2.1.d.c.b.2.1):Po (ib x) (λr:vH=>GF r.1.b.1 r.1.b.2.1 r.1.c.2.1 r.1.d.c.b.2.1):=by
 unfold ib vI;try dsimp only
 show PW _ _;try dsimp only
 repeat' (first
   |(rw[dz];exact trivial)
   |(with_reducible refine aI (aw3 _ ?_) λe _ aMm=> ?_)
   |(rw[pO];refine⟨λe0 e1=> ?_,λe0 e1=> ?_⟩)
   |(rw[kI];refine⟨λe0 e1=> ?_,λe0 e1=> ?_⟩)
   |(rw[bz];refine⟨λ_=> ?_,λ_=> ?_⟩)
   |(rw[bJ];intro _ _))
 all_goals first
  |assumption
  |exact GF.of jA.1 jA.2 h
  |exact GF.of fJ.1 fJ.2 oX
  |exact GF.of pE.1 pE.2 oX
  |exact GF.of Ls.1 Ls.2 pR
  |(rw[aW];first|assumption|exact⟨by assumption,by assumption⟩|(subst e1;assumption)|exact⟨adw,oX.2⟩)
theorem aPc (x:km.B)(h:GF x.2.1.b.1 x.2.1.b.2.1 x.2.1.c.2.1 x.2.1.d.c.b.2.1):Po (ig x) (λr:vJ=>GF r.1.b.1 r.1.b.2.1 r.1.c.2.1 r.1.d.c.b.2.1):=by
 unfold ig vK;try dsimp only
 show PW _ _;try dsimp only
 repeat' (first
   |(rw[dz];exact trivial)
   |(with_reducible refine aI (aw3 _ ?_) λe _ aMm=> ?_)
   |(rw[pO];refine⟨λe0 e1=> ?_,λe0 e1=> ?_⟩)
   |(rw[kI];refine⟨λe0 e1=> ?_,λe0 e1=> ?_⟩)
   |(rw[bz];refine⟨λ_=> ?_,λ_=> ?_⟩)
   |(rw[bJ];intro _ _))
 all_goals first
  |assumption
  |exact GF.of jA.1 jA.2 h
  |exact GF.of fJ.1 fJ.2 oX
  |exact GF.of pE.1 pE.2 oX
  |exact GF.of Ls.1 Ls.2 pR
  |(rw[aW];first|assumption|exact⟨by assumption,by assumption⟩|(subst e1;assumption)|exact⟨adw,oX.2⟩)
theorem a2F (x:oW.B)(h:GF x.2.1.b.1 x.2.1.b.2.1 x.2.1.c.2.1 x.2.1.d.c.b.2.1):Po (mj x) (λr:Dq=>GF r.1.b.1 r.1.b.2.1 r.1.c.2.1 r.1.d.c.b.2.1):=by
 unfold mj Ds;try dsimp only
 show PW _ _;try dsimp only
 repeat' (first
   |(rw[dz];exact trivial)
   |(with_reducible refine aI (aw3 _ ?_) λe _ aMm=> ?_)
   |(with_reducible refine aI (aJF _ ?_) λe _ a0z=> ?_)
   |(rw[pO];refine⟨λe0 e1=> ?_,λe0 e1=> ?_⟩)
   |(rw[kI];refine⟨λe0 e1=> ?_,λe0 e1=> ?_⟩)
   |(rw[bz];refine⟨λ_=> ?_,λ_=> ?_⟩)
   |(rw[bJ];intro _ _))
 all_goals first
  |assumption
  |exact GF.of jA.1 jA.2 h
  |exact GF.of fJ.1 fJ.2 oX
  |exact GF.of pE.1 pE.2 oX
  |exact GF.of Ls.1 Ls.2 pR
  |(rw[aW];first|assumption|exact⟨by assumption,by assumption⟩|(subst e1;assumption)|exact⟨adw,oX.2⟩)
theorem aVJ (x:ml.B)(h:GF x.2.1.b.1 x.2.1.b.2.1 x.2.1.c.2.1 x.2.1.d.c.b.2.1):Po (jP x) (λr:z5=>GF r.1.b.1 r.1.b.2.1 r.1.c.2.1 r.1.d.c.b.2.1):=by
 unfold jP z6;try dsimp only
 show PW _ _;try dsimp only
 repeat' (first
   |(rw[dz];exact trivial)
   |(with_reducible refine aI (aw3 _ ?_) λe _ aMm=> ?_)
   |(rw[pO];refine⟨λe0 e1=> ?_,λe0 e1=> ?_⟩)
   |(rw[kI];refine⟨λe0 e1=> ?_,λe0 e1=> ?_⟩)
   |(rw[bz];refine⟨λ_=> ?_,λ_=> ?_⟩)
   |(rw[bJ];intro _ _))
 all_goals first
  |assumption
  |exact GF.of jA.1 jA.2 h
  |exact GF.of fJ.1 fJ.2 oX
  |exact GF.of pE.1 pE.2 oX
  |exact GF.of Ls.1 Ls.2 pR
  |(rw[aW];first|assumption|exact⟨by assumption,by assumption⟩|(subst e1;assumption)|exact⟨adw,oX.2⟩)
theorem a4Z (x:ql.B)(h:GF x.2.1.b.1 x.2.1.b.2.1 x.2.1.c.2.1 x.2.1.d.c.b.2.1):Po (nA x) (λr:z7=>match r with|.inl e=>GF e.1.b.1 e.1.b.2.1 e.1.c.2.1 e.1.d.c.b.2.1|.inr e=>GF e.1.1.b.1 e.1.1.b.2.1 e.1.1.c.2.1 e.1.1.d.c.b.2.1):=by
 unfold nA Fk;try dsimp only
 show PW _ _;try dsimp only
 repeat' (first
   |(rw[dz];exact trivial)
   |(with_reducible refine aI (a2E _ ?_) λe _ a7O=> ?_)
   |(with_reducible refine aI (aIe _ ?_) λe _ a2G=> ?_)
   |(with_reducible refine aI (aPb _ ?_) λe _ a41=> ?_)
   |(with_reducible refine aI (aVJ _ ?_) λe _ a6S=> ?_)
   |(with_reducible refine aI (aPc _ ?_) λe _ a42=> ?_)
   |(with_reducible refine aI (a2F _ ?_) λe _ a7P=> ?_)
   |(rw[pO];refine⟨λe0 e1=> ?_,λe0 e1=> ?_⟩)
   |(rw[kI];refine⟨λe0 e1=> ?_,λe0 e1=> ?_⟩)
   |(rw[bz];refine⟨λ_=> ?_,λ_=> ?_⟩)
   |(rw[bJ];intro _ _))
 all_goals first
  |assumption
  |exact GF.of jA.1 jA.2 h
  |exact GF.of fJ.1 fJ.2 oX
  |exact GF.of pE.1 pE.2 oX
  |exact GF.of Ls.1 Ls.2 pR
  |(rw[aW];first|assumption|exact⟨by assumption,by assumption⟩|(subst e1;assumption)|exact⟨adw,oX.2⟩)
theorem aPd (d:dB.B)(hd:GF d.2.1.b.1 d.2.1.b.2.1 d.2.1.c.2.1 d.2.1.d.c.2.1):Po (nI d) (λx:iX=>GF x.2.1.b.1 x.2.1.b.2.1 x.2.1.c.2.1 x.2.1.d.c.2.1):=
 L3 (s:=_) (λd:dB.B=>GF d.2.1.b.1 d.2.1.b.2.1 d.2.1.c.2.1 d.2.1.d.c.2.1) (λx:iX=>GF x.2.1.b.1 x.2.1.b.2.1 x.2.1.c.2.1 x.2.1.d.c.2.1) (λd hd=>by
  unfold xX;try dsimp only
  try dsimp only
  repeat' (first
   |(rw[dz];exact trivial)
   |(rw[pO];refine⟨λe0 e1=> ?_,λe0 e1=> ?_⟩)
   |(rw[kI];refine⟨λe0 e1=> ?_,λe0 e1=> ?_⟩)
   |(rw[bz];refine⟨λ_=> ?_,λ_=> ?_⟩)
   |(rw[bJ];intro _ _))
  all_goals first
   |assumption
   |(rw[aW];first|assumption|exact hd|(subst e1;assumption))
   |exact hd) 2000 d hd
theorem a0A (x:kZ.B)(h:GF x.2.1.b.1 x.2.1.b.2.1 x.2.1.c.2.1 x.2.1.d.c.b.2.1):Po (k9 x) (λr:qA=>match r with|.inl e=>GF e.1.b.1 e.1.b.2.1 e.1.c.2.1 e.1.d.c.b.2.1|.inr e=>GF e.1.1.b.1 e.1.1.b.2.1 e.1.1.c.2.1 e.1.1.d.c.2.1):=by
 unfold k9 uS;try dsimp only
 show PW _ _;try dsimp only
 have hs:=h.1
 repeat' (first
   |(rw[dz];exact trivial)
   |(with_reducible refine aI (a2z _ _ _ _) λt _ ht=> ?_)
   |((with_reducible refine aI (a2x _ _ _ _ _ _ ht hs ?_) λs' _ hs'=> ?_);exact rfl)
   |(with_reducible refine aI (aok _ _ _ _ _ _ _) λv _ hv=> ?_)
   |(with_reducible refine aI (aPd _ (GF.of hs' hv h)) λl _ hl=> ?_)
   |(rw[pO];refine⟨λe0 e1=> ?_,λe0 e1=> ?_⟩)
   |(rw[kI];refine⟨λe0 e1=> ?_,λe0 e1=> ?_⟩)
   |(rw[bz];refine⟨λ_=> ?_,λ_=> ?_⟩)
   |(rw[bJ];intro _ _))
 all_goals (rw[aW];first|exact h|exact hl)
theorem aSr (d:dw.B)(hd:GF d.2.1.b.1 d.2.1.b.2.1 d.2.1.c.2.1 d.2.1.d.c.b.2.1):Po (pD d) (λx:jT=>GF x.2.1.b.1 x.2.1.b.2.1 x.2.1.c.2.1 x.2.1.d.c.b.2.1):=
 L3 (s:=_) (λd:dw.B=>GF d.2.1.b.1 d.2.1.b.2.1 d.2.1.c.2.1 d.2.1.d.c.b.2.1) (λx:jT=>GF x.2.1.b.1 x.2.1.b.2.1 x.2.1.c.2.1 x.2.1.d.c.b.2.1) (λd hd=>by
  unfold Aa;try dsimp only
  try dsimp only
  repeat' (first
   |(rw[dz];exact trivial)
   |(with_reducible refine aI (a4Z _ ?_) λe _ a8K=> ?_)
   |(rw[pO];refine⟨λe0 e1=> ?_,λe0 e1=> ?_⟩)
   |(rw[kI];refine⟨λe0 e1=> ?_,λe0 e1=> ?_⟩)
   |(rw[bz];refine⟨λ_=> ?_,λ_=> ?_⟩)
   |(rw[bJ];intro _ _))
  all_goals first
   |assumption
   |(rw[aW];first|assumption|exact hd|(subst e1;assumption))
   |exact hd) 2000 d hd
theorem aSs (d:dU.B)(hd:GF d.2.1.b.1 d.2.1.b.2.1 d.2.1.c.2.1 d.2.1.d.c.b.2.1):Po (tL d) (λx:jV=>GF x.2.1.b.1 x.2.1.b.2.1 x.2.1.c.2.1 x.2.1.d.c.b.2.1):=
 L3 (s:=_) (λd:dU.B=>GF d.2.1.b.1 d.2.1.b.2.1 d.2.1.c.2.1 d.2.1.d.c.b.2.1) (λx:jV=>GF x.2.1.b.1 x.2.1.b.2.1 x.2.1.c.2.1 x.2.1.d.c.b.2.1) (λd hd=>by
  unfold Ae;try dsimp only
  try dsimp only
  repeat' (first
   |(rw[dz];exact trivial)
   |(with_reducible refine aI (aSr _ ?_) λe _ he=> ?_)
   |(rw[pO];refine⟨λe0 e1=> ?_,λe0 e1=> ?_⟩)
   |(rw[kI];refine⟨λe0 e1=> ?_,λe0 e1=> ?_⟩)
   |(rw[bz];refine⟨λ_=> ?_,λ_=> ?_⟩)
   |(rw[bJ];intro _ _))
  all_goals first
   |assumption
   |(rw[aW];first|assumption|exact hd|(subst e1;assumption))
   |exact hd) 2000 d hd
theorem aSt (d:dS.B)(hd:GF d.2.1.b.1 d.2.1.b.2.1 d.2.1.c.2.1 d.2.1.d.c.b.2.1):Po (tK d) (λx:jU=>GF x.2.1.b.1 x.2.1.b.2.1 x.2.1.c.2.1 x.2.1.d.c.b.2.1):=
 L3 (s:=_) (λd:dS.B=>GF d.2.1.b.1 d.2.1.b.2.1 d.2.1.c.2.1 d.2.1.d.c.b.2.1) (λx:jU=>GF x.2.1.b.1 x.2.1.b.2.1 x.2.1.c.2.1 x.2.1.d.c.b.2.1) (λd hd=>by
  unfold Ac;try dsimp only
  try dsimp only
  repeat' (first
   |(rw[dz];exact trivial)
   |(rw[pO];refine⟨λe0 e1=> ?_,λe0 e1=> ?_⟩)
   |(rw[kI];refine⟨λe0 e1=> ?_,λe0 e1=> ?_⟩)
   |(rw[bz];refine⟨λ_=> ?_,λ_=> ?_⟩)
   |(rw[bJ];intro _ _))
  all_goals first
   |assumption
   |(rw[aW];first|assumption|exact hd|(subst e1;assumption))
   |exact hd) 2000 d hd
theorem aSu (d:gE.B)(hd:GF d.1.b.1 d.1.b.2.1 d.1.c.2.1 d.1.d.c.b.2.1):Po (mq d) (λx:mo=>match x with|.inl x=>GF x.1.2.1 x.2.1.b.1 x.2.1.c.1 x.2.1.d.c.2.1|.inr x=>GF x.2.1.b.1 x.2.1.b.2.1 x.2.1.c.2.1 x.2.1.d.c.b.1):=by
 unfold mq Ad;try dsimp only
 show PW _ _;try dsimp only
 repeat' (first
   |(rw[dz];exact trivial)
   |(rw[pO];refine⟨λe0 e1=> ?_,λe0 e1=> ?_⟩)
   |(rw[kI];refine⟨λe0 e1=> ?_,λe0 e1=> ?_⟩)
   |(rw[bz];refine⟨λ_=> ?_,λ_=> ?_⟩)
   |(rw[bJ];intro _ _))
 all_goals first
   |assumption
   |(rw[aW];first|assumption|exact hd|(subst e1;assumption))
   |exact hd
theorem aSv (d:gF.B)(hd:GF d.1.b.1 d.1.b.2.1 d.1.c.2.1 d.1.d.c.b.2.1):Po (mw d) (λx:mr=>match x with|.inl x=>GF x.1.2.1 x.2.1.b.1 x.2.1.c.1 x.2.1.d.c.2.1|.inr x=>GF x.2.1.b.1 x.2.1.b.2.1 x.2.1.c.2.1 x.2.1.d.c.b.1):=by
 unfold mw Af;try dsimp only
 show PW _ _;try dsimp only
 repeat' (first
   |(rw[dz];exact trivial)
   |(with_reducible refine aI (aPa _) λmm _ hm=> ?_)
   |(with_reducible refine aI (a2B _ _ _ _ _ _ _ _ _ _ _ _ _) λjj _ hj=> ?_)
   |(with_reducible refine aI (aSu _ ?_) λe _ he=> ?_)
   |(rw[pO];refine⟨λe0 e1=> ?_,λe0 e1=> ?_⟩)
   |(rw[kI];refine⟨λe0 e1=> ?_,λe0 e1=> ?_⟩)
   |(rw[bz];refine⟨λ_=> ?_,λ_=> ?_⟩)
   |(rw[bJ];intro _ _))
 all_goals first
   |assumption
   |(rw[aW];first|assumption|exact hd|(subst e1;assumption))
   |exact⟨hd.1,hd.2.1,hm,hj⟩
   |exact⟨hd.1,hd.2.1,hm,hd.b.2⟩
   |exact hd
theorem aSw (d:gG.B)(hd:GF d.1.b.1 d.1.b.2.1 d.1.c.2.1 d.1.d.c.b.2.1):Po (jW d) (λx:mx=>match x with|.inl x=>GF x.1.2.1 x.2.1.b.1 x.2.1.c.1 x.2.1.d.c.2.1|.inr x=>GF x.2.1.b.1 x.2.1.b.2.1 x.2.1.c.2.1 x.2.1.d.c.b.1):=by
 unfold jW Ag;try dsimp only
 show PW _ _;try dsimp only
 repeat' (first
   |(rw[dz];exact trivial)
   |(with_reducible refine aI (aSs _ ?_) λe _ he=> ?_)
   |(with_reducible refine aI (aSt _ ?_) λe _ he=> ?_)
   |(with_reducible refine aI (aSv _ ?_) λe _ he=> ?_)
   |(rw[pO];refine⟨λe0 e1=> ?_,λe0 e1=> ?_⟩)
   |(rw[kI];refine⟨λe0 e1=> ?_,λe0 e1=> ?_⟩)
   |(rw[bz];refine⟨λ_=> ?_,λ_=> ?_⟩)
   |(rw[bJ];intro _ _))
 all_goals first
   |assumption
   |(rw[aW];first|assumption|exact hd|(subst e1;assumption))
   |exact hd
theorem a2H (x:mn.B)(h:GF x.2.1.b.1 x.2.1.b.2.1 x.2.1.c.2.1 x.2.1.d.c.b.2.1):Po (my x) (λr:rY=>GF r.1.1.b.1 r.1.1.b.2.1 r.1.1.c.2.1 r.1.1.d.c.b.2.1):=by
 unfold my xQ;try dsimp only
 show PW _ _;try dsimp only
 repeat' (first
   |(rw[dz];exact trivial)
   |(with_reducible refine aI (a0A _ ?_) λe _ he=> ?_)
   |(with_reducible refine aI (aSo _ _ _ _ _ _ _ _ _ _ _ _ _) λv _ hv=> ?_)
   |(with_reducible refine aI (a0w _ _ _ _ _ _ _ _ _ _) λs _ hs=> ?_)
   |(with_reducible refine aI (aSw _ ?_) λq _ hq=> ?_)
   |(rw[pO];refine⟨λe0 e1=> ?_,λe0 e1=> ?_⟩)
   |(rw[kI];refine⟨λe0 e1=> ?_,λe0 e1=> ?_⟩)
   |(rw[bz];refine⟨λ_=> ?_,λ_=> ?_⟩)
   |(rw[bJ];intro _ _))
 all_goals first
   |assumption
   |exact h
   |exact GF.of hs hv h
   |(subst e1;assumption)
   |(rw[aW];first|assumption|(subst e1;exact hq))
   |skip
theorem aPe (w:Int×Int×(Int×Int×Int)×Int×Int×Int):∀(d:kQ.B) (hd:0<=d.1/\d.1<=3/\d.2.1=w.1),Ok (JR d) (λx:yV=>match x with|.inl _=>True|.inr e=>e.2.1=w.1):=
 bT (λd:kQ.B=>z4 (3-d.1)) (λd hd=>by
  have hw:wI (d.1+1)=d.1+1:=bf;unfold JQ;simp only[bU];simp only[nf,pL,uL,hw];repeat' (first|exact True.intro|exact hd.2.2|omega|(intro _)|(apply And.intro))) (λd hd=>by omega)
theorem aVL (x0:Int)(x1:Int)(x2:Int)(x3:Int)(x4:Int)(x5:Int)(x6:Int)(x7:Int):Ok (AH x0 x1 x2 x3 x4 x5 x6 x7) (λr=>r=true->0<=x0):=by
 unfold AH QQ;show PQ _ _;refine ax (aPe (x0,x1,(x2,x3,x4),x5,x6,x7) _ ⟨dZ 0,(show(0:Int)<=3 by decide),rfl⟩) λd _ hd=> ?_;rw[og];refine⟨λa _=>by rw[aw];intro h;exact absurd h (by decide),λa ha=> ?_⟩;rw[ha] at hd;have hd:a.2.1=x0:=hd;rw[aM];refine⟨λ_=> ?_,λ_=>by rw[aw];intro h;exact absurd h (by decide)⟩;rw[aM];refine⟨λ_=> ?_,λ_=>by rw[aw];intro h;exact absurd h (by decide)⟩;rw[aM];refine⟨λc=> ?_,λ_=>by rw[aw];intro h;exact absurd h (by decide)⟩;rw[aw];have c:=dh c;intro _;omega
theorem aJG (x:AI.B):Ok (wj x) (λr=>r.1.1=x.1.2.1):=by
 unfold wj QS;try dsimp only
 show PQ _ _;rw[bI];intro _ _;rw[bI];intro _ _;rw[aw]
theorem a0B (x:mc.B)(h:x.2.1.2.2=false->x.2.1.2.1.1<=0):Ok (hO x) (λr=>(r.2.1.2.2=false->r.2.1.2.1.1<=0)/\x.2.1.2.1.1<=r.2.1.2.1.1/\(r.1.2.1=true->r.1.1.1=r.2.1.2.1.1)):=by
 unfold hO zP;try dsimp only
 show PQ _ _;refine ax (aVL _ _ _ _ _ _ _ _) λd _ hd=> ?_;rw[aM];refine⟨λ_=>by rw[aw];exact⟨h,dZ _,(λh=>nomatch h)⟩,λc=> ?_⟩;have c:d=true:=by cases d<;>first|rfl|cases c
 have hx:0<=x.1.1:=hd c;rw[aM];refine⟨λ_=> ?_,λca=> ?_⟩
 .rw[aM];refine⟨λ_=>by rw[aw];exact⟨h,dZ _,(λh=>nomatch h)⟩,λcb=> ?_⟩;have cb:=wS cb;refine ax (aJG _) λe _ he=> ?_;have he:e.1.1=x.1.1:=he;rw[aM];refine⟨λ_=> ?_,λ_=> ?_⟩
  .rw[aw];exact⟨(λh=>nomatch h),by show x.2.1.2.1.1<=e.1.1;omega,(λh=>nomatch h)⟩
  .rw[aw];exact⟨(λh=>nomatch h),by show x.2.1.2.1.1<=x.1.1;omega,λ_=>he⟩
 .have h:=h ca;refine ax (aJG _) λe _ he=> ?_;have he:e.1.1=x.1.1:=he;rw[aM];refine⟨λ_=> ?_,λ_=> ?_⟩
  .rw[aw];exact⟨(λh=>nomatch h),by show x.2.1.2.1.1<=e.1.1;omega,(λh=>nomatch h)⟩
  .rw[aw];exact⟨(λh=>nomatch h),by show x.2.1.2.1.1<=x.1.1;omega,λ_=>he⟩
def Qd (T S:Int)(n:Nat)(r:Nat->Int):Prop:=T<=S/\∀i k,i<=k->k<n->T<=r i/\r i<=r k/\r k<=S
theorem Qd.pop {T S:Int}{n:Nat}{r q:Nat->Int}(h:Qd T S n r)(hn:1<=n)(e:∀i,q i=r (i+1)):T<=r 0/\Qd (r 0) S (n-1) q:=by
 have a:=h.2 0 0 (cP _) (by omega);refine⟨a.1,LK a.2.1 a.2.2,λi k p l=> ?_⟩;have b:=h.2 (i+1) (k+1) (by omega) (by omega);have c:=h.2 0 (i+1) (by omega) (by omega);rw[e,e];exact⟨c.2.1,b.2⟩
theorem Qd.push {T S j:Int}{n:Nat}{r q:Nat->Int}(h:Qd T S n r)(l:S<=j)(e:∀i,i<n->q i=r i)(en:q n=j):Qd T j (n+1) q:=by
 refine⟨LK h.1 l,λi k p l2=> ?_⟩;have hT:=h.1;by_cases hk:k<n
 .rw[e i (by omega),e k hk];have a:=h.2 i k p hk;exact⟨a.1,a.2.1,LK a.2.2 l⟩
 .have hk:k=n:=by omega
  subst hk;rw[en];by_cases hi:i<k
  .rw[e i hi];have a:=h.2 i i (cP _) hi;exact⟨a.1,LK a.2.2 l,dZ _⟩
  .have hi:i=k:=by omega
   subst hi;rw[en];exact⟨LK hT l,dZ _,dZ _⟩
theorem Qd.up {T S j:Int}{n:Nat}{r q:Nat->Int}(h:Qd T S n r)(l:S<=j)(e:∀i,q i=r i):Qd T j n q:=
 ⟨LK h.1 l,λi k p l2=>by rw[e,e];have a:=h.2 i k p l2;exact⟨a.1,a.2.1,LK a.2.2 l⟩⟩
def OE (e:Int×Int×Int×Int×Int×Int×Int×Int×Int×Int×Int):Prop:=UQ e.2.1 e.b.1 e.b.2.1 e.c.1/\((-549755813888<=e.c.2.1/\e.c.2.1<=549755813888)/\(-549755813888<=e.c.b.1/\e.c.b.1<=549755813888)/\(-549755813888<=e.c.b.2.1/\e.c.b.2.1<=549755813888))/\(-9007199254740992<=e.d.1/\e.d.1<=9007199254740992)/\(-9007199254740992<=e.d.2.1/\e.d.2.1<=9007199254740992)/\(-9007199254740992<=e.d.2.2/\e.d.2.2<=9007199254740992)
abbrev axb:Type:=(Nat->Int)×(Nat->Int)×(Nat->Int)×(Nat->Int)×(Nat->Int)×(Nat->Int)×(Nat->Int)×(Nat->Int)×(Nat->Int)×(Nat->Int)×(Nat->Int)
def Re (rr:axb)(i:Nat):Int×Int×Int×Int×Int×Int×Int×Int×Int×Int×Int:=(rr.1 i,rr.2.1 i,rr.b.1 i,rr.b.2.1 i,rr.c.1 i,rr.c.2.1 i,rr.c.b.1 i,rr.c.b.2.1 i,rr.d.1 i,rr.d.2.1 i,rr.d.2.2 i)
def OG (n:Nat)(rr:axb):Prop:=(∀i,i<n->OE (Re rr i))/\∀i,1<=i->i<n->rr.1 (i-1)<rr.1 i
theorem OG.none (rr:axb):OG 0 rr:=⟨λi h=>absurd h (Nat.not_lt_zero _),λi _ h=>absurd h (Nat.not_lt_zero _)⟩
theorem OG.ext {n:Nat}{rr ss:axb}(h:OG n rr)(k:∀i,i<n->Re ss i=Re rr i):OG n ss:=by
 refine⟨λi hi=>by rw[k i hi];exact h.1 i hi,λi h1 hi=> ?_⟩;have a:ss.1 i=rr.1 i:=eC (λe=>e.1) (k i hi);have b:ss.1 (i-1)=rr.1 (i-1):=eC (λe=>e.1) (k (i-1) (by omega));rw[a,b];exact h.2 i h1 hi
theorem OG.zero {n:Nat}{rr:axb}(h:OG n rr):OG n (λj=>rr.1 (0+j),λj=>rr.2.1 (0+j),λj=>rr.b.1 (0+j),λj=>rr.b.2.1 (0+j),λj=>rr.c.1 (0+j),λj=>rr.c.2.1 (0+j),λj=>rr.c.b.1 (0+j),λj=>rr.c.b.2.1 (0+j),λj=>rr.d.1 (0+j),λj=>rr.d.2.1 (0+j),λj=>rr.d.2.2 (0+j)):=h.ext λi _=>by unfold Re;dsimp only;rw[gP]
theorem OG.le {n m:Nat}{rr:axb}(h:OG n rr)(k:m<=n):OG m rr:=⟨λi hi=>h.1 i (by omega),λi h1 hi=>h.2 i h1 (by omega)⟩
theorem OG.put {n k:Nat}{rr:axb}{e:Int×Int×Int×Int×Int×Int×Int×Int×Int×Int×Int}(h:OG n rr)(he:OE e)(ht:k<n->e.1=rr.1 k)(hk:k<=n)(hl:k=n->1<=n->rr.1 (n-1)<e.1)(m:Nat)(hm:m=n∨(m=n+1/\k=n)):OG m (λj=>bif z9 j k then e.1 else rr.1 j,λj=>bif z9 j k then e.2.1 else rr.2.1 j,λj=>bif z9 j k then e.b.1 else rr.b.1 j,λj=>bif z9 j k then e.b.2.1 else rr.b.2.1 j,λj=>bif z9 j k then e.c.1 else rr.c.1 j,λj=>bif z9 j k then e.c.2.1 else rr.c.2.1 j,λj=>bif z9 j k then e.c.b.1 else rr.c.b.1 j,λj=>bif z9 j k then e.c.b.2.1 else rr.c.b.2.1 j,λj=>bif z9 j k then e.d.1 else rr.d.1 j,λj=>bif z9 j k then e.d.2.1 else rr.d.2.1 j,λj=>bif z9 j k then e.d.2.2 else rr.d.2.2 j):=by
 have no:∀i,i≠k->z9 i k=false:=λi hi=>by
  cases hb:z9 i k with
  |false=>rfl
  |true=>exact absurd (lE hb) hi
 have rk:Re (λj=>bif z9 j k then e.1 else rr.1 j,λj=>bif z9 j k then e.2.1 else rr.2.1 j,λj=>bif z9 j k then e.b.1 else rr.b.1 j,λj=>bif z9 j k then e.b.2.1 else rr.b.2.1 j,λj=>bif z9 j k then e.c.1 else rr.c.1 j,λj=>bif z9 j k then e.c.2.1 else rr.c.2.1 j,λj=>bif z9 j k then e.c.b.1 else rr.c.b.1 j,λj=>bif z9 j k then e.c.b.2.1 else rr.c.b.2.1 j,λj=>bif z9 j k then e.d.1 else rr.d.1 j,λj=>bif z9 j k then e.d.2.1 else rr.d.2.1 j,λj=>bif z9 j k then e.d.2.2 else rr.d.2.2 j) k=e:=by
  unfold Re;dsimp only;rw[Ar];rfl
 have ri:∀i,i≠k->Re (λj=>bif z9 j k then e.1 else rr.1 j,λj=>bif z9 j k then e.2.1 else rr.2.1 j,λj=>bif z9 j k then e.b.1 else rr.b.1 j,λj=>bif z9 j k then e.b.2.1 else rr.b.2.1 j,λj=>bif z9 j k then e.c.1 else rr.c.1 j,λj=>bif z9 j k then e.c.2.1 else rr.c.2.1 j,λj=>bif z9 j k then e.c.b.1 else rr.c.b.1 j,λj=>bif z9 j k then e.c.b.2.1 else rr.c.b.2.1 j,λj=>bif z9 j k then e.d.1 else rr.d.1 j,λj=>bif z9 j k then e.d.2.1 else rr.d.2.1 j,λj=>bif z9 j k then e.d.2.2 else rr.d.2.2 j) i=Re rr i:=λi hi=>by
  unfold Re;dsimp only;rw[no i hi];rfl
 refine⟨λi hi=> ?_,λi h1 hi=> ?_⟩
 .rcases Nat.decEq i k with c|c
  .rw[ri i c];exact h.1 i (by omega)
  .rw[c,rk];exact he
 .show(bif z9 (i-1) k then e.1 else rr.1 (i-1))<(bif z9 i k then e.1 else rr.1 i);rcases Nat.decEq i k with c|c
  .rw[no i c];have hi:i<n:=by omega
   rcases Nat.decEq (i-1) k with d|d
   .rw[no (i-1) d];exact h.2 i h1 hi
   .rw[d,Ar];show e.1<rr.1 i;rw[ht (by omega),<-d];exact h.2 i h1 hi
  .rw[no (i-1) (by omega),c,Ar];show rr.1 (k-1)<e.1;rcases mO k n with d|d
   .rw[ht d];exact h.2 k (by omega) d
   .have e1:k=n:=by omega
    rw[e1];exact hl e1 (by omega)
theorem OG.one {e:Int×Int×Int×Int×Int×Int×Int×Int×Int×Int×Int}(h:OE e):OG 1 (λj=>bif z9 j 0 then e.1 else e.1,λj=>bif z9 j 0 then e.2.1 else e.2.1,λj=>bif z9 j 0 then e.b.1 else e.b.1,λj=>bif z9 j 0 then e.b.2.1 else e.b.2.1,λj=>bif z9 j 0 then e.c.1 else e.c.1,λj=>bif z9 j 0 then e.c.2.1 else e.c.2.1,λj=>bif z9 j 0 then e.c.b.1 else e.c.b.1,λj=>bif z9 j 0 then e.c.b.2.1 else e.c.b.2.1,λj=>bif z9 j 0 then e.d.1 else e.d.1,λj=>bif z9 j 0 then e.d.2.1 else e.d.2.1,λj=>bif z9 j 0 then e.d.2.2 else e.d.2.2):=by
 refine⟨λi hi=> ?_,λi h1 hi=>absurd hi (by omega)⟩;have:i=0:=by omega
 subst this;exact h
end Go.Proofs.YtldgljclcgaibaaGreat
