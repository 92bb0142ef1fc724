/-
  Parts of the proof: TD TU TE Q3 TF TG TH
-/
import Derived.Test.YtldgljclcgaibaaGreatZAE
import Derived.Test.YtldgljclcgaibaaGreatZAG
import Derived.Test.YtldgljclcgaibaaGreatZAH
set_option linter.unusedVariables false
set_option linter.unusedSimpArgs false
set_option maxRecDepth 100000
set_option maxHeartbeats 4000000
namespace Go.Proofs.YtldgljclcgaibaaGreat
open Go.Ab Go.Ab.Pg
theorem aEe (d:pK.B)(hd:0<=d.1.2∧d.1.2<=3∧d.1.1.1<=1900):Ok (aeC d) (λx:EK=>True):=
 ba (s:=_) (λd:pK.B=>0<=d.1.2∧d.1.2<=3∧d.1.1.1<=1900) (λd:pK.B=>Int.toNat (3-d.1.2)) (λx:EK=>True) (λd hd=>by
  unfold aeB
  try dsimp only
  rw[aK]
  refine⟨λh=> ?_,λ_=>by simp only[av,Sum.elim_inr]⟩
  have h:=of_decide_eq_true h
  rw[bB,bB,aM]
  refine⟨rfl,rfl,ay (aEd d.1.1.1 d.1.2 _ ?_) λx _ hx=> ?_⟩
  ·dsimp only;simp only[Int.ofNat_eq_natCast,true_and,and_true];omega
  obtain⟨a1,a2,a3,a4⟩:=hx
  rw[aM,bB]
  have hw:wI (d.1.2+1)=d.1.2+1:=bg (by omega) (by omega)
  have:=aHD x.1.2.2.1 (by omega)
  simp only[bE]
  simp only[nf,Bool.not_eq_true',rN,hw,a1,a2,a3]
  repeat' (first|exact True.intro|omega|(intro _)|(apply And.intro))) 2000 d hd (by omega)
theorem aeU (x0:Nat)(x1:Bool)(x2:Nat->Int)(x3:Nat->Int)(x4:Nat->Int)(w0:Bool)(h:x0<=1900):bl (jr x0 x1 x2 x3 x4 w0):=by
 unfold jr aqb
 refine aF ?_
 rw[aM,bB]
 refine⟨rfl,?_⟩
 refine ay (aEe _ (by dsimp only;omega)) λd _ hd=> ?_
 simp only[bE]
instance aYR (x1:Bool)(x2 x3 x4:Nat->Int)(w0:Bool):bl (jr 2 x1 x2 x3 x4 w0):=aeU _ _ _ _ _ _ (by omega)
instance aYS (x1:Bool)(x2 x3 x4:Nat->Int)(w0:Bool):bl (jr 3 x1 x2 x3 x4 w0):=aeU _ _ _ _ _ _ (by omega)
theorem azn (i:Int)(d:mn.B)(hd:0<=d.1.2.2∧d.1.2.2<=4∧d.1.2.1=i):Ok (Uz d) (λx:yG=>x.1.2.1=i):=
 ba (s:=_) (λd:mn.B=>0<=d.1.2.2∧d.1.2.2<=4∧d.1.2.1=i) (λd:mn.B=>Int.toNat (4-d.1.2.2)) (λx:yG=>x.1.2.1=i) (λd hd=>by
  have hw:wI (d.1.2.2+1)=d.1.2.2+1:=bg (by omega) (by omega)
  unfold Uy
  simp only[bE]
  simp only[nf,Bool.not_eq_true',rN,hw]
  repeat' (first|exact True.intro|omega|(intro _)|(apply And.intro))) 2000 d hd (by omega)
theorem azo (d:mo.B)(hd:0<=d.1∧d.1<=2):Ok (UB d) (λx:yH=>True):=
 ba (s:=_) (λd:mo.B=>0<=d.1∧d.1<=2) (λd:mo.B=>Int.toNat (2-d.1)) (λx:yH=>True) (λd hd=>by
  unfold UA
  try dsimp only
  rw[aK]
  refine⟨λh=> ?_,λ_=>by simp only[av,Sum.elim_inr]⟩
  have h:=of_decide_eq_true h
  rw[bu]
  intro d1 _
  refine ay (azn d.1 _ (by simp)) λx _ hx=> ?_
  have hw:wI (d.1+1)=d.1+1:=bg (by omega) (by omega)
  simp only[av,Sum.elim_inl,hx,hw]
  omega) 2000 d hd (by omega)
instance aVr (x0:Int)(x1:Int)(x2:Int)(x3:Int)(x4:Bool):bl (cW x0 x1 x2 x3 x4):=by
 unfold cW aeF
 refine aF ?_
 rw[bu]
 intro d _
 rw[aK]
 refine⟨λ_=>by simp only[bE],λ_=>ay (azo _ (by simp)) λd _ hd=> ?_⟩
 simp only[av]
theorem amA (a b:Int)(d:dP.B)(hd:0<=d.1.2.2.2∧d.1.2.2.2<=d.1.2.2.1∧d.1.2.2.1<=1999∧d.1.2.2.1<=24∧d.1.1=a∧d.1.2.1=b):Ok (Ac d) (λx:j9=>x.1.1=a∧x.1.2.1=b):=
 ba (s:=_) (λd:dP.B=>0<=d.1.2.2.2∧d.1.2.2.2<=d.1.2.2.1∧d.1.2.2.1<=1999∧d.1.2.2.1<=24∧d.1.1=a∧d.1.2.1=b) (λd:dP.B=>Int.toNat (d.1.2.2.1-d.1.2.2.2)) (λx:j9=>x.1.1=a∧x.1.2.1=b) (λd hd=>by
  have hw:wI (d.1.2.2.2+1)=d.1.2.2.2+1:=bg (by omega) (by omega)
  unfold Aa
  simp only[bE]
  simp only[nf,Bool.not_eq_true',rN,hw]
  repeat' (first|exact True.intro|omega|(intro _)|(apply And.intro))) 2000 d hd (by omega)
theorem amB (a b:Int)(d:dQ.B)(hd:0<=d.1.2.2∧d.1.2.2<=24∧d.1.1=a∧d.1.2.1=b∧0<=a∧a<24):Ok (Ae d) (λx:ka=>x.1.2.1=b):=
 ba (s:=_) (λd:dQ.B=>0<=d.1.2.2∧d.1.2.2<=24∧d.1.1=a∧d.1.2.1=b∧0<=a∧a<24) (λd:dQ.B=>Int.toNat (24-d.1.2.2)) (λx:ka=>x.1.2.1=b) (λd hd=>by
  have hw:wI (d.1.2.2+1)=d.1.2.2+1:=bg (by omega) (by omega)
  unfold Ad
  simp only[bE]
  simp only[nf,Bool.not_eq_true',rN,hw]
  repeat' (first|exact True.intro|omega|(intro _)|(apply And.intro))) 2000 d hd (by omega)
theorem amC (d:dR.B)(hd:0<=d.1∧d.1<=24):Ok (Ag d) (λx:kc=>True):=
 ba (s:=_) (λd:dR.B=>0<=d.1∧d.1<=24) (λd:dR.B=>Int.toNat (24-d.1)) (λx:kc=>True) (λd hd=>by
  have hw:wI (d.1+1)=d.1+1:=bg (by omega) (by omega)
  unfold Af
  have h1:wI (24+d.1)=24+d.1:=ey (by omega) (by omega)
  simp only[h1]
  simp only[bE]
  simp only[nf,Bool.not_eq_true',rN,hw]
  repeat' (first|exact True.intro|omega|(intro _)|(apply And.intro))) 2000 d hd (by omega)
theorem amD (d:dS.B)(hd:0<=d.1∧d.1<=24):Ok (Ai d) (λx:kd=>True):=
 ba (s:=_) (λd:dS.B=>0<=d.1∧d.1<=24) (λd:dS.B=>Int.toNat (24-d.1)) (λx:kd=>True) (λd hd=>by
  unfold Ah
  rw[aK]
  refine⟨λh=> ?_,λ_=>by simp only[av,Sum.elim_inr]⟩
  have h:=of_decide_eq_true h
  have hw:wI (d.1+1)=d.1+1:=bg (by omega) (by omega)
  refine ay (amA d.1 d.1 _ (by dsimp only;rw[hw];omega)) λx _ hx=> ?_
  refine ay (amB d.1 d.1 _ (by dsimp only;omega)) λx _ hx=> ?_
  simp only[av,Sum.elim_inl,hx,hw]
  omega) 2000 d hd (by omega)
instance aQc (x0:Nat->Int)(x1:Nat->Int)(x2:Bool)(x3:Nat->Int):bl (oY x0 x1 x2 x3):=by
 unfold oY EL
 refine aF ?_
 refine ay (amD _ (by simp)) λd _ hd=> ?_
 refine ay (amC _ (by simp)) λd _ hd=> ?_
 simp only[bE]
instance aVs (x0:Nat->Int):bl (bY x0):=by
 unfold bY aeG
 exact aF (by simp only[bE])
instance aQO (x0:Nat->Int)(x1:Int)(x2:Int)(x3:Int)(x4:Int):bl (rA x0 x1 x2 x3 x4):=by
 unfold rA Qz
 exact aF (by simp only[bE])
instance aUR (x0:Int)(x1:Int)(x2:Int)(x3:Int)(x4:Int)(x5:Int)(x6:Int)(x7:Int)(x8:Bool):bl (Gw x0 x1 x2 x3 x4 x5 x6 x7 x8):=by
 unfold Gw Z1
 exact aF (by simp only[bE])
instance aUc (x0:Int)(x1:Bool):bl (Dn x0 x1):=by
 unfold Dn UL
 exact aF (by simp only[bE])
instance aWv (x0:Int)(x1:Int)(x2:Int)(x3:Int)(x4:Int)(x5:Int)(x6:Int)(x7:Int)(x8:Bool):bl (ke x0 x1 x2 x3 x4 x5 x6 x7 x8):=by
 unfold ke ajP
 try dsimp only
 exact aF (by simp only[bE])
theorem aHF (d:r8.B)(hd:0<=d.1∧d.1<=4):Ok (ajR d) (λx:IV=>True):=
 ba (s:=_) (λd:r8.B=>0<=d.1∧d.1<=4) (λd:r8.B=>Int.toNat (4-d.1)) (λx:IV=>True) (λd hd=>by
  have hw:wI (d.1+1)=d.1+1:=bg (by omega) (by omega)
  unfold ajQ
  simp only[bE]
  simp only[nf,Bool.not_eq_true',rN,hw]
  repeat' (first|exact True.intro|omega|(intro _)|(apply And.intro))) 2000 d hd (by omega)
instance aXX (x0:Int)(x1:Int)(x2:Int)(x3:Int)(x4:Bool):bl (jg x0 x1 x2 x3 x4):=by
 unfold jg avu
 try dsimp only
 refine aF ?_
 refine ay (aHF _ (by simp)) λd _ hd=> ?_
 simp only[bE]
instance aXY:bl rB:=by
 have b1:=λx=>nL 0 4 1073741840 x (by omega) (by omega) (by omega)
 have b2:=λx=>nL 4 7 549755813888 x (by omega) (by omega) (by omega)
 have b3:=λx=>nL 7 10 9007199254740992 x (by omega) (by omega) (by omega)
 have b4:=λx=>nL 10 13 134217728 x (by omega) (by omega) (by omega)
 have b5:=λx=>nL 13 16 1073741824 x (by omega) (by omega) (by omega)
 have b6:=λx=>nL 16 22 2147483648 x (by omega) (by omega) (by omega)
 have b7:=λx=>nL 22 24 137438953472 x (by omega) (by omega) (by omega)
 unfold rB QC
 exact aF (by simp only[bE])
theorem as8 (d:jD.B)(hd:0<=d.1∧d.1<=24):Ok (MH d) (λx:tD=>True):=
 ba (s:=_) (λd:jD.B=>0<=d.1∧d.1<=24) (λd:jD.B=>Int.toNat (24-d.1)) (λx:tD=>True) (λd hd=>by
  have hw:wI (d.1+1)=d.1+1:=bg (by omega) (by omega)
  unfold MG
  simp only[bE]
  simp only[nf,Bool.not_eq_true',rN,hw]
  repeat' (first|exact True.intro|omega|(intro _)|(apply And.intro))) 2000 d hd (by omega)
instance aUd (x0:Nat->Int)(x1:Bool):bl (tW x0 x1):=by
 unfold tW UN
 refine aF ?_
 rw[bu]
 intro d _
 refine ay (as8 _ (by simp)) λd _ hd=> ?_
 simp only[av]
theorem aVt {x:Int}{y:abr}(h:vG x=some y)(k:(y:Int)<=1073741840): -1073741840<=x∧x<=1073741840:=by
 have e:PQ (BP x) (λy:abr=>(y:Int)<=1073741840-> -1073741840<=x∧x<=1073741840):=by
  by_cases c:x<0∧ -1152921504606846976<x
  ·have w:wI (0-x)=0-x:=ey (by omega) (by omega)
   simp only[BP,aK,av,ge_iff_le,decide_eq_true_eq,decide_eq_false_iff_not,w]
   exact⟨λ_=>(show(1152921504606846976:Int)<=1073741840-> -1073741840<=x∧x<=1073741840 by omega),λ_=>⟨λ_=>(show(1152921504606846976:Int)<=1073741840-> -1073741840<=x∧x<=1073741840 by omega),λ_=>⟨λ_=>(show(0-x:Int)<=1073741840-> -1073741840<=x∧x<=1073741840 by omega),λ_=>(show x<=1073741840-> -1073741840<=x∧x<=1073741840 by omega)⟩⟩⟩
  ·simp only[BP,aK,av,ge_iff_le,decide_eq_true_eq,decide_eq_false_iff_not]
   exact⟨λ_=>(show(1152921504606846976:Int)<=1073741840-> -1073741840<=x∧x<=1073741840 by omega),λ_=>⟨λ_=>(show(1152921504606846976:Int)<=1073741840-> -1073741840<=x∧x<=1073741840 by omega),λ_=>⟨λ_=>by omega,λ_=>(show x<=1073741840-> -1073741840<=x∧x<=1073741840 by omega)⟩⟩⟩
 exact Ok.post e h k
theorem amE (a b:Int)(d:dU.B)(hd:0<=d.1.2.2∧d.1.2.2<=24∧d.1.1=a∧d.1.2.1=b∧0<=a∧a<24):Ok (Ak d) (λx:kg=>x.1.2.1=b):=
 ba (s:=_) (λd:dU.B=>0<=d.1.2.2∧d.1.2.2<=24∧d.1.1=a∧d.1.2.1=b∧0<=a∧a<24) (λd:dU.B=>Int.toNat (24-d.1.2.2)) (λx:kg=>x.1.2.1=b) (λd hd=>by
  have hw:wI (d.1.2.2+1)=d.1.2.2+1:=bg (by omega) (by omega)
  unfold Aj
  simp only[bE]
  simp only[nf,Bool.not_eq_true',rN,hw]
  repeat' (first|exact True.intro|omega|(intro _)|(apply And.intro))) 2000 d hd (by omega)
theorem amF (a:Int)(d:dV.B)(hd:0<=d.1.2∧d.1.2<=48∧d.1.1=a∧0<=a∧a<24):Ok (Am d) (λx:kh=>x.1.1=a):=
 ba (s:=_) (λd:dV.B=>0<=d.1.2∧d.1.2<=48∧d.1.1=a∧0<=a∧a<24) (λd:dV.B=>Int.toNat (48-d.1.2)) (λx:kh=>x.1.1=a) (λd hd=>by
  have hw:wI (d.1.2+1)=d.1.2+1:=bg (by omega) (by omega)
  unfold Al
  simp only[bE]
  simp only[nf,Bool.not_eq_true',rN,hw]
  repeat' (first|exact True.intro|omega|(intro _)|(apply And.intro))) 2000 d hd (by omega)
theorem amG (a b e g h:Int)(d:dW.B)(hd:0<=d.1.2.2.2.2.2.2∧d.1.2.2.2.2.2.2<=48∧d.1.1=a∧d.1.2.2.1=b∧0<=a∧a<24∧0<=b∧b<24∧d.1.2.2.2.2.1=g∧d.1.2.2.2.2.2.1=h):Ok (Ao d) (λx:kj=>x.1.1=a∧x.1.2.2.2.2.1=g∧x.1.2.2.2.2.2.1=h):=
 ba (s:=_) (λd:dW.B=>0<=d.1.2.2.2.2.2.2∧d.1.2.2.2.2.2.2<=48∧d.1.1=a∧d.1.2.2.1=b∧0<=a∧a<24∧0<=b∧b<24∧d.1.2.2.2.2.1=g∧d.1.2.2.2.2.2.1=h) (λd:dW.B=>Int.toNat (48-d.1.2.2.2.2.2.2)) (λx:kj=>x.1.1=a∧x.1.2.2.2.2.1=g∧x.1.2.2.2.2.2.1=h) (λd hd=>by
  have hw:wI (d.1.2.2.2.2.2.2+1)=d.1.2.2.2.2.2.2+1:=bg (by omega) (by omega)
  unfold An
  simp only[bE]
  simp only[nf,Bool.not_eq_true',rN,hw]
  repeat' (first|exact True.intro|omega|(intro _)|(apply And.intro))) 2000 d hd (by omega)
theorem amH (d:dX.B)(hd:0<=d.1∧d.1<=24):Ok (Aq d) (λx:kl=>True):=
 ba (s:=_) (λd:dX.B=>0<=d.1∧d.1<=24) (λd:dX.B=>Int.toNat (24-d.1)) (λx:kl=>True) (λd hd=>by
  unfold Ap
  rw[aK]
  refine⟨λh=> ?_,λ_=>by simp only[av,Sum.elim_inr]⟩
  have h:=of_decide_eq_true h
  have hw:wI (d.1+1)=d.1+1:=bg (by omega) (by omega)
  have h1:wI (24+d.1)=24+d.1:=ey (by omega) (by omega)
  rw[h1]
  iterate 2 (rw[bB];refine⟨by simp only[bk];omega,?_⟩)
  rw[bu]
  intro d1 _
  iterate 4 (rw[bB];refine⟨by simp only[bk,bO,Bool.true_and];omega,?_⟩)
  refine ay (amE d.1 d.1 _ (by dsimp only;omega)) λx _ hx=> ?_
  simp only[av,Sum.elim_inl,hx,hw]
  omega) 2000 d hd (by omega)
theorem amI (a:Int)(d:dY.B)(hd:0<=d.1.2.2.2∧d.1.2.2.2<=d.1.2.2.1∧d.1.1=a∧d.1.2.2.1<=24∧0<=a∧a<24):Ok (As d) (λx:km=>x.1.1=a):=
 ba (s:=_) (λd:dY.B=>0<=d.1.2.2.2∧d.1.2.2.2<=d.1.2.2.1∧d.1.1=a∧d.1.2.2.1<=24∧0<=a∧a<24) (λd:dY.B=>Int.toNat (d.1.2.2.1-d.1.2.2.2)) (λx:km=>x.1.1=a) (λd hd=>by
  unfold Ar
  try dsimp only
  rw[aK]
  refine⟨λh=> ?_,λ_=>by simp only[av,Sum.elim_inr];exact hd.2.2.1⟩
  have h:=of_decide_eq_true h
  have hw:wI (d.1.2.2.2+1)=d.1.2.2.2+1:=bg (by omega) (by omega)
  rw[bB]
  refine⟨by simp only[bk];omega,?_⟩
  rw[bu];intro d1 _
  rw[bu];intro d2 _
  rw[bu];intro d3 _
  refine ay (amG d.1.1 d.1.2.2.2 d.1.1 d.1.2.2.1 d.1.2.2.2 _ (by dsimp only;omega)) λx _ hx=> ?_
  obtain⟨a1,a2,a3⟩:=hx
  simp only[av,Sum.elim_inl,a1,a2,a3,hw]
  omega) 2000 d hd (by omega)
theorem amJ (d:dZ.B)(hd: -1<=d.1∧d.1<=23):Ok (Au d) (λx:ko=>True):=
 ba (s:=_) (λd:dZ.B=> -1<=d.1∧d.1<=23) (λd:dZ.B=>Int.toNat (d.1+1)) (λx:ko=>True) (λd hd=>by
  unfold At
  try dsimp only
  rw[aK]
  refine⟨λh=> ?_,λ_=>by simp only[av,Sum.elim_inr]⟩
  have h:=of_decide_eq_true h
  have hw:wI (d.1-1)=d.1-1:=ey (by omega) (by omega)
  refine ay (amF d.1 _ (by dsimp only;omega)) λx _ hx=> ?_
  rw[bB]
  refine⟨by simp only[bk,hx];omega,?_⟩
  rw[bu];intro d1 _
  rw[bu];intro d2 _
  rw[bB]
  refine⟨by simp only[bk,hx];omega,?_⟩
  rw[bB]
  refine⟨by simp only[bO,Bool.true_and,hx];omega,?_⟩
  refine ay (amI d.1 _ (by dsimp only;omega)) λx _ hx=> ?_
  simp only[av,Sum.elim_inl,hx,hw]
  omega) 2000 d hd (by omega)
instance aQd (x0:Nat->Int)(x1:Nat->Int)(x2:Nat->Int)(x3:Nat->Int)(x4:Bool):bl (jj x0 x1 x2 x3 x4):=by
 unfold jj EP
 refine aF ?_
 rw[bu];intro d _
 refine ay (amH _ (by simp)) λd _ hd=> ?_
 rw[bu];intro d1 _
 refine ay (amJ _ (by simp)) λd _ hd=> ?_
 simp only[av]
instance aWw (x0:Int):bl (wo x0):=by
 unfold wo OR
 exact aF (by simp only[bE])
theorem aHG (x:Int):wo x=some (decide (0<=x)&&decide (x<24)):=by
 simp only[wo,OR,bJ,bP]
 by_cases h0:0<=x<;>simp[h0]
instance aOU (x0:Int)(x1:Bool):bl (nK x0 x1):=by
 unfold nK CF
 exact aF (by simp only[bE])
theorem as9 (d:fh.B)(hd:0<=d.1.2.2.2∧d.1.2.2.2<=d.1.2.2.1∧d.1.2.2.1<=1999∧d.1.2.2.1=((d.1.2.1.1:Nat):Int)):Ok (ES d) (λx:mO=>True):=
 ba (s:=_) (λd:fh.B=>0<=d.1.2.2.2∧d.1.2.2.2<=d.1.2.2.1∧d.1.2.2.1<=1999∧d.1.2.2.1=((d.1.2.1.1:Nat):Int)) (λd:fh.B=>Int.toNat (d.1.2.2.1-d.1.2.2.2)) (λx:mO=>True) (λd hd=>by
  have hw:wI (d.1.2.2.2+1)=d.1.2.2.2+1:=bg (by omega) (by omega)
  unfold ER
  simp only[bE,aHG,bM]
  simp only[nf,Bool.not_eq_true',rN,hw]
  repeat' (first|exact True.intro|omega|(intro _)|(apply And.intro))) 2000 d hd (by omega)
theorem KJ (x0:Nat->Int)(x1:Nat->Int)(x2:Int)(x3:Nat)(x4:Bool)(x5:Nat->Int)(w0:Bool)(h:x3<=1999):bl (cP x0 x1 x2 x3 x4 x5 w0):=by
 unfold cP Kq
 refine aF ?_
 rw[bu];intro d1 _
 rw[aM,bB]
 refine⟨rfl,?_⟩
 refine ay (as9 _ (hdN x3 h)) λd _ hd=> ?_
 rw[bu];intro d2 _;simp only[av]
end Go.Proofs.YtldgljclcgaibaaGreat
namespace Go.Proofs.YtldgljclcgaibaaGreat
open Go.Ab Go.Ab.Pg
def yN (x0 x1 x2 x3:Int)(j:Nat):Int:=if j=0 then x0 else if j=1 then x1 else if j=2 then x2 else x3
def sqW (f g:Nat->Int)(j:Nat)(x:Int):Prop:=(-1073741840<=x∧x<=1073741840)∧okW (f j) (g j)∧vW (f j) (g j)=x*x
theorem abL {x:Int}(h: -1073741840<=x∧x<=1073741840):0<=x*x∧x*x<=1152921538966585600:=by
 have key:∀u:Int,0<=u->u<=1073741840->0<=u*u∧u*u<=1152921538966585600:=λu u0 u1=>by
  refine⟨Int.mul_nonneg u0 u0,?_⟩
  have:=Int.mul_le_mul u1 u1 u0 (by omega)
  omega
 rcases Int.le_total 0 x with hx|hx
 ·exact key x hx h.2
 ·have:=key (-x) (by omega) (by omega)
  rwa [Int.neg_mul_neg] at this
theorem aeV {x:Int}{f g:Nat->Int}{n:Nat}{A:Type}{δ:Type}{Q:δ->Prop}{no1:Pg δ}{k:aiM->Pg δ}
  (h1:(x< -1073741840∨1073741840<x)->PQ no1 Q)(h2:(-1073741840<=x∧x<=1073741840)->∀h l,eR x x=some (h,l)->okW h l->vW h l=x*x->PQ (k (h,l)) Q):
  PQ (opt (vG x) λaj=>ae (decide (aj>1073741840)) no1 (opt (eR x x) k)) Q:=by
 rw[bu]
 intro d hd
 rw[aK]
 refine⟨λh=> ?_,λh=> ?_⟩
 ·refine h1 ?_
  have h:=of_decide_eq_true h
  have:¬(-1073741840<=x∧x<=1073741840):=λc=>by
   have e:PQ (BP x) (λy:abr=>(y:Int)<=1073741840):=by
    by_cases c':x<0
    ·have w:wI (0-x)=0-x:=ey (by omega) (by omega)
     simp only[BP,aK,av,ge_iff_le,decide_eq_true_eq,decide_eq_false_iff_not,w]
     exact⟨λ_=>by omega,λ_=>⟨λ_=>by omega,λ_=>⟨λ_=>(show(0-x:Int)<=1073741840 by omega),λ_=>by omega⟩⟩⟩
    ·simp only[BP,aK,av,ge_iff_le,decide_eq_true_eq,decide_eq_false_iff_not]
     exact⟨λ_=>by omega,λ_=>⟨λ_=>by omega,λ_=>⟨λ_=>by omega,λ_=>(show x<=1073741840 by omega)⟩⟩⟩
   have h3:(d:Int)<=1073741840:=Ok.post e hd
   exact absurd (show(1073741840:Int)<d from h) (Int.not_lt.mpr h3)
  omega
 ·have h:=of_decide_eq_false h
  have h':¬((1073741840:Int)<d):=h
  have hx:=aVt hd (Int.not_lt.mp h')
  obtain⟨a,b,e,o,v⟩:=BY x x (by omega) (by omega) (by omega) (by omega)
  rw[e,bM]
  exact h2 hx a b e o v
theorem aNG (x0 x1 x2 x3:Int)(d:kO.B)(hd:∃n:Nat,n<=4∧d.1.1=n∧d.1.2.2=(n:Int)∧d.1.2.1=(x0,x1,x2,x3)∧∀j,j<n->sqW d.2.2.1 d.2.2.2 j (yN x0 x1 x2 x3 j)):
  Ok (Qp d) (λx:vJ=>match x with
   |.inl _=>∃j,j<4∧(yN x0 x1 x2 x3 j< -1073741840∨1073741840<yN x0 x1 x2 x3 j)
   |.inr e=>e.1.1=4∧∀j,j<4->sqW e.2.2.1 e.2.2.2 j (yN x0 x1 x2 x3 j)):=
 ba (s:=_) (λd:kO.B=>∃n:Nat,n<=4∧d.1.1=n∧d.1.2.2=(n:Int)∧d.1.2.1=(x0,x1,x2,x3)∧∀j,j<n->sqW d.2.2.1 d.2.2.2 j (yN x0 x1 x2 x3 j)) (λd:kO.B=>4-d.1.1) (λx:vJ=>match x with
   |.inl _=>∃j,j<4∧(yN x0 x1 x2 x3 j< -1073741840∨1073741840<yN x0 x1 x2 x3 j)
   |.inr e=>e.1.1=4∧∀j,j<4->sqW e.2.2.1 e.2.2.2 j (yN x0 x1 x2 x3 j)) (λd hd=>by
  obtain⟨⟨c,q,i⟩,q',f,g⟩:=d
  obtain⟨n,hn,h1,h2,h3,h4⟩:=hd
  simp only at h1 h2 h3 h4
  subst h1 h3 h2
  have step:∀(h l:Int),c<4->okW h l->(-1073741840<=yN x0 x1 x2 x3 c∧yN x0 x1 x2 x3 c<=1073741840)->vW h l=yN x0 x1 x2 x3 c*yN x0 x1 x2 x3 c->
    ∀j,j<c+1->sqW (λj=>bif Nat.beq j c then h else f j) (λj=>bif Nat.beq j c then l else g j) j (yN x0 x1 x2 x3 j):=λh l hc ho hs hv j hj=>by
   unfold sqW
   by_cases e:j=c
   ·subst e;simp only[aM,cond_true];exact⟨hs,ho,hv⟩
   ·have e':Nat.beq j c=false:=by cases hb:Nat.beq j c with|false=>rfl|true=>exact absurd (Nat.eq_of_beq_eq_true hb) e
    simp only[e',cond_false];exact h4 j (by omega)
  have hw:wI ((c:Int)+1)=((c+1:Nat):Int):=by rw[ey (by omega) (by omega)];omega
  have hb:Nat.ble ((c+1)*16) 140737488355328=true:=by rw[bO];omega
  unfold Qo
  simp only[hw,hb]
  have fin:∀(h l:Int),c<4->okW h l->(-1073741840<=yN x0 x1 x2 x3 c∧yN x0 x1 x2 x3 c<=1073741840)->vW h l=yN x0 x1 x2 x3 c*yN x0 x1 x2 x3 c->
    (∃n:Nat,n<=4∧c+1=n∧((c+1:Nat):Int)=(n:Int)∧True∧∀j,j<n->sqW (λj=>bif Nat.beq j c then h else f j) (λj=>bif Nat.beq j c then l else g j) j (yN x0 x1 x2 x3 j))∧4-(c+1)<4-c:=λh l hc ho hs hv=>
   ⟨⟨c+1,by omega,rfl,rfl,trivial,step h l hc ho hs hv⟩,by omega⟩
  rcases(by omega:c=0∨c=1∨c=2∨c=3∨c=4) with rfl|rfl|rfl|rfl|rfl
  ·rw[show decide (((0:Nat):Int)<4)=true from rfl,show aX ((0:Nat):Int) 4=true from rfl,show(((0:Nat):Int)==3)=false from rfl,show(((0:Nat):Int)==2)=false from rfl,show(((0:Nat):Int)==1)=false from rfl]
   simp only[aK,Bool.true_eq_false,Bool.false_eq_true,false_implies,true_implies,and_true,true_and]
   refine aeV (A:=Unit) (n:=0) (f:=f) (g:=g) (λh=> ?_) (λhs h l _ ho hv=> ?_)
   ·simp only[av,Sum.elim_inr];exact⟨0,by omega,h⟩
   ·rw[bB];refine⟨rfl,?_⟩;simp only[av,Sum.elim_inl];exact fin h l (by omega) ho hs hv
  ·rw[show decide (((1:Nat):Int)<4)=true from rfl,show aX ((1:Nat):Int) 4=true from rfl,show(((1:Nat):Int)==3)=false from rfl,show(((1:Nat):Int)==2)=false from rfl,show(((1:Nat):Int)==1)=true from rfl]
   simp only[aK,Bool.true_eq_false,Bool.false_eq_true,false_implies,true_implies,and_true,true_and]
   refine aeV (A:=Unit) (n:=0) (f:=f) (g:=g) (λh=> ?_) (λhs h l _ ho hv=> ?_)
   ·simp only[av,Sum.elim_inr];exact⟨1,by omega,h⟩
   ·rw[bB];refine⟨rfl,?_⟩;simp only[av,Sum.elim_inl];exact fin h l (by omega) ho hs hv
  ·rw[show decide (((2:Nat):Int)<4)=true from rfl,show aX ((2:Nat):Int) 4=true from rfl,show(((2:Nat):Int)==3)=false from rfl,show(((2:Nat):Int)==2)=true from rfl]
   simp only[aK,Bool.true_eq_false,Bool.false_eq_true,false_implies,true_implies,and_true,true_and]
   refine aeV (A:=Unit) (n:=0) (f:=f) (g:=g) (λh=> ?_) (λhs h l _ ho hv=> ?_)
   ·simp only[av,Sum.elim_inr];exact⟨2,by omega,h⟩
   ·rw[bB];refine⟨rfl,?_⟩;simp only[av,Sum.elim_inl];exact fin h l (by omega) ho hs hv
  ·rw[show decide (((3:Nat):Int)<4)=true from rfl,show aX ((3:Nat):Int) 4=true from rfl,show(((3:Nat):Int)==3)=true from rfl]
   simp only[aK,Bool.true_eq_false,Bool.false_eq_true,false_implies,true_implies,and_true,true_and]
   refine aeV (A:=Unit) (n:=0) (f:=f) (g:=g) (λh=> ?_) (λhs h l _ ho hv=> ?_)
   ·simp only[av,Sum.elim_inr];exact⟨3,by omega,h⟩
   ·rw[bB];refine⟨rfl,?_⟩;simp only[av,Sum.elim_inl];exact fin h l (by omega) ho hs hv
  ·rw[show decide (((4:Nat):Int)<4)=false from rfl]
   simp only[aK,av,Bool.false_eq_true,false_implies,true_implies,true_and,Sum.elim_inr]
   exact h4) 2000 d hd (by obtain⟨n,hn,h1,_⟩:=hd;omega)
theorem aQe (n:Nat)(hn:n<=100)(f g:Nat->Int)(w:Bool)(B:Int)(hB:0<=B)(hB2:B<=1329227995784915872903807060280344576)(h:∀j,j<n->okW (f j) (g j)∧ -B<=vW (f j) (g j)∧vW (f j) (g j)<=B):
  ∃a b,jk n f g w=some ((a,b),true)∧okW a b∧vW a b=xQ (λj=>vW (f j) (g j)) n:=by
 have key:∃x:Gq,Gr (((n,w),Int.ofNat n,0),(f,g),0,0)=some x∧(match x with
   |.inl _=>False
   |.inr e=>okW e.2.2.1 e.2.2.2∧vW e.2.2.1 e.2.2.2=xQ (λj=>vW (f j) (g j)) n):=by
  unfold Gr
  refine Yl (s:=BQ IN) (λt d=>∃(i:Nat) (a b:Int),i+t=n∧okW a b∧vW a b=xQ (λj=>vW (f j) (g j)) i∧d=(((n,w),Int.ofNat n,Int.ofNat i),(f,g),a,b)) _ (λt d=> ?_) 2000 n _ (by omega)
   ⟨0,0,0,by omega,⟨by omega,by omega,by omega,by omega⟩,rfl,rfl⟩
  rintro ⟨i,a,b,hi,ho,hv,rfl⟩
  rcases Nat.eq_zero_or_pos t with t0|t0
  ·have e:i=n:=by omega
   subst e
   simp only[BQ,bP,bJ,cm,eG,as2 (Nat.le_refl i),cond_false]
   exact⟨_,rfl,ho,hv⟩
  ·obtain⟨o1,b1,b2⟩:=h i (by omega)
   have bnd:=akk (λj=>vW (f j) (g j)) B hB i (λj hj=>(h j (by omega)).2)
   obtain⟨a2,b2',q,e,o2,c,v⟩:=avE a b (f i) (g i) ho o1
   have hmul:(i:Int)*B<=100*1329227995784915872903807060280344576:=by
    have:=Int.mul_le_mul (show(i:Int)<=100 by omega) hB2 hB (by omega)
    exact this
   have hq:q=true:=by rw[c,hv];omega
   subst hq
   have v:=v rfl
   have qq:Int.toNat (Int.ofNat i)=i:=rfl
   simp only[BQ,bP,bJ,cm,eG,wI,as1 hi t0,as3 (show i<n by omega),cond_true,qq,Option.bind_some,e,Bool.not_true,cond_false,as4 (show i<9000000000000000000 by omega)]
   exact⟨_,rfl,t-1,by omega,i+1,a2,b2',by omega,o2,by rw[v,hv];rfl,rfl⟩
 obtain⟨x,hx,hp⟩:=key
 simp only[jk,XP,bP,bJ,cm,eG,dL]
 rw[aM,cond_true,hx,Option.bind_some]
 cases x with
 |inl e=>exact hp.elim
 |inr e=>exact⟨e.2.2.1,e.2.2.2,rfl,hp.1,hp.2⟩
theorem aUe (x0 x1 x2 x3:Int):Ok (BU x0 x1 x2 x3) (λb:Bool=>b=true↔((∀j,j<4-> -1073741840<=yN x0 x1 x2 x3 j∧yN x0 x1 x2 x3 j<=1073741840)∧ -4294967296<=x0*x0+x1*x1+x2*x2+x3*x3-1152921504606846976∧x0*x0+x1*x1+x2*x2+x3*x3-1152921504606846976<=4294967296)):=by
 unfold BU ZN
 show PQ _ _
 rw[bB]
 refine⟨rfl,ay (aNG x0 x1 x2 x3 _ ⟨0,by omega,rfl,rfl,rfl,λj hj=>absurd hj (by omega)⟩) λx _ hx=> ?_⟩
 rw[r9]
 constructor
 ·rintro a rfl
  rw[av]
  obtain⟨j,hj,hs⟩:=hx
  exact⟨λh=>(by cases h),λh=>by have:=h.1 j hj;omega⟩
 ·rintro e rfl
  obtain⟨h1,h2⟩:=hx
  rw[aM,bB]
  refine⟨rfl,?_⟩
  have sm:∀j,j<4-> -1073741840<=yN x0 x1 x2 x3 j∧yN x0 x1 x2 x3 j<=1073741840:=λj hj=>(h2 j hj).1
  obtain⟨a,b,ea,oa,va⟩:=aQe 4 (by omega) e.2.2.1 e.2.2.2 true 1152921538966585600 (by omega) (by omega) (λj hj=>by
   obtain⟨s1,s2,s3⟩:=h2 j hj
   have:=abL s1
   exact⟨s2,by rw[s3];omega,by rw[s3];omega⟩)
  rw[h1,ea,bM]
  have s0:=abL (sm 0 (by omega))
  have s1:=abL (sm 1 (by omega))
  have s2:=abL (sm 2 (by omega))
  have s3:=abL (sm 3 (by omega))
  have vs:vW a b=x0*x0+x1*x1+x2*x2+x3*x3:=by
   rw[va]
   simp only[xQ,(h2 0 (by omega)).2.2,(h2 1 (by omega)).2.2,(h2 2 (by omega)).2.2,(h2 3 (by omega)).2.2]
   simp only[yN,if_true,if_neg (show ¬(1:Nat)=0 by omega),if_neg (show ¬(2:Nat)=0 by omega),if_neg (show ¬(2:Nat)=1 by omega),if_neg (show ¬(3:Nat)=0 by omega),if_neg (show ¬(3:Nat)=1 by omega),if_neg (show ¬(3:Nat)=2 by omega)]
   omega
  have t0:yN x0 x1 x2 x3 0=x0:=rfl
  have t1:yN x0 x1 x2 x3 1=x1:=rfl
  have t2:yN x0 x1 x2 x3 2=x2:=rfl
  have t3:yN x0 x1 x2 x3 3=x3:=rfl
  rw[t0] at s0;rw[t1] at s1;rw[t2] at s2;rw[t3] at s3
  generalize hS:x0*x0+x1*x1+x2*x2+x3*x3=S at*
  have r:=wide_round a b 0 (by omega) oa
  rw[aFG,vs,show Int.ofNat 0=0 from rfl,if_pos (by omega)] at r
  rw[r,bM]
  have hw:wI (S-1152921504606846976)=S-1152921504606846976:=ey (by omega) (by omega)
  simp only[hw,aK,av,true_implies,Bool.true_eq_false,false_implies,and_true,decide_eq_true_eq,decide_eq_false_iff_not,ge_iff_le]
  exact⟨λk=>⟨λm=>⟨sm,k,m⟩,λc=>c.2.2⟩,λk=>⟨λh=>(by cases h),λc=>absurd c.2.1 k⟩⟩
instance aZP (x0 x1 x2 x3:Int):bl (BU x0 x1 x2 x3):=(aUe x0 x1 x2 x3).tot
end Go.Proofs.YtldgljclcgaibaaGreat
namespace Go.Proofs.YtldgljclcgaibaaGreat
open Go.Ab Go.Ab.Pg
instance aUS (x0:Nat->Int)(x1:Bool):bl (bW x0 x1):=by
 unfold bW Z2
 exact aF (by simp only[bE])
instance aQf (x0:Int)(x1:Bool):bl (ji x0 x1):=by
 unfold ji MI
 exact aF (by simp only[bE])
instance aXk (x0:Int)(x1:Int)(x2:Int)(x3:Bool):bl (UR x0 x1 x2 x3):=by
 unfold UR aqd
 exact aF (by simp only[bE])
instance aUf (x0:Nat->Int)(x1:Int)(x2:Int)(x3:Int)(x4:Int)(x5:Int)(x6:Int)(x7:Int)(x8:Int)(x9:Bool):bl (tY x0 x1 x2 x3 x4 x5 x6 x7 x8 x9):=by
 unfold tY UT
 exact aF (by simp only[bE])
instance aUT (x0:Nat->Int)(x1:Int)(x2:Int)(x3:Int)(x4:Int)(x5:Int)(x6:Int)(x7:Int)(x8:Int)(x9:Bool):bl (tf x0 x1 x2 x3 x4 x5 x6 x7 x8 x9):=by
 unfold tf Z4
 try dsimp only
 exact aF (by simp only[bE])
theorem aCD (d:nJ.B)(hd:0<=d.1.2∧d.1.2<=3):Ok (Z6 d) (λx:BX=>True):=
 ba (s:=_) (λd:nJ.B=>0<=d.1.2∧d.1.2<=3) (λd:nJ.B=>Int.toNat (3-d.1.2)) (λx:BX=>True) (λd hd=>by
  have hw:wI (d.1.2+1)=d.1.2+1:=bg (by omega) (by omega)
  unfold Z5
  simp only[bE]
  simp only[nf,rN,hw]
  repeat' (first|exact True.intro|omega|(intro _)|(apply And.intro))) 2000 d hd (by omega)
instance aWx (x0:Int)(x1:Int)(x2:Int)(x3:Bool):bl (IX x0 x1 x2 x3):=by
 unfold IX aj1
 refine aF ?_
 rw[bu];intro d _
 rw[aK]
 refine⟨λ_=>by simp only[bE],λ_=> ?_⟩
 rw[bu];intro d1 _
 refine ay (aCD _ (by simp)) λd _ hd=> ?_
 simp only[bE]
theorem azp (d:mq.B)(hd:0<=d.1.2∧d.1.2<=24):Ok (Vb d) (λx:yK=>True):=
 ba (s:=_) (λd:mq.B=>0<=d.1.2∧d.1.2<=24) (λd:mq.B=>Int.toNat (24-d.1.2)) (λx:yK=>True) (λd hd=>by
  have hw:wI (d.1.2+1)=d.1.2+1:=bg (by omega) (by omega)
  unfold Va
  simp only[bE]
  simp only[nf,rN,hw]
  repeat' (first|exact True.intro|omega|(intro _)|(apply And.intro))) 2000 d hd (by omega)
instance aVu (x0:Nat->Int)(x1:Int)(x2:Bool):bl (Ks x0 x1 x2):=by
 unfold Ks aeL
 refine aF ?_
 rw[bu];intro d1 _
 refine ay (azp _ (by simp)) λd _ hd=> ?_
 simp only[av]
theorem aqm (d:iM.B)(hd:0<=d.1.2∧d.1.2<=24):Ok (Ku d) (λx:qW=>True):=
 ba (s:=_) (λd:iM.B=>0<=d.1.2∧d.1.2<=24) (λd:iM.B=>Int.toNat (24-d.1.2)) (λx:qW=>True) (λd hd=>by
  have hw:wI (d.1.2+1)=d.1.2+1:=bg (by omega) (by omega)
  unfold Kt
  simp only[bE]
  simp only[nf,rN,hw]
  repeat' (first|exact True.intro|omega|(intro _)|(apply And.intro))) 2000 d hd (by omega)
theorem aqn (a b:Int)(d:iN.B)(hd:0<=d.1.2.2.2.2∧d.1.2.2.2.2<=d.1.2.2.2.1∧d.1.2.2.2.1<=1999∧d.1.1=a∧d.1.2.2.1=b∧(d.1.2.1:Int)=d.1.2.2.2.2∧d.1.2.2.2.1=a+1):Ok (Kw d) (λx:qX=>x.1.1=a∧x.1.2.2.1=b∧(x.1.2.1:Int)=a+1):=
 ba (s:=_) (λd:iN.B=>0<=d.1.2.2.2.2∧d.1.2.2.2.2<=d.1.2.2.2.1∧d.1.2.2.2.1<=1999∧d.1.1=a∧d.1.2.2.1=b∧(d.1.2.1:Int)=d.1.2.2.2.2∧d.1.2.2.2.1=a+1) (λd:iN.B=>Int.toNat (d.1.2.2.2.1-d.1.2.2.2.2)) (λx:qX=>x.1.1=a∧x.1.2.2.1=b∧(x.1.2.1:Int)=a+1) (λd hd=>by
  have hw:wI (d.1.2.2.2.2+1)=d.1.2.2.2.2+1:=bg (by omega) (by omega)
  unfold Kv
  simp only[bE]
  simp only[nf,rN,hw]
  repeat' (first|exact True.intro|omega|(intro _)|(apply And.intro))) 2000 d hd (by omega)
theorem aqo (d:iO.B)(hd:0<=d.1∧d.1<=24):Ok (Ky d) (λx:qY=>True):=
 ba (s:=_) (λd:iO.B=>0<=d.1∧d.1<=24) (λd:iO.B=>Int.toNat (24-d.1)) (λx:qY=>True) (λd hd=>by
  unfold Kx
  try dsimp only
  rw[aK]
  refine⟨λh=> ?_,λ_=>by simp only[av,Sum.elim_inr]⟩
  have h:=of_decide_eq_true h
  have hw:wI (d.1+1)=d.1+1:=bg (by omega) (by omega)
  rw[bB,hw]
  refine⟨rfl,ay (aqn d.1 d.1 _ (by dsimp only;omega)) λx _ hx=> ?_⟩
  obtain⟨a1,a2,a3⟩:=hx
  have hn:x.1.2.1=Int.toNat (d.1+1):=by omega
  have td:=λa b c=>KI (Int.toNat (d.1+1)) (by omega) a b c false true
  simp only[a1,a2,hw,hn]
  simp only[bE]
  simp only[nf,rN]
  repeat' (first|exact True.intro|omega|(intro _)|(apply And.intro))) 2000 d hd (by omega)
instance aQP (x0:Nat->Int)(x1:Nat->Int)(x2:Nat->Int)(x3:Int)(x4:Bool):bl (rC x0 x1 x2 x3 x4):=by
 unfold rC QJ
 try dsimp only
 refine aF ?_
 rw[bu];intro d1 _
 refine ay (aqm _ (by simp)) λd _ hd=> ?_
 rw[bu];intro d2 _
 refine ay (aqo _ (by simp)) λd _ hd=> ?_
 simp only[av]
instance aIz (x0:Nat->Int)(x1:Nat->Int)(x2:Nat->Int)(x3:Int)(x4:Bool):bl (oK x0 x1 x2 x3 x4):=by
 unfold oK Ce
 exact aF (by simp only[bE])
instance aWy (x0:Int)(x1:Int)(x2:Int)(x3:Int):bl (OS x0 x1 x2 x3):=by
 unfold OS aj8
 exact aF (by simp only[bE])
theorem ako (a b:Int)(d:gm.B)(hd:0<=d.1.2.2.2.2∧d.1.2.2.2.2<=d.1.2.2.2.1∧d.1.2.2.2.1<=1999∧d.1.1=a∧d.1.2.2.1=b∧d.1.2.2.2.1=a∧0<=a∧a<24):Ok (FE d) (λx:od=>x.1.2.2.1=b):=
 ba (s:=_) (λd:gm.B=>0<=d.1.2.2.2.2∧d.1.2.2.2.2<=d.1.2.2.2.1∧d.1.2.2.2.1<=1999∧d.1.1=a∧d.1.2.2.1=b∧d.1.2.2.2.1=a∧0<=a∧a<24) (λd:gm.B=>Int.toNat (d.1.2.2.2.1-d.1.2.2.2.2)) (λx:od=>x.1.2.2.1=b) (λd hd=>by
  have hw:wI (d.1.2.2.2.2+1)=d.1.2.2.2.2+1:=bg (by omega) (by omega)
  unfold FD
  simp only[bE]
  simp only[nf,rN,hw]
  repeat' (first|exact True.intro|omega|(intro _)|(apply And.intro))) 2000 d hd (by omega)
theorem akp (d:gq.B)(hd:0<=d.1∧d.1<=24):Ok (FG d) (λx:oe=>True):=
 ba (s:=_) (λd:gq.B=>0<=d.1∧d.1<=24) (λd:gq.B=>Int.toNat (24-d.1)) (λx:oe=>True) (λd hd=>by
  have hw:wI (d.1+1)=d.1+1:=bg (by omega) (by omega)
  unfold FF
  simp only[bE]
  simp only[nf,rN,hw]
  repeat' (first|exact True.intro|omega|(intro _)|(apply And.intro))) 2000 d hd (by omega)
theorem akq (d:gr.B)(hd:0<=d.1∧d.1<=24):Ok (FI d) (λx:og=>True):=
 ba (s:=_) (λd:gr.B=>0<=d.1∧d.1<=24) (λd:gr.B=>Int.toNat (24-d.1)) (λx:og=>True) (λd hd=>by
  unfold FH
  try dsimp only
  rw[aK]
  refine⟨λh=> ?_,λ_=>by simp only[av,Sum.elim_inr]⟩
  have h:=of_decide_eq_true h
  have hw:wI (d.1+1)=d.1+1:=bg (by omega) (by omega)
  iterate 4 (rw[bB];refine⟨by simp only[nf,rN,hw];omega,?_⟩)
  iterate 2 (rw[bu];intro _ _)
  iterate 5 (rw[bB];refine⟨by simp only[nf,rN,hw];omega,?_⟩)
  rw[bu];intro _ _
  iterate 4 (rw[bB];refine⟨by simp only[nf,rN,hw];omega,?_⟩)
  refine ay (ako d.1 d.1 _ (by dsimp only;omega)) λx _ hx=> ?_
  simp only[av,Sum.elim_inl,hx,hw]
  omega) 2000 d hd (by omega)
theorem aqp (d:iP.B)(hd:0<=d.1.2∧d.1.2<=24):Ok (KB d) (λx:rb=>True):=
 ba (s:=_) (λd:iP.B=>0<=d.1.2∧d.1.2<=24) (λd:iP.B=>Int.toNat (24-d.1.2)) (λx:rb=>True) (λd hd=>by
  have hw:wI (d.1.2+1)=d.1.2+1:=bg (by omega) (by omega)
  unfold KA
  simp only[bE]
  simp only[nf,rN,hw]
  repeat' (first|exact True.intro|omega|(intro _)|(apply And.intro))) 2000 d hd (by omega)
instance aQQ (x0:Nat->Int)(x1:Int)(x2:Bool):bl (Bu x0 x1 x2):=by
 unfold Bu QL
 refine aF ?_
 refine ay (aqp _ (by simp)) λd _ hd=> ?_
 simp only[bE]
end Go.Proofs.YtldgljclcgaibaaGreat
noncomputable section
namespace Go.Proofs.YtldgljclcgaibaaGreat
open Go.Ab Go.Ab.Pg Go.Ab.Rq
def OV:=qa (dp (cu aP (c jX (c yi (cl aOg nil)))) λa=>(c uV (cl (cl (gs a.b.1 aGD) nil) nil)))
def aHH:=qe (res (pr (py (c ac3 (c ah8 (cl (rc (il (pu rq4 (pu yg (pl jQ (pu rq7 iy)))))) nil)))) (pr L4 (cl aL6 nil))))
abbrev Ym:=((NI×(NI×NI)×Nat)×Bool×(Nat->Bool)×NI×NI)
def axJ:Ym->T:=λd=>lf aHH (d.1,d.2.1,d.1.b,d.b)
abbrev axK:=OV.B->Option Ym
def axL (g:axK):Ct:=(254,sW 3 [.i .i64,.i .i64,.i .i64,.i .i64,.i .i64,.i .i64,.i .i64,.i .i64,.i .i64,.i .i64,.i .i64,.i .i64,.i .i64,.i .i64,.i .i64,.i .i64,.i .i64,.i .i64,.i .i64,.i .i64,.i .i64,.i .i64,.i .i64,.i .i64,.i .i64,.i .i64,.i .i64] (FC OV axJ g))
def nM:=qs (st (dp (cu aP (us 4 (cu Cw (cu aEU (us 1 (cu am5 (cu (app 5 300) (us 1 (c aSg (us 3 (c aOg aLN))))))))))) λa=>(pl (c cj (c (so (cl (gs a.2.1.1 aGD) nil)) (c mA (c hI (c mA (c hI (cl (so (cl (gs a.1 apx) nil)) nil))))))) cA)))
def aEf:=qs (st (pr (cu aP (us 4 (cu Cw (cu aEU (us 1 (cu am5 (cu (app 5 300) (us 1 (c aSg (us 3 (c aOg aLT))))))))))) (pl (c cj (c (so (cl (ga (pr jQ aGD)) nil)) (c mA (c hI (c mA (c hI aSb)))))) cA)))
abbrev BZ:=((Nat×(Nat×Bool)×Int×Int×Bool)×Bool×(NI×NI×NI×NI×NI×NI×NI×NI×NI×NI×NI×NI×NI×NI×NI×NI×NI×NI×NI×NI×NI×NI×NI×NI×NI×NI×NI)×NI×(NI×NI)×NI×(NI×NI)×(Nat->Bool)×NI×NI)
def aoo {ρ:Type}(x:BZ)(K:AX->St->Option ρ):Option ρ:=(λd=>K (.ex 0) (aEf.em (d.1,d.2.1,(d.1.2.1.1,d.b.1),d.b.2.1,d.c.1,d.c.2.1,d.c.b.1,d.1.1,d.c.b.2))) x
def Z9 (aKu:aki)(d:nM.B):PL nM BZ:=let aY:=d.1.1;let n5:=d.1.2.2;let n4:=d.2.2;let n7:=n4.2.2;let n3:=n4.1.2.2.2.2;let n8:=n3.2.2.2;let n1:=n8.2.2.2.2;let n9:=n1.2.2.2;let n2:=n9.2.2.2.2;let n6:=n2.2.2.2.2;let y0:=Int.toNat n5.2;let y1:=aY+1;let y2:=decide (n5.2<n5.1);ae y2 (ae (aX n5.2 d.1.2.1.1) (opt (aKu n4.2.1 n7.1.1 n7.1.2 (cr (n4.1.1 y0) [n6.2.1 y0,n6.1 y0,n2.2.2.2.1 y0,n2.2.2.1 y0,n2.2.1 y0,n2.1 y0,n9.2.2.2.1 y0,n9.2.2.1 y0,n9.2.1 y0,n9.1 y0,n1.2.2.1 y0,n1.2.1 y0,n1.1 y0,n8.2.2.2.1 y0,n8.2.2.1 y0,n8.2.1 y0,n8.1 y0,n3.2.2.1 y0,n3.2.1 y0,n3.1 y0,n4.1.2.2.2.1 y0,n4.1.2.2.1 y0,n4.1.2.1 y0,n4.1.1 y0]) (n6.2.2.1 y0) (n6.2.2.2.1 y0) (n6.2.2.2.2 y0) d.2.1) λaj=>ae (Nat.ble (y1*24) 140737488355328) (ret (Sum.inl ((y1,d.1.2.1,n5.1,wI (n5.2+1)),aj.2,n4.1,aj.1.1,aj.1.2.1,n7.2.1,n7.2.2.1,λj=>bif Nat.beq j aY then aj.1.2.2.1 else n7.2.2.2.1 j,λj=>bif Nat.beq j aY then aj.1.2.2.2.1 else n7.2.2.2.2.1 j,λj=>bif Nat.beq j aY then aj.1.2.2.2.2 else n7.2.2.2.2.2 j))) no) no) (ret (Sum.inr ((aY,d.1.2.1,n5.1,n5.2,y2),d.2)))
def Z':=bD (Z9 OT) 2000
def akr (dG:LT nM BZ)(x:OV.B):Pg Ym:=ae (Nat.beq x.1.2.2.1 x.1.2.2.1) (ae true (opt (dG ((0,x.1.2.2,Int.ofNat x.1.2.2.1,0),x.2.1,x.2.2,x.1.1,x.1.2.1,λx=>0,(λx=>0,λx=>0),λx=>false,λx=>0,λx=>0)) λd=>ret ((d.2.2.2.1,d.2.2.2.2.1,d.1.1),d.2.1,d.2.2.2.2.2.2.2)) no) no
def OW:=λx=>(akr Z' x).val
abbrev Yn:=aki×(LT nM BZ)
def aks (p:Yn):KK:=⟨[axH p.1],⟨[⟨3,(rg 1 4 (7::10::12::13::14::rg 18 20 [])),[(11,[.b,.i .i64,.i .i64])]⟩],[fx 3 2 nM aoo p.2],[0],[],(some ⟨0,(rg 0 8 (rg 11 27 [])),[]⟩)⟩,2,254⟩
theorem aCE (p:Yn):LI (aks p) 3 nM aoo (Z9 p.1):=λ_ d c K=>by kernel_rfl
theorem aKv (p:Yn):D2 (aks p) OV axJ λb=>akr p.2 b:=λb=>by kernel_rfl
abbrev akt:Yn:=(OT,Z')
theorem aKw [ax]:SC (axL OW):=sc (Sound.nil 3 [.i .i64,.i .i64,.i .i64,.i .i64,.i .i64,.i .i64,.i .i64,.i .i64,.i .i64,.i .i64,.i .i64,.i .i64,.i .i64,.i .i64,.i .i64,.i .i64,.i .i64,.i .i64,.i .i64,.i .i64,.i .i64,.i .i64,.i .i64,.i .i64,.i .i64,.i .i64,.i .i64]<|kS (k:=aks akt) (.c aKn (.nil _)) [3] [] ⟨kL (aCE akt),trivial⟩ trivial (aKv akt))
def aoq:=qa (dp (cl aQ9 nil) λa=>(cl (cl (gs a.1 apx) nil) nil))
def Vh:=qe aR8
abbrev aor:=Vh.B
abbrev aaa:=Nat->(Nat->Bool)->NI->NI->Bool->Option aor
def aab (g:aaa):Ct:=(255,sW 0 [.b,.i .i64,.i .i64] (FC aoq (lf Vh) (λb=>g b.1.1 b.2.1 b.b.1 b.b.2 b.1.2)))
def kR:=qs (st (dp (us 2 (c ai (c ai (us 2 (c aQ9 (c ai aRk)))))) λa=>(pl (cl (so (cl (gs a.b.1.1 apx) nil)) nil) nil)))
def azq:=qs (st (pr (us 2 (c ai (c ai (us 2 (c aQ9 (c ai aRz)))))) (pl aSb nil)))
abbrev vN:=((Int×Int×(Nat×Bool)×Int×Int×Bool)×(Nat->Bool)×NI×NI)
def agC {ρ:Type}(x:vN)(K:AX->St->Option ρ):Option ρ:=(λd=>K (.ex 0) (azq.em (d.1,d.1.b.1.1,d.2))) x
def QO (d:kR.B):PL kR vN:=let n1:=d.1.2.2;let n2:=n1.2.2;let y0:=decide (n2<n1.2.1);ae y0 (ae (aX n2 n1.1.1) (ae (d.2.1 (Int.toNat n2)) (ret (Sum.inl ((wI (d.1.1+1),d.1.2.1,n1.1,n1.2.1,wI (n2+1)),d.2))) (ret (Sum.inl ((d.1.1,wI (d.1.2.1+1),n1.1,n1.2.1,wI (n2+1)),d.2)))) no) (ret (Sum.inr ((d.1.1,d.1.2.1,n1.1,n1.2.1,n2,y0),d.2)))
def QP:=bD (QO) 2000
def aac (dG:LT kR vN)(x0:Nat)(x1:Nat->Bool)(x2:Nat->Int)(x3:Nat->Int)(w0:Bool):Pg aor:=ae (Nat.beq x0 x0) (opt (dG ((0,0,(x0,w0),Int.ofNat x0,0),x1,x2,x3)) λd=>ret (d.1.1,d.1.2.1)) no
def xi:=λx0 x1 x2 x3 w0=>(aac QP x0 x1 x2 x3 w0).val
abbrev Oa:=(LT kR vN)
def aad (p:Oa):KK:=⟨[],⟨[⟨2,(0::1::4::5::rg 9 12 []),[]⟩],[fx 2 1 kR agC p],[],[],(some ⟨0,(0::1::rg 4 17 []),[]⟩)⟩,1,255⟩
theorem avJ (p:Oa):LI (aad p) 2 kR agC (QO):=λ_ d c K=>by kernel_rfl
theorem aEg (p:Oa):D2 (aad p) aoq (lf Vh) λb=>aac p b.1.1 b.2.1 b.b.1 b.b.2 b.1.2:=λb=>by kernel_rfl
abbrev aae:Oa:=QP
theorem aos [ax]:SC (aab xi):=sc (Sound.nil 0 [.b,.i .i64,.i .i64]<|kS (k:=aad aae) (.nil _) [2] [] ⟨kL (avJ aae),trivial⟩ trivial (aEg aae))
def abM:=qa (pu nil nil)
def KL:=qe (res (pu (aa (cu auu (cu aS aGE))) (pu nil nil)))
abbrev MQ:=KL.B
abbrev kT:=Option MQ
def o8 (g:kT):Ct:=(48,FC abM (lf KL) (λ_=>g))
def MR (gM:zy):Pg MQ:=opt gM λd=>ret ()
def dH:Option MQ:=(MR mJ).val
theorem avK:∀gM,D0 [IT gM] 48 abM (lf KL) λb=>MR gM:=λ_ b=>by kernel_rfl
theorem tG [ax]:SC (o8 dH):=s0 (.c OO (.nil _)) (avK mJ)
def aot:=qa (dp (cu aP (cl aRa nil)) λa=>(c uV (cl (cl (gs a.1 jq) nil) nil)))
def Vi:=qe (res (pr (aa aMf) (pl L4 nil)))
abbrev aou:=Vi.B
abbrev aaf:=Nat->Bool->NI->NI->NI->NI->NI->NI->NI->NI->NI->NI->Bool->Option aou
def aov (g:aaf):Ct:=(113,sW 1 [.i .i64,.i .i64,.i .i64,.i .i64,.i .i64,.i .i64,.i .i64,.i .i64,.i .i64,.i .i64] (FC aot (lf Vi) (λb=>g b.1.1 b.2.1 b.b.1 b.b.2.1 b.c.1 b.c.2.1 b.c.b.1 b.c.b.2.1 b.d.1 b.d.2.1 b.d.b.1 b.d.b.2 b.1.2)))
def kU:=qs (st (dp (cu aP (us 3 (cu (app 2 10) (cu (app 3 10) (c aSh (c aSi (us 3 (c aRa (c ai aRl))))))))) λa=>(pl (c cj (c (so (cl (gs a.b.1.1 jq) nil)) (cu aSW (c aSQ (c (so (cl (gs a.1 apw) nil)) (cl aAC nil)))))) cA)))
def azr:=qs (st (pr (cu aP (us 3 (cu (app 2 10) (cu (app 3 10) (c aSh (c aSi (us 3 (c aRa (c ai aRA))))))))) (pl (c cj (c uZ (cu aSW (c aSQ (c aAC (cl aAC nil)))))) cA)))
abbrev vO:=((Nat×Nat×(Nat×Bool)×Int×Int×Bool)×Bool×aN4×aER×(NI×NI×NI)×Nat×NI×NI×NI)
def agD {ρ:Type}(x:vO)(K:AX->St->Option ρ):Option ρ:=(λd=>K (.ex 0) (azr.em (d.1,d.2.1,(d.1.b.1.1,d.b.1),d.b.2.1,(d.1.1,d.c.1),d.c.2))) x
def QQ (ew:wj)(bn:gQ)(d:kU.B):PL kU vO:=let n6:=d.1.1;let n2:=d.1.2;let n4:=n2.2.2;let n1:=d.2.2;let n5:=n1.2.2;let n3:=n1.1.2.2.2.2;let y0:=n6+1;let y1:=Int.toNat n4.2;let y2:=n2.1+1;let y3:=decide (n4.2<n4.1);ae y3 (ae (aX n4.2 n2.2.1.1) (opt (ew (n1.1.1 y1) (n1.1.2.1 y1) (n1.1.2.2.1 y1) (n1.1.2.2.2.1 y1) n1.2.1.1 n1.2.1.2.1 n1.2.1.2.2.1 n1.2.1.2.2.2 d.2.1) λaj=>opt (bn aj.1.1 aj.1.2.1 aj.1.2.2.1 aj.1.2.2.2 aj.2) λaI=>ae (Nat.ble (y0*24) 140737488355328) (ae (Nat.ble (y2*24) 140737488355328) (ret (Sum.inl ((y0,y2,n2.2.1,n4.1,wI (n4.2+1)),aI.2,n1.1,aI.1,(λj=>bif Nat.beq j n6 then n3.1 y1 else n5.1.1 j,λj=>bif Nat.beq j n6 then n3.2.1 y1 else n5.1.2.1 j,λj=>bif Nat.beq j n6 then n3.2.2.1 y1 else n5.1.2.2 j),y2,λj=>bif Nat.beq j n2.1 then n3.2.2.2.1 y1 else n5.2.2.1 j,λj=>bif Nat.beq j n2.1 then n3.2.2.2.2.1 y1 else n5.2.2.2.1 j,λj=>bif Nat.beq j n2.1 then n3.2.2.2.2.2 y1 else n5.2.2.2.2 j))) no) no) no) (ret (Sum.inr ((n6,n2.1,n2.2.1,n4.1,n4.2,y3),d.2)))
def QR:=bD (QQ ke cW) 2000
def aag (bU:kT)(dm:z8)(dG:LT kU vO)(x0:Nat)(x1:Bool)(x2:Nat->Int)(x3:Nat->Int)(x4:Nat->Int)(x5:Nat->Int)(x6:Nat->Int)(x7:Nat->Int)(x8:Nat->Int)(x9:Nat->Int)(fP:Nat->Int)(fQ:Nat->Int)(w0:Bool):Pg aou:=opt bU λd=>ae (Nat.beq x0 x0) (ae true (opt (dG ((0,0,(x0,w0),Int.ofNat x0,0),x1,(x2,x3,x4,x5,x6,x7,x8,x9,fP,fQ),(1073741824,0,0,0),(λx=>0,λx=>0,λx=>0),0,λx=>0,λx=>0,λx=>0)) λd=>let n1:=d.2.2.2;ae (Nat.beq d.1.1 d.1.1) (opt (dm d.1.1 d.2.1 n1.2.1.1 n1.2.1.2.1 n1.2.1.2.2 true) λaj=>ae (Nat.beq d.1.2.1 d.1.2.1) (opt (dm d.1.2.1 aj.2 n1.2.2.2.1 n1.2.2.2.2.1 n1.2.2.2.2.2 true) λaI=>ret ((n1.1.1,n1.1.2.1,n1.1.2.2.1,n1.1.2.2.2,aj.1.1,aj.1.2.1,aj.1.2.2,aI.1),aI.2)) no) no) no) no
def Gy:=λx0 x1 x2 x3 x4 x5 x6 x7 x8 x9 fP fQ w0=>(aag dH jr QR x0 x1 x2 x3 x4 x5 x6 x7 x8 x9 fP fQ w0).val
abbrev Ob:=kT×wj×gQ×z8×(LT kU vO)
def aah (p:Ob):KK:=⟨[o8 p.1,Dp p.2.1,ml p.b.1,HZ p.b.2.1],⟨[⟨4,(1::2::3::8::9::10::rg 14 32 []),[(6,[.i .i64,.i .i64,.i .i64]),(7,[.i .i64,.i .i64,.i .i64])]⟩],[fx 4 2 kU agD p.c],[0],[],(some ⟨0,(rg 0 4 (rg 5 41 [])),[]⟩)⟩,2,113⟩
theorem avL (p:Ob):LI (aah p) 4 kU agD (QQ p.2.1 p.b.1):=λ_ d c K=>by kernel_rfl
theorem aEh (p:Ob):D2 (aah p) aot (lf Vi) λb=>aag p.1 p.b.2.1 p.c b.1.1 b.2.1 b.b.1 b.b.2.1 b.c.1 b.c.2.1 b.c.b.1 b.c.b.2.1 b.d.1 b.d.2.1 b.d.b.1 b.d.b.2 b.1.2:=λb=>by kernel_rfl
abbrev aai:Ob:=(dH,ke,cW,jr,QR)
theorem aEi [ax]:SC (aov Gy):=sc (Sound.nil 1 [.i .i64,.i .i64,.i .i64,.i .i64,.i .i64,.i .i64,.i .i64,.i .i64,.i .i64,.i .i64]<|kS (k:=aah aai) (.c tG (.c IU (.c nI (.c MB (.nil _))))) [4] [] ⟨kL (avL aai),trivial⟩ trivial (aEh aai))
def ata:=qa (pr (cu aP (c jX (c yi wZ))) bA)
def aaj:=qe (res (pr (py (c ac3 (c ah8 (cl (ra (c gi (c gi (c gi (cl gi (cu aS (cu aS (cu aS (cu aS (cu aS (cu aS (cu (gc auq) nil)))))))))))) nil)))) (pl lk nil)))
abbrev atb:=aaj.B
abbrev atc:=NI->NI->NI->Int->Int->Bool->Option atb
def atd (g:atc):Ct:=(221,FC ata (lf aaj) (λb=>g b.1.1 b.1.2.1.1 b.1.2.1.2 b.1.b.1 b.1.b.2 b.2))
def aeW (aN:eN)(bU:kT)(KM:ajN)(bd:dy)(ew:wj)(bn:gQ)(cG:xd)(bN:fm)(x0:Nat->Int)(x1:Nat->Int)(x2:Nat->Int)(x3:Int)(x4:Int)(x5:Bool):Pg atb:=opt (aN x0 x5) λd=>opt bU λaj=>opt (KM x3 d.2) λaI=>opt (bd d.1) λbz=>opt (ew aI.1.1 aI.1.2.1 aI.1.2.2.1 aI.1.2.2.2 bz.1 bz.2.1 bz.2.2.1 bz.2.2.2 aI.2) λcq=>opt (bn cq.1.1 cq.1.2.1 cq.1.2.2.1 cq.1.2.2.2 cq.2) λeo=>opt (cG d.1 0 4 (cr eo.1.1 [eo.1.2.2.2,eo.1.2.2.1,eo.1.2.1,eo.1.1]) false) λd=>opt (aN d eo.2) λd=>opt (bN x1 x2 0 4 d.2 (cr x4 [x4,x4,x4,x4]) true) λcJ=>ret ((d.1,cJ.1,aI.1),cJ.2)
def KN:=λx0 x1 x2 x3 x4 x5=>(aeW bW dH Dn bY ke cW fM cP x0 x1 x2 x3 x4 x5).val
theorem aHI:∀aN bU KM bd ew bn cG bN,D0 [iw aN,o8 bU,ajO KM,iL bd,Dp ew,ml bn,BT cG,yJ bN] 221 ata (lf aaj) λb=>aeW aN bU KM bd ew bn cG bN b.1.1 b.1.2.1.1 b.1.2.1.2 b.1.b.1 b.1.b.2 b.2:=λ_ _ _ _ _ _ _ _ b=>by kernel_rfl
theorem aHJ [ax]:SC (atd KN):=s0 (.c jh (.c tG (.c aCk (.c jC (.c IU (.c nI (.c Gv (.c Dr (.nil _))))))))) (aHI bW dH Dn bY ke cW fM cP)
def aku:=qa (dp (cu aP (c jX aLP)) λa=>(c uV (cl (cl (gs a.b.1 mF) nil) nil)))
def azs:=qe (res (pr (py (c ac3 (cl (rc (il (pu rq4 (pu yg (pl jQ (pu B8 iy)))))) nil))) (pr L4 (cl aGo nil))))
abbrev Vj:=((NI×Nat)×Bool×NI)
def akv:Vj->T:=λd=>lf azs (d.1,d.2.1,d.1.2,d.b)
abbrev KO:=NI->Int->Nat->Bool->NI->Bool->Option Vj
def KP (g:KO):Ct:=(263,sW 3 [.i .i64] (FC aku akv (λb=>g b.1.1 b.1.2.1 b.1.b.1 b.2.1 b.b b.1.b.2)))
def jE:=qs (st (dp (cu aP (us 1 (c ai (us 2 (cu Cw (us 2 (cu afR (us 1 (cu am5 (c aSj (us 3 (c Gh (c ai (cl ai (us 39 nil))))))))))))))) λa=>(pl (c cj (c (so (cl (gs a.b.1.1 mF) nil)) (c mA (c mA (c mA (cl (so (cl (gs a.2.1 mF) nil)) nil)))))) cA)))
def avM:=qs (st (pr (cu aP (us 1 (c ai (us 2 (cu Cw (us 2 (cu afR (us 1 (cu am5 (c aSj (us 3 (c Gh (c ai (c ai aRm)))))))))))))) (pl (c cj (c HL (c mA (c mA (c mA ah7))))) cA)))
abbrev tH:=((Int×Nat×(Nat×Bool)×Int×Int×Bool)×Bool×NI×NI×NI×Bq×NI)
def abN {ρ:Type}(x:tH)(K:AX->St->Option ρ):Option ρ:=(λd=>K (.ex 0) (avM.em (d.1,d.2.1,(d.1.b.1.1,d.b.1),d.b.2.1,d.c.1,d.c.2.1,d.1.2.1,d.c.b))) x
def MS (aE:bS)(aV:cQ)(d:jE.B):PL jE tH:=let n2:=d.2.2.2;let n1:=d.1.2.2;let n3:=n1.2.2;let y0:=d.1.2.1+1;let y1:=wI (d.1.1+n3);let y2:=Int.toNat y1;let y3:=aX y1 24;let y4:=decide (n3<n1.2.1);ae y4 (ae (aX n3 n1.1.1) (ae y3 (ae y3 (opt (aE (d.2.2.1 (Int.toNat n3)) (wI (0-n2.2.2.1 y2)) (n2.2.2.1 y2) d.2.1) λaj=>ae y3 (opt (aV aj.1 (n2.1 y2) aj.2) λaI=>ae (Nat.ble (y0*8) 140737488355328) (ae y3 (ae (true&&Nat.ble (0+y2*1+1) 24) (ret (Sum.inl ((d.1.1,y0,n1.1,n1.2.1,wI (n3+1)),aI.2,d.2.2.1,λj=>bif Nat.beq j y2 then aj.1 else n2.1 j,n2.2.1,n2.2.2.1,λj=>bif Nat.beq j d.1.2.1 then aI.1 else n2.2.2.2 j))) no) no) no) no) no) no) no) (ret (Sum.inr ((d.1.1,d.1.2.1,n1.1,n1.2.1,n3,y4),d.2)))
def MT:=bD (MS aZ bH) 2000
def Vk (QE:Br)(aN:eN)(dG:LT jE tH)(x0:Nat->Int)(x1:Int)(x2:Nat)(x3:Bool)(x4:Nat->Int)(w0:Bool):Pg Vj:=opt QE λd=>ae (Nat.beq x2 x2) (ae true (opt (dG ((x1,0,(x2,w0),Int.ofNat x2,0),x3,x4,x0,λx=>0,d,λx=>0)) λd=>opt (aN d.2.2.2.1 d.2.1) λaj=>ret ((aj.1,d.1.2.1),aj.2,d.2.2.2.2.2.2)) no) no
def iZ:=λx0 x1 x2 x3 x4 w0=>(Vk rB bW MT x0 x1 x2 x3 x4 w0).val
abbrev KQ:=Br×bS×cQ×eN×(LT jE tH)
def Vl (p:KQ):KK:=⟨[QB p.1,du p.2.1,gE p.b.1,iw p.b.2.1],⟨[⟨4,(1::3::4::6::7::9::12::13::14::rg 18 39 []),[(11,[.i .i64])]⟩],[fx 4 2 jE abN p.c],[0],[],(some ⟨0,(rg 0 8 (rg 10 47 [])),[]⟩)⟩,2,263⟩
theorem ate (p:KQ):LI (Vl p) 4 jE abN (MS p.2.1 p.b.1):=λ_ d c K=>by kernel_rfl
theorem aCF (p:KQ):D2 (Vl p) aku akv λb=>Vk p.1 p.b.2.1 p.c b.1.1 b.1.2.1 b.1.b.1 b.2.1 b.b b.1.b.2:=λb=>by kernel_rfl
abbrev Vm:KQ:=(rB,aZ,bH,bW,MT)
theorem Vn [ax]:SC (KP iZ):=sc (Sound.nil 3 [.i .i64]<|kS (k:=Vl Vm) (.c agu (.c dM (.c iu (.c jh (.nil _))))) [4] [] ⟨kL (ate Vm),trivial⟩ trivial (aCF Vm))
def akw:=qa (pr (cu (app 0 2) wZ) (cd (c (gc (wY 1 1)) (cl (gc (wY 2 1)) nil)) λb0=>(c (cl (gs b0.1 mF) nil) (cl (cl (gs b0.2 mF) nil) nil))))
def azt:=qe (res (pu Tl (pr (cl (zM (c (gc (wY 3 1)) (cl (gc (wY 4 1)) nil))) (cu Tn aIP)) (c aGo (cl aGo nil)))))
abbrev Vo:=((Nat×Nat)×NI×NI)
def akx:Vo->T:=λd=>lf azt (d.1,(d.1.1,d.2.1),d.1.2,d.b)
abbrev Vp:=Int->Int->Nat->Nat->NI->NI->Option Vo
def aky (g:Vp):Ct:=(247,FC akw akx (λb=>g b.1.1 b.1.2 b.2.1.1 b.2.1.2 b.b.1 b.b.2))
def Vq (x0:Int)(x1:Int)(x2:Nat)(x3:Nat)(x4:Nat->Int)(x5:Nat->Int):Pg Vo:=let y0:=x2+2;let y1:=x3+2;ae (Nat.ble (y0*8) 140737488355328) (ae (Nat.ble (y1*8) 140737488355328) (ret ((y0,y1),λj=>bif Nat.beq j (x2+1) then x0 else bif Nat.beq j x2 then x0 else x4 j,λj=>bif Nat.beq j (x3+1) then x1 else bif Nat.beq j x3 then x1 else x5 j)) no) no
def lS:=λx0 x1 x2 x3 x4 x5=>(Vq x0 x1 x2 x3 x4 x5).val
theorem aCG:D0 [] 247 akw akx λb=>Vq b.1.1 b.1.2 b.2.1.1 b.2.1.2 b.b.1 b.b.2:=λb=>by kernel_rfl
theorem aCH [ax]:SC (aky lS):=s0 (.nil _) aCG
def aow:=qa (pr (cu aP (c ac6 Ft)) bA)
def Vr:=qe (res (pr (aa aMk) (pl lk nil)))
abbrev aox:=Vr.B
abbrev Gz:=Int->Int->Int->Int->Int->Int->Int->Bool->Option aox
def aak (g:Gz):Ct:=(218,FC aow (lf Vr) (λb=>g b.1.1.1 b.1.1.2.1 b.1.1.b.1 b.1.1.b.2 b.1.2.1 b.1.b.1 b.1.b.2 b.2))
def aal (aw:bG)(Dq:Mv)(bb:Vp)(bf:ee)(x0:Int)(x1:Int)(x2:Int)(x3:Int)(x4:Int)(x5:Int)(x6:Int)(x7:Bool):Pg aox:=opt (aw x0 x7) λd=>let y0:=wI (0-d.1);opt (aw x1 d.2) λaj=>let nq:=wI (0-aj.1);opt (aw x2 aj.2) λaI=>let anR:=wI (0-aI.1);opt (aw x3 aI.2) λbz=>let XS:=wI (0-bz.1);opt (Dq x4 x5 x6 bz.2) λcq=>let n2:=cq.1.1;let n1:=cq.1.2;opt (bb d.1 n2 0 0 (λx=>0) λx=>0) λeo=>ae (Nat.beq eo.1.1 eo.1.1) (ae (Nat.beq eo.1.2 eo.1.2) (opt (bb aI.1 n1.2 eo.1.1 eo.1.2 eo.2.1 eo.2.2) λcJ=>ae (Nat.beq cJ.1.1 cJ.1.1) (ae (Nat.beq cJ.1.2 cJ.1.2) (opt (bb XS n1.1 cJ.1.1 cJ.1.2 cJ.2.1 cJ.2.2) λkI=>ae (Nat.beq kI.1.1 kI.1.1) (ae (Nat.beq kI.1.2 kI.1.2) (opt (bf 30 kI.1.1 kI.1.2 cq.2 kI.2.1 kI.2.2 true true) λoJ=>opt (bb nq n2 0 0 (λx=>0) λx=>0) λmI=>ae (Nat.beq mI.1.1 mI.1.1) (ae (Nat.beq mI.1.2 mI.1.2) (opt (bb aj.1 n2 mI.1.1 mI.1.2 mI.2.1 mI.2.2) λjA=>ae (Nat.beq jA.1.1 jA.1.1) (ae (Nat.beq jA.1.2 jA.1.2) (opt (bb aj.1 n2 jA.1.1 jA.1.2 jA.2.1 jA.2.2) λpC=>ae (Nat.beq pC.1.1 pC.1.1) (ae (Nat.beq pC.1.2 pC.1.2) (opt (bb aI.1 n1.1 pC.1.1 pC.1.2 pC.2.1 pC.2.2) λzz=>ae (Nat.beq zz.1.1 zz.1.1) (ae (Nat.beq zz.1.2 zz.1.2) (opt (bb bz.1 n1.2 zz.1.1 zz.1.2 zz.2.1 zz.2.2) λGx=>ae (Nat.beq Gx.1.1 Gx.1.1) (ae (Nat.beq Gx.1.2 Gx.1.2) (opt (bf 30 Gx.1.1 Gx.1.2 oJ.2 Gx.2.1 Gx.2.2 true true) λaCI=>opt (bb anR n2 0 0 (λx=>0) λx=>0) λYo=>ae (Nat.beq Yo.1.1 Yo.1.1) (ae (Nat.beq Yo.1.2 Yo.1.2) (opt (bb aj.1 n1.1 Yo.1.1 Yo.1.2 Yo.2.1 Yo.2.2) λabO=>ae (Nat.beq abO.1.1 abO.1.1) (ae (Nat.beq abO.1.2 abO.1.2) (opt (bb d.1 n1.2 abO.1.1 abO.1.2 abO.2.1 abO.2.2) λYp=>ae (Nat.beq Yp.1.1 Yp.1.1) (ae (Nat.beq Yp.1.2 Yp.1.2) (opt (bf 30 Yp.1.1 Yp.1.2 aCI.2 Yp.2.1 Yp.2.2 true true) λaCJ=>opt (bb XS n2 0 0 (λx=>0) λx=>0) λakz=>ae (Nat.beq akz.1.1 akz.1.1) (ae (Nat.beq akz.1.2 akz.1.2) (opt (bb aj.1 n1.2 akz.1.1 akz.1.2 akz.2.1 akz.2.2) λaoy=>ae (Nat.beq aoy.1.1 aoy.1.1) (ae (Nat.beq aoy.1.2 aoy.1.2) (opt (bb y0 n1.1 aoy.1.1 aoy.1.2 aoy.2.1 aoy.2.2) λakA=>ae (Nat.beq akA.1.1 akA.1.1) (ae (Nat.beq akA.1.2 akA.1.2) (opt (bf 30 akA.1.1 akA.1.2 aCJ.2 akA.2.1 akA.2.2 true true) λaWz=>opt (bb d.1 n1.1 0 0 (λx=>0) λx=>0) λaxM=>ae (Nat.beq axM.1.1 axM.1.1) (ae (Nat.beq axM.1.2 axM.1.2) (opt (bb bz.1 n2 axM.1.1 axM.1.2 axM.2.1 axM.2.2) λaxN=>ae (Nat.beq axN.1.1 axN.1.1) (ae (Nat.beq axN.1.2 axN.1.2) (opt (bb nq n1.2 axN.1.1 axN.1.2 axN.2.1 axN.2.2) λaxO=>ae (Nat.beq axO.1.1 axO.1.1) (ae (Nat.beq axO.1.2 axO.1.2) (opt (bf 30 axO.1.1 axO.1.2 aWz.2 axO.2.1 axO.2.2 true true) λaWA=>opt (bb nq n1.1 0 0 (λx=>0) λx=>0) λaxP=>ae (Nat.beq axP.1.1 axP.1.1) (ae (Nat.beq axP.1.2 axP.1.2) (opt (bb aI.1 n2 axP.1.1 axP.1.2 axP.2.1 axP.2.2) λaxQ=>ae (Nat.beq axQ.1.1 axQ.1.1) (ae (Nat.beq axQ.1.2 axQ.1.2) (opt (bb y0 n1.2 axQ.1.1 axQ.1.2 axQ.2.1 axQ.2.2) λaxR=>ae (Nat.beq axR.1.1 axR.1.1) (ae (Nat.beq axR.1.2 axR.1.2) (opt (bf 30 axR.1.1 axR.1.2 aWA.2 axR.2.1 axR.2.2 true true) λaWB=>opt (bb anR n1.1 0 0 (λx=>0) λx=>0) λaxS=>ae (Nat.beq axS.1.1 axS.1.1) (ae (Nat.beq axS.1.2 axS.1.2) (opt (bb aI.1 n1.1 axS.1.1 axS.1.2 axS.2.1 axS.2.2) λaxT=>ae (Nat.beq axT.1.1 axT.1.1) (ae (Nat.beq axT.1.2 axT.1.2) (opt (bb aj.1 n2 axT.1.1 axT.1.2 axT.2.1 axT.2.2) λaxU=>ae (Nat.beq axU.1.1 axU.1.1) (ae (Nat.beq axU.1.2 axU.1.2) (opt (bb aI.1 n1.1 axU.1.1 axU.1.2 axU.2.1 axU.2.2) λaxV=>ae (Nat.beq axV.1.1 axV.1.1) (ae (Nat.beq axV.1.2 axV.1.2) (opt (bb bz.1 n1.2 axV.1.1 axV.1.2 axV.2.1 axV.2.2) λaxW=>ae (Nat.beq axW.1.1 axW.1.1) (ae (Nat.beq axW.1.2 axW.1.2) (opt (bf 30 axW.1.1 axW.1.2 aWB.2 axW.2.1 axW.2.2 true true) λaWC=>opt (bb XS n1.1 0 0 (λx=>0) λx=>0) λaxX=>ae (Nat.beq axX.1.1 axX.1.1) (ae (Nat.beq axX.1.2 axX.1.2) (opt (bb aI.1 n1.2 axX.1.1 axX.1.2 axX.2.1 axX.2.2) λaxY=>ae (Nat.beq axY.1.1 axY.1.1) (ae (Nat.beq axY.1.2 axY.1.2) (opt (bb d.1 n2 axY.1.1 axY.1.2 axY.2.1 axY.2.2) λaxZ=>ae (Nat.beq axZ.1.1 axZ.1.1) (ae (Nat.beq axZ.1.2 axZ.1.2) (opt (bf 30 axZ.1.1 axZ.1.2 aWC.2 axZ.2.1 axZ.2.2 true true) λaWD=>opt (bb d.1 n1.2 0 0 (λx=>0) λx=>0) λax0=>ae (Nat.beq ax0.1.1 ax0.1.1) (ae (Nat.beq ax0.1.2 ax0.1.2) (opt (bb aj.1 n1.1 ax0.1.1 ax0.1.2 ax0.2.1 ax0.2.2) λax1=>ae (Nat.beq ax1.1.1 ax1.1.1) (ae (Nat.beq ax1.1.2 ax1.1.2) (opt (bb anR n2 ax1.1.1 ax1.1.2 ax1.2.1 ax1.2.2) λax2=>ae (Nat.beq ax2.1.1 ax2.1.1) (ae (Nat.beq ax2.1.2 ax2.1.2) (opt (bf 30 ax2.1.1 ax2.1.2 aWD.2 ax2.2.1 ax2.2.2 true true) λaWE=>opt (bb nq n1.2 0 0 (λx=>0) λx=>0) λax3=>ae (Nat.beq ax3.1.1 ax3.1.1) (ae (Nat.beq ax3.1.2 ax3.1.2) (opt (bb bz.1 n2 ax3.1.1 ax3.1.2 ax3.2.1 ax3.2.2) λax4=>ae (Nat.beq ax4.1.1 ax4.1.1) (ae (Nat.beq ax4.1.2 ax4.1.2) (opt (bb d.1 n1.1 ax4.1.1 ax4.1.2 ax4.2.1 ax4.2.2) λd=>ae (Nat.beq d.1.1 d.1.1) (ae (Nat.beq d.1.2 d.1.2) (opt (bf 30 d.1.1 d.1.2 aWE.2 d.2.1 d.2.2 true true) λd=>opt (bb anR n1.2 0 0 (λx=>0) λx=>0) λax5=>ae (Nat.beq ax5.1.1 ax5.1.1) (ae (Nat.beq ax5.1.2 ax5.1.2) (opt (bb bz.1 n1.1 ax5.1.1 ax5.1.2 ax5.2.1 ax5.2.2) λax6=>ae (Nat.beq ax6.1.1 ax6.1.1) (ae (Nat.beq ax6.1.2 ax6.1.2) (opt (bb y0 n2 ax6.1.1 ax6.1.2 ax6.2.1 ax6.2.2) λax7=>ae (Nat.beq ax7.1.1 ax7.1.1) (ae (Nat.beq ax7.1.2 ax7.1.2) (opt (bf 30 ax7.1.1 ax7.1.2 d.2 ax7.2.1 ax7.2.2 true true) λaWF=>opt (bb XS n1.2 0 0 (λx=>0) λx=>0) λax8=>ae (Nat.beq ax8.1.1 ax8.1.1) (ae (Nat.beq ax8.1.2 ax8.1.2) (opt (bb bz.1 n1.2 ax8.1.1 ax8.1.2 ax8.2.1 ax8.2.2) λax9=>ae (Nat.beq ax9.1.1 ax9.1.1) (ae (Nat.beq ax9.1.2 ax9.1.2) (opt (bb aj.1 n2 ax9.1.1 ax9.1.2 ax9.2.1 ax9.2.2) λaya=>ae (Nat.beq aya.1.1 aya.1.1) (ae (Nat.beq aya.1.2 aya.1.2) (opt (bb aI.1 n1.1 aya.1.1 aya.1.2 aya.2.1 aya.2.2) λayb=>ae (Nat.beq ayb.1.1 ayb.1.1) (ae (Nat.beq ayb.1.2 ayb.1.2) (opt (bb bz.1 n1.2 ayb.1.1 ayb.1.2 ayb.2.1 ayb.2.2) λayc=>ae (Nat.beq ayc.1.1 ayc.1.1) (ae (Nat.beq ayc.1.2 ayc.1.2) (opt (bf 30 ayc.1.1 ayc.1.2 aWF.2 ayc.2.1 ayc.2.2 true true) λaWG=>ret ((oJ.1,aCI.1,aCJ.1,aWz.1,aWA.1,aWB.1,aWC.1,aWD.1,aWE.1,d.1,aWF.1,aWG.1),aWG.2)) no) no) no) no) no) no) no) no) no) no) no) no) no) no) no) no) no) no) no) no) no) no) no) no) no) no) no) no) no) no) no) no) no) no) no) no) no) no) no) no) no) no) no) no) no) no) no) no) no) no) no) no) no) no) no) no) no) no) no) no) no) no) no) no) no) no) no) no) no) no) no) no) no) no) no) no) no) no) no) no) no) no) no) no
def xj:=λx0 x1 x2 x3 x4 x5 x6 x7=>(aal aQ zX lS bo x0 x1 x2 x3 x4 x5 x6 x7).val
abbrev aam:=bG×Mv×Vp×ee
def aoz (p:aam):KK:=⟨[cV p.1,aed p.2.1,aky p.b.1,lR p.b.2],⟨[⟨2,(1::2::3::rg 7 10 (rg 18 124 [])),[]⟩,⟨10,(1::2::3::7::rg 10 24 (rg 35 107 [])),[]⟩,⟨19,(1::2::3::7::rg 11 23 (rg 35 38 (rg 74 68 []))),[]⟩,⟨28,(1::2::3::7::11::12::13::rg 16 18 (rg 35 38 (rg 74 29 (rg 104 38 [])))),[]⟩],[],[],[],(some ⟨0,(rg 0 6 (rg 7 135 [])),[]⟩)⟩,0,218⟩
theorem aEj (p:aam):D2 (aoz p) aow (lf Vr) λb=>aal p.1 p.2.1 p.b.1 p.b.2 b.1.1.1 b.1.1.2.1 b.1.1.b.1 b.1.1.b.2 b.1.2.1 b.1.b.1 b.1.b.2 b.2:=λb=>by kernel_rfl
abbrev aoA:aam:=(aQ,zX,lS,bo)
theorem aoB [ax]:SC (aak xj):=sc (kS (k:=aoz aoA) (.c cZ (.c ap4 (.c aCH (.c nw (.nil _))))) [2,10,19,28] [] ⟨kN,⟨kN,⟨kN,⟨kN,trivial⟩⟩⟩⟩ trivial (aEj aoA))
def aoC:=qa (pl Fu nil)
def Vs:=qe aRY
abbrev aoD:=Vs.B
abbrev GA:=Int->Int->Int->Int->Int->Int->Int->Int->Int->Option aoD
def aan (g:GA):Ct:=(137,FC aoC (lf Vs) (λb=>g b.1 b.2.1 b.b.1 b.b.2.1 b.c.1 b.c.2.1 b.c.b.1 b.c.b.2.1 b.d))
def aao (x0:Int)(x1:Int)(x2:Int)(x3:Int)(x4:Int)(x5:Int)(x6:Int)(x7:Int)(x8:Int):Pg aoD:=ret (x1,x2,x3)
def xm:=λx0 x1 x2 x3 x4 x5 x6 x7 x8=>(aao x0 x1 x2 x3 x4 x5 x6 x7 x8).val
theorem aEk:D0 [] 137 aoC (lf Vs) λb=>aao b.1 b.2.1 b.b.1 b.b.2.1 b.c.1 b.c.2.1 b.c.b.1 b.c.b.2.1 b.d:=λb=>by kernel_rfl
theorem aoE [ax]:SC (aan xm):=s0 (.nil _) aEk
def aoF:=qa (pl Ft nil)
def Vt:=qe B9
abbrev aap:=Vt.B
abbrev tg:=Int->Int->Int->Option aap
def xo (g:tg):Ct:=(76,FC aoF (lf Vt) (λb=>g b.1 b.2.1 b.b))
def GB (x0:Int)(x1:Int)(x2:Int):Pg aap:=ae (decide (x0>= -900000000)) (ae (decide (x0<=900000000)) (ae (decide (x1>= -1800000000)) (ae (decide (x1<=1800000000)) (ae (decide (x2>= -100000000)) (ret (decide (x2<=100000000))) (ret false)) (ret false)) (ret false)) (ret false)) (ret false)
def fN:=λx0 x1 x2=>(GB x0 x1 x2).val
theorem aEl:D0 [] 76 aoF (lf Vt) λb=>GB b.1 b.2.1 b.b:=λb=>by kernel_rfl
theorem B3 [ax]:SC (xo fN):=s0 (.nil _) aEl
def atf:=qa (pl Fu nil)
def aaq:=qe B9
abbrev atg:=aaq.B
abbrev aeX:=Int->Int->Int->Int->Int->Int->Int->Int->Int->Option atg
def ath (g:aeX):Ct:=(136,FC atf (lf aaq) (λb=>g b.1 b.2.1 b.b.1 b.b.2.1 b.c.1 b.c.2.1 b.c.b.1 b.c.b.2.1 b.d))
def aeY (aar:GA)(cy:tg)(x0:Int)(x1:Int)(x2:Int)(x3:Int)(x4:Int)(x5:Int)(x6:Int)(x7:Int)(x8:Int):Pg atg:=ae (decide (x4< -1000000)) (ret false) (ae (decide (x4>1000000)) (ret false) (ae (decide (x5< -1000000)) (ret false) (ae (decide (x5>1000000)) (ret false) (ae (decide (x6< -1000000)) (ret false) (ae (decide (x6>1000000)) (ret false) (ae (decide (x7<1)) (ret false) (ae (decide (x7>1000000)) (ret false) (ae (decide (x8<1)) (ret false) (ae (decide (x8>1000000)) (ret false) (opt (aar x0 x1 x2 x3 x4 x5 x6 x7 x8) λd=>opt (cy d.1 d.2.1 d.2.2) λd=>ret d))))))))))
def KR:=λx0 x1 x2 x3 x4 x5 x6 x7 x8=>(aeY xm fN x0 x1 x2 x3 x4 x5 x6 x7 x8).val
abbrev aeZ:=GA×tg
def ati (p:aeZ):KK:=⟨[aan p.1,xo p.2],⟨[⟨2,(0::rg 3 5 (rg 11 6 (rg 19 12 (rg 33 5 [])))),[]⟩,⟨8,(0::rg 3 19 (rg 25 6 (rg 33 5 []))),[]⟩],[],[],[],(some ⟨0,(0::1::rg 3 35 []),[]⟩)⟩,0,136⟩
theorem aHK (p:aeZ):D2 (ati p) atf (lf aaq) λb=>aeY p.1 p.2 b.1 b.2.1 b.b.1 b.b.2.1 b.c.1 b.c.2.1 b.c.b.1 b.c.b.2.1 b.d:=λb=>by kernel_rfl
abbrev atj:aeZ:=(xm,fN)
theorem aHL [ax]:SC (ath KR):=sc (kS (k:=ati atj) (.c aoE (.c B3 (.nil _))) [2,8] [] ⟨kN,⟨kN,trivial⟩⟩ trivial (aHK atj))
def abP:=qa (pl fT nil)
def KS:=qe Fq
abbrev abQ:=KS.B
abbrev MU:=Int->Option abQ
def abR (g:MU):Ct:=(138,FC abP (lf KS) (λb=>g b))
def MV (aq:bX)(aE:bS)(x0:Int):Pg abQ:=opt (aq (wI (x0*x0)) 17592186044416 1000000 false) λd=>opt (aE d.1 1 72057594037927936 d.2) λd=>ret d.1
def yO:=λx0=>(MV aT aZ x0).val
theorem avN:∀aq aE,D0 [cU aq,du aE] 138 abP (lf KS) λb=>MV aq aE b:=λ_ _ b=>by kernel_rfl
theorem avO [ax]:SC (abR yO):=s0 (.c c8 (.c dM (.nil _))) (avN aT aZ)
def atk:=qa (pr (cu aP Fu) bA)
def aas:=qe (res (pr (py (c (ra auA) are)) (pl lk nil)))
abbrev atl:=aas.B
abbrev ae0:=Int->Int->Int->Int->Int->Int->Int->Int->Int->Bool->Option atl
def ae1 (g:ae0):Ct:=(89,FC atk (lf aas) (λb=>g b.1.1 b.1.2.1 b.1.b.1 b.1.b.2.1 b.1.c.1 b.1.c.2.1 b.1.c.b.1 b.1.c.b.2.1 b.1.d b.2))
def ae2 (aHM:aeX)(aar:GA)(abS:MU)(aq:bX)(x0:Int)(x1:Int)(x2:Int)(x3:Int)(x4:Int)(x5:Int)(x6:Int)(x7:Int)(x8:Int)(x9:Bool):Pg atl:=opt (aHM x0 x1 x2 x3 x4 x5 x6 x7 x8) λd=>ae (!d) (ret (((0,0,0,0,0,0,0,0),1),x9)) (opt (aar x0 x1 x2 x3 x4 x5 x6 x7 x8) λd=>opt (abS x7) λaj=>opt (abS x8) λaI=>opt (aq x4 1073741824 1000 x9) λbz=>opt (aq x5 1073741824 1000 bz.2) λcq=>opt (aq x6 1073741824 1000 cq.2) λeo=>ret (((d.1,d.2.1,d.2.2,bz.1,cq.1,eo.1,aj,aI),0),eo.2))
def Aw:=λx0 x1 x2 x3 x4 x5 x6 x7 x8 x9=>(ae2 KR xm yO aT x0 x1 x2 x3 x4 x5 x6 x7 x8 x9).val
abbrev ae3:=aeX×GA×MU×bX
def atm (p:ae3):KK:=⟨[ath p.1,aan p.2.1,abR p.b.1,cU p.b.2],⟨[⟨5,(1::2::5::rg 7 16 (rg 24 14 [])),[]⟩],[],[0],[],(some ⟨0,(rg 0 4 (rg 6 32 [])),[]⟩)⟩,0,89⟩
theorem aHN (p:ae3):D2 (atm p) atk (lf aas) λb=>ae2 p.1 p.2.1 p.b.1 p.b.2 b.1.1 b.1.2.1 b.1.b.1 b.1.b.2.1 b.1.c.1 b.1.c.2.1 b.1.c.b.1 b.1.c.b.2.1 b.1.d b.2:=λb=>by kernel_rfl
abbrev atn:ae3:=(KR,xm,yO,aT)
theorem ato [ax]:SC (ae1 Aw):=sc (kS (k:=atm atn) (.c aHL (.c aoE (.c avO (.c c8 (.nil _))))) [5] [] ⟨kN,trivial⟩ trivial (aHN atn))
def agE:=qa (dp (cl Ts nil) λa=>(cl (cl (gs a.1 mF) nil) nil))
def MW:=qe aR5
abbrev agF:=MW.B
abbrev QS:=Nat->NI->Bool->Option agF
def QT (g:QS):Ct:=(231,sW 0 [.i .i64] (FC agE (lf MW) (λb=>g b.1.1 b.2 b.1.2)))
def iQ:=qs (st (dp (us 2 (cu RH (cu Cw (us 2 (c Ts (c ai aGb)))))) λa=>(pl (c (so (cl (gs a.1.1 mF) nil)) L6) nil)))
def atp:=qs (st (pr (us 2 (cu RH (cu Cw (us 2 (c Ts (c ai aGg)))))) (pl (c HL L6) nil)))
abbrev rf:=(aIE×NI×NI×NI)
def Yq {ρ:Type}(x:rf)(K:AX->St->Option ρ):Option ρ:=(λd=>K (.ex 0) (atp.em (d.1,(d.1.1.1,d.2.1),d.b))) x
def KU (d:iQ.B):PL iQ rf:=let n3:=d.2.1;let n2:=d.1.2.2;let n1:=(d.1.1,d.1.2.1,wI (n2+1));let y0:=Int.toNat (n3 (Int.toNat n2));let y1:=decide (n2<d.1.2.1);ae y1 (ae (aX n2 d.1.1.1) (ae (decide (n3 (Int.toNat n2)>=0)) (ae (decide (n3 (Int.toNat n2)<24)) (ae (aX (n3 (Int.toNat n2)) 24) (ae (true&&Nat.ble (0+y0*1+1) 24) (ret (Sum.inl (n1,n3,d.2.2.1,λj=>bif Nat.beq j y0 then 1073741824 else d.2.2.2 j))) no) no) (ret (Sum.inl (n1,d.2)))) (ret (Sum.inl (n1,d.2)))) no) (ret (Sum.inr ((d.1.1,d.1.2.1,n2,y1),d.2)))
def KV:=bD (KU) 2000
def QU (dG:LT iQ rf)(x0:Nat)(x1:Nat->Int)(w0:Bool):Pg agF:=ae (Nat.beq x0 x0) (opt (dG (((x0,w0),Int.ofNat x0,0),x1,λx=>0,λx=>0)) λd=>ret d.2.2.2) no
def ov:=λx0 x1 w0=>(QU KV x0 x1 w0).val
abbrev Hu:=(LT iQ rf)
def QV (p:Hu):KK:=⟨[],⟨[⟨3,(0::1::4::5::rg 9 6 (rg 17 5 [15,16])),[]⟩],[fx 3 1 iQ Yq p],[],[],(some ⟨0,(0::1::rg 3 19 []),[]⟩)⟩,1,231⟩
theorem aqq (p:Hu):LI (QV p) 3 iQ Yq (KU):=λ_ d c K=>by kernel_rfl
theorem azu (p:Hu):D2 (QV p) agE (lf MW) λb=>QU p b.1.1 b.2 b.1.2:=λb=>by kernel_rfl
abbrev QW:Hu:=KV
theorem agG [ax]:SC (QT ov):=sc (Sound.nil 0 [.i .i64]<|kS (k:=QV QW) (.nil _) [3] [] ⟨kL (aqq QW),trivial⟩ trivial (azu QW))
def abT:=qa (pr (cu aP (c jX (c ai C7))) bA)
def KW:=qe aSq
abbrev abU:=KW.B
abbrev tI:=NI->Int->Int->Int->Int->Bool->Option abU
def EU (g:tI):Ct:=(253,FC abT (lf KW) (λb=>g b.1.1 b.1.2.1 b.1.b.1 b.1.b.2.1 b.1.c b.2))
def MX (mw:QS)(aV:cQ)(x0:Nat->Int)(x1:Int)(x2:Int)(x3:Int)(x4:Int)(x5:Bool):Pg abU:=opt (mw 1 (λj=>bif Nat.beq j 0 then x1 else x1) true) λd=>ae (aX x1 24) (opt (aV x2 (x0 (Int.toNat x1)) x5) λaj=>ret ((d,aj.1,x3,x4),aj.2)) no
def dI:=λx0 x1 x2 x3 x4 x5=>(MX ov bH x0 x1 x2 x3 x4 x5).val
theorem avP:∀mw aV,D0 [QT mw,gE aV] 253 abT (lf KW) λb=>MX mw aV b.1.1 b.1.2.1 b.1.b.1 b.1.b.2.1 b.1.c b.2:=λ_ _ b=>by kernel_rfl
theorem MY [ax]:SC (EU dI):=s0 (.c agG (.c iu (.nil _))) (avP ov bH)
def abV:=qa (pr (cu aP (c jX (c aGx fT))) bA)
def KX:=qe aSU
abbrev abW:=KX.B
abbrev abX:=NI->Int->Int->Int->Int->Int->Int->Int->Int->Int->Bool->Option abW
def abY (g:abX):Ct:=(225,FC abV (lf KX) (λb=>g b.1.1 b.1.2.1.1.1 b.1.2.1.1.2.1 b.1.2.1.1.b b.1.2.1.2.1.1 b.1.2.1.2.1.2.1 b.1.2.1.2.1.b b.1.2.1.b.1 b.1.2.1.b.2 b.1.b b.2))
def MZ (ia:tI)(x0:Nat->Int)(x1:Int)(x2:Int)(x3:Int)(x4:Int)(x5:Int)(x6:Int)(x7:Int)(x8:Int)(x9:Int)(fP:Bool):Pg abW:=opt (ia x0 4 x4 x8 x9 fP) λd=>opt (ia x0 5 x5 x8 x9 d.2) λaj=>opt (ia x0 6 x6 x8 x9 aj.2) λaI=>ret (aI.2,d.1.1,d.1.2.1,d.1.2.2.1,d.1.2.2.2,aj.1.1,aj.1.2.1,aj.1.2.2.1,aj.1.2.2.2,aI.1)
def yP:=λx0 x1 x2 x3 x4 x5 x6 x7 x8 x9 fP=>(MZ dI x0 x1 x2 x3 x4 x5 x6 x7 x8 x9 fP).val
abbrev M0:=tI
def abZ (p:M0):KK:=⟨[EU p],⟨[⟨3,(1::2::4::7::8::10::11::12::rg 15 17 []),[]⟩],[],[],[],(some ⟨0,(rg 0 8 (rg 9 23 [])),[]⟩)⟩,0,225⟩
theorem avQ (p:M0):D2 (abZ p) abV (lf KX) λb=>MZ p b.1.1 b.1.2.1.1.1 b.1.2.1.1.2.1 b.1.2.1.1.b b.1.2.1.2.1.1 b.1.2.1.2.1.2.1 b.1.2.1.2.1.b b.1.2.1.b.1 b.1.2.1.b.2 b.1.b b.2:=λb=>by kernel_rfl
abbrev ab0:M0:=dI
theorem avR [ax]:SC (abY yP):=sc (kS (k:=abZ ab0) (.c MY (.nil _)) [3] [] ⟨kN,trivial⟩ trivial (avQ ab0))
def Yr:=qa (pr (cu (app 0 5) (cu Oy Ft)) (c jY bA))
def H4:=qe (res (pr aR0 (pl (cu eW lk) nil)))
abbrev Ys:=H4.B
abbrev wz:=Int->Int->Int->Int->Int->Int->Int->Int->Bool->Option Ys
def CI (g:wz):Ct:=(249,FC Yr (lf H4) (λb=>g b.1.1 b.1.2.1 b.1.b b.2.1.1.1 b.2.1.1.2.1 b.2.1.1.b b.2.1.2.1 b.2.1.b b.b))
def KY (cy:tg)(aC:bK)(aq:bX)(x0:Int)(x1:Int)(x2:Int)(x3:Int)(x4:Int)(x5:Int)(x6:Int)(x7:Int)(x8:Bool):Pg Ys:=let y0:=wI (x1-x4);opt (cy x0 x1 x2) λd=>ae (!d) (ret (((0,0,0),1),x8)) (ae (decide (y0>1800000000)) (opt (aC (wI (x0-x3)) x6 10 x8) λd=>opt (aC (wI (y0-3600000000)) x7 10 d.2) λaj=>opt (aq (wI (x5-x2)) 1073741824 1000 aj.2) λaI=>ret (((d.1,aj.1,aI.1),0),aI.2)) (ae (decide (y0<= -1800000000)) (opt (aC (wI (x0-x3)) x6 10 x8) λd=>opt (aC (wI (y0+3600000000)) x7 10 d.2) λaj=>opt (aq (wI (x5-x2)) 1073741824 1000 aj.2) λaI=>ret (((d.1,aj.1,aI.1),0),aI.2)) (opt (aC (wI (x0-x3)) x6 10 x8) λd=>opt (aC y0 x7 10 d.2) λaj=>opt (aq (wI (x5-x2)) 1073741824 1000 aj.2) λaI=>ret (((d.1,aj.1,aI.1),0),aI.2))))
def jF:=λx0 x1 x2 x3 x4 x5 x6 x7 x8=>(KY fN aU aT x0 x1 x2 x3 x4 x5 x6 x7 x8).val
theorem atq:∀cy aC aq,D1 [xo cy,eL aC,cU aq] [1] 249 Yr (lf H4) λb=>KY cy aC aq b.1.1 b.1.2.1 b.1.b b.2.1.1.1 b.2.1.1.2.1 b.2.1.1.b b.2.1.2.1 b.2.1.b b.b:=λ_ _ _ b=>by kernel_rfl
theorem KZ [ax]:SC (CI jF):=s0 (.c B3 (.c eY (.c c8 (.nil _)))) (atq fN aU aT)
def tZ:=qa (pr (cu aP (c jX (c aGx (cu (app 1 5) fT)))) (c uV (cl jY nil)))
def LK:=qe (res (pr aRM (pl L4 nil)))
def LL:=qe (res (pu (py (cu (rc (il (pu rq4 (pu yg (pu (szl rq4) (pu (nat 27) iy)))))) ah6)) (pr L4 (cl aMl nil))))
abbrev H5:=LK.B⊕LL.B
def Vu:H5->T:=ls (lf LK) (lf LL)
abbrev Vv:=tZ.B->Option H5
def Vx (g:Vv):Ct:=(226,FC tZ Vu g)
def H6 (gv:wz)(ia:tI)(x:tZ.B):Pg H5:=opt (gv x.1.2.1.1.1 x.1.2.1.1.2.1 x.1.2.1.1.2.2 x.2.2.1.1 x.2.2.1.2.1 x.2.2.1.2.2 x.2.2.2.1 x.2.2.2.2 x.2.1) λd=>ae (d.1.2!=0) (ret (Sum.inl (d.1.2,d.2))) (opt (ia x.1.1 7 d.1.1.1 x.1.2.1.2.2.1 x.1.2.2 d.2) λaj=>opt (ia x.1.1 8 d.1.1.2.1 x.1.2.1.2.2.1 x.1.2.2 aj.2) λd=>ret (Sum.inr (d.2,aj.1.1,aj.1.2.1,aj.1.2.2.1,aj.1.2.2.2,d.1)))
def ua:=λx=>(H6 jF dI x).val
abbrev H7:=wz×tI
def Vy (p:H7):KK:=⟨[CI p.1,EU p.2],⟨[⟨6,(1::2::3::5::rg 8 6 (rg 15 13 (rg 31 18 []))),[]⟩],[],[],[],(some ⟨0,(rg 0 10 (rg 12 37 [])),[]⟩)⟩,0,226⟩
theorem aqr (p:H7):D2 (Vy p) tZ Vu λb=>H6 p.1 p.2 b:=λb=>by kernel_rfl
abbrev Vz:H7:=(jF,dI)
theorem aqs [ax]:SC (Vx ua):=sc (kS (k:=Vy Vz) (.c KZ (.c MY (.nil _))) [6] [] ⟨kN,trivial⟩ trivial (aqr Vz))
def Dv:=qa (pr (cu aP (c jX (c aGx (cu (app 1 5) fT)))) (c uV (cl jY nil)))
def QX:=qe (res (pr aSn (pl L4 nil)))
abbrev akB:=QX.B
abbrev akC:=Dv.B->Option akB
def akD (g:akC):Ct:=(227,FC Dv (lf QX) g)
def VA (gv:wz)(bV:eM)(aE:bS)(ia:tI)(x:Dv.B):Pg akB:=let n3:=x.2.2;let n2:=x.1.2.1;let n1:=n2.2.2.1;opt (gv n2.1.1 n2.1.2.1 n2.1.2.2 n3.1.1 n3.1.2.1 n3.1.2.2 n3.2.1 n3.2.2 x.2.1) λd=>ae (d.1.2!=0) (ret (((λx=>0,0,0,0),d.1.2),d.2)) (opt (bV 4 false (cr n1 [n1,n1,n1,n1]) true) λaj=>opt (aE aj.1 1 72057594037927936 aj.2) λaI=>opt (ia x.1.1 9 d.1.1.2.2 aI.1 x.1.2.2 d.2) λd=>ret ((d.1,0),d.2))
def Dw:=λx=>(VA jF cF aZ dI x).val
theorem aCK:∀gv bV aE ia,D0 [CI gv,nu bV,du aE,EU ia] 227 Dv (lf QX) λb=>VA gv bV aE ia b:=λ_ _ _ _ b=>by kernel_rfl
theorem aCL [ax]:SC (akD Dw):=s0 (.c KZ (.c pG (.c dM (.c MY (.nil _))))) (aCK jF cF aZ dI)
def VB:=qa (pl fT nil)
def FJ:=qe Fq
abbrev VC:=FJ.B
abbrev VD:=Int->Option VC
def VE (g:VD):Ct:=(203,FC VB (lf FJ) (λb=>g b))
def H8 (aq:bX)(aE:bS)(x0:Int):Pg VC:=opt (aq (wI (x0*x0)) 17592186044416 1000000 false) λd=>opt (aE d.1 1 72057594037927936 d.2) λd=>ret d.1
def ub:=λx0=>(H8 aT aZ x0).val
theorem aqt:∀aq aE,D0 [cU aq,du aE] 203 VB (lf FJ) λb=>H8 aq aE b:=λ_ _ b=>by kernel_rfl
theorem aqu [ax]:SC (VE ub):=s0 (.c c8 (.c dM (.nil _))) (aqt aT aZ)
def akE:=qa (pr (cu aP (c aGw wZ)) bA)
def QY:=qe aMg
abbrev akF:=QY.B
abbrev VF:=Int->Int->Int->Int->Int->Int->Int->Int->Int->Int->Int->Bool->Option akF
def VG (g:VF):Ct:=(139,FC akE (lf QY) (λb=>g b.1.1.1 b.1.1.2.1 b.1.1.b.1 b.1.1.b.2.1 b.1.1.c.1 b.1.1.c.2.1 b.1.1.c.b.1 b.1.1.c.b.2.1 b.1.1.d b.1.2.1 b.1.b b.2))
def VH (aq:bX)(Ax:VD)(x0:Int)(x1:Int)(x2:Int)(x3:Int)(x4:Int)(x5:Int)(x6:Int)(x7:Int)(x8:Int)(x9:Int)(fP:Int)(fQ:Bool):Pg akF:=ae (decide (x1<x9)) (ret (((0,0),1),fQ)) (ae (decide (x1>fP)) (ret (((0,0),1),fQ)) (ae (decide (x2<1)) (ret (((0,0),1),fQ)) (ae (decide (x2>1000000)) (ret (((0,0),1),fQ)) (opt (aq x1 1073741824 1000 fQ) λd=>opt (Ax x2) λaj=>ret (((d.1,aj),0),d.2)))))
def uc:=λx0 x1 x2 x3 x4 x5 x6 x7 x8 x9 fP fQ=>(VH aT ub x0 x1 x2 x3 x4 x5 x6 x7 x8 x9 fP fQ).val
theorem aCM:∀aq Ax,D1 [cU aq,VE Ax] [0] 139 akE (lf QY) λb=>VH aq Ax b.1.1.1 b.1.1.2.1 b.1.1.b.1 b.1.1.b.2.1 b.1.1.c.1 b.1.1.c.2.1 b.1.1.c.b.1 b.1.1.c.b.2.1 b.1.1.d b.1.2.1 b.1.b b.2:=λ_ _ b=>by kernel_rfl
theorem akG [ax]:SC (VG uc):=s0 (.c c8 (.c aqu (.nil _))) (aCM aT ub)
def VI:=qa (pr (cu aP Fu) bA)
def FK:=qe aMg
abbrev VJ:=FK.B
abbrev H9:=Int->Int->Int->Int->Int->Int->Int->Int->Int->Bool->Option VJ
def H' (g:H9):Ct:=(90,FC VI (lf FK) (λb=>g b.1.1 b.1.2.1 b.1.b.1 b.1.b.2.1 b.1.c.1 b.1.c.2.1 b.1.c.b.1 b.1.c.b.2.1 b.1.d b.2))
def Ia (nN:VF)(x0:Int)(x1:Int)(x2:Int)(x3:Int)(x4:Int)(x5:Int)(x6:Int)(x7:Int)(x8:Int)(x9:Bool):Pg VJ:=opt (nN x0 x1 x2 x3 x4 x5 x6 x7 x8 (-100000000) 100000000 x9) λd=>ret d
def mC:=λx0 x1 x2 x3 x4 x5 x6 x7 x8 x9=>(Ia uc x0 x1 x2 x3 x4 x5 x6 x7 x8 x9).val
theorem aqv:∀nN,D0 [VG nN] 90 VI (lf FK) λb=>Ia nN b.1.1 b.1.2.1 b.1.b.1 b.1.b.2.1 b.1.c.1 b.1.c.2.1 b.1.c.b.1 b.1.c.b.2.1 b.1.d b.2:=λ_ b=>by kernel_rfl
theorem VK [ax]:SC (H' mC):=s0 (.c akG (.nil _)) (aqv uc)
def akH:=qa (pr (cu aP (c jX (c (aa ah4) fT))) bA)
def QZ:=qe aSq
abbrev akI:=QZ.B
abbrev akJ:=NI->Int->Int->Int->Bool->Option akI
def akK (g:akJ):Ct:=(170,FC akH (lf QZ) (λb=>g b.1.1 b.1.2.1.1 b.1.2.1.2 b.1.b b.2))
def VL (mw:QS)(aw:bG)(aV:cQ)(x0:Nat->Int)(x1:Int)(x2:Int)(x3:Int)(x4:Bool):Pg akI:=opt (mw 1 (λj=>bif Nat.beq j 0 then 9 else 9) true) λd=>opt (aw x1 x4) λaj=>opt (aV (wI (0-aj.1)) (x0 9) aj.2) λaI=>ret ((d,aI.1,x2,x3),aI.2)
def Dx:=λx0 x1 x2 x3 x4=>(VL ov aQ bH x0 x1 x2 x3 x4).val
theorem aCN:∀mw aw aV,D0 [QT mw,cV aw,gE aV] 170 akH (lf QZ) λb=>VL mw aw aV b.1.1 b.1.2.1.1 b.1.2.1.2 b.1.b b.2:=λ_ _ _ b=>by kernel_rfl
theorem aCO [ax]:SC (akK Dx):=s0 (.c agG (.c cZ (.c iu (.nil _)))) (aCN ov aQ bH)
def RR:=qa (pr (cu aP Fu) bA)
def Dy:=qe (res (pr aR0 (pl lk nil)))
abbrev RT:=Dy.B
abbrev FL:=Int->Int->Int->Int->Int->Int->Int->Int->Int->Bool->Option RT
def FM (g:FL):Ct:=(91,FC RR (lf Dy) (λb=>g b.1.1 b.1.2.1 b.1.b.1 b.1.b.2.1 b.1.c.1 b.1.c.2.1 b.1.c.b.1 b.1.c.b.2.1 b.1.d b.2))
def FN (nN:VF)(x0:Int)(x1:Int)(x2:Int)(x3:Int)(x4:Int)(x5:Int)(x6:Int)(x7:Int)(x8:Int)(x9:Bool):Pg RT:=ae (decide (x3<0)) (ret (((0,0,0),1),x9)) (ae (decide (x3>100)) (ret (((0,0,0),1),x9)) (opt (nN x0 x1 x2 x3 x4 x5 x6 x7 x8 1 1000000 x9) λd=>ae (d.1.2!=0) (ret (((0,0,0),d.1.2),d.2)) (ret (((d.1.1.1,d.1.1.2,x3),0),d.2))))
def lu:=λx0 x1 x2 x3 x4 x5 x6 x7 x8 x9=>(FN uc x0 x1 x2 x3 x4 x5 x6 x7 x8 x9).val
theorem amK:∀nN,D1 [VG nN] [0] 91 RR (lf Dy) λb=>FN nN b.1.1 b.1.2.1 b.1.b.1 b.1.b.2.1 b.1.c.1 b.1.c.2.1 b.1.c.b.1 b.1.c.b.2.1 b.1.d b.2:=λ_ b=>by kernel_rfl
theorem RU [ax]:SC (FM lu):=s0 (.c akG (.nil _)) (amK uc)
def agH:=qa (pr (cu aP (c jX (c (aa (a 2 ah4 kF)) fT))) bA)
def M1:=qe aAH
abbrev agI:=M1.B
abbrev agJ:=NI->Int->Int->Int->Int->Bool->Option agI
def agK (g:agJ):Ct:=(171,FC agH (lf M1) (λb=>g b.1.1 b.1.2.1.1.1 b.1.2.1.1.2 b.1.2.1.2 b.1.b b.2))
def Q3 (bd:dy)(eK:o6)(aD:cx)(aV:cQ)(bV:eM)(aC:bK)(x0:Nat->Int)(x1:Int)(x2:Int)(x3:Int)(x4:Int)(x5:Bool):Pg agI:=opt (bd x0) λd=>let n1:=d.2.2;opt (eK d.1 d.2.1 n1.1 n1.2 x5) λaj=>ae (decide (aj.1 8<751619277)) (ret (((λx=>0,0,0,0),4),aj.2)) (ae (decide (x3<50)) (ret (((λx=>0,0,0,0),4),aj.2)) (opt (aD (x0 9) (aj.1 8) 30 aj.2) λaI=>opt (aV x1 (wI (0-aI.1)) aI.2) λbz=>opt (aD 1073741824 (aj.1 8) 30 bz.2) λcq=>opt (aD aI.1 (aj.1 8) 30 cq.2) λeo=>opt (bV 2 eo.2 (cr d.1 [d.1,d.1]) true) λcJ=>opt (aC eo.1 cJ.1 30 cJ.2) λkI=>opt (bV 2 kI.2 (cr d.2.1 [d.2.1,d.2.1]) true) λoJ=>opt (aC eo.1 (wI (0-oJ.1)) 30 oJ.2) λmI=>opt (bV 2 mI.2 (cr n1.1 [n1.1,n1.1]) true) λjA=>opt (aC eo.1 (wI (0-jA.1)) 30 jA.2) λpC=>opt (bV 2 pC.2 (cr n1.2 [n1.2,n1.2]) true) λd=>opt (aC eo.1 d.1 30 d.2) λd=>ret (((λj=>bif Nat.beq j 3 then d.1 else bif Nat.beq j 2 then pC.1 else bif Nat.beq j 1 then mI.1 else bif Nat.beq j 0 then kI.1 else bif Nat.beq j 9 then wI (0-cq.1) else 0,bz.1,x2,x4),0),d.2)))
def Bv:=λx0 x1 x2 x3 x4 x5=>(Q3 bY jg bm bH cF aU x0 x1 x2 x3 x4 x5).val
abbrev Q4:=dy×o6×cx×cQ×eM×bK
def agL (p:Q4):KK:=⟨[iL p.1,BW p.2.1,fK p.b.1,gE p.b.2.1,nu p.c.1,eL p.c.2],⟨[⟨10,(1::rg 3 5 (rg 9 4 (rg 15 43 (rg 60 11 (rg 73 13 []))))),[]⟩],[],[],[],(some ⟨0,(rg 0 8 (rg 10 76 [])),[]⟩)⟩,0,171⟩
theorem azv (p:Q4):D2 (agL p) agH (lf M1) λb=>Q3 p.1 p.2.1 p.b.1 p.b.2.1 p.c.1 p.c.2 b.1.1 b.1.2.1.1.1 b.1.2.1.1.2 b.1.2.1.2 b.1.b b.2:=λb=>by kernel_rfl
abbrev agM:Q4:=(bY,jg,bm,bH,cF,aU)
theorem azw [ax]:SC (agK Bv):=sc (kS (k:=agL agM) (.c jC (.c EM (.c gD (.c iu (.c pG (.c eY (.nil _))))))) [10] [] ⟨kN,trivial⟩ trivial (azv agM))
def agN:=qa (pl fT nil)
def M3:=qe Fq
abbrev agO:=M3.B
abbrev Q5:=Int->Option agO
def agP (g:Q5):Ct:=(140,FC agN (lf M3) (λb=>g b))
def Q6 (aq:bX)(aE:bS)(x0:Int):Pg agO:=opt (aq (wI (x0*x0)) 17592186044416 1000000000000 false) λd=>opt (aE d.1 1 72057594037927936 d.2) λd=>ret d.1
def Bw:=λx0=>(Q6 aT aZ x0).val
theorem azx:∀aq aE,D0 [cU aq,du aE] 140 agN (lf M3) λb=>Q6 aq aE b:=λ_ _ b=>by kernel_rfl
theorem azy [ax]:SC (agP Bw):=s0 (.c c8 (.c dM (.nil _))) (azx aT aZ)
def ayd:=qa (pr (cu aP Fu) bA)
def ae4:=qe aSu
abbrev aye:=ae4.B
abbrev Yt:=Int->Int->Int->Int->Int->Int->Int->Int->Int->Bool->Option aye
def Yu (g:Yt):Ct:=(92,FC ayd (lf ae4) (λb=>g b.1.1 b.1.2.1 b.1.b.1 b.1.b.2.1 b.1.c.1 b.1.c.2.1 b.1.c.b.1 b.1.c.b.2.1 b.1.d b.2))
def akL (azz:Q5)(aq:bX)(x0:Int)(x1:Int)(x2:Int)(x3:Int)(x4:Int)(x5:Int)(x6:Int)(x7:Int)(x8:Int)(x9:Bool):Pg aye:=ae (decide (x4<1)) (ret (((0,0,0,0),1),x9)) (ae (decide (x4>1000000)) (ret (((0,0,0,0),1),x9)) (opt (azz x4) λd=>ae (decide (x1< -2000000)) (ret (((0,0,0,0),1),x9)) (ae (decide (x1>2000000)) (ret (((0,0,0,0),1),x9)) (opt (aq x1 1073741824 1000000 x9) λaj=>ae (decide (x2< -2000000)) (ret (((0,0,0,0),1),aj.2)) (ae (decide (x2>2000000)) (ret (((0,0,0,0),1),aj.2)) (opt (aq x2 1073741824 1000000 aj.2) λaI=>ae (decide (x3< -2000000)) (ret (((0,0,0,0),1),aI.2)) (ae (decide (x3>2000000)) (ret (((0,0,0,0),1),aI.2)) (opt (aq x3 1073741824 1000000 aI.2) λbz=>ret (((aj.1,aI.1,bz.1,d),0),bz.2)))))))))
def wA:=λx0 x1 x2 x3 x4 x5 x6 x7 x8 x9=>(akL Bw aT x0 x1 x2 x3 x4 x5 x6 x7 x8 x9).val
abbrev akM:=Q5×bX
def ayf (p:akM):KK:=⟨[agP p.1,cU p.2],⟨[⟨5,(1::2::rg 7 17 (rg 25 8 (rg 38 13 []))),[]⟩],[],[0],[],(some ⟨0,(rg 0 4 (rg 6 45 [])),[]⟩)⟩,0,92⟩
theorem aKx (p:akM):D2 (ayf p) ayd (lf ae4) λb=>akL p.1 p.2 b.1.1 b.1.2.1 b.1.b.1 b.1.b.2.1 b.1.c.1 b.1.c.2.1 b.1.c.b.1 b.1.c.b.2.1 b.1.d b.2:=λb=>by kernel_rfl
abbrev ayg:akM:=(Bw,aT)
theorem akN [ax]:SC (Yu wA):=sc (kS (k:=ayf ayg) (.c azy (.c c8 (.nil _))) [5] [] ⟨kN,trivial⟩ trivial (aKx ayg))
def ayh:=qa (pr (cu aP (c jX (c aLZ fT))) bA)
def aHO:=qe aSU
abbrev akO:=(Bool×NI×Int×Int×Int×NI×Int×NI×Int)
def ayi:akO->T:=λd=>lf aHO (d.1,d.2.1,d.b.1,d.b.2.1,d.c.1,d.c.2.1,d.c.b.1,d.b.2.1,d.c.1,d.c.b.2.1,d.d,d.b.2.1,d.c.1)
abbrev ayj:=NI->Int->Int->Int->Int->Int->Bool->Option akO
def ayk (g:ayj):Ct:=(233,FC ayh ayi (λb=>g b.1.1 b.1.2.1.1.1 b.1.2.1.1.2.1 b.1.2.1.1.b b.1.2.1.2 b.1.b b.2))
def akP (bd:dy)(bC:kD)(eK:o6)(OX:Dj)(ae5:J5)(aat:Gz)(bV:eM)(aV:cQ)(x0:Nat->Int)(x1:Int)(x2:Int)(x3:Int)(x4:Int)(x5:Int)(x6:Bool):Pg akO:=opt (bd x0) λd=>opt (bC x0 16) λaj=>opt (bC x0 19) λaI=>opt (eK d.1 d.2.1 d.2.2.1 d.2.2.2 x6) λbz=>opt (OX bz.1 aj.1 aj.2.1 aj.2.2 bz.2) λcq=>opt (ae5 d.1 d.2.1 d.2.2.1 d.2.2.2) λd=>opt (aat d.1 d.2.1 d.2.2.1 d.2.2.2 aj.1 aj.2.1 aj.2.2 cq.2) λd=>let n2:=d.1.2.2;let n1:=n2.2.2.2;let n3:=n1.2.2.2;opt (bV 2 d.2 (cr cq.1.1 [aI.1,cq.1.1]) true) λeo=>opt (aV x1 eo.1 eo.2) λcJ=>opt (bV 2 cJ.2 (cr cq.1.2.1 [aI.2.1,cq.1.2.1]) true) λkI=>opt (aV x2 kI.1 kI.2) λoJ=>opt (bV 2 oJ.2 (cr cq.1.2.2 [aI.2.2,cq.1.2.2]) true) λmI=>opt (aV x3 mI.1 mI.2) λjA=>ret (jA.2,λj=>bif Nat.beq j 19 then 1073741824 else bif Nat.beq j 18 then bz.1 6 else bif Nat.beq j 17 then bz.1 3 else bif Nat.beq j 16 then bz.1 0 else bif Nat.beq j 3 then wI (0-n2.2.1) else bif Nat.beq j 2 then wI (0-n2.1) else bif Nat.beq j 1 then wI (0-d.1.2.1) else bif Nat.beq j 0 then d.1.1 else 0,cJ.1,x4,x5,λj=>bif Nat.beq j 20 then 1073741824 else bif Nat.beq j 18 then bz.1 7 else bif Nat.beq j 17 then bz.1 4 else bif Nat.beq j 16 then bz.1 1 else bif Nat.beq j 3 then wI (0-n1.2.2.1) else bif Nat.beq j 2 then wI (0-n1.2.1) else bif Nat.beq j 1 then wI (0-n1.1) else bif Nat.beq j 0 then n2.2.2.1 else 0,oJ.1,λj=>bif Nat.beq j 21 then 1073741824 else bif Nat.beq j 18 then bz.1 8 else bif Nat.beq j 17 then bz.1 5 else bif Nat.beq j 16 then bz.1 2 else bif Nat.beq j 3 then wI (0-n3.2.2.2) else bif Nat.beq j 2 then wI (0-n3.2.2.1) else bif Nat.beq j 1 then wI (0-n3.2.1) else bif Nat.beq j 0 then n3.1 else 0,jA.1)
def OY:=λx0 x1 x2 x3 x4 x5 x6=>(akP bY ec jg wh zY xj cF bH x0 x1 x2 x3 x4 x5 x6).val
abbrev akQ:=dy×kD×o6×Dj×J5×Gz×eM×cQ
def ayl (p:akQ):KK:=⟨[iL p.1,pH p.2.1,BW p.b.1,X3 p.b.2.1,aeg p.c.1,aak p.c.2.1,nu p.c.b.1,gE p.c.b.2],⟨[⟨7,(1::2::4::5::rg 7 4 (rg 16 23 (rg 40 62 []))),[]⟩,⟨11,(1::2::4::5::rg 7 4 (rg 18 21 (rg 40 23 (rg 65 37 [])))),[]⟩,⟨18,(1::2::4::5::rg 7 4 (rg 18 21 (rg 40 38 (rg 79 23 [])))),[]⟩],[],[],[],(some ⟨0,(rg 0 8 (rg 9 93 [])),[]⟩)⟩,0,233⟩
theorem aKy (p:akQ):D2 (ayl p) ayh ayi λb=>akP p.1 p.2.1 p.b.1 p.b.2.1 p.c.1 p.c.2.1 p.c.b.1 p.c.b.2 b.1.1 b.1.2.1.1.1 b.1.2.1.1.2.1 b.1.2.1.1.b b.1.2.1.2 b.1.b b.2:=λb=>by kernel_rfl
abbrev aym:akQ:=(bY,ec,jg,wh,zY,xj,cF,bH)
theorem aKz [ax]:SC (ayk OY):=sc (kS (k:=ayl aym) (.c jC (.c sZ (.c EM (.c ajx (.c asb (.c aoB (.c pG (.c iu (.nil _))))))))) [7,11,18] [] ⟨kN,⟨kN,⟨kN,trivial⟩⟩⟩ trivial (aKy aym))
def aoG:=qa (pr (cu aP Ft) bA)
def VM:=qe (res (pr aLQ (pl lk nil)))
abbrev aoH:=VM.B
abbrev Oc:=Int->Int->Int->Bool->Option aoH
def aau (g:Oc):Ct:=(248,FC aoG (lf VM) (λb=>g b.1.1 b.1.2.1 b.1.b b.2))
def aav (jf:xc)(pL:Zw)(x0:Int)(x1:Int)(x2:Int)(x3:Bool):Pg aoH:=opt (jf 2 x3 (cr x0 [x1,x0]) true) λd=>ae (decide (d.1<16777216)) (ret ((0,false),d.2)) (opt (pL x1 x0 d.2) λd=>ret ((d.1,true),d.2))
def xp:=λx0 x1 x2 x3=>(aav fL w9 x0 x1 x2 x3).val
theorem aEm:∀jf pL,D0 [Gu jf,Zx pL] 248 aoG (lf VM) λb=>aav jf pL b.1.1 b.1.2.1 b.1.b b.2:=λ_ _ b=>by kernel_rfl
theorem aoI [ax]:SC (aau xp):=s0 (.c N4 (.c anU (.nil _))) (aEm fL w9)
def akR:=qa (pr (cu aP (c jX (c aLZ C7))) bA)
def Q7:=qe aAH
abbrev akS:=Q7.B
abbrev akT:=NI->Int->Int->Int->Int->Int->Int->Int->Bool->Option akS
def akU (g:akT):Ct:=(235,FC akR (lf Q7) (λb=>g b.1.1 b.1.2.1.1.1 b.1.2.1.1.2.1 b.1.2.1.1.b b.1.2.1.2 b.1.b.1 b.1.b.2.1 b.1.c b.2))
def VN (bd:dy)(eK:o6)(bC:kD)(mB:HX)(gS:EI)(B4:Oc)(jf:xc)(aV:cQ)(cT:wb)(bf:ee)(bV:eM)(aD:cx)(x0:Nat->Int)(x1:Int)(x2:Int)(x3:Int)(x4:Int)(x5:Int)(x6:Int)(x7:Int)(x8:Bool):Pg akS:=opt (bd x0) λd=>let n1:=d.2.2;opt (eK d.1 d.2.1 n1.1 n1.2 x8) λaj=>opt (bC x0 19) λaI=>opt (mB x1 x2 x3 aI.1 aI.2.1 aI.2.2 aj.2) λbz=>opt (gS aj.1 bz.1.1 bz.1.2.1 bz.1.2.2 bz.2) λcq=>opt (B4 cq.1.1 cq.1.2.1 cq.1.2.2 cq.2) λeo=>ae (!eo.1.2) (ret (((λx=>0,0,0,0),4),eo.2)) (opt (jf 2 eo.2 (cr (aj.1 0) [aj.1 3,aj.1 0]) true) λcJ=>ae (decide (cJ.1<16777216)) (ret (((λx=>0,0,0,0),4),cJ.2)) (opt (aV x5 eo.1.1 cJ.2) λkI=>opt (cT kI.1) λoJ=>opt (bf 30 2 2 kI.2 (cr (aj.1 0) [aj.1 3,aj.1 0]) (cr (aj.1 0) [aj.1 3,aj.1 0]) true true) λmI=>opt (bV 2 mI.2 (cr d.1 [d.1,d.1]) true) λjA=>opt (bV 2 jA.2 (cr d.2.1 [d.2.1,d.2.1]) true) λpC=>opt (bV 2 pC.2 (cr n1.1 [n1.1,n1.1]) true) λzz=>opt (bV 2 zz.2 (cr n1.2 [n1.2,n1.2]) true) λd=>opt (bf 30 2 2 d.2 (cr (aj.1 0) [wI (0-aj.1 3),aj.1 0]) (cr d.1 [jA.1,d.1]) true true) λGx=>opt (aD Gx.1 mI.1 30 Gx.2) λaCI=>opt (bf 30 2 2 aCI.2 (cr (aj.1 0) [wI (0-aj.1 3),aj.1 0]) (cr zz.1 [pC.1,zz.1]) true true) λYo=>opt (aD Yo.1 mI.1 30 Yo.2) λabO=>opt (bf 30 2 2 abO.2 (cr (aj.1 0) [wI (0-aj.1 3),aj.1 0]) (cr pC.1 [wI (0-zz.1),pC.1]) true true) λYp=>opt (aD Yp.1 mI.1 30 Yp.2) λaCJ=>opt (bf 30 2 2 aCJ.2 (cr (aj.1 0) [wI (0-aj.1 3),aj.1 0]) (cr jA.1 [wI (0-d.1),jA.1]) true true) λd=>opt (aD d.1 mI.1 30 d.2) λd=>ret (((cr 0 [d.1,aCJ.1,abO.1,aCI.1],oJ,x6,x7),0),d.2)))
def Dz:=λx0 x1 x2 x3 x4 x5 x6 x7 x8=>(VN bY jg ec tV nG xp fL bH jy bo cF bm x0 x1 x2 x3 x4 x5 x6 x7 x8).val
abbrev VO:=dy×o6×kD×HX×EI×Oc×xc×cQ×wb×ee×eM×cx
def akV (p:VO):KK:=⟨[iL p.1,BW p.2.1,pH p.b.1,Ub p.b.2.1,J' p.c.1,aau p.c.2.1,Gu p.c.b.1,gE p.c.b.2.1,zW p.d.1,lR p.d.2.1,nu p.d.b.1,fK p.d.b.2],⟨[⟨10,(rg 1 11 (13::14::16::17::rg 21 57 (rg 80 58 []))),[]⟩,⟨17,(rg 1 11 (13::14::16::17::20::21::22::rg 25 86 (rg 112 26 []))),[]⟩],[],[],[],(some ⟨0,(rg 0 12 (rg 14 124 [])),[]⟩)⟩,0,235⟩
theorem aCP (p:VO):D2 (akV p) akR (lf Q7) λb=>VN p.1 p.2.1 p.b.1 p.b.2.1 p.c.1 p.c.2.1 p.c.b.1 p.c.b.2.1 p.d.1 p.d.2.1 p.d.b.1 p.d.b.2 b.1.1 b.1.2.1.1.1 b.1.2.1.1.2.1 b.1.2.1.1.b b.1.2.1.2 b.1.b.1 b.1.b.2.1 b.1.c b.2:=λb=>by kernel_rfl
abbrev akW:VO:=(bY,jg,ec,tV,nG,xp,fL,bH,jy,bo,cF,bm)
theorem aCQ [ax]:SC (akU Dz):=sc (kS (k:=akV akW) (.c jC (.c EM (.c sZ (.c ad9 (.c SB (.c aoI (.c N4 (.c iu (.c EB (.c nw (.c pG (.c gD (.nil _))))))))))))) [10,17] [] ⟨kN,⟨kN,trivial⟩⟩ trivial (aCP akW))
def atr:=qa (pr (cu aP (c ac6 (c aLZ fT))) bA)
def aaw:=qe aMe
abbrev ats:=aaw.B
abbrev att:=Int->Int->Int->Int->Int->Int->Int->Int->Int->Bool->Option ats
def atu (g:att):Ct:=(219,FC atr (lf aaw) (λb=>g b.1.1.1 b.1.1.2.1 b.1.1.b.1 b.1.1.b.2 b.1.2.1.1.1 b.1.2.1.1.2.1 b.1.2.1.1.b b.1.2.1.2 b.1.b b.2))
def ae6 (eK:o6)(gS:EI)(B4:Oc)(aV:cQ)(cT:wb)(x0:Int)(x1:Int)(x2:Int)(x3:Int)(x4:Int)(x5:Int)(x6:Int)(x7:Int)(x8:Int)(x9:Bool):Pg ats:=opt (eK x0 x1 x2 x3 x9) λd=>opt (gS d.1 x4 x5 x6 d.2) λd=>opt (B4 d.1.1 d.1.2.1 d.1.2.2 d.2) λd=>ae (!d.1.2) (ret ((0,4),d.2)) (opt (aV x8 d.1.1 d.2) λd=>opt (cT d.1) λaj=>ret ((aj,0),d.2))
def K0:=λx0 x1 x2 x3 x4 x5 x6 x7 x8 x9=>(ae6 jg nG xp bH jy x0 x1 x2 x3 x4 x5 x6 x7 x8 x9).val
theorem aHP:∀eK gS B4 aV cT,D0 [BW eK,J' gS,aau B4,gE aV,zW cT] 219 atr (lf aaw) λb=>ae6 eK gS B4 aV cT b.1.1.1 b.1.1.2.1 b.1.1.b.1 b.1.1.b.2 b.1.2.1.1.1 b.1.2.1.1.2.1 b.1.2.1.1.b b.1.2.1.2 b.1.b b.2:=λ_ _ _ _ _ b=>by kernel_rfl
theorem aHQ [ax]:SC (atu K0):=s0 (.c EM (.c SB (.c aoI (.c iu (.c EB (.nil _)))))) (aHP jg nG xp bH jy)
def agQ:=qa (pl fT nil)
def M4:=qe Fq
abbrev agR:=M4.B
abbrev agS:=Int->Option agR
def agT (g:agS):Ct:=(141,FC agQ (lf M4) (λb=>g b))
def Q8 (aq:bX)(aE:bS)(x0:Int):Pg agR:=opt (aq (wI (x0*x0)) 17592186044416 1000000 false) λd=>opt (aE d.1 1 72057594037927936 d.2) λd=>ret d.1
def Bx:=λx0=>(Q8 aT aZ x0).val
theorem azA:∀aq aE,D0 [cU aq,du aE] 141 agQ (lf M4) λb=>Q8 aq aE b:=λ_ _ b=>by kernel_rfl
theorem azB [ax]:SC (agT Bx):=s0 (.c c8 (.c dM (.nil _))) (azA aT aZ)
def ayn:=qa (pr (cu aP Fu) bA)
def ae7:=qe aMg
abbrev ayo:=ae7.B
abbrev akX:=Int->Int->Int->Int->Int->Int->Int->Int->Int->Bool->Option ayo
def akY (g:akX):Ct:=(93,FC ayn (lf ae7) (λb=>g b.1.1 b.1.2.1 b.1.b.1 b.1.b.2.1 b.1.c.1 b.1.c.2.1 b.1.c.b.1 b.1.c.b.2.1 b.1.d b.2))
def akZ (aq:bX)(Hv:agS)(x0:Int)(x1:Int)(x2:Int)(x3:Int)(x4:Int)(x5:Int)(x6:Int)(x7:Int)(x8:Int)(x9:Bool):Pg ayo:=ae (decide (x1<0)) (ret (((0,0),1),x9)) (ae (decide (x1>300000)) (ret (((0,0),1),x9)) (ae (decide (x2<1)) (ret (((0,0),1),x9)) (ae (decide (x2>1000000)) (ret (((0,0),1),x9)) (opt (aq x1 1073741824 1000 x9) λd=>opt (Hv x2) λaj=>ret (((d.1,aj),0),d.2)))))
def DA:=λx0 x1 x2 x3 x4 x5 x6 x7 x8 x9=>(akZ aT Bx x0 x1 x2 x3 x4 x5 x6 x7 x8 x9).val
theorem aKA:∀aq Hv,D1 [cU aq,agT Hv] [0] 93 ayn (lf ae7) λb=>akZ aq Hv b.1.1 b.1.2.1 b.1.b.1 b.1.b.2.1 b.1.c.1 b.1.c.2.1 b.1.c.b.1 b.1.c.b.2.1 b.1.d b.2:=λ_ _ b=>by kernel_rfl
theorem ayp [ax]:SC (akY DA):=s0 (.c c8 (.c azB (.nil _))) (aKA aT Bx)
def agU:=qa (pr (cu aP apz) bA)
def M5:=qe auB
abbrev agV:=M5.B
abbrev By:=NI->Bool->Option agV
def Q9 (g:By):Ct:=(258,FC agU (lf M5) (λb=>g b.1 b.2))
def Q' (bC:kD)(mB:HX)(x0:Nat->Int)(x1:Bool):Pg agV:=opt (bC x0 4) λd=>opt (mB d.1 d.2.1 d.2.2 (x0 22) (x0 23) 0 x1) λd=>ret d
def rD:=λx0 x1=>(Q' ec tV x0 x1).val
theorem azC:∀bC mB,D0 [pH bC,Ub mB] 258 agU (lf M5) λb=>Q' bC mB b.1 b.2:=λ_ _ b=>by kernel_rfl
theorem agW [ax]:SC (Q9 rD):=s0 (.c sZ (.c ad9 (.nil _))) (azC ec tV)
def atv:=qa (pr (cu (app 0 27) Ft) (cl auw nil))
def aax:=qe (res (pu Tl (pl (cl (zM auw) nil) nil)))
abbrev atw:=aax.B
abbrev K1:=Int->Int->Int->NI->Int->Int->Int->Option atw
def ae8 (g:K1):Ct:=(259,FC atv (lf aax) (λb=>g b.1.1 b.1.2.1 b.1.b b.2.1 b.b.1 b.b.2.1 b.c))
def ae9 (x0:Int)(x1:Int)(x2:Int)(x3:Nat->Int)(x4:Int)(x5:Int)(x6:Int):Pg atw:=ret (λj=>bif Nat.beq j 6 then x2 else bif Nat.beq j 23 then wI (0-x1) else bif Nat.beq j 5 then x1 else bif Nat.beq j 22 then wI (0-x0) else bif Nat.beq j 4 then x0 else x3 j,x4,x5,x6)
def Ay:=λx0 x1 x2 x3 x4 x5 x6=>(ae9 x0 x1 x2 x3 x4 x5 x6).val
abbrev afa:=Unit
def atx (p:afa):KK:=⟨[],⟨[⟨2,(1::2::4::rg 6 24 []),[]⟩],[],[],[],(some ⟨0,(rg 0 30 []),[]⟩)⟩,0,259⟩
theorem aHR (p:afa):D2 (atx p) atv (lf aax) λb=>ae9 b.1.1 b.1.2.1 b.1.b b.2.1 b.b.1 b.b.2.1 b.c:=λb=>by kernel_rfl
abbrev aty:afa:=()
theorem atz [ax]:SC (ae8 Ay):=sc (kS (k:=atx aty) (.nil _) [2] [] ⟨kN,trivial⟩ trivial (aHR aty))
def agX:=qa (pr (cu aP (c jX (c (aa ah4) fT))) bA)
def M6:=qe aAH
abbrev agY:=M6.B
abbrev agZ:=NI->Int->Int->Int->Bool->Option agY
def ag0 (g:agZ):Ct:=(236,FC agX (lf M6) (λb=>g b.1.1 b.1.2.1.1 b.1.2.1.2 b.1.b b.2))
def Ra (Rb:By)(te:zw)(aV:cQ)(aD:cx)(afb:K1)(x0:Nat->Int)(x1:Int)(x2:Int)(x3:Int)(x4:Bool):Pg agY:=opt (Rb x0 x4) λd=>opt (te d.1.1 d.1.2.1 d.1.2.2 d.2) λaj=>ae (decide (aj.1<1073741824)) (ret (((λx=>0,0,0,0),4),aj.2)) (opt (aV x1 aj.1 aj.2) λaI=>opt (aD d.1.1 aj.1 30 aI.2) λbz=>opt (aD d.1.2.1 aj.1 30 bz.2) λcq=>opt (aD d.1.2.2 aj.1 30 cq.2) λd=>opt (afb bz.1 cq.1 d.1 (λx=>0) aI.1 x2 x3) λeo=>ret ((eo,0),d.2))
def Bz:=λx0 x1 x2 x3 x4=>(Ra rD ot bH bm Ay x0 x1 x2 x3 x4).val
abbrev Rc:=By×zw×cQ×cx×K1
def ag1 (p:Rc):KK:=⟨[Q9 p.1,OM p.2.1,gE p.b.1,fK p.b.2.1,ae8 p.c],⟨[⟨8,(rg 1 7 (9::rg 14 19 (rg 34 14 []))),[]⟩],[],[],[],(some ⟨0,(rg 0 8 (rg 10 38 [])),[]⟩)⟩,0,236⟩
theorem azD (p:Rc):D2 (ag1 p) agX (lf M6) λb=>Ra p.1 p.2.1 p.b.1 p.b.2.1 p.c b.1.1 b.1.2.1.1 b.1.2.1.2 b.1.b b.2:=λb=>by kernel_rfl
abbrev ag2:Rc:=(rD,ot,bH,bm,Ay)
theorem azE [ax]:SC (ag0 Bz):=sc (kS (k:=ag1 ag2) (.c agW (.c XT (.c iu (.c gD (.c atz (.nil _)))))) [8] [] ⟨kN,trivial⟩ trivial (azD ag2))
def ag3:=qa (pr (cu aP (c jX wZ)) bA)
def M7:=qe aAH
abbrev ag4:=M7.B
abbrev ag5:=NI->Int->Int->Bool->Option ag4
def ag6 (g:ag5):Ct:=(237,FC ag3 (lf M7) (λb=>g b.1.1 b.1.2.1 b.1.b b.2))
def Re (bd:dy)(eK:o6)(Rb:By)(OX:Dj)(aD:cx)(aC:bK)(aV:cQ)(afb:K1)(x0:Nat->Int)(x1:Int)(x2:Int)(x3:Bool):Pg ag4:=opt (bd x0) λd=>opt (eK d.1 d.2.1 d.2.2.1 d.2.2.2 x3) λd=>opt (Rb x0 d.2) λaj=>opt (OX d.1 aj.1.1 aj.1.2.1 aj.1.2.2 aj.2) λaI=>let n1:=aI.1.1;ae (decide (n1<5368709120)) (ret (((λx=>0,0,0,0),4),aI.2)) (opt (aD aI.1.2.1 n1 30 aI.2) λbz=>opt (aC bz.1 (d.1 0) 30 bz.2) λcq=>opt (aV (d.1 1) cq.1 cq.2) λeo=>opt (aD eo.1 n1 30 eo.2) λcJ=>opt (aC bz.1 (d.1 3) 30 cJ.2) λkI=>opt (aV (d.1 4) kI.1 kI.2) λoJ=>opt (aD oJ.1 n1 30 oJ.2) λmI=>opt (aC bz.1 (d.1 6) 30 mI.2) λjA=>opt (aV (d.1 7) jA.1 jA.2) λd=>opt (aD d.1 n1 30 d.2) λd=>opt (afb cJ.1 mI.1 d.1 (λx=>0) (wI (0-bz.1)) x1 x2) λpC=>ret ((pC,0),d.2))
def BA:=λx0 x1 x2 x3=>(Re bY jg rD wh bm aU bH Ay x0 x1 x2 x3).val
abbrev Rf:=dy×o6×By×Dj×cx×bK×cQ×K1
def ag7 (p:Rf):KK:=⟨[iL p.1,BW p.2.1,Q9 p.b.1,X3 p.b.2.1,fK p.c.1,eL p.c.2.1,gE p.c.b.1,ae8 p.c.b.2],⟨[⟨9,(rg 1 7 (9::rg 15 26 (rg 42 26 []))),[]⟩],[],[],[],(some ⟨0,(rg 0 8 (rg 10 58 [])),[]⟩)⟩,0,237⟩
theorem azF (p:Rf):D2 (ag7 p) ag3 (lf M7) λb=>Re p.1 p.2.1 p.b.1 p.b.2.1 p.c.1 p.c.2.1 p.c.b.1 p.c.b.2 b.1.1 b.1.2.1 b.1.b b.2:=λb=>by kernel_rfl
abbrev ag8:Rf:=(bY,jg,rD,wh,bm,aU,bH,Ay)
theorem azG [ax]:SC (ag6 BA):=sc (kS (k:=ag7 ag8) (.c jC (.c EM (.c agW (.c ajx (.c gD (.c eY (.c iu (.c atz (.nil _))))))))) [9] [] ⟨kN,trivial⟩ trivial (azF ag8))
def ab1:=qa (pl fT nil)
def K2:=qe Fq
abbrev ab2:=K2.B
abbrev M8:=Int->Option ab2
def ab3 (g:M8):Ct:=(142,FC ab1 (lf K2) (λb=>g b))
def M9 (aq:bX)(aE:bS)(x0:Int):Pg ab2:=opt (aq (wI (x0*x0)) 17592186044416 1000000000000 false) λd=>opt (aE d.1 1 72057594037927936 d.2) λd=>ret d.1
def yQ:=λx0=>(M9 aT aZ x0).val
theorem avS:∀aq aE,D0 [cU aq,du aE] 142 ab1 (lf K2) λb=>M9 aq aE b:=λ_ _ b=>by kernel_rfl
theorem avT [ax]:SC (ab3 yQ):=s0 (.c c8 (.c dM (.nil _))) (avS aT aZ)
def atA:=qa (pr (cu aP Fu) bA)
def aay:=qe aSu
abbrev atB:=aay.B
abbrev afc:=Int->Int->Int->Int->Int->Int->Int->Int->Int->Bool->Option atB
def afd (g:afc):Ct:=(94,FC atA (lf aay) (λb=>g b.1.1 b.1.2.1 b.1.b.1 b.1.b.2.1 b.1.c.1 b.1.c.2.1 b.1.c.b.1 b.1.c.b.2.1 b.1.d b.2))
def afe (aq:bX)(avU:M8)(x0:Int)(x1:Int)(x2:Int)(x3:Int)(x4:Int)(x5:Int)(x6:Int)(x7:Int)(x8:Int)(x9:Bool):Pg atB:=ae (decide (x1< -10000000)) (ret (((0,0,0,0),1),x9)) (ae (decide (x1>10000000)) (ret (((0,0,0,0),1),x9)) (ae (decide (x2< -10000000)) (ret (((0,0,0,0),1),x9)) (ae (decide (x2>10000000)) (ret (((0,0,0,0),1),x9)) (ae (decide (x3<1)) (ret (((0,0,0,0),1),x9)) (ae (decide (x3>10000000)) (ret (((0,0,0,0),1),x9)) (ae (decide (x4<0)) (ret (((0,0,0,0),1),x9)) (ae (decide (x4>100)) (ret (((0,0,0,0),1),x9)) (opt (aq x1 1073741824 1000000 x9) λd=>opt (aq x2 1073741824 1000000 d.2) λaj=>opt (avU x3) λaI=>ret (((d.1,aj.1,aI,x4),0),aj.2)))))))))
def Az:=λx0 x1 x2 x3 x4 x5 x6 x7 x8 x9=>(afe aT yQ x0 x1 x2 x3 x4 x5 x6 x7 x8 x9).val
abbrev aff:=bX×M8
def atC (p:aff):KK:=⟨[cU p.1,ab3 p.2],⟨[⟨2,(1::rg 5 4 (rg 12 4 (17::rg 20 8 (32::33::38::39::rg 44 20 [])))),[]⟩],[],[0],[],(some ⟨0,(rg 0 4 (rg 6 58 [])),[]⟩)⟩,0,94⟩
theorem aHS (p:aff):D2 (atC p) atA (lf aay) λb=>afe p.1 p.2 b.1.1 b.1.2.1 b.1.b.1 b.1.b.2.1 b.1.c.1 b.1.c.2.1 b.1.c.b.1 b.1.c.b.2.1 b.1.d b.2:=λb=>by kernel_rfl
abbrev atD:aff:=(aT,yQ)
theorem atE [ax]:SC (afd Az):=sc (kS (k:=atC atD) (.c c8 (.c avT (.nil _))) [2] [] ⟨kN,trivial⟩ trivial (aHS atD))
def ab4:=qa (pr (cu aP apz) bA)
def K3:=qe aMe
abbrev ab5:=K3.B
abbrev M':=NI->Bool->Option ab5
def ab6 (g:M'):Ct:=(260,FC ab4 (lf K3) (λb=>g b.1 b.2))
def Na (bd:dy)(eK:o6)(aD:cx)(x0:Nat->Int)(x1:Bool):Pg ab5:=opt (bd x0) λd=>opt (eK d.1 d.2.1 d.2.2.1 d.2.2.2 x1) λd=>ae (decide (d.1 8<751619277)) (ret ((0,4),d.2)) (opt (aD (x0 9) (d.1 8) 30 d.2) λd=>let y0:=wI (0-d.1);ae (decide (y0<536870912)) (ret ((0,4),d.2)) (ret ((y0,0),d.2)))
def yR:=λx0 x1=>(Na bY jg bm x0 x1).val
theorem avV:∀bd eK aD,D0 [iL bd,BW eK,fK aD] 260 ab4 (lf K3) λb=>Na bd eK aD b.1 b.2:=λ_ _ _ b=>by kernel_rfl
theorem avW [ax]:SC (ab6 yR):=s0 (.c jC (.c EM (.c gD (.nil _)))) (avV bY jg bm)
def atF:=qa (pr (cu aP (c jX (c ac6 fT))) bA)
def ag9:=qe (res (pr aRM (pl lk nil)))
def azH:=qe (res (pu (py (cu (rc (il (pu B8 (pu yg (pu (szl rq4) (pu (nat 27) iy)))))) ah6)) (pr lk (cl aMl nil))))
abbrev SL:=ag9.B⊕(Bool×NI×Int×Int×Int×NI×Int)
def atG:SL->T:=ls (lf ag9) (λd=>lf azH (d.1,d.2.1,d.b.1,d.b.2.1,d.c.1,d.c.2.1,d.c.b,d.b.2.1,d.c.1))
abbrev atH:=NI->Int->Int->Int->Int->Int->Bool->Option SL
def atI (g:atH):Ct:=(238,FC atF atG (λb=>g b.1.1 b.1.2.1.1 b.1.2.1.2.1 b.1.2.1.b.1 b.1.2.1.b.2 b.1.b b.2))
def SM (avX:M')(bd:dy)(eK:o6)(bC:kD)(OX:Dj)(aD:cx)(aV:cQ)(x0:Nat->Int)(x1:Int)(x2:Int)(x3:Int)(x4:Int)(x5:Int)(x6:Bool):Pg SL:=ae (decide (x4<30)) (ret (Sum.inl (4,x6))) (opt (avX x0 x6) λd=>let n1:=d.1.1;ae (d.1.2!=0) (ret (Sum.inl (d.1.2,d.2))) (opt (bd x0) λaj=>opt (eK aj.1 aj.2.1 aj.2.2.1 aj.2.2.2 d.2) λaI=>opt (bC x0 4) λbz=>opt (OX aI.1 bz.1 bz.2.1 bz.2.2 aI.2) λcq=>opt (aD cq.1.2.1 n1 30 cq.2) λeo=>opt (aV x1 eo.1 eo.2) λcJ=>opt (aD cq.1.1 n1 30 cJ.2) λkI=>opt (aV x2 (wI (0-kI.1)) kI.2) λoJ=>opt (aD (aI.1 1) n1 30 oJ.2) λmI=>opt (aD (aI.1 0) n1 30 mI.2) λjA=>opt (aD (aI.1 4) n1 30 jA.2) λpC=>opt (aD (aI.1 3) n1 30 pC.2) λzz=>opt (aD (aI.1 7) n1 30 zz.2) λGx=>opt (aD (aI.1 6) n1 30 Gx.2) λd=>ret (Sum.inr (d.2,λj=>bif Nat.beq j 6 then Gx.1 else bif Nat.beq j 5 then pC.1 else bif Nat.beq j 4 then mI.1 else 0,cJ.1,x3,x5,λj=>bif Nat.beq j 6 then wI (0-d.1) else bif Nat.beq j 5 then wI (0-zz.1) else bif Nat.beq j 4 then wI (0-jA.1) else 0,oJ.1))))
def AA:=λx0 x1 x2 x3 x4 x5 x6=>(SM yR bY jg ec wh bm bH x0 x1 x2 x3 x4 x5 x6).val
abbrev afg:=M'×dy×o6×kD×Dj×cx×cQ
def atJ (p:afg):KK:=⟨[ab6 p.1,iL p.2.1,BW p.b.1,pH p.b.2.1,X3 p.c.1,fK p.c.2.1,gE p.c.b],⟨[⟨11,(rg 1 9 (11::13::rg 16 49 (rg 66 30 []))),[]⟩],[],[0],[],(some ⟨0,(rg 0 8 (rg 10 86 [])),[]⟩)⟩,0,238⟩
theorem aHT (p:afg):D2 (atJ p) atF atG λb=>SM p.1 p.2.1 p.b.1 p.b.2.1 p.c.1 p.c.2.1 p.c.b b.1.1 b.1.2.1.1 b.1.2.1.2.1 b.1.2.1.b.1 b.1.2.1.b.2 b.1.b b.2:=λb=>by kernel_rfl
abbrev atK:afg:=(yR,bY,jg,ec,wh,bm,bH)
theorem aHU [ax]:SC (atI AA):=sc (kS (k:=atJ atK) (.c avW (.c jC (.c EM (.c sZ (.c ajx (.c gD (.c iu (.nil _)))))))) [11] [] ⟨kN,trivial⟩ trivial (aHT atK))
def atL:=qa (pl fT nil)
def aaz:=qe B9
abbrev atM:=aaz.B
abbrev SN:=Int->Option atM
def SO (g:SN):Ct:=(83,FC atL (lf aaz) (λb=>g b))
def SP (x0:Int):Pg atM:=ae (decide (x0>=0)) (ret (decide (x0<6))) (ret false)
def nP:=λx0=>(SP x0).val
theorem aHV:D0 [] 83 atL (lf aaz) λb=>SP b:=λb=>by kernel_rfl
theorem afh [ax]:SC (SO nP):=s0 (.nil _) aHV
def OZ:=qa (pr (cu Gg fT) aLV)
def Cf:=qe (res (pu Tl (pl (cl (zM (cl gi (cu aS (cu aus nil)))) nil) nil)))
abbrev O0:=Cf.B
abbrev O1:=Int->Int->Int->Bool->Option O0
def O2 (g:O1):Ct:=(265,FC OZ (lf Cf) (λb=>g b.1 b.2.1 b.b.1 b.b.2))
def DB (x0:Int)(x1:Int)(x2:Int)(x3:Bool):Pg O0:=ae (!x3) (ret x0) (ae (decide (x0>x1)) (ret x0) (ret x1))
def qi:=λx0 x1 x2 x3=>(DB x0 x1 x2 x3).val
theorem ak0:D0 [] 265 OZ (lf Cf) λb=>DB b.1 b.2.1 b.b.1 b.b.2:=λb=>by kernel_rfl
theorem ak1 [ax]:SC (O2 qi):=s0 (.nil _) ak0
def O3:=qa (pu (cu Gg nil) aLV)
def Cg:=qe (res (pu Tl (pl (cl (zM aLO) nil) nil)))
abbrev O4:=Cg.B
abbrev O5:=Int->Int->Bool->Option O4
def O6 (g:O5):Ct:=(266,FC O3 (lf Cg) (λb=>g b.1 b.2.1 b.b))
def DD (x0:Int)(x1:Int)(x2:Bool):Pg O4:=let y0:=wI (x1+1);ret (x0,if 1000<y0 then 1000 else y0,x2)
def qj:=λx0 x1 x2=>(DD x0 x1 x2).val
theorem ak2:D0 [] 266 O3 (lf Cg) λb=>DD b.1 b.2.1 b.b:=λb=>by kernel_rfl
theorem ak3 [ax]:SC (O6 qj):=s0 (.nil _) ak2
def GC:=qa (dp (cu awt (c ai (c ai aGe))) λa=>(c kG (cl (cl (gs a.b.1 apx) nil) nil)))
def vg:=qe (res (pu Tl (pl (cl aAF Xl) nil)))
abbrev GD:=vg.B
abbrev GF:=Int->Int->Nat->NI->NI->(Nat->Bool)->NI->NI->NI->Int->(Nat->Bool)->NI->NI->Bool->Option GD
def GG (g:GF):Ct:=(256,sW 3 [.b,.i .i64,.i .i64] (FC GC (lf vg) (λb=>g b.1.1 b.1.2.1 b.1.b.1 b.2.1.1.1 b.2.1.1.2.1 b.2.1.1.b.1 b.2.1.1.b.2.1 b.2.1.1.c.1 b.2.1.1.c.2 b.2.1.2 b.b.1 b.b.2.1 b.c b.1.b.2)))
def xq (jG:SN)(pM:aaa)(wB:O1)(wC:O5)(x0:Int)(x1:Int)(x2:Nat)(x3:Nat->Int)(x4:Nat->Int)(x5:Nat->Bool)(x6:Nat->Int)(x7:Nat->Int)(x8:Nat->Int)(x9:Int)(fP:Nat->Bool)(fQ:Nat->Int)(zO:Nat->Int)(w0:Bool):Pg GD:=let n3:=((x5,x6,x7,x8).1 (Int.toNat x0));let n2:=((x4,x5,x6,x7,x8).1 (Int.toNat x0));let n1:=((x3,x4,x5,x6,x7,x8).1 (Int.toNat x0));let y0:=aX x0 6;let y1:=0+Int.toNat x0*6+3;let y2:=Nat.ble y1 36;let y3:=y2&&Nat.ble y1 37;opt (jG x0) λd=>ae (!d) (ret ((x3,x4,x5,x6,x7,x8),x9)) (ae (Int.ofNat x2==0) (ret ((x3,x4,x5,x6,x7,x8),x9)) (ae (Nat.beq x2 x2) (opt (pM x2 fP fQ zO (w0&&true)) λd=>ae (decide (d.1>0)) (ae y0 (ae y2 (opt (wB x1 n1 n2 n3) λd=>ae y3 (ret ((λj=>bif Nat.beq j (Int.toNat x0) then d else(x3,x4,x5,x6,x7,x8).1 j,λj=>bif Nat.beq j (Int.toNat x0) then 0 else(x4,x5,x6,x7,x8).1 j,λj=>bif Nat.beq j (Int.toNat x0) then true else(x5,x6,x7,x8).1 j,x6,x7,x8),x9)) no) no) no) (ae y0 (ae y2 (opt (wC n1 n2 n3) λd=>ae y3 (ret ((λj=>bif Nat.beq j (Int.toNat x0) then d.1 else(x3,x4,x5,x6,x7,x8).1 j,λj=>bif Nat.beq j (Int.toNat x0) then d.2.1 else(x4,x5,x6,x7,x8).1 j,λj=>bif Nat.beq j (Int.toNat x0) then d.2.2 else(x5,x6,x7,x8).1 j,x6,x7,x8),x9)) no) no) no)) no))
def lT:=λx0 x1 x2 x3 x4 x5 x6 x7 x8 x9 fP fQ zO w0=>(xq nP xi qi qj x0 x1 x2 x3 x4 x5 x6 x7 x8 x9 fP fQ zO w0).val
theorem aaA:∀jG pM wB wC,D1 [SO jG,aab pM,O2 wB,O6 wC] [0] 256 GC (lf vg) λb=>xq jG pM wB wC b.1.1 b.1.2.1 b.1.b.1 b.2.1.1.1 b.2.1.1.2.1 b.2.1.1.b.1 b.2.1.1.b.2.1 b.2.1.1.c.1 b.2.1.1.c.2 b.2.1.2 b.b.1 b.b.2.1 b.c b.1.b.2:=λ_ _ _ _ b=>by kernel_rfl
theorem aaB [ax]:SC (GG lT):=sc (Sound.nil 3 [.b,.i .i64,.i .i64]<|k0 (.c afh (.c aos (.c ak1 (.c ak3 (.nil _))))) (aaA nP xi qi qj))
def LM:=qa (pr (cu Gg wZ) aLV)
def AB:=qe aGm
abbrev LN:=AB.B
abbrev LO:=Int->Int->Int->Int->Bool->Option LN
def LP (g:LO):Ct:=(46,FC LM (lf AB) (λb=>g b.1.1 b.1.2 b.2.1 b.b.1 b.b.2))
def Ci (x0:Int)(x1:Int)(x2:Int)(x3:Int)(x4:Bool):Pg LN:=let y0:=decide (x1>=0);ae (!x4) (ret false) (ae (decide (x0>=x2)) (ae y0 (ret (decide (wU (wU x0-wU x2)<=wU x1))) (ret false)) (ae y0 (ret true) (ret (decide (wU (wU x2-wU x0)>=wU (0-wU x1))))))
def oN:=λx0 x1 x2 x3 x4=>(Ci x0 x1 x2 x3 x4).val
theorem ahL:D0 [] 46 LM (lf AB) λb=>Ci b.1.1 b.1.2 b.2.1 b.b.1 b.b.2:=λb=>by kernel_rfl
theorem ahM [ax]:SC (LP oN):=s0 (.nil _) ahL
def IY:=qa (pr (cu (app 0 6) fT) (cl (a 3 aLO jW) nil))
def xr:=qe aGm
abbrev IZ:=xr.B
abbrev ri:=Int->Int->Int->Bool->Int->Int->Int->Option IZ
def yS (g:ri):Ct:=(18,FC IY (lf xr) (λb=>g b.1 b.2.1.1 b.2.1.2.1 b.2.1.b b.b.1 b.b.2.1 b.c))
def yT (uO:LO)(x0:Int)(x1:Int)(x2:Int)(x3:Bool)(x4:Int)(x5:Int)(x6:Int):Pg IZ:=opt (uO x0 x5 x1 x2 x3) λd=>ae d (ret (decide (x2<=x6))) (ret false)
def ib:=λx0 x1 x2 x3 x4 x5 x6=>(yT oN x0 x1 x2 x3 x4 x5 x6).val
theorem ab7:∀uO,D0 [LP uO] 18 IY (lf xr) λb=>yT uO b.1 b.2.1.1 b.2.1.2.1 b.2.1.b b.b.1 b.b.2.1 b.c:=λ_ b=>by kernel_rfl
theorem I0 [ax]:SC (yS ib):=s0 (.c ahM (.nil _)) (ab7 oN)
def GH:=qa (pr (cu awt wZ) aAG)
def vh:=qe aGm
abbrev GI:=vh.B
abbrev xt:=Int->Int->NI->NI->(Nat->Bool)->NI->NI->NI->Int->Option GI
def GJ (g:xt):Ct:=(110,FC GH (lf vh) (λb=>g b.1.1 b.1.2 b.2.1.1 b.2.1.2.1 b.2.1.b.1 b.2.1.b.2.1 b.2.1.c.1 b.2.1.c.2 b.b))
def xu (jG:SN)(jU:ri)(x0:Int)(x1:Int)(x2:Nat->Int)(x3:Nat->Int)(x4:Nat->Bool)(x5:Nat->Int)(x6:Nat->Int)(x7:Nat->Int)(x8:Int):Pg GI:=opt (jG x0) λd=>ae d (ae (aX x0 6) (ae (Nat.ble (0+Int.toNat x0*6+6) 36) (opt (jU x1 ((x2,x3,x4,x5,x6,x7).1 (Int.toNat x0)) ((x3,x4,x5,x6,x7).1 (Int.toNat x0)) ((x4,x5,x6,x7).1 (Int.toNat x0)) ((x5,x6,x7).1 (Int.toNat x0)) (x6 (Int.toNat x0)) (x7 (Int.toNat x0))) λd=>ret d) no) no) (ret false)
def lU:=λx0 x1 x2 x3 x4 x5 x6 x7 x8=>(xu nP ib x0 x1 x2 x3 x4 x5 x6 x7 x8).val
theorem aaC:∀jG jU,D0 [SO jG,yS jU] 110 GH (lf vh) λb=>xu jG jU b.1.1 b.1.2 b.2.1.1 b.2.1.2.1 b.2.1.b.1 b.2.1.b.2.1 b.2.1.c.1 b.2.1.c.2 b.b:=λ_ _ b=>by kernel_rfl
theorem aaD [ax]:SC (GJ lU):=s0 (.c afh (.c I0 (.nil _))) (aaC nP ib)
def GK:=qa (pr (cu awt fT) aAG)
def vi:=qe auv
abbrev GL:=vi.B
abbrev GM:=Int->NI->NI->(Nat->Bool)->NI->NI->NI->Int->Option GL
def GN (g:GM):Ct:=(43,FC GK (lf vi) (λb=>g b.1 b.2.1.1 b.2.1.2.1 b.2.1.b.1 b.2.1.b.2.1 b.2.1.c.1 b.2.1.c.2 b.b))
def dh:=qs (st (pr (cu awt (c ai (us 3 (c ai (us 2 aGd))))) (pl (cl pY nil) nil)))
def DE:=qs (st (pr (cu awt (c ai (us 3 (c ai (us 2 aGk))))) (pl (cl pY nil) nil)))
abbrev ig:=DE.B
def DF {ρ:Type}:=@ef ig ((.ex 0)) DE ρ
def ud (jU:ri)(d:dh.B):PL dh ig:=let n3:=d.1.1;let n2:=d.2.1.2.2;let n1:=d.1.2;let y0:=Int.toNat n1.2;let y1:=y0*6;let y2:=wI (n1.2+1);let y3:=decide (n1.2<6);ae y3 (ae (aX n1.2 6) (ae (Nat.ble (2+y1+1) 36) (ae (n2.1 y0) (ae (Nat.ble (0+y1+6) 36) (opt (jU n3 (d.2.1.1 y0) (d.2.1.2.1 y0) (n2.1 y0) (n2.2.1 y0) (n2.2.2.1 y0) (n2.2.2.2 y0)) λaj=>ae (!aj) (ae (!decide (n1.2<0)) (ret (Sum.inl ((n3,wI (n1.1+wI (1*2^min y0 64)),y2),d.2))) no) (ret (Sum.inl ((n3,n1.1,y2),d.2)))) no) (ret (Sum.inl ((n3,n1.1,y2),d.2)))) no) no) (ret (Sum.inr ((n3,n1.1,n1.2,y3),d.2)))
def ue:=bD (ud ib) 2000
def xw (dG:LT dh ig)(x0:Int)(x1:Nat->Int)(x2:Nat->Int)(x3:Nat->Bool)(x4:Nat->Int)(x5:Nat->Int)(x6:Nat->Int)(x7:Int):Pg GL:=opt (dG ((x0,0,0),(x1,x2,x3,x4,x5,x6),x7)) λd=>ret d.1.2.1
def lV:=λx0 x1 x2 x3 x4 x5 x6 x7=>(xw ue x0 x1 x2 x3 x4 x5 x6 x7).val
abbrev pN:=ri×(LT dh ig)
def xx (p:pN):KK:=⟨[yS p.1],⟨[⟨3,(2::3::4::6::7::rg 9 13 (rg 26 7 (rg 22 4 []))),[]⟩],[fx 3 1 dh DF p.2],[],[],(some ⟨0,(rg 0 4 (rg 5 28 [])),[]⟩)⟩,1,43⟩
theorem SQ (p:pN):LI (xx p) 3 dh DF (ud p.1):=λ_ d c K=>by kernel_rfl
theorem aaE (p:pN):D2 (xx p) GK (lf vi) λb=>xw p.2 b.1 b.2.1.1 b.2.1.2.1 b.2.1.b.1 b.2.1.b.2.1 b.2.1.c.1 b.2.1.c.2 b.b:=λb=>by kernel_rfl
abbrev xy:pN:=(ib,ue)
theorem aaF [ax]:SC (GN lV):=sc (kS (k:=xx xy) (.c I0 (.nil _)) [3] [] ⟨kL (SQ xy),trivial⟩ trivial (aaE xy))
def LQ:=qa (pu (cu awt nil) aAG)
def AD:=qe aGm
abbrev LR:=AD.B
abbrev LS:=NI->NI->(Nat->Bool)->NI->NI->NI->Int->Option LR
def LU (g:LS):Ct:=(44,FC LQ (lf AD) (λb=>g b.1.1 b.1.2.1 b.1.b.1 b.1.b.2.1 b.1.c.1 b.1.c.2 b.2))
def Cj (x0:Nat->Int)(x1:Nat->Int)(x2:Nat->Bool)(x3:Nat->Int)(x4:Nat->Int)(x5:Nat->Int)(x6:Int):Pg LR:=ret (decide (x6>=10))
def oO:=λx0 x1 x2 x3 x4 x5 x6=>(Cj x0 x1 x2 x3 x4 x5 x6).val
theorem ahN:D0 [] 44 LQ (lf AD) λb=>Cj b.1.1 b.1.2.1 b.1.b.1 b.1.b.2.1 b.1.c.1 b.1.c.2 b.2:=λb=>by kernel_rfl
theorem ahO [ax]:SC (LU oO):=s0 (.nil _) ahN
def DG:=qa (pr (cu awt (c (aa aGj) (cl (aa aGj) nil))) aAG)
def sd:=qe (res (pu Tl (pl (cl aAF nil) nil)))
abbrev DH:=sd.B
abbrev DI:=Bool->Int->Int->Bool->Int->Int->NI->NI->(Nat->Bool)->NI->NI->NI->Int->Option DH
def DJ (g:DI):Ct:=(230,FC DG (lf sd) (λb=>g b.1.1.1 b.1.1.2.1 b.1.1.b b.1.2.1 b.1.b.1 b.1.b.2 b.2.1.1 b.2.1.2.1 b.2.1.b.1 b.2.1.b.2.1 b.2.1.c.1 b.2.1.c.2 b.b))
def uf (x0:Bool)(x1:Int)(x2:Int)(x3:Bool)(x4:Int)(x5:Int)(x6:Nat->Int)(x7:Nat->Int)(x8:Nat->Bool)(x9:Nat->Int)(fP:Nat->Int)(fQ:Nat->Int)(zO:Int):Pg DH:=let y0:=wI (zO+1);let y1:=wI (zO-1);ae (decide (x1>0)) (ae (decide (x4>0)) (ae (!x0) (ae (!x3) (ret ((x6,x7,x8,x9,fP,fQ),if 1000<y0 then 1000 else y0)) (ret ((x6,x7,x8,x9,fP,fQ),if 0>y1 then 0 else y1))) (ret ((x6,x7,x8,x9,fP,fQ),if 0>y1 then 0 else y1))) (ae (decide (x1<0)) (ae (!x0) (ae (!x3) (ae (decide (x4<0)) (ret ((x6,x7,x8,x9,fP,fQ),if 1000<y0 then 1000 else y0)) (ret ((x6,x7,x8,x9,fP,fQ),if 0>y1 then 0 else y1))) (ret ((x6,x7,x8,x9,fP,fQ),if 0>y1 then 0 else y1))) (ret ((x6,x7,x8,x9,fP,fQ),if 0>y1 then 0 else y1))) (ae (!x0) (ae (!x3) (ret ((x6,x7,x8,x9,fP,fQ),if 0>y1 then 0 else y1)) (ret ((x6,x7,x8,x9,fP,fQ),if 0>y1 then 0 else y1))) (ret ((x6,x7,x8,x9,fP,fQ),if 0>y1 then 0 else y1))))) (ae (decide (x1<0)) (ae (!x0) (ae (!x3) (ae (decide (x4<0)) (ret ((x6,x7,x8,x9,fP,fQ),if 1000<y0 then 1000 else y0)) (ret ((x6,x7,x8,x9,fP,fQ),if 0>y1 then 0 else y1))) (ret ((x6,x7,x8,x9,fP,fQ),if 0>y1 then 0 else y1))) (ret ((x6,x7,x8,x9,fP,fQ),if 0>y1 then 0 else y1))) (ae (!x0) (ae (!x3) (ret ((x6,x7,x8,x9,fP,fQ),if 0>y1 then 0 else y1)) (ret ((x6,x7,x8,x9,fP,fQ),if 0>y1 then 0 else y1))) (ret ((x6,x7,x8,x9,fP,fQ),if 0>y1 then 0 else y1))))
def kq:=λx0 x1 x2 x3 x4 x5 x6 x7 x8 x9 fP fQ zO=>(uf x0 x1 x2 x3 x4 x5 x6 x7 x8 x9 fP fQ zO).val
theorem VP:D0 [] 230 DG (lf sd) λb=>uf b.1.1.1 b.1.1.2.1 b.1.1.b b.1.2.1 b.1.b.1 b.1.b.2 b.2.1.1 b.2.1.2.1 b.2.1.b.1 b.2.1.b.2.1 b.2.1.c.1 b.2.1.c.2 b.b:=λb=>by kernel_rfl
theorem VQ [ax]:SC (DJ kq):=s0 (.nil _) VP
end Go.Proofs.YtldgljclcgaibaaGreat
namespace Go.Proofs.YtldgljclcgaibaaGreat
open Go.Ab Go.Ab.Pg
instance aOV (x0:Nat->Int)(x1:Nat->Int)(x2:Nat->Int)(x3:Int)(x4:Bool):bl (wq x0 x1 x2 x3 x4):=by
 unfold wq Kz
 refine aF ?_
 rw[bu];intro d1 _
 refine ay (akq _ (by simp)) λd _ hd=> ?_
 refine ay (akp _ (by simp)) λd _ hd=> ?_
 simp only[bE]
instance aXZ (x0 x1 x2:Int):bl (Ds x0 x1 x2):=by
 have h1:=oE x0
 have h2:=oE x1
 obtain⟨a,b,e,_,_⟩:=BY (sat x0) (sat x0) (by omega) (by omega) (by omega) (by omega)
 unfold Ds Vc
 refine aF ?_
 rw[oL,bM,oL,bM,aK]
 refine⟨λ_=>by rw[av];trivial,λc1=> ?_⟩
 rw[aK]
 refine⟨λ_=>by rw[av];trivial,λc2=> ?_⟩
 rw[aK]
 refine⟨λ_=>by rw[av];trivial,λc3=> ?_⟩
 have c1:=of_decide_eq_false c1
 have c2:=of_decide_eq_false c2
 have sq:0<=x2*x2∧x2*x2<=1000000:=by
  refine⟨Int.mul_nonneg (by omega) (by omega),?_⟩
  have:=Int.mul_le_mul (show x2<=1000 by omega) (show x2<=1000 by omega) (by omega) (by omega)
  omega
 have w1:wI (x2*x2)=x2*x2:=ey (by omega) (by omega)
 have w2:wI (x2*x2*65536)=x2*x2*65536:=ey (by omega) (by omega)
 obtain⟨a2,b2,e2,_,_⟩:=BY (x2*x2*65536) (sat x1) (by omega) (by omega) (by omega) (by omega)
 rw[e,bM,w1,w2,e2,bM]
 simp only[bE]
theorem azI (p:Nat×Bool)(a b:Int)(d:mr.B)(hd:0<=d.1.2.2.2∧d.1.2.2.2<=24∧d.1.1=p∧d.1.2.1=a∧d.1.2.2.1=b):Ok (Ve d) (λx:yL=>x.1.1=p∧x.1.2.1=a∧x.1.2.2.1=b):=
 ba (s:=_) (λd:mr.B=>0<=d.1.2.2.2∧d.1.2.2.2<=24∧d.1.1=p∧d.1.2.1=a∧d.1.2.2.1=b) (λd:mr.B=>Int.toNat (24-d.1.2.2.2)) (λx:yL=>x.1.1=p∧x.1.2.1=a∧x.1.2.2.1=b) (λd hd=>by
  have hw:wI (d.1.2.2.2+1)=d.1.2.2.2+1:=bg (by omega) (by omega)
  unfold Vd
  simp only[bE]
  simp only[nf,rN,hw]
  repeat' (first|exact True.intro|exact hd.2.2.1|exact hd.2.2.2.1|exact hd.2.2.2.2|omega|(intro _)|(apply And.intro))) 2000 d hd (by omega)
theorem azJ (d:mu.B)(hd:0<=d.1.2.2∧d.1.2.2<=d.1.2.1∧d.1.2.1<=1999∧d.1.2.1=((d.1.1.1:Nat):Int)):Ok (Vg d) (λx:yM=>True):=
 ba (s:=_) (λd:mu.B=>0<=d.1.2.2∧d.1.2.2<=d.1.2.1∧d.1.2.1<=1999∧d.1.2.1=((d.1.1.1:Nat):Int)) (λd:mu.B=>Int.toNat (d.1.2.1-d.1.2.2)) (λx:yM=>True) (λd hd=>by
  unfold Vf
  try dsimp only
  rw[aK]
  refine⟨λh=> ?_,λ_=>by simp only[av,Sum.elim_inr]⟩
  have h:=of_decide_eq_true h
  have hw:wI (d.1.2.2+1)=d.1.2.2+1:=bg (by omega) (by omega)
  rw[bB,aM,bB]
  refine⟨by simp only[bk];omega,rfl,?_⟩
  refine ay (azI d.1.1 d.1.2.1 d.1.2.2 _ (by simp)) λx _ hx=> ?_
  obtain⟨a1,a2,a3⟩:=hx
  simp only[bE,a1,a2,a3,hw]
  omega) 2000 d hd (by omega)
theorem aHW (x:KC.B)(h:x.1.2.1<=1999):bl (KD x):=by
 unfold KD aeP
 refine aF ?_
 rw[aK,aM,bB]
 refine⟨λ_=>by simp only[bE],λ_=>⟨rfl,?_⟩⟩
 refine ay (azJ _ (hdN x.1.2.1 h)) λd _ hd=> ?_
 simp only[av]
instance aWH (x0:Nat->Int)(x1:Nat->Int)(x2:Nat->Int)(x3:Nat->Int)(x4:Int)(x5:Int)(x6:Int)(x7:Bool):bl (OT x0 x1 x2 x3 x4 x5 x6 x7):=by
 have ta:=λ(d:Nat->Int) a b=>aHW ((d,1,true),a,b) (by show 1<=1999;omega)
 unfold OT akj
 refine aF ?_
 simp only[bE]
theorem aCR (n:Int)(d:nM.B)(hd:0<=d.1.2.2.2∧d.1.2.2.2<=d.1.2.2.1∧d.1.2.2.1<=1999∧d.1.2.2.1=((d.1.2.1.1:Nat):Int)∧(d.1.1:Int)=d.1.2.2.2∧d.1.2.2.1=n):Ok (Z' d) (λx:BZ=>(x.1.1:Int)=n):=
 ba (s:=_) (λd:nM.B=>0<=d.1.2.2.2∧d.1.2.2.2<=d.1.2.2.1∧d.1.2.2.1<=1999∧d.1.2.2.1=((d.1.2.1.1:Nat):Int)∧(d.1.1:Int)=d.1.2.2.2∧d.1.2.2.1=n) (λd:nM.B=>Int.toNat (d.1.2.2.1-d.1.2.2.2)) (λx:BZ=>(x.1.1:Int)=n) (λd hd=>by
  have hw:wI (d.1.2.2.2+1)=d.1.2.2.2+1:=bg (by omega) (by omega)
  unfold Z9
  simp only[bE]
  simp only[nf,rN,hw]
  repeat' (first|exact True.intro|omega|(intro _)|(apply And.intro))) 2000 d hd (by omega)
end Go.Proofs.YtldgljclcgaibaaGreat
namespace Go.Proofs.YtldgljclcgaibaaGreat
open Go.Ab Go.Ab.Pg
theorem aHX (x:OV.B)(h:x.1.2.2.1<=1999):Ok (OW x) (λr:Ym=>r.1.2.2=x.1.2.2.1):=by
 unfold OW akr
 show PQ _ _
 rw[aM,bB,bB]
 refine⟨rfl,rfl,?_⟩
 refine ay (aCR ((x.1.2.2.1:Nat):Int) _ ?_) λd _ hd=> ?_
 ·dsimp only
  simp only[Int.ofNat_eq_natCast]
  exact⟨by omega,by omega,by omega,trivial,rfl,trivial⟩
 ·rw[av]
  exact Int.ofNat.inj hd
theorem avY (d:kR.B)(hd:0<=d.1.2.2.2.2∧d.1.2.2.2.2<=d.1.2.2.2.1∧d.1.2.2.2.1<=1999∧d.1.2.2.2.1=((d.1.2.2.1.1:Nat):Int)):Ok (QP d) (λx:vN=>True):=
 ba (s:=_) (λd:kR.B=>0<=d.1.2.2.2.2∧d.1.2.2.2.2<=d.1.2.2.2.1∧d.1.2.2.2.1<=1999∧d.1.2.2.2.1=((d.1.2.2.1.1:Nat):Int)) (λd:kR.B=>Int.toNat (d.1.2.2.2.1-d.1.2.2.2.2)) (λx:vN=>True) (λd hd=>by
  have hw:wI (d.1.2.2.2.2+1)=d.1.2.2.2.2+1:=bg (by omega) (by omega)
  unfold QO
  simp only[bE]
  simp only[nf,Bool.not_eq_true',rN,hw]
  repeat' (first|exact True.intro|omega|(intro _)|(apply And.intro))) 2000 d hd (by omega)
theorem aoJ (x0:Nat)(x1:Nat->Bool)(x2:Nat->Int)(x3:Nat->Int)(w0:Bool)(h:x0<=1999):bl (xi x0 x1 x2 x3 w0):=by
 unfold xi aac
 refine aF ?_
 rw[aM,bB]
 refine⟨rfl,?_⟩
 refine ay (avY _ (hdN x0 h)) λd _ hd=> ?_
 simp only[bE]
instance aQg:bl dH:=by
 unfold dH MR
 exact aF (by simp only[bE])
theorem avZ (d:kU.B)(hd:0<=d.1.2.2.2.2∧d.1.2.2.2.2<=d.1.2.2.2.1∧d.1.2.2.2.1<=1999∧d.1.2.2.2.1=((d.1.2.2.1.1:Nat):Int)∧(d.1.1:Int)<=d.1.2.2.2.2∧(d.1.2.1:Int)<=d.1.2.2.2.2∧d.1.2.2.2.1<=1900):Ok (QR d) (λx:vO=>x.1.1<=1900∧x.1.2.1<=1900):=
 ba (s:=_) (λd:kU.B=>0<=d.1.2.2.2.2∧d.1.2.2.2.2<=d.1.2.2.2.1∧d.1.2.2.2.1<=1999∧d.1.2.2.2.1=((d.1.2.2.1.1:Nat):Int)∧(d.1.1:Int)<=d.1.2.2.2.2∧(d.1.2.1:Int)<=d.1.2.2.2.2∧d.1.2.2.2.1<=1900) (λd:kU.B=>Int.toNat (d.1.2.2.2.1-d.1.2.2.2.2)) (λx:vO=>x.1.1<=1900∧x.1.2.1<=1900) (λd hd=>by
  have hw:wI (d.1.2.2.2.2+1)=d.1.2.2.2.2+1:=bg (by omega) (by omega)
  unfold QQ
  simp only[bE]
  simp only[nf,Bool.not_eq_true',rN,hw]
  repeat' (first|exact True.intro|omega|(intro _)|(apply And.intro))) 2000 d hd (by omega)
theorem aEn (x0:Nat)(x1:Bool)(x2:Nat->Int)(x3:Nat->Int)(x4:Nat->Int)(x5:Nat->Int)(x6:Nat->Int)(x7:Nat->Int)(x8:Nat->Int)(x9:Nat->Int)(fP:Nat->Int)(fQ:Nat->Int)(w0:Bool)(h:x0<=1900):bl (Gy x0 x1 x2 x3 x4 x5 x6 x7 x8 x9 fP fQ w0):=by
 unfold Gy aag
 try dsimp only
 refine aF ?_
 rw[bu];intro d1 _
 rw[aM,bB,bB]
 refine⟨rfl,rfl,?_⟩
 refine ay (avZ _ ?_) λd _ hd=> ?_
 ·try dsimp only
  simp only[Int.ofNat_eq_natCast]
  exact⟨by omega,by omega,by omega,trivial,by omega,by omega,by omega⟩
 ·have t1:=λa b c e g=>aeU d.1.1 a b c e g hd.1
  have t2:=λa b c e g=>aeU d.1.2.1 a b c e g hd.2
  simp only[bE,aM,Bool.true_eq_false,false_implies]
instance aX0 (x0 x1:Nat->Int)(x2:Int)(x4:Bool)(x5:Nat->Int)(w0:Bool):bl (cP x0 x1 x2 4 x4 x5 w0):=KJ _ _ _ _ _ _ _ (by omega)
instance aX1 (x0 x1:Nat->Int)(x2:Int)(x4:Bool)(x5:Nat->Int)(w0:Bool):bl (cP x0 x1 x2 3 x4 x5 w0):=KJ _ _ _ _ _ _ _ (by omega)
instance aX2 (x0 x1:Nat->Int)(x2:Int)(x4:Bool)(x5:Nat->Int)(w0:Bool):bl (cP x0 x1 x2 2 x4 x5 w0):=KJ _ _ _ _ _ _ _ (by omega)
instance aX3 (x0 x1:Nat->Int)(x2:Int)(x4:Bool)(x5:Nat->Int)(w0:Bool):bl (cP x0 x1 x2 1 x4 x5 w0):=KJ _ _ _ _ _ _ _ (by omega)
instance aVv (x0:Nat->Int)(x1:Nat->Int)(x2:Nat->Int)(x3:Int)(x4:Int)(x5:Bool):bl (KN x0 x1 x2 x3 x4 x5):=by
 unfold KN aeW
 exact aF (by simp only[bE])
theorem atN (d:jE.B)(hd:0<=d.1.2.2.2.2∧d.1.2.2.2.2<=d.1.2.2.2.1∧d.1.2.2.2.1<=1999∧d.1.2.2.2.1=((d.1.2.2.1.1:Nat):Int)∧(d.1.2.1:Int)=d.1.2.2.2.2∧0<=d.1.1∧d.1.1+d.1.2.2.2.1<=24):Ok (MT d) (λx:tH=>True):=
 ba (s:=_) (λd:jE.B=>0<=d.1.2.2.2.2∧d.1.2.2.2.2<=d.1.2.2.2.1∧d.1.2.2.2.1<=1999∧d.1.2.2.2.1=((d.1.2.2.1.1:Nat):Int)∧(d.1.2.1:Int)=d.1.2.2.2.2∧0<=d.1.1∧d.1.1+d.1.2.2.2.1<=24) (λd:jE.B=>Int.toNat (d.1.2.2.2.1-d.1.2.2.2.2)) (λx:tH=>True) (λd hd=>by
  have hw:wI (d.1.2.2.2.2+1)=d.1.2.2.2.2+1:=bg (by omega) (by omega)
  unfold MS
  try dsimp only
  have h1:wI (d.1.1+d.1.2.2.2.2)=d.1.1+d.1.2.2.2.2:=ey (by omega) (by omega)
  simp only[h1]
  simp only[bE]
  simp only[nf,Bool.not_eq_true',rN,hw]
  repeat' (first|exact True.intro|omega|(intro _)|(apply And.intro))) 2000 d hd (by omega)
theorem VR (x0:Nat->Int)(x1:Int)(x2:Nat)(x3:Bool)(x4:Nat->Int)(w0:Bool)(h0:0<=x1)(h1:x1+(x2:Int)<=24):bl (iZ x0 x1 x2 x3 x4 w0):=by
 unfold iZ Vk
 refine aF ?_
 rw[bu];intro d1 _
 rw[aM,bB,bB]
 refine⟨rfl,rfl,?_⟩
 refine ay (atN _ ?_) λd _ hd=> ?_
 ·dsimp only
  simp only[Int.ofNat_eq_natCast]
  exact⟨by omega,by omega,by omega,trivial,rfl,h0,h1⟩
 ·simp only[bE]
def aha (a:Int)(n:Nat)(f:Nat->Int):Nat->Int:=λj=>bif Nat.beq j (n+1) then a else bif Nat.beq j n then a else f j
theorem sum_add (a b:Int)(n:Nat)(hn:n<=1000)(f g:Nat->Int):lS a b n n f g=some ((n+2,n+2),aha a n f,aha b n g):=by
 have hb:Nat.ble ((n+2)*8) 140737488355328=true:=by rw[bO];omega
 simp only[lS,Vq,bJ,bP,eG,hb,cond_true]
 rfl
theorem aQh (a b:Int)(f g:Nat->Int):lS a b 0 0 f g=some ((2,2),aha a 0 f,aha b 0 g):=sum_add a b 0 (by omega) f g
theorem aQi (a b:Int)(f g:Nat->Int):lS a b 2 2 f g=some ((4,4),aha a 2 f,aha b 2 g):=sum_add a b 2 (by omega) f g
theorem aQj (a b:Int)(f g:Nat->Int):lS a b 4 4 f g=some ((6,6),aha a 4 f,aha b 4 g):=sum_add a b 4 (by omega) f g
theorem aQk (a b:Int)(f g:Nat->Int):lS a b 6 6 f g=some ((8,8),aha a 6 f,aha b 6 g):=sum_add a b 6 (by omega) f g
theorem aQl (a b:Int)(f g:Nat->Int):lS a b 8 8 f g=some ((10,10),aha a 8 f,aha b 8 g):=sum_add a b 8 (by omega) f g
instance aZQ (eQ:Bool)(f g:Nat->Int)(w w':Bool):bl (bo 30 6 6 eQ f g w w'):=KI 6 (by omega) eQ f g w w'
instance aZR (eQ:Bool)(f g:Nat->Int)(w w':Bool):bl (bo 30 8 8 eQ f g w w'):=KI 8 (by omega) eQ f g w w'
instance aYT (eQ:Bool)(f g:Nat->Int)(w w':Bool):bl (bo 30 10 10 eQ f g w w'):=KI 10 (by omega) eQ f g w w'
instance aUU (x0:Int)(x1:Int)(x2:Int)(x3:Int)(x4:Int)(x5:Int)(x6:Int)(x7:Bool):bl (xj x0 x1 x2 x3 x4 x5 x6 x7):=by
 unfold xj aal
 try dsimp only
 exact aF (by simp only[bE,aQh,aQi,aQj,aQk,aQl,bM,aM,true_implies,Bool.true_eq_false,false_implies])
instance aUV (x0:Int)(x1:Int)(x2:Int)(x3:Int)(x4:Int)(x5:Int)(x6:Int)(x7:Int)(x8:Int):bl (xm x0 x1 x2 x3 x4 x5 x6 x7 x8):=by
 unfold xm aao
 exact aF (by simp only[bE])
instance aUW (x0:Int)(x1:Int)(x2:Int):bl (fN x0 x1 x2):=by
 unfold fN GB
 exact aF (by simp only[bE])
instance aVw (x0:Int)(x1:Int)(x2:Int)(x3:Int)(x4:Int)(x5:Int)(x6:Int)(x7:Int)(x8:Int):bl (KR x0 x1 x2 x3 x4 x5 x6 x7 x8):=by
 unfold KR aeY
 exact aF (by simp only[bE])
instance aQm (x0:Int):bl (yO x0):=by
 unfold yO MV
 exact aF (by simp only[bE])
instance aVx (x0:Int)(x1:Int)(x2:Int)(x3:Int)(x4:Int)(x5:Int)(x6:Int)(x7:Int)(x8:Int)(x9:Bool):bl (Aw x0 x1 x2 x3 x4 x5 x6 x7 x8 x9):=by
 unfold Aw ae2
 exact aF (by simp only[bE])
theorem aqw (d:iQ.B)(hd:0<=d.1.2.2∧d.1.2.2<=d.1.2.1∧d.1.2.1<=1999∧d.1.2.1=((d.1.1.1:Nat):Int)):Ok (KV d) (λx:rf=>True):=
 ba (s:=_) (λd:iQ.B=>0<=d.1.2.2∧d.1.2.2<=d.1.2.1∧d.1.2.1<=1999∧d.1.2.1=((d.1.1.1:Nat):Int)) (λd:iQ.B=>Int.toNat (d.1.2.1-d.1.2.2)) (λx:rf=>True) (λd hd=>by
  have hw:wI (d.1.2.2+1)=d.1.2.2+1:=bg (by omega) (by omega)
  unfold KU
  simp only[bE]
  simp only[nf,Bool.not_eq_true',rN,hw]
  repeat' (first|exact True.intro|omega|(intro _)|(apply And.intro))) 2000 d hd (by omega)
theorem azK (x0:Nat)(x1:Nat->Int)(w0:Bool)(h:x0<=1999):bl (ov x0 x1 w0):=by
 unfold ov QU
 refine aF ?_
 rw[aM,bB]
 refine⟨rfl,?_⟩
 refine ay (aqw _ (hdN x0 h)) λd _ hd=> ?_
 simp only[bE]
instance aYU (x1:Nat->Int)(w0:Bool):bl (ov 1 x1 w0):=azK _ _ _ (by omega)
theorem tJ (x0:Nat->Int)(x1:Int)(x2:Int)(x3:Int)(x4:Int)(x5:Bool)(h0:0<=x1)(h1:x1<24):bl (dI x0 x1 x2 x3 x4 x5):=by
 have hr:aX x1 24=true:=by simp only[bk];omega
 unfold dI MX
 exact aF (by simp only[bE,hr,Bool.true_eq_false,false_implies])
end Go.Proofs.YtldgljclcgaibaaGreat
namespace Go.Proofs.YtldgljclcgaibaaGreat
open Go.Ab Go.Ab.Pg
instance aVy (x0:Nat->Int)(x2 x3 x4:Int)(x5:Bool):bl (dI x0 4 x2 x3 x4 x5):=tJ _ _ _ _ _ _ (by omega) (by omega)
instance aVz (x0:Nat->Int)(x2 x3 x4:Int)(x5:Bool):bl (dI x0 5 x2 x3 x4 x5):=tJ _ _ _ _ _ _ (by omega) (by omega)
instance aVA (x0:Nat->Int)(x2 x3 x4:Int)(x5:Bool):bl (dI x0 6 x2 x3 x4 x5):=tJ _ _ _ _ _ _ (by omega) (by omega)
instance aVB (x0:Nat->Int)(x2 x3 x4:Int)(x5:Bool):bl (dI x0 7 x2 x3 x4 x5):=tJ _ _ _ _ _ _ (by omega) (by omega)
instance aVC (x0:Nat->Int)(x2 x3 x4:Int)(x5:Bool):bl (dI x0 8 x2 x3 x4 x5):=tJ _ _ _ _ _ _ (by omega) (by omega)
instance aVD (x0:Nat->Int)(x2 x3 x4:Int)(x5:Bool):bl (dI x0 9 x2 x3 x4 x5):=tJ _ _ _ _ _ _ (by omega) (by omega)
instance aZS (eQ:Bool)(l:Nat->Int)(w:Bool):bl (cF 4 eQ l w):=aHD 4 (by omega) eQ l w
instance aX4 (eQ:Bool)(f:Nat->Int)(w:Bool):bl (fL 2 eQ f w):=aCz 2 (by omega) eQ f w
instance aQn (x0:Nat->Int)(x1:Int)(x2:Int)(x3:Int)(x4:Int)(x5:Int)(x6:Int)(x7:Int)(x8:Int)(x9:Int)(fP:Bool):bl (yP x0 x1 x2 x3 x4 x5 x6 x7 x8 x9 fP):=by
 unfold yP MZ
 exact aF (by simp only[bE,oM])
instance aOW (x0:Int)(x1:Int)(x2:Int)(x3:Int)(x4:Int)(x5:Int)(x6:Int)(x7:Int)(x8:Bool):bl (jF x0 x1 x2 x3 x4 x5 x6 x7 x8):=by
 unfold jF KY
 exact aF (by simp only[bE,oM])
instance aNH (x:tZ.B):bl (ua x):=by
 unfold ua H6
 exact aF (by simp only[bE,oM])
instance aUg (x:Dv.B):bl (Dw x):=by
 unfold Dw VA
 try dsimp only
 exact aF (by simp only[bE,oM])
instance aNI (x0:Int):bl (ub x0):=by
 unfold ub H8
 exact aF (by simp only[bE,oM])
instance aUh (x0:Int)(x1:Int)(x2:Int)(x3:Int)(x4:Int)(x5:Int)(x6:Int)(x7:Int)(x8:Int)(x9:Int)(fP:Int)(fQ:Bool):bl (uc x0 x1 x2 x3 x4 x5 x6 x7 x8 x9 fP fQ):=by
 unfold uc VH
 exact aF (by simp only[bE,oM])
instance aNJ (x0:Int)(x1:Int)(x2:Int)(x3:Int)(x4:Int)(x5:Int)(x6:Int)(x7:Int)(x8:Int)(x9:Bool):bl (mC x0 x1 x2 x3 x4 x5 x6 x7 x8 x9):=by
 unfold mC Ia
 exact aF (by simp only[bE,oM])
instance aUi (x0:Nat->Int)(x1:Int)(x2:Int)(x3:Int)(x4:Bool):bl (Dx x0 x1 x2 x3 x4):=by
 unfold Dx VL
 exact aF (by simp only[bE,oM])
instance aLs (x0:Int)(x1:Int)(x2:Int)(x3:Int)(x4:Int)(x5:Int)(x6:Int)(x7:Int)(x8:Int)(x9:Bool):bl (lu x0 x1 x2 x3 x4 x5 x6 x7 x8 x9):=by
 unfold lu FN
 exact aF (by simp only[bE,oM])
instance aQR (x0:Nat->Int)(x1:Int)(x2:Int)(x3:Int)(x4:Int)(x5:Bool):bl (Bv x0 x1 x2 x3 x4 x5):=by
 unfold Bv Q3
 try dsimp only
 exact aF (by simp only[bE,oM])
instance aQS (x0:Int):bl (Bw x0):=by
 unfold Bw Q6
 exact aF (by simp only[bE,oM])
instance aWI (x0:Int)(x1:Int)(x2:Int)(x3:Int)(x4:Int)(x5:Int)(x6:Int)(x7:Int)(x8:Int)(x9:Bool):bl (wA x0 x1 x2 x3 x4 x5 x6 x7 x8 x9):=by
 unfold wA akL
 exact aF (by simp only[bE,oM])
instance aWJ (x0:Nat->Int)(x1:Int)(x2:Int)(x3:Int)(x4:Int)(x5:Int)(x6:Bool):bl (OY x0 x1 x2 x3 x4 x5 x6):=by
 unfold OY akP
 try dsimp only
 exact aF (by simp only[bE,oM])
instance aUX (x0:Int)(x1:Int)(x2:Int)(x3:Bool):bl (xp x0 x1 x2 x3):=by
 unfold xp aav
 exact aF (by simp only[bE,oM])
instance aUj (x0:Nat->Int)(x1:Int)(x2:Int)(x3:Int)(x4:Int)(x5:Int)(x6:Int)(x7:Int)(x8:Bool):bl (Dz x0 x1 x2 x3 x4 x5 x6 x7 x8):=by
 unfold Dz VN
 try dsimp only
 exact aF (by simp only[bE,oM])
instance aVE (x0:Int)(x1:Int)(x2:Int)(x3:Int)(x4:Int)(x5:Int)(x6:Int)(x7:Int)(x8:Int)(x9:Bool):bl (K0 x0 x1 x2 x3 x4 x5 x6 x7 x8 x9):=by
 unfold K0 ae6
 exact aF (by simp only[bE,oM])
instance aQT (x0:Int):bl (Bx x0):=by
 unfold Bx Q8
 exact aF (by simp only[bE,oM])
instance aWK (x0:Int)(x1:Int)(x2:Int)(x3:Int)(x4:Int)(x5:Int)(x6:Int)(x7:Int)(x8:Int)(x9:Bool):bl (DA x0 x1 x2 x3 x4 x5 x6 x7 x8 x9):=by
 unfold DA akZ
 exact aF (by simp only[bE,oM])
instance aQU (x0:Nat->Int)(x1:Bool):bl (rD x0 x1):=by
 unfold rD Q'
 exact aF (by simp only[bE,oM])
instance aVF (x0:Int)(x1:Int)(x2:Int)(x3:Nat->Int)(x4:Int)(x5:Int)(x6:Int):bl (Ay x0 x1 x2 x3 x4 x5 x6):=by
 unfold Ay ae9
 exact aF (by simp only[bE,oM])
instance aQV (x0:Nat->Int)(x1:Int)(x2:Int)(x3:Int)(x4:Bool):bl (Bz x0 x1 x2 x3 x4):=by
 unfold Bz Ra
 exact aF (by simp only[bE,oM])
instance aQW (x0:Nat->Int)(x1:Int)(x2:Int)(x3:Bool):bl (BA x0 x1 x2 x3):=by
 unfold BA Re
 try dsimp only
 exact aF (by simp only[bE,oM])
instance aQo (x0:Int):bl (yQ x0):=by
 unfold yQ M9
 exact aF (by simp only[bE,oM])
instance aVG (x0:Int)(x1:Int)(x2:Int)(x3:Int)(x4:Int)(x5:Int)(x6:Int)(x7:Int)(x8:Int)(x9:Bool):bl (Az x0 x1 x2 x3 x4 x5 x6 x7 x8 x9):=by
 unfold Az afe
 exact aF (by simp only[bE,oM])
instance aQp (x0:Nat->Int)(x1:Bool):bl (yR x0 x1):=by
 unfold yR Na
 exact aF (by simp only[bE,oM])
instance aVH (x0:Nat->Int)(x1:Int)(x2:Int)(x3:Int)(x4:Int)(x5:Int)(x6:Bool):bl (AA x0 x1 x2 x3 x4 x5 x6):=by
 unfold AA SM
 try dsimp only
 exact aF (by simp only[bE,oM])
instance aVI (x0:Int):bl (nP x0):=by
 unfold nP SP
 exact aF (by simp only[bE,oM])
instance aKB (x0:Int)(x1:Int)(x2:Int)(x3:Bool):bl (qi x0 x1 x2 x3):=by
 unfold qi DB
 exact aF (by simp only[bE,oM])
instance aKC (x0:Int)(x1:Int)(x2:Bool):bl (qj x0 x1 x2):=by
 unfold qj DD
 exact aF (by simp only[bE,oM])
instance aIA (x0:Int)(x1:Int)(x2:Int)(x3:Int)(x4:Bool):bl (oN x0 x1 x2 x3 x4):=by
 unfold oN Ci
 exact aF (by simp only[bE,oM])
instance aFJ (x0:Int)(x1:Int)(x2:Int)(x3:Bool)(x4:Int)(x5:Int)(x6:Int):bl (ib x0 x1 x2 x3 x4 x5 x6):=by
 unfold ib yT
 exact aF (by simp only[bE,oM])
instance aIB (x0:Nat->Int)(x1:Nat->Int)(x2:Nat->Bool)(x3:Nat->Int)(x4:Nat->Int)(x5:Nat->Int)(x6:Int):bl (oO x0 x1 x2 x3 x4 x5 x6):=by
 unfold oO Cj
 exact aF (by simp only[bE,oM])
instance aCS (x0:Bool)(x1:Int)(x2:Int)(x3:Bool)(x4:Int)(x5:Int)(x6:Nat->Int)(x7:Nat->Int)(x8:Nat->Bool)(x9:Nat->Int)(fP:Nat->Int)(fQ:Nat->Int)(zO:Int):bl (kq x0 x1 x2 x3 x4 x5 x6 x7 x8 x9 fP fQ zO):=by
 unfold kq uf
 exact aF (by simp only[bE,oM])
end Go.Proofs.YtldgljclcgaibaaGreat
