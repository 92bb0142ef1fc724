/-
  Parts of the proof: TWa QC N5 TLr TLs TLt TLn TLu TLv
-/
import Derived.Test.YtldgljclcgaibaaGreatZAE
import Derived.Test.YtldgljclcgaibaaGreatZAJ
import Derived.Test.YtldgljclcgaibaaGreatZAK
import Derived.Test.YtldgljclcgaibaaGreatZAL
import Derived.Test.YtldgljclcgaibaaGreatZAM
open Nat renaming beq→ww,ble→wd
open Int renaming toNat→ws,ofNat→wl
open Sum renaming inl→wr,inr→wn,elim→t8
set_option linter.all false
set_option maxRecDepth 100000
set_option maxHeartbeats 4000000
namespace Go.Proofs.YtldgljclcgaibaaGreat
open Go.Ab Go.Ab.Pg
noncomputable section
def jS:SH:=λx0 x1 x2 x3 x4 x5 x6 x7 x8 x9 fG fD Ad=>some (Classical.choose (aCw x0 x1 x2 x3 x4 x5 x6 x7 x8 x9 fG fD Ad).ok)
theorem a3a:Gb=jS:=by
 funext x0 x1 x2 x3 x4 x5 x6 x7 x8 x9 fG fD Ad
 exact Classical.choose_spec (aCw x0 x1 x2 x3 x4 x5 x6 x7 x8 x9 fG fD Ad).ok
def rT (x0 x1:Nat->Int)(x2:Int)(x3:Nat)(x4:Bool)(x5:Nat->Int)(w0:Bool)(h:wd x3 1999=true):Yk:=Classical.choose (BL x0 x1 x2 x3 x4 x5 w0 (yb h)).ok
def rS:qj:=λx0 x1 x2 x3 x4 x5 w0=>if h:wd x3 1999=true then some (rT x0 x1 x2 x3 x4 x5 w0 h) else dU x0 x1 x2 x3 x4 x5 w0
theorem a3b:dU=rS:=by
 funext x0 x1 x2 x3 x4 x5 w0
 unfold rS;split
 .exact Classical.choose_spec (BL x0 x1 x2 x3 x4 x5 w0 (yb ‹_›)).ok
 .rfl
def mS:bL:=λa b s h=>match s with
 |.ofNat n=>bif wd n 120 then some (sat (LD (sat a*sat b) n),h||fj a||fj b||fj (LD (sat a*sat b) n)) else aX a b (.ofNat n) h
 |.negSucc n=>aX a b (.negSucc n) h
theorem a3c:aX=mS:=by
 funext a b s h
 cases s with
 |negSucc n=>rfl
 |ofNat n=>
  show _=bif wd n 120 then _ else _;cases e:wd n 120
  .rfl
  .exact aPW a b n h (yb e)
def tS:ei:=λs n m h f g w v=>match s with
 |.ofNat i=>bif wd i 120&&(ww n m&&wd n 100) then some (sat (LD (DS (λj=>sat (f j)*sat (g j)) n) i),(h||Hl (λj=>fj (f j)||fj (g j)) n)||fj (LD (DS (λj=>sat (f j)*sat (g j)) n) i)) else bx (.ofNat i) n m h f g w v
 |.negSucc i=>bx (.negSucc i) n m h f g w v
theorem a3d:bx=tS:=by
 funext s n m h f g w v
 cases s with
 |negSucc i=>rfl
 |ofNat i=>
  show _=bif (wd i 120&&(ww n m&&wd n 100)) then _ else _;cases e:wd i 120&&(ww n m&&wd n 100)
  .rfl
  .rw[cq,cq] at e;have e2:=oK e.2.1;subst e2;exact aPY i (yb e.1) n (yb e.2.2) h f g w v
def aS:eH:=λn h l w=>bif wd n 1900 then some (sat (DS (λj=>sat (l j)) n),(h||Hl (λj=>fj (l j)) n)||fj (DS (λj=>sat (l j)) n)) else cC n h l w
theorem a3e:cC=aS:=by
 funext n h l w
 show _=bif wd n 1900 then _ else _;cases e:wd n 1900
 .rfl
 .exact aPX n (yb e) h l w
def qS:bW:=λa b d h=>bif decide (sat d=0) then aP a b d h else some (sat (IQ (sat a*sat b) (sat d)),((((h||fj a)||fj b)||fj d)||fj (IQ (sat a*sat b) (sat d))))
theorem a3f:aP=qS:=by
 funext a b d h
 show _=bif decide (sat d=0) then _ else _;cases e:decide (sat d=0)
 .exact aCs a b d h (pP e)
 .rfl
def vS:cB:=λa b s h=>match s with
 |.ofNat n=>bif wd n 66&& !decide (sat b=0) then some (sat (IQ (sat a*2^n) (sat b)),(((h||fj a)||fj b)||fj (IQ (sat a*2^n) (sat b)))) else bl a b (.ofNat n) h
 |.negSucc n=>bl a b (.negSucc n) h
theorem a3g:bl=vS:=by
 funext a b s h
 cases s with
 |negSucc n=>rfl
 |ofNat n=>
  show _=bif (wd n 66&& !decide (sat b=0)) then _ else _;cases e:wd n 66&& !decide (sat b=0)
  .rfl
  .rw[cq,oL,Wy] at e;exact aPZ a b n h (yb e.1) e.2
abbrev KR:=SH×qj×bL×ei×eH×bW×cB
def kF:KR:=(Gb,dU,aX,bx,cC,aP,bl)
def kSq:KR:=(jS,rS,mS,tS,aS,qS,vS)
theorem a3h:kF=kSq:=by
 unfold kF kSq;rw[a3a,a3b,a3c,a3d,a3e,a3f,a3g]
def N7 (k:KR)(x0:Int)(x1:Int)(x2:Int)(x3:Int)(x4:Bool):Option Ci:=(uY (k.c.2.1) x0 x1 x2 x3 x4).val
def azZ (k:KR)(x0:Int)(x1:Int)(x2:Bool):Option ayX:=(aeL (k.b.1) x0 x1 x2).val
def axR (k:KR):lI.B->Option wh:=bj (Gu (azZ k) (k.c.1)) 2000
def apu (k:KR)(x0:Int)(x1:Nat)(x2:Bool)(x3:Nat->Int)(w0:Bool):Option Xn:=(Mp (axR k) x0 x1 x2 x3 w0).val
def apv (k:KR)(x0:Int)(x1:Bool):Option amD:=(aaK aM fM uf (azZ k) (apu k) x0 x1).val
def aCx (k:KR)(x0:Int)(x1:Bool):Option amE:=(aaL fM (apv k) x0 x1).val
def ata (k:KR)(x0:Int)(x1:Int)(x2:Bool):Option acM:=(QV aM uf (k.c.2.2) (azZ k) (apu k) x0 x1 x2).val
def ai1 (k:KR)(x0:Int)(x1:Int)(x2:Int)(x3:Int)(x4:Bool):Option ahl:=(VD (k.b.1) x0 x1 x2 x3 x4).val
def aQo (k:KR)(x0:Int)(x1:Int)(x2:Int)(x3:Int)(x4:Int)(x5:Int)(x6:Int)(x7:Int)(x8:Bool):Option amO:=(aaS (k.b.2.1) x0 x1 x2 x3 x4 x5 x6 x7 x8).val
def aQp (k:KR)(x0:Int)(x1:Int)(x2:Int)(x3:Int)(x4:Bool):Option amQ:=(aaT (k.b.2.1) x0 x1 x2 x3 x4).val
def aDH (k:KR):ou.B->Option Bh:=bj (MA (k.b.2.1)) 2000
def Wn (k:KR)(x0:Nat->Int)(x1:Int)(x2:Int)(x3:Int)(x4:Bool):Option ahB:=(VF (aDH k) x0 x1 x2 x3 x4).val
def aHm (k:KR):qf.B->Option DZ:=bj (Q6 (k.b.2.1)) 2000
def apw (k:KR)(x0:Nat->Int)(x1:Int)(x2:Int)(x3:Int)(x4:Bool):Option amX:=(aa1 (aHm k) x0 x1 x2 x3 x4).val
def aIQ (k:KR):sI.B->Option GA:=bj (VM (k.c.1) VL) 2000
def Qy (k:KR)(x0:Nat)(x1:Bool)(x2:Nat->Int)(x3:Nat->Int)(x4:Nat->Int)(w0:Bool):Option at5:=(ahK (aIQ k) x0 x1 x2 x3 x4 w0).val
def aDI (k:KR):oy.B->Option Bj:=bj (MI (k.c.2.2)) 2000
def aDJ (k:KR):oz.B->Option Bk:=bj (MJ fa (aDI k)) 2000
def qB (k:KR)(x0:Int)(x1:Int)(x2:Int)(x3:Int)(x4:Bool):Option ahN:=(VN tz jV (aDJ k) x0 x1 x2 x3 x4).val
def aIR (k:KR)(x0:Int)(x1:Int)(x2:Int)(x3:Int)(x4:Int)(x5:Int)(x6:Int)(x7:Int)(x8:Bool):Option adi:=(Q7 (k.b.2.1) x0 x1 x2 x3 x4 x5 x6 x7 x8).val
def aHn (k:KR)(x0:Int)(x1:Bool):Option X0:=(MM fM (k.b.1) (aCx k) (apv k) (qB k) x0 x1).val
def Lx (k:KR)(x0:Int)(x1:Int)(x2:Int)(x3:Int)(x4:Int)(x5:Int)(x6:Int)(x7:Int)(x8:Bool):Option anj:=(aa3 tz (aIR k) x0 x1 x2 x3 x4 x5 x6 x7 x8).val
def G3 (k:KR)(x0:Int)(x1:Int)(x2:Int)(x3:Int)(x4:Bool):Option ay9:=(apQ (aQo k) (aQp k) aa4 x0 x1 x2 x3 x4).val
def oi (k:KR)(x0:Nat->Int)(x1:Bool):Option adj:=(Q8 bp Ah (qB k) oA qh x0 x1).val
def aga (k:KR)(x0:Int)(x1:Bool):Option Pn:=(GD (k.c.2.1) x0 x1).val
def aTm (k:KR)(x0:Int)(x1:Int)(x2:Int)(x3:Bool):Option at7:=(ahQ uy mi jV (k.b.1) (apv k) (k.c.2.2) (aCx k) (qB k) x0 x1 x2 x3).val
def aHo (k:KR)(x0:Nat->Int)(x1:Int)(x2:Int)(x3:Int)(x4:Int)(x5:Int)(x6:Int)(x7:Int)(x8:Int)(x9:Bool):Option X7:=(MR (oi k) (aga k) cM (ai1 k) p9 (aTm k) bp (G3 k) x0 x1 x2 x3 x4 x5 x6 x7 x8 x9).val
def atb (k:KR)(x0:Nat->Int)(x1:Int)(x2:Int)(x3:Int)(x4:Int)(x5:Int)(x6:Int)(x7:Int)(x8:Int)(x9:Bool):Option adk:=(Ra (aHo k) (oi k) bp (Lx k) (qB k) cM (Wn k) (k.b.1) (Qy k) (ai1 k) fe x0 x1 x2 x3 x4 x5 x6 x7 x8 x9).val
def aHp (k:KR):qi.B->Option D4:=bj (Rc (k.c.2.2)) 2000
def aQq (k:KR)(x0:Int)(x1:Int)(x2:Int)(x3:Bool):Option ant:=(aa5 uy jV mi bu (qB k) (aHp k) x0 x1 x2 x3).val
def au2 (k:KR):kg.B->Option ug:=bj (EJ (k.b.2.1) (k.b.1) (k.c.1) EI) 2000
def akN (k:KR)(x0:Nat->Int)(x1:Nat->Int)(x2:Nat->Int)(x3:Int)(x4:Bool):Option T2:=(Jc jI aT EH (au2 k) x0 x1 x2 x3 x4).val
def alb (k:KR)(x0:Nat->Int)(x1:Nat->Int)(x2:Nat->Int)(x3:Int)(x4:Bool):Option El:=(xM (akN k) x0 x1 x2 x3 x4).val
def apx (k:KR):iu.B->Option qD:=bj (AL Il (k.b.1) (k.c.1) Fv) 2000
def apy (k:KR):iv.B->Option qE:=bj (AM (k.c.2.2)) 2000
def apz (k:KR):iw.B->Option qF:=bj (AN (k.c.2.1) aT (k.c.2.2) (apx k)) 2000
def axS (k:KR)(x0:Nat->Int)(x1:Nat->Int)(x2:Nat->Int)(x3:Int)(x4:Bool):Option M1:=(EK (akN k) (apy k) (apz k) x0 x1 x2 x3 x4).val
def au3 (k:KR):kh.B->Option ui:=bj (EL (k.b.1)) 2000
def aDK (k:KR)(x0:Nat->Int)(x1:Int)(x2:Bool):Option T5:=(Jd (au3 k) x0 x1 x2).val
def aDL (k:KR):oB.B->Option Br:=bj (M4 (k.c.1)) 2000
def aDM (k:KR):oC.B->Option Bs:=bj (M5 bp (qB k) oA qh (aDL k)) 2000
def aNa (k:KR)(x:GG.B):Option ahY:=(VR (oi k) (aDM k) x).val
def aQr (k:KR)(x0:Nat->Int)(x1:Nat->Int)(x2:Nat->Int)(x3:Nat->Int)(x4:Int)(x5:Int)(x6:Int)(x7:Bool):Option anM:=(abm (oi k) jI aM (alb k) Bq (axS k) (aDK k) (aNa k) x0 x1 x2 x3 x4 x5 x6 x7).val
def aHq (k:KR):qk.B->Option D5:=bj (Re (aQr k)) 2000
def aQs (k:KR)(x:Lh.B):Option R5:=(abn (aHq k) x).val
def az0 (k:KR):mZ.B->Option yJ:=bj (Jg (Lx k) (qB k)) 2000
def aIS (k:KR)(x0:Nat)(x1:Bool)(x2:Nat->Int)(x3:Nat->Int)(x4:Nat->Int)(x5:Nat->Int)(x6:Nat->Int)(x7:Nat->Int)(x8:Nat->Int)(x9:Nat->Int)(fG:Nat->Int)(fD:Nat->Int)(w0:Bool):Option adv:=(Rg cP (Qy k) (az0 k) x0 x1 x2 x3 x4 x5 x6 x7 x8 x9 fG fD w0).val
def aNb (k:KR)(x0:Nat->Int)(x1:Nat->Int)(x2:Nat->Int)(x3:Int)(x4:Int)(x5:Bool):Option ah0:=(VV (oi k) cP (aHn k) bp (Lx k) (qB k) fe (k.2.1) x0 x1 x2 x3 x4 x5).val
def ZQ (k:KR)(x0:Nat->Int)(x1:Int)(x2:Nat)(x3:Bool)(x4:Nat->Int)(w0:Bool):Option Nb:=(Nf qL (oi k) GH x0 x1 x2 x3 x4 w0).val
def aIT (k:KR)(x0:Int)(x1:Int)(x2:Int)(x3:Int)(x4:Int)(x5:Int)(x6:Int)(x7:Bool):Option adA:=(Ri aM uy mq (k.b.2.1) x0 x1 x2 x3 x4 x5 x6 x7).val
def az1 (k:KR)(x0:Int):Option PA:=(GJ (k.c.2.1) aT x0).val
def aNc (k:KR)(x0:Int)(x1:Int)(x2:Int)(x3:Int)(x4:Int)(x5:Int)(x6:Int)(x7:Int)(x8:Int)(x9:Bool):Option ah4:=(VW GI vV (az1 k) (k.c.2.1) x0 x1 x2 x3 x4 x5 x6 x7 x8 x9).val
def N8 (k:KR)(x0:Int)(x1:Int)(x2:Int)(x3:Int)(x4:Int)(x5:Int)(x6:Int)(x7:Int)(x8:Bool):Option Nm:=(EO fQ (k.b.1) (k.c.2.1) x0 x1 x2 x3 x4 x5 x6 x7 x8).val
def au4 (k:KR)(x:rN.B):Option Cs:=(Cu (N8 k) dV x).val
def aHr (k:KR)(x:Bv.B):Option YJ:=(No (N8 k) (k.c.1) aT dV x).val
def au5 (k:KR)(x0:Int):Option Ko:=(Cv (k.c.2.1) aT x0).val
def apA (k:KR)(x0:Int)(x1:Int)(x2:Int)(x3:Int)(x4:Int)(x5:Int)(x6:Int)(x7:Int)(x8:Int)(x9:Int)(fG:Int)(fD:Bool):Option YN:=(Np (k.c.2.1) (au5 k) x0 x1 x2 x3 x4 x5 x6 x7 x8 x9 fG fD).val
def au6 (k:KR)(x0:Int)(x1:Int)(x2:Int)(x3:Int)(x4:Int)(x5:Int)(x6:Int)(x7:Int)(x8:Int)(x9:Bool):Option Kp:=(Cy (apA k) x0 x1 x2 x3 x4 x5 x6 x7 x8 x9).val
def aqI (k:KR)(x0:Int)(x1:Int)(x2:Int)(x3:Int)(x4:Int)(x5:Int)(x6:Int)(x7:Int)(x8:Int)(x9:Bool):Option HH:=(AO (apA k) x0 x1 x2 x3 x4 x5 x6 x7 x8 x9).val
def aDN (k:KR)(x0:Nat->Int)(x1:Int)(x2:Int)(x3:Int)(x4:Int)(x5:Bool):Option Ui:=(Ji bp (G3 k) (k.c.2.2) bu (k.c.1) (k.b.1) x0 x1 x2 x3 x4 x5).val
def aDO (k:KR)(x0:Int):Option Uk:=(Jj (k.c.2.1) aT x0).val
def aCy (k:KR)(x0:Int)(x1:Int)(x2:Int)(x3:Int)(x4:Int)(x5:Int)(x6:Int)(x7:Int)(x8:Int)(x9:Bool):Option an5:=(abw (aDO k) (k.c.2.1) x0 x1 x2 x3 x4 x5 x6 x7 x8 x9).val
def aQt (k:KR)(x0:Nat->Int)(x1:Int)(x2:Int)(x3:Int)(x4:Int)(x5:Int)(x6:Bool):Option abx:=(aby bp cM (G3 k) (apw k) vf (aIT k) (k.c.1) bu x0 x1 x2 x3 x4 x5 x6).val
def atc (k:KR)(x0:Int)(x1:Int)(x2:Int)(x3:Bool):Option adK:=(Rk fa (ata k) x0 x1 x2 x3).val
def aHs (k:KR)(x0:Nat->Int)(x1:Int)(x2:Int)(x3:Int)(x4:Int)(x5:Int)(x6:Int)(x7:Int)(x8:Bool):Option YU:=(Nq bp (G3 k) cM p9 (Wn k) (atc k) fa bu fM (k.b.2.1) (k.c.1) (k.c.2.2) x0 x1 x2 x3 x4 x5 x6 x7 x8).val
def aNd (k:KR)(x0:Int)(x1:Int)(x2:Int)(x3:Int)(x4:Int)(x5:Int)(x6:Int)(x7:Int)(x8:Int)(x9:Bool):Option aia:=(VX (G3 k) (Wn k) (atc k) bu fM x0 x1 x2 x3 x4 x5 x6 x7 x8 x9).val
def aDP (k:KR)(x0:Int):Option Un:=(Jk (k.c.2.1) aT x0).val
def aQu (k:KR)(x0:Int)(x1:Int)(x2:Int)(x3:Int)(x4:Int)(x5:Int)(x6:Int)(x7:Int)(x8:Int)(x9:Bool):Option aoe:=(abz (k.c.2.1) (aDP k) x0 x1 x2 x3 x4 x5 x6 x7 x8 x9).val
def aDQ (k:KR)(x0:Nat->Int)(x1:Int)(x2:Int)(x3:Int)(x4:Bool):Option Ur:=(Jm oE mi bu (k.c.2.2) vi x0 x1 x2 x3 x4).val
def aDR (k:KR)(x0:Nat->Int)(x1:Int)(x2:Int)(x3:Bool):Option Uu:=(Jo bp (G3 k) oE (apw k) (k.c.2.2) (k.b.1) bu vi x0 x1 x2 x3).val
def az2 (k:KR)(x0:Int):Option PS:=(GL (k.c.2.1) aT x0).val
def aNe (k:KR)(x0:Int)(x1:Int)(x2:Int)(x3:Int)(x4:Int)(x5:Int)(x6:Int)(x7:Int)(x8:Int)(x9:Bool):Option aii:=(VY (k.c.2.1) (az2 k) x0 x1 x2 x3 x4 x5 x6 x7 x8 x9).val
def az3 (k:KR)(x0:Nat->Int)(x1:Bool):Option PX:=(GM bp (G3 k) (k.c.2.2) x0 x1).val
def aNf (k:KR)(x0:Nat->Int)(x1:Int)(x2:Int)(x3:Int)(x4:Int)(x5:Int)(x6:Bool):Option Nv:=(Nw (az3 k) bp (G3 k) cM (apw k) (k.c.2.2) bu x0 x1 x2 x3 x4 x5 x6).val
def N9 (k:KR)(x0:Nat->Int)(x1:Int)(x2:Bool):Option aio:=(V3 (oi k) bp cM x0 x1 x2).val
def aIU (k:KR)(x:vY.B):Option Rn:=(D9 (Qy k) x).val
def apB (k:KR)(x:fw.B):Option pe:=(jX jQ (aIU k) x).val
def Z9 (k:KR)(x:fZ.B):Option qX:=(m8 (N9 k) x).val
def IT (k:KR)(x:kR.B):Option oc:=(sR mM (atb k) (N9 k) x).val
def axT (k:KR)(x0:Nat->Int)(x1:Nat->Int)(x2:Nat->Int)(x3:Int)(x4:Int)(x5:Int)(x6:Int)(x7:Bool):Option NA:=(ES (oi k) (ZQ k) cP (k.2.1) x0 x1 x2 x3 x4 x5 x6 x7).val
def aqJ (k:KR)(x0:Nat->Int)(x1:Nat->Int)(x2:Nat->Int)(x3:Int)(x4:Int)(x5:Int)(x6:Bool):Option HK:=(AP (oi k) (ZQ k) cP (k.2.1) x0 x1 x2 x3 x4 x5 x6).val
def aDS (k:KR)(x0:Nat->Int)(x1:Nat->Int)(x2:Nat->Int)(x3:Int)(x4:Int)(x5:Bool):Option Uy:=(Jq (oi k) (ZQ k) cP (k.2.1) x0 x1 x2 x3 x4 x5).val
def au7 (k:KR)(x0:Nat->Int)(x1:Int)(x2:Int)(x3:Int)(x4:Bool):Option Ku:=(CG cM rO (ata k) bu fM (k.c.2.2) x0 x1 x2 x3 x4).val
def Wo (k:KR)(x:iT.B):Option vn:=(pD (Qy k) jV (Lx k) (qB k) x).val
def Tc (k:KR)(x:gO.B):Option tD:=(ny (ai1 k) (Qy k) (Lx k) (qB k) x).val
def Qz (k:KR):dk.B->Option gQ:=bj (nA mM (N9 k) (Tc k)) 2000
def Wp (k:KR)(x:iV.B):Option pE:=(pF (Qz k) x).val
def QA (k:KR):dm.B->Option gR:=bj (nC mM (N9 k) (Wo k)) 2000
def Wq (k:KR)(x:iW.B):Option pH:=(pI (QA k) x).val
def UR (k:KR):dI.B->Option iX:=bj (pK (Wq k)) 2000
def Z' (k:KR)(x:j7.B):Option qY:=(qZ (UR k) x).val
def ai2 (k:KR)(x0:Int)(x1:Int)(x2:Int)(x3:Int)(x4:Int)(x5:Int)(x6:Int)(x7:Int)(x8:Int)(x9:Bool):Option CM:=(vA (N7 k) x0 x1 x2 x3 x4 x5 x6 x7 x8 x9).val
def apC (k:KR)(x0:Int)(x1:Int)(x2:Int)(x3:Bool):Option F1:=(zC fQ lu (N7 k) (ai2 k) (k.c.2.1) x0 x1 x2 x3).val
def xK (k:KR)(x:kn.B):Option xB:=(CS (aQs k) fT x).val
def ai3 (k:KR)(x:gk.B):Option vF:=(vG (xK k) dM x).val
def aaa (k:KR)(x:dO.B):Option re:=(na (apC k) x).val
def au8 (k:KR)(x:ko.B):Option xE:=(CT (aCy k) bp (aaa k) (aNd k) bJ (aNb k) fU (G3 k) (Wn k) fe (oi k) dM x).val
def au9 (k:KR)(x:kp.B):Option xF:=(CU (N8 k) (axT k) fU (aqJ k) (aDS k) x).val
def ai4 (k:KR)(x:gm.B):Option vH:=(vI (aQu k) (aDQ k) (aDR k) bJ (xK k) x).val
def ava (k:KR)(x:kq.B):Option CW:=(CX (aNe k) (aNf k) bJ (xK k) eB x).val
def ael (k:KR)(x:fh.B):Option og:=(sW (aNc k) (au9 k) dM wB (au4 k) (aHr k) (xK k) eB fu x).val
def apD (k:KR)(x:iC.B):Option zM:=(zN (aCy k) ig (aQt k) (au7 k) (xK k) (aHs k) bJ x).val
def axU (k:KR)(x:lQ.B):Option zO:=(E0 (au8 k) (ael k) (au6 k) Bw (ai3 k) (aqI k) (aDN k) bJ (apD k) (ai4 k) (ava k) x).val
def QB (k:KR)(d:dX.B):Option fy:=(nI (k.b.1) d).val
def QC (k:KR):dq.B->Option gU:=bj (nK (QB k)) 2000
def Wr (k:KR)(x:iY.B):Option pL:=(pM (N9 k) p9 vf (Lx k) (qB k) (Wp k) nH (QC k) x).val
def ai5 (k:KR):dr.B->Option nM:=bj (xT (IT k)) 2000
def aqK (k:KR)(x:gj.B):Option qH:=(AT mi (aga k) (k.b.1) (Qy k) (aQq k) fe (k.2.1) (Z9 k) (ai5 k) x).val
def alc (k:KR):bI.B->Option gC:=bj (px (axU k)) 2000
def ald (k:KR)(d:de.B):Option iD:=(tV (Wr k) d).val
def ale (k:KR):cz.B->Option j4:=bj (py kl (alc k)) 2000
def alf (k:KR)(d:dg.B):Option iG:=(pz vh (Z' k) (aIS k) (ald k) d).val
def alg (k:KR)(d:dh.B):Option iH:=(pA gE (ale k) (alf k) d).val
def avb (k:KR)(x:fV.B):Option oS:=(sd (aqK k) (k.1) (atb k) (alg k) x).val
def apE (k:KR):cI.B->Option gX:=bj (ly (avb k)) 2000
def apF (k:KR)(d:cJ.B):Option eY:=(lz (apE k) d).val
def N' (k:KR)(x:eo.B):Option gH:=(jR (apB k) (IT k) (apF k) x).val
theorem apG:bU=N' kSq:=by
 rw[<-a3h];rfl
end
end Go.Proofs.YtldgljclcgaibaaGreat
noncomputable section
namespace Go.Proofs.YtldgljclcgaibaaGreat
open Go.Ab Go.Ab.Pg Go.Ab.Rq
def axV:=qa (pu nil nil)
def aem:=qe Fa
abbrev axW:=aem.B
abbrev ai6:=Option axW
def axX (g:ai6):Ct:=(11,FC axV (lf aem) (λ_=>g))
def Ws:Option axW:=some true
theorem a0g [ax]:Snd Tryz.prog (zT (N' kSq)):=apG▸NR
theorem aNg:alG Tryz.prog [aow aoy,auH AA,aiL NY,zT (N' kSq),abK abM,F8 gA] ⟨[],[],[],[],none⟩ 2000 11 axV (lf aem) λ_=>ret true:=λb=>by kernel_rfl
theorem aNh [ax]:SC (axX Ws):=s0 (.c aGN (.c aGW (.c axC (.c a0g (.c axu (.c SA (.nil _))))))) aNg
def pB:=qa (pl (c (aa ya) (cl ab9 nil)) nil)
def Oa:=qe Fa
abbrev G4:=Oa.B
abbrev az4:=pB.B->Option G4
def az5 (g:az4):Ct:=(3,FC pB (lf Oa) g)
def lA:=qs (st (pr (us 1 (c ab9 (cu aD9 (xs 1 (cu mP (cl ai (us 2 (xs 1 (us 5 (cu aXb (us 108 nil))))))))))) (pl (cl alE nil) nil)))
def avc:=qs (st (pr (us 1 (c ab9 (cu aD9 (xs 1 (cu mP (c ai (us 2 (xs 1 (us 5 (cu aXb (us 2 aWL))))))))))) (pl (cl alE nil) nil)))
abbrev xL:=((aTp×Int×Bool)×Int×Int×Int×Int×Int×Int×Int×Int×Int×Int×Int×Int×Int×Int×NI×NI×Int×Int×Int×Int×Int×Int×Int)
def ZR {ρ:Type}(x:xL)(K:AX->St->Option ρ):Option ρ:=(λd=>K (.ex 0) (avc.em ((d.1.1,d.1.2.1,d.1.2),d.2))) x
def KO (d:lA.B):PL lA xL:=let aW:=d.2.1;let n9:=d.1.1;let n6:=d.2.2.1;let n4:=d.1.2;let n3:=d.2.2.2;let bh:=n3.2.1;let n7:=n3.2.2.1;let n1:=n3.2.2.2;let bz:=n1.2.1;let n8:=n1.2.2.1;let n2:=n1.2.2.2;let n5:=n2.2.2;let y0:=decide (n4<6);ae y0 (ae (bk n4 6) (ae (n4==5) (ret (wr ((n9,wI (n4+1)),aW,n6,n3.1,bh,n7,n1.1,bz,n8,n2.1,n2.2.1,n5.1,n5.2.1,n5.2.2.1,10000,n5.2.2.2.2))) (ae (n4==4) (ret (wr ((n9,wI (n4+1)),aW,n6,n3.1,bh,n7,n1.1,bz,n8,n2.1,n2.2.1,n5.1,n5.2.1,10000,n5.2.2.2))) (ae (n4==3) (ret (wr ((n9,wI (n4+1)),aW,n6,n3.1,bh,n7,n1.1,bz,n8,n2.1,n2.2.1,n5.1,10000,n5.2.2))) (ae (n4==2) (ret (wr ((n9,wI (n4+1)),aW,n6,n3.1,bh,n7,n1.1,bz,n8,n2.1,n2.2.1,10000,n5.2))) (ae (n4==1) (ret (wr ((n9,wI (n4+1)),aW,n6,n3.1,bh,n7,n1.1,bz,n8,n2.1,10000,n5))) (ret (wr ((n9,wI (n4+1)),aW,n6,n3.1,bh,n7,n1.1,bz,n8,10000,n2.2)))))))) no) (ret (wn ((n9,n4,y0),d.2)))
def KP:=bj (KO) 2000
def gZ:=qs (st (pr (us 1 (c ab9 (us 1 (xs 1 (cu mP (us 1 (cu ua (cl ai (xs 1 aXr))))))))) (pl (c alw (c alE alF)) nil)))
def alh:=qs (st (pr (us 1 (c ab9 (us 1 (xs 1 (cu mP (us 1 (cu ua (c ai (xs 1 (us 5 (cu aEk (us 16 (c ai (c ab9 (c ai (c ab (cu Hn (c ai (c ab (c ab (cu Hn (cu ua (cu ua (cu aKJ (c ai (c ab aWE)))))))))))))))))))))))))) (pl (c alw (c alE alF)) nil)))
def ali:=qs (st (pr (us 1 (c ab9 (us 1 (xs 1 (cu mP (us 1 (cu ua (c ai (xs 1 (us 5 (cu aEk (us 16 (c ai (c ab9 (c ai (c ab (cu Hn (c ai (c ab (cl ab aXA)))))))))))))))))))) (pl (c alw (c alE alF)) nil)))
def alj:=qs (st (pr (us 1 (c ab9 (us 1 (xs 1 (cu mP (us 1 (cu ua (c ai (xs 1 (us 5 (cu aEk (us 16 (c ai (c ab9 (c ai (cl ab (cu mP (xs 2 (cu mP aXA))))))))))))))))))) (pl (c alw (c alE alF)) nil)))
abbrev sj:=((aTp×Int×Int×Bool×Bool×Int×Bool)×(Int×Bool)×aTn×(E'×Bool×NI×(NI×NI)×(Nat×Nat)×rj×Bool×Int×lG×Bool×Bool×Bool×Int×Int×Int×Ed×Nat)×(lG×Int×Int)×LF×Rz×bO×bO×bO×bO×bO×bO×Ly×tZ×E7×AI×AI×AI×AI×AI×AI×Nat×NI×NI×NI×NI×NI×NI×NI×NI×NI×NI×NI)⊕(((aTp×Int×Int×Bool×Bool)×aqP×aTn×(E'×Bool×NI×(NI×NI)×(Nat×Nat)×rj×Bool×Int×lG×Bool×Bool×Bool×Int×Int×Int×Ed×Nat)×(lG×Int×Int)×LF×Rz×bO×bO×bO×bO×bO×bO×Ly×tZ×E7×AI×AI×AI×AI×AI×AI×Nat×NI×NI×NI×NI×NI×NI×NI×NI×NI×NI×NI)⊕((aTp×Int×Int×Bool)×aqP×aTn×(E'×Bool×NI×(NI×NI)×(Nat×Nat)×rj×Bool×Int×lG×Bool×Bool×Bool×Int×Int×Int×Ed×Nat)×(lG×Int×Int)×LF×Rz×bO×bO×bO×bO×bO×bO×Ly×tZ×E7×AI×AI×AI×AI×AI×AI×Nat×NI×NI×NI×NI×NI×NI×NI×NI×NI×NI×NI))
def ZS {ρ:Type}(x:sj)(K:AX->St->Option ρ):Option ρ:=(t8 (λd=>K (.ex 2) (alh.em ((d.1.1,d.1.2.1,d.1.2.1,d.1.1,d.1.b.1,d.1.b.2.1,d.1.2.1,d.1.c.1,d.1.c.1,d.1.c.2.1,d.1.c.b,d.1.c.b),(d.2.1.1,d.1.c.2.1,d.2.1.2),d.b))) (t8 (λd=>K (.ex 2) (ali.em ((d.1.1,d.1.2.1,d.1.2.1,d.1.1,d.1.b.1,d.1.b.2.1,d.1.2.1,d.1.c,d.1.c),d.2))) (λd=>K (.ex 2) (alj.em ((d.1.1,d.1.2.1,d.1.2.1,d.1.1,d.1.b),d.2))))) x
def KQ (abZ:N3)(d:gZ.B):PL gZ sj:=let UE:=d.2.2;let n36:=d.2.1;let n25:=d.1.2;let n18:=UE.2;let n49:=n18.2.2;let bM:=d.1.1;let n26:=bM.2.2.2.2;let bh:=n18.1.2.2.2.2;let n50:=bh.1.2;let n15:=bh.2.2.2.2.2.2.2.2.2.2.2.2;let n6:=n49.2.2;let n37:=n6.1.2.2.1;let n33:=n6.2.1.2.2.1;let n31:=n6.2.2.1.2.2.1;let n5:=n26.2.2.2.2.2;let n44:=n5.2.2.2;let n20:=n44.2.2;let n46:=n20.2.2.2;let n3:=n6.2.2.2;let P':=n3.2.2;let n38:=n3.1.2.2.1;let n34:=n3.2.1.2.2.1;let n32:=P'.1.2.2.1;let bz:=P'.2.2;let n51:=bz.2.2;let n45:=bz.1.2.2;let n19:=n51.2.2;let n52:=n19.2.2;let n4:=n52.2.2.2;let n39:=n4.2.2;let bA:=n39.2.2.2;let n35:=bA.2.2.2;let n2:=(n18.1.1,n18.1.2.1,n18.1.2.2.1,n18.1.2.2.2.1,n50,bh.2);let y0:=ws n25;let n1:=(bM.2.1 y0,bM.2.2.1 y0,bM.2.2.2.1 y0,(n26.1 y0,n26.2.1 y0,(n26.2.2.1 y0,n26.2.2.2.1 y0,n26.2.2.2.2.1 y0),n5.1 y0,n5.2.1 y0,n5.2.2.1 y0),n44.1 y0,n44.2.1 y0,n20.1 y0,n20.2.1 y0,n20.2.2.1 y0,n46.1 y0,n46.2.1 y0,n46.2.2.1 y0,n46.2.2.2 y0);let y1:=wl bM.1;let y2:=decide (n25<20);let y3:=bk n25 bM.1;let y4:=decide (n36.2.1<30);let y5:=decide (n25<y1);ae y5 (ae y2 (ae y4 (ae y3 (ae (bM.2.1 y0==1) (ae y3 (ae (decide (n44.1 y0>n36.1)) (ret (wr ((bM,wI (n25+1)),d.2))) (ae y3 (ae (ww n50 n50) (ae (ww n15 n15) (ae (ww n37 n37) (ae (ww n33 n33) (ae (ww n31 n31) (ae (ww n38 n38) (ae (ww n34 n34) (ae (ww n32 n32) (ae (ww n45 n45) (opt (abZ (n1,n36,n2,n18.2.1,n49.1,(sh8 bh.1.1 n49.2.1.2),n6.1,n6.2.1,n6.2.2.1,n3.1,n3.2.1,P'.1,P'.2.1,bz.1,(ave 0 bz.2.1.2),(v5 0 n51.1.2),(v5 0 n51.2.1.2),(v5 0 n19.1.2),(v5 0 n19.2.1.2),(v5 0 n52.1.2),(v5 0 n52.2.1.2),λj=>n4.1 (0+j),λj=>n4.2.1 (0+j),λj=>n39.1 (0+j),λj=>n39.2.1 (0+j),λj=>n39.2.2.1 (0+j),λj=>bA.1 (0+j),λj=>bA.2.1 (0+j),λj=>bA.2.2.1 (0+j),λj=>n35.1 (0+j),λj=>n35.2.1 (0+j),λj=>n35.2.2 (0+j))) λaj=>ae (match aj with|wr val=>true|wn val=>false) (opt (match aj with|wr a=>some a|wn val=>none) λaC=>let n27:=aC.1.2.2.2;let n23:=aC.2.2.2.2.2;let n9:=n23.2.2.2.2.2;let n28:=n9.2.2.2.2;ret (wr ((bM,wI (n25+1)),aC.1.1,UE.1,(aC.1.2.1,aC.1.2.2.1,n27.1,n27.2.1,(0,n27.2.2.1),n27.2.2.2),aC.2.1,aC.2.2.1,(n27.2.2.1,aC.2.2.2.1),aC.2.2.2.2.1,n23.1,n23.2.1,n23.2.2.1,n23.2.2.2.1,n23.2.2.2.2.1,n9.1,n9.2.1,(n27.2.2.2.2.2.2.2.2.2.2.2.2.2.2,n9.2.2.1),n9.2.2.2.1,n28.1,n28.2.1,n28.2.2.1,n28.2.2.2.1,n28.2.2.2.2.1,n9.2.1.2.2,n28.2.2.2.2.2))) (opt (match aj with|wn b=>some b|wr val=>none) λaC=>let n21:=aC.2.2.2.2.2;let n7:=n21.2.2.2;let UF:=n7.2.2;let n16:=UF.2.2.2.2;let n47:=n16.2.2.2;ret (wr ((bM,wI (n25+1)),aC.1,UE.1,aC.2.1,aC.2.2.1,aC.2.2.2.1,aC.2.2.2.2.1,n21.1,n21.2.1,n21.2.2.1,n7.1,n7.2.1,UF.1,UF.2.1,UF.2.2.1,UF.2.2.2.1,(n21.1.2.2.1,n16.1),(n21.2.1.2.2.1,n16.2.1),(n21.2.2.1.2.2.1,n16.2.2.1),(n7.1.2.2.1,n47.1),(n7.2.1.2.2.1,n47.2.1),(UF.1.2.2.1,n47.2.2.1),n47.2.2.2)))) no) no) no) no) no) no) no) no) no) no)) no) (ae y3 (ae (ww n50 n50) (ae (ww n15 n15) (ae (ww n37 n37) (ae (ww n33 n33) (ae (ww n31 n31) (ae (ww n38 n38) (ae (ww n34 n34) (ae (ww n32 n32) (ae (ww n45 n45) (opt (abZ (n1,n36,n2,n18.2.1,n49.1,(sh8 bh.1.1 n49.2.1.2),n6.1,n6.2.1,n6.2.2.1,n3.1,n3.2.1,P'.1,P'.2.1,bz.1,(ave 0 bz.2.1.2),(v5 0 n51.1.2),(v5 0 n51.2.1.2),(v5 0 n19.1.2),(v5 0 n19.2.1.2),(v5 0 n52.1.2),(v5 0 n52.2.1.2),λj=>n4.1 (0+j),λj=>n4.2.1 (0+j),λj=>n39.1 (0+j),λj=>n39.2.1 (0+j),λj=>n39.2.2.1 (0+j),λj=>bA.1 (0+j),λj=>bA.2.1 (0+j),λj=>bA.2.2.1 (0+j),λj=>n35.1 (0+j),λj=>n35.2.1 (0+j),λj=>n35.2.2 (0+j))) λaj=>ae (match aj with|wr val=>true|wn val=>false) (opt (match aj with|wr a=>some a|wn val=>none) λaC=>let n29:=aC.1.2.2.2;let n24:=aC.2.2.2.2.2;let aW:=n24.2.2.2.2.2;let n30:=aW.2.2.2.2;ret (wr ((bM,wI (n25+1)),aC.1.1,UE.1,(aC.1.2.1,aC.1.2.2.1,n29.1,n29.2.1,(0,n29.2.2.1),n29.2.2.2),aC.2.1,aC.2.2.1,(n29.2.2.1,aC.2.2.2.1),aC.2.2.2.2.1,n24.1,n24.2.1,n24.2.2.1,n24.2.2.2.1,n24.2.2.2.2.1,aW.1,aW.2.1,(n29.2.2.2.2.2.2.2.2.2.2.2.2.2.2,aW.2.2.1),aW.2.2.2.1,n30.1,n30.2.1,n30.2.2.1,n30.2.2.2.1,n30.2.2.2.2.1,aW.2.1.2.2,n30.2.2.2.2.2))) (opt (match aj with|wn b=>some b|wr val=>none) λaC=>let n22:=aC.2.2.2.2.2;let n8:=n22.2.2.2;let n43:=n8.2.2;let n17:=n43.2.2.2.2;let n48:=n17.2.2.2;ret (wr ((bM,wI (n25+1)),aC.1,UE.1,aC.2.1,aC.2.2.1,aC.2.2.2.1,aC.2.2.2.2.1,n22.1,n22.2.1,n22.2.2.1,n8.1,n8.2.1,n43.1,n43.2.1,n43.2.2.1,n43.2.2.2.1,(n22.1.2.2.1,n17.1),(n22.2.1.2.2.1,n17.2.1),(n22.2.2.1.2.2.1,n17.2.2.1),(n8.1.2.2.1,n48.1),(n8.2.1.2.2.1,n48.2.1),(n43.1.2.2.1,n48.2.2.1),n48.2.2.2)))) no) no) no) no) no) no) no) no) no) no)) no) (ret (wn (wr ((bM,n25,y1,y5,y2,n36.2.1,y4),(n36.1,n36.2.2),UE))))) (ret (wn (wn (wr ((bM,n25,y1,y5,y2),d.2)))))) (ret (wn (wn (wn ((bM,n25,y1,y5),d.2)))))
def KS:=bj (KQ jT) 2000
def lB:=qs (st (pr (us 3 (xs 1 (us 2 (cu ua (us 1 (cl ai aXr)))))) (pl (c alw (c alE alF)) nil)))
def avd:=qs (st (pr (us 3 (xs 1 (us 2 (cu ua (us 1 (c ai (us 5 (cu aEk (us 63 (c ai (cl ab (us 43 nil)))))))))))) (pl (c alw (c alE alF)) nil)))
abbrev sk:=((Int×Bool)×aqP×aTn×(E'×Bool×NI×(NI×NI)×(Nat×Nat)×rj×Bool×Int×lG×Bool×Bool×Bool×Int×Int×Int×Ed×Nat)×(lG×Int×Int)×LF×Rz×bO×bO×bO×bO×bO×bO×Ly×tZ×E7×AI×AI×AI×AI×AI×AI×Nat×NI×NI×NI×NI×NI×NI×NI×NI×NI×NI×NI)
def ZT {ρ:Type}(x:sk)(K:AX->St->Option ρ):Option ρ:=(λd=>K (.ex 4) (avd.em ((d.1.1,d.1),d.2))) x
def KU (KN:xJ)(d:lB.B):PL lB sk:=let n4:=d.2.2.2;let n8:=n4.1.2.2.2.2;let bz:=n8.2.2.2.2.2.2.2.2.2.2.2.2;let n6:=n4.2.2.2.2;let n1:=n6.2.2.2;let n15:=n1.2.2;let n5:=n15.2.2;let bh:=n5.2.2.2.2;let n2:=bh.2.2.2.2.2;let n9:=n2.2.2.2.2.2;let y0:=decide (d.1<8);ae y0 (ae (ww n8.1.2 n8.1.2) (ae (ww bz bz) (ae (ww n6.1.2.2.1 n6.1.2.2.1) (ae (ww n6.2.1.2.2.1 n6.2.1.2.2.1) (ae (ww n6.2.2.1.2.2.1 n6.2.2.1.2.2.1) (ae (ww n1.1.2.2.1 n1.1.2.2.1) (ae (ww n1.2.1.2.2.1 n1.2.1.2.2.1) (ae (ww n15.1.2.2.1 n15.1.2.2.1) (ae (ww n5.1.2.2 n5.1.2.2) (opt (KN (d.2.1,(n4.1.1,n4.1.2.1,n4.1.2.2.1,n4.1.2.2.2.1,n8.1.2,n8.2),n4.2.1,n4.2.2.1,(sh8 n8.1.1 n4.2.2.2.1.2),n6.1,n6.2.1,n6.2.2.1,n1.1,n1.2.1,n15.1,n15.2.1,n5.1,(ave 0 n5.2.1.2),(v5 0 n5.2.2.1.2),(v5 0 n5.2.2.2.1.2),(v5 0 bh.1.2),(v5 0 bh.2.1.2),(v5 0 bh.2.2.1.2),(v5 0 bh.2.2.2.1.2),λj=>n2.1 (0+j),λj=>n2.2.1 (0+j),λj=>n2.2.2.1 (0+j),λj=>n2.2.2.2.1 (0+j),λj=>n2.2.2.2.2.1 (0+j),λj=>n9.1 (0+j),λj=>n9.2.1 (0+j),λj=>n9.2.2.1 (0+j),λj=>n9.2.2.2.1 (0+j),λj=>n9.2.2.2.2.1 (0+j),λj=>n9.2.2.2.2.2 (0+j))) λaj=>let aW:=aj.2.2.2.2;let n3:=aW.2.2.2;let bA:=n3.2.2;let n7:=bA.2.2.2.2;let bM:=n7.2.2.2;ret (wr (wI (d.1+1),aj.1.1,d.2.2.1,aj.1.2,aj.2.1,aj.2.2.1,aj.2.2.2.1,aW.1,aW.2.1,aW.2.2.1,n3.1,n3.2.1,bA.1,bA.2.1,bA.2.2.1,bA.2.2.2.1,(aW.1.2.2.1,n7.1),(aW.2.1.2.2.1,n7.2.1),(aW.2.2.1.2.2.1,n7.2.2.1),(n3.1.2.2.1,bM.1),(n3.2.1.2.2.1,bM.2.1),(bA.1.2.2.1,bM.2.2.1),bM.2.2.2))) no) no) no) no) no) no) no) no) no) (ret (wn ((d.1,y0),d.2)))
def KV:=bj (KU cY) 2000
def jz:=qs (st (pr (us 6 (cu ua (us 2 (cu (app 1 19) (cl ai (us 112 nil)))))) (pl (c alw (c (so aRU) alF)) nil)))
def Oz:=qs (st (pu (us 4 (cu mP (us 118 nil))) (pu nil nil)))
def alk:=qs (st (pr (us 6 (cu ua (us 2 (cu (app 1 19) (c ai (us 99 aRa)))))) (pl (c alw (c (so aRU) alF)) nil)))
abbrev sr:=Oz.B⊕((Int×Bool)×aqP×(Int×Int×Bool×Bool×Int×Int×Int×Bool×Bool×Int×Int×Int×Int×Int×Int×Int×Int×Int×Int)×(E'×Bool×NI×(NI×NI)×(Nat×Nat)×rj×Bool×Int×lG×Bool×Bool×Bool×Int×Int×Int×Ed×Nat)×(lG×Int×Int)×LF×Rz×bO×bO×bO×bO×bO×bO×Ly×tZ×E7×AI×AI×AI×AI×AI×AI×Nat×NI×NI×NI×NI×NI×NI×NI×NI×NI×NI×NI)
def ZU {ρ:Type}(x:sr)(K:AX->St->Option ρ):Option ρ:=(t8 (λd=>K .ret (Oz.em d)) (λd=>K (.ex 6) (alk.em ((d.1.1,d.1),d.2)))) x
def KW (apH:F')(gN:lY)(d:jz.B):PL jz sr:=let n3:=d.2.2.2;let n6:=n3.1.2.2.2.2;let n9:=n6.2.2.2.2.2.2.2.2.2.2.2.2;let n5:=n3.2.2.2.2;let n1:=n5.2.2.2;let aW:=n1.2.2;let n4:=aW.2.2;let n8:=n4.2.2.2.2;let n2:=n8.2.2.2.2.2;let n7:=n2.2.2.2.2.2;let y0:=decide (d.1<6);ae y0 (ae (ww n6.1.2 n6.1.2) (ae (ww n9 n9) (ae (ww n5.1.2.2.1 n5.1.2.2.1) (ae (ww n5.2.1.2.2.1 n5.2.1.2.2.1) (ae (ww n5.2.2.1.2.2.1 n5.2.2.1.2.2.1) (ae (ww n1.1.2.2.1 n1.1.2.2.1) (ae (ww n1.2.1.2.2.1 n1.2.1.2.2.1) (ae (ww aW.1.2.2.1 aW.1.2.2.1) (ae (ww n4.1.2.2 n4.1.2.2) (opt (apH (d.1,(n3.1.1,n3.1.2.1,n3.1.2.2.1,n3.1.2.2.2.1,n6.1.2,n6.2),n3.2.1,n3.2.2.1,(sh8 n6.1.1 n3.2.2.2.1.2),n5.1,n5.2.1,n5.2.2.1,n1.1,n1.2.1,aW.1,aW.2.1,n4.1,(ave 0 n4.2.1.2),(v5 0 n4.2.2.1.2),(v5 0 n4.2.2.2.1.2),(v5 0 n8.1.2),(v5 0 n8.2.1.2),(v5 0 n8.2.2.1.2),(v5 0 n8.2.2.2.1.2),λj=>n2.1 (0+j),λj=>n2.2.1 (0+j),λj=>n2.2.2.1 (0+j),λj=>n2.2.2.2.1 (0+j),λj=>n2.2.2.2.2.1 (0+j),λj=>n7.1 (0+j),λj=>n7.2.1 (0+j),λj=>n7.2.2.1 (0+j),λj=>n7.2.2.2.1 (0+j),λj=>n7.2.2.2.2.1 (0+j),λj=>n7.2.2.2.2.2 (0+j))) λaj=>opt (gN d.2.2.1.2.2.2.2.1 aj.1 aj.2.1 aj.2.2.1 aj.2.2.2.1 aj.2.2.2.2.1 aj.2.2.2.2.2) λaC=>ae aC (ret (wn (wr ()))) (ret (wr (wI (d.1+1),d.2)))) no) no) no) no) no) no) no) no) no) (ret (wn (wn ((d.1,y0),d.2))))
def KX:=bj (KW mH du) 2000
def Dd (tX:zF)(l_3:LT jz sr)(d:sk):Pg G4:=let n3:=d.2.2.2;let n6:=n3.1.2.2.2.2;let n9:=n6.2.2.2.2.2.2.2.2.2.2.2.2;let n5:=n3.2.2.2.2;let n1:=n5.2.2.2;let aW:=n1.2.2;let n4:=aW.2.2;let n8:=n4.2.2.2.2;let n2:=n8.2.2.2.2.2;let n7:=n2.2.2.2.2.2;ae (ww n6.1.2 n6.1.2) (ae (ww n9 n9) (ae (ww n5.1.2.2.1 n5.1.2.2.1) (ae (ww n5.2.1.2.2.1 n5.2.1.2.2.1) (ae (ww n5.2.2.1.2.2.1 n5.2.2.1.2.2.1) (ae (ww n1.1.2.2.1 n1.1.2.2.1) (ae (ww n1.2.1.2.2.1 n1.2.1.2.2.1) (ae (ww aW.1.2.2.1 aW.1.2.2.1) (ae (ww n4.1.2.2 n4.1.2.2) (opt (tX ((n3.1.1,n3.1.2.1,n3.1.2.2.1,n3.1.2.2.2.1,n6.1.2,n6.2),n3.2.1,n3.2.2.1,(sh8 n6.1.1 n3.2.2.2.1.2),n5.1,n5.2.1,n5.2.2.1,n1.1,n1.2.1,aW.1,aW.2.1,n4.1,(ave 0 n4.2.1.2),(v5 0 n4.2.2.1.2),(v5 0 n4.2.2.2.1.2),(v5 0 n8.1.2),(v5 0 n8.2.1.2),(v5 0 n8.2.2.1.2),(v5 0 n8.2.2.2.1.2),λj=>n2.1 (0+j),λj=>n2.2.1 (0+j),λj=>n2.2.2.1 (0+j),λj=>n2.2.2.2.1 (0+j),λj=>n2.2.2.2.2.1 (0+j),λj=>n7.1 (0+j),λj=>n7.2.1 (0+j),λj=>n7.2.2.1 (0+j),λj=>n7.2.2.2.1 (0+j),λj=>n7.2.2.2.2.1 (0+j),λj=>n7.2.2.2.2.2 (0+j))) λbC=>ae bC.2.2.1 (ret false) (ae (bC.1==3) (ret false) (ae (decide (bC.1>=2)) (ae (!bC.2.2.2.1) (ret false) (opt (l_3 (0,d.2.1,bC,n3)) λx=>sum x (λd=>ret false) λd=>ret true)) (opt (l_3 (0,d.2.1,bC,n3)) λx=>sum x (λd=>ret false) λd=>ret true)))) no) no) no) no) no) no) no) no) no
def QD (aNi:ai6)(aQv:apf)(ao0:Sh)(tX:zF)(eI:LT lA xL)(rn:LT gZ sj)(HB:LT lB sk)(l_3:LT jz sr)(x:pB.B):Pg G4:=let n8:=x.1.2.2.2.2;let n24:=n8.1.2.2;let n20:=n8.2.1.2;opt aNi λd=>ae (!d) (ret false) (opt (eI ((x.2,0),x.1.2.2.1,x.1.2.2.2.1,n8.1.1,n8.1.2.1,n24.1,n24.2.1,n24.2.2.1,n24.2.2.2,n8.2.1.1,n20.1,n20.2.1,n20.2.2.1,n20.2.2.2.1,n20.2.2.2.2,n8.2.2.1,n8.2.2.2.1,n8.2.2.2.2.2)) λd=>let n25:=d.2.2;let bz:=n25.2.2.2;let n6:=bz.2.2.2.2.2;let bA:=n6.2.2.2.2.2;let n2:=(n25.2.1,n25.2.2.1,bz.1,bz.2.1,bz.2.2.1,bz.2.2.2.1);let n1:=(bz.2.2.2.2.1,n6.1,n6.2.1,n6.2.2.1,n6.2.2.2.1,n6.2.2.2.2.1);opt (aQv (8000,0,d.2.1,n25.1,n2,n1,bA.1,bA.2.1,20000,bA.2.2)) λaj=>ae (match aj with|wr val=>true|wn val=>false) (opt (match aj with|wr a=>some a|wn val=>none) λaC=>opt (ao0 (8000,0,d.2.1,n25.1,n2,n1,bA.1,bA.2.1,20000,bA.2.2)) λd=>ret !d) (opt (match aj with|wn b=>some b|wr val=>none) λaC=>let n21:=aC.1.2.2;let aW:=n21.2.2.2.2;let n22:=aW.2.2.2;let n7:=aC.2.2.2;let bM:=n7.2.2.2.2.2;let n4:=n22.2.2.2.2;let n23:=n4.2.2.2;let n9:=n23.2.2.2.2;let n19:=n9.2.2.2.2;let n3:=bM.2.2.2.2;let n16:=n3.2.1;let bh:=n3.2.2;let n17:=bh.2.1;let n5:=bh.2.2;let n18:=n5.2.1;let n15:=n5.2.2;opt (rn ((d.1.1,0),(0,0,false),d.2,((aC.1.1,aC.1.2.1,n21.1,n21.2.1,(n21.2.2.1,n21.2.2.2.1,aW.1,aW.2.1,aW.2.2.1,n22.1),(n22.2.1,n22.2.2.1,n22.2.2.2.1,n4.1,n4.2.1,n4.2.2.1),n23.1,n23.2.1,n23.2.2.1,n23.2.2.2.1,n9.1,n9.2.1,n9.2.2.1,n9.2.2.2.1,n19.1,n19.2.1),n19.2.2.1,n19.2.2.2.1,n19.2.2.2.2,(0,0),(0,0,false,false),false,0,(0,0,0),false,false,false,0,0,0,((1073741824,0,0,0),(0,0,0),0,0,0),0),((aC.2.1.1,aC.2.1.2.1,aC.2.1.2.2.1),aC.2.1.2.2.2),(aC.2.2.1,(0,0,(0,0,0),0,0,0),false),(0,n7.1,n7.1,n7.1,n7.1,n7.1,n7.1,n7.1,n7.1),((0,0,0,0,0),n7.2.1,0, -9223372036854775808),((0,0,0,0,0),n7.2.2.1,0, -9223372036854775808),((0,0,0,0,0),n7.2.2.2.1,0, -9223372036854775808),((0,0,0,0,0),n7.2.2.2.2.1,0, -9223372036854775808),((0,0,0,0,0),bM.1,0, -9223372036854775808),((0,0,0,0,0),bM.2.1,0, -9223372036854775808),(bM.2.2.1,0),(bM.2.2.2.1.1,bM.2.2.2.1.2,0),(0,n7.1,n7.1,n7.1,n7.1,n7.1,n7.1,n7.1,n7.1,n7.1,n7.1),(0,n3.1,n3.1,n3.1,n3.1,n3.1,n3.1,n3.1,n3.1,n3.1),(0,n16,n16,n16,n16,n16,n16,n16,n16,n16),(0,bh.1,bh.1,bh.1,bh.1,bh.1,bh.1,bh.1,bh.1,bh.1),(0,n17,n17,n17,n17,n17,n17,n17,n17,n17),(0,n5.1,n5.1,n5.1,n5.1,n5.1,n5.1,n5.1,n5.1,n5.1),(0,n18,n18,n18,n18,n18,n18,n18,n18,n18),0,n15,n15,n15,n15,n15,n15,n15,n15,n15,n15,n15)) λx=>sum x (λd=>ae (decide (d.2.1.1>562949953421312)) (ret true) (opt (HB (0,(d.2.1.1,d.1.2.2.2.2.2.1,d.2.1.2),d.2.2)) (Dd tX l_3))) λx=>sum x (λd=>ae (decide (d.2.1.1>562949953421312)) (ret true) (opt (HB (0,d.2)) (Dd tX l_3))) λd=>ae (decide (d.2.1.1>562949953421312)) (ret true) (opt (HB (0,d.2)) (Dd tX l_3))))
def wF:=λx=>(QD Ws Gh pf gA KP KS KV KX x).val
abbrev su:=ai6×apf×Sh×N3×xJ×zF×F'×lY×(LT lA xL)×(LT gZ sj)×(LT lB sk)×(LT jz sr)
def wG (p:su):KK:=⟨[axX p.1,aCr p.2.1,aoA p.b.1,abX p.b.2.1,KJ p.c.1,F8 p.c.2.1,SB p.c.b.1,uj p.c.b.2.1],⟨[⟨7,(0::6::7::rg 9 5 (rg 15 108 [])),[(0,[])]⟩,⟨14,(0::2::5::rg 9 5 (rg 15 108 [])),[(0,[])]⟩,⟨21,(0::1::2::4::5::7::rg 9 5 (rg 15 108 [])),[(0,[])]⟩,⟨28,(rg 0 6 (7::8::rg 11 112 [])),[(0,[])]⟩],[gv 7 0 lA ZR p.d.1,gv 14 0 gZ ZS p.d.2.1,gv 21 0 lB ZT p.d.b.1,gv 28 0 jz ZU p.d.b.2],[],[],(some ⟨0,(rg 0 4 (rg 5 118 [])),[]⟩)⟩,0,3⟩
theorem aqL (p:su):LI (wG p) 7 lA ZR (KO):=λ_ d c K=>by kernel_rfl
theorem aqM (p:su):LI (wG p) 14 gZ ZS (KQ p.b.2.1):=λ_ d c K=>by kernel_rfl
theorem aqN (p:su):LI (wG p) 21 lB ZT (KU p.c.1):=λ_ d c K=>by kernel_rfl
theorem aqO (p:su):LI (wG p) 28 jz ZU (KW p.c.b.1 p.c.b.2.1):=λ_ d c K=>by kernel_rfl
theorem az6 (p:su):D2 (wG p) pB (lf Oa) λb=>QD p.1 p.2.1 p.b.1 p.c.2.1 p.d.1 p.d.2.1 p.d.b.1 p.d.b.2 b:=λb=>by kernel_rfl
abbrev wH:su:=(Ws,Gh,pf,jT,cY,gA,mH,du,KP,KS,KV,KX)
theorem az7 [ax]:SC (az5 wF):=sc (kS (k:=wG wH) (.c aNh (.c aPQ (.c aB9 (.c axE (.c ZN (.c SA (.c aoK (.c Bz (.nil _))))))))) [7,14,21,28] [] ⟨kL (aqL wH),⟨kL (aqM wH),⟨kL (aqN wH),⟨kL (aqO wH),trivial⟩⟩⟩⟩ trivial (az6 wH))
end Go.Proofs.YtldgljclcgaibaaGreat
namespace Go.Proofs.YtldgljclcgaibaaGreat
open Go.Ab Go.Ab.Pg
theorem IS.mono {N:Nat}{B k l:Int}{q:Nat×Nat}{T S:Int}{a:Bool}{row:Nat->Int}{b0 b1 b2 b3 b4 b5:Bf}{p:Int×Int×Nat}(h:IS N B k q T S a row b0 b1 b2 b3 b4 b5 p)(e:k<=l):IS N B l q T S a row b0 b1 b2 b3 b4 b5 p:=⟨AZ h.1 e,h.2⟩
def Js (N:Nat)(B k:Int)(d:gZ.B):Prop:=IS N B (k) d.b.2.1.c.1 d.b.2.1.d.c.2.1 d.c.2.1.2.1.1 d.c.2.1.2.2 d.c.b.1.2.1 d.c.b.2.1 d.d.1 d.d.2.1 d.d.b.1 d.d.b.2.1 d.d.c.1 d.d.c.b.1/\Jp d.2.1.1 d.b.2.1.1.2.1 d.b.2.1.1.d.1 d.b.2.1.d.c.1 d.b.2.1.c.1.2 d.c.2.1 d.d.c.2.1/\(∀j,j<d.c.b.2.1.b.1->d.e.1.2.1 j<=d.2.1.1)/\(∀j,j<d.d.1.b.1->d.e.2.1.2.1 j<=d.2.1.1)/\(∀j,j<d.d.2.1.b.1->d.e.b.1.2.1 j<=d.2.1.1)/\(∀j,j<d.d.b.1.b.1->d.e.b.2.1.2.1 j<=d.2.1.1)/\(∀j,j<d.d.b.2.1.b.1->d.e.c.1.2.1 j<=d.2.1.1)/\(∀j,j<d.d.c.1.b.1->d.e.c.2.1.2.1 j<=d.2.1.1)
theorem aVX (N:Nat)(h1:1<=N)(hN:N<=1999)(B:Int)(hB:B<=64)(d:gZ.B)(hd:0<=d.1.2/\d.1.2<=20/\Js N B (40*d.1.2) d):Ok (KS d) (λx:sj=>match x with|.inl x=>Js N B 800 (d.1,(x.2.1.1,d.2.1.2),x.2.2)|.inr (.inl x)=>Js N B 800 (d.1,(x.2.1.1,d.2.1.2),x.2.2)|.inr (.inr x)=>Js N B 800 (d.1,(x.2.1.1,d.2.1.2),x.2.2)):=
 aFO (s:=_) (λd:gZ.B=>0<=d.1.2/\d.1.2<=20/\Js N B (40*d.1.2) d) (λd:gZ.B=>ws (20-d.1.2)) (λx:sj=>match x with|.inl x=>Js N B 800 (d.1,(x.2.1.1,d.2.1.2),x.2.2)|.inr (.inl x)=>Js N B 800 (d.1,(x.2.1.1,d.2.1.2),x.2.2)|.inr (.inr x)=>Js N B 800 (d.1,(x.2.1.1,d.2.1.2),x.2.2)) (λd hd=>by
  obtain⟨i0,i1,is,hJ,c0,c1,c2,c3,c4,c5⟩:=hd;have fin:Js N B 800 d:=⟨is.mono (by omega),hJ,c0,c1,c2,c3,c4,c5⟩;unfold KQ;dsimp only;rw[aK];refine⟨λk0=> ?_,λ_=>by rw[av];exact fin⟩;rw[aK];refine⟨λk1=> ?_,λ_=>by rw[av];exact fin⟩;rw[aK];refine⟨λk2=> ?_,λ_=>by rw[av];exact fin⟩;have k0:=eK k0;rw[dQ] at k0;have k1:=eK k1;have r0:bk d.1.2 d.1.1.1=true:=by rw[cx];omega
  have hw:wI (d.1.2+1)=d.1.2+1:=bo;rw[r0,aV];simp only[aN];rw[aK];refine⟨λo1=> ?_,λo1=> ?_⟩
  .rw[aV,aK];refine⟨λ_=> ?_,λlate=> ?_⟩
   .rw[av];exact⟨⟨by show 0<=wI (d.1.2+1);rw[hw];omega,by show wI (d.1.2+1)<=20;rw[hw];omega,is.mono (by show(40*d.1.2:Int)<=40*wI (d.1.2+1);rw[hw];omega),hJ,c0,c1,c2,c3,c4,c5⟩,by show ws (20-wI (d.1.2+1))<ws (20-d.1.2);rw[hw];omega⟩
   .have late:=pP late;repeat rw[aV]
    with_reducible refine ay ((aUx N h1 hN B hB (40*d.1.2) (by omega) d.b.2.1.c.1 d.c.b.1.2.1 _ ?_ ?_ ?_).with (a0f d.2.1.1 _ ?_ ?_ ?_ ?_)) λr _ hr=> ?_
    .rfl
    .rfl
    .exact is
    .rfl
    .exact λ_=>Int.not_lt.mp late
    .exact hJ
    .exact⟨zr c0,zr c1,zr c2,zr c3,zr c4,zr c5⟩
    cases r with
    |inl e=>
     obtain⟨h1',T,t0,_,t2,t3⟩:=hr;subst t0;simp only[aV,dL];rw[av]
     exact⟨⟨by show 0<=wI (d.1.2+1);rw[hw];omega,by show wI (d.1.2+1)<=20;rw[hw];omega,by
      have h:=h1';rw[show 40*d.1.2+40=40*wI (d.1.2+1) by rw[hw];omega] at h;exact h,t2,t3⟩,by show ws (20-wI (d.1.2+1))<ws (20-d.1.2);rw[hw];omega⟩
    |inr e=>
     obtain⟨h1',T,t0,_,t2,t3⟩:=hr;subst t0;simp only[aV,uu,dL];rw[av]
     exact⟨⟨by show 0<=wI (d.1.2+1);rw[hw];omega,by show wI (d.1.2+1)<=20;rw[hw];omega,by
      have h:=h1';rw[show 40*d.1.2+40=40*wI (d.1.2+1) by rw[hw];omega] at h;exact h,t2,t3⟩,by show ws (20-wI (d.1.2+1))<ws (20-d.1.2);rw[hw];omega⟩
  .have o1:=alK o1;repeat rw[aV]
   with_reducible refine ay ((aUx N h1 hN B hB (40*d.1.2) (by omega) d.b.2.1.c.1 d.c.b.1.2.1 _ ?_ ?_ ?_).with (a0f d.2.1.1 _ ?_ ?_ ?_ ?_)) λr _ hr=> ?_
   .rfl
   .rfl
   .exact is
   .rfl
   .exact λq=>absurd q o1
   .exact hJ
   .exact⟨zr c0,zr c1,zr c2,zr c3,zr c4,zr c5⟩
   cases r with
   |inl e=>
    obtain⟨h1',T,t0,_,t2,t3⟩:=hr;subst t0;simp only[aV,dL];rw[av]
    exact⟨⟨by show 0<=wI (d.1.2+1);rw[hw];omega,by show wI (d.1.2+1)<=20;rw[hw];omega,by
     have h:=h1';rw[show 40*d.1.2+40=40*wI (d.1.2+1) by rw[hw];omega] at h;exact h,t2,t3⟩,by show ws (20-wI (d.1.2+1))<ws (20-d.1.2);rw[hw];omega⟩
   |inr e=>
    obtain⟨h1',T,t0,_,t2,t3⟩:=hr;subst t0;simp only[aV,uu,dL];rw[av]
    exact⟨⟨by show 0<=wI (d.1.2+1);rw[hw];omega,by show wI (d.1.2+1)<=20;rw[hw];omega,by
     have h:=h1';rw[show 40*d.1.2+40=40*wI (d.1.2+1) by rw[hw];omega] at h;exact h,t2,t3⟩,by show ws (20-wI (d.1.2+1))<ws (20-d.1.2);rw[hw];omega⟩
) 2000 d hd (by omega)
theorem aQw (N:Nat)(h1:1<=N)(hN:N<=1999)(B:Int)(hB:B<=64)(k:Int)(hk:k<=1900)(q:Nat×Nat)(row:Nat->Int)(x:fW.B)(e1:x.2.1.c.1=q.2)(e2:x.c.1.1=λi=>row (q.1+i))(h:IS N B k q x.2.1.d.c.2.1 x.b.2.1.2.1.1 x.b.2.1.2.2 row x.c.2.1 x.c.b.1 x.c.b.2.1 x.d.1 x.d.2.1 x.d.b.1 x.d.c.1):Ok (cY x) (λe:kv=>IS N B (k+1) e.1.c.2.1 e.1.d.c.b.1 e.b.1.2.1.1 e.b.1.2.2 e.b.2.1.2.1 e.c.1 e.c.2.1 e.c.b.1 e.c.b.2.1 e.d.1 e.d.2.1 e.d.b.2.1):=by
 obtain⟨h0,h1',p0,p1,p2,p3,p4,p5,s0,s1⟩:=h;refine(aQf N h1 hN x (by rw[e1];omega) (p0.len hB) (p1.len hB) (p2.len hB) (p3.len hB) (p4.len hB) (p5.len hB) (by rw[s0];exact eZ _) s1 (by rw[e1,e2];exact h1')).mono λe he=> ?_;obtain⟨a0,a1,a2,r0,r1,r2,r3,r4,r5,u0,u1⟩:=he;rw[e1] at a0;exact⟨by omega,a1,p0.br r0,p1.br r1,p2.br r2,p3.br r3,p4.br r4,p5.br r5,u0.trans s0,u1⟩
theorem aKl (x:fW.B):Po (cY x) (λe:kv=>e.1.2.1.2.1=x.2.1.1.2.1/\e.1.2.1.d.1=x.2.1.1.d.1/\e.d.b.1.1.c.1=x.d.b.2.1.1.c.1):=by
 haveI i0:Ek x.2.1.1.2.1 x.2.1.1.2.1:=⟨rfl⟩
 haveI i1:Ek x.2.1.1.d.1 x.2.1.1.d.1:=⟨rfl⟩
 haveI i2:Ek x.b.2.1.1 x.b.2.1.1:=⟨rfl⟩
 haveI i3:Ek x.d.b.2.1.1.c.1 x.d.b.2.1.1.c.1:=⟨rfl⟩
 intro e he;obtain⟨v0,v1,v2,v3⟩:=(aqH x).h e he;exact⟨v1.h,v2.h,v3.h⟩
theorem aVZ (N:Nat)(h1:1<=N)(hN:N<=1999)(B:Int)(hB:B<=64)(L0:Int)(l0:0<=L0)(l1:L0<=562949953421312):∀(d:lB.B) (hd:0<=d.1/\d.1<=8/\IS N B (800+d.1) d.b.2.1.c.1 d.b.2.1.d.c.2.1 d.c.2.1.2.1.1 d.c.2.1.2.2 d.c.b.1.2.1 d.c.b.2.1 d.d.1 d.d.2.1 d.d.b.1 d.d.b.2.1 d.d.c.1 d.d.c.b.1/\d.2.1.1=L0+8000*d.1/\d.b.2.1.1.2.1=0/\d.b.2.1.1.d.1=20000/\d.b.2.1.c.1.2=0/\d.c.2.1.1=8000/\d.c.2.1.2.1.1=d.2.1.1/\0<=d.c.2.1.2.1.2.1/\d.c.2.1.2.1.2.1<=100000/\(∀j,j<6->d.d.c.2.1.1.c.1 j=10000)/\(d.1=0->Jp L0 d.b.2.1.1.2.1 d.b.2.1.1.d.1 d.b.2.1.d.c.1 d.b.2.1.c.1.2 d.c.2.1 d.d.c.2.1/\(∀j,j<d.c.b.2.1.b.1->d.e.1.2.1 j<=L0)/\(∀j,j<d.d.1.b.1->d.e.2.1.2.1 j<=L0)/\(∀j,j<d.d.2.1.b.1->d.e.b.1.2.1 j<=L0)/\(∀j,j<d.d.b.1.b.1->d.e.b.2.1.2.1 j<=L0)/\(∀j,j<d.d.b.2.1.b.1->d.e.c.1.2.1 j<=L0)/\(∀j,j<d.d.c.1.b.1->d.e.c.2.1.2.1 j<=L0))/\(1<=d.1->d.c.b.2.1.b.1=0/\d.d.1.b.1=0/\d.d.2.1.b.1=0/\d.d.b.1.b.1=0/\d.d.b.2.1.b.1=0/\d.d.c.1.b.1=0/\Bd (L0+8000) d.b.2.1.d.c.1/\Lb (L0+8000) d.d.c.2.1.1.1)/\(4<=d.1->(¬d.b.2.1.c.2.1.1=3/\d.b.2.1.c.2.1.b.1=false/\(2<=d.b.2.1.c.2.1.1->d.b.2.1.c.2.1.b.2=true))/\d.b.2.1.d.c.2.1=d.2.1.1)),Ok (KV d) (λx:sk=>x.2.1.1=L0+64000/\x.b.2.1.1.2.1=0/\x.b.2.1.1.d.1=20000/\x.b.2.1.c.1.2=0/\x.c.2.1.1=8000/\x.c.2.1.2.1.1=x.2.1.1/\0<=x.c.2.1.2.1.2.1/\x.c.2.1.2.1.2.1<=100000/\(∀j,j<6->x.d.c.2.1.1.c.1 j=10000)/\x.c.b.2.1.b.1=0/\x.d.1.b.1=0/\x.d.2.1.b.1=0/\x.d.b.1.b.1=0/\x.d.b.2.1.b.1=0/\x.d.c.1.b.1=0/\Bd (L0+8000) x.b.2.1.d.c.1/\Lb (L0+8000) x.d.c.2.1.1.1/\(¬x.b.2.1.c.2.1.1=3/\x.b.2.1.c.2.1.b.1=false/\(2<=x.b.2.1.c.2.1.1->x.b.2.1.c.2.1.b.2=true))/\x.b.2.1.d.c.2.1=x.2.1.1):=
 bP (λd:lB.B=>ws (8-d.1)) (λd hd=>by
  obtain⟨i0,i1,is,el,g1,g8,gq,gt,gS,gp0,gp1,gw,hz,hl,hs⟩:=hd;unfold KU;dsimp only;rw[aK];refine⟨λc=> ?_,λc=> ?_⟩
  .have c:=eK c;have hw:wI (d.1+1)=d.1+1:=bo;have hx:wI (d.2.1.1+8000)=L0+8000*d.1+8000:=by rw[fS (by omega) (by omega)];omega
   simp only[aN];repeat rw[aV]
   by_cases k0:d.1=0
   .obtain⟨hJ,c0,c1,c2,c3,c4,c5⟩:=hz k0;have hx0:wI (d.2.1.1+8000)=L0+8000:=by rw[hx,k0];omega
    have el0:d.2.1.1=L0:=by rw[el,k0];omega
    with_reducible refine ay ((aQw N h1 hN B hB (800+d.1) (by omega) d.b.2.1.c.1 d.c.b.1.2.1 _ ?_ ?_ ?_).with ((aUw L0 _ ?_ ?_ ?_).and ((aVT L0 (L0+8000) _ ?_ ?_ ?_ ?_ ?_ ?_ ?_ ?_ ?_ ?_ ?_ ?_ ?_ ?_ ?_ ?_).and (aKl _)))) λe _ he=> ?_
    .rfl
    .rfl
    .exact is
    .exact el0
    .exact hJ
    .exact⟨zr c0,zr c1,zr c2,zr c3,zr c4,zr c5⟩
    .exact hx0
    .omega
    .omega
    .omega
    .exact gq
    .exact g1
    .exact zr c0
    .exact zr c1
    .exact zr c2
    .exact zr c3
    .exact zr c4
    .exact zr c5
    .exact λ_=>by show d.c.2.1.2.1.1<L0+8000;rw[gS,el0];omega
    .exact gp0
    .exact gp1
    .exact gt
    obtain⟨hi,⟨T,t0,_,⟨j1,j8,ja,jq,jt,jS,jp0,jp1,_,_,jl,jw⟩,_⟩,⟨sq,b0,b1,b2,b3,b4,b5,st⟩,_⟩:=he;have tT:T=L0+8000:=t0.symm.trans st;subst tT;rw[av,hw];refine⟨⟨by show 0<=d.1+1;omega,by show d.1+1<=8;omega,?_,?_,j1,j8,jq,jt,jS.trans st.symm,jp0,jp1,jw,λn=>absurd n (by show ¬d.1+1=0;omega),λ_=>⟨b0,b1,b2,b3,b4,b5,ja,jl⟩,λn=>absurd n (by show ¬4<=d.1+1;omega)⟩,by show ws (8-(d.1+1))<ws (8-d.1);omega⟩
    .have h:=hi;rw[show 800+d.1+1=800+(d.1+1) by omega] at h;exact h
    .show e.1.1.1=L0+8000*(d.1+1);rw[st,k0];omega
   .obtain⟨m0,m1,m2,m3,m4,m5,ha,hlb⟩:=hl (by omega);with_reducible refine ay ((aQw N h1 hN B hB (800+d.1) (by omega) d.b.2.1.c.1 d.c.b.1.2.1 _ ?_ ?_ ?_).with ((aVY (L0+8000) (L0+8000*d.1+8000) _ ?_ ?_ ?_ ?_ ?_ ?_ ?_ ?_ ?_ ?_ ?_ ?_ ?_ ?_ ?_ ?_ ?_ ?_ ?_ ?_).and (aKl _))) λe _ he=> ?_
    .rfl
    .rfl
    .exact is
    .exact hx
    .exact hlb
    .exact gw
    .omega
    .omega
    .exact gq
    .exact g1
    .exact g8
    .exact ha
    .exact m0
    .exact m1
    .exact m2
    .exact m3
    .exact m4
    .exact m5
    .omega
    .exact λ_=>by show d.c.2.1.2.1.1<L0+8000*d.1+8000;rw[gS,el];omega
    .exact gp0
    .exact gp1
    .exact gt
    obtain⟨hi,⟨s0,sa,stt,b0,b1,b2,b3,b4,b5,sm,sq,t0,t1,t2,t3,tl⟩,v1,v8,vw⟩:=he;have v1:e.1.2.1.2.1=d.b.2.1.1.2.1:=v1;have v8:e.1.2.1.d.1=d.b.2.1.1.d.1:=v8;have sm:e.d.b.1=d.d.c.2.1:=sm;rw[av,hw];refine⟨⟨by show 0<=d.1+1;omega,by show d.1+1<=8;omega,?_,?_,v1.trans g1,v8.trans g8,sq,t0,t1.trans tl.symm,(by show 0<=e.b.1.2.1.2.1;rw[t2];decide),(by show e.b.1.2.1.2.1<=100000;rw[t2];decide),?_,λn=>absurd n (by show ¬d.1+1=0;omega),λ_=>⟨b0,b1,b2,b3,b4,b5,sa,?_⟩,λn=> ?_⟩,by show ws (8-(d.1+1))<ws (8-d.1);omega⟩
    .have h:=hi;rw[show 800+d.1+1=800+(d.1+1) by omega] at h;exact h
    .show e.1.1.1=L0+8000*(d.1+1);rw[tl];omega
    .show∀j,j<6->e.d.b.1.1.c.1 j=10000;rw[sm];exact gw
    .show Lb (L0+8000) e.d.b.1.1.1;rw[sm];exact hlb
    .have n:4<=d.1+1:=n;exact⟨s0 (by omega),stt.trans tl.symm⟩
  .have c:=pP c;have e8:d.1=8:=by omega
   have hLL:=hl (by omega);rw[av];exact⟨by show d.2.1.1=L0+64000;rw[el,e8];omega,g1,g8,gq,gt,gS,gp0,gp1,gw,hLL.1,hLL.2.1,hLL.b.1,hLL.b.2.1,hLL.c.1,hLL.c.2.1,hLL.c.b.1,hLL.c.b.2,hs (by omega)⟩) (λd hd=>by omega)
theorem aQx (x:pn.B)(h0:0<=x.1)(h6:x.1<6):Ok (mH x) (λr:F9=>r.1=x.d.b.2.1.1.1 (ws x.1)/\r.c.1=x.d.b.2.1.1.c.1 (ws x.1)):=by
 unfold mH zG;try dsimp only
 show PQ _ _;refine ay (R:=λr:At=>r.1=x.d.b.2.1.1.1 (ws x.1)/\r.c.1=x.d.b.2.1.1.c.1 (ws x.1)) ?_ λd _ hd=>by rw[av];exact hd
 unfold kQ sP;show PQ _ _;have hk:(decide (0<=x.1)&&decide (x.1<6))=true:=by rw[gF h0,gF h6];rfl
 have r0:bk x.1 6=true:=by rw[cx];omega
 have r1:wd (0+ws x.1*6+6) 36=true:=by rw[eV];omega
 rw[Ry,dL,hk,show(!true)=false from rfl,uu,r0,aV,r1,aV,av];exact⟨rfl,rfl⟩
theorem aNj (t l:Int)(f:Int)(s:Bool)(k m B:Int)(hl:Bd B l)(h:B+10000<t)(hB:t<=4000000000000000):Ok (du t l f s k 10000 m) (λr:o9=>r=false):=by
 refine(bq.Ok (af7 t l f s k 10000 m) (Q:=λ_=>True) λ_ _=>trivial).with (R:=λr:o9=>r=false) ?_|>.mono λ_ h=>h.2
 unfold du pd;show PW _ _;refine bB (R:=λr:xO=>r=false) ?_ λd _ hd=>by rw[hd,aZ];exact⟨λc=>Bool.noConfusion c,λ_=>by rw[aR]⟩
 unfold lD rq;show PW _ _;try dsimp only
 rw[aZ];refine⟨λ_=>by rw[aR],λ_=> ?_⟩;rw[aZ];refine⟨λ_=> ?_,λc=>absurd (pP c) (by omega)⟩;rw[aZ];refine⟨λ_=> ?_,λ_=>by rw[aR]⟩;rw[aR];have e1:wU t=t:=by rw[show wU t=(t)%18446744073709551616 from wrap_u64 _];omega
 have e2:wU l=l:=by rw[show wU l=(l)%18446744073709551616 from wrap_u64 _];omega
 have e3:wU (t-l)=t-l:=by rw[show wU (t-l)=(t-l)%18446744073709551616 from wrap_u64 _];omega
 have e4:wU 10000=10000:=by rw[show wU 10000=(10000)%18446744073709551616 from wrap_u64 _];omega
 rw[e1,e2,e3,e4];exact dw (by omega)
theorem aKm (B:Int):∀(d:jz.B) (hd:0<=d.1/\d.1<=6/\Lb B d.d.c.2.1.1.1/\(∀j,j<6->d.d.c.2.1.1.c.1 j=10000)/\B+10000<d.b.1.c.1/\d.b.1.c.1<=4000000000000000),Ok (KX d) (λx:sr=>match x with|.inl _=>False|.inr _=>True):=
 bP (λd:jz.B=>ws (6-d.1)) (λd hd=>by
  obtain⟨i0,i1,hl,ht,h,hB⟩:=hd;unfold KW;dsimp only;rw[aK];refine⟨λc=> ?_,λ_=>by rw[av];exact trivial⟩;have c:=eK c;have hw:wI (d.1+1)=d.1+1:=bo;simp only[aN];repeat rw[aV]
  with_reducible refine ay (aQx _ ?_ ?_) λs _ hs=> ?_
  .exact i0
  .exact c
  obtain⟨s0,s4⟩:=hs;have s0:s.1=d.d.c.2.1.1.1 (ws d.1):=s0;have s4:s.c.1=10000:=s4.trans (ht _ (by omega));rw[s4];with_reducible refine ay (aNj _ _ _ _ _ _ B ?_ h hB) λu _ hu=> ?_
  .rw[s0];exact hl _
  rw[hu,uu,av];exact⟨⟨by show 0<=wI (d.1+1);rw[hw];omega,by show wI (d.1+1)<=6;rw[hw];omega,hl,ht,h,hB⟩,by show ws (6-wI (d.1+1))<ws (6-d.1);rw[hw];omega⟩) (λd hd=>by omega)
theorem a0i (w:Nat->Int):∀(d:jy.B) (hd:0<=d.1.2.2.2/\d.1.2.2.1=6/\d.2.1=w/\(∀k,d.2.2.1 k=0)/\∀j:Nat,(j:Int)<d.1.2.2.2->d.2.2.2.2.2.2.1 j=w j),Po (C' d) (λx:rX=>match x with|.inl _=>True|.inr e=>(∀k,e.2.2.1 k=0)/\∀j,j<6->e.2.2.2.2.2.2.1 j=w j):=
 Dh (λd hd=>by
  obtain⟨i0,i1,ew,hl,ht⟩:=hd;unfold C9;dsimp only;rw[aZ];refine⟨λc=> ?_,λc=> ?_⟩
  .have c:=eK c;rw[i1] at c;have hw:wI (d.1.2.2.2+1)=d.1.2.2.2+1:=bo i0 (by omega);obtain⟨n,hn⟩:∃n:Nat,d.1.2.2.2=(n:Int):=⟨ws d.1.2.2.2,by omega⟩;have tn:ws d.1.2.2.2=n:=by omega
   rw[cU];intro _;rw[aZ];refine⟨λ_=>by rw[aR];exact trivial,λ_=> ?_⟩;rw[aZ];refine⟨λ_=>by rw[aR];exact trivial,λ_=> ?_⟩;rw[cU];intro _;rw[cU];intro _;rw[aR,hw,tn];refine⟨by show 0<=d.1.2.2.2+1;omega,i1,ew,λk=> ?_,λj hj=> ?_⟩
   .show(bif ww k n then 0 else d.2.2.1 k)=0;cases ww k n
    .exact hl k
    .rfl
   .have hj:(j:Int)<d.1.2.2.2+1:=hj;show(bif ww j n then d.2.1 n else d.2.2.2.2.2.2.1 j)=w j;cases hb:ww j n with
    |true=>
     have e:j=n:=oK hb;subst e;show d.2.1 j=w j;rw[ew]
    |false=>
     have ne:j≠n:=λq=>by rw[q,OG] at hb;cases hb
     exact ht j (by omega)
  .have c:=pP c;rw[i1] at c;rw[aR];exact⟨hl,λj hj=>ht j (by omega)⟩)
theorem a3i (x0:Int)(x1:Nat)(w:Nat->Int)(w0:Bool):Po (rY x0 x1 w w0) (λr:wC=>match r with|.inl _=>True|.inr e=>(∀k,e.1 k=0)/\∀j,j<6->e.c.1 j=w j):=by
 unfold rY GV;show PW _ _;try dsimp only
 rw[aZ];refine⟨λ_=>by rw[aR];exact trivial,λ_=> ?_⟩;rw[aZ];refine⟨λ_=>by rw[aR];exact trivial,λ_=> ?_⟩;rw[aZ];refine⟨λ_=>by rw[aR];exact trivial,λc=> ?_⟩
 have c:wl x1=6:=by
  have c:(!(wl x1==6))=false:=c;rw[agq] at c;exact eq_of_beq c
 repeat (rw[cU];intro _)
 refine bB (a0i w _ ⟨eZ 0,c,rfl,λ_=>rfl,λj hj=>absurd hj (by show ¬(j:Int)<0;omega)⟩) λy _ hy=> ?_;rw[ij];refine⟨λa ha=>by rw[aR];exact trivial,λa ha=> ?_⟩;subst ha;rw[aR];exact hy
theorem a3j (x0:Int):Po (uL x0) (λr:DR=>match r with|.inl _=>True|.inr e=>e=x0):=by
 unfold uL Jy;show PW _ _;try dsimp only
 repeat' (first
  |(rw[kD];exact trivial)
  |(rw[ij];refine⟨λa ha=> ?_,λa ha=> ?_⟩<;>subst ha)
  |(rw[qR];refine⟨λa ha=> ?_,λa ha=> ?_⟩<;>subst ha)
  |(rw[aZ];refine⟨λc=> ?_,λc=> ?_⟩)
  |(rw[dA];intro _ _))
 all_goals (rw[aR]<;>first|exact trivial|exact rfl)
theorem a0j (x:KH.B)(h0:x.c.2.1.1=10000)(h1:x.c.2.1.2.1=10000)(h2:x.c.2.1.b.1=10000)(h3:x.c.2.1.b.2.1=10000)(h4:x.c.2.1.c.1=10000)(h5:x.c.2.1.c.2=10000):Po (AA x) (λr:Qo=>match r with|.inl _=>True|.inr e=>e.1.2.1=x.2.1/\e.1.e.b.1=x.d.1/\e.b.1=x.1/\(∀k,e.d.b.1.1 k=0)/\(∀j,j<6->e.d.b.1.c.1 j=10000)):=by
 unfold AA ZB;try dsimp only
 show PW _ _;try dsimp only
 repeat' (first
  |(with_reducible refine bB (a3i _ _ _ _) λhn _ hhn=> ?_)
  |(with_reducible refine bB (a3j _) λdn _ hdn=> ?_)
  |(rw[kD];exact trivial)
  |(rw[ij];refine⟨λa ha=> ?_,λa ha=> ?_⟩<;>subst ha)
  |(rw[qR];refine⟨λa ha=> ?_,λa ha=> ?_⟩<;>subst ha)
  |(rw[aZ];refine⟨λc=> ?_,λc=> ?_⟩)
  |(rw[dA];intro _ _))
 all_goals
  rw[aR];first
  |exact trivial
  |(refine⟨rfl,rfl,hdn,hhn.1,λj hj=> ?_⟩
    rw[hhn.2 j hj];have cs:j=0∨j=1∨j=2∨j=3∨j=4∨j=5:=by omega
    rcases cs with rfl|rfl|rfl|rfl|rfl|rfl
    .exact h0
    .exact h1
    .exact h2
    .exact h3
    .exact h4
    .exact h5)
theorem aV0:∀(d:lA.B) (hd:0<=d.1.2/\d.1.2<=6/\(0<d.1.2->d.d.2.1=10000)/\(1<d.1.2->d.d.b.1=10000)/\(2<d.1.2->d.d.b.2.1=10000)/\(3<d.1.2->d.d.c.1=10000)/\(4<d.1.2->d.d.c.2.1=10000)/\(5<d.1.2->d.d.c.b.1=10000)),Ok (KP d) (λx:xL=>x.d.2.1=10000/\x.d.b.1=10000/\x.d.b.2.1=10000/\x.d.c.1=10000/\x.d.c.2.1=10000/\x.d.c.b.1=10000):=
 bP (λd:lA.B=>ws (6-d.1.2)) (λd hd=>by
  obtain⟨i0,i1,t0,t1,t2,t3,t4,t5⟩:=hd;unfold KO;dsimp only;rw[aK];refine⟨λc=> ?_,λc=> ?_⟩
  .have c:=eK c;have hw:wI (d.1.2+1)=d.1.2+1:=bo;have r0:bk d.1.2 6=true:=by rw[cx];omega
   rw[r0,aV];have ms:ws (6-wI (d.1.2+1))<ws (6-d.1.2):=by rw[hw];omega
   have b0:0<=wI (d.1.2+1):=by rw[hw];omega
   have b1:wI (d.1.2+1)<=6:=by rw[hw];omega
   repeat' (first
    |(rw[aK];refine⟨λq=> ?_,λq=> ?_⟩<;>first|have q:=eq_of_beq q|have q:=alK q))
   .rw[av];exact⟨⟨b0,b1,λq=>t0 (by have q:0<wI (d.1.2+1):=q;rw[hw] at q;omega),λq=>t1 (by have q:1<wI (d.1.2+1):=q;rw[hw] at q;omega),λq=>t2 (by have q:2<wI (d.1.2+1):=q;rw[hw] at q;omega),λq=>t3 (by have q:3<wI (d.1.2+1):=q;rw[hw] at q;omega),λq=>t4 (by have q:4<wI (d.1.2+1):=q;rw[hw] at q;omega),λ_=>rfl⟩,ms⟩
   .rw[av];exact⟨⟨b0,b1,λq=>t0 (by have q:0<wI (d.1.2+1):=q;rw[hw] at q;omega),λq=>t1 (by have q:1<wI (d.1.2+1):=q;rw[hw] at q;omega),λq=>t2 (by have q:2<wI (d.1.2+1):=q;rw[hw] at q;omega),λq=>t3 (by have q:3<wI (d.1.2+1):=q;rw[hw] at q;omega),λ_=>rfl,λq=>t5 (by have q:5<wI (d.1.2+1):=q;rw[hw] at q;omega)⟩,ms⟩
   .rw[av];exact⟨⟨b0,b1,λq=>t0 (by have q:0<wI (d.1.2+1):=q;rw[hw] at q;omega),λq=>t1 (by have q:1<wI (d.1.2+1):=q;rw[hw] at q;omega),λq=>t2 (by have q:2<wI (d.1.2+1):=q;rw[hw] at q;omega),λ_=>rfl,λq=>t4 (by have q:4<wI (d.1.2+1):=q;rw[hw] at q;omega),λq=>t5 (by have q:5<wI (d.1.2+1):=q;rw[hw] at q;omega)⟩,ms⟩
   .rw[av];exact⟨⟨b0,b1,λq=>t0 (by have q:0<wI (d.1.2+1):=q;rw[hw] at q;omega),λq=>t1 (by have q:1<wI (d.1.2+1):=q;rw[hw] at q;omega),λ_=>rfl,λq=>t3 (by have q:3<wI (d.1.2+1):=q;rw[hw] at q;omega),λq=>t4 (by have q:4<wI (d.1.2+1):=q;rw[hw] at q;omega),λq=>t5 (by have q:5<wI (d.1.2+1):=q;rw[hw] at q;omega)⟩,ms⟩
   .rw[av];exact⟨⟨b0,b1,λq=>t0 (by have q:0<wI (d.1.2+1):=q;rw[hw] at q;omega),λ_=>rfl,λq=>t2 (by have q:2<wI (d.1.2+1):=q;rw[hw] at q;omega),λq=>t3 (by have q:3<wI (d.1.2+1):=q;rw[hw] at q;omega),λq=>t4 (by have q:4<wI (d.1.2+1):=q;rw[hw] at q;omega),λq=>t5 (by have q:5<wI (d.1.2+1):=q;rw[hw] at q;omega)⟩,ms⟩
   .rw[av];exact⟨⟨b0,b1,λ_=>rfl,λq=>t1 (by have q:1<wI (d.1.2+1):=q;rw[hw] at q;omega),λq=>t2 (by have q:2<wI (d.1.2+1):=q;rw[hw] at q;omega),λq=>t3 (by have q:3<wI (d.1.2+1):=q;rw[hw] at q;omega),λq=>t4 (by have q:4<wI (d.1.2+1):=q;rw[hw] at q;omega),λq=>t5 (by have q:5<wI (d.1.2+1):=q;rw[hw] at q;omega)⟩,ms⟩
  .have c:=pP c;rw[av];exact⟨t0 (by omega),t1 (by omega),t2 (by omega),t3 (by omega),t4 (by omega),t5 (by omega)⟩) (λd hd=>by omega)
theorem aV1 (x:Lw.B)(h0:x.c.2.1.1=10000)(h1:x.c.2.1.2.1=10000)(h2:x.c.2.1.b.1=10000)(h3:x.c.2.1.b.2.1=10000)(h4:x.c.2.1.c.1=10000)(h5:x.c.2.1.c.2=10000):Po (Gh x) (λr:S5=>match r with|.inl _=>True|.inr e=>e.1.2.1=x.2.1/\e.1.e.b.1=x.d.1/\e.b.1=x.1/\(∀k,e.d.b.1.1 k=0)/\(∀j,j<6->e.d.b.1.c.1 j=10000)):=by
 unfold Gh abV;show PW _ _;rw[dA];intro r hr;have k:=a0j x h0 h1 h2 h3 h4 h5 r hr;cases r with
 |inl a=>
  rw[aZ];refine⟨λ_=> ?_,λc=>Bool.noConfusion c⟩;rw[dA];intro _ _;rw[aR];exact trivial
 |inr a=>
  rw[aZ];refine⟨λc=>Bool.noConfusion c,λ_=> ?_⟩;rw[dA];intro b hb;have hb:=OE hb;subst hb;rw[aR];exact k
theorem aV3 (x:mG.B):Ok (gA x) (λr:tM=>(r.1,r.2.1,r.b.1,r.b.2.1)=x.1.c.2.1):=by
 refine(bq.Ok (apr x) (Q:=λ_=>True) λ_ _=>trivial).with (R:=λr:tM=>(r.1,r.2.1,r.b.1,r.b.2.1)=x.1.c.2.1) ?_|>.mono λ_ h=>h.2
 unfold gA tN;try dsimp only
 show PW _ _;rw[dA];intro _ _;rw[dA];intro _ _;rw[aR]
theorem aIV (x:pB.B):Ok (wF x) (λr:G4=>r=true):=by
 unfold wF QD;try dsimp only
 show PQ _ _;rw[show Ws=some true from rfl,dL,show(!true)=false from rfl,uu];refine ay (aV0 _ ⟨eZ 0,(show(0:Int)<=6 by decide),λq=>absurd q (show ¬(0:Int)<0 by decide),λq=>absurd q (show ¬(1:Int)<0 by decide),λq=>absurd q (show ¬(2:Int)<0 by decide),λq=>absurd q (show ¬(3:Int)<0 by decide),λq=>absurd q (show ¬(4:Int)<0 by decide),λq=>absurd q (show ¬(5:Int)<0 by decide)⟩) λd _ hd=> ?_;obtain⟨t0,t1,t2,t3,t4,t5⟩:=hd;with_reducible refine ay ((aVW _).with (aV1 _ ?_ ?_ ?_ ?_ ?_ ?_)) λr _ hr=> ?_
 .exact t0
 .exact t1
 .exact t2
 .exact t3
 .exact t4
 .exact t5
 cases r with
 |inl a=>
  have aQn:=hr.1;simp only[aV,dL];rw[show pf _=some false from aQn,dL,av];rfl
 |inr a=>
 obtain⟨⟨⟨b0,b1,o0,o1⟩,s0,s1,s2,s3,s4,s5,u⟩,f1,f8,f2,fl,ft⟩:=hr;have b0:1<=d.2.1:=b0;have b1:d.2.1<=64:=b1;have o0:1<=d.e.c.1:=o0;have o1:d.e.c.1<=64:=o1;simp only[uu,dL];obtain⟨N,hN⟩:∃N:Nat,d.e.c.1=(N:Int):=⟨ws d.e.c.1,(Int.toNat_of_nonneg (by omega)).symm⟩;have pb:∀y:Int,y=d.2.1->Pb d.2.1 ((0,0,0,0,0),y,0, -9223372036854775808):=λy e=>⟨e,by show((0:Nat):Int)<=d.2.1;omega⟩
 with_reducible refine ay (aVX N (by omega) (by omega) d.2.1 b1 _ ⟨?_,?_,?_⟩) λy _ hy=> ?_
 .exact eZ 0
 .show(0:Int)<=20;decide
 .exact⟨⟨eZ 0,⟨λ_=>eZ 0,eZ 0,λi k _ h=>absurd h (Nat.not_lt_zero _)⟩,pb _ s0,pb _ s1,pb _ s2,pb _ s3,pb _ s4,pb _ s5,u.trans hN,Nat.zero_le _⟩,⟨f1,f8,⟨eZ 0,eZ 0⟩,rfl,f2,rfl,eZ 0,(show(0:Int)<=100000 by decide),λ_=>rfl,⟨eZ 0,(show(0:Int)<=1125899906842624 by decide)⟩,λk=>⟨by show 0<=a.d.b.1.1 k;rw[fl k];decide,by show a.d.b.1.1 k<=0;rw[fl k];decide⟩,ft⟩,λj h=>absurd h (Nat.not_lt_zero j),λj h=>absurd h (Nat.not_lt_zero j),λj h=>absurd h (Nat.not_lt_zero j),λj h=>absurd h (Nat.not_lt_zero j),λj h=>absurd h (Nat.not_lt_zero j),λj h=>absurd h (Nat.not_lt_zero j)⟩
 rw[qW];refine⟨λz hz=> ?_,λz hz=> ?_⟩<;>subst hz
 rotate_left
 rw[qW];refine⟨λz hz=> ?_,λz hz=> ?_⟩<;>subst hz
 all_goals
  dsimp only[Js] at hy
  obtain⟨is,hJ,c0,c1,c2,c3,c4,c5⟩:=hy;have hJ':=hJ;obtain⟨j1,j8,ja,jq,jt,jS,jp0,jp1,a0e,⟨jL0,jL1⟩,jl,jw⟩:=hJ';rw[aK];refine⟨λ_=>by rw[av],λcl=> ?_⟩;have cl:=pP cl;have cl:z.2.1.1<=562949953421312:=Int.not_lt.mp cl;with_reducible refine ay (aVZ N (by omega) (by omega) d.2.1 b1 z.2.1.1 jL0 cl _ ⟨?_,?_,?_,?_,?_,?_,?_,?_,?_,?_,?_,?_,?_,?_,?_⟩) λv _ hv=> ?_
  .exact eZ 0
  .show(0:Int)<=8;decide
  .exact is
  .show z.2.1.1=z.2.1.1+8000*0;omega
  .exact j1
  .exact j8
  .exact jq
  .exact jt
  .exact jS
  .exact jp0
  .exact jp1
  .exact jw
  .exact λ_=>⟨hJ,c0,c1,c2,c3,c4,c5⟩
  .exact λn=>absurd n (show ¬(1:Int)<=0 by decide)
  .exact λn=>absurd n (show ¬(4:Int)<=0 by decide)
  unfold Dd;try dsimp only
  try dsimp only
  obtain⟨ve,_,_,_,_,_,_,_,vw,_,_,_,_,_,_,_,vl,⟨q0,q2,q3⟩,vt⟩:=hv;simp only[aN];repeat rw[aV]
  with_reducible refine ay ((aV3 _).with (aV2 _).po) λss _ hss=> ?_
  have hm:(ss.1,ss.2.1,ss.b.1,ss.b.2.1)=v.b.2.1.c.2.1:=hss.1;have hT:ss.c.1=v.b.2.1.d.c.2.1:=hss.2;have m0:ss.1=v.b.2.1.c.2.1.1:=cO (λz=>z.1) hm;have m2:ss.b.1=v.b.2.1.c.2.1.b.1:=cO (λz=>z.b.1) hm;have m3:ss.b.2.1=v.b.2.1.c.2.1.b.2:=cO (λz=>z.b.2) hm;rw[show ss.b.1=false from m2.trans q2,uu,aK];refine⟨λc=>absurd (m0.symm.trans (eq_of_beq c)) q0,λ_=> ?_⟩;rw[aK];refine⟨λc=> ?_,λ_=> ?_⟩
  .have c:=eK c;rw[show ss.b.2.1=true from m3.trans (q3 (by rw[<-m0];exact c)),show(!true)=false from rfl,uu];with_reducible refine ay (aKm (z.2.1.1+8000) _ ⟨?_,?_,?_,?_,?_,?_⟩) λu _ hu=> ?_
   .exact eZ 0
   .show(0:Int)<=6;decide
   .exact vl
   .exact vw
   .show z.2.1.1+8000+10000<ss.c.1;rw[hT,vt,ve];omega
   .show ss.c.1<=4000000000000000;rw[hT,vt,ve];omega
   rw[qW];refine⟨λa e=>by subst e;exact absurd hu id,λa e=>by rw[av]⟩
  .with_reducible refine ay (aKm (z.2.1.1+8000) _ ⟨?_,?_,?_,?_,?_,?_⟩) λu _ hu=> ?_
   .exact eZ 0
   .show(0:Int)<=6;decide
   .exact vl
   .exact vw
   .show z.2.1.1+8000+10000<ss.c.1;rw[hT,vt,ve];omega
   .show ss.c.1<=4000000000000000;rw[hT,vt,ve];omega
   rw[qW];refine⟨λa e=>by subst e;exact absurd hu id,λa e=>by rw[av]⟩
theorem a0k (x:pB.B):wF x=some true:=by
 obtain⟨r,e,h⟩:=aIV x;rw[e,h]
end Go.Proofs.YtldgljclcgaibaaGreat
