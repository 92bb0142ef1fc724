/-
  Parts of the proof: QS TSm Q7 TIm TGi Q8 Q9 TRn N1 N2 TAk TGt PTS TCn
-/
import Derived.Test.YtldgljclcgaibaaGreatZAE
import Derived.Test.YtldgljclcgaibaaGreatZAJ
import Derived.Test.YtldgljclcgaibaaGreatZAK
import Derived.Test.YtldgljclcgaibaaGreatZAL
open Nat renaming beq→z9,ble→wl
open Int renaming toNat→z4,ofNat→wr,fdiv→v4
open Sum renaming inl→ww,inr→ws,elim→t9
open BitVec renaming ofInt→wd,toNat→v6
set_option linter.unusedVariables false
set_option linter.unusedSimpArgs false
set_option maxRecDepth 100000
set_option maxHeartbeats 4000000
noncomputable section
namespace Go.Proofs.YtldgljclcgaibaaGreat
open Go.Ab Go.Ab.Pg Go.Ab.Rq
def jX:=qa (pr (cu iW (c ai Eo)) (cd wg λb0=>(c mb (c m8 (c (cl (gs b0.c.1 o6) nil) (cd xQ λb4=>(cd qO λb5=>(cd qP λb6=>(cd qQ λb7=>(cd qR λb8=>(cd qS λb9=>(c mH (cd zW λAv=>(c (cl (gs b0.e mc) nil) (c (cl (gs b4.b.1 aB) nil) (c (cl (gs b5.b.1 aB) nil) (c (cl (gs b6.b.1 aB) nil) (c (cl (gs b7.b.1 aB) nil) (c (cl (gs b8.b.1 aB) nil) (c (cl (gs b9.b.1 aB) nil) (cl (cl (gs Av.b jo) nil) nil)))))))))))))))))))))
def afl:=qe (res (pr ab (pr (cl (zT (a 26 tU (c gb (c gJ (a 2 uF (cu (gp 20 5) (cu (gp 21 10) (c (gc (gr (pu aMy (pu (ox (pu dJ (pu dJ Dy))) (pl jr (pu Dy gB)))))) aXg)))))))) aD0) aXo)))
abbrev mx:=(Bool×(Fu×Bool×NI×(NI×NI)×Nat×qF×Bool×Int×kG×Bool×Bool×Bool×Int×Int×Int×En×Nat)×(kG×Int×Int)×Ly×aU9×bT×bT×bT×bT×bT×bT×Lu×tt×aMt×Fq×Fq×Fq×Fq×Fq×Fq×NI×NI×NI×NI×NI×NI×NI×NI×NI×NI×NI)
def Nz:mx->T:=λd=>lf afl (d.1,d.2.1,d.b.1,d.b.2.1,(d.2.1.c.1,d.c.1),d.c.2.1,d.c.b.1,d.c.b.2.1,d.d.1,d.d.2.1,d.d.b.1,d.d.b.2.1,d.d.c.1,(d.2.1.e,d.d.c.2.1),d.d.c.b.1,d.d.c.b.2.1,d.e.1,d.e.2.1,d.e.b.1,d.e.b.2.1,d.d.c.1.b,d.e.c)
abbrev pR:=jX.B->Option mx
def Dp (g:pR):Ct:=(22,FC jX Nz g)
def vv (aUs:ay0)(fP:BC)(aC8:Ud)(m6:EC)(rD:KB)(x:jX.B):Pg mx:=let n30:=x.1.1;let n28:=x.1.2;let n29:=n28.2.2.2.2;let n23:=x.2.1;let n19:=x.2.2;let n24:=n19.2.1;let bP:=n19.2.2;let n20:=bP.2.1;let n17:=bP.2.2;let n33:=n17.1.2.2.1;let n21:=n17.2.1;let bC:=n17.2.2;let n34:=bC.1.2.2.1;let n22:=bC.2.1;let n18:=bC.2.2;let n35:=n18.1.2.2.1;let n25:=n18.2.1;let n15:=n18.2.2;let n31:=n15.2.2;let n27:=n15.2.1;let n26:=n31.2.2;let n32:=n26.2.2;let n16:=n32.2.2;let bB:=(m6 (n20,n31.1));let bh:=(m6 (n17.1,n31.2.1));let aT:=(m6 (n21,n26.1));let n9:=(m6 (bC.1,n26.2.1));let n8:=(m6 (n22,n32.1));let n7:=(m6 (n18.1,n32.2.1));let n6:=(n20.2.2.1,n31.1);let n5:=(n33,n31.2.1);let n4:=(n21.2.2.1,n26.1);let n3:=(n34,n26.2.1);let n2:=(n22.2.2.1,n32.1);let n1:=(n35,n32.2.1);let y0:=bg n30 6;let y1:=n30==1;let y2:=n30==4;let y3:=n30==3;let y4:=n30==2;let y5:=n30==5;let y6:=z9 n20.2.2.1 n20.2.2.1;let y7:=z9 n33 n33;let y8:=z9 n21.2.2.1 n21.2.2.1;let y9:=z9 n34 n34;let At:=z9 n22.2.2.1 n22.2.2.1;let Au:=z9 n35 n35;opt (aUs n30) λd=>ae (!d) (ret (false,n23,n19.1,n24,bP.1,n20,n17.1,n21,bC.1,n22,n18.1,n25,n15.1,n27,n6,n5,n4,n3,n2,n1,n16)) (opt (fP n28.1 0 1125899906842624) λd=>ae (!d) (ae y0 (ae y5 (ae Au (opt n7 λd=>ret (false,n23,n19.1,n24,bP.1,n20,n17.1,n21,bC.1,n22,d,n25,n15.1,n27,n6,n5,n4,n3,n2,n1,n16)) no) (ae y2 (ae At (opt n8 λd=>ret (false,n23,n19.1,n24,bP.1,n20,n17.1,n21,bC.1,d,n18.1,n25,n15.1,n27,n6,n5,n4,n3,n2,n1,n16)) no) (ae y3 (ae y9 (opt n9 λd=>ret (false,n23,n19.1,n24,bP.1,n20,n17.1,n21,d,n22,n18.1,n25,n15.1,n27,n6,n5,n4,n3,n2,n1,n16)) no) (ae y4 (ae y8 (opt aT λd=>ret (false,n23,n19.1,n24,bP.1,n20,n17.1,d,bC.1,n22,n18.1,n25,n15.1,n27,n6,n5,n4,n3,n2,n1,n16)) no) (ae y1 (ae y7 (opt bh λd=>ret (false,n23,n19.1,n24,bP.1,n20,d,n21,bC.1,n22,n18.1,n25,n15.1,n27,n6,n5,n4,n3,n2,n1,n16)) no) (ae y6 (opt bB λd=>ret (false,n23,n19.1,n24,bP.1,d,n17.1,n21,bC.1,n22,n18.1,n25,n15.1,n27,n6,n5,n4,n3,n2,n1,n16)) no)))))) no) (opt (aC8 n30 n28.1 n28.2.1 n28.2.2.1 n28.2.2.2.1 n29.1 n29.2.1 n29.2.2.1 n29.2.2.2.1 n29.2.2.2.2) λd=>ae (!d) (ae y0 (ae y5 (ae Au (opt n7 λd=>ret (false,n23,n19.1,n24,bP.1,n20,n17.1,n21,bC.1,n22,d,n25,n15.1,n27,n6,n5,n4,n3,n2,n1,n16)) no) (ae y2 (ae At (opt n8 λd=>ret (false,n23,n19.1,n24,bP.1,n20,n17.1,n21,bC.1,d,n18.1,n25,n15.1,n27,n6,n5,n4,n3,n2,n1,n16)) no) (ae y3 (ae y9 (opt n9 λd=>ret (false,n23,n19.1,n24,bP.1,n20,n17.1,n21,d,n22,n18.1,n25,n15.1,n27,n6,n5,n4,n3,n2,n1,n16)) no) (ae y4 (ae y8 (opt aT λd=>ret (false,n23,n19.1,n24,bP.1,n20,n17.1,d,bC.1,n22,n18.1,n25,n15.1,n27,n6,n5,n4,n3,n2,n1,n16)) no) (ae y1 (ae y7 (opt bh λd=>ret (false,n23,n19.1,n24,bP.1,n20,d,n21,bC.1,n22,n18.1,n25,n15.1,n27,n6,n5,n4,n3,n2,n1,n16)) no) (ae y6 (opt bB λd=>ret (false,n23,n19.1,n24,bP.1,d,n17.1,n21,bC.1,n22,n18.1,n25,n15.1,n27,n6,n5,n4,n3,n2,n1,n16)) no)))))) no) (ae y0 (ae y5 (ae Au (opt (rD (n28,n18.1,n32.2.1)) λd=>sm d (λd=>ret (false,n23,n19.1,n24,bP.1,n20,n17.1,n21,bC.1,n22,d,n25,n15.1,n27,n6,n5,n4,n3,n2,n1,n16)) (λd=>ret (d.1,n23,n19.1,n24,bP.1,n20,n17.1,n21,bC.1,n22,d.2.1,n25,n15.1,n27,n6,n5,n4,n3,n2,(d.2.1.2.2.1,d.2.2),n16))) no) (ae y2 (ae At (opt (rD (n28,n22,n32.1)) λd=>sm d (λd=>ret (false,n23,n19.1,n24,bP.1,n20,n17.1,n21,bC.1,d,n18.1,n25,n15.1,n27,n6,n5,n4,n3,n2,n1,n16)) (λd=>ret (d.1,n23,n19.1,n24,bP.1,n20,n17.1,n21,bC.1,d.2.1,n18.1,n25,n15.1,n27,n6,n5,n4,n3,(d.2.1.2.2.1,d.2.2),n1,n16))) no) (ae y3 (ae y9 (opt (rD (n28,bC.1,n26.2.1)) λd=>sm d (λd=>ret (false,n23,n19.1,n24,bP.1,n20,n17.1,n21,d,n22,n18.1,n25,n15.1,n27,n6,n5,n4,n3,n2,n1,n16)) (λd=>ret (d.1,n23,n19.1,n24,bP.1,n20,n17.1,n21,d.2.1,n22,n18.1,n25,n15.1,n27,n6,n5,n4,(d.2.1.2.2.1,d.2.2),n2,n1,n16))) no) (ae y4 (ae y8 (opt (rD (n28,n21,n26.1)) λd=>sm d (λd=>ret (false,n23,n19.1,n24,bP.1,n20,n17.1,d,bC.1,n22,n18.1,n25,n15.1,n27,n6,n5,n4,n3,n2,n1,n16)) (λd=>ret (d.1,n23,n19.1,n24,bP.1,n20,n17.1,d.2.1,bC.1,n22,n18.1,n25,n15.1,n27,n6,n5,(d.2.1.2.2.1,d.2.2),n3,n2,n1,n16))) no) (ae y1 (ae y7 (opt (rD (n28,n17.1,n31.2.1)) λd=>sm d (λd=>ret (false,n23,n19.1,n24,bP.1,n20,d,n21,bC.1,n22,n18.1,n25,n15.1,n27,n6,n5,n4,n3,n2,n1,n16)) (λd=>ret (d.1,n23,n19.1,n24,bP.1,n20,d.2.1,n21,bC.1,n22,n18.1,n25,n15.1,n27,n6,(d.2.1.2.2.1,d.2.2),n4,n3,n2,n1,n16))) no) (ae y6 (opt (rD (n28,n20,n31.1)) λd=>sm d (λd=>ret (false,n23,n19.1,n24,bP.1,d,n17.1,n21,bC.1,n22,n18.1,n25,n15.1,n27,n6,n5,n4,n3,n2,n1,n16)) (λd=>ret (d.1,n23,n19.1,n24,bP.1,d.2.1,n17.1,n21,bC.1,n22,n18.1,n25,n15.1,n27,(d.2.1.2.2.1,d.2.2),n5,n4,n3,n2,n1,n16))) no)))))) no)))
def eX:=λx=>(vv PI ny DZ kF xf x).val
abbrev Dq:=ay0×BC×Ud×EC×KB
def NA (p:Dq):KK:=⟨[aJj p.1,YI p.2.1,ajV p.b.1,Oe p.b.2.1,YX p.c],⟨[],[],(0::rg 4 6 []),[],(some ⟨0,(rg 0 6 (rg 7 28 [])),[(3,[]),(4,[]),(5,[]),(6,[]),(7,[]),(8,[]),(9,[]),(10,[]),(11,[]),(12,[]),(13,[]),(14,[]),(15,[]),(16,[]),(17,[]),(18,[]),(19,[]),(20,[]),(21,[]),(0,[])]⟩)⟩,0,22⟩
theorem aib (p:Dq):D2 (NA p) jX Nz λb=>vv p.1 p.2.1 p.b.1 p.b.2.1 p.c b:=λb=>by kernel_rfl
abbrev NB:Dq:=(PI,ny,DZ,kF,xf)
theorem NC [aA]:SC (Dp eX):=sc (kS (k:=NA NB) (.c aT6 (.c anT (.c aCW (.c ako (.c atN (.nil _)))))) [] [] trivial trivial (aib NB))
end Go.Proofs.YtldgljclcgaibaaGreat
namespace Go.Proofs.YtldgljclcgaibaaGreat
open Go.Ab Go.Ab.Pg
theorem aGF (x:jX.B)(l5:x.c.2.1.b.1<=1000)(l6:x.c.b.1.b.1<=1000)(l7:x.c.b.2.1.b.1<=1000)(l8:x.d.1.b.1<=1000)(l9:x.d.2.1.b.1<=1000)(l10:x.d.b.1.b.1<=1000):Ok (eX x) (λe:mx=>e.2.1=x.2.1/\e.b.1=x.b.1/\e.b.2.1=x.b.2.1/\e.c.1=x.c.1/\e.d.b.2.1=x.d.b.2.1/\e.d.c.1=x.d.c.1/\e.d.c.2.1=x.d.c.2.1/\e.e.b.2.2=x.e.b.2.2/\((¬(0<=x.1.1/\x.1.1<6)/\e.c.2.1=x.c.2.1/\e.c.b.1=x.c.b.1/\e.c.b.2.1=x.c.b.2.1/\e.d.1=x.d.1/\e.d.2.1=x.d.2.1/\e.d.b.1=x.d.b.1)∨(x.1.1=0/\(PR x.c.2.1 e.c.2.1∨SR x.c.2.1 e.c.2.1)/\e.c.b.1=x.c.b.1/\e.c.b.2.1=x.c.b.2.1/\e.d.1=x.d.1/\e.d.2.1=x.d.2.1/\e.d.b.1=x.d.b.1)∨(x.1.1=1/\e.c.2.1=x.c.2.1/\(PR x.c.b.1 e.c.b.1∨SR x.c.b.1 e.c.b.1)/\e.c.b.2.1=x.c.b.2.1/\e.d.1=x.d.1/\e.d.2.1=x.d.2.1/\e.d.b.1=x.d.b.1)∨(x.1.1=2/\e.c.2.1=x.c.2.1/\e.c.b.1=x.c.b.1/\(PR x.c.b.2.1 e.c.b.2.1∨SR x.c.b.2.1 e.c.b.2.1)/\e.d.1=x.d.1/\e.d.2.1=x.d.2.1/\e.d.b.1=x.d.b.1)∨(x.1.1=3/\e.c.2.1=x.c.2.1/\e.c.b.1=x.c.b.1/\e.c.b.2.1=x.c.b.2.1/\(PR x.d.1 e.d.1∨SR x.d.1 e.d.1)/\e.d.2.1=x.d.2.1/\e.d.b.1=x.d.b.1)∨(x.1.1=4/\e.c.2.1=x.c.2.1/\e.c.b.1=x.c.b.1/\e.c.b.2.1=x.c.b.2.1/\e.d.1=x.d.1/\(PR x.d.2.1 e.d.2.1∨SR x.d.2.1 e.d.2.1)/\e.d.b.1=x.d.b.1)∨(x.1.1=5/\e.c.2.1=x.c.2.1/\e.c.b.1=x.c.b.1/\e.c.b.2.1=x.c.b.2.1/\e.d.1=x.d.1/\e.d.2.1=x.d.2.1/\(PR x.d.b.1 e.d.b.1∨SR x.d.b.1 e.d.b.1)))):=by
 unfold eX vv;try dsimp only
 show PQ _ _;rw[aRg,cy,aL];refine⟨λhn=> ?_,λhk=> ?_⟩
 .rw[aw];refine⟨rfl,rfl,rfl,rfl,rfl,rfl,rfl,rfl,.inl ⟨λh=> ?_,rfl,rfl,rfl,rfl,rfl,rfl⟩⟩;rw[dy h.1,dy h.2] at hn;cases hn
 rw[aEd] at hk;obtain⟨b,_,_⟩:=aYK hk 6 (by omega);have hr:=hk;rw[cK,jG,jG] at hr;obtain⟨k0,k6⟩:=hr;simp only[aQ,b]
 repeat' (first
  |rw[aD]
  |(with_reducible refine ax (aT8 _ ?_) λe _ he=> ?_)
  |(with_reducible refine ax (aLT _) λe _ he=> ?_)
  |(rw[tX];refine⟨λa ha=> ?_,λa ha=> ?_⟩)
  |(rw[bL];intro _ _)
  |(rw[aL];refine⟨λc=> ?_,λc=> ?_⟩<;>first|have c:=eq_of_beq c|have c:=aEg c|skip))
 all_goals first
  |(dsimp only;omega)
  |(rw[aw];exact⟨rfl,rfl,rfl,rfl,rfl,rfl,rfl,rfl,.inr (.inl ⟨by omega,.inr he,rfl,rfl,rfl,rfl,rfl⟩)⟩)
  |(rw[ha] at he;rw[aw];exact⟨rfl,rfl,rfl,rfl,rfl,rfl,rfl,rfl,.inr (.inl ⟨by omega,.inl he,rfl,rfl,rfl,rfl,rfl⟩)⟩)
  |(rw[aw];exact⟨rfl,rfl,rfl,rfl,rfl,rfl,rfl,rfl,.inr (.inr (.inl ⟨by omega,rfl,.inr he,rfl,rfl,rfl,rfl⟩))⟩)
  |(rw[ha] at he;rw[aw];exact⟨rfl,rfl,rfl,rfl,rfl,rfl,rfl,rfl,.inr (.inr (.inl ⟨by omega,rfl,.inl he,rfl,rfl,rfl,rfl⟩))⟩)
  |(rw[aw];exact⟨rfl,rfl,rfl,rfl,rfl,rfl,rfl,rfl,.inr (.inr (.inr (.inl ⟨by omega,rfl,rfl,.inr he,rfl,rfl,rfl⟩)))⟩)
  |(rw[ha] at he;rw[aw];exact⟨rfl,rfl,rfl,rfl,rfl,rfl,rfl,rfl,.inr (.inr (.inr (.inl ⟨by omega,rfl,rfl,.inl he,rfl,rfl,rfl⟩)))⟩)
  |(rw[aw];exact⟨rfl,rfl,rfl,rfl,rfl,rfl,rfl,rfl,.inr (.inr (.inr (.inr (.inl ⟨by omega,rfl,rfl,rfl,.inr he,rfl,rfl⟩))))⟩)
  |(rw[ha] at he;rw[aw];exact⟨rfl,rfl,rfl,rfl,rfl,rfl,rfl,rfl,.inr (.inr (.inr (.inr (.inl ⟨by omega,rfl,rfl,rfl,.inl he,rfl,rfl⟩))))⟩)
  |(rw[aw];exact⟨rfl,rfl,rfl,rfl,rfl,rfl,rfl,rfl,.inr (.inr (.inr (.inr (.inr (.inl ⟨by omega,rfl,rfl,rfl,rfl,.inr he,rfl⟩)))))⟩)
  |(rw[ha] at he;rw[aw];exact⟨rfl,rfl,rfl,rfl,rfl,rfl,rfl,rfl,.inr (.inr (.inr (.inr (.inr (.inl ⟨by omega,rfl,rfl,rfl,rfl,.inl he,rfl⟩)))))⟩)
  |(rw[aw];exact⟨rfl,rfl,rfl,rfl,rfl,rfl,rfl,rfl,.inr (.inr (.inr (.inr (.inr (.inr (⟨by omega,rfl,rfl,rfl,rfl,rfl,.inr he⟩))))))⟩)
  |(rw[ha] at he;rw[aw];exact⟨rfl,rfl,rfl,rfl,rfl,rfl,rfl,rfl,.inr (.inr (.inr (.inr (.inr (.inr (⟨by omega,rfl,rfl,rfl,rfl,rfl,.inl he⟩))))))⟩)
  |skip
open Go.Ab Go.Ab.Pg Go.Ab.Rq
def pS:=qa (pr (cu iW abA) (cd wg λb0=>(c mb (c m8 (c (cl (gs b0.c.1 o6) nil) (cd xQ λb4=>(cd qO λb5=>(cd qP λb6=>(cd qQ λb7=>(cd qR λb8=>(cd qS λb9=>(c mH (cd zW λAv=>(c (cl (gs b0.e mc) nil) (c (cl (gs b4.b.1 aB) nil) (c (cl (gs b5.b.1 aB) nil) (c (cl (gs b6.b.1 aB) nil) (c (cl (gs b7.b.1 aB) nil) (c (cl (gs b8.b.1 aB) nil) (c (cl (gs b9.b.1 aB) nil) (cl (cl (gs Av.b jo) nil) nil)))))))))))))))))))))
def aub:=qe (res (pr aPw (pr (cl (zT aXl) aD0) aXo)))
abbrev tO:=((Int×Int)×(Fu×Bool×NI×(NI×NI)×(Nat×Nat)×qF×Bool×Int×kG×Bool×Bool×Bool×Int×Int×Int×En×Nat)×(kG×Int×Int)×Ly×Q9×bT×bT×bT×bT×bT×bT×Lu×tt×Fo×cP×cP×cP×cP×cP×cP×Nat×NI×NI×NI×NI×NI×NI×NI×NI×NI×NI×NI)
def abo:tO->T:=λd=>lf aub (d.1,d.2.1,d.b.1,d.b.2.1,d.c.1,d.c.2.1,d.c.b.1,d.c.b.2.1,d.d.1,d.d.2.1,d.d.b.1,d.d.b.2.1,d.d.c.1,d.d.c.2.1,(d.c.2.1.b.1,d.d.c.b.1),(d.c.b.1.b.1,d.d.c.b.2.1),(d.c.b.2.1.b.1,d.e.1),(d.d.1.b.1,d.e.2.1),(d.d.2.1.b.1,d.e.b.1),(d.d.b.1.b.1,d.e.b.2.1),d.e.c)
abbrev zM:=pS.B->Option tO
def zN (g:zM):Ct:=(27,FC pS abo g)
def eo:=qs (st (pr (cu iW (us 5 (cu ZT (us 2 aVw)))) (pl (c aQh (c lg (c lk (cu nO (cd J4 λb4=>(cd J5 λb5=>(cd J6 λb6=>(cd J7 λb7=>(cd J8 λb8=>(cd afO λb9=>(c j8 (c afN (cu nO (cu nO (cu nO (cu nO (cu nO (cu nO (cu nO (cu nO (c zX (c me (c tT (c (so (cl (gs b4.b.1 aB) nil)) (c (so (cl (gs b5.b.1 aB) nil)) (c (so (cl (gs b6.b.1 aB) nil)) (c (so (cl (gs b7.b.1 aB) nil)) (c (so (cl (gs b8.b.1 aB) nil)) (c (so (cl (gs b9.b.1 aB) nil)) Fy))))))))))))))))))))))))))))) aD6)))
def aic:=qs (st (pr (cu iW (us 5 (cu ZT (us 2 (c ai (us 48 (cu iW (cu iW (cu aPE (c (ac aKf) (c ai (c ab (cu J1 (cu iW (cu iW (cu aPE (c (ac aKf) (c (ac (LC (pu aum (pl Wd Dy)))) (c (ac (LC (pu aum (pl Wd Dx)))) (c ai (cu (app 20 1) (c ai (cu iW (cu iW (cu aDA (cu aJ5 (c ai (c ai (c ab (cl ab aRW)))))))))))))))))))))))))))))) (pl (c aQh (c lg (c lk (cu nO (c J4 (c J5 (c J6 (c J7 (c J8 (c afO (c j8 (c afN (cu nO (cu nO (cu nO (cu nO (cu nO (cu nO (cu nO (cu nO (c zX (c me xR)))))))))))))))))))))) aD6)))
def aid:=qs (st (pr (cu iW (us 5 (cu ZT (us 2 (c ai (us 48 (cu iW (cu iW (cu aPE (c (ac aKf) (c ai (cl ab (cu tQ (xs 16 (cu tQ aRW))))))))))))))) (pl (c aQh (c lg (c lk (cu nO (c J4 (c J5 (c J6 (c J7 (c J8 (c afO (c j8 (c afN (cu nO (cu nO (cu nO (cu nO (cu nO (cu nO (cu nO (cu nO (c zX (c me xR)))))))))))))))))))))) aD6)))
abbrev iR:=((Int×(Nat×Nat)×Int×Bool×Nat×Int×Int×Int×Int×Bool)×((Int×Int×Int×(Int×Int×Int×Int×Int×Int)×(Int×Int×Int×Int×Int×Int)×NI×NI×Int×Int×Int×Int×Int×Int×Int×Int)×Bool×NI×(NI×NI)×qF×Bool×Int×kG×Bool×Bool×Bool×Int×Int×Int×En×Nat)×(kG×Int×Int)×Ly×bT×bT×bT×bT×bT×bT×Lu×tt×aRU×Q9×Fo×cP×cP×cP×cP×cP×cP×Nat×NI×NI×NI×NI×NI×NI×NI×NI×NI×NI×NI)⊕((Int×(Nat×Nat)×Int×Bool)×(Fu×Bool×NI×(NI×NI)×qF×Bool×Int×kG×Bool×Bool×Bool×Int×Int×Int×En×Nat)×(kG×Int×Int)×Ly×bT×bT×bT×bT×bT×bT×Lu×tt×aul×Q9×Fo×cP×cP×cP×cP×cP×cP×Nat×NI×NI×NI×NI×NI×NI×NI×NI×NI×NI×NI)
def U2 {ρ:Type}(x:iR)(K:AX->St->Option ρ):Option ρ:=(t9 (λd=>K (.ex 0) (aic.em ((d.1.1,d.1.2.1,d.1.b.1,d.1.b.2.1,d.1.2.1,d.1.c.1,d.1.c.1,d.1.c.2.1,d.1.c.b.1,d.1.c.b.2.1,d.1.d.1,d.1.d.2,d.1.d.2),((d.2.1.1.1,d.1.c.b.2.1,d.2.1.1.2),d.2.1.2.1,d.2.1.b.1,d.2.1.b.2.1,d.1.2.1,d.2.1.c),d.b.1,d.b.2.1,d.c.1,d.c.2.1,d.c.b.1,d.c.b.2.1,d.d.1,d.d.2.1,d.d.b.1,d.d.b.2.1,(d.1.c.b.1,d.d.c.1),d.d.c.2.1,d.d.c.b.1,(d.c.1.b.1,d.d.c.b.2.1),(d.c.2.1.b.1,d.e.1),(d.c.b.1.b.1,d.e.2.1),(d.c.b.2.1.b.1,d.e.b.1),(d.d.1.b.1,d.e.b.2.1),(d.d.2.1.b.1,d.e.c.1),d.e.c.2))) (λd=>K (.ex 0) (aid.em (d.1,(d.2.1.1,d.2.1.2.1,d.2.1.b.1,d.2.1.b.2.1,d.1.2.1,d.2.1.c),d.b.1,d.b.2.1,d.c.1,d.c.2.1,d.c.b.1,d.c.b.2.1,d.d.1,d.d.2.1,d.d.b.1,d.d.b.2.1,d.d.c.1,d.d.c.2.1,d.d.c.b.1,(d.c.1.b.1,d.d.c.b.2.1),(d.c.2.1.b.1,d.e.1),(d.c.b.1.b.1,d.e.2.1),(d.c.b.2.1.b.1,d.e.b.1),(d.d.1.b.1,d.e.b.2.1),(d.d.2.1.b.1,d.e.c.1),d.e.c.2)))) x
def ux (auc:KR)(d:eo.B):PL eo iR:=let n9:=d.2.2;let n17:=n9.2.2.1;let n8:=d.2.1;let n4:=n8.2.2.2;let bP:=n4.2.2.2.2.2.2.2.2.2.2.2.2.2;let bC:=n4.2.1;let n2:=n9.2.2.2;let n18:=n2.2.2.1;let n6:=n2.2.2.2;let n1:=n6.2.2.2;let n5:=n1.2.2;let bB:=n5.2.2.2.2;let aT:=n5.1.2;let n15:=aT.2.2.2;let n3:=bB.2.2.2.2.2;let n7:=n3.2.2.2.2.2;let y0:=wr bC.2;let y1:=bg 0 bC.2;let y2:=bC.1+0;let y3:=bC.2-1;let y4:=bC.1+1;let y5:=decide (y0>0);let y6:=wI (n1.2.1.1-n8.1.2.1);let y7:=decide (aT.1 y2<=y6);ae y5 (ae y1 (ae y7 (ae y1 (ae (HF 1 bC.2) (ae (z9 y3 y3) (ae (z9 bP bP) (ae (z9 n17.2.2.1 n17.2.2.1) (ae (z9 n2.1.2.2.1 n2.1.2.2.1) (ae (z9 n2.2.1.2.2.1 n2.2.1.2.2.1) (ae (z9 n18.2.2.1 n18.2.2.1) (ae (z9 n6.1.2.2.1 n6.1.2.2.1) (ae (z9 n6.2.1.2.2.1 n6.2.1.2.2.1) (ae (z9 n1.1.2.2 n1.1.2.2) (opt (auc ((aT.1 y2,aT.2.1 y2,(aT.2.2.1 y2,n15.1 y2,n15.2.1 y2),n15.2.2.1 y2,n15.2.2.2.1 y2,n15.2.2.2.2 y2),(n8.1,n8.2.1,n8.2.2.1,n4.1,y3,n4.2.2),n9.1,n9.2.1,(sh8 y4 aT),n17,n2.1,n2.2.1,n18,n6.1,n6.2.1,n6.2.2.1,n1.1,(ais 0 n5.2.1.2),(mZ 0 n5.2.2.1),(mZ 0 n5.2.2.2.1),(mZ 0 bB.1),(mZ 0 bB.2.1),(mZ 0 bB.2.2.1),(mZ 0 bB.2.2.2.1),λj=>n3.1 (0+j),λj=>n3.2.1 (0+j),λj=>n3.2.2.1 (0+j),λj=>n3.2.2.2.1 (0+j),λj=>n3.2.2.2.2.1 (0+j),λj=>n7.1 (0+j),λj=>n7.2.1 (0+j),λj=>n7.2.2.1 (0+j),λj=>n7.2.2.2.1 (0+j),λj=>n7.2.2.2.2.1 (0+j),λj=>n7.2.2.2.2.2 (0+j))) λak=>let n16:=ak.1.1.2;let bh:=ak.1.2.2.2;ret (ww (wI (d.1+1),(ak.1.1.1,n16.1,n16.2.1,n16.2.2.1,(y4+0,n16.2.2.2.1),n16.2.2.2.2),n9.1,n9.2.1,ak.1.2.1,ak.1.2.2.1,bh.1,bh.2.1,bh.2.2.1,bh.2.2.2.1,bh.2.2.2.2.1,bh.2.2.2.2.2,n1.2.1,n5.1,ak.2))) no) no) no) no) no) no) no) no) no) no) no) (ret (ws (ww ((d.1,bC,y0,y5,y2,aT.1 y2,n1.2.1.1,n8.1.2.1,y6,y7),((n8.1.1,n8.1.2.2),n8.2.1,n8.2.2.1,n4.1,n4.2.2),n9.1,n9.2.1,n17,n2.1,n2.2.1,n18,n6.1,n6.2.1,n6.2.2.1,n1.1,n1.2.1.2,n5))))) no) (ret (ws (ws ((d.1,bC,y0,y5),(n8.1,n8.2.1,n8.2.2.1,n4.1,n4.2.2),n9))))
def AU:=bI (ux ot) 2000
def gY:=qs (st (pu (cu iW (us 5 (cu ZT (us 95 nil)))) (pl (cd (so (a 26 tU (c gb (c gJ (a 2 uF (cu akJ (cu akK (c (gc (gr (pu aum (pu (ox (pu dJ (pu dJ Dy))) (pl jr (pu Dy gB)))))) aQd)))))))) λb0=>(c lg (c lk (cu nO (cd J4 λb4=>(cd J5 λb5=>(cd J6 λb6=>(cd J7 λb7=>(cd J8 λb8=>(cd afO λb9=>(c j8 (c afN (cu nO (cu nO (cu nO (cu nO (cu nO (cu nO (cu nO (cu nO (c zX (c (so (cl (gs b0.c.1 o6) nil)) (c (so (cl (gs b0.e mc) nil)) (c (so (cl (gs b4.b.1 aB) nil)) (c (so (cl (gs b5.b.1 aB) nil)) (c (so (cl (gs b6.b.1 aB) nil)) (c (so (cl (gs b7.b.1 aB) nil)) (c (so (cl (gs b8.b.1 aB) nil)) (c (so (cl (gs b9.b.1 aB) nil)) Fy))))))))))))))))))))))))))))) aD6)))
def apV:=qs (st (pr (us 4 (cl ai (cu (ac aJP) (us 96 nil)))) (pl (c (so aXl) (cu nO (cu nO (cu nO (cu nO (cu nO (cu nO (cu nO (cu nO (cu nO (cu nO (cu nO (cu nO (cu nO (cu nO (cu nO (cu nO (cu nO (cu nO (cu nO (c lg (c lk (c me (c (so aWV) (c (so aD2) (c aD3 (c abD (c abE (c abF (c j8 (c (so aWK) xR))))))))))))))))))))))))))))))) (cu Dx aD6))))
abbrev kC:=(Int×(Fu×Bool×NI×(NI×NI)×(Nat×Nat)×qF×Bool×Int×kG×Bool×Bool×Bool×Int×Int×Int×En×Nat)×(kG×Int×Int)×Ly×Q9×bT×bT×bT×bT×bT×bT×Lu×tt×Fo×cP×cP×cP×cP×cP×cP×Nat×NI×NI×NI×NI×NI×NI×NI×NI×NI×NI×NI)
def U3 {ρ:Type}(x:kC)(K:AX->St->Option ρ):Option ρ:=(λd=>K .ret (apV.em (d.1,d.2.1,d.b.1,d.b.2.1,d.c.1,d.c.2.1,d.c.b.1,d.c.b.2.1,d.d.1,d.d.2.1,d.d.b.1,d.d.b.2.1,d.d.c.1,d.d.c.2.1,(d.c.2.1.b.1,d.d.c.b.1),(d.c.b.1.b.1,d.d.c.b.2.1),(d.c.b.2.1.b.1,d.e.1),(d.d.1.b.1,d.e.2.1),(d.d.2.1.b.1,d.e.b.1),(d.d.b.1.b.1,d.e.b.2.1),d.e.c))) x
def uA (dR:LT eo iR)(d:gY.B):Pg kC:=let n7:=d.2.2.2;let n3:=d.1.2.2.2.2;let n2:=n7.2.2;let n8:=n2.2.2;let n1:=n8.2.2.2.2;let n9:=n1.1.2.2.2;let n6:=n1.2.1.2.2;let y0:=n3.1+1;ae (wl (y0*64) 140737488355328) (ae (z9 n7.1.2.2.1 n7.1.2.2.1) (ae (z9 n7.2.1.2.2.1 n7.2.1.2.2.1) (ae (z9 n2.1.2.2.1 n2.1.2.2.1) (ae (z9 n2.2.1.2.2.1 n2.2.1.2.2.1) (ae (z9 n8.1.2.2.1 n8.1.2.2.1) (ae (z9 n8.2.1.2.2.1 n8.2.1.2.2.1) (opt (dR (0,(d.1.1,d.1.2.1,d.1.2.2.1,d.1.2.2.2.1,(0,y0),n3.2),d.2.1,d.2.2.1,n7.1,n7.2.1,n2.1,n2.2.1,n8.1,n8.2.1,n8.2.2.1,n8.2.2.2.1,n1.1,(y0,λj=>bif z9 j n3.1 then n1.1.1 else n1.2.1.1 (0+j),λj=>bif z9 j n3.1 then n1.1.2.1 else n1.2.1.2.1 (0+j),λj=>bif z9 j n3.1 then n1.1.2.2.1 else n6.1 (0+j),λj=>bif z9 j n3.1 then n9.1 else n6.2.1 (0+j),λj=>bif z9 j n3.1 then n9.2.1 else n6.2.2.1 (0+j),λj=>bif z9 j n3.1 then n9.2.2.1 else n6.2.2.2.1 (0+j),λj=>bif z9 j n3.1 then n9.2.2.2.1 else n6.2.2.2.2.1 (0+j),λj=>bif z9 j n3.1 then n9.2.2.2.2 else n6.2.2.2.2.2 (0+j)),(n3.2.2.2.2.2.2.2.2.2.2.2.2,n1.2.2.1),n1.2.2.2)) λx=>sum x (λd=>let bC:=d.2.2.2;let bB:=d.2.1;let n4:=bC.2.2.2;let aT:=n4.2.2.2;ret (d.1.1,((bB.1.1,d.1.2.2.2.2.2.2.2.1,bB.1.2),bB.2.1,bB.2.2.1,bB.2.2.2.1,d.1.2.1,bB.2.2.2.2),d.2.2.1,bC.1,aT.2.2.2.2.1,bC.2.1,bC.2.2.1,n4.1,n4.2.1,n4.2.2.1,aT.1,aT.2.1,aT.2.2.1,aT.2.2.2.2.2)) λd=>let n15:=d.2.1.2;let bP:=d.2.2.2;let n5:=bP.2.2.2;let bh:=n5.2.2.2;ret (d.1.1,(d.2.1.1,n15.1,n15.2.1,n15.2.2.1,d.1.2.1,n15.2.2.2),d.2.2.1,bP.1,bh.2.2.2.2.1,bP.2.1,bP.2.2.1,n5.1,n5.2.1,n5.2.2.1,bh.1,bh.2.1,bh.2.2.1,bh.2.2.2.2.2)) no) no) no) no) no) no) no
def p7 (d:gY.B):Option kC:=(uA AU d).val
def U4:Hd:=⟨6,(rg 1 5 (rg 7 95 [])),[(5,[]),(14,[]),(15,[]),(16,[]),(17,[]),(18,[]),(19,[]),(20,[]),(21,[]),(0,[])]⟩
def zO (aoA:Gm)(Ay:nx)(pD:LT gY kC)(x:pS.B):Pg tO:=let bP:=x.2.1;let aT:=x.2.2;let n15:=aT.2.2.1;let n5:=bP.2.2;let bh:=n5.2.2;let n9:=bh.2.2.2.2.2.2.2.2.2.2.2.2;let n4:=aT.2.2.2;let n16:=n4.2.1;let n8:=n4.2.2;let n17:=n8.2.1;let n2:=n8.2.2;let n19:=n2.2.2.1;let n18:=n2.2.1;let n6:=n2.2.2.2;let n20:=n6.2.2.1;let bC:=n6.1.2.2;let n3:=n6.2.2.2;let n22:=n3.2.1;let n21:=n3.2.2.1;let n7:=n3.2.2.2;let n25:=n7.2.2;let n24:=n7.2.1;let n1:=(n9,n6.2.1);let y0:=z9 bh.1 bh.1;let y1:=z9 n9 n9;let y2:=z9 n4.1.2.2.1 n4.1.2.2.1;let y3:=z9 n16.2.2.1 n16.2.2.1;let y4:=z9 n8.1.2.2.1 n8.1.2.2.1;let y5:=z9 n17.2.2.1 n17.2.2.1;let y6:=z9 n2.1.2.2.1 n2.1.2.2.1;let y7:=z9 n18.2.2.1 n18.2.2.1;opt (aoA (x.1,aT.2.1,bP.2.1)) λd=>let n23:=d.2.1;let bB:=d.1.1;ae (d.1.2.2!=0) (ret ((0,d.1.2.2),(bP.1,d.2.2,n5.1,n5.2.1,(0,bh.1),bh.2),aT.1,n23,(bh.1,n15),n4.1,n16,n8.1,n17,n2.1,n18,n19,n6.1,n1,n20,n3.1,n22,n21,n7.1,n24,bC,n25)) (ae (!d.1.2.1) (ret ((0,d.1.2.2),(bP.1,d.2.2,n5.1,n5.2.1,(0,bh.1),bh.2),aT.1,n23,(bh.1,n15),n4.1,n16,n8.1,n17,n2.1,n18,n19,n6.1,n1,n20,n3.1,n22,n21,n7.1,n24,bC,n25)) (ae bh.2.2.1 (ae (z9 bC bC) (opt (Ay ((n5.1,bB.1,bB.2.1,(bB.2.2.1,bB.2.2.2.1,bB.2.2.2.2.1),bB.2.2.2.2.2),n6.1,d.2.2,n25)) λak=>sm ak (λaF=>ae y0 (ae y1 (ae y2 (ae y3 (ae y4 (ae y5 (ae y6 (ae y7 (opt (pD ((bP.1,aF.2.2,n5),aT.1,n23,n4.1,n16,n8.1,n17,n2.1,n18,n19,aF.2.1,bB,n15,n6.2.1,n20,n3.1,n22,n21,n7.1,n24,bC,n25)) λd=>ret ((d.1,0),d.2)) no) no) no) no) no) no) no) no) (λaF=>ae y0 (ae y1 (ae y2 (ae y3 (ae y4 (ae y5 (ae y6 (ae y7 (opt (pD ((bP.1,aF.1.2,n5),aT.1,n23,n4.1,n16,n8.1,n17,n2.1,n18,n19,aF.1.1,bB,n15,n6.2.1,n20,n3.1,n22,n21,n7.1,n24,aF.2)) λd=>ret ((d.1,0),d.2)) no) no) no) no) no) no) no) no)) no) (ae y0 (ae y1 (ae y2 (ae y3 (ae y4 (ae y5 (ae y6 (ae y7 (opt (pD ((bP.1,d.2.2,n5),aT.1,n23,n4.1,n16,n8.1,n17,n2.1,n18,n19,n6.1,bB,n15,n6.2.1,n20,n3.1,n22,n21,n7.1,n24,bC,n25)) λd=>ret ((d.1,0),d.2)) no) no) no) no) no) no) no) no)))
def jm:=λx=>(zO jt fR p7 x).val
abbrev zP:=Gm×nx×KR×(LT eo iR)×(LT gY kC)
def Fh (p:zP):KK:=⟨[RO p.1,Aq p.2.1,Zn p.b.1],⟨[⟨8,(rg 1 5 (7::8::rg 10 92 [])),[(5,[]),(14,[]),(15,[]),(16,[]),(17,[]),(18,[]),(19,[]),(20,[]),(21,[]),(0,[])]⟩],[fQ 8 20 eo U2 p.b.2.1],(0::rg 4 6 [19,18,17,16,15,14,13,12,3,11,2,10]),[⟨U4,fQ 6 20 gY U3 p.c⟩],(some ⟨0,(rg 0 4 (rg 6 96 [])),[(3,[]),(4,[]),(5,[]),(6,[]),(7,[]),(8,[]),(9,[]),(10,[]),(11,[]),(12,[]),(13,[]),(14,[]),(15,[]),(16,[]),(17,[]),(18,[]),(19,[]),(20,[]),(21,[]),(0,[])]⟩)⟩,20,27⟩
theorem aoB (p:zP):LI (Fh p) 8 eo U2 (ux p.b.1):=λ_ d c K=>by kernel_rfl
theorem aoC (p:zP):JI (Fh p) 6 gY U3 (uA p.b.2.1):=λ_ d K=>by kernel_rfl
theorem aw1 (p:zP):D2 (Fh p) pS abo λb=>zO p.1 p.2.1 p.c b:=λb=>by kernel_rfl
abbrev Fi:zP:=(jt,fR,ot,AU,p7)
theorem ND [aA]:SC (zN jm):=sc (kS (k:=Fh Fi) (.c anQ (.c Ja (.c aua (.nil _)))) [8] [6] ⟨kL (aoB Fi),trivial⟩ ⟨kJ U4 (aoC Fi),trivial⟩ (aw1 Fi))
end Go.Proofs.YtldgljclcgaibaaGreat
namespace Go.Proofs.YtldgljclcgaibaaGreat
open Go.Ab Go.Ab.Pg
theorem aUu (N l:Nat)(S:Int)(h1:1<=N)(hN:N<=1999)(hl:l<=1999)(w d:eo.B)(W4:w.2.2.2.2.1.2.2.1<=64)(W5:w.2.2.2.2.2.1.2.2.1<=64)(W6:w.2.2.2.2.2.2.1.2.2.1<=64)(W7:w.2.2.2.2.2.2.2.1.2.2.1<=64)(W8:w.2.2.2.2.2.2.2.2.1.2.2.1<=64)(W9:w.2.2.2.2.2.2.2.2.2.1.2.2.1<=64)(WS:w.2.2.2.2.2.2.2.2.2.2.2.1.1<=(N:Int))(hd:d.2.1.2.2.2.2.1.2<=l/\d.2.2.2.1=w.2.2.2.1/\d.2.2.2.2.2.2.2.2.2.2.2.2.2.1=w.2.2.2.2.2.2.2.2.2.2.2.2.2.1/\w.2.1.2.2.2.2.2.2.2.2.2.2.2.2.2.1<=d.2.1.2.2.2.2.2.2.2.2.2.2.2.2.2.1/\Qd d.2.1.2.2.2.2.2.2.2.2.2.2.2.2.2.1 S d.2.1.2.2.2.2.1.2 (λi=>w.2.2.2.2.2.2.2.2.2.2.2.2.2.1.2.1 (d.2.1.2.2.2.2.1.1+i))/\BR d.2.1.2.2.2.2.2.2.2.2.2.2.2.2.2.1 w.2.2.2.2.1 d.2.2.2.2.1/\BR d.2.1.2.2.2.2.2.2.2.2.2.2.2.2.2.1 w.2.2.2.2.2.1 d.2.2.2.2.2.1/\BR d.2.1.2.2.2.2.2.2.2.2.2.2.2.2.2.1 w.2.2.2.2.2.2.1 d.2.2.2.2.2.2.1/\BR d.2.1.2.2.2.2.2.2.2.2.2.2.2.2.2.1 w.2.2.2.2.2.2.2.1 d.2.2.2.2.2.2.2.1/\BR d.2.1.2.2.2.2.2.2.2.2.2.2.2.2.2.1 w.2.2.2.2.2.2.2.2.1 d.2.2.2.2.2.2.2.2.1/\BR d.2.1.2.2.2.2.2.2.2.2.2.2.2.2.2.1 w.2.2.2.2.2.2.2.2.2.1 d.2.2.2.2.2.2.2.2.2.1/\d.2.2.2.2.2.2.2.2.2.2.2.1.1=w.2.2.2.2.2.2.2.2.2.2.2.1.1/\d.2.2.2.2.2.2.2.2.2.2.2.1.2.2<=N):Ok (AU d) (λx:iR=>match x with|.inl x=>x.1.2.1.2<=l/\x.2.2.2.1=w.2.2.2.1/\x.2.2.2.2.2.2.2.2.2.2.2.2.2.1=w.2.2.2.2.2.2.2.2.2.2.2.2.2.1/\w.2.1.2.2.2.2.2.2.2.2.2.2.2.2.2.1<=x.2.1.2.2.2.2.2.2.2.2.2.2.2.2.1/\Qd x.2.1.2.2.2.2.2.2.2.2.2.2.2.2.1 S x.1.2.1.2 (λi=>w.2.2.2.2.2.2.2.2.2.2.2.2.2.1.2.1 (x.1.2.1.1+i))/\BR x.2.1.2.2.2.2.2.2.2.2.2.2.2.2.1 w.2.2.2.2.1 x.2.2.2.2.1/\BR x.2.1.2.2.2.2.2.2.2.2.2.2.2.2.1 w.2.2.2.2.2.1 x.2.2.2.2.2.1/\BR x.2.1.2.2.2.2.2.2.2.2.2.2.2.2.1 w.2.2.2.2.2.2.1 x.2.2.2.2.2.2.1/\BR x.2.1.2.2.2.2.2.2.2.2.2.2.2.2.1 w.2.2.2.2.2.2.2.1 x.2.2.2.2.2.2.2.1/\BR x.2.1.2.2.2.2.2.2.2.2.2.2.2.2.1 w.2.2.2.2.2.2.2.2.1 x.2.2.2.2.2.2.2.2.1/\BR x.2.1.2.2.2.2.2.2.2.2.2.2.2.2.1 w.2.2.2.2.2.2.2.2.2.1 x.2.2.2.2.2.2.2.2.2.1/\x.2.2.2.2.2.2.2.2.2.2.2.1.1=w.2.2.2.2.2.2.2.2.2.2.2.1.1/\x.2.2.2.2.2.2.2.2.2.2.2.1.2.2<=N|.inr x=>x.1.2.1.2<=l/\x.2.2.2.1=w.2.2.2.1/\x.2.2.2.2.2.2.2.2.2.2.2.2.2.1=w.2.2.2.2.2.2.2.2.2.2.2.2.2.1/\w.2.1.2.2.2.2.2.2.2.2.2.2.2.2.2.1<=x.2.1.2.2.2.2.2.2.2.2.2.2.2.2.1/\Qd x.2.1.2.2.2.2.2.2.2.2.2.2.2.2.1 S x.1.2.1.2 (λi=>w.2.2.2.2.2.2.2.2.2.2.2.2.2.1.2.1 (x.1.2.1.1+i))/\BR x.2.1.2.2.2.2.2.2.2.2.2.2.2.2.1 w.2.2.2.2.1 x.2.2.2.2.1/\BR x.2.1.2.2.2.2.2.2.2.2.2.2.2.2.1 w.2.2.2.2.2.1 x.2.2.2.2.2.1/\BR x.2.1.2.2.2.2.2.2.2.2.2.2.2.2.1 w.2.2.2.2.2.2.1 x.2.2.2.2.2.2.1/\BR x.2.1.2.2.2.2.2.2.2.2.2.2.2.2.1 w.2.2.2.2.2.2.2.1 x.2.2.2.2.2.2.2.1/\BR x.2.1.2.2.2.2.2.2.2.2.2.2.2.2.1 w.2.2.2.2.2.2.2.2.1 x.2.2.2.2.2.2.2.2.1/\BR x.2.1.2.2.2.2.2.2.2.2.2.2.2.2.1 w.2.2.2.2.2.2.2.2.2.1 x.2.2.2.2.2.2.2.2.2.1/\x.2.2.2.2.2.2.2.2.2.2.2.1.1=w.2.2.2.2.2.2.2.2.2.2.2.1.1/\x.2.2.2.2.2.2.2.2.2.2.2.1.2.2<=N):=
 qG (s:=_) (λd:eo.B=>d.2.1.2.2.2.2.1.2<=l/\d.2.2.2.1=w.2.2.2.1/\d.2.2.2.2.2.2.2.2.2.2.2.2.2.1=w.2.2.2.2.2.2.2.2.2.2.2.2.2.1/\w.2.1.2.2.2.2.2.2.2.2.2.2.2.2.2.1<=d.2.1.2.2.2.2.2.2.2.2.2.2.2.2.2.1/\Qd d.2.1.2.2.2.2.2.2.2.2.2.2.2.2.2.1 S d.2.1.2.2.2.2.1.2 (λi=>w.2.2.2.2.2.2.2.2.2.2.2.2.2.1.2.1 (d.2.1.2.2.2.2.1.1+i))/\BR d.2.1.2.2.2.2.2.2.2.2.2.2.2.2.2.1 w.2.2.2.2.1 d.2.2.2.2.1/\BR d.2.1.2.2.2.2.2.2.2.2.2.2.2.2.2.1 w.2.2.2.2.2.1 d.2.2.2.2.2.1/\BR d.2.1.2.2.2.2.2.2.2.2.2.2.2.2.2.1 w.2.2.2.2.2.2.1 d.2.2.2.2.2.2.1/\BR d.2.1.2.2.2.2.2.2.2.2.2.2.2.2.2.1 w.2.2.2.2.2.2.2.1 d.2.2.2.2.2.2.2.1/\BR d.2.1.2.2.2.2.2.2.2.2.2.2.2.2.2.1 w.2.2.2.2.2.2.2.2.1 d.2.2.2.2.2.2.2.2.1/\BR d.2.1.2.2.2.2.2.2.2.2.2.2.2.2.2.1 w.2.2.2.2.2.2.2.2.2.1 d.2.2.2.2.2.2.2.2.2.1/\d.2.2.2.2.2.2.2.2.2.2.2.1.1=w.2.2.2.2.2.2.2.2.2.2.2.1.1/\d.2.2.2.2.2.2.2.2.2.2.2.1.2.2<=N) (λd:eo.B=>d.2.1.2.2.2.2.1.2) (λx:iR=>match x with|.inl x=>x.1.2.1.2<=l/\x.2.2.2.1=w.2.2.2.1/\x.2.2.2.2.2.2.2.2.2.2.2.2.2.1=w.2.2.2.2.2.2.2.2.2.2.2.2.2.1/\w.2.1.2.2.2.2.2.2.2.2.2.2.2.2.2.1<=x.2.1.2.2.2.2.2.2.2.2.2.2.2.2.1/\Qd x.2.1.2.2.2.2.2.2.2.2.2.2.2.2.1 S x.1.2.1.2 (λi=>w.2.2.2.2.2.2.2.2.2.2.2.2.2.1.2.1 (x.1.2.1.1+i))/\BR x.2.1.2.2.2.2.2.2.2.2.2.2.2.2.1 w.2.2.2.2.1 x.2.2.2.2.1/\BR x.2.1.2.2.2.2.2.2.2.2.2.2.2.2.1 w.2.2.2.2.2.1 x.2.2.2.2.2.1/\BR x.2.1.2.2.2.2.2.2.2.2.2.2.2.2.1 w.2.2.2.2.2.2.1 x.2.2.2.2.2.2.1/\BR x.2.1.2.2.2.2.2.2.2.2.2.2.2.2.1 w.2.2.2.2.2.2.2.1 x.2.2.2.2.2.2.2.1/\BR x.2.1.2.2.2.2.2.2.2.2.2.2.2.2.1 w.2.2.2.2.2.2.2.2.1 x.2.2.2.2.2.2.2.2.1/\BR x.2.1.2.2.2.2.2.2.2.2.2.2.2.2.1 w.2.2.2.2.2.2.2.2.2.1 x.2.2.2.2.2.2.2.2.2.1/\x.2.2.2.2.2.2.2.2.2.2.2.1.1=w.2.2.2.2.2.2.2.2.2.2.2.1.1/\x.2.2.2.2.2.2.2.2.2.2.2.1.2.2<=N|.inr x=>x.1.2.1.2<=l/\x.2.2.2.1=w.2.2.2.1/\x.2.2.2.2.2.2.2.2.2.2.2.2.2.1=w.2.2.2.2.2.2.2.2.2.2.2.2.2.1/\w.2.1.2.2.2.2.2.2.2.2.2.2.2.2.2.1<=x.2.1.2.2.2.2.2.2.2.2.2.2.2.2.1/\Qd x.2.1.2.2.2.2.2.2.2.2.2.2.2.2.1 S x.1.2.1.2 (λi=>w.2.2.2.2.2.2.2.2.2.2.2.2.2.1.2.1 (x.1.2.1.1+i))/\BR x.2.1.2.2.2.2.2.2.2.2.2.2.2.2.1 w.2.2.2.2.1 x.2.2.2.2.1/\BR x.2.1.2.2.2.2.2.2.2.2.2.2.2.2.1 w.2.2.2.2.2.1 x.2.2.2.2.2.1/\BR x.2.1.2.2.2.2.2.2.2.2.2.2.2.2.1 w.2.2.2.2.2.2.1 x.2.2.2.2.2.2.1/\BR x.2.1.2.2.2.2.2.2.2.2.2.2.2.2.1 w.2.2.2.2.2.2.2.1 x.2.2.2.2.2.2.2.1/\BR x.2.1.2.2.2.2.2.2.2.2.2.2.2.2.1 w.2.2.2.2.2.2.2.2.1 x.2.2.2.2.2.2.2.2.1/\BR x.2.1.2.2.2.2.2.2.2.2.2.2.2.2.1 w.2.2.2.2.2.2.2.2.2.1 x.2.2.2.2.2.2.2.2.2.1/\x.2.2.2.2.2.2.2.2.2.2.2.1.1=w.2.2.2.2.2.2.2.2.2.2.2.1.1/\x.2.2.2.2.2.2.2.2.2.2.2.1.2.2<=N) (λd hd=>by
  obtain⟨i0,ic,ir,it,iq,s4,s5,s6,s7,s8,s9,i11,bh⟩:=hd;unfold ux;dsimp only;rw[aL];refine⟨λh=> ?_,λ_=>by rw[aw];exact⟨i0,ic,ir,it,iq,s4,s5,s6,s7,s8,s9,i11,bh⟩⟩;have h:=db h;rw[dH] at h;have h:1<=d.2.1.2.2.2.2.1.2:=by omega
  have r0:bg 0 d.2.1.2.2.2.2.1.2=true:=by rw[bz];omega
  have r1:HF 1 d.2.1.2.2.2.2.1.2=true:=by rw[adR];omega
  rw[r0,r1,aD,aL];simp only[aQ];refine⟨λ_=> ?_,λ_=>by rw[aw];exact⟨i0,ic,ir,it,iq,s4,s5,s6,s7,s8,s9,i11,bh⟩⟩;simp only[aD];with_reducible refine ax (aYR N h1 hN _ ?_ ?_ ?_ ?_ ?_ ?_ ?_ ?_ ?_) λe _ he=> ?_
  .show d.2.2.2.2.2.2.2.2.2.2.2.1.1<=(N:Int);rw[i11];exact WS
  .exact bh
  .show d.2.1.2.2.2.2.1.2-1<=1999;omega
  .exact cQ s4.len W4
  .exact cQ s5.len W5
  .exact cQ s6.len W6
  .exact cQ s7.len W7
  .exact cQ s8.len W8
  .exact cQ s9.len W9
  obtain⟨a4,a5,a6,a7,a8,a9,a11,Av,e4,et⟩:=he;have e4:e.1.1.2.2.2.2.1=d.2.1.2.2.2.2.1.2-1:=e4;have et:e.1.1.2.2.2.2.2.2.2.2.2.2.2.2.2.1=d.2.2.2.2.2.2.2.2.2.2.2.2.2.1.2.1 (d.2.1.2.2.2.2.1.1+0):=et;have iq':=iq.pop (q:=λi=>w.2.2.2.2.2.2.2.2.2.2.2.2.2.1.2.1 (d.2.1.2.2.2.2.1.1+1+i)) h (λi=>by show w.2.2.2.2.2.2.2.2.2.2.2.2.2.1.2.1 (d.2.1.2.2.2.2.1.1+1+i)=w.2.2.2.2.2.2.2.2.2.2.2.2.2.1.2.1 (d.2.1.2.2.2.2.1.1+(i+1));rw[show d.2.1.2.2.2.2.1.1+1+i=d.2.1.2.2.2.2.1.1+(i+1) by omega]);have et':e.1.1.2.2.2.2.2.2.2.2.2.2.2.2.2.1=w.2.2.2.2.2.2.2.2.2.2.2.2.2.1.2.1 (d.2.1.2.2.2.2.1.1+0):=by rw[et,ir]
  have ll:d.2.1.2.2.2.2.2.2.2.2.2.2.2.2.2.1<=e.1.1.2.2.2.2.2.2.2.2.2.2.2.2.2.1:=by rw[et'];exact iq'.1
  have le:=Int.le_of_eq et.symm;rw[aw];exact⟨⟨by show e.1.1.2.2.2.2.1<=l;omega,ic,ir,SU it ll,(by show Qd e.1.1.2.2.2.2.2.2.2.2.2.2.2.2.2.1 S e.1.1.2.2.2.2.1 _;rw[et',e4];exact iq'.2),(s4.mono ll).trans (a4.mono le),(s5.mono ll).trans (a5.mono le),(s6.mono ll).trans (a6.mono le),(s7.mono ll).trans (a7.mono le),(s8.mono ll).trans (a8.mono le),(s9.mono ll).trans (a9.mono le),a11.trans i11,Av⟩,by show e.1.1.2.2.2.2.1<d.2.1.2.2.2.2.1.2;omega⟩) 2000 d hd (by omega)
theorem aMc (N:Nat)(h1:1<=N)(hN:N<=1999)(d:gY.B)(hq:d.1.c.1<=1998)(l3:d.b.2.1.b.1<=64)(l4:d.c.1.b.1<=64)(l5:d.c.2.1.b.1<=64)(l6:d.c.b.1.b.1<=64)(l7:d.c.b.2.1.b.1<=64)(l8:d.d.1.b.1<=64)(hs:d.d.b.1.1<=(N:Int))(hl:d.d.b.1.2.2<=N)(S:Int)(hS:S<=d.d.b.2.1.1)(hQ:Qd d.1.d.c.2.1 S d.1.c.1 d.d.c.1.1):Ok (p7 d) (λx:kC=>x.2.1.c.1.2<=d.1.c.1+1/\x.b.2.1=d.b.1/\d.1.d.c.2.1<=x.2.1.d.c.2.1/\Qd x.2.1.d.c.2.1 d.d.b.2.1.1 x.2.1.c.1.2 (λi=>x.c.1.2.1 (x.2.1.c.1.1+i))/\BR x.2.1.d.c.2.1 d.b.2.1 x.c.2.1/\BR x.2.1.d.c.2.1 d.c.1 x.c.b.1/\BR x.2.1.d.c.2.1 d.c.2.1 x.c.b.2.1/\BR x.2.1.d.c.2.1 d.c.b.1 x.d.1/\BR x.2.1.d.c.2.1 d.c.b.2.1 x.d.2.1/\BR x.2.1.d.c.2.1 d.d.1 x.d.b.1/\x.d.c.1.1=d.d.b.1.1/\x.d.c.1.2.2<=N):=by
 unfold p7 uA;try dsimp only
 show PQ _ _;simp only[aQ];have b:wl ((d.1.c.1+1)*64) 140737488355328=true:=by rw[ch];omega
 rw[b];simp only[aD]
 have hQ':Qd d.1.d.c.2.1 d.d.b.2.1.1 (d.1.c.1+1) (λi=>bif z9 (0+i) d.1.c.1 then d.d.b.2.1.1 else d.d.c.1.1 (0+(0+i))):=hQ.push hS (λi hi=>by
  have b:z9 (0+i) d.1.c.1=false:=by
   cases hb:z9 (0+i) d.1.c.1
   .rfl
   .have:=lB hb;omega
  show(bif z9 (0+i) d.1.c.1 then d.d.b.2.1.1 else d.d.c.1.1 (0+(0+i)))=_;rw[b];simp only[bq,gD]) (by simp only[gD,aQ,bo])
 refine ax (aUu N (d.1.c.1+1) d.d.b.2.1.1 h1 hN (by omega) _ _ l3 l4 l5 l6 l7 l8 hs ⟨cR _,rfl,rfl,dW _,hQ',BR.refl _ _,BR.refl _ _,BR.refl _ _,BR.refl _ _,BR.refl _ _,BR.refl _ _,rfl,hl⟩) λy _ hy=> ?_;rw[tw];refine⟨λa ha=> ?_,λa ha=> ?_⟩
 .rw[ha] at hy;rw[aw];obtain⟨y0,y3,yr,yt,yq,ys⟩:=hy;exact⟨y0,y3,yt,(by rw[<-yr] at yq;exact yq),ys⟩
 .rw[ha] at hy;rw[aw];obtain⟨y0,y3,yr,yt,yq,ys⟩:=hy;exact⟨y0,y3,yt,(by rw[<-yr] at yq;exact yq),ys⟩
theorem aS0 (N:Nat)(h1:1<=N)(hN:N<=1999)(x:pS.B)(hq:x.2.1.c.1<=1998)(l5:x.c.2.1.b.1<=64)(l6:x.c.b.1.b.1<=64)(l7:x.c.b.2.1.b.1<=64)(l8:x.d.1.b.1<=64)(l9:x.d.2.1.b.1<=64)(l10:x.d.b.1.b.1<=64)(hs:x.d.c.1.1<=(N:Int))(hl:x.d.c.1.2.2<=N)(h3:x.b.2.1.2.2=false->x.b.2.1.2.1.1<=0)(hQ:Qd x.2.1.d.c.2.1 x.b.2.1.2.1.1 x.2.1.c.1 x.c.1.1):Ok (jm x) (λe:tO=>e.2.1.c.1.2<=x.2.1.c.1+1/\(e.b.2.1.2.2=false->e.b.2.1.2.1.1<=0)/\x.2.1.d.c.2.1<=e.2.1.d.c.2.1/\Qd e.2.1.d.c.2.1 e.b.2.1.2.1.1 e.2.1.c.1.2 (λi=>e.c.1.2.1 (e.2.1.c.1.1+i))/\BR e.2.1.d.c.2.1 x.c.2.1 e.c.2.1/\BR e.2.1.d.c.2.1 x.c.b.1 e.c.b.1/\BR e.2.1.d.c.2.1 x.c.b.2.1 e.c.b.2.1/\BR e.2.1.d.c.2.1 x.d.1 e.d.1/\BR e.2.1.d.c.2.1 x.d.2.1 e.d.2.1/\BR e.2.1.d.c.2.1 x.d.b.1 e.d.b.1/\e.d.c.1.1=x.d.c.1.1/\e.d.c.1.2.2<=N):=by
 unfold jm zO;try dsimp only
 show PQ _ _;simp only[aQ];refine ax (aY5 _ h3) λd _ hd=> ?_;obtain⟨d1,d2,d3⟩:=hd;have d2:x.b.2.1.2.1.1<=d.2.1.2.1.1:=d2;rw[aL];refine⟨λ_=>by rw[aw];exact⟨Nat.le_succ _,d1,dW _,hQ.up d2 (λi=>by rw[gD]),BR.refl _ _,BR.refl _ _,BR.refl _ _,BR.refl _ _,BR.refl _ _,BR.refl _ _,rfl,hl⟩,λ_=> ?_⟩;rw[aL];refine⟨λ_=>by rw[aw];exact⟨Nat.le_succ _,d1,dW _,hQ.up d2 (λi=>by rw[gD]),BR.refl _ _,BR.refl _ _,BR.refl _ _,BR.refl _ _,BR.refl _ _,BR.refl _ _,rfl,hl⟩,λc=> ?_⟩;have c:d.1.2.1=true:=by simpa using c
 have d3:=d3 c;have d4:x.b.2.1.2.1.1<=d.1.1.1:=by omega
 rw[aL];refine⟨λ_=> ?_,λ_=> ?_⟩
 .simp only[aD];with_reducible refine ax (aOF N hN _ ?_ ?_) λe _ he=> ?_
  .exact hl
  .exact hs
  rw[tX];refine⟨λa ha=> ?_,λa ha=> ?_⟩
  .rw[ha] at he;have he:a.2.1=x.d.c.1:=he;simp only[aD];with_reducible refine ax (aMc N h1 hN _ ?_ ?_ ?_ ?_ ?_ ?_ ?_ ?_ ?_ x.b.2.1.2.1.1 d4 hQ) λy _ hy=> ?_
   .exact hq
   .exact l5
   .exact l6
   .exact l7
   .exact l8
   .exact l9
   .exact l10
   .show a.2.1.1<=(N:Int);rw[he];exact hs
   .show a.2.1.2.2<=N;rw[he];exact hl
   rw[aw];have e0:(a.2.1.1:Int)=x.d.c.1.1:=by rw[he]
   obtain⟨q,qs,qt,qq,s5,s6,s7,s8,s9,ZP,p1,p2⟩:=hy;exact⟨q,(by rw[show y.b.2.1=d.2.1 from qs];exact d1),qt,(by rw[show y.b.2.1=d.2.1 from qs,<-d3];exact qq),s5,s6,s7,s8,s9,ZP,p1.trans e0,p2⟩
  .rw[ha] at he;obtain⟨e1,e2,e3,e4⟩:=he;have e1:a.1.1.1=x.d.c.1.1:=e1;simp only[aD];with_reducible refine ax (aMc N h1 hN _ ?_ ?_ ?_ ?_ ?_ ?_ ?_ ?_ ?_ x.b.2.1.2.1.1 d4 hQ) λy _ hy=> ?_
   .exact hq
   .exact l5
   .exact l6
   .exact l7
   .exact l8
   .exact l9
   .exact l10
   .show a.1.1.1<=(N:Int);rw[e1];exact hs
   .exact e2
   rw[aw];obtain⟨q,qs,qt,qq,s5,s6,s7,s8,s9,ZP,p1,p2⟩:=hy;exact⟨q,(by rw[show y.b.2.1=d.2.1 from qs];exact d1),qt,(by rw[show y.b.2.1=d.2.1 from qs,<-d3];exact qq),s5,s6,s7,s8,s9,ZP,p1.trans e1,p2⟩
 .simp only[aD];with_reducible refine ax (aMc N h1 hN _ ?_ ?_ ?_ ?_ ?_ ?_ ?_ ?_ ?_ x.b.2.1.2.1.1 d4 hQ) λy _ hy=> ?_
  .exact hq
  .exact l5
  .exact l6
  .exact l7
  .exact l8
  .exact l9
  .exact l10
  .exact hs
  .exact hl
  rw[aw];obtain⟨q,qs,qt,qq,qr⟩:=hy;exact⟨q,(by rw[show y.b.2.1=d.2.1 from qs];exact d1),qt,(by rw[show y.b.2.1=d.2.1 from qs,<-d3];exact qq),qr⟩
theorem aUv (d:eo.B)(hd:GF d.2.1.b.1 d.2.1.b.2.1 d.2.1.c.2.1 d.2.1.d.c.b.2.1):Po (AU d) (λx:iR=>match x with|.inl x=>GF x.2.1.b.1 x.2.1.b.2.1 x.2.1.c.1 x.2.1.d.c.b.1|.inr x=>GF x.2.1.b.1 x.2.1.b.2.1 x.2.1.c.1 x.2.1.d.c.b.1):=
 Ri (s:=_) (λd:eo.B=>GF d.2.1.b.1 d.2.1.b.2.1 d.2.1.c.2.1 d.2.1.d.c.b.2.1) (λx:iR=>match x with|.inl x=>GF x.2.1.b.1 x.2.1.b.2.1 x.2.1.c.1 x.2.1.d.c.b.1|.inr x=>GF x.2.1.b.1 x.2.1.b.2.1 x.2.1.c.1 x.2.1.d.c.b.1) (λd hd=>by
  unfold ux;try dsimp only
  try dsimp only
  repeat' (first
   |(rw[du];exact trivial)
   |(with_reducible refine aK (a0B _ ?_) λe _ he=> ?_)
   |(rw[qw];refine⟨λe0 e1=> ?_,λe0 e1=> ?_⟩)
   |(rw[lx];refine⟨λe0 e1=> ?_,λe0 e1=> ?_⟩)
   |(rw[bD];refine⟨λ_=> ?_,λ_=> ?_⟩)
   |(rw[bQ];intro _ _))
  all_goals first
   |exact hd
   |(rw[ba];first|exact he|exact hd)) 2000 d hd
theorem aUw (d:gY.B)(h:GF d.1.b.1 d.1.b.2.1 d.1.c.2.1 d.1.d.c.b.2.1):Po (p7 d) (λx:kC=>GF x.2.1.b.1 x.2.1.b.2.1 x.2.1.c.2.1 x.2.1.d.c.b.2.1):=by
 unfold p7 uA;try dsimp only
 show PW _ _;try dsimp only
 repeat' (first
   |(rw[du];exact trivial)
   |(with_reducible refine aK (aUv _ ?_) λe _ he=> ?_)
   |(rw[qw];refine⟨λe0 e1=> ?_,λe0 e1=> ?_⟩)
   |(rw[lx];refine⟨λe0 e1=> ?_,λe0 e1=> ?_⟩)
   |(rw[bD];refine⟨λ_=> ?_,λ_=> ?_⟩)
   |(rw[bQ];intro _ _))
 all_goals first
   |exact h
   |(rw[ba];subst e1;exact he)
theorem aY6 (x:pS.B)(h:GF x.2.1.b.1 x.2.1.b.2.1 x.2.1.c.2.1 x.2.1.d.c.b.2.1):Po (jm x) (λe:tO=>GF e.2.1.b.1 e.2.1.b.2.1 e.2.1.c.2.1 e.2.1.d.c.b.2.1):=by
 unfold jm zO;try dsimp only
 show PW _ _;try dsimp only
 repeat' (first
   |(rw[du];exact trivial)
   |(with_reducible refine aK (aUw _ ?_) λe _ he=> ?_)
   |(rw[qw];refine⟨λe0 e1=> ?_,λe0 e1=> ?_⟩)
   |(rw[lx];refine⟨λe0 e1=> ?_,λe0 e1=> ?_⟩)
   |(rw[bD];refine⟨λ_=> ?_,λ_=> ?_⟩)
   |(rw[bQ];intro _ _))
 all_goals first
   |exact h
   |(rw[ba];first|exact h|exact he)
theorem aRz:∀(d:rR.B) (hd:0<=d.1.2/\d.1.2<=24/\(∀j,j<276->Ur (d.c.1 j))/\(∀j:Nat,(j:Int)<d.1.2->Dr (d.c.2 j))),Po (Vn d) (λx:G3=>xJ x.b.2.2):=
 qH (λd hd=>by
  unfold Vm;try dsimp only
  try dsimp only
  obtain⟨i0,i1,i2,i3⟩:=hd;rw[bD];refine⟨λh=> ?_,λh=> ?_⟩
  .have h:=db h;have hw:wI (d.1.2+1)=d.1.2+1:=aZ
   have key:∀(x:Int) (n:Nat->Int),Dr x->(∀j,n j=bif z9 j (z4 d.1.2) then x else d.c.2 j)->(∀j:Nat,(j:Int)<d.1.2+1->Dr (n j)):=λx n hx hn j hj=>by
    rw[hn];cases hb:z9 j (z4 d.1.2) with
    |true=>exact hx
    |false=>
     have nb:j≠z4 d.1.2:=λh=>by rw[h,FE] at hb;cases hb
     exact i3 j (by omega)
   rw[hw]
   repeat' (first
    |(rw[du];exact trivial)
    |(with_reducible refine aK (aBQ _ _) λe _ he=> ?_)
    |(rw[bD];refine⟨λ_=> ?_,λ_=> ?_⟩))
   .rw[ba]
    exact⟨by show 0<=d.1.2+1;omega,by show d.1.2+1<=24;omega,i2,key e.1 _ he λj=>by
     show(bif z9 j (z4 d.1.2) then e.1 else bif z9 j (z4 d.1.2) then 1 else d.c.2 j)=_;cases z9 j (z4 d.1.2)<;>rfl⟩
   .rw[ba];exact⟨by show 0<=d.1.2+1;omega,by show d.1.2+1<=24;omega,i2,key 1 _ (by decide) λj=>rfl⟩
  .have h:=kD h;rw[ba];exact⟨i2,λj hj=>i3 j (by omega)⟩)
theorem aUx (x0:Nat)(x1:Bool)(x2:Nat->Int)(w0:Bool):Po (Kk x0 x1 x2 w0) (λr=>xJ r.1):=by
 unfold Kk ag2;show PW _ _;rw[aFi];intro _;refine aK (aRz _ ⟨(show(0:Int)<=0 by decide),(show(0:Int)<=24 by decide),λj _=>(show Ur 0 by decide),λj hj=>absurd (show(j:Int)<0 from hj) (by omega)⟩) λe _ he=> ?_;rw[ba];exact he
theorem a2m (x:KQ.B):Po (Az x) (λr:P'=>match r with|.inl _=>True|.inr e=>NW e.1.e.d.b.2.1/\xJ e.1.e.d.b.2.2):=by
 unfold Az Zl;try dsimp only
 show PW _ _;try dsimp only
 repeat' (first
   |(rw[du];exact trivial)
   |(with_reducible refine aK (QZ _ _) λs _ hs=> ?_)
   |(with_reducible refine aK (aUx _ _ _ _) λv _ hv=> ?_)
   |(rw[qw];refine⟨λe0 e1=> ?_,λe0 e1=> ?_⟩)
   |(rw[lx];refine⟨λe0 e1=> ?_,λe0 e1=> ?_⟩)
   |(rw[bD];refine⟨λ_=> ?_,λ_=> ?_⟩)
   |(rw[bQ];intro _ _))
 all_goals (rw[ba];first|exact trivial|exact⟨hs,hv⟩)
theorem aUy (x:jX.B):Po (eX x) (λe:mx=>e.2.1=x.2.1/\e.d.c.1=x.d.c.1/\e.e.b.2.2=x.e.b.2.2):=by
 unfold eX vv;try dsimp only
 show PW _ _;try dsimp only
 repeat' (first
   |(rw[du];exact trivial)
   |(rw[qw];refine⟨λe0 e1=> ?_,λe0 e1=> ?_⟩)
   |(rw[lx];refine⟨λe0 e1=> ?_,λe0 e1=> ?_⟩)
   |(rw[bD];refine⟨λ_=> ?_,λ_=> ?_⟩)
   |(rw[bQ];intro _ _))
 all_goals (rw[ba];exact⟨rfl,rfl,rfl⟩)
open Go.Ab Go.Ab.Pg Go.Ab.Rq
def aj8:=qa (pr (cu aS Fw) bJ)
def Qe:=qe qu
abbrev aj9:=Qe.B
abbrev aka:=Int->Int->Int->Bool->Option aj9
def akb (g:aka):Ct:=(208,FC aj8 (lf Qe) (λb=>g b.1.1 b.1.2.1 b.1.b b.2))
def akc (x0:Int)(x1:Int)(x2:Int)(x3:Bool):Pg aj9:=let y0:=decide (x1>x2);ae (decide (x0<x1)) (ae (x1 !=x0) (ret (x1,true)) (ae y0 (ret (x1,true)) (ret (x1,x3)))) (ae y0 (ae (x1 !=x0) (ret (x1,true)) (ae y0 (ret (x1,true)) (ret (x1,x3)))) (ae (decide (x0>x2)) (ae (x2 !=x0) (ret (x2,true)) (ae y0 (ret (x2,true)) (ret (x2,x3)))) (ae (x0 !=x0) (ret (x0,true)) (ae y0 (ret (x0,true)) (ret (x0,x3))))))
def Us:=λx0 x1 x2 x3=>(akc x0 x1 x2 x3).val
theorem aC9:D1 [] [0] 208 aj8 (lf Qe) λb=>akc b.1.1 b.1.2.1 b.1.b b.2:=λb=>by kernel_rfl
theorem aDa [aA]:SC (akb Us):=s0 (.nil _) aC9
def arV:=qa (pr (cu aS iA) bJ)
def Zo:=qe qu
abbrev arW:=Zo.B
abbrev adt:=Int->Bool->Option arW
def adu (g:adt):Ct:=(150,FC arV (lf Zo) (λb=>g b.1 b.2))
def arX (JY:aka)(x0:Int)(x1:Bool):Pg arW:=opt (JY x0 (-1152921504606846976) 1152921504606846976 x1) λd=>ret d
def Jf:=λx0 x1=>(arX Us x0 x1).val
theorem aHX:∀JY,D0 [akb JY] 150 arV (lf Zo) λb=>arX JY b.1 b.2:=λ_ b=>by kernel_rfl
theorem arY [aA]:SC (adu Jf):=s0 (.c aDa (.nil _)) (aHX Us)
def aGG:=qa (pl iA nil)
def aoD:=qe aVy
abbrev aGH:=aoD.B
abbrev aud:=Int->Option aGH
def aue (g:aud):Ct:=(152,FC aGG (lf aoD) (λb=>g b))
def aGI (x0:Int):Pg aGH:=ae (decide (x0<0)) (ret (wU (wI (0-x0)))) (ret (wU x0))
def Zp:=λx0=>(aGI x0).val
theorem aRA:D0 [] 152 aGG (lf aoD) λb=>aGI b:=λb=>by kernel_rfl
theorem aGJ [aA]:SC (aue Zp):=s0 (.nil _) aRA
def arZ:=qa (pl (c an aIl) nil)
def Zq:=qe aPJ
abbrev ar0:=Zq.B
abbrev ar1:=Int->Int->Option ar0
def ar2 (g:ar1):Ct:=(207,FC arZ (lf Zq) (λb=>g b.1 b.2))
def ar3 (x0:Int)(x1:Int):Pg ar0:=let y0:=v4 x0 4294967296;let y1:=v4 x1 4294967296;let y2:=wU (wr (v6 (wd 64 x0&&&wd 64 4294967295)));let y3:=wU (wr (v6 (wd 64 x1&&&wd 64 4294967295)));let y4:=wU (y2*y3);let y5:=wU (wU (y0*y3)+v4 y4 4294967296);let y6:=wU (wU (y2*y1)+wU (wr (v6 (wd 64 y5&&&wd 64 4294967295))));ret (wU (wU (wU (y0*y1)+v4 y5 4294967296)+v4 y6 4294967296),wU (wr (v6 (wd 64 (wU (y6*4294967296))|||wd 64 (wU (wr (v6 (wd 64 y4&&&wd 64 4294967295))))))))
def adv:=λx0 x1=>(ar3 x0 x1).val
theorem aHY:D0 [] 207 arZ (lf Zq) λb=>ar3 b.1 b.2:=λb=>by kernel_rfl
theorem aHZ [aA]:SC (ar2 adv):=s0 (.nil _) aHY
def aJv:=qa (pl A4 nil)
def auf:=qe aJ8
abbrev aJw:=auf.B
abbrev azd:=Int->Int->Option aJw
def aze (g:azd):Ct:=(149,FC aJv (lf auf) (λb=>g b.1 b.2))
def aJx (AA:aud)(Q3:ar1)(x0:Int)(x1:Int):Pg aJw:=opt (AA x0) λd=>opt (AA x1) λak=>opt (Q3 d ak) λd=>ret (d.1,d.2,!decide (x0<0)==decide (x1<0))
def afm:=λx0 x1=>(aJx Zp adv x0 x1).val
theorem aUz:∀AA Q3,D0 [aue AA,ar2 Q3] 149 aJv (lf auf) λb=>aJx AA Q3 b.1 b.2:=λ_ _ b=>by kernel_rfl
theorem aJy [aA]:SC (aze afm):=s0 (.c aGJ (.c aHZ (.nil _))) (aUz Zp adv)
def aGK:=qa (pl (c akM (cl akM nil)) nil)
def aoE:=qe Fv
abbrev aGL:=aoE.B
abbrev aGM:=Int->Int->Bool->Int->Int->Bool->Option aGL
def aGN (g:aGM):Ct:=(246,FC aGK (lf aoE) (λb=>g b.1.1 b.1.2.1 b.1.b b.2.1 b.b.1 b.b.2))
def aGO (x0:Int)(x1:Int)(x2:Bool)(x3:Int)(x4:Int)(x5:Bool):Pg aGL:=ae (decide (x0<x3)) (ret true) (ae (x0==x3) (ret (decide (x1<x4))) (ret false))
def aug:=λx0 x1 x2 x3 x4 x5=>(aGO x0 x1 x2 x3 x4 x5).val
theorem aRB:D0 [] 246 aGK (lf aoE) λb=>aGO b.1.1 b.1.2.1 b.1.b b.2.1 b.b.1 b.b.2:=λb=>by kernel_rfl
theorem aRC [aA]:SC (aGN aug):=s0 (.nil _) aRB
def aJz:=qa (pl (c akM (cl akM nil)) nil)
def auh:=qe aJ8
abbrev aJA:=auh.B
abbrev apd:=Int->Int->Bool->Int->Int->Bool->Option aJA
def azf (g:apd):Ct:=(206,FC aJz (lf auh) (λb=>g b.1.1 b.1.2.1 b.1.b b.2.1 b.b.1 b.b.2))
def aJB (aie:aGM)(x0:Int)(x1:Int)(x2:Bool)(x3:Int)(x4:Int)(x5:Bool):Pg aJA:=let y0:=wU (x0-x3);let y1:=wU (x3-x0);let y2:=wU (x0+x3);let y3:=wU (x1+x4);ae (x2==x5) (ae (decide (y3<x1)) (ret (wU (y2+1),y3,x2)) (ret (y2,y3,x2))) (opt (aie x0 x1 x2 x3 x4 x5) λd=>ae d (ae (decide (x4<x1)) (ret (wU (y1-1),wU (x4-x1),x5)) (ret (y1,wU (x4-x1),x5))) (ae (decide (x1<x4)) (ret (wU (y0-1),wU (x1-x4),x2)) (ret (y0,wU (x1-x4),x2))))
def afo:=λx0 x1 x2 x3 x4 x5=>(aJB aug x0 x1 x2 x3 x4 x5).val
theorem aUA:∀aie,D0 [aGN aie] 206 aJz (lf auh) λb=>aJB aie b.1.1 b.1.2.1 b.1.b b.2.1 b.b.1 b.b.2:=λ_ b=>by kernel_rfl
theorem aJC [aA]:SC (azf afo):=s0 (.c aRC (.nil _)) (aUA aug)
def ar4:=qa (pl (c akM aIl) nil)
def Zr:=qe aJ8
abbrev ar5:=Zr.B
abbrev ar6:=Int->Int->Bool->Int->Option ar5
def ar7 (g:ar6):Ct:=(151,FC ar4 (lf Zr) (λb=>g b.1.1 b.1.2.1 b.1.b b.2))
def wb:=qs (st (pr (us 1 (c an (cu KY (us 1 (cu aMB (cu ZQ (c an (cl ai (us 63 nil))))))))) (pl (c (so aDJ) (cu (so (cu aDH (cu aDH (cu J2 nil)))) (cl (so aDJ) nil))) nil)))
def aDb:=qs (st (pr (us 1 (c an (cu KY (us 1 (cu aMB (cu ZQ (c an (c ai (us 4 (c ai (cl ab (us 57 nil)))))))))))) (pl (c (so aDJ) (cu (so (cu aDH (cu aDH (cu J2 nil)))) (cl (so aDJ) nil))) nil)))
abbrev JZ:=(aIf×akH×Int×Int×Bool)
def akd {ρ:Type}(x:JZ)(K:AX->St->Option ρ):Option ρ:=(λd=>K (.ex 0) (aDb.em ((d.1.1,d.1.2.1,d.1.b.1,d.1.b),d.2))) x
def ake (d:wb.B):PL wb JZ:=let n4:=d.2.1;let n3:=d.1.2;let n2:=d.2.2;let n1:=d.1.1;let y0:=wI (n3.2-1);let y1:=decide (n3.2>=0);let y2:=decide (n3.2>=64);let y3:=wU (wI (wr (v6 (wd 64 n3.2&&&wd 64 63))));let y4:=2^min (z4 y3) 64;let y5:= !decide (y3<0);let y6:=wU (wr (v6 (wd 64 (wU (n3.1*2))|||wd 64 (wU (wr (v6 (wd 64 (v4 n4.1 y4)&&&wd 64 1)))))));let y7:=wU (wr (v6 (wd 64 (wU (n3.1*2))|||wd 64 (wU (wr (v6 (wd 64 (v4 n4.2.1 y4)&&&wd 64 1)))))));ae y1 (ae y5 (ae y2 (ae y5 (ae (decide (y6>=n1)) (ae y2 (ae y5 (ret (ww ((n1,wU (y6-n1),y0),n4,wU (wr (v6 (wd 64 n2.1|||wd 64 (wU (1*y4))))),n2.2))) no) (ae y5 (ret (ww ((n1,wU (y6-n1),y0),n4,n2.1,wU (wr (v6 (wd 64 n2.2.1|||wd 64 (wU (1*y4))))),n2.2.2))) no)) (ret (ww ((n1,y6,y0),d.2)))) no) (ae (decide (y7>=n1)) (ae y2 (ae y5 (ret (ww ((n1,wU (y7-n1),y0),n4,wU (wr (v6 (wd 64 n2.1|||wd 64 (wU (1*y4))))),n2.2))) no) (ae y5 (ret (ww ((n1,wU (y7-n1),y0),n4,n2.1,wU (wr (v6 (wd 64 n2.2.1|||wd 64 (wU (1*y4))))),n2.2.2))) no)) (ret (ww ((n1,y7,y0),d.2))))) no) (ret (ws ((n1,n3.1,n3.2,y1),d.2)))
def akf:=bI (ake) 2000
def ar8 (Qf:apd)(dR:LT wb JZ)(x0:Int)(x1:Int)(x2:Bool)(x3:Int):Pg ar5:=opt (dR ((x3,0,127),(x0,x1,x2),0,0,x2)) λd=>ae (decide (d.1.2.1>=wU (d.1.1-d.1.2.1))) (opt (Qf d.2.2.1 d.2.2.2.1 d.2.2.2.2 0 1 d.2.2.2.2) λd=>ret d) (ret d.2.2)
def adw:=λx0 x1 x2 x3=>(ar8 afo akf x0 x1 x2 x3).val
abbrev Q4:=apd×(LT wb JZ)
def adx (p:Q4):KK:=⟨[azf p.1],⟨[⟨4,(0::3::rg 8 63 []),[]⟩],[fQ 4 0 wb akd p.2],[],[],(some ⟨0,(rg 0 4 (rg 5 66 [])),[]⟩)⟩,0,151⟩
theorem azg (p:Q4):LI (adx p) 4 wb akd (ake):=λ_ d c K=>by kernel_rfl
theorem aH0 (p:Q4):D2 (adx p) ar4 (lf Zr) λb=>ar8 p.1 p.2 b.1.1 b.1.2.1 b.1.b b.2:=λb=>by kernel_rfl
abbrev ady:Q4:=(afo,akf)
theorem aH1 [aA]:SC (ar7 adw):=sc (kS (k:=adx ady) (.c aJC (.nil _)) [4] [] ⟨kL (azg ady),trivial⟩ trivial (aH0 ady))
def ar9:=qa (pr (cu aS (cl akM nil)) bJ)
def Zs:=qe qu
abbrev asa:=Zs.B
abbrev adz:=Int->Int->Bool->Bool->Option asa
def adA (g:adz):Ct:=(147,FC ar9 (lf Zs) (λb=>g b.1.1 b.1.2.1 b.1.b b.2))
def asb (x0:Int)(x1:Int)(x2:Bool)(x3:Bool):Pg asa:=ae (decide (x0>0)) (ae x2 (ret (-1152921504606846976,true)) (ret (1152921504606846976,true))) (ae (decide (x1>1152921504606846976)) (ae x2 (ret (-1152921504606846976,true)) (ret (1152921504606846976,true))) (ae x2 (ret (wI (0-wI x1),x3)) (ret (wI x1,x3))))
def Jg:=λx0 x1 x2 x3=>(asb x0 x1 x2 x3).val
theorem aH2:D1 [] [0] 147 ar9 (lf Zs) λb=>asb b.1.1 b.1.2.1 b.1.b b.2:=λb=>by kernel_rfl
theorem asc [aA]:SC (adA Jg):=s0 (.nil _) aH2
def afp:=qa (pr (cu aS Fw) bJ)
def NF:=qe qu
abbrev afq:=NF.B
abbrev afr:=Int->Int->Int->Bool->Option afq
def afs (g:afr):Ct:=(100,FC afp (lf NF) (λb=>g b.1.1 b.1.2.1 b.1.b b.2))
def aft (lX:adt)(Hw:azd)(AA:aud)(Q5:ar6)(se:adz)(x0:Int)(x1:Int)(x2:Int)(x3:Bool):Pg afq:=opt (lX x0 x3) λd=>opt (lX x1 d.2) λak=>opt (Hw d.1 ak.1) λd=>opt (lX x2 ak.2) λaF=>ae (aF.1==0) (ae (d.1==0) (ae (d.2.1==0) (ret (0,true)) (ae d.2.2 (ret (-1152921504606846976,true)) (ret (1152921504606846976,true)))) (ae d.2.2 (ret (-1152921504606846976,true)) (ret (1152921504606846976,true)))) (opt (AA aF.1) λbA=>opt (Q5 d.1 d.2.1 (!d.2.2==decide (aF.1<0)) bA) λd=>opt (se d.1 d.2.1 d.2.2 aF.2) λd=>ret d)
def Qg:=λx0 x1 x2 x3=>(aft Jf afm Zp adw Jg x0 x1 x2 x3).val
theorem azh:∀lX Hw AA Q5 se,D0 [adu lX,aze Hw,aue AA,ar7 Q5,adA se] 100 afp (lf NF) λb=>aft lX Hw AA Q5 se b.1.1 b.1.2.1 b.1.b b.2:=λ_ _ _ _ _ b=>by kernel_rfl
theorem azi [aA]:SC (afs Qg):=s0 (.c arY (.c aJy (.c aGJ (.c aH1 (.c asc (.nil _)))))) (azh Jf afm Zp adw Jg)
def aoF:=qa (pr (cu aS iA) bJ)
def Ut:=qe qu
abbrev aoG:=Ut.B
abbrev aoH:=Int->Bool->Option aoG
def aoI (g:aoH):Ct:=(61,FC aoF (lf Ut) (λb=>g b.1 b.2))
def aoJ (Hy:afr)(x0:Int)(x1:Bool):Pg aoG:=opt (Hy x0 1073741824 1000000 x1) λd=>ret d
def Zt:=λx0 x1=>(aoJ Qg x0 x1).val
theorem aGP:∀Hy,D0 [afs Hy] 61 aoF (lf Ut) λb=>aoJ Hy b.1 b.2:=λ_ b=>by kernel_rfl
theorem aGQ [aA]:SC (aoI Zt):=s0 (.c azi (.nil _)) (aGP Qg)
def asd:=qa (pl (c akM iA) nil)
def Zu:=qe aJ8
abbrev ase:=Zu.B
abbrev asf:=Int->Int->Bool->Int->Option ase
def asg (g:asf):Ct:=(148,FC asd (lf Zu) (λb=>g b.1.1 b.1.2.1 b.1.b b.2))
def ash (Qf:apd)(x0:Int)(x1:Int)(x2:Bool)(x3:Int):Pg ase:=let y0:=wI (x3-1);let y1:=wU (wI (x3-64));let y2:=wU (wI (64-x3));let y3:=wU y0;let y4:=wU (wI (x3-65));let y5:=2^min (z4 (wU x3)) 64;let y6:= !decide (wU x3<0);ae (x3==0) (ret (x0,x1,x2)) (ae (decide (y0>=64)) (ae (!decide (y4<0)) (opt (Qf x0 x1 x2 (wU (1*2^min (z4 y4) 64)) 0 x2) λd=>ae (decide (x3>=64)) (ae (!decide (y1<0)) (ret (0,v4 d.1 (2^min (z4 y1) 64),d.2.2)) no) (ae y6 (ae y6 (ae (!decide (y2<0)) (ret (v4 d.1 y5,wU (wr (v6 (wd 64 (v4 d.2.1 y5)|||wd 64 (wU (d.1*2^min (z4 y2) 64))))),d.2.2)) no) no) no)) no) (ae (!decide (y3<0)) (opt (Qf x0 x1 x2 0 (wU (1*2^min (z4 y3) 64)) x2) λd=>ae (decide (x3>=64)) (ae (!decide (y1<0)) (ret (0,v4 d.1 (2^min (z4 y1) 64),d.2.2)) no) (ae y6 (ae y6 (ae (!decide (y2<0)) (ret (v4 d.1 y5,wU (wr (v6 (wd 64 (v4 d.2.1 y5)|||wd 64 (wU (d.1*2^min (z4 y2) 64))))),d.2.2)) no) no) no)) no))
def adB:=λx0 x1 x2 x3=>(ash afo x0 x1 x2 x3).val
theorem aH3:∀Qf,D0 [azf Qf] 148 asd (lf Zu) λb=>ash Qf b.1.1 b.1.2.1 b.1.b b.2:=λ_ b=>by kernel_rfl
theorem aH4 [aA]:SC (asg adB):=s0 (.c aJC (.nil _)) (aH3 afo)
def asi:=qa (pr (cu aS Fw) bJ)
def Zv:=qe qu
abbrev asj:=Zv.B
abbrev asl:=Int->Int->Int->Bool->Option asj
def asm (g:asl):Ct:=(99,FC asi (lf Zv) (λb=>g b.1.1 b.1.2.1 b.1.b b.2))
def asn (lX:adt)(Hw:azd)(Q6:asf)(se:adz)(x0:Int)(x1:Int)(x2:Int)(x3:Bool):Pg asj:=opt (lX x0 x3) λd=>opt (lX x1 d.2) λak=>opt (Hw d.1 ak.1) λd=>opt (Q6 d.1 d.2.1 d.2.2 x2) λd=>opt (se d.1 d.2.1 d.2.2 ak.2) λd=>ret d
def adC:=λx0 x1 x2 x3=>(asn Jf afm adB Jg x0 x1 x2 x3).val
theorem aH5:∀lX Hw Q6 se,D0 [adu lX,aze Hw,asg Q6,adA se] 99 asi (lf Zv) λb=>asn lX Hw Q6 se b.1.1 b.1.2.1 b.1.b b.2:=λ_ _ _ _ b=>by kernel_rfl
theorem aH6 [aA]:SC (asm adC):=s0 (.c arY (.c aJy (.c aH4 (.c asc (.nil _))))) (aH5 Jf afm adB Jg)
def aBT:=qa (pr (cu aS A4) bJ)
def aif:=qe qu
abbrev aBU:=aif.B
abbrev aBV:=Int->Int->Bool->Option aBU
def aBW (g:aBV):Ct:=(60,FC aBT (lf aif) (λb=>g b.1.1 b.1.2 b.2))
def aBX (Q7:asl)(x0:Int)(x1:Int)(x2:Bool):Pg aBU:=opt (Q7 x0 x1 30 x2) λd=>ret d
def aoK:=λx0 x1 x2=>(aBX adC x0 x1 x2).val
theorem aOR:∀Q7,D0 [asm Q7] 60 aBT (lf aif) λb=>aBX Q7 b.1.1 b.1.2 b.2:=λ_ b=>by kernel_rfl
theorem aOS [aA]:SC (aBW aoK):=s0 (.c aH6 (.nil _)) (aOR adC)
def uB:=qa (pu (cu iW nil) (cd wg λb0=>(c mb (c m8 (c (cl (gs b0.c.1 o6) nil) (cd xQ λb4=>(cd qO λb5=>(cd qP λb6=>(cd qQ λb7=>(cd qR λb8=>(cd qS λb9=>(c mH (cd zW λAv=>(c (cl (gs b0.e mc) nil) (c (cl (gs b4.b.1 aB) nil) (c (cl (gs b5.b.1 aB) nil) (c (cl (gs b6.b.1 aB) nil) (c (cl (gs b7.b.1 aB) nil) (c (cl (gs b8.b.1 aB) nil) (c (cl (gs b9.b.1 aB) nil) (cl (cl (gs Av.b jo) nil) nil)))))))))))))))))))))
def GL:=qe (res (pl (rH (c afG (cl akP nil))) (pu (cu fD axy) nil)))
abbrev Iz:=GL.B
abbrev IA:=uB.B->Option Iz
def U5 (g:IA):Ct:=(24,FC uB (lf GL) g)
def U6 (x:uB.B):Pg Iz:=ret (x.1.2.2.1,x.1.2.2.2.1)
def AW:=λx=>(U6 x).val
theorem apW:D0 [] 24 uB (lf GL) λb=>U6 b:=λb=>by kernel_rfl
theorem apX [aA]:SC (U5 AW):=s0 (.nil _) apW
end Go.Proofs.YtldgljclcgaibaaGreat
namespace Go.Proofs.YtldgljclcgaibaaGreat
open Go.Ab Go.Ab.Pg
structure Clo (P:Int->Int->Bf->Prop):Prop where
 len:∀{m t b},P m t b->b.2.2.1<=64
 br:∀{m t u b c},P m t b->t<=u->BR u b c->P m u c
 pr:∀{m t b c},0<=m->m<=1000->P m t b->(PR b c∨SR b c)->P (m+1) t c
 up:∀{m t b},P m t b->P (m+1) t b
def Tq (T S:Int)(a:Bool)(n:Nat)(r:Nat->Int):Prop:=(a=false->S<=0)/\Qd T S n r
open Go.Ab Go.Ab.Pg Go.Ab.Rq
def aJD:=qa (pr (cu aS aKb) bJ)
def aui:=qe qu
abbrev aJE:=aui.B
abbrev azj:=NI->NI->Int->Int->Bool->Option aJE
def aJF (g:azj):Ct:=(35,FC aJD (lf aui) (λb=>g b.1.1.1 b.1.1.2 b.1.2.1 b.1.b b.2))
def Hz:=qs (st (dp (cu aS (us 1 (c ai (c ai (us 1 (cu EK (us 3 (c (ac (AG 2 1)) (c (ac (AG 3 1)) (cl ai (us 41 nil))))))))))) λv=>(pl (c bE (c gC (c (so (cl (gs v.b.1 nN) nil)) abz))) bK)))
def aOT:=qs (st (pr (cu aS (us 1 (c ai (c ai (us 1 (cu EK (us 3 (c (ac (AG 2 1)) (c (ac (AG 3 1)) (c ai (us 13 aVE))))))))))) (pl (c bE (c gC (c HW abz))) bK)))
abbrev abp:=((Int×Int×Nat×Nat×Int×Bool)×Bool×(NI×NI)×NI×Nat×NI)
def aBY {ρ:Type}(x:abp)(K:AX->St->Option ρ):Option ρ:=(λd=>K (.ex 0) (aOT.em ((d.1.1,d.1.2.1,d.1.b.1,d.1.b.2.1,d.1.c.1,d.1.c),d.2.1,d.b.1,(d.1.b.1,d.b.2.1),d.c))) x
def abq (Rw:Mq)(aC:bR)(d:Hz.B):PL Hz abp:=let n2:=d.2.2.1;let n1:=d.1.2.2;let n3:=n1.2.2;let y0:=n1.1+1;let y1:=n1.2.1+1;let y2:=decide (n3<24);ae y2 (opt (Rw n2.1 n2.2 d.1.1 n3) λak=>ae (wl (y0*8) 140737488355328) (opt (Rw n2.1 n2.2 d.1.2.1 n3) λaF=>ae (bg n3 24) (opt (aC aF (n2.2 (z4 n3)) 30 d.2.1) λbA=>ae (wl (y1*8) 140737488355328) (ret (ww ((d.1.1,d.1.2.1,y0,y1,wI (n3+1)),bA.2,n2,λj=>bif z9 j n1.1 then ak else d.2.2.2.1 j,y1,λj=>bif z9 j n1.2.1 then bA.1 else d.2.2.2.2.2 j))) no) no) no) (ret (ws ((d.1.1,d.1.2.1,n1.1,n1.2.1,n3,y2),d.2)))
def aoL:=bI (abq wA aW) 2000
def azk (bj:dM)(dR:LT Hz abp)(x0:Nat->Int)(x1:Nat->Int)(x2:Int)(x3:Int)(x4:Bool):Pg aJE:=let y0:=if x3>x2 then x3 else x2;ae (decide ((if x3<x2 then x3 else x2)<0)) (ret (0,x4)) (ae (decide (y0>=24)) (ret (0,x4)) (ae true (opt (dR ((x2,x3,0,0,y0),x4,(x0,x1),λx=>0,0,λx=>0)) λd=>let n1:=d.1.2.2;ae (z9 n1.1 n1.1) (ae (z9 n1.2.1 n1.2.1) (opt (bj 30 n1.1 n1.2.1 d.2.1 d.2.2.2.1 d.2.2.2.2.2 true true) λd=>ret d) no) no) no))
def BN:=λx0 x1 x2 x3 x4=>(azk bx aoL x0 x1 x2 x3 x4).val
abbrev ape:=Mq×bR×dM×(LT Hz abp)
def azl (p:ape):KK:=⟨[amc p.1,eT p.2.1,lV p.b.1],⟨[⟨5,(1::4::6::7::8::rg 12 41 []),[(9,[.i .i64]),(10,[.i .i64])]⟩],[fQ 5 1 Hz aBY p.b.2],[0],[],(some ⟨0,(rg 0 8 (rg 9 44 [])),[]⟩)⟩,1,35⟩
theorem aMd (p:ape):LI (azl p) 5 Hz aBY (abq p.1 p.2.1):=λ_ d c K=>by kernel_rfl
theorem aUB (p:ape):D2 (azl p) aJD (lf aui) λb=>azk p.b.1 p.b.2 b.1.1.1 b.1.1.2 b.1.2.1 b.1.b b.2:=λb=>by kernel_rfl
abbrev azm:ape:=(wA,aW,bx,aoL)
theorem aUC [aA]:SC (aJF BN):=sc (kS (k:=azl azm) (.c avr (.c fA (.c nj (.nil _)))) [5] [] ⟨kL (aMd azm),trivial⟩ trivial (aUB azm))
def aw2:=qa (pl A4 nil)
def adD:=qe (res (pl (aa (c gi (c gi (cu aO (cu aO (cu aO (cu aO (cu aO mQ)))))))) (pu nil nil)))
abbrev aw3:=adD.B
abbrev aih:=Int->Int->Option aw3
def aii (g:aih):Ct:=(39,FC aw2 (lf adD) (λb=>g b.1 b.2))
def aw4 (NG:aoH)(abr:aBV)(x0:Int)(x1:Int):Pg aw3:=opt (NG x1 false) λd=>opt (abr 10529810258 d.1 d.2) λd=>ret (x0,x1,wI (0-d.1))
def NH:=λx0 x1=>(aw4 Zt aoK x0 x1).val
theorem aMe:∀NG abr,D0 [aoI NG,aBW abr] 39 aw2 (lf adD) λb=>aw4 NG abr b.1 b.2:=λ_ _ b=>by kernel_rfl
theorem aw5 [aA]:SC (aii NH):=s0 (.c aGQ (.c aOS (.nil _))) (aMe Zt aoK)
def SF:=qa (pl (cl (aa tU) nil) nil)
def akg:=qe aPq
def aDc:=qe (res (pu xM (pu nil (cu (cu (gp 1 434) aWv) (c (c gi (c gi (c gi (c gi (c gi (c gi (c gi (c gi (c gi (c gi (c gi (c gi (c gi (c gi (c gi (c gi (c gJ (c gJ (c gi (c gi (c gi (c gi (c gi (c gi (c gi (c gi (c gb (c gJ (c aJM (cl gJ (cu (gp 2 5) (cu (gp 3 10) (cu (gc (gr (pu rq6 (pu we (pu LB (pu Dy gB)))))) (cu aRZ (cu aIr (cu aDC (cu aDD (cu aDE (cu aMD (cu aVd (cu aO (cu aO (cu J2 (cu J2 (cu (gp 12 3) (cu J2 (cu aO (cu aO (cu aO (cu aO (cu J2 (cu J2 (cu J2 (cu aO (cu aO (cu aO (cu asq (cu aO (cu aO (cu aO (cu aO (cu aO (cu aO (cu aO (cu aO (cu aO (cu (gc (gr (pu aIi (pu we (pu LB (pu (nat 10) gB)))))) nil))))))))))))))))))))))))))))))))))))))))))))))))))))))))))))))))))) (c j7 (c aQc (c aWA (c aXa (c aXb (c aXc (c aXd (c aXe (c (cu aO (cu aO (cu aO (cu aO (cu aO (cl gi (cu (gc (gr (pu aIk (pu we (pu LB (pu gh gB)))))) akO))))))) (c aKg (c (c gi (cl gi (cu (gc (gr (pu aIh (pu we (pu LB (pu xK gB)))))) nil))) aXk))))))))))))))))
abbrev abt:=akg.B⊕a0L
def aBZ:abt->T:=ls (lf akg) (λd=>lf aDc (d.1,d.2.1,d.b.1,(d.b.2.1,d.b.2.1,d.b.2.1,d.b.2.1,d.b.2.1,d.b.2.1,d.b.2.1,d.b.2.1),d.c.1,d.c.2.1,d.c.b.1,d.c.b.2.1,d.d.1,d.d.2.1,d.d.b.1,d.d.b.2.1,(d.b.2.1,d.b.2.1,d.b.2.1,d.b.2.1,d.b.2.1,d.b.2.1,d.b.2.1,d.b.2.1,d.b.2.1,d.b.2.1),(d.d.c.1,d.d.c.1,d.d.c.1,d.d.c.1,d.d.c.1,d.d.c.1,d.d.c.1,d.d.c.1,d.d.c.1),(d.d.c.2.1,d.d.c.2.1,d.d.c.2.1,d.d.c.2.1,d.d.c.2.1,d.d.c.2.1,d.d.c.2.1,d.d.c.2.1,d.d.c.2.1),(d.d.c.b.1,d.d.c.b.1,d.d.c.b.1,d.d.c.b.1,d.d.c.b.1,d.d.c.b.1,d.d.c.b.1,d.d.c.b.1,d.d.c.b.1),(d.d.c.b.2.1,d.d.c.b.2.1,d.d.c.b.2.1,d.d.c.b.2.1,d.d.c.b.2.1,d.d.c.b.2.1,d.d.c.b.2.1,d.d.c.b.2.1,d.d.c.b.2.1),(d.e.1,d.e.1,d.e.1,d.e.1,d.e.1,d.e.1,d.e.1,d.e.1,d.e.1),(d.e.2.1,d.e.2.1,d.e.2.1,d.e.2.1,d.e.2.1,d.e.2.1,d.e.2.1,d.e.2.1,d.e.2.1),d.e.b,d.e.b,d.e.b,d.e.b,d.e.b,d.e.b,d.e.b,d.e.b,d.e.b,d.e.b,d.e.b))
abbrev aoM:=SF.B->Option abt
def aB0 (g:aoM):Ct:=(12,FC SF aBZ g)
def aoN (aij:aGw)(x:SF.B):Pg abt:=opt (aij x) λd=>ae (match d with|ww val=>true|ws val=>false) (opt (match d with|ww a=>some a|ws val=>none) λd=>ret (ww ())) (opt (match d with|ws b=>some b|ww val=>none) λd=>ret (ws d))
def SG:=λx=>(aoN Az x).val
theorem aOU:∀aij,D0 [at7 aij] 12 SF aBZ λb=>aoN aij b:=λ_ b=>by kernel_rfl
theorem aOV [aA]:SC (aB0 SG):=s0 (.c aGz (.nil _)) (aOU Az)
def ov:=qa (pu (cu xM nil) (c SK (cd asD λb1=>(c mb (c m8 (c (cl (gs b1.c.1 o6) nil) (cd qO λb5=>(cd qP λb6=>(cd qQ λb7=>(cd qR λb8=>(cd qS λb9=>(cd aDV λb10=>(c mH (cd aDN λb12=>(c (cl (gs b1.e mc) nil) (c (cl (gs b5.b.1 aB) nil) (c (cl (gs b6.b.1 aB) nil) (c (cl (gs b7.b.1 aB) nil) (c (cl (gs b8.b.1 aB) nil) (c (cl (gs b9.b.1 aB) nil) (c (cl (gs b10.b.1 aB) nil) (cl (cl (gs b12.b jo) nil) nil))))))))))))))))))))))
def apY:=qe (res (pu Q' (pr (c (zT SK) (cl (zT aQf) aD0)) aXp)))
abbrev rE:=((akH×Fu×Bool×NI×(NI×NI)×(Nat×Nat)×qF×Bool×Int×kG×Bool×Bool×Bool×Int×Int×Int×En×Nat)×(kG×Int×Int)×Ly×Q9×bT×bT×bT×bT×bT×bT×Lu×tt×Fo×cP×cP×cP×cP×cP×cP×Nat×NI×NI×NI×NI×NI×NI×NI×NI×NI×NI×NI)
def Zw:rE->T:=λd=>lf apY (d.1,d.2.1,d.b.1,d.b.2.1,d.c.1,d.c.2.1,d.c.b.1,d.c.b.2.1,d.d.1,d.d.2.1,d.d.b.1,d.d.b.2.1,d.d.c.1,(d.c.1.b.1,d.d.c.2.1),(d.c.2.1.b.1,d.d.c.b.1),(d.c.b.1.b.1,d.d.c.b.2.1),(d.c.b.2.1.b.1,d.e.1),(d.d.1.b.1,d.e.2.1),(d.d.2.1.b.1,d.e.b.1),d.e.b.2)
abbrev jY:=ov.B->Option rE
def Ds (g:jY):Ct:=(15,FC ov Zw g)
def m7:=qs (st (pr (cu xM (us 1 (cl ai (us 34 nil)))) (pl (c (so SK) (c (so aQf) (cu nO (cu nO (cu nO (cu nO (cu nO (cu nO (cu nO (cu nO (cu nO (cu nO (cu nO (cu nO (cu nO (cu nO (cu nO (cu nO (cu nO (cu nO (cu nO (c lg (c lk (c me (cd (so aD2) λb24=>(cd aD3 λb25=>(cd abD λb26=>(cd abE λb27=>(cd abF λb28=>(cd afP λb29=>(c j8 (c (so aP4) (c tT (c (so (cl (gs b24.b.1 aB) nil)) (c (so (cl (gs b25.b.1 aB) nil)) (c (so (cl (gs b26.b.1 aB) nil)) (c (so (cl (gs b27.b.1 aB) nil)) (c (so (cl (gs b28.b.1 aB) nil)) (c (so (cl (gs b29.b.1 aB) nil)) Fy))))))))))))))))))))))))))))))))))))))) afU)))
def aoO:=qs (st (pr (cu xM (us 1 (c ai (us 25 aW3)))) (pl (c (so SK) (c (so aQf) (cu nO (cu nO (cu nO (cu nO (cu nO (cu nO (cu nO (cu nO (cu nO (cu nO (cu nO (cu nO (cu nO (cu nO (cu nO (cu nO (cu nO (cu nO (cu nO (c lg (c lk (c me (c (so aD2) (c aD3 (c abD (c abE (c abF (c afP (c j8 (c (so aP4) xR)))))))))))))))))))))))))))))))) afU)))
abbrev tp:=(kG×(Int×Bool)×(Fu×Bool×NI×(NI×NI)×(Nat×Nat)×qF×Bool×Int×kG×Bool×Bool×Bool×Int×Int×Int×En×Nat)×(kG×Int×Int)×Ly×Q9×bT×bT×bT×bT×bT×bT×Lu×tt×Fo×cP×cP×cP×cP×cP×cP×Nat×NI×NI×NI×NI×NI×NI×NI×NI×NI×NI×NI)
def SH {ρ:Type}(x:tp)(K:AX->St->Option ρ):Option ρ:=(λd=>K .nrm (aoO.em ((d.1.1,d.1.2.1,d.1.1,d.1.b),(d.2.1.1,d.1.b,d.2.1.2),d.b.1,d.b.2.1,d.c.1,d.c.2.1,d.c.b.1,d.c.b.2.1,d.d.1,d.d.2.1,d.d.b.1,d.d.b.2.1,d.d.c.1,d.d.c.2.1,d.d.c.b.1,(d.c.b.1.b.1,d.d.c.b.2.1),(d.c.b.2.1.b.1,d.e.1),(d.d.1.b.1,d.e.2.1),(d.d.2.1.b.1,d.e.b.1),(d.d.b.1.b.1,d.e.b.2.1),(d.d.b.2.1.b.1,d.e.c.1),d.e.c.2))) x
def SI (d:m7.B):Pg tp:=ret ((d.1,d.2.1.2.1,wI (d.2.1.2.1+d.1)),(d.2.1.1,d.2.1.2.2),d.2.2)
def zQ (d:m7.B):Option tp:=(SI d).val
def SJ:Hd:=⟨3,(1::rg 3 34 []),[(0,[])]⟩
def Dt (aMf:aih)(NJ:zM)(dR:LT m7 tp)(x:ov.B):Pg rE:=let n7:=x.2.2.2.2.2;let n3:=x.2.1.2.2.2.2;let n6:=n3.2.2.2.2.2.2.2.2.2.2.2.2;let n1:=n7.2;let n4:=n1.2.2.2;let y0:=wI (x.1.1+8000);opt (aMf y0 8000) λd=>ae (z9 n3.1 n3.1) (ae (z9 n6 n6) (ae (z9 n7.1.2.2.1 n7.1.2.2.1) (ae (z9 n1.1.2.2.1 n1.1.2.2.1) (ae (z9 n1.2.1.2.2.1 n1.2.1.2.2.1) (ae (z9 n1.2.2.1.2.2.1 n1.2.2.1.2.2.1) (ae (z9 n4.1.2.2.1 n4.1.2.2.1) (ae (z9 n4.2.1.2.2.1 n4.2.1.2.2.1) (ae (z9 n4.2.2.2.1.2.2 n4.2.2.2.1.2.2) (opt (NJ ((d.1,d.2.1,(0,0,0),0,0,d.2.2),x.2)) λd=>let n2:=d.2.2.2.2.2;let n5:=n2.2.2.2;let ur:=z9 n2.1.2.2.1 n2.1.2.2.1;let y1:=z9 n2.2.1.2.2.1 n2.2.1.2.2.1;let y2:=z9 n2.2.2.1.2.2.1 n2.2.2.1.2.2.1;let y3:=z9 n5.1.2.2.1 n5.1.2.2.1;let y4:=z9 n5.2.1.2.2.1 n5.2.1.2.2.1;let y5:=z9 n5.2.2.1.2.2.1 n5.2.2.1.2.2.1;ae (d.1.2==0) (ae ur (ae y1 (ae y2 (ae y3 (ae y4 (ae y5 (opt (dR (d.1.1,(y0,x.1.2),d.2)) λd=>ret (((d.2.1.1,d.1.2.2,d.2.1.2),d.2.2.1),d.2.2.2)) no) no) no) no) no) no) (ae ur (ae y1 (ae y2 (ae y3 (ae y4 (ae y5 (opt (dR (d.1.1,x.1,d.2)) λd=>ret (((d.2.1.1,d.1.2.2,d.2.1.2),d.2.2.1),d.2.2.2)) no) no) no) no) no) no)) no) no) no) no) no) no) no) no) no
def dQ:=λx=>(Dt NH jm zQ x).val
abbrev Du:=aih×zM×(LT m7 tp)
def KS (p:Du):KK:=⟨[aii p.1,zN p.2.1],⟨[],[],(rg 0 21 []),[⟨SJ,fQ 3 21 m7 SH p.b⟩],(some ⟨0,(rg 0 37 []),[(3,[]),(4,[]),(5,[]),(6,[]),(7,[]),(8,[]),(9,[]),(10,[]),(11,[]),(12,[]),(13,[]),(14,[]),(15,[]),(16,[]),(17,[]),(18,[]),(19,[]),(20,[]),(21,[]),(22,[]),(0,[])]⟩)⟩,21,15⟩
theorem akB (p:Du):JI (KS p) 3 m7 SH (SI):=λ_ d K=>by kernel_rfl
theorem auj (p:Du):D2 (KS p) ov Zw λb=>Dt p.1 p.2.1 p.b b:=λb=>by kernel_rfl
abbrev KU:Du:=(NH,jm,zQ)
theorem KV [aA]:SC (Ds dQ):=sc (kS (k:=KS KU) (.c aw5 (.c ND (.nil _))) [] [3] trivial ⟨kJ SJ (akB KU),trivial⟩ (auj KU))
def pT:=qa (pr (cu xM (cl (aa (c gi (c gi (c gi (a 8 aDT aKa))))) nil)) (c SK (cd asD λb1=>(c mb (c m8 (c (cl (gs b1.c.1 o6) nil) (cd qO λb5=>(cd qP λb6=>(cd qQ λb7=>(cd qR λb8=>(cd qS λb9=>(cd aDV λb10=>(c mH (cd aDN λb12=>(c (cl (gs b1.e mc) nil) (c (cl (gs b5.b.1 aB) nil) (c (cl (gs b6.b.1 aB) nil) (c (cl (gs b7.b.1 aB) nil) (c (cl (gs b8.b.1 aB) nil) (c (cl (gs b9.b.1 aB) nil) (c (cl (gs b10.b.1 aB) nil) (cl (cl (gs b12.b jo) nil) nil))))))))))))))))))))))
def akC:=qe (res (pu Q' (pr (c (zT SK) (cl (zT (a 26 tU (c gb (c gJ (a 2 uF (cu (gp 21 5) (cu (gp 22 10) (c (gc (gr (pu (nat 23) (pu (ox (pu dJ (pu dJ Dy))) (pl jr (pu Dy gB)))))) aXh)))))))) aD0)) aXp)))
def akD:=qe (res (pu Q' (pr (cl (zT aPA) (cu Vb aD0)) (c aQg (c mb (c m8 (c aDW (c aKk (c aKl (c aKm (c aKn (c aP9 (c aWW (c mH (c aP5 aD7)))))))))))))))
abbrev tP:=((akH×Fu×Bool×NI×(NI×NI)×Nat×qF×Bool×Int×kG×Bool×Bool×Bool×Int×Int×Int×En×Nat)×(kG×Int×Int)×Ly×aU9×bT×bT×bT×bT×bT×bT×Lu×tt×aMt×Fq×Fq×Fq×Fq×Fq×Fq×NI×NI×NI×NI×NI×NI×NI×NI×NI×NI×NI)⊕(akH×(Fu×Bool×NI×(NI×NI)×(Nat×Nat)×qF×Bool×Int×kG×Bool×Bool×Bool×Int×Int×Int×En×Nat)×(kG×Int×Int)×Ly×Q9×bT×bT×bT×bT×bT×bT×Lu×tt×Fo×cP×cP×cP×cP×cP×cP×Nat×NI×NI×NI×NI×NI×NI×NI×NI×NI×NI×NI)
def abu:tP->T:=ls (λd=>lf akC (d.1,d.2.1,d.b.1,(d.1.c.2.1,d.b.2.1),d.c.1,d.c.2.1,d.c.b.1,d.c.b.2.1,d.d.1,d.d.2.1,d.d.b.1,d.d.b.2.1,(d.1.e.2,d.d.c.1),d.d.c.2.1,d.d.c.b.1,d.d.c.b.2.1,d.e.1,d.e.2.1,d.e.b.1,d.d.b.2.1.b,d.e.b.2)) (λd=>lf akD (d.1,d.2.1,d.b.1,d.b.2.1,d.c.1,d.c.2.1,d.c.b.1,d.c.b.2.1,d.d.1,d.d.2.1,d.d.b.1,d.d.b.2.1,d.d.c.1,d.d.c.2.1,(d.c.2.1.b.1,d.d.c.b.1),(d.c.b.1.b.1,d.d.c.b.2.1),(d.c.b.2.1.b.1,d.e.1),(d.d.1.b.1,d.e.2.1),(d.d.2.1.b.1,d.e.b.1),(d.d.b.1.b.1,d.e.b.2.1),d.e.c))
abbrev NK:=pT.B->Option tP
def abv (g:NK):Ct:=(14,FC pT abu g)
def ep:=qs (st (pr (cu xM (us 2 (cu aMF (xs 1 (us 1 (c ai (us 1 (cl ai (us 71 nil))))))))) (pl (c aDO (cu nO (cu nO (cu nO (cu nO (cu nO (cu nO (cu nO (cu nO (cu nO (cu nO (cu nO (cu nO (cu nO (cu nO (cu nO (cu nO (cu nO (cu nO (cu nO (cu nO (c aD1 (c aD8 (c lg (c lk (c me (cd abD λb26=>(cd abE λb27=>(cd abF λb28=>(cd afP λb29=>(cd asA λb30=>(cd aD4 λb31=>(c j8 (c aDZ (c tT (c (so (cl (gs b26.b.1 aB) nil)) (c (so (cl (gs b27.b.1 aB) nil)) (c (so (cl (gs b28.b.1 aB) nil)) (c (so (cl (gs b29.b.1 aB) nil)) (c (so (cl (gs b30.b.1 aB) nil)) (c (so (cl (gs b31.b.1 aB) nil)) Fy))))))))))))))))))))))))))))))))))))))))) afU)))
def aik:=qs (st (pr (cu xM (us 2 (cu aMF (xs 1 (us 1 (c ai (us 1 (c ai (c ai (cu aJ6 (c ai (c ab (cu J1 (c ai (c ab (c ab (cu J1 (cu xM (cu xM (cu aJ5 (c ai (c ab (c ab (cu J1 (cu xM (cu xM (cu aPF (c ai (c ab (cl ab aVc)))))))))))))))))))))))))))))) (pl (c aDO (cu nO (cu nO (cu nO (cu nO (cu nO (cu nO (cu nO (cu nO (cu nO (cu nO (cu nO (cu nO (cu nO (cu nO (cu nO (cu nO (cu nO (cu nO (cu nO (cu nO (c aD1 (c aD8 (c lg (c lk (c me (c abD (c abE (c abF (c afP (c asA (c aD4 (c j8 (c aDZ xR)))))))))))))))))))))))))))))))))) afU)))
def ail:=qs (st (pr (cu xM (us 2 (cu aMF (xs 1 (us 1 (c ai (us 1 (c ai (c ai (cu aJ6 (c ai (c ab (cu J1 (c ai (c ab (c ab (cu J1 (cu xM (cu xM (cu aJ5 (c ai (c ab (cl ab aWq))))))))))))))))))))))) (pl (c aDO (cu nO (cu nO (cu nO (cu nO (cu nO (cu nO (cu nO (cu nO (cu nO (cu nO (cu nO (cu nO (cu nO (cu nO (cu nO (cu nO (cu nO (cu nO (cu nO (cu nO (c aD1 (c aD8 (c lg (c lk (c me (c abD (c abE (c abF (c afP (c asA (c aD4 (c j8 (c aDZ xR)))))))))))))))))))))))))))))))))) afU)))
def aim:=qs (st (pr (cu xM (us 2 (cu aMF (xs 1 (us 1 (c ai (us 1 (c ai (c ai (cu aJ6 (c ai (c ab (cu J1 (c ai (c ab (cl ab aWO)))))))))))))))) (pl (c aDO (cu nO (cu nO (cu nO (cu nO (cu nO (cu nO (cu nO (cu nO (cu nO (cu nO (cu nO (cu nO (cu nO (cu nO (cu nO (cu nO (cu nO (cu nO (cu nO (cu nO (c aD1 (c aD8 (c lg (c lk (c me (c abD (c abE (c abF (c afP (c asA (c aD4 (c j8 (c aDZ xR)))))))))))))))))))))))))))))))))) afU)))
def ain:=qs (st (pr (cu xM (us 2 (cu aMF (xs 1 (us 1 (c ai (us 1 (c ai (c ai (cu aJ6 (c ai (cl ab (cu tQ (xs 2 (cu tQ aWO))))))))))))))) (pl (c aDO (cu nO (cu nO (cu nO (cu nO (cu nO (cu nO (cu nO (cu nO (cu nO (cu nO (cu nO (cu nO (cu nO (cu nO (cu nO (cu nO (cu nO (cu nO (cu nO (cu nO (c aD1 (c aD8 (c lg (c lk (c me (c abD (c abE (c abF (c afP (c asA (c aD4 (c j8 (c aDZ xR)))))))))))))))))))))))))))))))))) afU)))
abbrev iS:=((Int×Int×Int×Bool×Bool×Int×Bool×Int×Bool)×Bool×aRT×(Fu×Bool×NI×(NI×NI)×(Nat×Nat)×qF×Bool×Int×kG×Bool×Bool×Bool×Int×Int×Int×En×Nat)×(kG×Int×Int)×Ly×Q9×bT×bT×bT×bT×bT×bT×Lu×tt×Fo×cP×cP×cP×cP×cP×cP×Nat×NI×NI×NI×NI×NI×NI×NI×NI×NI×NI×NI)⊕(((Int×Int×Int×Bool×Bool×Int×Bool)×(Int×Bool)×aRT×(Fu×Bool×NI×(NI×NI)×(Nat×Nat)×qF×Bool×Int×kG×Bool×Bool×Bool×Int×Int×Int×En×Nat)×(kG×Int×Int)×Ly×Q9×bT×bT×bT×bT×bT×bT×Lu×tt×Fo×cP×cP×cP×cP×cP×cP×Nat×NI×NI×NI×NI×NI×NI×NI×NI×NI×NI×NI)⊕(((Int×Int×Int×Bool×Bool)×akH×aRT×(Fu×Bool×NI×(NI×NI)×(Nat×Nat)×qF×Bool×Int×kG×Bool×Bool×Bool×Int×Int×Int×En×Nat)×(kG×Int×Int)×Ly×Q9×bT×bT×bT×bT×bT×bT×Lu×tt×Fo×cP×cP×cP×cP×cP×cP×Nat×NI×NI×NI×NI×NI×NI×NI×NI×NI×NI×NI)⊕(aIf×akH×aRT×(Fu×Bool×NI×(NI×NI)×(Nat×Nat)×qF×Bool×Int×kG×Bool×Bool×Bool×Int×Int×Int×En×Nat)×(kG×Int×Int)×Ly×Q9×bT×bT×bT×bT×bT×bT×Lu×tt×Fo×cP×cP×cP×cP×cP×cP×Nat×NI×NI×NI×NI×NI×NI×NI×NI×NI×NI×NI)))
def U7 {ρ:Type}(x:iS)(K:AX->St->Option ρ):Option ρ:=(t9 (λd=>K (.ex 1) (aik.em ((d.1.1,d.1.2.1,d.1.1,d.1.b.1,d.1.b.2.1,d.1.1,d.1.c.1,d.1.c.1,d.1.c.2.1,d.1.c.b.1,d.1.c.b.1,d.1.c.b.2.1,d.1.d,d.1.d),(d.1.c.2.1,d.1.c.b.2.1,d.2.1),(d.b.1.1,d.b.1.2.1,d.1.b.1,d.b.1.b),d.b.2.1,d.c.1,d.c.2.1,d.c.b.1,d.c.b.2.1,d.d.1,d.d.2.1,d.d.b.1,d.d.b.2.1,d.d.c.1,d.d.c.2.1,d.d.c.b.1,d.d.c.b.2.1,(d.c.b.2.1.b.1,d.e.1),(d.d.1.b.1,d.e.2.1),(d.d.2.1.b.1,d.e.b.1),(d.d.b.1.b.1,d.e.b.2.1),(d.d.b.2.1.b.1,d.e.c.1),(d.d.c.1.b.1,d.e.c.2.1),d.e.c.b))) (t9 (λd=>K (.ex 1) (ail.em ((d.1.1,d.1.2.1,d.1.1,d.1.b.1,d.1.b.2.1,d.1.1,d.1.c.1,d.1.c.1,d.1.c.2.1,d.1.c.b,d.1.c.b),(d.1.c.2.1,d.2.1),(d.b.1.1,d.b.1.2.1,d.1.b.1,d.b.1.b),d.b.2.1,d.c.1,d.c.2.1,d.c.b.1,d.c.b.2.1,d.d.1,d.d.2.1,d.d.b.1,d.d.b.2.1,d.d.c.1,d.d.c.2.1,d.d.c.b.1,d.d.c.b.2.1,(d.c.b.2.1.b.1,d.e.1),(d.d.1.b.1,d.e.2.1),(d.d.2.1.b.1,d.e.b.1),(d.d.b.1.b.1,d.e.b.2.1),(d.d.b.2.1.b.1,d.e.c.1),(d.d.c.1.b.1,d.e.c.2.1),d.e.c.b))) (t9 (λd=>K (.ex 1) (aim.em ((d.1.1,d.1.2.1,d.1.1,d.1.b.1,d.1.b.2.1,d.1.1,d.1.c,d.1.c),d.2.1,(d.b.1.1,d.b.1.2.1,d.1.b.1,d.b.1.b),d.b.2.1,d.c.1,d.c.2.1,d.c.b.1,d.c.b.2.1,d.d.1,d.d.2.1,d.d.b.1,d.d.b.2.1,d.d.c.1,d.d.c.2.1,d.d.c.b.1,d.d.c.b.2.1,(d.c.b.2.1.b.1,d.e.1),(d.d.1.b.1,d.e.2.1),(d.d.2.1.b.1,d.e.b.1),(d.d.b.1.b.1,d.e.b.2.1),(d.d.b.2.1.b.1,d.e.c.1),(d.d.c.1.b.1,d.e.c.2.1),d.e.c.b))) (λd=>K (.ex 1) (ain.em ((d.1.1,d.1.2.1,d.1.1,d.1.b),d.2.1,(d.b.1.1,d.b.1.2.1,d.1.b.1,d.b.1.b),d.b.2.1,d.c.1,d.c.2.1,d.c.b.1,d.c.b.2.1,d.d.1,d.d.2.1,d.d.b.1,d.d.b.2.1,d.d.c.1,d.d.c.2.1,d.d.c.b.1,d.d.c.b.2.1,(d.c.b.2.1.b.1,d.e.1),(d.d.1.b.1,d.e.2.1),(d.d.2.1.b.1,d.e.b.1),(d.d.b.1.b.1,d.e.b.2.1),(d.d.b.2.1.b.1,d.e.c.1),(d.d.c.1.b.1,d.e.c.2.1),d.e.c.b)))))) x
def AY (ij:jY)(d:ep.B):PL ep iS:=let n15:=d.1.2;let bP:=d.2.2.1;let bB:=d.1.1;let aT:=d.2.1;let n8:=bP.2.2;let n4:=d.2.2.2;let n7:=n4.1.2.2.2.2;let bC:=n7.2.2.2.2.2.2.2.2.2.2.2.2;let n6:=n4.2.2.2.2;let n2:=n6.2.2.2;let n16:=n2.2.2;let n5:=n16.2.2;let bh:=n5.2.2.2.2;let n3:=bh.2.2.2.2.2;let n9:=n3.2.2.2.2.2;let n1:=(bP.1,bP.2.1,n8.2);let y0:=decide (bB<40);let y1:=decide (aT.1<562949953421312);let y2:=decide (aT.2.1<60);let y3:=decide (bB<n8.1);ae y3 (ae y0 (ae y1 (ae y2 (ae (z9 n7.1.2 n7.1.2) (ae (z9 bC bC) (ae (z9 n6.1.2.2.1 n6.1.2.2.1) (ae (z9 n6.2.1.2.2.1 n6.2.1.2.2.1) (ae (z9 n6.2.2.1.2.2.1 n6.2.2.1.2.2.1) (ae (z9 n2.1.2.2.1 n2.1.2.2.1) (ae (z9 n2.2.1.2.2.1 n2.2.1.2.2.1) (ae (z9 n16.1.2.2.1 n16.1.2.2.1) (ae (z9 n5.1.2.2 n5.1.2.2) (opt (ij (aT,(n4.1.1,n4.1.2.1,n4.1.2.2.1,n4.1.2.2.2.1,n7.1.2,n7.2),n4.2.1,n4.2.2.1,(sh8 n7.1.1 n4.2.2.2.1.2),n6.1,n6.2.1,n6.2.2.1,n2.1,n2.2.1,n16.1,n16.2.1,n5.1,(ais 0 n5.2.1.2),(mZ 0 n5.2.2.1),(mZ 0 n5.2.2.2.1),(mZ 0 bh.1),(mZ 0 bh.2.1),(mZ 0 bh.2.2.1),(mZ 0 bh.2.2.2.1),λj=>n3.1 (0+j),λj=>n3.2.1 (0+j),λj=>n3.2.2.1 (0+j),λj=>n3.2.2.2.1 (0+j),λj=>n3.2.2.2.2.1 (0+j),λj=>n9.1 (0+j),λj=>n9.2.1 (0+j),λj=>n9.2.2.1 (0+j),λj=>n9.2.2.2.1 (0+j),λj=>n9.2.2.2.2.1 (0+j),λj=>n9.2.2.2.2.2 (0+j))) λak=>ret (ww ((wI (bB+1),n15),ak.1.1,bP,ak.1.2,ak.2))) no) no) no) no) no) no) no) no) no) (ret (ws (ww ((bB,n15,n8.1,y3,y0,aT.1,y1,aT.2.1,y2),aT.2.2,n1,n4))))) (ret (ws (ws (ww ((bB,n15,n8.1,y3,y0,aT.1,y1),aT.2,n1,n4)))))) (ret (ws (ws (ws (ww ((bB,n15,n8.1,y3,y0),aT,n1,n4))))))) (ret (ws (ws (ws (ws ((bB,n15,n8.1,y3),aT,n1,n4))))))
def uC:=bI (AY dQ) 2000
def oV:=qs (st (pr (cu xM (us 3 aVo)) (pl (c (so aPA) (cu nO (cu nO (cu nO (cu nO (cu nO (cu nO (cu nO (cu nO (cu nO (cu nO (cu nO (cu nO (cu nO (cu nO (cu nO (cu nO (cu nO (cu nO (cu nO (cu nO (c (so aQg) (c lg (c lk (c me (cd aD3 λb25=>(cd abD λb26=>(cd abE λb27=>(cd abF λb28=>(cd afP λb29=>(cd asA λb30=>(c j8 (c (so aP5) (c tT (c (so (cl (gs b25.b.1 aB) nil)) (c (so (cl (gs b26.b.1 aB) nil)) (c (so (cl (gs b27.b.1 aB) nil)) (c (so (cl (gs b28.b.1 aB) nil)) (c (so (cl (gs b29.b.1 aB) nil)) (c (so (cl (gs b30.b.1 aB) nil)) Fy)))))))))))))))))))))))))))))))))))))))) afU)))
def apZ:=qs (st (pr (cu xM (us 3 (c ai (us 66 aW3)))) (pl (c (so aPA) (cu nO (cu nO (cu nO (cu nO (cu nO (cu nO (cu nO (cu nO (cu nO (cu nO (cu nO (cu nO (cu nO (cu nO (cu nO (cu nO (cu nO (cu nO (cu nO (cu nO (c (so aQg) (c lg (c lk (c me (c aD3 (c abD (c abE (c abF (c afP (c asA (c j8 (c (so aP5) xR))))))))))))))))))))))))))))))))) afU)))
abbrev uD:=(kG×(Int×Bool)×(Fu×Bool×NI×(NI×NI)×(Nat×Nat)×qF×Bool×Int×kG×Bool×Bool×Bool×Int×Int×Int×En×Nat)×(kG×Int×Int)×Ly×Q9×bT×bT×bT×bT×bT×bT×Lu×tt×Fo×cP×cP×cP×cP×cP×cP×Nat×NI×NI×NI×NI×NI×NI×NI×NI×NI×NI×NI)
def U8 {ρ:Type}(x:uD)(K:AX->St->Option ρ):Option ρ:=(λd=>K .nrm (apZ.em ((d.1.1,d.1.2.1,d.1.1,d.1.b),(d.2.1.1,d.1.b,d.2.1.2),d.b.1,d.b.2.1,d.c.1,d.c.2.1,d.c.b.1,d.c.b.2.1,d.d.1,d.d.2.1,d.d.b.1,d.d.b.2.1,d.d.c.1,d.d.c.2.1,d.d.c.b.1,(d.c.b.1.b.1,d.d.c.b.2.1),(d.c.b.2.1.b.1,d.e.1),(d.d.1.b.1,d.e.2.1),(d.d.2.1.b.1,d.e.b.1),(d.d.b.1.b.1,d.e.b.2.1),(d.d.b.2.1.b.1,d.e.c.1),d.e.c.2))) x
def U9 (d:oV.B):Pg uD:=ret ((d.1,d.2.1.2.1,wI (d.2.1.2.1+d.1)),(d.2.1.1,d.2.1.2.2),d.2.2)
def AZ (d:oV.B):Option uD:=(U9 d).val
def U':Hd:=⟨13,(1::2::3::rg 5 75 []),[(3,[]),(4,[]),(5,[]),(6,[]),(7,[]),(8,[]),(9,[]),(10,[]),(11,[]),(12,[]),(13,[]),(14,[]),(15,[]),(16,[]),(17,[]),(18,[]),(19,[]),(20,[]),(21,[]),(22,[]),(0,[])]⟩
def Fj (vy:pR)(NJ:zM)(dR:LT ep iS)(pD:LT oV uD)(x:pT.B):Pg tP:=let bP:=x.2.1;let bB:=x.1.2;let n8:=x.2.2;let n6:=n8.2.2.2.2;let n5:=bB.2.2.1;let bC:=n5.2.2;let n4:=n8.1.2.2.2.2;let n7:=n4.2.2.2.2.2.2.2.2.2.2.2.2;let n1:=n6.2.2;let bh:=n1.2.2;let n2:=bh.2.2.2;let n9:=n2.2.2.2.2;let y0:=z9 n4.1 n4.1;let y1:=z9 n7 n7;let y2:=z9 n6.1.2.2.1 n6.1.2.2.1;let y3:=z9 n6.2.1.2.2.1 n6.2.1.2.2.1;let y4:=z9 n1.1.2.2.1 n1.1.2.2.1;let y5:=z9 n1.2.1.2.2.1 n1.2.1.2.2.1;let y6:=z9 bh.1.2.2.1 bh.1.2.2.1;let y7:=z9 bh.2.1.2.2.1 bh.2.1.2.2.1;let y8:=z9 n2.1.2.2 n2.1.2.2;ae (x.1.1==1) (ae y0 (ae y1 (ae y2 (ae y3 (ae y4 (ae y5 (ae y6 (ae y7 (ae y8 (opt (vy ((bB.1,bB.2.2.2),n8)) λd=>ret (ww ((bP,d.2.1),d.2.2))) no) no) no) no) no) no) no) no) no) (ae (x.1.1==0) (ae y0 (ae y1 (ae y2 (ae y3 (ae y4 (ae y5 (ae y6 (ae y7 (ae y8 (opt (NJ (n5,n8)) λd=>let n3:=d.2.2.2.2.2;let aT:=n3.2.2.2;let y0:=d.1.2==0;let y1:=z9 n3.1.2.2.1 n3.1.2.2.1;let y2:=z9 n3.2.1.2.2.1 n3.2.1.2.2.1;let y3:=z9 n3.2.2.1.2.2.1 n3.2.2.1.2.2.1;let y4:=z9 aT.1.2.2.1 aT.1.2.2.1;let y5:=z9 aT.2.1.2.2.1 aT.2.1.2.2.1;let y6:=z9 aT.2.2.1.2.2.1 aT.2.2.1.2.2.1;ae y0 (ae y1 (ae y2 (ae y3 (ae y4 (ae y5 (ae y6 (opt (pD (d.1.1,(n5.1,bP.2.1,y0),d.2)) λd=>ret (ws ((d.2.1.1,d.1.2.2,d.2.1.2),d.2.2))) no) no) no) no) no) no) (ae y1 (ae y2 (ae y3 (ae y4 (ae y5 (ae y6 (opt (pD (d.1.1,(bP.1,bP.2.1,y0),d.2)) λd=>ret (ws ((d.2.1.1,d.1.2.2,d.2.1.2),d.2.2))) no) no) no) no) no) no)) no) no) no) no) no) no) no) no) no) (ae y2 (ae y3 (ae y4 (ae y5 (ae y6 (ae y7 (opt (dR ((0,x.1.1),bP,(x.1.1,bB.1,bB.2.1,n5.1,n5.2.1,bC.1.1,bC.1.2.1,bC.1.2.2,bC.2.1,bC.2.2.1,bC.2.2.2,bB.2.2.2),(n8.1.1,n8.1.2.1,n8.1.2.2.1,n8.1.2.2.2.1,(0,n4.1),n4.2),n8.2.1,n8.2.2.1,(n4.1,n8.2.2.2.1),n6.1,n6.2.1,n1.1,n1.2.1,bh.1,bh.2.1,bh.2.2.1,n2.1,(n7,n2.2.1),n2.2.2.1,n2.2.2.2.1,n9.1,n9.2.1,n9.2.2.1,n9.2.2.2.1,n2.1.2.2,n9.2.2.2.2)) λx=>sum x (λd=>ret (ws ((d.1.2.2.2.2.2.1,d.1.2.2.2.2.2.2.2.1,d.2.1),d.2.2.2))) λx=>sum x (λd=>ret (ws ((d.1.2.2.2.2.2.1,d.2.1),d.2.2.2))) λx=>sum x (λd=>ret (ws (d.2.1,d.2.2.2))) λd=>ret (ws (d.2.1,d.2.2.2))) no) no) no) no) no) no))
def mY:=λx=>(Fj eX jm uC AZ x).val
abbrev zR:=pR×zM×jY×(LT ep iS)×(LT oV uD)
def Fk (p:zR):KK:=⟨[Dp p.1,zN p.2.1,Ds p.b.1],⟨[⟨3,(1::2::5::7::rg 9 71 []),[(3,[]),(4,[]),(5,[]),(6,[]),(7,[]),(8,[]),(9,[]),(10,[]),(11,[]),(12,[]),(13,[]),(14,[]),(15,[]),(16,[]),(17,[]),(18,[]),(19,[]),(20,[]),(21,[]),(22,[]),(0,[])]⟩],[fQ 3 21 ep U7 p.b.2.1],(rg 0 21 []),[⟨U',fQ 13 21 oV U8 p.c⟩],(some ⟨0,(rg 0 80 []),[(3,[]),(4,[]),(5,[]),(6,[]),(7,[]),(8,[]),(9,[]),(10,[]),(11,[]),(12,[]),(13,[]),(14,[]),(15,[]),(16,[]),(17,[]),(18,[]),(19,[]),(20,[]),(21,[]),(22,[]),(0,[])]⟩)⟩,21,14⟩
theorem aoP (p:zR):LI (Fk p) 3 ep U7 (AY p.b.1):=λ_ d c K=>by kernel_rfl
theorem aoQ (p:zR):JI (Fk p) 13 oV U8 (U9):=λ_ d K=>by kernel_rfl
theorem aw6 (p:zR):D2 (Fk p) pT abu λb=>Fj p.1 p.2.1 p.b.2.1 p.c b:=λb=>by kernel_rfl
abbrev Fl:zR:=(eX,jm,dQ,uC,AZ)
theorem aw7 [aA]:SC (abv mY):=sc (kS (k:=Fk Fl) (.c NC (.c ND (.c KV (.nil _)))) [3] [13] ⟨kL (aoP Fl),trivial⟩ ⟨kJ U' (aoQ Fl),trivial⟩ (aw6 Fl))
end Go.Proofs.YtldgljclcgaibaaGreat
namespace Go.Proofs.YtldgljclcgaibaaGreat
open Go.Ab Go.Ab.Pg
theorem aRD (t:Int):NH t 8000=some (t,8000, -84238486):=by kernel_rfl
theorem aDv {α:Type}{o:Option α}{v:α}(h:o=some v):Ok o (λr=>r=v):=⟨v,h,rfl⟩
theorem aOW (N:Nat)(h1:1<=N)(hN:N<=1999)(x:ov.B)(hq:x.2.1.c.1<=1998)(l0:x.c.2.1.b.1<=64)(l1:x.c.b.1.b.1<=64)(l2:x.c.b.2.1.b.1<=64)(l3:x.d.1.b.1<=64)(l4:x.d.2.1.b.1<=64)(l5:x.d.b.1.b.1<=64)(hs:x.d.c.1.1<=(N:Int))(hl:x.d.c.1.2.2<=N)(tq:Tq x.2.1.d.c.2.1 x.b.2.1.2.1.1 x.b.2.1.2.2 x.2.1.c.1 x.c.1.1):
  Ok (dQ x) (λe:rE=>e.1.c.2.1.2<=x.2.1.c.1+1/\Tq e.1.d.c.b.1 e.b.1.2.1.1 e.b.1.2.2 e.1.c.2.1.2 (λi=>e.b.2.1.2.1 (e.1.c.2.1.1+i))/\x.2.1.d.c.2.1<=e.1.d.c.b.1/\BR e.1.d.c.b.1 x.c.2.1 e.c.1/\BR e.1.d.c.b.1 x.c.b.1 e.c.2.1/\BR e.1.d.c.b.1 x.c.b.2.1 e.c.b.1/\BR e.1.d.c.b.1 x.d.1 e.c.b.2.1/\BR e.1.d.c.b.1 x.d.2.1 e.d.1/\BR e.1.d.c.b.1 x.d.b.1 e.d.2.1/\e.d.b.2.1.1=x.d.c.1.1/\e.d.b.2.1.2.2<=N):=by
 unfold dQ Dt;try dsimp only
 show PQ _ _;try dsimp only
 rw[aRD,cy];simp only[aQ,aD];with_reducible refine ax (aS0 N h1 hN _ ?_ ?_ ?_ ?_ ?_ ?_ ?_ ?_ ?_ ?_ ?_) λe _ he=> ?_
 .exact hq
 .exact l0
 .exact l1
 .exact l2
 .exact l3
 .exact l4
 .exact l5
 .exact hs
 .exact hl
 .exact tq.1
 .exact tq.2
 obtain⟨e4,eh,et,eq,b0,b1,b2,b3,b4,b5,u0,u1⟩:=he;rw[aL];refine⟨λ_=> ?_,λ_=> ?_⟩
 all_goals
  repeat rw[aD]
  refine ax (aDv (rfl:zQ _=some _)) λd _ hd=> ?_;subst hd;rw[aw];exact⟨e4,⟨eh,eq⟩,et,b0,b1,b2,b3,b4,b5,u0,u1⟩
theorem aRE (N:Nat)(h1:1<=N)(hN:N<=1999)(q:Int)(hq:q+40<=1998)(w d:ep.B)(l0:w.c.b.2.1.b.1<=64)(l1:w.d.1.b.1<=64)(l2:w.d.2.1.b.1<=64)(l3:w.d.b.1.b.1<=64)(l4:w.d.b.2.1.b.1<=64)(l5:w.d.c.1.b.1<=64)(WS:w.d.c.b.1.1<=(N:Int))(hd:0<=d.1.1/\d.1.1<=40/\((d.b.2.1.c.1.2:Nat):Int)<=q+d.1.1/\Tq d.b.2.1.d.c.2.1 d.c.2.1.2.1.1 d.c.2.1.2.2 d.b.2.1.c.1.2 (λi=>d.c.b.1.2.1 (d.b.2.1.c.1.1+i))/\w.b.2.1.d.c.2.1<=d.b.2.1.d.c.2.1/\BR d.b.2.1.d.c.2.1 w.c.b.2.1 d.c.b.2.1/\BR d.b.2.1.d.c.2.1 w.d.1 d.d.1/\BR d.b.2.1.d.c.2.1 w.d.2.1 d.d.2.1/\BR d.b.2.1.d.c.2.1 w.d.b.1 d.d.b.1/\BR d.b.2.1.d.c.2.1 w.d.b.2.1 d.d.b.2.1/\BR d.b.2.1.d.c.2.1 w.d.c.1 d.d.c.1/\d.d.c.b.1.1=w.d.c.b.1.1/\d.d.c.b.1.2.2<=N):Ok (uC d) (λx:iS=>match x with|.inl x=>((x.b.2.1.c.1.2:Nat):Int)<=q+40/\Tq x.b.2.1.d.c.2.1 x.c.2.1.2.1.1 x.c.2.1.2.2 x.b.2.1.c.1.2 (λi=>x.c.b.1.2.1 (x.b.2.1.c.1.1+i))/\w.b.2.1.d.c.2.1<=x.b.2.1.d.c.2.1/\BR x.b.2.1.d.c.2.1 w.c.b.2.1 x.c.b.2.1/\BR x.b.2.1.d.c.2.1 w.d.1 x.d.1/\BR x.b.2.1.d.c.2.1 w.d.2.1 x.d.2.1/\BR x.b.2.1.d.c.2.1 w.d.b.1 x.d.b.1/\BR x.b.2.1.d.c.2.1 w.d.b.2.1 x.d.b.2.1/\BR x.b.2.1.d.c.2.1 w.d.c.1 x.d.c.1/\x.d.c.b.1.1=w.d.c.b.1.1/\x.d.c.b.1.2.2<=N|.inr (.inl x)=>((x.b.2.1.c.1.2:Nat):Int)<=q+40/\Tq x.b.2.1.d.c.2.1 x.c.2.1.2.1.1 x.c.2.1.2.2 x.b.2.1.c.1.2 (λi=>x.c.b.1.2.1 (x.b.2.1.c.1.1+i))/\w.b.2.1.d.c.2.1<=x.b.2.1.d.c.2.1/\BR x.b.2.1.d.c.2.1 w.c.b.2.1 x.c.b.2.1/\BR x.b.2.1.d.c.2.1 w.d.1 x.d.1/\BR x.b.2.1.d.c.2.1 w.d.2.1 x.d.2.1/\BR x.b.2.1.d.c.2.1 w.d.b.1 x.d.b.1/\BR x.b.2.1.d.c.2.1 w.d.b.2.1 x.d.b.2.1/\BR x.b.2.1.d.c.2.1 w.d.c.1 x.d.c.1/\x.d.c.b.1.1=w.d.c.b.1.1/\x.d.c.b.1.2.2<=N|.inr (.inr (.inl x))=>((x.b.2.1.c.1.2:Nat):Int)<=q+40/\Tq x.b.2.1.d.c.2.1 x.c.2.1.2.1.1 x.c.2.1.2.2 x.b.2.1.c.1.2 (λi=>x.c.b.1.2.1 (x.b.2.1.c.1.1+i))/\w.b.2.1.d.c.2.1<=x.b.2.1.d.c.2.1/\BR x.b.2.1.d.c.2.1 w.c.b.2.1 x.c.b.2.1/\BR x.b.2.1.d.c.2.1 w.d.1 x.d.1/\BR x.b.2.1.d.c.2.1 w.d.2.1 x.d.2.1/\BR x.b.2.1.d.c.2.1 w.d.b.1 x.d.b.1/\BR x.b.2.1.d.c.2.1 w.d.b.2.1 x.d.b.2.1/\BR x.b.2.1.d.c.2.1 w.d.c.1 x.d.c.1/\x.d.c.b.1.1=w.d.c.b.1.1/\x.d.c.b.1.2.2<=N|.inr (.inr (.inr x))=>((x.b.2.1.c.1.2:Nat):Int)<=q+40/\Tq x.b.2.1.d.c.2.1 x.c.2.1.2.1.1 x.c.2.1.2.2 x.b.2.1.c.1.2 (λi=>x.c.b.1.2.1 (x.b.2.1.c.1.1+i))/\w.b.2.1.d.c.2.1<=x.b.2.1.d.c.2.1/\BR x.b.2.1.d.c.2.1 w.c.b.2.1 x.c.b.2.1/\BR x.b.2.1.d.c.2.1 w.d.1 x.d.1/\BR x.b.2.1.d.c.2.1 w.d.2.1 x.d.2.1/\BR x.b.2.1.d.c.2.1 w.d.b.1 x.d.b.1/\BR x.b.2.1.d.c.2.1 w.d.b.2.1 x.d.b.2.1/\BR x.b.2.1.d.c.2.1 w.d.c.1 x.d.c.1/\x.d.c.b.1.1=w.d.c.b.1.1/\x.d.c.b.1.2.2<=N):=
 qG (s:=_) (λd:ep.B=>0<=d.1.1/\d.1.1<=40/\((d.b.2.1.c.1.2:Nat):Int)<=q+d.1.1/\Tq d.b.2.1.d.c.2.1 d.c.2.1.2.1.1 d.c.2.1.2.2 d.b.2.1.c.1.2 (λi=>d.c.b.1.2.1 (d.b.2.1.c.1.1+i))/\w.b.2.1.d.c.2.1<=d.b.2.1.d.c.2.1/\BR d.b.2.1.d.c.2.1 w.c.b.2.1 d.c.b.2.1/\BR d.b.2.1.d.c.2.1 w.d.1 d.d.1/\BR d.b.2.1.d.c.2.1 w.d.2.1 d.d.2.1/\BR d.b.2.1.d.c.2.1 w.d.b.1 d.d.b.1/\BR d.b.2.1.d.c.2.1 w.d.b.2.1 d.d.b.2.1/\BR d.b.2.1.d.c.2.1 w.d.c.1 d.d.c.1/\d.d.c.b.1.1=w.d.c.b.1.1/\d.d.c.b.1.2.2<=N) (λd:ep.B=>z4 (40-d.1.1)) (λx:iS=>match x with|.inl x=>((x.b.2.1.c.1.2:Nat):Int)<=q+40/\Tq x.b.2.1.d.c.2.1 x.c.2.1.2.1.1 x.c.2.1.2.2 x.b.2.1.c.1.2 (λi=>x.c.b.1.2.1 (x.b.2.1.c.1.1+i))/\w.b.2.1.d.c.2.1<=x.b.2.1.d.c.2.1/\BR x.b.2.1.d.c.2.1 w.c.b.2.1 x.c.b.2.1/\BR x.b.2.1.d.c.2.1 w.d.1 x.d.1/\BR x.b.2.1.d.c.2.1 w.d.2.1 x.d.2.1/\BR x.b.2.1.d.c.2.1 w.d.b.1 x.d.b.1/\BR x.b.2.1.d.c.2.1 w.d.b.2.1 x.d.b.2.1/\BR x.b.2.1.d.c.2.1 w.d.c.1 x.d.c.1/\x.d.c.b.1.1=w.d.c.b.1.1/\x.d.c.b.1.2.2<=N|.inr (.inl x)=>((x.b.2.1.c.1.2:Nat):Int)<=q+40/\Tq x.b.2.1.d.c.2.1 x.c.2.1.2.1.1 x.c.2.1.2.2 x.b.2.1.c.1.2 (λi=>x.c.b.1.2.1 (x.b.2.1.c.1.1+i))/\w.b.2.1.d.c.2.1<=x.b.2.1.d.c.2.1/\BR x.b.2.1.d.c.2.1 w.c.b.2.1 x.c.b.2.1/\BR x.b.2.1.d.c.2.1 w.d.1 x.d.1/\BR x.b.2.1.d.c.2.1 w.d.2.1 x.d.2.1/\BR x.b.2.1.d.c.2.1 w.d.b.1 x.d.b.1/\BR x.b.2.1.d.c.2.1 w.d.b.2.1 x.d.b.2.1/\BR x.b.2.1.d.c.2.1 w.d.c.1 x.d.c.1/\x.d.c.b.1.1=w.d.c.b.1.1/\x.d.c.b.1.2.2<=N|.inr (.inr (.inl x))=>((x.b.2.1.c.1.2:Nat):Int)<=q+40/\Tq x.b.2.1.d.c.2.1 x.c.2.1.2.1.1 x.c.2.1.2.2 x.b.2.1.c.1.2 (λi=>x.c.b.1.2.1 (x.b.2.1.c.1.1+i))/\w.b.2.1.d.c.2.1<=x.b.2.1.d.c.2.1/\BR x.b.2.1.d.c.2.1 w.c.b.2.1 x.c.b.2.1/\BR x.b.2.1.d.c.2.1 w.d.1 x.d.1/\BR x.b.2.1.d.c.2.1 w.d.2.1 x.d.2.1/\BR x.b.2.1.d.c.2.1 w.d.b.1 x.d.b.1/\BR x.b.2.1.d.c.2.1 w.d.b.2.1 x.d.b.2.1/\BR x.b.2.1.d.c.2.1 w.d.c.1 x.d.c.1/\x.d.c.b.1.1=w.d.c.b.1.1/\x.d.c.b.1.2.2<=N|.inr (.inr (.inr x))=>((x.b.2.1.c.1.2:Nat):Int)<=q+40/\Tq x.b.2.1.d.c.2.1 x.c.2.1.2.1.1 x.c.2.1.2.2 x.b.2.1.c.1.2 (λi=>x.c.b.1.2.1 (x.b.2.1.c.1.1+i))/\w.b.2.1.d.c.2.1<=x.b.2.1.d.c.2.1/\BR x.b.2.1.d.c.2.1 w.c.b.2.1 x.c.b.2.1/\BR x.b.2.1.d.c.2.1 w.d.1 x.d.1/\BR x.b.2.1.d.c.2.1 w.d.2.1 x.d.2.1/\BR x.b.2.1.d.c.2.1 w.d.b.1 x.d.b.1/\BR x.b.2.1.d.c.2.1 w.d.b.2.1 x.d.b.2.1/\BR x.b.2.1.d.c.2.1 w.d.c.1 x.d.c.1/\x.d.c.b.1.1=w.d.c.b.1.1/\x.d.c.b.1.2.2<=N) (λd hd=>by
  obtain⟨c0,c1,i0,tq,wt,s0,s1,s2,s3,s4,s5,p0,p1⟩:=hd;unfold AY;try dsimp only
  try dsimp only
  have fin:((d.b.2.1.c.1.2:Nat):Int)<=q+40:=by omega
  rw[aL];refine⟨λ_=> ?_,λ_=>by rw[aw];exact⟨fin,tq,wt,s0,s1,s2,s3,s4,s5,p0,p1⟩⟩;rw[aL];refine⟨λh=> ?_,λ_=>by rw[aw];exact⟨fin,tq,wt,s0,s1,s2,s3,s4,s5,p0,p1⟩⟩;have h:=db h;rw[aL];refine⟨λ_=> ?_,λ_=>by rw[aw];exact⟨fin,tq,wt,s0,s1,s2,s3,s4,s5,p0,p1⟩⟩;rw[aL];refine⟨λ_=> ?_,λ_=>by rw[aw];exact⟨fin,tq,wt,s0,s1,s2,s3,s4,s5,p0,p1⟩⟩;simp only[aQ,aD];have hw:wI (d.1.1+1)=d.1.1+1:=aZ;with_reducible refine ax (aOW N h1 hN _ ?_ ?_ ?_ ?_ ?_ ?_ ?_ ?_ ?_ ?_) λe _ he=> ?_
  .show d.b.2.1.c.1.2<=1998;omega
  .exact cQ s0.len l0
  .exact cQ s1.len l1
  .exact cQ s2.len l2
  .exact cQ s3.len l3
  .exact cQ s4.len l4
  .exact cQ s5.len l5
  .show d.d.c.b.1.1<=(N:Int);rw[p0];exact WS
  .exact p1
  .exact tq
  obtain⟨e4,eq,et,b0,b1,b2,b3,b4,b5,u0,u1⟩:=he;have e4:e.1.c.2.1.2<=d.b.2.1.c.1.2+1:=e4;have et:d.b.2.1.d.c.2.1<=e.1.d.c.b.1:=et;have u0:e.d.b.2.1.1=d.d.c.b.1.1:=u0;rw[aw,hw];exact⟨⟨by show 0<=d.1.1+1;omega,by show d.1.1+1<=40;omega,by show((e.1.c.2.1.2:Nat):Int)<=q+(d.1.1+1);omega,eq,SU wt et,(s0.mono et).trans b0,(s1.mono et).trans b1,(s2.mono et).trans b2,(s3.mono et).trans b3,(s4.mono et).trans b4,(s5.mono et).trans b5,u0.trans p0,u1⟩,by show z4 (40-(d.1.1+1))<z4 (40-d.1.1);omega⟩) 2000 d hd (by omega)
theorem aOX (N:Nat)(h1:1<=N)(hN:N<=1999)(q:Int)(hq:q+40<=1998)(d:ep.B)(l0:d.c.b.2.1.b.1<=64)(l1:d.d.1.b.1<=64)(l2:d.d.2.1.b.1<=64)(l3:d.d.b.1.b.1<=64)(l4:d.d.b.2.1.b.1<=64)(l5:d.d.c.1.b.1<=64)(WS:d.d.c.b.1.1<=(N:Int))(c0:d.1.1=0)(i0:((d.b.2.1.c.1.2:Nat):Int)<=q)(tq:Tq d.b.2.1.d.c.2.1 d.c.2.1.2.1.1 d.c.2.1.2.2 d.b.2.1.c.1.2 (λi=>d.c.b.1.2.1 (d.b.2.1.c.1.1+i)))(p1:d.d.c.b.1.2.2<=N):Ok (uC d) (λx:iS=>match x with|.inl x=>((x.b.2.1.c.1.2:Nat):Int)<=q+40/\Tq x.b.2.1.d.c.2.1 x.c.2.1.2.1.1 x.c.2.1.2.2 x.b.2.1.c.1.2 (λi=>x.c.b.1.2.1 (x.b.2.1.c.1.1+i))/\d.b.2.1.d.c.2.1<=x.b.2.1.d.c.2.1/\BR x.b.2.1.d.c.2.1 d.c.b.2.1 x.c.b.2.1/\BR x.b.2.1.d.c.2.1 d.d.1 x.d.1/\BR x.b.2.1.d.c.2.1 d.d.2.1 x.d.2.1/\BR x.b.2.1.d.c.2.1 d.d.b.1 x.d.b.1/\BR x.b.2.1.d.c.2.1 d.d.b.2.1 x.d.b.2.1/\BR x.b.2.1.d.c.2.1 d.d.c.1 x.d.c.1/\x.d.c.b.1.1=d.d.c.b.1.1/\x.d.c.b.1.2.2<=N|.inr (.inl x)=>((x.b.2.1.c.1.2:Nat):Int)<=q+40/\Tq x.b.2.1.d.c.2.1 x.c.2.1.2.1.1 x.c.2.1.2.2 x.b.2.1.c.1.2 (λi=>x.c.b.1.2.1 (x.b.2.1.c.1.1+i))/\d.b.2.1.d.c.2.1<=x.b.2.1.d.c.2.1/\BR x.b.2.1.d.c.2.1 d.c.b.2.1 x.c.b.2.1/\BR x.b.2.1.d.c.2.1 d.d.1 x.d.1/\BR x.b.2.1.d.c.2.1 d.d.2.1 x.d.2.1/\BR x.b.2.1.d.c.2.1 d.d.b.1 x.d.b.1/\BR x.b.2.1.d.c.2.1 d.d.b.2.1 x.d.b.2.1/\BR x.b.2.1.d.c.2.1 d.d.c.1 x.d.c.1/\x.d.c.b.1.1=d.d.c.b.1.1/\x.d.c.b.1.2.2<=N|.inr (.inr (.inl x))=>((x.b.2.1.c.1.2:Nat):Int)<=q+40/\Tq x.b.2.1.d.c.2.1 x.c.2.1.2.1.1 x.c.2.1.2.2 x.b.2.1.c.1.2 (λi=>x.c.b.1.2.1 (x.b.2.1.c.1.1+i))/\d.b.2.1.d.c.2.1<=x.b.2.1.d.c.2.1/\BR x.b.2.1.d.c.2.1 d.c.b.2.1 x.c.b.2.1/\BR x.b.2.1.d.c.2.1 d.d.1 x.d.1/\BR x.b.2.1.d.c.2.1 d.d.2.1 x.d.2.1/\BR x.b.2.1.d.c.2.1 d.d.b.1 x.d.b.1/\BR x.b.2.1.d.c.2.1 d.d.b.2.1 x.d.b.2.1/\BR x.b.2.1.d.c.2.1 d.d.c.1 x.d.c.1/\x.d.c.b.1.1=d.d.c.b.1.1/\x.d.c.b.1.2.2<=N|.inr (.inr (.inr x))=>((x.b.2.1.c.1.2:Nat):Int)<=q+40/\Tq x.b.2.1.d.c.2.1 x.c.2.1.2.1.1 x.c.2.1.2.2 x.b.2.1.c.1.2 (λi=>x.c.b.1.2.1 (x.b.2.1.c.1.1+i))/\d.b.2.1.d.c.2.1<=x.b.2.1.d.c.2.1/\BR x.b.2.1.d.c.2.1 d.c.b.2.1 x.c.b.2.1/\BR x.b.2.1.d.c.2.1 d.d.1 x.d.1/\BR x.b.2.1.d.c.2.1 d.d.2.1 x.d.2.1/\BR x.b.2.1.d.c.2.1 d.d.b.1 x.d.b.1/\BR x.b.2.1.d.c.2.1 d.d.b.2.1 x.d.b.2.1/\BR x.b.2.1.d.c.2.1 d.d.c.1 x.d.c.1/\x.d.c.b.1.1=d.d.c.b.1.1/\x.d.c.b.1.2.2<=N):=
 aRE N h1 hN q hq d d l0 l1 l2 l3 l4 l5 WS ⟨by omega,by omega,by omega,tq,dW _,BR.refl _ _,BR.refl _ _,BR.refl _ _,BR.refl _ _,BR.refl _ _,BR.refl _ _,rfl,p1⟩
theorem a0C (N:Nat)(h1:1<=N)(hN:N<=1999)(x:pT.B)(hq:x.b.1.c.1<=1958)(l0:x.c.b.1.b.1<=64)(l1:x.c.b.2.1.b.1<=64)(l2:x.d.1.b.1<=64)(l3:x.d.2.1.b.1<=64)(l4:x.d.b.1.b.1<=64)(l5:x.d.b.2.1.b.1<=64)(hs:x.d.c.2.1.1<=(N:Int))(hl:x.d.c.2.1.2.2<=N)(tq:Tq x.b.1.d.c.2.1 x.c.1.2.1.1 x.c.1.2.2 x.b.1.c.1 x.c.2.1.1):
  Ok (mY x) (λr:tP=>match r with|.inl e=>x.1.1=1/\(e.1.2.1,e.1.2.2)=(x.b.1.1,x.b.1.2)/\e.2.1=x.b.2.1/\e.b.1=x.c.1/\e.b.2.1=x.c.2.1/\e.d.b.1=x.d.c.1/\e.d.b.2.1=x.d.c.2.1/\((¬(0<=x.1.2.1/\x.1.2.1<6)/\e.c.1=x.c.b.1/\e.c.2.1=x.c.b.2.1/\e.c.b.1=x.d.1/\e.c.b.2.1=x.d.2.1/\e.d.1=x.d.b.1/\e.d.2.1=x.d.b.2.1)∨(x.1.2.1=0/\(PR x.c.b.1 e.c.1∨SR x.c.b.1 e.c.1)/\e.c.2.1=x.c.b.2.1/\e.c.b.1=x.d.1/\e.c.b.2.1=x.d.2.1/\e.d.1=x.d.b.1/\e.d.2.1=x.d.b.2.1)∨(x.1.2.1=1/\e.c.1=x.c.b.1/\(PR x.c.b.2.1 e.c.2.1∨SR x.c.b.2.1 e.c.2.1)/\e.c.b.1=x.d.1/\e.c.b.2.1=x.d.2.1/\e.d.1=x.d.b.1/\e.d.2.1=x.d.b.2.1)∨(x.1.2.1=2/\e.c.1=x.c.b.1/\e.c.2.1=x.c.b.2.1/\(PR x.d.1 e.c.b.1∨SR x.d.1 e.c.b.1)/\e.c.b.2.1=x.d.2.1/\e.d.1=x.d.b.1/\e.d.2.1=x.d.b.2.1)∨(x.1.2.1=3/\e.c.1=x.c.b.1/\e.c.2.1=x.c.b.2.1/\e.c.b.1=x.d.1/\(PR x.d.2.1 e.c.b.2.1∨SR x.d.2.1 e.c.b.2.1)/\e.d.1=x.d.b.1/\e.d.2.1=x.d.b.2.1)∨(x.1.2.1=4/\e.c.1=x.c.b.1/\e.c.2.1=x.c.b.2.1/\e.c.b.1=x.d.1/\e.c.b.2.1=x.d.2.1/\(PR x.d.b.1 e.d.1∨SR x.d.b.1 e.d.1)/\e.d.2.1=x.d.b.2.1)∨(x.1.2.1=5/\e.c.1=x.c.b.1/\e.c.2.1=x.c.b.2.1/\e.c.b.1=x.d.1/\e.c.b.2.1=x.d.2.1/\e.d.1=x.d.b.1/\(PR x.d.b.2.1 e.d.2.1∨SR x.d.b.2.1 e.d.2.1)))|.inr e=>x.1.1≠1/\((e.2.1.c.1.2:Nat):Int)<=x.b.1.c.1+40/\Tq e.2.1.d.c.2.1 e.b.2.1.2.1.1 e.b.2.1.2.2 e.2.1.c.1.2 (λi=>e.c.1.2.1 (e.2.1.c.1.1+i))/\x.b.1.d.c.2.1<=e.2.1.d.c.2.1/\BR e.2.1.d.c.2.1 x.c.b.1 e.c.2.1/\BR e.2.1.d.c.2.1 x.c.b.2.1 e.c.b.1/\BR e.2.1.d.c.2.1 x.d.1 e.c.b.2.1/\BR e.2.1.d.c.2.1 x.d.2.1 e.d.1/\BR e.2.1.d.c.2.1 x.d.b.1 e.d.2.1/\BR e.2.1.d.c.2.1 x.d.b.2.1 e.d.b.1/\e.d.c.1.1=x.d.c.2.1.1/\e.d.c.1.2.2<=N):=by
 unfold mY Fj;try dsimp only
 show PQ _ _;try dsimp only
 simp only[aQ,aD];rw[aL];refine⟨λo1=> ?_,λo1=> ?_⟩
 .have o1:=eq_of_beq o1;repeat rw[aD]
  with_reducible refine ax (aGF _ ?_ ?_ ?_ ?_ ?_ ?_) λe _ he=> ?_
  .exact cQ l0 (by decide)
  .exact cQ l1 (by decide)
  .exact cQ l2 (by decide)
  .exact cQ l3 (by decide)
  .exact cQ l4 (by decide)
  .exact cQ l5 (by decide)
  obtain⟨f1,f2,f3,f4,f11,f12,f13,f20,CH⟩:=he;rw[aw];exact⟨o1,by show(e.2.1.1,e.2.1.2)=_;rw[f1],f2,f3,f4,f11,f12,CH⟩
 have o1:=aEg o1;rw[aL];refine⟨λ_=> ?_,λ_=> ?_⟩
 .repeat rw[aD]
  with_reducible refine ax (aS0 N h1 hN _ ?_ ?_ ?_ ?_ ?_ ?_ ?_ ?_ ?_ ?_ ?_) λe _ he=> ?_
  .exact cQ hq (by decide)
  .exact l0
  .exact l1
  .exact l2
  .exact l3
  .exact l4
  .exact l5
  .exact hs
  .exact hl
  .exact tq.1
  .exact tq.2
  obtain⟨e4,eh,et,eq,b0,b1,b2,b3,b4,b5,u0,u1⟩:=he;have e4:e.2.1.c.1.2<=x.b.1.c.1+1:=e4;have e5:((e.2.1.c.1.2:Nat):Int)<=x.b.1.c.1+40:=by omega
  rw[aL];refine⟨λ_=> ?_,λ_=> ?_⟩
  all_goals
   repeat rw[aD]
   refine ax (aDv (rfl:AZ _=some _)) λd _ hd=> ?_;subst hd;rw[aw];exact⟨o1,e5,⟨eh,eq⟩,et,b0,b1,b2,b3,b4,b5,u0,u1⟩
 .repeat rw[aD]
  with_reducible refine ax (aOX N h1 hN x.b.1.c.1 (by omega) _ l0 l1 l2 l3 l4 l5 hs ?_ ?_ ?_ ?_) λy _ hy=> ?_
  .rfl
  .show((x.b.1.c.1:Nat):Int)<=x.b.1.c.1;omega
  .exact⟨tq.1,tq.2.up (dW _) (λi=>by show x.c.2.1.1 (0+i)=_;rw[gD])⟩
  .exact hl
  rw[tw];refine⟨λa ha=> ?_,λa ha=> ?_⟩
  .subst ha;rw[aw];exact⟨o1,hy⟩
  rw[tw];refine⟨λb hb=> ?_,λb hb=> ?_⟩
  .subst ha;subst hb;rw[aw];exact⟨o1,hy⟩
  rw[tw];refine⟨λc hc=> ?_,λc hc=> ?_⟩
  .subst ha;subst hb;subst hc;rw[aw];exact⟨o1,hy⟩
  .subst ha;subst hb;subst hc;rw[aw];exact⟨o1,hy⟩
theorem aS1 (x:ov.B)(h:GF x.2.1.b.1 x.2.1.b.2.1 x.2.1.c.2.1 x.2.1.d.c.b.2.1):Po (dQ x) (λe:rE=>GF e.1.b.2.1 e.1.c.1 e.1.c.b.1 e.1.e.1):=by
 unfold dQ Dt;try dsimp only
 show PW _ _;try dsimp only
 repeat' (first
   |(rw[du];exact trivial)
   |(with_reducible refine aK (aY6 _ ?_) λe _ he=> ?_)
   |(refine aK (aDv (rfl:zQ _=some _)).po λd _ hd=> ?_)
   |(rw[qw];refine⟨λe0 e1=> ?_,λe0 e1=> ?_⟩<;>subst e1)
   |(rw[lx];refine⟨λe0 e1=> ?_,λe0 e1=> ?_⟩<;>subst e1)
   |(rw[bD];refine⟨λ_=> ?_,λ_=> ?_⟩)
   |(rw[bQ];intro _ _))
 all_goals first
   |exact h
   |(subst hd;rw[ba];exact he)
theorem aUD (d:ep.B)(hd:GF d.b.2.1.b.1 d.b.2.1.b.2.1 d.b.2.1.c.2.1 d.b.2.1.d.c.b.2.1):Po (uC d) (λx:iS=>match x with|.inl x=>GF x.b.2.1.b.1 x.b.2.1.b.2.1 x.b.2.1.c.2.1 x.b.2.1.d.c.b.2.1|.inr (.inl x)=>GF x.b.2.1.b.1 x.b.2.1.b.2.1 x.b.2.1.c.2.1 x.b.2.1.d.c.b.2.1|.inr (.inr (.inl x))=>GF x.b.2.1.b.1 x.b.2.1.b.2.1 x.b.2.1.c.2.1 x.b.2.1.d.c.b.2.1|.inr (.inr (.inr x))=>GF x.b.2.1.b.1 x.b.2.1.b.2.1 x.b.2.1.c.2.1 x.b.2.1.d.c.b.2.1):=
 Ri (s:=_) (λd:ep.B=>GF d.b.2.1.b.1 d.b.2.1.b.2.1 d.b.2.1.c.2.1 d.b.2.1.d.c.b.2.1) (λx:iS=>match x with|.inl x=>GF x.b.2.1.b.1 x.b.2.1.b.2.1 x.b.2.1.c.2.1 x.b.2.1.d.c.b.2.1|.inr (.inl x)=>GF x.b.2.1.b.1 x.b.2.1.b.2.1 x.b.2.1.c.2.1 x.b.2.1.d.c.b.2.1|.inr (.inr (.inl x))=>GF x.b.2.1.b.1 x.b.2.1.b.2.1 x.b.2.1.c.2.1 x.b.2.1.d.c.b.2.1|.inr (.inr (.inr x))=>GF x.b.2.1.b.1 x.b.2.1.b.2.1 x.b.2.1.c.2.1 x.b.2.1.d.c.b.2.1) (λd hd=>by
  unfold AY;try dsimp only
  try dsimp only
  repeat' (first
   |(rw[du];exact trivial)
   |(with_reducible refine aK (aS1 _ ?_) λe _ he=> ?_)
   |(rw[qw];refine⟨λe0 e1=> ?_,λe0 e1=> ?_⟩<;>subst e1)
   |(rw[lx];refine⟨λe0 e1=> ?_,λe0 e1=> ?_⟩<;>subst e1)
   |(rw[bD];refine⟨λ_=> ?_,λ_=> ?_⟩)
   |(rw[bQ];intro _ _))
  all_goals first
   |exact hd
   |(rw[ba];first|exact hd|exact he)) 2000 d hd
theorem a2n (x:pT.B)(h:GF x.b.1.b.1 x.b.1.b.2.1 x.b.1.c.2.1 x.b.1.d.c.b.2.1):Po (mY x) (λr:tP=>match r with|.inl e=>GF e.1.b.2.1 e.1.c.1 e.1.c.b.1 e.1.e.1|.inr e=>GF e.2.1.b.1 e.2.1.b.2.1 e.2.1.c.2.1 e.2.1.d.c.b.2.1):=by
 unfold mY Fj;try dsimp only
 show PW _ _;try dsimp only
 repeat' (first
   |(rw[du];exact trivial)
   |(with_reducible refine aK (aUy _) λe _ hs=> ?_)
   |(with_reducible refine aK (aY6 _ ?_) λe _ he=> ?_)
   |(with_reducible refine aK (aUD _ ?_) λe _ he=> ?_)
   |(refine aK (aDv (rfl:AZ _=some _)).po λd _ hd=> ?_)
   |(rw[qw];refine⟨λe0 e1=> ?_,λe0 e1=> ?_⟩<;>subst e1)
   |(rw[lx];refine⟨λe0 e1=> ?_,λe0 e1=> ?_⟩<;>subst e1)
   |(rw[bD];refine⟨λ_=> ?_,λ_=> ?_⟩)
   |(rw[bQ];intro _ _))
 all_goals first
   |exact h
   |(rw[ba]
     first
      |exact he
      |(subst hd;exact he)
      |(obtain⟨h1,_,_⟩:=hs;show GF e.2.1.b.1 e.2.1.b.2.1 e.2.1.c.2.1 e.2.1.d.c.b.2.1;rw[h1];exact h))
end Go.Proofs.YtldgljclcgaibaaGreat
namespace Go.Proofs.YtldgljclcgaibaaGreat
open Go.Ab
def tn (j:Nat):Nat:=j*(j-1)/2
theorem a2u:∀j j':Fin 25,j.val<j'.val->tn j.val+j.val<=tn j'.val:=by decide
theorem a2v {j j':Nat}(h:j<j')(h2:j'<=24):tn j+j<=tn j':=a2u ⟨j,by omega⟩ ⟨j',by omega⟩ h
theorem a2w:tn 24=276:=by decide
def pos (i j:Nat):Nat:=tn j+i
theorem aDx {i j:Nat}(h:i<j)(h2:j<24):pos i j<276:=by
 have:=a2v h2 (by omega);rw[a2w] at this;unfold pos;omega
theorem aUH (i j:Int)(h:¬(0<=i/\i<j/\j<24)):∃a,fx i j=some (a,false):=by
 simp only[fx,yS,Pg.bS,Pg.bM,Pg.ck,Pg.dX,Pg.dt];try delta wI wU
 by_cases a:i>=0
 .rw[dy a,bo];by_cases b:i<j
  .rw[dy b,bo,cE (show ¬j<24 by omega)];exact⟨_,rfl⟩
  .rw[cE b,bq];exact⟨_,rfl⟩
 .rw[cE a,bq];exact⟨_,rfl⟩
theorem aRJ (i j:Nat)(h:i<j)(h2:j<24):fx (i:Int) (j:Int)=some ((pos i j:Int),true):=by
 have key:∀j:Fin 24,IntKind.wrap .i64 (Int.tdiv (IntKind.wrap .i64 ((j.val:Int)*IntKind.wrap .i64 ((j.val:Int)-1))) 2)=(tn j.val:Int):=by decide+kernel
 simp only[fx,yS,Pg.bS,Pg.bM,Pg.ck,Pg.dX,Pg.dt];try delta wI wU
 rw[dy (show(i:Int)>=0 by omega),bo,dy (show(i:Int)<j by omega),bo,show IntKind.wrap .i64 (Int.tdiv (IntKind.wrap .i64 ((j:Int)*IntKind.wrap .i64 ((j:Int)-1))) 2)=(tn j:Int) from key ⟨j,h2⟩,dy (show(j:Int)<24 by omega)];have:=aDx h h2;unfold pos at*;rw[wrap_i64 (by omega) (by omega),Int.natCast_add]
def uV (f:Nat->Int)(i j:Int):Int:=if i=j/\0<=i/\i<24 then 1073741824 else if 0<=i/\i<j/\j<24 then f (pos i.toNat j.toNat) else 0
theorem a3Y {n m:Nat}(h:n<m):wl (0+n*1+1) m=true:=axF (by omega)
theorem aUI (f g:Nat->Int)(i j:Int):wA f g i j=some (uV f i j):=by
 have rest:(Option.bind (fx i j) λ(d:Int×Bool)=>bif !d.2 then some 0 else bif bg d.1 276 then bif wl (0+z4 d.1*1+1) 276 then some (f (z4 d.1)) else none else none)=some (if 0<=i/\i<j/\j<24 then f (pos i.toNat j.toNat) else 0):=by
  by_cases c:0<=i/\i<j/\j<24
  .obtain⟨a,rfl⟩:∃a:Nat,i=(a:Int):=⟨i.toNat,by omega⟩;obtain⟨b,rfl⟩:∃b:Nat,j=(b:Int):=⟨j.toNat,by omega⟩;have h1:a<b:=by omega
   have h2:b<24:=by omega
   rw[aRJ a b h1 h2,if_pos c,bG];have e:bg ((pos a b:Nat):Int) 276=true:=aaS (aDx h1 h2);simp only[HZ,bq,e,bo,HY,a3Y (aDx h1 h2)]
  .obtain⟨a,e⟩:=aUH i j c;rw[e,if_neg c,bG];rfl
 simp only[wA,amd,Pg.bS,Pg.bM,Pg.ck,Pg.dX,Pg.dt];unfold uV;by_cases c:i=j
 .have e:(i==j)=true:=by simp[c]
  rw[e,bo];by_cases d:i>=0
  .rw[dy d,bo];by_cases g:i<24
   .rw[dy g,bo,if_pos ⟨c,by omega,g⟩]
   .rw[cE g,bq,if_neg (by omega)];exact rest
  .rw[cE d,bq,if_neg (by omega)];exact rest
 .have e:(i==j)=false:=by simp[c]
  rw[e,bq,if_neg (by omega)];exact rest
theorem aO2 {j m:Nat}(h:j≠m):z9 j m=false:=by
 cases e:z9 j m with
 |false=>rfl
 |true=>exact absurd (lB e) h
theorem aJI {f g:Nat->Int}{n:Nat}(h:∀j,j<n->f j=g j):eJ f n=eJ g n:=by
 induction n with
 |zero=>rfl
 |succ n ih=>rw[eJ,eJ,ih λj hj=>h j (by omega),h n (by omega)]
theorem aUJ {f g:Nat->Bool}{n:Nat}(h:∀j,j<n->f j=g j):mA f n=mA g n:=by
 induction n with
 |zero=>rfl
 |succ n ih=>rw[mA,mA,ih λj hj=>h j (by omega),h n (by omega)]
def xV (f g:Nat->Int)(j:Int)(k:Nat):Int:=rS (sat (uV f j k)*sat (g k)) 30
def xO (f g:Nat->Int)(j:Int)(k:Nat):Bool:=dq (uV f j k)||dq (g k)||dq (xV f g j k)
def atS (f g:Nat->Int)(i j:Int)(m n:Nat):Int:=eJ (λk=>sat (uV f i ((m+k:Nat):Int))*sat (sat (xV f g j (m+k)))) n
def atO (f g:Nat->Int)(i j:Int)(m n:Nat):Bool:=mA (λk=>dq (uV f i ((m+k:Nat):Int))||dq (sat (xV f g j (m+k)))) n
theorem auk (f g:Nat->Int)(i j:Int)(m:Nat)(eA:Bool)(h0:0<=i)(h1:0<=j)(h2:(if j>i then j else i)=(m:Int))(h3:m<24):
  BN f g i j eA=some (sat (rS (atS f g i j m (24-m)) 30),((eA||mA (λk=>xO f g j (m+k)) (24-m))||atO f g i j m (24-m))||dq (rS (atS f g i j m (24-m)) 30)):=by
 simp only[BN,azk,Pg.bS,Pg.bM,Pg.ck,Pg.dX,Pg.dt];try delta wI wU
 unfold aoL;rw[cE (show ¬(if j<i then j else i)<0 by split<;>omega),bq,h2,cE (show ¬(m:Int)>=24 by omega),bq,bo]
 refine FI (λt d=>∃(n:Nat) (u x:Nat->Int),m+n+t=24/\(∀k,k<n->u k=uV f i ((m+k:Nat):Int))/\(∀k,k<n->x k=sat (xV f g j (m+k)))/\
   d=((i,j,n,n,((m+n:Nat):Int)),(eA||mA (λk=>xO f g j (m+k)) n),(f,g),u,n,x)) ?_ 2000 (24-m) _ (by omega)
  ⟨0,λ_=>0,λ_=>0,by omega,(λk hk=>by omega),(λk hk=>by omega),by simp only[mA,LL];rfl⟩
 rintro t _ c ⟨n,u,x,hn,hu,hx,rfl⟩ hc
 rcases SO t with t0|t0
 .have e:n=24-m:=by omega
  have z:decide (((m+n:Nat):Int)<24)=false:=cE (by omega);simp only[abq,Pg.px,Pg.py,Pg.si,Pg.yJ,Pg.pA,mK,jI,z,bq,FE,bo];rw[show(30:Int)=wr 30 from rfl,aF0 30 (by omega) n (by omega),bG];have s1:eJ (λk=>sat (u k)*sat (x k)) n=atS f g i j m n:=aJI λk hk=>by rw[hu k hk,hx k hk]
  have s2:mA (λk=>dq (u k)||dq (x k)) n=atO f g i j m n:=aUJ λk hk=>by rw[hu k hk,hx k hk]
  rw[s1,s2,e]
 .have z:decide (((m+n:Nat):Int)<24)=true:=dy (by omega);have b1:wl ((n+1)*8) 140737488355328=true:=axF (by omega);have b2:bg ((m+n:Nat):Int) 24=true:=aaS (show m+n<24 by omega);have b3:IntKind.wrap .i64 (((m+n:Nat):Int)+1)=((m+(n+1):Nat):Int):=(wrap_i64 (by omega) (by omega)).trans (by omega);have b4:z4 ((m+n:Nat):Int)=m+n:=HY _;have mu:=aFZ (uV f j ((m+n:Nat):Int)) (g (m+n)) 30 (eA||mA (λk=>xO f g j (m+k)) n) (by omega);rw[show wr 30=30 from rfl] at mu;simp only[abq,Pg.px,Pg.py,Pg.si,Pg.yJ,Pg.pA,mK,jI,wI,z,bo,aUI,bG,b1,b2,b3,b4,mu];refine hc (t-1) _ (by omega) ⟨n+1,(λk=>bif z9 k n then uV f i ((m+n:Nat):Int) else u k),(λk=>bif z9 k n then sat (rS (sat (uV f j ((m+n:Nat):Int))*sat (g (m+n))) 30) else x k),by omega,?_,?_,?_⟩
  .intro k hk;simp only;rcases mJ k n with c|c
   .rw[aO2 (show k≠n by omega),bq];exact hu k c
   .obtain rfl:k=n:=by omega
    rw[FE,bo]
  .intro k hk;simp only;rcases mJ k n with c|c
   .rw[aO2 (show k≠n by omega),bq];exact hx k c
   .obtain rfl:k=n:=by omega
    rw[FE,bo];rfl
  .have e:(eA||mA (λk=>xO f g j (m+k)) n||dq (uV f j ((m+n:Nat):Int))||dq (g (m+n))||dq (rS (sat (uV f j ((m+n:Nat):Int))*sat (g (m+n))) 30))=(eA||mA (λk=>xO f g j (m+k)) (n+1)):=by
    simp only[mA,xO,xV,Bool.or_assoc]
   rw[e]
open Go.Ab Go.Ab.Pg
theorem afz (v:Int):2*(rS v 30*1073741824-v)<=1073741824/\2*(v-rS v 30*1073741824)<=1073741824:=by
 have hh:half 30=536870912:=by decide
 have hp:(2:Int)^30=1073741824:=by decide
 unfold rS;rw[hh,hp];split<;>omega
theorem azr (v:Int):(0<=v->0<=rS v 30)/\(v<=0->rS v 30<=0):=by
 have hh:half 30=536870912:=by decide
 have hp:(2:Int)^30=1073741824:=by decide
 unfold rS;rw[hh,hp];split<;>omega
theorem aZf {u D:Int}(hD:0<=D):0<=u*rS (u*D) 30:=by
 have s:=azr (u*D);rcases Wk 0 u with h|h
 .exact pj h (s.1 (pj h hD))
 .exact Int.mul_nonneg_of_nonpos_of_nonpos h (s.2 (Int.mul_nonpos_of_nonpos_of_nonneg h hD))
theorem aoU {u e B:Int}(hu: -B<=u/\u<=B)(he: -536870912<=e/\e<=536870912): -(B*536870912)<=u*e/\u*e<=B*536870912:=by
 have a:=pj (a:=B-u) (b:=536870912+e) (by omega) (by omega);have b:=pj (a:=B+u) (b:=536870912-e) (by omega) (by omega);have c:=pj (a:=B-u) (b:=536870912-e) (by omega) (by omega);have d:=pj (a:=B+u) (b:=536870912+e) (by omega) (by omega);have ea:(B-u)*(536870912+e)=B*536870912+B*e-u*536870912-u*e:=by grind
 have eb:(B+u)*(536870912-e)=B*536870912-B*e+u*536870912-u*e:=by grind
 have ec:(B-u)*(536870912-e)=B*536870912-B*e-u*536870912+u*e:=by grind
 have ed:(B+u)*(536870912+e)=B*536870912+B*e+u*536870912+u*e:=by grind
 omega
theorem aZg {u w D:Int}(hD:0<=D)(hu: -1125899906842624<=u/\u<=1125899906842624)(hw: -1125899906842624<=w/\w<=1125899906842624):
  2*(u*rS (w*D) 30)<=u*rS (u*D) 30+w*rS (w*D) 30+2251799813685248/\ -(u*rS (u*D) 30+w*rS (w*D) 30+2251799813685248)<=2*(u*rS (w*D) 30):=by
 have n1:=afz (u*D);have n2:=afz (w*D);generalize hy:rS (u*D) 30=y at*
 generalize hz:rS (w*D) 30=z at*
 obtain⟨e,he⟩:∃e,y*1073741824=u*D+e:=⟨y*1073741824-u*D,by omega⟩;obtain⟨f,hf⟩:∃f,z*1073741824=w*D+f:=⟨z*1073741824-w*D,by omega⟩;have b1:=aoU hu (e:=f) (by omega);have b2:=aoU hu (e:=e) (by omega);have b3:=aoU hw (e:=f) (by omega);have p1:=pj hD (qE (u-w));have p2:=pj hD (qE (u+w));have e1:D*((u-w)*(u-w))=u*(u*D)-2*(u*(w*D))+w*(w*D):=by grind
 have e2:D*((u+w)*(u+w))=u*(u*D)+2*(u*(w*D))+w*(w*D):=by grind
 have m1:1073741824*(u*z)=u*(w*D)+u*f:=by
  have:1073741824*(u*z)=u*(z*1073741824):=by grind
  rw[this,hf];grind
 have m2:1073741824*(u*y)=u*(u*D)+u*e:=by
  have:1073741824*(u*y)=u*(y*1073741824):=by grind
  rw[this,he];grind
 have m3:1073741824*(w*z)=w*(w*D)+w*f:=by
  have:1073741824*(w*z)=w*(z*1073741824):=by grind
  rw[this,hf];grind
 rw[e1] at p1;rw[e2] at p2;generalize u*z=uz at*
 generalize u*y=uy at*
 generalize w*z=wz at*
 generalize u*(w*D)=a at*
 generalize u*(u*D)=b at*
 generalize w*(w*D)=c at*
 generalize u*f=k1 at*
 generalize u*e=k2 at*
 generalize w*f=k3 at*
 omega
theorem aB3 (F:Nat->Int)(a:Nat):∀b,eJ F (a+b)=eJ F a+eJ (λk=>F (a+k)) b
 |0=>by rw[jH,eJ,Int.add_zero]
 |b+1=>by rw[<-A6,eJ,aB3 F a b,eJ,Int.add_assoc]
theorem aGV (F G H:Nat->Int)(C:Int):∀n,(∀k,k<n->2*F k<=G k+H k+C/\ -(G k+H k+C)<=2*F k)->2*eJ F n<=eJ G n+eJ H n+n*C/\ -(eJ G n+eJ H n+n*C)<=2*eJ F n
 |0,_=>by simp only[eJ];omega
 |n+1,h=>by
  have a:=aGV F G H C n λk hk=>h k (by omega)
  have b:=h n (by omega);have e:(((n+1:Nat):Int))*C=n*C+C:=by rw[Int.natCast_add,Vd];simp
  simp only[eJ];rw[e];omega
def tm (f g:Nat->Int)(i j k:Nat):Int:=uV f i k*rS (uV f j k*g k) 30
theorem aUK (f g:Nat->Int)(i j m:Nat)(hi:i<=m)(hj:j<=m)(hm:m<24)(hU:∀a b:Nat, -1125899906842624<=uV f a b/\uV f a b<=1125899906842624)(hD:∀k,k<24->0<=g k):
  2*eJ (λk=>tm f g i j (m+k)) (24-m)<=eJ (λk=>tm f g i i (i+k)) (24-i)+eJ (λk=>tm f g j j (j+k)) (24-j)+54043195528445952/\
  -(eJ (λk=>tm f g i i (i+k)) (24-i)+eJ (λk=>tm f g j j (j+k)) (24-j)+54043195528445952)<=2*eJ (λk=>tm f g i j (m+k)) (24-m):=by
 have key:∀i:Nat,i<=m->eJ (λk=>tm f g i i (m+k)) (24-m)<=eJ (λk=>tm f g i i (i+k)) (24-i):=λi hi=>by
  have e:24-i=(m-i)+(24-m):=by omega
  rw[e,aB3]
  have e2:(λk=>tm f g i i (i+(m-i+k)))=λk=>tm f g i i (m+k):=by
   funext k
   rw[show i+(m-i+k)=m+k by omega]
  rw[e2]
  have nn:0<=eJ (λk=>tm f g i i (i+k)) (m-i):=by
   have:∀n,n<=m-i->0<=eJ (λk=>tm f g i i (i+k)) n:=λn=>by
    induction n with
    |zero=>intro _;exact dW _
    |succ n ih=>
     intro h;have:=ih (by omega);have t0:0<=tm f g i i (i+n):=aZf (u:=uV f i (i+n:Nat)) (hD (i+n) (by omega));rw[eJ];omega
   exact this _ (cR _)
  omega
 have a:=key i hi;have b:=key j hj;have c:=aGV (λk=>tm f g i j (m+k)) (λk=>tm f g i i (m+k)) (λk=>tm f g j j (m+k)) 2251799813685248 (24-m) (λk hk=>aZg (hD (m+k) (by omega)) (hU _ _) (hU _ _));have d:((24-m:Nat):Int)*2251799813685248<=24*2251799813685248:=Wf (by omega) (by omega);omega
theorem a2x {f:Nat->Int}(h:∀n,n<276-> -1125899906842624<=f n/\f n<=1125899906842624)(a b:Nat): -1125899906842624<=uV f a b/\uV f a b<=1125899906842624:=by
 unfold uV;split
 .decide
 split
 .rename_i h1 h2
  exact h _ (aDx (by omega) (by omega))
 .decide
theorem azs {f:Nat->Bool}:∀{n:Nat},mA f n=false->∀k,k<n->f k=false
 |n+1,h,k,hk=>by
  rw[mA,Bool.or_eq_false_iff] at h;rcases mJ k n with c|c
  .exact azs h.1 k c
  .obtain rfl:k=n:=by omega
   exact h.2
theorem afA {x:Int}(h:dq x=false):sat x=x:=by
 unfold dq at h;rw[Bool.or_eq_false_iff] at h;have a:=kD h.1;have b:=kD h.2;exact(Hh ⟨by omega,by omega⟩).1
theorem azt (f g:Nat->Int)(i j m:Nat)(c:Bool)(d:Int×Bool)(h2:(if (j:Int)>i then(j:Int) else i)=(m:Int))(h3:m<24)(e:BN f g i j c=some d)(h:d.2=false):
  d.1=rS (eJ (λk=>tm f g i j (m+k)) (24-m)) 30/\c=false/\ -1152921504606846976<=d.1/\d.1<=1152921504606846976:=by
 rw[auk f g i j m c (by omega) (by omega) h2 h3] at e;have e:=Ka e;subst e;have h:(((c||mA (λk=>xO f g j (m+k)) (24-m))||atO f g i j m (24-m))||dq (rS (atS f g i j m (24-m)) 30))=false:=h;rw[Bool.or_eq_false_iff,Bool.or_eq_false_iff,Bool.or_eq_false_iff] at h;obtain⟨⟨⟨h1,h2⟩,h3⟩,h4⟩:=h
 have s:atS f g i j m (24-m)=eJ (λk=>tm f g i j (m+k)) (24-m):=by
  unfold atS;refine aJI λk hk=> ?_;have a:=azs h2 k hk;have b:=azs h3 k hk;unfold xO at a;rw[Bool.or_eq_false_iff,Bool.or_eq_false_iff] at a;have b:=(Bool.or_eq_false_iff.mp b).1;have e1:=afA b;have e2:=afA a.1.1;have e3:=afA a.1.2;have e4:=afA a.2;show sat (uV f i ((m+k:Nat):Int))*sat (sat (xV f g j (m+k)))=tm f g i j (m+k);rw[e1,e4,e4];unfold xV tm;rw[e2,e3]
 refine⟨?_,h1,?_⟩
 .show sat (rS (atS f g i j m (24-m)) 30)=_;rw[afA h4,s]
 .exact ly _
theorem a0H (f g:Nat->Int)(i j m:Nat)(c:Bool)(x a b:Int×Bool)(hm:(if (j:Int)>i then(j:Int) else i)=(m:Int))(h3:m<24)
  (ex:BN f g i j c=some x)(ea:BN f g i i x.2=some a)(eb:BN f g j j a.2=some b)(hb:b.2=false)
  (hU:∀n,n<276-> -1125899906842624<=f n/\f n<=1125899906842624)(hD:∀k,k<24->0<=g k):
  2*x.1<=a.1+b.1+4294967296/\ -(a.1+b.1+4294967296)<=2*x.1/\ -1152921504606846976<=x.1/\x.1<=1152921504606846976/\ -1152921504606846976<=a.1/\a.1<=1152921504606846976/\ -1152921504606846976<=b.1/\b.1<=1152921504606846976:=by
 have him:i<=m/\j<=m:=by
  split at hm<;>omega
 obtain⟨b1,b2,b3,b4⟩:=azt f g j j j a.2 b (by rw[if_neg (by omega)]) (by omega) eb hb;obtain⟨a1,a2,a3,a4⟩:=azt f g i i i x.2 a (by rw[if_neg (by omega)]) (by omega) ea b2;obtain⟨x1,x2,x3,x4⟩:=azt f g i j m c x hm h3 ex a2;have s:=aUK f g i j m him.1 him.2 h3 (a2x hU) hD;have n1:=afz (eJ (λk=>tm f g i j (m+k)) (24-m));have n2:=afz (eJ (λk=>tm f g i i (i+k)) (24-i));have n3:=afz (eJ (λk=>tm f g j j (j+k)) (24-j));rw[<-x1] at n1;rw[<-a1] at n2;rw[<-b1] at n3;generalize eJ (λk=>tm f g i j (m+k)) (24-m)=S1 at*
 generalize eJ (λk=>tm f g i i (i+k)) (24-i)=S2 at*
 generalize eJ (λk=>tm f g j j (j+k)) (24-j)=S3 at*
 refine⟨by omega,by omega,x3,x4,a3,a4,b3,b4⟩
theorem aZh (f g:Nat->Int)(i:Nat)(hi:i<24)(c:Bool)(d:Int×Bool)(e:BN f g i i c=some d)(hD:∀k,k<24->0<=g k):0<=d.1:=by
 rw[auk f g i i i c (by omega) (by omega) (by rw[if_neg (by omega)]) hi] at e;have e:=Ka e;subst e;show 0<=sat (rS (atS f g i i i (24-i)) 30);have ss:∀x:Int,0<=x->0<=sat x:=λx h=>by unfold sat;split<;>(try split)<;>omega
 have sn:∀x:Int,x<=0->sat x<=0:=λx h=>by unfold sat;split<;>(try split)<;>omega
 refine ss _ ((azr _).1 ?_);unfold atS
 have:∀n,n<=24-i->0<=eJ (λk=>sat (uV f i ((i+k:Nat):Int))*sat (sat (xV f g i (i+k)))) n:=λn=>by
  induction n with
  |zero=>intro _;exact dW _
  |succ n ih=>
   intro h;have a:=ih (by omega);have d:=ss _ (hD (i+n) (by omega))
   have b:0<=sat (uV f i ((i+n:Nat):Int))*sat (sat (xV f g i (i+n))):=by
    unfold xV;generalize sat (uV f i ((i+n:Nat):Int))=u at*
    generalize sat (g (i+n))=D at*
    have s:=azr (u*D);rcases Wk 0 u with h|h
    .exact pj h (ss _ (ss _ (s.1 (pj h d))))
    .exact Int.mul_nonneg_of_nonpos_of_nonpos h (sn _ (sn _ (s.2 (Int.mul_nonpos_of_nonpos_of_nonneg h d))))
   rw[eJ];omega
 exact this _ (cR _)
end Go.Proofs.YtldgljclcgaibaaGreat
