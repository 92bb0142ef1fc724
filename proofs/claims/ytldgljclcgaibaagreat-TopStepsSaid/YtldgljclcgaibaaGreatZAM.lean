/-
  Parts of the proof: QS TSm Q7 TIm TGi Q8 Q9 TRn N1 N2 TAk TGt THa TSb PTS TGp TRu
-/
import Derived.Test.YtldgljclcgaibaaGreatZAE
import Derived.Test.YtldgljclcgaibaaGreatZAJ
import Derived.Test.YtldgljclcgaibaaGreatZAK
import Derived.Test.YtldgljclcgaibaaGreatZAL
open Nat renaming beq→z9,ble→wr
open Int renaming toNat→z4,ofNat→ws,fdiv→v9
open Sum renaming inl→w7,inr→ww,elim→v4
open BitVec renaming ofInt→wn,toNat→wd
set_option linter.unusedVariables false
set_option linter.unusedSimpArgs false
set_option maxRecDepth 100000
set_option maxHeartbeats 4000000
noncomputable section
namespace Go.Proofs.YtldgljclcgaibaaGreat
open Go.Ab Go.Ab.Pg Go.Ab.Rq
def ko:=qa (pr (cu jq (c ai Ey)) (cd wQ λb0=>(c m6 (c oG (c (cl (gs b0.c.1 pK) nil) (cd yd λb4=>(cd rb λb5=>(cd re λb6=>(cd rf λb7=>(cd rj λb8=>(cd rm λb9=>(c nK (cd Ap λBV=>(c (cl (gs b0.e mN) nil) (c (cl (gs b4.b.1 aC) nil) (c (cl (gs b5.b.1 aC) nil) (c (cl (gs b6.b.1 aC) nil) (c (cl (gs b7.b.1 aC) nil) (c (cl (gs b8.b.1 aC) nil) (c (cl (gs b9.b.1 aC) nil) (cl (cl (gs BV.b jJ) nil) nil)))))))))))))))))))))
def afw:=qe (res (pr ab (pr (cl (An (a 26 rn (c gb (c gK (a 2 sU (cu (gp 20 5) (cu (gp 21 10) (c (gc (fO (pu aIx (pu (ox (pu db (pu db Bi))) (pl gT (pu Bi fR)))))) aYN)))))))) aEf) aYU)))
abbrev qu:=(Bool×(GJ×Bool×NI×(NI×NI)×Nat×se×Bool×Int×lJ×Bool×Bool×Bool×Int×Int×Int×Fv×Nat)×(lJ×Int×Int)×NQ×aWR×bY×bY×bY×bY×bY×bY×Lw×uG×aMW×Fw×Fw×Fw×Fw×Fw×Fw×NI×NI×NI×NI×NI×NI×NI×NI×NI×NI×NI)
def NA:qu->T:=λd=>lf afw (d.1,d.2.1,d.b.1,d.b.2.1,(d.2.1.c.1,d.c.1),d.c.2.1,d.c.b.1,d.c.b.2.1,d.d.1,d.d.2.1,d.d.b.1,d.d.b.2.1,d.d.c.1,(d.2.1.e,d.d.c.2.1),d.d.c.b.1,d.d.c.b.2.1,d.e.1,d.e.2.1,d.e.b.1,d.e.b.2.1,d.d.c.1.b,d.e.c)
abbrev DB:=ko.B->Option qu
def NB (g:DB):Ct:=(22,FC ko NA g)
def vT (aVK:ay2)(fT:BS)(aDh:Ua)(nJ:EK)(sd:KB)(x:ko.B):Pg qu:=let n30:=x.1.1;let n28:=x.1.2;let n29:=n28.2.2.2.2;let n23:=x.2.1;let n19:=x.2.2;let n24:=n19.2.1;let cm:=n19.2.2;let n20:=cm.2.1;let n17:=cm.2.2;let n33:=n17.1.2.2.1;let n21:=n17.2.1;let bM:=n17.2.2;let n34:=bM.1.2.2.1;let n22:=bM.2.1;let n18:=bM.2.2;let n35:=n18.1.2.2.1;let n25:=n18.2.1;let n15:=n18.2.2;let n31:=n15.2.2;let n27:=n15.2.1;let n26:=n31.2.2;let n32:=n26.2.2;let n16:=n32.2.2;let bH:=(nJ (n20,n31.1));let bo:=(nJ (n17.1,n31.2.1));let bk:=(nJ (n21,n26.1));let n9:=(nJ (bM.1,n26.2.1));let n8:=(nJ (n22,n32.1));let n7:=(nJ (n18.1,n32.2.1));let n6:=(n20.2.2.1,n31.1);let n5:=(n33,n31.2.1);let n4:=(n21.2.2.1,n26.1);let n3:=(n34,n26.2.1);let n2:=(n22.2.2.1,n32.1);let n1:=(n35,n32.2.1);let y0:=aZ n30 6;let y1:=n30==1;let y2:=n30==4;let y3:=n30==3;let y4:=n30==2;let y5:=n30==5;let y6:=z9 n20.2.2.1 n20.2.2.1;let y7:=z9 n33 n33;let y8:=z9 n21.2.2.1 n21.2.2.1;let y9:=z9 n34 n34;let AM:=z9 n22.2.2.1 n22.2.2.1;let AN:=z9 n35 n35;opt (aVK n30) λd=>ae (!d) (ret (false,n23,n19.1,n24,cm.1,n20,n17.1,n21,bM.1,n22,n18.1,n25,n15.1,n27,n6,n5,n4,n3,n2,n1,n16)) (opt (fT n28.1 0 1125899906842624) λd=>ae (!d) (ae y0 (ae y5 (ae AN (opt n7 λd=>ret (false,n23,n19.1,n24,cm.1,n20,n17.1,n21,bM.1,n22,d,n25,n15.1,n27,n6,n5,n4,n3,n2,n1,n16)) no) (ae y2 (ae AM (opt n8 λd=>ret (false,n23,n19.1,n24,cm.1,n20,n17.1,n21,bM.1,d,n18.1,n25,n15.1,n27,n6,n5,n4,n3,n2,n1,n16)) no) (ae y3 (ae y9 (opt n9 λd=>ret (false,n23,n19.1,n24,cm.1,n20,n17.1,n21,d,n22,n18.1,n25,n15.1,n27,n6,n5,n4,n3,n2,n1,n16)) no) (ae y4 (ae y8 (opt bk λd=>ret (false,n23,n19.1,n24,cm.1,n20,n17.1,d,bM.1,n22,n18.1,n25,n15.1,n27,n6,n5,n4,n3,n2,n1,n16)) no) (ae y1 (ae y7 (opt bo λd=>ret (false,n23,n19.1,n24,cm.1,n20,d,n21,bM.1,n22,n18.1,n25,n15.1,n27,n6,n5,n4,n3,n2,n1,n16)) no) (ae y6 (opt bH λd=>ret (false,n23,n19.1,n24,cm.1,d,n17.1,n21,bM.1,n22,n18.1,n25,n15.1,n27,n6,n5,n4,n3,n2,n1,n16)) no)))))) no) (opt (aDh n30 n28.1 n28.2.1 n28.2.2.1 n28.2.2.2.1 n29.1 n29.2.1 n29.2.2.1 n29.2.2.2.1 n29.2.2.2.2) λd=>ae (!d) (ae y0 (ae y5 (ae AN (opt n7 λd=>ret (false,n23,n19.1,n24,cm.1,n20,n17.1,n21,bM.1,n22,d,n25,n15.1,n27,n6,n5,n4,n3,n2,n1,n16)) no) (ae y2 (ae AM (opt n8 λd=>ret (false,n23,n19.1,n24,cm.1,n20,n17.1,n21,bM.1,d,n18.1,n25,n15.1,n27,n6,n5,n4,n3,n2,n1,n16)) no) (ae y3 (ae y9 (opt n9 λd=>ret (false,n23,n19.1,n24,cm.1,n20,n17.1,n21,d,n22,n18.1,n25,n15.1,n27,n6,n5,n4,n3,n2,n1,n16)) no) (ae y4 (ae y8 (opt bk λd=>ret (false,n23,n19.1,n24,cm.1,n20,n17.1,d,bM.1,n22,n18.1,n25,n15.1,n27,n6,n5,n4,n3,n2,n1,n16)) no) (ae y1 (ae y7 (opt bo λd=>ret (false,n23,n19.1,n24,cm.1,n20,d,n21,bM.1,n22,n18.1,n25,n15.1,n27,n6,n5,n4,n3,n2,n1,n16)) no) (ae y6 (opt bH λd=>ret (false,n23,n19.1,n24,cm.1,d,n17.1,n21,bM.1,n22,n18.1,n25,n15.1,n27,n6,n5,n4,n3,n2,n1,n16)) no)))))) no) (ae y0 (ae y5 (ae AN (opt (sd (n28,n18.1,n32.2.1)) λd=>sm d (λd=>ret (false,n23,n19.1,n24,cm.1,n20,n17.1,n21,bM.1,n22,d,n25,n15.1,n27,n6,n5,n4,n3,n2,n1,n16)) (λd=>ret (d.1,n23,n19.1,n24,cm.1,n20,n17.1,n21,bM.1,n22,d.2.1,n25,n15.1,n27,n6,n5,n4,n3,n2,(d.2.1.2.2.1,d.2.2),n16))) no) (ae y2 (ae AM (opt (sd (n28,n22,n32.1)) λd=>sm d (λd=>ret (false,n23,n19.1,n24,cm.1,n20,n17.1,n21,bM.1,d,n18.1,n25,n15.1,n27,n6,n5,n4,n3,n2,n1,n16)) (λd=>ret (d.1,n23,n19.1,n24,cm.1,n20,n17.1,n21,bM.1,d.2.1,n18.1,n25,n15.1,n27,n6,n5,n4,n3,(d.2.1.2.2.1,d.2.2),n1,n16))) no) (ae y3 (ae y9 (opt (sd (n28,bM.1,n26.2.1)) λd=>sm d (λd=>ret (false,n23,n19.1,n24,cm.1,n20,n17.1,n21,d,n22,n18.1,n25,n15.1,n27,n6,n5,n4,n3,n2,n1,n16)) (λd=>ret (d.1,n23,n19.1,n24,cm.1,n20,n17.1,n21,d.2.1,n22,n18.1,n25,n15.1,n27,n6,n5,n4,(d.2.1.2.2.1,d.2.2),n2,n1,n16))) no) (ae y4 (ae y8 (opt (sd (n28,n21,n26.1)) λd=>sm d (λd=>ret (false,n23,n19.1,n24,cm.1,n20,n17.1,d,bM.1,n22,n18.1,n25,n15.1,n27,n6,n5,n4,n3,n2,n1,n16)) (λd=>ret (d.1,n23,n19.1,n24,cm.1,n20,n17.1,d.2.1,bM.1,n22,n18.1,n25,n15.1,n27,n6,n5,(d.2.1.2.2.1,d.2.2),n3,n2,n1,n16))) no) (ae y1 (ae y7 (opt (sd (n28,n17.1,n31.2.1)) λd=>sm d (λd=>ret (false,n23,n19.1,n24,cm.1,n20,d,n21,bM.1,n22,n18.1,n25,n15.1,n27,n6,n5,n4,n3,n2,n1,n16)) (λd=>ret (d.1,n23,n19.1,n24,cm.1,n20,d.2.1,n21,bM.1,n22,n18.1,n25,n15.1,n27,n6,(d.2.1.2.2.1,d.2.2),n4,n3,n2,n1,n16))) no) (ae y6 (opt (sd (n28,n20,n31.1)) λd=>sm d (λd=>ret (false,n23,n19.1,n24,cm.1,d,n17.1,n21,bM.1,n22,n18.1,n25,n15.1,n27,n6,n5,n4,n3,n2,n1,n16)) (λd=>ret (d.1,n23,n19.1,n24,cm.1,d.2.1,n17.1,n21,bM.1,n22,n18.1,n25,n15.1,n27,(d.2.1.2.2.1,d.2.2),n5,n4,n3,n2,n1,n16))) no)))))) no)))
def ij:=λx=>(vT PG nY D6 ln xB x).val
abbrev DD:=ay2×BS×Ua×EK×KB
def NC (p:DD):KK:=⟨[aJv p.1,Yw p.2.1,ajO p.b.1,Ob p.b.2.1,YK p.c],⟨[],[],(0::rg 4 6 []),[],(some ⟨0,(rg 0 6 (rg 7 28 [])),[(3,[]),(4,[]),(5,[]),(6,[]),(7,[]),(8,[]),(9,[]),(10,[]),(11,[]),(12,[]),(13,[]),(14,[]),(15,[]),(16,[]),(17,[]),(18,[]),(19,[]),(20,[]),(21,[]),(0,[])]⟩)⟩,0,22⟩
theorem ah7 (p:DD):D2 (NC p) ko NA λb=>vT p.1 p.2.1 p.b.1 p.b.2.1 p.c b:=λb=>by kernel_rfl
abbrev ND:DD:=(PG,nY,D6,ln,xB)
theorem ah8 [aA]:SC (NB ij):=sc (kS (k:=NC ND) (.c aVo (.c anK (.c aC5 (.c aki (.c atN (.nil _)))))) [] [] trivial trivial (ah7 ND))
end Go.Proofs.YtldgljclcgaibaaGreat
namespace Go.Proofs.YtldgljclcgaibaaGreat
open Go.Ab Go.Ab.Pg
theorem aSx (x:ko.B)(l5:x.c.2.1.b.1<=1000)(l6:x.c.b.1.b.1<=1000)(l7:x.c.b.2.1.b.1<=1000)(l8:x.d.1.b.1<=1000)(l9:x.d.2.1.b.1<=1000)(l10:x.d.b.1.b.1<=1000):Ok (ij x) (λe:qu=>e.2.1=x.2.1/\e.b.1=x.b.1/\e.b.2.1=x.b.2.1/\e.c.1=x.c.1/\e.d.b.2.1=x.d.b.2.1/\e.d.c.1=x.d.c.1/\e.d.c.2.1=x.d.c.2.1/\e.e.b.2.2=x.e.b.2.2/\((¬(0<=x.1.1/\x.1.1<6)/\e.c.2.1=x.c.2.1/\e.c.b.1=x.c.b.1/\e.c.b.2.1=x.c.b.2.1/\e.d.1=x.d.1/\e.d.2.1=x.d.2.1/\e.d.b.1=x.d.b.1)∨(x.1.1=0/\(PR x.c.2.1 e.c.2.1∨SR x.c.2.1 e.c.2.1)/\e.c.b.1=x.c.b.1/\e.c.b.2.1=x.c.b.2.1/\e.d.1=x.d.1/\e.d.2.1=x.d.2.1/\e.d.b.1=x.d.b.1)∨(x.1.1=1/\e.c.2.1=x.c.2.1/\(PR x.c.b.1 e.c.b.1∨SR x.c.b.1 e.c.b.1)/\e.c.b.2.1=x.c.b.2.1/\e.d.1=x.d.1/\e.d.2.1=x.d.2.1/\e.d.b.1=x.d.b.1)∨(x.1.1=2/\e.c.2.1=x.c.2.1/\e.c.b.1=x.c.b.1/\(PR x.c.b.2.1 e.c.b.2.1∨SR x.c.b.2.1 e.c.b.2.1)/\e.d.1=x.d.1/\e.d.2.1=x.d.2.1/\e.d.b.1=x.d.b.1)∨(x.1.1=3/\e.c.2.1=x.c.2.1/\e.c.b.1=x.c.b.1/\e.c.b.2.1=x.c.b.2.1/\(PR x.d.1 e.d.1∨SR x.d.1 e.d.1)/\e.d.2.1=x.d.2.1/\e.d.b.1=x.d.b.1)∨(x.1.1=4/\e.c.2.1=x.c.2.1/\e.c.b.1=x.c.b.1/\e.c.b.2.1=x.c.b.2.1/\e.d.1=x.d.1/\(PR x.d.2.1 e.d.2.1∨SR x.d.2.1 e.d.2.1)/\e.d.b.1=x.d.b.1)∨(x.1.1=5/\e.c.2.1=x.c.2.1/\e.c.b.1=x.c.b.1/\e.c.b.2.1=x.c.b.2.1/\e.d.1=x.d.1/\e.d.2.1=x.d.2.1/\(PR x.d.b.1 e.d.b.1∨SR x.d.b.1 e.d.b.1)))):=by
 unfold ij vT;try dsimp only
 show PQ _ _;rw[aSf,cz,aM];refine⟨λhn=> ?_,λhk=> ?_⟩
 .rw[aw];refine⟨rfl,rfl,rfl,rfl,rfl,rfl,rfl,rfl,.inl ⟨λh=> ?_,rfl,rfl,rfl,rfl,rfl,rfl⟩⟩;rw[dR h.1,dR h.2] at hn;cases hn
 rw[aEr] at hk;obtain⟨b,_,_⟩:=a0f hk 6 (by omega);have hr:=hk;rw[cL,j7,j7] at hr;obtain⟨k0,k6⟩:=hr;simp only[aS,b]
 repeat' (first
  |rw[aD]
  |(with_reducible refine ax (aVq _ ?_) λe _ he=> ?_)
  |(with_reducible refine ax (aL4 _) λe _ he=> ?_)
  |(rw[um];refine⟨λa ha=> ?_,λa ha=> ?_⟩)
  |(rw[bI];intro _ _)
  |(rw[aM];refine⟨λc=> ?_,λc=> ?_⟩<;>first|have c:=eq_of_beq c|have c:=aEu c|skip))
 all_goals first
  |(dsimp only;omega)
  |(rw[aw];exact⟨rfl,rfl,rfl,rfl,rfl,rfl,rfl,rfl,.inr (.inl ⟨by omega,.inr he,rfl,rfl,rfl,rfl,rfl⟩)⟩)
  |(rw[ha] at he;rw[aw];exact⟨rfl,rfl,rfl,rfl,rfl,rfl,rfl,rfl,.inr (.inl ⟨by omega,.inl he,rfl,rfl,rfl,rfl,rfl⟩)⟩)
  |(rw[aw];exact⟨rfl,rfl,rfl,rfl,rfl,rfl,rfl,rfl,.inr (.inr (.inl ⟨by omega,rfl,.inr he,rfl,rfl,rfl,rfl⟩))⟩)
  |(rw[ha] at he;rw[aw];exact⟨rfl,rfl,rfl,rfl,rfl,rfl,rfl,rfl,.inr (.inr (.inl ⟨by omega,rfl,.inl he,rfl,rfl,rfl,rfl⟩))⟩)
  |(rw[aw];exact⟨rfl,rfl,rfl,rfl,rfl,rfl,rfl,rfl,.inr (.inr (.inr (.inl ⟨by omega,rfl,rfl,.inr he,rfl,rfl,rfl⟩)))⟩)
  |(rw[ha] at he;rw[aw];exact⟨rfl,rfl,rfl,rfl,rfl,rfl,rfl,rfl,.inr (.inr (.inr (.inl ⟨by omega,rfl,rfl,.inl he,rfl,rfl,rfl⟩)))⟩)
  |(rw[aw];exact⟨rfl,rfl,rfl,rfl,rfl,rfl,rfl,rfl,.inr (.inr (.inr (.inr (.inl ⟨by omega,rfl,rfl,rfl,.inr he,rfl,rfl⟩))))⟩)
  |(rw[ha] at he;rw[aw];exact⟨rfl,rfl,rfl,rfl,rfl,rfl,rfl,rfl,.inr (.inr (.inr (.inr (.inl ⟨by omega,rfl,rfl,rfl,.inl he,rfl,rfl⟩))))⟩)
  |(rw[aw];exact⟨rfl,rfl,rfl,rfl,rfl,rfl,rfl,rfl,.inr (.inr (.inr (.inr (.inr (.inl ⟨by omega,rfl,rfl,rfl,rfl,.inr he,rfl⟩)))))⟩)
  |(rw[ha] at he;rw[aw];exact⟨rfl,rfl,rfl,rfl,rfl,rfl,rfl,rfl,.inr (.inr (.inr (.inr (.inr (.inl ⟨by omega,rfl,rfl,rfl,rfl,.inl he,rfl⟩)))))⟩)
  |(rw[aw];exact⟨rfl,rfl,rfl,rfl,rfl,rfl,rfl,rfl,.inr (.inr (.inr (.inr (.inr (.inr (⟨by omega,rfl,rfl,rfl,rfl,rfl,.inr he⟩))))))⟩)
  |(rw[ha] at he;rw[aw];exact⟨rfl,rfl,rfl,rfl,rfl,rfl,rfl,rfl,.inr (.inr (.inr (.inr (.inr (.inr (⟨by omega,rfl,rfl,rfl,rfl,rfl,.inl he⟩))))))⟩)
  |skip
open Go.Ab Go.Ab.Pg Go.Ab.Rq
def nE:=qa (pr (cu jq abD) (cd wQ λb0=>(c m6 (c oG (c (cl (gs b0.c.1 pK) nil) (cd yd λb4=>(cd rb λb5=>(cd re λb6=>(cd rf λb7=>(cd rj λb8=>(cd rm λb9=>(c nK (cd Ap λBV=>(c (cl (gs b0.e mN) nil) (c (cl (gs b4.b.1 aC) nil) (c (cl (gs b5.b.1 aC) nil) (c (cl (gs b6.b.1 aC) nil) (c (cl (gs b7.b.1 aC) nil) (c (cl (gs b8.b.1 aC) nil) (c (cl (gs b9.b.1 aC) nil) (cl (cl (gs BV.b jJ) nil) nil)))))))))))))))))))))
def aub:=qe (res (pr aQv (pr (cl (An aYS) aEf) aYU)))
abbrev uh:=((Int×Int)×(GJ×Bool×NI×(NI×NI)×(Nat×Nat)×se×Bool×Int×lJ×Bool×Bool×Bool×Int×Int×Int×Fv×Nat)×(lJ×Int×Int)×NQ×SM×bY×bY×bY×bY×bY×bY×Lw×uG×Fz×cY×cY×cY×cY×cY×cY×Nat×NI×NI×NI×NI×NI×NI×NI×NI×NI×NI×NI)
def abl:uh->T:=λd=>lf aub (d.1,d.2.1,d.b.1,d.b.2.1,d.c.1,d.c.2.1,d.c.b.1,d.c.b.2.1,d.d.1,d.d.2.1,d.d.b.1,d.d.b.2.1,d.d.c.1,d.d.c.2.1,(d.c.2.1.b.1,d.d.c.b.1),(d.c.b.1.b.1,d.d.c.b.2.1),(d.c.b.2.1.b.1,d.e.1),(d.d.1.b.1,d.e.2.1),(d.d.2.1.b.1,d.e.b.1),(d.d.b.1.b.1,d.e.b.2.1),d.e.c)
abbrev Ah:=nE.B->Option uh
def Ai (g:Ah):Ct:=(27,FC nE abl g)
def dL:=qs (st (pr (cu jq (us 5 (cu ZJ (us 2 (cl ai (us 92 nil)))))) (pl (c aRg (c m7 (c m8 (cu nO (cd J7 λb4=>(cd J8 λb5=>(cd J9 λb6=>(cd J' λb7=>(cd Ka λb8=>(cd afQ λb9=>(c lO (c afP (cu nO (cu nO (cu nO (cu nO (cu nO (cu nO (cu nO (cu nO (c FD (c oF (c vd (c (so (cl (gs b4.b.1 aC) nil)) (c (so (cl (gs b5.b.1 aC) nil)) (c (so (cl (gs b6.b.1 aC) nil)) (c (so (cl (gs b7.b.1 aC) nil)) (c (so (cl (gs b8.b.1 aC) nil)) (c (so (cl (gs b9.b.1 aC) nil)) HU))))))))))))))))))))))))))))) aEl)))
def ah9:=qs (st (pr (cu jq (us 5 (cu ZJ (us 2 (c ai (us 48 (cu jq (cu jq (cu aQD (c (ac aKs) (c ai (c ab (cu HP (cu jq (cu jq (cu aQD (c (ac aKs) (c (ac (Ly (pu aDR (pl Oi Bi)))) (c (ac (Ly (pu aDR (pl Oi DG)))) (c ai (cu (app 20 1) (c ai (cu jq (cu jq (cu aM5 (cu aKg (c ai (c ai (c ab (cl ab aS3)))))))))))))))))))))))))))))) (pl (c aRg (c m7 (c m8 (cu nO (c J7 (c J8 (c J9 (c J' (c Ka (c afQ (c lO (c afP (cu nO (cu nO (cu nO (cu nO (cu nO (cu nO (cu nO (cu nO (c FD (c oF Bj)))))))))))))))))))))) aEl)))
def aia:=qs (st (pr (cu jq (us 5 (cu ZJ (us 2 (c ai (us 48 (cu jq (cu jq (cu aQD (c (ac aKs) (c ai (cl ab (cu lM (xs 16 (cu lM aS3))))))))))))))) (pl (c aRg (c m7 (c m8 (cu nO (c J7 (c J8 (c J9 (c J' (c Ka (c afQ (c lO (c afP (cu nO (cu nO (cu nO (cu nO (cu nO (cu nO (cu nO (cu nO (c FD (c oF Bj)))))))))))))))))))))) aEl)))
abbrev jh:=((Int×(Nat×Nat)×Int×Bool×Nat×Int×Int×Int×Int×Bool)×((Int×Int×Int×(Int×Int×Int×Int×Int×Int)×(Int×Int×Int×Int×Int×Int)×NI×NI×Int×Int×Int×Int×Int×Int×Int×Int)×Bool×NI×(NI×NI)×se×Bool×Int×lJ×Bool×Bool×Bool×Int×Int×Int×Fv×Nat)×(lJ×Int×Int)×NQ×bY×bY×bY×bY×bY×bY×Lw×uG×aS0×SM×Fz×cY×cY×cY×cY×cY×cY×Nat×NI×NI×NI×NI×NI×NI×NI×NI×NI×NI×NI)⊕((Int×(Nat×Nat)×Int×Bool)×(GJ×Bool×NI×(NI×NI)×se×Bool×Int×lJ×Bool×Bool×Bool×Int×Int×Int×Fv×Nat)×(lJ×Int×Int)×NQ×bY×bY×bY×bY×bY×bY×Lw×uG×aDP×SM×Fz×cY×cY×cY×cY×cY×cY×Nat×NI×NI×NI×NI×NI×NI×NI×NI×NI×NI×NI)
def UZ {ρ:Type}(x:jh)(K:AX->St->Option ρ):Option ρ:=(v4 (λd=>K (.ex 0) (ah9.em ((d.1.1,d.1.2.1,d.1.b.1,d.1.b.2.1,d.1.2.1,d.1.c.1,d.1.c.1,d.1.c.2.1,d.1.c.b.1,d.1.c.b.2.1,d.1.d.1,d.1.d.2,d.1.d.2),((d.2.1.1.1,d.1.c.b.2.1,d.2.1.1.2),d.2.1.2.1,d.2.1.b.1,d.2.1.b.2.1,d.1.2.1,d.2.1.c),d.b.1,d.b.2.1,d.c.1,d.c.2.1,d.c.b.1,d.c.b.2.1,d.d.1,d.d.2.1,d.d.b.1,d.d.b.2.1,(d.1.c.b.1,d.d.c.1),d.d.c.2.1,d.d.c.b.1,(d.c.1.b.1,d.d.c.b.2.1),(d.c.2.1.b.1,d.e.1),(d.c.b.1.b.1,d.e.2.1),(d.c.b.2.1.b.1,d.e.b.1),(d.d.1.b.1,d.e.b.2.1),(d.d.2.1.b.1,d.e.c.1),d.e.c.2))) (λd=>K (.ex 0) (aia.em (d.1,(d.2.1.1,d.2.1.2.1,d.2.1.b.1,d.2.1.b.2.1,d.1.2.1,d.2.1.c),d.b.1,d.b.2.1,d.c.1,d.c.2.1,d.c.b.1,d.c.b.2.1,d.d.1,d.d.2.1,d.d.b.1,d.d.b.2.1,d.d.c.1,d.d.c.2.1,d.d.c.b.1,(d.c.1.b.1,d.d.c.b.2.1),(d.c.2.1.b.1,d.e.1),(d.c.b.1.b.1,d.e.2.1),(d.c.b.2.1.b.1,d.e.b.1),(d.d.1.b.1,d.e.b.2.1),(d.d.2.1.b.1,d.e.c.1),d.e.c.2)))) x
def uU (auc:KR)(d:dL.B):PL dL jh:=let n9:=d.2.2;let n17:=n9.2.2.1;let n8:=d.2.1;let n4:=n8.2.2.2;let cm:=n4.2.2.2.2.2.2.2.2.2.2.2.2.2;let bM:=n4.2.1;let n2:=n9.2.2.2;let n18:=n2.2.2.1;let n6:=n2.2.2.2;let n1:=n6.2.2.2;let n5:=n1.2.2;let bH:=n5.2.2.2.2;let bk:=n5.1.2;let n15:=bk.2.2.2;let n3:=bH.2.2.2.2.2;let n7:=n3.2.2.2.2.2;let y0:=ws bM.2;let y1:=aZ 0 bM.2;let y2:=bM.1+0;let y3:=bM.2-1;let y4:=bM.1+1;let y5:=decide (y0>0);let y6:=wI (n1.2.1.1-n8.1.2.1);let y7:=decide (bk.1 y2<=y6);ae y5 (ae y1 (ae y7 (ae y1 (ae (HA 1 bM.2) (ae (z9 y3 y3) (ae (z9 cm cm) (ae (z9 n17.2.2.1 n17.2.2.1) (ae (z9 n2.1.2.2.1 n2.1.2.2.1) (ae (z9 n2.2.1.2.2.1 n2.2.1.2.2.1) (ae (z9 n18.2.2.1 n18.2.2.1) (ae (z9 n6.1.2.2.1 n6.1.2.2.1) (ae (z9 n6.2.1.2.2.1 n6.2.1.2.2.1) (ae (z9 n1.1.2.2 n1.1.2.2) (opt (auc ((bk.1 y2,bk.2.1 y2,(bk.2.2.1 y2,n15.1 y2,n15.2.1 y2),n15.2.2.1 y2,n15.2.2.2.1 y2,n15.2.2.2.2 y2),(n8.1,n8.2.1,n8.2.2.1,n4.1,y3,n4.2.2),n9.1,n9.2.1,(sh8 y4 bk),n17,n2.1,n2.2.1,n18,n6.1,n6.2.1,n6.2.2.1,n1.1,(aMV 0 n5.2.1.2),(Va 0 n5.2.2.1),(Va 0 n5.2.2.2.1),(Va 0 bH.1),(Va 0 bH.2.1),(Va 0 bH.2.2.1),(Va 0 bH.2.2.2.1),λj=>n3.1 (0+j),λj=>n3.2.1 (0+j),λj=>n3.2.2.1 (0+j),λj=>n3.2.2.2.1 (0+j),λj=>n3.2.2.2.2.1 (0+j),λj=>n7.1 (0+j),λj=>n7.2.1 (0+j),λj=>n7.2.2.1 (0+j),λj=>n7.2.2.2.1 (0+j),λj=>n7.2.2.2.2.1 (0+j),λj=>n7.2.2.2.2.2 (0+j))) λak=>let n16:=ak.1.1.2;let bo:=ak.1.2.2.2;ret (w7 (wI (d.1+1),(ak.1.1.1,n16.1,n16.2.1,n16.2.2.1,(y4+0,n16.2.2.2.1),n16.2.2.2.2),n9.1,n9.2.1,ak.1.2.1,ak.1.2.2.1,bo.1,bo.2.1,bo.2.2.1,bo.2.2.2.1,bo.2.2.2.2.1,bo.2.2.2.2.2,n1.2.1,n5.1,ak.2))) no) no) no) no) no) no) no) no) no) no) no) (ret (ww (w7 ((d.1,bM,y0,y5,y2,bk.1 y2,n1.2.1.1,n8.1.2.1,y6,y7),((n8.1.1,n8.1.2.2),n8.2.1,n8.2.2.1,n4.1,n4.2.2),n9.1,n9.2.1,n17,n2.1,n2.2.1,n18,n6.1,n6.2.1,n6.2.2.1,n1.1,n1.2.1.2,n5))))) no) (ret (ww (ww ((d.1,bM,y0,y5),(n8.1,n8.2.1,n8.2.2.1,n4.1,n4.2.2),n9))))
def uW:=bG (uU my) 2000
def gh:=qs (st (pu (cu jq (us 5 (cu ZJ (us 95 nil)))) (pl (cd (so (a 26 rn (c gb (c gK (a 2 sU (cu akz (cu akA (c (gc (fO (pu aDR (pu (ox (pu db (pu db Bi))) (pl gT (pu Bi fR)))))) aRc)))))))) λb0=>(c m7 (c m8 (cu nO (cd J7 λb4=>(cd J8 λb5=>(cd J9 λb6=>(cd J' λb7=>(cd Ka λb8=>(cd afQ λb9=>(c lO (c afP (cu nO (cu nO (cu nO (cu nO (cu nO (cu nO (cu nO (cu nO (c FD (c (so (cl (gs b0.c.1 pK) nil)) (c (so (cl (gs b0.e mN) nil)) (c (so (cl (gs b4.b.1 aC) nil)) (c (so (cl (gs b5.b.1 aC) nil)) (c (so (cl (gs b6.b.1 aC) nil)) (c (so (cl (gs b7.b.1 aC) nil)) (c (so (cl (gs b8.b.1 aC) nil)) (c (so (cl (gs b9.b.1 aC) nil)) HU))))))))))))))))))))))))))))) aEl)))
def apR:=qs (st (pr (us 4 (cl ai (cu (ac aJ0) (us 96 nil)))) (pl (c (so aYS) (cu nO (cu nO (cu nO (cu nO (cu nO (cu nO (cu nO (cu nO (cu nO (cu nO (cu nO (cu nO (cu nO (cu nO (cu nO (cu nO (cu nO (cu nO (cu nO (c m7 (c m8 (c oF (c (so aYw) (c (so aEh) (c aEi (c abG (c abH (c abI (c lO (c (so aYm) Bj))))))))))))))))))))))))))))))) (cu DG aEl))))
abbrev lg:=(Int×(GJ×Bool×NI×(NI×NI)×(Nat×Nat)×se×Bool×Int×lJ×Bool×Bool×Bool×Int×Int×Int×Fv×Nat)×(lJ×Int×Int)×NQ×SM×bY×bY×bY×bY×bY×bY×Lw×uG×Fz×cY×cY×cY×cY×cY×cY×Nat×NI×NI×NI×NI×NI×NI×NI×NI×NI×NI×NI)
def U0 {ρ:Type}(x:lg)(K:AX->St->Option ρ):Option ρ:=(λd=>K .ret (apR.em (d.1,d.2.1,d.b.1,d.b.2.1,d.c.1,d.c.2.1,d.c.b.1,d.c.b.2.1,d.d.1,d.d.2.1,d.d.b.1,d.d.b.2.1,d.d.c.1,d.d.c.2.1,(d.c.2.1.b.1,d.d.c.b.1),(d.c.b.1.b.1,d.d.c.b.2.1),(d.c.b.2.1.b.1,d.e.1),(d.d.1.b.1,d.e.2.1),(d.d.2.1.b.1,d.e.b.1),(d.d.b.1.b.1,d.e.b.2.1),d.e.c))) x
def uX (dX:LT dL jh)(d:gh.B):Pg lg:=let n7:=d.2.2.2;let n3:=d.1.2.2.2.2;let n2:=n7.2.2;let n8:=n2.2.2;let n1:=n8.2.2.2.2;let n9:=n1.1.2.2.2;let n6:=n1.2.1.2.2;let y0:=n3.1+1;ae (wr (y0*64) 140737488355328) (ae (z9 n7.1.2.2.1 n7.1.2.2.1) (ae (z9 n7.2.1.2.2.1 n7.2.1.2.2.1) (ae (z9 n2.1.2.2.1 n2.1.2.2.1) (ae (z9 n2.2.1.2.2.1 n2.2.1.2.2.1) (ae (z9 n8.1.2.2.1 n8.1.2.2.1) (ae (z9 n8.2.1.2.2.1 n8.2.1.2.2.1) (opt (dX (0,(d.1.1,d.1.2.1,d.1.2.2.1,d.1.2.2.2.1,(0,y0),n3.2),d.2.1,d.2.2.1,n7.1,n7.2.1,n2.1,n2.2.1,n8.1,n8.2.1,n8.2.2.1,n8.2.2.2.1,n1.1,(y0,λj=>bif z9 j n3.1 then n1.1.1 else n1.2.1.1 (0+j),λj=>bif z9 j n3.1 then n1.1.2.1 else n1.2.1.2.1 (0+j),λj=>bif z9 j n3.1 then n1.1.2.2.1 else n6.1 (0+j),λj=>bif z9 j n3.1 then n9.1 else n6.2.1 (0+j),λj=>bif z9 j n3.1 then n9.2.1 else n6.2.2.1 (0+j),λj=>bif z9 j n3.1 then n9.2.2.1 else n6.2.2.2.1 (0+j),λj=>bif z9 j n3.1 then n9.2.2.2.1 else n6.2.2.2.2.1 (0+j),λj=>bif z9 j n3.1 then n9.2.2.2.2 else n6.2.2.2.2.2 (0+j)),(n3.2.2.2.2.2.2.2.2.2.2.2.2,n1.2.2.1),n1.2.2.2)) λx=>sum x (λd=>let bM:=d.2.2.2;let bH:=d.2.1;let n4:=bM.2.2.2;let bk:=n4.2.2.2;ret (d.1.1,((bH.1.1,d.1.2.2.2.2.2.2.2.1,bH.1.2),bH.2.1,bH.2.2.1,bH.2.2.2.1,d.1.2.1,bH.2.2.2.2),d.2.2.1,bM.1,bk.2.2.2.2.1,bM.2.1,bM.2.2.1,n4.1,n4.2.1,n4.2.2.1,bk.1,bk.2.1,bk.2.2.1,bk.2.2.2.2.2)) λd=>let n15:=d.2.1.2;let cm:=d.2.2.2;let n5:=cm.2.2.2;let bo:=n5.2.2.2;ret (d.1.1,(d.2.1.1,n15.1,n15.2.1,n15.2.2.1,d.1.2.1,n15.2.2.2),d.2.2.1,cm.1,bo.2.2.2.2.1,cm.2.1,cm.2.2.1,n5.1,n5.2.1,n5.2.2.1,bo.1,bo.2.1,bo.2.2.1,bo.2.2.2.2.2)) no) no) no) no) no) no) no
def nh (d:gh.B):Option lg:=(uX uW d).val
def U2:Hd:=⟨6,(rg 1 5 (rg 7 95 [])),[(5,[]),(14,[]),(15,[]),(16,[]),(17,[]),(18,[]),(19,[]),(20,[]),(21,[]),(0,[])]⟩
def Aj (aom:Gj)(AQ:nX)(p6:LT gh lg)(x:nE.B):Pg uh:=let cm:=x.2.1;let bk:=x.2.2;let n15:=bk.2.2.1;let n5:=cm.2.2;let bo:=n5.2.2;let n9:=bo.2.2.2.2.2.2.2.2.2.2.2.2;let n4:=bk.2.2.2;let n16:=n4.2.1;let n8:=n4.2.2;let n17:=n8.2.1;let n2:=n8.2.2;let n19:=n2.2.2.1;let n18:=n2.2.1;let n6:=n2.2.2.2;let n20:=n6.2.2.1;let bM:=n6.1.2.2;let n3:=n6.2.2.2;let n22:=n3.2.1;let n21:=n3.2.2.1;let n7:=n3.2.2.2;let n25:=n7.2.2;let n24:=n7.2.1;let n1:=(n9,n6.2.1);let y0:=z9 bo.1 bo.1;let y1:=z9 n9 n9;let y2:=z9 n4.1.2.2.1 n4.1.2.2.1;let y3:=z9 n16.2.2.1 n16.2.2.1;let y4:=z9 n8.1.2.2.1 n8.1.2.2.1;let y5:=z9 n17.2.2.1 n17.2.2.1;let y6:=z9 n2.1.2.2.1 n2.1.2.2.1;let y7:=z9 n18.2.2.1 n18.2.2.1;opt (aom (x.1,bk.2.1,cm.2.1)) λd=>let n23:=d.2.1;let bH:=d.1.1;ae (d.1.2.2!=0) (ret ((0,d.1.2.2),(cm.1,d.2.2,n5.1,n5.2.1,(0,bo.1),bo.2),bk.1,n23,(bo.1,n15),n4.1,n16,n8.1,n17,n2.1,n18,n19,n6.1,n1,n20,n3.1,n22,n21,n7.1,n24,bM,n25)) (ae (!d.1.2.1) (ret ((0,d.1.2.2),(cm.1,d.2.2,n5.1,n5.2.1,(0,bo.1),bo.2),bk.1,n23,(bo.1,n15),n4.1,n16,n8.1,n17,n2.1,n18,n19,n6.1,n1,n20,n3.1,n22,n21,n7.1,n24,bM,n25)) (ae bo.2.2.1 (ae (z9 bM bM) (opt (AQ ((n5.1,bH.1,bH.2.1,(bH.2.2.1,bH.2.2.2.1,bH.2.2.2.2.1),bH.2.2.2.2.2),n6.1,d.2.2,n25)) λak=>sm ak (λaJ=>ae y0 (ae y1 (ae y2 (ae y3 (ae y4 (ae y5 (ae y6 (ae y7 (opt (p6 ((cm.1,aJ.2.2,n5),bk.1,n23,n4.1,n16,n8.1,n17,n2.1,n18,n19,aJ.2.1,bH,n15,n6.2.1,n20,n3.1,n22,n21,n7.1,n24,bM,n25)) λd=>ret ((d.1,0),d.2)) no) no) no) no) no) no) no) no) (λaJ=>ae y0 (ae y1 (ae y2 (ae y3 (ae y4 (ae y5 (ae y6 (ae y7 (opt (p6 ((cm.1,aJ.1.2,n5),bk.1,n23,n4.1,n16,n8.1,n17,n2.1,n18,n19,aJ.1.1,bH,n15,n6.2.1,n20,n3.1,n22,n21,n7.1,n24,aJ.2)) λd=>ret ((d.1,0),d.2)) no) no) no) no) no) no) no) no)) no) (ae y0 (ae y1 (ae y2 (ae y3 (ae y4 (ae y5 (ae y6 (ae y7 (opt (p6 ((cm.1,d.2.2,n5),bk.1,n23,n4.1,n16,n8.1,n17,n2.1,n18,n19,n6.1,bH,n15,n6.2.1,n20,n3.1,n22,n21,n7.1,n24,bM,n25)) λd=>ret ((d.1,0),d.2)) no) no) no) no) no) no) no) no)))
def il:=λx=>(Aj hO fm nh x).val
abbrev Ak:=Gj×nX×KR×(LT dL jh)×(LT gh lg)
def Fo (p:Ak):KK:=⟨[RK p.1,AJ p.2.1,Zb p.b.1],⟨[⟨8,(rg 1 5 (7::8::rg 10 92 [])),[(5,[]),(14,[]),(15,[]),(16,[]),(17,[]),(18,[]),(19,[]),(20,[]),(21,[]),(0,[])]⟩],[fU 8 20 dL UZ p.b.2.1],(0::rg 4 6 [19,18,17,16,15,14,13,12,3,11,2,10]),[⟨U2,fU 6 20 gh U0 p.c⟩],(some ⟨0,(rg 0 4 (rg 6 96 [])),[(3,[]),(4,[]),(5,[]),(6,[]),(7,[]),(8,[]),(9,[]),(10,[]),(11,[]),(12,[]),(13,[]),(14,[]),(15,[]),(16,[]),(17,[]),(18,[]),(19,[]),(20,[]),(21,[]),(0,[])]⟩)⟩,20,27⟩
theorem aon (p:Ak):LI (Fo p) 8 dL UZ (uU p.b.1):=λ_ d c K=>by kernel_rfl
theorem aoo (p:Ak):JI (Fo p) 6 gh U0 (uX p.b.2.1):=λ_ d K=>by kernel_rfl
theorem aw4 (p:Ak):D2 (Fo p) nE abl λb=>Aj p.1 p.2.1 p.c b:=λb=>by kernel_rfl
abbrev Fq:Ak:=(hO,fm,my,uW,nh)
theorem NF [aA]:SC (Ai il):=sc (kS (k:=Fo Fq) (.c anH (.c I8 (.c aua (.nil _)))) [8] [6] ⟨kL (aon Fq),trivial⟩ ⟨kJ U2 (aoo Fq),trivial⟩ (aw4 Fq))
end Go.Proofs.YtldgljclcgaibaaGreat
namespace Go.Proofs.YtldgljclcgaibaaGreat
open Go.Ab Go.Ab.Pg
theorem aVM (N l:Nat)(S:Int)(h1:1<=N)(hN:N<=1999)(hl:l<=1999)(w d:dL.B)(W4:w.2.2.2.2.1.2.2.1<=64)(W5:w.2.2.2.2.2.1.2.2.1<=64)(W6:w.2.2.2.2.2.2.1.2.2.1<=64)(W7:w.2.2.2.2.2.2.2.1.2.2.1<=64)(W8:w.2.2.2.2.2.2.2.2.1.2.2.1<=64)(W9:w.2.2.2.2.2.2.2.2.2.1.2.2.1<=64)(WS:w.2.2.2.2.2.2.2.2.2.2.2.1.1<=(N:Int))(hd:d.2.1.2.2.2.2.1.2<=l/\d.2.2.2.1=w.2.2.2.1/\d.2.2.2.2.2.2.2.2.2.2.2.2.2.1=w.2.2.2.2.2.2.2.2.2.2.2.2.2.1/\w.2.1.2.2.2.2.2.2.2.2.2.2.2.2.2.1<=d.2.1.2.2.2.2.2.2.2.2.2.2.2.2.2.1/\Qd d.2.1.2.2.2.2.2.2.2.2.2.2.2.2.2.1 S d.2.1.2.2.2.2.1.2 (λi=>w.2.2.2.2.2.2.2.2.2.2.2.2.2.1.2.1 (d.2.1.2.2.2.2.1.1+i))/\BR d.2.1.2.2.2.2.2.2.2.2.2.2.2.2.2.1 w.2.2.2.2.1 d.2.2.2.2.1/\BR d.2.1.2.2.2.2.2.2.2.2.2.2.2.2.2.1 w.2.2.2.2.2.1 d.2.2.2.2.2.1/\BR d.2.1.2.2.2.2.2.2.2.2.2.2.2.2.2.1 w.2.2.2.2.2.2.1 d.2.2.2.2.2.2.1/\BR d.2.1.2.2.2.2.2.2.2.2.2.2.2.2.2.1 w.2.2.2.2.2.2.2.1 d.2.2.2.2.2.2.2.1/\BR d.2.1.2.2.2.2.2.2.2.2.2.2.2.2.2.1 w.2.2.2.2.2.2.2.2.1 d.2.2.2.2.2.2.2.2.1/\BR d.2.1.2.2.2.2.2.2.2.2.2.2.2.2.2.1 w.2.2.2.2.2.2.2.2.2.1 d.2.2.2.2.2.2.2.2.2.1/\d.2.2.2.2.2.2.2.2.2.2.2.1.1=w.2.2.2.2.2.2.2.2.2.2.2.1.1/\d.2.2.2.2.2.2.2.2.2.2.2.1.2.2<=N):Ok (uW d) (λx:jh=>match x with|.inl x=>x.1.2.1.2<=l/\x.2.2.2.1=w.2.2.2.1/\x.2.2.2.2.2.2.2.2.2.2.2.2.2.1=w.2.2.2.2.2.2.2.2.2.2.2.2.2.1/\w.2.1.2.2.2.2.2.2.2.2.2.2.2.2.2.1<=x.2.1.2.2.2.2.2.2.2.2.2.2.2.2.1/\Qd x.2.1.2.2.2.2.2.2.2.2.2.2.2.2.1 S x.1.2.1.2 (λi=>w.2.2.2.2.2.2.2.2.2.2.2.2.2.1.2.1 (x.1.2.1.1+i))/\BR x.2.1.2.2.2.2.2.2.2.2.2.2.2.2.1 w.2.2.2.2.1 x.2.2.2.2.1/\BR x.2.1.2.2.2.2.2.2.2.2.2.2.2.2.1 w.2.2.2.2.2.1 x.2.2.2.2.2.1/\BR x.2.1.2.2.2.2.2.2.2.2.2.2.2.2.1 w.2.2.2.2.2.2.1 x.2.2.2.2.2.2.1/\BR x.2.1.2.2.2.2.2.2.2.2.2.2.2.2.1 w.2.2.2.2.2.2.2.1 x.2.2.2.2.2.2.2.1/\BR x.2.1.2.2.2.2.2.2.2.2.2.2.2.2.1 w.2.2.2.2.2.2.2.2.1 x.2.2.2.2.2.2.2.2.1/\BR x.2.1.2.2.2.2.2.2.2.2.2.2.2.2.1 w.2.2.2.2.2.2.2.2.2.1 x.2.2.2.2.2.2.2.2.2.1/\x.2.2.2.2.2.2.2.2.2.2.2.1.1=w.2.2.2.2.2.2.2.2.2.2.2.1.1/\x.2.2.2.2.2.2.2.2.2.2.2.1.2.2<=N|.inr x=>x.1.2.1.2<=l/\x.2.2.2.1=w.2.2.2.1/\x.2.2.2.2.2.2.2.2.2.2.2.2.2.1=w.2.2.2.2.2.2.2.2.2.2.2.2.2.1/\w.2.1.2.2.2.2.2.2.2.2.2.2.2.2.2.1<=x.2.1.2.2.2.2.2.2.2.2.2.2.2.2.1/\Qd x.2.1.2.2.2.2.2.2.2.2.2.2.2.2.1 S x.1.2.1.2 (λi=>w.2.2.2.2.2.2.2.2.2.2.2.2.2.1.2.1 (x.1.2.1.1+i))/\BR x.2.1.2.2.2.2.2.2.2.2.2.2.2.2.1 w.2.2.2.2.1 x.2.2.2.2.1/\BR x.2.1.2.2.2.2.2.2.2.2.2.2.2.2.1 w.2.2.2.2.2.1 x.2.2.2.2.2.1/\BR x.2.1.2.2.2.2.2.2.2.2.2.2.2.2.1 w.2.2.2.2.2.2.1 x.2.2.2.2.2.2.1/\BR x.2.1.2.2.2.2.2.2.2.2.2.2.2.2.1 w.2.2.2.2.2.2.2.1 x.2.2.2.2.2.2.2.1/\BR x.2.1.2.2.2.2.2.2.2.2.2.2.2.2.1 w.2.2.2.2.2.2.2.2.1 x.2.2.2.2.2.2.2.2.1/\BR x.2.1.2.2.2.2.2.2.2.2.2.2.2.2.1 w.2.2.2.2.2.2.2.2.2.1 x.2.2.2.2.2.2.2.2.2.1/\x.2.2.2.2.2.2.2.2.2.2.2.1.1=w.2.2.2.2.2.2.2.2.2.2.2.1.1/\x.2.2.2.2.2.2.2.2.2.2.2.1.2.2<=N):=
 uK (s:=_) (λd:dL.B=>d.2.1.2.2.2.2.1.2<=l/\d.2.2.2.1=w.2.2.2.1/\d.2.2.2.2.2.2.2.2.2.2.2.2.2.1=w.2.2.2.2.2.2.2.2.2.2.2.2.2.1/\w.2.1.2.2.2.2.2.2.2.2.2.2.2.2.2.1<=d.2.1.2.2.2.2.2.2.2.2.2.2.2.2.2.1/\Qd d.2.1.2.2.2.2.2.2.2.2.2.2.2.2.2.1 S d.2.1.2.2.2.2.1.2 (λi=>w.2.2.2.2.2.2.2.2.2.2.2.2.2.1.2.1 (d.2.1.2.2.2.2.1.1+i))/\BR d.2.1.2.2.2.2.2.2.2.2.2.2.2.2.2.1 w.2.2.2.2.1 d.2.2.2.2.1/\BR d.2.1.2.2.2.2.2.2.2.2.2.2.2.2.2.1 w.2.2.2.2.2.1 d.2.2.2.2.2.1/\BR d.2.1.2.2.2.2.2.2.2.2.2.2.2.2.2.1 w.2.2.2.2.2.2.1 d.2.2.2.2.2.2.1/\BR d.2.1.2.2.2.2.2.2.2.2.2.2.2.2.2.1 w.2.2.2.2.2.2.2.1 d.2.2.2.2.2.2.2.1/\BR d.2.1.2.2.2.2.2.2.2.2.2.2.2.2.2.1 w.2.2.2.2.2.2.2.2.1 d.2.2.2.2.2.2.2.2.1/\BR d.2.1.2.2.2.2.2.2.2.2.2.2.2.2.2.1 w.2.2.2.2.2.2.2.2.2.1 d.2.2.2.2.2.2.2.2.2.1/\d.2.2.2.2.2.2.2.2.2.2.2.1.1=w.2.2.2.2.2.2.2.2.2.2.2.1.1/\d.2.2.2.2.2.2.2.2.2.2.2.1.2.2<=N) (λd:dL.B=>d.2.1.2.2.2.2.1.2) (λx:jh=>match x with|.inl x=>x.1.2.1.2<=l/\x.2.2.2.1=w.2.2.2.1/\x.2.2.2.2.2.2.2.2.2.2.2.2.2.1=w.2.2.2.2.2.2.2.2.2.2.2.2.2.1/\w.2.1.2.2.2.2.2.2.2.2.2.2.2.2.2.1<=x.2.1.2.2.2.2.2.2.2.2.2.2.2.2.1/\Qd x.2.1.2.2.2.2.2.2.2.2.2.2.2.2.1 S x.1.2.1.2 (λi=>w.2.2.2.2.2.2.2.2.2.2.2.2.2.1.2.1 (x.1.2.1.1+i))/\BR x.2.1.2.2.2.2.2.2.2.2.2.2.2.2.1 w.2.2.2.2.1 x.2.2.2.2.1/\BR x.2.1.2.2.2.2.2.2.2.2.2.2.2.2.1 w.2.2.2.2.2.1 x.2.2.2.2.2.1/\BR x.2.1.2.2.2.2.2.2.2.2.2.2.2.2.1 w.2.2.2.2.2.2.1 x.2.2.2.2.2.2.1/\BR x.2.1.2.2.2.2.2.2.2.2.2.2.2.2.1 w.2.2.2.2.2.2.2.1 x.2.2.2.2.2.2.2.1/\BR x.2.1.2.2.2.2.2.2.2.2.2.2.2.2.1 w.2.2.2.2.2.2.2.2.1 x.2.2.2.2.2.2.2.2.1/\BR x.2.1.2.2.2.2.2.2.2.2.2.2.2.2.1 w.2.2.2.2.2.2.2.2.2.1 x.2.2.2.2.2.2.2.2.2.1/\x.2.2.2.2.2.2.2.2.2.2.2.1.1=w.2.2.2.2.2.2.2.2.2.2.2.1.1/\x.2.2.2.2.2.2.2.2.2.2.2.1.2.2<=N|.inr x=>x.1.2.1.2<=l/\x.2.2.2.1=w.2.2.2.1/\x.2.2.2.2.2.2.2.2.2.2.2.2.2.1=w.2.2.2.2.2.2.2.2.2.2.2.2.2.1/\w.2.1.2.2.2.2.2.2.2.2.2.2.2.2.2.1<=x.2.1.2.2.2.2.2.2.2.2.2.2.2.2.1/\Qd x.2.1.2.2.2.2.2.2.2.2.2.2.2.2.1 S x.1.2.1.2 (λi=>w.2.2.2.2.2.2.2.2.2.2.2.2.2.1.2.1 (x.1.2.1.1+i))/\BR x.2.1.2.2.2.2.2.2.2.2.2.2.2.2.1 w.2.2.2.2.1 x.2.2.2.2.1/\BR x.2.1.2.2.2.2.2.2.2.2.2.2.2.2.1 w.2.2.2.2.2.1 x.2.2.2.2.2.1/\BR x.2.1.2.2.2.2.2.2.2.2.2.2.2.2.1 w.2.2.2.2.2.2.1 x.2.2.2.2.2.2.1/\BR x.2.1.2.2.2.2.2.2.2.2.2.2.2.2.1 w.2.2.2.2.2.2.2.1 x.2.2.2.2.2.2.2.1/\BR x.2.1.2.2.2.2.2.2.2.2.2.2.2.2.1 w.2.2.2.2.2.2.2.2.1 x.2.2.2.2.2.2.2.2.1/\BR x.2.1.2.2.2.2.2.2.2.2.2.2.2.2.1 w.2.2.2.2.2.2.2.2.2.1 x.2.2.2.2.2.2.2.2.2.1/\x.2.2.2.2.2.2.2.2.2.2.2.1.1=w.2.2.2.2.2.2.2.2.2.2.2.1.1/\x.2.2.2.2.2.2.2.2.2.2.2.1.2.2<=N) (λd hd=>by
  obtain⟨i0,ic,ir,it,iq,s4,s5,s6,s7,s8,s9,i11,bo⟩:=hd;unfold uU;dsimp only;rw[aM];refine⟨λh=> ?_,λ_=>by rw[aw];exact⟨i0,ic,ir,it,iq,s4,s5,s6,s7,s8,s9,i11,bo⟩⟩;have h:=dh h;rw[dQ] at h;have h:1<=d.2.1.2.2.2.2.1.2:=by omega
  have r0:aZ 0 d.2.1.2.2.2.2.1.2=true:=by rw[bp];omega
  have r1:HA 1 d.2.1.2.2.2.2.1.2=true:=by rw[ad4];omega
  rw[r0,r1,aD,aM];simp only[aS];refine⟨λ_=> ?_,λ_=>by rw[aw];exact⟨i0,ic,ir,it,iq,s4,s5,s6,s7,s8,s9,i11,bo⟩⟩;simp only[aD];with_reducible refine ax (a0m N h1 hN _ ?_ ?_ ?_ ?_ ?_ ?_ ?_ ?_ ?_) λe _ he=> ?_
  .show d.2.2.2.2.2.2.2.2.2.2.2.1.1<=(N:Int);rw[i11];exact WS
  .exact bo
  .show d.2.1.2.2.2.2.1.2-1<=1999;omega
  .exact dx s4.len W4
  .exact dx s5.len W5
  .exact dx s6.len W6
  .exact dx s7.len W7
  .exact dx s8.len W8
  .exact dx s9.len W9
  obtain⟨a4,a5,a6,a7,a8,a9,a11,BV,e4,et⟩:=he;have e4:e.1.1.2.2.2.2.1=d.2.1.2.2.2.2.1.2-1:=e4;have et:e.1.1.2.2.2.2.2.2.2.2.2.2.2.2.2.1=d.2.2.2.2.2.2.2.2.2.2.2.2.2.1.2.1 (d.2.1.2.2.2.2.1.1+0):=et;have iq':=iq.pop (q:=λi=>w.2.2.2.2.2.2.2.2.2.2.2.2.2.1.2.1 (d.2.1.2.2.2.2.1.1+1+i)) h (λi=>by show w.2.2.2.2.2.2.2.2.2.2.2.2.2.1.2.1 (d.2.1.2.2.2.2.1.1+1+i)=w.2.2.2.2.2.2.2.2.2.2.2.2.2.1.2.1 (d.2.1.2.2.2.2.1.1+(i+1));rw[show d.2.1.2.2.2.2.1.1+1+i=d.2.1.2.2.2.2.1.1+(i+1) by omega]);have et':e.1.1.2.2.2.2.2.2.2.2.2.2.2.2.2.1=w.2.2.2.2.2.2.2.2.2.2.2.2.2.1.2.1 (d.2.1.2.2.2.2.1.1+0):=by rw[et,ir]
  have ll:d.2.1.2.2.2.2.2.2.2.2.2.2.2.2.2.1<=e.1.1.2.2.2.2.2.2.2.2.2.2.2.2.2.1:=by rw[et'];exact iq'.1
  have le:=Int.le_of_eq et.symm;rw[aw];exact⟨⟨by show e.1.1.2.2.2.2.1<=l;omega,ic,ir,LK it ll,(by show Qd e.1.1.2.2.2.2.2.2.2.2.2.2.2.2.2.1 S e.1.1.2.2.2.2.1 _;rw[et',e4];exact iq'.2),(s4.mono ll).trans (a4.mono le),(s5.mono ll).trans (a5.mono le),(s6.mono ll).trans (a6.mono le),(s7.mono ll).trans (a7.mono le),(s8.mono ll).trans (a8.mono le),(s9.mono ll).trans (a9.mono le),a11.trans i11,BV⟩,by show e.1.1.2.2.2.2.1<d.2.1.2.2.2.2.1.2;omega⟩) 2000 d hd (by omega)
theorem aMn (N:Nat)(h1:1<=N)(hN:N<=1999)(d:gh.B)(hq:d.1.c.1<=1998)(l3:d.b.2.1.b.1<=64)(l4:d.c.1.b.1<=64)(l5:d.c.2.1.b.1<=64)(l6:d.c.b.1.b.1<=64)(l7:d.c.b.2.1.b.1<=64)(l8:d.d.1.b.1<=64)(hs:d.d.b.1.1<=(N:Int))(hl:d.d.b.1.2.2<=N)(S:Int)(hS:S<=d.d.b.2.1.1)(hQ:Qd d.1.d.c.2.1 S d.1.c.1 d.d.c.1.1):Ok (nh d) (λx:lg=>x.2.1.c.1.2<=d.1.c.1+1/\x.b.2.1=d.b.1/\d.1.d.c.2.1<=x.2.1.d.c.2.1/\Qd x.2.1.d.c.2.1 d.d.b.2.1.1 x.2.1.c.1.2 (λi=>x.c.1.2.1 (x.2.1.c.1.1+i))/\BR x.2.1.d.c.2.1 d.b.2.1 x.c.2.1/\BR x.2.1.d.c.2.1 d.c.1 x.c.b.1/\BR x.2.1.d.c.2.1 d.c.2.1 x.c.b.2.1/\BR x.2.1.d.c.2.1 d.c.b.1 x.d.1/\BR x.2.1.d.c.2.1 d.c.b.2.1 x.d.2.1/\BR x.2.1.d.c.2.1 d.d.1 x.d.b.1/\x.d.c.1.1=d.d.b.1.1/\x.d.c.1.2.2<=N):=by
 unfold nh uX;try dsimp only
 show PQ _ _;simp only[aS];have b:wr ((d.1.c.1+1)*64) 140737488355328=true:=by rw[ch];omega
 rw[b];simp only[aD]
 have hQ':Qd d.1.d.c.2.1 d.d.b.2.1.1 (d.1.c.1+1) (λi=>bif z9 (0+i) d.1.c.1 then d.d.b.2.1.1 else d.d.c.1.1 (0+(0+i))):=hQ.push hS (λi hi=>by
  have b:z9 (0+i) d.1.c.1=false:=by
   cases hb:z9 (0+i) d.1.c.1
   .rfl
   .have:=lE hb;omega
  show(bif z9 (0+i) d.1.c.1 then d.d.b.2.1.1 else d.d.c.1.1 (0+(0+i)))=_;rw[b];simp only[bx,gP]) (by simp only[gP,aS,bn])
 refine ax (aVM N (d.1.c.1+1) d.d.b.2.1.1 h1 hN (by omega) _ _ l3 l4 l5 l6 l7 l8 hs ⟨cP _,rfl,rfl,dZ _,hQ',BR.refl _ _,BR.refl _ _,BR.refl _ _,BR.refl _ _,BR.refl _ _,BR.refl _ _,rfl,hl⟩) λy _ hy=> ?_;rw[og];refine⟨λa ha=> ?_,λa ha=> ?_⟩
 .rw[ha] at hy;rw[aw];obtain⟨y0,y3,yr,yt,yq,ys⟩:=hy;exact⟨y0,y3,yt,(by rw[<-yr] at yq;exact yq),ys⟩
 .rw[ha] at hy;rw[aw];obtain⟨y0,y3,yr,yt,yq,ys⟩:=hy;exact⟨y0,y3,yt,(by rw[<-yr] at yq;exact yq),ys⟩
theorem aT8 (N:Nat)(h1:1<=N)(hN:N<=1999)(x:nE.B)(hq:x.2.1.c.1<=1998)(l5:x.c.2.1.b.1<=64)(l6:x.c.b.1.b.1<=64)(l7:x.c.b.2.1.b.1<=64)(l8:x.d.1.b.1<=64)(l9:x.d.2.1.b.1<=64)(l10:x.d.b.1.b.1<=64)(hs:x.d.c.1.1<=(N:Int))(hl:x.d.c.1.2.2<=N)(h3:x.b.2.1.2.2=false->x.b.2.1.2.1.1<=0)(hQ:Qd x.2.1.d.c.2.1 x.b.2.1.2.1.1 x.2.1.c.1 x.c.1.1):Ok (il x) (λe:uh=>e.2.1.c.1.2<=x.2.1.c.1+1/\(e.b.2.1.2.2=false->e.b.2.1.2.1.1<=0)/\x.2.1.d.c.2.1<=e.2.1.d.c.2.1/\Qd e.2.1.d.c.2.1 e.b.2.1.2.1.1 e.2.1.c.1.2 (λi=>e.c.1.2.1 (e.2.1.c.1.1+i))/\BR e.2.1.d.c.2.1 x.c.2.1 e.c.2.1/\BR e.2.1.d.c.2.1 x.c.b.1 e.c.b.1/\BR e.2.1.d.c.2.1 x.c.b.2.1 e.c.b.2.1/\BR e.2.1.d.c.2.1 x.d.1 e.d.1/\BR e.2.1.d.c.2.1 x.d.2.1 e.d.2.1/\BR e.2.1.d.c.2.1 x.d.b.1 e.d.b.1/\e.d.c.1.1=x.d.c.1.1/\e.d.c.1.2.2<=N):=by
 unfold il Aj;try dsimp only
 show PQ _ _;simp only[aS];refine ax (a0B _ h3) λd _ hd=> ?_;obtain⟨d1,d2,d3⟩:=hd;have d2:x.b.2.1.2.1.1<=d.2.1.2.1.1:=d2;rw[aM];refine⟨λ_=>by rw[aw];exact⟨Nat.le_succ _,d1,dZ _,hQ.up d2 (λi=>by rw[gP]),BR.refl _ _,BR.refl _ _,BR.refl _ _,BR.refl _ _,BR.refl _ _,BR.refl _ _,rfl,hl⟩,λ_=> ?_⟩;rw[aM];refine⟨λ_=>by rw[aw];exact⟨Nat.le_succ _,d1,dZ _,hQ.up d2 (λi=>by rw[gP]),BR.refl _ _,BR.refl _ _,BR.refl _ _,BR.refl _ _,BR.refl _ _,BR.refl _ _,rfl,hl⟩,λc=> ?_⟩;have c:d.1.2.1=true:=by simpa using c
 have d3:=d3 c;have d4:x.b.2.1.2.1.1<=d.1.1.1:=by omega
 rw[aM];refine⟨λ_=> ?_,λ_=> ?_⟩
 .simp only[aD];with_reducible refine ax (aO3 N hN _ ?_ ?_) λe _ he=> ?_
  .exact hl
  .exact hs
  rw[um];refine⟨λa ha=> ?_,λa ha=> ?_⟩
  .rw[ha] at he;have he:a.2.1=x.d.c.1:=he;simp only[aD];with_reducible refine ax (aMn N h1 hN _ ?_ ?_ ?_ ?_ ?_ ?_ ?_ ?_ ?_ x.b.2.1.2.1.1 d4 hQ) λy _ hy=> ?_
   .exact hq
   .exact l5
   .exact l6
   .exact l7
   .exact l8
   .exact l9
   .exact l10
   .show a.2.1.1<=(N:Int);rw[he];exact hs
   .show a.2.1.2.2<=N;rw[he];exact hl
   rw[aw];have e0:(a.2.1.1:Int)=x.d.c.1.1:=by rw[he]
   obtain⟨q,qs,qt,qq,s5,s6,s7,s8,s9,ZD,p1,p2⟩:=hy;exact⟨q,(by rw[show y.b.2.1=d.2.1 from qs];exact d1),qt,(by rw[show y.b.2.1=d.2.1 from qs,<-d3];exact qq),s5,s6,s7,s8,s9,ZD,p1.trans e0,p2⟩
  .rw[ha] at he;obtain⟨e1,e2,e3,e4⟩:=he;have e1:a.1.1.1=x.d.c.1.1:=e1;simp only[aD];with_reducible refine ax (aMn N h1 hN _ ?_ ?_ ?_ ?_ ?_ ?_ ?_ ?_ ?_ x.b.2.1.2.1.1 d4 hQ) λy _ hy=> ?_
   .exact hq
   .exact l5
   .exact l6
   .exact l7
   .exact l8
   .exact l9
   .exact l10
   .show a.1.1.1<=(N:Int);rw[e1];exact hs
   .exact e2
   rw[aw];obtain⟨q,qs,qt,qq,s5,s6,s7,s8,s9,ZD,p1,p2⟩:=hy;exact⟨q,(by rw[show y.b.2.1=d.2.1 from qs];exact d1),qt,(by rw[show y.b.2.1=d.2.1 from qs,<-d3];exact qq),s5,s6,s7,s8,s9,ZD,p1.trans e1,p2⟩
 .simp only[aD];with_reducible refine ax (aMn N h1 hN _ ?_ ?_ ?_ ?_ ?_ ?_ ?_ ?_ ?_ x.b.2.1.2.1.1 d4 hQ) λy _ hy=> ?_
  .exact hq
  .exact l5
  .exact l6
  .exact l7
  .exact l8
  .exact l9
  .exact l10
  .exact hs
  .exact hl
  rw[aw];obtain⟨q,qs,qt,qq,qr⟩:=hy;exact⟨q,(by rw[show y.b.2.1=d.2.1 from qs];exact d1),qt,(by rw[show y.b.2.1=d.2.1 from qs,<-d3];exact qq),qr⟩
theorem aVN (d:dL.B)(hd:GF d.2.1.b.1 d.2.1.b.2.1 d.2.1.c.2.1 d.2.1.d.c.b.2.1):Po (uW d) (λx:jh=>match x with|.inl x=>GF x.2.1.b.1 x.2.1.b.2.1 x.2.1.c.1 x.2.1.d.c.b.1|.inr x=>GF x.2.1.b.1 x.2.1.b.2.1 x.2.1.c.1 x.2.1.d.c.b.1):=
 L3 (s:=_) (λd:dL.B=>GF d.2.1.b.1 d.2.1.b.2.1 d.2.1.c.2.1 d.2.1.d.c.b.2.1) (λx:jh=>match x with|.inl x=>GF x.2.1.b.1 x.2.1.b.2.1 x.2.1.c.1 x.2.1.d.c.b.1|.inr x=>GF x.2.1.b.1 x.2.1.b.2.1 x.2.1.c.1 x.2.1.d.c.b.1) (λd hd=>by
  unfold uU;try dsimp only
  try dsimp only
  repeat' (first
   |(rw[dz];exact trivial)
   |(with_reducible refine aI (a2H _ ?_) λe _ he=> ?_)
   |(rw[pO];refine⟨λe0 e1=> ?_,λe0 e1=> ?_⟩)
   |(rw[kI];refine⟨λe0 e1=> ?_,λe0 e1=> ?_⟩)
   |(rw[bz];refine⟨λ_=> ?_,λ_=> ?_⟩)
   |(rw[bJ];intro _ _))
  all_goals first
   |exact hd
   |(rw[aW];first|exact he|exact hd)) 2000 d hd
theorem aVO (d:gh.B)(h:GF d.1.b.1 d.1.b.2.1 d.1.c.2.1 d.1.d.c.b.2.1):Po (nh d) (λx:lg=>GF x.2.1.b.1 x.2.1.b.2.1 x.2.1.c.2.1 x.2.1.d.c.b.2.1):=by
 unfold nh uX;try dsimp only
 show PW _ _;try dsimp only
 repeat' (first
   |(rw[dz];exact trivial)
   |(with_reducible refine aI (aVN _ ?_) λe _ he=> ?_)
   |(rw[pO];refine⟨λe0 e1=> ?_,λe0 e1=> ?_⟩)
   |(rw[kI];refine⟨λe0 e1=> ?_,λe0 e1=> ?_⟩)
   |(rw[bz];refine⟨λ_=> ?_,λ_=> ?_⟩)
   |(rw[bJ];intro _ _))
 all_goals first
   |exact h
   |(rw[aW];subst e1;exact he)
theorem a0C (x:nE.B)(h:GF x.2.1.b.1 x.2.1.b.2.1 x.2.1.c.2.1 x.2.1.d.c.b.2.1):Po (il x) (λe:uh=>GF e.2.1.b.1 e.2.1.b.2.1 e.2.1.c.2.1 e.2.1.d.c.b.2.1):=by
 unfold il Aj;try dsimp only
 show PW _ _;try dsimp only
 repeat' (first
   |(rw[dz];exact trivial)
   |(with_reducible refine aI (aVO _ ?_) λe _ he=> ?_)
   |(rw[pO];refine⟨λe0 e1=> ?_,λe0 e1=> ?_⟩)
   |(rw[kI];refine⟨λe0 e1=> ?_,λe0 e1=> ?_⟩)
   |(rw[bz];refine⟨λ_=> ?_,λ_=> ?_⟩)
   |(rw[bJ];intro _ _))
 all_goals first
   |exact h
   |(rw[aW];first|exact h|exact he)
theorem aSy:∀(d:sG.B) (hd:0<=d.1.2/\d.1.2<=24/\(∀j,j<276->Ur (d.c.1 j))/\(∀j:Nat,(j:Int)<d.1.2->Dr (d.c.2 j))),Po (Vm d) (λx:GZ=>uD x.b.2.2):=
 oZ (λd hd=>by
  unfold Vl;try dsimp only
  try dsimp only
  obtain⟨i0,i1,i2,i3⟩:=hd;rw[bz];refine⟨λh=> ?_,λh=> ?_⟩
  .have h:=dh h;have hw:wI (d.1.2+1)=d.1.2+1:=bf
   have key:∀(x:Int) (n:Nat->Int),Dr x->(∀j,n j=bif z9 j (z4 d.1.2) then x else d.c.2 j)->(∀j:Nat,(j:Int)<d.1.2+1->Dr (n j)):=λx n hx hn j hj=>by
    rw[hn];cases hb:z9 j (z4 d.1.2) with
    |true=>exact hx
    |false=>
     have nb:j≠z4 d.1.2:=λh=>by rw[h,Ar] at hb;cases hb
     exact i3 j (by omega)
   rw[hw]
   repeat' (first
    |(rw[dz];exact trivial)
    |(with_reducible refine aI (aBR _ _) λe _ he=> ?_)
    |(rw[bz];refine⟨λ_=> ?_,λ_=> ?_⟩))
   .rw[aW]
    exact⟨by show 0<=d.1.2+1;omega,by show d.1.2+1<=24;omega,i2,key e.1 _ he λj=>by
     show(bif z9 j (z4 d.1.2) then e.1 else bif z9 j (z4 d.1.2) then 1 else d.c.2 j)=_;cases z9 j (z4 d.1.2)<;>rfl⟩
   .rw[aW];exact⟨by show 0<=d.1.2+1;omega,by show d.1.2+1<=24;omega,i2,key 1 _ (by decide) λj=>rfl⟩
  .have h:=wS h;rw[aW];exact⟨i2,λj hj=>i3 j (by omega)⟩)
theorem aVP (x0:Nat)(x1:Bool)(x2:Nat->Int)(w0:Bool):Po (Km x0 x1 x2 w0) (λr=>uD r.1):=by
 unfold Km ag0;show PW _ _;rw[Iz];intro _;refine aI (aSy _ ⟨(show(0:Int)<=0 by decide),(show(0:Int)<=24 by decide),λj _=>(show Ur 0 by decide),λj hj=>absurd (show(j:Int)<0 from hj) (by omega)⟩) λe _ he=> ?_;rw[aW];exact he
theorem a43 (x:KQ.B):Po (AR x) (λr:P7=>match r with|.inl _=>True|.inr e=>Iv e.1.e.d.b.2.1/\uD e.1.e.d.b.2.2):=by
 unfold AR Y';try dsimp only
 show PW _ _;try dsimp only
 repeat' (first
   |(rw[dz];exact trivial)
   |(with_reducible refine aI (QX _ _) λs _ hs=> ?_)
   |(with_reducible refine aI (aVP _ _ _ _) λv _ hv=> ?_)
   |(rw[pO];refine⟨λe0 e1=> ?_,λe0 e1=> ?_⟩)
   |(rw[kI];refine⟨λe0 e1=> ?_,λe0 e1=> ?_⟩)
   |(rw[bz];refine⟨λ_=> ?_,λ_=> ?_⟩)
   |(rw[bJ];intro _ _))
 all_goals (rw[aW];first|exact trivial|exact⟨hs,hv⟩)
theorem aVQ (x:ko.B):Po (ij x) (λe:qu=>e.2.1=x.2.1/\e.d.c.1=x.d.c.1/\e.e.b.2.2=x.e.b.2.2):=by
 unfold ij vT;try dsimp only
 show PW _ _;try dsimp only
 repeat' (first
   |(rw[dz];exact trivial)
   |(rw[pO];refine⟨λe0 e1=> ?_,λe0 e1=> ?_⟩)
   |(rw[kI];refine⟨λe0 e1=> ?_,λe0 e1=> ?_⟩)
   |(rw[bz];refine⟨λ_=> ?_,λ_=> ?_⟩)
   |(rw[bJ];intro _ _))
 all_goals (rw[aW];exact⟨rfl,rfl,rfl⟩)
open Go.Ab Go.Ab.Pg Go.Ab.Rq
def aj1:=qa (pr (cu aQ FA) bL)
def Qa:=qe qN
abbrev aj2:=Qa.B
abbrev aj3:=Int->Int->Int->Bool->Option aj2
def aj4 (g:aj3):Ct:=(208,FC aj1 (lf Qa) (λb=>g b.1.1 b.1.2.1 b.1.b b.2))
def aj5 (x0:Int)(x1:Int)(x2:Int)(x3:Bool):Pg aj2:=let y0:=decide (x1>x2);ae (decide (x0<x1)) (ae (x1 !=x0) (ret (x1,true)) (ae y0 (ret (x1,true)) (ret (x1,x3)))) (ae y0 (ae (x1 !=x0) (ret (x1,true)) (ae y0 (ret (x1,true)) (ret (x1,x3)))) (ae (decide (x0>x2)) (ae (x2 !=x0) (ret (x2,true)) (ae y0 (ret (x2,true)) (ret (x2,x3)))) (ae (x0 !=x0) (ret (x0,true)) (ae y0 (ret (x0,true)) (ret (x0,x3))))))
def Um:=λx0 x1 x2 x3=>(aj5 x0 x1 x2 x3).val
theorem aDi:D1 [] [0] 208 aj1 (lf Qa) λb=>aj5 b.1.1 b.1.2.1 b.1.b b.2:=λb=>by kernel_rfl
theorem aDj [aA]:SC (aj4 Um):=s0 (.nil _) aDi
def arQ:=qa (pr (cu aQ jo) bL)
def Zc:=qe qN
abbrev arR:=Zc.B
abbrev adx:=Int->Bool->Option arR
def ady (g:adx):Ct:=(150,FC arQ (lf Zc) (λb=>g b.1 b.2))
def arS (J0:aj3)(x0:Int)(x1:Bool):Pg arR:=opt (J0 x0 (-1152921504606846976) 1152921504606846976 x1) λd=>ret d
def Jd:=λx0 x1=>(arS Um x0 x1).val
theorem aIf:∀J0,D0 [aj4 J0] 150 arQ (lf Zc) λb=>arS J0 b.1 b.2:=λ_ b=>by kernel_rfl
theorem arT [aA]:SC (ady Jd):=s0 (.c aDj (.nil _)) (aIf Um)
def aGX:=qa (pl jo nil)
def aoq:=qe aXb
abbrev aGY:=aoq.B
abbrev aud:=Int->Option aGY
def aue (g:aud):Ct:=(152,FC aGX (lf aoq) (λb=>g b))
def aGZ (x0:Int):Pg aGY:=ae (decide (x0<0)) (ret (wU (wI (0-x0)))) (ret (wU x0))
def Zd:=λx0=>(aGZ x0).val
theorem aSz:D0 [] 152 aGX (lf aoq) λb=>aGZ b:=λb=>by kernel_rfl
theorem aG0 [aA]:SC (aue Zd):=s0 (.nil _) aSz
def arU:=qa (pl (c an aIy) nil)
def Ze:=qe aQH
abbrev arV:=Ze.B
abbrev arW:=Int->Int->Option arV
def arX (g:arW):Ct:=(207,FC arU (lf Ze) (λb=>g b.1 b.2))
def arY (x0:Int)(x1:Int):Pg arV:=let y0:=v9 x0 4294967296;let y1:=v9 x1 4294967296;let y2:=wU (ws (wd (wn 64 x0&&&wn 64 4294967295)));let y3:=wU (ws (wd (wn 64 x1&&&wn 64 4294967295)));let y4:=wU (y2*y3);let y5:=wU (wU (y0*y3)+v9 y4 4294967296);let y6:=wU (wU (y2*y1)+wU (ws (wd (wn 64 y5&&&wn 64 4294967295))));ret (wU (wU (wU (y0*y1)+v9 y5 4294967296)+v9 y6 4294967296),wU (ws (wd (wn 64 (wU (y6*4294967296))|||wn 64 (wU (ws (wd (wn 64 y4&&&wn 64 4294967295))))))))
def adz:=λx0 x1=>(arY x0 x1).val
theorem aIg:D0 [] 207 arU (lf Ze) λb=>arY b.1 b.2:=λb=>by kernel_rfl
theorem aIh [aA]:SC (arX adz):=s0 (.nil _) aIg
def aJH:=qa (pl Cw nil)
def auf:=qe aKk
abbrev aJI:=auf.B
abbrev azf:=Int->Int->Option aJI
def azg (g:azf):Ct:=(149,FC aJH (lf auf) (λb=>g b.1 b.2))
def aJJ (AS:aud)(QY:arW)(x0:Int)(x1:Int):Pg aJI:=opt (AS x0) λd=>opt (AS x1) λak=>opt (QY d ak) λd=>ret (d.1,d.2,!decide (x0<0)==decide (x1<0))
def afx:=λx0 x1=>(aJJ Zd adz x0 x1).val
theorem aVR:∀AS QY,D0 [aue AS,arX QY] 149 aJH (lf auf) λb=>aJJ AS QY b.1 b.2:=λ_ _ b=>by kernel_rfl
theorem aJK [aA]:SC (azg afx):=s0 (.c aG0 (.c aIh (.nil _))) (aVR Zd adz)
def aG1:=qa (pl (c akD (cl akD nil)) nil)
def aor:=qe Cy
abbrev aG2:=aor.B
abbrev aG3:=Int->Int->Bool->Int->Int->Bool->Option aG2
def aG4 (g:aG3):Ct:=(246,FC aG1 (lf aor) (λb=>g b.1.1 b.1.2.1 b.1.b b.2.1 b.b.1 b.b.2))
def aG5 (x0:Int)(x1:Int)(x2:Bool)(x3:Int)(x4:Int)(x5:Bool):Pg aG2:=ae (decide (x0<x3)) (ret true) (ae (x0==x3) (ret (decide (x1<x4))) (ret false))
def aug:=λx0 x1 x2 x3 x4 x5=>(aG5 x0 x1 x2 x3 x4 x5).val
theorem aSA:D0 [] 246 aG1 (lf aor) λb=>aG5 b.1.1 b.1.2.1 b.1.b b.2.1 b.b.1 b.b.2:=λb=>by kernel_rfl
theorem aSB [aA]:SC (aG4 aug):=s0 (.nil _) aSA
def aJL:=qa (pl (c akD (cl akD nil)) nil)
def auh:=qe aKk
abbrev aJM:=auh.B
abbrev ao8:=Int->Int->Bool->Int->Int->Bool->Option aJM
def azh (g:ao8):Ct:=(206,FC aJL (lf auh) (λb=>g b.1.1 b.1.2.1 b.1.b b.2.1 b.b.1 b.b.2))
def aJN (aib:aG3)(x0:Int)(x1:Int)(x2:Bool)(x3:Int)(x4:Int)(x5:Bool):Pg aJM:=let y0:=wU (x0-x3);let y1:=wU (x3-x0);let y2:=wU (x0+x3);let y3:=wU (x1+x4);ae (x2==x5) (ae (decide (y3<x1)) (ret (wU (y2+1),y3,x2)) (ret (y2,y3,x2))) (opt (aib x0 x1 x2 x3 x4 x5) λd=>ae d (ae (decide (x4<x1)) (ret (wU (y1-1),wU (x4-x1),x5)) (ret (y1,wU (x4-x1),x5))) (ae (decide (x1<x4)) (ret (wU (y0-1),wU (x1-x4),x2)) (ret (y0,wU (x1-x4),x2))))
def afy:=λx0 x1 x2 x3 x4 x5=>(aJN aug x0 x1 x2 x3 x4 x5).val
theorem aVS:∀aib,D0 [aG4 aib] 206 aJL (lf auh) λb=>aJN aib b.1.1 b.1.2.1 b.1.b b.2.1 b.b.1 b.b.2:=λ_ b=>by kernel_rfl
theorem aJO [aA]:SC (azh afy):=s0 (.c aSB (.nil _)) (aVS aug)
def arZ:=qa (pl (c akD aIy) nil)
def Zf:=qe aKk
abbrev ar0:=Zf.B
abbrev ar1:=Int->Int->Bool->Int->Option ar0
def ar2 (g:ar1):Ct:=(151,FC arZ (lf Zf) (λb=>g b.1.1 b.1.2.1 b.1.b b.2))
def wN:=qs (st (pr (us 1 (c an (cu KW (us 1 (cu aM3 (cu ZE (c an (cl ai (us 63 nil))))))))) (pl (c (so aDZ) (cu (so (cu aDX (cu aDX (cu J5 nil)))) (cl (so aDZ) nil))) nil)))
def aDk:=qs (st (pr (us 1 (c an (cu KW (us 1 (cu aM3 (cu ZE (c an (c ai (us 4 (c ai (cl ab (us 57 nil)))))))))))) (pl (c (so aDZ) (cu (so (cu aDX (cu aDX (cu J5 nil)))) (cl (so aDZ) nil))) nil)))
abbrev J1:=(aS2×auo×Int×Int×Bool)
def aj6 {ρ:Type}(x:J1)(K:AX->St->Option ρ):Option ρ:=(λd=>K (.ex 0) (aDk.em ((d.1.1,d.1.2.1,d.1.b.1,d.1.b),d.2))) x
def aj7 (d:wN.B):PL wN J1:=let n4:=d.2.1;let n3:=d.1.2;let n2:=d.2.2;let n1:=d.1.1;let y0:=wI (n3.2-1);let y1:=decide (n3.2>=0);let y2:=decide (n3.2>=64);let y3:=wU (wI (ws (wd (wn 64 n3.2&&&wn 64 63))));let y4:=2^min (z4 y3) 64;let y5:= !decide (y3<0);let y6:=wU (ws (wd (wn 64 (wU (n3.1*2))|||wn 64 (wU (ws (wd (wn 64 (v9 n4.1 y4)&&&wn 64 1)))))));let y7:=wU (ws (wd (wn 64 (wU (n3.1*2))|||wn 64 (wU (ws (wd (wn 64 (v9 n4.2.1 y4)&&&wn 64 1)))))));ae y1 (ae y5 (ae y2 (ae y5 (ae (decide (y6>=n1)) (ae y2 (ae y5 (ret (w7 ((n1,wU (y6-n1),y0),n4,wU (ws (wd (wn 64 n2.1|||wn 64 (wU (1*y4))))),n2.2))) no) (ae y5 (ret (w7 ((n1,wU (y6-n1),y0),n4,n2.1,wU (ws (wd (wn 64 n2.2.1|||wn 64 (wU (1*y4))))),n2.2.2))) no)) (ret (w7 ((n1,y6,y0),d.2)))) no) (ae (decide (y7>=n1)) (ae y2 (ae y5 (ret (w7 ((n1,wU (y7-n1),y0),n4,wU (ws (wd (wn 64 n2.1|||wn 64 (wU (1*y4))))),n2.2))) no) (ae y5 (ret (w7 ((n1,wU (y7-n1),y0),n4,n2.1,wU (ws (wd (wn 64 n2.2.1|||wn 64 (wU (1*y4))))),n2.2.2))) no)) (ret (w7 ((n1,y7,y0),d.2))))) no) (ret (ww ((n1,n3.1,n3.2,y1),d.2)))
def aj8:=bG (aj7) 2000
def ar3 (Qb:ao8)(dX:LT wN J1)(x0:Int)(x1:Int)(x2:Bool)(x3:Int):Pg ar0:=opt (dX ((x3,0,127),(x0,x1,x2),0,0,x2)) λd=>ae (decide (d.1.2.1>=wU (d.1.1-d.1.2.1))) (opt (Qb d.2.2.1 d.2.2.2.1 d.2.2.2.2 0 1 d.2.2.2.2) λd=>ret d) (ret d.2.2)
def adA:=λx0 x1 x2 x3=>(ar3 afy aj8 x0 x1 x2 x3).val
abbrev QZ:=ao8×(LT wN J1)
def adB (p:QZ):KK:=⟨[azh p.1],⟨[⟨4,(0::3::rg 8 63 []),[]⟩],[fU 4 0 wN aj6 p.2],[],[],(some ⟨0,(rg 0 4 (rg 5 66 [])),[]⟩)⟩,0,151⟩
theorem azi (p:QZ):LI (adB p) 4 wN aj6 (aj7):=λ_ d c K=>by kernel_rfl
theorem aIi (p:QZ):D2 (adB p) arZ (lf Zf) λb=>ar3 p.1 p.2 b.1.1 b.1.2.1 b.1.b b.2:=λb=>by kernel_rfl
abbrev adC:QZ:=(afy,aj8)
theorem aIj [aA]:SC (ar2 adA):=sc (kS (k:=adB adC) (.c aJO (.nil _)) [4] [] ⟨kL (azi adC),trivial⟩ trivial (aIi adC))
def ar4:=qa (pr (cu aQ (cl akD nil)) bL)
def Zg:=qe qN
abbrev ar5:=Zg.B
abbrev adD:=Int->Int->Bool->Bool->Option ar5
def adE (g:adD):Ct:=(147,FC ar4 (lf Zg) (λb=>g b.1.1 b.1.2.1 b.1.b b.2))
def ar6 (x0:Int)(x1:Int)(x2:Bool)(x3:Bool):Pg ar5:=ae (decide (x0>0)) (ae x2 (ret (-1152921504606846976,true)) (ret (1152921504606846976,true))) (ae (decide (x1>1152921504606846976)) (ae x2 (ret (-1152921504606846976,true)) (ret (1152921504606846976,true))) (ae x2 (ret (wI (0-wI x1),x3)) (ret (wI x1,x3))))
def Je:=λx0 x1 x2 x3=>(ar6 x0 x1 x2 x3).val
theorem aIk:D1 [] [0] 147 ar4 (lf Zg) λb=>ar6 b.1.1 b.1.2.1 b.1.b b.2:=λb=>by kernel_rfl
theorem ar7 [aA]:SC (adE Je):=s0 (.nil _) aIk
def afz:=qa (pr (cu aQ FA) bL)
def NG:=qe qN
abbrev afA:=NG.B
abbrev afB:=Int->Int->Int->Bool->Option afA
def afC (g:afB):Ct:=(100,FC afz (lf NG) (λb=>g b.1.1 b.1.2.1 b.1.b b.2))
def afD (mL:adx)(Ht:azf)(AS:aud)(Q3:ar1)(sS:adD)(x0:Int)(x1:Int)(x2:Int)(x3:Bool):Pg afA:=opt (mL x0 x3) λd=>opt (mL x1 d.2) λak=>opt (Ht d.1 ak.1) λd=>opt (mL x2 ak.2) λaJ=>ae (aJ.1==0) (ae (d.1==0) (ae (d.2.1==0) (ret (0,true)) (ae d.2.2 (ret (-1152921504606846976,true)) (ret (1152921504606846976,true)))) (ae d.2.2 (ret (-1152921504606846976,true)) (ret (1152921504606846976,true)))) (opt (AS aJ.1) λbB=>opt (Q3 d.1 d.2.1 (!d.2.2==decide (aJ.1<0)) bB) λd=>opt (sS d.1 d.2.1 d.2.2 aJ.2) λd=>ret d)
def Qc:=λx0 x1 x2 x3=>(afD Jd afx Zd adA Je x0 x1 x2 x3).val
theorem azj:∀mL Ht AS Q3 sS,D0 [ady mL,azg Ht,aue AS,ar2 Q3,adE sS] 100 afz (lf NG) λb=>afD mL Ht AS Q3 sS b.1.1 b.1.2.1 b.1.b b.2:=λ_ _ _ _ _ b=>by kernel_rfl
theorem azk [aA]:SC (afC Qc):=s0 (.c arT (.c aJK (.c aG0 (.c aIj (.c ar7 (.nil _)))))) (azj Jd afx Zd adA Je)
def aos:=qa (pr (cu aQ jo) bL)
def Un:=qe qN
abbrev aot:=Un.B
abbrev aou:=Int->Bool->Option aot
def aov (g:aou):Ct:=(61,FC aos (lf Un) (λb=>g b.1 b.2))
def aow (Hu:afB)(x0:Int)(x1:Bool):Pg aot:=opt (Hu x0 1073741824 1000000 x1) λd=>ret d
def Zh:=λx0 x1=>(aow Qc x0 x1).val
theorem aG6:∀Hu,D0 [afC Hu] 61 aos (lf Un) λb=>aow Hu b.1 b.2:=λ_ b=>by kernel_rfl
theorem aG7 [aA]:SC (aov Zh):=s0 (.c azk (.nil _)) (aG6 Qc)
def ar8:=qa (pl (c akD jo) nil)
def Zi:=qe aKk
abbrev ar9:=Zi.B
abbrev asa:=Int->Int->Bool->Int->Option ar9
def asb (g:asa):Ct:=(148,FC ar8 (lf Zi) (λb=>g b.1.1 b.1.2.1 b.1.b b.2))
def asc (Qb:ao8)(x0:Int)(x1:Int)(x2:Bool)(x3:Int):Pg ar9:=let y0:=wI (x3-1);let y1:=wU (wI (x3-64));let y2:=wU (wI (64-x3));let y3:=wU y0;let y4:=wU (wI (x3-65));let y5:=2^min (z4 (wU x3)) 64;let y6:= !decide (wU x3<0);ae (x3==0) (ret (x0,x1,x2)) (ae (decide (y0>=64)) (ae (!decide (y4<0)) (opt (Qb x0 x1 x2 (wU (1*2^min (z4 y4) 64)) 0 x2) λd=>ae (decide (x3>=64)) (ae (!decide (y1<0)) (ret (0,v9 d.1 (2^min (z4 y1) 64),d.2.2)) no) (ae y6 (ae y6 (ae (!decide (y2<0)) (ret (v9 d.1 y5,wU (ws (wd (wn 64 (v9 d.2.1 y5)|||wn 64 (wU (d.1*2^min (z4 y2) 64))))),d.2.2)) no) no) no)) no) (ae (!decide (y3<0)) (opt (Qb x0 x1 x2 0 (wU (1*2^min (z4 y3) 64)) x2) λd=>ae (decide (x3>=64)) (ae (!decide (y1<0)) (ret (0,v9 d.1 (2^min (z4 y1) 64),d.2.2)) no) (ae y6 (ae y6 (ae (!decide (y2<0)) (ret (v9 d.1 y5,wU (ws (wd (wn 64 (v9 d.2.1 y5)|||wn 64 (wU (d.1*2^min (z4 y2) 64))))),d.2.2)) no) no) no)) no))
def adF:=λx0 x1 x2 x3=>(asc afy x0 x1 x2 x3).val
theorem aIl:∀Qb,D0 [azh Qb] 148 ar8 (lf Zi) λb=>asc Qb b.1.1 b.1.2.1 b.1.b b.2:=λ_ b=>by kernel_rfl
theorem aIm [aA]:SC (asb adF):=s0 (.c aJO (.nil _)) (aIl afy)
def asd:=qa (pr (cu aQ FA) bL)
def Zj:=qe qN
abbrev ase:=Zj.B
abbrev asf:=Int->Int->Int->Bool->Option ase
def asg (g:asf):Ct:=(99,FC asd (lf Zj) (λb=>g b.1.1 b.1.2.1 b.1.b b.2))
def ash (mL:adx)(Ht:azf)(Q4:asa)(sS:adD)(x0:Int)(x1:Int)(x2:Int)(x3:Bool):Pg ase:=opt (mL x0 x3) λd=>opt (mL x1 d.2) λak=>opt (Ht d.1 ak.1) λd=>opt (Q4 d.1 d.2.1 d.2.2 x2) λd=>opt (sS d.1 d.2.1 d.2.2 ak.2) λd=>ret d
def adG:=λx0 x1 x2 x3=>(ash Jd afx adF Je x0 x1 x2 x3).val
theorem aIn:∀mL Ht Q4 sS,D0 [ady mL,azg Ht,asb Q4,adE sS] 99 asd (lf Zj) λb=>ash mL Ht Q4 sS b.1.1 b.1.2.1 b.1.b b.2:=λ_ _ _ _ b=>by kernel_rfl
theorem aIo [aA]:SC (asg adG):=s0 (.c arT (.c aJK (.c aIm (.c ar7 (.nil _))))) (aIn Jd afx adF Je)
def aBU:=qa (pr (cu aQ Cw) bL)
def aic:=qe qN
abbrev aBV:=aic.B
abbrev aBW:=Int->Int->Bool->Option aBV
def aBX (g:aBW):Ct:=(60,FC aBU (lf aic) (λb=>g b.1.1 b.1.2 b.2))
def aBY (Q5:asf)(x0:Int)(x1:Int)(x2:Bool):Pg aBV:=opt (Q5 x0 x1 30 x2) λd=>ret d
def aox:=λx0 x1 x2=>(aBY adG x0 x1 x2).val
theorem aPf:∀Q5,D0 [asg Q5] 60 aBU (lf aic) λb=>aBY Q5 b.1.1 b.1.2 b.2:=λ_ b=>by kernel_rfl
theorem aPg [aA]:SC (aBX aox):=s0 (.c aIo (.nil _)) (aPf adG)
def Bg:=qa (pu (cu jq nil) (cd wQ λb0=>(c m6 (c oG (c (cl (gs b0.c.1 pK) nil) (cd yd λb4=>(cd rb λb5=>(cd re λb6=>(cd rf λb7=>(cd rj λb8=>(cd rm λb9=>(c nK (cd Ap λBV=>(c (cl (gs b0.e mN) nil) (c (cl (gs b4.b.1 aC) nil) (c (cl (gs b5.b.1 aC) nil) (c (cl (gs b6.b.1 aC) nil) (c (cl (gs b7.b.1 aC) nil) (c (cl (gs b8.b.1 aC) nil) (c (cl (gs b9.b.1 aC) nil) (cl (cl (gs BV.b jJ) nil) nil)))))))))))))))))))))
def GH:=qe (res (pl (sf (c afJ (cl akH nil))) (pu (cu fN axz) nil)))
abbrev U3:=GH.B
abbrev Iw:=Bg.B->Option U3
def U4 (g:Iw):Ct:=(24,FC Bg (lf GH) g)
def U5 (x:Bg.B):Pg U3:=ret (x.1.2.2.1,x.1.2.2.2.1)
def uY:=λx=>(U5 x).val
theorem apS:D0 [] 24 Bg (lf GH) λb=>U5 b:=λb=>by kernel_rfl
theorem apT [aA]:SC (U4 uY):=s0 (.nil _) apS
end Go.Proofs.YtldgljclcgaibaaGreat
namespace Go.Proofs.YtldgljclcgaibaaGreat
open Go.Ab Go.Ab.Pg
structure Clo (P:Int->Int->Bf->Prop):Prop where
 len:∀{m t b},P m t b->b.2.2.1<=64
 br:∀{m t u b c},P m t b->t<=u->BR u b c->P m u c
 pr:∀{m t b c},0<=m->m<=1000->P m t b->(PR b c∨SR b c)->P (m+1) t c
 up:∀{m t b},P m t b->P (m+1) t b
def Tq (T S:Int)(a:Bool)(n:Nat)(r:Nat->Int):Prop:=(a=false->S<=0)/\Qd T S n r
open Go.Ab Go.Ab.Pg Go.Ab.Rq
def aJP:=qa (pr (cu aQ aKn) bL)
def aui:=qe qN
abbrev aJQ:=aui.B
abbrev azl:=NI->NI->Int->Int->Bool->Option aJQ
def aJR (g:azl):Ct:=(35,FC aJP (lf aui) (λb=>g b.1.1.1 b.1.1.2 b.1.2.1 b.1.b b.2))
def Hv:=qs (st (dp (cu aQ (us 1 (c ai (c ai (us 1 (cu B8 (us 3 (c (ac (A4 2 1)) (c (ac (A4 3 1)) (cl ai (us 41 nil))))))))))) λv=>(pl (c bD (c gO (c (so (cl (gs v.b.1 oC) nil)) abC))) bK)))
def aPh:=qs (st (pr (cu aQ (us 1 (c ai (c ai (us 1 (cu B8 (us 3 (c (ac (A4 2 1)) (c (ac (A4 3 1)) (c ai (us 13 aXg))))))))))) (pl (c bD (c gO (c HS abC))) bK)))
abbrev abm:=((Int×Int×Nat×Nat×Int×Bool)×Bool×(NI×NI)×NI×Nat×NI)
def aBZ {ρ:Type}(x:abm)(K:AX->St->Option ρ):Option ρ:=(λd=>K (.ex 0) (aPh.em ((d.1.1,d.1.2.1,d.1.b.1,d.1.b.2.1,d.1.c.1,d.1.c),d.2.1,d.b.1,(d.1.b.1,d.b.2.1),d.c))) x
def abn (Rs:Mr)(aB:bR)(d:Hv.B):PL Hv abm:=let n2:=d.2.2.1;let n1:=d.1.2.2;let n3:=n1.2.2;let y0:=n1.1+1;let y1:=n1.2.1+1;let y2:=decide (n3<24);ae y2 (opt (Rs n2.1 n2.2 d.1.1 n3) λak=>ae (wr (y0*8) 140737488355328) (opt (Rs n2.1 n2.2 d.1.2.1 n3) λaJ=>ae (aZ n3 24) (opt (aB aJ (n2.2 (z4 n3)) 30 d.2.1) λbB=>ae (wr (y1*8) 140737488355328) (ret (w7 ((d.1.1,d.1.2.1,y0,y1,wI (n3+1)),bB.2,n2,λj=>bif z9 j n1.1 then ak else d.2.2.2.1 j,y1,λj=>bif z9 j n1.2.1 then bB.1 else d.2.2.2.2.2 j))) no) no) no) (ret (ww ((d.1.1,d.1.2.1,n1.1,n1.2.1,n3,y2),d.2)))
def aoy:=bG (abn wW aU) 2000
def azm (bj:dY)(dX:LT Hv abm)(x0:Nat->Int)(x1:Nat->Int)(x2:Int)(x3:Int)(x4:Bool):Pg aJQ:=let y0:=if x3>x2 then x3 else x2;ae (decide ((if x3<x2 then x3 else x2)<0)) (ret (0,x4)) (ae (decide (y0>=24)) (ret (0,x4)) (ae true (opt (dX ((x2,x3,0,0,y0),x4,(x0,x1),λx=>0,0,λx=>0)) λd=>let n1:=d.1.2.2;ae (z9 n1.1 n1.1) (ae (z9 n1.2.1 n1.2.1) (opt (bj 30 n1.1 n1.2.1 d.2.1 d.2.2.2.1 d.2.2.2.2.2 true true) λd=>ret d) no) no) no))
def Qe:=λx0 x1 x2 x3 x4=>(azm bu aoy x0 x1 x2 x3 x4).val
abbrev ao9:=Mr×bR×dY×(LT Hv abm)
def azn (p:ao9):KK:=⟨[al3 p.1,fg p.2.1,mH p.b.1],⟨[⟨5,(1::4::6::7::8::rg 12 41 []),[(9,[.i .i64]),(10,[.i .i64])]⟩],[fU 5 1 Hv aBZ p.b.2],[0],[],(some ⟨0,(rg 0 8 (rg 9 44 [])),[]⟩)⟩,1,35⟩
theorem aMo (p:ao9):LI (azn p) 5 Hv aBZ (abn p.1 p.2.1):=λ_ d c K=>by kernel_rfl
theorem aVT (p:ao9):D2 (azn p) aJP (lf aui) λb=>azm p.b.1 p.b.2 b.1.1.1 b.1.1.2 b.1.2.1 b.1.b b.2:=λb=>by kernel_rfl
abbrev azo:ao9:=(wW,aU,bu,aoy)
theorem aVU [aA]:SC (aJR Qe):=sc (kS (k:=azn azo) (.c avu (.c fK (.c nQ (.nil _)))) [5] [] ⟨kL (aMo azo),trivial⟩ trivial (aVT azo))
def aB0:=qa (pr (cu aQ (cl Cz nil)) bL)
def aid:=qe axu
abbrev aoz:=aid.B
abbrev aoA:=NI->NI->Bool->Option aoz
def aB1 (g:aoA):Ct:=(37,FC aB0 (lf aid) (λb=>g b.1.1 b.1.2 b.2))
def tM:=qs (st (pr (cu aQ (us 2 (cu B8 (cu AT (cu ZH (us 1 aQg)))))) (pl (c bD (c gO J6)) bK)))
def asi:=qs (st (pr (cu aQ (us 2 (cu B8 (cu AT (cu ZH aXt))))) (pl (c bD (c gO J6)) bK)))
abbrev Jf:=asi.B
def asj {ρ:Type}:=@ef Jf ((.ex 0)) asi ρ
def adH (aVV:azl)(d:tM.B):PL tM Jf:=let y0:=z4 d.1;let y1:=decide (d.1<24);ae y1 (opt (aVV d.2.2.1.1 d.2.2.1.2 d.1 d.1 d.2.1) λak=>ae (aZ d.1 24) (ae (true&&wr (0+y0*1+1) 24) (ret (w7 (wI (d.1+1),ak.2,d.2.2.1,d.2.2.2.1,λj=>bif z9 j y0 then ak.1 else d.2.2.2.2 j))) no) no) (ret (ww ((d.1,y1),d.2)))
def adI:=bG (adH Qe) 2000
def aoB (dX:LT tM Jf)(x0:Nat->Int)(x1:Nat->Int)(x2:Bool):Pg aoz:=opt (dX (0,x2,(x0,x1),λx=>0,λx=>0)) λd=>ret (d.2.2.2.2,d.2.1)
def SB:=λx0 x1 x2=>(aoB adI x0 x1 x2).val
abbrev abo:=azl×(LT tM Jf)
def aoC (p:abo):KK:=⟨[aJR p.1],⟨[⟨3,(1::2::6::rg 8 11 []),[]⟩],[fU 3 1 tM asj p.2],[0],[],(some ⟨0,(rg 0 4 (rg 5 14 [])),[]⟩)⟩,1,37⟩
theorem aG8 (p:abo):LI (aoC p) 3 tM asj (adH p.1):=λ_ d c K=>by kernel_rfl
theorem aPi (p:abo):D2 (aoC p) aB0 (lf aid) λb=>aoB p.2 b.1.1 b.1.2 b.2:=λb=>by kernel_rfl
abbrev aoD:abo:=(Qe,adI)
theorem aPj [aA]:SC (aB1 SB):=sc (kS (k:=aoC aoD) (.c aVU (.nil _)) [3] [] ⟨kL (aG8 aoD),trivial⟩ trivial (aPi aoD))
def aw5:=qa (pl Cw nil)
def adJ:=qe (res (pl (aa (c gi (c gi (cu aP (cu aP (cu aP (cu aP (cu aP ku)))))))) (pu nil nil)))
abbrev aw6:=adJ.B
abbrev aie:=Int->Int->Option aw6
def aif (g:aie):Ct:=(39,FC aw5 (lf adJ) (λb=>g b.1 b.2))
def aw7 (NH:aou)(abp:aBW)(x0:Int)(x1:Int):Pg aw6:=opt (NH x1 false) λd=>opt (abp 10529810258 d.1 d.2) λd=>ret (x0,x1,wI (0-d.1))
def NJ:=λx0 x1=>(aw7 Zh aox x0 x1).val
theorem aMp:∀NH abp,D0 [aov NH,aBX abp] 39 aw5 (lf adJ) λb=>aw7 NH abp b.1 b.2:=λ_ _ b=>by kernel_rfl
theorem aw8 [aA]:SC (aif NJ):=s0 (.c aG7 (.c aPg (.nil _))) (aMp Zh aox)
def SD:=qa (pl (cl (aa rn) nil) nil)
def aj9:=qe (res (pu (ac aD5) (pu nil nil)))
def aDl:=qe (res (pu vU (pu nil (cu (cu (gp 1 434) aX9) (c (c gi (c gi (c gi (c gi (c gi (c gi (c gi (c gi (c gi (c gi (c gi (c gi (c gi (c gi (c gi (c gi (c gK (c gK (c gi (c gi (c gi (c gi (c gi (c gi (c gi (c gi (c gb (c gK (c aJY (cl gK (cu (gp 2 5) (cu (gp 3 10) (cu (gc (fO (pu rq6 (pu wO (pu Lx (pu Bi fR)))))) (cu aS6 (cu aS7 (cu aIE (cu aIF (cu aIG (cu (gp 10 8) (cu aIH (cu aP (cu aP (cu J5 (cu J5 (cu (gp 12 3) (cu J5 (cu aP (cu aP (cu aP (cu aP (cu J5 (cu J5 (cu J5 (cu aP (cu aP (cu aP (cu asr (cu aP (cu aP (cu aP (cu aP (cu aP (cu aP (cu aP (cu aP (cu aP (cu (gc (fO (pu aup (pu wO (pu Lx (pu (nat 10) fR)))))) nil))))))))))))))))))))))))))))))))))))))))))))))))))))))))))))))))))) (c gN (c aRb (c aYd (c aYH (c aYI (c aYJ (c aYK (c aYL (c (cu aP (cu aP (cu aP (cu aP (cu aP (cl gi (cu (gc (fO (pu aIw (pu wO (pu Lx (pu eI fR)))))) akF))))))) (c aKt (c (c gi (cl gi (cu (gc (fO (pu aDQ (pu wO (pu Lx (pu NR fR)))))) nil))) aYR))))))))))))))))
abbrev abq:=aj9.B⊕a3d
def aB2:abq->T:=ls (lf aj9) (λd=>lf aDl (d.1,d.2.1,d.b.1,(d.b.2.1,d.b.2.1,d.b.2.1,d.b.2.1,d.b.2.1,d.b.2.1,d.b.2.1,d.b.2.1),d.c.1,d.c.2.1,d.c.b.1,d.c.b.2.1,d.d.1,d.d.2.1,d.d.b.1,d.d.b.2.1,(d.b.2.1,d.b.2.1,d.b.2.1,d.b.2.1,d.b.2.1,d.b.2.1,d.b.2.1,d.b.2.1,d.b.2.1,d.b.2.1),(d.d.c.1,d.d.c.1,d.d.c.1,d.d.c.1,d.d.c.1,d.d.c.1,d.d.c.1,d.d.c.1,d.d.c.1),(d.d.c.2.1,d.d.c.2.1,d.d.c.2.1,d.d.c.2.1,d.d.c.2.1,d.d.c.2.1,d.d.c.2.1,d.d.c.2.1,d.d.c.2.1),(d.d.c.b.1,d.d.c.b.1,d.d.c.b.1,d.d.c.b.1,d.d.c.b.1,d.d.c.b.1,d.d.c.b.1,d.d.c.b.1,d.d.c.b.1),(d.d.c.b.2.1,d.d.c.b.2.1,d.d.c.b.2.1,d.d.c.b.2.1,d.d.c.b.2.1,d.d.c.b.2.1,d.d.c.b.2.1,d.d.c.b.2.1,d.d.c.b.2.1),(d.e.1,d.e.1,d.e.1,d.e.1,d.e.1,d.e.1,d.e.1,d.e.1,d.e.1),(d.e.2.1,d.e.2.1,d.e.2.1,d.e.2.1,d.e.2.1,d.e.2.1,d.e.2.1,d.e.2.1,d.e.2.1),d.e.b,d.e.b,d.e.b,d.e.b,d.e.b,d.e.b,d.e.b,d.e.b,d.e.b,d.e.b,d.e.b))
abbrev aoE:=SD.B->Option abq
def aB3 (g:aoE):Ct:=(12,FC SD aB2 g)
def aoF (aih:aGN)(x:SD.B):Pg abq:=opt (aih x) λd=>ae (match d with|w7 val=>true|ww val=>false) (opt (match d with|w7 a=>some a|ww val=>none) λd=>ret (w7 ())) (opt (match d with|ww b=>some b|w7 val=>none) λd=>ret (ww d))
def SE:=λx=>(aoF AR x).val
theorem aPk:∀aih,D0 [at7 aih] 12 SD aB2 λb=>aoF aih b:=λ_ b=>by kernel_rfl
theorem aPl [aA]:SC (aB3 SE):=s0 (.c aGQ (.nil _)) (aPk AR)
def oY:=qa (pu (cu vU nil) (c abB (cd asD λb1=>(c m6 (c oG (c (cl (gs b1.c.1 pK) nil) (cd rb λb5=>(cd re λb6=>(cd rf λb7=>(cd rj λb8=>(cd rm λb9=>(cd aEa λb10=>(c nK (cd aD2 λb12=>(c (cl (gs b1.e mN) nil) (c (cl (gs b5.b.1 aC) nil) (c (cl (gs b6.b.1 aC) nil) (c (cl (gs b7.b.1 aC) nil) (c (cl (gs b8.b.1 aC) nil) (c (cl (gs b9.b.1 aC) nil) (c (cl (gs b10.b.1 aC) nil) (cl (cl (gs b12.b jJ) nil) nil))))))))))))))))))))))
def apU:=qe (res (pu Q8 (pr (c (An abB) (cl (An aRe) aEf)) aYV)))
abbrev xR:=((auo×GJ×Bool×NI×(NI×NI)×(Nat×Nat)×se×Bool×Int×lJ×Bool×Bool×Bool×Int×Int×Int×Fv×Nat)×(lJ×Int×Int)×NQ×SM×bY×bY×bY×bY×bY×bY×Lw×uG×Fz×cY×cY×cY×cY×cY×cY×Nat×NI×NI×NI×NI×NI×NI×NI×NI×NI×NI×NI)
def Zk:xR->T:=λd=>lf apU (d.1,d.2.1,d.b.1,d.b.2.1,d.c.1,d.c.2.1,d.c.b.1,d.c.b.2.1,d.d.1,d.d.2.1,d.d.b.1,d.d.b.2.1,d.d.c.1,(d.c.1.b.1,d.d.c.2.1),(d.c.2.1.b.1,d.d.c.b.1),(d.c.b.1.b.1,d.d.c.b.2.1),(d.c.b.2.1.b.1,d.e.1),(d.d.1.b.1,d.e.2.1),(d.d.2.1.b.1,d.e.b.1),d.e.b.2)
abbrev KS:=oY.B->Option xR
def Zl (g:KS):Ct:=(15,FC oY Zk g)
def lp:=qs (st (pr (cu vU (us 1 (cl ai (us 34 nil)))) (pl (c (so abB) (c (so aRe) (cu nO (cu nO (cu nO (cu nO (cu nO (cu nO (cu nO (cu nO (cu nO (cu nO (cu nO (cu nO (cu nO (cu nO (cu nO (cu nO (cu nO (cu nO (cu nO (c m7 (c m8 (c oF (cd (so aEh) λb24=>(cd aEi λb25=>(cd abG λb26=>(cd abH λb27=>(cd abI λb28=>(cd afR λb29=>(c lO (c (so aQ3) (c vd (c (so (cl (gs b24.b.1 aC) nil)) (c (so (cl (gs b25.b.1 aC) nil)) (c (so (cl (gs b26.b.1 aC) nil)) (c (so (cl (gs b27.b.1 aC) nil)) (c (so (cl (gs b28.b.1 aC) nil)) (c (so (cl (gs b29.b.1 aC) nil)) HU))))))))))))))))))))))))))))))))))))))) afS)))
def aoG:=qs (st (pr (cu vU (us 1 (c ai (us 25 aYA)))) (pl (c (so abB) (c (so aRe) (cu nO (cu nO (cu nO (cu nO (cu nO (cu nO (cu nO (cu nO (cu nO (cu nO (cu nO (cu nO (cu nO (cu nO (cu nO (cu nO (cu nO (cu nO (cu nO (c m7 (c m8 (c oF (c (so aEh) (c aEi (c abG (c abH (c abI (c afR (c lO (c (so aQ3) Bj)))))))))))))))))))))))))))))))) afS)))
abbrev tN:=(lJ×(Int×Bool)×(GJ×Bool×NI×(NI×NI)×(Nat×Nat)×se×Bool×Int×lJ×Bool×Bool×Bool×Int×Int×Int×Fv×Nat)×(lJ×Int×Int)×NQ×SM×bY×bY×bY×bY×bY×bY×Lw×uG×Fz×cY×cY×cY×cY×cY×cY×Nat×NI×NI×NI×NI×NI×NI×NI×NI×NI×NI×NI)
def SF {ρ:Type}(x:tN)(K:AX->St->Option ρ):Option ρ:=(λd=>K .nrm (aoG.em ((d.1.1,d.1.2.1,d.1.1,d.1.b),(d.2.1.1,d.1.b,d.2.1.2),d.b.1,d.b.2.1,d.c.1,d.c.2.1,d.c.b.1,d.c.b.2.1,d.d.1,d.d.2.1,d.d.b.1,d.d.b.2.1,d.d.c.1,d.d.c.2.1,d.d.c.b.1,(d.c.b.1.b.1,d.d.c.b.2.1),(d.c.b.2.1.b.1,d.e.1),(d.d.1.b.1,d.e.2.1),(d.d.2.1.b.1,d.e.b.1),(d.d.b.1.b.1,d.e.b.2.1),(d.d.b.2.1.b.1,d.e.c.1),d.e.c.2))) x
def SG (d:lp.B):Pg tN:=ret ((d.1,d.2.1.2.1,wI (d.2.1.2.1+d.1)),(d.2.1.1,d.2.1.2.2),d.2.2)
def tO (d:lp.B):Option tN:=(SG d).val
def SH:Hd:=⟨3,(1::rg 3 34 []),[(0,[])]⟩
def DE (aMq:aie)(NK:Ah)(dX:LT lp tN)(x:oY.B):Pg xR:=let n7:=x.2.2.2.2.2;let n3:=x.2.1.2.2.2.2;let n6:=n3.2.2.2.2.2.2.2.2.2.2.2.2;let n1:=n7.2;let n4:=n1.2.2.2;let y0:=wI (x.1.1+8000);opt (aMq y0 8000) λd=>ae (z9 n3.1 n3.1) (ae (z9 n6 n6) (ae (z9 n7.1.2.2.1 n7.1.2.2.1) (ae (z9 n1.1.2.2.1 n1.1.2.2.1) (ae (z9 n1.2.1.2.2.1 n1.2.1.2.2.1) (ae (z9 n1.2.2.1.2.2.1 n1.2.2.1.2.2.1) (ae (z9 n4.1.2.2.1 n4.1.2.2.1) (ae (z9 n4.2.1.2.2.1 n4.2.1.2.2.1) (ae (z9 n4.2.2.2.1.2.2 n4.2.2.2.1.2.2) (opt (NK ((d.1,d.2.1,(0,0,0),0,0,d.2.2),x.2)) λd=>let n2:=d.2.2.2.2.2;let n5:=n2.2.2.2;let uM:=z9 n2.1.2.2.1 n2.1.2.2.1;let y1:=z9 n2.2.1.2.2.1 n2.2.1.2.2.1;let y2:=z9 n2.2.2.1.2.2.1 n2.2.2.1.2.2.1;let y3:=z9 n5.1.2.2.1 n5.1.2.2.1;let y4:=z9 n5.2.1.2.2.1 n5.2.1.2.2.1;let y5:=z9 n5.2.2.1.2.2.1 n5.2.2.1.2.2.1;ae (d.1.2==0) (ae uM (ae y1 (ae y2 (ae y3 (ae y4 (ae y5 (opt (dX (d.1.1,(y0,x.1.2),d.2)) λd=>ret (((d.2.1.1,d.1.2.2,d.2.1.2),d.2.2.1),d.2.2.2)) no) no) no) no) no) no) (ae uM (ae y1 (ae y2 (ae y3 (ae y4 (ae y5 (opt (dX (d.1.1,x.1,d.2)) λd=>ret (((d.2.1.1,d.1.2.2,d.2.1.2),d.2.2.1),d.2.2.2)) no) no) no) no) no) no)) no) no) no) no) no) no) no) no) no
def mC:=λx=>(DE NJ il tO x).val
abbrev DF:=aie×Ah×(LT lp tN)
def KU (p:DF):KK:=⟨[aif p.1,Ai p.2.1],⟨[],[],(rg 0 21 []),[⟨SH,fU 3 21 lp SF p.b⟩],(some ⟨0,(rg 0 37 []),[(3,[]),(4,[]),(5,[]),(6,[]),(7,[]),(8,[]),(9,[]),(10,[]),(11,[]),(12,[]),(13,[]),(14,[]),(15,[]),(16,[]),(17,[]),(18,[]),(19,[]),(20,[]),(21,[]),(22,[]),(0,[])]⟩)⟩,21,15⟩
theorem akv (p:DF):JI (KU p) 3 lp SF (SG):=λ_ d K=>by kernel_rfl
theorem auj (p:DF):D2 (KU p) oY Zk λb=>DE p.1 p.2.1 p.b b:=λb=>by kernel_rfl
abbrev KV:DF:=(NJ,il,tO)
theorem auk [aA]:SC (Zl mC):=sc (kS (k:=KU KV) (.c aw8 (.c NF (.nil _))) [] [3] trivial ⟨kJ SH (akv KV),trivial⟩ (auj KV))
def lD:=qa (pr (cu vU (cl (aa (c gi (c gi (c gi (a 8 aD8 aKm))))) nil)) (c abB (cd asD λb1=>(c m6 (c oG (c (cl (gs b1.c.1 pK) nil) (cd rb λb5=>(cd re λb6=>(cd rf λb7=>(cd rj λb8=>(cd rm λb9=>(cd aEa λb10=>(c nK (cd aD2 λb12=>(c (cl (gs b1.e mN) nil) (c (cl (gs b5.b.1 aC) nil) (c (cl (gs b6.b.1 aC) nil) (c (cl (gs b7.b.1 aC) nil) (c (cl (gs b8.b.1 aC) nil) (c (cl (gs b9.b.1 aC) nil) (c (cl (gs b10.b.1 aC) nil) (cl (cl (gs b12.b jJ) nil) nil))))))))))))))))))))))
def akw:=qe (res (pu Q8 (pr (c (An abB) (cl (An (a 26 rn (c gb (c gK (a 2 sU (cu (gp 21 5) (cu (gp 22 10) (c (gc (fO (pu (nat 23) (pu (ox (pu db (pu db Bi))) (pl gT (pu Bi fR)))))) aYO)))))))) aEf)) aYV)))
def akx:=qe (res (pu Q8 (pr (cl (An aQz) (cu Vb aEf)) (c aRf (c m6 (c oG (c aKr (c aKx (c aKy (c aKz (c aKA (c aQ8 (c aYx (c nK (c aQ4 aKD)))))))))))))))
abbrev qv:=((auo×GJ×Bool×NI×(NI×NI)×Nat×se×Bool×Int×lJ×Bool×Bool×Bool×Int×Int×Int×Fv×Nat)×(lJ×Int×Int)×NQ×aWR×bY×bY×bY×bY×bY×bY×Lw×uG×aMW×Fw×Fw×Fw×Fw×Fw×Fw×NI×NI×NI×NI×NI×NI×NI×NI×NI×NI×NI)⊕(auo×(GJ×Bool×NI×(NI×NI)×(Nat×Nat)×se×Bool×Int×lJ×Bool×Bool×Bool×Int×Int×Int×Fv×Nat)×(lJ×Int×Int)×NQ×SM×bY×bY×bY×bY×bY×bY×Lw×uG×Fz×cY×cY×cY×cY×cY×cY×Nat×NI×NI×NI×NI×NI×NI×NI×NI×NI×NI×NI)
def abr:qv->T:=ls (λd=>lf akw (d.1,d.2.1,d.b.1,(d.1.c.2.1,d.b.2.1),d.c.1,d.c.2.1,d.c.b.1,d.c.b.2.1,d.d.1,d.d.2.1,d.d.b.1,d.d.b.2.1,(d.1.e.2,d.d.c.1),d.d.c.2.1,d.d.c.b.1,d.d.c.b.2.1,d.e.1,d.e.2.1,d.e.b.1,d.d.b.2.1.b,d.e.b.2)) (λd=>lf akx (d.1,d.2.1,d.b.1,d.b.2.1,d.c.1,d.c.2.1,d.c.b.1,d.c.b.2.1,d.d.1,d.d.2.1,d.d.b.1,d.d.b.2.1,d.d.c.1,d.d.c.2.1,(d.c.2.1.b.1,d.d.c.b.1),(d.c.b.1.b.1,d.d.c.b.2.1),(d.c.b.2.1.b.1,d.e.1),(d.d.1.b.1,d.e.2.1),(d.d.2.1.b.1,d.e.b.1),(d.d.b.1.b.1,d.e.b.2.1),d.e.c))
abbrev NL:=lD.B->Option qv
def abt (g:NL):Ct:=(14,FC lD abr g)
def dM:=qs (st (pr (cu vU (us 2 (cu aM7 (xs 1 (us 1 (c ai (us 1 (cl ai (us 71 nil))))))))) (pl (c aD3 (cu nO (cu nO (cu nO (cu nO (cu nO (cu nO (cu nO (cu nO (cu nO (cu nO (cu nO (cu nO (cu nO (cu nO (cu nO (cu nO (cu nO (cu nO (cu nO (cu nO (c aEg (c aEm (c m7 (c m8 (c oF (cd abG λb26=>(cd abH λb27=>(cd abI λb28=>(cd afR λb29=>(cd asA λb30=>(cd aEj λb31=>(c lO (c aEe (c vd (c (so (cl (gs b26.b.1 aC) nil)) (c (so (cl (gs b27.b.1 aC) nil)) (c (so (cl (gs b28.b.1 aC) nil)) (c (so (cl (gs b29.b.1 aC) nil)) (c (so (cl (gs b30.b.1 aC) nil)) (c (so (cl (gs b31.b.1 aC) nil)) HU))))))))))))))))))))))))))))))))))))))))) afS)))
def aii:=qs (st (pr (cu vU (us 2 (cu aM7 (xs 1 (us 1 (c ai (us 1 (c ai (c ai (cu aKi (c ai (c ab (cu HP (c ai (c ab (c ab (cu HP (cu vU (cu vU (cu aKg (c ai (c ab (c ab (cu HP (cu vU (cu vU (cu aKh (c ai (c ab (cl ab aWV)))))))))))))))))))))))))))))) (pl (c aD3 (cu nO (cu nO (cu nO (cu nO (cu nO (cu nO (cu nO (cu nO (cu nO (cu nO (cu nO (cu nO (cu nO (cu nO (cu nO (cu nO (cu nO (cu nO (cu nO (cu nO (c aEg (c aEm (c m7 (c m8 (c oF (c abG (c abH (c abI (c afR (c asA (c aEj (c lO (c aEe Bj)))))))))))))))))))))))))))))))))) afS)))
def aij:=qs (st (pr (cu vU (us 2 (cu aM7 (xs 1 (us 1 (c ai (us 1 (c ai (c ai (cu aKi (c ai (c ab (cu HP (c ai (c ab (c ab (cu HP (cu vU (cu vU (cu aKg (c ai (c ab (cl ab aX3))))))))))))))))))))))) (pl (c aD3 (cu nO (cu nO (cu nO (cu nO (cu nO (cu nO (cu nO (cu nO (cu nO (cu nO (cu nO (cu nO (cu nO (cu nO (cu nO (cu nO (cu nO (cu nO (cu nO (cu nO (c aEg (c aEm (c m7 (c m8 (c oF (c abG (c abH (c abI (c afR (c asA (c aEj (c lO (c aEe Bj)))))))))))))))))))))))))))))))))) afS)))
def aik:=qs (st (pr (cu vU (us 2 (cu aM7 (xs 1 (us 1 (c ai (us 1 (c ai (c ai (cu aKi (c ai (c ab (cu HP (c ai (c ab (cl ab aYp)))))))))))))))) (pl (c aD3 (cu nO (cu nO (cu nO (cu nO (cu nO (cu nO (cu nO (cu nO (cu nO (cu nO (cu nO (cu nO (cu nO (cu nO (cu nO (cu nO (cu nO (cu nO (cu nO (cu nO (c aEg (c aEm (c m7 (c m8 (c oF (c abG (c abH (c abI (c afR (c asA (c aEj (c lO (c aEe Bj)))))))))))))))))))))))))))))))))) afS)))
def ail:=qs (st (pr (cu vU (us 2 (cu aM7 (xs 1 (us 1 (c ai (us 1 (c ai (c ai (cu aKi (c ai (cl ab (cu lM (xs 2 (cu lM aYp))))))))))))))) (pl (c aD3 (cu nO (cu nO (cu nO (cu nO (cu nO (cu nO (cu nO (cu nO (cu nO (cu nO (cu nO (cu nO (cu nO (cu nO (cu nO (cu nO (cu nO (cu nO (cu nO (cu nO (c aEg (c aEm (c m7 (c m8 (c oF (c abG (c abH (c abI (c afR (c asA (c aEj (c lO (c aEe Bj)))))))))))))))))))))))))))))))))) afS)))
abbrev ji:=((Int×Int×Int×Bool×Bool×Int×Bool×Int×Bool)×Bool×aSY×(GJ×Bool×NI×(NI×NI)×(Nat×Nat)×se×Bool×Int×lJ×Bool×Bool×Bool×Int×Int×Int×Fv×Nat)×(lJ×Int×Int)×NQ×SM×bY×bY×bY×bY×bY×bY×Lw×uG×Fz×cY×cY×cY×cY×cY×cY×Nat×NI×NI×NI×NI×NI×NI×NI×NI×NI×NI×NI)⊕(((Int×Int×Int×Bool×Bool×Int×Bool)×(Int×Bool)×aSY×(GJ×Bool×NI×(NI×NI)×(Nat×Nat)×se×Bool×Int×lJ×Bool×Bool×Bool×Int×Int×Int×Fv×Nat)×(lJ×Int×Int)×NQ×SM×bY×bY×bY×bY×bY×bY×Lw×uG×Fz×cY×cY×cY×cY×cY×cY×Nat×NI×NI×NI×NI×NI×NI×NI×NI×NI×NI×NI)⊕(((Int×Int×Int×Bool×Bool)×auo×aSY×(GJ×Bool×NI×(NI×NI)×(Nat×Nat)×se×Bool×Int×lJ×Bool×Bool×Bool×Int×Int×Int×Fv×Nat)×(lJ×Int×Int)×NQ×SM×bY×bY×bY×bY×bY×bY×Lw×uG×Fz×cY×cY×cY×cY×cY×cY×Nat×NI×NI×NI×NI×NI×NI×NI×NI×NI×NI×NI)⊕(aS2×auo×aSY×(GJ×Bool×NI×(NI×NI)×(Nat×Nat)×se×Bool×Int×lJ×Bool×Bool×Bool×Int×Int×Int×Fv×Nat)×(lJ×Int×Int)×NQ×SM×bY×bY×bY×bY×bY×bY×Lw×uG×Fz×cY×cY×cY×cY×cY×cY×Nat×NI×NI×NI×NI×NI×NI×NI×NI×NI×NI×NI)))
def U6 {ρ:Type}(x:ji)(K:AX->St->Option ρ):Option ρ:=(v4 (λd=>K (.ex 1) (aii.em ((d.1.1,d.1.2.1,d.1.1,d.1.b.1,d.1.b.2.1,d.1.1,d.1.c.1,d.1.c.1,d.1.c.2.1,d.1.c.b.1,d.1.c.b.1,d.1.c.b.2.1,d.1.d,d.1.d),(d.1.c.2.1,d.1.c.b.2.1,d.2.1),(d.b.1.1,d.b.1.2.1,d.1.b.1,d.b.1.b),d.b.2.1,d.c.1,d.c.2.1,d.c.b.1,d.c.b.2.1,d.d.1,d.d.2.1,d.d.b.1,d.d.b.2.1,d.d.c.1,d.d.c.2.1,d.d.c.b.1,d.d.c.b.2.1,(d.c.b.2.1.b.1,d.e.1),(d.d.1.b.1,d.e.2.1),(d.d.2.1.b.1,d.e.b.1),(d.d.b.1.b.1,d.e.b.2.1),(d.d.b.2.1.b.1,d.e.c.1),(d.d.c.1.b.1,d.e.c.2.1),d.e.c.b))) (v4 (λd=>K (.ex 1) (aij.em ((d.1.1,d.1.2.1,d.1.1,d.1.b.1,d.1.b.2.1,d.1.1,d.1.c.1,d.1.c.1,d.1.c.2.1,d.1.c.b,d.1.c.b),(d.1.c.2.1,d.2.1),(d.b.1.1,d.b.1.2.1,d.1.b.1,d.b.1.b),d.b.2.1,d.c.1,d.c.2.1,d.c.b.1,d.c.b.2.1,d.d.1,d.d.2.1,d.d.b.1,d.d.b.2.1,d.d.c.1,d.d.c.2.1,d.d.c.b.1,d.d.c.b.2.1,(d.c.b.2.1.b.1,d.e.1),(d.d.1.b.1,d.e.2.1),(d.d.2.1.b.1,d.e.b.1),(d.d.b.1.b.1,d.e.b.2.1),(d.d.b.2.1.b.1,d.e.c.1),(d.d.c.1.b.1,d.e.c.2.1),d.e.c.b))) (v4 (λd=>K (.ex 1) (aik.em ((d.1.1,d.1.2.1,d.1.1,d.1.b.1,d.1.b.2.1,d.1.1,d.1.c,d.1.c),d.2.1,(d.b.1.1,d.b.1.2.1,d.1.b.1,d.b.1.b),d.b.2.1,d.c.1,d.c.2.1,d.c.b.1,d.c.b.2.1,d.d.1,d.d.2.1,d.d.b.1,d.d.b.2.1,d.d.c.1,d.d.c.2.1,d.d.c.b.1,d.d.c.b.2.1,(d.c.b.2.1.b.1,d.e.1),(d.d.1.b.1,d.e.2.1),(d.d.2.1.b.1,d.e.b.1),(d.d.b.1.b.1,d.e.b.2.1),(d.d.b.2.1.b.1,d.e.c.1),(d.d.c.1.b.1,d.e.c.2.1),d.e.c.b))) (λd=>K (.ex 1) (ail.em ((d.1.1,d.1.2.1,d.1.1,d.1.b),d.2.1,(d.b.1.1,d.b.1.2.1,d.1.b.1,d.b.1.b),d.b.2.1,d.c.1,d.c.2.1,d.c.b.1,d.c.b.2.1,d.d.1,d.d.2.1,d.d.b.1,d.d.b.2.1,d.d.c.1,d.d.c.2.1,d.d.c.b.1,d.d.c.b.2.1,(d.c.b.2.1.b.1,d.e.1),(d.d.1.b.1,d.e.2.1),(d.d.2.1.b.1,d.e.b.1),(d.d.b.1.b.1,d.e.b.2.1),(d.d.b.2.1.b.1,d.e.c.1),(d.d.c.1.b.1,d.e.c.2.1),d.e.c.b)))))) x
def Bh (aul:KS)(d:dM.B):PL dM ji:=let n15:=d.1.2;let cm:=d.2.2.1;let bH:=d.1.1;let bk:=d.2.1;let n8:=cm.2.2;let n4:=d.2.2.2;let n7:=n4.1.2.2.2.2;let bM:=n7.2.2.2.2.2.2.2.2.2.2.2.2;let n6:=n4.2.2.2.2;let n2:=n6.2.2.2;let n16:=n2.2.2;let n5:=n16.2.2;let bo:=n5.2.2.2.2;let n3:=bo.2.2.2.2.2;let n9:=n3.2.2.2.2.2;let n1:=(cm.1,cm.2.1,n8.2);let y0:=decide (bH<40);let y1:=decide (bk.1<562949953421312);let y2:=decide (bk.2.1<60);let y3:=decide (bH<n8.1);ae y3 (ae y0 (ae y1 (ae y2 (ae (z9 n7.1.2 n7.1.2) (ae (z9 bM bM) (ae (z9 n6.1.2.2.1 n6.1.2.2.1) (ae (z9 n6.2.1.2.2.1 n6.2.1.2.2.1) (ae (z9 n6.2.2.1.2.2.1 n6.2.2.1.2.2.1) (ae (z9 n2.1.2.2.1 n2.1.2.2.1) (ae (z9 n2.2.1.2.2.1 n2.2.1.2.2.1) (ae (z9 n16.1.2.2.1 n16.1.2.2.1) (ae (z9 n5.1.2.2 n5.1.2.2) (opt (aul (bk,(n4.1.1,n4.1.2.1,n4.1.2.2.1,n4.1.2.2.2.1,n7.1.2,n7.2),n4.2.1,n4.2.2.1,(sh8 n7.1.1 n4.2.2.2.1.2),n6.1,n6.2.1,n6.2.2.1,n2.1,n2.2.1,n16.1,n16.2.1,n5.1,(aMV 0 n5.2.1.2),(Va 0 n5.2.2.1),(Va 0 n5.2.2.2.1),(Va 0 bo.1),(Va 0 bo.2.1),(Va 0 bo.2.2.1),(Va 0 bo.2.2.2.1),λj=>n3.1 (0+j),λj=>n3.2.1 (0+j),λj=>n3.2.2.1 (0+j),λj=>n3.2.2.2.1 (0+j),λj=>n3.2.2.2.2.1 (0+j),λj=>n9.1 (0+j),λj=>n9.2.1 (0+j),λj=>n9.2.2.1 (0+j),λj=>n9.2.2.2.1 (0+j),λj=>n9.2.2.2.2.1 (0+j),λj=>n9.2.2.2.2.2 (0+j))) λak=>ret (w7 ((wI (bH+1),n15),ak.1.1,cm,ak.1.2,ak.2))) no) no) no) no) no) no) no) no) no) (ret (ww (w7 ((bH,n15,n8.1,y3,y0,bk.1,y1,bk.2.1,y2),bk.2.2,n1,n4))))) (ret (ww (ww (w7 ((bH,n15,n8.1,y3,y0,bk.1,y1),bk.2,n1,n4)))))) (ret (ww (ww (ww (w7 ((bH,n15,n8.1,y3,y0),bk,n1,n4))))))) (ret (ww (ww (ww (ww ((bH,n15,n8.1,y3),bk,n1,n4))))))
def qC:=bG (Bh mC) 2000
def mD:=qs (st (pr (cu vU (us 3 aW2)) (pl (c (so aQz) (cu nO (cu nO (cu nO (cu nO (cu nO (cu nO (cu nO (cu nO (cu nO (cu nO (cu nO (cu nO (cu nO (cu nO (cu nO (cu nO (cu nO (cu nO (cu nO (cu nO (c (so aRf) (c m7 (c m8 (c oF (cd aEi λb25=>(cd abG λb26=>(cd abH λb27=>(cd abI λb28=>(cd afR λb29=>(cd asA λb30=>(c lO (c (so aQ4) (c vd (c (so (cl (gs b25.b.1 aC) nil)) (c (so (cl (gs b26.b.1 aC) nil)) (c (so (cl (gs b27.b.1 aC) nil)) (c (so (cl (gs b28.b.1 aC) nil)) (c (so (cl (gs b29.b.1 aC) nil)) (c (so (cl (gs b30.b.1 aC) nil)) HU)))))))))))))))))))))))))))))))))))))))) afS)))
def apV:=qs (st (pr (cu vU (us 3 (c ai (us 66 aYA)))) (pl (c (so aQz) (cu nO (cu nO (cu nO (cu nO (cu nO (cu nO (cu nO (cu nO (cu nO (cu nO (cu nO (cu nO (cu nO (cu nO (cu nO (cu nO (cu nO (cu nO (cu nO (cu nO (c (so aRf) (c m7 (c m8 (c oF (c aEi (c abG (c abH (c abI (c afR (c asA (c lO (c (so aQ4) Bj))))))))))))))))))))))))))))))))) afS)))
abbrev uZ:=(lJ×(Int×Bool)×(GJ×Bool×NI×(NI×NI)×(Nat×Nat)×se×Bool×Int×lJ×Bool×Bool×Bool×Int×Int×Int×Fv×Nat)×(lJ×Int×Int)×NQ×SM×bY×bY×bY×bY×bY×bY×Lw×uG×Fz×cY×cY×cY×cY×cY×cY×Nat×NI×NI×NI×NI×NI×NI×NI×NI×NI×NI×NI)
def U7 {ρ:Type}(x:uZ)(K:AX->St->Option ρ):Option ρ:=(λd=>K .nrm (apV.em ((d.1.1,d.1.2.1,d.1.1,d.1.b),(d.2.1.1,d.1.b,d.2.1.2),d.b.1,d.b.2.1,d.c.1,d.c.2.1,d.c.b.1,d.c.b.2.1,d.d.1,d.d.2.1,d.d.b.1,d.d.b.2.1,d.d.c.1,d.d.c.2.1,d.d.c.b.1,(d.c.b.1.b.1,d.d.c.b.2.1),(d.c.b.2.1.b.1,d.e.1),(d.d.1.b.1,d.e.2.1),(d.d.2.1.b.1,d.e.b.1),(d.d.b.1.b.1,d.e.b.2.1),(d.d.b.2.1.b.1,d.e.c.1),d.e.c.2))) x
def U8 (d:mD.B):Pg uZ:=ret ((d.1,d.2.1.2.1,wI (d.2.1.2.1+d.1)),(d.2.1.1,d.2.1.2.2),d.2.2)
def u3 (d:mD.B):Option uZ:=(U8 d).val
def U9:Hd:=⟨13,(1::2::3::rg 5 75 []),[(3,[]),(4,[]),(5,[]),(6,[]),(7,[]),(8,[]),(9,[]),(10,[]),(11,[]),(12,[]),(13,[]),(14,[]),(15,[]),(16,[]),(17,[]),(18,[]),(19,[]),(20,[]),(21,[]),(22,[]),(0,[])]⟩
def Fs (aim:DB)(NK:Ah)(dX:LT dM ji)(p6:LT mD uZ)(x:lD.B):Pg qv:=let cm:=x.2.1;let bH:=x.1.2;let n8:=x.2.2;let n6:=n8.2.2.2.2;let n5:=bH.2.2.1;let bM:=n5.2.2;let n4:=n8.1.2.2.2.2;let n7:=n4.2.2.2.2.2.2.2.2.2.2.2.2;let n1:=n6.2.2;let bo:=n1.2.2;let n2:=bo.2.2.2;let n9:=n2.2.2.2.2;let y0:=z9 n4.1 n4.1;let y1:=z9 n7 n7;let y2:=z9 n6.1.2.2.1 n6.1.2.2.1;let y3:=z9 n6.2.1.2.2.1 n6.2.1.2.2.1;let y4:=z9 n1.1.2.2.1 n1.1.2.2.1;let y5:=z9 n1.2.1.2.2.1 n1.2.1.2.2.1;let y6:=z9 bo.1.2.2.1 bo.1.2.2.1;let y7:=z9 bo.2.1.2.2.1 bo.2.1.2.2.1;let y8:=z9 n2.1.2.2 n2.1.2.2;ae (x.1.1==1) (ae y0 (ae y1 (ae y2 (ae y3 (ae y4 (ae y5 (ae y6 (ae y7 (ae y8 (opt (aim ((bH.1,bH.2.2.2),n8)) λd=>ret (w7 ((cm,d.2.1),d.2.2))) no) no) no) no) no) no) no) no) no) (ae (x.1.1==0) (ae y0 (ae y1 (ae y2 (ae y3 (ae y4 (ae y5 (ae y6 (ae y7 (ae y8 (opt (NK (n5,n8)) λd=>let n3:=d.2.2.2.2.2;let bk:=n3.2.2.2;let y0:=d.1.2==0;let y1:=z9 n3.1.2.2.1 n3.1.2.2.1;let y2:=z9 n3.2.1.2.2.1 n3.2.1.2.2.1;let y3:=z9 n3.2.2.1.2.2.1 n3.2.2.1.2.2.1;let y4:=z9 bk.1.2.2.1 bk.1.2.2.1;let y5:=z9 bk.2.1.2.2.1 bk.2.1.2.2.1;let y6:=z9 bk.2.2.1.2.2.1 bk.2.2.1.2.2.1;ae y0 (ae y1 (ae y2 (ae y3 (ae y4 (ae y5 (ae y6 (opt (p6 (d.1.1,(n5.1,cm.2.1,y0),d.2)) λd=>ret (ww ((d.2.1.1,d.1.2.2,d.2.1.2),d.2.2))) no) no) no) no) no) no) (ae y1 (ae y2 (ae y3 (ae y4 (ae y5 (ae y6 (opt (p6 (d.1.1,(cm.1,cm.2.1,y0),d.2)) λd=>ret (ww ((d.2.1.1,d.1.2.2,d.2.1.2),d.2.2))) no) no) no) no) no) no)) no) no) no) no) no) no) no) no) no) (ae y2 (ae y3 (ae y4 (ae y5 (ae y6 (ae y7 (opt (dX ((0,x.1.1),cm,(x.1.1,bH.1,bH.2.1,n5.1,n5.2.1,bM.1.1,bM.1.2.1,bM.1.2.2,bM.2.1,bM.2.2.1,bM.2.2.2,bH.2.2.2),(n8.1.1,n8.1.2.1,n8.1.2.2.1,n8.1.2.2.2.1,(0,n4.1),n4.2),n8.2.1,n8.2.2.1,(n4.1,n8.2.2.2.1),n6.1,n6.2.1,n1.1,n1.2.1,bo.1,bo.2.1,bo.2.2.1,n2.1,(n7,n2.2.1),n2.2.2.1,n2.2.2.2.1,n9.1,n9.2.1,n9.2.2.1,n9.2.2.2.1,n2.1.2.2,n9.2.2.2.2)) λx=>sum x (λd=>ret (ww ((d.1.2.2.2.2.2.1,d.1.2.2.2.2.2.2.2.1,d.2.1),d.2.2.2))) λx=>sum x (λd=>ret (ww ((d.1.2.2.2.2.2.1,d.2.1),d.2.2.2))) λx=>sum x (λd=>ret (ww (d.2.1,d.2.2.2))) λd=>ret (ww (d.2.1,d.2.2.2))) no) no) no) no) no) no))
def jI:=λx=>(Fs ij il qC u3 x).val
abbrev Al:=DB×Ah×KS×(LT dM ji)×(LT mD uZ)
def Ft (p:Al):KK:=⟨[NB p.1,Ai p.2.1,Zl p.b.1],⟨[⟨3,(1::2::5::7::rg 9 71 []),[(3,[]),(4,[]),(5,[]),(6,[]),(7,[]),(8,[]),(9,[]),(10,[]),(11,[]),(12,[]),(13,[]),(14,[]),(15,[]),(16,[]),(17,[]),(18,[]),(19,[]),(20,[]),(21,[]),(22,[]),(0,[])]⟩],[fU 3 21 dM U6 p.b.2.1],(rg 0 21 []),[⟨U9,fU 13 21 mD U7 p.c⟩],(some ⟨0,(rg 0 80 []),[(3,[]),(4,[]),(5,[]),(6,[]),(7,[]),(8,[]),(9,[]),(10,[]),(11,[]),(12,[]),(13,[]),(14,[]),(15,[]),(16,[]),(17,[]),(18,[]),(19,[]),(20,[]),(21,[]),(22,[]),(0,[])]⟩)⟩,21,14⟩
theorem aoH (p:Al):LI (Ft p) 3 dM U6 (Bh p.b.1):=λ_ d c K=>by kernel_rfl
theorem aoI (p:Al):JI (Ft p) 13 mD U7 (U8):=λ_ d K=>by kernel_rfl
theorem aw9 (p:Al):D2 (Ft p) lD abr λb=>Fs p.1 p.2.1 p.b.2.1 p.c b:=λb=>by kernel_rfl
abbrev Fu:Al:=(ij,il,mC,qC,u3)
theorem axa [aA]:SC (abt jI):=sc (kS (k:=Ft Fu) (.c ah8 (.c NF (.c auk (.nil _)))) [3] [13] ⟨kL (aoH Fu),trivial⟩ ⟨kJ U9 (aoI Fu),trivial⟩ (aw9 Fu))
end Go.Proofs.YtldgljclcgaibaaGreat
namespace Go.Proofs.YtldgljclcgaibaaGreat
open Go.Ab Go.Ab.Pg
theorem aSC (t:Int):NJ t 8000=some (t,8000, -84238486):=by kernel_rfl
theorem aDJ {α:Type}{o:Option α}{v:α}(h:o=some v):Ok o (λr=>r=v):=⟨v,h,rfl⟩
theorem a0D (N:Nat)(h1:1<=N)(hN:N<=1999)(x:oY.B)(hq:x.2.1.c.1<=1998)(l0:x.c.2.1.b.1<=64)(l1:x.c.b.1.b.1<=64)(l2:x.c.b.2.1.b.1<=64)(l3:x.d.1.b.1<=64)(l4:x.d.2.1.b.1<=64)(l5:x.d.b.1.b.1<=64)(hs:x.d.c.1.1<=(N:Int))(hl:x.d.c.1.2.2<=N)(tq:Tq x.2.1.d.c.2.1 x.b.2.1.2.1.1 x.b.2.1.2.2 x.2.1.c.1 x.c.1.1):
  Ok (mC x) (λe:xR=>e.1.c.2.1.2<=x.2.1.c.1+1/\Tq e.1.d.c.b.1 e.b.1.2.1.1 e.b.1.2.2 e.1.c.2.1.2 (λi=>e.b.2.1.2.1 (e.1.c.2.1.1+i))/\x.2.1.d.c.2.1<=e.1.d.c.b.1/\BR e.1.d.c.b.1 x.c.2.1 e.c.1/\BR e.1.d.c.b.1 x.c.b.1 e.c.2.1/\BR e.1.d.c.b.1 x.c.b.2.1 e.c.b.1/\BR e.1.d.c.b.1 x.d.1 e.c.b.2.1/\BR e.1.d.c.b.1 x.d.2.1 e.d.1/\BR e.1.d.c.b.1 x.d.b.1 e.d.2.1/\e.d.b.2.1.1=x.d.c.1.1/\e.d.b.2.1.2.2<=N):=by
 unfold mC DE;try dsimp only
 show PQ _ _;try dsimp only
 rw[aSC,cz];simp only[aS,aD];with_reducible refine ax (aT8 N h1 hN _ ?_ ?_ ?_ ?_ ?_ ?_ ?_ ?_ ?_ ?_ ?_) λe _ he=> ?_
 .exact hq
 .exact l0
 .exact l1
 .exact l2
 .exact l3
 .exact l4
 .exact l5
 .exact hs
 .exact hl
 .exact tq.1
 .exact tq.2
 obtain⟨e4,eh,et,eq,b0,b1,b2,b3,b4,b5,u0,u1⟩:=he;rw[aM];refine⟨λ_=> ?_,λ_=> ?_⟩
 all_goals
  repeat rw[aD]
  refine ax (aDJ (rfl:tO _=some _)) λd _ hd=> ?_;subst hd;rw[aw];exact⟨e4,⟨eh,eq⟩,et,b0,b1,b2,b3,b4,b5,u0,u1⟩
theorem aSD (N:Nat)(h1:1<=N)(hN:N<=1999)(q:Int)(hq:q+40<=1998)(w d:dM.B)(l0:w.c.b.2.1.b.1<=64)(l1:w.d.1.b.1<=64)(l2:w.d.2.1.b.1<=64)(l3:w.d.b.1.b.1<=64)(l4:w.d.b.2.1.b.1<=64)(l5:w.d.c.1.b.1<=64)(WS:w.d.c.b.1.1<=(N:Int))(hd:0<=d.1.1/\d.1.1<=40/\((d.b.2.1.c.1.2:Nat):Int)<=q+d.1.1/\Tq d.b.2.1.d.c.2.1 d.c.2.1.2.1.1 d.c.2.1.2.2 d.b.2.1.c.1.2 (λi=>d.c.b.1.2.1 (d.b.2.1.c.1.1+i))/\w.b.2.1.d.c.2.1<=d.b.2.1.d.c.2.1/\BR d.b.2.1.d.c.2.1 w.c.b.2.1 d.c.b.2.1/\BR d.b.2.1.d.c.2.1 w.d.1 d.d.1/\BR d.b.2.1.d.c.2.1 w.d.2.1 d.d.2.1/\BR d.b.2.1.d.c.2.1 w.d.b.1 d.d.b.1/\BR d.b.2.1.d.c.2.1 w.d.b.2.1 d.d.b.2.1/\BR d.b.2.1.d.c.2.1 w.d.c.1 d.d.c.1/\d.d.c.b.1.1=w.d.c.b.1.1/\d.d.c.b.1.2.2<=N):Ok (qC d) (λx:ji=>match x with|.inl x=>((x.b.2.1.c.1.2:Nat):Int)<=q+40/\Tq x.b.2.1.d.c.2.1 x.c.2.1.2.1.1 x.c.2.1.2.2 x.b.2.1.c.1.2 (λi=>x.c.b.1.2.1 (x.b.2.1.c.1.1+i))/\w.b.2.1.d.c.2.1<=x.b.2.1.d.c.2.1/\BR x.b.2.1.d.c.2.1 w.c.b.2.1 x.c.b.2.1/\BR x.b.2.1.d.c.2.1 w.d.1 x.d.1/\BR x.b.2.1.d.c.2.1 w.d.2.1 x.d.2.1/\BR x.b.2.1.d.c.2.1 w.d.b.1 x.d.b.1/\BR x.b.2.1.d.c.2.1 w.d.b.2.1 x.d.b.2.1/\BR x.b.2.1.d.c.2.1 w.d.c.1 x.d.c.1/\x.d.c.b.1.1=w.d.c.b.1.1/\x.d.c.b.1.2.2<=N|.inr (.inl x)=>((x.b.2.1.c.1.2:Nat):Int)<=q+40/\Tq x.b.2.1.d.c.2.1 x.c.2.1.2.1.1 x.c.2.1.2.2 x.b.2.1.c.1.2 (λi=>x.c.b.1.2.1 (x.b.2.1.c.1.1+i))/\w.b.2.1.d.c.2.1<=x.b.2.1.d.c.2.1/\BR x.b.2.1.d.c.2.1 w.c.b.2.1 x.c.b.2.1/\BR x.b.2.1.d.c.2.1 w.d.1 x.d.1/\BR x.b.2.1.d.c.2.1 w.d.2.1 x.d.2.1/\BR x.b.2.1.d.c.2.1 w.d.b.1 x.d.b.1/\BR x.b.2.1.d.c.2.1 w.d.b.2.1 x.d.b.2.1/\BR x.b.2.1.d.c.2.1 w.d.c.1 x.d.c.1/\x.d.c.b.1.1=w.d.c.b.1.1/\x.d.c.b.1.2.2<=N|.inr (.inr (.inl x))=>((x.b.2.1.c.1.2:Nat):Int)<=q+40/\Tq x.b.2.1.d.c.2.1 x.c.2.1.2.1.1 x.c.2.1.2.2 x.b.2.1.c.1.2 (λi=>x.c.b.1.2.1 (x.b.2.1.c.1.1+i))/\w.b.2.1.d.c.2.1<=x.b.2.1.d.c.2.1/\BR x.b.2.1.d.c.2.1 w.c.b.2.1 x.c.b.2.1/\BR x.b.2.1.d.c.2.1 w.d.1 x.d.1/\BR x.b.2.1.d.c.2.1 w.d.2.1 x.d.2.1/\BR x.b.2.1.d.c.2.1 w.d.b.1 x.d.b.1/\BR x.b.2.1.d.c.2.1 w.d.b.2.1 x.d.b.2.1/\BR x.b.2.1.d.c.2.1 w.d.c.1 x.d.c.1/\x.d.c.b.1.1=w.d.c.b.1.1/\x.d.c.b.1.2.2<=N|.inr (.inr (.inr x))=>((x.b.2.1.c.1.2:Nat):Int)<=q+40/\Tq x.b.2.1.d.c.2.1 x.c.2.1.2.1.1 x.c.2.1.2.2 x.b.2.1.c.1.2 (λi=>x.c.b.1.2.1 (x.b.2.1.c.1.1+i))/\w.b.2.1.d.c.2.1<=x.b.2.1.d.c.2.1/\BR x.b.2.1.d.c.2.1 w.c.b.2.1 x.c.b.2.1/\BR x.b.2.1.d.c.2.1 w.d.1 x.d.1/\BR x.b.2.1.d.c.2.1 w.d.2.1 x.d.2.1/\BR x.b.2.1.d.c.2.1 w.d.b.1 x.d.b.1/\BR x.b.2.1.d.c.2.1 w.d.b.2.1 x.d.b.2.1/\BR x.b.2.1.d.c.2.1 w.d.c.1 x.d.c.1/\x.d.c.b.1.1=w.d.c.b.1.1/\x.d.c.b.1.2.2<=N):=
 uK (s:=_) (λd:dM.B=>0<=d.1.1/\d.1.1<=40/\((d.b.2.1.c.1.2:Nat):Int)<=q+d.1.1/\Tq d.b.2.1.d.c.2.1 d.c.2.1.2.1.1 d.c.2.1.2.2 d.b.2.1.c.1.2 (λi=>d.c.b.1.2.1 (d.b.2.1.c.1.1+i))/\w.b.2.1.d.c.2.1<=d.b.2.1.d.c.2.1/\BR d.b.2.1.d.c.2.1 w.c.b.2.1 d.c.b.2.1/\BR d.b.2.1.d.c.2.1 w.d.1 d.d.1/\BR d.b.2.1.d.c.2.1 w.d.2.1 d.d.2.1/\BR d.b.2.1.d.c.2.1 w.d.b.1 d.d.b.1/\BR d.b.2.1.d.c.2.1 w.d.b.2.1 d.d.b.2.1/\BR d.b.2.1.d.c.2.1 w.d.c.1 d.d.c.1/\d.d.c.b.1.1=w.d.c.b.1.1/\d.d.c.b.1.2.2<=N) (λd:dM.B=>z4 (40-d.1.1)) (λx:ji=>match x with|.inl x=>((x.b.2.1.c.1.2:Nat):Int)<=q+40/\Tq x.b.2.1.d.c.2.1 x.c.2.1.2.1.1 x.c.2.1.2.2 x.b.2.1.c.1.2 (λi=>x.c.b.1.2.1 (x.b.2.1.c.1.1+i))/\w.b.2.1.d.c.2.1<=x.b.2.1.d.c.2.1/\BR x.b.2.1.d.c.2.1 w.c.b.2.1 x.c.b.2.1/\BR x.b.2.1.d.c.2.1 w.d.1 x.d.1/\BR x.b.2.1.d.c.2.1 w.d.2.1 x.d.2.1/\BR x.b.2.1.d.c.2.1 w.d.b.1 x.d.b.1/\BR x.b.2.1.d.c.2.1 w.d.b.2.1 x.d.b.2.1/\BR x.b.2.1.d.c.2.1 w.d.c.1 x.d.c.1/\x.d.c.b.1.1=w.d.c.b.1.1/\x.d.c.b.1.2.2<=N|.inr (.inl x)=>((x.b.2.1.c.1.2:Nat):Int)<=q+40/\Tq x.b.2.1.d.c.2.1 x.c.2.1.2.1.1 x.c.2.1.2.2 x.b.2.1.c.1.2 (λi=>x.c.b.1.2.1 (x.b.2.1.c.1.1+i))/\w.b.2.1.d.c.2.1<=x.b.2.1.d.c.2.1/\BR x.b.2.1.d.c.2.1 w.c.b.2.1 x.c.b.2.1/\BR x.b.2.1.d.c.2.1 w.d.1 x.d.1/\BR x.b.2.1.d.c.2.1 w.d.2.1 x.d.2.1/\BR x.b.2.1.d.c.2.1 w.d.b.1 x.d.b.1/\BR x.b.2.1.d.c.2.1 w.d.b.2.1 x.d.b.2.1/\BR x.b.2.1.d.c.2.1 w.d.c.1 x.d.c.1/\x.d.c.b.1.1=w.d.c.b.1.1/\x.d.c.b.1.2.2<=N|.inr (.inr (.inl x))=>((x.b.2.1.c.1.2:Nat):Int)<=q+40/\Tq x.b.2.1.d.c.2.1 x.c.2.1.2.1.1 x.c.2.1.2.2 x.b.2.1.c.1.2 (λi=>x.c.b.1.2.1 (x.b.2.1.c.1.1+i))/\w.b.2.1.d.c.2.1<=x.b.2.1.d.c.2.1/\BR x.b.2.1.d.c.2.1 w.c.b.2.1 x.c.b.2.1/\BR x.b.2.1.d.c.2.1 w.d.1 x.d.1/\BR x.b.2.1.d.c.2.1 w.d.2.1 x.d.2.1/\BR x.b.2.1.d.c.2.1 w.d.b.1 x.d.b.1/\BR x.b.2.1.d.c.2.1 w.d.b.2.1 x.d.b.2.1/\BR x.b.2.1.d.c.2.1 w.d.c.1 x.d.c.1/\x.d.c.b.1.1=w.d.c.b.1.1/\x.d.c.b.1.2.2<=N|.inr (.inr (.inr x))=>((x.b.2.1.c.1.2:Nat):Int)<=q+40/\Tq x.b.2.1.d.c.2.1 x.c.2.1.2.1.1 x.c.2.1.2.2 x.b.2.1.c.1.2 (λi=>x.c.b.1.2.1 (x.b.2.1.c.1.1+i))/\w.b.2.1.d.c.2.1<=x.b.2.1.d.c.2.1/\BR x.b.2.1.d.c.2.1 w.c.b.2.1 x.c.b.2.1/\BR x.b.2.1.d.c.2.1 w.d.1 x.d.1/\BR x.b.2.1.d.c.2.1 w.d.2.1 x.d.2.1/\BR x.b.2.1.d.c.2.1 w.d.b.1 x.d.b.1/\BR x.b.2.1.d.c.2.1 w.d.b.2.1 x.d.b.2.1/\BR x.b.2.1.d.c.2.1 w.d.c.1 x.d.c.1/\x.d.c.b.1.1=w.d.c.b.1.1/\x.d.c.b.1.2.2<=N) (λd hd=>by
  obtain⟨c0,c1,i0,tq,wt,s0,s1,s2,s3,s4,s5,p0,p1⟩:=hd;unfold Bh;try dsimp only
  try dsimp only
  have fin:((d.b.2.1.c.1.2:Nat):Int)<=q+40:=by omega
  rw[aM];refine⟨λ_=> ?_,λ_=>by rw[aw];exact⟨fin,tq,wt,s0,s1,s2,s3,s4,s5,p0,p1⟩⟩;rw[aM];refine⟨λh=> ?_,λ_=>by rw[aw];exact⟨fin,tq,wt,s0,s1,s2,s3,s4,s5,p0,p1⟩⟩;have h:=dh h;rw[aM];refine⟨λ_=> ?_,λ_=>by rw[aw];exact⟨fin,tq,wt,s0,s1,s2,s3,s4,s5,p0,p1⟩⟩;rw[aM];refine⟨λ_=> ?_,λ_=>by rw[aw];exact⟨fin,tq,wt,s0,s1,s2,s3,s4,s5,p0,p1⟩⟩;simp only[aS,aD];have hw:wI (d.1.1+1)=d.1.1+1:=bf;with_reducible refine ax (a0D N h1 hN _ ?_ ?_ ?_ ?_ ?_ ?_ ?_ ?_ ?_ ?_) λe _ he=> ?_
  .show d.b.2.1.c.1.2<=1998;omega
  .exact dx s0.len l0
  .exact dx s1.len l1
  .exact dx s2.len l2
  .exact dx s3.len l3
  .exact dx s4.len l4
  .exact dx s5.len l5
  .show d.d.c.b.1.1<=(N:Int);rw[p0];exact WS
  .exact p1
  .exact tq
  obtain⟨e4,eq,et,b0,b1,b2,b3,b4,b5,u0,u1⟩:=he;have e4:e.1.c.2.1.2<=d.b.2.1.c.1.2+1:=e4;have et:d.b.2.1.d.c.2.1<=e.1.d.c.b.1:=et;have u0:e.d.b.2.1.1=d.d.c.b.1.1:=u0;rw[aw,hw];exact⟨⟨by show 0<=d.1.1+1;omega,by show d.1.1+1<=40;omega,by show((e.1.c.2.1.2:Nat):Int)<=q+(d.1.1+1);omega,eq,LK wt et,(s0.mono et).trans b0,(s1.mono et).trans b1,(s2.mono et).trans b2,(s3.mono et).trans b3,(s4.mono et).trans b4,(s5.mono et).trans b5,u0.trans p0,u1⟩,by show z4 (40-(d.1.1+1))<z4 (40-d.1.1);omega⟩) 2000 d hd (by omega)
theorem aPm (N:Nat)(h1:1<=N)(hN:N<=1999)(q:Int)(hq:q+40<=1998)(d:dM.B)(l0:d.c.b.2.1.b.1<=64)(l1:d.d.1.b.1<=64)(l2:d.d.2.1.b.1<=64)(l3:d.d.b.1.b.1<=64)(l4:d.d.b.2.1.b.1<=64)(l5:d.d.c.1.b.1<=64)(WS:d.d.c.b.1.1<=(N:Int))(c0:d.1.1=0)(i0:((d.b.2.1.c.1.2:Nat):Int)<=q)(tq:Tq d.b.2.1.d.c.2.1 d.c.2.1.2.1.1 d.c.2.1.2.2 d.b.2.1.c.1.2 (λi=>d.c.b.1.2.1 (d.b.2.1.c.1.1+i)))(p1:d.d.c.b.1.2.2<=N):Ok (qC d) (λx:ji=>match x with|.inl x=>((x.b.2.1.c.1.2:Nat):Int)<=q+40/\Tq x.b.2.1.d.c.2.1 x.c.2.1.2.1.1 x.c.2.1.2.2 x.b.2.1.c.1.2 (λi=>x.c.b.1.2.1 (x.b.2.1.c.1.1+i))/\d.b.2.1.d.c.2.1<=x.b.2.1.d.c.2.1/\BR x.b.2.1.d.c.2.1 d.c.b.2.1 x.c.b.2.1/\BR x.b.2.1.d.c.2.1 d.d.1 x.d.1/\BR x.b.2.1.d.c.2.1 d.d.2.1 x.d.2.1/\BR x.b.2.1.d.c.2.1 d.d.b.1 x.d.b.1/\BR x.b.2.1.d.c.2.1 d.d.b.2.1 x.d.b.2.1/\BR x.b.2.1.d.c.2.1 d.d.c.1 x.d.c.1/\x.d.c.b.1.1=d.d.c.b.1.1/\x.d.c.b.1.2.2<=N|.inr (.inl x)=>((x.b.2.1.c.1.2:Nat):Int)<=q+40/\Tq x.b.2.1.d.c.2.1 x.c.2.1.2.1.1 x.c.2.1.2.2 x.b.2.1.c.1.2 (λi=>x.c.b.1.2.1 (x.b.2.1.c.1.1+i))/\d.b.2.1.d.c.2.1<=x.b.2.1.d.c.2.1/\BR x.b.2.1.d.c.2.1 d.c.b.2.1 x.c.b.2.1/\BR x.b.2.1.d.c.2.1 d.d.1 x.d.1/\BR x.b.2.1.d.c.2.1 d.d.2.1 x.d.2.1/\BR x.b.2.1.d.c.2.1 d.d.b.1 x.d.b.1/\BR x.b.2.1.d.c.2.1 d.d.b.2.1 x.d.b.2.1/\BR x.b.2.1.d.c.2.1 d.d.c.1 x.d.c.1/\x.d.c.b.1.1=d.d.c.b.1.1/\x.d.c.b.1.2.2<=N|.inr (.inr (.inl x))=>((x.b.2.1.c.1.2:Nat):Int)<=q+40/\Tq x.b.2.1.d.c.2.1 x.c.2.1.2.1.1 x.c.2.1.2.2 x.b.2.1.c.1.2 (λi=>x.c.b.1.2.1 (x.b.2.1.c.1.1+i))/\d.b.2.1.d.c.2.1<=x.b.2.1.d.c.2.1/\BR x.b.2.1.d.c.2.1 d.c.b.2.1 x.c.b.2.1/\BR x.b.2.1.d.c.2.1 d.d.1 x.d.1/\BR x.b.2.1.d.c.2.1 d.d.2.1 x.d.2.1/\BR x.b.2.1.d.c.2.1 d.d.b.1 x.d.b.1/\BR x.b.2.1.d.c.2.1 d.d.b.2.1 x.d.b.2.1/\BR x.b.2.1.d.c.2.1 d.d.c.1 x.d.c.1/\x.d.c.b.1.1=d.d.c.b.1.1/\x.d.c.b.1.2.2<=N|.inr (.inr (.inr x))=>((x.b.2.1.c.1.2:Nat):Int)<=q+40/\Tq x.b.2.1.d.c.2.1 x.c.2.1.2.1.1 x.c.2.1.2.2 x.b.2.1.c.1.2 (λi=>x.c.b.1.2.1 (x.b.2.1.c.1.1+i))/\d.b.2.1.d.c.2.1<=x.b.2.1.d.c.2.1/\BR x.b.2.1.d.c.2.1 d.c.b.2.1 x.c.b.2.1/\BR x.b.2.1.d.c.2.1 d.d.1 x.d.1/\BR x.b.2.1.d.c.2.1 d.d.2.1 x.d.2.1/\BR x.b.2.1.d.c.2.1 d.d.b.1 x.d.b.1/\BR x.b.2.1.d.c.2.1 d.d.b.2.1 x.d.b.2.1/\BR x.b.2.1.d.c.2.1 d.d.c.1 x.d.c.1/\x.d.c.b.1.1=d.d.c.b.1.1/\x.d.c.b.1.2.2<=N):=
 aSD N h1 hN q hq d d l0 l1 l2 l3 l4 l5 WS ⟨by omega,by omega,by omega,tq,dZ _,BR.refl _ _,BR.refl _ _,BR.refl _ _,BR.refl _ _,BR.refl _ _,BR.refl _ _,rfl,p1⟩
theorem a2I (N:Nat)(h1:1<=N)(hN:N<=1999)(x:lD.B)(hq:x.b.1.c.1<=1958)(l0:x.c.b.1.b.1<=64)(l1:x.c.b.2.1.b.1<=64)(l2:x.d.1.b.1<=64)(l3:x.d.2.1.b.1<=64)(l4:x.d.b.1.b.1<=64)(l5:x.d.b.2.1.b.1<=64)(hs:x.d.c.2.1.1<=(N:Int))(hl:x.d.c.2.1.2.2<=N)(tq:Tq x.b.1.d.c.2.1 x.c.1.2.1.1 x.c.1.2.2 x.b.1.c.1 x.c.2.1.1):
  Ok (jI x) (λr:qv=>match r with|.inl e=>x.1.1=1/\(e.1.2.1,e.1.2.2)=(x.b.1.1,x.b.1.2)/\e.2.1=x.b.2.1/\e.b.1=x.c.1/\e.b.2.1=x.c.2.1/\e.d.b.1=x.d.c.1/\e.d.b.2.1=x.d.c.2.1/\((¬(0<=x.1.2.1/\x.1.2.1<6)/\e.c.1=x.c.b.1/\e.c.2.1=x.c.b.2.1/\e.c.b.1=x.d.1/\e.c.b.2.1=x.d.2.1/\e.d.1=x.d.b.1/\e.d.2.1=x.d.b.2.1)∨(x.1.2.1=0/\(PR x.c.b.1 e.c.1∨SR x.c.b.1 e.c.1)/\e.c.2.1=x.c.b.2.1/\e.c.b.1=x.d.1/\e.c.b.2.1=x.d.2.1/\e.d.1=x.d.b.1/\e.d.2.1=x.d.b.2.1)∨(x.1.2.1=1/\e.c.1=x.c.b.1/\(PR x.c.b.2.1 e.c.2.1∨SR x.c.b.2.1 e.c.2.1)/\e.c.b.1=x.d.1/\e.c.b.2.1=x.d.2.1/\e.d.1=x.d.b.1/\e.d.2.1=x.d.b.2.1)∨(x.1.2.1=2/\e.c.1=x.c.b.1/\e.c.2.1=x.c.b.2.1/\(PR x.d.1 e.c.b.1∨SR x.d.1 e.c.b.1)/\e.c.b.2.1=x.d.2.1/\e.d.1=x.d.b.1/\e.d.2.1=x.d.b.2.1)∨(x.1.2.1=3/\e.c.1=x.c.b.1/\e.c.2.1=x.c.b.2.1/\e.c.b.1=x.d.1/\(PR x.d.2.1 e.c.b.2.1∨SR x.d.2.1 e.c.b.2.1)/\e.d.1=x.d.b.1/\e.d.2.1=x.d.b.2.1)∨(x.1.2.1=4/\e.c.1=x.c.b.1/\e.c.2.1=x.c.b.2.1/\e.c.b.1=x.d.1/\e.c.b.2.1=x.d.2.1/\(PR x.d.b.1 e.d.1∨SR x.d.b.1 e.d.1)/\e.d.2.1=x.d.b.2.1)∨(x.1.2.1=5/\e.c.1=x.c.b.1/\e.c.2.1=x.c.b.2.1/\e.c.b.1=x.d.1/\e.c.b.2.1=x.d.2.1/\e.d.1=x.d.b.1/\(PR x.d.b.2.1 e.d.2.1∨SR x.d.b.2.1 e.d.2.1)))|.inr e=>x.1.1≠1/\((e.2.1.c.1.2:Nat):Int)<=x.b.1.c.1+40/\Tq e.2.1.d.c.2.1 e.b.2.1.2.1.1 e.b.2.1.2.2 e.2.1.c.1.2 (λi=>e.c.1.2.1 (e.2.1.c.1.1+i))/\x.b.1.d.c.2.1<=e.2.1.d.c.2.1/\BR e.2.1.d.c.2.1 x.c.b.1 e.c.2.1/\BR e.2.1.d.c.2.1 x.c.b.2.1 e.c.b.1/\BR e.2.1.d.c.2.1 x.d.1 e.c.b.2.1/\BR e.2.1.d.c.2.1 x.d.2.1 e.d.1/\BR e.2.1.d.c.2.1 x.d.b.1 e.d.2.1/\BR e.2.1.d.c.2.1 x.d.b.2.1 e.d.b.1/\e.d.c.1.1=x.d.c.2.1.1/\e.d.c.1.2.2<=N):=by
 unfold jI Fs;try dsimp only
 show PQ _ _;try dsimp only
 simp only[aS,aD];rw[aM];refine⟨λo1=> ?_,λo1=> ?_⟩
 .have o1:=eq_of_beq o1;repeat rw[aD]
  with_reducible refine ax (aSx _ ?_ ?_ ?_ ?_ ?_ ?_) λe _ he=> ?_
  .exact dx l0 (by decide)
  .exact dx l1 (by decide)
  .exact dx l2 (by decide)
  .exact dx l3 (by decide)
  .exact dx l4 (by decide)
  .exact dx l5 (by decide)
  obtain⟨f1,f2,f3,f4,f11,f12,f13,f20,CH⟩:=he;rw[aw];exact⟨o1,by show(e.2.1.1,e.2.1.2)=_;rw[f1],f2,f3,f4,f11,f12,CH⟩
 have o1:=aEu o1;rw[aM];refine⟨λ_=> ?_,λ_=> ?_⟩
 .repeat rw[aD]
  with_reducible refine ax (aT8 N h1 hN _ ?_ ?_ ?_ ?_ ?_ ?_ ?_ ?_ ?_ ?_ ?_) λe _ he=> ?_
  .exact dx hq (by decide)
  .exact l0
  .exact l1
  .exact l2
  .exact l3
  .exact l4
  .exact l5
  .exact hs
  .exact hl
  .exact tq.1
  .exact tq.2
  obtain⟨e4,eh,et,eq,b0,b1,b2,b3,b4,b5,u0,u1⟩:=he;have e4:e.2.1.c.1.2<=x.b.1.c.1+1:=e4;have e5:((e.2.1.c.1.2:Nat):Int)<=x.b.1.c.1+40:=by omega
  rw[aM];refine⟨λ_=> ?_,λ_=> ?_⟩
  all_goals
   repeat rw[aD]
   refine ax (aDJ (rfl:u3 _=some _)) λd _ hd=> ?_;subst hd;rw[aw];exact⟨o1,e5,⟨eh,eq⟩,et,b0,b1,b2,b3,b4,b5,u0,u1⟩
 .repeat rw[aD]
  with_reducible refine ax (aPm N h1 hN x.b.1.c.1 (by omega) _ l0 l1 l2 l3 l4 l5 hs ?_ ?_ ?_ ?_) λy _ hy=> ?_
  .rfl
  .show((x.b.1.c.1:Nat):Int)<=x.b.1.c.1;omega
  .exact⟨tq.1,tq.2.up (dZ _) (λi=>by show x.c.2.1.1 (0+i)=_;rw[gP])⟩
  .exact hl
  rw[og];refine⟨λa ha=> ?_,λa ha=> ?_⟩
  .subst ha;rw[aw];exact⟨o1,hy⟩
  rw[og];refine⟨λb hb=> ?_,λb hb=> ?_⟩
  .subst ha;subst hb;rw[aw];exact⟨o1,hy⟩
  rw[og];refine⟨λc hc=> ?_,λc hc=> ?_⟩
  .subst ha;subst hb;subst hc;rw[aw];exact⟨o1,hy⟩
  .subst ha;subst hb;subst hc;rw[aw];exact⟨o1,hy⟩
theorem a2J (x:oY.B)(h:GF x.2.1.b.1 x.2.1.b.2.1 x.2.1.c.2.1 x.2.1.d.c.b.2.1):Po (mC x) (λe:xR=>GF e.1.b.2.1 e.1.c.1 e.1.c.b.1 e.1.e.1):=by
 unfold mC DE;try dsimp only
 show PW _ _;try dsimp only
 repeat' (first
   |(rw[dz];exact trivial)
   |(with_reducible refine aI (a0C _ ?_) λe _ he=> ?_)
   |(refine aI (aDJ (rfl:tO _=some _)).po λd _ hd=> ?_)
   |(rw[pO];refine⟨λe0 e1=> ?_,λe0 e1=> ?_⟩<;>subst e1)
   |(rw[kI];refine⟨λe0 e1=> ?_,λe0 e1=> ?_⟩<;>subst e1)
   |(rw[bz];refine⟨λ_=> ?_,λ_=> ?_⟩)
   |(rw[bJ];intro _ _))
 all_goals first
   |exact h
   |(subst hd;rw[aW];exact he)
theorem aVW (d:dM.B)(hd:GF d.b.2.1.b.1 d.b.2.1.b.2.1 d.b.2.1.c.2.1 d.b.2.1.d.c.b.2.1):Po (qC d) (λx:ji=>match x with|.inl x=>GF x.b.2.1.b.1 x.b.2.1.b.2.1 x.b.2.1.c.2.1 x.b.2.1.d.c.b.2.1|.inr (.inl x)=>GF x.b.2.1.b.1 x.b.2.1.b.2.1 x.b.2.1.c.2.1 x.b.2.1.d.c.b.2.1|.inr (.inr (.inl x))=>GF x.b.2.1.b.1 x.b.2.1.b.2.1 x.b.2.1.c.2.1 x.b.2.1.d.c.b.2.1|.inr (.inr (.inr x))=>GF x.b.2.1.b.1 x.b.2.1.b.2.1 x.b.2.1.c.2.1 x.b.2.1.d.c.b.2.1):=
 L3 (s:=_) (λd:dM.B=>GF d.b.2.1.b.1 d.b.2.1.b.2.1 d.b.2.1.c.2.1 d.b.2.1.d.c.b.2.1) (λx:ji=>match x with|.inl x=>GF x.b.2.1.b.1 x.b.2.1.b.2.1 x.b.2.1.c.2.1 x.b.2.1.d.c.b.2.1|.inr (.inl x)=>GF x.b.2.1.b.1 x.b.2.1.b.2.1 x.b.2.1.c.2.1 x.b.2.1.d.c.b.2.1|.inr (.inr (.inl x))=>GF x.b.2.1.b.1 x.b.2.1.b.2.1 x.b.2.1.c.2.1 x.b.2.1.d.c.b.2.1|.inr (.inr (.inr x))=>GF x.b.2.1.b.1 x.b.2.1.b.2.1 x.b.2.1.c.2.1 x.b.2.1.d.c.b.2.1) (λd hd=>by
  unfold Bh;try dsimp only
  try dsimp only
  repeat' (first
   |(rw[dz];exact trivial)
   |(with_reducible refine aI (a2J _ ?_) λe _ he=> ?_)
   |(rw[pO];refine⟨λe0 e1=> ?_,λe0 e1=> ?_⟩<;>subst e1)
   |(rw[kI];refine⟨λe0 e1=> ?_,λe0 e1=> ?_⟩<;>subst e1)
   |(rw[bz];refine⟨λ_=> ?_,λ_=> ?_⟩)
   |(rw[bJ];intro _ _))
  all_goals first
   |exact hd
   |(rw[aW];first|exact hd|exact he)) 2000 d hd
theorem a44 (x:lD.B)(h:GF x.b.1.b.1 x.b.1.b.2.1 x.b.1.c.2.1 x.b.1.d.c.b.2.1):Po (jI x) (λr:qv=>match r with|.inl e=>GF e.1.b.2.1 e.1.c.1 e.1.c.b.1 e.1.e.1|.inr e=>GF e.2.1.b.1 e.2.1.b.2.1 e.2.1.c.2.1 e.2.1.d.c.b.2.1):=by
 unfold jI Fs;try dsimp only
 show PW _ _;try dsimp only
 repeat' (first
   |(rw[dz];exact trivial)
   |(with_reducible refine aI (aVQ _) λe _ hs=> ?_)
   |(with_reducible refine aI (a0C _ ?_) λe _ he=> ?_)
   |(with_reducible refine aI (aVW _ ?_) λe _ he=> ?_)
   |(refine aI (aDJ (rfl:u3 _=some _)).po λd _ hd=> ?_)
   |(rw[pO];refine⟨λe0 e1=> ?_,λe0 e1=> ?_⟩<;>subst e1)
   |(rw[kI];refine⟨λe0 e1=> ?_,λe0 e1=> ?_⟩<;>subst e1)
   |(rw[bz];refine⟨λ_=> ?_,λ_=> ?_⟩)
   |(rw[bJ];intro _ _))
 all_goals first
   |exact h
   |(rw[aW]
     first
      |exact he
      |(subst hd;exact he)
      |(obtain⟨h1,_,_⟩:=hs;show GF e.2.1.b.1 e.2.1.b.2.1 e.2.1.c.2.1 e.2.1.d.c.b.2.1;rw[h1];exact h))
open Go
class Hz (c:Bool):Prop where
 h:c=true
instance:Hz true:=⟨rfl⟩
class Mo {D:Type} (x:Option D) (R:outParam (D->Prop)):Prop where
 h:Po x R
section
variable {δ D A B:Type} {Q:δ->Prop}
theorem aPn {d:δ}(h:Q d):PW (.ret d) Q:=by rw[aW];exact h
theorem a2K:PW (.no:Pg δ) Q:=by rw[dz];trivial
theorem aPo {b:Bool}{x y:Pg δ}(h:PW x Q)(k:PW y Q):PW (.ae b x y) Q:=by rw[bz];exact⟨λ_=>h,λ_=>k⟩
theorem aPp {x:Option D}{f:D->Pg δ}{R:D->Prop}[m:Mo x R](k:∀d,R d->PW (f d) Q):PW (.opt x f) Q:=aI m.h λd _=>k d
theorem aPq {x:Option D}{f:D->Pg δ}(k:∀d,PW (f d) Q):PW (.opt x f) Q:=by rw[bJ];exact λd _=>k d
theorem a0E {P:A->Prop}{R:B->Prop}{x:A⊕B}{f:A->Pg δ}{g:B->Pg δ}(h:v4 P R x)(k:∀a,P a->PW (f a) Q)(l:∀b,R b->PW (g b) Q):PW (.sum x f g) Q:=by
 rw[kI];exact⟨λa e=>k a (by rw[e] at h;exact h),λb e=>l b (by rw[e] at h;exact h)⟩
theorem a2L {P:A->Prop}{R:B->Prop}{x:A⊕B}{f:A->Pg δ}{g:B->Pg δ}(h:v4 P R x)(k:∀a,P a->PW (f a) Q)(l:∀b,R b->PW (g b) Q):PW (.sm x f g) Q:=by
 rw[pO];exact⟨λa e=>k a (by rw[e] at h;exact h),λb e=>l b (by rw[e] at h;exact h)⟩
theorem aVX {x:A⊕B}{f:A->Pg δ}{g:B->Pg δ}(k:∀a,PW (f a) Q)(l:∀b,PW (g b) Q):PW (.sum x f g) Q:=by rw[kI];exact⟨λa _=>k a,λb _=>l b⟩
theorem a0F {x:A⊕B}{f:A->Pg δ}{g:B->Pg δ}(k:∀a,PW (f a) Q)(l:∀b,PW (g b) Q):PW (.sm x f g) Q:=by rw[pO];exact⟨λa _=>k a,λb _=>l b⟩
end
theorem mz {P:Prop}(h:P:=by
 show PW _ _;first
 |(refine aPn ?_)
 |(refine aPo ?_ ?_)
 |(refine aPp ?_;intro _ _)
 |(refine aPq ?_;intro _)
 all_goals try dsimp only
 repeat' (first
  |with_reducible exact a2K
  |with_reducible refine aPo ?_ ?_
  |(with_reducible refine aPp ?_;intro _ _)
  |(with_reducible refine aPq ?_;intro _)
  |(with_reducible refine a0E ‹_› ?_ ?_<;>intro _ _)
  |(with_reducible refine a2L ‹_› ?_ ?_<;>intro _ _)
  |(with_reducible refine aVX ?_ ?_<;>intro _)
  |(with_reducible refine a0F ?_ ?_<;>intro _))
 all_goals
  try with_reducible refine aPn ?_
  first
  |(refine(?_:Hz _);infer_instance)
  |assumption):P:=h
theorem iY {D X:Type}{s:D->Pg (D⊕X)}{R:X->Prop}(p:D->Bool)(h:∀d,Hz (p d)->PW (s d) (v4 (λd=>Hz (p d)) R))(d:D)[k:Hz (p d)]:Mo (bG s 2000 d) R:=⟨L3 (s:=s) _ _ h 2000 d k⟩
variable (i0 i1 i2 i3 i4 i5 i6 i7 i8 i9 i10:Int) (b0 b1 h:Bool) (n0 n1:Nat) (r0 r1 r2 r3 r4 r5 r6 r7 r8 r9:Nat->Int)
instance aWz [Hz h]:Mo (aT i0 i1 i2 h) (λx=>Hz x.2):=⟨mz⟩
instance a1k [Hz h]:Mo (aO i0 h) (λx=>Hz x.2):=⟨mz⟩
instance a1l [Hz h]:Mo (jC i0 b0 b1 h) (λx=>Hz x.2):=⟨mz⟩
instance aWA [Hz h]:Mo (mF i0 i1 i2 h) (λx=>Hz x.2):=⟨mz⟩
instance a1m [Hz h]:Mo (aU i0 i1 i2 h) (λx=>Hz x.2):=⟨mz⟩
instance a2M [Hz h]:Mo (p7 i0 i1 i2 h) (λx=>Hz x.2):=⟨mz⟩
instance aVY [Hz h]:Mo (aX i0 i1 i2 h) (λx=>Hz x.2):=⟨mz⟩
instance aMr [Hz h]:Mo (gY i0 i1 i2 i3 h) (λx=>Hz x.2):=⟨mz⟩
instance a1n [Hz h]:Mo (bh i0 i1 i2 h) (λx=>Hz x.2):=⟨mz⟩
instance a4a [Hz h]:Mo (v5 i0 i1 h) (λx=>Hz x.2):=⟨mz⟩
instance a53 [Hz h]:Mo (GU i0 i1 h) (λx=>Hz x.2):=⟨mz⟩
instance aVZ (d:rz.B)[Hz d.2.1]:Mo (Jx d) (λx=>Hz x.2.1):=iY (λd=>d.2.1) (λd _=>mz) d
instance a1o [Hz h]:Mo (cF n0 h r0 b0) (λx=>Hz x.2):=⟨mz⟩
instance aT9 (d:lu.B)[Hz d.2.1]:Mo (GV d) (λx=>Hz x.2.1):=iY (λd=>d.2.1) (λd _=>mz) d
instance a0G [Hz h]:Mo (lS i0 n0 h r0 b0) (λx=>Hz x.2):=⟨mz⟩
instance a4b [Hz h]:Mo (ni i0 h) (λx=>Hz x.2):=⟨mz⟩
instance a4c [Hz h]:Mo (qG i0 h) (λx=>Hz x.2):=⟨mz⟩
instance a1p [Hz h]:Mo (v7 i0 i1 h) (λx=>Hz x.2):=⟨mz⟩
instance a1q [Hz h]:Mo (bS i0 i1 h) (λx=>Hz x.2):=⟨mz⟩
instance a45 [Hz h]:Mo (uo i0 i1 i2 i3 i4 i5 h) (λx=>Hz x.2):=⟨mz⟩
instance a2N [Hz h]:Mo (sD i0 i1 i2 i3 h) (λx=>Hz x.2):=⟨mz⟩
instance aV0 (d:rA.B)[Hz d.2.1]:Mo (DN d) (λx=>Hz x.2.1):=iY (λd=>d.2.1) (λd _=>mz) d
instance a1r [Hz h]:Mo (cw n0 h r0 b0) (λx=>Hz x.2):=⟨mz⟩
instance a4d [Hz h]:Mo (o7 i0 i1 i2 h) (λx=>Hz x.2):=⟨mz⟩
instance a46 [Hz h]:Mo (At i0 i1 i2 h) (λx=>Hz x.2):=⟨mz⟩
instance a0H (d:p9.B)[Hz d.2.1]:Mo (El d) (λx=>Hz x.2.1):=iY (λd=>d.2.1) (λd _=>mz) d
instance a4e [Hz h]:Mo (qH i0 i1 i2 i3 h) (λx=>Hz x.2):=⟨mz⟩
instance aV1 (d:rB.B)[Hz d.2.1]:Mo (JB d) (λx=>Hz x.2.1):=iY (λd=>d.2.1) (λd _=>mz) d
instance a1s [Hz h]:Mo (bu i0 n0 n1 h r0 r1 b0 b1) (λx=>Hz x.2):=⟨mz⟩
instance a4f [Hz h]:Mo (K9 i0 i1 i2 i3 i4 i5 i6 i7 h) (λx=>Hz x.2):=⟨mz⟩
instance a4g [Hz h]:Mo (K' i0 i1 i2 i3 h) (λx=>Hz x.2):=⟨mz⟩
instance aWB [Hz h]:Mo (gr i0 h) (λx=>Hz x.2):=⟨mz⟩
instance aPO (d:ek.B)[Hz d.2.1]:Mo (oI d) (λx=>Hz x.2.1):=iY (λd=>d.2.1) (λd _=>mz) d
instance aPP (d:eo.B)[Hz d.2.1]:Mo (oJ d) (λx=>Hz x.2.1):=iY (λd=>d.2.1) (λd _=>mz) d
instance aV2 [Hz h]:Mo (du r0 r1 h) (λx=>Hz x.2):=⟨mz⟩
instance aWC (d:om.B)[Hz d.2.1]:Mo (Mt d) (λx=>Hz x.2.1):=iY (λd=>d.2.1) (λd _=>mz) d
instance a2O [Hz h]:Mo (oo r0 i0 i1 i2 h) (λx=>Hz x.2):=⟨mz⟩
instance a0I (d:qd.B)[Hz d.2.1]:Mo (QF d) (λx=>Hz x.2.1):=iY (λd=>d.2.1) (λd _=>mz) d
instance a4h [Hz h]:Mo (wa r0 i0 i1 i2 h) (λx=>Hz x.2):=⟨mz⟩
instance a1t (d:sH.B)[Hz d.2.1]:Mo (Vu d) (λx=>Hz x.2.1):=iY (λd=>d.2.1) (λd _=>mz) d
instance a1u (d:sI.B)[Hz d.2.1]:Mo (Vv d) (λx=>Hz x.2.1):=iY (λd=>d.2.1) (λd _=>mz) d
instance a47 [Hz h]:Mo (kc n0 h r0 r1 r2 b0) (λx=>Hz x.2):=⟨mz⟩
instance aWD (d:ot.B)[Hz d.2.1]:Mo (fu d) (λx=>Hz x.2.1):=iY (λd=>d.2.1) (λd _=>mz) d
instance aWE (d:ou.B)[Hz d.2.1]:Mo (By d) (λx=>Hz x.2.1):=iY (λd=>d.2.1) (λd _=>mz) d
instance a2P [Hz h]:Mo (cQ i0 i1 i2 i3 h) (λx=>Hz x.2):=⟨mz⟩
instance aPQ (d:eW.B)[Hz d.2.1]:Mo (wY d) (λx=>Hz x.2.1):=iY (λd=>d.2.1) (λd _=>mz) d
instance aPR (d:eX.B)[Hz d.2.1]:Mo (wZ d) (λx=>Hz x.2.1):=iY (λd=>d.2.1) (λd _=>mz) d
instance aPS (d:fS.B)[Hz d.2.1]:Mo (w8 d) (λx=>Hz x.2.1):=iY (λd=>d.2.1) (λd _=>mz) d
instance aPT (d:eY.B)[Hz d.2.1]:Mo (w9 d) (λx=>Hz x.2.1):=iY (λd=>d.2.1) (λd _=>mz) d
instance aV3 [Hz h]:Mo (pe r0 r1 h r2) (λx=>Hz x.1):=⟨mz⟩
instance a1v [Hz h]:Mo (En i0 i1 i2 i3 i4 i5 i6 i7 h) (λx=>Hz x.2):=⟨mz⟩
instance a0J [Hz h]:Mo (Bz i0 h) (λx=>Hz x.2):=⟨mz⟩
instance a4i [Hz h]:Mo (kV i0 i1 i2 i3 i4 i5 i6 i7 h) (λx=>Hz x.2):=⟨mz⟩
instance a2Q (d:vh.B)[Hz d.2.1]:Mo (aas d) (λx=>Hz x.2.1):=iY (λd=>d.2.1) (λd _=>mz) d
instance a54 [Hz h]:Mo (jY i0 i1 i2 i3 h) (λx=>Hz x.2):=⟨mz⟩
instance aUa (d:jF.B)[Hz d.2.1]:Mo (BA d) (λx=>Hz x.2.1):=iY (λd=>d.2.1) (λd _=>mz) d
instance a0K [Hz h]:Mo (lV r0 h) (λx=>Hz x.2):=⟨mz⟩
instance a1w [Hz h]:Mo (bW r0 h) (λx=>Hz x.2):=⟨mz⟩
instance aV4 [Hz h]:Mo (ju i0 h) (λx=>Hz x.2):=⟨mz⟩
instance a48 [Hz h]:Mo (O2 i0 i1 i2 h) (λx=>Hz x.2):=⟨mz⟩
instance a0L [Hz h]:Mo (ti r0 i0 i1 i2 i3 i4 i5 i6 i7 h) (λx=>Hz x.2):=⟨mz⟩
instance a1x [Hz h]:Mo (nR r0 i0 i1 i2 i3 i4 i5 i6 i7 h) (λx=>Hz x.2):=⟨mz⟩
instance a0M (d:qg.B)[Hz d.2.1]:Mo (QJ d) (λx=>Hz x.2.1):=iY (λd=>d.2.1) (λd _=>mz) d
instance a4j [Hz h]:Mo (zw i0 i1 i2 h) (λx=>Hz x.2):=⟨mz⟩
instance aPU (d:eZ.B)[Hz d.2.1]:Mo (xd d) (λx=>Hz x.2.1):=iY (λd=>d.2.1) (λd _=>mz) d
instance aPV (d:ep.B)[Hz d.2.1]:Mo (rI d) (λx=>Hz x.2.1):=iY (λd=>d.2.1) (λd _=>mz) d
instance aPW (d:eu.B)[Hz d.2.1]:Mo (rJ d) (λx=>Hz x.2.1):=iY (λd=>d.2.1) (λd _=>mz) d
instance aPX (d:fa.B)[Hz d.2.1]:Mo (xi d) (λx=>Hz x.2.1):=iY (λd=>d.2.1) (λd _=>mz) d
instance aPY (d:ew.B)[Hz d.2.1]:Mo (rK d) (λx=>Hz x.2.1):=iY (λd=>d.2.1) (λd _=>mz) d
instance aPZ (d:fe.B)[Hz d.2.1]:Mo (rL d) (λx=>Hz x.2.1):=iY (λd=>d.2.1) (λd _=>mz) d
instance aV5 [Hz h]:Mo (gm r0 r1 r2 r3 h) (λx=>Hz x.2):=⟨mz⟩
instance aUb [Hz h]:Mo (nj i0 h) (λx=>Hz x.2):=⟨mz⟩
instance aUc (d:gu.B)[Hz d.2.1]:Mo (BE d) (λx=>Hz x.2.1):=iY (λd=>d.2.1) (λd _=>mz) d
instance a0N [Hz h]:Mo (cJ r0 r1 i0 n0 h r2 b0) (λx=>Hz x.2):=⟨mz⟩
instance aWF (d:ov.B)[Hz d.2.1]:Mo (MO d) (λx=>Hz x.2.1):=iY (λd=>d.2.1) (λd _=>mz) d
instance a2R [Hz h]:Mo (Hb r0 i0 h) (λx=>Hz x.2):=⟨mz⟩
instance aSE (d:iA.B)[Hz d.2.1]:Mo (zz d) (λx=>Hz x.2.1):=iY (λd=>d.2.1) (λd _=>mz) d
instance aSF (d:iB.B)[Hz d.2.1]:Mo (zA d) (λx=>Hz x.2.1):=iY (λd=>d.2.1) (λd _=>mz) d
instance aSG (d:iC.B)[Hz d.2.1]:Mo (zB d) (λx=>Hz x.2.1):=iY (λd=>d.2.1) (λd _=>mz) d
instance aWG [Hz h]:Mo (mJ r0 r1 r2 i0 h) (λx=>Hz x.1):=⟨mz⟩
instance aMN [Hz h]:Mo (nG r0 r1 r2 i0 h) (λx=>Hz x.2):=⟨mz⟩
instance aPr (d:fW.B)[Hz d.2.1]:Mo (uO d) (λx=>Hz x.2.1):=iY (λd=>d.2.1) (λd _=>mz) d
instance aPs (d:fX.B)[Hz d.2.1]:Mo (uP d) (λx=>Hz x.2.1):=iY (λd=>d.2.1) (λd _=>mz) d
instance aPt (d:fY.B)[Hz d.2.1]:Mo (uQ d) (λx=>Hz x.2.1):=iY (λd=>d.2.1) (λd _=>mz) d
instance aUd [Hz h]:Mo (nk r0 r1 r2 i0 h) (λx=>Hz x.2):=⟨mz⟩
instance aSH (d:ke.B)[Hz d.2.1]:Mo (E6 d) (λx=>Hz x.2.1):=iY (λd=>d.2.1) (λd _=>mz) d
instance aWH [Hz h]:Mo (yQ r0 i0 h) (λx=>Hz x.2):=⟨mz⟩
instance aWI (d:oy.B)[Hz d.2.1]:Mo (MQ d) (λx=>Hz x.2.1):=iY (λd=>d.2.1) (λd _=>mz) d
instance aWJ (d:mK.B)[Hz d.2.1]:Mo (F7 d) (λx=>Hz x.2.1):=iY (λd=>d.2.1) (λd _=>mz) d
instance a2S (x:C2.B)[Hz x.2.1]:Mo (zF x) (λx=>Hz x.2):=⟨mz⟩
instance a4k [Hz h]:Mo (Cg r0 r1 r2 r3 i0 i1 i2 h) (λx=>Hz x.2):=⟨mz⟩
instance a0O (d:nS.B)[Hz d.2.1]:Mo (IQ d) (λx=>Hz x.2.1):=iY (λd=>d.2.1) (λd _=>mz) d
instance a4l (x:F9.B)[Hz x.2.1]:Mo (Ci x) (λx=>Hz x.2.1):=⟨mz⟩
instance aV6 (d:kP.B)[Hz d.2.1]:Mo (DX d) (λx=>Hz x.2.1):=iY (λd=>d.2.1) (λd _=>mz) d
instance a1y [Hz h]:Mo (wc n0 h r0 r1 r2 r3 r4 r5 r6 r7 r8 r9 b0) (λx=>Hz x.2):=⟨mz⟩
instance a2T [Hz h]:Mo (zH r0 r1 r2 i0 i1 h) (λx=>Hz x.2):=⟨mz⟩
instance aUe (d:ly.B)[Hz d.2.1]:Mo (Hf d) (λx=>Hz x.2.1):=iY (λd=>d.2.1) (λd _=>mz) d
instance a0P [Hz h]:Mo (gA r0 i0 n0 h r1 b0) (λx=>Hz x.2.1):=⟨mz⟩
instance a1z [Hz h]:Mo (we i0 i1 i2 i3 i4 i5 i6 h) (λx=>Hz x.2):=⟨mz⟩
instance a2U [Hz h]:Mo (zI i0 i1 i2 i3 i4 i5 i6 i7 i8 h) (λx=>Hz x.2):=⟨mz⟩
instance aV7 [Hz h]:Mo (ey r0 i0 i1 i2 i3 h) (λx=>Hz x.2):=⟨mz⟩
instance aV8 [Hz h]:Mo (wK r0 i0 i1 i2 i3 i4 i5 i6 i7 i8 h) (λx=>Hz x.1):=⟨mz⟩
instance aUf [Hz h]:Mo (jH i0 i1 i2 i3 i4 i5 i6 i7 h) (λx=>Hz x.2):=⟨mz⟩
instance aSI (x:rP.B)[Hz x.2.1]:Mo (rQ x) (v4 (λx=>Hz x.2) (λx=>Hz x.1)):=⟨mz⟩
instance a0Q (x:BJ.B)[Hz x.2.1]:Mo (BK x) (λx=>Hz x.2):=⟨mz⟩
instance a0R [Hz h]:Mo (tj i0 i1 i2 i3 i4 i5 i6 i7 i8 i9 i10 h) (λx=>Hz x.2):=⟨mz⟩
instance aSJ [Hz h]:Mo (lZ i0 i1 i2 i3 i4 i5 i6 i7 i8 h) (λx=>Hz x.2):=⟨mz⟩
instance a0S [Hz h]:Mo (BL r0 i0 i1 i2 h) (λx=>Hz x.2):=⟨mz⟩
instance aP0 [Hz h]:Mo (kW i0 i1 i2 i3 i4 i5 i6 i7 i8 h) (λx=>Hz x.2):=⟨mz⟩
instance aWK [Hz h]:Mo (yS r0 i0 i1 i2 i3 h) (λx=>Hz x.2):=⟨mz⟩
instance a4m [Hz h]:Mo (wh i0 i1 i2 i3 i4 i5 i6 i7 i8 h) (λx=>Hz x.2):=⟨mz⟩
instance a4n [Hz h]:Mo (Ld r0 i0 i1 i2 i3 i4 h) (λx=>Hz x.1):=⟨mz⟩
instance a1A [Hz h]:Mo (wi i0 i1 i2 h) (λx=>Hz x.2):=⟨mz⟩
instance a0T [Hz h]:Mo (BM r0 i0 i1 i2 i3 i4 i5 i6 h) (λx=>Hz x.2):=⟨mz⟩
instance a2V [Hz h]:Mo (Hh i0 i1 i2 i3 i4 i5 i6 i7 i8 h) (λx=>Hz x.2):=⟨mz⟩
instance a4o [Hz h]:Mo (Cj i0 i1 i2 i3 i4 i5 i6 i7 i8 h) (λx=>Hz x.2):=⟨mz⟩
instance aWL [Hz h]:Mo (qK r0 h) (λx=>Hz x.2):=⟨mz⟩
instance aWM [Hz h]:Mo (yT r0 i0 i1 i2 h) (λx=>Hz x.2):=⟨mz⟩
instance aWN [Hz h]:Mo (yU r0 i0 i1 h) (λx=>Hz x.2):=⟨mz⟩
instance a2W [Hz h]:Mo (zL i0 i1 i2 i3 i4 i5 i6 i7 i8 h) (λx=>Hz x.2):=⟨mz⟩
instance aV9 [Hz h]:Mo (wL r0 h) (λx=>Hz x.2):=⟨mz⟩
instance a2X [Hz h]:Mo (zM r0 i0 i1 i2 i3 i4 h) (v4 (λx=>Hz x.2) (λx=>Hz x.1)):=⟨mz⟩
instance a2Y [Hz h]:Mo (lz r0 i0 h) (λx=>Hz x.2):=⟨mz⟩
instance a1B (x:AI.B)[Hz x.2]:Mo (wj x) (λx=>Hz x.2):=⟨mz⟩
instance aPu (x:mc.B)[Hz x.2.2]:Mo (hO x) (λx=>Hz x.2.2):=⟨mz⟩
instance aHg (x:gQ.B)[Hz x.b.1]:Mo (eK x) (λx=>Hz x.1.2):=⟨mz⟩
instance aIp (x:kR.B)[Hz x.b.1]:Mo (fm x) (v4 (λx=>Hz x.2.2) (λx=>Hz x.1.2)):=⟨mz⟩
instance aUg [Hz h]:Mo (nm r0 r1 r2 i0 i1 i2 i3 h) (λx=>Hz x.2):=⟨mz⟩
instance aP1 [Hz h]:Mo (kX r0 r1 r2 i0 i1 i2 h) (λx=>Hz x.2):=⟨mz⟩
instance aWO [Hz h]:Mo (qL r0 r1 r2 i0 i1 h) (λx=>Hz x.2):=⟨mz⟩
instance aP2 (d:nc.B)[Hz d.2.1]:Mo (Db d) (λx=>Hz x.2.1):=iY (λd=>d.2.1) (λd _=>mz) d
instance aWa [Hz h]:Mo (rR i0 n0 n1 h r0 b0 b1) (λx=>Hz x.2):=⟨mz⟩
instance aSK [Hz h]:Mo (rS r0 i0 i1 i2 h) (λx=>Hz x.2):=⟨mz⟩
instance aDK (x:iI.B)[Hz x.2.2]:Mo (fV x) (λx=>Hz x.2):=⟨mz⟩
instance aB4 (x:gH.B)[Hz x.c.1]:Mo (fy x) (λx=>Hz x.2):=⟨mz⟩
instance azp (d:cZ.B)[Hz d.b.1]:Mo (ns d) (λx=>Hz x.b.1):=iY (λd=>d.b.1) (λd _=>mz) d
instance aDL (x:iJ.B)[Hz x.2.1]:Mo (iK x) (λx=>Hz x.1):=⟨mz⟩
instance azq (d:c7.B)[Hz d.b.1]:Mo (nu d) (λx=>Hz x.b.1):=iY (λd=>d.b.1) (λd _=>mz) d
instance aDM (x:iL.B)[Hz x.2.1]:Mo (iM x) (λx=>Hz x.1):=⟨mz⟩
instance aDm (d:dA.B)[Hz d.b.1]:Mo (pJ d) (λx=>Hz x.b.1):=iY (λd=>d.b.1) (λd _=>mz) d
instance aHh (x:jZ.B)[Hz x.b.1]:Mo (j6 x) (λx=>Hz x.1):=⟨mz⟩
instance aMs [Hz h]:Mo (mV i0 i1 i2 i3 i4 i5 i6 i7 i8 h) (λx=>Hz x.2):=⟨mz⟩
instance aPv [Hz h]:Mo (py i0 i1 i2 h) (λx=>Hz x.2):=⟨mz⟩
instance aSL (x:oS.B)[Hz x.2.1.2.1]:Mo (iD x) (λx=>Hz x.1.2.1):=⟨mz⟩
instance aSM (x:oT.B)[Hz x.2.1.2.1]:Mo (di x) (λx=>Hz x.2.1.1.2.1):=⟨mz⟩
instance aPw (x:mg.B)[Hz x.2.1.2.1]:Mo (fZ x) (λx=>Hz x.2.1):=⟨mz⟩
instance aMt (x:kl.B)[Hz x.2.1.2.1]:Mo (ib x) (λx=>Hz x.1.2.1):=⟨mz⟩
instance aHi (x:fQ.B)[Hz x.1.2.1]:Mo (dG x) (λx=>Hz x.b.1):=⟨mz⟩
instance aSN (x:oU.B)[Hz x.2.1.2.1]:Mo (mh x) (v4 (λx=>Hz x.1.2.1) (λx=>Hz x.1.1.2.1)):=⟨mz⟩
instance aSO (x:oV.B)[Hz x.2.1.2.1]:Mo (mi x) (λx=>Hz x.1.2.1):=⟨mz⟩
instance aMu (x:km.B)[Hz x.2.1.2.1]:Mo (ig x) (λx=>Hz x.1.2.1):=⟨mz⟩
instance aSP (x:oW.B)[Hz x.2.1.2.1]:Mo (mj x) (λx=>Hz x.1.2.1):=⟨mz⟩
instance aIq (x:iF.B)[Hz x.2.1.2.1]:Mo (gf x) (v4 (λx=>Hz x.1.1.2.1) (λx=>Hz x.1.2.1)):=⟨mz⟩
instance a2Z (d:vL.B)[Hz d.2.1]:Mo (aba d) (λx=>Hz x.2.1):=iY (λd=>d.2.1) (λd _=>mz) d
instance a21 (d:vM.B)[Hz d.2.1]:Mo (abb d) (λx=>Hz x.2.1):=iY (λd=>d.2.1) (λd _=>mz) d
instance a23 (d:vN.B)[Hz d.2.1]:Mo (abc d) (λx=>Hz x.2.1):=iY (λd=>d.2.1) (λd _=>mz) d
instance a25 (d:vO.B)[Hz d.2.1]:Mo (abd d) (λx=>Hz x.2.1):=iY (λd=>d.2.1) (λd _=>mz) d
instance a55 [Hz h]:Mo (V5 r0 i0 i1 i2 i3 i4 i5 i6 i7 h) (λx=>Hz x.2):=⟨mz⟩
instance a4p [Hz h]:Mo (zZ r0 r1 r2 i0 i1 i2 i3 i4 i5 i6 i7 r3 h) (λx=>Hz x.2):=⟨mz⟩
instance aPx (x:ml.B)[Hz x.2.1.2.1]:Mo (jP x) (λx=>Hz x.1.2.1):=⟨mz⟩
instance aUh (x:ql.B)[Hz x.2.1.2.1]:Mo (nA x) (v4 (λx=>Hz x.1.2.1) (λx=>Hz x.1.1.2.1)):=⟨mz⟩
instance azr (d:c8.B)[Hz d.b.1]:Mo (nC d) (λx=>Hz x.b.1):=iY (λd=>d.b.1) (λd _=>mz) d
instance azs (d:dK.B)[Hz d.b.1]:Mo (jR d) (λx=>Hz x.b.1):=⟨mz⟩
instance azt (d:c9.B)[Hz d.b.1]:Mo (nD d) (λx=>Hz x.b.1):=iY (λd=>d.b.1) (λd _=>mz) d
instance aDN (x:iN.B)[Hz x.b.1]:Mo (iO x) (λx=>Hz x.2.1):=⟨mz⟩
instance aMv (d:dB.B)[Hz d.2.1.2.1]:Mo (nI d) (λx=>Hz x.2.1.2.1):=iY (λd=>d.2.1.2.1) (λd _=>mz) d
instance aP3 (x:kZ.B)[Hz x.2.1.2.1]:Mo (k9 x) (v4 (λx=>Hz x.1.2.1) (λx=>Hz x.1.1.2.1)):=⟨mz⟩
instance aMO (d:dw.B)[Hz d.2.1.2.1]:Mo (pD d) (λx=>Hz x.2.1.2.1):=iY (λd=>d.2.1.2.1) (λd _=>mz) d
instance aMP (d:dS.B)[Hz d.2.1.2.1]:Mo (tK d) (λx=>Hz x.2.1.2.1):=iY (λd=>d.2.1.2.1) (λd _=>mz) d
instance aMQ (d:gE.B)[Hz d.1.2.1]:Mo (mq d) (v4 (λx=>Hz x.2.1.2.1) (λx=>Hz x.2.1.2.1)):=⟨mz⟩
instance aMR (d:dU.B)[Hz d.2.1.2.1]:Mo (tL d) (λx=>Hz x.2.1.2.1):=iY (λd=>d.2.1.2.1) (λd _=>mz) d
instance aMS (d:gF.B)[Hz d.1.2.1]:Mo (mw d) (v4 (λx=>Hz x.2.1.2.1) (λx=>Hz x.2.1.2.1)):=⟨mz⟩
instance aMT (d:gG.B)[Hz d.1.2.1]:Mo (jW d) (v4 (λx=>Hz x.2.1.2.1) (λx=>Hz x.2.1.2.1)):=⟨mz⟩
instance aSQ (x:mn.B)[Hz x.2.1.2.1]:Mo (my x) (λx=>Hz x.1.1.2.1):=⟨mz⟩
instance aPy (d:dL.B)[Hz d.2.1.2.1]:Mo (uW d) (v4 (λx=>Hz x.2.1.2.1) (λx=>Hz x.2.1.2.1)):=iY (λd=>d.2.1.2.1) (λd _=>mz) d
instance aPz (d:gh.B)[Hz d.1.2.1]:Mo (nh d) (λx=>Hz x.2.1.2.1):=⟨mz⟩
instance aUi (x:nE.B)[Hz x.2.1.2.1]:Mo (il x) (λx=>Hz x.2.1.2.1):=⟨mz⟩
instance aMw (x:ko.B)[Hz x.2.1.2.1]:Mo (ij x) (λx=>Hz x.2.1.2.1):=⟨mz⟩
instance aMU (d:lp.B)[Hz d.b.1.2.1]:Mo (tO d) (λx=>Hz x.b.1.2.1):=⟨mz⟩
instance aSR (x:oY.B)[Hz x.2.1.2.1]:Mo (mC x) (λx=>Hz x.1.b.1):=⟨mz⟩
instance aPA (d:dM.B)[Hz d.b.2.1.2.1]:Mo (qC d) (v4 (λx=>Hz x.b.2.1.2.1) (v4 (λx=>Hz x.b.2.1.2.1) (v4 (λx=>Hz x.b.2.1.2.1) (λx=>Hz x.b.2.1.2.1)))):=iY (λd=>d.b.2.1.2.1) (λd _=>mz) d
instance aPB (d:mD.B)[Hz d.b.1.2.1]:Mo (u3 d) (λx=>Hz x.b.1.2.1):=⟨mz⟩
instance abu (x:lD.B)[Hz x.b.1.2.1]:Mo (jI x) (v4 (λx=>Hz x.1.b.1) (λx=>Hz x.2.1.2.1)):=⟨mz⟩
end Go.Proofs.YtldgljclcgaibaaGreat
namespace Go.Proofs.YtldgljclcgaibaaGreat
open Go.Ab Go.Ab.Pg
def Pb (B:Int)(b:Bf):Prop:=b.2.1=B/\((b.2.2.1:Nat):Int)<=B
theorem Pb.br {B T:Int}{b c:Bf}(h:Pb B b)(k:BR T b c):Pb B c:=⟨k.2.1.trans h.1,by have:=k.len;have:=h.2;omega⟩
theorem Pb.pr {B:Int}{b c:Bf}(h:Pb B b)(k:PR b c∨SR b c):Pb B c:=by
 obtain⟨a,l⟩:=h;rcases k with k|k
 .obtain⟨k1,_,_,_,_,k6⟩:=k;refine⟨k1.trans a,?_⟩;rcases k6 with k6|k6|k6
  .rw[k6.2.2];exact l
  .have:=k6.2.2.2;omega
  .rw[k6.2.2];exact l
 .have e:=k.1;exact⟨by rw[e];exact a,by rw[e];exact l⟩
theorem Pb.len {B:Int}{b:Bf}(hB:B<=64)(h:Pb B b):b.2.2.1<=64:=by have:=h.2;omega
def IS (N:Nat)(B k:Int)(q:Nat×Nat)(T S:Int)(a:Bool)(row:Nat->Int)(b0 b1 b2 b3 b4 b5:Bf)(p:Int×Int×Nat):Prop:=((q.2:Nat):Int)<=k/\Tq T S a q.2 (λi=>row (q.1+i))/\Pb B b0/\Pb B b1/\Pb B b2/\Pb B b3/\Pb B b4/\Pb B b5/\p.1=N/\p.2.2<=N
theorem a0U (x:lD.B):Po (jI x) (λr:qv=>match r with|.inl e=>x.2.2.1.2.1=true->e.1.2.2.1=true|.inr e=>x.2.2.1.2.1=true->e.2.1.2.1=true):=by
 intro r hr;cases r with
 |inl e=>intro h;exact(show Hz e.1.2.2.1 from(@abu x ⟨h⟩).h _ hr).h
 |inr e=>intro h;exact(show Hz e.2.1.2.1 from(@abu x ⟨h⟩).h _ hr).h
theorem a26 (N:Nat)(h1:1<=N)(hN:N<=1999)(B:Int)(hB:B<=64)(k:Int)(hk:k<=1900)(q:Nat×Nat)(row:Nat->Int)(x:lD.B)(e1:x.2.2.1.2.2.2.2.1=q.2)(e2:x.2.2.2.2.2.1.1=λi=>row (q.1+i))(h:IS N B k q x.2.2.1.2.2.2.2.2.2.2.2.2.2.2.2.2.1 x.2.2.2.2.1.2.1.1 x.2.2.2.2.1.2.2 row x.2.2.2.2.2.2.1 x.2.2.2.2.2.2.2.1 x.2.2.2.2.2.2.2.2.1 x.2.2.2.2.2.2.2.2.2.1 x.2.2.2.2.2.2.2.2.2.2.1 x.2.2.2.2.2.2.2.2.2.2.2.1 x.2.2.2.2.2.2.2.2.2.2.2.2.2.1)(g:GF x.2.2.1.2.2.1 x.2.2.1.2.2.2.1 x.2.2.1.2.2.2.2.2.1 x.2.2.1.2.2.2.2.2.2.2.2.2.2.2.2.2.2.2.1):Ok (jI x) (λr:qv=>match r with|.inl e=>IS N B (k+40) (0,e.1.2.2.2.2.2.1) e.1.2.2.2.2.2.2.2.2.2.2.2.2.2.2.1 e.2.2.1.2.1.1 e.2.2.1.2.2 e.2.2.2.1.1 e.2.2.2.2.1 e.2.2.2.2.2.1 e.2.2.2.2.2.2.1 e.2.2.2.2.2.2.2.1 e.2.2.2.2.2.2.2.2.1 e.2.2.2.2.2.2.2.2.2.1 e.2.2.2.2.2.2.2.2.2.2.2.1/\GF e.1.2.2.2.1 e.1.2.2.2.2.1 e.1.2.2.2.2.2.2.1 e.1.2.2.2.2.2.2.2.2.2.2.2.2.2.2.2.2.1/\(x.2.2.1.2.1=true->e.1.2.2.1=true)|.inr e=>IS N B (k+40) e.2.1.2.2.2.2.1 e.2.1.2.2.2.2.2.2.2.2.2.2.2.2.2.1 e.2.2.2.1.2.1.1 e.2.2.2.1.2.2 e.2.2.2.2.1.2.1 e.2.2.2.2.2.1 e.2.2.2.2.2.2.1 e.2.2.2.2.2.2.2.1 e.2.2.2.2.2.2.2.2.1 e.2.2.2.2.2.2.2.2.2.1 e.2.2.2.2.2.2.2.2.2.2.1 e.2.2.2.2.2.2.2.2.2.2.2.2.1/\GF e.2.1.2.2.1 e.2.1.2.2.2.1 e.2.1.2.2.2.2.2.1 e.2.1.2.2.2.2.2.2.2.2.2.2.2.2.2.2.2.1/\(x.2.2.1.2.1=true->e.2.1.2.1=true)):=by
 obtain⟨h0,h1',p0,p1,p2,p3,p4,p5,s0,s1⟩:=h;refine((a2I N h1 hN x (by rw[e1];omega) (p0.len hB) (p1.len hB) (p2.len hB) (p3.len hB) (p4.len hB) (p5.len hB) (by rw[s0];exact dZ _) s1 (by rw[e1,e2];exact h1')).with ((a44 x g).and (a0U x))).mono λr hr=> ?_;cases r with
 |inl e=>
  obtain⟨⟨o1,f1,f2,f3,f4,f11,f12,CH⟩,b,ht⟩:=hr;have f1:(e.1.2.1,e.1.2.2)=(x.2.2.1.1,x.2.2.1.2):=f1;have f5:e.1.2.2.2.2.2.1=x.2.2.1.2.2.2.2.1:=eC (λz=>z.2.2.2.2.1) f1;have f14:e.1.2.2.2.2.2.2.2.2.2.2.2.2.2.2.1=x.2.2.1.2.2.2.2.2.2.2.2.2.2.2.2.2.1:=eC (λz=>z.2.2.2.2.2.2.2.2.2.2.2.2.2.1) f1;refine⟨?_,b,ht⟩;rw[f5,f14,f3,f4,f12];refine⟨by show((x.2.2.1.2.2.2.2.1:Nat):Int)<=k+40;rw[e1];omega,?_,?_⟩
  .show Tq x.2.2.1.2.2.2.2.2.2.2.2.2.2.2.2.2.1 x.2.2.2.2.1.2.1.1 x.2.2.2.2.1.2.2 x.2.2.1.2.2.2.2.1 (λi=>x.2.2.2.2.2.1.1 (0+i));rw[e1,e2];exact⟨h1'.1,h1'.2.up (dZ _) (λi=>by show row (q.1+(0+i))=row (q.1+i);rw[gP])⟩
  .have all:Pb B e.2.2.2.2.1/\Pb B e.2.2.2.2.2.1/\Pb B e.2.2.2.2.2.2.1/\Pb B e.2.2.2.2.2.2.2.1/\Pb B e.2.2.2.2.2.2.2.2.1/\Pb B e.2.2.2.2.2.2.2.2.2.1:=by
    rcases CH with⟨o2,c0,c1,c2,c3,c4,c5⟩| ⟨o2,c0,c1,c2,c3,c4,c5⟩| ⟨o2,c0,c1,c2,c3,c4,c5⟩| ⟨o2,c0,c1,c2,c3,c4,c5⟩| ⟨o2,c0,c1,c2,c3,c4,c5⟩| ⟨o2,c0,c1,c2,c3,c4,c5⟩| ⟨o2,c0,c1,c2,c3,c4,c5⟩
    .exact⟨by rw[c0];exact p0,by rw[c1];exact p1,by rw[c2];exact p2,by rw[c3];exact p3,by rw[c4];exact p4,by rw[c5];exact p5⟩
    .exact⟨p0.pr c0,by rw[c1];exact p1,by rw[c2];exact p2,by rw[c3];exact p3,by rw[c4];exact p4,by rw[c5];exact p5⟩
    .exact⟨by rw[c0];exact p0,p1.pr c1,by rw[c2];exact p2,by rw[c3];exact p3,by rw[c4];exact p4,by rw[c5];exact p5⟩
    .exact⟨by rw[c0];exact p0,by rw[c1];exact p1,p2.pr c2,by rw[c3];exact p3,by rw[c4];exact p4,by rw[c5];exact p5⟩
    .exact⟨by rw[c0];exact p0,by rw[c1];exact p1,by rw[c2];exact p2,p3.pr c3,by rw[c4];exact p4,by rw[c5];exact p5⟩
    .exact⟨by rw[c0];exact p0,by rw[c1];exact p1,by rw[c2];exact p2,by rw[c3];exact p3,p4.pr c4,by rw[c5];exact p5⟩
    .exact⟨by rw[c0];exact p0,by rw[c1];exact p1,by rw[c2];exact p2,by rw[c3];exact p3,by rw[c4];exact p4,p5.pr c5⟩
   obtain⟨a0,a1,a2,a3,a4,a5⟩:=all;exact⟨a0,a1,a2,a3,a4,a5,s0,s1⟩
 |inr e=>
  obtain⟨⟨o1,a0,a1,a2,r0,r1,r2,r3,r4,r5,u0,u1⟩,b,ht⟩:=hr;have a0:((e.2.1.2.2.2.2.1.2:Nat):Int)<=x.2.2.1.2.2.2.2.1+40:=a0;rw[e1] at a0;exact⟨⟨by omega,a1,p0.br r0,p1.br r1,p2.br r2,p3.br r3,p4.br r4,p5.br r5,u0.trans s0,u1⟩,b,ht⟩
end Go.Proofs.YtldgljclcgaibaaGreat
namespace Go.Proofs.YtldgljclcgaibaaGreat
open Go.Ab
def tn (j:Nat):Nat:=j*(j-1)/2
theorem a49:∀j j':Fin 25,j.val<j'.val->tn j.val+j.val<=tn j'.val:=by decide
theorem a5a {j j':Nat}(h:j<j')(h2:j'<=24):tn j+j<=tn j':=a49 ⟨j,by omega⟩ ⟨j',by omega⟩ h
theorem a5b:tn 24=276:=by decide
def pos (i j:Nat):Nat:=tn j+i
theorem aMx {i j:Nat}(h:i<j)(h2:j<24):pos i j<276:=by
 have:=a5a h2 (by omega);rw[a5b] at this;unfold pos;omega
theorem aWb (i j:Int)(h:¬(0<=i/\i<j/\j<24)):∃a,fH i j=some (a,false):=by
 simp only[fH,zq,Pg.bP,Pg.bN,Pg.bZ,Pg.eD,Pg.dD];try delta wI wU
 by_cases a:i>=0
 .rw[dR a,bn];by_cases b:i<j
  .rw[dR b,bn,cC (show ¬j<24 by omega)];exact⟨_,rfl⟩
  .rw[cC b,bx];exact⟨_,rfl⟩
 .rw[cC a,bx];exact⟨_,rfl⟩
theorem aSS (i j:Nat)(h:i<j)(h2:j<24):fH (i:Int) (j:Int)=some ((pos i j:Int),true):=by
 have key:∀j:Fin 24,IntKind.wrap .i64 (Int.tdiv (IntKind.wrap .i64 ((j.val:Int)*IntKind.wrap .i64 ((j.val:Int)-1))) 2)=(tn j.val:Int):=by decide+kernel
 simp only[fH,zq,Pg.bP,Pg.bN,Pg.bZ,Pg.eD,Pg.dD];try delta wI wU
 rw[dR (show(i:Int)>=0 by omega),bn,dR (show(i:Int)<j by omega),bn,show IntKind.wrap .i64 (Int.tdiv (IntKind.wrap .i64 ((j:Int)*IntKind.wrap .i64 ((j:Int)-1))) 2)=(tn j:Int) from key ⟨j,h2⟩,dR (show(j:Int)<24 by omega)];have:=aMx h h2;unfold pos at*;rw[wrap_i64 (by omega) (by omega),Int.natCast_add]
def uV (f:Nat->Int)(i j:Int):Int:=if i=j/\0<=i/\i<24 then 1073741824 else if 0<=i/\i<j/\j<24 then f (pos i.toNat j.toNat) else 0
theorem a6T {n m:Nat}(h:n<m):wr (0+n*1+1) m=true:=axH (by omega)
theorem aWc (f g:Nat->Int)(i j:Int):wW f g i j=some (uV f i j):=by
 have rest:(Option.bind (fH i j) λ(d:Int×Bool)=>bif !d.2 then some 0 else bif aZ d.1 276 then bif wr (0+z4 d.1*1+1) 276 then some (f (z4 d.1)) else none else none)=some (if 0<=i/\i<j/\j<24 then f (pos i.toNat j.toNat) else 0):=by
  by_cases c:0<=i/\i<j/\j<24
  .obtain⟨a,rfl⟩:∃a:Nat,i=(a:Int):=⟨i.toNat,by omega⟩;obtain⟨b,rfl⟩:∃b:Nat,j=(b:Int):=⟨j.toNat,by omega⟩;have h1:a<b:=by omega
   have h2:b<24:=by omega
   rw[aSS a b h1 h2,if_pos c,bC];have e:aZ ((pos a b:Nat):Int) 276=true:=aaL (aMx h1 h2);simp only[HW,bx,e,bn,HV,a6T (aMx h1 h2)]
  .obtain⟨a,e⟩:=aWb i j c;rw[e,if_neg c,bC];rfl
 simp only[wW,al4,Pg.bP,Pg.bN,Pg.bZ,Pg.eD,Pg.dD];unfold uV;by_cases c:i=j
 .have e:(i==j)=true:=by simp[c]
  rw[e,bn];by_cases d:i>=0
  .rw[dR d,bn];by_cases g:i<24
   .rw[dR g,bn,if_pos ⟨c,by omega,g⟩]
   .rw[cC g,bx,if_neg (by omega)];exact rest
  .rw[cC d,bx,if_neg (by omega)];exact rest
 .have e:(i==j)=false:=by simp[c]
  rw[e,bx,if_neg (by omega)];exact rest
theorem aPC {j m:Nat}(h:j≠m):z9 j m=false:=by
 cases e:z9 j m with
 |false=>rfl
 |true=>exact absurd (lE e) h
theorem aWd {f g:Nat->Int}{n:Nat}(h:∀j,j<n->f j=g j):pk f n=pk g n:=by
 induction n with
 |zero=>rfl
 |succ n ih=>rw[pk,pk,ih λj hj=>h j (by omega),h n (by omega)]
theorem aWe {f g:Nat->Bool}{n:Nat}(h:∀j,j<n->f j=g j):oE f n=oE g n:=by
 induction n with
 |zero=>rfl
 |succ n ih=>rw[oE,oE,ih λj hj=>h j (by omega),h n (by omega)]
def xV (f g:Nat->Int)(j:Int)(k:Nat):Int:=C4 (sat (uV f j k)*sat (g k)) 30
def xO (f g:Nat->Int)(j:Int)(k:Nat):Bool:=dE (uV f j k)||dE (g k)||dE (xV f g j k)
def atS (f g:Nat->Int)(i j:Int)(m n:Nat):Int:=pk (λk=>sat (uV f i ((m+k:Nat):Int))*sat (sat (xV f g j (m+k)))) n
def atO (f g:Nat->Int)(i j:Int)(m n:Nat):Bool:=oE (λk=>dE (uV f i ((m+k:Nat):Int))||dE (sat (xV f g j (m+k)))) n
theorem aG9 (f g:Nat->Int)(i j:Int)(m:Nat)(eJ:Bool)(h0:0<=i)(h1:0<=j)(h2:(if j>i then j else i)=(m:Int))(h3:m<24):
  Qe f g i j eJ=some (sat (C4 (atS f g i j m (24-m)) 30),((eJ||oE (λk=>xO f g j (m+k)) (24-m))||atO f g i j m (24-m))||dE (C4 (atS f g i j m (24-m)) 30)):=by
 simp only[Qe,azm,Pg.bP,Pg.bN,Pg.bZ,Pg.eD,Pg.dD];try delta wI wU
 unfold aoy;rw[cC (show ¬(if j<i then j else i)<0 by split<;>omega),bx,h2,cC (show ¬(m:Int)>=24 by omega),bx,bn]
 refine FL (λt d=>∃(n:Nat) (u x:Nat->Int),m+n+t=24/\(∀k,k<n->u k=uV f i ((m+k:Nat):Int))/\(∀k,k<n->x k=sat (xV f g j (m+k)))/\
   d=((i,j,n,n,((m+n:Nat):Int)),(eJ||oE (λk=>xO f g j (m+k)) n),(f,g),u,n,x)) ?_ 2000 (24-m) _ (by omega)
  ⟨0,λ_=>0,λ_=>0,by omega,(λk hk=>by omega),(λk hk=>by omega),by simp only[oE,LJ];rfl⟩
 rintro t _ c ⟨n,u,x,hn,hu,hx,rfl⟩ hc
 rcases SQ t with t0|t0
 .have e:n=24-m:=by omega
  have z:decide (((m+n:Nat):Int)<24)=false:=cC (by omega);simp only[abn,Pg.pV,Pg.pW,Pg.sW,Pg.zd,Pg.pX,na,j8,z,bx,Ar,bn];rw[show(30:Int)=ws 30 from rfl,aGe 30 (by omega) n (by omega),bC];have s1:pk (λk=>sat (u k)*sat (x k)) n=atS f g i j m n:=aWd λk hk=>by rw[hu k hk,hx k hk]
  have s2:oE (λk=>dE (u k)||dE (x k)) n=atO f g i j m n:=aWe λk hk=>by rw[hu k hk,hx k hk]
  rw[s1,s2,e]
 .have z:decide (((m+n:Nat):Int)<24)=true:=dR (by omega);have b1:wr ((n+1)*8) 140737488355328=true:=axH (by omega);have b2:aZ ((m+n:Nat):Int) 24=true:=aaL (show m+n<24 by omega);have b3:IntKind.wrap .i64 (((m+n:Nat):Int)+1)=((m+(n+1):Nat):Int):=(wrap_i64 (by omega) (by omega)).trans (by omega);have b4:z4 ((m+n:Nat):Int)=m+n:=HV _;have mu:=aGd (uV f j ((m+n:Nat):Int)) (g (m+n)) 30 (eJ||oE (λk=>xO f g j (m+k)) n) (by omega);rw[show ws 30=30 from rfl] at mu;simp only[abn,Pg.pV,Pg.pW,Pg.sW,Pg.zd,Pg.pX,na,j8,wI,z,bn,aWc,bC,b1,b2,b3,b4,mu];refine hc (t-1) _ (by omega) ⟨n+1,(λk=>bif z9 k n then uV f i ((m+n:Nat):Int) else u k),(λk=>bif z9 k n then sat (C4 (sat (uV f j ((m+n:Nat):Int))*sat (g (m+n))) 30) else x k),by omega,?_,?_,?_⟩
  .intro k hk;simp only;rcases mO k n with c|c
   .rw[aPC (show k≠n by omega),bx];exact hu k c
   .obtain rfl:k=n:=by omega
    rw[Ar,bn]
  .intro k hk;simp only;rcases mO k n with c|c
   .rw[aPC (show k≠n by omega),bx];exact hx k c
   .obtain rfl:k=n:=by omega
    rw[Ar,bn];rfl
  .have e:(eJ||oE (λk=>xO f g j (m+k)) n||dE (uV f j ((m+n:Nat):Int))||dE (g (m+n))||dE (C4 (sat (uV f j ((m+n:Nat):Int))*sat (g (m+n))) 30))=(eJ||oE (λk=>xO f g j (m+k)) (n+1)):=by
    simp only[oE,xO,xV,Bool.or_assoc]
   rw[e]
open Go.Ab Go.Ab.Pg
def OB (p:Int×Int×Nat)(r:axb):Prop:=p.1<=64/\p.2.2<=64/\OG p.2.2 r
theorem OB.zero {p:Int×Int×Nat}{rr:axb}(h:OB p rr):OB p (λj=>rr.1 (0+j),λj=>rr.2.1 (0+j),λj=>rr.b.1 (0+j),λj=>rr.b.2.1 (0+j),λj=>rr.c.1 (0+j),λj=>rr.c.2.1 (0+j),λj=>rr.c.b.1 (0+j),λj=>rr.c.b.2.1 (0+j),λj=>rr.d.1 (0+j),λj=>rr.d.2.1 (0+j),λj=>rr.d.2.2 (0+j)):=⟨h.1,h.2.1,h.2.2.zero⟩
end Go.Proofs.YtldgljclcgaibaaGreat
