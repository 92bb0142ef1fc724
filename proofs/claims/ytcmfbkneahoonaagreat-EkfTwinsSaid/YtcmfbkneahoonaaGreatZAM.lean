/-
  Parts of the proof: QS TSm Q9 TRn TRo
-/
import Derived.Test.YtcmfbkneahoonaaGreatZAE
import Derived.Test.YtcmfbkneahoonaaGreatZAJ
import Derived.Test.YtcmfbkneahoonaaGreatZAK
import Derived.Test.YtcmfbkneahoonaaGreatZAL
set_option maxRecDepth 100000
set_option maxHeartbeats 4000000
set_option linter.unusedVariables false
noncomputable section
namespace Go.Proofs.YtcmfbkneahoonaaGreat
open Go.Ab Go.Ab.Pg Go.Ab.Rq
def nU:=qa (pr (cu dy (c ai B4)) (cd oy λb0=>(c jT (c lk (c (cl (gs b0.c.1 lg) nil) (cd oR λb4=>(cd na λb5=>(cd nc λb6=>(cd nd λb7=>(cd nh λb8=>(cd ni λb9=>(c kC (cd pX λpQ=>(c (cl (gs b0.e jk) nil) (c (cl (gs b4.b.1 aA) nil) (c (cl (gs b5.b.1 aA) nil) (c (cl (gs b6.b.1 aA) nil) (c (cl (gs b7.b.1 aA) nil) (c (cl (gs b8.b.1 aA) nil) (c (cl (gs b9.b.1 aA) nil) (cl (cl (gs pQ.b fX) nil) nil)))))))))))))))))))))
def acR:=qe (res (pr ab (pr (cl (zC (a 26 lI (c gb (c fq (a 2 my (cu (gp 20 5) (cu (gp 21 10) (c (gc (dG (pu (nat 22) (pu (ox (pu cw (pu cw uM))) (pl eS (pu uM ek)))))) aSa)))))))) aL3) aMk)))
abbrev sO:=(Bool×Ty4×vO×Jk×(NI×NI×NI×NI×NI×NI×NI×NI)×bH×bH×bH×bH×bH×bH×Jf×qP×aNB×iU×iU×iU×iU×iU×iU×NI×NI×NI×NI×NI×NI×NI×NI×NI×NI×NI)
def Li:sO->T:=λd=>lf acR (d.1,d.2.1,d.b.1,d.b.2.1,(d.2.1.c.1,d.c.1),d.c.2.1,d.c.b.1,d.c.b.2.1,d.d.1,d.d.2.1,d.d.b.1,d.d.b.2.1,d.d.c.1,(d.2.1.e,d.d.c.2.1),d.d.c.b.1,d.d.c.b.2.1,d.e.1,d.e.2.1,d.e.b.1,d.e.b.2.1,d.d.c.1.b,d.e.c)
abbrev AY:=nU.B->Option sO
def AZ (g:AY):Ct:=(22,FC nU Li g)
def A3 (yZ:acp)(eT:yM)(az2:Rl)(lG:Cf)(pk:H7)(x:nU.B):Pg sO:=let n30:=x.1.1;let n28:=x.1.2;let n29:=n28.2.2.2.2;let n23:=x.2.1;let n19:=x.2.2;let n24:=n19.2.1;let bA:=n19.2.2;let n20:=bA.2.1;let n17:=bA.2.2;let n33:=n17.1.2.2.1;let n21:=n17.2.1;let bl:=n17.2.2;let n34:=bl.1.2.2.1;let n22:=bl.2.1;let n18:=bl.2.2;let n35:=n18.1.2.2.1;let n25:=n18.2.1;let n15:=n18.2.2;let n31:=n15.2.2;let n27:=n15.2.1;let n26:=n31.2.2;let n32:=n26.2.2;let n16:=n32.2.2;let bk:=(lG (n20,n31.1));let ba:=(lG (n17.1,n31.2.1));let aS:=(lG (n21,n26.1));let n9:=(lG (bl.1,n26.2.1));let n8:=(lG (n22,n32.1));let n7:=(lG (n18.1,n32.2.1));let n6:=(n20.2.2.1,n31.1);let n5:=(n33,n31.2.1);let n4:=(n21.2.2.1,n26.1);let n3:=(n34,n26.2.1);let n2:=(n22.2.2.1,n32.1);let n1:=(n35,n32.2.1);let y0:=aX n30 6;let y1:=n30==1;let y2:=n30==4;let y3:=n30==3;let y4:=n30==2;let y5:=n30==5;let y6:=Nat.beq n20.2.2.1 n20.2.2.1;let y7:=Nat.beq n33 n33;let y8:=Nat.beq n21.2.2.1 n21.2.2.1;let y9:=Nat.beq n34 n34;let rN:=Nat.beq n22.2.2.1 n22.2.2.1;let sD:=Nat.beq n35 n35;opt (yZ n30) λd=>ae (!d) (ret (false,n23,n19.1,n24,bA.1,n20,n17.1,n21,bl.1,n22,n18.1,n25,n15.1,n27,n6,n5,n4,n3,n2,n1,n16)) (opt (eT n28.1 0 1125899906842624) λd=>ae (!d) (ae y0 (ae y5 (ae sD (opt n7 λd=>ret (false,n23,n19.1,n24,bA.1,n20,n17.1,n21,bl.1,n22,d,n25,n15.1,n27,n6,n5,n4,n3,n2,n1,n16)) no) (ae y2 (ae rN (opt n8 λd=>ret (false,n23,n19.1,n24,bA.1,n20,n17.1,n21,bl.1,d,n18.1,n25,n15.1,n27,n6,n5,n4,n3,n2,n1,n16)) no) (ae y3 (ae y9 (opt n9 λd=>ret (false,n23,n19.1,n24,bA.1,n20,n17.1,n21,d,n22,n18.1,n25,n15.1,n27,n6,n5,n4,n3,n2,n1,n16)) no) (ae y4 (ae y8 (opt aS λd=>ret (false,n23,n19.1,n24,bA.1,n20,n17.1,d,bl.1,n22,n18.1,n25,n15.1,n27,n6,n5,n4,n3,n2,n1,n16)) no) (ae y1 (ae y7 (opt ba λd=>ret (false,n23,n19.1,n24,bA.1,n20,d,n21,bl.1,n22,n18.1,n25,n15.1,n27,n6,n5,n4,n3,n2,n1,n16)) no) (ae y6 (opt bk λd=>ret (false,n23,n19.1,n24,bA.1,d,n17.1,n21,bl.1,n22,n18.1,n25,n15.1,n27,n6,n5,n4,n3,n2,n1,n16)) no)))))) no) (opt (az2 n30 n28.1 n28.2.1 n28.2.2.1 n28.2.2.2.1 n29.1 n29.2.1 n29.2.2.1 n29.2.2.2.1 n29.2.2.2.2) λd=>ae (!d) (ae y0 (ae y5 (ae sD (opt n7 λd=>ret (false,n23,n19.1,n24,bA.1,n20,n17.1,n21,bl.1,n22,d,n25,n15.1,n27,n6,n5,n4,n3,n2,n1,n16)) no) (ae y2 (ae rN (opt n8 λd=>ret (false,n23,n19.1,n24,bA.1,n20,n17.1,n21,bl.1,d,n18.1,n25,n15.1,n27,n6,n5,n4,n3,n2,n1,n16)) no) (ae y3 (ae y9 (opt n9 λd=>ret (false,n23,n19.1,n24,bA.1,n20,n17.1,n21,d,n22,n18.1,n25,n15.1,n27,n6,n5,n4,n3,n2,n1,n16)) no) (ae y4 (ae y8 (opt aS λd=>ret (false,n23,n19.1,n24,bA.1,n20,n17.1,d,bl.1,n22,n18.1,n25,n15.1,n27,n6,n5,n4,n3,n2,n1,n16)) no) (ae y1 (ae y7 (opt ba λd=>ret (false,n23,n19.1,n24,bA.1,n20,d,n21,bl.1,n22,n18.1,n25,n15.1,n27,n6,n5,n4,n3,n2,n1,n16)) no) (ae y6 (opt bk λd=>ret (false,n23,n19.1,n24,bA.1,d,n17.1,n21,bl.1,n22,n18.1,n25,n15.1,n27,n6,n5,n4,n3,n2,n1,n16)) no)))))) no) (ae y0 (ae y5 (ae sD (opt (pk (n28,n18.1,n32.2.1)) λd=>sm d (λd=>ret (false,n23,n19.1,n24,bA.1,n20,n17.1,n21,bl.1,n22,d,n25,n15.1,n27,n6,n5,n4,n3,n2,n1,n16)) (λd=>ret (d.1,n23,n19.1,n24,bA.1,n20,n17.1,n21,bl.1,n22,d.2.1,n25,n15.1,n27,n6,n5,n4,n3,n2,(d.2.1.2.2.1,d.2.2),n16))) no) (ae y2 (ae rN (opt (pk (n28,n22,n32.1)) λd=>sm d (λd=>ret (false,n23,n19.1,n24,bA.1,n20,n17.1,n21,bl.1,d,n18.1,n25,n15.1,n27,n6,n5,n4,n3,n2,n1,n16)) (λd=>ret (d.1,n23,n19.1,n24,bA.1,n20,n17.1,n21,bl.1,d.2.1,n18.1,n25,n15.1,n27,n6,n5,n4,n3,(d.2.1.2.2.1,d.2.2),n1,n16))) no) (ae y3 (ae y9 (opt (pk (n28,bl.1,n26.2.1)) λd=>sm d (λd=>ret (false,n23,n19.1,n24,bA.1,n20,n17.1,n21,d,n22,n18.1,n25,n15.1,n27,n6,n5,n4,n3,n2,n1,n16)) (λd=>ret (d.1,n23,n19.1,n24,bA.1,n20,n17.1,n21,d.2.1,n22,n18.1,n25,n15.1,n27,n6,n5,n4,(d.2.1.2.2.1,d.2.2),n2,n1,n16))) no) (ae y4 (ae y8 (opt (pk (n28,n21,n26.1)) λd=>sm d (λd=>ret (false,n23,n19.1,n24,bA.1,n20,n17.1,d,bl.1,n22,n18.1,n25,n15.1,n27,n6,n5,n4,n3,n2,n1,n16)) (λd=>ret (d.1,n23,n19.1,n24,bA.1,n20,n17.1,d.2.1,bl.1,n22,n18.1,n25,n15.1,n27,n6,n5,(d.2.1.2.2.1,d.2.2),n3,n2,n1,n16))) no) (ae y1 (ae y7 (opt (pk (n28,n17.1,n31.2.1)) λd=>sm d (λd=>ret (false,n23,n19.1,n24,bA.1,n20,d,n21,bl.1,n22,n18.1,n25,n15.1,n27,n6,n5,n4,n3,n2,n1,n16)) (λd=>ret (d.1,n23,n19.1,n24,bA.1,n20,d.2.1,n21,bl.1,n22,n18.1,n25,n15.1,n27,n6,(d.2.1.2.2.1,d.2.2),n4,n3,n2,n1,n16))) no) (ae y6 (opt (pk (n28,n20,n31.1)) λd=>sm d (λd=>ret (false,n23,n19.1,n24,bA.1,d,n17.1,n21,bl.1,n22,n18.1,n25,n15.1,n27,n6,n5,n4,n3,n2,n1,n16)) (λd=>ret (d.1,n23,n19.1,n24,bA.1,d.2.1,n17.1,n21,bl.1,n22,n18.1,n25,n15.1,n27,(d.2.1.2.2.1,d.2.2),n5,n4,n3,n2,n1,n16))) no)))))) no)))
def kT:=λx=>(A3 yP lX By jm uf x).val
abbrev A4:=acp×yM×Rl×Cf×H7
def Lj (p:A4):KK:=⟨[amp p.1,VQ p.2.1,ahq p.b.1,LR p.b.2.1,V4 p.c],⟨[],[],(0::rg 4 6 []),[],(some ⟨0,(rg 0 6 (rg 7 28 [])),[(3,[]),(4,[]),(5,[]),(6,[]),(7,[]),(8,[]),(9,[]),(10,[]),(11,[]),(12,[]),(13,[]),(14,[]),(15,[]),(16,[]),(17,[]),(18,[]),(19,[]),(20,[]),(21,[]),(0,[])]⟩)⟩,0,22⟩
theorem afH (p:A4):D2 (Lj p) nU Li λb=>A3 p.1 p.2.1 p.b.1 p.b.2.1 p.c b:=λb=>by kernel_rfl
abbrev Lk:A4:=(yP,lX,By,jm,uf)
theorem Ll [ax]:SC (AZ kT):=sc (kS (k:=Lj Lk) (.c av5 (.c alb (.c azS (.c ahU (.c aqL (.nil _)))))) [] [] trivial trivial (afH Lk))
end Go.Proofs.YtcmfbkneahoonaaGreat
set_option linter.unusedSimpArgs false
namespace Go.Proofs.YtcmfbkneahoonaaGreat
open Go.Ab Go.Ab.Pg
theorem aH6 (x:lE.B):Ok (jm x) (λr:Ce=>r.2=x.1.2):=by
 unfold jm uJ
 show PQ _ _
 rw[av]
theorem aNp (x:nU.B)(l5:((x.2.2.2.2.2.1.2.2.1:Nat):Int)<=x.2.2.2.2.2.1.2.1)(k5:x.2.2.2.2.2.1.2.1<=64)(l6:((x.2.2.2.2.2.2.1.2.2.1:Nat):Int)<=x.2.2.2.2.2.2.1.2.1)(k6:x.2.2.2.2.2.2.1.2.1<=64)(l7:((x.2.2.2.2.2.2.2.1.2.2.1:Nat):Int)<=x.2.2.2.2.2.2.2.1.2.1)(k7:x.2.2.2.2.2.2.2.1.2.1<=64)(l8:((x.2.2.2.2.2.2.2.2.1.2.2.1:Nat):Int)<=x.2.2.2.2.2.2.2.2.1.2.1)(k8:x.2.2.2.2.2.2.2.2.1.2.1<=64)(l9:((x.2.2.2.2.2.2.2.2.2.1.2.2.1:Nat):Int)<=x.2.2.2.2.2.2.2.2.2.1.2.1)(k9:x.2.2.2.2.2.2.2.2.2.1.2.1<=64)(EY:((x.2.2.2.2.2.2.2.2.2.2.1.2.2.1:Nat):Int)<=x.2.2.2.2.2.2.2.2.2.2.1.2.1)(k10:x.2.2.2.2.2.2.2.2.2.2.1.2.1<=64):Ok (kT x) (λe:sO=>e.2.1=x.2.1∧e.2.2.1=x.2.2.1∧e.2.2.2.1=x.2.2.2.1∧e.2.2.2.2.1=x.2.2.2.2.1∧e.2.2.2.2.2.2.2.2.2.2.2.1=x.2.2.2.2.2.2.2.2.2.2.2.1∧e.2.2.2.2.2.2.2.2.2.2.2.2.1=x.2.2.2.2.2.2.2.2.2.2.2.2.1∧e.2.2.2.2.2.2.2.2.2.2.2.2.2.1=x.2.2.2.2.2.2.2.2.2.2.2.2.2.1∧e.2.2.2.2.2.2.2.2.2.2.2.2.2.2.2.2.2.2.2.2=x.2.2.2.2.2.2.2.2.2.2.2.2.2.2.2.2.2.2.2.2∧e.2.2.2.2.2.1.2.1=x.2.2.2.2.2.1.2.1∧((e.2.2.2.2.2.1.2.2.1:Nat):Int)<=x.2.2.2.2.2.1.2.1∧e.2.2.2.2.2.2.1.2.1=x.2.2.2.2.2.2.1.2.1∧((e.2.2.2.2.2.2.1.2.2.1:Nat):Int)<=x.2.2.2.2.2.2.1.2.1∧e.2.2.2.2.2.2.2.1.2.1=x.2.2.2.2.2.2.2.1.2.1∧((e.2.2.2.2.2.2.2.1.2.2.1:Nat):Int)<=x.2.2.2.2.2.2.2.1.2.1∧e.2.2.2.2.2.2.2.2.1.2.1=x.2.2.2.2.2.2.2.2.1.2.1∧((e.2.2.2.2.2.2.2.2.1.2.2.1:Nat):Int)<=x.2.2.2.2.2.2.2.2.1.2.1∧e.2.2.2.2.2.2.2.2.2.1.2.1=x.2.2.2.2.2.2.2.2.2.1.2.1∧((e.2.2.2.2.2.2.2.2.2.1.2.2.1:Nat):Int)<=x.2.2.2.2.2.2.2.2.2.1.2.1∧e.2.2.2.2.2.2.2.2.2.2.1.2.1=x.2.2.2.2.2.2.2.2.2.2.1.2.1∧((e.2.2.2.2.2.2.2.2.2.2.1.2.2.1:Nat):Int)<=x.2.2.2.2.2.2.2.2.2.2.1.2.1):=by
 unfold kT A3
 try dsimp only
 show PQ _ _
 rw[aNj,bQ,aL]
 refine⟨λ_=>by rw[av];exact⟨rfl,rfl,rfl,rfl,rfl,rfl,rfl,rfl,rfl,l5,rfl,l6,rfl,l7,rfl,l8,rfl,l9,rfl,EY⟩,λhk=> ?_⟩
 rw[Bool.not_eq_false'] at hk
 obtain⟨b,_,_⟩:=aOt hk 6 (by omega)
 simp only[aM,b]
 repeat' (first
  |rw[aC]
  |(with_reducible refine ay (aPG _ ?_) λe _ he=> ?_)
  |(with_reducible refine ay (aH6 _) λe _ he=> ?_)
  |(rw[oA];refine⟨λa ha=> ?_,λa ha=> ?_⟩)
  |(rw[bz];intro _ _)
  |(rw[aL];refine⟨λ_=> ?_,λ_=> ?_⟩))
 all_goals first
  |(dsimp only;omega)
  |(rw[av];exact⟨rfl,rfl,rfl,rfl,rfl,rfl,rfl,rfl,(congrArg (λz=>z.1) he).trans rfl,(by rw[show e.2.2.1=x.2.2.2.2.2.1.2.2.1 from congrArg (λz=>z.2.1) he];exact l5),rfl,l6,rfl,l7,rfl,l8,rfl,l9,rfl,EY⟩)
  |(rw[ha] at he;rw[av];exact⟨rfl,rfl,rfl,rfl,rfl,rfl,rfl,rfl,(congrArg (λz=>z.1) he).trans rfl,(by rw[show a.2.2.1=x.2.2.2.2.2.1.2.2.1 from congrArg (λz=>z.2.1) he];exact l5),rfl,l6,rfl,l7,rfl,l8,rfl,l9,rfl,EY⟩)
  |(rw[ha] at he;rw[av];exact⟨rfl,rfl,rfl,rfl,rfl,rfl,rfl,rfl,he.1,he.2 l5,rfl,l6,rfl,l7,rfl,l8,rfl,l9,rfl,EY⟩)
  |(rw[av];exact⟨rfl,rfl,rfl,rfl,rfl,rfl,rfl,rfl,rfl,l5,(congrArg (λz=>z.1) he).trans rfl,(by rw[show e.2.2.1=x.2.2.2.2.2.2.1.2.2.1 from congrArg (λz=>z.2.1) he];exact l6),rfl,l7,rfl,l8,rfl,l9,rfl,EY⟩)
  |(rw[ha] at he;rw[av];exact⟨rfl,rfl,rfl,rfl,rfl,rfl,rfl,rfl,rfl,l5,(congrArg (λz=>z.1) he).trans rfl,(by rw[show a.2.2.1=x.2.2.2.2.2.2.1.2.2.1 from congrArg (λz=>z.2.1) he];exact l6),rfl,l7,rfl,l8,rfl,l9,rfl,EY⟩)
  |(rw[ha] at he;rw[av];exact⟨rfl,rfl,rfl,rfl,rfl,rfl,rfl,rfl,rfl,l5,he.1,he.2 l6,rfl,l7,rfl,l8,rfl,l9,rfl,EY⟩)
  |(rw[av];exact⟨rfl,rfl,rfl,rfl,rfl,rfl,rfl,rfl,rfl,l5,rfl,l6,(congrArg (λz=>z.1) he).trans rfl,(by rw[show e.2.2.1=x.2.2.2.2.2.2.2.1.2.2.1 from congrArg (λz=>z.2.1) he];exact l7),rfl,l8,rfl,l9,rfl,EY⟩)
  |(rw[ha] at he;rw[av];exact⟨rfl,rfl,rfl,rfl,rfl,rfl,rfl,rfl,rfl,l5,rfl,l6,(congrArg (λz=>z.1) he).trans rfl,(by rw[show a.2.2.1=x.2.2.2.2.2.2.2.1.2.2.1 from congrArg (λz=>z.2.1) he];exact l7),rfl,l8,rfl,l9,rfl,EY⟩)
  |(rw[ha] at he;rw[av];exact⟨rfl,rfl,rfl,rfl,rfl,rfl,rfl,rfl,rfl,l5,rfl,l6,he.1,he.2 l7,rfl,l8,rfl,l9,rfl,EY⟩)
  |(rw[av];exact⟨rfl,rfl,rfl,rfl,rfl,rfl,rfl,rfl,rfl,l5,rfl,l6,rfl,l7,(congrArg (λz=>z.1) he).trans rfl,(by rw[show e.2.2.1=x.2.2.2.2.2.2.2.2.1.2.2.1 from congrArg (λz=>z.2.1) he];exact l8),rfl,l9,rfl,EY⟩)
  |(rw[ha] at he;rw[av];exact⟨rfl,rfl,rfl,rfl,rfl,rfl,rfl,rfl,rfl,l5,rfl,l6,rfl,l7,(congrArg (λz=>z.1) he).trans rfl,(by rw[show a.2.2.1=x.2.2.2.2.2.2.2.2.1.2.2.1 from congrArg (λz=>z.2.1) he];exact l8),rfl,l9,rfl,EY⟩)
  |(rw[ha] at he;rw[av];exact⟨rfl,rfl,rfl,rfl,rfl,rfl,rfl,rfl,rfl,l5,rfl,l6,rfl,l7,he.1,he.2 l8,rfl,l9,rfl,EY⟩)
  |(rw[av];exact⟨rfl,rfl,rfl,rfl,rfl,rfl,rfl,rfl,rfl,l5,rfl,l6,rfl,l7,rfl,l8,(congrArg (λz=>z.1) he).trans rfl,(by rw[show e.2.2.1=x.2.2.2.2.2.2.2.2.2.1.2.2.1 from congrArg (λz=>z.2.1) he];exact l9),rfl,EY⟩)
  |(rw[ha] at he;rw[av];exact⟨rfl,rfl,rfl,rfl,rfl,rfl,rfl,rfl,rfl,l5,rfl,l6,rfl,l7,rfl,l8,(congrArg (λz=>z.1) he).trans rfl,(by rw[show a.2.2.1=x.2.2.2.2.2.2.2.2.2.1.2.2.1 from congrArg (λz=>z.2.1) he];exact l9),rfl,EY⟩)
  |(rw[ha] at he;rw[av];exact⟨rfl,rfl,rfl,rfl,rfl,rfl,rfl,rfl,rfl,l5,rfl,l6,rfl,l7,rfl,l8,he.1,he.2 l9,rfl,EY⟩)
  |(rw[av];exact⟨rfl,rfl,rfl,rfl,rfl,rfl,rfl,rfl,rfl,l5,rfl,l6,rfl,l7,rfl,l8,rfl,l9,(congrArg (λz=>z.1) he).trans rfl,(by rw[show e.2.2.1=x.2.2.2.2.2.2.2.2.2.2.1.2.2.1 from congrArg (λz=>z.2.1) he];exact EY)⟩)
  |(rw[ha] at he;rw[av];exact⟨rfl,rfl,rfl,rfl,rfl,rfl,rfl,rfl,rfl,l5,rfl,l6,rfl,l7,rfl,l8,rfl,l9,(congrArg (λz=>z.1) he).trans rfl,(by rw[show a.2.2.1=x.2.2.2.2.2.2.2.2.2.2.1.2.2.1 from congrArg (λz=>z.2.1) he];exact EY)⟩)
  |(rw[ha] at he;rw[av];exact⟨rfl,rfl,rfl,rfl,rfl,rfl,rfl,rfl,rfl,l5,rfl,l6,rfl,l7,rfl,l8,rfl,l9,he.1,he.2 EY⟩)
  |skip
end Go.Proofs.YtcmfbkneahoonaaGreat
noncomputable section
namespace Go.Proofs.YtcmfbkneahoonaaGreat
open Go.Ab Go.Ab.Pg Go.Ab.Rq
def GY:=qa (pl (c (aa lI) fU) nil)
def YQ:=qe (res (pu (ac auG) (pu nil nil)))
def aun:=qe (res (pu dy (pu nil (c aMh (c jT (c lk (c aLJ (c aL5 (c aL6 (c aL7 (c aL8 (c aL9 (c aMa (c kC (c aL1 aMf)))))))))))))))
abbrev On:=YQ.B⊕(Ty1×vO×Jk×LY×bH×bH×bH×bH×bH×bH×Jf×qP×BZ×eB×eB×eB×eB×eB×eB×Nat×NI×NI×NI×NI×NI×NI×NI×NI×NI×NI×NI)
def apz:On->T:=ls (lf YQ) (λd=>lf aun (d.1,d.2.1,d.b.1,d.b.2.1,d.c.1,d.c.2.1,d.c.b.1,d.c.b.2.1,d.d.1,d.d.2.1,d.d.b.1,d.d.b.2.1,d.d.c.1,(d.c.1.b.1,d.d.c.2.1),(d.c.2.1.b.1,d.d.c.b.1),(d.c.b.1.b.1,d.d.c.b.2.1),(d.c.b.2.1.b.1,d.e.1),(d.d.1.b.1,d.e.2.1),(d.d.2.1.b.1,d.e.b.1),d.e.b.2))
abbrev aED:=GY.B->Option On
def aa7 (g:aED):Ct:=(10,FC GY apz g)
def pn:=qs (st (pr (us 1 (c ai (us 3 (cu dy (us 1 (cl ai (us 29 nil))))))) (pl (c (so aMh) (c ky (c kD (c lH (cd (so aL5) λb4=>(cd (so aL6) λb5=>(cd (so aL7) λb6=>(cd (so aL8) λb7=>(cd (so aL9) λb8=>(cd (so aMa) λb9=>(c jL (c (so aL1) (c ov (c (so (cl (gs b4.b.1 aA) nil)) (c (so (cl (gs b5.b.1 aA) nil)) (c (so (cl (gs b6.b.1 aA) nil)) (c (so (cl (gs b7.b.1 aA) nil)) (c (so (cl (gs b8.b.1 aA) nil)) (c (so (cl (gs b9.b.1 aA) nil)) L5))))))))))))))))))) nil)))
def WM:=qs (st (pu (us 4 (cu (ac auG) (us 32 nil))) (pu nil nil)))
def arh:=qs (st (pr (us 1 (c ai (us 3 (cu dy (us 1 (c ai (us 13 (c ai aQI)))))))) (pl (c (so aMh) (c ky (c kD (c lH (c (so aL5) (c (so aL6) (c (so aL7) (c (so aL8) (c (so aL9) (c (so aMa) (c jL (c (so aL1) L6)))))))))))) nil)))
abbrev BF:=WM.B⊕((Int×Int×Bool)×Ty1×vO×Jk×LY×bH×bH×bH×bH×bH×bH×Jf×qP×BZ×eB×eB×eB×eB×eB×eB×Nat×NI×NI×NI×NI×NI×NI×NI×NI×NI×NI×NI)
def ahL {ρ:Type}(x:BF)(K:AX->St->Option ρ):Option ρ:=(Sum.elim (λd=>K .ret (WM.em d)) (λd=>K (.ex 0) (arh.em ((d.1.1,d.1.2.1,d.1.2.1,d.1.1,d.1.b),d.2.1,d.b.1,d.b.2.1,d.c.1,d.c.2.1,d.c.b.1,d.c.b.2.1,d.d.1,d.d.2.1,d.d.b.1,d.d.b.2.1,d.d.c.1,d.d.c.2.1,(d.c.2.1.b.1,d.d.c.b.1),(d.c.b.1.b.1,d.d.c.b.2.1),(d.c.b.2.1.b.1,d.e.1),(d.d.1.b.1,d.e.2.1),(d.d.2.1.b.1,d.e.b.1),(d.d.b.1.b.1,d.e.b.2.1),d.e.c)))) x
def RB (afL:Ln)(wW:rn)(d:pn.B):PL pn BF:=let aS:=d.2.1.2;let n4:=aS.2.2.2;let n9:=n4.2.2.2.2.2.2.2.2.2.2.2.2;let n3:=d.2.2.2.2.2;let n8:=n3.2.2;let n1:=n8.2.2;let n5:=n1.2.2.2;let n7:=n5.2.2.2.2;let n2:=n7.2.2.2.2.2;let n6:=n2.2.2.2.2.2;let y0:=decide (d.1.2<=d.1.1);ae y0 (opt (afL (wI (8000*d.1.2)) 8000) λaj=>ae (Nat.beq n4.1.2 n4.1.2) (ae (Nat.beq n9 n9) (ae (Nat.beq n3.1.2.2.1 n3.1.2.2.1) (ae (Nat.beq n3.2.1.2.2.1 n3.2.1.2.2.1) (ae (Nat.beq n8.1.2.2.1 n8.1.2.2.1) (ae (Nat.beq n8.2.1.2.2.1 n8.2.1.2.2.1) (ae (Nat.beq n1.1.2.2.1 n1.1.2.2.1) (ae (Nat.beq n1.2.1.2.2.1 n1.2.1.2.2.1) (ae (Nat.beq n5.1.2.2 n5.1.2.2) (opt (wW ((aj.1,aj.2.1,(0,0,0),0,0,aj.2.2),(d.2.1.1,aS.1,aS.2.1,aS.2.2.1,n4.1.2,n4.2),d.2.2.1,d.2.2.2.1,(sh8 n4.1.1 d.2.2.2.2.1.2),n3.1,n3.2.1,n8.1,n8.2.1,n1.1,n1.2.1,n1.2.2.1,n5.1,(Jj 0 n5.2.1.2),(ep 0 n5.2.2.1),(ep 0 n5.2.2.2.1),(ep 0 n7.1),(ep 0 n7.2.1),(ep 0 n7.2.2.1),(ep 0 n7.2.2.2.1),λj=>n2.1 (0+j),λj=>n2.2.1 (0+j),λj=>n2.2.2.1 (0+j),λj=>n2.2.2.2.1 (0+j),λj=>n2.2.2.2.2.1 (0+j),λj=>n6.1 (0+j),λj=>n6.2.1 (0+j),λj=>n6.2.2.1 (0+j),λj=>n6.2.2.2.1 (0+j),λj=>n6.2.2.2.2.1 (0+j),λj=>n6.2.2.2.2.2 (0+j))) λaF=>ae (aF.1.2!=0) (ret (Sum.inr (Sum.inl ()))) (ret (Sum.inl ((d.1.1,wI (d.1.2+1)),aF.2)))) no) no) no) no) no) no) no) no) no) (ret (Sum.inr (Sum.inr ((d.1.1,d.1.2,y0),d.2))))
def ahM:=bD (RB A5 lC) 2000
def aa8 (WN:Wv)(dA:LT pn BF)(x:GY.B):Pg On:=opt (WN x.1) λd=>sm d (λd=>ret (Sum.inl ())) (λd=>let bA:=d.1.2.2;let n6:=bA.2.2.2.2;let n15:=n6.2.2.2;let n4:=d.2.2.2;let n8:=n4.2.2.2.2.2;let n2:=n15.2.2.2.2;let n16:=n2.2.2.2;let n5:=n16.2.2.2.2;let bl:=n5.2.2.2.2;let n1:=n8.2.2.2.2;let aS:=n1.2.1;let n7:=n1.2.2;let ba:=n7.2.1;let n3:=n7.2.2;let bk:=n3.2.1;let n9:=n3.2.2;ae true (ae true (ae true (ae true (ae true (ae true (opt (dA ((x.2,1),((d.1.1,d.1.2.1,bA.1,bA.2.1,(bA.2.2.1,bA.2.2.2.1,n6.1,n6.2.1,n6.2.2.1,n15.1),(n15.2.1,n15.2.2.1,n15.2.2.2.1,n2.1,n2.2.1,n2.2.2.1),n16.1,n16.2.1,n16.2.2.1,n16.2.2.2.1,n5.1,n5.2.1,n5.2.2.1,n5.2.2.2.1,bl.1,bl.2.1),bl.2.2.1,bl.2.2.2.1,bl.2.2.2.2,(0,0),(0,0,false,false),false,0,(0,0,0),false,false,false,0,0,0,((1073741824,0,0,0),(0,0,0),0,0,0),0),((d.2.1.1,d.2.1.2.1,d.2.1.2.2.1),d.2.1.2.2.2),(d.2.2.1,(0,0,(0,0,0),0,0,0),false),(0,n4.1,n4.1,n4.1,n4.1,n4.1,n4.1,n4.1,n4.1),((0,0,0,0,0),n4.2.1,0, -9223372036854775808),((0,0,0,0,0),n4.2.2.1,0, -9223372036854775808),((0,0,0,0,0),n4.2.2.2.1,0, -9223372036854775808),((0,0,0,0,0),n4.2.2.2.2.1,0, -9223372036854775808),((0,0,0,0,0),n8.1,0, -9223372036854775808),((0,0,0,0,0),n8.2.1,0, -9223372036854775808),(n8.2.2.1,0),(n8.2.2.2.1.1,n8.2.2.2.1.2,0),(0,n4.1,n4.1,n4.1,n4.1,n4.1,n4.1,n4.1,n4.1,n4.1,n4.1),(n1.1,n1.1,n1.1,n1.1,n1.1,n1.1,n1.1,n1.1,n1.1),(aS,aS,aS,aS,aS,aS,aS,aS,aS),(n7.1,n7.1,n7.1,n7.1,n7.1,n7.1,n7.1,n7.1,n7.1),(ba,ba,ba,ba,ba,ba,ba,ba,ba),(n3.1,n3.1,n3.1,n3.1,n3.1,n3.1,n3.1,n3.1,n3.1),(bk,bk,bk,bk,bk,bk,bk,bk,bk),0,n9,n9,n9,n9,n9,n9,n9,n9,n9,n9,n9)) λx=>sum x (λd=>ret (Sum.inl ())) λd=>ret (Sum.inr d.2)) no) no) no) no) no) no)
def apA:=λx=>(aa8 Ea ahM x).val
abbrev Oo:=Wv×Ln×rn×(LT pn BF)
def aa9 (p:Oo):KK:=⟨[aq1 p.1,afK p.2.1,Lh p.b.1],⟨[⟨5,(0::2::3::4::6::rg 8 29 []),[(0,[])]⟩],[fg 5 0 pn ahL p.b.2],[],[],(some ⟨0,(rg 0 4 (rg 5 32 [])),[]⟩)⟩,0,10⟩
theorem awn (p:Oo):LI (aa9 p) 5 pn ahL (RB p.2.1 p.b.1):=λ_ d c K=>by kernel_rfl
theorem aEE (p:Oo):D2 (aa9 p) GY apz λb=>aa8 p.1 p.b.2 b:=λb=>by kernel_rfl
abbrev aba:Oo:=(Ea,A5,lC,ahM)
theorem aEF [ax]:SC (aa7 apA):=sc (kS (k:=aa9 aba) (.c aDd (.c auj (.c YK (.nil _)))) [5] [] ⟨kL (awn aba),trivial⟩ trivial (aEE aba))
def WO:=qa (pr (cu dy (cl xZ nil)) (cd oy λb0=>(c jT (c lk (c (cl (gs b0.c.1 lg) nil) (cd oR λb4=>(cd na λb5=>(cd nc λb6=>(cd nd λb7=>(cd nh λb8=>(cd ni λb9=>(c kC (cd pX λpQ=>(c (cl (gs b0.e jk) nil) (c (cl (gs b4.b.1 aA) nil) (c (cl (gs b5.b.1 aA) nil) (c (cl (gs b6.b.1 aA) nil) (c (cl (gs b7.b.1 aA) nil) (c (cl (gs b8.b.1 aA) nil) (c (cl (gs b9.b.1 aA) nil) (cl (cl (gs pQ.b fX) nil) nil)))))))))))))))))))))
def al8:=qe (res (pr ai (pr (cl (zC aMg) aL3) aMk)))
abbrev ari:=al8.B
abbrev arj:=WO.B->Option ari
def aDq (g:arj):Ct:=(19,FC WO (lf al8) g)
def nq:=qs (st (pr (cu dy (c xZ (us 2 (cu HC (c ai (c ai (c ai (cu aNL (us 2 aQz))))))))) (pl (c (so (a 26 lI (c gb (c fq (a 2 my (cu (gp 21 5) (cu (gp 22 10) (c (gc (dG (pu (nat 23) (pr zD (pl eS (pu uM ek)))))) (au 6 (cu (gp 24 8) (cu (gp 25 8) (cu (gp 26 8) (cu (gp 27 8) (cu (gp 28 8) (cu (gp 29 8) nil)))))) (cu (gp 30 37) (a 4 ot (cu (gp 31 3) (c gb (c gi (a 3 fP (c gb (c gb (c gb (c gi (c gi (c gi (a 10 ou (cl (gc (dG (pu (nat 32) (pu (ox (pu cw (pu cw (nat 10)))) (pl eS (pu (nat 10) ek)))))) nil))))))))))))))))))))))) (cu nO (cu nO (cu nO (cu nO (cu nO (cu nO (cu nO (cu nO (cu nO (cu nO (cu nO (cu nO (cu nO (cu nO (cu nO (cu nO (cu nO (cu nO (cu nO (c (so (c gi (c gi (c gi (c gi aie))))) (c ky (c kD (c lH (c (so adh) (c Y1 (c Y2 (c Y3 (c Y4 (c adi (c jL (c apK L6)))))))))))))))))))))))))))))))) aij)))
def az6:=qs (st (pr (cu dy (c xZ (us 2 (cu HC (c ai (c ai (c ai (cu aNL (us 2 (c ai (us 25 (c ai (cu aLv (c ai (c ab (cu LZ (c ai (c ab (c ab (us 2 aQR)))))))))))))))))))) (pl (c (so (a 26 lI (c gb (c fq (a 2 my (cu (gp 21 5) (cu (gp 22 10) (c (gc (dG (pu (nat 23) (pr zD (pl eS (pu uM ek)))))) (au 6 (cu (gp 24 8) (cu (gp 25 8) (cu (gp 26 8) (cu (gp 27 8) (cu (gp 28 8) (cu (gp 29 8) nil)))))) (cu (gp 30 37) (a 4 ot (cu (gp 31 3) (c gb (c gi (a 3 fP (c gb (c gb (c gb (c gi (c gi (c gi (a 10 ou (cl (gc (dG (pu (nat 32) (pu (ox (pu cw (pu cw (nat 10)))) (pl eS (pu (nat 10) ek)))))) nil))))))))))))))))))))))) (cu nO (cu nO (cu nO (cu nO (cu nO (cu nO (cu nO (cu nO (cu nO (cu nO (cu nO (cu nO (cu nO (cu nO (cu nO (cu nO (cu nO (cu nO (cu nO (c (so (c gi (c gi (c gi (c gi aie))))) (c ky (c kD (c lH (c (so adh) (c Y1 (c Y2 (c Y3 (c Y4 (c adi (c jL (c apK L6)))))))))))))))))))))))))))))))) aij)))
def az7:=qs (st (pr (cu dy (c xZ (us 2 (cu HC (c ai (c ai (c ai (cu aNL (us 2 (c ai (us 25 (c ai (cu aLv (c ai (c ab (cu LZ (c ai (c ab (cl ab (us 45 nil)))))))))))))))))))) (pl (c (so (a 26 lI (c gb (c fq (a 2 my (cu (gp 21 5) (cu (gp 22 10) (c (gc (dG (pu (nat 23) (pr zD (pl eS (pu uM ek)))))) (au 6 (cu (gp 24 8) (cu (gp 25 8) (cu (gp 26 8) (cu (gp 27 8) (cu (gp 28 8) (cu (gp 29 8) nil)))))) (cu (gp 30 37) (a 4 ot (cu (gp 31 3) (c gb (c gi (a 3 fP (c gb (c gb (c gb (c gi (c gi (c gi (a 10 ou (cl (gc (dG (pu (nat 32) (pu (ox (pu cw (pu cw (nat 10)))) (pl eS (pu (nat 10) ek)))))) nil))))))))))))))))))))))) (cu nO (cu nO (cu nO (cu nO (cu nO (cu nO (cu nO (cu nO (cu nO (cu nO (cu nO (cu nO (cu nO (cu nO (cu nO (cu nO (cu nO (cu nO (cu nO (c (so (c gi (c gi (c gi (c gi aie))))) (c ky (c kD (c lH (c (so adh) (c Y1 (c Y2 (c Y3 (c Y4 (c adi (c jL (c apK L6)))))))))))))))))))))))))))))))) aij)))
def az8:=qs (st (pr (cu dy (c xZ (us 2 (cu HC (c ai (c ai (c ai (cu aNL (us 2 (c ai (us 25 (c ai (cu aLv (c ai (cl ab (cu kv (xs 2 (cu kv (us 45 nil))))))))))))))))))) (pl (c (so (a 26 lI (c gb (c fq (a 2 my (cu (gp 21 5) (cu (gp 22 10) (c (gc (dG (pu (nat 23) (pr zD (pl eS (pu uM ek)))))) (au 6 (cu (gp 24 8) (cu (gp 25 8) (cu (gp 26 8) (cu (gp 27 8) (cu (gp 28 8) (cu (gp 29 8) nil)))))) (cu (gp 30 37) (a 4 ot (cu (gp 31 3) (c gb (c gi (a 3 fP (c gb (c gb (c gb (c gi (c gi (c gi (a 10 ou (cl (gc (dG (pu (nat 32) (pu (ox (pu cw (pu cw (nat 10)))) (pl eS (pu (nat 10) ek)))))) nil))))))))))))))))))))))) (cu nO (cu nO (cu nO (cu nO (cu nO (cu nO (cu nO (cu nO (cu nO (cu nO (cu nO (cu nO (cu nO (cu nO (cu nO (cu nO (cu nO (cu nO (cu nO (c (so (c gi (c gi (c gi (c gi aie))))) (c ky (c kD (c lH (c (so adh) (c Y1 (c Y2 (c Y3 (c Y4 (c adi (c jL (c apK L6)))))))))))))))))))))))))))))))) aij)))
abbrev A8:=((arp×Int×Int×Int×Int×Int×Bool×Bool×Bool)×Ty1×aQd×vO×Jk×LY×bH×bH×bH×bH×bH×bH×Jf×qP×BZ×iU×iU×iU×iU×iU×iU×Nat×NI×NI×NI×NI×NI×NI×NI×NI×NI×NI×NI)⊕(((arp×Int×Int×Int×Int×Int×Bool×Bool)×Ty1×aQd×vO×Jk×LY×bH×bH×bH×bH×bH×bH×Jf×qP×BZ×iU×iU×iU×iU×iU×iU×Nat×NI×NI×NI×NI×NI×NI×NI×NI×NI×NI×NI)⊕((arp×Int×Int×Int×Int×Int×Bool)×Ty1×aQd×vO×Jk×LY×bH×bH×bH×bH×bH×bH×Jf×qP×BZ×iU×iU×iU×iU×iU×iU×Nat×NI×NI×NI×NI×NI×NI×NI×NI×NI×NI×NI))
def auo {ρ:Type}(x:A8)(K:AX->St->Option ρ):Option ρ:=(Sum.elim (λd=>K (.ex 3) (az6.em ((d.1.1,d.1.2.1,d.1.b.1,d.1.b.2.1,d.1.c.1,d.1.c.1,d.1.c.2.1,d.1.c.b.1,d.1.c.1,d.1.c.b.2.1,d.1.c.b.2.1,d.1.b.1,d.1.d),d.2.1,(d.b.1.1,d.b.1.2.1,d.1.c.2.1,d.b.1.b),d.b.2))) (Sum.elim (λd=>K (.ex 3) (az7.em ((d.1.1,d.1.2.1,d.1.b.1,d.1.b.2.1,d.1.c.1,d.1.c.1,d.1.c.2.1,d.1.c.b.1,d.1.c.1,d.1.c.b.2,d.1.c.b.2),d.2.1,(d.b.1.1,d.b.1.2.1,d.1.c.2.1,d.b.1.b),d.b.2))) (λd=>K (.ex 3) (az8.em ((d.1.1,d.1.2.1,d.1.b.1,d.1.b.2.1,d.1.c.1,d.1.c),d.2.1,(d.b.1.1,d.b.1.2.1,d.1.c.2.1,d.b.1.b),d.b.2))))) x
def afM (wW:rn)(afL:Ln)(d:nq.B):PL nq A8:=let n28:=d.1.1;let n27:=d.1.2.1;let n21:=d.2.1;let n17:=d.2.2;let n23:=n17.1.2.2;let n16:=n21.2.2.2.2;let n25:=n16.2.2.2.2.2.2.2.2.2.2.2.2;let bk:=d.1.2.2;let n29:=bk.2.1;let n24:=bk.2.2;let ba:=n17.2.2.2.2;let n8:=ba.2.2.2;let n30:=n8.2.2;let n15:=n30.2.2;let n19:=n15.2.2.2.2;let aS:=n19.2.2.2.2.2;let n18:=aS.2.2.2.2.2;let n2:=(n17.1.1,n17.1.2.1,n23.2);let y0:=wI (bk.1+8000);let y1:=decide (bk.1>1099511627776);let y2:=decide (n24<40);let y3:=decide (n24<n23.1);ae y3 (ae y2 (ae y1 (ret (Sum.inr (Sum.inl ((n28,n27,bk.1,n29,n24,n23.1,y3,y2,y1),n21,n2,n17.2)))) (opt (afL y0 8000) λaj=>ae (Nat.beq n16.1.2 n16.1.2) (ae (Nat.beq n25 n25) (ae (Nat.beq ba.1.2.2.1 ba.1.2.2.1) (ae (Nat.beq ba.2.1.2.2.1 ba.2.1.2.2.1) (ae (Nat.beq ba.2.2.1.2.2.1 ba.2.2.1.2.2.1) (ae (Nat.beq n8.1.2.2.1 n8.1.2.2.1) (ae (Nat.beq n8.2.1.2.2.1 n8.2.1.2.2.1) (ae (Nat.beq n30.1.2.2.1 n30.1.2.2.1) (ae (Nat.beq n15.1.2.2 n15.1.2.2) (opt (wW ((aj.1,aj.2.1,(0,0,0),0,0,aj.2.2),(n21.1,n21.2.1,n21.2.2.1,n21.2.2.2.1,n16.1.2,n16.2),n17.2.1,n17.2.2.1,(sh8 n16.1.1 n17.2.2.2.1.2),ba.1,ba.2.1,ba.2.2.1,n8.1,n8.2.1,n30.1,n30.2.1,n15.1,(Jj 0 n15.2.1.2),(ep 0 n15.2.2.1.2),(ep 0 n15.2.2.2.1.2),(ep 0 n19.1.2),(ep 0 n19.2.1.2),(ep 0 n19.2.2.1.2),(ep 0 n19.2.2.2.1.2),λj=>aS.1 (0+j),λj=>aS.2.1 (0+j),λj=>aS.2.2.1 (0+j),λj=>aS.2.2.2.1 (0+j),λj=>aS.2.2.2.2.1 (0+j),λj=>n18.1 (0+j),λj=>n18.2.1 (0+j),λj=>n18.2.2.1 (0+j),λj=>n18.2.2.2.1 (0+j),λj=>n18.2.2.2.2.1 (0+j),λj=>n18.2.2.2.2.2 (0+j))) λaF=>let n26:=aF.2.2;let bl:=n26.2.2.2;let n9:=bl.2.2.2;let n22:=n9.2.2;let bA:=n22.2.2.2;let n20:=bA.2.2.2.2;let n7:=(bl.1.2.2.1,bA.2.1);let n6:=(bl.2.1.2.2.1,bA.2.2.1);let n5:=(bl.2.2.1.2.2.1,bA.2.2.2.1);let n4:=(n9.1.2.2.1,n20.1);let n3:=(n9.2.1.2.2.1,n20.2.1);let n1:=(n22.1.2.2.1,n20.2.2.1);let pA:=wI (n27+aF.1.1);ae (aF.1.2==0) (ret (Sum.inl ((n28,pA,y0,n29,wI (n24+1)),aF.2.1,n17.1,n26.1,n26.2.1,n26.2.2.1,bl.1,bl.2.1,bl.2.2.1,n9.1,n9.2.1,n22.1,n22.2.1,n22.2.2.1,bA.1,n7,n6,n5,n4,n3,n1,n20.2.2.2))) (ret (Sum.inl ((n28,pA,bk.1,n29,wI (n24+1)),aF.2.1,n17.1,n26.1,n26.2.1,n26.2.2.1,bl.1,bl.2.1,bl.2.2.1,n9.1,n9.2.1,n22.1,n22.2.1,n22.2.2.1,bA.1,n7,n6,n5,n4,n3,n1,n20.2.2.2)))) no) no) no) no) no) no) no) no) no)) (ret (Sum.inr (Sum.inr (Sum.inl ((n28,n27,bk.1,n29,n24,n23.1,y3,y2),n21,n2,n17.2)))))) (ret (Sum.inr (Sum.inr (Sum.inr ((n28,n27,bk.1,n29,n24,n23.1,y3),n21,n2,n17.2)))))
def Tc:=bD (afM lC A5) 2000
def pW:=qs (st (pr (cu dy (c xZ (us 2 (cu HC (c ai (c ai aK8)))))) (pl aAT aij)))
def az9:=qs (st (pr (cu dy (c xZ (us 2 (cu HC (c ai (c ai (c ai (us 9 (c ai (c xZ (c ai (c ab (cu LZ (c ai (c ab (c ab (cu LZ (c ai (c ab (cl ab (us 61 nil))))))))))))))))))))) (pl aAT aij)))
def aAa:=qs (st (pr (cu dy (c xZ (us 2 (cu HC (c ai (c ai (c ai (us 9 (c ai (c xZ (c ai (c ab (cu LZ (c ai (c ab (cl ab aRu)))))))))))))))) (pl aAT aij)))
def aAb:=qs (st (pr (cu dy (c xZ (us 2 (cu HC (c ai (c ai (c ai (us 9 (c ai (c xZ (c ai (cl ab (cu kv (xs 2 (cu kv aRu))))))))))))))) (pl aAT aij)))
abbrev E1:=((arp×Int×Int×Int×Int×Bool×Bool×Bool)×Ty1×vO×Jk×LY×bH×bH×bH×bH×bH×bH×Jf×qP×BZ×iU×iU×iU×iU×iU×iU×Nat×NI×NI×NI×NI×NI×NI×NI×NI×NI×NI×NI)⊕(((arp×Int×Int×Int×Int×Bool×Bool)×Ty1×vO×Jk×LY×bH×bH×bH×bH×bH×bH×Jf×qP×BZ×iU×iU×iU×iU×iU×iU×Nat×NI×NI×NI×NI×NI×NI×NI×NI×NI×NI×NI)⊕((arp×Int×Int×Int×Int×Bool)×Ty1×vO×Jk×LY×bH×bH×bH×bH×bH×bH×Jf×qP×BZ×iU×iU×iU×iU×iU×iU×Nat×NI×NI×NI×NI×NI×NI×NI×NI×NI×NI×NI))
def aup {ρ:Type}(x:E1)(K:AX->St->Option ρ):Option ρ:=(Sum.elim (λd=>K (.ex 0) (az9.em ((d.1.1,d.1.2.1,d.1.b.1,d.1.b.2.1,d.1.b.2.1,d.1.1,d.1.c.1,d.1.c.2.1,d.1.b.2.1,d.1.c.b.1,d.1.c.b.1,d.1.2.1,d.1.c.b.2,d.1.c.b.2),d.2))) (Sum.elim (λd=>K (.ex 0) (aAa.em ((d.1.1,d.1.2.1,d.1.b.1,d.1.b.2.1,d.1.b.2.1,d.1.1,d.1.c.1,d.1.c.2.1,d.1.b.2.1,d.1.c.b,d.1.c.b),d.2))) (λd=>K (.ex 0) (aAb.em ((d.1.1,d.1.2.1,d.1.b.1,d.1.b.2.1,d.1.b.2.1,d.1.1,d.1.c),d.2))))) x
def afN (afO:AY)(wW:rn)(oV:LT nq A8)(d:pW.B):PL pW E1:=let n38:=d.2.1;let n26:=d.2.2.2;let wL:=n26.2.2.1;let n22:=d.1.1;let n20:=d.1.2;let n39:=n20.2.1;let n29:=n20.2.2;let n19:=n38.2.2.2.2;let n36:=n19.2.2.2.2.2.2.2.2.2.2.2.2;let bA:=n22.2.2.2.2;let n33:=bA.2.2;let bk:=n26.2.2.2;let Cn:=bk.2.2.1;let n23:=bk.2.2.2;let n9:=n33.2.2.2;let n28:=n9.2.2.2;let n15:=n28.2.2.2;let n31:=n15.2.2.2;let n8:=n23.2.2.2;let AO:=n8.2.2;let n21:=AO.2.2;let n34:=n21.2.2;let aS:=n34.2.2.2.2;let n35:=aS.2.2;let n16:=n35.2.2.2;let yS:=n16.2.2;let n1:=(n38.1,n38.2.1,n38.2.2.1,n38.2.2.2.1,n19.1.2,n19.2);let y0:=Int.toNat n29;let y1:=wI (n29+1);let y2:=Int.ofNat n22.1;let y3:=decide (n20.1<60);let y4:=decide (n29<30);let y5:=decide (n29<y2);let y6:=Nat.beq n19.1.2 n19.1.2;let y7:=Nat.beq n36 n36;let y8:=Nat.beq wL.2.2.1 wL.2.2.1;let y9:=Nat.beq bk.1.2.2.1 bk.1.2.2.1;let rN:=Nat.beq bk.2.1.2.2.1 bk.2.1.2.2.1;let sD:=Nat.beq Cn.2.2.1 Cn.2.2.1;let vj:=Nat.beq n23.1.2.2.1 n23.1.2.2.1;let vk:=Nat.beq n23.2.1.2.2.1 n23.2.1.2.2.1;let vm:=Nat.beq n8.1.2.2 n8.1.2.2;ae y5 (ae y4 (ae y3 (ae (aX n29 n22.1) (ae (n22.2.1 y0==1) (ae y6 (ae y7 (ae y8 (ae y9 (ae rN (ae sD (ae vj (ae vk (ae vm (opt (afO ((n22.2.2.1 y0,n28.1 y0,n28.2.1 y0,n28.2.2.1 y0,n15.1 y0,n15.2.1 y0,n15.2.2.1 y0,n31.1 y0,n31.2.1 y0,n31.2.2 y0),n1,d.2.2.1,n26.1,(sh8 n19.1.1 n26.2.1.2),wL,bk.1,bk.2.1,Cn,n23.1,n23.2.1,n23.2.2.1,n8.1,(Jj 0 n8.2.1.2),(ep 0 AO.1.2),(ep 0 AO.2.1.2),(ep 0 n21.1.2),(ep 0 n21.2.1.2),(ep 0 n34.1.2),(ep 0 n34.2.1.2),λj=>n34.2.2.2.1 (0+j),λj=>aS.1 (0+j),λj=>aS.2.1 (0+j),λj=>n35.1 (0+j),λj=>n35.2.1 (0+j),λj=>n35.2.2.1 (0+j),λj=>n16.1 (0+j),λj=>n16.2.1 (0+j),λj=>yS.1 (0+j),λj=>yS.2.1 (0+j),λj=>yS.2.2 (0+j))) λaj=>let n27:=aj.2.1.2.2;let n24:=aj.2.2.2.2.2;let bl:=n24.2.2.2.2.2;let C2:=bl.2.2;let n25:=C2.2.2.2;ret (Sum.inl ((n22,n20.1,n39,y1),(aj.2.1.1,aj.2.1.2.1,n27.1,n27.2.1,(0,n27.2.2.1),n27.2.2.2),aj.2.2.1,aj.2.2.2.1,(n27.2.2.1,aj.2.2.2.2.1),n24.1,n24.2.1,n24.2.2.1,n24.2.2.2.1,n24.2.2.2.2.1,bl.1,bl.2.1,C2.1,(n27.2.2.2.2.2.2.2.2.2.2.2.2.2.2,C2.2.1),C2.2.2.1,n25.1,n25.2.1,n25.2.2.1,n25.2.2.2.1,n25.2.2.2.2.1,C2.1.2.2,n25.2.2.2.2.2))) no) no) no) no) no) no) no) no) no) (ae (n22.2.1 y0==0) (ae y6 (ae y7 (ae y8 (ae y9 (ae rN (ae sD (ae vj (ae vk (ae vm (opt (wW ((bA.1 y0,bA.2.1 y0,(n33.1 y0,n33.2.1 y0,n33.2.2.1 y0),n9.1 y0,n9.2.1 y0,n9.2.2.1 y0),n1,d.2.2.1,n26.1,(sh8 n19.1.1 n26.2.1.2),wL,bk.1,bk.2.1,Cn,n23.1,n23.2.1,n23.2.2.1,n8.1,(Jj 0 n8.2.1.2),(ep 0 AO.1.2),(ep 0 AO.2.1.2),(ep 0 n21.1.2),(ep 0 n21.2.1.2),(ep 0 n34.1.2),(ep 0 n34.2.1.2),λj=>n34.2.2.2.1 (0+j),λj=>aS.1 (0+j),λj=>aS.2.1 (0+j),λj=>n35.1 (0+j),λj=>n35.2.1 (0+j),λj=>n35.2.2.1 (0+j),λj=>n16.1 (0+j),λj=>n16.2.1 (0+j),λj=>yS.1 (0+j),λj=>yS.2.1 (0+j),λj=>yS.2.2 (0+j))) λaj=>let n37:=aj.2.2;let n17:=n37.2.2.2;let ba:=n17.2.2.2;let n32:=ba.2.2;let n18:=n32.2.2.2;let n30:=n18.2.2.2.2;let n7:=(n17.1.2.2.1,n18.2.1);let n6:=(n17.2.1.2.2.1,n18.2.2.1);let n5:=(n17.2.2.1.2.2.1,n18.2.2.2.1);let n4:=(ba.1.2.2.1,n30.1);let n3:=(ba.2.1.2.2.1,n30.2.1);let n2:=(n32.1.2.2.1,n30.2.2.1);let pA:=wI (n20.1+aj.1.1);ae (aj.1.2==0) (ret (Sum.inl ((n22,pA,bA.1 y0,y1),aj.2.1,n37.1,n37.2.1,n37.2.2.1,n17.1,n17.2.1,n17.2.2.1,ba.1,ba.2.1,n32.1,n32.2.1,n32.2.2.1,n18.1,n7,n6,n5,n4,n3,n2,n30.2.2.2))) (ret (Sum.inl ((n22,pA,n39,y1),aj.2.1,n37.1,n37.2.1,n37.2.2.1,n17.1,n17.2.1,n17.2.2.1,ba.1,ba.2.1,n32.1,n32.2.1,n32.2.2.1,n18.1,n7,n6,n5,n4,n3,n2,n30.2.2.2)))) no) no) no) no) no) no) no) no) no) (opt (oV ((n22,n20.1,n39,n29,0),n38,(n22.2.1 y0,n22.2.2.1 y0,n22.2.2.2.1 y0,bA.1 y0,bA.2.1 y0,n33.1 y0,n33.2.1 y0,n33.2.2.1 y0,n9.1 y0,n9.2.1 y0,n9.2.2.1 y0,n28.1 y0,n28.2.1 y0,n28.2.2.1 y0,n15.1 y0,n15.2.1 y0,n15.2.2.1 y0,n31.1 y0,n31.2.1 y0,n31.2.2 y0),d.2.2)) λx=>sum x (λd=>ret (Sum.inl ((d.1.1,d.1.2.1,d.1.2.2.1,wI (d.1.2.2.2.1+1)),d.2.1,d.2.2.2))) λx=>sum x (λd=>ret (Sum.inl ((d.1.1,d.1.2.1,d.1.2.2.1,wI (d.1.2.2.2.1+1)),d.2.1,d.2.2.2))) λd=>ret (Sum.inl ((d.1.1,d.1.2.1,d.1.2.2.1,wI (d.1.2.2.2.1+1)),d.2.1,d.2.2.2))))) no) (ret (Sum.inr (Sum.inl ((n22,n20.1,n39,n29,y2,y5,y4,y3),d.2))))) (ret (Sum.inr (Sum.inr (Sum.inl ((n22,n20.1,n39,n29,y2,y5,y4),d.2)))))) (ret (Sum.inr (Sum.inr (Sum.inr ((n22,n20.1,n39,n29,y2,y5),d.2)))))
def afP:=bD (afN kT lC Tc) 2000
def ark (qO:qD)(dA:LT pW E1)(x:WO.B):Pg ari:=let ba:=x.2.1.2;let n4:=x.2.2.2.2.2;let bk:=n4.1.2.2.1;let n8:=n4.2.1.2.2.1;let n3:=ba.2.2.2;let n5:=n3.2.2.2.2.2.2.2.2.2.2.2.2;let n1:=n4.2.2;let bl:=n1.1.2.2.1;let n9:=n1.2.1.2.2.1;let n6:=n1.2.2;let bA:=n6.1.2.2.1;let aS:=n6.2.1.2.2.1;let n2:=n6.2.2.2;let n7:=n2.2.2.2.2;ae (Nat.beq n3.1 n3.1) (ae (Nat.beq n5 n5) (ae (Nat.beq bk bk) (ae (Nat.beq n8 n8) (ae (Nat.beq bl bl) (ae (Nat.beq n9 n9) (ae (Nat.beq bA bA) (ae (Nat.beq aS aS) (ae (Nat.beq n2.1.2.2 n2.1.2.2) (opt (qO x.2) λd=>opt (dA ((x.1,0,d.2.2.2.2.1,0),(x.2.1.1,ba.1,ba.2.1,ba.2.2.1,(0,n3.1),n3.2),x.2.2.1,x.2.2.2.1,(n3.1,x.2.2.2.2.1),n4.1,n4.2.1,n1.1,n1.2.1,n6.1,n6.2.1,n6.2.2.1,n2.1,(n5,n2.2.1),(bk,n2.2.2.1),(n8,n2.2.2.2.1),(bl,n7.1),(n9,n7.2.1),(bA,n7.2.2.1),(aS,n7.2.2.2.1),n2.1.2.2,n7.2.2.2.2)) λx=>sum x (λd=>ret (d.1.2.1,d.2)) λx=>sum x (λd=>ret (d.1.2.1,d.2)) λd=>ret (d.1.2.1,d.2)) no) no) no) no) no) no) no) no) no
def WQ:=λx=>(ark iv afP x).val
abbrev WR:=qD×AY×rn×Ln×(LT nq A8)×(LT pW E1)
def afQ (p:WR):KK:=⟨[wJ p.1,AZ p.2.1,Lh p.b.1,afK p.b.2.1],⟨[⟨4,(2::3::rg 9 81 [8]),[(3,[]),(4,[]),(5,[]),(6,[]),(7,[]),(8,[]),(9,[]),(10,[]),(11,[]),(12,[]),(13,[]),(14,[]),(15,[]),(16,[]),(17,[]),(18,[]),(19,[]),(20,[]),(21,[]),(0,[])]⟩,⟨9,(2::3::9::10::rg 12 78 []),[(3,[]),(4,[]),(5,[]),(6,[]),(7,[]),(8,[]),(9,[]),(10,[]),(11,[]),(12,[]),(13,[]),(14,[]),(15,[]),(16,[]),(17,[]),(18,[]),(19,[]),(20,[]),(21,[]),(0,[])]⟩],[fg 9 20 nq auo p.c.1,fg 4 20 pW aup p.c.2],(0::rg 4 6 []),[],(some ⟨0,(rg 0 4 (rg 5 85 [])),[(3,[]),(4,[]),(5,[]),(6,[]),(7,[]),(8,[]),(9,[]),(10,[]),(11,[]),(12,[]),(13,[]),(14,[]),(15,[]),(16,[]),(17,[]),(18,[]),(19,[]),(20,[]),(21,[]),(0,[])]⟩)⟩,20,19⟩
theorem aEG (p:WR):LI (afQ p) 9 nq auo (afM p.b.1 p.b.2.1):=λ_ d c K=>by kernel_rfl
theorem aEH (p:WR):LI (afQ p) 4 pW aup (afN p.2.1 p.b.1 p.c.1):=λ_ d c K=>by kernel_rfl
theorem aNt (p:WR):D2 (afQ p) WO (lf al8) λb=>ark p.1 p.c.2 b:=λb=>by kernel_rfl
abbrev afR:WR:=(iv,kT,lC,A5,Tc,afP)
theorem aNu [ax]:SC (aDq WQ):=sc (kS (k:=afQ afR) (.c DY (.c Ll (.c YK (.c auj (.nil _))))) [4,9] [] ⟨kL (aEH afR),⟨kL (aEG afR),trivial⟩⟩ trivial (aNt afR))
end Go.Proofs.YtcmfbkneahoonaaGreat
namespace Go.Proofs.YtcmfbkneahoonaaGreat
open Go.Ab Go.Ab.Pg
theorem aPU (t:Int):A5 t 8000=some (t,8000, -84238486):=by kernel_rfl
theorem aNv (N:Nat)(h1:1<=N)(hN:N<=1999)(B:Int)(hB:B<=64)(q:Int)(hq:q+40<=1998)(w d:nq.B)(hd:d.1.1=w.1.1∧d.1.2.2.2.1=w.1.2.2.2.1∧0<=d.1.2.2.2.2∧d.1.2.2.2.2<=40∧((d.2.1.2.2.2.2.1.2:Nat):Int)<=q+d.1.2.2.2.2∧d.2.2.2.2.2.2.1.2.1=B∧((d.2.2.2.2.2.2.1.2.2.1:Nat):Int)<=B∧d.2.2.2.2.2.2.2.1.2.1=B∧((d.2.2.2.2.2.2.2.1.2.2.1:Nat):Int)<=B∧d.2.2.2.2.2.2.2.2.1.2.1=B∧((d.2.2.2.2.2.2.2.2.1.2.2.1:Nat):Int)<=B∧d.2.2.2.2.2.2.2.2.2.1.2.1=B∧((d.2.2.2.2.2.2.2.2.2.1.2.2.1:Nat):Int)<=B∧d.2.2.2.2.2.2.2.2.2.2.1.2.1=B∧((d.2.2.2.2.2.2.2.2.2.2.1.2.2.1:Nat):Int)<=B∧d.2.2.2.2.2.2.2.2.2.2.2.1.2.1=B∧((d.2.2.2.2.2.2.2.2.2.2.2.1.2.2.1:Nat):Int)<=B∧d.2.2.2.2.2.2.2.2.2.2.2.2.2.1.1<=(N:Int)∧d.2.2.2.2.2.2.2.2.2.2.2.2.2.1.2.2<=N):Ok (Tc d) (λx:A8=>match x with|.inl x=>x.1.1=w.1.1∧x.1.2.2.2.1=w.1.2.2.2.1∧((x.2.1.2.2.2.2.1.2:Nat):Int)<=q+40∧x.2.2.2.2.2.2.1.2.1=B∧((x.2.2.2.2.2.2.1.2.2.1:Nat):Int)<=B∧x.2.2.2.2.2.2.2.1.2.1=B∧((x.2.2.2.2.2.2.2.1.2.2.1:Nat):Int)<=B∧x.2.2.2.2.2.2.2.2.1.2.1=B∧((x.2.2.2.2.2.2.2.2.1.2.2.1:Nat):Int)<=B∧x.2.2.2.2.2.2.2.2.2.1.2.1=B∧((x.2.2.2.2.2.2.2.2.2.1.2.2.1:Nat):Int)<=B∧x.2.2.2.2.2.2.2.2.2.2.1.2.1=B∧((x.2.2.2.2.2.2.2.2.2.2.1.2.2.1:Nat):Int)<=B∧x.2.2.2.2.2.2.2.2.2.2.2.1.2.1=B∧((x.2.2.2.2.2.2.2.2.2.2.2.1.2.2.1:Nat):Int)<=B∧x.2.2.2.2.2.2.2.2.2.2.2.2.2.1.1<=(N:Int)∧x.2.2.2.2.2.2.2.2.2.2.2.2.2.1.2.2<=N|.inr (.inl x)=>x.1.1=w.1.1∧x.1.2.2.2.1=w.1.2.2.2.1∧((x.2.1.2.2.2.2.1.2:Nat):Int)<=q+40∧x.2.2.2.2.2.2.1.2.1=B∧((x.2.2.2.2.2.2.1.2.2.1:Nat):Int)<=B∧x.2.2.2.2.2.2.2.1.2.1=B∧((x.2.2.2.2.2.2.2.1.2.2.1:Nat):Int)<=B∧x.2.2.2.2.2.2.2.2.1.2.1=B∧((x.2.2.2.2.2.2.2.2.1.2.2.1:Nat):Int)<=B∧x.2.2.2.2.2.2.2.2.2.1.2.1=B∧((x.2.2.2.2.2.2.2.2.2.1.2.2.1:Nat):Int)<=B∧x.2.2.2.2.2.2.2.2.2.2.1.2.1=B∧((x.2.2.2.2.2.2.2.2.2.2.1.2.2.1:Nat):Int)<=B∧x.2.2.2.2.2.2.2.2.2.2.2.1.2.1=B∧((x.2.2.2.2.2.2.2.2.2.2.2.1.2.2.1:Nat):Int)<=B∧x.2.2.2.2.2.2.2.2.2.2.2.2.2.1.1<=(N:Int)∧x.2.2.2.2.2.2.2.2.2.2.2.2.2.1.2.2<=N|.inr (.inr x)=>x.1.1=w.1.1∧x.1.2.2.2.1=w.1.2.2.2.1∧((x.2.1.2.2.2.2.1.2:Nat):Int)<=q+40∧x.2.2.2.2.2.2.1.2.1=B∧((x.2.2.2.2.2.2.1.2.2.1:Nat):Int)<=B∧x.2.2.2.2.2.2.2.1.2.1=B∧((x.2.2.2.2.2.2.2.1.2.2.1:Nat):Int)<=B∧x.2.2.2.2.2.2.2.2.1.2.1=B∧((x.2.2.2.2.2.2.2.2.1.2.2.1:Nat):Int)<=B∧x.2.2.2.2.2.2.2.2.2.1.2.1=B∧((x.2.2.2.2.2.2.2.2.2.1.2.2.1:Nat):Int)<=B∧x.2.2.2.2.2.2.2.2.2.2.1.2.1=B∧((x.2.2.2.2.2.2.2.2.2.2.1.2.2.1:Nat):Int)<=B∧x.2.2.2.2.2.2.2.2.2.2.2.1.2.1=B∧((x.2.2.2.2.2.2.2.2.2.2.2.1.2.2.1:Nat):Int)<=B∧x.2.2.2.2.2.2.2.2.2.2.2.2.2.1.1<=(N:Int)∧x.2.2.2.2.2.2.2.2.2.2.2.2.2.1.2.2<=N):=
 aZ (s:=_) (λd:nq.B=>d.1.1=w.1.1∧d.1.2.2.2.1=w.1.2.2.2.1∧0<=d.1.2.2.2.2∧d.1.2.2.2.2<=40∧((d.2.1.2.2.2.2.1.2:Nat):Int)<=q+d.1.2.2.2.2∧d.2.2.2.2.2.2.1.2.1=B∧((d.2.2.2.2.2.2.1.2.2.1:Nat):Int)<=B∧d.2.2.2.2.2.2.2.1.2.1=B∧((d.2.2.2.2.2.2.2.1.2.2.1:Nat):Int)<=B∧d.2.2.2.2.2.2.2.2.1.2.1=B∧((d.2.2.2.2.2.2.2.2.1.2.2.1:Nat):Int)<=B∧d.2.2.2.2.2.2.2.2.2.1.2.1=B∧((d.2.2.2.2.2.2.2.2.2.1.2.2.1:Nat):Int)<=B∧d.2.2.2.2.2.2.2.2.2.2.1.2.1=B∧((d.2.2.2.2.2.2.2.2.2.2.1.2.2.1:Nat):Int)<=B∧d.2.2.2.2.2.2.2.2.2.2.2.1.2.1=B∧((d.2.2.2.2.2.2.2.2.2.2.2.1.2.2.1:Nat):Int)<=B∧d.2.2.2.2.2.2.2.2.2.2.2.2.2.1.1<=(N:Int)∧d.2.2.2.2.2.2.2.2.2.2.2.2.2.1.2.2<=N) (λd:nq.B=>Int.toNat (40-d.1.2.2.2.2)) (λx:A8=>match x with|.inl x=>x.1.1=w.1.1∧x.1.2.2.2.1=w.1.2.2.2.1∧((x.2.1.2.2.2.2.1.2:Nat):Int)<=q+40∧x.2.2.2.2.2.2.1.2.1=B∧((x.2.2.2.2.2.2.1.2.2.1:Nat):Int)<=B∧x.2.2.2.2.2.2.2.1.2.1=B∧((x.2.2.2.2.2.2.2.1.2.2.1:Nat):Int)<=B∧x.2.2.2.2.2.2.2.2.1.2.1=B∧((x.2.2.2.2.2.2.2.2.1.2.2.1:Nat):Int)<=B∧x.2.2.2.2.2.2.2.2.2.1.2.1=B∧((x.2.2.2.2.2.2.2.2.2.1.2.2.1:Nat):Int)<=B∧x.2.2.2.2.2.2.2.2.2.2.1.2.1=B∧((x.2.2.2.2.2.2.2.2.2.2.1.2.2.1:Nat):Int)<=B∧x.2.2.2.2.2.2.2.2.2.2.2.1.2.1=B∧((x.2.2.2.2.2.2.2.2.2.2.2.1.2.2.1:Nat):Int)<=B∧x.2.2.2.2.2.2.2.2.2.2.2.2.2.1.1<=(N:Int)∧x.2.2.2.2.2.2.2.2.2.2.2.2.2.1.2.2<=N|.inr (.inl x)=>x.1.1=w.1.1∧x.1.2.2.2.1=w.1.2.2.2.1∧((x.2.1.2.2.2.2.1.2:Nat):Int)<=q+40∧x.2.2.2.2.2.2.1.2.1=B∧((x.2.2.2.2.2.2.1.2.2.1:Nat):Int)<=B∧x.2.2.2.2.2.2.2.1.2.1=B∧((x.2.2.2.2.2.2.2.1.2.2.1:Nat):Int)<=B∧x.2.2.2.2.2.2.2.2.1.2.1=B∧((x.2.2.2.2.2.2.2.2.1.2.2.1:Nat):Int)<=B∧x.2.2.2.2.2.2.2.2.2.1.2.1=B∧((x.2.2.2.2.2.2.2.2.2.1.2.2.1:Nat):Int)<=B∧x.2.2.2.2.2.2.2.2.2.2.1.2.1=B∧((x.2.2.2.2.2.2.2.2.2.2.1.2.2.1:Nat):Int)<=B∧x.2.2.2.2.2.2.2.2.2.2.2.1.2.1=B∧((x.2.2.2.2.2.2.2.2.2.2.2.1.2.2.1:Nat):Int)<=B∧x.2.2.2.2.2.2.2.2.2.2.2.2.2.1.1<=(N:Int)∧x.2.2.2.2.2.2.2.2.2.2.2.2.2.1.2.2<=N|.inr (.inr x)=>x.1.1=w.1.1∧x.1.2.2.2.1=w.1.2.2.2.1∧((x.2.1.2.2.2.2.1.2:Nat):Int)<=q+40∧x.2.2.2.2.2.2.1.2.1=B∧((x.2.2.2.2.2.2.1.2.2.1:Nat):Int)<=B∧x.2.2.2.2.2.2.2.1.2.1=B∧((x.2.2.2.2.2.2.2.1.2.2.1:Nat):Int)<=B∧x.2.2.2.2.2.2.2.2.1.2.1=B∧((x.2.2.2.2.2.2.2.2.1.2.2.1:Nat):Int)<=B∧x.2.2.2.2.2.2.2.2.2.1.2.1=B∧((x.2.2.2.2.2.2.2.2.2.1.2.2.1:Nat):Int)<=B∧x.2.2.2.2.2.2.2.2.2.2.1.2.1=B∧((x.2.2.2.2.2.2.2.2.2.2.1.2.2.1:Nat):Int)<=B∧x.2.2.2.2.2.2.2.2.2.2.2.1.2.1=B∧((x.2.2.2.2.2.2.2.2.2.2.2.1.2.2.1:Nat):Int)<=B∧x.2.2.2.2.2.2.2.2.2.2.2.2.2.1.1<=(N:Int)∧x.2.2.2.2.2.2.2.2.2.2.2.2.2.1.2.2<=N) (λd hd=>by
  obtain⟨wa,wi,c0,c1,i0,s0,l0,s1,l1,s2,l2,s3,l3,s4,l4,s5,l5,p0,p1⟩:=hd
  unfold afM
  dsimp only
  have fin:((d.2.1.2.2.2.2.1.2:Nat):Int)<=q+40:=by omega
  rw[aL]
  refine⟨λ_=> ?_,λ_=>by rw[av];exact⟨wa,wi,fin,s0,l0,s1,l1,s2,l2,s3,l3,s4,l4,s5,l5,p0,p1⟩⟩
  rw[aL]
  refine⟨λh=> ?_,λ_=>by rw[av];exact⟨wa,wi,fin,s0,l0,s1,l1,s2,l2,s3,l3,s4,l4,s5,l5,p0,p1⟩⟩
  have h:=of_decide_eq_true h
  rw[aL]
  refine⟨λ_=>by rw[av];exact⟨wa,wi,fin,s0,l0,s1,l1,s2,l2,s3,l3,s4,l4,s5,l5,p0,p1⟩,λ_=> ?_⟩
  rw[aPU,bQ]
  simp only[aM,aC]
  have hw:wI (d.1.2.2.2.2+1)=d.1.2.2.2.2+1:=bd (by omega) (by omega)
  with_reducible refine ay (aOz N h1 hN _ ?_ ?_ ?_ ?_ ?_ ?_ ?_ ?_ ?_) λe _ he=> ?_
  ·show d.2.1.2.2.2.2.1.2<=1998
   omega
  ·show d.2.2.2.2.2.2.1.2.2.1<=64
   omega
  ·show d.2.2.2.2.2.2.2.1.2.2.1<=64
   omega
  ·show d.2.2.2.2.2.2.2.2.1.2.2.1<=64
   omega
  ·show d.2.2.2.2.2.2.2.2.2.1.2.2.1<=64
   omega
  ·show d.2.2.2.2.2.2.2.2.2.2.1.2.2.1<=64
   omega
  ·show d.2.2.2.2.2.2.2.2.2.2.2.1.2.2.1<=64
   omega
  ·exact p0
  ·exact p1
  obtain⟨e4,t0,m0,t1,m1,t2,m2,t3,m3,t4,m4,t5,m5,u0,u1⟩:=he
  have e4:e.2.1.2.2.2.2.1.2<=d.2.1.2.2.2.2.1.2+1:=e4
  have key:((e.2.1.2.2.2.2.1.2:Nat):Int)<=q+(d.1.2.2.2.2+1):=by omega
  have k1:Int.toNat (40-(d.1.2.2.2.2+1))<Int.toNat (40-d.1.2.2.2.2):=by omega
  have u0:e.2.2.2.2.2.2.2.2.2.2.2.2.1.1<=(N:Int):=by rw[u0];exact p0
  rw[hw]
  rw[aL]
  refine⟨λ_=> ?_,λ_=> ?_⟩
  ·rw[av];exact⟨⟨wa,wi,by show 0<=d.1.2.2.2.2+1;omega,by show d.1.2.2.2.2+1<=40;omega,key,t0.trans s0,Int.le_trans (Int.ofNat_le.2 m0) l0,t1.trans s1,Int.le_trans (Int.ofNat_le.2 m1) l1,t2.trans s2,Int.le_trans (Int.ofNat_le.2 m2) l2,t3.trans s3,Int.le_trans (Int.ofNat_le.2 m3) l3,t4.trans s4,Int.le_trans (Int.ofNat_le.2 m4) l4,t5.trans s5,Int.le_trans (Int.ofNat_le.2 m5) l5,u0,u1⟩,k1⟩
  ·rw[av];exact⟨⟨wa,wi,by show 0<=d.1.2.2.2.2+1;omega,by show d.1.2.2.2.2+1<=40;omega,key,t0.trans s0,Int.le_trans (Int.ofNat_le.2 m0) l0,t1.trans s1,Int.le_trans (Int.ofNat_le.2 m1) l1,t2.trans s2,Int.le_trans (Int.ofNat_le.2 m2) l2,t3.trans s3,Int.le_trans (Int.ofNat_le.2 m3) l3,t4.trans s4,Int.le_trans (Int.ofNat_le.2 m4) l4,t5.trans s5,Int.le_trans (Int.ofNat_le.2 m5) l5,u0,u1⟩,k1⟩) 2000 d hd (by omega)
theorem aKF (N:Nat)(h1:1<=N)(hN:N<=1999)(B:Int)(hB:B<=64)(q:Int)(hq:q+40<=1998)(d:nq.B)(hd:0<=d.1.2.2.2.2∧d.1.2.2.2.2<=40∧((d.2.1.2.2.2.2.1.2:Nat):Int)<=q+d.1.2.2.2.2∧d.2.2.2.2.2.2.1.2.1=B∧((d.2.2.2.2.2.2.1.2.2.1:Nat):Int)<=B∧d.2.2.2.2.2.2.2.1.2.1=B∧((d.2.2.2.2.2.2.2.1.2.2.1:Nat):Int)<=B∧d.2.2.2.2.2.2.2.2.1.2.1=B∧((d.2.2.2.2.2.2.2.2.1.2.2.1:Nat):Int)<=B∧d.2.2.2.2.2.2.2.2.2.1.2.1=B∧((d.2.2.2.2.2.2.2.2.2.1.2.2.1:Nat):Int)<=B∧d.2.2.2.2.2.2.2.2.2.2.1.2.1=B∧((d.2.2.2.2.2.2.2.2.2.2.1.2.2.1:Nat):Int)<=B∧d.2.2.2.2.2.2.2.2.2.2.2.1.2.1=B∧((d.2.2.2.2.2.2.2.2.2.2.2.1.2.2.1:Nat):Int)<=B∧d.2.2.2.2.2.2.2.2.2.2.2.2.2.1.1<=(N:Int)∧d.2.2.2.2.2.2.2.2.2.2.2.2.2.1.2.2<=N):Ok (Tc d) (λx:A8=>match x with|.inl x=>x.1.1=d.1.1∧x.1.2.2.2.1=d.1.2.2.2.1∧((x.2.1.2.2.2.2.1.2:Nat):Int)<=q+40∧x.2.2.2.2.2.2.1.2.1=B∧((x.2.2.2.2.2.2.1.2.2.1:Nat):Int)<=B∧x.2.2.2.2.2.2.2.1.2.1=B∧((x.2.2.2.2.2.2.2.1.2.2.1:Nat):Int)<=B∧x.2.2.2.2.2.2.2.2.1.2.1=B∧((x.2.2.2.2.2.2.2.2.1.2.2.1:Nat):Int)<=B∧x.2.2.2.2.2.2.2.2.2.1.2.1=B∧((x.2.2.2.2.2.2.2.2.2.1.2.2.1:Nat):Int)<=B∧x.2.2.2.2.2.2.2.2.2.2.1.2.1=B∧((x.2.2.2.2.2.2.2.2.2.2.1.2.2.1:Nat):Int)<=B∧x.2.2.2.2.2.2.2.2.2.2.2.1.2.1=B∧((x.2.2.2.2.2.2.2.2.2.2.2.1.2.2.1:Nat):Int)<=B∧x.2.2.2.2.2.2.2.2.2.2.2.2.2.1.1<=(N:Int)∧x.2.2.2.2.2.2.2.2.2.2.2.2.2.1.2.2<=N|.inr (.inl x)=>x.1.1=d.1.1∧x.1.2.2.2.1=d.1.2.2.2.1∧((x.2.1.2.2.2.2.1.2:Nat):Int)<=q+40∧x.2.2.2.2.2.2.1.2.1=B∧((x.2.2.2.2.2.2.1.2.2.1:Nat):Int)<=B∧x.2.2.2.2.2.2.2.1.2.1=B∧((x.2.2.2.2.2.2.2.1.2.2.1:Nat):Int)<=B∧x.2.2.2.2.2.2.2.2.1.2.1=B∧((x.2.2.2.2.2.2.2.2.1.2.2.1:Nat):Int)<=B∧x.2.2.2.2.2.2.2.2.2.1.2.1=B∧((x.2.2.2.2.2.2.2.2.2.1.2.2.1:Nat):Int)<=B∧x.2.2.2.2.2.2.2.2.2.2.1.2.1=B∧((x.2.2.2.2.2.2.2.2.2.2.1.2.2.1:Nat):Int)<=B∧x.2.2.2.2.2.2.2.2.2.2.2.1.2.1=B∧((x.2.2.2.2.2.2.2.2.2.2.2.1.2.2.1:Nat):Int)<=B∧x.2.2.2.2.2.2.2.2.2.2.2.2.2.1.1<=(N:Int)∧x.2.2.2.2.2.2.2.2.2.2.2.2.2.1.2.2<=N|.inr (.inr x)=>x.1.1=d.1.1∧x.1.2.2.2.1=d.1.2.2.2.1∧((x.2.1.2.2.2.2.1.2:Nat):Int)<=q+40∧x.2.2.2.2.2.2.1.2.1=B∧((x.2.2.2.2.2.2.1.2.2.1:Nat):Int)<=B∧x.2.2.2.2.2.2.2.1.2.1=B∧((x.2.2.2.2.2.2.2.1.2.2.1:Nat):Int)<=B∧x.2.2.2.2.2.2.2.2.1.2.1=B∧((x.2.2.2.2.2.2.2.2.1.2.2.1:Nat):Int)<=B∧x.2.2.2.2.2.2.2.2.2.1.2.1=B∧((x.2.2.2.2.2.2.2.2.2.1.2.2.1:Nat):Int)<=B∧x.2.2.2.2.2.2.2.2.2.2.1.2.1=B∧((x.2.2.2.2.2.2.2.2.2.2.1.2.2.1:Nat):Int)<=B∧x.2.2.2.2.2.2.2.2.2.2.2.1.2.1=B∧((x.2.2.2.2.2.2.2.2.2.2.2.1.2.2.1:Nat):Int)<=B∧x.2.2.2.2.2.2.2.2.2.2.2.2.2.1.1<=(N:Int)∧x.2.2.2.2.2.2.2.2.2.2.2.2.2.1.2.2<=N):=aNv N h1 hN B hB q hq d d ⟨rfl,rfl,hd⟩
theorem aNw (N:Nat)(h1:1<=N)(hN:N<=1999)(B:Int)(hB:B<=64)(q K:Nat)(hK:K<=30)(hq:q+40*K<=1998)(d:pW.B)(hd:0<=d.1.2.2.2∧d.1.2.2.2<=K∧((d.2.1.2.2.2.2.1.2:Nat):Int)<=q+40*d.1.2.2.2∧(d.1.1.1<=K∨30<=K)∧d.2.2.2.2.2.1.2.1=B∧((d.2.2.2.2.2.1.2.2.1:Nat):Int)<=B∧d.2.2.2.2.2.2.1.2.1=B∧((d.2.2.2.2.2.2.1.2.2.1:Nat):Int)<=B∧d.2.2.2.2.2.2.2.1.2.1=B∧((d.2.2.2.2.2.2.2.1.2.2.1:Nat):Int)<=B∧d.2.2.2.2.2.2.2.2.1.2.1=B∧((d.2.2.2.2.2.2.2.2.1.2.2.1:Nat):Int)<=B∧d.2.2.2.2.2.2.2.2.2.1.2.1=B∧((d.2.2.2.2.2.2.2.2.2.1.2.2.1:Nat):Int)<=B∧d.2.2.2.2.2.2.2.2.2.2.1.2.1=B∧((d.2.2.2.2.2.2.2.2.2.2.1.2.2.1:Nat):Int)<=B∧d.2.2.2.2.2.2.2.2.2.2.2.2.1.1<=(N:Int)∧d.2.2.2.2.2.2.2.2.2.2.2.2.1.2.2<=N):Ok (afP d) (λx:E1=>match x with|.inl x=>((x.2.1.2.2.2.2.1.2:Nat):Int)<=q+40*K∧x.2.2.2.2.2.1.2.1=B∧((x.2.2.2.2.2.1.2.2.1:Nat):Int)<=B∧x.2.2.2.2.2.2.1.2.1=B∧((x.2.2.2.2.2.2.1.2.2.1:Nat):Int)<=B∧x.2.2.2.2.2.2.2.1.2.1=B∧((x.2.2.2.2.2.2.2.1.2.2.1:Nat):Int)<=B∧x.2.2.2.2.2.2.2.2.1.2.1=B∧((x.2.2.2.2.2.2.2.2.1.2.2.1:Nat):Int)<=B∧x.2.2.2.2.2.2.2.2.2.1.2.1=B∧((x.2.2.2.2.2.2.2.2.2.1.2.2.1:Nat):Int)<=B∧x.2.2.2.2.2.2.2.2.2.2.1.2.1=B∧((x.2.2.2.2.2.2.2.2.2.2.1.2.2.1:Nat):Int)<=B∧x.2.2.2.2.2.2.2.2.2.2.2.2.1.1<=(N:Int)∧x.2.2.2.2.2.2.2.2.2.2.2.2.1.2.2<=N|.inr (.inl x)=>((x.2.1.2.2.2.2.1.2:Nat):Int)<=q+40*K∧x.2.2.2.2.2.1.2.1=B∧((x.2.2.2.2.2.1.2.2.1:Nat):Int)<=B∧x.2.2.2.2.2.2.1.2.1=B∧((x.2.2.2.2.2.2.1.2.2.1:Nat):Int)<=B∧x.2.2.2.2.2.2.2.1.2.1=B∧((x.2.2.2.2.2.2.2.1.2.2.1:Nat):Int)<=B∧x.2.2.2.2.2.2.2.2.1.2.1=B∧((x.2.2.2.2.2.2.2.2.1.2.2.1:Nat):Int)<=B∧x.2.2.2.2.2.2.2.2.2.1.2.1=B∧((x.2.2.2.2.2.2.2.2.2.1.2.2.1:Nat):Int)<=B∧x.2.2.2.2.2.2.2.2.2.2.1.2.1=B∧((x.2.2.2.2.2.2.2.2.2.2.1.2.2.1:Nat):Int)<=B∧x.2.2.2.2.2.2.2.2.2.2.2.2.1.1<=(N:Int)∧x.2.2.2.2.2.2.2.2.2.2.2.2.1.2.2<=N|.inr (.inr x)=>((x.2.1.2.2.2.2.1.2:Nat):Int)<=q+40*K∧x.2.2.2.2.2.1.2.1=B∧((x.2.2.2.2.2.1.2.2.1:Nat):Int)<=B∧x.2.2.2.2.2.2.1.2.1=B∧((x.2.2.2.2.2.2.1.2.2.1:Nat):Int)<=B∧x.2.2.2.2.2.2.2.1.2.1=B∧((x.2.2.2.2.2.2.2.1.2.2.1:Nat):Int)<=B∧x.2.2.2.2.2.2.2.2.1.2.1=B∧((x.2.2.2.2.2.2.2.2.1.2.2.1:Nat):Int)<=B∧x.2.2.2.2.2.2.2.2.2.1.2.1=B∧((x.2.2.2.2.2.2.2.2.2.1.2.2.1:Nat):Int)<=B∧x.2.2.2.2.2.2.2.2.2.2.1.2.1=B∧((x.2.2.2.2.2.2.2.2.2.2.1.2.2.1:Nat):Int)<=B∧x.2.2.2.2.2.2.2.2.2.2.2.2.1.1<=(N:Int)∧x.2.2.2.2.2.2.2.2.2.2.2.2.1.2.2<=N):=
 aZ (s:=_) (λd:pW.B=>0<=d.1.2.2.2∧d.1.2.2.2<=K∧((d.2.1.2.2.2.2.1.2:Nat):Int)<=q+40*d.1.2.2.2∧(d.1.1.1<=K∨30<=K)∧d.2.2.2.2.2.1.2.1=B∧((d.2.2.2.2.2.1.2.2.1:Nat):Int)<=B∧d.2.2.2.2.2.2.1.2.1=B∧((d.2.2.2.2.2.2.1.2.2.1:Nat):Int)<=B∧d.2.2.2.2.2.2.2.1.2.1=B∧((d.2.2.2.2.2.2.2.1.2.2.1:Nat):Int)<=B∧d.2.2.2.2.2.2.2.2.1.2.1=B∧((d.2.2.2.2.2.2.2.2.1.2.2.1:Nat):Int)<=B∧d.2.2.2.2.2.2.2.2.2.1.2.1=B∧((d.2.2.2.2.2.2.2.2.2.1.2.2.1:Nat):Int)<=B∧d.2.2.2.2.2.2.2.2.2.2.1.2.1=B∧((d.2.2.2.2.2.2.2.2.2.2.1.2.2.1:Nat):Int)<=B∧d.2.2.2.2.2.2.2.2.2.2.2.2.1.1<=(N:Int)∧d.2.2.2.2.2.2.2.2.2.2.2.2.1.2.2<=N) (λd:pW.B=>Int.toNat (30-d.1.2.2.2)) (λx:E1=>match x with|.inl x=>((x.2.1.2.2.2.2.1.2:Nat):Int)<=q+40*K∧x.2.2.2.2.2.1.2.1=B∧((x.2.2.2.2.2.1.2.2.1:Nat):Int)<=B∧x.2.2.2.2.2.2.1.2.1=B∧((x.2.2.2.2.2.2.1.2.2.1:Nat):Int)<=B∧x.2.2.2.2.2.2.2.1.2.1=B∧((x.2.2.2.2.2.2.2.1.2.2.1:Nat):Int)<=B∧x.2.2.2.2.2.2.2.2.1.2.1=B∧((x.2.2.2.2.2.2.2.2.1.2.2.1:Nat):Int)<=B∧x.2.2.2.2.2.2.2.2.2.1.2.1=B∧((x.2.2.2.2.2.2.2.2.2.1.2.2.1:Nat):Int)<=B∧x.2.2.2.2.2.2.2.2.2.2.1.2.1=B∧((x.2.2.2.2.2.2.2.2.2.2.1.2.2.1:Nat):Int)<=B∧x.2.2.2.2.2.2.2.2.2.2.2.2.1.1<=(N:Int)∧x.2.2.2.2.2.2.2.2.2.2.2.2.1.2.2<=N|.inr (.inl x)=>((x.2.1.2.2.2.2.1.2:Nat):Int)<=q+40*K∧x.2.2.2.2.2.1.2.1=B∧((x.2.2.2.2.2.1.2.2.1:Nat):Int)<=B∧x.2.2.2.2.2.2.1.2.1=B∧((x.2.2.2.2.2.2.1.2.2.1:Nat):Int)<=B∧x.2.2.2.2.2.2.2.1.2.1=B∧((x.2.2.2.2.2.2.2.1.2.2.1:Nat):Int)<=B∧x.2.2.2.2.2.2.2.2.1.2.1=B∧((x.2.2.2.2.2.2.2.2.1.2.2.1:Nat):Int)<=B∧x.2.2.2.2.2.2.2.2.2.1.2.1=B∧((x.2.2.2.2.2.2.2.2.2.1.2.2.1:Nat):Int)<=B∧x.2.2.2.2.2.2.2.2.2.2.1.2.1=B∧((x.2.2.2.2.2.2.2.2.2.2.1.2.2.1:Nat):Int)<=B∧x.2.2.2.2.2.2.2.2.2.2.2.2.1.1<=(N:Int)∧x.2.2.2.2.2.2.2.2.2.2.2.2.1.2.2<=N|.inr (.inr x)=>((x.2.1.2.2.2.2.1.2:Nat):Int)<=q+40*K∧x.2.2.2.2.2.1.2.1=B∧((x.2.2.2.2.2.1.2.2.1:Nat):Int)<=B∧x.2.2.2.2.2.2.1.2.1=B∧((x.2.2.2.2.2.2.1.2.2.1:Nat):Int)<=B∧x.2.2.2.2.2.2.2.1.2.1=B∧((x.2.2.2.2.2.2.2.1.2.2.1:Nat):Int)<=B∧x.2.2.2.2.2.2.2.2.1.2.1=B∧((x.2.2.2.2.2.2.2.2.1.2.2.1:Nat):Int)<=B∧x.2.2.2.2.2.2.2.2.2.1.2.1=B∧((x.2.2.2.2.2.2.2.2.2.1.2.2.1:Nat):Int)<=B∧x.2.2.2.2.2.2.2.2.2.2.1.2.1=B∧((x.2.2.2.2.2.2.2.2.2.2.1.2.2.1:Nat):Int)<=B∧x.2.2.2.2.2.2.2.2.2.2.2.2.1.1<=(N:Int)∧x.2.2.2.2.2.2.2.2.2.2.2.2.1.2.2<=N) (λd hd=>by
  obtain⟨c0,c1,i0,n0,s0,l0,s1,l1,s2,l2,s3,l3,s4,l4,s5,l5,p0,p1⟩:=hd
  unfold afN
  dsimp only
  have fin:((d.2.1.2.2.2.2.1.2:Nat):Int)<=q+40*K:=by omega
  rw[aL]
  refine⟨λh5=> ?_,λ_=>by rw[av];exact⟨fin,s0,l0,s1,l1,s2,l2,s3,l3,s4,l4,s5,l5,p0,p1⟩⟩
  have h5:=of_decide_eq_true h5
  rw[Int.ofNat_eq_natCast] at h5
  rw[aL]
  refine⟨λh4=> ?_,λ_=>by rw[av];exact⟨fin,s0,l0,s1,l1,s2,l2,s3,l3,s4,l4,s5,l5,p0,p1⟩⟩
  have h4:=of_decide_eq_true h4
  rw[aL]
  refine⟨λ_=> ?_,λ_=>by rw[av];exact⟨fin,s0,l0,s1,l1,s2,l2,s3,l3,s4,l4,s5,l5,p0,p1⟩⟩
  have r0:aX d.1.2.2.2 d.1.1.1=true:=by rw[bn];omega
  have hw:wI (d.1.2.2.2+1)=d.1.2.2.2+1:=bd (by omega) (by omega)
  have k1:Int.toNat (30-(d.1.2.2.2+1))<Int.toNat (30-d.1.2.2.2):=by omega
  have cK:d.1.2.2.2+1<=K:=by omega
  have c2:0<=d.1.2.2.2+1:=by omega
  simp only[aM,r0,aC]
  rw[aL]
  refine⟨λ_=> ?_,λ_=> ?_⟩
  ·simp only[aC]
   with_reducible refine ay (aNp _ ?_ ?_ ?_ ?_ ?_ ?_ ?_ ?_ ?_ ?_ ?_ ?_) λe _ he=> ?_
   ·show((d.2.2.2.2.2.1.2.2.1:Nat):Int)<=d.2.2.2.2.2.1.2.1
    omega
   ·show d.2.2.2.2.2.1.2.1<=64
    omega
   ·show((d.2.2.2.2.2.2.1.2.2.1:Nat):Int)<=d.2.2.2.2.2.2.1.2.1
    omega
   ·show d.2.2.2.2.2.2.1.2.1<=64
    omega
   ·show((d.2.2.2.2.2.2.2.1.2.2.1:Nat):Int)<=d.2.2.2.2.2.2.2.1.2.1
    omega
   ·show d.2.2.2.2.2.2.2.1.2.1<=64
    omega
   ·show((d.2.2.2.2.2.2.2.2.1.2.2.1:Nat):Int)<=d.2.2.2.2.2.2.2.2.1.2.1
    omega
   ·show d.2.2.2.2.2.2.2.2.1.2.1<=64
    omega
   ·show((d.2.2.2.2.2.2.2.2.2.1.2.2.1:Nat):Int)<=d.2.2.2.2.2.2.2.2.2.1.2.1
    omega
   ·show d.2.2.2.2.2.2.2.2.2.1.2.1<=64
    omega
   ·show((d.2.2.2.2.2.2.2.2.2.2.1.2.2.1:Nat):Int)<=d.2.2.2.2.2.2.2.2.2.2.1.2.1
    omega
   ·show d.2.2.2.2.2.2.2.2.2.2.1.2.1<=64
    omega
   obtain⟨f1,f2,f3,f4,f11,f12,f13,f20,t0,m0,t1,m1,t2,m2,t3,m3,t4,m4,t5,m5⟩:=he
   have f4':e.2.1.2.2.2.2.1=d.2.1.2.2.2.2.1.2:=by rw[f1]
   rw[hw,av]
   refine⟨⟨c2,cK,?_,n0,t0.trans s0,Int.le_trans m0 (Int.le_of_eq s0),t1.trans s1,Int.le_trans m1 (Int.le_of_eq s1),t2.trans s2,Int.le_trans m2 (Int.le_of_eq s2),t3.trans s3,Int.le_trans m3 (Int.le_of_eq s3),t4.trans s4,Int.le_trans m4 (Int.le_of_eq s4),t5.trans s5,Int.le_trans m5 (Int.le_of_eq s5),?_,?_⟩,k1⟩
   ·show((e.2.1.2.2.2.2.1:Nat):Int)<=q+40*(d.1.2.2.2+1)
    omega
   ·show e.2.2.2.2.2.2.2.2.2.2.2.2.1.1<=(N:Int)
    rw[f12];exact p0
   ·show e.2.2.2.2.2.2.2.2.2.2.2.2.1.2.2<=N
    rw[f12];exact p1
  rw[aL]
  refine⟨λ_=> ?_,λ_=> ?_⟩
  ·simp only[aC]
   with_reducible refine ay (aOz N h1 hN _ ?_ ?_ ?_ ?_ ?_ ?_ ?_ ?_ ?_) λe _ he=> ?_
   ·show d.2.1.2.2.2.2.1.2<=1998
    omega
   ·show d.2.2.2.2.2.1.2.2.1<=64
    omega
   ·show d.2.2.2.2.2.2.1.2.2.1<=64
    omega
   ·show d.2.2.2.2.2.2.2.1.2.2.1<=64
    omega
   ·show d.2.2.2.2.2.2.2.2.1.2.2.1<=64
    omega
   ·show d.2.2.2.2.2.2.2.2.2.1.2.2.1<=64
    omega
   ·show d.2.2.2.2.2.2.2.2.2.2.1.2.2.1<=64
    omega
   ·exact p0
   ·exact p1
   obtain⟨e4,t0,m0,t1,m1,t2,m2,t3,m3,t4,m4,t5,m5,u0,u1⟩:=he
   have e4:e.2.1.2.2.2.2.1.2<=d.2.1.2.2.2.2.1.2+1:=e4
   have key:((e.2.1.2.2.2.2.1.2:Nat):Int)<=q+40*(d.1.2.2.2+1):=by omega
   have u0:e.2.2.2.2.2.2.2.2.2.2.2.2.1.1<=(N:Int):=by rw[u0];exact p0
   rw[hw]
   rw[aL]
   refine⟨λ_=> ?_,λ_=> ?_⟩
   ·rw[av];exact⟨⟨c2,cK,key,n0,t0.trans s0,Int.le_trans (Int.ofNat_le.2 m0) l0,t1.trans s1,Int.le_trans (Int.ofNat_le.2 m1) l1,t2.trans s2,Int.le_trans (Int.ofNat_le.2 m2) l2,t3.trans s3,Int.le_trans (Int.ofNat_le.2 m3) l3,t4.trans s4,Int.le_trans (Int.ofNat_le.2 m4) l4,t5.trans s5,Int.le_trans (Int.ofNat_le.2 m5) l5,u0,u1⟩,k1⟩
   ·rw[av];exact⟨⟨c2,cK,key,n0,t0.trans s0,Int.le_trans (Int.ofNat_le.2 m0) l0,t1.trans s1,Int.le_trans (Int.ofNat_le.2 m1) l1,t2.trans s2,Int.le_trans (Int.ofNat_le.2 m2) l2,t3.trans s3,Int.le_trans (Int.ofNat_le.2 m3) l3,t4.trans s4,Int.le_trans (Int.ofNat_le.2 m4) l4,t5.trans s5,Int.le_trans (Int.ofNat_le.2 m5) l5,u0,u1⟩,k1⟩
  ·with_reducible refine ay (aKF N h1 hN B hB (q+40*d.1.2.2.2) ?_ _ ⟨?_,?_,?_,s0,l0,s1,l1,s2,l2,s3,l3,s4,l4,s5,l5,p0,p1⟩) λx _ hx=> ?_
   ·omega
   ·show(0:Int)<=0
    omega
   ·show(0:Int)<=40
    omega
   ·show((d.2.1.2.2.2.2.1.2:Nat):Int)<=q+40*d.1.2.2.2+0
    omega
   have stp:∀a:Nat,((a:Nat):Int)<=q+40*d.1.2.2.2+40->((a:Nat):Int)<=q+40*(d.1.2.2.2+1):=λa ha=>by omega
   rw[oE]
   refine⟨λa ha=> ?_,λa ha=> ?_⟩
   ·rw[ha] at hx;obtain⟨wa,wi,e4,t0,m0,t1,m1,t2,m2,t3,m3,t4,m4,t5,m5,u0,u1⟩:=hx
    have wi:a.1.2.2.2.1=d.1.2.2.2:=wi
    have wa:a.1.1=d.1.1:=wa
    rw[av]
    rw[wi,hw]
    exact⟨⟨c2,cK,stp _ e4,by rw[wa];exact n0,t0,m0,t1,m1,t2,m2,t3,m3,t4,m4,t5,m5,u0,u1⟩,k1⟩
   rw[oE]
   refine⟨λb hb=> ?_,λb hb=> ?_⟩
   ·rw[ha,hb] at hx;obtain⟨wa,wi,e4,t0,m0,t1,m1,t2,m2,t3,m3,t4,m4,t5,m5,u0,u1⟩:=hx
    have wi:b.1.2.2.2.1=d.1.2.2.2:=wi
    have wa:b.1.1=d.1.1:=wa
    rw[av]
    rw[wi,hw]
    exact⟨⟨c2,cK,stp _ e4,by rw[wa];exact n0,t0,m0,t1,m1,t2,m2,t3,m3,t4,m4,t5,m5,u0,u1⟩,k1⟩
   ·rw[ha,hb] at hx;obtain⟨wa,wi,e4,t0,m0,t1,m1,t2,m2,t3,m3,t4,m4,t5,m5,u0,u1⟩:=hx
    have wi:b.1.2.2.2.1=d.1.2.2.2:=wi
    have wa:b.1.1=d.1.1:=wa
    rw[av]
    rw[wi,hw]
    exact⟨⟨c2,cK,stp _ e4,by rw[wa];exact n0,t0,m0,t1,m1,t2,m2,t3,m3,t4,m4,t5,m5,u0,u1⟩,k1⟩) 2000 d hd (by omega)
end Go.Proofs.YtcmfbkneahoonaaGreat
namespace Go.Proofs.YtcmfbkneahoonaaGreat
open Go.Ab Go.Ab.Pg
theorem aUT (N:Nat)(h1:1<=N)(hN:N<=1999)(B:Int)(hB:B<=64)(K:Nat)(hK:K<=30)(x:WO.B)(hq:x.2.1.2.2.2.2.1+40*K<=1998)(hn:x.1.1<=K∨30<=K)(s0:x.2.2.2.2.2.1.2.1=B)(l0:((x.2.2.2.2.2.1.2.2.1:Nat):Int)<=B)(s1:x.2.2.2.2.2.2.1.2.1=B)(l1:((x.2.2.2.2.2.2.1.2.2.1:Nat):Int)<=B)(s2:x.2.2.2.2.2.2.2.1.2.1=B)(l2:((x.2.2.2.2.2.2.2.1.2.2.1:Nat):Int)<=B)(s3:x.2.2.2.2.2.2.2.2.1.2.1=B)(l3:((x.2.2.2.2.2.2.2.2.1.2.2.1:Nat):Int)<=B)(s4:x.2.2.2.2.2.2.2.2.2.1.2.1=B)(l4:((x.2.2.2.2.2.2.2.2.2.1.2.2.1:Nat):Int)<=B)(s5:x.2.2.2.2.2.2.2.2.2.2.1.2.1=B)(l5:((x.2.2.2.2.2.2.2.2.2.2.1.2.2.1:Nat):Int)<=B)(p0:x.2.2.2.2.2.2.2.2.2.2.2.2.1.1<=(N:Int))(p1:x.2.2.2.2.2.2.2.2.2.2.2.2.1.2.2<=N):
  Ok (WQ x) (λe:ari=>((e.2.1.2.2.2.2.1.2:Nat):Int)<=x.2.1.2.2.2.2.1+40*K∧e.2.2.2.2.2.1.2.1=B∧((e.2.2.2.2.2.1.2.2.1:Nat):Int)<=B∧e.2.2.2.2.2.2.1.2.1=B∧((e.2.2.2.2.2.2.1.2.2.1:Nat):Int)<=B∧e.2.2.2.2.2.2.2.1.2.1=B∧((e.2.2.2.2.2.2.2.1.2.2.1:Nat):Int)<=B∧e.2.2.2.2.2.2.2.2.1.2.1=B∧((e.2.2.2.2.2.2.2.2.1.2.2.1:Nat):Int)<=B∧e.2.2.2.2.2.2.2.2.2.1.2.1=B∧((e.2.2.2.2.2.2.2.2.2.1.2.2.1:Nat):Int)<=B∧e.2.2.2.2.2.2.2.2.2.2.1.2.1=B∧((e.2.2.2.2.2.2.2.2.2.2.1.2.2.1:Nat):Int)<=B∧e.2.2.2.2.2.2.2.2.2.2.2.2.1.1<=(N:Int)∧e.2.2.2.2.2.2.2.2.2.2.2.2.1.2.2<=N):=by
 unfold WQ ark
 try dsimp only
 show PQ _ _
 simp only[aM,aC]
 rw[bz]
 intro d _
 try rw[aC]
 with_reducible refine ay (aNw N h1 hN B hB x.2.1.2.2.2.2.1 K hK hq _ ⟨?_,?_,?_,hn,s0,l0,s1,l1,s2,l2,s3,l3,s4,l4,s5,l5,p0,p1⟩) λy _ hy=> ?_
 ·show(0:Int)<=0
  omega
 ·show(0:Int)<=K
  omega
 ·show((x.2.1.2.2.2.2.1:Nat):Int)<=x.2.1.2.2.2.2.1+40*0
  omega
 rw[oE]
 refine⟨λa ha=> ?_,λa ha=> ?_⟩
 ·rw[ha] at hy;rw[av];exact hy
 rw[oE]
 refine⟨λb hb=> ?_,λb hb=> ?_⟩
 ·rw[ha,hb] at hy;rw[av];exact hy
 ·rw[ha,hb] at hy;rw[av];exact hy
instance aKR (x:rR.B):bo (rS x):=⟨⟨_,rfl⟩⟩
theorem aDr (x:uF.B)(h:x.2.2.2.2.2.2.2.2.2.2.2.1.2.2<=1999):Ok (mC x) (λr:Iu=>r.1=r.2.1∧r.1<=1999):=by
 unfold mC Iw
 try dsimp only
 show PQ _ _
 rw[aM,aC]
 refine ay (R:=λr=>r.1=r.2.1∧r.1<=1999) ?_ λd _ hd=>by rw[av];exact hd
 unfold rp za
 show PQ _ _
 try dsimp only
 rw[bC]
 refine⟨by rw[bL];omega,?_⟩
 rw[av]
 try dsimp only
 omega
end Go.Proofs.YtcmfbkneahoonaaGreat
