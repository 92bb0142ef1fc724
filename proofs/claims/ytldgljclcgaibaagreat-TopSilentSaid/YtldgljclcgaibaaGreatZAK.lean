/-
  Parts of the proof: N1 N2 TLa TLb TN TO TP TQ TR8 TS8 TPut TNh TNd TT TV TW TX TY TZ TNw TSp TDn TIm TSm TRn TWa TRu
-/
import Derived.Test.YtldgljclcgaibaaGreatZAE
import Derived.Test.YtldgljclcgaibaaGreatZAI
import Derived.Test.YtldgljclcgaibaaGreatZAJ
import Derived.Test.YtldgljclcgaibaaGreatZAL
open Nat renaming beq→ww,ble→wd
open Int renaming toNat→ws,ofNat→wl,tdiv→t7
open Sum renaming inl→wr,inr→wn,elim→t8
set_option linter.all false
set_option maxRecDepth 100000
set_option maxHeartbeats 4000000
noncomputable section
namespace Go.Proofs.YtldgljclcgaibaaGreat
open Go.Ab Go.Ab.Pg Go.Ab.Rq
def awm:=qa (pl zq nil)
def acY:=qe (res (pl (aa (c gi (c gi (cu aL (cu aL (cu aL (cu aL (cu aL nx)))))))) (pu nil nil)))
abbrev awn:=acY.B
abbrev aht:=Int->Int->Option awn
def ahu (g:aht):Ct:=(39,FC awm (lf acY) (λb=>g b.1 b.2))
def awo (M7:an3)(aax:aBc)(x0:Int)(x1:Int):Pg awn:=opt (M7 x1 false) λd=>opt (aax 10529810258 d.1 d.2) λd=>ret (x0,x1,wI (0-d.1))
def M8:=λx0 x1=>(awo YD an6 x0 x1).val
theorem aKS:∀M7 aax,D0 [an4 M7,aBd aax] 39 awm (lf acY) λb=>awo M7 aax b.1 b.2:=λ_ _ b=>by kernel_rfl
theorem awp [ax]:SC (ahu M8):=s0 (.c aFK (.c aOc (.nil _))) (aKS YD an6)
def KL:=qa (pl (cl (aa xq) nil) nil)
def ajy:=qe (res (pu (ac aCW) (pu nil nil)))
def aCj:=qe (res (pu th (pu nil (cu (cu (gp 1 434) aVS) (c (c gi (c gi (c gi (c gi (c gi (c gi (c gi (c gi (c gi (c gi (c gi (c gi (c gi (c gi (c gi (c gi (c iC (c iC (c gi (c gi (c gi (c gi (c gi (c gi (c gi (c gi (c gb (c iC (c aIT (cl iC (cu (gp 2 5) (cu (gp 3 10) (cu (gc (iW (pu rq6 (pu vT (pu KS (pu Gg jx)))))) (cu aRJ (cu aMi (cu aMj (cu aMk (cu aMl (cu (gp 10 8) (cu (gp 11 37) (cu aL (cu aL (cu IK (cu IK (cu (gp 12 3) (cu IK (cu aL (cu aL (cu aL (cu aL (cu IK (cu IK (cu IK (cu aL (cu aL (cu aL (cu arT (cu aL (cu aL (cu aL (cu aL (cu aL (cu aL (cu aL (cu aL (cu aL (cu (gc (iW (pu aL8 (pu vT (pu KS (pu (nat 10) jx)))))) nil))))))))))))))))))))))))))))))))))))))))))))))))))))))))))))))))))) (c ln (c aQd (c aVW (c aWq (c aWr (c aWs (c aWt (c aWu (c (cu aL (cu aL (cu aL (cu aL (cu aL (cl gi (cu (gc (iW (pu aHv (pu vT (pu KS (pu gZ jx)))))) akb))))))) (c aJn (c (c gi (cl gi (cu (gc (iW (pu aHu (pu vT (pu KS (pu Bg jx)))))) nil))) aWA))))))))))))))))
abbrev RL:=ajy.B⊕aZU
def aBf:RL->T:=ls (lf ajy) (λd=>lf aCj (d.1,d.2.1,d.b.1,(d.b.2.1,d.b.2.1,d.b.2.1,d.b.2.1,d.b.2.1,d.b.2.1,d.b.2.1,d.b.2.1),d.c.1,d.c.2.1,d.c.b.1,d.c.b.2.1,d.d.1,d.d.2.1,d.d.b.1,d.d.b.2.1,(d.b.2.1,d.b.2.1,d.b.2.1,d.b.2.1,d.b.2.1,d.b.2.1,d.b.2.1,d.b.2.1,d.b.2.1,d.b.2.1),(d.d.c.1,d.d.c.1,d.d.c.1,d.d.c.1,d.d.c.1,d.d.c.1,d.d.c.1,d.d.c.1,d.d.c.1),(d.d.c.2.1,d.d.c.2.1,d.d.c.2.1,d.d.c.2.1,d.d.c.2.1,d.d.c.2.1,d.d.c.2.1,d.d.c.2.1,d.d.c.2.1),(d.d.c.b.1,d.d.c.b.1,d.d.c.b.1,d.d.c.b.1,d.d.c.b.1,d.d.c.b.1,d.d.c.b.1,d.d.c.b.1,d.d.c.b.1),(d.d.c.b.2.1,d.d.c.b.2.1,d.d.c.b.2.1,d.d.c.b.2.1,d.d.c.b.2.1,d.d.c.b.2.1,d.d.c.b.2.1,d.d.c.b.2.1,d.d.c.b.2.1),(d.e.1,d.e.1,d.e.1,d.e.1,d.e.1,d.e.1,d.e.1,d.e.1,d.e.1),(d.e.2.1,d.e.2.1,d.e.2.1,d.e.2.1,d.e.2.1,d.e.2.1,d.e.2.1,d.e.2.1,d.e.2.1),d.e.b,d.e.b,d.e.b,d.e.b,d.e.b,d.e.b,d.e.b,d.e.b,d.e.b,d.e.b,d.e.b))
abbrev an7:=KL.B->Option RL
def aBg (g:an7):Ct:=(12,FC KL aBf g)
def aay (ahv:aFw)(x:KL.B):Pg RL:=opt (ahv x) λd=>ae (match d with|wr val=>true|wn val=>false) (opt (match d with|wr a=>some a|wn val=>none) λd=>ret (wr ())) (opt (match d with|wn b=>some b|wr val=>none) λd=>ret (wn d))
def FE:=λx=>(aay zZ x).val
theorem aOd:∀ahv,D0 [atq ahv] 12 KL aBf λb=>aay ahv b:=λ_ b=>by kernel_rfl
theorem aOe [ax]:SC (aBg FE):=s0 (.c aFz (.nil _)) (aOd zZ)
def fO:=qa (pu (cu th nil) (c awR (cd ar5 λb1=>(c mZ (c od (c (cl (gs b1.c.1 oX) nil) (cd qB λb5=>(cd qC λb6=>(cd qD λb7=>(cd qE λb8=>(cd qF λb9=>(cd aC3 λb10=>(c ny (cd aCT λb12=>(c (cl (gs b1.e mL) nil) (c (cl (gs b5.b.1 aA) nil) (c (cl (gs b6.b.1 aA) nil) (c (cl (gs b7.b.1 aA) nil) (c (cl (gs b8.b.1 aA) nil) (c (cl (gs b9.b.1 aA) nil) (c (cl (gs b10.b.1 aA) nil) (cl (cl (gs b12.b jF) nil) nil))))))))))))))))))))))
def apa:=qe (res (pu Qs (pr (c (zp awR) (cl (zp aQg) aC7)) aWE)))
abbrev kh:=((apx×Es×Bool×NI×(NI×NI)×(Nat×Nat)×qj×Bool×Int×lu×Bool×Bool×Bool×Int×Int×Int×Dx×Nat)×(lu×Int×Int)×KR×Qr×bK×bK×bK×bK×bK×bK×KN×tf×Eo×dg×dg×dg×dg×dg×dg×Nat×NI×NI×NI×NI×NI×NI×NI×NI×NI×NI×NI)
def YG:kh->T:=λd=>lf apa (d.1,d.2.1,d.b.1,d.b.2.1,d.c.1,d.c.2.1,d.c.b.1,d.c.b.2.1,d.d.1,d.d.2.1,d.d.b.1,d.d.b.2.1,d.d.c.1,(d.c.1.b.1,d.d.c.2.1),(d.c.2.1.b.1,d.d.c.b.1),(d.c.b.1.b.1,d.d.c.b.2.1),(d.c.b.2.1.b.1,d.e.1),(d.d.1.b.1,d.e.2.1),(d.d.2.1.b.1,d.e.b.1),d.e.b.2)
abbrev wY:=fO.B->Option kh
def J3 (g:wY):Ct:=(15,FC fO YG g)
def iV:=qs (st (pr (cu th (us 1 (cl ai (us 34 nil)))) (pl (c (so awR) (c (so aQg) (cu nO (cu nO (cu nO (cu nO (cu nO (cu nO (cu nO (cu nO (cu nO (cu nO (cu nO (cu nO (cu nO (cu nO (cu nO (cu nO (cu nO (cu nO (cu nO (c pX (c pY (c rV (cd (so aC9) λb24=>(cd aDa λb25=>(cd aaJ λb26=>(cd aaK λb27=>(cd aaL λb28=>(cd ae6 λb29=>(c oY (c (so aP5) (c uj (c (so (cl (gs b24.b.1 aA) nil)) (c (so (cl (gs b25.b.1 aA) nil)) (c (so (cl (gs b26.b.1 aA) nil)) (c (so (cl (gs b27.b.1 aA) nil)) (c (so (cl (gs b28.b.1 aA) nil)) (c (so (cl (gs b29.b.1 aA) nil)) GD))))))))))))))))))))))))))))))))))))))) ae7)))
def an8:=qs (st (pr (cu th (us 1 (c ai (us 25 aWj)))) (pl (c (so awR) (c (so aQg) (cu nO (cu nO (cu nO (cu nO (cu nO (cu nO (cu nO (cu nO (cu nO (cu nO (cu nO (cu nO (cu nO (cu nO (cu nO (cu nO (cu nO (cu nO (cu nO (c pX (c pY (c rV (c (so aC9) (c aDa (c aaJ (c aaK (c aaL (c ae6 (c oY (c (so aP5) IV)))))))))))))))))))))))))))))))) ae7)))
abbrev sY:=(lu×(Int×Bool)×(Es×Bool×NI×(NI×NI)×(Nat×Nat)×qj×Bool×Int×lu×Bool×Bool×Bool×Int×Int×Int×Dx×Nat)×(lu×Int×Int)×KR×Qr×bK×bK×bK×bK×bK×bK×KN×tf×Eo×dg×dg×dg×dg×dg×dg×Nat×NI×NI×NI×NI×NI×NI×NI×NI×NI×NI×NI)
def RM {ρ:Type}(x:sY)(K:AX->St->Option ρ):Option ρ:=(λd=>K .nrm (an8.em ((d.1.1,d.1.2.1,d.1.1,d.1.b),(d.2.1.1,d.1.b,d.2.1.2),d.b.1,d.b.2.1,d.c.1,d.c.2.1,d.c.b.1,d.c.b.2.1,d.d.1,d.d.2.1,d.d.b.1,d.d.b.2.1,d.d.c.1,d.d.c.2.1,d.d.c.b.1,(d.c.b.1.b.1,d.d.c.b.2.1),(d.c.b.2.1.b.1,d.e.1),(d.d.1.b.1,d.e.2.1),(d.d.2.1.b.1,d.e.b.1),(d.d.b.1.b.1,d.e.b.2.1),(d.d.b.2.1.b.1,d.e.c.1),d.e.c.2))) x
def RN (d:iV.B):Pg sY:=ret ((d.1,d.2.1.2.1,wI (d.2.1.2.1+d.1)),(d.2.1.1,d.2.1.2.2),d.2.2)
def iy (d:iV.B):Option sY:=(RN d).val
def RO:Hd:=⟨3,(1::rg 3 34 []),[(0,[])]⟩
def re (aKT:aht)(M9:zj)(eB:LT iV sY)(x:fO.B):Pg kh:=let n7:=x.2.2.2.2.2;let n3:=x.2.1.2.2.2.2;let n6:=n3.2.2.2.2.2.2.2.2.2.2.2.2;let n1:=n7.2;let n4:=n1.2.2.2;let y0:=wI (x.1.1+8000);opt (aKT y0 8000) λd=>ae (ww n3.1 n3.1) (ae (ww n6 n6) (ae (ww n7.1.2.2.1 n7.1.2.2.1) (ae (ww n1.1.2.2.1 n1.1.2.2.1) (ae (ww n1.2.1.2.2.1 n1.2.1.2.2.1) (ae (ww n1.2.2.1.2.2.1 n1.2.2.1.2.2.1) (ae (ww n4.1.2.2.1 n4.1.2.2.1) (ae (ww n4.2.1.2.2.1 n4.2.1.2.2.1) (ae (ww n4.2.2.2.1.2.2 n4.2.2.2.1.2.2) (opt (M9 ((d.1,d.2.1,(0,0,0),0,0,d.2.2),x.2)) λd=>let n2:=d.2.2.2.2.2;let n5:=n2.2.2.2;let ub:=ww n2.1.2.2.1 n2.1.2.2.1;let y1:=ww n2.2.1.2.2.1 n2.2.1.2.2.1;let y2:=ww n2.2.2.1.2.2.1 n2.2.2.1.2.2.1;let y3:=ww n5.1.2.2.1 n5.1.2.2.1;let y4:=ww n5.2.1.2.2.1 n5.2.1.2.2.1;let y5:=ww n5.2.2.1.2.2.1 n5.2.2.1.2.2.1;ae (d.1.2==0) (ae ub (ae y1 (ae y2 (ae y3 (ae y4 (ae y5 (opt (eB (d.1.1,(y0,x.1.2),d.2)) λd=>ret (((d.2.1.1,d.1.2.2,d.2.1.2),d.2.2.1),d.2.2.2)) no) no) no) no) no) no) (ae ub (ae y1 (ae y2 (ae y3 (ae y4 (ae y5 (opt (eB (d.1.1,x.1,d.2)) λd=>ret (((d.2.1.1,d.1.2.2,d.2.1.2),d.2.2.1),d.2.2.2)) no) no) no) no) no) no)) no) no) no) no) no) no) no) no) no
def cX:=λx=>(re M8 bQ iy x).val
abbrev Cz:=aht×zj×(LT iV sY)
def J4 (p:Cz):KK:=⟨[ahu p.1,zk p.2.1],⟨[],[],(rg 0 21 []),[⟨RO,fY 3 21 iV RM p.b⟩],(some ⟨0,(rg 0 37 []),[(3,[]),(4,[]),(5,[]),(6,[]),(7,[]),(8,[]),(9,[]),(10,[]),(11,[]),(12,[]),(13,[]),(14,[]),(15,[]),(16,[]),(17,[]),(18,[]),(19,[]),(20,[]),(21,[]),(22,[]),(0,[])]⟩)⟩,21,15⟩
theorem ajU (p:Cz):JI (J4 p) 3 iV RM (RN):=λ_ d K=>by kernel_rfl
theorem atB (p:Cz):D2 (J4 p) fO YG λb=>re p.1 p.2.1 p.b b:=λb=>by kernel_rfl
abbrev J5:Cz:=(M8,bQ,iy)
theorem YH [ax]:SC (J3 cX):=sc (kS (k:=J4 J5) (.c awp (.c M0 (.nil _))) [] [3] trivial ⟨kJ RO (ajU J5),trivial⟩ (atB J5))
def lO:=qa (pr (cu th (cl (aa (c gi (c gi (c gi (a 8 aC0 aJi))))) nil)) (c awR (cd ar5 λb1=>(c mZ (c od (c (cl (gs b1.c.1 oX) nil) (cd qB λb5=>(cd qC λb6=>(cd qD λb7=>(cd qE λb8=>(cd qF λb9=>(cd aC3 λb10=>(c ny (cd aCT λb12=>(c (cl (gs b1.e mL) nil) (c (cl (gs b5.b.1 aA) nil) (c (cl (gs b6.b.1 aA) nil) (c (cl (gs b7.b.1 aA) nil) (c (cl (gs b8.b.1 aA) nil) (c (cl (gs b9.b.1 aA) nil) (c (cl (gs b10.b.1 aA) nil) (cl (cl (gs b12.b jF) nil) nil))))))))))))))))))))))
def ajV:=qe (res (pu Qs (pr (c (zp awR) (cl (zp (a 26 xq (c gb (c iC (a 2 zw (cu (gp 21 5) (cu (gp 22 10) (c (gc (iW (pu (nat 23) (pu (ox (pu eN (pu eN Gg))) (pl lV (pu Gg jx)))))) aWx)))))))) aC7)) aWE)))
def ajW:=qe (res (pu Qs (pr (cl (zp aPz) (cu Un aC7)) (c aQh (c mZ (c od (c aJl (c aJr (c aJs (c aJt (c aJu (c aQa (c aWg (c ny (c aP6 aJx)))))))))))))))
abbrev tD:=((apx×Es×Bool×NI×(NI×NI)×Nat×qj×Bool×Int×lu×Bool×Bool×Bool×Int×Int×Int×Dx×Nat)×(lu×Int×Int)×KR×aUx×bK×bK×bK×bK×bK×bK×KN×tf×aL6×Ah×Ah×Ah×Ah×Ah×Ah×NI×NI×NI×NI×NI×NI×NI×NI×NI×NI×NI)⊕(apx×(Es×Bool×NI×(NI×NI)×(Nat×Nat)×qj×Bool×Int×lu×Bool×Bool×Bool×Int×Int×Int×Dx×Nat)×(lu×Int×Int)×KR×Qr×bK×bK×bK×bK×bK×bK×KN×tf×Eo×dg×dg×dg×dg×dg×dg×Nat×NI×NI×NI×NI×NI×NI×NI×NI×NI×NI×NI)
def aaz:tD->T:=ls (λd=>lf ajV (d.1,d.2.1,d.b.1,(d.1.c.2.1,d.b.2.1),d.c.1,d.c.2.1,d.c.b.1,d.c.b.2.1,d.d.1,d.d.2.1,d.d.b.1,d.d.b.2.1,(d.1.e.2,d.d.c.1),d.d.c.2.1,d.d.c.b.1,d.d.c.b.2.1,d.e.1,d.e.2.1,d.e.b.1,d.d.b.2.1.b,d.e.b.2)) (λd=>lf ajW (d.1,d.2.1,d.b.1,d.b.2.1,d.c.1,d.c.2.1,d.c.b.1,d.c.b.2.1,d.d.1,d.d.2.1,d.d.b.1,d.d.b.2.1,d.d.c.1,d.d.c.2.1,(d.c.2.1.b.1,d.d.c.b.1),(d.c.b.1.b.1,d.d.c.b.2.1),(d.c.b.2.1.b.1,d.e.1),(d.d.1.b.1,d.e.2.1),(d.d.2.1.b.1,d.e.b.1),(d.d.b.1.b.1,d.e.b.2.1),d.e.c))
abbrev M':=lO.B->Option tD
def aaA (g:M'):Ct:=(14,FC lO aaz g)
def ey:=qs (st (pr (cu th (us 2 (cu aMn (xs 1 (us 1 (c ai (us 1 (cl ai (us 71 nil))))))))) (pl (c aCU (cu nO (cu nO (cu nO (cu nO (cu nO (cu nO (cu nO (cu nO (cu nO (cu nO (cu nO (cu nO (cu nO (cu nO (cu nO (cu nO (cu nO (cu nO (cu nO (cu nO (c aC8 (c aDe (c pX (c pY (c rV (cd aaJ λb26=>(cd aaK λb27=>(cd aaL λb28=>(cd ae6 λb29=>(cd ar4 λb30=>(cd aDb λb31=>(c oY (c aC6 (c uj (c (so (cl (gs b26.b.1 aA) nil)) (c (so (cl (gs b27.b.1 aA) nil)) (c (so (cl (gs b28.b.1 aA) nil)) (c (so (cl (gs b29.b.1 aA) nil)) (c (so (cl (gs b30.b.1 aA) nil)) (c (so (cl (gs b31.b.1 aA) nil)) GD))))))))))))))))))))))))))))))))))))))))) ae7)))
def ahw:=qs (st (pr (cu th (us 2 (cu aMn (xs 1 (us 1 (c ai (us 1 (c ai (c ai (cu aJd (c ai (c ab (cu Gz (c ai (c ab (c ab (cu Gz (cu th (cu th (cu aJb (c ai (c ab (c ab (cu Gz (cu th (cu th (cu aJc (c ai (c ab (cl ab aUA)))))))))))))))))))))))))))))) (pl (c aCU (cu nO (cu nO (cu nO (cu nO (cu nO (cu nO (cu nO (cu nO (cu nO (cu nO (cu nO (cu nO (cu nO (cu nO (cu nO (cu nO (cu nO (cu nO (cu nO (cu nO (c aC8 (c aDe (c pX (c pY (c rV (c aaJ (c aaK (c aaL (c ae6 (c ar4 (c aDb (c oY (c aC6 IV)))))))))))))))))))))))))))))))))) ae7)))
def ahx:=qs (st (pr (cu th (us 2 (cu aMn (xs 1 (us 1 (c ai (us 1 (c ai (c ai (cu aJd (c ai (c ab (cu Gz (c ai (c ab (c ab (cu Gz (cu th (cu th (cu aJb (c ai (c ab (cl ab aVM))))))))))))))))))))))) (pl (c aCU (cu nO (cu nO (cu nO (cu nO (cu nO (cu nO (cu nO (cu nO (cu nO (cu nO (cu nO (cu nO (cu nO (cu nO (cu nO (cu nO (cu nO (cu nO (cu nO (cu nO (c aC8 (c aDe (c pX (c pY (c rV (c aaJ (c aaK (c aaL (c ae6 (c ar4 (c aDb (c oY (c aC6 IV)))))))))))))))))))))))))))))))))) ae7)))
def ahy:=qs (st (pr (cu th (us 2 (cu aMn (xs 1 (us 1 (c ai (us 1 (c ai (c ai (cu aJd (c ai (c ab (cu Gz (c ai (c ab (cl ab aV8)))))))))))))))) (pl (c aCU (cu nO (cu nO (cu nO (cu nO (cu nO (cu nO (cu nO (cu nO (cu nO (cu nO (cu nO (cu nO (cu nO (cu nO (cu nO (cu nO (cu nO (cu nO (cu nO (cu nO (c aC8 (c aDe (c pX (c pY (c rV (c aaJ (c aaK (c aaL (c ae6 (c ar4 (c aDb (c oY (c aC6 IV)))))))))))))))))))))))))))))))))) ae7)))
def ahz:=qs (st (pr (cu th (us 2 (cu aMn (xs 1 (us 1 (c ai (us 1 (c ai (c ai (cu aJd (c ai (cl ab (cu mJ (xs 2 (cu mJ aV8))))))))))))))) (pl (c aCU (cu nO (cu nO (cu nO (cu nO (cu nO (cu nO (cu nO (cu nO (cu nO (cu nO (cu nO (cu nO (cu nO (cu nO (cu nO (cu nO (cu nO (cu nO (cu nO (cu nO (c aC8 (c aDe (c pX (c pY (c rV (c aaJ (c aaK (c aaL (c ae6 (c ar4 (c aDb (c oY (c aC6 IV)))))))))))))))))))))))))))))))))) ae7)))
abbrev m9:=((Int×Int×Int×Bool×Bool×Int×Bool×Int×Bool)×Bool×aRB×(Es×Bool×NI×(NI×NI)×(Nat×Nat)×qj×Bool×Int×lu×Bool×Bool×Bool×Int×Int×Int×Dx×Nat)×(lu×Int×Int)×KR×Qr×bK×bK×bK×bK×bK×bK×KN×tf×Eo×dg×dg×dg×dg×dg×dg×Nat×NI×NI×NI×NI×NI×NI×NI×NI×NI×NI×NI)⊕(((Int×Int×Int×Bool×Bool×Int×Bool)×(Int×Bool)×aRB×(Es×Bool×NI×(NI×NI)×(Nat×Nat)×qj×Bool×Int×lu×Bool×Bool×Bool×Int×Int×Int×Dx×Nat)×(lu×Int×Int)×KR×Qr×bK×bK×bK×bK×bK×bK×KN×tf×Eo×dg×dg×dg×dg×dg×dg×Nat×NI×NI×NI×NI×NI×NI×NI×NI×NI×NI×NI)⊕(((Int×Int×Int×Bool×Bool)×apx×aRB×(Es×Bool×NI×(NI×NI)×(Nat×Nat)×qj×Bool×Int×lu×Bool×Bool×Bool×Int×Int×Int×Dx×Nat)×(lu×Int×Int)×KR×Qr×bK×bK×bK×bK×bK×bK×KN×tf×Eo×dg×dg×dg×dg×dg×dg×Nat×NI×NI×NI×NI×NI×NI×NI×NI×NI×NI×NI)⊕(aRF×apx×aRB×(Es×Bool×NI×(NI×NI)×(Nat×Nat)×qj×Bool×Int×lu×Bool×Bool×Bool×Int×Int×Int×Dx×Nat)×(lu×Int×Int)×KR×Qr×bK×bK×bK×bK×bK×bK×KN×tf×Eo×dg×dg×dg×dg×dg×dg×Nat×NI×NI×NI×NI×NI×NI×NI×NI×NI×NI×NI)))
def Uj {ρ:Type}(x:m9)(K:AX->St->Option ρ):Option ρ:=(t8 (λd=>K (.ex 1) (ahw.em ((d.1.1,d.1.2.1,d.1.1,d.1.b.1,d.1.b.2.1,d.1.1,d.1.c.1,d.1.c.1,d.1.c.2.1,d.1.c.b.1,d.1.c.b.1,d.1.c.b.2.1,d.1.d,d.1.d),(d.1.c.2.1,d.1.c.b.2.1,d.2.1),(d.b.1.1,d.b.1.2.1,d.1.b.1,d.b.1.b),d.b.2.1,d.c.1,d.c.2.1,d.c.b.1,d.c.b.2.1,d.d.1,d.d.2.1,d.d.b.1,d.d.b.2.1,d.d.c.1,d.d.c.2.1,d.d.c.b.1,d.d.c.b.2.1,(d.c.b.2.1.b.1,d.e.1),(d.d.1.b.1,d.e.2.1),(d.d.2.1.b.1,d.e.b.1),(d.d.b.1.b.1,d.e.b.2.1),(d.d.b.2.1.b.1,d.e.c.1),(d.d.c.1.b.1,d.e.c.2.1),d.e.c.b))) (t8 (λd=>K (.ex 1) (ahx.em ((d.1.1,d.1.2.1,d.1.1,d.1.b.1,d.1.b.2.1,d.1.1,d.1.c.1,d.1.c.1,d.1.c.2.1,d.1.c.b,d.1.c.b),(d.1.c.2.1,d.2.1),(d.b.1.1,d.b.1.2.1,d.1.b.1,d.b.1.b),d.b.2.1,d.c.1,d.c.2.1,d.c.b.1,d.c.b.2.1,d.d.1,d.d.2.1,d.d.b.1,d.d.b.2.1,d.d.c.1,d.d.c.2.1,d.d.c.b.1,d.d.c.b.2.1,(d.c.b.2.1.b.1,d.e.1),(d.d.1.b.1,d.e.2.1),(d.d.2.1.b.1,d.e.b.1),(d.d.b.1.b.1,d.e.b.2.1),(d.d.b.2.1.b.1,d.e.c.1),(d.d.c.1.b.1,d.e.c.2.1),d.e.c.b))) (t8 (λd=>K (.ex 1) (ahy.em ((d.1.1,d.1.2.1,d.1.1,d.1.b.1,d.1.b.2.1,d.1.1,d.1.c,d.1.c),d.2.1,(d.b.1.1,d.b.1.2.1,d.1.b.1,d.b.1.b),d.b.2.1,d.c.1,d.c.2.1,d.c.b.1,d.c.b.2.1,d.d.1,d.d.2.1,d.d.b.1,d.d.b.2.1,d.d.c.1,d.d.c.2.1,d.d.c.b.1,d.d.c.b.2.1,(d.c.b.2.1.b.1,d.e.1),(d.d.1.b.1,d.e.2.1),(d.d.2.1.b.1,d.e.b.1),(d.d.b.1.b.1,d.e.b.2.1),(d.d.b.2.1.b.1,d.e.c.1),(d.d.c.1.b.1,d.e.c.2.1),d.e.c.b))) (λd=>K (.ex 1) (ahz.em ((d.1.1,d.1.2.1,d.1.1,d.1.b),d.2.1,(d.b.1.1,d.b.1.2.1,d.1.b.1,d.b.1.b),d.b.2.1,d.c.1,d.c.2.1,d.c.b.1,d.c.b.2.1,d.d.1,d.d.2.1,d.d.b.1,d.d.b.2.1,d.d.c.1,d.d.c.2.1,d.d.c.b.1,d.d.c.b.2.1,(d.c.b.2.1.b.1,d.e.1),(d.d.1.b.1,d.e.2.1),(d.d.2.1.b.1,d.e.b.1),(d.d.b.1.b.1,d.e.b.2.1),(d.d.b.2.1.b.1,d.e.c.1),(d.d.c.1.b.1,d.e.c.2.1),d.e.c.b)))))) x
def Aq (J6:wY)(d:ey.B):PL ey m9:=let n15:=d.1.2;let bI:=d.2.2.1;let bp:=d.1.1;let aT:=d.2.1;let n8:=bI.2.2;let n4:=d.2.2.2;let n7:=n4.1.2.2.2.2;let bq:=n7.2.2.2.2.2.2.2.2.2.2.2.2;let n6:=n4.2.2.2.2;let n2:=n6.2.2.2;let n16:=n2.2.2;let n5:=n16.2.2;let bf:=n5.2.2.2.2;let n3:=bf.2.2.2.2.2;let n9:=n3.2.2.2.2.2;let n1:=(bI.1,bI.2.1,n8.2);let y0:=decide (bp<40);let y1:=decide (aT.1<562949953421312);let y2:=decide (aT.2.1<60);let y3:=decide (bp<n8.1);ae y3 (ae y0 (ae y1 (ae y2 (ae (ww n7.1.2 n7.1.2) (ae (ww bq bq) (ae (ww n6.1.2.2.1 n6.1.2.2.1) (ae (ww n6.2.1.2.2.1 n6.2.1.2.2.1) (ae (ww n6.2.2.1.2.2.1 n6.2.2.1.2.2.1) (ae (ww n2.1.2.2.1 n2.1.2.2.1) (ae (ww n2.2.1.2.2.1 n2.2.1.2.2.1) (ae (ww n16.1.2.2.1 n16.1.2.2.1) (ae (ww n5.1.2.2 n5.1.2.2) (opt (J6 (aT,(n4.1.1,n4.1.2.1,n4.1.2.2.1,n4.1.2.2.2.1,n7.1.2,n7.2),n4.2.1,n4.2.2.1,(sh8 n7.1.1 n4.2.2.2.1.2),n6.1,n6.2.1,n6.2.2.1,n2.1,n2.2.1,n16.1,n16.2.1,n5.1,(atQ 0 n5.2.1.2),(vo 0 n5.2.2.1),(vo 0 n5.2.2.2.1),(vo 0 bf.1),(vo 0 bf.2.1),(vo 0 bf.2.2.1),(vo 0 bf.2.2.2.1),λj=>n3.1 (0+j),λj=>n3.2.1 (0+j),λj=>n3.2.2.1 (0+j),λj=>n3.2.2.2.1 (0+j),λj=>n3.2.2.2.2.1 (0+j),λj=>n9.1 (0+j),λj=>n9.2.1 (0+j),λj=>n9.2.2.1 (0+j),λj=>n9.2.2.2.1 (0+j),λj=>n9.2.2.2.2.1 (0+j),λj=>n9.2.2.2.2.2 (0+j))) λaj=>ret (wr ((wI (bp+1),n15),aj.1.1,bI,aj.1.2,aj.2))) no) no) no) no) no) no) no) no) no) (ret (wn (wr ((bp,n15,n8.1,y3,y0,aT.1,y1,aT.2.1,y2),aT.2.2,n1,n4))))) (ret (wn (wn (wr ((bp,n15,n8.1,y3,y0,aT.1,y1),aT.2,n1,n4)))))) (ret (wn (wn (wn (wr ((bp,n15,n8.1,y3,y0),aT,n1,n4))))))) (ret (wn (wn (wn (wn ((bp,n15,n8.1,y3),aT,n1,n4))))))
def na:=bw (Aq cX) 2000
def jV:=qs (st (pr (cu th (us 3 aUJ)) (pl (c (so aPz) (cu nO (cu nO (cu nO (cu nO (cu nO (cu nO (cu nO (cu nO (cu nO (cu nO (cu nO (cu nO (cu nO (cu nO (cu nO (cu nO (cu nO (cu nO (cu nO (cu nO (c (so aQh) (c pX (c pY (c rV (cd aDa λb25=>(cd aaJ λb26=>(cd aaK λb27=>(cd aaL λb28=>(cd ae6 λb29=>(cd ar4 λb30=>(c oY (c (so aP6) (c uj (c (so (cl (gs b25.b.1 aA) nil)) (c (so (cl (gs b26.b.1 aA) nil)) (c (so (cl (gs b27.b.1 aA) nil)) (c (so (cl (gs b28.b.1 aA) nil)) (c (so (cl (gs b29.b.1 aA) nil)) (c (so (cl (gs b30.b.1 aA) nil)) GD)))))))))))))))))))))))))))))))))))))))) ae7)))
def apb:=qs (st (pr (cu th (us 3 (c ai (us 66 aWj)))) (pl (c (so aPz) (cu nO (cu nO (cu nO (cu nO (cu nO (cu nO (cu nO (cu nO (cu nO (cu nO (cu nO (cu nO (cu nO (cu nO (cu nO (cu nO (cu nO (cu nO (cu nO (cu nO (c (so aQh) (c pX (c pY (c rV (c aDa (c aaJ (c aaK (c aaL (c ae6 (c ar4 (c oY (c (so aP6) IV))))))))))))))))))))))))))))))))) ae7)))
abbrev uh:=(lu×(Int×Bool)×(Es×Bool×NI×(NI×NI)×(Nat×Nat)×qj×Bool×Int×lu×Bool×Bool×Bool×Int×Int×Int×Dx×Nat)×(lu×Int×Int)×KR×Qr×bK×bK×bK×bK×bK×bK×KN×tf×Eo×dg×dg×dg×dg×dg×dg×Nat×NI×NI×NI×NI×NI×NI×NI×NI×NI×NI×NI)
def Uk {ρ:Type}(x:uh)(K:AX->St->Option ρ):Option ρ:=(λd=>K .nrm (apb.em ((d.1.1,d.1.2.1,d.1.1,d.1.b),(d.2.1.1,d.1.b,d.2.1.2),d.b.1,d.b.2.1,d.c.1,d.c.2.1,d.c.b.1,d.c.b.2.1,d.d.1,d.d.2.1,d.d.b.1,d.d.b.2.1,d.d.c.1,d.d.c.2.1,d.d.c.b.1,(d.c.b.1.b.1,d.d.c.b.2.1),(d.c.b.2.1.b.1,d.e.1),(d.d.1.b.1,d.e.2.1),(d.d.2.1.b.1,d.e.b.1),(d.d.b.1.b.1,d.e.b.2.1),(d.d.b.2.1.b.1,d.e.c.1),d.e.c.2))) x
def Ul (d:jV.B):Pg uh:=ret ((d.1,d.2.1.2.1,wI (d.2.1.2.1+d.1)),(d.2.1.1,d.2.1.2.2),d.2.2)
def nc (d:jV.B):Option uh:=(Ul d).val
def Um:Hd:=⟨13,(1::2::3::rg 5 75 []),[(3,[]),(4,[]),(5,[]),(6,[]),(7,[]),(8,[]),(9,[]),(10,[]),(11,[]),(12,[]),(13,[]),(14,[]),(15,[]),(16,[]),(17,[]),(18,[]),(19,[]),(20,[]),(21,[]),(22,[]),(0,[])]⟩
def El (ahA:Cw)(M9:zj)(eB:LT ey m9)(qo:LT jV uh)(x:lO.B):Pg tD:=let bI:=x.2.1;let bp:=x.1.2;let n8:=x.2.2;let n6:=n8.2.2.2.2;let n5:=bp.2.2.1;let bq:=n5.2.2;let n4:=n8.1.2.2.2.2;let n7:=n4.2.2.2.2.2.2.2.2.2.2.2.2;let n1:=n6.2.2;let bf:=n1.2.2;let n2:=bf.2.2.2;let n9:=n2.2.2.2.2;let y0:=ww n4.1 n4.1;let y1:=ww n7 n7;let y2:=ww n6.1.2.2.1 n6.1.2.2.1;let y3:=ww n6.2.1.2.2.1 n6.2.1.2.2.1;let y4:=ww n1.1.2.2.1 n1.1.2.2.1;let y5:=ww n1.2.1.2.2.1 n1.2.1.2.2.1;let y6:=ww bf.1.2.2.1 bf.1.2.2.1;let y7:=ww bf.2.1.2.2.1 bf.2.1.2.2.1;let y8:=ww n2.1.2.2 n2.1.2.2;ae (x.1.1==1) (ae y0 (ae y1 (ae y2 (ae y3 (ae y4 (ae y5 (ae y6 (ae y7 (ae y8 (opt (ahA ((bp.1,bp.2.2.2),n8)) λd=>ret (wr ((bI,d.2.1),d.2.2))) no) no) no) no) no) no) no) no) no) (ae (x.1.1==0) (ae y0 (ae y1 (ae y2 (ae y3 (ae y4 (ae y5 (ae y6 (ae y7 (ae y8 (opt (M9 (n5,n8)) λd=>let n3:=d.2.2.2.2.2;let aT:=n3.2.2.2;let y0:=d.1.2==0;let y1:=ww n3.1.2.2.1 n3.1.2.2.1;let y2:=ww n3.2.1.2.2.1 n3.2.1.2.2.1;let y3:=ww n3.2.2.1.2.2.1 n3.2.2.1.2.2.1;let y4:=ww aT.1.2.2.1 aT.1.2.2.1;let y5:=ww aT.2.1.2.2.1 aT.2.1.2.2.1;let y6:=ww aT.2.2.1.2.2.1 aT.2.2.1.2.2.1;ae y0 (ae y1 (ae y2 (ae y3 (ae y4 (ae y5 (ae y6 (opt (qo (d.1.1,(n5.1,bI.2.1,y0),d.2)) λd=>ret (wn ((d.2.1.1,d.1.2.2,d.2.1.2),d.2.2))) no) no) no) no) no) no) (ae y1 (ae y2 (ae y3 (ae y4 (ae y5 (ae y6 (opt (qo (d.1.1,(bI.1,bI.2.1,y0),d.2)) λd=>ret (wn ((d.2.1.1,d.1.2.2,d.2.1.2),d.2.2))) no) no) no) no) no) no)) no) no) no) no) no) no) no) no) no) (ae y2 (ae y3 (ae y4 (ae y5 (ae y6 (ae y7 (opt (eB ((0,x.1.1),bI,(x.1.1,bp.1,bp.2.1,n5.1,n5.2.1,bq.1.1,bq.1.2.1,bq.1.2.2,bq.2.1,bq.2.2.1,bq.2.2.2,bp.2.2.2),(n8.1.1,n8.1.2.1,n8.1.2.2.1,n8.1.2.2.2.1,(0,n4.1),n4.2),n8.2.1,n8.2.2.1,(n4.1,n8.2.2.2.1),n6.1,n6.2.1,n1.1,n1.2.1,bf.1,bf.2.1,bf.2.2.1,n2.1,(n7,n2.2.1),n2.2.2.1,n2.2.2.2.1,n9.1,n9.2.1,n9.2.2.1,n9.2.2.2.1,n2.1.2.2,n9.2.2.2.2)) λx=>sum x (λd=>ret (wn ((d.1.2.2.2.2.2.1,d.1.2.2.2.2.2.2.2.1,d.2.1),d.2.2.2))) λx=>sum x (λd=>ret (wn ((d.1.2.2.2.2.2.1,d.2.1),d.2.2.2))) λx=>sum x (λd=>ret (wn (d.2.1,d.2.2.2))) λd=>ret (wn (d.2.1,d.2.2.2))) no) no) no) no) no) no))
def jE:=λx=>(El dF bQ na nc x).val
abbrev zn:=Cw×zj×wY×(LT ey m9)×(LT jV uh)
def Em (p:zn):KK:=⟨[M4 p.1,zk p.2.1,J3 p.b.1],⟨[⟨3,(1::2::5::7::rg 9 71 []),[(3,[]),(4,[]),(5,[]),(6,[]),(7,[]),(8,[]),(9,[]),(10,[]),(11,[]),(12,[]),(13,[]),(14,[]),(15,[]),(16,[]),(17,[]),(18,[]),(19,[]),(20,[]),(21,[]),(22,[]),(0,[])]⟩],[fY 3 21 ey Uj p.b.2.1],(rg 0 21 []),[⟨Um,fY 13 21 jV Uk p.c⟩],(some ⟨0,(rg 0 80 []),[(3,[]),(4,[]),(5,[]),(6,[]),(7,[]),(8,[]),(9,[]),(10,[]),(11,[]),(12,[]),(13,[]),(14,[]),(15,[]),(16,[]),(17,[]),(18,[]),(19,[]),(20,[]),(21,[]),(22,[]),(0,[])]⟩)⟩,21,14⟩
theorem an9 (p:zn):LI (Em p) 3 ey Uj (Aq p.b.1):=λ_ d c K=>by kernel_rfl
theorem aoa (p:zn):JI (Em p) 13 jV Uk (Ul):=λ_ d K=>by kernel_rfl
theorem awq (p:zn):D2 (Em p) lO aaz λb=>El p.1 p.2.1 p.b.2.1 p.c b:=λb=>by kernel_rfl
abbrev En:zn:=(dF,bQ,cX,na,nc)
theorem awr [ax]:SC (aaA jE):=sc (kS (k:=Em En) (.c ahs (.c M0 (.c YH (.nil _)))) [3] [13] ⟨kL (an9 En),trivial⟩ ⟨kJ Um (aoa En),trivial⟩ (awq En))
end Go.Proofs.YtldgljclcgaibaaGreat
namespace Go.Proofs.YtldgljclcgaibaaGreat
open Go.Ab Go.Ab.Pg
abbrev Bd (B x:Int):Prop:=0<=x/\x<=B
class Le (B:outParam Int) (x:Int):Prop where
 h:Bd B x
def Lb (B:Int)(r:Nat->Int):Prop:=∀k,Bd B (r k)
class Lr (B:outParam Int) (r:Nat->Int):Prop where
 h:Lb B r
class Ek {α:Type} (w:outParam α) (x:α):Prop where
 h:x=w
theorem Lb.up {B t:Int}{r:Nat->Int}{k:Nat}(h:Lb B r)(ht:Bd B t):Lb B (λj=>bif ww j k then t else r j):=λj=>by
 show Bd B (bif ww j k then t else r j);cases ww j k
 .exact h j
 .exact ht
theorem my {P:Prop}(h:P:=by
 show PW _ _;first
 |(refine aNl ?_)
 |(refine aNm ?_ ?_)
 |(refine aNn ?_;intro _ h;repeat (obtain⟨_,h⟩:_/\_:=h))
 |(refine aNo ?_;intro _)
 all_goals try dsimp only
 repeat' (first
  |with_reducible exact aZb
  |with_reducible refine aNm ?_ ?_
  |(with_reducible refine aNn ?_;intro _ h;repeat (obtain⟨_,h⟩:_/\_:=h))
  |(with_reducible refine aNo ?_;intro _)
  |(with_reducible refine aXx ‹_› ?_ ?_<;>(intro _ h;repeat (obtain⟨_,h⟩:_/\_:=h)))
  |(with_reducible refine aZc ‹_› ?_ ?_<;>(intro _ h;repeat (obtain⟨_,h⟩:_/\_:=h)))
  |(with_reducible refine aTk ?_ ?_<;>intro _)
  |(with_reducible refine aXy ?_ ?_<;>intro _))
 all_goals
  try with_reducible refine aNl ?_
  first
  |assumption
  |((repeat' refine And.intro ?_ ?_)<;>first|infer_instance|(refine(?_:Ek _ _);infer_instance)|(refine(?_:Le _ _);infer_instance)|(refine(?_:Lr _ _);infer_instance))):P:=h
theorem H8 {D X:Type}{s:D->Pg (D⊕X)}{R:X->Prop}(I:D->Prop)(h:∀d,I d->PW (s d) (t8 I R))(d:D)(k:I d):Mo (bw s 2000 d) R:=⟨Vy (s:=s) I R h 2000 d k⟩
theorem aXI (a b:Int)(c:Bool):Po (ml a b c) (λr:E6=>(r.1:Int)=a):=by
 unfold ml yO;show PW _ _;dsimp only;rw[aP]
theorem aXJ (t a b:Int)(c:Bool)(B:Int)(h:Bd B t)(k:Bd B a):Po (mj t a b c) (λr:E5=>Bd B r):=by
 unfold mj yN;show PW _ _;rw[aW];refine⟨λ_=>by rw[aP];exact h,λ_=> ?_⟩;rw[aW];exact⟨λ_=>by rw[aP];exact h,λ_=>by rw[aP];exact k⟩
theorem aRa (B:Int)(w:Nat->Int)(x0 x1:Int)(x2:Nat)(x3 x4:Nat->Int)(x5:Nat->Bool)(x6 x7 x8:Nat->Int)(x9:Int)(fS:Nat->Bool)(fR zy:Nat->Int)(w0:Bool)(h:Bd B x1)(k:Lb B x3)(e:x7=w):Po (eZ x0 x1 x2 x3 x4 x5 x6 x7 x8 x9 fS fR zy w0) (λr=>Lb B r.1.1/\r.1.c.1=w):=by
 have k':∀j,Bd B (x3 j):=k;unfold eZ rD;try dsimp only
 show PW _ _;try dsimp only
 repeat' (first
  |(rw[kn];exact trivial)
  |(with_reducible refine bu (aXJ _ _ _ _ B h (k' _)) λd _ hd=> ?_)
  |(with_reducible refine bu (aXI _ _ _) λd _ hm=> ?_)
  |(rw[du];intro _ _)
  |(rw[aW];refine⟨λ_=> ?_,λ_=> ?_⟩))
 all_goals
  rw[aP];first
  |exact⟨k,e⟩
  |exact⟨k.up hd,e⟩
  |exact⟨k.up (by rw[hm];exact k' _),e⟩
variable (i0 i1 i2 i3 i4:Int) (n0:Nat) (r0 r1 r2 r3 r4 r5 r6:Nat->Int) (q0 q1:Nat->Bool) (b0 b1:Bool) {B:Int} {w:Nat->Int}
instance a1T [h:Le B i1][k:Lr B r0][e:Ek w r3]:Mo (eZ i0 i1 n0 r0 r1 q0 r2 r3 r4 i2 q1 r5 r6 b0) (λx=>Lr B x.1.1/\Ek w x.1.c.1):=⟨λr hr=>by
 have q:=aRa B w _ _ _ _ _ _ _ _ _ _ _ _ _ _ h.h k.h e.h r hr;exact⟨⟨q.1⟩,⟨q.2⟩⟩⟩
instance aYH [Le B i0]:Mo (lC r0 i0 b0) (λx=>Le B x.1.1):=⟨my⟩
instance aFL (x:gX.B)[Le B x.1.2]:Mo (eD x) (λx=>Le B x.2.1):=⟨my⟩
instance aIv (d:dE.B)[Le B d.2.1.d.b.1][Le B d.2.1.d.b.2.1][Lr B d.d.b.2.1.1.1][Ek w d.d.b.2.1.1.c.1]:Mo (iU d) (λx=>Le B x.2.1.d.b.1/\Le B x.2.1.d.b.2.1/\Lr B x.d.b.2.1.1.1/\Ek w x.d.b.2.1.1.c.1):=H8 (λd=>Le B d.2.1.d.b.1/\Le B d.2.1.d.b.2.1/\Lr B d.d.b.2.1.1.1/\Ek w d.d.b.2.1.1.c.1) (λd h=>by
 obtain⟨_,_,_,_⟩:=h;exact my) d ⟨inferInstance,inferInstance,inferInstance,inferInstance⟩
instance aOf (x:fU.B)[Le B x.1.1][Le B x.2.1.d.c.1][Le B x.2.1.d.c.2.1][Lr B x.d.b.2.1.1.1][Ek w x.d.b.2.1.1.c.1]:Mo (gR x) (t8 (λx=>Le B x.1.d.c.1/\Le B x.1.d.c.2.1) (λx=>Le B x.1.1.d.b.1/\Le B x.1.1.d.b.2.1)):=⟨my⟩
instance aFM (x:eE.B)[Le B x.1.d.c.1][Le B x.1.d.c.2.1][Lr B x.d.b.1.1.1][Ek w x.d.b.1.1.c.1]:Mo (di x) (λx=>Le B x.d.c.2.1/\Le B x.d.c.b.1):=⟨my⟩
instance aOM (x:oo.B)[Le B x.2.1.d.c.1][Le B x.2.1.d.c.2.1][Lr B x.d.c.1.1.1][Ek w x.d.c.1.1.c.1]:Mo (gE x) (λx=>Lr B x.1.1/\Ek w x.1.c.1):=⟨my⟩
instance aLI (x:mr.B)[Le B x.2.1.d.c.1][Le B x.2.1.d.c.2.1][Lr B x.d.b.2.1.1.1][Ek w x.d.b.2.1.1.c.1]:Mo (cq x) (λx=>Lr B x.1.1/\Ek w x.1.c.1):=⟨my⟩
instance aON (x:mu.B)[Le B x.2.1.d.c.1][Le B x.2.1.d.c.2.1][Lr B x.d.b.2.1.1.1][Ek w x.d.b.2.1.1.c.1]:Mo (fM x) (λx=>Le B x.1.d.c.1/\Le B x.1.d.c.2.1):=⟨my⟩
instance aOg (x:m8.B)[Le B x.2.1.d.c.1][Le B x.2.1.d.c.2.1][Lr B x.d.b.2.1.1.1][Ek w x.d.b.2.1.1.c.1]:Mo (ec x) (λx=>Lr B x.1.1/\Ek w x.1.c.1):=⟨my⟩
instance aOO (x:ka.B)[Le B x.2.1.d.c.1][Le B x.2.1.d.c.2.1][Lr B x.d.b.2.1.1.1][Ek w x.d.b.2.1.1.c.1]:Mo (mx x) (t8 (λx=>Lr B x.2.1.1/\Ek w x.2.1.c.1/\Le B x.1.d.c.1/\Le B x.1.d.c.2.1) (λx=>Lr B x.1.2.1.1/\Ek w x.1.2.1.c.1/\Le B x.1.1.d.b.2.1/\Le B x.1.1.d.c.1)):=⟨my⟩
instance aOP (x:kc.B)[Le B x.2.1.d.c.1][Le B x.2.1.d.c.2.1][Lr B x.d.b.2.1.1.1][Ek w x.d.b.2.1.1.c.1]:Mo (mz x) (λx=>Le B x.1.d.c.1/\Le B x.1.d.c.2.1):=⟨my⟩
instance aOQ (x:mw.B)[Le B x.2.1.d.c.1][Le B x.2.1.d.c.2.1][Lr B x.d.c.1.1.1][Ek w x.d.c.1.1.c.1]:Mo (cW x) (λx=>Lr B x.2.1.2.1.1/\Ek w x.2.1.2.1.c.1/\Le B x.2.1.1.d.c.1/\Le B x.2.1.1.d.c.2.1):=⟨my⟩
instance aLJ (x:jN.B)[Le B x.2.1.d.c.1][Le B x.2.1.d.c.2.1][Lr B x.d.c.1.1.1][Ek w x.d.c.1.1.c.1]:Mo (fm x) (λx=>Le B x.d.c.1/\Le B x.d.c.2.1):=⟨my⟩
instance aCE [Lr B r0][Ek w r3]:Mo (fj b0 i0 i1 b1 i2 i3 r0 r1 q0 r2 r3 r4 i4) (λx=>Lr B x.1.1/\Ek w x.1.c.1):=⟨my⟩
instance aF0 (x:fa.B)[Le B x.2.1.d.c.1][Le B x.2.1.d.c.2.1][Lr B x.d.b.2.1.1.1][Ek w x.d.b.2.1.1.c.1]:Mo (gm x) (t8 (λx=>Lr B x.1.2.1.1/\Ek w x.1.2.1.c.1/\Le B x.1.1.d.b.2.1) (λx=>Lr B x.2.1.1/\Ek w x.2.1.c.1/\Le B x.1.d.c.1/\Le B x.1.d.c.2.1)):=⟨my⟩
instance aIw (x:im.B)[Le B x.2.1.d.c.1][Le B x.2.1.d.c.2.1][Lr B x.d.b.2.1.1.1][Ek w x.d.b.2.1.1.c.1]:Mo (fV x) (λx=>Lr B x.2.1.1/\Ek w x.2.1.c.1/\Le B x.1.d.c.1/\Le B x.1.d.c.2.1):=⟨my⟩
instance aLK (x:jO.B)[Le B x.2.1.d.c.1][Le B x.2.1.d.c.2.1][Lr B x.d.b.2.1.1.1][Ek w x.d.b.2.1.1.c.1]:Mo (iv x) (λx=>Lr B x.2.1.1/\Ek w x.2.1.c.1/\Le B x.1.d.c.1/\Le B x.1.d.c.2.1):=⟨my⟩
instance aIx (x:iu.B)[Le B x.2.1.d.c.1][Le B x.2.1.d.c.2.1][Lr B x.d.b.2.1.1.1][Ek w x.d.b.2.1.1.c.1]:Mo (fW x) (λx=>Lr B x.2.1.1/\Ek w x.2.1.c.1/\Le B x.1.d.c.1/\Le B x.1.d.c.2.1):=⟨my⟩
instance aOR (x:mA.B)[Le B x.2.1.d.c.1][Le B x.2.1.d.c.2.1][Lr B x.d.b.2.1.1.1][Ek w x.d.b.2.1.1.c.1]:Mo (kd x) (λx=>Lr B x.2.1.1/\Ek w x.2.1.c.1/\Le B x.1.d.c.1/\Le B x.1.d.c.2.1):=⟨my⟩
instance aRb (x:lJ.B)[Le B x.2.1.d.c.1][Le B x.2.1.d.c.2.1][Lr B x.d.b.2.1.1.1][Ek w x.d.b.2.1.1.c.1]:Mo (nr x) (t8 (λx=>Lr B x.2.1.1/\Ek w x.2.1.c.1/\Le B x.1.d.c.1/\Le B x.1.d.c.2.1) (λx=>Lr B x.1.2.1.1/\Ek w x.1.2.1.c.1/\Le B x.1.1.d.c.1/\Le B x.1.1.d.c.2.1)):=⟨my⟩
instance aKU (d:bG.B)[Le B d.2.1.d.c.1][Le B d.2.1.d.c.2.1][Lr B d.d.b.2.1.1.1][Ek w d.d.b.2.1.1.c.1][Le B d.d.c.b.1.1]:Mo (gv d) (λx=>Lr B x.d.b.2.1.1.1/\Le B x.2.1.d.c.1/\Le B x.2.1.d.c.2.1/\Le B x.d.c.b.1.1/\Ek w x.d.b.2.1.1.c.1):=H8 (λd=>Le B d.2.1.d.c.1/\Le B d.2.1.d.c.2.1/\Lr B d.d.b.2.1.1.1/\Ek w d.d.b.2.1.1.c.1/\Le B d.d.c.b.1.1) (λd h=>by
 obtain⟨_,_,_,_,_⟩:=h;exact my) d ⟨inferInstance,inferInstance,inferInstance,inferInstance,inferInstance⟩
instance aKV (d:cw.B)[Le B d.2.1.d.c.1][Le B d.2.1.d.c.2.1][Lr B d.d.b.2.1.1.1][Ek w d.d.b.2.1.1.c.1][Le B d.d.c.b.1.1]:Mo (iw d) (λx=>Lr B x.d.b.2.1.1.1/\Le B x.2.1.d.c.1/\Le B x.2.1.d.c.2.1/\Le B x.d.c.b.1.1/\Ek w x.d.b.2.1.1.c.1):=H8 (λd=>Le B d.2.1.d.c.1/\Le B d.2.1.d.c.2.1/\Lr B d.d.b.2.1.1.1/\Ek w d.d.b.2.1.1.c.1/\Le B d.d.c.b.1.1) (λd h=>by
 obtain⟨_,_,_,_,_⟩:=h;exact my) d ⟨inferInstance,inferInstance,inferInstance,inferInstance,inferInstance⟩
instance aKW (d:cv.B)[Le B d.2.1.d.c.1][Le B d.2.1.d.c.2.1][Lr B d.d.b.2.1.1.1][Ek w d.d.b.2.1.1.c.1][Le B d.d.c.b.1.1]:Mo (gx d) (λx=>Lr B x.d.b.2.1.1.1/\Le B x.2.1.d.c.1/\Le B x.2.1.d.c.2.1/\Le B x.d.c.b.1.1/\Ek w x.d.b.2.1.1.c.1):=H8 (λd=>Le B d.2.1.d.c.1/\Le B d.2.1.d.c.2.1/\Lr B d.d.b.2.1.1.1/\Ek w d.d.b.2.1.1.c.1/\Le B d.d.c.b.1.1) (λd h=>by
 obtain⟨_,_,_,_,_⟩:=h;exact my) d ⟨inferInstance,inferInstance,inferInstance,inferInstance,inferInstance⟩
instance aKX (d:dB.B)[Le B d.1.d.c.1][Le B d.1.d.c.2.1][Lr B d.d.b.1.1.1][Ek w d.d.b.1.1.c.1][Le B d.d.c.2.1.1]:Mo (fq d) (t8 (λx=>Le B x.1.b.1/\Le B x.2.1.d.b.1/\Le B x.2.1.d.b.2.1/\Lr B x.d.b.2.1.1.1/\Ek w x.d.b.2.1.1.c.1) (λx=>Le B x.2.1.d.b.2.1/\Lr B x.d.b.2.1.1.1/\Le B x.2.1.d.c.1/\Le B x.d.c.b.1.1/\Ek w x.d.b.2.1.1.c.1)):=⟨my⟩
instance aKY (d:dC.B)[Le B d.1.d.c.1][Le B d.1.d.c.2.1][Lr B d.d.b.1.1.1][Ek w d.d.b.1.1.c.1][Le B d.d.c.2.1.1]:Mo (dQ d) (t8 (λx=>Le B x.1.b.1/\Le B x.2.1.d.b.1/\Le B x.2.1.d.b.2.1/\Lr B x.d.b.2.1.1.1/\Ek w x.d.b.2.1.1.c.1) (λx=>Le B x.2.1.d.b.2.1/\Lr B x.d.b.2.1.1.1/\Le B x.2.1.d.c.1/\Le B x.d.c.b.1.1/\Ek w x.d.b.2.1.1.c.1)):=⟨my⟩
instance aKZ (d:de.B)[Le B d.1.d.c.1][Le B d.1.d.c.2.1][Lr B d.d.b.1.1.1][Ek w d.d.b.1.1.c.1][Le B d.d.c.2.1.1]:Mo (eu d) (t8 (λx=>Le B x.1.b.1/\Le B x.2.1.d.b.1/\Le B x.2.1.d.b.2.1/\Lr B x.d.b.2.1.1.1/\Ek w x.d.b.2.1.1.c.1) (λx=>Le B x.2.1.d.b.2.1/\Lr B x.d.b.2.1.1.1/\Le B x.2.1.d.c.1/\Le B x.d.c.b.1.1/\Ek w x.d.b.2.1.1.c.1)):=⟨my⟩
instance apc (x:fN.B)[Le B x.1.1][Le B x.2.1.d.c.1][Lr B x.d.b.2.1.1.1][Ek w x.d.b.2.1.1.c.1]:Mo (eT x) (λx=>Lr B x.1.c.b.2.1.1.1/\Le B x.1.1.d.c.1/\Ek w x.1.c.b.2.1.1.c.1/\Le B x.1.1.d.c.2.1):=⟨my⟩
end Go.Proofs.YtldgljclcgaibaaGreat
namespace Go.Proofs.YtldgljclcgaibaaGreat
open Go.Ab Go.Ab.Pg
theorem aOh {x0:Nat}{x1 x2:Int}{x3 x4 x5 x6 x7 x8 x9 fS fR:Nat->Int}{w0:Bool}{d:fg}(h:bP x0 x1 x2 x3 x4 x5 x6 x7 x8 x9 fS fR w0=some d):d.1=ws x1+(x0-ws x2)/\d.2.1=Kl (ws x1) (ws x2-ws x1) x3/\ws x1<=ws x2/\ws x2<=x0:=by
 unfold bP at h;obtain⟨c,e⟩:=Vz h;rw[cy,cy,cy,cy] at c;rw[<-e];exact⟨rfl,rfl,EA c.b.1,EA c.b.2.2⟩
theorem aXK {x0:Nat}{x1:Int}{x2 x3 x4 x5 x6 x7 x8 x9 fS fR zy x13 x14 x15 x16 x17 x18 x19:Nat->Int}{x20:Nat}{w0 w1:Bool}{d:fe}(h:cS x0 x1 x2 x3 x4 x5 x6 x7 x8 x9 fS fR zy x13 x14 x15 x16 x17 x18 x19 x20 w0 w1=some d):d.1=x0+1/\d.2.1=EG (ws x1) x2 fR/\ws x1<=x0:=by
 unfold cS at h;obtain⟨c,e⟩:=Vz h;rw[cy,cy,cy,cy] at c;rw[<-e];exact⟨rfl,rfl,EA c.b.2.1⟩
theorem aOi {M:Int}{a n k:Nat}{r:Nat->Int}(h:∀i,i<n->r i<=M):∀i,i+k<n->Kl 0 k r i<=M:=λi hi=>by
 show r (i+k)<=M;exact h _ hi
theorem aXL {M:Int}{n k:Nat}{r v:Nat->Int}(h:∀i,i<n->r i<=M)(hv:v 0<=M)(hk:k<=n):∀i,i<n+1->EG k r v i<=M:=λi hi=>by
 unfold EG;cases e1:Nat.blt i k with
 |true=>
  have:=EA e1;exact h i (by omega)
 |false=>
  cases e2:ww i k with
  |true=>exact hv
  |false=>
   have n1:¬i<k:=λq=>by
    have:Nat.blt i k=true:=aDi q;rw[this] at e1;cases e1
   have n2:i≠k:=λq=>by subst q;rw[NL] at e2;cases e2
   exact h (i-1) (by omega)
theorem pl0 (M:Int)(w d:gI.B)(hM:∀i,i<w.2.1.2.2.1->w.2.2.1 i<=M)(hd:d.1.2<9223372036854775808/\(0<=d.1.2->d.1.2<=((w.2.1.2.2.1:Nat):Int))/\d.1.1=w.1.1/\d.2=w.2):Po (yV d) (λx:oL=>match x with|.inl e=>(0<=e.1.2.1/\e.1.2.1<=((w.2.1.2.2.1:Nat):Int)/\e.1.2.2.1=w.2.1.2.2.1/\e.1.1=w.1.1/\e.2.2=w.2.2)/\¬M<=w.1.1|.inr e=>(0<=e.1.2.1/\e.1.2.1<=((w.2.1.2.2.1:Nat):Int)/\e.1.2.2.1=w.2.1.2.2.1/\e.1.1=w.1.1/\e.2.2=w.2.2)/\e.1.2.1=((w.2.1.2.2.1:Nat):Int)):=by
 revert d
 exact CE (λd hd=>by
  obtain⟨i0,i1,e0,e1⟩:=hd;have e2:d.2.1.2.2.1=w.2.1.2.2.1:=cM (λz=>z.1.2.2.1) e1;have e3:d.2.2.1=w.2.2.1:=cM (λz=>z.2.1) e1;have e4:d.2.2=w.2.2:=cM (λz=>z.2) e1;unfold yU;dsimp only;rw[aW];refine⟨λc=> ?_,λc=> ?_⟩
  .have c:=eF c;rw[dJ,e2] at c;rw[cR];intro r0;rw[cm] at r0;have i2:=i1 r0.1;rw[aW];refine⟨λq=> ?_,λq=> ?_⟩
   .rw[aP]
    have hw:wI (d.1.2+1)<9223372036854775808/\(0<=wI (d.1.2+1)->wI (d.1.2+1)<=((w.2.1.2.2.1:Nat):Int)):=by
     rcases(show d.1.2+1<9223372036854775808∨d.1.2=9223372036854775807 by omega) with g|g
     .rw[show wI (d.1.2+1)=d.1.2+1 from wrap_i64 (by omega) (by omega)];omega
     .rw[g];exact⟨by decide,λh=>absurd h (by decide)⟩
    exact⟨hw.1,hw.2,e0,e1⟩
   .rw[aP];refine⟨⟨r0.1,i2,e2,e0,e4⟩,λhm=> ?_⟩;have q:=pf q;rw[e3,e0] at q;have:=hM (ws d.1.2) (by omega);omega
  .have c:=pf c;rw[dJ,e2] at c;rw[aP];have i2:=i1 (by omega);exact⟨⟨by show 0<=d.1.2;omega,i2,e2,e0,e4⟩,by show d.1.2=_;omega⟩)
theorem aSv (M:Int)(x:om.B)(hM:∀i,i<x.2.1.b.1->x.b.1 i<=M):Po (j7 x) (λe:wP=>(∀i,i<e.2.1.b.1->e.b.2.1 i<=M)/\(M<=x.1->e.2.1.b.1=0)):=by
 unfold j7 B5;try dsimp only
 show PW _ _;try dsimp only
 rw[cR];intro _;refine bu (pl0 M ((x.1,0),x.2) _ hM ⟨(show(0:Int)<9223372036854775808 by decide),λ_=>(show(0:Int)<=((x.2.1.b.1:Nat):Int) by omega),rfl,rfl⟩) λy _ hy=> ?_;rw[hX];refine⟨λa ha=> ?_,λa ha=> ?_⟩<;>subst ha
 all_goals
  obtain⟨⟨k0,k1,k2,k3,k4⟩,k5⟩:=hy;have k1:a.1.2.1<=((x.2.1.b.1:Nat):Int):=k1;have k2:a.1.b.1=x.2.1.b.1:=k2;have kr:a.b.1=x.b.1:=cM (λz=>z.1) k4;rw[cR];intro _
  repeat' (first
   |(rw[kn];exact trivial)
   |(rw[aW];refine⟨λ_=> ?_,λ_=> ?_⟩)
   |(rw[du];intro z hz))
  rw[aP];obtain⟨d1,d2,_,d4⟩:=aOh hz;have d1:z.1=0+(a.1.b.1-ws a.1.2.1):=d1;have d2:z.2.1=Kl 0 (ws a.1.2.1-0) a.b.1:=d2;rw[Nat.sub_zero,kr] at d2;refine⟨λi hi=> ?_,λhm=> ?_⟩
  .have hi:i<z.1:=hi;show z.2.1 i<=M;rw[d2];exact aOi (a:=0) hM i (by omega)
  .show z.1=0;first
   |exact absurd hm k5
   |(have k5:a.1.2.1=((x.2.1.b.1:Nat):Int):=k5
     omega)
theorem aZd (M:Int)(x:qS.B)(hM:∀i,i<x.2.1.2.2.1->x.2.2.1 i<=M)(hs:x.1.1<=M):Po (oi x) (λr:wO=>match r with|.inl e=>e.2.2.1=x.2.1.2.2.1|.inr e=>∀i,i<e.2.1.2.2.1->e.2.2.1 i<=M):=by
 unfold oi B4;try dsimp only
 show PW _ _;try dsimp only
 rw[aW];refine⟨λ_=>by rw[aP],λ_=> ?_⟩;rw[cR];intro _;rw[du];intro p _;rw[cR];intro _;rw[du];intro q hq;obtain⟨d1,d2,d3⟩:=aXK hq
 have key:∀i,i<q.1->q.2.1 i<=M:=λi hi=>by
  rw[d2];exact aXL hM hs d3 i (by omega)
 rw[aW];refine⟨λ_=>by rw[aP];exact key,λ_=> ?_⟩;rw[cR];intro _;rw[cR];intro _;rw[du];intro z hz;rw[aP];obtain⟨e1,e2,e3,e4⟩:=aOh hz;have e1:z.1=0+(q.1-1):=e1;have e4:1<=q.1:=e4;intro i hi;have hi:i<z.1:=hi;show z.2.1 i<=M;rw[e2];exact aOi (a:=0) key i (by show i+1<q.1;omega)
theorem aLa (x:im.B):Ok (fV x) (λr:Ce=>r.1.d.c.b.2.2=x.2.1.d.c.b.2.2/\r.1.c.1=x.2.1.c.1/\r.1.d.c.2.1=x.2.1.d.c.2.1):=by
 unfold fV Cf;try dsimp only
 show PQ _ _;simp only[aM]
 repeat' (first
  |rw[aR]
  |(rw[aK];refine⟨λ_=> ?_,λ_=> ?_⟩)
  |(rw[tH];refine⟨λ_ _=> ?_,λ_ _=> ?_⟩)
  |(with_reducible refine ay (aeT _ ?_) λe _ he=> ?_)
  |(with_reducible refine ay (YJ _ ?_) λq _ hq=> ?_)
  |(with_reducible refine ay (RT _ ?_) λt _ ht=> ?_)
  |(rw[bA];intro _ _))
 all_goals first|(rw[av];exact⟨hq.1.trans he.2.1,hq.2.1.trans he.b.1,hq.2.2.trans he.b.2⟩)|(rw[av];exact he.2)|(rw[av];exact⟨rfl,rfl,rfl⟩)|omega|(dsimp only;omega)|(have h1:=he.1;(try dsimp only at h1);(try dsimp only);omega)
theorem aLb (x:iu.B):Ok (fW x) (λr:Cj=>r.1.d.c.b.2.2=x.2.1.d.c.b.2.2/\r.1.c.1=x.2.1.c.1/\r.1.d.c.2.1=x.2.1.d.c.2.1):=by
 unfold fW Ck;try dsimp only
 show PQ _ _;simp only[aM]
 repeat' (first
  |rw[aR]
  |(rw[aK];refine⟨λ_=> ?_,λ_=> ?_⟩)
  |(rw[tH];refine⟨λ_ _=> ?_,λ_ _=> ?_⟩)
  |(with_reducible refine ay (aeT _ ?_) λe _ he=> ?_)
  |(with_reducible refine ay (YJ _ ?_) λq _ hq=> ?_)
  |(with_reducible refine ay (RT _ ?_) λt _ ht=> ?_)
  |(rw[bA];intro _ _))
 all_goals first|(rw[av];exact⟨hq.1.trans he.2.1,hq.2.1.trans he.b.1,hq.2.2.trans he.b.2⟩)|(rw[av];exact he.2)|(rw[av];exact⟨rfl,rfl,rfl⟩)|omega|(dsimp only;omega)|(have h1:=he.1;(try dsimp only at h1);(try dsimp only);omega)
theorem aHe (x0:Nat->Int)(x1:Int)(x2:Int)(x3:Int)(x4:Int)(x5:Int)(x6:Bool):Ok (BV x0 x1 x2 x3 x4 x5 x6) (λr:UL=>match r with|.inl e=>(e.1!=0)=true|.inr _=>True):=by
 unfold BV UM;try dsimp only
 show PQ _ _;simp only[bJ];repeat' (first|exact True.intro|rfl|assumption|(apply And.intro)|(intro _))
theorem aYa (x:mA.B):Ok (kd x) (λr:JX=>r.1.d.c.b.2.2=x.2.1.d.c.b.2.2/\r.1.c.1=x.2.1.c.1/\r.1.d.c.2.1=x.2.1.d.c.2.1):=by
 unfold kd JY;try dsimp only
 show PQ _ _;simp only[aM];rw[bA];intro d _;with_reducible refine ay (aHe _ _ _ _ _ _ _) λfb _ hfb=> ?_
 rw[tH];refine⟨λa ha=> ?_,λa ha=> ?_⟩
 .subst ha;have hfb:(a.1!=0)=true:=hfb;rw[hfb]
  repeat' (first
   |rw[aR]
   |(rw[aK];refine⟨λ_=> ?_,λ_=> ?_⟩)
   |(rw[tH];refine⟨λ_ _=> ?_,λ_ _=> ?_⟩)
   |(with_reducible refine ay (aeT _ ?_) λe _ he=> ?_)
   |(with_reducible refine ay (YJ _ ?_) λq _ hq=> ?_)
   |(with_reducible refine ay (RT _ ?_) λt _ ht=> ?_)
   |(rw[bA];intro _ _))
  all_goals first|(rw[av];exact⟨hq.1.trans he.2.1,hq.2.1.trans he.b.1,hq.2.2.trans he.b.2⟩)|(rw[av];exact he.2)|(rw[av];exact⟨rfl,rfl,rfl⟩)|omega|(dsimp only;omega)|(have h1:=he.1;(try dsimp only at h1);(try dsimp only);omega)
 .subst ha
  repeat' (first
   |rw[aR]
   |(rw[aK];refine⟨λ_=> ?_,λ_=> ?_⟩)
   |(rw[tH];refine⟨λ_ _=> ?_,λ_ _=> ?_⟩)
   |(with_reducible refine ay (aeT _ ?_) λe _ he=> ?_)
   |(with_reducible refine ay (YJ _ ?_) λq _ hq=> ?_)
   |(with_reducible refine ay (RT _ ?_) λt _ ht=> ?_)
   |(rw[bA];intro _ _))
  all_goals first|(rw[av];exact⟨hq.1.trans he.2.1,hq.2.1.trans he.b.1,hq.2.2.trans he.b.2⟩)|(rw[av];exact he.2)|(rw[av];exact⟨rfl,rfl,rfl⟩)|omega|(dsimp only;omega)|(have h1:=he.1;(try dsimp only at h1);(try dsimp only);omega)
theorem ahG (x0:Int)(x1:Int)(x2:Int)(x3:Int)(x4:Int)(x5:Int)(x6:Int)(x7:Int)(x8:Int)(x9:Bool)(h0:0<=x7)(h1:x7<=5):bl (pD x0 x1 x2 x3 x4 x5 x6 x7 x8 x9):=by
 have hw:wI (x7+1)=x7+1:=fL;have b1:bg x7 7=true:=by simp only[cm];omega
 have b2:bg (x7+1) 7=true:=by simp only[cm];omega
 unfold pD B7;refine aF ?_;simp only[hw,b1,b2];simp only[bJ,NN,KX,DB]
theorem arQ {x0 x1 x2:Int}{d:acj}(h:gQ x0 x1 x2=some d)(k:d=true): -900000000<=x0/\x0<=900000000/\ -1800000000<=x1/\x1<=1800000000:=by
 have e:PQ (HI x0 x1 x2) (λd:Bool=>d=true-> -900000000<=x0/\x0<=900000000/\ -1800000000<=x1/\x1<=1800000000):=by
  simp only[HI,aK,av,PE,lY,aaN,xr,DB,NO,BC];omega
 exact Ok.post e h k
instance aOs (x0:Int)(x1:Int)(x2:Int)(x3:Bool):bl (sL x0 x1 x2 x3):=by
 unfold sL Fj;refine aF ?_;rw[bA];intro d hd;rw[aK];refine⟨λ_=>by rw[av];trivial,λh=> ?_⟩;obtain⟨a0,a1,a2,a3⟩:=arQ hd (by simpa using h);have w0:wI (x0+900000000)=x0+900000000:=fL;have w1:wI (x1+1800000000)=x1+1800000000:=fL;have e0:t7 (x0+900000000) 450000000=(x0+900000000)/450000000:=ayZ (by omega);have e1:t7 (x1+1800000000) 600000000=(x1+1800000000)/600000000:=ayZ (by omega);rw[w0,w1,e0,e1];have w2:wI ((x0+900000000)/450000000)=(x0+900000000)/450000000:=fL;have w3:wI ((x1+1800000000)/600000000)=(x1+1800000000)/600000000:=fL;rw[w2,w3];have r1:0<=(if 3<(x0+900000000)/450000000 then 3 else(x0+900000000)/450000000)/\(if 3<(x0+900000000)/450000000 then 3 else(x0+900000000)/450000000)<=3:=by split<;>omega
 have r2:0<=(if 5<(x1+1800000000)/600000000 then 5 else(x1+1800000000)/600000000)/\(if 5<(x1+1800000000)/600000000 then 5 else(x1+1800000000)/600000000)<=5:=by split<;>omega
 generalize (if 3<(x0+900000000)/450000000 then 3 else(x0+900000000)/450000000)=row at*
 generalize (if 5<(x1+1800000000)/600000000 then 5 else(x1+1800000000)/600000000)=nQ at*
 have t2:=λa b c d e f g i j=>ahG a b c d e f g nQ i j r2.1 r2.2
 have hw:wI (row+1)=row+1:=fL;have b1:bg row 5=true:=by simp only[cm];omega
 have b2:bg (row+1) 5=true:=by simp only[cm];omega
 simp only[hw,b1,b2];simp only[bJ,NN,KX,DB]
instance aF2 (x:eE.B):bl (di x):=by
 unfold di qg;try dsimp only
 exact aF (by simp only[bJ])
theorem aCr (x:eE.B):Ok (di x) (λr:xJ=>r.e.2=x.1.d.c.b.2.2/\r.c.2.1=x.1.c.1/\r.d.c.b.1=x.1.d.c.2.1):=by
 unfold di qg;try dsimp only
 show PQ _ _;rw[bA];intro d _;rw[av];exact⟨rfl,rfl,rfl⟩
theorem aYb (x:ka.B)(h:x.2.1.d.c.b.2.2<=90000):Ok (mx x) (λr:wS=>match r with|.inl e=>e.1.d.c.b.2.2<=x.2.1.d.c.b.2.2+1/\e.1.c.1=x.2.1.c.1/\e.1.d.c.2.1=x.2.1.d.c.2.1|.inr e=>e.1.1.d.c.b.2<=x.2.1.d.c.b.2.2+1/\e.1.1.c.1=x.2.1.c.1/\e.1.1.d.c.1=x.2.1.d.c.2.1):=by
 unfold mx Cg;try dsimp only
 show PQ _ _;simp only[aM];rw[bA];intro d _;rw[bA];intro d1 _;repeat rw[aR]
 with_reducible refine ay (aCr _) λd2 _ h2=> ?_
 have h2:d2.e.2=x.2.1.d.c.b.2.2/\d2.c.2.1=x.2.1.c.1/\d2.d.c.b.1=x.2.1.d.c.2.1:=h2;rw[bA];intro d3 _;rw[aK];refine⟨λ_=> ?_,λ_=> ?_⟩
 .repeat rw[aR]
  rw[bA];intro d4 _;rw[av];show d2.e.2<=x.2.1.d.c.b.2.2+1/\d2.c.2.1=x.2.1.c.1/\d2.d.c.b.1=x.2.1.d.c.2.1;omega
 .rw[bA];intro d4 _;repeat rw[aR]
  with_reducible refine ay (RT _ ?_) λt _ ht=> ?_
  .show d2.e.2<=100000;omega
  have ht:t.1.d.c.b.2.2=d2.e.2+1/\t.1.c.1=d2.c.2.1/\t.1.d.c.2.1=d2.d.c.b.1:=ht;repeat (first|rw[aR]|(rw[bA];intro _ _))
  rw[av];show t.1.d.c.b.2.2<=x.2.1.d.c.b.2.2+1/\t.1.c.1=x.2.1.c.1/\t.1.d.c.2.1=x.2.1.d.c.2.1;omega
theorem aFV (x:fa.B)(h:x.2.1.d.c.b.2.2<=90000):Ok (gm x) (λr:nP=>match r with|.inl e=>e.1.1.d.c.2.2<=x.2.1.d.c.b.2.2+3/\e.1.1.c.1=x.2.1.c.1/\e.1.1.d.b.2.1=x.2.1.d.c.2.1|.inr e=>e.1.d.c.b.2.2<=x.2.1.d.c.b.2.2+3/\e.1.c.1=x.2.1.c.1/\e.1.d.c.2.1=x.2.1.d.c.2.1):=by
 have idx:∀(n m:Nat) (k:Int),n=m->0<=k->k<(m:Int)->bg k n=true:=λn m k e h1 h2=>by subst e;simp only[cm];omega
 unfold gm rP;try dsimp only
 show PQ _ _;simp only[aM];rw[bA];intro d _
 repeat' (first
  |rw[aR]
  |(with_reducible refine ay (aX9 _ ?_) λj _ hj=> ?_)
  |(with_reducible refine ay (aeT _ ?_) λe _ he=> ?_)
  |(with_reducible refine ay (YJ _ ?_) λq _ hq=> ?_)
  |(rw[tH];refine⟨λ_ _=> ?_,λ_ _=> ?_⟩)
  |(rw[bA];intro _ _)
  |(rw[aK];refine⟨λc=> ?_,λc=> ?_⟩))
 all_goals first
  |(rw[av];exact hj)
  |(rw[av];exact⟨bZ (Nat.le_of_eq (hq.1.trans he.2.1)) (Nat.le_add_right _ _),hq.2.1.trans he.b.1,hq.2.2.trans he.b.2⟩)
  |(rw[av];exact⟨bZ (Nat.le_of_eq he.2.1) (Nat.le_add_right _ _),he.2.2⟩)
  |(show x.2.1.d.c.b.2.2<=90000;exact h)
  |(dsimp only;omega)
  |(have h1:=he.1;(try dsimp only at h1);(try dsimp only);omega)
  |(rw[aQQ];rw[he.1] at c;have c':true=false:=c;cases c')
theorem aRp (x:Int):O5 x=some (decide (0<=x)&&decide (x<6)):=by
 simp only[O5,aoA,ch,cC];by_cases h0:0<=x<;>simp[h0]
instance aoi (x:mB.B):bl (gk x):=by
 unfold gk sO;try dsimp only
 exact aF (by simp only[bJ,qk])
instance aOt (x:oO.B):bl (mC x):=by
 unfold mC yZ;try dsimp only
 exact aF (by simp only[bJ,qk])
theorem TL (n:Nat):∀(d:eo.B) (hd:0<=d.1.2.2/\d.1.2.2<=d.1.2.1/\d.1.2.1<=1999/\d.1.2.1=((d.1.1.1:Nat):Int)/\d.2.1.2.2=n/\n<=1999),Ok (uL d) (λx:lI=>x.2.1.2.2=n):=
 bL (λd:eo.B=>ws (d.1.2.1-d.1.2.2)) (λd hd=>by
  have hw:wI (d.1.2.2+1)=d.1.2.2+1:=bk;obtain⟨i0,i1,i2,i3,i4,i5⟩:=hd;unfold uK;try dsimp only
  rw[aK];refine⟨λh=> ?_,λ_=>by rw[av];exact i4⟩;have h:=eF h;rw[bF,aM,aR];refine⟨by simp only[cm];omega,?_⟩;with_reducible refine ay (TK _ ?_) λe _ he=> ?_
  .show d.2.1.2.2<=1999;omega
  have he:e.2.1=d.2.1.2.2:=he;have b1:(true&&ww (e.2.1*11+0) (d.2.1.2.2*11)&&true)=true:=by rw[he,km,aM];rfl
  have b2:(true&&wd (0+(e.2.1*11+0)) (d.2.1.2.2*11+0))=true:=by rw[he,GF,eQ];omega
  simp only[b1,b2,aR,av,qH,hw];exact⟨⟨by omega,by omega,i2,i3,i4,i5⟩,by omega⟩) (λd hd=>by omega)
theorem aTV (x:mU.B)(h:x.1.1<=1999)(k:x.2.1.2.2<=1999):Ok (mV x) (λr:xD=>r.2.1=x.2.1.2.2):=by
 unfold mV xF;show PQ _ _;rw[aM,aM,aR,aR];refine ay (TL x.2.1.2.2 _ ?_) λd _ hd=> ?_
 .obtain⟨a,b,c,e⟩:=hdN x.1.1 h;exact⟨a,b,c,e,rfl,k⟩
 .rw[av];exact hd
abbrev Bf:=(Int×Int×Int×Int×Int)×Int×Nat×Int
def BR (T:Int)(b c:Bf):Prop:=(∀U,T<=U->b.2.2.2<=U->c.2.2.2<=U)/\c.2.1=b.2.1/\c.2.2.1<=b.2.2.1/\c.1.1=b.1.1/\c.1.2.1=b.1.2.1/\c.1.2.2.1=b.1.2.2.1/\c.1.2.2.2.1=b.1.2.2.2.1/\
 (0<=b.1.2.2.2.2->b.1.2.2.2.2+b.2.2.1<=4611686018427387904->0<=c.1.2.2.2.2/\c.1.2.2.2.2+c.2.2.1=b.1.2.2.2.2+b.2.2.1)
def PR (b c:Bf):Prop:=c.2.1=b.2.1/\c.1.1=wI (b.1.1+1)/\c.1.2.2.2.1=b.1.2.2.2.1/\c.1.2.2.2.2=b.1.2.2.2.2/\c.2.2.2=b.2.2.2/\
 ((c.1.2.1=wI (b.1.2.1+1)/\c.1.2.2.1=b.1.2.2.1/\c.2.2.1=b.2.2.1)∨(c.1.2.1=b.1.2.1/\c.1.2.2.1=b.1.2.2.1/\c.2.2.1=b.2.2.1+1/\((c.2.2.1:Nat):Int)<=b.2.1)∨
  (c.1.2.1=b.1.2.1/\c.1.2.2.1=wI (b.1.2.2.1+1)/\c.2.2.1=b.2.2.1))
def SR (b c:Bf):Prop:=c.2=b.2/\c.1=(wI (b.1.1+1),b.1.2.1,b.1.2.2.1,wI (b.1.2.2.2.1+1),b.1.2.2.2.2)
theorem BR.refl (T:Int)(b:Bf):BR T b b:=⟨λ_ _ h=>h,rfl,eO _,rfl,rfl,rfl,rfl,λh _=>⟨h,rfl⟩⟩
theorem BR.len {T:Int}{b c:Bf}(h:BR T b c):c.2.2.1<=b.2.2.1:=h.2.2.1
theorem BR.mono {T U:Int}{a b:Bf}(t:T<=U)(h:BR T a b):BR U a b:=⟨λV p q=>h.1 V (As t p) q,h.2⟩
theorem BR.trans {T:Int}{a b c:Bf}(h:BR T a b)(k:BR T b c):BR T a c:=by
 obtain⟨h0,h1,h2,h3,h4,h5,h6,h7⟩:=h;obtain⟨k0,k1,k2,k3,k4,k5,k6,k7⟩:=k;refine⟨λU p q=>k0 U p (h0 U p q),k1.trans h1,bZ k2 h2,k3.trans h3,k4.trans h4,k5.trans h5,k6.trans h6,λp q=> ?_⟩;obtain⟨r,s⟩:=h7 p q;obtain⟨u,v⟩:=k7 r (by omega);exact⟨u,v.trans s⟩
theorem aTW (x:qS.B)(h:x.2.1.b.1<=1000):Ok (oi x) (λr:wO=>match r with
  |.inl e=>PR x.2.1 e
  |.inr e=>PR x.2.1 e.2.1):=by
 unfold oi B4;try dsimp only
 show PQ _ _;rw[aK];refine⟨λ_=>by rw[av];exact⟨rfl,rfl,rfl,rfl,rfl,.inl ⟨rfl,rfl,rfl⟩⟩,λ_=> ?_⟩;rw[aM,bF];refine⟨rfl,ay (aRm (((x.2.1.b.1,true),x.1),x.2.2) (by show x.2.1.b.1<=1999;omega)) λd _ hd=> ?_⟩;rw[bF];refine⟨rfl,ay (aOq x.2.1.b.1 d.1 hd.1 hd.2 (by omega) _ _ _ _ _ _ _ _ _ _ _ _ _ _ _ _ _ _ _) λd2 _ h2=> ?_⟩;rw[aK];refine⟨λc=> ?_,λ_=> ?_⟩
 .rw[av];have c:=eF c;exact⟨rfl,rfl,rfl,rfl,rfl,.inr (.inl ⟨rfl,rfl,h2,c⟩)⟩
 rw[bF,aM,bF];refine⟨by simp only[cm,h2];omega,rfl,ay (aBj d2.1 0 1 (by omega) (by omega) (by rw[h2];omega) _ _ _ _ _ _ _ _ _) λd3 _ h3=> ?_⟩;rw[av];have e:d3.1=x.2.1.b.1:=by rw[h3,h2];simp
 exact⟨rfl,rfl,rfl,rfl,rfl,.inr (.inr ⟨rfl,rfl,e⟩)⟩
theorem awD (x:lr.B):Ok (iR x) (λr:xc=>SR x.1 r):=by
 unfold iR xd;show PQ _ _;rw[av];exact⟨rfl,rfl⟩
theorem aLc (n:Nat)(p q z:Int)(w:Int×Int×Int×Int×Int):∀(d:gI.B) (hd:0<=d.1.2/\d.1.2<=(n:Int)/\d.2.1.2.2.1=n/\n<=1999/\d.2.1.2.1=z/\d.2.1.1=w/\d.1.1=p/\d.2.1.2.2.2=q),Ok (yV d) (λx:oL=>match x with
   |.inl e=>0<=e.1.2.1/\e.1.2.1<=(n:Int)/\e.1.2.2.1=n/\e.2.1.2.1=z/\e.2.1.1=w/\e.1.1=p/\e.2.1.2.2=q
   |.inr e=>0<=e.1.2.1/\e.1.2.1<=(n:Int)/\e.1.2.2.1=n/\e.2.1.2.1=z/\e.2.1.1=w/\e.1.1=p/\e.2.1.2.2=q):=
 bL (λd:gI.B=>ws (n-d.1.2)) (λd hd=>by
  have hw:wI (d.1.2+1)=d.1.2+1:=bk;obtain⟨i0,i1,i2,i3,i4,i5,i6⟩:=hd;unfold yU;try dsimp only
  rw[aK];refine⟨λh=> ?_,λ_=>by rw[av];exact⟨i0,i1,i2,i4,i5,i6⟩⟩;have h:=eF h;rw[dJ] at h;rw[bF,aK];refine⟨by simp only[cm];omega,λ_=> ?_,λ_=>by rw[av];exact⟨i0,i1,i2,i4,i5,i6⟩⟩;rw[av,qH];simp only[hw];exact⟨⟨by omega,by omega,i2,i3,i4,i5,i6⟩,by omega⟩) (λd hd=>by omega)
theorem aID (x:om.B)(h:x.2.1.2.2.1<=1000):Ok (j7 x) (λr:wP=>r.1<=x.2.1.2.2.1/\BR x.1 x.2.1 r.2.1):=by
 unfold j7 B5;try dsimp only
 show PQ _ _;rw[aM,bF];refine⟨rfl,ay (aLc x.2.1.2.2.1 x.1 x.2.1.2.2.2 x.2.1.2.1 x.2.1.1 _ ⟨by dsimp only;omega,by dsimp only;omega,rfl,by omega,rfl,rfl,rfl,rfl⟩) λy _ hy=> ?_⟩;rw[qc];constructor
 all_goals
  rintro d rfl
  obtain⟨i0,i1,i2,i4,i5,i6,i7⟩:=hy;rw[bF];refine⟨by simp only[ade];omega,?_⟩;rw[aM,bF];refine⟨rfl,ay (aRn (ws d.1.2.1) (by omega) _ _ _ _ _ _ _ _ _ _) λd1 _ h1=> ?_⟩;rw[aM,bF];refine⟨rfl,ay (aBj d.1.2.2.1 0 d.1.2.1 (by omega) i0 (by rw[i2];exact i1) _ _ _ _ _ _ _ _ _) λd2 _ h2=> ?_⟩;rw[av];have h2:d2.1=x.2.1.2.2.1-ws d.1.2.1:=by rw[h2,i2];simp only[Int.toNat_zero];omega
  refine⟨?_,λU p q=> ?_,i4,?_,cM (λz=>z.1) i5,cM (λz=>z.2.1) i5,cM (λz=>z.2.2.1) i5,cM (λz=>z.2.2.2.1) i5,λp q=> ?_⟩
  .show d1.1<=_;rw[h1];omega
  .show(if d.1.1>d.2.1.2.2 then d.1.1 else d.2.1.2.2)<=U;rw[i6,i7];split<;>assumption
  .show d2.1<=_;rw[h2];omega
  .have e:d.2.1.1.2.2.2.2=x.2.1.1.2.2.2.2:=cM (λz=>z.2.2.2.2) i5;have hw:wI (d.2.1.1.2.2.2.2+d.1.2.1)=x.2.1.1.2.2.2.2+d.1.2.1:=by rw[e];exact fL (by omega) (by omega)
   show 0<=wI (d.2.1.1.2.2.2.2+d.1.2.1)/\wI (d.2.1.1.2.2.2.2+d.1.2.1)+((d2.1:Nat):Int)=_;rw[hw,h2];omega
theorem aCG {x:Int}(h0: -1152921504606846976<=x)(h1:x<=1152921504606846976)(b:Bool):qV x b=some x:=by
 have e:wV x (-1152921504606846976) 1152921504606846976 b=some (wn x):=by
  simp only[wV,J0,ch,cC];rw[dq (show ¬(-1152921504606846976:Int)>1152921504606846976 by omega),dq (show ¬x< -1152921504606846976 by omega),dq (show ¬x>1152921504606846976 by omega)];rfl
 simp only[qV,Pc,cQ,e,bN,aCC,mM,cC]
theorem aZI {x:Int}(h0: -1152921504606846976<=x)(h1:x<=1152921504606846976)(n b:Bool):A7 x true n b=some (wn x):=by
 simp only[A7,Pd,ch,cQ,cC,K0,bH,aCG h0 h1,bN]
theorem aFW {a b d:Int}(a0: -1152921504606846976<=a)(a1:a<=1152921504606846976)(b0: -1152921504606846976<=b)(b1:b<=1152921504606846976)(d0: -1152921504606846976<=d)(d1:d<=1152921504606846976)(nz:d≠0)
  (q0: -1152921504606846976<=Nh (a*b) d)(q1:Nh (a*b) d<=1152921504606846976)(h:Bool):kY a b d h=some (Nh (a*b) d):=by
 obtain⟨x,y,e,o,v⟩:=Dw a b (by omega) (by omega) (by omega) (by omega);have e2:=aIC x y d o (by omega) (by omega) nz;rw[v,if_pos ⟨by omega,by omega⟩] at e2;have z:(d==0)=false:=by rw[ako];exact nz
 simp only[kY,Hf,IE,TC,cQ,ch,cC,aCG a0 a1,aCG b0 b1,aCG d0 d1,bN,e,z,bH,e2,aZI q0 q1,aCC,mM]
theorem aZJ {n d m:Int}(h0:0<=n)(hd:0<d)(hm:0<=m)(h:n<=m*d):0<=qdq n d/\qdq n d<=m:=by
 have a:=aw2 n d;have b:=aaS n (show d≠0 by omega);have c:=Vj n hd;have q0:0<=n/d:=DA h0 (by omega)
 have q1:n/d<=m:=by
  refine Int.le_of_lt_add_one (aaO hd ?_);rw[afd,Int.one_mul];omega
 unfold qdq;split
 .omega
 .by_cases e:n/d=m
  .exfalso
   rw[e,EC d m] at a;omega
  .omega
theorem aSD {n d m:Int}(hd:0<d)(hm:0<=m)(h0: -(m*d)<=n)(h1:n<=m*d): -m<=Nh n d/\Nh n d<=m:=by
 have e:lQ d=d:=by unfold lQ;split<;>omega
 have g:lQ n<=m*d:=by unfold lQ;split<;>omega
 obtain⟨p,q⟩:=aZJ (aK2 n) hd hm g;unfold Nh;rw[e];split<;>omega
theorem aYc {a x d m:Int}(ha0: -m<=a)(ha1:a<=m)(x0:0<=x)(x1:x<=d): -(m*d)<=a*x/\a*x<=m*d:=by
 have m0:0<=m:=by omega
 have h1:a*x<=m*x:=apD ha1 x0;have h2:m*x<=m*d:=Int.mul_le_mul_of_nonneg_left x1 m0;have h3: -m*x<=a*x:=apD ha0 x0;rw[Int.neg_mul] at h3;omega
theorem aIE (a b x d:Int)(h:Bool)(m:Int)(a0: -m<=a)(a1:a<=m)(b0: -m<=b)(b1:b<=m)(x0:0<=x)(x1:x<=d)(d0:0<d)(d1:d<=1000000000)(m1:m<=100000000000000):
  Ok (gY a b x d h) (λr:Int=> -(3*m)<=r/\r<=3*m):=by
 have e:wI (b-a)=b-a:=fL;obtain⟨p0,p1⟩:=aYc (a:=b-a) (m:=2*m) (by omega) (by omega) x0 x1;obtain⟨q0,q1⟩:=aSD d0 (show 0<=2*m by omega) p0 p1;have k:=aFW (a:=b-a) (b:=x) (d:=d) (by omega) (by omega) (by omega) (by omega) (by omega) (by omega) (by omega) (by omega) (by omega) h;have e2:wI (a+Nh ((b-a)*x) d)=a+Nh ((b-a)*x) d:=fL;unfold gY xM;show PQ _ _;rw[e,k,dH,av,e2];omega
theorem aTX (c0 c1 c2 c3 c4 c5 c6 i x:Int)(h:Bool)(g:∀c∈[c0,c1,c2,c3,c4,c5,c6], -9000<=c/\c<=9000)(i0:0<=i)(i1:i<=5)(x0:0<=x)(x1:x<=600000000):
  Ok (mW c0 c1 c2 c3 c4 c5 c6 i x h) (λr:Int=> -28991029248000<=r/\r<=28991029248000):=by
 have w:∀c∈[c0,c1,c2,c3,c4,c5,c6],wI (c*1073741824)=c*1073741824:=λc hc=>fL (by have:=g c hc;omega) (by have:=g c hc;omega)
 have z:wI (i+1)=i+1:=bk i0 (by omega);simp only[aaT,List.not_mem_nil,or_false,forall_eq_or_imp,forall_eq] at w g;obtain⟨w0,w1,w2,w3,w4,w5,w6⟩:=w;obtain⟨g0,g1,g2,g3,g4,g5,g6⟩:=g;unfold mW xN;show PQ _ _;rw[w0,w1,w2,w3,w4,w5,w6,z];have r1:bg i 7=true:=by rw[cm];omega
 have r2:bg (i+1) 7=true:=by rw[cm];omega
 dsimp only;rw[r1,r2]
 repeat' (first
  |rw[aR]
  |(with_reducible refine ay (aIE _ _ _ _ _ 9663676416000 ?_ ?_ ?_ ?_ ?_ ?_ ?_ ?_ ?_) λr _ hr=> ?_)
  |(rw[aK];refine⟨λc=> ?_,λc=> ?_⟩))
 all_goals first
  |(rw[av];omega)
  |omega
theorem aOu (x0 x1 x2:Int)(h:Bool):bl (oP x0 x1 x2 h):=by
 unfold oP A8;refine aF ?_;dsimp only;rw[bA];intro d hd;rw[aK];refine⟨λ_=>by rw[av];trivial,λk=> ?_⟩;rw[ae9] at k;obtain⟨a0,a1,b0,b1⟩:=arQ hd k;clear hd k
 have ey0:wI (x1+1800000000)=x1+1800000000:=fL;have ey1:wI (x0+900000000)=x0+900000000:=fL;rw[ey0,ey1];have t0:t7 (x0+900000000) 450000000=(x0+900000000)/450000000:=ayZ (by omega);have t1:t7 (x1+1800000000) 600000000=(x1+1800000000)/600000000:=ayZ (by omega);rw[t0,t1,fL (n:=(x0+900000000)/450000000) (by omega) (by omega),fL (n:=(x1+1800000000)/600000000) (by omega) (by omega)];generalize hi:(if (3:Int)<(x0+900000000)/450000000 then(3:Int) else(x0+900000000)/450000000)=i
 generalize hj:(if (5:Int)<(x1+1800000000)/600000000 then(5:Int) else(x1+1800000000)/600000000)=j
 have hi':0<=i/\i<=3/\0<=x0+900000000-i*450000000/\x0+900000000-i*450000000<=450000000:=by
  split at hi<;>omega
 have hj':0<=j/\j<=5/\0<=x1+1800000000-j*600000000/\x1+1800000000-j*600000000<=600000000:=by
  split at hj<;>omega
 clear hi hj t0 t1 ey0 ey1
 obtain⟨i0,i1,u0,u1⟩:=hi';obtain⟨j0,j1,v0,v1⟩:=hj';rw[fL (n:=i*450000000) (by omega) (by omega),fL (n:=j*600000000) (by omega) (by omega),fL (n:=x0+900000000-i*450000000) (by omega) (by omega),fL (n:=x1+1800000000-j*600000000) (by omega) (by omega),bk i0 (by omega)];have r1:bg i 5=true:=by rw[cm];omega
 have r2:bg (i+1) 5=true:=by rw[cm];omega
 rw[r1,r2];generalize x0+900000000-i*450000000=u at u0 u1 ⊢
 generalize x1+1800000000-j*600000000=v at v0 v1 ⊢
 have fin:∀d:Int, -86973087744000<=d->d<=86973087744000->Ok (kY d 3373259426 19327352832000 h) (λ_=>True):=by
  intro d d0 d1;obtain⟨q0,q1⟩:=aSD (n:=d*3373259426) (d:=19327352832000) (m:=1000000000000000) (by omega) (by omega) (by omega) (by omega);rw[aFW (by omega) (by omega) (by omega) (by omega) (by omega) (by omega) (by omega) (by omega) (by omega) h];exact⟨_,rfl,trivial⟩
 rw[bA];intro _ _
 repeat' (first
  |rw[aR]
  |(with_reducible refine ay (aTX _ _ _ _ _ _ _ _ _ _ (by decide) j0 j1 v0 v1) λr _ hr=> ?_)
  |(with_reducible refine ay (aIE _ _ _ _ _ 28991029248000 ?_ ?_ ?_ ?_ u0 u1 (by omega) (by omega) (by omega)) λs _ hs=> ?_)
  |(with_reducible refine ay (fin _ ?_ ?_) λt _ _=> ?_)
  |(rw[aK];refine⟨λc=> ?_,λc=> ?_⟩))
 all_goals first
  |(rw[av];trivial)
  |omega
instance aSE (x:kp.B):bl (kq x):=by
 unfold kq tV;try dsimp only
 have t:=aOu;exact aF (by rw[bA];intro _ _;rw[av];trivial)
theorem aRq (x:jO.B):Ok (iv x) (λr:Fz=>r.1.d.c.b.2.2=x.2.1.d.c.b.2.2/\r.1.c.1=x.2.1.c.1/\r.1.d.c.2.1=x.2.1.d.c.2.1):=by
 unfold iv FA;try dsimp only
 show PQ _ _;simp only[aM]
 repeat' (first
  |rw[aR]
  |(with_reducible refine ay (aeT _ ?_) λe _ he=> ?_)
  |(with_reducible refine ay (bl.Ok (aOu _ _ _ _) (Q:=λ_=>True) λ_ _=>trivial) λ_ _ _=> ?_)
  |(rw[tH];refine⟨λ_ _=> ?_,λ_ _=> ?_⟩)
  |(rw[bA];intro _ _)
  |(rw[aK];refine⟨λc=> ?_,λc=> ?_⟩))
 all_goals first
  |(rw[av];exact he.2)
  |(rw[av];exact⟨rfl,rfl,rfl⟩)
  |(dsimp only;omega)
theorem aZK (x:lJ.B)(k:bg x.1.1 6=true)(h:x.2.1.d.c.b.2.2<=90000):Ok (nr x) (λr:zf=>match r with|.inl e=>e.1.d.c.b.2.2<=x.2.1.d.c.b.2.2+3/\e.1.c.1=x.2.1.c.1/\e.1.d.c.2.1=x.2.1.d.c.2.1|.inr e=>e.1.1.d.c.b.2.2<=x.2.1.d.c.b.2.2+3/\e.1.1.c.1=x.2.1.c.1/\e.1.1.d.c.2.1=x.2.1.d.c.2.1):=by
 have hi:bg x.1.1 6=true:=k;unfold nr Eg;try dsimp only
 show PQ _ _;simp only[aM,hi]
 repeat' (first
  |rw[aR]
  |(with_reducible refine ay (aYb _ ?_) λe _ he=> ?_)
  |(with_reducible refine ay (aFV _ ?_) λe _ he=> ?_)
  |(with_reducible refine ay (aLa _) λe _ he=> ?_)
  |(with_reducible refine ay (aRq _) λe _ he=> ?_)
  |(with_reducible refine ay (aLb _) λe _ he=> ?_)
  |(with_reducible refine ay (aYa _) λe _ he=> ?_)
  |(rw[tH];refine⟨λe0 e1=> ?_,λe0 e1=> ?_⟩)
  |(rw[bA];intro _ _)
  |(rw[aK];refine⟨λc=> ?_,λc=> ?_⟩))
 all_goals first
  |(dsimp only;omega)
  |(rw[av];exact⟨bZ (Nat.le_of_eq he.1) (Nat.le_add_right _ _),he.2⟩)
  |(rw[av];exact⟨Nat.le_add_right _ _,rfl,rfl⟩)
  |(rw[e1] at he;rw[av];exact he)
  |(rw[e1] at he;rw[av];exact⟨bZ he.1 (Nat.add_le_add_left (by decide) _),he.2⟩)
  |skip
theorem aLd (n:Int):∀(d:za.B) (hd:0<=d.1.2.2.2.2/\d.1.2.2.2.2<=3/\d.1.2.1=n/\d.1.2.2.1=n/\0<=n/\n<=3),Ok (anE d) (λx:Rm=>x.1.2.2.1=n):=
 bL (λd:za.B=>ws (3-d.1.2.2.2.2)) (λd hd=>by
  have hw:wI (d.1.2.2.2.2+1)=d.1.2.2.2.2+1:=bk;obtain⟨c0,c1,i0,i1,i2,i3⟩:=hd;have w0:wI (0+d.1.2.1)=d.1.2.1:=by rw[aDm];exact fL (by omega) (by omega)
  have w1:wI (10+d.1.2.2.2.2)=10+d.1.2.2.2.2:=fL;unfold anD;dsimp only;rw[w0,w1,hw];rw[aK];refine⟨λh=> ?_,λ_=>by rw[av];exact i1⟩;have h:=eF h;have r0:bg d.1.2.2.2.2 3=true:=by rw[cm];omega
  have r1:bg d.1.2.1 24=true:=by rw[cm];omega
  have r2:bg (10+d.1.2.2.2.2) 24=true:=by rw[cm];omega
  have r3:(true&&wd (0+(ws d.1.2.1*24+ws (10+d.1.2.2.2.2))*1+1) 576)=true:=by rw[GF,eQ];omega
  rw[r0,r1,r2,r3]
  repeat' (first
   |rw[aR]
   |(rw[aK];refine⟨λc=> ?_,λc=> ?_⟩)
   |(rw[bA];intro _ _))
  all_goals (rw[av];exact⟨⟨by show 0<=d.1.2.2.2.2+1;omega,by show d.1.2.2.2.2+1<=3;omega,i0,i1,i2,i3⟩,by show ws (3-(d.1.2.2.2.2+1))<_;omega⟩)) (λd hd=>by omega)
theorem aLe (n:Int):∀(d:zb.B) (hd:0<=d.1.2.2/\d.1.2.2<=3/\d.1.1=n/\d.1.2.1=n/\0<=n/\n<=2),Ok (anG d) (λx:Rn=>x.1.1=n/\x.1.2.1=n):=
 bL (λd:zb.B=>ws (3-d.1.2.2)) (λd hd=>by
  have hw:wI (d.1.2.2+1)=d.1.2.2+1:=bk;obtain⟨c0,c1,i0,i1,i2,i3⟩:=hd;have w0:wI (4+d.1.1)=4+d.1.1:=fL;have w1:wI (13+d.1.2.2)=13+d.1.2.2:=fL;have w2:wI (3*d.1.1)=3*d.1.1:=fL;have w3:wI (3*d.1.1+d.1.2.2)=3*d.1.1+d.1.2.2:=fL;unfold anF;dsimp only;rw[w0,w1,w2,w3,hw];rw[aK];refine⟨λh=> ?_,λ_=>by rw[av];exact⟨i0,i1⟩⟩;have h:=eF h;have r0:bg (3*d.1.1+d.1.2.2) 9=true:=by rw[cm];omega
  have r1:bg (4+d.1.1) 24=true:=by rw[cm];omega
  have r2:bg (13+d.1.2.2) 24=true:=by rw[cm];omega
  have r3:(true&&wd (0+(ws (4+d.1.1)*24+ws (13+d.1.2.2))*1+1) 576)=true:=by rw[GF,eQ];omega
  rw[r0,r1,r2,r3]
  repeat' (first
   |rw[aR]
   |(rw[aK];refine⟨λc=> ?_,λc=> ?_⟩)
   |(rw[bA];intro _ _))
  all_goals (rw[av];exact⟨⟨by show 0<=d.1.2.2+1;omega,by show d.1.2.2+1<=3;omega,i0,i1,i2,i3⟩,by show ws (3-(d.1.2.2+1))<_;omega⟩)) (λd hd=>by omega)
theorem aLf:∀(d:zd.B) (hd:0<=d.1.2/\d.1.2<=4),Ok (anI d) (λx:Ro=>True):=
 bL (λd:zd.B=>ws (4-d.1.2)) (λd hd=>by
  have hw:wI (d.1.2+1)=d.1.2+1:=bk;obtain⟨c0,c1⟩:=hd;have w0:wI (0+d.1.2)=d.1.2:=by rw[aDm];exact fL (by omega) (by omega)
  unfold anH;dsimp only;rw[w0];rw[aK];refine⟨λh=> ?_,λ_=>by rw[av];trivial⟩;have h:=eF h;have r0:bg d.1.2 4=true:=by rw[cm];omega
  have r1:bg d.1.2 24=true:=by rw[cm];omega
  have r3:(true&&wd (0+ws d.1.2*24+4) 576)=true:=by rw[GF,eQ];omega
  rw[r0,r1,r3]
  repeat' (first
   |rw[aR]
   |(rw[aK];refine⟨λc=> ?_,λc=> ?_⟩)
   |(with_reducible refine ay (aLd d.1.2 _ ⟨eW 0,(show(0:Int)<=3 by decide),rfl,rfl,c0,by omega⟩) λe _ he=> ?_))
  all_goals (rw[av,he,hw];exact⟨⟨by show 0<=d.1.2+1;omega,by show d.1.2+1<=4;omega⟩,by show ws (4-(d.1.2+1))<_;omega⟩)) (λd hd=>by omega)
theorem aLg:∀(d:ze.B) (hd:0<=d.1/\d.1<=3),Ok (anK d) (λx:Rp=>True):=
 bL (λd:ze.B=>ws (3-d.1)) (λd hd=>by
  obtain⟨c0,c1⟩:=hd;have hw:wI (d.1+1)=d.1+1:=bk;have w0:wI (4+d.1)=4+d.1:=fL;have w1:wI (7+d.1)=7+d.1:=fL;unfold anJ;dsimp only;rw[w0];rw[aK];refine⟨λh=> ?_,λ_=>by rw[av];trivial⟩;have h:=eF h;have r0:bg d.1 3=true:=by rw[cm];omega
  have r1:bg (4+d.1) 24=true:=by rw[cm];omega
  have r2:bg (7+d.1) 24=true:=by rw[cm];omega
  have r3:(true&&wd (0+ws (4+d.1)*24+4) 576)=true:=by rw[GF,eQ];omega
  have r4:(true&&wd (0+(ws (7+d.1)*24+ws (4+d.1))*1+1) 576)=true:=by rw[GF,eQ];omega
  rw[r0,r1,r3]
  repeat' (first
   |rw[aR]
   |(with_reducible refine ay (aLe d.1 _ ⟨eW 0,(show(0:Int)<=3 by decide),rfl,rfl,c0,by omega⟩) λe _ he=> ?_)
   |(rw[he.1,he.2,w0,w1,hw,r1,r2,r4])
   |(rw[aK];refine⟨λc=> ?_,λc=> ?_⟩))
  all_goals (rw[av];exact⟨⟨by show 0<=d.1+1;omega,by show d.1+1<=3;omega⟩,by show ws (3-(d.1+1))<_;omega⟩)) (λd hd=>by omega)
instance a2c (x0:Nat->Int)(x1:Int)(x2:Int)(x3:Int)(x4:Int)(x5:Int)(x6:Int)(x7:Int)(x8:Int)(x9:Bool):bl (aeh x0 x1 x2 x3 x4 x5 x6 x7 x8 x9):=by
 unfold aeh ayk;try dsimp only
 refine aF ?_
 repeat' (first
  |(with_reducible refine ay (aLf _ ⟨eW 0,(show(0:Int)<=4 by decide)⟩) λe _ he=> ?_)
  |(with_reducible refine ay (aLg _ ⟨eW 0,(show(0:Int)<=3 by decide)⟩) λe _ he=> ?_)
  |(rw[bA];intro _ _))
 rw[av];trivial
instance aBk (x0:Nat->Int)(x1:Nat->Int)(x2:Nat->Int)(x3:Int)(x4:Int)(x5:Int)(x6:Int)(x7:Int)(x8:Int)(x9:Int)(fS:Int)(fR:Nat->Int)(zy:Bool):bl (KD x0 x1 x2 x3 x4 x5 x6 x7 x8 x9 fS fR zy):=by
 unfold KD anL;exact aF (by simp only[bJ,qk])
theorem aOv (N:Nat)(hN:N<=1999)(x:nL.B)(h:x.2.1.2.2<=N)(s:x.2.1.1<=(N:Int)):
  Ok (gj x) (λr:rL=>match r with|.inl e=>e.2.1=x.2.1|.inr e=>e.1.1.1=x.2.1.1/\e.1.1.2.2<=N/\x.2.1.2.2<=e.1.1.2.2/\e.1.1.2.2<=e.2.1):=by
 unfold gj zU;try dsimp only
 show PQ _ _;rw[aK];refine⟨λ_=>by rw[av],λh0=> ?_⟩;have hn:x.2.1.2.2≠0:=λe=>by rw[e] at h0;cases h0
 have w:wI (wl x.2.1.2.2-1)=wl (x.2.1.2.2-1):=by
  simp only[dJ];rw[fL (by omega) (by omega)];omega
 have b1:bg (wl (x.2.1.2.2-1)) x.2.1.2.2=true:=by simp only[cm,dJ];omega
 have b2:wd ((x.2.1.2.2+1)*88) 140737488355328=true:=by rw[eQ];omega
 have b3:Kg 1 (x.2.1.2.2+1)=true:=by simp only[ade];omega
 have b4:wd ((0+(x.2.1.2.2+1-1))*88) 140737488355328=true:=by rw[eQ];omega
 rw[w,b1,b2,b3,b4]
 repeat' (first
  |rw[aR]
  |(rw[bA];intro _ _)
  |(rw[aK];refine⟨λc=> ?_,λc=> ?_⟩))
 all_goals first
  |(rw[av];exact⟨rfl,by show 0+(x.2.1.2.2+1-1)<=N;omega,by show x.2.1.2.2<=0+(x.2.1.2.2+1-1);omega,by show 0+(x.2.1.2.2+1-1)<=x.2.1.2.2+1-1;omega⟩)
  |(rw[av];have c:=pf c;simp only[dJ] at c;exact⟨rfl,by show x.2.1.2.2+1<=N;omega,by show x.2.1.2.2<=x.2.1.2.2+1;omega,eO _⟩)
  |(rw[av])
theorem ahH (N q q4:Nat)(q5:Int)(hN:N<=1999)(s:Int)(hs:s<=(N:Int)):∀(d:dE.B) (hd:0<=d.1.2.2/\d.1.2.2<=d.1.2.1/\d.1.2.1<=1999/\d.1.2.1=((d.1.1:Nat):Int)/\d.d.c.1.2.2<=N/\d.d.c.1.1=s/\d.d.c.1.2.2<=d.e.c.2.1/\d.2.1.d.c.2.2=q/\d.2.1.c.1=q4/\d.2.1.d.b.2.1=q5),Ok (iU d) (λx:qz=>x.d.c.1.2.2<=N/\x.d.c.1.1=s/\x.d.c.1.2.2<=x.e.c.2.1/\x.2.1.d.c.2.2=q/\x.2.1.c.1=q4/\x.2.1.d.b.2.1=q5):=
 bL (λd:dE.B=>ws (d.1.2.1-d.1.2.2)) (λd hd=>by
  obtain⟨i0,i1,i2,i3,i4,i5,i6,i7,i8,i9⟩:=hd;have hw:wI (d.1.2.2+1)=d.1.2.2+1:=bk;unfold DS;dsimp only;rw[aK];refine⟨λh=> ?_,λ_=>by rw[av];exact⟨i4,i5,i6,i7,i8,i9⟩⟩;have h:=eF h;have r0:bg d.1.2.2 d.1.1=true:=by rw[cm];omega
  rw[r0,hw,aM,aR,aR];with_reducible refine ay (aOv N hN _ ?_ ?_) λe _ he=> ?_
  .exact i4
  .show d.d.c.1.1<=(N:Int);omega
  rw[tH];refine⟨λa ha=> ?_,λa ha=> ?_⟩
  .rw[ha] at he;have he:a.2.1=d.d.c.1:=he;rw[av];exact⟨⟨by show 0<=d.1.2.2+1;omega,by show d.1.2.2+1<=d.1.2.1;omega,i2,i3,by show a.2.1.2.2<=N;rw[he];exact i4,by show a.2.1.1=s;rw[he];exact i5,by show a.2.1.2.2<=d.e.c.2.1;rw[he];exact i6,i7,i8,i9⟩,by show ws (d.1.2.1-(d.1.2.2+1))<_;omega⟩
  .rw[ha] at he;obtain⟨e1,e2,e3,e4⟩:=he;rw[av];exact⟨⟨by show 0<=d.1.2.2+1;omega,by show d.1.2.2+1<=d.1.2.1;omega,i2,i3,e2,e1.trans i5,e4,i7,i8,i9⟩,by show ws (d.1.2.1-(d.1.2.2+1))<_;omega⟩) (λd hd=>by omega)
theorem aTY (x:gX.B):Ok (eD x) (λr:xB=>r.1.1.1=x.2.1.1):=by
 unfold eD qd;show PQ _ _;rw[bA];intro _ _;rw[av]
theorem aTZ (N:Nat)(h1:1<=N)(hN:N<=1999)(x:fU.B)(hl:x.2.2.2.2.2.2.2.2.2.2.2.2.1.1<=(N:Int))(hq:x.2.1.2.2.2.2.1<=1999):Ok (gR x) (λr:pK=>match r with|.inl e=>e.2=x.2.2.2.2.2.2.2.2.2.2.2.2.1/\e.1.2.2.2.2.2.2.2.2.2.2.2.2.2.2.2.2=x.2.1.2.2.2.2.2.2.2.2.2.2.2.2.2.2.2.2/\e.1.2.2.2.2.1=x.2.1.2.2.2.2.1/\e.1.2.2.2.2.2.2.2.2.2.2.2.2.2.1=x.2.1.2.2.2.2.2.2.2.2.2.2.2.2.2.1|.inr e=>e.1.2.2.2<=N/\e.1.2.1=x.2.2.2.2.2.2.2.2.2.2.2.2.1.1/\e.1.2.2.2<=e.2.1/\e.1.1.2.2.2.2.2.2.2.2.2.2.2.2.2.2=x.2.1.2.2.2.2.2.2.2.2.2.2.2.2.2.2.2.2/\e.1.1.2.2.2.2.1=x.2.1.2.2.2.2.1/\e.1.1.2.2.2.2.2.2.2.2.2.2.2.1=x.2.1.2.2.2.2.2.2.2.2.2.2.2.2.2.1):=by
 unfold gR Ao;try dsimp only
 show PQ _ _;simp only[aM]
 repeat' (first
  |rw[aR]
  |(with_reducible refine ay (aTY _) λe _ he=> ?_)
  |(with_reducible refine ay (ahH N x.2.1.2.2.2.2.2.2.2.2.2.2.2.2.2.2.2.2 x.2.1.2.2.2.2.1 x.2.1.2.2.2.2.2.2.2.2.2.2.2.2.2.1 hN x.2.2.2.2.2.2.2.2.2.2.2.2.1.1 hl _ ?_) λe _ he=> ?_)
  |(rw[bA];intro _ _)
  |(rw[aK];refine⟨λc=> ?_,λc=> ?_⟩))
 all_goals first
  |(rw[av];exact⟨rfl,rfl,rfl,rfl⟩)
  |(rw[av];exact he)
  |(obtain⟨a,b,c,e⟩:=hdN x.2.1.2.2.2.2.1 hq
    exact⟨a,b,c,e,h1,he,eO _,rfl,rfl,rfl⟩)
  |skip
theorem Py (n:Nat)(p:Int×Int×Nat):∀(d:dO.B) (hd:0<=d.1.2.2.2.2/\d.1.2.2.2.2<=d.1.2.2.2.1/\n<=1999/\d.1.2.2.2.1=(n:Int)/\d.1.2.2.1=n/\d.2.1=p/\d.1.2.1<(n:Int)),Ok (sR d) (λx:jP=>x.1.2.2.1=n/\x.2.1=p/\x.1.2.1<(n:Int)):=
 bL (λd:dO.B=>ws (d.1.2.2.2.1-d.1.2.2.2.2)) (λd hd=>by
  have hw:wI (d.1.2.2.2.2+1)=d.1.2.2.2.2+1:=bk;obtain⟨i0,i1,i2,i3,i4,i5,i6⟩:=hd;unfold sQ;dsimp only;rw[aK];refine⟨λh=> ?_,λ_=>by rw[av];exact⟨i4,i5,i6⟩⟩;have h:=eF h;have r0:bg d.1.2.2.2.2 d.1.2.2.1=true:=by rw[cm];omega
  rw[r0,hw,aR,aK];refine⟨λ_=> ?_,λ_=> ?_⟩
  .rw[av];exact⟨⟨by show 0<=d.1.2.2.2.2+1;omega,by show d.1.2.2.2.2+1<=d.1.2.2.2.1;omega,i2,i3,i4,i5,by show d.1.2.2.2.2<(n:Int);omega⟩,by show ws (d.1.2.2.2.1-(d.1.2.2.2.2+1))<_;omega⟩
  .rw[av];exact⟨⟨by show 0<=d.1.2.2.2.2+1;omega,by show d.1.2.2.2.2+1<=d.1.2.2.2.1;omega,i2,i3,i4,i5,i6⟩,by show ws (d.1.2.2.2.1-(d.1.2.2.2.2+1))<_;omega⟩) (λd hd=>by omega)
theorem Pz (d:eS.B)(h0:0<=d.1)(h1:d.1<4):Ok (ns d) (λx:gN=>x.1.1=d.1/\x.2.1=(d.2.1.1,d.2.1.2.2)/\x.b.2.1=d.b.2.1):=by
 have r0:bg d.1 4=true:=by rw[cm];omega
 unfold ns sS;try dsimp only
 show PQ _ _;rw[r0]
 repeat' (first
  |rw[aR]
  |(rw[bA];intro _ _)
  |(rw[aK];refine⟨λc=> ?_,λc=> ?_⟩))
 all_goals (rw[av];exact⟨rfl,rfl,rfl⟩)
theorem PA (a:Int)(n:Nat)(v:Nat×(Nat->Int)×(Nat->Int)×(Nat->Int)×(Nat->Int)×(Nat->Int)×(Nat->Int)×(Nat->Int)×(Nat->Int)×(Nat->Int)×(Nat->Int)×(Nat->Int)):∀(d:dP.B) (hd:0<=d.1/\d.1<=4/\d.2.1.1=a/\d.2.1.2.2=n/\d.b.2.1=v),Ok (sV d) (λx:jQ=>x.2.1.1=a/\x.2.1.2.2=n/\x.b.2.1=v):=
 bL (λd:dP.B=>ws (4-d.1)) (λd hd=>by
  have hw:wI (d.1+1)=d.1+1:=bk;obtain⟨i0,i1,i2,i3,i4⟩:=hd;unfold sU;dsimp only;rw[aK];refine⟨λh=> ?_,λ_=>by rw[av];exact⟨i2,i3,i4⟩⟩;have h:=eF h;have r0:bg d.1 4=true:=by rw[cm];omega
  rw[r0]
  repeat' (first
   |rw[aR]
   |(with_reducible refine ay (Pz _ i0 h) λe _ he=> ?_)
   |(rw[aK];refine⟨λc=> ?_,λc=> ?_⟩))
  all_goals (obtain⟨e1,e2,e3⟩:=he;rw[av,e1,e2,hw];exact⟨⟨by show 0<=d.1+1;omega,by show d.1+1<=4;omega,i2,i3,e3.trans i4⟩,by show ws (4-(d.1+1))<_;omega⟩)) (λd hd=>by omega)
theorem aOw (x:lK.B)(h:x.2.1.2.2<=1999):Ok (lL x) (λr:uQ=>r.b.1=x.2.1.2.2):=by
 unfold lL uS;try dsimp only
 show PQ _ _;rw[aM,aR];with_reducible refine ay (Py x.2.1.2.2 x.2.1 _ ?_) λd _ hd=> ?_
 .exact⟨eW 0,by show(0:Int)<=wl x.2.1.2.2;simp only[dJ];omega,h,rfl,rfl,rfl,by show(-1:Int)<_;omega⟩
 obtain⟨d1,d2,d3⟩:=hd;try dsimp only
 rw[aK];refine⟨λ_=>by rw[av];exact d1,λc=> ?_⟩;have c:=pf c;have r0:bg d.1.2.1 d.2.1.2.2=true:=by rw[cm,d2];omega
 rw[r0,aR];rw[bA];intro e1 _;rw[bA];intro e2 _;rw[bA];intro e3 _;rw[bA];intro e4 _;rw[bA];intro e5 _;with_reducible refine ay (PA x.2.1.1 x.2.1.2.2 (d.1.b.1,d.b.2.1) _ ?_) λf _ hf=> ?_
 .exact⟨by show(0:Int)<=1;decide,by show(1:Int)<=4;decide,by show d.2.1.1=_;rw[d2],by show d.2.1.2.2=_;rw[d2],rfl⟩
 obtain⟨f1,f2,f3⟩:=hf;rw[bA];intro e6 _;rw[aM,aR];with_reducible refine ay (TJ _ ?_) λg _ hg=> ?_
 .show f.2.1.2.2<=1999;omega
 have hg:g.2.1=f.2.1.2.2:=hg;have fn:f.b.2.1.1=x.2.1.2.2:=by rw[f3];exact d1
 have b1:(true&&ww (g.2.1*11+0) (f.2.1.2.2*11)&&true)=true:=by rw[hg,km,aM];rfl
 have b2:(true&&wd (0+(g.2.1*11+0)) (f.b.2.1.1*11+0))=true:=by rw[hg,fn,GF,eQ];omega
 rw[b1,b2,aR,aR,av];exact fn
theorem aoj (a b c:Int):nN a b c=some (decide (b<=a)&&decide (a<=c)):=by
 simp only[nN,MI,ch,cC];by_cases h:b<=a<;>simp[h]
theorem aRr (w:mo.B):∀(d:mo.B) (hd:0<=d.1.2/\d.1.2<=24/\d.2=w.2/\∀j:Nat,(j:Int)<d.1.2->(0<=w.2.2.2.2.2.2.2.2.2.2.2.2.2.2.2.2.2.1 j/\w.2.2.2.2.2.2.2.2.2.2.2.2.2.2.2.2.2.1 j<=72057594037927936)/\1<=w.2.2.2.2.2.2.2.2.2.2.2.2.2.2.2.2.2.2.1 j/\w.2.2.2.2.2.2.2.2.2.2.2.2.2.2.2.2.2.2.1 j<=72057594037927936),Ok (H0 d) (λx:Dv=>match x with|.inl _=>True|.inr e=>e.2=w.2/\∀j:Nat,j<24->(0<=w.2.2.2.2.2.2.2.2.2.2.2.2.2.2.2.2.2.1 j/\w.2.2.2.2.2.2.2.2.2.2.2.2.2.2.2.2.2.1 j<=72057594037927936)/\1<=w.2.2.2.2.2.2.2.2.2.2.2.2.2.2.2.2.2.2.1 j/\w.2.2.2.2.2.2.2.2.2.2.2.2.2.2.2.2.2.2.1 j<=72057594037927936):=
 bL (λd:mo.B=>ws (24-d.1.2)) (λd hd=>by
  have hw:wI (d.1.2+1)=d.1.2+1:=bk;obtain⟨i0,i1,i2,i3⟩:=hd;unfold Qk;dsimp only;rw[aK];refine⟨λh=> ?_,λh=> ?_⟩
  .have h:=eF h;have r0:bg d.1.2 24=true:=by rw[cm];omega
   have r1:wd (0+ws d.1.2*1+1) 24=true:=by rw[eQ];omega
   rw[r0,r1,aR,aR,aoj,dH,aK];refine⟨λ_=>by rw[av];trivial,λc=> ?_⟩;rw[aR,aR,aoj,dH,aK];refine⟨λ_=>by rw[av];trivial,λc2=> ?_⟩;rw[ae9,cy,lY,lY] at c c2;rw[av,hw];refine⟨⟨by show 0<=d.1.2+1;omega,by show d.1.2+1<=24;omega,i2,λj hj=> ?_⟩,by show ws (24-(d.1.2+1))<_;omega⟩;have hj:(j:Int)<d.1.2+1:=hj;by_cases e:(j:Int)<d.1.2
   .exact i3 j e
   .have e2:ws d.1.2=j:=by omega
    rw[e2,i2] at c c2;exact⟨c,c2⟩
  .have h:=pf h;rw[av];exact⟨i2,λj hj=>i3 j (by omega)⟩) (λd hd=>by omega)
structure aYd (x:Ff.B):Prop where
 place:∃e,yR x.2.2.2.2.2.2.2.2.2.2.2.2.2.1 x.2.2.2.2.2.2.2.2.2.2.2.2.2.2.1 x.2.2.2.2.2.2.2.2.2.2.2.2.2.2.2=some (wn e)
 arr:∀j:Nat,j<24->(0<=x.2.2.2.2.2.2.1 j/\x.2.2.2.2.2.2.1 j<=72057594037927936)/\1<=x.2.2.2.2.2.2.2.1 j/\x.2.2.2.2.2.2.2.1 j<=72057594037927936
 nums:1000<=x.1/\x.1<=100000/\0<=x.2.1/\x.2.1<=300000/\1<=x.2.2.1/\x.2.2.1<=64/\0<=x.2.2.2.1/\x.2.2.2.1<=100/\0<=x.2.2.2.2.2.2.2.2.1/\x.2.2.2.2.2.2.2.2.1<=1099511627776/\1<=x.2.2.2.2.2.2.2.2.2.1/\x.2.2.2.2.2.2.2.2.2.1<=72057594037927936/\0<=x.2.2.2.2.2.2.2.2.2.2.1/\x.2.2.2.2.2.2.2.2.2.2.1<=3/\1<=x.2.2.2.2.2.2.2.2.2.2.2.1/\x.2.2.2.2.2.2.2.2.2.2.2.1<=1073741824/\1<=x.2.2.2.2.2.2.2.2.2.2.2.2.1/\x.2.2.2.2.2.2.2.2.2.2.2.2.1<=64/\1<=x.2.2.2.2.1.1/\x.2.2.2.2.1.1<=1000/\1<=x.2.2.2.2.1.2.1/\x.2.2.2.2.1.2.1<=1000/\1<=x.2.2.2.2.1.2.2.1/\x.2.2.2.2.1.2.2.1<=1000/\1<=x.2.2.2.2.1.2.2.2.1/\x.2.2.2.2.1.2.2.2.1<=1000/\1<=x.2.2.2.2.1.2.2.2.2.1/\x.2.2.2.2.1.2.2.2.2.1<=1000/\1<=x.2.2.2.2.1.2.2.2.2.2/\x.2.2.2.2.1.2.2.2.2.2<=1000/\1<=x.2.2.2.2.2.1.1/\x.2.2.2.2.2.1.1<=1099511627776/\1<=x.2.2.2.2.2.1.2.1/\x.2.2.2.2.2.1.2.1<=1099511627776/\1<=x.2.2.2.2.2.1.2.2.1/\x.2.2.2.2.2.1.2.2.1<=1099511627776/\1<=x.2.2.2.2.2.1.2.2.2.1/\x.2.2.2.2.2.1.2.2.2.1<=1099511627776/\1<=x.2.2.2.2.2.1.2.2.2.2.1/\x.2.2.2.2.2.1.2.2.2.2.1<=1099511627776/\1<=x.2.2.2.2.2.1.2.2.2.2.2/\x.2.2.2.2.2.1.2.2.2.2.2<=1099511627776
theorem aT0 (x:Ff.B):Ok (oJ x) (λr:Bool=>r=true->aYd x):=by
 unfold oJ aaj;try dsimp only
 show PQ _ _
 repeat' (first
  |(rw[aoj,dH])
  |(with_reducible refine ay (aRr _ _ ⟨eW 0,(show(0:Int)<=24 by decide),rfl,λj hj=>absurd hj (by show ¬(j:Int)<0;omega)⟩) λe _ he=> ?_)
  |(rw[qc];refine⟨λa ha=> ?_,λa ha=> ?_⟩)
  |(rw[tH];refine⟨λb hb=> ?_,λb hb=> ?_⟩)
  |(rw[bA];intro q hq)
  |(rw[aK];refine⟨λc=> ?_,λc=> ?_⟩<;>(try simp only[o6,ae9,cy,lY,aaN] at c)))
 all_goals first
  |(rw[av];intro hr;exact absurd hr (by decide))
  |skip
 rw[ha] at he;obtain⟨e1,e2⟩:=he;obtain⟨a1,a2⟩:=a;have e1:a2=_:=e1;subst e1;rw[av];intro hr;have hr:=eF hr;rw[hb] at hq;refine⟨⟨_,hq⟩,e2,?_⟩;dsimp only at*
 omega
theorem tE {δ:Type}{Q:δ->Prop}(x y:Pg δ):PQ (.ae false x y) Q=PQ y Q:=by unfold PQ;rw[Pg.ch];rfl
theorem aOx (a:Int)(h:1000<=a)(k:a<=100000):tX a=some (wn a):=by
 have h1:decide (a<1000)=false:=dq (by omega);have h2:decide (a>100000)=false:=dq (by omega);unfold tX IG;rw[h1,h2];rfl
theorem aRs (a:Int)(h:1<=a)(k:a<=64):FD a=some (wn (a,λ_=>0)):=by
 have h1:decide (a<1)=false:=dq (by omega);have h2:decide (a>64)=false:=dq (by omega);unfold FD Yu;rw[h1,h2];rfl
theorem aLh (a b:Int)(h:1<=a)(k:a<=64)(h':1<=b)(k':b<=1073741824):A9 a b=some (wn ((a,b),λ_=>0)):=by
 have h1:decide (a<1)=false:=dq (by omega);have h2:decide (a>64)=false:=dq (by omega);have h3:decide (b<1)=false:=dq (by omega);have h4:decide (b>1073741824)=false:=dq (by omega);unfold A9 Pp;rw[h1,h2,h3,h4];rfl
theorem aLi (T:Nat->Int)(hT:∀j:Nat,j<6->1<=T j/\T j<=1099511627776):∀(d:je.B) (hd:0<=d.1.2.2.2/\d.1.2.2.2<=6/\d.1.2.1.1=6/\d.1.2.2.1=6/\d.2.1=T),Ok (Cv d) (λx:qW=>match x with|.inl _=>False|.inr _=>True):=
 bL (λd:je.B=>ws (6-d.1.2.2.2)) (λd hd=>by
  obtain⟨i0,i1,i2,i3,i4⟩:=hd;have hw:wI (d.1.2.2.2+1)=d.1.2.2.2+1:=bk;unfold Cu;dsimp only;rw[aK];refine⟨λh=> ?_,λ_=>by rw[av];trivial⟩;have h:=eF h;have r0:bg d.1.2.2.2 d.1.2.1.1=true:=by rw[cm];omega
  have r1:bg d.1.2.2.2 6=true:=by rw[cm];omega
  have t:=hT (ws d.1.2.2.2) (by omega);have c1:decide (d.2.1 (ws d.1.2.2.2)<1)=false:=dq (by rw[i4];omega);have c2:decide (d.2.1 (ws d.1.2.2.2)>1099511627776)=false:=dq (by rw[i4];omega);have r2:(wd (0+ws d.1.2.2.2*6+6) 36&&wd (0+ws d.1.2.2.2*6+6) 37)=true:=by rw[cy,eQ,eQ];omega
  rw[r0,c1,c2,r1,r2,hw,aR,tE,tE,aR,aR,av];exact⟨⟨by show 0<=d.1.2.2.2+1;omega,by show d.1.2.2.2+1<=6;omega,i2,i3,i4⟩,by show ws (6-(d.1.2.2.2+1))<_;omega⟩) (λd hd=>by omega)
theorem aLj (m:Int)(T:Nat->Int)(w:Bool)(h:0<=m)(k:m<=100)(hT:∀j:Nat,j<6->1<=T j/\T j<=1099511627776):Ok (qX m 6 T w) (λr:vN=>∃e,r=wn e):=by
 have h1:decide (m<0)=false:=dq (by omega);have h2:decide (m>100)=false:=dq (by omega);unfold qX F9;show PQ _ _;rw[h1,h2,tE,tE,(show(wl 6!=6)=false from rfl),tE,aM,aR];refine ay (aLi T hT _ ⟨eW 0,(show(0:Int)<=6 by decide),rfl,rfl,rfl⟩) λy _ hy=> ?_;rw[qc];refine⟨λa ha=> ?_,λa ha=> ?_⟩
 .rw[ha] at hy;exact hy.elim
 .rw[av];exact⟨_,rfl⟩
theorem aOy (a b c:Int)(h:∃e,yR a b c=some (wn e)):Ok (Dg a b c) (λr:xZ=>∃e,r=wn e):=by
 obtain⟨e,h⟩:=h;have g:(Dg a b c:Option xZ)=yR a b c:=rfl;exact⟨wn e,g.trans h,e,rfl⟩
theorem aZL (x:J1.B):Ok (zZ x) (λr:Pq=>match r with|.inl _=>True|.inr e=>1<=x.2.2.1/\x.2.2.1<=64/\1<=x.2.2.2.2.2.2.2.2.2.2.2.2.1/\x.2.2.2.2.2.2.2.2.2.2.2.2.1<=64/\e.2.2.2.2.1=x.2.2.1/\e.2.2.2.2.2.1=x.2.2.1/\e.2.2.2.2.2.2.1=x.2.2.1/\e.2.2.2.2.2.2.2.1=x.2.2.1/\e.2.2.2.2.2.2.2.2.1=x.2.2.1/\e.2.2.2.2.2.2.2.2.2.1=x.2.2.1/\e.2.2.2.2.2.2.2.2.2.2.2.1.1=x.2.2.2.2.2.2.2.2.2.2.2.2.1):=by
 unfold zZ Yv;try dsimp only
 show PQ _ _;refine ay (aT0 x) λr _ hr=> ?_;rw[aK];refine⟨λ_=>by rw[av];trivial,λc=> ?_⟩;have cc:aYd x:=hr (by simpa using c);have n:=cc.nums
 have hT:∀j:Nat,j<6->1<=(bif ww j 5 then x.2.2.2.2.2.1.2.2.2.2.2 else bif ww j 4 then x.2.2.2.2.2.1.2.2.2.2.1 else bif ww j 3 then x.2.2.2.2.2.1.2.2.2.1 else bif ww j 2 then x.2.2.2.2.2.1.2.2.1 else bif ww j 1 then x.2.2.2.2.2.1.2.1 else bif ww j 0 then x.2.2.2.2.2.1.1 else x.2.2.2.2.2.1.1)/\(bif ww j 5 then x.2.2.2.2.2.1.2.2.2.2.2 else bif ww j 4 then x.2.2.2.2.2.1.2.2.2.2.1 else bif ww j 3 then x.2.2.2.2.2.1.2.2.2.1 else bif ww j 2 then x.2.2.2.2.2.1.2.2.1 else bif ww j 1 then x.2.2.2.2.2.1.2.1 else bif ww j 0 then x.2.2.2.2.2.1.1 else x.2.2.2.2.2.1.1)<=1099511627776:=by
  intro j hj;have e:j=0∨j=1∨j=2∨j=3∨j=4∨j=5:=by omega
  rcases e with rfl|rfl|rfl|rfl|rfl|rfl
  .exact⟨by show 1<=x.2.2.2.2.2.1.1;omega,by show x.2.2.2.2.2.1.1<=1099511627776;omega⟩
  .exact⟨by show 1<=x.2.2.2.2.2.1.2.1;omega,by show x.2.2.2.2.2.1.2.1<=1099511627776;omega⟩
  .exact⟨by show 1<=x.2.2.2.2.2.1.2.2.1;omega,by show x.2.2.2.2.2.1.2.2.1<=1099511627776;omega⟩
  .exact⟨by show 1<=x.2.2.2.2.2.1.2.2.2.1;omega,by show x.2.2.2.2.2.1.2.2.2.1<=1099511627776;omega⟩
  .exact⟨by show 1<=x.2.2.2.2.2.1.2.2.2.2.1;omega,by show x.2.2.2.2.2.1.2.2.2.2.1<=1099511627776;omega⟩
  .exact⟨by show 1<=x.2.2.2.2.2.1.2.2.2.2.2;omega,by show x.2.2.2.2.2.1.2.2.2.2.2<=1099511627776;omega⟩
 rw[bA];intro _ _;rw[bA];intro _ _;rw[bA];intro _ _;refine ay (aOy _ _ _ cc.place) λf _ hf=> ?_;obtain⟨f,rfl⟩:=hf;rw[tH];refine⟨λ_ h=>(nomatch h),λf hf=> ?_⟩;rw[aOx _ (by omega) (by omega),dH,tH];refine⟨λ_ h=>(nomatch h),λg hg=> ?_⟩;refine ay (aLj _ _ _ (by omega) (by omega) hT) λh _ hh=> ?_;obtain⟨h,rfl⟩:=hh;rw[tH];refine⟨λ_ h=>(nomatch h),λf hf=> ?_⟩;rw[aLh _ _ (by omega) (by omega) (by omega) (by omega),dH,tH];refine⟨λ_ h=>(nomatch h),λp hp=> ?_⟩;rw[aRs _ (by omega) (by omega)];rw[dH,tH];refine⟨λ_ h=>(nomatch h),λb0 Qz=> ?_⟩;cases Qz;rw[dH,tH];refine⟨λ_ h=>(nomatch h),λb1 hb1=> ?_⟩;cases hb1;rw[dH,tH];refine⟨λ_ h=>(nomatch h),λb2 ED=> ?_⟩;cases ED;rw[dH,tH];refine⟨λ_ h=>(nomatch h),λb3 hb3=> ?_⟩;cases hb3;rw[dH,tH];refine⟨λ_ h=>(nomatch h),λb4 hb4=> ?_⟩;cases hb4;rw[dH,tH];refine⟨λ_ h=>(nomatch h),λb5 hb5=> ?_⟩;cases hb5;cases hp;rw[av];refine⟨by omega,by omega,by omega,by omega,rfl,rfl,rfl,rfl,rfl,rfl,rfl⟩
theorem aT1 (J:Int)(w:bG.B):∀(d:bG.B) (hd:0<=d.1.2.2.2.2/\d.1.2.2.2.2<=d.1.2.2.2.1/\d.1.2.2.2.1=((d.1.2.2.1:Nat):Int)/\d.1.2.2.2.1<=64/\((d.2.1.2.2.2.2.2.2.2.2.2.2.2.2.2.2.2.2:Nat):Int)+3*(d.1.2.2.2.1-d.1.2.2.2.2)<=J/\J<=90000/\bg d.1.1 6=true/\d.1.2.1=w.1.2.1/\d.2.2.2.2.2.1=w.2.2.2.2.2.1/\d.2.2.2.2.2.2.1=w.2.2.2.2.2.2.1/\d.2.2.2.2.2.2.2.1=w.2.2.2.2.2.2.2.1/\d.2.2.2.2.2.2.2.2.1=w.2.2.2.2.2.2.2.2.1/\d.2.2.2.2.2.2.2.2.2.1=w.2.2.2.2.2.2.2.2.2.1/\d.2.2.2.2.2.2.2.2.2.2.1=w.2.2.2.2.2.2.2.2.2.2.1/\d.2.2.2.2.2.2.2.2.2.2.2.2.1=w.2.2.2.2.2.2.2.2.2.2.2.2.1/\d.2.2.2.2.2.2.2.2.2.2.2.2.2.2.2.2.2.2.2.2.2.2.2.1=w.2.2.2.2.2.2.2.2.2.2.2.2.2.2.2.2.2.2.2.2.2.2.2.1/\d.2.1.2.2.2.2.1=w.2.1.2.2.2.2.1/\d.2.1.2.2.2.2.2.2.2.2.2.2.2.2.2.1=w.2.1.2.2.2.2.2.2.2.2.2.2.2.2.2.1/\d.2.2.2.2.2.2.2.2.2.2.2.2.2.2.1=w.2.2.2.2.2.2.2.2.2.2.2.2.2.2.1),Ok (gv d) (λx:gu=>((x.2.1.2.2.2.2.2.2.2.2.2.2.2.2.2.2.2.2:Nat):Int)<=J/\x.1.2.1=w.1.2.1/\x.2.2.2.2.2.1=w.2.2.2.2.2.1/\x.2.2.2.2.2.2.1=w.2.2.2.2.2.2.1/\x.2.2.2.2.2.2.2.1=w.2.2.2.2.2.2.2.1/\x.2.2.2.2.2.2.2.2.1=w.2.2.2.2.2.2.2.2.1/\x.2.2.2.2.2.2.2.2.2.1=w.2.2.2.2.2.2.2.2.2.1/\x.2.2.2.2.2.2.2.2.2.2.1=w.2.2.2.2.2.2.2.2.2.2.1/\x.2.2.2.2.2.2.2.2.2.2.2.2.1=w.2.2.2.2.2.2.2.2.2.2.2.2.1/\x.2.2.2.2.2.2.2.2.2.2.2.2.2.2.2.2.2.2.2.2.2.2.2.1=w.2.2.2.2.2.2.2.2.2.2.2.2.2.2.2.2.2.2.2.2.2.2.2.1/\x.2.1.2.2.2.2.1=w.2.1.2.2.2.2.1/\x.2.1.2.2.2.2.2.2.2.2.2.2.2.2.2.1=w.2.1.2.2.2.2.2.2.2.2.2.2.2.2.2.1/\x.2.2.2.2.2.2.2.2.2.2.2.2.2.2.1=w.2.2.2.2.2.2.2.2.2.2.2.2.2.2.1):=
 bL (λd:bG.B=>ws (d.1.2.2.2.1-d.1.2.2.2.2)) (λd hd=>by
  obtain⟨i0,i1,i2,i3,i4,i5,i6,i7,ik⟩:=hd;have hw:wI (d.1.2.2.2.2+1)=d.1.2.2.2.2+1:=bk;unfold oQ;dsimp only;rw[aK];refine⟨λh=> ?_,λ_=>by rw[av];exact⟨by show((d.2.1.2.2.2.2.2.2.2.2.2.2.2.2.2.2.2.2:Nat):Int)<=J;omega,i7,ik⟩⟩;have h:=eF h;have r0:bg d.1.2.2.2.2 d.1.2.2.1=true:=by rw[cm];omega
  rw[r0,hw];simp only[aM]
  repeat' (first
   |rw[aR]
   |(with_reducible refine ay (aZK _ ?_ ?_) λe _ he=> ?_)
   |(rw[tH];refine⟨λa ha=> ?_,λa ha=> ?_⟩))
  .exact i6
  .show d.2.1.2.2.2.2.2.2.2.2.2.2.2.2.2.2.2.2<=90000;omega
  .rw[ha] at he;have he:a.1.2.2.2.2.2.2.2.2.2.2.2.2.2.2.2.2<=d.2.1.2.2.2.2.2.2.2.2.2.2.2.2.2.2.2.2+3/\a.1.2.2.2.2.1=d.2.1.2.2.2.2.1/\a.1.2.2.2.2.2.2.2.2.2.2.2.2.2.1=d.2.1.2.2.2.2.2.2.2.2.2.2.2.2.2.1:=he;rw[av];exact⟨⟨by show 0<=d.1.2.2.2.2+1;omega,by show d.1.2.2.2.2+1<=d.1.2.2.2.1;omega,i2,i3,by show((a.1.2.2.2.2.2.2.2.2.2.2.2.2.2.2.2.2:Nat):Int)+3*(d.1.2.2.2.1-(d.1.2.2.2.2+1))<=J;omega,i5,i6,i7,ik.1,ik.2.1,ik.2.2.1,ik.2.2.2.1,ik.2.2.2.2.1,ik.2.2.2.2.2.1,ik.2.2.2.2.2.2.1,ik.2.2.2.2.2.2.2.1,he.2.1.trans ik.2.2.2.2.2.2.2.2.1,he.2.2.trans ik.2.2.2.2.2.2.2.2.2.1,ik.2.2.2.2.2.2.2.2.2.2⟩,by show ws (d.1.2.2.2.1-(d.1.2.2.2.2+1))<_;omega⟩
  .rw[ha] at he;have he:a.1.1.2.2.2.2.2.2.2.2.2.2.2.2.2.2.2.2<=d.2.1.2.2.2.2.2.2.2.2.2.2.2.2.2.2.2.2+3/\a.1.1.2.2.2.2.1=d.2.1.2.2.2.2.1/\a.1.1.2.2.2.2.2.2.2.2.2.2.2.2.2.1=d.2.1.2.2.2.2.2.2.2.2.2.2.2.2.2.1:=he;rw[av];exact⟨⟨by show 0<=d.1.2.2.2.2+1;omega,by show d.1.2.2.2.2+1<=d.1.2.2.2.1;omega,i2,i3,by show((a.1.1.2.2.2.2.2.2.2.2.2.2.2.2.2.2.2.2:Nat):Int)+3*(d.1.2.2.2.1-(d.1.2.2.2.2+1))<=J;omega,i5,i6,i7,ik.1,ik.2.1,ik.2.2.1,ik.2.2.2.1,ik.2.2.2.2.1,ik.2.2.2.2.2.1,ik.2.2.2.2.2.2.1,ik.2.2.2.2.2.2.2.1,he.2.1.trans ik.2.2.2.2.2.2.2.2.1,he.2.2.trans ik.2.2.2.2.2.2.2.2.2.1,ik.2.2.2.2.2.2.2.2.2.2⟩,by show ws (d.1.2.2.2.1-(d.1.2.2.2.2+1))<_;omega⟩) (λd hd=>by omega)
theorem aZM (d:bG.B)(a:d.1.2.2.2.2=0)(b:d.1.2.2.2.1=((d.1.2.2.1:Nat):Int))(c:d.1.2.2.1<=64)(k:bg d.1.1 6=true)(j:d.2.1.2.2.2.2.2.2.2.2.2.2.2.2.2.2.2.2<=80000):Ok (gv d) (λx:gu=>x.2.1.2.2.2.2.2.2.2.2.2.2.2.2.2.2.2.2<=d.2.1.2.2.2.2.2.2.2.2.2.2.2.2.2.2.2.2+3*d.1.2.2.1/\x.1.2.1=d.1.2.1/\x.2.2.2.2.2.1=d.2.2.2.2.2.1/\x.2.2.2.2.2.2.1=d.2.2.2.2.2.2.1/\x.2.2.2.2.2.2.2.1=d.2.2.2.2.2.2.2.1/\x.2.2.2.2.2.2.2.2.1=d.2.2.2.2.2.2.2.2.1/\x.2.2.2.2.2.2.2.2.2.1=d.2.2.2.2.2.2.2.2.2.1/\x.2.2.2.2.2.2.2.2.2.2.1=d.2.2.2.2.2.2.2.2.2.2.1/\x.2.2.2.2.2.2.2.2.2.2.2.2.1=d.2.2.2.2.2.2.2.2.2.2.2.2.1/\x.2.2.2.2.2.2.2.2.2.2.2.2.2.2.2.2.2.2.2.2.2.2.2.1=d.2.2.2.2.2.2.2.2.2.2.2.2.2.2.2.2.2.2.2.2.2.2.2.1/\x.2.1.2.2.2.2.1=d.2.1.2.2.2.2.1/\x.2.1.2.2.2.2.2.2.2.2.2.2.2.2.2.1=d.2.1.2.2.2.2.2.2.2.2.2.2.2.2.2.1/\x.2.2.2.2.2.2.2.2.2.2.2.2.2.2.1=d.2.2.2.2.2.2.2.2.2.2.2.2.2.2.1):=
 Ok.mono (aT1 (((d.2.1.2.2.2.2.2.2.2.2.2.2.2.2.2.2.2.2:Nat):Int)+3*d.1.2.2.2.1) d d ⟨by omega,by omega,b,by omega,by omega,by omega,k,rfl,rfl,rfl,rfl,rfl,rfl,rfl,rfl,rfl,rfl,rfl,rfl⟩) λx hx=>⟨by have h:=hx.1;omega,hx.2⟩
theorem aT2 (w d:cw.B)(W5:w.c.2.1.b.1<=64)(W6:w.c.b.1.b.1<=64)(W7:w.c.b.2.1.b.1<=64)(W8:w.d.1.b.1<=64)(W9:w.d.2.1.b.1<=64)(W10:w.d.b.1.b.1<=64)(hd:0<=d.1/\d.1<=6/\((d.2.1.d.c.b.2.2:Nat):Int)+192*(6-d.1)<=1152/\BR w.d.c.b.1.1 w.c.2.1 d.c.2.1/\BR w.d.c.b.1.1 w.c.b.1 d.c.b.1/\BR w.d.c.b.1.1 w.c.b.2.1 d.c.b.2.1/\BR w.d.c.b.1.1 w.d.1 d.d.1/\BR w.d.c.b.1.1 w.d.2.1 d.d.2.1/\BR w.d.c.b.1.1 w.d.b.1 d.d.b.1/\d.d.c.1=w.d.c.1/\d.e.c.b.1=w.e.c.b.1/\d.2.1.c.1=w.2.1.c.1/\d.2.1.d.c.2.1=w.2.1.d.c.2.1/\d.d.c.b.1.1=w.d.c.b.1.1):Ok (iw d) (λx:jT=>x.2.1.d.c.b.2.2<=1152/\BR w.d.c.b.1.1 w.c.2.1 x.c.2.1/\BR w.d.c.b.1.1 w.c.b.1 x.c.b.1/\BR w.d.c.b.1.1 w.c.b.2.1 x.c.b.2.1/\BR w.d.c.b.1.1 w.d.1 x.d.1/\BR w.d.c.b.1.1 w.d.2.1 x.d.2.1/\BR w.d.c.b.1.1 w.d.b.1 x.d.b.1/\x.d.c.1=w.d.c.1/\x.e.c.b.1=w.e.c.b.1/\x.2.1.c.1=w.2.1.c.1/\x.2.1.d.c.2.1=w.2.1.d.c.2.1):=by
 revert d
 exact bL (λd:cw.B=>ws (6-d.1)) (λd hd=>by
  obtain⟨i0,i1,i2,s5,s6,s7,s8,s9,Y1,i12,i22,i4,it,i14⟩:=hd;have hw:wI (d.1+1)=d.1+1:=bk;unfold oR;dsimp only;rw[aK];refine⟨λh=> ?_,λ_=>by rw[av];exact⟨by show d.2.1.d.c.b.2.2<=1152;omega,s5,s6,s7,s8,s9,Y1,i12,i22,i4,it⟩⟩;have h:=eF h;have r0:bg d.1 6=true:=by rw[cm];omega
  rw[r0];simp only[aM]
  repeat' (first
   |rw[aR]
   |(with_reducible refine ay (aID _ ?_) λe _ he=> ?_)
   |(with_reducible refine ay (aZM _ ?_ ?_ ?_ ?_ ?_) λy _ hy=> ?_)
   |(rw[aK];refine⟨λc=> ?_,λc=> ?_⟩))
  all_goals first
   |(rw[av]
     obtain⟨p1,p2⟩:=he;have p2:=BR.mono (Int.le_of_eq i14) p2;obtain⟨y1,y2,hb5,hb6,hb7,hb8,hb9,a2X,h12,h23,h4,ht,hh⟩:=hy;have p1':e.1<=64:=by first|exact bZ p1 (bZ s5.len W5)|exact bZ p1 (bZ s6.len W6)|exact bZ p1 (bZ s7.len W7)|exact bZ p1 (bZ s8.len W8)|exact bZ p1 (bZ s9.len W9)|exact bZ p1 (bZ Y1.len W10)
     have y2:y.1.2.1=d.1:=y2;have y1:y.2.1.d.c.b.2.2<=d.2.1.d.c.b.2.2+3*e.1:=y1;have hw':wI (y.1.2.1+1)=d.1+1:=by rw[y2];exact hw
     exact⟨⟨by show 0<=wI (y.1.2.1+1);omega,by show wI (y.1.2.1+1)<=6;omega,by show((y.2.1.d.c.b.2.2:Nat):Int)+192*(6-wI (y.1.2.1+1))<=1152;omega,
    (by rw[show y.c.2.1=_ from hb5];first|exact s5|exact s5.trans p2),
    (by rw[show y.c.b.1=_ from hb6];first|exact s6|exact s6.trans p2),
    (by rw[show y.c.b.2.1=_ from hb7];first|exact s7|exact s7.trans p2),
    (by rw[show y.d.1=_ from hb8];first|exact s8|exact s8.trans p2),
    (by rw[show y.d.2.1=_ from hb9];first|exact s9|exact s9.trans p2),
    (by rw[show y.d.b.1=_ from a2X];first|exact Y1|exact Y1.trans p2),
    h12.trans i12,h23.trans i22,h4.trans i4,ht.trans it,(cM (λz=>z.1) hh).trans i14⟩,by show ws (6-wI (y.1.2.1+1))<_;omega⟩)
   |rfl
   |exact r0
   |(show d.2.1.d.c.b.2.2<=80000
     omega)
   |(obtain⟨p1,p2⟩:=he
     first|exact bZ p1 (bZ s5.len W5)|exact bZ p1 (bZ s6.len W6)|exact bZ p1 (bZ s7.len W7)|exact bZ p1 (bZ s8.len W8)|exact bZ p1 (bZ s9.len W9)|exact bZ p1 (bZ Y1.len W10))
   |exact bZ s5.len (bZ W5 (by decide))
   |exact bZ s6.len (bZ W6 (by decide))
   |exact bZ s7.len (bZ W7 (by decide))
   |exact bZ s8.len (bZ W8 (by decide))
   |exact bZ s9.len (bZ W9 (by decide))
   |exact bZ Y1.len (bZ W10 (by decide))) (λd hd=>by omega)
theorem aT3 (w:cv.B):∀(d:cv.B) (hd:0<=d.1/\d.1<=6/\d.2.1=w.2.1/\d.c.2.1=w.c.2.1/\d.c.b.1=w.c.b.1/\d.c.b.2.1=w.c.b.2.1/\d.d.1=w.d.1/\d.d.2.1=w.d.2.1/\d.d.b.1=w.d.b.1/\d.d.c.1=w.d.c.1/\d.e.c.b.2.1=w.e.c.b.2.1),Ok (gx d) (λx:mD=>x.2.1=w.2.1/\x.c.2.1=w.c.2.1/\x.c.b.1=w.c.b.1/\x.c.b.2.1=w.c.b.2.1/\x.d.1=w.d.1/\x.d.2.1=w.d.2.1/\x.d.b.1=w.d.b.1/\x.d.c.1=w.d.c.1/\x.e.c.b.2.1=w.e.c.b.2.1):=
 bL (λd:cv.B=>ws (6-d.1)) (λd hd=>by
  obtain⟨i0,i1,ik⟩:=hd;have hw:wI (d.1+1)=d.1+1:=bk;unfold sW;dsimp only;rw[aK];refine⟨λh=> ?_,λ_=>by rw[av];exact ik⟩;have h:=eF h;have r0:bg d.1 6=true:=by rw[cm];omega
  rw[r0,hw,bA];intro _ _;rw[aR]
  repeat' (first
   |(rw[aK];refine⟨λc=> ?_,λc=> ?_⟩))
  all_goals
   rw[av];exact⟨⟨by show 0<=d.1+1;omega,by show d.1+1<=6;omega,ik⟩,by show ws (6-(d.1+1))<_;omega⟩) (λd hd=>by omega)
theorem aSF (d:dB.B)(h:d.d.b.2.1.2.2<=1999)(k:d.d.b.2.1.2.2<=d.e.c.2.1):Ok (fq d) (λx:jR=>match x with|.inl e=>e.c.2.1=d.c.1/\e.c.b.1=d.c.2.1/\e.c.b.2.1=d.c.b.1/\e.d.1=d.c.b.2.1/\e.d.2.1=d.d.1/\e.d.b.1=d.d.2.1/\e.d.c.1=d.d.b.2.1/\e.2.1.b.2.1=d.1.c.1/\e.2.1.d.b.2.1=d.1.d.c.2.1|.inr e=>e.c.2.1=d.c.1/\e.c.b.1=d.c.2.1/\e.c.b.2.1=d.c.b.1/\e.d.1=d.c.b.2.1/\e.d.2.1=d.d.1/\e.d.b.1=d.d.2.1/\e.d.c.1=d.d.b.2.1/\e.2.1.c.1=d.1.c.1/\e.2.1.d.c.1=d.1.d.c.2.1):=by
 unfold fq zi;try dsimp only
 show PQ _ _;rw[aK];refine⟨λ_=> ?_,λ_=>by rw[av];exact⟨rfl,rfl,rfl,rfl,rfl,rfl,rfl,rfl,rfl⟩⟩;rw[aM,aR];with_reducible refine ay (aOw _ ?_) λe _ he=> ?_
 .exact h
 have he:e.b.1=d.d.b.2.1.2.2:=he;have b1:(true&&ww (e.b.1*11+0) (d.d.b.2.1.2.2*11)&&true)=true:=by rw[he,km,aM];rfl
 have b2:(true&&wd (0+(e.b.1*11+0)) (d.e.c.2.1*11+0))=true:=by rw[he,GF,eQ];omega
 try dsimp only
 rw[b1,b2,aR,aR,av];exact⟨rfl,rfl,rfl,rfl,rfl,rfl,rfl,rfl,rfl⟩
theorem aSG (d:dC.B)(j:d.1.2.2.2.2.2.2.2.2.2.2.2.2.2.2.2.2<=1800)(h:d.2.2.2.2.2.2.2.2.2.2.2.1.2.2<=1999)(k:d.2.2.2.2.2.2.2.2.2.2.2.1.2.2<=d.2.2.2.2.2.2.2.2.2.2.2.2.2.2.2.2.2.2.2.2.2.2.1):Ok (dQ d) (λx:jU=>match x with|.inl e=>e.2.2.2.2.2.1=d.2.2.2.2.1/\e.2.2.2.2.2.2.1=d.2.2.2.2.2.1/\e.2.2.2.2.2.2.2.1=d.2.2.2.2.2.2.1/\e.2.2.2.2.2.2.2.2.1=d.2.2.2.2.2.2.2.1/\e.2.2.2.2.2.2.2.2.2.1=d.2.2.2.2.2.2.2.2.1/\e.2.2.2.2.2.2.2.2.2.2.1=d.2.2.2.2.2.2.2.2.2.1/\e.2.2.2.2.2.2.2.2.2.2.2.2.1=d.2.2.2.2.2.2.2.2.2.2.2.1/\e.2.1.2.2.2.1=d.1.2.2.2.2.1/\e.2.1.2.2.2.2.2.2.2.2.2.2.2.1=d.1.2.2.2.2.2.2.2.2.2.2.2.2.2.1|.inr e=>e.2.2.2.2.2.1=d.2.2.2.2.1/\e.2.2.2.2.2.2.1=d.2.2.2.2.2.1/\e.2.2.2.2.2.2.2.1=d.2.2.2.2.2.2.1/\e.2.2.2.2.2.2.2.2.1=d.2.2.2.2.2.2.2.1/\e.2.2.2.2.2.2.2.2.2.1=d.2.2.2.2.2.2.2.2.1/\e.2.2.2.2.2.2.2.2.2.2.1=d.2.2.2.2.2.2.2.2.2.1/\e.2.2.2.2.2.2.2.2.2.2.2.2.1=d.2.2.2.2.2.2.2.2.2.2.2.1/\e.2.1.2.2.2.2.1=d.1.2.2.2.2.1/\e.2.1.2.2.2.2.2.2.2.2.2.2.2.2.1=d.1.2.2.2.2.2.2.2.2.2.2.2.2.2.1):=by
 unfold dQ sX;try dsimp only
 show PQ _ _;simp only[aM];have b3:wd ((1+d.1.2.2.2.2.2.2.2.2.2.2.2.2.2.2.2.2)*80) 140737488355328=true:=by rw[eQ];omega
 rw[bA];intro _ _;rw[aK];refine⟨λ_=> ?_,λ_=> ?_⟩
 .rw[aR,aR];with_reducible refine ay (aTV _ ?_ ?_) λe _ he=> ?_
  .show d.1.2.2.2.2.2.2.2.2.2.2.2.2.2.2.2.2<=1999;omega
  .exact h
  have he:e.2.1=d.2.2.2.2.2.2.2.2.2.2.2.1.2.2:=he;have b1:(true&&ww (e.2.1*11+0) (d.2.2.2.2.2.2.2.2.2.2.2.1.2.2*11)&&true)=true:=by rw[he,km,aM];rfl
  have b2:(true&&wd (0+(e.2.1*11+0)) (d.2.2.2.2.2.2.2.2.2.2.2.2.2.2.2.2.2.2.2.2.2.2.1*11+0))=true:=by rw[he,GF,eQ];omega
  rw[b1,b2,b3,aR,aR,aR,aR];with_reducible refine ay (bl.Ok (Q:=λ_=>True) (aHa _ _ _ _ _ _ _ _ _ _ _ _ _ ?_) λ_ _=>trivial) λe3 _ _=> ?_
  .omega
  simp only[aR];with_reducible refine ay (aSF _ ?_ ?_) λy _ hy=> ?_
  .exact h
  .exact k
  rw[qc];refine⟨λa ha=> ?_,λa ha=> ?_⟩
  .rw[av];rw[ha] at hy;exact hy
  .rw[av];rw[ha] at hy;exact hy
 .simp only[aR];with_reducible refine ay (aSF _ ?_ ?_) λy _ hy=> ?_
  .exact h
  .exact k
  rw[qc];refine⟨λa ha=> ?_,λa ha=> ?_⟩
  .rw[av];rw[ha] at hy;exact hy
  .rw[av];rw[ha] at hy;exact hy
theorem aLk (d:de.B)(j:d.1.2.2.2.2.2.2.2.2.2.2.2.2.2.2.2.2=0)(l4:d.2.2.2.2.1.2.2.1<=64)(l5:d.2.2.2.2.2.1.2.2.1<=64)(l6:d.2.2.2.2.2.2.1.2.2.1<=64)(l7:d.2.2.2.2.2.2.2.1.2.2.1<=64)(l8:d.2.2.2.2.2.2.2.2.1.2.2.1<=64)(l9:d.2.2.2.2.2.2.2.2.2.1.2.2.1<=64)(h:d.2.2.2.2.2.2.2.2.2.2.2.1.2.2<=1999)(k:d.2.2.2.2.2.2.2.2.2.2.2.1.2.2<=d.2.2.2.2.2.2.2.2.2.2.2.2.2.2.2.2.2.2.2.2.2.1):Ok (eu d) (λx:ix=>match x with|.inl e=>BR d.2.2.2.2.2.2.2.2.2.2.2.2.2.1.1 d.2.2.2.2.1 e.2.2.2.2.2.1/\BR d.2.2.2.2.2.2.2.2.2.2.2.2.2.1.1 d.2.2.2.2.2.1 e.2.2.2.2.2.2.1/\BR d.2.2.2.2.2.2.2.2.2.2.2.2.2.1.1 d.2.2.2.2.2.2.1 e.2.2.2.2.2.2.2.1/\BR d.2.2.2.2.2.2.2.2.2.2.2.2.2.1.1 d.2.2.2.2.2.2.2.1 e.2.2.2.2.2.2.2.2.1/\BR d.2.2.2.2.2.2.2.2.2.2.2.2.2.1.1 d.2.2.2.2.2.2.2.2.1 e.2.2.2.2.2.2.2.2.2.1/\BR d.2.2.2.2.2.2.2.2.2.2.2.2.2.1.1 d.2.2.2.2.2.2.2.2.2.1 e.2.2.2.2.2.2.2.2.2.2.1/\e.2.2.2.2.2.2.2.2.2.2.2.2.1=d.2.2.2.2.2.2.2.2.2.2.2.1/\e.2.1.2.2.2.1=d.1.2.2.2.2.1/\e.2.1.2.2.2.2.2.2.2.2.2.2.2.1=d.1.2.2.2.2.2.2.2.2.2.2.2.2.2.1|.inr e=>BR d.2.2.2.2.2.2.2.2.2.2.2.2.2.1.1 d.2.2.2.2.1 e.2.2.2.2.2.1/\BR d.2.2.2.2.2.2.2.2.2.2.2.2.2.1.1 d.2.2.2.2.2.1 e.2.2.2.2.2.2.1/\BR d.2.2.2.2.2.2.2.2.2.2.2.2.2.1.1 d.2.2.2.2.2.2.1 e.2.2.2.2.2.2.2.1/\BR d.2.2.2.2.2.2.2.2.2.2.2.2.2.1.1 d.2.2.2.2.2.2.2.1 e.2.2.2.2.2.2.2.2.1/\BR d.2.2.2.2.2.2.2.2.2.2.2.2.2.1.1 d.2.2.2.2.2.2.2.2.1 e.2.2.2.2.2.2.2.2.2.1/\BR d.2.2.2.2.2.2.2.2.2.2.2.2.2.1.1 d.2.2.2.2.2.2.2.2.2.1 e.2.2.2.2.2.2.2.2.2.2.1/\e.2.2.2.2.2.2.2.2.2.2.2.2.1=d.2.2.2.2.2.2.2.2.2.2.2.1/\e.2.1.2.2.2.2.1=d.1.2.2.2.2.1/\e.2.1.2.2.2.2.2.2.2.2.2.2.2.2.1=d.1.2.2.2.2.2.2.2.2.2.2.2.2.2.1):=by
 unfold eu oS;try dsimp only
 show PQ _ _;simp only[aM];simp only[aR];refine ay (aT2 _ _ l4 l5 l6 l7 l8 l9 ⟨eW 0,(show(0:Int)<=6 by decide),(by show((d.1.2.2.2.2.2.2.2.2.2.2.2.2.2.2.2.2:Nat):Int)+192*(6-0)<=1152;omega),BR.refl _ _,BR.refl _ _,BR.refl _ _,BR.refl _ _,BR.refl _ _,BR.refl _ _,rfl,rfl,rfl,rfl,rfl⟩) λa _ ha=> ?_;obtain⟨u1,u5,u6,u7,u8,u9,u10,u12,u22,u4,ut⟩:=ha;simp only[aR];refine ay (aT3 _ _ ⟨eW 0,(show(0:Int)<=6 by decide),rfl,rfl,rfl,rfl,rfl,rfl,rfl,rfl,rfl⟩) λb _ hb=> ?_;obtain⟨g1,g5,g6,g7,g8,g9,g10,g12,g23⟩:=hb;rw[aK];refine⟨λ_=> ?_,λ_=> ?_⟩
 .simp only[aR];with_reducible refine ay (aSG _ ?_ ?_ ?_) λy _ hy=> ?_
  .show b.2.1.2.2.2.2.2.2.2.2.2.2.2.2.2.2.2.2<=1800;rw[g1];exact bZ u1 (by decide)
  .show b.2.2.2.2.2.2.2.2.2.2.2.2.1.2.2<=1999;rw[g12];show a.2.2.2.2.2.2.2.2.2.2.2.2.1.2.2<=1999;rw[u12];exact h
  .show b.2.2.2.2.2.2.2.2.2.2.2.2.1.2.2<=b.2.2.2.2.2.2.2.2.2.2.2.2.2.2.2.2.2.2.2.2.2.2.2.1;rw[g12,g23];show a.2.2.2.2.2.2.2.2.2.2.2.2.1.2.2<=a.2.2.2.2.2.2.2.2.2.2.2.2.2.2.2.2.2.2.2.2.2.2.1;rw[u12,u22];exact k
  rw[qc];refine⟨λa1 ha=> ?_,λa1 ha=> ?_⟩
  .rw[av];rw[ha] at hy;obtain⟨q5,q6,q7,q8,q9,q10,TM,q4,qt⟩:=hy;exact⟨(by rw[q5];show BR _ _ b.2.2.2.2.2.1;rw[g5];exact u5),(by rw[q6];show BR _ _ b.2.2.2.2.2.2.1;rw[g6];exact u6),(by rw[q7];show BR _ _ b.2.2.2.2.2.2.2.1;rw[g7];exact u7),(by rw[q8];show BR _ _ b.2.2.2.2.2.2.2.2.1;rw[g8];exact u8),(by rw[q9];show BR _ _ b.2.2.2.2.2.2.2.2.2.1;rw[g9];exact u9),(by rw[q10];show BR _ _ b.2.2.2.2.2.2.2.2.2.2.1;rw[g10];exact u10),TM.trans (g12.trans u12),q4.trans ((cM (λz=>z.2.2.2.2.1) g1).trans u4),qt.trans ((cM (λz=>z.2.2.2.2.2.2.2.2.2.2.2.2.2.1) g1).trans ut)⟩
  .rw[av];rw[ha] at hy;obtain⟨q5,q6,q7,q8,q9,q10,TM,q4,qt⟩:=hy;exact⟨(by rw[q5];show BR _ _ b.2.2.2.2.2.1;rw[g5];exact u5),(by rw[q6];show BR _ _ b.2.2.2.2.2.2.1;rw[g6];exact u6),(by rw[q7];show BR _ _ b.2.2.2.2.2.2.2.1;rw[g7];exact u7),(by rw[q8];show BR _ _ b.2.2.2.2.2.2.2.2.1;rw[g8];exact u8),(by rw[q9];show BR _ _ b.2.2.2.2.2.2.2.2.2.1;rw[g9];exact u9),(by rw[q10];show BR _ _ b.2.2.2.2.2.2.2.2.2.2.1;rw[g10];exact u10),TM.trans (g12.trans u12),q4.trans ((cM (λz=>z.2.2.2.2.1) g1).trans u4),qt.trans ((cM (λz=>z.2.2.2.2.2.2.2.2.2.2.2.2.2.1) g1).trans ut)⟩
 .simp only[aR];with_reducible refine ay (aSG _ ?_ ?_ ?_) λy _ hy=> ?_
  .show b.2.1.2.2.2.2.2.2.2.2.2.2.2.2.2.2.2.2<=1800;rw[g1];exact bZ u1 (by decide)
  .show b.2.2.2.2.2.2.2.2.2.2.2.2.1.2.2<=1999;rw[g12];show a.2.2.2.2.2.2.2.2.2.2.2.2.1.2.2<=1999;rw[u12];exact h
  .show b.2.2.2.2.2.2.2.2.2.2.2.2.1.2.2<=b.2.2.2.2.2.2.2.2.2.2.2.2.2.2.2.2.2.2.2.2.2.2.2.1;rw[g12,g23];show a.2.2.2.2.2.2.2.2.2.2.2.2.1.2.2<=a.2.2.2.2.2.2.2.2.2.2.2.2.2.2.2.2.2.2.2.2.2.2.1;rw[u12,u22];exact k
  rw[qc];refine⟨λa1 ha=> ?_,λa1 ha=> ?_⟩
  .rw[av];rw[ha] at hy;obtain⟨q5,q6,q7,q8,q9,q10,TM,q4,qt⟩:=hy;exact⟨(by rw[q5];show BR _ _ b.2.2.2.2.2.1;rw[g5];exact u5),(by rw[q6];show BR _ _ b.2.2.2.2.2.2.1;rw[g6];exact u6),(by rw[q7];show BR _ _ b.2.2.2.2.2.2.2.1;rw[g7];exact u7),(by rw[q8];show BR _ _ b.2.2.2.2.2.2.2.2.1;rw[g8];exact u8),(by rw[q9];show BR _ _ b.2.2.2.2.2.2.2.2.2.1;rw[g9];exact u9),(by rw[q10];show BR _ _ b.2.2.2.2.2.2.2.2.2.2.1;rw[g10];exact u10),TM.trans (g12.trans u12),q4.trans ((cM (λz=>z.2.2.2.2.1) g1).trans u4),qt.trans ((cM (λz=>z.2.2.2.2.2.2.2.2.2.2.2.2.2.1) g1).trans ut)⟩
  .rw[av];rw[ha] at hy;obtain⟨q5,q6,q7,q8,q9,q10,TM,q4,qt⟩:=hy;exact⟨(by rw[q5];show BR _ _ b.2.2.2.2.2.1;rw[g5];exact u5),(by rw[q6];show BR _ _ b.2.2.2.2.2.2.1;rw[g6];exact u6),(by rw[q7];show BR _ _ b.2.2.2.2.2.2.2.1;rw[g7];exact u7),(by rw[q8];show BR _ _ b.2.2.2.2.2.2.2.2.1;rw[g8];exact u8),(by rw[q9];show BR _ _ b.2.2.2.2.2.2.2.2.2.1;rw[g9];exact u9),(by rw[q10];show BR _ _ b.2.2.2.2.2.2.2.2.2.2.1;rw[g10];exact u10),TM.trans (g12.trans u12),q4.trans ((cM (λz=>z.2.2.2.2.1) g1).trans u4),qt.trans ((cM (λz=>z.2.2.2.2.2.2.2.2.2.2.2.2.2.1) g1).trans ut)⟩
theorem aYe (N:Nat)(h1:1<=N)(hN:N<=1999)(x:fN.B)(hs:x.2.2.2.2.2.2.2.2.2.2.2.2.1.1<=(N:Int))(hl:x.2.2.2.2.2.2.2.2.2.2.2.2.1.2.2<=N)(hq:x.2.1.2.2.2.2.1<=1999)(l5:x.2.2.2.2.2.1.2.2.1<=64)(l6:x.2.2.2.2.2.2.1.2.2.1<=64)(l7:x.2.2.2.2.2.2.2.1.2.2.1<=64)(l8:x.2.2.2.2.2.2.2.2.1.2.2.1<=64)(l9:x.2.2.2.2.2.2.2.2.2.1.2.2.1<=64)(l10:x.2.2.2.2.2.2.2.2.2.2.1.2.2.1<=64):Ok (eT x) (λr:oq=>BR x.1.1 x.2.2.2.2.2.1 r.1.2.1/\BR x.1.1 x.2.2.2.2.2.2.1 r.1.2.2.1/\BR x.1.1 x.2.2.2.2.2.2.2.1 r.1.2.2.2.1/\BR x.1.1 x.2.2.2.2.2.2.2.2.1 r.1.2.2.2.2.1/\BR x.1.1 x.2.2.2.2.2.2.2.2.2.1 r.1.2.2.2.2.2.1/\BR x.1.1 x.2.2.2.2.2.2.2.2.2.2.1 r.1.2.2.2.2.2.2.1/\r.1.2.2.2.2.2.2.2.2.1=x.2.2.2.2.2.2.2.2.2.2.2.2.1.1/\r.1.2.2.2.2.2.2.2.2.2.2<=N/\r.1.1.2.2.2.2.1=x.2.1.2.2.2.2.1/\r.1.1.2.2.2.2.2.2.2.2.2.2.2.2.2.1=x.1.1):=by
 unfold eT qZ;try dsimp only
 show PQ _ _;simp only[aM];rw[aK];refine⟨λ_=> ?_,λ_=> ?_⟩
 .simp only[aR];with_reducible refine ay (aTZ N h1 hN _ ?_ ?_) λe _ he=> ?_
  .exact hs
  .exact hq
  rw[tH];refine⟨λb hb=> ?_,λb hb=> ?_⟩
  .rw[hb] at he;obtain⟨e1,e2,e4,et⟩:=he;have e1:b.2=x.2.2.2.2.2.2.2.2.2.2.2.2.1:=e1;simp only[aR];with_reducible refine ay (aLk _ ?_ ?_ ?_ ?_ ?_ ?_ ?_ ?_ ?_) λy _ hy=> ?_
   .exact e2
   .exact l5
   .exact l6
   .exact l7
   .exact l8
   .exact l9
   .exact l10
   .show b.2.2.2<=1999;rw[e1];omega
   .show b.2.2.2<=x.2.2.2.2.2.2.2.2.2.2.2.2.1.2.2;rw[e1];exact eO _
   rw[qc];refine⟨λa ha=> ?_,λa ha=> ?_⟩
   .rw[ha] at hy;obtain⟨s5,s6,s7,s8,s9,Y1,TM,q4,qt⟩:=hy;rw[av];exact⟨s5,s6,s7,s8,s9,Y1,(by show a.2.2.2.2.2.2.2.2.2.2.2.2.1.1=x.2.2.2.2.2.2.2.2.2.2.2.2.1.1;rw[TM];show b.2.1=_;rw[e1]),(by show a.2.2.2.2.2.2.2.2.2.2.2.2.1.2.2<=N;rw[TM];show b.2.2.2<=N;rw[e1];exact hl),q4.trans e4,qt.trans et⟩
   .rw[ha] at hy;obtain⟨s5,s6,s7,s8,s9,Y1,TM,q4,qt⟩:=hy;rw[av];exact⟨s5,s6,s7,s8,s9,Y1,(by show a.2.2.2.2.2.2.2.2.2.2.2.2.1.1=x.2.2.2.2.2.2.2.2.2.2.2.2.1.1;rw[TM];show b.2.1=_;rw[e1]),(by show a.2.2.2.2.2.2.2.2.2.2.2.2.1.2.2<=N;rw[TM];show b.2.2.2<=N;rw[e1];exact hl),q4.trans e4,qt.trans et⟩
  .rw[hb] at he;obtain⟨e1,e2,e3,e4,e5,et⟩:=he;have e2:b.1.2.1=x.2.2.2.2.2.2.2.2.2.2.2.2.1.1:=e2;simp only[aR];with_reducible refine ay (aLk _ ?_ ?_ ?_ ?_ ?_ ?_ ?_ ?_ ?_) λy _ hy=> ?_
   .exact e4
   .exact l5
   .exact l6
   .exact l7
   .exact l8
   .exact l9
   .exact l10
   .show b.1.2.2.2<=1999;omega
   .exact e3
   rw[qc];refine⟨λa ha=> ?_,λa ha=> ?_⟩
   .rw[ha] at hy;obtain⟨s5,s6,s7,s8,s9,Y1,TM,q4,qt⟩:=hy;rw[av];exact⟨s5,s6,s7,s8,s9,Y1,(by show a.2.2.2.2.2.2.2.2.2.2.2.2.1.1=x.2.2.2.2.2.2.2.2.2.2.2.2.1.1;rw[TM];exact e2),(by show a.2.2.2.2.2.2.2.2.2.2.2.2.1.2.2<=N;rw[TM];exact e1),q4.trans e5,qt.trans et⟩
   .rw[ha] at hy;obtain⟨s5,s6,s7,s8,s9,Y1,TM,q4,qt⟩:=hy;rw[av];exact⟨s5,s6,s7,s8,s9,Y1,(by show a.2.2.2.2.2.2.2.2.2.2.2.2.1.1=x.2.2.2.2.2.2.2.2.2.2.2.2.1.1;rw[TM];exact e2),(by show a.2.2.2.2.2.2.2.2.2.2.2.2.1.2.2<=N;rw[TM];exact e1),q4.trans e5,qt.trans et⟩
 .rw[bA];intro _ _;rw[bA];intro _ _;simp only[aR];with_reducible refine ay (aLk _ ?_ ?_ ?_ ?_ ?_ ?_ ?_ ?_ ?_) λy _ hy=> ?_
  .rfl
  .exact l5
  .exact l6
  .exact l7
  .exact l8
  .exact l9
  .exact l10
  .show x.2.2.2.2.2.2.2.2.2.2.2.2.1.2.2<=1999;omega
  .exact eO _
  rw[qc];refine⟨λa ha=> ?_,λa ha=> ?_⟩
  .rw[ha] at hy;obtain⟨s5,s6,s7,s8,s9,Y1,TM,q4,qt⟩:=hy;rw[av];exact⟨s5,s6,s7,s8,s9,Y1,(by show a.2.2.2.2.2.2.2.2.2.2.2.2.1.1=x.2.2.2.2.2.2.2.2.2.2.2.2.1.1;rw[TM];done),(by show a.2.2.2.2.2.2.2.2.2.2.2.2.1.2.2<=N;rw[TM];exact hl),q4.trans rfl,qt.trans rfl⟩
  .rw[ha] at hy;obtain⟨s5,s6,s7,s8,s9,Y1,TM,q4,qt⟩:=hy;rw[av];exact⟨s5,s6,s7,s8,s9,Y1,(by show a.2.2.2.2.2.2.2.2.2.2.2.2.1.1=x.2.2.2.2.2.2.2.2.2.2.2.2.1.1;rw[TM];done),(by show a.2.2.2.2.2.2.2.2.2.2.2.2.1.2.2<=N;rw[TM];exact hl),q4.trans rfl,qt.trans rfl⟩
theorem aOz (w:Int×Int×(Int×Int×Int)×Int×Int×Int):∀(d:hU.B) (hd:0<=d.1/\d.1<=3/\d.2.1=w.1),Ok (C8 d) (λx:pW=>match x with|.inl _=>True|.inr e=>e.2.1=w.1):=
 bL (λd:hU.B=>ws (3-d.1)) (λd hd=>by
  have hw:wI (d.1+1)=d.1+1:=bk;unfold xY;simp only[bJ];simp only[nf,o6,ua,hw];repeat' (first|exact True.intro|exact hd.2.2|omega|(intro _)|(apply And.intro))) (λd hd=>by omega)
theorem aT4 (x0:Int)(x1:Int)(x2:Int)(x3:Int)(x4:Int)(x5:Int)(x6:Int)(x7:Int):Ok (kD x0 x1 x2 x3 x4 x5 x6 x7) (λr=>r=true->0<=x0):=by
 unfold kD zQ;show PQ _ _;refine ay (aOz (x0,x1,(x2,x3,x4),x5,x6,x7) _ ⟨eW 0,(show(0:Int)<=3 by decide),rfl⟩) λd _ hd=> ?_;rw[qc];refine⟨λa _=>by rw[av];intro h;exact absurd h (by decide),λa ha=> ?_⟩;rw[ha] at hd;have hd:a.2.1=x0:=hd;rw[aK];refine⟨λ_=> ?_,λ_=>by rw[av];intro h;exact absurd h (by decide)⟩;rw[aK];refine⟨λ_=> ?_,λ_=>by rw[av];intro h;exact absurd h (by decide)⟩;rw[aK];refine⟨λc=> ?_,λ_=>by rw[av];intro h;exact absurd h (by decide)⟩;rw[av];have c:=eF c;intro _;omega
theorem aIF (x:zR.B):Ok (rK x) (λr=>r.1.1=x.1.2.1):=by
 unfold rK HX;try dsimp only
 show PQ _ _;rw[bA];intro _ _;rw[bA];intro _ _;rw[av]
theorem aYf (x:gh.B)(h:x.2.1.2.2=false->x.2.1.2.1.1<=0):Ok (cU x) (λr=>(r.2.1.2.2=false->r.2.1.2.1.1<=0)/\x.2.1.2.1.1<=r.2.1.2.1.1/\(r.1.2.1=true->r.1.1.1=r.2.1.2.1.1)):=by
 unfold cU mn;try dsimp only
 show PQ _ _;refine ay (aT4 _ _ _ _ _ _ _ _) λd _ hd=> ?_;rw[aK];refine⟨λ_=>by rw[av];exact⟨h,eW _,(λh=>nomatch h)⟩,λc=> ?_⟩;have c:d=true:=by cases d<;>first|rfl|cases c
 have hx:0<=x.1.1:=hd c;rw[aK];refine⟨λ_=> ?_,λca=> ?_⟩
 .rw[aK];refine⟨λ_=>by rw[av];exact⟨h,eW _,(λh=>nomatch h)⟩,λcb=> ?_⟩;have cb:=pf cb;refine ay (aIF _) λe _ he=> ?_;have he:e.1.1=x.1.1:=he;rw[aK];refine⟨λ_=> ?_,λ_=> ?_⟩
  .rw[av];exact⟨(λh=>nomatch h),by show x.2.1.2.1.1<=e.1.1;omega,(λh=>nomatch h)⟩
  .rw[av];exact⟨(λh=>nomatch h),by show x.2.1.2.1.1<=x.1.1;omega,λ_=>he⟩
 .have h:=h ca;refine ay (aIF _) λe _ he=> ?_;have he:e.1.1=x.1.1:=he;rw[aK];refine⟨λ_=> ?_,λ_=> ?_⟩
  .rw[av];exact⟨(λh=>nomatch h),by show x.2.1.2.1.1<=e.1.1;omega,(λh=>nomatch h)⟩
  .rw[av];exact⟨(λh=>nomatch h),by show x.2.1.2.1.1<=x.1.1;omega,λ_=>he⟩
def Qd (T S:Int)(n:Nat)(r:Nat->Int):Prop:=T<=S/\∀i k,i<=k->k<n->T<=r i/\r i<=r k/\r k<=S
theorem Qd.pop {T S:Int}{n:Nat}{r q:Nat->Int}(h:Qd T S n r)(hn:1<=n)(e:∀i,q i=r (i+1)):T<=r 0/\Qd (r 0) S (n-1) q:=by
 have a:=h.2 0 0 (eO _) (by omega);refine⟨a.1,As a.2.1 a.2.2,λi k p l=> ?_⟩;have b:=h.2 (i+1) (k+1) (by omega) (by omega);have c:=h.2 0 (i+1) (by omega) (by omega);rw[e,e];exact⟨c.2.1,b.2⟩
theorem Qd.push {T S j:Int}{n:Nat}{r q:Nat->Int}(h:Qd T S n r)(l:S<=j)(e:∀i,i<n->q i=r i)(en:q n=j):Qd T j (n+1) q:=by
 refine⟨As h.1 l,λi k p l2=> ?_⟩;have hT:=h.1;by_cases hk:k<n
 .rw[e i (by omega),e k hk];have a:=h.2 i k p hk;exact⟨a.1,a.2.1,As a.2.2 l⟩
 .have hk:k=n:=by omega
  subst hk;rw[en];by_cases hi:i<k
  .rw[e i hi];have a:=h.2 i i (eO _) hi;exact⟨a.1,As a.2.2 l,eW _⟩
  .have hi:i=k:=by omega
   subst hi;rw[en];exact⟨As hT l,eW _,eW _⟩
theorem Qd.up {T S j:Int}{n:Nat}{r q:Nat->Int}(h:Qd T S n r)(l:S<=j)(e:∀i,q i=r i):Qd T j n q:=
 ⟨As h.1 l,λi k p l2=>by rw[e,e];have a:=h.2 i k p l2;exact⟨a.1,a.2.1,As a.2.2 l⟩⟩
theorem aT5 (N l:Nat)(S:Int)(h1:1<=N)(hN:N<=1999)(hl:l<=1999)(w d:cF.B)(W4:w.2.2.2.2.1.2.2.1<=64)(W5:w.2.2.2.2.2.1.2.2.1<=64)(W6:w.2.2.2.2.2.2.1.2.2.1<=64)(W7:w.2.2.2.2.2.2.2.1.2.2.1<=64)(W8:w.2.2.2.2.2.2.2.2.1.2.2.1<=64)(W9:w.2.2.2.2.2.2.2.2.2.1.2.2.1<=64)(WS:w.2.2.2.2.2.2.2.2.2.2.2.1.1<=(N:Int))(hd:d.2.1.2.2.2.2.1.2<=l/\d.2.2.2.1=w.2.2.2.1/\d.2.2.2.2.2.2.2.2.2.2.2.2.2.1=w.2.2.2.2.2.2.2.2.2.2.2.2.2.1/\w.2.1.2.2.2.2.2.2.2.2.2.2.2.2.2.1<=d.2.1.2.2.2.2.2.2.2.2.2.2.2.2.2.1/\Qd d.2.1.2.2.2.2.2.2.2.2.2.2.2.2.2.1 S d.2.1.2.2.2.2.1.2 (λi=>w.2.2.2.2.2.2.2.2.2.2.2.2.2.1.2.1 (d.2.1.2.2.2.2.1.1+i))/\BR d.2.1.2.2.2.2.2.2.2.2.2.2.2.2.2.1 w.2.2.2.2.1 d.2.2.2.2.1/\BR d.2.1.2.2.2.2.2.2.2.2.2.2.2.2.2.1 w.2.2.2.2.2.1 d.2.2.2.2.2.1/\BR d.2.1.2.2.2.2.2.2.2.2.2.2.2.2.2.1 w.2.2.2.2.2.2.1 d.2.2.2.2.2.2.1/\BR d.2.1.2.2.2.2.2.2.2.2.2.2.2.2.2.1 w.2.2.2.2.2.2.2.1 d.2.2.2.2.2.2.2.1/\BR d.2.1.2.2.2.2.2.2.2.2.2.2.2.2.2.1 w.2.2.2.2.2.2.2.2.1 d.2.2.2.2.2.2.2.2.1/\BR d.2.1.2.2.2.2.2.2.2.2.2.2.2.2.2.1 w.2.2.2.2.2.2.2.2.2.1 d.2.2.2.2.2.2.2.2.2.1/\d.2.2.2.2.2.2.2.2.2.2.2.1.1=w.2.2.2.2.2.2.2.2.2.2.2.1.1/\d.2.2.2.2.2.2.2.2.2.2.2.1.2.2<=N):Ok (gU d) (λx:gT=>match x with|.inl x=>x.1.2.1.2<=l/\x.2.2.2.1=w.2.2.2.1/\x.2.2.2.2.2.2.2.2.2.2.2.2.2.1=w.2.2.2.2.2.2.2.2.2.2.2.2.2.1/\w.2.1.2.2.2.2.2.2.2.2.2.2.2.2.2.1<=x.2.1.2.2.2.2.2.2.2.2.2.2.2.2.1/\Qd x.2.1.2.2.2.2.2.2.2.2.2.2.2.2.1 S x.1.2.1.2 (λi=>w.2.2.2.2.2.2.2.2.2.2.2.2.2.1.2.1 (x.1.2.1.1+i))/\BR x.2.1.2.2.2.2.2.2.2.2.2.2.2.2.1 w.2.2.2.2.1 x.2.2.2.2.1/\BR x.2.1.2.2.2.2.2.2.2.2.2.2.2.2.1 w.2.2.2.2.2.1 x.2.2.2.2.2.1/\BR x.2.1.2.2.2.2.2.2.2.2.2.2.2.2.1 w.2.2.2.2.2.2.1 x.2.2.2.2.2.2.1/\BR x.2.1.2.2.2.2.2.2.2.2.2.2.2.2.1 w.2.2.2.2.2.2.2.1 x.2.2.2.2.2.2.2.1/\BR x.2.1.2.2.2.2.2.2.2.2.2.2.2.2.1 w.2.2.2.2.2.2.2.2.1 x.2.2.2.2.2.2.2.2.1/\BR x.2.1.2.2.2.2.2.2.2.2.2.2.2.2.1 w.2.2.2.2.2.2.2.2.2.1 x.2.2.2.2.2.2.2.2.2.1/\x.2.2.2.2.2.2.2.2.2.2.2.1.1=w.2.2.2.2.2.2.2.2.2.2.2.1.1/\x.2.2.2.2.2.2.2.2.2.2.2.1.2.2<=N|.inr x=>x.1.2.1.2<=l/\x.2.2.2.1=w.2.2.2.1/\x.2.2.2.2.2.2.2.2.2.2.2.2.2.1=w.2.2.2.2.2.2.2.2.2.2.2.2.2.1/\w.2.1.2.2.2.2.2.2.2.2.2.2.2.2.2.1<=x.2.1.2.2.2.2.2.2.2.2.2.2.2.2.1/\Qd x.2.1.2.2.2.2.2.2.2.2.2.2.2.2.1 S x.1.2.1.2 (λi=>w.2.2.2.2.2.2.2.2.2.2.2.2.2.1.2.1 (x.1.2.1.1+i))/\BR x.2.1.2.2.2.2.2.2.2.2.2.2.2.2.1 w.2.2.2.2.1 x.2.2.2.2.1/\BR x.2.1.2.2.2.2.2.2.2.2.2.2.2.2.1 w.2.2.2.2.2.1 x.2.2.2.2.2.1/\BR x.2.1.2.2.2.2.2.2.2.2.2.2.2.2.1 w.2.2.2.2.2.2.1 x.2.2.2.2.2.2.1/\BR x.2.1.2.2.2.2.2.2.2.2.2.2.2.2.1 w.2.2.2.2.2.2.2.1 x.2.2.2.2.2.2.2.1/\BR x.2.1.2.2.2.2.2.2.2.2.2.2.2.2.1 w.2.2.2.2.2.2.2.2.1 x.2.2.2.2.2.2.2.2.1/\BR x.2.1.2.2.2.2.2.2.2.2.2.2.2.2.1 w.2.2.2.2.2.2.2.2.2.1 x.2.2.2.2.2.2.2.2.2.1/\x.2.2.2.2.2.2.2.2.2.2.2.1.1=w.2.2.2.2.2.2.2.2.2.2.2.1.1/\x.2.2.2.2.2.2.2.2.2.2.2.1.2.2<=N):=by
 revert d
 exact bL (λd:cF.B=>d.2.1.2.2.2.2.1.2) (λd hd=>by
  obtain⟨i0,ic,ir,it,iq,s4,s5,s6,s7,s8,s9,i11,bf⟩:=hd;unfold kZ;dsimp only;rw[aK];refine⟨λh=> ?_,λ_=>by rw[av];exact⟨i0,ic,ir,it,iq,s4,s5,s6,s7,s8,s9,i11,bf⟩⟩;have h:=eF h;rw[dJ] at h;have h:1<=d.2.1.2.2.2.2.1.2:=by omega
  have r0:bg 0 d.2.1.2.2.2.2.1.2=true:=by rw[cm];omega
  have r1:Kg 1 d.2.1.2.2.2.2.1.2=true:=by rw[ade];omega
  rw[r0,r1,aR,aK];simp only[aM];refine⟨λ_=> ?_,λ_=>by rw[av];exact⟨i0,ic,ir,it,iq,s4,s5,s6,s7,s8,s9,i11,bf⟩⟩;simp only[aR];with_reducible refine ay (aYe N h1 hN _ ?_ ?_ ?_ ?_ ?_ ?_ ?_ ?_ ?_) λe _ he=> ?_
  .show d.2.2.2.2.2.2.2.2.2.2.2.1.1<=(N:Int);rw[i11];exact WS
  .exact bf
  .show d.2.1.2.2.2.2.1.2-1<=1999;omega
  .exact bZ s4.len W4
  .exact bZ s5.len W5
  .exact bZ s6.len W6
  .exact bZ s7.len W7
  .exact bZ s8.len W8
  .exact bZ s9.len W9
  obtain⟨a4,a5,a6,a7,a8,a9,a11,A4,e4,et⟩:=he;have e4:e.1.1.2.2.2.2.1=d.2.1.2.2.2.2.1.2-1:=e4;have et:e.1.1.2.2.2.2.2.2.2.2.2.2.2.2.2.1=d.2.2.2.2.2.2.2.2.2.2.2.2.2.1.2.1 (d.2.1.2.2.2.2.1.1+0):=et;have iq':=iq.pop (q:=λi=>w.2.2.2.2.2.2.2.2.2.2.2.2.2.1.2.1 (d.2.1.2.2.2.2.1.1+1+i)) h (λi=>by show w.2.2.2.2.2.2.2.2.2.2.2.2.2.1.2.1 (d.2.1.2.2.2.2.1.1+1+i)=w.2.2.2.2.2.2.2.2.2.2.2.2.2.1.2.1 (d.2.1.2.2.2.2.1.1+(i+1));rw[show d.2.1.2.2.2.2.1.1+1+i=d.2.1.2.2.2.2.1.1+(i+1) by omega]);have et':e.1.1.2.2.2.2.2.2.2.2.2.2.2.2.2.1=w.2.2.2.2.2.2.2.2.2.2.2.2.2.1.2.1 (d.2.1.2.2.2.2.1.1+0):=by rw[et,ir]
  have ll:d.2.1.2.2.2.2.2.2.2.2.2.2.2.2.2.1<=e.1.1.2.2.2.2.2.2.2.2.2.2.2.2.2.1:=by rw[et'];exact iq'.1
  have le:=Int.le_of_eq et.symm;rw[av];exact⟨⟨by show e.1.1.2.2.2.2.1<=l;omega,ic,ir,As it ll,(by show Qd e.1.1.2.2.2.2.2.2.2.2.2.2.2.2.2.1 S e.1.1.2.2.2.2.1 _;rw[et',e4];exact iq'.2),(s4.mono ll).trans (a4.mono le),(s5.mono ll).trans (a5.mono le),(s6.mono ll).trans (a6.mono le),(s7.mono ll).trans (a7.mono le),(s8.mono ll).trans (a8.mono le),(s9.mono ll).trans (a9.mono le),a11.trans i11,A4⟩,by show e.1.1.2.2.2.2.1<d.2.1.2.2.2.2.1.2;omega⟩) (λd hd=>by omega)
theorem aLl (N:Nat)(h1:1<=N)(hN:N<=1999)(d:cG.B)(hq:d.1.c.1<=1998)(l3:d.b.2.1.b.1<=64)(l4:d.c.1.b.1<=64)(l5:d.c.2.1.b.1<=64)(l6:d.c.b.1.b.1<=64)(l7:d.c.b.2.1.b.1<=64)(l8:d.d.1.b.1<=64)(hs:d.d.b.1.1<=(N:Int))(hl:d.d.b.1.2.2<=N)(S:Int)(hS:S<=d.d.b.2.1.1)(hQ:Qd d.1.d.c.2.1 S d.1.c.1 d.d.c.1.1):Ok (cO d) (λx:eV=>x.2.1.c.1.2<=d.1.c.1+1/\x.b.2.1=d.b.1/\d.1.d.c.2.1<=x.2.1.d.c.2.1/\Qd x.2.1.d.c.2.1 d.d.b.2.1.1 x.2.1.c.1.2 (λi=>x.c.1.2.1 (x.2.1.c.1.1+i))/\BR x.2.1.d.c.2.1 d.b.2.1 x.c.2.1/\BR x.2.1.d.c.2.1 d.c.1 x.c.b.1/\BR x.2.1.d.c.2.1 d.c.2.1 x.c.b.2.1/\BR x.2.1.d.c.2.1 d.c.b.1 x.d.1/\BR x.2.1.d.c.2.1 d.c.b.2.1 x.d.2.1/\BR x.2.1.d.c.2.1 d.d.1 x.d.b.1/\x.d.c.1.1=d.d.b.1.1/\x.d.c.1.2.2<=N):=by
 unfold cO ld;try dsimp only
 show PQ _ _;simp only[aM];have b:wd ((d.1.c.1+1)*64) 140737488355328=true:=by rw[eQ];omega
 rw[b];simp only[aR]
 have hQ':Qd d.1.d.c.2.1 d.d.b.2.1.1 (d.1.c.1+1) (λi=>bif ww (0+i) d.1.c.1 then d.d.b.2.1.1 else d.d.c.1.1 (0+(0+i))):=hQ.push hS (λi hi=>by
  have b:ww (0+i) d.1.c.1=false:=by
   cases hb:ww (0+i) d.1.c.1
   .rfl
   .have:=oZ hb;omega
  show(bif ww (0+i) d.1.c.1 then d.d.b.2.1.1 else d.d.c.1.1 (0+(0+i)))=_;rw[b];simp only[bH,gW]) (by simp only[gW,aM,bz])
 refine ay (aT5 N (d.1.c.1+1) d.d.b.2.1.1 h1 hN (by omega) _ _ l3 l4 l5 l6 l7 l8 hs ⟨eO _,rfl,rfl,eW _,hQ',BR.refl _ _,BR.refl _ _,BR.refl _ _,BR.refl _ _,BR.refl _ _,BR.refl _ _,rfl,hl⟩) λy _ hy=> ?_;rw[qc];refine⟨λa ha=> ?_,λa ha=> ?_⟩
 .rw[ha] at hy;rw[av];obtain⟨y0,y3,yr,yt,yq,ys⟩:=hy;exact⟨y0,y3,yt,(by rw[<-yr] at yq;exact yq),ys⟩
 .rw[ha] at hy;rw[av];obtain⟨y0,y3,yr,yt,yq,ys⟩:=hy;exact⟨y0,y3,yt,(by rw[<-yr] at yq;exact yq),ys⟩
theorem aSH (N:Nat)(h1:1<=N)(hN:N<=1999)(x:dZ.B)(hq:x.2.1.c.1<=1998)(l5:x.c.2.1.b.1<=64)(l6:x.c.b.1.b.1<=64)(l7:x.c.b.2.1.b.1<=64)(l8:x.d.1.b.1<=64)(l9:x.d.2.1.b.1<=64)(l10:x.d.b.1.b.1<=64)(hs:x.d.c.1.1<=(N:Int))(hl:x.d.c.1.2.2<=N)(h3:x.b.2.1.2.2=false->x.b.2.1.2.1.1<=0)(hQ:Qd x.2.1.d.c.2.1 x.b.2.1.2.1.1 x.2.1.c.1 x.c.1.1):Ok (bQ x) (λe:gB=>e.2.1.c.1.2<=x.2.1.c.1+1/\(e.b.2.1.2.2=false->e.b.2.1.2.1.1<=0)/\x.2.1.d.c.2.1<=e.2.1.d.c.2.1/\Qd e.2.1.d.c.2.1 e.b.2.1.2.1.1 e.2.1.c.1.2 (λi=>e.c.1.2.1 (e.2.1.c.1.1+i))/\BR e.2.1.d.c.2.1 x.c.2.1 e.c.2.1/\BR e.2.1.d.c.2.1 x.c.b.1 e.c.b.1/\BR e.2.1.d.c.2.1 x.c.b.2.1 e.c.b.2.1/\BR e.2.1.d.c.2.1 x.d.1 e.d.1/\BR e.2.1.d.c.2.1 x.d.2.1 e.d.2.1/\BR e.2.1.d.c.2.1 x.d.b.1 e.d.b.1/\e.d.c.1.1=x.d.c.1.1/\e.d.c.1.2.2<=N):=by
 unfold bQ jD;try dsimp only
 show PQ _ _;simp only[aM];refine ay (aYf _ h3) λd _ hd=> ?_;obtain⟨d1,d2,d3⟩:=hd;have d2:x.b.2.1.2.1.1<=d.2.1.2.1.1:=d2;rw[aK];refine⟨λ_=>by rw[av];exact⟨Nat.le_succ _,d1,eW _,hQ.up d2 (λi=>by rw[gW]),BR.refl _ _,BR.refl _ _,BR.refl _ _,BR.refl _ _,BR.refl _ _,BR.refl _ _,rfl,hl⟩,λ_=> ?_⟩;rw[aK];refine⟨λ_=>by rw[av];exact⟨Nat.le_succ _,d1,eW _,hQ.up d2 (λi=>by rw[gW]),BR.refl _ _,BR.refl _ _,BR.refl _ _,BR.refl _ _,BR.refl _ _,BR.refl _ _,rfl,hl⟩,λc=> ?_⟩;have c:d.1.2.1=true:=by simpa using c
 have d3:=d3 c;have d4:x.b.2.1.2.1.1<=d.1.1.1:=by omega
 rw[aK];refine⟨λ_=> ?_,λ_=> ?_⟩
 .simp only[aR];with_reducible refine ay (aOv N hN _ ?_ ?_) λe _ he=> ?_
  .exact hl
  .exact hs
  rw[tH];refine⟨λa ha=> ?_,λa ha=> ?_⟩
  .rw[ha] at he;have he:a.2.1=x.d.c.1:=he;simp only[aR];with_reducible refine ay (aLl N h1 hN _ ?_ ?_ ?_ ?_ ?_ ?_ ?_ ?_ ?_ x.b.2.1.2.1.1 d4 hQ) λy _ hy=> ?_
   .exact hq
   .exact l5
   .exact l6
   .exact l7
   .exact l8
   .exact l9
   .exact l10
   .show a.2.1.1<=(N:Int);rw[he];exact hs
   .show a.2.1.2.2<=N;rw[he];exact hl
   rw[av];have e0:(a.2.1.1:Int)=x.d.c.1.1:=by rw[he]
   obtain⟨q,qs,qt,qq,s5,s6,s7,s8,s9,Y1,p1,p2⟩:=hy;exact⟨q,(by rw[show y.b.2.1=d.2.1 from qs];exact d1),qt,(by rw[show y.b.2.1=d.2.1 from qs,<-d3];exact qq),s5,s6,s7,s8,s9,Y1,p1.trans e0,p2⟩
  .rw[ha] at he;obtain⟨e1,e2,e3,e4⟩:=he;have e1:a.1.1.1=x.d.c.1.1:=e1;simp only[aR];with_reducible refine ay (aLl N h1 hN _ ?_ ?_ ?_ ?_ ?_ ?_ ?_ ?_ ?_ x.b.2.1.2.1.1 d4 hQ) λy _ hy=> ?_
   .exact hq
   .exact l5
   .exact l6
   .exact l7
   .exact l8
   .exact l9
   .exact l10
   .show a.1.1.1<=(N:Int);rw[e1];exact hs
   .exact e2
   rw[av];obtain⟨q,qs,qt,qq,s5,s6,s7,s8,s9,Y1,p1,p2⟩:=hy;exact⟨q,(by rw[show y.b.2.1=d.2.1 from qs];exact d1),qt,(by rw[show y.b.2.1=d.2.1 from qs,<-d3];exact qq),s5,s6,s7,s8,s9,Y1,p1.trans e1,p2⟩
 .simp only[aR];with_reducible refine ay (aLl N h1 hN _ ?_ ?_ ?_ ?_ ?_ ?_ ?_ ?_ ?_ x.b.2.1.2.1.1 d4 hQ) λy _ hy=> ?_
  .exact hq
  .exact l5
  .exact l6
  .exact l7
  .exact l8
  .exact l9
  .exact l10
  .exact hs
  .exact hl
  rw[av];obtain⟨q,qs,qt,qq,qr⟩:=hy;exact⟨q,(by rw[show y.b.2.1=d.2.1 from qs];exact d1),qt,(by rw[show y.b.2.1=d.2.1 from qs,<-d3];exact qq),qr⟩
theorem aRt (x:fX.B)(l5:x.c.2.1.b.1<=1000)(l6:x.c.b.1.b.1<=1000)(l7:x.c.b.2.1.b.1<=1000)(l8:x.d.1.b.1<=1000)(l9:x.d.2.1.b.1<=1000)(l10:x.d.b.1.b.1<=1000):Ok (dF x) (λe:kg=>e.2.1=x.2.1/\e.b.1=x.b.1/\e.b.2.1=x.b.2.1/\e.c.1=x.c.1/\e.d.b.2.1=x.d.b.2.1/\e.d.c.1=x.d.c.1/\e.d.c.2.1=x.d.c.2.1/\e.e.b.2.2=x.e.b.2.2/\((¬(0<=x.1.1/\x.1.1<6)/\e.c.2.1=x.c.2.1/\e.c.b.1=x.c.b.1/\e.c.b.2.1=x.c.b.2.1/\e.d.1=x.d.1/\e.d.2.1=x.d.2.1/\e.d.b.1=x.d.b.1)∨(x.1.1=0/\(PR x.c.2.1 e.c.2.1∨SR x.c.2.1 e.c.2.1)/\e.c.b.1=x.c.b.1/\e.c.b.2.1=x.c.b.2.1/\e.d.1=x.d.1/\e.d.2.1=x.d.2.1/\e.d.b.1=x.d.b.1)∨(x.1.1=1/\e.c.2.1=x.c.2.1/\(PR x.c.b.1 e.c.b.1∨SR x.c.b.1 e.c.b.1)/\e.c.b.2.1=x.c.b.2.1/\e.d.1=x.d.1/\e.d.2.1=x.d.2.1/\e.d.b.1=x.d.b.1)∨(x.1.1=2/\e.c.2.1=x.c.2.1/\e.c.b.1=x.c.b.1/\(PR x.c.b.2.1 e.c.b.2.1∨SR x.c.b.2.1 e.c.b.2.1)/\e.d.1=x.d.1/\e.d.2.1=x.d.2.1/\e.d.b.1=x.d.b.1)∨(x.1.1=3/\e.c.2.1=x.c.2.1/\e.c.b.1=x.c.b.1/\e.c.b.2.1=x.c.b.2.1/\(PR x.d.1 e.d.1∨SR x.d.1 e.d.1)/\e.d.2.1=x.d.2.1/\e.d.b.1=x.d.b.1)∨(x.1.1=4/\e.c.2.1=x.c.2.1/\e.c.b.1=x.c.b.1/\e.c.b.2.1=x.c.b.2.1/\e.d.1=x.d.1/\(PR x.d.2.1 e.d.2.1∨SR x.d.2.1 e.d.2.1)/\e.d.b.1=x.d.b.1)∨(x.1.1=5/\e.c.2.1=x.c.2.1/\e.c.b.1=x.c.b.1/\e.c.b.2.1=x.c.b.2.1/\e.d.1=x.d.1/\e.d.2.1=x.d.2.1/\(PR x.d.b.1 e.d.b.1∨SR x.d.b.1 e.d.b.1)))):=by
 unfold dF pF;try dsimp only
 show PQ _ _;rw[aRp,dH,aK];refine⟨λhn=> ?_,λhk=> ?_⟩
 .rw[av];refine⟨rfl,rfl,rfl,rfl,rfl,rfl,rfl,rfl,.inl ⟨λh=> ?_,rfl,rfl,rfl,rfl,rfl,rfl⟩⟩;rw[gy h.1,gy h.2] at hn;cases hn
 rw[ae9] at hk;obtain⟨b,_,_⟩:=aSB hk 6 (by omega);have hr:=hk;rw[cy,lY,lY] at hr;obtain⟨k0,k6⟩:=hr;simp only[aM,b]
 repeat' (first
  |rw[aR]
  |(with_reducible refine ay (aTW _ ?_) λe _ he=> ?_)
  |(with_reducible refine ay (awD _) λe _ he=> ?_)
  |(rw[tH];refine⟨λa ha=> ?_,λa ha=> ?_⟩)
  |(rw[bA];intro _ _)
  |(rw[aK];refine⟨λc=> ?_,λc=> ?_⟩<;>first|have c:=eq_of_beq c|have c:=akr c|skip))
 all_goals first
  |(dsimp only;omega)
  |(rw[av];exact⟨rfl,rfl,rfl,rfl,rfl,rfl,rfl,rfl,.inr (.inl ⟨by omega,.inr he,rfl,rfl,rfl,rfl,rfl⟩)⟩)
  |(rw[ha] at he;rw[av];exact⟨rfl,rfl,rfl,rfl,rfl,rfl,rfl,rfl,.inr (.inl ⟨by omega,.inl he,rfl,rfl,rfl,rfl,rfl⟩)⟩)
  |(rw[av];exact⟨rfl,rfl,rfl,rfl,rfl,rfl,rfl,rfl,.inr (.inr (.inl ⟨by omega,rfl,.inr he,rfl,rfl,rfl,rfl⟩))⟩)
  |(rw[ha] at he;rw[av];exact⟨rfl,rfl,rfl,rfl,rfl,rfl,rfl,rfl,.inr (.inr (.inl ⟨by omega,rfl,.inl he,rfl,rfl,rfl,rfl⟩))⟩)
  |(rw[av];exact⟨rfl,rfl,rfl,rfl,rfl,rfl,rfl,rfl,.inr (.inr (.inr (.inl ⟨by omega,rfl,rfl,.inr he,rfl,rfl,rfl⟩)))⟩)
  |(rw[ha] at he;rw[av];exact⟨rfl,rfl,rfl,rfl,rfl,rfl,rfl,rfl,.inr (.inr (.inr (.inl ⟨by omega,rfl,rfl,.inl he,rfl,rfl,rfl⟩)))⟩)
  |(rw[av];exact⟨rfl,rfl,rfl,rfl,rfl,rfl,rfl,rfl,.inr (.inr (.inr (.inr (.inl ⟨by omega,rfl,rfl,rfl,.inr he,rfl,rfl⟩))))⟩)
  |(rw[ha] at he;rw[av];exact⟨rfl,rfl,rfl,rfl,rfl,rfl,rfl,rfl,.inr (.inr (.inr (.inr (.inl ⟨by omega,rfl,rfl,rfl,.inl he,rfl,rfl⟩))))⟩)
  |(rw[av];exact⟨rfl,rfl,rfl,rfl,rfl,rfl,rfl,rfl,.inr (.inr (.inr (.inr (.inr (.inl ⟨by omega,rfl,rfl,rfl,rfl,.inr he,rfl⟩)))))⟩)
  |(rw[ha] at he;rw[av];exact⟨rfl,rfl,rfl,rfl,rfl,rfl,rfl,rfl,.inr (.inr (.inr (.inr (.inr (.inl ⟨by omega,rfl,rfl,rfl,rfl,.inl he,rfl⟩)))))⟩)
  |(rw[av];exact⟨rfl,rfl,rfl,rfl,rfl,rfl,rfl,rfl,.inr (.inr (.inr (.inr (.inr (.inr (⟨by omega,rfl,rfl,rfl,rfl,rfl,.inr he⟩))))))⟩)
  |(rw[ha] at he;rw[av];exact⟨rfl,rfl,rfl,rfl,rfl,rfl,rfl,rfl,.inr (.inr (.inr (.inr (.inr (.inr (⟨by omega,rfl,rfl,rfl,rfl,rfl,.inl he⟩))))))⟩)
  |skip
structure Clo (P:Int->Int->Bf->Prop):Prop where
 len:∀{m t b},P m t b->b.2.2.1<=64
 br:∀{m t u b c},P m t b->t<=u->BR u b c->P m u c
 pr:∀{m t b c},0<=m->m<=1000->P m t b->(PR b c∨SR b c)->P (m+1) t c
 up:∀{m t b},P m t b->P (m+1) t b
def Tq (T S:Int)(a:Bool)(n:Nat)(r:Nat->Int):Prop:=(a=false->S<=0)/\Qd T S n r
noncomputable section
def jS:gM:=λx0 x1 x2 x3 x4 x5 x6 x7 x8 x9 fS fR zy=>some (Classical.choose (aBk x0 x1 x2 x3 x4 x5 x6 x7 x8 x9 fS fR zy).ok)
theorem a1n:KD=jS:=by
 funext x0 x1 x2 x3 x4 x5 x6 x7 x8 x9 fS fR zy
 exact Classical.choose_spec (aBk x0 x1 x2 x3 x4 x5 x6 x7 x8 x9 fS fR zy).ok
def rT (x0 x1:Nat->Int)(x2:Int)(x3:Nat)(x4:Bool)(x5:Nat->Int)(w0:Bool)(h:wd x3 1999=true):W0:=Classical.choose (Ba x0 x1 x2 x3 x4 x5 w0 (EA h)).ok
def rS:cJ:=λx0 x1 x2 x3 x4 x5 w0=>if h:wd x3 1999=true then some (rT x0 x1 x2 x3 x4 x5 w0 h) else dX x0 x1 x2 x3 x4 x5 w0
theorem a1o:dX=rS:=by
 funext x0 x1 x2 x3 x4 x5 w0
 unfold rS;split
 .exact Classical.choose_spec (Ba x0 x1 x2 x3 x4 x5 w0 (EA ‹_›)).ok
 .rfl
def aLD (j:gM)(r:cJ)(x0:Nat->Int)(x1:Nat->Int)(x2:Nat->Int)(x3:Int)(x4:Int)(x5:Bool):Option agL:=(UK bD dh AJ bX kP dy fI r x0 x1 x2 x3 x4 x5).val
def awE (j:gM)(r:cJ)(x0:Nat->Int)(x1:Nat->Int)(x2:Nat->Int)(x3:Int)(x4:Int)(x5:Int)(x6:Int)(x7:Bool):Option MK:=(D7 bD gD dh r x0 x1 x2 x3 x4 x5 x6 x7).val
def apr (j:gM)(r:cJ)(x0:Nat->Int)(x1:Nat->Int)(x2:Nat->Int)(x3:Int)(x4:Int)(x5:Int)(x6:Bool):Option GZ:=(Ak bD gD dh r x0 x1 x2 x3 x4 x5 x6).val
def aCt (j:gM)(r:cJ)(x0:Nat->Int)(x1:Nat->Int)(x2:Nat->Int)(x3:Int)(x4:Int)(x5:Bool):Option Tu:=(Iz bD gD dh r x0 x1 x2 x3 x4 x5).val
def atL (j:gM)(r:cJ)(x:ka.B):Option wS:=(Cg vm bX di F1 cq (aLD j r) fM jX nU fI bD ec x).val
def atM (j:gM)(r:cJ)(x:kc.B):Option wT:=(Ci jC (awE j r) fM (apr j r) (aCt j r) x).val
def acZ (j:gM)(r:cJ)(x:fa.B):Option nP:=(rP yK (atM j r) ec vK qP AQ cW fm fj x).val
def awF (j:gM)(r:cJ)(x:lJ.B):Option zf:=(Eg (atL j r) (acZ j r) mi AR fV kX xX cq iv fW kd x).val
def aps (j:gM)(r:cJ)(x:fU.B):Option pK:=(Ao pN kz aZ lp Kw fI r eD iU x).val
def ajX (j:gM)(r:cJ):bG.B->Option gu:=bw (oQ (awF j r)) 2000
def ajY (j:gM)(r:cJ):cw.B->Option jT:=bw (oR j7 (ajX j r)) 2000
def ajZ (j:gM)(r:cJ)(d:de.B):Option ix:=(oS gx (ajY j r) dQ d).val
def atN (j:gM)(r:cJ)(x:fN.B):Option oq:=(qZ (aps j r) j vj (ajZ j r) x).val
def aol (j:gM)(r:cJ):cF.B->Option gT:=bw (kZ (atN j r)) 2000
def aom (j:gM)(r:cJ)(d:cG.B):Option eV:=(ld (aol j r) d).val
def Nd (j:gM)(r:cJ)(x:dZ.B):Option gB:=(jD cU gj (aom j r) x).val
theorem aon:bQ=Nd jS rS:=by
 rw[<-a1n,<-a1o];rfl
end
end Go.Proofs.YtldgljclcgaibaaGreat
namespace Go.Proofs.YtldgljclcgaibaaGreat
open Go.Ab Go.Ab.Pg
end Go.Proofs.YtldgljclcgaibaaGreat
