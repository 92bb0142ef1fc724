/-
  Parts of the proof: Q2 PWS PWT PWU PWV
-/
import Derived.Test.YtldgljclcgaibaaGreatZAE
import Derived.Test.YtldgljclcgaibaaGreatZAF
open Nat renaming beq→z9,ble→wr
open Int renaming toNat→z4,ofNat→ws
open Sum renaming inl→w7,inr→ww
open BitVec renaming ofInt→wn,toNat→wd
set_option linter.unusedVariables false
set_option linter.unusedSimpArgs false
set_option maxRecDepth 100000
set_option maxHeartbeats 4000000
noncomputable section
namespace Go.Proofs.YtldgljclcgaibaaGreat
open Go.Ab Go.Ab.Pg Go.Ab.Rq
def aqU:=qa (pl asv nil)
def W0:=qe Cy
abbrev aqV:=W0.B
abbrev QC:=Int->Int->Int->Int->Option aqV
def acx (g:QC):Ct:=(67,FC aqU (lf W0) (λb=>g b.1 b.2.1 b.b.1 b.b.2))
def mQ:=qs (st (dp (us 1 (cu vU (us 1 (c aXW (us 6 (c afL (cl ai (us 24 aQs)))))))) λa=>(pl (c yc (cl (so (cl (gs a.1 aJ2) nil)) nil)) nil)))
def aaj:=qs (st (pu (us 2 (cu lM (us 42 nil))) (pu nil nil)))
def avo:=qs (st (pr (us 1 (cu vU (us 1 (c aXW (us 6 (c afL (c ai (cl ab (us 23 aQs))))))))) (pl (c yc (cl aQI nil)) nil)))
abbrev yL:=aaj.B⊕((Nat×aIv×Int×Bool)×aIv×NI×NI)
def aiN {ρ:Type}(x:yL)(K:AX->St->Option ρ):Option ρ:=(Sum.elim (λd=>K .ret (aaj.em d)) (λd=>K (.ex 0) (avo.em (d.1,d.2.1,d.1.1,d.b)))) x
def Ti (dC:OP)(cT:o6)(d:mQ.B):PL mQ yL:=let n5:=d.2.2;let n3:=d.1.1;let n2:=d.1.2;let n4:=n2.1.2;let y0:=n3+1;let n1:=(y0,n2.1,wI (n2.2+1));let y1:=decide (n2.2<4);ae y1 (ae (aZ n2.2 4) (ae (n2.2==3) (opt (dC n4.2.2) λak=>ae (decide (ak>1073741840)) (ret (ww (w7 ()))) (opt (cT n4.2.2 n4.2.2) λaJ=>ae (wr (y0*16) 140737488355328) (ret (w7 (n1,d.2.1,λj=>bif z9 j n3 then aJ.1 else n5.1 j,λj=>bif z9 j n3 then aJ.2 else n5.2 j))) no)) (ae (n2.2==2) (opt (dC n4.2.1) λak=>ae (decide (ak>1073741840)) (ret (ww (w7 ()))) (opt (cT n4.2.1 n4.2.1) λaJ=>ae (wr (y0*16) 140737488355328) (ret (w7 (n1,d.2.1,λj=>bif z9 j n3 then aJ.1 else n5.1 j,λj=>bif z9 j n3 then aJ.2 else n5.2 j))) no)) (ae (n2.2==1) (opt (dC n4.1) λak=>ae (decide (ak>1073741840)) (ret (ww (w7 ()))) (opt (cT n4.1 n4.1) λaJ=>ae (wr (y0*16) 140737488355328) (ret (w7 (n1,d.2.1,λj=>bif z9 j n3 then aJ.1 else n5.1 j,λj=>bif z9 j n3 then aJ.2 else n5.2 j))) no)) (opt (dC n2.1.1) λak=>ae (decide (ak>1073741840)) (ret (ww (w7 ()))) (opt (cT n2.1.1 n2.1.1) λaJ=>ae (wr (y0*16) 140737488355328) (ret (w7 (n1,d.2.1,λj=>bif z9 j n3 then aJ.1 else n5.1 j,λj=>bif z9 j n3 then aJ.2 else n5.2 j))) no))))) no) (ret (ww (ww ((n3,n2.1,n2.2,y1),d.2))))
def Tj:=bG (Ti yK fP) 2000
def acy (zn:th)(vY:Eh)(dX:LT mQ yL)(x0:Int)(x1:Int)(x2:Int)(x3:Int):Pg aqV:=ae true (opt (dX ((0,(x0,x1,x2,x3),0),(x0,x1,x2,x3),λx=>0,λx=>0)) λx=>sum x (λd=>ret false) λd=>ae (z9 d.1.1 d.1.1) (opt (zn d.1.1 d.2.2.1 d.2.2.2 true) λd=>opt (vY d.1.1 d.1.2 0) λd=>let y0:=wI (d.1-1152921504606846976);ae d.2 (ae (decide (y0>= -4294967296)) (ret (decide (y0<=4294967296))) (ret false)) (ret false)) no) no
def sF:=λx0 x1 x2 x3=>(acy kU sw Tj x0 x1 x2 x3).val
abbrev QD:=OP×o6×th×Eh×(LT mQ yL)
def acz (p:QD):KK:=⟨[aef p.1,ze p.2.1,K5 p.b.1,Qp p.b.2.1],⟨[⟨3,(0::2::rg 4 6 (rg 12 24 [39,40,44])),[(3,[.i .i64,.i .u64])]⟩],[fU 3 0 mQ aiN p.c],[],[],(some ⟨0,(0::1::rg 3 42 []),[]⟩)⟩,0,67⟩
theorem ayo (p:QD):LI (acz p) 3 mQ aiN (Ti p.1 p.2.1):=λ_ d c K=>by kernel_rfl
theorem aHH (p:QD):D2 (acz p) aqU (lf W0) λb=>acy p.b.1 p.b.2.1 p.c b.1 b.2.1 b.b.1 b.b.2:=λb=>by kernel_rfl
abbrev acA:QD:=(yK,fP,kU,sw,Tj)
theorem aqW [aA]:SC (acx sF):=sc (kS (k:=acz acA) (.c aoV (.c Cc (.c Rk (.c ab2 (.nil _))))) [3] [] ⟨kL (ayo acA),trivial⟩ trivial (aHH acA))
def aqX:=qa (dp (cu aQ (c ai (c Ix (cl aP4 nil)))) λa=>(c xY (c (cl (gs a.2.1.1 oC) nil) (cl (cl (gs a.b.1 oC) nil) nil))))
def W2:=qe (res (pr ai (pl (cl aus aDV) nil)))
abbrev aqY:=W2.B
abbrev dY:=Int->Nat->Nat->Bool->NI->NI->Bool->Bool->Option aqY
def mH (g:dY):Ct:=(73,vX 3 [.i .i64] (vX 2 [.i .i64] (FC aqX (lf W2) (λb=>g b.1.1 b.1.2.1.1 b.1.b.1 b.2.1 b.b.1 b.b.2 b.1.2.1.2 b.1.b.2))))
def rB:=qs (st (dp (cu aQ (c ai (c Ix (c aP4 (us 5 (cu (app 3 2) aXu)))))) λa=>(pl (c bD (c (so (cl (gs a.2.1.1 oC) nil)) (c (so (cl (gs a.b.1.1 oC) nil)) abA))) bK)))
def aCo:=qs (st (pr (cu aQ (c ai (c Ix (c aP4 (us 5 (cu (app 3 2) aXz)))))) (pl (c bD (c HS (c HS abA))) bK)))
abbrev Jz:=(aWQ×Bool×NI×NI×Int×Int)
def aiO {ρ:Type}(x:Jz)(K:AX->St->Option ρ):Option ρ:=(λd=>K (.ex 0) (aCo.em (d.1,d.2.1,(d.1.2.1.1,d.b.1),(d.1.b.1.1,d.b.2.1),d.c))) x
def JA (ay:bV)(cT:o6)(zn:th)(d:rB.B):PL rB Jz:=let y0:=z4 d.1.2.2.2.2;let y1:=decide (d.1.2.2.2.2<d.1.2.2.2.1);ae y1 (ae (aZ d.1.2.2.2.2 d.1.2.1.1) (opt (ay (d.2.2.1 y0) d.2.1) λak=>ae (aZ d.1.2.2.2.2 d.1.2.2.1.1) (opt (ay (d.2.2.2.1 y0) ak.2) λaJ=>opt (cT ak.1 aJ.1) λbB=>opt (zn 2 (λj=>bif z9 j 1 then bB.1 else bif z9 j 0 then d.2.2.2.2.1 else d.2.2.2.2.1) (λj=>bif z9 j 1 then bB.2 else bif z9 j 0 then d.2.2.2.2.2 else d.2.2.2.2.2) true) λcK=>ret (w7 ((d.1.1,d.1.2.1,d.1.2.2.1,d.1.2.2.2.1,wI (d.1.2.2.2.2+1)),aJ.2,d.2.2.1,d.2.2.2.1,cK.1))) no) no) (ret (ww ((d.1.1,d.1.2.1,d.1.2.2.1,d.1.2.2.2.1,d.1.2.2.2.2,y1),d.2)))
def JB:=bG (JA aO fP kU) 2000
def acB (jm:yI)(dX:LT rB Jz)(x0:Int)(x1:Nat)(x2:Nat)(x3:Bool)(x4:Nat->Int)(x5:Nat->Int)(w0:Bool)(w1:Bool):Pg aqY:=let y0:=if ws x2<ws x1 then ws x2 else ws x1;ae (decide (x0<0)) (opt (jm 0 0 x0 x3) λd=>ret d) (ae (decide (x0>120)) (opt (jm 0 0 x0 x3) λd=>ret d) (ae (z9 x1 x1) (ae (z9 x2 x2) (opt (dX ((x0,(x1,w0),(x2,w1),if 100<y0 then 100 else y0,0),x3,x4,x5,0,0)) λd=>opt (jm d.2.2.2.2.1 d.2.2.2.2.2 d.1.1 d.2.1) λd=>ret d) no) no))
def bu:=λx0 x1 x2 x3 x4 x5 w0 w1=>(acB mF JB x0 x1 x2 x3 x4 x5 w0 w1).val
abbrev QE:=yI×bV×o6×th×(LT rB Jz)
def acC (p:QE):KK:=⟨[Jo p.1,dy p.2.1,ze p.b.1,K5 p.b.2.1],⟨[⟨5,(rg 4 5 (rg 10 15 (rg 27 26 []))),[]⟩],[fU 5 3 rB aiO p.c],[0],[],(some ⟨0,(rg 0 8 (rg 9 44 [])),[]⟩)⟩,3,73⟩
theorem ayp (p:QE):LI (acC p) 5 rB aiO (JA p.2.1 p.b.1 p.b.2.1):=λ_ d c K=>by kernel_rfl
theorem aHI (p:QE):D2 (acC p) aqX (lf W2) λb=>acB p.1 p.c b.1.1 b.1.2.1.1 b.1.b.1 b.2.1 b.b.1 b.b.2 b.1.2.1.2 b.1.b.2:=λb=>by kernel_rfl
abbrev acD:QE:=(mF,aO,fP,kU,JB)
theorem nQ [aA]:SC (mH bu):=sc (Sound.nil 3 [.i .i64]<|Sound.nil 2 [.i .i64]<|kS (k:=acC acD) (.c Tb (.c dF (.c Cc (.c Rk (.nil _))))) [5] [] ⟨kL (ayp acD),trivial⟩ trivial (aHI acD))
def aAs:=qa (pr (c ai (c ai (c ai (cl ai (cu aQ (cu apX nil)))))) (cu aQi (c afK bL)))
def agY:=qe aXO
abbrev aAt:=agY.B
abbrev alX:=Int->Int->Int->Int->Int->Int->Int->Int->Bool->Option aAt
def aAu (g:alX):Ct:=(196,FC aAs (lf agY) (λb=>g b.1.1 b.1.2.1 b.1.b.1 b.1.b.2 b.2.1.1 b.2.1.2.1 b.2.1.b.1 b.2.1.b.2 b.b))
def alY (bj:dY)(x0:Int)(x1:Int)(x2:Int)(x3:Int)(x4:Int)(x5:Int)(x6:Int)(x7:Int)(x8:Bool):Pg aAt:=let y0:=wI (x0*x4);opt (bj 30 4 4 x8 (cr x4 [x7,x6,x5,x4]) (cr y0 [wI (x3*x7),wI (x2*x6),wI (x1*x5),y0]) false true) λd=>ret d
def K9:=λx0 x1 x2 x3 x4 x5 x6 x7 x8=>(alY bu x0 x1 x2 x3 x4 x5 x6 x7 x8).val
theorem aOm:∀bj,D0 [mH bj] 196 aAs (lf agY) λb=>alY bj b.1.1 b.1.2.1 b.1.b.1 b.1.b.2 b.2.1.1 b.2.1.2.1 b.2.1.b.1 b.2.1.b.2 b.b:=λ_ b=>by kernel_rfl
theorem aOn [aA]:SC (aAu K9):=s0 (.c nQ (.nil _)) (aOm bu)
def aAv:=qa (pr (c ai (c ai aKb)) (cu asq bL))
def agZ:=qe aQE
abbrev aAw:=agZ.B
abbrev alZ:=Int->Int->Int->Int->Bool->Option aAw
def aAx (g:alZ):Ct:=(197,FC aAv (lf agZ) (λb=>g b.1.1 b.1.2.1 b.1.b.1 b.1.b.2 b.2))
def al0 (bj:dY)(x0:Int)(x1:Int)(x2:Int)(x3:Int)(x4:Bool):Pg aAw:=opt (bj 30 4 4 x4 (cr x0 [x2,x2,x0,x0]) (cr x1 [x3,x3,x1,x1]) true true) λd=>ret d
def K':=λx0 x1 x2 x3 x4=>(al0 bu x0 x1 x2 x3 x4).val
theorem aOo:∀bj,D0 [mH bj] 197 aAv (lf agZ) λb=>al0 bj b.1.1 b.1.2.1 b.1.b.1 b.1.b.2 b.2:=λ_ b=>by kernel_rfl
theorem aOp [aA]:SC (aAx K'):=s0 (.c nQ (.nil _)) (aOo bu)
def aak:=qa (pr (c ai (c ai (cl ai (cu apY nil)))) (cl ass nil))
def Kl:=qe aXS
abbrev aal:=Kl.B
abbrev aam:=Int->Int->Int->NI->Option aal
def aan (g:aam):Ct:=(115,FC aak (lf Kl) (λb=>g b.1.1 b.1.2.1 b.1.b b.2))
def jL:=qs (st (pr (us 1 (c ai (c ai (cu apY (us 3 (cl ai (us 9 nil))))))) (pl FB bK)))
def apb:=qs (st (pr (us 1 (c ai (c ai (cu apY (us 3 (c ai (us 1 (c ai (c ai (cl ab (us 5 nil))))))))))) (pl FB bK)))
abbrev uN:=(aS2×NI)
def Ux {ρ:Type}(x:uN)(K:AX->St->Option ρ):Option ρ:=(λd=>K (.ex 0) (apb.em ((d.1.1,d.1.2.1,d.1.b.1,d.1.b.1,d.1.1,d.1.b.2),d.2))) x
def H2 (d:jL.B):PL jL uN:=let n1:=d.1.2;let y0:=z4 n1.2;let y1:=decide (n1.2<d.1.1);ae y1 (ae (aZ n1.2 24) (ae (true&&wr (0+y0*1+1) 24) (ret (w7 ((d.1.1,n1.1,wI (n1.2+1)),λj=>bif z9 j y0 then n1.1 else d.2 j))) no) no) (ret (ww ((d.1.1,n1.1,n1.2,y1),d.2)))
def H4:=bG (H2) 2000
def Mm (dX:LT jL uN)(x0:Int)(x1:Int)(x2:Int)(x3:Nat->Int):Pg aal:=opt (dX ((x1,x2,x0),x3)) λd=>ret d.2
def zp:=λx0 x1 x2 x3=>(Mm H4 x0 x1 x2 x3).val
abbrev EY:=(LT jL uN)
def Mn (p:EY):KK:=⟨[],⟨[⟨1,(0::4::5::6::rg 8 9 []),[]⟩],[fU 1 1 jL Ux p],[0],[],(some ⟨0,(rg 0 17 []),[]⟩)⟩,1,115⟩
theorem al1 (p:EY):LI (Mn p) 1 jL Ux (H2):=λ_ d c K=>by kernel_rfl
theorem avp (p:EY):D2 (Mn p) aak (lf Kl) λb=>Mm p b.1.1 b.1.2.1 b.1.b b.2:=λb=>by kernel_rfl
abbrev Mp:EY:=H4
theorem avq [aA]:SC (aan zp):=sc (kS (k:=Mn Mp) (.nil _) [1] [] ⟨kL (al1 Mp),trivial⟩ trivial (avp Mp))
def aiP:=qa (pr (cu aQ jo) bL)
def OS:=qe qN
abbrev aiQ:=OS.B
abbrev DQ:=Int->Bool->Option aiQ
def Tk (g:DQ):Ct:=(88,FC aiP (lf OS) (λb=>g b.1 b.2))
def yM (aF:cx)(x0:Int)(x1:Bool):Pg aiQ:=opt (aF x0 1 72057594037927936 x1) λd=>ret d
def gr:=λx0 x1=>(yM aT x0 x1).val
theorem aCp:∀aF,D0 [eF aF] 88 aiP (lf OS) λb=>yM aF b.1 b.2:=λ_ b=>by kernel_rfl
theorem aiR [aA]:SC (Tk gr):=s0 (.c eV (.nil _)) (aCp aT)
def aej:=qa (pr (cu aQ (cl Cz nil)) bL)
def Mq:=qe aQR
abbrev OT:=Mq.B
abbrev rC:=NI->NI->Bool->Option OT
def Bv (g:rC):Ct:=(69,FC aej (lf Mq) (λb=>g b.1.1 b.1.2 b.2))
def ek:=qs (st (pr (cu aQ (us 2 (cu B8 (cu ZF (us 2 aQf))))) (pl (c bD axx) bK)))
def W3:=qs (st (pr (cu aQ (us 2 (cu B8 (cu ZF (us 2 aQn))))) (pl (c bD axx) bK)))
abbrev lT:=W3.B
def Xa {ρ:Type}:=@ef lT ((.ex 0)) W3 ρ
def rD (Tl:DQ)(d:ek.B):PL ek lT:=let y0:=z4 d.1;let y1:=aZ d.1 24;let y2:=decide (d.1<24);ae y2 (ae y1 (opt (Tl (d.2.2.1.2 y0) d.2.1) λak=>ae y1 (ae (true&&wr (276+y0*1+1) 300) (ret (w7 (wI (d.1+1),ak.2,(d.2.2.1.1,λj=>bif z9 j y0 then ak.1 else d.2.2.1.2 j),d.2.2.2))) no) no) no) (ret (ww ((d.1,y2),d.2)))
def oI:=bG (rD gr) 2000
def eo:=qs (st (pr (cu aQ (us 2 (cu B8 (cu ZF (us 15 aJX))))) (pl (c bD axx) bK)))
def Xb:=qs (st (pr (cu aQ (us 2 (cu B8 (cu ZF (us 15 aJ3))))) (pl (c bD axx) bK)))
abbrev lU:=Xb.B
def Xc {ρ:Type}:=@ef lU ((.ex 2)) Xb ρ
def rE (aF:cx)(d:eo.B):PL eo lU:=let y0:=z4 d.1;let y1:=aZ d.1 276;let y2:=decide (d.1<276);let y3:=0+y0*1+1;let y4:=wr y3 276;ae y2 (ae y1 (ae y4 (opt (aF (d.2.2.1.1 y0) (-1152921504606846976) 1152921504606846976 d.2.1) λak=>ae y1 (ae (y4&&wr y3 300) (ret (w7 (wI (d.1+1),ak.2,(λj=>bif z9 j y0 then ak.1 else d.2.2.1.1 j,d.2.2.1.2),d.2.2.2))) no) no) no) no) (ret (ww ((d.1,y2),d.2)))
def oJ:=bG (rE aT) 2000
def wA (dX:LT ek lT)(p6:LT eo lU)(x0:Nat->Int)(x1:Nat->Int)(x2:Bool):Pg OT:=opt (dX (0,x2,(x0,x1),λx=>0,λx=>0)) λd=>opt (p6 (0,d.2)) λd=>ret (d.2.2.1,d.2.1)
def du:=λx0 x1 x2=>(wA oI oJ x0 x1 x2).val
abbrev Bw:=DQ×cx×(LT ek lT)×(LT eo lU)
def GW (p:Bw):KK:=⟨[Tk p.1,eF p.2.1],⟨[⟨2,(1::2::5::6::rg 8 26 []),[]⟩,⟨7,(1::2::rg 5 15 (rg 21 13 [])),[]⟩],[fU 2 1 ek Xa p.b.1,fU 7 1 eo Xc p.b.2],[0],[],(some ⟨0,(rg 0 4 (rg 5 29 [])),[]⟩)⟩,1,69⟩
theorem apc (p:Bw):LI (GW p) 2 ek Xa (rD p.1):=λ_ d c K=>by kernel_rfl
theorem apd (p:Bw):LI (GW p) 7 eo Xc (rE p.2.1):=λ_ d c K=>by kernel_rfl
theorem ayq (p:Bw):D2 (GW p) aej (lf Mq) λb=>wA p.b.1 p.b.2 b.1.1 b.1.2 b.2:=λb=>by kernel_rfl
abbrev GX:Bw:=(gr,aT,oI,oJ)
theorem GY [aA]:SC (Bv du):=sc (kS (k:=GW GX) (.c aiR (.c eV (.nil _))) [2,7] [] ⟨kL (apc GX),⟨kL (apd GX),trivial⟩⟩ trivial (ayq GX))
def aFM:=qa (dp (cu aQ axm) λa=>(c xY (cl (cl (gs a.1 oC) nil) nil)))
def al2:=qe aYe
abbrev aFN:=al2.B
abbrev atg:=Nat->Bool->NI->Bool->Option aFN
def aFO (g:atg):Ct:=(50,vX 1 [.i .i64] (FC aFM (lf al2) (λb=>g b.1.1 b.2.1 b.b b.1.2)))
def sG:=qs (st (dp (cu aQ (c Ix (us 2 (cu ZF (cu aIz (us 1 aDW)))))) λa=>(pl (c bD (c (so (cl (gs a.1.1 oC) nil)) axx)) bK)))
def aLh:=qs (st (pr (cu aQ (c Ix (us 2 (cu ZF (cu aIz (us 1 aJ5)))))) (pl (c bD (c HS axx)) bK)))
abbrev GZ:=(((Nat×Bool)×Int×Bool)×Bool×NI×(NI×NI)×NI×NI)
def avr {ρ:Type}(x:GZ)(K:AX->St->Option ρ):Option ρ:=(λd=>K (.ex 0) (aLh.em (d.1,d.2.1,(d.1.1.1,d.b.1),d.b.2))) x
def Vl (Tl:DQ)(d:sG.B):PL sG GZ:=let n3:=d.1.1;let n2:=d.1.2;let n1:=d.2.2;let y0:=z4 n2;let y1:=aZ n2 24;let y2:=decide (n2<24);let y3:=true&&wr (276+y0*1+1) 300;ae y2 (ae y1 (ae y3 (ae (decide (n2<ws n3.1)) (ae (aZ n2 n3.1) (opt (Tl (n1.1 y0) d.2.1) λak=>ae y1 (ae y3 (ret (w7 ((n3,wI (n2+1)),ak.2,n1.1,n1.2.1,n1.2.2.1,λj=>let y0:=z9 j y0;bif y0 then ak.1 else bif y0 then 1 else n1.2.2.2 j))) no) no) no) (ret (w7 ((n3,wI (n2+1)),d.2.1,n1.1,n1.2.1,n1.2.2.1,λj=>bif z9 j y0 then 1 else n1.2.2.2 j)))) no) no) (ret (ww ((n3,n2,y2),d.2)))
def Vm:=bG (Vl gr) 2000
def ag0 (dX:LT sG GZ)(x0:Nat)(x1:Bool)(x2:Nat->Int)(w0:Bool):Pg aFN:=ae (z9 x0 x0) (opt (dX (((x0,w0),0),x1,x2,(λx=>0,λx=>0),λx=>0,λx=>0)) λd=>ret (d.2.2.2.2,d.2.1)) no
def Km:=λx0 x1 x2 w0=>(ag0 Vm x0 x1 x2 w0).val
abbrev ag1:=DQ×(LT sG GZ)
def ath (p:ag1):KK:=⟨[Tk p.1],⟨[⟨3,(2::3::6::rg 8 20 []),[]⟩],[fU 3 2 sG avr p.2],[0],[],(some ⟨0,(rg 0 4 (rg 5 23 [])),[]⟩)⟩,2,50⟩
theorem aHJ (p:ag1):LI (ath p) 3 sG avr (Vl p.1):=λ_ d c K=>by kernel_rfl
theorem aRX (p:ag1):D2 (ath p) aFM (lf al2) λb=>ag0 p.2 b.1.1 b.2.1 b.b b.1.2:=λb=>by kernel_rfl
abbrev ati:ag1:=(gr,Vm)
theorem aRY [aA]:SC (aFO Km):=sc (Sound.nil 1 [.i .i64]<|kS (k:=ath ati) (.c aiR (.nil _)) [3] [] ⟨kL (aHJ ati),trivial⟩ trivial (aRX ati))
def avs:=qa (pl Cw nil)
def acE:=qe axr
abbrev Vn:=acE.B
abbrev ag2:=Int->Int->Option Vn
def ag3 (g:ag2):Ct:=(125,FC avs (lf acE) (λb=>g b.1 b.2))
def zq (x0:Int)(x1:Int):Pg Vn:=let y0:=wI (wI (Int.tdiv (wI (x1*wI (x1-1))) 2)+x0);ae (decide (x0>=0)) (ae (decide (x0<x1)) (ret (y0,decide (x1<24))) (ret (y0,false))) (ret (y0,false))
def fH:=λx0 x1=>(zq x0 x1).val
theorem aLi:D0 [] 125 avs (lf acE) λb=>zq b.1 b.2:=λb=>by kernel_rfl
theorem avt [aA]:SC (ag3 fH):=s0 (.nil _) aLi
def aOq:=qa (pl aKn nil)
def ayr:=qe HO
abbrev aOr:=ayr.B
abbrev Mr:=NI->NI->Int->Int->Option aOr
def al3 (g:Mr):Ct:=(71,FC aOq (lf ayr) (λb=>g b.1.1 b.1.2 b.2.1 b.b))
def al4 (qc:ag2)(x0:Nat->Int)(x1:Nat->Int)(x2:Int)(x3:Int):Pg aOr:=ae (x2==x3) (ae (decide (x2>=0)) (ae (decide (x2<24)) (ret 1073741824) (opt (qc x2 x3) λd=>ae (!d.2) (ret 0) (ae (aZ d.1 276) (ae (wr (0+z4 d.1*1+1) 276) (ret (x0 (z4 d.1))) no) no))) (opt (qc x2 x3) λd=>ae (!d.2) (ret 0) (ae (aZ d.1 276) (ae (wr (0+z4 d.1*1+1) 276) (ret (x0 (z4 d.1))) no) no))) (opt (qc x2 x3) λd=>ae (!d.2) (ret 0) (ae (aZ d.1 276) (ae (wr (0+z4 d.1*1+1) 276) (ret (x0 (z4 d.1))) no) no))
def wW:=λx0 x1 x2 x3=>(al4 fH x0 x1 x2 x3).val
theorem aZW:∀qc,D0 [ag3 qc] 71 aOq (lf ayr) λb=>al4 qc b.1.1 b.1.2 b.2.1 b.b:=λ_ b=>by kernel_rfl
theorem avu [aA]:SC (al3 wW):=s0 (.c avt (.nil _)) (aZW fH)
def aFP:=qa (pl (c Cz FA) nil)
def al5:=qe (res (pl Cz (pu nil nil)))
abbrev aFQ:=al5.B
abbrev Xd:=NI->NI->Int->Int->Int->Option aFQ
def atj (g:Xd):Ct:=(217,FC aFP (lf al5) (λb=>g b.1.1 b.1.2 b.2.1 b.b.1 b.b.2))
def Xe (qc:ag2)(x0:Nat->Int)(x1:Nat->Int)(x2:Int)(x3:Int)(x4:Int):Pg aFQ:=opt (qc x2 x3) λd=>let y0:=0+z4 d.1*1+1;ae d.2 (ae (aZ d.1 276) (ae (wr y0 276&&wr y0 300) (ret (λj=>bif z9 j (z4 d.1) then x4 else x0 j,x1)) no) no) (ret (x0,x1))
def ur:=λx0 x1 x2 x3 x4=>(Xe fH x0 x1 x2 x3 x4).val
theorem aRZ:∀qc,D0 [ag3 qc] 217 aFP (lf al5) λb=>Xe qc b.1.1 b.1.2 b.2.1 b.b.1 b.b.2:=λ_ b=>by kernel_rfl
theorem aFR [aA]:SC (atj ur):=s0 (.c avt (.nil _)) (aRZ fH)
def aiS:=qa (pu nil nil)
def OU:=qe (res (pl (aa aDY) (pu nil nil)))
abbrev DR:=OU.B
abbrev DS:=Option DR
def Tn (g:DS):Ct:=(213,FC aiS (lf OU) (λ_=>g))
def iz:=qs (st (pr (cu (app 0 576) (cu Q9 (us 1 aQj))) (pl (c m5 (cl m5 nil)) nil)))
def aao:=qs (st (pr (cu (app 0 576) (cu Q9 (us 1 aJ6))) (pl (c m5 (cl m5 nil)) nil)))
abbrev tW:=aao.B
def aap {ρ:Type}:=@ef tW ((.ex 0)) aao ρ
def EZ (d:iz.B):PL iz tW:=let y0:=z4 d.1;let y1:=aZ d.1 24;let y2:=decide (d.1<24);let y3:=y0*24+y0;ae y2 (ae y1 (ae y1 (ae (true&&wr (0+y3*1+1) 576) (ret (w7 (wI (d.1+1),d.2.1,λj=>bif z9 j y3 then 1073741824 else d.2.2 j))) no) no) no) (ret (ww ((d.1,y2),d.2)))
def E0:=bG (EZ) 2000
def JC (dX:LT iz tW):Pg DR:=opt (dX (0,λx=>0,λx=>0)) λd=>ret d.2.2
def oi:Option DR:=(JC E0).val
abbrev JD:=(LT iz tW)
def To (p:JD):KK:=⟨[],⟨[⟨3,(2::rg 4 8 []),[]⟩],[fU 3 0 iz aap p],[],[],(some ⟨0,(rg 1 11 []),[]⟩)⟩,0,213⟩
theorem atk (p:JD):LI (To p) 3 iz aap (EZ):=λ_ d c K=>by kernel_rfl
theorem aCq (p:JD):D2 (To p) aiS (lf OU) λb=>JC p:=λb=>by kernel_rfl
abbrev Tp:JD:=E0
theorem aiT [aA]:SC (Tn oi):=sc (kS (k:=To Tp) (.nil _) [3] [] ⟨kL (atk Tp),trivial⟩ trivial (aCq Tp))
def avv:=qa (pr (cu aQ (c (aa abz) HR)) bL)
def acF:=qe axt
abbrev avw:=acF.B
abbrev G0:=NI->Int->Int->Int->Bool->Option avw
def Ms (g:G0):Ct:=(124,FC avv (lf acF) (λb=>g b.1.1 b.1.2.1 b.1.b.1 b.1.b.2 b.2))
def om:=qs (st (pr (cu aQ (us 3 (cu aIA (cu ZE (cu aky (cu aS4 (us 1 aQe))))))) (pl (c bD (c (so abz) (c Ao akN))) bK)))
def al6:=qs (st (pr (cu aQ (us 3 (cu aIA (cu ZE (cu aky (cu aS4 (us 1 (c ai aQc)))))))) (pl (c bD (c (so abz) (c Ao akN))) bK)))
abbrev FR:=al6.B
def al7 {ρ:Type}:=@ef FR ((.ex 0)) al6 ρ
def Xf (bj:dY)(d:om.B):PL om FR:=let n2:=d.2.2.1;let n1:=d.2.2.2;let y0:=wI (3*d.1);let y1:=wI (d.1+1);let y2:=z4 y0;let y3:=wI (y0+3);let y4:=z4 y3;let y5:=decide (d.1<3);let y6:=y4-y2;ae y5 (ae (HA y3 9) (ae (HA y0 y4) (ae (z9 y6 y6) (opt (bj 30 y6 3 d.2.1 (λj=>n2 (y2+j)) (cr n1.1.1 [n1.1.2.2,n1.1.2.1,n1.1.1]) false false) λak=>ae (aZ d.1 3) (ae (d.1==2) (ret (w7 (y1,ak.2,n2,n1.1,n1.2.1,n1.2.2.1,ak.1))) (ae (d.1==1) (ret (w7 (y1,ak.2,n2,n1.1,n1.2.1,ak.1,n1.2.2.2))) (ret (w7 (y1,ak.2,n2,n1.1,ak.1,n1.2.2))))) no) no) no) no) (ret (ww ((d.1,y5),d.2)))
def Mt:=bG (Xf bu) 2000
def ag4 (dX:LT om FR)(x0:Nat->Int)(x1:Int)(x2:Int)(x3:Int)(x4:Bool):Pg avw:=opt (dX (0,x4,x0,(x1,x2,x3),0,0,0)) λd=>ret (d.2.2.2.2,d.2.1)
def oo:=λx0 x1 x2 x3 x4=>(ag4 Mt x0 x1 x2 x3 x4).val
abbrev Vo:=dY×(LT om FR)
def ag5 (p:Vo):KK:=⟨[mH p.1],⟨[⟨3,(1::2::3::8::rg 10 15 []),[]⟩],[fU 3 1 om al7 p.2],[0],[],(some ⟨0,(rg 0 6 (rg 7 18 [])),[]⟩)⟩,1,124⟩
theorem aCr (p:Vo):LI (ag5 p) 3 om al7 (Xf p.1):=λ_ d c K=>by kernel_rfl
theorem aLj (p:Vo):D2 (ag5 p) avv (lf acF) λb=>ag4 p.2 b.1.1 b.1.2.1 b.1.b.1 b.1.b.2 b.2:=λb=>by kernel_rfl
abbrev ag6:Vo:=(bu,Mt)
theorem Vp [aA]:SC (Ms oo):=sc (kS (k:=ag5 ag6) (.c nQ (.nil _)) [3] [] ⟨kL (aCr ag6),trivial⟩ trivial (aLj ag6))
def aAy:=qa (pr (cu aQ (c (aa abz) HR)) bL)
def ag7:=qe axt
abbrev aAz:=ag7.B
abbrev FT:=NI->Int->Int->Int->Bool->Option aAz
def aaq (g:FT):Ct:=(121,FC aAy (lf ag7) (λb=>g b.1.1 b.1.2.1 b.1.b.1 b.1.b.2 b.2))
def qd:=qs (st (pr (cu aQ (us 3 (cu aIA (cu ZE (cu aky (cu aS4 (us 1 aW0))))))) (pl (c bD (c (so abz) (c Ao akN))) bK)))
def aqZ:=qs (st (pr (cu aQ (us 3 (cu aIA (cu ZE (cu aky (cu aS4 (us 1 aXd))))))) (pl (c bD (c (so abz) (c Ao akN))) bK)))
abbrev IN:=aqZ.B
def aq0 {ρ:Type}:=@ef IN ((.ex 0)) aqZ ρ
def acG (bj:dY)(d:qd.B):PL qd IN:=let n1:=d.2.2;let n3:=n1.2.2;let n2:=n1.2.1;let y0:=wI (6+d.1);let y1:=wI (d.1+1);let y2:=wI (3+d.1);let y3:=decide (d.1<3);ae y3 (ae (aZ d.1 9) (ae (aZ y2 9) (ae (aZ y0 9) (opt (bj 30 3 3 d.2.1 (cr (n1.1 (z4 d.1)) [n1.1 (z4 y0),n1.1 (z4 y2),n1.1 (z4 d.1)]) (cr n2.1 [n2.2.2,n2.2.1,n2.1]) true false) λak=>ae (aZ d.1 3) (ae (d.1==2) (ret (w7 (y1,ak.2,n1.1,n2,n3.1,n3.2.1,ak.1))) (ae (d.1==1) (ret (w7 (y1,ak.2,n1.1,n2,n3.1,ak.1,n3.2.2))) (ret (w7 (y1,ak.2,n1.1,n2,ak.1,n3.2))))) no) no) no) no) (ret (ww ((d.1,y3),d.2)))
def QF:=bG (acG bu) 2000
def al8 (dX:LT qd IN)(x0:Nat->Int)(x1:Int)(x2:Int)(x3:Int)(x4:Bool):Pg aAz:=opt (dX (0,x4,x0,(x1,x2,x3),0,0,0)) λd=>ret (d.2.2.2.2,d.2.1)
def wa:=λx0 x1 x2 x3 x4=>(al8 QF x0 x1 x2 x3 x4).val
abbrev aar:=dY×(LT qd IN)
def al9 (p:aar):KK:=⟨[mH p.1],⟨[⟨3,(1::2::3::8::rg 10 21 []),[]⟩],[fU 3 1 qd aq0 p.2],[0],[],(some ⟨0,(rg 0 6 (rg 7 24 [])),[]⟩)⟩,1,121⟩
theorem aFS (p:aar):LI (al9 p) 3 qd aq0 (acG p.1):=λ_ d c K=>by kernel_rfl
theorem aOs (p:aar):D2 (al9 p) aAy (lf ag7) λb=>al8 p.2 b.1.1 b.1.2.1 b.1.b.1 b.1.b.2 b.2:=λb=>by kernel_rfl
abbrev ama:aar:=(bu,QF)
theorem amb [aA]:SC (aaq wa):=sc (kS (k:=al9 ama) (.c nQ (.nil _)) [3] [] ⟨kL (aFS ama),trivial⟩ trivial (aOs ama))
def avx:=qa (pl (cl (aa yb) nil) nil)
def acH:=qe Cy
abbrev avy:=acH.B
abbrev avz:=Int->Int->Bool->Bool->Option avy
def avA (g:avz):Ct:=(176,FC avx (lf acH) (λb=>g b.1 b.2.1 b.b.1 b.b.2))
def Vq (x0:Int)(x1:Int)(x2:Bool)(x3:Bool):Pg avy:=let y0:=x0==0;let y1:=x0==2;ae y0 (ae y0 (ae (x1==0) (ae (!x2) (ret !x3) (ret false)) (ret false)) (ae y1 (ae y1 (ae (decide (x1>=1)) (ae (decide (x1<=3)) (ae x2 (ret true) (ret y1)) (ret false)) (ret false)) (ret false)) (ae (x0==3) (ae (decide (x1>=1)) (ae (decide (x1<=3)) (ae x2 (ret true) (ret y1)) (ret false)) (ret false)) (ret false)))) (ae (x0==1) (ae (x1==0) (ae (!x2) (ret !x3) (ret false)) (ret false)) (ae y1 (ae y1 (ae (decide (x1>=1)) (ae (decide (x1<=3)) (ae x2 (ret true) (ret y1)) (ret false)) (ret false)) (ret false)) (ae (x0==3) (ae (decide (x1>=1)) (ae (decide (x1<=3)) (ae x2 (ret true) (ret y1)) (ret false)) (ret false)) (ret false))))
def CO:=λx0 x1 x2 x3=>(Vq x0 x1 x2 x3).val
theorem aLk:D0 [] 176 avx (lf acH) λb=>Vq b.1 b.2.1 b.b.1 b.b.2:=λb=>by kernel_rfl
theorem aLl [aA]:SC (avA CO):=s0 (.nil _) aLk
def avB:=qa (pl (c ai aQX) nil)
def acI:=qe HO
abbrev avC:=acI.B
abbrev avD:=Int->Bool->Bool->Bool->Bool->Bool->Bool->Bool->Bool->Int->Int->Int->Option avC
def avE (g:avD):Ct:=(177,FC avB (lf acI) (λb=>g b.1 b.2.1 b.b.1 b.b.2.1.1 b.b.2.1.2.1 b.b.2.1.b.1 b.b.2.1.b.2.1 b.b.2.1.c.1 b.b.2.1.c.2 b.c.1 b.c.2.1 b.c.b))
def Vr (x0:Int)(x1:Bool)(x2:Bool)(x3:Bool)(x4:Bool)(x5:Bool)(x6:Bool)(x7:Bool)(x8:Bool)(x9:Int)(gw:Int)(gx:Int):Pg avC:=let y0:=x0==0;let y1:=x0==1;ae x3 (ae y0 (ae x1 (ret 1) (ae y0 (ret x0) (ae y1 (ae (!x2) (ret x0) (ret 3)) (ret 3)))) (ae y0 (ret x0) (ae y1 (ae (!x2) (ret x0) (ret 3)) (ret 3)))) (ae y0 (ae x1 (ret 1) (ae y0 (ret x0) (ae y1 (ae (!x2) (ret x0) (ae x8 (ret 3) (ret 2))) (ae x8 (ret 3) (ret 2))))) (ae y0 (ret x0) (ae y1 (ae (!x2) (ret x0) (ae x8 (ret 3) (ret 2))) (ae x8 (ret 3) (ret 2)))))
def CP:=λx0 x1 x2 x3 x4 x5 x6 x7 x8 x9 gw gx=>(Vr x0 x1 x2 x3 x4 x5 x6 x7 x8 x9 gw gx).val
theorem aLm:D0 [] 177 avB (lf acI) λb=>Vr b.1 b.2.1 b.b.1 b.b.2.1.1 b.b.2.1.2.1 b.b.2.1.b.1 b.b.2.1.b.2.1 b.b.2.1.c.1 b.b.2.1.c.2 b.c.1 b.c.2.1 b.c.b:=λb=>by kernel_rfl
theorem aLn [aA]:SC (avE CP):=s0 (.nil _) aLm
def amc:=qa (pl jo nil)
def Ts:=qe HO
abbrev amd:=Ts.B
abbrev Xg:=Int->Option amd
def ame (g:Xg):Ct:=(239,FC amc (lf Ts) (λb=>g b))
def FU (x0:Int):Pg amd:=ae (x0==1) (ret 1) (ae (x0==2) (ret 0) (ret 2))
def Bx:=λx0=>(FU x0).val
theorem aFT:D0 [] 239 amc (lf Ts) λb=>FU b:=λb=>by kernel_rfl
theorem aFU [aA]:SC (ame Bx):=s0 (.nil _) aFT
def amf:=qa (pl (c ai aQX) nil)
def Tt:=qe axr
abbrev amg:=Tt.B
abbrev amh:=Int->Bool->Bool->Bool->Bool->Bool->Bool->Bool->Bool->Int->Int->Int->Option amg
def ami (g:amh):Ct:=(178,FC amf (lf Tt) (λb=>g b.1 b.2.1 b.b.1 b.b.2.1.1 b.b.2.1.2.1 b.b.2.1.b.1 b.b.2.1.b.2.1 b.b.2.1.c.1 b.b.2.1.c.2 b.c.1 b.c.2.1 b.c.b))
def lx:=qs (st (pr (c ai (us 1 (xs 1 (cu (app 0 11) (us 2 (xs 1 (us 3 (cu aX6 (cu (ac aQl) aDW))))))))) (pl (c aQQ (cl (so (cl gi (cu (gc axl) (cu aQo aQt)))) nil)) nil)))
def Xh:=qs (st (pl (us 4 (cl ai (cu HP aWS))) (pu nil nil)))
def Xi:=qs (st (pr (c ai (us 1 (xs 1 (cu (app 0 11) (us 2 (xs 1 (us 3 (cu aX6 (cu (ac aQl) aJ5))))))))) (pl (c aQQ (cl (so (cl gi (cu (gc axl) (cu aQo aQt)))) nil)) nil)))
abbrev wB:=Xh.B⊕Xi.B
def aek {ρ:Type}(x:wB)(K:AX->St->Option ρ):Option ρ:=(Sum.elim (λd=>K .ret (Xh.em d)) (λd=>K (.ex 0) (Xi.em d))) x
def G3 (Mu:Xg)(d:lx.B):PL lx wB:=let n6:=d.2.2;let n5:=d.2.1.2.2;let n3:=d.1.1;let n2:=d.1.2;let n1:=n5.2;let n4:=n1.2.2;let n7:=n4.2.2.1;let y0:=decide (n2<4);ae y0 (ae (aZ n2 4) (ae (n2==3) (opt (Mu 3) λak=>ae (aZ ak 6) (ae (ak==5) (ae n7 (ret (ww (w7 3))) (ret (w7 ((n3,wI (n2+1)),d.2)))) (ae (ak==4) (ae n4.2.1 (ret (ww (w7 3))) (ret (w7 ((n3,wI (n2+1)),d.2)))) (ae (ak==3) (ae n4.1 (ret (ww (w7 3))) (ret (w7 ((n3,wI (n2+1)),d.2)))) (ae (ak==2) (ae n1.2.1 (ret (ww (w7 3))) (ret (w7 ((n3,wI (n2+1)),d.2)))) (ae (ak==1) (ae n1.1 (ret (ww (w7 3))) (ret (w7 ((n3,wI (n2+1)),d.2)))) (ae n5.1 (ret (ww (w7 3))) (ret (w7 ((n3,wI (n2+1)),d.2))))))))) no) (ae (n2==2) (opt (Mu 2) λak=>ae (aZ ak 6) (ae (ak==5) (ae n7 (ret (ww (w7 2))) (ret (w7 ((n3,wI (n2+1)),d.2)))) (ae (ak==4) (ae n4.2.1 (ret (ww (w7 2))) (ret (w7 ((n3,wI (n2+1)),d.2)))) (ae (ak==3) (ae n4.1 (ret (ww (w7 2))) (ret (w7 ((n3,wI (n2+1)),d.2)))) (ae (ak==2) (ae n1.2.1 (ret (ww (w7 2))) (ret (w7 ((n3,wI (n2+1)),d.2)))) (ae (ak==1) (ae n1.1 (ret (ww (w7 2))) (ret (w7 ((n3,wI (n2+1)),d.2)))) (ae n5.1 (ret (ww (w7 2))) (ret (w7 ((n3,wI (n2+1)),d.2))))))))) no) (ae (n2==1) (opt (Mu 1) λak=>ae (aZ ak 6) (ae (ak==5) (ae n7 (ret (ww (w7 1))) (ret (w7 ((n3,wI (n2+1)),d.2)))) (ae (ak==4) (ae n4.2.1 (ret (ww (w7 1))) (ret (w7 ((n3,wI (n2+1)),d.2)))) (ae (ak==3) (ae n4.1 (ret (ww (w7 1))) (ret (w7 ((n3,wI (n2+1)),d.2)))) (ae (ak==2) (ae n1.2.1 (ret (ww (w7 1))) (ret (w7 ((n3,wI (n2+1)),d.2)))) (ae (ak==1) (ae n1.1 (ret (ww (w7 1))) (ret (w7 ((n3,wI (n2+1)),d.2)))) (ae n5.1 (ret (ww (w7 1))) (ret (w7 ((n3,wI (n2+1)),d.2))))))))) no) (ae (decide (n6>=1)) (ae (decide (n6<=3)) (opt (Mu n6) λak=>ae (aZ ak 6) (ae (ak==5) (ae n7 (ret (ww (w7 n6))) (ret (w7 ((n3,wI (n2+1)),d.2)))) (ae (ak==4) (ae n4.2.1 (ret (ww (w7 n6))) (ret (w7 ((n3,wI (n2+1)),d.2)))) (ae (ak==3) (ae n4.1 (ret (ww (w7 n6))) (ret (w7 ((n3,wI (n2+1)),d.2)))) (ae (ak==2) (ae n1.2.1 (ret (ww (w7 n6))) (ret (w7 ((n3,wI (n2+1)),d.2)))) (ae (ak==1) (ae n1.1 (ret (ww (w7 n6))) (ret (w7 ((n3,wI (n2+1)),d.2)))) (ae n5.1 (ret (ww (w7 n6))) (ret (w7 ((n3,wI (n2+1)),d.2))))))))) no) (ret (w7 ((n3,wI (n2+1)),d.2)))) (ret (w7 ((n3,wI (n2+1)),d.2))))))) no) (ret (ww (ww ((n3,n2,y0),d.2))))
def G4:=bG (G3 Bx) 2000
def Mv (dX:LT lx wB)(x0:Int)(x1:Bool)(x2:Bool)(x3:Bool)(x4:Bool)(x5:Bool)(x6:Bool)(x7:Bool)(x8:Bool)(x9:Int)(gw:Int)(gx:Int):Pg amg:=opt (dX ((x0,0),(x1,x2,x3,x4,x5,x6,x7,x8,x9,gw,gx),gx)) λx=>sum x (λd=>ret (d,true)) λd=>ret (if 1>d.1.1 then 1 else d.1.1,false)
def wX:=λx0 x1 x2 x3 x4 x5 x6 x7 x8 x9 gw gx=>(Mv G4 x0 x1 x2 x3 x4 x5 x6 x7 x8 x9 gw gx).val
abbrev Mw:=Xg×(LT lx wB)
def Xj (p:Mw):KK:=⟨[ame p.1],⟨[⟨2,(1::4::5::7::8::9::rg 13 6 (21::22::rg 28 5 (19::20::rg 23 5 []))),[]⟩],[fU 2 0 lx aek p.2],[],[],(some ⟨0,(rg 0 4 (rg 6 27 [])),[]⟩)⟩,0,178⟩
theorem avF (p:Mw):LI (Xj p) 2 lx aek (G3 p.1):=λ_ d c K=>by kernel_rfl
theorem aFV (p:Mw):D2 (Xj p) amf (lf Tt) λb=>Mv p.2 b.1 b.2.1 b.b.1 b.b.2.1.1 b.b.2.1.2.1 b.b.2.1.b.1 b.b.2.1.b.2.1 b.b.2.1.c.1 b.b.2.1.c.2 b.c.1 b.c.2.1 b.c.b:=λb=>by kernel_rfl
abbrev Xk:Mw:=(Bx,G4)
theorem aFW [aA]:SC (ami wX):=sc (kS (k:=Xj Xk) (.c aFU (.nil _)) [2] [] ⟨kL (avF Xk),trivial⟩ trivial (aFV Xk))
def G5:=qa (pl (c (aa yb) aQX) nil)
def aHK:=qe (res (pl (sf (c (ra yb) (cl (ra (c gi (c gi (c gb aJ7)))) nil))) (pu nil nil)))
abbrev ag8:=(se×Int×Int)
def avG:ag8->T:=λd=>lf aHK (d.1,d.1.1,d.1.2.1,d.1.b.1,d.1.b.2,d.2)
abbrev ag9:=G5.B->Option ag8
def avH (g:ag9):Ct:=(111,FC G5 avG g)
def Vs (Vt:avz)(Mx:avD)(FW:amh)(x:G5.B):Pg ag8:=let n8:=x.2.2.1;let n7:=x.1.1;let n4:=x.1.2.1;let n1:=x.2.2.2;let n9:=n1.1.2.1;let n6:=n1.2.1;let n3:=n1.2.2;let n2:=n1.1.2.2;let n5:=n2.2.2;let y0:=decide (n6>=0);opt (Vt n7 n4 x.1.2.2.1 x.1.2.2.2) λd=>ae (!d) (opt (Mx 0 x.2.1 n8 n1.1.1 n9 n2.1 n2.2.1 n5.1 n5.2 n6 n3.1 n3.2) λd=>ae (decide (d>=2)) (opt (FW 0 x.2.1 n8 n1.1.1 n9 n2.1 n2.2.1 n5.1 n5.2 n6 n3.1 n3.2) λak=>ae (d==3) (ret ((d,ak.1,true,!ak.2),0,0)) (ae y0 (ret ((d,ak.1,decide (n6<=n3.1),!ak.2),0,0)) (ret ((d,ak.1,false,!ak.2),0,0)))) (ret ((d,0,false,false),0,0))) (opt (Mx n7 x.2.1 n8 n1.1.1 n9 n2.1 n2.2.1 n5.1 n5.2 n6 n3.1 n3.2) λd=>ae (decide (d>=2)) (opt (FW n4 x.2.1 n8 n1.1.1 n9 n2.1 n2.2.1 n5.1 n5.2 n6 n3.1 n3.2) λak=>ae (d==3) (ret ((d,ak.1,true,!ak.2),n7,n4)) (ae y0 (ret ((d,ak.1,decide (n6<=n3.1),!ak.2),n7,n4)) (ret ((d,ak.1,false,!ak.2),n7,n4)))) (ret ((d,0,false,false),n7,n4)))
def CQ:=λx=>(Vs CO CP wX x).val
theorem aLo:∀Vt Mx FW,D0 [avA Vt,avE Mx,ami FW] 111 G5 avG λb=>Vs Vt Mx FW b:=λ_ _ _ b=>by kernel_rfl
theorem aLp [aA]:SC (avH CQ):=s0 (.c aLl (.c aLn (.c aFW (.nil _)))) (aLo CO CP wX)
def aFX:=qa (dp (cu aQ aJ1) λa=>(c xY (cl (cl (gs a.1 ast) nil) nil)))
def amj:=qe (res (pr afH (pl Oh nil)))
abbrev aFY:=amj.B
abbrev CR:=Nat->Bool->NI->NI->NI->Bool->Option aFY
def Kn (g:CR):Ct:=(153,vX 1 [.i .i64,.i .i64,.i .i64] (FC aFX (lf amj) (λb=>g b.1.1 b.2.1 b.b.1 b.b.2.1 b.c b.1.2)))
def sH:=qs (st (dp (cu aQ (c asp (us 2 (cu ZE (cu aky (c ai (c aXX (us 2 (c ai (us 2 (c asp (c ai (cl ai (us 17 nil)))))))))))))) λa=>(pl (c bD (c (so (cl (gs a.1.1 ast) nil)) (cu (so asw) (c Ao (cl (so (cl (gs a.b.1 oC) nil)) nil))))) bK)))
def aLq:=qs (st (pr (cu aQ (c asp (us 2 (cu ZE (cu aky (c ai (c aXX (us 2 (c ai (us 2 (c asp (c ai (c ai (cl ab (us 16 nil))))))))))))))) (pl (c bD (c aD6 (cu (so asw) (c Ao abC)))) bK)))
abbrev My:=(((Nat×Bool)×Int×Nat×Int×(Nat×Bool)×Int×Int×Bool)×Bool×(NI×NI×NI)×lJ×NI)
def avI {ρ:Type}(x:My)(K:AX->St->Option ρ):Option ρ:=(λd=>K (.ex 2) (aLq.em (d.1,d.2.1,(d.1.1.1,d.b.1),d.b.2.1,d.1.b.1,d.c))) x
def aha (d:sH.B):PL sH My:=let n5:=d.1.2.1;let n3:=d.2.2;let n2:=d.1.2.2;let n4:=n2.2.2.2;let y0:=n2.1+1;let n1:=(d.1.1,n5,y0,n2.2.1,n2.2.2.1,n4.1,wI (n4.2+1));let y1:=z4 n4.2;let y2:=wr (y0*8) 140737488355328;let y3:=decide (n4.2<n4.1);ae y3 (ae (aZ n4.2 n2.2.2.1.1) (ae (aZ n5 3) (ae (n5==2) (ae y2 (ret (w7 (n1,d.2.1,n3.1,n3.2.1,λj=>bif z9 j n2.1 then n3.1.2.2 y1 else n3.2.2 j))) no) (ae (n5==1) (ae y2 (ret (w7 (n1,d.2.1,n3.1,n3.2.1,λj=>bif z9 j n2.1 then n3.1.2.1 y1 else n3.2.2 j))) no) (ae y2 (ret (w7 (n1,d.2.1,n3.1,n3.2.1,λj=>bif z9 j n2.1 then n3.1.1 y1 else n3.2.2 j))) no))) no) no) (ret (ww ((d.1.1,n5,n2.1,n2.2.1,n2.2.2.1,n4.1,n4.2,y3),d.2)))
def Vu:=bG (aha) 2000
def sI:=qs (st (dp (cu aQ (c asp (us 2 (cu ZE (cu aky (us 4 aW1)))))) λa=>(pl (c bD (c (so (cl (gs a.1.1 ast) nil)) akN)) bK)))
def aLr:=qs (st (pr (cu aQ (c asp (us 2 (cu ZE (cu aky (us 4 (c ai aQd))))))) (pl (c bD (c aD6 akN)) bK)))
abbrev Mz:=(((Nat×Bool)×Int×Bool)×Bool×(NI×NI×NI)×Int×Int×Int)
def avJ {ρ:Type}(x:Mz)(K:AX->St->Option ρ):Option ρ:=(λd=>K (.ex 0) (aLr.em (d.1,d.2.1,(d.1.1.1,d.b.1),d.b.2))) x
def ahb (cB:fL)(p6:LT sH My)(d:sI.B):PL sI Mz:=let n3:=d.1.1;let y0:=decide (d.1.2<3);ae y0 (ae (z9 n3.1 n3.1) (ae true (opt (p6 ((n3,d.1.2,0,d.1.2,n3,ws n3.1,0),d.2.1,d.2.2.1,d.2.2.2,λx=>0)) λd=>let n2:=d.2.2;let n4:=n2.2.1;let n1:=d.1.2;ae (z9 n1.2.1 n1.2.1) (opt (cB n1.2.1 d.2.1 n2.2.2 true) λak=>ae (aZ n1.1 3) (ae (n1.1==2) (ret (w7 ((d.1.1,wI (n1.2.2.1+1)),ak.2,n2.1,n4.1,n4.2.1,ak.1))) (ae (n1.1==1) (ret (w7 ((d.1.1,wI (n1.2.2.1+1)),ak.2,n2.1,n4.1,ak.1,n4.2.2))) (ret (w7 ((d.1.1,wI (n1.2.2.1+1)),ak.2,n2.1,ak.1,n4.2))))) no) no) no) no) (ret (ww ((n3,d.1.2,y0),d.2)))
def Vv:=bG (ahb cF Vu) 2000
def atl (dX:LT sI Mz)(x0:Nat)(x1:Bool)(x2:Nat->Int)(x3:Nat->Int)(x4:Nat->Int)(w0:Bool):Pg aFY:=ae (z9 x0 x0) (opt (dX (((x0,w0),0),x1,(x2,x3,x4),0,0,0)) λd=>ret (d.2.2.2,d.2.1)) no
def kc:=λx0 x1 x2 x3 x4 w0=>(atl Vv x0 x1 x2 x3 x4 w0).val
abbrev Xl:=fL×(LT sH My)×(LT sI Mz)
def ahc (p:Xl):KK:=⟨[pQ p.1],⟨[⟨3,(2::3::rg 6 4 (rg 11 22 [])),[]⟩,⟨7,(2::3::8::9::11::12::rg 16 17 []),[(7,[.i .i64])]⟩],[fU 7 2 sH avI p.2.1,fU 3 2 sI avJ p.b],[0],[],(some ⟨0,(rg 0 4 (rg 5 28 [])),[]⟩)⟩,2,153⟩
theorem aHL (p:Xl):LI (ahc p) 7 sH avI (aha):=λ_ d c K=>by kernel_rfl
theorem aHM (p:Xl):LI (ahc p) 3 sI avJ (ahb p.1 p.2.1):=λ_ d c K=>by kernel_rfl
theorem aR0 (p:Xl):D2 (ahc p) aFX (lf amj) λb=>atl p.b b.1.1 b.2.1 b.b.1 b.b.2.1 b.c b.1.2:=λb=>by kernel_rfl
abbrev ahd:Xl:=(cF,Vu,Vv)
theorem OV [aA]:SC (Kn kc):=sc (Sound.nil 1 [.i .i64,.i .i64,.i .i64]<|kS (k:=ahc ahd) (.c sC (.nil _)) [3,7] [] ⟨kL (aHM ahd),⟨kL (aHL ahd),trivial⟩⟩ trivial (aR0 ahd))
def avK:=qa (pr (cu aQ asv) bL)
def acJ:=qe axv
abbrev avL:=acJ.B
abbrev ja:=Int->Int->Int->Int->Bool->Option avL
def oq (g:ja):Ct:=(86,FC avK (lf acJ) (λb=>g b.1.1 b.1.2.1 b.1.b.1 b.1.b.2 b.2))
def ot:=qs (st (pr (cu aQ (us 2 (cu apX (cu azz (c ai (us 8 (c ai (us 4 aJX)))))))) (pl (c bD (cl yc (cu akM nil))) bK)))
def amk:=qs (st (pr (cu aQ (us 2 (cu apX (cu azz (c ai (us 8 (c ai (us 4 aJ3)))))))) (pl (c bD (cl yc (cu akM nil))) bK)))
abbrev FX:=amk.B
def aml {ρ:Type}:=@ef FX ((.ex 2)) amk ρ
def Xm (aE:cN)(d:ot.B):PL ot FX:=let n6:=d.1.1;let n4:=d.1.2.2;let n2:=d.2.2;let n5:=n2.2.1;let n3:=n2.2.2;let n1:=(n6,d.1.2.1,wI (n4+1));let y0:=aZ n4 4;let y1:=n4==2;let y2:=n4==1;let y3:=n4==3;let y4:=decide (n4<4);ae y4 (ae y0 (ae y3 (opt (aE n3.2 n6 30 d.2.1) λak=>ae y0 (ae y3 (ret (w7 (n1,ak.2,n2.1,n5,n3.1,ak.1))) (ae y1 (ret (w7 (n1,ak.2,n2.1,n5,ak.1,n3.2))) (ae y2 (ret (w7 (n1,ak.2,n2.1,ak.1,n3))) (ret (w7 (n1,ak.2,ak.1,n2.2)))))) no) (ae y1 (opt (aE n3.1 n6 30 d.2.1) λak=>ae y0 (ae y3 (ret (w7 (n1,ak.2,n2.1,n5,n3.1,ak.1))) (ae y1 (ret (w7 (n1,ak.2,n2.1,n5,ak.1,n3.2))) (ae y2 (ret (w7 (n1,ak.2,n2.1,ak.1,n3))) (ret (w7 (n1,ak.2,ak.1,n2.2)))))) no) (ae y2 (opt (aE n5 n6 30 d.2.1) λak=>ae y0 (ae y3 (ret (w7 (n1,ak.2,n2.1,n5,n3.1,ak.1))) (ae y1 (ret (w7 (n1,ak.2,n2.1,n5,ak.1,n3.2))) (ae y2 (ret (w7 (n1,ak.2,n2.1,ak.1,n3))) (ret (w7 (n1,ak.2,ak.1,n2.2)))))) no) (opt (aE n2.1 n6 30 d.2.1) λak=>ae y0 (ae y3 (ret (w7 (n1,ak.2,n2.1,n5,n3.1,ak.1))) (ae y1 (ret (w7 (n1,ak.2,n2.1,n5,ak.1,n3.2))) (ae y2 (ret (w7 (n1,ak.2,n2.1,ak.1,n3))) (ret (w7 (n1,ak.2,ak.1,n2.2)))))) no)))) no) (ret (ww ((n6,d.1.2.1,n4,y4),d.2)))
def fu:=bG (Xm bh) 2000
def ou:=qs (st (pr (cu aQ (us 2 (cu apX (cu azz (us 9 aQh))))) (pl (c bD (cl yc (cu akM nil))) bK)))
def amm:=qs (st (pr (cu aQ (us 2 (cu apX (cu azz (us 9 aJ4))))) (pl (c bD (cl yc (cu akM nil))) bK)))
abbrev FY:=amm.B
def amn {ρ:Type}:=@ef FY ((.ex 0)) amm ρ
def kD (kM:As)(p6:LT ot FX)(d:ou.B):PL ou FY:=let n1:=d.2.2;let y0:=decide (d.1<2);ae y0 (opt (kM 4 d.2.1 (cr n1.1 [n1.2.2.2,n1.2.2.1,n1.2.1,n1.1]) false) λak=>opt (p6 ((ak.1,d.1,0),ak.2,n1)) λd=>ret (w7 (wI (d.1.2.1+1),d.2))) (ret (ww ((d.1,y0),d.2)))
def By:=bG (kD cw fu) 2000
def Vx (qI:Rp)(iT:Cf)(dX:LT ou FY)(x0:Int)(x1:Int)(x2:Int)(x3:Int)(x4:Bool):Pg avL:=opt (qI x0 x1 x2 x3 x4) λd=>ae (d.1.1==0&&(d.1.2.1==0&&(d.1.2.2.1==0&&(d.1.2.2.2==0&&true)))) (opt iT λak=>ret ((1073741824,0,0,0),d.2)) (opt (dX (0,d.2,d.1)) λd=>ret (d.2.2,d.2.1))
def cQ:=λx0 x1 x2 x3 x4=>(Vx qH o8 By x0 x1 x2 x3 x4).val
abbrev MA:=Rp×Cf×As×cN×(LT ot FX)×(LT ou FY)
def Vy (p:MA):KK:=⟨[aah p.1,K8 p.2.1,IJ p.b.1,gL p.b.2.1],⟨[⟨5,(1::2::rg 5 9 (rg 15 18 [])),[]⟩,⟨8,(1::2::rg 6 8 (rg 15 4 (rg 20 13 []))),[]⟩],[fU 8 1 ot aml p.c.1,fU 5 1 ou amn p.c.2],[],[],(some ⟨0,(rg 0 4 (rg 5 28 [])),[]⟩)⟩,1,86⟩
theorem aCs (p:MA):LI (Vy p) 8 ot aml (Xm p.b.2.1):=λ_ d c K=>by kernel_rfl
theorem aCt (p:MA):LI (Vy p) 5 ou amn (kD p.b.1 p.c.1):=λ_ d c K=>by kernel_rfl
theorem aLs (p:MA):D2 (Vy p) avK (lf acJ) λb=>Vx p.1 p.2.1 p.c.2 b.1.1 b.1.2.1 b.1.b.1 b.1.b.2 b.2:=λb=>by kernel_rfl
abbrev Vz:MA:=(qH,o8,cw,bh,fu,By)
theorem qf [aA]:SC (oq cQ):=sc (kS (k:=Vy Vz) (.c alU (.c Rr (.c Qz (.c ix (.nil _))))) [5,8] [] ⟨kL (aCt Vz),⟨kL (aCs Vz),trivial⟩⟩ trivial (aLs Vz))
def ael:=qa (pr (cu aQ (cl Cz (cu Q9 nil))) (c xY (cl aDY nil)))
def MB:=qe (res (pu aWT (pr Oh (cl aXe nil))))
abbrev OW:=MB.B
abbrev OX:=NI->NI->Bool->NI->Option OW
def aem (g:OX):Ct:=(216,FC ael (lf MB) (λb=>g b.1.1 b.1.2 b.2.1 b.b))
def eW:=qs (st (pr (cu aQ (us 1 (cu Q9 (us 1 (cu ZF (us 2 (cu ZG (c ai (cu apZ (us 3 (c ai (us 3 (c ai (cl ai (us 35 nil))))))))))))))) (pl (c bD (c m5 (c gO (c HQ FB)))) bK)))
def Xn:=qs (st (pr (cu aQ (us 1 (cu Q9 (us 1 (cu ZF (us 2 (cu ZG (c ai (cu apZ (us 3 (c ai (us 3 (c ai (c ai (cl ab (us 34 nil)))))))))))))))) (pl (c bD (c m5 (c gO (c HQ FB)))) bK)))
abbrev oK:=Xn.B
def Xo {ρ:Type}:=@ef oK ((.ex 2)) Xn ρ
def CS (Rs:Mr)(d:eW.B):PL eW oK:=let n2:=d.2.2.2;let n1:=d.1.2.2;let y0:=z4 n1.2;let y1:=decide (n1.2<n1.1);ae y1 (opt (Rs n2.1.1 n2.1.2 n1.2 d.1.1) λak=>ae (aZ n1.2 24) (ae (true&&wr (0+y0*1+1) 24) (ret (w7 ((d.1.1,d.1.2.1,n1.1,wI (n1.2+1)),d.2.1,d.2.2.1,n2.1,n2.2.1,λj=>bif z9 j y0 then ak else n2.2.2 j))) no) no) (ret (ww ((d.1.1,d.1.2.1,n1.1,n1.2,y1),d.2)))
def wY:=bG (CS wW) 2000
def eX:=qs (st (pr (cu aQ (us 1 (cu Q9 (us 1 (cu ZF (us 2 (cu ZG (c ai (cu apZ (us 3 (c ai (us 14 (cl ai (us 25 nil)))))))))))))) (pl (c bD (c m5 (c gO (c HQ FB)))) bK)))
def Xp:=qs (st (pr (cu aQ (us 1 (cu Q9 (us 1 (cu ZF (us 2 (cu ZG (c ai (cu apZ (us 3 (c ai (us 14 (c ai (cl ab aWU)))))))))))))) (pl (c bD (c m5 (c gO (c HQ FB)))) bK)))
abbrev oL:=Xp.B
def Xq {ρ:Type}:=@ef oL ((.ex 4)) Xp ρ
def CT (bj:dY)(d:eX.B):PL eX oL:=let n2:=d.2.2;let n1:=d.1.2;let y0:=z4 n1.2;let y1:=aZ n1.2 24;let y2:=decide (n1.2<24);let y3:=y0*48+z4 d.1.1;ae y2 (ae y1 (opt (bj 30 24 24 d.2.1 (λj=>n2.1 (0+y0*24+j)) n2.2.2.2 false false) λak=>ae y1 (ae (aZ d.1.1 48) (ae (true&&wr (0+y3*1+1) 1152) (ret (w7 ((d.1.1,n1.1,wI (n1.2+1)),ak.2,n2.1,n2.2.1,λj=>bif z9 j y3 then ak.1 else n2.2.2.1 j,n2.2.2.2))) no) no) no) no) (ret (ww ((d.1.1,n1.1,n1.2,y2),d.2)))
def wZ:=bG (CT bu) 2000
def fS:=qs (st (pr (us 7 (cu aWT (us 37 aQj))) (pl (c bD (c m5 (cl HQ nil))) bK)))
def Xr:=qs (st (pr (us 7 (cu aWT (us 37 aJ6))) (pl (c bD (c m5 (cl HQ nil))) bK)))
abbrev rF:=Xr.B
def Xs {ρ:Type}:=@ef rF ((.ex 6)) Xr ρ
def CU (d:fS.B):PL fS rF:=let y0:=wI (24+d.1);let y1:=decide (d.1<24);let y2:=z4 d.1*48+z4 y0;ae y1 (ae (aZ d.1 24) (ae (aZ y0 48) (ae (true&&wr (0+y2*1+1) 1152) (ret (w7 (wI (d.1+1),d.2.1,d.2.2.1,λj=>bif z9 j y2 then 1073741824 else d.2.2.2 j))) no) no) no) (ret (ww ((d.1,y1),d.2)))
def w8:=bG (CU) 2000
def eY:=qs (st (pr (cu aQ (us 1 (cu Q9 (us 1 (cu ZF (us 2 (cu ZG (us 5 (cl ai (us 40 nil)))))))))) (pl (c bD (c m5 (c gO (cl HQ nil)))) bK)))
def Xt:=qs (st (pr (cu aQ (us 1 (cu Q9 (us 1 (cu ZF (us 2 (cu ZG (us 5 (c ai (cl ab (us 39 nil))))))))))) (pl (c bD (c m5 (c gO (cl HQ nil)))) bK)))
abbrev oM:=Xt.B
def Xu {ρ:Type}:=@ef oM ((.ex 0)) Xt ρ
def CW (p6:LT eW oK)(MC:LT eX oL)(d:eY.B):PL eY oM:=let y0:=decide (d.1<24);ae y0 (opt (p6 ((d.1,d.1,wI (d.1+1),0),d.2.1,d.2.2.1,d.2.2.2.1,d.2.2.2.2,λx=>0)) λd=>opt (MC ((d.1.1,d.1.2.1,0),d.2)) λd=>ret (w7 (wI (d.1.2.1+1),d.2.1,d.2.2.1,d.2.2.2.1,d.2.2.2.2.1))) (ret (ww ((d.1,y0),d.2)))
def w9:=bG (CW wY wZ) 2000
def G6 (l_3:LT fS rF)(dX:LT eY oM)(x0:Nat->Int)(x1:Nat->Int)(x2:Bool)(x3:Nat->Int):Pg OW:=opt (dX (0,x2,x3,(x0,x1),λx=>0)) λd=>opt (l_3 (0,d.2.1,d.2.2.1,d.2.2.2.2)) λd=>ret (d.2.1,d.2.2.2)
def pe:=λx0 x1 x2 x3=>(G6 w8 w9 x0 x1 x2 x3).val
abbrev rG:=Mr×dY×(LT eW oK)×(LT eX oL)×(LT fS rF)×(LT eY oM)
def wC (p:rG):KK:=⟨[al3 p.1,mH p.2.1],⟨[⟨3,(1::3::5::6::rg 8 5 (rg 14 40 [])),[]⟩,⟨7,(1::3::5::6::10::11::12::14::15::16::rg 19 35 []),[]⟩,⟨12,(1::3::5::6::10::11::12::rg 14 14 (rg 29 25 [])),[]⟩,⟨18,(rg 0 7 (rg 8 37 (rg 46 8 []))),[]⟩],[fU 7 2 eW Xo p.b.1,fU 12 2 eX Xq p.b.2.1,fU 18 2 fS Xs p.c.1,fU 3 2 eY Xu p.c.2],[0],[],(some ⟨0,(rg 0 6 (rg 7 47 [])),[]⟩)⟩,2,216⟩
theorem ape (p:rG):LI (wC p) 7 eW Xo (CS p.1):=λ_ d c K=>by kernel_rfl
theorem apf (p:rG):LI (wC p) 12 eX Xq (CT p.2.1):=λ_ d c K=>by kernel_rfl
theorem apg (p:rG):LI (wC p) 18 fS Xs (CU):=λ_ d c K=>by kernel_rfl
theorem aph (p:rG):LI (wC p) 3 eY Xu (CW p.b.1 p.b.2.1):=λ_ d c K=>by kernel_rfl
theorem ays (p:rG):D2 (wC p) ael (lf MB) λb=>G6 p.c.1 p.c.2 b.1.1 b.1.2 b.2.1 b.b:=λb=>by kernel_rfl
abbrev wD:rG:=(wW,bu,wY,wZ,w8,w9)
theorem ayt [aA]:SC (aem pe):=sc (kS (k:=wC wD) (.c avu (.c nQ (.nil _))) [3,7,12,18] [] ⟨kL (aph wD),⟨kL (ape wD),⟨kL (apf wD),⟨kL (apg wD),trivial⟩⟩⟩⟩ trivial (ays wD))
def avM:=qa (pl akG nil)
def acK:=qe aXM
abbrev avN:=acK.B
abbrev dP:=NI->Option avN
def jb (g:dP):Ct:=(68,FC avM (lf acK) (λb=>g b))
def ahe (x0:Nat->Int):Pg avN:=ret (x0 0,x0 1,x0 2,x0 3)
def cj:=λx0=>(ahe x0).val
theorem aLt:D0 [] 68 avM (lf acK) λb=>ahe b:=λb=>by kernel_rfl
theorem kd [aA]:SC (jb cj):=s0 (.nil _) aLt
def aiU:=qa (pl (c lk asv) nil)
def OY:=qe aQF
abbrev Tu:=OY.B
abbrev JE:=NI->Int->Int->Int->Int->Option Tu
def Tv (g:JE):Ct:=(85,FC aiU (lf OY) (λb=>g b.1 b.2.1 b.b.1 b.b.2.1 b.c))
def JF (x0:Nat->Int)(x1:Int)(x2:Int)(x3:Int)(x4:Int):Pg Tu:=ret λj=>bif z9 j 3 then x4 else bif z9 j 2 then x3 else bif z9 j 1 then x2 else bif z9 j 0 then x1 else x0 j
def mI:=λx0 x1 x2 x3 x4=>(JF x0 x1 x2 x3 x4).val
theorem aCu:D0 [] 85 aiU (lf OY) λb=>JF b.1 b.2.1 b.b.1 b.b.2.1 b.c:=λb=>by kernel_rfl
theorem aiV [aA]:SC (Tv mI):=s0 (.nil _) aCu
def aq1:=qa (pr (c ai (c ai (c ai (cl ai (cu aQ (cu apX nil)))))) (cu aQi (c afK bL)))
def Xv:=qe aXO
abbrev aq2:=Xv.B
abbrev aq3:=Int->Int->Int->Int->Int->Int->Int->Int->Bool->Option aq2
def aq4 (g:aq3):Ct:=(210,FC aq1 (lf Xv) (λb=>g b.1.1 b.1.2.1 b.1.b.1 b.1.b.2 b.2.1.1 b.2.1.2.1 b.2.1.b.1 b.2.1.b.2 b.b))
def acL (bj:dY)(x0:Int)(x1:Int)(x2:Int)(x3:Int)(x4:Int)(x5:Int)(x6:Int)(x7:Int)(x8:Bool):Pg aq2:=opt (bj 30 4 4 x8 (cr x4 [x7,x6,x5,x4]) (cr x0 [x3,x2,x1,x0]) false true) λd=>ret d
def En:=λx0 x1 x2 x3 x4 x5 x6 x7 x8=>(acL bu x0 x1 x2 x3 x4 x5 x6 x7 x8).val
theorem aHN:∀bj,D0 [mH bj] 210 aq1 (lf Xv) λb=>acL bj b.1.1 b.1.2.1 b.1.b.1 b.1.b.2 b.2.1.1 b.2.1.2.1 b.2.1.b.1 b.2.1.b.2 b.b:=λ_ b=>by kernel_rfl
theorem aHO [aA]:SC (aq4 En):=s0 (.c nQ (.nil _)) (aHN bu)
def amo:=qa (pr (cu aQ jo) bL)
def Tw:=qe axv
abbrev amp:=Tw.B
abbrev amq:=Int->Bool->Option amp
def amr (g:amq):Ct:=(123,FC amo (lf Tw) (λb=>g b.1 b.2))
def Xw (dq:zm)(aB:bR)(gZ:Rm)(eP:K6)(bE:ja)(x0:Int)(x1:Bool):Pg amp:=opt (dq x0) λd=>opt (aB d 536870912 30 x1) λd=>opt (gZ d.1 d.2) λak=>opt (eP d.1 ak.2) λd=>opt (bE ak.1 0 0 d.1 d.2) λd=>ret d
def Bz:=λx0 x1=>(Xw lr aU qG ni cQ x0 x1).val
theorem aFZ:∀dq aB gZ eP bE,D0 [CM dq,fg aB,Rn gZ,K7 eP,oq bE] 123 amo (lf Tw) λb=>Xw dq aB gZ eP bE b.1 b.2:=λ_ _ _ _ _ b=>by kernel_rfl
theorem aF0 [aA]:SC (amr Bz):=s0 (.c GS (.c fK (.c aae (.c Rl (.c qf (.nil _)))))) (aFZ lr aU qG ni cQ)
def aAA:=qa (pr (cu aQ (c afL asv)) bL)
def ahf:=qe axv
abbrev aAB:=ahf.B
abbrev zu:=Int->Int->Int->Int->Int->Int->Int->Int->Bool->Option aAB
def FZ (g:zu):Ct:=(156,FC aAA (lf ahf) (λb=>g b.1.1.1 b.1.1.2.1 b.1.1.b.1 b.1.1.b.2 b.1.2.1 b.1.b.1 b.1.b.2.1 b.1.c b.2))
def ams (qI:Rp)(Av:aq3)(x0:Int)(x1:Int)(x2:Int)(x3:Int)(x4:Int)(x5:Int)(x6:Int)(x7:Int)(x8:Bool):Pg aAB:=opt (qI x0 x1 x2 x3 x8) λd=>let n1:=d.1.2;opt (qI x4 x5 x6 x7 d.2) λak=>let n2:=ak.1.2;let y0:=wI (0-n2.1);let y1:=wI (0-n2.2.1);let y2:=wI (0-n2.2.2);opt (Av ak.1.1 y0 y1 y2 d.1.1 n1.1 n1.2.1 n1.2.2 ak.2) λaJ=>opt (Av n2.1 ak.1.1 n2.2.2 y1 d.1.1 n1.1 n1.2.1 n1.2.2 aJ.2) λbB=>opt (Av n2.2.1 y2 ak.1.1 n2.1 d.1.1 n1.1 n1.2.1 n1.2.2 bB.2) λcK=>opt (Av n2.2.2 n2.2.1 y0 ak.1.1 d.1.1 n1.1 n1.2.1 n1.2.2 cK.2) λd=>ret ((aJ.1,bB.1,cK.1,d.1),d.2)
def kV:=λx0 x1 x2 x3 x4 x5 x6 x7 x8=>(ams qH En x0 x1 x2 x3 x4 x5 x6 x7 x8).val
theorem aOt:∀qI Av,D0 [aah qI,aq4 Av] 156 aAA (lf ahf) λb=>ams qI Av b.1.1.1 b.1.1.2.1 b.1.1.b.1 b.1.1.b.2 b.1.2.1 b.1.b.1 b.1.b.2.1 b.1.c b.2:=λ_ _ b=>by kernel_rfl
theorem La [aA]:SC (FZ kV):=s0 (.c alU (.c aHO (.nil _))) (aOt qH En)
def aJk:=qa (pr (cu aQ asv) bL)
def atm:=qe (res (pr (aa abz) (pl m4 nil)))
abbrev aJl:=atm.B
abbrev rH:=Int->Int->Int->Int->Bool->Option aJl
def Eo (g:rH):Ct:=(122,FC aJk (lf atm) (λb=>g b.1.1 b.1.2.1 b.1.b.1 b.1.b.2 b.2))
def vh:=qs (st (pr (us 2 (cu Q' (cu azz (cu (app 3 9) (us 3 aQk))))) (pl (c bD (cu (so (cu (gp 0 1) nil)) (c yc (cl (so abz) nil)))) bK)))
def aAC:=qs (st (pr (us 2 (cu Q' (cu azz (cu (app 3 9) (us 3 aXf))))) (pl (c bD (cu (so (cu (gp 0 1) nil)) (c yc (cl (so abz) nil)))) bK)))
abbrev Rt:=aAC.B
def aAD {ρ:Type}:=@ef Rt ((.ex 0)) aAC ρ
def amt (ay:bV)(d:vh.B):PL vh Rt:=let n2:=d.2.2.2;let n1:=d.2.2.1;let n4:=n1.2.1;let n3:=n1.2.2;let y0:=aZ d.1 4;let y1:=d.1==2;let y2:=d.1==1;let y3:=d.1==3;let y4:=wI (d.1+1);let y5:=decide (d.1<4);ae y5 (ae y0 (ae y3 (opt (ay n3.2 d.2.1) λak=>ae y0 (ae y3 (ret (w7 (y4,ak.2,(n1.1,n4,n3.1,ak.1),n2))) (ae y1 (ret (w7 (y4,ak.2,(n1.1,n4,ak.1,n3.2),n2))) (ae y2 (ret (w7 (y4,ak.2,(n1.1,ak.1,n3),n2))) (ret (w7 (y4,ak.2,(ak.1,n1.2),n2)))))) no) (ae y1 (opt (ay n3.1 d.2.1) λak=>ae y0 (ae y3 (ret (w7 (y4,ak.2,(n1.1,n4,n3.1,ak.1),n2))) (ae y1 (ret (w7 (y4,ak.2,(n1.1,n4,ak.1,n3.2),n2))) (ae y2 (ret (w7 (y4,ak.2,(n1.1,ak.1,n3),n2))) (ret (w7 (y4,ak.2,(ak.1,n1.2),n2)))))) no) (ae y2 (opt (ay n4 d.2.1) λak=>ae y0 (ae y3 (ret (w7 (y4,ak.2,(n1.1,n4,n3.1,ak.1),n2))) (ae y1 (ret (w7 (y4,ak.2,(n1.1,n4,ak.1,n3.2),n2))) (ae y2 (ret (w7 (y4,ak.2,(n1.1,ak.1,n3),n2))) (ret (w7 (y4,ak.2,(ak.1,n1.2),n2)))))) no) (opt (ay n1.1 d.2.1) λak=>ae y0 (ae y3 (ret (w7 (y4,ak.2,(n1.1,n4,n3.1,ak.1),n2))) (ae y1 (ret (w7 (y4,ak.2,(n1.1,n4,ak.1,n3.2),n2))) (ae y2 (ret (w7 (y4,ak.2,(n1.1,ak.1,n3),n2))) (ret (w7 (y4,ak.2,(ak.1,n1.2),n2)))))) no)))) no) (ret (ww ((d.1,y5),d.2)))
def aas:=bG (amt aO) 2000
def ayu (amu:alX)(Lb:alZ)(dX:LT vh Rt)(x0:Int)(x1:Int)(x2:Int)(x3:Int)(x4:Bool):Pg aJl:=opt (dX (0,x4,(x0,x1,x2,x3),λx=>0)) λd=>let n2:=d.2.2.1.1;let n1:=d.2.2.1.2;let n4:=n1.2.2;let n3:=n1.2.1;let y0:=wI (0-n2);opt (amu 1 1 (-1) (-1) n2 n1.1 n3 n4 d.2.1) λak=>opt (Lb n1.1 n3 y0 n4 ak.2) λaJ=>opt (Lb n1.1 n4 n2 n3 aJ.2) λbB=>opt (Lb n1.1 n3 n2 n4 bB.2) λcK=>opt (amu 1 (-1) 1 (-1) n2 n1.1 n3 n4 cK.2) λeU=>opt (Lb n3 n4 y0 n1.1 eU.2) λde=>opt (Lb n1.1 n4 y0 n3 de.2) λlG=>opt (Lb n3 n4 n2 n1.1 lG.2) λtP=>opt (amu 1 (-1) (-1) 1 n2 n1.1 n3 n4 tP.2) λd=>ret (cr 0 [d.1,tP.1,lG.1,de.1,eU.1,cK.1,bB.1,aJ.1,ak.1],d.2)
def jY:=λx0 x1 x2 x3 x4=>(ayu K9 K' aas x0 x1 x2 x3 x4).val
abbrev aoY:=bV×alX×alZ×(LT vh Rt)
def ayv (p:aoY):KK:=⟨[dy p.1,aAu p.2.1,aAx p.b.1],⟨[⟨2,(0::1::5::6::7::rg 9 82 []),[]⟩],[fU 2 1 vh aAD p.b.2],[0],[],(some ⟨0,(rg 0 4 (rg 5 86 [])),[]⟩)⟩,1,122⟩
theorem aLu (p:aoY):LI (ayv p) 2 vh aAD (amt p.1):=λ_ d c K=>by kernel_rfl
theorem aU1 (p:aoY):D2 (ayv p) aJk (lf atm) λb=>ayu p.2.1 p.b.1 p.b.2 b.1.1 b.1.2.1 b.1.b.1 b.1.b.2 b.2:=λb=>by kernel_rfl
abbrev ayw:aoY:=(aO,K9,K',aas)
theorem G7 [aA]:SC (Eo jY):=sc (kS (k:=ayv ayw) (.c dF (.c aOn (.c aOp (.nil _)))) [2] [] ⟨kL (aLu ayw),trivial⟩ trivial (aU1 ayw))
def aiW:=qa (pu nil nil)
def OZ:=qe aQF
abbrev uu:=OZ.B
abbrev uv:=Option uu
def JG (g:uv):Ct:=(66,FC aiW (lf OZ) (λ_=>g))
def Tx (jE:aam):Pg uu:=opt (jE 0 4 1073741840 λx=>0) λd=>opt (jE 4 7 549755813888 d) λd=>opt (jE 7 10 9007199254740992 d) λd=>opt (jE 10 13 134217728 d) λd=>opt (jE 13 16 1073741824 d) λd=>opt (jE 16 22 2147483648 d) λd=>opt (jE 22 24 137438953472 d) λd=>ret d
def kE:Option uu:=(Tx zp).val
theorem aCv:∀jE,D0 [aan jE] 66 aiW (lf OZ) λb=>Tx jE:=λ_ b=>by kernel_rfl
theorem Ty [aA]:SC (JG kE):=s0 (.c avq (.nil _)) (aCv zp)
def amv:=qa (pr (cu aQ akG) bL)
def Tz:=qe axu
abbrev MD:=Tz.B
abbrev ME:=NI->Bool->Option MD
def Xx (g:ME):Ct:=(87,FC amv (lf Tz) (λb=>g b.1 b.2))
def jF:=qs (st (pr (cu aQ (us 2 (cu NT (cu AT (cu ZH aDW))))) (pl (c bD aKv) bK)))
def ayx:=qs (st (pr (cu aQ (us 2 (cu NT (cu AT (cu ZH (c ai (us 1 aJ4))))))) (pl (c bD aKv) bK)))
abbrev wE:=((Int×Bool)×Bool×NI×NI×uu)
def aen {ρ:Type}(x:wE)(K:AX->St->Option ρ):Option ρ:=(λd=>K (.ex 0) (ayx.em ((d.1.1,d.1),d.2))) x
def G8 (aF:cx)(d:jF.B):PL jF wE:=let y0:=z4 d.1;let y1:=aZ d.1 24;let y2:=decide (d.1<24);ae y2 (ae y1 (ae y1 (ae y1 (opt (aF (d.2.2.1 y0) (wI (0-d.2.2.2.2 y0)) (d.2.2.2.2 y0) d.2.1) λak=>ae y1 (ae (true&&wr (0+y0*1+1) 24) (ret (w7 (wI (d.1+1),ak.2,λj=>bif z9 j y0 then ak.1 else d.2.2.1 j,d.2.2.2))) no) no) no) no) no) (ret (ww ((d.1,y2),d.2)))
def BA:=bG (G8 aT) 2000
def MF (DT:uv)(dX:LT jF wE)(x0:Nat->Int)(x1:Bool):Pg MD:=opt DT λd=>opt (dX (4,x1,x0,λx=>0,d)) λd=>ret (d.2.2.1,d.2.1)
def lV:=λx0 x1=>(MF kE BA x0 x1).val
abbrev MH:=uv×cx×(LT jF wE)
def Xy (p:MH):KK:=⟨[JG p.1,eF p.2.1],⟨[⟨3,(1::2::rg 7 20 []),[]⟩],[fU 3 1 jF aen p.b],[0],[],(some ⟨0,(rg 0 4 (rg 5 22 [])),[]⟩)⟩,1,87⟩
theorem avO (p:MH):LI (Xy p) 3 jF aen (G8 p.2.1):=λ_ d c K=>by kernel_rfl
theorem aF1 (p:MH):D2 (Xy p) amv (lf Tz) λb=>MF p.1 p.b b.1 b.2:=λb=>by kernel_rfl
abbrev Xz:MH:=(kE,aT,BA)
theorem amw [aA]:SC (Xx lV):=sc (kS (k:=Xy Xz) (.c Ty (.c eV (.nil _))) [3] [] ⟨kL (avO Xz),trivial⟩ trivial (aF1 Xz))
def aq5:=qa (pr (cu aQ akG) bL)
def XA:=qe axu
abbrev aq6:=XA.B
abbrev fM:=NI->Bool->Option aq6
def jG (g:fM):Ct:=(49,FC aq5 (lf XA) (λb=>g b.1 b.2))
def QG (bg:dP)(Ep:QC)(bE:ja)(yN:JE)(xc:ME)(x0:Nat->Int)(x1:Bool):Pg aq6:=opt (bg x0) λd=>opt (Ep d.1 d.2.1 d.2.2.1 d.2.2.2) λd=>ae (!d) (opt (bg x0) λd=>opt (bE d.1 d.2.1 d.2.2.1 d.2.2.2 x1) λd=>opt (yN x0 d.1.1 d.1.2.1 d.1.2.2.1 d.1.2.2.2) λak=>opt (xc ak d.2) λd=>ret d) (opt (xc x0 x1) λd=>ret d)
def bW:=λx0 x1=>(QG cj sF cQ mI lV x0 x1).val
theorem aHP:∀bg Ep bE yN xc,D0 [jb bg,acx Ep,oq bE,Tv yN,Xx xc] 49 aq5 (lf XA) λb=>QG bg Ep bE yN xc b.1 b.2:=λ_ _ _ _ _ b=>by kernel_rfl
theorem kO [aA]:SC (jG bW):=s0 (.c kd (.c aqW (.c qf (.c aiV (.c amw (.nil _)))))) (aHP cj sF cQ mI lV)
def aeo:=qa (pr (cu aQ jo) bL)
def MI:=qe qN
abbrev aep:=MI.B
abbrev wF:=Int->Bool->Option aep
def G9 (g:wF):Ct:=(159,FC aeo (lf MI) (λb=>g b.1 b.2))
def O0 (av:cD)(x0:Int)(x1:Bool):Pg aep:=opt (av x0 1073741824 1000000 x1) λd=>ret d
def ju:=λx0 x1=>(O0 aX x0 x1).val
theorem ayy:∀av,D0 [dt av] 159 aeo (lf MI) λb=>O0 av b.1 b.2:=λ_ b=>by kernel_rfl
theorem O1 [aA]:SC (G9 ju):=s0 (.c dI (.nil _)) (ayy aX)
def aF2:=qa (pr (cu aQ HR) bL)
def amx:=qe axv
abbrev aF3:=amx.B
abbrev aF4:=Int->Int->Int->Bool->Option aF3
def aF5 (g:aF4):Ct:=(209,FC aF2 (lf amx) (λb=>g b.1.1 b.1.2.1 b.1.b b.2))
def atn (F1:OR)(wb:Ce)(iT:Cf)(aB:bR)(eP:K6)(aE:cN)(gZ:Rm)(bE:ja)(x0:Int)(x1:Int)(x2:Int)(x3:Bool):Pg aF3:=opt (F1 x0 x1 x2 x3) λd=>opt (wb d.1.1 d.1.2.1 d.1.2.2 d.2) λak=>ae (ak.1==0) (opt iT λd=>ret ((1073741824,0,0,0),ak.2)) (opt (aB ak.1 536870912 30 ak.2) λaJ=>opt (eP aJ.1 aJ.2) λbB=>opt (aE bB.1 ak.1 30 bB.2) λcK=>opt (gZ aJ.1 cK.2) λeU=>opt (aB d.1.1 cK.1 30 eU.2) λde=>opt (aB d.1.2.1 cK.1 30 de.2) λlG=>opt (aB d.1.2.2 cK.1 30 lG.2) λd=>opt (bE eU.1 de.1 lG.1 d.1 d.2) λd=>ret d)
def O2:=λx0 x1 x2 x3=>(atn At o7 o8 aU ni bh qG cQ x0 x1 x2 x3).val
theorem aR1:∀F1 wb iT aB eP aE gZ bE,D0 [agT F1,Ro wb,K8 iT,fg aB,K7 eP,gL aE,Rn gZ,oq bE] 209 aF2 (lf amx) λb=>atn F1 wb iT aB eP aE gZ bE b.1.1 b.1.2.1 b.1.b b.2:=λ_ _ _ _ _ _ _ _ b=>by kernel_rfl
theorem aR2 [aA]:SC (aF5 O2):=s0 (.c atf (.c aag (.c Rr (.c fK (.c Rl (.c ix (.c aae (.c qf (.nil _))))))))) (aR1 At o7 o8 aU ni bh qG cQ)
def amy:=qa (pr (cu aQ (c lk abD)) bL)
def TA:=qe (res (pr (aa afO) (pl m4 nil)))
abbrev amz:=TA.B
abbrev MJ:=NI->Int->Int->Int->Int->Int->Int->Int->Int->Bool->Option amz
def XB (g:MJ):Ct:=(155,FC amy (lf TA) (λb=>g b.1.1 b.1.2.1 b.1.b.1 b.1.b.2.1.1 b.1.b.2.1.2.1 b.1.b.2.1.b b.1.c.1 b.1.c.2.1 b.1.c.b b.2))
def XC (aR:fM)(pf:wF)(bO:mG)(jc:Vj)(oN:Kk)(ahg:aF4)(bg:dP)(fI:rH)(x0:Nat->Int)(x1:Int)(x2:Int)(x3:Int)(x4:Int)(x5:Int)(x6:Int)(x7:Int)(x8:Int)(x9:Bool):Pg amz:=opt (aR x0 x9) λd=>opt (pf x2 d.2) λak=>opt (bO d.1 10) λaJ=>opt (jc aJ.1 aJ.2.1 aJ.2.2 ak.1 ak.2) λbB=>opt (oN x3 x4 x5 bB.1.1 bB.1.2.1 bB.1.2.2 bB.2) λcK=>opt (bO d.1 13) λeU=>opt (jc eU.1 eU.2.1 eU.2.2 ak.1 cK.2) λde=>opt (oN x6 x7 x8 de.1.1 de.1.2.1 de.1.2.2 de.2) λlG=>opt (ahg cK.1.1 cK.1.2.1 cK.1.2.2 lG.2) λtP=>opt (bg d.1) λd=>opt (fI d.1 d.2.1 d.2.2.1 d.2.2.2 tP.2) λd=>ret ((ak.1,cK.1.1,cK.1.2.1,cK.1.2.2,lG.1.1,lG.1.2.1,lG.1.2.2,tP.1.1,tP.1.2.1,tP.1.2.2.1,tP.1.2.2.2,d.1),d.2)
def ti:=λx0 x1 x2 x3 x4 x5 x6 x7 x8 x9=>(XC bW ju fh sD uo O2 cj jY x0 x1 x2 x3 x4 x5 x6 x7 x8 x9).val
theorem aF6:∀aR pf bO jc oN ahg bg fI,D0 [jG aR,G9 pf,sE bO,Vk jc,WW oN,aF5 ahg,jb bg,Eo fI] 155 amy (lf TA) λb=>XC aR pf bO jc oN ahg bg fI b.1.1 b.1.2.1 b.1.b.1 b.1.b.2.1.1 b.1.b.2.1.2.1 b.1.b.2.1.b b.1.c.1 b.1.c.2.1 b.1.c.b b.2:=λ_ _ _ _ _ _ _ _ b=>by kernel_rfl
theorem amA [aA]:SC (XB ti):=s0 (.c kO (.c O1 (.c v8 (.c agR (.c agP (.c aR2 (.c kd (.c G7 (.nil _))))))))) (aF6 bW ju fh sD uo O2 cj jY)
def aq7:=qa (pr (cu aQ (c lk abD)) bL)
def XD:=qe axu
abbrev aq8:=XD.B
abbrev QH:=NI->Int->Int->Int->Int->Int->Int->Int->Int->Bool->Option aq8
def acM (g:QH):Ct:=(104,FC aq7 (lf XD) (λb=>g b.1.1 b.1.2.1 b.1.b.1 b.1.b.2.1.1 b.1.b.2.1.2.1 b.1.b.2.1.b b.1.c.1 b.1.c.2.1 b.1.c.b b.2))
def QI (BB:MJ)(aR:fM)(bg:dP)(fw:zu)(bE:ja)(bO:mG)(jd:G0)(aB:bR)(ec:CR)(jc:Vj)(cV:Au)(x0:Nat->Int)(x1:Int)(x2:Int)(x3:Int)(x4:Int)(x5:Int)(x6:Int)(x7:Int)(x8:Int)(x9:Bool):Pg aq8:=opt (BB x0 x1 x2 x3 x4 x5 x6 x7 x8 x9) λd=>let n1:=d.1.2.2.2.2.2;let n2:=n1.2.2.2;opt (aR x0 d.2) λak=>opt (bg ak.1) λaJ=>opt (fw aJ.1 aJ.2.1 aJ.2.2.1 aJ.2.2.2 n1.2.2.1 n2.1 n2.2.1 n2.2.2.1 ak.2) λbB=>opt (bE bB.1.1 bB.1.2.1 bB.1.2.2.1 bB.1.2.2.2 bB.2) λcK=>opt (bO ak.1 4) λeU=>opt (jd n2.2.2.2 d.1.2.2.2.2.1 n1.1 n1.2.1 cK.2) λde=>opt (aB 10529810258 d.1.1 30 de.2) λlG=>opt (ec 3 lG.2 (cr eU.1 [0,de.1.1,eU.1]) (cr eU.2.1 [0,de.1.2.1,eU.2.1]) (cr eU.2.2 [lG.1,de.1.2.2,eU.2.2]) true) λtP=>opt (aB d.1.1 536870912 30 tP.2) λd=>opt (bO ak.1 7) λp8=>opt (ec 2 d.2 (cr eU.1 [tP.1.1,eU.1]) (cr eU.2.1 [tP.1.2.1,eU.2.1]) (cr eU.2.2 [tP.1.2.2,eU.2.2]) true) λmM=>opt (jc mM.1.1 mM.1.2.1 mM.1.2.2 d.1 mM.2) λd=>opt (ec 2 d.2 (cr p8.1 [d.1.1,p8.1]) (cr p8.2.1 [d.1.2.1,p8.2.1]) (cr p8.2.2 [d.1.2.2,p8.2.2]) true) λd=>opt (cV ak.1 0 4 (cr cK.1.1 [cK.1.2.2.2,cK.1.2.2.1,cK.1.2.1,cK.1.1]) false) λxZ=>opt (cV xZ 4 3 (cr tP.1.1 [tP.1.2.2,tP.1.2.1,tP.1.1]) false) λLc=>opt (cV Lc 7 3 (cr d.1.1 [d.1.2.2,d.1.2.1,d.1.1]) false) λMK=>opt (aR MK d.2) λd=>ret d
def nR:=λx0 x1 x2 x3 x4 x5 x6 x7 x8 x9=>(QI ti bW cj kV cQ fh oo aU kc sD fk x0 x1 x2 x3 x4 x5 x6 x7 x8 x9).val
theorem aHQ:∀BB aR bg fw bE bO jd aB ec jc cV,D0 [XB BB,jG aR,jb bg,FZ fw,oq bE,sE bO,Ms jd,fg aB,Kn ec,Vk jc,Em cV] 104 aq7 (lf XD) λb=>QI BB aR bg fw bE bO jd aB ec jc cV b.1.1 b.1.2.1 b.1.b.1 b.1.b.2.1.1 b.1.b.2.1.2.1 b.1.b.2.1.b b.1.c.1 b.1.c.2.1 b.1.c.b b.2:=λ_ _ _ _ _ _ _ _ _ _ _ b=>by kernel_rfl
theorem aq9 [aA]:SC (acM nR):=s0 (.c amA (.c kO (.c kd (.c La (.c qf (.c v8 (.c Vp (.c fK (.c OV (.c agR (.c IM (.nil _)))))))))))) (aHQ ti bW cj kV cQ fh oo aU kc sD fk)
def aAE:=qa (pr (cu aQ HR) bL)
def ahh:=qe axv
abbrev aAF:=ahh.B
abbrev amB:=Int->Int->Int->Bool->Option aAF
def aAG (g:amB):Ct:=(160,FC aAE (lf ahh) (λb=>g b.1.1 b.1.2.1 b.1.b b.2))
def qg:=qs (st (pr (cu aQ (us 3 (cu apX (cu ZE (c ai (cu aky (us 12 (cl ai aWS)))))))) (pl (c bD (cu akM (c Ao (cl Ao nil)))) bK)))
def ara:=qs (st (pr (cu aQ (us 3 (cu apX (cu ZE (c ai (cu aky (us 12 aXg))))))) (pl (c bD (cu akM (c Ao (cl Ao nil)))) bK)))
abbrev IP:=ara.B
def arb {ρ:Type}:=@ef IP ((.ex 0)) ara ρ
def acN (aE:cN)(d:qg.B):PL qg IP:=let n3:=d.1.1;let n2:=d.1.2;let n1:=d.2.2;let n5:=n1.2.1;let n4:=n1.2.2;let y0:=aZ n2 3;let y1:=n2==2;let y2:=n2==1;let y3:=decide (n2<3);ae y3 (ae y0 (ae y1 (opt (aE n1.1.2.2 n3 30 d.2.1) λak=>ae y0 (ae y1 (ret (w7 ((n3,wI (n2+1)),ak.2,n1.1,n5,n4.1,ak.1))) (ae y2 (ret (w7 ((n3,wI (n2+1)),ak.2,n1.1,n5,ak.1,n4.2))) (ret (w7 ((n3,wI (n2+1)),ak.2,n1.1,ak.1,n4))))) no) (ae y2 (opt (aE n1.1.2.1 n3 30 d.2.1) λak=>ae y0 (ae y1 (ret (w7 ((n3,wI (n2+1)),ak.2,n1.1,n5,n4.1,ak.1))) (ae y2 (ret (w7 ((n3,wI (n2+1)),ak.2,n1.1,n5,ak.1,n4.2))) (ret (w7 ((n3,wI (n2+1)),ak.2,n1.1,ak.1,n4))))) no) (opt (aE n1.1.1 n3 30 d.2.1) λak=>ae y0 (ae y1 (ret (w7 ((n3,wI (n2+1)),ak.2,n1.1,n5,n4.1,ak.1))) (ae y2 (ret (w7 ((n3,wI (n2+1)),ak.2,n1.1,n5,ak.1,n4.2))) (ret (w7 ((n3,wI (n2+1)),ak.2,n1.1,ak.1,n4))))) no))) no) (ret (ww ((n3,n2,y3),d.2)))
def QJ:=bG (acN bh) 2000
def aat (F1:OR)(iT:Cf)(wb:Ce)(aY:dg)(bE:ja)(dX:LT qg IP)(x0:Int)(x1:Int)(x2:Int)(x3:Bool):Pg aAF:=opt (F1 x0 x1 x2 x3) λd=>ae (d.1.1==0&&(d.1.2.1==0&&(d.1.2.2==0&&true))) (opt iT λak=>ret ((1073741824,0,0,0),d.2)) (opt (wb d.1.1 d.1.2.1 d.1.2.2 d.2) λak=>opt (dX ((ak.1,0),ak.2,d.1,0,0,0)) λd=>opt (aY 1073741824 d.2.2.2.2.2 d.2.1) λaJ=>ae (decide (aJ.1<=16)) (ret ((0,1073741824,0,0),aJ.2)) (opt (bE aJ.1 (wI (0-d.2.2.2.2.1)) d.2.2.2.1 0 aJ.2) λd=>ret d))
def zw:=λx0 x1 x2 x3=>(aat At o8 o7 bS cQ QJ x0 x1 x2 x3).val
abbrev aau:=OR×Cf×Ce×cN×dg×ja×(LT qg IP)
def amC (p:aau):KK:=⟨[agT p.1,K8 p.2.1,Ro p.b.1,gL p.b.2.1,iy p.c.1,oq p.c.2.1],⟨[⟨7,(1::2::3::rg 8 12 (rg 21 27 [])),[]⟩],[fU 7 1 qg arb p.c.b],[],[],(some ⟨0,(rg 0 4 (rg 5 43 [])),[]⟩)⟩,1,160⟩
theorem aF7 (p:aau):LI (amC p) 7 qg arb (acN p.b.2.1):=λ_ d c K=>by kernel_rfl
theorem aOu (p:aau):D2 (amC p) aAE (lf ahh) λb=>aat p.1 p.2.1 p.b.1 p.c.1 p.c.2.1 p.c.b b.1.1 b.1.2.1 b.1.b b.2:=λb=>by kernel_rfl
abbrev amD:aau:=(At,o8,o7,bh,bS,cQ,QJ)
theorem aOv [aA]:SC (aAG zw):=sc (kS (k:=amC amD) (.c atf (.c Rr (.c aag (.c ix (.c jD (.c qf (.nil _))))))) [7] [] ⟨kL (aF7 amD),trivial⟩ trivial (aOu amD))
def aeq:=qa (pr (cu aQ (c Cz (c (aa aDY) akG))) bL)
def ML:=qe aQR
abbrev O3:=ML.B
abbrev G':=NI->NI->NI->NI->Bool->Option O3
def O4 (g:G'):Ct:=(163,FC aeq (lf ML) (λb=>g b.1.1.1 b.1.1.2 b.1.2.1 b.1.b b.2))
def eZ:=qs (st (pr (cu aQ (us 4 (cu B8 (cu aS5 (cu ZH (cu NU (cu ap0 (c ai (us 13 (c ai (us 16 (cl ai (us 105 nil))))))))))))) (pl (c bD (c gO (c m5 (c lN abE)))) bK)))
def XE:=qs (st (pr (cu aQ (us 4 (cu B8 (cu aS5 (cu ZH (cu NU (cu ap0 (c ai (us 13 (c ai (us 16 (c ai (cl ab (us 104 nil)))))))))))))) (pl (c bD (c gO (c m5 (c lN abE)))) bK)))
abbrev oO:=XE.B
def XF {ρ:Type}:=@ef oO ((.ex 2)) XE ρ
def CX (ay:bV)(d:eZ.B):PL eZ oO:=let y0:=aZ d.1.1 24;let y1:=aZ d.1.2.2 24;let y2:=decide (d.1.2.2<24);let y3:=z4 d.1.1*24+z4 d.1.2.2;ae y2 (ae y0 (ae y1 (opt (ay (d.2.2.2.1 y3) d.2.1) λak=>ae y0 (ae y1 (ae (true&&wr (0+y3*1+1) 576) (ret (w7 ((d.1.1,d.1.2.1,wI (d.1.2.2+1)),ak.2,d.2.2.1,λj=>bif z9 j y3 then ak.1 else d.2.2.2.1 j,d.2.2.2.2))) no) no) no) no) no) (ret (ww ((d.1.1,d.1.2.1,d.1.2.2,y2),d.2)))
def xd:=bG (CX aO) 2000
def ep:=qs (st (pr (cu aQ (us 7 (cu B8 (cu azA (us 2 (cu ZG (cu NU (c ai (cu ap0 (us 48 aQk)))))))))) (pl (c bD (c gO (c afI (c HQ abE)))) bK)))
def XG:=qs (st (pr (cu aQ (us 7 (cu B8 (cu azA (us 2 (cu ZG (cu NU (c ai (cu ap0 (us 48 aXf)))))))))) (pl (c bD (c gO (c afI (c HQ abE)))) bK)))
abbrev lW:=XG.B
def XH {ρ:Type}:=@ef lW ((.ex 6)) XG ρ
def xf (aB:bR)(d:ep.B):PL ep lW:=let n2:=d.1.2;let n1:=d.2.2.2;let y0:=z4 n2;let y1:=aZ n2 48;let y2:=decide (n2<48);ae y2 (ae (aZ d.1.1 24) (ae y1 (ae y1 (opt (aB (n1.2.1 (z4 d.1.1*48+y0)) (n1.1 y0) 30 d.2.1) λak=>ae y1 (ae (true&&wr (0+y0*1+1) 48) (ret (w7 ((d.1.1,wI (n2+1)),ak.2,d.2.2.1,n1.1,n1.2.1,n1.2.2.1,λj=>bif z9 j y0 then ak.1 else n1.2.2.2 j))) no) no) no) no) no) (ret (ww ((d.1.1,n2,y2),d.2)))
def rI:=bG (xf aU) 2000
def eu:=qs (st (pr (cu aQ (us 7 (cu B8 (cu azA (us 2 (cu ZG (cu NU (c ai (cu ap0 (us 1 (c ai (c ai (c ai (us 76 (c ai (c ai (us 18 (cl ai (us 30 nil))))))))))))))))))) (pl (c bD (c gO (c afI (c HQ abE)))) bK)))
def XI:=qs (st (pr (cu aQ (us 7 (cu B8 (cu azA (us 2 (cu ZG (cu NU (c ai (cu ap0 (us 1 (c ai (c ai (c ai (us 76 (c ai (c ai (us 18 aXh))))))))))))))))) (pl (c bD (c gO (c afI (c HQ abE)))) bK)))
abbrev lX:=XI.B
def XJ {ρ:Type}:=@ef lX ((.ex 10)) XI ρ
def xg (aB:bR)(aY:dg)(d:eu.B):PL eu lX:=let n3:=d.2.2.2;let n1:=d.1.2.2;let n2:=n1.2.2.2;let y0:=aZ n1.1 24;let y1:=z4 n2.2;let y2:=aZ n2.2 48;let y3:=z4 n1.1*48+y1;let y4:=decide (n2.2<48);ae y4 (ae y0 (ae y2 (ae (aZ d.1.1 24) (ae y2 (opt (aB n1.2.1 (n3.2.1 (z4 d.1.1*48+y1)) 30 d.2.1) λak=>opt (aY (n3.2.1 y3) ak.1 ak.2) λaJ=>ae y0 (ae y2 (ae (true&&wr (0+y3*1+1) 1152) (ret (w7 ((d.1.1,d.1.2.1,n1.1,n1.2.1,n1.2.2.1,n2.1,wI (n2.2+1)),aJ.2,d.2.2.1,n3.1,λj=>bif z9 j y3 then aJ.1 else n3.2.1 j,n3.2.2))) no) no) no) no) no) no) no) (ret (ww ((d.1.1,d.1.2.1,n1.1,n1.2.1,n1.2.2.1,n2.1,n2.2,y4),d.2)))
def rJ:=bG (xg aU bS) 2000
def fa:=qs (st (pr (cu aQ (us 4 (cu B8 (cu aS5 (cu ZH (cu NU (cu ap0 (us 14 (cl ai (us 122 nil)))))))))) (pl (c bD (c gO (c m5 (c lN abE)))) bK)))
def XK:=qs (st (pr (cu aQ (us 4 (cu B8 (cu aS5 (cu ZH (cu NU (cu ap0 (us 14 (c ai (cl ab (us 121 nil))))))))))) (pl (c bD (c gO (c m5 (c lN abE)))) bK)))
abbrev oP:=XK.B
def XL {ρ:Type}:=@ef oP ((.ex 0)) XK ρ
def CY (aF:cx)(p6:LT eZ oO)(d:fa.B):PL fa oP:=let y0:=z4 d.1;let y1:=aZ d.1 24;let y2:=wI (24+d.1);let y3:=z4 y2;let y4:=decide (d.1<24);ae y4 (ae y1 (ae y1 (opt (aF (d.2.2.2.2.1 y0) 0 72057594037927936 d.2.1) λak=>ae (aZ d.1 48) (ae (true&&wr (0+y0*1+1) 48) (ae (aZ y2 48) (ae (true&&wr (0+y3*1+1) 48) (opt (p6 ((d.1,d.1,0),ak.2,d.2.2.1,d.2.2.2.1,d.2.2.2.2.1,d.2.2.2.2.2.1,λj=>bif z9 j y3 then ak.1 else bif z9 j y0 then d.2.2.1.2 y0 else d.2.2.2.2.2.2 j)) λd=>ret (w7 (wI (d.1.2.1+1),d.2))) no) no) no) no) no) no) (ret (ww ((d.1,y4),d.2)))
def xi:=bG (CY aT xd) 2000
def ew:=qs (st (pr (cu aQ (us 7 (cu B8 (cu azA (us 2 (cu ZG (cu NU (c ai (cu ap0 (us 1 (c ai (us 78 (c ai (cl ai aWV)))))))))))))) (pl (c bD (c gO (c afI (c HQ abE)))) bK)))
def XM:=qs (st (pr (cu aQ (us 7 (cu B8 (cu azA (us 2 (cu ZG (cu NU (c ai (cu ap0 (us 1 (c ai (us 78 (c ai (c ai (cl ab (us 48 nil)))))))))))))))) (pl (c bD (c gO (c afI (c HQ abE)))) bK)))
abbrev oQ:=XM.B
def XN {ρ:Type}:=@ef oQ ((.ex 8)) XM ρ
def xj (bj:dY)(aE:cN)(ato:Xd)(l_5:LT eu lX)(d:ew.B):PL ew oQ:=let n2:=d.2.2.2.2;let n1:=d.1.2.2;let y0:=decide (n1.2<n1.1);ae y0 (ae (aZ n1.2 24) (opt (bj 30 48 48 d.2.1 (λj=>n2.1 (0+z4 n1.2*48+j)) n2.2.2 false false) λak=>opt (aE ak.1 d.1.2.1 30 ak.2) λaJ=>opt (ato n2.2.1.1 n2.2.1.2 n1.2 d.1.1 aJ.1) λbB=>opt (l_5 ((d.1.1,d.1.2.1,n1.2,aJ.1,n1.1,n1.2,0),aJ.2,d.2.2.1,d.2.2.2.1,n2.1,bB,n2.2.2)) λd=>ret (w7 ((d.1.1,d.1.2.1,d.1.2.2.2.2.1,wI (d.1.2.2.2.2.2.1+1)),d.2))) no) (ret (ww ((d.1.1,d.1.2.1,n1.1,n1.2,y0),d.2)))
def rK:=bG (xj bu bh ur rJ) 2000
def fe:=qs (st (pr (cu aQ (us 7 (cu B8 (cu azA (us 2 (cu ZG (cu NU (cl ai (us 132 nil))))))))) (pl (c bD (c gO (c afI (c HQ (cl gO nil))))) bK)))
def atp:=qs (st (pr (cu aQ (us 7 (cu B8 (cu azA (us 2 (cu ZG (cu NU (c ai (us 45 (c ai (cl ab (us 85 nil)))))))))))) (pl (c bD (c gO (c afI (c HQ (cl gO nil))))) bK)))
abbrev oR:=((Int×Bool)×Bool×(NI×NI)×NI×NI×NI×NI)
def XO {ρ:Type}(x:oR)(K:AX->St->Option ρ):Option ρ:=(λd=>K (.ex 4) (atp.em ((d.1.1,d.1),d.2))) x
def xm (aF:cx)(bj:dY)(l_3:LT ep lW)(l_4:LT ew oQ)(d:fe.B):PL fe oR:=let y0:=decide (d.1>=0);ae y0 (opt (l_3 ((d.1,0),d.2.1,d.2.2.1,d.2.2.2.1,d.2.2.2.2.1,d.2.2.2.2.2,λx=>0)) λd=>let n1:=d.2.2.2.2;let y0:=z4 d.1.1;let y1:=aZ d.1.1 24;ae y1 (opt (bj 30 48 48 d.2.1 (λj=>n1.1 (0+y0*48+j)) n1.2.2 false false) λak=>opt (aF ak.1 1 72057594037927936 ak.2) λaJ=>ae y1 (ae (true&&wr (276+y0*1+1) 300) (opt (l_4 ((d.1.1,aJ.1,d.1.1,0),aJ.2,d.2.2.1,d.2.2.2.1,n1.1,(n1.2.1.1,λj=>bif z9 j y0 then aJ.1 else n1.2.1.2 j),n1.2.2)) λd=>ret (w7 (wI (d.1.1-1),d.2.1,d.2.2.1,d.2.2.2.1,d.2.2.2.2.1,d.2.2.2.2.2.1))) no) no) no) (ret (ww ((d.1,y0),d.2)))
def rL:=bG (xm aT bu rI rK) 2000
def BC (gk:rC)(ayz:OX)(dX:LT fa oP)(MC:LT fe oR)(x0:Nat->Int)(x1:Nat->Int)(x2:Nat->Int)(x3:Nat->Int)(x4:Bool):Pg O3:=opt (gk x0 x1 x4) λd=>opt (dX (0,d.2,d.1,x2,x3,(λx=>0,λx=>0),λx=>0)) λd=>opt (ayz d.2.2.1.1 d.2.2.1.2 d.2.1 d.2.2.2.1) λak=>opt (MC (23,ak.1,d.2.2.2.2.2.1,d.2.2.2.2.2.2,ak.2,λx=>0,λx=>0)) λd=>ret (d.2.2.2.2.2,d.2.1)
def gm:=λx0 x1 x2 x3 x4=>(BC du pe xi rL x0 x1 x2 x3 x4).val
abbrev mR:=rC×cx×bV×OX×bR×dY×cN×Xd×dg×(LT eZ oO)×(LT ep lW)×(LT eu lX)×(LT fa oP)×(LT ew oQ)×(LT fe oR)
def pg (p:mR):KK:=⟨[Bv p.1,eF p.2.1,dy p.b.1,aem p.b.2.1,fg p.c.1,mH p.c.2.1,gL p.c.b.1,atj p.c.b.2.1,iy p.d.1],⟨[⟨4,(rg 1 4 (rg 10 14 (rg 25 122 []))),[]⟩,⟨8,(rg 1 4 (rg 11 13 (rg 25 16 (rg 42 105 [])))),[]⟩,⟨16,(rg 1 7 (10::11::rg 15 132 [])),[]⟩,⟨20,(rg 1 7 (10::11::rg 16 48 (rg 65 82 []))),[]⟩,⟨27,(rg 1 7 (10::11::16::rg 18 78 (rg 98 49 []))),[]⟩,⟨32,(rg 1 7 (10::11::16::rg 20 76 (rg 98 18 (rg 117 30 [])))),[]⟩],[fU 8 1 eZ XF p.d.2.1,fU 20 1 ep XH p.d.b.1,fU 32 1 eu XJ p.d.b.2.1,fU 4 1 fa XL p.d.c.1,fU 27 1 ew XN p.d.c.2.1,fU 16 1 fe XO p.d.c.b],[],[],(some ⟨0,(rg 0 8 (rg 9 138 [])),[]⟩)⟩,1,163⟩
theorem api (p:mR):LI (pg p) 8 eZ XF (CX p.b.1):=λ_ d c K=>by kernel_rfl
theorem apj (p:mR):LI (pg p) 20 ep XH (xf p.c.1):=λ_ d c K=>by kernel_rfl
theorem apk (p:mR):LI (pg p) 32 eu XJ (xg p.c.1 p.d.1):=λ_ d c K=>by kernel_rfl
theorem apl (p:mR):LI (pg p) 4 fa XL (CY p.2.1 p.d.2.1):=λ_ d c K=>by kernel_rfl
theorem apm (p:mR):LI (pg p) 27 ew XN (xj p.c.2.1 p.c.b.1 p.c.b.2.1 p.d.b.2.1):=λ_ d c K=>by kernel_rfl
theorem apn (p:mR):LI (pg p) 16 fe XO (xm p.2.1 p.c.2.1 p.d.b.1 p.d.c.2.1):=λ_ d c K=>by kernel_rfl
theorem ayA (p:mR):D2 (pg p) aeq (lf ML) λb=>BC p.1 p.b.2.1 p.d.c.1 p.d.c.b b.1.1.1 b.1.1.2 b.1.2.1 b.1.b b.2:=λb=>by kernel_rfl
abbrev ph:mR:=(du,aT,aO,pe,aU,bu,bh,ur,bS,xd,rI,rJ,xi,rK,rL)
theorem aer [aA]:SC (O4 gm):=sc (kS (k:=pg ph) (.c GY (.c eV (.c dF (.c ayt (.c fK (.c nQ (.c ix (.c aFR (.c jD (.nil _)))))))))) [4,8,16,20,27,32] [] ⟨kL (apl ph),⟨kL (api ph),⟨kL (apn ph),⟨kL (apj ph),⟨kL (apm ph),⟨kL (apk ph),trivial⟩⟩⟩⟩⟩⟩ trivial (ayA ph))
def aAH:=qa (pl jo nil)
def ahi:=qe Cy
abbrev aAI:=ahi.B
abbrev amE:=Int->Option aAI
def aAJ (g:amE):Ct:=(214,FC aAH (lf ahi) (λb=>g b))
def Ru (x0:Int):Pg aAI:=ae (decide (x0>=0)) (ret (decide (x0<24))) (ret false)
def zy:=λx0=>(Ru x0).val
theorem aOw:D0 [] 214 aAH (lf ahi) λb=>Ru b:=λb=>by kernel_rfl
theorem aOx [aA]:SC (aAJ zy):=s0 (.nil _) aOw
def aav:=qa (pr (cu aQ jo) bL)
def Ko:=qe qN
abbrev aaw:=Ko.B
abbrev MM:=Int->Bool->Option aaw
def aax (g:MM):Ct:=(215,FC aav (lf Ko) (λb=>g b.1 b.2))
def E1 (aF:cx)(x0:Int)(x1:Bool):Pg aaw:=opt (aF x0 1 72057594037927936 x1) λd=>ret d
def nj:=λx0 x1=>(E1 aT x0 x1).val
theorem avP:∀aF,D0 [eF aF] 215 aav (lf Ko) λb=>E1 aF b.1 b.2:=λ_ b=>by kernel_rfl
theorem avQ [aA]:SC (aax nj):=s0 (.c eV (.nil _)) (avP aT)
def amF:=qa (dp (cu aQ (c Cz aQq)) λa=>(c xY (cl (cl (gs a.b.1 oC) nil) nil)))
def TB:=qe aYe
abbrev XP:=TB.B
abbrev jw:=NI->NI->Int->Nat->Bool->NI->Bool->Option XP
def BD (g:jw):Ct:=(161,vX 3 [.i .i64] (FC amF (lf TB) (λb=>g b.1.1.1 b.1.1.2 b.1.2.1 b.1.b.1 b.2.1 b.b b.1.b.2)))
def gu:=qs (st (dp (cu aQ (us 1 (c ai (us 2 (cu ZF (us 2 (cu aIz (cu aIB (cu ap1 (us 4 (c Ix (c ai aJZ)))))))))))) λa=>(pl (c bD (c (so (cl (gs a.2.1.1 oC) nil)) aYz)) bK)))
def ayB:=qs (st (pr (cu aQ (us 1 (c ai (us 2 (cu ZF (us 2 (cu aIz (cu aIB (cu ap1 (us 4 (c Ix (c ai aJ8)))))))))))) (pl (c bD (c HS aYz)) bK)))
abbrev rM:=((Int×(Nat×Bool)×Int×Int×Bool)×Bool×NI×(NI×NI)×(NI×NI)×DR×NI)
def aes {ρ:Type}(x:rM)(K:AX->St->Option ρ):Option ρ:=(λd=>K (.ex 0) (ayB.em (d.1,d.2.1,(d.1.2.1.1,d.b.1),d.b.2))) x
def Ha (aOy:amE)(avR:MM)(d:gu.B):PL gu rM:=let n3:=d.2.2;let n2:=d.1.2.2;let n1:=(d.1.1,d.1.2.1,n2.1,wI (n2.2+1));let y0:=wI (d.1.1+n2.2);let y1:=z4 y0;let y2:=aZ y0 24;let y3:=decide (n2.2<n2.1);let y4:=y1*24+y1;ae y3 (ae (aZ n2.2 d.1.2.1.1) (opt (aOy y0) λak=>ae ak (opt (avR (n3.1 (z4 n2.2)) d.2.1) λaJ=>ae y2 (ae y2 (ae (true&&wr (0+y4*1+1) 576) (ae y2 (ae (true&&wr (0+y1*1+1) 24) (ret (w7 (n1,aJ.2,n3.1,n3.2.1,n3.2.2.1,λj=>bif z9 j y4 then 0 else n3.2.2.2.1 j,λj=>bif z9 j y1 then aJ.1 else n3.2.2.2.2 j))) no) no) no) no) no) (ret (w7 (n1,d.2)))) no) (ret (ww ((d.1.1,d.1.2.1,n2.1,n2.2,y3),d.2)))
def BE:=bG (Ha zy nj) 2000
def F2 (TC:DS)(wG:G')(dX:LT gu rM)(x0:Nat->Int)(x1:Nat->Int)(x2:Int)(x3:Nat)(x4:Bool)(x5:Nat->Int)(w0:Bool):Pg XP:=opt TC λd=>ae (z9 x3 x3) (opt (dX ((x2,(x3,w0),ws x3,0),x4,x5,(x0,x1),(λx=>0,λx=>0),d,λx=>0)) λd=>opt (wG d.2.2.2.1.1 d.2.2.2.1.2 d.2.2.2.2.2.1 d.2.2.2.2.2.2 d.2.1) λd=>ret d) no
def cJ:=λx0 x1 x2 x3 x4 x5 w0=>(F2 oi gm BE x0 x1 x2 x3 x4 x5 w0).val
abbrev MN:=DS×amE×MM×G'×(LT gu rM)
def XQ (p:MN):KK:=⟨[Tn p.1,aAJ p.2.1,aax p.b.1,O4 p.b.2.1],⟨[⟨4,(1::3::4::6::7::rg 11 4 (rg 18 24 [])),[]⟩],[fU 4 2 gu aes p.c],[0],[],(some ⟨0,(rg 0 8 (rg 9 33 [])),[]⟩)⟩,2,161⟩
theorem avS (p:MN):LI (XQ p) 4 gu aes (Ha p.2.1 p.b.1):=λ_ d c K=>by kernel_rfl
theorem aF8 (p:MN):D2 (XQ p) amF (lf TB) λb=>F2 p.1 p.b.2.1 p.c b.1.1.1 b.1.1.2 b.1.2.1 b.1.b.1 b.2.1 b.b b.1.b.2:=λb=>by kernel_rfl
abbrev XR:MN:=(oi,zy,nj,gm,BE)
theorem F3 [aA]:SC (BD cJ):=sc (Sound.nil 3 [.i .i64]<|kS (k:=XQ XR) (.c aiT (.c aOx (.c avQ (.c aer (.nil _))))) [4] [] ⟨kL (avS XR),trivial⟩ trivial (aF8 XR))
def avT:=qa (pr (cu aQ afN) bL)
def acO:=qe axu
abbrev avU:=acO.B
abbrev avV:=NI->Int->Bool->Option avU
def avW (g:avV):Ct:=(165,FC avT (lf acO) (λb=>g b.1.1 b.1.2 b.2))
def ov:=qs (st (pr (cu aQ (us 3 (cu NT (us 1 (cu AT (c ai (us 4 (cl ai (us 14 nil))))))))) (pl (c bD J6) bK)))
def amG:=qs (st (pr (cu aQ (us 3 (cu NT (us 1 (cu AT (c ai (us 4 (c ai (cl ab (us 13 nil)))))))))) (pl (c bD J6) bK)))
abbrev F4:=amG.B
def amH {ρ:Type}:=@ef F4 ((.ex 0)) amG ρ
def XS (aB:bR)(aF:cx)(d:ov.B):PL ov F4:=let y0:=z4 d.1.2;let y1:=aZ d.1.2 24;let y2:=decide (d.1.2<24);ae y2 (ae y1 (opt (aB (d.2.2.1 y0) d.1.1 30 d.2.1) λak=>opt (aF ak.1 0 72057594037927936 ak.2) λaJ=>ae y1 (ae (true&&wr (0+y0*1+1) 24) (ret (w7 ((d.1.1,wI (d.1.2+1)),aJ.2,λj=>bif z9 j y0 then aJ.1 else d.2.2.1 j,d.2.2.2))) no) no) no) (ret (ww ((d.1.1,d.1.2,y2),d.2)))
def MO:=bG (XS aU aT) 2000
def ahj (pf:wF)(dX:LT ov F4)(x0:Nat->Int)(x1:Int)(x2:Bool):Pg avU:=opt (pf x1 x2) λd=>opt (dX ((d.1,0),d.2,x0,λx=>0)) λd=>ret (d.2.2.1,d.2.1)
def Hb:=λx0 x1 x2=>(ahj ju MO x0 x1 x2).val
abbrev VA:=wF×bR×cx×(LT ov F4)
def ahk (p:VA):KK:=⟨[G9 p.1,fg p.2.1,eF p.b.1],⟨[⟨3,(1::2::3::5::rg 8 4 (rg 13 14 [])),[]⟩],[fU 3 1 ov amH p.b.2],[],[],(some ⟨0,(rg 0 6 (rg 7 20 [])),[]⟩)⟩,1,165⟩
theorem aCw (p:VA):LI (ahk p) 3 ov amH (XS p.2.1 p.b.1):=λ_ d c K=>by kernel_rfl
theorem aLv (p:VA):D2 (ahk p) avT (lf acO) λb=>ahj p.1 p.b.2 b.1.1 b.1.2 b.2:=λb=>by kernel_rfl
abbrev ahl:VA:=(ju,aU,aT,MO)
theorem aLw [aA]:SC (avW Hb):=sc (kS (k:=ahk ahl) (.c O1 (.c fK (.c eV (.nil _)))) [3] [] ⟨kL (aCw ahl),trivial⟩ trivial (aLv ahl))
def aiX:=qa (pr (cu aQ (c Cz afN)) bL)
def O5:=qe (res (pu (app 1 373) (pr m4 (cl aYk nil))))
abbrev aiY:=O5.B
abbrev JH:=NI->NI->NI->Int->Bool->Option aiY
def TD (g:JH):Ct:=(273,FC aiX (lf O5) (λb=>g b.1.1.1 b.1.1.2 b.1.2.1 b.1.b b.2))
def iA:=qs (st (pr (cu aQ (us 2 (c ai (us 2 (cu NT (us 2 (cu aIC (us 9 (cl ai (us 98 nil)))))))))) (pl (c bD (c lN (cl SN nil))) bK)))
def aay:=qs (st (pr (cu aQ (us 2 (c ai (us 2 (cu NT (us 2 (cu aIC (us 9 (c ai (cl ab (us 97 nil))))))))))) (pl (c bD (c lN (cl SN nil))) bK)))
abbrev tX:=aay.B
def aaz {ρ:Type}:=@ef tX ((.ex 0)) aay ρ
def E2 (ay:bV)(d:iA.B):PL iA tX:=let y0:=z4 d.1.2;let y1:=aZ d.1.2 24;let y2:=decide (d.1.2<24);ae y2 (ae y1 (opt (ay (d.2.2.1 y0) d.2.1) λak=>ae y1 (ae (true&&wr (0+y0*1+1) 24) (ret (w7 ((d.1.1,wI (d.1.2+1)),ak.2,λj=>bif z9 j y0 then ak.1 else d.2.2.1 j,d.2.2.2))) no) no) no) (ret (ww ((d.1.1,d.1.2,y2),d.2)))
def zz:=bG (E2 aO) 2000
def iB:=qs (st (dp (cu aQ (us 5 (cu NT (us 2 (cu aIC (us 1 (c ai (c aXY (us 24 (c ai (us 3 (c ai aW2)))))))))))) λa=>(pl (c bD (c lN (c SN (cl (so (cl (gs a.2.1 oC) nil)) nil)))) bK)))
def avX:=qs (st (pr (cu aQ (us 5 (cu NT (us 2 (cu aIC (us 1 (c ai (c aXY (us 24 (c ai (us 3 (c ai (c ai (cl ab (us 74 nil))))))))))))))) (pl (c bD (c lN (c SN abC))) bK)))
abbrev tY:=((Int×Nat×Int×Int×Int×Bool)×Bool×NI×(NI×NI×NI×NI×NI)×NI)
def aaA {ρ:Type}(x:tY)(K:AX->St->Option ρ):Option ρ:=(λd=>K (.ex 4) (avX.em (d.1,d.2.1,d.b.1,d.b.2.1,d.1.2.1,d.c))) x
def E3 (Rs:Mr)(d:iB.B):PL iB tY:=let n2:=d.2.2.2;let n1:=d.1.2.2;let y0:=d.1.2.1+1;let y1:=decide (n1.2.2<n1.2.1);ae y1 (opt (Rs n2.1.1 n2.1.2.1 n1.2.2 d.1.1) λak=>ae (wr (y0*8) 140737488355328) (ret (w7 ((d.1.1,y0,n1.1,n1.2.1,wI (n1.2.2+1)),d.2.1,d.2.2.1,n2.1,λj=>bif z9 j d.1.2.1 then ak else n2.2 j))) no) (ret (ww ((d.1.1,d.1.2.1,n1.1,n1.2.1,n1.2.2,y1),d.2)))
def zA:=bG (E3 wW) 2000
def iC:=qs (st (pr (cu aQ (us 5 (cu NT (us 2 (cu aIC (us 27 aW3)))))) (pl (c bD (c lN (cl SN nil))) bK)))
def aaB:=qs (st (pr (cu aQ (us 5 (cu NT (us 2 (cu aIC (us 27 (c ai (cl ab (us 79 nil))))))))) (pl (c bD (c lN (cl SN nil))) bK)))
abbrev tZ:=aaB.B
def aaC {ρ:Type}:=@ef tZ ((.ex 2)) aaB ρ
def E4 (bj:dY)(aB:bR)(cB:fL)(MC:LT iB tY)(d:iC.B):PL iC tZ:=let y0:=decide (d.1<24);ae y0 (ae true (opt (MC ((d.1,0,d.1,wI (d.1+1),0),d.2.1,d.2.2.1,d.2.2.2,λx=>0)) λd=>let n2:=d.2.2;let n1:=n2.2.1.2;let n3:=n1.2.2;let y0:=z4 d.1.1;let y1:=aZ d.1.1 24;let y2:=y0*1;let y3:=wI (d.1.1+1);let y4:=z4 y3;let y5:=wr (0+y2+1) 24;let y6:=z9 y0 y0;ae (HA y3 24) (ae (z9 y4 y4) (ae (z9 d.1.2.1 d.1.2.1) (opt (bj 30 y4 d.1.2.1 d.2.1 n2.1 n2.2.2 false true) λak=>let uM:=bif y6 then ak.1 else n1.2.1 y0;ae y1 (ae (y5&&wr (300+y2+1) 373) (ae y1 (ae y5 (ae y1 (ae y5 (opt (aB (n1.1 y0) uM 30 ak.2) λaJ=>ae y1 (ae (y5&&wr (324+y2+1) 373) (ae (aZ d.1.1 25) (ae y1 (ae y5 (ae y1 (ae y5 (opt (aB uM (bif y6 then aJ.1 else n3.1 y0) 30 aJ.2) λbB=>opt (cB 2 bB.2 (cr (n3.2 y0) [bB.1,n3.2 y0]) true) λcK=>ae (aZ y3 25) (ae (true&&wr (348+y4*1+1) 373) (ret (w7 (wI (d.1.2.2.1+1),cK.2,n2.1,n2.2.1.1,n1.1,λj=>bif z9 j y0 then ak.1 else n1.2.1 j,λj=>bif z9 j y0 then aJ.1 else n3.1 j,λj=>bif z9 j y4 then cK.1 else n3.2 j))) no) no) no) no) no) no) no) no) no) no) no) no) no) no) no) no) no) no) no) (ret (ww ((d.1,y0),d.2)))
def zB:=bG (E4 bu aU cF zA) 2000
def JJ (gk:rC)(aF:cx)(dX:LT iA tX)(p6:LT iC tZ)(x0:Nat->Int)(x1:Nat->Int)(x2:Nat->Int)(x3:Int)(x4:Bool):Pg aiY:=opt (gk x0 x1 x4) λd=>opt (dX ((x3,0),d.2,x2,d.1.1,d.1.2,λx=>0,λx=>0,λx=>0)) λd=>let n1:=d.2.2.2;opt (aF d.1.1 1 72057594037927936 d.2.1) λak=>opt (p6 (0,ak.2,d.2.2.1,n1.1,n1.2.1,n1.2.2.1,n1.2.2.2.1,λj=>bif z9 j 0 then ak.1 else n1.2.2.2.2 j)) λd=>ret (d.2.1,d.2.2.2)
def mJ:=λx0 x1 x2 x3 x4=>(JJ du aT zz zB x0 x1 x2 x3 x4).val
abbrev yO:=rC×bV×cx×Mr×dY×bR×fL×(LT iA tX)×(LT iB tY)×(LT iC tZ)
def DU (p:yO):KK:=⟨[Bv p.1,dy p.2.1,eF p.b.1,al3 p.b.2.1,mH p.c.1,fg p.c.2.1,pQ p.c.b.1],⟨[⟨3,(1::2::4::5::7::8::rg 10 9 (rg 20 98 [])),[]⟩,⟨9,(rg 1 5 (7::8::rg 10 27 (rg 38 80 []))),[]⟩,⟨13,(rg 1 5 (7::8::10::rg 13 24 (38::39::40::rg 43 75 []))),[(12,[.i .i64])]⟩],[fU 3 1 iA aaz p.c.b.2.1,fU 13 1 iB aaA p.d.1,fU 9 1 iC aaC p.d.2],[],[],(some ⟨0,(rg 0 8 (rg 9 109 [])),[]⟩)⟩,1,273⟩
theorem atq (p:yO):LI (DU p) 3 iA aaz (E2 p.2.1):=λ_ d c K=>by kernel_rfl
theorem atr (p:yO):LI (DU p) 13 iB aaA (E3 p.b.2.1):=λ_ d c K=>by kernel_rfl
theorem ats (p:yO):LI (DU p) 9 iC aaC (E4 p.c.1 p.c.2.1 p.c.b.1 p.d.1):=λ_ d c K=>by kernel_rfl
theorem aCx (p:yO):D2 (DU p) aiX (lf O5) λb=>JJ p.1 p.b.1 p.c.b.2.1 p.d.2 b.1.1.1 b.1.1.2 b.1.2.1 b.1.b b.2:=λb=>by kernel_rfl
abbrev DV:yO:=(du,aO,aT,wW,bu,aU,cF,zz,zA,zB)
theorem aiZ [aA]:SC (TD mJ):=sc (kS (k:=DU DV) (.c GY (.c dF (.c eV (.c avu (.c nQ (.c fK (.c sC (.nil _)))))))) [3,9,13] [] ⟨kL (atq DV),⟨kL (ats DV),⟨kL (atr DV),trivial⟩⟩⟩ trivial (aCx DV))
def NV:=qa (pr (cu aQ (c Cz afN)) bL)
def CZ:=qe qN
abbrev NW:=CZ.B
abbrev NX:=NI->NI->NI->Int->Bool->Option NW
def NY (g:NX):Ct:=(268,FC NV (lf CZ) (λb=>g b.1.1.1 b.1.1.2 b.1.2.1 b.1.b b.2))
def ED (yP:JH)(x0:Nat->Int)(x1:Nat->Int)(x2:Nat->Int)(x3:Int)(x4:Bool):Pg NW:=opt (yP x0 x1 x2 x3 x4) λd=>ret (d.2.2.2.2.2 24,d.1)
def nG:=λx0 x1 x2 x3 x4=>(ED mJ x0 x1 x2 x3 x4).val
theorem akb:∀yP,D0 [TD yP] 268 NV (lf CZ) λb=>ED yP b.1.1.1 b.1.1.2 b.1.2.1 b.1.b b.2:=λ_ b=>by kernel_rfl
theorem akc [aA]:SC (NY nG):=s0 (.c aiZ (.nil _)) (akb mJ)
def aAK:=qa (pl (c afG aD1) nil)
def ahm:=qe HO
abbrev aAL:=ahm.B
abbrev aAM:=Int->Int->Int->Int->Option aAL
def aAN (g:aAM):Ct:=(274,FC aAK (lf ahm) (λb=>g b.1.1 b.1.2 b.2.1 b.b))
def amI (x0:Int)(x1:Int)(x2:Int)(x3:Int):Pg aAL:=let y0:=x0==x2;ae (y0&&(x1==x3&&true)) (ret 0) (ae (decide (x0<x2)) (ret (-1)) (ae y0 (ae (decide (x1<x3)) (ret (-1)) (ret 1)) (ret 1)))
def Rv:=λx0 x1 x2 x3=>(amI x0 x1 x2 x3).val
theorem aOz:D0 [] 274 aAK (lf ahm) λb=>amI b.1.1 b.1.2 b.2.1 b.b:=λb=>by kernel_rfl
theorem aOA [aA]:SC (aAN Rv):=s0 (.nil _) aOz
def amJ:=qa (pl FA nil)
def TE:=qe Cy
abbrev amK:=TE.B
abbrev amL:=Int->Int->Int->Option amK
def amM (g:amL):Ct:=(269,FC amJ (lf TE) (λb=>g b.1 b.2.1 b.b))
def XT (ay:bV)(cT:o6)(aaD:aAM)(x0:Int)(x1:Int)(x2:Int):Pg amK:=opt (ay x0 false) λd=>opt (ay x1 d.2) λak=>ae (decide (x2<1)) (ret false) (ae (decide (x2>1000)) (ret false) (ae (decide (ak.1<1)) (ret false) (opt (cT d.1 d.1) λd=>opt (cT (wI (wI (x2*x2)*65536)) ak.1) λaJ=>opt (aaD d.1 d.2 aJ.1 aJ.2) λd=>ret (decide (d<=0)))))
def F5:=λx0 x1 x2=>(XT aO fP Rv x0 x1 x2).val
theorem aF9:∀ay cT aaD,D0 [dy ay,ze cT,aAN aaD] 269 amJ (lf TE) λb=>XT ay cT aaD b.1 b.2.1 b.b:=λ_ _ _ b=>by kernel_rfl
theorem aGa [aA]:SC (amM F5):=s0 (.c dF (.c Cc (.c aOA (.nil _)))) (aF9 aO fP Rv)
def aaE:=qa (pr (cu aQ (c Cz afN)) bL)
def Kp:=qe (res (pr (sf (c akH (c afJ afF))) (pl m4 nil)))
abbrev aaF:=Kp.B
abbrev aaG:=NI->NI->NI->Int->Bool->Option aaF
def aaH (g:aaG):Ct:=(270,FC aaE (lf Kp) (λb=>g b.1.1.1 b.1.1.2 b.1.2.1 b.1.b b.2))
def fW:=qs (st (pr (cu aQ (us 7 (cu B8 (cu AT (us 1 (cu aID (cu NU (cu ap1 (c ai (c ai (us 13 (c ai (us 52 (c ai (cl ai (us 65 nil)))))))))))))))) (pl (c bD (c gO (c lN (c SN (c gO FB))))) bK)))
def Uy:=qs (st (pr (cu aQ (us 7 (cu B8 (cu AT (us 1 (cu aID (cu NU (cu ap1 (c ai (c ai (us 13 (c ai (us 52 (c ai (c ai (cl ab (us 64 nil))))))))))))))))) (pl (c bD (c gO (c lN (c SN (c gO FB))))) bK)))
abbrev qx:=Uy.B
def Uz {ρ:Type}:=@ef qx ((.ex 2)) Uy ρ
def A7 (Rs:Mr)(aB:bR)(cB:fL)(ato:Xd)(d:fW.B):PL fW qx:=let n4:=d.1.1;let n3:=d.1.2;let n2:=d.2.2.2.2;let n1:=n3.2.2;let y0:=z4 n4;let y1:=z4 n1.2;let y2:=aZ n1.2 24;let y3:=decide (n1.2<n1.1);ae y3 (opt (Rs n2.1.1 n2.1.2.1 n1.2 n4) λak=>ae y2 (opt (aB (n2.2.2 y1) n3.1 44 d.2.1) λaJ=>opt (cB 2 aJ.2 (cr ak [aJ.1,ak]) true) λbB=>opt (ato n2.2.1.1 n2.2.1.2 n1.2 n4 bB.1) λcK=>ae y2 (ae (aZ n4 24) (ae (wr (0+y0*1+1) 24) (opt (aB ak (n2.1.2.2.2.1 y0) 30 bB.2) λeU=>opt (cB 2 eU.2 (cr (n2.2.2 y1) [eU.1,n2.2.2 y1]) true) λde=>ae y2 (ae (true&&wr (0+y1*1+1) 24) (ret (w7 ((n4,n3.1,n3.2.1,n1.1,wI (n1.2+1)),de.2,d.2.2.1,d.2.2.2.1,n2.1,cK,λj=>bif z9 j y1 then de.1 else n2.2.2 j))) no) no) no) no) no) no) (ret (ww ((n4,n3.1,n3.2.1,n1.1,n1.2,y3),d.2)))
def uO:=bG (A7 wW aU cF ur) 2000
def fX:=qs (st (pr (cu aQ (us 7 (cu B8 (cu AT (us 1 (cu aID (cu NU (cu ap1 (us 4 (cu (app 6 24) (us 107 aW1))))))))))) (pl (c bD (c gO (c lN (c SN (c gO J6))))) bK)))
def UA:=qs (st (pr (cu aQ (us 7 (cu B8 (cu AT (us 1 (cu aID (cu NU (cu ap1 (us 4 (cu (app 6 24) (us 107 (c ai aQd)))))))))))) (pl (c bD (c gO (c lN (c SN (c gO J6))))) bK)))
abbrev qy:=UA.B
def UB {ρ:Type}:=@ef qy ((.ex 4)) UA ρ
def A8 (aE:cN)(d:fX.B):PL fX qy:=let n1:=d.2.2.2.2;let y0:=z4 d.1;let y1:=aZ d.1 24;let y2:=decide (d.1<24);ae y2 (ae y1 (opt (aE (n1.2.2.1 y0) (n1.1.2.2.2.2 24) 30 d.2.1) λak=>ae y1 (ae (true&&wr (0+y0*1+1) 24) (ret (w7 (wI (d.1+1),ak.2,d.2.2.1,d.2.2.2.1,n1.1,n1.2.1,n1.2.2.1,λj=>bif z9 j y0 then ak.1 else n1.2.2.2 j))) no) no) no) (ret (ww ((d.1,y2),d.2)))
def uP:=bG (A8 bh) 2000
def fY:=qs (st (pr (cu aQ (us 7 (cu B8 (cu AT (us 1 (cu aID (cu NU (cu ap1 (us 15 (cl ai (us 119 nil))))))))))) (pl (c bD (c gO (c lN (c SN (c gO FB))))) bK)))
def UC:=qs (st (pr (cu aQ (us 7 (cu B8 (cu AT (us 1 (cu aID (cu NU (cu ap1 (us 15 (c ai (cl ab (us 118 nil)))))))))))) (pl (c bD (c gO (c lN (c SN (c gO FB))))) bK)))
abbrev qz:=UC.B
def UD {ρ:Type}:=@ef qz ((.ex 0)) UC ρ
def A9 (av:cD)(aF:cx)(aE:cN)(p6:LT fW qx)(d:fY.B):PL fY qz:=let n1:=d.2.2.2.2;let n2:=n1.1.2.2;let y0:=z4 d.1;let y1:=aZ d.1 25;let y2:=aZ d.1 24;let y3:=y0*1;let y4:=wI (d.1+1);let y5:=wr (0+y3+1) 24;let y6:=decide (d.1<24);ae y6 (ae y2 (ae y5 (ae y1 (ae (aZ y4 25) (opt (av (n1.1.2.1 y0) (n2.2.2 y0) (n2.2.2 (z4 y4)) d.2.1) λak=>opt (aF ak.1 1 72057594037927936 ak.2) λaJ=>ae y2 (ae (true&&wr (276+y3+1) 300) (ae y2 (ae y5 (ae y1 (opt (aE (n2.1 y0) (n2.2.2 y0) 44 aJ.2) λbB=>ae y2 (ae y5 (ae y2 (ae (true&&y5) (opt (p6 ((d.1,wI (0-bB.1),d.1,d.1,0),bB.2,d.2.2.1,d.2.2.2.1,n1.1,(n1.2.1.1,λj=>bif z9 j y0 then aJ.1 else n1.2.1.2 j),λj=>bif z9 j y0 then n2.2.1 y0 else n1.2.2 j)) λd=>ret (w7 (wI (d.1.2.2.1+1),d.2))) no) no) no) no) no) no) no) no) no) no) no) no) no) (ret (ww ((d.1,y6),d.2)))
def uQ:=bG (A9 aX aT bh uO) 2000
def E5 (yP:JH)(MC:LT fX qy)(dX:LT fY qz)(x0:Nat->Int)(x1:Nat->Int)(x2:Nat->Int)(x3:Int)(x4:Bool):Pg aaF:=opt (yP x0 x1 x2 x3 x4) λd=>opt (dX (0,d.1,(λx=>0,λx=>0),λx=>0,d.2,(d.2.1,d.2.2.1),λx=>0)) λd=>opt (MC (0,d.2.1,d.2.2.1,d.2.2.2.1,d.2.2.2.2.1,d.2.2.2.2.2.1,d.2.2.2.2.2.2,λx=>0)) λd=>ret ((d.2.2.2.2.2.1,d.2.2.2.2.2.2.2,d.2.2.2.2.1.2.2.2.2 24),d.2.1)
def nk:=λx0 x1 x2 x3 x4=>(E5 mJ uP uQ x0 x1 x2 x3 x4).val
abbrev ua:=JH×cD×cx×cN×Mr×bR×fL×Xd×(LT fW qx)×(LT fX qy)×(LT fY qz)
def zC (p:ua):KK:=⟨[TD p.1,dt p.2.1,eF p.b.1,gL p.b.2.1,al3 p.c.1,fg p.c.2.1,pQ p.c.b.1,atj p.c.b.2.1],⟨[⟨5,(rg 1 7 (10::rg 14 15 (rg 30 119 []))),[]⟩,⟨11,(rg 1 7 (10::rg 16 13 (rg 30 52 (rg 84 65 [])))),[]⟩,⟨20,(rg 1 7 (10::rg 14 4 (rg 19 107 (rg 127 22 [])))),[]⟩],[fU 11 1 fW Uz p.d.1,fU 20 1 fX UB p.d.2.1,fU 5 1 fY UD p.d.b],[],[],(some ⟨0,(rg 0 8 (rg 11 138 [])),[]⟩)⟩,1,270⟩
theorem amN (p:ua):LI (zC p) 11 fW Uz (A7 p.c.1 p.c.2.1 p.c.b.1 p.c.b.2.1):=λ_ d c K=>by kernel_rfl
theorem amO (p:ua):LI (zC p) 20 fX UB (A8 p.b.2.1):=λ_ d c K=>by kernel_rfl
theorem amP (p:ua):LI (zC p) 5 fY UD (A9 p.2.1 p.b.1 p.b.2.1 p.d.1):=λ_ d c K=>by kernel_rfl
theorem avY (p:ua):D2 (zC p) aaE (lf Kp) λb=>E5 p.1 p.d.2.1 p.d.b b.1.1.1 b.1.1.2 b.1.2.1 b.1.b b.2:=λb=>by kernel_rfl
abbrev zD:ua:=(mJ,aX,aT,bh,wW,aU,cF,ur,uO,uP,uQ)
theorem avZ [aA]:SC (aaH nk):=sc (kS (k:=zC zD) (.c aiZ (.c dI (.c eV (.c ix (.c avu (.c fK (.c sC (.c aFR (.nil _))))))))) [5,11,20] [] ⟨kL (amP zD),⟨kL (amN zD),⟨kL (amO zD),trivial⟩⟩⟩ trivial (avY zD))
def ai0:=qa (pr (cu aQ afN) bL)
def O6:=qe axu
abbrev ai1:=O6.B
abbrev ai2:=NI->Int->Bool->Option ai1
def ai3 (g:ai2):Ct:=(272,FC ai0 (lf O6) (λb=>g b.1.1 b.1.2 b.2))
def ke:=qs (st (pr (cu aQ (us 1 (c ai (us 1 (cu NT (us 1 (cu AT (us 1 aW4)))))))) (pl (c bD J6) bK)))
def aaI:=qs (st (pr (cu aQ (us 1 (c ai (us 1 (cu NT (us 1 (cu AT (us 1 aXi)))))))) (pl (c bD J6) bK)))
abbrev zE:=aaI.B
def aaJ {ρ:Type}:=@ef zE ((.ex 0)) aaI ρ
def MP (aB:bR)(d:ke.B):PL ke zE:=let y0:=z4 d.1.2;let y1:=aZ d.1.2 24;let y2:=decide (d.1.2<24);ae y2 (ae y1 (opt (aB (d.2.2.1 y0) d.1.1 30 d.2.1) λak=>ae y1 (ae (true&&wr (0+y0*1+1) 24) (ret (w7 ((d.1.1,wI (d.1.2+1)),ak.2,λj=>bif z9 j y0 then ak.1 else d.2.2.1 j,d.2.2.2))) no) no) no) (ret (ww ((d.1.1,d.1.2,y2),d.2)))
def E6:=bG (MP aU) 2000
def TF (dX:LT ke zE)(x0:Nat->Int)(x1:Int)(x2:Bool):Pg ai1:=opt (dX ((x1,0),x2,x0,λx=>0)) λd=>ret (d.2.2.1,d.2.1)
def yQ:=λx0 x1 x2=>(TF E6 x0 x1 x2).val
abbrev JK:=bR×(LT ke zE)
def TG (p:JK):KK:=⟨[fg p.1],⟨[⟨2,(1::3::5::7::rg 9 12 []),[]⟩],[fU 2 1 ke aaJ p.2],[0],[],(some ⟨0,(rg 0 6 (rg 7 14 [])),[]⟩)⟩,1,272⟩
theorem att (p:JK):LI (TG p) 2 ke aaJ (MP p.1):=λ_ d c K=>by kernel_rfl
theorem aCy (p:JK):D2 (TG p) ai0 (lf O6) λb=>TF p.2 b.1.1 b.1.2 b.2:=λb=>by kernel_rfl
abbrev TH:JK:=(aU,E6)
theorem aCz [aA]:SC (ai3 yQ):=sc (kS (k:=TG TH) (.c fK (.nil _)) [2] [] ⟨kL (att TH),trivial⟩ trivial (aCy TH))
def C2:=qa (dp (cu aQ (c lk (cl aDU nil))) λa=>(c xY (cl (cl (gs a.2.1 aEk) nil) nil)))
def acP:=qe (res (pr lk (pl Oh nil)))
abbrev av0:=acP.B
abbrev av1:=C2.B->Option av0
def av2 (g:av1):Ct:=(271,vX 2 [.i .i64,.i .i64,.i .i64,.i .i64,.i .i64,.i .i64,.i .i64,.i .i64,.i .i64,.i .i64,.i .i64,.i .i64,.i .i64,.i .i64,.i .i64,.i .i64,.i .i64,.i .i64,.i .i64,.i .i64,.i .i64,.i .i64,.i .i64,.i .i64] (FC C2 (lf acP) g))
def oy:=qs (st (dp (cu aQ (us 3 (cu AT (us 1 (cu ZH (us 1 (cu apZ (us 7 (c aDU (c ai (c ai (us 3 aJZ)))))))))))) λa=>(pl (c bD (c (so (cl (gs a.1.1 aEk) nil)) aKv)) bK)))
def aGb:=qs (st (pr (cu aQ (us 3 (cu AT (us 1 (cu ZH (us 1 (cu apZ (us 7 (c aDU (c ai (c ai (us 3 aJ8)))))))))))) (pl (c bD (c aYC aKv)) bK)))
abbrev F6:=(((Nat×Bool)×Int×Int×Int×Bool)×Bool×a3f×NI×NI×NI)
def amQ {ρ:Type}(x:F6)(K:AX->St->Option ρ):Option ρ:=(λd=>K (.ex 2) (aGb.em (d.1,d.2.1,(d.1.1.1,d.b.1),d.b.2))) x
def XU (cB:fL)(d:oy.B):PL oy F6:=let n2:=d.2.2.2;let n1:=d.1.2.2;let y0:=z4 n1.2;let y1:=aZ n1.2 24;let y2:=decide (n1.2<24);ae y2 (ae y1 (ae y1 (opt (cB 2 d.2.1 (cr (n2.1 y0) [n2.2.2 y0,n2.1 y0]) true) λak=>ae y1 (ae (true&&wr (0+y0*1+1) 24) (ret (w7 ((d.1.1,d.1.2.1,n1.1,wI (n1.2+1)),ak.2,d.2.2.1,λj=>bif z9 j y0 then ak.1 else n2.1 j,n2.2))) no) no) no) no) (ret (ww ((d.1.1,d.1.2.1,n1.1,n1.2,y2),d.2)))
def MQ:=bG (XU cF) 2000
def mK:=qs (st (dp (cu aQ (us 3 (cu AT (us 1 (cu ZH (us 9 (c aDU (c ai (cl ai (us 28 nil)))))))))) λa=>(pl (c bD (c (so (cl (gs a.1.1 aEk) nil)) J6)) bK)))
def aGc:=qs (st (pr (cu aQ (us 3 (cu AT (us 1 (cu ZH (us 9 (c aDU (c ai (c ai (cl ab aWS)))))))))) (pl (c bD (c aYC J6)) bK)))
abbrev BF:=(aMX×Bool×a3f×NI×NI)
def amR {ρ:Type}(x:BF)(K:AX->St->Option ρ):Option ρ:=(λd=>K (.ex 0) (aGc.em (d.1,d.2.1,(d.1.1.1,d.b.1),d.b.2))) x
def MR (bg:dP)(bE:ja)(yN:JE)(xc:ME)(p6:LT oy F6)(d:mK.B):PL mK BF:=let n9:=d.1.1;let n5:=d.1.2;let n4:=d.2.2.1;let n2:=n4.2.2.2;let n6:=n2.2.2.2;let n1:=n6.2.2.2.2;let n8:=n1.2.2.2;let n3:=n8.2.2.2;let n7:=n3.2.2.2;let y0:=z4 n5.2;let y1:=decide (n5.2<n5.1);ae y1 (ae (aZ n5.2 n9.1) (ae (z9 n9.1 n9.1) (opt (p6 ((n9,n5.1,n5.2,0),d.2.1,n4,d.2.2.2.1,d.2.2.2.2,cr (n4.1 y0) [n7.2.2.2.2 y0,n7.2.2.2.1 y0,n7.2.2.1 y0,n7.2.1 y0,n7.1 y0,n3.2.2.1 y0,n3.2.1 y0,n3.1 y0,n8.2.2.1 y0,n8.2.1 y0,n8.1 y0,n1.2.2.1 y0,n1.2.1 y0,n1.1 y0,n6.2.2.2.1 y0,n6.2.2.1 y0,n6.2.1 y0,n6.1 y0,n2.2.2.1 y0,n2.2.1 y0,n2.1 y0,n4.2.2.1 y0,n4.2.1 y0,n4.1 y0])) λd=>opt (bg d.2.2.2.1) λak=>opt (bE ak.1 ak.2.1 ak.2.2.1 ak.2.2.2 d.2.1) λaJ=>opt (yN d.2.2.2.1 aJ.1.1 aJ.1.2.1 aJ.1.2.2.1 aJ.1.2.2.2) λbB=>opt (xc bB aJ.2) λcK=>ret (w7 ((d.1.1,d.1.2.1,wI (d.1.2.2.1+1)),cK.2,d.2.2.1,cK.1,d.2.2.2.2.1))) no) no) (ret (ww ((n9,n5.1,n5.2,y1),d.2)))
def F7:=bG (MR cj cQ mI lV MQ) 2000
def VB (aR:fM)(dX:LT mK BF)(x:C2.B):Pg av0:=let y0:=ws x.1.2.1;ae (y0==0) (opt (aR x.1.1 x.2.1) λd=>ret d) (ae (z9 x.1.2.1 x.1.2.1) (opt (dX ((x.1.2,y0,0),x.2.1,x.2.2,x.1.1,λx=>0)) λd=>ret (d.2.2.2.1,d.2.1)) no)
def zF:=λx=>(VB bW F7 x).val
abbrev MS:=fM×fL×dP×ja×JE×ME×(LT oy F6)×(LT mK BF)
def VC (p:MS):KK:=⟨[jG p.1,pQ p.2.1,jb p.b.1,oq p.b.2.1,Tv p.c.1,Xx p.c.2.1],⟨[⟨4,(1::2::3::5::rg 7 9 (rg 19 28 [])),[]⟩,⟨7,(1::2::3::5::7::rg 9 7 (19::20::21::rg 23 24 [])),[]⟩],[fU 7 2 oy amQ p.c.b.1,fU 4 2 mK amR p.c.b.2],[0],[],(some ⟨0,(rg 0 6 (rg 7 40 [])),[]⟩)⟩,2,271⟩
theorem aCA (p:MS):LI (VC p) 7 oy amQ (XU p.2.1):=λ_ d c K=>by kernel_rfl
theorem aCB (p:MS):LI (VC p) 4 mK amR (MR p.b.1 p.b.2.1 p.c.1 p.c.2.1 p.c.b.1):=λ_ d c K=>by kernel_rfl
theorem aLx (p:MS):D2 (VC p) C2 (lf acP) λb=>VB p.1 p.c.b.2 b:=λb=>by kernel_rfl
abbrev VD:MS:=(bW,cF,cj,cQ,mI,lV,MQ,F7)
theorem aLy [aA]:SC (av2 zF):=sc (Sound.nil 2 [.i .i64,.i .i64,.i .i64,.i .i64,.i .i64,.i .i64,.i .i64,.i .i64,.i .i64,.i .i64,.i .i64,.i .i64,.i .i64,.i .i64,.i .i64,.i .i64,.i .i64,.i .i64,.i .i64,.i .i64,.i .i64,.i .i64,.i .i64,.i .i64]<|kS (k:=VC VD) (.c kO (.c sC (.c kd (.c qf (.c aiV (.c amw (.nil _))))))) [4,7] [] ⟨kL (aCB VD),⟨kL (aCA VD),trivial⟩⟩ trivial (aLx VD))
def aAO:=qa (pr (cu aQ (c lk (c Cz aXP))) bL)
def ahn:=qe (res (pr (sf (c afJ (c akH (cl (ra aJ7) nil)))) (pl m4 nil)))
abbrev aAP:=ahn.B
abbrev amS:=NI->NI->NI->NI->Int->Int->Int->Bool->Option aAP
def aAQ (g:amS):Ct:=(264,FC aAO (lf ahn) (λb=>g b.1.1 b.1.2.1.1 b.1.2.1.2 b.1.b.1 b.1.b.2.1 b.1.c.1 b.1.c.2 b.2))
def aaK (aR:fM)(gk:rC)(ay:bV)(xS:NX)(MT:amL)(E7:aaG)(JL:ai2)(VE:av1)(x0:Nat->Int)(x1:Nat->Int)(x2:Nat->Int)(x3:Nat->Int)(x4:Int)(x5:Int)(x6:Int)(x7:Bool):Pg aAP:=opt (aR x0 x7) λd=>opt (gk x1 x2 d.2) λak=>opt (ay x4 ak.2) λaJ=>opt (xS ak.1.1 ak.1.2 x3 x5 aJ.2) λbB=>opt (MT aJ.1 bB.1 x6) λcK=>ae (!cK) (ret ((d.1,ak.1,false,aJ.1,bB.1),bB.2)) (opt (E7 ak.1.1 ak.1.2 x3 x5 bB.2) λeU=>opt (JL eU.1.2.1 aJ.1 eU.2) λde=>opt (VE ((d.1,1,true),de.2,λj=>bif z9 j 0 then de.1 0 else de.1 0,λj=>bif z9 j 0 then de.1 1 else de.1 1,λj=>bif z9 j 0 then de.1 2 else de.1 2,λj=>bif z9 j 0 then de.1 3 else de.1 3,λj=>bif z9 j 0 then de.1 4 else de.1 4,λj=>bif z9 j 0 then de.1 5 else de.1 5,λj=>bif z9 j 0 then de.1 6 else de.1 6,λj=>bif z9 j 0 then de.1 7 else de.1 7,λj=>bif z9 j 0 then de.1 8 else de.1 8,λj=>bif z9 j 0 then de.1 9 else de.1 9,λj=>bif z9 j 0 then de.1 10 else de.1 10,λj=>bif z9 j 0 then de.1 11 else de.1 11,λj=>bif z9 j 0 then de.1 12 else de.1 12,λj=>bif z9 j 0 then de.1 13 else de.1 13,λj=>bif z9 j 0 then de.1 14 else de.1 14,λj=>bif z9 j 0 then de.1 15 else de.1 15,λj=>bif z9 j 0 then de.1 16 else de.1 16,λj=>bif z9 j 0 then de.1 17 else de.1 17,λj=>bif z9 j 0 then de.1 18 else de.1 18,λj=>bif z9 j 0 then de.1 19 else de.1 19,λj=>bif z9 j 0 then de.1 20 else de.1 20,λj=>bif z9 j 0 then de.1 21 else de.1 21,λj=>bif z9 j 0 then de.1 22 else de.1 22,λj=>bif z9 j 0 then de.1 23 else de.1 23)) λd=>ret ((d.1,eU.1.1,true,aJ.1,bB.1),d.2))
def Cg:=λx0 x1 x2 x3 x4 x5 x6 x7=>(aaK bW du aO nG F5 nk yQ zF x0 x1 x2 x3 x4 x5 x6 x7).val
theorem aOB:∀aR gk ay xS MT E7 JL VE,D0 [jG aR,Bv gk,dy ay,NY xS,amM MT,aaH E7,ai3 JL,av2 VE] 264 aAO (lf ahn) λb=>aaK aR gk ay xS MT E7 JL VE b.1.1 b.1.2.1.1 b.1.2.1.2 b.1.b.1 b.1.b.2.1 b.1.c.1 b.1.c.2 b.2:=λ_ _ _ _ _ _ _ _ b=>by kernel_rfl
theorem aOC [aA]:SC (aAQ Cg):=s0 (.c kO (.c GY (.c dF (.c akc (.c aGa (.c avZ (.c aCz (.c aLy (.nil _))))))))) (aOB bW du aO nG F5 nk yQ zF)
end Go.Proofs.YtldgljclcgaibaaGreat
namespace Go.Ab
theorem Hc (n:Int):IntKind.wrap .i64 n=if 9223372036854775808<=n%18446744073709551616 then n%18446744073709551616-18446744073709551616 else n%18446744073709551616:=by
 unfold IntKind.wrap;simp only[IntKind.signed,IntKind.bits,pM,j7,show(2:Int)^64=18446744073709551616 from rfl,show(2:Int)^(64-1)=9223372036854775808 from rfl,ES]
theorem rN (a b:Int)(h:0<=b):Int.fdiv a b=a/b:=Int.fdiv_eq_ediv_of_nonneg a h
theorem VF (x:Int)(h0:0<=x)(h1:x<18446744073709551616):(wn 64 x).toNat=x.toNat:=by
 rw[BitVec.toNat_ofInt];congr 1
 simp only[Nat.reducePow,Int.cast_ofNat_Int];omega
theorem aet (x:Int)(h0:0<=x)(h1:x<18446744073709551616):ws (wd (wn 64 18446744073709551615^^^wn 64 x))=18446744073709551615-x:=by
 have e:wn 64 18446744073709551615=BitVec.allOnes 64:=by decide
 rw[e,BitVec.allOnes_xor,BitVec.toNat_not,VF x h0 h1];simp only[dQ];omega
theorem aoZ (x:Int)(h0:0<=x)(h1:x<18446744073709551616):ws (wd (wn 64 x&&&wn 64 4294967295))=x%4294967296:=by
 rw[BitVec.toNat_and,VF x h0 h1];have e:(wn 64 4294967295).toNat=2^32-1:=by decide
 rw[e,Nat.and_two_pow_sub_one_eq_mod];simp only[dQ];omega
theorem ayC (x y:Int)(k:Nat)(h0:0<=x)(h1:x<2^k)(h2:0<=y)(h3:y<18446744073709551616)(h4:x<18446744073709551616)(h5:y%2^k=0):
  ws (wd (wn 64 x|||wn 64 y))=x+y:=by
 rw[BitVec.toNat_or,VF x h0 h4,VF y h2 h3]
 obtain⟨q,hq⟩:∃q:Nat,y.toNat=2^k*q:=by
  refine⟨y.toNat/2^k,?_⟩
  have:y.toNat%2^k=0:=by
   have e:((y.toNat%2^k:Nat):Int)=y%2^k:=by
    rw[Int.natCast_emod,Int.toNat_of_nonneg h2];simp
   omega
  exact(Nat.mul_div_cancel' (aEp this)).symm
 have hx:x.toNat<2^k:=by
  have e:((2^k:Nat):Int)=(2:Int)^k:=by simp
  omega
 rw[hq,Nat.or_comm,<-Nat.two_pow_add_eq_or_of_lt hx,<-hq];simp only[dQ];omega
end Go.Ab
namespace Go.Proofs.YtldgljclcgaibaaGreat
open Go.Ab
abbrev okW (h l:Int):Prop:= -9223372036854775808<=h/\h<=9223372036854775807/\0<=l/\l<18446744073709551616
abbrev vW (h l:Int):Int:=h*18446744073709551616+l
theorem aZX (x:Int)(h0: -9223372036854775808<=x)(h1:x<=9223372036854775807):∃h l,WL x=some (h,l)/\okW h l/\vW h l=x:=by
 unfold vW;simp only[WL,atc,Pg.bP,Pg.bN,Pg.bZ,Pg.eD,Pg.dD];try delta wI wU
 refine⟨_,_,rfl,?_,?_⟩<;>rw[wrap_u64,rN _ _ (by omega)]<;>omega
theorem O7 (x y c:Int)(x0:0<=x)(y0:0<=y)(c0:0<=c)(c1:c<=1):DI x y c=some ((x+y+c)%18446744073709551616,(x+y+c)/18446744073709551616):=by
 unfold DI;have h:wr c.toNat 1=true:=axH (by omega);rw[h,bn];congr 1
 unfold aZD aZE;simp only[dQ,rq];constructor<;>omega
theorem ayD (h1 l1 h2 l2:Int)(o1:okW h1 l1)(o2:okW h2 l2):∃h l b,K4 h1 l1 h2 l2=some ((h,l),b)/\okW h l/\(b=true↔ -170141183460469231731687303715884105728<=vW h1 l1+vW h2 l2/\vW h1 l1+vW h2 l2<170141183460469231731687303715884105728)/\(b=true->vW h l=vW h1 l1+vW h2 l2):=by
 obtain⟨a1,a2,a3,a4⟩:=o1;obtain⟨b1,b2,b3,b4⟩:=o2;unfold vW;simp only[K4,alG,Pg.bP,Pg.bN,Pg.bZ,Pg.eD,Pg.dD];try delta wI wU
 rw[O7 l1 l2 0 a3 b3 (by omega) (by omega)];simp only[bC,wrap_u64];rw[O7 _ _ _ (by omega) (by omega) (by omega) (by omega)];simp only[bC];generalize hc:(l1+l2+0)/18446744073709551616=c
 generalize hl:(l1+l2+0)%18446744073709551616=l
 generalize hm:(h1%18446744073709551616+h2%18446744073709551616+c)%18446744073709551616=m
 have hw:=Hc m;generalize IntKind.wrap IntKind.i64 m=w at*
 have hw1:w=m∨w=m-18446744073709551616:=by split at hw<;>omega
 have hw2: -9223372036854775808<=w/\w<=9223372036854775807:=by split at hw<;>omega
 by_cases n1:h1<0
 .by_cases n2:h2<0
  .have e:(!decide (h1<0)==decide (h2<0))=false:=by simp[n1,n2]
   simp only[e,bx];refine⟨w,l,_,rfl,⟨hw2.1,hw2.2,by omega,by omega⟩,?_,?_⟩
   .simp only[n1,Ji,beq_true,j7];constructor<;>intro h<;>omega
   .simp only[n1,Ji,beq_true,j7];intro h;omega
  .have e:(!decide (h1<0)==decide (h2<0))=true:=by simp[n1,n2]
   simp only[e,bn];refine⟨w,l,_,rfl,⟨hw2.1,hw2.2,by omega,by omega⟩,?_,?_⟩
   .simp only[true_iff];constructor<;>omega
   .intro h;omega
 .by_cases n2:h2<0
  .have e:(!decide (h1<0)==decide (h2<0))=true:=by simp[n1,n2]
   simp only[e,bn];refine⟨w,l,_,rfl,⟨hw2.1,hw2.2,by omega,by omega⟩,?_,?_⟩
   .simp only[true_iff];constructor<;>omega
   .intro h;omega
  .have e:(!decide (h1<0)==decide (h2<0))=false:=by simp[n1,n2]
   simp only[e,bx];refine⟨w,l,_,rfl,⟨hw2.1,hw2.2,by omega,by omega⟩,?_,?_⟩
   .simp only[n1,Kd,_root_.beq_false,pL,Om];constructor<;>intro h<;>omega
   .simp only[n1,Kd,_root_.beq_false,pL,Om];intro h;omega
theorem aJm (h l:Int)(o:okW h l):∃ah al,FQ h l=some ((ah,al),decide (h<0))/\0<=ah/\ah<=9223372036854775808/\0<=al/\al<18446744073709551616/\ah*18446744073709551616+al=(if h<0 then -vW h l else vW h l):=by
 obtain⟨a1,a2,a3,a4⟩:=o;unfold vW;simp only[FQ,alr,Pg.bP,Pg.bN,Pg.bZ,Pg.eD,Pg.dD];try delta wI wU
 by_cases n:h<0
 .have e:decide (h>=0)=false:=cC (by omega);simp only[e,bx,aet l a3 a4,wrap_u64];rw[aet (h%18446744073709551616) (by omega) (by omega),O7 _ _ _ (by omega) (by omega) (by omega) (by omega)];simp only[bC,n,Ji,lK];refine⟨_,_,rfl,?_,?_,?_,?_,?_⟩<;>omega
 .have e:decide (h>=0)=true:=dR (by omega);simp only[e,bn,wrap_u64,n,Kd,gq];refine⟨_,_,rfl,?_,?_,?_,?_,?_⟩<;>omega
theorem aJn (h1 l1 h2 l2:Int)(a0:0<=h1)(b0:0<=l1)(c0:0<=h2)(d0:0<=l2)(b1:l1<18446744073709551616)(d1:l2<18446744073709551616):
  js h1 l1 h2 l2=some ((h1+h2+(l1+l2)/18446744073709551616)%18446744073709551616,(l1+l2)%18446744073709551616):=by
 simp only[js,OD,Pg.bP,Pg.bN,Pg.bZ,Pg.eD,Pg.dD];try delta wI wU
 rw[O7 _ _ _ b0 d0 (by omega) (by omega)];simp only[bC,Int.add_zero];rw[O7 _ _ _ a0 c0 (by omega) (by omega)];rfl
theorem aZY (n:Nat)(hn:n<126):gU 0 1 (ws n)=some (2^n/18446744073709551616,2^n%18446744073709551616):=by
 have key:∀n:Fin 126,gU 0 1 (ws n.val)=some ((2:Int)^n.val/18446744073709551616,(2:Int)^n.val%18446744073709551616):=by decide+kernel
 exact key ⟨n,hn⟩
theorem mS (n:Nat):(0:Int)<2^n:=Int.pow_pos (by decide)
theorem av3 (h l:Int)(s:Nat)(hs:s<=126)(h0:0<=h)(h1:h<18446744073709551616)(l0:0<=l)(l1:l<18446744073709551616):
  ∃h' l',jk h l (ws s)=some (h',l')/\0<=h'/\0<=l'/\l'<18446744073709551616/\h'*18446744073709551616+l'=(h*18446744073709551616+l)/2^s:=by
 simp only[jk,Jm,Pg.bP,Pg.bN,Pg.bZ,Pg.eD,Pg.dD];try delta wI wU
 by_cases c:64<=s
 .have e:decide (ws s>=64)=true:=by simp only[dQ];exact dR (by omega)
  have e2:IntKind.wrap .i64 (ws s-64)=ws (s-64):=(wrap_i64 (by simp only[dQ];omega) (by simp only[dQ];omega)).trans (by simp only[dQ];omega);have e3:(!decide (ws (s-64)<0))=true:=by simp
  have e4:min (z4 (ws (s-64))) 64=s-64:=by
   show min (s-64) 64=s-64;omega
  simp only[e,e2,e3,e4,bn];rw[rN _ _ (pS (mS _))];refine⟨_,_,rfl,by omega,Ez h0 (pS (mS _)),Int.lt_of_le_of_lt (axL _ h0) h1,?_⟩
  have p:(2:Int)^s=18446744073709551616*2^(s-64):=by
   rw[show(18446744073709551616:Int)=2^64 from rfl,<-Int.pow_add];congr 1;omega
  rw[p,<-Int.ediv_ediv_of_nonneg (by decide)];have:(h*18446744073709551616+l)/18446744073709551616=h:=by omega
  rw[this];omega
 .have e:decide (ws s>=64)=false:=by simp only[dQ];exact cC (by omega)
  have e2:IntKind.wrap .i64 (64-ws s)=ws (64-s):=(wrap_i64 (by simp only[dQ];omega) (by simp only[dQ];omega)).trans (by simp only[dQ];omega);have e3:∀n,(!decide (ws n<0))=true:=by simp
  have e4:min (z4 (ws (64-s))) 64=64-s:=by
   show min (64-s) 64=64-s;omega
  have e5:min (z4 (ws s)) 64=s:=by
   show min s 64=s;omega
  simp only[e,e2,e3,e4,e5,bn,bx,wrap_u64];rw[rN _ _ (pS (mS _)),rN _ _ (pS (mS _))]
  have pq:(18446744073709551616:Int)=2^s*2^(64-s):=by
   rw[<-Int.pow_add,show s+(64-s)=64 by omega];rfl
  generalize hP:(2:Int)^s=P at*
  generalize hQ:(2:Int)^(64-s)=Q at*
  have P0:0<P:=by rw[<-hP];exact mS s
  have Q0:0<Q:=by rw[<-hQ];exact mS (64-s)
  have m:h*Q%18446744073709551616=h%P*Q:=by
   rw[pq,yg h Q,yg P Q,Int.mul_emod_mul_of_pos _ _ Q0,yg]
  have x0:0<=l/P:=Ez l0 (pS P0);have x1:l/P<Q:=abK P0 (by rw[yg,<-pq];exact l1);have y0:0<=h%P:=Wd _ (by omega);have y1:h%P<P:=SP _ P0
  have y2:h%P*Q+Q<=18446744073709551616:=by
   have:(h%P+1)*Q<=P*Q:=ZM (by omega) (pS Q0);rw[ZN,<-pq] at this;omega
  have y3:0<=h%P*Q:=Aq y0 (pS Q0)
  have key:ws (wd (wn 64 (l/P)|||wn 64 (h*Q%18446744073709551616)))=l/P+h%P*Q:=by
   rw[m];exact ayC _ _ (64-s) x0 (by rw[hQ];exact x1) y3 (by omega) (by omega) (by rw[hQ];exact Int.mul_emod_left _ _)
  rw[key];have z:(l/P+h%P*Q)%18446744073709551616=l/P+h%P*Q:=FG (by omega) (by omega);rw[z];refine⟨_,_,rfl,Ez h0 (pS P0),by omega,by omega,?_⟩
  have f1:(h*18446744073709551616+l)/P=h*Q+l/P:=by
   rw[pq,show h*(P*Q)+l=l+h*Q*P by rw[yg P Q,<-akQ,Int.add_comm],Int.add_mul_ediv_right _ _ (by omega)];omega
  have f2:h/P*18446744073709551616=h/P*P*Q:=by rw[pq,akQ]
  have f3:h/P*P+h%P=h:=Int.ediv_mul_add_emod h P;rw[f1,f2];have f4:(h/P*P+h%P)*Q=h*Q:=by rw[f3]
  rw[ZN] at f4;omega
theorem MU (h l:Int)(neg:Bool)(h0:0<=h)(l0:0<=l)(l1:l<18446744073709551616):
  jt h l neg=if h*18446744073709551616+l<=(if neg=true then 9223372036854775808 else 9223372036854775807) then some (if neg=true then -l else l,true) else some (0,false):=by
 simp only[jt,OJ,Pg.bP,Pg.bN,Pg.bZ,Pg.eD,Pg.dD];try delta wI wU
 by_cases c:h=0
 .subst c;have e:((0:Int)!=0)=false:=rfl;simp only[e,bx,afY,akR];cases neg
  .by_cases d:l>9223372036854775807
   .have d2:¬l<=9223372036854775807:=by omega
    simp[d,d2]
   .have d2:l<=9223372036854775807:=by omega
    simp only[Bool.not_false,bn,d,Kd,bx,yf,gq,d2,lK];rw[wrap_i64 (by omega) d2]
  .by_cases d:l>9223372036854775808
   .have d2:¬l<=9223372036854775808:=by omega
    simp[d,d2]
   .have d2:l<=9223372036854775808:=by omega
    have e3:IntKind.wrap .i64 (IntKind.wrap .u64 (0-l))= -l:=by
     rw[wrap_u64,Hc];split<;>omega
    have e4:IntKind.wrap .i64 (IntKind.wrap .u64 (-l))= -l:=by
     rw[wrap_u64,Hc];split<;>omega
    simp[d,d2,e3,e4]
 .have e:(h !=0)=true:=by simp[c]
  have d2:¬h*18446744073709551616+l<=(if neg=true then 9223372036854775808 else 9223372036854775807):=by split<;>omega
  simp only[e,bn,d2,gq]
def half (s:Nat):Int:=if s=0 then 0 else 2^(s-1)
def C4 (v:Int)(s:Nat):Int:=if v<0 then -((-v+half s)/2^s) else(v+half s)/2^s
theorem aOD (s:Nat)(hs:s<=126):0<=half s/\half s<=42535295865117307932921825928971026432:=by
 unfold half;split
 .omega
 .refine⟨pS (mS _),?_⟩
  have:(2:Int)^(s-1)<=2^125:=by
   have h2:(2:Nat)^(s-1)<=2^125:=Nat.pow_le_pow_right (by decide) (by omega);have h3:((2^(s-1):Nat):Int)<=((2^125:Nat):Int):=by exact_mod_cast h2
   simpa using h3
  exact this
theorem wide_round (h l:Int)(s:Nat)(hs:s<=126)(o:okW h l):
  sw h l (ws s)=if -9223372036854775808<=C4 (vW h l) s/\C4 (vW h l) s<=9223372036854775807 then some (C4 (vW h l) s,true) else some (0,false):=by
 simp only[sw,ab1,Pg.bP,Pg.bN,Pg.bZ,Pg.eD,Pg.dD];try delta wI wU
 obtain⟨ah,al,e1,a0,a1,a2,a3,a4⟩:=aJm h l o;have n0:decide (ws s<0)=false:=by simp
 have n1:decide (ws s>126)=false:=by simp only[dQ];exact cC (by omega)
 simp only[n0,n1,bx,e1,bC];obtain⟨hh0,hh1⟩:=aOD s hs
 have fin:∀h' l':Int,0<=h'->0<=l'->l'<18446744073709551616->h'*18446744073709551616+l'=((if h<0 then -vW h l else vW h l)+half s)/2^s->
   (jt h' l' (decide (h<0))).bind (λd=>some (d.fst,d.snd))=if -9223372036854775808<=C4 (vW h l) s/\C4 (vW h l) s<=9223372036854775807 then some (C4 (vW h l) s,true) else some (0,false):=by
  intro h' l' b0 b1 b2 b3;rw[MU h' l' _ b0 b1 b2];obtain⟨o1,o2,o3,o4⟩:=o;by_cases n:h<0
  .have nv:vW h l<0:=by show h*18446744073709551616+l<0;omega
   simp only[n,Ji,lK] at b3 ⊢;unfold C4;simp only[nv,lK];rw[<-b3];by_cases c:h'*18446744073709551616+l'<=9223372036854775808
   .rw[if_pos c,if_pos (by omega)];simp only[bC,iv,rq,CC];omega
   .rw[if_neg c,if_neg (by omega)];rfl
  .have nv:¬vW h l<0:=by show ¬h*18446744073709551616+l<0;omega
   simp only[n,Kd,gq,yf] at b3 ⊢;unfold C4;simp only[nv,gq];rw[<-b3];by_cases c:h'*18446744073709551616+l'<=9223372036854775807
   .rw[if_pos c,if_pos (by omega)];simp only[bC,iv,rq,CC];omega
   .rw[if_neg c,if_neg (by omega)];rfl
 by_cases z:s=0
 .subst z;have n2:decide (ws 0>0)=false:=by decide
  simp only[n2,bx];obtain⟨h',l',e2,b0,b1,b2,b3⟩:=av3 ah al 0 (by omega) a0 (by omega) a2 a3;rw[e2];simp only[bC];exact fin h' l' b0 b1 b2 (by rw[b3,a4];simp[half])
 .have n2:decide (ws s>0)=true:=by simp only[dQ];exact dR (by omega)
  simp only[n2,bn];have n3:IntKind.wrap .i64 (ws s-1)=ws (s-1):=(wrap_i64 (by simp only[dQ];omega) (by simp only[dQ];omega)).trans (by simp only[dQ];omega);have hf:half s=2^(s-1):=by unfold half;rw[if_neg z]
  rw[n3,aZY (s-1) (by omega),<-hf];simp only[bC];rw[aJn _ _ _ _ a0 a2 (by omega) (by omega) a3 (by omega)];simp only[bC];obtain⟨h',l',e2,b0,b1,b2,b3⟩:=av3 ((ah+half s/18446744073709551616+(al+half s%18446744073709551616)/18446744073709551616)%18446744073709551616) ((al+half s%18446744073709551616)%18446744073709551616) s hs (by omega) (by omega) (by omega) (by omega);rw[e2];simp only[bC];refine fin h' l' b0 b1 b2 ?_;rw[b3,<-a4];congr 1
  omega
def sat (x:Int):Int:=if x< -1152921504606846976 then -1152921504606846976 else if 1152921504606846976<x then 1152921504606846976 else x
def dE (x:Int):Bool:=decide (x< -1152921504606846976)||decide (1152921504606846976<x)
theorem mT (x:Int): -1152921504606846976<=sat x/\sat x<=1152921504606846976:=by
 unfold sat;split<;>(try split)<;>omega
theorem pj (x:Int)(eJ:Bool):aO x eJ=some (sat x,eJ||dE x):=by
 simp only[aO,Ql,aT,qF,Pg.bP,Pg.bN,Pg.bZ,Pg.eD,Pg.dD];try delta wI wU
 unfold sat dE;have e:decide ((-1152921504606846976:Int)>1152921504606846976)=false:=by decide
 by_cases c:x< -1152921504606846976
 .simp[e,c]
 .by_cases d:1152921504606846976<x
  .have d2:x>1152921504606846976:=d;simp[e,c,d]
  .simp[e,c,d]
theorem aeu (a:Int)(ok neg eJ:Bool):jC a ok neg eJ=if ok=true then some (sat a,eJ||dE a) else some (if neg=true then -1152921504606846976 else 1152921504606846976,true):=by
 simp only[jC,Ei,oH,OL,Pg.bP,Pg.bN,Pg.bZ,Pg.eD,Pg.dD];try delta wI wU
 cases ok
 .cases neg<;>rfl
 .simp only[HW,bx,pj,bC,lK]
theorem aho (h l:Int)(s:Nat)(eJ:Bool)(hs:s<=120)(o:okW h l):mF h l (ws s) eJ=some (sat (C4 (vW h l) s),eJ||dE (C4 (vW h l) s)):=by
 simp only[mF,Ta,Pg.bP,Pg.bN,Pg.bZ,Pg.eD,Pg.dD];try delta wI wU
 have n0:decide (ws s<0)=false:=by simp
 have n1:decide (ws s>120)=false:=by simp only[dQ];exact cC (by omega)
 simp only[n0,n1,bx,wide_round h l s (by omega) o];by_cases c: -9223372036854775808<=C4 (vW h l) s/\C4 (vW h l) s<=9223372036854775807
 .simp only[c,and_self,lK,bC,aeu]
 .rw[if_neg c];simp only[bC,aeu,yf,gq]
  have sg:(h<0->C4 (vW h l) s<=0)/\(¬h<0->0<=C4 (vW h l) s):=by
   obtain⟨o1,o2,o3,o4⟩:=o;obtain⟨hh0,hh1⟩:=aOD s (by omega);have p:=mS s;unfold C4;refine⟨λn=> ?_,λn=> ?_⟩
   .have nv:vW h l<0:=by show h*18446744073709551616+l<0;omega
    rw[if_pos nv];have:0<=(-vW h l+half s)/2^s:=Ez (by omega) (pS p);omega
   .have nv:¬vW h l<0:=by show ¬h*18446744073709551616+l<0;omega
    rw[if_neg nv];exact Ez (by omega) (pS p)
  unfold sat dE;by_cases n:h<0
  .have:=sg.1 n;have c1:C4 (vW h l) s< -1152921504606846976:=by omega
   simp[n,c1]
  .have:=sg.2 n;have c1:¬C4 (vW h l) s< -1152921504606846976:=by omega
   have c2:1152921504606846976<C4 (vW h l) s:=by omega
   simp[n,c1,c2]
theorem ao0 (x:Int)(h0: -9223372036854775808<=x)(h1:x<=9223372036854775807):su x=some (if x<0 then -x else x):=by
 simp only[su,abY,Pg.bP,Pg.bN,Pg.bZ,Pg.eD,Pg.dD];try delta wI wU
 by_cases c:x<0
 .simp only[c,Ji,bn,lK,wrap_u64];exact eC (some:Int->Option Int) (by omega)
 .simp only[c,Kd,bx,gq,wrap_u64];exact eC (some:Int->Option Int) (by omega)
theorem ao1 {a b:Int}(a0:0<=a)(a1:a<=4294967295)(b0:0<=b)(b1:b<=4294967295):0<=a*b/\a*b<=18446744065119617025:=by
 refine⟨Aq a0 b0,?_⟩;have:=LH a1 b1 b0 (by omega);omega
theorem aU2 (x y:Int)(x0:0<=x)(x1:x<18446744073709551616)(y0:0<=y)(y1:y<18446744073709551616):IA x y=some (x*y/18446744073709551616,x*y%18446744073709551616):=by
 simp only[IA,ab0,Pg.bP,Pg.bN,Pg.bZ,Pg.eD,Pg.dD];try delta wI wU
 rw[aoZ x x0 x1,aoZ y y0 y1];simp only[rN _ 4294967296 (by decide),wrap_u64];have xe:x=x/4294967296*4294967296+x%4294967296:=by omega
 have ye:y=y/4294967296*4294967296+y%4294967296:=by omega
 have xh:0<=x/4294967296/\x/4294967296<=4294967295:=by omega
 have yh:0<=y/4294967296/\y/4294967296<=4294967295:=by omega
 have xl:0<=x%4294967296/\x%4294967296<=4294967295:=by omega
 have yl:0<=y%4294967296/\y%4294967296<=4294967295:=by omega
 have hxy:x*y=(x/4294967296)*(y/4294967296)*18446744073709551616+((x/4294967296)*(y%4294967296)+(x%4294967296)*(y/4294967296))*4294967296+(x%4294967296)*(y%4294967296):=by
  conv=>lhs;rw[xe,ye]
  generalize x/4294967296=a
  generalize x%4294967296=b
  generalize y/4294967296=c
  generalize y%4294967296=d
  rw[ZN,Int.mul_add,Int.mul_add,ZN];rw[show a*4294967296*(c*4294967296)=a*c*18446744073709551616 by rw[akQ,Int.mul_left_comm 4294967296 c,<-akQ,show(4294967296:Int)*4294967296=18446744073709551616 from rfl]];rw[show a*4294967296*d=a*d*4294967296 by rw[akQ,yg 4294967296 d,<-akQ],show b*(c*4294967296)=b*c*4294967296 by rw[akQ]];omega
 obtain⟨A0,A1⟩:=ao1 xh.1 xh.2 yh.1 yh.2;obtain⟨B0,B1⟩:=ao1 xh.1 xh.2 yl.1 yl.2;obtain⟨C0,C1⟩:=ao1 xl.1 xl.2 yh.1 yh.2;obtain⟨D0,D1⟩:=ao1 xl.1 xl.2 yl.1 yl.2;simp only[FG xl.1 (show x%4294967296<18446744073709551616 by omega),FG yl.1 (show y%4294967296<18446744073709551616 by omega)];rw[hxy];generalize x/4294967296*(y/4294967296)=A at*
 generalize x/4294967296*(y%4294967296)=B at*
 generalize x%4294967296*(y/4294967296)=C at*
 generalize x%4294967296*(y%4294967296)=D at*
 have r1:A%18446744073709551616=A:=FG A0 (by omega);have r2:B%18446744073709551616=B:=FG B0 (by omega);have r3:C%18446744073709551616=C:=FG C0 (by omega);have r4:D%18446744073709551616=D:=FG D0 (by omega);simp only[r1,r2,r3,r4];have r5:(B+D/4294967296)%18446744073709551616=B+D/4294967296:=FG (by omega) (by omega);simp only[r5];rw[aoZ (B+D/4294967296) (by omega) (by omega)];have r6:(B+D/4294967296)%4294967296%18446744073709551616=(B+D/4294967296)%4294967296:=FG (by omega) (by omega);simp only[r6];have r7:((B+D/4294967296)%4294967296+C)%18446744073709551616=(B+D/4294967296)%4294967296+C:=FG (by omega) (by omega);simp only[r7];refine eC some (Prod.ext ?_ rfl);simp only;omega
theorem aLz (h l:Int)(neg:Bool)(h0:0<=h)(h1:h<9223372036854775808)(l0:0<=l)(l1:l<18446744073709551616):
  ∃h' l' b,nN h l neg=some ((h',l'),b)/\okW h' l'/\vW h' l'=if neg=true then -(h*18446744073709551616+l) else h*18446744073709551616+l:=by
 simp only[nN,L4,Pg.bP,Pg.bN,Pg.bZ,Pg.eD,Pg.dD];try delta wI wU
 cases neg
 .refine⟨_,_,_,rfl,?_,?_⟩
  .rw[wrap_i64 (by omega) (by omega)];omega
  .rw[wrap_i64 (by omega) (by omega)];rfl
 .simp only[HW,bx,aet l l0 l1,wrap_u64,aet h h0 (by omega)];rw[O7 _ _ _ (by omega) (by omega) (by omega) (by omega)];simp only[bC];generalize hm:(18446744073709551615-h)%18446744073709551616+((18446744073709551615-l)%18446744073709551616+1+0)/18446744073709551616=m
  have hw:=Hc (m%18446744073709551616);generalize IntKind.wrap IntKind.i64 (m%18446744073709551616)=w at*
  have ok:okW w (((18446744073709551615-l)%18446744073709551616+1+0)%18446744073709551616)/\vW w (((18446744073709551615-l)%18446744073709551616+1+0)%18446744073709551616)= -(h*18446744073709551616+l):=by
   unfold vW;refine⟨⟨?_,?_,?_,?_⟩,?_⟩<;>(split at hw<;>omega)
  cases decide (w<0)
  .exact⟨_,_,_,rfl,ok.1,by simp only[lK];exact ok.2⟩
  .exact⟨_,_,_,rfl,ok.1,by simp only[lK];exact ok.2⟩
theorem BG (a b:Int)(a0: -9223372036854775808<=a)(a1:a<=9223372036854775807)(b0: -9223372036854775808<=b)(b1:b<=9223372036854775807):∃h l,fP a b=some (h,l)/\okW h l/\vW h l=a*b:=by
 simp only[fP,alo,Pg.bP,Pg.bN,Pg.bZ,Pg.eD,Pg.dD];try delta wI wU
 simp only[ao0 a a0 a1,ao0 b b0 b1,bC];generalize hx:(if a<0 then -a else a)=x
 generalize hy:(if b<0 then -b else b)=y
 have x0:0<=x/\x<=9223372036854775808:=by rw[<-hx];split<;>omega
 have y0:0<=y/\y<=9223372036854775808:=by rw[<-hy];split<;>omega
 have hp:0<=x*y:=Aq x0.1 y0.1
 have hq:x*y<=85070591730234615865843651857942052864:=by
  have:=LH x0.2 y0.2 y0.1 (by omega);omega
 rw[aU2 x y x0.1 (by omega) y0.1 (by omega)];simp only[bC];obtain⟨h,l,c,e1,e2,e3⟩:=aLz (x*y/18446744073709551616) (x*y%18446744073709551616) (!decide (a<0)==decide (b<0)) (by omega) (by omega) (by omega) (by omega);rw[e1];simp only[bC];refine⟨h,l,rfl,e2,?_⟩;have e4:x*y/18446744073709551616*18446744073709551616+x*y%18446744073709551616=x*y:=by omega
 rw[e3,e4];by_cases p:a<0
 .by_cases q:b<0
  .rw[if_pos p] at hx;rw[if_pos q] at hy;simp only[p,q,Ji];rw[if_neg (by decide)];rw[<-hx,<-hy,Int.neg_mul_neg]
  .rw[if_pos p] at hx;rw[if_neg q] at hy;simp only[p,q,Ji,Kd];rw[if_pos (by decide)];rw[<-hx,<-hy,Int.neg_mul,Int.neg_neg]
 .by_cases q:b<0
  .rw[if_neg p] at hx;rw[if_pos q] at hy;simp only[p,q,Ji,Kd];rw[if_pos (by decide)];rw[<-hx,<-hy,Int.mul_neg,Int.neg_neg]
  .rw[if_neg p] at hx;rw[if_neg q] at hy;simp only[p,q,Kd];rw[if_neg (by decide)];rw[<-hx,<-hy]
theorem aGd (a b:Int)(s:Nat)(eJ:Bool)(hs:s<=120):aU a b (ws s) eJ=some (sat (C4 (sat a*sat b) s),eJ||dE a||dE b||dE (C4 (sat a*sat b) s)):=by
 simp only[aU,ab4,Pg.bP,Pg.bN,Pg.bZ,Pg.eD,Pg.dD];try delta wI wU
 have:=mT a;have:=mT b;obtain⟨h,l,e1,e2,e3⟩:=BG (sat a) (sat b) (by omega) (by omega) (by omega) (by omega);simp only[pj,bC,e1,aho h l s _ hs e2,e3]
theorem XV (f g:Nat->Int)(w:Bool)(o1:okW (f 0) (g 0))(o2:okW (f 1) (g 1))(r0: -170141183460469231731687303715884105728<=vW (f 0) (g 0)+vW (f 1) (g 1))(r1:vW (f 0) (g 0)+vW (f 1) (g 1)<170141183460469231731687303715884105728):
  ∃h l,kU 2 f g w=some ((h,l),true)/\okW h l/\vW h l=vW (f 0) (g 0)+vW (f 1) (g 1):=by
 simp only[kU,aac,Pg.bP,Pg.bN,Pg.bZ,Pg.eD,Pg.dD];try delta wI wU
 unfold IH;rw[show z9 2 2=true from rfl,bn,alf];obtain⟨h1,l1,b1,e1,a1,c1,d1⟩:=ayD 0 0 (f 0) (g 0) ⟨by omega,by omega,by omega,by omega⟩ o1
 have t1:b1=true:=by
  rw[c1];obtain⟨p1,p2,p3,p4⟩:=o1;simp only[vW];omega
 subst t1;have d1:=d1 rfl;obtain⟨h2,l2,b2,e2,a2,c2,d2⟩:=ayD h1 l1 (f 1) (g 1) a1 o2;have z:vW 0 0=0:=rfl;have t2:b2=true:=by rw[c2,d1,z];omega
 subst t2;have d2:=d2 rfl;refine⟨h2,l2,?_,a2,by rw[d2,d1,z];omega⟩;have k0:decide ((0:Int)<ws 2)=true:=by decide
 have k1:aZ 0 2=true:=by decide
 have k2:IntKind.wrap .i64 (0+1)=1:=by decide
 have k3:decide ((1:Int)<ws 2)=true:=by decide
 have k4:aZ 1 2=true:=by decide
 have k5:IntKind.wrap .i64 (1+1)=2:=by decide
 have k6:decide ((2:Int)<ws 2)=false:=by decide
 have k7:z4 0=0:=rfl;have k8:z4 1=1:=rfl;rw[Z4];simp only[Ek,Pg.pV,Pg.pW,Pg.sW,Pg.zd,Pg.pX,na,j8,wI,k0,k1,k2,k7,bn,e1,bC,HW,bx];rw[Z4];simp only[k3,k4,k5,k8,bn,e2,bC,HW,bx];rw[Z4];simp only[k6,bx,j8]
def pk (f:Nat->Int):Nat->Int
 |0=>0
 |n+1=>pk f n+f n
def oE (f:Nat->Bool):Nat->Bool
 |0=>false
 |n+1=>oE f n||f n
theorem aev (f:Nat->Int)(B:Int)(hB:0<=B)(n:Nat)(h:∀j,j<n-> -B<=f j/\f j<=B): -(n*B)<=pk f n/\pk f n<=n*B:=by
 induction n with
 |zero=>simp[pk]
 |succ n ih=>
  have:=ih λj hj=>h j (by omega)
  have h2:=h n (by omega);have e:((n+1:Nat):Int)*B=n*B+B:=by rw[Int.natCast_add,ZN];simp
  rw[e,pk];omega
theorem aJo (v:Int):C4 v 0=v:=by
 unfold C4 half;simp only[lK,Int.add_zero];have:(2:Int)^0=1:=rfl;rw[this,Int.ediv_one,Int.ediv_one];split<;>omega
theorem ao2 {i n t:Nat}(h:i+t=n)(ht:0<t):decide (ws i<ws n)=true:=by simp only[dQ];exact dR (by omega)
theorem ao3 {i n:Nat}(h:n<=i):decide (ws i<ws n)=false:=by simp only[dQ];exact cC (by omega)
theorem aaL {i n:Nat}(h:i<n):aZ (ws i) n=true:=by unfold aZ;simp only[dQ,cL,j7];omega
theorem ao4 {i:Nat}(h:i<9000000000000000000):IntKind.wrap .i64 (ws i+1)=ws (i+1):=(wrap_i64 (by simp only[dQ];omega) (by simp only[dQ];omega)).trans rfl
theorem aZZ (n:Nat)(hn:n<=1900)(eJ:Bool)(l:Nat->Int)(w:Bool):
  cF n eJ l w=some (sat (pk (λj=>sat (l j)) n),(eJ||oE (λj=>dE (l j)) n)||dE (pk (λj=>sat (l j)) n)):=by
 simp only[cF,Qv,Pg.bP,Pg.bN,Pg.bZ,Pg.eD,Pg.dD];try delta wI wU
 unfold Jx;rw[Ar,bn]
 refine FL (λt d=>∃(i:Nat) (h l':Int),i+t=n/\okW h l'/\vW h l'=pk (λj=>sat (l j)) i/\d=(((n,w),ws n,ws i),(eJ||oE (λj=>dE (l j)) i),l,h,l')) ?_ 2000 n _ (by omega)
  ⟨0,0,0,by omega,⟨by omega,by omega,by omega,by omega⟩,rfl,by simp only[oE,LJ];rfl⟩
 rintro t _ c ⟨i,h,l',hi,ho,hv,rfl⟩ hc
 have bnd:=aev (λj=>sat (l j)) 1152921504606846976 (by omega) i (λj _=>mT _);rcases SQ t with t0|t0
 .have e:i=n:=by omega
  subst e;have r:=aho h l' 0;have r2:=wide_round h l' 0 (by omega) ho;rw[aJo] at r2;have r3:ws 0=0:=rfl;rw[r3] at r2;simp only[Jw,Pg.pV,Pg.pW,Pg.sW,Pg.zd,Pg.pX,na,j8,wI,ao3 (cP i),bx,r2];by_cases k: -9223372036854775808<=vW h l'/\vW h l'<=9223372036854775807
  .rw[if_pos k];simp only[lK,bC,aeu,hv]
  .rw[if_neg k];simp only[bC,aeu,yf,gq];rw[<-hv];unfold sat dE;by_cases ng:h<0
   .have c1:vW h l'< -1152921504606846976:=by
     obtain⟨o1,o2,o3,o4⟩:=ho;simp only[vW] at*;omega
    simp[ng,c1]
   .have c1:¬vW h l'< -1152921504606846976:=by
     obtain⟨o1,o2,o3,o4⟩:=ho;simp only[vW] at*;omega
    have c2:1152921504606846976<vW h l':=by
     obtain⟨o1,o2,o3,o4⟩:=ho;simp only[vW] at*;omega
    simp[ng,c1,c2]
 .have hs:=mT (l i);obtain⟨h1,l1,e1,o1,v1⟩:=aZX (sat (l i)) (by omega) (by omega)
  obtain⟨h2,l2,e2,o2,v2⟩:=XV (λj:Nat=>bif z9 j 1 then h1 else bif z9 j 0 then h else h) (λj:Nat=>bif z9 j 1 then l1 else bif z9 j 0 then l' else l') true
   ho o1 (by show _<=vW h l'+vW h1 l1;rw[hv,v1];omega) (by show vW h l'+vW h1 l1<_;rw[hv,v1];omega)
  have v2:vW h2 l2=vW h l'+vW h1 l1:=v2;rw[hv,v1] at v2;have q:z4 (ws i)=i:=rfl;simp only[Jw,Pg.pV,Pg.pW,Pg.sW,Pg.zd,Pg.pX,na,j8,wI,ao2 hi t0,aaL (show i<n by omega),bn,q,pj,bC,e1,e2,ao4 (show i<9000000000000000000 by omega)];refine hc (t-1) _ (by omega) ⟨i+1,h2,l2,by omega,o2,v2,?_⟩;simp only[oE,Bool.or_assoc]
theorem Rw (a b:Int): -1329227995784915872903807060280344576<=sat a*sat b/\sat a*sat b<=1329227995784915872903807060280344576:=by
 have h1:=mT a;have h2:=mT b;generalize sat a=x at*
 generalize sat b=y at*
 have key:∀u v:Int,0<=u->u<=1152921504606846976->0<=v->v<=1152921504606846976->0<=u*v/\u*v<=1329227995784915872903807060280344576:=λu v u0 u1 v0 v1=>by
  refine⟨Aq u0 v0,?_⟩;have:=LH u1 v1 v0 (by omega);omega
 rcases abP 0 x with hx|hx<;>rcases abP 0 y with hy|hy
 .have:=key x y hx (by omega) hy (by omega);omega
 .have:=key x (-y) hx (by omega) (by omega) (by omega);rw[Int.mul_neg] at this;omega
 .have:=key (-x) y (by omega) (by omega) hy (by omega);rw[Int.neg_mul] at this;omega
 .have:=key (-x) (-y) (by omega) (by omega) (by omega) (by omega);rw[Int.neg_mul_neg] at this;omega
theorem aGe (s:Nat)(hs:s<=120)(n:Nat)(hn:n<=100)(eJ:Bool)(f g:Nat->Int)(w w':Bool):
  bu (ws s) n n eJ f g w w'=some (sat (C4 (pk (λj=>sat (f j)*sat (g j)) n) s),(eJ||oE (λj=>dE (f j)||dE (g j)) n)||dE (C4 (pk (λj=>sat (f j)*sat (g j)) n) s)):=by
 simp only[bu,acB,Pg.bP,Pg.bN,Pg.bZ,Pg.eD,Pg.dD];try delta wI wU
 unfold JB;have n0:decide (ws s<0)=false:=by simp
 have n1:decide (ws s>120)=false:=by simp only[dQ];exact cC (by omega)
 have m:(if 100<if ws n<ws n then ws n else ws n then 100 else if ws n<ws n then ws n else ws n)=ws n:=by
  have e:¬ws n<ws n:=by omega
  rw[if_neg e,if_neg (by simp only[dQ];omega)]
 rw[n0,n1,bx,bx,Ar,bn,bn,m]
 refine FL (λt d=>∃(i:Nat) (h l':Int),i+t=n/\okW h l'/\vW h l'=pk (λj=>sat (f j)*sat (g j)) i/\d=((ws s,(n,w),(n,w'),ws n,ws i),(eJ||oE (λj=>dE (f j)||dE (g j)) i),f,g,h,l')) ?_ 2000 n _ (by omega)
  ⟨0,0,0,by omega,⟨by omega,by omega,by omega,by omega⟩,rfl,by simp only[oE,LJ];rfl⟩
 rintro t _ c ⟨i,h,l',hi,ho,hv,rfl⟩ hc
 have bnd:=aev (λj=>sat (f j)*sat (g j)) 1329227995784915872903807060280344576 (by omega) i (λj _=>Rw _ _);rcases SQ t with t0|t0
 .have e:i=n:=by omega
  subst e;simp only[JA,Pg.pV,Pg.pW,Pg.sW,Pg.zd,Pg.pX,na,j8,wI,ao3 (cP i),bx,aho h l' s _ hs ho,hv,bC]
 .have hs1:=mT (f i);have Wk:=mT (g i);have hm:=Rw (f i) (g i);obtain⟨h1,l1,e1,o1,v1⟩:=BG (sat (f i)) (sat (g i)) (by omega) (by omega) (by omega) (by omega)
  obtain⟨h2,l2,e2,o2,v2⟩:=XV (λj:Nat=>bif z9 j 1 then h1 else bif z9 j 0 then h else h) (λj:Nat=>bif z9 j 1 then l1 else bif z9 j 0 then l' else l') true
   ho o1 (by show _<=vW h l'+vW h1 l1;rw[hv,v1];omega) (by show vW h l'+vW h1 l1<_;rw[hv,v1];omega)
  have v2:vW h2 l2=vW h l'+vW h1 l1:=v2;rw[hv,v1] at v2;have q:z4 (ws i)=i:=rfl;simp only[JA,Pg.pV,Pg.pW,Pg.sW,Pg.zd,Pg.pX,na,j8,wI,ao2 hi t0,aaL (show i<n by omega),bn,q,pj,bC,e1,e2,ao4 (show i<9000000000000000000 by omega)];refine hc (t-1) _ (by omega) ⟨i+1,h2,l2,by omega,o2,v2,?_⟩;simp only[oE,Bool.or_assoc]
theorem aOE (x:Int):C4 (x*1073741824) 30=x:=by
 unfold C4 half;rw[if_neg (by omega:¬(30:Nat)=0),show(2:Int)^(30-1)=536870912 from rfl,show(2:Int)^30=1073741824 from rfl];split<;>omega
theorem JM {x:Int}(h: -1152921504606846976<=x/\x<=1152921504606846976):sat x=x/\dE x=false:=by
 unfold sat dE;have h1:¬x< -1152921504606846976:=by omega
 have h2:¬1152921504606846976<x:=by omega
 simp[h1,h2]
end Go.Proofs.YtldgljclcgaibaaGreat
