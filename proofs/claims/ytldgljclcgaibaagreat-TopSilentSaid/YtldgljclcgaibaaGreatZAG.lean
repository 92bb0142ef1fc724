/-
  Parts of the proof: Q2 PWS PWT PWU PWV
-/
import Derived.Test.YtldgljclcgaibaaGreatZAE
import Derived.Test.YtldgljclcgaibaaGreatZAF
open Nat renaming beq→ww,ble→wd
open Int renaming toNat→ws,ofNat→wl
open Sum renaming inl→wr,inr→wn
open BitVec renaming ofInt→v9,toNat→v4
set_option linter.all false
set_option maxRecDepth 100000
set_option maxHeartbeats 4000000
noncomputable section
namespace Go.Proofs.YtldgljclcgaibaaGreat
open Go.Ab Go.Ab.Pg Go.Ab.Rq
def aqv:=qa (pl arZ nil)
def V7:=qe Et
abbrev aqw:=V7.B
abbrev aqx:=Int->Int->Int->Int->Option aqw
def aqy (g:aqx):Ct:=(67,FC aqv (lf V7) (λb=>g b.1 b.2.1 b.b.1 b.b.2))
def mO:=qs (st (dp (us 1 (cu th (us 1 (c aVF (us 6 (c ae0 (cl ai (us 24 aPs)))))))) λa=>(pl (c xo (cl (so (cl (gs a.1 aIY) nil)) nil)) nil)))
def ZF:=qs (st (pu (us 2 (cu mJ (us 42 nil))) (pu nil nil)))
def auR:=qs (st (pr (us 1 (cu th (us 1 (c aVF (us 6 (c ae0 (c ai (cl ab (us 23 aPs))))))))) (pl (c xo (cl aPJ nil)) nil)))
abbrev xT:=ZF.B⊕((Nat×aHt×Int×Bool)×aHt×NI×NI)
def aia {ρ:Type}(x:xT)(K:AX->St->Option ρ):Option ρ:=(Sum.elim (λd=>K .ret (ZF.em d)) (λd=>K (.ex 0) (auR.em (d.1,d.2.1,d.1.1,d.b)))) x
def Sq (dG:Oa)(cT:ou)(d:mO.B):PL mO xT:=let n5:=d.2.2;let n3:=d.1.1;let n2:=d.1.2;let n4:=n2.1.2;let y0:=n3+1;let n1:=(y0,n2.1,wI (n2.2+1));let y1:=decide (n2.2<4);ae y1 (ae (bg n2.2 4) (ae (n2.2==3) (opt (dG n4.2.2) λaj=>ae (decide (aj>1073741840)) (ret (wn (wr ()))) (opt (cT n4.2.2 n4.2.2) λaC=>ae (wd (y0*16) 140737488355328) (ret (wr (n1,d.2.1,λj=>bif ww j n3 then aC.1 else n5.1 j,λj=>bif ww j n3 then aC.2 else n5.2 j))) no)) (ae (n2.2==2) (opt (dG n4.2.1) λaj=>ae (decide (aj>1073741840)) (ret (wn (wr ()))) (opt (cT n4.2.1 n4.2.1) λaC=>ae (wd (y0*16) 140737488355328) (ret (wr (n1,d.2.1,λj=>bif ww j n3 then aC.1 else n5.1 j,λj=>bif ww j n3 then aC.2 else n5.2 j))) no)) (ae (n2.2==1) (opt (dG n4.1) λaj=>ae (decide (aj>1073741840)) (ret (wn (wr ()))) (opt (cT n4.1 n4.1) λaC=>ae (wd (y0*16) 140737488355328) (ret (wr (n1,d.2.1,λj=>bif ww j n3 then aC.1 else n5.1 j,λj=>bif ww j n3 then aC.2 else n5.2 j))) no)) (opt (dG n2.1.1) λaj=>ae (decide (aj>1073741840)) (ret (wn (wr ()))) (opt (cT n2.1.1 n2.1.1) λaC=>ae (wd (y0*16) 140737488355328) (ret (wr (n1,d.2.1,λj=>bif ww j n3 then aC.1 else n5.1 j,λj=>bif ww j n3 then aC.2 else n5.2 j))) no))))) no) (ret (wn (wn ((n3,n2.1,n2.2,y1),d.2))))
def Sr:=bw (Sq xS fQ) 2000
def abF (yp:si)(uW:Dk)(eB:LT mO xT)(x0:Int)(x1:Int)(x2:Int)(x3:Int):Pg aqw:=ae true (opt (eB ((0,(x0,x1,x2,x3),0),(x0,x1,x2,x3),λx=>0,λx=>0)) λx=>sum x (λd=>ret false) λd=>ae (ww d.1.1 d.1.1) (opt (yp d.1.1 d.2.2.1 d.2.2.2 true) λd=>opt (uW d.1.1 d.1.2 0) λd=>let y0:=wI (d.1-1152921504606846976);ae d.2 (ae (decide (y0>= -4294967296)) (ret (decide (y0<=4294967296))) (ret false)) (ret false)) no) no
def Dp:=λx0 x1 x2 x3=>(abF kF rv Sr x0 x1 x2 x3).val
abbrev P8:=Oa×ou×si×Dk×(LT mO xT)
def abG (p:P8):KK:=⟨[adp p.1,yf p.2.1,Kp p.b.1,PN p.b.2.1],⟨[⟨3,(0::2::rg 4 6 (rg 12 24 [39,40,44])),[(3,[.i .i64,.i .u64])]⟩],[fY 3 0 mO aia p.c],[],[],(some ⟨0,(0::1::rg 3 42 []),[]⟩)⟩,0,67⟩
theorem axN (p:P8):LI (abG p) 3 mO aia (Sq p.1 p.2.1):=λ_ d c K=>by kernel_rfl
theorem aGx (p:P8):D2 (abG p) aqv (lf V7) λb=>abF p.b.1 p.b.2.1 p.c b.1 b.2.1 b.b.1 b.b.2:=λb=>by kernel_rfl
abbrev abH:P8:=(xS,fQ,kF,rv,Sr)
theorem aGy [ax]:SC (aqy Dp):=sc (kS (k:=abG abH) (.c aow (.c Bk (.c QC (.c aa8 (.nil _))))) [3] [] ⟨kL (axN abH),trivial⟩ trivial (aGx abH))
def aqz:=qa (dp (cu aO (c ai (c Hl (cl aO4 nil)))) λa=>(c xi (c (cl (gs a.2.1.1 ot) nil) (cl (cl (gs a.b.1 ot) nil) nil))))
def V8:=qe (res (pr ai (pl (cl atU aCN) nil)))
abbrev aqA:=V8.B
abbrev eY:=Int->Nat->Nat->Bool->NI->NI->Bool->Bool->Option aqA
def nI (g:eY):Ct:=(73,uV 3 [.i .i64] (uV 2 [.i .i64] (FC aqz (lf V8) (λb=>g b.1.1 b.1.2.1.1 b.1.b.1 b.2.1 b.b.1 b.b.2 b.1.2.1.2 b.1.b.2))))
def vA:=qs (st (dp (cu aO (c ai (c Hl (c aO4 (us 5 (cu (app 3 2) aVb)))))) λa=>(pl (c cD (c (so (cl (gs a.2.1.1 ot) nil)) (c (so (cl (gs a.b.1.1 ot) nil)) aaF))) cN)))
def aBw:=qs (st (pr (cu aO (c ai (c Hl (c aO4 (us 5 (cu (app 3 2) aVg)))))) (pl (c cD (c IM (c IM aaF))) cN)))
abbrev Ip:=(aUw×Bool×NI×NI×Int×Int)
def aib {ρ:Type}(x:Ip)(K:AX->St->Option ρ):Option ρ:=(λd=>K (.ex 0) (aBw.em (d.1,d.2.1,(d.1.2.1.1,d.b.1),(d.1.b.1.1,d.b.2.1),d.c))) x
def Iq (aw:bM)(cT:ou)(yp:si)(d:vA.B):PL vA Ip:=let y0:=ws d.1.2.2.2.2;let y1:=decide (d.1.2.2.2.2<d.1.2.2.2.1);ae y1 (ae (bg d.1.2.2.2.2 d.1.2.1.1) (opt (aw (d.2.2.1 y0) d.2.1) λaj=>ae (bg d.1.2.2.2.2 d.1.2.2.1.1) (opt (aw (d.2.2.2.1 y0) aj.2) λaC=>opt (cT aj.1 aC.1) λbx=>opt (yp 2 (λj=>bif ww j 1 then bx.1 else bif ww j 0 then d.2.2.2.2.1 else d.2.2.2.2.1) (λj=>bif ww j 1 then bx.2 else bif ww j 0 then d.2.2.2.2.2 else d.2.2.2.2.2) true) λcH=>ret (wr ((d.1.1,d.1.2.1,d.1.2.2.1,d.1.2.2.2.1,wI (d.1.2.2.2.2+1)),aC.2,d.2.2.1,d.2.2.2.1,cH.1))) no) no) (ret (wn ((d.1.1,d.1.2.1,d.1.2.2.1,d.1.2.2.2.1,d.1.2.2.2.2,y1),d.2)))
def Ss:=bw (Iq aS fQ kF) 2000
def abI (ji:xQ)(eB:LT vA Ip)(x0:Int)(x1:Nat)(x2:Nat)(x3:Bool)(x4:Nat->Int)(x5:Nat->Int)(w0:Bool)(w1:Bool):Pg aqA:=let y0:=if wl x2<wl x1 then wl x2 else wl x1;ae (decide (x0<0)) (opt (ji 0 0 x0 x3) λd=>ret d) (ae (decide (x0>120)) (opt (ji 0 0 x0 x3) λd=>ret d) (ae (ww x1 x1) (ae (ww x2 x2) (opt (eB ((x0,(x1,w0),(x2,w1),if 100<y0 then 100 else y0,0),x3,x4,x5,0,0)) λd=>opt (ji d.2.2.2.2.1 d.2.2.2.2.2 d.1.1 d.2.1) λd=>ret d) no) no))
def bC:=λx0 x1 x2 x3 x4 x5 w0 w1=>(abI nT Ss x0 x1 x2 x3 x4 x5 w0 w1).val
abbrev P9:=xQ×bM×ou×si×(LT vA Ip)
def abJ (p:P9):KK:=⟨[Ie p.1,dD p.2.1,yf p.b.1,Kp p.b.2.1],⟨[⟨5,(rg 4 5 (rg 10 15 (rg 27 26 []))),[]⟩],[fY 5 3 vA aib p.c],[0],[],(some ⟨0,(rg 0 8 (rg 9 44 [])),[]⟩)⟩,3,73⟩
theorem axO (p:P9):LI (abJ p) 5 vA aib (Iq p.2.1 p.b.1 p.b.2.1):=λ_ d c K=>by kernel_rfl
theorem aGz (p:P9):D2 (abJ p) aqz (lf V8) λb=>abI p.1 p.c b.1.1 b.1.2.1.1 b.1.b.1 b.2.1 b.b.1 b.b.2 b.1.2.1.2 b.1.b.2:=λb=>by kernel_rfl
abbrev abK:P9:=(nT,aS,fQ,kF,Ss)
theorem pe [ax]:SC (nI bC):=sc (Sound.nil 3 [.i .i64]<|Sound.nil 2 [.i .i64]<|kS (k:=abJ abK) (.c Sf (.c dI (.c Bk (.c QC (.nil _))))) [5] [] ⟨kL (axO abK),trivial⟩ trivial (aGz abK))
def azO:=qa (pr (c ai (c ai (c ai (cl ai (cu aO (cu apy nil)))))) (cu aPh (c aeZ bB)))
def agd:=qe aVx
abbrev azP:=agd.B
abbrev aly:=Int->Int->Int->Int->Int->Int->Int->Int->Bool->Option azP
def azQ (g:aly):Ct:=(196,FC azO (lf agd) (λb=>g b.1.1 b.1.2.1 b.1.b.1 b.1.b.2 b.2.1.1 b.2.1.2.1 b.2.1.b.1 b.2.1.b.2 b.b))
def alz (bd:eY)(x0:Int)(x1:Int)(x2:Int)(x3:Int)(x4:Int)(x5:Int)(x6:Int)(x7:Int)(x8:Bool):Pg azP:=let y0:=wI (x0*x4);opt (bd 30 4 4 x8 (cr x4 [x7,x6,x5,x4]) (cr y0 [wI (x3*x7),wI (x2*x6),wI (x1*x5),y0]) false true) λd=>ret d
def QJ:=λx0 x1 x2 x3 x4 x5 x6 x7 x8=>(alz bC x0 x1 x2 x3 x4 x5 x6 x7 x8).val
theorem aNG:∀bd,D0 [nI bd] 196 azO (lf agd) λb=>alz bd b.1.1 b.1.2.1 b.1.b.1 b.1.b.2 b.2.1.1 b.2.1.2.1 b.2.1.b.1 b.2.1.b.2 b.b:=λ_ b=>by kernel_rfl
theorem aNH [ax]:SC (azQ QJ):=s0 (.c pe (.nil _)) (aNG bC)
def azR:=qa (pr (c ai (c ai aI6)) (cu arS bB))
def age:=qe aPF
abbrev azS:=age.B
abbrev alA:=Int->Int->Int->Int->Bool->Option azS
def azT (g:alA):Ct:=(197,FC azR (lf age) (λb=>g b.1.1 b.1.2.1 b.1.b.1 b.1.b.2 b.2))
def alB (bd:eY)(x0:Int)(x1:Int)(x2:Int)(x3:Int)(x4:Bool):Pg azS:=opt (bd 30 4 4 x4 (cr x0 [x2,x2,x0,x0]) (cr x1 [x3,x3,x1,x1]) true true) λd=>ret d
def QK:=λx0 x1 x2 x3 x4=>(alB bC x0 x1 x2 x3 x4).val
theorem aNI:∀bd,D0 [nI bd] 197 azR (lf age) λb=>alB bd b.1.1 b.1.2.1 b.1.b.1 b.1.b.2 b.2:=λ_ b=>by kernel_rfl
theorem aNJ [ax]:SC (azT QK):=s0 (.c pe (.nil _)) (aNI bC)
def ZG:=qa (pr (c ai (c ai (cl ai (cu ayU nil)))) (cl arU nil))
def I5:=qe aVB
abbrev ZH:=I5.B
abbrev ZI:=Int->Int->Int->NI->Option ZH
def ZJ (g:ZI):Ct:=(115,FC ZG (lf I5) (λb=>g b.1.1 b.1.2.1 b.1.b b.2))
def jG:=qs (st (pr (us 1 (c ai (c ai (cu ayU (us 3 (cl ai (us 9 nil))))))) (pl IL cN)))
def aoG:=qs (st (pr (us 1 (c ai (c ai (cu ayU (us 3 (c ai (us 1 (c ai (c ai (cl ab (us 5 nil))))))))))) (pl IL cN)))
abbrev uc:=(aRF×NI)
def TS {ρ:Type}(x:uc)(K:AX->St->Option ρ):Option ρ:=(λd=>K (.ex 0) (aoG.em ((d.1.1,d.1.2.1,d.1.b.1,d.1.b.1,d.1.1,d.1.b.2),d.2))) x
def GK (d:jG.B):PL jG uc:=let n1:=d.1.2;let y0:=ws n1.2;let y1:=decide (n1.2<d.1.1);ae y1 (ae (bg n1.2 24) (ae (true&&wd (0+y0*1+1) 24) (ret (wr ((d.1.1,n1.1,wI (n1.2+1)),λj=>bif ww j y0 then n1.1 else d.2 j))) no) no) (ret (wn ((d.1.1,n1.1,n1.2,y1),d.2)))
def GL:=bw (GK) 2000
def LD (eB:LT jG uc)(x0:Int)(x1:Int)(x2:Int)(x3:Nat->Int):Pg ZH:=opt (eB ((x1,x2,x0),x3)) λd=>ret d.2
def yv:=λx0 x1 x2 x3=>(LD GL x0 x1 x2 x3).val
abbrev DZ:=(LT jG uc)
def LF (p:DZ):KK:=⟨[],⟨[⟨1,(0::4::5::6::rg 8 9 []),[]⟩],[fY 1 1 jG TS p],[0],[],(some ⟨0,(rg 0 17 []),[]⟩)⟩,1,115⟩
theorem alC (p:DZ):LI (LF p) 1 jG TS (GK):=λ_ d c K=>by kernel_rfl
theorem auS (p:DZ):D2 (LF p) ZG (lf I5) λb=>LD p b.1.1 b.1.2.1 b.1.b b.2:=λb=>by kernel_rfl
abbrev LG:DZ:=GL
theorem auT [ax]:SC (ZJ yv):=sc (kS (k:=LF LG) (.nil _) [1] [] ⟨kL (alC LG),trivial⟩ trivial (auS LG))
def aic:=qa (pr (cu aO iL) bB)
def Oe:=qe qA
abbrev aie:=Oe.B
abbrev CQ:=Int->Bool->Option aie
def Su (g:CQ):Ct:=(88,FC aic (lf Oe) (λb=>g b.1 b.2))
def Sv (aE:bY)(x0:Int)(x1:Bool):Pg aie:=opt (aE x0 1 72057594037927936 x1) λd=>ret d
def tI:=λx0 x1=>(Sv bh x0 x1).val
theorem aBx:∀aE,D0 [ek aE] 88 aic (lf Oe) λb=>Sv aE b.1 b.2:=λ_ b=>by kernel_rfl
theorem aif [ax]:SC (Su tI):=s0 (.c eU (.nil _)) (aBx bh)
def adt:=qa (pr (cu aO (cl Bz nil)) bB)
def LH:=qe aPS
abbrev adu:=LH.B
abbrev vC:=NI->NI->Bool->Option adu
def FP (g:vC):Ct:=(69,FC adt (lf LH) (λb=>g b.1.1 b.1.2 b.2))
def kG:=qs (st (pr (cu aO (us 2 (cu Gh (cu Y4 (us 2 aPf))))) (pl (c cD awY) cN)))
def V9:=qs (st (pr (cu aO (us 2 (cu Gh (cu Y4 (us 2 aPl))))) (pl (c cD awY) cN)))
abbrev wb:=V9.B
def Wa {ρ:Type}:=@ef wb ((.ex 0)) V9 ρ
def I6 (Sw:CQ)(d:kG.B):PL kG wb:=let y0:=ws d.1;let y1:=bg d.1 24;let y2:=decide (d.1<24);ae y2 (ae y1 (opt (Sw (d.2.2.1.2 y0) d.2.1) λaj=>ae y1 (ae (true&&wd (276+y0*1+1) 300) (ret (wr (wI (d.1+1),aj.2,(d.2.2.1.1,λj=>bif ww j y0 then aj.1 else d.2.2.1.2 j),d.2.2.2))) no) no) no) (ret (wn ((d.1,y2),d.2)))
def I7:=bw (I6 tI) 2000
def kH:=qs (st (pr (cu aO (us 2 (cu Gh (cu Y4 (us 15 aIS))))) (pl (c cD awY) cN)))
def Wb:=qs (st (pr (cu aO (us 2 (cu Gh (cu Y4 (us 15 aIZ))))) (pl (c cD awY) cN)))
abbrev wc:=Wb.B
def Wc {ρ:Type}:=@ef wc ((.ex 2)) Wb ρ
def I8 (aE:bY)(d:kH.B):PL kH wc:=let y0:=ws d.1;let y1:=bg d.1 276;let y2:=decide (d.1<276);let y3:=0+y0*1+1;let y4:=wd y3 276;ae y2 (ae y1 (ae y4 (opt (aE (d.2.2.1.1 y0) (-1152921504606846976) 1152921504606846976 d.2.1) λaj=>ae y1 (ae (y4&&wd y3 300) (ret (wr (wI (d.1+1),aj.2,(λj=>bif ww j y0 then aj.1 else d.2.2.1.1 j,d.2.2.1.2),d.2.2.2))) no) no) no) no) (ret (wn ((d.1,y2),d.2)))
def I9:=bw (I8 bh) 2000
def Of (eB:LT kG wb)(qo:LT kH wc)(x0:Nat->Int)(x1:Nat->Int)(x2:Bool):Pg adu:=opt (eB (0,x2,(x0,x1),λx=>0,λx=>0)) λd=>opt (qo (0,d.2)) λd=>ret (d.2.2.1,d.2.1)
def mP:=λx0 x1 x2=>(Of I7 I9 x0 x1 x2).val
abbrev AG:=CQ×bY×(LT kG wb)×(LT kH wc)
def FQ (p:AG):KK:=⟨[Su p.1,ek p.2.1],⟨[⟨2,(1::2::5::6::rg 8 26 []),[]⟩,⟨7,(1::2::rg 5 15 (rg 21 13 [])),[]⟩],[fY 2 1 kG Wa p.b.1,fY 7 1 kH Wc p.b.2],[0],[],(some ⟨0,(rg 0 4 (rg 5 29 [])),[]⟩)⟩,1,69⟩
theorem aoH (p:AG):LI (FQ p) 2 kG Wa (I6 p.1):=λ_ d c K=>by kernel_rfl
theorem aoI (p:AG):LI (FQ p) 7 kH Wc (I8 p.2.1):=λ_ d c K=>by kernel_rfl
theorem axP (p:AG):D2 (FQ p) adt (lf LH) λb=>Of p.b.1 p.b.2 b.1.1 b.1.2 b.2:=λb=>by kernel_rfl
abbrev FR:AG:=(tI,bh,I7,I9)
theorem Og [ax]:SC (FP mP):=sc (kS (k:=FQ FR) (.c aif (.c eU (.nil _))) [2,7] [] ⟨kL (aoH FR),⟨kL (aoI FR),trivial⟩⟩ trivial (axP FR))
def aEG:=qa (dp (cu aO awN) λa=>(c xi (cl (cl (gs a.1 ot) nil) nil)))
def alD:=qe aVX
abbrev aEH:=alD.B
abbrev asD:=Nat->Bool->NI->Bool->Option aEH
def aEI (g:asD):Ct:=(50,uV 1 [.i .i64] (FC aEG (lf alD) (λb=>g b.1.1 b.2.1 b.b b.1.2)))
def uZ:=qs (st (dp (cu aO (c Hl (us 2 (cu Y4 (cu aHx (us 1 aIU)))))) λa=>(pl (c cD (c (so (cl (gs a.1.1 ot) nil)) awY)) cN)))
def aKc:=qs (st (pr (cu aO (c Hl (us 2 (cu Y4 (cu aHx (us 1 aPm)))))) (pl (c cD (c IM awY)) cN)))
abbrev LJ:=(((Nat×Bool)×Int×Bool)×Bool×NI×(NI×NI)×NI×NI)
def auU {ρ:Type}(x:LJ)(K:AX->St->Option ρ):Option ρ:=(λd=>K (.ex 0) (aKc.em (d.1,d.2.1,(d.1.1.1,d.b.1),d.b.2))) x
def agf (Sw:CQ)(d:uZ.B):PL uZ LJ:=let n3:=d.1.1;let n2:=d.1.2;let n1:=d.2.2;let y0:=ws n2;let y1:=bg n2 24;let y2:=decide (n2<24);let y3:=true&&wd (276+y0*1+1) 300;ae y2 (ae y1 (ae y3 (ae (decide (n2<wl n3.1)) (ae (bg n2 n3.1) (opt (Sw (n1.1 y0) d.2.1) λaj=>ae y1 (ae y3 (ret (wr ((n3,wI (n2+1)),aj.2,n1.1,n1.2.1,n1.2.2.1,λj=>let y0:=ww j y0;bif y0 then aj.1 else bif y0 then 1 else n1.2.2.2 j))) no) no) no) (ret (wr ((n3,wI (n2+1)),d.2.1,n1.1,n1.2.1,n1.2.2.1,λj=>bif ww j y0 then 1 else n1.2.2.2 j)))) no) no) (ret (wn ((n3,n2,y2),d.2)))
def agh:=bw (agf tI) 2000
def asE (eB:LT uZ LJ)(x0:Nat)(x1:Bool)(x2:Nat->Int)(w0:Bool):Pg aEH:=ae (ww x0 x0) (opt (eB (((x0,w0),0),x1,x2,(λx=>0,λx=>0),λx=>0,λx=>0)) λd=>ret (d.2.2.2.2,d.2.1)) no
def Wd:=λx0 x1 x2 w0=>(asE agh x0 x1 x2 w0).val
abbrev agi:=CQ×(LT uZ LJ)
def asG (p:agi):KK:=⟨[Su p.1],⟨[⟨3,(2::3::6::rg 8 20 []),[]⟩],[fY 3 2 uZ auU p.2],[0],[],(some ⟨0,(rg 0 4 (rg 5 23 [])),[]⟩)⟩,2,50⟩
theorem aGA (p:agi):LI (asG p) 3 uZ auU (agf p.1):=λ_ d c K=>by kernel_rfl
theorem aQZ (p:agi):D2 (asG p) aEG (lf alD) λb=>asE p.2 b.1.1 b.2.1 b.b b.1.2:=λb=>by kernel_rfl
abbrev asH:agi:=(tI,agh)
theorem aQ0 [ax]:SC (aEI Wd):=sc (Sound.nil 1 [.i .i64]<|kS (k:=asG asH) (.c aif (.nil _)) [3] [] ⟨kL (aGA asH),trivial⟩ trivial (aQZ asH))
def auV:=qa (pl zq nil)
def abL:=qe awT
abbrev agj:=abL.B
abbrev agk:=Int->Int->Option agj
def agl (g:agk):Ct:=(125,FC auV (lf abL) (λb=>g b.1 b.2))
def Uy (x0:Int)(x1:Int):Pg agj:=let y0:=wI (wI (Int.tdiv (wI (x1*wI (x1-1))) 2)+x0);ae (decide (x0>=0)) (ae (decide (x0<x1)) (ret (y0,decide (x1<24))) (ret (y0,false))) (ret (y0,false))
def rB:=λx0 x1=>(Uy x0 x1).val
theorem aKd:D0 [] 125 auV (lf abL) λb=>Uy b.1 b.2:=λb=>by kernel_rfl
theorem auW [ax]:SC (agl rB):=s0 (.nil _) aKd
def aNK:=qa (pl (c Bz zq) nil)
def axQ:=qe Gy
abbrev aNL:=axQ.B
abbrev We:=NI->NI->Int->Int->Option aNL
def auX (g:We):Ct:=(71,FC aNK (lf axQ) (λb=>g b.1.1 b.1.2 b.2.1 b.b))
def aEJ (py:agk)(x0:Nat->Int)(x1:Nat->Int)(x2:Int)(x3:Int):Pg aNL:=ae (x2==x3) (ae (decide (x2>=0)) (ae (decide (x2<24)) (ret 1073741824) (opt (py x2 x3) λd=>ae (!d.2) (ret 0) (ae (bg d.1 276) (ae (wd (0+ws d.1*1+1) 276) (ret (x0 (ws d.1))) no) no))) (opt (py x2 x3) λd=>ae (!d.2) (ret 0) (ae (bg d.1 276) (ae (wd (0+ws d.1*1+1) 276) (ret (x0 (ws d.1))) no) no))) (opt (py x2 x3) λd=>ae (!d.2) (ret 0) (ae (bg d.1 276) (ae (wd (0+ws d.1*1+1) 276) (ret (x0 (ws d.1))) no) no))
def LK:=λx0 x1 x2 x3=>(aEJ rB x0 x1 x2 x3).val
theorem aXH:∀py,D0 [agl py] 71 aNK (lf axQ) λb=>aEJ py b.1.1 b.1.2 b.2.1 b.b:=λ_ b=>by kernel_rfl
theorem aEK [ax]:SC (auX LK):=s0 (.c auW (.nil _)) (aXH rB)
def aEL:=qa (pl (c Bz Eu) nil)
def alE:=qe (res (pl Bz (pu nil nil)))
abbrev aEM:=alE.B
abbrev Wf:=NI->NI->Int->Int->Int->Option aEM
def asJ (g:Wf):Ct:=(217,FC aEL (lf alE) (λb=>g b.1.1 b.1.2 b.2.1 b.b.1 b.b.2))
def asK (py:agk)(x0:Nat->Int)(x1:Nat->Int)(x2:Int)(x3:Int)(x4:Int):Pg aEM:=opt (py x2 x3) λd=>let y0:=0+ws d.1*1+1;ae d.2 (ae (bg d.1 276) (ae (wd y0 276&&wd y0 300) (ret (λj=>bif ww j (ws d.1) then x4 else x0 j,x1)) no) no) (ret (x0,x1))
def I':=λx0 x1 x2 x3 x4=>(asK rB x0 x1 x2 x3 x4).val
theorem aQ1:∀py,D0 [agl py] 217 aEL (lf alE) λb=>asK py b.1.1 b.1.2 b.2.1 b.b.1 b.b.2:=λ_ b=>by kernel_rfl
theorem aEN [ax]:SC (asJ I'):=s0 (.c auW (.nil _)) (aQ1 rB)
def aih:=qa (pu nil nil)
def Oh:=qe (res (pl (aa aCP) (pu nil nil)))
abbrev Ir:=Oh.B
abbrev CR:=Option Ir
def Sx (g:CR):Ct:=(213,FC aih (lf Oh) (λ_=>g))
def mb:=qs (st (pr (cu (app 0 576) (cu Qt (us 1 aPi))) (pl (c mY (cl mY nil)) nil)))
def ZK:=qs (st (pr (cu (app 0 576) (cu Qt (us 1 aI1))) (pl (c mY (cl mY nil)) nil)))
abbrev yw:=ZK.B
def ZL {ρ:Type}:=@ef yw ((.ex 0)) ZK ρ
def LL (d:mb.B):PL mb yw:=let y0:=ws d.1;let y1:=bg d.1 24;let y2:=decide (d.1<24);let y3:=y0*24+y0;ae y2 (ae y1 (ae y1 (ae (true&&wd (0+y3*1+1) 576) (ret (wr (wI (d.1+1),d.2.1,λj=>bif ww j y3 then 1073741824 else d.2.2 j))) no) no) no) (ret (wn ((d.1,y2),d.2)))
def LM:=bw (LL) 2000
def Sy (eB:LT mb yw):Pg Ir:=opt (eB (0,λx=>0,λx=>0)) λd=>ret d.2.2
def tJ:Option Ir:=(Sy LM).val
abbrev Is:=(LT mb yw)
def SA (p:Is):KK:=⟨[],⟨[⟨3,(2::rg 4 8 []),[]⟩],[fY 3 0 mb ZL p],[],[],(some ⟨0,(rg 1 11 []),[]⟩)⟩,0,213⟩
theorem asL (p:Is):LI (SA p) 3 mb ZL (LL):=λ_ d c K=>by kernel_rfl
theorem aBy (p:Is):D2 (SA p) aih (lf Oh) λb=>Sy p:=λb=>by kernel_rfl
abbrev SB:Is:=LM
theorem aii [ax]:SC (Sx tJ):=sc (kS (k:=SA SB) (.nil _) [3] [] ⟨kL (asL SB),trivial⟩ trivial (aBy SB))
def auY:=qa (pr (cu aO (c (aa aaE) GB)) bB)
def abM:=qe awV
abbrev auZ:=abM.B
abbrev FT:=NI->Int->Int->Int->Bool->Option auZ
def LN (g:FT):Ct:=(124,FC auY (lf abM) (λb=>g b.1.1 b.1.2.1 b.1.b.1 b.1.b.2 b.2))
def pP:=qs (st (pr (cu aO (us 3 (cu aHy (cu Y3 (cu aj4 (cu aRH (us 1 aPe))))))) (pl (c cD (c (so aaE) (c zt akk))) cN)))
def alF:=qs (st (pr (cu aO (us 3 (cu aHy (cu Y3 (cu aj4 (cu aRH (us 1 (c ai aPc)))))))) (pl (c cD (c (so aaE) (c zt akk))) cN)))
abbrev EM:=alF.B
def alG {ρ:Type}:=@ef EM ((.ex 0)) alF ρ
def Wg (bd:eY)(d:pP.B):PL pP EM:=let n2:=d.2.2.1;let n1:=d.2.2.2;let y0:=wI (3*d.1);let y1:=wI (d.1+1);let y2:=ws y0;let y3:=wI (y0+3);let y4:=ws y3;let y5:=decide (d.1<3);let y6:=y4-y2;ae y5 (ae (Kg y3 9) (ae (Kg y0 y4) (ae (ww y6 y6) (opt (bd 30 y6 3 d.2.1 (λj=>n2 (y2+j)) (cr n1.1.1 [n1.1.2.2,n1.1.2.1,n1.1.1]) false false) λaj=>ae (bg d.1 3) (ae (d.1==2) (ret (wr (y1,aj.2,n2,n1.1,n1.2.1,n1.2.2.1,aj.1))) (ae (d.1==1) (ret (wr (y1,aj.2,n2,n1.1,n1.2.1,aj.1,n1.2.2.2))) (ret (wr (y1,aj.2,n2,n1.1,aj.1,n1.2.2))))) no) no) no) no) (ret (wn ((d.1,y5),d.2)))
def Wh:=bw (Wg bC) 2000
def agm (eB:LT pP EM)(x0:Nat->Int)(x1:Int)(x2:Int)(x3:Int)(x4:Bool):Pg auZ:=opt (eB (0,x4,x0,(x1,x2,x3),0,0,0)) λd=>ret (d.2.2.2.2,d.2.1)
def nU:=λx0 x1 x2 x3 x4=>(agm Wh x0 x1 x2 x3 x4).val
abbrev Uz:=eY×(LT pP EM)
def agn (p:Uz):KK:=⟨[nI p.1],⟨[⟨3,(1::2::3::8::rg 10 15 []),[]⟩],[fY 3 1 pP alG p.2],[0],[],(some ⟨0,(rg 0 6 (rg 7 18 [])),[]⟩)⟩,1,124⟩
theorem aBz (p:Uz):LI (agn p) 3 pP alG (Wg p.1):=λ_ d c K=>by kernel_rfl
theorem aKe (p:Uz):D2 (agn p) auY (lf abM) λb=>agm p.2 b.1.1 b.1.2.1 b.1.b.1 b.1.b.2 b.2:=λb=>by kernel_rfl
abbrev ago:Uz:=(bC,Wh)
theorem UA [ax]:SC (LN nU):=sc (kS (k:=agn ago) (.c pe (.nil _)) [3] [] ⟨kL (aBz ago),trivial⟩ trivial (aKe ago))
def azU:=qa (pr (cu aO (c (aa aaE) GB)) bB)
def agp:=qe awV
abbrev azV:=agp.B
abbrev EN:=NI->Int->Int->Int->Bool->Option azV
def ZM (g:EN):Ct:=(121,FC azU (lf agp) (λb=>g b.1.1 b.1.2.1 b.1.b.1 b.1.b.2 b.2))
def sr:=qs (st (pr (cu aO (us 3 (cu aHy (cu Y3 (cu aj4 (cu aRH (us 1 aUG))))))) (pl (c cD (c (so aaE) (c zt akk))) cN)))
def aqB:=qs (st (pr (cu aO (us 3 (cu aHy (cu Y3 (cu aj4 (cu aRH (us 1 aUV))))))) (pl (c cD (c (so aaE) (c zt akk))) cN)))
abbrev HB:=aqB.B
def aqC {ρ:Type}:=@ef HB ((.ex 0)) aqB ρ
def abN (bd:eY)(d:sr.B):PL sr HB:=let n1:=d.2.2;let n3:=n1.2.2;let n2:=n1.2.1;let y0:=wI (6+d.1);let y1:=wI (d.1+1);let y2:=wI (3+d.1);let y3:=decide (d.1<3);ae y3 (ae (bg d.1 9) (ae (bg y2 9) (ae (bg y0 9) (opt (bd 30 3 3 d.2.1 (cr (n1.1 (ws d.1)) [n1.1 (ws y0),n1.1 (ws y2),n1.1 (ws d.1)]) (cr n2.1 [n2.2.2,n2.2.1,n2.1]) true false) λaj=>ae (bg d.1 3) (ae (d.1==2) (ret (wr (y1,aj.2,n1.1,n2,n3.1,n3.2.1,aj.1))) (ae (d.1==1) (ret (wr (y1,aj.2,n1.1,n2,n3.1,aj.1,n3.2.2))) (ret (wr (y1,aj.2,n1.1,n2,aj.1,n3.2))))) no) no) no) no) (ret (wn ((d.1,y3),d.2)))
def abO:=bw (abN bC) 2000
def alH (eB:LT sr HB)(x0:Nat->Int)(x1:Int)(x2:Int)(x3:Int)(x4:Bool):Pg azV:=opt (eB (0,x4,x0,(x1,x2,x3),0,0,0)) λd=>ret (d.2.2.2.2,d.2.1)
def yx:=λx0 x1 x2 x3 x4=>(alH abO x0 x1 x2 x3 x4).val
abbrev ZN:=eY×(LT sr HB)
def alI (p:ZN):KK:=⟨[nI p.1],⟨[⟨3,(1::2::3::8::rg 10 21 []),[]⟩],[fY 3 1 sr aqC p.2],[0],[],(some ⟨0,(rg 0 6 (rg 7 24 [])),[]⟩)⟩,1,121⟩
theorem aEO (p:ZN):LI (alI p) 3 sr aqC (abN p.1):=λ_ d c K=>by kernel_rfl
theorem aNM (p:ZN):D2 (alI p) azU (lf agp) λb=>alH p.2 b.1.1 b.1.2.1 b.1.b.1 b.1.b.2 b.2:=λb=>by kernel_rfl
abbrev alJ:ZN:=(bC,abO)
theorem alK [ax]:SC (ZM yx):=sc (kS (k:=alI alJ) (.c pe (.nil _)) [3] [] ⟨kL (aEO alJ),trivial⟩ trivial (aNM alJ))
def au0:=qa (pl (cl (aa Ev) nil) nil)
def abP:=qe Et
abbrev au1:=abP.B
abbrev au2:=Int->Int->Bool->Bool->Option au1
def au3 (g:au2):Ct:=(176,FC au0 (lf abP) (λb=>g b.1 b.2.1 b.b.1 b.b.2))
def agq (x0:Int)(x1:Int)(x2:Bool)(x3:Bool):Pg au1:=let y0:=x0==0;let y1:=x0==2;ae y0 (ae y0 (ae (x1==0) (ae (!x2) (ret !x3) (ret false)) (ret false)) (ae y1 (ae y1 (ae (decide (x1>=1)) (ae (decide (x1<=3)) (ae x2 (ret true) (ret y1)) (ret false)) (ret false)) (ret false)) (ae (x0==3) (ae (decide (x1>=1)) (ae (decide (x1<=3)) (ae x2 (ret true) (ret y1)) (ret false)) (ret false)) (ret false)))) (ae (x0==1) (ae (x1==0) (ae (!x2) (ret !x3) (ret false)) (ret false)) (ae y1 (ae y1 (ae (decide (x1>=1)) (ae (decide (x1<=3)) (ae x2 (ret true) (ret y1)) (ret false)) (ret false)) (ret false)) (ae (x0==3) (ae (decide (x1>=1)) (ae (decide (x1<=3)) (ae x2 (ret true) (ret y1)) (ret false)) (ret false)) (ret false))))
def LO:=λx0 x1 x2 x3=>(agq x0 x1 x2 x3).val
theorem aKf:D0 [] 176 au0 (lf abP) λb=>agq b.1 b.2.1 b.b.1 b.b.2:=λb=>by kernel_rfl
theorem aKg [ax]:SC (au3 LO):=s0 (.nil _) aKf
def au4:=qa (pl (c ai aPY) nil)
def abQ:=qe Gy
abbrev agr:=abQ.B
abbrev au5:=Int->Bool->Bool->Bool->Bool->Bool->Bool->Bool->Bool->Int->Int->Int->Option agr
def au6 (g:au5):Ct:=(177,FC au4 (lf abQ) (λb=>g b.1 b.2.1 b.b.1 b.b.2.1.1 b.b.2.1.2.1 b.b.2.1.b.1 b.b.2.1.b.2.1 b.b.2.1.c.1 b.b.2.1.c.2 b.c.1 b.c.2.1 b.c.b))
def UB (x0:Int)(x1:Bool)(x2:Bool)(x3:Bool)(x4:Bool)(x5:Bool)(x6:Bool)(x7:Bool)(x8:Bool)(x9:Int)(fS:Int)(fR:Int):Pg agr:=let y0:=x0==0;let y1:=x0==1;ae x3 (ae y0 (ae x1 (ret 1) (ae y0 (ret x0) (ae y1 (ae (!x2) (ret x0) (ret 3)) (ret 3)))) (ae y0 (ret x0) (ae y1 (ae (!x2) (ret x0) (ret 3)) (ret 3)))) (ae y0 (ae x1 (ret 1) (ae y0 (ret x0) (ae y1 (ae (!x2) (ret x0) (ae x8 (ret 3) (ret 2))) (ae x8 (ret 3) (ret 2))))) (ae y0 (ret x0) (ae y1 (ae (!x2) (ret x0) (ae x8 (ret 3) (ret 2))) (ae x8 (ret 3) (ret 2)))))
def BN:=λx0 x1 x2 x3 x4 x5 x6 x7 x8 x9 fS fR=>(UB x0 x1 x2 x3 x4 x5 x6 x7 x8 x9 fS fR).val
theorem aKh:D0 [] 177 au4 (lf abQ) λb=>UB b.1 b.2.1 b.b.1 b.b.2.1.1 b.b.2.1.2.1 b.b.2.1.b.1 b.b.2.1.b.2.1 b.b.2.1.c.1 b.b.2.1.c.2 b.c.1 b.c.2.1 b.c.b:=λb=>by kernel_rfl
theorem aKi [ax]:SC (au6 BN):=s0 (.nil _) aKh
def alL:=qa (pl iL nil)
def SD:=qe Gy
abbrev alM:=SD.B
abbrev Wi:=Int->Option alM
def alN (g:Wi):Ct:=(239,FC alL (lf SD) (λb=>g b))
def EO (x0:Int):Pg alM:=ae (x0==1) (ret 1) (ae (x0==2) (ret 0) (ret 2))
def AH:=λx0=>(EO x0).val
theorem aEP:D0 [] 239 alL (lf SD) λb=>EO b:=λb=>by kernel_rfl
theorem aEQ [ax]:SC (alN AH):=s0 (.nil _) aEP
def alO:=qa (pl (c ai aPY) nil)
def SE:=qe awT
abbrev Wj:=SE.B
abbrev alP:=Int->Bool->Bool->Bool->Bool->Bool->Bool->Bool->Bool->Int->Int->Int->Option Wj
def alQ (g:alP):Ct:=(178,FC alO (lf SE) (λb=>g b.1 b.2.1 b.b.1 b.b.2.1.1 b.b.2.1.2.1 b.b.2.1.b.1 b.b.2.1.b.2.1 b.b.2.1.c.1 b.b.2.1.c.2 b.c.1 b.c.2.1 b.c.b))
def lz:=qs (st (pr (c ai (us 1 (xs 1 (cu (app 0 11) (us 2 (xs 1 (us 3 (cu aVP (cu (ac aPj) aIU))))))))) (pl (c aPR (cl (so (cl gi (cu (gc awM) (cu aPn aPt)))) nil)) nil)))
def Wk:=qs (st (pl (us 4 (cl ai (cu Gz aUy))) (pu nil nil)))
def Wl:=qs (st (pr (c ai (us 1 (xs 1 (cu (app 0 11) (us 2 (xs 1 (us 3 (cu aVP (cu (ac aPj) aPm))))))))) (pl (c aPR (cl (so (cl gi (cu (gc awM) (cu aPn aPt)))) nil)) nil)))
abbrev vD:=Wk.B⊕Wl.B
def adv {ρ:Type}(x:vD)(K:AX->St->Option ρ):Option ρ:=(Sum.elim (λd=>K .ret (Wk.em d)) (λd=>K (.ex 0) (Wl.em d))) x
def FU (LP:Wi)(d:lz.B):PL lz vD:=let n6:=d.2.2;let n5:=d.2.1.2.2;let n3:=d.1.1;let n2:=d.1.2;let n1:=n5.2;let n4:=n1.2.2;let n7:=n4.2.2.1;let y0:=decide (n2<4);ae y0 (ae (bg n2 4) (ae (n2==3) (opt (LP 3) λaj=>ae (bg aj 6) (ae (aj==5) (ae n7 (ret (wn (wr 3))) (ret (wr ((n3,wI (n2+1)),d.2)))) (ae (aj==4) (ae n4.2.1 (ret (wn (wr 3))) (ret (wr ((n3,wI (n2+1)),d.2)))) (ae (aj==3) (ae n4.1 (ret (wn (wr 3))) (ret (wr ((n3,wI (n2+1)),d.2)))) (ae (aj==2) (ae n1.2.1 (ret (wn (wr 3))) (ret (wr ((n3,wI (n2+1)),d.2)))) (ae (aj==1) (ae n1.1 (ret (wn (wr 3))) (ret (wr ((n3,wI (n2+1)),d.2)))) (ae n5.1 (ret (wn (wr 3))) (ret (wr ((n3,wI (n2+1)),d.2))))))))) no) (ae (n2==2) (opt (LP 2) λaj=>ae (bg aj 6) (ae (aj==5) (ae n7 (ret (wn (wr 2))) (ret (wr ((n3,wI (n2+1)),d.2)))) (ae (aj==4) (ae n4.2.1 (ret (wn (wr 2))) (ret (wr ((n3,wI (n2+1)),d.2)))) (ae (aj==3) (ae n4.1 (ret (wn (wr 2))) (ret (wr ((n3,wI (n2+1)),d.2)))) (ae (aj==2) (ae n1.2.1 (ret (wn (wr 2))) (ret (wr ((n3,wI (n2+1)),d.2)))) (ae (aj==1) (ae n1.1 (ret (wn (wr 2))) (ret (wr ((n3,wI (n2+1)),d.2)))) (ae n5.1 (ret (wn (wr 2))) (ret (wr ((n3,wI (n2+1)),d.2))))))))) no) (ae (n2==1) (opt (LP 1) λaj=>ae (bg aj 6) (ae (aj==5) (ae n7 (ret (wn (wr 1))) (ret (wr ((n3,wI (n2+1)),d.2)))) (ae (aj==4) (ae n4.2.1 (ret (wn (wr 1))) (ret (wr ((n3,wI (n2+1)),d.2)))) (ae (aj==3) (ae n4.1 (ret (wn (wr 1))) (ret (wr ((n3,wI (n2+1)),d.2)))) (ae (aj==2) (ae n1.2.1 (ret (wn (wr 1))) (ret (wr ((n3,wI (n2+1)),d.2)))) (ae (aj==1) (ae n1.1 (ret (wn (wr 1))) (ret (wr ((n3,wI (n2+1)),d.2)))) (ae n5.1 (ret (wn (wr 1))) (ret (wr ((n3,wI (n2+1)),d.2))))))))) no) (ae (decide (n6>=1)) (ae (decide (n6<=3)) (opt (LP n6) λaj=>ae (bg aj 6) (ae (aj==5) (ae n7 (ret (wn (wr n6))) (ret (wr ((n3,wI (n2+1)),d.2)))) (ae (aj==4) (ae n4.2.1 (ret (wn (wr n6))) (ret (wr ((n3,wI (n2+1)),d.2)))) (ae (aj==3) (ae n4.1 (ret (wn (wr n6))) (ret (wr ((n3,wI (n2+1)),d.2)))) (ae (aj==2) (ae n1.2.1 (ret (wn (wr n6))) (ret (wr ((n3,wI (n2+1)),d.2)))) (ae (aj==1) (ae n1.1 (ret (wn (wr n6))) (ret (wr ((n3,wI (n2+1)),d.2)))) (ae n5.1 (ret (wn (wr n6))) (ret (wr ((n3,wI (n2+1)),d.2))))))))) no) (ret (wr ((n3,wI (n2+1)),d.2)))) (ret (wr ((n3,wI (n2+1)),d.2))))))) no) (ret (wn (wn ((n3,n2,y0),d.2))))
def Oi:=bw (FU AH) 2000
def LQ (eB:LT lz vD)(x0:Int)(x1:Bool)(x2:Bool)(x3:Bool)(x4:Bool)(x5:Bool)(x6:Bool)(x7:Bool)(x8:Bool)(x9:Int)(fS:Int)(fR:Int):Pg Wj:=opt (eB ((x0,0),(x1,x2,x3,x4,x5,x6,x7,x8,x9,fS,fR),fR)) λx=>sum x (λd=>ret (d,true)) λd=>ret (if 1>d.1.1 then 1 else d.1.1,false)
def we:=λx0 x1 x2 x3 x4 x5 x6 x7 x8 x9 fS fR=>(LQ Oi x0 x1 x2 x3 x4 x5 x6 x7 x8 x9 fS fR).val
abbrev LR:=Wi×(LT lz vD)
def Wm (p:LR):KK:=⟨[alN p.1],⟨[⟨2,(1::4::5::7::8::9::rg 13 6 (21::22::rg 28 5 (19::20::rg 23 5 []))),[]⟩],[fY 2 0 lz adv p.2],[],[],(some ⟨0,(rg 0 4 (rg 6 27 [])),[]⟩)⟩,0,178⟩
theorem au7 (p:LR):LI (Wm p) 2 lz adv (FU p.1):=λ_ d c K=>by kernel_rfl
theorem aER (p:LR):D2 (Wm p) alO (lf SE) λb=>LQ p.2 b.1 b.2.1 b.b.1 b.b.2.1.1 b.b.2.1.2.1 b.b.2.1.b.1 b.b.2.1.b.2.1 b.b.2.1.c.1 b.b.2.1.c.2 b.c.1 b.c.2.1 b.c.b:=λb=>by kernel_rfl
abbrev Wn:LR:=(AH,Oi)
theorem aES [ax]:SC (alQ we):=sc (kS (k:=Wm Wn) (.c aEQ (.nil _)) [2] [] ⟨kL (au7 Wn),trivial⟩ trivial (aER Wn))
def BO:=qa (pl (c (aa Ev) aPY) nil)
def aGB:=qe (res (pl (rU (c (ra Ev) (cl (ra (c gi (c gi (c gb aI2)))) nil))) (pu nil nil)))
abbrev LS:=(qj×Int×Int)
def au8:LS->T:=λd=>lf aGB (d.1,d.1.1,d.1.2.1,d.1.b.1,d.1.b.2,d.2)
abbrev ags:=BO.B->Option LS
def au9 (g:ags):Ct:=(111,FC BO au8 g)
def UC (UD:au2)(LU:au5)(EP:alP)(x:BO.B):Pg LS:=let n8:=x.2.2.1;let n7:=x.1.1;let n4:=x.1.2.1;let n1:=x.2.2.2;let n9:=n1.1.2.1;let n6:=n1.2.1;let n3:=n1.2.2;let n2:=n1.1.2.2;let n5:=n2.2.2;let y0:=decide (n6>=0);opt (UD n7 n4 x.1.2.2.1 x.1.2.2.2) λd=>ae (!d) (opt (LU 0 x.2.1 n8 n1.1.1 n9 n2.1 n2.2.1 n5.1 n5.2 n6 n3.1 n3.2) λd=>ae (decide (d>=2)) (opt (EP 0 x.2.1 n8 n1.1.1 n9 n2.1 n2.2.1 n5.1 n5.2 n6 n3.1 n3.2) λaj=>ae (d==3) (ret ((d,aj.1,true,!aj.2),0,0)) (ae y0 (ret ((d,aj.1,decide (n6<=n3.1),!aj.2),0,0)) (ret ((d,aj.1,false,!aj.2),0,0)))) (ret ((d,0,false,false),0,0))) (opt (LU n7 x.2.1 n8 n1.1.1 n9 n2.1 n2.2.1 n5.1 n5.2 n6 n3.1 n3.2) λd=>ae (decide (d>=2)) (opt (EP n4 x.2.1 n8 n1.1.1 n9 n2.1 n2.2.1 n5.1 n5.2 n6 n3.1 n3.2) λaj=>ae (d==3) (ret ((d,aj.1,true,!aj.2),n7,n4)) (ae y0 (ret ((d,aj.1,decide (n6<=n3.1),!aj.2),n7,n4)) (ret ((d,aj.1,false,!aj.2),n7,n4)))) (ret ((d,0,false,false),n7,n4)))
def yy:=λx=>(UC LO BN we x).val
theorem aKj:∀UD LU EP,D0 [au3 UD,au6 LU,alQ EP] 111 BO au8 λb=>UC UD LU EP b:=λ_ _ _ b=>by kernel_rfl
theorem aKk [ax]:SC (au9 yy):=s0 (.c aKg (.c aKi (.c aES (.nil _)))) (aKj LO BN we)
def aET:=qa (dp (cu aO aIX) λa=>(c xi (cl (cl (gs a.1 arV) nil) nil)))
def alR:=qe (res (pr aeX (pl ND nil)))
abbrev aEU:=alR.B
abbrev BP:=Nat->Bool->NI->NI->NI->Bool->Option aEU
def Ja (g:BP):Ct:=(153,uV 1 [.i .i64,.i .i64,.i .i64] (FC aET (lf alR) (λb=>g b.1.1 b.2.1 b.b.1 b.b.2.1 b.c b.1.2)))
def vf:=qs (st (dp (cu aO (c arR (us 2 (cu Y3 (cu aj4 (c ai (c aVG (us 2 (c ai (us 2 (c arR (c ai (cl ai (us 17 nil)))))))))))))) λa=>(pl (c cD (c (so (cl (gs a.1.1 arV) nil)) (cu (so ar1) (c zt (cl (so (cl (gs a.b.1 ot) nil)) nil))))) cN)))
def aKl:=qs (st (pr (cu aO (c arR (us 2 (cu Y3 (cu aj4 (c ai (c aVG (us 2 (c ai (us 2 (c arR (c ai (c ai (cl ab (us 16 nil))))))))))))))) (pl (c cD (c aCX (cu (so ar1) (c zt ake)))) cN)))
abbrev LV:=(((Nat×Bool)×Int×Nat×Int×(Nat×Bool)×Int×Int×Bool)×Bool×(NI×NI×NI)×lu×NI)
def ava {ρ:Type}(x:LV)(K:AX->St->Option ρ):Option ρ:=(λd=>K (.ex 2) (aKl.em (d.1,d.2.1,(d.1.1.1,d.b.1),d.b.2.1,d.1.b.1,d.c))) x
def agt (d:vf.B):PL vf LV:=let n5:=d.1.2.1;let n3:=d.2.2;let n2:=d.1.2.2;let n4:=n2.2.2.2;let y0:=n2.1+1;let n1:=(d.1.1,n5,y0,n2.2.1,n2.2.2.1,n4.1,wI (n4.2+1));let y1:=ws n4.2;let y2:=wd (y0*8) 140737488355328;let y3:=decide (n4.2<n4.1);ae y3 (ae (bg n4.2 n2.2.2.1.1) (ae (bg n5 3) (ae (n5==2) (ae y2 (ret (wr (n1,d.2.1,n3.1,n3.2.1,λj=>bif ww j n2.1 then n3.1.2.2 y1 else n3.2.2 j))) no) (ae (n5==1) (ae y2 (ret (wr (n1,d.2.1,n3.1,n3.2.1,λj=>bif ww j n2.1 then n3.1.2.1 y1 else n3.2.2 j))) no) (ae y2 (ret (wr (n1,d.2.1,n3.1,n3.2.1,λj=>bif ww j n2.1 then n3.1.1 y1 else n3.2.2 j))) no))) no) no) (ret (wn ((d.1.1,n5,n2.1,n2.2.1,n2.2.2.1,n4.1,n4.2,y3),d.2)))
def agu:=bw (agt) 2000
def vh:=qs (st (dp (cu aO (c arR (us 2 (cu Y3 (cu aj4 (us 4 aUH)))))) λa=>(pl (c cD (c (so (cl (gs a.1.1 arV) nil)) akk)) cN)))
def aKm:=qs (st (pr (cu aO (c arR (us 2 (cu Y3 (cu aj4 (us 4 (c ai aPd))))))) (pl (c cD (c aCX akk)) cN)))
abbrev LW:=(((Nat×Bool)×Int×Bool)×Bool×(NI×NI×NI)×Int×Int×Int)
def avb {ρ:Type}(x:LW)(K:AX->St->Option ρ):Option ρ:=(λd=>K (.ex 0) (aKm.em (d.1,d.2.1,(d.1.1.1,d.b.1),d.b.2))) x
def agv (ck:fH)(qo:LT vf LV)(d:vh.B):PL vh LW:=let n3:=d.1.1;let y0:=decide (d.1.2<3);ae y0 (ae (ww n3.1 n3.1) (ae true (opt (qo ((n3,d.1.2,0,d.1.2,n3,wl n3.1,0),d.2.1,d.2.2.1,d.2.2.2,λx=>0)) λd=>let n2:=d.2.2;let n4:=n2.2.1;let n1:=d.1.2;ae (ww n1.2.1 n1.2.1) (opt (ck n1.2.1 d.2.1 n2.2.2 true) λaj=>ae (bg n1.1 3) (ae (n1.1==2) (ret (wr ((d.1.1,wI (n1.2.2.1+1)),aj.2,n2.1,n4.1,n4.2.1,aj.1))) (ae (n1.1==1) (ret (wr ((d.1.1,wI (n1.2.2.1+1)),aj.2,n2.1,n4.1,aj.1,n4.2.2))) (ret (wr ((d.1.1,wI (n1.2.2.1+1)),aj.2,n2.1,aj.1,n4.2))))) no) no) no) no) (ret (wn ((n3,d.1.2,y0),d.2)))
def agw:=bw (agv cY agu) 2000
def asM (eB:LT vh LW)(x0:Nat)(x1:Bool)(x2:Nat->Int)(x3:Nat->Int)(x4:Nat->Int)(w0:Bool):Pg aEU:=ae (ww x0 x0) (opt (eB (((x0,w0),0),x1,(x2,x3,x4),0,0,0)) λd=>ret (d.2.2.2,d.2.1)) no
def lp:=λx0 x1 x2 x3 x4 w0=>(asM agw x0 x1 x2 x3 x4 w0).val
abbrev Wo:=fH×(LT vf LV)×(LT vh LW)
def agx (p:Wo):KK:=⟨[pd p.1],⟨[⟨3,(2::3::rg 6 4 (rg 11 22 [])),[]⟩,⟨7,(2::3::8::9::11::12::rg 16 17 []),[(7,[.i .i64])]⟩],[fY 7 2 vf ava p.2.1,fY 3 2 vh avb p.b],[0],[],(some ⟨0,(rg 0 4 (rg 5 28 [])),[]⟩)⟩,2,153⟩
theorem aGC (p:Wo):LI (agx p) 7 vf ava (agt):=λ_ d c K=>by kernel_rfl
theorem aGD (p:Wo):LI (agx p) 3 vh avb (agv p.1 p.2.1):=λ_ d c K=>by kernel_rfl
theorem aQ2 (p:Wo):D2 (agx p) aET (lf alR) λb=>asM p.b b.1.1 b.2.1 b.b.1 b.b.2.1 b.c b.1.2:=λb=>by kernel_rfl
abbrev agy:Wo:=(cY,agu,agw)
theorem Oj [ax]:SC (Ja lp):=sc (Sound.nil 1 [.i .i64,.i .i64,.i .i64]<|kS (k:=agx agy) (.c rz (.nil _)) [3,7] [] ⟨kL (aGD agy),⟨kL (aGC agy),trivial⟩⟩ trivial (aQ2 agy))
def avc:=qa (pr (cu aO arZ) bB)
def abR:=qe awW
abbrev avd:=abR.B
abbrev iY:=Int->Int->Int->Int->Bool->Option avd
def nV (g:iY):Ct:=(86,FC avc (lf abR) (λb=>g b.1.1 b.1.2.1 b.1.b.1 b.1.b.2 b.2))
def pQ:=qs (st (pr (cu aO (us 2 (cu apy (cu ayT (c ai (us 8 (c ai (us 4 aIS)))))))) (pl (c cD (cl xo (cu akj nil))) cN)))
def alS:=qs (st (pr (cu aO (us 2 (cu apy (cu ayT (c ai (us 8 (c ai (us 4 aIZ)))))))) (pl (c cD (cl xo (cu akj nil))) cN)))
abbrev ER:=alS.B
def alT {ρ:Type}:=@ef ER ((.ex 2)) alS ρ
def Wp (aD:cK)(d:pQ.B):PL pQ ER:=let n6:=d.1.1;let n4:=d.1.2.2;let n2:=d.2.2;let n5:=n2.2.1;let n3:=n2.2.2;let n1:=(n6,d.1.2.1,wI (n4+1));let y0:=bg n4 4;let y1:=n4==2;let y2:=n4==1;let y3:=n4==3;let y4:=decide (n4<4);ae y4 (ae y0 (ae y3 (opt (aD n3.2 n6 30 d.2.1) λaj=>ae y0 (ae y3 (ret (wr (n1,aj.2,n2.1,n5,n3.1,aj.1))) (ae y1 (ret (wr (n1,aj.2,n2.1,n5,aj.1,n3.2))) (ae y2 (ret (wr (n1,aj.2,n2.1,aj.1,n3))) (ret (wr (n1,aj.2,aj.1,n2.2)))))) no) (ae y1 (opt (aD n3.1 n6 30 d.2.1) λaj=>ae y0 (ae y3 (ret (wr (n1,aj.2,n2.1,n5,n3.1,aj.1))) (ae y1 (ret (wr (n1,aj.2,n2.1,n5,aj.1,n3.2))) (ae y2 (ret (wr (n1,aj.2,n2.1,aj.1,n3))) (ret (wr (n1,aj.2,aj.1,n2.2)))))) no) (ae y2 (opt (aD n5 n6 30 d.2.1) λaj=>ae y0 (ae y3 (ret (wr (n1,aj.2,n2.1,n5,n3.1,aj.1))) (ae y1 (ret (wr (n1,aj.2,n2.1,n5,aj.1,n3.2))) (ae y2 (ret (wr (n1,aj.2,n2.1,aj.1,n3))) (ret (wr (n1,aj.2,aj.1,n2.2)))))) no) (opt (aD n2.1 n6 30 d.2.1) λaj=>ae y0 (ae y3 (ret (wr (n1,aj.2,n2.1,n5,n3.1,aj.1))) (ae y1 (ret (wr (n1,aj.2,n2.1,n5,aj.1,n3.2))) (ae y2 (ret (wr (n1,aj.2,n2.1,aj.1,n3))) (ret (wr (n1,aj.2,aj.1,n2.2)))))) no)))) no) (ret (wn ((n6,d.1.2.1,n4,y4),d.2)))
def Wq:=bw (Wp bo) 2000
def pR:=qs (st (pr (cu aO (us 2 (cu apy (cu ayT (us 9 aPg))))) (pl (c cD (cl xo (cu akj nil))) cN)))
def alU:=qs (st (pr (cu aO (us 2 (cu apy (cu ayT (us 9 aI0))))) (pl (c cD (cl xo (cu akj nil))) cN)))
abbrev ES:=alU.B
def alV {ρ:Type}:=@ef ES ((.ex 0)) alU ρ
def Wr (kv:zA)(qo:LT pQ ER)(d:pR.B):PL pR ES:=let n1:=d.2.2;let y0:=decide (d.1<2);ae y0 (opt (kv 4 d.2.1 (cr n1.1 [n1.2.2.2,n1.2.2.1,n1.2.1,n1.1]) false) λaj=>opt (qo ((aj.1,d.1,0),aj.2,n1)) λd=>ret (wr (wI (d.1.2.1+1),d.2))) (ret (wn ((d.1,y0),d.2)))
def Ws:=bw (Wr gP Wq) 2000
def agz (pO:QH)(iQ:Bn)(eB:LT pR ES)(x0:Int)(x1:Int)(x2:Int)(x3:Int)(x4:Bool):Pg avd:=opt (pO x0 x1 x2 x3 x4) λd=>ae (d.1.1==0&&(d.1.2.1==0&&(d.1.2.2.1==0&&(d.1.2.2.2==0&&true)))) (opt iQ λaj=>ret ((1073741824,0,0,0),d.2)) (opt (eB (0,d.2,d.1)) λd=>ret (d.2.2,d.2.1))
def dy:=λx0 x1 x2 x3 x4=>(agz yu oy Ws x0 x1 x2 x3 x4).val
abbrev LX:=QH×Bn×zA×cK×(LT pQ ER)×(LT pR ES)
def UE (p:LX):KK:=⟨[ZD p.1,Ks p.2.1,Hy p.b.1,gO p.b.2.1],⟨[⟨5,(1::2::rg 5 9 (rg 15 18 [])),[]⟩,⟨8,(1::2::rg 6 8 (rg 15 4 (rg 20 13 []))),[]⟩],[fY 8 1 pQ alT p.c.1,fY 5 1 pR alV p.c.2],[],[],(some ⟨0,(rg 0 4 (rg 5 28 [])),[]⟩)⟩,1,86⟩
theorem aBA (p:LX):LI (UE p) 8 pQ alT (Wp p.b.2.1):=λ_ d c K=>by kernel_rfl
theorem aBB (p:LX):LI (UE p) 5 pR alV (Wr p.b.1 p.c.1):=λ_ d c K=>by kernel_rfl
theorem aKn (p:LX):D2 (UE p) avc (lf abR) λb=>agz p.1 p.2.1 p.c.2 b.1.1 b.1.2.1 b.1.b.1 b.1.b.2 b.2:=λb=>by kernel_rfl
abbrev UF:LX:=(yu,oy,gP,bo,Wq,Ws)
theorem pz [ax]:SC (nV dy):=sc (kS (k:=UE UF) (.c alv (.c QI (.c P5 (.c iF (.nil _))))) [5,8] [] ⟨kL (aBB UF),⟨kL (aBA UF),trivial⟩⟩ trivial (aKn UF))
def adw:=qa (pr (cu aO (cl Bz (cu Qt nil))) (c xi (cl aCP nil)))
def LY:=qe (res (pu aUz (pr ND (cl aUW nil))))
abbrev adx:=LY.B
abbrev Ol:=NI->NI->Bool->NI->Option adx
def ady (g:Ol):Ct:=(216,FC adw (lf LY) (λb=>g b.1.1 b.1.2 b.2.1 b.b))
def kI:=qs (st (pr (cu aO (us 1 (cu Qt (us 1 (cu Y4 (us 2 (cu Y5 (c ai (cu apz (us 3 (c ai (us 3 (c ai (cl ai (us 35 nil))))))))))))))) (pl (c cD (c mY (c jk (c GA IL)))) cN)))
def Wt:=qs (st (pr (cu aO (us 1 (cu Qt (us 1 (cu Y4 (us 2 (cu Y5 (c ai (cu apz (us 3 (c ai (us 3 (c ai (c ai (cl ab (us 34 nil)))))))))))))))) (pl (c cD (c mY (c jk (c GA IL)))) cN)))
abbrev wg:=Wt.B
def Wu {ρ:Type}:=@ef wg ((.ex 2)) Wt ρ
def Jb (alW:We)(d:kI.B):PL kI wg:=let n2:=d.2.2.2;let n1:=d.1.2.2;let y0:=ws n1.2;let y1:=decide (n1.2<n1.1);ae y1 (opt (alW n2.1.1 n2.1.2 n1.2 d.1.1) λaj=>ae (bg n1.2 24) (ae (true&&wd (0+y0*1+1) 24) (ret (wr ((d.1.1,d.1.2.1,n1.1,wI (n1.2+1)),d.2.1,d.2.2.1,n2.1,n2.2.1,λj=>bif ww j y0 then aj else n2.2.2 j))) no) no) (ret (wn ((d.1.1,d.1.2.1,n1.1,n1.2,y1),d.2)))
def Jc:=bw (Jb LK) 2000
def kK:=qs (st (pr (cu aO (us 1 (cu Qt (us 1 (cu Y4 (us 2 (cu Y5 (c ai (cu apz (us 3 (c ai (us 14 (cl ai (us 25 nil)))))))))))))) (pl (c cD (c mY (c jk (c GA IL)))) cN)))
def Wv:=qs (st (pr (cu aO (us 1 (cu Qt (us 1 (cu Y4 (us 2 (cu Y5 (c ai (cu apz (us 3 (c ai (us 14 (c ai (cl ab (us 24 nil))))))))))))))) (pl (c cD (c mY (c jk (c GA IL)))) cN)))
abbrev wh:=Wv.B
def Ww {ρ:Type}:=@ef wh ((.ex 4)) Wv ρ
def Jd (bd:eY)(d:kK.B):PL kK wh:=let n2:=d.2.2;let n1:=d.1.2;let y0:=ws n1.2;let y1:=bg n1.2 24;let y2:=decide (n1.2<24);let y3:=y0*48+ws d.1.1;ae y2 (ae y1 (opt (bd 30 24 24 d.2.1 (λj=>n2.1 (0+y0*24+j)) n2.2.2.2 false false) λaj=>ae y1 (ae (bg d.1.1 48) (ae (true&&wd (0+y3*1+1) 1152) (ret (wr ((d.1.1,n1.1,wI (n1.2+1)),aj.2,n2.1,n2.2.1,λj=>bif ww j y3 then aj.1 else n2.2.2.1 j,n2.2.2.2))) no) no) no) no) (ret (wn ((d.1.1,n1.1,n1.2,y2),d.2)))
def Je:=bw (Jd bC) 2000
def kM:=qs (st (pr (us 7 (cu aUz (us 37 aPi))) (pl (c cD (c mY (cl GA nil))) cN)))
def Wx:=qs (st (pr (us 7 (cu aUz (us 37 aI1))) (pl (c cD (c mY (cl GA nil))) cN)))
abbrev wi:=Wx.B
def Wy {ρ:Type}:=@ef wi ((.ex 6)) Wx ρ
def Jf (d:kM.B):PL kM wi:=let y0:=wI (24+d.1);let y1:=decide (d.1<24);let y2:=ws d.1*48+ws y0;ae y1 (ae (bg d.1 24) (ae (bg y0 48) (ae (true&&wd (0+y2*1+1) 1152) (ret (wr (wI (d.1+1),d.2.1,d.2.2.1,λj=>bif ww j y2 then 1073741824 else d.2.2.2 j))) no) no) no) (ret (wn ((d.1,y1),d.2)))
def Jg:=bw (Jf) 2000
def kO:=qs (st (pr (cu aO (us 1 (cu Qt (us 1 (cu Y4 (us 2 (cu Y5 (us 5 (cl ai (us 40 nil)))))))))) (pl (c cD (c mY (c jk (cl GA nil)))) cN)))
def Wz:=qs (st (pr (cu aO (us 1 (cu Qt (us 1 (cu Y4 (us 2 (cu Y5 (us 5 (c ai (cl ab (us 39 nil))))))))))) (pl (c cD (c mY (c jk (cl GA nil)))) cN)))
abbrev wj:=Wz.B
def WA {ρ:Type}:=@ef wj ((.ex 0)) Wz ρ
def Jh (qo:LT kI wg)(GM:LT kK wh)(d:kO.B):PL kO wj:=let y0:=decide (d.1<24);ae y0 (opt (qo ((d.1,d.1,wI (d.1+1),0),d.2.1,d.2.2.1,d.2.2.2.1,d.2.2.2.2,λx=>0)) λd=>opt (GM ((d.1.1,d.1.2.1,0),d.2)) λd=>ret (wr (wI (d.1.2.1+1),d.2.1,d.2.2.1,d.2.2.2.1,d.2.2.2.2.1))) (ret (wn ((d.1,y0),d.2)))
def Ji:=bw (Jh Jc Je) 2000
def Om (l_3:LT kM wi)(eB:LT kO wj)(x0:Nat->Int)(x1:Nat->Int)(x2:Bool)(x3:Nat->Int):Pg adx:=opt (eB (0,x2,x3,(x0,x1),λx=>0)) λd=>opt (l_3 (0,d.2.1,d.2.2.1,d.2.2.2.2)) λd=>ret (d.2.1,d.2.2.2)
def AI:=λx0 x1 x2 x3=>(Om Jg Ji x0 x1 x2 x3).val
abbrev qL:=We×eY×(LT kI wg)×(LT kK wh)×(LT kM wi)×(LT kO wj)
def vE (p:qL):KK:=⟨[auX p.1,nI p.2.1],⟨[⟨3,(1::3::5::6::rg 8 5 (rg 14 40 [])),[]⟩,⟨7,(1::3::5::6::10::11::12::14::15::16::rg 19 35 []),[]⟩,⟨12,(1::3::5::6::10::11::12::rg 14 14 (rg 29 25 [])),[]⟩,⟨18,(rg 0 7 (rg 8 37 (rg 46 8 []))),[]⟩],[fY 7 2 kI Wu p.b.1,fY 12 2 kK Ww p.b.2.1,fY 18 2 kM Wy p.c.1,fY 3 2 kO WA p.c.2],[0],[],(some ⟨0,(rg 0 6 (rg 7 47 [])),[]⟩)⟩,2,216⟩
theorem aoJ (p:qL):LI (vE p) 7 kI Wu (Jb p.1):=λ_ d c K=>by kernel_rfl
theorem aoK (p:qL):LI (vE p) 12 kK Ww (Jd p.2.1):=λ_ d c K=>by kernel_rfl
theorem aoL (p:qL):LI (vE p) 18 kM Wy (Jf):=λ_ d c K=>by kernel_rfl
theorem aoM (p:qL):LI (vE p) 3 kO WA (Jh p.b.1 p.b.2.1):=λ_ d c K=>by kernel_rfl
theorem axR (p:qL):D2 (vE p) adw (lf LY) λb=>Om p.c.1 p.c.2 b.1.1 b.1.2 b.2.1 b.b:=λb=>by kernel_rfl
abbrev vF:qL:=(LK,bC,Jc,Je,Jg,Ji)
theorem axS [ax]:SC (ady AI):=sc (kS (k:=vE vF) (.c aEK (.c pe (.nil _))) [3,7,12,18] [] ⟨kL (aoM vF),⟨kL (aoJ vF),⟨kL (aoK vF),⟨kL (aoL vF),trivial⟩⟩⟩⟩ trivial (axR vF))
def ave:=qa (pl arY nil)
def abS:=qe aVv
abbrev avf:=abS.B
abbrev eC:=NI->Option avf
def j5 (g:eC):Ct:=(68,FC ave (lf abS) (λb=>g b))
def agA (x0:Nat->Int):Pg avf:=ret (x0 0,x0 1,x0 2,x0 3)
def bX:=λx0=>(agA x0).val
theorem aKo:D0 [] 68 ave (lf abS) λb=>agA b:=λb=>by kernel_rfl
theorem lA [ax]:SC (j5 bX):=s0 (.nil _) aKo
def aij:=qa (pl (c lW arZ) nil)
def On:=qe aPG
abbrev aik:=On.B
abbrev It:=NI->Int->Int->Int->Int->Option aik
def SF (g:It):Ct:=(85,FC aij (lf On) (λb=>g b.1 b.2.1 b.b.1 b.b.2.1 b.c))
def SG (x0:Nat->Int)(x1:Int)(x2:Int)(x3:Int)(x4:Int):Pg aik:=ret λj=>bif ww j 3 then x4 else bif ww j 2 then x3 else bif ww j 1 then x2 else bif ww j 0 then x1 else x0 j
def tK:=λx0 x1 x2 x3 x4=>(SG x0 x1 x2 x3 x4).val
theorem aBC:D0 [] 85 aij (lf On) λb=>SG b.1 b.2.1 b.b.1 b.b.2.1 b.c:=λb=>by kernel_rfl
theorem ail [ax]:SC (SF tK):=s0 (.nil _) aBC
def aqD:=qa (pr (c ai (c ai (c ai (cl ai (cu aO (cu apy nil)))))) (cu aPh (c aeZ bB)))
def WB:=qe aVx
abbrev aqE:=WB.B
abbrev aqF:=Int->Int->Int->Int->Int->Int->Int->Int->Bool->Option aqE
def aqG (g:aqF):Ct:=(210,FC aqD (lf WB) (λb=>g b.1.1 b.1.2.1 b.1.b.1 b.1.b.2 b.2.1.1 b.2.1.2.1 b.2.1.b.1 b.2.1.b.2 b.b))
def abT (bd:eY)(x0:Int)(x1:Int)(x2:Int)(x3:Int)(x4:Int)(x5:Int)(x6:Int)(x7:Int)(x8:Bool):Pg aqE:=opt (bd 30 4 4 x8 (cr x4 [x7,x6,x5,x4]) (cr x0 [x3,x2,x1,x0]) false true) λd=>ret d
def HC:=λx0 x1 x2 x3 x4 x5 x6 x7 x8=>(abT bC x0 x1 x2 x3 x4 x5 x6 x7 x8).val
theorem aGE:∀bd,D0 [nI bd] 210 aqD (lf WB) λb=>abT bd b.1.1 b.1.2.1 b.1.b.1 b.1.b.2 b.2.1.1 b.2.1.2.1 b.2.1.b.1 b.2.1.b.2 b.b:=λ_ b=>by kernel_rfl
theorem aGF [ax]:SC (aqG HC):=s0 (.c pe (.nil _)) (aGE bC)
def alX:=qa (pr (cu aO iL) bB)
def SH:=qe awW
abbrev alY:=SH.B
abbrev alZ:=Int->Bool->Option alY
def al0 (g:alZ):Ct:=(123,FC alX (lf SH) (λb=>g b.1 b.2))
def WC (dw:yo)(aB:bS)(ib:QE)(eL:Kq)(bn:iY)(x0:Int)(x1:Bool):Pg alY:=opt (dw x0) λd=>opt (aB d 536870912 30 x1) λd=>opt (ib d.1 d.2) λaj=>opt (eL d.1 aj.2) λd=>opt (bn aj.1 0 0 d.1 d.2) λd=>ret d
def AJ:=λx0 x1=>(WC ly aZ sj ov dy x0 x1).val
theorem aEV:∀dw aB ib eL bn,D0 [BK dw,fG aB,QF ib,Kr eL,nV bn] 123 alX (lf SH) λb=>WC dw aB ib eL bn b.1 b.2:=λ_ _ _ _ _ b=>by kernel_rfl
theorem aEW [ax]:SC (al0 AJ):=s0 (.c FO (.c fZ (.c ZA (.c QD (.c pz (.nil _)))))) (aEV ly aZ sj ov dy)
def azW:=qa (pr (cu aO (c ae0 arZ)) bB)
def agB:=qe awW
abbrev azX:=agB.B
abbrev yA:=Int->Int->Int->Int->Int->Int->Int->Int->Bool->Option azX
def ET (g:yA):Ct:=(156,FC azW (lf agB) (λb=>g b.1.1.1 b.1.1.2.1 b.1.1.b.1 b.1.1.b.2 b.1.2.1 b.1.b.1 b.1.b.2.1 b.1.c b.2))
def al1 (pO:QH)(zC:aqF)(x0:Int)(x1:Int)(x2:Int)(x3:Int)(x4:Int)(x5:Int)(x6:Int)(x7:Int)(x8:Bool):Pg azX:=opt (pO x0 x1 x2 x3 x8) λd=>let n1:=d.1.2;opt (pO x4 x5 x6 x7 d.2) λaj=>let n2:=aj.1.2;let y0:=wI (0-n2.1);let y1:=wI (0-n2.2.1);let y2:=wI (0-n2.2.2);opt (zC aj.1.1 y0 y1 y2 d.1.1 n1.1 n1.2.1 n1.2.2 aj.2) λaC=>opt (zC n2.1 aj.1.1 n2.2.2 y1 d.1.1 n1.1 n1.2.1 n1.2.2 aC.2) λbx=>opt (zC n2.2.1 y2 aj.1.1 n2.1 d.1.1 n1.1 n1.2.1 n1.2.2 bx.2) λcH=>opt (zC n2.2.2 n2.2.1 y0 aj.1.1 d.1.1 n1.1 n1.2.1 n1.2.2 cH.2) λd=>ret ((aC.1,bx.1,cH.1,d.1),d.2)
def kP:=λx0 x1 x2 x3 x4 x5 x6 x7 x8=>(al1 yu HC x0 x1 x2 x3 x4 x5 x6 x7 x8).val
theorem aNN:∀pO zC,D0 [ZD pO,aqG zC] 156 azW (lf agB) λb=>al1 pO zC b.1.1.1 b.1.1.2.1 b.1.1.b.1 b.1.1.b.2 b.1.2.1 b.1.b.1 b.1.b.2.1 b.1.c b.2:=λ_ _ b=>by kernel_rfl
theorem Kt [ax]:SC (ET kP):=s0 (.c alv (.c aGF (.nil _))) (aNN yu HC)
def aIe:=qa (pr (cu aO arZ) bB)
def asN:=qe (res (pr (aa aaE) (pl mX nil)))
abbrev aIf:=asN.B
abbrev qM:=Int->Int->Int->Int->Bool->Option aIf
def Dq (g:qM):Ct:=(122,FC aIe (lf asN) (λb=>g b.1.1 b.1.2.1 b.1.b.1 b.1.b.2 b.2))
def yB:=qs (st (pr (us 2 (cu Qu (cu ayT (cu (app 3 9) (us 3 aUI))))) (pl (c cD (cu (so (cu (gp 0 1) nil)) (c xo (cl (so aaE) nil)))) cN)))
def azY:=qs (st (pr (us 2 (cu Qu (cu ayT (cu (app 3 9) (us 3 aUX))))) (pl (c cD (cu (so (cu (gp 0 1) nil)) (c xo (cl (so aaE) nil)))) cN)))
abbrev QL:=azY.B
def azZ {ρ:Type}:=@ef QL ((.ex 0)) azY ρ
def al2 (aw:bM)(d:yB.B):PL yB QL:=let n2:=d.2.2.2;let n1:=d.2.2.1;let n4:=n1.2.1;let n3:=n1.2.2;let y0:=bg d.1 4;let y1:=d.1==2;let y2:=d.1==1;let y3:=d.1==3;let y4:=wI (d.1+1);let y5:=decide (d.1<4);ae y5 (ae y0 (ae y3 (opt (aw n3.2 d.2.1) λaj=>ae y0 (ae y3 (ret (wr (y4,aj.2,(n1.1,n4,n3.1,aj.1),n2))) (ae y1 (ret (wr (y4,aj.2,(n1.1,n4,aj.1,n3.2),n2))) (ae y2 (ret (wr (y4,aj.2,(n1.1,aj.1,n3),n2))) (ret (wr (y4,aj.2,(aj.1,n1.2),n2)))))) no) (ae y1 (opt (aw n3.1 d.2.1) λaj=>ae y0 (ae y3 (ret (wr (y4,aj.2,(n1.1,n4,n3.1,aj.1),n2))) (ae y1 (ret (wr (y4,aj.2,(n1.1,n4,aj.1,n3.2),n2))) (ae y2 (ret (wr (y4,aj.2,(n1.1,aj.1,n3),n2))) (ret (wr (y4,aj.2,(aj.1,n1.2),n2)))))) no) (ae y2 (opt (aw n4 d.2.1) λaj=>ae y0 (ae y3 (ret (wr (y4,aj.2,(n1.1,n4,n3.1,aj.1),n2))) (ae y1 (ret (wr (y4,aj.2,(n1.1,n4,aj.1,n3.2),n2))) (ae y2 (ret (wr (y4,aj.2,(n1.1,aj.1,n3),n2))) (ret (wr (y4,aj.2,(aj.1,n1.2),n2)))))) no) (opt (aw n1.1 d.2.1) λaj=>ae y0 (ae y3 (ret (wr (y4,aj.2,(n1.1,n4,n3.1,aj.1),n2))) (ae y1 (ret (wr (y4,aj.2,(n1.1,n4,aj.1,n3.2),n2))) (ae y2 (ret (wr (y4,aj.2,(n1.1,aj.1,n3),n2))) (ret (wr (y4,aj.2,(aj.1,n1.2),n2)))))) no)))) no) (ret (wn ((d.1,y5),d.2)))
def al3:=bw (al2 aS) 2000
def axT (al4:aly)(Ku:alA)(eB:LT yB QL)(x0:Int)(x1:Int)(x2:Int)(x3:Int)(x4:Bool):Pg aIf:=opt (eB (0,x4,(x0,x1,x2,x3),λx=>0)) λd=>let n2:=d.2.2.1.1;let n1:=d.2.2.1.2;let n4:=n1.2.2;let n3:=n1.2.1;let y0:=wI (0-n2);opt (al4 1 1 (-1) (-1) n2 n1.1 n3 n4 d.2.1) λaj=>opt (Ku n1.1 n3 y0 n4 aj.2) λaC=>opt (Ku n1.1 n4 n2 n3 aC.2) λbx=>opt (Ku n1.1 n3 n2 n4 bx.2) λcH=>opt (al4 1 (-1) 1 (-1) n2 n1.1 n3 n4 cH.2) λfx=>opt (Ku n3 n4 y0 n1.1 fx.2) λdx=>opt (Ku n1.1 n4 y0 n3 dx.2) λnH=>opt (Ku n3 n4 n2 n1.1 nH.2) λte=>opt (al4 1 (-1) (-1) 1 n2 n1.1 n3 n4 te.2) λd=>ret (cr 0 [d.1,te.1,nH.1,dx.1,fx.1,cH.1,bx.1,aC.1,aj.1],d.2)
def jX:=λx0 x1 x2 x3 x4=>(axT QJ QK al3 x0 x1 x2 x3 x4).val
abbrev aoz:=bM×aly×alA×(LT yB QL)
def axU (p:aoz):KK:=⟨[dD p.1,azQ p.2.1,azT p.b.1],⟨[⟨2,(0::1::5::6::7::rg 9 82 []),[]⟩],[fY 2 1 yB azZ p.b.2],[0],[],(some ⟨0,(rg 0 4 (rg 5 86 [])),[]⟩)⟩,1,122⟩
theorem aKp (p:aoz):LI (axU p) 2 yB azZ (al2 p.1):=λ_ d c K=>by kernel_rfl
theorem aTr (p:aoz):D2 (axU p) aIe (lf asN) λb=>axT p.2.1 p.b.1 p.b.2 b.1.1 b.1.2.1 b.1.b.1 b.1.b.2 b.2:=λb=>by kernel_rfl
abbrev axV:aoz:=(aS,QJ,QK,al3)
theorem FW [ax]:SC (Dq jX):=sc (kS (k:=axU axV) (.c dI (.c aNH (.c aNJ (.nil _)))) [2] [] ⟨kL (aKp axV),trivial⟩ trivial (aTr axV))
def aim:=qa (pu nil nil)
def Oo:=qe aPG
abbrev CS:=Oo.B
abbrev CT:=Option CS
def SI (g:CT):Ct:=(66,FC aim (lf Oo) (λ_=>g))
def SJ (jA:ZI):Pg CS:=opt (jA 0 4 1073741840 λx=>0) λd=>opt (jA 4 7 549755813888 d) λd=>opt (jA 7 10 9007199254740992 d) λd=>opt (jA 10 13 134217728 d) λd=>opt (jA 13 16 1073741824 d) λd=>opt (jA 16 22 2147483648 d) λd=>opt (jA 22 24 137438953472 d) λd=>ret d
def tL:Option CS:=(SJ yv).val
theorem aBD:∀jA,D0 [ZJ jA] 66 aim (lf Oo) λb=>SJ jA:=λ_ b=>by kernel_rfl
theorem ain [ax]:SC (SI tL):=s0 (.c auT (.nil _)) (aBD yv)
def al5:=qa (pr (cu aO arY) bB)
def SK:=qe aCY
abbrev al6:=SK.B
abbrev LZ:=NI->Bool->Option al6
def WD (g:LZ):Ct:=(87,FC al5 (lf SK) (λb=>g b.1 b.2))
def nh:=qs (st (pr (cu aO (us 2 (cu TN (cu DT (cu ahL aIU))))) (pl (c cD aJp) cN)))
def axW:=qs (st (pr (cu aO (us 2 (cu TN (cu DT (cu ahL (c ai (us 1 aI0))))))) (pl (c cD aJp) cN)))
abbrev AK:=((Int×Bool)×Bool×NI×NI×CS)
def adz {ρ:Type}(x:AK)(K:AX->St->Option ρ):Option ρ:=(λd=>K (.ex 0) (axW.em ((d.1.1,d.1),d.2))) x
def Oq (aE:bY)(d:nh.B):PL nh AK:=let y0:=ws d.1;let y1:=bg d.1 24;let y2:=decide (d.1<24);ae y2 (ae y1 (ae y1 (ae y1 (opt (aE (d.2.2.1 y0) (wI (0-d.2.2.2.2 y0)) (d.2.2.2.2 y0) d.2.1) λaj=>ae y1 (ae (true&&wd (0+y0*1+1) 24) (ret (wr (wI (d.1+1),aj.2,λj=>bif ww j y0 then aj.1 else d.2.2.1 j,d.2.2.2))) no) no) no) no) no) (ret (wn ((d.1,y2),d.2)))
def Ot:=bw (Oq bh) 2000
def WE (SL:CT)(eB:LT nh AK)(x0:Nat->Int)(x1:Bool):Pg al6:=opt SL λd=>opt (eB (4,x1,x0,λx=>0,d)) λd=>ret (d.2.2.1,d.2.1)
def wo:=λx0 x1=>(WE tL Ot x0 x1).val
abbrev L3:=CT×bY×(LT nh AK)
def WG (p:L3):KK:=⟨[SI p.1,ek p.2.1],⟨[⟨3,(1::2::rg 7 20 []),[]⟩],[fY 3 1 nh adz p.b],[0],[],(some ⟨0,(rg 0 4 (rg 5 22 [])),[]⟩)⟩,1,87⟩
theorem avg (p:L3):LI (WG p) 3 nh adz (Oq p.2.1):=λ_ d c K=>by kernel_rfl
theorem aEX (p:L3):D2 (WG p) al5 (lf SK) λb=>WE p.1 p.b b.1 b.2:=λb=>by kernel_rfl
abbrev WH:L3:=(tL,bh,Ot)
theorem al7 [ax]:SC (WD wo):=sc (kS (k:=WG WH) (.c ain (.c eU (.nil _))) [3] [] ⟨kL (avg WH),trivial⟩ trivial (aEX WH))
def aqH:=qa (pr (cu aO arY) bB)
def WI:=qe aCY
abbrev aqI:=WI.B
abbrev fJ:=NI->Bool->Option aqI
def jB (g:fJ):Ct:=(49,FC aqH (lf WI) (λb=>g b.1 b.2))
def abU (bc:eC)(P':aqx)(bn:iY)(xU:It)(wq:LZ)(x0:Nat->Int)(x1:Bool):Pg aqI:=opt (bc x0) λd=>opt (P' d.1 d.2.1 d.2.2.1 d.2.2.2) λd=>ae (!d) (opt (bc x0) λd=>opt (bn d.1 d.2.1 d.2.2.1 d.2.2.2 x1) λd=>opt (xU x0 d.1.1 d.1.2.1 d.1.2.2.1 d.1.2.2.2) λaj=>opt (wq aj d.2) λd=>ret d) (opt (wq x0 x1) λd=>ret d)
def bD:=λx0 x1=>(abU bX Dp dy tK wo x0 x1).val
theorem aGG:∀bc P' bn xU wq,D0 [j5 bc,aqy P',nV bn,SF xU,WD wq] 49 aqH (lf WI) λb=>abU bc P' bn xU wq b.1 b.2:=λ_ _ _ _ _ b=>by kernel_rfl
theorem ky [ax]:SC (jB bD):=s0 (.c lA (.c aGy (.c pz (.c ail (.c al7 (.nil _)))))) (aGG bX Dp dy tK wo)
def adA:=qa (pr (cu aO iL) bB)
def L4:=qe qA
abbrev adB:=L4.B
abbrev vG:=Int->Bool->Option adB
def FX (g:vG):Ct:=(159,FC adA (lf L4) (λb=>g b.1 b.2))
def Ou (aq:cx)(x0:Int)(x1:Bool):Pg adB:=opt (aq x0 1073741824 1000000 x1) λd=>ret d
def kz:=λx0 x1=>(Ou aU x0 x1).val
theorem axX:∀aq,D0 [dA aq] 159 adA (lf L4) λb=>Ou aq b.1 b.2:=λ_ b=>by kernel_rfl
theorem Ov [ax]:SC (FX kz):=s0 (.c dL (.nil _)) (axX aU)
def aEY:=qa (pr (cu aO GB) bB)
def al8:=qe awW
abbrev aEZ:=al8.B
abbrev aE0:=Int->Int->Int->Bool->Option aEZ
def aE1 (g:aE0):Ct:=(209,FC aEY (lf al8) (λb=>g b.1.1 b.1.2.1 b.1.b b.2))
def asO (EU:Od)(vi:Bm)(iQ:Bn)(aB:bS)(eL:Kq)(aD:cK)(ib:QE)(bn:iY)(x0:Int)(x1:Int)(x2:Int)(x3:Bool):Pg aEZ:=opt (EU x0 x1 x2 x3) λd=>opt (vi d.1.1 d.1.2.1 d.1.2.2 d.2) λaj=>ae (aj.1==0) (opt iQ λd=>ret ((1073741824,0,0,0),aj.2)) (opt (aB aj.1 536870912 30 aj.2) λaC=>opt (eL aC.1 aC.2) λbx=>opt (aD bx.1 aj.1 30 bx.2) λcH=>opt (ib aC.1 cH.2) λfx=>opt (aB d.1.1 cH.1 30 fx.2) λdx=>opt (aB d.1.2.1 cH.1 30 dx.2) λnH=>opt (aB d.1.2.2 cH.1 30 nH.2) λd=>opt (bn fx.1 dx.1 nH.1 d.1 d.2) λd=>ret d)
def WJ:=λx0 x1 x2 x3=>(asO BL pN oy aZ ov bo sj dy x0 x1 x2 x3).val
theorem aQ3:∀EU vi iQ aB eL aD ib bn,D0 [af8 EU,QG vi,Ks iQ,fG aB,Kr eL,gO aD,QF ib,nV bn] 209 aEY (lf al8) λb=>asO EU vi iQ aB eL aD ib bn b.1.1 b.1.2.1 b.1.b b.2:=λ_ _ _ _ _ _ _ _ b=>by kernel_rfl
theorem aQ4 [ax]:SC (aE1 WJ):=s0 (.c asA (.c ZC (.c QI (.c fZ (.c QD (.c iF (.c ZA (.c pz (.nil _))))))))) (aQ3 BL pN oy aZ ov bo sj dy)
def al9:=qa (pr (cu aO (c lW aaG)) bB)
def SM:=qe (res (pr (aa ae3) (pl mX nil)))
abbrev ama:=SM.B
abbrev L5:=NI->Int->Int->Int->Int->Int->Int->Int->Int->Bool->Option ama
def WK (g:L5):Ct:=(155,FC al9 (lf SM) (λb=>g b.1.1 b.1.2.1 b.1.b.1 b.1.b.2.1.1 b.1.b.2.1.2.1 b.1.b.2.1.b b.1.c.1 b.1.c.2.1 b.1.c.b b.2))
def WL (aN:fJ)(oB:vG)(bE:mG)(iZ:Uw)(og:I4)(agC:aE0)(bc:eC)(fF:qM)(x0:Nat->Int)(x1:Int)(x2:Int)(x3:Int)(x4:Int)(x5:Int)(x6:Int)(x7:Int)(x8:Int)(x9:Bool):Pg ama:=opt (aN x0 x9) λd=>opt (oB x2 d.2) λaj=>opt (bE d.1 10) λaC=>opt (iZ aC.1 aC.2.1 aC.2.2 aj.1 aj.2) λbx=>opt (og x3 x4 x5 bx.1.1 bx.1.2.1 bx.1.2.2 bx.2) λcH=>opt (bE d.1 13) λfx=>opt (iZ fx.1 fx.2.1 fx.2.2 aj.1 cH.2) λdx=>opt (og x6 x7 x8 dx.1.1 dx.1.2.1 dx.1.2.2 dx.2) λnH=>opt (agC cH.1.1 cH.1.2.1 cH.1.2.2 nH.2) λte=>opt (bc d.1) λd=>opt (fF d.1 d.2.1 d.2.2.1 d.2.2.2 te.2) λd=>ret ((aj.1,cH.1.1,cH.1.2.1,cH.1.2.2,nH.1.1,nH.1.2.1,nH.1.2.2,te.1.1,te.1.2.1,te.1.2.2.1,te.1.2.2.2,d.1),d.2)
def wu:=λx0 x1 x2 x3 x4 x5 x6 x7 x8 x9=>(WL bD kz eX uo wa WJ bX jX x0 x1 x2 x3 x4 x5 x6 x7 x8 x9).val
theorem aE2:∀aN oB bE iZ og agC bc fF,D0 [jB aN,FX oB,rA bE,Ux iZ,V3 og,aE1 agC,j5 bc,Dq fF] 155 al9 (lf SM) λb=>WL aN oB bE iZ og agC bc fF b.1.1 b.1.2.1 b.1.b.1 b.1.b.2.1.1 b.1.b.2.1.2.1 b.1.b.2.1.b b.1.c.1 b.1.c.2.1 b.1.c.b b.2:=λ_ _ _ _ _ _ _ _ b=>by kernel_rfl
theorem amb [ax]:SC (WK wu):=s0 (.c ky (.c Ov (.c uY (.c af6 (.c af4 (.c aQ4 (.c lA (.c FW (.nil _))))))))) (aE2 bD kz eX uo wa WJ bX jX)
def aqJ:=qa (pr (cu aO (c lW aaG)) bB)
def WM:=qe aCY
abbrev aqK:=WM.B
abbrev Qa:=NI->Int->Int->Int->Int->Int->Int->Int->Int->Bool->Option aqK
def abV (g:Qa):Ct:=(104,FC aqJ (lf WM) (λb=>g b.1.1 b.1.2.1 b.1.b.1 b.1.b.2.1.1 b.1.b.2.1.2.1 b.1.b.2.1.b b.1.c.1 b.1.c.2.1 b.1.c.b b.2))
def abW (AL:L5)(aN:fJ)(bc:eC)(fh:yA)(bn:iY)(bE:mG)(jb:FT)(aB:bS)(dW:BP)(iZ:Uw)(cZ:zB)(x0:Nat->Int)(x1:Int)(x2:Int)(x3:Int)(x4:Int)(x5:Int)(x6:Int)(x7:Int)(x8:Int)(x9:Bool):Pg aqK:=opt (AL x0 x1 x2 x3 x4 x5 x6 x7 x8 x9) λd=>let n1:=d.1.2.2.2.2.2;let n2:=n1.2.2.2;opt (aN x0 d.2) λaj=>opt (bc aj.1) λaC=>opt (fh aC.1 aC.2.1 aC.2.2.1 aC.2.2.2 n1.2.2.1 n2.1 n2.2.1 n2.2.2.1 aj.2) λbx=>opt (bn bx.1.1 bx.1.2.1 bx.1.2.2.1 bx.1.2.2.2 bx.2) λcH=>opt (bE aj.1 4) λfx=>opt (jb n2.2.2.2 d.1.2.2.2.2.1 n1.1 n1.2.1 cH.2) λdx=>opt (aB 10529810258 d.1.1 30 dx.2) λnH=>opt (dW 3 nH.2 (cr fx.1 [0,dx.1.1,fx.1]) (cr fx.2.1 [0,dx.1.2.1,fx.2.1]) (cr fx.2.2 [nH.1,dx.1.2.2,fx.2.2]) true) λte=>opt (aB d.1.1 536870912 30 te.2) λd=>opt (bE aj.1 7) λpx=>opt (dW 2 d.2 (cr fx.1 [te.1.1,fx.1]) (cr fx.2.1 [te.1.2.1,fx.2.1]) (cr fx.2.2 [te.1.2.2,fx.2.2]) true) λmI=>opt (iZ mI.1.1 mI.1.2.1 mI.1.2.2 d.1 mI.2) λd=>opt (dW 2 d.2 (cr px.1 [d.1.1,px.1]) (cr px.2.1 [d.1.2.1,px.2.1]) (cr px.2.2 [d.1.2.2,px.2.2]) true) λd=>opt (cZ aj.1 0 4 (cr cH.1.1 [cH.1.2.2.2,cH.1.2.2.1,cH.1.2.1,cH.1.1]) false) λxj=>opt (cZ xj 4 3 (cr te.1.1 [te.1.2.2,te.1.2.1,te.1.1]) false) λKv=>opt (cZ Kv 7 3 (cr d.1.1 [d.1.2.2,d.1.2.1,d.1.1]) false) λL6=>opt (aN L6 d.2) λd=>ret d
def vj:=λx0 x1 x2 x3 x4 x5 x6 x7 x8 x9=>(abW wu bD bX kP dy eX nU aZ lp uo fI x0 x1 x2 x3 x4 x5 x6 x7 x8 x9).val
theorem aGH:∀AL aN bc fh bn bE jb aB dW iZ cZ,D0 [WK AL,jB aN,j5 bc,ET fh,nV bn,rA bE,LN jb,fG aB,Ja dW,Ux iZ,Dn cZ] 104 aqJ (lf WM) λb=>abW AL aN bc fh bn bE jb aB dW iZ cZ b.1.1 b.1.2.1 b.1.b.1 b.1.b.2.1.1 b.1.b.2.1.2.1 b.1.b.2.1.b b.1.c.1 b.1.c.2.1 b.1.c.b b.2:=λ_ _ _ _ _ _ _ _ _ _ _ b=>by kernel_rfl
theorem aqL [ax]:SC (abV vj):=s0 (.c amb (.c ky (.c lA (.c Kt (.c pz (.c uY (.c UA (.c fZ (.c Oj (.c af6 (.c HA (.nil _)))))))))))) (aGH wu bD bX kP dy eX nU aZ lp uo fI)
def az0:=qa (pr (cu aO GB) bB)
def agD:=qe awW
abbrev az1:=agD.B
abbrev amc:=Int->Int->Int->Bool->Option az1
def az2 (g:amc):Ct:=(160,FC az0 (lf agD) (λb=>g b.1.1 b.1.2.1 b.1.b b.2))
def su:=qs (st (pr (cu aO (us 3 (cu apy (cu Y3 (c ai (cu aj4 (us 12 (cl ai aUy)))))))) (pl (c cD (cu akj (c zt (cl zt nil)))) cN)))
def aqM:=qs (st (pr (cu aO (us 3 (cu apy (cu Y3 (c ai (cu aj4 (us 12 (c ai (cl ab (us 26 nil)))))))))) (pl (c cD (cu akj (c zt (cl zt nil)))) cN)))
abbrev HD:=aqM.B
def aqN {ρ:Type}:=@ef HD ((.ex 0)) aqM ρ
def abX (aD:cK)(d:su.B):PL su HD:=let n3:=d.1.1;let n2:=d.1.2;let n1:=d.2.2;let n5:=n1.2.1;let n4:=n1.2.2;let y0:=bg n2 3;let y1:=n2==2;let y2:=n2==1;let y3:=decide (n2<3);ae y3 (ae y0 (ae y1 (opt (aD n1.1.2.2 n3 30 d.2.1) λaj=>ae y0 (ae y1 (ret (wr ((n3,wI (n2+1)),aj.2,n1.1,n5,n4.1,aj.1))) (ae y2 (ret (wr ((n3,wI (n2+1)),aj.2,n1.1,n5,aj.1,n4.2))) (ret (wr ((n3,wI (n2+1)),aj.2,n1.1,aj.1,n4))))) no) (ae y2 (opt (aD n1.1.2.1 n3 30 d.2.1) λaj=>ae y0 (ae y1 (ret (wr ((n3,wI (n2+1)),aj.2,n1.1,n5,n4.1,aj.1))) (ae y2 (ret (wr ((n3,wI (n2+1)),aj.2,n1.1,n5,aj.1,n4.2))) (ret (wr ((n3,wI (n2+1)),aj.2,n1.1,aj.1,n4))))) no) (opt (aD n1.1.1 n3 30 d.2.1) λaj=>ae y0 (ae y1 (ret (wr ((n3,wI (n2+1)),aj.2,n1.1,n5,n4.1,aj.1))) (ae y2 (ret (wr ((n3,wI (n2+1)),aj.2,n1.1,n5,aj.1,n4.2))) (ret (wr ((n3,wI (n2+1)),aj.2,n1.1,aj.1,n4))))) no))) no) (ret (wn ((n3,n2,y3),d.2)))
def abY:=bw (abX bo) 2000
def amd (EU:Od)(iQ:Bn)(vi:Bm)(aV:dk)(bn:iY)(eB:LT su HD)(x0:Int)(x1:Int)(x2:Int)(x3:Bool):Pg az1:=opt (EU x0 x1 x2 x3) λd=>ae (d.1.1==0&&(d.1.2.1==0&&(d.1.2.2==0&&true))) (opt iQ λaj=>ret ((1073741824,0,0,0),d.2)) (opt (vi d.1.1 d.1.2.1 d.1.2.2 d.2) λaj=>opt (eB ((aj.1,0),aj.2,d.1,0,0,0)) λd=>opt (aV 1073741824 d.2.2.2.2.2 d.2.1) λaC=>ae (decide (aC.1<=16)) (ret ((0,1073741824,0,0),aC.2)) (opt (bn aC.1 (wI (0-d.2.2.2.2.1)) d.2.2.2.1 0 aC.2) λd=>ret d))
def Kw:=λx0 x1 x2 x3=>(amd BL oy pN bW dy abY x0 x1 x2 x3).val
abbrev ZO:=Od×Bn×Bm×cK×dk×iY×(LT su HD)
def ame (p:ZO):KK:=⟨[af8 p.1,Ks p.2.1,QG p.b.1,gO p.b.2.1,iG p.c.1,nV p.c.2.1],⟨[⟨7,(1::2::3::rg 8 12 (rg 21 27 [])),[]⟩],[fY 7 1 su aqN p.c.b],[],[],(some ⟨0,(rg 0 4 (rg 5 43 [])),[]⟩)⟩,1,160⟩
theorem aE3 (p:ZO):LI (ame p) 7 su aqN (abX p.b.2.1):=λ_ d c K=>by kernel_rfl
theorem aNO (p:ZO):D2 (ame p) az0 (lf agD) λb=>amd p.1 p.2.1 p.b.1 p.c.1 p.c.2.1 p.c.b b.1.1 b.1.2.1 b.1.b b.2:=λb=>by kernel_rfl
abbrev amf:ZO:=(BL,oy,pN,bo,bW,dy,abY)
theorem aNP [ax]:SC (az2 Kw):=sc (kS (k:=ame amf) (.c asA (.c QI (.c ZC (.c iF (.c jz (.c pz (.nil _))))))) [7] [] ⟨kL (aE3 amf),trivial⟩ trivial (aNO amf))
def adC:=qa (pr (cu aO (c Bz (c (aa aCP) arY))) bB)
def L7:=qe aPS
abbrev adD:=L7.B
abbrev FY:=NI->NI->NI->NI->Bool->Option adD
def Ow (g:FY):Ct:=(163,FC adC (lf L7) (λb=>g b.1.1.1 b.1.1.2 b.1.2.1 b.1.b b.2))
def kQ:=qs (st (pr (cu aO (us 4 (cu Gh (cu aRI (cu ahL (cu Ni (cu apA (c ai (us 13 (c ai (us 16 (cl ai (us 105 nil))))))))))))) (pl (c cD (c jk (c mY (c oc aaH)))) cN)))
def WN:=qs (st (pr (cu aO (us 4 (cu Gh (cu aRI (cu ahL (cu Ni (cu apA (c ai (us 13 (c ai (us 16 aUY))))))))))) (pl (c cD (c jk (c mY (c oc aaH)))) cN)))
abbrev wv:=WN.B
def WO {ρ:Type}:=@ef wv ((.ex 2)) WN ρ
def Jj (aw:bM)(d:kQ.B):PL kQ wv:=let y0:=bg d.1.1 24;let y1:=bg d.1.2.2 24;let y2:=decide (d.1.2.2<24);let y3:=ws d.1.1*24+ws d.1.2.2;ae y2 (ae y0 (ae y1 (opt (aw (d.2.2.2.1 y3) d.2.1) λaj=>ae y0 (ae y1 (ae (true&&wd (0+y3*1+1) 576) (ret (wr ((d.1.1,d.1.2.1,wI (d.1.2.2+1)),aj.2,d.2.2.1,λj=>bif ww j y3 then aj.1 else d.2.2.2.1 j,d.2.2.2.2))) no) no) no) no) no) (ret (wn ((d.1.1,d.1.2.1,d.1.2.2,y2),d.2)))
def Jk:=bw (Jj aS) 2000
def kR:=qs (st (pr (cu aO (us 7 (cu Gh (cu ayV (us 2 (cu Y5 (cu Ni (c ai (cu apA (us 48 aUI)))))))))) (pl (c cD (c jk (c aeY (c GA aaH)))) cN)))
def WQ:=qs (st (pr (cu aO (us 7 (cu Gh (cu ayV (us 2 (cu Y5 (cu Ni (c ai (cu apA (us 48 aUX)))))))))) (pl (c cD (c jk (c aeY (c GA aaH)))) cN)))
abbrev wx:=WQ.B
def WR {ρ:Type}:=@ef wx ((.ex 6)) WQ ρ
def Jl (aB:bS)(d:kR.B):PL kR wx:=let n2:=d.1.2;let n1:=d.2.2.2;let y0:=ws n2;let y1:=bg n2 48;let y2:=decide (n2<48);ae y2 (ae (bg d.1.1 24) (ae y1 (ae y1 (opt (aB (n1.2.1 (ws d.1.1*48+y0)) (n1.1 y0) 30 d.2.1) λaj=>ae y1 (ae (true&&wd (0+y0*1+1) 48) (ret (wr ((d.1.1,wI (n2+1)),aj.2,d.2.2.1,n1.1,n1.2.1,n1.2.2.1,λj=>bif ww j y0 then aj.1 else n1.2.2.2 j))) no) no) no) no) no) (ret (wn ((d.1.1,n2,y2),d.2)))
def Jm:=bw (Jl aZ) 2000
def kT:=qs (st (pr (cu aO (us 7 (cu Gh (cu ayV (us 2 (cu Y5 (cu Ni (c ai (cu apA (us 1 (c ai (c ai (c ai (us 76 (c ai (c ai (us 18 (cl ai (us 30 nil))))))))))))))))))) (pl (c cD (c jk (c aeY (c GA aaH)))) cN)))
def WT:=qs (st (pr (cu aO (us 7 (cu Gh (cu ayV (us 2 (cu Y5 (cu Ni (c ai (cu apA (us 1 (c ai (c ai (c ai (us 76 (c ai (c ai (us 18 aUZ))))))))))))))))) (pl (c cD (c jk (c aeY (c GA aaH)))) cN)))
abbrev wy:=WT.B
def WU {ρ:Type}:=@ef wy ((.ex 10)) WT ρ
def Jo (aB:bS)(aV:dk)(d:kT.B):PL kT wy:=let n3:=d.2.2.2;let n1:=d.1.2.2;let n2:=n1.2.2.2;let y0:=bg n1.1 24;let y1:=ws n2.2;let y2:=bg n2.2 48;let y3:=ws n1.1*48+y1;let y4:=decide (n2.2<48);ae y4 (ae y0 (ae y2 (ae (bg d.1.1 24) (ae y2 (opt (aB n1.2.1 (n3.2.1 (ws d.1.1*48+y1)) 30 d.2.1) λaj=>opt (aV (n3.2.1 y3) aj.1 aj.2) λaC=>ae y0 (ae y2 (ae (true&&wd (0+y3*1+1) 1152) (ret (wr ((d.1.1,d.1.2.1,n1.1,n1.2.1,n1.2.2.1,n2.1,wI (n2.2+1)),aC.2,d.2.2.1,n3.1,λj=>bif ww j y3 then aC.1 else n3.2.1 j,n3.2.2))) no) no) no) no) no) no) no) (ret (wn ((d.1.1,d.1.2.1,n1.1,n1.2.1,n1.2.2.1,n2.1,n2.2,y4),d.2)))
def Jq:=bw (Jo aZ bW) 2000
def kU:=qs (st (pr (cu aO (us 4 (cu Gh (cu aRI (cu ahL (cu Ni (cu apA (us 14 (cl ai (us 122 nil)))))))))) (pl (c cD (c jk (c mY (c oc aaH)))) cN)))
def WV:=qs (st (pr (cu aO (us 4 (cu Gh (cu aRI (cu ahL (cu Ni (cu apA (us 14 (c ai (cl ab (us 121 nil))))))))))) (pl (c cD (c jk (c mY (c oc aaH)))) cN)))
abbrev wz:=WV.B
def WW {ρ:Type}:=@ef wz ((.ex 0)) WV ρ
def Jr (aE:bY)(qo:LT kQ wv)(d:kU.B):PL kU wz:=let y0:=ws d.1;let y1:=bg d.1 24;let y2:=wI (24+d.1);let y3:=ws y2;let y4:=decide (d.1<24);ae y4 (ae y1 (ae y1 (opt (aE (d.2.2.2.2.1 y0) 0 72057594037927936 d.2.1) λaj=>ae (bg d.1 48) (ae (true&&wd (0+y0*1+1) 48) (ae (bg y2 48) (ae (true&&wd (0+y3*1+1) 48) (opt (qo ((d.1,d.1,0),aj.2,d.2.2.1,d.2.2.2.1,d.2.2.2.2.1,d.2.2.2.2.2.1,λj=>bif ww j y3 then aj.1 else bif ww j y0 then d.2.2.1.2 y0 else d.2.2.2.2.2.2 j)) λd=>ret (wr (wI (d.1.2.1+1),d.2))) no) no) no) no) no) no) (ret (wn ((d.1,y4),d.2)))
def Jt:=bw (Jr bh Jk) 2000
def kV:=qs (st (pr (cu aO (us 7 (cu Gh (cu ayV (us 2 (cu Y5 (cu Ni (c ai (cu apA (us 1 (c ai (us 78 (c ai (cl ai aUA)))))))))))))) (pl (c cD (c jk (c aeY (c GA aaH)))) cN)))
def WX:=qs (st (pr (cu aO (us 7 (cu Gh (cu ayV (us 2 (cu Y5 (cu Ni (c ai (cu apA (us 1 (c ai (us 78 (c ai (c ai (cl ab (us 48 nil)))))))))))))))) (pl (c cD (c jk (c aeY (c GA aaH)))) cN)))
abbrev wA:=WX.B
def WY {ρ:Type}:=@ef wA ((.ex 8)) WX ρ
def Ju (bd:eY)(aD:cK)(asQ:Wf)(l_5:LT kT wy)(d:kV.B):PL kV wA:=let n2:=d.2.2.2.2;let n1:=d.1.2.2;let y0:=decide (n1.2<n1.1);ae y0 (ae (bg n1.2 24) (opt (bd 30 48 48 d.2.1 (λj=>n2.1 (0+ws n1.2*48+j)) n2.2.2 false false) λaj=>opt (aD aj.1 d.1.2.1 30 aj.2) λaC=>opt (asQ n2.2.1.1 n2.2.1.2 n1.2 d.1.1 aC.1) λbx=>opt (l_5 ((d.1.1,d.1.2.1,n1.2,aC.1,n1.1,n1.2,0),aC.2,d.2.2.1,d.2.2.2.1,n2.1,bx,n2.2.2)) λd=>ret (wr ((d.1.1,d.1.2.1,d.1.2.2.2.2.1,wI (d.1.2.2.2.2.2.1+1)),d.2))) no) (ret (wn ((d.1.1,d.1.2.1,n1.1,n1.2,y0),d.2)))
def Jv:=bw (Ju bC bo I' Jq) 2000
def kW:=qs (st (pr (cu aO (us 7 (cu Gh (cu ayV (us 2 (cu Y5 (cu Ni (cl ai (us 132 nil))))))))) (pl (c cD (c jk (c aeY (c GA (cl jk nil))))) cN)))
def asT:=qs (st (pr (cu aO (us 7 (cu Gh (cu ayV (us 2 (cu Y5 (cu Ni (c ai (us 45 (c ai (cl ab (us 85 nil)))))))))))) (pl (c cD (c jk (c aeY (c GA (cl jk nil))))) cN)))
abbrev wB:=((Int×Bool)×Bool×(NI×NI)×NI×NI×NI×NI)
def WZ {ρ:Type}(x:wB)(K:AX->St->Option ρ):Option ρ:=(λd=>K (.ex 4) (asT.em ((d.1.1,d.1),d.2))) x
def Jw (aE:bY)(bd:eY)(l_3:LT kR wx)(l_4:LT kV wA)(d:kW.B):PL kW wB:=let y0:=decide (d.1>=0);ae y0 (opt (l_3 ((d.1,0),d.2.1,d.2.2.1,d.2.2.2.1,d.2.2.2.2.1,d.2.2.2.2.2,λx=>0)) λd=>let n1:=d.2.2.2.2;let y0:=ws d.1.1;let y1:=bg d.1.1 24;ae y1 (opt (bd 30 48 48 d.2.1 (λj=>n1.1 (0+y0*48+j)) n1.2.2 false false) λaj=>opt (aE aj.1 1 72057594037927936 aj.2) λaC=>ae y1 (ae (true&&wd (276+y0*1+1) 300) (opt (l_4 ((d.1.1,aC.1,d.1.1,0),aC.2,d.2.2.1,d.2.2.2.1,n1.1,(n1.2.1.1,λj=>bif ww j y0 then aC.1 else n1.2.1.2 j),n1.2.2)) λd=>ret (wr (wI (d.1.1-1),d.2.1,d.2.2.1,d.2.2.2.1,d.2.2.2.2.1,d.2.2.2.2.2.1))) no) no) no) (ret (wn ((d.1,y0),d.2)))
def Jx:=bw (Jw bh bC Jm Jv) 2000
def Ox (oC:vC)(axY:Ol)(eB:LT kU wz)(GM:LT kW wB)(x0:Nat->Int)(x1:Nat->Int)(x2:Nat->Int)(x3:Nat->Int)(x4:Bool):Pg adD:=opt (oC x0 x1 x4) λd=>opt (eB (0,d.2,d.1,x2,x3,(λx=>0,λx=>0),λx=>0)) λd=>opt (axY d.2.2.1.1 d.2.2.1.2 d.2.1 d.2.2.2.1) λaj=>opt (GM (23,aj.1,d.2.2.2.2.2.1,d.2.2.2.2.2.2,aj.2,λx=>0,λx=>0)) λd=>ret (d.2.2.2.2.2,d.2.1)
def qN:=λx0 x1 x2 x3 x4=>(Ox mP AI Jt Jx x0 x1 x2 x3 x4).val
abbrev mQ:=vC×bY×bM×Ol×bS×eY×cK×Wf×dk×(LT kQ wv)×(LT kR wx)×(LT kT wy)×(LT kU wz)×(LT kV wA)×(LT kW wB)
def oD (p:mQ):KK:=⟨[FP p.1,ek p.2.1,dD p.b.1,ady p.b.2.1,fG p.c.1,nI p.c.2.1,gO p.c.b.1,asJ p.c.b.2.1,iG p.d.1],⟨[⟨4,(rg 1 4 (rg 10 14 (rg 25 122 []))),[]⟩,⟨8,(rg 1 4 (rg 11 13 (rg 25 16 (rg 42 105 [])))),[]⟩,⟨16,(rg 1 7 (10::11::rg 15 132 [])),[]⟩,⟨20,(rg 1 7 (10::11::rg 16 48 (rg 65 82 []))),[]⟩,⟨27,(rg 1 7 (10::11::16::rg 18 78 (rg 98 49 []))),[]⟩,⟨32,(rg 1 7 (10::11::16::rg 20 76 (rg 98 18 (rg 117 30 [])))),[]⟩],[fY 8 1 kQ WO p.d.2.1,fY 20 1 kR WR p.d.b.1,fY 32 1 kT WU p.d.b.2.1,fY 4 1 kU WW p.d.c.1,fY 27 1 kV WY p.d.c.2.1,fY 16 1 kW WZ p.d.c.b],[],[],(some ⟨0,(rg 0 8 (rg 9 138 [])),[]⟩)⟩,1,163⟩
theorem aoN (p:mQ):LI (oD p) 8 kQ WO (Jj p.b.1):=λ_ d c K=>by kernel_rfl
theorem aoO (p:mQ):LI (oD p) 20 kR WR (Jl p.c.1):=λ_ d c K=>by kernel_rfl
theorem aoP (p:mQ):LI (oD p) 32 kT WU (Jo p.c.1 p.d.1):=λ_ d c K=>by kernel_rfl
theorem aoQ (p:mQ):LI (oD p) 4 kU WW (Jr p.2.1 p.d.2.1):=λ_ d c K=>by kernel_rfl
theorem aoR (p:mQ):LI (oD p) 27 kV WY (Ju p.c.2.1 p.c.b.1 p.c.b.2.1 p.d.b.2.1):=λ_ d c K=>by kernel_rfl
theorem aoS (p:mQ):LI (oD p) 16 kW WZ (Jw p.2.1 p.c.2.1 p.d.b.1 p.d.c.2.1):=λ_ d c K=>by kernel_rfl
theorem axZ (p:mQ):D2 (oD p) adC (lf L7) λb=>Ox p.1 p.b.2.1 p.d.c.1 p.d.c.b b.1.1.1 b.1.1.2 b.1.2.1 b.1.b b.2:=λb=>by kernel_rfl
abbrev oE:mQ:=(mP,bh,aS,AI,aZ,bC,bo,I',bW,Jk,Jm,Jq,Jt,Jv,Jx)
theorem adE [ax]:SC (Ow qN):=sc (kS (k:=oD oE) (.c Og (.c eU (.c dI (.c axS (.c fZ (.c pe (.c iF (.c aEN (.c jz (.nil _)))))))))) [4,8,16,20,27,32] [] ⟨kL (aoQ oE),⟨kL (aoN oE),⟨kL (aoS oE),⟨kL (aoO oE),⟨kL (aoR oE),⟨kL (aoP oE),trivial⟩⟩⟩⟩⟩⟩ trivial (axZ oE))
def az3:=qa (pl iL nil)
def agE:=qe Et
abbrev az4:=agE.B
abbrev amg:=Int->Option az4
def az5 (g:amg):Ct:=(214,FC az3 (lf agE) (λb=>g b))
def ZP (x0:Int):Pg az4:=ae (decide (x0>=0)) (ret (decide (x0<24))) (ret false)
def EV:=λx0=>(ZP x0).val
theorem aNQ:D0 [] 214 az3 (lf agE) λb=>ZP b:=λb=>by kernel_rfl
theorem aNR [ax]:SC (az5 EV):=s0 (.nil _) aNQ
def ZQ:=qa (pr (cu aO iL) bB)
def Jy:=qe qA
abbrev ZR:=Jy.B
abbrev L8:=Int->Bool->Option ZR
def ZS (g:L8):Ct:=(215,FC ZQ (lf Jy) (λb=>g b.1 b.2))
def L9 (aE:bY)(x0:Int)(x1:Bool):Pg ZR:=opt (aE x0 1 72057594037927936 x1) λd=>ret d
def yC:=λx0 x1=>(L9 bh x0 x1).val
theorem avh:∀aE,D0 [ek aE] 215 ZQ (lf Jy) λb=>L9 aE b.1 b.2:=λ_ b=>by kernel_rfl
theorem avi [ax]:SC (ZS yC):=s0 (.c eU (.nil _)) (avh bh)
def amh:=qa (dp (cu aO (c Bz aPq)) λa=>(c xi (cl (cl (gs a.b.1 ot) nil) nil)))
def SN:=qe aVX
abbrev W0:=SN.B
abbrev cJ:=NI->NI->Int->Nat->Bool->NI->Bool->Option W0
def AM (g:cJ):Ct:=(161,uV 3 [.i .i64] (FC amh (lf SN) (λb=>g b.1.1.1 b.1.1.2 b.1.2.1 b.1.b.1 b.2.1 b.b b.1.b.2)))
def ni:=qs (st (dp (cu aO (us 1 (c ai (us 2 (cu Y4 (us 2 (cu aHx (cu aHz (cu apB (us 4 (c Hl (c ai aIV)))))))))))) λa=>(pl (c cD (c (so (cl (gs a.2.1.1 ot) nil)) aWi)) cN)))
def ax0:=qs (st (pr (cu aO (us 1 (c ai (us 2 (cu Y4 (us 2 (cu aHx (cu aHz (cu apB (us 4 (c Hl (c ai aI3)))))))))))) (pl (c cD (c IM aWi)) cN)))
abbrev AN:=((Int×(Nat×Bool)×Int×Int×Bool)×Bool×NI×(NI×NI)×(NI×NI)×Ir×NI)
def adF {ρ:Type}(x:AN)(K:AX->St->Option ρ):Option ρ:=(λd=>K (.ex 0) (ax0.em (d.1,d.2.1,(d.1.2.1.1,d.b.1),d.b.2))) x
def Oy (aNS:amg)(avj:L8)(d:ni.B):PL ni AN:=let n3:=d.2.2;let n2:=d.1.2.2;let n1:=(d.1.1,d.1.2.1,n2.1,wI (n2.2+1));let y0:=wI (d.1.1+n2.2);let y1:=ws y0;let y2:=bg y0 24;let y3:=decide (n2.2<n2.1);let y4:=y1*24+y1;ae y3 (ae (bg n2.2 d.1.2.1.1) (opt (aNS y0) λaj=>ae aj (opt (avj (n3.1 (ws n2.2)) d.2.1) λaC=>ae y2 (ae y2 (ae (true&&wd (0+y4*1+1) 576) (ae y2 (ae (true&&wd (0+y1*1+1) 24) (ret (wr (n1,aC.2,n3.1,n3.2.1,n3.2.2.1,λj=>bif ww j y4 then 0 else n3.2.2.2.1 j,λj=>bif ww j y1 then aC.1 else n3.2.2.2.2 j))) no) no) no) no) no) (ret (wr (n1,d.2)))) no) (ret (wn ((d.1.1,d.1.2.1,n2.1,n2.2,y3),d.2)))
def Oz:=bw (Oy EV yC) 2000
def W2 (SO:CR)(vH:FY)(eB:LT ni AN)(x0:Nat->Int)(x1:Nat->Int)(x2:Int)(x3:Nat)(x4:Bool)(x5:Nat->Int)(w0:Bool):Pg W0:=opt SO λd=>ae (ww x3 x3) (opt (eB ((x2,(x3,w0),wl x3,0),x4,x5,(x0,x1),(λx=>0,λx=>0),d,λx=>0)) λd=>opt (vH d.2.2.2.1.1 d.2.2.2.1.2 d.2.2.2.2.2.1 d.2.2.2.2.2.2 d.2.1) λd=>ret d) no
def dX:=λx0 x1 x2 x3 x4 x5 w0=>(W2 tJ qN Oz x0 x1 x2 x3 x4 x5 w0).val
abbrev Ma:=CR×amg×L8×FY×(LT ni AN)
def W3 (p:Ma):KK:=⟨[Sx p.1,az5 p.2.1,ZS p.b.1,Ow p.b.2.1],⟨[⟨4,(1::3::4::6::7::rg 11 4 (rg 18 24 [])),[]⟩],[fY 4 2 ni adF p.c],[0],[],(some ⟨0,(rg 0 8 (rg 9 33 [])),[]⟩)⟩,2,161⟩
theorem avk (p:Ma):LI (W3 p) 4 ni adF (Oy p.2.1 p.b.1):=λ_ d c K=>by kernel_rfl
theorem aE4 (p:Ma):D2 (W3 p) amh (lf SN) λb=>W2 p.1 p.b.2.1 p.c b.1.1.1 b.1.1.2 b.1.2.1 b.1.b.1 b.2.1 b.b b.1.b.2:=λb=>by kernel_rfl
abbrev Xa:Ma:=(tJ,EV,yC,qN,Oz)
theorem EW [ax]:SC (AM dX):=sc (Sound.nil 3 [.i .i64]<|kS (k:=W3 Xa) (.c aii (.c aNR (.c avi (.c adE (.nil _))))) [4] [] ⟨kL (avk Xa),trivial⟩ trivial (aE4 Xa))
def avl:=qa (pr (cu aO ae2) bB)
def abZ:=qe aCY
abbrev avm:=abZ.B
abbrev avn:=NI->Int->Bool->Option avm
def avo (g:avn):Ct:=(165,FC avl (lf abZ) (λb=>g b.1.1 b.1.2 b.2))
def pS:=qs (st (pr (cu aO (us 3 (cu TN (us 1 (cu DT (c ai (us 4 (cl ai (us 14 nil))))))))) (pl (c cD NG) cN)))
def ami:=qs (st (pr (cu aO (us 3 (cu TN (us 1 (cu DT (c ai (us 4 (c ai (cl ab (us 13 nil)))))))))) (pl (c cD NG) cN)))
abbrev EX:=ami.B
def amj {ρ:Type}:=@ef EX ((.ex 0)) ami ρ
def Xb (aB:bS)(aE:bY)(d:pS.B):PL pS EX:=let y0:=ws d.1.2;let y1:=bg d.1.2 24;let y2:=decide (d.1.2<24);ae y2 (ae y1 (opt (aB (d.2.2.1 y0) d.1.1 30 d.2.1) λaj=>opt (aE aj.1 0 72057594037927936 aj.2) λaC=>ae y1 (ae (true&&wd (0+y0*1+1) 24) (ret (wr ((d.1.1,wI (d.1.2+1)),aC.2,λj=>bif ww j y0 then aC.1 else d.2.2.1 j,d.2.2.2))) no) no) no) (ret (wn ((d.1.1,d.1.2,y2),d.2)))
def Xc:=bw (Xb aZ bh) 2000
def agF (oB:vG)(eB:LT pS EX)(x0:Nat->Int)(x1:Int)(x2:Bool):Pg avm:=opt (oB x1 x2) λd=>opt (eB ((d.1,0),d.2,x0,λx=>0)) λd=>ret (d.2.2.1,d.2.1)
def Mb:=λx0 x1 x2=>(agF kz Xc x0 x1 x2).val
abbrev UG:=vG×bS×bY×(LT pS EX)
def agG (p:UG):KK:=⟨[FX p.1,fG p.2.1,ek p.b.1],⟨[⟨3,(1::2::3::5::rg 8 4 (rg 13 14 [])),[]⟩],[fY 3 1 pS amj p.b.2],[],[],(some ⟨0,(rg 0 6 (rg 7 20 [])),[]⟩)⟩,1,165⟩
theorem aBE (p:UG):LI (agG p) 3 pS amj (Xb p.2.1 p.b.1):=λ_ d c K=>by kernel_rfl
theorem aKq (p:UG):D2 (agG p) avl (lf abZ) λb=>agF p.1 p.b.2 b.1.1 b.1.2 b.2:=λb=>by kernel_rfl
abbrev agH:UG:=(kz,aZ,bh,Xc)
theorem aKr [ax]:SC (avo Mb):=sc (kS (k:=agG agH) (.c Ov (.c fZ (.c eU (.nil _)))) [3] [] ⟨kL (aBE agH),trivial⟩ trivial (aKq agH))
def aio:=qa (pr (cu aO (c Bz ae2)) bB)
def OA:=qe (res (pu (app 1 373) (pr mX (cl aV3 nil))))
abbrev aip:=OA.B
abbrev Iu:=NI->NI->NI->Int->Bool->Option aip
def SP (g:Iu):Ct:=(273,FC aio (lf OA) (λb=>g b.1.1.1 b.1.1.2 b.1.2.1 b.1.b b.2))
def mc:=qs (st (pr (cu aO (us 2 (c ai (us 2 (cu TN (us 2 (cu aHA (us 9 (cl ai (us 98 nil)))))))))) (pl (c cD (c oc (cl RU nil))) cN)))
def ZT:=qs (st (pr (cu aO (us 2 (c ai (us 2 (cu TN (us 2 (cu aHA (us 9 (c ai (cl ab (us 97 nil))))))))))) (pl (c cD (c oc (cl RU nil))) cN)))
abbrev yD:=ZT.B
def ZU {ρ:Type}:=@ef yD ((.ex 0)) ZT ρ
def Mc (aw:bM)(d:mc.B):PL mc yD:=let y0:=ws d.1.2;let y1:=bg d.1.2 24;let y2:=decide (d.1.2<24);ae y2 (ae y1 (opt (aw (d.2.2.1 y0) d.2.1) λaj=>ae y1 (ae (true&&wd (0+y0*1+1) 24) (ret (wr ((d.1.1,wI (d.1.2+1)),aj.2,λj=>bif ww j y0 then aj.1 else d.2.2.1 j,d.2.2.2))) no) no) no) (ret (wn ((d.1.1,d.1.2,y2),d.2)))
def Md:=bw (Mc aS) 2000
def me:=qs (st (dp (cu aO (us 5 (cu TN (us 2 (cu aHA (us 1 (c ai (c aVH (us 24 (c ai (us 3 (c ai aUJ)))))))))))) λa=>(pl (c cD (c oc (c RU (cl (so (cl (gs a.2.1 ot) nil)) nil)))) cN)))
def avp:=qs (st (pr (cu aO (us 5 (cu TN (us 2 (cu aHA (us 1 (c ai (c aVH (us 24 (c ai (us 3 (c ai (c ai (cl ab (us 74 nil))))))))))))))) (pl (c cD (c oc (c RU ake))) cN)))
abbrev yE:=((Int×Nat×Int×Int×Int×Bool)×Bool×NI×(NI×NI×NI×NI×NI)×NI)
def ZV {ρ:Type}(x:yE)(K:AX->St->Option ρ):Option ρ:=(λd=>K (.ex 4) (avp.em (d.1,d.2.1,d.b.1,d.b.2.1,d.1.2.1,d.c))) x
def Me (alW:We)(d:me.B):PL me yE:=let n2:=d.2.2.2;let n1:=d.1.2.2;let y0:=d.1.2.1+1;let y1:=decide (n1.2.2<n1.2.1);ae y1 (opt (alW n2.1.1 n2.1.2.1 n1.2.2 d.1.1) λaj=>ae (wd (y0*8) 140737488355328) (ret (wr ((d.1.1,y0,n1.1,n1.2.1,wI (n1.2.2+1)),d.2.1,d.2.2.1,n2.1,λj=>bif ww j d.1.2.1 then aj else n2.2 j))) no) (ret (wn ((d.1.1,d.1.2.1,n1.1,n1.2.1,n1.2.2,y1),d.2)))
def Mf:=bw (Me LK) 2000
def mf:=qs (st (pr (cu aO (us 5 (cu TN (us 2 (cu aHA (us 27 aUK)))))) (pl (c cD (c oc (cl RU nil))) cN)))
def ZW:=qs (st (pr (cu aO (us 5 (cu TN (us 2 (cu aHA (us 27 (c ai (cl ab (us 79 nil))))))))) (pl (c cD (c oc (cl RU nil))) cN)))
abbrev yF:=ZW.B
def ZX {ρ:Type}:=@ef yF ((.ex 2)) ZW ρ
def Mg (bd:eY)(aB:bS)(ck:fH)(GM:LT me yE)(d:mf.B):PL mf yF:=let y0:=decide (d.1<24);ae y0 (ae true (opt (GM ((d.1,0,d.1,wI (d.1+1),0),d.2.1,d.2.2.1,d.2.2.2,λx=>0)) λd=>let n2:=d.2.2;let n1:=n2.2.1.2;let n3:=n1.2.2;let y0:=ws d.1.1;let y1:=bg d.1.1 24;let y2:=y0*1;let y3:=wI (d.1.1+1);let y4:=ws y3;let y5:=wd (0+y2+1) 24;let y6:=ww y0 y0;ae (Kg y3 24) (ae (ww y4 y4) (ae (ww d.1.2.1 d.1.2.1) (opt (bd 30 y4 d.1.2.1 d.2.1 n2.1 n2.2.2 false true) λaj=>let ub:=bif y6 then aj.1 else n1.2.1 y0;ae y1 (ae (y5&&wd (300+y2+1) 373) (ae y1 (ae y5 (ae y1 (ae y5 (opt (aB (n1.1 y0) ub 30 aj.2) λaC=>ae y1 (ae (y5&&wd (324+y2+1) 373) (ae (bg d.1.1 25) (ae y1 (ae y5 (ae y1 (ae y5 (opt (aB ub (bif y6 then aC.1 else n3.1 y0) 30 aC.2) λbx=>opt (ck 2 bx.2 (cr (n3.2 y0) [bx.1,n3.2 y0]) true) λcH=>ae (bg y3 25) (ae (true&&wd (348+y4*1+1) 373) (ret (wr (wI (d.1.2.2.1+1),cH.2,n2.1,n2.2.1.1,n1.1,λj=>bif ww j y0 then aj.1 else n1.2.1 j,λj=>bif ww j y0 then aC.1 else n3.1 j,λj=>bif ww j y4 then cH.1 else n3.2 j))) no) no) no) no) no) no) no) no) no) no) no) no) no) no) no) no) no) no) no) (ret (wn ((d.1,y0),d.2)))
def Mh:=bw (Mg bC aZ cY Mf) 2000
def SQ (oC:vC)(aE:bY)(eB:LT mc yD)(qo:LT mf yF)(x0:Nat->Int)(x1:Nat->Int)(x2:Nat->Int)(x3:Int)(x4:Bool):Pg aip:=opt (oC x0 x1 x4) λd=>opt (eB ((x3,0),d.2,x2,d.1.1,d.1.2,λx=>0,λx=>0,λx=>0)) λd=>let n1:=d.2.2.2;opt (aE d.1.1 1 72057594037927936 d.2.1) λaj=>opt (qo (0,aj.2,d.2.2.1,n1.1,n1.2.1,n1.2.2.1,n1.2.2.2.1,λj=>bif ww j 0 then aj.1 else n1.2.2.2.2 j)) λd=>ret (d.2.1,d.2.2.2)
def tM:=λx0 x1 x2 x3 x4=>(SQ mP bh Md Mh x0 x1 x2 x3 x4).val
abbrev xV:=vC×bM×bY×We×eY×bS×fH×(LT mc yD)×(LT me yE)×(LT mf yF)
def CU (p:xV):KK:=⟨[FP p.1,dD p.2.1,ek p.b.1,auX p.b.2.1,nI p.c.1,fG p.c.2.1,pd p.c.b.1],⟨[⟨3,(1::2::4::5::7::8::rg 10 9 (rg 20 98 [])),[]⟩,⟨9,(rg 1 5 (7::8::rg 10 27 (rg 38 80 []))),[]⟩,⟨13,(rg 1 5 (7::8::10::rg 13 24 (38::39::40::rg 43 75 []))),[(12,[.i .i64])]⟩],[fY 3 1 mc ZU p.c.b.2.1,fY 13 1 me ZV p.d.1,fY 9 1 mf ZX p.d.2],[],[],(some ⟨0,(rg 0 8 (rg 9 109 [])),[]⟩)⟩,1,273⟩
theorem asU (p:xV):LI (CU p) 3 mc ZU (Mc p.2.1):=λ_ d c K=>by kernel_rfl
theorem asV (p:xV):LI (CU p) 13 me ZV (Me p.b.2.1):=λ_ d c K=>by kernel_rfl
theorem asW (p:xV):LI (CU p) 9 mf ZX (Mg p.c.1 p.c.2.1 p.c.b.1 p.d.1):=λ_ d c K=>by kernel_rfl
theorem aBF (p:xV):D2 (CU p) aio (lf OA) λb=>SQ p.1 p.b.1 p.c.b.2.1 p.d.2 b.1.1.1 b.1.1.2 b.1.2.1 b.1.b b.2:=λb=>by kernel_rfl
abbrev CW:xV:=(mP,aS,bh,LK,bC,aZ,cY,Md,Mf,Mh)
theorem aiq [ax]:SC (SP tM):=sc (kS (k:=CU CW) (.c Og (.c dI (.c eU (.c aEK (.c pe (.c fZ (.c rz (.nil _)))))))) [3,9,13] [] ⟨kL (asU CW),⟨kL (asW CW),⟨kL (asV CW),trivial⟩⟩⟩ trivial (aBF CW))
def Nj:=qa (pr (cu aO (c Bz ae2)) bB)
def BQ:=qe qA
abbrev Nk:=BQ.B
abbrev Nl:=NI->NI->NI->Int->Bool->Option Nk
def Nm (g:Nl):Ct:=(268,FC Nj (lf BQ) (λb=>g b.1.1.1 b.1.1.2 b.1.2.1 b.1.b b.2))
def DF (xW:Iu)(x0:Nat->Int)(x1:Nat->Int)(x2:Nat->Int)(x3:Int)(x4:Bool):Pg Nk:=opt (xW x0 x1 x2 x3 x4) λd=>ret (d.2.2.2.2.2 24,d.1)
def qu:=λx0 x1 x2 x3 x4=>(DF tM x0 x1 x2 x3 x4).val
theorem ajA:∀xW,D0 [SP xW] 268 Nj (lf BQ) λb=>DF xW b.1.1.1 b.1.1.2 b.1.2.1 b.1.b b.2:=λ_ b=>by kernel_rfl
theorem ajB [ax]:SC (Nm qu):=s0 (.c aiq (.nil _)) (ajA tM)
def az6:=qa (pl (c aeW aCS) nil)
def agI:=qe Gy
abbrev az7:=agI.B
abbrev az8:=Int->Int->Int->Int->Option az7
def az9 (g:az8):Ct:=(274,FC az6 (lf agI) (λb=>g b.1.1 b.1.2 b.2.1 b.b))
def amk (x0:Int)(x1:Int)(x2:Int)(x3:Int):Pg az7:=let y0:=x0==x2;ae (y0&&(x1==x3&&true)) (ret 0) (ae (decide (x0<x2)) (ret (-1)) (ae y0 (ae (decide (x1<x3)) (ret (-1)) (ret 1)) (ret 1)))
def QM:=λx0 x1 x2 x3=>(amk x0 x1 x2 x3).val
theorem aNT:D0 [] 274 az6 (lf agI) λb=>amk b.1.1 b.1.2 b.2.1 b.b:=λb=>by kernel_rfl
theorem aNU [ax]:SC (az9 QM):=s0 (.nil _) aNT
def aml:=qa (pl Eu nil)
def SS:=qe Et
abbrev amm:=SS.B
abbrev amn:=Int->Int->Int->Option amm
def amo (g:amn):Ct:=(269,FC aml (lf SS) (λb=>g b.1 b.2.1 b.b))
def Xd (aw:bM)(cT:ou)(ZY:az8)(x0:Int)(x1:Int)(x2:Int):Pg amm:=opt (aw x0 false) λd=>opt (aw x1 d.2) λaj=>ae (decide (x2<1)) (ret false) (ae (decide (x2>1000)) (ret false) (ae (decide (aj.1<1)) (ret false) (opt (cT d.1 d.1) λd=>opt (cT (wI (wI (x2*x2)*65536)) aj.1) λaC=>opt (ZY d.1 d.2 aC.1 aC.2) λd=>ret (decide (d<=0)))))
def EY:=λx0 x1 x2=>(Xd aS fQ QM x0 x1 x2).val
theorem aE5:∀aw cT ZY,D0 [dD aw,yf cT,az9 ZY] 269 aml (lf SS) λb=>Xd aw cT ZY b.1 b.2.1 b.b:=λ_ _ _ b=>by kernel_rfl
theorem aE6 [ax]:SC (amo EY):=s0 (.c dI (.c Bk (.c aNU (.nil _)))) (aE5 aS fQ QM)
def ZZ:=qa (pr (cu aO (c Bz ae2)) bB)
def Jz:=qe (res (pr (rU (c ar0 (c aj8 aeV))) (pl mX nil)))
abbrev Z0:=Jz.B
abbrev Z1:=NI->NI->NI->Int->Bool->Option Z0
def Z2 (g:Z1):Ct:=(270,FC ZZ (lf Jz) (λb=>g b.1.1.1 b.1.1.2 b.1.2.1 b.1.b b.2))
def jH:=qs (st (pr (cu aO (us 7 (cu Gh (cu DT (us 1 (cu aHB (cu Ni (cu apB (c ai (c ai (us 13 (c ai (us 52 (c ai (cl ai (us 65 nil)))))))))))))))) (pl (c cD (c jk (c oc (c RU (c jk IL))))) cN)))
def TT:=qs (st (pr (cu aO (us 7 (cu Gh (cu DT (us 1 (cu aHB (cu Ni (cu apB (c ai (c ai (us 13 (c ai (us 52 (c ai (c ai (cl ab (us 64 nil))))))))))))))))) (pl (c cD (c jk (c oc (c RU (c jk IL))))) cN)))
abbrev ud:=TT.B
def TU {ρ:Type}:=@ef ud ((.ex 2)) TT ρ
def GN (alW:We)(aB:bS)(ck:fH)(asQ:Wf)(d:jH.B):PL jH ud:=let n4:=d.1.1;let n3:=d.1.2;let n2:=d.2.2.2.2;let n1:=n3.2.2;let y0:=ws n4;let y1:=ws n1.2;let y2:=bg n1.2 24;let y3:=decide (n1.2<n1.1);ae y3 (opt (alW n2.1.1 n2.1.2.1 n1.2 n4) λaj=>ae y2 (opt (aB (n2.2.2 y1) n3.1 44 d.2.1) λaC=>opt (ck 2 aC.2 (cr aj [aC.1,aj]) true) λbx=>opt (asQ n2.2.1.1 n2.2.1.2 n1.2 n4 bx.1) λcH=>ae y2 (ae (bg n4 24) (ae (wd (0+y0*1+1) 24) (opt (aB aj (n2.1.2.2.2.1 y0) 30 bx.2) λfx=>opt (ck 2 fx.2 (cr (n2.2.2 y1) [fx.1,n2.2.2 y1]) true) λdx=>ae y2 (ae (true&&wd (0+y1*1+1) 24) (ret (wr ((n4,n3.1,n3.2.1,n1.1,wI (n1.2+1)),dx.2,d.2.2.1,d.2.2.2.1,n2.1,cH,λj=>bif ww j y1 then dx.1 else n2.2.2 j))) no) no) no) no) no) no) (ret (wn ((n4,n3.1,n3.2.1,n1.1,n1.2,y3),d.2)))
def GO:=bw (GN LK aZ cY I') 2000
def jI:=qs (st (pr (cu aO (us 7 (cu Gh (cu DT (us 1 (cu aHB (cu Ni (cu apB (us 4 (cu (app 6 24) (us 107 aUH))))))))))) (pl (c cD (c jk (c oc (c RU (c jk NG))))) cN)))
def TV:=qs (st (pr (cu aO (us 7 (cu Gh (cu DT (us 1 (cu aHB (cu Ni (cu apB (us 4 (cu (app 6 24) (us 107 (c ai aPd)))))))))))) (pl (c cD (c jk (c oc (c RU (c jk NG))))) cN)))
abbrev ue:=TV.B
def TW {ρ:Type}:=@ef ue ((.ex 4)) TV ρ
def GP (aD:cK)(d:jI.B):PL jI ue:=let n1:=d.2.2.2.2;let y0:=ws d.1;let y1:=bg d.1 24;let y2:=decide (d.1<24);ae y2 (ae y1 (opt (aD (n1.2.2.1 y0) (n1.1.2.2.2.2 24) 30 d.2.1) λaj=>ae y1 (ae (true&&wd (0+y0*1+1) 24) (ret (wr (wI (d.1+1),aj.2,d.2.2.1,d.2.2.2.1,n1.1,n1.2.1,n1.2.2.1,λj=>bif ww j y0 then aj.1 else n1.2.2.2 j))) no) no) no) (ret (wn ((d.1,y2),d.2)))
def GQ:=bw (GP bo) 2000
def jJ:=qs (st (pr (cu aO (us 7 (cu Gh (cu DT (us 1 (cu aHB (cu Ni (cu apB (us 15 (cl ai (us 119 nil))))))))))) (pl (c cD (c jk (c oc (c RU (c jk IL))))) cN)))
def TX:=qs (st (pr (cu aO (us 7 (cu Gh (cu DT (us 1 (cu aHB (cu Ni (cu apB (us 15 (c ai (cl ab (us 118 nil)))))))))))) (pl (c cD (c jk (c oc (c RU (c jk IL))))) cN)))
abbrev uf:=TX.B
def TY {ρ:Type}:=@ef uf ((.ex 0)) TX ρ
def GR (aq:cx)(aE:bY)(aD:cK)(qo:LT jH ud)(d:jJ.B):PL jJ uf:=let n1:=d.2.2.2.2;let n2:=n1.1.2.2;let y0:=ws d.1;let y1:=bg d.1 25;let y2:=bg d.1 24;let y3:=y0*1;let y4:=wI (d.1+1);let y5:=wd (0+y3+1) 24;let y6:=decide (d.1<24);ae y6 (ae y2 (ae y5 (ae y1 (ae (bg y4 25) (opt (aq (n1.1.2.1 y0) (n2.2.2 y0) (n2.2.2 (ws y4)) d.2.1) λaj=>opt (aE aj.1 1 72057594037927936 aj.2) λaC=>ae y2 (ae (true&&wd (276+y3+1) 300) (ae y2 (ae y5 (ae y1 (opt (aD (n2.1 y0) (n2.2.2 y0) 44 aC.2) λbx=>ae y2 (ae y5 (ae y2 (ae (true&&y5) (opt (qo ((d.1,wI (0-bx.1),d.1,d.1,0),bx.2,d.2.2.1,d.2.2.2.1,n1.1,(n1.2.1.1,λj=>bif ww j y0 then aC.1 else n1.2.1.2 j),λj=>bif ww j y0 then n2.2.1 y0 else n1.2.2 j)) λd=>ret (wr (wI (d.1.2.2.1+1),d.2))) no) no) no) no) no) no) no) no) no) no) no) no) no) (ret (wn ((d.1,y6),d.2)))
def GS:=bw (GR aU bh bo GO) 2000
def Mi (xW:Iu)(GM:LT jI ue)(eB:LT jJ uf)(x0:Nat->Int)(x1:Nat->Int)(x2:Nat->Int)(x3:Int)(x4:Bool):Pg Z0:=opt (xW x0 x1 x2 x3 x4) λd=>opt (eB (0,d.1,(λx=>0,λx=>0),λx=>0,d.2,(d.2.1,d.2.2.1),λx=>0)) λd=>opt (GM (0,d.2.1,d.2.2.1,d.2.2.2.1,d.2.2.2.2.1,d.2.2.2.2.2.1,d.2.2.2.2.2.2,λx=>0)) λd=>ret ((d.2.2.2.2.2.1,d.2.2.2.2.2.2.2,d.2.2.2.2.1.2.2.2.2 24),d.2.1)
def yG:=λx0 x1 x2 x3 x4=>(Mi tM GQ GS x0 x1 x2 x3 x4).val
abbrev tu:=Iu×cx×bY×cK×We×bS×fH×Wf×(LT jH ud)×(LT jI ue)×(LT jJ uf)
def yH (p:tu):KK:=⟨[SP p.1,dA p.2.1,ek p.b.1,gO p.b.2.1,auX p.c.1,fG p.c.2.1,pd p.c.b.1,asJ p.c.b.2.1],⟨[⟨5,(rg 1 7 (10::rg 14 15 (rg 30 119 []))),[]⟩,⟨11,(rg 1 7 (10::rg 16 13 (rg 30 52 (rg 84 65 [])))),[]⟩,⟨20,(rg 1 7 (10::rg 14 4 (rg 19 107 (rg 127 22 [])))),[]⟩],[fY 11 1 jH TU p.d.1,fY 20 1 jI TW p.d.2.1,fY 5 1 jJ TY p.d.b],[],[],(some ⟨0,(rg 0 8 (rg 11 138 [])),[]⟩)⟩,1,270⟩
theorem amp (p:tu):LI (yH p) 11 jH TU (GN p.c.1 p.c.2.1 p.c.b.1 p.c.b.2.1):=λ_ d c K=>by kernel_rfl
theorem amq (p:tu):LI (yH p) 20 jI TW (GP p.b.2.1):=λ_ d c K=>by kernel_rfl
theorem amr (p:tu):LI (yH p) 5 jJ TY (GR p.2.1 p.b.1 p.b.2.1 p.d.1):=λ_ d c K=>by kernel_rfl
theorem avq (p:tu):D2 (yH p) ZZ (lf Jz) λb=>Mi p.1 p.d.2.1 p.d.b b.1.1.1 b.1.1.2 b.1.2.1 b.1.b b.2:=λb=>by kernel_rfl
abbrev yI:tu:=(tM,aU,bh,bo,LK,aZ,cY,I',GO,GQ,GS)
theorem avr [ax]:SC (Z2 yG):=sc (kS (k:=yH yI) (.c aiq (.c dL (.c eU (.c iF (.c aEK (.c fZ (.c rz (.c aEN (.nil _))))))))) [5,11,20] [] ⟨kL (amr yI),⟨kL (amp yI),⟨kL (amq yI),trivial⟩⟩⟩ trivial (avq yI))
def air:=qa (pr (cu aO ae2) bB)
def OB:=qe aCY
abbrev ais:=OB.B
abbrev ait:=NI->Int->Bool->Option ais
def aiu (g:ait):Ct:=(272,FC air (lf OB) (λb=>g b.1.1 b.1.2 b.2))
def mg:=qs (st (pr (cu aO (us 1 (c ai (us 1 (cu TN (us 1 (cu DT (us 1 aUL)))))))) (pl (c cD NG) cN)))
def Z3:=qs (st (pr (cu aO (us 1 (c ai (us 1 (cu TN (us 1 (cu DT (us 1 aPo)))))))) (pl (c cD NG) cN)))
abbrev yJ:=Z3.B
def Z4 {ρ:Type}:=@ef yJ ((.ex 0)) Z3 ρ
def Mj (aB:bS)(d:mg.B):PL mg yJ:=let y0:=ws d.1.2;let y1:=bg d.1.2 24;let y2:=decide (d.1.2<24);ae y2 (ae y1 (opt (aB (d.2.2.1 y0) d.1.1 30 d.2.1) λaj=>ae y1 (ae (true&&wd (0+y0*1+1) 24) (ret (wr ((d.1.1,wI (d.1.2+1)),aj.2,λj=>bif ww j y0 then aj.1 else d.2.2.1 j,d.2.2.2))) no) no) no) (ret (wn ((d.1.1,d.1.2,y2),d.2)))
def Mk:=bw (Mj aZ) 2000
def SU (eB:LT mg yJ)(x0:Nat->Int)(x1:Int)(x2:Bool):Pg ais:=opt (eB ((x1,0),x2,x0,λx=>0)) λd=>ret (d.2.2.1,d.2.1)
def CX:=λx0 x1 x2=>(SU Mk x0 x1 x2).val
abbrev Iv:=bS×(LT mg yJ)
def SV (p:Iv):KK:=⟨[fG p.1],⟨[⟨2,(1::3::5::7::rg 9 12 []),[]⟩],[fY 2 1 mg Z4 p.2],[0],[],(some ⟨0,(rg 0 6 (rg 7 14 [])),[]⟩)⟩,1,272⟩
theorem asX (p:Iv):LI (SV p) 2 mg Z4 (Mj p.1):=λ_ d c K=>by kernel_rfl
theorem aBG (p:Iv):D2 (SV p) air (lf OB) λb=>SU p.2 b.1.1 b.1.2 b.2:=λb=>by kernel_rfl
abbrev SW:Iv:=(aZ,Mk)
theorem aBH [ax]:SC (aiu CX):=sc (kS (k:=SV SW) (.c fZ (.nil _)) [2] [] ⟨kL (asX SW),trivial⟩ trivial (aBG SW))
def Ml:=qa (dp (cu aO (c lW (cl aCM nil))) λa=>(c xi (cl (cl (gs a.2.1 aDc) nil) nil)))
def ab0:=qe (res (pr lW (pl ND nil)))
abbrev avs:=ab0.B
abbrev avt:=Ml.B->Option avs
def avu (g:avt):Ct:=(271,uV 2 [.i .i64,.i .i64,.i .i64,.i .i64,.i .i64,.i .i64,.i .i64,.i .i64,.i .i64,.i .i64,.i .i64,.i .i64,.i .i64,.i .i64,.i .i64,.i .i64,.i .i64,.i .i64,.i .i64,.i .i64,.i .i64,.i .i64,.i .i64,.i .i64] (FC Ml (lf ab0) g))
def pT:=qs (st (dp (cu aO (us 3 (cu DT (us 1 (cu ahL (us 1 (cu apz (us 7 (c aCM (c ai (c ai (us 3 aIV)))))))))))) λa=>(pl (c cD (c (so (cl (gs a.1.1 aDc) nil)) aJp)) cN)))
def aE7:=qs (st (pr (cu aO (us 3 (cu DT (us 1 (cu ahL (us 1 (cu apz (us 7 (c aCM (c ai (c ai (us 3 aI3)))))))))))) (pl (c cD (c aWl aJp)) cN)))
abbrev EZ:=(((Nat×Bool)×Int×Int×Int×Bool)×Bool×aZW×NI×NI×NI)
def ams {ρ:Type}(x:EZ)(K:AX->St->Option ρ):Option ρ:=(λd=>K (.ex 2) (aE7.em (d.1,d.2.1,(d.1.1.1,d.b.1),d.b.2))) x
def Xe (ck:fH)(d:pT.B):PL pT EZ:=let n2:=d.2.2.2;let n1:=d.1.2.2;let y0:=ws n1.2;let y1:=bg n1.2 24;let y2:=decide (n1.2<24);ae y2 (ae y1 (ae y1 (opt (ck 2 d.2.1 (cr (n2.1 y0) [n2.2.2 y0,n2.1 y0]) true) λaj=>ae y1 (ae (true&&wd (0+y0*1+1) 24) (ret (wr ((d.1.1,d.1.2.1,n1.1,wI (n1.2+1)),aj.2,d.2.2.1,λj=>bif ww j y0 then aj.1 else n2.1 j,n2.2))) no) no) no) no) (ret (wn ((d.1.1,d.1.2.1,n1.1,n1.2,y2),d.2)))
def Xf:=bw (Xe cY) 2000
def pU:=qs (st (dp (cu aO (us 3 (cu DT (us 1 (cu ahL (us 9 (c aCM (c ai (cl ai (us 28 nil)))))))))) λa=>(pl (c cD (c (so (cl (gs a.1.1 aDc) nil)) NG)) cN)))
def aE8:=qs (st (pr (cu aO (us 3 (cu DT (us 1 (cu ahL (us 9 (c aCM (c ai (c ai (cl ab aUy)))))))))) (pl (c cD (c aWl NG)) cN)))
abbrev E0:=(aL7×Bool×aZW×NI×NI)
def amt {ρ:Type}(x:E0)(K:AX->St->Option ρ):Option ρ:=(λd=>K (.ex 0) (aE8.em (d.1,d.2.1,(d.1.1.1,d.b.1),d.b.2))) x
def Xg (bc:eC)(bn:iY)(xU:It)(wq:LZ)(qo:LT pT EZ)(d:pU.B):PL pU E0:=let n9:=d.1.1;let n5:=d.1.2;let n4:=d.2.2.1;let n2:=n4.2.2.2;let n6:=n2.2.2.2;let n1:=n6.2.2.2.2;let n8:=n1.2.2.2;let n3:=n8.2.2.2;let n7:=n3.2.2.2;let y0:=ws n5.2;let y1:=decide (n5.2<n5.1);ae y1 (ae (bg n5.2 n9.1) (ae (ww n9.1 n9.1) (opt (qo ((n9,n5.1,n5.2,0),d.2.1,n4,d.2.2.2.1,d.2.2.2.2,cr (n4.1 y0) [n7.2.2.2.2 y0,n7.2.2.2.1 y0,n7.2.2.1 y0,n7.2.1 y0,n7.1 y0,n3.2.2.1 y0,n3.2.1 y0,n3.1 y0,n8.2.2.1 y0,n8.2.1 y0,n8.1 y0,n1.2.2.1 y0,n1.2.1 y0,n1.1 y0,n6.2.2.2.1 y0,n6.2.2.1 y0,n6.2.1 y0,n6.1 y0,n2.2.2.1 y0,n2.2.1 y0,n2.1 y0,n4.2.2.1 y0,n4.2.1 y0,n4.1 y0])) λd=>opt (bc d.2.2.2.1) λaj=>opt (bn aj.1 aj.2.1 aj.2.2.1 aj.2.2.2 d.2.1) λaC=>opt (xU d.2.2.2.1 aC.1.1 aC.1.2.1 aC.1.2.2.1 aC.1.2.2.2) λbx=>opt (wq bx aC.2) λcH=>ret (wr ((d.1.1,d.1.2.1,wI (d.1.2.2.1+1)),cH.2,d.2.2.1,cH.1,d.2.2.2.2.1))) no) no) (ret (wn ((n9,n5.1,n5.2,y1),d.2)))
def Xh:=bw (Xg bX dy tK wo Xf) 2000
def agJ (aN:fJ)(eB:LT pU E0)(x:Ml.B):Pg avs:=let y0:=wl x.1.2.1;ae (y0==0) (opt (aN x.1.1 x.2.1) λd=>ret d) (ae (ww x.1.2.1 x.1.2.1) (opt (eB ((x.1.2,y0,0),x.2.1,x.2.2,x.1.1,λx=>0)) λd=>ret (d.2.2.2.1,d.2.1)) no)
def Mm:=λx=>(agJ bD Xh x).val
abbrev Mn:=fJ×fH×eC×iY×It×LZ×(LT pT EZ)×(LT pU E0)
def UH (p:Mn):KK:=⟨[jB p.1,pd p.2.1,j5 p.b.1,nV p.b.2.1,SF p.c.1,WD p.c.2.1],⟨[⟨4,(1::2::3::5::rg 7 9 (rg 19 28 [])),[]⟩,⟨7,(1::2::3::5::7::rg 9 7 (19::20::21::rg 23 24 [])),[]⟩],[fY 7 2 pT ams p.c.b.1,fY 4 2 pU amt p.c.b.2],[0],[],(some ⟨0,(rg 0 6 (rg 7 40 [])),[]⟩)⟩,2,271⟩
theorem aBI (p:Mn):LI (UH p) 7 pT ams (Xe p.2.1):=λ_ d c K=>by kernel_rfl
theorem aBJ (p:Mn):LI (UH p) 4 pU amt (Xg p.b.1 p.b.2.1 p.c.1 p.c.2.1 p.c.b.1):=λ_ d c K=>by kernel_rfl
theorem aKs (p:Mn):D2 (UH p) Ml (lf ab0) λb=>agJ p.1 p.c.b.2 b:=λb=>by kernel_rfl
abbrev UI:Mn:=(bD,cY,bX,dy,tK,wo,Xf,Xh)
theorem aKt [ax]:SC (avu Mm):=sc (Sound.nil 2 [.i .i64,.i .i64,.i .i64,.i .i64,.i .i64,.i .i64,.i .i64,.i .i64,.i .i64,.i .i64,.i .i64,.i .i64,.i .i64,.i .i64,.i .i64,.i .i64,.i .i64,.i .i64,.i .i64,.i .i64,.i .i64,.i .i64,.i .i64,.i .i64]<|kS (k:=UH UI) (.c ky (.c rz (.c lA (.c pz (.c ail (.c al7 (.nil _))))))) [4,7] [] ⟨kL (aBJ UI),⟨kL (aBI UI),trivial⟩⟩ trivial (aKs UI))
def aAa:=qa (pr (cu aO (c lW (c Bz aVy))) bB)
def agK:=qe (res (pr (rU (c aj8 (c ar0 (cl (ra aI2) nil)))) (pl mX nil)))
abbrev aAb:=agK.B
abbrev amu:=NI->NI->NI->NI->Int->Int->Int->Bool->Option aAb
def aAc (g:amu):Ct:=(264,FC aAa (lf agK) (λb=>g b.1.1 b.1.2.1.1 b.1.2.1.2 b.1.b.1 b.1.b.2.1 b.1.c.1 b.1.c.2 b.2))
def amv (aN:fJ)(oC:vC)(aw:bM)(w7:Nl)(Mp:amn)(D3:Z1)(Iw:ait)(UJ:avt)(x0:Nat->Int)(x1:Nat->Int)(x2:Nat->Int)(x3:Nat->Int)(x4:Int)(x5:Int)(x6:Int)(x7:Bool):Pg aAb:=opt (aN x0 x7) λd=>opt (oC x1 x2 d.2) λaj=>opt (aw x4 aj.2) λaC=>opt (w7 aj.1.1 aj.1.2 x3 x5 aC.2) λbx=>opt (Mp aC.1 bx.1 x6) λcH=>ae (!cH) (ret ((d.1,aj.1,false,aC.1,bx.1),bx.2)) (opt (D3 aj.1.1 aj.1.2 x3 x5 bx.2) λfx=>opt (Iw fx.1.2.1 aC.1 fx.2) λdx=>opt (UJ ((d.1,1,true),dx.2,λj=>bif ww j 0 then dx.1 0 else dx.1 0,λj=>bif ww j 0 then dx.1 1 else dx.1 1,λj=>bif ww j 0 then dx.1 2 else dx.1 2,λj=>bif ww j 0 then dx.1 3 else dx.1 3,λj=>bif ww j 0 then dx.1 4 else dx.1 4,λj=>bif ww j 0 then dx.1 5 else dx.1 5,λj=>bif ww j 0 then dx.1 6 else dx.1 6,λj=>bif ww j 0 then dx.1 7 else dx.1 7,λj=>bif ww j 0 then dx.1 8 else dx.1 8,λj=>bif ww j 0 then dx.1 9 else dx.1 9,λj=>bif ww j 0 then dx.1 10 else dx.1 10,λj=>bif ww j 0 then dx.1 11 else dx.1 11,λj=>bif ww j 0 then dx.1 12 else dx.1 12,λj=>bif ww j 0 then dx.1 13 else dx.1 13,λj=>bif ww j 0 then dx.1 14 else dx.1 14,λj=>bif ww j 0 then dx.1 15 else dx.1 15,λj=>bif ww j 0 then dx.1 16 else dx.1 16,λj=>bif ww j 0 then dx.1 17 else dx.1 17,λj=>bif ww j 0 then dx.1 18 else dx.1 18,λj=>bif ww j 0 then dx.1 19 else dx.1 19,λj=>bif ww j 0 then dx.1 20 else dx.1 20,λj=>bif ww j 0 then dx.1 21 else dx.1 21,λj=>bif ww j 0 then dx.1 22 else dx.1 22,λj=>bif ww j 0 then dx.1 23 else dx.1 23)) λd=>ret ((d.1,fx.1.1,true,aC.1,bx.1),d.2))
def QN:=λx0 x1 x2 x3 x4 x5 x6 x7=>(amv bD mP aS qu EY yG CX Mm x0 x1 x2 x3 x4 x5 x6 x7).val
theorem aNV:∀aN oC aw w7 Mp D3 Iw UJ,D0 [jB aN,FP oC,dD aw,Nm w7,amo Mp,Z2 D3,aiu Iw,avu UJ] 264 aAa (lf agK) λb=>amv aN oC aw w7 Mp D3 Iw UJ b.1.1 b.1.2.1.1 b.1.2.1.2 b.1.b.1 b.1.b.2.1 b.1.c.1 b.1.c.2 b.2:=λ_ _ _ _ _ _ _ _ b=>by kernel_rfl
theorem aNW [ax]:SC (aAc QN):=s0 (.c ky (.c Og (.c dI (.c ajB (.c aE6 (.c avr (.c aBH (.c aKt (.nil _))))))))) (aNV bD mP aS qu EY yG CX Mm)
end Go.Proofs.YtldgljclcgaibaaGreat
namespace Go.Ab
theorem Ge (n:Int):IntKind.wrap .i64 n=if 9223372036854775808<=n%18446744073709551616 then n%18446744073709551616-18446744073709551616 else n%18446744073709551616:=by
 unfold IntKind.wrap;simp only[IntKind.signed,IntKind.bits,GF,lY,show(2:Int)^64=18446744073709551616 from rfl,show(2:Int)^(64-1)=9223372036854775808 from rfl,PE]
theorem rf (a b:Int)(h:0<=b):Int.fdiv a b=a/b:=Int.fdiv_eq_ediv_of_nonneg a h
theorem U' (x:Int)(h0:0<=x)(h1:x<18446744073709551616):(v9 64 x).toNat=x.toNat:=by
 rw[BitVec.toNat_ofInt];congr 1
 simp only[Nat.reducePow,Int.cast_ofNat_Int];omega
theorem aeO (x:Int)(h0:0<=x)(h1:x<18446744073709551616):wl (v4 (v9 64 18446744073709551615^^^v9 64 x))=18446744073709551615-x:=by
 have e:v9 64 18446744073709551615=BitVec.allOnes 64:=by decide
 rw[e,BitVec.allOnes_xor,BitVec.toNat_not,U' x h0 h1];simp only[dJ];omega
theorem aoD (x:Int)(h0:0<=x)(h1:x<18446744073709551616):wl (v4 (v9 64 x&&&v9 64 4294967295))=x%4294967296:=by
 rw[BitVec.toNat_and,U' x h0 h1];have e:(v9 64 4294967295).toNat=2^32-1:=by decide
 rw[e,Nat.and_two_pow_sub_one_eq_mod];simp only[dJ];omega
theorem ayA (x y:Int)(k:Nat)(h0:0<=x)(h1:x<2^k)(h2:0<=y)(h3:y<18446744073709551616)(h4:x<18446744073709551616)(h5:y%2^k=0):
  wl (v4 (v9 64 x|||v9 64 y))=x+y:=by
 rw[BitVec.toNat_or,U' x h0 h4,U' y h2 h3]
 obtain⟨q,hq⟩:∃q:Nat,y.toNat=2^k*q:=by
  refine⟨y.toNat/2^k,?_⟩
  have:y.toNat%2^k=0:=by
   have e:((y.toNat%2^k:Nat):Int)=y%2^k:=by
    rw[Int.natCast_emod,Int.toNat_of_nonneg h2];simp
   omega
  exact(Nat.mul_div_cancel' (aDh this)).symm
 have hx:x.toNat<2^k:=by
  have e:((2^k:Nat):Int)=(2:Int)^k:=by simp
  omega
 rw[hq,Nat.or_comm,<-Nat.two_pow_add_eq_or_of_lt hx,<-hq];simp only[dJ];omega
end Go.Ab
namespace Go.Proofs.YtldgljclcgaibaaGreat
open Go.Ab
abbrev okW (h l:Int):Prop:= -9223372036854775808<=h/\h<=9223372036854775807/\0<=l/\l<18446744073709551616
abbrev vW (h l:Int):Int:=h*18446744073709551616+l
theorem aXM (x:Int)(h0: -9223372036854775808<=x)(h1:x<=9223372036854775807):∃h l,VU x=some (h,l)/\okW h l/\vW h l=x:=by
 unfold vW;simp only[VU,asx,Pg.cC,Pg.ch,Pg.cQ,Pg.fB,Pg.eG];try delta wI wU
 refine⟨_,_,rfl,?_,?_⟩<;>rw[wrap_u64,rf _ _ (by omega)]<;>omega
theorem Pv (x y c:Int)(x0:0<=x)(y0:0<=y)(c0:0<=c)(c1:c<=1):CD x y c=some ((x+y+c)%18446744073709551616,(x+y+c)/18446744073709551616):=by
 unfold CD;have h:wd c.toNat 1=true:=aDi (by omega);rw[h,bz];congr 1
 unfold aXm aXn;simp only[dJ,qG];constructor<;>omega
theorem ayB (h1 l1 h2 l2:Int)(o1:okW h1 l1)(o2:okW h2 l2):∃h l b,Ko h1 l1 h2 l2=some ((h,l),b)/\okW h l/\(b=true↔ -170141183460469231731687303715884105728<=vW h1 l1+vW h2 l2/\vW h1 l1+vW h2 l2<170141183460469231731687303715884105728)/\(b=true->vW h l=vW h1 l1+vW h2 l2):=by
 obtain⟨a1,a2,a3,a4⟩:=o1;obtain⟨b1,b2,b3,b4⟩:=o2;unfold vW;simp only[Ko,alf,Pg.cC,Pg.ch,Pg.cQ,Pg.fB,Pg.eG];try delta wI wU
 rw[Pv l1 l2 0 a3 b3 (by omega) (by omega)];simp only[bN,wrap_u64];rw[Pv _ _ _ (by omega) (by omega) (by omega) (by omega)];simp only[bN];generalize hc:(l1+l2+0)/18446744073709551616=c
 generalize hl:(l1+l2+0)%18446744073709551616=l
 generalize hm:(h1%18446744073709551616+h2%18446744073709551616+c)%18446744073709551616=m
 have hw:=Ge m;generalize IntKind.wrap IntKind.i64 m=w at*
 have hw1:w=m∨w=m-18446744073709551616:=by split at hw<;>omega
 have hw2: -9223372036854775808<=w/\w<=9223372036854775807:=by split at hw<;>omega
 by_cases n1:h1<0
 .by_cases n2:h2<0
  .have e:(!decide (h1<0)==decide (h2<0))=false:=by simp[n1,n2]
   simp only[e,bH];refine⟨w,l,_,rfl,⟨hw2.1,hw2.2,by omega,by omega⟩,?_,?_⟩
   .simp only[n1,PD,beq_true,lY];constructor<;>intro h<;>omega
   .simp only[n1,PD,beq_true,lY];intro h;omega
  .have e:(!decide (h1<0)==decide (h2<0))=true:=by simp[n1,n2]
   simp only[e,bz];refine⟨w,l,_,rfl,⟨hw2.1,hw2.2,by omega,by omega⟩,?_,?_⟩
   .simp only[true_iff];constructor<;>omega
   .intro h;omega
 .by_cases n2:h2<0
  .have e:(!decide (h1<0)==decide (h2<0))=true:=by simp[n1,n2]
   simp only[e,bz];refine⟨w,l,_,rfl,⟨hw2.1,hw2.2,by omega,by omega⟩,?_,?_⟩
   .simp only[true_iff];constructor<;>omega
   .intro h;omega
  .have e:(!decide (h1<0)==decide (h2<0))=false:=by simp[n1,n2]
   simp only[e,bH];refine⟨w,l,_,rfl,⟨hw2.1,hw2.2,by omega,by omega⟩,?_,?_⟩
   .simp only[n1,NM,_root_.beq_false,o6,aaN];constructor<;>intro h<;>omega
   .simp only[n1,NM,_root_.beq_false,o6,aaN];intro h;omega
theorem aIy (h l:Int)(o:okW h l):∃ah al,EL h l=some ((ah,al),decide (h<0))/\0<=ah/\ah<=9223372036854775808/\0<=al/\al<18446744073709551616/\ah*18446744073709551616+al=(if h<0 then -vW h l else vW h l):=by
 obtain⟨a1,a2,a3,a4⟩:=o;unfold vW;simp only[EL,ak1,Pg.cC,Pg.ch,Pg.cQ,Pg.fB,Pg.eG];try delta wI wU
 by_cases n:h<0
 .have e:decide (h>=0)=false:=dq (by omega);simp only[e,bH,aeO l a3 a4,wrap_u64];rw[aeO (h%18446744073709551616) (by omega) (by omega),Pv _ _ _ (by omega) (by omega) (by omega) (by omega)];simp only[bN,n,PD,lT];refine⟨_,_,rfl,?_,?_,?_,?_,?_⟩<;>omega
 .have e:decide (h>=0)=true:=gy (by omega);simp only[e,bz,wrap_u64,n,NM,gA];refine⟨_,_,rfl,?_,?_,?_,?_,?_⟩<;>omega
theorem aIz (h1 l1 h2 l2:Int)(a0:0<=h1)(b0:0<=l1)(c0:0<=h2)(d0:0<=l2)(b1:l1<18446744073709551616)(d1:l2<18446744073709551616):
  jo h1 l1 h2 l2=some ((h1+h2+(l1+l2)/18446744073709551616)%18446744073709551616,(l1+l2)%18446744073709551616):=by
 simp only[jo,N3,Pg.cC,Pg.ch,Pg.cQ,Pg.fB,Pg.eG];try delta wI wU
 rw[Pv _ _ _ b0 d0 (by omega) (by omega)];simp only[bN,Int.add_zero];rw[Pv _ _ _ a0 c0 (by omega) (by omega)];rfl
theorem aXN (n:Nat)(hn:n<126):hO 0 1 (wl n)=some (2^n/18446744073709551616,2^n%18446744073709551616):=by
 have key:∀n:Fin 126,hO 0 1 (wl n.val)=some ((2:Int)^n.val/18446744073709551616,(2:Int)^n.val%18446744073709551616):=by decide+kernel
 exact key ⟨n,hn⟩
theorem mS (n:Nat):(0:Int)<2^n:=Int.pow_pos (by decide)
theorem aws (h l:Int)(s:Nat)(hs:s<=126)(h0:0<=h)(h1:h<18446744073709551616)(l0:0<=l)(l1:l<18446744073709551616):
  ∃h' l',jg h l (wl s)=some (h',l')/\0<=h'/\0<=l'/\l'<18446744073709551616/\h'*18446744073709551616+l'=(h*18446744073709551616+l)/2^s:=by
 simp only[jg,Ic,Pg.cC,Pg.ch,Pg.cQ,Pg.fB,Pg.eG];try delta wI wU
 by_cases c:64<=s
 .have e:decide (wl s>=64)=true:=by simp only[dJ];exact gy (by omega)
  have e2:IntKind.wrap .i64 (wl s-64)=wl (s-64):=(wrap_i64 (by simp only[dJ];omega) (by simp only[dJ];omega)).trans (by simp only[dJ];omega);have e3:(!decide (wl (s-64)<0))=true:=by simp
  have e4:min (ws (wl (s-64))) 64=s-64:=by
   show min (s-64) 64=s-64;omega
  simp only[e,e2,e3,e4,bz];rw[rf _ _ (pg (mS _))];refine⟨_,_,rfl,by omega,DA h0 (pg (mS _)),Int.lt_of_le_of_lt (aw9 _ h0) h1,?_⟩
  have p:(2:Int)^s=18446744073709551616*2^(s-64):=by
   rw[show(18446744073709551616:Int)=2^64 from rfl,<-Int.pow_add];congr 1;omega
  rw[p,<-Int.ediv_ediv_of_nonneg (by decide)];have:(h*18446744073709551616+l)/18446744073709551616=h:=by omega
  rw[this];omega
 .have e:decide (wl s>=64)=false:=by simp only[dJ];exact dq (by omega)
  have e2:IntKind.wrap .i64 (64-wl s)=wl (64-s):=(wrap_i64 (by simp only[dJ];omega) (by simp only[dJ];omega)).trans (by simp only[dJ];omega);have e3:∀n,(!decide (wl n<0))=true:=by simp
  have e4:min (ws (wl (64-s))) 64=64-s:=by
   show min (64-s) 64=64-s;omega
  have e5:min (ws (wl s)) 64=s:=by
   show min s 64=s;omega
  simp only[e,e2,e3,e4,e5,bz,bH,wrap_u64];rw[rf _ _ (pg (mS _)),rf _ _ (pg (mS _))]
  have pq:(18446744073709551616:Int)=2^s*2^(64-s):=by
   rw[<-Int.pow_add,show s+(64-s)=64 by omega];rfl
  generalize hP:(2:Int)^s=P at*
  generalize hQ:(2:Int)^(64-s)=Q at*
  have P0:0<P:=by rw[<-hP];exact mS s
  have Q0:0<Q:=by rw[<-hQ];exact mS (64-s)
  have m:h*Q%18446744073709551616=h%P*Q:=by
   rw[pq,EC h Q,EC P Q,Int.mul_emod_mul_of_pos _ _ Q0,EC]
  have x0:0<=l/P:=DA l0 (pg P0);have x1:l/P<Q:=aaO P0 (by rw[EC,<-pq];exact l1);have y0:0<=h%P:=aaS _ (by omega);have y1:h%P<P:=Vj _ P0
  have y2:h%P*Q+Q<=18446744073709551616:=by
   have:(h%P+1)*Q<=P*Q:=apD (by omega) (pg Q0);rw[afd,<-pq] at this;omega
  have y3:0<=h%P*Q:=IY y0 (pg Q0)
  have key:wl (v4 (v9 64 (l/P)|||v9 64 (h*Q%18446744073709551616)))=l/P+h%P*Q:=by
   rw[m];exact ayA _ _ (64-s) x0 (by rw[hQ];exact x1) y3 (by omega) (by omega) (by rw[hQ];exact Int.mul_emod_left _ _)
  rw[key];have z:(l/P+h%P*Q)%18446744073709551616=l/P+h%P*Q:=EB (by omega) (by omega);rw[z];refine⟨_,_,rfl,DA h0 (pg P0),by omega,by omega,?_⟩
  have f1:(h*18446744073709551616+l)/P=h*Q+l/P:=by
   rw[pq,show h*(P*Q)+l=l+h*Q*P by rw[EC P Q,<-aks,Int.add_comm],Int.add_mul_ediv_right _ _ (by omega)];omega
  have f2:h/P*18446744073709551616=h/P*P*Q:=by rw[pq,aks]
  have f3:h/P*P+h%P=h:=Int.ediv_mul_add_emod h P;rw[f1,f2];have f4:(h/P*P+h%P)*Q=h*Q:=by rw[f3]
  rw[afd] at f4;omega
theorem Na (h l:Int)(neg:Bool)(h0:0<=h)(l0:0<=l)(l1:l<18446744073709551616):
  jr h l neg=if h*18446744073709551616+l<=(if neg=true then 9223372036854775808 else 9223372036854775807) then some (if neg=true then -l else l,true) else some (0,false):=by
 simp only[jr,N6,Pg.cC,Pg.ch,Pg.cQ,Pg.fB,Pg.eG];try delta wI wU
 by_cases c:h=0
 .subst c;have e:((0:Int)!=0)=false:=rfl;simp only[e,bH,Int.zero_mul,aDm];cases neg
  .by_cases d:l>9223372036854775807
   .have d2:¬l<=9223372036854775807:=by omega
    simp[d,d2]
   .have d2:l<=9223372036854775807:=by omega
    simp only[Bool.not_false,bz,d,NM,bH,xr,gA,d2,lT];rw[wrap_i64 (by omega) d2]
  .by_cases d:l>9223372036854775808
   .have d2:¬l<=9223372036854775808:=by omega
    simp[d,d2]
   .have d2:l<=9223372036854775808:=by omega
    have e3:IntKind.wrap .i64 (IntKind.wrap .u64 (0-l))= -l:=by
     rw[wrap_u64,Ge];split<;>omega
    have e4:IntKind.wrap .i64 (IntKind.wrap .u64 (-l))= -l:=by
     rw[wrap_u64,Ge];split<;>omega
    simp[d,d2,e3,e4]
 .have e:(h !=0)=true:=by simp[c]
  have d2:¬h*18446744073709551616+l<=(if neg=true then 9223372036854775808 else 9223372036854775807):=by split<;>omega
  simp only[e,bz,d2,gA]
def half (s:Nat):Int:=if s=0 then 0 else 2^(s-1)
def RP (v:Int)(s:Nat):Int:=if v<0 then -((-v+half s)/2^s) else(v+half s)/2^s
theorem aOj (s:Nat)(hs:s<=126):0<=half s/\half s<=42535295865117307932921825928971026432:=by
 unfold half;split
 .omega
 .refine⟨pg (mS _),?_⟩
  have:(2:Int)^(s-1)<=2^125:=by
   have h2:(2:Nat)^(s-1)<=2^125:=Nat.pow_le_pow_right (by decide) (by omega);have h3:((2^(s-1):Nat):Int)<=((2^125:Nat):Int):=by exact_mod_cast h2
   simpa using h3
  exact this
theorem wide_round (h l:Int)(s:Nat)(hs:s<=126)(o:okW h l):
  rv h l (wl s)=if -9223372036854775808<=RP (vW h l) s/\RP (vW h l) s<=9223372036854775807 then some (RP (vW h l) s,true) else some (0,false):=by
 simp only[rv,aa7,Pg.cC,Pg.ch,Pg.cQ,Pg.fB,Pg.eG];try delta wI wU
 obtain⟨ah,al,e1,a0,a1,a2,a3,a4⟩:=aIy h l o;have n0:decide (wl s<0)=false:=by simp
 have n1:decide (wl s>126)=false:=by simp only[dJ];exact dq (by omega)
 simp only[n0,n1,bH,e1,bN];obtain⟨hh0,hh1⟩:=aOj s hs
 have fin:∀h' l':Int,0<=h'->0<=l'->l'<18446744073709551616->h'*18446744073709551616+l'=((if h<0 then -vW h l else vW h l)+half s)/2^s->
   (jr h' l' (decide (h<0))).bind (λd=>some (d.fst,d.snd))=if -9223372036854775808<=RP (vW h l) s/\RP (vW h l) s<=9223372036854775807 then some (RP (vW h l) s,true) else some (0,false):=by
  intro h' l' b0 b1 b2 b3;rw[Na h' l' _ b0 b1 b2];obtain⟨o1,o2,o3,o4⟩:=o;by_cases n:h<0
  .have nv:vW h l<0:=by show h*18446744073709551616+l<0;omega
   simp only[n,PD,lT] at b3 ⊢;unfold RP;simp only[nv,lT];rw[<-b3];by_cases c:h'*18446744073709551616+l'<=9223372036854775808
   .rw[if_pos c,if_pos (by omega)];simp only[bN,jY,qG,BC];omega
   .rw[if_neg c,if_neg (by omega)];rfl
  .have nv:¬vW h l<0:=by show ¬h*18446744073709551616+l<0;omega
   simp only[n,NM,gA,xr] at b3 ⊢;unfold RP;simp only[nv,gA];rw[<-b3];by_cases c:h'*18446744073709551616+l'<=9223372036854775807
   .rw[if_pos c,if_pos (by omega)];simp only[bN,jY,qG,BC];omega
   .rw[if_neg c,if_neg (by omega)];rfl
 by_cases z:s=0
 .subst z;have n2:decide (wl 0>0)=false:=by decide
  simp only[n2,bH];obtain⟨h',l',e2,b0,b1,b2,b3⟩:=aws ah al 0 (by omega) a0 (by omega) a2 a3;rw[e2];simp only[bN];exact fin h' l' b0 b1 b2 (by rw[b3,a4];simp[half])
 .have n2:decide (wl s>0)=true:=by simp only[dJ];exact gy (by omega)
  simp only[n2,bz];have n3:IntKind.wrap .i64 (wl s-1)=wl (s-1):=(wrap_i64 (by simp only[dJ];omega) (by simp only[dJ];omega)).trans (by simp only[dJ];omega);have hf:half s=2^(s-1):=by unfold half;rw[if_neg z]
  rw[n3,aXN (s-1) (by omega),<-hf];simp only[bN];rw[aIz _ _ _ _ a0 a2 (by omega) (by omega) a3 (by omega)];simp only[bN];obtain⟨h',l',e2,b0,b1,b2,b3⟩:=aws ((ah+half s/18446744073709551616+(al+half s%18446744073709551616)/18446744073709551616)%18446744073709551616) ((al+half s%18446744073709551616)%18446744073709551616) s hs (by omega) (by omega) (by omega) (by omega);rw[e2];simp only[bN];refine fin h' l' b0 b1 b2 ?_;rw[b3,<-a4];congr 1
  omega
def sat (x:Int):Int:=if x< -1152921504606846976 then -1152921504606846976 else if 1152921504606846976<x then 1152921504606846976 else x
def iM (x:Int):Bool:=decide (x< -1152921504606846976)||decide (1152921504606846976<x)
theorem qi (x:Int): -1152921504606846976<=sat x/\sat x<=1152921504606846976:=by
 unfold sat;split<;>(try split)<;>omega
theorem ui (x:Int)(fP:Bool):aS x fP=some (sat x,fP||iM x):=by
 simp only[aS,aa3,bh,CI,Pg.cC,Pg.ch,Pg.cQ,Pg.fB,Pg.eG];try delta wI wU
 unfold sat iM;have e:decide ((-1152921504606846976:Int)>1152921504606846976)=false:=by decide
 by_cases c:x< -1152921504606846976
 .simp[e,c]
 .by_cases d:1152921504606846976<x
  .have d2:x>1152921504606846976:=d;simp[e,c,d]
  .simp[e,c,d]
theorem aeP (a:Int)(ok neg fP:Bool):nE a ok neg fP=if ok=true then some (sat a,fP||iM a) else some (if neg=true then -1152921504606846976 else 1152921504606846976,true):=by
 simp only[nE,Hq,qK,VJ,Pg.cC,Pg.ch,Pg.cQ,Pg.fB,Pg.eG];try delta wI wU
 cases ok
 .cases neg<;>rfl
 .simp only[K0,bH,ui,bN,lT]
theorem ahB (h l:Int)(s:Nat)(fP:Bool)(hs:s<=120)(o:okW h l):nT h l (wl s) fP=some (sat (RP (vW h l) s),fP||iM (RP (vW h l) s)):=by
 simp only[nT,Se,Pg.cC,Pg.ch,Pg.cQ,Pg.fB,Pg.eG];try delta wI wU
 have n0:decide (wl s<0)=false:=by simp
 have n1:decide (wl s>120)=false:=by simp only[dJ];exact dq (by omega)
 simp only[n0,n1,bH,wide_round h l s (by omega) o];by_cases c: -9223372036854775808<=RP (vW h l) s/\RP (vW h l) s<=9223372036854775807
 .simp only[c,and_self,lT,bN,aeP]
 .rw[if_neg c];simp only[bN,aeP,xr,gA]
  have sg:(h<0->RP (vW h l) s<=0)/\(¬h<0->0<=RP (vW h l) s):=by
   obtain⟨o1,o2,o3,o4⟩:=o;obtain⟨hh0,hh1⟩:=aOj s (by omega);have p:=mS s;unfold RP;refine⟨λn=> ?_,λn=> ?_⟩
   .have nv:vW h l<0:=by show h*18446744073709551616+l<0;omega
    rw[if_pos nv];have:0<=(-vW h l+half s)/2^s:=DA (by omega) (pg p);omega
   .have nv:¬vW h l<0:=by show ¬h*18446744073709551616+l<0;omega
    rw[if_neg nv];exact DA (by omega) (pg p)
  unfold sat iM;by_cases n:h<0
  .have:=sg.1 n;have c1:RP (vW h l) s< -1152921504606846976:=by omega
   simp[n,c1]
  .have:=sg.2 n;have c1:¬RP (vW h l) s< -1152921504606846976:=by omega
   have c2:1152921504606846976<RP (vW h l) s:=by omega
   simp[n,c1,c2]
theorem aoE (x:Int)(h0: -9223372036854775808<=x)(h1:x<=9223372036854775807):ru x=some (if x<0 then -x else x):=by
 simp only[ru,aa4,Pg.cC,Pg.ch,Pg.cQ,Pg.fB,Pg.eG];try delta wI wU
 by_cases c:x<0
 .simp only[c,PD,bz,lT,wrap_u64];exact cM (some:Int->Option Int) (by omega)
 .simp only[c,NM,bH,gA,wrap_u64];exact cM (some:Int->Option Int) (by omega)
theorem aoF {a b:Int}(a0:0<=a)(a1:a<=4294967295)(b0:0<=b)(b1:b<=4294967295):0<=a*b/\a*b<=18446744065119617025:=by
 refine⟨IY a0 b0,?_⟩;have:=NK a1 b1 b0 (by omega);omega
theorem aTz (x y:Int)(x0:0<=x)(x1:x<18446744073709551616)(y0:0<=y)(y1:y<18446744073709551616):Ho x y=some (x*y/18446744073709551616,x*y%18446744073709551616):=by
 simp only[Ho,aa6,Pg.cC,Pg.ch,Pg.cQ,Pg.fB,Pg.eG];try delta wI wU
 rw[aoD x x0 x1,aoD y y0 y1];simp only[rf _ 4294967296 (by decide),wrap_u64];have xe:x=x/4294967296*4294967296+x%4294967296:=by omega
 have ye:y=y/4294967296*4294967296+y%4294967296:=by omega
 have xh:0<=x/4294967296/\x/4294967296<=4294967295:=by omega
 have yh:0<=y/4294967296/\y/4294967296<=4294967295:=by omega
 have xl:0<=x%4294967296/\x%4294967296<=4294967295:=by omega
 have yl:0<=y%4294967296/\y%4294967296<=4294967295:=by omega
 have hxy:x*y=(x/4294967296)*(y/4294967296)*18446744073709551616+((x/4294967296)*(y%4294967296)+(x%4294967296)*(y/4294967296))*4294967296+(x%4294967296)*(y%4294967296):=by
  conv=>lhs;rw[xe,ye]
  generalize x/4294967296=a
  generalize x%4294967296=b
  generalize y/4294967296=c
  generalize y%4294967296=d
  rw[afd,Int.mul_add,Int.mul_add,afd];rw[show a*4294967296*(c*4294967296)=a*c*18446744073709551616 by rw[aks,Int.mul_left_comm 4294967296 c,<-aks,show(4294967296:Int)*4294967296=18446744073709551616 from rfl]];rw[show a*4294967296*d=a*d*4294967296 by rw[aks,EC 4294967296 d,<-aks],show b*(c*4294967296)=b*c*4294967296 by rw[aks]];omega
 obtain⟨A0,A1⟩:=aoF xh.1 xh.2 yh.1 yh.2;obtain⟨B0,B1⟩:=aoF xh.1 xh.2 yl.1 yl.2;obtain⟨C0,C1⟩:=aoF xl.1 xl.2 yh.1 yh.2;obtain⟨D0,D1⟩:=aoF xl.1 xl.2 yl.1 yl.2;simp only[EB xl.1 (show x%4294967296<18446744073709551616 by omega),EB yl.1 (show y%4294967296<18446744073709551616 by omega)];rw[hxy];generalize x/4294967296*(y/4294967296)=A at*
 generalize x/4294967296*(y%4294967296)=B at*
 generalize x%4294967296*(y/4294967296)=C at*
 generalize x%4294967296*(y%4294967296)=D at*
 have r1:A%18446744073709551616=A:=EB A0 (by omega);have r2:B%18446744073709551616=B:=EB B0 (by omega);have r3:C%18446744073709551616=C:=EB C0 (by omega);have r4:D%18446744073709551616=D:=EB D0 (by omega);simp only[r1,r2,r3,r4];have r5:(B+D/4294967296)%18446744073709551616=B+D/4294967296:=EB (by omega) (by omega);simp only[r5];rw[aoD (B+D/4294967296) (by omega) (by omega)];have r6:(B+D/4294967296)%4294967296%18446744073709551616=(B+D/4294967296)%4294967296:=EB (by omega) (by omega);simp only[r6];have r7:((B+D/4294967296)%4294967296+C)%18446744073709551616=(B+D/4294967296)%4294967296+C:=EB (by omega) (by omega);simp only[r7];refine cM some (Prod.ext ?_ rfl);simp only;omega
theorem aK0 (h l:Int)(neg:Bool)(h0:0<=h)(h1:h<9223372036854775808)(l0:0<=l)(l1:l<18446744073709551616):
  ∃h' l' b,nD h l neg=some ((h',l'),b)/\okW h' l'/\vW h' l'=if neg=true then -(h*18446744073709551616+l) else h*18446744073709551616+l:=by
 simp only[nD,Lh,Pg.cC,Pg.ch,Pg.cQ,Pg.fB,Pg.eG];try delta wI wU
 cases neg
 .refine⟨_,_,_,rfl,?_,?_⟩
  .rw[wrap_i64 (by omega) (by omega)];omega
  .rw[wrap_i64 (by omega) (by omega)];rfl
 .simp only[K0,bH,aeO l l0 l1,wrap_u64,aeO h h0 (by omega)];rw[Pv _ _ _ (by omega) (by omega) (by omega) (by omega)];simp only[bN];generalize hm:(18446744073709551615-h)%18446744073709551616+((18446744073709551615-l)%18446744073709551616+1+0)/18446744073709551616=m
  have hw:=Ge (m%18446744073709551616);generalize IntKind.wrap IntKind.i64 (m%18446744073709551616)=w at*
  have ok:okW w (((18446744073709551615-l)%18446744073709551616+1+0)%18446744073709551616)/\vW w (((18446744073709551615-l)%18446744073709551616+1+0)%18446744073709551616)= -(h*18446744073709551616+l):=by
   unfold vW;refine⟨⟨?_,?_,?_,?_⟩,?_⟩<;>(split at hw<;>omega)
  cases decide (w<0)
  .exact⟨_,_,_,rfl,ok.1,by simp only[lT];exact ok.2⟩
  .exact⟨_,_,_,rfl,ok.1,by simp only[lT];exact ok.2⟩
theorem Dw (a b:Int)(a0: -9223372036854775808<=a)(a1:a<=9223372036854775807)(b0: -9223372036854775808<=b)(b1:b<=9223372036854775807):∃h l,fQ a b=some (h,l)/\okW h l/\vW h l=a*b:=by
 simp only[fQ,akY,Pg.cC,Pg.ch,Pg.cQ,Pg.fB,Pg.eG];try delta wI wU
 simp only[aoE a a0 a1,aoE b b0 b1,bN];generalize hx:(if a<0 then -a else a)=x
 generalize hy:(if b<0 then -b else b)=y
 have x0:0<=x/\x<=9223372036854775808:=by rw[<-hx];split<;>omega
 have y0:0<=y/\y<=9223372036854775808:=by rw[<-hy];split<;>omega
 have hp:0<=x*y:=IY x0.1 y0.1
 have hq:x*y<=85070591730234615865843651857942052864:=by
  have:=NK x0.2 y0.2 y0.1 (by omega);omega
 rw[aTz x y x0.1 (by omega) y0.1 (by omega)];simp only[bN];obtain⟨h,l,c,e1,e2,e3⟩:=aK0 (x*y/18446744073709551616) (x*y%18446744073709551616) (!decide (a<0)==decide (b<0)) (by omega) (by omega) (by omega) (by omega);rw[e1];simp only[bN];refine⟨h,l,rfl,e2,?_⟩;have e4:x*y/18446744073709551616*18446744073709551616+x*y%18446744073709551616=x*y:=by omega
 rw[e3,e4];by_cases p:a<0
 .by_cases q:b<0
  .rw[if_pos p] at hx;rw[if_pos q] at hy;simp only[p,q,PD];rw[if_neg (by decide)];rw[<-hx,<-hy,Int.neg_mul_neg]
  .rw[if_pos p] at hx;rw[if_neg q] at hy;simp only[p,q,PD,NM];rw[if_pos (by decide)];rw[<-hx,<-hy,Int.neg_mul,Int.neg_neg]
 .by_cases q:b<0
  .rw[if_neg p] at hx;rw[if_pos q] at hy;simp only[p,q,PD,NM];rw[if_pos (by decide)];rw[<-hx,<-hy,Int.mul_neg,Int.neg_neg]
  .rw[if_neg p] at hx;rw[if_neg q] at hy;simp only[p,q,NM];rw[if_neg (by decide)];rw[<-hx,<-hy]
theorem aXO (a b:Int)(s:Nat)(fP:Bool)(hs:s<=120):aZ a b (wl s) fP=some (sat (RP (sat a*sat b) s),fP||iM a||iM b||iM (RP (sat a*sat b) s)):=by
 simp only[aZ,aba,Pg.cC,Pg.ch,Pg.cQ,Pg.fB,Pg.eG];try delta wI wU
 have:=qi a;have:=qi b;obtain⟨h,l,e1,e2,e3⟩:=Dw (sat a) (sat b) (by omega) (by omega) (by omega) (by omega);simp only[ui,bN,e1,ahB h l s _ hs e2,e3]
theorem ahC (f g:Nat->Int)(w:Bool)(o1:okW (f 0) (g 0))(o2:okW (f 1) (g 1))(r0: -170141183460469231731687303715884105728<=vW (f 0) (g 0)+vW (f 1) (g 1))(r1:vW (f 0) (g 0)+vW (f 1) (g 1)<170141183460469231731687303715884105728):
  ∃h l,kF 2 f g w=some ((h,l),true)/\okW h l/\vW h l=vW (f 0) (g 0)+vW (f 1) (g 1):=by
 simp only[kF,Zy,Pg.cC,Pg.ch,Pg.cQ,Pg.fB,Pg.eG];try delta wI wU
 unfold Hw;rw[show ww 2 2=true from rfl,bz,akQ];obtain⟨h1,l1,b1,e1,a1,c1,d1⟩:=ayB 0 0 (f 0) (g 0) ⟨by omega,by omega,by omega,by omega⟩ o1
 have t1:b1=true:=by
  rw[c1];obtain⟨p1,p2,p3,p4⟩:=o1;simp only[vW];omega
 subst t1;have d1:=d1 rfl;obtain⟨h2,l2,b2,e2,a2,c2,d2⟩:=ayB h1 l1 (f 1) (g 1) a1 o2;have z:vW 0 0=0:=rfl;have t2:b2=true:=by rw[c2,d1,z];omega
 subst t2;have d2:=d2 rfl;refine⟨h2,l2,?_,a2,by rw[d2,d1,z];omega⟩;have k0:decide ((0:Int)<wl 2)=true:=by decide
 have k1:bg 0 2=true:=by decide
 have k2:IntKind.wrap .i64 (0+1)=1:=by decide
 have k3:decide ((1:Int)<wl 2)=true:=by decide
 have k4:bg 1 2=true:=by decide
 have k5:IntKind.wrap .i64 (1+1)=2:=by decide
 have k6:decide ((2:Int)<wl 2)=false:=by decide
 have k7:ws 0=0:=rfl;have k8:ws 1=1:=rfl;rw[Zp];simp only[Dm,Pg.vY,Pg.vZ,Pg.Az,Pg.FH,Pg.v5,qH,mM,wI,k0,k1,k2,k7,bz,e1,bN,K0,bH];rw[Zp];simp only[k3,k4,k5,k8,bz,e2,bN,K0,bH];rw[Zp];simp only[k6,bH,mM]
def H9 (f:Nat->Int):Nat->Int
 |0=>0
 |n+1=>H9 f n+f n
def KM (f:Nat->Bool):Nat->Bool
 |0=>false
 |n+1=>KM f n||f n
theorem aob (f:Nat->Int)(B:Int)(hB:0<=B)(n:Nat)(h:∀j,j<n-> -B<=f j/\f j<=B): -(n*B)<=H9 f n/\H9 f n<=n*B:=by
 induction n with
 |zero=>simp[H9]
 |succ n ih=>
  have:=ih λj hj=>h j (by omega)
  have h2:=h n (by omega);have e:((n+1:Nat):Int)*B=n*B+B:=by rw[Int.natCast_add,afd];simp
  rw[e,H9];omega
theorem aIA (v:Int):RP v 0=v:=by
 unfold RP half;simp only[lT,Int.add_zero];have:(2:Int)^0=1:=rfl;rw[this,Int.ediv_one,Int.ediv_one];split<;>omega
theorem awt {i n t:Nat}(h:i+t=n)(ht:0<t):decide (wl i<wl n)=true:=by simp only[dJ];exact gy (by omega)
theorem awu {i n:Nat}(h:n<=i):decide (wl i<wl n)=false:=by simp only[dJ];exact dq (by omega)
theorem awv {i n:Nat}(h:i<n):bg (wl i) n=true:=by unfold bg;simp only[dJ,cy,lY];omega
theorem aww {i:Nat}(h:i<9000000000000000000):IntKind.wrap .i64 (wl i+1)=wl (i+1):=(wrap_i64 (by simp only[dJ];omega) (by simp only[dJ];omega)).trans rfl
theorem aXP (n:Nat)(hn:n<=1900)(fP:Bool)(l:Nat->Int)(w:Bool):
  cY n fP l w=some (sat (H9 (λj=>sat (l j)) n),(fP||KM (λj=>iM (l j)) n)||iM (H9 (λj=>sat (l j)) n)):=by
 simp only[cY,abk,Pg.cC,Pg.ch,Pg.cQ,Pg.fB,Pg.eG];try delta wI wU
 unfold Si;rw[NL,bz]
 refine NX (λt d=>∃(i:Nat) (h l':Int),i+t=n/\okW h l'/\vW h l'=H9 (λj=>sat (l j)) i/\d=(((n,w),wl n,wl i),(fP||KM (λj=>iM (l j)) i),l,h,l')) ?_ 2000 n _ (by omega)
  ⟨0,0,0,by omega,⟨by omega,by omega,by omega,by omega⟩,rfl,by simp only[KM,aJA];rfl⟩
 rintro t _ c ⟨i,h,l',hi,ho,hv,rfl⟩ hc
 have bnd:=aob (λj=>sat (l j)) 1152921504606846976 (by omega) i (λj _=>qi _);rcases aaP t with t0|t0
 .have e:i=n:=by omega
  subst e;have r:=ahB h l' 0;have r2:=wide_round h l' 0 (by omega) ho;rw[aIA] at r2;have r3:wl 0=0:=rfl;rw[r3] at r2;simp only[Im,Pg.vY,Pg.vZ,Pg.Az,Pg.FH,Pg.v5,qH,mM,wI,awu (eO i),bH,r2];by_cases k: -9223372036854775808<=vW h l'/\vW h l'<=9223372036854775807
  .rw[if_pos k];simp only[lT,bN,aeP,hv]
  .rw[if_neg k];simp only[bN,aeP,xr,gA];rw[<-hv];unfold sat iM;by_cases ng:h<0
   .have c1:vW h l'< -1152921504606846976:=by
     obtain⟨o1,o2,o3,o4⟩:=ho;simp only[vW] at*;omega
    simp[ng,c1]
   .have c1:¬vW h l'< -1152921504606846976:=by
     obtain⟨o1,o2,o3,o4⟩:=ho;simp only[vW] at*;omega
    have c2:1152921504606846976<vW h l':=by
     obtain⟨o1,o2,o3,o4⟩:=ho;simp only[vW] at*;omega
    simp[ng,c1,c2]
 .have hs:=qi (l i);obtain⟨h1,l1,e1,o1,v1⟩:=aXM (sat (l i)) (by omega) (by omega)
  obtain⟨h2,l2,e2,o2,v2⟩:=ahC (λj:Nat=>bif ww j 1 then h1 else bif ww j 0 then h else h) (λj:Nat=>bif ww j 1 then l1 else bif ww j 0 then l' else l') true
   ho o1 (by show _<=vW h l'+vW h1 l1;rw[hv,v1];omega) (by show vW h l'+vW h1 l1<_;rw[hv,v1];omega)
  have v2:vW h2 l2=vW h l'+vW h1 l1:=v2;rw[hv,v1] at v2;have q:ws (wl i)=i:=rfl;simp only[Im,Pg.vY,Pg.vZ,Pg.Az,Pg.FH,Pg.v5,qH,mM,wI,awt hi t0,awv (show i<n by omega),bz,q,ui,bN,e1,e2,aww (show i<9000000000000000000 by omega)];refine hc (t-1) _ (by omega) ⟨i+1,h2,l2,by omega,o2,v2,?_⟩;simp only[KM,Bool.or_assoc]
theorem aeQ (a b:Int): -1329227995784915872903807060280344576<=sat a*sat b/\sat a*sat b<=1329227995784915872903807060280344576:=by
 have h1:=qi a;have h2:=qi b;generalize sat a=x at*
 generalize sat b=y at*
 have key:∀u v:Int,0<=u->u<=1152921504606846976->0<=v->v<=1152921504606846976->0<=u*v/\u*v<=1329227995784915872903807060280344576:=λu v u0 u1 v0 v1=>by
  refine⟨IY u0 v0,?_⟩;have:=NK u1 v1 v0 (by omega);omega
 rcases axa 0 x with hx|hx<;>rcases axa 0 y with hy|hy
 .have:=key x y hx (by omega) hy (by omega);omega
 .have:=key x (-y) hx (by omega) (by omega) (by omega);rw[Int.mul_neg] at this;omega
 .have:=key (-x) y (by omega) (by omega) hy (by omega);rw[Int.neg_mul] at this;omega
 .have:=key (-x) (-y) (by omega) (by omega) (by omega) (by omega);rw[Int.neg_mul_neg] at this;omega
theorem aXQ (s:Nat)(hs:s<=120)(n:Nat)(hn:n<=100)(fP:Bool)(f g:Nat->Int)(w w':Bool):
  bC (wl s) n n fP f g w w'=some (sat (RP (H9 (λj=>sat (f j)*sat (g j)) n) s),(fP||KM (λj=>iM (f j)||iM (g j)) n)||iM (RP (H9 (λj=>sat (f j)*sat (g j)) n) s)):=by
 simp only[bC,abI,Pg.cC,Pg.ch,Pg.cQ,Pg.fB,Pg.eG];try delta wI wU
 unfold Ss;have n0:decide (wl s<0)=false:=by simp
 have n1:decide (wl s>120)=false:=by simp only[dJ];exact dq (by omega)
 have m:(if 100<if wl n<wl n then wl n else wl n then 100 else if wl n<wl n then wl n else wl n)=wl n:=by
  have e:¬wl n<wl n:=by omega
  rw[if_neg e,if_neg (by simp only[dJ];omega)]
 rw[n0,n1,bH,bH,NL,bz,bz,m]
 refine NX (λt d=>∃(i:Nat) (h l':Int),i+t=n/\okW h l'/\vW h l'=H9 (λj=>sat (f j)*sat (g j)) i/\d=((wl s,(n,w),(n,w'),wl n,wl i),(fP||KM (λj=>iM (f j)||iM (g j)) i),f,g,h,l')) ?_ 2000 n _ (by omega)
  ⟨0,0,0,by omega,⟨by omega,by omega,by omega,by omega⟩,rfl,by simp only[KM,aJA];rfl⟩
 rintro t _ c ⟨i,h,l',hi,ho,hv,rfl⟩ hc
 have bnd:=aob (λj=>sat (f j)*sat (g j)) 1329227995784915872903807060280344576 (by omega) i (λj _=>aeQ _ _);rcases aaP t with t0|t0
 .have e:i=n:=by omega
  subst e;simp only[Iq,Pg.vY,Pg.vZ,Pg.Az,Pg.FH,Pg.v5,qH,mM,wI,awu (eO i),bH,ahB h l' s _ hs ho,hv,bN]
 .have hs1:=qi (f i);have Vq:=qi (g i);have hm:=aeQ (f i) (g i);obtain⟨h1,l1,e1,o1,v1⟩:=Dw (sat (f i)) (sat (g i)) (by omega) (by omega) (by omega) (by omega)
  obtain⟨h2,l2,e2,o2,v2⟩:=ahC (λj:Nat=>bif ww j 1 then h1 else bif ww j 0 then h else h) (λj:Nat=>bif ww j 1 then l1 else bif ww j 0 then l' else l') true
   ho o1 (by show _<=vW h l'+vW h1 l1;rw[hv,v1];omega) (by show vW h l'+vW h1 l1<_;rw[hv,v1];omega)
  have v2:vW h2 l2=vW h l'+vW h1 l1:=v2;rw[hv,v1] at v2;have q:ws (wl i)=i:=rfl;simp only[Iq,Pg.vY,Pg.vZ,Pg.Az,Pg.FH,Pg.v5,qH,mM,wI,awt hi t0,awv (show i<n by omega),bz,q,ui,bN,e1,e2,aww (show i<9000000000000000000 by omega)];refine hc (t-1) _ (by omega) ⟨i+1,h2,l2,by omega,o2,v2,?_⟩;simp only[KM,Bool.or_assoc]
end Go.Proofs.YtldgljclcgaibaaGreat
