/-
  Parts of the proof: Q2 PWS PWT PWU PWV
-/
import Derived.Test.YtldgljclcgaibaaGreatZAE
import Derived.Test.YtldgljclcgaibaaGreatZAF
open Nat renaming beq→ww,ble→wd
open Int renaming toNat→ws,ofNat→wl
open Sum renaming inl→wr,inr→wn
open BitVec renaming ofInt→v9,toNat→v4
set_option linter.all false
set_option maxRecDepth 100000
set_option maxHeartbeats 4000000
noncomputable section
namespace Go.Proofs.YtldgljclcgaibaaGreat
open Go.Ab Go.Ab.Pg Go.Ab.Rq
def aqI:=qa (pl asc nil)
def Wt:=qe E5
abbrev aqJ:=Wt.B
abbrev aqK:=Int->Int->Int->Int->Option aqJ
def aqL (g:aqK):Ct:=(67,FC aqI (lf Wt) (λb=>g b.1 b.2.1 b.b.1 b.b.2))
def m7:=qs (st (dp (us 1 (cu tU (us 1 (c aV8 (us 6 (c afi (cl ai (us 24 aPL)))))))) λa=>(pl (c xB (cl (so (cl (gs a.1 aJc) nil)) nil)) nil)))
def Z0:=qs (st (pu (us 2 (cu mW (us 42 nil))) (pu nil nil)))
def au1:=qs (st (pr (us 1 (cu tU (us 1 (c aV8 (us 6 (c afi (c ai (cl ab (us 23 aPL))))))))) (pl (c xB (cl aP2 nil)) nil)))
abbrev yf:=Z0.B⊕((Nat×aHF×Int×Bool)×aHF×NI×NI)
def aiw {ρ:Type}(x:yf)(K:AX->St->Option ρ):Option ρ:=(Sum.elim (λd=>K .ret (Z0.em d)) (λd=>K (.ex 0) (au1.em (d.1,d.2.1,d.1.1,d.b)))) x
def SS (dL:OE)(cW:oL)(d:m7.B):PL m7 yf:=let n5:=d.2.2;let n3:=d.1.1;let n2:=d.1.2;let n4:=n2.1.2;let y0:=n3+1;let n1:=(y0,n2.1,wI (n2.2+1));let y1:=decide (n2.2<4);ae y1 (ae (bb n2.2 4) (ae (n2.2==3) (opt (dL n4.2.2) λaj=>ae (decide (aj>1073741840)) (ret (wn (wr ()))) (opt (cW n4.2.2 n4.2.2) λaD=>ae (wd (y0*16) 140737488355328) (ret (wr (n1,d.2.1,λj=>bif ww j n3 then aD.1 else n5.1 j,λj=>bif ww j n3 then aD.2 else n5.2 j))) no)) (ae (n2.2==2) (opt (dL n4.2.1) λaj=>ae (decide (aj>1073741840)) (ret (wn (wr ()))) (opt (cW n4.2.1 n4.2.1) λaD=>ae (wd (y0*16) 140737488355328) (ret (wr (n1,d.2.1,λj=>bif ww j n3 then aD.1 else n5.1 j,λj=>bif ww j n3 then aD.2 else n5.2 j))) no)) (ae (n2.2==1) (opt (dL n4.1) λaj=>ae (decide (aj>1073741840)) (ret (wn (wr ()))) (opt (cW n4.1 n4.1) λaD=>ae (wd (y0*16) 140737488355328) (ret (wr (n1,d.2.1,λj=>bif ww j n3 then aD.1 else n5.1 j,λj=>bif ww j n3 then aD.2 else n5.2 j))) no)) (opt (dL n2.1.1) λaj=>ae (decide (aj>1073741840)) (ret (wn (wr ()))) (opt (cW n2.1.1 n2.1.1) λaD=>ae (wd (y0*16) 140737488355328) (ret (wr (n1,d.2.1,λj=>bif ww j n3 then aD.1 else n5.1 j,λj=>bif ww j n3 then aD.2 else n5.2 j))) no))))) no) (ret (wn (wn ((n3,n2.1,n2.2,y1),d.2))))
def SU:=bD (SS yd fP) 2000
def ab0 (yF:sQ)(vF:DU)(eH:LT m7 yf)(x0:Int)(x1:Int)(x2:Int)(x3:Int):Pg aqJ:=ae true (opt (eH ((0,(x0,x1,x2,x3),0),(x0,x1,x2,x3),λx=>0,λx=>0)) λx=>sum x (λd=>ret false) λd=>ae (ww d.1.1 d.1.1) (opt (yF d.1.1 d.2.2.1 d.2.2.2 true) λd=>opt (vF d.1.1 d.1.2 0) λd=>let y0:=wI (d.1-1152921504606846976);ae d.2 (ae (decide (y0>= -4294967296)) (ret (decide (y0<=4294967296))) (ret false)) (ret false)) no) no
def DY:=λx0 x1 x2 x3=>(ab0 lr rW SU x0 x1 x2 x3).val
abbrev Qu:=OE×oL×sQ×DU×(LT m7 yf)
def ab1 (p:Qu):KK:=⟨[adJ p.1,yx p.2.1,KS p.b.1,Qi p.b.2.1],⟨[⟨3,(0::2::rg 4 6 (rg 12 24 [39,40,44])),[(3,[.i .i64,.i .u64])]⟩],[fW 3 0 m7 aiw p.c],[],[],(some ⟨0,(0::1::rg 3 42 []),[]⟩)⟩,0,67⟩
theorem axY (p:Qu):LI (ab1 p) 3 m7 aiw (SS p.1 p.2.1):=λ_ d c K=>by kernel_rfl
theorem aGI (p:Qu):D2 (ab1 p) aqI (lf Wt) λb=>ab0 p.b.1 p.b.2.1 p.c b.1 b.2.1 b.b.1 b.b.2:=λb=>by kernel_rfl
abbrev ab2:Qu:=(yd,fP,lr,rW,SU)
theorem aGJ [ax]:SC (aqL DY):=sc (kS (k:=ab1 ab2) (.c aoL (.c Br (.c QZ (.c abu (.nil _))))) [3] [] ⟨kL (axY ab2),trivial⟩ trivial (aGI ab2))
def aqM:=qa (dp (cu aP (c ai (c H9 (cl aPn nil)))) λa=>(c xx (c (cl (gs a.2.1.1 oK) nil) (cl (cl (gs a.b.1 oK) nil) nil))))
def Wu:=qe (res (pr ai (pl (cl at5 aCZ) nil)))
abbrev aqN:=Wu.B
abbrev fg:=Int->Nat->Nat->Bool->NI->NI->Bool->Bool->Option aqN
def nY (g:fg):Ct:=(73,vE 3 [.i .i64] (vE 2 [.i .i64] (FC aqM (lf Wu) (λb=>g b.1.1 b.1.2.1.1 b.1.b.1 b.2.1 b.b.1 b.b.2 b.1.2.1.2 b.1.b.2))))
def vZ:=qs (st (dp (cu aP (c ai (c H9 (c aPn (us 5 (cu (app 3 2) aVE)))))) λa=>(pl (c cH (c (so (cl (gs a.2.1.1 oK) nil)) (c (so (cl (gs a.b.1.1 oK) nil)) aa0))) cR)))
def aBI:=qs (st (pr (cu aP (c ai (c H9 (c aPn (us 5 (cu (app 3 2) aVJ)))))) (pl (c cH (c JD (c JD aa0))) cR)))
abbrev Jd:=(aUZ×Bool×NI×NI×Int×Int)
def aix {ρ:Type}(x:Jd)(K:AX->St->Option ρ):Option ρ:=(λd=>K (.ex 0) (aBI.em (d.1,d.2.1,(d.1.2.1.1,d.b.1),(d.1.b.1.1,d.b.2.1),d.c))) x
def Je (aw:bO)(cW:oL)(yF:sQ)(d:vZ.B):PL vZ Jd:=let y0:=ws d.1.2.2.2.2;let y1:=decide (d.1.2.2.2.2<d.1.2.2.2.1);ae y1 (ae (bb d.1.2.2.2.2 d.1.2.1.1) (opt (aw (d.2.2.1 y0) d.2.1) λaj=>ae (bb d.1.2.2.2.2 d.1.2.2.1.1) (opt (aw (d.2.2.2.1 y0) aj.2) λaD=>opt (cW aj.1 aD.1) λbC=>opt (yF 2 (λj=>bif ww j 1 then bC.1 else bif ww j 0 then d.2.2.2.2.1 else d.2.2.2.2.1) (λj=>bif ww j 1 then bC.2 else bif ww j 0 then d.2.2.2.2.2 else d.2.2.2.2.2) true) λcM=>ret (wr ((d.1.1,d.1.2.1,d.1.2.2.1,d.1.2.2.2.1,wI (d.1.2.2.2.2+1)),aD.2,d.2.2.1,d.2.2.2.1,cM.1))) no) no) (ret (wn ((d.1.1,d.1.2.1,d.1.2.2.1,d.1.2.2.2.1,d.1.2.2.2.2,y1),d.2)))
def SV:=bD (Je aR fP lr) 2000
def ab3 (jF:yb)(eH:LT vZ Jd)(x0:Int)(x1:Nat)(x2:Nat)(x3:Bool)(x4:Nat->Int)(x5:Nat->Int)(w0:Bool)(w1:Bool):Pg aqN:=let y0:=if wl x2<wl x1 then wl x2 else wl x1;ae (decide (x0<0)) (opt (jF 0 0 x0 x3) λd=>ret d) (ae (decide (x0>120)) (opt (jF 0 0 x0 x3) λd=>ret d) (ae (ww x1 x1) (ae (ww x2 x2) (opt (eH ((x0,(x1,w0),(x2,w1),if 100<y0 then 100 else y0,0),x3,x4,x5,0,0)) λd=>opt (jF d.2.2.2.2.1 d.2.2.2.2.2 d.1.1 d.2.1) λd=>ret d) no) no))
def bu:=λx0 x1 x2 x3 x4 x5 w0 w1=>(ab3 oq SV x0 x1 x2 x3 x4 x5 w0 w1).val
abbrev Qv:=yb×bO×oL×sQ×(LT vZ Jd)
def ab4 (p:Qv):KK:=⟨[I5 p.1,dH p.2.1,yx p.b.1,KS p.b.2.1],⟨[⟨5,(rg 4 5 (rg 10 15 (rg 27 26 []))),[]⟩],[fW 5 3 vZ aix p.c],[0],[],(some ⟨0,(rg 0 8 (rg 9 44 [])),[]⟩)⟩,3,73⟩
theorem axZ (p:Qv):LI (ab4 p) 5 vZ aix (Je p.2.1 p.b.1 p.b.2.1):=λ_ d c K=>by kernel_rfl
theorem aGK (p:Qv):D2 (ab4 p) aqM (lf Wu) λb=>ab3 p.1 p.c b.1.1 b.1.2.1.1 b.1.b.1 b.2.1 b.b.1 b.b.2 b.1.2.1.2 b.1.b.2:=λb=>by kernel_rfl
abbrev ab5:Qv:=(oq,aR,fP,lr,SV)
theorem pB [ax]:SC (nY bu):=sc (Sound.nil 3 [.i .i64]<|Sound.nil 2 [.i .i64]<|kS (k:=ab4 ab5) (.c SI (.c dM (.c Br (.c QZ (.nil _))))) [5] [] ⟨kL (axZ ab5),trivial⟩ trivial (aGK ab5))
def azZ:=qa (pr (c ai (c ai (c ai (cl ai (cu aP (cu apL nil)))))) (cu aPA (c afh bG)))
def agy:=qe aV0
abbrev az0:=agy.B
abbrev alP:=Int->Int->Int->Int->Int->Int->Int->Int->Bool->Option az0
def az1 (g:alP):Ct:=(196,FC azZ (lf agy) (λb=>g b.1.1 b.1.2.1 b.1.b.1 b.1.b.2 b.2.1.1 b.2.1.2.1 b.2.1.b.1 b.2.1.b.2 b.b))
def alQ (bh:fg)(x0:Int)(x1:Int)(x2:Int)(x3:Int)(x4:Int)(x5:Int)(x6:Int)(x7:Int)(x8:Bool):Pg az0:=let y0:=wI (x0*x4);opt (bh 30 4 4 x8 (cr x4 [x7,x6,x5,x4]) (cr y0 [wI (x3*x7),wI (x2*x6),wI (x1*x5),y0]) false true) λd=>ret d
def Q9:=λx0 x1 x2 x3 x4 x5 x6 x7 x8=>(alQ bu x0 x1 x2 x3 x4 x5 x6 x7 x8).val
theorem aNT:∀bh,D0 [nY bh] 196 azZ (lf agy) λb=>alQ bh b.1.1 b.1.2.1 b.1.b.1 b.1.b.2 b.2.1.1 b.2.1.2.1 b.2.1.b.1 b.2.1.b.2 b.b:=λ_ b=>by kernel_rfl
theorem aNU [ax]:SC (az1 Q9):=s0 (.c pB (.nil _)) (aNT bu)
def az2:=qa (pr (c ai (c ai aJk)) (cu ar5 bG))
def agz:=qe aPY
abbrev az3:=agz.B
abbrev alR:=Int->Int->Int->Int->Bool->Option az3
def az4 (g:alR):Ct:=(197,FC az2 (lf agz) (λb=>g b.1.1 b.1.2.1 b.1.b.1 b.1.b.2 b.2))
def alS (bh:fg)(x0:Int)(x1:Int)(x2:Int)(x3:Int)(x4:Bool):Pg az3:=opt (bh 30 4 4 x4 (cr x0 [x2,x2,x0,x0]) (cr x1 [x3,x3,x1,x1]) true true) λd=>ret d
def Q':=λx0 x1 x2 x3 x4=>(alS bu x0 x1 x2 x3 x4).val
theorem aNV:∀bh,D0 [nY bh] 197 az2 (lf agz) λb=>alS bh b.1.1 b.1.2.1 b.1.b.1 b.1.b.2 b.2:=λ_ b=>by kernel_rfl
theorem aNW [ax]:SC (az4 Q'):=s0 (.c pB (.nil _)) (aNV bu)
def Z1:=qa (pr (c ai (c ai (cl ai (cu ay5 nil)))) (cl ar7 nil))
def JX:=qe aV4
abbrev Z2:=JX.B
abbrev Z3:=Int->Int->Int->NI->Option Z2
def Z4 (g:Z3):Ct:=(115,FC Z1 (lf JX) (λb=>g b.1.1 b.1.2.1 b.1.b b.2))
def jZ:=qs (st (pr (us 1 (c ai (c ai (cu ay5 (us 3 (cl ai (us 9 nil))))))) (pl JC cR)))
def aoV:=qs (st (pr (us 1 (c ai (c ai (cu ay5 (us 3 (c ai (us 1 (c ai (c ai (cl ab (us 5 nil))))))))))) (pl JC cR)))
abbrev uH:=(aR2×NI)
def Ud {ρ:Type}(x:uH)(K:AX->St->Option ρ):Option ρ:=(λd=>K (.ex 0) (aoV.em ((d.1.1,d.1.2.1,d.1.b.1,d.1.b.1,d.1.1,d.1.b.2),d.2))) x
def Hz (d:jZ.B):PL jZ uH:=let n1:=d.1.2;let y0:=ws n1.2;let y1:=decide (n1.2<d.1.1);ae y1 (ae (bb n1.2 24) (ae (true&&wd (0+y0*1+1) 24) (ret (wr ((d.1.1,n1.1,wI (n1.2+1)),λj=>bif ww j y0 then n1.1 else d.2 j))) no) no) (ret (wn ((d.1.1,n1.1,n1.2,y1),d.2)))
def HA:=bD (Hz) 2000
def Mb (eH:LT jZ uH)(x0:Int)(x1:Int)(x2:Int)(x3:Nat->Int):Pg Z2:=opt (eH ((x1,x2,x0),x3)) λd=>ret d.2
def yH:=λx0 x1 x2 x3=>(Mb HA x0 x1 x2 x3).val
abbrev ED:=(LT jZ uH)
def Mc (p:ED):KK:=⟨[],⟨[⟨1,(0::4::5::6::rg 8 9 []),[]⟩],[fW 1 1 jZ Ud p],[0],[],(some ⟨0,(rg 0 17 []),[]⟩)⟩,1,115⟩
theorem alT (p:ED):LI (Mc p) 1 jZ Ud (Hz):=λ_ d c K=>by kernel_rfl
theorem au2 (p:ED):D2 (Mc p) Z1 (lf JX) λb=>Mb p b.1.1 b.1.2.1 b.1.b b.2:=λb=>by kernel_rfl
abbrev Md:ED:=HA
theorem au3 [ax]:SC (Z4 yH):=sc (kS (k:=Mc Md) (.nil _) [1] [] ⟨kL (alT Md),trivial⟩ trivial (au2 Md))
def aiy:=qa (pr (cu aP jc) bG)
def OJ:=qe qO
abbrev aiz:=OJ.B
abbrev Dq:=Int->Bool->Option aiz
def SW (g:Dq):Ct:=(88,FC aiy (lf OJ) (λb=>g b.1 b.2))
def Jf (aF:cm)(x0:Int)(x1:Bool):Pg aiz:=opt (aF x0 1 72057594037927936 x1) λd=>ret d
def ot:=λx0 x1=>(Jf bc x0 x1).val
theorem aBJ:∀aF,D0 [eA aF] 88 aiy (lf OJ) λb=>Jf aF b.1 b.2:=λ_ b=>by kernel_rfl
theorem aiA [ax]:SC (SW ot):=s0 (.c eZ (.nil _)) (aBJ bc)
def adN:=qa (pr (cu aP (cl BG nil)) bG)
def Me:=qe aQb
abbrev OK:=Me.B
abbrev v5:=NI->NI->Bool->Option OK
def Gz (g:v5):Ct:=(69,FC adN (lf Me) (λb=>g b.1.1 b.1.2 b.2))
def gR:=qs (st (pr (cu aP (us 2 (cu G8 (cu Zo (us 2 aPy))))) (pl (c cH aw9) cR)))
def Wv:=qs (st (pr (cu aP (us 2 (cu G8 (cu Zo (us 2 aPE))))) (pl (c cH aw9) cR)))
abbrev qZ:=Wv.B
def Ww {ρ:Type}:=@ef qZ ((.ex 0)) Wv ρ
def BW (SX:Dq)(d:gR.B):PL gR qZ:=let y0:=ws d.1;let y1:=bb d.1 24;let y2:=decide (d.1<24);ae y2 (ae y1 (opt (SX (d.2.2.1.2 y0) d.2.1) λaj=>ae y1 (ae (true&&wd (276+y0*1+1) 300) (ret (wr (wI (d.1+1),aj.2,(d.2.2.1.1,λj=>bif ww j y0 then aj.1 else d.2.2.1.2 j),d.2.2.2))) no) no) no) (ret (wn ((d.1,y2),d.2)))
def BX:=bD (BW ot) 2000
def gT:=qs (st (pr (cu aP (us 2 (cu G8 (cu Zo (us 15 aI6))))) (pl (c cH aw9) cR)))
def Wx:=qs (st (pr (cu aP (us 2 (cu G8 (cu Zo (us 15 aJd))))) (pl (c cH aw9) cR)))
abbrev rb:=Wx.B
def Wy {ρ:Type}:=@ef rb ((.ex 2)) Wx ρ
def BY (aF:cm)(d:gT.B):PL gT rb:=let y0:=ws d.1;let y1:=bb d.1 276;let y2:=decide (d.1<276);let y3:=0+y0*1+1;let y4:=wd y3 276;ae y2 (ae y1 (ae y4 (opt (aF (d.2.2.1.1 y0) (-1152921504606846976) 1152921504606846976 d.2.1) λaj=>ae y1 (ae (y4&&wd y3 300) (ret (wr (wI (d.1+1),aj.2,(λj=>bif ww j y0 then aj.1 else d.2.2.1.1 j,d.2.2.1.2),d.2.2.2))) no) no) no) no) (ret (wn ((d.1,y2),d.2)))
def BZ:=bD (BY bc) 2000
def GA (eH:LT gR qZ)(qG:LT gT rb)(x0:Nat->Int)(x1:Nat->Int)(x2:Bool):Pg OK:=opt (eH (0,x2,(x0,x1),λx=>0,λx=>0)) λd=>opt (qG (0,d.2)) λd=>ret (d.2.2.1,d.2.1)
def jL:=λx0 x1 x2=>(GA BX BZ x0 x1 x2).val
abbrev AS:=Dq×cm×(LT gR qZ)×(LT gT rb)
def GB (p:AS):KK:=⟨[SW p.1,eA p.2.1],⟨[⟨2,(1::2::5::6::rg 8 26 []),[]⟩,⟨7,(1::2::rg 5 15 (rg 21 13 [])),[]⟩],[fW 2 1 gR Ww p.b.1,fW 7 1 gT Wy p.b.2],[0],[],(some ⟨0,(rg 0 4 (rg 5 29 [])),[]⟩)⟩,1,69⟩
theorem aoW (p:AS):LI (GB p) 2 gR Ww (BW p.1):=λ_ d c K=>by kernel_rfl
theorem aoX (p:AS):LI (GB p) 7 gT Wy (BY p.2.1):=λ_ d c K=>by kernel_rfl
theorem ax0 (p:AS):D2 (GB p) adN (lf Me) λb=>GA p.b.1 p.b.2 b.1.1 b.1.2 b.2:=λb=>by kernel_rfl
abbrev GC:AS:=(ot,bc,BX,BZ)
theorem OL [ax]:SC (Gz jL):=sc (kS (k:=GB GC) (.c aiA (.c eZ (.nil _))) [2,7] [] ⟨kL (aoW GC),⟨kL (aoX GC),trivial⟩⟩ trivial (ax0 GC))
def aER:=qa (dp (cu aP awY) λa=>(c xx (cl (cl (gs a.1 oK) nil) nil)))
def alU:=qe aWq
abbrev aES:=alU.B
abbrev asW:=Nat->Bool->NI->Bool->Option aES
def aET (g:asW):Ct:=(50,vE 1 [.i .i64] (FC aER (lf alU) (λb=>g b.1.1 b.2.1 b.b b.1.2)))
def vI:=qs (st (dp (cu aP (c H9 (us 2 (cu Zo (cu aHJ (us 1 aI8)))))) λa=>(pl (c cH (c (so (cl (gs a.1.1 oK) nil)) aw9)) cR)))
def aKp:=qs (st (pr (cu aP (c H9 (us 2 (cu Zo (cu aHJ (us 1 aPF)))))) (pl (c cH (c JD aw9)) cR)))
abbrev Mf:=(((Nat×Bool)×Int×Bool)×Bool×NI×(NI×NI)×NI×NI)
def au4 {ρ:Type}(x:Mf)(K:AX->St->Option ρ):Option ρ:=(λd=>K (.ex 0) (aKp.em (d.1,d.2.1,(d.1.1.1,d.b.1),d.b.2))) x
def agA (SX:Dq)(d:vI.B):PL vI Mf:=let n3:=d.1.1;let n2:=d.1.2;let n1:=d.2.2;let y0:=ws n2;let y1:=bb n2 24;let y2:=decide (n2<24);let y3:=true&&wd (276+y0*1+1) 300;ae y2 (ae y1 (ae y3 (ae (decide (n2<wl n3.1)) (ae (bb n2 n3.1) (opt (SX (n1.1 y0) d.2.1) λaj=>ae y1 (ae y3 (ret (wr ((n3,wI (n2+1)),aj.2,n1.1,n1.2.1,n1.2.2.1,λj=>let y0:=ww j y0;bif y0 then aj.1 else bif y0 then 1 else n1.2.2.2 j))) no) no) no) (ret (wr ((n3,wI (n2+1)),d.2.1,n1.1,n1.2.1,n1.2.2.1,λj=>bif ww j y0 then 1 else n1.2.2.2 j)))) no) no) (ret (wn ((n3,n2,y2),d.2)))
def agB:=bD (agA ot) 2000
def asX (eH:LT vI Mf)(x0:Nat)(x1:Bool)(x2:Nat->Int)(w0:Bool):Pg aES:=ae (ww x0 x0) (opt (eH (((x0,w0),0),x1,x2,(λx=>0,λx=>0),λx=>0,λx=>0)) λd=>ret (d.2.2.2.2,d.2.1)) no
def Wz:=λx0 x1 x2 w0=>(asX agB x0 x1 x2 w0).val
abbrev agC:=Dq×(LT vI Mf)
def asY (p:agC):KK:=⟨[SW p.1],⟨[⟨3,(2::3::6::rg 8 20 []),[]⟩],[fW 3 2 vI au4 p.2],[0],[],(some ⟨0,(rg 0 4 (rg 5 23 [])),[]⟩)⟩,2,50⟩
theorem aGL (p:agC):LI (asY p) 3 vI au4 (agA p.1):=λ_ d c K=>by kernel_rfl
theorem aRi (p:agC):D2 (asY p) aER (lf alU) λb=>asX p.2 b.1.1 b.2.1 b.b b.1.2:=λb=>by kernel_rfl
abbrev asZ:agC:=(ot,agB)
theorem aRj [ax]:SC (aET Wz):=sc (Sound.nil 1 [.i .i64]<|kS (k:=asY asZ) (.c aiA (.nil _)) [3] [] ⟨kL (aGL asZ),trivial⟩ trivial (aRi asZ))
def au5:=qa (pl zE nil)
def ab6:=qe aw4
abbrev UW:=ab6.B
abbrev agD:=Int->Int->Option UW
def agE (g:agD):Ct:=(125,FC au5 (lf ab6) (λb=>g b.1 b.2))
def GD (x0:Int)(x1:Int):Pg UW:=let y0:=wI (wI (Int.tdiv (wI (x1*wI (x1-1))) 2)+x0);ae (decide (x0>=0)) (ae (decide (x0<x1)) (ret (y0,decide (x1<24))) (ret (y0,false))) (ret (y0,false))
def kC:=λx0 x1=>(GD x0 x1).val
theorem aKq:D0 [] 125 au5 (lf ab6) λb=>GD b.1 b.2:=λb=>by kernel_rfl
theorem au6 [ax]:SC (agE kC):=s0 (.nil _) aKq
def aNX:=qa (pl (c BG zE) nil)
def ax1:=qe Hn
abbrev aNY:=ax1.B
abbrev WA:=NI->NI->Int->Int->Option aNY
def au7 (g:WA):Ct:=(71,FC aNX (lf ax1) (λb=>g b.1.1 b.1.2 b.2.1 b.b))
def au8 (pJ:agD)(x0:Nat->Int)(x1:Nat->Int)(x2:Int)(x3:Int):Pg aNY:=ae (x2==x3) (ae (decide (x2>=0)) (ae (decide (x2<24)) (ret 1073741824) (opt (pJ x2 x3) λd=>ae (!d.2) (ret 0) (ae (bb d.1 276) (ae (wd (0+ws d.1*1+1) 276) (ret (x0 (ws d.1))) no) no))) (opt (pJ x2 x3) λd=>ae (!d.2) (ret 0) (ae (bb d.1 276) (ae (wd (0+ws d.1*1+1) 276) (ret (x0 (ws d.1))) no) no))) (opt (pJ x2 x3) λd=>ae (!d.2) (ret 0) (ae (bb d.1 276) (ae (wd (0+ws d.1*1+1) 276) (ret (x0 (ws d.1))) no) no))
def Fl:=λx0 x1 x2 x3=>(au8 kC x0 x1 x2 x3).val
theorem aYa:∀pJ,D0 [agE pJ] 71 aNX (lf ax1) λb=>au8 pJ b.1.1 b.1.2 b.2.1 b.b:=λ_ b=>by kernel_rfl
theorem aEU [ax]:SC (au7 Fl):=s0 (.c au6 (.nil _)) (aYa kC)
def aEV:=qa (pl (c BG E6) nil)
def alV:=qe (res (pl BG (pu nil nil)))
abbrev aEW:=alV.B
abbrev WB:=NI->NI->Int->Int->Int->Option aEW
def as0 (g:WB):Ct:=(217,FC aEV (lf alV) (λb=>g b.1.1 b.1.2 b.2.1 b.b.1 b.b.2))
def agF (pJ:agD)(x0:Nat->Int)(x1:Nat->Int)(x2:Int)(x3:Int)(x4:Int):Pg aEW:=opt (pJ x2 x3) λd=>let y0:=0+ws d.1*1+1;ae d.2 (ae (bb d.1 276) (ae (wd y0 276&&wd y0 300) (ret (λj=>bif ww j (ws d.1) then x4 else x0 j,x1)) no) no) (ret (x0,x1))
def zM:=λx0 x1 x2 x3 x4=>(agF kC x0 x1 x2 x3 x4).val
theorem aRk:∀pJ,D0 [agE pJ] 217 aEV (lf alV) λb=>agF pJ b.1.1 b.1.2 b.2.1 b.b.1 b.b.2:=λ_ b=>by kernel_rfl
theorem aEX [ax]:SC (as0 zM):=s0 (.c au6 (.nil _)) (aRk kC)
def aiB:=qa (pu nil nil)
def OM:=qe (res (pl (aa aC1) (pu nil nil)))
abbrev Dr:=OM.B
abbrev Ds:=Option Dr
def SY (g:Ds):Ct:=(213,FC aiB (lf OM) (λ_=>g))
def iV:=qs (st (pr (cu (app 0 576) (cu QQ (us 1 aPB))) (pl (c nm (cl nm nil)) nil)))
def Z5:=qs (st (pr (cu (app 0 576) (cu QQ (us 1 aJf))) (pl (c nm (cl nm nil)) nil)))
abbrev tZ:=Z5.B
def Z6 {ρ:Type}:=@ef tZ ((.ex 0)) Z5 ρ
def EE (d:iV.B):PL iV tZ:=let y0:=ws d.1;let y1:=bb d.1 24;let y2:=decide (d.1<24);let y3:=y0*24+y0;ae y2 (ae y1 (ae y1 (ae (true&&wd (0+y3*1+1) 576) (ret (wr (wI (d.1+1),d.2.1,λj=>bif ww j y3 then 1073741824 else d.2.2 j))) no) no) no) (ret (wn ((d.1,y2),d.2)))
def EF:=bD (EE) 2000
def Jg (eH:LT iV tZ):Pg Dr:=opt (eH (0,λx=>0,λx=>0)) λd=>ret d.2.2
def ou:Option Dr:=(Jg EF).val
abbrev Jh:=(LT iV tZ)
def SZ (p:Jh):KK:=⟨[],⟨[⟨3,(2::rg 4 8 []),[]⟩],[fW 3 0 iV Z6 p],[],[],(some ⟨0,(rg 1 11 []),[]⟩)⟩,0,213⟩
theorem as1 (p:Jh):LI (SZ p) 3 iV Z6 (EE):=λ_ d c K=>by kernel_rfl
theorem aBK (p:Jh):D2 (SZ p) aiB (lf OM) λb=>Jg p:=λb=>by kernel_rfl
abbrev S3:Jh:=EF
theorem aiC [ax]:SC (SY ou):=sc (kS (k:=SZ S3) (.nil _) [3] [] ⟨kL (as1 S3),trivial⟩ trivial (aBK S3))
def au9:=qa (pr (cu aP (c (aa aaZ) Hq)) bG)
def ab7:=qe aw6
abbrev ava:=ab7.B
abbrev GF:=NI->Int->Int->Int->Bool->Option ava
def Mg (g:GF):Ct:=(124,FC au9 (lf ab7) (λb=>g b.1.1 b.1.2.1 b.1.b.1 b.1.b.2 b.2))
def p9:=qs (st (pr (cu aP (us 3 (cu aHK (cu Zn (cu akm (cu aR4 (us 1 aPx))))))) (pl (c cH (c (so aaZ) (c zF akC))) cR)))
def alW:=qs (st (pr (cu aP (us 3 (cu aHK (cu Zn (cu akm (cu aR4 (us 1 (c ai aPv)))))))) (pl (c cH (c (so aaZ) (c zF akC))) cR)))
abbrev Fo:=alW.B
def alX {ρ:Type}:=@ef Fo ((.ex 0)) alW ρ
def WC (bh:fg)(d:p9.B):PL p9 Fo:=let n2:=d.2.2.1;let n1:=d.2.2.2;let y0:=wI (3*d.1);let y1:=wI (d.1+1);let y2:=ws y0;let y3:=wI (y0+3);let y4:=ws y3;let y5:=decide (d.1<3);let y6:=y4-y2;ae y5 (ae (KI y3 9) (ae (KI y0 y4) (ae (ww y6 y6) (opt (bh 30 y6 3 d.2.1 (λj=>n2 (y2+j)) (cr n1.1.1 [n1.1.2.2,n1.1.2.1,n1.1.1]) false false) λaj=>ae (bb d.1 3) (ae (d.1==2) (ret (wr (y1,aj.2,n2,n1.1,n1.2.1,n1.2.2.1,aj.1))) (ae (d.1==1) (ret (wr (y1,aj.2,n2,n1.1,n1.2.1,aj.1,n1.2.2.2))) (ret (wr (y1,aj.2,n2,n1.1,aj.1,n1.2.2))))) no) no) no) no) (ret (wn ((d.1,y5),d.2)))
def WD:=bD (WC bu) 2000
def agG (eH:LT p9 Fo)(x0:Nat->Int)(x1:Int)(x2:Int)(x3:Int)(x4:Bool):Pg ava:=opt (eH (0,x4,x0,(x1,x2,x3),0,0,0)) λd=>ret (d.2.2.2.2,d.2.1)
def pK:=λx0 x1 x2 x3 x4=>(agG WD x0 x1 x2 x3 x4).val
abbrev UX:=fg×(LT p9 Fo)
def agH (p:UX):KK:=⟨[nY p.1],⟨[⟨3,(1::2::3::8::rg 10 15 []),[]⟩],[fW 3 1 p9 alX p.2],[0],[],(some ⟨0,(rg 0 6 (rg 7 18 [])),[]⟩)⟩,1,124⟩
theorem aBL (p:UX):LI (agH p) 3 p9 alX (WC p.1):=λ_ d c K=>by kernel_rfl
theorem aKr (p:UX):D2 (agH p) au9 (lf ab7) λb=>agG p.2 b.1.1 b.1.2.1 b.1.b.1 b.1.b.2 b.2:=λb=>by kernel_rfl
abbrev agI:UX:=(bu,WD)
theorem UY [ax]:SC (Mg pK):=sc (kS (k:=agH agI) (.c pB (.nil _)) [3] [] ⟨kL (aBL agI),trivial⟩ trivial (aKr agI))
def az5:=qa (pr (cu aP (c (aa aaZ) Hq)) bG)
def agJ:=qe aw6
abbrev az6:=agJ.B
abbrev Fq:=NI->Int->Int->Int->Bool->Option az6
def Z7 (g:Fq):Ct:=(121,FC az5 (lf agJ) (λb=>g b.1.1 b.1.2.1 b.1.b.1 b.1.b.2 b.2))
def sU:=qs (st (pr (cu aP (us 3 (cu aHK (cu Zn (cu akm (cu aR4 (us 1 aU9))))))) (pl (c cH (c (so aaZ) (c zF akC))) cR)))
def aqO:=qs (st (pr (cu aP (us 3 (cu aHK (cu Zn (cu akm (cu aR4 (us 1 aVo))))))) (pl (c cH (c (so aaZ) (c zF akC))) cR)))
abbrev Iq:=aqO.B
def aqP {ρ:Type}:=@ef Iq ((.ex 0)) aqO ρ
def ab8 (bh:fg)(d:sU.B):PL sU Iq:=let n1:=d.2.2;let n3:=n1.2.2;let n2:=n1.2.1;let y0:=wI (6+d.1);let y1:=wI (d.1+1);let y2:=wI (3+d.1);let y3:=decide (d.1<3);ae y3 (ae (bb d.1 9) (ae (bb y2 9) (ae (bb y0 9) (opt (bh 30 3 3 d.2.1 (cr (n1.1 (ws d.1)) [n1.1 (ws y0),n1.1 (ws y2),n1.1 (ws d.1)]) (cr n2.1 [n2.2.2,n2.2.1,n2.1]) true false) λaj=>ae (bb d.1 3) (ae (d.1==2) (ret (wr (y1,aj.2,n1.1,n2,n3.1,n3.2.1,aj.1))) (ae (d.1==1) (ret (wr (y1,aj.2,n1.1,n2,n3.1,aj.1,n3.2.2))) (ret (wr (y1,aj.2,n1.1,n2,aj.1,n3.2))))) no) no) no) no) (ret (wn ((d.1,y3),d.2)))
def ab9:=bD (ab8 bu) 2000
def alY (eH:LT sU Iq)(x0:Nat->Int)(x1:Int)(x2:Int)(x3:Int)(x4:Bool):Pg az6:=opt (eH (0,x4,x0,(x1,x2,x3),0,0,0)) λd=>ret (d.2.2.2.2,d.2.1)
def yI:=λx0 x1 x2 x3 x4=>(alY ab9 x0 x1 x2 x3 x4).val
abbrev Z8:=fg×(LT sU Iq)
def alZ (p:Z8):KK:=⟨[nY p.1],⟨[⟨3,(1::2::3::8::rg 10 21 []),[]⟩],[fW 3 1 sU aqP p.2],[0],[],(some ⟨0,(rg 0 6 (rg 7 24 [])),[]⟩)⟩,1,121⟩
theorem aEY (p:Z8):LI (alZ p) 3 sU aqP (ab8 p.1):=λ_ d c K=>by kernel_rfl
theorem aNZ (p:Z8):D2 (alZ p) az5 (lf agJ) λb=>alY p.2 b.1.1 b.1.2.1 b.1.b.1 b.1.b.2 b.2:=λb=>by kernel_rfl
abbrev al0:Z8:=(bu,ab9)
theorem al1 [ax]:SC (Z7 yI):=sc (kS (k:=alZ al0) (.c pB (.nil _)) [3] [] ⟨kL (aEY al0),trivial⟩ trivial (aNZ al0))
def avb:=qa (pl (cl (aa E7) nil) nil)
def aca:=qe E5
abbrev avc:=aca.B
abbrev avd:=Int->Int->Bool->Bool->Option avc
def ave (g:avd):Ct:=(176,FC avb (lf aca) (λb=>g b.1 b.2.1 b.b.1 b.b.2))
def agK (x0:Int)(x1:Int)(x2:Bool)(x3:Bool):Pg avc:=let y0:=x0==0;let y1:=x0==2;ae y0 (ae y0 (ae (x1==0) (ae (!x2) (ret !x3) (ret false)) (ret false)) (ae y1 (ae y1 (ae (decide (x1>=1)) (ae (decide (x1<=3)) (ae x2 (ret true) (ret y1)) (ret false)) (ret false)) (ret false)) (ae (x0==3) (ae (decide (x1>=1)) (ae (decide (x1<=3)) (ae x2 (ret true) (ret y1)) (ret false)) (ret false)) (ret false)))) (ae (x0==1) (ae (x1==0) (ae (!x2) (ret !x3) (ret false)) (ret false)) (ae y1 (ae y1 (ae (decide (x1>=1)) (ae (decide (x1<=3)) (ae x2 (ret true) (ret y1)) (ret false)) (ret false)) (ret false)) (ae (x0==3) (ae (decide (x1>=1)) (ae (decide (x1<=3)) (ae x2 (ret true) (ret y1)) (ret false)) (ret false)) (ret false))))
def Mh:=λx0 x1 x2 x3=>(agK x0 x1 x2 x3).val
theorem aKs:D0 [] 176 avb (lf aca) λb=>agK b.1 b.2.1 b.b.1 b.b.2:=λb=>by kernel_rfl
theorem aKt [ax]:SC (ave Mh):=s0 (.nil _) aKs
def avf:=qa (pl (c ai aQh) nil)
def acb:=qe Hn
abbrev agL:=acb.B
abbrev avg:=Int->Bool->Bool->Bool->Bool->Bool->Bool->Bool->Bool->Int->Int->Int->Option agL
def avh (g:avg):Ct:=(177,FC avf (lf acb) (λb=>g b.1 b.2.1 b.b.1 b.b.2.1.1 b.b.2.1.2.1 b.b.2.1.b.1 b.b.2.1.b.2.1 b.b.2.1.c.1 b.b.2.1.c.2 b.c.1 b.c.2.1 b.c.b))
def UZ (x0:Int)(x1:Bool)(x2:Bool)(x3:Bool)(x4:Bool)(x5:Bool)(x6:Bool)(x7:Bool)(x8:Bool)(x9:Int)(gA:Int)(fX:Int):Pg agL:=let y0:=x0==0;let y1:=x0==1;ae x3 (ae y0 (ae x1 (ret 1) (ae y0 (ret x0) (ae y1 (ae (!x2) (ret x0) (ret 3)) (ret 3)))) (ae y0 (ret x0) (ae y1 (ae (!x2) (ret x0) (ret 3)) (ret 3)))) (ae y0 (ae x1 (ret 1) (ae y0 (ret x0) (ae y1 (ae (!x2) (ret x0) (ae x8 (ret 3) (ret 2))) (ae x8 (ret 3) (ret 2))))) (ae y0 (ret x0) (ae y1 (ae (!x2) (ret x0) (ae x8 (ret 3) (ret 2))) (ae x8 (ret 3) (ret 2)))))
def B3:=λx0 x1 x2 x3 x4 x5 x6 x7 x8 x9 gA fX=>(UZ x0 x1 x2 x3 x4 x5 x6 x7 x8 x9 gA fX).val
theorem aKu:D0 [] 177 avf (lf acb) λb=>UZ b.1 b.2.1 b.b.1 b.b.2.1.1 b.b.2.1.2.1 b.b.2.1.b.1 b.b.2.1.b.2.1 b.b.2.1.c.1 b.b.2.1.c.2 b.c.1 b.c.2.1 b.c.b:=λb=>by kernel_rfl
theorem aKv [ax]:SC (avh B3):=s0 (.nil _) aKu
def al2:=qa (pl jc nil)
def S4:=qe Hn
abbrev al3:=S4.B
abbrev WE:=Int->Option al3
def al4 (g:WE):Ct:=(239,FC al2 (lf S4) (λb=>g b))
def Fs (x0:Int):Pg al3:=ae (x0==1) (ret 1) (ae (x0==2) (ret 0) (ret 2))
def AT:=λx0=>(Fs x0).val
theorem aEZ:D0 [] 239 al2 (lf S4) λb=>Fs b:=λb=>by kernel_rfl
theorem aE0 [ax]:SC (al4 AT):=s0 (.nil _) aEZ
def al5:=qa (pl (c ai aQh) nil)
def S5:=qe aw4
abbrev WG:=S5.B
abbrev al6:=Int->Bool->Bool->Bool->Bool->Bool->Bool->Bool->Bool->Int->Int->Int->Option WG
def al7 (g:al6):Ct:=(178,FC al5 (lf S5) (λb=>g b.1 b.2.1 b.b.1 b.b.2.1.1 b.b.2.1.2.1 b.b.2.1.b.1 b.b.2.1.b.2.1 b.b.2.1.c.1 b.b.2.1.c.2 b.c.1 b.c.2.1 b.c.b))
def lJ:=qs (st (pr (c ai (us 1 (xs 1 (cu (app 0 11) (us 2 (xs 1 (us 3 (cu aWi (cu (ac aPC) aI8))))))))) (pl (c aQa (cl (so (cl gi (cu (gc awX) (cu aPG aPM)))) nil)) nil)))
def WH:=qs (st (pl (us 4 (cl ai (cu Ho aU1))) (pu nil nil)))
def WI:=qs (st (pr (c ai (us 1 (xs 1 (cu (app 0 11) (us 2 (xs 1 (us 3 (cu aWi (cu (ac aPC) aPF))))))))) (pl (c aQa (cl (so (cl gi (cu (gc awX) (cu aPG aPM)))) nil)) nil)))
abbrev v7:=WH.B⊕WI.B
def adO {ρ:Type}(x:v7)(K:AX->St->Option ρ):Option ρ:=(Sum.elim (λd=>K .ret (WH.em d)) (λd=>K (.ex 0) (WI.em d))) x
def GG (Mi:WE)(d:lJ.B):PL lJ v7:=let n6:=d.2.2;let n5:=d.2.1.2.2;let n3:=d.1.1;let n2:=d.1.2;let n1:=n5.2;let n4:=n1.2.2;let n7:=n4.2.2.1;let y0:=decide (n2<4);ae y0 (ae (bb n2 4) (ae (n2==3) (opt (Mi 3) λaj=>ae (bb aj 6) (ae (aj==5) (ae n7 (ret (wn (wr 3))) (ret (wr ((n3,wI (n2+1)),d.2)))) (ae (aj==4) (ae n4.2.1 (ret (wn (wr 3))) (ret (wr ((n3,wI (n2+1)),d.2)))) (ae (aj==3) (ae n4.1 (ret (wn (wr 3))) (ret (wr ((n3,wI (n2+1)),d.2)))) (ae (aj==2) (ae n1.2.1 (ret (wn (wr 3))) (ret (wr ((n3,wI (n2+1)),d.2)))) (ae (aj==1) (ae n1.1 (ret (wn (wr 3))) (ret (wr ((n3,wI (n2+1)),d.2)))) (ae n5.1 (ret (wn (wr 3))) (ret (wr ((n3,wI (n2+1)),d.2))))))))) no) (ae (n2==2) (opt (Mi 2) λaj=>ae (bb aj 6) (ae (aj==5) (ae n7 (ret (wn (wr 2))) (ret (wr ((n3,wI (n2+1)),d.2)))) (ae (aj==4) (ae n4.2.1 (ret (wn (wr 2))) (ret (wr ((n3,wI (n2+1)),d.2)))) (ae (aj==3) (ae n4.1 (ret (wn (wr 2))) (ret (wr ((n3,wI (n2+1)),d.2)))) (ae (aj==2) (ae n1.2.1 (ret (wn (wr 2))) (ret (wr ((n3,wI (n2+1)),d.2)))) (ae (aj==1) (ae n1.1 (ret (wn (wr 2))) (ret (wr ((n3,wI (n2+1)),d.2)))) (ae n5.1 (ret (wn (wr 2))) (ret (wr ((n3,wI (n2+1)),d.2))))))))) no) (ae (n2==1) (opt (Mi 1) λaj=>ae (bb aj 6) (ae (aj==5) (ae n7 (ret (wn (wr 1))) (ret (wr ((n3,wI (n2+1)),d.2)))) (ae (aj==4) (ae n4.2.1 (ret (wn (wr 1))) (ret (wr ((n3,wI (n2+1)),d.2)))) (ae (aj==3) (ae n4.1 (ret (wn (wr 1))) (ret (wr ((n3,wI (n2+1)),d.2)))) (ae (aj==2) (ae n1.2.1 (ret (wn (wr 1))) (ret (wr ((n3,wI (n2+1)),d.2)))) (ae (aj==1) (ae n1.1 (ret (wn (wr 1))) (ret (wr ((n3,wI (n2+1)),d.2)))) (ae n5.1 (ret (wn (wr 1))) (ret (wr ((n3,wI (n2+1)),d.2))))))))) no) (ae (decide (n6>=1)) (ae (decide (n6<=3)) (opt (Mi n6) λaj=>ae (bb aj 6) (ae (aj==5) (ae n7 (ret (wn (wr n6))) (ret (wr ((n3,wI (n2+1)),d.2)))) (ae (aj==4) (ae n4.2.1 (ret (wn (wr n6))) (ret (wr ((n3,wI (n2+1)),d.2)))) (ae (aj==3) (ae n4.1 (ret (wn (wr n6))) (ret (wr ((n3,wI (n2+1)),d.2)))) (ae (aj==2) (ae n1.2.1 (ret (wn (wr n6))) (ret (wr ((n3,wI (n2+1)),d.2)))) (ae (aj==1) (ae n1.1 (ret (wn (wr n6))) (ret (wr ((n3,wI (n2+1)),d.2)))) (ae n5.1 (ret (wn (wr n6))) (ret (wr ((n3,wI (n2+1)),d.2))))))))) no) (ret (wr ((n3,wI (n2+1)),d.2)))) (ret (wr ((n3,wI (n2+1)),d.2))))))) no) (ret (wn (wn ((n3,n2,y0),d.2))))
def ON:=bD (GG AT) 2000
def Mj (eH:LT lJ v7)(x0:Int)(x1:Bool)(x2:Bool)(x3:Bool)(x4:Bool)(x5:Bool)(x6:Bool)(x7:Bool)(x8:Bool)(x9:Int)(gA:Int)(fX:Int):Pg WG:=opt (eH ((x0,0),(x1,x2,x3,x4,x5,x6,x7,x8,x9,gA,fX),fX)) λx=>sum x (λd=>ret (d,true)) λd=>ret (if 1>d.1.1 then 1 else d.1.1,false)
def wK:=λx0 x1 x2 x3 x4 x5 x6 x7 x8 x9 gA fX=>(Mj ON x0 x1 x2 x3 x4 x5 x6 x7 x8 x9 gA fX).val
abbrev Mk:=WE×(LT lJ v7)
def WJ (p:Mk):KK:=⟨[al4 p.1],⟨[⟨2,(1::4::5::7::8::9::rg 13 6 (21::22::rg 28 5 (19::20::rg 23 5 []))),[]⟩],[fW 2 0 lJ adO p.2],[],[],(some ⟨0,(rg 0 4 (rg 6 27 [])),[]⟩)⟩,0,178⟩
theorem avi (p:Mk):LI (WJ p) 2 lJ adO (GG p.1):=λ_ d c K=>by kernel_rfl
theorem aE1 (p:Mk):D2 (WJ p) al5 (lf S5) λb=>Mj p.2 b.1 b.2.1 b.b.1 b.b.2.1.1 b.b.2.1.2.1 b.b.2.1.b.1 b.b.2.1.b.2.1 b.b.2.1.c.1 b.b.2.1.c.2 b.c.1 b.c.2.1 b.c.b:=λb=>by kernel_rfl
abbrev WK:Mk:=(AT,ON)
theorem aE2 [ax]:SC (al7 wK):=sc (kS (k:=WJ WK) (.c aE0 (.nil _)) [2] [] ⟨kL (avi WK),trivial⟩ trivial (aE1 WK))
def B4:=qa (pl (c (aa E7) aQh) nil)
def aGM:=qe (res (pl (sH (c (ra E7) (cl (ra (c gi (c gi (c gb aJg)))) nil))) (pu nil nil)))
abbrev Ml:=(qE×Int×Int)
def avj:Ml->T:=λd=>lf aGM (d.1,d.1.1,d.1.2.1,d.1.b.1,d.1.b.2,d.2)
abbrev agM:=B4.B->Option Ml
def avk (g:agM):Ct:=(111,FC B4 avj g)
def U0 (U2:avd)(Mm:avg)(Ft:al6)(x:B4.B):Pg Ml:=let n8:=x.2.2.1;let n7:=x.1.1;let n4:=x.1.2.1;let n1:=x.2.2.2;let n9:=n1.1.2.1;let n6:=n1.2.1;let n3:=n1.2.2;let n2:=n1.1.2.2;let n5:=n2.2.2;let y0:=decide (n6>=0);opt (U2 n7 n4 x.1.2.2.1 x.1.2.2.2) λd=>ae (!d) (opt (Mm 0 x.2.1 n8 n1.1.1 n9 n2.1 n2.2.1 n5.1 n5.2 n6 n3.1 n3.2) λd=>ae (decide (d>=2)) (opt (Ft 0 x.2.1 n8 n1.1.1 n9 n2.1 n2.2.1 n5.1 n5.2 n6 n3.1 n3.2) λaj=>ae (d==3) (ret ((d,aj.1,true,!aj.2),0,0)) (ae y0 (ret ((d,aj.1,decide (n6<=n3.1),!aj.2),0,0)) (ret ((d,aj.1,false,!aj.2),0,0)))) (ret ((d,0,false,false),0,0))) (opt (Mm n7 x.2.1 n8 n1.1.1 n9 n2.1 n2.2.1 n5.1 n5.2 n6 n3.1 n3.2) λd=>ae (decide (d>=2)) (opt (Ft n4 x.2.1 n8 n1.1.1 n9 n2.1 n2.2.1 n5.1 n5.2 n6 n3.1 n3.2) λaj=>ae (d==3) (ret ((d,aj.1,true,!aj.2),n7,n4)) (ae y0 (ret ((d,aj.1,decide (n6<=n3.1),!aj.2),n7,n4)) (ret ((d,aj.1,false,!aj.2),n7,n4)))) (ret ((d,0,false,false),n7,n4)))
def yJ:=λx=>(U0 Mh B3 wK x).val
theorem aKw:∀U2 Mm Ft,D0 [ave U2,avh Mm,al7 Ft] 111 B4 avj λb=>U0 U2 Mm Ft b:=λ_ _ _ b=>by kernel_rfl
theorem aKx [ax]:SC (avk yJ):=s0 (.c aKt (.c aKv (.c aE2 (.nil _)))) (aKw Mh B3 wK)
def aE3:=qa (dp (cu aP aJb) λa=>(c xx (cl (cl (gs a.1 ar8) nil) nil)))
def al8:=qe (res (pr aff (pl N' nil)))
abbrev aE4:=al8.B
abbrev B5:=Nat->Bool->NI->NI->NI->Bool->Option aE4
def JY (g:B5):Ct:=(153,vE 1 [.i .i64,.i .i64,.i .i64] (FC aE3 (lf al8) (λb=>g b.1.1 b.2.1 b.b.1 b.b.2.1 b.c b.1.2)))
def vJ:=qs (st (dp (cu aP (c ar4 (us 2 (cu Zn (cu akm (c ai (c aV9 (us 2 (c ai (us 2 (c ar4 (c ai (cl ai (us 17 nil)))))))))))))) λa=>(pl (c cH (c (so (cl (gs a.1.1 ar8) nil)) (cu (so ase) (c zF (cl (so (cl (gs a.b.1 oK) nil)) nil))))) cR)))
def aKy:=qs (st (pr (cu aP (c ar4 (us 2 (cu Zn (cu akm (c ai (c aV9 (us 2 (c ai (us 2 (c ar4 (c ai (c ai (cl ab (us 16 nil))))))))))))))) (pl (c cH (c aC9 (cu (so ase) (c zF akw)))) cR)))
abbrev Mn:=(((Nat×Bool)×Int×Nat×Int×(Nat×Bool)×Int×Int×Bool)×Bool×(NI×NI×NI)×lG×NI)
def avl {ρ:Type}(x:Mn)(K:AX->St->Option ρ):Option ρ:=(λd=>K (.ex 2) (aKy.em (d.1,d.2.1,(d.1.1.1,d.b.1),d.b.2.1,d.1.b.1,d.c))) x
def agN (d:vJ.B):PL vJ Mn:=let n5:=d.1.2.1;let n3:=d.2.2;let n2:=d.1.2.2;let n4:=n2.2.2.2;let y0:=n2.1+1;let n1:=(d.1.1,n5,y0,n2.2.1,n2.2.2.1,n4.1,wI (n4.2+1));let y1:=ws n4.2;let y2:=wd (y0*8) 140737488355328;let y3:=decide (n4.2<n4.1);ae y3 (ae (bb n4.2 n2.2.2.1.1) (ae (bb n5 3) (ae (n5==2) (ae y2 (ret (wr (n1,d.2.1,n3.1,n3.2.1,λj=>bif ww j n2.1 then n3.1.2.2 y1 else n3.2.2 j))) no) (ae (n5==1) (ae y2 (ret (wr (n1,d.2.1,n3.1,n3.2.1,λj=>bif ww j n2.1 then n3.1.2.1 y1 else n3.2.2 j))) no) (ae y2 (ret (wr (n1,d.2.1,n3.1,n3.2.1,λj=>bif ww j n2.1 then n3.1.1 y1 else n3.2.2 j))) no))) no) no) (ret (wn ((d.1.1,n5,n2.1,n2.2.1,n2.2.2.1,n4.1,n4.2,y3),d.2)))
def agO:=bD (agN) 2000
def vK:=qs (st (dp (cu aP (c ar4 (us 2 (cu Zn (cu akm (us 4 aVa)))))) λa=>(pl (c cH (c (so (cl (gs a.1.1 ar8) nil)) akC)) cR)))
def aKz:=qs (st (pr (cu aP (c ar4 (us 2 (cu Zn (cu akm (us 4 (c ai aPw))))))) (pl (c cH (c aC9 akC)) cR)))
abbrev Mp:=(((Nat×Bool)×Int×Bool)×Bool×(NI×NI×NI)×Int×Int×Int)
def avm {ρ:Type}(x:Mp)(K:AX->St->Option ρ):Option ρ:=(λd=>K (.ex 0) (aKz.em (d.1,d.2.1,(d.1.1.1,d.b.1),d.b.2))) x
def agP (cy:fJ)(qG:LT vJ Mn)(d:vK.B):PL vK Mp:=let n3:=d.1.1;let y0:=decide (d.1.2<3);ae y0 (ae (ww n3.1 n3.1) (ae true (opt (qG ((n3,d.1.2,0,d.1.2,n3,wl n3.1,0),d.2.1,d.2.2.1,d.2.2.2,λx=>0)) λd=>let n2:=d.2.2;let n4:=n2.2.1;let n1:=d.1.2;ae (ww n1.2.1 n1.2.1) (opt (cy n1.2.1 d.2.1 n2.2.2 true) λaj=>ae (bb n1.1 3) (ae (n1.1==2) (ret (wr ((d.1.1,wI (n1.2.2.1+1)),aj.2,n2.1,n4.1,n4.2.1,aj.1))) (ae (n1.1==1) (ret (wr ((d.1.1,wI (n1.2.2.1+1)),aj.2,n2.1,n4.1,aj.1,n4.2.2))) (ret (wr ((d.1.1,wI (n1.2.2.1+1)),aj.2,n2.1,aj.1,n4.2))))) no) no) no) no) (ret (wn ((n3,d.1.2,y0),d.2)))
def agQ:=bD (agP db agO) 2000
def as2 (eH:LT vK Mp)(x0:Nat)(x1:Bool)(x2:Nat->Int)(x3:Nat->Int)(x4:Nat->Int)(w0:Bool):Pg aE4:=ae (ww x0 x0) (opt (eH (((x0,w0),0),x1,(x2,x3,x4),0,0,0)) λd=>ret (d.2.2.2,d.2.1)) no
def lD:=λx0 x1 x2 x3 x4 w0=>(as2 agQ x0 x1 x2 x3 x4 w0).val
abbrev WL:=fJ×(LT vJ Mn)×(LT vK Mp)
def agR (p:WL):KK:=⟨[pA p.1],⟨[⟨3,(2::3::rg 6 4 (rg 11 22 [])),[]⟩,⟨7,(2::3::8::9::11::12::rg 16 17 []),[(7,[.i .i64])]⟩],[fW 7 2 vJ avl p.2.1,fW 3 2 vK avm p.b],[0],[],(some ⟨0,(rg 0 4 (rg 5 28 [])),[]⟩)⟩,2,153⟩
theorem aGN (p:WL):LI (agR p) 7 vJ avl (agN):=λ_ d c K=>by kernel_rfl
theorem aGO (p:WL):LI (agR p) 3 vK avm (agP p.1 p.2.1):=λ_ d c K=>by kernel_rfl
theorem aRl (p:WL):D2 (agR p) aE3 (lf al8) λb=>as2 p.b b.1.1 b.2.1 b.b.1 b.b.2.1 b.c b.1.2:=λb=>by kernel_rfl
abbrev agS:WL:=(db,agO,agQ)
theorem OO [ax]:SC (JY lD):=sc (Sound.nil 1 [.i .i64,.i .i64,.i .i64]<|kS (k:=agR agS) (.c rY (.nil _)) [3,7] [] ⟨kL (aGO agS),⟨kL (aGN agS),trivial⟩⟩ trivial (aRl agS))
def avn:=qa (pr (cu aP asc) bG)
def acd:=qe aw7
abbrev avo:=acd.B
abbrev ju:=Int->Int->Int->Int->Bool->Option avo
def ov (g:ju):Ct:=(86,FC avn (lf acd) (λb=>g b.1.1 b.1.2.1 b.1.b.1 b.1.b.2 b.2))
def qc:=qs (st (pr (cu aP (us 2 (cu apL (cu ay4 (c ai (us 8 (c ai (us 4 aI6)))))))) (pl (c cH (cl xB (cu akB nil))) cR)))
def al9:=qs (st (pr (cu aP (us 2 (cu apL (cu ay4 (c ai (us 8 (c ai (us 4 aJd)))))))) (pl (c cH (cl xB (cu akB nil))) cR)))
abbrev Fu:=al9.B
def ama {ρ:Type}:=@ef Fu ((.ex 2)) al9 ρ
def WM (aE:cO)(d:qc.B):PL qc Fu:=let n6:=d.1.1;let n4:=d.1.2.2;let n2:=d.2.2;let n5:=n2.2.1;let n3:=n2.2.2;let n1:=(n6,d.1.2.1,wI (n4+1));let y0:=bb n4 4;let y1:=n4==2;let y2:=n4==1;let y3:=n4==3;let y4:=decide (n4<4);ae y4 (ae y0 (ae y3 (opt (aE n3.2 n6 30 d.2.1) λaj=>ae y0 (ae y3 (ret (wr (n1,aj.2,n2.1,n5,n3.1,aj.1))) (ae y1 (ret (wr (n1,aj.2,n2.1,n5,aj.1,n3.2))) (ae y2 (ret (wr (n1,aj.2,n2.1,aj.1,n3))) (ret (wr (n1,aj.2,aj.1,n2.2)))))) no) (ae y1 (opt (aE n3.1 n6 30 d.2.1) λaj=>ae y0 (ae y3 (ret (wr (n1,aj.2,n2.1,n5,n3.1,aj.1))) (ae y1 (ret (wr (n1,aj.2,n2.1,n5,aj.1,n3.2))) (ae y2 (ret (wr (n1,aj.2,n2.1,aj.1,n3))) (ret (wr (n1,aj.2,aj.1,n2.2)))))) no) (ae y2 (opt (aE n5 n6 30 d.2.1) λaj=>ae y0 (ae y3 (ret (wr (n1,aj.2,n2.1,n5,n3.1,aj.1))) (ae y1 (ret (wr (n1,aj.2,n2.1,n5,aj.1,n3.2))) (ae y2 (ret (wr (n1,aj.2,n2.1,aj.1,n3))) (ret (wr (n1,aj.2,aj.1,n2.2)))))) no) (opt (aE n2.1 n6 30 d.2.1) λaj=>ae y0 (ae y3 (ret (wr (n1,aj.2,n2.1,n5,n3.1,aj.1))) (ae y1 (ret (wr (n1,aj.2,n2.1,n5,aj.1,n3.2))) (ae y2 (ret (wr (n1,aj.2,n2.1,aj.1,n3))) (ret (wr (n1,aj.2,aj.1,n2.2)))))) no)))) no) (ret (wn ((n6,d.1.2.1,n4,y4),d.2)))
def WN:=bD (WM bo) 2000
def qd:=qs (st (pr (cu aP (us 2 (cu apL (cu ay4 (us 9 aPz))))) (pl (c cH (cl xB (cu akB nil))) cR)))
def amb:=qs (st (pr (cu aP (us 2 (cu apL (cu ay4 (us 9 aJe))))) (pl (c cH (cl xB (cu akB nil))) cR)))
abbrev Fv:=amb.B
def amc {ρ:Type}:=@ef Fv ((.ex 0)) amb ρ
def WO (kY:zJ)(qG:LT qc Fu)(d:qd.B):PL qd Fv:=let n1:=d.2.2;let y0:=decide (d.1<2);ae y0 (opt (kY 4 d.2.1 (cr n1.1 [n1.2.2.2,n1.2.2.1,n1.2.1,n1.1]) false) λaj=>opt (qG ((aj.1,d.1,0),aj.2,n1)) λd=>ret (wr (wI (d.1.2.1+1),d.2))) (ret (wn ((d.1,y0),d.2)))
def WQ:=bD (WO gP WN) 2000
def agT (p7:Q7)(jh:Bu)(eH:LT qd Fv)(x0:Int)(x1:Int)(x2:Int)(x3:Int)(x4:Bool):Pg avo:=opt (p7 x0 x1 x2 x3 x4) λd=>ae (d.1.1==0&&(d.1.2.1==0&&(d.1.2.2.1==0&&(d.1.2.2.2==0&&true)))) (opt jh λaj=>ret ((1073741824,0,0,0),d.2)) (opt (eH (0,d.2,d.1)) λd=>ret (d.2.2,d.2.1))
def dI:=λx0 x1 x2 x3 x4=>(agT yG oN WQ x0 x1 x2 x3 x4).val
abbrev Mq:=Q7×Bu×zJ×cO×(LT qc Fu)×(LT qd Fv)
def U3 (p:Mq):KK:=⟨[ZY p.1,KW p.2.1,Im p.b.1,gO p.b.2.1],⟨[⟨5,(1::2::rg 5 9 (rg 15 18 [])),[]⟩,⟨8,(1::2::rg 6 8 (rg 15 4 (rg 20 13 []))),[]⟩],[fW 8 1 qc ama p.c.1,fW 5 1 qd amc p.c.2],[],[],(some ⟨0,(rg 0 4 (rg 5 28 [])),[]⟩)⟩,1,86⟩
theorem aBM (p:Mq):LI (U3 p) 8 qc ama (WM p.b.2.1):=λ_ d c K=>by kernel_rfl
theorem aBN (p:Mq):LI (U3 p) 5 qd amc (WO p.b.1 p.c.1):=λ_ d c K=>by kernel_rfl
theorem aKA (p:Mq):D2 (U3 p) avn (lf acd) λb=>agT p.1 p.2.1 p.c.2 b.1.1 b.1.2.1 b.1.b.1 b.1.b.2 b.2:=λb=>by kernel_rfl
abbrev U4:Mq:=(yG,oN,gP,bo,WN,WQ)
theorem pL [ax]:SC (ov dI):=sc (kS (k:=U3 U4) (.c alM (.c Q8 (.c Qr (.c iT (.nil _))))) [5,8] [] ⟨kL (aBN U4),⟨kL (aBM U4),trivial⟩⟩ trivial (aKA U4))
def adP:=qa (pr (cu aP (cl BG (cu QQ nil))) (c xx (cl aC1 nil)))
def Mr:=qe (res (pu aU2 (pr N' (cl aVp nil))))
abbrev OP:=Mr.B
abbrev OQ:=NI->NI->Bool->NI->Option OP
def adQ (g:OQ):Ct:=(216,FC adP (lf Mr) (λb=>g b.1.1 b.1.2 b.2.1 b.b))
def gU:=qs (st (pr (cu aP (us 1 (cu QQ (us 1 (cu Zo (us 2 (cu Zp (c ai (cu apM (us 3 (c ai (us 3 (c ai (cl ai (us 35 nil))))))))))))))) (pl (c cH (c nm (c jH (c Hp JC)))) cR)))
def WR:=qs (st (pr (cu aP (us 1 (cu QQ (us 1 (cu Zo (us 2 (cu Zp (c ai (cu apM (us 3 (c ai (us 3 (c ai (c ai (cl ab (us 34 nil)))))))))))))))) (pl (c cH (c nm (c jH (c Hp JC)))) cR)))
abbrev re:=WR.B
def WT {ρ:Type}:=@ef re ((.ex 2)) WR ρ
def B6 (amd:WA)(d:gU.B):PL gU re:=let n2:=d.2.2.2;let n1:=d.1.2.2;let y0:=ws n1.2;let y1:=decide (n1.2<n1.1);ae y1 (opt (amd n2.1.1 n2.1.2 n1.2 d.1.1) λaj=>ae (bb n1.2 24) (ae (true&&wd (0+y0*1+1) 24) (ret (wr ((d.1.1,d.1.2.1,n1.1,wI (n1.2+1)),d.2.1,d.2.2.1,n2.1,n2.2.1,λj=>bif ww j y0 then aj else n2.2.2 j))) no) no) (ret (wn ((d.1.1,d.1.2.1,n1.1,n1.2,y1),d.2)))
def B7:=bD (B6 Fl) 2000
def gV:=qs (st (pr (cu aP (us 1 (cu QQ (us 1 (cu Zo (us 2 (cu Zp (c ai (cu apM (us 3 (c ai (us 14 (cl ai (us 25 nil)))))))))))))) (pl (c cH (c nm (c jH (c Hp JC)))) cR)))
def WU:=qs (st (pr (cu aP (us 1 (cu QQ (us 1 (cu Zo (us 2 (cu Zp (c ai (cu apM (us 3 (c ai (us 14 (c ai (cl ab (us 24 nil))))))))))))))) (pl (c cH (c nm (c jH (c Hp JC)))) cR)))
abbrev rf:=WU.B
def WV {ρ:Type}:=@ef rf ((.ex 4)) WU ρ
def B8 (bh:fg)(d:gV.B):PL gV rf:=let n2:=d.2.2;let n1:=d.1.2;let y0:=ws n1.2;let y1:=bb n1.2 24;let y2:=decide (n1.2<24);let y3:=y0*48+ws d.1.1;ae y2 (ae y1 (opt (bh 30 24 24 d.2.1 (λj=>n2.1 (0+y0*24+j)) n2.2.2.2 false false) λaj=>ae y1 (ae (bb d.1.1 48) (ae (true&&wd (0+y3*1+1) 1152) (ret (wr ((d.1.1,n1.1,wI (n1.2+1)),aj.2,n2.1,n2.2.1,λj=>bif ww j y3 then aj.1 else n2.2.2.1 j,n2.2.2.2))) no) no) no) no) (ret (wn ((d.1.1,n1.1,n1.2,y2),d.2)))
def B9:=bD (B8 bu) 2000
def gW:=qs (st (pr (us 7 (cu aU2 (us 37 aPB))) (pl (c cH (c nm (cl Hp nil))) cR)))
def WW:=qs (st (pr (us 7 (cu aU2 (us 37 aJf))) (pl (c cH (c nm (cl Hp nil))) cR)))
abbrev ri:=WW.B
def WX {ρ:Type}:=@ef ri ((.ex 6)) WW ρ
def Ca (d:gW.B):PL gW ri:=let y0:=wI (24+d.1);let y1:=decide (d.1<24);let y2:=ws d.1*48+ws y0;ae y1 (ae (bb d.1 24) (ae (bb y0 48) (ae (true&&wd (0+y2*1+1) 1152) (ret (wr (wI (d.1+1),d.2.1,d.2.2.1,λj=>bif ww j y2 then 1073741824 else d.2.2.2 j))) no) no) no) (ret (wn ((d.1,y1),d.2)))
def Cb:=bD (Ca) 2000
def gX:=qs (st (pr (cu aP (us 1 (cu QQ (us 1 (cu Zo (us 2 (cu Zp (us 5 (cl ai (us 40 nil)))))))))) (pl (c cH (c nm (c jH (cl Hp nil)))) cR)))
def WY:=qs (st (pr (cu aP (us 1 (cu QQ (us 1 (cu Zo (us 2 (cu Zp (us 5 (c ai (cl ab (us 39 nil))))))))))) (pl (c cH (c nm (c jH (cl Hp nil)))) cR)))
abbrev rj:=WY.B
def WZ {ρ:Type}:=@ef rj ((.ex 0)) WY ρ
def Cc (qG:LT gU re)(HB:LT gV rf)(d:gX.B):PL gX rj:=let y0:=decide (d.1<24);ae y0 (opt (qG ((d.1,d.1,wI (d.1+1),0),d.2.1,d.2.2.1,d.2.2.2.1,d.2.2.2.2,λx=>0)) λd=>opt (HB ((d.1.1,d.1.2.1,0),d.2)) λd=>ret (wr (wI (d.1.2.1+1),d.2.1,d.2.2.1,d.2.2.2.1,d.2.2.2.2.1))) (ret (wn ((d.1,y0),d.2)))
def Cd:=bD (Cc B7 B9) 2000
def GH (l_3:LT gW ri)(eH:LT gX rj)(x0:Nat->Int)(x1:Nat->Int)(x2:Bool)(x3:Nat->Int):Pg OP:=opt (eH (0,x2,x3,(x0,x1),λx=>0)) λd=>opt (l_3 (0,d.2.1,d.2.2.1,d.2.2.2.2)) λd=>ret (d.2.1,d.2.2.2)
def rm:=λx0 x1 x2 x3=>(GH Cb Cd x0 x1 x2 x3).val
abbrev rn:=WA×fg×(LT gU re)×(LT gV rf)×(LT gW ri)×(LT gX rj)
def wa (p:rn):KK:=⟨[au7 p.1,nY p.2.1],⟨[⟨3,(1::3::5::6::rg 8 5 (rg 14 40 [])),[]⟩,⟨7,(1::3::5::6::10::11::12::14::15::16::rg 19 35 []),[]⟩,⟨12,(1::3::5::6::10::11::12::rg 14 14 (rg 29 25 [])),[]⟩,⟨18,(rg 0 7 (rg 8 37 (rg 46 8 []))),[]⟩],[fW 7 2 gU WT p.b.1,fW 12 2 gV WV p.b.2.1,fW 18 2 gW WX p.c.1,fW 3 2 gX WZ p.c.2],[0],[],(some ⟨0,(rg 0 6 (rg 7 47 [])),[]⟩)⟩,2,216⟩
theorem aoY (p:rn):LI (wa p) 7 gU WT (B6 p.1):=λ_ d c K=>by kernel_rfl
theorem aoZ (p:rn):LI (wa p) 12 gV WV (B8 p.2.1):=λ_ d c K=>by kernel_rfl
theorem ao0 (p:rn):LI (wa p) 18 gW WX (Ca):=λ_ d c K=>by kernel_rfl
theorem ao1 (p:rn):LI (wa p) 3 gX WZ (Cc p.b.1 p.b.2.1):=λ_ d c K=>by kernel_rfl
theorem ax2 (p:rn):D2 (wa p) adP (lf Mr) λb=>GH p.c.1 p.c.2 b.1.1 b.1.2 b.2.1 b.b:=λb=>by kernel_rfl
abbrev wb:rn:=(Fl,bu,B7,B9,Cb,Cd)
theorem ax3 [ax]:SC (adQ rm):=sc (kS (k:=wa wb) (.c aEU (.c pB (.nil _))) [3,7,12,18] [] ⟨kL (ao1 wb),⟨kL (aoY wb),⟨kL (aoZ wb),⟨kL (ao0 wb),trivial⟩⟩⟩⟩ trivial (ax2 wb))
def avp:=qa (pl asb nil)
def ace:=qe aVY
abbrev avq:=ace.B
abbrev eI:=NI->Option avq
def kD (g:eI):Ct:=(68,FC avp (lf ace) (λb=>g b))
def agU (x0:Nat->Int):Pg avq:=ret (x0 0,x0 1,x0 2,x0 3)
def cC:=λx0=>(agU x0).val
theorem aKB:D0 [] 68 avp (lf ace) λb=>agU b:=λb=>by kernel_rfl
theorem lK [ax]:SC (kD cC):=s0 (.nil _) aKB
def aiD:=qa (pl (c mh asc) nil)
def OR:=qe aPZ
abbrev aiE:=OR.B
abbrev Ji:=NI->Int->Int->Int->Int->Option aiE
def S6 (g:Ji):Ct:=(85,FC aiD (lf OR) (λb=>g b.1 b.2.1 b.b.1 b.b.2.1 b.c))
def S7 (x0:Nat->Int)(x1:Int)(x2:Int)(x3:Int)(x4:Int):Pg aiE:=ret λj=>bif ww j 3 then x4 else bif ww j 2 then x3 else bif ww j 1 then x2 else bif ww j 0 then x1 else x0 j
def um:=λx0 x1 x2 x3 x4=>(S7 x0 x1 x2 x3 x4).val
theorem aBO:D0 [] 85 aiD (lf OR) λb=>S7 b.1 b.2.1 b.b.1 b.b.2.1 b.c:=λb=>by kernel_rfl
theorem aiF [ax]:SC (S6 um):=s0 (.nil _) aBO
def aqQ:=qa (pr (c ai (c ai (c ai (cl ai (cu aP (cu apL nil)))))) (cu aPA (c afh bG)))
def W0:=qe aV0
abbrev aqR:=W0.B
abbrev aqS:=Int->Int->Int->Int->Int->Int->Int->Int->Bool->Option aqR
def aqT (g:aqS):Ct:=(210,FC aqQ (lf W0) (λb=>g b.1.1 b.1.2.1 b.1.b.1 b.1.b.2 b.2.1.1 b.2.1.2.1 b.2.1.b.1 b.2.1.b.2 b.b))
def acf (bh:fg)(x0:Int)(x1:Int)(x2:Int)(x3:Int)(x4:Int)(x5:Int)(x6:Int)(x7:Int)(x8:Bool):Pg aqR:=opt (bh 30 4 4 x8 (cr x4 [x7,x6,x5,x4]) (cr x0 [x3,x2,x1,x0]) false true) λd=>ret d
def Ir:=λx0 x1 x2 x3 x4 x5 x6 x7 x8=>(acf bu x0 x1 x2 x3 x4 x5 x6 x7 x8).val
theorem aGP:∀bh,D0 [nY bh] 210 aqQ (lf W0) λb=>acf bh b.1.1 b.1.2.1 b.1.b.1 b.1.b.2 b.2.1.1 b.2.1.2.1 b.2.1.b.1 b.2.1.b.2 b.b:=λ_ b=>by kernel_rfl
theorem aGQ [ax]:SC (aqT Ir):=s0 (.c pB (.nil _)) (aGP bu)
def ame:=qa (pr (cu aP jc) bG)
def S8:=qe aw7
abbrev amf:=S8.B
abbrev amg:=Int->Bool->Option amf
def amh (g:amg):Ct:=(123,FC ame (lf S8) (λb=>g b.1 b.2))
def W2 (dA:yE)(aB:bX)(iB:Q4)(eQ:KU)(bq:ju)(x0:Int)(x1:Bool):Pg amf:=opt (dA x0) λd=>opt (aB d 536870912 30 x1) λd=>opt (iB d.1 d.2) λaj=>opt (eQ d.1 aj.2) λd=>opt (bq aj.1 0 0 d.1 d.2) λd=>ret d
def Fw:=λx0 x1=>(W2 lI aV sR oM dI x0 x1).val
theorem aE5:∀dA aB iB eQ bq,D0 [BT dA,fI aB,Q5 iB,KV eQ,ov bq] 123 ame (lf S8) λb=>W2 dA aB iB eQ bq b.1 b.2:=λ_ _ _ _ _ b=>by kernel_rfl
theorem aE6 [ax]:SC (amh Fw):=s0 (.c Gy (.c fY (.c ZV (.c Q3 (.c pL (.nil _)))))) (aE5 lI aV sR oM dI)
def az7:=qa (pr (cu aP (c afi asc)) bG)
def agV:=qe aw7
abbrev az8:=agV.B
abbrev yK:=Int->Int->Int->Int->Int->Int->Int->Int->Bool->Option az8
def Fx (g:yK):Ct:=(156,FC az7 (lf agV) (λb=>g b.1.1.1 b.1.1.2.1 b.1.1.b.1 b.1.1.b.2 b.1.2.1 b.1.b.1 b.1.b.2.1 b.1.c b.2))
def ami (p7:Q7)(zN:aqS)(x0:Int)(x1:Int)(x2:Int)(x3:Int)(x4:Int)(x5:Int)(x6:Int)(x7:Int)(x8:Bool):Pg az8:=opt (p7 x0 x1 x2 x3 x8) λd=>let n1:=d.1.2;opt (p7 x4 x5 x6 x7 d.2) λaj=>let n2:=aj.1.2;let y0:=wI (0-n2.1);let y1:=wI (0-n2.2.1);let y2:=wI (0-n2.2.2);opt (zN aj.1.1 y0 y1 y2 d.1.1 n1.1 n1.2.1 n1.2.2 aj.2) λaD=>opt (zN n2.1 aj.1.1 n2.2.2 y1 d.1.1 n1.1 n1.2.1 n1.2.2 aD.2) λbC=>opt (zN n2.2.1 y2 aj.1.1 n2.1 d.1.1 n1.1 n1.2.1 n1.2.2 bC.2) λcM=>opt (zN n2.2.2 n2.2.1 y0 aj.1.1 d.1.1 n1.1 n1.2.1 n1.2.2 cM.2) λd=>ret ((aD.1,bC.1,cM.1,d.1),d.2)
def mm:=λx0 x1 x2 x3 x4 x5 x6 x7 x8=>(ami yG Ir x0 x1 x2 x3 x4 x5 x6 x7 x8).val
theorem aN0:∀p7 zN,D0 [ZY p7,aqT zN] 156 az7 (lf agV) λb=>ami p7 zN b.1.1.1 b.1.1.2.1 b.1.1.b.1 b.1.1.b.2 b.1.2.1 b.1.b.1 b.1.b.2.1 b.1.c b.2:=λ_ _ b=>by kernel_rfl
theorem KX [ax]:SC (Fx mm):=s0 (.c alM (.c aGQ (.nil _))) (aN0 yG Ir)
def aIq:=qa (pr (cu aP asc) bG)
def as3:=qe (res (pr (aa aaZ) (pl nk nil)))
abbrev aIr:=as3.B
abbrev rp:=Int->Int->Int->Int->Bool->Option aIr
def DZ (g:rp):Ct:=(122,FC aIq (lf as3) (λb=>g b.1.1 b.1.2.1 b.1.b.1 b.1.b.2 b.2))
def yL:=qs (st (pr (us 2 (cu QR (cu ay4 (cu (app 3 9) (us 3 aVb))))) (pl (c cH (cu (so (cu (gp 0 1) nil)) (c xB (cl (so aaZ) nil)))) cR)))
def az9:=qs (st (pr (us 2 (cu QR (cu ay4 (cu (app 3 9) (us 3 aVq))))) (pl (c cH (cu (so (cu (gp 0 1) nil)) (c xB (cl (so aaZ) nil)))) cR)))
abbrev Ra:=az9.B
def aAa {ρ:Type}:=@ef Ra ((.ex 0)) az9 ρ
def amj (aw:bO)(d:yL.B):PL yL Ra:=let n2:=d.2.2.2;let n1:=d.2.2.1;let n4:=n1.2.1;let n3:=n1.2.2;let y0:=bb d.1 4;let y1:=d.1==2;let y2:=d.1==1;let y3:=d.1==3;let y4:=wI (d.1+1);let y5:=decide (d.1<4);ae y5 (ae y0 (ae y3 (opt (aw n3.2 d.2.1) λaj=>ae y0 (ae y3 (ret (wr (y4,aj.2,(n1.1,n4,n3.1,aj.1),n2))) (ae y1 (ret (wr (y4,aj.2,(n1.1,n4,aj.1,n3.2),n2))) (ae y2 (ret (wr (y4,aj.2,(n1.1,aj.1,n3),n2))) (ret (wr (y4,aj.2,(aj.1,n1.2),n2)))))) no) (ae y1 (opt (aw n3.1 d.2.1) λaj=>ae y0 (ae y3 (ret (wr (y4,aj.2,(n1.1,n4,n3.1,aj.1),n2))) (ae y1 (ret (wr (y4,aj.2,(n1.1,n4,aj.1,n3.2),n2))) (ae y2 (ret (wr (y4,aj.2,(n1.1,aj.1,n3),n2))) (ret (wr (y4,aj.2,(aj.1,n1.2),n2)))))) no) (ae y2 (opt (aw n4 d.2.1) λaj=>ae y0 (ae y3 (ret (wr (y4,aj.2,(n1.1,n4,n3.1,aj.1),n2))) (ae y1 (ret (wr (y4,aj.2,(n1.1,n4,aj.1,n3.2),n2))) (ae y2 (ret (wr (y4,aj.2,(n1.1,aj.1,n3),n2))) (ret (wr (y4,aj.2,(aj.1,n1.2),n2)))))) no) (opt (aw n1.1 d.2.1) λaj=>ae y0 (ae y3 (ret (wr (y4,aj.2,(n1.1,n4,n3.1,aj.1),n2))) (ae y1 (ret (wr (y4,aj.2,(n1.1,n4,aj.1,n3.2),n2))) (ae y2 (ret (wr (y4,aj.2,(n1.1,aj.1,n3),n2))) (ret (wr (y4,aj.2,(aj.1,n1.2),n2)))))) no)))) no) (ret (wn ((d.1,y5),d.2)))
def amk:=bD (amj aR) 2000
def ax4 (aml:alP)(KY:alR)(eH:LT yL Ra)(x0:Int)(x1:Int)(x2:Int)(x3:Int)(x4:Bool):Pg aIr:=opt (eH (0,x4,(x0,x1,x2,x3),λx=>0)) λd=>let n2:=d.2.2.1.1;let n1:=d.2.2.1.2;let n4:=n1.2.2;let n3:=n1.2.1;let y0:=wI (0-n2);opt (aml 1 1 (-1) (-1) n2 n1.1 n3 n4 d.2.1) λaj=>opt (KY n1.1 n3 y0 n4 aj.2) λaD=>opt (KY n1.1 n4 n2 n3 aD.2) λbC=>opt (KY n1.1 n3 n2 n4 bC.2) λcM=>opt (aml 1 (-1) 1 (-1) n2 n1.1 n3 n4 cM.2) λfA=>opt (KY n3 n4 y0 n1.1 fA.2) λdB=>opt (KY n1.1 n4 y0 n3 dB.2) λnX=>opt (KY n3 n4 n2 n1.1 nX.2) λtP=>opt (aml 1 (-1) (-1) 1 n2 n1.1 n3 n4 tP.2) λd=>ret (cr 0 [d.1,tP.1,nX.1,dB.1,fA.1,cM.1,bC.1,aD.1,aj.1],d.2)
def kZ:=λx0 x1 x2 x3 x4=>(ax4 Q9 Q' amk x0 x1 x2 x3 x4).val
abbrev aoO:=bO×alP×alR×(LT yL Ra)
def ax5 (p:aoO):KK:=⟨[dH p.1,az1 p.2.1,az4 p.b.1],⟨[⟨2,(0::1::5::6::7::rg 9 82 []),[]⟩],[fW 2 1 yL aAa p.b.2],[0],[],(some ⟨0,(rg 0 4 (rg 5 86 [])),[]⟩)⟩,1,122⟩
theorem aKC (p:aoO):LI (ax5 p) 2 yL aAa (amj p.1):=λ_ d c K=>by kernel_rfl
theorem aTR (p:aoO):D2 (ax5 p) aIq (lf as3) λb=>ax4 p.2.1 p.b.1 p.b.2 b.1.1 b.1.2.1 b.1.b.1 b.1.b.2 b.2:=λb=>by kernel_rfl
abbrev ax6:aoO:=(aR,Q9,Q',amk)
theorem GI [ax]:SC (DZ kZ):=sc (kS (k:=ax5 ax6) (.c dM (.c aNU (.c aNW (.nil _)))) [2] [] ⟨kL (aKC ax6),trivial⟩ trivial (aTR ax6))
def aiG:=qa (pu nil nil)
def OS:=qe aPZ
abbrev Dt:=OS.B
abbrev Du:=Option Dt
def S9 (g:Du):Ct:=(66,FC aiG (lf OS) (λ_=>g))
def Ta (jT:Z3):Pg Dt:=opt (jT 0 4 1073741840 λx=>0) λd=>opt (jT 4 7 549755813888 d) λd=>opt (jT 7 10 9007199254740992 d) λd=>opt (jT 10 13 134217728 d) λd=>opt (jT 13 16 1073741824 d) λd=>opt (jT 16 22 2147483648 d) λd=>opt (jT 22 24 137438953472 d) λd=>ret d
def uo:Option Dt:=(Ta yH).val
theorem aBP:∀jT,D0 [Z4 jT] 66 aiG (lf OS) λb=>Ta jT:=λ_ b=>by kernel_rfl
theorem aiH [ax]:SC (S9 uo):=s0 (.c au3 (.nil _)) (aBP yH)
def amm:=qa (pr (cu aP asb) bG)
def Tb:=qe aDa
abbrev amn:=Tb.B
abbrev Ms:=NI->Bool->Option amn
def W3 (g:Ms):Ct:=(87,FC amm (lf Tb) (λb=>g b.1 b.2))
def nC:=qs (st (pr (cu aP (us 2 (cu T' (cu Ew (cu ah5 aI8))))) (pl (c cH aJD) cR)))
def ax7:=qs (st (pr (cu aP (us 2 (cu T' (cu Ew (cu ah5 (c ai (us 1 aJe))))))) (pl (c cH aJD) cR)))
abbrev AU:=((Int×Bool)×Bool×NI×NI×Dt)
def adR {ρ:Type}(x:AU)(K:AX->St->Option ρ):Option ρ:=(λd=>K (.ex 0) (ax7.em ((d.1.1,d.1),d.2))) x
def OT (aF:cm)(d:nC.B):PL nC AU:=let y0:=ws d.1;let y1:=bb d.1 24;let y2:=decide (d.1<24);ae y2 (ae y1 (ae y1 (ae y1 (opt (aF (d.2.2.1 y0) (wI (0-d.2.2.2.2 y0)) (d.2.2.2.2 y0) d.2.1) λaj=>ae y1 (ae (true&&wd (0+y0*1+1) 24) (ret (wr (wI (d.1+1),aj.2,λj=>bif ww j y0 then aj.1 else d.2.2.1 j,d.2.2.2))) no) no) no) no) no) (ret (wn ((d.1,y2),d.2)))
def OU:=bD (OT bc) 2000
def Xa (Tc:Du)(eH:LT nC AU)(x0:Nat->Int)(x1:Bool):Pg amn:=opt Tc λd=>opt (eH (4,x1,x0,λx=>0,d)) λd=>ret (d.2.2.1,d.2.1)
def wL:=λx0 x1=>(Xa uo OU x0 x1).val
abbrev Mt:=Du×cm×(LT nC AU)
def Xb (p:Mt):KK:=⟨[S9 p.1,eA p.2.1],⟨[⟨3,(1::2::rg 7 20 []),[]⟩],[fW 3 1 nC adR p.b],[0],[],(some ⟨0,(rg 0 4 (rg 5 22 [])),[]⟩)⟩,1,87⟩
theorem avr (p:Mt):LI (Xb p) 3 nC adR (OT p.2.1):=λ_ d c K=>by kernel_rfl
theorem aE7 (p:Mt):D2 (Xb p) amm (lf Tb) λb=>Xa p.1 p.b b.1 b.2:=λb=>by kernel_rfl
abbrev Xc:Mt:=(uo,bc,OU)
theorem amo [ax]:SC (W3 wL):=sc (kS (k:=Xb Xc) (.c aiH (.c eZ (.nil _))) [3] [] ⟨kL (avr Xc),trivial⟩ trivial (aE7 Xc))
def aqU:=qa (pr (cu aP asb) bG)
def Xd:=qe aDa
abbrev aqV:=Xd.B
abbrev fK:=NI->Bool->Option aqV
def jU (g:fK):Ct:=(49,FC aqU (lf Xd) (λb=>g b.1 b.2))
def acg (bg:eI)(Qw:aqK)(bq:ju)(yg:Ji)(wM:Ms)(x0:Nat->Int)(x1:Bool):Pg aqV:=opt (bg x0) λd=>opt (Qw d.1 d.2.1 d.2.2.1 d.2.2.2) λd=>ae (!d) (opt (bg x0) λd=>opt (bq d.1 d.2.1 d.2.2.1 d.2.2.2 x1) λd=>opt (yg x0 d.1.1 d.1.2.1 d.1.2.2.1 d.1.2.2.2) λaj=>opt (wM aj d.2) λd=>ret d) (opt (wM x0 x1) λd=>ret d)
def cz:=λx0 x1=>(acg cC DY dI um wL x0 x1).val
theorem aGR:∀bg Qw bq yg wM,D0 [kD bg,aqL Qw,ov bq,S6 yg,W3 wM] 49 aqU (lf Xd) λb=>acg bg Qw bq yg wM b.1 b.2:=λ_ _ _ _ _ b=>by kernel_rfl
theorem ld [ax]:SC (jU cz):=s0 (.c lK (.c aGJ (.c pL (.c aiF (.c amo (.nil _)))))) (aGR cC DY dI um wL)
def adS:=qa (pr (cu aP jc) bG)
def Mu:=qe qO
abbrev adT:=Mu.B
abbrev wc:=Int->Bool->Option adT
def GJ (g:wc):Ct:=(159,FC adS (lf Mu) (λb=>g b.1 b.2))
def OV (aq:cB)(x0:Int)(x1:Bool):Pg adT:=opt (aq x0 1073741824 1000000 x1) λd=>ret d
def lg:=λx0 x1=>(OV aU x0 x1).val
theorem ax8:∀aq,D0 [dD aq] 159 adS (lf Mu) λb=>OV aq b.1 b.2:=λ_ b=>by kernel_rfl
theorem OW [ax]:SC (GJ lg):=s0 (.c dQ (.nil _)) (ax8 aU)
def aE8:=qa (pr (cu aP Hq) bG)
def amp:=qe aw7
abbrev aE9:=amp.B
abbrev aFa:=Int->Int->Int->Bool->Option aE9
def aFb (g:aFa):Ct:=(209,FC aE8 (lf amp) (λb=>g b.1.1 b.1.2.1 b.1.b b.2))
def as4 (Fy:OH)(vM:Bt)(jh:Bu)(aB:bX)(eQ:KU)(aE:cO)(iB:Q4)(bq:ju)(x0:Int)(x1:Int)(x2:Int)(x3:Bool):Pg aE9:=opt (Fy x0 x1 x2 x3) λd=>opt (vM d.1.1 d.1.2.1 d.1.2.2 d.2) λaj=>ae (aj.1==0) (opt jh λd=>ret ((1073741824,0,0,0),aj.2)) (opt (aB aj.1 536870912 30 aj.2) λaD=>opt (eQ aD.1 aD.2) λbC=>opt (aE bC.1 aj.1 30 bC.2) λcM=>opt (iB aD.1 cM.2) λfA=>opt (aB d.1.1 cM.1 30 fA.2) λdB=>opt (aB d.1.2.1 cM.1 30 dB.2) λnX=>opt (aB d.1.2.2 cM.1 30 nX.2) λd=>opt (bq fA.1 dB.1 nX.1 d.1 d.2) λd=>ret d)
def Xe:=λx0 x1 x2 x3=>(as4 BU p6 oN aV oM bo sR dI x0 x1 x2 x3).val
theorem aRm:∀Fy vM jh aB eQ aE iB bq,D0 [agt Fy,Q6 vM,KW jh,fI aB,KV eQ,gO aE,Q5 iB,ov bq] 209 aE8 (lf amp) λb=>as4 Fy vM jh aB eQ aE iB bq b.1.1 b.1.2.1 b.1.b b.2:=λ_ _ _ _ _ _ _ _ b=>by kernel_rfl
theorem aRn [ax]:SC (aFb Xe):=s0 (.c asV (.c ZX (.c Q8 (.c fY (.c Q3 (.c iT (.c ZV (.c pL (.nil _))))))))) (aRm BU p6 oN aV oM bo sR dI)
def amq:=qa (pr (cu aP (c mh aa1)) bG)
def Td:=qe (res (pr (aa afl) (pl nk nil)))
abbrev amr:=Td.B
abbrev Mv:=NI->Int->Int->Int->Int->Int->Int->Int->Int->Bool->Option amr
def Xf (g:Mv):Ct:=(155,FC amq (lf Td) (λb=>g b.1.1 b.1.2.1 b.1.b.1 b.1.b.2.1.1 b.1.b.2.1.2.1 b.1.b.2.1.b b.1.c.1 b.1.c.2.1 b.1.c.b b.2))
def Xg (aO:fK)(oQ:wc)(bI:mT)(jx:UT)(oE:JW)(agW:aFa)(bg:eI)(fH:rp)(x0:Nat->Int)(x1:Int)(x2:Int)(x3:Int)(x4:Int)(x5:Int)(x6:Int)(x7:Int)(x8:Int)(x9:Bool):Pg amr:=opt (aO x0 x9) λd=>opt (oQ x2 d.2) λaj=>opt (bI d.1 10) λaD=>opt (jx aD.1 aD.2.1 aD.2.2 aj.1 aj.2) λbC=>opt (oE x3 x4 x5 bC.1.1 bC.1.2.1 bC.1.2.2 bC.2) λcM=>opt (bI d.1 13) λfA=>opt (jx fA.1 fA.2.1 fA.2.2 aj.1 cM.2) λdB=>opt (oE x6 x7 x8 dB.1.1 dB.1.2.1 dB.1.2.2 dB.2) λnX=>opt (agW cM.1.1 cM.1.2.1 cM.1.2.2 nX.2) λtP=>opt (bg d.1) λd=>opt (fH d.1 d.2.1 d.2.2.1 d.2.2.2 tP.2) λd=>ret ((aj.1,cM.1.1,cM.1.2.1,cM.1.2.2,nX.1.1,nX.1.2.1,nX.1.2.2,tP.1.1,tP.1.2.1,tP.1.2.2.1,tP.1.2.2.2,d.1),d.2)
def wN:=λx0 x1 x2 x3 x4 x5 x6 x7 x8 x9=>(Xg cz lg fe uR wJ Xe cC kZ x0 x1 x2 x3 x4 x5 x6 x7 x8 x9).val
theorem aFc:∀aO oQ bI jx oE agW bg fH,D0 [jU aO,GJ oQ,rZ bI,UU jx,Wp oE,aFb agW,kD bg,DZ fH] 155 amq (lf Td) λb=>Xg aO oQ bI jx oE agW bg fH b.1.1 b.1.2.1 b.1.b.1 b.1.b.2.1.1 b.1.b.2.1.2.1 b.1.b.2.1.b b.1.c.1 b.1.c.2.1 b.1.c.b b.2:=λ_ _ _ _ _ _ _ _ b=>by kernel_rfl
theorem ams [ax]:SC (Xf wN):=s0 (.c ld (.c OW (.c vH (.c agr (.c agp (.c aRn (.c lK (.c GI (.nil _))))))))) (aFc cz lg fe uR wJ Xe cC kZ)
def aqW:=qa (pr (cu aP (c mh aa1)) bG)
def Xh:=qe aDa
abbrev aqX:=Xh.B
abbrev Qx:=NI->Int->Int->Int->Int->Int->Int->Int->Int->Bool->Option aqX
def ach (g:Qx):Ct:=(104,FC aqW (lf Xh) (λb=>g b.1.1 b.1.2.1 b.1.b.1 b.1.b.2.1.1 b.1.b.2.1.2.1 b.1.b.2.1.b b.1.c.1 b.1.c.2.1 b.1.c.b b.2))
def aci (AW:Mv)(aO:fK)(bg:eI)(fq:yK)(bq:ju)(bI:mT)(jy:GF)(aB:bX)(ee:B5)(jx:UT)(de:zK)(x0:Nat->Int)(x1:Int)(x2:Int)(x3:Int)(x4:Int)(x5:Int)(x6:Int)(x7:Int)(x8:Int)(x9:Bool):Pg aqX:=opt (AW x0 x1 x2 x3 x4 x5 x6 x7 x8 x9) λd=>let n1:=d.1.2.2.2.2.2;let n2:=n1.2.2.2;opt (aO x0 d.2) λaj=>opt (bg aj.1) λaD=>opt (fq aD.1 aD.2.1 aD.2.2.1 aD.2.2.2 n1.2.2.1 n2.1 n2.2.1 n2.2.2.1 aj.2) λbC=>opt (bq bC.1.1 bC.1.2.1 bC.1.2.2.1 bC.1.2.2.2 bC.2) λcM=>opt (bI aj.1 4) λfA=>opt (jy n2.2.2.2 d.1.2.2.2.2.1 n1.1 n1.2.1 cM.2) λdB=>opt (aB 10529810258 d.1.1 30 dB.2) λnX=>opt (ee 3 nX.2 (cr fA.1 [0,dB.1.1,fA.1]) (cr fA.2.1 [0,dB.1.2.1,fA.2.1]) (cr fA.2.2 [nX.1,dB.1.2.2,fA.2.2]) true) λtP=>opt (aB d.1.1 536870912 30 tP.2) λd=>opt (bI aj.1 7) λpI=>opt (ee 2 d.2 (cr fA.1 [tP.1.1,fA.1]) (cr fA.2.1 [tP.1.2.1,fA.2.1]) (cr fA.2.2 [tP.1.2.2,fA.2.2]) true) λmV=>opt (jx mV.1.1 mV.1.2.1 mV.1.2.2 d.1 mV.2) λd=>opt (ee 2 d.2 (cr pI.1 [d.1.1,pI.1]) (cr pI.2.1 [d.1.2.1,pI.2.1]) (cr pI.2.2 [d.1.2.2,pI.2.2]) true) λd=>opt (de aj.1 0 4 (cr cM.1.1 [cM.1.2.2.2,cM.1.2.2.1,cM.1.2.1,cM.1.1]) false) λxy=>opt (de xy 4 3 (cr tP.1.1 [tP.1.2.2,tP.1.2.1,tP.1.1]) false) λKZ=>opt (de KZ 7 3 (cr d.1.1 [d.1.2.2,d.1.2.1,d.1.1]) false) λMw=>opt (aO Mw d.2) λd=>ret d
def vN:=λx0 x1 x2 x3 x4 x5 x6 x7 x8 x9=>(aci wN cz cC mm dI fe pK aV lD uR gQ x0 x1 x2 x3 x4 x5 x6 x7 x8 x9).val
theorem aGS:∀AW aO bg fq bq bI jy aB ee jx de,D0 [Xf AW,jU aO,kD bg,Fx fq,ov bq,rZ bI,Mg jy,fI aB,JY ee,UU jx,DX de] 104 aqW (lf Xh) λb=>aci AW aO bg fq bq bI jy aB ee jx de b.1.1 b.1.2.1 b.1.b.1 b.1.b.2.1.1 b.1.b.2.1.2.1 b.1.b.2.1.b b.1.c.1 b.1.c.2.1 b.1.c.b b.2:=λ_ _ _ _ _ _ _ _ _ _ _ b=>by kernel_rfl
theorem aqY [ax]:SC (ach vN):=s0 (.c ams (.c ld (.c lK (.c KX (.c pL (.c vH (.c UY (.c fY (.c OO (.c agr (.c Ip (.nil _)))))))))))) (aGS wN cz cC mm dI fe pK aV lD uR gQ)
def aAb:=qa (pr (cu aP Hq) bG)
def agX:=qe aw7
abbrev aAc:=agX.B
abbrev amt:=Int->Int->Int->Bool->Option aAc
def aAd (g:amt):Ct:=(160,FC aAb (lf agX) (λb=>g b.1.1 b.1.2.1 b.1.b b.2))
def sV:=qs (st (pr (cu aP (us 3 (cu apL (cu Zn (c ai (cu akm (us 12 (cl ai aU1)))))))) (pl (c cH (cu akB (c zF (cl zF nil)))) cR)))
def aqZ:=qs (st (pr (cu aP (us 3 (cu apL (cu Zn (c ai (cu akm (us 12 (c ai (cl ab (us 26 nil)))))))))) (pl (c cH (cu akB (c zF (cl zF nil)))) cR)))
abbrev Is:=aqZ.B
def aq0 {ρ:Type}:=@ef Is ((.ex 0)) aqZ ρ
def acj (aE:cO)(d:sV.B):PL sV Is:=let n3:=d.1.1;let n2:=d.1.2;let n1:=d.2.2;let n5:=n1.2.1;let n4:=n1.2.2;let y0:=bb n2 3;let y1:=n2==2;let y2:=n2==1;let y3:=decide (n2<3);ae y3 (ae y0 (ae y1 (opt (aE n1.1.2.2 n3 30 d.2.1) λaj=>ae y0 (ae y1 (ret (wr ((n3,wI (n2+1)),aj.2,n1.1,n5,n4.1,aj.1))) (ae y2 (ret (wr ((n3,wI (n2+1)),aj.2,n1.1,n5,aj.1,n4.2))) (ret (wr ((n3,wI (n2+1)),aj.2,n1.1,aj.1,n4))))) no) (ae y2 (opt (aE n1.1.2.1 n3 30 d.2.1) λaj=>ae y0 (ae y1 (ret (wr ((n3,wI (n2+1)),aj.2,n1.1,n5,n4.1,aj.1))) (ae y2 (ret (wr ((n3,wI (n2+1)),aj.2,n1.1,n5,aj.1,n4.2))) (ret (wr ((n3,wI (n2+1)),aj.2,n1.1,aj.1,n4))))) no) (opt (aE n1.1.1 n3 30 d.2.1) λaj=>ae y0 (ae y1 (ret (wr ((n3,wI (n2+1)),aj.2,n1.1,n5,n4.1,aj.1))) (ae y2 (ret (wr ((n3,wI (n2+1)),aj.2,n1.1,n5,aj.1,n4.2))) (ret (wr ((n3,wI (n2+1)),aj.2,n1.1,aj.1,n4))))) no))) no) (ret (wn ((n3,n2,y3),d.2)))
def ack:=bD (acj bo) 2000
def amu (Fy:OH)(jh:Bu)(vM:Bt)(aW:dt)(bq:ju)(eH:LT sV Is)(x0:Int)(x1:Int)(x2:Int)(x3:Bool):Pg aAc:=opt (Fy x0 x1 x2 x3) λd=>ae (d.1.1==0&&(d.1.2.1==0&&(d.1.2.2==0&&true))) (opt jh λaj=>ret ((1073741824,0,0,0),d.2)) (opt (vM d.1.1 d.1.2.1 d.1.2.2 d.2) λaj=>opt (eH ((aj.1,0),aj.2,d.1,0,0,0)) λd=>opt (aW 1073741824 d.2.2.2.2.2 d.2.1) λaD=>ae (decide (aD.1<=16)) (ret ((0,1073741824,0,0),aD.2)) (opt (bq aD.1 (wI (0-d.2.2.2.2.1)) d.2.2.2.1 0 aD.2) λd=>ret d))
def K0:=λx0 x1 x2 x3=>(amu BU oN p6 bP dI ack x0 x1 x2 x3).val
abbrev Z9:=OH×Bu×Bt×cO×dt×ju×(LT sV Is)
def amv (p:Z9):KK:=⟨[agt p.1,KW p.2.1,Q6 p.b.1,gO p.b.2.1,iU p.c.1,ov p.c.2.1],⟨[⟨7,(1::2::3::rg 8 12 (rg 21 27 [])),[]⟩],[fW 7 1 sV aq0 p.c.b],[],[],(some ⟨0,(rg 0 4 (rg 5 43 [])),[]⟩)⟩,1,160⟩
theorem aFd (p:Z9):LI (amv p) 7 sV aq0 (acj p.b.2.1):=λ_ d c K=>by kernel_rfl
theorem aN1 (p:Z9):D2 (amv p) aAb (lf agX) λb=>amu p.1 p.2.1 p.b.1 p.c.1 p.c.2.1 p.c.b b.1.1 b.1.2.1 b.1.b b.2:=λb=>by kernel_rfl
abbrev amw:Z9:=(BU,oN,p6,bo,bP,dI,ack)
theorem aN2 [ax]:SC (aAd K0):=sc (kS (k:=amv amw) (.c asV (.c Q8 (.c ZX (.c iT (.c jR (.c pL (.nil _))))))) [7] [] ⟨kL (aFd amw),trivial⟩ trivial (aN1 amw))
def adU:=qa (pr (cu aP (c BG (c (aa aC1) asb))) bG)
def Mx:=qe aQb
abbrev OX:=Mx.B
abbrev GK:=NI->NI->NI->NI->Bool->Option OX
def OY (g:GK):Ct:=(163,FC adU (lf Mx) (λb=>g b.1.1.1 b.1.1.2 b.1.2.1 b.1.b b.2))
def gY:=qs (st (pr (cu aP (us 4 (cu G8 (cu aR5 (cu ah5 (cu NM (cu apN (c ai (us 13 (c ai (us 16 (cl ai (us 105 nil))))))))))))) (pl (c cH (c jH (c nm (c oC aa2)))) cR)))
def Xi:=qs (st (pr (cu aP (us 4 (cu G8 (cu aR5 (cu ah5 (cu NM (cu apN (c ai (us 13 (c ai (us 16 aVr))))))))))) (pl (c cH (c jH (c nm (c oC aa2)))) cR)))
abbrev rq:=Xi.B
def Xj {ρ:Type}:=@ef rq ((.ex 2)) Xi ρ
def Ce (aw:bO)(d:gY.B):PL gY rq:=let y0:=bb d.1.1 24;let y1:=bb d.1.2.2 24;let y2:=decide (d.1.2.2<24);let y3:=ws d.1.1*24+ws d.1.2.2;ae y2 (ae y0 (ae y1 (opt (aw (d.2.2.2.1 y3) d.2.1) λaj=>ae y0 (ae y1 (ae (true&&wd (0+y3*1+1) 576) (ret (wr ((d.1.1,d.1.2.1,wI (d.1.2.2+1)),aj.2,d.2.2.1,λj=>bif ww j y3 then aj.1 else d.2.2.2.1 j,d.2.2.2.2))) no) no) no) no) no) (ret (wn ((d.1.1,d.1.2.1,d.1.2.2,y2),d.2)))
def Cf:=bD (Ce aR) 2000
def gZ:=qs (st (pr (cu aP (us 7 (cu G8 (cu ay6 (us 2 (cu Zp (cu NM (c ai (cu apN (us 48 aVb)))))))))) (pl (c cH (c jH (c afg (c Hp aa2)))) cR)))
def Xk:=qs (st (pr (cu aP (us 7 (cu G8 (cu ay6 (us 2 (cu Zp (cu NM (c ai (cu apN (us 48 aVq)))))))))) (pl (c cH (c jH (c afg (c Hp aa2)))) cR)))
abbrev rr:=Xk.B
def Xl {ρ:Type}:=@ef rr ((.ex 6)) Xk ρ
def Cg (aB:bX)(d:gZ.B):PL gZ rr:=let n2:=d.1.2;let n1:=d.2.2.2;let y0:=ws n2;let y1:=bb n2 48;let y2:=decide (n2<48);ae y2 (ae (bb d.1.1 24) (ae y1 (ae y1 (opt (aB (n1.2.1 (ws d.1.1*48+y0)) (n1.1 y0) 30 d.2.1) λaj=>ae y1 (ae (true&&wd (0+y0*1+1) 48) (ret (wr ((d.1.1,wI (n2+1)),aj.2,d.2.2.1,n1.1,n1.2.1,n1.2.2.1,λj=>bif ww j y0 then aj.1 else n1.2.2.2 j))) no) no) no) no) no) (ret (wn ((d.1.1,n2,y2),d.2)))
def Ci:=bD (Cg aV) 2000
def hI:=qs (st (pr (cu aP (us 7 (cu G8 (cu ay6 (us 2 (cu Zp (cu NM (c ai (cu apN (us 1 (c ai (c ai (c ai (us 76 (c ai (c ai (us 18 (cl ai (us 30 nil))))))))))))))))))) (pl (c cH (c jH (c afg (c Hp aa2)))) cR)))
def Xm:=qs (st (pr (cu aP (us 7 (cu G8 (cu ay6 (us 2 (cu Zp (cu NM (c ai (cu apN (us 1 (c ai (c ai (c ai (us 76 (c ai (c ai (us 18 aVs))))))))))))))))) (pl (c cH (c jH (c afg (c Hp aa2)))) cR)))
abbrev ru:=Xm.B
def Xn {ρ:Type}:=@ef ru ((.ex 10)) Xm ρ
def Cj (aB:bX)(aW:dt)(d:hI.B):PL hI ru:=let n3:=d.2.2.2;let n1:=d.1.2.2;let n2:=n1.2.2.2;let y0:=bb n1.1 24;let y1:=ws n2.2;let y2:=bb n2.2 48;let y3:=ws n1.1*48+y1;let y4:=decide (n2.2<48);ae y4 (ae y0 (ae y2 (ae (bb d.1.1 24) (ae y2 (opt (aB n1.2.1 (n3.2.1 (ws d.1.1*48+y1)) 30 d.2.1) λaj=>opt (aW (n3.2.1 y3) aj.1 aj.2) λaD=>ae y0 (ae y2 (ae (true&&wd (0+y3*1+1) 1152) (ret (wr ((d.1.1,d.1.2.1,n1.1,n1.2.1,n1.2.2.1,n2.1,wI (n2.2+1)),aD.2,d.2.2.1,n3.1,λj=>bif ww j y3 then aD.1 else n3.2.1 j,n3.2.2))) no) no) no) no) no) no) no) (ret (wn ((d.1.1,d.1.2.1,n1.1,n1.2.1,n1.2.2.1,n2.1,n2.2,y4),d.2)))
def Ck:=bD (Cj aV bP) 2000
def hO:=qs (st (pr (cu aP (us 4 (cu G8 (cu aR5 (cu ah5 (cu NM (cu apN (us 14 (cl ai (us 122 nil)))))))))) (pl (c cH (c jH (c nm (c oC aa2)))) cR)))
def Xo:=qs (st (pr (cu aP (us 4 (cu G8 (cu aR5 (cu ah5 (cu NM (cu apN (us 14 (c ai (cl ab (us 121 nil))))))))))) (pl (c cH (c jH (c nm (c oC aa2)))) cR)))
abbrev rv:=Xo.B
def Xp {ρ:Type}:=@ef rv ((.ex 0)) Xo ρ
def Cl (aF:cm)(qG:LT gY rq)(d:hO.B):PL hO rv:=let y0:=ws d.1;let y1:=bb d.1 24;let y2:=wI (24+d.1);let y3:=ws y2;let y4:=decide (d.1<24);ae y4 (ae y1 (ae y1 (opt (aF (d.2.2.2.2.1 y0) 0 72057594037927936 d.2.1) λaj=>ae (bb d.1 48) (ae (true&&wd (0+y0*1+1) 48) (ae (bb y2 48) (ae (true&&wd (0+y3*1+1) 48) (opt (qG ((d.1,d.1,0),aj.2,d.2.2.1,d.2.2.2.1,d.2.2.2.2.1,d.2.2.2.2.2.1,λj=>bif ww j y3 then aj.1 else bif ww j y0 then d.2.2.1.2 y0 else d.2.2.2.2.2.2 j)) λd=>ret (wr (wI (d.1.2.1+1),d.2))) no) no) no) no) no) no) (ret (wn ((d.1,y4),d.2)))
def Cm:=bD (Cl bc Cf) 2000
def fQ:=qs (st (pr (cu aP (us 7 (cu G8 (cu ay6 (us 2 (cu Zp (cu NM (c ai (cu apN (us 1 (c ai (us 78 (c ai (cl ai aU3)))))))))))))) (pl (c cH (c jH (c afg (c Hp aa2)))) cR)))
def Xq:=qs (st (pr (cu aP (us 7 (cu G8 (cu ay6 (us 2 (cu Zp (cu NM (c ai (cu apN (us 1 (c ai (us 78 (c ai (c ai (cl ab (us 48 nil)))))))))))))))) (pl (c cH (c jH (c afg (c Hp aa2)))) cR)))
abbrev ry:=Xq.B
def Xr {ρ:Type}:=@ef ry ((.ex 8)) Xq ρ
def Cn (bh:fg)(aE:cO)(as5:WB)(l_5:LT hI ru)(d:fQ.B):PL fQ ry:=let n2:=d.2.2.2.2;let n1:=d.1.2.2;let y0:=decide (n1.2<n1.1);ae y0 (ae (bb n1.2 24) (opt (bh 30 48 48 d.2.1 (λj=>n2.1 (0+ws n1.2*48+j)) n2.2.2 false false) λaj=>opt (aE aj.1 d.1.2.1 30 aj.2) λaD=>opt (as5 n2.2.1.1 n2.2.1.2 n1.2 d.1.1 aD.1) λbC=>opt (l_5 ((d.1.1,d.1.2.1,n1.2,aD.1,n1.1,n1.2,0),aD.2,d.2.2.1,d.2.2.2.1,n2.1,bC,n2.2.2)) λd=>ret (wr ((d.1.1,d.1.2.1,d.1.2.2.2.2.1,wI (d.1.2.2.2.2.2.1+1)),d.2))) no) (ret (wn ((d.1.1,d.1.2.1,n1.1,n1.2,y0),d.2)))
def Co:=bD (Cn bu bo zM Ck) 2000
def hX:=qs (st (pr (cu aP (us 7 (cu G8 (cu ay6 (us 2 (cu Zp (cu NM (cl ai (us 132 nil))))))))) (pl (c cH (c jH (c afg (c Hp (cl jH nil))))) cR)))
def as6:=qs (st (pr (cu aP (us 7 (cu G8 (cu ay6 (us 2 (cu Zp (cu NM (c ai (us 45 (c ai (cl ab (us 85 nil)))))))))))) (pl (c cH (c jH (c afg (c Hp (cl jH nil))))) cR)))
abbrev rz:=((Int×Bool)×Bool×(NI×NI)×NI×NI×NI×NI)
def Xs {ρ:Type}(x:rz)(K:AX->St->Option ρ):Option ρ:=(λd=>K (.ex 4) (as6.em ((d.1.1,d.1),d.2))) x
def Cp (aF:cm)(bh:fg)(l_3:LT gZ rr)(l_4:LT fQ ry)(d:hX.B):PL hX rz:=let y0:=decide (d.1>=0);ae y0 (opt (l_3 ((d.1,0),d.2.1,d.2.2.1,d.2.2.2.1,d.2.2.2.2.1,d.2.2.2.2.2,λx=>0)) λd=>let n1:=d.2.2.2.2;let y0:=ws d.1.1;let y1:=bb d.1.1 24;ae y1 (opt (bh 30 48 48 d.2.1 (λj=>n1.1 (0+y0*48+j)) n1.2.2 false false) λaj=>opt (aF aj.1 1 72057594037927936 aj.2) λaD=>ae y1 (ae (true&&wd (276+y0*1+1) 300) (opt (l_4 ((d.1.1,aD.1,d.1.1,0),aD.2,d.2.2.1,d.2.2.2.1,n1.1,(n1.2.1.1,λj=>bif ww j y0 then aD.1 else n1.2.1.2 j),n1.2.2)) λd=>ret (wr (wI (d.1.1-1),d.2.1,d.2.2.1,d.2.2.2.1,d.2.2.2.2.1,d.2.2.2.2.2.1))) no) no) no) (ret (wn ((d.1,y0),d.2)))
def Cq:=bD (Cp bc bu Ci Co) 2000
def GL (oR:v5)(ax9:OQ)(eH:LT hO rv)(HB:LT hX rz)(x0:Nat->Int)(x1:Nat->Int)(x2:Nat->Int)(x3:Nat->Int)(x4:Bool):Pg OX:=opt (oR x0 x1 x4) λd=>opt (eH (0,d.2,d.1,x2,x3,(λx=>0,λx=>0),λx=>0)) λd=>opt (ax9 d.2.2.1.1 d.2.2.1.2 d.2.1 d.2.2.2.1) λaj=>opt (HB (23,aj.1,d.2.2.2.2.2.1,d.2.2.2.2.2.2,aj.2,λx=>0,λx=>0)) λd=>ret (d.2.2.2.2.2,d.2.1)
def lk:=λx0 x1 x2 x3 x4=>(GL jL rm Cm Cq x0 x1 x2 x3 x4).val
abbrev m8:=v5×cm×bO×OQ×bX×fg×cO×WB×dt×(LT gY rq)×(LT gZ rr)×(LT hI ru)×(LT hO rv)×(LT fQ ry)×(LT hX rz)
def oS (p:m8):KK:=⟨[Gz p.1,eA p.2.1,dH p.b.1,adQ p.b.2.1,fI p.c.1,nY p.c.2.1,gO p.c.b.1,as0 p.c.b.2.1,iU p.d.1],⟨[⟨4,(rg 1 4 (rg 10 14 (rg 25 122 []))),[]⟩,⟨8,(rg 1 4 (rg 11 13 (rg 25 16 (rg 42 105 [])))),[]⟩,⟨16,(rg 1 7 (10::11::rg 15 132 [])),[]⟩,⟨20,(rg 1 7 (10::11::rg 16 48 (rg 65 82 []))),[]⟩,⟨27,(rg 1 7 (10::11::16::rg 18 78 (rg 98 49 []))),[]⟩,⟨32,(rg 1 7 (10::11::16::rg 20 76 (rg 98 18 (rg 117 30 [])))),[]⟩],[fW 8 1 gY Xj p.d.2.1,fW 20 1 gZ Xl p.d.b.1,fW 32 1 hI Xn p.d.b.2.1,fW 4 1 hO Xp p.d.c.1,fW 27 1 fQ Xr p.d.c.2.1,fW 16 1 hX Xs p.d.c.b],[],[],(some ⟨0,(rg 0 8 (rg 9 138 [])),[]⟩)⟩,1,163⟩
theorem ao2 (p:m8):LI (oS p) 8 gY Xj (Ce p.b.1):=λ_ d c K=>by kernel_rfl
theorem ao3 (p:m8):LI (oS p) 20 gZ Xl (Cg p.c.1):=λ_ d c K=>by kernel_rfl
theorem ao4 (p:m8):LI (oS p) 32 hI Xn (Cj p.c.1 p.d.1):=λ_ d c K=>by kernel_rfl
theorem ao5 (p:m8):LI (oS p) 4 hO Xp (Cl p.2.1 p.d.2.1):=λ_ d c K=>by kernel_rfl
theorem ao6 (p:m8):LI (oS p) 27 fQ Xr (Cn p.c.2.1 p.c.b.1 p.c.b.2.1 p.d.b.2.1):=λ_ d c K=>by kernel_rfl
theorem ao7 (p:m8):LI (oS p) 16 hX Xs (Cp p.2.1 p.c.2.1 p.d.b.1 p.d.c.2.1):=λ_ d c K=>by kernel_rfl
theorem aya (p:m8):D2 (oS p) adU (lf Mx) λb=>GL p.1 p.b.2.1 p.d.c.1 p.d.c.b b.1.1.1 b.1.1.2 b.1.2.1 b.1.b b.2:=λb=>by kernel_rfl
abbrev oT:m8:=(jL,bc,aR,rm,aV,bu,bo,zM,bP,Cf,Ci,Ck,Cm,Co,Cq)
theorem adV [ax]:SC (OY lk):=sc (kS (k:=oS oT) (.c OL (.c eZ (.c dM (.c ax3 (.c fY (.c pB (.c iT (.c aEX (.c jR (.nil _)))))))))) [4,8,16,20,27,32] [] ⟨kL (ao5 oT),⟨kL (ao2 oT),⟨kL (ao7 oT),⟨kL (ao3 oT),⟨kL (ao6 oT),⟨kL (ao4 oT),trivial⟩⟩⟩⟩⟩⟩ trivial (aya oT))
def aAe:=qa (pl jc nil)
def agY:=qe E5
abbrev aAf:=agY.B
abbrev amx:=Int->Option aAf
def aAg (g:amx):Ct:=(214,FC aAe (lf agY) (λb=>g b))
def Rc (x0:Int):Pg aAf:=ae (decide (x0>=0)) (ret (decide (x0<24))) (ret false)
def yM:=λx0=>(Rc x0).val
theorem aN3:D0 [] 214 aAe (lf agY) λb=>Rc b:=λb=>by kernel_rfl
theorem aN4 [ax]:SC (aAg yM):=s0 (.nil _) aN3
def Z':=qa (pr (cu aP jc) bG)
def JZ:=qe qO
abbrev aaa:=JZ.B
abbrev My:=Int->Bool->Option aaa
def aab (g:My):Ct:=(215,FC Z' (lf JZ) (λb=>g b.1 b.2))
def EG (aF:cm)(x0:Int)(x1:Bool):Pg aaa:=opt (aF x0 1 72057594037927936 x1) λd=>ret d
def pM:=λx0 x1=>(EG bc x0 x1).val
theorem avs:∀aF,D0 [eA aF] 215 Z' (lf JZ) λb=>EG aF b.1 b.2:=λ_ b=>by kernel_rfl
theorem avt [ax]:SC (aab pM):=s0 (.c eZ (.nil _)) (avs bc)
def amy:=qa (dp (cu aP (c BG aPJ)) λa=>(c xx (cl (cl (gs a.b.1 oK) nil) nil)))
def Te:=qe aWq
abbrev Xt:=Te.B
abbrev jM:=NI->NI->Int->Nat->Bool->NI->Bool->Option Xt
def AY (g:jM):Ct:=(161,vE 3 [.i .i64] (FC amy (lf Te) (λb=>g b.1.1.1 b.1.1.2 b.1.2.1 b.1.b.1 b.2.1 b.b b.1.b.2)))
def jV:=qs (st (dp (cu aP (us 1 (c ai (us 2 (cu Zo (us 2 (cu aHJ (cu aHL (cu apO (us 4 (c H9 (c ai aI9)))))))))))) λa=>(pl (c cH (c (so (cl (gs a.2.1.1 oK) nil)) aWL)) cR)))
def ayb:=qs (st (pr (cu aP (us 1 (c ai (us 2 (cu Zo (us 2 (cu aHJ (cu aHL (cu apO (us 4 (c H9 (c ai aJh)))))))))))) (pl (c cH (c JD aWL)) cR)))
abbrev we:=((Int×(Nat×Bool)×Int×Int×Bool)×Bool×NI×(NI×NI)×(NI×NI)×Dr×NI)
def adW {ρ:Type}(x:we)(K:AX->St->Option ρ):Option ρ:=(λd=>K (.ex 0) (ayb.em (d.1,d.2.1,(d.1.2.1.1,d.b.1),d.b.2))) x
def GM (aN5:amx)(avu:My)(d:jV.B):PL jV we:=let n3:=d.2.2;let n2:=d.1.2.2;let n1:=(d.1.1,d.1.2.1,n2.1,wI (n2.2+1));let y0:=wI (d.1.1+n2.2);let y1:=ws y0;let y2:=bb y0 24;let y3:=decide (n2.2<n2.1);let y4:=y1*24+y1;ae y3 (ae (bb n2.2 d.1.2.1.1) (opt (aN5 y0) λaj=>ae aj (opt (avu (n3.1 (ws n2.2)) d.2.1) λaD=>ae y2 (ae y2 (ae (true&&wd (0+y4*1+1) 576) (ae y2 (ae (true&&wd (0+y1*1+1) 24) (ret (wr (n1,aD.2,n3.1,n3.2.1,n3.2.2.1,λj=>bif ww j y4 then 0 else n3.2.2.2.1 j,λj=>bif ww j y1 then aD.1 else n3.2.2.2.2 j))) no) no) no) no) no) (ret (wr (n1,d.2)))) no) (ret (wn ((d.1.1,d.1.2.1,n2.1,n2.2,y3),d.2)))
def GN:=bD (GM yM pM) 2000
def Mz (Tf:Ds)(wg:GK)(eH:LT jV we)(x0:Nat->Int)(x1:Nat->Int)(x2:Int)(x3:Nat)(x4:Bool)(x5:Nat->Int)(w0:Bool):Pg Xt:=opt Tf λd=>ae (ww x3 x3) (opt (eH ((x2,(x3,w0),wl x3,0),x4,x5,(x0,x1),(λx=>0,λx=>0),d,λx=>0)) λd=>opt (wg d.2.2.2.1.1 d.2.2.2.1.2 d.2.2.2.2.2.1 d.2.2.2.2.2.2 d.2.1) λd=>ret d) no
def dr:=λx0 x1 x2 x3 x4 x5 w0=>(Mz ou lk GN x0 x1 x2 x3 x4 x5 w0).val
abbrev MA:=Ds×amx×My×GK×(LT jV we)
def Xu (p:MA):KK:=⟨[SY p.1,aAg p.2.1,aab p.b.1,OY p.b.2.1],⟨[⟨4,(1::3::4::6::7::rg 11 4 (rg 18 24 [])),[]⟩],[fW 4 2 jV adW p.c],[0],[],(some ⟨0,(rg 0 8 (rg 9 33 [])),[]⟩)⟩,2,161⟩
theorem avv (p:MA):LI (Xu p) 4 jV adW (GM p.2.1 p.b.1):=λ_ d c K=>by kernel_rfl
theorem aFe (p:MA):D2 (Xu p) amy (lf Te) λb=>Mz p.1 p.b.2.1 p.c b.1.1.1 b.1.1.2 b.1.2.1 b.1.b.1 b.2.1 b.b b.1.b.2:=λb=>by kernel_rfl
abbrev Xv:MA:=(ou,yM,pM,lk,GN)
theorem Fz [ax]:SC (AY dr):=sc (Sound.nil 3 [.i .i64]<|kS (k:=Xu Xv) (.c aiC (.c aN4 (.c avt (.c adV (.nil _))))) [4] [] ⟨kL (avv Xv),trivial⟩ trivial (aFe Xv))
def avw:=qa (pr (cu aP afk) bG)
def acm:=qe aDa
abbrev avx:=acm.B
abbrev avy:=NI->Int->Bool->Option avx
def avz (g:avy):Ct:=(165,FC avw (lf acm) (λb=>g b.1.1 b.1.2 b.2))
def qf:=qs (st (pr (cu aP (us 3 (cu T' (us 1 (cu Ew (c ai (us 4 (cl ai (us 14 nil))))))))) (pl (c cH Ob) cR)))
def amz:=qs (st (pr (cu aP (us 3 (cu T' (us 1 (cu Ew (c ai (us 4 (c ai (cl ab (us 13 nil)))))))))) (pl (c cH Ob) cR)))
abbrev FA:=amz.B
def amA {ρ:Type}:=@ef FA ((.ex 0)) amz ρ
def Xw (aB:bX)(aF:cm)(d:qf.B):PL qf FA:=let y0:=ws d.1.2;let y1:=bb d.1.2 24;let y2:=decide (d.1.2<24);ae y2 (ae y1 (opt (aB (d.2.2.1 y0) d.1.1 30 d.2.1) λaj=>opt (aF aj.1 0 72057594037927936 aj.2) λaD=>ae y1 (ae (true&&wd (0+y0*1+1) 24) (ret (wr ((d.1.1,wI (d.1.2+1)),aD.2,λj=>bif ww j y0 then aD.1 else d.2.2.1 j,d.2.2.2))) no) no) no) (ret (wn ((d.1.1,d.1.2,y2),d.2)))
def Xx:=bD (Xw aV bc) 2000
def agZ (oQ:wc)(eH:LT qf FA)(x0:Nat->Int)(x1:Int)(x2:Bool):Pg avx:=opt (oQ x1 x2) λd=>opt (eH ((d.1,0),d.2,x0,λx=>0)) λd=>ret (d.2.2.1,d.2.1)
def MB:=λx0 x1 x2=>(agZ lg Xx x0 x1 x2).val
abbrev U5:=wc×bX×cm×(LT qf FA)
def ag0 (p:U5):KK:=⟨[GJ p.1,fI p.2.1,eA p.b.1],⟨[⟨3,(1::2::3::5::rg 8 4 (rg 13 14 [])),[]⟩],[fW 3 1 qf amA p.b.2],[],[],(some ⟨0,(rg 0 6 (rg 7 20 [])),[]⟩)⟩,1,165⟩
theorem aBQ (p:U5):LI (ag0 p) 3 qf amA (Xw p.2.1 p.b.1):=λ_ d c K=>by kernel_rfl
theorem aKD (p:U5):D2 (ag0 p) avw (lf acm) λb=>agZ p.1 p.b.2 b.1.1 b.1.2 b.2:=λb=>by kernel_rfl
abbrev ag1:U5:=(lg,aV,bc,Xx)
theorem aKE [ax]:SC (avz MB):=sc (kS (k:=ag0 ag1) (.c OW (.c fY (.c eZ (.nil _)))) [3] [] ⟨kL (aBQ ag1),trivial⟩ trivial (aKD ag1))
def aiI:=qa (pr (cu aP (c BG afk)) bG)
def OZ:=qe (res (pu (app 1 373) (pr nk (cl aWw nil))))
abbrev aiJ:=OZ.B
abbrev Jj:=NI->NI->NI->Int->Bool->Option aiJ
def Tg (g:Jj):Ct:=(273,FC aiI (lf OZ) (λb=>g b.1.1.1 b.1.1.2 b.1.2.1 b.1.b b.2))
def mn:=qs (st (pr (cu aP (us 2 (c ai (us 2 (cu T' (us 2 (cu aHM (us 9 (cl ai (us 98 nil)))))))))) (pl (c cH (c oC (cl So nil))) cR)))
def aac:=qs (st (pr (cu aP (us 2 (c ai (us 2 (cu T' (us 2 (cu aHM (us 9 (c ai (cl ab (us 97 nil))))))))))) (pl (c cH (c oC (cl So nil))) cR)))
abbrev yN:=aac.B
def aad {ρ:Type}:=@ef yN ((.ex 0)) aac ρ
def MC (aw:bO)(d:mn.B):PL mn yN:=let y0:=ws d.1.2;let y1:=bb d.1.2 24;let y2:=decide (d.1.2<24);ae y2 (ae y1 (opt (aw (d.2.2.1 y0) d.2.1) λaj=>ae y1 (ae (true&&wd (0+y0*1+1) 24) (ret (wr ((d.1.1,wI (d.1.2+1)),aj.2,λj=>bif ww j y0 then aj.1 else d.2.2.1 j,d.2.2.2))) no) no) no) (ret (wn ((d.1.1,d.1.2,y2),d.2)))
def MD:=bD (MC aR) 2000
def mo:=qs (st (dp (cu aP (us 5 (cu T' (us 2 (cu aHM (us 1 (c ai (c aWa (us 24 (c ai (us 3 (c ai aVc)))))))))))) λa=>(pl (c cH (c oC (c So (cl (so (cl (gs a.2.1 oK) nil)) nil)))) cR)))
def avA:=qs (st (pr (cu aP (us 5 (cu T' (us 2 (cu aHM (us 1 (c ai (c aWa (us 24 (c ai (us 3 (c ai (c ai (cl ab (us 74 nil))))))))))))))) (pl (c cH (c oC (c So akw))) cR)))
abbrev yO:=((Int×Nat×Int×Int×Int×Bool)×Bool×NI×(NI×NI×NI×NI×NI)×NI)
def aae {ρ:Type}(x:yO)(K:AX->St->Option ρ):Option ρ:=(λd=>K (.ex 4) (avA.em (d.1,d.2.1,d.b.1,d.b.2.1,d.1.2.1,d.c))) x
def ME (amd:WA)(d:mo.B):PL mo yO:=let n2:=d.2.2.2;let n1:=d.1.2.2;let y0:=d.1.2.1+1;let y1:=decide (n1.2.2<n1.2.1);ae y1 (opt (amd n2.1.1 n2.1.2.1 n1.2.2 d.1.1) λaj=>ae (wd (y0*8) 140737488355328) (ret (wr ((d.1.1,y0,n1.1,n1.2.1,wI (n1.2.2+1)),d.2.1,d.2.2.1,n2.1,λj=>bif ww j d.1.2.1 then aj else n2.2 j))) no) (ret (wn ((d.1.1,d.1.2.1,n1.1,n1.2.1,n1.2.2,y1),d.2)))
def MF:=bD (ME Fl) 2000
def mq:=qs (st (pr (cu aP (us 5 (cu T' (us 2 (cu aHM (us 27 aVd)))))) (pl (c cH (c oC (cl So nil))) cR)))
def aaf:=qs (st (pr (cu aP (us 5 (cu T' (us 2 (cu aHM (us 27 (c ai (cl ab (us 79 nil))))))))) (pl (c cH (c oC (cl So nil))) cR)))
abbrev yP:=aaf.B
def aag {ρ:Type}:=@ef yP ((.ex 2)) aaf ρ
def MG (bh:fg)(aB:bX)(cy:fJ)(HB:LT mo yO)(d:mq.B):PL mq yP:=let y0:=decide (d.1<24);ae y0 (ae true (opt (HB ((d.1,0,d.1,wI (d.1+1),0),d.2.1,d.2.2.1,d.2.2.2,λx=>0)) λd=>let n2:=d.2.2;let n1:=n2.2.1.2;let n3:=n1.2.2;let y0:=ws d.1.1;let y1:=bb d.1.1 24;let y2:=y0*1;let y3:=wI (d.1.1+1);let y4:=ws y3;let y5:=wd (0+y2+1) 24;let y6:=ww y0 y0;ae (KI y3 24) (ae (ww y4 y4) (ae (ww d.1.2.1 d.1.2.1) (opt (bh 30 y4 d.1.2.1 d.2.1 n2.1 n2.2.2 false true) λaj=>let uG:=bif y6 then aj.1 else n1.2.1 y0;ae y1 (ae (y5&&wd (300+y2+1) 373) (ae y1 (ae y5 (ae y1 (ae y5 (opt (aB (n1.1 y0) uG 30 aj.2) λaD=>ae y1 (ae (y5&&wd (324+y2+1) 373) (ae (bb d.1.1 25) (ae y1 (ae y5 (ae y1 (ae y5 (opt (aB uG (bif y6 then aD.1 else n3.1 y0) 30 aD.2) λbC=>opt (cy 2 bC.2 (cr (n3.2 y0) [bC.1,n3.2 y0]) true) λcM=>ae (bb y3 25) (ae (true&&wd (348+y4*1+1) 373) (ret (wr (wI (d.1.2.2.1+1),cM.2,n2.1,n2.2.1.1,n1.1,λj=>bif ww j y0 then aj.1 else n1.2.1 j,λj=>bif ww j y0 then aD.1 else n3.1 j,λj=>bif ww j y4 then cM.1 else n3.2 j))) no) no) no) no) no) no) no) no) no) no) no) no) no) no) no) no) no) no) no) (ret (wn ((d.1,y0),d.2)))
def MH:=bD (MG bu aV db MF) 2000
def Th (oR:v5)(aF:cm)(eH:LT mn yN)(qG:LT mq yP)(x0:Nat->Int)(x1:Nat->Int)(x2:Nat->Int)(x3:Int)(x4:Bool):Pg aiJ:=opt (oR x0 x1 x4) λd=>opt (eH ((x3,0),d.2,x2,d.1.1,d.1.2,λx=>0,λx=>0,λx=>0)) λd=>let n1:=d.2.2.2;opt (aF d.1.1 1 72057594037927936 d.2.1) λaj=>opt (qG (0,aj.2,d.2.2.1,n1.1,n1.2.1,n1.2.2.1,n1.2.2.2.1,λj=>bif ww j 0 then aj.1 else n1.2.2.2.2 j)) λd=>ret (d.2.1,d.2.2.2)
def uq:=λx0 x1 x2 x3 x4=>(Th jL bc MD MH x0 x1 x2 x3 x4).val
abbrev yi:=v5×bO×cm×WA×fg×bX×fJ×(LT mn yN)×(LT mo yO)×(LT mq yP)
def Dv (p:yi):KK:=⟨[Gz p.1,dH p.2.1,eA p.b.1,au7 p.b.2.1,nY p.c.1,fI p.c.2.1,pA p.c.b.1],⟨[⟨3,(1::2::4::5::7::8::rg 10 9 (rg 20 98 [])),[]⟩,⟨9,(rg 1 5 (7::8::rg 10 27 (rg 38 80 []))),[]⟩,⟨13,(rg 1 5 (7::8::10::rg 13 24 (38::39::40::rg 43 75 []))),[(12,[.i .i64])]⟩],[fW 3 1 mn aad p.c.b.2.1,fW 13 1 mo aae p.d.1,fW 9 1 mq aag p.d.2],[],[],(some ⟨0,(rg 0 8 (rg 9 109 [])),[]⟩)⟩,1,273⟩
theorem as7 (p:yi):LI (Dv p) 3 mn aad (MC p.2.1):=λ_ d c K=>by kernel_rfl
theorem as8 (p:yi):LI (Dv p) 13 mo aae (ME p.b.2.1):=λ_ d c K=>by kernel_rfl
theorem as9 (p:yi):LI (Dv p) 9 mq aag (MG p.c.1 p.c.2.1 p.c.b.1 p.d.1):=λ_ d c K=>by kernel_rfl
theorem aBR (p:yi):D2 (Dv p) aiI (lf OZ) λb=>Th p.1 p.b.1 p.c.b.2.1 p.d.2 b.1.1.1 b.1.1.2 b.1.2.1 b.1.b b.2:=λb=>by kernel_rfl
abbrev Dw:yi:=(jL,aR,bc,Fl,bu,aV,db,MD,MF,MH)
theorem aiK [ax]:SC (Tg uq):=sc (kS (k:=Dv Dw) (.c OL (.c dM (.c eZ (.c aEU (.c pB (.c fY (.c rY (.nil _)))))))) [3,9,13] [] ⟨kL (as7 Dw),⟨kL (as9 Dw),⟨kL (as8 Dw),trivial⟩⟩⟩ trivial (aBR Dw))
def NN:=qa (pr (cu aP (c BG afk)) bG)
def Cr:=qe qO
abbrev NO:=Cr.B
abbrev NP:=NI->NI->NI->Int->Bool->Option NO
def NQ (g:NP):Ct:=(268,FC NN (lf Cr) (λb=>g b.1.1.1 b.1.1.2 b.1.2.1 b.1.b b.2))
def Eg (yj:Jj)(x0:Nat->Int)(x1:Nat->Int)(x2:Nat->Int)(x3:Int)(x4:Bool):Pg NO:=opt (yj x0 x1 x2 x3 x4) λd=>ret (d.2.2.2.2.2 24,d.1)
def qH:=λx0 x1 x2 x3 x4=>(Eg uq x0 x1 x2 x3 x4).val
theorem ajV:∀yj,D0 [Tg yj] 268 NN (lf Cr) λb=>Eg yj b.1.1.1 b.1.1.2 b.1.2.1 b.1.b b.2:=λ_ b=>by kernel_rfl
theorem ajW [ax]:SC (NQ qH):=s0 (.c aiK (.nil _)) (ajV uq)
def aAh:=qa (pl (c afe aC4) nil)
def ag2:=qe Hn
abbrev aAi:=ag2.B
abbrev aAj:=Int->Int->Int->Int->Option aAi
def aAk (g:aAj):Ct:=(274,FC aAh (lf ag2) (λb=>g b.1.1 b.1.2 b.2.1 b.b))
def amB (x0:Int)(x1:Int)(x2:Int)(x3:Int):Pg aAi:=let y0:=x0==x2;ae (y0&&(x1==x3&&true)) (ret 0) (ae (decide (x0<x2)) (ret (-1)) (ae y0 (ae (decide (x1<x3)) (ret (-1)) (ret 1)) (ret 1)))
def Re:=λx0 x1 x2 x3=>(amB x0 x1 x2 x3).val
theorem aN6:D0 [] 274 aAh (lf ag2) λb=>amB b.1.1 b.1.2 b.2.1 b.b:=λb=>by kernel_rfl
theorem aN7 [ax]:SC (aAk Re):=s0 (.nil _) aN6
def amC:=qa (pl E6 nil)
def Ti:=qe E5
abbrev amD:=Ti.B
abbrev amE:=Int->Int->Int->Option amD
def amF (g:amE):Ct:=(269,FC amC (lf Ti) (λb=>g b.1 b.2.1 b.b))
def Xy (aw:bO)(cW:oL)(aah:aAj)(x0:Int)(x1:Int)(x2:Int):Pg amD:=opt (aw x0 false) λd=>opt (aw x1 d.2) λaj=>ae (decide (x2<1)) (ret false) (ae (decide (x2>1000)) (ret false) (ae (decide (aj.1<1)) (ret false) (opt (cW d.1 d.1) λd=>opt (cW (wI (wI (x2*x2)*65536)) aj.1) λaD=>opt (aah d.1 d.2 aD.1 aD.2) λd=>ret (decide (d<=0)))))
def FB:=λx0 x1 x2=>(Xy aR fP Re x0 x1 x2).val
theorem aFf:∀aw cW aah,D0 [dH aw,yx cW,aAk aah] 269 amC (lf Ti) λb=>Xy aw cW aah b.1 b.2.1 b.b:=λ_ _ _ b=>by kernel_rfl
theorem aFg [ax]:SC (amF FB):=s0 (.c dM (.c Br (.c aN7 (.nil _)))) (aFf aR fP Re)
def aai:=qa (pr (cu aP (c BG afk)) bG)
def J0:=qe (res (pr (sH (c asd (c akq afd))) (pl nk nil)))
abbrev aaj:=J0.B
abbrev aak:=NI->NI->NI->Int->Bool->Option aaj
def aal (g:aak):Ct:=(270,FC aai (lf J0) (λb=>g b.1.1.1 b.1.1.2 b.1.2.1 b.1.b b.2))
def j6:=qs (st (pr (cu aP (us 7 (cu G8 (cu Ew (us 1 (cu aHN (cu NM (cu apO (c ai (c ai (us 13 (c ai (us 52 (c ai (cl ai (us 65 nil)))))))))))))))) (pl (c cH (c jH (c oC (c So (c jH JC))))) cR)))
def Ue:=qs (st (pr (cu aP (us 7 (cu G8 (cu Ew (us 1 (cu aHN (cu NM (cu apO (c ai (c ai (us 13 (c ai (us 52 (c ai (c ai (cl ab (us 64 nil))))))))))))))))) (pl (c cH (c jH (c oC (c So (c jH JC))))) cR)))
abbrev uJ:=Ue.B
def Uf {ρ:Type}:=@ef uJ ((.ex 2)) Ue ρ
def HC (amd:WA)(aB:bX)(cy:fJ)(as5:WB)(d:j6.B):PL j6 uJ:=let n4:=d.1.1;let n3:=d.1.2;let n2:=d.2.2.2.2;let n1:=n3.2.2;let y0:=ws n4;let y1:=ws n1.2;let y2:=bb n1.2 24;let y3:=decide (n1.2<n1.1);ae y3 (opt (amd n2.1.1 n2.1.2.1 n1.2 n4) λaj=>ae y2 (opt (aB (n2.2.2 y1) n3.1 44 d.2.1) λaD=>opt (cy 2 aD.2 (cr aj [aD.1,aj]) true) λbC=>opt (as5 n2.2.1.1 n2.2.1.2 n1.2 n4 bC.1) λcM=>ae y2 (ae (bb n4 24) (ae (wd (0+y0*1+1) 24) (opt (aB aj (n2.1.2.2.2.1 y0) 30 bC.2) λfA=>opt (cy 2 fA.2 (cr (n2.2.2 y1) [fA.1,n2.2.2 y1]) true) λdB=>ae y2 (ae (true&&wd (0+y1*1+1) 24) (ret (wr ((n4,n3.1,n3.2.1,n1.1,wI (n1.2+1)),dB.2,d.2.2.1,d.2.2.2.1,n2.1,cM,λj=>bif ww j y1 then dB.1 else n2.2.2 j))) no) no) no) no) no) no) (ret (wn ((n4,n3.1,n3.2.1,n1.1,n1.2,y3),d.2)))
def HD:=bD (HC Fl aV db zM) 2000
def j7:=qs (st (pr (cu aP (us 7 (cu G8 (cu Ew (us 1 (cu aHN (cu NM (cu apO (us 4 (cu (app 6 24) (us 107 aVa))))))))))) (pl (c cH (c jH (c oC (c So (c jH Ob))))) cR)))
def Ug:=qs (st (pr (cu aP (us 7 (cu G8 (cu Ew (us 1 (cu aHN (cu NM (cu apO (us 4 (cu (app 6 24) (us 107 (c ai aPw)))))))))))) (pl (c cH (c jH (c oC (c So (c jH Ob))))) cR)))
abbrev uK:=Ug.B
def Uh {ρ:Type}:=@ef uK ((.ex 4)) Ug ρ
def HE (aE:cO)(d:j7.B):PL j7 uK:=let n1:=d.2.2.2.2;let y0:=ws d.1;let y1:=bb d.1 24;let y2:=decide (d.1<24);ae y2 (ae y1 (opt (aE (n1.2.2.1 y0) (n1.1.2.2.2.2 24) 30 d.2.1) λaj=>ae y1 (ae (true&&wd (0+y0*1+1) 24) (ret (wr (wI (d.1+1),aj.2,d.2.2.1,d.2.2.2.1,n1.1,n1.2.1,n1.2.2.1,λj=>bif ww j y0 then aj.1 else n1.2.2.2 j))) no) no) no) (ret (wn ((d.1,y2),d.2)))
def HF:=bD (HE bo) 2000
def j9:=qs (st (pr (cu aP (us 7 (cu G8 (cu Ew (us 1 (cu aHN (cu NM (cu apO (us 15 (cl ai (us 119 nil))))))))))) (pl (c cH (c jH (c oC (c So (c jH JC))))) cR)))
def Ui:=qs (st (pr (cu aP (us 7 (cu G8 (cu Ew (us 1 (cu aHN (cu NM (cu apO (us 15 (c ai (cl ab (us 118 nil)))))))))))) (pl (c cH (c jH (c oC (c So (c jH JC))))) cR)))
abbrev uL:=Ui.B
def Uj {ρ:Type}:=@ef uL ((.ex 0)) Ui ρ
def HG (aq:cB)(aF:cm)(aE:cO)(qG:LT j6 uJ)(d:j9.B):PL j9 uL:=let n1:=d.2.2.2.2;let n2:=n1.1.2.2;let y0:=ws d.1;let y1:=bb d.1 25;let y2:=bb d.1 24;let y3:=y0*1;let y4:=wI (d.1+1);let y5:=wd (0+y3+1) 24;let y6:=decide (d.1<24);ae y6 (ae y2 (ae y5 (ae y1 (ae (bb y4 25) (opt (aq (n1.1.2.1 y0) (n2.2.2 y0) (n2.2.2 (ws y4)) d.2.1) λaj=>opt (aF aj.1 1 72057594037927936 aj.2) λaD=>ae y2 (ae (true&&wd (276+y3+1) 300) (ae y2 (ae y5 (ae y1 (opt (aE (n2.1 y0) (n2.2.2 y0) 44 aD.2) λbC=>ae y2 (ae y5 (ae y2 (ae (true&&y5) (opt (qG ((d.1,wI (0-bC.1),d.1,d.1,0),bC.2,d.2.2.1,d.2.2.2.1,n1.1,(n1.2.1.1,λj=>bif ww j y0 then aD.1 else n1.2.1.2 j),λj=>bif ww j y0 then n2.2.1 y0 else n1.2.2 j)) λd=>ret (wr (wI (d.1.2.2.1+1),d.2))) no) no) no) no) no) no) no) no) no) no) no) no) no) (ret (wn ((d.1,y6),d.2)))
def HH:=bD (HG aU bc bo HD) 2000
def MI (yj:Jj)(HB:LT j7 uK)(eH:LT j9 uL)(x0:Nat->Int)(x1:Nat->Int)(x2:Nat->Int)(x3:Int)(x4:Bool):Pg aaj:=opt (yj x0 x1 x2 x3 x4) λd=>opt (eH (0,d.1,(λx=>0,λx=>0),λx=>0,d.2,(d.2.1,d.2.2.1),λx=>0)) λd=>opt (HB (0,d.2.1,d.2.2.1,d.2.2.2.1,d.2.2.2.2.1,d.2.2.2.2.2.1,d.2.2.2.2.2.2,λx=>0)) λd=>ret ((d.2.2.2.2.2.1,d.2.2.2.2.2.2.2,d.2.2.2.2.1.2.2.2.2 24),d.2.1)
def yQ:=λx0 x1 x2 x3 x4=>(MI uq HF HH x0 x1 x2 x3 x4).val
abbrev ua:=Jj×cB×cm×cO×WA×bX×fJ×WB×(LT j6 uJ)×(LT j7 uK)×(LT j9 uL)
def yR (p:ua):KK:=⟨[Tg p.1,dD p.2.1,eA p.b.1,gO p.b.2.1,au7 p.c.1,fI p.c.2.1,pA p.c.b.1,as0 p.c.b.2.1],⟨[⟨5,(rg 1 7 (10::rg 14 15 (rg 30 119 []))),[]⟩,⟨11,(rg 1 7 (10::rg 16 13 (rg 30 52 (rg 84 65 [])))),[]⟩,⟨20,(rg 1 7 (10::rg 14 4 (rg 19 107 (rg 127 22 [])))),[]⟩],[fW 11 1 j6 Uf p.d.1,fW 20 1 j7 Uh p.d.2.1,fW 5 1 j9 Uj p.d.b],[],[],(some ⟨0,(rg 0 8 (rg 11 138 [])),[]⟩)⟩,1,270⟩
theorem amG (p:ua):LI (yR p) 11 j6 Uf (HC p.c.1 p.c.2.1 p.c.b.1 p.c.b.2.1):=λ_ d c K=>by kernel_rfl
theorem amH (p:ua):LI (yR p) 20 j7 Uh (HE p.b.2.1):=λ_ d c K=>by kernel_rfl
theorem amI (p:ua):LI (yR p) 5 j9 Uj (HG p.2.1 p.b.1 p.b.2.1 p.d.1):=λ_ d c K=>by kernel_rfl
theorem avB (p:ua):D2 (yR p) aai (lf J0) λb=>MI p.1 p.d.2.1 p.d.b b.1.1.1 b.1.1.2 b.1.2.1 b.1.b b.2:=λb=>by kernel_rfl
abbrev yS:ua:=(uq,aU,bc,bo,Fl,aV,db,zM,HD,HF,HH)
theorem avC [ax]:SC (aal yQ):=sc (kS (k:=yR yS) (.c aiK (.c dQ (.c eZ (.c iT (.c aEU (.c fY (.c rY (.c aEX (.nil _))))))))) [5,11,20] [] ⟨kL (amI yS),⟨kL (amG yS),⟨kL (amH yS),trivial⟩⟩⟩ trivial (avB yS))
def aiL:=qa (pr (cu aP afk) bG)
def O0:=qe aDa
abbrev aiM:=O0.B
abbrev aiN:=NI->Int->Bool->Option aiM
def aiO (g:aiN):Ct:=(272,FC aiL (lf O0) (λb=>g b.1.1 b.1.2 b.2))
def mr:=qs (st (pr (cu aP (us 1 (c ai (us 1 (cu T' (us 1 (cu Ew (us 1 aVe)))))))) (pl (c cH Ob) cR)))
def aam:=qs (st (pr (cu aP (us 1 (c ai (us 1 (cu T' (us 1 (cu Ew (us 1 aPH)))))))) (pl (c cH Ob) cR)))
abbrev yT:=aam.B
def aan {ρ:Type}:=@ef yT ((.ex 0)) aam ρ
def MJ (aB:bX)(d:mr.B):PL mr yT:=let y0:=ws d.1.2;let y1:=bb d.1.2 24;let y2:=decide (d.1.2<24);ae y2 (ae y1 (opt (aB (d.2.2.1 y0) d.1.1 30 d.2.1) λaj=>ae y1 (ae (true&&wd (0+y0*1+1) 24) (ret (wr ((d.1.1,wI (d.1.2+1)),aj.2,λj=>bif ww j y0 then aj.1 else d.2.2.1 j,d.2.2.2))) no) no) no) (ret (wn ((d.1.1,d.1.2,y2),d.2)))
def MK:=bD (MJ aV) 2000
def Tj (eH:LT mr yT)(x0:Nat->Int)(x1:Int)(x2:Bool):Pg aiM:=opt (eH ((x1,0),x2,x0,λx=>0)) λd=>ret (d.2.2.1,d.2.1)
def Dx:=λx0 x1 x2=>(Tj MK x0 x1 x2).val
abbrev Jk:=bX×(LT mr yT)
def Tk (p:Jk):KK:=⟨[fI p.1],⟨[⟨2,(1::3::5::7::rg 9 12 []),[]⟩],[fW 2 1 mr aan p.2],[0],[],(some ⟨0,(rg 0 6 (rg 7 14 [])),[]⟩)⟩,1,272⟩
theorem ata (p:Jk):LI (Tk p) 2 mr aan (MJ p.1):=λ_ d c K=>by kernel_rfl
theorem aBS (p:Jk):D2 (Tk p) aiL (lf O0) λb=>Tj p.2 b.1.1 b.1.2 b.2:=λb=>by kernel_rfl
abbrev Tl:Jk:=(aV,MK)
theorem aBT [ax]:SC (aiO Dx):=sc (kS (k:=Tk Tl) (.c fY (.nil _)) [2] [] ⟨kL (ata Tl),trivial⟩ trivial (aBS Tl))
def ML:=qa (dp (cu aP (c mh (cl aCY nil))) λa=>(c xx (cl (cl (gs a.2.1 aDo) nil) nil)))
def acn:=qe (res (pr mh (pl N' nil)))
abbrev avD:=acn.B
abbrev avE:=ML.B->Option avD
def avF (g:avE):Ct:=(271,vE 2 [.i .i64,.i .i64,.i .i64,.i .i64,.i .i64,.i .i64,.i .i64,.i .i64,.i .i64,.i .i64,.i .i64,.i .i64,.i .i64,.i .i64,.i .i64,.i .i64,.i .i64,.i .i64,.i .i64,.i .i64,.i .i64,.i .i64,.i .i64,.i .i64] (FC ML (lf acn) g))
def qg:=qs (st (dp (cu aP (us 3 (cu Ew (us 1 (cu ah5 (us 1 (cu apM (us 7 (c aCY (c ai (c ai (us 3 aI9)))))))))))) λa=>(pl (c cH (c (so (cl (gs a.1.1 aDo) nil)) aJD)) cR)))
def aFh:=qs (st (pr (cu aP (us 3 (cu Ew (us 1 (cu ah5 (us 1 (cu apM (us 7 (c aCY (c ai (c ai (us 3 aJh)))))))))))) (pl (c cH (c aWO aJD)) cR)))
abbrev FD:=(((Nat×Bool)×Int×Int×Int×Bool)×Bool×a0y×NI×NI×NI)
def amJ {ρ:Type}(x:FD)(K:AX->St->Option ρ):Option ρ:=(λd=>K (.ex 2) (aFh.em (d.1,d.2.1,(d.1.1.1,d.b.1),d.b.2))) x
def Xz (cy:fJ)(d:qg.B):PL qg FD:=let n2:=d.2.2.2;let n1:=d.1.2.2;let y0:=ws n1.2;let y1:=bb n1.2 24;let y2:=decide (n1.2<24);ae y2 (ae y1 (ae y1 (opt (cy 2 d.2.1 (cr (n2.1 y0) [n2.2.2 y0,n2.1 y0]) true) λaj=>ae y1 (ae (true&&wd (0+y0*1+1) 24) (ret (wr ((d.1.1,d.1.2.1,n1.1,wI (n1.2+1)),aj.2,d.2.2.1,λj=>bif ww j y0 then aj.1 else n2.1 j,n2.2))) no) no) no) no) (ret (wn ((d.1.1,d.1.2.1,n1.1,n1.2,y2),d.2)))
def XA:=bD (Xz db) 2000
def qh:=qs (st (dp (cu aP (us 3 (cu Ew (us 1 (cu ah5 (us 9 (c aCY (c ai (cl ai (us 28 nil)))))))))) λa=>(pl (c cH (c (so (cl (gs a.1.1 aDo) nil)) Ob)) cR)))
def aFi:=qs (st (pr (cu aP (us 3 (cu Ew (us 1 (cu ah5 (us 9 (c aCY (c ai (c ai (cl ab aU1)))))))))) (pl (c cH (c aWO Ob)) cR)))
abbrev FE:=(aMk×Bool×a0y×NI×NI)
def amK {ρ:Type}(x:FE)(K:AX->St->Option ρ):Option ρ:=(λd=>K (.ex 0) (aFi.em (d.1,d.2.1,(d.1.1.1,d.b.1),d.b.2))) x
def XB (bg:eI)(bq:ju)(yg:Ji)(wM:Ms)(qG:LT qg FD)(d:qh.B):PL qh FE:=let n9:=d.1.1;let n5:=d.1.2;let n4:=d.2.2.1;let n2:=n4.2.2.2;let n6:=n2.2.2.2;let n1:=n6.2.2.2.2;let n8:=n1.2.2.2;let n3:=n8.2.2.2;let n7:=n3.2.2.2;let y0:=ws n5.2;let y1:=decide (n5.2<n5.1);ae y1 (ae (bb n5.2 n9.1) (ae (ww n9.1 n9.1) (opt (qG ((n9,n5.1,n5.2,0),d.2.1,n4,d.2.2.2.1,d.2.2.2.2,cr (n4.1 y0) [n7.2.2.2.2 y0,n7.2.2.2.1 y0,n7.2.2.1 y0,n7.2.1 y0,n7.1 y0,n3.2.2.1 y0,n3.2.1 y0,n3.1 y0,n8.2.2.1 y0,n8.2.1 y0,n8.1 y0,n1.2.2.1 y0,n1.2.1 y0,n1.1 y0,n6.2.2.2.1 y0,n6.2.2.1 y0,n6.2.1 y0,n6.1 y0,n2.2.2.1 y0,n2.2.1 y0,n2.1 y0,n4.2.2.1 y0,n4.2.1 y0,n4.1 y0])) λd=>opt (bg d.2.2.2.1) λaj=>opt (bq aj.1 aj.2.1 aj.2.2.1 aj.2.2.2 d.2.1) λaD=>opt (yg d.2.2.2.1 aD.1.1 aD.1.2.1 aD.1.2.2.1 aD.1.2.2.2) λbC=>opt (wM bC aD.2) λcM=>ret (wr ((d.1.1,d.1.2.1,wI (d.1.2.2.1+1)),cM.2,d.2.2.1,cM.1,d.2.2.2.2.1))) no) no) (ret (wn ((n9,n5.1,n5.2,y1),d.2)))
def XC:=bD (XB cC dI um wL XA) 2000
def ag3 (aO:fK)(eH:LT qh FE)(x:ML.B):Pg avD:=let y0:=wl x.1.2.1;ae (y0==0) (opt (aO x.1.1 x.2.1) λd=>ret d) (ae (ww x.1.2.1 x.1.2.1) (opt (eH ((x.1.2,y0,0),x.2.1,x.2.2,x.1.1,λx=>0)) λd=>ret (d.2.2.2.1,d.2.1)) no)
def MM:=λx=>(ag3 cz XC x).val
abbrev MN:=fK×fJ×eI×ju×Ji×Ms×(LT qg FD)×(LT qh FE)
def U6 (p:MN):KK:=⟨[jU p.1,pA p.2.1,kD p.b.1,ov p.b.2.1,S6 p.c.1,W3 p.c.2.1],⟨[⟨4,(1::2::3::5::rg 7 9 (rg 19 28 [])),[]⟩,⟨7,(1::2::3::5::7::rg 9 7 (19::20::21::rg 23 24 [])),[]⟩],[fW 7 2 qg amJ p.c.b.1,fW 4 2 qh amK p.c.b.2],[0],[],(some ⟨0,(rg 0 6 (rg 7 40 [])),[]⟩)⟩,2,271⟩
theorem aBU (p:MN):LI (U6 p) 7 qg amJ (Xz p.2.1):=λ_ d c K=>by kernel_rfl
theorem aBV (p:MN):LI (U6 p) 4 qh amK (XB p.b.1 p.b.2.1 p.c.1 p.c.2.1 p.c.b.1):=λ_ d c K=>by kernel_rfl
theorem aKF (p:MN):D2 (U6 p) ML (lf acn) λb=>ag3 p.1 p.c.b.2 b:=λb=>by kernel_rfl
abbrev U7:MN:=(cz,db,cC,dI,um,wL,XA,XC)
theorem aKG [ax]:SC (avF MM):=sc (Sound.nil 2 [.i .i64,.i .i64,.i .i64,.i .i64,.i .i64,.i .i64,.i .i64,.i .i64,.i .i64,.i .i64,.i .i64,.i .i64,.i .i64,.i .i64,.i .i64,.i .i64,.i .i64,.i .i64,.i .i64,.i .i64,.i .i64,.i .i64,.i .i64,.i .i64]<|kS (k:=U6 U7) (.c ld (.c rY (.c lK (.c pL (.c aiF (.c amo (.nil _))))))) [4,7] [] ⟨kL (aBV U7),⟨kL (aBU U7),trivial⟩⟩ trivial (aKF U7))
def aAl:=qa (pr (cu aP (c mh (c BG aV1))) bG)
def ag4:=qe (res (pr (sH (c akq (c asd (cl (ra aJg) nil)))) (pl nk nil)))
abbrev aAm:=ag4.B
abbrev amL:=NI->NI->NI->NI->Int->Int->Int->Bool->Option aAm
def aAn (g:amL):Ct:=(264,FC aAl (lf ag4) (λb=>g b.1.1 b.1.2.1.1 b.1.2.1.2 b.1.b.1 b.1.b.2.1 b.1.c.1 b.1.c.2 b.2))
def amM (aO:fK)(oR:v5)(aw:bO)(xo:NP)(MO:amE)(EH:aak)(Jl:aiN)(U8:avE)(x0:Nat->Int)(x1:Nat->Int)(x2:Nat->Int)(x3:Nat->Int)(x4:Int)(x5:Int)(x6:Int)(x7:Bool):Pg aAm:=opt (aO x0 x7) λd=>opt (oR x1 x2 d.2) λaj=>opt (aw x4 aj.2) λaD=>opt (xo aj.1.1 aj.1.2 x3 x5 aD.2) λbC=>opt (MO aD.1 bC.1 x6) λcM=>ae (!cM) (ret ((d.1,aj.1,false,aD.1,bC.1),bC.2)) (opt (EH aj.1.1 aj.1.2 x3 x5 bC.2) λfA=>opt (Jl fA.1.2.1 aD.1 fA.2) λdB=>opt (U8 ((d.1,1,true),dB.2,λj=>bif ww j 0 then dB.1 0 else dB.1 0,λj=>bif ww j 0 then dB.1 1 else dB.1 1,λj=>bif ww j 0 then dB.1 2 else dB.1 2,λj=>bif ww j 0 then dB.1 3 else dB.1 3,λj=>bif ww j 0 then dB.1 4 else dB.1 4,λj=>bif ww j 0 then dB.1 5 else dB.1 5,λj=>bif ww j 0 then dB.1 6 else dB.1 6,λj=>bif ww j 0 then dB.1 7 else dB.1 7,λj=>bif ww j 0 then dB.1 8 else dB.1 8,λj=>bif ww j 0 then dB.1 9 else dB.1 9,λj=>bif ww j 0 then dB.1 10 else dB.1 10,λj=>bif ww j 0 then dB.1 11 else dB.1 11,λj=>bif ww j 0 then dB.1 12 else dB.1 12,λj=>bif ww j 0 then dB.1 13 else dB.1 13,λj=>bif ww j 0 then dB.1 14 else dB.1 14,λj=>bif ww j 0 then dB.1 15 else dB.1 15,λj=>bif ww j 0 then dB.1 16 else dB.1 16,λj=>bif ww j 0 then dB.1 17 else dB.1 17,λj=>bif ww j 0 then dB.1 18 else dB.1 18,λj=>bif ww j 0 then dB.1 19 else dB.1 19,λj=>bif ww j 0 then dB.1 20 else dB.1 20,λj=>bif ww j 0 then dB.1 21 else dB.1 21,λj=>bif ww j 0 then dB.1 22 else dB.1 22,λj=>bif ww j 0 then dB.1 23 else dB.1 23)) λd=>ret ((d.1,fA.1.1,true,aD.1,bC.1),d.2))
def Rf:=λx0 x1 x2 x3 x4 x5 x6 x7=>(amM cz jL aR qH FB yQ Dx MM x0 x1 x2 x3 x4 x5 x6 x7).val
theorem aN8:∀aO oR aw xo MO EH Jl U8,D0 [jU aO,Gz oR,dH aw,NQ xo,amF MO,aal EH,aiO Jl,avF U8] 264 aAl (lf ag4) λb=>amM aO oR aw xo MO EH Jl U8 b.1.1 b.1.2.1.1 b.1.2.1.2 b.1.b.1 b.1.b.2.1 b.1.c.1 b.1.c.2 b.2:=λ_ _ _ _ _ _ _ _ b=>by kernel_rfl
theorem aN9 [ax]:SC (aAn Rf):=s0 (.c ld (.c OL (.c dM (.c ajW (.c aFg (.c avC (.c aBT (.c aKG (.nil _))))))))) (aN8 cz jL aR qH FB yQ Dx MM)
end Go.Proofs.YtldgljclcgaibaaGreat
namespace Go.Ab
theorem G4 (n:Int):IntKind.wrap .i64 n=if 9223372036854775808<=n%18446744073709551616 then n%18446744073709551616-18446744073709551616 else n%18446744073709551616:=by
 unfold IntKind.wrap;simp only[IntKind.signed,IntKind.bits,pw,lC,show(2:Int)^64=18446744073709551616 from rfl,show(2:Int)^(64-1)=9223372036854775808 from rfl,Gp]
theorem rN (a b:Int)(h:0<=b):Int.fdiv a b=a/b:=Int.fdiv_eq_ediv_of_nonneg a h
theorem Vv (x:Int)(h0:0<=x)(h1:x<18446744073709551616):(v9 64 x).toNat=x.toNat:=by
 rw[BitVec.toNat_ofInt];congr 1
 simp only[Nat.reducePow,Int.cast_ofNat_Int];omega
theorem ae5 (x:Int)(h0:0<=x)(h1:x<18446744073709551616):wl (v4 (v9 64 18446744073709551615^^^v9 64 x))=18446744073709551615-x:=by
 have e:v9 64 18446744073709551615=BitVec.allOnes 64:=by decide
 rw[e,BitVec.allOnes_xor,BitVec.toNat_not,Vv x h0 h1];simp only[dO];omega
theorem aoS (x:Int)(h0:0<=x)(h1:x<18446744073709551616):wl (v4 (v9 64 x&&&v9 64 4294967295))=x%4294967296:=by
 rw[BitVec.toNat_and,Vv x h0 h1];have e:(v9 64 4294967295).toNat=2^32-1:=by decide
 rw[e,Nat.and_two_pow_sub_one_eq_mod];simp only[dO];omega
theorem ayL (x y:Int)(k:Nat)(h0:0<=x)(h1:x<2^k)(h2:0<=y)(h3:y<18446744073709551616)(h4:x<18446744073709551616)(h5:y%2^k=0):
  wl (v4 (v9 64 x|||v9 64 y))=x+y:=by
 rw[BitVec.toNat_or,Vv x h0 h4,Vv y h2 h3]
 obtain⟨q,hq⟩:∃q:Nat,y.toNat=2^k*q:=by
  refine⟨y.toNat/2^k,?_⟩
  have:y.toNat%2^k=0:=by
   have e:((y.toNat%2^k:Nat):Int)=y%2^k:=by
    rw[Int.natCast_emod,Int.toNat_of_nonneg h2];simp
   omega
  exact(Nat.mul_div_cancel' (aDt this)).symm
 have hx:x.toNat<2^k:=by
  have e:((2^k:Nat):Int)=(2:Int)^k:=by simp
  omega
 rw[hq,Nat.or_comm,<-Nat.two_pow_add_eq_or_of_lt hx,<-hq];simp only[dO];omega
end Go.Ab
namespace Go.Proofs.YtldgljclcgaibaaGreat
open Go.Ab
abbrev okW (h l:Int):Prop:= -9223372036854775808<=h/\h<=9223372036854775807/\0<=l/\l<18446744073709551616
abbrev vW (h l:Int):Int:=h*18446744073709551616+l
theorem aYf (x:Int)(h0: -9223372036854775808<=x)(h1:x<=9223372036854775807):∃h l,Wg x=some (h,l)/\okW h l/\vW h l=x:=by
 unfold vW;simp only[Wg,asQ,Pg.cg,Pg.bS,Pg.cG,Pg.fD,Pg.eL];try delta wI wU
 refine⟨_,_,rfl,?_,?_⟩<;>rw[wrap_u64,rN _ _ (by omega)]<;>omega
theorem P3 (x y c:Int)(x0:0<=x)(y0:0<=y)(c0:0<=c)(c1:c<=1):Df x y c=some ((x+y+c)%18446744073709551616,(x+y+c)/18446744073709551616):=by
 unfold Df;have h:wd c.toNat 1=true:=aDu (by omega);rw[h,bz];congr 1
 unfold aXP aXQ;simp only[dO,qU];constructor<;>omega
theorem ayM (h1 l1 h2 l2:Int)(o1:okW h1 l1)(o2:okW h2 l2):∃h l b,KR h1 l1 h2 l2=some ((h,l),b)/\okW h l/\(b=true↔ -170141183460469231731687303715884105728<=vW h1 l1+vW h2 l2/\vW h1 l1+vW h2 l2<170141183460469231731687303715884105728)/\(b=true->vW h l=vW h1 l1+vW h2 l2):=by
 obtain⟨a1,a2,a3,a4⟩:=o1;obtain⟨b1,b2,b3,b4⟩:=o2;unfold vW;simp only[KR,aly,Pg.cg,Pg.bS,Pg.cG,Pg.fD,Pg.eL];try delta wI wU
 rw[P3 l1 l2 0 a3 b3 (by omega) (by omega)];simp only[bL,wrap_u64];rw[P3 _ _ _ (by omega) (by omega) (by omega) (by omega)];simp only[bL];generalize hc:(l1+l2+0)/18446744073709551616=c
 generalize hl:(l1+l2+0)%18446744073709551616=l
 generalize hm:(h1%18446744073709551616+h2%18446744073709551616+c)%18446744073709551616=m
 have hw:=G4 m;generalize IntKind.wrap IntKind.i64 m=w at*
 have hw1:w=m∨w=m-18446744073709551616:=by split at hw<;>omega
 have hw2: -9223372036854775808<=w/\w<=9223372036854775807:=by split at hw<;>omega
 by_cases n1:h1<0
 .by_cases n2:h2<0
  .have e:(!decide (h1<0)==decide (h2<0))=false:=by simp[n1,n2]
   simp only[e,bH];refine⟨w,l,_,rfl,⟨hw2.1,hw2.2,by omega,by omega⟩,?_,?_⟩
   .simp only[n1,I0,beq_true,lC];constructor<;>intro h<;>omega
   .simp only[n1,I0,beq_true,lC];intro h;omega
  .have e:(!decide (h1<0)==decide (h2<0))=true:=by simp[n1,n2]
   simp only[e,bz];refine⟨w,l,_,rfl,⟨hw2.1,hw2.2,by omega,by omega⟩,?_,?_⟩
   .simp only[true_iff];constructor<;>omega
   .intro h;omega
 .by_cases n2:h2<0
  .have e:(!decide (h1<0)==decide (h2<0))=true:=by simp[n1,n2]
   simp only[e,bz];refine⟨w,l,_,rfl,⟨hw2.1,hw2.2,by omega,by omega⟩,?_,?_⟩
   .simp only[true_iff];constructor<;>omega
   .intro h;omega
  .have e:(!decide (h1<0)==decide (h2<0))=false:=by simp[n1,n2]
   simp only[e,bH];refine⟨w,l,_,rfl,⟨hw2.1,hw2.2,by omega,by omega⟩,?_,?_⟩
   .simp only[n1,JQ,_root_.beq_false,pn,aa8];constructor<;>intro h<;>omega
   .simp only[n1,JQ,_root_.beq_false,pn,aa8];intro h;omega
theorem aIK (h l:Int)(o:okW h l):∃ah al,Fk h l=some ((ah,al),decide (h<0))/\0<=ah/\ah<=9223372036854775808/\0<=al/\al<18446744073709551616/\ah*18446744073709551616+al=(if h<0 then -vW h l else vW h l):=by
 obtain⟨a1,a2,a3,a4⟩:=o;unfold vW;simp only[Fk,ali,Pg.cg,Pg.bS,Pg.cG,Pg.fD,Pg.eL];try delta wI wU
 by_cases n:h<0
 .have e:decide (h>=0)=false:=dm (by omega);simp only[e,bH,ae5 l a3 a4,wrap_u64];rw[ae5 (h%18446744073709551616) (by omega) (by omega),P3 _ _ _ (by omega) (by omega) (by omega) (by omega)];simp only[bL,n,I0,me];refine⟨_,_,rfl,?_,?_,?_,?_,?_⟩<;>omega
 .have e:decide (h>=0)=true:=eT (by omega);simp only[e,bz,wrap_u64,n,JQ,gB];refine⟨_,_,rfl,?_,?_,?_,?_,?_⟩<;>omega
theorem aIL (h1 l1 h2 l2:Int)(a0:0<=h1)(b0:0<=l1)(c0:0<=h2)(d0:0<=l2)(b1:l1<18446744073709551616)(d1:l2<18446744073709551616):
  jJ h1 l1 h2 l2=some ((h1+h2+(l1+l2)/18446744073709551616)%18446744073709551616,(l1+l2)%18446744073709551616):=by
 simp only[jJ,Ow,Pg.cg,Pg.bS,Pg.cG,Pg.fD,Pg.eL];try delta wI wU
 rw[P3 _ _ _ b0 d0 (by omega) (by omega)];simp only[bL,Int.add_zero];rw[P3 _ _ _ a0 c0 (by omega) (by omega)];rfl
theorem aYg (n:Nat)(hn:n<126):ix 0 1 (wl n)=some (2^n/18446744073709551616,2^n%18446744073709551616):=by
 have key:∀n:Fin 126,ix 0 1 (wl n.val)=some ((2:Int)^n.val/18446744073709551616,(2:Int)^n.val%18446744073709551616):=by decide+kernel
 exact key ⟨n,hn⟩
theorem na (n:Nat):(0:Int)<2^n:=Int.pow_pos (by decide)
theorem awE (h l:Int)(s:Nat)(hs:s<=126)(h0:0<=h)(h1:h<18446744073709551616)(l0:0<=l)(l1:l<18446744073709551616):
  ∃h' l',jD h l (wl s)=some (h',l')/\0<=h'/\0<=l'/\l'<18446744073709551616/\h'*18446744073709551616+l'=(h*18446744073709551616+l)/2^s:=by
 simp only[jD,I4,Pg.cg,Pg.bS,Pg.cG,Pg.fD,Pg.eL];try delta wI wU
 by_cases c:64<=s
 .have e:decide (wl s>=64)=true:=by simp only[dO];exact eT (by omega)
  have e2:IntKind.wrap .i64 (wl s-64)=wl (s-64):=(wrap_i64 (by simp only[dO];omega) (by simp only[dO];omega)).trans (by simp only[dO];omega);have e3:(!decide (wl (s-64)<0))=true:=by simp
  have e4:min (ws (wl (s-64))) 64=s-64:=by
   show min (s-64) 64=s-64;omega
  simp only[e,e2,e3,e4,bz];rw[rN _ _ (pC (na _))];refine⟨_,_,rfl,by omega,Ec h0 (pC (na _)),Int.lt_of_le_of_lt (axk _ h0) h1,?_⟩
  have p:(2:Int)^s=18446744073709551616*2^(s-64):=by
   rw[show(18446744073709551616:Int)=2^64 from rfl,<-Int.pow_add];congr 1;omega
  rw[p,<-Int.ediv_ediv_of_nonneg (by decide)];have:(h*18446744073709551616+l)/18446744073709551616=h:=by omega
  rw[this];omega
 .have e:decide (wl s>=64)=false:=by simp only[dO];exact dm (by omega)
  have e2:IntKind.wrap .i64 (64-wl s)=wl (64-s):=(wrap_i64 (by simp only[dO];omega) (by simp only[dO];omega)).trans (by simp only[dO];omega);have e3:∀n,(!decide (wl n<0))=true:=by simp
  have e4:min (ws (wl (64-s))) 64=64-s:=by
   show min (64-s) 64=64-s;omega
  have e5:min (ws (wl s)) 64=s:=by
   show min s 64=s;omega
  simp only[e,e2,e3,e4,e5,bz,bH,wrap_u64];rw[rN _ _ (pC (na _)),rN _ _ (pC (na _))]
  have pq:(18446744073709551616:Int)=2^s*2^(64-s):=by
   rw[<-Int.pow_add,show s+(64-s)=64 by omega];rfl
  generalize hP:(2:Int)^s=P at*
  generalize hQ:(2:Int)^(64-s)=Q at*
  have P0:0<P:=by rw[<-hP];exact na s
  have Q0:0<Q:=by rw[<-hQ];exact na (64-s)
  have m:h*Q%18446744073709551616=h%P*Q:=by
   rw[pq,AE h Q,AE P Q,Int.mul_emod_mul_of_pos _ _ Q0,AE]
  have x0:0<=l/P:=Ec l0 (pC P0);have x1:l/P<Q:=aa9 P0 (by rw[AE,<-pq];exact l1);have y0:0<=h%P:=abd _ (by omega);have y1:h%P<P:=VG _ P0
  have y2:h%P*Q+Q<=18446744073709551616:=by
   have:(h%P+1)*Q<=P*Q:=apQ (by omega) (pC Q0);rw[afy,<-pq] at this;omega
  have y3:0<=h%P*Q:=JO y0 (pC Q0)
  have key:wl (v4 (v9 64 (l/P)|||v9 64 (h*Q%18446744073709551616)))=l/P+h%P*Q:=by
   rw[m];exact ayL _ _ (64-s) x0 (by rw[hQ];exact x1) y3 (by omega) (by omega) (by rw[hQ];exact Int.mul_emod_left _ _)
  rw[key];have z:(l/P+h%P*Q)%18446744073709551616=l/P+h%P*Q:=Fa (by omega) (by omega);rw[z];refine⟨_,_,rfl,Ec h0 (pC P0),by omega,by omega,?_⟩
  have f1:(h*18446744073709551616+l)/P=h*Q+l/P:=by
   rw[pq,show h*(P*Q)+l=l+h*Q*P by rw[AE P Q,<-akJ,Int.add_comm],Int.add_mul_ediv_right _ _ (by omega)];omega
  have f2:h/P*18446744073709551616=h/P*P*Q:=by rw[pq,akJ]
  have f3:h/P*P+h%P=h:=Int.ediv_mul_add_emod h P;rw[f1,f2];have f4:(h/P*P+h%P)*Q=h*Q:=by rw[f3]
  rw[afy] at f4;omega
theorem NC (h l:Int)(neg:Bool)(h0:0<=h)(l0:0<=l)(l1:l<18446744073709551616):
  jK h l neg=if h*18446744073709551616+l<=(if neg=true then 9223372036854775808 else 9223372036854775807) then some (if neg=true then -l else l,true) else some (0,false):=by
 simp only[jK,Oz,Pg.cg,Pg.bS,Pg.cG,Pg.fD,Pg.eL];try delta wI wU
 by_cases c:h=0
 .subst c;have e:((0:Int)!=0)=false:=rfl;simp only[e,bH,afx,aso];cases neg
  .by_cases d:l>9223372036854775807
   .have d2:¬l<=9223372036854775807:=by omega
    simp[d,d2]
   .have d2:l<=9223372036854775807:=by omega
    simp only[Bool.not_false,bz,d,JQ,bH,xE,gB,d2,me];rw[wrap_i64 (by omega) d2]
  .by_cases d:l>9223372036854775808
   .have d2:¬l<=9223372036854775808:=by omega
    simp[d,d2]
   .have d2:l<=9223372036854775808:=by omega
    have e3:IntKind.wrap .i64 (IntKind.wrap .u64 (0-l))= -l:=by
     rw[wrap_u64,G4];split<;>omega
    have e4:IntKind.wrap .i64 (IntKind.wrap .u64 (-l))= -l:=by
     rw[wrap_u64,G4];split<;>omega
    simp[d,d2,e3,e4]
 .have e:(h !=0)=true:=by simp[c]
  have d2:¬h*18446744073709551616+l<=(if neg=true then 9223372036854775808 else 9223372036854775807):=by split<;>omega
  simp only[e,bz,d2,gB]
def half (s:Nat):Int:=if s=0 then 0 else 2^(s-1)
def ND (v:Int)(s:Nat):Int:=if v<0 then -((-v+half s)/2^s) else(v+half s)/2^s
theorem aOw (s:Nat)(hs:s<=126):0<=half s/\half s<=42535295865117307932921825928971026432:=by
 unfold half;split
 .omega
 .refine⟨pC (na _),?_⟩
  have:(2:Int)^(s-1)<=2^125:=by
   have h2:(2:Nat)^(s-1)<=2^125:=Nat.pow_le_pow_right (by decide) (by omega);have h3:((2^(s-1):Nat):Int)<=((2^125:Nat):Int):=by exact_mod_cast h2
   simpa using h3
  exact this
theorem wide_round (h l:Int)(s:Nat)(hs:s<=126)(o:okW h l):
  rW h l (wl s)=if -9223372036854775808<=ND (vW h l) s/\ND (vW h l) s<=9223372036854775807 then some (ND (vW h l) s,true) else some (0,false):=by
 simp only[rW,abt,Pg.cg,Pg.bS,Pg.cG,Pg.fD,Pg.eL];try delta wI wU
 obtain⟨ah,al,e1,a0,a1,a2,a3,a4⟩:=aIK h l o;have n0:decide (wl s<0)=false:=by simp
 have n1:decide (wl s>126)=false:=by simp only[dO];exact dm (by omega)
 simp only[n0,n1,bH,e1,bL];obtain⟨hh0,hh1⟩:=aOw s hs
 have fin:∀h' l':Int,0<=h'->0<=l'->l'<18446744073709551616->h'*18446744073709551616+l'=((if h<0 then -vW h l else vW h l)+half s)/2^s->
   (jK h' l' (decide (h<0))).bind (λd=>some (d.fst,d.snd))=if -9223372036854775808<=ND (vW h l) s/\ND (vW h l) s<=9223372036854775807 then some (ND (vW h l) s,true) else some (0,false):=by
  intro h' l' b0 b1 b2 b3;rw[NC h' l' _ b0 b1 b2];obtain⟨o1,o2,o3,o4⟩:=o;by_cases n:h<0
  .have nv:vW h l<0:=by show h*18446744073709551616+l<0;omega
   simp only[n,I0,me] at b3 ⊢;unfold ND;simp only[nv,me];rw[<-b3];by_cases c:h'*18446744073709551616+l'<=9223372036854775808
   .rw[if_pos c,if_pos (by omega)];simp only[bL,je,qU,BJ];omega
   .rw[if_neg c,if_neg (by omega)];rfl
  .have nv:¬vW h l<0:=by show ¬h*18446744073709551616+l<0;omega
   simp only[n,JQ,gB,xE] at b3 ⊢;unfold ND;simp only[nv,gB];rw[<-b3];by_cases c:h'*18446744073709551616+l'<=9223372036854775807
   .rw[if_pos c,if_pos (by omega)];simp only[bL,je,qU,BJ];omega
   .rw[if_neg c,if_neg (by omega)];rfl
 by_cases z:s=0
 .subst z;have n2:decide (wl 0>0)=false:=by decide
  simp only[n2,bH];obtain⟨h',l',e2,b0,b1,b2,b3⟩:=awE ah al 0 (by omega) a0 (by omega) a2 a3;rw[e2];simp only[bL];exact fin h' l' b0 b1 b2 (by rw[b3,a4];simp[half])
 .have n2:decide (wl s>0)=true:=by simp only[dO];exact eT (by omega)
  simp only[n2,bz];have n3:IntKind.wrap .i64 (wl s-1)=wl (s-1):=(wrap_i64 (by simp only[dO];omega) (by simp only[dO];omega)).trans (by simp only[dO];omega);have hf:half s=2^(s-1):=by unfold half;rw[if_neg z]
  rw[n3,aYg (s-1) (by omega),<-hf];simp only[bL];rw[aIL _ _ _ _ a0 a2 (by omega) (by omega) a3 (by omega)];simp only[bL];obtain⟨h',l',e2,b0,b1,b2,b3⟩:=awE ((ah+half s/18446744073709551616+(al+half s%18446744073709551616)/18446744073709551616)%18446744073709551616) ((al+half s%18446744073709551616)%18446744073709551616) s hs (by omega) (by omega) (by omega) (by omega);rw[e2];simp only[bL];refine fin h' l' b0 b1 b2 ?_;rw[b3,<-a4];congr 1
  omega
def sat (x:Int):Int:=if x< -1152921504606846976 then -1152921504606846976 else if 1152921504606846976<x then 1152921504606846976 else x
def fU (x:Int):Bool:=decide (x< -1152921504606846976)||decide (1152921504606846976<x)
theorem qD (x:Int): -1152921504606846976<=sat x/\sat x<=1152921504606846976:=by
 unfold sat;split<;>(try split)<;>omega
theorem qN (x:Int)(fO:Bool):aR x fO=some (sat x,fO||fU x):=by
 simp only[aR,abo,bc,ya,Pg.cg,Pg.bS,Pg.cG,Pg.fD,Pg.eL];try delta wI wU
 unfold sat fU;have e:decide ((-1152921504606846976:Int)>1152921504606846976)=false:=by decide
 by_cases c:x< -1152921504606846976
 .simp[e,c]
 .by_cases d:1152921504606846976<x
  .have d2:x>1152921504606846976:=d;simp[e,c,d]
  .simp[e,c,d]
theorem ae6 (a:Int)(ok neg fO:Bool):nU a ok neg fO=if ok=true then some (sat a,fO||fU a) else some (if neg=true then -1152921504606846976 else 1152921504606846976,true):=by
 simp only[nU,Ie,qY,V5,Pg.cg,Pg.bS,Pg.cG,Pg.fD,Pg.eL];try delta wI wU
 cases ok
 .cases neg<;>rfl
 .simp only[JP,bH,qN,bL,me]
theorem ahV (h l:Int)(s:Nat)(fO:Bool)(hs:s<=120)(o:okW h l):oq h l (wl s) fO=some (sat (ND (vW h l) s),fO||fU (ND (vW h l) s)):=by
 simp only[oq,SH,Pg.cg,Pg.bS,Pg.cG,Pg.fD,Pg.eL];try delta wI wU
 have n0:decide (wl s<0)=false:=by simp
 have n1:decide (wl s>120)=false:=by simp only[dO];exact dm (by omega)
 simp only[n0,n1,bH,wide_round h l s (by omega) o];by_cases c: -9223372036854775808<=ND (vW h l) s/\ND (vW h l) s<=9223372036854775807
 .simp only[c,and_self,me,bL,ae6]
 .rw[if_neg c];simp only[bL,ae6,xE,gB]
  have sg:(h<0->ND (vW h l) s<=0)/\(¬h<0->0<=ND (vW h l) s):=by
   obtain⟨o1,o2,o3,o4⟩:=o;obtain⟨hh0,hh1⟩:=aOw s (by omega);have p:=na s;unfold ND;refine⟨λn=> ?_,λn=> ?_⟩
   .have nv:vW h l<0:=by show h*18446744073709551616+l<0;omega
    rw[if_pos nv];have:0<=(-vW h l+half s)/2^s:=Ec (by omega) (pC p);omega
   .have nv:¬vW h l<0:=by show ¬h*18446744073709551616+l<0;omega
    rw[if_neg nv];exact Ec (by omega) (pC p)
  unfold sat fU;by_cases n:h<0
  .have:=sg.1 n;have c1:ND (vW h l) s< -1152921504606846976:=by omega
   simp[n,c1]
  .have:=sg.2 n;have c1:¬ND (vW h l) s< -1152921504606846976:=by omega
   have c2:1152921504606846976<ND (vW h l) s:=by omega
   simp[n,c1,c2]
theorem aoT (x:Int)(h0: -9223372036854775808<=x)(h1:x<=9223372036854775807):rV x=some (if x<0 then -x else x):=by
 simp only[rV,abp,Pg.cg,Pg.bS,Pg.cG,Pg.fD,Pg.eL];try delta wI wU
 by_cases c:x<0
 .simp only[c,I0,bz,me,wrap_u64];exact ck (some:Int->Option Int) (by omega)
 .simp only[c,JQ,bH,gB,wrap_u64];exact ck (some:Int->Option Int) (by omega)
theorem aoU {a b:Int}(a0:0<=a)(a1:a<=4294967295)(b0:0<=b)(b1:b<=4294967295):0<=a*b/\a*b<=18446744065119617025:=by
 refine⟨JO a0 b0,?_⟩;have:=Oe a1 b1 b0 (by omega);omega
theorem aTZ (x y:Int)(x0:0<=x)(x1:x<18446744073709551616)(y0:0<=y)(y1:y<18446744073709551616):Ib x y=some (x*y/18446744073709551616,x*y%18446744073709551616):=by
 simp only[Ib,abr,Pg.cg,Pg.bS,Pg.cG,Pg.fD,Pg.eL];try delta wI wU
 rw[aoS x x0 x1,aoS y y0 y1];simp only[rN _ 4294967296 (by decide),wrap_u64];have xe:x=x/4294967296*4294967296+x%4294967296:=by omega
 have ye:y=y/4294967296*4294967296+y%4294967296:=by omega
 have xh:0<=x/4294967296/\x/4294967296<=4294967295:=by omega
 have yh:0<=y/4294967296/\y/4294967296<=4294967295:=by omega
 have xl:0<=x%4294967296/\x%4294967296<=4294967295:=by omega
 have yl:0<=y%4294967296/\y%4294967296<=4294967295:=by omega
 have hxy:x*y=(x/4294967296)*(y/4294967296)*18446744073709551616+((x/4294967296)*(y%4294967296)+(x%4294967296)*(y/4294967296))*4294967296+(x%4294967296)*(y%4294967296):=by
  conv=>lhs;rw[xe,ye]
  generalize x/4294967296=a
  generalize x%4294967296=b
  generalize y/4294967296=c
  generalize y%4294967296=d
  rw[afy,Int.mul_add,Int.mul_add,afy];rw[show a*4294967296*(c*4294967296)=a*c*18446744073709551616 by rw[akJ,Int.mul_left_comm 4294967296 c,<-akJ,show(4294967296:Int)*4294967296=18446744073709551616 from rfl]];rw[show a*4294967296*d=a*d*4294967296 by rw[akJ,AE 4294967296 d,<-akJ],show b*(c*4294967296)=b*c*4294967296 by rw[akJ]];omega
 obtain⟨A0,A1⟩:=aoU xh.1 xh.2 yh.1 yh.2;obtain⟨B0,B1⟩:=aoU xh.1 xh.2 yl.1 yl.2;obtain⟨C0,C1⟩:=aoU xl.1 xl.2 yh.1 yh.2;obtain⟨D0,D1⟩:=aoU xl.1 xl.2 yl.1 yl.2;simp only[Fa xl.1 (show x%4294967296<18446744073709551616 by omega),Fa yl.1 (show y%4294967296<18446744073709551616 by omega)];rw[hxy];generalize x/4294967296*(y/4294967296)=A at*
 generalize x/4294967296*(y%4294967296)=B at*
 generalize x%4294967296*(y/4294967296)=C at*
 generalize x%4294967296*(y%4294967296)=D at*
 have r1:A%18446744073709551616=A:=Fa A0 (by omega);have r2:B%18446744073709551616=B:=Fa B0 (by omega);have r3:C%18446744073709551616=C:=Fa C0 (by omega);have r4:D%18446744073709551616=D:=Fa D0 (by omega);simp only[r1,r2,r3,r4];have r5:(B+D/4294967296)%18446744073709551616=B+D/4294967296:=Fa (by omega) (by omega);simp only[r5];rw[aoS (B+D/4294967296) (by omega) (by omega)];have r6:(B+D/4294967296)%4294967296%18446744073709551616=(B+D/4294967296)%4294967296:=Fa (by omega) (by omega);simp only[r6];have r7:((B+D/4294967296)%4294967296+C)%18446744073709551616=(B+D/4294967296)%4294967296+C:=Fa (by omega) (by omega);simp only[r7];refine ck some (Prod.ext ?_ rfl);simp only;omega
theorem aLd (h l:Int)(neg:Bool)(h0:0<=h)(h1:h<9223372036854775808)(l0:0<=l)(l1:l<18446744073709551616):
  ∃h' l' b,nT h l neg=some ((h',l'),b)/\okW h' l'/\vW h' l'=if neg=true then -(h*18446744073709551616+l) else h*18446744073709551616+l:=by
 simp only[nT,LO,Pg.cg,Pg.bS,Pg.cG,Pg.fD,Pg.eL];try delta wI wU
 cases neg
 .refine⟨_,_,_,rfl,?_,?_⟩
  .rw[wrap_i64 (by omega) (by omega)];omega
  .rw[wrap_i64 (by omega) (by omega)];rfl
 .simp only[JP,bH,ae5 l l0 l1,wrap_u64,ae5 h h0 (by omega)];rw[P3 _ _ _ (by omega) (by omega) (by omega) (by omega)];simp only[bL];generalize hm:(18446744073709551615-h)%18446744073709551616+((18446744073709551615-l)%18446744073709551616+1+0)/18446744073709551616=m
  have hw:=G4 (m%18446744073709551616);generalize IntKind.wrap IntKind.i64 (m%18446744073709551616)=w at*
  have ok:okW w (((18446744073709551615-l)%18446744073709551616+1+0)%18446744073709551616)/\vW w (((18446744073709551615-l)%18446744073709551616+1+0)%18446744073709551616)= -(h*18446744073709551616+l):=by
   unfold vW;refine⟨⟨?_,?_,?_,?_⟩,?_⟩<;>(split at hw<;>omega)
  cases decide (w<0)
  .exact⟨_,_,_,rfl,ok.1,by simp only[me];exact ok.2⟩
  .exact⟨_,_,_,rfl,ok.1,by simp only[me];exact ok.2⟩
theorem D8 (a b:Int)(a0: -9223372036854775808<=a)(a1:a<=9223372036854775807)(b0: -9223372036854775808<=b)(b1:b<=9223372036854775807):∃h l,fP a b=some (h,l)/\okW h l/\vW h l=a*b:=by
 simp only[fP,alf,Pg.cg,Pg.bS,Pg.cG,Pg.fD,Pg.eL];try delta wI wU
 simp only[aoT a a0 a1,aoT b b0 b1,bL];generalize hx:(if a<0 then -a else a)=x
 generalize hy:(if b<0 then -b else b)=y
 have x0:0<=x/\x<=9223372036854775808:=by rw[<-hx];split<;>omega
 have y0:0<=y/\y<=9223372036854775808:=by rw[<-hy];split<;>omega
 have hp:0<=x*y:=JO x0.1 y0.1
 have hq:x*y<=85070591730234615865843651857942052864:=by
  have:=Oe x0.2 y0.2 y0.1 (by omega);omega
 rw[aTZ x y x0.1 (by omega) y0.1 (by omega)];simp only[bL];obtain⟨h,l,c,e1,e2,e3⟩:=aLd (x*y/18446744073709551616) (x*y%18446744073709551616) (!decide (a<0)==decide (b<0)) (by omega) (by omega) (by omega) (by omega);rw[e1];simp only[bL];refine⟨h,l,rfl,e2,?_⟩;have e4:x*y/18446744073709551616*18446744073709551616+x*y%18446744073709551616=x*y:=by omega
 rw[e3,e4];by_cases p:a<0
 .by_cases q:b<0
  .rw[if_pos p] at hx;rw[if_pos q] at hy;simp only[p,q,I0];rw[if_neg (by decide)];rw[<-hx,<-hy,Int.neg_mul_neg]
  .rw[if_pos p] at hx;rw[if_neg q] at hy;simp only[p,q,I0,JQ];rw[if_pos (by decide)];rw[<-hx,<-hy,Int.neg_mul,Int.neg_neg]
 .by_cases q:b<0
  .rw[if_neg p] at hx;rw[if_pos q] at hy;simp only[p,q,I0,JQ];rw[if_pos (by decide)];rw[<-hx,<-hy,Int.mul_neg,Int.neg_neg]
  .rw[if_neg p] at hx;rw[if_neg q] at hy;simp only[p,q,JQ];rw[if_neg (by decide)];rw[<-hx,<-hy]
theorem aOx (a b:Int)(s:Nat)(fO:Bool)(hs:s<=120):aV a b (wl s) fO=some (sat (ND (sat a*sat b) s),fO||fU a||fU b||fU (ND (sat a*sat b) s)):=by
 simp only[aV,abw,Pg.cg,Pg.bS,Pg.cG,Pg.fD,Pg.eL];try delta wI wU
 have:=qD a;have:=qD b;obtain⟨h,l,e1,e2,e3⟩:=D8 (sat a) (sat b) (by omega) (by omega) (by omega) (by omega);simp only[qN,bL,e1,ahV h l s _ hs e2,e3]
theorem ahW (f g:Nat->Int)(w:Bool)(o1:okW (f 0) (g 0))(o2:okW (f 1) (g 1))(r0: -170141183460469231731687303715884105728<=vW (f 0) (g 0)+vW (f 1) (g 1))(r1:vW (f 0) (g 0)+vW (f 1) (g 1)<170141183460469231731687303715884105728):
  ∃h l,lr 2 f g w=some ((h,l),true)/\okW h l/\vW h l=vW (f 0) (g 0)+vW (f 1) (g 1):=by
 simp only[lr,ZT,Pg.cg,Pg.bS,Pg.cG,Pg.fD,Pg.eL];try delta wI wU
 unfold Ik;rw[show ww 2 2=true from rfl,bz,ak7];obtain⟨h1,l1,b1,e1,a1,c1,d1⟩:=ayM 0 0 (f 0) (g 0) ⟨by omega,by omega,by omega,by omega⟩ o1
 have t1:b1=true:=by
  rw[c1];obtain⟨p1,p2,p3,p4⟩:=o1;simp only[vW];omega
 subst t1;have d1:=d1 rfl;obtain⟨h2,l2,b2,e2,a2,c2,d2⟩:=ayM h1 l1 (f 1) (g 1) a1 o2;have z:vW 0 0=0:=rfl;have t2:b2=true:=by rw[c2,d1,z];omega
 subst t2;have d2:=d2 rfl;refine⟨h2,l2,?_,a2,by rw[d2,d1,z];omega⟩;have k0:decide ((0:Int)<wl 2)=true:=by decide
 have k1:bb 0 2=true:=by decide
 have k2:IntKind.wrap .i64 (0+1)=1:=by decide
 have k3:decide ((1:Int)<wl 2)=true:=by decide
 have k4:bb 1 2=true:=by decide
 have k5:IntKind.wrap .i64 (1+1)=2:=by decide
 have k6:decide ((2:Int)<wl 2)=false:=by decide
 have k7:ws 0=0:=rfl;have k8:ws 1=1:=rfl;rw[ZK];simp only[DW,Pg.wE,Pg.wF,Pg.AM,Pg.Gq,Pg.wG,qV,mZ,wI,k0,k1,k2,k7,bz,e1,bL,JP,bH];rw[ZK];simp only[k3,k4,k5,k8,bz,e2,bL,JP,bH];rw[ZK];simp only[k6,bH,mZ]
def As (f:Nat->Int):Nat->Int
 |0=>0
 |n+1=>As f n+f n
def Gk (f:Nat->Bool):Nat->Bool
 |0=>false
 |n+1=>Gk f n||f n
theorem aou (f:Nat->Int)(B:Int)(hB:0<=B)(n:Nat)(h:∀j,j<n-> -B<=f j/\f j<=B): -(n*B)<=As f n/\As f n<=n*B:=by
 induction n with
 |zero=>simp[As]
 |succ n ih=>
  have:=ih λj hj=>h j (by omega)
  have h2:=h n (by omega);have e:((n+1:Nat):Int)*B=n*B+B:=by rw[Int.natCast_add,afy];simp
  rw[e,As];omega
theorem aIM (v:Int):ND v 0=v:=by
 unfold ND half;simp only[me,Int.add_zero];have:(2:Int)^0=1:=rfl;rw[this,Int.ediv_one,Int.ediv_one];split<;>omega
theorem awF {i n t:Nat}(h:i+t=n)(ht:0<t):decide (wl i<wl n)=true:=by simp only[dO];exact eT (by omega)
theorem awG {i n:Nat}(h:n<=i):decide (wl i<wl n)=false:=by simp only[dO];exact dm (by omega)
theorem awH {i n:Nat}(h:i<n):bb (wl i) n=true:=by unfold bb;simp only[dO,cx,lC];omega
theorem awI {i:Nat}(h:i<9000000000000000000):IntKind.wrap .i64 (wl i+1)=wl (i+1):=(wrap_i64 (by simp only[dO];omega) (by simp only[dO];omega)).trans rfl
theorem aYh (n:Nat)(hn:n<=1900)(fO:Bool)(l:Nat->Int)(w:Bool):
  db n fO l w=some (sat (As (λj=>sat (l j)) n),(fO||Gk (λj=>fU (l j)) n)||fU (As (λj=>sat (l j)) n)):=by
 simp only[db,abG,Pg.cg,Pg.bS,Pg.cG,Pg.fD,Pg.eL];try delta wI wU
 unfold SK;rw[Lv,bz]
 refine Ot (λt d=>∃(i:Nat) (h l':Int),i+t=n/\okW h l'/\vW h l'=As (λj=>sat (l j)) i/\d=(((n,w),wl n,wl i),(fO||Gk (λj=>fU (l j)) i),l,h,l')) ?_ 2000 n _ (by omega)
  ⟨0,0,0,by omega,⟨by omega,by omega,by omega,by omega⟩,rfl,by simp only[Gk,Sr];rfl⟩
 rintro t _ c ⟨i,h,l',hi,ho,hv,rfl⟩ hc
 have bnd:=aou (λj=>sat (l j)) 1152921504606846976 (by omega) i (λj _=>qD _);rcases aba t with t0|t0
 .have e:i=n:=by omega
  subst e;have r:=ahV h l' 0;have r2:=wide_round h l' 0 (by omega) ho;rw[aIM] at r2;have r3:wl 0=0:=rfl;rw[r3] at r2;simp only[Jb,Pg.wE,Pg.wF,Pg.AM,Pg.Gq,Pg.wG,qV,mZ,wI,awG (dq i),bH,r2];by_cases k: -9223372036854775808<=vW h l'/\vW h l'<=9223372036854775807
  .rw[if_pos k];simp only[me,bL,ae6,hv]
  .rw[if_neg k];simp only[bL,ae6,xE,gB];rw[<-hv];unfold sat fU;by_cases ng:h<0
   .have c1:vW h l'< -1152921504606846976:=by
     obtain⟨o1,o2,o3,o4⟩:=ho;simp only[vW] at*;omega
    simp[ng,c1]
   .have c1:¬vW h l'< -1152921504606846976:=by
     obtain⟨o1,o2,o3,o4⟩:=ho;simp only[vW] at*;omega
    have c2:1152921504606846976<vW h l':=by
     obtain⟨o1,o2,o3,o4⟩:=ho;simp only[vW] at*;omega
    simp[ng,c1,c2]
 .have hs:=qD (l i);obtain⟨h1,l1,e1,o1,v1⟩:=aYf (sat (l i)) (by omega) (by omega)
  obtain⟨h2,l2,e2,o2,v2⟩:=ahW (λj:Nat=>bif ww j 1 then h1 else bif ww j 0 then h else h) (λj:Nat=>bif ww j 1 then l1 else bif ww j 0 then l' else l') true
   ho o1 (by show _<=vW h l'+vW h1 l1;rw[hv,v1];omega) (by show vW h l'+vW h1 l1<_;rw[hv,v1];omega)
  have v2:vW h2 l2=vW h l'+vW h1 l1:=v2;rw[hv,v1] at v2;have q:ws (wl i)=i:=rfl;simp only[Jb,Pg.wE,Pg.wF,Pg.AM,Pg.Gq,Pg.wG,qV,mZ,wI,awF hi t0,awH (show i<n by omega),bz,q,qN,bL,e1,e2,awI (show i<9000000000000000000 by omega)];refine hc (t-1) _ (by omega) ⟨i+1,h2,l2,by omega,o2,v2,?_⟩;simp only[Gk,Bool.or_assoc]
theorem ae7 (a b:Int): -1329227995784915872903807060280344576<=sat a*sat b/\sat a*sat b<=1329227995784915872903807060280344576:=by
 have h1:=qD a;have h2:=qD b;generalize sat a=x at*
 generalize sat b=y at*
 have key:∀u v:Int,0<=u->u<=1152921504606846976->0<=v->v<=1152921504606846976->0<=u*v/\u*v<=1329227995784915872903807060280344576:=λu v u0 u1 v0 v1=>by
  refine⟨JO u0 v0,?_⟩;have:=Oe u1 v1 v0 (by omega);omega
 rcases axl 0 x with hx|hx<;>rcases axl 0 y with hy|hy
 .have:=key x y hx (by omega) hy (by omega);omega
 .have:=key x (-y) hx (by omega) (by omega) (by omega);rw[Int.mul_neg] at this;omega
 .have:=key (-x) y (by omega) (by omega) hy (by omega);rw[Int.neg_mul] at this;omega
 .have:=key (-x) (-y) (by omega) (by omega) (by omega) (by omega);rw[Int.neg_mul_neg] at this;omega
theorem aOy (s:Nat)(hs:s<=120)(n:Nat)(hn:n<=100)(fO:Bool)(f g:Nat->Int)(w w':Bool):
  bu (wl s) n n fO f g w w'=some (sat (ND (As (λj=>sat (f j)*sat (g j)) n) s),(fO||Gk (λj=>fU (f j)||fU (g j)) n)||fU (ND (As (λj=>sat (f j)*sat (g j)) n) s)):=by
 simp only[bu,ab3,Pg.cg,Pg.bS,Pg.cG,Pg.fD,Pg.eL];try delta wI wU
 unfold SV;have n0:decide (wl s<0)=false:=by simp
 have n1:decide (wl s>120)=false:=by simp only[dO];exact dm (by omega)
 have m:(if 100<if wl n<wl n then wl n else wl n then 100 else if wl n<wl n then wl n else wl n)=wl n:=by
  have e:¬wl n<wl n:=by omega
  rw[if_neg e,if_neg (by simp only[dO];omega)]
 rw[n0,n1,bH,bH,Lv,bz,bz,m]
 refine Ot (λt d=>∃(i:Nat) (h l':Int),i+t=n/\okW h l'/\vW h l'=As (λj=>sat (f j)*sat (g j)) i/\d=((wl s,(n,w),(n,w'),wl n,wl i),(fO||Gk (λj=>fU (f j)||fU (g j)) i),f,g,h,l')) ?_ 2000 n _ (by omega)
  ⟨0,0,0,by omega,⟨by omega,by omega,by omega,by omega⟩,rfl,by simp only[Gk,Sr];rfl⟩
 rintro t _ c ⟨i,h,l',hi,ho,hv,rfl⟩ hc
 have bnd:=aou (λj=>sat (f j)*sat (g j)) 1329227995784915872903807060280344576 (by omega) i (λj _=>ae7 _ _);rcases aba t with t0|t0
 .have e:i=n:=by omega
  subst e;simp only[Je,Pg.wE,Pg.wF,Pg.AM,Pg.Gq,Pg.wG,qV,mZ,wI,awG (dq i),bH,ahV h l' s _ hs ho,hv,bL]
 .have hs1:=qD (f i);have VN:=qD (g i);have hm:=ae7 (f i) (g i);obtain⟨h1,l1,e1,o1,v1⟩:=D8 (sat (f i)) (sat (g i)) (by omega) (by omega) (by omega) (by omega)
  obtain⟨h2,l2,e2,o2,v2⟩:=ahW (λj:Nat=>bif ww j 1 then h1 else bif ww j 0 then h else h) (λj:Nat=>bif ww j 1 then l1 else bif ww j 0 then l' else l') true
   ho o1 (by show _<=vW h l'+vW h1 l1;rw[hv,v1];omega) (by show vW h l'+vW h1 l1<_;rw[hv,v1];omega)
  have v2:vW h2 l2=vW h l'+vW h1 l1:=v2;rw[hv,v1] at v2;have q:ws (wl i)=i:=rfl;simp only[Je,Pg.wE,Pg.wF,Pg.AM,Pg.Gq,Pg.wG,qV,mZ,wI,awF hi t0,awH (show i<n by omega),bz,q,qN,bL,e1,e2,awI (show i<9000000000000000000 by omega)];refine hc (t-1) _ (by omega) ⟨i+1,h2,l2,by omega,o2,v2,?_⟩;simp only[Gk,Bool.or_assoc]
theorem aOz (x:Int):ND (x*1073741824) 30=x:=by
 unfold ND half;rw[if_neg (by omega:¬(30:Nat)=0),show(2:Int)^(30-1)=536870912 from rfl,show(2:Int)^30=1073741824 from rfl];split<;>omega
theorem aST {x:Int}(h: -1152921504606846976<=x/\x<=1152921504606846976):sat x=x/\fU x=false:=by
 unfold sat fU;have h1:¬x< -1152921504606846976:=by omega
 have h2:¬1152921504606846976<x:=by omega
 simp[h1,h2]
end Go.Proofs.YtldgljclcgaibaaGreat
