/-
  Parts of the proof: Q3
-/
import Derived.Test.YtldgljclcgaibaaGreatZAE
import Derived.Test.YtldgljclcgaibaaGreatZAG
open Nat renaming beq→ww,ble→wd
open Int renaming toNat→ws,ofNat→wl
open Sum renaming inl→wr,inr→wn
set_option linter.all false
set_option maxRecDepth 100000
set_option maxHeartbeats 4000000
noncomputable section
namespace Go.Proofs.YtldgljclcgaibaaGreat
open Go.Ab Go.Ab.Pg Go.Ab.Rq
def Lh:=qa (dp (cu aQ (c mc (c Ca (cl aKn nil)))) λa=>(c xV (cl (cl (gs a.b.1 aK2) nil) nil)))
def aL1:=qe (res (pr (sZ (c alq (c atm (cl (rc (jk (pu rq4 (pu wJ (pl mb (pu rq7 jL)))))) nil)))) (pr OA (cl aRt nil))))
abbrev R5:=((NI×(NI×NI)×Nat)×Bool×(Nat->Bool)×NI×NI)
def aBq:R5->T:=λd=>lf aL1 (d.1,d.2.1,d.1.b,d.b)
abbrev aBr:=Lh.B->Option R5
def aBs (g:aBr):Ct:=(254,vN 3 [.i .i64,.i .i64,.i .i64,.i .i64,.i .i64,.i .i64,.i .i64,.i .i64,.i .i64,.i .i64,.i .i64,.i .i64,.i .i64,.i .i64,.i .i64,.i .i64,.i .i64,.i .i64,.i .i64,.i .i64,.i .i64,.i .i64,.i .i64,.i .i64,.i .i64,.i .i64,.i .i64] (FC Lh aBq g))
def qk:=qs (st (dp (cu aQ (us 4 (cu EA (cu aI6 (us 1 (cu aqR (cu (app 5 300) (us 1 (c aXv (us 3 (c aKn aRb))))))))))) λa=>(pl (c cG (c (so (cl (gs a.2.1.1 aK2) nil)) (c oI (c jE (c oI (c jE (cl (so (cl (gs a.1 ati) nil)) nil))))))) cQ)))
def aIc:=qs (st (pr (cu aQ (us 4 (cu EA (cu aI6 (us 1 (cu aqR (cu (app 5 300) (us 1 (c aXv (us 3 (c aKn aRg))))))))))) (pl (c cG (c (so (cl (ga (pr mb aK2)) nil)) (c oI (c jE (c oI (c jE aXp)))))) cQ)))
abbrev D5:=((Nat×(Nat×Bool)×Int×Int×Bool)×Bool×(NI×NI×NI×NI×NI×NI×NI×NI×NI×NI×NI×NI×NI×NI×NI×NI×NI×NI×NI×NI×NI×NI×NI×NI×NI×NI×NI)×NI×(NI×NI)×NI×(NI×NI)×(Nat->Bool)×NI×NI)
def ar5 {ρ:Type}(x:D5)(K:AX->St->Option ρ):Option ρ:=(λd=>K (.ex 0) (aIc.em (d.1,d.2.1,(d.1.2.1.1,d.b.1),d.b.2.1,d.c.1,d.c.2.1,d.c.b.1,d.1.1,d.c.b.2))) x
def Re (aPz:anN)(d:qk.B):PL qk D5:=let aW:=d.1.1;let n5:=d.1.2.2;let n4:=d.2.2;let n7:=n4.2.2;let n3:=n4.1.2.2.2.2;let n8:=n3.2.2.2;let n1:=n8.2.2.2.2;let n9:=n1.2.2.2;let n2:=n9.2.2.2.2;let n6:=n2.2.2.2.2;let y0:=ws n5.2;let y1:=aW+1;let y2:=decide (n5.2<n5.1);ae y2 (ae (bk n5.2 d.1.2.1.1) (opt (aPz n4.2.1 n7.1.1 n7.1.2 (cr (n4.1.1 y0) [n6.2.1 y0,n6.1 y0,n2.2.2.2.1 y0,n2.2.2.1 y0,n2.2.1 y0,n2.1 y0,n9.2.2.2.1 y0,n9.2.2.1 y0,n9.2.1 y0,n9.1 y0,n1.2.2.1 y0,n1.2.1 y0,n1.1 y0,n8.2.2.2.1 y0,n8.2.2.1 y0,n8.2.1 y0,n8.1 y0,n3.2.2.1 y0,n3.2.1 y0,n3.1 y0,n4.1.2.2.2.1 y0,n4.1.2.2.1 y0,n4.1.2.1 y0,n4.1.1 y0]) (n6.2.2.1 y0) (n6.2.2.2.1 y0) (n6.2.2.2.2 y0) d.2.1) λaj=>ae (wd (y1*24) 140737488355328) (ret (wr ((y1,d.1.2.1,n5.1,wI (n5.2+1)),aj.2,n4.1,aj.1.1,aj.1.2.1,n7.2.1,n7.2.2.1,λj=>bif ww j aW then aj.1.2.2.1 else n7.2.2.2.1 j,λj=>bif ww j aW then aj.1.2.2.2.1 else n7.2.2.2.2.1 j,λj=>bif ww j aW then aj.1.2.2.2.2 else n7.2.2.2.2.2 j))) no) no) (ret (wn ((aW,d.1.2.1,n5.1,n5.2,y2),d.2)))
def adp:=bj (Re R4) 2000
def abn (eI:LT qk D5)(x:Lh.B):Pg R5:=ae (ww x.1.2.2.1 x.1.2.2.1) (ae true (opt (eI ((0,x.1.2.2,wl x.1.2.2.1,0),x.2.1,x.2.2,x.1.1,x.1.2.1,λx=>0,(λx=>0,λx=>0),λx=>false,λx=>0,λx=>0)) λd=>ret ((d.2.2.2.1,d.2.2.2.2.1,d.1.1),d.2.1,d.2.2.2.2.2.2.2)) no) no
def R6:=λx=>(abn adp x).val
abbrev abo:=anN×(LT qk D5)
def anO (p:abo):KK:=⟨[aBp p.1],⟨[⟨3,(rg 1 4 (7::10::12::13::14::rg 18 20 [])),[(11,[.b,.i .i64,.i .i64])]⟩],[gv 3 2 qk ar5 p.2],[0],[],(some ⟨0,(rg 0 8 (rg 11 27 [])),[]⟩)⟩,2,254⟩
theorem aGw (p:abo):LI (anO p) 3 qk ar5 (Re p.1):=λ_ d c K=>by kernel_rfl
theorem aPA (p:abo):D2 (anO p) Lh aBq λb=>abn p.2 b:=λb=>by kernel_rfl
abbrev anP:abo:=(R4,adp)
theorem aPB [ax]:SC (aBs R6):=sc (Sound.nil 3 [.i .i64,.i .i64,.i .i64,.i .i64,.i .i64,.i .i64,.i .i64,.i .i64,.i .i64,.i .i64,.i .i64,.i .i64,.i .i64,.i .i64,.i .i64,.i .i64,.i .i64,.i .i64,.i .i64,.i .i64,.i .i64,.i .i64,.i .i64,.i .i64,.i .i64,.i .i64,.i .i64]<|kS (k:=anO anP) (.c aPy (.nil _)) [3] [] ⟨kL (aGw anP),trivial⟩ trivial (aPA anP))
def ar6:=qa (dp (cl aQR nil) λa=>(cl (cl (gs a.1 ati) nil) nil))
def Yt:=qe aXm
abbrev ar7:=Yt.B
abbrev adq:=Nat->(Nat->Bool)->NI->NI->Bool->Option ar7
def adr (g:adq):Ct:=(255,vN 0 [.b,.i .i64,.i .i64] (FC ar6 (lf Yt) (λb=>g b.1.1 b.2.1 b.b.1 b.b.2 b.1.2)))
def o8:=qs (st (dp (us 2 (c ai (c ai (us 2 (c aQR (c ai aWy)))))) λa=>(pl (cl (so (cl (gs a.b.1.1 ati) nil)) nil) nil)))
def aCY:=qs (st (pr (us 2 (c ai (c ai (us 2 (c aQR (c ai aRa)))))) (pl aXp nil)))
abbrev Dz:=((Int×Int×(Nat×Bool)×Int×Int×Bool)×(Nat->Bool)×NI×NI)
def ajN {ρ:Type}(x:Dz)(K:AX->St->Option ρ):Option ρ:=(λd=>K (.ex 0) (aCY.em (d.1,d.1.b.1.1,d.2))) x
def T8 (d:o8.B):PL o8 Dz:=let n1:=d.1.2.2;let n2:=n1.2.2;let y0:=decide (n2<n1.2.1);ae y0 (ae (bk n2 n1.1.1) (ae (d.2.1 (ws n2)) (ret (wr ((wI (d.1.1+1),d.1.2.1,n1.1,n1.2.1,wI (n2+1)),d.2))) (ret (wr ((d.1.1,wI (d.1.2.1+1),n1.1,n1.2.1,wI (n2+1)),d.2)))) no) (ret (wn ((d.1.1,d.1.2.1,n1.1,n1.2.1,n2,y0),d.2)))
def T9:=bj (T8) 2000
def ads (eI:LT o8 Dz)(x0:Nat)(x1:Nat->Bool)(x2:Nat->Int)(x3:Nat->Int)(w0:Bool):Pg ar7:=ae (ww x0 x0) (opt (eI ((0,0,(x0,w0),wl x0,0),x1,x2,x3)) λd=>ret (d.1.1,d.1.2.1)) no
def Ak:=λx0 x1 x2 x3 w0=>(ads T9 x0 x1 x2 x3 w0).val
abbrev Rf:=(LT o8 Dz)
def adt (p:Rf):KK:=⟨[],⟨[⟨2,(0::1::4::5::rg 9 12 []),[]⟩],[gv 2 1 o8 ajN p],[],[],(some ⟨0,(0::1::rg 4 17 []),[]⟩)⟩,1,255⟩
theorem azh (p:Rf):LI (adt p) 2 o8 ajN (T8):=λ_ d c K=>by kernel_rfl
theorem aId (p:Rf):D2 (adt p) ar6 (lf Yt) λb=>ads p b.1.1 b.2.1 b.b.1 b.b.2 b.1.2:=λb=>by kernel_rfl
abbrev adu:Rf:=T9
theorem ar8 [ax]:SC (adr Ak):=sc (Sound.nil 0 [.b,.i .i64,.i .i64]<|kS (k:=adt adu) (.nil _) [2] [] ⟨kL (azh adu),trivial⟩ trivial (aId adu))
def ae0:=qa (pu nil nil)
def M9:=qe (res (pu (aa (cu atf (cu aL aK3))) (pu nil nil)))
abbrev Px:=M9.B
abbrev mY:=Option Px
def rM (g:mY):Ct:=(48,FC ae0 (lf M9) (λ_=>g))
def Py (jf:BW):Pg Px:=opt jf λd=>ret ()
def cP:Option Px:=(Py jV).val
theorem azi:∀jf,D0 [Lc jf] 48 ae0 (lf M9) λb=>Py jf:=λ_ b=>by kernel_rfl
theorem wz [ax]:SC (rM cP):=s0 (.c RT (.nil _)) (azi jV)
def ar9:=qa (dp (cu aQ (cl aQS nil)) λa=>(c xV (cl (cl (gs a.1 mR) nil) nil)))
def Yu:=qe (res (pr (aa aRB) (pl OA nil)))
abbrev adv:=Yu.B
abbrev adw:=Nat->Bool->NI->NI->NI->NI->NI->NI->NI->NI->NI->NI->Bool->Option adv
def asa (g:adw):Ct:=(113,vN 1 [.i .i64,.i .i64,.i .i64,.i .i64,.i .i64,.i .i64,.i .i64,.i .i64,.i .i64,.i .i64] (FC ar9 (lf Yu) (λb=>g b.1.1 b.2.1 b.b.1 b.b.2.1 b.c.1 b.c.2.1 b.c.b.1 b.c.b.2.1 b.d.1 b.d.2.1 b.d.b.1 b.d.b.2 b.1.2)))
def mZ:=qs (st (dp (cu aQ (us 3 (cu (app 2 10) (cu (app 3 10) (c aXw (c aXx (us 3 (c aQS (c ai aWz))))))))) λa=>(pl (c cG (c (so (cl (gs a.b.1.1 mR) nil)) (cu aYi (c aX9 (c (so (cl (gs a.1 ath) nil)) (cl aEm nil)))))) cQ)))
def aCZ:=qs (st (pr (cu aQ (us 3 (cu (app 2 10) (cu (app 3 10) (c aXw (c aXx (us 3 (c aQS (c ai aWN))))))))) (pl (c cG (c uV (cu aYi (c aX9 (c aEm (cl aEm nil)))))) cQ)))
abbrev yJ:=((Nat×Nat×(Nat×Bool)×Int×Int×Bool)×Bool×aNI×aI2×(NI×NI×NI)×Nat×NI×NI×NI)
def ajO {ρ:Type}(x:yJ)(K:AX->St->Option ρ):Option ρ:=(λd=>K (.ex 0) (aCZ.em (d.1,d.2.1,(d.1.b.1.1,d.b.1),d.b.2.1,(d.1.1,d.c.1),d.c.2))) x
def Jg (fq:zb)(bw:jo)(d:mZ.B):PL mZ yJ:=let n6:=d.1.1;let n2:=d.1.2;let n4:=n2.2.2;let n1:=d.2.2;let n5:=n1.2.2;let n3:=n1.1.2.2.2.2;let y0:=n6+1;let y1:=ws n4.2;let y2:=n2.1+1;let y3:=decide (n4.2<n4.1);ae y3 (ae (bk n4.2 n2.2.1.1) (opt (fq (n1.1.1 y1) (n1.1.2.1 y1) (n1.1.2.2.1 y1) (n1.1.2.2.2.1 y1) n1.2.1.1 n1.2.1.2.1 n1.2.1.2.2.1 n1.2.1.2.2.2 d.2.1) λaj=>opt (bw aj.1.1 aj.1.2.1 aj.1.2.2.1 aj.1.2.2.2 aj.2) λaC=>ae (wd (y0*24) 140737488355328) (ae (wd (y2*24) 140737488355328) (ret (wr ((y0,y2,n2.2.1,n4.1,wI (n4.2+1)),aC.2,n1.1,aC.1,(λj=>bif ww j n6 then n3.1 y1 else n5.1.1 j,λj=>bif ww j n6 then n3.2.1 y1 else n5.1.2.1 j,λj=>bif ww j n6 then n3.2.2.1 y1 else n5.1.2.2 j),y2,λj=>bif ww j n2.1 then n3.2.2.2.1 y1 else n5.2.2.1 j,λj=>bif ww j n2.1 then n3.2.2.2.2.1 y1 else n5.2.2.2.1 j,λj=>bif ww j n2.1 then n3.2.2.2.2.2 y1 else n5.2.2.2.2 j))) no) no) no) (ret (wn ((n6,n2.1,n2.2.1,n4.1,n4.2,y3),d.2)))
def T':=bj (Jg mm dH) 2000
def Rg (cm:mY)(ej:Cp)(eI:LT mZ yJ)(x0:Nat)(x1:Bool)(x2:Nat->Int)(x3:Nat->Int)(x4:Nat->Int)(x5:Nat->Int)(x6:Nat->Int)(x7:Nat->Int)(x8:Nat->Int)(x9:Nat->Int)(fG:Nat->Int)(fD:Nat->Int)(w0:Bool):Pg adv:=opt cm λd=>ae (ww x0 x0) (ae true (opt (eI ((0,0,(x0,w0),wl x0,0),x1,(x2,x3,x4,x5,x6,x7,x8,x9,fG,fD),(1073741824,0,0,0),(λx=>0,λx=>0,λx=>0),0,λx=>0,λx=>0,λx=>0)) λd=>let n1:=d.2.2.2;ae (ww d.1.1 d.1.1) (opt (ej d.1.1 d.2.1 n1.2.1.1 n1.2.1.2.1 n1.2.1.2.2 true) λaj=>ae (ww d.1.2.1 d.1.2.1) (opt (ej d.1.2.1 aj.2 n1.2.2.2.1 n1.2.2.2.2.1 n1.2.2.2.2.2 true) λaC=>ret ((n1.1.1,n1.1.2.1,n1.1.2.2.1,n1.1.2.2.2,aj.1.1,aj.1.2.1,aj.1.2.2,aC.1),aC.2)) no) no) no) no
def Io:=λx0 x1 x2 x3 x4 x5 x6 x7 x8 x9 fG fD w0=>(Rg cP ml T' x0 x1 x2 x3 x4 x5 x6 x7 x8 x9 fG fD w0).val
abbrev Rh:=mY×zb×jo×Cp×(LT mZ yJ)
def adx (p:Rh):KK:=⟨[rM p.1,FA p.2.1,ov p.b.1,J0 p.b.2.1],⟨[⟨4,(1::2::3::8::9::10::rg 14 32 []),[(6,[.i .i64,.i .i64,.i .i64]),(7,[.i .i64,.i .i64,.i .i64])]⟩],[gv 4 2 mZ ajO p.c],[0],[],(some ⟨0,(rg 0 4 (rg 5 41 [])),[]⟩)⟩,2,113⟩
theorem azj (p:Rh):LI (adx p) 4 mZ ajO (Jg p.2.1 p.b.1):=λ_ d c K=>by kernel_rfl
theorem aIe (p:Rh):D2 (adx p) ar9 (lf Yu) λb=>Rg p.1 p.b.2.1 p.c b.1.1 b.2.1 b.b.1 b.b.2.1 b.c.1 b.c.2.1 b.c.b.1 b.c.b.2.1 b.d.1 b.d.2.1 b.d.b.1 b.d.b.2 b.1.2:=λb=>by kernel_rfl
abbrev ady:Rh:=(cP,mm,dH,ml,T')
theorem aIf [ax]:SC (asa Io):=sc (Sound.nil 1 [.i .i64,.i .i64,.i .i64,.i .i64,.i .i64,.i .i64,.i .i64,.i .i64,.i .i64,.i .i64]<|kS (k:=adx ady) (.c wz (.c Ld (.c qg (.c Pd (.nil _))))) [4] [] ⟨kL (azj ady),trivial⟩ trivial (aIe ady))
def awM:=qa (pr (cu aQ (c mc (c Ca zY))) bF)
def adz:=qe (res (pr (sZ (c alq (c atm (cl (ra (c gi (c gi (c gi (cl gi (cu aL (cu aL (cu aL (cu aL (cu aL (cu aL (cu (gc ax1) nil)))))))))))) nil)))) (pl nd nil)))
abbrev ah0:=adz.B
abbrev awN:=NI->NI->NI->Int->Int->Bool->Option ah0
def awO (g:awN):Ct:=(221,FC awM (lf adz) (λb=>g b.1.1 b.1.2.1.1 b.1.2.1.2 b.1.b.1 b.1.b.2 b.2))
def VV (aO:fP)(cm:mY)(M':anh)(bf:eJ)(fq:zb)(bw:jo)(cZ:Ag)(bX:qj)(x0:Nat->Int)(x1:Nat->Int)(x2:Nat->Int)(x3:Int)(x4:Int)(x5:Bool):Pg ah0:=opt (aO x0 x5) λd=>opt cm λaj=>opt (M' x3 d.2) λaC=>opt (bf d.1) λbC=>opt (fq aC.1.1 aC.1.2.1 aC.1.2.2.1 aC.1.2.2.2 bC.1 bC.2.1 bC.2.2.1 bC.2.2.2 aC.2) λcK=>opt (bw cK.1.1 cK.1.2.1 cK.1.2.2.1 cK.1.2.2.2 cK.2) λfE=>opt (cZ d.1 0 4 (cr fE.1.1 [fE.1.2.2.2,fE.1.2.2.1,fE.1.2.1,fE.1.1]) false) λd=>opt (aO d fE.2) λd=>opt (bX x1 x2 0 4 d.2 (cr x4 [x4,x4,x4,x4]) true) λdC=>ret ((d.1,dC.1,aC.1),dC.2)
def Na:=λx0 x1 x2 x3 x4 x5=>(VV cw cP Fz bp mm dH fe dU x0 x1 x2 x3 x4 x5).val
theorem aL2:∀aO cm M' bf fq bw cZ bX,D0 [jP aO,rM cm,ani M',ke bf,FA fq,ov bw,DY cZ,Bo bX] 221 awM (lf adz) λb=>VV aO cm M' bf fq bw cZ bX b.1.1 b.1.2.1.1 b.1.2.1.2 b.1.b.1 b.1.b.2 b.2:=λ_ _ _ _ _ _ _ _ b=>by kernel_rfl
theorem aL3 [ax]:SC (awO Na):=s0 (.c kP (.c wz (.c aGk (.c lK (.c Ld (.c qg (.c Ik (.c FE (.nil _))))))))) (aL2 cw cP Fz bp mm dH fe dU)
def anQ:=qa (dp (cu aQ (c mc aRc)) λa=>(c xV (cl (cl (gs a.b.1 oT) nil) nil)))
def aC0:=qe (res (pr (sZ (c alq (cl (rc (jk (pu rq4 (pu wJ (pl mb (pu AY jL)))))) nil))) (pr OA (cl aKE nil))))
abbrev Nb:=((NI×Nat)×Bool×NI)
def anR:Nb->T:=λd=>lf aC0 (d.1,d.2.1,d.1.2,d.b)
abbrev Nc:=NI->Int->Nat->Bool->NI->Bool->Option Nb
def Nd (g:Nc):Ct:=(263,vN 3 [.i .i64] (FC anQ anR (λb=>g b.1.1 b.1.2.1 b.1.b.1 b.2.1 b.b b.1.b.2)))
def nw:=qs (st (dp (cu aQ (us 1 (c ai (us 2 (cu EA (us 2 (cu ai7 (us 1 (cu aqR (c aXy (us 3 (c H6 (c ai (cl ai (us 39 nil))))))))))))))) λa=>(pl (c cG (c (so (cl (gs a.b.1.1 oT) nil)) (c oI (c oI (c oI (cl (so (cl (gs a.2.1 oT) nil)) nil)))))) cQ)))
def azk:=qs (st (pr (cu aQ (us 1 (c ai (us 2 (cu EA (us 2 (cu ai7 (us 1 (cu aqR (c aXy (us 3 (c H6 (c ai (c ai aWA)))))))))))))) (pl (c cG (c JE (c oI (c oI (c oI alx))))) cQ)))
abbrev Bt:=((Int×Nat×(Nat×Bool)×Int×Int×Bool)×Bool×NI×NI×NI×Du×NI)
def ae1 {ρ:Type}(x:Bt)(K:AX->St->Option ρ):Option ρ:=(λd=>K (.ex 0) (azk.em (d.1,d.2.1,(d.1.b.1.1,d.b.1),d.b.2.1,d.c.1,d.c.2.1,d.1.2.1,d.c.b))) x
def Pz (aE:cg)(aY:dt)(d:nw.B):PL nw Bt:=let n2:=d.2.2.2;let n1:=d.1.2.2;let n3:=n1.2.2;let y0:=d.1.2.1+1;let y1:=wI (d.1.1+n3);let y2:=ws y1;let y3:=bk y1 24;let y4:=decide (n3<n1.2.1);ae y4 (ae (bk n3 n1.1.1) (ae y3 (ae y3 (opt (aE (d.2.2.1 (ws n3)) (wI (0-n2.2.2.1 y2)) (n2.2.2.1 y2) d.2.1) λaj=>ae y3 (opt (aY aj.1 (n2.1 y2) aj.2) λaC=>ae (wd (y0*8) 140737488355328) (ae y3 (ae (true&&wd (0+y2*1+1) 24) (ret (wr ((d.1.1,y0,n1.1,n1.2.1,wI (n3+1)),aC.2,d.2.2.1,λj=>bif ww j y2 then aj.1 else n2.1 j,n2.2.1,n2.2.2.1,λj=>bif ww j d.1.2.1 then aC.1 else n2.2.2.2 j))) no) no) no) no) no) no) no) (ret (wn ((d.1.1,d.1.2.1,n1.1,n1.2.1,n3,y4),d.2)))
def GH:=bj (Pz aT bu) 2000
def Nf (TY:Dv)(aO:fP)(eI:LT nw Bt)(x0:Nat->Int)(x1:Int)(x2:Nat)(x3:Bool)(x4:Nat->Int)(w0:Bool):Pg Nb:=opt TY λd=>ae (ww x2 x2) (ae true (opt (eI ((x1,0,(x2,w0),wl x2,0),x3,x4,x0,λx=>0,d,λx=>0)) λd=>opt (aO d.2.2.2.1 d.2.1) λaj=>ret ((aj.1,d.1.2.1),aj.2,d.2.2.2.2.2.2)) no) no
def kG:=λx0 x1 x2 x3 x4 w0=>(Nf qL cw GH x0 x1 x2 x3 x4 w0).val
abbrev Ng:=Dv×cg×dt×fP×(LT nw Bt)
def Yv (p:Ng):KK:=⟨[TV p.1,eA p.2.1,iP p.b.1,jP p.b.2.1],⟨[⟨4,(1::3::4::6::7::9::12::13::14::rg 18 39 []),[(11,[.i .i64])]⟩],[gv 4 2 nw ae1 p.c],[0],[],(some ⟨0,(rg 0 8 (rg 10 47 [])),[]⟩)⟩,2,263⟩
theorem awP (p:Ng):LI (Yv p) 4 nw ae1 (Pz p.2.1 p.b.1):=λ_ d c K=>by kernel_rfl
theorem aGx (p:Ng):D2 (Yv p) anQ anR λb=>Nf p.1 p.b.2.1 p.c b.1.1 b.1.2.1 b.1.b.1 b.2.1 b.b b.1.b.2:=λb=>by kernel_rfl
abbrev Yw:Ng:=(qL,aT,bu,cw,GH)
theorem Yx [ax]:SC (Nd kG):=sc (Sound.nil 3 [.i .i64]<|kS (k:=Yv Yw) (.c ajH (.c eX (.c jN (.c kP (.nil _))))) [4] [] ⟨kL (awP Yw),trivial⟩ trivial (aGx Yw))
def anS:=qa (pr (cu (app 0 2) zY) (cd (c (gc (De 1 1)) (cl (gc (De 2 1)) nil)) λb0=>(c (cl (gs b0.1 oT) nil) (cl (cl (gs b0.2 oT) nil) nil))))
def aC1:=qe (res (pu RB (pr (cl (zX (c (gc (De 3 1)) (cl (gc (De 4 1)) nil))) (cu Vs aNT)) (c aKE (cl aKE nil)))))
abbrev Yy:=((Nat×Nat)×NI×NI)
def anT:Yy->T:=λd=>lf aC1 (d.1,(d.1.1,d.2.1),d.1.2,d.b)
abbrev Yz:=Int->Int->Nat->Nat->NI->NI->Option Yy
def anU (g:Yz):Ct:=(247,FC anS anT (λb=>g b.1.1 b.1.2 b.2.1.1 b.2.1.2 b.b.1 b.b.2))
def YA (x0:Int)(x1:Int)(x2:Nat)(x3:Nat)(x4:Nat->Int)(x5:Nat->Int):Pg Yy:=let y0:=x2+2;let y1:=x3+2;ae (wd (y0*8) 140737488355328) (ae (wd (y1*8) 140737488355328) (ret ((y0,y1),λj=>bif ww j (x2+1) then x0 else bif ww j x2 then x0 else x4 j,λj=>bif ww j (x3+1) then x1 else bif ww j x3 then x1 else x5 j)) no) no
def mq:=λx0 x1 x2 x3 x4 x5=>(YA x0 x1 x2 x3 x4 x5).val
theorem aGy:D0 [] 247 anS anT λb=>YA b.1.1 b.1.2 b.2.1.1 b.2.1.2 b.b.1 b.b.2:=λb=>by kernel_rfl
theorem aGz [ax]:SC (anU mq):=s0 (.nil _) aGy
def asb:=qa (pr (cu aQ (c agh Hp)) bF)
def YB:=qe (res (pr (aa aRF) (pl nd nil)))
abbrev adA:=YB.B
abbrev Ip:=Int->Int->Int->Int->Int->Int->Int->Bool->Option adA
def adB (g:Ip):Ct:=(218,FC asb (lf YB) (λb=>g b.1.1.1 b.1.1.2.1 b.1.1.b.1 b.1.1.b.2 b.1.2.1 b.1.b.1 b.1.b.2 b.2))
def Ri (aw:bQ)(FB:O6)(bc:Yz)(bg:ei)(x0:Int)(x1:Int)(x2:Int)(x3:Int)(x4:Int)(x5:Int)(x6:Int)(x7:Bool):Pg adA:=opt (aw x0 x7) λd=>let y0:=wI (0-d.1);opt (aw x1 d.2) λaj=>let uP:=wI (0-aj.1);opt (aw x2 aj.2) λaC=>let arD:=wI (0-aC.1);opt (aw x3 aC.2) λbC=>let aaN:=wI (0-bC.1);opt (FB x4 x5 x6 bC.2) λcK=>let n2:=cK.1.1;let n1:=cK.1.2;opt (bc d.1 n2 0 0 (λx=>0) λx=>0) λfE=>ae (ww fE.1.1 fE.1.1) (ae (ww fE.1.2 fE.1.2) (opt (bc aC.1 n1.2 fE.1.1 fE.1.2 fE.2.1 fE.2.2) λdC=>ae (ww dC.1.1 dC.1.1) (ae (ww dC.1.2 dC.1.2) (opt (bc aaN n1.1 dC.1.1 dC.1.2 dC.2.1 dC.2.2) λnX=>ae (ww nX.1.1 nX.1.1) (ae (ww nX.1.2 nX.1.2) (opt (bg 30 nX.1.1 nX.1.2 cK.2 nX.2.1 nX.2.2 true true) λtY=>opt (bc uP n2 0 0 (λx=>0) λx=>0) λp7=>ae (ww p7.1.1 p7.1.1) (ae (ww p7.1.2 p7.1.2) (opt (bc aj.1 n2 p7.1.1 p7.1.2 p7.2.1 p7.2.2) λmO=>ae (ww mO.1.1 mO.1.1) (ae (ww mO.1.2 mO.1.2) (opt (bc aj.1 n2 mO.1.1 mO.1.2 mO.2.1 mO.2.2) λxW=>ae (ww xW.1.1 xW.1.1) (ae (ww xW.1.2 xW.1.2) (opt (bc aC.1 n1.1 xW.1.1 xW.1.2 xW.2.1 xW.2.2) λLg=>ae (ww Lg.1.1 Lg.1.1) (ae (ww Lg.1.2 Lg.1.2) (opt (bc bC.1 n1.2 Lg.1.1 Lg.1.2 Lg.2.1 Lg.2.2) λMS=>ae (ww MS.1.1 MS.1.1) (ae (ww MS.1.2 MS.1.2) (opt (bg 30 MS.1.1 MS.1.2 tY.2 MS.2.1 MS.2.2 true true) λaGA=>opt (bc arD n2 0 0 (λx=>0) λx=>0) λabp=>ae (ww abp.1.1 abp.1.1) (ae (ww abp.1.2 abp.1.2) (opt (bc aj.1 n1.1 abp.1.1 abp.1.2 abp.2.1 abp.2.2) λae2=>ae (ww ae2.1.1 ae2.1.1) (ae (ww ae2.1.2 ae2.1.2) (opt (bc d.1 n1.2 ae2.1.1 ae2.1.2 ae2.2.1 ae2.2.2) λabq=>ae (ww abq.1.1 abq.1.1) (ae (ww abq.1.2 abq.1.2) (opt (bg 30 abq.1.1 abq.1.2 aGA.2 abq.2.1 abq.2.2 true true) λaGB=>opt (bc aaN n2 0 0 (λx=>0) λx=>0) λanV=>ae (ww anV.1.1 anV.1.1) (ae (ww anV.1.2 anV.1.2) (opt (bc aj.1 n1.2 anV.1.1 anV.1.2 anV.2.1 anV.2.2) λasc=>ae (ww asc.1.1 asc.1.1) (ae (ww asc.1.2 asc.1.2) (opt (bc y0 n1.1 asc.1.1 asc.1.2 asc.2.1 asc.2.2) λanW=>ae (ww anW.1.1 anW.1.1) (ae (ww anW.1.2 anW.1.2) (opt (bg 30 anW.1.1 anW.1.2 aGB.2 anW.2.1 anW.2.2 true true) λa16=>opt (bc d.1 n1.1 0 0 (λx=>0) λx=>0) λaBt=>ae (ww aBt.1.1 aBt.1.1) (ae (ww aBt.1.2 aBt.1.2) (opt (bc bC.1 n2 aBt.1.1 aBt.1.2 aBt.2.1 aBt.2.2) λaBu=>ae (ww aBu.1.1 aBu.1.1) (ae (ww aBu.1.2 aBu.1.2) (opt (bc uP n1.2 aBu.1.1 aBu.1.2 aBu.2.1 aBu.2.2) λaBv=>ae (ww aBv.1.1 aBv.1.1) (ae (ww aBv.1.2 aBv.1.2) (opt (bg 30 aBv.1.1 aBv.1.2 a16.2 aBv.2.1 aBv.2.2 true true) λa17=>opt (bc uP n1.1 0 0 (λx=>0) λx=>0) λaBw=>ae (ww aBw.1.1 aBw.1.1) (ae (ww aBw.1.2 aBw.1.2) (opt (bc aC.1 n2 aBw.1.1 aBw.1.2 aBw.2.1 aBw.2.2) λaBx=>ae (ww aBx.1.1 aBx.1.1) (ae (ww aBx.1.2 aBx.1.2) (opt (bc y0 n1.2 aBx.1.1 aBx.1.2 aBx.2.1 aBx.2.2) λaBy=>ae (ww aBy.1.1 aBy.1.1) (ae (ww aBy.1.2 aBy.1.2) (opt (bg 30 aBy.1.1 aBy.1.2 a17.2 aBy.2.1 aBy.2.2 true true) λa18=>opt (bc arD n1.1 0 0 (λx=>0) λx=>0) λaBz=>ae (ww aBz.1.1 aBz.1.1) (ae (ww aBz.1.2 aBz.1.2) (opt (bc aC.1 n1.1 aBz.1.1 aBz.1.2 aBz.2.1 aBz.2.2) λaBA=>ae (ww aBA.1.1 aBA.1.1) (ae (ww aBA.1.2 aBA.1.2) (opt (bc aj.1 n2 aBA.1.1 aBA.1.2 aBA.2.1 aBA.2.2) λaBB=>ae (ww aBB.1.1 aBB.1.1) (ae (ww aBB.1.2 aBB.1.2) (opt (bc aC.1 n1.1 aBB.1.1 aBB.1.2 aBB.2.1 aBB.2.2) λaBC=>ae (ww aBC.1.1 aBC.1.1) (ae (ww aBC.1.2 aBC.1.2) (opt (bc bC.1 n1.2 aBC.1.1 aBC.1.2 aBC.2.1 aBC.2.2) λaBD=>ae (ww aBD.1.1 aBD.1.1) (ae (ww aBD.1.2 aBD.1.2) (opt (bg 30 aBD.1.1 aBD.1.2 a18.2 aBD.2.1 aBD.2.2 true true) λa19=>opt (bc aaN n1.1 0 0 (λx=>0) λx=>0) λaBE=>ae (ww aBE.1.1 aBE.1.1) (ae (ww aBE.1.2 aBE.1.2) (opt (bc aC.1 n1.2 aBE.1.1 aBE.1.2 aBE.2.1 aBE.2.2) λaBF=>ae (ww aBF.1.1 aBF.1.1) (ae (ww aBF.1.2 aBF.1.2) (opt (bc d.1 n2 aBF.1.1 aBF.1.2 aBF.2.1 aBF.2.2) λaBG=>ae (ww aBG.1.1 aBG.1.1) (ae (ww aBG.1.2 aBG.1.2) (opt (bg 30 aBG.1.1 aBG.1.2 a19.2 aBG.2.1 aBG.2.2 true true) λa2a=>opt (bc d.1 n1.2 0 0 (λx=>0) λx=>0) λaBH=>ae (ww aBH.1.1 aBH.1.1) (ae (ww aBH.1.2 aBH.1.2) (opt (bc aj.1 n1.1 aBH.1.1 aBH.1.2 aBH.2.1 aBH.2.2) λaBI=>ae (ww aBI.1.1 aBI.1.1) (ae (ww aBI.1.2 aBI.1.2) (opt (bc arD n2 aBI.1.1 aBI.1.2 aBI.2.1 aBI.2.2) λaBJ=>ae (ww aBJ.1.1 aBJ.1.1) (ae (ww aBJ.1.2 aBJ.1.2) (opt (bg 30 aBJ.1.1 aBJ.1.2 a2a.2 aBJ.2.1 aBJ.2.2 true true) λa2b=>opt (bc uP n1.2 0 0 (λx=>0) λx=>0) λaBK=>ae (ww aBK.1.1 aBK.1.1) (ae (ww aBK.1.2 aBK.1.2) (opt (bc bC.1 n2 aBK.1.1 aBK.1.2 aBK.2.1 aBK.2.2) λaBL=>ae (ww aBL.1.1 aBL.1.1) (ae (ww aBL.1.2 aBL.1.2) (opt (bc d.1 n1.1 aBL.1.1 aBL.1.2 aBL.2.1 aBL.2.2) λd=>ae (ww d.1.1 d.1.1) (ae (ww d.1.2 d.1.2) (opt (bg 30 d.1.1 d.1.2 a2b.2 d.2.1 d.2.2 true true) λd=>opt (bc arD n1.2 0 0 (λx=>0) λx=>0) λaBM=>ae (ww aBM.1.1 aBM.1.1) (ae (ww aBM.1.2 aBM.1.2) (opt (bc bC.1 n1.1 aBM.1.1 aBM.1.2 aBM.2.1 aBM.2.2) λaBN=>ae (ww aBN.1.1 aBN.1.1) (ae (ww aBN.1.2 aBN.1.2) (opt (bc y0 n2 aBN.1.1 aBN.1.2 aBN.2.1 aBN.2.2) λaBO=>ae (ww aBO.1.1 aBO.1.1) (ae (ww aBO.1.2 aBO.1.2) (opt (bg 30 aBO.1.1 aBO.1.2 d.2 aBO.2.1 aBO.2.2 true true) λa2c=>opt (bc aaN n1.2 0 0 (λx=>0) λx=>0) λaBP=>ae (ww aBP.1.1 aBP.1.1) (ae (ww aBP.1.2 aBP.1.2) (opt (bc bC.1 n1.2 aBP.1.1 aBP.1.2 aBP.2.1 aBP.2.2) λaBQ=>ae (ww aBQ.1.1 aBQ.1.1) (ae (ww aBQ.1.2 aBQ.1.2) (opt (bc aj.1 n2 aBQ.1.1 aBQ.1.2 aBQ.2.1 aBQ.2.2) λaBR=>ae (ww aBR.1.1 aBR.1.1) (ae (ww aBR.1.2 aBR.1.2) (opt (bc aC.1 n1.1 aBR.1.1 aBR.1.2 aBR.2.1 aBR.2.2) λaBS=>ae (ww aBS.1.1 aBS.1.1) (ae (ww aBS.1.2 aBS.1.2) (opt (bc bC.1 n1.2 aBS.1.1 aBS.1.2 aBS.2.1 aBS.2.2) λaBT=>ae (ww aBT.1.1 aBT.1.1) (ae (ww aBT.1.2 aBT.1.2) (opt (bg 30 aBT.1.1 aBT.1.2 a2c.2 aBT.2.1 aBT.2.2 true true) λa2d=>ret ((tY.1,aGA.1,aGB.1,a16.1,a17.1,a18.1,a19.1,a2a.1,a2b.1,d.1,a2c.1,a2d.1),a2d.2)) no) no) no) no) no) no) no) no) no) no) no) no) no) no) no) no) no) no) no) no) no) no) no) no) no) no) no) no) no) no) no) no) no) no) no) no) no) no) no) no) no) no) no) no) no) no) no) no) no) no) no) no) no) no) no) no) no) no) no) no) no) no) no) no) no) no) no) no) no) no) no) no) no) no) no) no) no) no) no) no) no) no) no) no
def Al:=λx0 x1 x2 x3 x4 x5 x6 x7=>(Ri aM uy mq bx x0 x1 x2 x3 x4 x5 x6 x7).val
abbrev adC:=bQ×O6×Yz×ei
def asd (p:adC):KK:=⟨[dG p.1,aho p.2.1,anU p.b.1,nY p.b.2],⟨[⟨2,(1::2::3::rg 7 10 (rg 18 124 [])),[]⟩,⟨10,(1::2::3::7::rg 10 24 (rg 35 107 [])),[]⟩,⟨19,(1::2::3::7::rg 11 23 (rg 35 38 (rg 74 68 []))),[]⟩,⟨28,(1::2::3::7::11::12::13::rg 16 18 (rg 35 38 (rg 74 29 (rg 104 38 [])))),[]⟩],[],[],[],(some ⟨0,(rg 0 6 (rg 7 135 [])),[]⟩)⟩,0,218⟩
theorem aIg (p:adC):D2 (asd p) asb (lf YB) λb=>Ri p.1 p.2.1 p.b.1 p.b.2 b.1.1.1 b.1.1.2.1 b.1.1.b.1 b.1.1.b.2 b.1.2.1 b.1.b.1 b.1.b.2 b.2:=λb=>by kernel_rfl
abbrev ase:adC:=(aM,uy,mq,bx)
theorem asf [ax]:SC (adB Al):=sc (kS (k:=asd ase) (.c dN (.c atW (.c aGz (.c pU (.nil _))))) [2,10,19,28] [] ⟨kN,⟨kN,⟨kN,⟨kN,trivial⟩⟩⟩⟩ trivial (aIg ase))
def asg:=qa (pl Ee nil)
def YC:=qe aXc
abbrev ash:=YC.B
abbrev Iq:=Int->Int->Int->Int->Int->Int->Int->Int->Int->Option ash
def adD (g:Iq):Ct:=(137,FC asg (lf YC) (λb=>g b.1 b.2.1 b.b.1 b.b.2.1 b.c.1 b.c.2.1 b.c.b.1 b.c.b.2.1 b.d))
def adE (x0:Int)(x1:Int)(x2:Int)(x3:Int)(x4:Int)(x5:Int)(x6:Int)(x7:Int)(x8:Int):Pg ash:=ret (x1,x2,x3)
def vV:=λx0 x1 x2 x3 x4 x5 x6 x7 x8=>(adE x0 x1 x2 x3 x4 x5 x6 x7 x8).val
theorem aIh:D0 [] 137 asg (lf YC) λb=>adE b.1 b.2.1 b.b.1 b.b.2.1 b.c.1 b.c.2.1 b.c.b.1 b.c.b.2.1 b.d:=λb=>by kernel_rfl
theorem asi [ax]:SC (adD vV):=s0 (.nil _) aIh
def asj:=qa (pl Hp nil)
def YD:=qe Fa
abbrev adF:=YD.B
abbrev vX:=Int->Int->Int->Option adF
def Am (g:vX):Ct:=(76,FC asj (lf YD) (λb=>g b.1 b.2.1 b.b))
def Ir (x0:Int)(x1:Int)(x2:Int):Pg adF:=ae (decide (x0>= -900000000)) (ae (decide (x0<=900000000)) (ae (decide (x1>= -1800000000)) (ae (decide (x1<=1800000000)) (ae (decide (x2>= -100000000)) (ret (decide (x2<=100000000))) (ret false)) (ret false)) (ret false)) (ret false)) (ret false)
def fQ:=λx0 x1 x2=>(Ir x0 x1 x2).val
theorem aIi:D0 [] 76 asj (lf YD) λb=>Ir b.1 b.2.1 b.b:=λb=>by kernel_rfl
theorem D6 [ax]:SC (Am fQ):=s0 (.nil _) aIi
def awQ:=qa (pl Ee nil)
def adG:=qe Fa
abbrev awR:=adG.B
abbrev ah1:=Int->Int->Int->Int->Int->Int->Int->Int->Int->Option awR
def awS (g:ah1):Ct:=(136,FC awQ (lf adG) (λb=>g b.1 b.2.1 b.b.1 b.b.2.1 b.c.1 b.c.2.1 b.c.b.1 b.c.b.2.1 b.d))
def ah2 (adH:Iq)(cN:vX)(x0:Int)(x1:Int)(x2:Int)(x3:Int)(x4:Int)(x5:Int)(x6:Int)(x7:Int)(x8:Int):Pg awR:=ae (decide (x4< -1000000)) (ret false) (ae (decide (x4>1000000)) (ret false) (ae (decide (x5< -1000000)) (ret false) (ae (decide (x5>1000000)) (ret false) (ae (decide (x6< -1000000)) (ret false) (ae (decide (x6>1000000)) (ret false) (ae (decide (x7<1)) (ret false) (ae (decide (x7>1000000)) (ret false) (ae (decide (x8<1)) (ret false) (ae (decide (x8>1000000)) (ret false) (opt (adH x0 x1 x2 x3 x4 x5 x6 x7 x8) λd=>opt (cN d.1 d.2.1 d.2.2) λd=>ret d))))))))))
def GI:=λx0 x1 x2 x3 x4 x5 x6 x7 x8=>(ah2 vV fQ x0 x1 x2 x3 x4 x5 x6 x7 x8).val
abbrev ah3:=Iq×vX
def awT (p:ah3):KK:=⟨[adD p.1,Am p.2],⟨[⟨2,(0::rg 3 5 (rg 11 6 (rg 19 12 (rg 33 5 [])))),[]⟩,⟨8,(0::rg 3 19 (rg 25 6 (rg 33 5 []))),[]⟩],[],[],[],(some ⟨0,(0::1::rg 3 35 []),[]⟩)⟩,0,136⟩
theorem aL4 (p:ah3):D2 (awT p) awQ (lf adG) λb=>ah2 p.1 p.2 b.1 b.2.1 b.b.1 b.b.2.1 b.c.1 b.c.2.1 b.c.b.1 b.c.b.2.1 b.d:=λb=>by kernel_rfl
abbrev awU:ah3:=(vV,fQ)
theorem aL5 [ax]:SC (awS GI):=sc (kS (k:=awT awU) (.c asi (.c D6 (.nil _))) [2,8] [] ⟨kN,⟨kN,trivial⟩⟩ trivial (aL4 awU))
def ae3:=qa (pl jb nil)
def Nh:=qe Hm
abbrev PA:=Nh.B
abbrev PC:=Int->Option PA
def ae4 (g:PC):Ct:=(138,FC ae3 (lf Nh) (λb=>g b))
def GJ (aq:bW)(aE:cg)(x0:Int):Pg PA:=opt (aq (wI (x0*x0)) 17592186044416 1000000 false) λd=>opt (aE d.1 1 72057594037927936 d.2) λd=>ret d.1
def Bu:=λx0=>(GJ aP aT x0).val
theorem azl:∀aq aE,D0 [dF aq,eA aE] 138 ae3 (lf Nh) λb=>GJ aq aE b:=λ_ _ b=>by kernel_rfl
theorem azm [ax]:SC (ae4 Bu):=s0 (.c dS (.c eX (.nil _))) (azl aP aT)
def awV:=qa (pr (cu aQ Ee) bF)
def adI:=qe (res (pr (sZ (c (ra ax9) agb)) (pl nd nil)))
abbrev ah4:=adI.B
abbrev ah5:=Int->Int->Int->Int->Int->Int->Int->Int->Int->Bool->Option ah4
def ah6 (g:ah5):Ct:=(89,FC awV (lf adI) (λb=>g b.1.1 b.1.2.1 b.1.b.1 b.1.b.2.1 b.1.c.1 b.1.c.2.1 b.1.c.b.1 b.1.c.b.2.1 b.1.d b.2))
def VW (aL6:ah1)(adH:Iq)(ae5:PC)(aq:bW)(x0:Int)(x1:Int)(x2:Int)(x3:Int)(x4:Int)(x5:Int)(x6:Int)(x7:Int)(x8:Int)(x9:Bool):Pg ah4:=opt (aL6 x0 x1 x2 x3 x4 x5 x6 x7 x8) λd=>ae (!d) (ret (((0,0,0,0,0,0,0,0),1),x9)) (opt (adH x0 x1 x2 x3 x4 x5 x6 x7 x8) λd=>opt (ae5 x7) λaj=>opt (ae5 x8) λaC=>opt (aq x4 1073741824 1000 x9) λbC=>opt (aq x5 1073741824 1000 bC.2) λcK=>opt (aq x6 1073741824 1000 cK.2) λfE=>ret (((d.1,d.2.1,d.2.2,bC.1,cK.1,fE.1,aj,aC),0),fE.2))
def Cr:=λx0 x1 x2 x3 x4 x5 x6 x7 x8 x9=>(VW GI vV Bu aP x0 x1 x2 x3 x4 x5 x6 x7 x8 x9).val
abbrev ah7:=ah1×Iq×PC×bW
def awW (p:ah7):KK:=⟨[awS p.1,adD p.2.1,ae4 p.b.1,dF p.b.2],⟨[⟨5,(1::2::5::rg 7 16 (rg 24 14 [])),[]⟩],[],[0],[],(some ⟨0,(rg 0 4 (rg 6 32 [])),[]⟩)⟩,0,89⟩
theorem aL7 (p:ah7):D2 (awW p) awV (lf adI) λb=>VW p.1 p.2.1 p.b.1 p.b.2 b.1.1 b.1.2.1 b.1.b.1 b.1.b.2.1 b.1.c.1 b.1.c.2.1 b.1.c.b.1 b.1.c.b.2.1 b.1.d b.2:=λb=>by kernel_rfl
abbrev awX:ah7:=(GI,vV,Bu,aP)
theorem awY [ax]:SC (ah6 Cr):=sc (kS (k:=awW awX) (.c aL5 (.c asi (.c azm (.c dS (.nil _))))) [5] [] ⟨kN,trivial⟩ trivial (aL7 awX))
def ajP:=qa (dp (cl JB nil) λa=>(cl (cl (gs a.1 oT) nil) nil))
def PD:=qe aXj
abbrev ajQ:=PD.B
abbrev Ua:=Nat->NI->Bool->Option ajQ
def Ub (g:Ua):Ct:=(231,vN 0 [.i .i64] (FC ajP (lf PD) (λb=>g b.1.1 b.2 b.1.2)))
def mr:=qs (st (dp (us 2 (cu US (cu EA (us 2 (c JB (c ai aKp)))))) λa=>(pl (c (so (cl (gs a.1.1 oT) nil)) OC) nil)))
def awZ:=qs (st (pr (us 2 (cu US (cu EA (us 2 (c JB (c ai aKw)))))) (pl (c JE OC) nil)))
abbrev zm:=(aNJ×NI×NI×NI)
def abr {ρ:Type}(x:zm)(K:AX->St->Option ρ):Option ρ:=(λd=>K (.ex 0) (awZ.em (d.1,(d.1.1.1,d.2.1),d.b))) x
def Ni (d:mr.B):PL mr zm:=let n3:=d.2.1;let n2:=d.1.2.2;let n1:=(d.1.1,d.1.2.1,wI (n2+1));let y0:=ws (n3 (ws n2));let y1:=decide (n2<d.1.2.1);ae y1 (ae (bk n2 d.1.1.1) (ae (decide (n3 (ws n2)>=0)) (ae (decide (n3 (ws n2)<24)) (ae (bk (n3 (ws n2)) 24) (ae (true&&wd (0+y0*1+1) 24) (ret (wr (n1,n3,d.2.2.1,λj=>bif ww j y0 then 1073741824 else d.2.2.2 j))) no) no) (ret (wr (n1,d.2)))) (ret (wr (n1,d.2)))) no) (ret (wn ((d.1.1,d.1.2.1,n2,y1),d.2)))
def Nj:=bj (Ni) 2000
def Uc (eI:LT mr zm)(x0:Nat)(x1:Nat->Int)(w0:Bool):Pg ajQ:=ae (ww x0 x0) (opt (eI (((x0,w0),wl x0,0),x1,λx=>0,λx=>0)) λd=>ret d.2.2.2) no
def qN:=λx0 x1 w0=>(Uc Nj x0 x1 w0).val
abbrev Jh:=(LT mr zm)
def Ud (p:Jh):KK:=⟨[],⟨[⟨3,(0::1::4::5::rg 9 6 (rg 17 5 [15,16])),[]⟩],[gv 3 1 mr abr p],[],[],(some ⟨0,(0::1::rg 3 19 []),[]⟩)⟩,1,231⟩
theorem aue (p:Jh):LI (Ud p) 3 mr abr (Ni):=λ_ d c K=>by kernel_rfl
theorem aC2 (p:Jh):D2 (Ud p) ajP (lf PD) λb=>Uc p b.1.1 b.2 b.1.2:=λb=>by kernel_rfl
abbrev Ue:Jh:=Nj
theorem ajR [ax]:SC (Ub qN):=sc (Sound.nil 0 [.i .i64]<|kS (k:=Ud Ue) (.nil _) [3] [] ⟨kL (aue Ue),trivial⟩ trivial (aC2 Ue))
def ae6:=qa (pr (cu aQ (c mc (c ai Fb))) bF)
def Nk:=qe aXH
abbrev ae7:=Nk.B
abbrev wA:=NI->Int->Int->Int->Int->Bool->Option ae7
def GK (g:wA):Ct:=(253,FC ae6 (lf Nk) (λb=>g b.1.1 b.1.2.1 b.1.b.1 b.1.b.2.1 b.1.c b.2))
def PE (oD:Ua)(aY:dt)(x0:Nat->Int)(x1:Int)(x2:Int)(x3:Int)(x4:Int)(x5:Bool):Pg ae7:=opt (oD 1 (λj=>bif ww j 0 then x1 else x1) true) λd=>ae (bk x1 24) (opt (aY x2 (x0 (ws x1)) x5) λaj=>ret ((d,aj.1,x3,x4),aj.2)) no
def dV:=λx0 x1 x2 x3 x4 x5=>(PE qN bu x0 x1 x2 x3 x4 x5).val
theorem azn:∀oD aY,D0 [Ub oD,iP aY] 253 ae6 (lf Nk) λb=>PE oD aY b.1.1 b.1.2.1 b.1.b.1 b.1.b.2.1 b.1.c b.2:=λ_ _ b=>by kernel_rfl
theorem PF [ax]:SC (GK dV):=s0 (.c ajR (.c jN (.nil _))) (azn qN bu)
def ae8:=qa (pr (cu aQ (c mc (c aKR jb))) bF)
def Nl:=qe aYc
abbrev ae9:=Nl.B
abbrev afa:=NI->Int->Int->Int->Int->Int->Int->Int->Int->Int->Bool->Option ae9
def afb (g:afa):Ct:=(225,FC ae8 (lf Nl) (λb=>g b.1.1 b.1.2.1.1.1 b.1.2.1.1.2.1 b.1.2.1.1.b b.1.2.1.2.1.1 b.1.2.1.2.1.2.1 b.1.2.1.2.1.b b.1.2.1.b.1 b.1.2.1.b.2 b.1.b b.2))
def PG (jJ:wA)(x0:Nat->Int)(x1:Int)(x2:Int)(x3:Int)(x4:Int)(x5:Int)(x6:Int)(x7:Int)(x8:Int)(x9:Int)(fG:Bool):Pg ae9:=opt (jJ x0 4 x4 x8 x9 fG) λd=>opt (jJ x0 5 x5 x8 x9 d.2) λaj=>opt (jJ x0 6 x6 x8 x9 aj.2) λaC=>ret (aC.2,d.1.1,d.1.2.1,d.1.2.2.1,d.1.2.2.2,aj.1.1,aj.1.2.1,aj.1.2.2.1,aj.1.2.2.2,aC.1)
def wB:=λx0 x1 x2 x3 x4 x5 x6 x7 x8 x9 fG=>(PG dV x0 x1 x2 x3 x4 x5 x6 x7 x8 x9 fG).val
abbrev PH:=wA
def afc (p:PH):KK:=⟨[GK p],⟨[⟨3,(1::2::4::7::8::10::11::12::rg 15 17 []),[]⟩],[],[],[],(some ⟨0,(rg 0 8 (rg 9 23 [])),[]⟩)⟩,0,225⟩
theorem azo (p:PH):D2 (afc p) ae8 (lf Nl) λb=>PG p b.1.1 b.1.2.1.1.1 b.1.2.1.1.2.1 b.1.2.1.1.b b.1.2.1.2.1.1 b.1.2.1.2.1.2.1 b.1.2.1.2.1.b b.1.2.1.b.1 b.1.2.1.b.2 b.1.b b.2:=λb=>by kernel_rfl
abbrev afd:PH:=dV
theorem azp [ax]:SC (afb wB):=sc (kS (k:=afc afd) (.c PF (.nil _)) [3] [] ⟨kN,trivial⟩ trivial (azo afd))
def abt:=qa (pr (cu (app 0 5) (cu RD Hp)) (c ni bF))
def Km:=qe (res (pr aXe (pl (cu fR nd) nil)))
abbrev Nm:=Km.B
abbrev zn:=Int->Int->Int->Int->Int->Int->Int->Int->Bool->Option Nm
def EN (g:zn):Ct:=(249,FC abt (lf Km) (λb=>g b.1.1 b.1.2.1 b.1.b b.2.1.1.1 b.2.1.1.2.1 b.2.1.1.b b.2.1.2.1 b.2.1.b b.b))
def EO (cN:vX)(aB:bL)(aq:bW)(x0:Int)(x1:Int)(x2:Int)(x3:Int)(x4:Int)(x5:Int)(x6:Int)(x7:Int)(x8:Bool):Pg Nm:=let y0:=wI (x1-x4);opt (cN x0 x1 x2) λd=>ae (!d) (ret (((0,0,0),1),x8)) (ae (decide (y0>1800000000)) (opt (aB (wI (x0-x3)) x6 10 x8) λd=>opt (aB (wI (y0-3600000000)) x7 10 d.2) λaj=>opt (aq (wI (x5-x2)) 1073741824 1000 aj.2) λaC=>ret (((d.1,aj.1,aC.1),0),aC.2)) (ae (decide (y0<= -1800000000)) (opt (aB (wI (x0-x3)) x6 10 x8) λd=>opt (aB (wI (y0+3600000000)) x7 10 d.2) λaj=>opt (aq (wI (x5-x2)) 1073741824 1000 aj.2) λaC=>ret (((d.1,aj.1,aC.1),0),aC.2)) (opt (aB (wI (x0-x3)) x6 10 x8) λd=>opt (aB y0 x7 10 d.2) λaj=>opt (aq (wI (x5-x2)) 1073741824 1000 aj.2) λaC=>ret (((d.1,aj.1,aC.1),0),aC.2))))
def lL:=λx0 x1 x2 x3 x4 x5 x6 x7 x8=>(EO fQ aX aP x0 x1 x2 x3 x4 x5 x6 x7 x8).val
theorem aw0:∀cN aB aq,D1 [Am cN,fO aB,dF aq] [1] 249 abt (lf Km) λb=>EO cN aB aq b.1.1 b.1.2.1 b.1.b b.2.1.1.1 b.2.1.1.2.1 b.2.1.1.b b.2.1.2.1 b.2.1.b b.b:=λ_ _ _ b=>by kernel_rfl
theorem Nn [ax]:SC (EN lL):=s0 (.c D6 (.c gx (.c dS (.nil _)))) (aw0 fQ aX aP)
def rN:=qa (pr (cu aQ (c mc (c aKR (cu (app 1 5) jb)))) (c xV (cl ni nil)))
def Og:=qe (res (pr aWZ (pl OA nil)))
def Oh:=qe (res (pu (sZ (cu (rc (jk (pu rq4 (pu wJ (pu (szl rq4) (pu (nat 27) jL)))))) als)) (pr OA (cl aRG nil))))
abbrev Cs:=Og.B⊕Oh.B
def YE:Cs->T:=ls (lf Og) (lf Oh)
abbrev YF:=rN.B->Option Cs
def YG (g:YF):Ct:=(226,FC rN YE g)
def Cu (ix:zn)(jJ:wA)(x:rN.B):Pg Cs:=opt (ix x.1.2.1.1.1 x.1.2.1.1.2.1 x.1.2.1.1.2.2 x.2.2.1.1 x.2.2.1.2.1 x.2.2.1.2.2 x.2.2.2.1 x.2.2.2.2 x.2.1) λd=>ae (d.1.2!=0) (ret (wr (d.1.2,d.2))) (opt (jJ x.1.1 7 d.1.1.1 x.1.2.1.2.2.1 x.1.2.2 d.2) λaj=>opt (jJ x.1.1 8 d.1.1.2.1 x.1.2.1.2.2.1 x.1.2.2 aj.2) λd=>ret (wn (d.2,aj.1.1,aj.1.2.1,aj.1.2.2.1,aj.1.2.2.2,d.1)))
def xi:=λx=>(Cu lL dV x).val
abbrev Kn:=zn×wA
def YH (p:Kn):KK:=⟨[EN p.1,GK p.2],⟨[⟨6,(1::2::3::5::rg 8 6 (rg 15 13 (rg 31 18 []))),[]⟩],[],[],[],(some ⟨0,(rg 0 10 (rg 12 37 [])),[]⟩)⟩,0,226⟩
theorem auf (p:Kn):D2 (YH p) rN YE λb=>Cu p.1 p.2 b:=λb=>by kernel_rfl
abbrev YI:Kn:=(lL,dV)
theorem aug [ax]:SC (YG xi):=sc (kS (k:=YH YI) (.c Nn (.c PF (.nil _))) [6] [] ⟨kN,trivial⟩ trivial (auf YI))
def Bv:=qa (pr (cu aQ (c mc (c aKR (cu (app 1 5) jb)))) (c xV (cl ni nil)))
def Uf:=qe (res (pr aXD (pl OA nil)))
abbrev YJ:=Uf.B
abbrev anX:=Bv.B->Option YJ
def anY (g:anX):Ct:=(227,FC Bv (lf Uf) g)
def No (ix:zn)(cv:eH)(aE:cg)(jJ:wA)(x:Bv.B):Pg YJ:=let n3:=x.2.2;let n2:=x.1.2.1;let n1:=n2.2.2.1;opt (ix n2.1.1 n2.1.2.1 n2.1.2.2 n3.1.1 n3.1.2.1 n3.1.2.2 n3.2.1 n3.2.2 x.2.1) λd=>ae (d.1.2!=0) (ret (((λx=>0,0,0,0),d.1.2),d.2)) (opt (cv 4 false (cr n1 [n1,n1,n1,n1]) true) λaj=>opt (aE aj.1 1 72057594037927936 aj.2) λaC=>opt (jJ x.1.1 9 d.1.1.2.2 aC.1 x.1.2.2 d.2) λd=>ret ((d.1,0),d.2))
def FG:=λx=>(No lL cC aT dV x).val
theorem aGC:∀ix cv aE jJ,D0 [EN ix,pT cv,eA aE,GK jJ] 227 Bv (lf Uf) λb=>No ix cv aE jJ b:=λ_ _ _ _ b=>by kernel_rfl
theorem aGD [ax]:SC (anY FG):=s0 (.c Nn (.c sF (.c eX (.c PF (.nil _))))) (aGC lL cC aT dV)
def YK:=qa (pl jb nil)
def HF:=qe Hm
abbrev Ko:=HF.B
abbrev YL:=Int->Option Ko
def YM (g:YL):Ct:=(203,FC YK (lf HF) (λb=>g b))
def Cv (aq:bW)(aE:cg)(x0:Int):Pg Ko:=opt (aq (wI (x0*x0)) 17592186044416 1000000 false) λd=>opt (aE d.1 1 72057594037927936 d.2) λd=>ret d.1
def xj:=λx0=>(Cv aP aT x0).val
theorem auh:∀aq aE,D0 [dF aq,eA aE] 203 YK (lf HF) λb=>Cv aq aE b:=λ_ _ b=>by kernel_rfl
theorem aui [ax]:SC (YM xj):=s0 (.c dS (.c eX (.nil _))) (auh aP aT)
def anZ:=qa (pr (cu aQ (c aKQ zY)) bF)
def Ug:=qe aRC
abbrev YN:=Ug.B
abbrev YO:=Int->Int->Int->Int->Int->Int->Int->Int->Int->Int->Int->Bool->Option YN
def YP (g:YO):Ct:=(139,FC anZ (lf Ug) (λb=>g b.1.1.1 b.1.1.2.1 b.1.1.b.1 b.1.1.b.2.1 b.1.1.c.1 b.1.1.c.2.1 b.1.1.c.b.1 b.1.1.c.b.2.1 b.1.1.d b.1.2.1 b.1.b b.2))
def Np (aq:bW)(Cw:YL)(x0:Int)(x1:Int)(x2:Int)(x3:Int)(x4:Int)(x5:Int)(x6:Int)(x7:Int)(x8:Int)(x9:Int)(fG:Int)(fD:Bool):Pg YN:=ae (decide (x1<x9)) (ret (((0,0),1),fD)) (ae (decide (x1>fG)) (ret (((0,0),1),fD)) (ae (decide (x2<1)) (ret (((0,0),1),fD)) (ae (decide (x2>1000000)) (ret (((0,0),1),fD)) (opt (aq x1 1073741824 1000 fD) λd=>opt (Cw x2) λaj=>ret (((d.1,aj),0),d.2)))))
def xm:=λx0 x1 x2 x3 x4 x5 x6 x7 x8 x9 fG fD=>(Np aP xj x0 x1 x2 x3 x4 x5 x6 x7 x8 x9 fG fD).val
theorem aGE:∀aq Cw,D1 [dF aq,YM Cw] [0] 139 anZ (lf Ug) λb=>Np aq Cw b.1.1.1 b.1.1.2.1 b.1.1.b.1 b.1.1.b.2.1 b.1.1.c.1 b.1.1.c.2.1 b.1.1.c.b.1 b.1.1.c.b.2.1 b.1.1.d b.1.2.1 b.1.b b.2:=λ_ _ b=>by kernel_rfl
theorem an0 [ax]:SC (YP xm):=s0 (.c dS (.c aui (.nil _))) (aGE aP xj)
def YQ:=qa (pr (cu aQ Ee) bF)
def HG:=qe aRC
abbrev Kp:=HG.B
abbrev Kq:=Int->Int->Int->Int->Int->Int->Int->Int->Int->Bool->Option Kp
def Kr (g:Kq):Ct:=(90,FC YQ (lf HG) (λb=>g b.1.1 b.1.2.1 b.1.b.1 b.1.b.2.1 b.1.c.1 b.1.c.2.1 b.1.c.b.1 b.1.c.b.2.1 b.1.d b.2))
def Cy (qo:YO)(x0:Int)(x1:Int)(x2:Int)(x3:Int)(x4:Int)(x5:Int)(x6:Int)(x7:Int)(x8:Int)(x9:Bool):Pg Kp:=opt (qo x0 x1 x2 x3 x4 x5 x6 x7 x8 (-100000000) 100000000 x9) λd=>ret d
def oO:=λx0 x1 x2 x3 x4 x5 x6 x7 x8 x9=>(Cy xm x0 x1 x2 x3 x4 x5 x6 x7 x8 x9).val
theorem auj:∀qo,D0 [YP qo] 90 YQ (lf HG) λb=>Cy qo b.1.1 b.1.2.1 b.1.b.1 b.1.b.2.1 b.1.c.1 b.1.c.2.1 b.1.c.b.1 b.1.c.b.2.1 b.1.d b.2:=λ_ b=>by kernel_rfl
theorem YR [ax]:SC (Kr oO):=s0 (.c an0 (.nil _)) (auj xm)
def an1:=qa (pr (cu aQ (c mc (c (aa alp) jb))) bF)
def Uh:=qe aXH
abbrev an2:=Uh.B
abbrev an3:=NI->Int->Int->Int->Bool->Option an2
def an4 (g:an3):Ct:=(170,FC an1 (lf Uh) (λb=>g b.1.1 b.1.2.1.1 b.1.2.1.2 b.1.b b.2))
def YS (oD:Ua)(aw:bQ)(aY:dt)(x0:Nat->Int)(x1:Int)(x2:Int)(x3:Int)(x4:Bool):Pg an2:=opt (oD 1 (λj=>bif ww j 0 then 9 else 9) true) λd=>opt (aw x1 x4) λaj=>opt (aY (wI (0-aj.1)) (x0 9) aj.2) λaC=>ret ((d,aC.1,x2,x3),aC.2)
def Bw:=λx0 x1 x2 x3 x4=>(YS qN aM bu x0 x1 x2 x3 x4).val
theorem aGF:∀oD aw aY,D0 [Ub oD,dG aw,iP aY] 170 an1 (lf Uh) λb=>YS oD aw aY b.1.1 b.1.2.1.1 b.1.2.1.2 b.1.b b.2:=λ_ _ _ b=>by kernel_rfl
theorem aGG [ax]:SC (an4 Bw):=s0 (.c ajR (.c dN (.c jN (.nil _)))) (aGF qN aM bu)
def U5:=qa (pr (cu aQ Ee) bF)
def FH:=qe (res (pr aXe (pl nd nil)))
abbrev HH:=FH.B
abbrev HI:=Int->Int->Int->Int->Int->Int->Int->Int->Int->Bool->Option HH
def HJ (g:HI):Ct:=(91,FC U5 (lf FH) (λb=>g b.1.1 b.1.2.1 b.1.b.1 b.1.b.2.1 b.1.c.1 b.1.c.2.1 b.1.c.b.1 b.1.c.b.2.1 b.1.d b.2))
def AO (qo:YO)(x0:Int)(x1:Int)(x2:Int)(x3:Int)(x4:Int)(x5:Int)(x6:Int)(x7:Int)(x8:Int)(x9:Bool):Pg HH:=ae (decide (x3<0)) (ret (((0,0,0),1),x9)) (ae (decide (x3>100)) (ret (((0,0,0),1),x9)) (opt (qo x0 x1 x2 x3 x4 x5 x6 x7 x8 1 1000000 x9) λd=>ae (d.1.2!=0) (ret (((0,0,0),d.1.2),d.2)) (ret (((d.1.1.1,d.1.1.2,x3),0),d.2))))
def nk:=λx0 x1 x2 x3 x4 x5 x6 x7 x8 x9=>(AO xm x0 x1 x2 x3 x4 x5 x6 x7 x8 x9).val
theorem aqb:∀qo,D1 [YP qo] [0] 91 U5 (lf FH) λb=>AO qo b.1.1 b.1.2.1 b.1.b.1 b.1.b.2.1 b.1.c.1 b.1.c.2.1 b.1.c.b.1 b.1.c.b.2.1 b.1.d b.2:=λ_ b=>by kernel_rfl
theorem U6 [ax]:SC (HJ nk):=s0 (.c an0 (.nil _)) (aqb xm)
def ajS:=qa (pr (cu aQ (c mc (c (aa (a 2 alp nP)) jb))) bF)
def PI:=qe aEt
abbrev Ui:=PI.B
abbrev ajT:=NI->Int->Int->Int->Int->Bool->Option Ui
def ajU (g:ajT):Ct:=(171,FC ajS (lf PI) (λb=>g b.1.1 b.1.2.1.1.1 b.1.2.1.1.2 b.1.2.1.2 b.1.b b.2))
def Ji (bf:eJ)(fN:rK)(aD:cB)(aY:dt)(cv:eH)(aB:bL)(x0:Nat->Int)(x1:Int)(x2:Int)(x3:Int)(x4:Int)(x5:Bool):Pg Ui:=opt (bf x0) λd=>let n1:=d.2.2;opt (fN d.1 d.2.1 n1.1 n1.2 x5) λaj=>ae (decide (aj.1 8<751619277)) (ret (((λx=>0,0,0,0),4),aj.2)) (ae (decide (x3<50)) (ret (((λx=>0,0,0,0),4),aj.2)) (opt (aD (x0 9) (aj.1 8) 30 aj.2) λaC=>opt (aY x1 (wI (0-aC.1)) aC.2) λbC=>opt (aD 1073741824 (aj.1 8) 30 bC.2) λcK=>opt (aD aC.1 (aj.1 8) 30 cK.2) λfE=>opt (cv 2 fE.2 (cr d.1 [d.1,d.1]) true) λdC=>opt (aB fE.1 dC.1 30 dC.2) λnX=>opt (cv 2 nX.2 (cr d.2.1 [d.2.1,d.2.1]) true) λtY=>opt (aB fE.1 (wI (0-tY.1)) 30 tY.2) λp7=>opt (cv 2 p7.2 (cr n1.1 [n1.1,n1.1]) true) λmO=>opt (aB fE.1 (wI (0-mO.1)) 30 mO.2) λxW=>opt (cv 2 xW.2 (cr n1.2 [n1.2,n1.2]) true) λd=>opt (aB fE.1 d.1 30 d.2) λd=>ret (((λj=>bif ww j 3 then d.1 else bif ww j 2 then xW.1 else bif ww j 1 then p7.1 else bif ww j 0 then nX.1 else bif ww j 9 then wI (0-cK.1) else 0,bC.1,x2,x4),0),d.2)))
def DA:=λx0 x1 x2 x3 x4 x5=>(Ji bp kO bl bu cC aX x0 x1 x2 x3 x4 x5).val
abbrev Uj:=eJ×rK×cB×dt×eH×bL
def ajV (p:Uj):KK:=⟨[ke p.1,D3 p.2.1,gV p.b.1,iP p.b.2.1,pT p.c.1,fO p.c.2],⟨[⟨10,(1::rg 3 5 (rg 9 4 (rg 15 43 (rg 60 11 (rg 73 13 []))))),[]⟩],[],[],[],(some ⟨0,(rg 0 8 (rg 10 76 [])),[]⟩)⟩,0,171⟩
theorem aC3 (p:Uj):D2 (ajV p) ajS (lf PI) λb=>Ji p.1 p.2.1 p.b.1 p.b.2.1 p.c.1 p.c.2 b.1.1 b.1.2.1.1.1 b.1.2.1.1.2 b.1.2.1.2 b.1.b b.2:=λb=>by kernel_rfl
abbrev ajW:Uj:=(bp,kO,bl,bu,cC,aX)
theorem aC4 [ax]:SC (ajU DA):=sc (kS (k:=ajV ajW) (.c lK (.c GB (.c iO (.c jN (.c sF (.c gx (.nil _))))))) [10] [] ⟨kN,trivial⟩ trivial (aC3 ajW))
def ajX:=qa (pl jb nil)
def PJ:=qe Hm
abbrev Uk:=PJ.B
abbrev Ul:=Int->Option Uk
def ajY (g:Ul):Ct:=(140,FC ajX (lf PJ) (λb=>g b))
def Jj (aq:bW)(aE:cg)(x0:Int):Pg Uk:=opt (aq (wI (x0*x0)) 17592186044416 1000000000000 false) λd=>opt (aE d.1 1 72057594037927936 d.2) λd=>ret d.1
def DB:=λx0=>(Jj aP aT x0).val
theorem aC5:∀aq aE,D0 [dF aq,eA aE] 140 ajX (lf PJ) λb=>Jj aq aE b:=λ_ _ b=>by kernel_rfl
theorem aC6 [ax]:SC (ajY DB):=s0 (.c dS (.c eX (.nil _))) (aC5 aP aT)
def aBU:=qa (pr (cu aQ Ee) bF)
def ah8:=qe aXM
abbrev an5:=ah8.B
abbrev abu:=Int->Int->Int->Int->Int->Int->Int->Int->Int->Bool->Option an5
def abv (g:abu):Ct:=(92,FC aBU (lf ah8) (λb=>g b.1.1 b.1.2.1 b.1.b.1 b.1.b.2.1 b.1.c.1 b.1.c.2.1 b.1.c.b.1 b.1.c.b.2.1 b.1.d b.2))
def abw (aC7:Ul)(aq:bW)(x0:Int)(x1:Int)(x2:Int)(x3:Int)(x4:Int)(x5:Int)(x6:Int)(x7:Int)(x8:Int)(x9:Bool):Pg an5:=ae (decide (x4<1)) (ret (((0,0,0,0),1),x9)) (ae (decide (x4>1000000)) (ret (((0,0,0,0),1),x9)) (opt (aC7 x4) λd=>ae (decide (x1< -2000000)) (ret (((0,0,0,0),1),x9)) (ae (decide (x1>2000000)) (ret (((0,0,0,0),1),x9)) (opt (aq x1 1073741824 1000000 x9) λaj=>ae (decide (x2< -2000000)) (ret (((0,0,0,0),1),aj.2)) (ae (decide (x2>2000000)) (ret (((0,0,0,0),1),aj.2)) (opt (aq x2 1073741824 1000000 aj.2) λaC=>ae (decide (x3< -2000000)) (ret (((0,0,0,0),1),aC.2)) (ae (decide (x3>2000000)) (ret (((0,0,0,0),1),aC.2)) (opt (aq x3 1073741824 1000000 aC.2) λbC=>ret (((aj.1,aC.1,bC.1,d),0),bC.2)))))))))
def zo:=λx0 x1 x2 x3 x4 x5 x6 x7 x8 x9=>(abw DB aP x0 x1 x2 x3 x4 x5 x6 x7 x8 x9).val
abbrev an6:=Ul×bW
def aBV (p:an6):KK:=⟨[ajY p.1,dF p.2],⟨[⟨5,(1::2::rg 7 17 (rg 25 8 (rg 38 13 []))),[]⟩],[],[0],[],(some ⟨0,(rg 0 4 (rg 6 45 [])),[]⟩)⟩,0,92⟩
theorem aPC (p:an6):D2 (aBV p) aBU (lf ah8) λb=>abw p.1 p.2 b.1.1 b.1.2.1 b.1.b.1 b.1.b.2.1 b.1.c.1 b.1.c.2.1 b.1.c.b.1 b.1.c.b.2.1 b.1.d b.2:=λb=>by kernel_rfl
abbrev aBW:an6:=(DB,aP)
theorem an7 [ax]:SC (abv zo):=sc (kS (k:=aBV aBW) (.c aC6 (.c dS (.nil _))) [5] [] ⟨kN,trivial⟩ trivial (aPC aBW))
def aBX:=qa (pr (cu aQ (c mc (c aRn jb))) bF)
def aL8:=qe aYc
abbrev abx:=(Bool×NI×Int×Int×Int×NI×Int×NI×Int)
def aBY:abx->T:=λd=>lf aL8 (d.1,d.2.1,d.b.1,d.b.2.1,d.c.1,d.c.2.1,d.c.b.1,d.b.2.1,d.c.1,d.c.b.2.1,d.d,d.b.2.1,d.c.1)
abbrev aBZ:=NI->Int->Int->Int->Int->Int->Bool->Option abx
def aB0 (g:aBZ):Ct:=(233,FC aBX aBY (λb=>g b.1.1 b.1.2.1.1.1 b.1.2.1.1.2.1 b.1.2.1.1.b b.1.2.1.2 b.1.b b.2))
def aby (bf:eJ)(bG:mL)(fN:rK)(R7:Fw)(ah9:Mr)(adJ:Ip)(cv:eH)(aY:dt)(x0:Nat->Int)(x1:Int)(x2:Int)(x3:Int)(x4:Int)(x5:Int)(x6:Bool):Pg abx:=opt (bf x0) λd=>opt (bG x0 16) λaj=>opt (bG x0 19) λaC=>opt (fN d.1 d.2.1 d.2.2.1 d.2.2.2 x6) λbC=>opt (R7 bC.1 aj.1 aj.2.1 aj.2.2 bC.2) λcK=>opt (ah9 d.1 d.2.1 d.2.2.1 d.2.2.2) λd=>opt (adJ d.1 d.2.1 d.2.2.1 d.2.2.2 aj.1 aj.2.1 aj.2.2 cK.2) λd=>let n2:=d.1.2.2;let n1:=n2.2.2.2;let n3:=n1.2.2.2;opt (cv 2 d.2 (cr cK.1.1 [aC.1,cK.1.1]) true) λfE=>opt (aY x1 fE.1 fE.2) λdC=>opt (cv 2 dC.2 (cr cK.1.2.1 [aC.2.1,cK.1.2.1]) true) λnX=>opt (aY x2 nX.1 nX.2) λtY=>opt (cv 2 tY.2 (cr cK.1.2.2 [aC.2.2,cK.1.2.2]) true) λp7=>opt (aY x3 p7.1 p7.2) λmO=>ret (mO.2,λj=>bif ww j 19 then 1073741824 else bif ww j 18 then bC.1 6 else bif ww j 17 then bC.1 3 else bif ww j 16 then bC.1 0 else bif ww j 3 then wI (0-n2.2.1) else bif ww j 2 then wI (0-n2.1) else bif ww j 1 then wI (0-d.1.2.1) else bif ww j 0 then d.1.1 else 0,dC.1,x4,x5,λj=>bif ww j 20 then 1073741824 else bif ww j 18 then bC.1 7 else bif ww j 17 then bC.1 4 else bif ww j 16 then bC.1 1 else bif ww j 3 then wI (0-n1.2.2.1) else bif ww j 2 then wI (0-n1.2.1) else bif ww j 1 then wI (0-n1.1) else bif ww j 0 then n2.2.2.1 else 0,tY.1,λj=>bif ww j 21 then 1073741824 else bif ww j 18 then bC.1 8 else bif ww j 17 then bC.1 5 else bif ww j 16 then bC.1 2 else bif ww j 3 then wI (0-n3.2.2.2) else bif ww j 2 then wI (0-n3.2.2.1) else bif ww j 1 then wI (0-n3.2.1) else bif ww j 0 then n3.1 else 0,mO.1)
def R8:=λx0 x1 x2 x3 x4 x5 x6=>(aby bp cM kO za vf Al cC bu x0 x1 x2 x3 x4 x5 x6).val
abbrev an8:=eJ×mL×rK×Fw×Mr×Ip×eH×dt
def aB1 (p:an8):KK:=⟨[ke p.1,sG p.2.1,D3 p.b.1,aa0 p.b.2.1,ahr p.c.1,adB p.c.2.1,pT p.c.b.1,iP p.c.b.2],⟨[⟨7,(1::2::4::5::rg 7 4 (rg 16 23 (rg 40 62 []))),[]⟩,⟨11,(1::2::4::5::rg 7 4 (rg 18 21 (rg 40 23 (rg 65 37 [])))),[]⟩,⟨18,(1::2::4::5::rg 7 4 (rg 18 21 (rg 40 38 (rg 79 23 [])))),[]⟩],[],[],[],(some ⟨0,(rg 0 8 (rg 9 93 [])),[]⟩)⟩,0,233⟩
theorem aPD (p:an8):D2 (aB1 p) aBX aBY λb=>aby p.1 p.2.1 p.b.1 p.b.2.1 p.c.1 p.c.2.1 p.c.b.1 p.c.b.2 b.1.1 b.1.2.1.1.1 b.1.2.1.1.2.1 b.1.2.1.1.b b.1.2.1.2 b.1.b b.2:=λb=>by kernel_rfl
abbrev aB2:an8:=(bp,cM,kO,za,vf,Al,cC,bu)
theorem aPE [ax]:SC (aB0 R8):=sc (kS (k:=aB1 aB2) (.c lK (.c vQ (.c GB (.c am0 (.c awa (.c asf (.c sF (.c jN (.nil _))))))))) [7,11,18] [] ⟨kN,⟨kN,⟨kN,trivial⟩⟩⟩ trivial (aPD aB2))
def asl:=qa (pr (cu aQ Hp) bF)
def YT:=qe (res (pr aRd (pl nd nil)))
abbrev adK:=YT.B
abbrev Rj:=Int->Int->Int->Bool->Option adK
def adL (g:Rj):Ct:=(248,FC asl (lf YT) (λb=>g b.1.1 b.1.2.1 b.1.b b.2))
def Rk (kM:Af)(sJ:acN)(x0:Int)(x1:Int)(x2:Int)(x3:Bool):Pg adK:=opt (kM 2 x3 (cr x0 [x1,x0]) true) λd=>ae (decide (d.1<16777216)) (ret ((0,false),d.2)) (opt (sJ x1 x0 d.2) λd=>ret ((d.1,true),d.2))
def An:=λx0 x1 x2 x3=>(Rk fa Ae x0 x1 x2 x3).val
theorem aIj:∀kM sJ,D0 [Ii kM,acO sJ] 248 asl (lf YT) λb=>Rk kM sJ b.1.1 b.1.2.1 b.1.b b.2:=λ_ _ b=>by kernel_rfl
theorem asm [ax]:SC (adL An):=s0 (.c QY (.c arF (.nil _))) (aIj fa Ae)
def an9:=qa (pr (cu aQ (c mc (c aRn Fb))) bF)
def Um:=qe aEt
abbrev YU:=Um.B
abbrev aoa:=NI->Int->Int->Int->Int->Int->Int->Int->Bool->Option YU
def aob (g:aoa):Ct:=(235,FC an9 (lf Um) (λb=>g b.1.1 b.1.2.1.1.1 b.1.2.1.1.2.1 b.1.2.1.1.b b.1.2.1.2 b.1.b.1 b.1.b.2.1 b.1.c b.2))
def Nq (bf:eJ)(fN:rK)(bG:mL)(oN:JU)(js:Gy)(D7:Rj)(kM:Af)(aY:dt)(dB:yW)(bg:ei)(cv:eH)(aD:cB)(x0:Nat->Int)(x1:Int)(x2:Int)(x3:Int)(x4:Int)(x5:Int)(x6:Int)(x7:Int)(x8:Bool):Pg YU:=opt (bf x0) λd=>let n1:=d.2.2;opt (fN d.1 d.2.1 n1.1 n1.2 x8) λaj=>opt (bG x0 19) λaC=>opt (oN x1 x2 x3 aC.1 aC.2.1 aC.2.2 aj.2) λbC=>opt (js aj.1 bC.1.1 bC.1.2.1 bC.1.2.2 bC.2) λcK=>opt (D7 cK.1.1 cK.1.2.1 cK.1.2.2 cK.2) λfE=>ae (!fE.1.2) (ret (((λx=>0,0,0,0),4),fE.2)) (opt (kM 2 fE.2 (cr (aj.1 0) [aj.1 3,aj.1 0]) true) λdC=>ae (decide (dC.1<16777216)) (ret (((λx=>0,0,0,0),4),dC.2)) (opt (aY x5 fE.1.1 dC.2) λnX=>opt (dB nX.1) λtY=>opt (bg 30 2 2 nX.2 (cr (aj.1 0) [aj.1 3,aj.1 0]) (cr (aj.1 0) [aj.1 3,aj.1 0]) true true) λp7=>opt (cv 2 p7.2 (cr d.1 [d.1,d.1]) true) λmO=>opt (cv 2 mO.2 (cr d.2.1 [d.2.1,d.2.1]) true) λxW=>opt (cv 2 xW.2 (cr n1.1 [n1.1,n1.1]) true) λLg=>opt (cv 2 Lg.2 (cr n1.2 [n1.2,n1.2]) true) λd=>opt (bg 30 2 2 d.2 (cr (aj.1 0) [wI (0-aj.1 3),aj.1 0]) (cr d.1 [mO.1,d.1]) true true) λMS=>opt (aD MS.1 p7.1 30 MS.2) λaGA=>opt (bg 30 2 2 aGA.2 (cr (aj.1 0) [wI (0-aj.1 3),aj.1 0]) (cr Lg.1 [xW.1,Lg.1]) true true) λabp=>opt (aD abp.1 p7.1 30 abp.2) λae2=>opt (bg 30 2 2 ae2.2 (cr (aj.1 0) [wI (0-aj.1 3),aj.1 0]) (cr xW.1 [wI (0-Lg.1),xW.1]) true true) λabq=>opt (aD abq.1 p7.1 30 abq.2) λaGB=>opt (bg 30 2 2 aGB.2 (cr (aj.1 0) [wI (0-aj.1 3),aj.1 0]) (cr mO.1 [wI (0-d.1),mO.1]) true true) λd=>opt (aD d.1 p7.1 30 d.2) λd=>ret (((cr 0 [d.1,aGB.1,ae2.1,aGA.1],tY,x6,x7),0),d.2)))
def FI:=λx0 x1 x2 x3 x4 x5 x6 x7 x8=>(Nq bp kO cM p9 qd An fa bu fM bx cC bl x0 x1 x2 x3 x4 x5 x6 x7 x8).val
abbrev YV:=eJ×rK×mL×JU×Gy×Rj×Af×dt×yW×ei×eH×cB
def aoc (p:YV):KK:=⟨[ke p.1,D3 p.2.1,sG p.b.1,Xu p.b.2.1,Mz p.c.1,adL p.c.2.1,Ii p.c.b.1,iP p.c.b.2.1,Cm p.d.1,nY p.d.2.1,pT p.d.b.1,gV p.d.b.2],⟨[⟨10,(rg 1 11 (13::14::16::17::rg 21 57 (rg 80 58 []))),[]⟩,⟨17,(rg 1 11 (13::14::16::17::20::21::22::rg 25 86 (rg 112 26 []))),[]⟩],[],[],[],(some ⟨0,(rg 0 12 (rg 14 124 [])),[]⟩)⟩,0,235⟩
theorem aGH (p:YV):D2 (aoc p) an9 (lf Um) λb=>Nq p.1 p.2.1 p.b.1 p.b.2.1 p.c.1 p.c.2.1 p.c.b.1 p.c.b.2.1 p.d.1 p.d.2.1 p.d.b.1 p.d.b.2 b.1.1 b.1.2.1.1.1 b.1.2.1.1.2.1 b.1.2.1.1.b b.1.2.1.2 b.1.b.1 b.1.b.2.1 b.1.c b.2:=λb=>by kernel_rfl
abbrev aod:YV:=(bp,kO,cM,p9,qd,An,fa,bu,fM,bx,cC,bl)
theorem aGI [ax]:SC (aob FI):=sc (kS (k:=aoc aod) (.c lK (.c GB (.c vQ (.c ahk (.c VH (.c asm (.c QY (.c jN (.c Gs (.c pU (.c sF (.c iO (.nil _))))))))))))) [10,17] [] ⟨kN,⟨kN,trivial⟩⟩ trivial (aGH aod))
def aw1:=qa (pr (cu aQ (c agh (c aRn jb))) bF)
def adM:=qe aRA
abbrev aia:=adM.B
abbrev aw2:=Int->Int->Int->Int->Int->Int->Int->Int->Int->Bool->Option aia
def aw3 (g:aw2):Ct:=(219,FC aw1 (lf adM) (λb=>g b.1.1.1 b.1.1.2.1 b.1.1.b.1 b.1.1.b.2 b.1.2.1.1.1 b.1.2.1.1.2.1 b.1.2.1.1.b b.1.2.1.2 b.1.b b.2))
def VX (fN:rK)(js:Gy)(D7:Rj)(aY:dt)(dB:yW)(x0:Int)(x1:Int)(x2:Int)(x3:Int)(x4:Int)(x5:Int)(x6:Int)(x7:Int)(x8:Int)(x9:Bool):Pg aia:=opt (fN x0 x1 x2 x3 x9) λd=>opt (js d.1 x4 x5 x6 d.2) λd=>opt (D7 d.1.1 d.1.2.1 d.1.2.2 d.2) λd=>ae (!d.1.2) (ret ((0,4),d.2)) (opt (aY x8 d.1.1 d.2) λd=>opt (dB d.1) λaj=>ret ((aj,0),d.2))
def Nr:=λx0 x1 x2 x3 x4 x5 x6 x7 x8 x9=>(VX kO qd An bu fM x0 x1 x2 x3 x4 x5 x6 x7 x8 x9).val
theorem aL9:∀fN js D7 aY dB,D0 [D3 fN,Mz js,adL D7,iP aY,Cm dB] 219 aw1 (lf adM) λb=>VX fN js D7 aY dB b.1.1.1 b.1.1.2.1 b.1.1.b.1 b.1.1.b.2 b.1.2.1.1.1 b.1.2.1.1.2.1 b.1.2.1.1.b b.1.2.1.2 b.1.b b.2:=λ_ _ _ _ _ b=>by kernel_rfl
theorem aMa [ax]:SC (aw3 Nr):=s0 (.c GB (.c VH (.c asm (.c jN (.c Gs (.nil _)))))) (aL9 kO qd An bu fM)
def ajZ:=qa (pl jb nil)
def PK:=qe Hm
abbrev Un:=PK.B
abbrev aj0:=Int->Option Un
def aj1 (g:aj0):Ct:=(141,FC ajZ (lf PK) (λb=>g b))
def Jk (aq:bW)(aE:cg)(x0:Int):Pg Un:=opt (aq (wI (x0*x0)) 17592186044416 1000000 false) λd=>opt (aE d.1 1 72057594037927936 d.2) λd=>ret d.1
def DD:=λx0=>(Jk aP aT x0).val
theorem aC8:∀aq aE,D0 [dF aq,eA aE] 141 ajZ (lf PK) λb=>Jk aq aE b:=λ_ _ b=>by kernel_rfl
theorem aC9 [ax]:SC (aj1 DD):=s0 (.c dS (.c eX (.nil _))) (aC8 aP aT)
def aB3:=qa (pr (cu aQ Ee) bF)
def aib:=qe aRC
abbrev aoe:=aib.B
abbrev aof:=Int->Int->Int->Int->Int->Int->Int->Int->Int->Bool->Option aoe
def aog (g:aof):Ct:=(93,FC aB3 (lf aib) (λb=>g b.1.1 b.1.2.1 b.1.b.1 b.1.b.2.1 b.1.c.1 b.1.c.2.1 b.1.c.b.1 b.1.c.b.2.1 b.1.d b.2))
def abz (aq:bW)(Jl:aj0)(x0:Int)(x1:Int)(x2:Int)(x3:Int)(x4:Int)(x5:Int)(x6:Int)(x7:Int)(x8:Int)(x9:Bool):Pg aoe:=ae (decide (x1<0)) (ret (((0,0),1),x9)) (ae (decide (x1>300000)) (ret (((0,0),1),x9)) (ae (decide (x2<1)) (ret (((0,0),1),x9)) (ae (decide (x2>1000000)) (ret (((0,0),1),x9)) (opt (aq x1 1073741824 1000 x9) λd=>opt (Jl x2) λaj=>ret (((d.1,aj),0),d.2)))))
def FJ:=λx0 x1 x2 x3 x4 x5 x6 x7 x8 x9=>(abz aP DD x0 x1 x2 x3 x4 x5 x6 x7 x8 x9).val
theorem aPF:∀aq Jl,D1 [dF aq,aj1 Jl] [0] 93 aB3 (lf aib) λb=>abz aq Jl b.1.1 b.1.2.1 b.1.b.1 b.1.b.2.1 b.1.c.1 b.1.c.2.1 b.1.c.b.1 b.1.c.b.2.1 b.1.d b.2:=λ_ _ b=>by kernel_rfl
theorem aB4 [ax]:SC (aog FJ):=s0 (.c dS (.c aC9 (.nil _))) (aPF aP DD)
def aj2:=qa (pr (cu aQ atk) bF)
def PM:=qe aya
abbrev aj3:=PM.B
abbrev DE:=NI->Bool->Option aj3
def Uo (g:DE):Ct:=(258,FC aj2 (lf PM) (λb=>g b.1 b.2))
def Uq (bG:mL)(oN:JU)(x0:Nat->Int)(x1:Bool):Pg aj3:=opt (bG x0 4) λd=>opt (oN d.1 d.2.1 d.2.2 (x0 22) (x0 23) 0 x1) λd=>ret d
def oE:=λx0 x1=>(Uq cM p9 x0 x1).val
theorem aDa:∀bG oN,D0 [sG bG,Xu oN] 258 aj2 (lf PM) λb=>Uq bG oN b.1 b.2:=λ_ _ b=>by kernel_rfl
theorem aj4 [ax]:SC (Uo oE):=s0 (.c vQ (.c ahk (.nil _))) (aDa cM p9)
def aw4:=qa (pr (cu (app 0 27) Hp) (cl ax7 nil))
def adN:=qe (res (pu RB (pl (cl (zX ax7) nil) nil)))
abbrev aw5:=adN.B
abbrev Ns:=Int->Int->Int->NI->Int->Int->Int->Option aw5
def aic (g:Ns):Ct:=(259,FC aw4 (lf adN) (λb=>g b.1.1 b.1.2.1 b.1.b b.2.1 b.b.1 b.b.2.1 b.c))
def aie (x0:Int)(x1:Int)(x2:Int)(x3:Nat->Int)(x4:Int)(x5:Int)(x6:Int):Pg aw5:=ret (λj=>bif ww j 6 then x2 else bif ww j 23 then wI (0-x1) else bif ww j 5 then x1 else bif ww j 22 then wI (0-x0) else bif ww j 4 then x0 else x3 j,x4,x5,x6)
def vi:=λx0 x1 x2 x3 x4 x5 x6=>(aie x0 x1 x2 x3 x4 x5 x6).val
abbrev aif:=Unit
def aw6 (p:aif):KK:=⟨[],⟨[⟨2,(1::2::4::rg 6 24 []),[]⟩],[],[],[],(some ⟨0,(rg 0 30 []),[]⟩)⟩,0,259⟩
theorem aMb (p:aif):D2 (aw6 p) aw4 (lf adN) λb=>aie b.1.1 b.1.2.1 b.1.b b.2.1 b.b.1 b.b.2.1 b.c:=λb=>by kernel_rfl
abbrev aw7:aif:=()
theorem aw8 [ax]:SC (aic vi):=sc (kS (k:=aw6 aw7) (.nil _) [2] [] ⟨kN,trivial⟩ trivial (aMb aw7))
def aj5:=qa (pr (cu aQ (c mc (c (aa alp) jb))) bF)
def PN:=qe aEt
abbrev Ur:=PN.B
abbrev aj6:=NI->Int->Int->Int->Bool->Option Ur
def aj7 (g:aj6):Ct:=(236,FC aj5 (lf PN) (λb=>g b.1.1 b.1.2.1.1 b.1.2.1.2 b.1.b b.2))
def Jm (Us:DE)(vU:BV)(aY:dt)(aD:cB)(aih:Ns)(x0:Nat->Int)(x1:Int)(x2:Int)(x3:Int)(x4:Bool):Pg Ur:=opt (Us x0 x4) λd=>opt (vU d.1.1 d.1.2.1 d.1.2.2 d.2) λaj=>ae (decide (aj.1<1073741824)) (ret (((λx=>0,0,0,0),4),aj.2)) (opt (aY x1 aj.1 aj.2) λaC=>opt (aD d.1.1 aj.1 30 aC.2) λbC=>opt (aD d.1.2.1 aj.1 30 bC.2) λcK=>opt (aD d.1.2.2 aj.1 30 cK.2) λd=>opt (aih bC.1 cK.1 d.1 (λx=>0) aC.1 x2 x3) λfE=>ret ((fE,0),d.2))
def DF:=λx0 x1 x2 x3 x4=>(Jm oE mi bu bl vi x0 x1 x2 x3 x4).val
abbrev Ut:=DE×BV×dt×cB×Ns
def aj8 (p:Ut):KK:=⟨[Uo p.1,RQ p.2.1,iP p.b.1,gV p.b.2.1,aic p.c],⟨[⟨8,(rg 1 7 (9::rg 14 19 (rg 34 14 []))),[]⟩],[],[],[],(some ⟨0,(rg 0 8 (rg 10 38 [])),[]⟩)⟩,0,236⟩
theorem aDb (p:Ut):D2 (aj8 p) aj5 (lf PN) λb=>Jm p.1 p.2.1 p.b.1 p.b.2.1 p.c b.1.1 b.1.2.1.1 b.1.2.1.2 b.1.b b.2:=λb=>by kernel_rfl
abbrev aj9:Ut:=(oE,mi,bu,bl,vi)
theorem aDc [ax]:SC (aj7 DF):=sc (kS (k:=aj8 aj9) (.c aj4 (.c aaO (.c jN (.c iO (.c aw8 (.nil _)))))) [8] [] ⟨kN,trivial⟩ trivial (aDb aj9))
def aka:=qa (pr (cu aQ (c mc zY)) bF)
def PO:=qe aEt
abbrev Uu:=PO.B
abbrev akb:=NI->Int->Int->Bool->Option Uu
def akc (g:akb):Ct:=(237,FC aka (lf PO) (λb=>g b.1.1 b.1.2.1 b.1.b b.2))
def Jo (bf:eJ)(fN:rK)(Us:DE)(R7:Fw)(aD:cB)(aB:bL)(aY:dt)(aih:Ns)(x0:Nat->Int)(x1:Int)(x2:Int)(x3:Bool):Pg Uu:=opt (bf x0) λd=>opt (fN d.1 d.2.1 d.2.2.1 d.2.2.2 x3) λd=>opt (Us x0 d.2) λaj=>opt (R7 d.1 aj.1.1 aj.1.2.1 aj.1.2.2 aj.2) λaC=>let n1:=aC.1.1;ae (decide (n1<5368709120)) (ret (((λx=>0,0,0,0),4),aC.2)) (opt (aD aC.1.2.1 n1 30 aC.2) λbC=>opt (aB bC.1 (d.1 0) 30 bC.2) λcK=>opt (aY (d.1 1) cK.1 cK.2) λfE=>opt (aD fE.1 n1 30 fE.2) λdC=>opt (aB bC.1 (d.1 3) 30 dC.2) λnX=>opt (aY (d.1 4) nX.1 nX.2) λtY=>opt (aD tY.1 n1 30 tY.2) λp7=>opt (aB bC.1 (d.1 6) 30 p7.2) λmO=>opt (aY (d.1 7) mO.1 mO.2) λd=>opt (aD d.1 n1 30 d.2) λd=>opt (aih dC.1 p7.1 d.1 (λx=>0) (wI (0-bC.1)) x1 x2) λxW=>ret ((xW,0),d.2))
def DG:=λx0 x1 x2 x3=>(Jo bp kO oE za bl aX bu vi x0 x1 x2 x3).val
abbrev Uv:=eJ×rK×DE×Fw×cB×bL×dt×Ns
def akd (p:Uv):KK:=⟨[ke p.1,D3 p.2.1,Uo p.b.1,aa0 p.b.2.1,gV p.c.1,fO p.c.2.1,iP p.c.b.1,aic p.c.b.2],⟨[⟨9,(rg 1 7 (9::rg 15 26 (rg 42 26 []))),[]⟩],[],[],[],(some ⟨0,(rg 0 8 (rg 10 58 [])),[]⟩)⟩,0,237⟩
theorem aDd (p:Uv):D2 (akd p) aka (lf PO) λb=>Jo p.1 p.2.1 p.b.1 p.b.2.1 p.c.1 p.c.2.1 p.c.b.1 p.c.b.2 b.1.1 b.1.2.1 b.1.b b.2:=λb=>by kernel_rfl
abbrev ake:Uv:=(bp,kO,oE,za,bl,aX,bu,vi)
theorem aDe [ax]:SC (akc DG):=sc (kS (k:=akd ake) (.c lK (.c GB (.c aj4 (.c am0 (.c iO (.c gx (.c jN (.c aw8 (.nil _))))))))) [9] [] ⟨kN,trivial⟩ trivial (aDd ake))
def afe:=qa (pl jb nil)
def Nt:=qe Hm
abbrev PS:=Nt.B
abbrev PU:=Int->Option PS
def aff (g:PU):Ct:=(142,FC afe (lf Nt) (λb=>g b))
def GL (aq:bW)(aE:cg)(x0:Int):Pg PS:=opt (aq (wI (x0*x0)) 17592186044416 1000000000000 false) λd=>opt (aE d.1 1 72057594037927936 d.2) λd=>ret d.1
def Bx:=λx0=>(GL aP aT x0).val
theorem azq:∀aq aE,D0 [dF aq,eA aE] 142 afe (lf Nt) λb=>GL aq aE b:=λ_ _ b=>by kernel_rfl
theorem azr [ax]:SC (aff Bx):=s0 (.c dS (.c eX (.nil _))) (azq aP aT)
def aw9:=qa (pr (cu aQ Ee) bF)
def adO:=qe aXM
abbrev aii:=adO.B
abbrev aij:=Int->Int->Int->Int->Int->Int->Int->Int->Int->Bool->Option aii
def aik (g:aij):Ct:=(94,FC aw9 (lf adO) (λb=>g b.1.1 b.1.2.1 b.1.b.1 b.1.b.2.1 b.1.c.1 b.1.c.2.1 b.1.c.b.1 b.1.c.b.2.1 b.1.d b.2))
def VY (aq:bW)(azs:PU)(x0:Int)(x1:Int)(x2:Int)(x3:Int)(x4:Int)(x5:Int)(x6:Int)(x7:Int)(x8:Int)(x9:Bool):Pg aii:=ae (decide (x1< -10000000)) (ret (((0,0,0,0),1),x9)) (ae (decide (x1>10000000)) (ret (((0,0,0,0),1),x9)) (ae (decide (x2< -10000000)) (ret (((0,0,0,0),1),x9)) (ae (decide (x2>10000000)) (ret (((0,0,0,0),1),x9)) (ae (decide (x3<1)) (ret (((0,0,0,0),1),x9)) (ae (decide (x3>10000000)) (ret (((0,0,0,0),1),x9)) (ae (decide (x4<0)) (ret (((0,0,0,0),1),x9)) (ae (decide (x4>100)) (ret (((0,0,0,0),1),x9)) (opt (aq x1 1073741824 1000000 x9) λd=>opt (aq x2 1073741824 1000000 d.2) λaj=>opt (azs x3) λaC=>ret (((d.1,aj.1,aC,x4),0),aj.2)))))))))
def Cz:=λx0 x1 x2 x3 x4 x5 x6 x7 x8 x9=>(VY aP Bx x0 x1 x2 x3 x4 x5 x6 x7 x8 x9).val
abbrev ail:=bW×PU
def axa (p:ail):KK:=⟨[dF p.1,aff p.2],⟨[⟨2,(1::rg 5 4 (rg 12 4 (17::rg 20 8 (32::33::38::39::rg 44 20 [])))),[]⟩],[],[0],[],(some ⟨0,(rg 0 4 (rg 6 58 [])),[]⟩)⟩,0,94⟩
theorem aMc (p:ail):D2 (axa p) aw9 (lf adO) λb=>VY p.1 p.2 b.1.1 b.1.2.1 b.1.b.1 b.1.b.2.1 b.1.c.1 b.1.c.2.1 b.1.c.b.1 b.1.c.b.2.1 b.1.d b.2:=λb=>by kernel_rfl
abbrev axb:ail:=(aP,Bx)
theorem axc [ax]:SC (aik Cz):=sc (kS (k:=axa axb) (.c dS (.c azr (.nil _))) [2] [] ⟨kN,trivial⟩ trivial (aMc axb))
def afg:=qa (pr (cu aQ atk) bF)
def Nu:=qe aRA
abbrev PX:=Nu.B
abbrev PY:=NI->Bool->Option PX
def afh (g:PY):Ct:=(260,FC afg (lf Nu) (λb=>g b.1 b.2))
def GM (bf:eJ)(fN:rK)(aD:cB)(x0:Nat->Int)(x1:Bool):Pg PX:=opt (bf x0) λd=>opt (fN d.1 d.2.1 d.2.2.1 d.2.2.2 x1) λd=>ae (decide (d.1 8<751619277)) (ret ((0,4),d.2)) (opt (aD (x0 9) (d.1 8) 30 d.2) λd=>let y0:=wI (0-d.1);ae (decide (y0<536870912)) (ret ((0,4),d.2)) (ret ((y0,0),d.2)))
def By:=λx0 x1=>(GM bp kO bl x0 x1).val
theorem azt:∀bf fN aD,D0 [ke bf,D3 fN,gV aD] 260 afg (lf Nu) λb=>GM bf fN aD b.1 b.2:=λ_ _ _ b=>by kernel_rfl
theorem azu [ax]:SC (afh By):=s0 (.c lK (.c GB (.c iO (.nil _)))) (azt bp kO bl)
def axd:=qa (pr (cu aQ (c mc (c agh jb))) bF)
def akf:=qe (res (pr aWZ (pl nd nil)))
def aDf:=qe (res (pu (sZ (cu (rc (jk (pu AY (pu wJ (pu (szl rq4) (pu (nat 27) jL)))))) als)) (pr nd (cl aRG nil))))
abbrev Nv:=akf.B⊕(Bool×NI×Int×Int×Int×NI×Int)
def axe:Nv->T:=ls (lf akf) (λd=>lf aDf (d.1,d.2.1,d.b.1,d.b.2.1,d.c.1,d.c.2.1,d.c.b,d.b.2.1,d.c.1))
abbrev axf:=NI->Int->Int->Int->Int->Int->Bool->Option Nv
def axg (g:axf):Ct:=(238,FC axd axe (λb=>g b.1.1 b.1.2.1.1 b.1.2.1.2.1 b.1.2.1.b.1 b.1.2.1.b.2 b.1.b b.2))
def Nw (azv:PY)(bf:eJ)(fN:rK)(bG:mL)(R7:Fw)(aD:cB)(aY:dt)(x0:Nat->Int)(x1:Int)(x2:Int)(x3:Int)(x4:Int)(x5:Int)(x6:Bool):Pg Nv:=ae (decide (x4<30)) (ret (wr (4,x6))) (opt (azv x0 x6) λd=>let n1:=d.1.1;ae (d.1.2!=0) (ret (wr (d.1.2,d.2))) (opt (bf x0) λaj=>opt (fN aj.1 aj.2.1 aj.2.2.1 aj.2.2.2 d.2) λaC=>opt (bG x0 4) λbC=>opt (R7 aC.1 bC.1 bC.2.1 bC.2.2 aC.2) λcK=>opt (aD cK.1.2.1 n1 30 cK.2) λfE=>opt (aY x1 fE.1 fE.2) λdC=>opt (aD cK.1.1 n1 30 dC.2) λnX=>opt (aY x2 (wI (0-nX.1)) nX.2) λtY=>opt (aD (aC.1 1) n1 30 tY.2) λp7=>opt (aD (aC.1 0) n1 30 p7.2) λmO=>opt (aD (aC.1 4) n1 30 mO.2) λxW=>opt (aD (aC.1 3) n1 30 xW.2) λLg=>opt (aD (aC.1 7) n1 30 Lg.2) λMS=>opt (aD (aC.1 6) n1 30 MS.2) λd=>ret (wn (d.2,λj=>bif ww j 6 then MS.1 else bif ww j 5 then xW.1 else bif ww j 4 then p7.1 else 0,dC.1,x3,x5,λj=>bif ww j 6 then wI (0-d.1) else bif ww j 5 then wI (0-Lg.1) else bif ww j 4 then wI (0-mO.1) else 0,tY.1))))
def CA:=λx0 x1 x2 x3 x4 x5 x6=>(Nw By bp kO cM za bl bu x0 x1 x2 x3 x4 x5 x6).val
abbrev aim:=PY×eJ×rK×mL×Fw×cB×dt
def axh (p:aim):KK:=⟨[afh p.1,ke p.2.1,D3 p.b.1,sG p.b.2.1,aa0 p.c.1,gV p.c.2.1,iP p.c.b],⟨[⟨11,(rg 1 9 (11::13::rg 16 49 (rg 66 30 []))),[]⟩],[],[0],[],(some ⟨0,(rg 0 8 (rg 10 86 [])),[]⟩)⟩,0,238⟩
theorem aMd (p:aim):D2 (axh p) axd axe λb=>Nw p.1 p.2.1 p.b.1 p.b.2.1 p.c.1 p.c.2.1 p.c.b b.1.1 b.1.2.1.1 b.1.2.1.2.1 b.1.2.1.b.1 b.1.2.1.b.2 b.1.b b.2:=λb=>by kernel_rfl
abbrev axi:aim:=(By,bp,kO,cM,za,bl,bu)
theorem aMe [ax]:SC (axg CA):=sc (kS (k:=axh axi) (.c azu (.c lK (.c GB (.c vQ (.c am0 (.c iO (.c jN (.nil _)))))))) [11] [] ⟨kN,trivial⟩ trivial (aMd axi))
def axj:=qa (pl jb nil)
def adP:=qe Fa
abbrev axk:=adP.B
abbrev VZ:=Int->Option axk
def V0 (g:VZ):Ct:=(83,FC axj (lf adP) (λb=>g b))
def V1 (x0:Int):Pg axk:=ae (decide (x0>=0)) (ret (decide (x0<6))) (ret false)
def qu:=λx0=>(V1 x0).val
theorem aMf:D0 [] 83 axj (lf adP) λb=>V1 b:=λb=>by kernel_rfl
theorem ain [ax]:SC (V0 qu):=s0 (.nil _) aMf
def R9:=qa (pr (cu KY jb) aRi)
def Em:=qe (res (pu RB (pl (cl (zX (cl gi (cu aL (cu ax3 nil)))) nil) nil)))
abbrev FK:=Em.B
abbrev Sa:=Int->Int->Int->Bool->Option FK
def Sb (g:Sa):Ct:=(265,FC R9 (lf Em) (λb=>g b.1 b.2.1 b.b.1 b.b.2))
def zp (x0:Int)(x1:Int)(x2:Int)(x3:Bool):Pg FK:=ae (!x3) (ret x0) (ae (decide (x0>x1)) (ret x0) (ret x1))
def mu:=λx0 x1 x2 x3=>(zp x0 x1 x2 x3).val
theorem aoh:D0 [] 265 R9 (lf Em) λb=>zp b.1 b.2.1 b.b.1 b.b.2:=λb=>by kernel_rfl
theorem aoi [ax]:SC (Sb mu):=s0 (.nil _) aoh
def Sc:=qa (pu (cu KY nil) aRi)
def En:=qe (res (pu RB (pl (cl (zX atj) nil) nil)))
abbrev FL:=En.B
abbrev Sd:=Int->Int->Bool->Option FL
def Se (g:Sd):Ct:=(266,FC Sc (lf En) (λb=>g b.1 b.2.1 b.b))
def zq (x0:Int)(x1:Int)(x2:Bool):Pg FL:=let y0:=wI (x1+1);ret (x0,if 1000<y0 then 1000 else y0,x2)
def mw:=λx0 x1 x2=>(zq x0 x1 x2).val
theorem aoj:D0 [] 266 Sc (lf En) λb=>zq b.1 b.2.1 b.b:=λb=>by kernel_rfl
theorem aok [ax]:SC (Se mw):=s0 (.nil _) aoj
def Is:=qa (dp (cu aAh (c ai (c ai aKu))) λa=>(c nQ (cl (cl (gs a.b.1 ati) nil) nil)))
def yg:=qe (res (pu RB (pl (cl aEq aab) nil)))
abbrev It:=yg.B
abbrev Iu:=Int->Int->Nat->NI->NI->(Nat->Bool)->NI->NI->NI->Int->(Nat->Bool)->NI->NI->Bool->Option It
def Iv (g:Iu):Ct:=(256,vN 3 [.b,.i .i64,.i .i64] (FC Is (lf yg) (λb=>g b.1.1 b.1.2.1 b.1.b.1 b.2.1.1.1 b.2.1.1.2.1 b.2.1.1.b.1 b.2.1.1.b.2.1 b.2.1.1.c.1 b.2.1.1.c.2 b.2.1.2 b.b.1 b.b.2.1 b.c b.1.b.2)))
def sK (lM:VZ)(sL:adq)(zt:Sa)(zu:Sd)(x0:Int)(x1:Int)(x2:Nat)(x3:Nat->Int)(x4:Nat->Int)(x5:Nat->Bool)(x6:Nat->Int)(x7:Nat->Int)(x8:Nat->Int)(x9:Int)(fG:Nat->Bool)(fD:Nat->Int)(Ad:Nat->Int)(w0:Bool):Pg It:=let n3:=((x5,x6,x7,x8).1 (ws x0));let n2:=((x4,x5,x6,x7,x8).1 (ws x0));let n1:=((x3,x4,x5,x6,x7,x8).1 (ws x0));let y0:=bk x0 6;let y1:=0+ws x0*6+3;let y2:=wd y1 36;let y3:=y2&&wd y1 37;opt (lM x0) λd=>ae (!d) (ret ((x3,x4,x5,x6,x7,x8),x9)) (ae (wl x2==0) (ret ((x3,x4,x5,x6,x7,x8),x9)) (ae (ww x2 x2) (opt (sL x2 fG fD Ad (w0&&true)) λd=>ae (decide (d.1>0)) (ae y0 (ae y2 (opt (zt x1 n1 n2 n3) λd=>ae y3 (ret ((λj=>bif ww j (ws x0) then d else(x3,x4,x5,x6,x7,x8).1 j,λj=>bif ww j (ws x0) then 0 else(x4,x5,x6,x7,x8).1 j,λj=>bif ww j (ws x0) then true else(x5,x6,x7,x8).1 j,x6,x7,x8),x9)) no) no) no) (ae y0 (ae y2 (opt (zu n1 n2 n3) λd=>ae y3 (ret ((λj=>bif ww j (ws x0) then d.1 else(x3,x4,x5,x6,x7,x8).1 j,λj=>bif ww j (ws x0) then d.2.1 else(x4,x5,x6,x7,x8).1 j,λj=>bif ww j (ws x0) then d.2.2 else(x5,x6,x7,x8).1 j,x6,x7,x8),x9)) no) no) no)) no))
def fg:=λx0 x1 x2 x3 x4 x5 x6 x7 x8 x9 fG fD Ad w0=>(sK qu Ak mu mw x0 x1 x2 x3 x4 x5 x6 x7 x8 x9 fG fD Ad w0).val
theorem adQ:∀lM sL zt zu,D1 [V0 lM,adr sL,Sb zt,Se zu] [0] 256 Is (lf yg) λb=>sK lM sL zt zu b.1.1 b.1.2.1 b.1.b.1 b.2.1.1.1 b.2.1.1.2.1 b.2.1.1.b.1 b.2.1.1.b.2.1 b.2.1.1.c.1 b.2.1.1.c.2 b.2.1.2 b.b.1 b.b.2.1 b.c b.1.b.2:=λ_ _ _ _ b=>by kernel_rfl
theorem adR [ax]:SC (Iv fg):=sc (Sound.nil 3 [.b,.i .i64,.i .i64]<|k0 (.c ain (.c ar8 (.c aoi (.c aok (.nil _))))) (adQ qu Ak mu mw))
def Oi:=qa (pr (cu KY zY) aRi)
def CB:=qe aKC
abbrev xO:=CB.B
abbrev Oj:=Int->Int->Int->Int->Bool->Option xO
def Ol (g:Oj):Ct:=(46,FC Oi (lf CB) (λb=>g b.1.1 b.1.2 b.2.1 b.b.1 b.b.2))
def rq (x0:Int)(x1:Int)(x2:Int)(x3:Int)(x4:Bool):Pg xO:=let y0:=decide (x1>=0);ae (!x4) (ret false) (ae (decide (x0>=x2)) (ae y0 (ret (decide (wU (wU x0-wU x2)<=wU x1))) (ret false)) (ae y0 (ret true) (ret (decide (wU (wU x2-wU x0)>=wU (0-wU x1))))))
def lD:=λx0 x1 x2 x3 x4=>(rq x0 x1 x2 x3 x4).val
theorem akQ:D0 [] 46 Oi (lf CB) λb=>rq b.1.1 b.1.2 b.2.1 b.b.1 b.b.2:=λb=>by kernel_rfl
theorem akR [ax]:SC (Ol lD):=s0 (.nil _) akQ
def Li:=qa (pr (cu (app 0 6) jb) (cl (a 3 atj mQ) nil))
def Ao:=qe aKC
abbrev o9:=Ao.B
abbrev lY:=Int->Int->Int->Bool->Int->Int->Int->Option o9
def uj (g:lY):Ct:=(18,FC Li (lf Ao) (λb=>g b.1 b.2.1.1 b.2.1.2.1 b.2.1.b b.b.1 b.b.2.1 b.c))
def pd (xP:Oj)(x0:Int)(x1:Int)(x2:Int)(x3:Bool)(x4:Int)(x5:Int)(x6:Int):Pg o9:=opt (xP x0 x5 x1 x2 x3) λd=>ae d (ret (decide (x2<=x6))) (ret false)
def du:=λx0 x1 x2 x3 x4 x5 x6=>(pd lD x0 x1 x2 x3 x4 x5 x6).val
theorem afi:∀xP,D0 [Ol xP] 18 Li (lf Ao) λb=>pd xP b.1 b.2.1.1 b.2.1.2.1 b.2.1.b b.b.1 b.b.2.1 b.c:=λ_ b=>by kernel_rfl
theorem Bz [ax]:SC (uj du):=s0 (.c akR (.nil _)) (afi lD)
def Iw:=qa (pr (cu aAh zY) aEr)
def yi:=qe aKC
abbrev sM:=yi.B
abbrev Ap:=Int->Int->NI->NI->(Nat->Bool)->NI->NI->NI->Int->Option sM
def Ix (g:Ap):Ct:=(110,FC Iw (lf yi) (λb=>g b.1.1 b.1.2 b.2.1.1 b.2.1.2.1 b.2.1.b.1 b.2.1.b.2.1 b.2.1.c.1 b.2.1.c.2 b.b))
def sN (lM:VZ)(gN:lY)(x0:Int)(x1:Int)(x2:Nat->Int)(x3:Nat->Int)(x4:Nat->Bool)(x5:Nat->Int)(x6:Nat->Int)(x7:Nat->Int)(x8:Int):Pg sM:=opt (lM x0) λd=>ae d (ae (bk x0 6) (ae (wd (0+ws x0*6+6) 36) (opt (gN x1 ((x2,x3,x4,x5,x6,x7).1 (ws x0)) ((x3,x4,x5,x6,x7).1 (ws x0)) ((x4,x5,x6,x7).1 (ws x0)) ((x5,x6,x7).1 (ws x0)) (x6 (ws x0)) (x7 (ws x0))) λd=>ret d) no) no) (ret false)
def gy:=λx0 x1 x2 x3 x4 x5 x6 x7 x8=>(sN qu du x0 x1 x2 x3 x4 x5 x6 x7 x8).val
theorem adS:∀lM gN,D0 [V0 lM,uj gN] 110 Iw (lf yi) λb=>sN lM gN b.1.1 b.1.2 b.2.1.1 b.2.1.2.1 b.2.1.b.1 b.2.1.b.2.1 b.2.1.c.1 b.2.1.c.2 b.b:=λ_ _ b=>by kernel_rfl
theorem adT [ax]:SC (Ix gy):=s0 (.c ain (.c Bz (.nil _))) (adS qu du)
def Iy:=qa (pr (cu aAh jb) aEr)
def yj:=qe ax5
abbrev Iz:=yj.B
abbrev IA:=Int->NI->NI->(Nat->Bool)->NI->NI->NI->Int->Option Iz
def IB (g:IA):Ct:=(43,FC Iy (lf yj) (λb=>g b.1 b.2.1.1 b.2.1.2.1 b.2.1.b.1 b.2.1.b.2.1 b.2.1.c.1 b.2.1.c.2 b.b))
def eR:=qs (st (pr (cu aAh (c ai (us 3 (c ai (us 2 aKs))))) (pl (cl pO nil) nil)))
def FM:=qs (st (pr (cu aAh (c ai (us 3 (c ai (us 2 aKA))))) (pl (cl pO nil) nil)))
abbrev mx:=FM.B
def FN {ρ:Type}:=@ef mx ((.ex 0)) FM ρ
def xo (gN:lY)(d:eR.B):PL eR mx:=let n3:=d.1.1;let n2:=d.2.1.2.2;let n1:=d.1.2;let y0:=ws n1.2;let y1:=y0*6;let y2:=wI (n1.2+1);let y3:=decide (n1.2<6);ae y3 (ae (bk n1.2 6) (ae (wd (2+y1+1) 36) (ae (n2.1 y0) (ae (wd (0+y1+6) 36) (opt (gN n3 (d.2.1.1 y0) (d.2.1.2.1 y0) (n2.1 y0) (n2.2.1 y0) (n2.2.2.1 y0) (n2.2.2.2 y0)) λaj=>ae (!aj) (ae (!decide (n1.2<0)) (ret (wr ((n3,wI (n1.1+wI (1*2^min y0 64)),y2),d.2))) no) (ret (wr ((n3,n1.1,y2),d.2)))) no) (ret (wr ((n3,n1.1,y2),d.2)))) no) no) (ret (wn ((n3,n1.1,n1.2,y3),d.2)))
def xp:=bj (xo du) 2000
def Aq (eI:LT eR mx)(x0:Int)(x1:Nat->Int)(x2:Nat->Int)(x3:Nat->Bool)(x4:Nat->Int)(x5:Nat->Int)(x6:Nat->Int)(x7:Int):Pg Iz:=opt (eI ((x0,0,0),(x1,x2,x3,x4,x5,x6),x7)) λd=>ret d.1.2.1
def nZ:=λx0 x1 x2 x3 x4 x5 x6 x7=>(Aq xp x0 x1 x2 x3 x4 x5 x6 x7).val
abbrev sO:=lY×(LT eR mx)
def Ar (p:sO):KK:=⟨[uj p.1],⟨[⟨3,(2::3::4::6::7::rg 9 13 (rg 26 7 (rg 22 4 []))),[]⟩],[gv 3 1 eR FN p.2],[],[],(some ⟨0,(rg 0 4 (rg 5 28 [])),[]⟩)⟩,1,43⟩
theorem V2 (p:sO):LI (Ar p) 3 eR FN (xo p.1):=λ_ d c K=>by kernel_rfl
theorem adU (p:sO):D2 (Ar p) Iy (lf yj) λb=>Aq p.2 b.1 b.2.1.1 b.2.1.2.1 b.2.1.b.1 b.2.1.b.2.1 b.2.1.c.1 b.2.1.c.2 b.b:=λb=>by kernel_rfl
abbrev As:sO:=(du,xp)
theorem adV [ax]:SC (IB nZ):=sc (kS (k:=Ar As) (.c Bz (.nil _)) [3] [] ⟨kL (V2 As),trivial⟩ trivial (adU As))
def Om:=qa (pu (cu aAh nil) aEr)
def CC:=qe aKC
abbrev On:=CC.B
abbrev Oo:=NI->NI->(Nat->Bool)->NI->NI->NI->Int->Option On
def Oq (g:Oo):Ct:=(44,FC Om (lf CC) (λb=>g b.1.1 b.1.2.1 b.1.b.1 b.1.b.2.1 b.1.c.1 b.1.c.2 b.2))
def Eo (x0:Nat->Int)(x1:Nat->Int)(x2:Nat->Bool)(x3:Nat->Int)(x4:Nat->Int)(x5:Nat->Int)(x6:Int):Pg On:=ret (decide (x6>=10))
def rr:=λx0 x1 x2 x3 x4 x5 x6=>(Eo x0 x1 x2 x3 x4 x5 x6).val
theorem akS:D0 [] 44 Om (lf CC) λb=>Eo b.1.1 b.1.2.1 b.1.b.1 b.1.b.2.1 b.1.c.1 b.1.c.2 b.2:=λb=>by kernel_rfl
theorem akT [ax]:SC (Oq rr):=s0 (.nil _) akS
def FO:=qa (pr (cu aAh (c (aa aKz) (cl (aa aKz) nil))) aEr)
def vj:=qe (res (pu RB (pl (cl aEq nil) nil)))
abbrev FP:=vj.B
abbrev FQ:=Bool->Int->Int->Bool->Int->Int->NI->NI->(Nat->Bool)->NI->NI->NI->Int->Option FP
def FR (g:FQ):Ct:=(230,FC FO (lf vj) (λb=>g b.1.1.1 b.1.1.2.1 b.1.1.b b.1.2.1 b.1.b.1 b.1.b.2 b.2.1.1 b.2.1.2.1 b.2.1.b.1 b.2.1.b.2.1 b.2.1.c.1 b.2.1.c.2 b.b))
def xq (x0:Bool)(x1:Int)(x2:Int)(x3:Bool)(x4:Int)(x5:Int)(x6:Nat->Int)(x7:Nat->Int)(x8:Nat->Bool)(x9:Nat->Int)(fG:Nat->Int)(fD:Nat->Int)(Ad:Int):Pg FP:=let y0:=wI (Ad+1);let y1:=wI (Ad-1);ae (decide (x1>0)) (ae (decide (x4>0)) (ae (!x0) (ae (!x3) (ret ((x6,x7,x8,x9,fG,fD),if 1000<y0 then 1000 else y0)) (ret ((x6,x7,x8,x9,fG,fD),if 0>y1 then 0 else y1))) (ret ((x6,x7,x8,x9,fG,fD),if 0>y1 then 0 else y1))) (ae (decide (x1<0)) (ae (!x0) (ae (!x3) (ae (decide (x4<0)) (ret ((x6,x7,x8,x9,fG,fD),if 1000<y0 then 1000 else y0)) (ret ((x6,x7,x8,x9,fG,fD),if 0>y1 then 0 else y1))) (ret ((x6,x7,x8,x9,fG,fD),if 0>y1 then 0 else y1))) (ret ((x6,x7,x8,x9,fG,fD),if 0>y1 then 0 else y1))) (ae (!x0) (ae (!x3) (ret ((x6,x7,x8,x9,fG,fD),if 0>y1 then 0 else y1)) (ret ((x6,x7,x8,x9,fG,fD),if 0>y1 then 0 else y1))) (ret ((x6,x7,x8,x9,fG,fD),if 0>y1 then 0 else y1))))) (ae (decide (x1<0)) (ae (!x0) (ae (!x3) (ae (decide (x4<0)) (ret ((x6,x7,x8,x9,fG,fD),if 1000<y0 then 1000 else y0)) (ret ((x6,x7,x8,x9,fG,fD),if 0>y1 then 0 else y1))) (ret ((x6,x7,x8,x9,fG,fD),if 0>y1 then 0 else y1))) (ret ((x6,x7,x8,x9,fG,fD),if 0>y1 then 0 else y1))) (ae (!x0) (ae (!x3) (ret ((x6,x7,x8,x9,fG,fD),if 0>y1 then 0 else y1)) (ret ((x6,x7,x8,x9,fG,fD),if 0>y1 then 0 else y1))) (ret ((x6,x7,x8,x9,fG,fD),if 0>y1 then 0 else y1))))
def fu:=λx0 x1 x2 x3 x4 x5 x6 x7 x8 x9 fG fD Ad=>(xq x0 x1 x2 x3 x4 x5 x6 x7 x8 x9 fG fD Ad).val
theorem YW:D0 [] 230 FO (lf vj) λb=>xq b.1.1.1 b.1.1.2.1 b.1.1.b b.1.2.1 b.1.b.1 b.1.b.2 b.2.1.1 b.2.1.2.1 b.2.1.b.1 b.2.1.b.2.1 b.2.1.c.1 b.2.1.c.2 b.b:=λb=>by kernel_rfl
theorem YX [ax]:SC (FR fu):=s0 (.nil _) YW
end Go.Proofs.YtldgljclcgaibaaGreat
