/-
  Parts of the proof: Q3
-/
import Derived.Test.YtldgljclcgaibaaGreatZAE
import Derived.Test.YtldgljclcgaibaaGreatZAG
open Nat renaming beq→ww,ble→wd
open Int renaming toNat→ws,ofNat→wl
open Sum renaming inl→wr,inr→wn
set_option linter.all false
set_option maxRecDepth 100000
set_option maxHeartbeats 4000000
noncomputable section
namespace Go.Proofs.YtldgljclcgaibaaGreat
open Go.Ab Go.Ab.Pg Go.Ab.Rq
def Rg:=qa (dp (cu aP (c mh (c BG (cl aI4 nil)))) λa=>(c xx (cl (cl (gs a.b.1 aJJ) nil) nil)))
def aKH:=qe (res (pr (sH (c akq (c asd (cl (rc (jr (pu rq4 (pu wA (pl mg (pu rq7 jP)))))) nil)))) (pr N' (cl aP0 nil))))
abbrev aao:=((NI×(NI×NI)×Nat)×Bool×(Nat->Bool)×NI×NI)
def aAo:aao->T:=λd=>lf aKH (d.1,d.2.1,d.1.b,d.b)
abbrev aAp:=Rg.B->Option aao
def aAq (g:aAp):Ct:=(254,vE 3 [.i .i64,.i .i64,.i .i64,.i .i64,.i .i64,.i .i64,.i .i64,.i .i64,.i .i64,.i .i64,.i .i64,.i .i64,.i .i64,.i .i64,.i .i64,.i .i64,.i .i64,.i .i64,.i .i64,.i .i64,.i .i64,.i .i64,.i .i64,.i .i64,.i .i64,.i .i64,.i .i64] (FC Rg aAo g))
def sW:=qs (st (dp (cu aP (us 4 (cu Ew (cu aHJ (us 1 (cu apM (cu (app 5 300) (us 1 (c aWb (us 3 (c aI4 aPI))))))))))) λa=>(pl (c cH (c (so (cl (gs a.2.1.1 aJJ) nil)) (c oC (c jH (c oC (c jH (cl (so (cl (gs a.1 ar9) nil)) nil))))))) cR)))
def aGT:=qs (st (pr (cu aP (us 4 (cu Ew (cu aHJ (us 1 (cu apM (cu (app 5 300) (us 1 (c aWb (us 3 (c aI4 aPN))))))))))) (pl (c cH (c (so (cl (ga (pr mg aJJ)) nil)) (c oC (c jH (c oC (c jH aV5)))))) cR)))
abbrev It:=((Nat×(Nat×Bool)×Int×Int×Bool)×Bool×(NI×NI×NI×NI×NI×NI×NI×NI×NI×NI×NI×NI×NI×NI×NI×NI×NI×NI×NI×NI×NI×NI×NI×NI×NI×NI×NI)×NI×(NI×NI)×NI×(NI×NI)×(Nat->Bool)×NI×NI)
def aq1 {ρ:Type}(x:It)(K:AX->St->Option ρ):Option ρ:=(λd=>K (.ex 0) (aGT.em (d.1,d.2.1,(d.1.2.1.1,d.b.1),d.b.2.1,d.c.1,d.c.2.1,d.c.b.1,d.1.1,d.c.b.2))) x
def aco (aOa:amL)(d:sW.B):PL sW It:=let aT:=d.1.1;let n5:=d.1.2.2;let n4:=d.2.2;let n7:=n4.2.2;let n3:=n4.1.2.2.2.2;let n8:=n3.2.2.2;let n1:=n8.2.2.2.2;let n9:=n1.2.2.2;let n2:=n9.2.2.2.2;let n6:=n2.2.2.2.2;let y0:=ws n5.2;let y1:=aT+1;let y2:=decide (n5.2<n5.1);ae y2 (ae (bb n5.2 d.1.2.1.1) (opt (aOa n4.2.1 n7.1.1 n7.1.2 (cr (n4.1.1 y0) [n6.2.1 y0,n6.1 y0,n2.2.2.2.1 y0,n2.2.2.1 y0,n2.2.1 y0,n2.1 y0,n9.2.2.2.1 y0,n9.2.2.1 y0,n9.2.1 y0,n9.1 y0,n1.2.2.1 y0,n1.2.1 y0,n1.1 y0,n8.2.2.2.1 y0,n8.2.2.1 y0,n8.2.1 y0,n8.1 y0,n3.2.2.1 y0,n3.2.1 y0,n3.1 y0,n4.1.2.2.2.1 y0,n4.1.2.2.1 y0,n4.1.2.1 y0,n4.1.1 y0]) (n6.2.2.1 y0) (n6.2.2.2.1 y0) (n6.2.2.2.2 y0) d.2.1) λaj=>ae (wd (y1*24) 140737488355328) (ret (wr ((y1,d.1.2.1,n5.1,wI (n5.2+1)),aj.2,n4.1,aj.1.1,aj.1.2.1,n7.2.1,n7.2.2.1,λj=>bif ww j aT then aj.1.2.2.1 else n7.2.2.2.1 j,λj=>bif ww j aT then aj.1.2.2.2.1 else n7.2.2.2.2.1 j,λj=>bif ww j aT then aj.1.2.2.2.2 else n7.2.2.2.2.2 j))) no) no) (ret (wn ((aT,d.1.2.1,n5.1,n5.2,y2),d.2)))
def acp:=bD (aco Rf) 2000
def amN (eH:LT sW It)(x:Rg.B):Pg aao:=ae (ww x.1.2.2.1 x.1.2.2.1) (ae true (opt (eH ((0,x.1.2.2,wl x.1.2.2.1,0),x.2.1,x.2.2,x.1.1,x.1.2.1,λx=>0,(λx=>0,λx=>0),λx=>false,λx=>0,λx=>0)) λd=>ret ((d.2.2.2.1,d.2.2.2.2.1,d.1.1),d.2.1,d.2.2.2.2.2.2.2)) no) no
def Rh:=λx=>(amN acp x).val
abbrev aap:=amL×(LT sW It)
def amO (p:aap):KK:=⟨[aAn p.1],⟨[⟨3,(rg 1 4 (7::10::12::13::14::rg 18 20 [])),[(11,[.b,.i .i64,.i .i64])]⟩],[fW 3 2 sW aq1 p.2],[0],[],(some ⟨0,(rg 0 8 (rg 11 27 [])),[]⟩)⟩,2,254⟩
theorem aFj (p:aap):LI (amO p) 3 sW aq1 (aco p.1):=λ_ d c K=>by kernel_rfl
theorem aOb (p:aap):D2 (amO p) Rg aAo λb=>amN p.2 b:=λb=>by kernel_rfl
abbrev amP:aap:=(Rf,acp)
theorem aOc [ax]:SC (aAq Rh):=sc (Sound.nil 3 [.i .i64,.i .i64,.i .i64,.i .i64,.i .i64,.i .i64,.i .i64,.i .i64,.i .i64,.i .i64,.i .i64,.i .i64,.i .i64,.i .i64,.i .i64,.i .i64,.i .i64,.i .i64,.i .i64,.i .i64,.i .i64,.i .i64,.i .i64,.i .i64,.i .i64,.i .i64,.i .i64]<|kS (k:=amO amP) (.c aN9 (.nil _)) [3] [] ⟨kL (aFj amP),trivial⟩ trivial (aOb amP))
def aq2:=qa (dp (cl aPo nil) λa=>(cl (cl (gs a.1 ar9) nil) nil))
def XD:=qe aV2
abbrev aq3:=XD.B
abbrev acq:=Nat->(Nat->Bool)->NI->NI->Bool->Option aq3
def acr (g:acq):Ct:=(255,vE 0 [.b,.i .i64,.i .i64] (FC aq2 (lf XD) (λb=>g b.1.1 b.2.1 b.b.1 b.b.2 b.1.2)))
def oU:=qs (st (dp (us 2 (c ai (c ai (us 2 (c aPo (c ai aVe)))))) λa=>(pl (cl (so (cl (gs a.b.1.1 ar9) nil)) nil) nil)))
def aBW:=qs (st (pr (us 2 (c ai (c ai (us 2 (c aPo (c ai aPH)))))) (pl aV5 nil)))
abbrev Dy:=((Int×Int×(Nat×Bool)×Int×Int×Bool)×(Nat->Bool)×NI×NI)
def aiP {ρ:Type}(x:Dy)(K:AX->St->Option ρ):Option ρ:=(λd=>K (.ex 0) (aBW.em (d.1,d.1.b.1.1,d.2))) x
def Tn (d:oU.B):PL oU Dy:=let n1:=d.1.2.2;let n2:=n1.2.2;let y0:=decide (n2<n1.2.1);ae y0 (ae (bb n2 n1.1.1) (ae (d.2.1 (ws n2)) (ret (wr ((wI (d.1.1+1),d.1.2.1,n1.1,n1.2.1,wI (n2+1)),d.2))) (ret (wr ((d.1.1,wI (d.1.2.1+1),n1.1,n1.2.1,wI (n2+1)),d.2)))) no) (ret (wn ((d.1.1,d.1.2.1,n1.1,n1.2.1,n2,y0),d.2)))
def To:=bD (Tn) 2000
def acs (eH:LT oU Dy)(x0:Nat)(x1:Nat->Bool)(x2:Nat->Int)(x3:Nat->Int)(w0:Bool):Pg aq3:=ae (ww x0 x0) (opt (eH ((0,0,(x0,w0),wl x0,0),x1,x2,x3)) λd=>ret (d.1.1,d.1.2.1)) no
def zO:=λx0 x1 x2 x3 w0=>(acs To x0 x1 x2 x3 w0).val
abbrev Qy:=(LT oU Dy)
def acu (p:Qy):KK:=⟨[],⟨[⟨2,(0::1::4::5::rg 9 12 []),[]⟩],[fW 2 1 oU aiP p],[],[],(some ⟨0,(0::1::rg 4 17 []),[]⟩)⟩,1,255⟩
theorem ayc (p:Qy):LI (acu p) 2 oU aiP (Tn):=λ_ d c K=>by kernel_rfl
theorem aGU (p:Qy):D2 (acu p) aq2 (lf XD) λb=>acs p b.1.1 b.2.1 b.b.1 b.b.2 b.1.2:=λb=>by kernel_rfl
abbrev acv:Qy:=To
theorem aq4 [ax]:SC (acr zO):=sc (Sound.nil 0 [.b,.i .i64,.i .i64]<|kS (k:=acu acv) (.nil _) [2] [] ⟨kL (ayc acv),trivial⟩ trivial (aGU acv))
def adX:=qa (pu nil nil)
def MP:=qe (res (pu (aa (cu ar6 (cu aM aJK))) (pu nil nil)))
abbrev O1:=MP.B
abbrev m9:=Option O1
def rA (g:m9):Ct:=(48,FC adX (lf MP) (λ_=>g))
def O2 (jh:Bu):Pg O1:=opt jh λd=>ret ()
def eV:Option O1:=(O2 oN).val
theorem ayd:∀jh,D0 [KW jh] 48 adX (lf MP) λb=>O2 jh:=λ_ b=>by kernel_rfl
theorem wh [ax]:SC (rA eV):=s0 (.c Q8 (.nil _)) (ayd oN)
def aq5:=qa (dp (cu aP (cl aPp nil)) λa=>(c xx (cl (cl (gs a.1 mY) nil) nil)))
def XE:=qe (res (pr (aa aP8) (pl N' nil)))
abbrev aq6:=XE.B
abbrev acw:=Nat->Bool->NI->NI->NI->NI->NI->NI->NI->NI->NI->NI->Bool->Option aq6
def aq7 (g:acw):Ct:=(113,vE 1 [.i .i64,.i .i64,.i .i64,.i .i64,.i .i64,.i .i64,.i .i64,.i .i64,.i .i64,.i .i64] (FC aq5 (lf XE) (λb=>g b.1.1 b.2.1 b.b.1 b.b.2.1 b.c.1 b.c.2.1 b.c.b.1 b.c.b.2.1 b.d.1 b.d.2.1 b.d.b.1 b.d.b.2 b.1.2)))
def oV:=qs (st (dp (cu aP (us 3 (cu (app 2 10) (cu (app 3 10) (c aWc (c aWd (us 3 (c aPp (c ai aVf))))))))) λa=>(pl (c cH (c (so (cl (gs a.b.1.1 mY) nil)) (cu aWY (c aWP (c (so (cl (gs a.1 ar8) nil)) (cl aC9 nil)))))) cR)))
def aBX:=qs (st (pr (cu aP (us 3 (cu (app 2 10) (cu (app 3 10) (c aWc (c aWd (us 3 (c aPp (c ai aVt))))))))) (pl (c cH (c uO (cu aWY (c aWP (c aC9 (cl aC9 nil)))))) cR)))
abbrev Dz:=((Nat×Nat×(Nat×Bool)×Int×Int×Bool)×Bool×aMj×aHF×(NI×NI×NI)×Nat×NI×NI×NI)
def aiQ {ρ:Type}(x:Dz)(K:AX->St->Option ρ):Option ρ:=(λd=>K (.ex 0) (aBX.em (d.1,d.2.1,(d.1.b.1.1,d.b.1),d.b.2.1,(d.1.1,d.c.1),d.c.2))) x
def Tp (fq:yK)(bq:ju)(d:oV.B):PL oV Dz:=let n6:=d.1.1;let n2:=d.1.2;let n4:=n2.2.2;let n1:=d.2.2;let n5:=n1.2.2;let n3:=n1.1.2.2.2.2;let y0:=n6+1;let y1:=ws n4.2;let y2:=n2.1+1;let y3:=decide (n4.2<n4.1);ae y3 (ae (bb n4.2 n2.2.1.1) (opt (fq (n1.1.1 y1) (n1.1.2.1 y1) (n1.1.2.2.1 y1) (n1.1.2.2.2.1 y1) n1.2.1.1 n1.2.1.2.1 n1.2.1.2.2.1 n1.2.1.2.2.2 d.2.1) λaj=>opt (bq aj.1.1 aj.1.2.1 aj.1.2.2.1 aj.1.2.2.2 aj.2) λaD=>ae (wd (y0*24) 140737488355328) (ae (wd (y2*24) 140737488355328) (ret (wr ((y0,y2,n2.2.1,n4.1,wI (n4.2+1)),aD.2,n1.1,aD.1,(λj=>bif ww j n6 then n3.1 y1 else n5.1.1 j,λj=>bif ww j n6 then n3.2.1 y1 else n5.1.2.1 j,λj=>bif ww j n6 then n3.2.2.1 y1 else n5.1.2.2 j),y2,λj=>bif ww j n2.1 then n3.2.2.2.1 y1 else n5.2.2.1 j,λj=>bif ww j n2.1 then n3.2.2.2.2.1 y1 else n5.2.2.2.1 j,λj=>bif ww j n2.1 then n3.2.2.2.2.2 y1 else n5.2.2.2.2 j))) no) no) no) (ret (wn ((n6,n2.1,n2.2.1,n4.1,n4.2,y3),d.2)))
def Ts:=bD (Tp mm dI) 2000
def acx (cw:m9)(ee:B5)(eH:LT oV Dz)(x0:Nat)(x1:Bool)(x2:Nat->Int)(x3:Nat->Int)(x4:Nat->Int)(x5:Nat->Int)(x6:Nat->Int)(x7:Nat->Int)(x8:Nat->Int)(x9:Nat->Int)(gA:Nat->Int)(fX:Nat->Int)(w0:Bool):Pg aq6:=opt cw λd=>ae (ww x0 x0) (ae true (opt (eH ((0,0,(x0,w0),wl x0,0),x1,(x2,x3,x4,x5,x6,x7,x8,x9,gA,fX),(1073741824,0,0,0),(λx=>0,λx=>0,λx=>0),0,λx=>0,λx=>0,λx=>0)) λd=>let n1:=d.2.2.2;ae (ww d.1.1 d.1.1) (opt (ee d.1.1 d.2.1 n1.2.1.1 n1.2.1.2.1 n1.2.1.2.2 true) λaj=>ae (ww d.1.2.1 d.1.2.1) (opt (ee d.1.2.1 aj.2 n1.2.2.2.1 n1.2.2.2.2.1 n1.2.2.2.2.2 true) λaD=>ret ((n1.1.1,n1.1.2.1,n1.1.2.2.1,n1.1.2.2.2,aj.1.1,aj.1.2.1,aj.1.2.2,aD.1),aD.2)) no) no) no) no
def Iu:=λx0 x1 x2 x3 x4 x5 x6 x7 x8 x9 gA fX w0=>(acx eV lD Ts x0 x1 x2 x3 x4 x5 x6 x7 x8 x9 gA fX w0).val
abbrev Qz:=m9×yK×ju×B5×(LT oV Dz)
def acy (p:Qz):KK:=⟨[rA p.1,Fx p.2.1,ov p.b.1,JY p.b.2.1],⟨[⟨4,(1::2::3::8::9::10::rg 14 32 []),[(6,[.i .i64,.i .i64,.i .i64]),(7,[.i .i64,.i .i64,.i .i64])]⟩],[fW 4 2 oV aiQ p.c],[0],[],(some ⟨0,(rg 0 4 (rg 5 41 [])),[]⟩)⟩,2,113⟩
theorem aye (p:Qz):LI (acy p) 4 oV aiQ (Tp p.2.1 p.b.1):=λ_ d c K=>by kernel_rfl
theorem aGV (p:Qz):D2 (acy p) aq5 (lf XE) λb=>acx p.1 p.b.2.1 p.c b.1.1 b.2.1 b.b.1 b.b.2.1 b.c.1 b.c.2.1 b.c.b.1 b.c.b.2.1 b.d.1 b.d.2.1 b.d.b.1 b.d.b.2 b.1.2:=λb=>by kernel_rfl
abbrev acz:Qz:=(eV,mm,dI,lD,Ts)
theorem aGW [ax]:SC (aq7 Iu):=sc (Sound.nil 1 [.i .i64,.i .i64,.i .i64,.i .i64,.i .i64,.i .i64,.i .i64,.i .i64,.i .i64,.i .i64]<|kS (k:=acy acz) (.c wh (.c KX (.c pL (.c OO (.nil _))))) [4] [] ⟨kL (aye acz),trivial⟩ trivial (aGV acz))
def avG:=qa (pr (cu aP (c mh (c BG zE))) bG)
def acA:=qe (res (pr (sH (c akq (c asd (cl (ra (c gi (c gi (c gi (cl gi (cu aM (cu aM (cu aM (cu aM (cu aM (cu aM (cu (gc awX) nil)))))))))))) nil)))) (pl nk nil)))
abbrev avH:=acA.B
abbrev avI:=NI->NI->NI->Int->Int->Bool->Option avH
def avJ (g:avI):Ct:=(221,FC avG (lf acA) (λb=>g b.1.1 b.1.2.1.1 b.1.2.1.2 b.1.b.1 b.1.b.2 b.2))
def ag5 (aO:fK)(cw:m9)(MQ:amg)(bg:eI)(fq:yK)(bq:ju)(de:zK)(bZ:jM)(x0:Nat->Int)(x1:Nat->Int)(x2:Nat->Int)(x3:Int)(x4:Int)(x5:Bool):Pg avH:=opt (aO x0 x5) λd=>opt cw λaj=>opt (MQ x3 d.2) λaD=>opt (bg d.1) λbC=>opt (fq aD.1.1 aD.1.2.1 aD.1.2.2.1 aD.1.2.2.2 bC.1 bC.2.1 bC.2.2.1 bC.2.2.2 aD.2) λcM=>opt (bq cM.1.1 cM.1.2.1 cM.1.2.2.1 cM.1.2.2.2 cM.2) λfA=>opt (de d.1 0 4 (cr fA.1.1 [fA.1.2.2.2,fA.1.2.2.1,fA.1.2.1,fA.1.1]) false) λd=>opt (aO d fA.2) λd=>opt (bZ x1 x2 0 4 d.2 (cr x4 [x4,x4,x4,x4]) true) λdB=>ret ((d.1,dB.1,aD.1),dB.2)
def MR:=λx0 x1 x2 x3 x4 x5=>(ag5 cz eV Fw cC mm dI gQ dr x0 x1 x2 x3 x4 x5).val
theorem aKI:∀aO cw MQ bg fq bq de bZ,D0 [jU aO,rA cw,amh MQ,kD bg,Fx fq,ov bq,DX de,AY bZ] 221 avG (lf acA) λb=>ag5 aO cw MQ bg fq bq de bZ b.1.1 b.1.2.1.1 b.1.2.1.2 b.1.b.1 b.1.b.2 b.2:=λ_ _ _ _ _ _ _ _ b=>by kernel_rfl
theorem aKJ [ax]:SC (avJ MR):=s0 (.c ld (.c wh (.c aE6 (.c lK (.c KX (.c pL (.c Ip (.c Fz (.nil _))))))))) (aKI cz eV Fw cC mm dI gQ dr)
def amQ:=qa (dp (cu aP (c mh aPJ)) λa=>(c xx (cl (cl (gs a.b.1 oK) nil) nil)))
def aBY:=qe (res (pr (sH (c akq (cl (rc (jr (pu rq4 (pu wA (pl mg (pu AD jP)))))) nil))) (pr N' (cl aJl nil))))
abbrev XF:=((NI×Nat)×Bool×NI)
def amR:XF->T:=λd=>lf aBY (d.1,d.2.1,d.1.2,d.b)
abbrev MS:=NI->Int->Nat->Bool->NI->Bool->Option XF
def MT (g:MS):Ct:=(263,vE 3 [.i .i64] (FC amQ amR (λb=>g b.1.1 b.1.2.1 b.1.b.1 b.2.1 b.b b.1.b.2)))
def nD:=qs (st (dp (cu aP (us 1 (c ai (us 2 (cu Ew (us 2 (cu ah5 (us 1 (cu apM (c aWe (us 3 (c H9 (c ai (cl ai (us 39 nil))))))))))))))) λa=>(pl (c cH (c (so (cl (gs a.b.1.1 oK) nil)) (c oC (c oC (c oC (cl (so (cl (gs a.2.1 oK) nil)) nil)))))) cR)))
def ayf:=qs (st (pr (cu aP (us 1 (c ai (us 2 (cu Ew (us 2 (cu ah5 (us 1 (cu apM (c aWe (us 3 (c H9 (c ai (c ai aVg)))))))))))))) (pl (c cH (c JD (c oC (c oC (c oC akw))))) cR)))
abbrev AZ:=((Int×Nat×(Nat×Bool)×Int×Int×Bool)×Bool×NI×NI×NI×Dt×NI)
def adY {ρ:Type}(x:AZ)(K:AX->St->Option ρ):Option ρ:=(λd=>K (.ex 0) (ayf.em (d.1,d.2.1,(d.1.b.1.1,d.b.1),d.b.2.1,d.c.1,d.c.2.1,d.1.2.1,d.c.b))) x
def O3 (aF:cm)(aW:dt)(d:nD.B):PL nD AZ:=let n2:=d.2.2.2;let n1:=d.1.2.2;let n3:=n1.2.2;let y0:=d.1.2.1+1;let y1:=wI (d.1.1+n3);let y2:=ws y1;let y3:=bb y1 24;let y4:=decide (n3<n1.2.1);ae y4 (ae (bb n3 n1.1.1) (ae y3 (ae y3 (opt (aF (d.2.2.1 (ws n3)) (wI (0-n2.2.2.1 y2)) (n2.2.2.1 y2) d.2.1) λaj=>ae y3 (opt (aW aj.1 (n2.1 y2) aj.2) λaD=>ae (wd (y0*8) 140737488355328) (ae y3 (ae (true&&wd (0+y2*1+1) 24) (ret (wr ((d.1.1,y0,n1.1,n1.2.1,wI (n3+1)),aD.2,d.2.2.1,λj=>bif ww j y2 then aj.1 else n2.1 j,n2.2.1,n2.2.2.1,λj=>bif ww j d.1.2.1 then aD.1 else n2.2.2.2 j))) no) no) no) no) no) no) no) (ret (wn ((d.1.1,d.1.2.1,n1.1,n1.2.1,n3,y4),d.2)))
def O4:=bD (O3 bc bP) 2000
def XG (Tc:Du)(aO:fK)(eH:LT nD AZ)(x0:Nat->Int)(x1:Int)(x2:Nat)(x3:Bool)(x4:Nat->Int)(w0:Bool):Pg XF:=opt Tc λd=>ae (ww x2 x2) (ae true (opt (eH ((x1,0,(x2,w0),wl x2,0),x3,x4,x0,λx=>0,d,λx=>0)) λd=>opt (aO d.2.2.2.1 d.2.1) λaj=>ret ((aj.1,d.1.2.1),aj.2,d.2.2.2.2.2.2)) no) no
def kT:=λx0 x1 x2 x3 x4 w0=>(XG uo cz O4 x0 x1 x2 x3 x4 w0).val
abbrev MU:=Du×cm×dt×fK×(LT nD AZ)
def XH (p:MU):KK:=⟨[S9 p.1,eA p.2.1,iU p.b.1,jU p.b.2.1],⟨[⟨4,(1::3::4::6::7::9::12::13::14::rg 18 39 []),[(11,[.i .i64])]⟩],[fW 4 2 nD adY p.c],[0],[],(some ⟨0,(rg 0 8 (rg 10 47 [])),[]⟩)⟩,2,263⟩
theorem avK (p:MU):LI (XH p) 4 nD adY (O3 p.2.1 p.b.1):=λ_ d c K=>by kernel_rfl
theorem aFk (p:MU):D2 (XH p) amQ amR λb=>XG p.1 p.b.2.1 p.c b.1.1 b.1.2.1 b.1.b.1 b.2.1 b.b b.1.b.2:=λb=>by kernel_rfl
abbrev XI:MU:=(uo,bc,bP,cz,O4)
theorem XJ [ax]:SC (MT kT):=sc (Sound.nil 3 [.i .i64]<|kS (k:=XH XI) (.c aiH (.c eZ (.c jR (.c ld (.nil _))))) [4] [] ⟨kL (avK XI),trivial⟩ trivial (aFk XI))
def amS:=qa (pr (cu (app 0 2) zE) (cd (c (gc (Dd 1 1)) (cl (gc (Dd 2 1)) nil)) λb0=>(c (cl (gs b0.1 oK) nil) (cl (cl (gs b0.2 oK) nil) nil))))
def aBZ:=qe (res (pu QP (pr (cl (zD (c (gc (Dd 3 1)) (cl (gc (Dd 4 1)) nil))) (cu UL aMu)) (c aJl (cl aJl nil)))))
abbrev XK:=((Nat×Nat)×NI×NI)
def amT:XK->T:=λd=>lf aBZ (d.1,(d.1.1,d.2.1),d.1.2,d.b)
abbrev XL:=Int->Int->Nat->Nat->NI->NI->Option XK
def amU (g:XL):Ct:=(247,FC amS amT (λb=>g b.1.1 b.1.2 b.2.1.1 b.2.1.2 b.b.1 b.b.2))
def XM (x0:Int)(x1:Int)(x2:Nat)(x3:Nat)(x4:Nat->Int)(x5:Nat->Int):Pg XK:=let y0:=x2+2;let y1:=x3+2;ae (wd (y0*8) 140737488355328) (ae (wd (y1*8) 140737488355328) (ret ((y0,y1),λj=>bif ww j (x2+1) then x0 else bif ww j x2 then x0 else x4 j,λj=>bif ww j (x3+1) then x1 else bif ww j x3 then x1 else x5 j)) no) no
def nZ:=λx0 x1 x2 x3 x4 x5=>(XM x0 x1 x2 x3 x4 x5).val
theorem aFl:D0 [] 247 amS amT λb=>XM b.1.1 b.1.2 b.2.1.1 b.2.1.2 b.b.1 b.b.2:=λb=>by kernel_rfl
theorem aFm [ax]:SC (amU nZ):=s0 (.nil _) aFl
def aq8:=qa (pr (cu aP (c afi Hq)) bG)
def XN:=qe (res (pr (aa aQc) (pl nk nil)))
abbrev aq9:=XN.B
abbrev Iv:=Int->Int->Int->Int->Int->Int->Int->Bool->Option aq9
def acB (g:Iv):Ct:=(218,FC aq8 (lf XN) (λb=>g b.1.1.1 b.1.1.2.1 b.1.1.b.1 b.1.1.b.2 b.1.2.1 b.1.b.1 b.1.b.2 b.2))
def acC (aw:bO)(Fy:OH)(bd:XL)(bh:fg)(x0:Int)(x1:Int)(x2:Int)(x3:Int)(x4:Int)(x5:Int)(x6:Int)(x7:Bool):Pg aq9:=opt (aw x0 x7) λd=>let y0:=wI (0-d.1);opt (aw x1 d.2) λaj=>let uG:=wI (0-aj.1);opt (aw x2 aj.2) λaD=>let aqv:=wI (0-aD.1);opt (aw x3 aD.2) λbC=>let ZW:=wI (0-bC.1);opt (Fy x4 x5 x6 bC.2) λcM=>let n2:=cM.1.1;let n1:=cM.1.2;opt (bd d.1 n2 0 0 (λx=>0) λx=>0) λfA=>ae (ww fA.1.1 fA.1.1) (ae (ww fA.1.2 fA.1.2) (opt (bd aD.1 n1.2 fA.1.1 fA.1.2 fA.2.1 fA.2.2) λdB=>ae (ww dB.1.1 dB.1.1) (ae (ww dB.1.2 dB.1.2) (opt (bd ZW n1.1 dB.1.1 dB.1.2 dB.2.1 dB.2.2) λnX=>ae (ww nX.1.1 nX.1.1) (ae (ww nX.1.2 nX.1.2) (opt (bh 30 nX.1.1 nX.1.2 cM.2 nX.2.1 nX.2.2 true true) λtP=>opt (bd uG n2 0 0 (λx=>0) λx=>0) λpI=>ae (ww pI.1.1 pI.1.1) (ae (ww pI.1.2 pI.1.2) (opt (bd aj.1 n2 pI.1.1 pI.1.2 pI.2.1 pI.2.2) λmV=>ae (ww mV.1.1 mV.1.1) (ae (ww mV.1.2 mV.1.2) (opt (bd aj.1 n2 mV.1.1 mV.1.2 mV.2.1 mV.2.2) λxy=>ae (ww xy.1.1 xy.1.1) (ae (ww xy.1.2 xy.1.2) (opt (bd aD.1 n1.1 xy.1.1 xy.1.2 xy.2.1 xy.2.2) λKZ=>ae (ww KZ.1.1 KZ.1.1) (ae (ww KZ.1.2 KZ.1.2) (opt (bd bC.1 n1.2 KZ.1.1 KZ.1.2 KZ.2.1 KZ.2.2) λMw=>ae (ww Mw.1.1 Mw.1.1) (ae (ww Mw.1.2 Mw.1.2) (opt (bh 30 Mw.1.1 Mw.1.2 tP.2 Mw.2.1 Mw.2.2 true true) λaFn=>opt (bd aqv n2 0 0 (λx=>0) λx=>0) λaaq=>ae (ww aaq.1.1 aaq.1.1) (ae (ww aaq.1.2 aaq.1.2) (opt (bd aj.1 n1.1 aaq.1.1 aaq.1.2 aaq.2.1 aaq.2.2) λadZ=>ae (ww adZ.1.1 adZ.1.1) (ae (ww adZ.1.2 adZ.1.2) (opt (bd d.1 n1.2 adZ.1.1 adZ.1.2 adZ.2.1 adZ.2.2) λaar=>ae (ww aar.1.1 aar.1.1) (ae (ww aar.1.2 aar.1.2) (opt (bh 30 aar.1.1 aar.1.2 aFn.2 aar.2.1 aar.2.2 true true) λaFo=>opt (bd ZW n2 0 0 (λx=>0) λx=>0) λamV=>ae (ww amV.1.1 amV.1.1) (ae (ww amV.1.2 amV.1.2) (opt (bd aj.1 n1.2 amV.1.1 amV.1.2 amV.2.1 amV.2.2) λara=>ae (ww ara.1.1 ara.1.1) (ae (ww ara.1.2 ara.1.2) (opt (bd y0 n1.1 ara.1.1 ara.1.2 ara.2.1 ara.2.2) λamW=>ae (ww amW.1.1 amW.1.1) (ae (ww amW.1.2 amW.1.2) (opt (bh 30 amW.1.1 amW.1.2 aFo.2 amW.2.1 amW.2.2 true true) λa0Y=>opt (bd d.1 n1.1 0 0 (λx=>0) λx=>0) λaAr=>ae (ww aAr.1.1 aAr.1.1) (ae (ww aAr.1.2 aAr.1.2) (opt (bd bC.1 n2 aAr.1.1 aAr.1.2 aAr.2.1 aAr.2.2) λaAs=>ae (ww aAs.1.1 aAs.1.1) (ae (ww aAs.1.2 aAs.1.2) (opt (bd uG n1.2 aAs.1.1 aAs.1.2 aAs.2.1 aAs.2.2) λaAt=>ae (ww aAt.1.1 aAt.1.1) (ae (ww aAt.1.2 aAt.1.2) (opt (bh 30 aAt.1.1 aAt.1.2 a0Y.2 aAt.2.1 aAt.2.2 true true) λa0Z=>opt (bd uG n1.1 0 0 (λx=>0) λx=>0) λaAu=>ae (ww aAu.1.1 aAu.1.1) (ae (ww aAu.1.2 aAu.1.2) (opt (bd aD.1 n2 aAu.1.1 aAu.1.2 aAu.2.1 aAu.2.2) λaAv=>ae (ww aAv.1.1 aAv.1.1) (ae (ww aAv.1.2 aAv.1.2) (opt (bd y0 n1.2 aAv.1.1 aAv.1.2 aAv.2.1 aAv.2.2) λaAw=>ae (ww aAw.1.1 aAw.1.1) (ae (ww aAw.1.2 aAw.1.2) (opt (bh 30 aAw.1.1 aAw.1.2 a0Z.2 aAw.2.1 aAw.2.2 true true) λa00=>opt (bd aqv n1.1 0 0 (λx=>0) λx=>0) λaAx=>ae (ww aAx.1.1 aAx.1.1) (ae (ww aAx.1.2 aAx.1.2) (opt (bd aD.1 n1.1 aAx.1.1 aAx.1.2 aAx.2.1 aAx.2.2) λaAy=>ae (ww aAy.1.1 aAy.1.1) (ae (ww aAy.1.2 aAy.1.2) (opt (bd aj.1 n2 aAy.1.1 aAy.1.2 aAy.2.1 aAy.2.2) λaAz=>ae (ww aAz.1.1 aAz.1.1) (ae (ww aAz.1.2 aAz.1.2) (opt (bd aD.1 n1.1 aAz.1.1 aAz.1.2 aAz.2.1 aAz.2.2) λaAA=>ae (ww aAA.1.1 aAA.1.1) (ae (ww aAA.1.2 aAA.1.2) (opt (bd bC.1 n1.2 aAA.1.1 aAA.1.2 aAA.2.1 aAA.2.2) λaAB=>ae (ww aAB.1.1 aAB.1.1) (ae (ww aAB.1.2 aAB.1.2) (opt (bh 30 aAB.1.1 aAB.1.2 a00.2 aAB.2.1 aAB.2.2 true true) λa01=>opt (bd ZW n1.1 0 0 (λx=>0) λx=>0) λaAC=>ae (ww aAC.1.1 aAC.1.1) (ae (ww aAC.1.2 aAC.1.2) (opt (bd aD.1 n1.2 aAC.1.1 aAC.1.2 aAC.2.1 aAC.2.2) λaAD=>ae (ww aAD.1.1 aAD.1.1) (ae (ww aAD.1.2 aAD.1.2) (opt (bd d.1 n2 aAD.1.1 aAD.1.2 aAD.2.1 aAD.2.2) λaAE=>ae (ww aAE.1.1 aAE.1.1) (ae (ww aAE.1.2 aAE.1.2) (opt (bh 30 aAE.1.1 aAE.1.2 a01.2 aAE.2.1 aAE.2.2 true true) λa02=>opt (bd d.1 n1.2 0 0 (λx=>0) λx=>0) λaAF=>ae (ww aAF.1.1 aAF.1.1) (ae (ww aAF.1.2 aAF.1.2) (opt (bd aj.1 n1.1 aAF.1.1 aAF.1.2 aAF.2.1 aAF.2.2) λaAG=>ae (ww aAG.1.1 aAG.1.1) (ae (ww aAG.1.2 aAG.1.2) (opt (bd aqv n2 aAG.1.1 aAG.1.2 aAG.2.1 aAG.2.2) λaAH=>ae (ww aAH.1.1 aAH.1.1) (ae (ww aAH.1.2 aAH.1.2) (opt (bh 30 aAH.1.1 aAH.1.2 a02.2 aAH.2.1 aAH.2.2 true true) λa03=>opt (bd uG n1.2 0 0 (λx=>0) λx=>0) λaAI=>ae (ww aAI.1.1 aAI.1.1) (ae (ww aAI.1.2 aAI.1.2) (opt (bd bC.1 n2 aAI.1.1 aAI.1.2 aAI.2.1 aAI.2.2) λaAJ=>ae (ww aAJ.1.1 aAJ.1.1) (ae (ww aAJ.1.2 aAJ.1.2) (opt (bd d.1 n1.1 aAJ.1.1 aAJ.1.2 aAJ.2.1 aAJ.2.2) λd=>ae (ww d.1.1 d.1.1) (ae (ww d.1.2 d.1.2) (opt (bh 30 d.1.1 d.1.2 a03.2 d.2.1 d.2.2 true true) λd=>opt (bd aqv n1.2 0 0 (λx=>0) λx=>0) λaAK=>ae (ww aAK.1.1 aAK.1.1) (ae (ww aAK.1.2 aAK.1.2) (opt (bd bC.1 n1.1 aAK.1.1 aAK.1.2 aAK.2.1 aAK.2.2) λaAL=>ae (ww aAL.1.1 aAL.1.1) (ae (ww aAL.1.2 aAL.1.2) (opt (bd y0 n2 aAL.1.1 aAL.1.2 aAL.2.1 aAL.2.2) λaAM=>ae (ww aAM.1.1 aAM.1.1) (ae (ww aAM.1.2 aAM.1.2) (opt (bh 30 aAM.1.1 aAM.1.2 d.2 aAM.2.1 aAM.2.2 true true) λa04=>opt (bd ZW n1.2 0 0 (λx=>0) λx=>0) λaAN=>ae (ww aAN.1.1 aAN.1.1) (ae (ww aAN.1.2 aAN.1.2) (opt (bd bC.1 n1.2 aAN.1.1 aAN.1.2 aAN.2.1 aAN.2.2) λaAO=>ae (ww aAO.1.1 aAO.1.1) (ae (ww aAO.1.2 aAO.1.2) (opt (bd aj.1 n2 aAO.1.1 aAO.1.2 aAO.2.1 aAO.2.2) λaAP=>ae (ww aAP.1.1 aAP.1.1) (ae (ww aAP.1.2 aAP.1.2) (opt (bd aD.1 n1.1 aAP.1.1 aAP.1.2 aAP.2.1 aAP.2.2) λaAQ=>ae (ww aAQ.1.1 aAQ.1.1) (ae (ww aAQ.1.2 aAQ.1.2) (opt (bd bC.1 n1.2 aAQ.1.1 aAQ.1.2 aAQ.2.1 aAQ.2.2) λaAR=>ae (ww aAR.1.1 aAR.1.1) (ae (ww aAR.1.2 aAR.1.2) (opt (bh 30 aAR.1.1 aAR.1.2 a04.2 aAR.2.1 aAR.2.2 true true) λa05=>ret ((tP.1,aFn.1,aFo.1,a0Y.1,a0Z.1,a00.1,a01.1,a02.1,a03.1,d.1,a04.1,a05.1),a05.2)) no) no) no) no) no) no) no) no) no) no) no) no) no) no) no) no) no) no) no) no) no) no) no) no) no) no) no) no) no) no) no) no) no) no) no) no) no) no) no) no) no) no) no) no) no) no) no) no) no) no) no) no) no) no) no) no) no) no) no) no) no) no) no) no) no) no) no) no) no) no) no) no) no) no) no) no) no) no) no) no) no) no) no) no
def zQ:=λx0 x1 x2 x3 x4 x5 x6 x7=>(acC aR BU nZ bu x0 x1 x2 x3 x4 x5 x6 x7).val
abbrev acD:=bO×OH×XL×fg
def arb (p:acD):KK:=⟨[dH p.1,agt p.2.1,amU p.b.1,nY p.b.2],⟨[⟨2,(1::2::3::rg 7 10 (rg 18 124 [])),[]⟩,⟨10,(1::2::3::7::rg 10 24 (rg 35 107 [])),[]⟩,⟨19,(1::2::3::7::rg 11 23 (rg 35 38 (rg 74 68 []))),[]⟩,⟨28,(1::2::3::7::11::12::13::rg 16 18 (rg 35 38 (rg 74 29 (rg 104 38 [])))),[]⟩],[],[],[],(some ⟨0,(rg 0 6 (rg 7 135 [])),[]⟩)⟩,0,218⟩
theorem aGX (p:acD):D2 (arb p) aq8 (lf XN) λb=>acC p.1 p.2.1 p.b.1 p.b.2 b.1.1.1 b.1.1.2.1 b.1.1.b.1 b.1.1.b.2 b.1.2.1 b.1.b.1 b.1.b.2 b.2:=λb=>by kernel_rfl
abbrev arc:acD:=(aR,BU,nZ,bu)
theorem ard [ax]:SC (acB zQ):=sc (kS (k:=arb arc) (.c dM (.c asV (.c aFm (.c pB (.nil _))))) [2,10,19,28] [] ⟨kN,⟨kN,⟨kN,⟨kN,trivial⟩⟩⟩⟩ trivial (aGX arc))
def are:=qa (pl Ea nil)
def XO:=qe aVS
abbrev arf:=XO.B
abbrev Iw:=Int->Int->Int->Int->Int->Int->Int->Int->Int->Option arf
def acE (g:Iw):Ct:=(137,FC are (lf XO) (λb=>g b.1 b.2.1 b.b.1 b.b.2.1 b.c.1 b.c.2.1 b.c.b.1 b.c.b.2.1 b.d))
def acF (x0:Int)(x1:Int)(x2:Int)(x3:Int)(x4:Int)(x5:Int)(x6:Int)(x7:Int)(x8:Int):Pg arf:=ret (x1,x2,x3)
def zR:=λx0 x1 x2 x3 x4 x5 x6 x7 x8=>(acF x0 x1 x2 x3 x4 x5 x6 x7 x8).val
theorem aGY:D0 [] 137 are (lf XO) λb=>acF b.1 b.2.1 b.b.1 b.b.2.1 b.c.1 b.c.2.1 b.c.b.1 b.c.b.2.1 b.d:=λb=>by kernel_rfl
theorem arh [ax]:SC (acE zR):=s0 (.nil _) aGY
def ari:=qa (pl Hq nil)
def XP:=qe E5
abbrev acG:=XP.B
abbrev vO:=Int->Int->Int->Option acG
def zT (g:vO):Ct:=(76,FC ari (lf XP) (λb=>g b.1 b.2.1 b.b))
def Ix (x0:Int)(x1:Int)(x2:Int):Pg acG:=ae (decide (x0>= -900000000)) (ae (decide (x0<=900000000)) (ae (decide (x1>= -1800000000)) (ae (decide (x1<=1800000000)) (ae (decide (x2>= -100000000)) (ret (decide (x2<=100000000))) (ret false)) (ret false)) (ret false)) (ret false)) (ret false)
def ia:=λx0 x1 x2=>(Ix x0 x1 x2).val
theorem aGZ:D0 [] 76 ari (lf XP) λb=>Ix b.1 b.2.1 b.b:=λb=>by kernel_rfl
theorem D3 [ax]:SC (zT ia):=s0 (.nil _) aGZ
def avL:=qa (pl Ea nil)
def acH:=qe E5
abbrev avM:=acH.B
abbrev ag6:=Int->Int->Int->Int->Int->Int->Int->Int->Int->Option avM
def avN (g:ag6):Ct:=(136,FC avL (lf acH) (λb=>g b.1 b.2.1 b.b.1 b.b.2.1 b.c.1 b.c.2.1 b.c.b.1 b.c.b.2.1 b.d))
def ag7 (acI:Iw)(cP:vO)(x0:Int)(x1:Int)(x2:Int)(x3:Int)(x4:Int)(x5:Int)(x6:Int)(x7:Int)(x8:Int):Pg avM:=ae (decide (x4< -1000000)) (ret false) (ae (decide (x4>1000000)) (ret false) (ae (decide (x5< -1000000)) (ret false) (ae (decide (x5>1000000)) (ret false) (ae (decide (x6< -1000000)) (ret false) (ae (decide (x6>1000000)) (ret false) (ae (decide (x7<1)) (ret false) (ae (decide (x7>1000000)) (ret false) (ae (decide (x8<1)) (ret false) (ae (decide (x8>1000000)) (ret false) (opt (acI x0 x1 x2 x3 x4 x5 x6 x7 x8) λd=>opt (cP d.1 d.2.1 d.2.2) λd=>ret d))))))))))
def MV:=λx0 x1 x2 x3 x4 x5 x6 x7 x8=>(ag7 zR ia x0 x1 x2 x3 x4 x5 x6 x7 x8).val
abbrev ag8:=Iw×vO
def avO (p:ag8):KK:=⟨[acE p.1,zT p.2],⟨[⟨2,(0::rg 3 5 (rg 11 6 (rg 19 12 (rg 33 5 [])))),[]⟩,⟨8,(0::rg 3 19 (rg 25 6 (rg 33 5 []))),[]⟩],[],[],[],(some ⟨0,(0::1::rg 3 35 []),[]⟩)⟩,0,136⟩
theorem aKK (p:ag8):D2 (avO p) avL (lf acH) λb=>ag7 p.1 p.2 b.1 b.2.1 b.b.1 b.b.2.1 b.c.1 b.c.2.1 b.c.b.1 b.c.b.2.1 b.d:=λb=>by kernel_rfl
abbrev avP:ag8:=(zR,ia)
theorem aKL [ax]:SC (avN MV):=sc (kS (k:=avO avP) (.c arh (.c D3 (.nil _))) [2,8] [] ⟨kN,⟨kN,trivial⟩⟩ trivial (aKK avP))
def ad3:=qa (pl jc nil)
def MW:=qe Hn
abbrev ad4:=MW.B
abbrev O5:=Int->Option ad4
def ad5 (g:O5):Ct:=(138,FC ad3 (lf MW) (λb=>g b))
def O6 (aq:cB)(aF:cm)(x0:Int):Pg ad4:=opt (aq (wI (x0*x0)) 17592186044416 1000000 false) λd=>opt (aF d.1 1 72057594037927936 d.2) λd=>ret d.1
def A3:=λx0=>(O6 aU bc x0).val
theorem ayg:∀aq aF,D0 [dD aq,eA aF] 138 ad3 (lf MW) λb=>O6 aq aF b:=λ_ _ b=>by kernel_rfl
theorem ayh [ax]:SC (ad5 A3):=s0 (.c dQ (.c eZ (.nil _))) (ayg aU bc)
def avQ:=qa (pr (cu aP Ea) bG)
def acJ:=qe (res (pr (sH (c (ra aw5) afd)) (pl nk nil)))
abbrev avR:=acJ.B
abbrev ag9:=Int->Int->Int->Int->Int->Int->Int->Int->Int->Bool->Option avR
def aha (g:ag9):Ct:=(89,FC avQ (lf acJ) (λb=>g b.1.1 b.1.2.1 b.1.b.1 b.1.b.2.1 b.1.c.1 b.1.c.2.1 b.1.c.b.1 b.1.c.b.2.1 b.1.d b.2))
def ahb (aKM:ag6)(acI:Iw)(ad6:O5)(aq:cB)(x0:Int)(x1:Int)(x2:Int)(x3:Int)(x4:Int)(x5:Int)(x6:Int)(x7:Int)(x8:Int)(x9:Bool):Pg avR:=opt (aKM x0 x1 x2 x3 x4 x5 x6 x7 x8) λd=>ae (!d) (ret (((0,0,0,0,0,0,0,0),1),x9)) (opt (acI x0 x1 x2 x3 x4 x5 x6 x7 x8) λd=>opt (ad6 x7) λaj=>opt (ad6 x8) λaD=>opt (aq x4 1073741824 1000 x9) λbC=>opt (aq x5 1073741824 1000 bC.2) λcM=>opt (aq x6 1073741824 1000 cM.2) λfA=>ret (((d.1,d.2.1,d.2.2,bC.1,cM.1,fA.1,aj,aD),0),fA.2))
def Cs:=λx0 x1 x2 x3 x4 x5 x6 x7 x8 x9=>(ahb MV zR A3 aU x0 x1 x2 x3 x4 x5 x6 x7 x8 x9).val
abbrev ahc:=ag6×Iw×O5×cB
def avS (p:ahc):KK:=⟨[avN p.1,acE p.2.1,ad5 p.b.1,dD p.b.2],⟨[⟨5,(1::2::5::rg 7 16 (rg 24 14 [])),[]⟩],[],[0],[],(some ⟨0,(rg 0 4 (rg 6 32 [])),[]⟩)⟩,0,89⟩
theorem aKN (p:ahc):D2 (avS p) avQ (lf acJ) λb=>ahb p.1 p.2.1 p.b.1 p.b.2 b.1.1 b.1.2.1 b.1.b.1 b.1.b.2.1 b.1.c.1 b.1.c.2.1 b.1.c.b.1 b.1.c.b.2.1 b.1.d b.2:=λb=>by kernel_rfl
abbrev avT:ahc:=(MV,zR,A3,aU)
theorem avU [ax]:SC (aha Cs):=sc (kS (k:=avS avT) (.c aKL (.c arh (.c ayh (.c dQ (.nil _))))) [5] [] ⟨kN,trivial⟩ trivial (aKN avT))
def aiR:=qa (dp (cl JA nil) λa=>(cl (cl (gs a.1 oK) nil) nil))
def O7:=qe aVZ
abbrev aiS:=O7.B
abbrev Tt:=Nat->NI->Bool->Option aiS
def Tu (g:Tt):Ct:=(231,vE 0 [.i .i64] (FC aiR (lf O7) (λb=>g b.1.1 b.2 b.1.2)))
def mu:=qs (st (dp (us 2 (cu T' (cu Ew (us 2 (c JA (c ai aI6)))))) λa=>(pl (c (so (cl (gs a.1.1 oK) nil)) Ob) nil)))
def avV:=qs (st (pr (us 2 (cu T' (cu Ew (us 2 (c JA (c ai aJd)))))) (pl (c JD Ob) nil)))
abbrev yU:=(aMk×NI×NI×NI)
def aas {ρ:Type}(x:yU)(K:AX->St->Option ρ):Option ρ:=(λd=>K (.ex 0) (avV.em (d.1,(d.1.1.1,d.2.1),d.b))) x
def MX (d:mu.B):PL mu yU:=let n3:=d.2.1;let n2:=d.1.2.2;let n1:=(d.1.1,d.1.2.1,wI (n2+1));let y0:=ws (n3 (ws n2));let y1:=decide (n2<d.1.2.1);ae y1 (ae (bb n2 d.1.1.1) (ae (decide (n3 (ws n2)>=0)) (ae (decide (n3 (ws n2)<24)) (ae (bb (n3 (ws n2)) 24) (ae (true&&wd (0+y0*1+1) 24) (ret (wr (n1,n3,d.2.2.1,λj=>bif ww j y0 then 1073741824 else d.2.2.2 j))) no) no) (ret (wr (n1,d.2)))) (ret (wr (n1,d.2)))) no) (ret (wn ((d.1.1,d.1.2.1,n2,y1),d.2)))
def MY:=bD (MX) 2000
def Tv (eH:LT mu yU)(x0:Nat)(x1:Nat->Int)(w0:Bool):Pg aiS:=ae (ww x0 x0) (opt (eH (((x0,w0),wl x0,0),x1,λx=>0,λx=>0)) λd=>ret d.2.2.2) no
def qi:=λx0 x1 w0=>(Tv MY x0 x1 w0).val
abbrev Jm:=(LT mu yU)
def Tw (p:Jm):KK:=⟨[],⟨[⟨3,(0::1::4::5::rg 9 6 (rg 17 5 [15,16])),[]⟩],[fW 3 1 mu aas p],[],[],(some ⟨0,(0::1::rg 3 19 []),[]⟩)⟩,1,231⟩
theorem atb (p:Jm):LI (Tw p) 3 mu aas (MX):=λ_ d c K=>by kernel_rfl
theorem aB0 (p:Jm):D2 (Tw p) aiR (lf O7) λb=>Tv p b.1.1 b.2 b.1.2:=λb=>by kernel_rfl
abbrev Tx:Jm:=MY
theorem aiT [ax]:SC (Tu qi):=sc (Sound.nil 0 [.i .i64]<|kS (k:=Tw Tx) (.nil _) [3] [] ⟨kL (atb Tx),trivial⟩ trivial (aB0 Tx))
def ad7:=qa (pr (cu aP (c mh (c ai E6))) bG)
def MZ:=qe aWn
abbrev ad8:=MZ.B
abbrev wi:=NI->Int->Int->Int->Int->Bool->Option ad8
def GO (g:wi):Ct:=(253,FC ad7 (lf MZ) (λb=>g b.1.1 b.1.2.1 b.1.b.1 b.1.b.2.1 b.1.c b.2))
def O8 (oy:Tt)(aW:dt)(x0:Nat->Int)(x1:Int)(x2:Int)(x3:Int)(x4:Int)(x5:Bool):Pg ad8:=opt (oy 1 (λj=>bif ww j 0 then x1 else x1) true) λd=>ae (bb x1 24) (opt (aW x2 (x0 (ws x1)) x5) λaj=>ret ((d,aj.1,x3,x4),aj.2)) no
def eW:=λx0 x1 x2 x3 x4 x5=>(O8 qi bP x0 x1 x2 x3 x4 x5).val
theorem ayi:∀oy aW,D0 [Tu oy,iU aW] 253 ad7 (lf MZ) λb=>O8 oy aW b.1.1 b.1.2.1 b.1.b.1 b.1.b.2.1 b.1.c b.2:=λ_ _ b=>by kernel_rfl
theorem O9 [ax]:SC (GO eW):=s0 (.c aiT (.c jR (.nil _))) (ayi qi bP)
def ad9:=qa (pr (cu aP (c mh (c aJy jc))) bG)
def M0:=qe aWS
abbrev aea:=M0.B
abbrev aeb:=NI->Int->Int->Int->Int->Int->Int->Int->Int->Int->Bool->Option aea
def aec (g:aeb):Ct:=(225,FC ad9 (lf M0) (λb=>g b.1.1 b.1.2.1.1.1 b.1.2.1.1.2.1 b.1.2.1.1.b b.1.2.1.2.1.1 b.1.2.1.2.1.2.1 b.1.2.1.2.1.b b.1.2.1.b.1 b.1.2.1.b.2 b.1.b b.2))
def O' (jN:wi)(x0:Nat->Int)(x1:Int)(x2:Int)(x3:Int)(x4:Int)(x5:Int)(x6:Int)(x7:Int)(x8:Int)(x9:Int)(gA:Bool):Pg aea:=opt (jN x0 4 x4 x8 x9 gA) λd=>opt (jN x0 5 x5 x8 x9 d.2) λaj=>opt (jN x0 6 x6 x8 x9 aj.2) λaD=>ret (aD.2,d.1.1,d.1.2.1,d.1.2.2.1,d.1.2.2.2,aj.1.1,aj.1.2.1,aj.1.2.2.1,aj.1.2.2.2,aD.1)
def A4:=λx0 x1 x2 x3 x4 x5 x6 x7 x8 x9 gA=>(O' eW x0 x1 x2 x3 x4 x5 x6 x7 x8 x9 gA).val
abbrev Pc:=wi
def aed (p:Pc):KK:=⟨[GO p],⟨[⟨3,(1::2::4::7::8::10::11::12::rg 15 17 []),[]⟩],[],[],[],(some ⟨0,(rg 0 8 (rg 9 23 [])),[]⟩)⟩,0,225⟩
theorem ayj (p:Pc):D2 (aed p) ad9 (lf M0) λb=>O' p b.1.1 b.1.2.1.1.1 b.1.2.1.1.2.1 b.1.2.1.1.b b.1.2.1.2.1.1 b.1.2.1.2.1.2.1 b.1.2.1.2.1.b b.1.2.1.b.1 b.1.2.1.b.2 b.1.b b.2:=λb=>by kernel_rfl
abbrev aee:Pc:=eW
theorem ayk [ax]:SC (aec A4):=sc (kS (k:=aed aee) (.c O9 (.nil _)) [3] [] ⟨kN,trivial⟩ trivial (ayj aee))
def aat:=qa (pr (cu (app 0 5) (cu QR Hq)) (c np bG))
def J1:=qe (res (pr aVU (pl (cu fL nk) nil)))
abbrev aau:=J1.B
abbrev yV:=Int->Int->Int->Int->Int->Int->Int->Int->Bool->Option aau
def EI (g:yV):Ct:=(249,FC aat (lf J1) (λb=>g b.1.1 b.1.2.1 b.1.b b.2.1.1.1 b.2.1.1.2.1 b.2.1.1.b b.2.1.2.1 b.2.1.b b.b))
def M1 (cP:vO)(aB:bX)(aq:cB)(x0:Int)(x1:Int)(x2:Int)(x3:Int)(x4:Int)(x5:Int)(x6:Int)(x7:Int)(x8:Bool):Pg aau:=let y0:=wI (x1-x4);opt (cP x0 x1 x2) λd=>ae (!d) (ret (((0,0,0),1),x8)) (ae (decide (y0>1800000000)) (opt (aB (wI (x0-x3)) x6 10 x8) λd=>opt (aB (wI (y0-3600000000)) x7 10 d.2) λaj=>opt (aq (wI (x5-x2)) 1073741824 1000 aj.2) λaD=>ret (((d.1,aj.1,aD.1),0),aD.2)) (ae (decide (y0<= -1800000000)) (opt (aB (wI (x0-x3)) x6 10 x8) λd=>opt (aB (wI (y0+3600000000)) x7 10 d.2) λaj=>opt (aq (wI (x5-x2)) 1073741824 1000 aj.2) λaD=>ret (((d.1,aj.1,aD.1),0),aD.2)) (opt (aB (wI (x0-x3)) x6 10 x8) λd=>opt (aB y0 x7 10 d.2) λaj=>opt (aq (wI (x5-x2)) 1073741824 1000 aj.2) λaD=>ret (((d.1,aj.1,aD.1),0),aD.2))))
def lL:=λx0 x1 x2 x3 x4 x5 x6 x7 x8=>(M1 ia aV aU x0 x1 x2 x3 x4 x5 x6 x7 x8).val
theorem avW:∀cP aB aq,D1 [zT cP,fI aB,dD aq] [1] 249 aat (lf J1) λb=>M1 cP aB aq b.1.1 b.1.2.1 b.1.b b.2.1.1.1 b.2.1.1.2.1 b.2.1.1.b b.2.1.2.1 b.2.1.b b.b:=λ_ _ _ b=>by kernel_rfl
theorem M3 [ax]:SC (EI lL):=s0 (.c D3 (.c fY (.c dQ (.nil _)))) (avW ia aV aU)
def wO:=qa (pr (cu aP (c mh (c aJy (cu (app 1 5) jc)))) (c xx (cl np nil)))
def NR:=qe (res (pr aVF (pl N' nil)))
def NS:=qe (res (pu (sH (cu (rc (jr (pu rq4 (pu wA (pu (szl rq4) (pu (nat 27) jP)))))) aks)) (pr N' (cl aQd nil))))
abbrev J2:=NR.B⊕NS.B
def XQ:J2->T:=ls (lf NR) (lf NS)
abbrev XR:=wO.B->Option J2
def XS (g:XR):Ct:=(226,FC wO XQ g)
def J3 (iC:yV)(jN:wi)(x:wO.B):Pg J2:=opt (iC x.1.2.1.1.1 x.1.2.1.1.2.1 x.1.2.1.1.2.2 x.2.2.1.1 x.2.2.1.2.1 x.2.2.1.2.2 x.2.2.2.1 x.2.2.2.2 x.2.1) λd=>ae (d.1.2!=0) (ret (wr (d.1.2,d.2))) (opt (jN x.1.1 7 d.1.1.1 x.1.2.1.2.2.1 x.1.2.2 d.2) λaj=>opt (jN x.1.1 8 d.1.1.2.1 x.1.2.1.2.2.1 x.1.2.2 aj.2) λd=>ret (wn (d.2,aj.1.1,aj.1.2.1,aj.1.2.2.1,aj.1.2.2.2,d.1)))
def wP:=λx=>(J3 lL eW x).val
abbrev J4:=yV×wi
def XT (p:J4):KK:=⟨[EI p.1,GO p.2],⟨[⟨6,(1::2::3::5::rg 8 6 (rg 15 13 (rg 31 18 []))),[]⟩],[],[],[],(some ⟨0,(rg 0 10 (rg 12 37 [])),[]⟩)⟩,0,226⟩
theorem atc (p:J4):D2 (XT p) wO XQ λb=>J3 p.1 p.2 b:=λb=>by kernel_rfl
abbrev XU:J4:=(lL,eW)
theorem atd [ax]:SC (XS wP):=sc (kS (k:=XT XU) (.c M3 (.c O9 (.nil _))) [6] [] ⟨kN,trivial⟩ trivial (atc XU))
def FF:=qa (pr (cu aP (c mh (c aJy (cu (app 1 5) jc)))) (c xx (cl np nil)))
def Ty:=qe (res (pr aWj (pl N' nil)))
abbrev amX:=Ty.B
abbrev amY:=FF.B->Option amX
def amZ (g:amY):Ct:=(227,FC FF (lf Ty) g)
def XV (iC:yV)(cy:fJ)(aF:cm)(jN:wi)(x:FF.B):Pg amX:=let n3:=x.2.2;let n2:=x.1.2.1;let n1:=n2.2.2.1;opt (iC n2.1.1 n2.1.2.1 n2.1.2.2 n3.1.1 n3.1.2.1 n3.1.2.2 n3.2.1 n3.2.2 x.2.1) λd=>ae (d.1.2!=0) (ret (((λx=>0,0,0,0),d.1.2),d.2)) (opt (cy 4 false (cr n1 [n1,n1,n1,n1]) true) λaj=>opt (aF aj.1 1 72057594037927936 aj.2) λaD=>opt (jN x.1.1 9 d.1.1.2.2 aD.1 x.1.2.2 d.2) λd=>ret ((d.1,0),d.2))
def FG:=λx=>(XV lL db bc eW x).val
theorem aFp:∀iC cy aF jN,D0 [EI iC,pA cy,eA aF,GO jN] 227 FF (lf Ty) λb=>XV iC cy aF jN b:=λ_ _ _ _ b=>by kernel_rfl
theorem aFq [ax]:SC (amZ FG):=s0 (.c M3 (.c rY (.c eZ (.c O9 (.nil _))))) (aFp lL db bc eW)
def XW:=qa (pl jc nil)
def HI:=qe Hn
abbrev XX:=HI.B
abbrev XY:=Int->Option XX
def XZ (g:XY):Ct:=(203,FC XW (lf HI) (λb=>g b))
def J5 (aq:cB)(aF:cm)(x0:Int):Pg XX:=opt (aq (wI (x0*x0)) 17592186044416 1000000 false) λd=>opt (aF d.1 1 72057594037927936 d.2) λd=>ret d.1
def wQ:=λx0=>(J5 aU bc x0).val
theorem ate:∀aq aF,D0 [dD aq,eA aF] 203 XW (lf HI) λb=>J5 aq aF b:=λ_ _ b=>by kernel_rfl
theorem atf [ax]:SC (XZ wQ):=s0 (.c dQ (.c eZ (.nil _))) (ate aU bc)
def am0:=qa (pr (cu aP (c aJx zE)) bG)
def Tz:=qe aP9
abbrev am3:=Tz.B
abbrev X0:=Int->Int->Int->Int->Int->Int->Int->Int->Int->Int->Int->Bool->Option am3
def X1 (g:X0):Ct:=(139,FC am0 (lf Tz) (λb=>g b.1.1.1 b.1.1.2.1 b.1.1.b.1 b.1.1.b.2.1 b.1.1.c.1 b.1.1.c.2.1 b.1.1.c.b.1 b.1.1.c.b.2.1 b.1.1.d b.1.2.1 b.1.b b.2))
def X2 (aq:cB)(Cu:XY)(x0:Int)(x1:Int)(x2:Int)(x3:Int)(x4:Int)(x5:Int)(x6:Int)(x7:Int)(x8:Int)(x9:Int)(gA:Int)(fX:Bool):Pg am3:=ae (decide (x1<x9)) (ret (((0,0),1),fX)) (ae (decide (x1>gA)) (ret (((0,0),1),fX)) (ae (decide (x2<1)) (ret (((0,0),1),fX)) (ae (decide (x2>1000000)) (ret (((0,0),1),fX)) (opt (aq x1 1073741824 1000 fX) λd=>opt (Cu x2) λaj=>ret (((d.1,aj),0),d.2)))))
def wR:=λx0 x1 x2 x3 x4 x5 x6 x7 x8 x9 gA fX=>(X2 aU wQ x0 x1 x2 x3 x4 x5 x6 x7 x8 x9 gA fX).val
theorem aFr:∀aq Cu,D1 [dD aq,XZ Cu] [0] 139 am0 (lf Tz) λb=>X2 aq Cu b.1.1.1 b.1.1.2.1 b.1.1.b.1 b.1.1.b.2.1 b.1.1.c.1 b.1.1.c.2.1 b.1.1.c.b.1 b.1.1.c.b.2.1 b.1.1.d b.1.2.1 b.1.b b.2:=λ_ _ b=>by kernel_rfl
theorem am4 [ax]:SC (X1 wR):=s0 (.c dQ (.c atf (.nil _))) (aFr aU wQ)
def X3:=qa (pr (cu aP Ea) bG)
def HJ:=qe aP9
abbrev X4:=HJ.B
abbrev J6:=Int->Int->Int->Int->Int->Int->Int->Int->Int->Bool->Option X4
def J7 (g:J6):Ct:=(90,FC X3 (lf HJ) (λb=>g b.1.1 b.1.2.1 b.1.b.1 b.1.b.2.1 b.1.c.1 b.1.c.2.1 b.1.c.b.1 b.1.c.b.2.1 b.1.d b.2))
def J8 (pN:X0)(x0:Int)(x1:Int)(x2:Int)(x3:Int)(x4:Int)(x5:Int)(x6:Int)(x7:Int)(x8:Int)(x9:Bool):Pg X4:=opt (pN x0 x1 x2 x3 x4 x5 x6 x7 x8 (-100000000) 100000000 x9) λd=>ret d
def oF:=λx0 x1 x2 x3 x4 x5 x6 x7 x8 x9=>(J8 wR x0 x1 x2 x3 x4 x5 x6 x7 x8 x9).val
theorem atg:∀pN,D0 [X1 pN] 90 X3 (lf HJ) λb=>J8 pN b.1.1 b.1.2.1 b.1.b.1 b.1.b.2.1 b.1.c.1 b.1.c.2.1 b.1.c.b.1 b.1.c.b.2.1 b.1.d b.2:=λ_ b=>by kernel_rfl
theorem X5 [ax]:SC (J7 oF):=s0 (.c am4 (.nil _)) (atg wR)
def am5:=qa (pr (cu aP (c mh (c (aa akp) jc))) bG)
def TA:=qe aWn
abbrev am6:=TA.B
abbrev am7:=NI->Int->Int->Int->Bool->Option am6
def am8 (g:am7):Ct:=(170,FC am5 (lf TA) (λb=>g b.1.1 b.1.2.1.1 b.1.2.1.2 b.1.b b.2))
def X6 (oy:Tt)(aw:bO)(aW:dt)(x0:Nat->Int)(x1:Int)(x2:Int)(x3:Int)(x4:Bool):Pg am6:=opt (oy 1 (λj=>bif ww j 0 then 9 else 9) true) λd=>opt (aw x1 x4) λaj=>opt (aW (wI (0-aj.1)) (x0 9) aj.2) λaD=>ret ((d,aD.1,x2,x3),aD.2)
def FH:=λx0 x1 x2 x3 x4=>(X6 qi aR bP x0 x1 x2 x3 x4).val
theorem aFs:∀oy aw aW,D0 [Tu oy,dH aw,iU aW] 170 am5 (lf TA) λb=>X6 oy aw aW b.1.1 b.1.2.1.1 b.1.2.1.2 b.1.b b.2:=λ_ _ _ b=>by kernel_rfl
theorem aFt [ax]:SC (am8 FH):=s0 (.c aiT (.c dM (.c jR (.nil _)))) (aFs qi aR bP)
def Uk:=qa (pr (cu aP Ea) bG)
def FI:=qe (res (pr aVU (pl nk nil)))
abbrev Ul:=FI.B
abbrev HK:=Int->Int->Int->Int->Int->Int->Int->Int->Int->Bool->Option Ul
def HL (g:HK):Ct:=(91,FC Uk (lf FI) (λb=>g b.1.1 b.1.2.1 b.1.b.1 b.1.b.2.1 b.1.c.1 b.1.c.2.1 b.1.c.b.1 b.1.c.b.2.1 b.1.d b.2))
def HM (pN:X0)(x0:Int)(x1:Int)(x2:Int)(x3:Int)(x4:Int)(x5:Int)(x6:Int)(x7:Int)(x8:Int)(x9:Bool):Pg Ul:=ae (decide (x3<0)) (ret (((0,0,0),1),x9)) (ae (decide (x3>100)) (ret (((0,0,0),1),x9)) (opt (pN x0 x1 x2 x3 x4 x5 x6 x7 x8 1 1000000 x9) λd=>ae (d.1.2!=0) (ret (((0,0,0),d.1.2),d.2)) (ret (((d.1.1.1,d.1.1.2,x3),0),d.2))))
def nr:=λx0 x1 x2 x3 x4 x5 x6 x7 x8 x9=>(HM wR x0 x1 x2 x3 x4 x5 x6 x7 x8 x9).val
theorem ao8:∀pN,D1 [X1 pN] [0] 91 Uk (lf FI) λb=>HM pN b.1.1 b.1.2.1 b.1.b.1 b.1.b.2.1 b.1.c.1 b.1.c.2.1 b.1.c.b.1 b.1.c.b.2.1 b.1.d b.2:=λ_ b=>by kernel_rfl
theorem Um [ax]:SC (HL nr):=s0 (.c am4 (.nil _)) (ao8 wR)
def aiU:=qa (pr (cu aP (c mh (c (aa (a 2 akp nN)) jc))) bG)
def Pd:=qe aDg
abbrev aiV:=Pd.B
abbrev aiW:=NI->Int->Int->Int->Int->Bool->Option aiV
def aiX (g:aiW):Ct:=(171,FC aiU (lf Pd) (λb=>g b.1.1 b.1.2.1.1.1 b.1.2.1.1.2 b.1.2.1.2 b.1.b b.2))
def TB (bg:eI)(fH:rp)(aE:cO)(aW:dt)(cy:fJ)(aB:bX)(x0:Nat->Int)(x1:Int)(x2:Int)(x3:Int)(x4:Int)(x5:Bool):Pg aiV:=opt (bg x0) λd=>let n1:=d.2.2;opt (fH d.1 d.2.1 n1.1 n1.2 x5) λaj=>ae (decide (aj.1 8<751619277)) (ret (((λx=>0,0,0,0),4),aj.2)) (ae (decide (x3<50)) (ret (((λx=>0,0,0,0),4),aj.2)) (opt (aE (x0 9) (aj.1 8) 30 aj.2) λaD=>opt (aW x1 (wI (0-aD.1)) aD.2) λbC=>opt (aE 1073741824 (aj.1 8) 30 bC.2) λcM=>opt (aE aD.1 (aj.1 8) 30 cM.2) λfA=>opt (cy 2 fA.2 (cr d.1 [d.1,d.1]) true) λdB=>opt (aB fA.1 dB.1 30 dB.2) λnX=>opt (cy 2 nX.2 (cr d.2.1 [d.2.1,d.2.1]) true) λtP=>opt (aB fA.1 (wI (0-tP.1)) 30 tP.2) λpI=>opt (cy 2 pI.2 (cr n1.1 [n1.1,n1.1]) true) λmV=>opt (aB fA.1 (wI (0-mV.1)) 30 mV.2) λxy=>opt (cy 2 xy.2 (cr n1.2 [n1.2,n1.2]) true) λd=>opt (aB fA.1 d.1 30 d.2) λd=>ret (((λj=>bif ww j 3 then d.1 else bif ww j 2 then xy.1 else bif ww j 1 then pI.1 else bif ww j 0 then nX.1 else bif ww j 9 then wI (0-cM.1) else 0,bC.1,x2,x4),0),d.2)))
def DA:=λx0 x1 x2 x3 x4 x5=>(TB cC kZ bo bP db aV x0 x1 x2 x3 x4 x5).val
abbrev TC:=eI×rp×cO×dt×fJ×bX
def aiY (p:TC):KK:=⟨[kD p.1,DZ p.2.1,gO p.b.1,iU p.b.2.1,pA p.c.1,fI p.c.2],⟨[⟨10,(1::rg 3 5 (rg 9 4 (rg 15 43 (rg 60 11 (rg 73 13 []))))),[]⟩],[],[],[],(some ⟨0,(rg 0 8 (rg 10 76 [])),[]⟩)⟩,0,171⟩
theorem aB1 (p:TC):D2 (aiY p) aiU (lf Pd) λb=>TB p.1 p.2.1 p.b.1 p.b.2.1 p.c.1 p.c.2 b.1.1 b.1.2.1.1.1 b.1.2.1.1.2 b.1.2.1.2 b.1.b b.2:=λb=>by kernel_rfl
abbrev aiZ:TC:=(cC,kZ,bo,bP,db,aV)
theorem aB2 [ax]:SC (aiX DA):=sc (kS (k:=aiY aiZ) (.c lK (.c GI (.c iT (.c jR (.c rY (.c fY (.nil _))))))) [10] [] ⟨kN,trivial⟩ trivial (aB1 aiZ))
def ai0:=qa (pl jc nil)
def Pe:=qe Hn
abbrev ai1:=Pe.B
abbrev TD:=Int->Option ai1
def ai2 (g:TD):Ct:=(140,FC ai0 (lf Pe) (λb=>g b))
def TE (aq:cB)(aF:cm)(x0:Int):Pg ai1:=opt (aq (wI (x0*x0)) 17592186044416 1000000000000 false) λd=>opt (aF d.1 1 72057594037927936 d.2) λd=>ret d.1
def DB:=λx0=>(TE aU bc x0).val
theorem aB3:∀aq aF,D0 [dD aq,eA aF] 140 ai0 (lf Pe) λb=>TE aq aF b:=λ_ _ b=>by kernel_rfl
theorem aB4 [ax]:SC (ai2 DB):=s0 (.c dQ (.c eZ (.nil _))) (aB3 aU bc)
def aAS:=qa (pr (cu aP Ea) bG)
def ahd:=qe aWs
abbrev aAT:=ahd.B
abbrev aav:=Int->Int->Int->Int->Int->Int->Int->Int->Int->Bool->Option aAT
def aaw (g:aav):Ct:=(92,FC aAS (lf ahd) (λb=>g b.1.1 b.1.2.1 b.1.b.1 b.1.b.2.1 b.1.c.1 b.1.c.2.1 b.1.c.b.1 b.1.c.b.2.1 b.1.d b.2))
def am9 (aB5:TD)(aq:cB)(x0:Int)(x1:Int)(x2:Int)(x3:Int)(x4:Int)(x5:Int)(x6:Int)(x7:Int)(x8:Int)(x9:Bool):Pg aAT:=ae (decide (x4<1)) (ret (((0,0,0,0),1),x9)) (ae (decide (x4>1000000)) (ret (((0,0,0,0),1),x9)) (opt (aB5 x4) λd=>ae (decide (x1< -2000000)) (ret (((0,0,0,0),1),x9)) (ae (decide (x1>2000000)) (ret (((0,0,0,0),1),x9)) (opt (aq x1 1073741824 1000000 x9) λaj=>ae (decide (x2< -2000000)) (ret (((0,0,0,0),1),aj.2)) (ae (decide (x2>2000000)) (ret (((0,0,0,0),1),aj.2)) (opt (aq x2 1073741824 1000000 aj.2) λaD=>ae (decide (x3< -2000000)) (ret (((0,0,0,0),1),aD.2)) (ae (decide (x3>2000000)) (ret (((0,0,0,0),1),aD.2)) (opt (aq x3 1073741824 1000000 aD.2) λbC=>ret (((aj.1,aD.1,bC.1,d),0),bC.2)))))))))
def yW:=λx0 x1 x2 x3 x4 x5 x6 x7 x8 x9=>(am9 DB aU x0 x1 x2 x3 x4 x5 x6 x7 x8 x9).val
abbrev ana:=TD×cB
def aAU (p:ana):KK:=⟨[ai2 p.1,dD p.2],⟨[⟨5,(1::2::rg 7 17 (rg 25 8 (rg 38 13 []))),[]⟩],[],[0],[],(some ⟨0,(rg 0 4 (rg 6 45 [])),[]⟩)⟩,0,92⟩
theorem aOd (p:ana):D2 (aAU p) aAS (lf ahd) λb=>am9 p.1 p.2 b.1.1 b.1.2.1 b.1.b.1 b.1.b.2.1 b.1.c.1 b.1.c.2.1 b.1.c.b.1 b.1.c.b.2.1 b.1.d b.2:=λb=>by kernel_rfl
abbrev aAV:ana:=(DB,aU)
theorem anb [ax]:SC (aaw yW):=sc (kS (k:=aAU aAV) (.c aB4 (.c dQ (.nil _))) [5] [] ⟨kN,trivial⟩ trivial (aOd aAV))
def aAW:=qa (pr (cu aP (c mh (c aPU jc))) bG)
def aKO:=qe aWS
abbrev anc:=(Bool×NI×Int×Int×Int×NI×Int×NI×Int)
def aAX:anc->T:=λd=>lf aKO (d.1,d.2.1,d.b.1,d.b.2.1,d.c.1,d.c.2.1,d.c.b.1,d.b.2.1,d.c.1,d.c.b.2.1,d.d,d.b.2.1,d.c.1)
abbrev aAY:=NI->Int->Int->Int->Int->Int->Bool->Option anc
def aAZ (g:aAY):Ct:=(233,FC aAW aAX (λb=>g b.1.1 b.1.2.1.1.1 b.1.2.1.1.2.1 b.1.2.1.1.b b.1.2.1.2 b.1.b b.2))
def ane (bg:eI)(bI:mT)(fH:rp)(Ri:Fq)(ahe:Ma)(acK:Iv)(cy:fJ)(aW:dt)(x0:Nat->Int)(x1:Int)(x2:Int)(x3:Int)(x4:Int)(x5:Int)(x6:Bool):Pg anc:=opt (bg x0) λd=>opt (bI x0 16) λaj=>opt (bI x0 19) λaD=>opt (fH d.1 d.2.1 d.2.2.1 d.2.2.2 x6) λbC=>opt (Ri bC.1 aj.1 aj.2.1 aj.2.2 bC.2) λcM=>opt (ahe d.1 d.2.1 d.2.2.1 d.2.2.2) λd=>opt (acK d.1 d.2.1 d.2.2.1 d.2.2.2 aj.1 aj.2.1 aj.2.2 cM.2) λd=>let n2:=d.1.2.2;let n1:=n2.2.2.2;let n3:=n1.2.2.2;opt (cy 2 d.2 (cr cM.1.1 [aD.1,cM.1.1]) true) λfA=>opt (aW x1 fA.1 fA.2) λdB=>opt (cy 2 dB.2 (cr cM.1.2.1 [aD.2.1,cM.1.2.1]) true) λnX=>opt (aW x2 nX.1 nX.2) λtP=>opt (cy 2 tP.2 (cr cM.1.2.2 [aD.2.2,cM.1.2.2]) true) λpI=>opt (aW x3 pI.1 pI.2) λmV=>ret (mV.2,λj=>bif ww j 19 then 1073741824 else bif ww j 18 then bC.1 6 else bif ww j 17 then bC.1 3 else bif ww j 16 then bC.1 0 else bif ww j 3 then wI (0-n2.2.1) else bif ww j 2 then wI (0-n2.1) else bif ww j 1 then wI (0-d.1.2.1) else bif ww j 0 then d.1.1 else 0,dB.1,x4,x5,λj=>bif ww j 20 then 1073741824 else bif ww j 18 then bC.1 7 else bif ww j 17 then bC.1 4 else bif ww j 16 then bC.1 1 else bif ww j 3 then wI (0-n1.2.2.1) else bif ww j 2 then wI (0-n1.2.1) else bif ww j 1 then wI (0-n1.1) else bif ww j 0 then n2.2.2.1 else 0,tP.1,λj=>bif ww j 21 then 1073741824 else bif ww j 18 then bC.1 8 else bif ww j 17 then bC.1 5 else bif ww j 16 then bC.1 2 else bif ww j 3 then wI (0-n3.2.2.2) else bif ww j 2 then wI (0-n3.2.2.1) else bif ww j 1 then wI (0-n3.2.1) else bif ww j 0 then n3.1 else 0,mV.1)
def Rj:=λx0 x1 x2 x3 x4 x5 x6=>(ane cC fe kZ yI BV zQ db bP x0 x1 x2 x3 x4 x5 x6).val
abbrev anf:=eI×mT×rp×Fq×Ma×Iv×fJ×dt
def aA0 (p:anf):KK:=⟨[kD p.1,rZ p.2.1,DZ p.b.1,Z7 p.b.2.1,agw p.c.1,acB p.c.2.1,pA p.c.b.1,iU p.c.b.2],⟨[⟨7,(1::2::4::5::rg 7 4 (rg 16 23 (rg 40 62 []))),[]⟩,⟨11,(1::2::4::5::rg 7 4 (rg 18 21 (rg 40 23 (rg 65 37 [])))),[]⟩,⟨18,(1::2::4::5::rg 7 4 (rg 18 21 (rg 40 38 (rg 79 23 [])))),[]⟩],[],[],[],(some ⟨0,(rg 0 8 (rg 9 93 [])),[]⟩)⟩,0,233⟩
theorem aOe (p:anf):D2 (aA0 p) aAW aAX λb=>ane p.1 p.2.1 p.b.1 p.b.2.1 p.c.1 p.c.2.1 p.c.b.1 p.c.b.2 b.1.1 b.1.2.1.1.1 b.1.2.1.1.2.1 b.1.2.1.1.b b.1.2.1.2 b.1.b b.2:=λb=>by kernel_rfl
abbrev aA1:anf:=(cC,fe,kZ,yI,BV,zQ,db,bP)
theorem aOf [ax]:SC (aAZ Rj):=sc (kS (k:=aA0 aA1) (.c lK (.c vH (.c GI (.c al1 (.c au0 (.c ard (.c rY (.c jR (.nil _))))))))) [7,11,18] [] ⟨kN,⟨kN,⟨kN,trivial⟩⟩⟩ trivial (aOe aA1))
def arj:=qa (pr (cu aP Hq) bG)
def X7:=qe (res (pr aPK (pl nk nil)))
abbrev ark:=X7.B
abbrev QA:=Int->Int->Int->Bool->Option ark
def acL (g:QA):Ct:=(248,FC arj (lf X7) (λb=>g b.1.1 b.1.2.1 b.1.b b.2))
def acM (kY:zJ)(sd:abJ)(x0:Int)(x1:Int)(x2:Int)(x3:Bool):Pg ark:=opt (kY 2 x3 (cr x0 [x1,x0]) true) λd=>ae (decide (d.1<16777216)) (ret ((0,false),d.2)) (opt (sd x1 x0 d.2) λd=>ret ((d.1,true),d.2))
def zU:=λx0 x1 x2 x3=>(acM gP zI x0 x1 x2 x3).val
theorem aG0:∀kY sd,D0 [Im kY,abK sd] 248 arj (lf X7) λb=>acM kY sd b.1.1 b.1.2.1 b.1.b b.2:=λ_ _ b=>by kernel_rfl
theorem arl [ax]:SC (acL zU):=s0 (.c Qr (.c aqy (.nil _))) (aG0 gP zI)
def ang:=qa (pr (cu aP (c mh (c aPU E6))) bG)
def TF:=qe aDg
abbrev anh:=TF.B
abbrev ani:=NI->Int->Int->Int->Int->Int->Int->Int->Bool->Option anh
def anj (g:ani):Ct:=(235,FC ang (lf TF) (λb=>g b.1.1 b.1.2.1.1.1 b.1.2.1.1.2.1 b.1.2.1.1.b b.1.2.1.2 b.1.b.1 b.1.b.2.1 b.1.c b.2))
def X8 (bg:eI)(fH:rp)(bI:mT)(oE:JW)(jy:GF)(D4:QA)(kY:zJ)(aW:dt)(dA:yE)(bh:fg)(cy:fJ)(aE:cO)(x0:Nat->Int)(x1:Int)(x2:Int)(x3:Int)(x4:Int)(x5:Int)(x6:Int)(x7:Int)(x8:Bool):Pg anh:=opt (bg x0) λd=>let n1:=d.2.2;opt (fH d.1 d.2.1 n1.1 n1.2 x8) λaj=>opt (bI x0 19) λaD=>opt (oE x1 x2 x3 aD.1 aD.2.1 aD.2.2 aj.2) λbC=>opt (jy aj.1 bC.1.1 bC.1.2.1 bC.1.2.2 bC.2) λcM=>opt (D4 cM.1.1 cM.1.2.1 cM.1.2.2 cM.2) λfA=>ae (!fA.1.2) (ret (((λx=>0,0,0,0),4),fA.2)) (opt (kY 2 fA.2 (cr (aj.1 0) [aj.1 3,aj.1 0]) true) λdB=>ae (decide (dB.1<16777216)) (ret (((λx=>0,0,0,0),4),dB.2)) (opt (aW x5 fA.1.1 dB.2) λnX=>opt (dA nX.1) λtP=>opt (bh 30 2 2 nX.2 (cr (aj.1 0) [aj.1 3,aj.1 0]) (cr (aj.1 0) [aj.1 3,aj.1 0]) true true) λpI=>opt (cy 2 pI.2 (cr d.1 [d.1,d.1]) true) λmV=>opt (cy 2 mV.2 (cr d.2.1 [d.2.1,d.2.1]) true) λxy=>opt (cy 2 xy.2 (cr n1.1 [n1.1,n1.1]) true) λKZ=>opt (cy 2 KZ.2 (cr n1.2 [n1.2,n1.2]) true) λd=>opt (bh 30 2 2 d.2 (cr (aj.1 0) [wI (0-aj.1 3),aj.1 0]) (cr d.1 [mV.1,d.1]) true true) λMw=>opt (aE Mw.1 pI.1 30 Mw.2) λaFn=>opt (bh 30 2 2 aFn.2 (cr (aj.1 0) [wI (0-aj.1 3),aj.1 0]) (cr KZ.1 [xy.1,KZ.1]) true true) λaaq=>opt (aE aaq.1 pI.1 30 aaq.2) λadZ=>opt (bh 30 2 2 adZ.2 (cr (aj.1 0) [wI (0-aj.1 3),aj.1 0]) (cr xy.1 [wI (0-KZ.1),xy.1]) true true) λaar=>opt (aE aar.1 pI.1 30 aar.2) λaFo=>opt (bh 30 2 2 aFo.2 (cr (aj.1 0) [wI (0-aj.1 3),aj.1 0]) (cr mV.1 [wI (0-d.1),mV.1]) true true) λd=>opt (aE d.1 pI.1 30 d.2) λd=>ret (((cr 0 [d.1,aFo.1,adZ.1,aFn.1],tP,x6,x7),0),d.2)))
def FJ:=λx0 x1 x2 x3 x4 x5 x6 x7 x8=>(X8 cC kZ fe wJ pK zU gP bP lI bu db bo x0 x1 x2 x3 x4 x5 x6 x7 x8).val
abbrev X9:=eI×rp×mT×JW×GF×QA×zJ×dt×yE×fg×fJ×cO
def ank (p:X9):KK:=⟨[kD p.1,DZ p.2.1,rZ p.b.1,Wp p.b.2.1,Mg p.c.1,acL p.c.2.1,Im p.c.b.1,iU p.c.b.2.1,BT p.d.1,nY p.d.2.1,pA p.d.b.1,gO p.d.b.2],⟨[⟨10,(rg 1 11 (13::14::16::17::rg 21 57 (rg 80 58 []))),[]⟩,⟨17,(rg 1 11 (13::14::16::17::20::21::22::rg 25 86 (rg 112 26 []))),[]⟩],[],[],[],(some ⟨0,(rg 0 12 (rg 14 124 [])),[]⟩)⟩,0,235⟩
theorem aFu (p:X9):D2 (ank p) ang (lf TF) λb=>X8 p.1 p.2.1 p.b.1 p.b.2.1 p.c.1 p.c.2.1 p.c.b.1 p.c.b.2.1 p.d.1 p.d.2.1 p.d.b.1 p.d.b.2 b.1.1 b.1.2.1.1.1 b.1.2.1.1.2.1 b.1.2.1.1.b b.1.2.1.2 b.1.b.1 b.1.b.2.1 b.1.c b.2:=λb=>by kernel_rfl
abbrev anl:X9:=(cC,kZ,fe,wJ,pK,zU,gP,bP,lI,bu,db,bo)
theorem aFv [ax]:SC (anj FJ):=sc (kS (k:=ank anl) (.c lK (.c GI (.c vH (.c agp (.c UY (.c arl (.c Qr (.c jR (.c Gy (.c pB (.c rY (.c iT (.nil _))))))))))))) [10,17] [] ⟨kN,⟨kN,trivial⟩⟩ trivial (aFu anl))
def avX:=qa (pr (cu aP (c afi (c aPU jc))) bG)
def acN:=qe aP7
abbrev avY:=acN.B
abbrev avZ:=Int->Int->Int->Int->Int->Int->Int->Int->Int->Bool->Option avY
def av0 (g:avZ):Ct:=(219,FC avX (lf acN) (λb=>g b.1.1.1 b.1.1.2.1 b.1.1.b.1 b.1.1.b.2 b.1.2.1.1.1 b.1.2.1.1.2.1 b.1.2.1.1.b b.1.2.1.2 b.1.b b.2))
def ahf (fH:rp)(jy:GF)(D4:QA)(aW:dt)(dA:yE)(x0:Int)(x1:Int)(x2:Int)(x3:Int)(x4:Int)(x5:Int)(x6:Int)(x7:Int)(x8:Int)(x9:Bool):Pg avY:=opt (fH x0 x1 x2 x3 x9) λd=>opt (jy d.1 x4 x5 x6 d.2) λd=>opt (D4 d.1.1 d.1.2.1 d.1.2.2 d.2) λd=>ae (!d.1.2) (ret ((0,4),d.2)) (opt (aW x8 d.1.1 d.2) λd=>opt (dA d.1) λaj=>ret ((aj,0),d.2))
def M4:=λx0 x1 x2 x3 x4 x5 x6 x7 x8 x9=>(ahf kZ pK zU bP lI x0 x1 x2 x3 x4 x5 x6 x7 x8 x9).val
theorem aKP:∀fH jy D4 aW dA,D0 [DZ fH,Mg jy,acL D4,iU aW,BT dA] 219 avX (lf acN) λb=>ahf fH jy D4 aW dA b.1.1.1 b.1.1.2.1 b.1.1.b.1 b.1.1.b.2 b.1.2.1.1.1 b.1.2.1.1.2.1 b.1.2.1.1.b b.1.2.1.2 b.1.b b.2:=λ_ _ _ _ _ b=>by kernel_rfl
theorem aKQ [ax]:SC (av0 M4):=s0 (.c GI (.c UY (.c arl (.c jR (.c Gy (.nil _)))))) (aKP kZ pK zU bP lI)
def ai3:=qa (pl jc nil)
def Pf:=qe Hn
abbrev ai4:=Pf.B
abbrev ai5:=Int->Option ai4
def ai6 (g:ai5):Ct:=(141,FC ai3 (lf Pf) (λb=>g b))
def TG (aq:cB)(aF:cm)(x0:Int):Pg ai4:=opt (aq (wI (x0*x0)) 17592186044416 1000000 false) λd=>opt (aF d.1 1 72057594037927936 d.2) λd=>ret d.1
def DD:=λx0=>(TG aU bc x0).val
theorem aB6:∀aq aF,D0 [dD aq,eA aF] 141 ai3 (lf Pf) λb=>TG aq aF b:=λ_ _ b=>by kernel_rfl
theorem aB7 [ax]:SC (ai6 DD):=s0 (.c dQ (.c eZ (.nil _))) (aB6 aU bc)
def aA2:=qa (pr (cu aP Ea) bG)
def ahg:=qe aP9
abbrev aA3:=ahg.B
abbrev anm:=Int->Int->Int->Int->Int->Int->Int->Int->Int->Bool->Option aA3
def ann (g:anm):Ct:=(93,FC aA2 (lf ahg) (λb=>g b.1.1 b.1.2.1 b.1.b.1 b.1.b.2.1 b.1.c.1 b.1.c.2.1 b.1.c.b.1 b.1.c.b.2.1 b.1.d b.2))
def ano (aq:cB)(Jo:ai5)(x0:Int)(x1:Int)(x2:Int)(x3:Int)(x4:Int)(x5:Int)(x6:Int)(x7:Int)(x8:Int)(x9:Bool):Pg aA3:=ae (decide (x1<0)) (ret (((0,0),1),x9)) (ae (decide (x1>300000)) (ret (((0,0),1),x9)) (ae (decide (x2<1)) (ret (((0,0),1),x9)) (ae (decide (x2>1000000)) (ret (((0,0),1),x9)) (opt (aq x1 1073741824 1000 x9) λd=>opt (Jo x2) λaj=>ret (((d.1,aj),0),d.2)))))
def FK:=λx0 x1 x2 x3 x4 x5 x6 x7 x8 x9=>(ano aU DD x0 x1 x2 x3 x4 x5 x6 x7 x8 x9).val
theorem aOg:∀aq Jo,D1 [dD aq,ai6 Jo] [0] 93 aA2 (lf ahg) λb=>ano aq Jo b.1.1 b.1.2.1 b.1.b.1 b.1.b.2.1 b.1.c.1 b.1.c.2.1 b.1.c.b.1 b.1.c.b.2.1 b.1.d b.2:=λ_ _ b=>by kernel_rfl
theorem aA4 [ax]:SC (ann FK):=s0 (.c dQ (.c aB7 (.nil _))) (aOg aU DD)
def ai7:=qa (pr (cu aP asb) bG)
def Ph:=qe aw6
abbrev ai8:=Ph.B
abbrev DE:=NI->Bool->Option ai8
def TH (g:DE):Ct:=(258,FC ai7 (lf Ph) (λb=>g b.1 b.2))
def TI (bI:mT)(oE:JW)(x0:Nat->Int)(x1:Bool):Pg ai8:=opt (bI x0 4) λd=>opt (oE d.1 d.2.1 d.2.2 (x0 22) (x0 23) 0 x1) λd=>ret d
def ur:=λx0 x1=>(TI fe wJ x0 x1).val
theorem aB8:∀bI oE,D0 [rZ bI,Wp oE] 258 ai7 (lf Ph) λb=>TI bI oE b.1 b.2:=λ_ _ b=>by kernel_rfl
theorem ai9 [ax]:SC (TH ur):=s0 (.c vH (.c agp (.nil _))) (aB8 fe wJ)
def av1:=qa (pr (cu (app 0 27) Hq) (cl aw3 nil))
def acO:=qe (res (pu QP (pl (cl (zD aw3) nil) nil)))
abbrev av2:=acO.B
abbrev M5:=Int->Int->Int->NI->Int->Int->Int->Option av2
def ahh (g:M5):Ct:=(259,FC av1 (lf acO) (λb=>g b.1.1 b.1.2.1 b.1.b b.2.1 b.b.1 b.b.2.1 b.c))
def ahi (x0:Int)(x1:Int)(x2:Int)(x3:Nat->Int)(x4:Int)(x5:Int)(x6:Int):Pg av2:=ret (λj=>bif ww j 6 then x2 else bif ww j 23 then wI (0-x1) else bif ww j 5 then x1 else bif ww j 22 then wI (0-x0) else bif ww j 4 then x0 else x3 j,x4,x5,x6)
def Cv:=λx0 x1 x2 x3 x4 x5 x6=>(ahi x0 x1 x2 x3 x4 x5 x6).val
abbrev ahj:=Unit
def av3 (p:ahj):KK:=⟨[],⟨[⟨2,(1::2::4::rg 6 24 []),[]⟩],[],[],[],(some ⟨0,(rg 0 30 []),[]⟩)⟩,0,259⟩
theorem aKR (p:ahj):D2 (av3 p) av1 (lf acO) λb=>ahi b.1.1 b.1.2.1 b.1.b b.2.1 b.b.1 b.b.2.1 b.c:=λb=>by kernel_rfl
abbrev av4:ahj:=()
theorem av5 [ax]:SC (ahh Cv):=sc (kS (k:=av3 av4) (.nil _) [2] [] ⟨kN,trivial⟩ trivial (aKR av4))
def aja:=qa (pr (cu aP (c mh (c (aa akp) jc))) bG)
def Pj:=qe aDg
abbrev ajb:=Pj.B
abbrev ajc:=NI->Int->Int->Int->Bool->Option ajb
def ajd (g:ajc):Ct:=(236,FC aja (lf Pj) (λb=>g b.1.1 b.1.2.1.1 b.1.2.1.2 b.1.b b.2))
def TJ (TK:DE)(vM:Bt)(aW:dt)(aE:cO)(ahk:M5)(x0:Nat->Int)(x1:Int)(x2:Int)(x3:Int)(x4:Bool):Pg ajb:=opt (TK x0 x4) λd=>opt (vM d.1.1 d.1.2.1 d.1.2.2 d.2) λaj=>ae (decide (aj.1<1073741824)) (ret (((λx=>0,0,0,0),4),aj.2)) (opt (aW x1 aj.1 aj.2) λaD=>opt (aE d.1.1 aj.1 30 aD.2) λbC=>opt (aE d.1.2.1 aj.1 30 bC.2) λcM=>opt (aE d.1.2.2 aj.1 30 cM.2) λd=>opt (ahk bC.1 cM.1 d.1 (λx=>0) aD.1 x2 x3) λfA=>ret ((fA,0),d.2))
def DF:=λx0 x1 x2 x3 x4=>(TJ ur p6 bP bo Cv x0 x1 x2 x3 x4).val
abbrev TL:=DE×Bt×dt×cO×M5
def aje (p:TL):KK:=⟨[TH p.1,Q6 p.2.1,iU p.b.1,gO p.b.2.1,ahh p.c],⟨[⟨8,(rg 1 7 (9::rg 14 19 (rg 34 14 []))),[]⟩],[],[],[],(some ⟨0,(rg 0 8 (rg 10 38 [])),[]⟩)⟩,0,236⟩
theorem aB9 (p:TL):D2 (aje p) aja (lf Pj) λb=>TJ p.1 p.2.1 p.b.1 p.b.2.1 p.c b.1.1 b.1.2.1.1 b.1.2.1.2 b.1.b b.2:=λb=>by kernel_rfl
abbrev ajf:TL:=(ur,p6,bP,bo,Cv)
theorem aCa [ax]:SC (ajd DF):=sc (kS (k:=aje ajf) (.c ai9 (.c ZX (.c jR (.c iT (.c av5 (.nil _)))))) [8] [] ⟨kN,trivial⟩ trivial (aB9 ajf))
def ajg:=qa (pr (cu aP (c mh zE)) bG)
def Pk:=qe aDg
abbrev ajh:=Pk.B
abbrev aji:=NI->Int->Int->Bool->Option ajh
def ajj (g:aji):Ct:=(237,FC ajg (lf Pk) (λb=>g b.1.1 b.1.2.1 b.1.b b.2))
def TM (bg:eI)(fH:rp)(TK:DE)(Ri:Fq)(aE:cO)(aB:bX)(aW:dt)(ahk:M5)(x0:Nat->Int)(x1:Int)(x2:Int)(x3:Bool):Pg ajh:=opt (bg x0) λd=>opt (fH d.1 d.2.1 d.2.2.1 d.2.2.2 x3) λd=>opt (TK x0 d.2) λaj=>opt (Ri d.1 aj.1.1 aj.1.2.1 aj.1.2.2 aj.2) λaD=>let n1:=aD.1.1;ae (decide (n1<5368709120)) (ret (((λx=>0,0,0,0),4),aD.2)) (opt (aE aD.1.2.1 n1 30 aD.2) λbC=>opt (aB bC.1 (d.1 0) 30 bC.2) λcM=>opt (aW (d.1 1) cM.1 cM.2) λfA=>opt (aE fA.1 n1 30 fA.2) λdB=>opt (aB bC.1 (d.1 3) 30 dB.2) λnX=>opt (aW (d.1 4) nX.1 nX.2) λtP=>opt (aE tP.1 n1 30 tP.2) λpI=>opt (aB bC.1 (d.1 6) 30 pI.2) λmV=>opt (aW (d.1 7) mV.1 mV.2) λd=>opt (aE d.1 n1 30 d.2) λd=>opt (ahk dB.1 pI.1 d.1 (λx=>0) (wI (0-bC.1)) x1 x2) λxy=>ret ((xy,0),d.2))
def DG:=λx0 x1 x2 x3=>(TM cC kZ ur yI bo aV bP Cv x0 x1 x2 x3).val
abbrev TN:=eI×rp×DE×Fq×cO×bX×dt×M5
def ajk (p:TN):KK:=⟨[kD p.1,DZ p.2.1,TH p.b.1,Z7 p.b.2.1,gO p.c.1,fI p.c.2.1,iU p.c.b.1,ahh p.c.b.2],⟨[⟨9,(rg 1 7 (9::rg 15 26 (rg 42 26 []))),[]⟩],[],[],[],(some ⟨0,(rg 0 8 (rg 10 58 [])),[]⟩)⟩,0,237⟩
theorem aCb (p:TN):D2 (ajk p) ajg (lf Pk) λb=>TM p.1 p.2.1 p.b.1 p.b.2.1 p.c.1 p.c.2.1 p.c.b.1 p.c.b.2 b.1.1 b.1.2.1 b.1.b b.2:=λb=>by kernel_rfl
abbrev ajl:TN:=(cC,kZ,ur,yI,bo,aV,bP,Cv)
theorem aCc [ax]:SC (ajj DG):=sc (kS (k:=ajk ajl) (.c lK (.c GI (.c ai9 (.c al1 (.c iT (.c fY (.c jR (.c av5 (.nil _))))))))) [9] [] ⟨kN,trivial⟩ trivial (aCb ajl))
def aef:=qa (pl jc nil)
def M6:=qe Hn
abbrev aeg:=M6.B
abbrev Pm:=Int->Option aeg
def aeh (g:Pm):Ct:=(142,FC aef (lf M6) (λb=>g b))
def Pn (aq:cB)(aF:cm)(x0:Int):Pg aeg:=opt (aq (wI (x0*x0)) 17592186044416 1000000000000 false) λd=>opt (aF d.1 1 72057594037927936 d.2) λd=>ret d.1
def A5:=λx0=>(Pn aU bc x0).val
theorem ayl:∀aq aF,D0 [dD aq,eA aF] 142 aef (lf M6) λb=>Pn aq aF b:=λ_ _ b=>by kernel_rfl
theorem aym [ax]:SC (aeh A5):=s0 (.c dQ (.c eZ (.nil _))) (ayl aU bc)
def av6:=qa (pr (cu aP Ea) bG)
def acP:=qe aWs
abbrev av7:=acP.B
abbrev ahl:=Int->Int->Int->Int->Int->Int->Int->Int->Int->Bool->Option av7
def ahm (g:ahl):Ct:=(94,FC av6 (lf acP) (λb=>g b.1.1 b.1.2.1 b.1.b.1 b.1.b.2.1 b.1.c.1 b.1.c.2.1 b.1.c.b.1 b.1.c.b.2.1 b.1.d b.2))
def ahn (aq:cB)(ayn:Pm)(x0:Int)(x1:Int)(x2:Int)(x3:Int)(x4:Int)(x5:Int)(x6:Int)(x7:Int)(x8:Int)(x9:Bool):Pg av7:=ae (decide (x1< -10000000)) (ret (((0,0,0,0),1),x9)) (ae (decide (x1>10000000)) (ret (((0,0,0,0),1),x9)) (ae (decide (x2< -10000000)) (ret (((0,0,0,0),1),x9)) (ae (decide (x2>10000000)) (ret (((0,0,0,0),1),x9)) (ae (decide (x3<1)) (ret (((0,0,0,0),1),x9)) (ae (decide (x3>10000000)) (ret (((0,0,0,0),1),x9)) (ae (decide (x4<0)) (ret (((0,0,0,0),1),x9)) (ae (decide (x4>100)) (ret (((0,0,0,0),1),x9)) (opt (aq x1 1073741824 1000000 x9) λd=>opt (aq x2 1073741824 1000000 d.2) λaj=>opt (ayn x3) λaD=>ret (((d.1,aj.1,aD,x4),0),aj.2)))))))))
def Cw:=λx0 x1 x2 x3 x4 x5 x6 x7 x8 x9=>(ahn aU A5 x0 x1 x2 x3 x4 x5 x6 x7 x8 x9).val
abbrev aho:=cB×Pm
def av8 (p:aho):KK:=⟨[dD p.1,aeh p.2],⟨[⟨2,(1::rg 5 4 (rg 12 4 (17::rg 20 8 (32::33::38::39::rg 44 20 [])))),[]⟩],[],[0],[],(some ⟨0,(rg 0 4 (rg 6 58 [])),[]⟩)⟩,0,94⟩
theorem aKS (p:aho):D2 (av8 p) av6 (lf acP) λb=>ahn p.1 p.2 b.1.1 b.1.2.1 b.1.b.1 b.1.b.2.1 b.1.c.1 b.1.c.2.1 b.1.c.b.1 b.1.c.b.2.1 b.1.d b.2:=λb=>by kernel_rfl
abbrev av9:aho:=(aU,A5)
theorem awa [ax]:SC (ahm Cw):=sc (kS (k:=av8 av9) (.c dQ (.c aym (.nil _))) [2] [] ⟨kN,trivial⟩ trivial (aKS av9))
def aei:=qa (pr (cu aP asb) bG)
def M7:=qe aP7
abbrev aej:=M7.B
abbrev Pp:=NI->Bool->Option aej
def aek (g:Pp):Ct:=(260,FC aei (lf M7) (λb=>g b.1 b.2))
def Pq (bg:eI)(fH:rp)(aE:cO)(x0:Nat->Int)(x1:Bool):Pg aej:=opt (bg x0) λd=>opt (fH d.1 d.2.1 d.2.2.1 d.2.2.2 x1) λd=>ae (decide (d.1 8<751619277)) (ret ((0,4),d.2)) (opt (aE (x0 9) (d.1 8) 30 d.2) λd=>let y0:=wI (0-d.1);ae (decide (y0<536870912)) (ret ((0,4),d.2)) (ret ((y0,0),d.2)))
def A6:=λx0 x1=>(Pq cC kZ bo x0 x1).val
theorem ayo:∀bg fH aE,D0 [kD bg,DZ fH,gO aE] 260 aei (lf M7) λb=>Pq bg fH aE b.1 b.2:=λ_ _ _ b=>by kernel_rfl
theorem ayp [ax]:SC (aek A6):=s0 (.c lK (.c GI (.c iT (.nil _)))) (ayo cC kZ bo)
def awb:=qa (pr (cu aP (c mh (c afi jc))) bG)
def ajm:=qe (res (pr aVF (pl nk nil)))
def aCd:=qe (res (pu (sH (cu (rc (jr (pu AD (pu wA (pu (szl rq4) (pu (nat 27) jP)))))) aks)) (pr nk (cl aQd nil))))
abbrev U9:=ajm.B⊕(Bool×NI×Int×Int×Int×NI×Int)
def awc:U9->T:=ls (lf ajm) (λd=>lf aCd (d.1,d.2.1,d.b.1,d.b.2.1,d.c.1,d.c.2.1,d.c.b,d.b.2.1,d.c.1))
abbrev awd:=NI->Int->Int->Int->Int->Int->Bool->Option U9
def awe (g:awd):Ct:=(238,FC awb awc (λb=>g b.1.1 b.1.2.1.1 b.1.2.1.2.1 b.1.2.1.b.1 b.1.2.1.b.2 b.1.b b.2))
def U' (ayq:Pp)(bg:eI)(fH:rp)(bI:mT)(Ri:Fq)(aE:cO)(aW:dt)(x0:Nat->Int)(x1:Int)(x2:Int)(x3:Int)(x4:Int)(x5:Int)(x6:Bool):Pg U9:=ae (decide (x4<30)) (ret (wr (4,x6))) (opt (ayq x0 x6) λd=>let n1:=d.1.1;ae (d.1.2!=0) (ret (wr (d.1.2,d.2))) (opt (bg x0) λaj=>opt (fH aj.1 aj.2.1 aj.2.2.1 aj.2.2.2 d.2) λaD=>opt (bI x0 4) λbC=>opt (Ri aD.1 bC.1 bC.2.1 bC.2.2 aD.2) λcM=>opt (aE cM.1.2.1 n1 30 cM.2) λfA=>opt (aW x1 fA.1 fA.2) λdB=>opt (aE cM.1.1 n1 30 dB.2) λnX=>opt (aW x2 (wI (0-nX.1)) nX.2) λtP=>opt (aE (aD.1 1) n1 30 tP.2) λpI=>opt (aE (aD.1 0) n1 30 pI.2) λmV=>opt (aE (aD.1 4) n1 30 mV.2) λxy=>opt (aE (aD.1 3) n1 30 xy.2) λKZ=>opt (aE (aD.1 7) n1 30 KZ.2) λMw=>opt (aE (aD.1 6) n1 30 Mw.2) λd=>ret (wn (d.2,λj=>bif ww j 6 then Mw.1 else bif ww j 5 then xy.1 else bif ww j 4 then pI.1 else 0,dB.1,x3,x5,λj=>bif ww j 6 then wI (0-d.1) else bif ww j 5 then wI (0-KZ.1) else bif ww j 4 then wI (0-mV.1) else 0,tP.1))))
def Cy:=λx0 x1 x2 x3 x4 x5 x6=>(U' A6 cC kZ fe yI bo bP x0 x1 x2 x3 x4 x5 x6).val
abbrev ahp:=Pp×eI×rp×mT×Fq×cO×dt
def awf (p:ahp):KK:=⟨[aek p.1,kD p.2.1,DZ p.b.1,rZ p.b.2.1,Z7 p.c.1,gO p.c.2.1,iU p.c.b],⟨[⟨11,(rg 1 9 (11::13::rg 16 49 (rg 66 30 []))),[]⟩],[],[0],[],(some ⟨0,(rg 0 8 (rg 10 86 [])),[]⟩)⟩,0,238⟩
theorem aKT (p:ahp):D2 (awf p) awb awc λb=>U' p.1 p.2.1 p.b.1 p.b.2.1 p.c.1 p.c.2.1 p.c.b b.1.1 b.1.2.1.1 b.1.2.1.2.1 b.1.2.1.b.1 b.1.2.1.b.2 b.1.b b.2:=λb=>by kernel_rfl
abbrev awg:ahp:=(A6,cC,kZ,fe,yI,bo,bP)
theorem aKU [ax]:SC (awe Cy):=sc (kS (k:=awf awg) (.c ayp (.c lK (.c GI (.c vH (.c al1 (.c iT (.c jR (.nil _)))))))) [11] [] ⟨kN,trivial⟩ trivial (aKT awg))
def awh:=qa (pl jc nil)
def acQ:=qe E5
abbrev awi:=acQ.B
abbrev Va:=Int->Option awi
def Vb (g:Va):Ct:=(83,FC awh (lf acQ) (λb=>g b))
def Vc (x0:Int):Pg awi:=ae (decide (x0>=0)) (ret (decide (x0<6))) (ret false)
def pO:=λx0=>(Vc x0).val
theorem aKV:D0 [] 83 awh (lf acQ) λb=>Vc b:=λb=>by kernel_rfl
theorem ahq [ax]:SC (Vb pO):=s0 (.nil _) aKV
def Rk:=qa (pr (cu KG jc) aPP)
def Eh:=qe (res (pu QP (pl (cl (zD (cl gi (cu aM (cu awZ nil)))) nil) nil)))
abbrev FL:=Eh.B
abbrev Rl:=Int->Int->Int->Bool->Option FL
def Rm (g:Rl):Ct:=(265,FC Rk (lf Eh) (λb=>g b.1 b.2.1 b.b.1 b.b.2))
def yX (x0:Int)(x1:Int)(x2:Int)(x3:Bool):Pg FL:=ae (!x3) (ret x0) (ae (decide (x0>x1)) (ret x0) (ret x1))
def mw:=λx0 x1 x2 x3=>(yX x0 x1 x2 x3).val
theorem anp:D0 [] 265 Rk (lf Eh) λb=>yX b.1 b.2.1 b.b.1 b.b.2:=λb=>by kernel_rfl
theorem anq [ax]:SC (Rm mw):=s0 (.nil _) anp
def Rn:=qa (pu (cu KG nil) aPP)
def Ei:=qe (res (pu QP (pl (cl (zD asa) nil) nil)))
abbrev FM:=Ei.B
abbrev Ro:=Int->Int->Bool->Option FM
def Rp (g:Ro):Ct:=(266,FC Rn (lf Ei) (λb=>g b.1 b.2.1 b.b))
def yY (x0:Int)(x1:Int)(x2:Bool):Pg FM:=let y0:=wI (x1+1);ret (x0,if 1000<y0 then 1000 else y0,x2)
def mx:=λx0 x1 x2=>(yY x0 x1 x2).val
theorem anr:D0 [] 266 Rn (lf Ei) λb=>yY b.1 b.2.1 b.b:=λb=>by kernel_rfl
theorem ant [ax]:SC (Rp mx):=s0 (.nil _) anr
def Iy:=qa (dp (cu ay7 (c ai (c ai aJb))) λa=>(c nP (cl (cl (gs a.b.1 ar9) nil) nil)))
def xH:=qe (res (pu QP (pl (cl aDd Zm) nil)))
abbrev Iz:=xH.B
abbrev IA:=Int->Int->Nat->NI->NI->(Nat->Bool)->NI->NI->NI->Int->(Nat->Bool)->NI->NI->Bool->Option Iz
def IB (g:IA):Ct:=(256,vE 3 [.b,.i .i64,.i .i64] (FC Iy (lf xH) (λb=>g b.1.1 b.1.2.1 b.1.b.1 b.2.1.1.1 b.2.1.1.2.1 b.2.1.1.b.1 b.2.1.1.b.2.1 b.2.1.1.c.1 b.2.1.1.c.2 b.2.1.2 b.b.1 b.b.2.1 b.c b.1.b.2)))
def se (lM:Va)(sf:acq)(yZ:Rl)(za:Ro)(x0:Int)(x1:Int)(x2:Nat)(x3:Nat->Int)(x4:Nat->Int)(x5:Nat->Bool)(x6:Nat->Int)(x7:Nat->Int)(x8:Nat->Int)(x9:Int)(gA:Nat->Bool)(fX:Nat->Int)(BL:Nat->Int)(w0:Bool):Pg Iz:=let n3:=((x5,x6,x7,x8).1 (ws x0));let n2:=((x4,x5,x6,x7,x8).1 (ws x0));let n1:=((x3,x4,x5,x6,x7,x8).1 (ws x0));let y0:=bb x0 6;let y1:=0+ws x0*6+3;let y2:=wd y1 36;let y3:=y2&&wd y1 37;opt (lM x0) λd=>ae (!d) (ret ((x3,x4,x5,x6,x7,x8),x9)) (ae (wl x2==0) (ret ((x3,x4,x5,x6,x7,x8),x9)) (ae (ww x2 x2) (opt (sf x2 gA fX BL (w0&&true)) λd=>ae (decide (d.1>0)) (ae y0 (ae y2 (opt (yZ x1 n1 n2 n3) λd=>ae y3 (ret ((λj=>bif ww j (ws x0) then d else(x3,x4,x5,x6,x7,x8).1 j,λj=>bif ww j (ws x0) then 0 else(x4,x5,x6,x7,x8).1 j,λj=>bif ww j (ws x0) then true else(x5,x6,x7,x8).1 j,x6,x7,x8),x9)) no) no) no) (ae y0 (ae y2 (opt (za n1 n2 n3) λd=>ae y3 (ret ((λj=>bif ww j (ws x0) then d.1 else(x3,x4,x5,x6,x7,x8).1 j,λj=>bif ww j (ws x0) then d.2.1 else(x4,x5,x6,x7,x8).1 j,λj=>bif ww j (ws x0) then d.2.2 else(x5,x6,x7,x8).1 j,x6,x7,x8),x9)) no) no) no)) no))
def fh:=λx0 x1 x2 x3 x4 x5 x6 x7 x8 x9 gA fX BL w0=>(se pO zO mw mx x0 x1 x2 x3 x4 x5 x6 x7 x8 x9 gA fX BL w0).val
theorem acR:∀lM sf yZ za,D1 [Vb lM,acr sf,Rm yZ,Rp za] [0] 256 Iy (lf xH) λb=>se lM sf yZ za b.1.1 b.1.2.1 b.1.b.1 b.2.1.1.1 b.2.1.1.2.1 b.2.1.1.b.1 b.2.1.1.b.2.1 b.2.1.1.c.1 b.2.1.1.c.2 b.2.1.2 b.b.1 b.b.2.1 b.c b.1.b.2:=λ_ _ _ _ b=>by kernel_rfl
theorem acS [ax]:SC (IB fh):=sc (Sound.nil 3 [.b,.i .i64,.i .i64]<|k0 (.c ahq (.c aq4 (.c anq (.c ant (.nil _))))) (acR pO zO mw mx))
def NT:=qa (pr (cu KG zE) aPP)
def Cz:=qe aJj
abbrev xp:=Cz.B
abbrev NU:=Int->Int->Int->Int->Bool->Option xp
def NV (g:NU):Ct:=(46,FC NT (lf Cz) (λb=>g b.1.1 b.1.2 b.2.1 b.b.1 b.b.2))
def qI (x0:Int)(x1:Int)(x2:Int)(x3:Int)(x4:Bool):Pg xp:=let y0:=decide (x1>=0);ae (!x4) (ret false) (ae (decide (x0>=x2)) (ae y0 (ret (decide (wU (wU x0-wU x2)<=wU x1))) (ret false)) (ae y0 (ret true) (ret (decide (wU (wU x2-wU x0)>=wU (0-wU x1))))))
def lE:=λx0 x1 x2 x3 x4=>(qI x0 x1 x2 x3 x4).val
theorem ajX:D0 [] 46 NT (lf Cz) λb=>qI b.1.1 b.1.2 b.2.1 b.b.1 b.b.2:=λb=>by kernel_rfl
theorem ajY [ax]:SC (NV lE):=s0 (.nil _) ajX
def K1:=qa (pr (cu (app 0 6) jc) (cl (a 3 asa mX) nil))
def zV:=qe aJj
abbrev oW:=zV.B
abbrev mc:=Int->Int->Int->Bool->Int->Int->Int->Option oW
def ub (g:mc):Ct:=(18,FC K1 (lf zV) (λb=>g b.1 b.2.1.1 b.2.1.2.1 b.2.1.b b.b.1 b.b.2.1 b.c))
def oX (xq:NU)(x0:Int)(x1:Int)(x2:Int)(x3:Bool)(x4:Int)(x5:Int)(x6:Int):Pg oW:=opt (xq x0 x5 x1 x2 x3) λd=>ae d (ret (decide (x2<=x6))) (ret false)
def du:=λx0 x1 x2 x3 x4 x5 x6=>(oX lE x0 x1 x2 x3 x4 x5 x6).val
theorem ael:∀xq,D0 [NV xq] 18 K1 (lf zV) λb=>oX xq b.1 b.2.1.1 b.2.1.2.1 b.2.1.b b.b.1 b.b.2.1 b.c:=λ_ b=>by kernel_rfl
theorem A7 [ax]:SC (ub du):=s0 (.c ajY (.nil _)) (ael lE)
def IC:=qa (pr (cu ay7 zE) aDe)
def xI:=qe aJj
abbrev si:=xI.B
abbrev zW:=Int->Int->NI->NI->(Nat->Bool)->NI->NI->NI->Int->Option si
def ID (g:zW):Ct:=(110,FC IC (lf xI) (λb=>g b.1.1 b.1.2 b.2.1.1 b.2.1.2.1 b.2.1.b.1 b.2.1.b.2.1 b.2.1.c.1 b.2.1.c.2 b.b))
def sj (lM:Va)(gK:mc)(x0:Int)(x1:Int)(x2:Nat->Int)(x3:Nat->Int)(x4:Nat->Bool)(x5:Nat->Int)(x6:Nat->Int)(x7:Nat->Int)(x8:Int):Pg si:=opt (lM x0) λd=>ae d (ae (bb x0 6) (ae (wd (0+ws x0*6+6) 36) (opt (gK x1 ((x2,x3,x4,x5,x6,x7).1 (ws x0)) ((x3,x4,x5,x6,x7).1 (ws x0)) ((x4,x5,x6,x7).1 (ws x0)) ((x5,x6,x7).1 (ws x0)) (x6 (ws x0)) (x7 (ws x0))) λd=>ret d) no) no) (ret false)
def fZ:=λx0 x1 x2 x3 x4 x5 x6 x7 x8=>(sj pO du x0 x1 x2 x3 x4 x5 x6 x7 x8).val
theorem acT:∀lM gK,D0 [Vb lM,ub gK] 110 IC (lf xI) λb=>sj lM gK b.1.1 b.1.2 b.2.1.1 b.2.1.2.1 b.2.1.b.1 b.2.1.b.2.1 b.2.1.c.1 b.2.1.c.2 b.b:=λ_ _ b=>by kernel_rfl
theorem acU [ax]:SC (ID fZ):=s0 (.c ahq (.c A7 (.nil _))) (acT pO du)
def IE:=qa (pr (cu ay7 jc) aDe)
def xJ:=qe aw1
abbrev IF:=xJ.B
abbrev IG:=Int->NI->NI->(Nat->Bool)->NI->NI->NI->Int->Option IF
def IH (g:IG):Ct:=(43,FC IE (lf xJ) (λb=>g b.1 b.2.1.1 b.2.1.2.1 b.2.1.b.1 b.2.1.b.2.1 b.2.1.c.1 b.2.1.c.2 b.b))
def eR:=qs (st (pr (cu ay7 (c ai (us 3 (c ai (us 2 aI9))))) (pl (cl pk nil) nil)))
def FN:=qs (st (pr (cu ay7 (c ai (us 3 (c ai (us 2 aJh))))) (pl (cl pk nil) nil)))
abbrev mz:=FN.B
def FO {ρ:Type}:=@ef mz ((.ex 0)) FN ρ
def wS (gK:mc)(d:eR.B):PL eR mz:=let n3:=d.1.1;let n2:=d.2.1.2.2;let n1:=d.1.2;let y0:=ws n1.2;let y1:=y0*6;let y2:=wI (n1.2+1);let y3:=decide (n1.2<6);ae y3 (ae (bb n1.2 6) (ae (wd (2+y1+1) 36) (ae (n2.1 y0) (ae (wd (0+y1+6) 36) (opt (gK n3 (d.2.1.1 y0) (d.2.1.2.1 y0) (n2.1 y0) (n2.2.1 y0) (n2.2.2.1 y0) (n2.2.2.2 y0)) λaj=>ae (!aj) (ae (!decide (n1.2<0)) (ret (wr ((n3,wI (n1.1+wI (1*2^min y0 64)),y2),d.2))) no) (ret (wr ((n3,n1.1,y2),d.2)))) no) (ret (wr ((n3,n1.1,y2),d.2)))) no) no) (ret (wn ((n3,n1.1,n1.2,y3),d.2)))
def wT:=bD (wS du) 2000
def zX (eH:LT eR mz)(x0:Int)(x1:Nat->Int)(x2:Nat->Int)(x3:Nat->Bool)(x4:Nat->Int)(x5:Nat->Int)(x6:Nat->Int)(x7:Int):Pg IF:=opt (eH ((x0,0,0),(x1,x2,x3,x4,x5,x6),x7)) λd=>ret d.1.2.1
def oc:=λx0 x1 x2 x3 x4 x5 x6 x7=>(zX wT x0 x1 x2 x3 x4 x5 x6 x7).val
abbrev sk:=mc×(LT eR mz)
def zY (p:sk):KK:=⟨[ub p.1],⟨[⟨3,(2::3::4::6::7::rg 9 13 (rg 26 7 (rg 22 4 []))),[]⟩],[fW 3 1 eR FO p.2],[],[],(some ⟨0,(rg 0 4 (rg 5 28 [])),[]⟩)⟩,1,43⟩
theorem Vd (p:sk):LI (zY p) 3 eR FO (wS p.1):=λ_ d c K=>by kernel_rfl
theorem acV (p:sk):D2 (zY p) IE (lf xJ) λb=>zX p.2 b.1 b.2.1.1 b.2.1.2.1 b.2.1.b.1 b.2.1.b.2.1 b.2.1.c.1 b.2.1.c.2 b.b:=λb=>by kernel_rfl
abbrev zZ:sk:=(du,wT)
theorem acW [ax]:SC (IH oc):=sc (kS (k:=zY zZ) (.c A7 (.nil _)) [3] [] ⟨kL (Vd zZ),trivial⟩ trivial (acV zZ))
def NW:=qa (pu (cu ay7 nil) aDe)
def CA:=qe aJj
abbrev NX:=CA.B
abbrev NY:=NI->NI->(Nat->Bool)->NI->NI->NI->Int->Option NX
def NZ (g:NY):Ct:=(44,FC NW (lf CA) (λb=>g b.1.1 b.1.2.1 b.1.b.1 b.1.b.2.1 b.1.c.1 b.1.c.2 b.2))
def Ej (x0:Nat->Int)(x1:Nat->Int)(x2:Nat->Bool)(x3:Nat->Int)(x4:Nat->Int)(x5:Nat->Int)(x6:Int):Pg NX:=ret (decide (x6>=10))
def qJ:=λx0 x1 x2 x3 x4 x5 x6=>(Ej x0 x1 x2 x3 x4 x5 x6).val
theorem ajZ:D0 [] 44 NW (lf CA) λb=>Ej b.1.1 b.1.2.1 b.1.b.1 b.1.b.2.1 b.1.c.1 b.1.c.2 b.2:=λb=>by kernel_rfl
theorem aj0 [ax]:SC (NZ qJ):=s0 (.nil _) ajZ
def FP:=qa (pr (cu ay7 (c (aa aJg) (cl (aa aJg) nil))) aDe)
def uS:=qe (res (pu QP (pl (cl aDd nil) nil)))
abbrev FQ:=uS.B
abbrev FR:=Bool->Int->Int->Bool->Int->Int->NI->NI->(Nat->Bool)->NI->NI->NI->Int->Option FQ
def FT (g:FR):Ct:=(230,FC FP (lf uS) (λb=>g b.1.1.1 b.1.1.2.1 b.1.1.b b.1.2.1 b.1.b.1 b.1.b.2 b.2.1.1 b.2.1.2.1 b.2.1.b.1 b.2.1.b.2.1 b.2.1.c.1 b.2.1.c.2 b.b))
def wV (x0:Bool)(x1:Int)(x2:Int)(x3:Bool)(x4:Int)(x5:Int)(x6:Nat->Int)(x7:Nat->Int)(x8:Nat->Bool)(x9:Nat->Int)(gA:Nat->Int)(fX:Nat->Int)(BL:Int):Pg FQ:=let y0:=wI (BL+1);let y1:=wI (BL-1);ae (decide (x1>0)) (ae (decide (x4>0)) (ae (!x0) (ae (!x3) (ret ((x6,x7,x8,x9,gA,fX),if 1000<y0 then 1000 else y0)) (ret ((x6,x7,x8,x9,gA,fX),if 0>y1 then 0 else y1))) (ret ((x6,x7,x8,x9,gA,fX),if 0>y1 then 0 else y1))) (ae (decide (x1<0)) (ae (!x0) (ae (!x3) (ae (decide (x4<0)) (ret ((x6,x7,x8,x9,gA,fX),if 1000<y0 then 1000 else y0)) (ret ((x6,x7,x8,x9,gA,fX),if 0>y1 then 0 else y1))) (ret ((x6,x7,x8,x9,gA,fX),if 0>y1 then 0 else y1))) (ret ((x6,x7,x8,x9,gA,fX),if 0>y1 then 0 else y1))) (ae (!x0) (ae (!x3) (ret ((x6,x7,x8,x9,gA,fX),if 0>y1 then 0 else y1)) (ret ((x6,x7,x8,x9,gA,fX),if 0>y1 then 0 else y1))) (ret ((x6,x7,x8,x9,gA,fX),if 0>y1 then 0 else y1))))) (ae (decide (x1<0)) (ae (!x0) (ae (!x3) (ae (decide (x4<0)) (ret ((x6,x7,x8,x9,gA,fX),if 1000<y0 then 1000 else y0)) (ret ((x6,x7,x8,x9,gA,fX),if 0>y1 then 0 else y1))) (ret ((x6,x7,x8,x9,gA,fX),if 0>y1 then 0 else y1))) (ret ((x6,x7,x8,x9,gA,fX),if 0>y1 then 0 else y1))) (ae (!x0) (ae (!x3) (ret ((x6,x7,x8,x9,gA,fX),if 0>y1 then 0 else y1)) (ret ((x6,x7,x8,x9,gA,fX),if 0>y1 then 0 else y1))) (ret ((x6,x7,x8,x9,gA,fX),if 0>y1 then 0 else y1))))
def gE:=λx0 x1 x2 x3 x4 x5 x6 x7 x8 x9 gA fX BL=>(wV x0 x1 x2 x3 x4 x5 x6 x7 x8 x9 gA fX BL).val
theorem X':D0 [] 230 FP (lf uS) λb=>wV b.1.1.1 b.1.1.2.1 b.1.1.b b.1.2.1 b.1.b.1 b.1.b.2 b.2.1.1 b.2.1.2.1 b.2.1.b.1 b.2.1.b.2.1 b.2.1.c.1 b.2.1.c.2 b.b:=λb=>by kernel_rfl
theorem Ya [ax]:SC (FT gE):=s0 (.nil _) X'
end Go.Proofs.YtldgljclcgaibaaGreat
