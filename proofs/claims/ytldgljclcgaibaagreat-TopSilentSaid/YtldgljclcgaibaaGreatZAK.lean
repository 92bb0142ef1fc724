/-
  Parts of the proof: N1 N2 TLa TLb TN TO TP TQ TR8 TS8 TPut TNh TNd TT TV TW TX TY TZ TNw TSp TDn TIm TSm TRn TRu TWt TWq
-/
import Derived.Test.YtldgljclcgaibaaGreatZAE
import Derived.Test.YtldgljclcgaibaaGreatZAI
import Derived.Test.YtldgljclcgaibaaGreatZAJ
import Derived.Test.YtldgljclcgaibaaGreatZAL
open Nat renaming beq→ww,ble→wd
open Int renaming toNat→ws,ofNat→wl,tdiv→t7
open Sum renaming inl→wr,inr→wn,elim→t8
set_option linter.all false
set_option maxRecDepth 100000
set_option maxHeartbeats 4000000
noncomputable section
namespace Go.Proofs.YtldgljclcgaibaaGreat
open Go.Ab Go.Ab.Pg Go.Ab.Rq
def awy:=qa (pl zE nil)
def adl:=qe (res (pl (aa (c gi (c gi (cu aM (cu aM (cu aM (cu aM (cu aM nN)))))))) (pu nil nil)))
abbrev awz:=adl.B
abbrev ahN:=Int->Int->Option awz
def ahO (g:ahN):Ct:=(39,FC awy (lf adl) (λb=>g b.1 b.2))
def awA (Ny:aol)(aaS:aBn)(x0:Int)(x1:Int):Pg awz:=opt (Ny x1 false) λd=>opt (aaS 10529810258 d.1 d.2) λd=>ret (x0,x1,wI (0-d.1))
def Nz:=λx0 x1=>(awA YY aoo x0 x1).val
theorem aK5:∀Ny aaS,D0 [aom Ny,aBo aaS] 39 awy (lf adl) λb=>awA Ny aaS b.1 b.2:=λ_ _ b=>by kernel_rfl
theorem awB [ax]:SC (ahO Nz):=s0 (.c aFU (.c aOp (.nil _))) (aK5 YY aoo)
def Lf:=qa (pl (cl (aa xD) nil) nil)
def ajT:=qe (res (pu (ac aC8) (pu nil nil)))
def aCv:=qe (res (pu tU (pu nil (cu (cu (gp 1 434) aWl) (c (c gi (c gi (c gi (c gi (c gi (c gi (c gi (c gi (c gi (c gi (c gi (c gi (c gi (c gi (c gi (c gi (c iR (c iR (c gi (c gi (c gi (c gi (c gi (c gi (c gi (c gi (c gb (c iR (c aI7 (cl iR (cu (gp 2 5) (cu (gp 3 10) (cu (gc (jr (pu rq6 (pu wA (pu Ll (pu G7 jP)))))) (cu aR6 (cu aMv (cu aMw (cu aMx (cu aMy (cu (gp 10 8) (cu (gp 11 37) (cu aM (cu aM (cu JB (cu JB (cu (gp 12 3) (cu JB (cu aM (cu aM (cu aM (cu aM (cu JB (cu JB (cu JB (cu aM (cu aM (cu aM (cu ar6 (cu aM (cu aM (cu aM (cu aM (cu aM (cu aM (cu aM (cu aM (cu aM (cu (gc (jr (pu aMl (pu wA (pu Ll (pu (nat 10) jP)))))) nil))))))))))))))))))))))))))))))))))))))))))))))))))))))))))))))))))) (c lB (c aQw (c aWp (c aWT (c aWU (c aWV (c aWW (c aWX (c (cu aM (cu aM (cu aM (cu aM (cu aM (cl gi (cu (gc (jr (pu aHH (pu wA (pu Ll (pu iv jP)))))) akt))))))) (c aJB (c (c gi (cl gi (cu (gc (jr (pu aHG (pu wA (pu Ll (pu Bn jP)))))) nil))) aW3))))))))))))))))
abbrev Sf:=ajT.B⊕a0w
def aBq:Sf->T:=ls (lf ajT) (λd=>lf aCv (d.1,d.2.1,d.b.1,(d.b.2.1,d.b.2.1,d.b.2.1,d.b.2.1,d.b.2.1,d.b.2.1,d.b.2.1,d.b.2.1),d.c.1,d.c.2.1,d.c.b.1,d.c.b.2.1,d.d.1,d.d.2.1,d.d.b.1,d.d.b.2.1,(d.b.2.1,d.b.2.1,d.b.2.1,d.b.2.1,d.b.2.1,d.b.2.1,d.b.2.1,d.b.2.1,d.b.2.1,d.b.2.1),(d.d.c.1,d.d.c.1,d.d.c.1,d.d.c.1,d.d.c.1,d.d.c.1,d.d.c.1,d.d.c.1,d.d.c.1),(d.d.c.2.1,d.d.c.2.1,d.d.c.2.1,d.d.c.2.1,d.d.c.2.1,d.d.c.2.1,d.d.c.2.1,d.d.c.2.1,d.d.c.2.1),(d.d.c.b.1,d.d.c.b.1,d.d.c.b.1,d.d.c.b.1,d.d.c.b.1,d.d.c.b.1,d.d.c.b.1,d.d.c.b.1,d.d.c.b.1),(d.d.c.b.2.1,d.d.c.b.2.1,d.d.c.b.2.1,d.d.c.b.2.1,d.d.c.b.2.1,d.d.c.b.2.1,d.d.c.b.2.1,d.d.c.b.2.1,d.d.c.b.2.1),(d.e.1,d.e.1,d.e.1,d.e.1,d.e.1,d.e.1,d.e.1,d.e.1,d.e.1),(d.e.2.1,d.e.2.1,d.e.2.1,d.e.2.1,d.e.2.1,d.e.2.1,d.e.2.1,d.e.2.1,d.e.2.1),d.e.b,d.e.b,d.e.b,d.e.b,d.e.b,d.e.b,d.e.b,d.e.b,d.e.b,d.e.b,d.e.b))
abbrev aoq:=Lf.B->Option Sf
def aBr (g:aoq):Ct:=(12,FC Lf aBq g)
def aaT (ahP:aFG)(x:Lf.B):Pg Sf:=opt (ahP x) λd=>ae (match d with|wr val=>true|wn val=>false) (opt (match d with|wr a=>some a|wn val=>none) λd=>ret (wr ())) (opt (match d with|wn b=>some b|wr val=>none) λd=>ret (wn d))
def Gj:=λx=>(aaT Al x).val
theorem aOq:∀ahP,D0 [atD ahP] 12 Lf aBq λb=>aaT ahP b:=λ_ b=>by kernel_rfl
theorem aOr [ax]:SC (aBr Gj):=s0 (.c aFJ (.nil _)) (aOq Al)
def fN:=qa (pu (cu tU nil) (c aw2 (cd asi λb1=>(c np (c oD (c (cl (gs b1.c.1 pj) nil) (cd qP λb5=>(cd qQ λb6=>(cd qR λb7=>(cd qS λb8=>(cd qT λb9=>(cd aDf λb10=>(c nP (cd aC5 λb12=>(c (cl (gs b1.e mY) nil) (c (cl (gs b5.b.1 aA) nil) (c (cl (gs b6.b.1 aA) nil) (c (cl (gs b7.b.1 aA) nil) (c (cl (gs b8.b.1 aA) nil) (c (cl (gs b9.b.1 aA) nil) (c (cl (gs b10.b.1 aA) nil) (cl (cl (gs b12.b jY) nil) nil))))))))))))))))))))))
def apq:=qe (res (pu QP (pr (c (zD aw2) (cl (zD aQz) aDj)) aW7)))
abbrev kI:=((apK×E4×Bool×NI×(NI×NI)×(Nat×Nat)×qE×Bool×Int×lG×Bool×Bool×Bool×Int×Int×Int×D9×Nat)×(lG×Int×Int)×Lk×QO×bN×bN×bN×bN×bN×bN×Lg×tQ×E1×dk×dk×dk×dk×dk×dk×Nat×NI×NI×NI×NI×NI×NI×NI×NI×NI×NI×NI)
def Y1:kI->T:=λd=>lf apq (d.1,d.2.1,d.b.1,d.b.2.1,d.c.1,d.c.2.1,d.c.b.1,d.c.b.2.1,d.d.1,d.d.2.1,d.d.b.1,d.d.b.2.1,d.d.c.1,(d.c.1.b.1,d.d.c.2.1),(d.c.2.1.b.1,d.d.c.b.1),(d.c.b.1.b.1,d.d.c.b.2.1),(d.c.b.2.1.b.1,d.e.1),(d.d.1.b.1,d.e.2.1),(d.d.2.1.b.1,d.e.b.1),d.e.b.2)
abbrev xj:=fN.B->Option kI
def Ku (g:xj):Ct:=(15,FC fN Y1 g)
def jo:=qs (st (pr (cu tU (us 1 (cl ai (us 34 nil)))) (pl (c (so aw2) (c (so aQz) (cu nO (cu nO (cu nO (cu nO (cu nO (cu nO (cu nO (cu nO (cu nO (cu nO (cu nO (cu nO (cu nO (cu nO (cu nO (cu nO (cu nO (cu nO (cu nO (c qk (c qo (c sI (cd (so aDl) λb24=>(cd aDm λb25=>(cd aa4 λb26=>(cd aa5 λb27=>(cd aa6 λb28=>(cd afp λb29=>(c pk (c (so aQo) (c uO (c (so (cl (gs b24.b.1 aA) nil)) (c (so (cl (gs b25.b.1 aA) nil)) (c (so (cl (gs b26.b.1 aA) nil)) (c (so (cl (gs b27.b.1 aA) nil)) (c (so (cl (gs b28.b.1 aA) nil)) (c (so (cl (gs b29.b.1 aA) nil)) Ht))))))))))))))))))))))))))))))))))))))) afq)))
def aor:=qs (st (pr (cu tU (us 1 (c ai (us 25 aWM)))) (pl (c (so aw2) (c (so aQz) (cu nO (cu nO (cu nO (cu nO (cu nO (cu nO (cu nO (cu nO (cu nO (cu nO (cu nO (cu nO (cu nO (cu nO (cu nO (cu nO (cu nO (cu nO (cu nO (c qk (c qo (c sI (c (so aDl) (c aDm (c aa4 (c aa5 (c aa6 (c afp (c pk (c (so aQo) JK)))))))))))))))))))))))))))))))) afq)))
abbrev tN:=(lG×(Int×Bool)×(E4×Bool×NI×(NI×NI)×(Nat×Nat)×qE×Bool×Int×lG×Bool×Bool×Bool×Int×Int×Int×D9×Nat)×(lG×Int×Int)×Lk×QO×bN×bN×bN×bN×bN×bN×Lg×tQ×E1×dk×dk×dk×dk×dk×dk×Nat×NI×NI×NI×NI×NI×NI×NI×NI×NI×NI×NI)
def Sh {ρ:Type}(x:tN)(K:AX->St->Option ρ):Option ρ:=(λd=>K .nrm (aor.em ((d.1.1,d.1.2.1,d.1.1,d.1.b),(d.2.1.1,d.1.b,d.2.1.2),d.b.1,d.b.2.1,d.c.1,d.c.2.1,d.c.b.1,d.c.b.2.1,d.d.1,d.d.2.1,d.d.b.1,d.d.b.2.1,d.d.c.1,d.d.c.2.1,d.d.c.b.1,(d.c.b.1.b.1,d.d.c.b.2.1),(d.c.b.2.1.b.1,d.e.1),(d.d.1.b.1,d.e.2.1),(d.d.2.1.b.1,d.e.b.1),(d.d.b.1.b.1,d.e.b.2.1),(d.d.b.2.1.b.1,d.e.c.1),d.e.c.2))) x
def Si (d:jo.B):Pg tN:=ret ((d.1,d.2.1.2.1,wI (d.2.1.2.1+d.1)),(d.2.1.1,d.2.1.2.2),d.2.2)
def iN (d:jo.B):Option tN:=(Si d).val
def Sj:Hd:=⟨3,(1::rg 3 34 []),[(0,[])]⟩
def rM (aK6:ahN)(NA:zy)(eH:LT jo tN)(x:fN.B):Pg kI:=let n7:=x.2.2.2.2.2;let n3:=x.2.1.2.2.2.2;let n6:=n3.2.2.2.2.2.2.2.2.2.2.2.2;let n1:=n7.2;let n4:=n1.2.2.2;let y0:=wI (x.1.1+8000);opt (aK6 y0 8000) λd=>ae (ww n3.1 n3.1) (ae (ww n6 n6) (ae (ww n7.1.2.2.1 n7.1.2.2.1) (ae (ww n1.1.2.2.1 n1.1.2.2.1) (ae (ww n1.2.1.2.2.1 n1.2.1.2.2.1) (ae (ww n1.2.2.1.2.2.1 n1.2.2.1.2.2.1) (ae (ww n4.1.2.2.1 n4.1.2.2.1) (ae (ww n4.2.1.2.2.1 n4.2.1.2.2.1) (ae (ww n4.2.2.2.1.2.2 n4.2.2.2.1.2.2) (opt (NA ((d.1,d.2.1,(0,0,0),0,0,d.2.2),x.2)) λd=>let n2:=d.2.2.2.2.2;let n5:=n2.2.2.2;let uG:=ww n2.1.2.2.1 n2.1.2.2.1;let y1:=ww n2.2.1.2.2.1 n2.2.1.2.2.1;let y2:=ww n2.2.2.1.2.2.1 n2.2.2.1.2.2.1;let y3:=ww n5.1.2.2.1 n5.1.2.2.1;let y4:=ww n5.2.1.2.2.1 n5.2.1.2.2.1;let y5:=ww n5.2.2.1.2.2.1 n5.2.2.1.2.2.1;ae (d.1.2==0) (ae uG (ae y1 (ae y2 (ae y3 (ae y4 (ae y5 (opt (eH (d.1.1,(y0,x.1.2),d.2)) λd=>ret (((d.2.1.1,d.1.2.2,d.2.1.2),d.2.2.1),d.2.2.2)) no) no) no) no) no) no) (ae uG (ae y1 (ae y2 (ae y3 (ae y4 (ae y5 (opt (eH (d.1.1,x.1,d.2)) λd=>ret (((d.2.1.1,d.1.2.2,d.2.1.2),d.2.2.1),d.2.2.2)) no) no) no) no) no) no)) no) no) no) no) no) no) no) no) no
def c9:=λx=>(rM Nz bV iN x).val
abbrev Db:=ahN×zy×(LT jo tN)
def Kv (p:Db):KK:=⟨[ahO p.1,zz p.2.1],⟨[],[],(rg 0 21 []),[⟨Sj,fW 3 21 jo Sh p.b⟩],(some ⟨0,(rg 0 37 []),[(3,[]),(4,[]),(5,[]),(6,[]),(7,[]),(8,[]),(9,[]),(10,[]),(11,[]),(12,[]),(13,[]),(14,[]),(15,[]),(16,[]),(17,[]),(18,[]),(19,[]),(20,[]),(21,[]),(22,[]),(0,[])]⟩)⟩,21,15⟩
theorem akf (p:Db):JI (Kv p) 3 jo Sh (Si):=λ_ d K=>by kernel_rfl
theorem atO (p:Db):D2 (Kv p) fN Y1 λb=>rM p.1 p.2.1 p.b b:=λb=>by kernel_rfl
abbrev Kw:Db:=(Nz,bV,iN)
theorem Y2 [ax]:SC (Ku c9):=sc (kS (k:=Kv Kw) (.c awB (.c Ns (.nil _))) [] [3] trivial ⟨kJ Sj (akf Kw),trivial⟩ (atO Kw))
def lY:=qa (pr (cu tU (cl (aa (c gi (c gi (c gi (a 8 aDc aJw))))) nil)) (c aw2 (cd asi λb1=>(c np (c oD (c (cl (gs b1.c.1 pj) nil) (cd qP λb5=>(cd qQ λb6=>(cd qR λb7=>(cd qS λb8=>(cd qT λb9=>(cd aDf λb10=>(c nP (cd aC5 λb12=>(c (cl (gs b1.e mY) nil) (c (cl (gs b5.b.1 aA) nil) (c (cl (gs b6.b.1 aA) nil) (c (cl (gs b7.b.1 aA) nil) (c (cl (gs b8.b.1 aA) nil) (c (cl (gs b9.b.1 aA) nil) (c (cl (gs b10.b.1 aA) nil) (cl (cl (gs b12.b jY) nil) nil))))))))))))))))))))))
def akg:=qe (res (pu QP (pr (c (zD aw2) (cl (zD (a 26 xD (c gb (c iR (a 2 zH (cu (gp 21 5) (cu (gp 22 10) (c (gc (jr (pu (nat 23) (pu (ox (pu eS (pu eS G7))) (pl mg (pu G7 jP)))))) aW0)))))))) aDj)) aW7)))
def akh:=qe (res (pu QP (pr (cl (zD aPS) (cu UL aDj)) (c aQA (c np (c oD (c aJz (c aJF (c aJG (c aJH (c aJI (c aQt (c aWJ (c nP (c aQp aJL)))))))))))))))
abbrev ug:=((apK×E4×Bool×NI×(NI×NI)×Nat×qE×Bool×Int×lG×Bool×Bool×Bool×Int×Int×Int×D9×Nat)×(lG×Int×Int)×Lk×aU0×bN×bN×bN×bN×bN×bN×Lg×tQ×aMj×At×At×At×At×At×At×NI×NI×NI×NI×NI×NI×NI×NI×NI×NI×NI)⊕(apK×(E4×Bool×NI×(NI×NI)×(Nat×Nat)×qE×Bool×Int×lG×Bool×Bool×Bool×Int×Int×Int×D9×Nat)×(lG×Int×Int)×Lk×QO×bN×bN×bN×bN×bN×bN×Lg×tQ×E1×dk×dk×dk×dk×dk×dk×Nat×NI×NI×NI×NI×NI×NI×NI×NI×NI×NI×NI)
def aaU:ug->T:=ls (λd=>lf akg (d.1,d.2.1,d.b.1,(d.1.c.2.1,d.b.2.1),d.c.1,d.c.2.1,d.c.b.1,d.c.b.2.1,d.d.1,d.d.2.1,d.d.b.1,d.d.b.2.1,(d.1.e.2,d.d.c.1),d.d.c.2.1,d.d.c.b.1,d.d.c.b.2.1,d.e.1,d.e.2.1,d.e.b.1,d.d.b.2.1.b,d.e.b.2)) (λd=>lf akh (d.1,d.2.1,d.b.1,d.b.2.1,d.c.1,d.c.2.1,d.c.b.1,d.c.b.2.1,d.d.1,d.d.2.1,d.d.b.1,d.d.b.2.1,d.d.c.1,d.d.c.2.1,(d.c.2.1.b.1,d.d.c.b.1),(d.c.b.1.b.1,d.d.c.b.2.1),(d.c.b.2.1.b.1,d.e.1),(d.d.1.b.1,d.e.2.1),(d.d.2.1.b.1,d.e.b.1),(d.d.b.1.b.1,d.e.b.2.1),d.e.c))
abbrev NB:=lY.B->Option ug
def aaV (g:NB):Ct:=(14,FC lY aaU g)
def eE:=qs (st (pr (cu tU (us 2 (cu aMA (xs 1 (us 1 (c ai (us 1 (cl ai (us 71 nil))))))))) (pl (c aC6 (cu nO (cu nO (cu nO (cu nO (cu nO (cu nO (cu nO (cu nO (cu nO (cu nO (cu nO (cu nO (cu nO (cu nO (cu nO (cu nO (cu nO (cu nO (cu nO (cu nO (c aDk (c aDq (c qk (c qo (c sI (cd aa4 λb26=>(cd aa5 λb27=>(cd aa6 λb28=>(cd afp λb29=>(cd ash λb30=>(cd aDn λb31=>(c pk (c aDi (c uO (c (so (cl (gs b26.b.1 aA) nil)) (c (so (cl (gs b27.b.1 aA) nil)) (c (so (cl (gs b28.b.1 aA) nil)) (c (so (cl (gs b29.b.1 aA) nil)) (c (so (cl (gs b30.b.1 aA) nil)) (c (so (cl (gs b31.b.1 aA) nil)) Ht))))))))))))))))))))))))))))))))))))))))) afq)))
def ahQ:=qs (st (pr (cu tU (us 2 (cu aMA (xs 1 (us 1 (c ai (us 1 (c ai (c ai (cu aJr (c ai (c ab (cu Ho (c ai (c ab (c ab (cu Ho (cu tU (cu tU (cu aJp (c ai (c ab (c ab (cu Ho (cu tU (cu tU (cu aJq (c ai (c ab (cl ab aU3)))))))))))))))))))))))))))))) (pl (c aC6 (cu nO (cu nO (cu nO (cu nO (cu nO (cu nO (cu nO (cu nO (cu nO (cu nO (cu nO (cu nO (cu nO (cu nO (cu nO (cu nO (cu nO (cu nO (cu nO (cu nO (c aDk (c aDq (c qk (c qo (c sI (c aa4 (c aa5 (c aa6 (c afp (c ash (c aDn (c pk (c aDi JK)))))))))))))))))))))))))))))))))) afq)))
def ahR:=qs (st (pr (cu tU (us 2 (cu aMA (xs 1 (us 1 (c ai (us 1 (c ai (c ai (cu aJr (c ai (c ab (cu Ho (c ai (c ab (c ab (cu Ho (cu tU (cu tU (cu aJp (c ai (c ab (cl ab aWf))))))))))))))))))))))) (pl (c aC6 (cu nO (cu nO (cu nO (cu nO (cu nO (cu nO (cu nO (cu nO (cu nO (cu nO (cu nO (cu nO (cu nO (cu nO (cu nO (cu nO (cu nO (cu nO (cu nO (cu nO (c aDk (c aDq (c qk (c qo (c sI (c aa4 (c aa5 (c aa6 (c afp (c ash (c aDn (c pk (c aDi JK)))))))))))))))))))))))))))))))))) afq)))
def ahS:=qs (st (pr (cu tU (us 2 (cu aMA (xs 1 (us 1 (c ai (us 1 (c ai (c ai (cu aJr (c ai (c ab (cu Ho (c ai (c ab (cl ab aWB)))))))))))))))) (pl (c aC6 (cu nO (cu nO (cu nO (cu nO (cu nO (cu nO (cu nO (cu nO (cu nO (cu nO (cu nO (cu nO (cu nO (cu nO (cu nO (cu nO (cu nO (cu nO (cu nO (cu nO (c aDk (c aDq (c qk (c qo (c sI (c aa4 (c aa5 (c aa6 (c afp (c ash (c aDn (c pk (c aDi JK)))))))))))))))))))))))))))))))))) afq)))
def ahT:=qs (st (pr (cu tU (us 2 (cu aMA (xs 1 (us 1 (c ai (us 1 (c ai (c ai (cu aJr (c ai (cl ab (cu mW (xs 2 (cu mW aWB))))))))))))))) (pl (c aC6 (cu nO (cu nO (cu nO (cu nO (cu nO (cu nO (cu nO (cu nO (cu nO (cu nO (cu nO (cu nO (cu nO (cu nO (cu nO (cu nO (cu nO (cu nO (cu nO (cu nO (c aDk (c aDq (c qk (c qo (c sI (c aa4 (c aa5 (c aa6 (c afp (c ash (c aDn (c pk (c aDi JK)))))))))))))))))))))))))))))))))) afq)))
abbrev nw:=((Int×Int×Int×Bool×Bool×Int×Bool×Int×Bool)×Bool×aRY×(E4×Bool×NI×(NI×NI)×(Nat×Nat)×qE×Bool×Int×lG×Bool×Bool×Bool×Int×Int×Int×D9×Nat)×(lG×Int×Int)×Lk×QO×bN×bN×bN×bN×bN×bN×Lg×tQ×E1×dk×dk×dk×dk×dk×dk×Nat×NI×NI×NI×NI×NI×NI×NI×NI×NI×NI×NI)⊕(((Int×Int×Int×Bool×Bool×Int×Bool)×(Int×Bool)×aRY×(E4×Bool×NI×(NI×NI)×(Nat×Nat)×qE×Bool×Int×lG×Bool×Bool×Bool×Int×Int×Int×D9×Nat)×(lG×Int×Int)×Lk×QO×bN×bN×bN×bN×bN×bN×Lg×tQ×E1×dk×dk×dk×dk×dk×dk×Nat×NI×NI×NI×NI×NI×NI×NI×NI×NI×NI×NI)⊕(((Int×Int×Int×Bool×Bool)×apK×aRY×(E4×Bool×NI×(NI×NI)×(Nat×Nat)×qE×Bool×Int×lG×Bool×Bool×Bool×Int×Int×Int×D9×Nat)×(lG×Int×Int)×Lk×QO×bN×bN×bN×bN×bN×bN×Lg×tQ×E1×dk×dk×dk×dk×dk×dk×Nat×NI×NI×NI×NI×NI×NI×NI×NI×NI×NI×NI)⊕(aR2×apK×aRY×(E4×Bool×NI×(NI×NI)×(Nat×Nat)×qE×Bool×Int×lG×Bool×Bool×Bool×Int×Int×Int×D9×Nat)×(lG×Int×Int)×Lk×QO×bN×bN×bN×bN×bN×bN×Lg×tQ×E1×dk×dk×dk×dk×dk×dk×Nat×NI×NI×NI×NI×NI×NI×NI×NI×NI×NI×NI)))
def UH {ρ:Type}(x:nw)(K:AX->St->Option ρ):Option ρ:=(t8 (λd=>K (.ex 1) (ahQ.em ((d.1.1,d.1.2.1,d.1.1,d.1.b.1,d.1.b.2.1,d.1.1,d.1.c.1,d.1.c.1,d.1.c.2.1,d.1.c.b.1,d.1.c.b.1,d.1.c.b.2.1,d.1.d,d.1.d),(d.1.c.2.1,d.1.c.b.2.1,d.2.1),(d.b.1.1,d.b.1.2.1,d.1.b.1,d.b.1.b),d.b.2.1,d.c.1,d.c.2.1,d.c.b.1,d.c.b.2.1,d.d.1,d.d.2.1,d.d.b.1,d.d.b.2.1,d.d.c.1,d.d.c.2.1,d.d.c.b.1,d.d.c.b.2.1,(d.c.b.2.1.b.1,d.e.1),(d.d.1.b.1,d.e.2.1),(d.d.2.1.b.1,d.e.b.1),(d.d.b.1.b.1,d.e.b.2.1),(d.d.b.2.1.b.1,d.e.c.1),(d.d.c.1.b.1,d.e.c.2.1),d.e.c.b))) (t8 (λd=>K (.ex 1) (ahR.em ((d.1.1,d.1.2.1,d.1.1,d.1.b.1,d.1.b.2.1,d.1.1,d.1.c.1,d.1.c.1,d.1.c.2.1,d.1.c.b,d.1.c.b),(d.1.c.2.1,d.2.1),(d.b.1.1,d.b.1.2.1,d.1.b.1,d.b.1.b),d.b.2.1,d.c.1,d.c.2.1,d.c.b.1,d.c.b.2.1,d.d.1,d.d.2.1,d.d.b.1,d.d.b.2.1,d.d.c.1,d.d.c.2.1,d.d.c.b.1,d.d.c.b.2.1,(d.c.b.2.1.b.1,d.e.1),(d.d.1.b.1,d.e.2.1),(d.d.2.1.b.1,d.e.b.1),(d.d.b.1.b.1,d.e.b.2.1),(d.d.b.2.1.b.1,d.e.c.1),(d.d.c.1.b.1,d.e.c.2.1),d.e.c.b))) (t8 (λd=>K (.ex 1) (ahS.em ((d.1.1,d.1.2.1,d.1.1,d.1.b.1,d.1.b.2.1,d.1.1,d.1.c,d.1.c),d.2.1,(d.b.1.1,d.b.1.2.1,d.1.b.1,d.b.1.b),d.b.2.1,d.c.1,d.c.2.1,d.c.b.1,d.c.b.2.1,d.d.1,d.d.2.1,d.d.b.1,d.d.b.2.1,d.d.c.1,d.d.c.2.1,d.d.c.b.1,d.d.c.b.2.1,(d.c.b.2.1.b.1,d.e.1),(d.d.1.b.1,d.e.2.1),(d.d.2.1.b.1,d.e.b.1),(d.d.b.1.b.1,d.e.b.2.1),(d.d.b.2.1.b.1,d.e.c.1),(d.d.c.1.b.1,d.e.c.2.1),d.e.c.b))) (λd=>K (.ex 1) (ahT.em ((d.1.1,d.1.2.1,d.1.1,d.1.b),d.2.1,(d.b.1.1,d.b.1.2.1,d.1.b.1,d.b.1.b),d.b.2.1,d.c.1,d.c.2.1,d.c.b.1,d.c.b.2.1,d.d.1,d.d.2.1,d.d.b.1,d.d.b.2.1,d.d.c.1,d.d.c.2.1,d.d.c.b.1,d.d.c.b.2.1,(d.c.b.2.1.b.1,d.e.1),(d.d.1.b.1,d.e.2.1),(d.d.2.1.b.1,d.e.b.1),(d.d.b.1.b.1,d.e.b.2.1),(d.d.b.2.1.b.1,d.e.c.1),(d.d.c.1.b.1,d.e.c.2.1),d.e.c.b)))))) x
def AB (Kx:xj)(d:eE.B):PL eE nw:=let n15:=d.1.2;let bK:=d.2.2.1;let bx:=d.1.1;let aT:=d.2.1;let n8:=bK.2.2;let n4:=d.2.2.2;let n7:=n4.1.2.2.2.2;let bA:=n7.2.2.2.2.2.2.2.2.2.2.2.2;let n6:=n4.2.2.2.2;let n2:=n6.2.2.2;let n16:=n2.2.2;let n5:=n16.2.2;let bj:=n5.2.2.2.2;let n3:=bj.2.2.2.2.2;let n9:=n3.2.2.2.2.2;let n1:=(bK.1,bK.2.1,n8.2);let y0:=decide (bx<40);let y1:=decide (aT.1<562949953421312);let y2:=decide (aT.2.1<60);let y3:=decide (bx<n8.1);ae y3 (ae y0 (ae y1 (ae y2 (ae (ww n7.1.2 n7.1.2) (ae (ww bA bA) (ae (ww n6.1.2.2.1 n6.1.2.2.1) (ae (ww n6.2.1.2.2.1 n6.2.1.2.2.1) (ae (ww n6.2.2.1.2.2.1 n6.2.2.1.2.2.1) (ae (ww n2.1.2.2.1 n2.1.2.2.1) (ae (ww n2.2.1.2.2.1 n2.2.1.2.2.1) (ae (ww n16.1.2.2.1 n16.1.2.2.1) (ae (ww n5.1.2.2 n5.1.2.2) (opt (Kx (aT,(n4.1.1,n4.1.2.1,n4.1.2.2.1,n4.1.2.2.2.1,n7.1.2,n7.2),n4.2.1,n4.2.2.1,(sh8 n7.1.1 n4.2.2.2.1.2),n6.1,n6.2.1,n6.2.2.1,n2.1,n2.2.1,n16.1,n16.2.1,n5.1,(at2 0 n5.2.1.2),(vQ 0 n5.2.2.1),(vQ 0 n5.2.2.2.1),(vQ 0 bj.1),(vQ 0 bj.2.1),(vQ 0 bj.2.2.1),(vQ 0 bj.2.2.2.1),λj=>n3.1 (0+j),λj=>n3.2.1 (0+j),λj=>n3.2.2.1 (0+j),λj=>n3.2.2.2.1 (0+j),λj=>n3.2.2.2.2.1 (0+j),λj=>n9.1 (0+j),λj=>n9.2.1 (0+j),λj=>n9.2.2.1 (0+j),λj=>n9.2.2.2.1 (0+j),λj=>n9.2.2.2.2.1 (0+j),λj=>n9.2.2.2.2.2 (0+j))) λaj=>ret (wr ((wI (bx+1),n15),aj.1.1,bK,aj.1.2,aj.2))) no) no) no) no) no) no) no) no) no) (ret (wn (wr ((bx,n15,n8.1,y3,y0,aT.1,y1,aT.2.1,y2),aT.2.2,n1,n4))))) (ret (wn (wn (wr ((bx,n15,n8.1,y3,y0,aT.1,y1),aT.2,n1,n4)))))) (ret (wn (wn (wn (wr ((bx,n15,n8.1,y3,y0),aT,n1,n4))))))) (ret (wn (wn (wn (wn ((bx,n15,n8.1,y3),aT,n1,n4))))))
def nx:=bD (AB c9) 2000
def kq:=qs (st (pr (cu tU (us 3 aVc)) (pl (c (so aPS) (cu nO (cu nO (cu nO (cu nO (cu nO (cu nO (cu nO (cu nO (cu nO (cu nO (cu nO (cu nO (cu nO (cu nO (cu nO (cu nO (cu nO (cu nO (cu nO (cu nO (c (so aQA) (c qk (c qo (c sI (cd aDm λb25=>(cd aa4 λb26=>(cd aa5 λb27=>(cd aa6 λb28=>(cd afp λb29=>(cd ash λb30=>(c pk (c (so aQp) (c uO (c (so (cl (gs b25.b.1 aA) nil)) (c (so (cl (gs b26.b.1 aA) nil)) (c (so (cl (gs b27.b.1 aA) nil)) (c (so (cl (gs b28.b.1 aA) nil)) (c (so (cl (gs b29.b.1 aA) nil)) (c (so (cl (gs b30.b.1 aA) nil)) Ht)))))))))))))))))))))))))))))))))))))))) afq)))
def apr:=qs (st (pr (cu tU (us 3 (c ai (us 66 aWM)))) (pl (c (so aPS) (cu nO (cu nO (cu nO (cu nO (cu nO (cu nO (cu nO (cu nO (cu nO (cu nO (cu nO (cu nO (cu nO (cu nO (cu nO (cu nO (cu nO (cu nO (cu nO (cu nO (c (so aQA) (c qk (c qo (c sI (c aDm (c aa4 (c aa5 (c aa6 (c afp (c ash (c pk (c (so aQp) JK))))))))))))))))))))))))))))))))) afq)))
abbrev uN:=(lG×(Int×Bool)×(E4×Bool×NI×(NI×NI)×(Nat×Nat)×qE×Bool×Int×lG×Bool×Bool×Bool×Int×Int×Int×D9×Nat)×(lG×Int×Int)×Lk×QO×bN×bN×bN×bN×bN×bN×Lg×tQ×E1×dk×dk×dk×dk×dk×dk×Nat×NI×NI×NI×NI×NI×NI×NI×NI×NI×NI×NI)
def UI {ρ:Type}(x:uN)(K:AX->St->Option ρ):Option ρ:=(λd=>K .nrm (apr.em ((d.1.1,d.1.2.1,d.1.1,d.1.b),(d.2.1.1,d.1.b,d.2.1.2),d.b.1,d.b.2.1,d.c.1,d.c.2.1,d.c.b.1,d.c.b.2.1,d.d.1,d.d.2.1,d.d.b.1,d.d.b.2.1,d.d.c.1,d.d.c.2.1,d.d.c.b.1,(d.c.b.1.b.1,d.d.c.b.2.1),(d.c.b.2.1.b.1,d.e.1),(d.d.1.b.1,d.e.2.1),(d.d.2.1.b.1,d.e.b.1),(d.d.b.1.b.1,d.e.b.2.1),(d.d.b.2.1.b.1,d.e.c.1),d.e.c.2))) x
def UJ (d:kq.B):Pg uN:=ret ((d.1,d.2.1.2.1,wI (d.2.1.2.1+d.1)),(d.2.1.1,d.2.1.2.2),d.2.2)
def ny (d:kq.B):Option uN:=(UJ d).val
def UK:Hd:=⟨13,(1::2::3::rg 5 75 []),[(3,[]),(4,[]),(5,[]),(6,[]),(7,[]),(8,[]),(9,[]),(10,[]),(11,[]),(12,[]),(13,[]),(14,[]),(15,[]),(16,[]),(17,[]),(18,[]),(19,[]),(20,[]),(21,[]),(22,[]),(0,[])]⟩
def EY (ahU:C')(NA:zy)(eH:LT eE nw)(qG:LT kq uN)(x:lY.B):Pg ug:=let bK:=x.2.1;let bx:=x.1.2;let n8:=x.2.2;let n6:=n8.2.2.2.2;let n5:=bx.2.2.1;let bA:=n5.2.2;let n4:=n8.1.2.2.2.2;let n7:=n4.2.2.2.2.2.2.2.2.2.2.2.2;let n1:=n6.2.2;let bj:=n1.2.2;let n2:=bj.2.2.2;let n9:=n2.2.2.2.2;let y0:=ww n4.1 n4.1;let y1:=ww n7 n7;let y2:=ww n6.1.2.2.1 n6.1.2.2.1;let y3:=ww n6.2.1.2.2.1 n6.2.1.2.2.1;let y4:=ww n1.1.2.2.1 n1.1.2.2.1;let y5:=ww n1.2.1.2.2.1 n1.2.1.2.2.1;let y6:=ww bj.1.2.2.1 bj.1.2.2.1;let y7:=ww bj.2.1.2.2.1 bj.2.1.2.2.1;let y8:=ww n2.1.2.2 n2.1.2.2;ae (x.1.1==1) (ae y0 (ae y1 (ae y2 (ae y3 (ae y4 (ae y5 (ae y6 (ae y7 (ae y8 (opt (ahU ((bx.1,bx.2.2.2),n8)) λd=>ret (wr ((bK,d.2.1),d.2.2))) no) no) no) no) no) no) no) no) no) (ae (x.1.1==0) (ae y0 (ae y1 (ae y2 (ae y3 (ae y4 (ae y5 (ae y6 (ae y7 (ae y8 (opt (NA (n5,n8)) λd=>let n3:=d.2.2.2.2.2;let aT:=n3.2.2.2;let y0:=d.1.2==0;let y1:=ww n3.1.2.2.1 n3.1.2.2.1;let y2:=ww n3.2.1.2.2.1 n3.2.1.2.2.1;let y3:=ww n3.2.2.1.2.2.1 n3.2.2.1.2.2.1;let y4:=ww aT.1.2.2.1 aT.1.2.2.1;let y5:=ww aT.2.1.2.2.1 aT.2.1.2.2.1;let y6:=ww aT.2.2.1.2.2.1 aT.2.2.1.2.2.1;ae y0 (ae y1 (ae y2 (ae y3 (ae y4 (ae y5 (ae y6 (opt (qG (d.1.1,(n5.1,bK.2.1,y0),d.2)) λd=>ret (wn ((d.2.1.1,d.1.2.2,d.2.1.2),d.2.2))) no) no) no) no) no) no) (ae y1 (ae y2 (ae y3 (ae y4 (ae y5 (ae y6 (opt (qG (d.1.1,(bK.1,bK.2.1,y0),d.2)) λd=>ret (wn ((d.2.1.1,d.1.2.2,d.2.1.2),d.2.2))) no) no) no) no) no) no)) no) no) no) no) no) no) no) no) no) (ae y2 (ae y3 (ae y4 (ae y5 (ae y6 (ae y7 (opt (eH ((0,x.1.1),bK,(x.1.1,bx.1,bx.2.1,n5.1,n5.2.1,bA.1.1,bA.1.2.1,bA.1.2.2,bA.2.1,bA.2.2.1,bA.2.2.2,bx.2.2.2),(n8.1.1,n8.1.2.1,n8.1.2.2.1,n8.1.2.2.2.1,(0,n4.1),n4.2),n8.2.1,n8.2.2.1,(n4.1,n8.2.2.2.1),n6.1,n6.2.1,n1.1,n1.2.1,bj.1,bj.2.1,bj.2.2.1,n2.1,(n7,n2.2.1),n2.2.2.1,n2.2.2.2.1,n9.1,n9.2.1,n9.2.2.1,n9.2.2.2.1,n2.1.2.2,n9.2.2.2.2)) λx=>sum x (λd=>ret (wn ((d.1.2.2.2.2.2.1,d.1.2.2.2.2.2.2.2.1,d.2.1),d.2.2.2))) λx=>sum x (λd=>ret (wn ((d.1.2.2.2.2.2.1,d.2.1),d.2.2.2))) λx=>sum x (λd=>ret (wn (d.2.1,d.2.2.2))) λd=>ret (wn (d.2.1,d.2.2.2))) no) no) no) no) no) no))
def jX:=λx=>(EY dK bV nx ny x).val
abbrev zB:=C'×zy×xj×(LT eE nw)×(LT kq uN)
def EZ (p:zB):KK:=⟨[Nv p.1,zz p.2.1,Ku p.b.1],⟨[⟨3,(1::2::5::7::rg 9 71 []),[(3,[]),(4,[]),(5,[]),(6,[]),(7,[]),(8,[]),(9,[]),(10,[]),(11,[]),(12,[]),(13,[]),(14,[]),(15,[]),(16,[]),(17,[]),(18,[]),(19,[]),(20,[]),(21,[]),(22,[]),(0,[])]⟩],[fW 3 21 eE UH p.b.2.1],(rg 0 21 []),[⟨UK,fW 13 21 kq UI p.c⟩],(some ⟨0,(rg 0 80 []),[(3,[]),(4,[]),(5,[]),(6,[]),(7,[]),(8,[]),(9,[]),(10,[]),(11,[]),(12,[]),(13,[]),(14,[]),(15,[]),(16,[]),(17,[]),(18,[]),(19,[]),(20,[]),(21,[]),(22,[]),(0,[])]⟩)⟩,21,14⟩
theorem aos (p:zB):LI (EZ p) 3 eE UH (AB p.b.1):=λ_ d c K=>by kernel_rfl
theorem aot (p:zB):JI (EZ p) 13 kq UI (UJ):=λ_ d K=>by kernel_rfl
theorem awC (p:zB):D2 (EZ p) lY aaU λb=>EY p.1 p.2.1 p.b.2.1 p.c b:=λb=>by kernel_rfl
abbrev E0:zB:=(dK,bV,c9,nx,ny)
theorem awD [ax]:SC (aaV jX):=sc (kS (k:=EZ E0) (.c ahM (.c Ns (.c Y2 (.nil _)))) [3] [13] ⟨kL (aos E0),trivial⟩ ⟨kJ UK (aot E0),trivial⟩ (awC E0))
end Go.Proofs.YtldgljclcgaibaaGreat
namespace Go.Proofs.YtldgljclcgaibaaGreat
open Go.Ab Go.Ab.Pg
abbrev Bd (B x:Int):Prop:=0<=x/\x<=B
class Le (B:outParam Int) (x:Int):Prop where
 h:Bd B x
def Lb (B:Int)(r:Nat->Int):Prop:=∀k,Bd B (r k)
class Lr (B:outParam Int) (r:Nat->Int):Prop where
 h:Lb B r
class Ek {α:Type} (w:outParam α) (x:α):Prop where
 h:x=w
theorem Lb.up {B t:Int}{r:Nat->Int}{k:Nat}(h:Lb B r)(ht:Bd B t):Lb B (λj=>bif ww j k then t else r j):=λj=>by
 show Bd B (bif ww j k then t else r j);cases ww j k
 .exact h j
 .exact ht
theorem my {P:Prop}(h:P:=by
 show PW _ _;first
 |(refine aNy ?_)
 |(refine aNz ?_ ?_)
 |(refine aNA ?_;intro _ h;repeat (obtain⟨_,h⟩:_/\_:=h))
 |(refine aNB ?_;intro _)
 all_goals try dsimp only
 repeat' (first
  |with_reducible exact aZJ
  |with_reducible refine aNz ?_ ?_
  |(with_reducible refine aNA ?_;intro _ h;repeat (obtain⟨_,h⟩:_/\_:=h))
  |(with_reducible refine aNB ?_;intro _)
  |(with_reducible refine aX0 ‹_› ?_ ?_<;>(intro _ h;repeat (obtain⟨_,h⟩:_/\_:=h)))
  |(with_reducible refine aZK ‹_› ?_ ?_<;>(intro _ h;repeat (obtain⟨_,h⟩:_/\_:=h)))
  |(with_reducible refine aTK ?_ ?_<;>intro _)
  |(with_reducible refine aX1 ?_ ?_<;>intro _))
 all_goals
  try with_reducible refine aNy ?_
  first
  |assumption
  |((repeat' refine And.intro ?_ ?_)<;>first|infer_instance|(refine(?_:Ek _ _);infer_instance)|(refine(?_:Le _ _);infer_instance)|(refine(?_:Lr _ _);infer_instance))):P:=h
theorem IY {D X:Type}{s:D->Pg (D⊕X)}{R:X->Prop}(I:D->Prop)(h:∀d,I d->PW (s d) (t8 I R))(d:D)(k:I d):Mo (bD s 2000 d) R:=⟨VU (s:=s) I R h 2000 d k⟩
theorem aYb (a b:Int)(c:Bool):Po (mx a b c) (λr:FM=>(r.1:Int)=a):=by
 unfold mx yY;show PW _ _;dsimp only;rw[aQ]
theorem aYc (t a b:Int)(c:Bool)(B:Int)(h:Bd B t)(k:Bd B a):Po (mw t a b c) (λr:FL=>Bd B r):=by
 unfold mw yX;show PW _ _;rw[aX];refine⟨λ_=>by rw[aQ];exact h,λ_=> ?_⟩;rw[aX];exact⟨λ_=>by rw[aQ];exact h,λ_=>by rw[aQ];exact k⟩
theorem aRt (B:Int)(w:Nat->Int)(x0 x1:Int)(x2:Nat)(x3 x4:Nat->Int)(x5:Nat->Bool)(x6 x7 x8:Nat->Int)(x9:Int)(gA:Nat->Bool)(fX BL:Nat->Int)(w0:Bool)(h:Bd B x1)(k:Lb B x3)(e:x7=w):Po (fh x0 x1 x2 x3 x4 x5 x6 x7 x8 x9 gA fX BL w0) (λr=>Lb B r.1.1/\r.1.c.1=w):=by
 have k':∀j,Bd B (x3 j):=k;unfold fh se;try dsimp only
 show PW _ _;try dsimp only
 repeat' (first
  |(rw[kQ];exact trivial)
  |(with_reducible refine bB (aYc _ _ _ _ B h (k' _)) λd _ hd=> ?_)
  |(with_reducible refine bB (aYb _ _ _) λd _ hm=> ?_)
  |(rw[dz];intro _ _)
  |(rw[aX];refine⟨λ_=> ?_,λ_=> ?_⟩))
 all_goals
  rw[aQ];first
  |exact⟨k,e⟩
  |exact⟨k.up hd,e⟩
  |exact⟨k.up (by rw[hm];exact k' _),e⟩
variable (i0 i1 i2 i3 i4:Int) (n0:Nat) (r0 r1 r2 r3 r4 r5 r6:Nat->Int) (q0 q1:Nat->Bool) (b0 b1:Bool) {B:Int} {w:Nat->Int}
instance a2C [h:Le B i1][k:Lr B r0][e:Ek w r3]:Mo (fh i0 i1 n0 r0 r1 q0 r2 r3 r4 i2 q1 r5 r6 b0) (λx=>Lr B x.1.1/\Ek w x.1.c.1):=⟨λr hr=>by
 have q:=aRt B w _ _ _ _ _ _ _ _ _ _ _ _ _ _ h.h k.h e.h r hr;exact⟨⟨q.1⟩,⟨q.2⟩⟩⟩
instance aZf [Le B i0]:Mo (lN r0 i0 b0) (λx=>Le B x.1.1):=⟨my⟩
instance aFV (x:im.B)[Le B x.1.2]:Mo (eJ x) (λx=>Le B x.2.1):=⟨my⟩
instance aIH (d:dJ.B)[Le B d.2.1.d.b.1][Le B d.2.1.d.b.2.1][Lr B d.d.b.2.1.1.1][Ek w d.d.b.2.1.1.c.1]:Mo (jm d) (λx=>Le B x.2.1.d.b.1/\Le B x.2.1.d.b.2.1/\Lr B x.d.b.2.1.1.1/\Ek w x.d.b.2.1.1.c.1):=IY (λd=>Le B d.2.1.d.b.1/\Le B d.2.1.d.b.2.1/\Lr B d.d.b.2.1.1.1/\Ek w d.d.b.2.1.1.c.1) (λd h=>by
 obtain⟨_,_,_,_⟩:=h;exact my) d ⟨inferInstance,inferInstance,inferInstance,inferInstance⟩
instance aOs (x:fT.B)[Le B x.1.1][Le B x.2.1.d.c.1][Le B x.2.1.d.c.2.1][Lr B x.d.b.2.1.1.1][Ek w x.d.b.2.1.1.c.1]:Mo (ib x) (t8 (λx=>Le B x.1.d.c.1/\Le B x.1.d.c.2.1) (λx=>Le B x.1.1.d.b.1/\Le B x.1.1.d.b.2.1)):=⟨my⟩
instance aFW (x:eK.B)[Le B x.1.d.c.1][Le B x.1.d.c.2.1][Lr B x.d.b.1.1.1][Ek w x.d.b.1.1.c.1]:Mo (dN x) (λx=>Le B x.d.c.2.1/\Le B x.d.c.b.1):=⟨my⟩
instance aO5 (x:oI.B)[Le B x.2.1.d.c.1][Le B x.2.1.d.c.2.1][Lr B x.d.c.1.1.1][Ek w x.d.c.1.1.c.1]:Mo (gF x) (λx=>Lr B x.1.1/\Ek w x.1.c.1):=⟨my⟩
instance aLV (x:mE.B)[Le B x.2.1.d.c.1][Le B x.2.1.d.c.2.1][Lr B x.d.b.2.1.1.1][Ek w x.d.b.2.1.1.c.1]:Mo (cZ x) (λx=>Lr B x.1.1/\Ek w x.1.c.1):=⟨my⟩
instance aO6 (x:mF.B)[Le B x.2.1.d.c.1][Le B x.2.1.d.c.2.1][Lr B x.d.b.2.1.1.1][Ek w x.d.b.2.1.1.c.1]:Mo (iW x) (λx=>Le B x.1.d.c.1/\Le B x.1.d.c.2.1):=⟨my⟩
instance aOt (x:nu.B)[Le B x.2.1.d.c.1][Le B x.2.1.d.c.2.1][Lr B x.d.b.2.1.1.1][Ek w x.d.b.2.1.1.c.1]:Mo (fS x) (λx=>Lr B x.1.1/\Ek w x.1.c.1):=⟨my⟩
instance aO7 (x:mH.B)[Le B x.2.1.d.c.1][Le B x.2.1.d.c.2.1][Lr B x.d.b.2.1.1.1][Ek w x.d.b.2.1.1.c.1]:Mo (mI x) (t8 (λx=>Lr B x.2.1.1/\Ek w x.2.1.c.1/\Le B x.1.d.c.1/\Le B x.1.d.c.2.1) (λx=>Lr B x.1.2.1.1/\Ek w x.1.2.1.c.1/\Le B x.1.1.d.b.2.1/\Le B x.1.1.d.c.1)):=⟨my⟩
instance aO8 (x:mJ.B)[Le B x.2.1.d.c.1][Le B x.2.1.d.c.2.1][Lr B x.d.b.2.1.1.1][Ek w x.d.b.2.1.1.c.1]:Mo (mK x) (λx=>Le B x.1.d.c.1/\Le B x.1.d.c.2.1):=⟨my⟩
instance aO9 (x:mG.B)[Le B x.2.1.d.c.1][Le B x.2.1.d.c.2.1][Lr B x.d.c.1.1.1][Ek w x.d.c.1.1.c.1]:Mo (dw x) (λx=>Lr B x.2.1.2.1.1/\Ek w x.2.1.2.1.c.1/\Le B x.2.1.1.d.c.1/\Le B x.2.1.1.d.c.2.1):=⟨my⟩
instance aLW (x:ke.B)[Le B x.2.1.d.c.1][Le B x.2.1.d.c.2.1][Lr B x.d.c.1.1.1][Ek w x.d.c.1.1.c.1]:Mo (gk x) (λx=>Le B x.d.c.1/\Le B x.d.c.2.1):=⟨my⟩
instance aCP [Lr B r0][Ek w r3]:Mo (gE b0 i0 i1 b1 i2 i3 r0 r1 q0 r2 r3 r4 i4) (λx=>Lr B x.1.1/\Ek w x.1.c.1):=⟨my⟩
instance aGb (x:gu.B)[Le B x.2.1.d.c.1][Le B x.2.1.d.c.2.1][Lr B x.d.b.2.1.1.1][Ek w x.d.b.2.1.1.c.1]:Mo (gv x) (t8 (λx=>Lr B x.1.2.1.1/\Ek w x.1.2.1.c.1/\Le B x.1.1.d.b.2.1) (λx=>Lr B x.2.1.1/\Ek w x.2.1.c.1/\Le B x.1.d.c.1/\Le B x.1.d.c.2.1)):=⟨my⟩
instance aII (x:iG.B)[Le B x.2.1.d.c.1][Le B x.2.1.d.c.2.1][Lr B x.d.b.2.1.1.1][Ek w x.d.b.2.1.1.c.1]:Mo (iH x) (λx=>Lr B x.2.1.1/\Ek w x.2.1.c.1/\Le B x.1.d.c.1/\Le B x.1.d.c.2.1):=⟨my⟩
instance aLX (x:kg.B)[Le B x.2.1.d.c.1][Le B x.2.1.d.c.2.1][Lr B x.d.b.2.1.1.1][Ek w x.d.b.2.1.1.c.1]:Mo (kh x) (λx=>Lr B x.2.1.1/\Ek w x.2.1.c.1/\Le B x.1.d.c.1/\Le B x.1.d.c.2.1):=⟨my⟩
instance aIJ (x:iI.B)[Le B x.2.1.d.c.1][Le B x.2.1.d.c.2.1][Lr B x.d.b.2.1.1.1][Ek w x.d.b.2.1.1.c.1]:Mo (iJ x) (λx=>Lr B x.2.1.1/\Ek w x.2.1.c.1/\Le B x.1.d.c.1/\Le B x.1.d.c.2.1):=⟨my⟩
instance aPa (x:mL.B)[Le B x.2.1.d.c.1][Le B x.2.1.d.c.2.1][Lr B x.d.b.2.1.1.1][Ek w x.d.b.2.1.1.c.1]:Mo (mM x) (λx=>Lr B x.2.1.1/\Ek w x.2.1.c.1/\Le B x.1.d.c.1/\Le B x.1.d.c.2.1):=⟨my⟩
instance aRu (x:nI.B)[Le B x.2.1.d.c.1][Le B x.2.1.d.c.2.1][Lr B x.d.b.2.1.1.1][Ek w x.d.b.2.1.1.c.1]:Mo (nJ x) (t8 (λx=>Lr B x.2.1.1/\Ek w x.2.1.c.1/\Le B x.1.d.c.1/\Le B x.1.d.c.2.1) (λx=>Lr B x.1.2.1.1/\Ek w x.1.2.1.c.1/\Le B x.1.1.d.c.1/\Le B x.1.1.d.c.2.1)):=⟨my⟩
instance aK7 (d:bQ.B)[Le B d.2.1.d.c.1][Le B d.2.1.d.c.2.1][Lr B d.d.b.2.1.1.1][Ek w d.d.b.2.1.1.c.1][Le B d.d.c.b.1.1]:Mo (gx d) (λx=>Lr B x.d.b.2.1.1.1/\Le B x.2.1.d.c.1/\Le B x.2.1.d.c.2.1/\Le B x.d.c.b.1.1/\Ek w x.d.b.2.1.1.c.1):=IY (λd=>Le B d.2.1.d.c.1/\Le B d.2.1.d.c.2.1/\Lr B d.d.b.2.1.1.1/\Ek w d.d.b.2.1.1.c.1/\Le B d.d.c.b.1.1) (λd h=>by
 obtain⟨_,_,_,_,_⟩:=h;exact my) d ⟨inferInstance,inferInstance,inferInstance,inferInstance,inferInstance⟩
instance aK8 (d:cL.B)[Le B d.2.1.d.c.1][Le B d.2.1.d.c.2.1][Lr B d.d.b.2.1.1.1][Ek w d.d.b.2.1.1.c.1][Le B d.d.c.b.1.1]:Mo (iM d) (λx=>Lr B x.d.b.2.1.1.1/\Le B x.2.1.d.c.1/\Le B x.2.1.d.c.2.1/\Le B x.d.c.b.1.1/\Ek w x.d.b.2.1.1.c.1):=IY (λd=>Le B d.2.1.d.c.1/\Le B d.2.1.d.c.2.1/\Lr B d.d.b.2.1.1.1/\Ek w d.d.b.2.1.1.c.1/\Le B d.d.c.b.1.1) (λd h=>by
 obtain⟨_,_,_,_,_⟩:=h;exact my) d ⟨inferInstance,inferInstance,inferInstance,inferInstance,inferInstance⟩
instance aK9 (d:cA.B)[Le B d.2.1.d.c.1][Le B d.2.1.d.c.2.1][Lr B d.d.b.2.1.1.1][Ek w d.d.b.2.1.1.c.1][Le B d.d.c.b.1.1]:Mo (iL d) (λx=>Lr B x.d.b.2.1.1.1/\Le B x.2.1.d.c.1/\Le B x.2.1.d.c.2.1/\Le B x.d.c.b.1.1/\Ek w x.d.b.2.1.1.c.1):=IY (λd=>Le B d.2.1.d.c.1/\Le B d.2.1.d.c.2.1/\Lr B d.d.b.2.1.1.1/\Ek w d.d.b.2.1.1.c.1/\Le B d.d.c.b.1.1) (λd h=>by
 obtain⟨_,_,_,_,_⟩:=h;exact my) d ⟨inferInstance,inferInstance,inferInstance,inferInstance,inferInstance⟩
instance aLa (d:dE.B)[Le B d.1.d.c.1][Le B d.1.d.c.2.1][Lr B d.d.b.1.1.1][Ek w d.d.b.1.1.c.1][Le B d.d.c.2.1.1]:Mo (fw d) (t8 (λx=>Le B x.1.b.1/\Le B x.2.1.d.b.1/\Le B x.2.1.d.b.2.1/\Lr B x.d.b.2.1.1.1/\Ek w x.d.b.2.1.1.c.1) (λx=>Le B x.2.1.d.b.2.1/\Lr B x.d.b.2.1.1.1/\Le B x.2.1.d.c.1/\Le B x.d.c.b.1.1/\Ek w x.d.b.2.1.1.c.1)):=⟨my⟩
instance aLb (d:dF.B)[Le B d.1.d.c.1][Le B d.1.d.c.2.1][Lr B d.d.b.1.1.1][Ek w d.d.b.1.1.c.1][Le B d.d.c.2.1.1]:Mo (eD d) (t8 (λx=>Le B x.1.b.1/\Le B x.2.1.d.b.1/\Le B x.2.1.d.b.2.1/\Lr B x.d.b.2.1.1.1/\Ek w x.d.b.2.1.1.c.1) (λx=>Le B x.2.1.d.b.2.1/\Lr B x.d.b.2.1.1.1/\Le B x.2.1.d.c.1/\Le B x.d.c.b.1.1/\Ek w x.d.b.2.1.1.c.1)):=⟨my⟩
instance aLc (d:dG.B)[Le B d.1.d.c.1][Le B d.1.d.c.2.1][Lr B d.d.b.1.1.1][Ek w d.d.b.1.1.c.1][Le B d.d.c.2.1.1]:Mo (dW d) (t8 (λx=>Le B x.1.b.1/\Le B x.2.1.d.b.1/\Le B x.2.1.d.b.2.1/\Lr B x.d.b.2.1.1.1/\Ek w x.d.b.2.1.1.c.1) (λx=>Le B x.2.1.d.b.2.1/\Lr B x.d.b.2.1.1.1/\Le B x.2.1.d.c.1/\Le B x.d.c.b.1.1/\Ek w x.d.b.2.1.1.c.1)):=⟨my⟩
instance aps (x:fM.B)[Le B x.1.1][Le B x.2.1.d.c.1][Lr B x.d.b.2.1.1.1][Ek w x.d.b.2.1.1.c.1]:Mo (eY x) (λx=>Lr B x.1.c.b.2.1.1.1/\Le B x.1.1.d.c.1/\Ek w x.1.c.b.2.1.1.c.1/\Le B x.1.1.d.c.2.1):=⟨my⟩
end Go.Proofs.YtldgljclcgaibaaGreat
namespace Go.Proofs.YtldgljclcgaibaaGreat
open Go.Ab Go.Ab.Pg
theorem aOu {x0:Nat}{x1 x2:Int}{x3 x4 x5 x6 x7 x8 x9 gA fX:Nat->Int}{w0:Bool}{d:fm}(h:bU x0 x1 x2 x3 x4 x5 x6 x7 x8 x9 gA fX w0=some d):d.1=ws x1+(x0-ws x2)/\d.2.1=KO (ws x1) (ws x2-ws x1) x3/\ws x1<=ws x2/\ws x2<=x0:=by
 unfold bU at h;obtain⟨c,e⟩:=VV h;rw[cx,cx,cx,cx] at c;rw[<-e];exact⟨rfl,rfl,JN c.b.1,JN c.b.2.2⟩
theorem aYd {x0:Nat}{x1:Int}{x2 x3 x4 x5 x6 x7 x8 x9 gA fX BL x13 x14 x15 x16 x17 x18 x19:Nat->Int}{x20:Nat}{w0 w1:Bool}{d:fk}(h:cV x0 x1 x2 x3 x4 x5 x6 x7 x8 x9 gA fX BL x13 x14 x15 x16 x17 x18 x19 x20 w0 w1=some d):d.1=x0+1/\d.2.1=Ff (ws x1) x2 fX/\ws x1<=x0:=by
 unfold cV at h;obtain⟨c,e⟩:=VV h;rw[cx,cx,cx,cx] at c;rw[<-e];exact⟨rfl,rfl,JN c.b.2.1⟩
theorem aOv {M:Int}{a n k:Nat}{r:Nat->Int}(h:∀i,i<n->r i<=M):∀i,i+k<n->KO 0 k r i<=M:=λi hi=>by
 show r (i+k)<=M;exact h _ hi
theorem aYe {M:Int}{n k:Nat}{r v:Nat->Int}(h:∀i,i<n->r i<=M)(hv:v 0<=M)(hk:k<=n):∀i,i<n+1->Ff k r v i<=M:=λi hi=>by
 unfold Ff;cases e1:Nat.blt i k with
 |true=>
  have:=JN e1;exact h i (by omega)
 |false=>
  cases e2:ww i k with
  |true=>exact hv
  |false=>
   have n1:¬i<k:=λq=>by
    have:Nat.blt i k=true:=aDu q;rw[this] at e1;cases e1
   have n2:i≠k:=λq=>by subst q;rw[Lv] at e2;cases e2
   exact h (i-1) (by omega)
theorem pl0 (M:Int)(w d:gJ.B)(hM:∀i,i<w.2.1.b.1->w.b.1 i<=M)(hd:d.1.2<9223372036854775808/\(0<=d.1.2->d.1.2<=((w.2.1.b.1:Nat):Int))/\d.1.1=w.1.1/\d.2=w.2):Po (zh d) (λx:o6=>match x with|.inl e=>(0<=e.1.2.1/\e.1.2.1<=((w.2.1.b.1:Nat):Int)/\e.1.b.1=w.2.1.b.1/\e.1.1=w.1.1/\e.2.2=w.2.2)/\¬M<=w.1.1|.inr e=>(0<=e.1.2.1/\e.1.2.1<=((w.2.1.b.1:Nat):Int)/\e.1.b.1=w.2.1.b.1/\e.1.1=w.1.1/\e.2.2=w.2.2)/\e.1.2.1=((w.2.1.b.1:Nat):Int)):=by
 revert d
 exact Dg (λd hd=>by
  obtain⟨i0,i1,e0,e1⟩:=hd;have e2:d.2.1.b.1=w.2.1.b.1:=ck (λz=>z.1.b.1) e1;have e3:d.b.1=w.b.1:=ck (λz=>z.2.1) e1;have e4:d.2.2=w.2.2:=ck (λz=>z.2) e1;unfold zf;dsimp only;rw[aX];refine⟨λc=> ?_,λc=> ?_⟩
  .have c:=cQ c;rw[dO,e2] at c;rw[cU];intro r0;rw[bk] at r0;have i2:=i1 r0.1;rw[aX];refine⟨λq=> ?_,λq=> ?_⟩
   .rw[aQ]
    have hw:wI (d.1.2+1)<9223372036854775808/\(0<=wI (d.1.2+1)->wI (d.1.2+1)<=((w.2.1.b.1:Nat):Int)):=by
     rcases(show d.1.2+1<9223372036854775808∨d.1.2=9223372036854775807 by omega) with g|g
     .rw[show wI (d.1.2+1)=d.1.2+1 from wrap_i64 (by omega) (by omega)];omega
     .rw[g];exact⟨by decide,λh=>absurd h (by decide)⟩
    exact⟨hw.1,hw.2,e0,e1⟩
   .rw[aQ];refine⟨⟨r0.1,i2,e2,e0,e4⟩,λhm=> ?_⟩;have q:=kO q;rw[e3,e0] at q;have:=hM (ws d.1.2) (by omega);omega
  .have c:=kO c;rw[dO,e2] at c;rw[aQ];have i2:=i1 (by omega);exact⟨⟨by show 0<=d.1.2;omega,i2,e2,e0,e4⟩,by show d.1.2=_;omega⟩)
theorem aSS (M:Int)(x:oH.B)(hM:∀i,i<x.2.1.b.1->x.b.1 i<=M):Po (mD x) (λe:w9=>(∀i,i<e.2.1.b.1->e.b.2.1 i<=M)/\(M<=x.1->e.2.1.b.1=0)):=by
 unfold mD CF;try dsimp only
 show PW _ _;try dsimp only
 rw[cU];intro _;refine bB (pl0 M ((x.1,0),x.2) _ hM ⟨(show(0:Int)<9223372036854775808 by decide),λ_=>(show(0:Int)<=((x.2.1.b.1:Nat):Int) by omega),rfl,rfl⟩) λy _ hy=> ?_;rw[iz];refine⟨λa ha=> ?_,λa ha=> ?_⟩<;>subst ha
 all_goals
  obtain⟨⟨k0,k1,k2,k3,k4⟩,k5⟩:=hy;have k1:a.1.2.1<=((x.2.1.b.1:Nat):Int):=k1;have k2:a.1.b.1=x.2.1.b.1:=k2;have kr:a.b.1=x.b.1:=ck (λz=>z.1) k4;rw[cU];intro _
  repeat' (first
   |(rw[kQ];exact trivial)
   |(rw[aX];refine⟨λ_=> ?_,λ_=> ?_⟩)
   |(rw[dz];intro z hz))
  rw[aQ];obtain⟨d1,d2,_,d4⟩:=aOu hz;have d1:z.1=0+(a.1.b.1-ws a.1.2.1):=d1;have d2:z.2.1=KO 0 (ws a.1.2.1-0) a.b.1:=d2;rw[Nat.sub_zero,kr] at d2;refine⟨λi hi=> ?_,λhm=> ?_⟩
  .have hi:i<z.1:=hi;show z.2.1 i<=M;rw[d2];exact aOv (a:=0) hM i (by omega)
  .show z.1=0;first
   |exact absurd hm k5
   |(have k5:a.1.2.1=((x.2.1.b.1:Nat):Int):=k5
     omega)
theorem aZL (M:Int)(x:rD.B)(hM:∀i,i<x.2.1.b.1->x.b.1 i<=M)(hs:x.1.1<=M):Po (oG x) (λr:w8=>match r with|.inl e=>e.b.1=x.2.1.b.1|.inr e=>∀i,i<e.2.1.b.1->e.b.1 i<=M):=by
 unfold oG CE;try dsimp only
 show PW _ _;try dsimp only
 rw[aX];refine⟨λ_=>by rw[aQ],λ_=> ?_⟩;rw[cU];intro _;rw[dz];intro p _;rw[cU];intro _;rw[dz];intro q hq;obtain⟨d1,d2,d3⟩:=aYd hq
 have key:∀i,i<q.1->q.2.1 i<=M:=λi hi=>by
  rw[d2];exact aYe hM hs d3 i (by omega)
 rw[aX];refine⟨λ_=>by rw[aQ];exact key,λ_=> ?_⟩;rw[cU];intro _;rw[cU];intro _;rw[dz];intro z hz;rw[aQ];obtain⟨e1,e2,e3,e4⟩:=aOu hz;have e1:z.1=0+(q.1-1):=e1;have e4:1<=q.1:=e4;intro i hi;have hi:i<z.1:=hi;show z.2.1 i<=M;rw[e2];exact aOv (a:=0) key i (by show i+1<q.1;omega)
theorem aLn (x:iG.B):Ok (iH x) (λr:CQ=>r.1.d.c.b.2.2=x.2.1.d.c.b.2.2/\r.1.c.1=x.2.1.c.1/\r.1.d.c.2.1=x.2.1.d.c.2.1):=by
 unfold iH CR;try dsimp only
 show PQ _ _;simp only[aN]
 repeat' (first
  |rw[aC]
  |(rw[aK];refine⟨λ_=> ?_,λ_=> ?_⟩)
  |(rw[uk];refine⟨λ_ _=> ?_,λ_ _=> ?_⟩)
  |(with_reducible refine ay (afa _ ?_) λe _ he=> ?_)
  |(with_reducible refine ay (Y4 _ ?_) λq _ hq=> ?_)
  |(with_reducible refine ay (Sn _ ?_) λt _ ht=> ?_)
  |(rw[bE];intro _ _))
 all_goals first|(rw[av];exact⟨hq.1.trans he.2.1,hq.2.1.trans he.b.1,hq.2.2.trans he.b.2⟩)|(rw[av];exact he.2)|(rw[av];exact⟨rfl,rfl,rfl⟩)|omega|(dsimp only;omega)|(have h1:=he.1;(try dsimp only at h1);(try dsimp only);omega)
theorem aLo (x:iI.B):Ok (iJ x) (λr:CU=>r.1.d.c.b.2.2=x.2.1.d.c.b.2.2/\r.1.c.1=x.2.1.c.1/\r.1.d.c.2.1=x.2.1.d.c.2.1):=by
 unfold iJ CW;try dsimp only
 show PQ _ _;simp only[aN]
 repeat' (first
  |rw[aC]
  |(rw[aK];refine⟨λ_=> ?_,λ_=> ?_⟩)
  |(rw[uk];refine⟨λ_ _=> ?_,λ_ _=> ?_⟩)
  |(with_reducible refine ay (afa _ ?_) λe _ he=> ?_)
  |(with_reducible refine ay (Y4 _ ?_) λq _ hq=> ?_)
  |(with_reducible refine ay (Sn _ ?_) λt _ ht=> ?_)
  |(rw[bE];intro _ _))
 all_goals first|(rw[av];exact⟨hq.1.trans he.2.1,hq.2.1.trans he.b.1,hq.2.2.trans he.b.2⟩)|(rw[av];exact he.2)|(rw[av];exact⟨rfl,rfl,rfl⟩)|omega|(dsimp only;omega)|(have h1:=he.1;(try dsimp only at h1);(try dsimp only);omega)
theorem aHp (x0:Nat->Int)(x1:Int)(x2:Int)(x3:Int)(x4:Int)(x5:Int)(x6:Bool):Ok (Cy x0 x1 x2 x3 x4 x5 x6) (λr:U9=>match r with|.inl e=>(e.1!=0)=true|.inr _=>True):=by
 unfold Cy U';try dsimp only
 show PQ _ _;simp only[bM];repeat' (first|exact True.intro|rfl|assumption|(apply And.intro)|(intro _))
theorem aYB (x:mL.B):Ok (mM x) (λr:Ko=>r.1.d.c.b.2.2=x.2.1.d.c.b.2.2/\r.1.c.1=x.2.1.c.1/\r.1.d.c.2.1=x.2.1.d.c.2.1):=by
 unfold mM Kp;try dsimp only
 show PQ _ _;simp only[aN];rw[bE];intro d _;with_reducible refine ay (aHp _ _ _ _ _ _ _) λfb _ hfb=> ?_
 rw[uk];refine⟨λa ha=> ?_,λa ha=> ?_⟩
 .subst ha;have hfb:(a.1!=0)=true:=hfb;rw[hfb]
  repeat' (first
   |rw[aC]
   |(rw[aK];refine⟨λ_=> ?_,λ_=> ?_⟩)
   |(rw[uk];refine⟨λ_ _=> ?_,λ_ _=> ?_⟩)
   |(with_reducible refine ay (afa _ ?_) λe _ he=> ?_)
   |(with_reducible refine ay (Y4 _ ?_) λq _ hq=> ?_)
   |(with_reducible refine ay (Sn _ ?_) λt _ ht=> ?_)
   |(rw[bE];intro _ _))
  all_goals first|(rw[av];exact⟨hq.1.trans he.2.1,hq.2.1.trans he.b.1,hq.2.2.trans he.b.2⟩)|(rw[av];exact he.2)|(rw[av];exact⟨rfl,rfl,rfl⟩)|omega|(dsimp only;omega)|(have h1:=he.1;(try dsimp only at h1);(try dsimp only);omega)
 .subst ha
  repeat' (first
   |rw[aC]
   |(rw[aK];refine⟨λ_=> ?_,λ_=> ?_⟩)
   |(rw[uk];refine⟨λ_ _=> ?_,λ_ _=> ?_⟩)
   |(with_reducible refine ay (afa _ ?_) λe _ he=> ?_)
   |(with_reducible refine ay (Y4 _ ?_) λq _ hq=> ?_)
   |(with_reducible refine ay (Sn _ ?_) λt _ ht=> ?_)
   |(rw[bE];intro _ _))
  all_goals first|(rw[av];exact⟨hq.1.trans he.2.1,hq.2.1.trans he.b.1,hq.2.2.trans he.b.2⟩)|(rw[av];exact he.2)|(rw[av];exact⟨rfl,rfl,rfl⟩)|omega|(dsimp only;omega)|(have h1:=he.1;(try dsimp only at h1);(try dsimp only);omega)
theorem ah0 (x0:Int)(x1:Int)(x2:Int)(x3:Int)(x4:Int)(x5:Int)(x6:Int)(x7:Int)(x8:Int)(x9:Bool)(h0:0<=x7)(h1:x7<=5):bn (pQ x0 x1 x2 x3 x4 x5 x6 x7 x8 x9):=by
 have hw:wI (x7+1)=x7+1:=eF;have b1:bb x7 7=true:=by simp only[bk];omega
 have b2:bb (x7+1) 7=true:=by simp only[bk];omega
 unfold pQ CI;refine aG ?_;simp only[hw,b1,b2];simp only[bM,Of,Lq,Ed]
theorem ar3 {x0 x1 x2:Int}{d:acG}(h:ia x0 x1 x2=some d)(k:d=true): -900000000<=x0/\x0<=900000000/\ -1800000000<=x1/\x1<=1800000000:=by
 have e:PQ (Ix x0 x1 x2) (λd:Bool=>d=true-> -900000000<=x0/\x0<=900000000/\ -1800000000<=x1/\x1<=1800000000):=by
  simp only[Ix,aK,av,Gp,lC,aa8,xE,Ed,Og,BJ];omega
 exact Ok.post e h k
instance aOI (x0:Int)(x1:Int)(x2:Int)(x3:Bool):bn (tv x0 x1 x2 x3):=by
 unfold tv F2;refine aG ?_;rw[bE];intro d hd;rw[aK];refine⟨λ_=>by rw[av];trivial,λh=> ?_⟩;obtain⟨a0,a1,a2,a3⟩:=ar3 hd (by simpa using h);have w0:wI (x0+900000000)=x0+900000000:=eF;have w1:wI (x1+1800000000)=x1+1800000000:=eF;have e0:t7 (x0+900000000) 450000000=(x0+900000000)/450000000:=aza (by omega);have e1:t7 (x1+1800000000) 600000000=(x1+1800000000)/600000000:=aza (by omega);rw[w0,w1,e0,e1];have w2:wI ((x0+900000000)/450000000)=(x0+900000000)/450000000:=eF;have w3:wI ((x1+1800000000)/600000000)=(x1+1800000000)/600000000:=eF;rw[w2,w3];have r1:0<=(if 3<(x0+900000000)/450000000 then 3 else(x0+900000000)/450000000)/\(if 3<(x0+900000000)/450000000 then 3 else(x0+900000000)/450000000)<=3:=by split<;>omega
 have r2:0<=(if 5<(x1+1800000000)/600000000 then 5 else(x1+1800000000)/600000000)/\(if 5<(x1+1800000000)/600000000 then 5 else(x1+1800000000)/600000000)<=5:=by split<;>omega
 generalize (if 3<(x0+900000000)/450000000 then 3 else(x0+900000000)/450000000)=row at*
 generalize (if 5<(x1+1800000000)/600000000 then 5 else(x1+1800000000)/600000000)=oi at*
 have t2:=λa b c d e f g i j=>ah0 a b c d e f g oi i j r2.1 r2.2
 have hw:wI (row+1)=row+1:=eF;have b1:bb row 5=true:=by simp only[bk];omega
 have b2:bb (row+1) 5=true:=by simp only[bk];omega
 simp only[hw,b1,b2];simp only[bM,Of,Lq,Ed]
instance aGd (x:eK.B):bn (dN x):=by
 unfold dN qB;try dsimp only
 exact aG (by simp only[bM])
theorem aCD (x:eK.B):Ok (dN x) (λr:xT=>r.e.2=x.1.d.c.b.2.2/\r.c.2.1=x.1.c.1/\r.d.c.b.1=x.1.d.c.2.1):=by
 unfold dN qB;try dsimp only
 show PQ _ _;rw[bE];intro d _;rw[av];exact⟨rfl,rfl,rfl⟩
theorem aYC (x:mH.B)(h:x.2.1.d.c.b.2.2<=90000):Ok (mI x) (λr:CS=>match r with|.inl e=>e.1.d.c.b.2.2<=x.2.1.d.c.b.2.2+1/\e.1.c.1=x.2.1.c.1/\e.1.d.c.2.1=x.2.1.d.c.2.1|.inr e=>e.1.1.d.c.b.2<=x.2.1.d.c.b.2.2+1/\e.1.1.c.1=x.2.1.c.1/\e.1.1.d.c.1=x.2.1.d.c.2.1):=by
 unfold mI Km;try dsimp only
 show PQ _ _;simp only[aN];rw[bE];intro d _;rw[bE];intro d1 _;repeat rw[aC]
 with_reducible refine ay (aCD _) λd2 _ h2=> ?_
 have h2:d2.e.2=x.2.1.d.c.b.2.2/\d2.c.2.1=x.2.1.c.1/\d2.d.c.b.1=x.2.1.d.c.2.1:=h2;rw[bE];intro d3 _;rw[aK];refine⟨λ_=> ?_,λ_=> ?_⟩
 .repeat rw[aC]
  rw[bE];intro d4 _;rw[av];show d2.e.2<=x.2.1.d.c.b.2.2+1/\d2.c.2.1=x.2.1.c.1/\d2.d.c.b.1=x.2.1.d.c.2.1;omega
 .rw[bE];intro d4 _;repeat rw[aC]
  with_reducible refine ay (Sn _ ?_) λt _ ht=> ?_
  .show d2.e.2<=100000;omega
  have ht:t.1.d.c.b.2.2=d2.e.2+1/\t.1.c.1=d2.c.2.1/\t.1.d.c.2.1=d2.d.c.b.1:=ht;repeat (first|rw[aC]|(rw[bE];intro _ _))
  rw[av];show t.1.d.c.b.2.2<=x.2.1.d.c.b.2.2+1/\t.1.c.1=x.2.1.c.1/\t.1.d.c.2.1=x.2.1.d.c.2.1;omega
theorem aF5 (x:gu.B)(h:x.2.1.d.c.b.2.2<=90000):Ok (gv x) (λr:sE=>match r with|.inl e=>e.1.1.d.c.2.2<=x.2.1.d.c.b.2.2+3/\e.1.1.c.1=x.2.1.c.1/\e.1.1.d.b.2.1=x.2.1.d.c.2.1|.inr e=>e.1.d.c.b.2.2<=x.2.1.d.c.b.2.2+3/\e.1.c.1=x.2.1.c.1/\e.1.d.c.2.1=x.2.1.d.c.2.1):=by
 have idx:∀(n m:Nat) (k:Int),n=m->0<=k->k<(m:Int)->bb k n=true:=λn m k e h1 h2=>by subst e;simp only[bk];omega
 unfold gv Ai;try dsimp only
 show PQ _ _;simp only[aN];rw[bE];intro d _
 repeat' (first
  |rw[aC]
  |(with_reducible refine ay (aYA _ ?_) λj _ hj=> ?_)
  |(with_reducible refine ay (afa _ ?_) λe _ he=> ?_)
  |(with_reducible refine ay (Y4 _ ?_) λq _ hq=> ?_)
  |(rw[uk];refine⟨λ_ _=> ?_,λ_ _=> ?_⟩)
  |(rw[bE];intro _ _)
  |(rw[aK];refine⟨λc=> ?_,λc=> ?_⟩))
 all_goals first
  |(rw[av];exact hj)
  |(rw[av];exact⟨cq (Nat.le_of_eq (hq.1.trans he.2.1)) (Nat.le_add_right _ _),hq.2.1.trans he.b.1,hq.2.2.trans he.b.2⟩)
  |(rw[av];exact⟨cq (Nat.le_of_eq he.2.1) (Nat.le_add_right _ _),he.2.2⟩)
  |(show x.2.1.d.c.b.2.2<=90000;exact h)
  |(dsimp only;omega)
  |(have h1:=he.1;(try dsimp only at h1);(try dsimp only);omega)
  |(rw[aQ9];rw[he.1] at c;have c':true=false:=c;cases c')
theorem aRI (x:Int):Pz x=some (decide (0<=x)&&decide (x<6)):=by
 simp only[Pz,aoP,bS,cg];by_cases h0:0<=x<;>simp[h0]
instance aoB (x:mN.B):bn (gm x):=by
 unfold gm tz;try dsimp only
 exact aG (by simp only[bM,qF])
instance aOJ (x:o9.B):bn (mO x):=by
 unfold mO zm;try dsimp only
 exact aG (by simp only[bM,qF])
theorem T8 (n:Nat):∀(d:eB.B) (hd:0<=d.1.2.2/\d.1.2.2<=d.1.2.1/\d.1.2.1<=1999/\d.1.2.1=((d.1.1.1:Nat):Int)/\d.2.1.2.2=n/\n<=1999),Ok (vr d) (λx:lT=>x.2.1.2.2=n):=
 bp (λd:eB.B=>ws (d.1.2.1-d.1.2.2)) (λd hd=>by
  have hw:wI (d.1.2.2+1)=d.1.2.2+1:=aY;obtain⟨i0,i1,i2,i3,i4,i5⟩:=hd;unfold vp;try dsimp only
  rw[aK];refine⟨λh=> ?_,λ_=>by rw[av];exact i4⟩;have h:=cQ h;rw[bJ,aN,aC];refine⟨by simp only[bk];omega,?_⟩;with_reducible refine ay (T7 _ ?_) λe _ he=> ?_
  .show d.2.1.2.2<=1999;omega
  have he:e.2.1=d.2.1.2.2:=he;have b1:(true&&ww (e.2.1*11+0) (d.2.1.2.2*11)&&true)=true:=by rw[he,kP,aN];rfl
  have b2:(true&&wd (0+(e.2.1*11+0)) (d.2.1.2.2*11+0))=true:=by rw[he,pw,bY];omega
  simp only[b1,b2,aC,av,qV,hw];exact⟨⟨by omega,by omega,i2,i3,i4,i5⟩,by omega⟩) (λd hd=>by omega)
theorem aUl (x:nh.B)(h:x.1.1<=1999)(k:x.2.1.2.2<=1999):Ok (ni x) (λr:xN=>r.2.1=x.2.1.2.2):=by
 unfold ni xP;show PQ _ _;rw[aN,aN,aC,aC];refine ay (T8 x.2.1.2.2 _ ?_) λd _ hd=> ?_
 .obtain⟨a,b,c,e⟩:=hdN x.1.1 h;exact⟨a,b,c,e,rfl,k⟩
 .rw[av];exact hd
abbrev Bf:=(Int×Int×Int×Int×Int)×Int×Nat×Int
def BR (T:Int)(b c:Bf):Prop:=(∀U,T<=U->b.2.2.2<=U->c.2.2.2<=U)/\c.2.1=b.2.1/\c.2.2.1<=b.2.2.1/\c.1.1=b.1.1/\c.1.2.1=b.1.2.1/\c.1.2.2.1=b.1.2.2.1/\c.1.2.2.2.1=b.1.2.2.2.1/\
 (0<=b.1.2.2.2.2->b.1.2.2.2.2+b.2.2.1<=4611686018427387904->0<=c.1.2.2.2.2/\c.1.2.2.2.2+c.2.2.1=b.1.2.2.2.2+b.2.2.1)
def PR (b c:Bf):Prop:=c.2.1=b.2.1/\c.1.1=wI (b.1.1+1)/\c.1.2.2.2.1=b.1.2.2.2.1/\c.1.2.2.2.2=b.1.2.2.2.2/\c.2.2.2=b.2.2.2/\
 ((c.1.2.1=wI (b.1.2.1+1)/\c.1.2.2.1=b.1.2.2.1/\c.2.2.1=b.2.2.1)∨(c.1.2.1=b.1.2.1/\c.1.2.2.1=b.1.2.2.1/\c.2.2.1=b.2.2.1+1/\((c.2.2.1:Nat):Int)<=b.2.1)∨
  (c.1.2.1=b.1.2.1/\c.1.2.2.1=wI (b.1.2.2.1+1)/\c.2.2.1=b.2.2.1))
def SR (b c:Bf):Prop:=c.2=b.2/\c.1=(wI (b.1.1+1),b.1.2.1,b.1.2.2.1,wI (b.1.2.2.2.1+1),b.1.2.2.2.2)
theorem BR.refl (T:Int)(b:Bf):BR T b b:=⟨λ_ _ h=>h,rfl,dq _,rfl,rfl,rfl,rfl,λh _=>⟨h,rfl⟩⟩
theorem BR.len {T:Int}{b c:Bf}(h:BR T b c):c.2.2.1<=b.2.2.1:=h.2.2.1
theorem BR.mono {T U:Int}{a b:Bf}(t:T<=U)(h:BR T a b):BR U a b:=⟨λV p q=>h.1 V (AF t p) q,h.2⟩
theorem BR.trans {T:Int}{a b c:Bf}(h:BR T a b)(k:BR T b c):BR T a c:=by
 obtain⟨h0,h1,h2,h3,h4,h5,h6,h7⟩:=h;obtain⟨k0,k1,k2,k3,k4,k5,k6,k7⟩:=k;refine⟨λU p q=>k0 U p (h0 U p q),k1.trans h1,cq k2 h2,k3.trans h3,k4.trans h4,k5.trans h5,k6.trans h6,λp q=> ?_⟩;obtain⟨r,s⟩:=h7 p q;obtain⟨u,v⟩:=k7 r (by omega);exact⟨u,v.trans s⟩
theorem aUm (x:rD.B)(h:x.2.1.b.1<=1000):Ok (oG x) (λr:w8=>match r with
  |.inl e=>PR x.2.1 e
  |.inr e=>PR x.2.1 e.2.1):=by
 unfold oG CE;try dsimp only
 show PQ _ _;rw[aK];refine⟨λ_=>by rw[av];exact⟨rfl,rfl,rfl,rfl,rfl,.inl ⟨rfl,rfl,rfl⟩⟩,λ_=> ?_⟩;rw[aN,bJ];refine⟨rfl,ay (aRF (((x.2.1.b.1,true),x.1),x.2.2) (by show x.2.1.b.1<=1999;omega)) λd _ hd=> ?_⟩;rw[bJ];refine⟨rfl,ay (aOG x.2.1.b.1 d.1 hd.1 hd.2 (by omega) _ _ _ _ _ _ _ _ _ _ _ _ _ _ _ _ _ _ _) λd2 _ h2=> ?_⟩;rw[aK];refine⟨λc=> ?_,λ_=> ?_⟩
 .rw[av];have c:=cQ c;exact⟨rfl,rfl,rfl,rfl,rfl,.inr (.inl ⟨rfl,rfl,h2,c⟩)⟩
 rw[bJ,aN,bJ];refine⟨by simp only[bk,h2];omega,rfl,ay (aBu d2.1 0 1 (by omega) (by omega) (by rw[h2];omega) _ _ _ _ _ _ _ _ _) λd3 _ h3=> ?_⟩;rw[av];have e:d3.1=x.2.1.b.1:=by rw[h3,h2];simp
 exact⟨rfl,rfl,rfl,rfl,rfl,.inr (.inr ⟨rfl,rfl,e⟩)⟩
theorem awP (x:lF.B):Ok (ji x) (λr:xr=>SR x.1 r):=by
 unfold ji xt;show PQ _ _;rw[av];exact⟨rfl,rfl⟩
theorem aLp (n:Nat)(p q z:Int)(w:Int×Int×Int×Int×Int):∀(d:gJ.B) (hd:0<=d.1.2/\d.1.2<=(n:Int)/\d.2.1.2.2.1=n/\n<=1999/\d.2.1.2.1=z/\d.2.1.1=w/\d.1.1=p/\d.2.1.2.2.2=q),Ok (zh d) (λx:o6=>match x with
   |.inl e=>0<=e.1.2.1/\e.1.2.1<=(n:Int)/\e.1.2.2.1=n/\e.2.1.2.1=z/\e.2.1.1=w/\e.1.1=p/\e.2.1.2.2=q
   |.inr e=>0<=e.1.2.1/\e.1.2.1<=(n:Int)/\e.1.2.2.1=n/\e.2.1.2.1=z/\e.2.1.1=w/\e.1.1=p/\e.2.1.2.2=q):=
 bp (λd:gJ.B=>ws (n-d.1.2)) (λd hd=>by
  have hw:wI (d.1.2+1)=d.1.2+1:=aY;obtain⟨i0,i1,i2,i3,i4,i5,i6⟩:=hd;unfold zf;try dsimp only
  rw[aK];refine⟨λh=> ?_,λ_=>by rw[av];exact⟨i0,i1,i2,i4,i5,i6⟩⟩;have h:=cQ h;rw[dO] at h;rw[bJ,aK];refine⟨by simp only[bk];omega,λ_=> ?_,λ_=>by rw[av];exact⟨i0,i1,i2,i4,i5,i6⟩⟩;rw[av,qV];simp only[hw];exact⟨⟨by omega,by omega,i2,i3,i4,i5,i6⟩,by omega⟩) (λd hd=>by omega)
theorem aIP (x:oH.B)(h:x.2.1.2.2.1<=1000):Ok (mD x) (λr:w9=>r.1<=x.2.1.2.2.1/\BR x.1 x.2.1 r.2.1):=by
 unfold mD CF;try dsimp only
 show PQ _ _;rw[aN,bJ];refine⟨rfl,ay (aLp x.2.1.2.2.1 x.1 x.2.1.2.2.2 x.2.1.2.1 x.2.1.1 _ ⟨by dsimp only;omega,by dsimp only;omega,rfl,by omega,rfl,rfl,rfl,rfl⟩) λy _ hy=> ?_⟩;rw[qy];constructor
 all_goals
  rintro d rfl
  obtain⟨i0,i1,i2,i4,i5,i6,i7⟩:=hy;rw[bJ];refine⟨by simp only[ady];omega,?_⟩;rw[aN,bJ];refine⟨rfl,ay (aRG (ws d.1.2.1) (by omega) _ _ _ _ _ _ _ _ _ _) λd1 _ h1=> ?_⟩;rw[aN,bJ];refine⟨rfl,ay (aBu d.1.2.2.1 0 d.1.2.1 (by omega) i0 (by rw[i2];exact i1) _ _ _ _ _ _ _ _ _) λd2 _ h2=> ?_⟩;rw[av];have h2:d2.1=x.2.1.2.2.1-ws d.1.2.1:=by rw[h2,i2];simp only[Int.toNat_zero];omega
  refine⟨?_,λU p q=> ?_,i4,?_,ck (λz=>z.1) i5,ck (λz=>z.2.1) i5,ck (λz=>z.2.2.1) i5,ck (λz=>z.2.2.2.1) i5,λp q=> ?_⟩
  .show d1.1<=_;rw[h1];omega
  .show(if d.1.1>d.2.1.2.2 then d.1.1 else d.2.1.2.2)<=U;rw[i6,i7];split<;>assumption
  .show d2.1<=_;rw[h2];omega
  .have e:d.2.1.1.2.2.2.2=x.2.1.1.2.2.2.2:=ck (λz=>z.2.2.2.2) i5;have hw:wI (d.2.1.1.2.2.2.2+d.1.2.1)=x.2.1.1.2.2.2.2+d.1.2.1:=by rw[e];exact eF (by omega) (by omega)
   show 0<=wI (d.2.1.1.2.2.2.2+d.1.2.1)/\wI (d.2.1.1.2.2.2.2+d.1.2.1)+((d2.1:Nat):Int)=_;rw[hw,h2];omega
theorem aCR {x:Int}(h0: -1152921504606846976<=x)(h1:x<=1152921504606846976)(b:Bool):rG x b=some x:=by
 have e:xf x (-1152921504606846976) 1152921504606846976 b=some (wn x):=by
  simp only[xf,Kr,bS,cg];rw[dm (show ¬(-1152921504606846976:Int)>1152921504606846976 by omega),dm (show ¬x< -1152921504606846976 by omega),dm (show ¬x>1152921504606846976 by omega)];rfl
 simp only[rG,PG,cG,e,bL,aCN,mZ,cg]
theorem a0g {x:Int}(h0: -1152921504606846976<=x)(h1:x<=1152921504606846976)(n b:Bool):Bh x true n b=some (wn x):=by
 simp only[Bh,PH,bS,cG,cg,JP,bH,aCR h0 h1,bL]
theorem aF6 {a b d:Int}(a0: -1152921504606846976<=a)(a1:a<=1152921504606846976)(b0: -1152921504606846976<=b)(b1:b<=1152921504606846976)(d0: -1152921504606846976<=d)(d1:d<=1152921504606846976)(nz:d≠0)
  (q0: -1152921504606846976<=NL (a*b) d)(q1:NL (a*b) d<=1152921504606846976)(h:Bool):lu a b d h=some (NL (a*b) d):=by
 obtain⟨x,y,e,o,v⟩:=D8 a b (by omega) (by omega) (by omega) (by omega);have e2:=aIO x y d o (by omega) (by omega) nz;rw[v,if_pos ⟨by omega,by omega⟩] at e2;have z:(d==0)=false:=by rw[akG];exact nz
 simp only[lu,H2,Jv,TZ,cG,bS,cg,aCR a0 a1,aCR b0 b1,aCR d0 d1,bL,e,z,bH,e2,a0g q0 q1,aCN,mZ]
theorem a0h {n d m:Int}(h0:0<=n)(hd:0<d)(hm:0<=m)(h:n<=m*d):0<=qdq n d/\qdq n d<=m:=by
 have a:=axd n d;have b:=abd n (show d≠0 by omega);have c:=VG n hd;have q0:0<=n/d:=Ec h0 (by omega)
 have q1:n/d<=m:=by
  refine Int.le_of_lt_add_one (aa9 hd ?_);rw[afy,Int.one_mul];omega
 unfold qdq;split
 .omega
 .by_cases e:n/d=m
  .exfalso
   rw[e,AE d m] at a;omega
  .omega
theorem aS1 {n d m:Int}(hd:0<d)(hm:0<=m)(h0: -(m*d)<=n)(h1:n<=m*d): -m<=NL n d/\NL n d<=m:=by
 have e:ma d=d:=by unfold ma;split<;>omega
 have g:ma n<=m*d:=by unfold ma;split<;>omega
 obtain⟨p,q⟩:=a0h (aLf n) hd hm g;unfold NL;rw[e];split<;>omega
theorem aYD {a x d m:Int}(ha0: -m<=a)(ha1:a<=m)(x0:0<=x)(x1:x<=d): -(m*d)<=a*x/\a*x<=m*d:=by
 have m0:0<=m:=by omega
 have h1:a*x<=m*x:=apQ ha1 x0;have h2:m*x<=m*d:=Int.mul_le_mul_of_nonneg_left x1 m0;have h3: -m*x<=a*x:=apQ ha0 x0;rw[Int.neg_mul] at h3;omega
theorem aIQ (a b x d:Int)(h:Bool)(m:Int)(a0: -m<=a)(a1:a<=m)(b0: -m<=b)(b1:b<=m)(x0:0<=x)(x1:x<=d)(d0:0<d)(d1:d<=1000000000)(m1:m<=100000000000000):
  Ok (iu a b x d h) (λr:Int=> -(3*m)<=r/\r<=3*m):=by
 have e:wI (b-a)=b-a:=eF;obtain⟨p0,p1⟩:=aYD (a:=b-a) (m:=2*m) (by omega) (by omega) x0 x1;obtain⟨q0,q1⟩:=aS1 d0 (show 0<=2*m by omega) p0 p1;have k:=aF6 (a:=b-a) (b:=x) (d:=d) (by omega) (by omega) (by omega) (by omega) (by omega) (by omega) (by omega) (by omega) (by omega) h;have e2:wI (a+NL ((b-a)*x) d)=a+NL ((b-a)*x) d:=eF;unfold iu xW;show PQ _ _;rw[e,k,bT,av,e2];omega
theorem aUn (c0 c1 c2 c3 c4 c5 c6 i x:Int)(h:Bool)(g:∀c∈[c0,c1,c2,c3,c4,c5,c6], -9000<=c/\c<=9000)(i0:0<=i)(i1:i<=5)(x0:0<=x)(x1:x<=600000000):
  Ok (nj c0 c1 c2 c3 c4 c5 c6 i x h) (λr:Int=> -28991029248000<=r/\r<=28991029248000):=by
 have w:∀c∈[c0,c1,c2,c3,c4,c5,c6],wI (c*1073741824)=c*1073741824:=λc hc=>eF (by have:=g c hc;omega) (by have:=g c hc;omega)
 have z:wI (i+1)=i+1:=aY i0 (by omega);simp only[abe,List.not_mem_nil,or_false,forall_eq_or_imp,forall_eq] at w g;obtain⟨w0,w1,w2,w3,w4,w5,w6⟩:=w;obtain⟨g0,g1,g2,g3,g4,g5,g6⟩:=g;unfold nj xX;show PQ _ _;rw[w0,w1,w2,w3,w4,w5,w6,z];have r1:bb i 7=true:=by rw[bk];omega
 have r2:bb (i+1) 7=true:=by rw[bk];omega
 dsimp only;rw[r1,r2]
 repeat' (first
  |rw[aC]
  |(with_reducible refine ay (aIQ _ _ _ _ _ 9663676416000 ?_ ?_ ?_ ?_ ?_ ?_ ?_ ?_ ?_) λr _ hr=> ?_)
  |(rw[aK];refine⟨λc=> ?_,λc=> ?_⟩))
 all_goals first
  |(rw[av];omega)
  |omega
theorem aOK (x0 x1 x2:Int)(h:Bool):bn (pd x0 x1 x2 h):=by
 unfold pd Bi;refine aG ?_;dsimp only;rw[bE];intro d hd;rw[aK];refine⟨λ_=>by rw[av];trivial,λk=> ?_⟩;rw[afs] at k;obtain⟨a0,a1,b0,b1⟩:=ar3 hd k;clear hd k
 have ey0:wI (x1+1800000000)=x1+1800000000:=eF;have ey1:wI (x0+900000000)=x0+900000000:=eF;rw[ey0,ey1];have t0:t7 (x0+900000000) 450000000=(x0+900000000)/450000000:=aza (by omega);have t1:t7 (x1+1800000000) 600000000=(x1+1800000000)/600000000:=aza (by omega);rw[t0,t1,eF (n:=(x0+900000000)/450000000) (by omega) (by omega),eF (n:=(x1+1800000000)/600000000) (by omega) (by omega)];generalize hi:(if (3:Int)<(x0+900000000)/450000000 then(3:Int) else(x0+900000000)/450000000)=i
 generalize hj:(if (5:Int)<(x1+1800000000)/600000000 then(5:Int) else(x1+1800000000)/600000000)=j
 have hi':0<=i/\i<=3/\0<=x0+900000000-i*450000000/\x0+900000000-i*450000000<=450000000:=by
  split at hi<;>omega
 have hj':0<=j/\j<=5/\0<=x1+1800000000-j*600000000/\x1+1800000000-j*600000000<=600000000:=by
  split at hj<;>omega
 clear hi hj t0 t1 ey0 ey1
 obtain⟨i0,i1,u0,u1⟩:=hi';obtain⟨j0,j1,v0,v1⟩:=hj';rw[eF (n:=i*450000000) (by omega) (by omega),eF (n:=j*600000000) (by omega) (by omega),eF (n:=x0+900000000-i*450000000) (by omega) (by omega),eF (n:=x1+1800000000-j*600000000) (by omega) (by omega),aY i0 (by omega)];have r1:bb i 5=true:=by rw[bk];omega
 have r2:bb (i+1) 5=true:=by rw[bk];omega
 rw[r1,r2];generalize x0+900000000-i*450000000=u at u0 u1 ⊢
 generalize x1+1800000000-j*600000000=v at v0 v1 ⊢
 have fin:∀d:Int, -86973087744000<=d->d<=86973087744000->Ok (lu d 3373259426 19327352832000 h) (λ_=>True):=by
  intro d d0 d1;obtain⟨q0,q1⟩:=aS1 (n:=d*3373259426) (d:=19327352832000) (m:=1000000000000000) (by omega) (by omega) (by omega) (by omega);rw[aF6 (by omega) (by omega) (by omega) (by omega) (by omega) (by omega) (by omega) (by omega) (by omega) h];exact⟨_,rfl,trivial⟩
 rw[bE];intro _ _
 repeat' (first
  |rw[aC]
  |(with_reducible refine ay (aUn _ _ _ _ _ _ _ _ _ _ (by decide) j0 j1 v0 v1) λr _ hr=> ?_)
  |(with_reducible refine ay (aIQ _ _ _ _ _ 28991029248000 ?_ ?_ ?_ ?_ u0 u1 (by omega) (by omega) (by omega)) λs _ hs=> ?_)
  |(with_reducible refine ay (fin _ ?_ ?_) λt _ _=> ?_)
  |(rw[aK];refine⟨λc=> ?_,λc=> ?_⟩))
 all_goals first
  |(rw[av];trivial)
  |omega
instance aS2 (x:kU.B):bn (kV x):=by
 unfold kV uy;try dsimp only
 have t:=aOK;exact aG (by rw[bE];intro _ _;rw[av];trivial)
theorem aRJ (x:kg.B):Ok (kh x) (λr:Gf=>r.1.d.c.b.2.2=x.2.1.d.c.b.2.2/\r.1.c.1=x.2.1.c.1/\r.1.d.c.2.1=x.2.1.d.c.2.1):=by
 unfold kh Gg;try dsimp only
 show PQ _ _;simp only[aN]
 repeat' (first
  |rw[aC]
  |(with_reducible refine ay (afa _ ?_) λe _ he=> ?_)
  |(with_reducible refine ay (bn.Ok (aOK _ _ _ _) (Q:=λ_=>True) λ_ _=>trivial) λ_ _ _=> ?_)
  |(rw[uk];refine⟨λ_ _=> ?_,λ_ _=> ?_⟩)
  |(rw[bE];intro _ _)
  |(rw[aK];refine⟨λc=> ?_,λc=> ?_⟩))
 all_goals first
  |(rw[av];exact he.2)
  |(rw[av];exact⟨rfl,rfl,rfl⟩)
  |(dsimp only;omega)
theorem a0i (x:nI.B)(k:bb x.1.1 6=true)(h:x.2.1.d.c.b.2.2<=90000):Ok (nJ x) (λr:EU=>match r with|.inl e=>e.1.d.c.b.2.2<=x.2.1.d.c.b.2.2+3/\e.1.c.1=x.2.1.c.1/\e.1.d.c.2.1=x.2.1.d.c.2.1|.inr e=>e.1.1.d.c.b.2.2<=x.2.1.d.c.b.2.2+3/\e.1.1.c.1=x.2.1.c.1/\e.1.1.d.c.2.1=x.2.1.d.c.2.1):=by
 have hi:bb x.1.1 6=true:=k;unfold nJ Nq;try dsimp only
 show PQ _ _;simp only[aN,hi]
 repeat' (first
  |rw[aC]
  |(with_reducible refine ay (aYC _ ?_) λe _ he=> ?_)
  |(with_reducible refine ay (aF5 _ ?_) λe _ he=> ?_)
  |(with_reducible refine ay (aLn _) λe _ he=> ?_)
  |(with_reducible refine ay (aRJ _) λe _ he=> ?_)
  |(with_reducible refine ay (aLo _) λe _ he=> ?_)
  |(with_reducible refine ay (aYB _) λe _ he=> ?_)
  |(rw[uk];refine⟨λe0 e1=> ?_,λe0 e1=> ?_⟩)
  |(rw[bE];intro _ _)
  |(rw[aK];refine⟨λc=> ?_,λc=> ?_⟩))
 all_goals first
  |(dsimp only;omega)
  |(rw[av];exact⟨cq (Nat.le_of_eq he.1) (Nat.le_add_right _ _),he.2⟩)
  |(rw[av];exact⟨Nat.le_add_right _ _,rfl,rfl⟩)
  |(rw[e1] at he;rw[av];exact he)
  |(rw[e1] at he;rw[av];exact⟨cq he.1 (Nat.add_le_add_left (by decide) _),he.2⟩)
  |skip
theorem aLq (n:Int):∀(d:zn.B) (hd:0<=d.1.2.2.2.2/\d.1.2.2.2.2<=3/\d.1.2.1=n/\d.1.2.2.1=n/\0<=n/\n<=3),Ok (anV d) (λx:RN=>x.1.2.2.1=n):=
 bp (λd:zn.B=>ws (3-d.1.2.2.2.2)) (λd hd=>by
  have hw:wI (d.1.2.2.2.2+1)=d.1.2.2.2.2+1:=aY;obtain⟨c0,c1,i0,i1,i2,i3⟩:=hd;have w0:wI (0+d.1.2.1)=d.1.2.1:=by rw[aso];exact eF (by omega) (by omega)
  have w1:wI (10+d.1.2.2.2.2)=10+d.1.2.2.2.2:=eF;unfold anU;dsimp only;rw[w0,w1,hw];rw[aK];refine⟨λh=> ?_,λ_=>by rw[av];exact i1⟩;have h:=cQ h;have r0:bb d.1.2.2.2.2 3=true:=by rw[bk];omega
  have r1:bb d.1.2.1 24=true:=by rw[bk];omega
  have r2:bb (10+d.1.2.2.2.2) 24=true:=by rw[bk];omega
  have r3:(true&&wd (0+(ws d.1.2.1*24+ws (10+d.1.2.2.2.2))*1+1) 576)=true:=by rw[pw,bY];omega
  rw[r0,r1,r2,r3]
  repeat' (first
   |rw[aC]
   |(rw[aK];refine⟨λc=> ?_,λc=> ?_⟩)
   |(rw[bE];intro _ _))
  all_goals (rw[av];exact⟨⟨by show 0<=d.1.2.2.2.2+1;omega,by show d.1.2.2.2.2+1<=3;omega,i0,i1,i2,i3⟩,by show ws (3-(d.1.2.2.2.2+1))<_;omega⟩)) (λd hd=>by omega)
theorem aLr (n:Int):∀(d:zp.B) (hd:0<=d.1.2.2/\d.1.2.2<=3/\d.1.1=n/\d.1.2.1=n/\0<=n/\n<=2),Ok (anX d) (λx:RO=>x.1.1=n/\x.1.2.1=n):=
 bp (λd:zp.B=>ws (3-d.1.2.2)) (λd hd=>by
  have hw:wI (d.1.2.2+1)=d.1.2.2+1:=aY;obtain⟨c0,c1,i0,i1,i2,i3⟩:=hd;have w0:wI (4+d.1.1)=4+d.1.1:=eF;have w1:wI (13+d.1.2.2)=13+d.1.2.2:=eF;have w2:wI (3*d.1.1)=3*d.1.1:=eF;have w3:wI (3*d.1.1+d.1.2.2)=3*d.1.1+d.1.2.2:=eF;unfold anW;dsimp only;rw[w0,w1,w2,w3,hw];rw[aK];refine⟨λh=> ?_,λ_=>by rw[av];exact⟨i0,i1⟩⟩;have h:=cQ h;have r0:bb (3*d.1.1+d.1.2.2) 9=true:=by rw[bk];omega
  have r1:bb (4+d.1.1) 24=true:=by rw[bk];omega
  have r2:bb (13+d.1.2.2) 24=true:=by rw[bk];omega
  have r3:(true&&wd (0+(ws (4+d.1.1)*24+ws (13+d.1.2.2))*1+1) 576)=true:=by rw[pw,bY];omega
  rw[r0,r1,r2,r3]
  repeat' (first
   |rw[aC]
   |(rw[aK];refine⟨λc=> ?_,λc=> ?_⟩)
   |(rw[bE];intro _ _))
  all_goals (rw[av];exact⟨⟨by show 0<=d.1.2.2+1;omega,by show d.1.2.2+1<=3;omega,i0,i1,i2,i3⟩,by show ws (3-(d.1.2.2+1))<_;omega⟩)) (λd hd=>by omega)
theorem aLs:∀(d:zq.B) (hd:0<=d.1.2/\d.1.2<=4),Ok (anZ d) (λx:RP=>True):=
 bp (λd:zq.B=>ws (4-d.1.2)) (λd hd=>by
  have hw:wI (d.1.2+1)=d.1.2+1:=aY;obtain⟨c0,c1⟩:=hd;have w0:wI (0+d.1.2)=d.1.2:=by rw[aso];exact eF (by omega) (by omega)
  unfold anY;dsimp only;rw[w0];rw[aK];refine⟨λh=> ?_,λ_=>by rw[av];trivial⟩;have h:=cQ h;have r0:bb d.1.2 4=true:=by rw[bk];omega
  have r1:bb d.1.2 24=true:=by rw[bk];omega
  have r3:(true&&wd (0+ws d.1.2*24+4) 576)=true:=by rw[pw,bY];omega
  rw[r0,r1,r3]
  repeat' (first
   |rw[aC]
   |(rw[aK];refine⟨λc=> ?_,λc=> ?_⟩)
   |(with_reducible refine ay (aLq d.1.2 _ ⟨dg 0,(show(0:Int)<=3 by decide),rfl,rfl,c0,by omega⟩) λe _ he=> ?_))
  all_goals (rw[av,he,hw];exact⟨⟨by show 0<=d.1.2+1;omega,by show d.1.2+1<=4;omega⟩,by show ws (4-(d.1.2+1))<_;omega⟩)) (λd hd=>by omega)
theorem aLt:∀(d:zt.B) (hd:0<=d.1/\d.1<=3),Ok (an1 d) (λx:RQ=>True):=
 bp (λd:zt.B=>ws (3-d.1)) (λd hd=>by
  obtain⟨c0,c1⟩:=hd;have hw:wI (d.1+1)=d.1+1:=aY;have w0:wI (4+d.1)=4+d.1:=eF;have w1:wI (7+d.1)=7+d.1:=eF;unfold an0;dsimp only;rw[w0];rw[aK];refine⟨λh=> ?_,λ_=>by rw[av];trivial⟩;have h:=cQ h;have r0:bb d.1 3=true:=by rw[bk];omega
  have r1:bb (4+d.1) 24=true:=by rw[bk];omega
  have r2:bb (7+d.1) 24=true:=by rw[bk];omega
  have r3:(true&&wd (0+ws (4+d.1)*24+4) 576)=true:=by rw[pw,bY];omega
  have r4:(true&&wd (0+(ws (7+d.1)*24+ws (4+d.1))*1+1) 576)=true:=by rw[pw,bY];omega
  rw[r0,r1,r3]
  repeat' (first
   |rw[aC]
   |(with_reducible refine ay (aLr d.1 _ ⟨dg 0,(show(0:Int)<=3 by decide),rfl,rfl,c0,by omega⟩) λe _ he=> ?_)
   |(rw[he.1,he.2,w0,w1,hw,r1,r2,r4])
   |(rw[aK];refine⟨λc=> ?_,λc=> ?_⟩))
  all_goals (rw[av];exact⟨⟨by show 0<=d.1+1;omega,by show d.1+1<=3;omega⟩,by show ws (3-(d.1+1))<_;omega⟩)) (λd hd=>by omega)
instance a2U (x0:Nat->Int)(x1:Int)(x2:Int)(x3:Int)(x4:Int)(x5:Int)(x6:Int)(x7:Int)(x8:Int)(x9:Bool):bn (aey x0 x1 x2 x3 x4 x5 x6 x7 x8 x9):=by
 unfold aey ayv;try dsimp only
 refine aG ?_
 repeat' (first
  |(with_reducible refine ay (aLs _ ⟨dg 0,(show(0:Int)<=4 by decide)⟩) λe _ he=> ?_)
  |(with_reducible refine ay (aLt _ ⟨dg 0,(show(0:Int)<=3 by decide)⟩) λe _ he=> ?_)
  |(rw[bE];intro _ _))
 rw[av];trivial
instance a1q (x0:Nat->Int)(x1:Nat->Int)(x2:Nat->Int)(x3:Int)(x4:Int)(x5:Int)(x6:Int)(x7:Int)(x8:Int)(x9:Int)(gA:Int)(fX:Nat->Int)(BL:Bool):bn (K7 x0 x1 x2 x3 x4 x5 x6 x7 x8 x9 gA fX BL):=by
 unfold K7 an3;exact aG (by simp only[bM,qF])
theorem aOL (N:Nat)(hN:N<=1999)(x:od.B)(h:x.2.1.2.2<=N)(s:x.2.1.1<=(N:Int)):
  Ok (gh x) (λr:sx=>match r with|.inl e=>e.2.1=x.2.1|.inr e=>e.1.1.1=x.2.1.1/\e.1.1.2.2<=N/\x.2.1.2.2<=e.1.1.2.2/\e.1.1.2.2<=e.2.1):=by
 unfold gh Af;try dsimp only
 show PQ _ _;rw[aK];refine⟨λ_=>by rw[av],λh0=> ?_⟩;have hn:x.2.1.2.2≠0:=λe=>by rw[e] at h0;cases h0
 have w:wI (wl x.2.1.2.2-1)=wl (x.2.1.2.2-1):=by
  simp only[dO];rw[eF (by omega) (by omega)];omega
 have b1:bb (wl (x.2.1.2.2-1)) x.2.1.2.2=true:=by simp only[bk,dO];omega
 have b2:wd ((x.2.1.2.2+1)*88) 140737488355328=true:=by rw[bY];omega
 have b3:KI 1 (x.2.1.2.2+1)=true:=by simp only[ady];omega
 have b4:wd ((0+(x.2.1.2.2+1-1))*88) 140737488355328=true:=by rw[bY];omega
 rw[w,b1,b2,b3,b4]
 repeat' (first
  |rw[aC]
  |(rw[bE];intro _ _)
  |(rw[aK];refine⟨λc=> ?_,λc=> ?_⟩))
 all_goals first
  |(rw[av];exact⟨rfl,by show 0+(x.2.1.2.2+1-1)<=N;omega,by show x.2.1.2.2<=0+(x.2.1.2.2+1-1);omega,by show 0+(x.2.1.2.2+1-1)<=x.2.1.2.2+1-1;omega⟩)
  |(rw[av];have c:=kO c;simp only[dO] at c;exact⟨rfl,by show x.2.1.2.2+1<=N;omega,by show x.2.1.2.2<=x.2.1.2.2+1;omega,dq _⟩)
  |(rw[av])
theorem ah1 (N q q4:Nat)(q5:Int)(hN:N<=1999)(s:Int)(hs:s<=(N:Int)):∀(d:dJ.B) (hd:0<=d.1.2.2/\d.1.2.2<=d.1.2.1/\d.1.2.1<=1999/\d.1.2.1=((d.1.1:Nat):Int)/\d.d.c.1.2.2<=N/\d.d.c.1.1=s/\d.d.c.1.2.2<=d.e.c.2.1/\d.2.1.d.c.2.2=q/\d.2.1.c.1=q4/\d.2.1.d.b.2.1=q5),Ok (jm d) (λx:qM=>x.d.c.1.2.2<=N/\x.d.c.1.1=s/\x.d.c.1.2.2<=x.e.c.2.1/\x.2.1.d.c.2.2=q/\x.2.1.c.1=q4/\x.2.1.d.b.2.1=q5):=
 bp (λd:dJ.B=>ws (d.1.2.1-d.1.2.2)) (λd hd=>by
  obtain⟨i0,i1,i2,i3,i4,i5,i6,i7,i8,i9⟩:=hd;have hw:wI (d.1.2.2+1)=d.1.2.2+1:=aY;unfold Ev;dsimp only;rw[aK];refine⟨λh=> ?_,λ_=>by rw[av];exact⟨i4,i5,i6,i7,i8,i9⟩⟩;have h:=cQ h;have r0:bb d.1.2.2 d.1.1=true:=by rw[bk];omega
  rw[r0,hw,aN,aC,aC];with_reducible refine ay (aOL N hN _ ?_ ?_) λe _ he=> ?_
  .exact i4
  .show d.d.c.1.1<=(N:Int);omega
  rw[uk];refine⟨λa ha=> ?_,λa ha=> ?_⟩
  .rw[ha] at he;have he:a.2.1=d.d.c.1:=he;rw[av];exact⟨⟨by show 0<=d.1.2.2+1;omega,by show d.1.2.2+1<=d.1.2.1;omega,i2,i3,by show a.2.1.2.2<=N;rw[he];exact i4,by show a.2.1.1=s;rw[he];exact i5,by show a.2.1.2.2<=d.e.c.2.1;rw[he];exact i6,i7,i8,i9⟩,by show ws (d.1.2.1-(d.1.2.2+1))<_;omega⟩
  .rw[ha] at he;obtain⟨e1,e2,e3,e4⟩:=he;rw[av];exact⟨⟨by show 0<=d.1.2.2+1;omega,by show d.1.2.2+1<=d.1.2.1;omega,i2,i3,e2,e1.trans i5,e4,i7,i8,i9⟩,by show ws (d.1.2.1-(d.1.2.2+1))<_;omega⟩) (λd hd=>by omega)
theorem aUo (x:im.B):Ok (eJ x) (λr:xL=>r.1.1.1=x.2.1.1):=by
 unfold eJ qz;show PQ _ _;rw[bE];intro _ _;rw[av]
theorem aUp (N:Nat)(h1:1<=N)(hN:N<=1999)(x:fT.B)(hl:x.2.2.2.2.2.2.2.2.2.2.2.2.1.1<=(N:Int))(hq:x.2.1.2.2.2.2.1<=1999):Ok (ib x) (λr:pX=>match r with|.inl e=>e.2=x.2.2.2.2.2.2.2.2.2.2.2.2.1/\e.1.2.2.2.2.2.2.2.2.2.2.2.2.2.2.2.2=x.2.1.2.2.2.2.2.2.2.2.2.2.2.2.2.2.2.2/\e.1.2.2.2.2.1=x.2.1.2.2.2.2.1/\e.1.2.2.2.2.2.2.2.2.2.2.2.2.2.1=x.2.1.2.2.2.2.2.2.2.2.2.2.2.2.2.1|.inr e=>e.1.2.2.2<=N/\e.1.2.1=x.2.2.2.2.2.2.2.2.2.2.2.2.1.1/\e.1.2.2.2<=e.2.1/\e.1.1.2.2.2.2.2.2.2.2.2.2.2.2.2.2=x.2.1.2.2.2.2.2.2.2.2.2.2.2.2.2.2.2.2/\e.1.1.2.2.2.2.1=x.2.1.2.2.2.2.1/\e.1.1.2.2.2.2.2.2.2.2.2.2.2.1=x.2.1.2.2.2.2.2.2.2.2.2.2.2.2.2.1):=by
 unfold ib Az;try dsimp only
 show PQ _ _;simp only[aN]
 repeat' (first
  |rw[aC]
  |(with_reducible refine ay (aUo _) λe _ he=> ?_)
  |(with_reducible refine ay (ah1 N x.2.1.2.2.2.2.2.2.2.2.2.2.2.2.2.2.2.2 x.2.1.2.2.2.2.1 x.2.1.2.2.2.2.2.2.2.2.2.2.2.2.2.1 hN x.2.2.2.2.2.2.2.2.2.2.2.2.1.1 hl _ ?_) λe _ he=> ?_)
  |(rw[bE];intro _ _)
  |(rw[aK];refine⟨λc=> ?_,λc=> ?_⟩))
 all_goals first
  |(rw[av];exact⟨rfl,rfl,rfl,rfl⟩)
  |(rw[av];exact he)
  |(obtain⟨a,b,c,e⟩:=hdN x.2.1.2.2.2.2.1 hq
    exact⟨a,b,c,e,h1,he,dq _,rfl,rfl,rfl⟩)
  |skip
theorem P6 (n:Nat)(p:Int×Int×Nat):∀(d:dU.B) (hd:0<=d.1.2.2.2.2/\d.1.2.2.2.2<=d.1.2.2.2.1/\n<=1999/\d.1.2.2.2.1=(n:Int)/\d.1.2.2.1=n/\d.2.1=p/\d.1.2.1<(n:Int)),Ok (tE d) (λx:kj=>x.1.2.2.1=n/\x.2.1=p/\x.1.2.1<(n:Int)):=
 bp (λd:dU.B=>ws (d.1.2.2.2.1-d.1.2.2.2.2)) (λd hd=>by
  have hw:wI (d.1.2.2.2.2+1)=d.1.2.2.2.2+1:=aY;obtain⟨i0,i1,i2,i3,i4,i5,i6⟩:=hd;unfold tD;dsimp only;rw[aK];refine⟨λh=> ?_,λ_=>by rw[av];exact⟨i4,i5,i6⟩⟩;have h:=cQ h;have r0:bb d.1.2.2.2.2 d.1.2.2.1=true:=by rw[bk];omega
  rw[r0,hw,aC,aK];refine⟨λ_=> ?_,λ_=> ?_⟩
  .rw[av];exact⟨⟨by show 0<=d.1.2.2.2.2+1;omega,by show d.1.2.2.2.2+1<=d.1.2.2.2.1;omega,i2,i3,i4,i5,by show d.1.2.2.2.2<(n:Int);omega⟩,by show ws (d.1.2.2.2.1-(d.1.2.2.2.2+1))<_;omega⟩
  .rw[av];exact⟨⟨by show 0<=d.1.2.2.2.2+1;omega,by show d.1.2.2.2.2+1<=d.1.2.2.2.1;omega,i2,i3,i4,i5,i6⟩,by show ws (d.1.2.2.2.1-(d.1.2.2.2.2+1))<_;omega⟩) (λd hd=>by omega)
theorem P7 (d:eX.B)(h0:0<=d.1)(h1:d.1<4):Ok (nK d) (λx:gN=>x.1.1=d.1/\x.2.1=(d.2.1.1,d.2.1.2.2)/\x.b.2.1=d.b.2.1):=by
 have r0:bb d.1 4=true:=by rw[bk];omega
 unfold nK tF;try dsimp only
 show PQ _ _;rw[r0]
 repeat' (first
  |rw[aC]
  |(rw[bE];intro _ _)
  |(rw[aK];refine⟨λc=> ?_,λc=> ?_⟩))
 all_goals (rw[av];exact⟨rfl,rfl,rfl⟩)
theorem P8 (a:Int)(n:Nat)(v:Nat×(Nat->Int)×(Nat->Int)×(Nat->Int)×(Nat->Int)×(Nat->Int)×(Nat->Int)×(Nat->Int)×(Nat->Int)×(Nat->Int)×(Nat->Int)×(Nat->Int)):∀(d:dV.B) (hd:0<=d.1/\d.1<=4/\d.2.1.1=a/\d.2.1.2.2=n/\d.b.2.1=v),Ok (tH d) (λx:kl=>x.2.1.1=a/\x.2.1.2.2=n/\x.b.2.1=v):=
 bp (λd:dV.B=>ws (4-d.1)) (λd hd=>by
  have hw:wI (d.1+1)=d.1+1:=aY;obtain⟨i0,i1,i2,i3,i4⟩:=hd;unfold tG;dsimp only;rw[aK];refine⟨λh=> ?_,λ_=>by rw[av];exact⟨i2,i3,i4⟩⟩;have h:=cQ h;have r0:bb d.1 4=true:=by rw[bk];omega
  rw[r0]
  repeat' (first
   |rw[aC]
   |(with_reducible refine ay (P7 _ i0 h) λe _ he=> ?_)
   |(rw[aK];refine⟨λc=> ?_,λc=> ?_⟩))
  all_goals (obtain⟨e1,e2,e3⟩:=he;rw[av,e1,e2,hw];exact⟨⟨by show 0<=d.1+1;omega,by show d.1+1<=4;omega,i2,i3,e3.trans i4⟩,by show ws (4-(d.1+1))<_;omega⟩)) (λd hd=>by omega)
theorem aOM (x:lU.B)(h:x.2.1.2.2<=1999):Ok (lV x) (λr:vz=>r.b.1=x.2.1.2.2):=by
 unfold lV vC;try dsimp only
 show PQ _ _;rw[aN,aC];with_reducible refine ay (P6 x.2.1.2.2 x.2.1 _ ?_) λd _ hd=> ?_
 .exact⟨dg 0,by show(0:Int)<=wl x.2.1.2.2;simp only[dO];omega,h,rfl,rfl,rfl,by show(-1:Int)<_;omega⟩
 obtain⟨d1,d2,d3⟩:=hd;try dsimp only
 rw[aK];refine⟨λ_=>by rw[av];exact d1,λc=> ?_⟩;have c:=kO c;have r0:bb d.1.2.1 d.2.1.2.2=true:=by rw[bk,d2];omega
 rw[r0,aC];rw[bE];intro e1 _;rw[bE];intro e2 _;rw[bE];intro e3 _;rw[bE];intro e4 _;rw[bE];intro e5 _;with_reducible refine ay (P8 x.2.1.1 x.2.1.2.2 (d.1.b.1,d.b.2.1) _ ?_) λf _ hf=> ?_
 .exact⟨by show(0:Int)<=1;decide,by show(1:Int)<=4;decide,by show d.2.1.1=_;rw[d2],by show d.2.1.2.2=_;rw[d2],rfl⟩
 obtain⟨f1,f2,f3⟩:=hf;rw[bE];intro e6 _;rw[aN,aC];with_reducible refine ay (T6 _ ?_) λg _ hg=> ?_
 .show f.2.1.2.2<=1999;omega
 have hg:g.2.1=f.2.1.2.2:=hg;have fn:f.b.2.1.1=x.2.1.2.2:=by rw[f3];exact d1
 have b1:(true&&ww (g.2.1*11+0) (f.2.1.2.2*11)&&true)=true:=by rw[hg,kP,aN];rfl
 have b2:(true&&wd (0+(g.2.1*11+0)) (f.b.2.1.1*11+0))=true:=by rw[hg,fn,pw,bY];omega
 rw[b1,b2,aC,aC,av];exact fn
theorem aoC (a b c:Int):og a b c=some (decide (b<=a)&&decide (a<=c)):=by
 simp only[og,M9,bS,cg];by_cases h:b<=a<;>simp[h]
theorem aRK (w:mB.B):∀(d:mB.B) (hd:0<=d.1.2/\d.1.2<=24/\d.2=w.2/\∀j:Nat,(j:Int)<d.1.2->(0<=w.2.2.2.2.2.2.2.2.2.2.2.2.2.2.2.2.2.1 j/\w.2.2.2.2.2.2.2.2.2.2.2.2.2.2.2.2.2.1 j<=72057594037927936)/\1<=w.2.2.2.2.2.2.2.2.2.2.2.2.2.2.2.2.2.2.1 j/\w.2.2.2.2.2.2.2.2.2.2.2.2.2.2.2.2.2.2.1 j<=72057594037927936),Ok (IQ d) (λx:D7=>match x with|.inl _=>True|.inr e=>e.2=w.2/\∀j:Nat,j<24->(0<=w.2.2.2.2.2.2.2.2.2.2.2.2.2.2.2.2.2.1 j/\w.2.2.2.2.2.2.2.2.2.2.2.2.2.2.2.2.2.1 j<=72057594037927936)/\1<=w.2.2.2.2.2.2.2.2.2.2.2.2.2.2.2.2.2.2.1 j/\w.2.2.2.2.2.2.2.2.2.2.2.2.2.2.2.2.2.2.1 j<=72057594037927936):=
 bp (λd:mB.B=>ws (24-d.1.2)) (λd hd=>by
  have hw:wI (d.1.2+1)=d.1.2+1:=aY;obtain⟨i0,i1,i2,i3⟩:=hd;unfold QG;dsimp only;rw[aK];refine⟨λh=> ?_,λh=> ?_⟩
  .have h:=cQ h;have r0:bb d.1.2 24=true:=by rw[bk];omega
   have r1:wd (0+ws d.1.2*1+1) 24=true:=by rw[bY];omega
   rw[r0,r1,aC,aC,aoC,bT,aK];refine⟨λ_=>by rw[av];trivial,λc=> ?_⟩;rw[aC,aC,aoC,bT,aK];refine⟨λ_=>by rw[av];trivial,λc2=> ?_⟩;rw[afs,cx,lC,lC] at c c2;rw[av,hw];refine⟨⟨by show 0<=d.1.2+1;omega,by show d.1.2+1<=24;omega,i2,λj hj=> ?_⟩,by show ws (24-(d.1.2+1))<_;omega⟩;have hj:(j:Int)<d.1.2+1:=hj;by_cases e:(j:Int)<d.1.2
   .exact i3 j e
   .have e2:ws d.1.2=j:=by omega
    rw[e2,i2] at c c2;exact⟨c,c2⟩
  .have h:=kO h;rw[av];exact⟨i2,λj hj=>i3 j (by omega)⟩) (λd hd=>by omega)
structure aYE (x:FX.B):Prop where
 place:∃e,zb x.2.2.2.2.2.2.2.2.2.2.2.2.2.1 x.2.2.2.2.2.2.2.2.2.2.2.2.2.2.1 x.2.2.2.2.2.2.2.2.2.2.2.2.2.2.2=some (wn e)
 arr:∀j:Nat,j<24->(0<=x.2.2.2.2.2.2.1 j/\x.2.2.2.2.2.2.1 j<=72057594037927936)/\1<=x.2.2.2.2.2.2.2.1 j/\x.2.2.2.2.2.2.2.1 j<=72057594037927936
 nums:1000<=x.1/\x.1<=100000/\0<=x.2.1/\x.2.1<=300000/\1<=x.2.2.1/\x.2.2.1<=64/\0<=x.2.2.2.1/\x.2.2.2.1<=100/\0<=x.2.2.2.2.2.2.2.2.1/\x.2.2.2.2.2.2.2.2.1<=1099511627776/\1<=x.2.2.2.2.2.2.2.2.2.1/\x.2.2.2.2.2.2.2.2.2.1<=72057594037927936/\0<=x.2.2.2.2.2.2.2.2.2.2.1/\x.2.2.2.2.2.2.2.2.2.2.1<=3/\1<=x.2.2.2.2.2.2.2.2.2.2.2.1/\x.2.2.2.2.2.2.2.2.2.2.2.1<=1073741824/\1<=x.2.2.2.2.2.2.2.2.2.2.2.2.1/\x.2.2.2.2.2.2.2.2.2.2.2.2.1<=64/\1<=x.2.2.2.2.1.1/\x.2.2.2.2.1.1<=1000/\1<=x.2.2.2.2.1.2.1/\x.2.2.2.2.1.2.1<=1000/\1<=x.2.2.2.2.1.2.2.1/\x.2.2.2.2.1.2.2.1<=1000/\1<=x.2.2.2.2.1.2.2.2.1/\x.2.2.2.2.1.2.2.2.1<=1000/\1<=x.2.2.2.2.1.2.2.2.2.1/\x.2.2.2.2.1.2.2.2.2.1<=1000/\1<=x.2.2.2.2.1.2.2.2.2.2/\x.2.2.2.2.1.2.2.2.2.2<=1000/\1<=x.2.2.2.2.2.1.1/\x.2.2.2.2.2.1.1<=1099511627776/\1<=x.2.2.2.2.2.1.2.1/\x.2.2.2.2.2.1.2.1<=1099511627776/\1<=x.2.2.2.2.2.1.2.2.1/\x.2.2.2.2.2.1.2.2.1<=1099511627776/\1<=x.2.2.2.2.2.1.2.2.2.1/\x.2.2.2.2.2.1.2.2.2.1<=1099511627776/\1<=x.2.2.2.2.2.1.2.2.2.2.1/\x.2.2.2.2.2.1.2.2.2.2.1<=1099511627776/\1<=x.2.2.2.2.2.1.2.2.2.2.2/\x.2.2.2.2.2.1.2.2.2.2.2<=1099511627776
theorem aUq (x:FX.B):Ok (oY x) (λr:Bool=>r=true->aYE x):=by
 unfold oY aaE;try dsimp only
 show PQ _ _
 repeat' (first
  |(rw[aoC,bT])
  |(with_reducible refine ay (aRK _ _ ⟨dg 0,(show(0:Int)<=24 by decide),rfl,λj hj=>absurd hj (by show ¬(j:Int)<0;omega)⟩) λe _ he=> ?_)
  |(rw[qy];refine⟨λa ha=> ?_,λa ha=> ?_⟩)
  |(rw[uk];refine⟨λb hb=> ?_,λb hb=> ?_⟩)
  |(rw[bE];intro q hq)
  |(rw[aK];refine⟨λc=> ?_,λc=> ?_⟩<;>(try simp only[pn,afs,cx,lC,aa8] at c)))
 all_goals first
  |(rw[av];intro hr;exact absurd hr (by decide))
  |skip
 rw[ha] at he;obtain⟨e1,e2⟩:=he;obtain⟨a1,a2⟩:=a;have e1:a2=_:=e1;subst e1;rw[av];intro hr;have hr:=cQ hr;rw[hb] at hq;refine⟨⟨_,hq⟩,e2,?_⟩;dsimp only at*
 omega
theorem uh {δ:Type}{Q:δ->Prop}(x y:Pg δ):PQ (.ae false x y) Q=PQ y Q:=by unfold PQ;rw[Pg.bS];rfl
theorem aON (a:Int)(h:1000<=a)(k:a<=100000):uB a=some (wn a):=by
 have h1:decide (a<1000)=false:=dm (by omega);have h2:decide (a>100000)=false:=dm (by omega);unfold uB Jx;rw[h1,h2];rfl
theorem aRL (a:Int)(h:1<=a)(k:a<=64):Gi a=some (wn (a,λ_=>0)):=by
 have h1:decide (a<1)=false:=dm (by omega);have h2:decide (a>64)=false:=dm (by omega);unfold Gi YP;rw[h1,h2];rfl
theorem aLu (a b:Int)(h:1<=a)(k:a<=64)(h':1<=b)(k':b<=1073741824):Bj a b=some (wn ((a,b),λ_=>0)):=by
 have h1:decide (a<1)=false:=dm (by omega);have h2:decide (a>64)=false:=dm (by omega);have h3:decide (b<1)=false:=dm (by omega);have h4:decide (b>1073741824)=false:=dm (by omega);unfold Bj PU;rw[h1,h2,h3,h4];rfl
theorem aLv (T:Nat->Int)(hT:∀j:Nat,j<6->1<=T j/\T j<=1099511627776):∀(d:jB.B) (hd:0<=d.1.2.2.2/\d.1.2.2.2<=6/\d.1.2.1.1=6/\d.1.2.2.1=6/\d.2.1=T),Ok (C9 d) (λx:rH=>match x with|.inl _=>False|.inr _=>True):=
 bp (λd:jB.B=>ws (6-d.1.2.2.2)) (λd hd=>by
  obtain⟨i0,i1,i2,i3,i4⟩:=hd;have hw:wI (d.1.2.2.2+1)=d.1.2.2.2+1:=aY;unfold C8;dsimp only;rw[aK];refine⟨λh=> ?_,λ_=>by rw[av];trivial⟩;have h:=cQ h;have r0:bb d.1.2.2.2 d.1.2.1.1=true:=by rw[bk];omega
  have r1:bb d.1.2.2.2 6=true:=by rw[bk];omega
  have t:=hT (ws d.1.2.2.2) (by omega);have c1:decide (d.2.1 (ws d.1.2.2.2)<1)=false:=dm (by rw[i4];omega);have c2:decide (d.2.1 (ws d.1.2.2.2)>1099511627776)=false:=dm (by rw[i4];omega);have r2:(wd (0+ws d.1.2.2.2*6+6) 36&&wd (0+ws d.1.2.2.2*6+6) 37)=true:=by rw[cx,bY,bY];omega
  rw[r0,c1,c2,r1,r2,hw,aC,uh,uh,aC,aC,av];exact⟨⟨by show 0<=d.1.2.2.2+1;omega,by show d.1.2.2.2+1<=6;omega,i2,i3,i4⟩,by show ws (6-(d.1.2.2.2+1))<_;omega⟩) (λd hd=>by omega)
theorem aLw (m:Int)(T:Nat->Int)(w:Bool)(h:0<=m)(k:m<=100)(hT:∀j:Nat,j<6->1<=T j/\T j<=1099511627776):Ok (rI m 6 T w) (λr:wo=>∃e,r=wn e):=by
 have h1:decide (m<0)=false:=dm (by omega);have h2:decide (m>100)=false:=dm (by omega);unfold rI GX;show PQ _ _;rw[h1,h2,uh,uh,(show(wl 6!=6)=false from rfl),uh,aN,aC];refine ay (aLv T hT _ ⟨dg 0,(show(0:Int)<=6 by decide),rfl,rfl,rfl⟩) λy _ hy=> ?_;rw[qy];refine⟨λa ha=> ?_,λa ha=> ?_⟩
 .rw[ha] at hy;exact hy.elim
 .rw[av];exact⟨_,rfl⟩
theorem aOO (a b c:Int)(h:∃e,zb a b c=some (wn e)):Ok (DQ a b c) (λr:ym=>∃e,r=wn e):=by
 obtain⟨e,h⟩:=h;have g:(DQ a b c:Option ym)=zb a b c:=rfl;exact⟨wn e,g.trans h,e,rfl⟩
theorem a0j (x:Ks.B):Ok (Al x) (λr:PX=>match r with|.inl _=>True|.inr e=>1<=x.2.2.1/\x.2.2.1<=64/\1<=x.2.2.2.2.2.2.2.2.2.2.2.2.1/\x.2.2.2.2.2.2.2.2.2.2.2.2.1<=64/\e.2.2.2.2.1=x.2.2.1/\e.2.2.2.2.2.1=x.2.2.1/\e.2.2.2.2.2.2.1=x.2.2.1/\e.2.2.2.2.2.2.2.1=x.2.2.1/\e.2.2.2.2.2.2.2.2.1=x.2.2.1/\e.2.2.2.2.2.2.2.2.2.1=x.2.2.1/\e.2.2.2.2.2.2.2.2.2.2.2.1.1=x.2.2.2.2.2.2.2.2.2.2.2.2.1):=by
 unfold Al YQ;try dsimp only
 show PQ _ _;refine ay (aUq x) λr _ hr=> ?_;rw[aK];refine⟨λ_=>by rw[av];trivial,λc=> ?_⟩;have cc:aYE x:=hr (by simpa using c);have n:=cc.nums
 have hT:∀j:Nat,j<6->1<=(bif ww j 5 then x.2.2.2.2.2.1.2.2.2.2.2 else bif ww j 4 then x.2.2.2.2.2.1.2.2.2.2.1 else bif ww j 3 then x.2.2.2.2.2.1.2.2.2.1 else bif ww j 2 then x.2.2.2.2.2.1.2.2.1 else bif ww j 1 then x.2.2.2.2.2.1.2.1 else bif ww j 0 then x.2.2.2.2.2.1.1 else x.2.2.2.2.2.1.1)/\(bif ww j 5 then x.2.2.2.2.2.1.2.2.2.2.2 else bif ww j 4 then x.2.2.2.2.2.1.2.2.2.2.1 else bif ww j 3 then x.2.2.2.2.2.1.2.2.2.1 else bif ww j 2 then x.2.2.2.2.2.1.2.2.1 else bif ww j 1 then x.2.2.2.2.2.1.2.1 else bif ww j 0 then x.2.2.2.2.2.1.1 else x.2.2.2.2.2.1.1)<=1099511627776:=by
  intro j hj;have e:j=0∨j=1∨j=2∨j=3∨j=4∨j=5:=by omega
  rcases e with rfl|rfl|rfl|rfl|rfl|rfl
  .exact⟨by show 1<=x.2.2.2.2.2.1.1;omega,by show x.2.2.2.2.2.1.1<=1099511627776;omega⟩
  .exact⟨by show 1<=x.2.2.2.2.2.1.2.1;omega,by show x.2.2.2.2.2.1.2.1<=1099511627776;omega⟩
  .exact⟨by show 1<=x.2.2.2.2.2.1.2.2.1;omega,by show x.2.2.2.2.2.1.2.2.1<=1099511627776;omega⟩
  .exact⟨by show 1<=x.2.2.2.2.2.1.2.2.2.1;omega,by show x.2.2.2.2.2.1.2.2.2.1<=1099511627776;omega⟩
  .exact⟨by show 1<=x.2.2.2.2.2.1.2.2.2.2.1;omega,by show x.2.2.2.2.2.1.2.2.2.2.1<=1099511627776;omega⟩
  .exact⟨by show 1<=x.2.2.2.2.2.1.2.2.2.2.2;omega,by show x.2.2.2.2.2.1.2.2.2.2.2<=1099511627776;omega⟩
 rw[bE];intro _ _;rw[bE];intro _ _;rw[bE];intro _ _;refine ay (aOO _ _ _ cc.place) λf _ hf=> ?_;obtain⟨f,rfl⟩:=hf;rw[uk];refine⟨λ_ h=>(nomatch h),λf hf=> ?_⟩;rw[aON _ (by omega) (by omega),bT,uk];refine⟨λ_ h=>(nomatch h),λg hg=> ?_⟩;refine ay (aLw _ _ _ (by omega) (by omega) hT) λh _ hh=> ?_;obtain⟨h,rfl⟩:=hh;rw[uk];refine⟨λ_ h=>(nomatch h),λf hf=> ?_⟩;rw[aLu _ _ (by omega) (by omega) (by omega) (by omega),bT,uk];refine⟨λ_ h=>(nomatch h),λp hp=> ?_⟩;rw[aRL _ (by omega) (by omega)];rw[bT,uk];refine⟨λ_ h=>(nomatch h),λb0 QW=> ?_⟩;cases QW;rw[bT,uk];refine⟨λ_ h=>(nomatch h),λb1 hb1=> ?_⟩;cases hb1;rw[bT,uk];refine⟨λ_ h=>(nomatch h),λb2 Fb=> ?_⟩;cases Fb;rw[bT,uk];refine⟨λ_ h=>(nomatch h),λb3 hb3=> ?_⟩;cases hb3;rw[bT,uk];refine⟨λ_ h=>(nomatch h),λb4 hb4=> ?_⟩;cases hb4;rw[bT,uk];refine⟨λ_ h=>(nomatch h),λb5 hb5=> ?_⟩;cases hb5;cases hp;rw[av];refine⟨by omega,by omega,by omega,by omega,rfl,rfl,rfl,rfl,rfl,rfl,rfl⟩
theorem aUr (J:Int)(w:bQ.B):∀(d:bQ.B) (hd:0<=d.1.2.2.2.2/\d.1.2.2.2.2<=d.1.2.2.2.1/\d.1.2.2.2.1=((d.1.2.2.1:Nat):Int)/\d.1.2.2.2.1<=64/\((d.2.1.2.2.2.2.2.2.2.2.2.2.2.2.2.2.2.2:Nat):Int)+3*(d.1.2.2.2.1-d.1.2.2.2.2)<=J/\J<=90000/\bb d.1.1 6=true/\d.1.2.1=w.1.2.1/\d.2.2.2.2.2.1=w.2.2.2.2.2.1/\d.2.2.2.2.2.2.1=w.2.2.2.2.2.2.1/\d.2.2.2.2.2.2.2.1=w.2.2.2.2.2.2.2.1/\d.2.2.2.2.2.2.2.2.1=w.2.2.2.2.2.2.2.2.1/\d.2.2.2.2.2.2.2.2.2.1=w.2.2.2.2.2.2.2.2.2.1/\d.2.2.2.2.2.2.2.2.2.2.1=w.2.2.2.2.2.2.2.2.2.2.1/\d.2.2.2.2.2.2.2.2.2.2.2.2.1=w.2.2.2.2.2.2.2.2.2.2.2.2.1/\d.2.2.2.2.2.2.2.2.2.2.2.2.2.2.2.2.2.2.2.2.2.2.2.1=w.2.2.2.2.2.2.2.2.2.2.2.2.2.2.2.2.2.2.2.2.2.2.2.1/\d.2.1.2.2.2.2.1=w.2.1.2.2.2.2.1/\d.2.1.2.2.2.2.2.2.2.2.2.2.2.2.2.1=w.2.1.2.2.2.2.2.2.2.2.2.2.2.2.2.1/\d.2.2.2.2.2.2.2.2.2.2.2.2.2.2.1=w.2.2.2.2.2.2.2.2.2.2.2.2.2.2.1),Ok (gx d) (λx:iK=>((x.2.1.2.2.2.2.2.2.2.2.2.2.2.2.2.2.2.2:Nat):Int)<=J/\x.1.2.1=w.1.2.1/\x.2.2.2.2.2.1=w.2.2.2.2.2.1/\x.2.2.2.2.2.2.1=w.2.2.2.2.2.2.1/\x.2.2.2.2.2.2.2.1=w.2.2.2.2.2.2.2.1/\x.2.2.2.2.2.2.2.2.1=w.2.2.2.2.2.2.2.2.1/\x.2.2.2.2.2.2.2.2.2.1=w.2.2.2.2.2.2.2.2.2.1/\x.2.2.2.2.2.2.2.2.2.2.1=w.2.2.2.2.2.2.2.2.2.2.1/\x.2.2.2.2.2.2.2.2.2.2.2.2.1=w.2.2.2.2.2.2.2.2.2.2.2.2.1/\x.2.2.2.2.2.2.2.2.2.2.2.2.2.2.2.2.2.2.2.2.2.2.2.1=w.2.2.2.2.2.2.2.2.2.2.2.2.2.2.2.2.2.2.2.2.2.2.2.1/\x.2.1.2.2.2.2.1=w.2.1.2.2.2.2.1/\x.2.1.2.2.2.2.2.2.2.2.2.2.2.2.2.1=w.2.1.2.2.2.2.2.2.2.2.2.2.2.2.2.1/\x.2.2.2.2.2.2.2.2.2.2.2.2.2.2.1=w.2.2.2.2.2.2.2.2.2.2.2.2.2.2.1):=
 bp (λd:bQ.B=>ws (d.1.2.2.2.1-d.1.2.2.2.2)) (λd hd=>by
  obtain⟨i0,i1,i2,i3,i4,i5,i6,i7,ik⟩:=hd;have hw:wI (d.1.2.2.2.2+1)=d.1.2.2.2.2+1:=aY;unfold tI;dsimp only;rw[aK];refine⟨λh=> ?_,λ_=>by rw[av];exact⟨by show((d.2.1.2.2.2.2.2.2.2.2.2.2.2.2.2.2.2.2:Nat):Int)<=J;omega,i7,ik⟩⟩;have h:=cQ h;have r0:bb d.1.2.2.2.2 d.1.2.2.1=true:=by rw[bk];omega
  rw[r0,hw];simp only[aN]
  repeat' (first
   |rw[aC]
   |(with_reducible refine ay (a0i _ ?_ ?_) λe _ he=> ?_)
   |(rw[uk];refine⟨λa ha=> ?_,λa ha=> ?_⟩))
  .exact i6
  .show d.2.1.2.2.2.2.2.2.2.2.2.2.2.2.2.2.2.2<=90000;omega
  .rw[ha] at he;have he:a.1.2.2.2.2.2.2.2.2.2.2.2.2.2.2.2.2<=d.2.1.2.2.2.2.2.2.2.2.2.2.2.2.2.2.2.2+3/\a.1.2.2.2.2.1=d.2.1.2.2.2.2.1/\a.1.2.2.2.2.2.2.2.2.2.2.2.2.2.1=d.2.1.2.2.2.2.2.2.2.2.2.2.2.2.2.1:=he;rw[av];exact⟨⟨by show 0<=d.1.2.2.2.2+1;omega,by show d.1.2.2.2.2+1<=d.1.2.2.2.1;omega,i2,i3,by show((a.1.2.2.2.2.2.2.2.2.2.2.2.2.2.2.2.2:Nat):Int)+3*(d.1.2.2.2.1-(d.1.2.2.2.2+1))<=J;omega,i5,i6,i7,ik.1,ik.2.1,ik.2.2.1,ik.2.2.2.1,ik.2.2.2.2.1,ik.2.2.2.2.2.1,ik.2.2.2.2.2.2.1,ik.2.2.2.2.2.2.2.1,he.2.1.trans ik.2.2.2.2.2.2.2.2.1,he.2.2.trans ik.2.2.2.2.2.2.2.2.2.1,ik.2.2.2.2.2.2.2.2.2.2⟩,by show ws (d.1.2.2.2.1-(d.1.2.2.2.2+1))<_;omega⟩
  .rw[ha] at he;have he:a.1.1.2.2.2.2.2.2.2.2.2.2.2.2.2.2.2.2<=d.2.1.2.2.2.2.2.2.2.2.2.2.2.2.2.2.2.2+3/\a.1.1.2.2.2.2.1=d.2.1.2.2.2.2.1/\a.1.1.2.2.2.2.2.2.2.2.2.2.2.2.2.1=d.2.1.2.2.2.2.2.2.2.2.2.2.2.2.2.1:=he;rw[av];exact⟨⟨by show 0<=d.1.2.2.2.2+1;omega,by show d.1.2.2.2.2+1<=d.1.2.2.2.1;omega,i2,i3,by show((a.1.1.2.2.2.2.2.2.2.2.2.2.2.2.2.2.2.2:Nat):Int)+3*(d.1.2.2.2.1-(d.1.2.2.2.2+1))<=J;omega,i5,i6,i7,ik.1,ik.2.1,ik.2.2.1,ik.2.2.2.1,ik.2.2.2.2.1,ik.2.2.2.2.2.1,ik.2.2.2.2.2.2.1,ik.2.2.2.2.2.2.2.1,he.2.1.trans ik.2.2.2.2.2.2.2.2.1,he.2.2.trans ik.2.2.2.2.2.2.2.2.2.1,ik.2.2.2.2.2.2.2.2.2.2⟩,by show ws (d.1.2.2.2.1-(d.1.2.2.2.2+1))<_;omega⟩) (λd hd=>by omega)
theorem a0k (d:bQ.B)(a:d.1.2.2.2.2=0)(b:d.1.2.2.2.1=((d.1.2.2.1:Nat):Int))(c:d.1.2.2.1<=64)(k:bb d.1.1 6=true)(j:d.2.1.2.2.2.2.2.2.2.2.2.2.2.2.2.2.2.2<=80000):Ok (gx d) (λx:iK=>x.2.1.2.2.2.2.2.2.2.2.2.2.2.2.2.2.2.2<=d.2.1.2.2.2.2.2.2.2.2.2.2.2.2.2.2.2.2+3*d.1.2.2.1/\x.1.2.1=d.1.2.1/\x.2.2.2.2.2.1=d.2.2.2.2.2.1/\x.2.2.2.2.2.2.1=d.2.2.2.2.2.2.1/\x.2.2.2.2.2.2.2.1=d.2.2.2.2.2.2.2.1/\x.2.2.2.2.2.2.2.2.1=d.2.2.2.2.2.2.2.2.1/\x.2.2.2.2.2.2.2.2.2.1=d.2.2.2.2.2.2.2.2.2.1/\x.2.2.2.2.2.2.2.2.2.2.1=d.2.2.2.2.2.2.2.2.2.2.1/\x.2.2.2.2.2.2.2.2.2.2.2.2.1=d.2.2.2.2.2.2.2.2.2.2.2.2.1/\x.2.2.2.2.2.2.2.2.2.2.2.2.2.2.2.2.2.2.2.2.2.2.2.1=d.2.2.2.2.2.2.2.2.2.2.2.2.2.2.2.2.2.2.2.2.2.2.2.1/\x.2.1.2.2.2.2.1=d.2.1.2.2.2.2.1/\x.2.1.2.2.2.2.2.2.2.2.2.2.2.2.2.1=d.2.1.2.2.2.2.2.2.2.2.2.2.2.2.2.1/\x.2.2.2.2.2.2.2.2.2.2.2.2.2.2.1=d.2.2.2.2.2.2.2.2.2.2.2.2.2.2.1):=
 Ok.mono (aUr (((d.2.1.2.2.2.2.2.2.2.2.2.2.2.2.2.2.2.2:Nat):Int)+3*d.1.2.2.2.1) d d ⟨by omega,by omega,b,by omega,by omega,by omega,k,rfl,rfl,rfl,rfl,rfl,rfl,rfl,rfl,rfl,rfl,rfl,rfl⟩) λx hx=>⟨by have h:=hx.1;omega,hx.2⟩
theorem aUs (w d:cL.B)(W5:w.c.2.1.b.1<=64)(W6:w.c.b.1.b.1<=64)(W7:w.c.b.2.1.b.1<=64)(W8:w.d.1.b.1<=64)(W9:w.d.2.1.b.1<=64)(W10:w.d.b.1.b.1<=64)(hd:0<=d.1/\d.1<=6/\((d.2.1.d.c.b.2.2:Nat):Int)+192*(6-d.1)<=1152/\BR w.d.c.b.1.1 w.c.2.1 d.c.2.1/\BR w.d.c.b.1.1 w.c.b.1 d.c.b.1/\BR w.d.c.b.1.1 w.c.b.2.1 d.c.b.2.1/\BR w.d.c.b.1.1 w.d.1 d.d.1/\BR w.d.c.b.1.1 w.d.2.1 d.d.2.1/\BR w.d.c.b.1.1 w.d.b.1 d.d.b.1/\d.d.c.1=w.d.c.1/\d.e.c.b.1=w.e.c.b.1/\d.2.1.c.1=w.2.1.c.1/\d.2.1.d.c.2.1=w.2.1.d.c.2.1/\d.d.c.b.1.1=w.d.c.b.1.1):Ok (iM d) (λx:mQ=>x.2.1.d.c.b.2.2<=1152/\BR w.d.c.b.1.1 w.c.2.1 x.c.2.1/\BR w.d.c.b.1.1 w.c.b.1 x.c.b.1/\BR w.d.c.b.1.1 w.c.b.2.1 x.c.b.2.1/\BR w.d.c.b.1.1 w.d.1 x.d.1/\BR w.d.c.b.1.1 w.d.2.1 x.d.2.1/\BR w.d.c.b.1.1 w.d.b.1 x.d.b.1/\x.d.c.1=w.d.c.1/\x.e.c.b.1=w.e.c.b.1/\x.2.1.c.1=w.2.1.c.1/\x.2.1.d.c.2.1=w.2.1.d.c.2.1):=by
 revert d
 exact bp (λd:cL.B=>ws (6-d.1)) (λd hd=>by
  obtain⟨i0,i1,i2,s5,s6,s7,s8,s9,Zl,i12,i22,i4,it,i14⟩:=hd;have hw:wI (d.1+1)=d.1+1:=aY;unfold tK;dsimp only;rw[aK];refine⟨λh=> ?_,λ_=>by rw[av];exact⟨by show d.2.1.d.c.b.2.2<=1152;omega,s5,s6,s7,s8,s9,Zl,i12,i22,i4,it⟩⟩;have h:=cQ h;have r0:bb d.1 6=true:=by rw[bk];omega
  rw[r0];simp only[aN]
  repeat' (first
   |rw[aC]
   |(with_reducible refine ay (aIP _ ?_) λe _ he=> ?_)
   |(with_reducible refine ay (a0k _ ?_ ?_ ?_ ?_ ?_) λy _ hy=> ?_)
   |(rw[aK];refine⟨λc=> ?_,λc=> ?_⟩))
  all_goals first
   |(rw[av]
     obtain⟨p1,p2⟩:=he;have p2:=BR.mono (Int.le_of_eq i14) p2;obtain⟨y1,y2,hb5,hb6,hb7,hb8,hb9,a3I,h12,h23,h4,ht,hh⟩:=hy;have p1':e.1<=64:=by first|exact cq p1 (cq s5.len W5)|exact cq p1 (cq s6.len W6)|exact cq p1 (cq s7.len W7)|exact cq p1 (cq s8.len W8)|exact cq p1 (cq s9.len W9)|exact cq p1 (cq Zl.len W10)
     have y2:y.1.2.1=d.1:=y2;have y1:y.2.1.d.c.b.2.2<=d.2.1.d.c.b.2.2+3*e.1:=y1;have hw':wI (y.1.2.1+1)=d.1+1:=by rw[y2];exact hw
     exact⟨⟨by show 0<=wI (y.1.2.1+1);omega,by show wI (y.1.2.1+1)<=6;omega,by show((y.2.1.d.c.b.2.2:Nat):Int)+192*(6-wI (y.1.2.1+1))<=1152;omega,
    (by rw[show y.c.2.1=_ from hb5];first|exact s5|exact s5.trans p2),
    (by rw[show y.c.b.1=_ from hb6];first|exact s6|exact s6.trans p2),
    (by rw[show y.c.b.2.1=_ from hb7];first|exact s7|exact s7.trans p2),
    (by rw[show y.d.1=_ from hb8];first|exact s8|exact s8.trans p2),
    (by rw[show y.d.2.1=_ from hb9];first|exact s9|exact s9.trans p2),
    (by rw[show y.d.b.1=_ from a3I];first|exact Zl|exact Zl.trans p2),
    h12.trans i12,h23.trans i22,h4.trans i4,ht.trans it,(ck (λz=>z.1) hh).trans i14⟩,by show ws (6-wI (y.1.2.1+1))<_;omega⟩)
   |rfl
   |exact r0
   |(show d.2.1.d.c.b.2.2<=80000
     omega)
   |(obtain⟨p1,p2⟩:=he
     first|exact cq p1 (cq s5.len W5)|exact cq p1 (cq s6.len W6)|exact cq p1 (cq s7.len W7)|exact cq p1 (cq s8.len W8)|exact cq p1 (cq s9.len W9)|exact cq p1 (cq Zl.len W10))
   |exact cq s5.len (cq W5 (by decide))
   |exact cq s6.len (cq W6 (by decide))
   |exact cq s7.len (cq W7 (by decide))
   |exact cq s8.len (cq W8 (by decide))
   |exact cq s9.len (cq W9 (by decide))
   |exact cq Zl.len (cq W10 (by decide))) (λd hd=>by omega)
theorem aUt (w:cA.B):∀(d:cA.B) (hd:0<=d.1/\d.1<=6/\d.2.1=w.2.1/\d.c.2.1=w.c.2.1/\d.c.b.1=w.c.b.1/\d.c.b.2.1=w.c.b.2.1/\d.d.1=w.d.1/\d.d.2.1=w.d.2.1/\d.d.b.1=w.d.b.1/\d.d.c.1=w.d.c.1/\d.e.c.b.2.1=w.e.c.b.2.1),Ok (iL d) (λx:mP=>x.2.1=w.2.1/\x.c.2.1=w.c.2.1/\x.c.b.1=w.c.b.1/\x.c.b.2.1=w.c.b.2.1/\x.d.1=w.d.1/\x.d.2.1=w.d.2.1/\x.d.b.1=w.d.b.1/\x.d.c.1=w.d.c.1/\x.e.c.b.2.1=w.e.c.b.2.1):=
 bp (λd:cA.B=>ws (6-d.1)) (λd hd=>by
  obtain⟨i0,i1,ik⟩:=hd;have hw:wI (d.1+1)=d.1+1:=aY;unfold tJ;dsimp only;rw[aK];refine⟨λh=> ?_,λ_=>by rw[av];exact ik⟩;have h:=cQ h;have r0:bb d.1 6=true:=by rw[bk];omega
  rw[r0,hw,bE];intro _ _;rw[aC]
  repeat' (first
   |(rw[aK];refine⟨λc=> ?_,λc=> ?_⟩))
  all_goals
   rw[av];exact⟨⟨by show 0<=d.1+1;omega,by show d.1+1<=6;omega,ik⟩,by show ws (6-(d.1+1))<_;omega⟩) (λd hd=>by omega)
theorem aS3 (d:dE.B)(h:d.d.b.2.1.2.2<=1999)(k:d.d.b.2.1.2.2<=d.e.c.2.1):Ok (fw d) (λx:km=>match x with|.inl e=>e.c.2.1=d.c.1/\e.c.b.1=d.c.2.1/\e.c.b.2.1=d.c.b.1/\e.d.1=d.c.b.2.1/\e.d.2.1=d.d.1/\e.d.b.1=d.d.2.1/\e.d.c.1=d.d.b.2.1/\e.2.1.b.2.1=d.1.c.1/\e.2.1.d.b.2.1=d.1.d.c.2.1|.inr e=>e.c.2.1=d.c.1/\e.c.b.1=d.c.2.1/\e.c.b.2.1=d.c.b.1/\e.d.1=d.c.b.2.1/\e.d.2.1=d.d.1/\e.d.b.1=d.d.2.1/\e.d.c.1=d.d.b.2.1/\e.2.1.c.1=d.1.c.1/\e.2.1.d.c.1=d.1.d.c.2.1):=by
 unfold fw zw;try dsimp only
 show PQ _ _;rw[aK];refine⟨λ_=> ?_,λ_=>by rw[av];exact⟨rfl,rfl,rfl,rfl,rfl,rfl,rfl,rfl,rfl⟩⟩;rw[aN,aC];with_reducible refine ay (aOM _ ?_) λe _ he=> ?_
 .exact h
 have he:e.b.1=d.d.b.2.1.2.2:=he;have b1:(true&&ww (e.b.1*11+0) (d.d.b.2.1.2.2*11)&&true)=true:=by rw[he,kP,aN];rfl
 have b2:(true&&wd (0+(e.b.1*11+0)) (d.e.c.2.1*11+0))=true:=by rw[he,pw,bY];omega
 try dsimp only
 rw[b1,b2,aC,aC,av];exact⟨rfl,rfl,rfl,rfl,rfl,rfl,rfl,rfl,rfl⟩
theorem aS4 (d:dF.B)(j:d.1.2.2.2.2.2.2.2.2.2.2.2.2.2.2.2.2<=1800)(h:d.2.2.2.2.2.2.2.2.2.2.2.1.2.2<=1999)(k:d.2.2.2.2.2.2.2.2.2.2.2.1.2.2<=d.2.2.2.2.2.2.2.2.2.2.2.2.2.2.2.2.2.2.2.2.2.2.1):Ok (eD d) (λx:kn=>match x with|.inl e=>e.2.2.2.2.2.1=d.2.2.2.2.1/\e.2.2.2.2.2.2.1=d.2.2.2.2.2.1/\e.2.2.2.2.2.2.2.1=d.2.2.2.2.2.2.1/\e.2.2.2.2.2.2.2.2.1=d.2.2.2.2.2.2.2.1/\e.2.2.2.2.2.2.2.2.2.1=d.2.2.2.2.2.2.2.2.1/\e.2.2.2.2.2.2.2.2.2.2.1=d.2.2.2.2.2.2.2.2.2.1/\e.2.2.2.2.2.2.2.2.2.2.2.2.1=d.2.2.2.2.2.2.2.2.2.2.2.1/\e.2.1.2.2.2.1=d.1.2.2.2.2.1/\e.2.1.2.2.2.2.2.2.2.2.2.2.2.1=d.1.2.2.2.2.2.2.2.2.2.2.2.2.2.1|.inr e=>e.2.2.2.2.2.1=d.2.2.2.2.1/\e.2.2.2.2.2.2.1=d.2.2.2.2.2.1/\e.2.2.2.2.2.2.2.1=d.2.2.2.2.2.2.1/\e.2.2.2.2.2.2.2.2.1=d.2.2.2.2.2.2.2.1/\e.2.2.2.2.2.2.2.2.2.1=d.2.2.2.2.2.2.2.2.1/\e.2.2.2.2.2.2.2.2.2.2.1=d.2.2.2.2.2.2.2.2.2.1/\e.2.2.2.2.2.2.2.2.2.2.2.2.1=d.2.2.2.2.2.2.2.2.2.2.2.1/\e.2.1.2.2.2.2.1=d.1.2.2.2.2.1/\e.2.1.2.2.2.2.2.2.2.2.2.2.2.2.1=d.1.2.2.2.2.2.2.2.2.2.2.2.2.2.1):=by
 unfold eD tL;try dsimp only
 show PQ _ _;simp only[aN];have b3:wd ((1+d.1.2.2.2.2.2.2.2.2.2.2.2.2.2.2.2.2)*80) 140737488355328=true:=by rw[bY];omega
 rw[bE];intro _ _;rw[aK];refine⟨λ_=> ?_,λ_=> ?_⟩
 .rw[aC,aC];with_reducible refine ay (aUl _ ?_ ?_) λe _ he=> ?_
  .show d.1.2.2.2.2.2.2.2.2.2.2.2.2.2.2.2.2<=1999;omega
  .exact h
  have he:e.2.1=d.2.2.2.2.2.2.2.2.2.2.2.1.2.2:=he;have b1:(true&&ww (e.2.1*11+0) (d.2.2.2.2.2.2.2.2.2.2.2.1.2.2*11)&&true)=true:=by rw[he,kP,aN];rfl
  have b2:(true&&wd (0+(e.2.1*11+0)) (d.2.2.2.2.2.2.2.2.2.2.2.2.2.2.2.2.2.2.2.2.2.2.1*11+0))=true:=by rw[he,pw,bY];omega
  rw[b1,b2,b3,aC,aC,aC,aC];with_reducible refine ay (bn.Ok (Q:=λ_=>True) (aHl _ _ _ _ _ _ _ _ _ _ _ _ _ ?_) λ_ _=>trivial) λe3 _ _=> ?_
  .omega
  simp only[aC];with_reducible refine ay (aS3 _ ?_ ?_) λy _ hy=> ?_
  .exact h
  .exact k
  rw[qy];refine⟨λa ha=> ?_,λa ha=> ?_⟩
  .rw[av];rw[ha] at hy;exact hy
  .rw[av];rw[ha] at hy;exact hy
 .simp only[aC];with_reducible refine ay (aS3 _ ?_ ?_) λy _ hy=> ?_
  .exact h
  .exact k
  rw[qy];refine⟨λa ha=> ?_,λa ha=> ?_⟩
  .rw[av];rw[ha] at hy;exact hy
  .rw[av];rw[ha] at hy;exact hy
theorem aLx (d:dG.B)(j:d.1.2.2.2.2.2.2.2.2.2.2.2.2.2.2.2.2=0)(l4:d.2.2.2.2.1.2.2.1<=64)(l5:d.2.2.2.2.2.1.2.2.1<=64)(l6:d.2.2.2.2.2.2.1.2.2.1<=64)(l7:d.2.2.2.2.2.2.2.1.2.2.1<=64)(l8:d.2.2.2.2.2.2.2.2.1.2.2.1<=64)(l9:d.2.2.2.2.2.2.2.2.2.1.2.2.1<=64)(h:d.2.2.2.2.2.2.2.2.2.2.2.1.2.2<=1999)(k:d.2.2.2.2.2.2.2.2.2.2.2.1.2.2<=d.2.2.2.2.2.2.2.2.2.2.2.2.2.2.2.2.2.2.2.2.2.1):Ok (dW d) (λx:ko=>match x with|.inl e=>BR d.2.2.2.2.2.2.2.2.2.2.2.2.2.1.1 d.2.2.2.2.1 e.2.2.2.2.2.1/\BR d.2.2.2.2.2.2.2.2.2.2.2.2.2.1.1 d.2.2.2.2.2.1 e.2.2.2.2.2.2.1/\BR d.2.2.2.2.2.2.2.2.2.2.2.2.2.1.1 d.2.2.2.2.2.2.1 e.2.2.2.2.2.2.2.1/\BR d.2.2.2.2.2.2.2.2.2.2.2.2.2.1.1 d.2.2.2.2.2.2.2.1 e.2.2.2.2.2.2.2.2.1/\BR d.2.2.2.2.2.2.2.2.2.2.2.2.2.1.1 d.2.2.2.2.2.2.2.2.1 e.2.2.2.2.2.2.2.2.2.1/\BR d.2.2.2.2.2.2.2.2.2.2.2.2.2.1.1 d.2.2.2.2.2.2.2.2.2.1 e.2.2.2.2.2.2.2.2.2.2.1/\e.2.2.2.2.2.2.2.2.2.2.2.2.1=d.2.2.2.2.2.2.2.2.2.2.2.1/\e.2.1.2.2.2.1=d.1.2.2.2.2.1/\e.2.1.2.2.2.2.2.2.2.2.2.2.2.1=d.1.2.2.2.2.2.2.2.2.2.2.2.2.2.1|.inr e=>BR d.2.2.2.2.2.2.2.2.2.2.2.2.2.1.1 d.2.2.2.2.1 e.2.2.2.2.2.1/\BR d.2.2.2.2.2.2.2.2.2.2.2.2.2.1.1 d.2.2.2.2.2.1 e.2.2.2.2.2.2.1/\BR d.2.2.2.2.2.2.2.2.2.2.2.2.2.1.1 d.2.2.2.2.2.2.1 e.2.2.2.2.2.2.2.1/\BR d.2.2.2.2.2.2.2.2.2.2.2.2.2.1.1 d.2.2.2.2.2.2.2.1 e.2.2.2.2.2.2.2.2.1/\BR d.2.2.2.2.2.2.2.2.2.2.2.2.2.1.1 d.2.2.2.2.2.2.2.2.1 e.2.2.2.2.2.2.2.2.2.1/\BR d.2.2.2.2.2.2.2.2.2.2.2.2.2.1.1 d.2.2.2.2.2.2.2.2.2.1 e.2.2.2.2.2.2.2.2.2.2.1/\e.2.2.2.2.2.2.2.2.2.2.2.2.1=d.2.2.2.2.2.2.2.2.2.2.2.1/\e.2.1.2.2.2.2.1=d.1.2.2.2.2.1/\e.2.1.2.2.2.2.2.2.2.2.2.2.2.2.1=d.1.2.2.2.2.2.2.2.2.2.2.2.2.2.1):=by
 unfold dW tM;try dsimp only
 show PQ _ _;simp only[aN];simp only[aC];refine ay (aUs _ _ l4 l5 l6 l7 l8 l9 ⟨dg 0,(show(0:Int)<=6 by decide),(by show((d.1.2.2.2.2.2.2.2.2.2.2.2.2.2.2.2.2:Nat):Int)+192*(6-0)<=1152;omega),BR.refl _ _,BR.refl _ _,BR.refl _ _,BR.refl _ _,BR.refl _ _,BR.refl _ _,rfl,rfl,rfl,rfl,rfl⟩) λa _ ha=> ?_;obtain⟨u1,u5,u6,u7,u8,u9,u10,u12,u22,u4,ut⟩:=ha;simp only[aC];refine ay (aUt _ _ ⟨dg 0,(show(0:Int)<=6 by decide),rfl,rfl,rfl,rfl,rfl,rfl,rfl,rfl,rfl⟩) λb _ hb=> ?_;obtain⟨g1,g5,g6,g7,g8,g9,g10,g12,g23⟩:=hb;rw[aK];refine⟨λ_=> ?_,λ_=> ?_⟩
 .simp only[aC];with_reducible refine ay (aS4 _ ?_ ?_ ?_) λy _ hy=> ?_
  .show b.2.1.2.2.2.2.2.2.2.2.2.2.2.2.2.2.2.2<=1800;rw[g1];exact cq u1 (by decide)
  .show b.2.2.2.2.2.2.2.2.2.2.2.2.1.2.2<=1999;rw[g12];show a.2.2.2.2.2.2.2.2.2.2.2.2.1.2.2<=1999;rw[u12];exact h
  .show b.2.2.2.2.2.2.2.2.2.2.2.2.1.2.2<=b.2.2.2.2.2.2.2.2.2.2.2.2.2.2.2.2.2.2.2.2.2.2.2.1;rw[g12,g23];show a.2.2.2.2.2.2.2.2.2.2.2.2.1.2.2<=a.2.2.2.2.2.2.2.2.2.2.2.2.2.2.2.2.2.2.2.2.2.2.1;rw[u12,u22];exact k
  rw[qy];refine⟨λa1 ha=> ?_,λa1 ha=> ?_⟩
  .rw[av];rw[ha] at hy;obtain⟨q5,q6,q7,q8,q9,q10,T9,q4,qt⟩:=hy;exact⟨(by rw[q5];show BR _ _ b.2.2.2.2.2.1;rw[g5];exact u5),(by rw[q6];show BR _ _ b.2.2.2.2.2.2.1;rw[g6];exact u6),(by rw[q7];show BR _ _ b.2.2.2.2.2.2.2.1;rw[g7];exact u7),(by rw[q8];show BR _ _ b.2.2.2.2.2.2.2.2.1;rw[g8];exact u8),(by rw[q9];show BR _ _ b.2.2.2.2.2.2.2.2.2.1;rw[g9];exact u9),(by rw[q10];show BR _ _ b.2.2.2.2.2.2.2.2.2.2.1;rw[g10];exact u10),T9.trans (g12.trans u12),q4.trans ((ck (λz=>z.2.2.2.2.1) g1).trans u4),qt.trans ((ck (λz=>z.2.2.2.2.2.2.2.2.2.2.2.2.2.1) g1).trans ut)⟩
  .rw[av];rw[ha] at hy;obtain⟨q5,q6,q7,q8,q9,q10,T9,q4,qt⟩:=hy;exact⟨(by rw[q5];show BR _ _ b.2.2.2.2.2.1;rw[g5];exact u5),(by rw[q6];show BR _ _ b.2.2.2.2.2.2.1;rw[g6];exact u6),(by rw[q7];show BR _ _ b.2.2.2.2.2.2.2.1;rw[g7];exact u7),(by rw[q8];show BR _ _ b.2.2.2.2.2.2.2.2.1;rw[g8];exact u8),(by rw[q9];show BR _ _ b.2.2.2.2.2.2.2.2.2.1;rw[g9];exact u9),(by rw[q10];show BR _ _ b.2.2.2.2.2.2.2.2.2.2.1;rw[g10];exact u10),T9.trans (g12.trans u12),q4.trans ((ck (λz=>z.2.2.2.2.1) g1).trans u4),qt.trans ((ck (λz=>z.2.2.2.2.2.2.2.2.2.2.2.2.2.1) g1).trans ut)⟩
 .simp only[aC];with_reducible refine ay (aS4 _ ?_ ?_ ?_) λy _ hy=> ?_
  .show b.2.1.2.2.2.2.2.2.2.2.2.2.2.2.2.2.2.2<=1800;rw[g1];exact cq u1 (by decide)
  .show b.2.2.2.2.2.2.2.2.2.2.2.2.1.2.2<=1999;rw[g12];show a.2.2.2.2.2.2.2.2.2.2.2.2.1.2.2<=1999;rw[u12];exact h
  .show b.2.2.2.2.2.2.2.2.2.2.2.2.1.2.2<=b.2.2.2.2.2.2.2.2.2.2.2.2.2.2.2.2.2.2.2.2.2.2.2.1;rw[g12,g23];show a.2.2.2.2.2.2.2.2.2.2.2.2.1.2.2<=a.2.2.2.2.2.2.2.2.2.2.2.2.2.2.2.2.2.2.2.2.2.2.1;rw[u12,u22];exact k
  rw[qy];refine⟨λa1 ha=> ?_,λa1 ha=> ?_⟩
  .rw[av];rw[ha] at hy;obtain⟨q5,q6,q7,q8,q9,q10,T9,q4,qt⟩:=hy;exact⟨(by rw[q5];show BR _ _ b.2.2.2.2.2.1;rw[g5];exact u5),(by rw[q6];show BR _ _ b.2.2.2.2.2.2.1;rw[g6];exact u6),(by rw[q7];show BR _ _ b.2.2.2.2.2.2.2.1;rw[g7];exact u7),(by rw[q8];show BR _ _ b.2.2.2.2.2.2.2.2.1;rw[g8];exact u8),(by rw[q9];show BR _ _ b.2.2.2.2.2.2.2.2.2.1;rw[g9];exact u9),(by rw[q10];show BR _ _ b.2.2.2.2.2.2.2.2.2.2.1;rw[g10];exact u10),T9.trans (g12.trans u12),q4.trans ((ck (λz=>z.2.2.2.2.1) g1).trans u4),qt.trans ((ck (λz=>z.2.2.2.2.2.2.2.2.2.2.2.2.2.1) g1).trans ut)⟩
  .rw[av];rw[ha] at hy;obtain⟨q5,q6,q7,q8,q9,q10,T9,q4,qt⟩:=hy;exact⟨(by rw[q5];show BR _ _ b.2.2.2.2.2.1;rw[g5];exact u5),(by rw[q6];show BR _ _ b.2.2.2.2.2.2.1;rw[g6];exact u6),(by rw[q7];show BR _ _ b.2.2.2.2.2.2.2.1;rw[g7];exact u7),(by rw[q8];show BR _ _ b.2.2.2.2.2.2.2.2.1;rw[g8];exact u8),(by rw[q9];show BR _ _ b.2.2.2.2.2.2.2.2.2.1;rw[g9];exact u9),(by rw[q10];show BR _ _ b.2.2.2.2.2.2.2.2.2.2.1;rw[g10];exact u10),T9.trans (g12.trans u12),q4.trans ((ck (λz=>z.2.2.2.2.1) g1).trans u4),qt.trans ((ck (λz=>z.2.2.2.2.2.2.2.2.2.2.2.2.2.1) g1).trans ut)⟩
theorem aYF (N:Nat)(h1:1<=N)(hN:N<=1999)(x:fM.B)(hs:x.2.2.2.2.2.2.2.2.2.2.2.2.1.1<=(N:Int))(hl:x.2.2.2.2.2.2.2.2.2.2.2.2.1.2.2<=N)(hq:x.2.1.2.2.2.2.1<=1999)(l5:x.2.2.2.2.2.1.2.2.1<=64)(l6:x.2.2.2.2.2.2.1.2.2.1<=64)(l7:x.2.2.2.2.2.2.2.1.2.2.1<=64)(l8:x.2.2.2.2.2.2.2.2.1.2.2.1<=64)(l9:x.2.2.2.2.2.2.2.2.2.1.2.2.1<=64)(l10:x.2.2.2.2.2.2.2.2.2.2.1.2.2.1<=64):Ok (eY x) (λr:oJ=>BR x.1.1 x.2.2.2.2.2.1 r.1.2.1/\BR x.1.1 x.2.2.2.2.2.2.1 r.1.2.2.1/\BR x.1.1 x.2.2.2.2.2.2.2.1 r.1.2.2.2.1/\BR x.1.1 x.2.2.2.2.2.2.2.2.1 r.1.2.2.2.2.1/\BR x.1.1 x.2.2.2.2.2.2.2.2.2.1 r.1.2.2.2.2.2.1/\BR x.1.1 x.2.2.2.2.2.2.2.2.2.2.1 r.1.2.2.2.2.2.2.1/\r.1.2.2.2.2.2.2.2.2.1=x.2.2.2.2.2.2.2.2.2.2.2.2.1.1/\r.1.2.2.2.2.2.2.2.2.2.2<=N/\r.1.1.2.2.2.2.1=x.2.1.2.2.2.2.1/\r.1.1.2.2.2.2.2.2.2.2.2.2.2.2.2.1=x.1.1):=by
 unfold eY rK;try dsimp only
 show PQ _ _;simp only[aN];rw[aK];refine⟨λ_=> ?_,λ_=> ?_⟩
 .simp only[aC];with_reducible refine ay (aUp N h1 hN _ ?_ ?_) λe _ he=> ?_
  .exact hs
  .exact hq
  rw[uk];refine⟨λb hb=> ?_,λb hb=> ?_⟩
  .rw[hb] at he;obtain⟨e1,e2,e4,et⟩:=he;have e1:b.2=x.2.2.2.2.2.2.2.2.2.2.2.2.1:=e1;simp only[aC];with_reducible refine ay (aLx _ ?_ ?_ ?_ ?_ ?_ ?_ ?_ ?_ ?_) λy _ hy=> ?_
   .exact e2
   .exact l5
   .exact l6
   .exact l7
   .exact l8
   .exact l9
   .exact l10
   .show b.2.2.2<=1999;rw[e1];omega
   .show b.2.2.2<=x.2.2.2.2.2.2.2.2.2.2.2.2.1.2.2;rw[e1];exact dq _
   rw[qy];refine⟨λa ha=> ?_,λa ha=> ?_⟩
   .rw[ha] at hy;obtain⟨s5,s6,s7,s8,s9,Zl,T9,q4,qt⟩:=hy;rw[av];exact⟨s5,s6,s7,s8,s9,Zl,(by show a.2.2.2.2.2.2.2.2.2.2.2.2.1.1=x.2.2.2.2.2.2.2.2.2.2.2.2.1.1;rw[T9];show b.2.1=_;rw[e1]),(by show a.2.2.2.2.2.2.2.2.2.2.2.2.1.2.2<=N;rw[T9];show b.2.2.2<=N;rw[e1];exact hl),q4.trans e4,qt.trans et⟩
   .rw[ha] at hy;obtain⟨s5,s6,s7,s8,s9,Zl,T9,q4,qt⟩:=hy;rw[av];exact⟨s5,s6,s7,s8,s9,Zl,(by show a.2.2.2.2.2.2.2.2.2.2.2.2.1.1=x.2.2.2.2.2.2.2.2.2.2.2.2.1.1;rw[T9];show b.2.1=_;rw[e1]),(by show a.2.2.2.2.2.2.2.2.2.2.2.2.1.2.2<=N;rw[T9];show b.2.2.2<=N;rw[e1];exact hl),q4.trans e4,qt.trans et⟩
  .rw[hb] at he;obtain⟨e1,e2,e3,e4,e5,et⟩:=he;have e2:b.1.2.1=x.2.2.2.2.2.2.2.2.2.2.2.2.1.1:=e2;simp only[aC];with_reducible refine ay (aLx _ ?_ ?_ ?_ ?_ ?_ ?_ ?_ ?_ ?_) λy _ hy=> ?_
   .exact e4
   .exact l5
   .exact l6
   .exact l7
   .exact l8
   .exact l9
   .exact l10
   .show b.1.2.2.2<=1999;omega
   .exact e3
   rw[qy];refine⟨λa ha=> ?_,λa ha=> ?_⟩
   .rw[ha] at hy;obtain⟨s5,s6,s7,s8,s9,Zl,T9,q4,qt⟩:=hy;rw[av];exact⟨s5,s6,s7,s8,s9,Zl,(by show a.2.2.2.2.2.2.2.2.2.2.2.2.1.1=x.2.2.2.2.2.2.2.2.2.2.2.2.1.1;rw[T9];exact e2),(by show a.2.2.2.2.2.2.2.2.2.2.2.2.1.2.2<=N;rw[T9];exact e1),q4.trans e5,qt.trans et⟩
   .rw[ha] at hy;obtain⟨s5,s6,s7,s8,s9,Zl,T9,q4,qt⟩:=hy;rw[av];exact⟨s5,s6,s7,s8,s9,Zl,(by show a.2.2.2.2.2.2.2.2.2.2.2.2.1.1=x.2.2.2.2.2.2.2.2.2.2.2.2.1.1;rw[T9];exact e2),(by show a.2.2.2.2.2.2.2.2.2.2.2.2.1.2.2<=N;rw[T9];exact e1),q4.trans e5,qt.trans et⟩
 .rw[bE];intro _ _;rw[bE];intro _ _;simp only[aC];with_reducible refine ay (aLx _ ?_ ?_ ?_ ?_ ?_ ?_ ?_ ?_ ?_) λy _ hy=> ?_
  .rfl
  .exact l5
  .exact l6
  .exact l7
  .exact l8
  .exact l9
  .exact l10
  .show x.2.2.2.2.2.2.2.2.2.2.2.2.1.2.2<=1999;omega
  .exact dq _
  rw[qy];refine⟨λa ha=> ?_,λa ha=> ?_⟩
  .rw[ha] at hy;obtain⟨s5,s6,s7,s8,s9,Zl,T9,q4,qt⟩:=hy;rw[av];exact⟨s5,s6,s7,s8,s9,Zl,(by show a.2.2.2.2.2.2.2.2.2.2.2.2.1.1=x.2.2.2.2.2.2.2.2.2.2.2.2.1.1;rw[T9];done),(by show a.2.2.2.2.2.2.2.2.2.2.2.2.1.2.2<=N;rw[T9];exact hl),q4.trans rfl,qt.trans rfl⟩
  .rw[ha] at hy;obtain⟨s5,s6,s7,s8,s9,Zl,T9,q4,qt⟩:=hy;rw[av];exact⟨s5,s6,s7,s8,s9,Zl,(by show a.2.2.2.2.2.2.2.2.2.2.2.2.1.1=x.2.2.2.2.2.2.2.2.2.2.2.2.1.1;rw[T9];done),(by show a.2.2.2.2.2.2.2.2.2.2.2.2.1.2.2<=N;rw[T9];exact hl),q4.trans rfl,qt.trans rfl⟩
theorem aOP (w:Int×Int×(Int×Int×Int)×Int×Int×Int):∀(d:iy.B) (hd:0<=d.1/\d.1<=3/\d.2.1=w.1),Ok (DH d) (λx:qj=>match x with|.inl _=>True|.inr e=>e.2.1=w.1):=
 bp (λd:iy.B=>ws (3-d.1)) (λd hd=>by
  have hw:wI (d.1+1)=d.1+1:=aY;unfold yk;simp only[bM];simp only[nf,pn,uF,hw];repeat' (first|exact True.intro|exact hd.2.2|omega|(intro _)|(apply And.intro))) (λd hd=>by omega)
theorem aUu (x0:Int)(x1:Int)(x2:Int)(x3:Int)(x4:Int)(x5:Int)(x6:Int)(x7:Int):Ok (lp x0 x1 x2 x3 x4 x5 x6 x7) (λr=>r=true->0<=x0):=by
 unfold lp Ac;show PQ _ _;refine ay (aOP (x0,x1,(x2,x3,x4),x5,x6,x7) _ ⟨dg 0,(show(0:Int)<=3 by decide),rfl⟩) λd _ hd=> ?_;rw[qy];refine⟨λa _=>by rw[av];intro h;exact absurd h (by decide),λa ha=> ?_⟩;rw[ha] at hd;have hd:a.2.1=x0:=hd;rw[aK];refine⟨λ_=> ?_,λ_=>by rw[av];intro h;exact absurd h (by decide)⟩;rw[aK];refine⟨λ_=> ?_,λ_=>by rw[av];intro h;exact absurd h (by decide)⟩;rw[aK];refine⟨λc=> ?_,λ_=>by rw[av];intro h;exact absurd h (by decide)⟩;rw[av];have c:=cQ c;intro _;omega
theorem aIR (x:Ad.B):Ok (sw x) (λr=>r.1.1=x.1.2.1):=by
 unfold sw IM;try dsimp only
 show PQ _ _;rw[bE];intro _ _;rw[bE];intro _ _;rw[av]
theorem aYG (x:gf.B)(h:x.2.1.2.2=false->x.2.1.2.1.1<=0):Ok (cX x) (λr=>(r.2.1.2.2=false->r.2.1.2.1.1<=0)/\x.2.1.2.1.1<=r.2.1.2.1.1/\(r.1.2.1=true->r.1.1.1=r.2.1.2.1.1)):=by
 unfold cX mA;try dsimp only
 show PQ _ _;refine ay (aUu _ _ _ _ _ _ _ _) λd _ hd=> ?_;rw[aK];refine⟨λ_=>by rw[av];exact⟨h,dg _,(λh=>nomatch h)⟩,λc=> ?_⟩;have c:d=true:=by cases d<;>first|rfl|cases c
 have hx:0<=x.1.1:=hd c;rw[aK];refine⟨λ_=> ?_,λca=> ?_⟩
 .rw[aK];refine⟨λ_=>by rw[av];exact⟨h,dg _,(λh=>nomatch h)⟩,λcb=> ?_⟩;have cb:=kO cb;refine ay (aIR _) λe _ he=> ?_;have he:e.1.1=x.1.1:=he;rw[aK];refine⟨λ_=> ?_,λ_=> ?_⟩
  .rw[av];exact⟨(λh=>nomatch h),by show x.2.1.2.1.1<=e.1.1;omega,(λh=>nomatch h)⟩
  .rw[av];exact⟨(λh=>nomatch h),by show x.2.1.2.1.1<=x.1.1;omega,λ_=>he⟩
 .have h:=h ca;refine ay (aIR _) λe _ he=> ?_;have he:e.1.1=x.1.1:=he;rw[aK];refine⟨λ_=> ?_,λ_=> ?_⟩
  .rw[av];exact⟨(λh=>nomatch h),by show x.2.1.2.1.1<=e.1.1;omega,(λh=>nomatch h)⟩
  .rw[av];exact⟨(λh=>nomatch h),by show x.2.1.2.1.1<=x.1.1;omega,λ_=>he⟩
def Qd (T S:Int)(n:Nat)(r:Nat->Int):Prop:=T<=S/\∀i k,i<=k->k<n->T<=r i/\r i<=r k/\r k<=S
theorem Qd.pop {T S:Int}{n:Nat}{r q:Nat->Int}(h:Qd T S n r)(hn:1<=n)(e:∀i,q i=r (i+1)):T<=r 0/\Qd (r 0) S (n-1) q:=by
 have a:=h.2 0 0 (dq _) (by omega);refine⟨a.1,AF a.2.1 a.2.2,λi k p l=> ?_⟩;have b:=h.2 (i+1) (k+1) (by omega) (by omega);have c:=h.2 0 (i+1) (by omega) (by omega);rw[e,e];exact⟨c.2.1,b.2⟩
theorem Qd.push {T S j:Int}{n:Nat}{r q:Nat->Int}(h:Qd T S n r)(l:S<=j)(e:∀i,i<n->q i=r i)(en:q n=j):Qd T j (n+1) q:=by
 refine⟨AF h.1 l,λi k p l2=> ?_⟩;have hT:=h.1;by_cases hk:k<n
 .rw[e i (by omega),e k hk];have a:=h.2 i k p hk;exact⟨a.1,a.2.1,AF a.2.2 l⟩
 .have hk:k=n:=by omega
  subst hk;rw[en];by_cases hi:i<k
  .rw[e i hi];have a:=h.2 i i (dq _) hi;exact⟨a.1,AF a.2.2 l,dg _⟩
  .have hi:i=k:=by omega
   subst hi;rw[en];exact⟨AF hT l,dg _,dg _⟩
theorem Qd.up {T S j:Int}{n:Nat}{r q:Nat->Int}(h:Qd T S n r)(l:S<=j)(e:∀i,q i=r i):Qd T j n q:=
 ⟨AF h.1 l,λi k p l2=>by rw[e,e];have a:=h.2 i k p l2;exact⟨a.1,a.2.1,AF a.2.2 l⟩⟩
theorem aUv (N l:Nat)(S:Int)(h1:1<=N)(hN:N<=1999)(hl:l<=1999)(w d:cJ.B)(W4:w.2.2.2.2.1.2.2.1<=64)(W5:w.2.2.2.2.2.1.2.2.1<=64)(W6:w.2.2.2.2.2.2.1.2.2.1<=64)(W7:w.2.2.2.2.2.2.2.1.2.2.1<=64)(W8:w.2.2.2.2.2.2.2.2.1.2.2.1<=64)(W9:w.2.2.2.2.2.2.2.2.2.1.2.2.1<=64)(WS:w.2.2.2.2.2.2.2.2.2.2.2.1.1<=(N:Int))(hd:d.2.1.2.2.2.2.1.2<=l/\d.2.2.2.1=w.2.2.2.1/\d.2.2.2.2.2.2.2.2.2.2.2.2.2.1=w.2.2.2.2.2.2.2.2.2.2.2.2.2.1/\w.2.1.2.2.2.2.2.2.2.2.2.2.2.2.2.1<=d.2.1.2.2.2.2.2.2.2.2.2.2.2.2.2.1/\Qd d.2.1.2.2.2.2.2.2.2.2.2.2.2.2.2.1 S d.2.1.2.2.2.2.1.2 (λi=>w.2.2.2.2.2.2.2.2.2.2.2.2.2.1.2.1 (d.2.1.2.2.2.2.1.1+i))/\BR d.2.1.2.2.2.2.2.2.2.2.2.2.2.2.2.1 w.2.2.2.2.1 d.2.2.2.2.1/\BR d.2.1.2.2.2.2.2.2.2.2.2.2.2.2.2.1 w.2.2.2.2.2.1 d.2.2.2.2.2.1/\BR d.2.1.2.2.2.2.2.2.2.2.2.2.2.2.2.1 w.2.2.2.2.2.2.1 d.2.2.2.2.2.2.1/\BR d.2.1.2.2.2.2.2.2.2.2.2.2.2.2.2.1 w.2.2.2.2.2.2.2.1 d.2.2.2.2.2.2.2.1/\BR d.2.1.2.2.2.2.2.2.2.2.2.2.2.2.2.1 w.2.2.2.2.2.2.2.2.1 d.2.2.2.2.2.2.2.2.1/\BR d.2.1.2.2.2.2.2.2.2.2.2.2.2.2.2.1 w.2.2.2.2.2.2.2.2.2.1 d.2.2.2.2.2.2.2.2.2.1/\d.2.2.2.2.2.2.2.2.2.2.2.1.1=w.2.2.2.2.2.2.2.2.2.2.2.1.1/\d.2.2.2.2.2.2.2.2.2.2.2.1.2.2<=N):Ok (ij d) (λx:ig=>match x with|.inl x=>x.1.2.1.2<=l/\x.2.2.2.1=w.2.2.2.1/\x.2.2.2.2.2.2.2.2.2.2.2.2.2.1=w.2.2.2.2.2.2.2.2.2.2.2.2.2.1/\w.2.1.2.2.2.2.2.2.2.2.2.2.2.2.2.1<=x.2.1.2.2.2.2.2.2.2.2.2.2.2.2.1/\Qd x.2.1.2.2.2.2.2.2.2.2.2.2.2.2.1 S x.1.2.1.2 (λi=>w.2.2.2.2.2.2.2.2.2.2.2.2.2.1.2.1 (x.1.2.1.1+i))/\BR x.2.1.2.2.2.2.2.2.2.2.2.2.2.2.1 w.2.2.2.2.1 x.2.2.2.2.1/\BR x.2.1.2.2.2.2.2.2.2.2.2.2.2.2.1 w.2.2.2.2.2.1 x.2.2.2.2.2.1/\BR x.2.1.2.2.2.2.2.2.2.2.2.2.2.2.1 w.2.2.2.2.2.2.1 x.2.2.2.2.2.2.1/\BR x.2.1.2.2.2.2.2.2.2.2.2.2.2.2.1 w.2.2.2.2.2.2.2.1 x.2.2.2.2.2.2.2.1/\BR x.2.1.2.2.2.2.2.2.2.2.2.2.2.2.1 w.2.2.2.2.2.2.2.2.1 x.2.2.2.2.2.2.2.2.1/\BR x.2.1.2.2.2.2.2.2.2.2.2.2.2.2.1 w.2.2.2.2.2.2.2.2.2.1 x.2.2.2.2.2.2.2.2.2.1/\x.2.2.2.2.2.2.2.2.2.2.2.1.1=w.2.2.2.2.2.2.2.2.2.2.2.1.1/\x.2.2.2.2.2.2.2.2.2.2.2.1.2.2<=N|.inr x=>x.1.2.1.2<=l/\x.2.2.2.1=w.2.2.2.1/\x.2.2.2.2.2.2.2.2.2.2.2.2.2.1=w.2.2.2.2.2.2.2.2.2.2.2.2.2.1/\w.2.1.2.2.2.2.2.2.2.2.2.2.2.2.2.1<=x.2.1.2.2.2.2.2.2.2.2.2.2.2.2.1/\Qd x.2.1.2.2.2.2.2.2.2.2.2.2.2.2.1 S x.1.2.1.2 (λi=>w.2.2.2.2.2.2.2.2.2.2.2.2.2.1.2.1 (x.1.2.1.1+i))/\BR x.2.1.2.2.2.2.2.2.2.2.2.2.2.2.1 w.2.2.2.2.1 x.2.2.2.2.1/\BR x.2.1.2.2.2.2.2.2.2.2.2.2.2.2.1 w.2.2.2.2.2.1 x.2.2.2.2.2.1/\BR x.2.1.2.2.2.2.2.2.2.2.2.2.2.2.1 w.2.2.2.2.2.2.1 x.2.2.2.2.2.2.1/\BR x.2.1.2.2.2.2.2.2.2.2.2.2.2.2.1 w.2.2.2.2.2.2.2.1 x.2.2.2.2.2.2.2.1/\BR x.2.1.2.2.2.2.2.2.2.2.2.2.2.2.1 w.2.2.2.2.2.2.2.2.1 x.2.2.2.2.2.2.2.2.1/\BR x.2.1.2.2.2.2.2.2.2.2.2.2.2.2.1 w.2.2.2.2.2.2.2.2.2.1 x.2.2.2.2.2.2.2.2.2.1/\x.2.2.2.2.2.2.2.2.2.2.2.1.1=w.2.2.2.2.2.2.2.2.2.2.2.1.1/\x.2.2.2.2.2.2.2.2.2.2.2.1.2.2<=N):=by
 revert d
 exact bp (λd:cJ.B=>d.2.1.2.2.2.2.1.2) (λd hd=>by
  obtain⟨i0,ic,ir,it,iq,s4,s5,s6,s7,s8,s9,i11,bj⟩:=hd;unfold lx;dsimp only;rw[aK];refine⟨λh=> ?_,λ_=>by rw[av];exact⟨i0,ic,ir,it,iq,s4,s5,s6,s7,s8,s9,i11,bj⟩⟩;have h:=cQ h;rw[dO] at h;have h:1<=d.2.1.2.2.2.2.1.2:=by omega
  have r0:bb 0 d.2.1.2.2.2.2.1.2=true:=by rw[bk];omega
  have r1:KI 1 d.2.1.2.2.2.2.1.2=true:=by rw[ady];omega
  rw[r0,r1,aC,aK];simp only[aN];refine⟨λ_=> ?_,λ_=>by rw[av];exact⟨i0,ic,ir,it,iq,s4,s5,s6,s7,s8,s9,i11,bj⟩⟩;simp only[aC];with_reducible refine ay (aYF N h1 hN _ ?_ ?_ ?_ ?_ ?_ ?_ ?_ ?_ ?_) λe _ he=> ?_
  .show d.2.2.2.2.2.2.2.2.2.2.2.1.1<=(N:Int);rw[i11];exact WS
  .exact bj
  .show d.2.1.2.2.2.2.1.2-1<=1999;omega
  .exact cq s4.len W4
  .exact cq s5.len W5
  .exact cq s6.len W6
  .exact cq s7.len W7
  .exact cq s8.len W8
  .exact cq s9.len W9
  obtain⟨a4,a5,a6,a7,a8,a9,a11,Bc,e4,et⟩:=he;have e4:e.1.1.2.2.2.2.1=d.2.1.2.2.2.2.1.2-1:=e4;have et:e.1.1.2.2.2.2.2.2.2.2.2.2.2.2.2.1=d.2.2.2.2.2.2.2.2.2.2.2.2.2.1.2.1 (d.2.1.2.2.2.2.1.1+0):=et;have iq':=iq.pop (q:=λi=>w.2.2.2.2.2.2.2.2.2.2.2.2.2.1.2.1 (d.2.1.2.2.2.2.1.1+1+i)) h (λi=>by show w.2.2.2.2.2.2.2.2.2.2.2.2.2.1.2.1 (d.2.1.2.2.2.2.1.1+1+i)=w.2.2.2.2.2.2.2.2.2.2.2.2.2.1.2.1 (d.2.1.2.2.2.2.1.1+(i+1));rw[show d.2.1.2.2.2.2.1.1+1+i=d.2.1.2.2.2.2.1.1+(i+1) by omega]);have et':e.1.1.2.2.2.2.2.2.2.2.2.2.2.2.2.1=w.2.2.2.2.2.2.2.2.2.2.2.2.2.1.2.1 (d.2.1.2.2.2.2.1.1+0):=by rw[et,ir]
  have ll:d.2.1.2.2.2.2.2.2.2.2.2.2.2.2.2.1<=e.1.1.2.2.2.2.2.2.2.2.2.2.2.2.2.1:=by rw[et'];exact iq'.1
  have le:=Int.le_of_eq et.symm;rw[av];exact⟨⟨by show e.1.1.2.2.2.2.1<=l;omega,ic,ir,AF it ll,(by show Qd e.1.1.2.2.2.2.2.2.2.2.2.2.2.2.2.1 S e.1.1.2.2.2.2.1 _;rw[et',e4];exact iq'.2),(s4.mono ll).trans (a4.mono le),(s5.mono ll).trans (a5.mono le),(s6.mono ll).trans (a6.mono le),(s7.mono ll).trans (a7.mono le),(s8.mono ll).trans (a8.mono le),(s9.mono ll).trans (a9.mono le),a11.trans i11,Bc⟩,by show e.1.1.2.2.2.2.1<d.2.1.2.2.2.2.1.2;omega⟩) (λd hd=>by omega)
theorem aLy (N:Nat)(h1:1<=N)(hN:N<=1999)(d:cK.B)(hq:d.1.c.1<=1998)(l3:d.b.2.1.b.1<=64)(l4:d.c.1.b.1<=64)(l5:d.c.2.1.b.1<=64)(l6:d.c.b.1.b.1<=64)(l7:d.c.b.2.1.b.1<=64)(l8:d.d.1.b.1<=64)(hs:d.d.b.1.1<=(N:Int))(hl:d.d.b.1.2.2<=N)(S:Int)(hS:S<=d.d.b.2.1.1)(hQ:Qd d.1.d.c.2.1 S d.1.c.1 d.d.c.1.1):Ok (cS d) (λx:fa=>x.2.1.c.1.2<=d.1.c.1+1/\x.b.2.1=d.b.1/\d.1.d.c.2.1<=x.2.1.d.c.2.1/\Qd x.2.1.d.c.2.1 d.d.b.2.1.1 x.2.1.c.1.2 (λi=>x.c.1.2.1 (x.2.1.c.1.1+i))/\BR x.2.1.d.c.2.1 d.b.2.1 x.c.2.1/\BR x.2.1.d.c.2.1 d.c.1 x.c.b.1/\BR x.2.1.d.c.2.1 d.c.2.1 x.c.b.2.1/\BR x.2.1.d.c.2.1 d.c.b.1 x.d.1/\BR x.2.1.d.c.2.1 d.c.b.2.1 x.d.2.1/\BR x.2.1.d.c.2.1 d.d.1 x.d.b.1/\x.d.c.1.1=d.d.b.1.1/\x.d.c.1.2.2<=N):=by
 unfold cS ly;try dsimp only
 show PQ _ _;simp only[aN];have b:wd ((d.1.c.1+1)*64) 140737488355328=true:=by rw[bY];omega
 rw[b];simp only[aC]
 have hQ':Qd d.1.d.c.2.1 d.d.b.2.1.1 (d.1.c.1+1) (λi=>bif ww (0+i) d.1.c.1 then d.d.b.2.1.1 else d.d.c.1.1 (0+(0+i))):=hQ.push hS (λi hi=>by
  have b:ww (0+i) d.1.c.1=false:=by
   cases hb:ww (0+i) d.1.c.1
   .rfl
   .have:=nQ hb;omega
  show(bif ww (0+i) d.1.c.1 then d.d.b.2.1.1 else d.d.c.1.1 (0+(0+i)))=_;rw[b];simp only[bH,gy]) (by simp only[gy,aN,bz])
 refine ay (aUv N (d.1.c.1+1) d.d.b.2.1.1 h1 hN (by omega) _ _ l3 l4 l5 l6 l7 l8 hs ⟨dq _,rfl,rfl,dg _,hQ',BR.refl _ _,BR.refl _ _,BR.refl _ _,BR.refl _ _,BR.refl _ _,BR.refl _ _,rfl,hl⟩) λy _ hy=> ?_;rw[qy];refine⟨λa ha=> ?_,λa ha=> ?_⟩
 .rw[ha] at hy;rw[av];obtain⟨y0,y3,yr,yt,yq,ys⟩:=hy;exact⟨y0,y3,yt,(by rw[<-yr] at yq;exact yq),ys⟩
 .rw[ha] at hy;rw[av];obtain⟨y0,y3,yr,yt,yq,ys⟩:=hy;exact⟨y0,y3,yt,(by rw[<-yr] at yq;exact yq),ys⟩
theorem aS5 (N:Nat)(h1:1<=N)(hN:N<=1999)(x:eo.B)(hq:x.2.1.c.1<=1998)(l5:x.c.2.1.b.1<=64)(l6:x.c.b.1.b.1<=64)(l7:x.c.b.2.1.b.1<=64)(l8:x.d.1.b.1<=64)(l9:x.d.2.1.b.1<=64)(l10:x.d.b.1.b.1<=64)(hs:x.d.c.1.1<=(N:Int))(hl:x.d.c.1.2.2<=N)(h3:x.b.2.1.2.2=false->x.b.2.1.2.1.1<=0)(hQ:Qd x.2.1.d.c.2.1 x.b.2.1.2.1.1 x.2.1.c.1 x.c.1.1):Ok (bV x) (λe:gC=>e.2.1.c.1.2<=x.2.1.c.1+1/\(e.b.2.1.2.2=false->e.b.2.1.2.1.1<=0)/\x.2.1.d.c.2.1<=e.2.1.d.c.2.1/\Qd e.2.1.d.c.2.1 e.b.2.1.2.1.1 e.2.1.c.1.2 (λi=>e.c.1.2.1 (e.2.1.c.1.1+i))/\BR e.2.1.d.c.2.1 x.c.2.1 e.c.2.1/\BR e.2.1.d.c.2.1 x.c.b.1 e.c.b.1/\BR e.2.1.d.c.2.1 x.c.b.2.1 e.c.b.2.1/\BR e.2.1.d.c.2.1 x.d.1 e.d.1/\BR e.2.1.d.c.2.1 x.d.2.1 e.d.2.1/\BR e.2.1.d.c.2.1 x.d.b.1 e.d.b.1/\e.d.c.1.1=x.d.c.1.1/\e.d.c.1.2.2<=N):=by
 unfold bV jW;try dsimp only
 show PQ _ _;simp only[aN];refine ay (aYG _ h3) λd _ hd=> ?_;obtain⟨d1,d2,d3⟩:=hd;have d2:x.b.2.1.2.1.1<=d.2.1.2.1.1:=d2;rw[aK];refine⟨λ_=>by rw[av];exact⟨Nat.le_succ _,d1,dg _,hQ.up d2 (λi=>by rw[gy]),BR.refl _ _,BR.refl _ _,BR.refl _ _,BR.refl _ _,BR.refl _ _,BR.refl _ _,rfl,hl⟩,λ_=> ?_⟩;rw[aK];refine⟨λ_=>by rw[av];exact⟨Nat.le_succ _,d1,dg _,hQ.up d2 (λi=>by rw[gy]),BR.refl _ _,BR.refl _ _,BR.refl _ _,BR.refl _ _,BR.refl _ _,BR.refl _ _,rfl,hl⟩,λc=> ?_⟩;have c:d.1.2.1=true:=by simpa using c
 have d3:=d3 c;have d4:x.b.2.1.2.1.1<=d.1.1.1:=by omega
 rw[aK];refine⟨λ_=> ?_,λ_=> ?_⟩
 .simp only[aC];with_reducible refine ay (aOL N hN _ ?_ ?_) λe _ he=> ?_
  .exact hl
  .exact hs
  rw[uk];refine⟨λa ha=> ?_,λa ha=> ?_⟩
  .rw[ha] at he;have he:a.2.1=x.d.c.1:=he;simp only[aC];with_reducible refine ay (aLy N h1 hN _ ?_ ?_ ?_ ?_ ?_ ?_ ?_ ?_ ?_ x.b.2.1.2.1.1 d4 hQ) λy _ hy=> ?_
   .exact hq
   .exact l5
   .exact l6
   .exact l7
   .exact l8
   .exact l9
   .exact l10
   .show a.2.1.1<=(N:Int);rw[he];exact hs
   .show a.2.1.2.2<=N;rw[he];exact hl
   rw[av];have e0:(a.2.1.1:Int)=x.d.c.1.1:=by rw[he]
   obtain⟨q,qs,qt,qq,s5,s6,s7,s8,s9,Zl,p1,p2⟩:=hy;exact⟨q,(by rw[show y.b.2.1=d.2.1 from qs];exact d1),qt,(by rw[show y.b.2.1=d.2.1 from qs,<-d3];exact qq),s5,s6,s7,s8,s9,Zl,p1.trans e0,p2⟩
  .rw[ha] at he;obtain⟨e1,e2,e3,e4⟩:=he;have e1:a.1.1.1=x.d.c.1.1:=e1;simp only[aC];with_reducible refine ay (aLy N h1 hN _ ?_ ?_ ?_ ?_ ?_ ?_ ?_ ?_ ?_ x.b.2.1.2.1.1 d4 hQ) λy _ hy=> ?_
   .exact hq
   .exact l5
   .exact l6
   .exact l7
   .exact l8
   .exact l9
   .exact l10
   .show a.1.1.1<=(N:Int);rw[e1];exact hs
   .exact e2
   rw[av];obtain⟨q,qs,qt,qq,s5,s6,s7,s8,s9,Zl,p1,p2⟩:=hy;exact⟨q,(by rw[show y.b.2.1=d.2.1 from qs];exact d1),qt,(by rw[show y.b.2.1=d.2.1 from qs,<-d3];exact qq),s5,s6,s7,s8,s9,Zl,p1.trans e1,p2⟩
 .simp only[aC];with_reducible refine ay (aLy N h1 hN _ ?_ ?_ ?_ ?_ ?_ ?_ ?_ ?_ ?_ x.b.2.1.2.1.1 d4 hQ) λy _ hy=> ?_
  .exact hq
  .exact l5
  .exact l6
  .exact l7
  .exact l8
  .exact l9
  .exact l10
  .exact hs
  .exact hl
  rw[av];obtain⟨q,qs,qt,qq,qr⟩:=hy;exact⟨q,(by rw[show y.b.2.1=d.2.1 from qs];exact d1),qt,(by rw[show y.b.2.1=d.2.1 from qs,<-d3];exact qq),qr⟩
theorem aRM (x:fV.B)(l5:x.c.2.1.b.1<=1000)(l6:x.c.b.1.b.1<=1000)(l7:x.c.b.2.1.b.1<=1000)(l8:x.d.1.b.1<=1000)(l9:x.d.2.1.b.1<=1000)(l10:x.d.b.1.b.1<=1000):Ok (dK x) (λe:kH=>e.2.1=x.2.1/\e.b.1=x.b.1/\e.b.2.1=x.b.2.1/\e.c.1=x.c.1/\e.d.b.2.1=x.d.b.2.1/\e.d.c.1=x.d.c.1/\e.d.c.2.1=x.d.c.2.1/\e.e.b.2.2=x.e.b.2.2/\((¬(0<=x.1.1/\x.1.1<6)/\e.c.2.1=x.c.2.1/\e.c.b.1=x.c.b.1/\e.c.b.2.1=x.c.b.2.1/\e.d.1=x.d.1/\e.d.2.1=x.d.2.1/\e.d.b.1=x.d.b.1)∨(x.1.1=0/\(PR x.c.2.1 e.c.2.1∨SR x.c.2.1 e.c.2.1)/\e.c.b.1=x.c.b.1/\e.c.b.2.1=x.c.b.2.1/\e.d.1=x.d.1/\e.d.2.1=x.d.2.1/\e.d.b.1=x.d.b.1)∨(x.1.1=1/\e.c.2.1=x.c.2.1/\(PR x.c.b.1 e.c.b.1∨SR x.c.b.1 e.c.b.1)/\e.c.b.2.1=x.c.b.2.1/\e.d.1=x.d.1/\e.d.2.1=x.d.2.1/\e.d.b.1=x.d.b.1)∨(x.1.1=2/\e.c.2.1=x.c.2.1/\e.c.b.1=x.c.b.1/\(PR x.c.b.2.1 e.c.b.2.1∨SR x.c.b.2.1 e.c.b.2.1)/\e.d.1=x.d.1/\e.d.2.1=x.d.2.1/\e.d.b.1=x.d.b.1)∨(x.1.1=3/\e.c.2.1=x.c.2.1/\e.c.b.1=x.c.b.1/\e.c.b.2.1=x.c.b.2.1/\(PR x.d.1 e.d.1∨SR x.d.1 e.d.1)/\e.d.2.1=x.d.2.1/\e.d.b.1=x.d.b.1)∨(x.1.1=4/\e.c.2.1=x.c.2.1/\e.c.b.1=x.c.b.1/\e.c.b.2.1=x.c.b.2.1/\e.d.1=x.d.1/\(PR x.d.2.1 e.d.2.1∨SR x.d.2.1 e.d.2.1)/\e.d.b.1=x.d.b.1)∨(x.1.1=5/\e.c.2.1=x.c.2.1/\e.c.b.1=x.c.b.1/\e.c.b.2.1=x.c.b.2.1/\e.d.1=x.d.1/\e.d.2.1=x.d.2.1/\(PR x.d.b.1 e.d.b.1∨SR x.d.b.1 e.d.b.1)))):=by
 unfold dK pS;try dsimp only
 show PQ _ _;rw[aRI,bT,aK];refine⟨λhn=> ?_,λhk=> ?_⟩
 .rw[av];refine⟨rfl,rfl,rfl,rfl,rfl,rfl,rfl,rfl,.inl ⟨λh=> ?_,rfl,rfl,rfl,rfl,rfl,rfl⟩⟩;rw[eT h.1,eT h.2] at hn;cases hn
 rw[afs] at hk;obtain⟨b,_,_⟩:=aSZ hk 6 (by omega);have hr:=hk;rw[cx,lC,lC] at hr;obtain⟨k0,k6⟩:=hr;simp only[aN,b]
 repeat' (first
  |rw[aC]
  |(with_reducible refine ay (aUm _ ?_) λe _ he=> ?_)
  |(with_reducible refine ay (awP _) λe _ he=> ?_)
  |(rw[uk];refine⟨λa ha=> ?_,λa ha=> ?_⟩)
  |(rw[bE];intro _ _)
  |(rw[aK];refine⟨λc=> ?_,λc=> ?_⟩<;>first|have c:=eq_of_beq c|have c:=akI c|skip))
 all_goals first
  |(dsimp only;omega)
  |(rw[av];exact⟨rfl,rfl,rfl,rfl,rfl,rfl,rfl,rfl,.inr (.inl ⟨by omega,.inr he,rfl,rfl,rfl,rfl,rfl⟩)⟩)
  |(rw[ha] at he;rw[av];exact⟨rfl,rfl,rfl,rfl,rfl,rfl,rfl,rfl,.inr (.inl ⟨by omega,.inl he,rfl,rfl,rfl,rfl,rfl⟩)⟩)
  |(rw[av];exact⟨rfl,rfl,rfl,rfl,rfl,rfl,rfl,rfl,.inr (.inr (.inl ⟨by omega,rfl,.inr he,rfl,rfl,rfl,rfl⟩))⟩)
  |(rw[ha] at he;rw[av];exact⟨rfl,rfl,rfl,rfl,rfl,rfl,rfl,rfl,.inr (.inr (.inl ⟨by omega,rfl,.inl he,rfl,rfl,rfl,rfl⟩))⟩)
  |(rw[av];exact⟨rfl,rfl,rfl,rfl,rfl,rfl,rfl,rfl,.inr (.inr (.inr (.inl ⟨by omega,rfl,rfl,.inr he,rfl,rfl,rfl⟩)))⟩)
  |(rw[ha] at he;rw[av];exact⟨rfl,rfl,rfl,rfl,rfl,rfl,rfl,rfl,.inr (.inr (.inr (.inl ⟨by omega,rfl,rfl,.inl he,rfl,rfl,rfl⟩)))⟩)
  |(rw[av];exact⟨rfl,rfl,rfl,rfl,rfl,rfl,rfl,rfl,.inr (.inr (.inr (.inr (.inl ⟨by omega,rfl,rfl,rfl,.inr he,rfl,rfl⟩))))⟩)
  |(rw[ha] at he;rw[av];exact⟨rfl,rfl,rfl,rfl,rfl,rfl,rfl,rfl,.inr (.inr (.inr (.inr (.inl ⟨by omega,rfl,rfl,rfl,.inl he,rfl,rfl⟩))))⟩)
  |(rw[av];exact⟨rfl,rfl,rfl,rfl,rfl,rfl,rfl,rfl,.inr (.inr (.inr (.inr (.inr (.inl ⟨by omega,rfl,rfl,rfl,rfl,.inr he,rfl⟩)))))⟩)
  |(rw[ha] at he;rw[av];exact⟨rfl,rfl,rfl,rfl,rfl,rfl,rfl,rfl,.inr (.inr (.inr (.inr (.inr (.inl ⟨by omega,rfl,rfl,rfl,rfl,.inl he,rfl⟩)))))⟩)
  |(rw[av];exact⟨rfl,rfl,rfl,rfl,rfl,rfl,rfl,rfl,.inr (.inr (.inr (.inr (.inr (.inr (⟨by omega,rfl,rfl,rfl,rfl,rfl,.inr he⟩))))))⟩)
  |(rw[ha] at he;rw[av];exact⟨rfl,rfl,rfl,rfl,rfl,rfl,rfl,rfl,.inr (.inr (.inr (.inr (.inr (.inr (⟨by omega,rfl,rfl,rfl,rfl,rfl,.inl he⟩))))))⟩)
  |skip
structure Clo (P:Int->Int->Bf->Prop):Prop where
 len:∀{m t b},P m t b->b.2.2.1<=64
 br:∀{m t u b c},P m t b->t<=u->BR u b c->P m u c
 pr:∀{m t b c},0<=m->m<=1000->P m t b->(PR b c∨SR b c)->P (m+1) t c
 up:∀{m t b},P m t b->P (m+1) t b
def Tq (T S:Int)(a:Bool)(n:Nat)(r:Nat->Int):Prop:=(a=false->S<=0)/\Qd T S n r
theorem aUI (x:mN.B):Ok (gm x) (λr:tx=>r.c.1=x.1.d.c.2.1):=by
 unfold gm tz;try dsimp only
 show PQ _ _;repeat' (first|(rw[bE];intro _ _))
 rw[av]
end Go.Proofs.YtldgljclcgaibaaGreat
