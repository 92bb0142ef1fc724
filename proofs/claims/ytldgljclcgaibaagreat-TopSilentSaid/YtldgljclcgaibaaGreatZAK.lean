/-
  Parts of the proof: N1 N2 TLa TLb TN TO TP TQ TR8 TS8 TPut TNh TNd TT TV TW TX TY TZ TNw TSp TDn TIm TSm TRn TRu TWt TWq
-/
import Derived.Test.YtldgljclcgaibaaGreatZAE
import Derived.Test.YtldgljclcgaibaaGreatZAI
import Derived.Test.YtldgljclcgaibaaGreatZAJ
import Derived.Test.YtldgljclcgaibaaGreatZAL
open Nat renaming beq→ww,ble→wd
open Int renaming toNat→ws,ofNat→wl,tdiv→t7
open Sum renaming inl→wr,inr→wn,elim→t8
set_option linter.all false
set_option maxRecDepth 100000
set_option maxHeartbeats 4000000
noncomputable section
namespace Go.Proofs.YtldgljclcgaibaaGreat
open Go.Ab Go.Ab.Pg Go.Ab.Rq
def axz:=qa (pl zY nil)
def aek:=qe (res (pl (aa (c gi (c gi (cu aL (cu aL (cu aL (cu aL (cu aL nP)))))))) (pu nil nil)))
abbrev axA:=aek.B
abbrev aiK:=Int->Int->Option axA
def aiL (g:aiK):Ct:=(39,FC axz (lf aek) (λb=>g b.1 b.2))
def axB (NX:apb)(abU:aCn)(x0:Int)(x1:Int):Pg axA:=opt (NX x1 false) λd=>opt (abU 10529810258 d.1 d.2) λd=>ret (x0,x1,wI (0-d.1))
def NY:=λx0 x1=>(axB ZJ ape x0 x1).val
theorem aMp:∀NX abU,D0 [apc NX,aCo abU] 39 axz (lf aek) λb=>axB NX abU b.1 b.2:=λ_ _ b=>by kernel_rfl
theorem axC [ax]:SC (aiL NY):=s0 (.c aG7 (.c aPO (.nil _))) (aMp ZJ ape)
def Lw:=qa (pl (cl (aa ya) nil) nil)
def akL:=qe (res (pu (ac aEl) (pu nil nil)))
def aDx:=qe (res (pu ua (pu nil (cu (cu (gp 1 434) aXF) (c (c gi (c gi (c gi (c gi (c gi (c gi (c gi (c gi (c gi (c gi (c gi (c gi (c gi (c gi (c gi (c gi (c iM (c iM (c gi (c gi (c gi (c gi (c gi (c gi (c gi (c gi (c gb (c iM (c aKq (cl iM (cu (gp 2 5) (cu (gp 3 10) (cu (gc (jk (pu rq6 (pu wJ (pu LG (pu G5 jL)))))) (cu aTw (cu aNU (cu aNV (cu aNW (cu aNX (cu (gp 10 8) (cu (gp 11 37) (cu aL (cu aL (cu JC (cu JC (cu (gp 12 3) (cu JC (cu aL (cu aL (cu aL (cu aL (cu JC (cu JC (cu JC (cu aL (cu aL (cu aL (cu atf (cu aL (cu aL (cu aL (cu aL (cu aL (cu aL (cu aL (cu aL (cu aL (cu (gc (jk (pu aNK (pu wJ (pu LG (pu (nat 10) jL)))))) nil))))))))))))))))))))))))))))))))))))))))))))))))))))))))))))))))))) (c lC (c aRZ (c aXJ (c aYd (c aYe (c aYf (c aYg (c aYh (c (cu aL (cu aL (cu aL (cu aL (cu aL (cl gi (cu (gc (jk (pu aI4 (pu wJ (pu LG (pu hU jL)))))) alu))))))) (c aKU (c (c gi (cl gi (cu (gc (jk (pu aI3 (pu wJ (pu LG (pu BO jL)))))) nil))) aYn))))))))))))))))
abbrev S5:=akL.B⊕a1D
def aCq:S5->T:=ls (lf akL) (λd=>lf aDx (d.1,d.2.1,d.b.1,(d.b.2.1,d.b.2.1,d.b.2.1,d.b.2.1,d.b.2.1,d.b.2.1,d.b.2.1,d.b.2.1),d.c.1,d.c.2.1,d.c.b.1,d.c.b.2.1,d.d.1,d.d.2.1,d.d.b.1,d.d.b.2.1,(d.b.2.1,d.b.2.1,d.b.2.1,d.b.2.1,d.b.2.1,d.b.2.1,d.b.2.1,d.b.2.1,d.b.2.1,d.b.2.1),(d.d.c.1,d.d.c.1,d.d.c.1,d.d.c.1,d.d.c.1,d.d.c.1,d.d.c.1,d.d.c.1,d.d.c.1),(d.d.c.2.1,d.d.c.2.1,d.d.c.2.1,d.d.c.2.1,d.d.c.2.1,d.d.c.2.1,d.d.c.2.1,d.d.c.2.1,d.d.c.2.1),(d.d.c.b.1,d.d.c.b.1,d.d.c.b.1,d.d.c.b.1,d.d.c.b.1,d.d.c.b.1,d.d.c.b.1,d.d.c.b.1,d.d.c.b.1),(d.d.c.b.2.1,d.d.c.b.2.1,d.d.c.b.2.1,d.d.c.b.2.1,d.d.c.b.2.1,d.d.c.b.2.1,d.d.c.b.2.1,d.d.c.b.2.1,d.d.c.b.2.1),(d.e.1,d.e.1,d.e.1,d.e.1,d.e.1,d.e.1,d.e.1,d.e.1,d.e.1),(d.e.2.1,d.e.2.1,d.e.2.1,d.e.2.1,d.e.2.1,d.e.2.1,d.e.2.1,d.e.2.1,d.e.2.1),d.e.b,d.e.b,d.e.b,d.e.b,d.e.b,d.e.b,d.e.b,d.e.b,d.e.b,d.e.b,d.e.b))
abbrev apf:=Lw.B->Option S5
def aCr (g:apf):Ct:=(12,FC Lw aCq g)
def abV (aiM:aGT)(x:Lw.B):Pg S5:=opt (aiM x) λd=>ae (match d with|wr val=>true|wn val=>false) (opt (match d with|wr a=>some a|wn val=>none) λd=>ret (wr ())) (opt (match d with|wn b=>some b|wr val=>none) λd=>ret (wn d))
def Gh:=λx=>(abV AA x).val
theorem aPP:∀aiM,D0 [auH aiM] 12 Lw aCq λb=>abV aiM b:=λ_ b=>by kernel_rfl
theorem aPQ [ax]:SC (aCr Gh):=s0 (.c aGW (.nil _)) (aPP AA)
def fW:=qa (pu (cu ua nil) (c ax6 (cd atr λb1=>(c ni (c oJ (c (cl (gs b1.c.1 pN) nil) (cd rz λb5=>(cd rA λb6=>(cd rB λb7=>(cd rC λb8=>(cd rD λb9=>(cd aEs λb10=>(c nQ (cd aEi λb12=>(c (cl (gs b1.e mR) nil) (c (cl (gs b5.b.1 aA) nil) (c (cl (gs b6.b.1 aA) nil) (c (cl (gs b7.b.1 aA) nil) (c (cl (gs b8.b.1 aA) nil) (c (cl (gs b9.b.1 aA) nil) (c (cl (gs b10.b.1 aA) nil) (cl (cl (gs b12.b jU) nil) nil))))))))))))))))))))))
def aqs:=qe (res (pu RB (pr (c (zX ax6) (cl (zX aR2) aEw)) aYr)))
abbrev kv:=((aqP×E'×Bool×NI×(NI×NI)×(Nat×Nat)×rj×Bool×Int×lG×Bool×Bool×Bool×Int×Int×Int×Ed×Nat)×(lG×Int×Int)×LF×Rz×bO×bO×bO×bO×bO×bO×Ly×tZ×E7×di×di×di×di×di×di×Nat×NI×NI×NI×NI×NI×NI×NI×NI×NI×NI×NI)
def ZM:kv->T:=λd=>lf aqs (d.1,d.2.1,d.b.1,d.b.2.1,d.c.1,d.c.2.1,d.c.b.1,d.c.b.2.1,d.d.1,d.d.2.1,d.d.b.1,d.d.b.2.1,d.d.c.1,(d.c.1.b.1,d.d.c.2.1),(d.c.2.1.b.1,d.d.c.b.1),(d.c.b.1.b.1,d.d.c.b.2.1),(d.c.b.2.1.b.1,d.e.1),(d.d.1.b.1,d.e.2.1),(d.d.2.1.b.1,d.e.b.1),d.e.b.2)
abbrev xJ:=fW.B->Option kv
def KJ (g:xJ):Ct:=(15,FC fW ZM g)
def jj:=qs (st (pr (cu ua (us 1 (cl ai (us 34 nil)))) (pl (c (so ax6) (c (so aR2) (cu nO (cu nO (cu nO (cu nO (cu nO (cu nO (cu nO (cu nO (cu nO (cu nO (cu nO (cu nO (cu nO (cu nO (cu nO (cu nO (cu nO (cu nO (cu nO (c qP (c qQ (c te (cd (so aEy) λb24=>(cd aEz λb25=>(cd ab6 λb26=>(cd ab7 λb27=>(cd ab8 λb28=>(cd agn λb29=>(c pO (c (so aRR) (c uV (c (so (cl (gs b24.b.1 aA) nil)) (c (so (cl (gs b25.b.1 aA) nil)) (c (so (cl (gs b26.b.1 aA) nil)) (c (so (cl (gs b27.b.1 aA) nil)) (c (so (cl (gs b28.b.1 aA) nil)) (c (so (cl (gs b29.b.1 aA) nil)) Hr))))))))))))))))))))))))))))))))))))))) ago)))
def apg:=qs (st (pr (cu ua (us 1 (c ai (us 25 aX6)))) (pl (c (so ax6) (c (so aR2) (cu nO (cu nO (cu nO (cu nO (cu nO (cu nO (cu nO (cu nO (cu nO (cu nO (cu nO (cu nO (cu nO (cu nO (cu nO (cu nO (cu nO (cu nO (cu nO (c qP (c qQ (c te (c (so aEy) (c aEz (c ab6 (c ab7 (c ab8 (c agn (c pO (c (so aRR) JL)))))))))))))))))))))))))))))))) ago)))
abbrev tW:=(lG×(Int×Bool)×(E'×Bool×NI×(NI×NI)×(Nat×Nat)×rj×Bool×Int×lG×Bool×Bool×Bool×Int×Int×Int×Ed×Nat)×(lG×Int×Int)×LF×Rz×bO×bO×bO×bO×bO×bO×Ly×tZ×E7×di×di×di×di×di×di×Nat×NI×NI×NI×NI×NI×NI×NI×NI×NI×NI×NI)
def S6 {ρ:Type}(x:tW)(K:AX->St->Option ρ):Option ρ:=(λd=>K .nrm (apg.em ((d.1.1,d.1.2.1,d.1.1,d.1.b),(d.2.1.1,d.1.b,d.2.1.2),d.b.1,d.b.2.1,d.c.1,d.c.2.1,d.c.b.1,d.c.b.2.1,d.d.1,d.d.2.1,d.d.b.1,d.d.b.2.1,d.d.c.1,d.d.c.2.1,d.d.c.b.1,(d.c.b.1.b.1,d.d.c.b.2.1),(d.c.b.2.1.b.1,d.e.1),(d.d.1.b.1,d.e.2.1),(d.d.2.1.b.1,d.e.b.1),(d.d.b.1.b.1,d.e.b.2.1),(d.d.b.2.1.b.1,d.e.c.1),d.e.c.2))) x
def S7 (d:jj.B):Pg tW:=ret ((d.1,d.2.1.2.1,wI (d.2.1.2.1+d.1)),(d.2.1.1,d.2.1.2.2),d.2.2)
def iI (d:jj.B):Option tW:=(S7 d).val
def S8:Hd:=⟨3,(1::rg 3 34 []),[(0,[])]⟩
def sf (aMq:aiK)(NZ:zR)(eI:LT jj tW)(x:fW.B):Pg kv:=let n7:=x.2.2.2.2.2;let n3:=x.2.1.2.2.2.2;let n6:=n3.2.2.2.2.2.2.2.2.2.2.2.2;let n1:=n7.2;let n4:=n1.2.2.2;let y0:=wI (x.1.1+8000);opt (aMq y0 8000) λd=>ae (ww n3.1 n3.1) (ae (ww n6 n6) (ae (ww n7.1.2.2.1 n7.1.2.2.1) (ae (ww n1.1.2.2.1 n1.1.2.2.1) (ae (ww n1.2.1.2.2.1 n1.2.1.2.2.1) (ae (ww n1.2.2.1.2.2.1 n1.2.2.1.2.2.1) (ae (ww n4.1.2.2.1 n4.1.2.2.1) (ae (ww n4.2.1.2.2.1 n4.2.1.2.2.1) (ae (ww n4.2.2.2.1.2.2 n4.2.2.2.1.2.2) (opt (NZ ((d.1,d.2.1,(0,0,0),0,0,d.2.2),x.2)) λd=>let n2:=d.2.2.2.2.2;let n5:=n2.2.2.2;let uP:=ww n2.1.2.2.1 n2.1.2.2.1;let y1:=ww n2.2.1.2.2.1 n2.2.1.2.2.1;let y2:=ww n2.2.2.1.2.2.1 n2.2.2.1.2.2.1;let y3:=ww n5.1.2.2.1 n5.1.2.2.1;let y4:=ww n5.2.1.2.2.1 n5.2.1.2.2.1;let y5:=ww n5.2.2.1.2.2.1 n5.2.2.1.2.2.1;ae (d.1.2==0) (ae uP (ae y1 (ae y2 (ae y3 (ae y4 (ae y5 (opt (eI (d.1.1,(y0,x.1.2),d.2)) λd=>ret (((d.2.1.1,d.1.2.2,d.2.1.2),d.2.2.1),d.2.2.2)) no) no) no) no) no) no) (ae uP (ae y1 (ae y2 (ae y3 (ae y4 (ae y5 (opt (eI (d.1.1,x.1,d.2)) λd=>ret (((d.2.1.1,d.1.2.2,d.2.1.2),d.2.2.1),d.2.2.2)) no) no) no) no) no) no)) no) no) no) no) no) no) no) no) no
def cY:=λx=>(sf NY bU iI x).val
abbrev Dc:=aiK×zR×(LT jj tW)
def KL (p:Dc):KK:=⟨[aiL p.1,zT p.2.1],⟨[],[],(rg 0 21 []),[⟨S8,gv 3 21 jj S6 p.b⟩],(some ⟨0,(rg 0 37 []),[(3,[]),(4,[]),(5,[]),(6,[]),(7,[]),(8,[]),(9,[]),(10,[]),(11,[]),(12,[]),(13,[]),(14,[]),(15,[]),(16,[]),(17,[]),(18,[]),(19,[]),(20,[]),(21,[]),(22,[]),(0,[])]⟩)⟩,21,15⟩
theorem ak8 (p:Dc):JI (KL p) 3 jj S6 (S7):=λ_ d K=>by kernel_rfl
theorem auS (p:Dc):D2 (KL p) fW ZM λb=>sf p.1 p.2.1 p.b b:=λb=>by kernel_rfl
abbrev KM:Dc:=(NY,bU,iI)
theorem ZN [ax]:SC (KJ cY):=sc (kS (k:=KL KM) (.c axC (.c NR (.nil _))) [] [3] trivial ⟨kJ S8 (ak8 KM),trivial⟩ (auS KM))
def lU:=qa (pr (cu ua (cl (aa (c gi (c gi (c gi (a 8 aEp aKP))))) nil)) (c ax6 (cd atr λb1=>(c ni (c oJ (c (cl (gs b1.c.1 pN) nil) (cd rz λb5=>(cd rA λb6=>(cd rB λb7=>(cd rC λb8=>(cd rD λb9=>(cd aEs λb10=>(c nQ (cd aEi λb12=>(c (cl (gs b1.e mR) nil) (c (cl (gs b5.b.1 aA) nil) (c (cl (gs b6.b.1 aA) nil) (c (cl (gs b7.b.1 aA) nil) (c (cl (gs b8.b.1 aA) nil) (c (cl (gs b9.b.1 aA) nil) (c (cl (gs b10.b.1 aA) nil) (cl (cl (gs b12.b jU) nil) nil))))))))))))))))))))))
def ak9:=qe (res (pu RB (pr (c (zX ax6) (cl (zX (a 26 ya (c gb (c iM (a 2 Ac (cu (gp 21 5) (cu (gp 22 10) (c (gc (jk (pu (nat 23) (pu (ox (pu eS (pu eS G5))) (pl mb (pu G5 jL)))))) aYk)))))))) aEw)) aYr)))
def ala:=qe (res (pu RB (pr (cl (zX aRl) (cu Vs aEw)) (c aR3 (c ni (c oJ (c aKS (c aKY (c aKZ (c aK0 (c aK1 (c aRW (c aX3 (c nQ (c aRS aK4)))))))))))))))
abbrev ur:=((aqP×E'×Bool×NI×(NI×NI)×Nat×rj×Bool×Int×lG×Bool×Bool×Bool×Int×Int×Int×Ed×Nat)×(lG×Int×Int)×LF×aWk×bO×bO×bO×bO×bO×bO×Ly×tZ×aNI×AI×AI×AI×AI×AI×AI×NI×NI×NI×NI×NI×NI×NI×NI×NI×NI×NI)⊕(aqP×(E'×Bool×NI×(NI×NI)×(Nat×Nat)×rj×Bool×Int×lG×Bool×Bool×Bool×Int×Int×Int×Ed×Nat)×(lG×Int×Int)×LF×Rz×bO×bO×bO×bO×bO×bO×Ly×tZ×E7×di×di×di×di×di×di×Nat×NI×NI×NI×NI×NI×NI×NI×NI×NI×NI×NI)
def abW:ur->T:=ls (λd=>lf ak9 (d.1,d.2.1,d.b.1,(d.1.c.2.1,d.b.2.1),d.c.1,d.c.2.1,d.c.b.1,d.c.b.2.1,d.d.1,d.d.2.1,d.d.b.1,d.d.b.2.1,(d.1.e.2,d.d.c.1),d.d.c.2.1,d.d.c.b.1,d.d.c.b.2.1,d.e.1,d.e.2.1,d.e.b.1,d.d.b.2.1.b,d.e.b.2)) (λd=>lf ala (d.1,d.2.1,d.b.1,d.b.2.1,d.c.1,d.c.2.1,d.c.b.1,d.c.b.2.1,d.d.1,d.d.2.1,d.d.b.1,d.d.b.2.1,d.d.c.1,d.d.c.2.1,(d.c.2.1.b.1,d.d.c.b.1),(d.c.b.1.b.1,d.d.c.b.2.1),(d.c.b.2.1.b.1,d.e.1),(d.d.1.b.1,d.e.2.1),(d.d.2.1.b.1,d.e.b.1),(d.d.b.1.b.1,d.e.b.2.1),d.e.c))
abbrev N3:=lU.B->Option ur
def abX (g:N3):Ct:=(14,FC lU abW g)
def eF:=qs (st (pr (cu ua (us 2 (cu aNZ (xs 1 (us 1 (c ai (us 1 (cl ai (us 71 nil))))))))) (pl (c aEj (cu nO (cu nO (cu nO (cu nO (cu nO (cu nO (cu nO (cu nO (cu nO (cu nO (cu nO (cu nO (cu nO (cu nO (cu nO (cu nO (cu nO (cu nO (cu nO (cu nO (c aEx (c aED (c qP (c qQ (c te (cd ab6 λb26=>(cd ab7 λb27=>(cd ab8 λb28=>(cd agn λb29=>(cd atq λb30=>(cd aEA λb31=>(c pO (c aEv (c uV (c (so (cl (gs b26.b.1 aA) nil)) (c (so (cl (gs b27.b.1 aA) nil)) (c (so (cl (gs b28.b.1 aA) nil)) (c (so (cl (gs b29.b.1 aA) nil)) (c (so (cl (gs b30.b.1 aA) nil)) (c (so (cl (gs b31.b.1 aA) nil)) Hr))))))))))))))))))))))))))))))))))))))))) ago)))
def aiN:=qs (st (pr (cu ua (us 2 (cu aNZ (xs 1 (us 1 (c ai (us 1 (c ai (c ai (cu aKK (c ai (c ab (cu Hn (c ai (c ab (c ab (cu Hn (cu ua (cu ua (cu aKI (c ai (c ab (c ab (cu Hn (cu ua (cu ua (cu aKJ (c ai (c ab (cl ab aWn)))))))))))))))))))))))))))))) (pl (c aEj (cu nO (cu nO (cu nO (cu nO (cu nO (cu nO (cu nO (cu nO (cu nO (cu nO (cu nO (cu nO (cu nO (cu nO (cu nO (cu nO (cu nO (cu nO (cu nO (cu nO (c aEx (c aED (c qP (c qQ (c te (c ab6 (c ab7 (c ab8 (c agn (c atq (c aEA (c pO (c aEv JL)))))))))))))))))))))))))))))))))) ago)))
def aiO:=qs (st (pr (cu ua (us 2 (cu aNZ (xs 1 (us 1 (c ai (us 1 (c ai (c ai (cu aKK (c ai (c ab (cu Hn (c ai (c ab (c ab (cu Hn (cu ua (cu ua (cu aKI (c ai (c ab (cl ab aXz))))))))))))))))))))))) (pl (c aEj (cu nO (cu nO (cu nO (cu nO (cu nO (cu nO (cu nO (cu nO (cu nO (cu nO (cu nO (cu nO (cu nO (cu nO (cu nO (cu nO (cu nO (cu nO (cu nO (cu nO (c aEx (c aED (c qP (c qQ (c te (c ab6 (c ab7 (c ab8 (c agn (c atq (c aEA (c pO (c aEv JL)))))))))))))))))))))))))))))))))) ago)))
def aiP:=qs (st (pr (cu ua (us 2 (cu aNZ (xs 1 (us 1 (c ai (us 1 (c ai (c ai (cu aKK (c ai (c ab (cu Hn (c ai (c ab (cl ab aXV)))))))))))))))) (pl (c aEj (cu nO (cu nO (cu nO (cu nO (cu nO (cu nO (cu nO (cu nO (cu nO (cu nO (cu nO (cu nO (cu nO (cu nO (cu nO (cu nO (cu nO (cu nO (cu nO (cu nO (c aEx (c aED (c qP (c qQ (c te (c ab6 (c ab7 (c ab8 (c agn (c atq (c aEA (c pO (c aEv JL)))))))))))))))))))))))))))))))))) ago)))
def aiQ:=qs (st (pr (cu ua (us 2 (cu aNZ (xs 1 (us 1 (c ai (us 1 (c ai (c ai (cu aKK (c ai (cl ab (cu mP (xs 2 (cu mP aXV))))))))))))))) (pl (c aEj (cu nO (cu nO (cu nO (cu nO (cu nO (cu nO (cu nO (cu nO (cu nO (cu nO (cu nO (cu nO (cu nO (cu nO (cu nO (cu nO (cu nO (cu nO (cu nO (cu nO (c aEx (c aED (c qP (c qQ (c te (c ab6 (c ab7 (c ab8 (c agn (c atq (c aEA (c pO (c aEv JL)))))))))))))))))))))))))))))))))) ago)))
abbrev np:=((Int×Int×Int×Bool×Bool×Int×Bool×Int×Bool)×Bool×aTo×(E'×Bool×NI×(NI×NI)×(Nat×Nat)×rj×Bool×Int×lG×Bool×Bool×Bool×Int×Int×Int×Ed×Nat)×(lG×Int×Int)×LF×Rz×bO×bO×bO×bO×bO×bO×Ly×tZ×E7×di×di×di×di×di×di×Nat×NI×NI×NI×NI×NI×NI×NI×NI×NI×NI×NI)⊕(((Int×Int×Int×Bool×Bool×Int×Bool)×(Int×Bool)×aTo×(E'×Bool×NI×(NI×NI)×(Nat×Nat)×rj×Bool×Int×lG×Bool×Bool×Bool×Int×Int×Int×Ed×Nat)×(lG×Int×Int)×LF×Rz×bO×bO×bO×bO×bO×bO×Ly×tZ×E7×di×di×di×di×di×di×Nat×NI×NI×NI×NI×NI×NI×NI×NI×NI×NI×NI)⊕(((Int×Int×Int×Bool×Bool)×aqP×aTo×(E'×Bool×NI×(NI×NI)×(Nat×Nat)×rj×Bool×Int×lG×Bool×Bool×Bool×Int×Int×Int×Ed×Nat)×(lG×Int×Int)×LF×Rz×bO×bO×bO×bO×bO×bO×Ly×tZ×E7×di×di×di×di×di×di×Nat×NI×NI×NI×NI×NI×NI×NI×NI×NI×NI×NI)⊕(aTs×aqP×aTo×(E'×Bool×NI×(NI×NI)×(Nat×Nat)×rj×Bool×Int×lG×Bool×Bool×Bool×Int×Int×Int×Ed×Nat)×(lG×Int×Int)×LF×Rz×bO×bO×bO×bO×bO×bO×Ly×tZ×E7×di×di×di×di×di×di×Nat×NI×NI×NI×NI×NI×NI×NI×NI×NI×NI×NI)))
def Vo {ρ:Type}(x:np)(K:AX->St->Option ρ):Option ρ:=(t8 (λd=>K (.ex 1) (aiN.em ((d.1.1,d.1.2.1,d.1.1,d.1.b.1,d.1.b.2.1,d.1.1,d.1.c.1,d.1.c.1,d.1.c.2.1,d.1.c.b.1,d.1.c.b.1,d.1.c.b.2.1,d.1.d,d.1.d),(d.1.c.2.1,d.1.c.b.2.1,d.2.1),(d.b.1.1,d.b.1.2.1,d.1.b.1,d.b.1.b),d.b.2.1,d.c.1,d.c.2.1,d.c.b.1,d.c.b.2.1,d.d.1,d.d.2.1,d.d.b.1,d.d.b.2.1,d.d.c.1,d.d.c.2.1,d.d.c.b.1,d.d.c.b.2.1,(d.c.b.2.1.b.1,d.e.1),(d.d.1.b.1,d.e.2.1),(d.d.2.1.b.1,d.e.b.1),(d.d.b.1.b.1,d.e.b.2.1),(d.d.b.2.1.b.1,d.e.c.1),(d.d.c.1.b.1,d.e.c.2.1),d.e.c.b))) (t8 (λd=>K (.ex 1) (aiO.em ((d.1.1,d.1.2.1,d.1.1,d.1.b.1,d.1.b.2.1,d.1.1,d.1.c.1,d.1.c.1,d.1.c.2.1,d.1.c.b,d.1.c.b),(d.1.c.2.1,d.2.1),(d.b.1.1,d.b.1.2.1,d.1.b.1,d.b.1.b),d.b.2.1,d.c.1,d.c.2.1,d.c.b.1,d.c.b.2.1,d.d.1,d.d.2.1,d.d.b.1,d.d.b.2.1,d.d.c.1,d.d.c.2.1,d.d.c.b.1,d.d.c.b.2.1,(d.c.b.2.1.b.1,d.e.1),(d.d.1.b.1,d.e.2.1),(d.d.2.1.b.1,d.e.b.1),(d.d.b.1.b.1,d.e.b.2.1),(d.d.b.2.1.b.1,d.e.c.1),(d.d.c.1.b.1,d.e.c.2.1),d.e.c.b))) (t8 (λd=>K (.ex 1) (aiP.em ((d.1.1,d.1.2.1,d.1.1,d.1.b.1,d.1.b.2.1,d.1.1,d.1.c,d.1.c),d.2.1,(d.b.1.1,d.b.1.2.1,d.1.b.1,d.b.1.b),d.b.2.1,d.c.1,d.c.2.1,d.c.b.1,d.c.b.2.1,d.d.1,d.d.2.1,d.d.b.1,d.d.b.2.1,d.d.c.1,d.d.c.2.1,d.d.c.b.1,d.d.c.b.2.1,(d.c.b.2.1.b.1,d.e.1),(d.d.1.b.1,d.e.2.1),(d.d.2.1.b.1,d.e.b.1),(d.d.b.1.b.1,d.e.b.2.1),(d.d.b.2.1.b.1,d.e.c.1),(d.d.c.1.b.1,d.e.c.2.1),d.e.c.b))) (λd=>K (.ex 1) (aiQ.em ((d.1.1,d.1.2.1,d.1.1,d.1.b),d.2.1,(d.b.1.1,d.b.1.2.1,d.1.b.1,d.b.1.b),d.b.2.1,d.c.1,d.c.2.1,d.c.b.1,d.c.b.2.1,d.d.1,d.d.2.1,d.d.b.1,d.d.b.2.1,d.d.c.1,d.d.c.2.1,d.d.c.b.1,d.d.c.b.2.1,(d.c.b.2.1.b.1,d.e.1),(d.d.1.b.1,d.e.2.1),(d.d.2.1.b.1,d.e.b.1),(d.d.b.1.b.1,d.e.b.2.1),(d.d.b.2.1.b.1,d.e.c.1),(d.d.c.1.b.1,d.e.c.2.1),d.e.c.b)))))) x
def AW (KN:xJ)(d:eF.B):PL eF np:=let n15:=d.1.2;let bM:=d.2.2.1;let bz:=d.1.1;let aW:=d.2.1;let n8:=bM.2.2;let n4:=d.2.2.2;let n7:=n4.1.2.2.2.2;let bA:=n7.2.2.2.2.2.2.2.2.2.2.2.2;let n6:=n4.2.2.2.2;let n2:=n6.2.2.2;let n16:=n2.2.2;let n5:=n16.2.2;let bh:=n5.2.2.2.2;let n3:=bh.2.2.2.2.2;let n9:=n3.2.2.2.2.2;let n1:=(bM.1,bM.2.1,n8.2);let y0:=decide (bz<40);let y1:=decide (aW.1<562949953421312);let y2:=decide (aW.2.1<60);let y3:=decide (bz<n8.1);ae y3 (ae y0 (ae y1 (ae y2 (ae (ww n7.1.2 n7.1.2) (ae (ww bA bA) (ae (ww n6.1.2.2.1 n6.1.2.2.1) (ae (ww n6.2.1.2.2.1 n6.2.1.2.2.1) (ae (ww n6.2.2.1.2.2.1 n6.2.2.1.2.2.1) (ae (ww n2.1.2.2.1 n2.1.2.2.1) (ae (ww n2.2.1.2.2.1 n2.2.1.2.2.1) (ae (ww n16.1.2.2.1 n16.1.2.2.1) (ae (ww n5.1.2.2 n5.1.2.2) (opt (KN (aW,(n4.1.1,n4.1.2.1,n4.1.2.2.1,n4.1.2.2.2.1,n7.1.2,n7.2),n4.2.1,n4.2.2.1,(sh8 n7.1.1 n4.2.2.2.1.2),n6.1,n6.2.1,n6.2.2.1,n2.1,n2.2.1,n16.1,n16.2.1,n5.1,(ave 0 n5.2.1.2),(v5 0 n5.2.2.1),(v5 0 n5.2.2.2.1),(v5 0 bh.1),(v5 0 bh.2.1),(v5 0 bh.2.2.1),(v5 0 bh.2.2.2.1),λj=>n3.1 (0+j),λj=>n3.2.1 (0+j),λj=>n3.2.2.1 (0+j),λj=>n3.2.2.2.1 (0+j),λj=>n3.2.2.2.2.1 (0+j),λj=>n9.1 (0+j),λj=>n9.2.1 (0+j),λj=>n9.2.2.1 (0+j),λj=>n9.2.2.2.1 (0+j),λj=>n9.2.2.2.2.1 (0+j),λj=>n9.2.2.2.2.2 (0+j))) λaj=>ret (wr ((wI (bz+1),n15),aj.1.1,bM,aj.1.2,aj.2))) no) no) no) no) no) no) no) no) no) (ret (wn (wr ((bz,n15,n8.1,y3,y0,aW.1,y1,aW.2.1,y2),aW.2.2,n1,n4))))) (ret (wn (wn (wr ((bz,n15,n8.1,y3,y0,aW.1,y1),aW.2,n1,n4)))))) (ret (wn (wn (wn (wr ((bz,n15,n8.1,y3,y0),aW,n1,n4))))))) (ret (wn (wn (wn (wn ((bz,n15,n8.1,y3),aW,n1,n4))))))
def nq:=bj (AW cY) 2000
def j5:=qs (st (pr (cu ua (us 3 aWw)) (pl (c (so aRl) (cu nO (cu nO (cu nO (cu nO (cu nO (cu nO (cu nO (cu nO (cu nO (cu nO (cu nO (cu nO (cu nO (cu nO (cu nO (cu nO (cu nO (cu nO (cu nO (cu nO (c (so aR3) (c qP (c qQ (c te (cd aEz λb25=>(cd ab6 λb26=>(cd ab7 λb27=>(cd ab8 λb28=>(cd agn λb29=>(cd atq λb30=>(c pO (c (so aRS) (c uV (c (so (cl (gs b25.b.1 aA) nil)) (c (so (cl (gs b26.b.1 aA) nil)) (c (so (cl (gs b27.b.1 aA) nil)) (c (so (cl (gs b28.b.1 aA) nil)) (c (so (cl (gs b29.b.1 aA) nil)) (c (so (cl (gs b30.b.1 aA) nil)) Hr)))))))))))))))))))))))))))))))))))))))) ago)))
def aqt:=qs (st (pr (cu ua (us 3 (c ai (us 66 aX6)))) (pl (c (so aRl) (cu nO (cu nO (cu nO (cu nO (cu nO (cu nO (cu nO (cu nO (cu nO (cu nO (cu nO (cu nO (cu nO (cu nO (cu nO (cu nO (cu nO (cu nO (cu nO (cu nO (c (so aR3) (c qP (c qQ (c te (c aEz (c ab6 (c ab7 (c ab8 (c agn (c atq (c pO (c (so aRS) JL))))))))))))))))))))))))))))))))) ago)))
abbrev uS:=(lG×(Int×Bool)×(E'×Bool×NI×(NI×NI)×(Nat×Nat)×rj×Bool×Int×lG×Bool×Bool×Bool×Int×Int×Int×Ed×Nat)×(lG×Int×Int)×LF×Rz×bO×bO×bO×bO×bO×bO×Ly×tZ×E7×di×di×di×di×di×di×Nat×NI×NI×NI×NI×NI×NI×NI×NI×NI×NI×NI)
def Vp {ρ:Type}(x:uS)(K:AX->St->Option ρ):Option ρ:=(λd=>K .nrm (aqt.em ((d.1.1,d.1.2.1,d.1.1,d.1.b),(d.2.1.1,d.1.b,d.2.1.2),d.b.1,d.b.2.1,d.c.1,d.c.2.1,d.c.b.1,d.c.b.2.1,d.d.1,d.d.2.1,d.d.b.1,d.d.b.2.1,d.d.c.1,d.d.c.2.1,d.d.c.b.1,(d.c.b.1.b.1,d.d.c.b.2.1),(d.c.b.2.1.b.1,d.e.1),(d.d.1.b.1,d.e.2.1),(d.d.2.1.b.1,d.e.b.1),(d.d.b.1.b.1,d.e.b.2.1),(d.d.b.2.1.b.1,d.e.c.1),d.e.c.2))) x
def Vq (d:j5.B):Pg uS:=ret ((d.1,d.2.1.2.1,wI (d.2.1.2.1+d.1)),(d.2.1.1,d.2.1.2.2),d.2.2)
def nr (d:j5.B):Option uS:=(Vq d).val
def Vr:Hd:=⟨13,(1::2::3::rg 5 75 []),[(3,[]),(4,[]),(5,[]),(6,[]),(7,[]),(8,[]),(9,[]),(10,[]),(11,[]),(12,[]),(13,[]),(14,[]),(15,[]),(16,[]),(17,[]),(18,[]),(19,[]),(20,[]),(21,[]),(22,[]),(0,[])]⟩
def E4 (aiR:Da)(NZ:zR)(eI:LT eF np)(rn:LT j5 uS)(x:lU.B):Pg ur:=let bM:=x.2.1;let bz:=x.1.2;let n8:=x.2.2;let n6:=n8.2.2.2.2;let n5:=bz.2.2.1;let bA:=n5.2.2;let n4:=n8.1.2.2.2.2;let n7:=n4.2.2.2.2.2.2.2.2.2.2.2.2;let n1:=n6.2.2;let bh:=n1.2.2;let n2:=bh.2.2.2;let n9:=n2.2.2.2.2;let y0:=ww n4.1 n4.1;let y1:=ww n7 n7;let y2:=ww n6.1.2.2.1 n6.1.2.2.1;let y3:=ww n6.2.1.2.2.1 n6.2.1.2.2.1;let y4:=ww n1.1.2.2.1 n1.1.2.2.1;let y5:=ww n1.2.1.2.2.1 n1.2.1.2.2.1;let y6:=ww bh.1.2.2.1 bh.1.2.2.1;let y7:=ww bh.2.1.2.2.1 bh.2.1.2.2.1;let y8:=ww n2.1.2.2 n2.1.2.2;ae (x.1.1==1) (ae y0 (ae y1 (ae y2 (ae y3 (ae y4 (ae y5 (ae y6 (ae y7 (ae y8 (opt (aiR ((bz.1,bz.2.2.2),n8)) λd=>ret (wr ((bM,d.2.1),d.2.2))) no) no) no) no) no) no) no) no) no) (ae (x.1.1==0) (ae y0 (ae y1 (ae y2 (ae y3 (ae y4 (ae y5 (ae y6 (ae y7 (ae y8 (opt (NZ (n5,n8)) λd=>let n3:=d.2.2.2.2.2;let aW:=n3.2.2.2;let y0:=d.1.2==0;let y1:=ww n3.1.2.2.1 n3.1.2.2.1;let y2:=ww n3.2.1.2.2.1 n3.2.1.2.2.1;let y3:=ww n3.2.2.1.2.2.1 n3.2.2.1.2.2.1;let y4:=ww aW.1.2.2.1 aW.1.2.2.1;let y5:=ww aW.2.1.2.2.1 aW.2.1.2.2.1;let y6:=ww aW.2.2.1.2.2.1 aW.2.2.1.2.2.1;ae y0 (ae y1 (ae y2 (ae y3 (ae y4 (ae y5 (ae y6 (opt (rn (d.1.1,(n5.1,bM.2.1,y0),d.2)) λd=>ret (wn ((d.2.1.1,d.1.2.2,d.2.1.2),d.2.2))) no) no) no) no) no) no) (ae y1 (ae y2 (ae y3 (ae y4 (ae y5 (ae y6 (opt (rn (d.1.1,(bM.1,bM.2.1,y0),d.2)) λd=>ret (wn ((d.2.1.1,d.1.2.2,d.2.1.2),d.2.2))) no) no) no) no) no) no)) no) no) no) no) no) no) no) no) no) (ae y2 (ae y3 (ae y4 (ae y5 (ae y6 (ae y7 (opt (eI ((0,x.1.1),bM,(x.1.1,bz.1,bz.2.1,n5.1,n5.2.1,bA.1.1,bA.1.2.1,bA.1.2.2,bA.2.1,bA.2.2.1,bA.2.2.2,bz.2.2.2),(n8.1.1,n8.1.2.1,n8.1.2.2.1,n8.1.2.2.2.1,(0,n4.1),n4.2),n8.2.1,n8.2.2.1,(n4.1,n8.2.2.2.1),n6.1,n6.2.1,n1.1,n1.2.1,bh.1,bh.2.1,bh.2.2.1,n2.1,(n7,n2.2.1),n2.2.2.1,n2.2.2.2.1,n9.1,n9.2.1,n9.2.2.1,n9.2.2.2.1,n2.1.2.2,n9.2.2.2.2)) λx=>sum x (λd=>ret (wn ((d.1.2.2.2.2.2.1,d.1.2.2.2.2.2.2.2.1,d.2.1),d.2.2.2))) λx=>sum x (λd=>ret (wn ((d.1.2.2.2.2.2.1,d.2.1),d.2.2.2))) λx=>sum x (λd=>ret (wn (d.2.1,d.2.2.2))) λd=>ret (wn (d.2.1,d.2.2.2))) no) no) no) no) no) no))
def jT:=λx=>(E4 dJ bU nq nr x).val
abbrev zV:=Da×zR×xJ×(LT eF np)×(LT j5 uS)
def E5 (p:zV):KK:=⟨[NU p.1,zT p.2.1,KJ p.b.1],⟨[⟨3,(1::2::5::7::rg 9 71 []),[(3,[]),(4,[]),(5,[]),(6,[]),(7,[]),(8,[]),(9,[]),(10,[]),(11,[]),(12,[]),(13,[]),(14,[]),(15,[]),(16,[]),(17,[]),(18,[]),(19,[]),(20,[]),(21,[]),(22,[]),(0,[])]⟩],[gv 3 21 eF Vo p.b.2.1],(rg 0 21 []),[⟨Vr,gv 13 21 j5 Vp p.c⟩],(some ⟨0,(rg 0 80 []),[(3,[]),(4,[]),(5,[]),(6,[]),(7,[]),(8,[]),(9,[]),(10,[]),(11,[]),(12,[]),(13,[]),(14,[]),(15,[]),(16,[]),(17,[]),(18,[]),(19,[]),(20,[]),(21,[]),(22,[]),(0,[])]⟩)⟩,21,14⟩
theorem aph (p:zV):LI (E5 p) 3 eF Vo (AW p.b.1):=λ_ d c K=>by kernel_rfl
theorem api (p:zV):JI (E5 p) 13 j5 Vp (Vq):=λ_ d K=>by kernel_rfl
theorem axD (p:zV):D2 (E5 p) lU abW λb=>E4 p.1 p.2.1 p.b.2.1 p.c b:=λb=>by kernel_rfl
abbrev E6:zV:=(dJ,bU,cY,nq,nr)
theorem axE [ax]:SC (abX jT):=sc (kS (k:=E5 E6) (.c aiJ (.c NR (.c ZN (.nil _)))) [3] [13] ⟨kL (aph E6),trivial⟩ ⟨kJ Vr (api E6),trivial⟩ (axD E6))
end Go.Proofs.YtldgljclcgaibaaGreat
namespace Go.Proofs.YtldgljclcgaibaaGreat
open Go.Ab Go.Ab.Pg
abbrev Bd (B x:Int):Prop:=0<=x/\x<=B
class Le (B:outParam Int) (x:Int):Prop where
 h:Bd B x
def Lb (B:Int)(r:Nat->Int):Prop:=∀k,Bd B (r k)
class Lr (B:outParam Int) (r:Nat->Int):Prop where
 h:Lb B r
class Ek {α:Type} (w:outParam α) (x:α):Prop where
 h:x=w
theorem Lb.up {B t:Int}{r:Nat->Int}{k:Nat}(h:Lb B r)(ht:Bd B t):Lb B (λj=>bif ww j k then t else r j):=λj=>by
 show Bd B (bif ww j k then t else r j);cases ww j k
 .exact h j
 .exact ht
theorem my {P:Prop}(h:P:=by
 show PW _ _;first
 |(refine aOX ?_)
 |(refine aOY ?_ ?_)
 |(refine aOZ ?_;intro _ h;repeat (obtain⟨_,h⟩:_/\_:=h))
 |(refine aO0 ?_;intro _)
 all_goals try dsimp only
 repeat' (first
  |with_reducible exact a0U
  |with_reducible refine aOY ?_ ?_
  |(with_reducible refine aOZ ?_;intro _ h;repeat (obtain⟨_,h⟩:_/\_:=h))
  |(with_reducible refine aO0 ?_;intro _)
  |(with_reducible refine aZk ‹_› ?_ ?_<;>(intro _ h;repeat (obtain⟨_,h⟩:_/\_:=h)))
  |(with_reducible refine a0V ‹_› ?_ ?_<;>(intro _ h;repeat (obtain⟨_,h⟩:_/\_:=h)))
  |(with_reducible refine aU7 ?_ ?_<;>intro _)
  |(with_reducible refine aZl ?_ ?_<;>intro _))
 all_goals
  try with_reducible refine aOX ?_
  first
  |assumption
  |((repeat' refine And.intro ?_ ?_)<;>first|infer_instance|(refine(?_:Ek _ _);infer_instance)|(refine(?_:Le _ _);infer_instance)|(refine(?_:Lr _ _);infer_instance))):P:=h
theorem IP {D X:Type}{s:D->Pg (D⊕X)}{R:X->Prop}(I:D->Prop)(h:∀d,I d->PW (s d) (t8 I R))(d:D)(k:I d):Mo (bj s 2000 d) R:=⟨WR (s:=s) I R h 2000 d k⟩
theorem aZv (a b:Int)(c:Bool):Po (mw a b c) (λr:FL=>(r.1:Int)=a):=by
 unfold mw zq;show PW _ _;dsimp only;rw[aR]
theorem aZw (t a b:Int)(c:Bool)(B:Int)(h:Bd B t)(k:Bd B a):Po (mu t a b c) (λr:FK=>Bd B r):=by
 unfold mu zp;show PW _ _;rw[aZ];refine⟨λ_=>by rw[aR];exact h,λ_=> ?_⟩;rw[aZ];exact⟨λ_=>by rw[aR];exact h,λ_=>by rw[aR];exact k⟩
theorem aSW (B:Int)(w:Nat->Int)(x0 x1:Int)(x2:Nat)(x3 x4:Nat->Int)(x5:Nat->Bool)(x6 x7 x8:Nat->Int)(x9:Int)(fG:Nat->Bool)(fD Ad:Nat->Int)(w0:Bool)(h:Bd B x1)(k:Lb B x3)(e:x7=w):Po (fg x0 x1 x2 x3 x4 x5 x6 x7 x8 x9 fG fD Ad w0) (λr=>Lb B r.1.1/\r.1.c.1=w):=by
 have k':∀j,Bd B (x3 j):=k;unfold fg sK;try dsimp only
 show PW _ _;try dsimp only
 repeat' (first
  |(rw[kD];exact trivial)
  |(with_reducible refine bB (aZw _ _ _ _ B h (k' _)) λd _ hd=> ?_)
  |(with_reducible refine bB (aZv _ _ _) λd _ hm=> ?_)
  |(rw[dA];intro _ _)
  |(rw[aZ];refine⟨λ_=> ?_,λ_=> ?_⟩))
 all_goals
  rw[aR];first
  |exact⟨k,e⟩
  |exact⟨k.up hd,e⟩
  |exact⟨k.up (by rw[hm];exact k' _),e⟩
variable (i0 i1 i2 i3 i4:Int) (n0:Nat) (r0 r1 r2 r3 r4 r5 r6:Nat->Int) (q0 q1:Nat->Bool) (b0 b1:Bool) {B:Int} {w:Nat->Int}
instance a3M [h:Le B i1][k:Lr B r0][e:Ek w r3]:Mo (fg i0 i1 n0 r0 r1 q0 r2 r3 r4 i2 q1 r5 r6 b0) (λx=>Lr B x.1.1/\Ek w x.1.c.1):=⟨λr hr=>by
 have q:=aSW B w _ _ _ _ _ _ _ _ _ _ _ _ _ _ h.h k.h e.h r hr;exact⟨⟨q.1⟩,⟨q.2⟩⟩⟩
instance a0q [Le B i0]:Mo (lN r0 i0 b0) (λx=>Le B x.1.1):=⟨my⟩
instance aG8 (x:fZ.B)[Le B x.1.2]:Mo (gf x) (λx=>Le B x.2.1):=⟨my⟩
instance aJ2 (d:dr.B)[Le B d.2.1.d.b.1][Le B d.2.1.d.b.2.1][Lr B d.d.b.2.1.1.1][Ek w d.d.b.2.1.1.c.1]:Mo (lF d) (λx=>Le B x.2.1.d.b.1/\Le B x.2.1.d.b.2.1/\Lr B x.d.b.2.1.1.1/\Ek w x.d.b.2.1.1.c.1):=IP (λd=>Le B d.2.1.d.b.1/\Le B d.2.1.d.b.2.1/\Lr B d.d.b.2.1.1.1/\Ek w d.d.b.2.1.1.c.1) (λd h=>by
 obtain⟨_,_,_,_⟩:=h;exact my) d ⟨inferInstance,inferInstance,inferInstance,inferInstance⟩
instance aPR (x:gj.B)[Le B x.1.1][Le B x.2.1.d.c.1][Le B x.2.1.d.c.2.1][Lr B x.d.b.2.1.1.1][Ek w x.d.b.2.1.1.c.1]:Mo (gW x) (t8 (λx=>Le B x.1.d.c.1/\Le B x.1.d.c.2.1) (λx=>Le B x.1.1.d.b.1/\Le B x.1.1.d.b.2.1)):=⟨my⟩
instance aG9 (x:dO.B)[Le B x.1.d.c.1][Le B x.1.d.c.2.1][Lr B x.d.b.1.1.1][Ek w x.d.b.1.1.c.1]:Mo (dP x) (λx=>Le B x.d.c.2.1/\Le B x.d.c.b.1):=⟨my⟩
instance aQy (x:oR.B)[Le B x.2.1.d.c.1][Le B x.2.1.d.c.2.1][Lr B x.d.c.1.1.1][Ek w x.d.c.1.1.c.1]:Mo (fT x) (λx=>Lr B x.1.1/\Ek w x.1.c.1):=⟨my⟩
instance aNk (x:mB.B)[Le B x.2.1.d.c.1][Le B x.2.1.d.c.2.1][Lr B x.d.b.2.1.1.1][Ek w x.d.b.2.1.1.c.1]:Mo (bJ x) (λx=>Lr B x.1.1/\Ek w x.1.c.1):=⟨my⟩
instance aQz (x:mC.B)[Le B x.2.1.d.c.1][Le B x.2.1.d.c.2.1][Lr B x.d.b.2.1.1.1][Ek w x.d.b.2.1.1.c.1]:Mo (fU x) (λx=>Le B x.1.d.c.1/\Le B x.1.d.c.2.1):=⟨my⟩
instance aPS (x:nm.B)[Le B x.2.1.d.c.1][Le B x.2.1.d.c.2.1][Lr B x.d.b.2.1.1.1][Ek w x.d.b.2.1.1.c.1]:Mo (dM x) (λx=>Lr B x.1.1/\Ek w x.1.c.1):=⟨my⟩
instance aQA (x:ko.B)[Le B x.2.1.d.c.1][Le B x.2.1.d.c.2.1][Lr B x.d.b.2.1.1.1][Ek w x.d.b.2.1.1.c.1]:Mo (mD x) (t8 (λx=>Lr B x.2.1.1/\Ek w x.2.1.c.1/\Le B x.1.d.c.1/\Le B x.1.d.c.2.1) (λx=>Lr B x.1.2.1.1/\Ek w x.1.2.1.c.1/\Le B x.1.1.d.b.2.1/\Le B x.1.1.d.c.1)):=⟨my⟩
instance aQB (x:kp.B)[Le B x.2.1.d.c.1][Le B x.2.1.d.c.2.1][Lr B x.d.b.2.1.1.1][Ek w x.d.b.2.1.1.c.1]:Mo (mE x) (λx=>Le B x.1.d.c.1/\Le B x.1.d.c.2.1):=⟨my⟩
instance aQC (x:kn.B)[Le B x.2.1.d.c.1][Le B x.2.1.d.c.2.1][Lr B x.d.c.1.1.1][Ek w x.d.c.1.1.c.1]:Mo (dx x) (λx=>Lr B x.2.1.2.1.1/\Ek w x.2.1.2.1.c.1/\Le B x.2.1.1.d.c.1/\Le B x.2.1.1.d.c.2.1):=⟨my⟩
instance aNl (x:jY.B)[Le B x.2.1.d.c.1][Le B x.2.1.d.c.2.1][Lr B x.d.c.1.1.1][Ek w x.d.c.1.1.c.1]:Mo (eB x) (λx=>Le B x.d.c.1/\Le B x.d.c.2.1):=⟨my⟩
instance aD3 [Lr B r0][Ek w r3]:Mo (fu b0 i0 i1 b1 i2 i3 r0 r1 q0 r2 r3 r4 i4) (λx=>Lr B x.1.1/\Ek w x.1.c.1):=⟨my⟩
instance aHu (x:fh.B)[Le B x.2.1.d.c.1][Le B x.2.1.d.c.2.1][Lr B x.d.b.2.1.1.1][Ek w x.d.b.2.1.1.c.1]:Mo (gB x) (t8 (λx=>Lr B x.1.2.1.1/\Ek w x.1.2.1.c.1/\Le B x.1.1.d.b.2.1) (λx=>Lr B x.2.1.1/\Ek w x.2.1.c.1/\Le B x.1.d.c.1/\Le B x.1.d.c.2.1)):=⟨my⟩
instance aJ3 (x:gk.B)[Le B x.2.1.d.c.1][Le B x.2.1.d.c.2.1][Lr B x.d.b.2.1.1.1][Ek w x.d.b.2.1.1.c.1]:Mo (iA x) (λx=>Lr B x.2.1.1/\Ek w x.2.1.c.1/\Le B x.1.d.c.1/\Le B x.1.d.c.2.1):=⟨my⟩
instance aNm (x:iC.B)[Le B x.2.1.d.c.1][Le B x.2.1.d.c.2.1][Lr B x.d.b.2.1.1.1][Ek w x.d.b.2.1.1.c.1]:Mo (jZ x) (λx=>Lr B x.2.1.1/\Ek w x.2.1.c.1/\Le B x.1.d.c.1/\Le B x.1.d.c.2.1):=⟨my⟩
instance aJ4 (x:gm.B)[Le B x.2.1.d.c.1][Le B x.2.1.d.c.2.1][Lr B x.d.b.2.1.1.1][Ek w x.d.b.2.1.1.c.1]:Mo (iB x) (λx=>Lr B x.2.1.1/\Ek w x.2.1.c.1/\Le B x.1.d.c.1/\Le B x.1.d.c.2.1):=⟨my⟩
instance aQD (x:kq.B)[Le B x.2.1.d.c.1][Le B x.2.1.d.c.2.1][Lr B x.d.b.2.1.1.1][Ek w x.d.b.2.1.1.c.1]:Mo (mF x) (λx=>Lr B x.2.1.1/\Ek w x.2.1.c.1/\Le B x.1.d.c.1/\Le B x.1.d.c.2.1):=⟨my⟩
instance aSX (x:lQ.B)[Le B x.2.1.d.c.1][Le B x.2.1.d.c.2.1][Lr B x.d.b.2.1.1.1][Ek w x.d.b.2.1.1.c.1]:Mo (nG x) (t8 (λx=>Lr B x.2.1.1/\Ek w x.2.1.c.1/\Le B x.1.d.c.1/\Le B x.1.d.c.2.1) (λx=>Lr B x.1.2.1.1/\Ek w x.1.2.1.c.1/\Le B x.1.1.d.c.1/\Le B x.1.1.d.c.2.1)):=⟨my⟩
instance aMr (d:bI.B)[Le B d.2.1.d.c.1][Le B d.2.1.d.c.2.1][Lr B d.d.b.2.1.1.1][Ek w d.d.b.2.1.1.c.1][Le B d.d.c.b.1.1]:Mo (gD d) (λx=>Lr B x.d.b.2.1.1.1/\Le B x.2.1.d.c.1/\Le B x.2.1.d.c.2.1/\Le B x.d.c.b.1.1/\Ek w x.d.b.2.1.1.c.1):=IP (λd=>Le B d.2.1.d.c.1/\Le B d.2.1.d.c.2.1/\Lr B d.d.b.2.1.1.1/\Ek w d.d.b.2.1.1.c.1/\Le B d.d.c.b.1.1) (λd h=>by
 obtain⟨_,_,_,_,_⟩:=h;exact my) d ⟨inferInstance,inferInstance,inferInstance,inferInstance,inferInstance⟩
instance aMs (d:cz.B)[Le B d.2.1.d.c.1][Le B d.2.1.d.c.2.1][Lr B d.d.b.2.1.1.1][Ek w d.d.b.2.1.1.c.1][Le B d.d.c.b.1.1]:Mo (iF d) (λx=>Lr B x.d.b.2.1.1.1/\Le B x.2.1.d.c.1/\Le B x.2.1.d.c.2.1/\Le B x.d.c.b.1.1/\Ek w x.d.b.2.1.1.c.1):=IP (λd=>Le B d.2.1.d.c.1/\Le B d.2.1.d.c.2.1/\Lr B d.d.b.2.1.1.1/\Ek w d.d.b.2.1.1.c.1/\Le B d.d.c.b.1.1) (λd h=>by
 obtain⟨_,_,_,_,_⟩:=h;exact my) d ⟨inferInstance,inferInstance,inferInstance,inferInstance,inferInstance⟩
instance aMt (d:cy.B)[Le B d.2.1.d.c.1][Le B d.2.1.d.c.2.1][Lr B d.d.b.2.1.1.1][Ek w d.d.b.2.1.1.c.1][Le B d.d.c.b.1.1]:Mo (gE d) (λx=>Lr B x.d.b.2.1.1.1/\Le B x.2.1.d.c.1/\Le B x.2.1.d.c.2.1/\Le B x.d.c.b.1.1/\Ek w x.d.b.2.1.1.c.1):=IP (λd=>Le B d.2.1.d.c.1/\Le B d.2.1.d.c.2.1/\Lr B d.d.b.2.1.1.1/\Ek w d.d.b.2.1.1.c.1/\Le B d.d.c.b.1.1) (λd h=>by
 obtain⟨_,_,_,_,_⟩:=h;exact my) d ⟨inferInstance,inferInstance,inferInstance,inferInstance,inferInstance⟩
instance aMu (d:de.B)[Le B d.1.d.c.1][Le B d.1.d.c.2.1][Lr B d.d.b.1.1.1][Ek w d.d.b.1.1.c.1][Le B d.d.c.2.1.1]:Mo (fA d) (t8 (λx=>Le B x.1.b.1/\Le B x.2.1.d.b.1/\Le B x.2.1.d.b.2.1/\Lr B x.d.b.2.1.1.1/\Ek w x.d.b.2.1.1.c.1) (λx=>Le B x.2.1.d.b.2.1/\Lr B x.d.b.2.1.1.1/\Le B x.2.1.d.c.1/\Le B x.d.c.b.1.1/\Ek w x.d.b.2.1.1.c.1)):=⟨my⟩
instance aMv (d:dg.B)[Le B d.1.d.c.1][Le B d.1.d.c.2.1][Lr B d.d.b.1.1.1][Ek w d.d.b.1.1.c.1][Le B d.d.c.2.1.1]:Mo (eD d) (t8 (λx=>Le B x.1.b.1/\Le B x.2.1.d.b.1/\Le B x.2.1.d.b.2.1/\Lr B x.d.b.2.1.1.1/\Ek w x.d.b.2.1.1.c.1) (λx=>Le B x.2.1.d.b.2.1/\Lr B x.d.b.2.1.1.1/\Le B x.2.1.d.c.1/\Le B x.d.c.b.1.1/\Ek w x.d.b.2.1.1.c.1)):=⟨my⟩
instance aMw (d:dh.B)[Le B d.1.d.c.1][Le B d.1.d.c.2.1][Lr B d.d.b.1.1.1][Ek w d.d.b.1.1.c.1][Le B d.d.c.2.1.1]:Mo (eE d) (t8 (λx=>Le B x.1.b.1/\Le B x.2.1.d.b.1/\Le B x.2.1.d.b.2.1/\Lr B x.d.b.2.1.1.1/\Ek w x.d.b.2.1.1.c.1) (λx=>Le B x.2.1.d.b.2.1/\Lr B x.d.b.2.1.1.1/\Le B x.2.1.d.c.1/\Le B x.d.c.b.1.1/\Ek w x.d.b.2.1.1.c.1)):=⟨my⟩
instance aqu (x:fV.B)[Le B x.1.1][Le B x.2.1.d.c.1][Lr B x.d.b.2.1.1.1][Ek w x.d.b.2.1.1.c.1]:Mo (eW x) (λx=>Lr B x.1.c.b.2.1.1.1/\Le B x.1.1.d.c.1/\Ek w x.1.c.b.2.1.1.c.1/\Le B x.1.1.d.c.2.1):=⟨my⟩
end Go.Proofs.YtldgljclcgaibaaGreat
namespace Go.Proofs.YtldgljclcgaibaaGreat
open Go.Ab Go.Ab.Pg
theorem aPT {x0:Nat}{x1 x2:Int}{x3 x4 x5 x6 x7 x8 x9 fG fD:Nat->Int}{w0:Bool}{d:fm}(h:bT x0 x1 x2 x3 x4 x5 x6 x7 x8 x9 fG fD w0=some d):d.1=ws x1+(x0-ws x2)/\d.2.1=K5 (ws x1) (ws x2-ws x1) x3/\ws x1<=ws x2/\ws x2<=x0:=by
 unfold bT at h;obtain⟨c,e⟩:=WT h;rw[cq,cq,cq,cq] at c;rw[<-e];exact⟨rfl,rfl,yb c.b.1,yb c.b.2.2⟩
theorem aZx {x0:Nat}{x1:Int}{x2 x3 x4 x5 x6 x7 x8 x9 fG fD Ad x13 x14 x15 x16 x17 x18 x19:Nat->Int}{x20:Nat}{w0 w1:Bool}{d:fk}(h:cV x0 x1 x2 x3 x4 x5 x6 x7 x8 x9 fG fD Ad x13 x14 x15 x16 x17 x18 x19 x20 w0 w1=some d):d.1=x0+1/\d.2.1=Fm (ws x1) x2 fD/\ws x1<=x0:=by
 unfold cV at h;obtain⟨c,e⟩:=WT h;rw[cq,cq,cq,cq] at c;rw[<-e];exact⟨rfl,rfl,yb c.b.2.1⟩
theorem aPU {M:Int}{a n k:Nat}{r:Nat->Int}(h:∀i,i<n->r i<=M):∀i,i+k<n->K5 0 k r i<=M:=λi hi=>by
 show r (i+k)<=M;exact h _ hi
theorem aZy {M:Int}{n k:Nat}{r v:Nat->Int}(h:∀i,i<n->r i<=M)(hv:v 0<=M)(hk:k<=n):∀i,i<n+1->Fm k r v i<=M:=λi hi=>by
 unfold Fm;cases e1:Nat.blt i k with
 |true=>
  have:=yb e1;exact h i (by omega)
 |false=>
  cases e2:ww i k with
  |true=>exact hv
  |false=>
   have n1:¬i<k:=λq=>by
    have:Nat.blt i k=true:=aEH q;rw[this] at e1;cases e1
   have n2:i≠k:=λq=>by subst q;rw[OG] at e2;cases e2
   exact h (i-1) (by omega)
theorem pl0 (M:Int)(w d:gM.B)(hM:∀i,i<w.2.1.2.2.1->w.2.2.1 i<=M)(hd:d.1.2<9223372036854775808/\(0<=d.1.2->d.1.2<=((w.2.1.2.2.1:Nat):Int))/\d.1.1=w.1.1/\d.2=w.2):Po (zB d) (λx:ph=>match x with|.inl e=>(0<=e.1.2.1/\e.1.2.1<=((w.2.1.2.2.1:Nat):Int)/\e.1.2.2.1=w.2.1.2.2.1/\e.1.1=w.1.1/\e.2.2=w.2.2)/\¬M<=w.1.1|.inr e=>(0<=e.1.2.1/\e.1.2.1<=((w.2.1.2.2.1:Nat):Int)/\e.1.2.2.1=w.2.1.2.2.1/\e.1.1=w.1.1/\e.2.2=w.2.2)/\e.1.2.1=((w.2.1.2.2.1:Nat):Int)):=by
 revert d
 exact Dh (λd hd=>by
  obtain⟨i0,i1,e0,e1⟩:=hd;have e2:d.2.1.2.2.1=w.2.1.2.2.1:=cO (λz=>z.1.2.2.1) e1;have e3:d.2.2.1=w.2.2.1:=cO (λz=>z.2.1) e1;have e4:d.2.2=w.2.2:=cO (λz=>z.2) e1;unfold zA;dsimp only;rw[aZ];refine⟨λc=> ?_,λc=> ?_⟩
  .have c:=eK c;rw[dQ,e2] at c;rw[cU];intro r0;rw[cx] at r0;have i2:=i1 r0.1;rw[aZ];refine⟨λq=> ?_,λq=> ?_⟩
   .rw[aR]
    have hw:wI (d.1.2+1)<9223372036854775808/\(0<=wI (d.1.2+1)->wI (d.1.2+1)<=((w.2.1.2.2.1:Nat):Int)):=by
     rcases(show d.1.2+1<9223372036854775808∨d.1.2=9223372036854775807 by omega) with g|g
     .rw[show wI (d.1.2+1)=d.1.2+1 from wrap_i64 (by omega) (by omega)];omega
     .rw[g];exact⟨by decide,λh=>absurd h (by decide)⟩
    exact⟨hw.1,hw.2,e0,e1⟩
   .rw[aR];refine⟨⟨r0.1,i2,e2,e0,e4⟩,λhm=> ?_⟩;have q:=pP q;rw[e3,e0] at q;have:=hM (ws d.1.2) (by omega);omega
  .have c:=pP c;rw[dQ,e2] at c;rw[aR];have i2:=i1 (by omega);exact⟨⟨by show 0<=d.1.2;omega,i2,e2,e0,e4⟩,by show d.1.2=_;omega⟩)
theorem aUi (M:Int)(x:oQ.B)(hM:∀i,i<x.2.1.b.1->x.b.1 i<=M):Po (kl x) (λe:xA=>(∀i,i<e.2.1.b.1->e.b.2.1 i<=M)/\(M<=x.1->e.2.1.b.1=0)):=by
 unfold kl CJ;try dsimp only
 show PW _ _;try dsimp only
 rw[cU];intro _;refine bB (pl0 M ((x.1,0),x.2) _ hM ⟨(show(0:Int)<9223372036854775808 by decide),λ_=>(show(0:Int)<=((x.2.1.b.1:Nat):Int) by omega),rfl,rfl⟩) λy _ hy=> ?_;rw[ij];refine⟨λa ha=> ?_,λa ha=> ?_⟩<;>subst ha
 all_goals
  obtain⟨⟨k0,k1,k2,k3,k4⟩,k5⟩:=hy;have k1:a.1.2.1<=((x.2.1.b.1:Nat):Int):=k1;have k2:a.1.b.1=x.2.1.b.1:=k2;have kr:a.b.1=x.b.1:=cO (λz=>z.1) k4;rw[cU];intro _
  repeat' (first
   |(rw[kD];exact trivial)
   |(rw[aZ];refine⟨λ_=> ?_,λ_=> ?_⟩)
   |(rw[dA];intro z hz))
  rw[aR];obtain⟨d1,d2,_,d4⟩:=aPT hz;have d1:z.1=0+(a.1.b.1-ws a.1.2.1):=d1;have d2:z.2.1=K5 0 (ws a.1.2.1-0) a.b.1:=d2;rw[Nat.sub_zero,kr] at d2;refine⟨λi hi=> ?_,λhm=> ?_⟩
  .have hi:i<z.1:=hi;show z.2.1 i<=M;rw[d2];exact aPU (a:=0) hM i (by omega)
  .show z.1=0;first
   |exact absurd hm k5
   |(have k5:a.1.2.1=((x.2.1.b.1:Nat):Int):=k5
     omega)
theorem a0W (M:Int)(x:rR.B)(hM:∀i,i<x.2.1.2.2.1->x.2.2.1 i<=M)(hs:x.1.1<=M):Po (oP x) (λr:xy=>match r with|.inl e=>e.2.2.1=x.2.1.2.2.1|.inr e=>∀i,i<e.2.1.2.2.1->e.2.2.1 i<=M):=by
 unfold oP CI;try dsimp only
 show PW _ _;try dsimp only
 rw[aZ];refine⟨λ_=>by rw[aR],λ_=> ?_⟩;rw[cU];intro _;rw[dA];intro p _;rw[cU];intro _;rw[dA];intro q hq;obtain⟨d1,d2,d3⟩:=aZx hq
 have key:∀i,i<q.1->q.2.1 i<=M:=λi hi=>by
  rw[d2];exact aZy hM hs d3 i (by omega)
 rw[aZ];refine⟨λ_=>by rw[aR];exact key,λ_=> ?_⟩;rw[cU];intro _;rw[cU];intro _;rw[dA];intro z hz;rw[aR];obtain⟨e1,e2,e3,e4⟩:=aPT hz;have e1:z.1=0+(q.1-1):=e1;have e4:1<=q.1:=e4;intro i hi;have hi:i<z.1:=hi;show z.2.1 i<=M;rw[e2];exact aPU (a:=0) key i (by show i+1<q.1;omega)
theorem aMH (x:gk.B):Ok (iA x) (λr:vF=>r.1.d.c.b.2.2=x.2.1.d.c.b.2.2/\r.1.c.1=x.2.1.c.1/\r.1.d.c.2.1=x.2.1.d.c.2.1):=by
 unfold iA vG;try dsimp only
 show PQ _ _;simp only[aN]
 repeat' (first
  |rw[aV]
  |(rw[aK];refine⟨λ_=> ?_,λ_=> ?_⟩)
  |(rw[ux];refine⟨λ_ _=> ?_,λ_ _=> ?_⟩)
  |(with_reducible refine ay (af8 _ ?_) λe _ he=> ?_)
  |(with_reducible refine ay (ZP _ ?_) λq _ hq=> ?_)
  |(with_reducible refine ay (Tb _ ?_) λt _ ht=> ?_)
  |(rw[bE];intro _ _))
 all_goals first|(rw[av];exact⟨hq.1.trans he.2.1,hq.2.1.trans he.b.1,hq.2.2.trans he.b.2⟩)|(rw[av];exact he.2)|(rw[av];exact⟨rfl,rfl,rfl⟩)|omega|(dsimp only;omega)|(have h1:=he.1;(try dsimp only at h1);(try dsimp only);omega)
theorem aMI (x:gm.B):Ok (iB x) (λr:vH=>r.1.d.c.b.2.2=x.2.1.d.c.b.2.2/\r.1.c.1=x.2.1.c.1/\r.1.d.c.2.1=x.2.1.d.c.2.1):=by
 unfold iB vI;try dsimp only
 show PQ _ _;simp only[aN]
 repeat' (first
  |rw[aV]
  |(rw[aK];refine⟨λ_=> ?_,λ_=> ?_⟩)
  |(rw[ux];refine⟨λ_ _=> ?_,λ_ _=> ?_⟩)
  |(with_reducible refine ay (af8 _ ?_) λe _ he=> ?_)
  |(with_reducible refine ay (ZP _ ?_) λq _ hq=> ?_)
  |(with_reducible refine ay (Tb _ ?_) λt _ ht=> ?_)
  |(rw[bE];intro _ _))
 all_goals first|(rw[av];exact⟨hq.1.trans he.2.1,hq.2.1.trans he.b.1,hq.2.2.trans he.b.2⟩)|(rw[av];exact he.2)|(rw[av];exact⟨rfl,rfl,rfl⟩)|omega|(dsimp only;omega)|(have h1:=he.1;(try dsimp only at h1);(try dsimp only);omega)
theorem aII (x0:Nat->Int)(x1:Int)(x2:Int)(x3:Int)(x4:Int)(x5:Int)(x6:Bool):Ok (CA x0 x1 x2 x3 x4 x5 x6) (λr:Nv=>match r with|.inl e=>(e.1!=0)=true|.inr _=>True):=by
 unfold CA Nw;try dsimp only
 show PQ _ _;simp only[bN];repeat' (first|exact True.intro|rfl|assumption|(apply And.intro)|(intro _))
theorem aZT (x:kq.B):Ok (mF x) (λr:CW=>r.1.d.c.b.2.2=x.2.1.d.c.b.2.2/\r.1.c.1=x.2.1.c.1/\r.1.d.c.2.1=x.2.1.d.c.2.1):=by
 unfold mF CX;try dsimp only
 show PQ _ _;simp only[aN];rw[bE];intro d _;with_reducible refine ay (aII _ _ _ _ _ _ _) λfb _ hfb=> ?_
 rw[ux];refine⟨λa ha=> ?_,λa ha=> ?_⟩
 .subst ha;have hfb:(a.1!=0)=true:=hfb;rw[hfb]
  repeat' (first
   |rw[aV]
   |(rw[aK];refine⟨λ_=> ?_,λ_=> ?_⟩)
   |(rw[ux];refine⟨λ_ _=> ?_,λ_ _=> ?_⟩)
   |(with_reducible refine ay (af8 _ ?_) λe _ he=> ?_)
   |(with_reducible refine ay (ZP _ ?_) λq _ hq=> ?_)
   |(with_reducible refine ay (Tb _ ?_) λt _ ht=> ?_)
   |(rw[bE];intro _ _))
  all_goals first|(rw[av];exact⟨hq.1.trans he.2.1,hq.2.1.trans he.b.1,hq.2.2.trans he.b.2⟩)|(rw[av];exact he.2)|(rw[av];exact⟨rfl,rfl,rfl⟩)|omega|(dsimp only;omega)|(have h1:=he.1;(try dsimp only at h1);(try dsimp only);omega)
 .subst ha
  repeat' (first
   |rw[aV]
   |(rw[aK];refine⟨λ_=> ?_,λ_=> ?_⟩)
   |(rw[ux];refine⟨λ_ _=> ?_,λ_ _=> ?_⟩)
   |(with_reducible refine ay (af8 _ ?_) λe _ he=> ?_)
   |(with_reducible refine ay (ZP _ ?_) λq _ hq=> ?_)
   |(with_reducible refine ay (Tb _ ?_) λt _ ht=> ?_)
   |(rw[bE];intro _ _))
  all_goals first|(rw[av];exact⟨hq.1.trans he.2.1,hq.2.1.trans he.b.1,hq.2.2.trans he.b.2⟩)|(rw[av];exact he.2)|(rw[av];exact⟨rfl,rfl,rfl⟩)|omega|(dsimp only;omega)|(have h1:=he.1;(try dsimp only at h1);(try dsimp only);omega)
theorem aiX (x0:Int)(x1:Int)(x2:Int)(x3:Int)(x4:Int)(x5:Int)(x6:Int)(x7:Int)(x8:Int)(x9:Bool)(h0:0<=x7)(h1:x7<=5):bq (qw x0 x1 x2 x3 x4 x5 x6 x7 x8 x9):=by
 have hw:wI (x7+1)=x7+1:=fS;have b1:bk x7 7=true:=by simp only[cx];omega
 have b2:bk (x7+1) 7=true:=by simp only[cx];omega
 unfold qw vA;refine aF ?_;simp only[hw,b1,b2];simp only[bN,OJ,LL,Eh]
theorem as9 {x0 x1 x2:Int}{d:adF}(h:fQ x0 x1 x2=some d)(k:d=true): -900000000<=x0/\x0<=900000000/\ -1800000000<=x1/\x1<=1800000000:=by
 have e:PQ (Ir x0 x1 x2) (λd:Bool=>d=true-> -900000000<=x0/\x0<=900000000/\ -1800000000<=x1/\x1<=1800000000):=by
  simp only[Ir,aK,av,QF,mf,Wy,yc,Eh,OK,Cd];omega
 exact Ok.post e h k
instance aP7 (x0:Int)(x1:Int)(x2:Int)(x3:Bool):bq (tK x0 x1 x2 x3):=by
 unfold tK zC;refine aF ?_;rw[bE];intro d hd;rw[aK];refine⟨λ_=>by rw[av];trivial,λh=> ?_⟩;obtain⟨a0,a1,a2,a3⟩:=as9 hd (by simpa using h);have w0:wI (x0+900000000)=x0+900000000:=fS;have w1:wI (x1+1800000000)=x1+1800000000:=fS;have e0:t7 (x0+900000000) 450000000=(x0+900000000)/450000000:=aAk (by omega);have e1:t7 (x1+1800000000) 600000000=(x1+1800000000)/600000000:=aAk (by omega);rw[w0,w1,e0,e1];have w2:wI ((x0+900000000)/450000000)=(x0+900000000)/450000000:=fS;have w3:wI ((x1+1800000000)/600000000)=(x1+1800000000)/600000000:=fS;rw[w2,w3];have r1:0<=(if 3<(x0+900000000)/450000000 then 3 else(x0+900000000)/450000000)/\(if 3<(x0+900000000)/450000000 then 3 else(x0+900000000)/450000000)<=3:=by split<;>omega
 have r2:0<=(if 5<(x1+1800000000)/600000000 then 5 else(x1+1800000000)/600000000)/\(if 5<(x1+1800000000)/600000000 then 5 else(x1+1800000000)/600000000)<=5:=by split<;>omega
 generalize (if 3<(x0+900000000)/450000000 then 3 else(x0+900000000)/450000000)=row at*
 generalize (if 5<(x1+1800000000)/600000000 then 5 else(x1+1800000000)/600000000)=om at*
 have t2:=λa b c d e f g i j=>aiX a b c d e f g om i j r2.1 r2.2
 have hw:wI (row+1)=row+1:=fS;have b1:bk row 5=true:=by simp only[cx];omega
 have b2:bk (row+1) 5=true:=by simp only[cx];omega
 simp only[hw,b1,b2];simp only[bN,OJ,LL,Eh]
instance aHw (x:dO.B):bq (dP x):=by
 unfold dP na;try dsimp only
 exact aF (by simp only[bN])
theorem aDF (x:dO.B):Ok (dP x) (λr:re=>r.e.2=x.1.d.c.b.2.2/\r.c.2.1=x.1.c.1/\r.d.c.b.1=x.1.d.c.2.1):=by
 unfold dP na;try dsimp only
 show PQ _ _;rw[bE];intro d _;rw[av];exact⟨rfl,rfl,rfl⟩
theorem aZU (x:ko.B)(h:x.2.1.d.c.b.2.2<=90000):Ok (mD x) (λr:xE=>match r with|.inl e=>e.1.d.c.b.2.2<=x.2.1.d.c.b.2.2+1/\e.1.c.1=x.2.1.c.1/\e.1.d.c.2.1=x.2.1.d.c.2.1|.inr e=>e.1.1.d.c.b.2<=x.2.1.d.c.b.2.2+1/\e.1.1.c.1=x.2.1.c.1/\e.1.1.d.c.1=x.2.1.d.c.2.1):=by
 unfold mD CT;try dsimp only
 show PQ _ _;simp only[aN];rw[bE];intro d _;rw[bE];intro d1 _;repeat rw[aV]
 with_reducible refine ay (aDF _) λd2 _ h2=> ?_
 have h2:d2.e.2=x.2.1.d.c.b.2.2/\d2.c.2.1=x.2.1.c.1/\d2.d.c.b.1=x.2.1.d.c.2.1:=h2;rw[bE];intro d3 _;rw[aK];refine⟨λ_=> ?_,λ_=> ?_⟩
 .repeat rw[aV]
  rw[bE];intro d4 _;rw[av];show d2.e.2<=x.2.1.d.c.b.2.2+1/\d2.c.2.1=x.2.1.c.1/\d2.d.c.b.1=x.2.1.d.c.2.1;omega
 .rw[bE];intro d4 _;repeat rw[aV]
  with_reducible refine ay (Tb _ ?_) λt _ ht=> ?_
  .show d2.e.2<=100000;omega
  have ht:t.1.d.c.b.2.2=d2.e.2+1/\t.1.c.1=d2.c.2.1/\t.1.d.c.2.1=d2.d.c.b.1:=ht;repeat (first|rw[aV]|(rw[bE];intro _ _))
  rw[av];show t.1.d.c.b.2.2<=x.2.1.d.c.b.2.2+1/\t.1.c.1=x.2.1.c.1/\t.1.d.c.2.1=x.2.1.d.c.2.1;omega
theorem aHi (x:fh.B)(h:x.2.1.d.c.b.2.2<=90000):Ok (gB x) (λr:og=>match r with|.inl e=>e.1.1.d.c.2.2<=x.2.1.d.c.b.2.2+3/\e.1.1.c.1=x.2.1.c.1/\e.1.1.d.b.2.1=x.2.1.d.c.2.1|.inr e=>e.1.d.c.b.2.2<=x.2.1.d.c.b.2.2+3/\e.1.c.1=x.2.1.c.1/\e.1.d.c.2.1=x.2.1.d.c.2.1):=by
 have idx:∀(n m:Nat) (k:Int),n=m->0<=k->k<(m:Int)->bk k n=true:=λn m k e h1 h2=>by subst e;simp only[cx];omega
 unfold gB sW;try dsimp only
 show PQ _ _;simp only[aN];rw[bE];intro d _
 repeat' (first
  |rw[aV]
  |(with_reducible refine ay (aZS _ ?_) λj _ hj=> ?_)
  |(with_reducible refine ay (af8 _ ?_) λe _ he=> ?_)
  |(with_reducible refine ay (ZP _ ?_) λq _ hq=> ?_)
  |(rw[ux];refine⟨λ_ _=> ?_,λ_ _=> ?_⟩)
  |(rw[bE];intro _ _)
  |(rw[aK];refine⟨λc=> ?_,λc=> ?_⟩))
 all_goals first
  |(rw[av];exact hj)
  |(rw[av];exact⟨ch (Nat.le_of_eq (hq.1.trans he.2.1)) (Nat.le_add_right _ _),hq.2.1.trans he.b.1,hq.2.2.trans he.b.2⟩)
  |(rw[av];exact⟨ch (Nat.le_of_eq he.2.1) (Nat.le_add_right _ _),he.2.2⟩)
  |(show x.2.1.d.c.b.2.2<=90000;exact h)
  |(dsimp only;omega)
  |(have h1:=he.1;(try dsimp only at h1);(try dsimp only);omega)
  |(rw[aSC];rw[he.1] at c;have c':true=false:=c;cases c')
theorem aTb (x:Int):P8 x=some (decide (0<=x)&&decide (x<6)):=by
 simp only[P8,apS,ck,cF];by_cases h0:0<=x<;>simp[h0]
instance apr (x:mG.B):bq (gA x):=by
 unfold gA tN;try dsimp only
 exact aF (by simp only[bN,rm])
instance aP8 (x:pn.B):bq (mH x):=by
 unfold mH zG;try dsimp only
 exact aF (by simp only[bN,rm])
theorem UP (n:Nat):∀(d:dI.B) (hd:0<=d.1.2.2/\d.1.2.2<=d.1.2.1/\d.1.2.1<=1999/\d.1.2.1=((d.1.1.1:Nat):Int)/\d.2.1.2.2=n/\n<=1999),Ok (vz d) (λx:iX=>x.2.1.2.2=n):=
 bP (λd:dI.B=>ws (d.1.2.1-d.1.2.2)) (λd hd=>by
  have hw:wI (d.1.2.2+1)=d.1.2.2+1:=bo;obtain⟨i0,i1,i2,i3,i4,i5⟩:=hd;unfold pK;try dsimp only
  rw[aK];refine⟨λh=> ?_,λ_=>by rw[av];exact i4⟩;have h:=eK h;rw[bH,aN,aV];refine⟨by simp only[cx];omega,?_⟩;with_reducible refine ay (UO _ ?_) λe _ he=> ?_
  .show d.2.1.2.2<=1999;omega
  have he:e.2.1=d.2.1.2.2:=he;have b1:(true&&ww (e.2.1*11+0) (d.2.1.2.2*11)&&true)=true:=by rw[he,kC,aN];rfl
  have b2:(true&&wd (0+(e.2.1*11+0)) (d.2.1.2.2*11+0))=true:=by rw[he,Ht,eV];omega
  simp only[b1,b2,aV,av,rF,hw];exact⟨⟨by omega,by omega,i2,i3,i4,i5⟩,by omega⟩) (λd hd=>by omega)
theorem aVI (x:j7.B)(h:x.1.1<=1999)(k:x.2.1.2.2<=1999):Ok (m9 x) (λr:qY=>r.2.1=x.2.1.2.2):=by
 unfold m9 qZ;show PQ _ _;rw[aN,aN,aV,aV];refine ay (UP x.2.1.2.2 _ ?_) λd _ hd=> ?_
 .obtain⟨a,b,c,e⟩:=hdN x.1.1 h;exact⟨a,b,c,e,rfl,k⟩
 .rw[av];exact hd
abbrev Bf:=(Int×Int×Int×Int×Int)×Int×Nat×Int
def BR (T:Int)(b c:Bf):Prop:=(∀U,T<=U->b.2.2.2<=U->c.2.2.2<=U)/\c.2.1=b.2.1/\c.2.2.1<=b.2.2.1/\c.1.1=b.1.1/\c.1.2.1=b.1.2.1/\c.1.2.2.1=b.1.2.2.1/\c.1.2.2.2.1=b.1.2.2.2.1/\
 (0<=b.1.2.2.2.2->b.1.2.2.2.2+b.2.2.1<=4611686018427387904->0<=c.1.2.2.2.2/\c.1.2.2.2.2+c.2.2.1=b.1.2.2.2.2+b.2.2.1)
def PR (b c:Bf):Prop:=c.2.1=b.2.1/\c.1.1=wI (b.1.1+1)/\c.1.2.2.2.1=b.1.2.2.2.1/\c.1.2.2.2.2=b.1.2.2.2.2/\c.2.2.2=b.2.2.2/\
 ((c.1.2.1=wI (b.1.2.1+1)/\c.1.2.2.1=b.1.2.2.1/\c.2.2.1=b.2.2.1)∨(c.1.2.1=b.1.2.1/\c.1.2.2.1=b.1.2.2.1/\c.2.2.1=b.2.2.1+1/\((c.2.2.1:Nat):Int)<=b.2.1)∨
  (c.1.2.1=b.1.2.1/\c.1.2.2.1=wI (b.1.2.2.1+1)/\c.2.2.1=b.2.2.1))
def SR (b c:Bf):Prop:=c.2=b.2/\c.1=(wI (b.1.1+1),b.1.2.1,b.1.2.2.1,wI (b.1.2.2.2.1+1),b.1.2.2.2.2)
theorem BR.refl (T:Int)(b:Bf):BR T b b:=⟨λ_ _ h=>h,rfl,eT _,rfl,rfl,rfl,rfl,λh _=>⟨h,rfl⟩⟩
theorem BR.len {T:Int}{b c:Bf}(h:BR T b c):c.2.2.1<=b.2.2.1:=h.2.2.1
theorem BR.mono {T U:Int}{a b:Bf}(t:T<=U)(h:BR T a b):BR U a b:=⟨λV p q=>h.1 V (AZ t p) q,h.2⟩
theorem BR.trans {T:Int}{a b c:Bf}(h:BR T a b)(k:BR T b c):BR T a c:=by
 obtain⟨h0,h1,h2,h3,h4,h5,h6,h7⟩:=h;obtain⟨k0,k1,k2,k3,k4,k5,k6,k7⟩:=k;refine⟨λU p q=>k0 U p (h0 U p q),k1.trans h1,ch k2 h2,k3.trans h3,k4.trans h4,k5.trans h5,k6.trans h6,λp q=> ?_⟩;obtain⟨r,s⟩:=h7 p q;obtain⟨u,v⟩:=k7 r (by omega);exact⟨u,v.trans s⟩
theorem aVJ (x:rR.B)(h:x.2.1.b.1<=1000):Ok (oP x) (λr:xy=>match r with
  |.inl e=>PR x.2.1 e
  |.inr e=>PR x.2.1 e.2.1):=by
 unfold oP CI;try dsimp only
 show PQ _ _;rw[aK];refine⟨λ_=>by rw[av];exact⟨rfl,rfl,rfl,rfl,rfl,.inl ⟨rfl,rfl,rfl⟩⟩,λ_=> ?_⟩;rw[aN,bH];refine⟨rfl,ay (aS8 (((x.2.1.b.1,true),x.1),x.2.2) (by show x.2.1.b.1<=1999;omega)) λd _ hd=> ?_⟩;rw[bH];refine⟨rfl,ay (aP5 x.2.1.b.1 d.1 hd.1 hd.2 (by omega) _ _ _ _ _ _ _ _ _ _ _ _ _ _ _ _ _ _ _) λd2 _ h2=> ?_⟩;rw[aK];refine⟨λc=> ?_,λ_=> ?_⟩
 .rw[av];have c:=eK c;exact⟨rfl,rfl,rfl,rfl,rfl,.inr (.inl ⟨rfl,rfl,h2,c⟩)⟩
 rw[bH,aN,bH];refine⟨by simp only[cx,h2];omega,rfl,ay (aCv d2.1 0 1 (by omega) (by omega) (by rw[h2];omega) _ _ _ _ _ _ _ _ _) λd3 _ h3=> ?_⟩;rw[av];have e:d3.1=x.2.1.b.1:=by rw[h3,h2];simp
 exact⟨rfl,rfl,rfl,rfl,rfl,.inr (.inr ⟨rfl,rfl,e⟩)⟩
theorem axQ (x:lE.B):Ok (jg x) (λr:xQ=>SR x.1 r):=by
 unfold jg xR;show PQ _ _;rw[av];exact⟨rfl,rfl⟩
theorem aMJ (n:Nat)(p q z:Int)(w:Int×Int×Int×Int×Int):∀(d:gM.B) (hd:0<=d.1.2/\d.1.2<=(n:Int)/\d.2.1.2.2.1=n/\n<=1999/\d.2.1.2.1=z/\d.2.1.1=w/\d.1.1=p/\d.2.1.2.2.2=q),Ok (zB d) (λx:ph=>match x with
   |.inl e=>0<=e.1.2.1/\e.1.2.1<=(n:Int)/\e.1.2.2.1=n/\e.2.1.2.1=z/\e.2.1.1=w/\e.1.1=p/\e.2.1.2.2=q
   |.inr e=>0<=e.1.2.1/\e.1.2.1<=(n:Int)/\e.1.2.2.1=n/\e.2.1.2.1=z/\e.2.1.1=w/\e.1.1=p/\e.2.1.2.2=q):=
 bP (λd:gM.B=>ws (n-d.1.2)) (λd hd=>by
  have hw:wI (d.1.2+1)=d.1.2+1:=bo;obtain⟨i0,i1,i2,i3,i4,i5,i6⟩:=hd;unfold zA;try dsimp only
  rw[aK];refine⟨λh=> ?_,λ_=>by rw[av];exact⟨i0,i1,i2,i4,i5,i6⟩⟩;have h:=eK h;rw[dQ] at h;rw[bH,aK];refine⟨by simp only[cx];omega,λ_=> ?_,λ_=>by rw[av];exact⟨i0,i1,i2,i4,i5,i6⟩⟩;rw[av,rF];simp only[hw];exact⟨⟨by omega,by omega,i2,i3,i4,i5,i6⟩,by omega⟩) (λd hd=>by omega)
theorem aKa (x:oQ.B)(h:x.2.1.2.2.1<=1000):Ok (kl x) (λr:xA=>r.1<=x.2.1.2.2.1/\BR x.1 x.2.1 r.2.1):=by
 unfold kl CJ;try dsimp only
 show PQ _ _;rw[aN,bH];refine⟨rfl,ay (aMJ x.2.1.2.2.1 x.1 x.2.1.2.2.2 x.2.1.2.1 x.2.1.1 _ ⟨by dsimp only;omega,by dsimp only;omega,rfl,by omega,rfl,rfl,rfl,rfl⟩) λy _ hy=> ?_⟩;rw[qW];constructor
 all_goals
  rintro d rfl
  obtain⟨i0,i1,i2,i4,i5,i6,i7⟩:=hy;rw[bH];refine⟨by simp only[aey];omega,?_⟩;rw[aN,bH];refine⟨rfl,ay (aS9 (ws d.1.2.1) (by omega) _ _ _ _ _ _ _ _ _ _) λd1 _ h1=> ?_⟩;rw[aN,bH];refine⟨rfl,ay (aCv d.1.2.2.1 0 d.1.2.1 (by omega) i0 (by rw[i2];exact i1) _ _ _ _ _ _ _ _ _) λd2 _ h2=> ?_⟩;rw[av];have h2:d2.1=x.2.1.2.2.1-ws d.1.2.1:=by rw[h2,i2];simp only[Int.toNat_zero];omega
  refine⟨?_,λU p q=> ?_,i4,?_,cO (λz=>z.1) i5,cO (λz=>z.2.1) i5,cO (λz=>z.2.2.1) i5,cO (λz=>z.2.2.2.1) i5,λp q=> ?_⟩
  .show d1.1<=_;rw[h1];omega
  .show(if d.1.1>d.2.1.2.2 then d.1.1 else d.2.1.2.2)<=U;rw[i6,i7];split<;>assumption
  .show d2.1<=_;rw[h2];omega
  .have e:d.2.1.1.2.2.2.2=x.2.1.1.2.2.2.2:=cO (λz=>z.2.2.2.2) i5;have hw:wI (d.2.1.1.2.2.2.2+d.1.2.1)=x.2.1.1.2.2.2.2+d.1.2.1:=by rw[e];exact fS (by omega) (by omega)
   show 0<=wI (d.2.1.1.2.2.2.2+d.1.2.1)/\wI (d.2.1.1.2.2.2.2+d.1.2.1)+((d2.1:Nat):Int)=_;rw[hw,h2];omega
theorem aD5 {x:Int}(h0: -1152921504606846976<=x)(h1:x<=1152921504606846976)(b:Bool):rW x b=some x:=by
 have e:xG x (-1152921504606846976) 1152921504606846976 b=some (wn x):=by
  simp only[xG,KG,ck,cF];rw[dw (show ¬(-1152921504606846976:Int)>1152921504606846976 by omega),dw (show ¬x< -1152921504606846976 by omega),dw (show ¬x>1152921504606846976 by omega)];rfl
 simp only[rW,Qe,cT,e,bR,aD1,mT,cF]
theorem a1r {x:Int}(h0: -1152921504606846976<=x)(h1:x<=1152921504606846976)(n b:Bool):BH x true n b=some (wn x):=by
 simp only[BH,Qf,ck,cT,cF,LO,bK,aD5 h0 h1,bR]
theorem aHj {a b d:Int}(a0: -1152921504606846976<=a)(a1:a<=1152921504606846976)(b0: -1152921504606846976<=b)(b1:b<=1152921504606846976)(d0: -1152921504606846976<=d)(d1:d<=1152921504606846976)(nz:d≠0)
  (q0: -1152921504606846976<=IQ (a*b) d)(q1:IQ (a*b) d<=1152921504606846976)(h:Bool):lx a b d h=some (IQ (a*b) d):=by
 obtain⟨x,y,e,o,v⟩:=Ec a b (by omega) (by omega) (by omega) (by omega);have e2:=aJ9 x y d o (by omega) (by omega) nz;rw[v,if_pos ⟨by omega,by omega⟩] at e2;have z:(d==0)=false:=by rw[alH];exact nz
 simp only[lx,HY,Jw,UG,cT,ck,cF,aD5 a0 a1,aD5 b0 b1,aD5 d0 d1,bR,e,z,bK,e2,a1r q0 q1,aD1,mT]
theorem a1s {n d m:Int}(h0:0<=n)(hd:0<d)(hm:0<=m)(h:n<=m*d):0<=qdq n d/\qdq n d<=m:=by
 have a:=ayh n d;have b:=acf n (show d≠0 by omega);have c:=WB n hd;have q0:0<=n/d:=Eg h0 (by omega)
 have q1:n/d<=m:=by
  refine Int.le_of_lt_add_one (aca hd ?_);rw[agu,Int.one_mul];omega
 unfold qdq;split
 .omega
 .by_cases e:n/d=m
  .exfalso
   rw[e,Fi d m] at a;omega
  .omega
theorem aUq {n d m:Int}(hd:0<d)(hm:0<=m)(h0: -(m*d)<=n)(h1:n<=m*d): -m<=IQ n d/\IQ n d<=m:=by
 have e:lW d=d:=by unfold lW;split<;>omega
 have g:lW n<=m*d:=by unfold lW;split<;>omega
 obtain⟨p,q⟩:=a1s (aMz n) hd hm g;unfold IQ;rw[e];split<;>omega
theorem aZV {a x d m:Int}(ha0: -m<=a)(ha1:a<=m)(x0:0<=x)(x1:x<=d): -(m*d)<=a*x/\a*x<=m*d:=by
 have m0:0<=m:=by omega
 have h1:a*x<=m*x:=aqV ha1 x0;have h2:m*x<=m*d:=Int.mul_le_mul_of_nonneg_left x1 m0;have h3: -m*x<=a*x:=aqV ha0 x0;rw[Int.neg_mul] at h3;omega
theorem aKb (a b x d:Int)(h:Bool)(m:Int)(a0: -m<=a)(a1:a<=m)(b0: -m<=b)(b1:b<=m)(x0:0<=x)(x1:x<=d)(d0:0<d)(d1:d<=1000000000)(m1:m<=100000000000000):
  Ok (hO a b x d h) (λr:Int=> -(3*m)<=r/\r<=3*m):=by
 have e:wI (b-a)=b-a:=fS;obtain⟨p0,p1⟩:=aZV (a:=b-a) (m:=2*m) (by omega) (by omega) x0 x1;obtain⟨q0,q1⟩:=aUq d0 (show 0<=2*m by omega) p0 p1;have k:=aHj (a:=b-a) (b:=x) (d:=d) (by omega) (by omega) (by omega) (by omega) (by omega) (by omega) (by omega) (by omega) (by omega) h;have e2:wI (a+IQ ((b-a)*x) d)=a+IQ ((b-a)*x) d:=fS;unfold hO yy;show PQ _ _;rw[e,k,dL,av,e2];omega
theorem aVK (c0 c1 c2 c3 c4 c5 c6 i x:Int)(h:Bool)(g:∀c∈[c0,c1,c2,c3,c4,c5,c6], -9000<=c/\c<=9000)(i0:0<=i)(i1:i<=5)(x0:0<=x)(x1:x<=600000000):
  Ok (nc c0 c1 c2 c3 c4 c5 c6 i x h) (λr:Int=> -28991029248000<=r/\r<=28991029248000):=by
 have w:∀c∈[c0,c1,c2,c3,c4,c5,c6],wI (c*1073741824)=c*1073741824:=λc hc=>fS (by have:=g c hc;omega) (by have:=g c hc;omega)
 have z:wI (i+1)=i+1:=bo i0 (by omega);simp only[acg,List.not_mem_nil,or_false,forall_eq_or_imp,forall_eq] at w g;obtain⟨w0,w1,w2,w3,w4,w5,w6⟩:=w;obtain⟨g0,g1,g2,g3,g4,g5,g6⟩:=g;unfold nc yA;show PQ _ _;rw[w0,w1,w2,w3,w4,w5,w6,z];have r1:bk i 7=true:=by rw[cx];omega
 have r2:bk (i+1) 7=true:=by rw[cx];omega
 dsimp only;rw[r1,r2]
 repeat' (first
  |rw[aV]
  |(with_reducible refine ay (aKb _ _ _ _ _ 9663676416000 ?_ ?_ ?_ ?_ ?_ ?_ ?_ ?_ ?_) λr _ hr=> ?_)
  |(rw[aK];refine⟨λc=> ?_,λc=> ?_⟩))
 all_goals first
  |(rw[av];omega)
  |omega
theorem aP9 (x0 x1 x2:Int)(h:Bool):bq (pw x0 x1 x2 h):=by
 unfold pw BI;refine aF ?_;dsimp only;rw[bE];intro d hd;rw[aK];refine⟨λ_=>by rw[av];trivial,λk=> ?_⟩;rw[agq] at k;obtain⟨a0,a1,b0,b1⟩:=as9 hd k;clear hd k
 have ey0:wI (x1+1800000000)=x1+1800000000:=fS;have ey1:wI (x0+900000000)=x0+900000000:=fS;rw[ey0,ey1];have t0:t7 (x0+900000000) 450000000=(x0+900000000)/450000000:=aAk (by omega);have t1:t7 (x1+1800000000) 600000000=(x1+1800000000)/600000000:=aAk (by omega);rw[t0,t1,fS (n:=(x0+900000000)/450000000) (by omega) (by omega),fS (n:=(x1+1800000000)/600000000) (by omega) (by omega)];generalize hi:(if (3:Int)<(x0+900000000)/450000000 then(3:Int) else(x0+900000000)/450000000)=i
 generalize hj:(if (5:Int)<(x1+1800000000)/600000000 then(5:Int) else(x1+1800000000)/600000000)=j
 have hi':0<=i/\i<=3/\0<=x0+900000000-i*450000000/\x0+900000000-i*450000000<=450000000:=by
  split at hi<;>omega
 have hj':0<=j/\j<=5/\0<=x1+1800000000-j*600000000/\x1+1800000000-j*600000000<=600000000:=by
  split at hj<;>omega
 clear hi hj t0 t1 ey0 ey1
 obtain⟨i0,i1,u0,u1⟩:=hi';obtain⟨j0,j1,v0,v1⟩:=hj';rw[fS (n:=i*450000000) (by omega) (by omega),fS (n:=j*600000000) (by omega) (by omega),fS (n:=x0+900000000-i*450000000) (by omega) (by omega),fS (n:=x1+1800000000-j*600000000) (by omega) (by omega),bo i0 (by omega)];have r1:bk i 5=true:=by rw[cx];omega
 have r2:bk (i+1) 5=true:=by rw[cx];omega
 rw[r1,r2];generalize x0+900000000-i*450000000=u at u0 u1 ⊢
 generalize x1+1800000000-j*600000000=v at v0 v1 ⊢
 have fin:∀d:Int, -86973087744000<=d->d<=86973087744000->Ok (lx d 3373259426 19327352832000 h) (λ_=>True):=by
  intro d d0 d1;obtain⟨q0,q1⟩:=aUq (n:=d*3373259426) (d:=19327352832000) (m:=1000000000000000) (by omega) (by omega) (by omega) (by omega);rw[aHj (by omega) (by omega) (by omega) (by omega) (by omega) (by omega) (by omega) (by omega) (by omega) h];exact⟨_,rfl,trivial⟩
 rw[bE];intro _ _
 repeat' (first
  |rw[aV]
  |(with_reducible refine ay (aVK _ _ _ _ _ _ _ _ _ _ (by decide) j0 j1 v0 v1) λr _ hr=> ?_)
  |(with_reducible refine ay (aKb _ _ _ _ _ 28991029248000 ?_ ?_ ?_ ?_ u0 u1 (by omega) (by omega) (by omega)) λs _ hs=> ?_)
  |(with_reducible refine ay (fin _ ?_ ?_) λt _ _=> ?_)
  |(rw[aK];refine⟨λc=> ?_,λc=> ?_⟩))
 all_goals first
  |(rw[av];trivial)
  |omega
instance aUr (x:kH.B):bq (ig x):=by
 unfold ig uJ;try dsimp only
 have t:=aP9;exact aF (by rw[bE];intro _ _;rw[av];trivial)
theorem aTc (x:iC.B):Ok (jZ x) (λr:zM=>r.1.d.c.b.2.2=x.2.1.d.c.b.2.2/\r.1.c.1=x.2.1.c.1/\r.1.d.c.2.1=x.2.1.d.c.2.1):=by
 unfold jZ zN;try dsimp only
 show PQ _ _;simp only[aN]
 repeat' (first
  |rw[aV]
  |(with_reducible refine ay (af8 _ ?_) λe _ he=> ?_)
  |(with_reducible refine ay (bq.Ok (aP9 _ _ _ _) (Q:=λ_=>True) λ_ _=>trivial) λ_ _ _=> ?_)
  |(rw[ux];refine⟨λ_ _=> ?_,λ_ _=> ?_⟩)
  |(rw[bE];intro _ _)
  |(rw[aK];refine⟨λc=> ?_,λc=> ?_⟩))
 all_goals first
  |(rw[av];exact he.2)
  |(rw[av];exact⟨rfl,rfl,rfl⟩)
  |(dsimp only;omega)
theorem a1t (x:lQ.B)(k:bk x.1.1 6=true)(h:x.2.1.d.c.b.2.2<=90000):Ok (nG x) (λr:zO=>match r with|.inl e=>e.1.d.c.b.2.2<=x.2.1.d.c.b.2.2+3/\e.1.c.1=x.2.1.c.1/\e.1.d.c.2.1=x.2.1.d.c.2.1|.inr e=>e.1.1.d.c.b.2.2<=x.2.1.d.c.b.2.2+3/\e.1.1.c.1=x.2.1.c.1/\e.1.1.d.c.2.1=x.2.1.d.c.2.1):=by
 have hi:bk x.1.1 6=true:=k;unfold nG E0;try dsimp only
 show PQ _ _;simp only[aN,hi]
 repeat' (first
  |rw[aV]
  |(with_reducible refine ay (aZU _ ?_) λe _ he=> ?_)
  |(with_reducible refine ay (aHi _ ?_) λe _ he=> ?_)
  |(with_reducible refine ay (aMH _) λe _ he=> ?_)
  |(with_reducible refine ay (aTc _) λe _ he=> ?_)
  |(with_reducible refine ay (aMI _) λe _ he=> ?_)
  |(with_reducible refine ay (aZT _) λe _ he=> ?_)
  |(rw[ux];refine⟨λe0 e1=> ?_,λe0 e1=> ?_⟩)
  |(rw[bE];intro _ _)
  |(rw[aK];refine⟨λc=> ?_,λc=> ?_⟩))
 all_goals first
  |(dsimp only;omega)
  |(rw[av];exact⟨ch (Nat.le_of_eq he.1) (Nat.le_add_right _ _),he.2⟩)
  |(rw[av];exact⟨Nat.le_add_right _ _,rfl,rfl⟩)
  |(rw[e1] at he;rw[av];exact he)
  |(rw[e1] at he;rw[av];exact⟨ch he.1 (Nat.add_le_add_left (by decide) _),he.2⟩)
  |skip
theorem aMK (n:Int):∀(d:zH.B) (hd:0<=d.1.2.2.2.2/\d.1.2.2.2.2<=3/\d.1.2.1=n/\d.1.2.2.1=n/\0<=n/\n<=3),Ok (aoM d) (λx:SD=>x.1.2.2.1=n):=
 bP (λd:zH.B=>ws (3-d.1.2.2.2.2)) (λd hd=>by
  have hw:wI (d.1.2.2.2.2+1)=d.1.2.2.2.2+1:=bo;obtain⟨c0,c1,i0,i1,i2,i3⟩:=hd;have w0:wI (0+d.1.2.1)=d.1.2.1:=by rw[aEL];exact fS (by omega) (by omega)
  have w1:wI (10+d.1.2.2.2.2)=10+d.1.2.2.2.2:=fS;unfold aoL;dsimp only;rw[w0,w1,hw];rw[aK];refine⟨λh=> ?_,λ_=>by rw[av];exact i1⟩;have h:=eK h;have r0:bk d.1.2.2.2.2 3=true:=by rw[cx];omega
  have r1:bk d.1.2.1 24=true:=by rw[cx];omega
  have r2:bk (10+d.1.2.2.2.2) 24=true:=by rw[cx];omega
  have r3:(true&&wd (0+(ws d.1.2.1*24+ws (10+d.1.2.2.2.2))*1+1) 576)=true:=by rw[Ht,eV];omega
  rw[r0,r1,r2,r3]
  repeat' (first
   |rw[aV]
   |(rw[aK];refine⟨λc=> ?_,λc=> ?_⟩)
   |(rw[bE];intro _ _))
  all_goals (rw[av];exact⟨⟨by show 0<=d.1.2.2.2.2+1;omega,by show d.1.2.2.2.2+1<=3;omega,i0,i1,i2,i3⟩,by show ws (3-(d.1.2.2.2.2+1))<_;omega⟩)) (λd hd=>by omega)
theorem aML (n:Int):∀(d:zI.B) (hd:0<=d.1.2.2/\d.1.2.2<=3/\d.1.1=n/\d.1.2.1=n/\0<=n/\n<=2),Ok (aoO d) (λx:SE=>x.1.1=n/\x.1.2.1=n):=
 bP (λd:zI.B=>ws (3-d.1.2.2)) (λd hd=>by
  have hw:wI (d.1.2.2+1)=d.1.2.2+1:=bo;obtain⟨c0,c1,i0,i1,i2,i3⟩:=hd;have w0:wI (4+d.1.1)=4+d.1.1:=fS;have w1:wI (13+d.1.2.2)=13+d.1.2.2:=fS;have w2:wI (3*d.1.1)=3*d.1.1:=fS;have w3:wI (3*d.1.1+d.1.2.2)=3*d.1.1+d.1.2.2:=fS;unfold aoN;dsimp only;rw[w0,w1,w2,w3,hw];rw[aK];refine⟨λh=> ?_,λ_=>by rw[av];exact⟨i0,i1⟩⟩;have h:=eK h;have r0:bk (3*d.1.1+d.1.2.2) 9=true:=by rw[cx];omega
  have r1:bk (4+d.1.1) 24=true:=by rw[cx];omega
  have r2:bk (13+d.1.2.2) 24=true:=by rw[cx];omega
  have r3:(true&&wd (0+(ws (4+d.1.1)*24+ws (13+d.1.2.2))*1+1) 576)=true:=by rw[Ht,eV];omega
  rw[r0,r1,r2,r3]
  repeat' (first
   |rw[aV]
   |(rw[aK];refine⟨λc=> ?_,λc=> ?_⟩)
   |(rw[bE];intro _ _))
  all_goals (rw[av];exact⟨⟨by show 0<=d.1.2.2+1;omega,by show d.1.2.2+1<=3;omega,i0,i1,i2,i3⟩,by show ws (3-(d.1.2.2+1))<_;omega⟩)) (λd hd=>by omega)
theorem aMM:∀(d:zJ.B) (hd:0<=d.1.2/\d.1.2<=4),Ok (aoQ d) (λx:SF=>True):=
 bP (λd:zJ.B=>ws (4-d.1.2)) (λd hd=>by
  have hw:wI (d.1.2+1)=d.1.2+1:=bo;obtain⟨c0,c1⟩:=hd;have w0:wI (0+d.1.2)=d.1.2:=by rw[aEL];exact fS (by omega) (by omega)
  unfold aoP;dsimp only;rw[w0];rw[aK];refine⟨λh=> ?_,λ_=>by rw[av];trivial⟩;have h:=eK h;have r0:bk d.1.2 4=true:=by rw[cx];omega
  have r1:bk d.1.2 24=true:=by rw[cx];omega
  have r3:(true&&wd (0+ws d.1.2*24+4) 576)=true:=by rw[Ht,eV];omega
  rw[r0,r1,r3]
  repeat' (first
   |rw[aV]
   |(rw[aK];refine⟨λc=> ?_,λc=> ?_⟩)
   |(with_reducible refine ay (aMK d.1.2 _ ⟨eZ 0,(show(0:Int)<=3 by decide),rfl,rfl,c0,by omega⟩) λe _ he=> ?_))
  all_goals (rw[av,he,hw];exact⟨⟨by show 0<=d.1.2+1;omega,by show d.1.2+1<=4;omega⟩,by show ws (4-(d.1.2+1))<_;omega⟩)) (λd hd=>by omega)
theorem aMN:∀(d:zK.B) (hd:0<=d.1/\d.1<=3),Ok (aoS d) (λx:SG=>True):=
 bP (λd:zK.B=>ws (3-d.1)) (λd hd=>by
  obtain⟨c0,c1⟩:=hd;have hw:wI (d.1+1)=d.1+1:=bo;have w0:wI (4+d.1)=4+d.1:=fS;have w1:wI (7+d.1)=7+d.1:=fS;unfold aoR;dsimp only;rw[w0];rw[aK];refine⟨λh=> ?_,λ_=>by rw[av];trivial⟩;have h:=eK h;have r0:bk d.1 3=true:=by rw[cx];omega
  have r1:bk (4+d.1) 24=true:=by rw[cx];omega
  have r2:bk (7+d.1) 24=true:=by rw[cx];omega
  have r3:(true&&wd (0+ws (4+d.1)*24+4) 576)=true:=by rw[Ht,eV];omega
  have r4:(true&&wd (0+(ws (7+d.1)*24+ws (4+d.1))*1+1) 576)=true:=by rw[Ht,eV];omega
  rw[r0,r1,r3]
  repeat' (first
   |rw[aV]
   |(with_reducible refine ay (aML d.1 _ ⟨eZ 0,(show(0:Int)<=3 by decide),rfl,rfl,c0,by omega⟩) λe _ he=> ?_)
   |(rw[he.1,he.2,w0,w1,hw,r1,r2,r4])
   |(rw[aK];refine⟨λc=> ?_,λc=> ?_⟩))
  all_goals (rw[av];exact⟨⟨by show 0<=d.1+1;omega,by show d.1+1<=3;omega⟩,by show ws (3-(d.1+1))<_;omega⟩)) (λd hd=>by omega)
instance a34 (x0:Nat->Int)(x1:Int)(x2:Int)(x3:Int)(x4:Int)(x5:Int)(x6:Int)(x7:Int)(x8:Int)(x9:Bool):bq (afw x0 x1 x2 x3 x4 x5 x6 x7 x8 x9):=by
 unfold afw azA;try dsimp only
 refine aF ?_
 repeat' (first
  |(with_reducible refine ay (aMM _ ⟨eZ 0,(show(0:Int)<=4 by decide)⟩) λe _ he=> ?_)
  |(with_reducible refine ay (aMN _ ⟨eZ 0,(show(0:Int)<=3 by decide)⟩) λe _ he=> ?_)
  |(rw[bE];intro _ _))
 rw[av];trivial
instance aCw (x0:Nat->Int)(x1:Nat->Int)(x2:Nat->Int)(x3:Int)(x4:Int)(x5:Int)(x6:Int)(x7:Int)(x8:Int)(x9:Int)(fG:Int)(fD:Nat->Int)(Ad:Bool):bq (Gb x0 x1 x2 x3 x4 x5 x6 x7 x8 x9 fG fD Ad):=by
 unfold Gb aoT;exact aF (by simp only[bN,rm])
theorem aQa (N:Nat)(hN:N<=1999)(x:kR.B)(h:x.2.1.2.2<=N)(s:x.2.1.1<=(N:Int)):
  Ok (iQ x) (λr:oc=>match r with|.inl e=>e.2.1=x.2.1|.inr e=>e.1.1.1=x.2.1.1/\e.1.1.2.2<=N/\x.2.1.2.2<=e.1.1.2.2/\e.1.1.2.2<=e.2.1):=by
 unfold iQ sR;try dsimp only
 show PQ _ _;rw[aK];refine⟨λ_=>by rw[av],λh0=> ?_⟩;have hn:x.2.1.2.2≠0:=λe=>by rw[e] at h0;cases h0
 have w:wI (wl x.2.1.2.2-1)=wl (x.2.1.2.2-1):=by
  simp only[dQ];rw[fS (by omega) (by omega)];omega
 have b1:bk (wl (x.2.1.2.2-1)) x.2.1.2.2=true:=by simp only[cx,dQ];omega
 have b2:wd ((x.2.1.2.2+1)*88) 140737488355328=true:=by rw[eV];omega
 have b3:K0 1 (x.2.1.2.2+1)=true:=by simp only[aey];omega
 have b4:wd ((0+(x.2.1.2.2+1-1))*88) 140737488355328=true:=by rw[eV];omega
 rw[w,b1,b2,b3,b4]
 repeat' (first
  |rw[aV]
  |(rw[bE];intro _ _)
  |(rw[aK];refine⟨λc=> ?_,λc=> ?_⟩))
 all_goals first
  |(rw[av];exact⟨rfl,by show 0+(x.2.1.2.2+1-1)<=N;omega,by show x.2.1.2.2<=0+(x.2.1.2.2+1-1);omega,by show 0+(x.2.1.2.2+1-1)<=x.2.1.2.2+1-1;omega⟩)
  |(rw[av];have c:=pP c;simp only[dQ] at c;exact⟨rfl,by show x.2.1.2.2+1<=N;omega,by show x.2.1.2.2<=x.2.1.2.2+1;omega,eT _⟩)
  |(rw[av])
theorem aiY (N q q4:Nat)(q5:Int)(hN:N<=1999)(s:Int)(hs:s<=(N:Int)):∀(d:dr.B) (hd:0<=d.1.2.2/\d.1.2.2<=d.1.2.1/\d.1.2.1<=1999/\d.1.2.1=((d.1.1:Nat):Int)/\d.d.c.1.2.2<=N/\d.d.c.1.1=s/\d.d.c.1.2.2<=d.e.c.2.1/\d.2.1.d.c.2.2=q/\d.2.1.c.1=q4/\d.2.1.d.b.2.1=q5),Ok (lF d) (λx:nM=>x.d.c.1.2.2<=N/\x.d.c.1.1=s/\x.d.c.1.2.2<=x.e.c.2.1/\x.2.1.d.c.2.2=q/\x.2.1.c.1=q4/\x.2.1.d.b.2.1=q5):=
 bP (λd:dr.B=>ws (d.1.2.1-d.1.2.2)) (λd hd=>by
  obtain⟨i0,i1,i2,i3,i4,i5,i6,i7,i8,i9⟩:=hd;have hw:wI (d.1.2.2+1)=d.1.2.2+1:=bo;unfold xT;dsimp only;rw[aK];refine⟨λh=> ?_,λ_=>by rw[av];exact⟨i4,i5,i6,i7,i8,i9⟩⟩;have h:=eK h;have r0:bk d.1.2.2 d.1.1=true:=by rw[cx];omega
  rw[r0,hw,aN,aV,aV];with_reducible refine ay (aQa N hN _ ?_ ?_) λe _ he=> ?_
  .exact i4
  .show d.d.c.1.1<=(N:Int);omega
  rw[ux];refine⟨λa ha=> ?_,λa ha=> ?_⟩
  .rw[ha] at he;have he:a.2.1=d.d.c.1:=he;rw[av];exact⟨⟨by show 0<=d.1.2.2+1;omega,by show d.1.2.2+1<=d.1.2.1;omega,i2,i3,by show a.2.1.2.2<=N;rw[he];exact i4,by show a.2.1.1=s;rw[he];exact i5,by show a.2.1.2.2<=d.e.c.2.1;rw[he];exact i6,i7,i8,i9⟩,by show ws (d.1.2.1-(d.1.2.2+1))<_;omega⟩
  .rw[ha] at he;obtain⟨e1,e2,e3,e4⟩:=he;rw[av];exact⟨⟨by show 0<=d.1.2.2+1;omega,by show d.1.2.2+1<=d.1.2.1;omega,i2,i3,e2,e1.trans i5,e4,i7,i8,i9⟩,by show ws (d.1.2.1-(d.1.2.2+1))<_;omega⟩) (λd hd=>by omega)
theorem aVL (x:fZ.B):Ok (gf x) (λr:qX=>r.1.1.1=x.2.1.1):=by
 unfold gf m8;show PQ _ _;rw[bE];intro _ _;rw[av]
theorem aVM (N:Nat)(h1:1<=N)(hN:N<=1999)(x:gj.B)(hl:x.2.2.2.2.2.2.2.2.2.2.2.2.1.1<=(N:Int))(hq:x.2.1.2.2.2.2.1<=1999):Ok (gW x) (λr:qH=>match r with|.inl e=>e.2=x.2.2.2.2.2.2.2.2.2.2.2.2.1/\e.1.2.2.2.2.2.2.2.2.2.2.2.2.2.2.2.2=x.2.1.2.2.2.2.2.2.2.2.2.2.2.2.2.2.2.2/\e.1.2.2.2.2.1=x.2.1.2.2.2.2.1/\e.1.2.2.2.2.2.2.2.2.2.2.2.2.2.1=x.2.1.2.2.2.2.2.2.2.2.2.2.2.2.2.1|.inr e=>e.1.2.2.2<=N/\e.1.2.1=x.2.2.2.2.2.2.2.2.2.2.2.2.1.1/\e.1.2.2.2<=e.2.1/\e.1.1.2.2.2.2.2.2.2.2.2.2.2.2.2.2=x.2.1.2.2.2.2.2.2.2.2.2.2.2.2.2.2.2.2/\e.1.1.2.2.2.2.1=x.2.1.2.2.2.2.1/\e.1.1.2.2.2.2.2.2.2.2.2.2.2.1=x.2.1.2.2.2.2.2.2.2.2.2.2.2.2.2.1):=by
 unfold gW AT;try dsimp only
 show PQ _ _;simp only[aN]
 repeat' (first
  |rw[aV]
  |(with_reducible refine ay (aVL _) λe _ he=> ?_)
  |(with_reducible refine ay (aiY N x.2.1.2.2.2.2.2.2.2.2.2.2.2.2.2.2.2.2 x.2.1.2.2.2.2.1 x.2.1.2.2.2.2.2.2.2.2.2.2.2.2.2.1 hN x.2.2.2.2.2.2.2.2.2.2.2.2.1.1 hl _ ?_) λe _ he=> ?_)
  |(rw[bE];intro _ _)
  |(rw[aK];refine⟨λc=> ?_,λc=> ?_⟩))
 all_goals first
  |(rw[av];exact⟨rfl,rfl,rfl,rfl⟩)
  |(rw[av];exact he)
  |(obtain⟨a,b,c,e⟩:=hdN x.2.1.2.2.2.2.1 hq
    exact⟨a,b,c,e,h1,he,eT _,rfl,rfl,rfl⟩)
  |skip
theorem Qv (n:Nat)(p:Int×Int×Nat):∀(d:dW.B) (hd:0<=d.1.2.2.2.2/\d.1.2.2.2.2<=d.1.2.2.2.1/\n<=1999/\d.1.2.2.2.1=(n:Int)/\d.1.2.2.1=n/\d.2.1=p/\d.1.2.1<(n:Int)),Ok (nH d) (λx:j3=>x.1.2.2.1=n/\x.2.1=p/\x.1.2.1<(n:Int)):=
 bP (λd:dW.B=>ws (d.1.2.2.2.1-d.1.2.2.2.2)) (λd hd=>by
  have hw:wI (d.1.2.2.2.2+1)=d.1.2.2.2.2+1:=bo;obtain⟨i0,i1,i2,i3,i4,i5,i6⟩:=hd;unfold tP;dsimp only;rw[aK];refine⟨λh=> ?_,λ_=>by rw[av];exact⟨i4,i5,i6⟩⟩;have h:=eK h;have r0:bk d.1.2.2.2.2 d.1.2.2.1=true:=by rw[cx];omega
  rw[r0,hw,aV,aK];refine⟨λ_=> ?_,λ_=> ?_⟩
  .rw[av];exact⟨⟨by show 0<=d.1.2.2.2.2+1;omega,by show d.1.2.2.2.2+1<=d.1.2.2.2.1;omega,i2,i3,i4,i5,by show d.1.2.2.2.2<(n:Int);omega⟩,by show ws (d.1.2.2.2.1-(d.1.2.2.2.2+1))<_;omega⟩
  .rw[av];exact⟨⟨by show 0<=d.1.2.2.2.2+1;omega,by show d.1.2.2.2.2+1<=d.1.2.2.2.1;omega,i2,i3,i4,i5,i6⟩,by show ws (d.1.2.2.2.1-(d.1.2.2.2.2+1))<_;omega⟩) (λd hd=>by omega)
theorem Qw (d:dX.B)(h0:0<=d.1)(h1:d.1<4):Ok (nJ d) (λx:fy=>x.1.1=d.1/\x.2.1=(d.2.1.1,d.2.1.2.2)/\x.b.2.1=d.b.2.1):=by
 have r0:bk d.1 4=true:=by rw[cx];omega
 unfold nJ nI;try dsimp only
 show PQ _ _;rw[r0]
 repeat' (first
  |rw[aV]
  |(rw[bE];intro _ _)
  |(rw[aK];refine⟨λc=> ?_,λc=> ?_⟩))
 all_goals (rw[av];exact⟨rfl,rfl,rfl⟩)
theorem Qx (a:Int)(n:Nat)(v:Nat×(Nat->Int)×(Nat->Int)×(Nat->Int)×(Nat->Int)×(Nat->Int)×(Nat->Int)×(Nat->Int)×(Nat->Int)×(Nat->Int)×(Nat->Int)×(Nat->Int)):∀(d:dq.B) (hd:0<=d.1/\d.1<=4/\d.2.1.1=a/\d.2.1.2.2=n/\d.b.2.1=v),Ok (tQ d) (λx:gU=>x.2.1.1=a/\x.2.1.2.2=n/\x.b.2.1=v):=
 bP (λd:dq.B=>ws (4-d.1)) (λd hd=>by
  have hw:wI (d.1+1)=d.1+1:=bo;obtain⟨i0,i1,i2,i3,i4⟩:=hd;unfold nK;dsimp only;rw[aK];refine⟨λh=> ?_,λ_=>by rw[av];exact⟨i2,i3,i4⟩⟩;have h:=eK h;have r0:bk d.1 4=true:=by rw[cx];omega
  rw[r0]
  repeat' (first
   |rw[aV]
   |(with_reducible refine ay (Qw _ i0 h) λe _ he=> ?_)
   |(rw[aK];refine⟨λc=> ?_,λc=> ?_⟩))
  all_goals (obtain⟨e1,e2,e3⟩:=he;rw[av,e1,e2,hw];exact⟨⟨by show 0<=d.1+1;omega,by show d.1+1<=4;omega,i2,i3,e3.trans i4⟩,by show ws (4-(d.1+1))<_;omega⟩)) (λd hd=>by omega)
theorem aQb (x:iY.B)(h:x.2.1.2.2<=1999):Ok (lR x) (λr:pL=>r.b.1=x.2.1.2.2):=by
 unfold lR pM;try dsimp only
 show PQ _ _;rw[aN,aV];with_reducible refine ay (Qv x.2.1.2.2 x.2.1 _ ?_) λd _ hd=> ?_
 .exact⟨eZ 0,by show(0:Int)<=wl x.2.1.2.2;simp only[dQ];omega,h,rfl,rfl,rfl,by show(-1:Int)<_;omega⟩
 obtain⟨d1,d2,d3⟩:=hd;try dsimp only
 rw[aK];refine⟨λ_=>by rw[av];exact d1,λc=> ?_⟩;have c:=pP c;have r0:bk d.1.2.1 d.2.1.2.2=true:=by rw[cx,d2];omega
 rw[r0,aV];rw[bE];intro e1 _;rw[bE];intro e2 _;rw[bE];intro e3 _;rw[bE];intro e4 _;rw[bE];intro e5 _;with_reducible refine ay (Qx x.2.1.1 x.2.1.2.2 (d.1.b.1,d.b.2.1) _ ?_) λf _ hf=> ?_
 .exact⟨by show(0:Int)<=1;decide,by show(1:Int)<=4;decide,by show d.2.1.1=_;rw[d2],by show d.2.1.2.2=_;rw[d2],rfl⟩
 obtain⟨f1,f2,f3⟩:=hf;rw[bE];intro e6 _;rw[aN,aV];with_reducible refine ay (UN _ ?_) λg _ hg=> ?_
 .show f.2.1.2.2<=1999;omega
 have hg:g.2.1=f.2.1.2.2:=hg;have fn:f.b.2.1.1=x.2.1.2.2:=by rw[f3];exact d1
 have b1:(true&&ww (g.2.1*11+0) (f.2.1.2.2*11)&&true)=true:=by rw[hg,kC,aN];rfl
 have b2:(true&&wd (0+(g.2.1*11+0)) (f.b.2.1.1*11+0))=true:=by rw[hg,fn,Ht,eV];omega
 rw[b1,b2,aV,aV,av];exact fn
theorem aps (a b c:Int):oe a b c=some (decide (b<=a)&&decide (a<=c)):=by
 simp only[oe,Ny,ck,cF];by_cases h:b<=a<;>simp[h]
theorem aTd (w:mz.B):∀(d:mz.B) (hd:0<=d.1.2/\d.1.2<=24/\d.2=w.2/\∀j:Nat,(j:Int)<d.1.2->(0<=w.2.2.2.2.2.2.2.2.2.2.2.2.2.2.2.2.2.1 j/\w.2.2.2.2.2.2.2.2.2.2.2.2.2.2.2.2.2.1 j<=72057594037927936)/\1<=w.2.2.2.2.2.2.2.2.2.2.2.2.2.2.2.2.2.2.1 j/\w.2.2.2.2.2.2.2.2.2.2.2.2.2.2.2.2.2.2.1 j<=72057594037927936),Ok (II d) (λx:Eb=>match x with|.inl _=>True|.inr e=>e.2=w.2/\∀j:Nat,j<24->(0<=w.2.2.2.2.2.2.2.2.2.2.2.2.2.2.2.2.2.1 j/\w.2.2.2.2.2.2.2.2.2.2.2.2.2.2.2.2.2.1 j<=72057594037927936)/\1<=w.2.2.2.2.2.2.2.2.2.2.2.2.2.2.2.2.2.2.1 j/\w.2.2.2.2.2.2.2.2.2.2.2.2.2.2.2.2.2.2.1 j<=72057594037927936):=
 bP (λd:mz.B=>ws (24-d.1.2)) (λd hd=>by
  have hw:wI (d.1.2+1)=d.1.2+1:=bo;obtain⟨i0,i1,i2,i3⟩:=hd;unfold Rs;dsimp only;rw[aK];refine⟨λh=> ?_,λh=> ?_⟩
  .have h:=eK h;have r0:bk d.1.2 24=true:=by rw[cx];omega
   have r1:wd (0+ws d.1.2*1+1) 24=true:=by rw[eV];omega
   rw[r0,r1,aV,aV,aps,dL,aK];refine⟨λ_=>by rw[av];trivial,λc=> ?_⟩;rw[aV,aV,aps,dL,aK];refine⟨λ_=>by rw[av];trivial,λc2=> ?_⟩;rw[agq,cq,mf,mf] at c c2;rw[av,hw];refine⟨⟨by show 0<=d.1.2+1;omega,by show d.1.2+1<=24;omega,i2,λj hj=> ?_⟩,by show ws (24-(d.1.2+1))<_;omega⟩;have hj:(j:Int)<d.1.2+1:=hj;by_cases e:(j:Int)<d.1.2
   .exact i3 j e
   .have e2:ws d.1.2=j:=by omega
    rw[e2,i2] at c c2;exact⟨c,c2⟩
  .have h:=pP h;rw[av];exact⟨i2,λj hj=>i3 j (by omega)⟩) (λd hd=>by omega)
structure aZW (x:FW.B):Prop where
 place:∃e,zw x.2.2.2.2.2.2.2.2.2.2.2.2.2.1 x.2.2.2.2.2.2.2.2.2.2.2.2.2.2.1 x.2.2.2.2.2.2.2.2.2.2.2.2.2.2.2=some (wn e)
 arr:∀j:Nat,j<24->(0<=x.2.2.2.2.2.2.1 j/\x.2.2.2.2.2.2.1 j<=72057594037927936)/\1<=x.2.2.2.2.2.2.2.1 j/\x.2.2.2.2.2.2.2.1 j<=72057594037927936
 nums:1000<=x.1/\x.1<=100000/\0<=x.2.1/\x.2.1<=300000/\1<=x.2.2.1/\x.2.2.1<=64/\0<=x.2.2.2.1/\x.2.2.2.1<=100/\0<=x.2.2.2.2.2.2.2.2.1/\x.2.2.2.2.2.2.2.2.1<=1099511627776/\1<=x.2.2.2.2.2.2.2.2.2.1/\x.2.2.2.2.2.2.2.2.2.1<=72057594037927936/\0<=x.2.2.2.2.2.2.2.2.2.2.1/\x.2.2.2.2.2.2.2.2.2.2.1<=3/\1<=x.2.2.2.2.2.2.2.2.2.2.2.1/\x.2.2.2.2.2.2.2.2.2.2.2.1<=1073741824/\1<=x.2.2.2.2.2.2.2.2.2.2.2.2.1/\x.2.2.2.2.2.2.2.2.2.2.2.2.1<=64/\1<=x.2.2.2.2.1.1/\x.2.2.2.2.1.1<=1000/\1<=x.2.2.2.2.1.2.1/\x.2.2.2.2.1.2.1<=1000/\1<=x.2.2.2.2.1.2.2.1/\x.2.2.2.2.1.2.2.1<=1000/\1<=x.2.2.2.2.1.2.2.2.1/\x.2.2.2.2.1.2.2.2.1<=1000/\1<=x.2.2.2.2.1.2.2.2.2.1/\x.2.2.2.2.1.2.2.2.2.1<=1000/\1<=x.2.2.2.2.1.2.2.2.2.2/\x.2.2.2.2.1.2.2.2.2.2<=1000/\1<=x.2.2.2.2.2.1.1/\x.2.2.2.2.2.1.1<=1099511627776/\1<=x.2.2.2.2.2.1.2.1/\x.2.2.2.2.2.1.2.1<=1099511627776/\1<=x.2.2.2.2.2.1.2.2.1/\x.2.2.2.2.2.1.2.2.1<=1099511627776/\1<=x.2.2.2.2.2.1.2.2.2.1/\x.2.2.2.2.2.1.2.2.2.1<=1099511627776/\1<=x.2.2.2.2.2.1.2.2.2.2.1/\x.2.2.2.2.2.1.2.2.2.2.1<=1099511627776/\1<=x.2.2.2.2.2.1.2.2.2.2.2/\x.2.2.2.2.2.1.2.2.2.2.2<=1099511627776
theorem aVN (x:FW.B):Ok (pf x) (λr:Bool=>r=true->aZW x):=by
 unfold pf abG;try dsimp only
 show PQ _ _
 repeat' (first
  |(rw[aps,dL])
  |(with_reducible refine ay (aTd _ _ ⟨eZ 0,(show(0:Int)<=24 by decide),rfl,λj hj=>absurd hj (by show ¬(j:Int)<0;omega)⟩) λe _ he=> ?_)
  |(rw[qW];refine⟨λa ha=> ?_,λa ha=> ?_⟩)
  |(rw[ux];refine⟨λb hb=> ?_,λb hb=> ?_⟩)
  |(rw[bE];intro q hq)
  |(rw[aK];refine⟨λc=> ?_,λc=> ?_⟩<;>(try simp only[oL,agq,cq,mf,Wy] at c)))
 all_goals first
  |(rw[av];intro hr;exact absurd hr (by decide))
  |skip
 rw[ha] at he;obtain⟨e1,e2⟩:=he;obtain⟨a1,a2⟩:=a;have e1:a2=_:=e1;subst e1;rw[av];intro hr;have hr:=eK hr;rw[hb] at hq;refine⟨⟨_,hq⟩,e2,?_⟩;dsimp only at*
 omega
theorem uu {δ:Type}{Q:δ->Prop}(x y:Pg δ):PQ (.ae false x y) Q=PQ y Q:=by unfold PQ;rw[Pg.ck];rfl
theorem aQc (a:Int)(h:1000<=a)(k:a<=100000):uL a=some (wn a):=by
 have h1:decide (a<1000)=false:=dw (by omega);have h2:decide (a>100000)=false:=dw (by omega);unfold uL Jy;rw[h1,h2];rfl
theorem aTe (a:Int)(h:1<=a)(k:a<=64):Gg a=some (wn (a,λ_=>0)):=by
 have h1:decide (a<1)=false:=dw (by omega);have h2:decide (a>64)=false:=dw (by omega);unfold Gg ZA;rw[h1,h2];rfl
theorem aMO (a b:Int)(h:1<=a)(k:a<=64)(h':1<=b)(k':b<=1073741824):BJ a b=some (wn ((a,b),λ_=>0)):=by
 have h1:decide (a<1)=false:=dw (by omega);have h2:decide (a>64)=false:=dw (by omega);have h3:decide (b<1)=false:=dw (by omega);have h4:decide (b>1073741824)=false:=dw (by omega);unfold BJ Qn;rw[h1,h2,h3,h4];rfl
theorem aMP (T:Nat->Int)(hT:∀j:Nat,j<6->1<=T j/\T j<=1099511627776):∀(d:jy.B) (hd:0<=d.1.2.2.2/\d.1.2.2.2<=6/\d.1.2.1.1=6/\d.1.2.2.1=6/\d.2.1=T),Ok (C' d) (λx:rX=>match x with|.inl _=>False|.inr _=>True):=
 bP (λd:jy.B=>ws (6-d.1.2.2.2)) (λd hd=>by
  obtain⟨i0,i1,i2,i3,i4⟩:=hd;have hw:wI (d.1.2.2.2+1)=d.1.2.2.2+1:=bo;unfold C9;dsimp only;rw[aK];refine⟨λh=> ?_,λ_=>by rw[av];trivial⟩;have h:=eK h;have r0:bk d.1.2.2.2 d.1.2.1.1=true:=by rw[cx];omega
  have r1:bk d.1.2.2.2 6=true:=by rw[cx];omega
  have t:=hT (ws d.1.2.2.2) (by omega);have c1:decide (d.2.1 (ws d.1.2.2.2)<1)=false:=dw (by rw[i4];omega);have c2:decide (d.2.1 (ws d.1.2.2.2)>1099511627776)=false:=dw (by rw[i4];omega);have r2:(wd (0+ws d.1.2.2.2*6+6) 36&&wd (0+ws d.1.2.2.2*6+6) 37)=true:=by rw[cq,eV,eV];omega
  rw[r0,c1,c2,r1,r2,hw,aV,uu,uu,aV,aV,av];exact⟨⟨by show 0<=d.1.2.2.2+1;omega,by show d.1.2.2.2+1<=6;omega,i2,i3,i4⟩,by show ws (6-(d.1.2.2.2+1))<_;omega⟩) (λd hd=>by omega)
theorem aMQ (m:Int)(T:Nat->Int)(w:Bool)(h:0<=m)(k:m<=100)(hT:∀j:Nat,j<6->1<=T j/\T j<=1099511627776):Ok (rY m 6 T w) (λr:wC=>∃e,r=wn e):=by
 have h1:decide (m<0)=false:=dw (by omega);have h2:decide (m>100)=false:=dw (by omega);unfold rY GV;show PQ _ _;rw[h1,h2,uu,uu,(show(wl 6!=6)=false from rfl),uu,aN,aV];refine ay (aMP T hT _ ⟨eZ 0,(show(0:Int)<=6 by decide),rfl,rfl,rfl⟩) λy _ hy=> ?_;rw[qW];refine⟨λa ha=> ?_,λa ha=> ?_⟩
 .rw[ha] at hy;exact hy.elim
 .rw[av];exact⟨_,rfl⟩
theorem aQd (a b c:Int)(h:∃e,zw a b c=some (wn e)):Ok (DQ a b c) (λr:yL=>∃e,r=wn e):=by
 obtain⟨e,h⟩:=h;have g:(DQ a b c:Option yL)=zw a b c:=rfl;exact⟨wn e,g.trans h,e,rfl⟩
theorem a1u (x:KH.B):Ok (AA x) (λr:Qo=>match r with|.inl _=>True|.inr e=>1<=x.2.2.1/\x.2.2.1<=64/\1<=x.2.2.2.2.2.2.2.2.2.2.2.2.1/\x.2.2.2.2.2.2.2.2.2.2.2.2.1<=64/\e.2.2.2.2.1=x.2.2.1/\e.2.2.2.2.2.1=x.2.2.1/\e.2.2.2.2.2.2.1=x.2.2.1/\e.2.2.2.2.2.2.2.1=x.2.2.1/\e.2.2.2.2.2.2.2.2.1=x.2.2.1/\e.2.2.2.2.2.2.2.2.2.1=x.2.2.1/\e.2.2.2.2.2.2.2.2.2.2.2.1.1=x.2.2.2.2.2.2.2.2.2.2.2.2.1):=by
 unfold AA ZB;try dsimp only
 show PQ _ _;refine ay (aVN x) λr _ hr=> ?_;rw[aK];refine⟨λ_=>by rw[av];trivial,λc=> ?_⟩;have cc:aZW x:=hr (by simpa using c);have n:=cc.nums
 have hT:∀j:Nat,j<6->1<=(bif ww j 5 then x.2.2.2.2.2.1.2.2.2.2.2 else bif ww j 4 then x.2.2.2.2.2.1.2.2.2.2.1 else bif ww j 3 then x.2.2.2.2.2.1.2.2.2.1 else bif ww j 2 then x.2.2.2.2.2.1.2.2.1 else bif ww j 1 then x.2.2.2.2.2.1.2.1 else bif ww j 0 then x.2.2.2.2.2.1.1 else x.2.2.2.2.2.1.1)/\(bif ww j 5 then x.2.2.2.2.2.1.2.2.2.2.2 else bif ww j 4 then x.2.2.2.2.2.1.2.2.2.2.1 else bif ww j 3 then x.2.2.2.2.2.1.2.2.2.1 else bif ww j 2 then x.2.2.2.2.2.1.2.2.1 else bif ww j 1 then x.2.2.2.2.2.1.2.1 else bif ww j 0 then x.2.2.2.2.2.1.1 else x.2.2.2.2.2.1.1)<=1099511627776:=by
  intro j hj;have e:j=0∨j=1∨j=2∨j=3∨j=4∨j=5:=by omega
  rcases e with rfl|rfl|rfl|rfl|rfl|rfl
  .exact⟨by show 1<=x.2.2.2.2.2.1.1;omega,by show x.2.2.2.2.2.1.1<=1099511627776;omega⟩
  .exact⟨by show 1<=x.2.2.2.2.2.1.2.1;omega,by show x.2.2.2.2.2.1.2.1<=1099511627776;omega⟩
  .exact⟨by show 1<=x.2.2.2.2.2.1.2.2.1;omega,by show x.2.2.2.2.2.1.2.2.1<=1099511627776;omega⟩
  .exact⟨by show 1<=x.2.2.2.2.2.1.2.2.2.1;omega,by show x.2.2.2.2.2.1.2.2.2.1<=1099511627776;omega⟩
  .exact⟨by show 1<=x.2.2.2.2.2.1.2.2.2.2.1;omega,by show x.2.2.2.2.2.1.2.2.2.2.1<=1099511627776;omega⟩
  .exact⟨by show 1<=x.2.2.2.2.2.1.2.2.2.2.2;omega,by show x.2.2.2.2.2.1.2.2.2.2.2<=1099511627776;omega⟩
 rw[bE];intro _ _;rw[bE];intro _ _;rw[bE];intro _ _;refine ay (aQd _ _ _ cc.place) λf _ hf=> ?_;obtain⟨f,rfl⟩:=hf;rw[ux];refine⟨λ_ h=>(nomatch h),λf hf=> ?_⟩;rw[aQc _ (by omega) (by omega),dL,ux];refine⟨λ_ h=>(nomatch h),λg hg=> ?_⟩;refine ay (aMQ _ _ _ (by omega) (by omega) hT) λh _ hh=> ?_;obtain⟨h,rfl⟩:=hh;rw[ux];refine⟨λ_ h=>(nomatch h),λf hf=> ?_⟩;rw[aMO _ _ (by omega) (by omega) (by omega) (by omega),dL,ux];refine⟨λ_ h=>(nomatch h),λp hp=> ?_⟩;rw[aTe _ (by omega) (by omega)];rw[dL,ux];refine⟨λ_ h=>(nomatch h),λb0 RJ=> ?_⟩;cases RJ;rw[dL,ux];refine⟨λ_ h=>(nomatch h),λb1 hb1=> ?_⟩;cases hb1;rw[dL,ux];refine⟨λ_ h=>(nomatch h),λb2 Fj=> ?_⟩;cases Fj;rw[dL,ux];refine⟨λ_ h=>(nomatch h),λb3 hb3=> ?_⟩;cases hb3;rw[dL,ux];refine⟨λ_ h=>(nomatch h),λb4 hb4=> ?_⟩;cases hb4;rw[dL,ux];refine⟨λ_ h=>(nomatch h),λb5 hb5=> ?_⟩;cases hb5;cases hp;rw[av];refine⟨by omega,by omega,by omega,by omega,rfl,rfl,rfl,rfl,rfl,rfl,rfl⟩
theorem aVO (J:Int)(w:bI.B):∀(d:bI.B) (hd:0<=d.1.2.2.2.2/\d.1.2.2.2.2<=d.1.2.2.2.1/\d.1.2.2.2.1=((d.1.2.2.1:Nat):Int)/\d.1.2.2.2.1<=64/\((d.2.1.2.2.2.2.2.2.2.2.2.2.2.2.2.2.2.2:Nat):Int)+3*(d.1.2.2.2.1-d.1.2.2.2.2)<=J/\J<=90000/\bk d.1.1 6=true/\d.1.2.1=w.1.2.1/\d.2.2.2.2.2.1=w.2.2.2.2.2.1/\d.2.2.2.2.2.2.1=w.2.2.2.2.2.2.1/\d.2.2.2.2.2.2.2.1=w.2.2.2.2.2.2.2.1/\d.2.2.2.2.2.2.2.2.1=w.2.2.2.2.2.2.2.2.1/\d.2.2.2.2.2.2.2.2.2.1=w.2.2.2.2.2.2.2.2.2.1/\d.2.2.2.2.2.2.2.2.2.2.1=w.2.2.2.2.2.2.2.2.2.2.1/\d.2.2.2.2.2.2.2.2.2.2.2.2.1=w.2.2.2.2.2.2.2.2.2.2.2.2.1/\d.2.2.2.2.2.2.2.2.2.2.2.2.2.2.2.2.2.2.2.2.2.2.2.1=w.2.2.2.2.2.2.2.2.2.2.2.2.2.2.2.2.2.2.2.2.2.2.2.1/\d.2.1.2.2.2.2.1=w.2.1.2.2.2.2.1/\d.2.1.2.2.2.2.2.2.2.2.2.2.2.2.2.1=w.2.1.2.2.2.2.2.2.2.2.2.2.2.2.2.1/\d.2.2.2.2.2.2.2.2.2.2.2.2.2.2.1=w.2.2.2.2.2.2.2.2.2.2.2.2.2.2.1),Ok (gD d) (λx:gC=>((x.2.1.2.2.2.2.2.2.2.2.2.2.2.2.2.2.2.2:Nat):Int)<=J/\x.1.2.1=w.1.2.1/\x.2.2.2.2.2.1=w.2.2.2.2.2.1/\x.2.2.2.2.2.2.1=w.2.2.2.2.2.2.1/\x.2.2.2.2.2.2.2.1=w.2.2.2.2.2.2.2.1/\x.2.2.2.2.2.2.2.2.1=w.2.2.2.2.2.2.2.2.1/\x.2.2.2.2.2.2.2.2.2.1=w.2.2.2.2.2.2.2.2.2.1/\x.2.2.2.2.2.2.2.2.2.2.1=w.2.2.2.2.2.2.2.2.2.2.1/\x.2.2.2.2.2.2.2.2.2.2.2.2.1=w.2.2.2.2.2.2.2.2.2.2.2.2.1/\x.2.2.2.2.2.2.2.2.2.2.2.2.2.2.2.2.2.2.2.2.2.2.2.1=w.2.2.2.2.2.2.2.2.2.2.2.2.2.2.2.2.2.2.2.2.2.2.2.1/\x.2.1.2.2.2.2.1=w.2.1.2.2.2.2.1/\x.2.1.2.2.2.2.2.2.2.2.2.2.2.2.2.1=w.2.1.2.2.2.2.2.2.2.2.2.2.2.2.2.1/\x.2.2.2.2.2.2.2.2.2.2.2.2.2.2.1=w.2.2.2.2.2.2.2.2.2.2.2.2.2.2.1):=
 bP (λd:bI.B=>ws (d.1.2.2.2.1-d.1.2.2.2.2)) (λd hd=>by
  obtain⟨i0,i1,i2,i3,i4,i5,i6,i7,ik⟩:=hd;have hw:wI (d.1.2.2.2.2+1)=d.1.2.2.2.2+1:=bo;unfold px;dsimp only;rw[aK];refine⟨λh=> ?_,λ_=>by rw[av];exact⟨by show((d.2.1.2.2.2.2.2.2.2.2.2.2.2.2.2.2.2.2:Nat):Int)<=J;omega,i7,ik⟩⟩;have h:=eK h;have r0:bk d.1.2.2.2.2 d.1.2.2.1=true:=by rw[cx];omega
  rw[r0,hw];simp only[aN]
  repeat' (first
   |rw[aV]
   |(with_reducible refine ay (a1t _ ?_ ?_) λe _ he=> ?_)
   |(rw[ux];refine⟨λa ha=> ?_,λa ha=> ?_⟩))
  .exact i6
  .show d.2.1.2.2.2.2.2.2.2.2.2.2.2.2.2.2.2.2<=90000;omega
  .rw[ha] at he;have he:a.1.2.2.2.2.2.2.2.2.2.2.2.2.2.2.2.2<=d.2.1.2.2.2.2.2.2.2.2.2.2.2.2.2.2.2.2+3/\a.1.2.2.2.2.1=d.2.1.2.2.2.2.1/\a.1.2.2.2.2.2.2.2.2.2.2.2.2.2.1=d.2.1.2.2.2.2.2.2.2.2.2.2.2.2.2.1:=he;rw[av];exact⟨⟨by show 0<=d.1.2.2.2.2+1;omega,by show d.1.2.2.2.2+1<=d.1.2.2.2.1;omega,i2,i3,by show((a.1.2.2.2.2.2.2.2.2.2.2.2.2.2.2.2.2:Nat):Int)+3*(d.1.2.2.2.1-(d.1.2.2.2.2+1))<=J;omega,i5,i6,i7,ik.1,ik.2.1,ik.2.2.1,ik.2.2.2.1,ik.2.2.2.2.1,ik.2.2.2.2.2.1,ik.2.2.2.2.2.2.1,ik.2.2.2.2.2.2.2.1,he.2.1.trans ik.2.2.2.2.2.2.2.2.1,he.2.2.trans ik.2.2.2.2.2.2.2.2.2.1,ik.2.2.2.2.2.2.2.2.2.2⟩,by show ws (d.1.2.2.2.1-(d.1.2.2.2.2+1))<_;omega⟩
  .rw[ha] at he;have he:a.1.1.2.2.2.2.2.2.2.2.2.2.2.2.2.2.2.2<=d.2.1.2.2.2.2.2.2.2.2.2.2.2.2.2.2.2.2+3/\a.1.1.2.2.2.2.1=d.2.1.2.2.2.2.1/\a.1.1.2.2.2.2.2.2.2.2.2.2.2.2.2.1=d.2.1.2.2.2.2.2.2.2.2.2.2.2.2.2.1:=he;rw[av];exact⟨⟨by show 0<=d.1.2.2.2.2+1;omega,by show d.1.2.2.2.2+1<=d.1.2.2.2.1;omega,i2,i3,by show((a.1.1.2.2.2.2.2.2.2.2.2.2.2.2.2.2.2.2:Nat):Int)+3*(d.1.2.2.2.1-(d.1.2.2.2.2+1))<=J;omega,i5,i6,i7,ik.1,ik.2.1,ik.2.2.1,ik.2.2.2.1,ik.2.2.2.2.1,ik.2.2.2.2.2.1,ik.2.2.2.2.2.2.1,ik.2.2.2.2.2.2.2.1,he.2.1.trans ik.2.2.2.2.2.2.2.2.1,he.2.2.trans ik.2.2.2.2.2.2.2.2.2.1,ik.2.2.2.2.2.2.2.2.2.2⟩,by show ws (d.1.2.2.2.1-(d.1.2.2.2.2+1))<_;omega⟩) (λd hd=>by omega)
theorem a1v (d:bI.B)(a:d.1.2.2.2.2=0)(b:d.1.2.2.2.1=((d.1.2.2.1:Nat):Int))(c:d.1.2.2.1<=64)(k:bk d.1.1 6=true)(j:d.2.1.2.2.2.2.2.2.2.2.2.2.2.2.2.2.2.2<=80000):Ok (gD d) (λx:gC=>x.2.1.2.2.2.2.2.2.2.2.2.2.2.2.2.2.2.2<=d.2.1.2.2.2.2.2.2.2.2.2.2.2.2.2.2.2.2+3*d.1.2.2.1/\x.1.2.1=d.1.2.1/\x.2.2.2.2.2.1=d.2.2.2.2.2.1/\x.2.2.2.2.2.2.1=d.2.2.2.2.2.2.1/\x.2.2.2.2.2.2.2.1=d.2.2.2.2.2.2.2.1/\x.2.2.2.2.2.2.2.2.1=d.2.2.2.2.2.2.2.2.1/\x.2.2.2.2.2.2.2.2.2.1=d.2.2.2.2.2.2.2.2.2.1/\x.2.2.2.2.2.2.2.2.2.2.1=d.2.2.2.2.2.2.2.2.2.2.1/\x.2.2.2.2.2.2.2.2.2.2.2.2.1=d.2.2.2.2.2.2.2.2.2.2.2.2.1/\x.2.2.2.2.2.2.2.2.2.2.2.2.2.2.2.2.2.2.2.2.2.2.2.1=d.2.2.2.2.2.2.2.2.2.2.2.2.2.2.2.2.2.2.2.2.2.2.2.1/\x.2.1.2.2.2.2.1=d.2.1.2.2.2.2.1/\x.2.1.2.2.2.2.2.2.2.2.2.2.2.2.2.1=d.2.1.2.2.2.2.2.2.2.2.2.2.2.2.2.1/\x.2.2.2.2.2.2.2.2.2.2.2.2.2.2.1=d.2.2.2.2.2.2.2.2.2.2.2.2.2.2.1):=
 Ok.mono (aVO (((d.2.1.2.2.2.2.2.2.2.2.2.2.2.2.2.2.2.2:Nat):Int)+3*d.1.2.2.2.1) d d ⟨by omega,by omega,b,by omega,by omega,by omega,k,rfl,rfl,rfl,rfl,rfl,rfl,rfl,rfl,rfl,rfl,rfl,rfl⟩) λx hx=>⟨by have h:=hx.1;omega,hx.2⟩
theorem aVP (w d:cz.B)(W5:w.c.2.1.b.1<=64)(W6:w.c.b.1.b.1<=64)(W7:w.c.b.2.1.b.1<=64)(W8:w.d.1.b.1<=64)(W9:w.d.2.1.b.1<=64)(W10:w.d.b.1.b.1<=64)(hd:0<=d.1/\d.1<=6/\((d.2.1.d.c.b.2.2:Nat):Int)+192*(6-d.1)<=1152/\BR w.d.c.b.1.1 w.c.2.1 d.c.2.1/\BR w.d.c.b.1.1 w.c.b.1 d.c.b.1/\BR w.d.c.b.1.1 w.c.b.2.1 d.c.b.2.1/\BR w.d.c.b.1.1 w.d.1 d.d.1/\BR w.d.c.b.1.1 w.d.2.1 d.d.2.1/\BR w.d.c.b.1.1 w.d.b.1 d.d.b.1/\d.d.c.1=w.d.c.1/\d.e.c.b.1=w.e.c.b.1/\d.2.1.c.1=w.2.1.c.1/\d.2.1.d.c.2.1=w.2.1.d.c.2.1/\d.d.c.b.1.1=w.d.c.b.1.1):Ok (iF d) (λx:j4=>x.2.1.d.c.b.2.2<=1152/\BR w.d.c.b.1.1 w.c.2.1 x.c.2.1/\BR w.d.c.b.1.1 w.c.b.1 x.c.b.1/\BR w.d.c.b.1.1 w.c.b.2.1 x.c.b.2.1/\BR w.d.c.b.1.1 w.d.1 x.d.1/\BR w.d.c.b.1.1 w.d.2.1 x.d.2.1/\BR w.d.c.b.1.1 w.d.b.1 x.d.b.1/\x.d.c.1=w.d.c.1/\x.e.c.b.1=w.e.c.b.1/\x.2.1.c.1=w.2.1.c.1/\x.2.1.d.c.2.1=w.2.1.d.c.2.1):=by
 revert d
 exact bP (λd:cz.B=>ws (6-d.1)) (λd hd=>by
  obtain⟨i0,i1,i2,s5,s6,s7,s8,s9,Z8,i12,i22,i4,it,i14⟩:=hd;have hw:wI (d.1+1)=d.1+1:=bo;unfold py;dsimp only;rw[aK];refine⟨λh=> ?_,λ_=>by rw[av];exact⟨by show d.2.1.d.c.b.2.2<=1152;omega,s5,s6,s7,s8,s9,Z8,i12,i22,i4,it⟩⟩;have h:=eK h;have r0:bk d.1 6=true:=by rw[cx];omega
  rw[r0];simp only[aN]
  repeat' (first
   |rw[aV]
   |(with_reducible refine ay (aKa _ ?_) λe _ he=> ?_)
   |(with_reducible refine ay (a1v _ ?_ ?_ ?_ ?_ ?_) λy _ hy=> ?_)
   |(rw[aK];refine⟨λc=> ?_,λc=> ?_⟩))
  all_goals first
   |(rw[av]
     obtain⟨p1,p2⟩:=he;have p2:=BR.mono (Int.le_of_eq i14) p2;obtain⟨y1,y2,hb5,hb6,hb7,hb8,hb9,a4P,h12,h23,h4,ht,hh⟩:=hy;have p1':e.1<=64:=by first|exact ch p1 (ch s5.len W5)|exact ch p1 (ch s6.len W6)|exact ch p1 (ch s7.len W7)|exact ch p1 (ch s8.len W8)|exact ch p1 (ch s9.len W9)|exact ch p1 (ch Z8.len W10)
     have y2:y.1.2.1=d.1:=y2;have y1:y.2.1.d.c.b.2.2<=d.2.1.d.c.b.2.2+3*e.1:=y1;have hw':wI (y.1.2.1+1)=d.1+1:=by rw[y2];exact hw
     exact⟨⟨by show 0<=wI (y.1.2.1+1);omega,by show wI (y.1.2.1+1)<=6;omega,by show((y.2.1.d.c.b.2.2:Nat):Int)+192*(6-wI (y.1.2.1+1))<=1152;omega,
    (by rw[show y.c.2.1=_ from hb5];first|exact s5|exact s5.trans p2),
    (by rw[show y.c.b.1=_ from hb6];first|exact s6|exact s6.trans p2),
    (by rw[show y.c.b.2.1=_ from hb7];first|exact s7|exact s7.trans p2),
    (by rw[show y.d.1=_ from hb8];first|exact s8|exact s8.trans p2),
    (by rw[show y.d.2.1=_ from hb9];first|exact s9|exact s9.trans p2),
    (by rw[show y.d.b.1=_ from a4P];first|exact Z8|exact Z8.trans p2),
    h12.trans i12,h23.trans i22,h4.trans i4,ht.trans it,(cO (λz=>z.1) hh).trans i14⟩,by show ws (6-wI (y.1.2.1+1))<_;omega⟩)
   |rfl
   |exact r0
   |(show d.2.1.d.c.b.2.2<=80000
     omega)
   |(obtain⟨p1,p2⟩:=he
     first|exact ch p1 (ch s5.len W5)|exact ch p1 (ch s6.len W6)|exact ch p1 (ch s7.len W7)|exact ch p1 (ch s8.len W8)|exact ch p1 (ch s9.len W9)|exact ch p1 (ch Z8.len W10))
   |exact ch s5.len (ch W5 (by decide))
   |exact ch s6.len (ch W6 (by decide))
   |exact ch s7.len (ch W7 (by decide))
   |exact ch s8.len (ch W8 (by decide))
   |exact ch s9.len (ch W9 (by decide))
   |exact ch Z8.len (ch W10 (by decide))) (λd hd=>by omega)
theorem aVQ (w:cy.B):∀(d:cy.B) (hd:0<=d.1/\d.1<=6/\d.2.1=w.2.1/\d.c.2.1=w.c.2.1/\d.c.b.1=w.c.b.1/\d.c.b.2.1=w.c.b.2.1/\d.d.1=w.d.1/\d.d.2.1=w.d.2.1/\d.d.b.1=w.d.b.1/\d.d.c.1=w.d.c.1/\d.e.c.b.2.1=w.e.c.b.2.1),Ok (gE d) (λx:mI=>x.2.1=w.2.1/\x.c.2.1=w.c.2.1/\x.c.b.1=w.c.b.1/\x.c.b.2.1=w.c.b.2.1/\x.d.1=w.d.1/\x.d.2.1=w.d.2.1/\x.d.b.1=w.d.b.1/\x.d.c.1=w.d.c.1/\x.e.c.b.2.1=w.e.c.b.2.1):=
 bP (λd:cy.B=>ws (6-d.1)) (λd hd=>by
  obtain⟨i0,i1,ik⟩:=hd;have hw:wI (d.1+1)=d.1+1:=bo;unfold tU;dsimp only;rw[aK];refine⟨λh=> ?_,λ_=>by rw[av];exact ik⟩;have h:=eK h;have r0:bk d.1 6=true:=by rw[cx];omega
  rw[r0,hw,bE];intro _ _;rw[aV]
  repeat' (first
   |(rw[aK];refine⟨λc=> ?_,λc=> ?_⟩))
  all_goals
   rw[av];exact⟨⟨by show 0<=d.1+1;omega,by show d.1+1<=6;omega,ik⟩,by show ws (6-(d.1+1))<_;omega⟩) (λd hd=>by omega)
theorem aUs (d:de.B)(h:d.d.b.2.1.2.2<=1999)(k:d.d.b.2.1.2.2<=d.e.c.2.1):Ok (fA d) (λx:iD=>match x with|.inl e=>e.c.2.1=d.c.1/\e.c.b.1=d.c.2.1/\e.c.b.2.1=d.c.b.1/\e.d.1=d.c.b.2.1/\e.d.2.1=d.d.1/\e.d.b.1=d.d.2.1/\e.d.c.1=d.d.b.2.1/\e.2.1.b.2.1=d.1.c.1/\e.2.1.d.b.2.1=d.1.d.c.2.1|.inr e=>e.c.2.1=d.c.1/\e.c.b.1=d.c.2.1/\e.c.b.2.1=d.c.b.1/\e.d.1=d.c.b.2.1/\e.d.2.1=d.d.1/\e.d.b.1=d.d.2.1/\e.d.c.1=d.d.b.2.1/\e.2.1.c.1=d.1.c.1/\e.2.1.d.c.1=d.1.d.c.2.1):=by
 unfold fA tV;try dsimp only
 show PQ _ _;rw[aK];refine⟨λ_=> ?_,λ_=>by rw[av];exact⟨rfl,rfl,rfl,rfl,rfl,rfl,rfl,rfl,rfl⟩⟩;rw[aN,aV];with_reducible refine ay (aQb _ ?_) λe _ he=> ?_
 .exact h
 have he:e.b.1=d.d.b.2.1.2.2:=he;have b1:(true&&ww (e.b.1*11+0) (d.d.b.2.1.2.2*11)&&true)=true:=by rw[he,kC,aN];rfl
 have b2:(true&&wd (0+(e.b.1*11+0)) (d.e.c.2.1*11+0))=true:=by rw[he,Ht,eV];omega
 try dsimp only
 rw[b1,b2,aV,aV,av];exact⟨rfl,rfl,rfl,rfl,rfl,rfl,rfl,rfl,rfl⟩
theorem aUt (d:dg.B)(j:d.1.2.2.2.2.2.2.2.2.2.2.2.2.2.2.2.2<=1800)(h:d.2.2.2.2.2.2.2.2.2.2.2.1.2.2<=1999)(k:d.2.2.2.2.2.2.2.2.2.2.2.1.2.2<=d.2.2.2.2.2.2.2.2.2.2.2.2.2.2.2.2.2.2.2.2.2.2.1):Ok (eD d) (λx:iG=>match x with|.inl e=>e.2.2.2.2.2.1=d.2.2.2.2.1/\e.2.2.2.2.2.2.1=d.2.2.2.2.2.1/\e.2.2.2.2.2.2.2.1=d.2.2.2.2.2.2.1/\e.2.2.2.2.2.2.2.2.1=d.2.2.2.2.2.2.2.1/\e.2.2.2.2.2.2.2.2.2.1=d.2.2.2.2.2.2.2.2.1/\e.2.2.2.2.2.2.2.2.2.2.1=d.2.2.2.2.2.2.2.2.2.1/\e.2.2.2.2.2.2.2.2.2.2.2.2.1=d.2.2.2.2.2.2.2.2.2.2.2.1/\e.2.1.2.2.2.1=d.1.2.2.2.2.1/\e.2.1.2.2.2.2.2.2.2.2.2.2.2.1=d.1.2.2.2.2.2.2.2.2.2.2.2.2.2.1|.inr e=>e.2.2.2.2.2.1=d.2.2.2.2.1/\e.2.2.2.2.2.2.1=d.2.2.2.2.2.1/\e.2.2.2.2.2.2.2.1=d.2.2.2.2.2.2.1/\e.2.2.2.2.2.2.2.2.1=d.2.2.2.2.2.2.2.1/\e.2.2.2.2.2.2.2.2.2.1=d.2.2.2.2.2.2.2.2.1/\e.2.2.2.2.2.2.2.2.2.2.1=d.2.2.2.2.2.2.2.2.2.1/\e.2.2.2.2.2.2.2.2.2.2.2.2.1=d.2.2.2.2.2.2.2.2.2.2.2.1/\e.2.1.2.2.2.2.1=d.1.2.2.2.2.1/\e.2.1.2.2.2.2.2.2.2.2.2.2.2.2.1=d.1.2.2.2.2.2.2.2.2.2.2.2.2.2.1):=by
 unfold eD pz;try dsimp only
 show PQ _ _;simp only[aN];have b3:wd ((1+d.1.2.2.2.2.2.2.2.2.2.2.2.2.2.2.2.2)*80) 140737488355328=true:=by rw[eV];omega
 rw[bE];intro _ _;rw[aK];refine⟨λ_=> ?_,λ_=> ?_⟩
 .rw[aV,aV];with_reducible refine ay (aVI _ ?_ ?_) λe _ he=> ?_
  .show d.1.2.2.2.2.2.2.2.2.2.2.2.2.2.2.2.2<=1999;omega
  .exact h
  have he:e.2.1=d.2.2.2.2.2.2.2.2.2.2.2.1.2.2:=he;have b1:(true&&ww (e.2.1*11+0) (d.2.2.2.2.2.2.2.2.2.2.2.1.2.2*11)&&true)=true:=by rw[he,kC,aN];rfl
  have b2:(true&&wd (0+(e.2.1*11+0)) (d.2.2.2.2.2.2.2.2.2.2.2.2.2.2.2.2.2.2.2.2.2.2.1*11+0))=true:=by rw[he,Ht,eV];omega
  rw[b1,b2,b3,aV,aV,aV,aV];with_reducible refine ay (bq.Ok (Q:=λ_=>True) (aIE _ _ _ _ _ _ _ _ _ _ _ _ _ ?_) λ_ _=>trivial) λe3 _ _=> ?_
  .omega
  simp only[aV];with_reducible refine ay (aUs _ ?_ ?_) λy _ hy=> ?_
  .exact h
  .exact k
  rw[qW];refine⟨λa ha=> ?_,λa ha=> ?_⟩
  .rw[av];rw[ha] at hy;exact hy
  .rw[av];rw[ha] at hy;exact hy
 .simp only[aV];with_reducible refine ay (aUs _ ?_ ?_) λy _ hy=> ?_
  .exact h
  .exact k
  rw[qW];refine⟨λa ha=> ?_,λa ha=> ?_⟩
  .rw[av];rw[ha] at hy;exact hy
  .rw[av];rw[ha] at hy;exact hy
theorem aMR (d:dh.B)(j:d.1.2.2.2.2.2.2.2.2.2.2.2.2.2.2.2.2=0)(l4:d.2.2.2.2.1.2.2.1<=64)(l5:d.2.2.2.2.2.1.2.2.1<=64)(l6:d.2.2.2.2.2.2.1.2.2.1<=64)(l7:d.2.2.2.2.2.2.2.1.2.2.1<=64)(l8:d.2.2.2.2.2.2.2.2.1.2.2.1<=64)(l9:d.2.2.2.2.2.2.2.2.2.1.2.2.1<=64)(h:d.2.2.2.2.2.2.2.2.2.2.2.1.2.2<=1999)(k:d.2.2.2.2.2.2.2.2.2.2.2.1.2.2<=d.2.2.2.2.2.2.2.2.2.2.2.2.2.2.2.2.2.2.2.2.2.1):Ok (eE d) (λx:iH=>match x with|.inl e=>BR d.2.2.2.2.2.2.2.2.2.2.2.2.2.1.1 d.2.2.2.2.1 e.2.2.2.2.2.1/\BR d.2.2.2.2.2.2.2.2.2.2.2.2.2.1.1 d.2.2.2.2.2.1 e.2.2.2.2.2.2.1/\BR d.2.2.2.2.2.2.2.2.2.2.2.2.2.1.1 d.2.2.2.2.2.2.1 e.2.2.2.2.2.2.2.1/\BR d.2.2.2.2.2.2.2.2.2.2.2.2.2.1.1 d.2.2.2.2.2.2.2.1 e.2.2.2.2.2.2.2.2.1/\BR d.2.2.2.2.2.2.2.2.2.2.2.2.2.1.1 d.2.2.2.2.2.2.2.2.1 e.2.2.2.2.2.2.2.2.2.1/\BR d.2.2.2.2.2.2.2.2.2.2.2.2.2.1.1 d.2.2.2.2.2.2.2.2.2.1 e.2.2.2.2.2.2.2.2.2.2.1/\e.2.2.2.2.2.2.2.2.2.2.2.2.1=d.2.2.2.2.2.2.2.2.2.2.2.1/\e.2.1.2.2.2.1=d.1.2.2.2.2.1/\e.2.1.2.2.2.2.2.2.2.2.2.2.2.1=d.1.2.2.2.2.2.2.2.2.2.2.2.2.2.1|.inr e=>BR d.2.2.2.2.2.2.2.2.2.2.2.2.2.1.1 d.2.2.2.2.1 e.2.2.2.2.2.1/\BR d.2.2.2.2.2.2.2.2.2.2.2.2.2.1.1 d.2.2.2.2.2.1 e.2.2.2.2.2.2.1/\BR d.2.2.2.2.2.2.2.2.2.2.2.2.2.1.1 d.2.2.2.2.2.2.1 e.2.2.2.2.2.2.2.1/\BR d.2.2.2.2.2.2.2.2.2.2.2.2.2.1.1 d.2.2.2.2.2.2.2.1 e.2.2.2.2.2.2.2.2.1/\BR d.2.2.2.2.2.2.2.2.2.2.2.2.2.1.1 d.2.2.2.2.2.2.2.2.1 e.2.2.2.2.2.2.2.2.2.1/\BR d.2.2.2.2.2.2.2.2.2.2.2.2.2.1.1 d.2.2.2.2.2.2.2.2.2.1 e.2.2.2.2.2.2.2.2.2.2.1/\e.2.2.2.2.2.2.2.2.2.2.2.2.1=d.2.2.2.2.2.2.2.2.2.2.2.1/\e.2.1.2.2.2.2.1=d.1.2.2.2.2.1/\e.2.1.2.2.2.2.2.2.2.2.2.2.2.2.1=d.1.2.2.2.2.2.2.2.2.2.2.2.2.2.1):=by
 unfold eE pA;try dsimp only
 show PQ _ _;simp only[aN];simp only[aV];refine ay (aVP _ _ l4 l5 l6 l7 l8 l9 ⟨eZ 0,(show(0:Int)<=6 by decide),(by show((d.1.2.2.2.2.2.2.2.2.2.2.2.2.2.2.2.2:Nat):Int)+192*(6-0)<=1152;omega),BR.refl _ _,BR.refl _ _,BR.refl _ _,BR.refl _ _,BR.refl _ _,BR.refl _ _,rfl,rfl,rfl,rfl,rfl⟩) λa _ ha=> ?_;obtain⟨u1,u5,u6,u7,u8,u9,u10,u12,u22,u4,ut⟩:=ha;simp only[aV];refine ay (aVQ _ _ ⟨eZ 0,(show(0:Int)<=6 by decide),rfl,rfl,rfl,rfl,rfl,rfl,rfl,rfl,rfl⟩) λb _ hb=> ?_;obtain⟨g1,g5,g6,g7,g8,g9,g10,g12,g23⟩:=hb;rw[aK];refine⟨λ_=> ?_,λ_=> ?_⟩
 .simp only[aV];with_reducible refine ay (aUt _ ?_ ?_ ?_) λy _ hy=> ?_
  .show b.2.1.2.2.2.2.2.2.2.2.2.2.2.2.2.2.2.2<=1800;rw[g1];exact ch u1 (by decide)
  .show b.2.2.2.2.2.2.2.2.2.2.2.2.1.2.2<=1999;rw[g12];show a.2.2.2.2.2.2.2.2.2.2.2.2.1.2.2<=1999;rw[u12];exact h
  .show b.2.2.2.2.2.2.2.2.2.2.2.2.1.2.2<=b.2.2.2.2.2.2.2.2.2.2.2.2.2.2.2.2.2.2.2.2.2.2.2.1;rw[g12,g23];show a.2.2.2.2.2.2.2.2.2.2.2.2.1.2.2<=a.2.2.2.2.2.2.2.2.2.2.2.2.2.2.2.2.2.2.2.2.2.2.1;rw[u12,u22];exact k
  rw[qW];refine⟨λa1 ha=> ?_,λa1 ha=> ?_⟩
  .rw[av];rw[ha] at hy;obtain⟨q5,q6,q7,q8,q9,q10,UQ,q4,qt⟩:=hy;exact⟨(by rw[q5];show BR _ _ b.2.2.2.2.2.1;rw[g5];exact u5),(by rw[q6];show BR _ _ b.2.2.2.2.2.2.1;rw[g6];exact u6),(by rw[q7];show BR _ _ b.2.2.2.2.2.2.2.1;rw[g7];exact u7),(by rw[q8];show BR _ _ b.2.2.2.2.2.2.2.2.1;rw[g8];exact u8),(by rw[q9];show BR _ _ b.2.2.2.2.2.2.2.2.2.1;rw[g9];exact u9),(by rw[q10];show BR _ _ b.2.2.2.2.2.2.2.2.2.2.1;rw[g10];exact u10),UQ.trans (g12.trans u12),q4.trans ((cO (λz=>z.2.2.2.2.1) g1).trans u4),qt.trans ((cO (λz=>z.2.2.2.2.2.2.2.2.2.2.2.2.2.1) g1).trans ut)⟩
  .rw[av];rw[ha] at hy;obtain⟨q5,q6,q7,q8,q9,q10,UQ,q4,qt⟩:=hy;exact⟨(by rw[q5];show BR _ _ b.2.2.2.2.2.1;rw[g5];exact u5),(by rw[q6];show BR _ _ b.2.2.2.2.2.2.1;rw[g6];exact u6),(by rw[q7];show BR _ _ b.2.2.2.2.2.2.2.1;rw[g7];exact u7),(by rw[q8];show BR _ _ b.2.2.2.2.2.2.2.2.1;rw[g8];exact u8),(by rw[q9];show BR _ _ b.2.2.2.2.2.2.2.2.2.1;rw[g9];exact u9),(by rw[q10];show BR _ _ b.2.2.2.2.2.2.2.2.2.2.1;rw[g10];exact u10),UQ.trans (g12.trans u12),q4.trans ((cO (λz=>z.2.2.2.2.1) g1).trans u4),qt.trans ((cO (λz=>z.2.2.2.2.2.2.2.2.2.2.2.2.2.1) g1).trans ut)⟩
 .simp only[aV];with_reducible refine ay (aUt _ ?_ ?_ ?_) λy _ hy=> ?_
  .show b.2.1.2.2.2.2.2.2.2.2.2.2.2.2.2.2.2.2<=1800;rw[g1];exact ch u1 (by decide)
  .show b.2.2.2.2.2.2.2.2.2.2.2.2.1.2.2<=1999;rw[g12];show a.2.2.2.2.2.2.2.2.2.2.2.2.1.2.2<=1999;rw[u12];exact h
  .show b.2.2.2.2.2.2.2.2.2.2.2.2.1.2.2<=b.2.2.2.2.2.2.2.2.2.2.2.2.2.2.2.2.2.2.2.2.2.2.2.1;rw[g12,g23];show a.2.2.2.2.2.2.2.2.2.2.2.2.1.2.2<=a.2.2.2.2.2.2.2.2.2.2.2.2.2.2.2.2.2.2.2.2.2.2.1;rw[u12,u22];exact k
  rw[qW];refine⟨λa1 ha=> ?_,λa1 ha=> ?_⟩
  .rw[av];rw[ha] at hy;obtain⟨q5,q6,q7,q8,q9,q10,UQ,q4,qt⟩:=hy;exact⟨(by rw[q5];show BR _ _ b.2.2.2.2.2.1;rw[g5];exact u5),(by rw[q6];show BR _ _ b.2.2.2.2.2.2.1;rw[g6];exact u6),(by rw[q7];show BR _ _ b.2.2.2.2.2.2.2.1;rw[g7];exact u7),(by rw[q8];show BR _ _ b.2.2.2.2.2.2.2.2.1;rw[g8];exact u8),(by rw[q9];show BR _ _ b.2.2.2.2.2.2.2.2.2.1;rw[g9];exact u9),(by rw[q10];show BR _ _ b.2.2.2.2.2.2.2.2.2.2.1;rw[g10];exact u10),UQ.trans (g12.trans u12),q4.trans ((cO (λz=>z.2.2.2.2.1) g1).trans u4),qt.trans ((cO (λz=>z.2.2.2.2.2.2.2.2.2.2.2.2.2.1) g1).trans ut)⟩
  .rw[av];rw[ha] at hy;obtain⟨q5,q6,q7,q8,q9,q10,UQ,q4,qt⟩:=hy;exact⟨(by rw[q5];show BR _ _ b.2.2.2.2.2.1;rw[g5];exact u5),(by rw[q6];show BR _ _ b.2.2.2.2.2.2.1;rw[g6];exact u6),(by rw[q7];show BR _ _ b.2.2.2.2.2.2.2.1;rw[g7];exact u7),(by rw[q8];show BR _ _ b.2.2.2.2.2.2.2.2.1;rw[g8];exact u8),(by rw[q9];show BR _ _ b.2.2.2.2.2.2.2.2.2.1;rw[g9];exact u9),(by rw[q10];show BR _ _ b.2.2.2.2.2.2.2.2.2.2.1;rw[g10];exact u10),UQ.trans (g12.trans u12),q4.trans ((cO (λz=>z.2.2.2.2.1) g1).trans u4),qt.trans ((cO (λz=>z.2.2.2.2.2.2.2.2.2.2.2.2.2.1) g1).trans ut)⟩
theorem aZX (N:Nat)(h1:1<=N)(hN:N<=1999)(x:fV.B)(hs:x.2.2.2.2.2.2.2.2.2.2.2.2.1.1<=(N:Int))(hl:x.2.2.2.2.2.2.2.2.2.2.2.2.1.2.2<=N)(hq:x.2.1.2.2.2.2.1<=1999)(l5:x.2.2.2.2.2.1.2.2.1<=64)(l6:x.2.2.2.2.2.2.1.2.2.1<=64)(l7:x.2.2.2.2.2.2.2.1.2.2.1<=64)(l8:x.2.2.2.2.2.2.2.2.1.2.2.1<=64)(l9:x.2.2.2.2.2.2.2.2.2.1.2.2.1<=64)(l10:x.2.2.2.2.2.2.2.2.2.2.1.2.2.1<=64):Ok (eW x) (λr:oS=>BR x.1.1 x.2.2.2.2.2.1 r.1.2.1/\BR x.1.1 x.2.2.2.2.2.2.1 r.1.2.2.1/\BR x.1.1 x.2.2.2.2.2.2.2.1 r.1.2.2.2.1/\BR x.1.1 x.2.2.2.2.2.2.2.2.1 r.1.2.2.2.2.1/\BR x.1.1 x.2.2.2.2.2.2.2.2.2.1 r.1.2.2.2.2.2.1/\BR x.1.1 x.2.2.2.2.2.2.2.2.2.2.1 r.1.2.2.2.2.2.2.1/\r.1.2.2.2.2.2.2.2.2.1=x.2.2.2.2.2.2.2.2.2.2.2.2.1.1/\r.1.2.2.2.2.2.2.2.2.2.2<=N/\r.1.1.2.2.2.2.1=x.2.1.2.2.2.2.1/\r.1.1.2.2.2.2.2.2.2.2.2.2.2.2.2.1=x.1.1):=by
 unfold eW sd;try dsimp only
 show PQ _ _;simp only[aN];rw[aK];refine⟨λ_=> ?_,λ_=> ?_⟩
 .simp only[aV];with_reducible refine ay (aVM N h1 hN _ ?_ ?_) λe _ he=> ?_
  .exact hs
  .exact hq
  rw[ux];refine⟨λb hb=> ?_,λb hb=> ?_⟩
  .rw[hb] at he;obtain⟨e1,e2,e4,et⟩:=he;have e1:b.2=x.2.2.2.2.2.2.2.2.2.2.2.2.1:=e1;simp only[aV];with_reducible refine ay (aMR _ ?_ ?_ ?_ ?_ ?_ ?_ ?_ ?_ ?_) λy _ hy=> ?_
   .exact e2
   .exact l5
   .exact l6
   .exact l7
   .exact l8
   .exact l9
   .exact l10
   .show b.2.2.2<=1999;rw[e1];omega
   .show b.2.2.2<=x.2.2.2.2.2.2.2.2.2.2.2.2.1.2.2;rw[e1];exact eT _
   rw[qW];refine⟨λa ha=> ?_,λa ha=> ?_⟩
   .rw[ha] at hy;obtain⟨s5,s6,s7,s8,s9,Z8,UQ,q4,qt⟩:=hy;rw[av];exact⟨s5,s6,s7,s8,s9,Z8,(by show a.2.2.2.2.2.2.2.2.2.2.2.2.1.1=x.2.2.2.2.2.2.2.2.2.2.2.2.1.1;rw[UQ];show b.2.1=_;rw[e1]),(by show a.2.2.2.2.2.2.2.2.2.2.2.2.1.2.2<=N;rw[UQ];show b.2.2.2<=N;rw[e1];exact hl),q4.trans e4,qt.trans et⟩
   .rw[ha] at hy;obtain⟨s5,s6,s7,s8,s9,Z8,UQ,q4,qt⟩:=hy;rw[av];exact⟨s5,s6,s7,s8,s9,Z8,(by show a.2.2.2.2.2.2.2.2.2.2.2.2.1.1=x.2.2.2.2.2.2.2.2.2.2.2.2.1.1;rw[UQ];show b.2.1=_;rw[e1]),(by show a.2.2.2.2.2.2.2.2.2.2.2.2.1.2.2<=N;rw[UQ];show b.2.2.2<=N;rw[e1];exact hl),q4.trans e4,qt.trans et⟩
  .rw[hb] at he;obtain⟨e1,e2,e3,e4,e5,et⟩:=he;have e2:b.1.2.1=x.2.2.2.2.2.2.2.2.2.2.2.2.1.1:=e2;simp only[aV];with_reducible refine ay (aMR _ ?_ ?_ ?_ ?_ ?_ ?_ ?_ ?_ ?_) λy _ hy=> ?_
   .exact e4
   .exact l5
   .exact l6
   .exact l7
   .exact l8
   .exact l9
   .exact l10
   .show b.1.2.2.2<=1999;omega
   .exact e3
   rw[qW];refine⟨λa ha=> ?_,λa ha=> ?_⟩
   .rw[ha] at hy;obtain⟨s5,s6,s7,s8,s9,Z8,UQ,q4,qt⟩:=hy;rw[av];exact⟨s5,s6,s7,s8,s9,Z8,(by show a.2.2.2.2.2.2.2.2.2.2.2.2.1.1=x.2.2.2.2.2.2.2.2.2.2.2.2.1.1;rw[UQ];exact e2),(by show a.2.2.2.2.2.2.2.2.2.2.2.2.1.2.2<=N;rw[UQ];exact e1),q4.trans e5,qt.trans et⟩
   .rw[ha] at hy;obtain⟨s5,s6,s7,s8,s9,Z8,UQ,q4,qt⟩:=hy;rw[av];exact⟨s5,s6,s7,s8,s9,Z8,(by show a.2.2.2.2.2.2.2.2.2.2.2.2.1.1=x.2.2.2.2.2.2.2.2.2.2.2.2.1.1;rw[UQ];exact e2),(by show a.2.2.2.2.2.2.2.2.2.2.2.2.1.2.2<=N;rw[UQ];exact e1),q4.trans e5,qt.trans et⟩
 .rw[bE];intro _ _;rw[bE];intro _ _;simp only[aV];with_reducible refine ay (aMR _ ?_ ?_ ?_ ?_ ?_ ?_ ?_ ?_ ?_) λy _ hy=> ?_
  .rfl
  .exact l5
  .exact l6
  .exact l7
  .exact l8
  .exact l9
  .exact l10
  .show x.2.2.2.2.2.2.2.2.2.2.2.2.1.2.2<=1999;omega
  .exact eT _
  rw[qW];refine⟨λa ha=> ?_,λa ha=> ?_⟩
  .rw[ha] at hy;obtain⟨s5,s6,s7,s8,s9,Z8,UQ,q4,qt⟩:=hy;rw[av];exact⟨s5,s6,s7,s8,s9,Z8,(by show a.2.2.2.2.2.2.2.2.2.2.2.2.1.1=x.2.2.2.2.2.2.2.2.2.2.2.2.1.1;rw[UQ];done),(by show a.2.2.2.2.2.2.2.2.2.2.2.2.1.2.2<=N;rw[UQ];exact hl),q4.trans rfl,qt.trans rfl⟩
  .rw[ha] at hy;obtain⟨s5,s6,s7,s8,s9,Z8,UQ,q4,qt⟩:=hy;rw[av];exact⟨s5,s6,s7,s8,s9,Z8,(by show a.2.2.2.2.2.2.2.2.2.2.2.2.1.1=x.2.2.2.2.2.2.2.2.2.2.2.2.1.1;rw[UQ];done),(by show a.2.2.2.2.2.2.2.2.2.2.2.2.1.2.2<=N;rw[UQ];exact hl),q4.trans rfl,qt.trans rfl⟩
theorem aQe (w:Int×Int×(Int×Int×Int)×Int×Int×Int):∀(d:ib.B) (hd:0<=d.1/\d.1<=3/\d.2.1=w.1),Ok (DH d) (λx:qO=>match x with|.inl _=>True|.inr e=>e.2.1=w.1):=
 bP (λd:ib.B=>ws (3-d.1)) (λd hd=>by
  have hw:wI (d.1+1)=d.1+1:=bo;unfold yK;simp only[bN];simp only[nf,oL,uO,hw];repeat' (first|exact True.intro|exact hd.2.2|omega|(intro _)|(apply And.intro))) (λd hd=>by omega)
theorem aVR (x0:Int)(x1:Int)(x2:Int)(x3:Int)(x4:Int)(x5:Int)(x6:Int)(x7:Int):Ok (jQ x0 x1 x2 x3 x4 x5 x6 x7) (λr=>r=true->0<=x0):=by
 unfold jQ Au;show PQ _ _;refine ay (aQe (x0,x1,(x2,x3,x4),x5,x6,x7) _ ⟨eZ 0,(show(0:Int)<=3 by decide),rfl⟩) λd _ hd=> ?_;rw[qW];refine⟨λa _=>by rw[av];intro h;exact absurd h (by decide),λa ha=> ?_⟩;rw[ha] at hd;have hd:a.2.1=x0:=hd;rw[aK];refine⟨λ_=> ?_,λ_=>by rw[av];intro h;exact absurd h (by decide)⟩;rw[aK];refine⟨λ_=> ?_,λ_=>by rw[av];intro h;exact absurd h (by decide)⟩;rw[aK];refine⟨λc=> ?_,λ_=>by rw[av];intro h;exact absurd h (by decide)⟩;rw[av];have c:=eK c;intro _;omega
theorem aKc (x:vY.B):Ok (sQ x) (λr=>r.1.1=x.1.2.1):=by
 unfold sQ D9;try dsimp only
 show PQ _ _;rw[bE];intro _ _;rw[bE];intro _ _;rw[av]
theorem aZY (x:fw.B)(h:x.2.1.2.2=false->x.2.1.2.1.1<=0):Ok (dD x) (λr=>(r.2.1.2.2=false->r.2.1.2.1.1<=0)/\x.2.1.2.1.1<=r.2.1.2.1.1/\(r.1.2.1=true->r.1.1.1=r.2.1.2.1.1)):=by
 unfold dD jX;try dsimp only
 show PQ _ _;refine ay (aVR _ _ _ _ _ _ _ _) λd _ hd=> ?_;rw[aK];refine⟨λ_=>by rw[av];exact⟨h,eZ _,(λh=>nomatch h)⟩,λc=> ?_⟩;have c:d=true:=by cases d<;>first|rfl|cases c
 have hx:0<=x.1.1:=hd c;rw[aK];refine⟨λ_=> ?_,λca=> ?_⟩
 .rw[aK];refine⟨λ_=>by rw[av];exact⟨h,eZ _,(λh=>nomatch h)⟩,λcb=> ?_⟩;have cb:=pP cb;refine ay (aKc _) λe _ he=> ?_;have he:e.1.1=x.1.1:=he;rw[aK];refine⟨λ_=> ?_,λ_=> ?_⟩
  .rw[av];exact⟨(λh=>nomatch h),by show x.2.1.2.1.1<=e.1.1;omega,(λh=>nomatch h)⟩
  .rw[av];exact⟨(λh=>nomatch h),by show x.2.1.2.1.1<=x.1.1;omega,λ_=>he⟩
 .have h:=h ca;refine ay (aKc _) λe _ he=> ?_;have he:e.1.1=x.1.1:=he;rw[aK];refine⟨λ_=> ?_,λ_=> ?_⟩
  .rw[av];exact⟨(λh=>nomatch h),by show x.2.1.2.1.1<=e.1.1;omega,(λh=>nomatch h)⟩
  .rw[av];exact⟨(λh=>nomatch h),by show x.2.1.2.1.1<=x.1.1;omega,λ_=>he⟩
def Qd (T S:Int)(n:Nat)(r:Nat->Int):Prop:=T<=S/\∀i k,i<=k->k<n->T<=r i/\r i<=r k/\r k<=S
theorem Qd.pop {T S:Int}{n:Nat}{r q:Nat->Int}(h:Qd T S n r)(hn:1<=n)(e:∀i,q i=r (i+1)):T<=r 0/\Qd (r 0) S (n-1) q:=by
 have a:=h.2 0 0 (eT _) (by omega);refine⟨a.1,AZ a.2.1 a.2.2,λi k p l=> ?_⟩;have b:=h.2 (i+1) (k+1) (by omega) (by omega);have c:=h.2 0 (i+1) (by omega) (by omega);rw[e,e];exact⟨c.2.1,b.2⟩
theorem Qd.push {T S j:Int}{n:Nat}{r q:Nat->Int}(h:Qd T S n r)(l:S<=j)(e:∀i,i<n->q i=r i)(en:q n=j):Qd T j (n+1) q:=by
 refine⟨AZ h.1 l,λi k p l2=> ?_⟩;have hT:=h.1;by_cases hk:k<n
 .rw[e i (by omega),e k hk];have a:=h.2 i k p hk;exact⟨a.1,a.2.1,AZ a.2.2 l⟩
 .have hk:k=n:=by omega
  subst hk;rw[en];by_cases hi:i<k
  .rw[e i hi];have a:=h.2 i i (eT _) hi;exact⟨a.1,AZ a.2.2 l,eZ _⟩
  .have hi:i=k:=by omega
   subst hi;rw[en];exact⟨AZ hT l,eZ _,eZ _⟩
theorem Qd.up {T S j:Int}{n:Nat}{r q:Nat->Int}(h:Qd T S n r)(l:S<=j)(e:∀i,q i=r i):Qd T j n q:=
 ⟨AZ h.1 l,λi k p l2=>by rw[e,e];have a:=h.2 i k p l2;exact⟨a.1,a.2.1,AZ a.2.2 l⟩⟩
theorem aVS (N l:Nat)(S:Int)(h1:1<=N)(hN:N<=1999)(hl:l<=1999)(w d:cI.B)(W4:w.2.2.2.2.1.2.2.1<=64)(W5:w.2.2.2.2.2.1.2.2.1<=64)(W6:w.2.2.2.2.2.2.1.2.2.1<=64)(W7:w.2.2.2.2.2.2.2.1.2.2.1<=64)(W8:w.2.2.2.2.2.2.2.2.1.2.2.1<=64)(W9:w.2.2.2.2.2.2.2.2.2.1.2.2.1<=64)(WS:w.2.2.2.2.2.2.2.2.2.2.2.1.1<=(N:Int))(hd:d.2.1.2.2.2.2.1.2<=l/\d.2.2.2.1=w.2.2.2.1/\d.2.2.2.2.2.2.2.2.2.2.2.2.2.1=w.2.2.2.2.2.2.2.2.2.2.2.2.2.1/\w.2.1.2.2.2.2.2.2.2.2.2.2.2.2.2.1<=d.2.1.2.2.2.2.2.2.2.2.2.2.2.2.2.1/\Qd d.2.1.2.2.2.2.2.2.2.2.2.2.2.2.2.1 S d.2.1.2.2.2.2.1.2 (λi=>w.2.2.2.2.2.2.2.2.2.2.2.2.2.1.2.1 (d.2.1.2.2.2.2.1.1+i))/\BR d.2.1.2.2.2.2.2.2.2.2.2.2.2.2.2.1 w.2.2.2.2.1 d.2.2.2.2.1/\BR d.2.1.2.2.2.2.2.2.2.2.2.2.2.2.2.1 w.2.2.2.2.2.1 d.2.2.2.2.2.1/\BR d.2.1.2.2.2.2.2.2.2.2.2.2.2.2.2.1 w.2.2.2.2.2.2.1 d.2.2.2.2.2.2.1/\BR d.2.1.2.2.2.2.2.2.2.2.2.2.2.2.2.1 w.2.2.2.2.2.2.2.1 d.2.2.2.2.2.2.2.1/\BR d.2.1.2.2.2.2.2.2.2.2.2.2.2.2.2.1 w.2.2.2.2.2.2.2.2.1 d.2.2.2.2.2.2.2.2.1/\BR d.2.1.2.2.2.2.2.2.2.2.2.2.2.2.2.1 w.2.2.2.2.2.2.2.2.2.1 d.2.2.2.2.2.2.2.2.2.1/\d.2.2.2.2.2.2.2.2.2.2.2.1.1=w.2.2.2.2.2.2.2.2.2.2.2.1.1/\d.2.2.2.2.2.2.2.2.2.2.2.1.2.2<=N):Ok (gY d) (λx:gX=>match x with|.inl x=>x.1.2.1.2<=l/\x.2.2.2.1=w.2.2.2.1/\x.2.2.2.2.2.2.2.2.2.2.2.2.2.1=w.2.2.2.2.2.2.2.2.2.2.2.2.2.1/\w.2.1.2.2.2.2.2.2.2.2.2.2.2.2.2.1<=x.2.1.2.2.2.2.2.2.2.2.2.2.2.2.1/\Qd x.2.1.2.2.2.2.2.2.2.2.2.2.2.2.1 S x.1.2.1.2 (λi=>w.2.2.2.2.2.2.2.2.2.2.2.2.2.1.2.1 (x.1.2.1.1+i))/\BR x.2.1.2.2.2.2.2.2.2.2.2.2.2.2.1 w.2.2.2.2.1 x.2.2.2.2.1/\BR x.2.1.2.2.2.2.2.2.2.2.2.2.2.2.1 w.2.2.2.2.2.1 x.2.2.2.2.2.1/\BR x.2.1.2.2.2.2.2.2.2.2.2.2.2.2.1 w.2.2.2.2.2.2.1 x.2.2.2.2.2.2.1/\BR x.2.1.2.2.2.2.2.2.2.2.2.2.2.2.1 w.2.2.2.2.2.2.2.1 x.2.2.2.2.2.2.2.1/\BR x.2.1.2.2.2.2.2.2.2.2.2.2.2.2.1 w.2.2.2.2.2.2.2.2.1 x.2.2.2.2.2.2.2.2.1/\BR x.2.1.2.2.2.2.2.2.2.2.2.2.2.2.1 w.2.2.2.2.2.2.2.2.2.1 x.2.2.2.2.2.2.2.2.2.1/\x.2.2.2.2.2.2.2.2.2.2.2.1.1=w.2.2.2.2.2.2.2.2.2.2.2.1.1/\x.2.2.2.2.2.2.2.2.2.2.2.1.2.2<=N|.inr x=>x.1.2.1.2<=l/\x.2.2.2.1=w.2.2.2.1/\x.2.2.2.2.2.2.2.2.2.2.2.2.2.1=w.2.2.2.2.2.2.2.2.2.2.2.2.2.1/\w.2.1.2.2.2.2.2.2.2.2.2.2.2.2.2.1<=x.2.1.2.2.2.2.2.2.2.2.2.2.2.2.1/\Qd x.2.1.2.2.2.2.2.2.2.2.2.2.2.2.1 S x.1.2.1.2 (λi=>w.2.2.2.2.2.2.2.2.2.2.2.2.2.1.2.1 (x.1.2.1.1+i))/\BR x.2.1.2.2.2.2.2.2.2.2.2.2.2.2.1 w.2.2.2.2.1 x.2.2.2.2.1/\BR x.2.1.2.2.2.2.2.2.2.2.2.2.2.2.1 w.2.2.2.2.2.1 x.2.2.2.2.2.1/\BR x.2.1.2.2.2.2.2.2.2.2.2.2.2.2.1 w.2.2.2.2.2.2.1 x.2.2.2.2.2.2.1/\BR x.2.1.2.2.2.2.2.2.2.2.2.2.2.2.1 w.2.2.2.2.2.2.2.1 x.2.2.2.2.2.2.2.1/\BR x.2.1.2.2.2.2.2.2.2.2.2.2.2.2.1 w.2.2.2.2.2.2.2.2.1 x.2.2.2.2.2.2.2.2.1/\BR x.2.1.2.2.2.2.2.2.2.2.2.2.2.2.1 w.2.2.2.2.2.2.2.2.2.1 x.2.2.2.2.2.2.2.2.2.1/\x.2.2.2.2.2.2.2.2.2.2.2.1.1=w.2.2.2.2.2.2.2.2.2.2.2.1.1/\x.2.2.2.2.2.2.2.2.2.2.2.1.2.2<=N):=by
 revert d
 exact bP (λd:cI.B=>d.2.1.2.2.2.2.1.2) (λd hd=>by
  obtain⟨i0,ic,ir,it,iq,s4,s5,s6,s7,s8,s9,i11,bh⟩:=hd;unfold ly;dsimp only;rw[aK];refine⟨λh=> ?_,λ_=>by rw[av];exact⟨i0,ic,ir,it,iq,s4,s5,s6,s7,s8,s9,i11,bh⟩⟩;have h:=eK h;rw[dQ] at h;have h:1<=d.2.1.2.2.2.2.1.2:=by omega
  have r0:bk 0 d.2.1.2.2.2.2.1.2=true:=by rw[cx];omega
  have r1:K0 1 d.2.1.2.2.2.2.1.2=true:=by rw[aey];omega
  rw[r0,r1,aV,aK];simp only[aN];refine⟨λ_=> ?_,λ_=>by rw[av];exact⟨i0,ic,ir,it,iq,s4,s5,s6,s7,s8,s9,i11,bh⟩⟩;simp only[aV];with_reducible refine ay (aZX N h1 hN _ ?_ ?_ ?_ ?_ ?_ ?_ ?_ ?_ ?_) λe _ he=> ?_
  .show d.2.2.2.2.2.2.2.2.2.2.2.1.1<=(N:Int);rw[i11];exact WS
  .exact bh
  .show d.2.1.2.2.2.2.1.2-1<=1999;omega
  .exact ch s4.len W4
  .exact ch s5.len W5
  .exact ch s6.len W6
  .exact ch s7.len W7
  .exact ch s8.len W8
  .exact ch s9.len W9
  obtain⟨a4,a5,a6,a7,a8,a9,a11,BE,e4,et⟩:=he;have e4:e.1.1.2.2.2.2.1=d.2.1.2.2.2.2.1.2-1:=e4;have et:e.1.1.2.2.2.2.2.2.2.2.2.2.2.2.2.1=d.2.2.2.2.2.2.2.2.2.2.2.2.2.1.2.1 (d.2.1.2.2.2.2.1.1+0):=et;have iq':=iq.pop (q:=λi=>w.2.2.2.2.2.2.2.2.2.2.2.2.2.1.2.1 (d.2.1.2.2.2.2.1.1+1+i)) h (λi=>by show w.2.2.2.2.2.2.2.2.2.2.2.2.2.1.2.1 (d.2.1.2.2.2.2.1.1+1+i)=w.2.2.2.2.2.2.2.2.2.2.2.2.2.1.2.1 (d.2.1.2.2.2.2.1.1+(i+1));rw[show d.2.1.2.2.2.2.1.1+1+i=d.2.1.2.2.2.2.1.1+(i+1) by omega]);have et':e.1.1.2.2.2.2.2.2.2.2.2.2.2.2.2.1=w.2.2.2.2.2.2.2.2.2.2.2.2.2.1.2.1 (d.2.1.2.2.2.2.1.1+0):=by rw[et,ir]
  have ll:d.2.1.2.2.2.2.2.2.2.2.2.2.2.2.2.1<=e.1.1.2.2.2.2.2.2.2.2.2.2.2.2.2.1:=by rw[et'];exact iq'.1
  have le:=Int.le_of_eq et.symm;rw[av];exact⟨⟨by show e.1.1.2.2.2.2.1<=l;omega,ic,ir,AZ it ll,(by show Qd e.1.1.2.2.2.2.2.2.2.2.2.2.2.2.2.1 S e.1.1.2.2.2.2.1 _;rw[et',e4];exact iq'.2),(s4.mono ll).trans (a4.mono le),(s5.mono ll).trans (a5.mono le),(s6.mono ll).trans (a6.mono le),(s7.mono ll).trans (a7.mono le),(s8.mono ll).trans (a8.mono le),(s9.mono ll).trans (a9.mono le),a11.trans i11,BE⟩,by show e.1.1.2.2.2.2.1<d.2.1.2.2.2.2.1.2;omega⟩) (λd hd=>by omega)
theorem aMS (N:Nat)(h1:1<=N)(hN:N<=1999)(d:cJ.B)(hq:d.1.c.1<=1998)(l3:d.b.2.1.b.1<=64)(l4:d.c.1.b.1<=64)(l5:d.c.2.1.b.1<=64)(l6:d.c.b.1.b.1<=64)(l7:d.c.b.2.1.b.1<=64)(l8:d.d.1.b.1<=64)(hs:d.d.b.1.1<=(N:Int))(hl:d.d.b.1.2.2<=N)(S:Int)(hS:S<=d.d.b.2.1.1)(hQ:Qd d.1.d.c.2.1 S d.1.c.1 d.d.c.1.1):Ok (cR d) (λx:eY=>x.2.1.c.1.2<=d.1.c.1+1/\x.b.2.1=d.b.1/\d.1.d.c.2.1<=x.2.1.d.c.2.1/\Qd x.2.1.d.c.2.1 d.d.b.2.1.1 x.2.1.c.1.2 (λi=>x.c.1.2.1 (x.2.1.c.1.1+i))/\BR x.2.1.d.c.2.1 d.b.2.1 x.c.2.1/\BR x.2.1.d.c.2.1 d.c.1 x.c.b.1/\BR x.2.1.d.c.2.1 d.c.2.1 x.c.b.2.1/\BR x.2.1.d.c.2.1 d.c.b.1 x.d.1/\BR x.2.1.d.c.2.1 d.c.b.2.1 x.d.2.1/\BR x.2.1.d.c.2.1 d.d.1 x.d.b.1/\x.d.c.1.1=d.d.b.1.1/\x.d.c.1.2.2<=N):=by
 unfold cR lz;try dsimp only
 show PQ _ _;simp only[aN];have b:wd ((d.1.c.1+1)*64) 140737488355328=true:=by rw[eV];omega
 rw[b];simp only[aV]
 have hQ':Qd d.1.d.c.2.1 d.d.b.2.1.1 (d.1.c.1+1) (λi=>bif ww (0+i) d.1.c.1 then d.d.b.2.1.1 else d.d.c.1.1 (0+(0+i))):=hQ.push hS (λi hi=>by
  have b:ww (0+i) d.1.c.1=false:=by
   cases hb:ww (0+i) d.1.c.1
   .rfl
   .have:=oK hb;omega
  show(bif ww (0+i) d.1.c.1 then d.d.b.2.1.1 else d.d.c.1.1 (0+(0+i)))=_;rw[b];simp only[bK,hI]) (by simp only[hI,aN,bD])
 refine ay (aVS N (d.1.c.1+1) d.d.b.2.1.1 h1 hN (by omega) _ _ l3 l4 l5 l6 l7 l8 hs ⟨eT _,rfl,rfl,eZ _,hQ',BR.refl _ _,BR.refl _ _,BR.refl _ _,BR.refl _ _,BR.refl _ _,BR.refl _ _,rfl,hl⟩) λy _ hy=> ?_;rw[qW];refine⟨λa ha=> ?_,λa ha=> ?_⟩
 .rw[ha] at hy;rw[av];obtain⟨y0,y3,yr,yt,yq,ys⟩:=hy;exact⟨y0,y3,yt,(by rw[<-yr] at yq;exact yq),ys⟩
 .rw[ha] at hy;rw[av];obtain⟨y0,y3,yr,yt,yq,ys⟩:=hy;exact⟨y0,y3,yt,(by rw[<-yr] at yq;exact yq),ys⟩
theorem aUu (N:Nat)(h1:1<=N)(hN:N<=1999)(x:eo.B)(hq:x.2.1.c.1<=1998)(l5:x.c.2.1.b.1<=64)(l6:x.c.b.1.b.1<=64)(l7:x.c.b.2.1.b.1<=64)(l8:x.d.1.b.1<=64)(l9:x.d.2.1.b.1<=64)(l10:x.d.b.1.b.1<=64)(hs:x.d.c.1.1<=(N:Int))(hl:x.d.c.1.2.2<=N)(h3:x.b.2.1.2.2=false->x.b.2.1.2.1.1<=0)(hQ:Qd x.2.1.d.c.2.1 x.b.2.1.2.1.1 x.2.1.c.1 x.c.1.1):Ok (bU x) (λe:gH=>e.2.1.c.1.2<=x.2.1.c.1+1/\(e.b.2.1.2.2=false->e.b.2.1.2.1.1<=0)/\x.2.1.d.c.2.1<=e.2.1.d.c.2.1/\Qd e.2.1.d.c.2.1 e.b.2.1.2.1.1 e.2.1.c.1.2 (λi=>e.c.1.2.1 (e.2.1.c.1.1+i))/\BR e.2.1.d.c.2.1 x.c.2.1 e.c.2.1/\BR e.2.1.d.c.2.1 x.c.b.1 e.c.b.1/\BR e.2.1.d.c.2.1 x.c.b.2.1 e.c.b.2.1/\BR e.2.1.d.c.2.1 x.d.1 e.d.1/\BR e.2.1.d.c.2.1 x.d.2.1 e.d.2.1/\BR e.2.1.d.c.2.1 x.d.b.1 e.d.b.1/\e.d.c.1.1=x.d.c.1.1/\e.d.c.1.2.2<=N):=by
 unfold bU jR;try dsimp only
 show PQ _ _;simp only[aN];refine ay (aZY _ h3) λd _ hd=> ?_;obtain⟨d1,d2,d3⟩:=hd;have d2:x.b.2.1.2.1.1<=d.2.1.2.1.1:=d2;rw[aK];refine⟨λ_=>by rw[av];exact⟨Nat.le_succ _,d1,eZ _,hQ.up d2 (λi=>by rw[hI]),BR.refl _ _,BR.refl _ _,BR.refl _ _,BR.refl _ _,BR.refl _ _,BR.refl _ _,rfl,hl⟩,λ_=> ?_⟩;rw[aK];refine⟨λ_=>by rw[av];exact⟨Nat.le_succ _,d1,eZ _,hQ.up d2 (λi=>by rw[hI]),BR.refl _ _,BR.refl _ _,BR.refl _ _,BR.refl _ _,BR.refl _ _,BR.refl _ _,rfl,hl⟩,λc=> ?_⟩;have c:d.1.2.1=true:=by simpa using c
 have d3:=d3 c;have d4:x.b.2.1.2.1.1<=d.1.1.1:=by omega
 rw[aK];refine⟨λ_=> ?_,λ_=> ?_⟩
 .simp only[aV];with_reducible refine ay (aQa N hN _ ?_ ?_) λe _ he=> ?_
  .exact hl
  .exact hs
  rw[ux];refine⟨λa ha=> ?_,λa ha=> ?_⟩
  .rw[ha] at he;have he:a.2.1=x.d.c.1:=he;simp only[aV];with_reducible refine ay (aMS N h1 hN _ ?_ ?_ ?_ ?_ ?_ ?_ ?_ ?_ ?_ x.b.2.1.2.1.1 d4 hQ) λy _ hy=> ?_
   .exact hq
   .exact l5
   .exact l6
   .exact l7
   .exact l8
   .exact l9
   .exact l10
   .show a.2.1.1<=(N:Int);rw[he];exact hs
   .show a.2.1.2.2<=N;rw[he];exact hl
   rw[av];have e0:(a.2.1.1:Int)=x.d.c.1.1:=by rw[he]
   obtain⟨q,qs,qt,qq,s5,s6,s7,s8,s9,Z8,p1,p2⟩:=hy;exact⟨q,(by rw[show y.b.2.1=d.2.1 from qs];exact d1),qt,(by rw[show y.b.2.1=d.2.1 from qs,<-d3];exact qq),s5,s6,s7,s8,s9,Z8,p1.trans e0,p2⟩
  .rw[ha] at he;obtain⟨e1,e2,e3,e4⟩:=he;have e1:a.1.1.1=x.d.c.1.1:=e1;simp only[aV];with_reducible refine ay (aMS N h1 hN _ ?_ ?_ ?_ ?_ ?_ ?_ ?_ ?_ ?_ x.b.2.1.2.1.1 d4 hQ) λy _ hy=> ?_
   .exact hq
   .exact l5
   .exact l6
   .exact l7
   .exact l8
   .exact l9
   .exact l10
   .show a.1.1.1<=(N:Int);rw[e1];exact hs
   .exact e2
   rw[av];obtain⟨q,qs,qt,qq,s5,s6,s7,s8,s9,Z8,p1,p2⟩:=hy;exact⟨q,(by rw[show y.b.2.1=d.2.1 from qs];exact d1),qt,(by rw[show y.b.2.1=d.2.1 from qs,<-d3];exact qq),s5,s6,s7,s8,s9,Z8,p1.trans e1,p2⟩
 .simp only[aV];with_reducible refine ay (aMS N h1 hN _ ?_ ?_ ?_ ?_ ?_ ?_ ?_ ?_ ?_ x.b.2.1.2.1.1 d4 hQ) λy _ hy=> ?_
  .exact hq
  .exact l5
  .exact l6
  .exact l7
  .exact l8
  .exact l9
  .exact l10
  .exact hs
  .exact hl
  rw[av];obtain⟨q,qs,qt,qq,qr⟩:=hy;exact⟨q,(by rw[show y.b.2.1=d.2.1 from qs];exact d1),qt,(by rw[show y.b.2.1=d.2.1 from qs,<-d3];exact qq),qr⟩
theorem aTf (x:gu.B)(l5:x.c.2.1.b.1<=1000)(l6:x.c.b.1.b.1<=1000)(l7:x.c.b.2.1.b.1<=1000)(l8:x.d.1.b.1<=1000)(l9:x.d.2.1.b.1<=1000)(l10:x.d.b.1.b.1<=1000):Ok (dJ x) (λe:ku=>e.2.1=x.2.1/\e.b.1=x.b.1/\e.b.2.1=x.b.2.1/\e.c.1=x.c.1/\e.d.b.2.1=x.d.b.2.1/\e.d.c.1=x.d.c.1/\e.d.c.2.1=x.d.c.2.1/\e.e.b.2.2=x.e.b.2.2/\((¬(0<=x.1.1/\x.1.1<6)/\e.c.2.1=x.c.2.1/\e.c.b.1=x.c.b.1/\e.c.b.2.1=x.c.b.2.1/\e.d.1=x.d.1/\e.d.2.1=x.d.2.1/\e.d.b.1=x.d.b.1)∨(x.1.1=0/\(PR x.c.2.1 e.c.2.1∨SR x.c.2.1 e.c.2.1)/\e.c.b.1=x.c.b.1/\e.c.b.2.1=x.c.b.2.1/\e.d.1=x.d.1/\e.d.2.1=x.d.2.1/\e.d.b.1=x.d.b.1)∨(x.1.1=1/\e.c.2.1=x.c.2.1/\(PR x.c.b.1 e.c.b.1∨SR x.c.b.1 e.c.b.1)/\e.c.b.2.1=x.c.b.2.1/\e.d.1=x.d.1/\e.d.2.1=x.d.2.1/\e.d.b.1=x.d.b.1)∨(x.1.1=2/\e.c.2.1=x.c.2.1/\e.c.b.1=x.c.b.1/\(PR x.c.b.2.1 e.c.b.2.1∨SR x.c.b.2.1 e.c.b.2.1)/\e.d.1=x.d.1/\e.d.2.1=x.d.2.1/\e.d.b.1=x.d.b.1)∨(x.1.1=3/\e.c.2.1=x.c.2.1/\e.c.b.1=x.c.b.1/\e.c.b.2.1=x.c.b.2.1/\(PR x.d.1 e.d.1∨SR x.d.1 e.d.1)/\e.d.2.1=x.d.2.1/\e.d.b.1=x.d.b.1)∨(x.1.1=4/\e.c.2.1=x.c.2.1/\e.c.b.1=x.c.b.1/\e.c.b.2.1=x.c.b.2.1/\e.d.1=x.d.1/\(PR x.d.2.1 e.d.2.1∨SR x.d.2.1 e.d.2.1)/\e.d.b.1=x.d.b.1)∨(x.1.1=5/\e.c.2.1=x.c.2.1/\e.c.b.1=x.c.b.1/\e.c.b.2.1=x.c.b.2.1/\e.d.1=x.d.1/\e.d.2.1=x.d.2.1/\(PR x.d.b.1 e.d.b.1∨SR x.d.b.1 e.d.b.1)))):=by
 unfold dJ qy;try dsimp only
 show PQ _ _;rw[aTb,dL,aK];refine⟨λhn=> ?_,λhk=> ?_⟩
 .rw[av];refine⟨rfl,rfl,rfl,rfl,rfl,rfl,rfl,rfl,.inl ⟨λh=> ?_,rfl,rfl,rfl,rfl,rfl,rfl⟩⟩;rw[gF h.1,gF h.2] at hn;cases hn
 rw[agq] at hk;obtain⟨b,_,_⟩:=aUo hk 6 (by omega);have hr:=hk;rw[cq,mf,mf] at hr;obtain⟨k0,k6⟩:=hr;simp only[aN,b]
 repeat' (first
  |rw[aV]
  |(with_reducible refine ay (aVJ _ ?_) λe _ he=> ?_)
  |(with_reducible refine ay (axQ _) λe _ he=> ?_)
  |(rw[ux];refine⟨λa ha=> ?_,λa ha=> ?_⟩)
  |(rw[bE];intro _ _)
  |(rw[aK];refine⟨λc=> ?_,λc=> ?_⟩<;>first|have c:=eq_of_beq c|have c:=alK c|skip))
 all_goals first
  |(dsimp only;omega)
  |(rw[av];exact⟨rfl,rfl,rfl,rfl,rfl,rfl,rfl,rfl,.inr (.inl ⟨by omega,.inr he,rfl,rfl,rfl,rfl,rfl⟩)⟩)
  |(rw[ha] at he;rw[av];exact⟨rfl,rfl,rfl,rfl,rfl,rfl,rfl,rfl,.inr (.inl ⟨by omega,.inl he,rfl,rfl,rfl,rfl,rfl⟩)⟩)
  |(rw[av];exact⟨rfl,rfl,rfl,rfl,rfl,rfl,rfl,rfl,.inr (.inr (.inl ⟨by omega,rfl,.inr he,rfl,rfl,rfl,rfl⟩))⟩)
  |(rw[ha] at he;rw[av];exact⟨rfl,rfl,rfl,rfl,rfl,rfl,rfl,rfl,.inr (.inr (.inl ⟨by omega,rfl,.inl he,rfl,rfl,rfl,rfl⟩))⟩)
  |(rw[av];exact⟨rfl,rfl,rfl,rfl,rfl,rfl,rfl,rfl,.inr (.inr (.inr (.inl ⟨by omega,rfl,rfl,.inr he,rfl,rfl,rfl⟩)))⟩)
  |(rw[ha] at he;rw[av];exact⟨rfl,rfl,rfl,rfl,rfl,rfl,rfl,rfl,.inr (.inr (.inr (.inl ⟨by omega,rfl,rfl,.inl he,rfl,rfl,rfl⟩)))⟩)
  |(rw[av];exact⟨rfl,rfl,rfl,rfl,rfl,rfl,rfl,rfl,.inr (.inr (.inr (.inr (.inl ⟨by omega,rfl,rfl,rfl,.inr he,rfl,rfl⟩))))⟩)
  |(rw[ha] at he;rw[av];exact⟨rfl,rfl,rfl,rfl,rfl,rfl,rfl,rfl,.inr (.inr (.inr (.inr (.inl ⟨by omega,rfl,rfl,rfl,.inl he,rfl,rfl⟩))))⟩)
  |(rw[av];exact⟨rfl,rfl,rfl,rfl,rfl,rfl,rfl,rfl,.inr (.inr (.inr (.inr (.inr (.inl ⟨by omega,rfl,rfl,rfl,rfl,.inr he,rfl⟩)))))⟩)
  |(rw[ha] at he;rw[av];exact⟨rfl,rfl,rfl,rfl,rfl,rfl,rfl,rfl,.inr (.inr (.inr (.inr (.inr (.inl ⟨by omega,rfl,rfl,rfl,rfl,.inl he,rfl⟩)))))⟩)
  |(rw[av];exact⟨rfl,rfl,rfl,rfl,rfl,rfl,rfl,rfl,.inr (.inr (.inr (.inr (.inr (.inr (⟨by omega,rfl,rfl,rfl,rfl,rfl,.inr he⟩))))))⟩)
  |(rw[ha] at he;rw[av];exact⟨rfl,rfl,rfl,rfl,rfl,rfl,rfl,rfl,.inr (.inr (.inr (.inr (.inr (.inr (⟨by omega,rfl,rfl,rfl,rfl,rfl,.inl he⟩))))))⟩)
  |skip
structure Clo (P:Int->Int->Bf->Prop):Prop where
 len:∀{m t b},P m t b->b.2.2.1<=64
 br:∀{m t u b c},P m t b->t<=u->BR u b c->P m u c
 pr:∀{m t b c},0<=m->m<=1000->P m t b->(PR b c∨SR b c)->P (m+1) t c
 up:∀{m t b},P m t b->P (m+1) t b
def Tq (T S:Int)(a:Bool)(n:Nat)(r:Nat->Int):Prop:=(a=false->S<=0)/\Qd T S n r
theorem aV2 (x:mG.B):Ok (gA x) (λr:tM=>r.2.2.2.2.1=x.1.2.2.2.2.2.2.2.2.2.2.2.2.2.1):=by
 unfold gA tN;try dsimp only
 show PQ _ _;repeat' (first|(rw[bE];intro _ _))
 rw[av]
end Go.Proofs.YtldgljclcgaibaaGreat
