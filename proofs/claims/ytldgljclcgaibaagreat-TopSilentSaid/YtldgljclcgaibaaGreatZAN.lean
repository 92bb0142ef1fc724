/-
  Parts of the proof: QC N5 TLr TLs TLt TLn TLu TWt TWq TLv
-/
import Derived.Test.YtldgljclcgaibaaGreatZAE
import Derived.Test.YtldgljclcgaibaaGreatZAK
import Derived.Test.YtldgljclcgaibaaGreatZAM
open Nat renaming beq→ww
open Int renaming toNat→ws,ofNat→wl
open Sum renaming inl→wr,inr→wn,elim→t8
set_option linter.all false
set_option maxRecDepth 100000
set_option maxHeartbeats 4000000
noncomputable section
namespace Go.Proofs.YtldgljclcgaibaaGreat
open Go.Ab Go.Ab.Pg Go.Ab.Rq
def awG:=qa (pu nil nil)
def ac0:=qe Et
abbrev awH:=ac0.B
abbrev ahK:=Option awH
def awI (g:ahK):Ct:=(11,FC awG (lf ac0) (λ_=>g))
def Vb:Option awH:=some true
theorem aYx [ax]:Snd Tryz.prog (zk (Nd jS rS)):=aon▸M0
theorem aLE:akn Tryz.prog [anm ano,atq zZ,ahu M8,zk (Nd jS rS),aan aap,Ft gk] ⟨[],[],[],[],none⟩ 2000 11 awG (lf ac0) λ_=>ret true:=λb=>by kernel_rfl
theorem aLF [ax]:SC (awI Vb):=s0 (.c aFq (.c aFz (.c awp (.c aYx (.c awh (.c Rk (.nil _))))))) aLE
def oT:=qa (pl (c (aa xq) (cl aaM nil)) nil)
def Nf:=qe Et
abbrev Gf:=Nf.B
abbrev ayJ:=oT.B->Option Gf
def ayK (g:ayJ):Ct:=(3,FC oT (lf Nf) g)
def lg:=qs (st (pr (us 1 (c aaM (cu aCK (xs 1 (cu mJ (cl ai (us 2 (xs 1 (us 5 (cu aVo (us 108 nil))))))))))) (pl (cl akl nil) nil)))
def atO:=qs (st (pr (us 1 (c aaM (cu aCK (xs 1 (cu mJ (c ai (us 2 (xs 1 (us 5 (cu aVo (us 2 aUY))))))))))) (pl (cl akl nil) nil)))
abbrev wZ:=((aRC×Int×Bool)×Int×Int×Int×Int×Int×Int×Int×Int×Int×Int×Int×Int×Int×Int×NI×NI×Int×Int×Int×Int×Int×Int×Int)
def YK {ρ:Type}(x:wZ)(K:AX->St->Option ρ):Option ρ:=(λd=>K (.ex 0) (atO.em ((d.1.1,d.1.2.1,d.1.2),d.2))) x
def J7 (d:lg.B):PL lg wZ:=let aT:=d.2.1;let n9:=d.1.1;let n6:=d.2.2.1;let n4:=d.1.2;let n3:=d.2.2.2;let bf:=n3.2.1;let n7:=n3.2.2.1;let n1:=n3.2.2.2;let bp:=n1.2.1;let n8:=n1.2.2.1;let n2:=n1.2.2.2;let n5:=n2.2.2;let y0:=decide (n4<6);ae y0 (ae (bg n4 6) (ae (n4==5) (ret (wr ((n9,wI (n4+1)),aT,n6,n3.1,bf,n7,n1.1,bp,n8,n2.1,n2.2.1,n5.1,n5.2.1,n5.2.2.1,10000,n5.2.2.2.2))) (ae (n4==4) (ret (wr ((n9,wI (n4+1)),aT,n6,n3.1,bf,n7,n1.1,bp,n8,n2.1,n2.2.1,n5.1,n5.2.1,10000,n5.2.2.2))) (ae (n4==3) (ret (wr ((n9,wI (n4+1)),aT,n6,n3.1,bf,n7,n1.1,bp,n8,n2.1,n2.2.1,n5.1,10000,n5.2.2))) (ae (n4==2) (ret (wr ((n9,wI (n4+1)),aT,n6,n3.1,bf,n7,n1.1,bp,n8,n2.1,n2.2.1,10000,n5.2))) (ae (n4==1) (ret (wr ((n9,wI (n4+1)),aT,n6,n3.1,bf,n7,n1.1,bp,n8,n2.1,10000,n5))) (ret (wr ((n9,wI (n4+1)),aT,n6,n3.1,bf,n7,n1.1,bp,n8,10000,n2.2)))))))) no) (ret (wn ((n9,n4,y0),d.2)))
def J8:=bw (J7) 2000
def gV:=qs (st (pr (us 1 (c aaM (us 1 (xs 1 (cu mJ (us 1 (cu th (cl ai (xs 1 aVE))))))))) (pl (c akd (c akl akm)) nil)))
def aj0:=qs (st (pr (us 1 (c aaM (us 1 (xs 1 (cu mJ (us 1 (cu th (c ai (xs 1 (us 5 (cu aCV (us 16 (c ai (c aaM (c ai (c ab (cu Gz (c ai (c ab (c ab (cu Gz (cu th (cu th (cu aJc (c ai (c ab aUR)))))))))))))))))))))))))) (pl (c akd (c akl akm)) nil)))
def aj1:=qs (st (pr (us 1 (c aaM (us 1 (xs 1 (cu mJ (us 1 (cu th (c ai (xs 1 (us 5 (cu aCV (us 16 (c ai (c aaM (c ai (c ab (cu Gz (c ai (c ab (cl ab aVN)))))))))))))))))))) (pl (c akd (c akl akm)) nil)))
def aj2:=qs (st (pr (us 1 (c aaM (us 1 (xs 1 (cu mJ (us 1 (cu th (c ai (xs 1 (us 5 (cu aCV (us 16 (c ai (c aaM (c ai (cl ab (cu mJ (xs 2 (cu mJ aVN))))))))))))))))))) (pl (c akd (c akl akm)) nil)))
abbrev ri:=((aRC×Int×Int×Bool×Bool×Int×Bool)×(Int×Bool)×aRA×(Es×Bool×NI×(NI×NI)×(Nat×Nat)×qj×Bool×Int×lu×Bool×Bool×Bool×Int×Int×Int×Dx×Nat)×(lu×Int×Int)×KR×Qr×bK×bK×bK×bK×bK×bK×KN×tf×Eo×Ah×Ah×Ah×Ah×Ah×Ah×Nat×NI×NI×NI×NI×NI×NI×NI×NI×NI×NI×NI)⊕(((aRC×Int×Int×Bool×Bool)×apx×aRA×(Es×Bool×NI×(NI×NI)×(Nat×Nat)×qj×Bool×Int×lu×Bool×Bool×Bool×Int×Int×Int×Dx×Nat)×(lu×Int×Int)×KR×Qr×bK×bK×bK×bK×bK×bK×KN×tf×Eo×Ah×Ah×Ah×Ah×Ah×Ah×Nat×NI×NI×NI×NI×NI×NI×NI×NI×NI×NI×NI)⊕((aRC×Int×Int×Bool)×apx×aRA×(Es×Bool×NI×(NI×NI)×(Nat×Nat)×qj×Bool×Int×lu×Bool×Bool×Bool×Int×Int×Int×Dx×Nat)×(lu×Int×Int)×KR×Qr×bK×bK×bK×bK×bK×bK×KN×tf×Eo×Ah×Ah×Ah×Ah×Ah×Ah×Nat×NI×NI×NI×NI×NI×NI×NI×NI×NI×NI×NI))
def YL {ρ:Type}(x:ri)(K:AX->St->Option ρ):Option ρ:=(t8 (λd=>K (.ex 2) (aj0.em ((d.1.1,d.1.2.1,d.1.2.1,d.1.1,d.1.b.1,d.1.b.2.1,d.1.2.1,d.1.c.1,d.1.c.1,d.1.c.2.1,d.1.c.b,d.1.c.b),(d.2.1.1,d.1.c.2.1,d.2.1.2),d.b))) (t8 (λd=>K (.ex 2) (aj1.em ((d.1.1,d.1.2.1,d.1.2.1,d.1.1,d.1.b.1,d.1.b.2.1,d.1.2.1,d.1.c,d.1.c),d.2))) (λd=>K (.ex 2) (aj2.em ((d.1.1,d.1.2.1,d.1.2.1,d.1.1,d.1.b),d.2))))) x
def J9 (aaC:M')(d:gV.B):PL gV ri:=let TA:=d.2.2;let n36:=d.2.1;let n25:=d.1.2;let n18:=TA.2;let n49:=n18.2.2;let bI:=d.1.1;let n26:=bI.2.2.2.2;let bf:=n18.1.2.2.2.2;let n50:=bf.1.2;let n15:=bf.2.2.2.2.2.2.2.2.2.2.2.2;let n6:=n49.2.2;let n37:=n6.1.2.2.1;let n33:=n6.2.1.2.2.1;let n31:=n6.2.2.1.2.2.1;let n5:=n26.2.2.2.2.2;let n44:=n5.2.2.2;let n20:=n44.2.2;let n46:=n20.2.2.2;let n3:=n6.2.2.2;let O7:=n3.2.2;let n38:=n3.1.2.2.1;let n34:=n3.2.1.2.2.1;let n32:=O7.1.2.2.1;let bp:=O7.2.2;let n51:=bp.2.2;let n45:=bp.1.2.2;let n19:=n51.2.2;let n52:=n19.2.2;let n4:=n52.2.2.2;let n39:=n4.2.2;let bq:=n39.2.2.2;let n35:=bq.2.2.2;let n2:=(n18.1.1,n18.1.2.1,n18.1.2.2.1,n18.1.2.2.2.1,n50,bf.2);let y0:=ws n25;let n1:=(bI.2.1 y0,bI.2.2.1 y0,bI.2.2.2.1 y0,(n26.1 y0,n26.2.1 y0,(n26.2.2.1 y0,n26.2.2.2.1 y0,n26.2.2.2.2.1 y0),n5.1 y0,n5.2.1 y0,n5.2.2.1 y0),n44.1 y0,n44.2.1 y0,n20.1 y0,n20.2.1 y0,n20.2.2.1 y0,n46.1 y0,n46.2.1 y0,n46.2.2.1 y0,n46.2.2.2 y0);let y1:=wl bI.1;let y2:=decide (n25<20);let y3:=bg n25 bI.1;let y4:=decide (n36.2.1<30);let y5:=decide (n25<y1);ae y5 (ae y2 (ae y4 (ae y3 (ae (bI.2.1 y0==1) (ae y3 (ae (decide (n44.1 y0>n36.1)) (ret (wr ((bI,wI (n25+1)),d.2))) (ae y3 (ae (ww n50 n50) (ae (ww n15 n15) (ae (ww n37 n37) (ae (ww n33 n33) (ae (ww n31 n31) (ae (ww n38 n38) (ae (ww n34 n34) (ae (ww n32 n32) (ae (ww n45 n45) (opt (aaC (n1,n36,n2,n18.2.1,n49.1,(sh8 bf.1.1 n49.2.1.2),n6.1,n6.2.1,n6.2.2.1,n3.1,n3.2.1,O7.1,O7.2.1,bp.1,(atQ 0 bp.2.1.2),(vo 0 n51.1.2),(vo 0 n51.2.1.2),(vo 0 n19.1.2),(vo 0 n19.2.1.2),(vo 0 n52.1.2),(vo 0 n52.2.1.2),λj=>n4.1 (0+j),λj=>n4.2.1 (0+j),λj=>n39.1 (0+j),λj=>n39.2.1 (0+j),λj=>n39.2.2.1 (0+j),λj=>bq.1 (0+j),λj=>bq.2.1 (0+j),λj=>bq.2.2.1 (0+j),λj=>n35.1 (0+j),λj=>n35.2.1 (0+j),λj=>n35.2.2 (0+j))) λaj=>ae (match aj with|wr val=>true|wn val=>false) (opt (match aj with|wr a=>some a|wn val=>none) λaC=>let n27:=aC.1.2.2.2;let n23:=aC.2.2.2.2.2;let n9:=n23.2.2.2.2.2;let n28:=n9.2.2.2.2;ret (wr ((bI,wI (n25+1)),aC.1.1,TA.1,(aC.1.2.1,aC.1.2.2.1,n27.1,n27.2.1,(0,n27.2.2.1),n27.2.2.2),aC.2.1,aC.2.2.1,(n27.2.2.1,aC.2.2.2.1),aC.2.2.2.2.1,n23.1,n23.2.1,n23.2.2.1,n23.2.2.2.1,n23.2.2.2.2.1,n9.1,n9.2.1,(n27.2.2.2.2.2.2.2.2.2.2.2.2.2.2,n9.2.2.1),n9.2.2.2.1,n28.1,n28.2.1,n28.2.2.1,n28.2.2.2.1,n28.2.2.2.2.1,n9.2.1.2.2,n28.2.2.2.2.2))) (opt (match aj with|wn b=>some b|wr val=>none) λaC=>let n21:=aC.2.2.2.2.2;let n7:=n21.2.2.2;let TB:=n7.2.2;let n16:=TB.2.2.2.2;let n47:=n16.2.2.2;ret (wr ((bI,wI (n25+1)),aC.1,TA.1,aC.2.1,aC.2.2.1,aC.2.2.2.1,aC.2.2.2.2.1,n21.1,n21.2.1,n21.2.2.1,n7.1,n7.2.1,TB.1,TB.2.1,TB.2.2.1,TB.2.2.2.1,(n21.1.2.2.1,n16.1),(n21.2.1.2.2.1,n16.2.1),(n21.2.2.1.2.2.1,n16.2.2.1),(n7.1.2.2.1,n47.1),(n7.2.1.2.2.1,n47.2.1),(TB.1.2.2.1,n47.2.2.1),n47.2.2.2)))) no) no) no) no) no) no) no) no) no) no)) no) (ae y3 (ae (ww n50 n50) (ae (ww n15 n15) (ae (ww n37 n37) (ae (ww n33 n33) (ae (ww n31 n31) (ae (ww n38 n38) (ae (ww n34 n34) (ae (ww n32 n32) (ae (ww n45 n45) (opt (aaC (n1,n36,n2,n18.2.1,n49.1,(sh8 bf.1.1 n49.2.1.2),n6.1,n6.2.1,n6.2.2.1,n3.1,n3.2.1,O7.1,O7.2.1,bp.1,(atQ 0 bp.2.1.2),(vo 0 n51.1.2),(vo 0 n51.2.1.2),(vo 0 n19.1.2),(vo 0 n19.2.1.2),(vo 0 n52.1.2),(vo 0 n52.2.1.2),λj=>n4.1 (0+j),λj=>n4.2.1 (0+j),λj=>n39.1 (0+j),λj=>n39.2.1 (0+j),λj=>n39.2.2.1 (0+j),λj=>bq.1 (0+j),λj=>bq.2.1 (0+j),λj=>bq.2.2.1 (0+j),λj=>n35.1 (0+j),λj=>n35.2.1 (0+j),λj=>n35.2.2 (0+j))) λaj=>ae (match aj with|wr val=>true|wn val=>false) (opt (match aj with|wr a=>some a|wn val=>none) λaC=>let n29:=aC.1.2.2.2;let n24:=aC.2.2.2.2.2;let aT:=n24.2.2.2.2.2;let n30:=aT.2.2.2.2;ret (wr ((bI,wI (n25+1)),aC.1.1,TA.1,(aC.1.2.1,aC.1.2.2.1,n29.1,n29.2.1,(0,n29.2.2.1),n29.2.2.2),aC.2.1,aC.2.2.1,(n29.2.2.1,aC.2.2.2.1),aC.2.2.2.2.1,n24.1,n24.2.1,n24.2.2.1,n24.2.2.2.1,n24.2.2.2.2.1,aT.1,aT.2.1,(n29.2.2.2.2.2.2.2.2.2.2.2.2.2.2,aT.2.2.1),aT.2.2.2.1,n30.1,n30.2.1,n30.2.2.1,n30.2.2.2.1,n30.2.2.2.2.1,aT.2.1.2.2,n30.2.2.2.2.2))) (opt (match aj with|wn b=>some b|wr val=>none) λaC=>let n22:=aC.2.2.2.2.2;let n8:=n22.2.2.2;let n43:=n8.2.2;let n17:=n43.2.2.2.2;let n48:=n17.2.2.2;ret (wr ((bI,wI (n25+1)),aC.1,TA.1,aC.2.1,aC.2.2.1,aC.2.2.2.1,aC.2.2.2.2.1,n22.1,n22.2.1,n22.2.2.1,n8.1,n8.2.1,n43.1,n43.2.1,n43.2.2.1,n43.2.2.2.1,(n22.1.2.2.1,n17.1),(n22.2.1.2.2.1,n17.2.1),(n22.2.2.1.2.2.1,n17.2.2.1),(n8.1.2.2.1,n48.1),(n8.2.1.2.2.1,n48.2.1),(n43.1.2.2.1,n48.2.2.1),n48.2.2.2)))) no) no) no) no) no) no) no) no) no) no)) no) (ret (wn (wr ((bI,n25,y1,y5,y2,n36.2.1,y4),(n36.1,n36.2.2),TA))))) (ret (wn (wn (wr ((bI,n25,y1,y5,y2),d.2)))))) (ret (wn (wn (wn ((bI,n25,y1,y5),d.2)))))
def J':=bw (J9 jE) 2000
def lk:=qs (st (pr (us 3 (xs 1 (us 2 (cu th (us 1 (cl ai aVE)))))) (pl (c akd (c akl akm)) nil)))
def atP:=qs (st (pr (us 3 (xs 1 (us 2 (cu th (us 1 (c ai (us 5 (cu aCV (us 63 (c ai (cl ab (us 43 nil)))))))))))) (pl (c akd (c akl akm)) nil)))
abbrev rj:=((Int×Bool)×apx×aRA×(Es×Bool×NI×(NI×NI)×(Nat×Nat)×qj×Bool×Int×lu×Bool×Bool×Bool×Int×Int×Int×Dx×Nat)×(lu×Int×Int)×KR×Qr×bK×bK×bK×bK×bK×bK×KN×tf×Eo×Ah×Ah×Ah×Ah×Ah×Ah×Nat×NI×NI×NI×NI×NI×NI×NI×NI×NI×NI×NI)
def YM {ρ:Type}(x:rj)(K:AX->St->Option ρ):Option ρ:=(λd=>K (.ex 4) (atP.em ((d.1.1,d.1),d.2))) x
def Ka (J6:wY)(d:lk.B):PL lk rj:=let n4:=d.2.2.2;let n8:=n4.1.2.2.2.2;let bp:=n8.2.2.2.2.2.2.2.2.2.2.2.2;let n6:=n4.2.2.2.2;let n1:=n6.2.2.2;let n15:=n1.2.2;let n5:=n15.2.2;let bf:=n5.2.2.2.2;let n2:=bf.2.2.2.2.2;let n9:=n2.2.2.2.2.2;let y0:=decide (d.1<8);ae y0 (ae (ww n8.1.2 n8.1.2) (ae (ww bp bp) (ae (ww n6.1.2.2.1 n6.1.2.2.1) (ae (ww n6.2.1.2.2.1 n6.2.1.2.2.1) (ae (ww n6.2.2.1.2.2.1 n6.2.2.1.2.2.1) (ae (ww n1.1.2.2.1 n1.1.2.2.1) (ae (ww n1.2.1.2.2.1 n1.2.1.2.2.1) (ae (ww n15.1.2.2.1 n15.1.2.2.1) (ae (ww n5.1.2.2 n5.1.2.2) (opt (J6 (d.2.1,(n4.1.1,n4.1.2.1,n4.1.2.2.1,n4.1.2.2.2.1,n8.1.2,n8.2),n4.2.1,n4.2.2.1,(sh8 n8.1.1 n4.2.2.2.1.2),n6.1,n6.2.1,n6.2.2.1,n1.1,n1.2.1,n15.1,n15.2.1,n5.1,(atQ 0 n5.2.1.2),(vo 0 n5.2.2.1.2),(vo 0 n5.2.2.2.1.2),(vo 0 bf.1.2),(vo 0 bf.2.1.2),(vo 0 bf.2.2.1.2),(vo 0 bf.2.2.2.1.2),λj=>n2.1 (0+j),λj=>n2.2.1 (0+j),λj=>n2.2.2.1 (0+j),λj=>n2.2.2.2.1 (0+j),λj=>n2.2.2.2.2.1 (0+j),λj=>n9.1 (0+j),λj=>n9.2.1 (0+j),λj=>n9.2.2.1 (0+j),λj=>n9.2.2.2.1 (0+j),λj=>n9.2.2.2.2.1 (0+j),λj=>n9.2.2.2.2.2 (0+j))) λaj=>let aT:=aj.2.2.2.2;let n3:=aT.2.2.2;let bq:=n3.2.2;let n7:=bq.2.2.2.2;let bI:=n7.2.2.2;ret (wr (wI (d.1+1),aj.1.1,d.2.2.1,aj.1.2,aj.2.1,aj.2.2.1,aj.2.2.2.1,aT.1,aT.2.1,aT.2.2.1,n3.1,n3.2.1,bq.1,bq.2.1,bq.2.2.1,bq.2.2.2.1,(aT.1.2.2.1,n7.1),(aT.2.1.2.2.1,n7.2.1),(aT.2.2.1.2.2.1,n7.2.2.1),(n3.1.2.2.1,bI.1),(n3.2.1.2.2.1,bI.2.1),(bq.1.2.2.1,bI.2.2.1),bI.2.2.2))) no) no) no) no) no) no) no) no) no) (ret (wn ((d.1,y0),d.2)))
def Kb:=bw (Ka cX) 2000
def jf:=qs (st (pr (us 6 (cu th (us 2 (cu (app 1 19) (cl ai (us 112 nil)))))) (pl (c akd (c (so aP8) akm)) nil)))
def NC:=qs (st (pu (us 4 (cu mJ (us 118 nil))) (pu nil nil)))
def aj3:=qs (st (pr (us 6 (cu th (us 2 (cu (app 1 19) (c ai (us 99 aPo)))))) (pl (c akd (c (so aP8) akm)) nil)))
abbrev rm:=NC.B⊕((Int×Bool)×apx×(Int×Int×Bool×Bool×Int×Int×Int×Bool×Bool×Int×Int×Int×Int×Int×Int×Int×Int×Int×Int)×(Es×Bool×NI×(NI×NI)×(Nat×Nat)×qj×Bool×Int×lu×Bool×Bool×Bool×Int×Int×Int×Dx×Nat)×(lu×Int×Int)×KR×Qr×bK×bK×bK×bK×bK×bK×KN×tf×Eo×Ah×Ah×Ah×Ah×Ah×Ah×Nat×NI×NI×NI×NI×NI×NI×NI×NI×NI×NI×NI)
def YN {ρ:Type}(x:rm)(K:AX->St->Option ρ):Option ρ:=(t8 (λd=>K .ret (NC.em d)) (λd=>K (.ex 6) (aj3.em ((d.1.1,d.1),d.2)))) x
def Kc (aoo:Fv)(gJ:lS)(d:jf.B):PL jf rm:=let n3:=d.2.2.2;let n6:=n3.1.2.2.2.2;let n9:=n6.2.2.2.2.2.2.2.2.2.2.2.2;let n5:=n3.2.2.2.2;let n1:=n5.2.2.2;let aT:=n1.2.2;let n4:=aT.2.2;let n8:=n4.2.2.2.2;let n2:=n8.2.2.2.2.2;let n7:=n2.2.2.2.2.2;let y0:=decide (d.1<6);ae y0 (ae (ww n6.1.2 n6.1.2) (ae (ww n9 n9) (ae (ww n5.1.2.2.1 n5.1.2.2.1) (ae (ww n5.2.1.2.2.1 n5.2.1.2.2.1) (ae (ww n5.2.2.1.2.2.1 n5.2.2.1.2.2.1) (ae (ww n1.1.2.2.1 n1.1.2.2.1) (ae (ww n1.2.1.2.2.1 n1.2.1.2.2.1) (ae (ww aT.1.2.2.1 aT.1.2.2.1) (ae (ww n4.1.2.2 n4.1.2.2) (opt (aoo (d.1,(n3.1.1,n3.1.2.1,n3.1.2.2.1,n3.1.2.2.2.1,n6.1.2,n6.2),n3.2.1,n3.2.2.1,(sh8 n6.1.1 n3.2.2.2.1.2),n5.1,n5.2.1,n5.2.2.1,n1.1,n1.2.1,aT.1,aT.2.1,n4.1,(atQ 0 n4.2.1.2),(vo 0 n4.2.2.1.2),(vo 0 n4.2.2.2.1.2),(vo 0 n8.1.2),(vo 0 n8.2.1.2),(vo 0 n8.2.2.1.2),(vo 0 n8.2.2.2.1.2),λj=>n2.1 (0+j),λj=>n2.2.1 (0+j),λj=>n2.2.2.1 (0+j),λj=>n2.2.2.2.1 (0+j),λj=>n2.2.2.2.2.1 (0+j),λj=>n7.1 (0+j),λj=>n7.2.1 (0+j),λj=>n7.2.2.1 (0+j),λj=>n7.2.2.2.1 (0+j),λj=>n7.2.2.2.2.1 (0+j),λj=>n7.2.2.2.2.2 (0+j))) λaj=>opt (gJ d.2.2.1.2.2.2.2.1 aj.1 aj.2.1 aj.2.2.1 aj.2.2.2.1 aj.2.2.2.2.1 aj.2.2.2.2.2) λaC=>ae aC (ret (wn (wr ()))) (ret (wr (wI (d.1+1),d.2)))) no) no) no) no) no) no) no) no) no) (ret (wn (wn ((d.1,y0),d.2))))
def Kd:=bw (Kc mC dm) 2000
def CA (sZ:yY)(l_3:LT jf rm)(d:rj):Pg Gf:=let n3:=d.2.2.2;let n6:=n3.1.2.2.2.2;let n9:=n6.2.2.2.2.2.2.2.2.2.2.2.2;let n5:=n3.2.2.2.2;let n1:=n5.2.2.2;let aT:=n1.2.2;let n4:=aT.2.2;let n8:=n4.2.2.2.2;let n2:=n8.2.2.2.2.2;let n7:=n2.2.2.2.2.2;ae (ww n6.1.2 n6.1.2) (ae (ww n9 n9) (ae (ww n5.1.2.2.1 n5.1.2.2.1) (ae (ww n5.2.1.2.2.1 n5.2.1.2.2.1) (ae (ww n5.2.2.1.2.2.1 n5.2.2.1.2.2.1) (ae (ww n1.1.2.2.1 n1.1.2.2.1) (ae (ww n1.2.1.2.2.1 n1.2.1.2.2.1) (ae (ww aT.1.2.2.1 aT.1.2.2.1) (ae (ww n4.1.2.2 n4.1.2.2) (opt (sZ ((n3.1.1,n3.1.2.1,n3.1.2.2.1,n3.1.2.2.2.1,n6.1.2,n6.2),n3.2.1,n3.2.2.1,(sh8 n6.1.1 n3.2.2.2.1.2),n5.1,n5.2.1,n5.2.2.1,n1.1,n1.2.1,aT.1,aT.2.1,n4.1,(atQ 0 n4.2.1.2),(vo 0 n4.2.2.1.2),(vo 0 n4.2.2.2.1.2),(vo 0 n8.1.2),(vo 0 n8.2.1.2),(vo 0 n8.2.2.1.2),(vo 0 n8.2.2.2.1.2),λj=>n2.1 (0+j),λj=>n2.2.1 (0+j),λj=>n2.2.2.1 (0+j),λj=>n2.2.2.2.1 (0+j),λj=>n2.2.2.2.2.1 (0+j),λj=>n7.1 (0+j),λj=>n7.2.1 (0+j),λj=>n7.2.2.1 (0+j),λj=>n7.2.2.2.1 (0+j),λj=>n7.2.2.2.2.1 (0+j),λj=>n7.2.2.2.2.2 (0+j))) λbx=>ae bx.2.2.1 (ret false) (ae (bx.1==3) (ret false) (ae (decide (bx.1>=2)) (ae (!bx.2.2.2.1) (ret false) (opt (l_3 (0,d.2.1,bx,n3)) λx=>sum x (λd=>ret false) λd=>ret true)) (opt (l_3 (0,d.2.1,bx,n3)) λx=>sum x (λd=>ret false) λd=>ret true)))) no) no) no) no) no) no) no) no) no
def PC (aLG:ahK)(aOJ:an7)(anS:QZ)(sZ:yY)(eB:LT lg wZ)(qo:LT gV ri)(GM:LT lk rj)(l_3:LT jf rm)(x:oT.B):Pg Gf:=let n8:=x.1.2.2.2.2;let n24:=n8.1.2.2;let n20:=n8.2.1.2;opt aLG λd=>ae (!d) (ret false) (opt (eB ((x.2,0),x.1.2.2.1,x.1.2.2.2.1,n8.1.1,n8.1.2.1,n24.1,n24.2.1,n24.2.2.1,n24.2.2.2,n8.2.1.1,n20.1,n20.2.1,n20.2.2.1,n20.2.2.2.1,n20.2.2.2.2,n8.2.2.1,n8.2.2.2.1,n8.2.2.2.2.2)) λd=>let n25:=d.2.2;let bp:=n25.2.2.2;let n6:=bp.2.2.2.2.2;let bq:=n6.2.2.2.2.2;let n2:=(n25.2.1,n25.2.2.1,bp.1,bp.2.1,bp.2.2.1,bp.2.2.2.1);let n1:=(bp.2.2.2.2.1,n6.1,n6.2.1,n6.2.2.1,n6.2.2.2.1,n6.2.2.2.2.1);opt (aOJ (8000,0,d.2.1,n25.1,n2,n1,bq.1,bq.2.1,20000,bq.2.2)) λaj=>ae (match aj with|wr val=>true|wn val=>false) (opt (match aj with|wr a=>some a|wn val=>none) λaC=>opt (anS (8000,0,d.2.1,n25.1,n2,n1,bq.1,bq.2.1,20000,bq.2.2)) λd=>ret !d) (opt (match aj with|wn b=>some b|wr val=>none) λaC=>let n21:=aC.1.2.2;let aT:=n21.2.2.2.2;let n22:=aT.2.2.2;let n7:=aC.2.2.2;let bI:=n7.2.2.2.2.2;let n4:=n22.2.2.2.2;let n23:=n4.2.2.2;let n9:=n23.2.2.2.2;let n19:=n9.2.2.2.2;let n3:=bI.2.2.2.2;let n16:=n3.2.1;let bf:=n3.2.2;let n17:=bf.2.1;let n5:=bf.2.2;let n18:=n5.2.1;let n15:=n5.2.2;opt (qo ((d.1.1,0),(0,0,false),d.2,((aC.1.1,aC.1.2.1,n21.1,n21.2.1,(n21.2.2.1,n21.2.2.2.1,aT.1,aT.2.1,aT.2.2.1,n22.1),(n22.2.1,n22.2.2.1,n22.2.2.2.1,n4.1,n4.2.1,n4.2.2.1),n23.1,n23.2.1,n23.2.2.1,n23.2.2.2.1,n9.1,n9.2.1,n9.2.2.1,n9.2.2.2.1,n19.1,n19.2.1),n19.2.2.1,n19.2.2.2.1,n19.2.2.2.2,(0,0),(0,0,false,false),false,0,(0,0,0),false,false,false,0,0,0,((1073741824,0,0,0),(0,0,0),0,0,0),0),((aC.2.1.1,aC.2.1.2.1,aC.2.1.2.2.1),aC.2.1.2.2.2),(aC.2.2.1,(0,0,(0,0,0),0,0,0),false),(0,n7.1,n7.1,n7.1,n7.1,n7.1,n7.1,n7.1,n7.1),((0,0,0,0,0),n7.2.1,0, -9223372036854775808),((0,0,0,0,0),n7.2.2.1,0, -9223372036854775808),((0,0,0,0,0),n7.2.2.2.1,0, -9223372036854775808),((0,0,0,0,0),n7.2.2.2.2.1,0, -9223372036854775808),((0,0,0,0,0),bI.1,0, -9223372036854775808),((0,0,0,0,0),bI.2.1,0, -9223372036854775808),(bI.2.2.1,0),(bI.2.2.2.1.1,bI.2.2.2.1.2,0),(0,n7.1,n7.1,n7.1,n7.1,n7.1,n7.1,n7.1,n7.1,n7.1,n7.1),(0,n3.1,n3.1,n3.1,n3.1,n3.1,n3.1,n3.1,n3.1,n3.1),(0,n16,n16,n16,n16,n16,n16,n16,n16,n16),(0,bf.1,bf.1,bf.1,bf.1,bf.1,bf.1,bf.1,bf.1,bf.1),(0,n17,n17,n17,n17,n17,n17,n17,n17,n17),(0,n5.1,n5.1,n5.1,n5.1,n5.1,n5.1,n5.1,n5.1,n5.1),(0,n18,n18,n18,n18,n18,n18,n18,n18,n18),0,n15,n15,n15,n15,n15,n15,n15,n15,n15,n15,n15)) λx=>sum x (λd=>ae (decide (d.2.1.1>562949953421312)) (ret true) (opt (GM (0,(d.2.1.1,d.1.2.2.2.2.2.1,d.2.1.2),d.2.2)) (CA sZ l_3))) λx=>sum x (λd=>ae (decide (d.2.1.1>562949953421312)) (ret true) (opt (GM (0,d.2)) (CA sZ l_3))) λd=>ae (decide (d.2.1.1>562949953421312)) (ret true) (opt (GM (0,d.2)) (CA sZ l_3))))
def vQ:=λx=>(PC Vb FE oJ gk J8 J' Kb Kd x).val
abbrev rn:=ahK×an7×QZ×M'×wY×yY×Fv×lS×(LT lg wZ)×(LT gV ri)×(LT lk rj)×(LT jf rm)
def vR (p:rn):KK:=⟨[awI p.1,aBg p.2.1,anq p.b.1,aaA p.b.2.1,J3 p.c.1,Ft p.c.2.1,Rl p.c.b.1,tv p.c.b.2.1],⟨[⟨7,(0::6::7::rg 9 5 (rg 15 108 [])),[(0,[])]⟩,⟨14,(0::2::5::rg 9 5 (rg 15 108 [])),[(0,[])]⟩,⟨21,(0::1::2::4::5::7::rg 9 5 (rg 15 108 [])),[(0,[])]⟩,⟨28,(rg 0 6 (7::8::rg 11 112 [])),[(0,[])]⟩],[fY 7 0 lg YK p.d.1,fY 14 0 gV YL p.d.2.1,fY 21 0 lk YM p.d.b.1,fY 28 0 jf YN p.d.b.2],[],[],(some ⟨0,(rg 0 4 (rg 5 118 [])),[]⟩)⟩,0,3⟩
theorem apt (p:rn):LI (vR p) 7 lg YK (J7):=λ_ d c K=>by kernel_rfl
theorem apu (p:rn):LI (vR p) 14 gV YL (J9 p.b.2.1):=λ_ d c K=>by kernel_rfl
theorem apv (p:rn):LI (vR p) 21 lk YM (Ka p.c.1):=λ_ d c K=>by kernel_rfl
theorem apw (p:rn):LI (vR p) 28 jf YN (Kc p.c.b.1 p.c.b.2.1):=λ_ d c K=>by kernel_rfl
theorem ayL (p:rn):D2 (vR p) oT (lf Nf) λb=>PC p.1 p.2.1 p.b.1 p.c.2.1 p.d.1 p.d.2.1 p.d.b.1 p.d.b.2 b:=λb=>by kernel_rfl
abbrev vS:rn:=(Vb,FE,oJ,jE,cX,gk,mC,dm,J8,J',Kb,Kd)
theorem ayM [ax]:SC (ayK vQ):=sc (kS (k:=vR vS) (.c aLF (.c aOe (.c aAY (.c awr (.c YH (.c Rk (.c anC (.c AU (.nil _))))))))) [7,14,21,28] [] ⟨kL (apt vS),⟨kL (apu vS),⟨kL (apv vS),⟨kL (apw vS),trivial⟩⟩⟩⟩ trivial (ayL vS))
end Go.Proofs.YtldgljclcgaibaaGreat
namespace Go.Proofs.YtldgljclcgaibaaGreat
open Go.Ab Go.Ab.Pg
theorem IS.mono {N:Nat}{B k l:Int}{q:Nat×Nat}{T S:Int}{a:Bool}{row:Nat->Int}{b0 b1 b2 b3 b4 b5:Bf}{p:Int×Int×Nat}(h:IS N B k q T S a row b0 b1 b2 b3 b4 b5 p)(e:k<=l):IS N B l q T S a row b0 b1 b2 b3 b4 b5 p:=⟨As h.1 e,h.2⟩
def Js (N:Nat)(B k:Int)(d:gV.B):Prop:=IS N B (k) d.b.2.1.c.1 d.b.2.1.d.c.2.1 d.c.2.1.2.1.1 d.c.2.1.2.2 d.c.b.1.2.1 d.c.b.2.1 d.d.1 d.d.2.1 d.d.b.1 d.d.b.2.1 d.d.c.1 d.d.c.b.1/\Jp d.2.1.1 d.b.2.1.1.2.1 d.b.2.1.1.d.1 d.b.2.1.d.c.1 d.b.2.1.c.1.2 d.c.2.1 d.d.c.2.1/\(∀j,j<d.c.b.2.1.b.1->d.e.1.2.1 j<=d.2.1.1)/\(∀j,j<d.d.1.b.1->d.e.2.1.2.1 j<=d.2.1.1)/\(∀j,j<d.d.2.1.b.1->d.e.b.1.2.1 j<=d.2.1.1)/\(∀j,j<d.d.b.1.b.1->d.e.b.2.1.2.1 j<=d.2.1.1)/\(∀j,j<d.d.b.2.1.b.1->d.e.c.1.2.1 j<=d.2.1.1)/\(∀j,j<d.d.c.1.b.1->d.e.c.2.1.2.1 j<=d.2.1.1)
theorem aUa (N:Nat)(h1:1<=N)(hN:N<=1999)(B:Int)(hB:B<=64)(d:gV.B)(hd:0<=d.1.2/\d.1.2<=20/\Js N B (40*d.1.2) d):Ok (J' d) (λx:ri=>match x with|.inl x=>Js N B 800 (d.1,(x.2.1.1,d.2.1.2),x.2.2)|.inr (.inl x)=>Js N B 800 (d.1,(x.2.1.1,d.2.1.2),x.2.2)|.inr (.inr x)=>Js N B 800 (d.1,(x.2.1.1,d.2.1.2),x.2.2)):=
 aEp (s:=_) (λd:gV.B=>0<=d.1.2/\d.1.2<=20/\Js N B (40*d.1.2) d) (λd:gV.B=>ws (20-d.1.2)) (λx:ri=>match x with|.inl x=>Js N B 800 (d.1,(x.2.1.1,d.2.1.2),x.2.2)|.inr (.inl x)=>Js N B 800 (d.1,(x.2.1.1,d.2.1.2),x.2.2)|.inr (.inr x)=>Js N B 800 (d.1,(x.2.1.1,d.2.1.2),x.2.2)) (λd hd=>by
  obtain⟨i0,i1,is,hJ,c0,c1,c2,c3,c4,c5⟩:=hd;have fin:Js N B 800 d:=⟨is.mono (by omega),hJ,c0,c1,c2,c3,c4,c5⟩;unfold J9;dsimp only;rw[aK];refine⟨λk0=> ?_,λ_=>by rw[av];exact fin⟩;rw[aK];refine⟨λk1=> ?_,λ_=>by rw[av];exact fin⟩;rw[aK];refine⟨λk2=> ?_,λ_=>by rw[av];exact fin⟩;have k0:=eF k0;rw[dJ] at k0;have k1:=eF k1;have r0:bg d.1.2 d.1.1.1=true:=by rw[cm];omega
  have hw:wI (d.1.2+1)=d.1.2+1:=bk;rw[r0,aR];simp only[aM];rw[aK];refine⟨λo1=> ?_,λo1=> ?_⟩
  .rw[aR,aK];refine⟨λ_=> ?_,λlate=> ?_⟩
   .rw[av];exact⟨⟨by show 0<=wI (d.1.2+1);rw[hw];omega,by show wI (d.1.2+1)<=20;rw[hw];omega,is.mono (by show(40*d.1.2:Int)<=40*wI (d.1.2+1);rw[hw];omega),hJ,c0,c1,c2,c3,c4,c5⟩,by show ws (20-wI (d.1.2+1))<ws (20-d.1.2);rw[hw];omega⟩
   .have late:=pf late;repeat rw[aR]
    with_reducible refine ay ((aSK N h1 hN B hB (40*d.1.2) (by omega) d.b.2.1.c.1 d.c.b.1.2.1 _ ?_ ?_ ?_).with (aYw d.2.1.1 _ ?_ ?_ ?_ ?_)) λr _ hr=> ?_
    .rfl
    .rfl
    .exact is
    .rfl
    .exact λ_=>Int.not_lt.mp late
    .exact hJ
    .exact⟨zr c0,zr c1,zr c2,zr c3,zr c4,zr c5⟩
    cases r with
    |inl e=>
     obtain⟨h1',T,t0,_,t2,t3⟩:=hr;subst t0;simp only[aR,dH];rw[av]
     exact⟨⟨by show 0<=wI (d.1.2+1);rw[hw];omega,by show wI (d.1.2+1)<=20;rw[hw];omega,by
      have h:=h1';rw[show 40*d.1.2+40=40*wI (d.1.2+1) by rw[hw];omega] at h;exact h,t2,t3⟩,by show ws (20-wI (d.1.2+1))<ws (20-d.1.2);rw[hw];omega⟩
    |inr e=>
     obtain⟨h1',T,t0,_,t2,t3⟩:=hr;subst t0;simp only[aR,tE,dH];rw[av]
     exact⟨⟨by show 0<=wI (d.1.2+1);rw[hw];omega,by show wI (d.1.2+1)<=20;rw[hw];omega,by
      have h:=h1';rw[show 40*d.1.2+40=40*wI (d.1.2+1) by rw[hw];omega] at h;exact h,t2,t3⟩,by show ws (20-wI (d.1.2+1))<ws (20-d.1.2);rw[hw];omega⟩
  .have o1:=akr o1;repeat rw[aR]
   with_reducible refine ay ((aSK N h1 hN B hB (40*d.1.2) (by omega) d.b.2.1.c.1 d.c.b.1.2.1 _ ?_ ?_ ?_).with (aYw d.2.1.1 _ ?_ ?_ ?_ ?_)) λr _ hr=> ?_
   .rfl
   .rfl
   .exact is
   .rfl
   .exact λq=>absurd q o1
   .exact hJ
   .exact⟨zr c0,zr c1,zr c2,zr c3,zr c4,zr c5⟩
   cases r with
   |inl e=>
    obtain⟨h1',T,t0,_,t2,t3⟩:=hr;subst t0;simp only[aR,dH];rw[av]
    exact⟨⟨by show 0<=wI (d.1.2+1);rw[hw];omega,by show wI (d.1.2+1)<=20;rw[hw];omega,by
     have h:=h1';rw[show 40*d.1.2+40=40*wI (d.1.2+1) by rw[hw];omega] at h;exact h,t2,t3⟩,by show ws (20-wI (d.1.2+1))<ws (20-d.1.2);rw[hw];omega⟩
   |inr e=>
    obtain⟨h1',T,t0,_,t2,t3⟩:=hr;subst t0;simp only[aR,tE,dH];rw[av]
    exact⟨⟨by show 0<=wI (d.1.2+1);rw[hw];omega,by show wI (d.1.2+1)<=20;rw[hw];omega,by
     have h:=h1';rw[show 40*d.1.2+40=40*wI (d.1.2+1) by rw[hw];omega] at h;exact h,t2,t3⟩,by show ws (20-wI (d.1.2+1))<ws (20-d.1.2);rw[hw];omega⟩
) 2000 d hd (by omega)
theorem aOK (N:Nat)(h1:1<=N)(hN:N<=1999)(B:Int)(hB:B<=64)(k:Int)(hk:k<=1900)(q:Nat×Nat)(row:Nat->Int)(x:fO.B)(e1:x.2.1.c.1=q.2)(e2:x.c.1.1=λi=>row (q.1+i))(h:IS N B k q x.2.1.d.c.2.1 x.b.2.1.2.1.1 x.b.2.1.2.2 row x.c.2.1 x.c.b.1 x.c.b.2.1 x.d.1 x.d.2.1 x.d.b.1 x.d.c.1):Ok (cX x) (λe:kh=>IS N B (k+1) e.1.c.2.1 e.1.d.c.b.1 e.b.1.2.1.1 e.b.1.2.2 e.b.2.1.2.1 e.c.1 e.c.2.1 e.c.b.1 e.c.b.2.1 e.d.1 e.d.2.1 e.d.b.2.1):=by
 obtain⟨h0,h1',p0,p1,p2,p3,p4,p5,s0,s1⟩:=h;refine(aOA N h1 hN x (by rw[e1];omega) (p0.len hB) (p1.len hB) (p2.len hB) (p3.len hB) (p4.len hB) (p5.len hB) (by rw[s0];exact eW _) s1 (by rw[e1,e2];exact h1')).mono λe he=> ?_;obtain⟨a0,a1,a2,r0,r1,r2,r3,r4,r5,u0,u1⟩:=he;rw[e1] at a0;exact⟨by omega,a1,p0.br r0,p1.br r1,p2.br r2,p3.br r3,p4.br r4,p5.br r5,u0.trans s0,u1⟩
theorem aIO (x:fO.B):Po (cX x) (λe:kh=>e.1.2.1.2.1=x.2.1.1.2.1/\e.1.2.1.d.1=x.2.1.1.d.1/\e.d.b.1.1.c.1=x.d.b.2.1.1.c.1):=by
 haveI i0:Ek x.2.1.1.2.1 x.2.1.1.2.1:=⟨rfl⟩
 haveI i1:Ek x.2.1.1.d.1 x.2.1.1.d.1:=⟨rfl⟩
 haveI i2:Ek x.b.2.1.1 x.b.2.1.1:=⟨rfl⟩
 haveI i3:Ek x.d.b.2.1.1.c.1 x.d.b.2.1.1.c.1:=⟨rfl⟩
 intro e he;obtain⟨v0,v1,v2,v3⟩:=(apq x).h e he;exact⟨v1.h,v2.h,v3.h⟩
theorem aUc (N:Nat)(h1:1<=N)(hN:N<=1999)(B:Int)(hB:B<=64)(L0:Int)(l0:0<=L0)(l1:L0<=562949953421312):∀(d:lk.B) (hd:0<=d.1/\d.1<=8/\IS N B (800+d.1) d.b.2.1.c.1 d.b.2.1.d.c.2.1 d.c.2.1.2.1.1 d.c.2.1.2.2 d.c.b.1.2.1 d.c.b.2.1 d.d.1 d.d.2.1 d.d.b.1 d.d.b.2.1 d.d.c.1 d.d.c.b.1/\d.2.1.1=L0+8000*d.1/\d.b.2.1.1.2.1=0/\d.b.2.1.1.d.1=20000/\d.b.2.1.c.1.2=0/\d.c.2.1.1=8000/\d.c.2.1.2.1.1=d.2.1.1/\0<=d.c.2.1.2.1.2.1/\d.c.2.1.2.1.2.1<=100000/\(∀j,j<6->d.d.c.2.1.1.c.1 j=10000)/\(d.1=0->Jp L0 d.b.2.1.1.2.1 d.b.2.1.1.d.1 d.b.2.1.d.c.1 d.b.2.1.c.1.2 d.c.2.1 d.d.c.2.1/\(∀j,j<d.c.b.2.1.b.1->d.e.1.2.1 j<=L0)/\(∀j,j<d.d.1.b.1->d.e.2.1.2.1 j<=L0)/\(∀j,j<d.d.2.1.b.1->d.e.b.1.2.1 j<=L0)/\(∀j,j<d.d.b.1.b.1->d.e.b.2.1.2.1 j<=L0)/\(∀j,j<d.d.b.2.1.b.1->d.e.c.1.2.1 j<=L0)/\(∀j,j<d.d.c.1.b.1->d.e.c.2.1.2.1 j<=L0))/\(1<=d.1->d.c.b.2.1.b.1=0/\d.d.1.b.1=0/\d.d.2.1.b.1=0/\d.d.b.1.b.1=0/\d.d.b.2.1.b.1=0/\d.d.c.1.b.1=0/\Bd (L0+8000) d.b.2.1.d.c.1/\Lb (L0+8000) d.d.c.2.1.1.1)/\(4<=d.1->(¬d.b.2.1.c.2.1.1=3/\d.b.2.1.c.2.1.b.1=false/\(2<=d.b.2.1.c.2.1.1->d.b.2.1.c.2.1.b.2=true))/\d.b.2.1.d.c.2.1=d.2.1.1)),Ok (Kb d) (λx:rj=>x.2.1.1=L0+64000/\x.b.2.1.1.2.1=0/\x.b.2.1.1.d.1=20000/\x.b.2.1.c.1.2=0/\x.c.2.1.1=8000/\x.c.2.1.2.1.1=x.2.1.1/\0<=x.c.2.1.2.1.2.1/\x.c.2.1.2.1.2.1<=100000/\(∀j,j<6->x.d.c.2.1.1.c.1 j=10000)/\x.c.b.2.1.b.1=0/\x.d.1.b.1=0/\x.d.2.1.b.1=0/\x.d.b.1.b.1=0/\x.d.b.2.1.b.1=0/\x.d.c.1.b.1=0/\Bd (L0+8000) x.b.2.1.d.c.1/\Lb (L0+8000) x.d.c.2.1.1.1/\(¬x.b.2.1.c.2.1.1=3/\x.b.2.1.c.2.1.b.1=false/\(2<=x.b.2.1.c.2.1.1->x.b.2.1.c.2.1.b.2=true))/\x.b.2.1.d.c.2.1=x.2.1.1):=
 bL (λd:lk.B=>ws (8-d.1)) (λd hd=>by
  obtain⟨i0,i1,is,el,g1,g8,gq,gt,gS,gp0,gp1,gw,hz,hl,hs⟩:=hd;unfold Ka;dsimp only;rw[aK];refine⟨λc=> ?_,λc=> ?_⟩
  .have c:=eF c;have hw:wI (d.1+1)=d.1+1:=bk;have hx:wI (d.2.1.1+8000)=L0+8000*d.1+8000:=by rw[fL (by omega) (by omega)];omega
   simp only[aM];repeat rw[aR]
   by_cases k0:d.1=0
   .obtain⟨hJ,c0,c1,c2,c3,c4,c5⟩:=hz k0;have hx0:wI (d.2.1.1+8000)=L0+8000:=by rw[hx,k0];omega
    have el0:d.2.1.1=L0:=by rw[el,k0];omega
    with_reducible refine ay ((aOK N h1 hN B hB (800+d.1) (by omega) d.b.2.1.c.1 d.c.b.1.2.1 _ ?_ ?_ ?_).with ((aSJ L0 _ ?_ ?_ ?_).and ((aT6 L0 (L0+8000) _ ?_ ?_ ?_ ?_ ?_ ?_ ?_ ?_ ?_ ?_ ?_ ?_ ?_ ?_ ?_ ?_).and (aIO _)))) λe _ he=> ?_
    .rfl
    .rfl
    .exact is
    .exact el0
    .exact hJ
    .exact⟨zr c0,zr c1,zr c2,zr c3,zr c4,zr c5⟩
    .exact hx0
    .omega
    .omega
    .omega
    .exact gq
    .exact g1
    .exact zr c0
    .exact zr c1
    .exact zr c2
    .exact zr c3
    .exact zr c4
    .exact zr c5
    .exact λ_=>by show d.c.2.1.2.1.1<L0+8000;rw[gS,el0];omega
    .exact gp0
    .exact gp1
    .exact gt
    obtain⟨hi,⟨T,t0,_,⟨j1,j8,ja,jq,jt,jS,jp0,jp1,_,_,jl,jw⟩,_⟩,⟨sq,b0,b1,b2,b3,b4,b5,st⟩,_⟩:=he;have tT:T=L0+8000:=t0.symm.trans st;subst tT;rw[av,hw];refine⟨⟨by show 0<=d.1+1;omega,by show d.1+1<=8;omega,?_,?_,j1,j8,jq,jt,jS.trans st.symm,jp0,jp1,jw,λn=>absurd n (by show ¬d.1+1=0;omega),λ_=>⟨b0,b1,b2,b3,b4,b5,ja,jl⟩,λn=>absurd n (by show ¬4<=d.1+1;omega)⟩,by show ws (8-(d.1+1))<ws (8-d.1);omega⟩
    .have h:=hi;rw[show 800+d.1+1=800+(d.1+1) by omega] at h;exact h
    .show e.1.1.1=L0+8000*(d.1+1);rw[st,k0];omega
   .obtain⟨m0,m1,m2,m3,m4,m5,ha,hlb⟩:=hl (by omega);with_reducible refine ay ((aOK N h1 hN B hB (800+d.1) (by omega) d.b.2.1.c.1 d.c.b.1.2.1 _ ?_ ?_ ?_).with ((aUb (L0+8000) (L0+8000*d.1+8000) _ ?_ ?_ ?_ ?_ ?_ ?_ ?_ ?_ ?_ ?_ ?_ ?_ ?_ ?_ ?_ ?_ ?_ ?_ ?_ ?_).and (aIO _))) λe _ he=> ?_
    .rfl
    .rfl
    .exact is
    .exact hx
    .exact hlb
    .exact gw
    .omega
    .omega
    .exact gq
    .exact g1
    .exact g8
    .exact ha
    .exact m0
    .exact m1
    .exact m2
    .exact m3
    .exact m4
    .exact m5
    .omega
    .exact λ_=>by show d.c.2.1.2.1.1<L0+8000*d.1+8000;rw[gS,el];omega
    .exact gp0
    .exact gp1
    .exact gt
    obtain⟨hi,⟨s0,sa,stt,b0,b1,b2,b3,b4,b5,sm,sq,t0,t1,t2,t3,tl⟩,v1,v8,vw⟩:=he;have v1:e.1.2.1.2.1=d.b.2.1.1.2.1:=v1;have v8:e.1.2.1.d.1=d.b.2.1.1.d.1:=v8;have sm:e.d.b.1=d.d.c.2.1:=sm;rw[av,hw];refine⟨⟨by show 0<=d.1+1;omega,by show d.1+1<=8;omega,?_,?_,v1.trans g1,v8.trans g8,sq,t0,t1.trans tl.symm,(by show 0<=e.b.1.2.1.2.1;rw[t2];decide),(by show e.b.1.2.1.2.1<=100000;rw[t2];decide),?_,λn=>absurd n (by show ¬d.1+1=0;omega),λ_=>⟨b0,b1,b2,b3,b4,b5,sa,?_⟩,λn=> ?_⟩,by show ws (8-(d.1+1))<ws (8-d.1);omega⟩
    .have h:=hi;rw[show 800+d.1+1=800+(d.1+1) by omega] at h;exact h
    .show e.1.1.1=L0+8000*(d.1+1);rw[tl];omega
    .show∀j,j<6->e.d.b.1.1.c.1 j=10000;rw[sm];exact gw
    .show Lb (L0+8000) e.d.b.1.1.1;rw[sm];exact hlb
    .have n:4<=d.1+1:=n;exact⟨s0 (by omega),stt.trans tl.symm⟩
  .have c:=pf c;have e8:d.1=8:=by omega
   have hLL:=hl (by omega);rw[av];exact⟨by show d.2.1.1=L0+64000;rw[el,e8];omega,g1,g8,gq,gt,gS,gp0,gp1,gw,hLL.1,hLL.2.1,hLL.b.1,hLL.b.2.1,hLL.c.1,hLL.c.2.1,hLL.c.b.1,hLL.c.b.2,hs (by omega)⟩) (λd hd=>by omega)
theorem aOL (x:oO.B)(h0:0<=x.1)(h6:x.1<6):Ok (mC x) (λr:Fu=>r.1=x.d.b.2.1.1.1 (ws x.1)/\r.c.1=x.d.b.2.1.1.c.1 (ws x.1)):=by
 unfold mC yZ;try dsimp only
 show PQ _ _;refine ay (R:=λr:zO=>r.1=x.d.b.2.1.1.1 (ws x.1)/\r.c.1=x.d.b.2.1.1.c.1 (ws x.1)) ?_ λd _ hd=>by rw[av];exact hd
 unfold kC rI;show PQ _ _;have hk:(decide (0<=x.1)&&decide (x.1<6))=true:=by rw[gy h0,gy h6];rfl
 have r0:bg x.1 6=true:=by rw[cm];omega
 have r1:Nat.ble (0+ws x.1*6+6) 36=true:=by rw[eQ];omega
 rw[Qq,dH,hk,show(!true)=false from rfl,tE,r0,aR,r1,aR,av];exact⟨rfl,rfl⟩
theorem aLH (t l:Int)(f:Int)(s:Bool)(k m B:Int)(hl:Bd B l)(h:B+10000<t)(hB:t<=4000000000000000):Ok (dm t l f s k 10000 m) (λr:oH=>r=false):=by
 refine(bl.Ok (aeS t l f s k 10000 m) (Q:=λ_=>True) λ_ _=>trivial).with (R:=λr:oH=>r=false) ?_|>.mono λ_ h=>h.2
 unfold dm oI;show PW _ _;refine bu (R:=λr:w8=>r=false) ?_ λd _ hd=>by rw[hd,aW];exact⟨λc=>Bool.noConfusion c,λ_=>by rw[aP]⟩
 unfold lq qv;show PW _ _;try dsimp only
 rw[aW];refine⟨λ_=>by rw[aP],λ_=> ?_⟩;rw[aW];refine⟨λ_=> ?_,λc=>absurd (pf c) (by omega)⟩;rw[aW];refine⟨λ_=> ?_,λ_=>by rw[aP]⟩;rw[aP];have e1:wU t=t:=by rw[show wU t=(t)%18446744073709551616 from wrap_u64 _];omega
 have e2:wU l=l:=by rw[show wU l=(l)%18446744073709551616 from wrap_u64 _];omega
 have e3:wU (t-l)=t-l:=by rw[show wU (t-l)=(t-l)%18446744073709551616 from wrap_u64 _];omega
 have e4:wU 10000=10000:=by rw[show wU 10000=(10000)%18446744073709551616 from wrap_u64 _];omega
 rw[e1,e2,e3,e4];exact dq (by omega)
theorem aIP (B:Int):∀(d:jf.B) (hd:0<=d.1/\d.1<=6/\Lb B d.d.c.2.1.1.1/\(∀j,j<6->d.d.c.2.1.1.c.1 j=10000)/\B+10000<d.b.1.c.1/\d.b.1.c.1<=4000000000000000),Ok (Kd d) (λx:rm=>match x with|.inl _=>False|.inr _=>True):=
 bL (λd:jf.B=>ws (6-d.1)) (λd hd=>by
  obtain⟨i0,i1,hl,ht,h,hB⟩:=hd;unfold Kc;dsimp only;rw[aK];refine⟨λc=> ?_,λ_=>by rw[av];exact trivial⟩;have c:=eF c;have hw:wI (d.1+1)=d.1+1:=bk;simp only[aM];repeat rw[aR]
  with_reducible refine ay (aOL _ ?_ ?_) λs _ hs=> ?_
  .exact i0
  .exact c
  obtain⟨s0,s4⟩:=hs;have s0:s.1=d.d.c.2.1.1.1 (ws d.1):=s0;have s4:s.c.1=10000:=s4.trans (ht _ (by omega));rw[s4];with_reducible refine ay (aLH _ _ _ _ _ _ B ?_ h hB) λu _ hu=> ?_
  .rw[s0];exact hl _
  rw[hu,tE,av];exact⟨⟨by show 0<=wI (d.1+1);rw[hw];omega,by show wI (d.1+1)<=6;rw[hw];omega,hl,ht,h,hB⟩,by show ws (6-wI (d.1+1))<ws (6-d.1);rw[hw];omega⟩) (λd hd=>by omega)
theorem aYz (w:Nat->Int):∀(d:je.B) (hd:0<=d.1.2.2.2/\d.1.2.2.1=6/\d.2.1=w/\(∀k,d.2.2.1 k=0)/\∀j:Nat,(j:Int)<d.1.2.2.2->d.2.2.2.2.2.2.1 j=w j),Po (Cv d) (λx:qW=>match x with|.inl _=>True|.inr e=>(∀k,e.2.2.1 k=0)/\∀j,j<6->e.2.2.2.2.2.2.1 j=w j):=
 CE (λd hd=>by
  obtain⟨i0,i1,ew,hl,ht⟩:=hd;unfold Cu;dsimp only;rw[aW];refine⟨λc=> ?_,λc=> ?_⟩
  .have c:=eF c;rw[i1] at c;have hw:wI (d.1.2.2.2+1)=d.1.2.2.2+1:=bk i0 (by omega);obtain⟨n,hn⟩:∃n:Nat,d.1.2.2.2=(n:Int):=⟨ws d.1.2.2.2,by omega⟩;have tn:ws d.1.2.2.2=n:=by omega
   rw[cR];intro _;rw[aW];refine⟨λ_=>by rw[aP];exact trivial,λ_=> ?_⟩;rw[aW];refine⟨λ_=>by rw[aP];exact trivial,λ_=> ?_⟩;rw[cR];intro _;rw[cR];intro _;rw[aP,hw,tn];refine⟨by show 0<=d.1.2.2.2+1;omega,i1,ew,λk=> ?_,λj hj=> ?_⟩
   .show(bif ww k n then 0 else d.2.2.1 k)=0;cases ww k n
    .exact hl k
    .rfl
   .have hj:(j:Int)<d.1.2.2.2+1:=hj;show(bif ww j n then d.2.1 n else d.2.2.2.2.2.2.1 j)=w j;cases hb:ww j n with
    |true=>
     have e:j=n:=oZ hb;subst e;show d.2.1 j=w j;rw[ew]
    |false=>
     have ne:j≠n:=λq=>by rw[q,NL] at hb;cases hb
     exact ht j (by omega)
  .have c:=pf c;rw[i1] at c;rw[aP];exact⟨hl,λj hj=>ht j (by omega)⟩)
theorem a1p (x0:Int)(x1:Nat)(w:Nat->Int)(w0:Bool):Po (qX x0 x1 w w0) (λr:vN=>match r with|.inl _=>True|.inr e=>(∀k,e.1 k=0)/\∀j,j<6->e.c.1 j=w j):=by
 unfold qX F9;show PW _ _;try dsimp only
 rw[aW];refine⟨λ_=>by rw[aP];exact trivial,λ_=> ?_⟩;rw[aW];refine⟨λ_=>by rw[aP];exact trivial,λ_=> ?_⟩;rw[aW];refine⟨λ_=>by rw[aP];exact trivial,λc=> ?_⟩
 have c:wl x1=6:=by
  have c:(!(wl x1==6))=false:=c;rw[ae9] at c;exact eq_of_beq c
 repeat (rw[cR];intro _)
 refine bu (aYz w _ ⟨eW 0,c,rfl,λ_=>rfl,λj hj=>absurd hj (by show ¬(j:Int)<0;omega)⟩) λy _ hy=> ?_;rw[hX];refine⟨λa ha=>by rw[aP];exact trivial,λa ha=> ?_⟩;subst ha;rw[aP];exact hy
theorem a1q (x0:Int):Po (tX x0) (λr:Dh=>match r with|.inl _=>True|.inr e=>e=x0):=by
 unfold tX IG;show PW _ _;try dsimp only
 repeat' (first
  |(rw[kn];exact trivial)
  |(rw[hX];refine⟨λa ha=> ?_,λa ha=> ?_⟩<;>subst ha)
  |(rw[pZ];refine⟨λa ha=> ?_,λa ha=> ?_⟩<;>subst ha)
  |(rw[aW];refine⟨λc=> ?_,λc=> ?_⟩)
  |(rw[du];intro _ _))
 all_goals (rw[aP]<;>first|exact trivial|exact rfl)
theorem aYA (x:J1.B)(h0:x.c.2.1.1=10000)(h1:x.c.2.1.2.1=10000)(h2:x.c.2.1.b.1=10000)(h3:x.c.2.1.b.2.1=10000)(h4:x.c.2.1.c.1=10000)(h5:x.c.2.1.c.2=10000):Po (zZ x) (λr:Pq=>match r with|.inl _=>True|.inr e=>e.1.2.1=x.2.1/\e.1.e.b.1=x.d.1/\e.b.1=x.1/\(∀k,e.d.b.1.1 k=0)/\(∀j,j<6->e.d.b.1.c.1 j=10000)):=by
 unfold zZ Yv;try dsimp only
 show PW _ _;try dsimp only
 repeat' (first
  |(with_reducible refine bu (a1p _ _ _ _) λhn _ hhn=> ?_)
  |(with_reducible refine bu (a1q _) λdn _ hdn=> ?_)
  |(rw[kn];exact trivial)
  |(rw[hX];refine⟨λa ha=> ?_,λa ha=> ?_⟩<;>subst ha)
  |(rw[pZ];refine⟨λa ha=> ?_,λa ha=> ?_⟩<;>subst ha)
  |(rw[aW];refine⟨λc=> ?_,λc=> ?_⟩)
  |(rw[du];intro _ _))
 all_goals
  rw[aP];first
  |exact trivial
  |(refine⟨rfl,rfl,hdn,hhn.1,λj hj=> ?_⟩
    rw[hhn.2 j hj];have cs:j=0∨j=1∨j=2∨j=3∨j=4∨j=5:=by omega
    rcases cs with rfl|rfl|rfl|rfl|rfl|rfl
    .exact h0
    .exact h1
    .exact h2
    .exact h3
    .exact h4
    .exact h5)
theorem aUd:∀(d:lg.B) (hd:0<=d.1.2/\d.1.2<=6/\(0<d.1.2->d.d.2.1=10000)/\(1<d.1.2->d.d.b.1=10000)/\(2<d.1.2->d.d.b.2.1=10000)/\(3<d.1.2->d.d.c.1=10000)/\(4<d.1.2->d.d.c.2.1=10000)/\(5<d.1.2->d.d.c.b.1=10000)),Ok (J8 d) (λx:wZ=>x.d.2.1=10000/\x.d.b.1=10000/\x.d.b.2.1=10000/\x.d.c.1=10000/\x.d.c.2.1=10000/\x.d.c.b.1=10000):=
 bL (λd:lg.B=>ws (6-d.1.2)) (λd hd=>by
  obtain⟨i0,i1,t0,t1,t2,t3,t4,t5⟩:=hd;unfold J7;dsimp only;rw[aK];refine⟨λc=> ?_,λc=> ?_⟩
  .have c:=eF c;have hw:wI (d.1.2+1)=d.1.2+1:=bk;have r0:bg d.1.2 6=true:=by rw[cm];omega
   rw[r0,aR];have ms:ws (6-wI (d.1.2+1))<ws (6-d.1.2):=by rw[hw];omega
   have b0:0<=wI (d.1.2+1):=by rw[hw];omega
   have b1:wI (d.1.2+1)<=6:=by rw[hw];omega
   repeat' (first
    |(rw[aK];refine⟨λq=> ?_,λq=> ?_⟩<;>first|have q:=eq_of_beq q|have q:=akr q))
   .rw[av];exact⟨⟨b0,b1,λq=>t0 (by have q:0<wI (d.1.2+1):=q;rw[hw] at q;omega),λq=>t1 (by have q:1<wI (d.1.2+1):=q;rw[hw] at q;omega),λq=>t2 (by have q:2<wI (d.1.2+1):=q;rw[hw] at q;omega),λq=>t3 (by have q:3<wI (d.1.2+1):=q;rw[hw] at q;omega),λq=>t4 (by have q:4<wI (d.1.2+1):=q;rw[hw] at q;omega),λ_=>rfl⟩,ms⟩
   .rw[av];exact⟨⟨b0,b1,λq=>t0 (by have q:0<wI (d.1.2+1):=q;rw[hw] at q;omega),λq=>t1 (by have q:1<wI (d.1.2+1):=q;rw[hw] at q;omega),λq=>t2 (by have q:2<wI (d.1.2+1):=q;rw[hw] at q;omega),λq=>t3 (by have q:3<wI (d.1.2+1):=q;rw[hw] at q;omega),λ_=>rfl,λq=>t5 (by have q:5<wI (d.1.2+1):=q;rw[hw] at q;omega)⟩,ms⟩
   .rw[av];exact⟨⟨b0,b1,λq=>t0 (by have q:0<wI (d.1.2+1):=q;rw[hw] at q;omega),λq=>t1 (by have q:1<wI (d.1.2+1):=q;rw[hw] at q;omega),λq=>t2 (by have q:2<wI (d.1.2+1):=q;rw[hw] at q;omega),λ_=>rfl,λq=>t4 (by have q:4<wI (d.1.2+1):=q;rw[hw] at q;omega),λq=>t5 (by have q:5<wI (d.1.2+1):=q;rw[hw] at q;omega)⟩,ms⟩
   .rw[av];exact⟨⟨b0,b1,λq=>t0 (by have q:0<wI (d.1.2+1):=q;rw[hw] at q;omega),λq=>t1 (by have q:1<wI (d.1.2+1):=q;rw[hw] at q;omega),λ_=>rfl,λq=>t3 (by have q:3<wI (d.1.2+1):=q;rw[hw] at q;omega),λq=>t4 (by have q:4<wI (d.1.2+1):=q;rw[hw] at q;omega),λq=>t5 (by have q:5<wI (d.1.2+1):=q;rw[hw] at q;omega)⟩,ms⟩
   .rw[av];exact⟨⟨b0,b1,λq=>t0 (by have q:0<wI (d.1.2+1):=q;rw[hw] at q;omega),λ_=>rfl,λq=>t2 (by have q:2<wI (d.1.2+1):=q;rw[hw] at q;omega),λq=>t3 (by have q:3<wI (d.1.2+1):=q;rw[hw] at q;omega),λq=>t4 (by have q:4<wI (d.1.2+1):=q;rw[hw] at q;omega),λq=>t5 (by have q:5<wI (d.1.2+1):=q;rw[hw] at q;omega)⟩,ms⟩
   .rw[av];exact⟨⟨b0,b1,λ_=>rfl,λq=>t1 (by have q:1<wI (d.1.2+1):=q;rw[hw] at q;omega),λq=>t2 (by have q:2<wI (d.1.2+1):=q;rw[hw] at q;omega),λq=>t3 (by have q:3<wI (d.1.2+1):=q;rw[hw] at q;omega),λq=>t4 (by have q:4<wI (d.1.2+1):=q;rw[hw] at q;omega),λq=>t5 (by have q:5<wI (d.1.2+1):=q;rw[hw] at q;omega)⟩,ms⟩
  .have c:=pf c;rw[av];exact⟨t0 (by omega),t1 (by omega),t2 (by omega),t3 (by omega),t4 (by omega),t5 (by omega)⟩) (λd hd=>by omega)
theorem aUe (x:KL.B)(h0:x.c.2.1.1=10000)(h1:x.c.2.1.2.1=10000)(h2:x.c.2.1.b.1=10000)(h3:x.c.2.1.b.2.1=10000)(h4:x.c.2.1.c.1=10000)(h5:x.c.2.1.c.2=10000):Po (FE x) (λr:RL=>match r with|.inl _=>True|.inr e=>e.1.2.1=x.2.1/\e.1.e.b.1=x.d.1/\e.b.1=x.1/\(∀k,e.d.b.1.1 k=0)/\(∀j,j<6->e.d.b.1.c.1 j=10000)):=by
 unfold FE aay;show PW _ _;rw[du];intro r hr;have k:=aYA x h0 h1 h2 h3 h4 h5 r hr;cases r with
 |inl a=>
  rw[aW];refine⟨λ_=> ?_,λc=>Bool.noConfusion c⟩;rw[du];intro _ _;rw[aP];exact trivial
 |inr a=>
  rw[aW];refine⟨λc=>Bool.noConfusion c,λ_=> ?_⟩;rw[du];intro b hb;have hb:=NJ hb;subst hb;rw[aP];exact k
theorem aUf (x:mB.B):Ok (gk x) (λr:sN=>r.2.2.2.2.1=x.1.2.2.2.2.2.2.2.2.2.2.2.2.2.1):=by
 unfold gk sO;try dsimp only
 show PQ _ _;repeat' (first|(rw[bA];intro _ _))
 rw[av]
theorem aUg (x:mB.B):Ok (gk x) (λr:sN=>(r.1,r.2.1,r.b.1,r.b.2.1)=x.1.c.2.1):=by
 refine(bl.Ok (aoi x) (Q:=λ_=>True) λ_ _=>trivial).with (R:=λr:sN=>(r.1,r.2.1,r.b.1,r.b.2.1)=x.1.c.2.1) ?_|>.mono λ_ h=>h.2
 unfold gk sO;try dsimp only
 show PW _ _;rw[du];intro _ _;rw[du];intro _ _;rw[aP]
theorem aHm (x:oT.B):Ok (vQ x) (λr:Gf=>r=true):=by
 unfold vQ PC;try dsimp only
 show PQ _ _;rw[show Vb=some true from rfl,dH,show(!true)=false from rfl,tE];refine ay (aUd _ ⟨eW 0,(show(0:Int)<=6 by decide),λq=>absurd q (show ¬(0:Int)<0 by decide),λq=>absurd q (show ¬(1:Int)<0 by decide),λq=>absurd q (show ¬(2:Int)<0 by decide),λq=>absurd q (show ¬(3:Int)<0 by decide),λq=>absurd q (show ¬(4:Int)<0 by decide),λq=>absurd q (show ¬(5:Int)<0 by decide)⟩) λd _ hd=> ?_;obtain⟨t0,t1,t2,t3,t4,t5⟩:=hd;with_reducible refine ay ((aT9 _).with (aUe _ ?_ ?_ ?_ ?_ ?_ ?_)) λr _ hr=> ?_
 .exact t0
 .exact t1
 .exact t2
 .exact t3
 .exact t4
 .exact t5
 cases r with
 |inl a=>
  have aOI:=hr.1;simp only[aR,dH];rw[show oJ _=some false from aOI,dH,av];rfl
 |inr a=>
 obtain⟨⟨⟨b0,b1,o0,o1⟩,s0,s1,s2,s3,s4,s5,u⟩,f1,f8,f2,fl,ft⟩:=hr;have b0:1<=d.2.1:=b0;have b1:d.2.1<=64:=b1;have o0:1<=d.e.c.1:=o0;have o1:d.e.c.1<=64:=o1;simp only[tE,dH];obtain⟨N,hN⟩:∃N:Nat,d.e.c.1=(N:Int):=⟨ws d.e.c.1,(Int.toNat_of_nonneg (by omega)).symm⟩;have pb:∀y:Int,y=d.2.1->Pb d.2.1 ((0,0,0,0,0),y,0, -9223372036854775808):=λy e=>⟨e,by show((0:Nat):Int)<=d.2.1;omega⟩
 with_reducible refine ay (aUa N (by omega) (by omega) d.2.1 b1 _ ⟨?_,?_,?_⟩) λy _ hy=> ?_
 .exact eW 0
 .show(0:Int)<=20;decide
 .exact⟨⟨eW 0,⟨λ_=>eW 0,eW 0,λi k _ h=>absurd h (Nat.not_lt_zero _)⟩,pb _ s0,pb _ s1,pb _ s2,pb _ s3,pb _ s4,pb _ s5,u.trans hN,Nat.zero_le _⟩,⟨f1,f8,⟨eW 0,eW 0⟩,rfl,f2,rfl,eW 0,(show(0:Int)<=100000 by decide),λ_=>rfl,⟨eW 0,(show(0:Int)<=1125899906842624 by decide)⟩,λk=>⟨by show 0<=a.d.b.1.1 k;rw[fl k];decide,by show a.d.b.1.1 k<=0;rw[fl k];decide⟩,ft⟩,λj h=>absurd h (Nat.not_lt_zero j),λj h=>absurd h (Nat.not_lt_zero j),λj h=>absurd h (Nat.not_lt_zero j),λj h=>absurd h (Nat.not_lt_zero j),λj h=>absurd h (Nat.not_lt_zero j),λj h=>absurd h (Nat.not_lt_zero j)⟩
 rw[qc];refine⟨λz hz=> ?_,λz hz=> ?_⟩<;>subst hz
 aZS
 rw[qc];refine⟨λz hz=> ?_,λz hz=> ?_⟩<;>subst hz
 all_goals
  dsimp only[Js] at hy
  obtain⟨is,hJ,c0,c1,c2,c3,c4,c5⟩:=hy;have hJ':=hJ;obtain⟨j1,j8,ja,jq,jt,jS,jp0,jp1,aYv,⟨jL0,jL1⟩,jl,jw⟩:=hJ';rw[aK];refine⟨λ_=>by rw[av],λcl=> ?_⟩;have cl:=pf cl;have cl:z.2.1.1<=562949953421312:=Int.not_lt.mp cl;with_reducible refine ay (aUc N (by omega) (by omega) d.2.1 b1 z.2.1.1 jL0 cl _ ⟨?_,?_,?_,?_,?_,?_,?_,?_,?_,?_,?_,?_,?_,?_,?_⟩) λv _ hv=> ?_
  .exact eW 0
  .show(0:Int)<=8;decide
  .exact is
  .show z.2.1.1=z.2.1.1+8000*0;omega
  .exact j1
  .exact j8
  .exact jq
  .exact jt
  .exact jS
  .exact jp0
  .exact jp1
  .exact jw
  .exact λ_=>⟨hJ,c0,c1,c2,c3,c4,c5⟩
  .exact λn=>absurd n (show ¬(1:Int)<=0 by decide)
  .exact λn=>absurd n (show ¬(4:Int)<=0 by decide)
  unfold CA;try dsimp only
  try dsimp only
  obtain⟨ve,_,_,_,_,_,_,_,vw,_,_,_,_,_,_,_,vl,⟨q0,q2,q3⟩,vt⟩:=hv;simp only[aM];repeat rw[aR]
  with_reducible refine ay ((aUg _).with (aUf _).po) λss _ hss=> ?_
  have hm:(ss.1,ss.2.1,ss.b.1,ss.b.2.1)=v.b.2.1.c.2.1:=hss.1;have hT:ss.c.1=v.b.2.1.d.c.2.1:=hss.2;have m0:ss.1=v.b.2.1.c.2.1.1:=cM (λz=>z.1) hm;have m2:ss.b.1=v.b.2.1.c.2.1.b.1:=cM (λz=>z.b.1) hm;have m3:ss.b.2.1=v.b.2.1.c.2.1.b.2:=cM (λz=>z.b.2) hm;rw[show ss.b.1=false from m2.trans q2,tE,aK];refine⟨λc=>absurd (m0.symm.trans (eq_of_beq c)) q0,λ_=> ?_⟩;rw[aK];refine⟨λc=> ?_,λ_=> ?_⟩
  .have c:=eF c;rw[show ss.b.2.1=true from m3.trans (q3 (by rw[<-m0];exact c)),show(!true)=false from rfl,tE];with_reducible refine ay (aIP (z.2.1.1+8000) _ ⟨?_,?_,?_,?_,?_,?_⟩) λu _ hu=> ?_
   .exact eW 0
   .show(0:Int)<=6;decide
   .exact vl
   .exact vw
   .show z.2.1.1+8000+10000<ss.c.1;rw[hT,vt,ve];omega
   .show ss.c.1<=4000000000000000;rw[hT,vt,ve];omega
   rw[qc];refine⟨λa e=>by subst e;exact absurd hu id,λa e=>by rw[av]⟩
  .with_reducible refine ay (aIP (z.2.1.1+8000) _ ⟨?_,?_,?_,?_,?_,?_⟩) λu _ hu=> ?_
   .exact eW 0
   .show(0:Int)<=6;decide
   .exact vl
   .exact vw
   .show z.2.1.1+8000+10000<ss.c.1;rw[hT,vt,ve];omega
   .show ss.c.1<=4000000000000000;rw[hT,vt,ve];omega
   rw[qc];refine⟨λa e=>by subst e;exact absurd hu id,λa e=>by rw[av]⟩
theorem aYB (x:oT.B):vQ x=some true:=by
 obtain⟨r,e,h⟩:=aHm x;rw[e,h]
end Go.Proofs.YtldgljclcgaibaaGreat
