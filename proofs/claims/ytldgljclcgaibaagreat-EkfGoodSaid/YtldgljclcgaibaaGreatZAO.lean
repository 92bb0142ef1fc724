/-
  Parts of the proof: TWq TGe
-/
import Derived.Test.YtldgljclcgaibaaGreatZAM
import Derived.Test.YtldgljclcgaibaaGreatZAN
open Nat renaming beq→z9
open Int renaming toNat→z4
set_option linter.unusedVariables false
set_option linter.unusedSimpArgs false
set_option maxRecDepth 100000
set_option maxHeartbeats 4000000
namespace Go.Proofs.YtldgljclcgaibaaGreat
open Go.Ab Go.Ab.Pg
theorem a0J (x:zQ.B)(k0:0<=x.1)(k5:x.1<=5):Ok (ux x) (λr:NV=>(x.1=0->r=((x.c.2.1.b.1:Nat):Int))/\(x.1=1->r=((x.c.b.1.b.1:Nat):Int))/\(x.1=2->r=((x.c.b.2.1.b.1:Nat):Int))/\(x.1=3->r=((x.d.1.b.1:Nat):Int))/\(x.1=4->r=((x.d.2.1.b.1:Nat):Int))/\(x.1=5->r=((x.d.b.1.b.1:Nat):Int))):=by
 unfold ux NY;try dsimp only
 show PQ _ _;have hk:(decide (0<=x.1)&&decide (x.1<6))=true:=by rw[dW k0,dW (show x.1<6 by omega)];rfl
 rw[auy,bV,hk];obtain⟨b,_,_⟩:=aJH hk 6 (by omega);simp only[aQ,b];rw[show(!true)=false from rfl,rT,aE];have hl:∀y:xM.B,Dp y=some ((y.1.b.1:Nat):Int):=λy=>rfl
 repeat' (first
  |rw[aE]
  |rw[hl,bV]
  |(rw[aN];refine⟨λc=> ?_,λc=> ?_⟩<;>first|have c:=eq_of_beq c|have c:=ati c))
 all_goals
  rw[aw];refine⟨?_,?_,?_,?_,?_,?_⟩<;>intro h<;>first|rfl|omega
theorem aSe (x:tV.B)(k0:0<=x.1)(k5:x.1<=5):Ok (o6 x) (λr:GI=>(x.1=0->r=x.c.2.1.1)/\(x.1=1->r=x.c.b.1.1)/\(x.1=2->r=x.c.b.2.1.1)/\(x.1=3->r=x.d.1.1)/\(x.1=4->r=x.d.2.1.1)/\(x.1=5->r=x.d.b.1.1)):=by
 unfold o6 GL;try dsimp only
 show PQ _ _;have hk:(decide (0<=x.1)&&decide (x.1<6))=true:=by rw[dW k0,dW (show x.1<6 by omega)];rfl
 rw[auy,bV,hk];obtain⟨b,_,_⟩:=aJH hk 6 (by omega);simp only[aQ,b];rw[show(!true)=false from rfl,rT,aE]
 repeat' (first
  |rw[aE]
  |(rw[aN];refine⟨λc=> ?_,λc=> ?_⟩<;>first|have c:=eq_of_beq c|have c:=ati c))
 all_goals
  rw[aw];refine⟨?_,?_,?_,?_,?_,?_⟩<;>intro h<;>first|rfl|(exfalso;omega)
theorem aZd (f:Nat->Int):dJ (λ_=>0) 0 10 f true=some (λj=>bif z9 j 9 then f 9 else bif z9 j 8 then f 8 else bif z9 j 7 then f 7 else bif z9 j 6 then f 6 else bif z9 j 5 then f 5 else bif z9 j 4 then f 4 else bif z9 j 3 then f 3 else bif z9 j 2 then f 2 else bif z9 j 1 then f 1 else bif z9 j 0 then f 0 else 0):=by kernel_rfl
theorem aU7 {e:Int×Int×Int×Int×Int×Int×Int×Int×Int×Int×Int}(h:OE e)(f:Nat->Int)(hf:f 0=e.2.1/\f 1=e.b.1/\f 2=e.b.2.1/\f 3=e.c.1/\f 4=e.c.2.1/\f 5=e.c.b.1/\f 6=e.c.b.2.1/\f 7=e.d.1/\f 8=e.d.2.1/\f 9=e.d.2.2):Iw (λj=>bif z9 j 9 then f 9 else bif z9 j 8 then f 8 else bif z9 j 7 then f 7 else bif z9 j 6 then f 6 else bif z9 j 5 then f 5 else bif z9 j 4 then f 4 else bif z9 j 3 then f 3 else bif z9 j 2 then f 2 else bif z9 j 1 then f 1 else bif z9 j 0 then f 0 else 0):=by
 have no:∀i k,i≠k->z9 i k=false:=λi k hi=>by
  cases hb:z9 i k with
  |false=>rfl
  |true=>exact absurd (lE hb) hi
 obtain⟨f0,f1,f2,f3,f4,f5,f6,f7,f8,f9⟩:=hf;obtain⟨u,⟨v4,v5,v6⟩,p7,p8,p9⟩:=h;refine⟨?_,λj h4 h24=> ?_⟩
 .show UQ (f 0) (f 1) (f 2) (f 3);rw[f0,f1,f2,f3];exact u
 .have c:j=4∨j=5∨j=6∨j=7∨j=8∨j=9∨10<=j:=by omega
  rcases c with rfl|rfl|rfl|rfl|rfl|rfl|c
  .show -549755813888<=f 4/\f 4<=549755813888;rw[f4];exact v4
  .show -549755813888<=f 5/\f 5<=549755813888;rw[f5];exact v5
  .show -549755813888<=f 6/\f 6<=549755813888;rw[f6];exact v6
  .show -9007199254740992<=f 7/\f 7<=9007199254740992;rw[f7];exact p7
  .show -9007199254740992<=f 8/\f 8<=9007199254740992;rw[f8];exact p8
  .show -9007199254740992<=f 9/\f 9<=9007199254740992;rw[f9];exact p9
  .have b:=aMg j;dsimp only;rw[no j 9 (by omega),no j 8 (by omega),no j 7 (by omega),no j 6 (by omega),no j 5 (by omega),no j 4 (by omega),no j 3 (by omega),no j 2 (by omega),no j 1 (by omega),no j 0 (by omega)];show -box j<=0/\(0:Int)<=box j;omega
theorem aU8 (w:lC.B):∀(d:lC.B) (hd:0<=d.1.2/\d.1.2<=(d.1.1:Nat)/\d.1.1<=64/\OG d.1.1 d.2.2.2.2.1.2/\d.1.1=w.1.1/\d.2=w.2),Ok (Qx d) (λx:BI=>match x with|.inl _=>False|.inr x=>x.1.1=w.1.1/\x.2=w.2):=
 bO (λd:lC.B=>z4 ((d.1.1:Nat)-d.1.2)) (λd hd=>by
  obtain⟨i0,i1,i2,og,e0,e1⟩:=hd;unfold Qw;dsimp only;rw[aN];refine⟨λc=> ?_,λ_=>by rw[aw];exact⟨e0,e1⟩⟩;have c:=dm c;rw[dz] at c;have hw:wI (d.1.2+1)=d.1.2+1:=aW;have hv:wI (d.1.2-1)=d.1.2-1:=dV;have r0:bf d.1.2 d.1.1=true:=by rw[bq];omega
  rw[r0,hw,hv];repeat rw[aE]
  rw[aZd,bV];have oe:=og.1 (z4 d.1.2) (by omega);with_reducible refine aA (axO _ ?_) λg _ hg=> ?_
  .have key:=aU7 oe (λj=>bif z9 j 9 then d.2.2.2.2.1.2.2.2.2.2.2.2.2.2.2.2 (0+z4 d.1.2) else bif z9 j 8 then d.2.2.2.2.1.2.2.2.2.2.2.2.2.2.2.1 (0+z4 d.1.2) else bif z9 j 7 then d.2.2.2.2.1.2.2.2.2.2.2.2.2.2.1 (0+z4 d.1.2) else bif z9 j 6 then d.2.2.2.2.1.2.2.2.2.2.2.2.2.1 (0+z4 d.1.2) else bif z9 j 5 then d.2.2.2.2.1.2.2.2.2.2.2.2.1 (0+z4 d.1.2) else bif z9 j 4 then d.2.2.2.2.1.2.2.2.2.2.2.1 (0+z4 d.1.2) else bif z9 j 3 then d.2.2.2.2.1.2.2.2.2.2.1 (0+z4 d.1.2) else bif z9 j 2 then d.2.2.2.2.1.2.2.2.2.1 (0+z4 d.1.2) else bif z9 j 1 then d.2.2.2.2.1.2.2.2.1 (0+z4 d.1.2) else bif z9 j 0 then d.2.2.2.2.1.2.2.1 (0+z4 d.1.2) else d.2.2.2.2.1.2.2.1 (0+z4 d.1.2)) ⟨cW d.2.2.2.2.1.2.2.1 (dG _),cW d.2.2.2.2.1.2.2.2.1 (dG _),cW d.2.2.2.2.1.2.2.2.2.1 (dG _),cW d.2.2.2.2.1.2.2.2.2.2.1 (dG _),cW d.2.2.2.2.1.2.2.2.2.2.2.1 (dG _),cW d.2.2.2.2.1.2.2.2.2.2.2.2.1 (dG _),cW d.2.2.2.2.1.2.2.2.2.2.2.2.2.1 (dG _),cW d.2.2.2.2.1.2.2.2.2.2.2.2.2.2.1 (dG _),cW d.2.2.2.2.1.2.2.2.2.2.2.2.2.2.2.1 (dG _),cW d.2.2.2.2.1.2.2.2.2.2.2.2.2.2.2.2 (dG _)⟩;exact key
  rw[hg,show(!true)=false from rfl,rT];rw[aN];refine⟨λc1=> ?_,λ_=> ?_⟩
  .have c1:=dm c1;have r1:bf (d.1.2-1) d.1.1=true:=by rw[bq];omega
   rw[aE,r1,aE];rw[aN];refine⟨λc2=> ?_,λ_=> ?_⟩
   .have c2:=dm c2;have lt:=og.2 (z4 d.1.2) (by omega) (by omega);have e:z4 (d.1.2-1)=z4 d.1.2-1:=by omega
    rw[dG,dG,e] at c2
    exact absurd c2 (by
     have lt:d.2.2.2.2.1.2.1 (z4 d.1.2-1)<d.2.2.2.2.1.2.1 (z4 d.1.2):=lt;omega)
   .rw[aw];exact⟨⟨by show 0<=d.1.2+1;omega,by show d.1.2+1<=(d.1.1:Nat);omega,i2,og,e0,e1⟩,by show z4 ((d.1.1:Nat)-(d.1.2+1))<_;omega⟩
  .rw[aw];exact⟨⟨by show 0<=d.1.2+1;omega,by show d.1.2+1<=(d.1.1:Nat);omega,i2,og,e0,e1⟩,by show z4 ((d.1.1:Nat)-(d.1.2+1))<_;omega⟩) (λd hd=>by omega)
def Pk (B:Int)(m:Int)(_:Int)(b:Bf):Prop:=b.2.1=B/\((b.2.2.1:Nat):Int)<=B/\0<=b.1.2.1/\0<=b.1.2.2.1/\0<=b.1.2.2.2.1/\0<=b.1.2.2.2.2/\b.1.1<=m/\b.1.1<=2000000/\b.1.1=b.1.2.1+b.1.2.2.1+b.1.2.2.2.1+b.1.2.2.2.2+(b.2.2.1:Nat)
theorem Pk.clo {B:Int}(hB:B<=64):Clo (Pk B) where
 len:=λh=>by have:=h.2.1;omega
 br:=λh _ k=>by
  obtain⟨a0,a1,a2,a3,a4,a5,a6,a7,a8⟩:=h;obtain⟨_,k1,k2,k3,k4,k5,k6,k7⟩:=k;obtain⟨k8,k9⟩:=k7 a5 (by omega);exact⟨k1.trans a0,by omega,by rw[k4];exact a2,by rw[k5];exact a3,by rw[k6];exact a4,k8,by rw[k3];exact a6,by rw[k3];exact a7,by rw[k3,k4,k5,k6];omega⟩
 pr:=λm0 m1 h k=>by
  obtain⟨a0,a1,a2,a3,a4,a5,a6,a7,a8⟩:=h;rcases k with k|k
  .obtain⟨k1,k2,k3,k4,k5,k6⟩:=k;rw[aW (by omega) (by omega)] at k2;rcases k6 with⟨q1,q2,q3⟩| ⟨q1,q2,q3,q4⟩| ⟨q1,q2,q3⟩
   .rw[aW a2 (by omega)] at q1;exact⟨k1.trans a0,by rw[q3];exact a1,by omega,by omega,by omega,by omega,by omega,by omega,by omega⟩
   .exact⟨k1.trans a0,by omega,by omega,by omega,by omega,by omega,by omega,by omega,by omega⟩
   .rw[aW a3 (by omega)] at q2;exact⟨k1.trans a0,by rw[q3];exact a1,by omega,by omega,by omega,by omega,by omega,by omega,by omega⟩
  .obtain⟨e1,e2⟩:=k;have c1:_=_:=cW (λz=>z.1) e2;have c2:_=_:=cW (λz=>z.2.1) e2;have c3:_=_:=cW (λz=>z.2.2.1) e2;have c4:_=_:=cW (λz=>z.2.2.2.1) e2;have c5:_=_:=cW (λz=>z.2.2.2.2) e2;dsimp only at c1 c2 c3 c4 c5
   rw[aW (by omega) (by omega)] at c1 c4;unfold Pk;rw[e1];refine⟨a0,a1,by omega,by omega,by omega,by omega,by omega,by omega,by omega⟩
 up:=λh=>by
  obtain⟨a0,a1,a2,a3,a4,a5,a6,a7,a8⟩:=h;exact⟨a0,a1,a2,a3,a4,a5,by omega,a7,a8⟩
theorem a0K {B m t:Int}{b:Bf}(hB:B<=64)(h:Pk B m t b):wI (wI (wI (wI (b.1.2.1+b.1.2.2.1)+b.1.2.2.2.1)+b.1.2.2.2.2)+(b.2.2.1:Nat))=b.1.1:=by
 obtain⟨a0,a1,a2,a3,a4,a5,a6,a7,a8⟩:=h;rw[dV (n:=b.1.2.1+b.1.2.2.1) (by omega) (by omega),dV (n:=b.1.2.1+b.1.2.2.1+b.1.2.2.2.1) (by omega) (by omega),dV (n:=b.1.2.1+b.1.2.2.1+b.1.2.2.2.1+b.1.2.2.2.2) (by omega) (by omega),dV (by omega) (by omega)];exact a8.symm
theorem aU9 (m:Int)(w d:lD.B)(hB:w.2.1.b.1<=64)(p0:Pk w.2.1.b.1 m 0 w.d.1)(p1:Pk w.2.1.b.1 m 0 w.d.2.1)(p2:Pk w.2.1.b.1 m 0 w.d.b.1)(p3:Pk w.2.1.b.1 m 0 w.d.b.2.1)(p4:Pk w.2.1.b.1 m 0 w.d.c.1)(p5:Pk w.2.1.b.1 m 0 w.d.c.2.1)(hd:0<=d.1.2/\d.1.2<=6/\d.1.1=w.1.1/\d.2=w.2):Ok (Qz d) (λx:wH=>match x with|.inl _=>False|.inr x=>x.1.1=w.1.1/\x.2=w.2):=
 wN (s:=_) (λd:lD.B=>0<=d.1.2/\d.1.2<=6/\d.1.1=w.1.1/\d.2=w.2) (λd:lD.B=>z4 (6-d.1.2)) (λx:wH=>match x with|.inl _=>False|.inr x=>x.1.1=w.1.1/\x.2=w.2) (λd hd=>by
  obtain⟨i0,i1,e0,e1⟩:=hd;unfold Qy;dsimp only;simp only[aQ];rw[aN];refine⟨λc=> ?_,λ_=>by rw[aw];exact⟨e0,e1⟩⟩;have c:=dm c;have hw:wI (d.1.2+1)=d.1.2+1:=aW;rw[hw,e1];repeat rw[aE]
  with_reducible refine aA (aSe _ ?_ ?_) λca gca hc=> ?_
  .exact i0
  .show d.1.2<=5;omega
  rw[show zU ca.1 ca.2.1 ca.b.1 ca.b.2.1 ca.b.2.2=some (wI (wI (wI (ca.2.1+ca.b.1)+ca.b.2.1)+ca.b.2.2)) from rfl,bV];repeat rw[aE]
  with_reducible refine aA (a0J _ ?_ ?_) λln gl hl=> ?_
  .exact i0
  .show d.1.2<=5;omega
  have key:∃b:Bf,Pk w.2.1.b.1 m 0 b/\ca=b.1/\ln=((b.b.1:Nat):Int):=by
   have kk:d.1.2=0∨d.1.2=1∨d.1.2=2∨d.1.2=3∨d.1.2=4∨d.1.2=5:=by omega
   rcases kk with k0|k1|k2|k3|k4|k5
   .exact⟨w.d.1,p0,hc.1 k0,hl.1 k0⟩
   .exact⟨w.d.2.1,p1,hc.2.1 k1,hl.2.1 k1⟩
   .exact⟨w.d.b.1,p2,hc.b.1 k2,hl.b.1 k2⟩
   .exact⟨w.d.b.2.1,p3,hc.b.2.1 k3,hl.b.2.1 k3⟩
   .exact⟨w.d.c.1,p4,hc.c.1 k4,hl.c.1 k4⟩
   .exact⟨w.d.c.2.1,p5,hc.c.2 k5,hl.c.2 k5⟩
  obtain⟨b,hb,hcb,hlb⟩:=key;have s:=a0K hB hb;have t1:ca.1=wI (wI (wI (wI (ca.2.1+ca.b.1)+ca.b.2.1)+ca.b.2.2)+ln):=by rw[hcb,hlb];exact s.symm
  rw[show(ca.1!=wI (wI (wI (wI (ca.2.1+ca.b.1)+ca.b.2.1)+ca.b.2.2)+ln))=false by rw[<-t1];exact bne_self_eq_false _,rT];repeat rw[aE]
  rw[gl,bV];have t2:¬(ln>w.2.1.b.1):=by rw[hlb];exact Int.not_lt.mpr hb.2.1
  rw[show decide (ln>w.2.1.b.1)=false from cV t2,rT,aw];exact⟨⟨by show 0<=d.1.2+1;omega,by show d.1.2+1<=6;omega,e0,rfl⟩,by show z4 (6-(d.1.2+1))<z4 (6-d.1.2);omega⟩) 2000 d hd (by omega)
theorem aO7 (x:oV.B):Ok (gm x) (λr:zD=>(r.1,r.2.1,r.b.1,r.b.2.1)=x.1.c.2.1/\(r.d.2.1,r.d.b.1,r.d.b.2.1,r.d.c.1)=x.1.d.c.b.2.1.1):=by
 refine(bz.Ok (aoA x) (Q:=λ_=>True) λ_ _=>trivial).with (R:=λr:zD=>(r.1,r.2.1,r.b.1,r.b.2.1)=x.1.c.2.1/\(r.d.2.1,r.d.b.1,r.d.b.2.1,r.d.c.1)=x.1.d.c.b.2.1.1) ?_|>.mono λ_ h=>h.2
 unfold gm zF;try dsimp only
 show PW _ _;rw[bg];intro _ _;rw[bg];intro _ _;rw[aL];exact⟨rfl,rfl⟩
theorem a2w {a b c d:Int}(h:UQ a b c d):(a==0&&(b==0&&(c==0&&(d==0&&true))))=false:=by
 cases e:(a==0&&(b==0&&(c==0&&(d==0&&true)))) with
 |false=>rfl
 |true=>
  rw[cB,cB,cB,cB] at e;obtain⟨e0,e1,e2,e3,_⟩:=e;have e0:=eq_of_beq e0;have e1:=eq_of_beq e1;have e2:=eq_of_beq e2;have e3:=eq_of_beq e3;subst e0 e1 e2 e3;have:=h.2.1;omega
theorem aVa (x:xL.B)(h:x.2.2.2.2.2.2.2.2.2.2.2.1.2.2<=1999):Ok (rX x) (λr:K1=>r=(0+x.2.2.2.2.2.2.2.2.2.2.2.1.2.2,x.2.2.2.2.2.2.2.2.2.2.2.1.2.2,x.2.2.2.2.2.2.2.2.2.2.2.2.2.2.2.2.2.2.2.1,x.2.2.2.2.2.2.2.2.2.2.2.2.2.2.2.2.2.2.2.2.1,x.2.2.2.2.2.2.2.2.2.2.2.2.2.2.2.2.2.2.2.2.2.1,x.2.2.2.2.2.2.2.2.2.2.2.2.2.2.2.2.2.2.2.2.2.2.1,x.2.2.2.2.2.2.2.2.2.2.2.2.2.2.2.2.2.2.2.2.2.2.2.1,x.2.2.2.2.2.2.2.2.2.2.2.2.2.2.2.2.2.2.2.2.2.2.2.2.1,x.2.2.2.2.2.2.2.2.2.2.2.2.2.2.2.2.2.2.2.2.2.2.2.2.2.1,x.2.2.2.2.2.2.2.2.2.2.2.2.2.2.2.2.2.2.2.2.2.2.2.2.2.2.1,x.2.2.2.2.2.2.2.2.2.2.2.2.2.2.2.2.2.2.2.2.2.2.2.2.2.2.2.1,x.2.2.2.2.2.2.2.2.2.2.2.2.2.2.2.2.2.2.2.2.2.2.2.2.2.2.2.2.1,x.2.2.2.2.2.2.2.2.2.2.2.2.2.2.2.2.2.2.2.2.2.2.2.2.2.2.2.2.2)):=by
 unfold rX K4;try dsimp only
 show PQ _ _;rw[aQ,aE];refine aA (R:=λr=>r=(0+x.2.2.2.2.2.2.2.2.2.2.2.1.2.2,x.2.2.2.2.2.2.2.2.2.2.2.1.2.2,x.2.2.2.2.2.2.2.2.2.2.2.2.2.2.2.2.2.2.2.1,x.2.2.2.2.2.2.2.2.2.2.2.2.2.2.2.2.2.2.2.2.1,x.2.2.2.2.2.2.2.2.2.2.2.2.2.2.2.2.2.2.2.2.2.1,x.2.2.2.2.2.2.2.2.2.2.2.2.2.2.2.2.2.2.2.2.2.2.1,x.2.2.2.2.2.2.2.2.2.2.2.2.2.2.2.2.2.2.2.2.2.2.2.1,x.2.2.2.2.2.2.2.2.2.2.2.2.2.2.2.2.2.2.2.2.2.2.2.2.1,x.2.2.2.2.2.2.2.2.2.2.2.2.2.2.2.2.2.2.2.2.2.2.2.2.2.1,x.2.2.2.2.2.2.2.2.2.2.2.2.2.2.2.2.2.2.2.2.2.2.2.2.2.2.1,x.2.2.2.2.2.2.2.2.2.2.2.2.2.2.2.2.2.2.2.2.2.2.2.2.2.2.2.1,x.2.2.2.2.2.2.2.2.2.2.2.2.2.2.2.2.2.2.2.2.2.2.2.2.2.2.2.2.1,x.2.2.2.2.2.2.2.2.2.2.2.2.2.2.2.2.2.2.2.2.2.2.2.2.2.2.2.2.2)) ?_ λd _ hd=>by rw[aw];exact hd
 unfold uv BH;show PQ _ _;try dsimp only
 rw[bL];refine⟨by rw[bZ];omega,?_⟩;rw[aw]
theorem aZe (x:KZ.B):Po (uU x) (λr:Qn=>match r with|.inl _=>qI x=some false|.inr _=>True):=by
 unfold uU ZG;try dsimp only
 show PW _ _;try dsimp only
 rw[bg];intro g hg;rw[aT];refine⟨λc=> ?_,λ_=> ?_⟩
 .have g0:g=false:=by
   cases g with
   |false=>rfl
   |true=>cases c
  rw[aL,<-g0];exact hg
 .repeat' (first
   |(rw[cw];exact trivial)
   |(rw[aT];refine⟨λ_=> ?_,λ_=> ?_⟩)
   |(rw[jY];refine⟨λe0 e1=> ?_,λe0 e1=> ?_⟩)
   |(rw[bg];intro _ _))
  all_goals (rw[aL];exact trivial)
theorem aTp {α:Type}{o:Option α}{v:α}(h:o=some v):Ok o (λr=>r=v):=⟨v,h,rfl⟩
theorem aO8 (x:tW.B):Ok (BJ x) (λr:Z1=>r=true):=by
 unfold BJ Z2;try dsimp only
 show PQ _ _;rw[show Wo=some true from rfl,bV,show(!true)=false from rfl,rT];obtain⟨r,g,hr,aZf,hgf⟩:=(a0l x.1).with ((aZe x.1).and (a2n x.1))
 rw[g,bV];cases r with
 |inl a=>
  have aZf:qI x.1=some false:=aZf;simp only[aE,bV,aZf,aw,Bool.not_false]
 |inr a=>
 simp only[rT,bV];obtain⟨b0,b1,o0,o1,s0,s1,s2,s3,s4,s5,u⟩:=hr;obtain⟨N,hN⟩:∃N:Nat,x.1.2.2.2.2.2.2.2.2.2.2.2.2.1=(N:Int):=⟨z4 x.1.2.2.2.2.2.2.2.2.2.2.2.2.1,(Int.toNat_of_nonneg (by omega)).symm⟩;have hN1:1<=N:=by omega
 have hN:N<=1999:=by omega
 have pw:∀y:Int,y=x.1.2.2.1->Pk x.1.2.2.1 0 0 ((0,0,0,0,0),y,0, -9223372036854775808):=λy e=>⟨e,by show((0:Nat):Int)<=_;omega,(show(0:Int)<=0 by decide),(show(0:Int)<=0 by decide),(show(0:Int)<=0 by decide),(show(0:Int)<=0 by decide),(show(0:Int)<=0 by decide),(show(0:Int)<=2000000 by decide),rfl⟩
 obtain⟨gs,gv⟩:Iw a.1.2.2.2.2.2.2.2.2.2.2.2.2.2.2.2.2.2.2.2.2.2.2.2.2.2.2.2.1/\vh a.1.2.2.2.2.2.2.2.2.2.2.2.2.2.2.2.2.2.2.2.2.2.2.2.2.2.2.2.2:=hgf;with_reducible refine aA ((aZc N hN1 hN (Pk.clo b1) 30 (by decide) _ ?_ ?_ ?_ (pw _ s0) (pw _ s1) (pw _ s2) (pw _ s3) (pw _ s4) (pw _ s5) ?_ ?_).with (a2o _ ⟨?_,?_⟩)) λe ge he=> ?_
 .show 0+40*30<=1998;decide
 .exact .inr (by decide)
 .exact⟨λ_=>fk 0,fk 0,λi k _ h=>absurd h (Nat.not_lt_zero _)⟩
 .show a.2.2.2.2.2.2.2.2.2.2.2.1.1<=(N:Int);omega
 .exact Nat.zero_le _
 .exact⟨gs,gv,.inl ⟨.inl rfl,rfl,rfl,rfl⟩,aD2⟩
 .exact⟨by show a.2.2.2.2.2.2.2.2.2.2.2.1.1<=64;omega,by show 0<=64;decide,OG.none _⟩
 obtain⟨⟨e4,⟨_,eq⟩,⟨m,m0,mK,t0,t1,t2,t3,t4,t5⟩,e12,e13⟩,hg,hb⟩:=he;try dsimp only
 simp only[aQ,aE];with_reducible refine aA (aTp (rfl:vj _=some _)) λst _ hst=> ?_
 subst hst;repeat rw[aE]
 with_reducible refine aA (aO7 _) λss _ hss=> ?_
 with_reducible refine aA (axO _ ?_) λq1 _ h1=> ?_
 .exact hg.1
 rw[h1,show(!true)=false from rfl,rT];with_reducible refine aA (aSb _ _ ?_) λq2 _ h2=> ?_
 .exact hg.2.1
 rw[h2,show(!true)=false from rfl,rT];have hm:(ss.1,ss.2.1,ss.2.2.1,ss.2.2.2.1)=e.2.1.2.2.2.2.2.1:=hss.1;with_reducible refine aA (aTp (aU5 (ss.1,ss.2.1,ss.2.2.1,ss.2.2.2.1) ?_)) λq3 _ h3=> ?_
 .rw[hm];exact hg.2.2.1
 rw[h3,show(!true)=false from rfl,rT];repeat rw[aE]
 with_reducible refine aA (aVa _ ?_) λou _ hou=> ?_
 .show e.2.2.2.2.2.2.2.2.2.2.2.2.1.2.2<=1999;exact dL hb.2.1 (by decide)
 subst hou;refine aA (aU8 _ _ ⟨fk 0,?_,?_,?_,rfl,rfl⟩) λy _ hy=> ?_
 .show(0:Int)<=((0+e.2.2.2.2.2.2.2.2.2.2.2.2.1.2.2:Nat):Int);omega
 .show 0+e.2.2.2.2.2.2.2.2.2.2.2.2.1.2.2<=64;rw[dG];exact hb.2.1
 .show OG (0+e.2.2.2.2.2.2.2.2.2.2.2.2.1.2.2) _;rw[dG];exact hb.2.2.zero
 rw[qQ];refine⟨λz hz=> ?_,λz hz=> ?_⟩
 .subst hz;exact absurd hy id
 subst hz;obtain⟨y0,y1⟩:=hy;rw[y0,y1];refine aA (aU9 m _ _ ?_ ?_ ?_ ?_ ?_ ?_ ?_ ⟨fk 0,(show(0:Int)<=6 by decide),rfl,rfl⟩) λv _ hv=> ?_
 .exact b1
 .exact t0
 .exact t1
 .exact t2
 .exact t3
 .exact t4
 .exact t5
 rw[qQ];refine⟨λz hz=> ?_,λz hz=> ?_⟩
 .subst hz;exact absurd hv id
 subst hz;obtain⟨v0,v1⟩:=hv;rw[v0,v1];try dsimp only
 have ht:(ss.2.2.2.2.2.2.2.2.2.1,ss.2.2.2.2.2.2.2.2.2.2.1,ss.2.2.2.2.2.2.2.2.2.2.2.1,ss.2.2.2.2.2.2.2.2.2.2.2.2.1)=e.2.1.2.2.2.2.2.2.2.2.2.2.2.2.2.2.2.1.1:=hss.2;have nz:=hg.2.2.2
 have nz:UQ ss.2.2.2.2.2.2.2.2.2.1 ss.2.2.2.2.2.2.2.2.2.2.1 ss.2.2.2.2.2.2.2.2.2.2.2.1 ss.2.2.2.2.2.2.2.2.2.2.2.2.1:=by
  have k:=nz;rw[<-ht] at k;exact k
 rw[a2w nz,show(!false)=true from rfl,aE,aw];refine dW ?_;show Int.ofNat (0+e.2.2.2.2.2.2.2.2.2.2.2.2.1.2.2)<=x.1.2.2.2.2.2.2.2.2.2.2.2.2.1;rw[dz];have e13:e.2.2.2.2.2.2.2.2.2.2.2.2.1.2.2<=N:=e13;omega
theorem a2x (x:tW.B):BJ x=some true:=by
 obtain⟨r,e,h⟩:=aO8 x;rw[e,h]
end Go.Proofs.YtldgljclcgaibaaGreat
