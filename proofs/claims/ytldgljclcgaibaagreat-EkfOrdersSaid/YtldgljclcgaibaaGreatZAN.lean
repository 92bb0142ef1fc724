/-
  Parts of the proof: TAk TSi TRu TWt TWq
-/
import Derived.Test.YtldgljclcgaibaaGreatZAE
import Derived.Test.YtldgljclcgaibaaGreatZAM
set_option linter.all false
set_option maxRecDepth 100000
set_option maxHeartbeats 4000000
namespace Go.Proofs.YtldgljclcgaibaaGreat
open Go.Ab Go.Ab.Pg
def Pb (B:Int)(b:Bf):Prop:=b.2.1=B/\((b.2.2.1:Nat):Int)<=B
theorem Pb.br {B T:Int}{b c:Bf}(h:Pb B b)(k:BR T b c):Pb B c:=⟨k.2.1.trans h.1,by have:=k.len;have:=h.2;omega⟩
theorem Pb.pr {B:Int}{b c:Bf}(h:Pb B b)(k:PR b c∨SR b c):Pb B c:=by
 obtain⟨a,l⟩:=h;rcases k with k|k
 .obtain⟨k1,_,_,_,_,k6⟩:=k;refine⟨k1.trans a,?_⟩;rcases k6 with k6|k6|k6
  .rw[k6.2.2];exact l
  .have:=k6.2.2.2;omega
  .rw[k6.2.2];exact l
 .have e:=k.1;exact⟨by rw[e];exact a,by rw[e];exact l⟩
theorem Pb.len {B:Int}{b:Bf}(hB:B<=64)(h:Pb B b):b.2.2.1<=64:=by have:=h.2;omega
theorem aPn (N:Nat)(h1:1<=N)(hN:N<=1999){P:Int->Int->Bf->Prop}(C:Clo P)(K:Nat)(hK:K<=30)(x:Kz.B)(hq:x.2.1.c.1+40*K<=1998)(hn:x.1.1<=K∨30<=K)(tq:Tq x.2.1.d.c.2.1 x.b.2.1.2.1.1 x.b.2.1.2.2 x.2.1.c.1 x.c.1.1)(s0:P 0 x.2.1.d.c.2.1 x.c.2.1)(s1:P 0 x.2.1.d.c.2.1 x.c.b.1)(s2:P 0 x.2.1.d.c.2.1 x.c.b.2.1)(s3:P 0 x.2.1.d.c.2.1 x.d.1)(s4:P 0 x.2.1.d.c.2.1 x.d.2.1)(s5:P 0 x.2.1.d.c.2.1 x.d.b.1)(p0:x.d.c.1.1<=(N:Int))(p1:x.d.c.1.2.2<=N):
  Ok (KA x) (λe:aiQ=>((e.2.1.c.1.2:Nat):Int)<=x.2.1.c.1+40*K/\Tq e.2.1.d.c.2.1 e.b.2.1.2.1.1 e.b.2.1.2.2 e.2.1.c.1.2 (λi=>e.c.1.2.1 (e.2.1.c.1.1+i))/\(∃m:Int,0<=m/\m<=K/\P (m) e.2.1.d.c.2.1 e.c.2.1/\P (m) e.2.1.d.c.2.1 e.c.b.1/\P (m) e.2.1.d.c.2.1 e.c.b.2.1/\P (m) e.2.1.d.c.2.1 e.d.1/\P (m) e.2.1.d.c.2.1 e.d.2.1/\P (m) e.2.1.d.c.2.1 e.d.b.1)/\e.d.c.1.1<=(N:Int)/\e.d.c.1.2.2<=N):=by
 unfold KA auP;try dsimp only
 show PQ _ _;simp only[aM,aC];rw[bD];intro d _;try rw[aC]
 with_reducible refine ay (aSs N h1 hN C x.2.1.c.1 K hK hq _ ⟨?_,?_,?_,hn,?_,s0,s1,s2,s3,s4,s5,p0,p1⟩) λy _ hy=> ?_
 .show(0:Int)<=0;omega
 .show(0:Int)<=K;omega
 .show((x.2.1.c.1:Nat):Int)<=x.2.1.c.1+40*0;omega
 .exact⟨tq.1,tq.2.up (eZ _) (λi=>by first|rfl|(show x.c.1.1 (0+i)=_;rw[eX])|(show x.c.1.1 (0+(0+i))=_;rw[eX,eX]))⟩
 rw[rC];refine⟨λa ha=> ?_,λa ha=> ?_⟩
 .rw[ha] at hy;rw[av];exact hy
 rw[rC];refine⟨λb hb=> ?_,λb hb=> ?_⟩
 .rw[ha,hb] at hy;rw[av];exact hy
 .rw[ha,hb] at hy;rw[av];exact hy
def Pw (B:Int)(_:Int)(T:Int)(b:Bf):Prop:=b.2.1=B/\((b.2.2.1:Nat):Int)<=B/\b.2.2.2<=T
theorem Pw.clo {B:Int}(hB:B<=64):Clo (Pw B) where
 len:=λh=>by have:=h.2.1;omega
 br:=λh t k=>⟨k.2.1.trans h.1,by have:=h.2.1;have:=k.len;omega,k.1 _ (eZ _) (Wg h.2.2 t)⟩
 pr:=λ_ _ h k=>by
  obtain⟨a,b,c⟩:=h;rcases k with k|k
  .obtain⟨k1,_,_,_,k5,k6⟩:=k;refine⟨k1.trans a,?_,by rw[k5];exact c⟩;rcases k6 with k6|k6|k6
   .rw[k6.2.2];exact b
   .rw[<-a];exact k6.2.2.2
   .rw[k6.2.2];exact b
  .have e:=k.1;exact⟨by rw[e];exact a,by rw[e];exact b,by rw[e];exact c⟩
 up:=λh=>h
theorem aVm (x:nV.B):Ok (fR x) (λr:F2=>r.c.1=x.1.d.c.2.1):=by
 unfold fR yJ;try dsimp only
 show PQ _ _;repeat' (first|(rw[bD];intro _ _))
 rw[av]
theorem aHb (x:tf.B)(k0:0<=x.1)(k5:x.1<=5):Ok (oo x) (λr:Gl=>(x.1=0->r=x.c.2.1.1)/\(x.1=1->r=x.c.b.1.1)/\(x.1=2->r=x.c.b.2.1.1)/\(x.1=3->r=x.d.1.1)/\(x.1=4->r=x.d.2.1.1)/\(x.1=5->r=x.d.b.1.1)):=by
 unfold oo Gp;try dsimp only
 show PQ _ _;have hk:(decide (0<=x.1)&&decide (x.1<6))=true:=by rw[dA k0,dA (show x.1<6 by omega)];rfl
 rw[aut,bX,hk];obtain⟨b,_,_⟩:=aOL hk 6 (by omega);simp only[aM,b];rw[show(!true)=false from rfl,xG,aC]
 repeat' (first
  |rw[aC]
  |(rw[aK];refine⟨λc=> ?_,λc=> ?_⟩<;>first|have c:=eq_of_beq c|have c:=ayk c))
 all_goals
  rw[av];refine⟨?_,?_,?_,?_,?_,?_⟩<;>intro h<;>first|rfl|(exfalso;omega)
end Go.Proofs.YtldgljclcgaibaaGreat
