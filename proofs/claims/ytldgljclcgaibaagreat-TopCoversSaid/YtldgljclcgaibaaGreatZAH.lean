/-
  Parts of the proof: PRT PWY PWZ PWQ PRE TA TB TC TD TU TE
-/
import Derived.Test.YtldgljclcgaibaaGreatZAE
import Derived.Test.YtldgljclcgaibaaGreatZAG
open Nat renaming beq→z9,ble→wl
open Int renaming toNat→z4,ofNat→wr,fdiv→v4,tdiv→t8
open BitVec renaming ofInt→wd,toNat→v6
open List renaming append→ul
set_option linter.unusedVariables false
set_option linter.unusedSimpArgs false
set_option maxRecDepth 100000
set_option maxHeartbeats 4000000
namespace Go.Proofs.YtldgljclcgaibaaGreat
open Go.Ab
def isR (r V:Int):Prop:=0<=r/\V<=r*r+r/\(r=0∨r*r-r<V)
theorem aLo {a b:Int}(ha:0<=a)(hb:0<=b):0<=a*b:=pj ha hb
theorem aSM {r s V:Int}(h1:isR r V)(h2:isR s V):s<=r:=by
 obtain⟨a1,a2,a3⟩:=h1;obtain⟨b1,b2,b3⟩:=h2;rcases Kc r s with h|h
 .exfalso
  have p:=aLo (a:=s-r-1) (b:=s+r) (by omega) (by omega);have q:(s-r-1)*(s+r)=s*s-s-(r*r+r):=by grind
  rcases b3 with b3|b3
  .omega
  .omega
 .exact h
theorem aTL {r s V:Int}(h1:isR r V)(h2:isR s V):r=s:=Int.le_antisymm (aSM h2 h1) (aSM h1 h2)
theorem aYw (n:Nat):∃q:Nat,q*q<=n/\n<(q+1)*(q+1):=by
 induction n with
 |zero=>exact⟨0,by omega,by omega⟩
 |succ n ih=>
  obtain⟨q,h1,h2⟩:=ih;by_cases c:n+1<(q+1)*(q+1)
  .exact⟨q,by omega,c⟩
  .refine⟨q+1,by omega,?_⟩;have:(q+1+1)*(q+1+1)=(q+1)*(q+1)+2*q+3:=by grind
   omega
theorem aJb (V:Int)(h:0<=V):∃q:Int,0<=q/\q*q<=V/\V<(q+1)*(q+1):=by
 obtain⟨q,h1,h2⟩:=aYw V.toNat;refine⟨q,by omega,?_,?_⟩
 .have e:((q*q:Nat):Int)=(q:Int)*q:=by simp
  omega
 .have e:(((q+1)*(q+1):Nat):Int)=((q:Int)+1)*(q+1):=by simp
  omega
theorem aF1 {a b:Int}(ha:0<=a)(hb:0<=b)(h:a*a<b*b):a<b:=by
 rcases Kc a b with c|c
 .exact c
 .exfalso
  have:=LK c c hb (by omega);omega
theorem aTM (n:Nat)(hn:n<128):gH 0 1 (wr n)=some (2^n/18446744073709551616,2^n%18446744073709551616):=by
 have key:∀n:Fin 128,gH 0 1 (wr n.val)=some ((2:Int)^n.val/18446744073709551616,(2:Int)^n.val%18446744073709551616):=by decide+kernel
 exact key ⟨n,hn⟩
theorem aJc (a b c d:Int)(b0:0<=b)(b1:b<18446744073709551616)(d0:0<=d)(d1:d<18446744073709551616):
  vO a b c d=some (decide (a*18446744073709551616+b<c*18446744073709551616+d)):=by
 simp only[vO,OO,Pg.bS,Pg.bM,Pg.ck,Pg.dX,Pg.dt];try delta wI wU
 by_cases h:a<c
 .have:a*18446744073709551616+b<c*18446744073709551616+d:=by omega
  simp[h,this]
 .by_cases e:a=c
  .subst e;have:(a*18446744073709551616+b<a*18446744073709551616+d)↔b<d:=by omega
   simp[this]
  .have:¬a*18446744073709551616+b<c*18446744073709551616+d:=by omega
   have e':(a==c)=false:=by simp[e]
   rw[cE h,bq,e',bq,cE this]
theorem ayC (x y c:Int)(x0:0<=x)(x1:x<18446744073709551616)(y0:0<=y)(y1:y<18446744073709551616)(c0:0<=c)(c1:c<=1):adQ x y c=some ((x-y-c)%18446744073709551616,if x<y+c then 1 else 0):=by
 unfold adQ;have h:wl c.toNat 1=true:=axF (by omega);rw[h,bo];congr 1
 unfold aYa aYb;simp only[dH,qT];constructor
 .omega
 .split<;>split<;>omega
theorem aQ4 (a b c d:Int)(a0:0<=a)(a1:a<18446744073709551616)(b0:0<=b)(b1:b<18446744073709551616)(c0:0<=c)(c1:c<18446744073709551616)(d0:0<=d)(d1:d<18446744073709551616)
  (h:c*18446744073709551616+d<=a*18446744073709551616+b):
  ∃h' l',yN a b c d=some (h',l')/\0<=h'/\h'<18446744073709551616/\0<=l'/\l'<18446744073709551616/\h'*18446744073709551616+l'=a*18446744073709551616+b-(c*18446744073709551616+d):=by
 simp only[yN,Mg,Pg.bS,Pg.bM,Pg.ck,Pg.dX,Pg.dt];try delta wI wU
 rw[ayC b d 0 b0 b1 d0 d1 (by omega) (by omega)];simp only[bG,Int.add_zero];by_cases k:b<d
 .rw[if_pos k,ayC a c 1 a0 a1 c0 c1 (by omega) (by omega)];simp only[bG];refine⟨_,_,rfl,?_,?_,?_,?_,?_⟩<;>omega
 .rw[if_neg k,ayC a c 0 a0 a1 c0 c1 (by omega) (by omega)];simp only[bG];refine⟨_,_,rfl,?_,?_,?_,?_,?_⟩<;>omega
theorem aht (h1 l1 h2 l2:Int)(a0:0<=h1)(b0:0<=l1)(c0:0<=h2)(d0:0<=l2)(b1:l1<18446744073709551616)(d1:l2<18446744073709551616)
  (h:h1*18446744073709551616+l1+(h2*18446744073709551616+l2)<340282366920938463463374607431768211456):
  ∃h' l',iY h1 l1 h2 l2=some (h',l')/\0<=h'/\h'<18446744073709551616/\0<=l'/\l'<18446744073709551616/\h'*18446744073709551616+l'=h1*18446744073709551616+l1+(h2*18446744073709551616+l2):=by
 rw[aI9 h1 l1 h2 l2 a0 b0 c0 d0 b1 d1];refine⟨_,_,rfl,?_,?_,?_,?_,?_⟩<;>omega
theorem am3 {m n:Nat}(h:m<=n):(2:Int)^m<=2^n:=by
 have h2:(2:Nat)^m<=2^n:=Nat.pow_le_pow_right (by decide) h;have h3:((2^m:Nat):Int)<=((2^n:Nat):Int):=by exact_mod_cast h2
 simpa using h3
theorem atu (h l:Int)(o:okW h l)(h0:0<=h):∃r,isR r (vW h l)/\r<18446744073709551616/\Mj h l=if r<=9223372036854775807 then some (r,true) else some (0,false):=by
 obtain⟨o1,o2,o3,o4⟩:=o;have v0:0<=vW h l:=by show 0<=h*18446744073709551616+l;omega
 have v1:vW h l<170141183460469231731687303715884105728:=by show h*18446744073709551616+l<_;omega
 have hvv:h*18446744073709551616+l=vW h l:=rfl;generalize vW h l=V at*
 obtain⟨q,q0,q1,q2⟩:=aJb V v0;have qb:q<13043817825332782213:=aF1 q0 (by omega) (by omega);obtain⟨r,hr⟩:∃r,r=if q<V-q*q then q+1 else q:=⟨_,rfl⟩
 have q3:(q+1)*(q+1)=q*q+2*q+1:=by grind
 refine⟨r,?_,by rw[hr];split<;>omega,?_⟩
 .rw[hr];split
  .rename_i c
   exact⟨by omega,by omega,Or.inr (by omega)⟩
  .rename_i c
   refine⟨q0,by omega,?_⟩;rcases Kc 0 q with k|k
   .exact Or.inr (by omega)
   .exact Or.inl (by omega)
 simp only[Mj,agG,Pg.bS,Pg.bM,Pg.ck,Pg.dX,Pg.dt];try delta wI wU
 unfold WT;have n0:decide (h<0)=false:=cE (by omega);have n1:IntKind.wrap .u64 h=h:=by rw[wrap_u64];omega
 rw[n0,bq,n1]
 refine FI (λt d=>∃(p c rh rl sh sl:Int),t<=64/\0<=p/\p=c*2^t/\p*p<=V/\V<(p+2^t)*(p+2^t)/\0<=rh/\rh<18446744073709551616/\0<=rl/\rl<18446744073709551616/\rh*18446744073709551616+rl=V-p*p/\
   0<=sh/\sh<18446744073709551616/\0<=sl/\sl<18446744073709551616/\sh*18446744073709551616+sl=p*2^t/\d=(2*(t:Int)-2,(rh,rl),sh,sl)) ?_ 2000 64 _ (by omega)
  ⟨0,0,h,l,0,0,by omega,by omega,by omega,by omega,by
   have:(2:Int)^64=18446744073709551616:=rfl;omega,by omega,by omega,by omega,by omega,by omega,by omega,by omega,by omega,by omega,by omega,rfl⟩
 rintro t _ k ⟨p,c,rh,rl,sh,sl,t0,p0,pc,p1,p2,r0,r1,r2,r3,r4,s0,s1,s2,s3,s4,rfl⟩ hk
 rcases SO t with z|z
 .subst z;have e1:(2:Int)^0=1:=rfl;rw[e1] at p2 s4
  have pq:p=q:=by
   have h1:p<q+1:=aF1 p0 (by omega) (by omega);have h2:q<p+1:=aF1 q0 (by omega) (by omega);omega
  subst pq;have g0:decide ((2:Int)*((0:Nat):Int)-2>=0)=false:=by decide
  simp only[Mi,Pg.px,Pg.py,Pg.si,Pg.yJ,Pg.pA,mK,jI,g0,bq,aJc sh sl rh rl s2 s3 r2 r3,bG];rw[s4,r4,Int.mul_one];by_cases cc:p<V-p*p
  .rw[dy cc,bo];rw[if_pos cc] at hr;obtain⟨a,b,e2,a0,a1,b0,b1,e3⟩:=aht sh sl 0 1 s0 s2 (by omega) (by omega) s3 (by omega) (by omega);rw[e2,bG,MT a b false a0 b0 b1,e3,hr];have e4:sh*18446744073709551616+sl+(0*18446744073709551616+1)=p+1:=by omega
   rw[e4];have az:a=0:=by omega
   have e5:b=p+1:=by omega
   simp only[xS,fT,e5];by_cases f:p+1<=9223372036854775807
   .rw[if_pos f,bG]
   .rw[if_neg f,bG]
  .rw[cE cc,bq];rw[if_neg cc] at hr;rw[MT sh sl false s0 s2 s3,s4,hr];have az:sh=0:=by omega
   have e5:sl=p:=by omega
   simp only[xS,fT,Int.mul_one,e5];by_cases f:p<=9223372036854775807
   .rw[if_pos f,bG]
   .rw[if_neg f,bG]
 .obtain⟨m,rfl⟩:∃m,t=m+1:=⟨t-1,by omega⟩;have P2:(2:Int)^(m+1)=2^m*2:=Int.pow_succ _ _;have PP:(2:Int)^(2*m)=2^m*2^m:=by rw[<-Int.pow_add];congr 1;omega
  have P0:=ml m;have PB:(2:Int)^m<=2^63:=am3 (by omega);have PBv:(2:Int)^63=9223372036854775808:=rfl;have at0:(2:Int)*((m+1:Nat):Int)-2=wr (2*m):=by simp only[dH];omega
  rw[at0];have g0:decide (wr (2*m)>=0)=true:=dy (by simp only[dH];omega)
  have g1:IntKind.wrap .i64 (wr (2*m)-2)=2*(m:Int)-2:=by
   simp only[dH];rw[wrap_i64 (by omega) (by omega)];omega
  simp only[Mi,Pg.px,Pg.py,Pg.si,Pg.yJ,Pg.pA,mK,jI,g0,bo,aTM (2*m) (by omega),bG,wI,g1];rw[PP];rw[P2] at pc p2 s4;generalize hP:(2:Int)^m=P at*
  have PPb:P*P<=85070591730234615865843651857942052864:=by
   have:=LK PB PB (by omega) (by omega);omega
  have PP0:0<P*P:=Int.mul_pos P0 P0
  have pb:p*P*2<=V:=by
   rcases Kc 0 c with k0|k0
   .have c1:1*(P*2)<=c*(P*2):=Wf (by omega) (by omega);have c2:p*(P*2)<=p*p:=Int.mul_le_mul_of_nonneg_left (by omega) p0;have c3:p*(P*2)=p*P*2:=by grind
    omega
   .have c1:c*(P*2)<=0*(P*2):=Wf k0 (by omega);have:p=0:=by omega
    subst this;omega
  have s4':sh*18446744073709551616+sl=p*P*2:=by rw[s4];grind
  obtain⟨a,b,e2,a0,a1,b0,b1,e3⟩:=aht sh sl (P*P/18446744073709551616) (P*P%18446744073709551616) s0 s2 (by omega) (by omega) s3 (by omega) (by omega);have e3':a*18446744073709551616+b=p*P*2+P*P:=by omega
  obtain⟨u,v,e4,u0,v0,v1,e5⟩:=av0 sh sl 1 (by omega) s0 s1 s2 s3;have e4':iT sh sl 1=some (u,v):=e4
  have e5':u*18446744073709551616+v=p*P:=by
   rw[e5,s4'];show p*P*2/2^1=p*P;rw[show(2:Int)^1=2 from rfl];omega
  rw[e2,bG,e4',bG,aJc rh rl a b r2 r3 b0 b1,bG,e3',r4];have dd:p*p+(p*P*2+P*P)=(p+P)*(p+P):=by grind
  by_cases cc:V-p*p<p*P*2+P*P
  .rw[dy cc];simp only[HZ,bq];refine hk m _ (by omega) ⟨p,c*2,rh,rl,u,v,by omega,p0,by rw[hP,pc];grind,p1,by rw[hP];omega,r0,r1,r2,r3,r4,u0,by omega,v0,v1,by rw[hP];exact e5',rfl⟩
  .rw[cE cc];simp only[Bool.not_false,bo];obtain⟨x,y,e6,x0,x1,y0,y1,e7⟩:=aQ4 rh rl a b r0 r1 r2 r3 a0 a1 b0 b1 (by omega);obtain⟨w,z',e8,w0,w1,z0,z1,e9⟩:=aht u v (P*P/18446744073709551616) (P*P%18446744073709551616) u0 v0 (by omega) (by omega) v1 (by omega) (by omega);rw[e6,bG,e8,bG];refine hk m _ (by omega) ⟨p+P,c*2+1,x,y,w,z',by omega,by omega,by rw[hP,pc];grind,by omega,?_,x0,x1,y0,y1,by omega,w0,w1,z0,z1,?_,rfl⟩
   .rw[hP];have:(p+P+P)*(p+P+P)=(p+P*2)*(p+P*2):=by grind
    omega
   .rw[hP];have:(p+P)*P=p*P+P*P:=by grind
    omega
theorem aQ5 (h l:Int)(neg:Bool)(h0:0<=h)(h1:h<18446744073709551616)(l0:0<=l)(l1:l<18446744073709551616):
  ∃h' l' b,nd h l neg=some ((h',l'),b)/\okW h' l'/\(b=true↔if neg=true then h*18446744073709551616+l<=170141183460469231731687303715884105728 else h*18446744073709551616+l<170141183460469231731687303715884105728)/\
   (b=true->vW h' l'=if neg=true then -(h*18446744073709551616+l) else h*18446744073709551616+l):=by
 simp only[nd,L4,Pg.bS,Pg.bM,Pg.ck,Pg.dX,Pg.dt];try delta wI wU
 unfold vW;cases neg
 .have hw:=Hg h;rw[FB h0 h1] at hw;generalize IntKind.wrap IntKind.i64 h=w at*
  refine⟨w,l,_,rfl,⟨?_,?_,l0,l1⟩,?_,?_⟩
  .split at hw<;>omega
  .split at hw<;>omega
  .rw[rf _ _ (by omega),beq_iff_eq,if_neg (by decide)];constructor<;>intro _<;>omega
  .rw[rf _ _ (by omega),beq_iff_eq,if_neg (by decide)];intro _;split at hw<;>omega
 .simp only[HZ,bq,aei l l0 l1,wrap_u64,aei h h0 h1];rw[O8 _ _ _ (by omega) (by omega) (by omega) (by omega)];simp only[bG,lr];generalize hm:((18446744073709551615-h)%18446744073709551616+((18446744073709551615-l)%18446744073709551616+1+0)/18446744073709551616)%18446744073709551616=m
  have hw:=Hg m;generalize IntKind.wrap IntKind.i64 m=w at*
  have m0:0<=m/\m<18446744073709551616:=by omega
  rw[FB m0.1 m0.2] at hw;have w0: -9223372036854775808<=w/\w<=9223372036854775807:=by split at hw<;>omega
  have wm:(w<0/\w=m-18446744073709551616)∨(0<=w/\w=m):=by split at hw<;>omega
  clear hw
  by_cases c:w<0
  .rw[dy c,bo];refine⟨_,_,_,rfl,⟨w0.1,w0.2,by omega,by omega⟩,?_,?_⟩
   .simp only[true_iff];omega
   .intro _;omega
  .rw[cE c,bq];refine⟨_,_,_,rfl,⟨w0.1,w0.2,by omega,by omega⟩,?_,?_⟩
   .simp only[cK,beq_iff_eq,Cf];constructor<;>intro _<;>omega
   .simp only[cK,beq_iff_eq,Cf];intro _;omega
theorem aYx (d:Int)(s:Nat)(hs:s<=127)(d0:0<=d)(d1:d<18446744073709551616):
  ∃h' l',gH 0 d (wr s)=some (h',l')/\0<=h'/\h'<18446744073709551616/\0<=l'/\l'<18446744073709551616/\h'*18446744073709551616+l'=d*2^s%340282366920938463463374607431768211456:=by
 simp only[gH,S7,Pg.bS,Pg.bM,Pg.ck,Pg.dX,Pg.dt];try delta wI wU
 by_cases c:64<=s
 .have e:decide (wr s>=64)=true:=by simp only[dH];exact dy (by omega)
  have e2:IntKind.wrap .i64 (wr s-64)=wr (s-64):=(wrap_i64 (by simp only[dH];omega) (by simp only[dH];omega)).trans (by simp only[dH];omega);have e3:(!decide (wr (s-64)<0))=true:=by simp
  have e4:min (z4 (wr (s-64))) 64=s-64:=by
   show min (s-64) 64=s-64;omega
  simp only[e,e2,e3,e4,bo,wrap_u64];refine⟨_,_,rfl,by omega,by omega,by omega,by omega,?_⟩
  have p:(2:Int)^s=2^(s-64)*18446744073709551616:=by
   rw[show(18446744073709551616:Int)=2^64 from rfl,<-Int.pow_add];congr 1;omega
  rw[p,<-akZ];generalize d*2^(s-64)=x
  omega
 .have e:decide (wr s>=64)=false:=by simp only[dH];exact cE (by omega)
  have e2:IntKind.wrap .i64 (64-wr s)=wr (64-s):=(wrap_i64 (by simp only[dH];omega) (by simp only[dH];omega)).trans (by simp only[dH];omega);have e3:∀n,(!decide (wr n<0))=true:=by simp
  have e4:min (z4 (wr (64-s))) 64=64-s:=by
   show min (64-s) 64=64-s;omega
  have e5:min (z4 (wr s)) 64=s:=by
   show min s 64=s;omega
  simp only[e,e2,e3,e4,e5,bo,bq,wrap_u64,af0];rw[rf _ _ (pk (ml _))]
  have pq:(18446744073709551616:Int)=2^s*2^(64-s):=by
   rw[<-Int.pow_add,show s+(64-s)=64 by omega];rfl
  have P0:=ml s;have Q0:=ml (64-s);have x0:0<=d/2^(64-s):=Ep d0 (pk Q0);have x1:d/2^(64-s)<2^s:=abG Q0 (by rw[<-pq];exact d1);have x2:d/2^(64-s)<=d:=axJ _ d0;have z0:(0:Int)%18446744073709551616=0:=rfl;rw[z0]
  have key:wr (v6 (wd 64 0|||wd 64 (d/2^(64-s))))=d/2^(64-s):=by
   rw[ayA 0 (d/2^(64-s)) 0 (by omega) (by decide) x0 (by omega) (by omega) (by rw[show(2:Int)^0=1 from rfl,Int.emod_one])];omega
  rw[key];refine⟨_,_,rfl,by omega,by omega,by omega,by omega,?_⟩
  have m1:d*2^s/18446744073709551616=d/2^(64-s):=by
   rw[pq,xT d,Int.mul_ediv_mul_of_pos _ _ P0]
  have b1:d*2^s<340282366920938463463374607431768211456:=by
   have:=Int.mul_lt_mul_of_pos_right d1 P0;have q:(2:Int)^s<=2^64:=am3 (by omega);have q2:(2:Int)^64=18446744073709551616:=rfl;have q3:18446744073709551616*2^s<=(18446744073709551616:Int)*18446744073709551616:=Int.mul_le_mul_of_nonneg_left (by omega) (by omega);have q4:(18446744073709551616:Int)*18446744073709551616=340282366920938463463374607431768211456:=by decide
   omega
  have b0:0<=d*2^s:=pj d0 (pk P0);rw[FB b0 b1];have x3:d/2^(64-s)%18446744073709551616=d/2^(64-s):=FB x0 (by omega);rw[x3,<-m1];omega
theorem am4 (a:Int)(s:Nat)(hs:s<=127)(a0: -9223372036854775808<=a)(a1:a<=9223372036854775807):
  ∃h l b,vD a (wr s)=some ((h,l),b)/\okW h l/\(b=true↔ -170141183460469231731687303715884105728<=a*2^s/\a*2^s<170141183460469231731687303715884105728)/\(b=true->vW h l=a*2^s)/\(b=false->h=0/\l=0):=by
 simp only[vD,ab5,Pg.bS,Pg.bM,Pg.ck,Pg.dX,Pg.dt];try delta wI wU
 have n0:decide (wr s<0)=false:=by simp
 have n1:decide (wr s>127)=false:=by simp only[dH];exact cE (by omega)
 rw[n0,bq,n1,bq,ao6 a a0 a1,bG];generalize hd:(if a<0 then -a else a)=d
 have d0:0<=d/\d<=9223372036854775808:=by split at hd<;>omega
 obtain⟨u,v,e1,u0,u1,v0,v1,e2⟩:=aYx d s hs d0.1 (by omega);rw[e1,bG];simp only;have P0:=ml s;have D0:0<=d*2^s:=pj d0.1 (pk P0)
 have sg:(a<0->a*2^s= -(d*2^s))/\(¬a<0->a*2^s=d*2^s):=by
  constructor<;>intro h
  .rw[if_pos h] at hd;rw[<-hd,Int.neg_mul,Int.neg_neg]
  .rw[if_neg h] at hd;rw[hd]
 have a14:∀{b:Bool},b=false->¬d*2^s<340282366920938463463374607431768211456->(b=true↔ -170141183460469231731687303715884105728<=a*2^s/\a*2^s<170141183460469231731687303715884105728):=by
  intro b hb hn;rw[hb];refine iff_of_false Bool.false_ne_true λh=> ?_;by_cases n:a<0
  .have:=sg.1 n;omega
  .have:=sg.2 n;omega
 have fin:d*2^s<340282366920938463463374607431768211456->∃h l b,(Option.bind (nd u v (decide (a<0))) λ(d:WB)=>bif !d.2 then some (((0,0),false):(Int×Int)×Bool) else some (d.1,true))=some ((h,l),b)/\okW h l/\(b=true↔ -170141183460469231731687303715884105728<=a*2^s/\a*2^s<170141183460469231731687303715884105728)/\(b=true->vW h l=a*2^s)/\(b=false->h=0/\l=0):=by
  intro lt;rw[FB D0 lt] at e2;obtain⟨h',l',b,e3,o3,f3,v3⟩:=aQ5 u v (decide (a<0)) u0 u1 v0 v1;rw[e3,bG];rw[e2] at f3 v3;by_cases n:a<0
  .have q:=sg.1 n;rw[dy n,if_pos rfl] at f3 v3;cases b with
   |false=>
    refine⟨0,0,false,rfl,⟨by omega,by omega,by omega,by omega⟩,?_,(λh=>by cases h),(λ_=>⟨rfl,rfl⟩)⟩;rw[f3];omega
   |true=>
    refine⟨h',l',true,rfl,o3,?_,(λ_=> ?_),(λh=>by cases h)⟩
    .rw[f3];omega
    .rw[v3 rfl];omega
  .have q:=sg.2 n;rw[cE n,if_neg (by decide)] at f3 v3;cases b with
   |false=>
    refine⟨0,0,false,rfl,⟨by omega,by omega,by omega,by omega⟩,?_,(λh=>by cases h),(λ_=>⟨rfl,rfl⟩)⟩;rw[f3];omega
   |true=>
    refine⟨h',l',true,rfl,o3,?_,(λ_=> ?_),(λh=>by cases h)⟩
    .rw[f3];omega
    .rw[v3 rfl];omega
 have shr:∃x y,iT u v (wr s)=some (x,y)/\0<=x/\0<=y/\y<18446744073709551616/\x*18446744073709551616+y=(u*18446744073709551616+v)/2^s:=by
  rcases mJ s 127 with c|c
  .exact av0 u v s (by omega) u0 u1 v0 v1
  .obtain rfl:s=127:=by omega
   refine⟨0,u/9223372036854775808,?_,by omega,by omega,by omega,?_⟩
   .simp only[iT,Jm,Pg.bS,Pg.bM,Pg.ck,Pg.dX,Pg.dt];try delta wI wU
    have k1:decide (wr 127>=64)=true:=by decide
    have k2:(!decide (IntKind.wrap .i64 (wr 127-64)<0))=true:=by decide
    have k3:(2:Int)^min (z4 (IntKind.wrap .i64 (wr 127-64))) 64=9223372036854775808:=by decide
    simp only[k1,k2,k3,bo];rw[rf _ _ (by omega)]
   .have k:(2:Int)^127=170141183460469231731687303715884105728:=by decide
    rw[k];omega
 obtain⟨x,y,e3,x0,y0,y1,e4⟩:=shr;rw[e3,bG];simp only;rw[e2] at e4;by_cases lt:d*2^s<340282366920938463463374607431768211456
 .rw[FB D0 lt,Int.mul_ediv_cancel _ (by omega)] at e4;have xe:(x==0)=true:=by rw[beq_iff_eq];omega
  have ye:(y==d)=true:=by rw[beq_iff_eq];omega
  rw[xe,ye];exact fin lt
 .have small:d*2^s%340282366920938463463374607431768211456/2^s<d:=by
   refine abG P0 ?_;have:d*2^s%340282366920938463463374607431768211456<340282366920938463463374607431768211456:=SN _ (by omega);omega
  have ne:(x==0&&(y==d&&true))=false:=by
   rw[Bool.and_true];by_cases xz:x=0
   .have:(y==d)=false:=by rw[afW];omega
    rw[this,Bool.and_false]
   .have:(x==0)=false:=by rw[afW];omega
    rw[this,Bool.false_and]
  rw[ne];exact⟨0,0,false,rfl,⟨by omega,by omega,by omega,by omega⟩,a14 rfl lt,(λh=>by cases h),(λ_=>⟨rfl,rfl⟩)⟩
theorem RC (x:Int)(h0:1<=x)(h1:x<256):∃n:Nat,1<=n/\n<=8/\(2:Int)^(n-1)<=x/\x<2^n/\bg (IntKind.wrap .u8 x) 256=true/\IntKind.wrap .i64 (EN (ByteArray.mk (List.toArray (ul (ul [0,1,2,2,3,3,3,3,4,4,4,4,4,4,4,4,5,5,5,5,5,5,5,5,5,5,5,5,5,5,5,5,6,6,6,6,6,6,6,6,6,6,6,6,6,6,6,6,6,6,6,6,6,6,6,6,6,6,6,6,6,6,6,6] [7,7,7,7,7,7,7,7,7,7,7,7,7,7,7,7,7,7,7,7,7,7,7,7,7,7,7,7,7,7,7,7,7,7,7,7,7,7,7,7,7,7,7,7,7,7,7,7,7,7,7,7,7,7,7,7,7,7,7,7,7,7,7,7]) (ul [8,8,8,8,8,8,8,8,8,8,8,8,8,8,8,8,8,8,8,8,8,8,8,8,8,8,8,8,8,8,8,8,8,8,8,8,8,8,8,8,8,8,8,8,8,8,8,8,8,8,8,8,8,8,8,8,8,8,8,8,8,8,8,8] [8,8,8,8,8,8,8,8,8,8,8,8,8,8,8,8,8,8,8,8,8,8,8,8,8,8,8,8,8,8,8,8,8,8,8,8,8,8,8,8,8,8,8,8,8,8,8,8,8,8,8,8,8,8,8,8,8,8,8,8,8,8,8,8])))) (z4 (IntKind.wrap IntKind.u8 x)))=(n:Int):=by
 obtain⟨a,rfl⟩:∃a:Nat,x=(a:Int):=⟨x.toNat,by omega⟩;have t:∀a:Fin 256,1<=a.val->(bg (IntKind.wrap .u8 (a.val:Int)) 256=true/\IntKind.wrap .i64 (EN (ByteArray.mk (List.toArray (ul (ul [0,1,2,2,3,3,3,3,4,4,4,4,4,4,4,4,5,5,5,5,5,5,5,5,5,5,5,5,5,5,5,5,6,6,6,6,6,6,6,6,6,6,6,6,6,6,6,6,6,6,6,6,6,6,6,6,6,6,6,6,6,6,6,6] [7,7,7,7,7,7,7,7,7,7,7,7,7,7,7,7,7,7,7,7,7,7,7,7,7,7,7,7,7,7,7,7,7,7,7,7,7,7,7,7,7,7,7,7,7,7,7,7,7,7,7,7,7,7,7,7,7,7,7,7,7,7,7,7]) (ul [8,8,8,8,8,8,8,8,8,8,8,8,8,8,8,8,8,8,8,8,8,8,8,8,8,8,8,8,8,8,8,8,8,8,8,8,8,8,8,8,8,8,8,8,8,8,8,8,8,8,8,8,8,8,8,8,8,8,8,8,8,8,8,8] [8,8,8,8,8,8,8,8,8,8,8,8,8,8,8,8,8,8,8,8,8,8,8,8,8,8,8,8,8,8,8,8,8,8,8,8,8,8,8,8,8,8,8,8,8,8,8,8,8,8,8,8,8,8,8,8,8,8,8,8,8,8,8,8])))) (z4 (IntKind.wrap IntKind.u8 (a.val:Int))))=((Nat.log2 a.val+1:Nat):Int)):=by decide+kernel
 have ha:1<=a:=by omega
 have a3v:a<256:=by omega
 have l1:=Nat.log2_self_le (n:=a) (by omega);have l2:a<2^(a.log2+1):=Nat.lt_log2_self
 have lb:a.log2<8:=by
  rcases mJ a.log2 8 with c|c
  .exact c
  .have:2^8<=2^a.log2:=Nat.pow_le_pow_right (by decide) c;omega
 have k:=t ⟨a,a3v⟩ ha;refine⟨a.log2+1,by omega,by omega,?_,?_,k.1,k.2⟩
 .rw[Nat.add_sub_cancel];have:((2^a.log2:Nat):Int)=(2:Int)^a.log2:=by simp
  omega
 .have:((2^(a.log2+1):Nat):Int)=(2:Int)^(a.log2+1):=by simp
  omega
theorem pow_add' (a b:Nat):(2:Int)^(a+b)=2^a*2^b:=Int.pow_add _ _ _
theorem F5 (x:Int)(b n:Nat)(hn:1<=n)(h0:(2:Int)^(n-1)<=x/2^b)(h1:x/2^b<2^n):(2:Int)^(n+b-1)<=x/\x<2^(n+b):=by
 have B0:=ml b;have e1:(2:Int)^(n+b-1)=2^(n-1)*2^b:=by rw[<-pow_add'];congr 1;omega
 have e2:(2:Int)^(n+b)=2^n*2^b:=pow_add' _ _;rw[e1,e2];exact⟨Int.mul_le_of_le_ediv B0 h0,Int.lt_mul_of_ediv_lt B0 h1⟩
theorem aZO (x:Int)(h0:1<=x)(h1:x<18446744073709551616):∃n:Nat,1<=n/\n<=64/\(2:Int)^(n-1)<=x/\x<2^n/\IE x=some (n:Int):=by
 have f1:∀a:Int,v4 a 256=a/256:=λa=>rf _ _ (by omega)
 have f2:∀a:Int,v4 a 65536=a/65536:=λa=>rf _ _ (by omega)
 have f3:∀a:Int,v4 a 4294967296=a/4294967296:=λa=>rf _ _ (by omega)
 simp only[IE,ab0,Pg.bS,Pg.bM,Pg.ck,Pg.dX,Pg.dt,f1,f2,f3];try delta wI wU
 by_cases c:x>=4294967296
 .by_cases d:x/4294967296>=65536
  .by_cases e:x/4294967296/65536>=256
   .have q:x/4294967296/65536/256=x/2^56:=by rw[show(2:Int)^56=72057594037927936 from rfl]<;>omega
    obtain⟨n,n1,n2,b0,b1,t1,t2⟩:=RC (x/4294967296/65536/256) (by omega) (by omega);rw[q] at b0 b1;obtain⟨c0,c1⟩:=F5 x 56 n n1 b0 b1;refine⟨n+56,by omega,by omega,c0,c1,?_⟩;rw[dy c,bo,dy d,bo,dy e,bo,t1,bo,t2,wrap_i64 (n:=56+(n:Int)) (by omega) (by omega)];exact fe (some:Int->Option Int) (by omega)
   .have q:x/4294967296/65536=x/2^48:=by rw[show(2:Int)^48=281474976710656 from rfl]<;>omega
    obtain⟨n,n1,n2,b0,b1,t1,t2⟩:=RC (x/4294967296/65536) (by omega) (by omega);rw[q] at b0 b1;obtain⟨c0,c1⟩:=F5 x 48 n n1 b0 b1;refine⟨n+48,by omega,by omega,c0,c1,?_⟩;rw[dy c,bo,dy d,bo,cE e,bq,t1,bo,t2,wrap_i64 (n:=48+(n:Int)) (by omega) (by omega)];exact fe (some:Int->Option Int) (by omega)
  .by_cases e:x/4294967296>=256
   .have q:x/4294967296/256=x/2^40:=by rw[show(2:Int)^40=1099511627776 from rfl]<;>omega
    obtain⟨n,n1,n2,b0,b1,t1,t2⟩:=RC (x/4294967296/256) (by omega) (by omega);rw[q] at b0 b1;obtain⟨c0,c1⟩:=F5 x 40 n n1 b0 b1;refine⟨n+40,by omega,by omega,c0,c1,?_⟩;rw[dy c,bo,cE d,bq,dy e,bo,t1,bo,t2,wrap_i64 (n:=40+(n:Int)) (by omega) (by omega)];exact fe (some:Int->Option Int) (by omega)
   .have q:x/4294967296=x/2^32:=by rw[show(2:Int)^32=4294967296 from rfl]<;>omega
    obtain⟨n,n1,n2,b0,b1,t1,t2⟩:=RC (x/4294967296) (by omega) (by omega);rw[q] at b0 b1;obtain⟨c0,c1⟩:=F5 x 32 n n1 b0 b1;refine⟨n+32,by omega,by omega,c0,c1,?_⟩;rw[dy c,bo,cE d,bq,cE e,bq,t1,bo,t2,wrap_i64 (n:=32+(n:Int)) (by omega) (by omega)];exact fe (some:Int->Option Int) (by omega)
 .by_cases d:x>=65536
  .by_cases e:x/65536>=256
   .have q:x/65536/256=x/2^24:=by rw[show(2:Int)^24=16777216 from rfl]<;>omega
    obtain⟨n,n1,n2,b0,b1,t1,t2⟩:=RC (x/65536/256) (by omega) (by omega);rw[q] at b0 b1;obtain⟨c0,c1⟩:=F5 x 24 n n1 b0 b1;refine⟨n+24,by omega,by omega,c0,c1,?_⟩;rw[cE c,bq,dy d,bo,dy e,bo,t1,bo,t2,wrap_i64 (n:=24+(n:Int)) (by omega) (by omega)];exact fe (some:Int->Option Int) (by omega)
   .have q:x/65536=x/2^16:=by rw[show(2:Int)^16=65536 from rfl]<;>omega
    obtain⟨n,n1,n2,b0,b1,t1,t2⟩:=RC (x/65536) (by omega) (by omega);rw[q] at b0 b1;obtain⟨c0,c1⟩:=F5 x 16 n n1 b0 b1;refine⟨n+16,by omega,by omega,c0,c1,?_⟩;rw[cE c,bq,dy d,bo,cE e,bq,t1,bo,t2,wrap_i64 (n:=16+(n:Int)) (by omega) (by omega)];exact fe (some:Int->Option Int) (by omega)
  .by_cases e:x>=256
   .have q:x/256=x/2^8:=by rw[show(2:Int)^8=256 from rfl]<;>omega
    obtain⟨n,n1,n2,b0,b1,t1,t2⟩:=RC (x/256) (by omega) (by omega);rw[q] at b0 b1;obtain⟨c0,c1⟩:=F5 x 8 n n1 b0 b1;refine⟨n+8,by omega,by omega,c0,c1,?_⟩;rw[cE c,bq,cE d,bq,dy e,bo,t1,bo,t2,wrap_i64 (n:=8+(n:Int)) (by omega) (by omega)];exact fe (some:Int->Option Int) (by omega)
   .have q:x=x/2^0:=by rw[show(2:Int)^0=1 from rfl]<;>omega
    obtain⟨n,n1,n2,b0,b1,t1,t2⟩:=RC (x) (by omega) (by omega);rw[q] at b0 b1;obtain⟨c0,c1⟩:=F5 x 0 n n1 b0 b1;refine⟨n+0,by omega,by omega,c0,c1,?_⟩;rw[cE c,bq,cE d,bq,cE e,bq,t1,bo,t2,wrap_i64 (n:=0+(n:Int)) (by omega) (by omega)];exact fe (some:Int->Option Int) (by omega)
theorem aYy (x:Int)(h0:1<=x)(h1:x<18446744073709551616):∃s:Nat,s<=63/\9223372036854775808<=x*2^s/\x*2^s<18446744073709551616/\pC x=some (s:Int):=by
 obtain⟨n,n1,n2,b0,b1,e⟩:=aZO x h0 h1;refine⟨64-n,by omega,?_,?_,?_⟩
 .have p:(9223372036854775808:Int)=2^(n-1)*2^(64-n):=by
   rw[<-pow_add',show n-1+(64-n)=63 by omega];rfl
  rw[p];exact Wf b0 (pk (ml _))
 .have p:(18446744073709551616:Int)=2^n*2^(64-n):=by
   rw[<-pow_add',show n+(64-n)=64 by omega];rfl
  rw[p];exact Int.mul_lt_mul_of_pos_right b1 (ml _)
 .simp only[pC,Cj,Pg.bS,Pg.bM,Pg.ck,Pg.dX,Pg.dt];try delta wI wU
  rw[e,bG,wrap_i64 (by omega) (by omega)];exact fe (some:Int->Option Int) (by omega)
structure Dig (Y gS zb U u:Int):Prop where
 y:Y=gS*4294967296+zb
 a:2147483648<=gS/\gS<4294967296
 b:0<=zb/\zb<4294967296
 u0:0<=U/\U<Y
 d:0<=u/\u<4294967296
theorem Dig.lt {Y gS zb U u:Int}(h:Dig Y gS zb U u):0<=(U*4294967296+u)/Y/\(U*4294967296+u)/Y<4294967296:=by
 obtain⟨y,a,b,u0,d⟩:=h;constructor
 .exact Ep (by omega) (by omega)
 .refine abG (by omega) ?_;omega
theorem Dig.down {Y gS zb U u q rh:Int}(h:Dig Y gS zb U u)(e:q*gS+rh=U)(c:4294967296*rh+u<q*zb):(U*4294967296+u)/Y<=q-1:=by
 obtain⟨y,a,b,u0,d⟩:=h
 have:(U*4294967296+u)/Y<q:=by
  refine abG (by omega) ?_;have e2:q*Y=(q*gS)*4294967296+q*zb:=by rw[y];grind
  omega
 omega
theorem Dig.stay {Y gS zb U u q rh:Int}(h:Dig Y gS zb U u)(e:q*gS+rh=U)(c:q*zb<=4294967296*rh+u)(l:(U*4294967296+u)/Y<=q):q=(U*4294967296+u)/Y:=by
 obtain⟨y,a,b,u0,d⟩:=h
 have:q<=(U*4294967296+u)/Y:=by
  refine(Int.le_ediv_iff_mul_le (by omega)).2 ?_;have e2:q*Y=(q*gS)*4294967296+q*zb:=by rw[y];grind
  omega
 omega
theorem Dig.out {Y gS zb U u q rh:Int}(h:Dig Y gS zb U u)(e:q*gS+rh=U)(q0:0<=q)(c:4294967296<=rh)(l:(U*4294967296+u)/Y<=q):q=(U*4294967296+u)/Y:=by
 have h':=h;obtain⟨y,a,b,u0,d⟩:=h;refine h'.stay e ?_ l
 have q1:q<=4294967295:=by
  rcases Kc q 4294967296 with k|k
  .omega
  .exfalso
   have:=Wf k (show 0<=gS by omega);omega
 have:=LK q1 (show zb<=4294967295 by omega) b.1 (by omega);omega
theorem aZP {ρ:Type}(Y s gS zb U u u0:Int)(h:Dig Y gS zb U u)(k:_->Option ρ)(r:Option ρ)
  (h1:∀rh a b c d,k (Sum.inl (Y,s,gS,zb,U,u,u0,(U*4294967296+u)/Y,rh,a,b,c,d))=r)
  (h2:∀rh a b c d e f g i,k (Sum.inr (Sum.inl (Y,s,gS,zb,U,u,u0,(U*4294967296+u)/Y,rh,a,b,c,d,e,f,g,i)))=r)
  (h3:∀rh a b c d e,k (Sum.inr (Sum.inr (Y,s,gS,zb,U,u,u0,(U*4294967296+u)/Y,rh,a,b,c,d,e)))=r):
  (Jr (Y,s,gS,zb,U,u,u0,U/gS,U%gS)).bind k=r:=by
 have h':=h;obtain⟨y,a,b,hu,d⟩:=h;have lt:=h'.lt;have qm:=asH U gS;have m0:=Wj U (show gS≠0 by omega);have m1:=SN U (show 0<gS by omega);have qn:=Ep hu.1 (show 0<=gS by omega)
 have start:(U*4294967296+u)/Y<=U/gS:=by
  have e2:(U*4294967296+u)/Y<U/gS+1:=by
   refine abG (by omega) ?_;have e3:(U/gS+1)*Y=(gS*(U/gS))*4294967296+gS*4294967296+(U/gS+1)*zb:=by rw[y];grind
   have:=pj (show 0<=U/gS+1 by omega) b.1;omega
  omega
 unfold Jr
 refine FI (λt x=>∃(q rh:Int),0<=q/\q*gS+rh=U/\(U*4294967296+u)/Y<=q/\(2-(t:Int))*2147483648<=rh/\0<=rh/\rh<4294967296/\x=(Y,s,gS,zb,U,u,u0,q,rh)) ?_ 2000 2 _ (by omega)
  ⟨U/gS,U%gS,qn,by rw[xT];exact qm,start,by omega,m0,by omega,rfl⟩
 rintro t _ c ⟨q,rh,q0,e,l,tb,r0,r1,rfl⟩ hc
 have down:(U*4294967296+u)/Y<=q-1->0<=q-1->(q-1)*gS+(rh+gS)=U:=λ_ _=>by
  have:(q-1)*gS=q*gS-gS:=by grind
  omega
 have qb:q<=4294967298:=by
  rcases Kc q 4294967298 with k|k
  .omega
  .exfalso
   have:=Wf k (show 0<=gS by omega);omega
 have w1:IntKind.wrap .u64 (rh+gS)=rh+gS:=by rw[wrap_u64];omega
 by_cases c1:q>=4294967296
 .have d1:(U*4294967296+u)/Y<=q-1:=by omega
  have w2:IntKind.wrap .u64 (q-1)=q-1:=by rw[wrap_u64];omega
  have e2:=down d1 (by omega);simp only[Jq,Pg.px,Pg.py,Pg.si,Pg.yJ,Pg.pA,mK,jI,wU,dy c1,bo,w1,w2];by_cases c2:rh+gS>=4294967296
  .rw[dy c2,bo,h'.out e2 (by omega) c2 d1];exact h1 _ _ _ _ _
  .rw[cE c2,bq];have t1:1<=t:=by omega
   exact hc (t-1) _ (by omega) ⟨q-1,rh+gS,by omega,e2,d1,by omega,by omega,by omega,rfl⟩
 .have pm:0<=q*zb/\q*zb<18446744073709551616:=by
   refine⟨pj q0 b.1,?_⟩;have:=LK (show q<=4294967295 by omega) (show zb<=4294967295 by omega) b.1 (by omega);omega
  have w3:IntKind.wrap .u64 (q*zb)=q*zb:=by rw[wrap_u64];omega
  have w4:IntKind.wrap .u64 (4294967296*rh)=4294967296*rh:=by rw[wrap_u64];omega
  have w5:IntKind.wrap .u64 (4294967296*rh+u)=4294967296*rh+u:=by rw[wrap_u64];omega
  simp only[Jq,Pg.px,Pg.py,Pg.si,Pg.yJ,Pg.pA,mK,jI,wU,cE c1,bq,w1,w3,w4,w5];by_cases c3:q*zb>4294967296*rh+u
  .have d1:=h'.down e c3
   have qp:1<=q:=by
    rcases Kc 0 q with k|k
    .omega
    .exfalso
     have:q=0:=by omega
     subst this;omega
   have w2:IntKind.wrap .u64 (q-1)=q-1:=by rw[wrap_u64];omega
   have e2:=down d1 (by omega);rw[dy c3,bo,w2];by_cases c2:rh+gS>=4294967296
   .rw[dy c2,bo,h'.out e2 (by omega) c2 d1];exact h2 _ _ _ _ _ _ _ _ _
   .rw[cE c2,bq];exact hc (t-1) _ (by omega) ⟨q-1,rh+gS,by omega,e2,d1,by omega,by omega,by omega,rfl⟩
  .rw[cE c3,bq,h'.stay e (by omega) l];exact h3 _ _ _ _ _ _
theorem aZQ {ρ:Type}(Y s gS zb U u q1:Int)(h:Dig Y gS zb U u)(k:_->Option ρ)(r:Option ρ)
  (h1:∀rh a b c d,k (Sum.inl (Y,s,gS,zb,u,q1,rh,U,(U*4294967296+u)/Y,a,b,c,d))=r)
  (h2:∀rh a b c d e f g i,k (Sum.inr (Sum.inl (Y,s,gS,zb,u,q1,rh,U,(U*4294967296+u)/Y,a,b,c,d,e,f,g,i)))=r)
  (h3:∀rh a b c d e,k (Sum.inr (Sum.inr (Y,s,gS,zb,u,q1,rh,U,(U*4294967296+u)/Y,a,b,c,d,e)))=r):
  (Ju (Y,s,gS,zb,u,q1,U%gS,U,U/gS)).bind k=r:=by
 have h':=h;obtain⟨y,a,b,hu,d⟩:=h;have lt:=h'.lt;have qm:=asH U gS;have m0:=Wj U (show gS≠0 by omega);have m1:=SN U (show 0<gS by omega);have qn:=Ep hu.1 (show 0<=gS by omega)
 have start:(U*4294967296+u)/Y<=U/gS:=by
  have e2:(U*4294967296+u)/Y<U/gS+1:=by
   refine abG (by omega) ?_;have e3:(U/gS+1)*Y=(gS*(U/gS))*4294967296+gS*4294967296+(U/gS+1)*zb:=by rw[y];grind
   have:=pj (show 0<=U/gS+1 by omega) b.1;omega
  omega
 unfold Ju
 refine FI (λt x=>∃(q rh:Int),0<=q/\q*gS+rh=U/\(U*4294967296+u)/Y<=q/\(2-(t:Int))*2147483648<=rh/\0<=rh/\rh<4294967296/\x=(Y,s,gS,zb,u,q1,rh,U,q)) ?_ 2000 2 _ (by omega)
  ⟨U/gS,U%gS,qn,by rw[xT];exact qm,start,by omega,m0,by omega,rfl⟩
 rintro t _ c ⟨q,rh,q0,e,l,tb,r0,r1,rfl⟩ hc
 have down:(U*4294967296+u)/Y<=q-1->0<=q-1->(q-1)*gS+(rh+gS)=U:=λ_ _=>by
  have:(q-1)*gS=q*gS-gS:=by grind
  omega
 have qb:q<=4294967298:=by
  rcases Kc q 4294967298 with k|k
  .omega
  .exfalso
   have:=Wf k (show 0<=gS by omega);omega
 have w1:IntKind.wrap .u64 (rh+gS)=rh+gS:=by rw[wrap_u64];omega
 by_cases c1:q>=4294967296
 .have d1:(U*4294967296+u)/Y<=q-1:=by omega
  have w2:IntKind.wrap .u64 (q-1)=q-1:=by rw[wrap_u64];omega
  have e2:=down d1 (by omega);simp only[Jt,Pg.px,Pg.py,Pg.si,Pg.yJ,Pg.pA,mK,jI,wU,dy c1,bo,w1,w2];by_cases c2:rh+gS>=4294967296
  .rw[dy c2,bo,h'.out e2 (by omega) c2 d1];exact h1 _ _ _ _ _
  .rw[cE c2,bq];have t1:1<=t:=by omega
   exact hc (t-1) _ (by omega) ⟨q-1,rh+gS,by omega,e2,d1,by omega,by omega,by omega,rfl⟩
 .have pm:0<=q*zb/\q*zb<18446744073709551616:=by
   refine⟨pj q0 b.1,?_⟩;have:=LK (show q<=4294967295 by omega) (show zb<=4294967295 by omega) b.1 (by omega);omega
  have w3:IntKind.wrap .u64 (q*zb)=q*zb:=by rw[wrap_u64];omega
  have w4:IntKind.wrap .u64 (4294967296*rh)=4294967296*rh:=by rw[wrap_u64];omega
  have w5:IntKind.wrap .u64 (4294967296*rh+u)=4294967296*rh+u:=by rw[wrap_u64];omega
  simp only[Jt,Pg.px,Pg.py,Pg.si,Pg.yJ,Pg.pA,mK,jI,wU,cE c1,bq,w1,w3,w4,w5];by_cases c3:q*zb>4294967296*rh+u
  .have d1:=h'.down e c3
   have qp:1<=q:=by
    rcases Kc 0 q with k|k
    .omega
    .exfalso
     have:q=0:=by omega
     subst this;omega
   have w2:IntKind.wrap .u64 (q-1)=q-1:=by rw[wrap_u64];omega
   have e2:=down d1 (by omega);rw[dy c3,bo,w2];by_cases c2:rh+gS>=4294967296
   .rw[dy c2,bo,h'.out e2 (by omega) c2 d1];exact h2 _ _ _ _ _ _ _ _ _
   .rw[cE c2,bq];exact hc (t-1) _ (by omega) ⟨q-1,rh+gS,by omega,e2,d1,by omega,by omega,by omega,rfl⟩
  .rw[cE c3,bq,h'.stay e (by omega) l];exact h3 _ _ _ _ _ _
theorem aTN (hi lo y:Int)(h0:0<=hi)(h1:hi<y)(h2:y<18446744073709551616)(l0:0<=lo)(l1:lo<18446744073709551616):
  IF hi lo y=some ((hi*18446744073709551616+lo)/y,(hi*18446744073709551616+lo)%y):=by
 simp only[IF,ab1,Pg.bS,Pg.bM,Pg.ck,Pg.dX,Pg.dt];try delta wI wU
 have y0:(y==0)=false:=by rw[afW];omega
 rw[y0,bq,cE (show ¬y<=hi by omega),bq];by_cases hz:hi=0
 .subst hz;have z:((0:Int)==0)=true:=rfl;have yn:(!decide (y=0))=true:=by rw[cE (by omega)];rfl
  rw[z,bo,yn,bo,bo,af0,ak0,azD l0,Int.tmod_eq_emod_of_nonneg l0];have d0:=Ep l0 (show 0<=y by omega);have d1:=axJ y l0;have w:IntKind.wrap .u64 (lo/y)=lo/y:=by rw[wrap_u64];omega
  rw[w]
 have z:(hi==0)=false:=by rw[afW];exact hz
 rw[z,bq];obtain⟨s,s63,b0,b1,e⟩:=aYy y (by omega) h2;rw[e,bG];have P0:=ml s;have Q0:=ml (64-s);have k1:IntKind.wrap .u64 (s:Int)=(s:Int):=by rw[wrap_u64];omega
 have k2:IntKind.wrap .u64 (64-(s:Int))=((64-s:Nat):Int):=by rw[wrap_u64];omega
 have k3:∀n:Nat,(!decide ((n:Int)<0))=true:=λn=>by rw[cE (by omega)];rfl
 have k4:min (z4 (s:Int)) 64=s:=by rw[HY];omega
 have k5:min (z4 ((64-s:Nat):Int)) 64=64-s:=by rw[HY];omega
 have k6:IntKind.wrap .u64 (y*2^s)=y*2^s:=by rw[wrap_u64];omega
 simp only[k1,k2,k3,k4,k5,k6,bo]
 have pq:(18446744073709551616:Int)=2^s*2^(64-s):=by
  rw[<-pow_add',show s+(64-s)=64 by omega];rfl
 have ab:hi*2^s+2^s<=y*2^s:=by
  have:=Wf (show hi+1<=y by omega) (pk P0);rw[Vd] at this;omega
 have a0:0<=hi*2^s:=pj h0 (pk P0);have x0:0<=lo/2^(64-s):=Ep l0 (pk Q0);have x1:lo/2^(64-s)<2^s:=abG Q0 (by rw[<-pq];exact l1);have k7:IntKind.wrap .u64 (hi*2^s)=hi*2^s:=by rw[wrap_u64];omega
 have or1:wr (v6 (wd 64 (hi*2^s)|||wd 64 (v4 lo (2^(64-s)))))=hi*2^s+lo/2^(64-s):=by
  rw[rf _ _ (pk Q0),BitVec.or_comm,ayA _ _ s x0 x1 a0 (by omega) (by omega) (Int.mul_emod_left _ _)];omega
 have k8:IntKind.wrap .u64 (hi*2^s+lo/2^(64-s))=hi*2^s+lo/2^(64-s):=by rw[wrap_u64];omega
 simp only[k7,or1,k8];rw[wrap_u64 (lo*2^s)];have c0:0<=lo*2^s%18446744073709551616/\lo*2^s%18446744073709551616<18446744073709551616:=by omega
 have N:(hi*2^s+lo/2^(64-s))*18446744073709551616+lo*2^s%18446744073709551616=(hi*18446744073709551616+lo)*2^s:=by
  have m1:lo*2^s/18446744073709551616=lo/2^(64-s):=by
   rw[pq,xT lo,Int.mul_ediv_mul_of_pos _ _ P0]
  have m2:lo*2^s=lo*2^s/18446744073709551616*18446744073709551616+lo*2^s%18446744073709551616:=by omega
  have m3:(hi*18446744073709551616+lo)*2^s=hi*2^s*18446744073709551616+lo*2^s:=by grind
  rw[m3,<-m1];omega
 have U1:0<=hi*2^s+lo/2^(64-s)/\hi*2^s+lo/2^(64-s)<y*2^s:=by omega
 have am1:∀x:Int,0<=x->x<18446744073709551616->IntKind.wrap .u64 (wr (v6 (wd 64 x&&&wd 64 4294967295)))=x%4294967296:=λx x0 x1=>by
  rw[ao5 x x0 x1,wrap_u64];omega
 rw[am1 (y*2^s) (by omega) b1,am1 _ c0.1 c0.2];simp only[rf _ 4294967296 (show(0:Int)<=4294967296 by decide)]
 have A1:(hi*18446744073709551616+lo)/y=(hi*18446744073709551616+lo)*2^s/(y*2^s):=by
  rw[xT _ (2^s),xT y,Int.mul_ediv_mul_of_pos _ _ P0]
 have A2:(hi*18446744073709551616+lo)%y=(hi*18446744073709551616+lo)*2^s%(y*2^s)/2^s:=by
  rw[xT _ (2^s),xT y,Int.mul_emod_mul_of_pos _ _ P0,Int.mul_ediv_cancel_left _ (by omega)]
 rw[A1,A2,<-N];generalize hi*2^s+lo/2^(64-s)=U at*
 generalize lo*2^s%18446744073709551616=L at*
 generalize hY:y*2^s=Y at*
 generalize h2s:(2:Int)^s=P at*
 clear N A1 A2 or1 k7 k8 x0 x1 ab a0 pq k6 e
 have hY1:2147483648<=Y/4294967296/\Y/4294967296<4294967296:=by omega
 have g1:Dig Y (Y/4294967296) (Y%4294967296) U (L/4294967296):=⟨by omega,hY1,by omega,U1,by omega⟩;have yz:(!decide (Y/4294967296=0))=true:=by rw[cE (by omega)];rfl
 have Q1:=g1.lt;have R1:=asH (U*4294967296+L/4294967296) Y;have R1a:=Wj (U*4294967296+L/4294967296) (show Y≠0 by omega);have R1b:=SN (U*4294967296+L/4294967296) (show 0<Y by omega)
 have q0:IntKind.wrap .u64 (t8 U (Y/4294967296))=U/(Y/4294967296):=by
  rw[azD U1.1,wrap_u64];have:=Ep U1.1 (show 0<=Y/4294967296 by omega);have:=axJ (Y/4294967296) U1.1;omega
 have r0:IntKind.wrap .u64 (U-IntKind.wrap .u64 (U/(Y/4294967296)*(Y/4294967296)))=U%(Y/4294967296):=by
  have qm:=Int.ediv_mul_add_emod U (Y/4294967296);have m0:=Wj U (show Y/4294967296≠0 by omega);have m1:=SN U (show 0<Y/4294967296 by omega);rw[wrap_u64,wrap_u64];generalize U/(Y/4294967296)*(Y/4294967296)=A at*
  omega
 simp only[yz,bo,q0,r0];generalize hQ1:(U*4294967296+L/4294967296)/Y=q1 at*
 generalize hR1:(U*4294967296+L/4294967296)%Y=R at*
 have g2:Dig Y (Y/4294967296) (Y%4294967296) R (L%4294967296):=⟨by omega,hY1,by omega,⟨R1a,R1b⟩,by omega⟩;have Q2:=g2.lt;have R2:=asH (R*4294967296+L%4294967296) Y;have R2a:=Wj (R*4294967296+L%4294967296) (show Y≠0 by omega);have R2b:=SN (R*4294967296+L%4294967296) (show 0<Y by omega);generalize hQ2:(R*4294967296+L%4294967296)/Y=q2 at*
 generalize hR2:(R*4294967296+L%4294967296)%Y=R' at*
 have un:IntKind.wrap .u64 (IntKind.wrap .u64 (IntKind.wrap .u64 (U*4294967296)+L/4294967296)-IntKind.wrap .u64 (q1*Y))=R:=by
  rw[xT q1 Y];simp only[wrap_u64];generalize Y*q1=A at*
  omega
 have q3:IntKind.wrap .u64 (t8 R (Y/4294967296))=R/(Y/4294967296):=by
  rw[azD R1a,wrap_u64];have:=Ep R1a (show 0<=Y/4294967296 by omega);have:=axJ (Y/4294967296) R1a;omega
 have r3:IntKind.wrap .u64 (R-IntKind.wrap .u64 (R/(Y/4294967296)*(Y/4294967296)))=R%(Y/4294967296):=by
  have qm:=Int.ediv_mul_add_emod R (Y/4294967296);have m0:=Wj R (show Y/4294967296≠0 by omega);have m1:=SN R (show 0<Y/4294967296 by omega);rw[wrap_u64,wrap_u64];generalize R/(Y/4294967296)*(Y/4294967296)=A at*
  omega
 have un2:IntKind.wrap .u64 (IntKind.wrap .u64 (IntKind.wrap .u64 (R*4294967296)+L%4294967296)-IntKind.wrap .u64 (q2*Y))=R':=by
  rw[xT q2 Y];simp only[wrap_u64];generalize Y*q2=A at*
  omega
 have quo:IntKind.wrap .u64 (IntKind.wrap .u64 (q1*4294967296)+q2)=q1*4294967296+q2:=by
  simp only[wrap_u64];omega
 have ans:(U*18446744073709551616+L)/Y=q1*4294967296+q2/\(U*18446744073709551616+L)%Y=R':=by
  have e:U*18446744073709551616+L=R'+Y*(q1*4294967296+q2):=by
   have e2:Y*(q1*4294967296+q2)=Y*q1*4294967296+Y*q2:=by grind
   rw[e2];omega
  rw[e];constructor
  .rw[Int.add_mul_ediv_left _ _ (by omega),Int.ediv_eq_zero_of_lt R2a R2b,ak0]
  .rw[Int.add_mul_emod_self_left,FB R2a R2b]
 rw[ans.1,ans.2];refine aZP Y s _ _ U _ _ g1 _ _ ?_ ?_ ?_
 all_goals
  intros
  simp only[mK,jI,hQ1,yz,bo,un,q3,r3];refine aZQ Y s _ _ R _ _ g2 _ _ ?_ ?_ ?_
  all_goals
   intros
   simp only[mK,jI,hQ2,k3,bo,un2,quo,k4,h2s];rw[rf _ _ (pk P0)]
def jq (x:Int):Int:=if x<0 then -x else x
theorem aLp (x:Int):0<=jq x:=by unfold jq;split<;>omega
def qdq (V D:Int):Int:=V/D+(if 2*(V%D)<D then 0 else 1)
def Hi (a d:Int):Int:=if (decide (a<0))=(decide (d<0)) then qdq (jq a) (jq d) else -qdq (jq a) (jq d)
theorem aJd (h l d:Int)(o:okW h l)(d0: -9223372036854775808<=d)(d1:d<=9223372036854775807)(nz:d≠0):
  BV h l d=if -9223372036854775808<=Hi (vW h l) d/\Hi (vW h l) d<=9223372036854775807 then some (Hi (vW h l) d,true) else some (0,false):=by
 simp only[BV,alI,Pg.bS,Pg.bM,Pg.ck,Pg.dX,Pg.dt];try delta wI wU
 have z:(d==0)=false:=by rw[afW];exact nz
 obtain⟨ah,al,e1,a0,a1,a2,a3,a4⟩:=aI8 h l o;have e2:=ao6 d d0 d1;rw[z,bq,e1,bG,e2,bG];simp only;have D0:0<jq d:=by unfold jq;split<;>omega
 have D1:jq d<=9223372036854775808:=by unfold jq;split<;>omega
 have ed:(if d<0 then -d else d)=jq d:=rfl
 have va:ah*18446744073709551616+al=jq (vW h l):=by
  rw[a4];obtain⟨o1,o2,o3,o4⟩:=o;unfold jq;simp only[vW];split<;>split<;>omega
 have sn:decide (h<0)=decide (vW h l<0):=by
  obtain⟨o1,o2,o3,o4⟩:=o;simp only[vW];by_cases c:h<0
  .rw[dy c,dy (by omega)]
  .rw[cE c,cE (by omega)]
 rw[ed,sn];generalize vW h l=V at*
 have nz2:(!decide (jq d=0))=true:=by rw[cE (by omega)];rfl
 have r0:=Wj ah (show jq d≠0 by omega);have r1:=SN ah D0;have q0:=Ep a0 (pk D0);have q1:=axJ (jq d) a0;have qe:=asH ah (jq d);have dv:=aTN (ah%jq d) al (jq d) r0 r1 (by omega) a2 a3;rw[nz2,bo,bo,Int.tmod_eq_emod_of_nonneg a0,dv,bG,azD a0];simp only;have w1:IntKind.wrap .u64 (ah/jq d)=ah/jq d:=by rw[wrap_u64];omega
 have E:jq V=(ah%jq d*18446744073709551616+al)+jq d*(ah/jq d*18446744073709551616):=by
  rw[<-va];have:jq d*(ah/jq d*18446744073709551616)=jq d*(ah/jq d)*18446744073709551616:=by grind
  rw[this];omega
 have Q:jq V/jq d=(ah%jq d*18446744073709551616+al)/jq d+ah/jq d*18446744073709551616:=by
  rw[E,Int.add_mul_ediv_left _ _ (by omega)]
 have R:jq V%jq d=(ah%jq d*18446744073709551616+al)%jq d:=by rw[E,Int.add_mul_emod_self_left]
 have n0:0<=(ah%jq d*18446744073709551616+al)/jq d:=Ep (by omega) (pk D0)
 have n1:(ah%jq d*18446744073709551616+al)/jq d<18446744073709551616:=by
  refine abG D0 ?_;omega
 have t0:=Wj (ah%jq d*18446744073709551616+al) (show jq d≠0 by omega);have t1:=SN (ah%jq d*18446744073709551616+al) D0;rw[<-R] at t0 t1 ⊢;have w2:IntKind.wrap .u64 (jq d-jq V%jq d)=jq d-jq V%jq d:=by rw[wrap_u64];omega
 rw[w1,w2]
 have sgn:(!decide (V<0)==decide (d<0))= !decide ((decide (V<0))=(decide (d<0))):=by
  cases decide (V<0)<;>cases decide (d<0)<;>rfl
 have qn:0<=qdq (jq V) (jq d):=by
  have:=aLp V;have:=Ep this (pk D0);unfold qdq;split<;>omega
 have fin:∀u v:Int,0<=u->0<=v->v<18446744073709551616->u*18446744073709551616+v=qdq (jq V) (jq d)->
   (Option.bind (iZ u v (!decide (V<0)==decide (d<0))) λ(d:Int×Bool)=>some (d.1,d.2))=if -9223372036854775808<=Hi V d/\Hi V d<=9223372036854775807 then some (Hi V d,true) else some (0,false):=by
  intro u v u0 v0 v1 e;rw[MT u v _ u0 v0 v1,e,sgn];unfold Hi;generalize qdq (jq V) (jq d)=q at*
  by_cases s:(decide (V<0))=(decide (d<0))
  .rw[if_pos s,dy s];simp only[HZ,xS,fT];by_cases c:q<=9223372036854775807
   .rw[if_pos c,if_pos (by omega),bG];have uz:u=0:=by omega
    subst uz;have:v=q:=by omega
    rw[this]
   .rw[if_neg c,if_neg (by omega),bG]
  .rw[if_neg s,cE s];simp only[Bool.not_false,lr];by_cases c:q<=9223372036854775808
   .rw[if_pos c,if_pos (by omega),bG];have uz:u=0:=by omega
    subst uz;have:v=q:=by omega
    rw[this]
   .rw[if_neg c,if_neg (by omega),bG]
 by_cases c:jq V%jq d>=jq d-jq V%jq d
 .rw[dy c,bo];obtain⟨u,v,e3,u0,u1,v0,v1,e4⟩:=aht (ah/jq d) ((ah%jq d*18446744073709551616+al)/jq d) 0 1 q0 n0 (by omega) (by omega) n1 (by omega) (by omega);rw[e3,bG];simp only;refine fin u v u0 v0 v1 ?_;rw[e4];unfold qdq;rw[if_neg (by omega),Q];omega
 .rw[cE c,bq];refine fin _ _ q0 n0 n1 ?_;unfold qdq;rw[if_pos (by omega),Q];omega
theorem aTO (a d:Int)(nz:d≠0):((decide (a<0))=(decide (d<0))->0<=Hi a d)/\(¬(decide (a<0))=(decide (d<0))->Hi a d<=0):=by
 have D0:0<jq d:=by unfold jq;split<;>omega
 have q:=Ep (aLp a) (pk D0);have qn:0<=qdq (jq a) (jq d):=by unfold qdq;split<;>omega
 unfold Hi;constructor
 .intro h;rw[if_pos h];exact qn
 .intro h;rw[if_neg h];omega
theorem aSN (h l d:Int)(eA:Bool)(o:okW h l)(d0: -9223372036854775808<=d)(d1:d<=9223372036854775807)(nz:d≠0):
  rN h l d eA=some (sat (Hi (vW h l) d),eA||dq (Hi (vW h l) d)):=by
 simp only[rN,GS,Pg.bS,Pg.bM,Pg.ck,Pg.dX,Pg.dt];try delta wI wU
 have z:(d==0)=false:=by rw[afW];exact nz
 have sn:decide (h<0)=decide (vW h l<0):=by
  obtain⟨o1,o2,o3,o4⟩:=o;simp only[vW];by_cases c:h<0
  .rw[dy c,dy (by omega)]
  .rw[cE c,cE (by omega)]
 rw[z,bq,aJd h l d o d0 d1 nz,sn];have s:=aTO (vW h l) d nz;generalize vW h l=V at*
 by_cases c: -9223372036854775808<=Hi V d/\Hi V d<=9223372036854775807
 .rw[if_pos c,bG];simp only[aej,lr,bG]
 .rw[if_neg c,bG];simp only[aej,xS,fT,bG];by_cases e:(decide (V<0))=(decide (d<0))
  .have p:=s.1 e;have e2:(!decide (V<0)==decide (d<0))=false:=by rw[e,beq_self_eq_true];rfl
   rw[e2];unfold sat dq;rw[if_neg (by decide),if_neg (by omega),if_pos (by omega),dy (show 1152921504606846976<Hi V d by omega),Bool.or_true,Bool.or_true]
  .have p:=s.2 e
   have e2:(!decide (V<0)==decide (d<0))=true:=by
    have:(decide (V<0)==decide (d<0))=false:=by rw[afW];exact e
    rw[this];rfl
   rw[e2];unfold sat dq;rw[if_pos rfl,if_pos (by omega),dy (show Hi V d< -1152921504606846976 by omega),Bool.true_or,Bool.or_true]
theorem aOd (a b d:Int)(eA:Bool)(nz:sat d≠0):
  aU a b d eA=some (sat (Hi (sat a*sat b) (sat d)),((((eA||dq a)||dq b)||dq d)||dq (Hi (sat a*sat b) (sat d)))):=by
 simp only[aU,GU,Pg.bS,Pg.bM,Pg.ck,Pg.dX,Pg.dt];try delta wI wU
 have:=ly a;have:=ly b;have:=ly d;obtain⟨h,l,e1,e2,e3⟩:=Bt (sat a) (sat b) (by omega) (by omega) (by omega) (by omega);simp only[oI,bG,e1,aSN h l (sat d) _ e2 (by omega) (by omega) nz,e3]
theorem aOe (a b:Int)(s:Nat)(eA:Bool)(hs:s<=66)(nz:sat b≠0):
  bk a b (wr s) eA=some (sat (Hi (sat a*2^s) (sat b)),(((eA||dq a)||dq b)||dq (Hi (sat a*2^s) (sat b)))):=by
 simp only[bk,IH,Pg.bS,Pg.bM,Pg.ck,Pg.dX,Pg.dt];try delta wI wU
 have ha:=ly a;have hb:=ly b;have P0:=ml s;have PB:(2:Int)^s<=2^66:=am3 hs;have PV:(2:Int)^66=73786976294838206464:=by decide
 have m1:sat a*2^s<=1152921504606846976*73786976294838206464:=by
  rcases Wk 0 (sat a) with c|c
  .exact LK ha.2 (by omega) (pk P0) (by omega)
  .have:=aLo (a:= -sat a) (b:=2^s) (by omega) (pk P0);rw[Int.neg_mul] at this;omega
 have m2: -(1152921504606846976*73786976294838206464)<=sat a*2^s:=by
  rcases Wk 0 (sat a) with c|c
  .have:=aLo c (pk P0);omega
  .have:=LK (show -sat a<=1152921504606846976 by omega) (show(2:Int)^s<=73786976294838206464 by omega) (pk P0) (by omega);rw[Int.neg_mul] at this;omega
 have mv:(1152921504606846976:Int)*73786976294838206464=85070591730234615865843651857942052864:=by decide
 obtain⟨h,l,b',e1,o1,f1,v1,_⟩:=am4 (sat a) s (by omega) (by omega) (by omega);have bt:b'=true:=f1.2 ⟨by omega,by omega⟩;subst bt;have n0:decide (wr s<0)=false:=by simp
 have n1:decide (wr s>66)=false:=by simp only[dH];exact cE (by omega)
 simp only[oI,bG,n0,n1,bq,e1,aSN h l (sat b) _ o1 (by omega) (by omega) nz,v1 rfl]
theorem aSO (V:Int)(h:0<=V):∃r,isR r V:=by
 obtain⟨q,q0,q1,q2⟩:=aJb V h;have q3:(q+1)*(q+1)=q*q+2*q+1:=by grind
 by_cases c:q<V-q*q
 .exact⟨q+1,by omega,by omega,Or.inr (by omega)⟩
 .refine⟨q,q0,by omega,?_⟩;rcases Kc 0 q with k|k
  .exact Or.inr (by omega)
  .exact Or.inl (by omega)
theorem ahu (h l r:Int)(eA:Bool)(o:okW h l)(h0:0<=h)(hr:isR r (vW h l)):yO h l eA=some (sat r,eA||dq r):=by
 obtain⟨r',e1,e2,e3⟩:=atu h l o h0;have:=aTL hr e1;subst this;simp only[yO,alM,Pg.bS,Pg.bM,Pg.ck,Pg.dX,Pg.dt];try delta wI wU
 rw[e3];by_cases c:r<=9223372036854775807
 .rw[if_pos c,bG];simp only[HZ,bq,oI,bG]
 .rw[if_neg c,bG];simp only[Bool.not_false,bo,oI,bG]
  have a:sat r=sat 1152921504606846977:=by
   unfold sat;rw[if_neg (by omega),if_pos (by omega),if_neg (by omega),if_pos (by omega)]
  have b:dq r=dq 1152921504606846977:=by
   unfold dq;rw[dy (show 1152921504606846976<r by omega),dy (show(1152921504606846976:Int)<1152921504606846977 by omega),Bool.or_true,Bool.or_true]
  rw[a,b]
open Go.Ab Go.Ab.Pg
instance a4v (x:Int)(h:Bool):bp (aP x h):=⟨_,oI x h⟩
instance a3w (x a b:Int)(h:Bool):bp (aY x a b h):=aJ (p:=tY x a b h) (by simp only[tY,aL,aw,Ov,and_self])
instance a4f (b:Bool):bp (nS b):=aJ (p:=OM b) (by simp only[OM,aL,aw,Ov,and_self])
instance a4w (x:Int):bp (pV x):=aJ (p:=Bi x) (by simp only[Bi,aL,aw,Ov,and_self])
instance a4g (x:Int):bp (kI x):=aJ (p:=Vj x) (by simp only[Vj,aL,aw,bO,Ov,and_self])
instance a4x (a:Int)(b c d:Bool):bp (kl a b c d):=aJ (p:=Ec nS aP a b c d) (by simp only[Ec,aL,aw,bL,Ov,and_self])
instance a4y (x y:Int)(h:Bool):bp (bX x y h):=aJ (p:=IK aP x y h) (by simp only[IK,aL,aw,bL,Ov,and_self])
theorem aQ6 (a b:Int)(s:Nat)(hs:s<=120)(h:Bool):bp (aW a b (wr s) h):=⟨_,aFZ a b s h hs⟩
instance a3x (a b:Int)(h:Bool):bp (aW a b 30 h):=aQ6 a b 30 (by omega) h
instance a3y (a b:Int)(h:Bool):bp (aW a b 44 h):=aQ6 a b 44 (by omega) h
instance a3z (a b:Int)(h:Bool):bp (aW a b 10 h):=aQ6 a b 10 (by omega) h
instance t_m (a b:Int)(h:Bool):bp (K6 a b h):=aJ (p:=ao3 aW a b h) (by simp only[ao3,aL,aw,bL,Ov,and_self])
theorem a15 (s:Nat)(hs:s<=120)(n:Nat)(hn:n<=100)(eA:Bool)(f g:Nat->Int)(w w':Bool):bp (bx (wr s) n n eA f g w w'):=⟨_,aF0 s hs n hn eA f g w w'⟩
theorem MU (n:Nat)(hn:n<=100)(eA:Bool)(f g:Nat->Int)(w w':Bool):bp (bx 30 n n eA f g w w'):=a15 30 (by omega) n hn eA f g w w'
instance a4h (eA:Bool)(f g:Nat->Int)(w w':Bool):bp (bx 30 2 2 eA f g w w'):=MU 2 (by omega) eA f g w w'
instance a4i (eA:Bool)(f g:Nat->Int)(w w':Bool):bp (bx 30 3 3 eA f g w w'):=MU 3 (by omega) eA f g w w'
instance a4j (eA:Bool)(f g:Nat->Int)(w w':Bool):bp (bx 30 4 4 eA f g w w'):=MU 4 (by omega) eA f g w w'
instance a3A (eA:Bool)(f g:Nat->Int)(w w':Bool):bp (bx 30 24 24 eA f g w w'):=MU 24 (by omega) eA f g w w'
instance a3B (eA:Bool)(f g:Nat->Int)(w w':Bool):bp (bx 30 48 48 eA f g w w'):=MU 48 (by omega) eA f g w w'
theorem aLq (n:Nat)(hn:n<=1900)(eA:Bool)(l:Nat->Int)(w:Bool):bp (cJ n eA l w):=⟨_,aYv n hn eA l w⟩
instance a4k (eA:Bool)(l:Nat->Int)(w:Bool):bp (cJ 2 eA l w):=aLq 2 (by omega) eA l w
instance a4l (eA:Bool)(l:Nat->Int)(w:Bool):bp (cJ 3 eA l w):=aLq 3 (by omega) eA l w
theorem aYz (x y:Int)(h:Bool):bp (rN x y 0 h):=aJ (p:=GS nS BV kl x y 0 h) (by
 unfold GS;simp only[aL,aw,bL,Ov,and_self,AI];intro h;simp at h)
instance aJe (a b d:Int)(h:Bool):bp (aU a b d h):=by
 by_cases nz:sat d=0
 .have h1:=ly a;have h2:=ly b;obtain⟨x,y,e,_,_⟩:=Bt (sat a) (sat b) (by omega) (by omega) (by omega) (by omega);have:=(aYz x y (((h||dq a)||dq b)||dq d)).ok;refine⟨?_⟩;simp only[aU,GU,bS,bM,ck,oI,bG,e,nz];obtain⟨d,hd⟩:=this;rw[hd];exact⟨_,rfl⟩
 .exact⟨_,aOd a b d h nz⟩
theorem aYA (a b:Int)(s:Nat)(hs:s<=66)(h:Bool):bp (bk a b (wr s) h):=by
 by_cases nz:sat b=0
 .have h1:=ly a;obtain⟨x,y,q,e,_,_⟩:=am4 (sat a) s (by omega) (by omega) (by omega);have:=(aYz x y ((h||dq a)||dq b)).ok;refine⟨?_⟩;have n0:decide (wr s<0)=false:=by simp
  have n1:decide (wr s>66)=false:=by simp only[dH];exact cE (by omega)
  simp only[bk,IH,bS,bM,ck,oI,bG,n0,n1,bq,e,nz];obtain⟨d,hd⟩:=this;rw[hd];exact⟨_,rfl⟩
 .exact⟨_,aOe a b s h hs nz⟩
instance a3C (a b:Int)(h:Bool):bp (bk a b 30 h):=aYA a b 30 (by omega) h
instance a3D (a b:Int)(h:Bool):bp (bk a b 44 h):=aYA a b 44 (by omega) h
def sq2 (f:Nat->Int)(n:Nat):Int:=eJ (λj=>sat (f j)*sat (f j)) n
theorem aAQ (f:Nat->Int):∀n,0<=sq2 f n
 |0=>dW 0
 |n+1=>by
  have:=aAQ f n
  have h2:0<=sat (f n)*sat (f n):=by
   rcases Wk 0 (sat (f n)) with h|h
   .exact pj h h
   .exact Int.mul_nonneg_of_nonpos_of_nonpos h h
  unfold sq2 at*;rw[eJ];omega
theorem aTP (n:Nat)(hn:n<=64)(eA:Bool)(f:Nat->Int)(w:Bool):∃r,isR r (sq2 f n)/\cB n eA f w=some (sat r,(eA||mA (λj=>dq (f j)) n)||dq r):=by
 have nn:=aAQ f n
 have key:∃x,cB n eA f w=x/\∃h l,okW h l/\vW h l=sq2 f n/\x=(yO h l (eA||mA (λj=>dq (f j)) n)):=by
  refine⟨_,rfl,?_⟩;have m:(if 64<wr n then(64:Int) else wr n)=wr n:=by rw[if_neg (by simp only[dH];omega)]
  have k:HF (wr n) n=true:=by simp[HF]
  have q:z4 (wr n)=n:=rfl;simp only[cB,QA,bS,bM,ck,dX,m,k,q,bo];unfold Jy
  obtain⟨x,hx,i,h,l,ho,hv,rfl⟩:=aac (s:=tZ aP fE ku)
   (λt d=>∃(i:Nat) (h l':Int),i+t=n/\okW h l'/\vW h l'=sq2 f i/\d=(((n,w&&false),wr n,wr i),(eA||mA (λj=>dq (f j)) i),(n,f),h,l'))
   (λx=>∃(i:Nat) (h l':Int),okW h l'/\vW h l'=sq2 f n/\x=(((n,w&&false),wr n,wr n,decide (wr n<wr n)),(eA||mA (λj=>dq (f j)) n),(n,f),h,l')) (λt d=>by
    rintro ⟨i,h,l',hi,ho,hv,rfl⟩
    have bnd:=aek (λj=>sat (f j)*sat (f j)) 1329227995784915872903807060280344576 (by omega) i (λj _=>RB _ _);have hv':vW h l'=eJ (λj=>sat (f j)*sat (f j)) i:=hv;rcases SO t with t0|t0
    .have e:i=n:=by omega
     subst e;simp only[tZ,bS,bM,ck,dX,ao9 (cR i),bq];exact⟨_,rfl,i,h,l',ho,hv,by rfl⟩
    .have hs1:=ly (f i);have hm:=RB (f i) (f i);obtain⟨h1,l1,e1,o1,v1⟩:=Bt (sat (f i)) (sat (f i)) (by omega) (by omega) (by omega) (by omega)
     obtain⟨h2,l2,e2,o2,v2⟩:=X7 (λj:Nat=>bif z9 j 1 then h1 else bif z9 j 0 then h else h) (λj:Nat=>bif z9 j 1 then l1 else bif z9 j 0 then l' else l') true
      ho o1 (by show _<=vW h l'+vW h1 l1;rw[hv',v1];omega) (by show vW h l'+vW h1 l1<_;rw[hv',v1];omega)
     have v2:vW h2 l2=vW h l'+vW h1 l1:=v2;rw[hv',v1] at v2;have q:z4 (wr i)=i:=rfl;simp only[tZ,bS,bM,ck,dX,wI,ao8 hi t0,aaS (show i<n by omega),bo,q,oI,bG,e1,e2,apa (show i<9000000000000000000 by omega)];refine⟨_,rfl,t-1,by omega,i+1,h2,l2,by omega,o2,v2,?_⟩;simp only[mA,Bool.or_assoc])
   2000 n (((n,w&&false),wr n,0),eA,(n,f),0,0) (by omega) ⟨0,0,0,by omega,⟨by omega,by omega,by omega,by omega⟩,rfl,by simp only[mA,LL];rfl⟩
  rw[hx];refine⟨h,l,ho,hv,?_⟩;simp only[bG];cases yO h l (eA||mA (λj=>dq (f j)) n)<;>rfl
 obtain⟨x,hx,h,l,ho,hv,rfl⟩:=key
 have h0:0<=h:=by
  obtain⟨o1,o2,o3,o4⟩:=ho;rw[<-hv] at nn;simp only[vW] at nn;omega
 obtain⟨r,hr,_,_⟩:=atu h l ho h0;refine⟨r,hv▸hr,?_⟩;rw[hx];exact ahu h l r _ ho h0 hr
theorem aF2 (n:Nat)(hn:n<=64)(eA:Bool)(f:Nat->Int)(w:Bool):bp (cB n eA f w):=by
 obtain⟨r,_,h⟩:=aTP n hn eA f w;exact⟨_,h⟩
instance a2J (eA:Bool)(f:Nat->Int)(w:Bool):bp (cB 3 eA f w):=aF2 3 (by omega) eA f w
instance a2K (eA:Bool)(f:Nat->Int)(w:Bool):bp (cB 4 eA f w):=aF2 4 (by omega) eA f w
theorem av1:∀(d:mR.B) (hd:0<=d.1.2.2.2.2/\d.1.2.2.2.2<=d.1.2.2.2.1/\d.1.2.2.2.1<=1999/\d.1.2.2.2.1=((d.1.2.2.1.1:Nat):Int)),Ok (OR d) (λx:Bk=>True):=
 bV (λd:mR.B=>z4 (d.1.2.2.2.1-d.1.2.2.2.2)) (λd hd=>by
  have hw:wI (d.1.2.2.2.2+1)=d.1.2.2.2.2+1:=aZ;unfold OQ;simp only[bU];simp only[nf,uq,hw];repeat' (first|exact True.intro|omega|(intro _)|(apply And.intro))) (λd hd=>by omega)
theorem ayD (x0:Int)(x1:Nat)(h1:1<=x1)(h2:x1<=1000)(x2:Bool)(x3:Nat->Int)(w0:Bool):bp (ni x0 x1 x2 x3 w0):=by
 unfold ni WY;refine aJ ?_;rw[bO,bO];refine⟨by simp only[bz];omega,by simp only[adR];omega,?_⟩;refine ax (av1 _ (hdN (x1-1) (by omega))) λd _ hd=> ?_;simp only[aw]
instance a16 (x0:Int)(x2:Bool)(x3:Nat->Int)(w0:Bool):bp (ni x0 6 x2 x3 w0):=ayD _ _ (by omega) (by omega) _ _ _
instance a17 (x0:Int)(x2:Bool)(x3:Nat->Int)(w0:Bool):bp (ni x0 7 x2 x3 w0):=ayD _ _ (by omega) (by omega) _ _ _
instance a1e (x0:Int)(x2:Bool)(x3:Nat->Int)(w0:Bool):bp (ni x0 12 x2 x3 w0):=ayD _ _ (by omega) (by omega) _ _ _
instance a1f (x0:Int)(x1:Bool):bp (oz x0 x1):=by
 unfold oz alV;exact aJ (by simp only[bU])
instance a1g (x0:Int)(x1:Bool):bp (sE x0 x1):=by
 unfold sE alW;exact aJ (by simp only[bU])
instance aZm (x0:Int)(x1:Int)(x2:Bool):bp (zZ x0 x1 x2):=by
 unfold zZ ace;exact aJ (by simp only[bU])
instance a18 (x0:Int)(x1:Int)(x2:Int)(x3:Int)(x4:Int)(x5:Int)(x6:Bool):bp (wo x0 x1 x2 x3 x4 x5 x6):=by
 unfold wo atd;exact aJ (by simp only[bU])
instance aZR (x0:Int)(x1:Int)(x2:Int)(x3:Int)(x4:Bool):bp (uJ x0 x1 x2 x3 x4):=by
 unfold uJ agS;exact aJ (by simp only[bU])
instance a1h (x0:Int)(x1:Int)(x2:Int)(x3:Bool):bp (qd x0 x1 x2 x3):=by
 unfold qd alY;exact aJ (by simp only[bU])
instance a19 (x0:Int)(x1:Int)(x2:Int)(x3:Bool):bp (Cp x0 x1 x2 x3):=by
 unfold Cp ate;exact aJ (by simp only[bU])
instance aYB (x0:Int)(x1:Int)(x2:Bool):bp (wj x0 x1 x2):=by
 unfold wj WM;exact aJ (by simp only[bU])
instance aLr (x0:Int)(x1:Int)(x2:Int)(x3:Int)(x4:Bool):bp (jL x0 x1 x2 x3 x4):=by
 unfold jL Cm;exact aJ (by simp only[bU])
theorem aF3:∀(d:sF.B) (hd:0<=d.1/\d.1<=4),Ok (IN d) (λx:IM=>True):=
 bV (λd:sF.B=>z4 (4-d.1)) (λd hd=>by
  have hw:wI (d.1+1)=d.1+1:=aZ;unfold aci;simp only[bU];simp only[nf,uq,hw];repeat' (first|exact True.intro|omega|(intro _)|(apply And.intro))) (λd hd=>by omega)
instance a1i (x0:Int)(x1:Int)(x2:Int)(x3:Int)(x4:Bool):bp (sG x0 x1 x2 x3 x4):=by
 unfold sG al0;refine aJ ?_;refine ax (aF3 _ (by simp)) λd _ hd=> ?_;simp only[bU]
instance a1j:bp oA:=by
 unfold oA al5;exact aJ (by simp only[bU])
instance aZS (x0:Int)(x1:Int)(x2:Int)(x3:Int):bp (Cq x0 x1 x2 x3):=by
 unfold Cq agZ;exact aJ (by simp only[bU])
theorem ayE:∀(d:oB.B) (hd:0<=d.1.2/\d.1.2<=3),Ok (Tg d) (λx:DG=>True):=
 bV (λd:oB.B=>z4 (3-d.1.2)) (λd hd=>by
  have hw:wI (d.1.2+1)=d.1.2+1:=aZ;unfold Tf;simp only[bU];simp only[nf,uq,hw];repeat' (first|exact True.intro|omega|(intro _)|(apply And.intro))) (λd hd=>by omega)
instance aZn (x0:Nat->Int)(x1:Int):bp (eV x0 x1):=by
 unfold eV ack;refine aJ ?_;refine ax (ayE _ (by simp)) λd _ hd=> ?_;simp only[bU]
theorem ayF:∀(d:oC.B) (hd:0<=d.1.2.2.2.2/\d.1.2.2.2.2<=d.1.2.2.2.1/\d.1.2.2.2.1<=1999/\d.1.2.2.2.1=((d.1.2.2.1.1:Nat):Int)),Ok (Ti d) (λx:DH=>True):=
 bV (λd:oC.B=>z4 (d.1.2.2.2.1-d.1.2.2.2.2)) (λd hd=>by
  have hw:wI (d.1.2.2.2.2+1)=d.1.2.2.2.2+1:=aZ;unfold Th;simp only[bU];simp only[nf,uq,hw];repeat' (first|exact True.intro|omega|(intro _)|(apply And.intro))) (λd hd=>by omega)
theorem ari (x0:Nat->Int)(x1:Int)(x2:Nat)(x3:Nat->Int)(w0:Bool)(h:x2<=1999):bp (eW x0 x1 x2 x3 w0):=by
 unfold eW aco;refine aJ ?_;rw[aQ,bO];refine⟨rfl,?_⟩;refine ax (ayF _ (hdN x2 h)) λd _ hd=> ?_;simp only[bU]
instance a3E (x0:Nat->Int)(x1:Int)(x3:Nat->Int)(w0:Bool):bp (eW x0 x1 3 x3 w0):=ari _ _ _ _ _ (by omega)
instance a3F (x0:Nat->Int)(x1:Int)(x3:Nat->Int)(w0:Bool):bp (eW x0 x1 4 x3 w0):=ari _ _ _ _ _ (by omega)
instance a1k (x0:Int)(x1:Int)(x2:Int)(x3:Int)(x4:Int)(x5:Int)(x6:Int)(x7:Int)(x8:Bool):bp (Rt x0 x1 x2 x3 x4 x5 x6 x7 x8):=by
 unfold Rt al7;exact aJ (by simp only[bU])
instance a1l (x0:Int)(x1:Int)(x2:Int)(x3:Int)(x4:Bool):bp (Ru x0 x1 x2 x3 x4):=by
 unfold Ru al9;exact aJ (by simp only[bU])
theorem am5:∀(d:js.B) (hd:0<=d.1.2.2/\d.1.2.2<=d.1.1/\d.1.1<=1999/\d.1.1<=24),Ok (H7 d) (λx:uu=>True):=
 bV (λd:js.B=>z4 (d.1.1-d.1.2.2)) (λd hd=>by
  have hw:wI (d.1.2.2+1)=d.1.2.2+1:=aZ;unfold H6;simp only[bU];simp only[nf,uq,hw];repeat' (first|exact True.intro|omega|(intro _)|(apply And.intro))) (λd hd=>by omega)
theorem pI (x0:Int)(x1:Int)(x2:Int)(x3:Nat->Int)(h0:0<=x0)(h1:x0<=x1)(h2:x1<=24):bp (yR x0 x1 x2 x3):=by
 unfold yR Mm;refine aJ ?_;refine ax (am5 _ (by dsimp only;omega)) λd _ hd=> ?_;simp only[aw]
instance aUT (x0:Int)(x1:Bool):bp (kc x0 x1):=by
 unfold kc DJ;exact aJ (by simp only[bU])
theorem apt:∀(d:fG.B) (hd:0<=d.1/\d.1<=24),Ok (wu d) (λx:nT=>True):=
 bV (λd:fG.B=>z4 (24-d.1)) (λd hd=>by
  have hw:wI (d.1+1)=d.1+1:=aZ;unfold wq;simp only[bU];simp only[nf,uq,hw];repeat' (first|exact True.intro|omega|(intro _)|(apply And.intro))) (λd hd=>by omega)
theorem apu:∀(d:fH.B) (hd:0<=d.1/\d.1<=276),Ok (wy d) (λx:nU=>True):=
 bV (λd:fH.B=>z4 (276-d.1)) (λd hd=>by
  have hw:wI (d.1+1)=d.1+1:=aZ;unfold wx;simp only[bU];simp only[nf,uq,hw];repeat' (first|exact True.intro|omega|(intro _)|(apply And.intro))) (λd hd=>by omega)
instance aTQ (x0:Nat->Int)(x1:Nat->Int)(x2:Bool):bp (fS x0 x1 x2):=by
 unfold fS Bl;refine aJ ?_;refine ax (apt _ (by simp)) λd _ hd=> ?_;refine ax (apu _ (by simp)) λd _ hd=> ?_;simp only[bU]
theorem aHz:∀(d:rR.B) (hd:0<=d.1.2/\d.1.2<=24),Ok (Vn d) (λx:G3=>True):=
 bV (λd:rR.B=>z4 (24-d.1.2)) (λd hd=>by
  have hw:wI (d.1.2+1)=d.1.2+1:=aZ;unfold Vm;simp only[bU];simp only[nf,uq,hw];repeat' (first|exact True.intro|omega|(intro _)|(apply And.intro))) (λd hd=>by omega)
instance a2a (x0:Nat)(x1:Bool)(x2:Nat->Int)(w0:Bool):bp (Kk x0 x1 x2 w0):=by
 unfold Kk ag2;refine aJ ?_;rw[aQ,bO];refine⟨rfl,?_⟩;refine ax (aHz _ (by simp)) λd _ hd=> ?_;simp only[bU]
theorem aQ7:∀j:Nat,j<24->0<=wI (t8 (wI ((j:Int)*wI ((j:Int)-1))) 2)/\wI (t8 (wI ((j:Int)*wI ((j:Int)-1))) 2)+(j:Int)<=276+(if j=0 then 1 else 0):=by decide
theorem aOf {i j:Int}{d:Vo}(h:fx i j=some d)(ok:d.2=true):0<=d.1/\d.1<276:=by
 simp only[fx,yS,bS,bM] at h;by_cases h0:0<=i
 .by_cases h1:i<j
  .simp only[EL,h0,h1,Ji,bo,hM] at h;subst h;have h2:j<24:=db ok;obtain⟨n,rfl⟩:=Int.eq_ofNat_of_zero_le (by omega:0<=j);obtain⟨k1,k2⟩:=aQ7 n (by omega);rw[if_neg (by omega)] at k2;generalize wI (t8 (wI ((n:Int)*wI ((n:Int)-1))) 2)=c at*
   show 0<=wI (c+i)/\wI (c+i)<276;rw[dS (by omega) (by omega)];omega
  .simp only[EL,h0,h1,Ji,Kb,bo,bq,hM] at h;subst h;cases ok
 .simp only[EL,h0,Kb,bq,hM] at h;subst h;cases ok
instance aZT (x0:Int)(x1:Int):bp (fx x0 x1):=by
 unfold fx yS;exact aJ (by simp only[bU])
instance a3G (x0:Nat->Int)(x1:Nat->Int)(x2:Int)(x3:Int):bp (wA x0 x1 x2 x3):=by
 have key:∀d,fx x2 x3=some d->((!d.2)=false->bg d.1 276=true/\wl (0+z4 d.1*1+1) 276=true):=λd h k=>by
  have:=aOf h (by simpa using k);simp only[bz,ch];omega
 unfold wA amd;refine aJ ?_;simp only[bU,nf];repeat' (first|(apply And.intro)|(intro _ h k;exact⟨λ_=>(key _ h k).2,(key _ h k).1⟩)|(intro _ h k;exact key _ h k)|(intro _))
instance a2b (x0:Nat->Int)(x1:Nat->Int)(x2:Int)(x3:Int)(x4:Int):bp (ua x0 x1 x2 x3 x4):=by
 unfold ua Xl;refine aJ ?_;simp only[bU,nf];intro d h k;have:=aOf h k;simp only[bz,ch,cK];omega
theorem atv:∀(d:ib.B) (hd:0<=d.1/\d.1<=24),Ok (ET d) (λx:tC=>True):=
 bV (λd:ib.B=>z4 (24-d.1)) (λd hd=>by
  have hw:wI (d.1+1)=d.1+1:=aZ;unfold ES;simp only[bU];simp only[nf,uq,hw];repeat' (first|exact True.intro|omega|(intro _)|(apply And.intro))) (λd hd=>by omega)
instance aUU:bp (nF):=by
 unfold nF JB;refine aJ ?_;refine ax (atv _ (by simp)) λd _ hd=> ?_;simp only[bU]
theorem aCt:∀(d:qg.B) (hd:0<=d.1/\d.1<=3),Ok (Xn d) (λx:FO=>True):=
 bV (λd:qg.B=>z4 (3-d.1)) (λd hd=>by
  have hw:wI (d.1+1)=d.1+1:=aZ;unfold Xm;try dsimp only
  by_cases hc:d.1<3
  case neg=>simp only[hc,Kb,aL,aw,jI,Ov,Cf,xS,FD]
  have h1:wI (3*d.1)=3*d.1:=dS;have h2:wI (3*d.1+3)=3*d.1+3:=dS;have h3:z4 (3*d.1+3)-z4 (3*d.1)=3:=by omega
  simp only[h1,h2,h3];simp only[bU];simp only[nf,uq,hw];repeat' (first|exact True.intro|omega|(intro _)|(apply And.intro))) (λd hd=>by omega)
instance aLs (x0:Nat->Int)(x1:Int)(x2:Int)(x3:Int)(x4:Bool):bp (mi x0 x1 x2 x3 x4):=by
 unfold mi ag6;refine aJ ?_;refine ax (aCt _ (by simp)) λd _ hd=> ?_;simp only[bU]
theorem aF4:∀(d:sH.B) (hd:0<=d.1/\d.1<=3),Ok (acB d) (λx:IS=>True):=
 bV (λd:sH.B=>z4 (3-d.1)) (λd hd=>by
  have hw:wI (d.1+1)=d.1+1:=aZ;unfold acA;try dsimp only
  by_cases hc:d.1<3
  case neg=>simp only[hc,Kb,aL,aw,jI,Ov,Cf,xS,FD]
  have h1:wI (6+d.1)=6+d.1:=dS;have h2:wI (3+d.1)=3+d.1:=dS;simp only[h1,h2];simp only[bU];simp only[nf,uq,hw];repeat' (first|exact True.intro|omega|(intro _)|(apply And.intro))) (λd hd=>by omega)
instance aOg (x0:Nat->Int)(x1:Int)(x2:Int)(x3:Int)(x4:Bool):bp (sI x0 x1 x2 x3 x4):=by
 unfold sI amh;refine aJ ?_;refine ax (aF4 _ (by simp)) λd _ hd=> ?_;simp only[bU]
instance aZU (x0:Int)(x1:Int)(x2:Bool)(x3:Bool):bp (Cr x0 x1 x2 x3):=by
 unfold Cr Vq;exact aJ (by simp only[bU])
instance aZV (x0:Int)(x1:Bool)(x2:Bool)(x3:Bool)(x4:Bool)(x5:Bool)(x6:Bool)(x7:Bool)(x8:Bool)(x9:Int)(fU:Int)(fV:Int):bp (Cs x0 x1 x2 x3 x4 x5 x6 x7 x8 x9 fU fV):=by
 unfold Cs Vr;exact aJ (by simp only[bU])
instance aYC (x0:Int):bp (Bn x0):=by
 unfold Bn FP;exact aJ (by simp only[bU])
theorem aF5 {x d:Int}(h:Bn x=some d):0<=d/\d<6:=by
 have k:PQ (FP x) (λd=>0<=d/\d<6):=by
  simp only[FP,aL,aw];refine⟨λ_=>by decide,λ_=>⟨λ_=>by decide,λ_=>by decide⟩⟩
 exact Ok.post k h
theorem av2:∀(d:kK.B) (hd:0<=d.1.2/\d.1.2<=4),Ok (G6 d) (λx:vT=>True):=
 bV (λd:kK.B=>z4 (4-d.1.2)) (λd hd=>by
  have hw:wI (d.1.2+1)=d.1.2+1:=aZ;unfold G5;simp only[bU];simp only[nf,uq,hw];repeat' (first|exact True.intro|omega|(intro _ h;have:=aF5 h;revert this;clear h;intro this)|(intro _)|(apply And.intro))) (λd hd=>by omega)
instance aYD (x0:Int)(x1:Bool)(x2:Bool)(x3:Bool)(x4:Bool)(x5:Bool)(x6:Bool)(x7:Bool)(x8:Bool)(x9:Int)(fU:Int)(fV:Int):bp (wB x0 x1 x2 x3 x4 x5 x6 x7 x8 x9 fU fV):=by
 unfold wB Mt;refine aJ ?_;refine ax (av2 _ (by simp)) λd _ hd=> ?_;simp only[bU]
instance aZW (x:G7.B):bp (Cu x):=by
 unfold Cu Vs;try dsimp only
 exact aJ (by simp only[bU])
theorem aHA (a:Nat)(i:Int):∀(d:vF.B) (hd:0<=d.1.2.2.2.2.2.2/\d.1.2.2.2.2.2.2<=d.1.2.2.2.2.2.1/\d.1.2.2.2.2.2.1<=1999/\d.1.1.1=a/\d.1.2.1=i/\d.1.2.2.2.1=i/\d.1.2.2.2.2.1.1=a/\d.1.2.2.2.2.2.1=(a:Int)/\(d.1.2.2.1:Int)<=d.1.2.2.2.2.2.2/\0<=i/\i<3),Ok (ahd d) (λx:Mw=>x.1.1.1=a/\x.1.2.1=i/\x.1.2.2.2.1=i/\x.1.2.2.1<=a):=
 bV (λd:vF.B=>z4 (d.1.2.2.2.2.2.1-d.1.2.2.2.2.2.2)) (λd hd=>by
  have hw:wI (d.1.2.2.2.2.2.2+1)=d.1.2.2.2.2.2.2+1:=aZ;unfold ahc;simp only[bU];simp only[nf,uq,hw];repeat' (first|exact True.intro|omega|(intro _)|(apply And.intro))) (λd hd=>by omega)
theorem aHB:∀(d:vG.B) (hd:0<=d.1.2/\d.1.2<=3/\d.1.1.1<=1900),Ok (ahf d) (λx:Mx=>True):=
 bV (λd:vG.B=>z4 (3-d.1.2)) (λd hd=>by
  unfold ahe;try dsimp only
  rw[aL];refine⟨λh=> ?_,λ_=>by simp only[aw,jI]⟩;have h:=db h;rw[bO,bO,aQ];refine⟨rfl,rfl,ax (aHA d.1.1.1 d.1.2 _ ?_) λx _ hx=> ?_⟩
  .dsimp only;simp only[dH,AI,Cf];omega
  obtain⟨a1,a2,a3,a4⟩:=hx;rw[aQ,bO];have hw:wI (d.1.2+1)=d.1.2+1:=aZ;have:=aLq x.1.2.2.1 (by omega);simp only[bU];simp only[nf,o7,uq,hw,a1,a2,a3];repeat' (first|exact True.intro|omega|(intro _)|(apply And.intro))) (λd hd=>by omega)
theorem ahv (x0:Nat)(x1:Bool)(x2:Nat->Int)(x3:Nat->Int)(x4:Nat->Int)(w0:Bool)(h:x0<=1900):bp (kE x0 x1 x2 x3 x4 w0):=by
 unfold kE atl;refine aJ ?_;rw[aQ,bO];refine⟨rfl,?_⟩;refine ax (aHB _ (by dsimp only;omega)) λd _ hd=> ?_;simp only[bU]
instance a3H (x1:Bool)(x2 x3 x4:Nat->Int)(w0:Bool):bp (kE 2 x1 x2 x3 x4 w0):=ahv _ _ _ _ _ _ (by omega)
instance a3I (x1:Bool)(x2 x3 x4:Nat->Int)(w0:Bool):bp (kE 3 x1 x2 x3 x4 w0):=ahv _ _ _ _ _ _ (by omega)
theorem aCu (i:Int):∀(d:qh.B) (hd:0<=d.1.2.2/\d.1.2.2<=4/\d.1.2.1=i),Ok (fI d) (λx:FR=>x.1.2.1=i):=
 bV (λd:qh.B=>z4 (4-d.1.2.2)) (λd hd=>by
  have hw:wI (d.1.2.2+1)=d.1.2.2+1:=aZ;unfold Xu;simp only[bU];simp only[nf,o7,uq,hw];repeat' (first|exact True.intro|omega|(intro _)|(apply And.intro))) (λd hd=>by omega)
theorem aCv:∀(d:qi.B) (hd:0<=d.1/\d.1<=2),Ok (FU d) (λx:FT=>True):=
 bV (λd:qi.B=>z4 (2-d.1)) (λd hd=>by
  unfold kd;try dsimp only
  rw[aL];refine⟨λh=> ?_,λ_=>by simp only[aw,jI]⟩;have h:=db h;rw[bL];intro d1 _;refine ax (aCu d.1 _ (by simp)) λx _ hx=> ?_;have hw:wI (d.1+1)=d.1+1:=aZ;simp only[aw,mK,hx,hw];omega) (λd hd=>by omega)
instance aZX (x0:Int)(x1:Int)(x2:Int)(x3:Int)(x4:Bool):bp (c9 x0 x1 x2 x3 x4):=by
 unfold c9 Vu;refine aJ ?_;rw[bL];intro d _;rw[aL];refine⟨λ_=>by simp only[bU],λ_=>ax (aCv _ (by simp)) λd _ hd=> ?_⟩;simp only[aw]
theorem apv (a b:Int):∀(d:fJ.B) (hd:0<=d.1.2.2.2/\d.1.2.2.2<=d.1.2.2.1/\d.1.2.2.1<=1999/\d.1.2.2.1<=24/\d.1.1=a/\d.1.2.1=b),Ok (Cy d) (λx:nV=>x.1.1=a/\x.1.2.1=b):=
 bV (λd:fJ.B=>z4 (d.1.2.2.1-d.1.2.2.2)) (λd hd=>by
  have hw:wI (d.1.2.2.2+1)=d.1.2.2.2+1:=aZ;unfold Cw;simp only[bU];simp only[nf,o7,uq,hw];repeat' (first|exact True.intro|omega|(intro _)|(apply And.intro))) (λd hd=>by omega)
theorem apw (a b:Int):∀(d:fK.B) (hd:0<=d.1.2.2/\d.1.2.2<=24/\d.1.1=a/\d.1.2.1=b/\0<=a/\a<24),Ok (CA d) (λx:nW=>x.1.2.1=b):=
 bV (λd:fK.B=>z4 (24-d.1.2.2)) (λd hd=>by
  have hw:wI (d.1.2.2+1)=d.1.2.2+1:=aZ;unfold Cz;simp only[bU];simp only[nf,o7,uq,hw];repeat' (first|exact True.intro|omega|(intro _)|(apply And.intro))) (λd hd=>by omega)
theorem apx:∀(d:gw.B) (hd:0<=d.1/\d.1<=24),Ok (CC d) (λx:qY=>True):=
 bV (λd:gw.B=>z4 (24-d.1)) (λd hd=>by
  have hw:wI (d.1+1)=d.1+1:=aZ;unfold CB;have h1:wI (24+d.1)=24+d.1:=dS;simp only[h1];simp only[bU];simp only[nf,o7,uq,hw];repeat' (first|exact True.intro|omega|(intro _)|(apply And.intro))) (λd hd=>by omega)
theorem apy:∀(d:fL.B) (hd:0<=d.1/\d.1<=24),Ok (CE d) (λx:nX=>True):=
 bV (λd:fL.B=>z4 (24-d.1)) (λd hd=>by
  unfold CD;rw[aL];refine⟨λh=> ?_,λ_=>by simp only[aw,jI]⟩;have h:=db h;have hw:wI (d.1+1)=d.1+1:=aZ;refine ax (apv d.1 d.1 _ (by dsimp only;rw[hw];omega)) λx _ hx=> ?_;refine ax (apw d.1 d.1 _ (by dsimp only;omega)) λx _ hx=> ?_;simp only[aw,mK,hx,hw];omega) (λd hd=>by omega)
instance aTR (x0:Nat->Int)(x1:Nat->Int)(x2:Bool)(x3:Nat->Int):bp (qZ x0 x1 x2 x3):=by
 unfold qZ G8;refine aJ ?_;refine ax (apy _ (by simp)) λd _ hd=> ?_;refine ax (apx _ (by simp)) λd _ hd=> ?_;simp only[bU]
instance aZY (x0:Nat->Int):bp (cC x0):=by
 unfold cC ahi;exact aJ (by simp only[bU])
instance aUV (x0:Nat->Int)(x1:Int)(x2:Int)(x3:Int)(x4:Int):bp (lW x0 x1 x2 x3 x4):=by
 unfold lW JE;exact aJ (by simp only[bU])
instance aZo (x0:Int)(x1:Int)(x2:Int)(x3:Int)(x4:Int)(x5:Int)(x6:Int)(x7:Int)(x8:Bool):bp (IT x0 x1 x2 x3 x4 x5 x6 x7 x8):=by
 unfold IT acG;exact aJ (by simp only[bU])
instance am6 (x0:Int)(x1:Bool):bp (wC x0 x1):=by
 unfold wC XF;exact aJ (by simp only[bU])
instance a1m (x0:Int)(x1:Int)(x2:Int)(x3:Int)(x4:Int)(x5:Int)(x6:Int)(x7:Int)(x8:Bool):bp (lE x0 x1 x2 x3 x4 x5 x6 x7 x8):=by
 unfold lE amz;try dsimp only
 exact aJ (by simp only[bU])
theorem aLt:∀(d:yW.B) (hd:0<=d.1/\d.1<=4),Ok (amB d) (λx:Rx=>True):=
 bV (λd:yW.B=>z4 (4-d.1)) (λd hd=>by
  have hw:wI (d.1+1)=d.1+1:=aZ;unfold amA;simp only[bU];simp only[nf,o7,uq,hw];repeat' (first|exact True.intro|omega|(intro _)|(apply And.intro))) (λd hd=>by omega)
instance aJf (x0:Int)(x1:Int)(x2:Int)(x3:Int)(x4:Bool):bp (ja x0 x1 x2 x3 x4):=by
 unfold ja ays;try dsimp only
 refine aJ ?_;refine ax (aLt _ (by simp)) λd _ hd=> ?_;simp only[bU]
instance a2L:bp nH:=by
 have b1:=λx=>pI 0 4 1073741840 x (by omega) (by omega) (by omega)
 have b2:=λx=>pI 4 7 549755813888 x (by omega) (by omega) (by omega)
 have b3:=λx=>pI 7 10 9007199254740992 x (by omega) (by omega) (by omega)
 have b4:=λx=>pI 10 13 134217728 x (by omega) (by omega) (by omega)
 have b5:=λx=>pI 13 16 1073741824 x (by omega) (by omega) (by omega)
 have b6:=λx=>pI 16 22 2147483648 x (by omega) (by omega) (by omega)
 have b7:=λx=>pI 22 24 137438953472 x (by omega) (by omega) (by omega)
 unfold nH TA;exact aJ (by simp only[bU])
theorem av3:∀(d:kO.B) (hd:0<=d.1/\d.1<=24),Ok (G' d) (λx:vX=>True):=
 bV (λd:kO.B=>z4 (24-d.1)) (λd hd=>by
  have hw:wI (d.1+1)=d.1+1:=aZ;unfold G9;simp only[bU];simp only[nf,o7,uq,hw];repeat' (first|exact True.intro|omega|(intro _)|(apply And.intro))) (λd hd=>by omega)
instance aYE (x0:Nat->Int)(x1:Bool):bp (nk x0 x1):=by
 unfold nk MD;refine aJ ?_;rw[bL];intro d _;refine ax (av3 _ (by simp)) λd _ hd=> ?_;simp only[aw]
theorem aZZ {x:Int}{y:V7}(h:pV x=some y)(k:(y:Int)<=1073741840): -1073741840<=x/\x<=1073741840:=by
 have e:PQ (Bi x) (λy:V7=>(y:Int)<=1073741840-> -1073741840<=x/\x<=1073741840):=by
  by_cases c:x<0/\ -1152921504606846976<x
  .have w:wI (0-x)=0-x:=dS;simp only[Bi,aL,aw,EL,jG,Ot,w];exact⟨λ_=>(show(1152921504606846976:Int)<=1073741840-> -1073741840<=x/\x<=1073741840 by omega),λ_=>⟨λ_=>(show(1152921504606846976:Int)<=1073741840-> -1073741840<=x/\x<=1073741840 by omega),λ_=>⟨λ_=>(show(0-x:Int)<=1073741840-> -1073741840<=x/\x<=1073741840 by omega),λ_=>(show x<=1073741840-> -1073741840<=x/\x<=1073741840 by omega)⟩⟩⟩
  .simp only[Bi,aL,aw,EL,jG,Ot];exact⟨λ_=>(show(1152921504606846976:Int)<=1073741840-> -1073741840<=x/\x<=1073741840 by omega),λ_=>⟨λ_=>(show(1152921504606846976:Int)<=1073741840-> -1073741840<=x/\x<=1073741840 by omega),λ_=>⟨λ_=>by omega,λ_=>(show x<=1073741840-> -1073741840<=x/\x<=1073741840 by omega)⟩⟩⟩
 exact Ok.post e h k
theorem apz (a b:Int):∀(d:fM.B) (hd:0<=d.1.2.2/\d.1.2.2<=24/\d.1.1=a/\d.1.2.1=b/\0<=a/\a<24),Ok (CG d) (λx:nZ=>x.1.2.1=b):=
 bV (λd:fM.B=>z4 (24-d.1.2.2)) (λd hd=>by
  have hw:wI (d.1.2.2+1)=d.1.2.2+1:=aZ;unfold CF;simp only[bU];simp only[nf,o7,uq,hw];repeat' (first|exact True.intro|omega|(intro _)|(apply And.intro))) (λd hd=>by omega)
theorem apA (a:Int):∀(d:eQ.B) (hd:0<=d.1.2/\d.1.2<=48/\d.1.1=a/\0<=a/\a<24),Ok (wG d) (λx:lF=>x.1.1=a):=
 bV (λd:eQ.B=>z4 (48-d.1.2)) (λd hd=>by
  have hw:wI (d.1.2+1)=d.1.2+1:=aZ;unfold wF;simp only[bU];simp only[nf,o7,uq,hw];repeat' (first|exact True.intro|omega|(intro _)|(apply And.intro))) (λd hd=>by omega)
theorem apB (a b e g h:Int):∀(d:eR.B) (hd:0<=d.1.2.2.2.2.2.2/\d.1.2.2.2.2.2.2<=48/\d.1.1=a/\d.1.2.2.1=b/\0<=a/\a<24/\0<=b/\b<24/\d.1.2.2.2.2.1=g/\d.1.2.2.2.2.2.1=h),Ok (wJ d) (λx:lG=>x.1.1=a/\x.1.2.2.2.2.1=g/\x.1.2.2.2.2.2.1=h):=
 bV (λd:eR.B=>z4 (48-d.1.2.2.2.2.2.2)) (λd hd=>by
  have hw:wI (d.1.2.2.2.2.2.2+1)=d.1.2.2.2.2.2.2+1:=aZ;unfold wH;simp only[bU];simp only[nf,o7,uq,hw];repeat' (first|exact True.intro|omega|(intro _)|(apply And.intro))) (λd hd=>by omega)
theorem apC:∀(d:fN.B) (hd:0<=d.1/\d.1<=24),Ok (CJ d) (λx:oc=>True):=
 bV (λd:fN.B=>z4 (24-d.1)) (λd hd=>by
  unfold CI;rw[aL];refine⟨λh=> ?_,λ_=>by simp only[aw,jI]⟩;have h:=db h;have hw:wI (d.1+1)=d.1+1:=aZ;have h1:wI (24+d.1)=24+d.1:=dS;rw[h1];iterate 2 (rw[bO];refine⟨by simp only[bz];omega,?_⟩)
  rw[bL];intro d1 _;iterate 4 (rw[bO];refine⟨by simp only[bz,ch,o8];omega,?_⟩)
  refine ax (apz d.1 d.1 _ (by dsimp only;omega)) λx _ hx=> ?_;simp only[aw,mK,hx,hw];omega) (λd hd=>by omega)
theorem apD (a:Int):∀(d:eS.B) (hd:0<=d.1.2.2.2/\d.1.2.2.2<=d.1.2.2.1/\d.1.1=a/\d.1.2.2.1<=24/\0<=a/\a<24),Ok (wL d) (λx:od=>x.1.1=a):=
 bV (λd:eS.B=>z4 (d.1.2.2.1-d.1.2.2.2)) (λd hd=>by
  unfold wK;try dsimp only
  rw[aL];refine⟨λh=> ?_,λ_=>by simp only[aw,jI];exact hd.2.2.1⟩;have h:=db h;have hw:wI (d.1.2.2.2+1)=d.1.2.2.2+1:=aZ;rw[bO];refine⟨by simp only[bz];omega,?_⟩;rw[bL];intro d1 _;rw[bL];intro d2 _;rw[bL];intro d3 _;refine ax (apB d.1.1 d.1.2.2.2 d.1.1 d.1.2.2.1 d.1.2.2.2 _ (by dsimp only;omega)) λx _ hx=> ?_;obtain⟨a1,a2,a3⟩:=hx;simp only[aw,mK,a1,a2,a3,hw];omega) (λd hd=>by omega)
theorem apE:∀(d:fO.B) (hd: -1<=d.1/\d.1<=23),Ok (wN d) (λx:oe=>True):=
 bV (λd:fO.B=>z4 (d.1+1)) (λd hd=>by
  unfold wM;try dsimp only
  rw[aL];refine⟨λh=> ?_,λ_=>by simp only[aw,jI]⟩;have h:=db h;have hw:wI (d.1-1)=d.1-1:=dS;refine ax (apA d.1 _ (by dsimp only;omega)) λx _ hx=> ?_;rw[bO];refine⟨by simp only[bz,hx];omega,?_⟩;rw[bL];intro d1 _;rw[bL];intro d2 _;rw[bO];refine⟨by simp only[bz,hx];omega,?_⟩;rw[bO];refine⟨by simp only[ch,o8,hx];omega,?_⟩;refine ax (apD d.1 _ (by dsimp only;omega)) λx _ hx=> ?_;simp only[aw,mK,hx,hw];omega) (λd hd=>by omega)
instance aTS (x0:Nat->Int)(x1:Nat->Int)(x2:Nat->Int)(x3:Nat->Int)(x4:Bool):bp (gI x0 x1 x2 x3 x4):=by
 unfold gI Bq;refine aJ ?_;rw[bL];intro d _;refine ax (apC _ (by simp)) λd _ hd=> ?_;rw[bL];intro d1 _;refine ax (apE _ (by simp)) λd _ hd=> ?_;simp only[aw]
instance a1n (x0:Int):bp (yX x0):=by
 unfold yX Ry;exact aJ (by simp only[bU])
theorem aLu (x:Int):yX x=some (decide (0<=x)&&decide (x<24)):=by
 simp only[yX,Ry,bM,bS];by_cases h0:0<=x<;>simp[h0]
instance aSP (x0:Int)(x1:Bool):bp (pG x0 x1):=by
 unfold pG EU;exact aJ (by simp only[bU])
theorem av4:∀(d:gO.B) (hd:0<=d.1.2.2.2/\d.1.2.2.2<=d.1.2.2.1/\d.1.2.2.1<=1999/\d.1.2.2.1=((d.1.2.1.1:Nat):Int)),Ok (He d) (λx:re=>True):=
 bV (λd:gO.B=>z4 (d.1.2.2.1-d.1.2.2.2)) (λd hd=>by
  have hw:wI (d.1.2.2.2+1)=d.1.2.2.2+1:=aZ;unfold Hc;simp only[bU,aLu,cy];simp only[nf,o7,uq,hw];repeat' (first|exact True.intro|omega|(intro _)|(apply And.intro))) (λd hd=>by omega)
theorem MV (x0:Nat->Int)(x1:Nat->Int)(x2:Int)(x3:Nat)(x4:Bool)(x5:Nat->Int)(w0:Bool)(h:x3<=1999):bp (cM x0 x1 x2 x3 x4 x5 w0):=by
 unfold cM FY;refine aJ ?_;rw[bL];intro d1 _;rw[aQ,bO];refine⟨rfl,?_⟩;refine ax (av4 _ (hdN x3 h)) λd _ hd=> ?_;rw[bL];intro d2 _;simp only[aw]
def wO (x0 x1 x2 x3:Int)(j:Nat):Int:=if j=0 then x0 else if j=1 then x1 else if j=2 then x2 else x3
def sqW (f g:Nat->Int)(j:Nat)(x:Int):Prop:=(-1073741840<=x/\x<=1073741840)/\okW (f j) (g j)/\vW (f j) (g j)=x*x
theorem ael {x:Int}(h: -1073741840<=x/\x<=1073741840):0<=x*x/\x*x<=1152921538966585600:=by
 have key:∀u:Int,0<=u->u<=1073741840->0<=u*u/\u*u<=1152921538966585600:=λu u0 u1=>by
  refine⟨pj u0 u0,?_⟩;have:=LK u1 u1 u0 (by omega);omega
 rcases Wk 0 x with hx|hx
 .exact key x hx h.2
 .have:=key (-x) (by omega) (by omega);rwa [Int.neg_mul_neg] at this
theorem ahw {x:Int}{f g:Nat->Int}{n:Nat}{A:Type}{δ:Type}{Q:δ->Prop}{no1:Pg δ}{k:alx->Pg δ}
  (h1:(x< -1073741840∨1073741840<x)->PQ no1 Q)(h2:(-1073741840<=x/\x<=1073741840)->∀h l,fE x x=some (h,l)->okW h l->vW h l=x*x->PQ (k (h,l)) Q):
  PQ (opt (pV x) λak=>ae (decide (ak>1073741840)) no1 (opt (fE x x) k)) Q:=by
 rw[bL];intro d hd;rw[aL];refine⟨λh=> ?_,λh=> ?_⟩
 .refine h1 ?_;have h:=db h
  have:¬(-1073741840<=x/\x<=1073741840):=λc=>by
   have e:PQ (Bi x) (λy:V7=>(y:Int)<=1073741840):=by
    by_cases c':x<0
    .have w:wI (0-x)=0-x:=dS;simp only[Bi,aL,aw,EL,jG,Ot,w];exact⟨λ_=>by omega,λ_=>⟨λ_=>by omega,λ_=>⟨λ_=>(show(0-x:Int)<=1073741840 by omega),λ_=>by omega⟩⟩⟩
    .simp only[Bi,aL,aw,EL,jG,Ot];exact⟨λ_=>by omega,λ_=>⟨λ_=>by omega,λ_=>⟨λ_=>by omega,λ_=>(show x<=1073741840 by omega)⟩⟩⟩
   have h3:(d:Int)<=1073741840:=Ok.post e hd;exact absurd (show(1073741840:Int)<d from h) (Int.not_lt.mpr h3)
  omega
 .have h:=kD h;have h':¬((1073741840:Int)<d):=h;have hx:=aZZ hd (Int.not_lt.mp h');obtain⟨a,b,e,o,v⟩:=Bt x x (by omega) (by omega) (by omega) (by omega);rw[e,cy];exact h2 hx a b e o v
theorem aQ8 (x0 x1 x2 x3:Int)(d:mh.B)(hd:∃n:Nat,n<=4/\d.1.1=n/\d.1.2.2=(n:Int)/\d.1.2.1=(x0,x1,x2,x3)/\∀j,j<n->sqW d.b.1 d.b.2 j (wO x0 x1 x2 x3 j)):
  Ok (Tk d) (λx:yx=>match x with
   |.inl _=>∃j,j<4/\(wO x0 x1 x2 x3 j< -1073741840∨1073741840<wO x0 x1 x2 x3 j)
   |.inr e=>e.1.1=4/\∀j,j<4->sqW e.b.1 e.b.2 j (wO x0 x1 x2 x3 j)):=
 qG (s:=_) (λd:mh.B=>∃n:Nat,n<=4/\d.1.1=n/\d.1.2.2=(n:Int)/\d.1.2.1=(x0,x1,x2,x3)/\∀j,j<n->sqW d.b.1 d.b.2 j (wO x0 x1 x2 x3 j)) (λd:mh.B=>4-d.1.1) (λx:yx=>match x with
   |.inl _=>∃j,j<4/\(wO x0 x1 x2 x3 j< -1073741840∨1073741840<wO x0 x1 x2 x3 j)
   |.inr e=>e.1.1=4/\∀j,j<4->sqW e.b.1 e.b.2 j (wO x0 x1 x2 x3 j)) (λd hd=>by
  obtain⟨⟨c,q,i⟩,q',f,g⟩:=d;obtain⟨n,hn,h1,h2,h3,h4⟩:=hd;simp only at h1 h2 h3 h4;subst h1 h3 h2
  have step:∀(h l:Int),c<4->okW h l->(-1073741840<=wO x0 x1 x2 x3 c/\wO x0 x1 x2 x3 c<=1073741840)->vW h l=wO x0 x1 x2 x3 c*wO x0 x1 x2 x3 c->
    ∀j,j<c+1->sqW (λj=>bif z9 j c then h else f j) (λj=>bif z9 j c then l else g j) j (wO x0 x1 x2 x3 j):=λh l hc ho hs hv j hj=>by
   unfold sqW;by_cases e:j=c
   .subst e;simp only[aQ,bo];exact⟨hs,ho,hv⟩
   .have e':z9 j c=false:=by cases hb:z9 j c with|false=>rfl|true=>exact absurd (lB hb) e
    simp only[e',bq];exact h4 j (by omega)
  have hw:wI ((c:Int)+1)=((c+1:Nat):Int):=by rw[dS (by omega) (by omega)];omega
  have hb:wl ((c+1)*16) 140737488355328=true:=by rw[ch];omega
  unfold Tj;simp only[hw,hb]
  have fin:∀(h l:Int),c<4->okW h l->(-1073741840<=wO x0 x1 x2 x3 c/\wO x0 x1 x2 x3 c<=1073741840)->vW h l=wO x0 x1 x2 x3 c*wO x0 x1 x2 x3 c->
    (∃n:Nat,n<=4/\c+1=n/\((c+1:Nat):Int)=(n:Int)/\True/\∀j,j<n->sqW (λj=>bif z9 j c then h else f j) (λj=>bif z9 j c then l else g j) j (wO x0 x1 x2 x3 j))/\4-(c+1)<4-c:=λh l hc ho hs hv=>
   ⟨⟨c+1,by omega,rfl,rfl,trivial,step h l hc ho hs hv⟩,by omega⟩
  rcases(by omega:c=0∨c=1∨c=2∨c=3∨c=4) with rfl|rfl|rfl|rfl|rfl
  .rw[show decide (((0:Nat):Int)<4)=true from rfl,show bg ((0:Nat):Int) 4=true from rfl,show(((0:Nat):Int)==3)=false from rfl,show(((0:Nat):Int)==2)=false from rfl,show(((0:Nat):Int)==1)=false from rfl];simp only[aL,Ou,xS,FD,SQ,Cf,AI];refine ahw (A:=Unit) (n:=0) (f:=f) (g:=g) (λh=> ?_) (λhs h l _ ho hv=> ?_)
   .simp only[aw,jI];exact⟨0,by omega,h⟩
   .rw[bO];refine⟨rfl,?_⟩;simp only[aw,mK];exact fin h l (by omega) ho hs hv
  .rw[show decide (((1:Nat):Int)<4)=true from rfl,show bg ((1:Nat):Int) 4=true from rfl,show(((1:Nat):Int)==3)=false from rfl,show(((1:Nat):Int)==2)=false from rfl,show(((1:Nat):Int)==1)=true from rfl];simp only[aL,Ou,xS,FD,SQ,Cf,AI];refine ahw (A:=Unit) (n:=0) (f:=f) (g:=g) (λh=> ?_) (λhs h l _ ho hv=> ?_)
   .simp only[aw,jI];exact⟨1,by omega,h⟩
   .rw[bO];refine⟨rfl,?_⟩;simp only[aw,mK];exact fin h l (by omega) ho hs hv
  .rw[show decide (((2:Nat):Int)<4)=true from rfl,show bg ((2:Nat):Int) 4=true from rfl,show(((2:Nat):Int)==3)=false from rfl,show(((2:Nat):Int)==2)=true from rfl];simp only[aL,Ou,xS,FD,SQ,Cf,AI];refine ahw (A:=Unit) (n:=0) (f:=f) (g:=g) (λh=> ?_) (λhs h l _ ho hv=> ?_)
   .simp only[aw,jI];exact⟨2,by omega,h⟩
   .rw[bO];refine⟨rfl,?_⟩;simp only[aw,mK];exact fin h l (by omega) ho hs hv
  .rw[show decide (((3:Nat):Int)<4)=true from rfl,show bg ((3:Nat):Int) 4=true from rfl,show(((3:Nat):Int)==3)=true from rfl];simp only[aL,Ou,xS,FD,SQ,Cf,AI];refine ahw (A:=Unit) (n:=0) (f:=f) (g:=g) (λh=> ?_) (λhs h l _ ho hv=> ?_)
   .simp only[aw,jI];exact⟨3,by omega,h⟩
   .rw[bO];refine⟨rfl,?_⟩;simp only[aw,mK];exact fin h l (by omega) ho hs hv
  .rw[show decide (((4:Nat):Int)<4)=false from rfl];simp only[aL,aw,xS,FD,SQ,AI,jI];exact h4) 2000 d hd (by obtain⟨n,hn,h1,_⟩:=hd;omega)
theorem aTT (n:Nat)(hn:n<=100)(f g:Nat->Int)(w:Bool)(B:Int)(hB:0<=B)(hB2:B<=1329227995784915872903807060280344576)(h:∀j,j<n->okW (f j) (g j)/\ -B<=vW (f j) (g j)/\vW (f j) (g j)<=B):
  ∃a b,ku n f g w=some ((a,b),true)/\okW a b/\vW a b=eJ (λj=>vW (f j) (g j)) n:=by
 have key:∃x:II,IJ (((n,w),wr n,0),(f,g),0,0)=some x/\(match x with
   |.inl _=>False
   |.inr e=>okW e.b.1 e.b.2/\vW e.b.1 e.b.2=eJ (λj=>vW (f j) (g j)) n):=by
  unfold IJ
  refine aac (s:=Ed K7) (λt d=>∃(i:Nat) (a b:Int),i+t=n/\okW a b/\vW a b=eJ (λj=>vW (f j) (g j)) i/\d=(((n,w),wr n,wr i),(f,g),a,b)) _ (λt d=> ?_) 2000 n _ (by omega)
   ⟨0,0,0,by omega,⟨by omega,by omega,by omega,by omega⟩,rfl,rfl⟩
  rintro ⟨i,a,b,hi,ho,hv,rfl⟩
  rcases SO t with t0|t0
  .have e:i=n:=by omega
   subst e;simp only[Ed,bS,bM,ck,dX,ao9 (cR i),bq];exact⟨_,rfl,ho,hv⟩
  .obtain⟨o1,b1,b2⟩:=h i (by omega);have bnd:=aek (λj=>vW (f j) (g j)) B hB i (λj hj=>(h j (by omega)).2);obtain⟨a2,b2',q,e,o2,c,v⟩:=ayB a b (f i) (g i) ho o1
   have hmul:(i:Int)*B<=100*1329227995784915872903807060280344576:=by
    have:=LK (show(i:Int)<=100 by omega) hB2 hB (by omega);exact this
   have hq:q=true:=by rw[c,hv];omega
   subst hq;have v:=v rfl;have qq:z4 (wr i)=i:=rfl;simp only[Ed,bS,bM,ck,dX,wI,ao8 hi t0,aaS (show i<n by omega),bo,qq,bG,e,HZ,bq,apa (show i<9000000000000000000 by omega)];exact⟨_,rfl,t-1,by omega,i+1,a2,b2',by omega,o2,by rw[v,hv];rfl,rfl⟩
 obtain⟨x,hx,hp⟩:=key;simp only[ku,aak,bS,bM,ck,dX,dt];rw[aQ,bo,hx,bG];cases x with
 |inl e=>exact hp.elim
 |inr e=>exact⟨e.b.1,e.b.2,rfl,hp.1,hp.2⟩
theorem aOh (x0 x1 x2 x3:Int):Ok (z7 x0 x1 x2 x3) (λb:Bool=>b=true↔((∀j,j<4-> -1073741840<=wO x0 x1 x2 x3 j/\wO x0 x1 x2 x3 j<=1073741840)/\ -4294967296<=x0*x0+x1*x1+x2*x2+x3*x3-1152921504606846976/\x0*x0+x1*x1+x2*x2+x3*x3-1152921504606846976<=4294967296)):=by
 unfold z7 acr;show PQ _ _;rw[bO];refine⟨rfl,ax (aQ8 x0 x1 x2 x3 _ ⟨0,by omega,rfl,rfl,rfl,λj hj=>absurd hj (by omega)⟩) λx _ hx=> ?_⟩;rw[tw];constructor
 .rintro a rfl
  rw[aw];obtain⟨j,hj,hs⟩:=hx;exact⟨λh=>(by cases h),λh=>by have:=h.1 j hj;omega⟩
 .rintro e rfl
  obtain⟨h1,h2⟩:=hx;rw[aQ,bO];refine⟨rfl,?_⟩;have sm:∀j,j<4-> -1073741840<=wO x0 x1 x2 x3 j/\wO x0 x1 x2 x3 j<=1073741840:=λj hj=>(h2 j hj).1
  obtain⟨a,b,ea,oa,va⟩:=aTT 4 (by omega) e.b.1 e.b.2 true 1152921538966585600 (by omega) (by omega) (λj hj=>by
   obtain⟨s1,s2,s3⟩:=h2 j hj;have:=ael s1;exact⟨s2,by rw[s3];omega,by rw[s3];omega⟩)
  rw[h1,ea,cy];have s0:=ael (sm 0 (by omega));have s1:=ael (sm 1 (by omega));have s2:=ael (sm 2 (by omega));have s3:=ael (sm 3 (by omega))
  have vs:vW a b=x0*x0+x1*x1+x2*x2+x3*x3:=by
   rw[va];simp only[eJ,(h2 0 (by omega)).2.2,(h2 1 (by omega)).2.2,(h2 2 (by omega)).2.2,(h2 3 (by omega)).2.2];simp only[wO,lr,if_neg (show ¬(1:Nat)=0 by omega),if_neg (show ¬(2:Nat)=0 by omega),if_neg (show ¬(2:Nat)=1 by omega),if_neg (show ¬(3:Nat)=0 by omega),if_neg (show ¬(3:Nat)=1 by omega),if_neg (show ¬(3:Nat)=2 by omega)];omega
  have t0:wO x0 x1 x2 x3 0=x0:=rfl;have t1:wO x0 x1 x2 x3 1=x1:=rfl;have t2:wO x0 x1 x2 x3 2=x2:=rfl;have t3:wO x0 x1 x2 x3 3=x3:=rfl;rw[t0] at s0;rw[t1] at s1;rw[t2] at s2;rw[t3] at s3;generalize hS:x0*x0+x1*x1+x2*x2+x3*x3=S at*
  have r:=wide_round a b 0 (by omega) oa;rw[aJa,vs,show wr 0=0 from rfl,if_pos (by omega)] at r;rw[r,cy];have hw:wI (S-1152921504606846976)=S-1152921504606846976:=dS;simp only[hw,aL,aw,SQ,Ou,FD,Cf,jG,Ot,EL];exact⟨λk=>⟨λm=>⟨sm,k,m⟩,λc=>c.2.2⟩,λk=>⟨λh=>(by cases h),λc=>absurd c.2.1 k⟩⟩
instance a4m (x0 x1 x2 x3:Int):bp (z7 x0 x1 x2 x3):=(aOh x0 x1 x2 x3).tot
instance aZp (x0:Nat->Int)(x1:Bool):bp (cg x0 x1):=by
 unfold cg QH;exact aJ (by simp only[bU])
instance aTU (x0:Int)(x1:Bool):bp (ko x0 x1):=by
 unfold ko O2;exact aJ (by simp only[bU])
instance a2c (x0:Int)(x1:Int)(x2:Int)(x3:Bool):bp (XK x0 x1 x2 x3):=by
 unfold XK atn;exact aJ (by simp only[bU])
instance aYF (x0:Nat->Int)(x1:Int)(x2:Int)(x3:Int)(x4:Int)(x5:Int)(x6:Int)(x7:Int)(x8:Int)(x9:Bool):bp (wE x0 x1 x2 x3 x4 x5 x6 x7 x8 x9):=by
 unfold wE XM;exact aJ (by simp only[bU])
instance aZq (x0:Nat->Int)(x1:Int)(x2:Int)(x3:Int)(x4:Int)(x5:Int)(x6:Int)(x7:Int)(x8:Int)(x9:Bool):bp (pg x0 x1 x2 x3 x4 x5 x6 x7 x8 x9):=by
 unfold pg QK;try dsimp only
 exact aJ (by simp only[bU])
theorem aF6:∀(d:sJ.B) (hd:0<=d.1.2/\d.1.2<=3),Ok (acJ d) (λx:IU=>True):=
 bV (λd:sJ.B=>z4 (3-d.1.2)) (λd hd=>by
  have hw:wI (d.1.2+1)=d.1.2+1:=aZ;unfold acI;simp only[bU];simp only[nf,uq,hw];repeat' (first|exact True.intro|omega|(intro _)|(apply And.intro))) (λd hd=>by omega)
instance a1o (x0:Int)(x1:Int)(x2:Int)(x3:Bool):bp (BY x0 x1 x2 x3):=by
 unfold BY aaA;refine aJ ?_;rw[bL];intro d _;rw[aL];refine⟨λ_=>by simp only[bU],λ_=> ?_⟩;rw[bL];intro d1 _;refine ax (aF6 _ (by simp)) λd _ hd=> ?_;simp only[bU]
theorem aCw:∀(d:qj.B) (hd:0<=d.1.2/\d.1.2<=24),Ok (X3 d) (λx:F1=>True):=
 bV (λd:qj.B=>z4 (24-d.1.2)) (λd hd=>by
  have hw:wI (d.1.2+1)=d.1.2+1:=aZ;unfold X2;simp only[bU];simp only[nf,uq,hw];repeat' (first|exact True.intro|omega|(intro _)|(apply And.intro))) (λd hd=>by omega)
instance aZ0 (x0:Nat->Int)(x1:Int)(x2:Bool):bp (MM x0 x1 x2):=by
 unfold MM ahn;refine aJ ?_;rw[bL];intro d1 _;refine ax (aCw _ (by simp)) λd _ hd=> ?_;simp only[aw]
theorem atw:∀(d:jN.B) (hd:0<=d.1.2/\d.1.2<=24),Ok (EW d) (λx:tD=>True):=
 bV (λd:jN.B=>z4 (24-d.1.2)) (λd hd=>by
  have hw:wI (d.1.2+1)=d.1.2+1:=aZ;unfold EV;simp only[bU];simp only[nf,uq,hw];repeat' (first|exact True.intro|omega|(intro _)|(apply And.intro))) (λd hd=>by omega)
theorem atx (a b:Int):∀(d:jO.B) (hd:0<=d.1.2.2.2.2/\d.1.2.2.2.2<=d.1.2.2.2.1/\d.1.2.2.2.1<=1999/\d.1.1=a/\d.1.2.2.1=b/\(d.1.2.1:Int)=d.1.2.2.2.2/\d.1.2.2.2.1=a+1),Ok (EY d) (λx:tE=>x.1.1=a/\x.1.2.2.1=b/\(x.1.2.1:Int)=a+1):=
 bV (λd:jO.B=>z4 (d.1.2.2.2.1-d.1.2.2.2.2)) (λd hd=>by
  have hw:wI (d.1.2.2.2.2+1)=d.1.2.2.2.2+1:=aZ;unfold EX;simp only[bU];simp only[nf,uq,hw];repeat' (first|exact True.intro|omega|(intro _)|(apply And.intro))) (λd hd=>by omega)
theorem aty:∀(d:jP.B) (hd:0<=d.1/\d.1<=24),Ok (E0 d) (λx:tF=>True):=
 bV (λd:jP.B=>z4 (24-d.1)) (λd hd=>by
  unfold EZ;try dsimp only
  rw[aL];refine⟨λh=> ?_,λ_=>by simp only[aw,jI]⟩;have h:=db h;have hw:wI (d.1+1)=d.1+1:=aZ;rw[bO,hw];refine⟨rfl,ax (atx d.1 d.1 _ (by dsimp only;omega)) λx _ hx=> ?_⟩;obtain⟨a1,a2,a3⟩:=hx;have hn:x.1.2.1=z4 (d.1+1):=by omega
  have td:=λa b c=>MU (z4 (d.1+1)) (by omega) a b c false true
  simp only[a1,a2,hw,hn];simp only[bU];simp only[nf,uq];repeat' (first|exact True.intro|omega|(intro _)|(apply And.intro))) (λd hd=>by omega)
instance aUW (x0:Nat->Int)(x1:Nat->Int)(x2:Nat->Int)(x3:Int)(x4:Bool):bp (nI x0 x1 x2 x3 x4):=by
 unfold nI JG;try dsimp only
 refine aJ ?_;rw[bL];intro d1 _;refine ax (atw _ (by simp)) λd _ hd=> ?_;rw[bL];intro d2 _;refine ax (aty _ (by simp)) λd _ hd=> ?_;simp only[aw]
instance aMp (x0:Nat->Int)(x1:Nat->Int)(x2:Nat->Int)(x3:Int)(x4:Bool):bp (qI x0 x1 x2 x3 x4):=by
 unfold qI Eu;exact aJ (by simp only[bU])
instance a1p (x0:Int)(x1:Int)(x2:Int)(x3:Int):bp (Rz x0 x1 x2 x3):=by
 unfold Rz amQ;exact aJ (by simp only[bU])
theorem am7 (a b:Int):∀(d:gP.B) (hd:0<=d.1.2.2.2.2/\d.1.2.2.2.2<=d.1.2.2.2.1/\d.1.2.2.2.1<=1999/\d.1.1=a/\d.1.2.2.1=b/\d.1.2.2.2.1=a/\0<=a/\a<24),Ok (AK d) (λx:pW=>x.1.2.2.1=b):=
 bV (λd:gP.B=>z4 (d.1.2.2.2.1-d.1.2.2.2.2)) (λd hd=>by
  have hw:wI (d.1.2.2.2.2+1)=d.1.2.2.2.2+1:=aZ;unfold AJ;simp only[bU];simp only[nf,uq,hw];repeat' (first|exact True.intro|omega|(intro _)|(apply And.intro))) (λd hd=>by omega)
theorem am8:∀(d:gQ.B) (hd:0<=d.1/\d.1<=24),Ok (AM d) (λx:pX=>True):=
 bV (λd:gQ.B=>z4 (24-d.1)) (λd hd=>by
  have hw:wI (d.1+1)=d.1+1:=aZ;unfold AL;simp only[bU];simp only[nf,uq,hw];repeat' (first|exact True.intro|omega|(intro _)|(apply And.intro))) (λd hd=>by omega)
theorem am9:∀(d:gR.B) (hd:0<=d.1/\d.1<=24),Ok (AO d) (λx:pY=>True):=
 bV (λd:gR.B=>z4 (24-d.1)) (λd hd=>by
  unfold AN;try dsimp only
  rw[aL];refine⟨λh=> ?_,λ_=>by simp only[aw,jI]⟩;have h:=db h;have hw:wI (d.1+1)=d.1+1:=aZ;iterate 4 (rw[bO];refine⟨by simp only[nf,uq,hw];omega,?_⟩)
  iterate 2 (rw[bL];intro _ _)
  iterate 5 (rw[bO];refine⟨by simp only[nf,uq,hw];omega,?_⟩)
  rw[bL];intro _ _;iterate 4 (rw[bO];refine⟨by simp only[nf,uq,hw];omega,?_⟩)
  refine ax (am7 d.1 d.1 _ (by dsimp only;omega)) λx _ hx=> ?_;simp only[aw,mK,hx,hw];omega) (λd hd=>by omega)
theorem atz:∀(d:lH.B) (hd:0<=d.1.2/\d.1.2<=24),Ok (MO d) (λx:za=>True):=
 bV (λd:lH.B=>z4 (24-d.1.2)) (λd hd=>by
  have hw:wI (d.1.2+1)=d.1.2+1:=aZ;unfold MN;simp only[bU];simp only[nf,uq,hw];repeat' (first|exact True.intro|omega|(intro _)|(apply And.intro))) (λd hd=>by omega)
instance aUX (x0:Nat->Int)(x1:Int)(x2:Bool):bp (DP x0 x1 x2):=by
 unfold DP TI;refine aJ ?_;refine ax (atz _ (by simp)) λd _ hd=> ?_;simp only[bU]
end Go.Proofs.YtldgljclcgaibaaGreat
