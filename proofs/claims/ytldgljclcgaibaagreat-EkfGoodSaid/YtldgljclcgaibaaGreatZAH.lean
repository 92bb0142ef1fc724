/-
  Parts of the proof: PRT PWY PWZ PWQ PRE TA TB TC TD TU TE
-/
import Derived.Test.YtldgljclcgaibaaGreatZAE
import Derived.Test.YtldgljclcgaibaaGreatZAG
open Nat renaming beq→z9,ble→wr
open Int renaming toNat→z4,ofNat→ws,fdiv→v9,tdiv→t8
open BitVec renaming ofInt→wn,toNat→wd
open List renaming append→ul
set_option linter.unusedVariables false
set_option linter.unusedSimpArgs false
set_option maxRecDepth 100000
set_option maxHeartbeats 4000000
namespace Go.Proofs.YtldgljclcgaibaaGreat
open Go.Ab
def isR (r V:Int):Prop:=0<=r/\V<=r*r+r/\(r=0∨r*r-r<V)
theorem aLu {a b:Int}(ha:0<=a)(hb:0<=b):0<=a*b:=Cb ha hb
theorem aS6 {r s V:Int}(h1:isR r V)(h2:isR s V):s<=r:=by
 obtain⟨a1,a2,a3⟩:=h1;obtain⟨b1,b2,b3⟩:=h2;rcases Ki r s with h|h
 .exfalso
  have p:=aLu (a:=s-r-1) (b:=s+r) (by omega) (by omega);have q:(s-r-1)*(s+r)=s*s-s-(r*r+r):=by grind
  rcases b3 with b3|b3
  .omega
  .omega
 .exact h
theorem aT7 {r s V:Int}(h1:isR r V)(h2:isR s V):r=s:=Int.le_antisymm (aS6 h2 h1) (aS6 h1 h2)
theorem aYs (n:Nat):∃q:Nat,q*q<=n/\n<(q+1)*(q+1):=by
 induction n with
 |zero=>exact⟨0,by omega,by omega⟩
 |succ n ih=>
  obtain⟨q,h1,h2⟩:=ih;by_cases c:n+1<(q+1)*(q+1)
  .exact⟨q,by omega,c⟩
  .refine⟨q+1,by omega,?_⟩;have:(q+1+1)*(q+1+1)=(q+1)*(q+1)+2*q+3:=by grind
   omega
theorem aJB (V:Int)(h:0<=V):∃q:Int,0<=q/\q*q<=V/\V<(q+1)*(q+1):=by
 obtain⟨q,h1,h2⟩:=aYs V.toNat;refine⟨q,by omega,?_,?_⟩
 .have e:((q*q:Nat):Int)=(q:Int)*q:=by simp
  omega
 .have e:(((q+1)*(q+1):Nat):Int)=((q:Int)+1)*(q+1):=by simp
  omega
theorem aGn {a b:Int}(ha:0<=a)(hb:0<=b)(h:a*a<b*b):a<b:=by
 rcases Ki a b with c|c
 .exact c
 .exfalso
  have:=LW c c hb (by omega);omega
theorem aT8 (n:Nat)(hn:n<128):hM 0 1 (ws n)=some (2^n/18446744073709551616,2^n%18446744073709551616):=by
 have key:∀n:Fin 128,hM 0 1 (ws n.val)=some ((2:Int)^n.val/18446744073709551616,(2:Int)^n.val%18446744073709551616):=by decide+kernel
 exact key ⟨n,hn⟩
theorem aJC (a b c d:Int)(b0:0<=b)(b1:b<18446744073709551616)(d0:0<=d)(d1:d<18446744073709551616):
  wg a b c d=some (decide (a*18446744073709551616+b<c*18446744073709551616+d)):=by
 simp only[wg,O1,Pg.bQ,Pg.bN,Pg.cx,Pg.fq,Pg.ew];try delta wI wU
 by_cases h:a<c
 .have:a*18446744073709551616+b<c*18446744073709551616+d:=by omega
  simp[h,this]
 .by_cases e:a=c
  .subst e;have:(a*18446744073709551616+b<a*18446744073709551616+d)↔b<d:=by omega
   simp[this]
  .have:¬a*18446744073709551616+b<c*18446744073709551616+d:=by omega
   have e':(a==c)=false:=by simp[e]
   rw[cV h,bI,e',bI,cV this]
theorem azd (x y c:Int)(x0:0<=x)(x1:x<18446744073709551616)(y0:0<=y)(y1:y<18446744073709551616)(c0:0<=c)(c1:c<=1):aet x y c=some ((x-y-c)%18446744073709551616,if x<y+c then 1 else 0):=by
 unfold aet;have h:wr c.toNat 1=true:=aEA (by omega);rw[h,bB];congr 1
 unfold aX7 aX8;simp only[dz,rm];constructor
 .omega
 .split<;>split<;>omega
theorem aRo (a b c d:Int)(a0:0<=a)(a1:a<18446744073709551616)(b0:0<=b)(b1:b<18446744073709551616)(c0:0<=c)(c1:c<18446744073709551616)(d0:0<=d)(d1:d<18446744073709551616)
  (h:c*18446744073709551616+d<=a*18446744073709551616+b):
  ∃h' l',yW a b c d=some (h',l')/\0<=h'/\h'<18446744073709551616/\0<=l'/\l'<18446744073709551616/\h'*18446744073709551616+l'=a*18446744073709551616+b-(c*18446744073709551616+d):=by
 simp only[yW,Mq,Pg.bQ,Pg.bN,Pg.cx,Pg.fq,Pg.ew];try delta wI wU
 rw[azd b d 0 b0 b1 d0 d1 (by omega) (by omega)];simp only[bG,Int.add_zero];by_cases k:b<d
 .rw[if_pos k,azd a c 1 a0 a1 c0 c1 (by omega) (by omega)];simp only[bG];refine⟨_,_,rfl,?_,?_,?_,?_,?_⟩<;>omega
 .rw[if_neg k,azd a c 0 a0 a1 c0 c1 (by omega) (by omega)];simp only[bG];refine⟨_,_,rfl,?_,?_,?_,?_,?_⟩<;>omega
theorem ahY (h1 l1 h2 l2:Int)(a0:0<=h1)(b0:0<=l1)(c0:0<=h2)(d0:0<=l2)(b1:l1<18446744073709551616)(d1:l2<18446744073709551616)
  (h:h1*18446744073709551616+l1+(h2*18446744073709551616+l2)<340282366920938463463374607431768211456):
  ∃h' l',jz h1 l1 h2 l2=some (h',l')/\0<=h'/\h'<18446744073709551616/\0<=l'/\l'<18446744073709551616/\h'*18446744073709551616+l'=h1*18446744073709551616+l1+(h2*18446744073709551616+l2):=by
 rw[aJz h1 l1 h2 l2 a0 b0 c0 d0 b1 d1];refine⟨_,_,rfl,?_,?_,?_,?_,?_⟩<;>omega
theorem anp {m n:Nat}(h:m<=n):(2:Int)^m<=2^n:=by
 have h2:(2:Nat)^m<=2^n:=Nat.pow_le_pow_right (by decide) h;have h3:((2^m:Nat):Int)<=((2^n:Nat):Int):=by exact_mod_cast h2
 simpa using h3
theorem at1 (h l:Int)(o:okW h l)(h0:0<=h):∃r,isR r (vW h l)/\r<18446744073709551616/\Mt h l=if r<=9223372036854775807 then some (r,true) else some (0,false):=by
 obtain⟨o1,o2,o3,o4⟩:=o;have v0:0<=vW h l:=by show 0<=h*18446744073709551616+l;omega
 have v1:vW h l<170141183460469231731687303715884105728:=by show h*18446744073709551616+l<_;omega
 have hvv:h*18446744073709551616+l=vW h l:=rfl;generalize vW h l=V at*
 obtain⟨q,q0,q1,q2⟩:=aJB V v0;have qb:q<13043817825332782213:=aGn q0 (by omega) (by omega);obtain⟨r,hr⟩:∃r,r=if q<V-q*q then q+1 else q:=⟨_,rfl⟩
 have q3:(q+1)*(q+1)=q*q+2*q+1:=by grind
 refine⟨r,?_,by rw[hr];split<;>omega,?_⟩
 .rw[hr];split
  .rename_i c
   exact⟨by omega,by omega,Or.inr (by omega)⟩
  .rename_i c
   refine⟨q0,by omega,?_⟩;rcases Ki 0 q with k|k
   .exact Or.inr (by omega)
   .exact Or.inl (by omega)
 simp only[Mt,ahb,Pg.bQ,Pg.bN,Pg.cx,Pg.fq,Pg.ew];try delta wI wU
 unfold Xk;have n0:decide (h<0)=false:=cV (by omega);have n1:IntKind.wrap .u64 h=h:=by rw[wrap_u64];omega
 rw[n0,bI,n1]
 refine Km (λt d=>∃(p c rh rl sh sl:Int),t<=64/\0<=p/\p=c*2^t/\p*p<=V/\V<(p+2^t)*(p+2^t)/\0<=rh/\rh<18446744073709551616/\0<=rl/\rl<18446744073709551616/\rh*18446744073709551616+rl=V-p*p/\
   0<=sh/\sh<18446744073709551616/\0<=sl/\sl<18446744073709551616/\sh*18446744073709551616+sl=p*2^t/\d=(2*(t:Int)-2,(rh,rl),sh,sl)) ?_ 2000 64 _ (by omega)
  ⟨0,0,h,l,0,0,by omega,by omega,by omega,by omega,by
   have:(2:Int)^64=18446744073709551616:=rfl;omega,by omega,by omega,by omega,by omega,by omega,by omega,by omega,by omega,by omega,by omega,rfl⟩
 rintro t _ k ⟨p,c,rh,rl,sh,sl,t0,p0,pc,p1,p2,r0,r1,r2,r3,r4,s0,s1,s2,s3,s4,rfl⟩ hk
 rcases WD t with z|z
 .subst z;have e1:(2:Int)^0=1:=rfl;rw[e1] at p2 s4
  have pq:p=q:=by
   have h1:p<q+1:=aGn p0 (by omega) (by omega);have h2:q<p+1:=aGn q0 (by omega) (by omega);omega
  subst pq;have g0:decide ((2:Int)*((0:Nat):Int)-2>=0)=false:=by decide
  simp only[Ms,Pg.sV,Pg.sW,Pg.wM,Pg.Cf,Pg.sX,nZ,ld,g0,bI,aJC sh sl rh rl s2 s3 r2 r3,bG];rw[s4,r4,Int.mul_one];by_cases cc:p<V-p*p
  .rw[dW cc,bB];rw[if_pos cc] at hr;obtain⟨a,b,e2,a0,a1,b0,b1,e3⟩:=ahY sh sl 0 1 s0 s2 (by omega) (by omega) s3 (by omega) (by omega);rw[e2,bG,M3 a b false a0 b0 b1,e3,hr];have e4:sh*18446744073709551616+sl+(0*18446744073709551616+1)=p+1:=by omega
   rw[e4];have az:a=0:=by omega
   have e5:b=p+1:=by omega
   simp only[ya,gA,e5];by_cases f:p+1<=9223372036854775807
   .rw[if_pos f,bG]
   .rw[if_neg f,bG]
  .rw[cV cc,bI];rw[if_neg cc] at hr;rw[M3 sh sl false s0 s2 s3,s4,hr];have az:sh=0:=by omega
   have e5:sl=p:=by omega
   simp only[ya,gA,Int.mul_one,e5];by_cases f:p<=9223372036854775807
   .rw[if_pos f,bG]
   .rw[if_neg f,bG]
 .obtain⟨m,rfl⟩:∃m,t=m+1:=⟨t-1,by omega⟩;have P2:(2:Int)^(m+1)=2^m*2:=Int.pow_succ _ _;have PP:(2:Int)^(2*m)=2^m*2^m:=by rw[<-Int.pow_add];congr 1;omega
  have P0:=mr m;have PB:(2:Int)^m<=2^63:=anp (by omega);have PBv:(2:Int)^63=9223372036854775808:=rfl;have at0:(2:Int)*((m+1:Nat):Int)-2=ws (2*m):=by simp only[dz];omega
  rw[at0];have g0:decide (ws (2*m)>=0)=true:=dW (by simp only[dz];omega)
  have g1:IntKind.wrap .i64 (ws (2*m)-2)=2*(m:Int)-2:=by
   simp only[dz];rw[wrap_i64 (by omega) (by omega)];omega
  simp only[Ms,Pg.sV,Pg.sW,Pg.wM,Pg.Cf,Pg.sX,nZ,ld,g0,bB,aT8 (2*m) (by omega),bG,wI,g1];rw[PP];rw[P2] at pc p2 s4;generalize hP:(2:Int)^m=P at*
  have PPb:P*P<=85070591730234615865843651857942052864:=by
   have:=LW PB PB (by omega) (by omega);omega
  have PP0:0<P*P:=Int.mul_pos P0 P0
  have pb:p*P*2<=V:=by
   rcases Ki 0 c with k0|k0
   .have c1:1*(P*2)<=c*(P*2):=aam (by omega) (by omega);have c2:p*(P*2)<=p*p:=Int.mul_le_mul_of_nonneg_left (by omega) p0;have c3:p*(P*2)=p*P*2:=by grind
    omega
   .have c1:c*(P*2)<=0*(P*2):=aam k0 (by omega);have:p=0:=by omega
    subst this;omega
  have s4':sh*18446744073709551616+sl=p*P*2:=by rw[s4];grind
  obtain⟨a,b,e2,a0,a1,b0,b1,e3⟩:=ahY sh sl (P*P/18446744073709551616) (P*P%18446744073709551616) s0 s2 (by omega) (by omega) s3 (by omega) (by omega);have e3':a*18446744073709551616+b=p*P*2+P*P:=by omega
  obtain⟨u,v,e4,u0,v0,v1,e5⟩:=awz sh sl 1 (by omega) s0 s1 s2 s3;have e4':js sh sl 1=some (u,v):=e4
  have e5':u*18446744073709551616+v=p*P:=by
   rw[e5,s4'];show p*P*2/2^1=p*P;rw[show(2:Int)^1=2 from rfl];omega
  rw[e2,bG,e4',bG,aJC rh rl a b r2 r3 b0 b1,bG,e3',r4];have dd:p*p+(p*P*2+P*P)=(p+P)*(p+P):=by grind
  by_cases cc:V-p*p<p*P*2+P*P
  .rw[dW cc];simp only[Kg,bI];refine hk m _ (by omega) ⟨p,c*2,rh,rl,u,v,by omega,p0,by rw[hP,pc];grind,p1,by rw[hP];omega,r0,r1,r2,r3,r4,u0,by omega,v0,v1,by rw[hP];exact e5',rfl⟩
  .rw[cV cc];simp only[Bool.not_false,bB];obtain⟨x,y,e6,x0,x1,y0,y1,e7⟩:=aRo rh rl a b r0 r1 r2 r3 a0 a1 b0 b1 (by omega);obtain⟨w,z',e8,w0,w1,z0,z1,e9⟩:=ahY u v (P*P/18446744073709551616) (P*P%18446744073709551616) u0 v0 (by omega) (by omega) v1 (by omega) (by omega);rw[e6,bG,e8,bG];refine hk m _ (by omega) ⟨p+P,c*2+1,x,y,w,z',by omega,by omega,by rw[hP,pc];grind,by omega,?_,x0,x1,y0,y1,by omega,w0,w1,z0,z1,?_,rfl⟩
   .rw[hP];have:(p+P+P)*(p+P+P)=(p+P*2)*(p+P*2):=by grind
    omega
   .rw[hP];have:(p+P)*P=p*P+P*P:=by grind
    omega
theorem aRp (h l:Int)(neg:Bool)(h0:0<=h)(h1:h<18446744073709551616)(l0:0<=l)(l1:l<18446744073709551616):
  ∃h' l' b,nm h l neg=some ((h',l'),b)/\okW h' l'/\(b=true↔if neg=true then h*18446744073709551616+l<=170141183460469231731687303715884105728 else h*18446744073709551616+l<170141183460469231731687303715884105728)/\
   (b=true->vW h' l'=if neg=true then -(h*18446744073709551616+l) else h*18446744073709551616+l):=by
 simp only[nm,Me,Pg.bQ,Pg.bN,Pg.cx,Pg.fq,Pg.ew];try delta wI wU
 unfold vW;cases neg
 .have hw:=Hk h;rw[Fy h0 h1] at hw;generalize IntKind.wrap IntKind.i64 h=w at*
  refine⟨w,l,_,rfl,⟨?_,?_,l0,l1⟩,?_,?_⟩
  .split at hw<;>omega
  .split at hw<;>omega
  .rw[rH _ _ (by omega),beq_iff_eq,if_neg (by decide)];constructor<;>intro _<;>omega
  .rw[rH _ _ (by omega),beq_iff_eq,if_neg (by decide)];intro _;split at hw<;>omega
 .simp only[Kg,bI,aeT l l0 l1,wrap_u64,aeT h h0 h1];rw[Pq _ _ _ (by omega) (by omega) (by omega) (by omega)];simp only[bG,lI];generalize hm:((18446744073709551615-h)%18446744073709551616+((18446744073709551615-l)%18446744073709551616+1+0)/18446744073709551616)%18446744073709551616=m
  have hw:=Hk m;generalize IntKind.wrap IntKind.i64 m=w at*
  have m0:0<=m/\m<18446744073709551616:=by omega
  rw[Fy m0.1 m0.2] at hw;have w0: -9223372036854775808<=w/\w<=9223372036854775807:=by split at hw<;>omega
  have wm:(w<0/\w=m-18446744073709551616)∨(0<=w/\w=m):=by split at hw<;>omega
  clear hw
  by_cases c:w<0
  .rw[dW c,bB];refine⟨_,_,_,rfl,⟨w0.1,w0.2,by omega,by omega⟩,?_,?_⟩
   .simp only[true_iff];omega
   .intro _;omega
  .rw[cV c,bI];refine⟨_,_,_,rfl,⟨w0.1,w0.2,by omega,by omega⟩,?_,?_⟩
   .simp only[cB,beq_iff_eq,Cd];constructor<;>intro _<;>omega
   .simp only[cB,beq_iff_eq,Cd];intro _;omega
theorem aYt (d:Int)(s:Nat)(hs:s<=127)(d0:0<=d)(d1:d<18446744073709551616):
  ∃h' l',hM 0 d (ws s)=some (h',l')/\0<=h'/\h'<18446744073709551616/\0<=l'/\l'<18446744073709551616/\h'*18446744073709551616+l'=d*2^s%340282366920938463463374607431768211456:=by
 simp only[hM,Tt,Pg.bQ,Pg.bN,Pg.cx,Pg.fq,Pg.ew];try delta wI wU
 by_cases c:64<=s
 .have e:decide (ws s>=64)=true:=by simp only[dz];exact dW (by omega)
  have e2:IntKind.wrap .i64 (ws s-64)=ws (s-64):=(wrap_i64 (by simp only[dz];omega) (by simp only[dz];omega)).trans (by simp only[dz];omega);have e3:(!decide (ws (s-64)<0))=true:=by simp
  have e4:min (z4 (ws (s-64))) 64=s-64:=by
   show min (s-64) 64=s-64;omega
  simp only[e,e2,e3,e4,bB,wrap_u64];refine⟨_,_,rfl,by omega,by omega,by omega,by omega,?_⟩
  have p:(2:Int)^s=2^(s-64)*18446744073709551616:=by
   rw[show(18446744073709551616:Int)=2^64 from rfl,<-Int.pow_add];congr 1;omega
  rw[p,<-alj];generalize d*2^(s-64)=x
  omega
 .have e:decide (ws s>=64)=false:=by simp only[dz];exact cV (by omega)
  have e2:IntKind.wrap .i64 (64-ws s)=ws (64-s):=(wrap_i64 (by simp only[dz];omega) (by simp only[dz];omega)).trans (by simp only[dz];omega);have e3:∀n,(!decide (ws n<0))=true:=by simp
  have e4:min (z4 (ws (64-s))) 64=64-s:=by
   show min (64-s) 64=64-s;omega
  have e5:min (z4 (ws s)) 64=s:=by
   show min s 64=s;omega
  simp only[e,e2,e3,e4,e5,bB,bI,wrap_u64,agw];rw[rH _ _ (pJ (mr _))]
  have pq:(18446744073709551616:Int)=2^s*2^(64-s):=by
   rw[<-Int.pow_add,show s+(64-s)=64 by omega];rfl
  have P0:=mr s;have Q0:=mr (64-s);have x0:0<=d/2^(64-s):=En d0 (pJ Q0);have x1:d/2^(64-s)<2^s:=ab4 Q0 (by rw[<-pq];exact d1);have x2:d/2^(64-s)<=d:=ayk _ d0;have z0:(0:Int)%18446744073709551616=0:=rfl;rw[z0]
  have key:ws (wd (wn 64 0|||wn 64 (d/2^(64-s))))=d/2^(64-s):=by
   rw[azb 0 (d/2^(64-s)) 0 (by omega) (by decide) x0 (by omega) (by omega) (by rw[show(2:Int)^0=1 from rfl,Int.emod_one])];omega
  rw[key];refine⟨_,_,rfl,by omega,by omega,by omega,by omega,?_⟩
  have m1:d*2^s/18446744073709551616=d/2^(64-s):=by
   rw[pq,yb d,Int.mul_ediv_mul_of_pos _ _ P0]
  have b1:d*2^s<340282366920938463463374607431768211456:=by
   have:=Int.mul_lt_mul_of_pos_right d1 P0;have q:(2:Int)^s<=2^64:=anp (by omega);have q2:(2:Int)^64=18446744073709551616:=rfl;have q3:18446744073709551616*2^s<=(18446744073709551616:Int)*18446744073709551616:=Int.mul_le_mul_of_nonneg_left (by omega) (by omega);have q4:(18446744073709551616:Int)*18446744073709551616=340282366920938463463374607431768211456:=by decide
   omega
  have b0:0<=d*2^s:=Cb d0 (pJ P0);rw[Fy b0 b1];have x3:d/2^(64-s)%18446744073709551616=d/2^(64-s):=Fy x0 (by omega);rw[x3,<-m1];omega
theorem anq (a:Int)(s:Nat)(hs:s<=127)(a0: -9223372036854775808<=a)(a1:a<=9223372036854775807):
  ∃h l b,vT a (ws s)=some ((h,l),b)/\okW h l/\(b=true↔ -170141183460469231731687303715884105728<=a*2^s/\a*2^s<170141183460469231731687303715884105728)/\(b=true->vW h l=a*2^s)/\(b=false->h=0/\l=0):=by
 simp only[vT,acx,Pg.bQ,Pg.bN,Pg.cx,Pg.fq,Pg.ew];try delta wI wU
 have n0:decide (ws s<0)=false:=by simp
 have n1:decide (ws s>127)=false:=by simp only[dz];exact cV (by omega)
 rw[n0,bI,n1,bI,apw a a0 a1,bG];generalize hd:(if a<0 then -a else a)=d
 have d0:0<=d/\d<=9223372036854775808:=by split at hd<;>omega
 obtain⟨u,v,e1,u0,u1,v0,v1,e2⟩:=aYt d s hs d0.1 (by omega);rw[e1,bG];simp only;have P0:=mr s;have D0:0<=d*2^s:=Cb d0.1 (pJ P0)
 have sg:(a<0->a*2^s= -(d*2^s))/\(¬a<0->a*2^s=d*2^s):=by
  constructor<;>intro h
  .rw[if_pos h] at hd;rw[<-hd,Int.neg_mul,Int.neg_neg]
  .rw[if_neg h] at hd;rw[hd]
 have a16:∀{b:Bool},b=false->¬d*2^s<340282366920938463463374607431768211456->(b=true↔ -170141183460469231731687303715884105728<=a*2^s/\a*2^s<170141183460469231731687303715884105728):=by
  intro b hb hn;rw[hb];refine iff_of_false Bool.false_ne_true λh=> ?_;by_cases n:a<0
  .have:=sg.1 n;omega
  .have:=sg.2 n;omega
 have fin:d*2^s<340282366920938463463374607431768211456->∃h l b,(Option.bind (nm u v (decide (a<0))) λ(d:WY)=>bif !d.2 then some (((0,0),false):(Int×Int)×Bool) else some (d.1,true))=some ((h,l),b)/\okW h l/\(b=true↔ -170141183460469231731687303715884105728<=a*2^s/\a*2^s<170141183460469231731687303715884105728)/\(b=true->vW h l=a*2^s)/\(b=false->h=0/\l=0):=by
  intro lt;rw[Fy D0 lt] at e2;obtain⟨h',l',b,e3,o3,f3,v3⟩:=aRp u v (decide (a<0)) u0 u1 v0 v1;rw[e3,bG];rw[e2] at f3 v3;by_cases n:a<0
  .have q:=sg.1 n;rw[dW n,if_pos rfl] at f3 v3;cases b with
   |false=>
    refine⟨0,0,false,rfl,⟨by omega,by omega,by omega,by omega⟩,?_,(λh=>by cases h),(λ_=>⟨rfl,rfl⟩)⟩;rw[f3];omega
   |true=>
    refine⟨h',l',true,rfl,o3,?_,(λ_=> ?_),(λh=>by cases h)⟩
    .rw[f3];omega
    .rw[v3 rfl];omega
  .have q:=sg.2 n;rw[cV n,if_neg (by decide)] at f3 v3;cases b with
   |false=>
    refine⟨0,0,false,rfl,⟨by omega,by omega,by omega,by omega⟩,?_,(λh=>by cases h),(λ_=>⟨rfl,rfl⟩)⟩;rw[f3];omega
   |true=>
    refine⟨h',l',true,rfl,o3,?_,(λ_=> ?_),(λh=>by cases h)⟩
    .rw[f3];omega
    .rw[v3 rfl];omega
 have shr:∃x y,js u v (ws s)=some (x,y)/\0<=x/\0<=y/\y<18446744073709551616/\x*18446744073709551616+y=(u*18446744073709551616+v)/2^s:=by
  rcases ni s 127 with c|c
  .exact awz u v s (by omega) u0 u1 v0 v1
  .obtain rfl:s=127:=by omega
   refine⟨0,u/9223372036854775808,?_,by omega,by omega,by omega,?_⟩
   .simp only[js,Js,Pg.bQ,Pg.bN,Pg.cx,Pg.fq,Pg.ew];try delta wI wU
    have k1:decide (ws 127>=64)=true:=by decide
    have k2:(!decide (IntKind.wrap .i64 (ws 127-64)<0))=true:=by decide
    have k3:(2:Int)^min (z4 (IntKind.wrap .i64 (ws 127-64))) 64=9223372036854775808:=by decide
    simp only[k1,k2,k3,bB];rw[rH _ _ (by omega)]
   .have k:(2:Int)^127=170141183460469231731687303715884105728:=by decide
    rw[k];omega
 obtain⟨x,y,e3,x0,y0,y1,e4⟩:=shr;rw[e3,bG];simp only;rw[e2] at e4;by_cases lt:d*2^s<340282366920938463463374607431768211456
 .rw[Fy D0 lt,Int.mul_ediv_cancel _ (by omega)] at e4;have xe:(x==0)=true:=by rw[beq_iff_eq];omega
  have ye:(y==d)=true:=by rw[beq_iff_eq];omega
  rw[xe,ye];exact fin lt
 .have small:d*2^s%340282366920938463463374607431768211456/2^s<d:=by
   refine ab4 P0 ?_;have:d*2^s%340282366920938463463374607431768211456<340282366920938463463374607431768211456:=Tf _ (by omega);omega
  have ne:(x==0&&(y==d&&true))=false:=by
   rw[Bool.and_true];by_cases xz:x=0
   .have:(y==d)=false:=by rw[agr];omega
    rw[this,Bool.and_false]
   .have:(x==0)=false:=by rw[agr];omega
    rw[this,Bool.false_and]
  rw[ne];exact⟨0,0,false,rfl,⟨by omega,by omega,by omega,by omega⟩,a16 rfl lt,(λh=>by cases h),(λ_=>⟨rfl,rfl⟩)⟩
theorem RU (x:Int)(h0:1<=x)(h1:x<256):∃n:Nat,1<=n/\n<=8/\(2:Int)^(n-1)<=x/\x<2^n/\bf (IntKind.wrap .u8 x) 256=true/\IntKind.wrap .i64 (EO (ByteArray.mk (List.toArray (ul (ul [0,1,2,2,3,3,3,3,4,4,4,4,4,4,4,4,5,5,5,5,5,5,5,5,5,5,5,5,5,5,5,5,6,6,6,6,6,6,6,6,6,6,6,6,6,6,6,6,6,6,6,6,6,6,6,6,6,6,6,6,6,6,6,6] [7,7,7,7,7,7,7,7,7,7,7,7,7,7,7,7,7,7,7,7,7,7,7,7,7,7,7,7,7,7,7,7,7,7,7,7,7,7,7,7,7,7,7,7,7,7,7,7,7,7,7,7,7,7,7,7,7,7,7,7,7,7,7,7]) (ul [8,8,8,8,8,8,8,8,8,8,8,8,8,8,8,8,8,8,8,8,8,8,8,8,8,8,8,8,8,8,8,8,8,8,8,8,8,8,8,8,8,8,8,8,8,8,8,8,8,8,8,8,8,8,8,8,8,8,8,8,8,8,8,8] [8,8,8,8,8,8,8,8,8,8,8,8,8,8,8,8,8,8,8,8,8,8,8,8,8,8,8,8,8,8,8,8,8,8,8,8,8,8,8,8,8,8,8,8,8,8,8,8,8,8,8,8,8,8,8,8,8,8,8,8,8,8,8,8])))) (z4 (IntKind.wrap IntKind.u8 x)))=(n:Int):=by
 obtain⟨a,rfl⟩:∃a:Nat,x=(a:Int):=⟨x.toNat,by omega⟩;have t:∀a:Fin 256,1<=a.val->(bf (IntKind.wrap .u8 (a.val:Int)) 256=true/\IntKind.wrap .i64 (EO (ByteArray.mk (List.toArray (ul (ul [0,1,2,2,3,3,3,3,4,4,4,4,4,4,4,4,5,5,5,5,5,5,5,5,5,5,5,5,5,5,5,5,6,6,6,6,6,6,6,6,6,6,6,6,6,6,6,6,6,6,6,6,6,6,6,6,6,6,6,6,6,6,6,6] [7,7,7,7,7,7,7,7,7,7,7,7,7,7,7,7,7,7,7,7,7,7,7,7,7,7,7,7,7,7,7,7,7,7,7,7,7,7,7,7,7,7,7,7,7,7,7,7,7,7,7,7,7,7,7,7,7,7,7,7,7,7,7,7]) (ul [8,8,8,8,8,8,8,8,8,8,8,8,8,8,8,8,8,8,8,8,8,8,8,8,8,8,8,8,8,8,8,8,8,8,8,8,8,8,8,8,8,8,8,8,8,8,8,8,8,8,8,8,8,8,8,8,8,8,8,8,8,8,8,8] [8,8,8,8,8,8,8,8,8,8,8,8,8,8,8,8,8,8,8,8,8,8,8,8,8,8,8,8,8,8,8,8,8,8,8,8,8,8,8,8,8,8,8,8,8,8,8,8,8,8,8,8,8,8,8,8,8,8,8,8,8,8,8,8])))) (z4 (IntKind.wrap IntKind.u8 (a.val:Int))))=((Nat.log2 a.val+1:Nat):Int)):=by decide+kernel
 have ha:1<=a:=by omega
 have a3O:a<256:=by omega
 have l1:=Nat.log2_self_le (n:=a) (by omega);have l2:a<2^(a.log2+1):=Nat.lt_log2_self
 have lb:a.log2<8:=by
  rcases ni a.log2 8 with c|c
  .exact c
  .have:2^8<=2^a.log2:=Nat.pow_le_pow_right (by decide) c;omega
 have k:=t ⟨a,a3O⟩ ha;refine⟨a.log2+1,by omega,by omega,?_,?_,k.1,k.2⟩
 .rw[Nat.add_sub_cancel];have:((2^a.log2:Nat):Int)=(2:Int)^a.log2:=by simp
  omega
 .have:((2^(a.log2+1):Nat):Int)=(2:Int)^(a.log2+1):=by simp
  omega
theorem pow_add' (a b:Nat):(2:Int)^(a+b)=2^a*2^b:=Int.pow_add _ _ _
theorem F3 (x:Int)(b n:Nat)(hn:1<=n)(h0:(2:Int)^(n-1)<=x/2^b)(h1:x/2^b<2^n):(2:Int)^(n+b-1)<=x/\x<2^(n+b):=by
 have B0:=mr b;have e1:(2:Int)^(n+b-1)=2^(n-1)*2^b:=by rw[<-pow_add'];congr 1;omega
 have e2:(2:Int)^(n+b)=2^n*2^b:=pow_add' _ _;rw[e1,e2];exact⟨Int.mul_le_of_le_ediv B0 h0,Int.lt_mul_of_ediv_lt B0 h1⟩
theorem aZO (x:Int)(h0:1<=x)(h1:x<18446744073709551616):∃n:Nat,1<=n/\n<=64/\(2:Int)^(n-1)<=x/\x<2^n/\IG x=some (n:Int):=by
 have f1:∀a:Int,v9 a 256=a/256:=λa=>rH _ _ (by omega)
 have f2:∀a:Int,v9 a 65536=a/65536:=λa=>rH _ _ (by omega)
 have f3:∀a:Int,v9 a 4294967296=a/4294967296:=λa=>rH _ _ (by omega)
 simp only[IG,acr,Pg.bQ,Pg.bN,Pg.cx,Pg.fq,Pg.ew,f1,f2,f3];try delta wI wU
 by_cases c:x>=4294967296
 .by_cases d:x/4294967296>=65536
  .by_cases e:x/4294967296/65536>=256
   .have q:x/4294967296/65536/256=x/2^56:=by rw[show(2:Int)^56=72057594037927936 from rfl]<;>omega
    obtain⟨n,n1,n2,b0,b1,t1,t2⟩:=RU (x/4294967296/65536/256) (by omega) (by omega);rw[q] at b0 b1;obtain⟨c0,c1⟩:=F3 x 56 n n1 b0 b1;refine⟨n+56,by omega,by omega,c0,c1,?_⟩;rw[dW c,bB,dW d,bB,dW e,bB,t1,bB,t2,wrap_i64 (n:=56+(n:Int)) (by omega) (by omega)];exact cW (some:Int->Option Int) (by omega)
   .have q:x/4294967296/65536=x/2^48:=by rw[show(2:Int)^48=281474976710656 from rfl]<;>omega
    obtain⟨n,n1,n2,b0,b1,t1,t2⟩:=RU (x/4294967296/65536) (by omega) (by omega);rw[q] at b0 b1;obtain⟨c0,c1⟩:=F3 x 48 n n1 b0 b1;refine⟨n+48,by omega,by omega,c0,c1,?_⟩;rw[dW c,bB,dW d,bB,cV e,bI,t1,bB,t2,wrap_i64 (n:=48+(n:Int)) (by omega) (by omega)];exact cW (some:Int->Option Int) (by omega)
  .by_cases e:x/4294967296>=256
   .have q:x/4294967296/256=x/2^40:=by rw[show(2:Int)^40=1099511627776 from rfl]<;>omega
    obtain⟨n,n1,n2,b0,b1,t1,t2⟩:=RU (x/4294967296/256) (by omega) (by omega);rw[q] at b0 b1;obtain⟨c0,c1⟩:=F3 x 40 n n1 b0 b1;refine⟨n+40,by omega,by omega,c0,c1,?_⟩;rw[dW c,bB,cV d,bI,dW e,bB,t1,bB,t2,wrap_i64 (n:=40+(n:Int)) (by omega) (by omega)];exact cW (some:Int->Option Int) (by omega)
   .have q:x/4294967296=x/2^32:=by rw[show(2:Int)^32=4294967296 from rfl]<;>omega
    obtain⟨n,n1,n2,b0,b1,t1,t2⟩:=RU (x/4294967296) (by omega) (by omega);rw[q] at b0 b1;obtain⟨c0,c1⟩:=F3 x 32 n n1 b0 b1;refine⟨n+32,by omega,by omega,c0,c1,?_⟩;rw[dW c,bB,cV d,bI,cV e,bI,t1,bB,t2,wrap_i64 (n:=32+(n:Int)) (by omega) (by omega)];exact cW (some:Int->Option Int) (by omega)
 .by_cases d:x>=65536
  .by_cases e:x/65536>=256
   .have q:x/65536/256=x/2^24:=by rw[show(2:Int)^24=16777216 from rfl]<;>omega
    obtain⟨n,n1,n2,b0,b1,t1,t2⟩:=RU (x/65536/256) (by omega) (by omega);rw[q] at b0 b1;obtain⟨c0,c1⟩:=F3 x 24 n n1 b0 b1;refine⟨n+24,by omega,by omega,c0,c1,?_⟩;rw[cV c,bI,dW d,bB,dW e,bB,t1,bB,t2,wrap_i64 (n:=24+(n:Int)) (by omega) (by omega)];exact cW (some:Int->Option Int) (by omega)
   .have q:x/65536=x/2^16:=by rw[show(2:Int)^16=65536 from rfl]<;>omega
    obtain⟨n,n1,n2,b0,b1,t1,t2⟩:=RU (x/65536) (by omega) (by omega);rw[q] at b0 b1;obtain⟨c0,c1⟩:=F3 x 16 n n1 b0 b1;refine⟨n+16,by omega,by omega,c0,c1,?_⟩;rw[cV c,bI,dW d,bB,cV e,bI,t1,bB,t2,wrap_i64 (n:=16+(n:Int)) (by omega) (by omega)];exact cW (some:Int->Option Int) (by omega)
  .by_cases e:x>=256
   .have q:x/256=x/2^8:=by rw[show(2:Int)^8=256 from rfl]<;>omega
    obtain⟨n,n1,n2,b0,b1,t1,t2⟩:=RU (x/256) (by omega) (by omega);rw[q] at b0 b1;obtain⟨c0,c1⟩:=F3 x 8 n n1 b0 b1;refine⟨n+8,by omega,by omega,c0,c1,?_⟩;rw[cV c,bI,cV d,bI,dW e,bB,t1,bB,t2,wrap_i64 (n:=8+(n:Int)) (by omega) (by omega)];exact cW (some:Int->Option Int) (by omega)
   .have q:x=x/2^0:=by rw[show(2:Int)^0=1 from rfl]<;>omega
    obtain⟨n,n1,n2,b0,b1,t1,t2⟩:=RU (x) (by omega) (by omega);rw[q] at b0 b1;obtain⟨c0,c1⟩:=F3 x 0 n n1 b0 b1;refine⟨n+0,by omega,by omega,c0,c1,?_⟩;rw[cV c,bI,cV d,bI,cV e,bI,t1,bB,t2,wrap_i64 (n:=0+(n:Int)) (by omega) (by omega)];exact cW (some:Int->Option Int) (by omega)
theorem aYu (x:Int)(h0:1<=x)(h1:x<18446744073709551616):∃s:Nat,s<=63/\9223372036854775808<=x*2^s/\x*2^s<18446744073709551616/\pN x=some (s:Int):=by
 obtain⟨n,n1,n2,b0,b1,e⟩:=aZO x h0 h1;refine⟨64-n,by omega,?_,?_,?_⟩
 .have p:(9223372036854775808:Int)=2^(n-1)*2^(64-n):=by
   rw[<-pow_add',show n-1+(64-n)=63 by omega];rfl
  rw[p];exact aam b0 (pJ (mr _))
 .have p:(18446744073709551616:Int)=2^n*2^(64-n):=by
   rw[<-pow_add',show n+(64-n)=64 by omega];rfl
  rw[p];exact Int.mul_lt_mul_of_pos_right b1 (mr _)
 .simp only[pN,Ci,Pg.bQ,Pg.bN,Pg.cx,Pg.fq,Pg.ew];try delta wI wU
  rw[e,bG,wrap_i64 (by omega) (by omega)];exact cW (some:Int->Option Int) (by omega)
structure Dig (Y ix zm U u:Int):Prop where
 y:Y=ix*4294967296+zm
 a:2147483648<=ix/\ix<4294967296
 b:0<=zm/\zm<4294967296
 u0:0<=U/\U<Y
 d:0<=u/\u<4294967296
theorem Dig.lt {Y ix zm U u:Int}(h:Dig Y ix zm U u):0<=(U*4294967296+u)/Y/\(U*4294967296+u)/Y<4294967296:=by
 obtain⟨y,a,b,u0,d⟩:=h;constructor
 .exact En (by omega) (by omega)
 .refine ab4 (by omega) ?_;omega
theorem Dig.down {Y ix zm U u q rh:Int}(h:Dig Y ix zm U u)(e:q*ix+rh=U)(c:4294967296*rh+u<q*zm):(U*4294967296+u)/Y<=q-1:=by
 obtain⟨y,a,b,u0,d⟩:=h
 have:(U*4294967296+u)/Y<q:=by
  refine ab4 (by omega) ?_;have e2:q*Y=(q*ix)*4294967296+q*zm:=by rw[y];grind
  omega
 omega
theorem Dig.stay {Y ix zm U u q rh:Int}(h:Dig Y ix zm U u)(e:q*ix+rh=U)(c:q*zm<=4294967296*rh+u)(l:(U*4294967296+u)/Y<=q):q=(U*4294967296+u)/Y:=by
 obtain⟨y,a,b,u0,d⟩:=h
 have:q<=(U*4294967296+u)/Y:=by
  refine(Int.le_ediv_iff_mul_le (by omega)).2 ?_;have e2:q*Y=(q*ix)*4294967296+q*zm:=by rw[y];grind
  omega
 omega
theorem Dig.out {Y ix zm U u q rh:Int}(h:Dig Y ix zm U u)(e:q*ix+rh=U)(q0:0<=q)(c:4294967296<=rh)(l:(U*4294967296+u)/Y<=q):q=(U*4294967296+u)/Y:=by
 have h':=h;obtain⟨y,a,b,u0,d⟩:=h;refine h'.stay e ?_ l
 have q1:q<=4294967295:=by
  rcases Ki q 4294967296 with k|k
  .omega
  .exfalso
   have:=aam k (show 0<=ix by omega);omega
 have:=LW q1 (show zm<=4294967295 by omega) b.1 (by omega);omega
theorem aZP {ρ:Type}(Y s ix zm U u u0:Int)(h:Dig Y ix zm U u)(k:_->Option ρ)(r:Option ρ)
  (h1:∀rh a b c d,k (Sum.inl (Y,s,ix,zm,U,u,u0,(U*4294967296+u)/Y,rh,a,b,c,d))=r)
  (h2:∀rh a b c d e f g i,k (Sum.inr (Sum.inl (Y,s,ix,zm,U,u,u0,(U*4294967296+u)/Y,rh,a,b,c,d,e,f,g,i)))=r)
  (h3:∀rh a b c d e,k (Sum.inr (Sum.inr (Y,s,ix,zm,U,u,u0,(U*4294967296+u)/Y,rh,a,b,c,d,e)))=r):
  (Jw (Y,s,ix,zm,U,u,u0,U/ix,U%ix)).bind k=r:=by
 have h':=h;obtain⟨y,a,b,hu,d⟩:=h;have lt:=h'.lt;have qm:=atf U ix;have m0:=WE U (show ix≠0 by omega);have m1:=Tf U (show 0<ix by omega);have qn:=En hu.1 (show 0<=ix by omega)
 have start:(U*4294967296+u)/Y<=U/ix:=by
  have e2:(U*4294967296+u)/Y<U/ix+1:=by
   refine ab4 (by omega) ?_;have e3:(U/ix+1)*Y=(ix*(U/ix))*4294967296+ix*4294967296+(U/ix+1)*zm:=by rw[y];grind
   have:=Cb (show 0<=U/ix+1 by omega) b.1;omega
  omega
 unfold Jw
 refine Km (λt x=>∃(q rh:Int),0<=q/\q*ix+rh=U/\(U*4294967296+u)/Y<=q/\(2-(t:Int))*2147483648<=rh/\0<=rh/\rh<4294967296/\x=(Y,s,ix,zm,U,u,u0,q,rh)) ?_ 2000 2 _ (by omega)
  ⟨U/ix,U%ix,qn,by rw[yb];exact qm,start,by omega,m0,by omega,rfl⟩
 rintro t _ c ⟨q,rh,q0,e,l,tb,r0,r1,rfl⟩ hc
 have down:(U*4294967296+u)/Y<=q-1->0<=q-1->(q-1)*ix+(rh+ix)=U:=λ_ _=>by
  have:(q-1)*ix=q*ix-ix:=by grind
  omega
 have qb:q<=4294967298:=by
  rcases Ki q 4294967298 with k|k
  .omega
  .exfalso
   have:=aam k (show 0<=ix by omega);omega
 have w1:IntKind.wrap .u64 (rh+ix)=rh+ix:=by rw[wrap_u64];omega
 by_cases c1:q>=4294967296
 .have d1:(U*4294967296+u)/Y<=q-1:=by omega
  have w2:IntKind.wrap .u64 (q-1)=q-1:=by rw[wrap_u64];omega
  have e2:=down d1 (by omega);simp only[Jv,Pg.sV,Pg.sW,Pg.wM,Pg.Cf,Pg.sX,nZ,ld,wU,dW c1,bB,w1,w2];by_cases c2:rh+ix>=4294967296
  .rw[dW c2,bB,h'.out e2 (by omega) c2 d1];exact h1 _ _ _ _ _
  .rw[cV c2,bI];have t1:1<=t:=by omega
   exact hc (t-1) _ (by omega) ⟨q-1,rh+ix,by omega,e2,d1,by omega,by omega,by omega,rfl⟩
 .have pm:0<=q*zm/\q*zm<18446744073709551616:=by
   refine⟨Cb q0 b.1,?_⟩;have:=LW (show q<=4294967295 by omega) (show zm<=4294967295 by omega) b.1 (by omega);omega
  have w3:IntKind.wrap .u64 (q*zm)=q*zm:=by rw[wrap_u64];omega
  have w4:IntKind.wrap .u64 (4294967296*rh)=4294967296*rh:=by rw[wrap_u64];omega
  have w5:IntKind.wrap .u64 (4294967296*rh+u)=4294967296*rh+u:=by rw[wrap_u64];omega
  simp only[Jv,Pg.sV,Pg.sW,Pg.wM,Pg.Cf,Pg.sX,nZ,ld,wU,cV c1,bI,w1,w3,w4,w5];by_cases c3:q*zm>4294967296*rh+u
  .have d1:=h'.down e c3
   have qp:1<=q:=by
    rcases Ki 0 q with k|k
    .omega
    .exfalso
     have:q=0:=by omega
     subst this;omega
   have w2:IntKind.wrap .u64 (q-1)=q-1:=by rw[wrap_u64];omega
   have e2:=down d1 (by omega);rw[dW c3,bB,w2];by_cases c2:rh+ix>=4294967296
   .rw[dW c2,bB,h'.out e2 (by omega) c2 d1];exact h2 _ _ _ _ _ _ _ _ _
   .rw[cV c2,bI];exact hc (t-1) _ (by omega) ⟨q-1,rh+ix,by omega,e2,d1,by omega,by omega,by omega,rfl⟩
  .rw[cV c3,bI,h'.stay e (by omega) l];exact h3 _ _ _ _ _ _
theorem aZQ {ρ:Type}(Y s ix zm U u q1:Int)(h:Dig Y ix zm U u)(k:_->Option ρ)(r:Option ρ)
  (h1:∀rh a b c d,k (Sum.inl (Y,s,ix,zm,u,q1,rh,U,(U*4294967296+u)/Y,a,b,c,d))=r)
  (h2:∀rh a b c d e f g i,k (Sum.inr (Sum.inl (Y,s,ix,zm,u,q1,rh,U,(U*4294967296+u)/Y,a,b,c,d,e,f,g,i)))=r)
  (h3:∀rh a b c d e,k (Sum.inr (Sum.inr (Y,s,ix,zm,u,q1,rh,U,(U*4294967296+u)/Y,a,b,c,d,e)))=r):
  (Jz (Y,s,ix,zm,u,q1,U%ix,U,U/ix)).bind k=r:=by
 have h':=h;obtain⟨y,a,b,hu,d⟩:=h;have lt:=h'.lt;have qm:=atf U ix;have m0:=WE U (show ix≠0 by omega);have m1:=Tf U (show 0<ix by omega);have qn:=En hu.1 (show 0<=ix by omega)
 have start:(U*4294967296+u)/Y<=U/ix:=by
  have e2:(U*4294967296+u)/Y<U/ix+1:=by
   refine ab4 (by omega) ?_;have e3:(U/ix+1)*Y=(ix*(U/ix))*4294967296+ix*4294967296+(U/ix+1)*zm:=by rw[y];grind
   have:=Cb (show 0<=U/ix+1 by omega) b.1;omega
  omega
 unfold Jz
 refine Km (λt x=>∃(q rh:Int),0<=q/\q*ix+rh=U/\(U*4294967296+u)/Y<=q/\(2-(t:Int))*2147483648<=rh/\0<=rh/\rh<4294967296/\x=(Y,s,ix,zm,u,q1,rh,U,q)) ?_ 2000 2 _ (by omega)
  ⟨U/ix,U%ix,qn,by rw[yb];exact qm,start,by omega,m0,by omega,rfl⟩
 rintro t _ c ⟨q,rh,q0,e,l,tb,r0,r1,rfl⟩ hc
 have down:(U*4294967296+u)/Y<=q-1->0<=q-1->(q-1)*ix+(rh+ix)=U:=λ_ _=>by
  have:(q-1)*ix=q*ix-ix:=by grind
  omega
 have qb:q<=4294967298:=by
  rcases Ki q 4294967298 with k|k
  .omega
  .exfalso
   have:=aam k (show 0<=ix by omega);omega
 have w1:IntKind.wrap .u64 (rh+ix)=rh+ix:=by rw[wrap_u64];omega
 by_cases c1:q>=4294967296
 .have d1:(U*4294967296+u)/Y<=q-1:=by omega
  have w2:IntKind.wrap .u64 (q-1)=q-1:=by rw[wrap_u64];omega
  have e2:=down d1 (by omega);simp only[Jy,Pg.sV,Pg.sW,Pg.wM,Pg.Cf,Pg.sX,nZ,ld,wU,dW c1,bB,w1,w2];by_cases c2:rh+ix>=4294967296
  .rw[dW c2,bB,h'.out e2 (by omega) c2 d1];exact h1 _ _ _ _ _
  .rw[cV c2,bI];have t1:1<=t:=by omega
   exact hc (t-1) _ (by omega) ⟨q-1,rh+ix,by omega,e2,d1,by omega,by omega,by omega,rfl⟩
 .have pm:0<=q*zm/\q*zm<18446744073709551616:=by
   refine⟨Cb q0 b.1,?_⟩;have:=LW (show q<=4294967295 by omega) (show zm<=4294967295 by omega) b.1 (by omega);omega
  have w3:IntKind.wrap .u64 (q*zm)=q*zm:=by rw[wrap_u64];omega
  have w4:IntKind.wrap .u64 (4294967296*rh)=4294967296*rh:=by rw[wrap_u64];omega
  have w5:IntKind.wrap .u64 (4294967296*rh+u)=4294967296*rh+u:=by rw[wrap_u64];omega
  simp only[Jy,Pg.sV,Pg.sW,Pg.wM,Pg.Cf,Pg.sX,nZ,ld,wU,cV c1,bI,w1,w3,w4,w5];by_cases c3:q*zm>4294967296*rh+u
  .have d1:=h'.down e c3
   have qp:1<=q:=by
    rcases Ki 0 q with k|k
    .omega
    .exfalso
     have:q=0:=by omega
     subst this;omega
   have w2:IntKind.wrap .u64 (q-1)=q-1:=by rw[wrap_u64];omega
   have e2:=down d1 (by omega);rw[dW c3,bB,w2];by_cases c2:rh+ix>=4294967296
   .rw[dW c2,bB,h'.out e2 (by omega) c2 d1];exact h2 _ _ _ _ _ _ _ _ _
   .rw[cV c2,bI];exact hc (t-1) _ (by omega) ⟨q-1,rh+ix,by omega,e2,d1,by omega,by omega,by omega,rfl⟩
  .rw[cV c3,bI,h'.stay e (by omega) l];exact h3 _ _ _ _ _ _
theorem aT9 (hi lo y:Int)(h0:0<=hi)(h1:hi<y)(h2:y<18446744073709551616)(l0:0<=lo)(l1:lo<18446744073709551616):
  IH hi lo y=some ((hi*18446744073709551616+lo)/y,(hi*18446744073709551616+lo)%y):=by
 simp only[IH,acs,Pg.bQ,Pg.bN,Pg.cx,Pg.fq,Pg.ew];try delta wI wU
 have y0:(y==0)=false:=by rw[agr];omega
 rw[y0,bI,cV (show ¬y<=hi by omega),bI];by_cases hz:hi=0
 .subst hz;have z:((0:Int)==0)=true:=rfl;have yn:(!decide (y=0))=true:=by rw[cV (by omega)];rfl
  rw[z,bB,yn,bB,bB,agw,alk,az6 l0,Int.tmod_eq_emod_of_nonneg l0];have d0:=En l0 (show 0<=y by omega);have d1:=ayk y l0;have w:IntKind.wrap .u64 (lo/y)=lo/y:=by rw[wrap_u64];omega
  rw[w]
 have z:(hi==0)=false:=by rw[agr];exact hz
 rw[z,bI];obtain⟨s,s63,b0,b1,e⟩:=aYu y (by omega) h2;rw[e,bG];have P0:=mr s;have Q0:=mr (64-s);have k1:IntKind.wrap .u64 (s:Int)=(s:Int):=by rw[wrap_u64];omega
 have k2:IntKind.wrap .u64 (64-(s:Int))=((64-s:Nat):Int):=by rw[wrap_u64];omega
 have k3:∀n:Nat,(!decide ((n:Int)<0))=true:=λn=>by rw[cV (by omega)];rfl
 have k4:min (z4 (s:Int)) 64=s:=by rw[Kf];omega
 have k5:min (z4 ((64-s:Nat):Int)) 64=64-s:=by rw[Kf];omega
 have k6:IntKind.wrap .u64 (y*2^s)=y*2^s:=by rw[wrap_u64];omega
 simp only[k1,k2,k3,k4,k5,k6,bB]
 have pq:(18446744073709551616:Int)=2^s*2^(64-s):=by
  rw[<-pow_add',show s+(64-s)=64 by omega];rfl
 have ab:hi*2^s+2^s<=y*2^s:=by
  have:=aam (show hi+1<=y by omega) (pJ P0);rw[aan] at this;omega
 have a0:0<=hi*2^s:=Cb h0 (pJ P0);have x0:0<=lo/2^(64-s):=En l0 (pJ Q0);have x1:lo/2^(64-s)<2^s:=ab4 Q0 (by rw[<-pq];exact l1);have k7:IntKind.wrap .u64 (hi*2^s)=hi*2^s:=by rw[wrap_u64];omega
 have or1:ws (wd (wn 64 (hi*2^s)|||wn 64 (v9 lo (2^(64-s)))))=hi*2^s+lo/2^(64-s):=by
  rw[rH _ _ (pJ Q0),BitVec.or_comm,azb _ _ s x0 x1 a0 (by omega) (by omega) (Int.mul_emod_left _ _)];omega
 have k8:IntKind.wrap .u64 (hi*2^s+lo/2^(64-s))=hi*2^s+lo/2^(64-s):=by rw[wrap_u64];omega
 simp only[k7,or1,k8];rw[wrap_u64 (lo*2^s)];have c0:0<=lo*2^s%18446744073709551616/\lo*2^s%18446744073709551616<18446744073709551616:=by omega
 have N:(hi*2^s+lo/2^(64-s))*18446744073709551616+lo*2^s%18446744073709551616=(hi*18446744073709551616+lo)*2^s:=by
  have m1:lo*2^s/18446744073709551616=lo/2^(64-s):=by
   rw[pq,yb lo,Int.mul_ediv_mul_of_pos _ _ P0]
  have m2:lo*2^s=lo*2^s/18446744073709551616*18446744073709551616+lo*2^s%18446744073709551616:=by omega
  have m3:(hi*18446744073709551616+lo)*2^s=hi*2^s*18446744073709551616+lo*2^s:=by grind
  rw[m3,<-m1];omega
 have U1:0<=hi*2^s+lo/2^(64-s)/\hi*2^s+lo/2^(64-s)<y*2^s:=by omega
 have am1:∀x:Int,0<=x->x<18446744073709551616->IntKind.wrap .u64 (ws (wd (wn 64 x&&&wn 64 4294967295)))=x%4294967296:=λx x0 x1=>by
  rw[apv x x0 x1,wrap_u64];omega
 rw[am1 (y*2^s) (by omega) b1,am1 _ c0.1 c0.2];simp only[rH _ 4294967296 (show(0:Int)<=4294967296 by decide)]
 have A1:(hi*18446744073709551616+lo)/y=(hi*18446744073709551616+lo)*2^s/(y*2^s):=by
  rw[yb _ (2^s),yb y,Int.mul_ediv_mul_of_pos _ _ P0]
 have A2:(hi*18446744073709551616+lo)%y=(hi*18446744073709551616+lo)*2^s%(y*2^s)/2^s:=by
  rw[yb _ (2^s),yb y,Int.mul_emod_mul_of_pos _ _ P0,Int.mul_ediv_cancel_left _ (by omega)]
 rw[A1,A2,<-N];generalize hi*2^s+lo/2^(64-s)=U at*
 generalize lo*2^s%18446744073709551616=L at*
 generalize hY:y*2^s=Y at*
 generalize h2s:(2:Int)^s=P at*
 clear N A1 A2 or1 k7 k8 x0 x1 ab a0 pq k6 e
 have hY1:2147483648<=Y/4294967296/\Y/4294967296<4294967296:=by omega
 have g1:Dig Y (Y/4294967296) (Y%4294967296) U (L/4294967296):=⟨by omega,hY1,by omega,U1,by omega⟩;have yz:(!decide (Y/4294967296=0))=true:=by rw[cV (by omega)];rfl
 have Q1:=g1.lt;have R1:=atf (U*4294967296+L/4294967296) Y;have R1a:=WE (U*4294967296+L/4294967296) (show Y≠0 by omega);have R1b:=Tf (U*4294967296+L/4294967296) (show 0<Y by omega)
 have q0:IntKind.wrap .u64 (t8 U (Y/4294967296))=U/(Y/4294967296):=by
  rw[az6 U1.1,wrap_u64];have:=En U1.1 (show 0<=Y/4294967296 by omega);have:=ayk (Y/4294967296) U1.1;omega
 have r0:IntKind.wrap .u64 (U-IntKind.wrap .u64 (U/(Y/4294967296)*(Y/4294967296)))=U%(Y/4294967296):=by
  have qm:=Int.ediv_mul_add_emod U (Y/4294967296);have m0:=WE U (show Y/4294967296≠0 by omega);have m1:=Tf U (show 0<Y/4294967296 by omega);rw[wrap_u64,wrap_u64];generalize U/(Y/4294967296)*(Y/4294967296)=A at*
  omega
 simp only[yz,bB,q0,r0];generalize hQ1:(U*4294967296+L/4294967296)/Y=q1 at*
 generalize hR1:(U*4294967296+L/4294967296)%Y=R at*
 have g2:Dig Y (Y/4294967296) (Y%4294967296) R (L%4294967296):=⟨by omega,hY1,by omega,⟨R1a,R1b⟩,by omega⟩;have Q2:=g2.lt;have R2:=atf (R*4294967296+L%4294967296) Y;have R2a:=WE (R*4294967296+L%4294967296) (show Y≠0 by omega);have R2b:=Tf (R*4294967296+L%4294967296) (show 0<Y by omega);generalize hQ2:(R*4294967296+L%4294967296)/Y=q2 at*
 generalize hR2:(R*4294967296+L%4294967296)%Y=R' at*
 have un:IntKind.wrap .u64 (IntKind.wrap .u64 (IntKind.wrap .u64 (U*4294967296)+L/4294967296)-IntKind.wrap .u64 (q1*Y))=R:=by
  rw[yb q1 Y];simp only[wrap_u64];generalize Y*q1=A at*
  omega
 have q3:IntKind.wrap .u64 (t8 R (Y/4294967296))=R/(Y/4294967296):=by
  rw[az6 R1a,wrap_u64];have:=En R1a (show 0<=Y/4294967296 by omega);have:=ayk (Y/4294967296) R1a;omega
 have r3:IntKind.wrap .u64 (R-IntKind.wrap .u64 (R/(Y/4294967296)*(Y/4294967296)))=R%(Y/4294967296):=by
  have qm:=Int.ediv_mul_add_emod R (Y/4294967296);have m0:=WE R (show Y/4294967296≠0 by omega);have m1:=Tf R (show 0<Y/4294967296 by omega);rw[wrap_u64,wrap_u64];generalize R/(Y/4294967296)*(Y/4294967296)=A at*
  omega
 have un2:IntKind.wrap .u64 (IntKind.wrap .u64 (IntKind.wrap .u64 (R*4294967296)+L%4294967296)-IntKind.wrap .u64 (q2*Y))=R':=by
  rw[yb q2 Y];simp only[wrap_u64];generalize Y*q2=A at*
  omega
 have quo:IntKind.wrap .u64 (IntKind.wrap .u64 (q1*4294967296)+q2)=q1*4294967296+q2:=by
  simp only[wrap_u64];omega
 have ans:(U*18446744073709551616+L)/Y=q1*4294967296+q2/\(U*18446744073709551616+L)%Y=R':=by
  have e:U*18446744073709551616+L=R'+Y*(q1*4294967296+q2):=by
   have e2:Y*(q1*4294967296+q2)=Y*q1*4294967296+Y*q2:=by grind
   rw[e2];omega
  rw[e];constructor
  .rw[Int.add_mul_ediv_left _ _ (by omega),Int.ediv_eq_zero_of_lt R2a R2b,alk]
  .rw[Int.add_mul_emod_self_left,Fy R2a R2b]
 rw[ans.1,ans.2];refine aZP Y s _ _ U _ _ g1 _ _ ?_ ?_ ?_
 all_goals
  intros
  simp only[nZ,ld,hQ1,yz,bB,un,q3,r3];refine aZQ Y s _ _ R _ _ g2 _ _ ?_ ?_ ?_
  all_goals
   intros
   simp only[nZ,ld,hQ2,k3,bB,un2,quo,k4,h2s];rw[rH _ _ (pJ P0)]
def jK (x:Int):Int:=if x<0 then -x else x
theorem aLv (x:Int):0<=jK x:=by unfold jK;split<;>omega
def qdq (V D:Int):Int:=V/D+(if 2*(V%D)<D then 0 else 1)
def Hl (a d:Int):Int:=if (decide (a<0))=(decide (d<0)) then qdq (jK a) (jK d) else -qdq (jK a) (jK d)
theorem aJD (h l d:Int)(o:okW h l)(d0: -9223372036854775808<=d)(d1:d<=9223372036854775807)(nz:d≠0):
  BP h l d=if -9223372036854775808<=Hl (vW h l) d/\Hl (vW h l) d<=9223372036854775807 then some (Hl (vW h l) d,true) else some (0,false):=by
 simp only[BP,al2,Pg.bQ,Pg.bN,Pg.cx,Pg.fq,Pg.ew];try delta wI wU
 have z:(d==0)=false:=by rw[agr];exact nz
 obtain⟨ah,al,e1,a0,a1,a2,a3,a4⟩:=aJy h l o;have e2:=apw d d0 d1;rw[z,bI,e1,bG,e2,bG];simp only;have D0:0<jK d:=by unfold jK;split<;>omega
 have D1:jK d<=9223372036854775808:=by unfold jK;split<;>omega
 have ed:(if d<0 then -d else d)=jK d:=rfl
 have va:ah*18446744073709551616+al=jK (vW h l):=by
  rw[a4];obtain⟨o1,o2,o3,o4⟩:=o;unfold jK;simp only[vW];split<;>split<;>omega
 have sn:decide (h<0)=decide (vW h l<0):=by
  obtain⟨o1,o2,o3,o4⟩:=o;simp only[vW];by_cases c:h<0
  .rw[dW c,dW (by omega)]
  .rw[cV c,cV (by omega)]
 rw[ed,sn];generalize vW h l=V at*
 have nz2:(!decide (jK d=0))=true:=by rw[cV (by omega)];rfl
 have r0:=WE ah (show jK d≠0 by omega);have r1:=Tf ah D0;have q0:=En a0 (pJ D0);have q1:=ayk (jK d) a0;have qe:=atf ah (jK d);have dv:=aT9 (ah%jK d) al (jK d) r0 r1 (by omega) a2 a3;rw[nz2,bB,bB,Int.tmod_eq_emod_of_nonneg a0,dv,bG,az6 a0];simp only;have w1:IntKind.wrap .u64 (ah/jK d)=ah/jK d:=by rw[wrap_u64];omega
 have E:jK V=(ah%jK d*18446744073709551616+al)+jK d*(ah/jK d*18446744073709551616):=by
  rw[<-va];have:jK d*(ah/jK d*18446744073709551616)=jK d*(ah/jK d)*18446744073709551616:=by grind
  rw[this];omega
 have Q:jK V/jK d=(ah%jK d*18446744073709551616+al)/jK d+ah/jK d*18446744073709551616:=by
  rw[E,Int.add_mul_ediv_left _ _ (by omega)]
 have R:jK V%jK d=(ah%jK d*18446744073709551616+al)%jK d:=by rw[E,Int.add_mul_emod_self_left]
 have n0:0<=(ah%jK d*18446744073709551616+al)/jK d:=En (by omega) (pJ D0)
 have n1:(ah%jK d*18446744073709551616+al)/jK d<18446744073709551616:=by
  refine ab4 D0 ?_;omega
 have t0:=WE (ah%jK d*18446744073709551616+al) (show jK d≠0 by omega);have t1:=Tf (ah%jK d*18446744073709551616+al) D0;rw[<-R] at t0 t1 ⊢;have w2:IntKind.wrap .u64 (jK d-jK V%jK d)=jK d-jK V%jK d:=by rw[wrap_u64];omega
 rw[w1,w2]
 have sgn:(!decide (V<0)==decide (d<0))= !decide ((decide (V<0))=(decide (d<0))):=by
  cases decide (V<0)<;>cases decide (d<0)<;>rfl
 have qn:0<=qdq (jK V) (jK d):=by
  have:=aLv V;have:=En this (pJ D0);unfold qdq;split<;>omega
 have fin:∀u v:Int,0<=u->0<=v->v<18446744073709551616->u*18446744073709551616+v=qdq (jK V) (jK d)->
   (Option.bind (jA u v (!decide (V<0)==decide (d<0))) λ(d:Int×Bool)=>some (d.1,d.2))=if -9223372036854775808<=Hl V d/\Hl V d<=9223372036854775807 then some (Hl V d,true) else some (0,false):=by
  intro u v u0 v0 v1 e;rw[M3 u v _ u0 v0 v1,e,sgn];unfold Hl;generalize qdq (jK V) (jK d)=q at*
  by_cases s:(decide (V<0))=(decide (d<0))
  .rw[if_pos s,dW s];simp only[Kg,ya,gA];by_cases c:q<=9223372036854775807
   .rw[if_pos c,if_pos (by omega),bG];have uz:u=0:=by omega
    subst uz;have:v=q:=by omega
    rw[this]
   .rw[if_neg c,if_neg (by omega),bG]
  .rw[if_neg s,cV s];simp only[Bool.not_false,lI];by_cases c:q<=9223372036854775808
   .rw[if_pos c,if_pos (by omega),bG];have uz:u=0:=by omega
    subst uz;have:v=q:=by omega
    rw[this]
   .rw[if_neg c,if_neg (by omega),bG]
 by_cases c:jK V%jK d>=jK d-jK V%jK d
 .rw[dW c,bB];obtain⟨u,v,e3,u0,u1,v0,v1,e4⟩:=ahY (ah/jK d) ((ah%jK d*18446744073709551616+al)/jK d) 0 1 q0 n0 (by omega) (by omega) n1 (by omega) (by omega);rw[e3,bG];simp only;refine fin u v u0 v0 v1 ?_;rw[e4];unfold qdq;rw[if_neg (by omega),Q];omega
 .rw[cV c,bI];refine fin _ _ q0 n0 n1 ?_;unfold qdq;rw[if_pos (by omega),Q];omega
theorem aUa (a d:Int)(nz:d≠0):((decide (a<0))=(decide (d<0))->0<=Hl a d)/\(¬(decide (a<0))=(decide (d<0))->Hl a d<=0):=by
 have D0:0<jK d:=by unfold jK;split<;>omega
 have q:=En (aLv a) (pJ D0);have qn:0<=qdq (jK a) (jK d):=by unfold qdq;split<;>omega
 unfold Hl;constructor
 .intro h;rw[if_pos h];exact qn
 .intro h;rw[if_neg h];omega
theorem aS7 (h l d:Int)(eZ:Bool)(o:okW h l)(d0: -9223372036854775808<=d)(d1:d<=9223372036854775807)(nz:d≠0):
  su h l d eZ=some (sat (Hl (vW h l) d),eZ||eN (Hl (vW h l) d)):=by
 simp only[su,GW,Pg.bQ,Pg.bN,Pg.cx,Pg.fq,Pg.ew];try delta wI wU
 have z:(d==0)=false:=by rw[agr];exact nz
 have sn:decide (h<0)=decide (vW h l<0):=by
  obtain⟨o1,o2,o3,o4⟩:=o;simp only[vW];by_cases c:h<0
  .rw[dW c,dW (by omega)]
  .rw[cV c,cV (by omega)]
 rw[z,bI,aJD h l d o d0 d1 nz,sn];have s:=aUa (vW h l) d nz;generalize vW h l=V at*
 by_cases c: -9223372036854775808<=Hl V d/\Hl V d<=9223372036854775807
 .rw[if_pos c,bG];simp only[aeU,lI,bG]
 .rw[if_neg c,bG];simp only[aeU,ya,gA,bG];by_cases e:(decide (V<0))=(decide (d<0))
  .have p:=s.1 e;have e2:(!decide (V<0)==decide (d<0))=false:=by rw[e,beq_self_eq_true];rfl
   rw[e2];unfold sat eN;rw[if_neg (by decide),if_neg (by omega),if_pos (by omega),dW (show 1152921504606846976<Hl V d by omega),Bool.or_true,Bool.or_true]
  .have p:=s.2 e
   have e2:(!decide (V<0)==decide (d<0))=true:=by
    have:(decide (V<0)==decide (d<0))=false:=by rw[agr];exact e
    rw[this];rfl
   rw[e2];unfold sat eN;rw[if_pos rfl,if_pos (by omega),dW (show Hl V d< -1152921504606846976 by omega),Bool.true_or,Bool.or_true]
theorem aOg (a b d:Int)(eZ:Bool)(nz:sat d≠0):
  aY a b d eZ=some (sat (Hl (sat a*sat b) (sat d)),((((eZ||eN a)||eN b)||eN d)||eN (Hl (sat a*sat b) (sat d)))):=by
 simp only[aY,GX,Pg.bQ,Pg.bN,Pg.cx,Pg.fq,Pg.ew];try delta wI wU
 have:=mu a;have:=mu b;have:=mu d;obtain⟨h,l,e1,e2,e3⟩:=Bl (sat a) (sat b) (by omega) (by omega) (by omega) (by omega);simp only[oO,bG,e1,aS7 h l (sat d) _ e2 (by omega) (by omega) nz,e3]
theorem aOh (a b:Int)(s:Nat)(eZ:Bool)(hs:s<=66)(nz:sat b≠0):
  bl a b (ws s) eZ=some (sat (Hl (sat a*2^s) (sat b)),(((eZ||eN a)||eN b)||eN (Hl (sat a*2^s) (sat b)))):=by
 simp only[bl,IJ,Pg.bQ,Pg.bN,Pg.cx,Pg.fq,Pg.ew];try delta wI wU
 have ha:=mu a;have hb:=mu b;have P0:=mr s;have PB:(2:Int)^s<=2^66:=anp hs;have PV:(2:Int)^66=73786976294838206464:=by decide
 have m1:sat a*2^s<=1152921504606846976*73786976294838206464:=by
  rcases agv 0 (sat a) with c|c
  .exact LW ha.2 (by omega) (pJ P0) (by omega)
  .have:=aLu (a:= -sat a) (b:=2^s) (by omega) (pJ P0);rw[Int.neg_mul] at this;omega
 have m2: -(1152921504606846976*73786976294838206464)<=sat a*2^s:=by
  rcases agv 0 (sat a) with c|c
  .have:=aLu c (pJ P0);omega
  .have:=LW (show -sat a<=1152921504606846976 by omega) (show(2:Int)^s<=73786976294838206464 by omega) (pJ P0) (by omega);rw[Int.neg_mul] at this;omega
 have mv:(1152921504606846976:Int)*73786976294838206464=85070591730234615865843651857942052864:=by decide
 obtain⟨h,l,b',e1,o1,f1,v1,_⟩:=anq (sat a) s (by omega) (by omega) (by omega);have bt:b'=true:=f1.2 ⟨by omega,by omega⟩;subst bt;have n0:decide (ws s<0)=false:=by simp
 have n1:decide (ws s>66)=false:=by simp only[dz];exact cV (by omega)
 simp only[oO,bG,n0,n1,bI,e1,aS7 h l (sat b) _ o1 (by omega) (by omega) nz,v1 rfl]
theorem aS8 (V:Int)(h:0<=V):∃r,isR r V:=by
 obtain⟨q,q0,q1,q2⟩:=aJB V h;have q3:(q+1)*(q+1)=q*q+2*q+1:=by grind
 by_cases c:q<V-q*q
 .exact⟨q+1,by omega,by omega,Or.inr (by omega)⟩
 .refine⟨q,q0,by omega,?_⟩;rcases Ki 0 q with k|k
  .exact Or.inr (by omega)
  .exact Or.inl (by omega)
theorem ahZ (h l r:Int)(eZ:Bool)(o:okW h l)(h0:0<=h)(hr:isR r (vW h l)):yX h l eZ=some (sat r,eZ||eN r):=by
 obtain⟨r',e1,e2,e3⟩:=at1 h l o h0;have:=aT7 hr e1;subst this;simp only[yX,al6,Pg.bQ,Pg.bN,Pg.cx,Pg.fq,Pg.ew];try delta wI wU
 rw[e3];by_cases c:r<=9223372036854775807
 .rw[if_pos c,bG];simp only[Kg,bI,oO,bG]
 .rw[if_neg c,bG];simp only[Bool.not_false,bB,oO,bG]
  have a:sat r=sat 1152921504606846977:=by
   unfold sat;rw[if_neg (by omega),if_pos (by omega),if_neg (by omega),if_pos (by omega)]
  have b:eN r=eN 1152921504606846977:=by
   unfold eN;rw[dW (show 1152921504606846976<r by omega),dW (show(1152921504606846976:Int)<1152921504606846977 by omega),Bool.or_true,Bool.or_true]
  rw[a,b]
open Go.Ab Go.Ab.Pg
instance a4X (x:Int)(h:Bool):bz (aP x h):=⟨_,oO x h⟩
instance a3P (x a b:Int)(h:Bool):bz (aV x a b h):=aH (p:=qz x a b h) (by simp only[qz,aN,aw,OJ,and_self])
instance a4H (b:Bool):bz (oc b):=aH (p:=OZ b) (by simp only[OZ,aN,aw,OJ,and_self])
instance a4Y (x:Int):bz (yG x):=aH (p:=D7 x) (by simp only[D7,aN,aw,OJ,and_self])
instance a4I (x:Int):bz (lq x):=aH (p:=VA x) (by simp only[VA,aN,aw,bL,OJ,and_self])
instance a4Z (a:Int)(b c d:Bool):bz (kH a b c d):=aH (p:=D6 oc aP a b c d) (by simp only[D6,aN,aw,bH,OJ,and_self])
instance a41 (x y:Int)(h:Bool):bz (bT x y h):=aH (p:=IM aP x y h) (by simp only[IM,aN,aw,bH,OJ,and_self])
theorem aRq (a b:Int)(s:Nat)(hs:s<=120)(h:Bool):bz (aZ a b (ws s) h):=⟨_,aOd a b s h hs⟩
instance a3Q (a b:Int)(h:Bool):bz (aZ a b 30 h):=aRq a b 30 (by omega) h
instance a3R (a b:Int)(h:Bool):bz (aZ a b 44 h):=aRq a b 44 (by omega) h
instance a3S (a b:Int)(h:Bool):bz (aZ a b 10 h):=aRq a b 10 (by omega) h
instance t_m (a b:Int)(h:Bool):bz (Ld a b h):=aH (p:=apt aZ a b h) (by simp only[apt,aN,aw,bH,OJ,and_self])
theorem a17 (s:Nat)(hs:s<=120)(n:Nat)(hn:n<=100)(eZ:Bool)(f g:Nat->Int)(w w':Bool):bz (bD (ws s) n n eZ f g w w'):=⟨_,aOe s hs n hn eZ f g w w'⟩
theorem M5 (n:Nat)(hn:n<=100)(eZ:Bool)(f g:Nat->Int)(w w':Bool):bz (bD 30 n n eZ f g w w'):=a17 30 (by omega) n hn eZ f g w w'
instance a4J (eZ:Bool)(f g:Nat->Int)(w w':Bool):bz (bD 30 2 2 eZ f g w w'):=M5 2 (by omega) eZ f g w w'
instance a4K (eZ:Bool)(f g:Nat->Int)(w w':Bool):bz (bD 30 3 3 eZ f g w w'):=M5 3 (by omega) eZ f g w w'
instance a4L (eZ:Bool)(f g:Nat->Int)(w w':Bool):bz (bD 30 4 4 eZ f g w w'):=M5 4 (by omega) eZ f g w w'
instance a3T (eZ:Bool)(f g:Nat->Int)(w w':Bool):bz (bD 30 24 24 eZ f g w w'):=M5 24 (by omega) eZ f g w w'
instance a3U (eZ:Bool)(f g:Nat->Int)(w w':Bool):bz (bD 30 48 48 eZ f g w w'):=M5 48 (by omega) eZ f g w w'
theorem aLw (n:Nat)(hn:n<=1900)(eZ:Bool)(l:Nat->Int)(w:Bool):bz (cJ n eZ l w):=⟨_,aYr n hn eZ l w⟩
instance a4M (eZ:Bool)(l:Nat->Int)(w:Bool):bz (cJ 2 eZ l w):=aLw 2 (by omega) eZ l w
instance a4N (eZ:Bool)(l:Nat->Int)(w:Bool):bz (cJ 3 eZ l w):=aLw 3 (by omega) eZ l w
theorem aYv (x y:Int)(h:Bool):bz (su x y 0 h):=aH (p:=GW oc BP kH x y 0 h) (by
 unfold GW;simp only[aN,aw,bH,OJ,and_self,AF];intro h;simp at h)
instance a21 (a b d:Int)(h:Bool):bz (aY a b d h):=by
 by_cases nz:sat d=0
 .have h1:=mu a;have h2:=mu b;obtain⟨x,y,e,_,_⟩:=Bl (sat a) (sat b) (by omega) (by omega) (by omega) (by omega);have:=(aYv x y (((h||eN a)||eN b)||eN d)).ok;refine⟨?_⟩;simp only[aY,GX,bQ,bN,cx,oO,bG,e,nz];obtain⟨d,hd⟩:=this;rw[hd];exact⟨_,rfl⟩
 .exact⟨_,aOg a b d h nz⟩
theorem aYw (a b:Int)(s:Nat)(hs:s<=66)(h:Bool):bz (bl a b (ws s) h):=by
 by_cases nz:sat b=0
 .have h1:=mu a;obtain⟨x,y,q,e,_,_⟩:=anq (sat a) s (by omega) (by omega) (by omega);have:=(aYv x y ((h||eN a)||eN b)).ok;refine⟨?_⟩;have n0:decide (ws s<0)=false:=by simp
  have n1:decide (ws s>66)=false:=by simp only[dz];exact cV (by omega)
  simp only[bl,IJ,bQ,bN,cx,oO,bG,n0,n1,bI,e,nz];obtain⟨d,hd⟩:=this;rw[hd];exact⟨_,rfl⟩
 .exact⟨_,aOh a b s h hs nz⟩
instance a3V (a b:Int)(h:Bool):bz (bl a b 30 h):=aYw a b 30 (by omega) h
instance a3W (a b:Int)(h:Bool):bz (bl a b 44 h):=aYw a b 44 (by omega) h
def sq2 (f:Nat->Int)(n:Nat):Int:=vf (λj=>sat (f j)*sat (f j)) n
theorem aBk (f:Nat->Int):∀n,0<=sq2 f n
 |0=>fk 0
 |n+1=>by
  have:=aBk f n
  have h2:0<=sat (f n)*sat (f n):=by
   rcases agv 0 (sat (f n)) with h|h
   .exact Cb h h
   .exact Int.mul_nonneg_of_nonpos_of_nonpos h h
  unfold sq2 at*;rw[vf];omega
theorem aUb (n:Nat)(hn:n<=64)(eZ:Bool)(f:Nat->Int)(w:Bool):∃r,isR r (sq2 f n)/\cz n eZ f w=some (sat r,(eZ||zk (λj=>eN (f j)) n)||eN r):=by
 have nn:=aBk f n
 have key:∃x,cz n eZ f w=x/\∃h l,okW h l/\vW h l=sq2 f n/\x=(yX h l (eZ||zk (λj=>eN (f j)) n)):=by
  refine⟨_,rfl,?_⟩;have m:(if 64<ws n then(64:Int) else ws n)=ws n:=by rw[if_neg (by simp only[dz];omega)]
  have k:HE (ws n) n=true:=by simp[HE]
  have q:z4 (ws n)=n:=rfl;simp only[cz,QQ,bQ,bN,cx,fq,m,k,q,bB];unfold JD
  obtain⟨x,hx,i,h,l,ho,hv,rfl⟩:=aaF (s:=uF aP fK kT)
   (λt d=>∃(i:Nat) (h l':Int),i+t=n/\okW h l'/\vW h l'=sq2 f i/\d=(((n,w&&false),ws n,ws i),(eZ||zk (λj=>eN (f j)) i),(n,f),h,l'))
   (λx=>∃(i:Nat) (h l':Int),okW h l'/\vW h l'=sq2 f n/\x=(((n,w&&false),ws n,ws n,decide (ws n<ws n)),(eZ||zk (λj=>eN (f j)) n),(n,f),h,l')) (λt d=>by
    rintro ⟨i,h,l',hi,ho,hv,rfl⟩
    have bnd:=aeV (λj=>sat (f j)*sat (f j)) 1329227995784915872903807060280344576 (by omega) i (λj _=>RT _ _);have hv':vW h l'=vf (λj=>sat (f j)*sat (f j)) i:=hv;rcases WD t with t0|t0
    .have e:i=n:=by omega
     subst e;simp only[uF,bQ,bN,cx,fq,apz (cZ i),bI];exact⟨_,rfl,i,h,l',ho,hv,by rfl⟩
    .have hs1:=mu (f i);have hm:=RT (f i) (f i);obtain⟨h1,l1,e1,o1,v1⟩:=Bl (sat (f i)) (sat (f i)) (by omega) (by omega) (by omega) (by omega)
     obtain⟨h2,l2,e2,o2,v2⟩:=Yq (λj:Nat=>bif z9 j 1 then h1 else bif z9 j 0 then h else h) (λj:Nat=>bif z9 j 1 then l1 else bif z9 j 0 then l' else l') true
      ho o1 (by show _<=vW h l'+vW h1 l1;rw[hv',v1];omega) (by show vW h l'+vW h1 l1<_;rw[hv',v1];omega)
     have v2:vW h2 l2=vW h l'+vW h1 l1:=v2;rw[hv',v1] at v2;have q:z4 (ws i)=i:=rfl;simp only[uF,bQ,bN,cx,fq,wI,apy hi t0,apA (show i<n by omega),bB,q,oO,bG,e1,e2,apB (show i<9000000000000000000 by omega)];refine⟨_,rfl,t-1,by omega,i+1,h2,l2,by omega,o2,v2,?_⟩;simp only[zk,Bool.or_assoc])
   2000 n (((n,w&&false),ws n,0),eZ,(n,f),0,0) (by omega) ⟨0,0,0,by omega,⟨by omega,by omega,by omega,by omega⟩,rfl,by simp only[zk,OF];rfl⟩
  rw[hx];refine⟨h,l,ho,hv,?_⟩;simp only[bG];cases yX h l (eZ||zk (λj=>eN (f j)) n)<;>rfl
 obtain⟨x,hx,h,l,ho,hv,rfl⟩:=key
 have h0:0<=h:=by
  obtain⟨o1,o2,o3,o4⟩:=ho;rw[<-hv] at nn;simp only[vW] at nn;omega
 obtain⟨r,hr,_,_⟩:=at1 h l ho h0;refine⟨r,hv▸hr,?_⟩;rw[hx];exact ahZ h l r _ ho h0 hr
theorem aGo (n:Nat)(hn:n<=64)(eZ:Bool)(f:Nat->Int)(w:Bool):bz (cz n eZ f w):=by
 obtain⟨r,_,h⟩:=aUb n hn eZ f w;exact⟨_,h⟩
instance a23 (eZ:Bool)(f:Nat->Int)(w:Bool):bz (cz 3 eZ f w):=aGo 3 (by omega) eZ f w
instance a25 (eZ:Bool)(f:Nat->Int)(w:Bool):bz (cz 4 eZ f w):=aGo 4 (by omega) eZ f w
theorem awA:∀(d:mQ.B) (hd:0<=d.1.2.2.2.2/\d.1.2.2.2.2<=d.1.2.2.2.1/\d.1.2.2.2.1<=1999/\d.1.2.2.2.1=((d.1.2.2.1.1:Nat):Int)),Ok (O5 d) (λx:Bc=>True):=
 bO (λd:mQ.B=>z4 (d.1.2.2.2.1-d.1.2.2.2.2)) (λd hd=>by
  have hw:wI (d.1.2.2.2.2+1)=d.1.2.2.2.2+1:=aW;unfold O4;simp only[bP];simp only[nf,uZ,hw];repeat' (first|exact True.intro|omega|(intro _)|(apply And.intro))) (λd hd=>by omega)
theorem aze (x0:Int)(x1:Nat)(h1:1<=x1)(h2:x1<=1000)(x2:Bool)(x3:Nat->Int)(w0:Bool):bz (ns x0 x1 x2 x3 w0):=by
 unfold ns Xp;refine aH ?_;rw[bL,bL];refine⟨by simp only[bq];omega,by simp only[aeu];omega,?_⟩;refine aA (awA _ (hdN (x1-1) (by omega))) λd _ hd=> ?_;simp only[aw]
instance a18 (x0:Int)(x2:Bool)(x3:Nat->Int)(w0:Bool):bz (ns x0 6 x2 x3 w0):=aze _ _ (by omega) (by omega) _ _ _
instance a19 (x0:Int)(x2:Bool)(x3:Nat->Int)(w0:Bool):bz (ns x0 7 x2 x3 w0):=aze _ _ (by omega) (by omega) _ _ _
instance a1f (x0:Int)(x2:Bool)(x3:Nat->Int)(w0:Bool):bz (ns x0 12 x2 x3 w0):=aze _ _ (by omega) (by omega) _ _ _
instance a1g (x0:Int)(x1:Bool):bz (oH x0 x1):=by
 unfold oH amf;exact aH (by simp only[bP])
instance a1h (x0:Int)(x1:Bool):bz (tj x0 x1):=by
 unfold tj amg;exact aH (by simp only[bP])
instance aZl (x0:Int)(x1:Int)(x2:Bool):bz (zY x0 x1 x2):=by
 unfold zY acF;exact aH (by simp only[bP])
instance a2a (x0:Int)(x1:Int)(x2:Int)(x3:Int)(x4:Int)(x5:Int)(x6:Bool):bz (wP x0 x1 x2 x3 x4 x5 x6):=by
 unfold wP atI;exact aH (by simp only[bP])
instance aZR (x0:Int)(x1:Int)(x2:Int)(x3:Int)(x4:Bool):bz (vo x0 x1 x2 x3 x4):=by
 unfold vo ahn;exact aH (by simp only[bP])
instance a1i (x0:Int)(x1:Int)(x2:Int)(x3:Bool):bz (qA x0 x1 x2 x3):=by
 unfold qA ami;exact aH (by simp only[bP])
instance a2b (x0:Int)(x1:Int)(x2:Int)(x3:Bool):bz (Co x0 x1 x2 x3):=by
 unfold Co atJ;exact aH (by simp only[bP])
instance aYx (x0:Int)(x1:Int)(x2:Bool):bz (wO x0 x1 x2):=by
 unfold wO Xf;exact aH (by simp only[bP])
instance aLx (x0:Int)(x1:Int)(x2:Int)(x3:Int)(x4:Bool):bz (j6 x0 x1 x2 x3 x4):=by
 unfold j6 Cl;exact aH (by simp only[bP])
theorem aGp:∀(d:tk.B) (hd:0<=d.1/\d.1<=4),Ok (IQ d) (λx:IP=>True):=
 bO (λd:tk.B=>z4 (4-d.1)) (λd hd=>by
  have hw:wI (d.1+1)=d.1+1:=aW;unfold acJ;simp only[bP];simp only[nf,uZ,hw];repeat' (first|exact True.intro|omega|(intro _)|(apply And.intro))) (λd hd=>by omega)
instance a1j (x0:Int)(x1:Int)(x2:Int)(x3:Int)(x4:Bool):bz (tl x0 x1 x2 x3 x4):=by
 unfold tl amk;refine aH ?_;refine aA (aGp _ (by simp)) λd _ hd=> ?_;simp only[bP]
instance a1k:bz oI:=by
 unfold oI amp;exact aH (by simp only[bP])
instance aZS (x0:Int)(x1:Int)(x2:Int)(x3:Int):bz (Cp x0 x1 x2 x3):=by
 unfold Cp ahu;exact aH (by simp only[bP])
theorem azf:∀(d:oJ.B) (hd:0<=d.1.2/\d.1.2<=3),Ok (TC d) (λx:Dy=>True):=
 bO (λd:oJ.B=>z4 (3-d.1.2)) (λd hd=>by
  have hw:wI (d.1.2+1)=d.1.2+1:=aW;unfold TB;simp only[bP];simp only[nf,uZ,hw];repeat' (first|exact True.intro|omega|(intro _)|(apply And.intro))) (λd hd=>by omega)
instance aZm (x0:Nat->Int)(x1:Int):bz (dZ x0 x1):=by
 unfold dZ acL;refine aH ?_;refine aA (azf _ (by simp)) λd _ hd=> ?_;simp only[bP]
theorem azg:∀(d:oK.B) (hd:0<=d.1.2.2.2.2/\d.1.2.2.2.2<=d.1.2.2.2.1/\d.1.2.2.2.1<=1999/\d.1.2.2.2.1=((d.1.2.2.1.1:Nat):Int)),Ok (TE d) (λx:Dz=>True):=
 bO (λd:oK.B=>z4 (d.1.2.2.2.1-d.1.2.2.2.2)) (λd hd=>by
  have hw:wI (d.1.2.2.2.2+1)=d.1.2.2.2.2+1:=aW;unfold TD;simp only[bP];simp only[nf,uZ,hw];repeat' (first|exact True.intro|omega|(intro _)|(apply And.intro))) (λd hd=>by omega)
theorem arM (x0:Nat->Int)(x1:Int)(x2:Nat)(x3:Nat->Int)(w0:Bool)(h:x2<=1999):bz (dJ x0 x1 x2 x3 w0):=by
 unfold dJ acO;refine aH ?_;rw[aQ,bL];refine⟨rfl,?_⟩;refine aA (azg _ (hdN x2 h)) λd _ hd=> ?_;simp only[bP]
instance a3X (x0:Nat->Int)(x1:Int)(x3:Nat->Int)(w0:Bool):bz (dJ x0 x1 3 x3 w0):=arM _ _ _ _ _ (by omega)
instance a3Y (x0:Nat->Int)(x1:Int)(x3:Nat->Int)(w0:Bool):bz (dJ x0 x1 4 x3 w0):=arM _ _ _ _ _ (by omega)
instance a1l (x0:Int)(x1:Int)(x2:Int)(x3:Int)(x4:Int)(x5:Int)(x6:Int)(x7:Int)(x8:Bool):bz (RN x0 x1 x2 x3 x4 x5 x6 x7 x8):=by
 unfold RN amr;exact aH (by simp only[bP])
instance a1m (x0:Int)(x1:Int)(x2:Int)(x3:Int)(x4:Bool):bz (RO x0 x1 x2 x3 x4):=by
 unfold RO amt;exact aH (by simp only[bP])
theorem anr:∀(d:jL.B) (hd:0<=d.1.2.2/\d.1.2.2<=d.1.1/\d.1.1<=1999/\d.1.1<=24),Ok (H5 d) (λx:vd=>True):=
 bO (λd:jL.B=>z4 (d.1.1-d.1.2.2)) (λd hd=>by
  have hw:wI (d.1.2.2+1)=d.1.2.2+1:=aW;unfold H4;simp only[bP];simp only[nf,uZ,hw];repeat' (first|exact True.intro|omega|(intro _)|(apply And.intro))) (λd hd=>by omega)
theorem pU (x0:Int)(x1:Int)(x2:Int)(x3:Nat->Int)(h0:0<=x0)(h1:x0<=x1)(h2:x1<=24):bz (za x0 x1 x2 x3):=by
 unfold za Mw;refine aH ?_;refine aA (anr _ (by dsimp only;omega)) λd _ hd=> ?_;simp only[aw]
instance aVb (x0:Int)(x1:Bool):bz (hO x0 x1):=by
 unfold hO yI;exact aH (by simp only[bP])
theorem apU:∀(d:eP.B) (hd:0<=d.1/\d.1<=24),Ok (rz d) (λx:lP=>True):=
 bO (λd:eP.B=>z4 (24-d.1)) (λd hd=>by
  have hw:wI (d.1+1)=d.1+1:=aW;unfold ry;simp only[bP];simp only[nf,uZ,hw];repeat' (first|exact True.intro|omega|(intro _)|(apply And.intro))) (λd hd=>by omega)
theorem apV:∀(d:eQ.B) (hd:0<=d.1/\d.1<=276),Ok (rB d) (λx:lQ=>True):=
 bO (λd:eQ.B=>z4 (276-d.1)) (λd hd=>by
  have hw:wI (d.1+1)=d.1+1:=aW;unfold rA;simp only[bP];simp only[nf,uZ,hw];repeat' (first|exact True.intro|omega|(intro _)|(apply And.intro))) (λd hd=>by omega)
instance aUc (x0:Nat->Int)(x1:Nat->Int)(x2:Bool):bz (dO x0 x1 x2):=by
 unfold dO wq;refine aH ?_;refine aA (apU _ (by simp)) λd _ hd=> ?_;refine aA (apV _ (by simp)) λd _ hd=> ?_;simp only[bP]
theorem aH0:∀(d:sF.B) (hd:0<=d.1.2/\d.1.2<=24),Ok (VE d) (λx:G5=>True):=
 bO (λd:sF.B=>z4 (24-d.1.2)) (λd hd=>by
  have hw:wI (d.1.2+1)=d.1.2+1:=aW;unfold VD;simp only[bP];simp only[nf,uZ,hw];repeat' (first|exact True.intro|omega|(intro _)|(apply And.intro))) (λd hd=>by omega)
instance a2c (x0:Nat)(x1:Bool)(x2:Nat->Int)(w0:Bool):bz (Kr x0 x1 x2 w0):=by
 unfold Kr ahx;refine aH ?_;rw[aQ,bL];refine⟨rfl,?_⟩;refine aA (aH0 _ (by simp)) λd _ hd=> ?_;simp only[bP]
theorem aRr:∀j:Nat,j<24->0<=wI (t8 (wI ((j:Int)*wI ((j:Int)-1))) 2)/\wI (t8 (wI ((j:Int)*wI ((j:Int)-1))) 2)+(j:Int)<=276+(if j=0 then 1 else 0):=by decide
theorem aOi {i j:Int}{d:VF}(h:j7 i j=some d)(ok:d.2=true):0<=d.1/\d.1<276:=by
 simp only[j7,G6,bQ,bN] at h;by_cases h0:0<=i
 .by_cases h1:i<j
  .simp only[EM,h0,h1,Jo,bB,iI] at h;subst h;have h2:j<24:=dm ok;obtain⟨n,rfl⟩:=Int.eq_ofNat_of_zero_le (by omega:0<=j);obtain⟨k1,k2⟩:=aRr n (by omega);rw[if_neg (by omega)] at k2;generalize wI (t8 (wI ((n:Int)*wI ((n:Int)-1))) 2)=c at*
   show 0<=wI (c+i)/\wI (c+i)<276;rw[dV (by omega) (by omega)];omega
  .simp only[EM,h0,h1,Jo,Kh,bB,bI,iI] at h;subst h;cases ok
 .simp only[EM,h0,Kh,bI,iI] at h;subst h;cases ok
instance aZT (x0:Int)(x1:Int):bz (j7 x0 x1):=by
 unfold j7 G6;exact aH (by simp only[bP])
instance a3Z (x0:Nat->Int)(x1:Nat->Int)(x2:Int)(x3:Int):bz (FJ x0 x1 x2 x3):=by
 have key:∀d,j7 x2 x3=some d->((!d.2)=false->bf d.1 276=true/\wr (0+z4 d.1*1+1) 276=true):=λd h k=>by
  have:=aOi h (by simpa using k);simp only[bq,bZ];omega
 unfold FJ av0;refine aH ?_;simp only[bP,nf];repeat' (first|(apply And.intro)|(intro _ h k;exact⟨λ_=>(key _ h k).2,(key _ h k).1⟩)|(intro _ h k;exact key _ h k)|(intro _))
instance a2d (x0:Nat->Int)(x1:Nat->Int)(x2:Int)(x3:Int)(x4:Int):bz (uG x0 x1 x2 x3 x4):=by
 unfold uG XG;refine aH ?_;simp only[bP,nf];intro d h k;have:=aOi h k;simp only[bq,bZ,cB];omega
theorem at2:∀(d:iM.B) (hd:0<=d.1/\d.1<=24),Ok (EV d) (λx:uc=>True):=
 bO (λd:iM.B=>z4 (24-d.1)) (λd hd=>by
  have hw:wI (d.1+1)=d.1+1:=aW;unfold EU;simp only[bP];simp only[nf,uZ,hw];repeat' (first|exact True.intro|omega|(intro _)|(apply And.intro))) (λd hd=>by omega)
instance aVc:bz (nP):=by
 unfold nP JG;refine aH ?_;refine aA (at2 _ (by simp)) λd _ hd=> ?_;simp only[bP]
theorem aCZ:∀(d:qC.B) (hd:0<=d.1/\d.1<=3),Ok (XI d) (λx:FK=>True):=
 bO (λd:qC.B=>z4 (3-d.1)) (λd hd=>by
  have hw:wI (d.1+1)=d.1+1:=aW;unfold XH;try dsimp only
  by_cases hc:d.1<3
  case neg=>simp only[hc,Kh,aN,aw,ld,OJ,Cd,ya,Eo]
  have h1:wI (3*d.1)=3*d.1:=dV;have h2:wI (3*d.1+3)=3*d.1+3:=dV;have h3:z4 (3*d.1+3)-z4 (3*d.1)=3:=by omega
  simp only[h1,h2,h3];simp only[bP];simp only[nf,uZ,hw];repeat' (first|exact True.intro|omega|(intro _)|(apply And.intro))) (λd hd=>by omega)
instance aZU (x0:Nat->Int)(x1:Int)(x2:Int)(x3:Int)(x4:Bool):bz (pQ x0 x1 x2 x3 x4):=by
 unfold pQ ahB;refine aH ?_;refine aA (aCZ _ (by simp)) λd _ hd=> ?_;simp only[bP]
theorem aGq:∀(d:tn.B) (hd:0<=d.1/\d.1<=3),Ok (ac1 d) (λx:IT=>True):=
 bO (λd:tn.B=>z4 (3-d.1)) (λd hd=>by
  have hw:wI (d.1+1)=d.1+1:=aW;unfold ac0;try dsimp only
  by_cases hc:d.1<3
  case neg=>simp only[hc,Kh,aN,aw,ld,OJ,Cd,ya,Eo]
  have h1:wI (6+d.1)=6+d.1:=dV;have h2:wI (3+d.1)=3+d.1:=dV;simp only[h1,h2];simp only[bP];simp only[nf,uZ,hw];repeat' (first|exact True.intro|omega|(intro _)|(apply And.intro))) (λd hd=>by omega)
instance a1n (x0:Nat->Int)(x1:Int)(x2:Int)(x3:Int)(x4:Bool):bz (zb x0 x1 x2 x3 x4):=by
 unfold zb amz;refine aH ?_;refine aA (aGq _ (by simp)) λd _ hd=> ?_;simp only[bP]
instance aZV (x0:Int)(x1:Int)(x2:Bool)(x3:Bool):bz (Cq x0 x1 x2 x3):=by
 unfold Cq VI;exact aH (by simp only[bP])
instance aZW (x0:Int)(x1:Bool)(x2:Bool)(x3:Bool)(x4:Bool)(x5:Bool)(x6:Bool)(x7:Bool)(x8:Bool)(x9:Int)(fX:Int)(fY:Int):bz (Cr x0 x1 x2 x3 x4 x5 x6 x7 x8 x9 fX fY):=by
 unfold Cr VJ;exact aH (by simp only[bP])
instance aYy (x0:Int):bz (Bg x0):=by
 unfold Bg FM;exact aH (by simp only[bP])
theorem aGr {x d:Int}(h:Bg x=some d):0<=d/\d<6:=by
 have k:PQ (FM x) (λd=>0<=d/\d<6):=by
  simp only[FM,aN,aw];refine⟨λ_=>by decide,λ_=>⟨λ_=>by decide,λ_=>by decide⟩⟩
 exact Ok.post k h
theorem awB:∀(d:lr.B) (hd:0<=d.1.2/\d.1.2<=4),Ok (G9 d) (λx:wu=>True):=
 bO (λd:lr.B=>z4 (4-d.1.2)) (λd hd=>by
  have hw:wI (d.1.2+1)=d.1.2+1:=aW;unfold G8;simp only[bP];simp only[nf,uZ,hw];repeat' (first|exact True.intro|omega|(intro _ h;have:=aGr h;revert this;clear h;intro this)|(intro _)|(apply And.intro))) (λd hd=>by omega)
instance aYz (x0:Int)(x1:Bool)(x2:Bool)(x3:Bool)(x4:Bool)(x5:Bool)(x6:Bool)(x7:Bool)(x8:Bool)(x9:Int)(fX:Int)(fY:Int):bz (wQ x0 x1 x2 x3 x4 x5 x6 x7 x8 x9 fX fY):=by
 unfold wQ MC;refine aH ?_;refine aA (awB _ (by simp)) λd _ hd=> ?_;simp only[bP]
instance aZX (x:G'.B):bz (Cs x):=by
 unfold Cs VK;try dsimp only
 exact aH (by simp only[bP])
theorem aH1 (a:Nat)(i:Int):∀(d:vV.B) (hd:0<=d.1.2.2.2.2.2.2/\d.1.2.2.2.2.2.2<=d.1.2.2.2.2.2.1/\d.1.2.2.2.2.2.1<=1999/\d.1.1.1=a/\d.1.2.1=i/\d.1.2.2.2.1=i/\d.1.2.2.2.2.1.1=a/\d.1.2.2.2.2.2.1=(a:Int)/\(d.1.2.2.1:Int)<=d.1.2.2.2.2.2.2/\0<=i/\i<3),Ok (ahI d) (λx:MF=>x.1.1.1=a/\x.1.2.1=i/\x.1.2.2.2.1=i/\x.1.2.2.1<=a):=
 bO (λd:vV.B=>z4 (d.1.2.2.2.2.2.1-d.1.2.2.2.2.2.2)) (λd hd=>by
  have hw:wI (d.1.2.2.2.2.2.2+1)=d.1.2.2.2.2.2.2+1:=aW;unfold ahH;simp only[bP];simp only[nf,uZ,hw];repeat' (first|exact True.intro|omega|(intro _)|(apply And.intro))) (λd hd=>by omega)
theorem aH2:∀(d:vX.B) (hd:0<=d.1.2/\d.1.2<=3/\d.1.1.1<=1900),Ok (ahK d) (λx:MH=>True):=
 bO (λd:vX.B=>z4 (3-d.1.2)) (λd hd=>by
  unfold ahJ;try dsimp only
  rw[aN];refine⟨λh=> ?_,λ_=>by simp only[aw,ld]⟩;have h:=dm h;rw[bL,bL,aQ];refine⟨rfl,rfl,aA (aH1 d.1.1.1 d.1.2 _ ?_) λx _ hx=> ?_⟩
  .dsimp only;simp only[dz,AF,Cd];omega
  obtain⟨a1,a2,a3,a4⟩:=hx;rw[aQ,bL];have hw:wI (d.1.2+1)=d.1.2+1:=aW;have:=aLw x.1.2.2.1 (by omega);simp only[bP];simp only[nf,pB,uZ,hw,a1,a2,a3];repeat' (first|exact True.intro|omega|(intro _)|(apply And.intro))) (λd hd=>by omega)
theorem ah0 (x0:Nat)(x1:Bool)(x2:Nat->Int)(x3:Nat->Int)(x4:Nat->Int)(w0:Bool)(h:x0<=1900):bz (lg x0 x1 x2 x3 x4 w0):=by
 unfold lg atQ;refine aH ?_;rw[aQ,bL];refine⟨rfl,?_⟩;refine aA (aH2 _ (by dsimp only;omega)) λd _ hd=> ?_;simp only[bP]
instance a30 (x1:Bool)(x2 x3 x4:Nat->Int)(w0:Bool):bz (lg 2 x1 x2 x3 x4 w0):=ah0 _ _ _ _ _ _ (by omega)
instance a31 (x1:Bool)(x2 x3 x4:Nat->Int)(w0:Bool):bz (lg 3 x1 x2 x3 x4 w0):=ah0 _ _ _ _ _ _ (by omega)
theorem aC0 (i:Int):∀(d:qD.B) (hd:0<=d.1.2.2/\d.1.2.2<=4/\d.1.2.1=i),Ok (fM d) (λx:FO=>x.1.2.1=i):=
 bO (λd:qD.B=>z4 (4-d.1.2.2)) (λd hd=>by
  have hw:wI (d.1.2.2+1)=d.1.2.2+1:=aW;unfold XP;simp only[bP];simp only[nf,pB,uZ,hw];repeat' (first|exact True.intro|omega|(intro _)|(apply And.intro))) (λd hd=>by omega)
theorem aC1:∀(d:qE.B) (hd:0<=d.1/\d.1<=2),Ok (FQ d) (λx:FP=>True):=
 bO (λd:qE.B=>z4 (2-d.1)) (λd hd=>by
  unfold ky;try dsimp only
  rw[aN];refine⟨λh=> ?_,λ_=>by simp only[aw,ld]⟩;have h:=dm h;rw[bH];intro d1 _;refine aA (aC0 d.1 _ (by simp)) λx _ hx=> ?_;have hw:wI (d.1+1)=d.1+1:=aW;simp only[aw,nZ,hx,hw];omega) (λd hd=>by omega)
instance aZY (x0:Int)(x1:Int)(x2:Int)(x3:Int)(x4:Bool):bz (di x0 x1 x2 x3 x4):=by
 unfold di VM;refine aH ?_;rw[bH];intro d _;rw[aN];refine⟨λ_=>by simp only[bP],λ_=>aA (aC1 _ (by simp)) λd _ hd=> ?_⟩;simp only[aw]
theorem apW (a b:Int):∀(d:fN.B) (hd:0<=d.1.2.2.2/\d.1.2.2.2<=d.1.2.2.1/\d.1.2.2.1<=1999/\d.1.2.2.1<=24/\d.1.1=a/\d.1.2.1=b),Ok (Cw d) (λx:od=>x.1.1=a/\x.1.2.1=b):=
 bO (λd:fN.B=>z4 (d.1.2.2.1-d.1.2.2.2)) (λd hd=>by
  have hw:wI (d.1.2.2.2+1)=d.1.2.2.2+1:=aW;unfold Cv;simp only[bP];simp only[nf,pB,uZ,hw];repeat' (first|exact True.intro|omega|(intro _)|(apply And.intro))) (λd hd=>by omega)
theorem apX (a b:Int):∀(d:fO.B) (hd:0<=d.1.2.2/\d.1.2.2<=24/\d.1.1=a/\d.1.2.1=b/\0<=a/\a<24),Ok (Cz d) (λx:oi=>x.1.2.1=b):=
 bO (λd:fO.B=>z4 (24-d.1.2.2)) (λd hd=>by
  have hw:wI (d.1.2.2+1)=d.1.2.2+1:=aW;unfold Cy;simp only[bP];simp only[nf,pB,uZ,hw];repeat' (first|exact True.intro|omega|(intro _)|(apply And.intro))) (λd hd=>by omega)
theorem apY:∀(d:gS.B) (hd:0<=d.1/\d.1<=24),Ok (CB d) (λx:rC=>True):=
 bO (λd:gS.B=>z4 (24-d.1)) (λd hd=>by
  have hw:wI (d.1+1)=d.1+1:=aW;unfold CA;have h1:wI (24+d.1)=24+d.1:=dV;simp only[h1];simp only[bP];simp only[nf,pB,uZ,hw];repeat' (first|exact True.intro|omega|(intro _)|(apply And.intro))) (λd hd=>by omega)
theorem apZ:∀(d:fP.B) (hd:0<=d.1/\d.1<=24),Ok (CD d) (λx:om=>True):=
 bO (λd:fP.B=>z4 (24-d.1)) (λd hd=>by
  unfold CC;rw[aN];refine⟨λh=> ?_,λ_=>by simp only[aw,ld]⟩;have h:=dm h;have hw:wI (d.1+1)=d.1+1:=aW;refine aA (apW d.1 d.1 _ (by dsimp only;rw[hw];omega)) λx _ hx=> ?_;refine aA (apX d.1 d.1 _ (by dsimp only;omega)) λx _ hx=> ?_;simp only[aw,nZ,hx,hw];omega) (λd hd=>by omega)
instance aUd (x0:Nat->Int)(x1:Nat->Int)(x2:Bool)(x3:Nat->Int):bz (rD x0 x1 x2 x3):=by
 unfold rD Ha;refine aH ?_;refine aA (apZ _ (by simp)) λd _ hd=> ?_;refine aA (apY _ (by simp)) λd _ hd=> ?_;simp only[bP]
instance aZZ (x0:Nat->Int):bz (cg x0):=by
 unfold cg ahN;exact aH (by simp only[bP])
instance aVd (x0:Nat->Int)(x1:Int)(x2:Int)(x3:Int)(x4:Int):bz (mg x0 x1 x2 x3 x4):=by
 unfold mg JK;exact aH (by simp only[bP])
instance aZn (x0:Int)(x1:Int)(x2:Int)(x3:Int)(x4:Int)(x5:Int)(x6:Int)(x7:Int)(x8:Bool):bz (IU x0 x1 x2 x3 x4 x5 x6 x7 x8):=by
 unfold IU ac6;exact aH (by simp only[bP])
instance aYA (x0:Int)(x1:Bool):bz (FR x0 x1):=by
 unfold FR XZ;exact aH (by simp only[bP])
instance a1o (x0:Int)(x1:Int)(x2:Int)(x3:Int)(x4:Int)(x5:Int)(x6:Int)(x7:Int)(x8:Bool):bz (lR x0 x1 x2 x3 x4 x5 x6 x7 x8):=by
 unfold lR amU;try dsimp only
 exact aH (by simp only[bP])
theorem aLy:∀(d:ze.B) (hd:0<=d.1/\d.1<=4),Ok (amW d) (λx:RP=>True):=
 bO (λd:ze.B=>z4 (4-d.1)) (λd hd=>by
  have hw:wI (d.1+1)=d.1+1:=aW;unfold amV;simp only[bP];simp only[nf,pB,uZ,hw];repeat' (first|exact True.intro|omega|(intro _)|(apply And.intro))) (λd hd=>by omega)
instance a26 (x0:Int)(x1:Int)(x2:Int)(x3:Int)(x4:Bool):bz (kK x0 x1 x2 x3 x4):=by
 unfold kK ay3;try dsimp only
 refine aH ?_;refine aA (aLy _ (by simp)) λd _ hd=> ?_;simp only[bP]
instance a27:bz kC:=by
 have b1:=λx=>pU 0 4 1073741840 x (by omega) (by omega) (by omega)
 have b2:=λx=>pU 4 7 549755813888 x (by omega) (by omega) (by omega)
 have b3:=λx=>pU 7 10 9007199254740992 x (by omega) (by omega) (by omega)
 have b4:=λx=>pU 10 13 134217728 x (by omega) (by omega) (by omega)
 have b5:=λx=>pU 13 16 1073741824 x (by omega) (by omega) (by omega)
 have b6:=λx=>pU 16 22 2147483648 x (by omega) (by omega) (by omega)
 have b7:=λx=>pU 22 24 137438953472 x (by omega) (by omega) (by omega)
 unfold kC TT;exact aH (by simp only[bP])
theorem awC:∀(d:lu.B) (hd:0<=d.1/\d.1<=24),Ok (He d) (λx:wz=>True):=
 bO (λd:lu.B=>z4 (24-d.1)) (λd hd=>by
  have hw:wI (d.1+1)=d.1+1:=aW;unfold Hc;simp only[bP];simp only[nf,pB,uZ,hw];repeat' (first|exact True.intro|omega|(intro _)|(apply And.intro))) (λd hd=>by omega)
instance aYB (x0:Nat->Int)(x1:Bool):bz (nx x0 x1):=by
 unfold nx MN;refine aH ?_;rw[bH];intro d _;refine aA (awC _ (by simp)) λd _ hd=> ?_;simp only[aw]
theorem aZ0 {x:Int}{y:aeE}(h:yG x=some y)(k:(y:Int)<=1073741840): -1073741840<=x/\x<=1073741840:=by
 have e:PQ (D7 x) (λy:aeE=>(y:Int)<=1073741840-> -1073741840<=x/\x<=1073741840):=by
  by_cases c:x<0/\ -1152921504606846976<x
  .have w:wI (0-x)=0-x:=dV;simp only[D7,aN,aw,EM,jW,OD,w];exact⟨λ_=>(show(1152921504606846976:Int)<=1073741840-> -1073741840<=x/\x<=1073741840 by omega),λ_=>⟨λ_=>(show(1152921504606846976:Int)<=1073741840-> -1073741840<=x/\x<=1073741840 by omega),λ_=>⟨λ_=>(show(0-x:Int)<=1073741840-> -1073741840<=x/\x<=1073741840 by omega),λ_=>(show x<=1073741840-> -1073741840<=x/\x<=1073741840 by omega)⟩⟩⟩
  .simp only[D7,aN,aw,EM,jW,OD];exact⟨λ_=>(show(1152921504606846976:Int)<=1073741840-> -1073741840<=x/\x<=1073741840 by omega),λ_=>⟨λ_=>(show(1152921504606846976:Int)<=1073741840-> -1073741840<=x/\x<=1073741840 by omega),λ_=>⟨λ_=>by omega,λ_=>(show x<=1073741840-> -1073741840<=x/\x<=1073741840 by omega)⟩⟩⟩
 exact Ok.post e h k
theorem ap0 (a b:Int):∀(d:fQ.B) (hd:0<=d.1.2.2/\d.1.2.2<=24/\d.1.1=a/\d.1.2.1=b/\0<=a/\a<24),Ok (CF d) (λx:oq=>x.1.2.1=b):=
 bO (λd:fQ.B=>z4 (24-d.1.2.2)) (λd hd=>by
  have hw:wI (d.1.2.2+1)=d.1.2.2+1:=aW;unfold CE;simp only[bP];simp only[nf,pB,uZ,hw];repeat' (first|exact True.intro|omega|(intro _)|(apply And.intro))) (λd hd=>by omega)
theorem ap1 (a:Int):∀(d:eR.B) (hd:0<=d.1.2/\d.1.2<=48/\d.1.1=a/\0<=a/\a<24),Ok (wV d) (λx:lS=>x.1.1=a):=
 bO (λd:eR.B=>z4 (48-d.1.2)) (λd hd=>by
  have hw:wI (d.1.2+1)=d.1.2+1:=aW;unfold wT;simp only[bP];simp only[nf,pB,uZ,hw];repeat' (first|exact True.intro|omega|(intro _)|(apply And.intro))) (λd hd=>by omega)
theorem ap2 (a b e g h:Int):∀(d:eS.B) (hd:0<=d.1.2.2.2.2.2.2/\d.1.2.2.2.2.2.2<=48/\d.1.1=a/\d.1.2.2.1=b/\0<=a/\a<24/\0<=b/\b<24/\d.1.2.2.2.2.1=g/\d.1.2.2.2.2.2.1=h),Ok (wX d) (λx:lT=>x.1.1=a/\x.1.2.2.2.2.1=g/\x.1.2.2.2.2.2.1=h):=
 bO (λd:eS.B=>z4 (48-d.1.2.2.2.2.2.2)) (λd hd=>by
  have hw:wI (d.1.2.2.2.2.2.2+1)=d.1.2.2.2.2.2.2+1:=aW;unfold wW;simp only[bP];simp only[nf,pB,uZ,hw];repeat' (first|exact True.intro|omega|(intro _)|(apply And.intro))) (λd hd=>by omega)
theorem ap3:∀(d:fR.B) (hd:0<=d.1/\d.1<=24),Ok (CI d) (λx:ot=>True):=
 bO (λd:fR.B=>z4 (24-d.1)) (λd hd=>by
  unfold CG;rw[aN];refine⟨λh=> ?_,λ_=>by simp only[aw,ld]⟩;have h:=dm h;have hw:wI (d.1+1)=d.1+1:=aW;have h1:wI (24+d.1)=24+d.1:=dV;rw[h1];iterate 2 (rw[bL];refine⟨by simp only[bq];omega,?_⟩)
  rw[bH];intro d1 _;iterate 4 (rw[bL];refine⟨by simp only[bq,bZ,nY];omega,?_⟩)
  refine aA (ap0 d.1 d.1 _ (by dsimp only;omega)) λx _ hx=> ?_;simp only[aw,nZ,hx,hw];omega) (λd hd=>by omega)
theorem ap4 (a:Int):∀(d:eT.B) (hd:0<=d.1.2.2.2/\d.1.2.2.2<=d.1.2.2.1/\d.1.1=a/\d.1.2.2.1<=24/\0<=a/\a<24),Ok (wZ d) (λx:ov=>x.1.1=a):=
 bO (λd:eT.B=>z4 (d.1.2.2.1-d.1.2.2.2)) (λd hd=>by
  unfold wY;try dsimp only
  rw[aN];refine⟨λh=> ?_,λ_=>by simp only[aw,ld];exact hd.2.2.1⟩;have h:=dm h;have hw:wI (d.1.2.2.2+1)=d.1.2.2.2+1:=aW;rw[bL];refine⟨by simp only[bq];omega,?_⟩;rw[bH];intro d1 _;rw[bH];intro d2 _;rw[bH];intro d3 _;refine aA (ap2 d.1.1 d.1.2.2.2 d.1.1 d.1.2.2.1 d.1.2.2.2 _ (by dsimp only;omega)) λx _ hx=> ?_;obtain⟨a1,a2,a3⟩:=hx;simp only[aw,nZ,a1,a2,a3,hw];omega) (λd hd=>by omega)
theorem ap5:∀(d:fS.B) (hd: -1<=d.1/\d.1<=23),Ok (w8 d) (λx:oy=>True):=
 bO (λd:fS.B=>z4 (d.1+1)) (λd hd=>by
  unfold w7;try dsimp only
  rw[aN];refine⟨λh=> ?_,λ_=>by simp only[aw,ld]⟩;have h:=dm h;have hw:wI (d.1-1)=d.1-1:=dV;refine aA (ap1 d.1 _ (by dsimp only;omega)) λx _ hx=> ?_;rw[bL];refine⟨by simp only[bq,hx];omega,?_⟩;rw[bH];intro d1 _;rw[bH];intro d2 _;rw[bL];refine⟨by simp only[bq,hx];omega,?_⟩;rw[bL];refine⟨by simp only[bZ,nY,hx];omega,?_⟩;refine aA (ap4 d.1 _ (by dsimp only;omega)) λx _ hx=> ?_;simp only[aw,nZ,hx,hw];omega) (λd hd=>by omega)
instance aUe (x0:Nat->Int)(x1:Nat->Int)(x2:Nat->Int)(x3:Nat->Int)(x4:Bool):bz (hX x0 x1 x2 x3 x4):=by
 unfold hX Bi;refine aH ?_;rw[bH];intro d _;refine aA (ap3 _ (by simp)) λd _ hd=> ?_;rw[bH];intro d1 _;refine aA (ap5 _ (by simp)) λd _ hd=> ?_;simp only[aw]
instance a1p (x0:Int):bz (zf x0):=by
 unfold zf RQ;exact aH (by simp only[bP])
theorem aLz (x:Int):zf x=some (decide (0<=x)&&decide (x<24)):=by
 simp only[zf,RQ,bN,bQ];by_cases h0:0<=x<;>simp[h0]
instance aS9 (x0:Int)(x1:Bool):bz (pS x0 x1):=by
 unfold pS EW;exact aH (by simp only[bP])
theorem awD:∀(d:im.B) (hd:0<=d.1.2.2.2/\d.1.2.2.2<=d.1.2.2.1/\d.1.2.2.1<=1999/\d.1.2.2.1=((d.1.2.1.1:Nat):Int)),Ok (Hi d) (λx:rG=>True):=
 bO (λd:im.B=>z4 (d.1.2.2.1-d.1.2.2.2)) (λd hd=>by
  have hw:wI (d.1.2.2.2+1)=d.1.2.2.2+1:=aW;unfold Hh;simp only[bP,aLz,bV];simp only[nf,pB,uZ,hw];repeat' (first|exact True.intro|omega|(intro _)|(apply And.intro))) (λd hd=>by omega)
theorem M6 (x0:Nat->Int)(x1:Nat->Int)(x2:Int)(x3:Nat)(x4:Bool)(x5:Nat->Int)(w0:Bool)(h:x3<=1999):bz (cS x0 x1 x2 x3 x4 x5 w0):=by
 unfold cS FW;refine aH ?_;rw[bH];intro d1 _;rw[aQ,bL];refine⟨rfl,?_⟩;refine aA (awD _ (hdN x3 h)) λd _ hd=> ?_;rw[bH];intro d2 _;simp only[aw]
def w9 (x0 x1 x2 x3:Int)(j:Nat):Int:=if j=0 then x0 else if j=1 then x1 else if j=2 then x2 else x3
def sqW (f g:Nat->Int)(j:Nat)(x:Int):Prop:=(-1073741840<=x/\x<=1073741840)/\okW (f j) (g j)/\vW (f j) (g j)=x*x
theorem aeW {x:Int}(h: -1073741840<=x/\x<=1073741840):0<=x*x/\x*x<=1152921538966585600:=by
 have key:∀u:Int,0<=u->u<=1073741840->0<=u*u/\u*u<=1152921538966585600:=λu u0 u1=>by
  refine⟨Cb u0 u0,?_⟩;have:=LW u1 u1 u0 (by omega);omega
 rcases agv 0 x with hx|hx
 .exact key x hx h.2
 .have:=key (-x) (by omega) (by omega);rwa [Int.neg_mul_neg] at this
theorem ah1 {x:Int}{f g:Nat->Int}{n:Nat}{A:Type}{δ:Type}{Q:δ->Prop}{no1:Pg δ}{k:alR->Pg δ}
  (h1:(x< -1073741840∨1073741840<x)->PQ no1 Q)(h2:(-1073741840<=x/\x<=1073741840)->∀h l,fK x x=some (h,l)->okW h l->vW h l=x*x->PQ (k (h,l)) Q):
  PQ (opt (yG x) λak=>ae (decide (ak>1073741840)) no1 (opt (fK x x) k)) Q:=by
 rw[bH];intro d hd;rw[aN];refine⟨λh=> ?_,λh=> ?_⟩
 .refine h1 ?_;have h:=dm h
  have:¬(-1073741840<=x/\x<=1073741840):=λc=>by
   have e:PQ (D7 x) (λy:aeE=>(y:Int)<=1073741840):=by
    by_cases c':x<0
    .have w:wI (0-x)=0-x:=dV;simp only[D7,aN,aw,EM,jW,OD,w];exact⟨λ_=>by omega,λ_=>⟨λ_=>by omega,λ_=>⟨λ_=>(show(0-x:Int)<=1073741840 by omega),λ_=>by omega⟩⟩⟩
    .simp only[D7,aN,aw,EM,jW,OD];exact⟨λ_=>by omega,λ_=>⟨λ_=>by omega,λ_=>⟨λ_=>by omega,λ_=>(show x<=1073741840 by omega)⟩⟩⟩
   have h3:(d:Int)<=1073741840:=Ok.post e hd;exact absurd (show(1073741840:Int)<d from h) (Int.not_lt.mpr h3)
  omega
 .have h:=vk h;have h':¬((1073741840:Int)<d):=h;have hx:=aZ0 hd (Int.not_lt.mp h');obtain⟨a,b,e,o,v⟩:=Bl x x (by omega) (by omega) (by omega) (by omega);rw[e,bV];exact h2 hx a b e o v
theorem aRs (x0 x1 x2 x3:Int)(d:mo.B)(hd:∃n:Nat,n<=4/\d.1.1=n/\d.1.2.2=(n:Int)/\d.1.2.1=(x0,x1,x2,x3)/\∀j,j<n->sqW d.b.1 d.b.2 j (w9 x0 x1 x2 x3 j)):
  Ok (TG d) (λx:yH=>match x with
   |.inl _=>∃j,j<4/\(w9 x0 x1 x2 x3 j< -1073741840∨1073741840<w9 x0 x1 x2 x3 j)
   |.inr e=>e.1.1=4/\∀j,j<4->sqW e.b.1 e.b.2 j (w9 x0 x1 x2 x3 j)):=
 wN (s:=_) (λd:mo.B=>∃n:Nat,n<=4/\d.1.1=n/\d.1.2.2=(n:Int)/\d.1.2.1=(x0,x1,x2,x3)/\∀j,j<n->sqW d.b.1 d.b.2 j (w9 x0 x1 x2 x3 j)) (λd:mo.B=>4-d.1.1) (λx:yH=>match x with
   |.inl _=>∃j,j<4/\(w9 x0 x1 x2 x3 j< -1073741840∨1073741840<w9 x0 x1 x2 x3 j)
   |.inr e=>e.1.1=4/\∀j,j<4->sqW e.b.1 e.b.2 j (w9 x0 x1 x2 x3 j)) (λd hd=>by
  obtain⟨⟨c,q,i⟩,q',f,g⟩:=d;obtain⟨n,hn,h1,h2,h3,h4⟩:=hd;simp only at h1 h2 h3 h4;subst h1 h3 h2
  have step:∀(h l:Int),c<4->okW h l->(-1073741840<=w9 x0 x1 x2 x3 c/\w9 x0 x1 x2 x3 c<=1073741840)->vW h l=w9 x0 x1 x2 x3 c*w9 x0 x1 x2 x3 c->
    ∀j,j<c+1->sqW (λj=>bif z9 j c then h else f j) (λj=>bif z9 j c then l else g j) j (w9 x0 x1 x2 x3 j):=λh l hc ho hs hv j hj=>by
   unfold sqW;by_cases e:j=c
   .subst e;simp only[aQ,bB];exact⟨hs,ho,hv⟩
   .have e':z9 j c=false:=by cases hb:z9 j c with|false=>rfl|true=>exact absurd (lE hb) e
    simp only[e',bI];exact h4 j (by omega)
  have hw:wI ((c:Int)+1)=((c+1:Nat):Int):=by rw[dV (by omega) (by omega)];omega
  have hb:wr ((c+1)*16) 140737488355328=true:=by rw[bZ];omega
  unfold TF;simp only[hw,hb]
  have fin:∀(h l:Int),c<4->okW h l->(-1073741840<=w9 x0 x1 x2 x3 c/\w9 x0 x1 x2 x3 c<=1073741840)->vW h l=w9 x0 x1 x2 x3 c*w9 x0 x1 x2 x3 c->
    (∃n:Nat,n<=4/\c+1=n/\((c+1:Nat):Int)=(n:Int)/\True/\∀j,j<n->sqW (λj=>bif z9 j c then h else f j) (λj=>bif z9 j c then l else g j) j (w9 x0 x1 x2 x3 j))/\4-(c+1)<4-c:=λh l hc ho hs hv=>
   ⟨⟨c+1,by omega,rfl,rfl,trivial,step h l hc ho hs hv⟩,by omega⟩
  rcases(by omega:c=0∨c=1∨c=2∨c=3∨c=4) with rfl|rfl|rfl|rfl|rfl
  .rw[show decide (((0:Nat):Int)<4)=true from rfl,show bf ((0:Nat):Int) 4=true from rfl,show(((0:Nat):Int)==3)=false from rfl,show(((0:Nat):Int)==2)=false from rfl,show(((0:Nat):Int)==1)=false from rfl];simp only[aN,LS,ya,Eo,OH,Cd,AF];refine ah1 (A:=Unit) (n:=0) (f:=f) (g:=g) (λh=> ?_) (λhs h l _ ho hv=> ?_)
   .simp only[aw,ld];exact⟨0,by omega,h⟩
   .rw[bL];refine⟨rfl,?_⟩;simp only[aw,nZ];exact fin h l (by omega) ho hs hv
  .rw[show decide (((1:Nat):Int)<4)=true from rfl,show bf ((1:Nat):Int) 4=true from rfl,show(((1:Nat):Int)==3)=false from rfl,show(((1:Nat):Int)==2)=false from rfl,show(((1:Nat):Int)==1)=true from rfl];simp only[aN,LS,ya,Eo,OH,Cd,AF];refine ah1 (A:=Unit) (n:=0) (f:=f) (g:=g) (λh=> ?_) (λhs h l _ ho hv=> ?_)
   .simp only[aw,ld];exact⟨1,by omega,h⟩
   .rw[bL];refine⟨rfl,?_⟩;simp only[aw,nZ];exact fin h l (by omega) ho hs hv
  .rw[show decide (((2:Nat):Int)<4)=true from rfl,show bf ((2:Nat):Int) 4=true from rfl,show(((2:Nat):Int)==3)=false from rfl,show(((2:Nat):Int)==2)=true from rfl];simp only[aN,LS,ya,Eo,OH,Cd,AF];refine ah1 (A:=Unit) (n:=0) (f:=f) (g:=g) (λh=> ?_) (λhs h l _ ho hv=> ?_)
   .simp only[aw,ld];exact⟨2,by omega,h⟩
   .rw[bL];refine⟨rfl,?_⟩;simp only[aw,nZ];exact fin h l (by omega) ho hs hv
  .rw[show decide (((3:Nat):Int)<4)=true from rfl,show bf ((3:Nat):Int) 4=true from rfl,show(((3:Nat):Int)==3)=true from rfl];simp only[aN,LS,ya,Eo,OH,Cd,AF];refine ah1 (A:=Unit) (n:=0) (f:=f) (g:=g) (λh=> ?_) (λhs h l _ ho hv=> ?_)
   .simp only[aw,ld];exact⟨3,by omega,h⟩
   .rw[bL];refine⟨rfl,?_⟩;simp only[aw,nZ];exact fin h l (by omega) ho hs hv
  .rw[show decide (((4:Nat):Int)<4)=false from rfl];simp only[aN,aw,ya,Eo,OH,AF,ld];exact h4) 2000 d hd (by obtain⟨n,hn,h1,_⟩:=hd;omega)
theorem aUf (n:Nat)(hn:n<=100)(f g:Nat->Int)(w:Bool)(B:Int)(hB:0<=B)(hB2:B<=1329227995784915872903807060280344576)(h:∀j,j<n->okW (f j) (g j)/\ -B<=vW (f j) (g j)/\vW (f j) (g j)<=B):
  ∃a b,kT n f g w=some ((a,b),true)/\okW a b/\vW a b=vf (λj=>vW (f j) (g j)) n:=by
 have key:∃x:IK,IL (((n,w),ws n,0),(f,g),0,0)=some x/\(match x with
   |.inl _=>False
   |.inr e=>okW e.b.1 e.b.2/\vW e.b.1 e.b.2=vf (λj=>vW (f j) (g j)) n):=by
  unfold IL
  refine aaF (s:=D8 Le) (λt d=>∃(i:Nat) (a b:Int),i+t=n/\okW a b/\vW a b=vf (λj=>vW (f j) (g j)) i/\d=(((n,w),ws n,ws i),(f,g),a,b)) _ (λt d=> ?_) 2000 n _ (by omega)
   ⟨0,0,0,by omega,⟨by omega,by omega,by omega,by omega⟩,rfl,rfl⟩
  rintro ⟨i,a,b,hi,ho,hv,rfl⟩
  rcases WD t with t0|t0
  .have e:i=n:=by omega
   subst e;simp only[D8,bQ,bN,cx,fq,apz (cZ i),bI];exact⟨_,rfl,ho,hv⟩
  .obtain⟨o1,b1,b2⟩:=h i (by omega);have bnd:=aeV (λj=>vW (f j) (g j)) B hB i (λj hj=>(h j (by omega)).2);obtain⟨a2,b2',q,e,o2,c,v⟩:=azc a b (f i) (g i) ho o1
   have hmul:(i:Int)*B<=100*1329227995784915872903807060280344576:=by
    have:=LW (show(i:Int)<=100 by omega) hB2 hB (by omega);exact this
   have hq:q=true:=by rw[c,hv];omega
   subst hq;have v:=v rfl;have qq:z4 (ws i)=i:=rfl;simp only[D8,bQ,bN,cx,fq,wI,apy hi t0,apA (show i<n by omega),bB,qq,bG,e,Kg,bI,apB (show i<9000000000000000000 by omega)];exact⟨_,rfl,t-1,by omega,i+1,a2,b2',by omega,o2,by rw[v,hv];rfl,rfl⟩
 obtain⟨x,hx,hp⟩:=key;simp only[kT,aaN,bQ,bN,cx,fq,ew];rw[aQ,bB,hx,bG];cases x with
 |inl e=>exact hp.elim
 |inr e=>exact⟨e.b.1,e.b.2,rfl,hp.1,hp.2⟩
theorem aGs (x0 x1 x2 x3:Int):Ok (sE x0 x1 x2 x3) (λb:Bool=>b=true↔((∀j,j<4-> -1073741840<=w9 x0 x1 x2 x3 j/\w9 x0 x1 x2 x3 j<=1073741840)/\ -4294967296<=x0*x0+x1*x1+x2*x2+x3*x3-1152921504606846976/\x0*x0+x1*x1+x2*x2+x3*x3-1152921504606846976<=4294967296)):=by
 unfold sE acS;show PQ _ _;rw[bL];refine⟨rfl,aA (aRs x0 x1 x2 x3 _ ⟨0,by omega,rfl,rfl,rfl,λj hj=>absurd hj (by omega)⟩) λx _ hx=> ?_⟩;rw[qQ];constructor
 .rintro a rfl
  rw[aw];obtain⟨j,hj,hs⟩:=hx;exact⟨λh=>(by cases h),λh=>by have:=h.1 j hj;omega⟩
 .rintro e rfl
  obtain⟨h1,h2⟩:=hx;rw[aQ,bL];refine⟨rfl,?_⟩;have sm:∀j,j<4-> -1073741840<=w9 x0 x1 x2 x3 j/\w9 x0 x1 x2 x3 j<=1073741840:=λj hj=>(h2 j hj).1
  obtain⟨a,b,ea,oa,va⟩:=aUf 4 (by omega) e.b.1 e.b.2 true 1152921538966585600 (by omega) (by omega) (λj hj=>by
   obtain⟨s1,s2,s3⟩:=h2 j hj;have:=aeW s1;exact⟨s2,by rw[s3];omega,by rw[s3];omega⟩)
  rw[h1,ea,bV];have s0:=aeW (sm 0 (by omega));have s1:=aeW (sm 1 (by omega));have s2:=aeW (sm 2 (by omega));have s3:=aeW (sm 3 (by omega))
  have vs:vW a b=x0*x0+x1*x1+x2*x2+x3*x3:=by
   rw[va];simp only[vf,(h2 0 (by omega)).2.2,(h2 1 (by omega)).2.2,(h2 2 (by omega)).2.2,(h2 3 (by omega)).2.2];simp only[w9,lI,if_neg (show ¬(1:Nat)=0 by omega),if_neg (show ¬(2:Nat)=0 by omega),if_neg (show ¬(2:Nat)=1 by omega),if_neg (show ¬(3:Nat)=0 by omega),if_neg (show ¬(3:Nat)=1 by omega),if_neg (show ¬(3:Nat)=2 by omega)];omega
  have t0:w9 x0 x1 x2 x3 0=x0:=rfl;have t1:w9 x0 x1 x2 x3 1=x1:=rfl;have t2:w9 x0 x1 x2 x3 2=x2:=rfl;have t3:w9 x0 x1 x2 x3 3=x3:=rfl;rw[t0] at s0;rw[t1] at s1;rw[t2] at s2;rw[t3] at s3;generalize hS:x0*x0+x1*x1+x2*x2+x3*x3=S at*
  have r:=wide_round a b 0 (by omega) oa;rw[aJA,vs,show ws 0=0 from rfl,if_pos (by omega)] at r;rw[r,bV];have hw:wI (S-1152921504606846976)=S-1152921504606846976:=dV;simp only[hw,aN,aw,OH,LS,Eo,Cd,jW,OD,EM];exact⟨λk=>⟨λm=>⟨sm,k,m⟩,λc=>c.2.2⟩,λk=>⟨λh=>(by cases h),λc=>absurd c.2.1 k⟩⟩
instance a4O (x0 x1 x2 x3:Int):bz (sE x0 x1 x2 x3):=(aGs x0 x1 x2 x3).tot
instance aZo (x0:Nat->Int)(x1:Bool):bz (bY x0 x1):=by
 unfold bY QY;exact aH (by simp only[bP])
instance aUg (x0:Int)(x1:Bool):bz (kO x0 x1):=by
 unfold kO Pf;exact aH (by simp only[bP])
instance a2e (x0:Int)(x1:Int)(x2:Int)(x3:Bool):bz (X4 x0 x1 x2 x3):=by
 unfold X4 atT;exact aH (by simp only[bP])
instance aYC (x0:Nat->Int)(x1:Int)(x2:Int)(x3:Int)(x4:Int)(x5:Int)(x6:Int)(x7:Int)(x8:Int)(x9:Bool):bz (wS x0 x1 x2 x3 x4 x5 x6 x7 x8 x9):=by
 unfold wS X6;exact aH (by simp only[bP])
instance aZp (x0:Nat->Int)(x1:Int)(x2:Int)(x3:Int)(x4:Int)(x5:Int)(x6:Int)(x7:Int)(x8:Int)(x9:Bool):bz (pG x0 x1 x2 x3 x4 x5 x6 x7 x8 x9):=by
 unfold pG Q3;try dsimp only
 exact aH (by simp only[bP])
theorem aGt:∀(d:tp.B) (hd:0<=d.1.2/\d.1.2<=3),Ok (ac9 d) (λx:IV=>True):=
 bO (λd:tp.B=>z4 (3-d.1.2)) (λd hd=>by
  have hw:wI (d.1.2+1)=d.1.2+1:=aW;unfold ac8;simp only[bP];simp only[nf,uZ,hw];repeat' (first|exact True.intro|omega|(intro _)|(apply And.intro))) (λd hd=>by omega)
instance a1q (x0:Int)(x1:Int)(x2:Int)(x3:Bool):bz (BT x0 x1 x2 x3):=by
 unfold BT aa3;refine aH ?_;rw[bH];intro d _;rw[aN];refine⟨λ_=>by simp only[bP],λ_=> ?_⟩;rw[bH];intro d1 _;refine aA (aGt _ (by simp)) λd _ hd=> ?_;simp only[bP]
theorem aC2:∀(d:qF.B) (hd:0<=d.1.2/\d.1.2<=24),Ok (Ym d) (λx:FY=>True):=
 bO (λd:qF.B=>z4 (24-d.1.2)) (λd hd=>by
  have hw:wI (d.1.2+1)=d.1.2+1:=aW;unfold Yl;simp only[bP];simp only[nf,uZ,hw];repeat' (first|exact True.intro|omega|(intro _)|(apply And.intro))) (λd hd=>by omega)
instance aZ1 (x0:Nat->Int)(x1:Int)(x2:Bool):bz (MV x0 x1 x2):=by
 unfold MV ahS;refine aH ?_;rw[bH];intro d1 _;refine aA (aC2 _ (by simp)) λd _ hd=> ?_;simp only[aw]
theorem at3:∀(d:j9.B) (hd:0<=d.1.2/\d.1.2<=24),Ok (EY d) (λx:ud=>True):=
 bO (λd:j9.B=>z4 (24-d.1.2)) (λd hd=>by
  have hw:wI (d.1.2+1)=d.1.2+1:=aW;unfold EX;simp only[bP];simp only[nf,uZ,hw];repeat' (first|exact True.intro|omega|(intro _)|(apply And.intro))) (λd hd=>by omega)
theorem at4 (a b:Int):∀(d:ka.B) (hd:0<=d.1.2.2.2.2/\d.1.2.2.2.2<=d.1.2.2.2.1/\d.1.2.2.2.1<=1999/\d.1.1=a/\d.1.2.2.1=b/\(d.1.2.1:Int)=d.1.2.2.2.2/\d.1.2.2.2.1=a+1),Ok (E0 d) (λx:ue=>x.1.1=a/\x.1.2.2.1=b/\(x.1.2.1:Int)=a+1):=
 bO (λd:ka.B=>z4 (d.1.2.2.2.1-d.1.2.2.2.2)) (λd hd=>by
  have hw:wI (d.1.2.2.2.2+1)=d.1.2.2.2.2+1:=aW;unfold EZ;simp only[bP];simp only[nf,uZ,hw];repeat' (first|exact True.intro|omega|(intro _)|(apply And.intro))) (λd hd=>by omega)
theorem at5:∀(d:kc.B) (hd:0<=d.1/\d.1<=24),Ok (E2 d) (λx:uf=>True):=
 bO (λd:kc.B=>z4 (24-d.1)) (λd hd=>by
  unfold E1;try dsimp only
  rw[aN];refine⟨λh=> ?_,λ_=>by simp only[aw,ld]⟩;have h:=dm h;have hw:wI (d.1+1)=d.1+1:=aW;rw[bL,hw];refine⟨rfl,aA (at4 d.1 d.1 _ (by dsimp only;omega)) λx _ hx=> ?_⟩;obtain⟨a1,a2,a3⟩:=hx;have hn:x.1.2.1=z4 (d.1+1):=by omega
  have td:=λa b c=>M5 (z4 (d.1+1)) (by omega) a b c false true
  simp only[a1,a2,hw,hn];simp only[bP];simp only[nf,uZ];repeat' (first|exact True.intro|omega|(intro _)|(apply And.intro))) (λd hd=>by omega)
instance aVe (x0:Nat->Int)(x1:Nat->Int)(x2:Nat->Int)(x3:Int)(x4:Bool):bz (nR x0 x1 x2 x3 x4):=by
 unfold nR JN;try dsimp only
 refine aH ?_;rw[bH];intro d1 _;refine aA (at3 _ (by simp)) λd _ hd=> ?_;rw[bH];intro d2 _;refine aA (at5 _ (by simp)) λd _ hd=> ?_;simp only[aw]
instance aMq (x0:Nat->Int)(x1:Nat->Int)(x2:Nat->Int)(x3:Int)(x4:Bool):bz (qW x0 x1 x2 x3 x4):=by
 unfold qW Es;exact aH (by simp only[bP])
instance a1r (x0:Int)(x1:Int)(x2:Int)(x3:Int):bz (RR x0 x1 x2 x3):=by
 unfold RR ane;exact aH (by simp only[bP])
theorem ant (a b:Int):∀(d:iu.B) (hd:0<=d.1.2.2.2.2/\d.1.2.2.2.2<=d.1.2.2.2.1/\d.1.2.2.2.1<=1999/\d.1.1=a/\d.1.2.2.1=b/\d.1.2.2.2.1=a/\0<=a/\a<24),Ok (AH d) (λx:qj=>x.1.2.2.1=b):=
 bO (λd:iu.B=>z4 (d.1.2.2.2.1-d.1.2.2.2.2)) (λd hd=>by
  have hw:wI (d.1.2.2.2.2+1)=d.1.2.2.2.2+1:=aW;unfold AG;simp only[bP];simp only[nf,uZ,hw];repeat' (first|exact True.intro|omega|(intro _)|(apply And.intro))) (λd hd=>by omega)
theorem anu:∀(d:iv.B) (hd:0<=d.1/\d.1<=24),Ok (AJ d) (λx:qk=>True):=
 bO (λd:iv.B=>z4 (24-d.1)) (λd hd=>by
  have hw:wI (d.1+1)=d.1+1:=aW;unfold AI;simp only[bP];simp only[nf,uZ,hw];repeat' (first|exact True.intro|omega|(intro _)|(apply And.intro))) (λd hd=>by omega)
theorem anv:∀(d:iw.B) (hd:0<=d.1/\d.1<=24),Ok (AL d) (λx:ql=>True):=
 bO (λd:iw.B=>z4 (24-d.1)) (λd hd=>by
  unfold AK;try dsimp only
  rw[aN];refine⟨λh=> ?_,λ_=>by simp only[aw,ld]⟩;have h:=dm h;have hw:wI (d.1+1)=d.1+1:=aW;iterate 4 (rw[bL];refine⟨by simp only[nf,uZ,hw];omega,?_⟩)
  iterate 2 (rw[bH];intro _ _)
  iterate 5 (rw[bL];refine⟨by simp only[nf,uZ,hw];omega,?_⟩)
  rw[bH];intro _ _;iterate 4 (rw[bL];refine⟨by simp only[nf,uZ,hw];omega,?_⟩)
  refine aA (ant d.1 d.1 _ (by dsimp only;omega)) λx _ hx=> ?_;simp only[aw,nZ,hx,hw];omega) (λd hd=>by omega)
theorem at6:∀(d:lU.B) (hd:0<=d.1.2/\d.1.2<=24),Ok (MX d) (λx:zj=>True):=
 bO (λd:lU.B=>z4 (24-d.1.2)) (λd hd=>by
  have hw:wI (d.1.2+1)=d.1.2+1:=aW;unfold MW;simp only[bP];simp only[nf,uZ,hw];repeat' (first|exact True.intro|omega|(intro _)|(apply And.intro))) (λd hd=>by omega)
instance aVf (x0:Nat->Int)(x1:Int)(x2:Bool):bz (DH x0 x1 x2):=by
 unfold DH T1;refine aH ?_;refine aA (at6 _ (by simp)) λd _ hd=> ?_;simp only[bP]
end Go.Proofs.YtldgljclcgaibaaGreat
