/-
  Parts of the proof: PRT PWY PWZ PWQ PRE TA TB TC TD TU TE TF TG TH TI TJ TK TL TM
-/
import Derived.Test.YtldgljclcgaibaaGreatZAE
import Derived.Test.YtldgljclcgaibaaGreatZAG
import Derived.Test.YtldgljclcgaibaaGreatZAH
import Derived.Test.YtldgljclcgaibaaGreatZAI
open Nat renaming beq→ww,ble→wd
open Int renaming toNat→ws,ofNat→wl,fdiv→ul,tdiv→t7
open BitVec renaming ofInt→v9,toNat→v4
open List renaming append→t9
set_option linter.all false
set_option maxRecDepth 100000
set_option maxHeartbeats 4000000
namespace Go.Proofs.YtldgljclcgaibaaGreat
open Go.Ab
def isR (r V:Int):Prop:=0<=r/\V<=r*r+r/\(r=0∨r*r-r<V)
theorem aLe {a b:Int}(ha:0<=a)(hb:0<=b):0<=a*b:=JO ha hb
theorem aSU {r s V:Int}(h1:isR r V)(h2:isR s V):s<=r:=by
 obtain⟨a1,a2,a3⟩:=h1;obtain⟨b1,b2,b3⟩:=h2;rcases afw r s with h|h
 .exfalso
  have p:=aLe (a:=s-r-1) (b:=s+r) (by omega) (by omega);have q:(s-r-1)*(s+r)=s*s-s-(r*r+r):=by grind
  rcases b3 with b3|b3
  .omega
  .omega
 .exact h
theorem aT0 {r s V:Int}(h1:isR r V)(h2:isR s V):r=s:=Int.le_antisymm (aSU h2 h1) (aSU h1 h2)
theorem aYi (n:Nat):∃q:Nat,q*q<=n/\n<(q+1)*(q+1):=by
 induction n with
 |zero=>exact⟨0,by omega,by omega⟩
 |succ n ih=>
  obtain⟨q,h1,h2⟩:=ih;by_cases c:n+1<(q+1)*(q+1)
  .exact⟨q,by omega,c⟩
  .refine⟨q+1,by omega,?_⟩;have:(q+1+1)*(q+1+1)=(q+1)*(q+1)+2*q+3:=by grind
   omega
theorem aT1 (V:Int)(h:0<=V):∃q:Int,0<=q/\q*q<=V/\V<(q+1)*(q+1):=by
 obtain⟨q,h1,h2⟩:=aYi V.toNat;refine⟨q,by omega,?_,?_⟩
 .have e:((q*q:Nat):Int)=(q:Int)*q:=by simp
  omega
 .have e:(((q+1)*(q+1):Nat):Int)=((q:Int)+1)*(q+1):=by simp
  omega
theorem aRv {a b:Int}(ha:0<=a)(hb:0<=b)(h:a*a<b*b):a<b:=by
 rcases afw a b with c|c
 .exact c
 .exfalso
  have:=Oe c c hb (by omega);omega
theorem aT2 (n:Nat)(hn:n<128):ix 0 1 (wl n)=some (2^n/18446744073709551616,2^n%18446744073709551616):=by
 have key:∀n:Fin 128,ix 0 1 (wl n.val)=some ((2:Int)^n.val/18446744073709551616,(2:Int)^n.val%18446744073709551616):=by decide+kernel
 exact key ⟨n,hn⟩
theorem aIN (a b c d:Int)(b0:0<=b)(b1:b<18446744073709551616)(d0:0<=d)(d1:d<18446744073709551616):
  vV a b c d=some (decide (a*18446744073709551616+b<c*18446744073709551616+d)):=by
 simp only[vV,OC,Pg.cg,Pg.bS,Pg.cG,Pg.fD,Pg.eL];try delta wI wU
 by_cases h:a<c
 .have:a*18446744073709551616+b<c*18446744073709551616+d:=by omega
  simp[h,this]
 .by_cases e:a=c
  .subst e;have:(a*18446744073709551616+b<a*18446744073709551616+d)↔b<d:=by omega
   simp[this]
  .have:¬a*18446744073709551616+b<c*18446744073709551616+d:=by omega
   have e':(a==c)=false:=by simp[e]
   rw[dm h,bH,e',bH,dm this]
theorem ayN (x y c:Int)(x0:0<=x)(x1:x<18446744073709551616)(y0:0<=y)(y1:y<18446744073709551616)(c0:0<=c)(c1:c<=1):adx x y c=some ((x-y-c)%18446744073709551616,if x<y+c then 1 else 0):=by
 unfold adx;have h:wd c.toNat 1=true:=aDu (by omega);rw[h,bz];congr 1
 unfold aXR aXS;simp only[dO,qU];constructor
 .omega
 .split<;>split<;>omega
theorem aRw (a b c d:Int)(a0:0<=a)(a1:a<18446744073709551616)(b0:0<=b)(b1:b<18446744073709551616)(c0:0<=c)(c1:c<18446744073709551616)(d0:0<=d)(d1:d<18446744073709551616)
  (h:c*18446744073709551616+d<=a*18446744073709551616+b):
  ∃h' l',yC a b c d=some (h',l')/\0<=h'/\h'<18446744073709551616/\0<=l'/\l'<18446744073709551616/\h'*18446744073709551616+l'=a*18446744073709551616+b-(c*18446744073709551616+d):=by
 simp only[yC,L5,Pg.cg,Pg.bS,Pg.cG,Pg.fD,Pg.eL];try delta wI wU
 rw[ayN b d 0 b0 b1 d0 d1 (by omega) (by omega)];simp only[bL,Int.add_zero];by_cases k:b<d
 .rw[if_pos k,ayN a c 1 a0 a1 c0 c1 (by omega) (by omega)];simp only[bL];refine⟨_,_,rfl,?_,?_,?_,?_,?_⟩<;>omega
 .rw[if_neg k,ayN a c 0 a0 a1 c0 c1 (by omega) (by omega)];simp only[bL];refine⟨_,_,rfl,?_,?_,?_,?_,?_⟩<;>omega
theorem ahX (h1 l1 h2 l2:Int)(a0:0<=h1)(b0:0<=l1)(c0:0<=h2)(d0:0<=l2)(b1:l1<18446744073709551616)(d1:l2<18446744073709551616)
  (h:h1*18446744073709551616+l1+(h2*18446744073709551616+l2)<340282366920938463463374607431768211456):
  ∃h' l',jJ h1 l1 h2 l2=some (h',l')/\0<=h'/\h'<18446744073709551616/\0<=l'/\l'<18446744073709551616/\h'*18446744073709551616+l'=h1*18446744073709551616+l1+(h2*18446744073709551616+l2):=by
 rw[aIL h1 l1 h2 l2 a0 b0 c0 d0 b1 d1];refine⟨_,_,rfl,?_,?_,?_,?_,?_⟩<;>omega
theorem aov {m n:Nat}(h:m<=n):(2:Int)^m<=2^n:=by
 have h2:(2:Nat)^m<=2^n:=Nat.pow_le_pow_right (by decide) h;have h3:((2^m:Nat):Int)<=((2^n:Nat):Int):=by exact_mod_cast h2
 simpa using h3
theorem atP (h l:Int)(o:okW h l)(h0:0<=h):∃r,isR r (vW h l)/\r<18446744073709551616/\L8 h l=if r<=9223372036854775807 then some (r,true) else some (0,false):=by
 obtain⟨o1,o2,o3,o4⟩:=o;have v0:0<=vW h l:=by show 0<=h*18446744073709551616+l;omega
 have v1:vW h l<170141183460469231731687303715884105728:=by show h*18446744073709551616+l<_;omega
 have hvv:h*18446744073709551616+l=vW h l:=rfl;generalize vW h l=V at*
 obtain⟨q,q0,q1,q2⟩:=aT1 V v0;have qb:q<13043817825332782213:=aRv q0 (by omega) (by omega);obtain⟨r,hr⟩:∃r,r=if q<V-q*q then q+1 else q:=⟨_,rfl⟩
 have q3:(q+1)*(q+1)=q*q+2*q+1:=by grind
 refine⟨r,?_,by rw[hr];split<;>omega,?_⟩
 .rw[hr];split
  .rename_i c
   exact⟨by omega,by omega,Or.inr (by omega)⟩
  .rename_i c
   refine⟨q0,by omega,?_⟩;rcases afw 0 q with k|k
   .exact Or.inr (by omega)
   .exact Or.inl (by omega)
 simp only[L8,agd,Pg.cg,Pg.bS,Pg.cG,Pg.fD,Pg.eL];try delta wI wU
 unfold Wf;have n0:decide (h<0)=false:=dm (by omega);have n1:IntKind.wrap .u64 h=h:=by rw[wrap_u64];omega
 rw[n0,bH,n1]
 refine Ot (λt d=>∃(p c rh rl sh sl:Int),t<=64/\0<=p/\p=c*2^t/\p*p<=V/\V<(p+2^t)*(p+2^t)/\0<=rh/\rh<18446744073709551616/\0<=rl/\rl<18446744073709551616/\rh*18446744073709551616+rl=V-p*p/\
   0<=sh/\sh<18446744073709551616/\0<=sl/\sl<18446744073709551616/\sh*18446744073709551616+sl=p*2^t/\d=(2*(t:Int)-2,(rh,rl),sh,sl)) ?_ 2000 64 _ (by omega)
  ⟨0,0,h,l,0,0,by omega,by omega,by omega,by omega,by
   have:(2:Int)^64=18446744073709551616:=rfl;omega,by omega,by omega,by omega,by omega,by omega,by omega,by omega,by omega,by omega,by omega,rfl⟩
 rintro t _ k ⟨p,c,rh,rl,sh,sl,t0,p0,pc,p1,p2,r0,r1,r2,r3,r4,s0,s1,s2,s3,s4,rfl⟩ hk
 rcases aba t with z|z
 .subst z;have e1:(2:Int)^0=1:=rfl;rw[e1] at p2 s4
  have pq:p=q:=by
   have h1:p<q+1:=aRv p0 (by omega) (by omega);have h2:q<p+1:=aRv q0 (by omega) (by omega);omega
  subst pq;have g0:decide ((2:Int)*((0:Nat):Int)-2>=0)=false:=by decide
  simp only[L7,Pg.wE,Pg.wF,Pg.AM,Pg.Gq,Pg.wG,qV,mZ,g0,bH,aIN sh sl rh rl s2 s3 r2 r3,bL];rw[s4,r4,Int.mul_one];by_cases cc:p<V-p*p
  .rw[eT cc,bz];rw[if_pos cc] at hr;obtain⟨a,b,e2,a0,a1,b0,b1,e3⟩:=ahX sh sl 0 1 s0 s2 (by omega) (by omega) s3 (by omega) (by omega);rw[e2,bL,NC a b false a0 b0 b1,e3,hr];have e4:sh*18446744073709551616+sl+(0*18446744073709551616+1)=p+1:=by omega
   rw[e4];have az:a=0:=by omega
   have e5:b=p+1:=by omega
   simp only[xE,gB,e5];by_cases f:p+1<=9223372036854775807
   .rw[if_pos f,bL]
   .rw[if_neg f,bL]
  .rw[dm cc,bH];rw[if_neg cc] at hr;rw[NC sh sl false s0 s2 s3,s4,hr];have az:sh=0:=by omega
   have e5:sl=p:=by omega
   simp only[xE,gB,Int.mul_one,e5];by_cases f:p<=9223372036854775807
   .rw[if_pos f,bL]
   .rw[if_neg f,bL]
 .obtain⟨m,rfl⟩:∃m,t=m+1:=⟨t-1,by omega⟩;have P2:(2:Int)^(m+1)=2^m*2:=Int.pow_succ _ _;have PP:(2:Int)^(2*m)=2^m*2^m:=by rw[<-Int.pow_add];congr 1;omega
  have P0:=na m;have PB:(2:Int)^m<=2^63:=aov (by omega);have PBv:(2:Int)^63=9223372036854775808:=rfl;have at0:(2:Int)*((m+1:Nat):Int)-2=wl (2*m):=by simp only[dO];omega
  rw[at0];have g0:decide (wl (2*m)>=0)=true:=eT (by simp only[dO];omega)
  have g1:IntKind.wrap .i64 (wl (2*m)-2)=2*(m:Int)-2:=by
   simp only[dO];rw[wrap_i64 (by omega) (by omega)];omega
  simp only[L7,Pg.wE,Pg.wF,Pg.AM,Pg.Gq,Pg.wG,qV,mZ,g0,bz,aT2 (2*m) (by omega),bL,wI,g1];rw[PP];rw[P2] at pc p2 s4;generalize hP:(2:Int)^m=P at*
  have PPb:P*P<=85070591730234615865843651857942052864:=by
   have:=Oe PB PB (by omega) (by omega);omega
  have PP0:0<P*P:=Int.mul_pos P0 P0
  have pb:p*P*2<=V:=by
   rcases afw 0 c with k0|k0
   .have c1:1*(P*2)<=c*(P*2):=apQ (by omega) (by omega);have c2:p*(P*2)<=p*p:=Int.mul_le_mul_of_nonneg_left (by omega) p0;have c3:p*(P*2)=p*P*2:=by grind
    omega
   .have c1:c*(P*2)<=0*(P*2):=apQ k0 (by omega);have:p=0:=by omega
    subst this;omega
  have s4':sh*18446744073709551616+sl=p*P*2:=by rw[s4];grind
  obtain⟨a,b,e2,a0,a1,b0,b1,e3⟩:=ahX sh sl (P*P/18446744073709551616) (P*P%18446744073709551616) s0 s2 (by omega) (by omega) s3 (by omega) (by omega);have e3':a*18446744073709551616+b=p*P*2+P*P:=by omega
  obtain⟨u,v,e4,u0,v0,v1,e5⟩:=awE sh sl 1 (by omega) s0 s1 s2 s3;have e4':jD sh sl 1=some (u,v):=e4
  have e5':u*18446744073709551616+v=p*P:=by
   rw[e5,s4'];show p*P*2/2^1=p*P;rw[show(2:Int)^1=2 from rfl];omega
  rw[e2,bL,e4',bL,aIN rh rl a b r2 r3 b0 b1,bL,e3',r4];have dd:p*p+(p*P*2+P*P)=(p+P)*(p+P):=by grind
  by_cases cc:V-p*p<p*P*2+P*P
  .rw[eT cc];simp only[JP,bH];refine hk m _ (by omega) ⟨p,c*2,rh,rl,u,v,by omega,p0,by rw[hP,pc];grind,p1,by rw[hP];omega,r0,r1,r2,r3,r4,u0,by omega,v0,v1,by rw[hP];exact e5',rfl⟩
  .rw[dm cc];simp only[Bool.not_false,bz];obtain⟨x,y,e6,x0,x1,y0,y1,e7⟩:=aRw rh rl a b r0 r1 r2 r3 a0 a1 b0 b1 (by omega);obtain⟨w,z',e8,w0,w1,z0,z1,e9⟩:=ahX u v (P*P/18446744073709551616) (P*P%18446744073709551616) u0 v0 (by omega) (by omega) v1 (by omega) (by omega);rw[e6,bL,e8,bL];refine hk m _ (by omega) ⟨p+P,c*2+1,x,y,w,z',by omega,by omega,by rw[hP,pc];grind,by omega,?_,x0,x1,y0,y1,by omega,w0,w1,z0,z1,?_,rfl⟩
   .rw[hP];have:(p+P+P)*(p+P+P)=(p+P*2)*(p+P*2):=by grind
    omega
   .rw[hP];have:(p+P)*P=p*P+P*P:=by grind
    omega
theorem aRx (h l:Int)(neg:Bool)(h0:0<=h)(h1:h<18446744073709551616)(l0:0<=l)(l1:l<18446744073709551616):
  ∃h' l' b,nT h l neg=some ((h',l'),b)/\okW h' l'/\(b=true↔if neg=true then h*18446744073709551616+l<=170141183460469231731687303715884105728 else h*18446744073709551616+l<170141183460469231731687303715884105728)/\
   (b=true->vW h' l'=if neg=true then -(h*18446744073709551616+l) else h*18446744073709551616+l):=by
 simp only[nT,LO,Pg.cg,Pg.bS,Pg.cG,Pg.fD,Pg.eL];try delta wI wU
 unfold vW;cases neg
 .have hw:=G4 h;rw[Fa h0 h1] at hw;generalize IntKind.wrap IntKind.i64 h=w at*
  refine⟨w,l,_,rfl,⟨?_,?_,l0,l1⟩,?_,?_⟩
  .split at hw<;>omega
  .split at hw<;>omega
  .rw[rN _ _ (by omega),beq_iff_eq,if_neg (by decide)];constructor<;>intro _<;>omega
  .rw[rN _ _ (by omega),beq_iff_eq,if_neg (by decide)];intro _;split at hw<;>omega
 .simp only[JP,bH,ae5 l l0 l1,wrap_u64,ae5 h h0 h1];rw[P3 _ _ _ (by omega) (by omega) (by omega) (by omega)];simp only[bL,me];generalize hm:((18446744073709551615-h)%18446744073709551616+((18446744073709551615-l)%18446744073709551616+1+0)/18446744073709551616)%18446744073709551616=m
  have hw:=G4 m;generalize IntKind.wrap IntKind.i64 m=w at*
  have m0:0<=m/\m<18446744073709551616:=by omega
  rw[Fa m0.1 m0.2] at hw;have w0: -9223372036854775808<=w/\w<=9223372036854775807:=by split at hw<;>omega
  have wm:(w<0/\w=m-18446744073709551616)∨(0<=w/\w=m):=by split at hw<;>omega
  clear hw
  by_cases c:w<0
  .rw[eT c,bz];refine⟨_,_,_,rfl,⟨w0.1,w0.2,by omega,by omega⟩,?_,?_⟩
   .simp only[true_iff];omega
   .intro _;omega
  .rw[dm c,bH];refine⟨_,_,_,rfl,⟨w0.1,w0.2,by omega,by omega⟩,?_,?_⟩
   .simp only[cx,beq_iff_eq,BJ];constructor<;>intro _<;>omega
   .simp only[cx,beq_iff_eq,BJ];intro _;omega
theorem aYj (d:Int)(s:Nat)(hs:s<=127)(d0:0<=d)(d1:d<18446744073709551616):
  ∃h' l',ix 0 d (wl s)=some (h',l')/\0<=h'/\h'<18446744073709551616/\0<=l'/\l'<18446744073709551616/\h'*18446744073709551616+l'=d*2^s%340282366920938463463374607431768211456:=by
 simp only[ix,SE,Pg.cg,Pg.bS,Pg.cG,Pg.fD,Pg.eL];try delta wI wU
 by_cases c:64<=s
 .have e:decide (wl s>=64)=true:=by simp only[dO];exact eT (by omega)
  have e2:IntKind.wrap .i64 (wl s-64)=wl (s-64):=(wrap_i64 (by simp only[dO];omega) (by simp only[dO];omega)).trans (by simp only[dO];omega);have e3:(!decide (wl (s-64)<0))=true:=by simp
  have e4:min (ws (wl (s-64))) 64=s-64:=by
   show min (s-64) 64=s-64;omega
  simp only[e,e2,e3,e4,bz,wrap_u64];refine⟨_,_,rfl,by omega,by omega,by omega,by omega,?_⟩
  have p:(2:Int)^s=2^(s-64)*18446744073709551616:=by
   rw[show(18446744073709551616:Int)=2^64 from rfl,<-Int.pow_add];congr 1;omega
  rw[p,<-akJ];generalize d*2^(s-64)=x
  omega
 .have e:decide (wl s>=64)=false:=by simp only[dO];exact dm (by omega)
  have e2:IntKind.wrap .i64 (64-wl s)=wl (64-s):=(wrap_i64 (by simp only[dO];omega) (by simp only[dO];omega)).trans (by simp only[dO];omega);have e3:∀n,(!decide (wl n<0))=true:=by simp
  have e4:min (ws (wl (64-s))) 64=64-s:=by
   show min (64-s) 64=64-s;omega
  have e5:min (ws (wl s)) 64=s:=by
   show min s 64=s;omega
  simp only[e,e2,e3,e4,e5,bz,bH,wrap_u64,afx];rw[rN _ _ (pC (na _))]
  have pq:(18446744073709551616:Int)=2^s*2^(64-s):=by
   rw[<-Int.pow_add,show s+(64-s)=64 by omega];rfl
  have P0:=na s;have Q0:=na (64-s);have x0:0<=d/2^(64-s):=Ec d0 (pC Q0);have x1:d/2^(64-s)<2^s:=aa9 Q0 (by rw[<-pq];exact d1);have x2:d/2^(64-s)<=d:=axk _ d0;have z0:(0:Int)%18446744073709551616=0:=rfl;rw[z0]
  have key:wl (v4 (v9 64 0|||v9 64 (d/2^(64-s))))=d/2^(64-s):=by
   rw[ayL 0 (d/2^(64-s)) 0 (by omega) (by decide) x0 (by omega) (by omega) (by rw[show(2:Int)^0=1 from rfl,Int.emod_one])];omega
  rw[key];refine⟨_,_,rfl,by omega,by omega,by omega,by omega,?_⟩
  have m1:d*2^s/18446744073709551616=d/2^(64-s):=by
   rw[pq,AE d,Int.mul_ediv_mul_of_pos _ _ P0]
  have b1:d*2^s<340282366920938463463374607431768211456:=by
   have:=Int.mul_lt_mul_of_pos_right d1 P0;have q:(2:Int)^s<=2^64:=aov (by omega);have q2:(2:Int)^64=18446744073709551616:=rfl;have q3:18446744073709551616*2^s<=(18446744073709551616:Int)*18446744073709551616:=Int.mul_le_mul_of_nonneg_left (by omega) (by omega);have q4:(18446744073709551616:Int)*18446744073709551616=340282366920938463463374607431768211456:=by decide
   omega
  have b0:0<=d*2^s:=JO d0 (pC P0);rw[Fa b0 b1];have x3:d/2^(64-s)%18446744073709551616=d/2^(64-s):=Fa x0 (by omega);rw[x3,<-m1];omega
theorem aow (a:Int)(s:Nat)(hs:s<=127)(a0: -9223372036854775808<=a)(a1:a<=9223372036854775807):
  ∃h l b,vG a (wl s)=some ((h,l),b)/\okW h l/\(b=true↔ -170141183460469231731687303715884105728<=a*2^s/\a*2^s<170141183460469231731687303715884105728)/\(b=true->vW h l=a*2^s)/\(b=false->h=0/\l=0):=by
 simp only[vG,abC,Pg.cg,Pg.bS,Pg.cG,Pg.fD,Pg.eL];try delta wI wU
 have n0:decide (wl s<0)=false:=by simp
 have n1:decide (wl s>127)=false:=by simp only[dO];exact dm (by omega)
 rw[n0,bH,n1,bH,aoT a a0 a1,bL];generalize hd:(if a<0 then -a else a)=d
 have d0:0<=d/\d<=9223372036854775808:=by split at hd<;>omega
 obtain⟨u,v,e1,u0,u1,v0,v1,e2⟩:=aYj d s hs d0.1 (by omega);rw[e1,bL];simp only;have P0:=na s;have D0:0<=d*2^s:=JO d0.1 (pC P0)
 have sg:(a<0->a*2^s= -(d*2^s))/\(¬a<0->a*2^s=d*2^s):=by
  constructor<;>intro h
  .rw[if_pos h] at hd;rw[<-hd,Int.neg_mul,Int.neg_neg]
  .rw[if_neg h] at hd;rw[hd]
 have a1M:∀{b:Bool},b=false->¬d*2^s<340282366920938463463374607431768211456->(b=true↔ -170141183460469231731687303715884105728<=a*2^s/\a*2^s<170141183460469231731687303715884105728):=by
  intro b hb hn;rw[hb];refine iff_of_false Bool.false_ne_true λh=> ?_;by_cases n:a<0
  .have:=sg.1 n;omega
  .have:=sg.2 n;omega
 have fin:d*2^s<340282366920938463463374607431768211456->∃h l b,(Option.bind (nT u v (decide (a<0))) λ(d:VZ)=>bif !d.2 then some (((0,0),false):(Int×Int)×Bool) else some (d.1,true))=some ((h,l),b)/\okW h l/\(b=true↔ -170141183460469231731687303715884105728<=a*2^s/\a*2^s<170141183460469231731687303715884105728)/\(b=true->vW h l=a*2^s)/\(b=false->h=0/\l=0):=by
  intro lt;rw[Fa D0 lt] at e2;obtain⟨h',l',b,e3,o3,f3,v3⟩:=aRx u v (decide (a<0)) u0 u1 v0 v1;rw[e3,bL];rw[e2] at f3 v3;by_cases n:a<0
  .have q:=sg.1 n;rw[eT n,if_pos rfl] at f3 v3;cases b with
   |false=>
    refine⟨0,0,false,rfl,⟨by omega,by omega,by omega,by omega⟩,?_,(λh=>by cases h),(λ_=>⟨rfl,rfl⟩)⟩;rw[f3];omega
   |true=>
    refine⟨h',l',true,rfl,o3,?_,(λ_=> ?_),(λh=>by cases h)⟩
    .rw[f3];omega
    .rw[v3 rfl];omega
  .have q:=sg.2 n;rw[dm n,if_neg (by decide)] at f3 v3;cases b with
   |false=>
    refine⟨0,0,false,rfl,⟨by omega,by omega,by omega,by omega⟩,?_,(λh=>by cases h),(λ_=>⟨rfl,rfl⟩)⟩;rw[f3];omega
   |true=>
    refine⟨h',l',true,rfl,o3,?_,(λ_=> ?_),(λh=>by cases h)⟩
    .rw[f3];omega
    .rw[v3 rfl];omega
 have shr:∃x y,jD u v (wl s)=some (x,y)/\0<=x/\0<=y/\y<18446744073709551616/\x*18446744073709551616+y=(u*18446744073709551616+v)/2^s:=by
  rcases px s 127 with c|c
  .exact awE u v s (by omega) u0 u1 v0 v1
  .obtain rfl:s=127:=by omega
   refine⟨0,u/9223372036854775808,?_,by omega,by omega,by omega,?_⟩
   .simp only[jD,I4,Pg.cg,Pg.bS,Pg.cG,Pg.fD,Pg.eL];try delta wI wU
    have k1:decide (wl 127>=64)=true:=by decide
    have k2:(!decide (IntKind.wrap .i64 (wl 127-64)<0))=true:=by decide
    have k3:(2:Int)^min (ws (IntKind.wrap .i64 (wl 127-64))) 64=9223372036854775808:=by decide
    simp only[k1,k2,k3,bz];rw[rN _ _ (by omega)]
   .have k:(2:Int)^127=170141183460469231731687303715884105728:=by decide
    rw[k];omega
 obtain⟨x,y,e3,x0,y0,y1,e4⟩:=shr;rw[e3,bL];simp only;rw[e2] at e4;by_cases lt:d*2^s<340282366920938463463374607431768211456
 .rw[Fa D0 lt,Int.mul_ediv_cancel _ (by omega)] at e4;have xe:(x==0)=true:=by rw[beq_iff_eq];omega
  have ye:(y==d)=true:=by rw[beq_iff_eq];omega
  rw[xe,ye];exact fin lt
 .have small:d*2^s%340282366920938463463374607431768211456/2^s<d:=by
   refine aa9 P0 ?_;have:d*2^s%340282366920938463463374607431768211456<340282366920938463463374607431768211456:=VG _ (by omega);omega
  have ne:(x==0&&(y==d&&true))=false:=by
   rw[Bool.and_true];by_cases xz:x=0
   .have:(y==d)=false:=by rw[akG];omega
    rw[this,Bool.and_false]
   .have:(x==0)=false:=by rw[akG];omega
    rw[this,Bool.false_and]
  rw[ne];exact⟨0,0,false,rfl,⟨by omega,by omega,by omega,by omega⟩,a1M rfl lt,(λh=>by cases h),(λ_=>⟨rfl,rfl⟩)⟩
theorem Sk (x:Int)(h0:1<=x)(h1:x<256):∃n:Nat,1<=n/\n<=8/\(2:Int)^(n-1)<=x/\x<2^n/\bb (IntKind.wrap .u8 x) 256=true/\IntKind.wrap .i64 (Ez (ByteArray.mk (List.toArray (t9 (t9 [0,1,2,2,3,3,3,3,4,4,4,4,4,4,4,4,5,5,5,5,5,5,5,5,5,5,5,5,5,5,5,5,6,6,6,6,6,6,6,6,6,6,6,6,6,6,6,6,6,6,6,6,6,6,6,6,6,6,6,6,6,6,6,6] [7,7,7,7,7,7,7,7,7,7,7,7,7,7,7,7,7,7,7,7,7,7,7,7,7,7,7,7,7,7,7,7,7,7,7,7,7,7,7,7,7,7,7,7,7,7,7,7,7,7,7,7,7,7,7,7,7,7,7,7,7,7,7,7]) (t9 [8,8,8,8,8,8,8,8,8,8,8,8,8,8,8,8,8,8,8,8,8,8,8,8,8,8,8,8,8,8,8,8,8,8,8,8,8,8,8,8,8,8,8,8,8,8,8,8,8,8,8,8,8,8,8,8,8,8,8,8,8,8,8,8] [8,8,8,8,8,8,8,8,8,8,8,8,8,8,8,8,8,8,8,8,8,8,8,8,8,8,8,8,8,8,8,8,8,8,8,8,8,8,8,8,8,8,8,8,8,8,8,8,8,8,8,8,8,8,8,8,8,8,8,8,8,8,8,8])))) (ws (IntKind.wrap IntKind.u8 x)))=(n:Int):=by
 obtain⟨a,rfl⟩:∃a:Nat,x=(a:Int):=⟨x.toNat,by omega⟩;have t:∀a:Fin 256,1<=a.val->(bb (IntKind.wrap .u8 (a.val:Int)) 256=true/\IntKind.wrap .i64 (Ez (ByteArray.mk (List.toArray (t9 (t9 [0,1,2,2,3,3,3,3,4,4,4,4,4,4,4,4,5,5,5,5,5,5,5,5,5,5,5,5,5,5,5,5,6,6,6,6,6,6,6,6,6,6,6,6,6,6,6,6,6,6,6,6,6,6,6,6,6,6,6,6,6,6,6,6] [7,7,7,7,7,7,7,7,7,7,7,7,7,7,7,7,7,7,7,7,7,7,7,7,7,7,7,7,7,7,7,7,7,7,7,7,7,7,7,7,7,7,7,7,7,7,7,7,7,7,7,7,7,7,7,7,7,7,7,7,7,7,7,7]) (t9 [8,8,8,8,8,8,8,8,8,8,8,8,8,8,8,8,8,8,8,8,8,8,8,8,8,8,8,8,8,8,8,8,8,8,8,8,8,8,8,8,8,8,8,8,8,8,8,8,8,8,8,8,8,8,8,8,8,8,8,8,8,8,8,8] [8,8,8,8,8,8,8,8,8,8,8,8,8,8,8,8,8,8,8,8,8,8,8,8,8,8,8,8,8,8,8,8,8,8,8,8,8,8,8,8,8,8,8,8,8,8,8,8,8,8,8,8,8,8,8,8,8,8,8,8,8,8,8,8])))) (ws (IntKind.wrap IntKind.u8 (a.val:Int))))=((Nat.log2 a.val+1:Nat):Int)):=by decide+kernel
 have ha:1<=a:=by omega
 have a3r:a<256:=by omega
 have l1:=Nat.log2_self_le (n:=a) (by omega);have l2:a<2^(a.log2+1):=Nat.lt_log2_self
 have lb:a.log2<8:=by
  rcases px a.log2 8 with c|c
  .exact c
  .have:2^8<=2^a.log2:=Nat.pow_le_pow_right (by decide) c;omega
 have k:=t ⟨a,a3r⟩ ha;refine⟨a.log2+1,by omega,by omega,?_,?_,k.1,k.2⟩
 .rw[Nat.add_sub_cancel];have:((2^a.log2:Nat):Int)=(2:Int)^a.log2:=by simp
  omega
 .have:((2^(a.log2+1):Nat):Int)=(2:Int)^(a.log2+1):=by simp
  omega
theorem pow_add' (a b:Nat):(2:Int)^(a+b)=2^a*2^b:=Int.pow_add _ _ _
theorem Gl (x:Int)(b n:Nat)(hn:1<=n)(h0:(2:Int)^(n-1)<=x/2^b)(h1:x/2^b<2^n):(2:Int)^(n+b-1)<=x/\x<2^(n+b):=by
 have B0:=na b;have e1:(2:Int)^(n+b-1)=2^(n-1)*2^b:=by rw[<-pow_add'];congr 1;omega
 have e2:(2:Int)^(n+b)=2^n*2^b:=pow_add' _ _;rw[e1,e2];exact⟨Int.mul_le_of_le_ediv B0 h0,Int.lt_mul_of_ediv_lt B0 h1⟩
theorem aZM (x:Int)(h0:1<=x)(h1:x<18446744073709551616):∃n:Nat,1<=n/\n<=64/\(2:Int)^(n-1)<=x/\x<2^n/\Ig x=some (n:Int):=by
 have f1:∀a:Int,ul a 256=a/256:=λa=>rN _ _ (by omega)
 have f2:∀a:Int,ul a 65536=a/65536:=λa=>rN _ _ (by omega)
 have f3:∀a:Int,ul a 4294967296=a/4294967296:=λa=>rN _ _ (by omega)
 simp only[Ig,abx,Pg.cg,Pg.bS,Pg.cG,Pg.fD,Pg.eL,f1,f2,f3];try delta wI wU
 by_cases c:x>=4294967296
 .by_cases d:x/4294967296>=65536
  .by_cases e:x/4294967296/65536>=256
   .have q:x/4294967296/65536/256=x/2^56:=by rw[show(2:Int)^56=72057594037927936 from rfl]<;>omega
    obtain⟨n,n1,n2,b0,b1,t1,t2⟩:=Sk (x/4294967296/65536/256) (by omega) (by omega);rw[q] at b0 b1;obtain⟨c0,c1⟩:=Gl x 56 n n1 b0 b1;refine⟨n+56,by omega,by omega,c0,c1,?_⟩;rw[eT c,bz,eT d,bz,eT e,bz,t1,bz,t2,wrap_i64 (n:=56+(n:Int)) (by omega) (by omega)];exact ck (some:Int->Option Int) (by omega)
   .have q:x/4294967296/65536=x/2^48:=by rw[show(2:Int)^48=281474976710656 from rfl]<;>omega
    obtain⟨n,n1,n2,b0,b1,t1,t2⟩:=Sk (x/4294967296/65536) (by omega) (by omega);rw[q] at b0 b1;obtain⟨c0,c1⟩:=Gl x 48 n n1 b0 b1;refine⟨n+48,by omega,by omega,c0,c1,?_⟩;rw[eT c,bz,eT d,bz,dm e,bH,t1,bz,t2,wrap_i64 (n:=48+(n:Int)) (by omega) (by omega)];exact ck (some:Int->Option Int) (by omega)
  .by_cases e:x/4294967296>=256
   .have q:x/4294967296/256=x/2^40:=by rw[show(2:Int)^40=1099511627776 from rfl]<;>omega
    obtain⟨n,n1,n2,b0,b1,t1,t2⟩:=Sk (x/4294967296/256) (by omega) (by omega);rw[q] at b0 b1;obtain⟨c0,c1⟩:=Gl x 40 n n1 b0 b1;refine⟨n+40,by omega,by omega,c0,c1,?_⟩;rw[eT c,bz,dm d,bH,eT e,bz,t1,bz,t2,wrap_i64 (n:=40+(n:Int)) (by omega) (by omega)];exact ck (some:Int->Option Int) (by omega)
   .have q:x/4294967296=x/2^32:=by rw[show(2:Int)^32=4294967296 from rfl]<;>omega
    obtain⟨n,n1,n2,b0,b1,t1,t2⟩:=Sk (x/4294967296) (by omega) (by omega);rw[q] at b0 b1;obtain⟨c0,c1⟩:=Gl x 32 n n1 b0 b1;refine⟨n+32,by omega,by omega,c0,c1,?_⟩;rw[eT c,bz,dm d,bH,dm e,bH,t1,bz,t2,wrap_i64 (n:=32+(n:Int)) (by omega) (by omega)];exact ck (some:Int->Option Int) (by omega)
 .by_cases d:x>=65536
  .by_cases e:x/65536>=256
   .have q:x/65536/256=x/2^24:=by rw[show(2:Int)^24=16777216 from rfl]<;>omega
    obtain⟨n,n1,n2,b0,b1,t1,t2⟩:=Sk (x/65536/256) (by omega) (by omega);rw[q] at b0 b1;obtain⟨c0,c1⟩:=Gl x 24 n n1 b0 b1;refine⟨n+24,by omega,by omega,c0,c1,?_⟩;rw[dm c,bH,eT d,bz,eT e,bz,t1,bz,t2,wrap_i64 (n:=24+(n:Int)) (by omega) (by omega)];exact ck (some:Int->Option Int) (by omega)
   .have q:x/65536=x/2^16:=by rw[show(2:Int)^16=65536 from rfl]<;>omega
    obtain⟨n,n1,n2,b0,b1,t1,t2⟩:=Sk (x/65536) (by omega) (by omega);rw[q] at b0 b1;obtain⟨c0,c1⟩:=Gl x 16 n n1 b0 b1;refine⟨n+16,by omega,by omega,c0,c1,?_⟩;rw[dm c,bH,eT d,bz,dm e,bH,t1,bz,t2,wrap_i64 (n:=16+(n:Int)) (by omega) (by omega)];exact ck (some:Int->Option Int) (by omega)
  .by_cases e:x>=256
   .have q:x/256=x/2^8:=by rw[show(2:Int)^8=256 from rfl]<;>omega
    obtain⟨n,n1,n2,b0,b1,t1,t2⟩:=Sk (x/256) (by omega) (by omega);rw[q] at b0 b1;obtain⟨c0,c1⟩:=Gl x 8 n n1 b0 b1;refine⟨n+8,by omega,by omega,c0,c1,?_⟩;rw[dm c,bH,dm d,bH,eT e,bz,t1,bz,t2,wrap_i64 (n:=8+(n:Int)) (by omega) (by omega)];exact ck (some:Int->Option Int) (by omega)
   .have q:x=x/2^0:=by rw[show(2:Int)^0=1 from rfl]<;>omega
    obtain⟨n,n1,n2,b0,b1,t1,t2⟩:=Sk (x) (by omega) (by omega);rw[q] at b0 b1;obtain⟨c0,c1⟩:=Gl x 0 n n1 b0 b1;refine⟨n+0,by omega,by omega,c0,c1,?_⟩;rw[dm c,bH,dm d,bH,dm e,bH,t1,bz,t2,wrap_i64 (n:=0+(n:Int)) (by omega) (by omega)];exact ck (some:Int->Option Int) (by omega)
theorem aYk (x:Int)(h0:1<=x)(h1:x<18446744073709551616):∃s:Nat,s<=63/\9223372036854775808<=x*2^s/\x*2^s<18446744073709551616/\pH x=some (s:Int):=by
 obtain⟨n,n1,n2,b0,b1,e⟩:=aZM x h0 h1;refine⟨64-n,by omega,?_,?_,?_⟩
 .have p:(9223372036854775808:Int)=2^(n-1)*2^(64-n):=by
   rw[<-pow_add',show n-1+(64-n)=63 by omega];rfl
  rw[p];exact apQ b0 (pC (na _))
 .have p:(18446744073709551616:Int)=2^n*2^(64-n):=by
   rw[<-pow_add',show n+(64-n)=64 by omega];rfl
  rw[p];exact Int.mul_lt_mul_of_pos_right b1 (na _)
 .simp only[pH,BN,Pg.cg,Pg.bS,Pg.cG,Pg.fD,Pg.eL];try delta wI wU
  rw[e,bL,wrap_i64 (by omega) (by omega)];exact ck (some:Int->Option Int) (by omega)
structure Dig (Y iO zC U u:Int):Prop where
 y:Y=iO*4294967296+zC
 a:2147483648<=iO/\iO<4294967296
 b:0<=zC/\zC<4294967296
 u0:0<=U/\U<Y
 d:0<=u/\u<4294967296
theorem Dig.lt {Y iO zC U u:Int}(h:Dig Y iO zC U u):0<=(U*4294967296+u)/Y/\(U*4294967296+u)/Y<4294967296:=by
 obtain⟨y,a,b,u0,d⟩:=h;constructor
 .exact Ec (by omega) (by omega)
 .refine aa9 (by omega) ?_;omega
theorem Dig.down {Y iO zC U u q rh:Int}(h:Dig Y iO zC U u)(e:q*iO+rh=U)(c:4294967296*rh+u<q*zC):(U*4294967296+u)/Y<=q-1:=by
 obtain⟨y,a,b,u0,d⟩:=h
 have:(U*4294967296+u)/Y<q:=by
  refine aa9 (by omega) ?_;have e2:q*Y=(q*iO)*4294967296+q*zC:=by rw[y];grind
  omega
 omega
theorem Dig.stay {Y iO zC U u q rh:Int}(h:Dig Y iO zC U u)(e:q*iO+rh=U)(c:q*zC<=4294967296*rh+u)(l:(U*4294967296+u)/Y<=q):q=(U*4294967296+u)/Y:=by
 obtain⟨y,a,b,u0,d⟩:=h
 have:q<=(U*4294967296+u)/Y:=by
  refine(Int.le_ediv_iff_mul_le (by omega)).2 ?_;have e2:q*Y=(q*iO)*4294967296+q*zC:=by rw[y];grind
  omega
 omega
theorem Dig.out {Y iO zC U u q rh:Int}(h:Dig Y iO zC U u)(e:q*iO+rh=U)(q0:0<=q)(c:4294967296<=rh)(l:(U*4294967296+u)/Y<=q):q=(U*4294967296+u)/Y:=by
 have h':=h;obtain⟨y,a,b,u0,d⟩:=h;refine h'.stay e ?_ l
 have q1:q<=4294967295:=by
  rcases afw q 4294967296 with k|k
  .omega
  .exfalso
   have:=apQ k (show 0<=iO by omega);omega
 have:=Oe q1 (show zC<=4294967295 by omega) b.1 (by omega);omega
theorem aZN {ρ:Type}(Y s iO zC U u u0:Int)(h:Dig Y iO zC U u)(k:_->Option ρ)(r:Option ρ)
  (h1:∀rh a b c d,k (Sum.inl (Y,s,iO,zC,U,u,u0,(U*4294967296+u)/Y,rh,a,b,c,d))=r)
  (h2:∀rh a b c d e f g i,k (Sum.inr (Sum.inl (Y,s,iO,zC,U,u,u0,(U*4294967296+u)/Y,rh,a,b,c,d,e,f,g,i)))=r)
  (h3:∀rh a b c d e,k (Sum.inr (Sum.inr (Y,s,iO,zC,U,u,u0,(U*4294967296+u)/Y,rh,a,b,c,d,e)))=r):
  (I8 (Y,s,iO,zC,U,u,u0,U/iO,U%iO)).bind k=r:=by
 have h':=h;obtain⟨y,a,b,hu,d⟩:=h;have lt:=h'.lt;have qm:=axd U iO;have m0:=abd U (show iO≠0 by omega);have m1:=VG U (show 0<iO by omega);have qn:=Ec hu.1 (show 0<=iO by omega)
 have start:(U*4294967296+u)/Y<=U/iO:=by
  have e2:(U*4294967296+u)/Y<U/iO+1:=by
   refine aa9 (by omega) ?_;have e3:(U/iO+1)*Y=(iO*(U/iO))*4294967296+iO*4294967296+(U/iO+1)*zC:=by rw[y];grind
   have:=JO (show 0<=U/iO+1 by omega) b.1;omega
  omega
 unfold I8
 refine Ot (λt x=>∃(q rh:Int),0<=q/\q*iO+rh=U/\(U*4294967296+u)/Y<=q/\(2-(t:Int))*2147483648<=rh/\0<=rh/\rh<4294967296/\x=(Y,s,iO,zC,U,u,u0,q,rh)) ?_ 2000 2 _ (by omega)
  ⟨U/iO,U%iO,qn,by rw[AE];exact qm,start,by omega,m0,by omega,rfl⟩
 rintro t _ c ⟨q,rh,q0,e,l,tb,r0,r1,rfl⟩ hc
 have down:(U*4294967296+u)/Y<=q-1->0<=q-1->(q-1)*iO+(rh+iO)=U:=λ_ _=>by
  have:(q-1)*iO=q*iO-iO:=by grind
  omega
 have qb:q<=4294967298:=by
  rcases afw q 4294967298 with k|k
  .omega
  .exfalso
   have:=apQ k (show 0<=iO by omega);omega
 have w1:IntKind.wrap .u64 (rh+iO)=rh+iO:=by rw[wrap_u64];omega
 by_cases c1:q>=4294967296
 .have d1:(U*4294967296+u)/Y<=q-1:=by omega
  have w2:IntKind.wrap .u64 (q-1)=q-1:=by rw[wrap_u64];omega
  have e2:=down d1 (by omega);simp only[I7,Pg.wE,Pg.wF,Pg.AM,Pg.Gq,Pg.wG,qV,mZ,wU,eT c1,bz,w1,w2];by_cases c2:rh+iO>=4294967296
  .rw[eT c2,bz,h'.out e2 (by omega) c2 d1];exact h1 _ _ _ _ _
  .rw[dm c2,bH];have t1:1<=t:=by omega
   exact hc (t-1) _ (by omega) ⟨q-1,rh+iO,by omega,e2,d1,by omega,by omega,by omega,rfl⟩
 .have pm:0<=q*zC/\q*zC<18446744073709551616:=by
   refine⟨JO q0 b.1,?_⟩;have:=Oe (show q<=4294967295 by omega) (show zC<=4294967295 by omega) b.1 (by omega);omega
  have w3:IntKind.wrap .u64 (q*zC)=q*zC:=by rw[wrap_u64];omega
  have w4:IntKind.wrap .u64 (4294967296*rh)=4294967296*rh:=by rw[wrap_u64];omega
  have w5:IntKind.wrap .u64 (4294967296*rh+u)=4294967296*rh+u:=by rw[wrap_u64];omega
  simp only[I7,Pg.wE,Pg.wF,Pg.AM,Pg.Gq,Pg.wG,qV,mZ,wU,dm c1,bH,w1,w3,w4,w5];by_cases c3:q*zC>4294967296*rh+u
  .have d1:=h'.down e c3
   have qp:1<=q:=by
    rcases afw 0 q with k|k
    .omega
    .exfalso
     have:q=0:=by omega
     subst this;omega
   have w2:IntKind.wrap .u64 (q-1)=q-1:=by rw[wrap_u64];omega
   have e2:=down d1 (by omega);rw[eT c3,bz,w2];by_cases c2:rh+iO>=4294967296
   .rw[eT c2,bz,h'.out e2 (by omega) c2 d1];exact h2 _ _ _ _ _ _ _ _ _
   .rw[dm c2,bH];exact hc (t-1) _ (by omega) ⟨q-1,rh+iO,by omega,e2,d1,by omega,by omega,by omega,rfl⟩
  .rw[dm c3,bH,h'.stay e (by omega) l];exact h3 _ _ _ _ _ _
theorem aZO {ρ:Type}(Y s iO zC U u q1:Int)(h:Dig Y iO zC U u)(k:_->Option ρ)(r:Option ρ)
  (h1:∀rh a b c d,k (Sum.inl (Y,s,iO,zC,u,q1,rh,U,(U*4294967296+u)/Y,a,b,c,d))=r)
  (h2:∀rh a b c d e f g i,k (Sum.inr (Sum.inl (Y,s,iO,zC,u,q1,rh,U,(U*4294967296+u)/Y,a,b,c,d,e,f,g,i)))=r)
  (h3:∀rh a b c d e,k (Sum.inr (Sum.inr (Y,s,iO,zC,u,q1,rh,U,(U*4294967296+u)/Y,a,b,c,d,e)))=r):
  (I' (Y,s,iO,zC,u,q1,U%iO,U,U/iO)).bind k=r:=by
 have h':=h;obtain⟨y,a,b,hu,d⟩:=h;have lt:=h'.lt;have qm:=axd U iO;have m0:=abd U (show iO≠0 by omega);have m1:=VG U (show 0<iO by omega);have qn:=Ec hu.1 (show 0<=iO by omega)
 have start:(U*4294967296+u)/Y<=U/iO:=by
  have e2:(U*4294967296+u)/Y<U/iO+1:=by
   refine aa9 (by omega) ?_;have e3:(U/iO+1)*Y=(iO*(U/iO))*4294967296+iO*4294967296+(U/iO+1)*zC:=by rw[y];grind
   have:=JO (show 0<=U/iO+1 by omega) b.1;omega
  omega
 unfold I'
 refine Ot (λt x=>∃(q rh:Int),0<=q/\q*iO+rh=U/\(U*4294967296+u)/Y<=q/\(2-(t:Int))*2147483648<=rh/\0<=rh/\rh<4294967296/\x=(Y,s,iO,zC,u,q1,rh,U,q)) ?_ 2000 2 _ (by omega)
  ⟨U/iO,U%iO,qn,by rw[AE];exact qm,start,by omega,m0,by omega,rfl⟩
 rintro t _ c ⟨q,rh,q0,e,l,tb,r0,r1,rfl⟩ hc
 have down:(U*4294967296+u)/Y<=q-1->0<=q-1->(q-1)*iO+(rh+iO)=U:=λ_ _=>by
  have:(q-1)*iO=q*iO-iO:=by grind
  omega
 have qb:q<=4294967298:=by
  rcases afw q 4294967298 with k|k
  .omega
  .exfalso
   have:=apQ k (show 0<=iO by omega);omega
 have w1:IntKind.wrap .u64 (rh+iO)=rh+iO:=by rw[wrap_u64];omega
 by_cases c1:q>=4294967296
 .have d1:(U*4294967296+u)/Y<=q-1:=by omega
  have w2:IntKind.wrap .u64 (q-1)=q-1:=by rw[wrap_u64];omega
  have e2:=down d1 (by omega);simp only[I9,Pg.wE,Pg.wF,Pg.AM,Pg.Gq,Pg.wG,qV,mZ,wU,eT c1,bz,w1,w2];by_cases c2:rh+iO>=4294967296
  .rw[eT c2,bz,h'.out e2 (by omega) c2 d1];exact h1 _ _ _ _ _
  .rw[dm c2,bH];have t1:1<=t:=by omega
   exact hc (t-1) _ (by omega) ⟨q-1,rh+iO,by omega,e2,d1,by omega,by omega,by omega,rfl⟩
 .have pm:0<=q*zC/\q*zC<18446744073709551616:=by
   refine⟨JO q0 b.1,?_⟩;have:=Oe (show q<=4294967295 by omega) (show zC<=4294967295 by omega) b.1 (by omega);omega
  have w3:IntKind.wrap .u64 (q*zC)=q*zC:=by rw[wrap_u64];omega
  have w4:IntKind.wrap .u64 (4294967296*rh)=4294967296*rh:=by rw[wrap_u64];omega
  have w5:IntKind.wrap .u64 (4294967296*rh+u)=4294967296*rh+u:=by rw[wrap_u64];omega
  simp only[I9,Pg.wE,Pg.wF,Pg.AM,Pg.Gq,Pg.wG,qV,mZ,wU,dm c1,bH,w1,w3,w4,w5];by_cases c3:q*zC>4294967296*rh+u
  .have d1:=h'.down e c3
   have qp:1<=q:=by
    rcases afw 0 q with k|k
    .omega
    .exfalso
     have:q=0:=by omega
     subst this;omega
   have w2:IntKind.wrap .u64 (q-1)=q-1:=by rw[wrap_u64];omega
   have e2:=down d1 (by omega);rw[eT c3,bz,w2];by_cases c2:rh+iO>=4294967296
   .rw[eT c2,bz,h'.out e2 (by omega) c2 d1];exact h2 _ _ _ _ _ _ _ _ _
   .rw[dm c2,bH];exact hc (t-1) _ (by omega) ⟨q-1,rh+iO,by omega,e2,d1,by omega,by omega,by omega,rfl⟩
  .rw[dm c3,bH,h'.stay e (by omega) l];exact h3 _ _ _ _ _ _
theorem aT3 (hi lo y:Int)(h0:0<=hi)(h1:hi<y)(h2:y<18446744073709551616)(l0:0<=lo)(l1:lo<18446744073709551616):
  Ih hi lo y=some ((hi*18446744073709551616+lo)/y,(hi*18446744073709551616+lo)%y):=by
 simp only[Ih,aby,Pg.cg,Pg.bS,Pg.cG,Pg.fD,Pg.eL];try delta wI wU
 have y0:(y==0)=false:=by rw[akG];omega
 rw[y0,bH,dm (show ¬y<=hi by omega),bH];by_cases hz:hi=0
 .subst hz;have z:((0:Int)==0)=true:=rfl;have yn:(!decide (y=0))=true:=by rw[dm (by omega)];rfl
  rw[z,bz,yn,bz,bz,afx,aso,aza l0,Int.tmod_eq_emod_of_nonneg l0];have d0:=Ec l0 (show 0<=y by omega);have d1:=axk y l0;have w:IntKind.wrap .u64 (lo/y)=lo/y:=by rw[wrap_u64];omega
  rw[w]
 have z:(hi==0)=false:=by rw[akG];exact hz
 rw[z,bH];obtain⟨s,s63,b0,b1,e⟩:=aYk y (by omega) h2;rw[e,bL];have P0:=na s;have Q0:=na (64-s);have k1:IntKind.wrap .u64 (s:Int)=(s:Int):=by rw[wrap_u64];omega
 have k2:IntKind.wrap .u64 (64-(s:Int))=((64-s:Nat):Int):=by rw[wrap_u64];omega
 have k3:∀n:Nat,(!decide ((n:Int)<0))=true:=λn=>by rw[dm (by omega)];rfl
 have k4:min (ws (s:Int)) 64=s:=by rw[Ls];omega
 have k5:min (ws ((64-s:Nat):Int)) 64=64-s:=by rw[Ls];omega
 have k6:IntKind.wrap .u64 (y*2^s)=y*2^s:=by rw[wrap_u64];omega
 simp only[k1,k2,k3,k4,k5,k6,bz]
 have pq:(18446744073709551616:Int)=2^s*2^(64-s):=by
  rw[<-pow_add',show s+(64-s)=64 by omega];rfl
 have ab:hi*2^s+2^s<=y*2^s:=by
  have:=apQ (show hi+1<=y by omega) (pC P0);rw[afy] at this;omega
 have a0:0<=hi*2^s:=JO h0 (pC P0);have x0:0<=lo/2^(64-s):=Ec l0 (pC Q0);have x1:lo/2^(64-s)<2^s:=aa9 Q0 (by rw[<-pq];exact l1);have k7:IntKind.wrap .u64 (hi*2^s)=hi*2^s:=by rw[wrap_u64];omega
 have or1:wl (v4 (v9 64 (hi*2^s)|||v9 64 (ul lo (2^(64-s)))))=hi*2^s+lo/2^(64-s):=by
  rw[rN _ _ (pC Q0),BitVec.or_comm,ayL _ _ s x0 x1 a0 (by omega) (by omega) (Int.mul_emod_left _ _)];omega
 have k8:IntKind.wrap .u64 (hi*2^s+lo/2^(64-s))=hi*2^s+lo/2^(64-s):=by rw[wrap_u64];omega
 simp only[k7,or1,k8];rw[wrap_u64 (lo*2^s)];have c0:0<=lo*2^s%18446744073709551616/\lo*2^s%18446744073709551616<18446744073709551616:=by omega
 have N:(hi*2^s+lo/2^(64-s))*18446744073709551616+lo*2^s%18446744073709551616=(hi*18446744073709551616+lo)*2^s:=by
  have m1:lo*2^s/18446744073709551616=lo/2^(64-s):=by
   rw[pq,AE lo,Int.mul_ediv_mul_of_pos _ _ P0]
  have m2:lo*2^s=lo*2^s/18446744073709551616*18446744073709551616+lo*2^s%18446744073709551616:=by omega
  have m3:(hi*18446744073709551616+lo)*2^s=hi*2^s*18446744073709551616+lo*2^s:=by grind
  rw[m3,<-m1];omega
 have U1:0<=hi*2^s+lo/2^(64-s)/\hi*2^s+lo/2^(64-s)<y*2^s:=by omega
 have am1:∀x:Int,0<=x->x<18446744073709551616->IntKind.wrap .u64 (wl (v4 (v9 64 x&&&v9 64 4294967295)))=x%4294967296:=λx x0 x1=>by
  rw[aoS x x0 x1,wrap_u64];omega
 rw[am1 (y*2^s) (by omega) b1,am1 _ c0.1 c0.2];simp only[rN _ 4294967296 (show(0:Int)<=4294967296 by decide)]
 have A1:(hi*18446744073709551616+lo)/y=(hi*18446744073709551616+lo)*2^s/(y*2^s):=by
  rw[AE _ (2^s),AE y,Int.mul_ediv_mul_of_pos _ _ P0]
 have A2:(hi*18446744073709551616+lo)%y=(hi*18446744073709551616+lo)*2^s%(y*2^s)/2^s:=by
  rw[AE _ (2^s),AE y,Int.mul_emod_mul_of_pos _ _ P0,Int.mul_ediv_cancel_left _ (by omega)]
 rw[A1,A2,<-N];generalize hi*2^s+lo/2^(64-s)=U at*
 generalize lo*2^s%18446744073709551616=L at*
 generalize hY:y*2^s=Y at*
 generalize h2s:(2:Int)^s=P at*
 clear N A1 A2 or1 k7 k8 x0 x1 ab a0 pq k6 e
 have hY1:2147483648<=Y/4294967296/\Y/4294967296<4294967296:=by omega
 have g1:Dig Y (Y/4294967296) (Y%4294967296) U (L/4294967296):=⟨by omega,hY1,by omega,U1,by omega⟩;have yz:(!decide (Y/4294967296=0))=true:=by rw[dm (by omega)];rfl
 have Q1:=g1.lt;have R1:=axd (U*4294967296+L/4294967296) Y;have R1a:=abd (U*4294967296+L/4294967296) (show Y≠0 by omega);have R1b:=VG (U*4294967296+L/4294967296) (show 0<Y by omega)
 have q0:IntKind.wrap .u64 (t7 U (Y/4294967296))=U/(Y/4294967296):=by
  rw[aza U1.1,wrap_u64];have:=Ec U1.1 (show 0<=Y/4294967296 by omega);have:=axk (Y/4294967296) U1.1;omega
 have r0:IntKind.wrap .u64 (U-IntKind.wrap .u64 (U/(Y/4294967296)*(Y/4294967296)))=U%(Y/4294967296):=by
  have qm:=Int.ediv_mul_add_emod U (Y/4294967296);have m0:=abd U (show Y/4294967296≠0 by omega);have m1:=VG U (show 0<Y/4294967296 by omega);rw[wrap_u64,wrap_u64];generalize U/(Y/4294967296)*(Y/4294967296)=A at*
  omega
 simp only[yz,bz,q0,r0];generalize hQ1:(U*4294967296+L/4294967296)/Y=q1 at*
 generalize hR1:(U*4294967296+L/4294967296)%Y=R at*
 have g2:Dig Y (Y/4294967296) (Y%4294967296) R (L%4294967296):=⟨by omega,hY1,by omega,⟨R1a,R1b⟩,by omega⟩;have Q2:=g2.lt;have R2:=axd (R*4294967296+L%4294967296) Y;have R2a:=abd (R*4294967296+L%4294967296) (show Y≠0 by omega);have R2b:=VG (R*4294967296+L%4294967296) (show 0<Y by omega);generalize hQ2:(R*4294967296+L%4294967296)/Y=q2 at*
 generalize hR2:(R*4294967296+L%4294967296)%Y=R' at*
 have un:IntKind.wrap .u64 (IntKind.wrap .u64 (IntKind.wrap .u64 (U*4294967296)+L/4294967296)-IntKind.wrap .u64 (q1*Y))=R:=by
  rw[AE q1 Y];simp only[wrap_u64];generalize Y*q1=A at*
  omega
 have q3:IntKind.wrap .u64 (t7 R (Y/4294967296))=R/(Y/4294967296):=by
  rw[aza R1a,wrap_u64];have:=Ec R1a (show 0<=Y/4294967296 by omega);have:=axk (Y/4294967296) R1a;omega
 have r3:IntKind.wrap .u64 (R-IntKind.wrap .u64 (R/(Y/4294967296)*(Y/4294967296)))=R%(Y/4294967296):=by
  have qm:=Int.ediv_mul_add_emod R (Y/4294967296);have m0:=abd R (show Y/4294967296≠0 by omega);have m1:=VG R (show 0<Y/4294967296 by omega);rw[wrap_u64,wrap_u64];generalize R/(Y/4294967296)*(Y/4294967296)=A at*
  omega
 have un2:IntKind.wrap .u64 (IntKind.wrap .u64 (IntKind.wrap .u64 (R*4294967296)+L%4294967296)-IntKind.wrap .u64 (q2*Y))=R':=by
  rw[AE q2 Y];simp only[wrap_u64];generalize Y*q2=A at*
  omega
 have quo:IntKind.wrap .u64 (IntKind.wrap .u64 (q1*4294967296)+q2)=q1*4294967296+q2:=by
  simp only[wrap_u64];omega
 have ans:(U*18446744073709551616+L)/Y=q1*4294967296+q2/\(U*18446744073709551616+L)%Y=R':=by
  have e:U*18446744073709551616+L=R'+Y*(q1*4294967296+q2):=by
   have e2:Y*(q1*4294967296+q2)=Y*q1*4294967296+Y*q2:=by grind
   rw[e2];omega
  rw[e];constructor
  .rw[Int.add_mul_ediv_left _ _ (by omega),Int.ediv_eq_zero_of_lt R2a R2b,aso]
  .rw[Int.add_mul_emod_self_left,Fa R2a R2b]
 rw[ans.1,ans.2];refine aZN Y s _ _ U _ _ g1 _ _ ?_ ?_ ?_
 all_goals
  intros
  simp only[qV,mZ,hQ1,yz,bz,un,q3,r3];refine aZO Y s _ _ R _ _ g2 _ _ ?_ ?_ ?_
  all_goals
   intros
   simp only[qV,mZ,hQ2,k3,bz,un2,quo,k4,h2s];rw[rN _ _ (pC P0)]
def ma (x:Int):Int:=if x<0 then -x else x
theorem aLf (x:Int):0<=ma x:=by unfold ma;split<;>omega
def qdq (V D:Int):Int:=V/D+(if 2*(V%D)<D then 0 else 1)
def NL (a d:Int):Int:=if (decide (a<0))=(decide (d<0)) then qdq (ma a) (ma d) else -qdq (ma a) (ma d)
theorem aIO (h l d:Int)(o:okW h l)(d0: -9223372036854775808<=d)(d1:d<=9223372036854775807)(nz:d≠0):
  Bs h l d=if -9223372036854775808<=NL (vW h l) d/\NL (vW h l) d<=9223372036854775807 then some (NL (vW h l) d,true) else some (0,false):=by
 simp only[Bs,alq,Pg.cg,Pg.bS,Pg.cG,Pg.fD,Pg.eL];try delta wI wU
 have z:(d==0)=false:=by rw[akG];exact nz
 obtain⟨ah,al,e1,a0,a1,a2,a3,a4⟩:=aIK h l o;have e2:=aoT d d0 d1;rw[z,bH,e1,bL,e2,bL];simp only;have D0:0<ma d:=by unfold ma;split<;>omega
 have D1:ma d<=9223372036854775808:=by unfold ma;split<;>omega
 have ed:(if d<0 then -d else d)=ma d:=rfl
 have va:ah*18446744073709551616+al=ma (vW h l):=by
  rw[a4];obtain⟨o1,o2,o3,o4⟩:=o;unfold ma;simp only[vW];split<;>split<;>omega
 have sn:decide (h<0)=decide (vW h l<0):=by
  obtain⟨o1,o2,o3,o4⟩:=o;simp only[vW];by_cases c:h<0
  .rw[eT c,eT (by omega)]
  .rw[dm c,dm (by omega)]
 rw[ed,sn];generalize vW h l=V at*
 have nz2:(!decide (ma d=0))=true:=by rw[dm (by omega)];rfl
 have r0:=abd ah (show ma d≠0 by omega);have r1:=VG ah D0;have q0:=Ec a0 (pC D0);have q1:=axk (ma d) a0;have qe:=axd ah (ma d);have dv:=aT3 (ah%ma d) al (ma d) r0 r1 (by omega) a2 a3;rw[nz2,bz,bz,Int.tmod_eq_emod_of_nonneg a0,dv,bL,aza a0];simp only;have w1:IntKind.wrap .u64 (ah/ma d)=ah/ma d:=by rw[wrap_u64];omega
 have E:ma V=(ah%ma d*18446744073709551616+al)+ma d*(ah/ma d*18446744073709551616):=by
  rw[<-va];have:ma d*(ah/ma d*18446744073709551616)=ma d*(ah/ma d)*18446744073709551616:=by grind
  rw[this];omega
 have Q:ma V/ma d=(ah%ma d*18446744073709551616+al)/ma d+ah/ma d*18446744073709551616:=by
  rw[E,Int.add_mul_ediv_left _ _ (by omega)]
 have R:ma V%ma d=(ah%ma d*18446744073709551616+al)%ma d:=by rw[E,Int.add_mul_emod_self_left]
 have n0:0<=(ah%ma d*18446744073709551616+al)/ma d:=Ec (by omega) (pC D0)
 have n1:(ah%ma d*18446744073709551616+al)/ma d<18446744073709551616:=by
  refine aa9 D0 ?_;omega
 have t0:=abd (ah%ma d*18446744073709551616+al) (show ma d≠0 by omega);have t1:=VG (ah%ma d*18446744073709551616+al) D0;rw[<-R] at t0 t1 ⊢;have w2:IntKind.wrap .u64 (ma d-ma V%ma d)=ma d-ma V%ma d:=by rw[wrap_u64];omega
 rw[w1,w2]
 have sgn:(!decide (V<0)==decide (d<0))= !decide ((decide (V<0))=(decide (d<0))):=by
  cases decide (V<0)<;>cases decide (d<0)<;>rfl
 have qn:0<=qdq (ma V) (ma d):=by
  have:=aLf V;have:=Ec this (pC D0);unfold qdq;split<;>omega
 have fin:∀u v:Int,0<=u->0<=v->v<18446744073709551616->u*18446744073709551616+v=qdq (ma V) (ma d)->
   (Option.bind (jK u v (!decide (V<0)==decide (d<0))) λ(d:Int×Bool)=>some (d.1,d.2))=if -9223372036854775808<=NL V d/\NL V d<=9223372036854775807 then some (NL V d,true) else some (0,false):=by
  intro u v u0 v0 v1 e;rw[NC u v _ u0 v0 v1,e,sgn];unfold NL;generalize qdq (ma V) (ma d)=q at*
  by_cases s:(decide (V<0))=(decide (d<0))
  .rw[if_pos s,eT s];simp only[JP,xE,gB];by_cases c:q<=9223372036854775807
   .rw[if_pos c,if_pos (by omega),bL];have uz:u=0:=by omega
    subst uz;have:v=q:=by omega
    rw[this]
   .rw[if_neg c,if_neg (by omega),bL]
  .rw[if_neg s,dm s];simp only[Bool.not_false,me];by_cases c:q<=9223372036854775808
   .rw[if_pos c,if_pos (by omega),bL];have uz:u=0:=by omega
    subst uz;have:v=q:=by omega
    rw[this]
   .rw[if_neg c,if_neg (by omega),bL]
 by_cases c:ma V%ma d>=ma d-ma V%ma d
 .rw[eT c,bz];obtain⟨u,v,e3,u0,u1,v0,v1,e4⟩:=ahX (ah/ma d) ((ah%ma d*18446744073709551616+al)/ma d) 0 1 q0 n0 (by omega) (by omega) n1 (by omega) (by omega);rw[e3,bL];simp only;refine fin u v u0 v0 v1 ?_;rw[e4];unfold qdq;rw[if_neg (by omega),Q];omega
 .rw[dm c,bH];refine fin _ _ q0 n0 n1 ?_;unfold qdq;rw[if_pos (by omega),Q];omega
theorem aT4 (a d:Int)(nz:d≠0):((decide (a<0))=(decide (d<0))->0<=NL a d)/\(¬(decide (a<0))=(decide (d<0))->NL a d<=0):=by
 have D0:0<ma d:=by unfold ma;split<;>omega
 have q:=Ec (aLf a) (pC D0);have qn:0<=qdq (ma a) (ma d):=by unfold qdq;split<;>omega
 unfold NL;constructor
 .intro h;rw[if_pos h];exact qn
 .intro h;rw[if_neg h];omega
theorem aSV (h l d:Int)(fO:Bool)(o:okW h l)(d0: -9223372036854775808<=d)(d1:d<=9223372036854775807)(nz:d≠0):
  yB h l d fO=some (sat (NL (vW h l) d),fO||fU (NL (vW h l) d)):=by
 simp only[yB,LV,Pg.cg,Pg.bS,Pg.cG,Pg.fD,Pg.eL];try delta wI wU
 have z:(d==0)=false:=by rw[akG];exact nz
 have sn:decide (h<0)=decide (vW h l<0):=by
  obtain⟨o1,o2,o3,o4⟩:=o;simp only[vW];by_cases c:h<0
  .rw[eT c,eT (by omega)]
  .rw[dm c,dm (by omega)]
 rw[z,bH,aIO h l d o d0 d1 nz,sn];have s:=aT4 (vW h l) d nz;generalize vW h l=V at*
 by_cases c: -9223372036854775808<=NL V d/\NL V d<=9223372036854775807
 .rw[if_pos c,bL];simp only[ae6,me,bL]
 .rw[if_neg c,bL];simp only[ae6,xE,gB,bL];by_cases e:(decide (V<0))=(decide (d<0))
  .have p:=s.1 e;have e2:(!decide (V<0)==decide (d<0))=false:=by rw[e,beq_self_eq_true];rfl
   rw[e2];unfold sat fU;rw[if_neg (by decide),if_neg (by omega),if_pos (by omega),eT (show 1152921504606846976<NL V d by omega),Bool.or_true,Bool.or_true]
  .have p:=s.2 e
   have e2:(!decide (V<0)==decide (d<0))=true:=by
    have:(decide (V<0)==decide (d<0))=false:=by rw[akG];exact e
    rw[this];rfl
   rw[e2];unfold sat fU;rw[if_pos rfl,if_pos (by omega),eT (show NL V d< -1152921504606846976 by omega),Bool.true_or,Bool.or_true]
theorem aOA (a b d:Int)(fO:Bool)(nz:sat d≠0):
  aU a b d fO=some (sat (NL (sat a*sat b) (sat d)),((((fO||fU a)||fU b)||fU d)||fU (NL (sat a*sat b) (sat d)))):=by
 simp only[aU,Gw,Pg.cg,Pg.bS,Pg.cG,Pg.fD,Pg.eL];try delta wI wU
 have:=qD a;have:=qD b;have:=qD d;obtain⟨h,l,e1,e2,e3⟩:=D8 (sat a) (sat b) (by omega) (by omega) (by omega) (by omega);simp only[qN,bL,e1,aSV h l (sat d) _ e2 (by omega) (by omega) nz,e3]
theorem aYl (a b:Int)(s:Nat)(fO:Bool)(hs:s<=66)(nz:sat b≠0):
  bo a b (wl s) fO=some (sat (NL (sat a*2^s) (sat b)),(((fO||fU a)||fU b)||fU (NL (sat a*2^s) (sat b)))):=by
 simp only[bo,Qo,Pg.cg,Pg.bS,Pg.cG,Pg.fD,Pg.eL];try delta wI wU
 have ha:=qD a;have hb:=qD b;have P0:=na s;have PB:(2:Int)^s<=2^66:=aov hs;have PV:(2:Int)^66=73786976294838206464:=by decide
 have m1:sat a*2^s<=1152921504606846976*73786976294838206464:=by
  rcases axl 0 (sat a) with c|c
  .exact Oe ha.2 (by omega) (pC P0) (by omega)
  .have:=aLe (a:= -sat a) (b:=2^s) (by omega) (pC P0);rw[Int.neg_mul] at this;omega
 have m2: -(1152921504606846976*73786976294838206464)<=sat a*2^s:=by
  rcases axl 0 (sat a) with c|c
  .have:=aLe c (pC P0);omega
  .have:=Oe (show -sat a<=1152921504606846976 by omega) (show(2:Int)^s<=73786976294838206464 by omega) (pC P0) (by omega);rw[Int.neg_mul] at this;omega
 have mv:(1152921504606846976:Int)*73786976294838206464=85070591730234615865843651857942052864:=by decide
 obtain⟨h,l,b',e1,o1,f1,v1,_⟩:=aow (sat a) s (by omega) (by omega) (by omega);have bt:b'=true:=f1.2 ⟨by omega,by omega⟩;subst bt;have n0:decide (wl s<0)=false:=by simp
 have n1:decide (wl s>66)=false:=by simp only[dO];exact dm (by omega)
 simp only[qN,bL,n0,n1,bH,e1,aSV h l (sat b) _ o1 (by omega) (by omega) nz,v1 rfl]
theorem awJ (h l r:Int)(fO:Bool)(o:okW h l)(h0:0<=h)(hr:isR r (vW h l)):yD h l fO=some (sat r,fO||fU r):=by
 obtain⟨r',e1,e2,e3⟩:=atP h l o h0;have:=aT0 hr e1;subst this;simp only[yD,alv,Pg.cg,Pg.bS,Pg.cG,Pg.fD,Pg.eL];try delta wI wU
 rw[e3];by_cases c:r<=9223372036854775807
 .rw[if_pos c,bL];simp only[JP,bH,qN,bL]
 .rw[if_neg c,bL];simp only[Bool.not_false,bz,qN,bL]
  have a:sat r=sat 1152921504606846977:=by
   unfold sat;rw[if_neg (by omega),if_pos (by omega),if_neg (by omega),if_pos (by omega)]
  have b:fU r=fU 1152921504606846977:=by
   unfold fU;rw[eT (show 1152921504606846976<r by omega),eT (show(1152921504606846976:Int)<1152921504606846977 by omega),Bool.or_true,Bool.or_true]
  rw[a,b]
open Go.Ab Go.Ab.Pg
instance a4z (x:Int)(h:Bool):bn (aR x h):=⟨_,qN x h⟩
instance a3s (x a b:Int)(h:Bool):bn (bc x a b h):=aG (p:=ya x a b h) (by simp only[ya,aK,av,Og,and_self])
instance a4i (b:Bool):bn (qY b):=aG (p:=V5 b) (by simp only[V5,aK,av,Og,and_self])
instance a4A (x:Int):bn (yd x):=aG (p:=DV x) (by simp only[DV,aK,av,Og,and_self])
instance a4j (x:Int):bn (lI x):=aG (p:=US x) (by simp only[US,aK,av,bJ,Og,and_self])
instance a4B (a:Int)(b c d:Bool):bn (nU a b c d):=aG (p:=Ie qY aR a b c d) (by simp only[Ie,aK,av,bE,Og,and_self])
instance a4C (x y:Int)(h:Bool):bn (bP x y h):=aG (p:=Il aR x y h) (by simp only[Il,aK,av,bE,Og,and_self])
theorem aRy (a b:Int)(s:Nat)(hs:s<=120)(h:Bool):bn (aV a b (wl s) h):=⟨_,aOx a b s h hs⟩
instance a3t (a b:Int)(h:Bool):bn (aV a b 30 h):=aRy a b 30 (by omega) h
instance a3u (a b:Int)(h:Bool):bn (aV a b 44 h):=aRy a b 44 (by omega) h
instance a3v (a b:Int)(h:Bool):bn (aV a b 10 h):=aRy a b 10 (by omega) h
instance t_m (a b:Int)(h:Bool):bn (KQ a b h):=aG (p:=aoN aV a b h) (by simp only[aoN,aK,av,bE,Og,and_self])
theorem a1N (s:Nat)(hs:s<=120)(n:Nat)(hn:n<=100)(fO:Bool)(f g:Nat->Int)(w w':Bool):bn (bu (wl s) n n fO f g w w'):=⟨_,aOy s hs n hn fO f g w w'⟩
theorem NF (n:Nat)(hn:n<=100)(fO:Bool)(f g:Nat->Int)(w w':Bool):bn (bu 30 n n fO f g w w'):=a1N 30 (by omega) n hn fO f g w w'
instance a4k (fO:Bool)(f g:Nat->Int)(w w':Bool):bn (bu 30 2 2 fO f g w w'):=NF 2 (by omega) fO f g w w'
instance a4l (fO:Bool)(f g:Nat->Int)(w w':Bool):bn (bu 30 3 3 fO f g w w'):=NF 3 (by omega) fO f g w w'
instance a4m (fO:Bool)(f g:Nat->Int)(w w':Bool):bn (bu 30 4 4 fO f g w w'):=NF 4 (by omega) fO f g w w'
instance a3w (fO:Bool)(f g:Nat->Int)(w w':Bool):bn (bu 30 24 24 fO f g w w'):=NF 24 (by omega) fO f g w w'
instance a3x (fO:Bool)(f g:Nat->Int)(w w':Bool):bn (bu 30 48 48 fO f g w w'):=NF 48 (by omega) fO f g w w'
theorem aLg (n:Nat)(hn:n<=1900)(fO:Bool)(l:Nat->Int)(w:Bool):bn (db n fO l w):=⟨_,aYh n hn fO l w⟩
instance a4n (fO:Bool)(l:Nat->Int)(w:Bool):bn (db 2 fO l w):=aLg 2 (by omega) fO l w
instance a4o (fO:Bool)(l:Nat->Int)(w:Bool):bn (db 3 fO l w):=aLg 3 (by omega) fO l w
theorem aYm (x y:Int)(h:Bool):bn (yB x y 0 h):=aG (p:=LV qY Bs nU x y 0 h) (by
 unfold LV;simp only[aK,av,bE,Og,and_self,Av];intro h;simp at h)
instance a2D (a b d:Int)(h:Bool):bn (aU a b d h):=by
 by_cases nz:sat d=0
 .have h1:=qD a;have h2:=qD b;obtain⟨x,y,e,_,_⟩:=D8 (sat a) (sat b) (by omega) (by omega) (by omega) (by omega);have:=(aYm x y (((h||fU a)||fU b)||fU d)).ok;refine⟨?_⟩;simp only[aU,Gw,cg,bS,cG,qN,bL,e,nz];obtain⟨d,hd⟩:=this;rw[hd];exact⟨_,rfl⟩
 .exact⟨_,aOA a b d h nz⟩
theorem aYn (a b:Int)(s:Nat)(hs:s<=66)(h:Bool):bn (bo a b (wl s) h):=by
 by_cases nz:sat b=0
 .have h1:=qD a;obtain⟨x,y,q,e,_,_⟩:=aow (sat a) s (by omega) (by omega) (by omega);have:=(aYm x y ((h||fU a)||fU b)).ok;refine⟨?_⟩;have n0:decide (wl s<0)=false:=by simp
  have n1:decide (wl s>66)=false:=by simp only[dO];exact dm (by omega)
  simp only[bo,Qo,cg,bS,cG,qN,bL,n0,n1,bH,e,nz];obtain⟨d,hd⟩:=this;rw[hd];exact⟨_,rfl⟩
 .exact⟨_,aYl a b s h hs nz⟩
instance a3y (a b:Int)(h:Bool):bn (bo a b 30 h):=aYn a b 30 (by omega) h
instance a3z (a b:Int)(h:Bool):bn (bo a b 44 h):=aYn a b 44 (by omega) h
def sq2 (f:Nat->Int)(n:Nat):Int:=As (λj=>sat (f j)*sat (f j)) n
theorem aBs (f:Nat->Int):∀n,0<=sq2 f n
 |0=>dg 0
 |n+1=>by
  have:=aBs f n
  have h2:0<=sat (f n)*sat (f n):=by
   rcases axl 0 (sat (f n)) with h|h
   .exact JO h h
   .exact Int.mul_nonneg_of_nonpos_of_nonpos h h
  unfold sq2 at*;rw[As];omega
theorem aT5 (n:Nat)(hn:n<=64)(fO:Bool)(f:Nat->Int)(w:Bool):∃r,isR r (sq2 f n)/\gP n fO f w=some (sat r,(fO||Gk (λj=>fU (f j)) n)||fU r):=by
 have nn:=aBs f n
 have key:∃x,gP n fO f w=x/\∃h l,okW h l/\vW h l=sq2 f n/\x=(yD h l (fO||Gk (λj=>fU (f j)) n)):=by
  refine⟨_,rfl,?_⟩;have m:(if 64<wl n then(64:Int) else wl n)=wl n:=by rw[if_neg (by simp only[dO];omega)]
  have k:KI (wl n) n=true:=by simp[KI]
  have q:ws (wl n)=n:=rfl;simp only[gP,abN,cg,bS,cG,fD,m,k,q,bz];unfold SM
  obtain⟨x,hx,i,h,l,ho,hv,rfl⟩:=ZL (s:=Dm aR fP lr)
   (λt d=>∃(i:Nat) (h l':Int),i+t=n/\okW h l'/\vW h l'=sq2 f i/\d=(((n,w&&false),wl n,wl i),(fO||Gk (λj=>fU (f j)) i),(n,f),h,l'))
   (λx=>∃(i:Nat) (h l':Int),okW h l'/\vW h l'=sq2 f n/\x=(((n,w&&false),wl n,wl n,decide (wl n<wl n)),(fO||Gk (λj=>fU (f j)) n),(n,f),h,l')) (λt d=>by
    rintro ⟨i,h,l',hi,ho,hv,rfl⟩
    have bnd:=aou (λj=>sat (f j)*sat (f j)) 1329227995784915872903807060280344576 (by omega) i (λj _=>ae7 _ _);have hv':vW h l'=As (λj=>sat (f j)*sat (f j)) i:=hv;rcases aba t with t0|t0
    .have e:i=n:=by omega
     subst e;simp only[Dm,cg,bS,cG,fD,awG (dq i),bH];exact⟨_,rfl,i,h,l',ho,hv,by rfl⟩
    .have hs1:=qD (f i);have hm:=ae7 (f i) (f i);obtain⟨h1,l1,e1,o1,v1⟩:=D8 (sat (f i)) (sat (f i)) (by omega) (by omega) (by omega) (by omega)
     obtain⟨h2,l2,e2,o2,v2⟩:=ahW (λj:Nat=>bif ww j 1 then h1 else bif ww j 0 then h else h) (λj:Nat=>bif ww j 1 then l1 else bif ww j 0 then l' else l') true
      ho o1 (by show _<=vW h l'+vW h1 l1;rw[hv',v1];omega) (by show vW h l'+vW h1 l1<_;rw[hv',v1];omega)
     have v2:vW h2 l2=vW h l'+vW h1 l1:=v2;rw[hv',v1] at v2;have q:ws (wl i)=i:=rfl;simp only[Dm,cg,bS,cG,fD,wI,awF hi t0,awH (show i<n by omega),bz,q,qN,bL,e1,e2,awI (show i<9000000000000000000 by omega)];refine⟨_,rfl,t-1,by omega,i+1,h2,l2,by omega,o2,v2,?_⟩;simp only[Gk,Bool.or_assoc])
   2000 n (((n,w&&false),wl n,0),fO,(n,f),0,0) (by omega) ⟨0,0,0,by omega,⟨by omega,by omega,by omega,by omega⟩,rfl,by simp only[Gk,Sr];rfl⟩
  rw[hx];refine⟨h,l,ho,hv,?_⟩;simp only[bL];cases yD h l (fO||Gk (λj=>fU (f j)) n)<;>rfl
 obtain⟨x,hx,h,l,ho,hv,rfl⟩:=key
 have h0:0<=h:=by
  obtain⟨o1,o2,o3,o4⟩:=ho;rw[<-hv] at nn;simp only[vW] at nn;omega
 obtain⟨r,hr,_,_⟩:=atP h l ho h0;refine⟨r,hv▸hr,?_⟩;rw[hx];exact awJ h l r _ ho h0 hr
theorem aFX (n:Nat)(hn:n<=64)(fO:Bool)(f:Nat->Int)(w:Bool):bn (gP n fO f w):=by
 obtain⟨r,_,h⟩:=aT5 n hn fO f w;exact⟨_,h⟩
instance a2E (fO:Bool)(f:Nat->Int)(w:Bool):bn (gP 3 fO f w):=aFX 3 (by omega) fO f w
instance a2F (fO:Bool)(f:Nat->Int)(w:Bool):bn (gP 4 fO f w):=aFX 4 (by omega) fO f w
theorem awK:∀(d:nA.B) (hd:0<=d.1.2.2.2.2/\d.1.2.2.2.2<=d.1.2.2.2.1/\d.1.2.2.2.1<=1999/\d.1.2.2.2.1=((d.1.2.2.1.1:Nat):Int)),Ok (OG d) (λx:AR=>True):=
 bp (λd:nA.B=>ws (d.1.2.2.2.1-d.1.2.2.2.2)) (λd hd=>by
  have hw:wI (d.1.2.2.2.2+1)=d.1.2.2.2.2+1:=aY;unfold OF;simp only[bM];simp only[nf,uF,hw];repeat' (first|exact True.intro|omega|(intro _)|(apply And.intro))) (λd hd=>by omega)
theorem ayO (x0:Int)(x1:Nat)(h1:1<=x1)(h2:x1<=1000)(x2:Bool)(x3:Nat->Int)(w0:Bool):bn (nW x0 x1 x2 x3 w0):=by
 unfold nW Wk;refine aG ?_;rw[bJ,bJ];refine⟨by simp only[bk];omega,by simp only[ady];omega,?_⟩;refine ay (awK _ (hdN (x1-1) (by omega))) λd _ hd=> ?_;simp only[av]
instance a1O (x0:Int)(x2:Bool)(x3:Nat->Int)(w0:Bool):bn (nW x0 6 x2 x3 w0):=ayO _ _ (by omega) (by omega) _ _ _
instance a1P (x0:Int)(x2:Bool)(x3:Nat->Int)(w0:Bool):bn (nW x0 7 x2 x3 w0):=ayO _ _ (by omega) (by omega) _ _ _
instance a07 (x0:Int)(x2:Bool)(x3:Nat->Int)(w0:Bool):bn (nW x0 12 x2 x3 w0):=ayO _ _ (by omega) (by omega) _ _ _
instance a08 (x0:Int)(x1:Bool):bn (oM x0 x1):=by
 unfold oM alE;exact aG (by simp only[bM])
instance a09 (x0:Int)(x1:Bool):bn (sR x0 x1):=by
 unfold sR alF;exact aG (by simp only[bM])
instance aZg (x0:Int)(x1:Int)(x2:Bool):bn (zI x0 x1 x2):=by
 unfold zI abL;exact aG (by simp only[bM])
instance a1Q (x0:Int)(x1:Int)(x2:Int)(x3:Int)(x4:Int)(x5:Int)(x6:Bool):bn (wJ x0 x1 x2 x3 x4 x5 x6):=by
 unfold wJ asT;exact aG (by simp only[bM])
instance aZP (x0:Int)(x1:Int)(x2:Int)(x3:Int)(x4:Bool):bn (uR x0 x1 x2 x3 x4):=by
 unfold uR agq;exact aG (by simp only[bM])
instance a1a (x0:Int)(x1:Int)(x2:Int)(x3:Bool):bn (p6 x0 x1 x2 x3):=by
 unfold p6 alH;exact aG (by simp only[bM])
instance a1R (x0:Int)(x1:Int)(x2:Int)(x3:Bool):bn (BU x0 x1 x2 x3):=by
 unfold BU asU;exact aG (by simp only[bM])
instance aYo (x0:Int)(x1:Int)(x2:Bool):bn (wH x0 x1 x2):=by
 unfold wH Wa;exact aG (by simp only[bM])
instance aLh (x0:Int)(x1:Int)(x2:Int)(x3:Int)(x4:Bool):bn (ky x0 x1 x2 x3 x4):=by
 unfold ky BQ;exact aG (by simp only[bM])
theorem aFY:∀(d:sS.B) (hd:0<=d.1/\d.1<=4),Ok (abR d) (λx:Io=>True):=
 bp (λd:sS.B=>ws (4-d.1)) (λd hd=>by
  have hw:wI (d.1+1)=d.1+1:=aY;unfold abQ;simp only[bM];simp only[nf,uF,hw];repeat' (first|exact True.intro|omega|(intro _)|(apply And.intro))) (λd hd=>by omega)
instance a1b (x0:Int)(x1:Int)(x2:Int)(x3:Int)(x4:Bool):bn (yG x0 x1 x2 x3 x4):=by
 unfold yG alJ;refine aG ?_;refine ay (aFY _ (by simp)) λd _ hd=> ?_;simp only[bM]
instance a1c:bn oN:=by
 unfold oN alO;exact aG (by simp only[bM])
instance aZQ (x0:Int)(x1:Int)(x2:Int)(x3:Int):bn (BV x0 x1 x2 x3):=by
 unfold BV agx;exact aG (by simp only[bM])
theorem ayP:∀(d:oO.B) (hd:0<=d.1.2/\d.1.2<=3),Ok (SO d) (λx:Dn=>True):=
 bp (λd:oO.B=>ws (3-d.1.2)) (λd hd=>by
  have hw:wI (d.1.2+1)=d.1.2+1:=aY;unfold SN;simp only[bM];simp only[nf,uF,hw];repeat' (first|exact True.intro|omega|(intro _)|(apply And.intro))) (λd hd=>by omega)
instance aZh (x0:Nat->Int)(x1:Int):bn (fe x0 x1):=by
 unfold fe abT;refine aG ?_;refine ay (ayP _ (by simp)) λd _ hd=> ?_;simp only[bM]
theorem ayQ:∀(d:oP.B) (hd:0<=d.1.2.2.2.2/\d.1.2.2.2.2<=d.1.2.2.2.1/\d.1.2.2.2.1<=1999/\d.1.2.2.2.1=((d.1.2.2.1.1:Nat):Int)),Ok (SQ d) (λx:Dp=>True):=
 bp (λd:oP.B=>ws (d.1.2.2.2.1-d.1.2.2.2.2)) (λd hd=>by
  have hw:wI (d.1.2.2.2.2+1)=d.1.2.2.2.2+1:=aY;unfold SP;simp only[bM];simp only[nf,uF,hw];repeat' (first|exact True.intro|omega|(intro _)|(apply And.intro))) (λd hd=>by omega)
theorem ar1 (x0:Nat->Int)(x1:Int)(x2:Nat)(x3:Nat->Int)(w0:Bool)(h:x2<=1999):bn (gQ x0 x1 x2 x3 w0):=by
 unfold gQ abX;refine aG ?_;rw[aN,bJ];refine⟨rfl,?_⟩;refine ay (ayQ _ (hdN x2 h)) λd _ hd=> ?_;simp only[bM]
instance a3A (x0:Nat->Int)(x1:Int)(x3:Nat->Int)(w0:Bool):bn (gQ x0 x1 3 x3 w0):=ar1 _ _ _ _ _ (by omega)
instance a3B (x0:Nat->Int)(x1:Int)(x3:Nat->Int)(w0:Bool):bn (gQ x0 x1 4 x3 w0):=ar1 _ _ _ _ _ (by omega)
instance a1d (x0:Int)(x1:Int)(x2:Int)(x3:Int)(x4:Int)(x5:Int)(x6:Int)(x7:Int)(x8:Bool):bn (Q9 x0 x1 x2 x3 x4 x5 x6 x7 x8):=by
 unfold Q9 alQ;exact aG (by simp only[bM])
instance a1e (x0:Int)(x1:Int)(x2:Int)(x3:Int)(x4:Bool):bn (Q' x0 x1 x2 x3 x4):=by
 unfold Q' alS;exact aG (by simp only[bM])
theorem aox:∀(d:jZ.B) (hd:0<=d.1.2.2/\d.1.2.2<=d.1.1/\d.1.1<=1999/\d.1.1<=24),Ok (HA d) (λx:uH=>True):=
 bp (λd:jZ.B=>ws (d.1.1-d.1.2.2)) (λd hd=>by
  have hw:wI (d.1.2.2+1)=d.1.2.2+1:=aY;unfold Hz;simp only[bM];simp only[nf,uF,hw];repeat' (first|exact True.intro|omega|(intro _)|(apply And.intro))) (λd hd=>by omega)
theorem pT (x0:Int)(x1:Int)(x2:Int)(x3:Nat->Int)(h0:0<=x0)(h1:x0<=x1)(h2:x1<=24):bn (yH x0 x1 x2 x3):=by
 unfold yH Mb;refine aG ?_;refine ay (aox _ (by dsimp only;omega)) λd _ hd=> ?_;simp only[av]
instance aUK (x0:Int)(x1:Bool):bn (ot x0 x1):=by
 unfold ot Jf;exact aG (by simp only[bM])
theorem apt:∀(d:gR.B) (hd:0<=d.1/\d.1<=24),Ok (BX d) (λx:qZ=>True):=
 bp (λd:gR.B=>ws (24-d.1)) (λd hd=>by
  have hw:wI (d.1+1)=d.1+1:=aY;unfold BW;simp only[bM];simp only[nf,uF,hw];repeat' (first|exact True.intro|omega|(intro _)|(apply And.intro))) (λd hd=>by omega)
theorem apu:∀(d:gT.B) (hd:0<=d.1/\d.1<=276),Ok (BZ d) (λx:rb=>True):=
 bp (λd:gT.B=>ws (276-d.1)) (λd hd=>by
  have hw:wI (d.1+1)=d.1+1:=aY;unfold BY;simp only[bM];simp only[nf,uF,hw];repeat' (first|exact True.intro|omega|(intro _)|(apply And.intro))) (λd hd=>by omega)
instance aT6 (x0:Nat->Int)(x1:Nat->Int)(x2:Bool):bn (jL x0 x1 x2):=by
 unfold jL GA;refine aG ?_;refine ay (apt _ (by simp)) λd _ hd=> ?_;refine ay (apu _ (by simp)) λd _ hd=> ?_;simp only[bM]
theorem aHi:∀(d:vI.B) (hd:0<=d.1.2/\d.1.2<=24),Ok (agB d) (λx:Mf=>True):=
 bp (λd:vI.B=>ws (24-d.1.2)) (λd hd=>by
  have hw:wI (d.1.2+1)=d.1.2+1:=aY;unfold agA;simp only[bM];simp only[nf,uF,hw];repeat' (first|exact True.intro|omega|(intro _)|(apply And.intro))) (λd hd=>by omega)
instance a1S (x0:Nat)(x1:Bool)(x2:Nat->Int)(w0:Bool):bn (Wz x0 x1 x2 w0):=by
 unfold Wz asX;refine aG ?_;rw[aN,bJ];refine⟨rfl,?_⟩;refine ay (aHi _ (by simp)) λd _ hd=> ?_;simp only[bM]
theorem aRz:∀j:Nat,j<24->0<=wI (t7 (wI ((j:Int)*wI ((j:Int)-1))) 2)/\wI (t7 (wI ((j:Int)*wI ((j:Int)-1))) 2)+(j:Int)<=276+(if j=0 then 1 else 0):=by decide
theorem aOB {i j:Int}{d:UW}(h:kC i j=some d)(ok:d.2=true):0<=d.1/\d.1<276:=by
 simp only[kC,GD,cg,bS] at h;by_cases h0:0<=i
 .by_cases h1:i<j
  .simp only[Gp,h0,h1,I0,bz,je] at h;subst h;have h2:j<24:=cQ ok;obtain⟨n,rfl⟩:=Int.eq_ofNat_of_zero_le (by omega:0<=j);obtain⟨k1,k2⟩:=aRz n (by omega);rw[if_neg (by omega)] at k2;generalize wI (t7 (wI ((n:Int)*wI ((n:Int)-1))) 2)=c at*
   show 0<=wI (c+i)/\wI (c+i)<276;rw[eF (by omega) (by omega)];omega
  .simp only[Gp,h0,h1,I0,JQ,bz,bH,je] at h;subst h;cases ok
 .simp only[Gp,h0,JQ,bH,je] at h;subst h;cases ok
instance aZR (x0:Int)(x1:Int):bn (kC x0 x1):=by
 unfold kC GD;exact aG (by simp only[bM])
instance a3C (x0:Nat->Int)(x1:Nat->Int)(x2:Int)(x3:Int):bn (Fl x0 x1 x2 x3):=by
 have key:∀d,kC x2 x3=some d->((!d.2)=false->bb d.1 276=true/\wd (0+ws d.1*1+1) 276=true):=λd h k=>by
  have:=aOB h (by simpa using k);simp only[bk,bY];omega
 unfold Fl au8;refine aG ?_;simp only[bM,nf];repeat' (first|(apply And.intro)|(intro _ h k;exact⟨λ_=>(key _ h k).2,(key _ h k).1⟩)|(intro _ h k;exact key _ h k)|(intro _))
instance a1T (x0:Nat->Int)(x1:Nat->Int)(x2:Int)(x3:Int)(x4:Int):bn (zM x0 x1 x2 x3 x4):=by
 unfold zM agF;refine aG ?_;simp only[bM,nf];intro d h k;have:=aOB h k;simp only[bk,bY,cx];omega
theorem atQ:∀(d:iV.B) (hd:0<=d.1/\d.1<=24),Ok (EF d) (λx:tZ=>True):=
 bp (λd:iV.B=>ws (24-d.1)) (λd hd=>by
  have hw:wI (d.1+1)=d.1+1:=aY;unfold EE;simp only[bM];simp only[nf,uF,hw];repeat' (first|exact True.intro|omega|(intro _)|(apply And.intro))) (λd hd=>by omega)
instance aUL:bn (ou):=by
 unfold ou Jg;refine aG ?_;refine ay (atQ _ (by simp)) λd _ hd=> ?_;simp only[bM]
theorem aCw:∀(d:p9.B) (hd:0<=d.1/\d.1<=3),Ok (WD d) (λx:Fo=>True):=
 bp (λd:p9.B=>ws (3-d.1)) (λd hd=>by
  have hw:wI (d.1+1)=d.1+1:=aY;unfold WC;try dsimp only
  by_cases hc:d.1<3
  case neg=>simp only[hc,JQ,aK,av,mZ,Og,BJ,xE,Ed]
  have h1:wI (3*d.1)=3*d.1:=eF;have h2:wI (3*d.1+3)=3*d.1+3:=eF;have h3:ws (3*d.1+3)-ws (3*d.1)=3:=by omega
  simp only[h1,h2,h3];simp only[bM];simp only[nf,uF,hw];repeat' (first|exact True.intro|omega|(intro _)|(apply And.intro))) (λd hd=>by omega)
instance aZS (x0:Nat->Int)(x1:Int)(x2:Int)(x3:Int)(x4:Bool):bn (pK x0 x1 x2 x3 x4):=by
 unfold pK agG;refine aG ?_;refine ay (aCw _ (by simp)) λd _ hd=> ?_;simp only[bM]
theorem aFZ:∀(d:sU.B) (hd:0<=d.1/\d.1<=3),Ok (ab9 d) (λx:Iq=>True):=
 bp (λd:sU.B=>ws (3-d.1)) (λd hd=>by
  have hw:wI (d.1+1)=d.1+1:=aY;unfold ab8;try dsimp only
  by_cases hc:d.1<3
  case neg=>simp only[hc,JQ,aK,av,mZ,Og,BJ,xE,Ed]
  have h1:wI (6+d.1)=6+d.1:=eF;have h2:wI (3+d.1)=3+d.1:=eF;simp only[h1,h2];simp only[bM];simp only[nf,uF,hw];repeat' (first|exact True.intro|omega|(intro _)|(apply And.intro))) (λd hd=>by omega)
instance a1f (x0:Nat->Int)(x1:Int)(x2:Int)(x3:Int)(x4:Bool):bn (yI x0 x1 x2 x3 x4):=by
 unfold yI alY;refine aG ?_;refine ay (aFZ _ (by simp)) λd _ hd=> ?_;simp only[bM]
instance aZT (x0:Int)(x1:Int)(x2:Bool)(x3:Bool):bn (Mh x0 x1 x2 x3):=by
 unfold Mh agK;exact aG (by simp only[bM])
instance aZU (x0:Int)(x1:Bool)(x2:Bool)(x3:Bool)(x4:Bool)(x5:Bool)(x6:Bool)(x7:Bool)(x8:Bool)(x9:Int)(gA:Int)(fX:Int):bn (B3 x0 x1 x2 x3 x4 x5 x6 x7 x8 x9 gA fX):=by
 unfold B3 UZ;exact aG (by simp only[bM])
instance aYp (x0:Int):bn (AT x0):=by
 unfold AT Fs;exact aG (by simp only[bM])
theorem aF0 {x d:Int}(h:AT x=some d):0<=d/\d<6:=by
 have k:PQ (Fs x) (λd=>0<=d/\d<6):=by
  simp only[Fs,aK,av];refine⟨λ_=>by decide,λ_=>⟨λ_=>by decide,λ_=>by decide⟩⟩
 exact Ok.post k h
theorem awL:∀(d:lJ.B) (hd:0<=d.1.2/\d.1.2<=4),Ok (ON d) (λx:v7=>True):=
 bp (λd:lJ.B=>ws (4-d.1.2)) (λd hd=>by
  have hw:wI (d.1.2+1)=d.1.2+1:=aY;unfold GG;simp only[bM];simp only[nf,uF,hw];repeat' (first|exact True.intro|omega|(intro _ h;have:=aF0 h;revert this;clear h;intro this)|(intro _)|(apply And.intro))) (λd hd=>by omega)
instance aYq (x0:Int)(x1:Bool)(x2:Bool)(x3:Bool)(x4:Bool)(x5:Bool)(x6:Bool)(x7:Bool)(x8:Bool)(x9:Int)(gA:Int)(fX:Int):bn (wK x0 x1 x2 x3 x4 x5 x6 x7 x8 x9 gA fX):=by
 unfold wK Mj;refine aG ?_;refine ay (awL _ (by simp)) λd _ hd=> ?_;simp only[bM]
instance aZV (x:B4.B):bn (yJ x):=by
 unfold yJ U0;try dsimp only
 exact aG (by simp only[bM])
theorem aHj (a:Nat)(i:Int):∀(d:vJ.B) (hd:0<=d.1.2.2.2.2.2.2/\d.1.2.2.2.2.2.2<=d.1.2.2.2.2.2.1/\d.1.2.2.2.2.2.1<=1999/\d.1.1.1=a/\d.1.2.1=i/\d.1.2.2.2.1=i/\d.1.2.2.2.2.1.1=a/\d.1.2.2.2.2.2.1=(a:Int)/\(d.1.2.2.1:Int)<=d.1.2.2.2.2.2.2/\0<=i/\i<3),Ok (agO d) (λx:Mn=>x.1.1.1=a/\x.1.2.1=i/\x.1.2.2.2.1=i/\x.1.2.2.1<=a):=
 bp (λd:vJ.B=>ws (d.1.2.2.2.2.2.1-d.1.2.2.2.2.2.2)) (λd hd=>by
  have hw:wI (d.1.2.2.2.2.2.2+1)=d.1.2.2.2.2.2.2+1:=aY;unfold agN;simp only[bM];simp only[nf,uF,hw];repeat' (first|exact True.intro|omega|(intro _)|(apply And.intro))) (λd hd=>by omega)
theorem aHk:∀(d:vK.B) (hd:0<=d.1.2/\d.1.2<=3/\d.1.1.1<=1900),Ok (agQ d) (λx:Mp=>True):=
 bp (λd:vK.B=>ws (3-d.1.2)) (λd hd=>by
  unfold agP;try dsimp only
  rw[aK];refine⟨λh=> ?_,λ_=>by simp only[av,mZ]⟩;have h:=cQ h;rw[bJ,bJ,aN];refine⟨rfl,rfl,ay (aHj d.1.1.1 d.1.2 _ ?_) λx _ hx=> ?_⟩
  .dsimp only;simp only[dO,Av,BJ];omega
  obtain⟨a1,a2,a3,a4⟩:=hx;rw[aN,bJ];have hw:wI (d.1.2+1)=d.1.2+1:=aY;have:=aLg x.1.2.2.1 (by omega);simp only[bM];simp only[nf,pn,uF,hw,a1,a2,a3];repeat' (first|exact True.intro|omega|(intro _)|(apply And.intro))) (λd hd=>by omega)
theorem ahY (x0:Nat)(x1:Bool)(x2:Nat->Int)(x3:Nat->Int)(x4:Nat->Int)(w0:Bool)(h:x0<=1900):bn (lD x0 x1 x2 x3 x4 w0):=by
 unfold lD as2;refine aG ?_;rw[aN,bJ];refine⟨rfl,?_⟩;refine ay (aHk _ (by dsimp only;omega)) λd _ hd=> ?_;simp only[bM]
instance a3D (x1:Bool)(x2 x3 x4:Nat->Int)(w0:Bool):bn (lD 2 x1 x2 x3 x4 w0):=ahY _ _ _ _ _ _ (by omega)
instance a3E (x1:Bool)(x2 x3 x4:Nat->Int)(w0:Bool):bn (lD 3 x1 x2 x3 x4 w0):=ahY _ _ _ _ _ _ (by omega)
theorem aCx (i:Int):∀(d:qc.B) (hd:0<=d.1.2.2/\d.1.2.2<=4/\d.1.2.1=i),Ok (WN d) (λx:Fu=>x.1.2.1=i):=
 bp (λd:qc.B=>ws (4-d.1.2.2)) (λd hd=>by
  have hw:wI (d.1.2.2+1)=d.1.2.2+1:=aY;unfold WM;simp only[bM];simp only[nf,pn,uF,hw];repeat' (first|exact True.intro|omega|(intro _)|(apply And.intro))) (λd hd=>by omega)
theorem aCy:∀(d:qd.B) (hd:0<=d.1/\d.1<=2),Ok (WQ d) (λx:Fv=>True):=
 bp (λd:qd.B=>ws (2-d.1)) (λd hd=>by
  unfold WO;try dsimp only
  rw[aK];refine⟨λh=> ?_,λ_=>by simp only[av,mZ]⟩;have h:=cQ h;rw[bE];intro d1 _;refine ay (aCx d.1 _ (by simp)) λx _ hx=> ?_;have hw:wI (d.1+1)=d.1+1:=aY;simp only[av,qV,hx,hw];omega) (λd hd=>by omega)
instance aZW (x0:Int)(x1:Int)(x2:Int)(x3:Int)(x4:Bool):bn (dI x0 x1 x2 x3 x4):=by
 unfold dI agT;refine aG ?_;rw[bE];intro d _;rw[aK];refine⟨λ_=>by simp only[bM],λ_=>ay (aCy _ (by simp)) λd _ hd=> ?_⟩;simp only[av]
theorem apv (a b:Int):∀(d:gU.B) (hd:0<=d.1.2.2.2/\d.1.2.2.2<=d.1.2.2.1/\d.1.2.2.1<=1999/\d.1.2.2.1<=24/\d.1.1=a/\d.1.2.1=b),Ok (B7 d) (λx:re=>x.1.1=a/\x.1.2.1=b):=
 bp (λd:gU.B=>ws (d.1.2.2.1-d.1.2.2.2)) (λd hd=>by
  have hw:wI (d.1.2.2.2+1)=d.1.2.2.2+1:=aY;unfold B6;simp only[bM];simp only[nf,pn,uF,hw];repeat' (first|exact True.intro|omega|(intro _)|(apply And.intro))) (λd hd=>by omega)
theorem apw (a b:Int):∀(d:gV.B) (hd:0<=d.1.2.2/\d.1.2.2<=24/\d.1.1=a/\d.1.2.1=b/\0<=a/\a<24),Ok (B9 d) (λx:rf=>x.1.2.1=b):=
 bp (λd:gV.B=>ws (24-d.1.2.2)) (λd hd=>by
  have hw:wI (d.1.2.2+1)=d.1.2.2+1:=aY;unfold B8;simp only[bM];simp only[nf,pn,uF,hw];repeat' (first|exact True.intro|omega|(intro _)|(apply And.intro))) (λd hd=>by omega)
theorem apx:∀(d:gW.B) (hd:0<=d.1/\d.1<=24),Ok (Cb d) (λx:ri=>True):=
 bp (λd:gW.B=>ws (24-d.1)) (λd hd=>by
  have hw:wI (d.1+1)=d.1+1:=aY;unfold Ca;have h1:wI (24+d.1)=24+d.1:=eF;simp only[h1];simp only[bM];simp only[nf,pn,uF,hw];repeat' (first|exact True.intro|omega|(intro _)|(apply And.intro))) (λd hd=>by omega)
theorem apy:∀(d:gX.B) (hd:0<=d.1/\d.1<=24),Ok (Cd d) (λx:rj=>True):=
 bp (λd:gX.B=>ws (24-d.1)) (λd hd=>by
  unfold Cc;rw[aK];refine⟨λh=> ?_,λ_=>by simp only[av,mZ]⟩;have h:=cQ h;have hw:wI (d.1+1)=d.1+1:=aY;refine ay (apv d.1 d.1 _ (by dsimp only;rw[hw];omega)) λx _ hx=> ?_;refine ay (apw d.1 d.1 _ (by dsimp only;omega)) λx _ hx=> ?_;simp only[av,qV,hx,hw];omega) (λd hd=>by omega)
instance aT7 (x0:Nat->Int)(x1:Nat->Int)(x2:Bool)(x3:Nat->Int):bn (rm x0 x1 x2 x3):=by
 unfold rm GH;refine aG ?_;refine ay (apy _ (by simp)) λd _ hd=> ?_;refine ay (apx _ (by simp)) λd _ hd=> ?_;simp only[bM]
instance aZX (x0:Nat->Int):bn (cC x0):=by
 unfold cC agU;exact aG (by simp only[bM])
instance aUM (x0:Nat->Int)(x1:Int)(x2:Int)(x3:Int)(x4:Int):bn (um x0 x1 x2 x3 x4):=by
 unfold um S7;exact aG (by simp only[bM])
instance aZi (x0:Int)(x1:Int)(x2:Int)(x3:Int)(x4:Int)(x5:Int)(x6:Int)(x7:Int)(x8:Bool):bn (Ir x0 x1 x2 x3 x4 x5 x6 x7 x8):=by
 unfold Ir acf;exact aG (by simp only[bM])
instance aYr (x0:Int)(x1:Bool):bn (Fw x0 x1):=by
 unfold Fw W2;exact aG (by simp only[bM])
instance a1g (x0:Int)(x1:Int)(x2:Int)(x3:Int)(x4:Int)(x5:Int)(x6:Int)(x7:Int)(x8:Bool):bn (mm x0 x1 x2 x3 x4 x5 x6 x7 x8):=by
 unfold mm ami;try dsimp only
 exact aG (by simp only[bM])
theorem aLi:∀(d:yL.B) (hd:0<=d.1/\d.1<=4),Ok (amk d) (λx:Ra=>True):=
 bp (λd:yL.B=>ws (4-d.1)) (λd hd=>by
  have hw:wI (d.1+1)=d.1+1:=aY;unfold amj;simp only[bM];simp only[nf,pn,uF,hw];repeat' (first|exact True.intro|omega|(intro _)|(apply And.intro))) (λd hd=>by omega)
instance a2G (x0:Int)(x1:Int)(x2:Int)(x3:Int)(x4:Bool):bn (kZ x0 x1 x2 x3 x4):=by
 unfold kZ ax4;try dsimp only
 refine aG ?_;refine ay (aLi _ (by simp)) λd _ hd=> ?_;simp only[bM]
instance a2H:bn uo:=by
 have b1:=λx=>pT 0 4 1073741840 x (by omega) (by omega) (by omega)
 have b2:=λx=>pT 4 7 549755813888 x (by omega) (by omega) (by omega)
 have b3:=λx=>pT 7 10 9007199254740992 x (by omega) (by omega) (by omega)
 have b4:=λx=>pT 10 13 134217728 x (by omega) (by omega) (by omega)
 have b5:=λx=>pT 13 16 1073741824 x (by omega) (by omega) (by omega)
 have b6:=λx=>pT 16 22 2147483648 x (by omega) (by omega) (by omega)
 have b7:=λx=>pT 22 24 137438953472 x (by omega) (by omega) (by omega)
 unfold uo Ta;exact aG (by simp only[bM])
theorem awM:∀(d:nC.B) (hd:0<=d.1/\d.1<=24),Ok (OU d) (λx:AU=>True):=
 bp (λd:nC.B=>ws (24-d.1)) (λd hd=>by
  have hw:wI (d.1+1)=d.1+1:=aY;unfold OT;simp only[bM];simp only[nf,pn,uF,hw];repeat' (first|exact True.intro|omega|(intro _)|(apply And.intro))) (λd hd=>by omega)
instance aYs (x0:Nat->Int)(x1:Bool):bn (wL x0 x1):=by
 unfold wL Xa;refine aG ?_;rw[bE];intro d _;refine ay (awM _ (by simp)) λd _ hd=> ?_;simp only[av]
theorem aZY {x:Int}{y:adI}(h:yd x=some y)(k:(y:Int)<=1073741840): -1073741840<=x/\x<=1073741840:=by
 have e:PQ (DV x) (λy:adI=>(y:Int)<=1073741840-> -1073741840<=x/\x<=1073741840):=by
  by_cases c:x<0/\ -1152921504606846976<x
  .have w:wI (0-x)=0-x:=eF;simp only[DV,aK,av,Gp,lC,aa8,w];exact⟨λ_=>(show(1152921504606846976:Int)<=1073741840-> -1073741840<=x/\x<=1073741840 by omega),λ_=>⟨λ_=>(show(1152921504606846976:Int)<=1073741840-> -1073741840<=x/\x<=1073741840 by omega),λ_=>⟨λ_=>(show(0-x:Int)<=1073741840-> -1073741840<=x/\x<=1073741840 by omega),λ_=>(show x<=1073741840-> -1073741840<=x/\x<=1073741840 by omega)⟩⟩⟩
  .simp only[DV,aK,av,Gp,lC,aa8];exact⟨λ_=>(show(1152921504606846976:Int)<=1073741840-> -1073741840<=x/\x<=1073741840 by omega),λ_=>⟨λ_=>(show(1152921504606846976:Int)<=1073741840-> -1073741840<=x/\x<=1073741840 by omega),λ_=>⟨λ_=>by omega,λ_=>(show x<=1073741840-> -1073741840<=x/\x<=1073741840 by omega)⟩⟩⟩
 exact Ok.post e h k
theorem apz (a b:Int):∀(d:gY.B) (hd:0<=d.1.2.2/\d.1.2.2<=24/\d.1.1=a/\d.1.2.1=b/\0<=a/\a<24),Ok (Cf d) (λx:rq=>x.1.2.1=b):=
 bp (λd:gY.B=>ws (24-d.1.2.2)) (λd hd=>by
  have hw:wI (d.1.2.2+1)=d.1.2.2+1:=aY;unfold Ce;simp only[bM];simp only[nf,pn,uF,hw];repeat' (first|exact True.intro|omega|(intro _)|(apply And.intro))) (λd hd=>by omega)
theorem apA (a:Int):∀(d:gZ.B) (hd:0<=d.1.2/\d.1.2<=48/\d.1.1=a/\0<=a/\a<24),Ok (Ci d) (λx:rr=>x.1.1=a):=
 bp (λd:gZ.B=>ws (48-d.1.2)) (λd hd=>by
  have hw:wI (d.1.2+1)=d.1.2+1:=aY;unfold Cg;simp only[bM];simp only[nf,pn,uF,hw];repeat' (first|exact True.intro|omega|(intro _)|(apply And.intro))) (λd hd=>by omega)
theorem apB (a b e g h:Int):∀(d:hI.B) (hd:0<=d.1.2.2.2.2.2.2/\d.1.2.2.2.2.2.2<=48/\d.1.1=a/\d.1.2.2.1=b/\0<=a/\a<24/\0<=b/\b<24/\d.1.2.2.2.2.1=g/\d.1.2.2.2.2.2.1=h),Ok (Ck d) (λx:ru=>x.1.1=a/\x.1.2.2.2.2.1=g/\x.1.2.2.2.2.2.1=h):=
 bp (λd:hI.B=>ws (48-d.1.2.2.2.2.2.2)) (λd hd=>by
  have hw:wI (d.1.2.2.2.2.2.2+1)=d.1.2.2.2.2.2.2+1:=aY;unfold Cj;simp only[bM];simp only[nf,pn,uF,hw];repeat' (first|exact True.intro|omega|(intro _)|(apply And.intro))) (λd hd=>by omega)
theorem apC:∀(d:hO.B) (hd:0<=d.1/\d.1<=24),Ok (Cm d) (λx:rv=>True):=
 bp (λd:hO.B=>ws (24-d.1)) (λd hd=>by
  unfold Cl;rw[aK];refine⟨λh=> ?_,λ_=>by simp only[av,mZ]⟩;have h:=cQ h;have hw:wI (d.1+1)=d.1+1:=aY;have h1:wI (24+d.1)=24+d.1:=eF;rw[h1];iterate 2 (rw[bJ];refine⟨by simp only[bk];omega,?_⟩)
  rw[bE];intro d1 _;iterate 4 (rw[bJ];refine⟨by simp only[bk,bY,pw];omega,?_⟩)
  refine ay (apz d.1 d.1 _ (by dsimp only;omega)) λx _ hx=> ?_;simp only[av,qV,hx,hw];omega) (λd hd=>by omega)
theorem apD (a:Int):∀(d:fQ.B) (hd:0<=d.1.2.2.2/\d.1.2.2.2<=d.1.2.2.1/\d.1.1=a/\d.1.2.2.1<=24/\0<=a/\a<24),Ok (Co d) (λx:ry=>x.1.1=a):=
 bp (λd:fQ.B=>ws (d.1.2.2.1-d.1.2.2.2)) (λd hd=>by
  unfold Cn;try dsimp only
  rw[aK];refine⟨λh=> ?_,λ_=>by simp only[av,mZ];exact hd.2.2.1⟩;have h:=cQ h;have hw:wI (d.1.2.2.2+1)=d.1.2.2.2+1:=aY;rw[bJ];refine⟨by simp only[bk];omega,?_⟩;rw[bE];intro d1 _;rw[bE];intro d2 _;rw[bE];intro d3 _;refine ay (apB d.1.1 d.1.2.2.2 d.1.1 d.1.2.2.1 d.1.2.2.2 _ (by dsimp only;omega)) λx _ hx=> ?_;obtain⟨a1,a2,a3⟩:=hx;simp only[av,qV,a1,a2,a3,hw];omega) (λd hd=>by omega)
theorem apE:∀(d:hX.B) (hd: -1<=d.1/\d.1<=23),Ok (Cq d) (λx:rz=>True):=
 bp (λd:hX.B=>ws (d.1+1)) (λd hd=>by
  unfold Cp;try dsimp only
  rw[aK];refine⟨λh=> ?_,λ_=>by simp only[av,mZ]⟩;have h:=cQ h;have hw:wI (d.1-1)=d.1-1:=eF;refine ay (apA d.1 _ (by dsimp only;omega)) λx _ hx=> ?_;rw[bJ];refine⟨by simp only[bk,hx];omega,?_⟩;rw[bE];intro d1 _;rw[bE];intro d2 _;rw[bJ];refine⟨by simp only[bk,hx];omega,?_⟩;rw[bJ];refine⟨by simp only[bY,pw,hx];omega,?_⟩;refine ay (apD d.1 _ (by dsimp only;omega)) λx _ hx=> ?_;simp only[av,qV,hx,hw];omega) (λd hd=>by omega)
instance aT8 (x0:Nat->Int)(x1:Nat->Int)(x2:Nat->Int)(x3:Nat->Int)(x4:Bool):bn (lk x0 x1 x2 x3 x4):=by
 unfold lk GL;refine aG ?_;rw[bE];intro d _;refine ay (apC _ (by simp)) λd _ hd=> ?_;rw[bE];intro d1 _;refine ay (apE _ (by simp)) λd _ hd=> ?_;simp only[av]
instance a1h (x0:Int):bn (yM x0):=by
 unfold yM Rc;exact aG (by simp only[bM])
theorem aLj (x:Int):yM x=some (decide (0<=x)&&decide (x<24)):=by
 simp only[yM,Rc,bS,cg];by_cases h0:0<=x<;>simp[h0]
instance aSW (x0:Int)(x1:Bool):bn (pM x0 x1):=by
 unfold pM EG;exact aG (by simp only[bM])
theorem awN:∀(d:jV.B) (hd:0<=d.1.2.2.2/\d.1.2.2.2<=d.1.2.2.1/\d.1.2.2.1<=1999/\d.1.2.2.1=((d.1.2.1.1:Nat):Int)),Ok (GN d) (λx:we=>True):=
 bp (λd:jV.B=>ws (d.1.2.2.1-d.1.2.2.2)) (λd hd=>by
  have hw:wI (d.1.2.2.2+1)=d.1.2.2.2+1:=aY;unfold GM;simp only[bM,aLj,bT];simp only[nf,pn,uF,hw];repeat' (first|exact True.intro|omega|(intro _)|(apply And.intro))) (λd hd=>by omega)
theorem NG (x0:Nat->Int)(x1:Nat->Int)(x2:Int)(x3:Nat)(x4:Bool)(x5:Nat->Int)(w0:Bool)(h:x3<=1999):bn (dr x0 x1 x2 x3 x4 x5 w0):=by
 unfold dr Mz;refine aG ?_;rw[bE];intro d1 _;rw[aN,bJ];refine⟨rfl,?_⟩;refine ay (awN _ (hdN x3 h)) λd _ hd=> ?_;rw[bE];intro d2 _;simp only[av]
def Bl (x0 x1 x2 x3:Int)(j:Nat):Int:=if j=0 then x0 else if j=1 then x1 else if j=2 then x2 else x3
def sqW (f g:Nat->Int)(j:Nat)(x:Int):Prop:=(-1073741840<=x/\x<=1073741840)/\okW (f j) (g j)/\vW (f j) (g j)=x*x
theorem ae8 {x:Int}(h: -1073741840<=x/\x<=1073741840):0<=x*x/\x*x<=1152921538966585600:=by
 have key:∀u:Int,0<=u->u<=1073741840->0<=u*u/\u*u<=1152921538966585600:=λu u0 u1=>by
  refine⟨JO u0 u0,?_⟩;have:=Oe u1 u1 u0 (by omega);omega
 rcases axl 0 x with hx|hx
 .exact key x hx h.2
 .have:=key (-x) (by omega) (by omega);rwa [Int.neg_mul_neg] at this
theorem ahZ {x:Int}{f g:Nat->Int}{n:Nat}{A:Type}{δ:Type}{Q:δ->Prop}{no1:Pg δ}{k:ale->Pg δ}
  (h1:(x< -1073741840∨1073741840<x)->PQ no1 Q)(h2:(-1073741840<=x/\x<=1073741840)->∀h l,fP x x=some (h,l)->okW h l->vW h l=x*x->PQ (k (h,l)) Q):
  PQ (opt (yd x) λaj=>ae (decide (aj>1073741840)) no1 (opt (fP x x) k)) Q:=by
 rw[bE];intro d hd;rw[aK];refine⟨λh=> ?_,λh=> ?_⟩
 .refine h1 ?_;have h:=cQ h
  have:¬(-1073741840<=x/\x<=1073741840):=λc=>by
   have e:PQ (DV x) (λy:adI=>(y:Int)<=1073741840):=by
    by_cases c':x<0
    .have w:wI (0-x)=0-x:=eF;simp only[DV,aK,av,Gp,lC,aa8,w];exact⟨λ_=>by omega,λ_=>⟨λ_=>by omega,λ_=>⟨λ_=>(show(0-x:Int)<=1073741840 by omega),λ_=>by omega⟩⟩⟩
    .simp only[DV,aK,av,Gp,lC,aa8];exact⟨λ_=>by omega,λ_=>⟨λ_=>by omega,λ_=>⟨λ_=>by omega,λ_=>(show x<=1073741840 by omega)⟩⟩⟩
   have h3:(d:Int)<=1073741840:=Ok.post e hd;exact absurd (show(1073741840:Int)<d from h) (Int.not_lt.mpr h3)
  omega
 .have h:=kO h;have h':¬((1073741840:Int)<d):=h;have hx:=aZY hd (Int.not_lt.mp h');obtain⟨a,b,e,o,v⟩:=D8 x x (by omega) (by omega) (by omega) (by omega);rw[e,bT];exact h2 hx a b e o v
theorem aRA (x0 x1 x2 x3:Int)(d:m7.B)(hd:∃n:Nat,n<=4/\d.1.1=n/\d.1.2.2=(n:Int)/\d.1.2.1=(x0,x1,x2,x3)/\∀j,j<n->sqW d.b.1 d.b.2 j (Bl x0 x1 x2 x3 j)):
  Ok (SU d) (λx:yf=>match x with
   |.inl _=>∃j,j<4/\(Bl x0 x1 x2 x3 j< -1073741840∨1073741840<Bl x0 x1 x2 x3 j)
   |.inr e=>e.1.1=4/\∀j,j<4->sqW e.b.1 e.b.2 j (Bl x0 x1 x2 x3 j)):=
 aEA (s:=_) (λd:m7.B=>∃n:Nat,n<=4/\d.1.1=n/\d.1.2.2=(n:Int)/\d.1.2.1=(x0,x1,x2,x3)/\∀j,j<n->sqW d.b.1 d.b.2 j (Bl x0 x1 x2 x3 j)) (λd:m7.B=>4-d.1.1) (λx:yf=>match x with
   |.inl _=>∃j,j<4/\(Bl x0 x1 x2 x3 j< -1073741840∨1073741840<Bl x0 x1 x2 x3 j)
   |.inr e=>e.1.1=4/\∀j,j<4->sqW e.b.1 e.b.2 j (Bl x0 x1 x2 x3 j)) (λd hd=>by
  obtain⟨⟨c,q,i⟩,q',f,g⟩:=d;obtain⟨n,hn,h1,h2,h3,h4⟩:=hd;simp only at h1 h2 h3 h4;subst h1 h3 h2
  have step:∀(h l:Int),c<4->okW h l->(-1073741840<=Bl x0 x1 x2 x3 c/\Bl x0 x1 x2 x3 c<=1073741840)->vW h l=Bl x0 x1 x2 x3 c*Bl x0 x1 x2 x3 c->
    ∀j,j<c+1->sqW (λj=>bif ww j c then h else f j) (λj=>bif ww j c then l else g j) j (Bl x0 x1 x2 x3 j):=λh l hc ho hs hv j hj=>by
   unfold sqW;by_cases e:j=c
   .subst e;simp only[aN,bz];exact⟨hs,ho,hv⟩
   .have e':ww j c=false:=by cases hb:ww j c with|false=>rfl|true=>exact absurd (nQ hb) e
    simp only[e',bH];exact h4 j (by omega)
  have hw:wI ((c:Int)+1)=((c+1:Nat):Int):=by rw[eF (by omega) (by omega)];omega
  have hb:wd ((c+1)*16) 140737488355328=true:=by rw[bY];omega
  unfold SS;simp only[hw,hb]
  have fin:∀(h l:Int),c<4->okW h l->(-1073741840<=Bl x0 x1 x2 x3 c/\Bl x0 x1 x2 x3 c<=1073741840)->vW h l=Bl x0 x1 x2 x3 c*Bl x0 x1 x2 x3 c->
    (∃n:Nat,n<=4/\c+1=n/\((c+1:Nat):Int)=(n:Int)/\True/\∀j,j<n->sqW (λj=>bif ww j c then h else f j) (λj=>bif ww j c then l else g j) j (Bl x0 x1 x2 x3 j))/\4-(c+1)<4-c:=λh l hc ho hs hv=>
   ⟨⟨c+1,by omega,rfl,rfl,trivial,step h l hc ho hs hv⟩,by omega⟩
  rcases(by omega:c=0∨c=1∨c=2∨c=3∨c=4) with rfl|rfl|rfl|rfl|rfl
  .rw[show decide (((0:Nat):Int)<4)=true from rfl,show bb ((0:Nat):Int) 4=true from rfl,show(((0:Nat):Int)==3)=false from rfl,show(((0:Nat):Int)==2)=false from rfl,show(((0:Nat):Int)==1)=false from rfl];simp only[aK,Lq,xE,Ed,Of,BJ,Av];refine ahZ (A:=Unit) (n:=0) (f:=f) (g:=g) (λh=> ?_) (λhs h l _ ho hv=> ?_)
   .simp only[av,mZ];exact⟨0,by omega,h⟩
   .rw[bJ];refine⟨rfl,?_⟩;simp only[av,qV];exact fin h l (by omega) ho hs hv
  .rw[show decide (((1:Nat):Int)<4)=true from rfl,show bb ((1:Nat):Int) 4=true from rfl,show(((1:Nat):Int)==3)=false from rfl,show(((1:Nat):Int)==2)=false from rfl,show(((1:Nat):Int)==1)=true from rfl];simp only[aK,Lq,xE,Ed,Of,BJ,Av];refine ahZ (A:=Unit) (n:=0) (f:=f) (g:=g) (λh=> ?_) (λhs h l _ ho hv=> ?_)
   .simp only[av,mZ];exact⟨1,by omega,h⟩
   .rw[bJ];refine⟨rfl,?_⟩;simp only[av,qV];exact fin h l (by omega) ho hs hv
  .rw[show decide (((2:Nat):Int)<4)=true from rfl,show bb ((2:Nat):Int) 4=true from rfl,show(((2:Nat):Int)==3)=false from rfl,show(((2:Nat):Int)==2)=true from rfl];simp only[aK,Lq,xE,Ed,Of,BJ,Av];refine ahZ (A:=Unit) (n:=0) (f:=f) (g:=g) (λh=> ?_) (λhs h l _ ho hv=> ?_)
   .simp only[av,mZ];exact⟨2,by omega,h⟩
   .rw[bJ];refine⟨rfl,?_⟩;simp only[av,qV];exact fin h l (by omega) ho hs hv
  .rw[show decide (((3:Nat):Int)<4)=true from rfl,show bb ((3:Nat):Int) 4=true from rfl,show(((3:Nat):Int)==3)=true from rfl];simp only[aK,Lq,xE,Ed,Of,BJ,Av];refine ahZ (A:=Unit) (n:=0) (f:=f) (g:=g) (λh=> ?_) (λhs h l _ ho hv=> ?_)
   .simp only[av,mZ];exact⟨3,by omega,h⟩
   .rw[bJ];refine⟨rfl,?_⟩;simp only[av,qV];exact fin h l (by omega) ho hs hv
  .rw[show decide (((4:Nat):Int)<4)=false from rfl];simp only[aK,av,xE,Ed,Of,Av,mZ];exact h4) 2000 d hd (by obtain⟨n,hn,h1,_⟩:=hd;omega)
theorem aT9 (n:Nat)(hn:n<=100)(f g:Nat->Int)(w:Bool)(B:Int)(hB:0<=B)(hB2:B<=1329227995784915872903807060280344576)(h:∀j,j<n->okW (f j) (g j)/\ -B<=vW (f j) (g j)/\vW (f j) (g j)<=B):
  ∃a b,lr n f g w=some ((a,b),true)/\okW a b/\vW a b=As (λj=>vW (f j) (g j)) n:=by
 have key:∃x:Ij,Ik (((n,w),wl n,0),(f,g),0,0)=some x/\(match x with
   |.inl _=>False
   |.inr e=>okW e.b.1 e.b.2/\vW e.b.1 e.b.2=As (λj=>vW (f j) (g j)) n):=by
  unfold Ik
  refine ZL (s:=DW KR) (λt d=>∃(i:Nat) (a b:Int),i+t=n/\okW a b/\vW a b=As (λj=>vW (f j) (g j)) i/\d=(((n,w),wl n,wl i),(f,g),a,b)) _ (λt d=> ?_) 2000 n _ (by omega)
   ⟨0,0,0,by omega,⟨by omega,by omega,by omega,by omega⟩,rfl,rfl⟩
  rintro ⟨i,a,b,hi,ho,hv,rfl⟩
  rcases aba t with t0|t0
  .have e:i=n:=by omega
   subst e;simp only[DW,cg,bS,cG,fD,awG (dq i),bH];exact⟨_,rfl,ho,hv⟩
  .obtain⟨o1,b1,b2⟩:=h i (by omega);have bnd:=aou (λj=>vW (f j) (g j)) B hB i (λj hj=>(h j (by omega)).2);obtain⟨a2,b2',q,e,o2,c,v⟩:=ayM a b (f i) (g i) ho o1
   have hmul:(i:Int)*B<=100*1329227995784915872903807060280344576:=by
    have:=Oe (show(i:Int)<=100 by omega) hB2 hB (by omega);exact this
   have hq:q=true:=by rw[c,hv];omega
   subst hq;have v:=v rfl;have qq:ws (wl i)=i:=rfl;simp only[DW,cg,bS,cG,fD,wI,awF hi t0,awH (show i<n by omega),bz,qq,bL,e,JP,bH,awI (show i<9000000000000000000 by omega)];exact⟨_,rfl,t-1,by omega,i+1,a2,b2',by omega,o2,by rw[v,hv];rfl,rfl⟩
 obtain⟨x,hx,hp⟩:=key;simp only[lr,ZT,cg,bS,cG,fD,eL];rw[aN,bz,hx,bL];cases x with
 |inl e=>exact hp.elim
 |inr e=>exact⟨e.b.1,e.b.2,rfl,hp.1,hp.2⟩
theorem aYt (x0 x1 x2 x3:Int):Ok (DY x0 x1 x2 x3) (λb:Bool=>b=true↔((∀j,j<4-> -1073741840<=Bl x0 x1 x2 x3 j/\Bl x0 x1 x2 x3 j<=1073741840)/\ -4294967296<=x0*x0+x1*x1+x2*x2+x3*x3-1152921504606846976/\x0*x0+x1*x1+x2*x2+x3*x3-1152921504606846976<=4294967296)):=by
 unfold DY ab0;show PQ _ _;rw[bJ];refine⟨rfl,ay (aRA x0 x1 x2 x3 _ ⟨0,by omega,rfl,rfl,rfl,λj hj=>absurd hj (by omega)⟩) λx _ hx=> ?_⟩;rw[qy];constructor
 .rintro a rfl
  rw[av];obtain⟨j,hj,hs⟩:=hx;exact⟨λh=>(by cases h),λh=>by have:=h.1 j hj;omega⟩
 .rintro e rfl
  obtain⟨h1,h2⟩:=hx;rw[aN,bJ];refine⟨rfl,?_⟩;have sm:∀j,j<4-> -1073741840<=Bl x0 x1 x2 x3 j/\Bl x0 x1 x2 x3 j<=1073741840:=λj hj=>(h2 j hj).1
  obtain⟨a,b,ea,oa,va⟩:=aT9 4 (by omega) e.b.1 e.b.2 true 1152921538966585600 (by omega) (by omega) (λj hj=>by
   obtain⟨s1,s2,s3⟩:=h2 j hj;have:=ae8 s1;exact⟨s2,by rw[s3];omega,by rw[s3];omega⟩)
  rw[h1,ea,bT];have s0:=ae8 (sm 0 (by omega));have s1:=ae8 (sm 1 (by omega));have s2:=ae8 (sm 2 (by omega));have s3:=ae8 (sm 3 (by omega))
  have vs:vW a b=x0*x0+x1*x1+x2*x2+x3*x3:=by
   rw[va];simp only[As,(h2 0 (by omega)).2.2,(h2 1 (by omega)).2.2,(h2 2 (by omega)).2.2,(h2 3 (by omega)).2.2];simp only[Bl,me,if_neg (show ¬(1:Nat)=0 by omega),if_neg (show ¬(2:Nat)=0 by omega),if_neg (show ¬(2:Nat)=1 by omega),if_neg (show ¬(3:Nat)=0 by omega),if_neg (show ¬(3:Nat)=1 by omega),if_neg (show ¬(3:Nat)=2 by omega)];omega
  have t0:Bl x0 x1 x2 x3 0=x0:=rfl;have t1:Bl x0 x1 x2 x3 1=x1:=rfl;have t2:Bl x0 x1 x2 x3 2=x2:=rfl;have t3:Bl x0 x1 x2 x3 3=x3:=rfl;rw[t0] at s0;rw[t1] at s1;rw[t2] at s2;rw[t3] at s3;generalize hS:x0*x0+x1*x1+x2*x2+x3*x3=S at*
  have r:=wide_round a b 0 (by omega) oa;rw[aIM,vs,show wl 0=0 from rfl,if_pos (by omega)] at r;rw[r,bT];have hw:wI (S-1152921504606846976)=S-1152921504606846976:=eF;simp only[hw,aK,av,Of,Lq,Ed,BJ,lC,aa8,Gp];exact⟨λk=>⟨λm=>⟨sm,k,m⟩,λc=>c.2.2⟩,λk=>⟨λh=>(by cases h),λc=>absurd c.2.1 k⟩⟩
instance a4p (x0 x1 x2 x3:Int):bn (DY x0 x1 x2 x3):=(aYt x0 x1 x2 x3).tot
instance aZj (x0:Nat->Int)(x1:Bool):bn (cz x0 x1):=by
 unfold cz acg;exact aG (by simp only[bM])
instance aUa (x0:Int)(x1:Bool):bn (lg x0 x1):=by
 unfold lg OV;exact aG (by simp only[bM])
instance a1U (x0:Int)(x1:Int)(x2:Int)(x3:Bool):bn (Xe x0 x1 x2 x3):=by
 unfold Xe as4;exact aG (by simp only[bM])
instance aYu (x0:Nat->Int)(x1:Int)(x2:Int)(x3:Int)(x4:Int)(x5:Int)(x6:Int)(x7:Int)(x8:Int)(x9:Bool):bn (wN x0 x1 x2 x3 x4 x5 x6 x7 x8 x9):=by
 unfold wN Xg;exact aG (by simp only[bM])
instance aZk (x0:Nat->Int)(x1:Int)(x2:Int)(x3:Int)(x4:Int)(x5:Int)(x6:Int)(x7:Int)(x8:Int)(x9:Bool):bn (vN x0 x1 x2 x3 x4 x5 x6 x7 x8 x9):=by
 unfold vN aci;try dsimp only
 exact aG (by simp only[bM])
theorem aF1:∀(d:sV.B) (hd:0<=d.1.2/\d.1.2<=3),Ok (ack d) (λx:Is=>True):=
 bp (λd:sV.B=>ws (3-d.1.2)) (λd hd=>by
  have hw:wI (d.1.2+1)=d.1.2+1:=aY;unfold acj;simp only[bM];simp only[nf,uF,hw];repeat' (first|exact True.intro|omega|(intro _)|(apply And.intro))) (λd hd=>by omega)
instance a1i (x0:Int)(x1:Int)(x2:Int)(x3:Bool):bn (K0 x0 x1 x2 x3):=by
 unfold K0 amu;refine aG ?_;rw[bE];intro d _;rw[aK];refine⟨λ_=>by simp only[bM],λ_=> ?_⟩;rw[bE];intro d1 _;refine ay (aF1 _ (by simp)) λd _ hd=> ?_;simp only[bM]
theorem aCz:∀(d:qf.B) (hd:0<=d.1.2/\d.1.2<=24),Ok (Xx d) (λx:FA=>True):=
 bp (λd:qf.B=>ws (24-d.1.2)) (λd hd=>by
  have hw:wI (d.1.2+1)=d.1.2+1:=aY;unfold Xw;simp only[bM];simp only[nf,uF,hw];repeat' (first|exact True.intro|omega|(intro _)|(apply And.intro))) (λd hd=>by omega)
instance aZZ (x0:Nat->Int)(x1:Int)(x2:Bool):bn (MB x0 x1 x2):=by
 unfold MB agZ;refine aG ?_;rw[bE];intro d1 _;refine ay (aCz _ (by simp)) λd _ hd=> ?_;simp only[av]
theorem atS:∀(d:mn.B) (hd:0<=d.1.2/\d.1.2<=24),Ok (MD d) (λx:yN=>True):=
 bp (λd:mn.B=>ws (24-d.1.2)) (λd hd=>by
  have hw:wI (d.1.2+1)=d.1.2+1:=aY;unfold MC;simp only[bM];simp only[nf,uF,hw];repeat' (first|exact True.intro|omega|(intro _)|(apply And.intro))) (λd hd=>by omega)
theorem atT (a b:Int):∀(d:mo.B) (hd:0<=d.1.2.2.2.2/\d.1.2.2.2.2<=d.1.2.2.2.1/\d.1.2.2.2.1<=1999/\d.1.1=a/\d.1.2.2.1=b/\(d.1.2.1:Int)=d.1.2.2.2.2/\d.1.2.2.2.1=a+1),Ok (MF d) (λx:yO=>x.1.1=a/\x.1.2.2.1=b/\(x.1.2.1:Int)=a+1):=
 bp (λd:mo.B=>ws (d.1.2.2.2.1-d.1.2.2.2.2)) (λd hd=>by
  have hw:wI (d.1.2.2.2.2+1)=d.1.2.2.2.2+1:=aY;unfold ME;simp only[bM];simp only[nf,uF,hw];repeat' (first|exact True.intro|omega|(intro _)|(apply And.intro))) (λd hd=>by omega)
theorem atU:∀(d:mq.B) (hd:0<=d.1/\d.1<=24),Ok (MH d) (λx:yP=>True):=
 bp (λd:mq.B=>ws (24-d.1)) (λd hd=>by
  unfold MG;try dsimp only
  rw[aK];refine⟨λh=> ?_,λ_=>by simp only[av,mZ]⟩;have h:=cQ h;have hw:wI (d.1+1)=d.1+1:=aY;rw[bJ,hw];refine⟨rfl,ay (atT d.1 d.1 _ (by dsimp only;omega)) λx _ hx=> ?_⟩;obtain⟨a1,a2,a3⟩:=hx;have hn:x.1.2.1=ws (d.1+1):=by omega
  have td:=λa b c=>NF (ws (d.1+1)) (by omega) a b c false true
  simp only[a1,a2,hw,hn];simp only[bM];simp only[nf,uF];repeat' (first|exact True.intro|omega|(intro _)|(apply And.intro))) (λd hd=>by omega)
instance aUN (x0:Nat->Int)(x1:Nat->Int)(x2:Nat->Int)(x3:Int)(x4:Bool):bn (uq x0 x1 x2 x3 x4):=by
 unfold uq Th;try dsimp only
 refine aG ?_;rw[bE];intro d1 _;refine ay (atS _ (by simp)) λd _ hd=> ?_;rw[bE];intro d2 _;refine ay (atU _ (by simp)) λd _ hd=> ?_;simp only[av]
instance aLY (x0:Nat->Int)(x1:Nat->Int)(x2:Nat->Int)(x3:Int)(x4:Bool):bn (qH x0 x1 x2 x3 x4):=by
 unfold qH Eg;exact aG (by simp only[bM])
instance a1j (x0:Int)(x1:Int)(x2:Int)(x3:Int):bn (Re x0 x1 x2 x3):=by
 unfold Re amB;exact aG (by simp only[bM])
theorem aoy (a b:Int):∀(d:j6.B) (hd:0<=d.1.2.2.2.2/\d.1.2.2.2.2<=d.1.2.2.2.1/\d.1.2.2.2.1<=1999/\d.1.1=a/\d.1.2.2.1=b/\d.1.2.2.2.1=a/\0<=a/\a<24),Ok (HD d) (λx:uJ=>x.1.2.2.1=b):=
 bp (λd:j6.B=>ws (d.1.2.2.2.1-d.1.2.2.2.2)) (λd hd=>by
  have hw:wI (d.1.2.2.2.2+1)=d.1.2.2.2.2+1:=aY;unfold HC;simp only[bM];simp only[nf,uF,hw];repeat' (first|exact True.intro|omega|(intro _)|(apply And.intro))) (λd hd=>by omega)
theorem aoz:∀(d:j7.B) (hd:0<=d.1/\d.1<=24),Ok (HF d) (λx:uK=>True):=
 bp (λd:j7.B=>ws (24-d.1)) (λd hd=>by
  have hw:wI (d.1+1)=d.1+1:=aY;unfold HE;simp only[bM];simp only[nf,uF,hw];repeat' (first|exact True.intro|omega|(intro _)|(apply And.intro))) (λd hd=>by omega)
theorem aoA:∀(d:j9.B) (hd:0<=d.1/\d.1<=24),Ok (HH d) (λx:uL=>True):=
 bp (λd:j9.B=>ws (24-d.1)) (λd hd=>by
  unfold HG;try dsimp only
  rw[aK];refine⟨λh=> ?_,λ_=>by simp only[av,mZ]⟩;have h:=cQ h;have hw:wI (d.1+1)=d.1+1:=aY;iterate 4 (rw[bJ];refine⟨by simp only[nf,uF,hw];omega,?_⟩)
  iterate 2 (rw[bE];intro _ _)
  iterate 5 (rw[bJ];refine⟨by simp only[nf,uF,hw];omega,?_⟩)
  rw[bE];intro _ _;iterate 4 (rw[bJ];refine⟨by simp only[nf,uF,hw];omega,?_⟩)
  refine ay (aoy d.1 d.1 _ (by dsimp only;omega)) λx _ hx=> ?_;simp only[av,qV,hx,hw];omega) (λd hd=>by omega)
theorem atV:∀(d:mr.B) (hd:0<=d.1.2/\d.1.2<=24),Ok (MK d) (λx:yT=>True):=
 bp (λd:mr.B=>ws (24-d.1.2)) (λd hd=>by
  have hw:wI (d.1.2+1)=d.1.2+1:=aY;unfold MJ;simp only[bM];simp only[nf,uF,hw];repeat' (first|exact True.intro|omega|(intro _)|(apply And.intro))) (λd hd=>by omega)
instance aUO (x0:Nat->Int)(x1:Int)(x2:Bool):bn (Dx x0 x1 x2):=by
 unfold Dx Tj;refine aG ?_;refine ay (atV _ (by simp)) λd _ hd=> ?_;simp only[bM]
instance aSX (x0:Nat->Int)(x1:Nat->Int)(x2:Nat->Int)(x3:Int)(x4:Bool):bn (yQ x0 x1 x2 x3 x4):=by
 unfold yQ MI;refine aG ?_;rw[bE];intro d1 _;refine ay (aoA _ (by simp)) λd _ hd=> ?_;refine ay (aoz _ (by simp)) λd _ hd=> ?_;simp only[bM]
instance a2I (x0 x1 x2:Int):bn (FB x0 x1 x2):=by
 have h1:=qD x0;have h2:=qD x1;obtain⟨a,b,e,_,_⟩:=D8 (sat x0) (sat x0) (by omega) (by omega) (by omega) (by omega);unfold FB Xy;refine aG ?_;rw[qN,bT,qN,bT,aK];refine⟨λ_=>by rw[av];trivial,λc1=> ?_⟩;rw[aK];refine⟨λ_=>by rw[av];trivial,λc2=> ?_⟩;rw[aK];refine⟨λ_=>by rw[av];trivial,λc3=> ?_⟩;have c1:=kO c1;have c2:=kO c2
 have sq:0<=x2*x2/\x2*x2<=1000000:=by
  refine⟨JO (by omega) (by omega),?_⟩;have:=Oe (show x2<=1000 by omega) (show x2<=1000 by omega) (by omega) (by omega);omega
 have w1:wI (x2*x2)=x2*x2:=eF;have w2:wI (x2*x2*65536)=x2*x2*65536:=eF;obtain⟨a2,b2,e2,_,_⟩:=D8 (x2*x2*65536) (sat x1) (by omega) (by omega) (by omega) (by omega);rw[e,bT,w1,w2,e2,bT];simp only[bM]
theorem aCA (p:Nat×Bool)(a b:Int):∀(d:qg.B) (hd:0<=d.1.2.2.2/\d.1.2.2.2<=24/\d.1.1=p/\d.1.2.1=a/\d.1.2.2.1=b),Ok (XA d) (λx:FD=>x.1.1=p/\x.1.2.1=a/\x.1.2.2.1=b):=
 bp (λd:qg.B=>ws (24-d.1.2.2.2)) (λd hd=>by
  have hw:wI (d.1.2.2.2+1)=d.1.2.2.2+1:=aY;unfold Xz;simp only[bM];simp only[nf,uF,hw];repeat' (first|exact True.intro|exact hd.2.2.1|exact hd.2.2.2.1|exact hd.2.2.2.2|omega|(intro _)|(apply And.intro))) (λd hd=>by omega)
theorem aCB:∀(d:qh.B) (hd:0<=d.1.2.2/\d.1.2.2<=d.1.2.1/\d.1.2.1<=1999/\d.1.2.1=((d.1.1.1:Nat):Int)),Ok (XC d) (λx:FE=>True):=
 bp (λd:qh.B=>ws (d.1.2.1-d.1.2.2)) (λd hd=>by
  unfold XB;try dsimp only
  rw[aK];refine⟨λh=> ?_,λ_=>by simp only[av,mZ]⟩;have h:=cQ h;have hw:wI (d.1.2.2+1)=d.1.2.2+1:=aY;rw[bJ,aN,bJ];refine⟨by simp only[bk];omega,rfl,?_⟩;refine ay (aCA d.1.1 d.1.2.1 d.1.2.2 _ (by simp)) λx _ hx=> ?_;obtain⟨a1,a2,a3⟩:=hx;simp only[bM,a1,a2,a3,hw];omega) (λd hd=>by omega)
theorem aLk (x:ML.B)(h:x.1.2.1<=1999):bn (MM x):=by
 unfold MM ag3;refine aG ?_;rw[aK,aN,bJ];refine⟨λ_=>by simp only[bM],λ_=>⟨rfl,?_⟩⟩;refine ay (aCB _ (hdN x.1.2.1 h)) λd _ hd=> ?_;simp only[av]
instance a1k (x0:Nat->Int)(x1:Nat->Int)(x2:Nat->Int)(x3:Nat->Int)(x4:Int)(x5:Int)(x6:Int)(x7:Bool):bn (Rf x0 x1 x2 x3 x4 x5 x6 x7):=by
 have ta:=λ(d:Nat->Int) a b=>aLk ((d,1,true),a,b) (by show 1<=1999;omega)
 unfold Rf amM;refine aG ?_;simp only[bM]
theorem aF2 (n:Int):∀(d:sW.B) (hd:0<=d.1.2.2.2/\d.1.2.2.2<=d.1.2.2.1/\d.1.2.2.1<=1999/\d.1.2.2.1=((d.1.2.1.1:Nat):Int)/\(d.1.1:Int)=d.1.2.2.2/\d.1.2.2.1=n),Ok (acp d) (λx:It=>(x.1.1:Int)=n):=
 bp (λd:sW.B=>ws (d.1.2.2.1-d.1.2.2.2)) (λd hd=>by
  have hw:wI (d.1.2.2.2+1)=d.1.2.2.2+1:=aY;unfold aco;simp only[bM];simp only[nf,uF,hw];repeat' (first|exact True.intro|omega|(intro _)|(apply And.intro))) (λd hd=>by omega)
theorem aLl (x:Rg.B)(h:x.1.2.2.1<=1999):Ok (Rh x) (λr:aao=>r.1.2.2=x.1.2.2.1):=by
 unfold Rh amN;show PQ _ _;rw[aN,bJ,bJ];refine⟨rfl,rfl,?_⟩;refine ay (aF2 ((x.1.2.2.1:Nat):Int) _ ?_) λd _ hd=> ?_
 .dsimp only;simp only[dO];exact⟨by omega,by omega,by omega,trivial,rfl,trivial⟩
 .rw[av];exact Int.ofNat.inj hd
theorem ayR:∀(d:oU.B) (hd:0<=d.1.2.2.2.2/\d.1.2.2.2.2<=d.1.2.2.2.1/\d.1.2.2.2.1<=1999/\d.1.2.2.2.1=((d.1.2.2.1.1:Nat):Int)),Ok (To d) (λx:Dy=>True):=
 bp (λd:oU.B=>ws (d.1.2.2.2.1-d.1.2.2.2.2)) (λd hd=>by
  have hw:wI (d.1.2.2.2.2+1)=d.1.2.2.2.2+1:=aY;unfold Tn;simp only[bM];simp only[nf,pn,uF,hw];repeat' (first|exact True.intro|omega|(intro _)|(apply And.intro))) (λd hd=>by omega)
theorem ar2 (x0:Nat)(x1:Nat->Bool)(x2:Nat->Int)(x3:Nat->Int)(w0:Bool)(h:x0<=1999):bn (zO x0 x1 x2 x3 w0):=by
 unfold zO acs;refine aG ?_;rw[aN,bJ];refine⟨rfl,?_⟩;refine ay (ayR _ (hdN x0 h)) λd _ hd=> ?_;simp only[bM]
instance aUb:bn eV:=by
 unfold eV O2;exact aG (by simp only[bM])
theorem ayS:∀(d:oV.B) (hd:0<=d.1.2.2.2.2/\d.1.2.2.2.2<=d.1.2.2.2.1/\d.1.2.2.2.1<=1999/\d.1.2.2.2.1=((d.1.2.2.1.1:Nat):Int)/\(d.1.1:Int)<=d.1.2.2.2.2/\(d.1.2.1:Int)<=d.1.2.2.2.2/\d.1.2.2.2.1<=1900),Ok (Ts d) (λx:Dz=>x.1.1<=1900/\x.1.2.1<=1900):=
 bp (λd:oV.B=>ws (d.1.2.2.2.1-d.1.2.2.2.2)) (λd hd=>by
  have hw:wI (d.1.2.2.2.2+1)=d.1.2.2.2.2+1:=aY;unfold Tp;simp only[bM];simp only[nf,pn,uF,hw];repeat' (first|exact True.intro|omega|(intro _)|(apply And.intro))) (λd hd=>by omega)
theorem aHl (x0:Nat)(x1:Bool)(x2:Nat->Int)(x3:Nat->Int)(x4:Nat->Int)(x5:Nat->Int)(x6:Nat->Int)(x7:Nat->Int)(x8:Nat->Int)(x9:Nat->Int)(gA:Nat->Int)(fX:Nat->Int)(w0:Bool)(h:x0<=1900):bn (Iu x0 x1 x2 x3 x4 x5 x6 x7 x8 x9 gA fX w0):=by
 unfold Iu acx;try dsimp only
 refine aG ?_;rw[bE];intro d1 _;rw[aN,bJ,bJ];refine⟨rfl,rfl,?_⟩;refine ay (ayS _ ?_) λd _ hd=> ?_
 .try dsimp only
  simp only[dO];exact⟨by omega,by omega,by omega,trivial,by omega,by omega,by omega⟩
 .have t1:=λa b c e g=>ahY d.1.1 a b c e g hd.1
  have t2:=λa b c e g=>ahY d.1.2.1 a b c e g hd.2
  simp only[bM,aN,Lq,Ed]
instance a2J (x0 x1:Nat->Int)(x2:Int)(x4:Bool)(x5:Nat->Int)(w0:Bool):bn (dr x0 x1 x2 4 x4 x5 w0):=NG _ _ _ _ _ _ _ (by omega)
instance a2K (x0 x1:Nat->Int)(x2:Int)(x4:Bool)(x5:Nat->Int)(w0:Bool):bn (dr x0 x1 x2 3 x4 x5 w0):=NG _ _ _ _ _ _ _ (by omega)
instance a2L (x0 x1:Nat->Int)(x2:Int)(x4:Bool)(x5:Nat->Int)(w0:Bool):bn (dr x0 x1 x2 2 x4 x5 w0):=NG _ _ _ _ _ _ _ (by omega)
instance a2M (x0 x1:Nat->Int)(x2:Int)(x4:Bool)(x5:Nat->Int)(w0:Bool):bn (dr x0 x1 x2 1 x4 x5 w0):=NG _ _ _ _ _ _ _ (by omega)
instance aZ0 (x0:Nat->Int)(x1:Nat->Int)(x2:Nat->Int)(x3:Int)(x4:Int)(x5:Bool):bn (MR x0 x1 x2 x3 x4 x5):=by
 unfold MR ag5;exact aG (by simp only[bM])
theorem awO:∀(d:nD.B) (hd:0<=d.1.2.2.2.2/\d.1.2.2.2.2<=d.1.2.2.2.1/\d.1.2.2.2.1<=1999/\d.1.2.2.2.1=((d.1.2.2.1.1:Nat):Int)/\(d.1.2.1:Int)=d.1.2.2.2.2/\0<=d.1.1/\d.1.1+d.1.2.2.2.1<=24),Ok (O4 d) (λx:AZ=>True):=
 bp (λd:nD.B=>ws (d.1.2.2.2.1-d.1.2.2.2.2)) (λd hd=>by
  have hw:wI (d.1.2.2.2.2+1)=d.1.2.2.2.2+1:=aY;unfold O3;try dsimp only
  have h1:wI (d.1.1+d.1.2.2.2.2)=d.1.1+d.1.2.2.2.2:=eF;simp only[h1];simp only[bM];simp only[nf,pn,uF,hw];repeat' (first|exact True.intro|omega|(intro _)|(apply And.intro))) (λd hd=>by omega)
theorem Y3 (x0:Nat->Int)(x1:Int)(x2:Nat)(x3:Bool)(x4:Nat->Int)(w0:Bool)(h0:0<=x1)(h1:x1+(x2:Int)<=24):bn (kT x0 x1 x2 x3 x4 w0):=by
 unfold kT XG;refine aG ?_;rw[bE];intro d1 _;rw[aN,bJ,bJ];refine⟨rfl,rfl,?_⟩;refine ay (awO _ ?_) λd _ hd=> ?_
 .dsimp only;simp only[dO];exact⟨by omega,by omega,by omega,trivial,rfl,h0,h1⟩
 .simp only[bM]
def ajU (a:Int)(n:Nat)(f:Nat->Int):Nat->Int:=λj=>bif ww j (n+1) then a else bif ww j n then a else f j
theorem sum_add (a b:Int)(n:Nat)(hn:n<=1000)(f g:Nat->Int):nZ a b n n f g=some ((n+2,n+2),ajU a n f,ajU b n g):=by
 have hb:wd ((n+2)*8) 140737488355328=true:=by rw[bY];omega
 simp only[nZ,XM,bS,cg,fD,hb,bz];rfl
theorem aUc (a b:Int)(f g:Nat->Int):nZ a b 0 0 f g=some ((2,2),ajU a 0 f,ajU b 0 g):=sum_add a b 0 (by omega) f g
theorem aUd (a b:Int)(f g:Nat->Int):nZ a b 2 2 f g=some ((4,4),ajU a 2 f,ajU b 2 g):=sum_add a b 2 (by omega) f g
theorem aUe (a b:Int)(f g:Nat->Int):nZ a b 4 4 f g=some ((6,6),ajU a 4 f,ajU b 4 g):=sum_add a b 4 (by omega) f g
theorem aUf (a b:Int)(f g:Nat->Int):nZ a b 6 6 f g=some ((8,8),ajU a 6 f,ajU b 6 g):=sum_add a b 6 (by omega) f g
theorem aUg (a b:Int)(f g:Nat->Int):nZ a b 8 8 f g=some ((10,10),ajU a 8 f,ajU b 8 g):=sum_add a b 8 (by omega) f g
instance a4q (fO:Bool)(f g:Nat->Int)(w w':Bool):bn (bu 30 6 6 fO f g w w'):=NF 6 (by omega) fO f g w w'
instance a4r (fO:Bool)(f g:Nat->Int)(w w':Bool):bn (bu 30 8 8 fO f g w w'):=NF 8 (by omega) fO f g w w'
instance a3F (fO:Bool)(f g:Nat->Int)(w w':Bool):bn (bu 30 10 10 fO f g w w'):=NF 10 (by omega) fO f g w w'
instance aZl (x0:Int)(x1:Int)(x2:Int)(x3:Int)(x4:Int)(x5:Int)(x6:Int)(x7:Bool):bn (zQ x0 x1 x2 x3 x4 x5 x6 x7):=by
 unfold zQ acC;try dsimp only
 exact aG (by simp only[bM,aUc,aUd,aUe,aUf,aUg,bT,aN,Of,Lq,Ed])
instance aZm (x0:Int)(x1:Int)(x2:Int)(x3:Int)(x4:Int)(x5:Int)(x6:Int)(x7:Int)(x8:Int):bn (zR x0 x1 x2 x3 x4 x5 x6 x7 x8):=by
 unfold zR acF;exact aG (by simp only[bM])
instance aZn (x0:Int)(x1:Int)(x2:Int):bn (ia x0 x1 x2):=by
 unfold ia Ix;exact aG (by simp only[bM])
instance aZ1 (x0:Int)(x1:Int)(x2:Int)(x3:Int)(x4:Int)(x5:Int)(x6:Int)(x7:Int)(x8:Int):bn (MV x0 x1 x2 x3 x4 x5 x6 x7 x8):=by
 unfold MV ag7;exact aG (by simp only[bM])
instance aUh (x0:Int):bn (A3 x0):=by
 unfold A3 O6;exact aG (by simp only[bM])
instance aZ2 (x0:Int)(x1:Int)(x2:Int)(x3:Int)(x4:Int)(x5:Int)(x6:Int)(x7:Int)(x8:Int)(x9:Bool):bn (Cs x0 x1 x2 x3 x4 x5 x6 x7 x8 x9):=by
 unfold Cs ahb;exact aG (by simp only[bM])
theorem atW:∀(d:mu.B) (hd:0<=d.1.2.2/\d.1.2.2<=d.1.2.1/\d.1.2.1<=1999/\d.1.2.1=((d.1.1.1:Nat):Int)),Ok (MY d) (λx:yU=>True):=
 bp (λd:mu.B=>ws (d.1.2.1-d.1.2.2)) (λd hd=>by
  have hw:wI (d.1.2.2+1)=d.1.2.2+1:=aY;unfold MX;simp only[bM];simp only[nf,pn,uF,hw];repeat' (first|exact True.intro|omega|(intro _)|(apply And.intro))) (λd hd=>by omega)
theorem aCC (x0:Nat)(x1:Nat->Int)(w0:Bool)(h:x0<=1999):bn (qi x0 x1 w0):=by
 unfold qi Tv;refine aG ?_;rw[aN,bJ];refine⟨rfl,?_⟩;refine ay (atW _ (hdN x0 h)) λd _ hd=> ?_;simp only[bM]
instance a3G (x1:Nat->Int)(w0:Bool):bn (qi 1 x1 w0):=aCC _ _ _ (by omega)
theorem wu (x0:Nat->Int)(x1:Int)(x2:Int)(x3:Int)(x4:Int)(x5:Bool)(h0:0<=x1)(h1:x1<24):bn (eW x0 x1 x2 x3 x4 x5):=by
 have hr:bb x1 24=true:=by simp only[bk];omega
 unfold eW O8;exact aG (by simp only[bM,hr,Lq,Ed])
instance aZ3 (x0:Nat->Int)(x2 x3 x4:Int)(x5:Bool):bn (eW x0 4 x2 x3 x4 x5):=wu _ _ _ _ _ _ (by omega) (by omega)
instance aZ4 (x0:Nat->Int)(x2 x3 x4:Int)(x5:Bool):bn (eW x0 5 x2 x3 x4 x5):=wu _ _ _ _ _ _ (by omega) (by omega)
instance aZ5 (x0:Nat->Int)(x2 x3 x4:Int)(x5:Bool):bn (eW x0 6 x2 x3 x4 x5):=wu _ _ _ _ _ _ (by omega) (by omega)
instance aZ6 (x0:Nat->Int)(x2 x3 x4:Int)(x5:Bool):bn (eW x0 7 x2 x3 x4 x5):=wu _ _ _ _ _ _ (by omega) (by omega)
instance aZ7 (x0:Nat->Int)(x2 x3 x4:Int)(x5:Bool):bn (eW x0 8 x2 x3 x4 x5):=wu _ _ _ _ _ _ (by omega) (by omega)
instance aZ8 (x0:Nat->Int)(x2 x3 x4:Int)(x5:Bool):bn (eW x0 9 x2 x3 x4 x5):=wu _ _ _ _ _ _ (by omega) (by omega)
instance a4s (fO:Bool)(l:Nat->Int)(w:Bool):bn (db 4 fO l w):=aLg 4 (by omega) fO l w
instance a2N (fO:Bool)(f:Nat->Int)(w:Bool):bn (gP 2 fO f w):=aFX 2 (by omega) fO f w
instance aUi (x0:Nat->Int)(x1:Int)(x2:Int)(x3:Int)(x4:Int)(x5:Int)(x6:Int)(x7:Int)(x8:Int)(x9:Int)(gA:Bool):bn (A4 x0 x1 x2 x3 x4 x5 x6 x7 x8 x9 gA):=by
 unfold A4 O';exact aG (by simp only[bM,qF])
instance aSY (x0:Int)(x1:Int)(x2:Int)(x3:Int)(x4:Int)(x5:Int)(x6:Int)(x7:Int)(x8:Bool):bn (lL x0 x1 x2 x3 x4 x5 x6 x7 x8):=by
 unfold lL M1;exact aG (by simp only[bM,qF])
instance aRB (x:wO.B):bn (wP x):=by
 unfold wP J3;exact aG (by simp only[bM,qF])
instance aYv (x:FF.B):bn (FG x):=by
 unfold FG XV;try dsimp only
 exact aG (by simp only[bM,qF])
instance aRC (x0:Int):bn (wQ x0):=by
 unfold wQ J5;exact aG (by simp only[bM,qF])
instance aYw (x0:Int)(x1:Int)(x2:Int)(x3:Int)(x4:Int)(x5:Int)(x6:Int)(x7:Int)(x8:Int)(x9:Int)(gA:Int)(fX:Bool):bn (wR x0 x1 x2 x3 x4 x5 x6 x7 x8 x9 gA fX):=by
 unfold wR X2;exact aG (by simp only[bM,qF])
instance aRD (x0:Int)(x1:Int)(x2:Int)(x3:Int)(x4:Int)(x5:Int)(x6:Int)(x7:Int)(x8:Int)(x9:Bool):bn (oF x0 x1 x2 x3 x4 x5 x6 x7 x8 x9):=by
 unfold oF J8;exact aG (by simp only[bM,qF])
instance aYx (x0:Nat->Int)(x1:Int)(x2:Int)(x3:Int)(x4:Bool):bn (FH x0 x1 x2 x3 x4):=by
 unfold FH X6;exact aG (by simp only[bM,qF])
instance aPb (x0:Int)(x1:Int)(x2:Int)(x3:Int)(x4:Int)(x5:Int)(x6:Int)(x7:Int)(x8:Int)(x9:Bool):bn (nr x0 x1 x2 x3 x4 x5 x6 x7 x8 x9):=by
 unfold nr HM;exact aG (by simp only[bM,qF])
instance aUP (x0:Nat->Int)(x1:Int)(x2:Int)(x3:Int)(x4:Int)(x5:Bool):bn (DA x0 x1 x2 x3 x4 x5):=by
 unfold DA TB;try dsimp only
 exact aG (by simp only[bM,qF])
instance aUQ (x0:Int):bn (DB x0):=by
 unfold DB TE;exact aG (by simp only[bM,qF])
instance a1l (x0:Int)(x1:Int)(x2:Int)(x3:Int)(x4:Int)(x5:Int)(x6:Int)(x7:Int)(x8:Int)(x9:Bool):bn (yW x0 x1 x2 x3 x4 x5 x6 x7 x8 x9):=by
 unfold yW am9;exact aG (by simp only[bM,qF])
instance a1m (x0:Nat->Int)(x1:Int)(x2:Int)(x3:Int)(x4:Int)(x5:Int)(x6:Bool):bn (Rj x0 x1 x2 x3 x4 x5 x6):=by
 unfold Rj ane;try dsimp only
 exact aG (by simp only[bM,qF])
instance aZo (x0:Int)(x1:Int)(x2:Int)(x3:Bool):bn (zU x0 x1 x2 x3):=by
 unfold zU acM;exact aG (by simp only[bM,qF])
instance aYy (x0:Nat->Int)(x1:Int)(x2:Int)(x3:Int)(x4:Int)(x5:Int)(x6:Int)(x7:Int)(x8:Bool):bn (FJ x0 x1 x2 x3 x4 x5 x6 x7 x8):=by
 unfold FJ X8;try dsimp only
 exact aG (by simp only[bM,qF])
instance aZ9 (x0:Int)(x1:Int)(x2:Int)(x3:Int)(x4:Int)(x5:Int)(x6:Int)(x7:Int)(x8:Int)(x9:Bool):bn (M4 x0 x1 x2 x3 x4 x5 x6 x7 x8 x9):=by
 unfold M4 ahf;exact aG (by simp only[bM,qF])
instance aUR (x0:Int):bn (DD x0):=by
 unfold DD TG;exact aG (by simp only[bM,qF])
instance a1n (x0:Int)(x1:Int)(x2:Int)(x3:Int)(x4:Int)(x5:Int)(x6:Int)(x7:Int)(x8:Int)(x9:Bool):bn (FK x0 x1 x2 x3 x4 x5 x6 x7 x8 x9):=by
 unfold FK ano;exact aG (by simp only[bM,qF])
instance aUS (x0:Nat->Int)(x1:Bool):bn (ur x0 x1):=by
 unfold ur TI;exact aG (by simp only[bM,qF])
instance a0a (x0:Int)(x1:Int)(x2:Int)(x3:Nat->Int)(x4:Int)(x5:Int)(x6:Int):bn (Cv x0 x1 x2 x3 x4 x5 x6):=by
 unfold Cv ahi;exact aG (by simp only[bM,qF])
instance aUT (x0:Nat->Int)(x1:Int)(x2:Int)(x3:Int)(x4:Bool):bn (DF x0 x1 x2 x3 x4):=by
 unfold DF TJ;exact aG (by simp only[bM,qF])
instance aUU (x0:Nat->Int)(x1:Int)(x2:Int)(x3:Bool):bn (DG x0 x1 x2 x3):=by
 unfold DG TM;try dsimp only
 exact aG (by simp only[bM,qF])
instance aUj (x0:Int):bn (A5 x0):=by
 unfold A5 Pn;exact aG (by simp only[bM,qF])
instance a0b (x0:Int)(x1:Int)(x2:Int)(x3:Int)(x4:Int)(x5:Int)(x6:Int)(x7:Int)(x8:Int)(x9:Bool):bn (Cw x0 x1 x2 x3 x4 x5 x6 x7 x8 x9):=by
 unfold Cw ahn;exact aG (by simp only[bM,qF])
instance aUk (x0:Nat->Int)(x1:Bool):bn (A6 x0 x1):=by
 unfold A6 Pq;exact aG (by simp only[bM,qF])
instance a0c (x0:Nat->Int)(x1:Int)(x2:Int)(x3:Int)(x4:Int)(x5:Int)(x6:Bool):bn (Cy x0 x1 x2 x3 x4 x5 x6):=by
 unfold Cy U';try dsimp only
 exact aG (by simp only[bM,qF])
instance a0d (x0:Int):bn (pO x0):=by
 unfold pO Vc;exact aG (by simp only[bM,qF])
instance aOC (x0:Int)(x1:Int)(x2:Int)(x3:Bool):bn (mw x0 x1 x2 x3):=by
 unfold mw yX;exact aG (by simp only[bM,qF])
instance aOD (x0:Int)(x1:Int)(x2:Bool):bn (mx x0 x1 x2):=by
 unfold mx yY;exact aG (by simp only[bM,qF])
instance aLZ (x0:Int)(x1:Int)(x2:Int)(x3:Int)(x4:Bool):bn (lE x0 x1 x2 x3 x4):=by
 unfold lE qI;exact aG (by simp only[bM,qF])
instance ae9 (x0:Int)(x1:Int)(x2:Int)(x3:Bool)(x4:Int)(x5:Int)(x6:Int):bn (du x0 x1 x2 x3 x4 x5 x6):=by
 unfold du oX;exact aG (by simp only[bM,qF])
instance aL0 (x0:Nat->Int)(x1:Nat->Int)(x2:Nat->Bool)(x3:Nat->Int)(x4:Nat->Int)(x5:Nat->Int)(x6:Int):bn (qJ x0 x1 x2 x3 x4 x5 x6):=by
 unfold qJ Ej;exact aG (by simp only[bM,qF])
instance aF3 (x0:Bool)(x1:Int)(x2:Int)(x3:Bool)(x4:Int)(x5:Int)(x6:Nat->Int)(x7:Nat->Int)(x8:Nat->Bool)(x9:Nat->Int)(gA:Nat->Int)(fX:Nat->Int)(BL:Int):bn (gE x0 x1 x2 x3 x4 x5 x6 x7 x8 x9 gA fX BL):=by
 unfold gE wV;exact aG (by simp only[bM,qF])
theorem QM (x:Int):pO x=some (decide (0<=x)&&decide (x<6)):=by
 simp only[pO,Vc,bS,cg];by_cases h0:0<=x<;>simp[h0]
theorem aSZ {x:Int}(h:(decide (0<=x)&&decide (x<6))=true)(k:Nat)(hk:k<=6):bb x 6=true/\wd (0+ws x*6+k) 36=true/\wd (0+ws x*6+k) 37=true:=by
 simp only[cx,lC] at h;simp only[bk,bY];omega
instance aHm (x0:Int)(x1:Int)(x2:Nat->Int)(x3:Nat->Int)(x4:Nat->Bool)(x5:Nat->Int)(x6:Nat->Int)(x7:Nat->Int)(x8:Int):bn (fZ x0 x1 x2 x3 x4 x5 x6 x7 x8):=by
 unfold fZ sj;refine aG ?_;rw[QM,bT,aK];refine⟨λh=> ?_,λ_=>by rw[av];trivial⟩;obtain⟨h1,h2,h3⟩:=aSZ h 6 (by omega);simp only[bM,h1,h2,Of,Lq,Ed]
theorem An (x0:Int)(x1:Int)(x2:Nat)(x3:Nat->Int)(x4:Nat->Int)(x5:Nat->Bool)(x6:Nat->Int)(x7:Nat->Int)(x8:Nat->Int)(x9:Int)(gA:Nat->Bool)(fX:Nat->Int)(BL:Nat->Int)(w0:Bool)(h:x2<=1999):bn (fh x0 x1 x2 x3 x4 x5 x6 x7 x8 x9 gA fX BL w0):=by
 have tc:=λa b c e=>ar2 x2 a b c e h
 unfold fh se;try dsimp only
 refine aG ?_;rw[QM,bT,aK];refine⟨λ_=>by rw[av];trivial,λh=> ?_⟩;rw[afs] at h;obtain⟨h1,h2,h3⟩:=aSZ h 3 (by omega);simp only[bM,h1,h2,h3,Bool.and_self,aN,Of,Lq,Ed]
theorem Vx:∀(d:eR.B) (hd:0<=d.1.2.2/\d.1.2.2<=6),Ok (wT d) (λx:mz=>True):=
 bp (λd:eR.B=>ws (6-d.1.2.2)) (λd hd=>by
  have hw:wI (d.1.2.2+1)=d.1.2.2+1:=aY;unfold wS;simp only[bM];simp only[nf,pn,uF,hw];repeat' (first|exact True.intro|omega|(intro _)|(apply And.intro))) (λd hd=>by omega)
instance aHn (x0:Int)(x1:Nat->Int)(x2:Nat->Int)(x3:Nat->Bool)(x4:Nat->Int)(x5:Nat->Int)(x6:Nat->Int)(x7:Int):bn (oc x0 x1 x2 x3 x4 x5 x6 x7):=by
 unfold oc zX;refine aG ?_;refine ay (Vx _ (by simp)) λd _ hd=> ?_;simp only[bM]
instance a4t (x:Int)(fO:Bool):bn (BS x fO):=by
 have h1:=qD x;obtain⟨a,b,q,e,ho,hq,hv,_⟩:=aow (sat x) 30 (by omega) (by omega) (by omega);unfold BS agk;refine aG ?_;rw[qN,bT,aK];refine⟨λ_=>by rw[av];trivial,λc=> ?_⟩;have c:=kO c;have e30:(2:Int)^30=1073741824:=rfl;have q1:q=true:=by rw[hq,e30];omega
 have v:=hv q1;rw[e30] at v;have e':vG (sat x) 30=some ((a,b),q):=e
 have h0:0<=a:=by
  obtain⟨o1,o2,o3,o4⟩:=ho;simp only[vW] at v;omega
 obtain⟨r,hr,_,_⟩:=atP a b ho h0;rw[e',bT,awJ a b r _ ho h0 hr,bT,av];trivial
instance a2O (x0:Nat->Int)(x3:Bool)(x4:Nat->Int)(w0:Bool):bn (kT x0 4 3 x3 x4 w0):=Y3 _ _ _ _ _ _ (by omega) (by omega)
instance a2P (x0:Nat->Int)(x3:Bool)(x4:Nat->Int)(w0:Bool):bn (kT x0 7 2 x3 x4 w0):=Y3 _ _ _ _ _ _ (by omega) (by omega)
instance a2Q (x0:Nat->Int)(x3:Bool)(x4:Nat->Int)(w0:Bool):bn (kT x0 9 1 x3 x4 w0):=Y3 _ _ _ _ _ _ (by omega) (by omega)
instance a0e (x0:Nat->Int)(x1:Int)(x2:Bool):bn (lN x0 x1 x2):=by
 unfold lN ahr;exact aG (by simp only[bM,qF])
instance aZp (x0:Nat->Int)(x1:Int)(x2:Int)(x3:Int)(x4:Int)(x5:Int)(x6:Int)(x7:Int)(x8:Int)(x9:Int)(gA:Int)(fX:Int):bn (su x0 x1 x2 x3 x4 x5 x6 x7 x8 x9 gA fX):=by
 unfold su ac0;exact aG (by simp only[bM,qF])
instance aZq (x:Ad.B):bn (sw x):=by
 unfold sw IM;try dsimp only
 exact aG (by simp only[bM,qF])
instance aGc (x:im.B):bn (eJ x):=by
 unfold eJ qz;exact aG (by simp only[bM,qF])
instance aL1 (x:lF.B):bn (ji x):=by
 unfold ji xt;exact aG (by simp only[bM,qF])
instance aYz (x0:Int)(x1:Int)(x2:Int):bn (og x0 x1 x2):=by
 unfold og M9;exact aG (by simp only[bM,qF])
instance a0f (x0:Int)(x1:Int)(x2:Int):bn (zb x0 x1 x2):=by
 unfold zb ahu;exact aG (by simp only[bM,qF])
instance aS0 (x0:Nat->Int)(x1:Nat->Int)(x2:Nat->Int)(x3:Int)(x4:Int)(x5:Int)(x6:Int)(x7:Bool):bn (zd x0 x1 x2 x3 x4 x5 x6 x7):=by
 unfold zd Na;try dsimp only
 exact aG (by simp only[bM,qF])
instance aPc (x0:Nat->Int)(x1:Nat->Int)(x2:Nat->Int)(x3:Int)(x4:Int)(x5:Int)(x6:Bool):bn (uM x0 x1 x2 x3 x4 x5 x6):=by
 unfold uM HN;try dsimp only
 exact aG (by simp only[bM,qF])
instance aUV (x0:Nat->Int)(x1:Nat->Int)(x2:Nat->Int)(x3:Int)(x4:Int)(x5:Bool):bn (DI x0 x1 x2 x3 x4 x5):=by
 unfold DI TR;exact aG (by simp only[bM,qF])
instance aCQ (x:lO.B):bn (iZ x):=by
 unfold iZ uX;try dsimp only
 exact aG (by simp only[bM,qF])
instance aBt (x:ka.B):bn (gL x):=by
 unfold gL te;try dsimp only
 exact aG (by simp only[bM,qF])
instance aRE (x0:Int):bn (wZ x0):=by
 unfold wZ Kb;exact aG (by simp only[bM,qF])
instance aOE (x0:Int)(x1:Int):bn (mC x0 x1):=by
 unfold mC FZ;exact aG (by simp only[bM,qF])
instance aPd:bn ns:=by
 unfold ns HT;exact aG (by simp only[bM,qF])
instance a2R (x0:Int):bn (Pz x0):=by
 unfold Pz aoP;exact aG (by simp only[bM,qF])
theorem ayT:∀(d:iy.B) (hd:0<=d.1/\d.1<=3),Ok (DH d) (λx:qj=>True):=
 bp (λd:iy.B=>ws (3-d.1)) (λd hd=>by
  have hw:wI (d.1+1)=d.1+1:=aY;unfold yk;simp only[bM];simp only[nf,pn,uF,hw];repeat' (first|exact True.intro|omega|(intro _)|(apply And.intro))) (λd hd=>by omega)
theorem aF4:∀(d:mB.B) (hd:0<=d.1.2/\d.1.2<=24),Ok (IQ d) (λx:D7=>True):=
 bp (λd:mB.B=>ws (24-d.1.2)) (λd hd=>by
  have hw:wI (d.1.2+1)=d.1.2+1:=aY;unfold QG;simp only[bM];simp only[nf,pn,uF,hw];repeat' (first|exact True.intro|omega|(intro _)|(apply And.intro))) (λd hd=>by omega)
instance aHo (x0:Int)(x1:Nat->Int)(x2:Nat->Int)(x3:Nat->Bool)(x4:Nat->Int)(x5:Nat->Int)(x6:Nat->Int)(x7:Int):bn (ln x0 x1 x2 x3 x4 x5 x6 x7):=by
 unfold ln sr;refine aG ?_;rw[QM,bT,aK];refine⟨λ_=>by rw[av];trivial,λh=> ?_⟩;rw[afs] at h;obtain⟨h1,h2,h3⟩:=aSZ h 6 (by omega);simp only[bM,h1,h2,Of,Lq,Ed]
instance aZr (x0:Int)(x1:Int)(x2:Int)(x3:Int)(x4:Int)(x5:Int)(x6:Int)(x7:Int):bn (lp x0 x1 x2 x3 x4 x5 x6 x7):=by
 unfold lp Ac;refine aG ?_;refine ay (ayT _ (by simp)) λd _ hd=> ?_;simp only[bM]
instance aOF (x:gf.B):bn (cX x):=by
 unfold cX mA;try dsimp only
 exact aG (by simp only[bM,qF])
instance a1o (x:FX.B):bn (oY x):=by
 have key:∀d,(0<=d.1.2/\d.1.2<=24)->∀(k1 k2),(∀a,PQ (k1 a) λ_=>True)->(∀a,PQ (k2 a) λ_=>True)->PQ (opt (IQ d) λx=>sum x k1 k2) (δ:=anI) (λ_=>True):=λd hd k1 k2 h1 h2=>by
  refine ay (aF4 d hd) λx _ _=> ?_;rw[qy];exact⟨λa _=>h1 a,λa _=>h2 a⟩
 unfold oY aaE;try dsimp only
 refine aG ?_;repeat' (first|(rw[aK];refine⟨λ_=>by rw[av];trivial,λ_=> ?_⟩)|(rw[bE];intro _ _))
 refine key _ (by simp) _ _ (λ_=>by rw[av];trivial) (λ_=> ?_);simp only[bM]
theorem P4 (n:Nat):∀(d:dR.B) (hd:0<=d.1.2.2/\d.1.2.2<=d.1.2.1/\d.1.2.1<=1999/\d.1.2.1=((d.1.1:Nat):Int)/\d.2.1.2.2=d.1.1/\d.1.1=n),Ok (th d) (λx:kc=>x.1.1=n):=
 bp (λd:dR.B=>ws (d.1.2.1-d.1.2.2)) (λd hd=>by
  have hw:wI (d.1.2.2+1)=d.1.2.2+1:=aY;unfold tf;simp only[bM];simp only[nf,pn,uF,hw];repeat' (first|exact True.intro|exact hd.c.1|exact hd.c.2|omega|(intro _)|(apply And.intro))) (λd hd=>by omega)
theorem P5 (n:Nat):∀(d:dS.B) (hd:0<=d.1.2.2/\d.1.2.2<=d.1.2.1/\d.1.2.1<=1999/\d.1.2.1=((d.1.1:Nat):Int)/\d.2.1.2.2=d.1.1/\d.1.1=n),Ok (tk d) (λx:kd=>x.1.1=n):=
 bp (λd:dS.B=>ws (d.1.2.1-d.1.2.2)) (λd hd=>by
  have hw:wI (d.1.2.2+1)=d.1.2.2+1:=aY;unfold ti;simp only[bM];simp only[nf,pn,uF,hw];repeat' (first|exact True.intro|exact hd.c.1|exact hd.c.2|omega|(intro _)|(apply And.intro))) (λd hd=>by omega)
theorem T6 (x:lP.B)(h:x.1.2.2<=1999):Ok (lQ x) (λr:uY=>r.2.1=x.1.2.2):=by
 unfold lQ vf;show PQ _ _;rw[aN,bJ];refine⟨rfl,ay (P4 x.1.2.2 _ ?_) λd _ hd=> ?_⟩
 .dsimp only;simp only[dO];exact⟨by omega,by omega,by omega,trivial,trivial,trivial⟩
 .rw[av];exact hd
theorem T7 (x:lR.B)(h:x.1.2.2<=1999):Ok (lS x) (λr:vj=>r.2.1=x.1.2.2):=by
 unfold lS vm;show PQ _ _;rw[aN,bJ];refine⟨rfl,ay (P5 x.1.2.2 _ ?_) λd _ hd=> ?_⟩
 .dsimp only;simp only[dO];exact⟨by omega,by omega,by omega,trivial,trivial,trivial⟩
 .rw[av];exact hd
theorem NH:∀(d:dC.B) (hd:0<=d.1.2.2.2.2/\d.1.2.2.2.2<=d.1.2.2.2.1/\d.1.2.2.2.1<=1999/\d.1.2.2.2.1=((d.1.2.2.1.1:Nat):Int)),Ok (qw d) (λx:jd=>True):=
 bp (λd:dC.B=>ws (d.1.2.2.2.1-d.1.2.2.2.2)) (λd hd=>by
  have hw:wI (d.1.2.2.2.2+1)=d.1.2.2.2.2+1:=aY;unfold qv;simp only[bM];simp only[nf,pn,uF,hw];repeat' (first|exact True.intro|omega|(intro _)|(apply And.intro))) (λd hd=>by omega)
theorem Sl (x0:Nat)(x1:Nat)(x2:Nat->Int)(x3:Nat->Int)(w0:Bool)(w1:Bool)(h:x0<=1999):bn (gM x0 x1 x2 x3 w0 w1):=by
 unfold gM tp;refine aG ?_;rw[aN,aN,bJ,bJ];refine⟨rfl,rfl,ay (NH _ (hdN x0 h)) λd _ hd=> ?_⟩;simp only[bM]
instance a1p (x2 x3:Nat->Int)(w0 w1:Bool):bn (gM 8 8 x2 x3 w0 w1):=Sl _ _ _ _ _ _ (by omega)
instance aUW (x:DJ.B):bn (ux x):=by
 unfold ux TU;try dsimp only
 exact aG (by simp only[bM,qF])
theorem pU (n:Nat):∀(d:aZ.B) (hd:0<=d.1.2.2.1/\d.1.2.2.1<=d.1.2.2.2/\d.1.2.2.2<=(n:Int)/\d.1.1.1=n/\n<=1999/\d.1.2.1=(n:Int)),Ok (eu d) (λx:bW=>0<=x.1.2.2.1/\x.1.2.2.1<=(n:Int)/\x.1.1.1=n/\x.1.2.1=(n:Int)):=
 bp (λd:aZ.B=>ws (d.1.2.2.2-d.1.2.2.1)) (λd hd=>by
  have h1:wI (d.1.2.2.1+d.1.2.2.2)=d.1.2.2.1+d.1.2.2.2:=eF;have h2:wU (d.1.2.2.1+d.1.2.2.2)=d.1.2.2.1+d.1.2.2.2:=by show IntKind.wrap .u64 _=_;rw[wrap_u64];omega
  have h3:ul (d.1.2.2.1+d.1.2.2.2) 2=(d.1.2.2.1+d.1.2.2.2)/2:=Int.fdiv_eq_ediv_of_nonneg _ (by omega);have h4:wI ((d.1.2.2.1+d.1.2.2.2)/2)=(d.1.2.2.1+d.1.2.2.2)/2:=eF;have h5:wI ((d.1.2.2.1+d.1.2.2.2)/2+1)=(d.1.2.2.1+d.1.2.2.2)/2+1:=eF;unfold ep;simp only[h1,h2,h3,h4,h5];simp only[bM];simp only[nf,pn,uF];repeat' (first|exact True.intro|omega|(intro _)|(apply And.intro))) (λd hd=>by omega)
theorem aRF (x:ch.B)(h:x.1.1.1<=1999):Ok (cj x) (λr:eM=>0<=r.1/\r.1<=(x.1.1.1:Int)):=by
 unfold cj eN;try dsimp only
 show PQ _ _;rw[aN,bJ];refine⟨rfl,ay (pU x.1.1.1 _ ?_) λd _ hd=> ?_⟩
 .try dsimp only
  simp only[dO];exact⟨by omega,by omega,by omega,trivial,h,trivial⟩
 .obtain⟨a1,a2,a3,a4⟩:=hd;simp only[bM,a3,a4];simp only[nf,pn,uF];exact⟨λc=>⟨λ_ _ _=>⟨a1,a2⟩,⟨a1,c⟩⟩,λ_=>⟨a1,a2⟩⟩
theorem aOG (n:Nat)(i:Int)(h0:0<=i)(h1:i<=(n:Int))(hn:n<=1999)(x2 x3 x4 x5 x6 x7 x8 x9 gA fX BL x13 x14 x15 x16 x17 x18 x19:Nat->Int)(w1:Bool):
  Ok (cV n i x2 x3 x4 x5 x6 x7 x8 x9 gA fX BL x13 x14 x15 x16 x17 x18 x19 1 true w1) (λr:fk=>r.1=n+1):=by
 have b1:wd (ws i) n=true:=by rw[bY];omega
 have b2:wd ((n+1)*72) 140737488355328=true:=by rw[bY];omega
 unfold cV;rw[b1,b2,eT h0];exact⟨_,rfl,rfl⟩
theorem aBu (n:Nat)(i j:Int)(h0:0<=i)(h1:i<=j)(h2:j<=(n:Int))(x3 x4 x5 x6 x7 x8 x9 gA fX:Nat->Int):
  Ok (bU n i j x3 x4 x5 x6 x7 x8 x9 gA fX true) (λr:fm=>r.1=ws i+(n-ws j)):=by
 have b1:wd (ws i) (ws j)=true:=by rw[bY];omega
 have b2:wd (ws j) n=true:=by rw[bY];omega
 unfold bU;rw[b1,b2,eT h0,eT (show 0<=j by omega)];exact⟨_,rfl,rfl⟩
theorem aRG (n:Nat)(hn:n<=1999)(x1 x2 x3 x4 x5 x6 x7 x8 x9:Nat->Int)(w:Bool):
  Ok (fE n x1 x2 x3 x4 x5 x6 x7 x8 x9 w) (λr:iY=>r.1=n):=by
 have b1:wd (n*72) 140737488355328=true:=by rw[bY];omega
 unfold fE;rw[b1];exact⟨_,rfl,rfl⟩
theorem aOH (s:Nat)(hs:s<=120)(n:Nat)(hn:n<=100)(fO:Bool)(f:Nat->Int)(w w':Bool):
  wj (wl s) n n fO f w w'=some (sat (ND (As (λj=>sat (f j)*sat (f j)) n) s),(fO||Gk (λj=>fU (f j)||fU (f j)) n)||fU (ND (As (λj=>sat (f j)*sat (f j)) n) s)):=by
 simp only[wj,Ps,Pg.cg,Pg.bS,Pg.cG,Pg.fD,Pg.eL];try delta wI wU
 unfold J';have n0:decide (wl s<0)=false:=by simp
 have n1:decide (wl s>120)=false:=by simp only[dO];exact dm (by omega)
 have m:(if 100<if wl n<wl n then wl n else wl n then 100 else if wl n<wl n then wl n else wl n)=wl n:=by
  have e:¬wl n<wl n:=by omega
  rw[if_neg e,if_neg (by simp only[dO];omega)]
 rw[n0,n1,bH,bH,Lv,bz,m]
 refine Ot (λt d=>∃(i:Nat) (h l':Int),i+t=n/\okW h l'/\vW h l'=As (λj=>sat (f j)*sat (f j)) i/\d=((wl s,(n,w),(n,w'),wl n,wl i),(fO||Gk (λj=>fU (f j)||fU (f j)) i),f,h,l')) ?_ 2000 n _ (by omega)
  ⟨0,0,0,by omega,⟨by omega,by omega,by omega,by omega⟩,rfl,by simp only[Gk,Sr];rfl⟩
 rintro t _ c ⟨i,h,l',hi,ho,hv,rfl⟩ hc
 have bnd:=aou (λj=>sat (f j)*sat (f j)) 1329227995784915872903807060280344576 (by omega) i (λj _=>ae7 _ _);rcases aba t with t0|t0
 .have e:i=n:=by omega
  subst e;simp only[CD,Pg.wE,Pg.wF,Pg.AM,Pg.Gq,Pg.wG,qV,mZ,wI,awG (dq i),bH,ahV h l' s _ hs ho,hv,bL]
 .have hs1:=qD (f i);have VN:=qD (f i);have hm:=ae7 (f i) (f i);obtain⟨h1,l1,e1,o1,v1⟩:=D8 (sat (f i)) (sat (f i)) (by omega) (by omega) (by omega) (by omega)
  obtain⟨h2,l2,e2,o2,v2⟩:=ahW (λj:Nat=>bif ww j 1 then h1 else bif ww j 0 then h else h) (λj:Nat=>bif ww j 1 then l1 else bif ww j 0 then l' else l') true
   ho o1 (by show _<=vW h l'+vW h1 l1;rw[hv,v1];omega) (by show vW h l'+vW h1 l1<_;rw[hv,v1];omega)
  have v2:vW h2 l2=vW h l'+vW h1 l1:=v2;rw[hv,v1] at v2;have q:ws (wl i)=i:=rfl;simp only[CD,Pg.wE,Pg.wF,Pg.AM,Pg.Gq,Pg.wG,qV,mZ,wI,awF hi t0,awH (show i<n by omega),bz,q,qN,bL,e1,e2,awI (show i<9000000000000000000 by omega)];refine hc (t-1) _ (by omega) ⟨i+1,h2,l2,by omega,o2,v2,?_⟩;simp only[Gk,Bool.or_assoc]
instance a2S (fO:Bool)(f:Nat->Int)(w w':Bool):bn (wj 30 2 2 fO f w w'):=⟨_,aOH 30 (by omega) 2 (by omega) fO f w w'⟩
instance aRH (x0:Nat->Int)(x1:Int)(x2:Int)(x3:Int)(x4:Bool):bn (wX x0 x1 x2 x3 x4):=by
 unfold wX Ka;exact aG (by simp only[bM,qF])
instance aUX (x0:Int)(x1:Int)(x2:Int)(x3:Int)(x4:Int)(x5:Int)(x6:Int)(x7:Int)(x8:Int)(x9:Int):bn (DL x0 x1 x2 x3 x4 x5 x6 x7 x8 x9):=by
 unfold DL TW;exact aG (by simp only[bM,qF])
theorem aLm (x:oI.B)(h:x.1.2.1<=1999):bn (gF x):=by
 have tr:=λa b c d e g i j k l m w=>An a b x.1.2.1 c d e g i j k l m w
 unfold gF Kg;try dsimp only
 refine aG ?_;rw[aN,bJ];refine⟨rfl,?_⟩;have:=An;refine ay (bn.Ok (An _ _ _ _ _ _ _ _ _ _ _ _ _ _ h) (Q:=λ_=>True) λ_ _=>trivial) λd _ _=> ?_;rw[av];trivial
instance a3H (x:nu.B):bn (fS x):=by
 unfold fS HV;try dsimp only
 refine aG ?_;iterate 9 (rw[aN,bJ];refine⟨rfl,?_⟩)
 refine ay (bn.Ok (aLm ((x.1,1,true),_) (by show 1<=1999;omega)) (Q:=λ_=>True) λ_ _=>trivial) λd _ _=> ?_;rw[av];trivial
instance a2T (x:mE.B):bn (cZ x):=by
 unfold cZ F4;try dsimp only
 refine aG ?_;iterate 9 (rw[aN,bJ];refine⟨rfl,?_⟩)
 refine ay (bn.Ok (aLm ((x.1,1,true),_) (by show 1<=1999;omega)) (Q:=λ_=>True) λ_ _=>trivial) λd _ _=> ?_;rw[av];trivial
theorem Sn (x:mF.B)(h:x.2.1.2.2.2.2.2.2.2.2.2.2.2.2.2.2.2.2<=100000):Ok (iW x) (λr:CO=>r.1.2.2.2.2.2.2.2.2.2.2.2.2.2.2.2.2=x.2.1.2.2.2.2.2.2.2.2.2.2.2.2.2.2.2.2+1/\r.1.2.2.2.2.1=x.2.1.2.2.2.2.1/\r.1.2.2.2.2.2.2.2.2.2.2.2.2.2.1=x.2.1.2.2.2.2.2.2.2.2.2.2.2.2.2.1):=by
 unfold iW Kk;try dsimp only
 show PQ _ _;rw[bJ,av];exact⟨by rw[bY];omega,rfl,rfl,rfl⟩
theorem afa (x:mG.B)(h:x.1.2.1<=1999):Ok (dw x) (λr:CP=>r.1=x.1.2.1/\r.2.1.1.d.c.b.2.2=x.2.1.d.c.b.2.2/\r.2.1.1.c.1=x.2.1.c.1/\r.2.1.1.d.c.2.1=x.2.1.d.c.2.1):=by
 unfold dw Kl;try dsimp only
 show PQ _ _;rw[aN,bJ];refine⟨rfl,ay (aLl _ h) λd _ hd=> ?_⟩;iterate 10 (rw[aN,bJ];refine⟨rfl,?_⟩)
 refine ay (bn.Ok (aLm ((x.1.1,d.1.2.2,true),_) (by show d.1.2.2<=1999;rw[hd];exact h)) (Q:=λ_=>True) λ_ _=>trivial) λd1 _ _=> ?_;rw[av];exact⟨hd,rfl,rfl,rfl⟩
theorem Y4 (x:ke.B)(h:x.1.1<=1999):Ok (gk x) (λr:F5=>r.d.c.b.2.2=x.2.1.d.c.b.2.2/\r.c.1=x.2.1.c.1/\r.d.c.2.1=x.2.1.d.c.2.1):=by
 unfold gk F8;try dsimp only
 show PQ _ _;rw[aN,bJ];refine⟨rfl,ay (bn.Ok (ar2 x.1.1 _ _ _ _ h) (Q:=λ_=>True) λ_ _=>trivial) λd1 _ _=> ?_⟩;rw[aK];exact⟨λ_=>by rw[av];exact⟨rfl,rfl,rfl⟩,λ_=>by rw[av];exact⟨rfl,rfl,rfl⟩⟩
theorem aYA (x:mJ.B)(h:x.2.1.d.c.b.2.2<=90000):Ok (mK x) (λr:CT=>r.1.d.c.b.2.2<=x.2.1.d.c.b.2.2+3/\r.1.c.1=x.2.1.c.1/\r.1.d.c.2.1=x.2.1.d.c.2.1):=by
 unfold mK Kn;try dsimp only
 show PQ _ _;simp only[aN];rw[bE];intro d _;rw[bE];intro d1 _;iterate 9 (rw[bJ];refine⟨rfl,?_⟩)
 refine ay (Sn _ (show x.2.1.d.c.b.2.2<=100000 by omega)) λd2 _ h2=> ?_;have h2:d2.1.d.c.b.2.2=x.2.1.d.c.b.2.2+1/\d2.1.c.1=x.2.1.c.1/\d2.1.d.c.2.1=x.2.1.d.c.2.1:=h2;rw[bE];intro d3 _;iterate 9 (rw[bJ];refine⟨rfl,?_⟩)
 refine ay (Sn _ (show d2.1.d.c.b.2.2<=100000 by omega)) λd4 _ h4=> ?_;have h4:d4.1.d.c.b.2.2=d2.1.d.c.b.2.2+1/\d4.1.c.1=d2.1.c.1/\d4.1.d.c.2.1=d2.1.d.c.2.1:=h4;rw[aK];refine⟨λ_=> ?_,λ_=>by rw[av];omega⟩;rw[bE];intro d5 _;iterate 9 (rw[bJ];refine⟨rfl,?_⟩)
 refine ay (Sn _ (show d4.1.d.c.b.2.2<=100000 by omega)) λd6 _ h6=> ?_;have h6:d6.1.d.c.b.2.2=d4.1.d.c.b.2.2+1/\d6.1.c.1=d4.1.c.1/\d6.1.d.c.2.1=d4.1.d.c.2.1:=h6;rw[av];omega
end Go.Proofs.YtldgljclcgaibaaGreat
