/-
  Parts of the proof: PRT PWY PWZ PWQ PRE TA TB TC TD TU TE TF TG TH TI TJ TK TL TM
-/
import Derived.Test.YtldgljclcgaibaaGreatZAE
import Derived.Test.YtldgljclcgaibaaGreatZAG
import Derived.Test.YtldgljclcgaibaaGreatZAH
import Derived.Test.YtldgljclcgaibaaGreatZAI
open Nat renaming beq→ww,ble→wd
open Int renaming toNat→ws,ofNat→wl,fdiv→ul,tdiv→t7
open BitVec renaming ofInt→v9,toNat→v4
open List renaming append→t9
set_option linter.all false
set_option maxRecDepth 100000
set_option maxHeartbeats 4000000
namespace Go.Proofs.YtldgljclcgaibaaGreat
open Go.Ab
def isR (r V:Int):Prop:=0<=r/\V<=r*r+r/\(r=0∨r*r-r<V)
theorem aK1 {a b:Int}(ha:0<=a)(hb:0<=b):0<=a*b:=IY ha hb
theorem aSw {r s V:Int}(h1:isR r V)(h2:isR s V):s<=r:=by
 obtain⟨a1,a2,a3⟩:=h1;obtain⟨b1,b2,b3⟩:=h2;rcases afc r s with h|h
 .exfalso
  have p:=aK1 (a:=s-r-1) (b:=s+r) (by omega) (by omega);have q:(s-r-1)*(s+r)=s*s-s-(r*r+r):=by grind
  rcases b3 with b3|b3
  .omega
  .omega
 .exact h
theorem aTA {r s V:Int}(h1:isR r V)(h2:isR s V):r=s:=Int.le_antisymm (aSw h2 h1) (aSw h1 h2)
theorem aXR (n:Nat):∃q:Nat,q*q<=n/\n<(q+1)*(q+1):=by
 induction n with
 |zero=>exact⟨0,by omega,by omega⟩
 |succ n ih=>
  obtain⟨q,h1,h2⟩:=ih;by_cases c:n+1<(q+1)*(q+1)
  .exact⟨q,by omega,c⟩
  .refine⟨q+1,by omega,?_⟩;have:(q+1+1)*(q+1+1)=(q+1)*(q+1)+2*q+3:=by grind
   omega
theorem aTB (V:Int)(h:0<=V):∃q:Int,0<=q/\q*q<=V/\V<(q+1)*(q+1):=by
 obtain⟨q,h1,h2⟩:=aXR V.toNat;refine⟨q,by omega,?_,?_⟩
 .have e:((q*q:Nat):Int)=(q:Int)*q:=by simp
  omega
 .have e:(((q+1)*(q+1):Nat):Int)=((q:Int)+1)*(q+1):=by simp
  omega
theorem aRc {a b:Int}(ha:0<=a)(hb:0<=b)(h:a*a<b*b):a<b:=by
 rcases afc a b with c|c
 .exact c
 .exfalso
  have:=NK c c hb (by omega);omega
theorem aTC (n:Nat)(hn:n<128):hO 0 1 (wl n)=some (2^n/18446744073709551616,2^n%18446744073709551616):=by
 have key:∀n:Fin 128,hO 0 1 (wl n.val)=some ((2:Int)^n.val/18446744073709551616,(2:Int)^n.val%18446744073709551616):=by decide+kernel
 exact key ⟨n,hn⟩
theorem aIB (a b c d:Int)(b0:0<=b)(b1:b<18446744073709551616)(d0:0<=d)(d1:d<18446744073709551616):
  vx a b c d=some (decide (a*18446744073709551616+b<c*18446744073709551616+d)):=by
 simp only[vx,N9,Pg.cC,Pg.ch,Pg.cQ,Pg.fB,Pg.eG];try delta wI wU
 by_cases h:a<c
 .have:a*18446744073709551616+b<c*18446744073709551616+d:=by omega
  simp[h,this]
 .by_cases e:a=c
  .subst e;have:(a*18446744073709551616+b<a*18446744073709551616+d)↔b<d:=by omega
   simp[this]
  .have:¬a*18446744073709551616+b<c*18446744073709551616+d:=by omega
   have e':(a==c)=false:=by simp[e]
   rw[dq h,bH,e',bH,dq this]
theorem ayC (x y c:Int)(x0:0<=x)(x1:x<18446744073709551616)(y0:0<=y)(y1:y<18446744073709551616)(c0:0<=c)(c1:c<=1):adb x y c=some ((x-y-c)%18446744073709551616,if x<y+c then 1 else 0):=by
 unfold adb;have h:wd c.toNat 1=true:=aDi (by omega);rw[h,bz];congr 1
 unfold aXo aXp;simp only[dJ,qG];constructor
 .omega
 .split<;>split<;>omega
theorem aRd (a b c d:Int)(a0:0<=a)(a1:a<18446744073709551616)(b0:0<=b)(b1:b<18446744073709551616)(c0:0<=c)(c1:c<18446744073709551616)(d0:0<=d)(d1:d<18446744073709551616)
  (h:c*18446744073709551616+d<=a*18446744073709551616+b):
  ∃h' l',yk a b c d=some (h',l')/\0<=h'/\h'<18446744073709551616/\0<=l'/\l'<18446744073709551616/\h'*18446744073709551616+l'=a*18446744073709551616+b-(c*18446744073709551616+d):=by
 simp only[yk,Lw,Pg.cC,Pg.ch,Pg.cQ,Pg.fB,Pg.eG];try delta wI wU
 rw[ayC b d 0 b0 b1 d0 d1 (by omega) (by omega)];simp only[bN,Int.add_zero];by_cases k:b<d
 .rw[if_pos k,ayC a c 1 a0 a1 c0 c1 (by omega) (by omega)];simp only[bN];refine⟨_,_,rfl,?_,?_,?_,?_,?_⟩<;>omega
 .rw[if_neg k,ayC a c 0 a0 a1 c0 c1 (by omega) (by omega)];simp only[bN];refine⟨_,_,rfl,?_,?_,?_,?_,?_⟩<;>omega
theorem ahD (h1 l1 h2 l2:Int)(a0:0<=h1)(b0:0<=l1)(c0:0<=h2)(d0:0<=l2)(b1:l1<18446744073709551616)(d1:l2<18446744073709551616)
  (h:h1*18446744073709551616+l1+(h2*18446744073709551616+l2)<340282366920938463463374607431768211456):
  ∃h' l',jo h1 l1 h2 l2=some (h',l')/\0<=h'/\h'<18446744073709551616/\0<=l'/\l'<18446744073709551616/\h'*18446744073709551616+l'=h1*18446744073709551616+l1+(h2*18446744073709551616+l2):=by
 rw[aIz h1 l1 h2 l2 a0 b0 c0 d0 b1 d1];refine⟨_,_,rfl,?_,?_,?_,?_,?_⟩<;>omega
theorem aoc {m n:Nat}(h:m<=n):(2:Int)^m<=2^n:=by
 have h2:(2:Nat)^m<=2^n:=Nat.pow_le_pow_right (by decide) h;have h3:((2^m:Nat):Int)<=((2^n:Nat):Int):=by exact_mod_cast h2
 simpa using h3
theorem atC (h l:Int)(o:okW h l)(h0:0<=h):∃r,isR r (vW h l)/\r<18446744073709551616/\LA h l=if r<=9223372036854775807 then some (r,true) else some (0,false):=by
 obtain⟨o1,o2,o3,o4⟩:=o;have v0:0<=vW h l:=by show 0<=h*18446744073709551616+l;omega
 have v1:vW h l<170141183460469231731687303715884105728:=by show h*18446744073709551616+l<_;omega
 have hvv:h*18446744073709551616+l=vW h l:=rfl;generalize vW h l=V at*
 obtain⟨q,q0,q1,q2⟩:=aTB V v0;have qb:q<13043817825332782213:=aRc q0 (by omega) (by omega);obtain⟨r,hr⟩:∃r,r=if q<V-q*q then q+1 else q:=⟨_,rfl⟩
 have q3:(q+1)*(q+1)=q*q+2*q+1:=by grind
 refine⟨r,?_,by rw[hr];split<;>omega,?_⟩
 .rw[hr];split
  .rename_i c
   exact⟨by omega,by omega,Or.inr (by omega)⟩
  .rename_i c
   refine⟨q0,by omega,?_⟩;rcases afc 0 q with k|k
   .exact Or.inr (by omega)
   .exact Or.inl (by omega)
 simp only[LA,afT,Pg.cC,Pg.ch,Pg.cQ,Pg.fB,Pg.eG];try delta wI wU
 unfold VT;have n0:decide (h<0)=false:=dq (by omega);have n1:IntKind.wrap .u64 h=h:=by rw[wrap_u64];omega
 rw[n0,bH,n1]
 refine NX (λt d=>∃(p c rh rl sh sl:Int),t<=64/\0<=p/\p=c*2^t/\p*p<=V/\V<(p+2^t)*(p+2^t)/\0<=rh/\rh<18446744073709551616/\0<=rl/\rl<18446744073709551616/\rh*18446744073709551616+rl=V-p*p/\
   0<=sh/\sh<18446744073709551616/\0<=sl/\sl<18446744073709551616/\sh*18446744073709551616+sl=p*2^t/\d=(2*(t:Int)-2,(rh,rl),sh,sl)) ?_ 2000 64 _ (by omega)
  ⟨0,0,h,l,0,0,by omega,by omega,by omega,by omega,by
   have:(2:Int)^64=18446744073709551616:=rfl;omega,by omega,by omega,by omega,by omega,by omega,by omega,by omega,by omega,by omega,by omega,rfl⟩
 rintro t _ k ⟨p,c,rh,rl,sh,sl,t0,p0,pc,p1,p2,r0,r1,r2,r3,r4,s0,s1,s2,s3,s4,rfl⟩ hk
 rcases aaP t with z|z
 .subst z;have e1:(2:Int)^0=1:=rfl;rw[e1] at p2 s4
  have pq:p=q:=by
   have h1:p<q+1:=aRc p0 (by omega) (by omega);have h2:q<p+1:=aRc q0 (by omega) (by omega);omega
  subst pq;have g0:decide ((2:Int)*((0:Nat):Int)-2>=0)=false:=by decide
  simp only[Ly,Pg.vY,Pg.vZ,Pg.Az,Pg.FH,Pg.v5,qH,mM,g0,bH,aIB sh sl rh rl s2 s3 r2 r3,bN];rw[s4,r4,Int.mul_one];by_cases cc:p<V-p*p
  .rw[gy cc,bz];rw[if_pos cc] at hr;obtain⟨a,b,e2,a0,a1,b0,b1,e3⟩:=ahD sh sl 0 1 s0 s2 (by omega) (by omega) s3 (by omega) (by omega);rw[e2,bN,Na a b false a0 b0 b1,e3,hr];have e4:sh*18446744073709551616+sl+(0*18446744073709551616+1)=p+1:=by omega
   rw[e4];have az:a=0:=by omega
   have e5:b=p+1:=by omega
   simp only[xr,gA,e5];by_cases f:p+1<=9223372036854775807
   .rw[if_pos f,bN]
   .rw[if_neg f,bN]
  .rw[dq cc,bH];rw[if_neg cc] at hr;rw[Na sh sl false s0 s2 s3,s4,hr];have az:sh=0:=by omega
   have e5:sl=p:=by omega
   simp only[xr,gA,Int.mul_one,e5];by_cases f:p<=9223372036854775807
   .rw[if_pos f,bN]
   .rw[if_neg f,bN]
 .obtain⟨m,rfl⟩:∃m,t=m+1:=⟨t-1,by omega⟩;have P2:(2:Int)^(m+1)=2^m*2:=Int.pow_succ _ _;have PP:(2:Int)^(2*m)=2^m*2^m:=by rw[<-Int.pow_add];congr 1;omega
  have P0:=mS m;have PB:(2:Int)^m<=2^63:=aoc (by omega);have PBv:(2:Int)^63=9223372036854775808:=rfl;have at0:(2:Int)*((m+1:Nat):Int)-2=wl (2*m):=by simp only[dJ];omega
  rw[at0];have g0:decide (wl (2*m)>=0)=true:=gy (by simp only[dJ];omega)
  have g1:IntKind.wrap .i64 (wl (2*m)-2)=2*(m:Int)-2:=by
   simp only[dJ];rw[wrap_i64 (by omega) (by omega)];omega
  simp only[Ly,Pg.vY,Pg.vZ,Pg.Az,Pg.FH,Pg.v5,qH,mM,g0,bz,aTC (2*m) (by omega),bN,wI,g1];rw[PP];rw[P2] at pc p2 s4;generalize hP:(2:Int)^m=P at*
  have PPb:P*P<=85070591730234615865843651857942052864:=by
   have:=NK PB PB (by omega) (by omega);omega
  have PP0:0<P*P:=Int.mul_pos P0 P0
  have pb:p*P*2<=V:=by
   rcases afc 0 c with k0|k0
   .have c1:1*(P*2)<=c*(P*2):=apD (by omega) (by omega);have c2:p*(P*2)<=p*p:=Int.mul_le_mul_of_nonneg_left (by omega) p0;have c3:p*(P*2)=p*P*2:=by grind
    omega
   .have c1:c*(P*2)<=0*(P*2):=apD k0 (by omega);have:p=0:=by omega
    subst this;omega
  have s4':sh*18446744073709551616+sl=p*P*2:=by rw[s4];grind
  obtain⟨a,b,e2,a0,a1,b0,b1,e3⟩:=ahD sh sl (P*P/18446744073709551616) (P*P%18446744073709551616) s0 s2 (by omega) (by omega) s3 (by omega) (by omega);have e3':a*18446744073709551616+b=p*P*2+P*P:=by omega
  obtain⟨u,v,e4,u0,v0,v1,e5⟩:=aws sh sl 1 (by omega) s0 s1 s2 s3;have e4':jg sh sl 1=some (u,v):=e4
  have e5':u*18446744073709551616+v=p*P:=by
   rw[e5,s4'];show p*P*2/2^1=p*P;rw[show(2:Int)^1=2 from rfl];omega
  rw[e2,bN,e4',bN,aIB rh rl a b r2 r3 b0 b1,bN,e3',r4];have dd:p*p+(p*P*2+P*P)=(p+P)*(p+P):=by grind
  by_cases cc:V-p*p<p*P*2+P*P
  .rw[gy cc];simp only[K0,bH];refine hk m _ (by omega) ⟨p,c*2,rh,rl,u,v,by omega,p0,by rw[hP,pc];grind,p1,by rw[hP];omega,r0,r1,r2,r3,r4,u0,by omega,v0,v1,by rw[hP];exact e5',rfl⟩
  .rw[dq cc];simp only[Bool.not_false,bz];obtain⟨x,y,e6,x0,x1,y0,y1,e7⟩:=aRd rh rl a b r0 r1 r2 r3 a0 a1 b0 b1 (by omega);obtain⟨w,z',e8,w0,w1,z0,z1,e9⟩:=ahD u v (P*P/18446744073709551616) (P*P%18446744073709551616) u0 v0 (by omega) (by omega) v1 (by omega) (by omega);rw[e6,bN,e8,bN];refine hk m _ (by omega) ⟨p+P,c*2+1,x,y,w,z',by omega,by omega,by rw[hP,pc];grind,by omega,?_,x0,x1,y0,y1,by omega,w0,w1,z0,z1,?_,rfl⟩
   .rw[hP];have:(p+P+P)*(p+P+P)=(p+P*2)*(p+P*2):=by grind
    omega
   .rw[hP];have:(p+P)*P=p*P+P*P:=by grind
    omega
theorem aRe (h l:Int)(neg:Bool)(h0:0<=h)(h1:h<18446744073709551616)(l0:0<=l)(l1:l<18446744073709551616):
  ∃h' l' b,nD h l neg=some ((h',l'),b)/\okW h' l'/\(b=true↔if neg=true then h*18446744073709551616+l<=170141183460469231731687303715884105728 else h*18446744073709551616+l<170141183460469231731687303715884105728)/\
   (b=true->vW h' l'=if neg=true then -(h*18446744073709551616+l) else h*18446744073709551616+l):=by
 simp only[nD,Lh,Pg.cC,Pg.ch,Pg.cQ,Pg.fB,Pg.eG];try delta wI wU
 unfold vW;cases neg
 .have hw:=Ge h;rw[EB h0 h1] at hw;generalize IntKind.wrap IntKind.i64 h=w at*
  refine⟨w,l,_,rfl,⟨?_,?_,l0,l1⟩,?_,?_⟩
  .split at hw<;>omega
  .split at hw<;>omega
  .rw[rf _ _ (by omega),beq_iff_eq,if_neg (by decide)];constructor<;>intro _<;>omega
  .rw[rf _ _ (by omega),beq_iff_eq,if_neg (by decide)];intro _;split at hw<;>omega
 .simp only[K0,bH,aeO l l0 l1,wrap_u64,aeO h h0 h1];rw[Pv _ _ _ (by omega) (by omega) (by omega) (by omega)];simp only[bN,lT];generalize hm:((18446744073709551615-h)%18446744073709551616+((18446744073709551615-l)%18446744073709551616+1+0)/18446744073709551616)%18446744073709551616=m
  have hw:=Ge m;generalize IntKind.wrap IntKind.i64 m=w at*
  have m0:0<=m/\m<18446744073709551616:=by omega
  rw[EB m0.1 m0.2] at hw;have w0: -9223372036854775808<=w/\w<=9223372036854775807:=by split at hw<;>omega
  have wm:(w<0/\w=m-18446744073709551616)∨(0<=w/\w=m):=by split at hw<;>omega
  clear hw
  by_cases c:w<0
  .rw[gy c,bz];refine⟨_,_,_,rfl,⟨w0.1,w0.2,by omega,by omega⟩,?_,?_⟩
   .simp only[true_iff];omega
   .intro _;omega
  .rw[dq c,bH];refine⟨_,_,_,rfl,⟨w0.1,w0.2,by omega,by omega⟩,?_,?_⟩
   .simp only[cy,beq_iff_eq,BC];constructor<;>intro _<;>omega
   .simp only[cy,beq_iff_eq,BC];intro _;omega
theorem aXS (d:Int)(s:Nat)(hs:s<=127)(d0:0<=d)(d1:d<18446744073709551616):
  ∃h' l',hO 0 d (wl s)=some (h',l')/\0<=h'/\h'<18446744073709551616/\0<=l'/\l'<18446744073709551616/\h'*18446744073709551616+l'=d*2^s%340282366920938463463374607431768211456:=by
 simp only[hO,Sb,Pg.cC,Pg.ch,Pg.cQ,Pg.fB,Pg.eG];try delta wI wU
 by_cases c:64<=s
 .have e:decide (wl s>=64)=true:=by simp only[dJ];exact gy (by omega)
  have e2:IntKind.wrap .i64 (wl s-64)=wl (s-64):=(wrap_i64 (by simp only[dJ];omega) (by simp only[dJ];omega)).trans (by simp only[dJ];omega);have e3:(!decide (wl (s-64)<0))=true:=by simp
  have e4:min (ws (wl (s-64))) 64=s-64:=by
   show min (s-64) 64=s-64;omega
  simp only[e,e2,e3,e4,bz,wrap_u64];refine⟨_,_,rfl,by omega,by omega,by omega,by omega,?_⟩
  have p:(2:Int)^s=2^(s-64)*18446744073709551616:=by
   rw[show(18446744073709551616:Int)=2^64 from rfl,<-Int.pow_add];congr 1;omega
  rw[p,<-aks];generalize d*2^(s-64)=x
  omega
 .have e:decide (wl s>=64)=false:=by simp only[dJ];exact dq (by omega)
  have e2:IntKind.wrap .i64 (64-wl s)=wl (64-s):=(wrap_i64 (by simp only[dJ];omega) (by simp only[dJ];omega)).trans (by simp only[dJ];omega);have e3:∀n,(!decide (wl n<0))=true:=by simp
  have e4:min (ws (wl (64-s))) 64=64-s:=by
   show min (64-s) 64=64-s;omega
  have e5:min (ws (wl s)) 64=s:=by
   show min s 64=s;omega
  simp only[e,e2,e3,e4,e5,bz,bH,wrap_u64,Int.zero_mul];rw[rf _ _ (pg (mS _))]
  have pq:(18446744073709551616:Int)=2^s*2^(64-s):=by
   rw[<-Int.pow_add,show s+(64-s)=64 by omega];rfl
  have P0:=mS s;have Q0:=mS (64-s);have x0:0<=d/2^(64-s):=DA d0 (pg Q0);have x1:d/2^(64-s)<2^s:=aaO Q0 (by rw[<-pq];exact d1);have x2:d/2^(64-s)<=d:=aw9 _ d0;have z0:(0:Int)%18446744073709551616=0:=rfl;rw[z0]
  have key:wl (v4 (v9 64 0|||v9 64 (d/2^(64-s))))=d/2^(64-s):=by
   rw[ayA 0 (d/2^(64-s)) 0 (by omega) (by decide) x0 (by omega) (by omega) (by rw[show(2:Int)^0=1 from rfl,Int.emod_one])];omega
  rw[key];refine⟨_,_,rfl,by omega,by omega,by omega,by omega,?_⟩
  have m1:d*2^s/18446744073709551616=d/2^(64-s):=by
   rw[pq,EC d,Int.mul_ediv_mul_of_pos _ _ P0]
  have b1:d*2^s<340282366920938463463374607431768211456:=by
   have:=Int.mul_lt_mul_of_pos_right d1 P0;have q:(2:Int)^s<=2^64:=aoc (by omega);have q2:(2:Int)^64=18446744073709551616:=rfl;have q3:18446744073709551616*2^s<=(18446744073709551616:Int)*18446744073709551616:=Int.mul_le_mul_of_nonneg_left (by omega) (by omega);have q4:(18446744073709551616:Int)*18446744073709551616=340282366920938463463374607431768211456:=by decide
   omega
  have b0:0<=d*2^s:=IY d0 (pg P0);rw[EB b0 b1];have x3:d/2^(64-s)%18446744073709551616=d/2^(64-s):=EB x0 (by omega);rw[x3,<-m1];omega
theorem aod (a:Int)(s:Nat)(hs:s<=127)(a0: -9223372036854775808<=a)(a1:a<=9223372036854775807):
  ∃h l b,uX a (wl s)=some ((h,l),b)/\okW h l/\(b=true↔ -170141183460469231731687303715884105728<=a*2^s/\a*2^s<170141183460469231731687303715884105728)/\(b=true->vW h l=a*2^s)/\(b=false->h=0/\l=0):=by
 simp only[uX,abg,Pg.cC,Pg.ch,Pg.cQ,Pg.fB,Pg.eG];try delta wI wU
 have n0:decide (wl s<0)=false:=by simp
 have n1:decide (wl s>127)=false:=by simp only[dJ];exact dq (by omega)
 rw[n0,bH,n1,bH,aoE a a0 a1,bN];generalize hd:(if a<0 then -a else a)=d
 have d0:0<=d/\d<=9223372036854775808:=by split at hd<;>omega
 obtain⟨u,v,e1,u0,u1,v0,v1,e2⟩:=aXS d s hs d0.1 (by omega);rw[e1,bN];simp only;have P0:=mS s;have D0:0<=d*2^s:=IY d0.1 (pg P0)
 have sg:(a<0->a*2^s= -(d*2^s))/\(¬a<0->a*2^s=d*2^s):=by
  constructor<;>intro h
  .rw[if_pos h] at hd;rw[<-hd,Int.neg_mul,Int.neg_neg]
  .rw[if_neg h] at hd;rw[hd]
 have a08:∀{b:Bool},b=false->¬d*2^s<340282366920938463463374607431768211456->(b=true↔ -170141183460469231731687303715884105728<=a*2^s/\a*2^s<170141183460469231731687303715884105728):=by
  intro b hb hn;rw[hb];refine iff_of_false Bool.false_ne_true λh=> ?_;by_cases n:a<0
  .have:=sg.1 n;omega
  .have:=sg.2 n;omega
 have fin:d*2^s<340282366920938463463374607431768211456->∃h l b,(Option.bind (nD u v (decide (a<0))) λ(d:VD)=>bif !d.2 then some (((0,0),false):(Int×Int)×Bool) else some (d.1,true))=some ((h,l),b)/\okW h l/\(b=true↔ -170141183460469231731687303715884105728<=a*2^s/\a*2^s<170141183460469231731687303715884105728)/\(b=true->vW h l=a*2^s)/\(b=false->h=0/\l=0):=by
  intro lt;rw[EB D0 lt] at e2;obtain⟨h',l',b,e3,o3,f3,v3⟩:=aRe u v (decide (a<0)) u0 u1 v0 v1;rw[e3,bN];rw[e2] at f3 v3;by_cases n:a<0
  .have q:=sg.1 n;rw[gy n,if_pos rfl] at f3 v3;cases b with
   |false=>
    refine⟨0,0,false,rfl,⟨by omega,by omega,by omega,by omega⟩,?_,(λh=>by cases h),(λ_=>⟨rfl,rfl⟩)⟩;rw[f3];omega
   |true=>
    refine⟨h',l',true,rfl,o3,?_,(λ_=> ?_),(λh=>by cases h)⟩
    .rw[f3];omega
    .rw[v3 rfl];omega
  .have q:=sg.2 n;rw[dq n,if_neg (by decide)] at f3 v3;cases b with
   |false=>
    refine⟨0,0,false,rfl,⟨by omega,by omega,by omega,by omega⟩,?_,(λh=>by cases h),(λ_=>⟨rfl,rfl⟩)⟩;rw[f3];omega
   |true=>
    refine⟨h',l',true,rfl,o3,?_,(λ_=> ?_),(λh=>by cases h)⟩
    .rw[f3];omega
    .rw[v3 rfl];omega
 have shr:∃x y,jg u v (wl s)=some (x,y)/\0<=x/\0<=y/\y<18446744073709551616/\x*18446744073709551616+y=(u*18446744073709551616+v)/2^s:=by
  rcases o7 s 127 with c|c
  .exact aws u v s (by omega) u0 u1 v0 v1
  .obtain rfl:s=127:=by omega
   refine⟨0,u/9223372036854775808,?_,by omega,by omega,by omega,?_⟩
   .simp only[jg,Ic,Pg.cC,Pg.ch,Pg.cQ,Pg.fB,Pg.eG];try delta wI wU
    have k1:decide (wl 127>=64)=true:=by decide
    have k2:(!decide (IntKind.wrap .i64 (wl 127-64)<0))=true:=by decide
    have k3:(2:Int)^min (ws (IntKind.wrap .i64 (wl 127-64))) 64=9223372036854775808:=by decide
    simp only[k1,k2,k3,bz];rw[rf _ _ (by omega)]
   .have k:(2:Int)^127=170141183460469231731687303715884105728:=by decide
    rw[k];omega
 obtain⟨x,y,e3,x0,y0,y1,e4⟩:=shr;rw[e3,bN];simp only;rw[e2] at e4;by_cases lt:d*2^s<340282366920938463463374607431768211456
 .rw[EB D0 lt,Int.mul_ediv_cancel _ (by omega)] at e4;have xe:(x==0)=true:=by rw[beq_iff_eq];omega
  have ye:(y==d)=true:=by rw[beq_iff_eq];omega
  rw[xe,ye];exact fin lt
 .have small:d*2^s%340282366920938463463374607431768211456/2^s<d:=by
   refine aaO P0 ?_;have:d*2^s%340282366920938463463374607431768211456<340282366920938463463374607431768211456:=Vj _ (by omega);omega
  have ne:(x==0&&(y==d&&true))=false:=by
   rw[Bool.and_true];by_cases xz:x=0
   .have:(y==d)=false:=by rw[ako];omega
    rw[this,Bool.and_false]
   .have:(x==0)=false:=by rw[ako];omega
    rw[this,Bool.false_and]
  rw[ne];exact⟨0,0,false,rfl,⟨by omega,by omega,by omega,by omega⟩,a08 rfl lt,(λh=>by cases h),(λ_=>⟨rfl,rfl⟩)⟩
theorem RQ (x:Int)(h0:1<=x)(h1:x<256):∃n:Nat,1<=n/\n<=8/\(2:Int)^(n-1)<=x/\x<2^n/\bg (IntKind.wrap .u8 x) 256=true/\IntKind.wrap .i64 (DV (ByteArray.mk (List.toArray (t9 (t9 [0,1,2,2,3,3,3,3,4,4,4,4,4,4,4,4,5,5,5,5,5,5,5,5,5,5,5,5,5,5,5,5,6,6,6,6,6,6,6,6,6,6,6,6,6,6,6,6,6,6,6,6,6,6,6,6,6,6,6,6,6,6,6,6] [7,7,7,7,7,7,7,7,7,7,7,7,7,7,7,7,7,7,7,7,7,7,7,7,7,7,7,7,7,7,7,7,7,7,7,7,7,7,7,7,7,7,7,7,7,7,7,7,7,7,7,7,7,7,7,7,7,7,7,7,7,7,7,7]) (t9 [8,8,8,8,8,8,8,8,8,8,8,8,8,8,8,8,8,8,8,8,8,8,8,8,8,8,8,8,8,8,8,8,8,8,8,8,8,8,8,8,8,8,8,8,8,8,8,8,8,8,8,8,8,8,8,8,8,8,8,8,8,8,8,8] [8,8,8,8,8,8,8,8,8,8,8,8,8,8,8,8,8,8,8,8,8,8,8,8,8,8,8,8,8,8,8,8,8,8,8,8,8,8,8,8,8,8,8,8,8,8,8,8,8,8,8,8,8,8,8,8,8,8,8,8,8,8,8,8])))) (ws (IntKind.wrap IntKind.u8 x)))=(n:Int):=by
 obtain⟨a,rfl⟩:∃a:Nat,x=(a:Int):=⟨x.toNat,by omega⟩;have t:∀a:Fin 256,1<=a.val->(bg (IntKind.wrap .u8 (a.val:Int)) 256=true/\IntKind.wrap .i64 (DV (ByteArray.mk (List.toArray (t9 (t9 [0,1,2,2,3,3,3,3,4,4,4,4,4,4,4,4,5,5,5,5,5,5,5,5,5,5,5,5,5,5,5,5,6,6,6,6,6,6,6,6,6,6,6,6,6,6,6,6,6,6,6,6,6,6,6,6,6,6,6,6,6,6,6,6] [7,7,7,7,7,7,7,7,7,7,7,7,7,7,7,7,7,7,7,7,7,7,7,7,7,7,7,7,7,7,7,7,7,7,7,7,7,7,7,7,7,7,7,7,7,7,7,7,7,7,7,7,7,7,7,7,7,7,7,7,7,7,7,7]) (t9 [8,8,8,8,8,8,8,8,8,8,8,8,8,8,8,8,8,8,8,8,8,8,8,8,8,8,8,8,8,8,8,8,8,8,8,8,8,8,8,8,8,8,8,8,8,8,8,8,8,8,8,8,8,8,8,8,8,8,8,8,8,8,8,8] [8,8,8,8,8,8,8,8,8,8,8,8,8,8,8,8,8,8,8,8,8,8,8,8,8,8,8,8,8,8,8,8,8,8,8,8,8,8,8,8,8,8,8,8,8,8,8,8,8,8,8,8,8,8,8,8,8,8,8,8,8,8,8,8])))) (ws (IntKind.wrap IntKind.u8 (a.val:Int))))=((Nat.log2 a.val+1:Nat):Int)):=by decide+kernel
 have ha:1<=a:=by omega
 have a2G:a<256:=by omega
 have l1:=Nat.log2_self_le (n:=a) (by omega);have l2:a<2^(a.log2+1):=Nat.lt_log2_self
 have lb:a.log2<8:=by
  rcases o7 a.log2 8 with c|c
  .exact c
  .have:2^8<=2^a.log2:=Nat.pow_le_pow_right (by decide) c;omega
 have k:=t ⟨a,a2G⟩ ha;refine⟨a.log2+1,by omega,by omega,?_,?_,k.1,k.2⟩
 .rw[Nat.add_sub_cancel];have:((2^a.log2:Nat):Int)=(2:Int)^a.log2:=by simp
  omega
 .have:((2^(a.log2+1):Nat):Int)=(2:Int)^(a.log2+1):=by simp
  omega
theorem pow_add' (a b:Nat):(2:Int)^(a+b)=2^a*2^b:=Int.pow_add _ _ _
theorem FF (x:Int)(b n:Nat)(hn:1<=n)(h0:(2:Int)^(n-1)<=x/2^b)(h1:x/2^b<2^n):(2:Int)^(n+b-1)<=x/\x<2^(n+b):=by
 have B0:=mS b;have e1:(2:Int)^(n+b-1)=2^(n-1)*2^b:=by rw[<-pow_add'];congr 1;omega
 have e2:(2:Int)^(n+b)=2^n*2^b:=pow_add' _ _;rw[e1,e2];exact⟨Int.mul_le_of_le_ediv B0 h0,Int.lt_mul_of_ediv_lt B0 h1⟩
theorem aZe (x:Int)(h0:1<=x)(h1:x<18446744073709551616):∃n:Nat,1<=n/\n<=64/\(2:Int)^(n-1)<=x/\x<2^n/\Hr x=some (n:Int):=by
 have f1:∀a:Int,ul a 256=a/256:=λa=>rf _ _ (by omega)
 have f2:∀a:Int,ul a 65536=a/65536:=λa=>rf _ _ (by omega)
 have f3:∀a:Int,ul a 4294967296=a/4294967296:=λa=>rf _ _ (by omega)
 simp only[Hr,abb,Pg.cC,Pg.ch,Pg.cQ,Pg.fB,Pg.eG,f1,f2,f3];try delta wI wU
 by_cases c:x>=4294967296
 .by_cases d:x/4294967296>=65536
  .by_cases e:x/4294967296/65536>=256
   .have q:x/4294967296/65536/256=x/2^56:=by rw[show(2:Int)^56=72057594037927936 from rfl]<;>omega
    obtain⟨n,n1,n2,b0,b1,t1,t2⟩:=RQ (x/4294967296/65536/256) (by omega) (by omega);rw[q] at b0 b1;obtain⟨c0,c1⟩:=FF x 56 n n1 b0 b1;refine⟨n+56,by omega,by omega,c0,c1,?_⟩;rw[gy c,bz,gy d,bz,gy e,bz,t1,bz,t2,wrap_i64 (n:=56+(n:Int)) (by omega) (by omega)];exact cM (some:Int->Option Int) (by omega)
   .have q:x/4294967296/65536=x/2^48:=by rw[show(2:Int)^48=281474976710656 from rfl]<;>omega
    obtain⟨n,n1,n2,b0,b1,t1,t2⟩:=RQ (x/4294967296/65536) (by omega) (by omega);rw[q] at b0 b1;obtain⟨c0,c1⟩:=FF x 48 n n1 b0 b1;refine⟨n+48,by omega,by omega,c0,c1,?_⟩;rw[gy c,bz,gy d,bz,dq e,bH,t1,bz,t2,wrap_i64 (n:=48+(n:Int)) (by omega) (by omega)];exact cM (some:Int->Option Int) (by omega)
  .by_cases e:x/4294967296>=256
   .have q:x/4294967296/256=x/2^40:=by rw[show(2:Int)^40=1099511627776 from rfl]<;>omega
    obtain⟨n,n1,n2,b0,b1,t1,t2⟩:=RQ (x/4294967296/256) (by omega) (by omega);rw[q] at b0 b1;obtain⟨c0,c1⟩:=FF x 40 n n1 b0 b1;refine⟨n+40,by omega,by omega,c0,c1,?_⟩;rw[gy c,bz,dq d,bH,gy e,bz,t1,bz,t2,wrap_i64 (n:=40+(n:Int)) (by omega) (by omega)];exact cM (some:Int->Option Int) (by omega)
   .have q:x/4294967296=x/2^32:=by rw[show(2:Int)^32=4294967296 from rfl]<;>omega
    obtain⟨n,n1,n2,b0,b1,t1,t2⟩:=RQ (x/4294967296) (by omega) (by omega);rw[q] at b0 b1;obtain⟨c0,c1⟩:=FF x 32 n n1 b0 b1;refine⟨n+32,by omega,by omega,c0,c1,?_⟩;rw[gy c,bz,dq d,bH,dq e,bH,t1,bz,t2,wrap_i64 (n:=32+(n:Int)) (by omega) (by omega)];exact cM (some:Int->Option Int) (by omega)
 .by_cases d:x>=65536
  .by_cases e:x/65536>=256
   .have q:x/65536/256=x/2^24:=by rw[show(2:Int)^24=16777216 from rfl]<;>omega
    obtain⟨n,n1,n2,b0,b1,t1,t2⟩:=RQ (x/65536/256) (by omega) (by omega);rw[q] at b0 b1;obtain⟨c0,c1⟩:=FF x 24 n n1 b0 b1;refine⟨n+24,by omega,by omega,c0,c1,?_⟩;rw[dq c,bH,gy d,bz,gy e,bz,t1,bz,t2,wrap_i64 (n:=24+(n:Int)) (by omega) (by omega)];exact cM (some:Int->Option Int) (by omega)
   .have q:x/65536=x/2^16:=by rw[show(2:Int)^16=65536 from rfl]<;>omega
    obtain⟨n,n1,n2,b0,b1,t1,t2⟩:=RQ (x/65536) (by omega) (by omega);rw[q] at b0 b1;obtain⟨c0,c1⟩:=FF x 16 n n1 b0 b1;refine⟨n+16,by omega,by omega,c0,c1,?_⟩;rw[dq c,bH,gy d,bz,dq e,bH,t1,bz,t2,wrap_i64 (n:=16+(n:Int)) (by omega) (by omega)];exact cM (some:Int->Option Int) (by omega)
  .by_cases e:x>=256
   .have q:x/256=x/2^8:=by rw[show(2:Int)^8=256 from rfl]<;>omega
    obtain⟨n,n1,n2,b0,b1,t1,t2⟩:=RQ (x/256) (by omega) (by omega);rw[q] at b0 b1;obtain⟨c0,c1⟩:=FF x 8 n n1 b0 b1;refine⟨n+8,by omega,by omega,c0,c1,?_⟩;rw[dq c,bH,dq d,bH,gy e,bz,t1,bz,t2,wrap_i64 (n:=8+(n:Int)) (by omega) (by omega)];exact cM (some:Int->Option Int) (by omega)
   .have q:x=x/2^0:=by rw[show(2:Int)^0=1 from rfl]<;>omega
    obtain⟨n,n1,n2,b0,b1,t1,t2⟩:=RQ (x) (by omega) (by omega);rw[q] at b0 b1;obtain⟨c0,c1⟩:=FF x 0 n n1 b0 b1;refine⟨n+0,by omega,by omega,c0,c1,?_⟩;rw[dq c,bH,dq d,bH,dq e,bH,t1,bz,t2,wrap_i64 (n:=0+(n:Int)) (by omega) (by omega)];exact cM (some:Int->Option Int) (by omega)
theorem aXT (x:Int)(h0:1<=x)(h1:x<18446744073709551616):∃s:Nat,s<=63/\9223372036854775808<=x*2^s/\x*2^s<18446744073709551616/\pw x=some (s:Int):=by
 obtain⟨n,n1,n2,b0,b1,e⟩:=aZe x h0 h1;refine⟨64-n,by omega,?_,?_,?_⟩
 .have p:(9223372036854775808:Int)=2^(n-1)*2^(64-n):=by
   rw[<-pow_add',show n-1+(64-n)=63 by omega];rfl
  rw[p];exact apD b0 (pg (mS _))
 .have p:(18446744073709551616:Int)=2^n*2^(64-n):=by
   rw[<-pow_add',show n+(64-n)=64 by omega];rfl
  rw[p];exact Int.mul_lt_mul_of_pos_right b1 (mS _)
 .simp only[pw,BF,Pg.cC,Pg.ch,Pg.cQ,Pg.fB,Pg.eG];try delta wI wU
  rw[e,bN,wrap_i64 (by omega) (by omega)];exact cM (some:Int->Option Int) (by omega)
structure Dig (Y iz zo U u:Int):Prop where
 y:Y=iz*4294967296+zo
 a:2147483648<=iz/\iz<4294967296
 b:0<=zo/\zo<4294967296
 u0:0<=U/\U<Y
 d:0<=u/\u<4294967296
theorem Dig.lt {Y iz zo U u:Int}(h:Dig Y iz zo U u):0<=(U*4294967296+u)/Y/\(U*4294967296+u)/Y<4294967296:=by
 obtain⟨y,a,b,u0,d⟩:=h;constructor
 .exact DA (by omega) (by omega)
 .refine aaO (by omega) ?_;omega
theorem Dig.down {Y iz zo U u q rh:Int}(h:Dig Y iz zo U u)(e:q*iz+rh=U)(c:4294967296*rh+u<q*zo):(U*4294967296+u)/Y<=q-1:=by
 obtain⟨y,a,b,u0,d⟩:=h
 have:(U*4294967296+u)/Y<q:=by
  refine aaO (by omega) ?_;have e2:q*Y=(q*iz)*4294967296+q*zo:=by rw[y];grind
  omega
 omega
theorem Dig.stay {Y iz zo U u q rh:Int}(h:Dig Y iz zo U u)(e:q*iz+rh=U)(c:q*zo<=4294967296*rh+u)(l:(U*4294967296+u)/Y<=q):q=(U*4294967296+u)/Y:=by
 obtain⟨y,a,b,u0,d⟩:=h
 have:q<=(U*4294967296+u)/Y:=by
  refine(Int.le_ediv_iff_mul_le (by omega)).2 ?_;have e2:q*Y=(q*iz)*4294967296+q*zo:=by rw[y];grind
  omega
 omega
theorem Dig.out {Y iz zo U u q rh:Int}(h:Dig Y iz zo U u)(e:q*iz+rh=U)(q0:0<=q)(c:4294967296<=rh)(l:(U*4294967296+u)/Y<=q):q=(U*4294967296+u)/Y:=by
 have h':=h;obtain⟨y,a,b,u0,d⟩:=h;refine h'.stay e ?_ l
 have q1:q<=4294967295:=by
  rcases afc q 4294967296 with k|k
  .omega
  .exfalso
   have:=apD k (show 0<=iz by omega);omega
 have:=NK q1 (show zo<=4294967295 by omega) b.1 (by omega);omega
theorem aZf {ρ:Type}(Y s iz zo U u u0:Int)(h:Dig Y iz zo U u)(k:_->Option ρ)(r:Option ρ)
  (h1:∀rh a b c d,k (Sum.inl (Y,s,iz,zo,U,u,u0,(U*4294967296+u)/Y,rh,a,b,c,d))=r)
  (h2:∀rh a b c d e f g i,k (Sum.inr (Sum.inl (Y,s,iz,zo,U,u,u0,(U*4294967296+u)/Y,rh,a,b,c,d,e,f,g,i)))=r)
  (h3:∀rh a b c d e,k (Sum.inr (Sum.inr (Y,s,iz,zo,U,u,u0,(U*4294967296+u)/Y,rh,a,b,c,d,e)))=r):
  (Ii (Y,s,iz,zo,U,u,u0,U/iz,U%iz)).bind k=r:=by
 have h':=h;obtain⟨y,a,b,hu,d⟩:=h;have lt:=h'.lt;have qm:=aw2 U iz;have m0:=aaS U (show iz≠0 by omega);have m1:=Vj U (show 0<iz by omega);have qn:=DA hu.1 (show 0<=iz by omega)
 have start:(U*4294967296+u)/Y<=U/iz:=by
  have e2:(U*4294967296+u)/Y<U/iz+1:=by
   refine aaO (by omega) ?_;have e3:(U/iz+1)*Y=(iz*(U/iz))*4294967296+iz*4294967296+(U/iz+1)*zo:=by rw[y];grind
   have:=IY (show 0<=U/iz+1 by omega) b.1;omega
  omega
 unfold Ii
 refine NX (λt x=>∃(q rh:Int),0<=q/\q*iz+rh=U/\(U*4294967296+u)/Y<=q/\(2-(t:Int))*2147483648<=rh/\0<=rh/\rh<4294967296/\x=(Y,s,iz,zo,U,u,u0,q,rh)) ?_ 2000 2 _ (by omega)
  ⟨U/iz,U%iz,qn,by rw[EC];exact qm,start,by omega,m0,by omega,rfl⟩
 rintro t _ c ⟨q,rh,q0,e,l,tb,r0,r1,rfl⟩ hc
 have down:(U*4294967296+u)/Y<=q-1->0<=q-1->(q-1)*iz+(rh+iz)=U:=λ_ _=>by
  have:(q-1)*iz=q*iz-iz:=by grind
  omega
 have qb:q<=4294967298:=by
  rcases afc q 4294967298 with k|k
  .omega
  .exfalso
   have:=apD k (show 0<=iz by omega);omega
 have w1:IntKind.wrap .u64 (rh+iz)=rh+iz:=by rw[wrap_u64];omega
 by_cases c1:q>=4294967296
 .have d1:(U*4294967296+u)/Y<=q-1:=by omega
  have w2:IntKind.wrap .u64 (q-1)=q-1:=by rw[wrap_u64];omega
  have e2:=down d1 (by omega);simp only[Ih,Pg.vY,Pg.vZ,Pg.Az,Pg.FH,Pg.v5,qH,mM,wU,gy c1,bz,w1,w2];by_cases c2:rh+iz>=4294967296
  .rw[gy c2,bz,h'.out e2 (by omega) c2 d1];exact h1 _ _ _ _ _
  .rw[dq c2,bH];have t1:1<=t:=by omega
   exact hc (t-1) _ (by omega) ⟨q-1,rh+iz,by omega,e2,d1,by omega,by omega,by omega,rfl⟩
 .have pm:0<=q*zo/\q*zo<18446744073709551616:=by
   refine⟨IY q0 b.1,?_⟩;have:=NK (show q<=4294967295 by omega) (show zo<=4294967295 by omega) b.1 (by omega);omega
  have w3:IntKind.wrap .u64 (q*zo)=q*zo:=by rw[wrap_u64];omega
  have w4:IntKind.wrap .u64 (4294967296*rh)=4294967296*rh:=by rw[wrap_u64];omega
  have w5:IntKind.wrap .u64 (4294967296*rh+u)=4294967296*rh+u:=by rw[wrap_u64];omega
  simp only[Ih,Pg.vY,Pg.vZ,Pg.Az,Pg.FH,Pg.v5,qH,mM,wU,dq c1,bH,w1,w3,w4,w5];by_cases c3:q*zo>4294967296*rh+u
  .have d1:=h'.down e c3
   have qp:1<=q:=by
    rcases afc 0 q with k|k
    .omega
    .exfalso
     have:q=0:=by omega
     subst this;omega
   have w2:IntKind.wrap .u64 (q-1)=q-1:=by rw[wrap_u64];omega
   have e2:=down d1 (by omega);rw[gy c3,bz,w2];by_cases c2:rh+iz>=4294967296
   .rw[gy c2,bz,h'.out e2 (by omega) c2 d1];exact h2 _ _ _ _ _ _ _ _ _
   .rw[dq c2,bH];exact hc (t-1) _ (by omega) ⟨q-1,rh+iz,by omega,e2,d1,by omega,by omega,by omega,rfl⟩
  .rw[dq c3,bH,h'.stay e (by omega) l];exact h3 _ _ _ _ _ _
theorem aZg {ρ:Type}(Y s iz zo U u q1:Int)(h:Dig Y iz zo U u)(k:_->Option ρ)(r:Option ρ)
  (h1:∀rh a b c d,k (Sum.inl (Y,s,iz,zo,u,q1,rh,U,(U*4294967296+u)/Y,a,b,c,d))=r)
  (h2:∀rh a b c d e f g i,k (Sum.inr (Sum.inl (Y,s,iz,zo,u,q1,rh,U,(U*4294967296+u)/Y,a,b,c,d,e,f,g,i)))=r)
  (h3:∀rh a b c d e,k (Sum.inr (Sum.inr (Y,s,iz,zo,u,q1,rh,U,(U*4294967296+u)/Y,a,b,c,d,e)))=r):
  (Ik (Y,s,iz,zo,u,q1,U%iz,U,U/iz)).bind k=r:=by
 have h':=h;obtain⟨y,a,b,hu,d⟩:=h;have lt:=h'.lt;have qm:=aw2 U iz;have m0:=aaS U (show iz≠0 by omega);have m1:=Vj U (show 0<iz by omega);have qn:=DA hu.1 (show 0<=iz by omega)
 have start:(U*4294967296+u)/Y<=U/iz:=by
  have e2:(U*4294967296+u)/Y<U/iz+1:=by
   refine aaO (by omega) ?_;have e3:(U/iz+1)*Y=(iz*(U/iz))*4294967296+iz*4294967296+(U/iz+1)*zo:=by rw[y];grind
   have:=IY (show 0<=U/iz+1 by omega) b.1;omega
  omega
 unfold Ik
 refine NX (λt x=>∃(q rh:Int),0<=q/\q*iz+rh=U/\(U*4294967296+u)/Y<=q/\(2-(t:Int))*2147483648<=rh/\0<=rh/\rh<4294967296/\x=(Y,s,iz,zo,u,q1,rh,U,q)) ?_ 2000 2 _ (by omega)
  ⟨U/iz,U%iz,qn,by rw[EC];exact qm,start,by omega,m0,by omega,rfl⟩
 rintro t _ c ⟨q,rh,q0,e,l,tb,r0,r1,rfl⟩ hc
 have down:(U*4294967296+u)/Y<=q-1->0<=q-1->(q-1)*iz+(rh+iz)=U:=λ_ _=>by
  have:(q-1)*iz=q*iz-iz:=by grind
  omega
 have qb:q<=4294967298:=by
  rcases afc q 4294967298 with k|k
  .omega
  .exfalso
   have:=apD k (show 0<=iz by omega);omega
 have w1:IntKind.wrap .u64 (rh+iz)=rh+iz:=by rw[wrap_u64];omega
 by_cases c1:q>=4294967296
 .have d1:(U*4294967296+u)/Y<=q-1:=by omega
  have w2:IntKind.wrap .u64 (q-1)=q-1:=by rw[wrap_u64];omega
  have e2:=down d1 (by omega);simp only[Ij,Pg.vY,Pg.vZ,Pg.Az,Pg.FH,Pg.v5,qH,mM,wU,gy c1,bz,w1,w2];by_cases c2:rh+iz>=4294967296
  .rw[gy c2,bz,h'.out e2 (by omega) c2 d1];exact h1 _ _ _ _ _
  .rw[dq c2,bH];have t1:1<=t:=by omega
   exact hc (t-1) _ (by omega) ⟨q-1,rh+iz,by omega,e2,d1,by omega,by omega,by omega,rfl⟩
 .have pm:0<=q*zo/\q*zo<18446744073709551616:=by
   refine⟨IY q0 b.1,?_⟩;have:=NK (show q<=4294967295 by omega) (show zo<=4294967295 by omega) b.1 (by omega);omega
  have w3:IntKind.wrap .u64 (q*zo)=q*zo:=by rw[wrap_u64];omega
  have w4:IntKind.wrap .u64 (4294967296*rh)=4294967296*rh:=by rw[wrap_u64];omega
  have w5:IntKind.wrap .u64 (4294967296*rh+u)=4294967296*rh+u:=by rw[wrap_u64];omega
  simp only[Ij,Pg.vY,Pg.vZ,Pg.Az,Pg.FH,Pg.v5,qH,mM,wU,dq c1,bH,w1,w3,w4,w5];by_cases c3:q*zo>4294967296*rh+u
  .have d1:=h'.down e c3
   have qp:1<=q:=by
    rcases afc 0 q with k|k
    .omega
    .exfalso
     have:q=0:=by omega
     subst this;omega
   have w2:IntKind.wrap .u64 (q-1)=q-1:=by rw[wrap_u64];omega
   have e2:=down d1 (by omega);rw[gy c3,bz,w2];by_cases c2:rh+iz>=4294967296
   .rw[gy c2,bz,h'.out e2 (by omega) c2 d1];exact h2 _ _ _ _ _ _ _ _ _
   .rw[dq c2,bH];exact hc (t-1) _ (by omega) ⟨q-1,rh+iz,by omega,e2,d1,by omega,by omega,by omega,rfl⟩
  .rw[dq c3,bH,h'.stay e (by omega) l];exact h3 _ _ _ _ _ _
theorem aTD (hi lo y:Int)(h0:0<=hi)(h1:hi<y)(h2:y<18446744073709551616)(l0:0<=lo)(l1:lo<18446744073709551616):
  Ht hi lo y=some ((hi*18446744073709551616+lo)/y,(hi*18446744073709551616+lo)%y):=by
 simp only[Ht,abc,Pg.cC,Pg.ch,Pg.cQ,Pg.fB,Pg.eG];try delta wI wU
 have y0:(y==0)=false:=by rw[ako];omega
 rw[y0,bH,dq (show ¬y<=hi by omega),bH];by_cases hz:hi=0
 .subst hz;have z:((0:Int)==0)=true:=rfl;have yn:(!decide (y=0))=true:=by rw[dq (by omega)];rfl
  rw[z,bz,yn,bz,bz,Int.zero_mul,aDm,ayZ l0,Int.tmod_eq_emod_of_nonneg l0];have d0:=DA l0 (show 0<=y by omega);have d1:=aw9 y l0;have w:IntKind.wrap .u64 (lo/y)=lo/y:=by rw[wrap_u64];omega
  rw[w]
 have z:(hi==0)=false:=by rw[ako];exact hz
 rw[z,bH];obtain⟨s,s63,b0,b1,e⟩:=aXT y (by omega) h2;rw[e,bN];have P0:=mS s;have Q0:=mS (64-s);have k1:IntKind.wrap .u64 (s:Int)=(s:Int):=by rw[wrap_u64];omega
 have k2:IntKind.wrap .u64 (64-(s:Int))=((64-s:Nat):Int):=by rw[wrap_u64];omega
 have k3:∀n:Nat,(!decide ((n:Int)<0))=true:=λn=>by rw[dq (by omega)];rfl
 have k4:min (ws (s:Int)) 64=s:=by rw[Int.toNat_natCast];omega
 have k5:min (ws ((64-s:Nat):Int)) 64=64-s:=by rw[Int.toNat_natCast];omega
 have k6:IntKind.wrap .u64 (y*2^s)=y*2^s:=by rw[wrap_u64];omega
 simp only[k1,k2,k3,k4,k5,k6,bz]
 have pq:(18446744073709551616:Int)=2^s*2^(64-s):=by
  rw[<-pow_add',show s+(64-s)=64 by omega];rfl
 have ab:hi*2^s+2^s<=y*2^s:=by
  have:=apD (show hi+1<=y by omega) (pg P0);rw[afd] at this;omega
 have a0:0<=hi*2^s:=IY h0 (pg P0);have x0:0<=lo/2^(64-s):=DA l0 (pg Q0);have x1:lo/2^(64-s)<2^s:=aaO Q0 (by rw[<-pq];exact l1);have k7:IntKind.wrap .u64 (hi*2^s)=hi*2^s:=by rw[wrap_u64];omega
 have or1:wl (v4 (v9 64 (hi*2^s)|||v9 64 (ul lo (2^(64-s)))))=hi*2^s+lo/2^(64-s):=by
  rw[rf _ _ (pg Q0),BitVec.or_comm,ayA _ _ s x0 x1 a0 (by omega) (by omega) (Int.mul_emod_left _ _)];omega
 have k8:IntKind.wrap .u64 (hi*2^s+lo/2^(64-s))=hi*2^s+lo/2^(64-s):=by rw[wrap_u64];omega
 simp only[k7,or1,k8];rw[wrap_u64 (lo*2^s)];have c0:0<=lo*2^s%18446744073709551616/\lo*2^s%18446744073709551616<18446744073709551616:=by omega
 have N:(hi*2^s+lo/2^(64-s))*18446744073709551616+lo*2^s%18446744073709551616=(hi*18446744073709551616+lo)*2^s:=by
  have m1:lo*2^s/18446744073709551616=lo/2^(64-s):=by
   rw[pq,EC lo,Int.mul_ediv_mul_of_pos _ _ P0]
  have m2:lo*2^s=lo*2^s/18446744073709551616*18446744073709551616+lo*2^s%18446744073709551616:=by omega
  have m3:(hi*18446744073709551616+lo)*2^s=hi*2^s*18446744073709551616+lo*2^s:=by grind
  rw[m3,<-m1];omega
 have U1:0<=hi*2^s+lo/2^(64-s)/\hi*2^s+lo/2^(64-s)<y*2^s:=by omega
 have am1:∀x:Int,0<=x->x<18446744073709551616->IntKind.wrap .u64 (wl (v4 (v9 64 x&&&v9 64 4294967295)))=x%4294967296:=λx x0 x1=>by
  rw[aoD x x0 x1,wrap_u64];omega
 rw[am1 (y*2^s) (by omega) b1,am1 _ c0.1 c0.2];simp only[rf _ 4294967296 (show(0:Int)<=4294967296 by decide)]
 have A1:(hi*18446744073709551616+lo)/y=(hi*18446744073709551616+lo)*2^s/(y*2^s):=by
  rw[EC _ (2^s),EC y,Int.mul_ediv_mul_of_pos _ _ P0]
 have A2:(hi*18446744073709551616+lo)%y=(hi*18446744073709551616+lo)*2^s%(y*2^s)/2^s:=by
  rw[EC _ (2^s),EC y,Int.mul_emod_mul_of_pos _ _ P0,Int.mul_ediv_cancel_left _ (by omega)]
 rw[A1,A2,<-N];generalize hi*2^s+lo/2^(64-s)=U at*
 generalize lo*2^s%18446744073709551616=L at*
 generalize hY:y*2^s=Y at*
 generalize h2s:(2:Int)^s=P at*
 clear N A1 A2 or1 k7 k8 x0 x1 ab a0 pq k6 e
 have hY1:2147483648<=Y/4294967296/\Y/4294967296<4294967296:=by omega
 have g1:Dig Y (Y/4294967296) (Y%4294967296) U (L/4294967296):=⟨by omega,hY1,by omega,U1,by omega⟩;have yz:(!decide (Y/4294967296=0))=true:=by rw[dq (by omega)];rfl
 have Q1:=g1.lt;have R1:=aw2 (U*4294967296+L/4294967296) Y;have R1a:=aaS (U*4294967296+L/4294967296) (show Y≠0 by omega);have R1b:=Vj (U*4294967296+L/4294967296) (show 0<Y by omega)
 have q0:IntKind.wrap .u64 (t7 U (Y/4294967296))=U/(Y/4294967296):=by
  rw[ayZ U1.1,wrap_u64];have:=DA U1.1 (show 0<=Y/4294967296 by omega);have:=aw9 (Y/4294967296) U1.1;omega
 have r0:IntKind.wrap .u64 (U-IntKind.wrap .u64 (U/(Y/4294967296)*(Y/4294967296)))=U%(Y/4294967296):=by
  have qm:=Int.ediv_mul_add_emod U (Y/4294967296);have m0:=aaS U (show Y/4294967296≠0 by omega);have m1:=Vj U (show 0<Y/4294967296 by omega);rw[wrap_u64,wrap_u64];generalize U/(Y/4294967296)*(Y/4294967296)=A at*
  omega
 simp only[yz,bz,q0,r0];generalize hQ1:(U*4294967296+L/4294967296)/Y=q1 at*
 generalize hR1:(U*4294967296+L/4294967296)%Y=R at*
 have g2:Dig Y (Y/4294967296) (Y%4294967296) R (L%4294967296):=⟨by omega,hY1,by omega,⟨R1a,R1b⟩,by omega⟩;have Q2:=g2.lt;have R2:=aw2 (R*4294967296+L%4294967296) Y;have R2a:=aaS (R*4294967296+L%4294967296) (show Y≠0 by omega);have R2b:=Vj (R*4294967296+L%4294967296) (show 0<Y by omega);generalize hQ2:(R*4294967296+L%4294967296)/Y=q2 at*
 generalize hR2:(R*4294967296+L%4294967296)%Y=R' at*
 have un:IntKind.wrap .u64 (IntKind.wrap .u64 (IntKind.wrap .u64 (U*4294967296)+L/4294967296)-IntKind.wrap .u64 (q1*Y))=R:=by
  rw[EC q1 Y];simp only[wrap_u64];generalize Y*q1=A at*
  omega
 have q3:IntKind.wrap .u64 (t7 R (Y/4294967296))=R/(Y/4294967296):=by
  rw[ayZ R1a,wrap_u64];have:=DA R1a (show 0<=Y/4294967296 by omega);have:=aw9 (Y/4294967296) R1a;omega
 have r3:IntKind.wrap .u64 (R-IntKind.wrap .u64 (R/(Y/4294967296)*(Y/4294967296)))=R%(Y/4294967296):=by
  have qm:=Int.ediv_mul_add_emod R (Y/4294967296);have m0:=aaS R (show Y/4294967296≠0 by omega);have m1:=Vj R (show 0<Y/4294967296 by omega);rw[wrap_u64,wrap_u64];generalize R/(Y/4294967296)*(Y/4294967296)=A at*
  omega
 have un2:IntKind.wrap .u64 (IntKind.wrap .u64 (IntKind.wrap .u64 (R*4294967296)+L%4294967296)-IntKind.wrap .u64 (q2*Y))=R':=by
  rw[EC q2 Y];simp only[wrap_u64];generalize Y*q2=A at*
  omega
 have quo:IntKind.wrap .u64 (IntKind.wrap .u64 (q1*4294967296)+q2)=q1*4294967296+q2:=by
  simp only[wrap_u64];omega
 have ans:(U*18446744073709551616+L)/Y=q1*4294967296+q2/\(U*18446744073709551616+L)%Y=R':=by
  have e:U*18446744073709551616+L=R'+Y*(q1*4294967296+q2):=by
   have e2:Y*(q1*4294967296+q2)=Y*q1*4294967296+Y*q2:=by grind
   rw[e2];omega
  rw[e];constructor
  .rw[Int.add_mul_ediv_left _ _ (by omega),Int.ediv_eq_zero_of_lt R2a R2b,aDm]
  .rw[Int.add_mul_emod_self_left,EB R2a R2b]
 rw[ans.1,ans.2];refine aZf Y s _ _ U _ _ g1 _ _ ?_ ?_ ?_
 all_goals
  intros
  simp only[qH,mM,hQ1,yz,bz,un,q3,r3];refine aZg Y s _ _ R _ _ g2 _ _ ?_ ?_ ?_
  all_goals
   intros
   simp only[qH,mM,hQ2,k3,bz,un2,quo,k4,h2s];rw[rf _ _ (pg P0)]
def lQ (x:Int):Int:=if x<0 then -x else x
theorem aK2 (x:Int):0<=lQ x:=by unfold lQ;split<;>omega
def qdq (V D:Int):Int:=V/D+(if 2*(V%D)<D then 0 else 1)
def Nh (a d:Int):Int:=if (decide (a<0))=(decide (d<0)) then qdq (lQ a) (lQ d) else -qdq (lQ a) (lQ d)
theorem aIC (h l d:Int)(o:okW h l)(d0: -9223372036854775808<=d)(d1:d<=9223372036854775807)(nz:d≠0):
  Bl h l d=if -9223372036854775808<=Nh (vW h l) d/\Nh (vW h l) d<=9223372036854775807 then some (Nh (vW h l) d,true) else some (0,false):=by
 simp only[Bl,ak8,Pg.cC,Pg.ch,Pg.cQ,Pg.fB,Pg.eG];try delta wI wU
 have z:(d==0)=false:=by rw[ako];exact nz
 obtain⟨ah,al,e1,a0,a1,a2,a3,a4⟩:=aIy h l o;have e2:=aoE d d0 d1;rw[z,bH,e1,bN,e2,bN];simp only;have D0:0<lQ d:=by unfold lQ;split<;>omega
 have D1:lQ d<=9223372036854775808:=by unfold lQ;split<;>omega
 have ed:(if d<0 then -d else d)=lQ d:=rfl
 have va:ah*18446744073709551616+al=lQ (vW h l):=by
  rw[a4];obtain⟨o1,o2,o3,o4⟩:=o;unfold lQ;simp only[vW];split<;>split<;>omega
 have sn:decide (h<0)=decide (vW h l<0):=by
  obtain⟨o1,o2,o3,o4⟩:=o;simp only[vW];by_cases c:h<0
  .rw[gy c,gy (by omega)]
  .rw[dq c,dq (by omega)]
 rw[ed,sn];generalize vW h l=V at*
 have nz2:(!decide (lQ d=0))=true:=by rw[dq (by omega)];rfl
 have r0:=aaS ah (show lQ d≠0 by omega);have r1:=Vj ah D0;have q0:=DA a0 (pg D0);have q1:=aw9 (lQ d) a0;have qe:=aw2 ah (lQ d);have dv:=aTD (ah%lQ d) al (lQ d) r0 r1 (by omega) a2 a3;rw[nz2,bz,bz,Int.tmod_eq_emod_of_nonneg a0,dv,bN,ayZ a0];simp only;have w1:IntKind.wrap .u64 (ah/lQ d)=ah/lQ d:=by rw[wrap_u64];omega
 have E:lQ V=(ah%lQ d*18446744073709551616+al)+lQ d*(ah/lQ d*18446744073709551616):=by
  rw[<-va];have:lQ d*(ah/lQ d*18446744073709551616)=lQ d*(ah/lQ d)*18446744073709551616:=by grind
  rw[this];omega
 have Q:lQ V/lQ d=(ah%lQ d*18446744073709551616+al)/lQ d+ah/lQ d*18446744073709551616:=by
  rw[E,Int.add_mul_ediv_left _ _ (by omega)]
 have R:lQ V%lQ d=(ah%lQ d*18446744073709551616+al)%lQ d:=by rw[E,Int.add_mul_emod_self_left]
 have n0:0<=(ah%lQ d*18446744073709551616+al)/lQ d:=DA (by omega) (pg D0)
 have n1:(ah%lQ d*18446744073709551616+al)/lQ d<18446744073709551616:=by
  refine aaO D0 ?_;omega
 have t0:=aaS (ah%lQ d*18446744073709551616+al) (show lQ d≠0 by omega);have t1:=Vj (ah%lQ d*18446744073709551616+al) D0;rw[<-R] at t0 t1 ⊢;have w2:IntKind.wrap .u64 (lQ d-lQ V%lQ d)=lQ d-lQ V%lQ d:=by rw[wrap_u64];omega
 rw[w1,w2]
 have sgn:(!decide (V<0)==decide (d<0))= !decide ((decide (V<0))=(decide (d<0))):=by
  cases decide (V<0)<;>cases decide (d<0)<;>rfl
 have qn:0<=qdq (lQ V) (lQ d):=by
  have:=aK2 V;have:=DA this (pg D0);unfold qdq;split<;>omega
 have fin:∀u v:Int,0<=u->0<=v->v<18446744073709551616->u*18446744073709551616+v=qdq (lQ V) (lQ d)->
   (Option.bind (jr u v (!decide (V<0)==decide (d<0))) λ(d:Int×Bool)=>some (d.1,d.2))=if -9223372036854775808<=Nh V d/\Nh V d<=9223372036854775807 then some (Nh V d,true) else some (0,false):=by
  intro u v u0 v0 v1 e;rw[Na u v _ u0 v0 v1,e,sgn];unfold Nh;generalize qdq (lQ V) (lQ d)=q at*
  by_cases s:(decide (V<0))=(decide (d<0))
  .rw[if_pos s,gy s];simp only[K0,xr,gA];by_cases c:q<=9223372036854775807
   .rw[if_pos c,if_pos (by omega),bN];have uz:u=0:=by omega
    subst uz;have:v=q:=by omega
    rw[this]
   .rw[if_neg c,if_neg (by omega),bN]
  .rw[if_neg s,dq s];simp only[Bool.not_false,lT];by_cases c:q<=9223372036854775808
   .rw[if_pos c,if_pos (by omega),bN];have uz:u=0:=by omega
    subst uz;have:v=q:=by omega
    rw[this]
   .rw[if_neg c,if_neg (by omega),bN]
 by_cases c:lQ V%lQ d>=lQ d-lQ V%lQ d
 .rw[gy c,bz];obtain⟨u,v,e3,u0,u1,v0,v1,e4⟩:=ahD (ah/lQ d) ((ah%lQ d*18446744073709551616+al)/lQ d) 0 1 q0 n0 (by omega) (by omega) n1 (by omega) (by omega);rw[e3,bN];simp only;refine fin u v u0 v0 v1 ?_;rw[e4];unfold qdq;rw[if_neg (by omega),Q];omega
 .rw[dq c,bH];refine fin _ _ q0 n0 n1 ?_;unfold qdq;rw[if_pos (by omega),Q];omega
theorem aTE (a d:Int)(nz:d≠0):((decide (a<0))=(decide (d<0))->0<=Nh a d)/\(¬(decide (a<0))=(decide (d<0))->Nh a d<=0):=by
 have D0:0<lQ d:=by unfold lQ;split<;>omega
 have q:=DA (aK2 a) (pg D0);have qn:0<=qdq (lQ a) (lQ d):=by unfold qdq;split<;>omega
 unfold Nh;constructor
 .intro h;rw[if_pos h];exact qn
 .intro h;rw[if_neg h];omega
theorem aSx (h l d:Int)(fP:Bool)(o:okW h l)(d0: -9223372036854775808<=d)(d1:d<=9223372036854775807)(nz:d≠0):
  yj h l d fP=some (sat (Nh (vW h l) d),fP||iM (Nh (vW h l) d)):=by
 simp only[yj,Lo,Pg.cC,Pg.ch,Pg.cQ,Pg.fB,Pg.eG];try delta wI wU
 have z:(d==0)=false:=by rw[ako];exact nz
 have sn:decide (h<0)=decide (vW h l<0):=by
  obtain⟨o1,o2,o3,o4⟩:=o;simp only[vW];by_cases c:h<0
  .rw[gy c,gy (by omega)]
  .rw[dq c,dq (by omega)]
 rw[z,bH,aIC h l d o d0 d1 nz,sn];have s:=aTE (vW h l) d nz;generalize vW h l=V at*
 by_cases c: -9223372036854775808<=Nh V d/\Nh V d<=9223372036854775807
 .rw[if_pos c,bN];simp only[aeP,lT,bN]
 .rw[if_neg c,bN];simp only[aeP,xr,gA,bN];by_cases e:(decide (V<0))=(decide (d<0))
  .have p:=s.1 e;have e2:(!decide (V<0)==decide (d<0))=false:=by rw[e,beq_self_eq_true];rfl
   rw[e2];unfold sat iM;rw[if_neg (by decide),if_neg (by omega),if_pos (by omega),gy (show 1152921504606846976<Nh V d by omega),Bool.or_true,Bool.or_true]
  .have p:=s.2 e
   have e2:(!decide (V<0)==decide (d<0))=true:=by
    have:(decide (V<0)==decide (d<0))=false:=by rw[ako];exact e
    rw[this];rfl
   rw[e2];unfold sat iM;rw[if_pos rfl,if_pos (by omega),gy (show Nh V d< -1152921504606846976 by omega),Bool.true_or,Bool.or_true]
theorem aOk (a b d:Int)(fP:Bool)(nz:sat d≠0):
  aU a b d fP=some (sat (Nh (sat a*sat b) (sat d)),((((fP||iM a)||iM b)||iM d)||iM (Nh (sat a*sat b) (sat d)))):=by
 simp only[aU,FM,Pg.cC,Pg.ch,Pg.cQ,Pg.fB,Pg.eG];try delta wI wU
 have:=qi a;have:=qi b;have:=qi d;obtain⟨h,l,e1,e2,e3⟩:=Dw (sat a) (sat b) (by omega) (by omega) (by omega) (by omega);simp only[ui,bN,e1,aSx h l (sat d) _ e2 (by omega) (by omega) nz,e3]
theorem aXU (a b:Int)(s:Nat)(fP:Bool)(hs:s<=66)(nz:sat b≠0):
  bo a b (wl s) fP=some (sat (Nh (sat a*2^s) (sat b)),(((fP||iM a)||iM b)||iM (Nh (sat a*2^s) (sat b)))):=by
 simp only[bo,PZ,Pg.cC,Pg.ch,Pg.cQ,Pg.fB,Pg.eG];try delta wI wU
 have ha:=qi a;have hb:=qi b;have P0:=mS s;have PB:(2:Int)^s<=2^66:=aoc hs;have PV:(2:Int)^66=73786976294838206464:=by decide
 have m1:sat a*2^s<=1152921504606846976*73786976294838206464:=by
  rcases axa 0 (sat a) with c|c
  .exact NK ha.2 (by omega) (pg P0) (by omega)
  .have:=aK1 (a:= -sat a) (b:=2^s) (by omega) (pg P0);rw[Int.neg_mul] at this;omega
 have m2: -(1152921504606846976*73786976294838206464)<=sat a*2^s:=by
  rcases axa 0 (sat a) with c|c
  .have:=aK1 c (pg P0);omega
  .have:=NK (show -sat a<=1152921504606846976 by omega) (show(2:Int)^s<=73786976294838206464 by omega) (pg P0) (by omega);rw[Int.neg_mul] at this;omega
 have mv:(1152921504606846976:Int)*73786976294838206464=85070591730234615865843651857942052864:=by decide
 obtain⟨h,l,b',e1,o1,f1,v1,_⟩:=aod (sat a) s (by omega) (by omega) (by omega);have bt:b'=true:=f1.2 ⟨by omega,by omega⟩;subst bt;have n0:decide (wl s<0)=false:=by simp
 have n1:decide (wl s>66)=false:=by simp only[dJ];exact dq (by omega)
 simp only[ui,bN,n0,n1,bH,e1,aSx h l (sat b) _ o1 (by omega) (by omega) nz,v1 rfl]
theorem awx (h l r:Int)(fP:Bool)(o:okW h l)(h0:0<=h)(hr:isR r (vW h l)):ym h l fP=some (sat r,fP||iM r):=by
 obtain⟨r',e1,e2,e3⟩:=atC h l o h0;have:=aTA hr e1;subst this;simp only[ym,alc,Pg.cC,Pg.ch,Pg.cQ,Pg.fB,Pg.eG];try delta wI wU
 rw[e3];by_cases c:r<=9223372036854775807
 .rw[if_pos c,bN];simp only[K0,bH,ui,bN]
 .rw[if_neg c,bN];simp only[Bool.not_false,bz,ui,bN]
  have a:sat r=sat 1152921504606846977:=by
   unfold sat;rw[if_neg (by omega),if_pos (by omega),if_neg (by omega),if_pos (by omega)]
  have b:iM r=iM 1152921504606846977:=by
   unfold iM;rw[gy (show 1152921504606846976<r by omega),gy (show(1152921504606846976:Int)<1152921504606846977 by omega),Bool.or_true,Bool.or_true]
  rw[a,b]
open Go.Ab Go.Ab.Pg
instance a3I (x:Int)(h:Bool):bl (aS x h):=⟨_,ui x h⟩
instance a2H (x a b:Int)(h:Bool):bl (bh x a b h):=aF (p:=CI x a b h) (by simp only[CI,aK,av,NO,and_self])
instance a3r (b:Bool):bl (qK b):=aF (p:=VJ b) (by simp only[VJ,aK,av,NO,and_self])
instance a3J (x:Int):bl (xS x):=aF (p:=Dl x) (by simp only[Dl,aK,av,NO,and_self])
instance a3s (x:Int):bl (ly x):=aF (p:=Uv x) (by simp only[Uv,aK,av,bF,NO,and_self])
instance a3K (a:Int)(b c d:Bool):bl (nE a b c d):=aF (p:=Hq qK aS a b c d) (by simp only[Hq,aK,av,bA,NO,and_self])
instance a3L (x y:Int)(h:Bool):bl (bW x y h):=aF (p:=P3 aS x y h) (by simp only[P3,aK,av,bA,NO,and_self])
theorem aRf (a b:Int)(s:Nat)(hs:s<=120)(h:Bool):bl (aZ a b (wl s) h):=⟨_,aXO a b s h hs⟩
instance a2I (a b:Int)(h:Bool):bl (aZ a b 30 h):=aRf a b 30 (by omega) h
instance a2J (a b:Int)(h:Bool):bl (aZ a b 44 h):=aRf a b 44 (by omega) h
instance a2K (a b:Int)(h:Bool):bl (aZ a b 10 h):=aRf a b 10 (by omega) h
instance t_m (a b:Int)(h:Bool):bl (Kn a b h):=aF (p:=aoy aZ a b h) (by simp only[aoy,aK,av,bA,NO,and_self])
theorem a09 (s:Nat)(hs:s<=120)(n:Nat)(hn:n<=100)(fP:Bool)(f g:Nat->Int)(w w':Bool):bl (bC (wl s) n n fP f g w w'):=⟨_,aXQ s hs n hn fP f g w w'⟩
theorem Nb (n:Nat)(hn:n<=100)(fP:Bool)(f g:Nat->Int)(w w':Bool):bl (bC 30 n n fP f g w w'):=a09 30 (by omega) n hn fP f g w w'
instance a3t (fP:Bool)(f g:Nat->Int)(w w':Bool):bl (bC 30 2 2 fP f g w w'):=Nb 2 (by omega) fP f g w w'
instance a3u (fP:Bool)(f g:Nat->Int)(w w':Bool):bl (bC 30 3 3 fP f g w w'):=Nb 3 (by omega) fP f g w w'
instance a3v (fP:Bool)(f g:Nat->Int)(w w':Bool):bl (bC 30 4 4 fP f g w w'):=Nb 4 (by omega) fP f g w w'
instance a2L (fP:Bool)(f g:Nat->Int)(w w':Bool):bl (bC 30 24 24 fP f g w w'):=Nb 24 (by omega) fP f g w w'
instance a2M (fP:Bool)(f g:Nat->Int)(w w':Bool):bl (bC 30 48 48 fP f g w w'):=Nb 48 (by omega) fP f g w w'
theorem aK3 (n:Nat)(hn:n<=1900)(fP:Bool)(l:Nat->Int)(w:Bool):bl (cY n fP l w):=⟨_,aXP n hn fP l w⟩
instance a3w (fP:Bool)(l:Nat->Int)(w:Bool):bl (cY 2 fP l w):=aK3 2 (by omega) fP l w
instance a3x (fP:Bool)(l:Nat->Int)(w:Bool):bl (cY 3 fP l w):=aK3 3 (by omega) fP l w
theorem aXV (x y:Int)(h:Bool):bl (yj x y 0 h):=aF (p:=Lo qK Bl nE x y 0 h) (by
 unfold Lo;simp only[aK,av,bA,NO,and_self,Aj];intro h;simp at h)
instance a1U (a b d:Int)(h:Bool):bl (aU a b d h):=by
 by_cases nz:sat d=0
 .have h1:=qi a;have h2:=qi b;obtain⟨x,y,e,_,_⟩:=Dw (sat a) (sat b) (by omega) (by omega) (by omega) (by omega);have:=(aXV x y (((h||iM a)||iM b)||iM d)).ok;refine⟨?_⟩;simp only[aU,FM,cC,ch,cQ,ui,bN,e,nz];obtain⟨d,hd⟩:=this;rw[hd];exact⟨_,rfl⟩
 .exact⟨_,aOk a b d h nz⟩
theorem aXW (a b:Int)(s:Nat)(hs:s<=66)(h:Bool):bl (bo a b (wl s) h):=by
 by_cases nz:sat b=0
 .have h1:=qi a;obtain⟨x,y,q,e,_,_⟩:=aod (sat a) s (by omega) (by omega) (by omega);have:=(aXV x y ((h||iM a)||iM b)).ok;refine⟨?_⟩;have n0:decide (wl s<0)=false:=by simp
  have n1:decide (wl s>66)=false:=by simp only[dJ];exact dq (by omega)
  simp only[bo,PZ,cC,ch,cQ,ui,bN,n0,n1,bH,e,nz];obtain⟨d,hd⟩:=this;rw[hd];exact⟨_,rfl⟩
 .exact⟨_,aXU a b s h hs nz⟩
instance a2N (a b:Int)(h:Bool):bl (bo a b 30 h):=aXW a b 30 (by omega) h
instance a2O (a b:Int)(h:Bool):bl (bo a b 44 h):=aXW a b 44 (by omega) h
def sq2 (f:Nat->Int)(n:Nat):Int:=H9 (λj=>sat (f j)*sat (f j)) n
theorem aBh (f:Nat->Int):∀n,0<=sq2 f n
 |0=>eW 0
 |n+1=>by
  have:=aBh f n
  have h2:0<=sat (f n)*sat (f n):=by
   rcases axa 0 (sat (f n)) with h|h
   .exact IY h h
   .exact Int.mul_nonneg_of_nonpos_of_nonpos h h
  unfold sq2 at*;rw[H9];omega
theorem aTF (n:Nat)(hn:n<=64)(fP:Bool)(f:Nat->Int)(w:Bool):∃r,isR r (sq2 f n)/\gP n fP f w=some (sat r,(fP||KM (λj=>iM (f j)) n)||iM r):=by
 have nn:=aBh f n
 have key:∃x,gP n fP f w=x/\∃h l,okW h l/\vW h l=sq2 f n/\x=(ym h l (fP||KM (λj=>iM (f j)) n)):=by
  refine⟨_,rfl,?_⟩;have m:(if 64<wl n then(64:Int) else wl n)=wl n:=by rw[if_neg (by simp only[dJ];omega)]
  have k:Kg (wl n) n=true:=by simp[Kg]
  have q:ws (wl n)=n:=rfl;simp only[gP,abr,cC,ch,cQ,fB,m,k,q,bz];unfold Sk
  obtain⟨x,hx,i,h,l,ho,hv,rfl⟩:=Zq (s:=CN aS fQ kF)
   (λt d=>∃(i:Nat) (h l':Int),i+t=n/\okW h l'/\vW h l'=sq2 f i/\d=(((n,w&&false),wl n,wl i),(fP||KM (λj=>iM (f j)) i),(n,f),h,l'))
   (λx=>∃(i:Nat) (h l':Int),okW h l'/\vW h l'=sq2 f n/\x=(((n,w&&false),wl n,wl n,decide (wl n<wl n)),(fP||KM (λj=>iM (f j)) n),(n,f),h,l')) (λt d=>by
    rintro ⟨i,h,l',hi,ho,hv,rfl⟩
    have bnd:=aob (λj=>sat (f j)*sat (f j)) 1329227995784915872903807060280344576 (by omega) i (λj _=>aeQ _ _);have hv':vW h l'=H9 (λj=>sat (f j)*sat (f j)) i:=hv;rcases aaP t with t0|t0
    .have e:i=n:=by omega
     subst e;simp only[CN,cC,ch,cQ,fB,awu (eO i),bH];exact⟨_,rfl,i,h,l',ho,hv,by rfl⟩
    .have hs1:=qi (f i);have hm:=aeQ (f i) (f i);obtain⟨h1,l1,e1,o1,v1⟩:=Dw (sat (f i)) (sat (f i)) (by omega) (by omega) (by omega) (by omega)
     obtain⟨h2,l2,e2,o2,v2⟩:=ahC (λj:Nat=>bif ww j 1 then h1 else bif ww j 0 then h else h) (λj:Nat=>bif ww j 1 then l1 else bif ww j 0 then l' else l') true
      ho o1 (by show _<=vW h l'+vW h1 l1;rw[hv',v1];omega) (by show vW h l'+vW h1 l1<_;rw[hv',v1];omega)
     have v2:vW h2 l2=vW h l'+vW h1 l1:=v2;rw[hv',v1] at v2;have q:ws (wl i)=i:=rfl;simp only[CN,cC,ch,cQ,fB,wI,awt hi t0,awv (show i<n by omega),bz,q,ui,bN,e1,e2,aww (show i<9000000000000000000 by omega)];refine⟨_,rfl,t-1,by omega,i+1,h2,l2,by omega,o2,v2,?_⟩;simp only[KM,Bool.or_assoc])
   2000 n (((n,w&&false),wl n,0),fP,(n,f),0,0) (by omega) ⟨0,0,0,by omega,⟨by omega,by omega,by omega,by omega⟩,rfl,by simp only[KM,aJA];rfl⟩
  rw[hx];refine⟨h,l,ho,hv,?_⟩;simp only[bN];cases ym h l (fP||KM (λj=>iM (f j)) n)<;>rfl
 obtain⟨x,hx,h,l,ho,hv,rfl⟩:=key
 have h0:0<=h:=by
  obtain⟨o1,o2,o3,o4⟩:=ho;rw[<-hv] at nn;simp only[vW] at nn;omega
 obtain⟨r,hr,_,_⟩:=atC h l ho h0;refine⟨r,hv▸hr,?_⟩;rw[hx];exact awx h l r _ ho h0 hr
theorem aFN (n:Nat)(hn:n<=64)(fP:Bool)(f:Nat->Int)(w:Bool):bl (gP n fP f w):=by
 obtain⟨r,_,h⟩:=aTF n hn fP f w;exact⟨_,h⟩
instance a1V (fP:Bool)(f:Nat->Int)(w:Bool):bl (gP 3 fP f w):=aFN 3 (by omega) fP f w
instance a1W (fP:Bool)(f:Nat->Int)(w:Bool):bl (gP 4 fP f w):=aFN 4 (by omega) fP f w
theorem awy:∀(d:nd.B) (hd:0<=d.1.2.2.2.2/\d.1.2.2.2.2<=d.1.2.2.2.1/\d.1.2.2.2.1<=1999/\d.1.2.2.2.1=((d.1.2.2.1.1:Nat):Int)),Ok (Oc d) (λx:AF=>True):=
 bL (λd:nd.B=>ws (d.1.2.2.2.1-d.1.2.2.2.2)) (λd hd=>by
  have hw:wI (d.1.2.2.2.2+1)=d.1.2.2.2.2+1:=bk;unfold Ob;simp only[bJ];simp only[nf,ua,hw];repeat' (first|exact True.intro|omega|(intro _)|(apply And.intro))) (λd hd=>by omega)
theorem ayD (x0:Int)(x1:Nat)(h1:1<=x1)(h2:x1<=1000)(x2:Bool)(x3:Nat->Int)(w0:Bool):bl (nG x0 x1 x2 x3 w0):=by
 unfold nG VY;refine aF ?_;rw[bF,bF];refine⟨by simp only[cm];omega,by simp only[ade];omega,?_⟩;refine ay (awy _ (hdN (x1-1) (by omega))) λd _ hd=> ?_;simp only[av]
instance a1a (x0:Int)(x2:Bool)(x3:Nat->Int)(w0:Bool):bl (nG x0 6 x2 x3 w0):=ayD _ _ (by omega) (by omega) _ _ _
instance a1b (x0:Int)(x2:Bool)(x3:Nat->Int)(w0:Bool):bl (nG x0 7 x2 x3 w0):=ayD _ _ (by omega) (by omega) _ _ _
instance a0v (x0:Int)(x2:Bool)(x3:Nat->Int)(w0:Bool):bl (nG x0 12 x2 x3 w0):=ayD _ _ (by omega) (by omega) _ _ _
instance a0w (x0:Int)(x1:Bool):bl (ov x0 x1):=by
 unfold ov alm;exact aF (by simp only[bJ])
instance a0x (x0:Int)(x1:Bool):bl (sj x0 x1):=by
 unfold sj aln;exact aF (by simp only[bJ])
instance aYI (x0:Int)(x1:Int)(x2:Bool):bl (zz x0 x1 x2):=by
 unfold zz abp;exact aF (by simp only[bJ])
instance a1c (x0:Int)(x1:Int)(x2:Int)(x3:Int)(x4:Int)(x5:Int)(x6:Bool):bl (wa x0 x1 x2 x3 x4 x5 x6):=by
 unfold wa asy;exact aF (by simp only[bJ])
instance aZh (x0:Int)(x1:Int)(x2:Int)(x3:Int)(x4:Bool):bl (uo x0 x1 x2 x3 x4):=by
 unfold uo af5;exact aF (by simp only[bJ])
instance a0y (x0:Int)(x1:Int)(x2:Int)(x3:Bool):bl (pN x0 x1 x2 x3):=by
 unfold pN alp;exact aF (by simp only[bJ])
instance a1d (x0:Int)(x1:Int)(x2:Int)(x3:Bool):bl (BL x0 x1 x2 x3):=by
 unfold BL asz;exact aF (by simp only[bJ])
instance aXX (x0:Int)(x1:Int)(x2:Bool):bl (v7 x0 x1 x2):=by
 unfold v7 VO;exact aF (by simp only[bJ])
instance aK4 (x0:Int)(x1:Int)(x2:Int)(x3:Int)(x4:Bool):bl (j4 x0 x1 x2 x3 x4):=by
 unfold j4 BI;exact aF (by simp only[bJ])
theorem aFO:∀(d:sk.B) (hd:0<=d.1/\d.1<=4),Ok (abw d) (λx:Hz=>True):=
 bL (λd:sk.B=>ws (4-d.1)) (λd hd=>by
  have hw:wI (d.1+1)=d.1+1:=bk;unfold abv;simp only[bJ];simp only[nf,ua,hw];repeat' (first|exact True.intro|omega|(intro _)|(apply And.intro))) (λd hd=>by omega)
instance a0z (x0:Int)(x1:Int)(x2:Int)(x3:Int)(x4:Bool):bl (yu x0 x1 x2 x3 x4):=by
 unfold yu alr;refine aF ?_;refine ay (aFO _ (by simp)) λd _ hd=> ?_;simp only[bJ]
instance a0A:bl oy:=by
 unfold oy alx;exact aF (by simp only[bJ])
instance aZi (x0:Int)(x1:Int)(x2:Int)(x3:Int):bl (BM x0 x1 x2 x3):=by
 unfold BM agc;exact aF (by simp only[bJ])
theorem ayE:∀(d:oz.B) (hd:0<=d.1.2/\d.1.2<=3),Ok (Sn d) (λx:CO=>True):=
 bL (λd:oz.B=>ws (3-d.1.2)) (λd hd=>by
  have hw:wI (d.1.2+1)=d.1.2+1:=bk;unfold Sl;simp only[bJ];simp only[nf,ua,hw];repeat' (first|exact True.intro|omega|(intro _)|(apply And.intro))) (λd hd=>by omega)
instance aYJ (x0:Nat->Int)(x1:Int):bl (eX x0 x1):=by
 unfold eX aby;refine aF ?_;refine ay (ayE _ (by simp)) λd _ hd=> ?_;simp only[bJ]
theorem ayF:∀(d:oA.B) (hd:0<=d.1.2.2.2.2/\d.1.2.2.2.2<=d.1.2.2.2.1/\d.1.2.2.2.1<=1999/\d.1.2.2.2.1=((d.1.2.2.1.1:Nat):Int)),Ok (Sp d) (λx:CP=>True):=
 bL (λd:oA.B=>ws (d.1.2.2.2.1-d.1.2.2.2.2)) (λd hd=>by
  have hw:wI (d.1.2.2.2.2+1)=d.1.2.2.2.2+1:=bk;unfold So;simp only[bJ];simp only[nf,ua,hw];repeat' (first|exact True.intro|omega|(intro _)|(apply And.intro))) (λd hd=>by omega)
theorem arO (x0:Nat->Int)(x1:Int)(x2:Nat)(x3:Nat->Int)(w0:Bool)(h:x2<=1999):bl (fI x0 x1 x2 x3 w0):=by
 unfold fI abC;refine aF ?_;rw[aM,bF];refine⟨rfl,?_⟩;refine ay (ayF _ (hdN x2 h)) λd _ hd=> ?_;simp only[bJ]
instance a2P (x0:Nat->Int)(x1:Int)(x3:Nat->Int)(w0:Bool):bl (fI x0 x1 3 x3 w0):=arO _ _ _ _ _ (by omega)
instance a2Q (x0:Nat->Int)(x1:Int)(x3:Nat->Int)(w0:Bool):bl (fI x0 x1 4 x3 w0):=arO _ _ _ _ _ (by omega)
instance a0B (x0:Int)(x1:Int)(x2:Int)(x3:Int)(x4:Int)(x5:Int)(x6:Int)(x7:Int)(x8:Bool):bl (QJ x0 x1 x2 x3 x4 x5 x6 x7 x8):=by
 unfold QJ alz;exact aF (by simp only[bJ])
instance a0C (x0:Int)(x1:Int)(x2:Int)(x3:Int)(x4:Bool):bl (QK x0 x1 x2 x3 x4):=by
 unfold QK alB;exact aF (by simp only[bJ])
theorem aoe:∀(d:jG.B) (hd:0<=d.1.2.2/\d.1.2.2<=d.1.1/\d.1.1<=1999/\d.1.1<=24),Ok (GL d) (λx:uc=>True):=
 bL (λd:jG.B=>ws (d.1.1-d.1.2.2)) (λd hd=>by
  have hw:wI (d.1.2.2+1)=d.1.2.2+1:=bk;unfold GK;simp only[bJ];simp only[nf,ua,hw];repeat' (first|exact True.intro|omega|(intro _)|(apply And.intro))) (λd hd=>by omega)
theorem pG (x0:Int)(x1:Int)(x2:Int)(x3:Nat->Int)(h0:0<=x0)(h1:x0<=x1)(h2:x1<=24):bl (yv x0 x1 x2 x3):=by
 unfold yv LD;refine aF ?_;refine ay (aoe _ (by dsimp only;omega)) λd _ hd=> ?_;simp only[av]
instance aUh (x0:Int)(x1:Bool):bl (tI x0 x1):=by
 unfold tI Sv;exact aF (by simp only[bJ])
theorem apd:∀(d:kG.B) (hd:0<=d.1/\d.1<=24),Ok (I7 d) (λx:wb=>True):=
 bL (λd:kG.B=>ws (24-d.1)) (λd hd=>by
  have hw:wI (d.1+1)=d.1+1:=bk;unfold I6;simp only[bJ];simp only[nf,ua,hw];repeat' (first|exact True.intro|omega|(intro _)|(apply And.intro))) (λd hd=>by omega)
theorem ape:∀(d:kH.B) (hd:0<=d.1/\d.1<=276),Ok (I9 d) (λx:wc=>True):=
 bL (λd:kH.B=>ws (276-d.1)) (λd hd=>by
  have hw:wI (d.1+1)=d.1+1:=bk;unfold I8;simp only[bJ];simp only[nf,ua,hw];repeat' (first|exact True.intro|omega|(intro _)|(apply And.intro))) (λd hd=>by omega)
instance aTG (x0:Nat->Int)(x1:Nat->Int)(x2:Bool):bl (mP x0 x1 x2):=by
 unfold mP Of;refine aF ?_;refine ay (apd _ (by simp)) λd _ hd=> ?_;refine ay (ape _ (by simp)) λd _ hd=> ?_;simp only[bJ]
theorem aG7:∀(d:uZ.B) (hd:0<=d.1.2/\d.1.2<=24),Ok (agh d) (λx:LJ=>True):=
 bL (λd:uZ.B=>ws (24-d.1.2)) (λd hd=>by
  have hw:wI (d.1.2+1)=d.1.2+1:=bk;unfold agf;simp only[bJ];simp only[nf,ua,hw];repeat' (first|exact True.intro|omega|(intro _)|(apply And.intro))) (λd hd=>by omega)
instance a1e (x0:Nat)(x1:Bool)(x2:Nat->Int)(w0:Bool):bl (Wd x0 x1 x2 w0):=by
 unfold Wd asE;refine aF ?_;rw[aM,bF];refine⟨rfl,?_⟩;refine ay (aG7 _ (by simp)) λd _ hd=> ?_;simp only[bJ]
theorem aRg:∀j:Nat,j<24->0<=wI (t7 (wI ((j:Int)*wI ((j:Int)-1))) 2)/\wI (t7 (wI ((j:Int)*wI ((j:Int)-1))) 2)+(j:Int)<=276+(if j=0 then 1 else 0):=by decide
theorem aOl {i j:Int}{d:agj}(h:rB i j=some d)(ok:d.2=true):0<=d.1/\d.1<276:=by
 simp only[rB,Uy,cC,ch] at h;by_cases h0:0<=i
 .by_cases h1:i<j
  .simp only[PE,h0,h1,PD,bz,jY] at h;subst h;have h2:j<24:=eF ok;obtain⟨n,rfl⟩:=Int.eq_ofNat_of_zero_le (by omega:0<=j);obtain⟨k1,k2⟩:=aRg n (by omega);rw[if_neg (by omega)] at k2;generalize wI (t7 (wI ((n:Int)*wI ((n:Int)-1))) 2)=c at*
   show 0<=wI (c+i)/\wI (c+i)<276;rw[fL (by omega) (by omega)];omega
  .simp only[PE,h0,h1,PD,NM,bz,bH,jY] at h;subst h;cases ok
 .simp only[PE,h0,NM,bH,jY] at h;subst h;cases ok
instance aZj (x0:Int)(x1:Int):bl (rB x0 x1):=by
 unfold rB Uy;exact aF (by simp only[bJ])
instance a2R (x0:Nat->Int)(x1:Nat->Int)(x2:Int)(x3:Int):bl (LK x0 x1 x2 x3):=by
 have key:∀d,rB x2 x3=some d->((!d.2)=false->bg d.1 276=true/\wd (0+ws d.1*1+1) 276=true):=λd h k=>by
  have:=aOl h (by simpa using k);simp only[cm,eQ];omega
 unfold LK aEJ;refine aF ?_;simp only[bJ,nf];repeat' (first|(apply And.intro)|(intro _ h k;exact⟨λ_=>(key _ h k).2,(key _ h k).1⟩)|(intro _ h k;exact key _ h k)|(intro _))
instance a1f (x0:Nat->Int)(x1:Nat->Int)(x2:Int)(x3:Int)(x4:Int):bl (I' x0 x1 x2 x3 x4):=by
 unfold I' asK;refine aF ?_;simp only[bJ,nf];intro d h k;have:=aOl h k;simp only[cm,eQ,cy];omega
theorem atD:∀(d:mb.B) (hd:0<=d.1/\d.1<=24),Ok (LM d) (λx:yw=>True):=
 bL (λd:mb.B=>ws (24-d.1)) (λd hd=>by
  have hw:wI (d.1+1)=d.1+1:=bk;unfold LL;simp only[bJ];simp only[nf,ua,hw];repeat' (first|exact True.intro|omega|(intro _)|(apply And.intro))) (λd hd=>by omega)
instance aUi:bl (tJ):=by
 unfold tJ Sy;refine aF ?_;refine ay (atD _ (by simp)) λd _ hd=> ?_;simp only[bJ]
theorem aCk:∀(d:pP.B) (hd:0<=d.1/\d.1<=3),Ok (Wh d) (λx:EM=>True):=
 bL (λd:pP.B=>ws (3-d.1)) (λd hd=>by
  have hw:wI (d.1+1)=d.1+1:=bk;unfold Wg;try dsimp only
  by_cases hc:d.1<3
  case neg=>simp only[hc,NM,aK,av,mM,NO,BC,xr,DB]
  have h1:wI (3*d.1)=3*d.1:=fL;have h2:wI (3*d.1+3)=3*d.1+3:=fL;have h3:ws (3*d.1+3)-ws (3*d.1)=3:=by omega
  simp only[h1,h2,h3];simp only[bJ];simp only[nf,ua,hw];repeat' (first|exact True.intro|omega|(intro _)|(apply And.intro))) (λd hd=>by omega)
instance aZk (x0:Nat->Int)(x1:Int)(x2:Int)(x3:Int)(x4:Bool):bl (nU x0 x1 x2 x3 x4):=by
 unfold nU agm;refine aF ?_;refine ay (aCk _ (by simp)) λd _ hd=> ?_;simp only[bJ]
theorem aFP:∀(d:sr.B) (hd:0<=d.1/\d.1<=3),Ok (abO d) (λx:HB=>True):=
 bL (λd:sr.B=>ws (3-d.1)) (λd hd=>by
  have hw:wI (d.1+1)=d.1+1:=bk;unfold abN;try dsimp only
  by_cases hc:d.1<3
  case neg=>simp only[hc,NM,aK,av,mM,NO,BC,xr,DB]
  have h1:wI (6+d.1)=6+d.1:=fL;have h2:wI (3+d.1)=3+d.1:=fL;simp only[h1,h2];simp only[bJ];simp only[nf,ua,hw];repeat' (first|exact True.intro|omega|(intro _)|(apply And.intro))) (λd hd=>by omega)
instance a0D (x0:Nat->Int)(x1:Int)(x2:Int)(x3:Int)(x4:Bool):bl (yx x0 x1 x2 x3 x4):=by
 unfold yx alH;refine aF ?_;refine ay (aFP _ (by simp)) λd _ hd=> ?_;simp only[bJ]
instance aZl (x0:Int)(x1:Int)(x2:Bool)(x3:Bool):bl (LO x0 x1 x2 x3):=by
 unfold LO agq;exact aF (by simp only[bJ])
instance aZm (x0:Int)(x1:Bool)(x2:Bool)(x3:Bool)(x4:Bool)(x5:Bool)(x6:Bool)(x7:Bool)(x8:Bool)(x9:Int)(fS:Int)(fR:Int):bl (BN x0 x1 x2 x3 x4 x5 x6 x7 x8 x9 fS fR):=by
 unfold BN UB;exact aF (by simp only[bJ])
instance aXY (x0:Int):bl (AH x0):=by
 unfold AH EO;exact aF (by simp only[bJ])
theorem aFQ {x d:Int}(h:AH x=some d):0<=d/\d<6:=by
 have k:PQ (EO x) (λd=>0<=d/\d<6):=by
  simp only[EO,aK,av];refine⟨λ_=>by decide,λ_=>⟨λ_=>by decide,λ_=>by decide⟩⟩
 exact Ok.post k h
theorem awz:∀(d:lz.B) (hd:0<=d.1.2/\d.1.2<=4),Ok (Oi d) (λx:vD=>True):=
 bL (λd:lz.B=>ws (4-d.1.2)) (λd hd=>by
  have hw:wI (d.1.2+1)=d.1.2+1:=bk;unfold FU;simp only[bJ];simp only[nf,ua,hw];repeat' (first|exact True.intro|omega|(intro _ h;have:=aFQ h;revert this;clear h;intro this)|(intro _)|(apply And.intro))) (λd hd=>by omega)
instance aXZ (x0:Int)(x1:Bool)(x2:Bool)(x3:Bool)(x4:Bool)(x5:Bool)(x6:Bool)(x7:Bool)(x8:Bool)(x9:Int)(fS:Int)(fR:Int):bl (we x0 x1 x2 x3 x4 x5 x6 x7 x8 x9 fS fR):=by
 unfold we LQ;refine aF ?_;refine ay (awz _ (by simp)) λd _ hd=> ?_;simp only[bJ]
instance aZn (x:BO.B):bl (yy x):=by
 unfold yy UC;try dsimp only
 exact aF (by simp only[bJ])
theorem aG8 (a:Nat)(i:Int):∀(d:vf.B) (hd:0<=d.1.2.2.2.2.2.2/\d.1.2.2.2.2.2.2<=d.1.2.2.2.2.2.1/\d.1.2.2.2.2.2.1<=1999/\d.1.1.1=a/\d.1.2.1=i/\d.1.2.2.2.1=i/\d.1.2.2.2.2.1.1=a/\d.1.2.2.2.2.2.1=(a:Int)/\(d.1.2.2.1:Int)<=d.1.2.2.2.2.2.2/\0<=i/\i<3),Ok (agu d) (λx:LV=>x.1.1.1=a/\x.1.2.1=i/\x.1.2.2.2.1=i/\x.1.2.2.1<=a):=
 bL (λd:vf.B=>ws (d.1.2.2.2.2.2.1-d.1.2.2.2.2.2.2)) (λd hd=>by
  have hw:wI (d.1.2.2.2.2.2.2+1)=d.1.2.2.2.2.2.2+1:=bk;unfold agt;simp only[bJ];simp only[nf,ua,hw];repeat' (first|exact True.intro|omega|(intro _)|(apply And.intro))) (λd hd=>by omega)
theorem aG9:∀(d:vh.B) (hd:0<=d.1.2/\d.1.2<=3/\d.1.1.1<=1900),Ok (agw d) (λx:LW=>True):=
 bL (λd:vh.B=>ws (3-d.1.2)) (λd hd=>by
  unfold agv;try dsimp only
  rw[aK];refine⟨λh=> ?_,λ_=>by simp only[av,mM]⟩;have h:=eF h;rw[bF,bF,aM];refine⟨rfl,rfl,ay (aG8 d.1.1.1 d.1.2 _ ?_) λx _ hx=> ?_⟩
  .dsimp only;simp only[dJ,Aj,BC];omega
  obtain⟨a1,a2,a3,a4⟩:=hx;rw[aM,bF];have hw:wI (d.1.2+1)=d.1.2+1:=bk;have:=aK3 x.1.2.2.1 (by omega);simp only[bJ];simp only[nf,o6,ua,hw,a1,a2,a3];repeat' (first|exact True.intro|omega|(intro _)|(apply And.intro))) (λd hd=>by omega)
theorem ahE (x0:Nat)(x1:Bool)(x2:Nat->Int)(x3:Nat->Int)(x4:Nat->Int)(w0:Bool)(h:x0<=1900):bl (lp x0 x1 x2 x3 x4 w0):=by
 unfold lp asM;refine aF ?_;rw[aM,bF];refine⟨rfl,?_⟩;refine ay (aG9 _ (by dsimp only;omega)) λd _ hd=> ?_;simp only[bJ]
instance a2S (x1:Bool)(x2 x3 x4:Nat->Int)(w0:Bool):bl (lp 2 x1 x2 x3 x4 w0):=ahE _ _ _ _ _ _ (by omega)
instance a2T (x1:Bool)(x2 x3 x4:Nat->Int)(w0:Bool):bl (lp 3 x1 x2 x3 x4 w0):=ahE _ _ _ _ _ _ (by omega)
theorem aCl (i:Int):∀(d:pQ.B) (hd:0<=d.1.2.2/\d.1.2.2<=4/\d.1.2.1=i),Ok (Wq d) (λx:ER=>x.1.2.1=i):=
 bL (λd:pQ.B=>ws (4-d.1.2.2)) (λd hd=>by
  have hw:wI (d.1.2.2+1)=d.1.2.2+1:=bk;unfold Wp;simp only[bJ];simp only[nf,o6,ua,hw];repeat' (first|exact True.intro|omega|(intro _)|(apply And.intro))) (λd hd=>by omega)
theorem aCm:∀(d:pR.B) (hd:0<=d.1/\d.1<=2),Ok (Ws d) (λx:ES=>True):=
 bL (λd:pR.B=>ws (2-d.1)) (λd hd=>by
  unfold Wr;try dsimp only
  rw[aK];refine⟨λh=> ?_,λ_=>by simp only[av,mM]⟩;have h:=eF h;rw[bA];intro d1 _;refine ay (aCl d.1 _ (by simp)) λx _ hx=> ?_;have hw:wI (d.1+1)=d.1+1:=bk;simp only[av,qH,hx,hw];omega) (λd hd=>by omega)
instance aZo (x0:Int)(x1:Int)(x2:Int)(x3:Int)(x4:Bool):bl (dy x0 x1 x2 x3 x4):=by
 unfold dy agz;refine aF ?_;rw[bA];intro d _;rw[aK];refine⟨λ_=>by simp only[bJ],λ_=>ay (aCm _ (by simp)) λd _ hd=> ?_⟩;simp only[av]
theorem apf (a b:Int):∀(d:kI.B) (hd:0<=d.1.2.2.2/\d.1.2.2.2<=d.1.2.2.1/\d.1.2.2.1<=1999/\d.1.2.2.1<=24/\d.1.1=a/\d.1.2.1=b),Ok (Jc d) (λx:wg=>x.1.1=a/\x.1.2.1=b):=
 bL (λd:kI.B=>ws (d.1.2.2.1-d.1.2.2.2)) (λd hd=>by
  have hw:wI (d.1.2.2.2+1)=d.1.2.2.2+1:=bk;unfold Jb;simp only[bJ];simp only[nf,o6,ua,hw];repeat' (first|exact True.intro|omega|(intro _)|(apply And.intro))) (λd hd=>by omega)
theorem apg (a b:Int):∀(d:kK.B) (hd:0<=d.1.2.2/\d.1.2.2<=24/\d.1.1=a/\d.1.2.1=b/\0<=a/\a<24),Ok (Je d) (λx:wh=>x.1.2.1=b):=
 bL (λd:kK.B=>ws (24-d.1.2.2)) (λd hd=>by
  have hw:wI (d.1.2.2+1)=d.1.2.2+1:=bk;unfold Jd;simp only[bJ];simp only[nf,o6,ua,hw];repeat' (first|exact True.intro|omega|(intro _)|(apply And.intro))) (λd hd=>by omega)
theorem aph:∀(d:kM.B) (hd:0<=d.1/\d.1<=24),Ok (Jg d) (λx:wi=>True):=
 bL (λd:kM.B=>ws (24-d.1)) (λd hd=>by
  have hw:wI (d.1+1)=d.1+1:=bk;unfold Jf;have h1:wI (24+d.1)=24+d.1:=fL;simp only[h1];simp only[bJ];simp only[nf,o6,ua,hw];repeat' (first|exact True.intro|omega|(intro _)|(apply And.intro))) (λd hd=>by omega)
theorem api:∀(d:kO.B) (hd:0<=d.1/\d.1<=24),Ok (Ji d) (λx:wj=>True):=
 bL (λd:kO.B=>ws (24-d.1)) (λd hd=>by
  unfold Jh;rw[aK];refine⟨λh=> ?_,λ_=>by simp only[av,mM]⟩;have h:=eF h;have hw:wI (d.1+1)=d.1+1:=bk;refine ay (apf d.1 d.1 _ (by dsimp only;rw[hw];omega)) λx _ hx=> ?_;refine ay (apg d.1 d.1 _ (by dsimp only;omega)) λx _ hx=> ?_;simp only[av,qH,hx,hw];omega) (λd hd=>by omega)
instance aTH (x0:Nat->Int)(x1:Nat->Int)(x2:Bool)(x3:Nat->Int):bl (AI x0 x1 x2 x3):=by
 unfold AI Om;refine aF ?_;refine ay (api _ (by simp)) λd _ hd=> ?_;refine ay (aph _ (by simp)) λd _ hd=> ?_;simp only[bJ]
instance aZp (x0:Nat->Int):bl (bX x0):=by
 unfold bX agA;exact aF (by simp only[bJ])
instance aUj (x0:Nat->Int)(x1:Int)(x2:Int)(x3:Int)(x4:Int):bl (tK x0 x1 x2 x3 x4):=by
 unfold tK SG;exact aF (by simp only[bJ])
instance aYK (x0:Int)(x1:Int)(x2:Int)(x3:Int)(x4:Int)(x5:Int)(x6:Int)(x7:Int)(x8:Bool):bl (HC x0 x1 x2 x3 x4 x5 x6 x7 x8):=by
 unfold HC abT;exact aF (by simp only[bJ])
instance aX0 (x0:Int)(x1:Bool):bl (AJ x0 x1):=by
 unfold AJ WC;exact aF (by simp only[bJ])
instance a0E (x0:Int)(x1:Int)(x2:Int)(x3:Int)(x4:Int)(x5:Int)(x6:Int)(x7:Int)(x8:Bool):bl (kP x0 x1 x2 x3 x4 x5 x6 x7 x8):=by
 unfold kP al1;try dsimp only
 exact aF (by simp only[bJ])
theorem aK5:∀(d:yB.B) (hd:0<=d.1/\d.1<=4),Ok (al3 d) (λx:QL=>True):=
 bL (λd:yB.B=>ws (4-d.1)) (λd hd=>by
  have hw:wI (d.1+1)=d.1+1:=bk;unfold al2;simp only[bJ];simp only[nf,o6,ua,hw];repeat' (first|exact True.intro|omega|(intro _)|(apply And.intro))) (λd hd=>by omega)
instance a1X (x0:Int)(x1:Int)(x2:Int)(x3:Int)(x4:Bool):bl (jX x0 x1 x2 x3 x4):=by
 unfold jX axT;try dsimp only
 refine aF ?_;refine ay (aK5 _ (by simp)) λd _ hd=> ?_;simp only[bJ]
instance a1Y:bl tL:=by
 have b1:=λx=>pG 0 4 1073741840 x (by omega) (by omega) (by omega)
 have b2:=λx=>pG 4 7 549755813888 x (by omega) (by omega) (by omega)
 have b3:=λx=>pG 7 10 9007199254740992 x (by omega) (by omega) (by omega)
 have b4:=λx=>pG 10 13 134217728 x (by omega) (by omega) (by omega)
 have b5:=λx=>pG 13 16 1073741824 x (by omega) (by omega) (by omega)
 have b6:=λx=>pG 16 22 2147483648 x (by omega) (by omega) (by omega)
 have b7:=λx=>pG 22 24 137438953472 x (by omega) (by omega) (by omega)
 unfold tL SJ;exact aF (by simp only[bJ])
theorem awA:∀(d:nh.B) (hd:0<=d.1/\d.1<=24),Ok (Ot d) (λx:AK=>True):=
 bL (λd:nh.B=>ws (24-d.1)) (λd hd=>by
  have hw:wI (d.1+1)=d.1+1:=bk;unfold Oq;simp only[bJ];simp only[nf,o6,ua,hw];repeat' (first|exact True.intro|omega|(intro _)|(apply And.intro))) (λd hd=>by omega)
instance aX1 (x0:Nat->Int)(x1:Bool):bl (wo x0 x1):=by
 unfold wo WE;refine aF ?_;rw[bA];intro d _;refine ay (awA _ (by simp)) λd _ hd=> ?_;simp only[av]
theorem aZq {x:Int}{y:ado}(h:xS x=some y)(k:(y:Int)<=1073741840): -1073741840<=x/\x<=1073741840:=by
 have e:PQ (Dl x) (λy:ado=>(y:Int)<=1073741840-> -1073741840<=x/\x<=1073741840):=by
  by_cases c:x<0/\ -1152921504606846976<x
  .have w:wI (0-x)=0-x:=fL;simp only[Dl,aK,av,PE,lY,aaN,w];exact⟨λ_=>(show(1152921504606846976:Int)<=1073741840-> -1073741840<=x/\x<=1073741840 by omega),λ_=>⟨λ_=>(show(1152921504606846976:Int)<=1073741840-> -1073741840<=x/\x<=1073741840 by omega),λ_=>⟨λ_=>(show(0-x:Int)<=1073741840-> -1073741840<=x/\x<=1073741840 by omega),λ_=>(show x<=1073741840-> -1073741840<=x/\x<=1073741840 by omega)⟩⟩⟩
  .simp only[Dl,aK,av,PE,lY,aaN];exact⟨λ_=>(show(1152921504606846976:Int)<=1073741840-> -1073741840<=x/\x<=1073741840 by omega),λ_=>⟨λ_=>(show(1152921504606846976:Int)<=1073741840-> -1073741840<=x/\x<=1073741840 by omega),λ_=>⟨λ_=>by omega,λ_=>(show x<=1073741840-> -1073741840<=x/\x<=1073741840 by omega)⟩⟩⟩
 exact Ok.post e h k
theorem apj (a b:Int):∀(d:kQ.B) (hd:0<=d.1.2.2/\d.1.2.2<=24/\d.1.1=a/\d.1.2.1=b/\0<=a/\a<24),Ok (Jk d) (λx:wv=>x.1.2.1=b):=
 bL (λd:kQ.B=>ws (24-d.1.2.2)) (λd hd=>by
  have hw:wI (d.1.2.2+1)=d.1.2.2+1:=bk;unfold Jj;simp only[bJ];simp only[nf,o6,ua,hw];repeat' (first|exact True.intro|omega|(intro _)|(apply And.intro))) (λd hd=>by omega)
theorem apk (a:Int):∀(d:kR.B) (hd:0<=d.1.2/\d.1.2<=48/\d.1.1=a/\0<=a/\a<24),Ok (Jm d) (λx:wx=>x.1.1=a):=
 bL (λd:kR.B=>ws (48-d.1.2)) (λd hd=>by
  have hw:wI (d.1.2+1)=d.1.2+1:=bk;unfold Jl;simp only[bJ];simp only[nf,o6,ua,hw];repeat' (first|exact True.intro|omega|(intro _)|(apply And.intro))) (λd hd=>by omega)
theorem apl (a b e g h:Int):∀(d:kT.B) (hd:0<=d.1.2.2.2.2.2.2/\d.1.2.2.2.2.2.2<=48/\d.1.1=a/\d.1.2.2.1=b/\0<=a/\a<24/\0<=b/\b<24/\d.1.2.2.2.2.1=g/\d.1.2.2.2.2.2.1=h),Ok (Jq d) (λx:wy=>x.1.1=a/\x.1.2.2.2.2.1=g/\x.1.2.2.2.2.2.1=h):=
 bL (λd:kT.B=>ws (48-d.1.2.2.2.2.2.2)) (λd hd=>by
  have hw:wI (d.1.2.2.2.2.2.2+1)=d.1.2.2.2.2.2.2+1:=bk;unfold Jo;simp only[bJ];simp only[nf,o6,ua,hw];repeat' (first|exact True.intro|omega|(intro _)|(apply And.intro))) (λd hd=>by omega)
theorem apm:∀(d:kU.B) (hd:0<=d.1/\d.1<=24),Ok (Jt d) (λx:wz=>True):=
 bL (λd:kU.B=>ws (24-d.1)) (λd hd=>by
  unfold Jr;rw[aK];refine⟨λh=> ?_,λ_=>by simp only[av,mM]⟩;have h:=eF h;have hw:wI (d.1+1)=d.1+1:=bk;have h1:wI (24+d.1)=24+d.1:=fL;rw[h1];iterate 2 (rw[bF];refine⟨by simp only[cm];omega,?_⟩)
  rw[bA];intro d1 _;iterate 4 (rw[bF];refine⟨by simp only[cm,eQ,GF];omega,?_⟩)
  refine ay (apj d.1 d.1 _ (by dsimp only;omega)) λx _ hx=> ?_;simp only[av,qH,hx,hw];omega) (λd hd=>by omega)
theorem apn (a:Int):∀(d:kV.B) (hd:0<=d.1.2.2.2/\d.1.2.2.2<=d.1.2.2.1/\d.1.1=a/\d.1.2.2.1<=24/\0<=a/\a<24),Ok (Jv d) (λx:wA=>x.1.1=a):=
 bL (λd:kV.B=>ws (d.1.2.2.1-d.1.2.2.2)) (λd hd=>by
  unfold Ju;try dsimp only
  rw[aK];refine⟨λh=> ?_,λ_=>by simp only[av,mM];exact hd.2.2.1⟩;have h:=eF h;have hw:wI (d.1.2.2.2+1)=d.1.2.2.2+1:=bk;rw[bF];refine⟨by simp only[cm];omega,?_⟩;rw[bA];intro d1 _;rw[bA];intro d2 _;rw[bA];intro d3 _;refine ay (apl d.1.1 d.1.2.2.2 d.1.1 d.1.2.2.1 d.1.2.2.2 _ (by dsimp only;omega)) λx _ hx=> ?_;obtain⟨a1,a2,a3⟩:=hx;simp only[av,qH,a1,a2,a3,hw];omega) (λd hd=>by omega)
theorem apo:∀(d:kW.B) (hd: -1<=d.1/\d.1<=23),Ok (Jx d) (λx:wB=>True):=
 bL (λd:kW.B=>ws (d.1+1)) (λd hd=>by
  unfold Jw;try dsimp only
  rw[aK];refine⟨λh=> ?_,λ_=>by simp only[av,mM]⟩;have h:=eF h;have hw:wI (d.1-1)=d.1-1:=fL;refine ay (apk d.1 _ (by dsimp only;omega)) λx _ hx=> ?_;rw[bF];refine⟨by simp only[cm,hx];omega,?_⟩;rw[bA];intro d1 _;rw[bA];intro d2 _;rw[bF];refine⟨by simp only[cm,hx];omega,?_⟩;rw[bF];refine⟨by simp only[eQ,GF,hx];omega,?_⟩;refine ay (apn d.1 _ (by dsimp only;omega)) λx _ hx=> ?_;simp only[av,qH,hx,hw];omega) (λd hd=>by omega)
instance aTI (x0:Nat->Int)(x1:Nat->Int)(x2:Nat->Int)(x3:Nat->Int)(x4:Bool):bl (qN x0 x1 x2 x3 x4):=by
 unfold qN Ox;refine aF ?_;rw[bA];intro d _;refine ay (apm _ (by simp)) λd _ hd=> ?_;rw[bA];intro d1 _;refine ay (apo _ (by simp)) λd _ hd=> ?_;simp only[av]
instance a0F (x0:Int):bl (EV x0):=by
 unfold EV ZP;exact aF (by simp only[bJ])
theorem aK6 (x:Int):EV x=some (decide (0<=x)&&decide (x<24)):=by
 simp only[EV,ZP,ch,cC];by_cases h0:0<=x<;>simp[h0]
instance aSy (x0:Int)(x1:Bool):bl (yC x0 x1):=by
 unfold yC L9;exact aF (by simp only[bJ])
theorem awB:∀(d:ni.B) (hd:0<=d.1.2.2.2/\d.1.2.2.2<=d.1.2.2.1/\d.1.2.2.1<=1999/\d.1.2.2.1=((d.1.2.1.1:Nat):Int)),Ok (Oz d) (λx:AN=>True):=
 bL (λd:ni.B=>ws (d.1.2.2.1-d.1.2.2.2)) (λd hd=>by
  have hw:wI (d.1.2.2.2+1)=d.1.2.2.2+1:=bk;unfold Oy;simp only[bJ,aK6,dH];simp only[nf,o6,ua,hw];repeat' (first|exact True.intro|omega|(intro _)|(apply And.intro))) (λd hd=>by omega)
theorem Ba (x0:Nat->Int)(x1:Nat->Int)(x2:Int)(x3:Nat)(x4:Bool)(x5:Nat->Int)(w0:Bool)(h:x3<=1999):bl (dX x0 x1 x2 x3 x4 x5 w0):=by
 unfold dX W2;refine aF ?_;rw[bA];intro d1 _;rw[aM,bF];refine⟨rfl,?_⟩;refine ay (awB _ (hdN x3 h)) λd _ hd=> ?_;rw[bA];intro d2 _;simp only[av]
def Bc (x0 x1 x2 x3:Int)(j:Nat):Int:=if j=0 then x0 else if j=1 then x1 else if j=2 then x2 else x3
def sqW (f g:Nat->Int)(j:Nat)(x:Int):Prop:=(-1073741840<=x/\x<=1073741840)/\okW (f j) (g j)/\vW (f j) (g j)=x*x
theorem aeR {x:Int}(h: -1073741840<=x/\x<=1073741840):0<=x*x/\x*x<=1152921538966585600:=by
 have key:∀u:Int,0<=u->u<=1073741840->0<=u*u/\u*u<=1152921538966585600:=λu u0 u1=>by
  refine⟨IY u0 u0,?_⟩;have:=NK u1 u1 u0 (by omega);omega
 rcases axa 0 x with hx|hx
 .exact key x hx h.2
 .have:=key (-x) (by omega) (by omega);rwa [Int.neg_mul_neg] at this
theorem ahF {x:Int}{f g:Nat->Int}{n:Nat}{A:Type}{δ:Type}{Q:δ->Prop}{no1:Pg δ}{k:akX->Pg δ}
  (h1:(x< -1073741840∨1073741840<x)->PQ no1 Q)(h2:(-1073741840<=x/\x<=1073741840)->∀h l,fQ x x=some (h,l)->okW h l->vW h l=x*x->PQ (k (h,l)) Q):
  PQ (opt (xS x) λaj=>ae (decide (aj>1073741840)) no1 (opt (fQ x x) k)) Q:=by
 rw[bA];intro d hd;rw[aK];refine⟨λh=> ?_,λh=> ?_⟩
 .refine h1 ?_;have h:=eF h
  have:¬(-1073741840<=x/\x<=1073741840):=λc=>by
   have e:PQ (Dl x) (λy:ado=>(y:Int)<=1073741840):=by
    by_cases c':x<0
    .have w:wI (0-x)=0-x:=fL;simp only[Dl,aK,av,PE,lY,aaN,w];exact⟨λ_=>by omega,λ_=>⟨λ_=>by omega,λ_=>⟨λ_=>(show(0-x:Int)<=1073741840 by omega),λ_=>by omega⟩⟩⟩
    .simp only[Dl,aK,av,PE,lY,aaN];exact⟨λ_=>by omega,λ_=>⟨λ_=>by omega,λ_=>⟨λ_=>by omega,λ_=>(show x<=1073741840 by omega)⟩⟩⟩
   have h3:(d:Int)<=1073741840:=Ok.post e hd;exact absurd (show(1073741840:Int)<d from h) (Int.not_lt.mpr h3)
  omega
 .have h:=pf h;have h':¬((1073741840:Int)<d):=h;have hx:=aZq hd (Int.not_lt.mp h');obtain⟨a,b,e,o,v⟩:=Dw x x (by omega) (by omega) (by omega) (by omega);rw[e,dH];exact h2 hx a b e o v
theorem aRh (x0 x1 x2 x3:Int)(d:mO.B)(hd:∃n:Nat,n<=4/\d.1.1=n/\d.1.2.2=(n:Int)/\d.1.2.1=(x0,x1,x2,x3)/\∀j,j<n->sqW d.b.1 d.b.2 j (Bc x0 x1 x2 x3 j)):
  Ok (Sr d) (λx:xT=>match x with
   |.inl _=>∃j,j<4/\(Bc x0 x1 x2 x3 j< -1073741840∨1073741840<Bc x0 x1 x2 x3 j)
   |.inr e=>e.1.1=4/\∀j,j<4->sqW e.b.1 e.b.2 j (Bc x0 x1 x2 x3 j)):=
 aEp (s:=_) (λd:mO.B=>∃n:Nat,n<=4/\d.1.1=n/\d.1.2.2=(n:Int)/\d.1.2.1=(x0,x1,x2,x3)/\∀j,j<n->sqW d.b.1 d.b.2 j (Bc x0 x1 x2 x3 j)) (λd:mO.B=>4-d.1.1) (λx:xT=>match x with
   |.inl _=>∃j,j<4/\(Bc x0 x1 x2 x3 j< -1073741840∨1073741840<Bc x0 x1 x2 x3 j)
   |.inr e=>e.1.1=4/\∀j,j<4->sqW e.b.1 e.b.2 j (Bc x0 x1 x2 x3 j)) (λd hd=>by
  obtain⟨⟨c,q,i⟩,q',f,g⟩:=d;obtain⟨n,hn,h1,h2,h3,h4⟩:=hd;simp only at h1 h2 h3 h4;subst h1 h3 h2
  have step:∀(h l:Int),c<4->okW h l->(-1073741840<=Bc x0 x1 x2 x3 c/\Bc x0 x1 x2 x3 c<=1073741840)->vW h l=Bc x0 x1 x2 x3 c*Bc x0 x1 x2 x3 c->
    ∀j,j<c+1->sqW (λj=>bif ww j c then h else f j) (λj=>bif ww j c then l else g j) j (Bc x0 x1 x2 x3 j):=λh l hc ho hs hv j hj=>by
   unfold sqW;by_cases e:j=c
   .subst e;simp only[aM,bz];exact⟨hs,ho,hv⟩
   .have e':ww j c=false:=by cases hb:ww j c with|false=>rfl|true=>exact absurd (oZ hb) e
    simp only[e',bH];exact h4 j (by omega)
  have hw:wI ((c:Int)+1)=((c+1:Nat):Int):=by rw[fL (by omega) (by omega)];omega
  have hb:wd ((c+1)*16) 140737488355328=true:=by rw[eQ];omega
  unfold Sq;simp only[hw,hb]
  have fin:∀(h l:Int),c<4->okW h l->(-1073741840<=Bc x0 x1 x2 x3 c/\Bc x0 x1 x2 x3 c<=1073741840)->vW h l=Bc x0 x1 x2 x3 c*Bc x0 x1 x2 x3 c->
    (∃n:Nat,n<=4/\c+1=n/\((c+1:Nat):Int)=(n:Int)/\True/\∀j,j<n->sqW (λj=>bif ww j c then h else f j) (λj=>bif ww j c then l else g j) j (Bc x0 x1 x2 x3 j))/\4-(c+1)<4-c:=λh l hc ho hs hv=>
   ⟨⟨c+1,by omega,rfl,rfl,trivial,step h l hc ho hs hv⟩,by omega⟩
  rcases(by omega:c=0∨c=1∨c=2∨c=3∨c=4) with rfl|rfl|rfl|rfl|rfl
  .rw[show decide (((0:Nat):Int)<4)=true from rfl,show bg ((0:Nat):Int) 4=true from rfl,show(((0:Nat):Int)==3)=false from rfl,show(((0:Nat):Int)==2)=false from rfl,show(((0:Nat):Int)==1)=false from rfl];simp only[aK,KX,xr,DB,NN,BC,Aj];refine ahF (A:=Unit) (n:=0) (f:=f) (g:=g) (λh=> ?_) (λhs h l _ ho hv=> ?_)
   .simp only[av,mM];exact⟨0,by omega,h⟩
   .rw[bF];refine⟨rfl,?_⟩;simp only[av,qH];exact fin h l (by omega) ho hs hv
  .rw[show decide (((1:Nat):Int)<4)=true from rfl,show bg ((1:Nat):Int) 4=true from rfl,show(((1:Nat):Int)==3)=false from rfl,show(((1:Nat):Int)==2)=false from rfl,show(((1:Nat):Int)==1)=true from rfl];simp only[aK,KX,xr,DB,NN,BC,Aj];refine ahF (A:=Unit) (n:=0) (f:=f) (g:=g) (λh=> ?_) (λhs h l _ ho hv=> ?_)
   .simp only[av,mM];exact⟨1,by omega,h⟩
   .rw[bF];refine⟨rfl,?_⟩;simp only[av,qH];exact fin h l (by omega) ho hs hv
  .rw[show decide (((2:Nat):Int)<4)=true from rfl,show bg ((2:Nat):Int) 4=true from rfl,show(((2:Nat):Int)==3)=false from rfl,show(((2:Nat):Int)==2)=true from rfl];simp only[aK,KX,xr,DB,NN,BC,Aj];refine ahF (A:=Unit) (n:=0) (f:=f) (g:=g) (λh=> ?_) (λhs h l _ ho hv=> ?_)
   .simp only[av,mM];exact⟨2,by omega,h⟩
   .rw[bF];refine⟨rfl,?_⟩;simp only[av,qH];exact fin h l (by omega) ho hs hv
  .rw[show decide (((3:Nat):Int)<4)=true from rfl,show bg ((3:Nat):Int) 4=true from rfl,show(((3:Nat):Int)==3)=true from rfl];simp only[aK,KX,xr,DB,NN,BC,Aj];refine ahF (A:=Unit) (n:=0) (f:=f) (g:=g) (λh=> ?_) (λhs h l _ ho hv=> ?_)
   .simp only[av,mM];exact⟨3,by omega,h⟩
   .rw[bF];refine⟨rfl,?_⟩;simp only[av,qH];exact fin h l (by omega) ho hs hv
  .rw[show decide (((4:Nat):Int)<4)=false from rfl];simp only[aK,av,xr,DB,NN,Aj,mM];exact h4) 2000 d hd (by obtain⟨n,hn,h1,_⟩:=hd;omega)
theorem aTJ (n:Nat)(hn:n<=100)(f g:Nat->Int)(w:Bool)(B:Int)(hB:0<=B)(hB2:B<=1329227995784915872903807060280344576)(h:∀j,j<n->okW (f j) (g j)/\ -B<=vW (f j) (g j)/\vW (f j) (g j)<=B):
  ∃a b,kF n f g w=some ((a,b),true)/\okW a b/\vW a b=H9 (λj=>vW (f j) (g j)) n:=by
 have key:∃x:Hv,Hw (((n,w),wl n,0),(f,g),0,0)=some x/\(match x with
   |.inl _=>False
   |.inr e=>okW e.b.1 e.b.2/\vW e.b.1 e.b.2=H9 (λj=>vW (f j) (g j)) n):=by
  unfold Hw
  refine Zq (s:=Dm Ko) (λt d=>∃(i:Nat) (a b:Int),i+t=n/\okW a b/\vW a b=H9 (λj=>vW (f j) (g j)) i/\d=(((n,w),wl n,wl i),(f,g),a,b)) _ (λt d=> ?_) 2000 n _ (by omega)
   ⟨0,0,0,by omega,⟨by omega,by omega,by omega,by omega⟩,rfl,rfl⟩
  rintro ⟨i,a,b,hi,ho,hv,rfl⟩
  rcases aaP t with t0|t0
  .have e:i=n:=by omega
   subst e;simp only[Dm,cC,ch,cQ,fB,awu (eO i),bH];exact⟨_,rfl,ho,hv⟩
  .obtain⟨o1,b1,b2⟩:=h i (by omega);have bnd:=aob (λj=>vW (f j) (g j)) B hB i (λj hj=>(h j (by omega)).2);obtain⟨a2,b2',q,e,o2,c,v⟩:=ayB a b (f i) (g i) ho o1
   have hmul:(i:Int)*B<=100*1329227995784915872903807060280344576:=by
    have:=NK (show(i:Int)<=100 by omega) hB2 hB (by omega);exact this
   have hq:q=true:=by rw[c,hv];omega
   subst hq;have v:=v rfl;have qq:ws (wl i)=i:=rfl;simp only[Dm,cC,ch,cQ,fB,wI,awt hi t0,awv (show i<n by omega),bz,qq,bN,e,K0,bH,aww (show i<9000000000000000000 by omega)];exact⟨_,rfl,t-1,by omega,i+1,a2,b2',by omega,o2,by rw[v,hv];rfl,rfl⟩
 obtain⟨x,hx,hp⟩:=key;simp only[kF,Zy,cC,ch,cQ,fB,eG];rw[aM,bz,hx,bN];cases x with
 |inl e=>exact hp.elim
 |inr e=>exact⟨e.b.1,e.b.2,rfl,hp.1,hp.2⟩
theorem aX2 (x0 x1 x2 x3:Int):Ok (Dp x0 x1 x2 x3) (λb:Bool=>b=true↔((∀j,j<4-> -1073741840<=Bc x0 x1 x2 x3 j/\Bc x0 x1 x2 x3 j<=1073741840)/\ -4294967296<=x0*x0+x1*x1+x2*x2+x3*x3-1152921504606846976/\x0*x0+x1*x1+x2*x2+x3*x3-1152921504606846976<=4294967296)):=by
 unfold Dp abF;show PQ _ _;rw[bF];refine⟨rfl,ay (aRh x0 x1 x2 x3 _ ⟨0,by omega,rfl,rfl,rfl,λj hj=>absurd hj (by omega)⟩) λx _ hx=> ?_⟩;rw[qc];constructor
 .rintro a rfl
  rw[av];obtain⟨j,hj,hs⟩:=hx;exact⟨λh=>(by cases h),λh=>by have:=h.1 j hj;omega⟩
 .rintro e rfl
  obtain⟨h1,h2⟩:=hx;rw[aM,bF];refine⟨rfl,?_⟩;have sm:∀j,j<4-> -1073741840<=Bc x0 x1 x2 x3 j/\Bc x0 x1 x2 x3 j<=1073741840:=λj hj=>(h2 j hj).1
  obtain⟨a,b,ea,oa,va⟩:=aTJ 4 (by omega) e.b.1 e.b.2 true 1152921538966585600 (by omega) (by omega) (λj hj=>by
   obtain⟨s1,s2,s3⟩:=h2 j hj;have:=aeR s1;exact⟨s2,by rw[s3];omega,by rw[s3];omega⟩)
  rw[h1,ea,dH];have s0:=aeR (sm 0 (by omega));have s1:=aeR (sm 1 (by omega));have s2:=aeR (sm 2 (by omega));have s3:=aeR (sm 3 (by omega))
  have vs:vW a b=x0*x0+x1*x1+x2*x2+x3*x3:=by
   rw[va];simp only[H9,(h2 0 (by omega)).2.2,(h2 1 (by omega)).2.2,(h2 2 (by omega)).2.2,(h2 3 (by omega)).2.2];simp only[Bc,lT,if_neg (show ¬(1:Nat)=0 by omega),if_neg (show ¬(2:Nat)=0 by omega),if_neg (show ¬(2:Nat)=1 by omega),if_neg (show ¬(3:Nat)=0 by omega),if_neg (show ¬(3:Nat)=1 by omega),if_neg (show ¬(3:Nat)=2 by omega)];omega
  have t0:Bc x0 x1 x2 x3 0=x0:=rfl;have t1:Bc x0 x1 x2 x3 1=x1:=rfl;have t2:Bc x0 x1 x2 x3 2=x2:=rfl;have t3:Bc x0 x1 x2 x3 3=x3:=rfl;rw[t0] at s0;rw[t1] at s1;rw[t2] at s2;rw[t3] at s3;generalize hS:x0*x0+x1*x1+x2*x2+x3*x3=S at*
  have r:=wide_round a b 0 (by omega) oa;rw[aIA,vs,show wl 0=0 from rfl,if_pos (by omega)] at r;rw[r,dH];have hw:wI (S-1152921504606846976)=S-1152921504606846976:=fL;simp only[hw,aK,av,NN,KX,DB,BC,lY,aaN,PE];exact⟨λk=>⟨λm=>⟨sm,k,m⟩,λc=>c.2.2⟩,λk=>⟨λh=>(by cases h),λc=>absurd c.2.1 k⟩⟩
instance a3y (x0 x1 x2 x3:Int):bl (Dp x0 x1 x2 x3):=(aX2 x0 x1 x2 x3).tot
instance aYL (x0:Nat->Int)(x1:Bool):bl (bD x0 x1):=by
 unfold bD abU;exact aF (by simp only[bJ])
instance aTK (x0:Int)(x1:Bool):bl (kz x0 x1):=by
 unfold kz Ou;exact aF (by simp only[bJ])
instance a1g (x0:Int)(x1:Int)(x2:Int)(x3:Bool):bl (WJ x0 x1 x2 x3):=by
 unfold WJ asO;exact aF (by simp only[bJ])
instance aX3 (x0:Nat->Int)(x1:Int)(x2:Int)(x3:Int)(x4:Int)(x5:Int)(x6:Int)(x7:Int)(x8:Int)(x9:Bool):bl (wu x0 x1 x2 x3 x4 x5 x6 x7 x8 x9):=by
 unfold wu WL;exact aF (by simp only[bJ])
instance aYM (x0:Nat->Int)(x1:Int)(x2:Int)(x3:Int)(x4:Int)(x5:Int)(x6:Int)(x7:Int)(x8:Int)(x9:Bool):bl (vj x0 x1 x2 x3 x4 x5 x6 x7 x8 x9):=by
 unfold vj abW;try dsimp only
 exact aF (by simp only[bJ])
theorem aFR:∀(d:su.B) (hd:0<=d.1.2/\d.1.2<=3),Ok (abY d) (λx:HD=>True):=
 bL (λd:su.B=>ws (3-d.1.2)) (λd hd=>by
  have hw:wI (d.1.2+1)=d.1.2+1:=bk;unfold abX;simp only[bJ];simp only[nf,ua,hw];repeat' (first|exact True.intro|omega|(intro _)|(apply And.intro))) (λd hd=>by omega)
instance a0G (x0:Int)(x1:Int)(x2:Int)(x3:Bool):bl (Kw x0 x1 x2 x3):=by
 unfold Kw amd;refine aF ?_;rw[bA];intro d _;rw[aK];refine⟨λ_=>by simp only[bJ],λ_=> ?_⟩;rw[bA];intro d1 _;refine ay (aFR _ (by simp)) λd _ hd=> ?_;simp only[bJ]
theorem aCn:∀(d:pS.B) (hd:0<=d.1.2/\d.1.2<=24),Ok (Xc d) (λx:EX=>True):=
 bL (λd:pS.B=>ws (24-d.1.2)) (λd hd=>by
  have hw:wI (d.1.2+1)=d.1.2+1:=bk;unfold Xb;simp only[bJ];simp only[nf,ua,hw];repeat' (first|exact True.intro|omega|(intro _)|(apply And.intro))) (λd hd=>by omega)
instance aZr (x0:Nat->Int)(x1:Int)(x2:Bool):bl (Mb x0 x1 x2):=by
 unfold Mb agF;refine aF ?_;rw[bA];intro d1 _;refine ay (aCn _ (by simp)) λd _ hd=> ?_;simp only[av]
theorem atE:∀(d:mc.B) (hd:0<=d.1.2/\d.1.2<=24),Ok (Md d) (λx:yD=>True):=
 bL (λd:mc.B=>ws (24-d.1.2)) (λd hd=>by
  have hw:wI (d.1.2+1)=d.1.2+1:=bk;unfold Mc;simp only[bJ];simp only[nf,ua,hw];repeat' (first|exact True.intro|omega|(intro _)|(apply And.intro))) (λd hd=>by omega)
theorem atF (a b:Int):∀(d:me.B) (hd:0<=d.1.2.2.2.2/\d.1.2.2.2.2<=d.1.2.2.2.1/\d.1.2.2.2.1<=1999/\d.1.1=a/\d.1.2.2.1=b/\(d.1.2.1:Int)=d.1.2.2.2.2/\d.1.2.2.2.1=a+1),Ok (Mf d) (λx:yE=>x.1.1=a/\x.1.2.2.1=b/\(x.1.2.1:Int)=a+1):=
 bL (λd:me.B=>ws (d.1.2.2.2.1-d.1.2.2.2.2)) (λd hd=>by
  have hw:wI (d.1.2.2.2.2+1)=d.1.2.2.2.2+1:=bk;unfold Me;simp only[bJ];simp only[nf,ua,hw];repeat' (first|exact True.intro|omega|(intro _)|(apply And.intro))) (λd hd=>by omega)
theorem atG:∀(d:mf.B) (hd:0<=d.1/\d.1<=24),Ok (Mh d) (λx:yF=>True):=
 bL (λd:mf.B=>ws (24-d.1)) (λd hd=>by
  unfold Mg;try dsimp only
  rw[aK];refine⟨λh=> ?_,λ_=>by simp only[av,mM]⟩;have h:=eF h;have hw:wI (d.1+1)=d.1+1:=bk;rw[bF,hw];refine⟨rfl,ay (atF d.1 d.1 _ (by dsimp only;omega)) λx _ hx=> ?_⟩;obtain⟨a1,a2,a3⟩:=hx;have hn:x.1.2.1=ws (d.1+1):=by omega
  have td:=λa b c=>Nb (ws (d.1+1)) (by omega) a b c false true
  simp only[a1,a2,hw,hn];simp only[bJ];simp only[nf,ua];repeat' (first|exact True.intro|omega|(intro _)|(apply And.intro))) (λd hd=>by omega)
instance aUk (x0:Nat->Int)(x1:Nat->Int)(x2:Nat->Int)(x3:Int)(x4:Bool):bl (tM x0 x1 x2 x3 x4):=by
 unfold tM SQ;try dsimp only
 refine aF ?_;rw[bA];intro d1 _;refine ay (atE _ (by simp)) λd _ hd=> ?_;rw[bA];intro d2 _;refine ay (atG _ (by simp)) λd _ hd=> ?_;simp only[av]
instance aLL (x0:Nat->Int)(x1:Nat->Int)(x2:Nat->Int)(x3:Int)(x4:Bool):bl (qu x0 x1 x2 x3 x4):=by
 unfold qu DF;exact aF (by simp only[bJ])
instance a0H (x0:Int)(x1:Int)(x2:Int)(x3:Int):bl (QM x0 x1 x2 x3):=by
 unfold QM amk;exact aF (by simp only[bJ])
theorem aof (a b:Int):∀(d:jH.B) (hd:0<=d.1.2.2.2.2/\d.1.2.2.2.2<=d.1.2.2.2.1/\d.1.2.2.2.1<=1999/\d.1.1=a/\d.1.2.2.1=b/\d.1.2.2.2.1=a/\0<=a/\a<24),Ok (GO d) (λx:ud=>x.1.2.2.1=b):=
 bL (λd:jH.B=>ws (d.1.2.2.2.1-d.1.2.2.2.2)) (λd hd=>by
  have hw:wI (d.1.2.2.2.2+1)=d.1.2.2.2.2+1:=bk;unfold GN;simp only[bJ];simp only[nf,ua,hw];repeat' (first|exact True.intro|omega|(intro _)|(apply And.intro))) (λd hd=>by omega)
theorem aog:∀(d:jI.B) (hd:0<=d.1/\d.1<=24),Ok (GQ d) (λx:ue=>True):=
 bL (λd:jI.B=>ws (24-d.1)) (λd hd=>by
  have hw:wI (d.1+1)=d.1+1:=bk;unfold GP;simp only[bJ];simp only[nf,ua,hw];repeat' (first|exact True.intro|omega|(intro _)|(apply And.intro))) (λd hd=>by omega)
theorem aoh:∀(d:jJ.B) (hd:0<=d.1/\d.1<=24),Ok (GS d) (λx:uf=>True):=
 bL (λd:jJ.B=>ws (24-d.1)) (λd hd=>by
  unfold GR;try dsimp only
  rw[aK];refine⟨λh=> ?_,λ_=>by simp only[av,mM]⟩;have h:=eF h;have hw:wI (d.1+1)=d.1+1:=bk;iterate 4 (rw[bF];refine⟨by simp only[nf,ua,hw];omega,?_⟩)
  iterate 2 (rw[bA];intro _ _)
  iterate 5 (rw[bF];refine⟨by simp only[nf,ua,hw];omega,?_⟩)
  rw[bA];intro _ _;iterate 4 (rw[bF];refine⟨by simp only[nf,ua,hw];omega,?_⟩)
  refine ay (aof d.1 d.1 _ (by dsimp only;omega)) λx _ hx=> ?_;simp only[av,qH,hx,hw];omega) (λd hd=>by omega)
theorem atH:∀(d:mg.B) (hd:0<=d.1.2/\d.1.2<=24),Ok (Mk d) (λx:yJ=>True):=
 bL (λd:mg.B=>ws (24-d.1.2)) (λd hd=>by
  have hw:wI (d.1.2+1)=d.1.2+1:=bk;unfold Mj;simp only[bJ];simp only[nf,ua,hw];repeat' (first|exact True.intro|omega|(intro _)|(apply And.intro))) (λd hd=>by omega)
instance aUl (x0:Nat->Int)(x1:Int)(x2:Bool):bl (CX x0 x1 x2):=by
 unfold CX SU;refine aF ?_;refine ay (atH _ (by simp)) λd _ hd=> ?_;simp only[bJ]
instance aSz (x0:Nat->Int)(x1:Nat->Int)(x2:Nat->Int)(x3:Int)(x4:Bool):bl (yG x0 x1 x2 x3 x4):=by
 unfold yG Mi;refine aF ?_;rw[bA];intro d1 _;refine ay (aoh _ (by simp)) λd _ hd=> ?_;refine ay (aog _ (by simp)) λd _ hd=> ?_;simp only[bJ]
instance a1Z (x0 x1 x2:Int):bl (EY x0 x1 x2):=by
 have h1:=qi x0;have h2:=qi x1;obtain⟨a,b,e,_,_⟩:=Dw (sat x0) (sat x0) (by omega) (by omega) (by omega) (by omega);unfold EY Xd;refine aF ?_;rw[ui,dH,ui,dH,aK];refine⟨λ_=>by rw[av];trivial,λc1=> ?_⟩;rw[aK];refine⟨λ_=>by rw[av];trivial,λc2=> ?_⟩;rw[aK];refine⟨λ_=>by rw[av];trivial,λc3=> ?_⟩;have c1:=pf c1;have c2:=pf c2
 have sq:0<=x2*x2/\x2*x2<=1000000:=by
  refine⟨IY (by omega) (by omega),?_⟩;have:=NK (show x2<=1000 by omega) (show x2<=1000 by omega) (by omega) (by omega);omega
 have w1:wI (x2*x2)=x2*x2:=fL;have w2:wI (x2*x2*65536)=x2*x2*65536:=fL;obtain⟨a2,b2,e2,_,_⟩:=Dw (x2*x2*65536) (sat x1) (by omega) (by omega) (by omega) (by omega);rw[e,dH,w1,w2,e2,dH];simp only[bJ]
theorem aCo (p:Nat×Bool)(a b:Int):∀(d:pT.B) (hd:0<=d.1.2.2.2/\d.1.2.2.2<=24/\d.1.1=p/\d.1.2.1=a/\d.1.2.2.1=b),Ok (Xf d) (λx:EZ=>x.1.1=p/\x.1.2.1=a/\x.1.2.2.1=b):=
 bL (λd:pT.B=>ws (24-d.1.2.2.2)) (λd hd=>by
  have hw:wI (d.1.2.2.2+1)=d.1.2.2.2+1:=bk;unfold Xe;simp only[bJ];simp only[nf,ua,hw];repeat' (first|exact True.intro|exact hd.2.2.1|exact hd.2.2.2.1|exact hd.2.2.2.2|omega|(intro _)|(apply And.intro))) (λd hd=>by omega)
theorem aCp:∀(d:pU.B) (hd:0<=d.1.2.2/\d.1.2.2<=d.1.2.1/\d.1.2.1<=1999/\d.1.2.1=((d.1.1.1:Nat):Int)),Ok (Xh d) (λx:E0=>True):=
 bL (λd:pU.B=>ws (d.1.2.1-d.1.2.2)) (λd hd=>by
  unfold Xg;try dsimp only
  rw[aK];refine⟨λh=> ?_,λ_=>by simp only[av,mM]⟩;have h:=eF h;have hw:wI (d.1.2.2+1)=d.1.2.2+1:=bk;rw[bF,aM,bF];refine⟨by simp only[cm];omega,rfl,?_⟩;refine ay (aCo d.1.1 d.1.2.1 d.1.2.2 _ (by simp)) λx _ hx=> ?_;obtain⟨a1,a2,a3⟩:=hx;simp only[bJ,a1,a2,a3,hw];omega) (λd hd=>by omega)
theorem aK7 (x:Ml.B)(h:x.1.2.1<=1999):bl (Mm x):=by
 unfold Mm agJ;refine aF ?_;rw[aK,aM,bF];refine⟨λ_=>by simp only[bJ],λ_=>⟨rfl,?_⟩⟩;refine ay (aCp _ (hdN x.1.2.1 h)) λd _ hd=> ?_;simp only[av]
instance a0I (x0:Nat->Int)(x1:Nat->Int)(x2:Nat->Int)(x3:Nat->Int)(x4:Int)(x5:Int)(x6:Int)(x7:Bool):bl (QN x0 x1 x2 x3 x4 x5 x6 x7):=by
 have ta:=λ(d:Nat->Int) a b=>aK7 ((d,1,true),a,b) (by show 1<=1999;omega)
 unfold QN amv;refine aF ?_;simp only[bJ]
theorem aFS (n:Int):∀(d:sw.B) (hd:0<=d.1.2.2.2/\d.1.2.2.2<=d.1.2.2.1/\d.1.2.2.1<=1999/\d.1.2.2.1=((d.1.2.1.1:Nat):Int)/\(d.1.1:Int)=d.1.2.2.2/\d.1.2.2.1=n),Ok (ab2 d) (λx:HE=>(x.1.1:Int)=n):=
 bL (λd:sw.B=>ws (d.1.2.2.1-d.1.2.2.2)) (λd hd=>by
  have hw:wI (d.1.2.2.2+1)=d.1.2.2.2+1:=bk;unfold ab1;simp only[bJ];simp only[nf,ua,hw];repeat' (first|exact True.intro|omega|(intro _)|(apply And.intro))) (λd hd=>by omega)
theorem aK8 (x:QO.B)(h:x.1.2.2.1<=1999):Ok (QP x) (λr:Z5=>r.1.2.2=x.1.2.2.1):=by
 unfold QP amw;show PQ _ _;rw[aM,bF,bF];refine⟨rfl,rfl,?_⟩;refine ay (aFS ((x.1.2.2.1:Nat):Int) _ ?_) λd _ hd=> ?_
 .dsimp only;simp only[dJ];exact⟨by omega,by omega,by omega,trivial,rfl,trivial⟩
 .rw[av];exact Int.ofNat.inj hd
theorem ayG:∀(d:oF.B) (hd:0<=d.1.2.2.2.2/\d.1.2.2.2.2<=d.1.2.2.2.1/\d.1.2.2.2.1<=1999/\d.1.2.2.2.1=((d.1.2.2.1.1:Nat):Int)),Ok (SY d) (λx:CY=>True):=
 bL (λd:oF.B=>ws (d.1.2.2.2.1-d.1.2.2.2.2)) (λd hd=>by
  have hw:wI (d.1.2.2.2.2+1)=d.1.2.2.2.2+1:=bk;unfold SX;simp only[bJ];simp only[nf,o6,ua,hw];repeat' (first|exact True.intro|omega|(intro _)|(apply And.intro))) (λd hd=>by omega)
theorem arP (x0:Nat)(x1:Nat->Bool)(x2:Nat->Int)(x3:Nat->Int)(w0:Bool)(h:x0<=1999):bl (zD x0 x1 x2 x3 w0):=by
 unfold zD ab5;refine aF ?_;rw[aM,bF];refine⟨rfl,?_⟩;refine ay (ayG _ (hdN x0 h)) λd _ hd=> ?_;simp only[bJ]
instance aTL:bl dh:=by
 unfold dh OD;exact aF (by simp only[bJ])
theorem ayH:∀(d:oG.B) (hd:0<=d.1.2.2.2.2/\d.1.2.2.2.2<=d.1.2.2.2.1/\d.1.2.2.2.1<=1999/\d.1.2.2.2.1=((d.1.2.2.1.1:Nat):Int)/\(d.1.1:Int)<=d.1.2.2.2.2/\(d.1.2.1:Int)<=d.1.2.2.2.2/\d.1.2.2.2.1<=1900),Ok (S3 d) (λx:CZ=>x.1.1<=1900/\x.1.2.1<=1900):=
 bL (λd:oG.B=>ws (d.1.2.2.2.1-d.1.2.2.2.2)) (λd hd=>by
  have hw:wI (d.1.2.2.2.2+1)=d.1.2.2.2.2+1:=bk;unfold SZ;simp only[bJ];simp only[nf,o6,ua,hw];repeat' (first|exact True.intro|omega|(intro _)|(apply And.intro))) (λd hd=>by omega)
theorem aHa (x0:Nat)(x1:Bool)(x2:Nat->Int)(x3:Nat->Int)(x4:Nat->Int)(x5:Nat->Int)(x6:Nat->Int)(x7:Nat->Int)(x8:Nat->Int)(x9:Nat->Int)(fS:Nat->Int)(fR:Nat->Int)(w0:Bool)(h:x0<=1900):bl (HF x0 x1 x2 x3 x4 x5 x6 x7 x8 x9 fS fR w0):=by
 unfold HF ab9;try dsimp only
 refine aF ?_;rw[bA];intro d1 _;rw[aM,bF,bF];refine⟨rfl,rfl,?_⟩;refine ay (ayH _ ?_) λd _ hd=> ?_
 .try dsimp only
  simp only[dJ];exact⟨by omega,by omega,by omega,trivial,by omega,by omega,by omega⟩
 .have t1:=λa b c e g=>ahE d.1.1 a b c e g hd.1
  have t2:=λa b c e g=>ahE d.1.2.1 a b c e g hd.2
  simp only[bJ,aM,KX,DB]
instance a10 (x0 x1:Nat->Int)(x2:Int)(x4:Bool)(x5:Nat->Int)(w0:Bool):bl (dX x0 x1 x2 4 x4 x5 w0):=Ba _ _ _ _ _ _ _ (by omega)
instance a12 (x0 x1:Nat->Int)(x2:Int)(x4:Bool)(x5:Nat->Int)(w0:Bool):bl (dX x0 x1 x2 3 x4 x5 w0):=Ba _ _ _ _ _ _ _ (by omega)
instance a13 (x0 x1:Nat->Int)(x2:Int)(x4:Bool)(x5:Nat->Int)(w0:Bool):bl (dX x0 x1 x2 2 x4 x5 w0):=Ba _ _ _ _ _ _ _ (by omega)
instance a14 (x0 x1:Nat->Int)(x2:Int)(x4:Bool)(x5:Nat->Int)(w0:Bool):bl (dX x0 x1 x2 1 x4 x5 w0):=Ba _ _ _ _ _ _ _ (by omega)
instance aZs (x0:Nat->Int)(x1:Nat->Int)(x2:Nat->Int)(x3:Int)(x4:Int)(x5:Bool):bl (Ms x0 x1 x2 x3 x4 x5):=by
 unfold Ms UK;exact aF (by simp only[bJ])
theorem awC:∀(d:nj.B) (hd:0<=d.1.2.2.2.2/\d.1.2.2.2.2<=d.1.2.2.2.1/\d.1.2.2.2.1<=1999/\d.1.2.2.2.1=((d.1.2.2.1.1:Nat):Int)/\(d.1.2.1:Int)=d.1.2.2.2.2/\0<=d.1.1/\d.1.1+d.1.2.2.2.1<=24),Ok (OF d) (λx:AO=>True):=
 bL (λd:nj.B=>ws (d.1.2.2.2.1-d.1.2.2.2.2)) (λd hd=>by
  have hw:wI (d.1.2.2.2.2+1)=d.1.2.2.2.2+1:=bk;unfold OE;try dsimp only
  have h1:wI (d.1.1+d.1.2.2.2.2)=d.1.1+d.1.2.2.2.2:=fL;simp only[h1];simp only[bJ];simp only[nf,o6,ua,hw];repeat' (first|exact True.intro|omega|(intro _)|(apply And.intro))) (λd hd=>by omega)
theorem YI (x0:Nat->Int)(x1:Int)(x2:Nat)(x3:Bool)(x4:Nat->Int)(w0:Bool)(h0:0<=x1)(h1:x1+(x2:Int)<=24):bl (gD x0 x1 x2 x3 x4 w0):=by
 unfold gD Xl;refine aF ?_;rw[bA];intro d1 _;rw[aM,bF,bF];refine⟨rfl,rfl,?_⟩;refine ay (awC _ ?_) λd _ hd=> ?_
 .dsimp only;simp only[dJ];exact⟨by omega,by omega,by omega,trivial,rfl,h0,h1⟩
 .simp only[bJ]
def ajz (a:Int)(n:Nat)(f:Nat->Int):Nat->Int:=λj=>bif ww j (n+1) then a else bif ww j n then a else f j
theorem sum_add (a b:Int)(n:Nat)(hn:n<=1000)(f g:Nat->Int):nJ a b n n f g=some ((n+2,n+2),ajz a n f,ajz b n g):=by
 have hb:wd ((n+2)*8) 140737488355328=true:=by rw[eQ];omega
 simp only[nJ,Xr,ch,cC,fB,hb,bz];rfl
theorem aTM (a b:Int)(f g:Nat->Int):nJ a b 0 0 f g=some ((2,2),ajz a 0 f,ajz b 0 g):=sum_add a b 0 (by omega) f g
theorem aTN (a b:Int)(f g:Nat->Int):nJ a b 2 2 f g=some ((4,4),ajz a 2 f,ajz b 2 g):=sum_add a b 2 (by omega) f g
theorem aTO (a b:Int)(f g:Nat->Int):nJ a b 4 4 f g=some ((6,6),ajz a 4 f,ajz b 4 g):=sum_add a b 4 (by omega) f g
theorem aTP (a b:Int)(f g:Nat->Int):nJ a b 6 6 f g=some ((8,8),ajz a 6 f,ajz b 6 g):=sum_add a b 6 (by omega) f g
theorem aTQ (a b:Int)(f g:Nat->Int):nJ a b 8 8 f g=some ((10,10),ajz a 8 f,ajz b 8 g):=sum_add a b 8 (by omega) f g
instance a3z (fP:Bool)(f g:Nat->Int)(w w':Bool):bl (bC 30 6 6 fP f g w w'):=Nb 6 (by omega) fP f g w w'
instance a3A (fP:Bool)(f g:Nat->Int)(w w':Bool):bl (bC 30 8 8 fP f g w w'):=Nb 8 (by omega) fP f g w w'
instance a2U (fP:Bool)(f g:Nat->Int)(w w':Bool):bl (bC 30 10 10 fP f g w w'):=Nb 10 (by omega) fP f g w w'
instance aYN (x0:Int)(x1:Int)(x2:Int)(x3:Int)(x4:Int)(x5:Int)(x6:Int)(x7:Bool):bl (zE x0 x1 x2 x3 x4 x5 x6 x7):=by
 unfold zE acf;try dsimp only
 exact aF (by simp only[bJ,aTM,aTN,aTO,aTP,aTQ,dH,aM,NN,KX,DB])
instance aYO (x0:Int)(x1:Int)(x2:Int)(x3:Int)(x4:Int)(x5:Int)(x6:Int)(x7:Int)(x8:Int):bl (zF x0 x1 x2 x3 x4 x5 x6 x7 x8):=by
 unfold zF aci;exact aF (by simp only[bJ])
instance aYP (x0:Int)(x1:Int)(x2:Int):bl (gQ x0 x1 x2):=by
 unfold gQ HI;exact aF (by simp only[bJ])
instance aZt (x0:Int)(x1:Int)(x2:Int)(x3:Int)(x4:Int)(x5:Int)(x6:Int)(x7:Int)(x8:Int):bl (Mw x0 x1 x2 x3 x4 x5 x6 x7 x8):=by
 unfold Mw agN;exact aF (by simp only[bJ])
instance aTR (x0:Int):bl (AP x0):=by
 unfold AP OH;exact aF (by simp only[bJ])
instance aZu (x0:Int)(x1:Int)(x2:Int)(x3:Int)(x4:Int)(x5:Int)(x6:Int)(x7:Int)(x8:Int)(x9:Bool):bl (yK x0 x1 x2 x3 x4 x5 x6 x7 x8 x9):=by
 unfold yK agR;exact aF (by simp only[bJ])
theorem atI:∀(d:mh.B) (hd:0<=d.1.2.2/\d.1.2.2<=d.1.2.1/\d.1.2.1<=1999/\d.1.2.1=((d.1.1.1:Nat):Int)),Ok (Mz d) (λx:yL=>True):=
 bL (λd:mh.B=>ws (d.1.2.1-d.1.2.2)) (λd hd=>by
  have hw:wI (d.1.2.2+1)=d.1.2.2+1:=bk;unfold My;simp only[bJ];simp only[nf,o6,ua,hw];repeat' (first|exact True.intro|omega|(intro _)|(apply And.intro))) (λd hd=>by omega)
theorem aCq (x0:Nat)(x1:Nat->Int)(w0:Bool)(h:x0<=1999):bl (pV x0 x1 w0):=by
 unfold pV S6;refine aF ?_;rw[aM,bF];refine⟨rfl,?_⟩;refine ay (atI _ (hdN x0 h)) λd _ hd=> ?_;simp only[bJ]
instance a2V (x1:Nat->Int)(w0:Bool):bl (pV 1 x1 w0):=aCq _ _ _ (by omega)
theorem vP (x0:Nat->Int)(x1:Int)(x2:Int)(x3:Int)(x4:Int)(x5:Bool)(h0:0<=x1)(h1:x1<24):bl (eR x0 x1 x2 x3 x4 x5):=by
 have hr:bg x1 24=true:=by simp only[cm];omega
 unfold eR OK;exact aF (by simp only[bJ,hr,KX,DB])
instance aZv (x0:Nat->Int)(x2 x3 x4:Int)(x5:Bool):bl (eR x0 4 x2 x3 x4 x5):=vP _ _ _ _ _ _ (by omega) (by omega)
instance aZw (x0:Nat->Int)(x2 x3 x4:Int)(x5:Bool):bl (eR x0 5 x2 x3 x4 x5):=vP _ _ _ _ _ _ (by omega) (by omega)
instance aZx (x0:Nat->Int)(x2 x3 x4:Int)(x5:Bool):bl (eR x0 6 x2 x3 x4 x5):=vP _ _ _ _ _ _ (by omega) (by omega)
instance aZy (x0:Nat->Int)(x2 x3 x4:Int)(x5:Bool):bl (eR x0 7 x2 x3 x4 x5):=vP _ _ _ _ _ _ (by omega) (by omega)
instance aZz (x0:Nat->Int)(x2 x3 x4:Int)(x5:Bool):bl (eR x0 8 x2 x3 x4 x5):=vP _ _ _ _ _ _ (by omega) (by omega)
instance aZA (x0:Nat->Int)(x2 x3 x4:Int)(x5:Bool):bl (eR x0 9 x2 x3 x4 x5):=vP _ _ _ _ _ _ (by omega) (by omega)
instance a3B (fP:Bool)(l:Nat->Int)(w:Bool):bl (cY 4 fP l w):=aK3 4 (by omega) fP l w
instance a15 (fP:Bool)(f:Nat->Int)(w:Bool):bl (gP 2 fP f w):=aFN 2 (by omega) fP f w
instance aTS (x0:Nat->Int)(x1:Int)(x2:Int)(x3:Int)(x4:Int)(x5:Int)(x6:Int)(x7:Int)(x8:Int)(x9:Int)(fS:Bool):bl (vK x0 x1 x2 x3 x4 x5 x6 x7 x8 x9 fS):=by
 unfold vK OM;exact aF (by simp only[bJ,qk])
instance aSA (x0:Int)(x1:Int)(x2:Int)(x3:Int)(x4:Int)(x5:Int)(x6:Int)(x7:Int)(x8:Bool):bl (jC x0 x1 x2 x3 x4 x5 x6 x7 x8):=by
 unfold jC MC;exact aF (by simp only[bJ,qk])
instance aRi (x:wC.B):bl (qP x):=by
 unfold qP JC;exact aF (by simp only[bJ,qk])
instance aX4 (x:E1.B):bl (AQ x):=by
 unfold AQ XA;try dsimp only
 exact aF (by simp only[bJ,qk])
instance aRj (x0:Int):bl (wD x0):=by
 unfold wD JE;exact aF (by simp only[bJ,qk])
instance aX5 (x0:Int)(x1:Int)(x2:Int)(x3:Int)(x4:Int)(x5:Int)(x6:Int)(x7:Int)(x8:Int)(x9:Int)(fS:Int)(fR:Bool):bl (wE x0 x1 x2 x3 x4 x5 x6 x7 x8 x9 fS fR):=by
 unfold wE XH;exact aF (by simp only[bJ,qk])
instance aRk (x0:Int)(x1:Int)(x2:Int)(x3:Int)(x4:Int)(x5:Int)(x6:Int)(x7:Int)(x8:Int)(x9:Bool):bl (mi x0 x1 x2 x3 x4 x5 x6 x7 x8 x9):=by
 unfold mi JH;exact aF (by simp only[bJ,qk])
instance aX6 (x0:Nat->Int)(x1:Int)(x2:Int)(x3:Int)(x4:Bool):bl (AR x0 x1 x2 x3 x4):=by
 unfold AR XL;exact aF (by simp only[bJ,qk])
instance aOS (x0:Int)(x1:Int)(x2:Int)(x3:Int)(x4:Int)(x5:Int)(x6:Int)(x7:Int)(x8:Int)(x9:Bool):bl (kX x0 x1 x2 x3 x4 x5 x6 x7 x8 x9):=by
 unfold kX GY;exact aF (by simp only[bJ,qk])
instance aUm (x0:Nat->Int)(x1:Int)(x2:Int)(x3:Int)(x4:Int)(x5:Bool):bl (xX x0 x1 x2 x3 x4 x5):=by
 unfold xX Tc;try dsimp only
 exact aF (by simp only[bJ,qk])
instance aUn (x0:Int):bl (C2 x0):=by
 unfold C2 Tf;exact aF (by simp only[bJ,qk])
instance a0J (x0:Int)(x1:Int)(x2:Int)(x3:Int)(x4:Int)(x5:Int)(x6:Int)(x7:Int)(x8:Int)(x9:Bool):bl (vm x0 x1 x2 x3 x4 x5 x6 x7 x8 x9):=by
 unfold vm amQ;exact aF (by simp only[bJ,qk])
instance a0K (x0:Nat->Int)(x1:Int)(x2:Int)(x3:Int)(x4:Int)(x5:Int)(x6:Bool):bl (QR x0 x1 x2 x3 x4 x5 x6):=by
 unfold QR amU;try dsimp only
 exact aF (by simp only[bJ,qk])
instance aYQ (x0:Int)(x1:Int)(x2:Int)(x3:Bool):bl (zH x0 x1 x2 x3):=by
 unfold zH acq;exact aF (by simp only[bJ,qk])
instance aX7 (x0:Nat->Int)(x1:Int)(x2:Int)(x3:Int)(x4:Int)(x5:Int)(x6:Int)(x7:Int)(x8:Bool):bl (E3 x0 x1 x2 x3 x4 x5 x6 x7 x8):=by
 unfold E3 XN;try dsimp only
 exact aF (by simp only[bJ,qk])
instance aZB (x0:Int)(x1:Int)(x2:Int)(x3:Int)(x4:Int)(x5:Int)(x6:Int)(x7:Int)(x8:Int)(x9:Bool):bl (F1 x0 x1 x2 x3 x4 x5 x6 x7 x8 x9):=by
 unfold F1 agV;exact aF (by simp only[bJ,qk])
instance aUo (x0:Int):bl (C4 x0):=by
 unfold C4 Th;exact aF (by simp only[bJ,qk])
instance a0L (x0:Int)(x1:Int)(x2:Int)(x3:Int)(x4:Int)(x5:Int)(x6:Int)(x7:Int)(x8:Int)(x9:Bool):bl (E4 x0 x1 x2 x3 x4 x5 x6 x7 x8 x9):=by
 unfold E4 am6;exact aF (by simp only[bJ,qk])
instance aUp (x0:Nat->Int)(x1:Bool):bl (tN x0 x1):=by
 unfold tN Tj;exact aF (by simp only[bJ,qk])
instance aZC (x0:Int)(x1:Int)(x2:Int)(x3:Nat->Int)(x4:Int)(x5:Int)(x6:Int):bl (BT x0 x1 x2 x3 x4 x5 x6):=by
 unfold BT agY;exact aF (by simp only[bJ,qk])
instance aUq (x0:Nat->Int)(x1:Int)(x2:Int)(x3:Int)(x4:Bool):bl (C6 x0 x1 x2 x3 x4):=by
 unfold C6 Tk;exact aF (by simp only[bJ,qk])
instance aUr (x0:Nat->Int)(x1:Int)(x2:Int)(x3:Bool):bl (C7 x0 x1 x2 x3):=by
 unfold C7 To;try dsimp only
 exact aF (by simp only[bJ,qk])
instance aTT (x0:Int):bl (AS x0):=by
 unfold AS OV;exact aF (by simp only[bJ,qk])
instance aZD (x0:Int)(x1:Int)(x2:Int)(x3:Int)(x4:Int)(x5:Int)(x6:Int)(x7:Int)(x8:Int)(x9:Bool):bl (BU x0 x1 x2 x3 x4 x5 x6 x7 x8 x9):=by
 unfold BU ag3;exact aF (by simp only[bJ,qk])
instance aTU (x0:Nat->Int)(x1:Bool):bl (AT x0 x1):=by
 unfold AT OX;exact aF (by simp only[bJ,qk])
instance aZE (x0:Nat->Int)(x1:Int)(x2:Int)(x3:Int)(x4:Int)(x5:Int)(x6:Bool):bl (BV x0 x1 x2 x3 x4 x5 x6):=by
 unfold BV UM;try dsimp only
 exact aF (by simp only[bJ,qk])
instance aZF (x0:Int):bl (pB x0):=by
 unfold pB UP;exact aF (by simp only[bJ,qk])
instance aOm (x0:Int)(x1:Int)(x2:Int)(x3:Bool):bl (mj x0 x1 x2 x3):=by
 unfold mj yN;exact aF (by simp only[bJ,qk])
instance aOn (x0:Int)(x1:Int)(x2:Bool):bl (ml x0 x1 x2):=by
 unfold ml yO;exact aF (by simp only[bJ,qk])
instance aLM (x0:Int)(x1:Int)(x2:Int)(x3:Int)(x4:Bool):bl (lq x0 x1 x2 x3 x4):=by
 unfold lq qv;exact aF (by simp only[bJ,qk])
instance aeS (x0:Int)(x1:Int)(x2:Int)(x3:Bool)(x4:Int)(x5:Int)(x6:Int):bl (dm x0 x1 x2 x3 x4 x5 x6):=by
 unfold dm oI;exact aF (by simp only[bJ,qk])
instance aLN (x0:Nat->Int)(x1:Nat->Int)(x2:Nat->Bool)(x3:Nat->Int)(x4:Nat->Int)(x5:Nat->Int)(x6:Int):bl (qw x0 x1 x2 x3 x4 x5 x6):=by
 unfold qw DI;exact aF (by simp only[bJ,qk])
instance aFT (x0:Bool)(x1:Int)(x2:Int)(x3:Bool)(x4:Int)(x5:Int)(x6:Nat->Int)(x7:Nat->Int)(x8:Nat->Bool)(x9:Nat->Int)(fS:Nat->Int)(fR:Nat->Int)(zy:Int):bl (fj x0 x1 x2 x3 x4 x5 x6 x7 x8 x9 fS fR zy):=by
 unfold fj wH;exact aF (by simp only[bJ,qk])
theorem Qq (x:Int):pB x=some (decide (0<=x)&&decide (x<6)):=by
 simp only[pB,UP,ch,cC];by_cases h0:0<=x<;>simp[h0]
theorem aSB {x:Int}(h:(decide (0<=x)&&decide (x<6))=true)(k:Nat)(hk:k<=6):bg x 6=true/\wd (0+ws x*6+k) 36=true/\wd (0+ws x*6+k) 37=true:=by
 simp only[cy,lY] at h;simp only[cm,eQ];omega
instance aHb (x0:Int)(x1:Int)(x2:Nat->Int)(x3:Nat->Int)(x4:Nat->Bool)(x5:Nat->Int)(x6:Nat->Int)(x7:Nat->Int)(x8:Int):bl (gf x0 x1 x2 x3 x4 x5 x6 x7 x8):=by
 unfold gf rG;refine aF ?_;rw[Qq,dH,aK];refine⟨λh=> ?_,λ_=>by rw[av];trivial⟩;obtain⟨h1,h2,h3⟩:=aSB h 6 (by omega);simp only[bJ,h1,h2,NN,KX,DB]
theorem Ac (x0:Int)(x1:Int)(x2:Nat)(x3:Nat->Int)(x4:Nat->Int)(x5:Nat->Bool)(x6:Nat->Int)(x7:Nat->Int)(x8:Nat->Int)(x9:Int)(fS:Nat->Bool)(fR:Nat->Int)(zy:Nat->Int)(w0:Bool)(h:x2<=1999):bl (eZ x0 x1 x2 x3 x4 x5 x6 x7 x8 x9 fS fR zy w0):=by
 have tc:=λa b c e=>arP x2 a b c e h
 unfold eZ rD;try dsimp only
 refine aF ?_;rw[Qq,dH,aK];refine⟨λ_=>by rw[av];trivial,λh=> ?_⟩;rw[ae9] at h;obtain⟨h1,h2,h3⟩:=aSB h 3 (by omega);simp only[bJ,h1,h2,h3,Bool.and_self,aM,NN,KX,DB]
theorem Va:∀(d:eM.B) (hd:0<=d.1.2.2/\d.1.2.2<=6),Ok (wG d) (λx:mm=>True):=
 bL (λd:eM.B=>ws (6-d.1.2.2)) (λd hd=>by
  have hw:wI (d.1.2.2+1)=d.1.2.2+1:=bk;unfold wF;simp only[bJ];simp only[nf,o6,ua,hw];repeat' (first|exact True.intro|omega|(intro _)|(apply And.intro))) (λd hd=>by omega)
instance aHc (x0:Int)(x1:Nat->Int)(x2:Nat->Int)(x3:Nat->Bool)(x4:Nat->Int)(x5:Nat->Int)(x6:Nat->Int)(x7:Int):bl (nK x0 x1 x2 x3 x4 x5 x6 x7):=by
 unfold nK zK;refine aF ?_;refine ay (Va _ (by simp)) λd _ hd=> ?_;simp only[bJ]
instance a3C (x:Int)(fP:Bool):bl (BJ x fP):=by
 have h1:=qi x;obtain⟨a,b,q,e,ho,hq,hv,_⟩:=aod (sat x) 30 (by omega) (by omega) (by omega);unfold BJ afZ;refine aF ?_;rw[ui,dH,aK];refine⟨λ_=>by rw[av];trivial,λc=> ?_⟩;have c:=pf c;have e30:(2:Int)^30=1073741824:=rfl;have q1:q=true:=by rw[hq,e30];omega
 have v:=hv q1;rw[e30] at v;have e':uX (sat x) 30=some ((a,b),q):=e
 have h0:0<=a:=by
  obtain⟨o1,o2,o3,o4⟩:=ho;simp only[vW] at v;omega
 obtain⟨r,hr,_,_⟩:=atC a b ho h0;rw[e',dH,awx a b r _ ho h0 hr,dH,av];trivial
instance a16 (x0:Nat->Int)(x3:Bool)(x4:Nat->Int)(w0:Bool):bl (gD x0 4 3 x3 x4 w0):=YI _ _ _ _ _ _ (by omega) (by omega)
instance a17 (x0:Nat->Int)(x3:Bool)(x4:Nat->Int)(w0:Bool):bl (gD x0 7 2 x3 x4 w0):=YI _ _ _ _ _ _ (by omega) (by omega)
instance a18 (x0:Nat->Int)(x3:Bool)(x4:Nat->Int)(w0:Bool):bl (gD x0 9 1 x3 x4 w0):=YI _ _ _ _ _ _ (by omega) (by omega)
instance aZG (x0:Nat->Int)(x1:Int)(x2:Bool):bl (lC x0 x1 x2):=by
 unfold lC ag7;exact aF (by simp only[bJ,qk])
instance aYR (x0:Nat->Int)(x1:Int)(x2:Int)(x3:Int)(x4:Int)(x5:Int)(x6:Int)(x7:Int)(x8:Int)(x9:Int)(fS:Int)(fR:Int):bl (rJ x0 x1 x2 x3 x4 x5 x6 x7 x8 x9 fS fR):=by
 unfold rJ acF;exact aF (by simp only[bJ,qk])
instance aYS (x:zR.B):bl (rK x):=by
 unfold rK HX;try dsimp only
 exact aF (by simp only[bJ,qk])
instance aF1 (x:gX.B):bl (eD x):=by
 unfold eD qd;exact aF (by simp only[bJ,qk])
instance aLO (x:lr.B):bl (iR x):=by
 unfold iR xd;exact aF (by simp only[bJ,qk])
instance aX8 (x0:Int)(x1:Int)(x2:Int):bl (nN x0 x1 x2):=by
 unfold nN MI;exact aF (by simp only[bJ,qk])
instance aZH (x0:Int)(x1:Int)(x2:Int):bl (yR x0 x1 x2):=by
 unfold yR aha;exact aF (by simp only[bJ,qk])
instance aSC (x0:Nat->Int)(x1:Nat->Int)(x2:Nat->Int)(x3:Int)(x4:Int)(x5:Int)(x6:Int)(x7:Bool):bl (yS x0 x1 x2 x3 x4 x5 x6 x7):=by
 unfold yS D7;try dsimp only
 exact aF (by simp only[bJ,qk])
instance aOT (x0:Nat->Int)(x1:Nat->Int)(x2:Nat->Int)(x3:Int)(x4:Int)(x5:Int)(x6:Bool):bl (ug x0 x1 x2 x3 x4 x5 x6):=by
 unfold ug Ak;try dsimp only
 exact aF (by simp only[bJ,qk])
instance aUs (x0:Nat->Int)(x1:Nat->Int)(x2:Nat->Int)(x3:Int)(x4:Int)(x5:Bool):bl (C9 x0 x1 x2 x3 x4 x5):=by
 unfold C9 Iz;exact aF (by simp only[bJ,qk])
instance aCF (x:lD.B):bl (iJ x):=by
 unfold iJ uw;try dsimp only
 exact aF (by simp only[bJ,qk])
instance aBi (x:jK.B):bl (gK x):=by
 unfold gK sD;try dsimp only
 exact aF (by simp only[bJ,qk])
instance aRl (x0:Int):bl (wM x0):=by
 unfold wM JM;exact aF (by simp only[bJ,qk])
instance aOo (x0:Int)(x1:Int):bl (mq x0 x1):=by
 unfold mq Fh;exact aF (by simp only[bJ,qk])
instance aOU:bl m7:=by
 unfold m7 G7;exact aF (by simp only[bJ,qk])
instance a19 (x0:Int):bl (O5 x0):=by
 unfold O5 aoA;exact aF (by simp only[bJ,qk])
theorem ayI:∀(d:hU.B) (hd:0<=d.1/\d.1<=3),Ok (C8 d) (λx:pW=>True):=
 bL (λd:hU.B=>ws (3-d.1)) (λd hd=>by
  have hw:wI (d.1+1)=d.1+1:=bk;unfold xY;simp only[bJ];simp only[nf,o6,ua,hw];repeat' (first|exact True.intro|omega|(intro _)|(apply And.intro))) (λd hd=>by omega)
theorem aFU:∀(d:mo.B) (hd:0<=d.1.2/\d.1.2<=24),Ok (H0 d) (λx:Dv=>True):=
 bL (λd:mo.B=>ws (24-d.1.2)) (λd hd=>by
  have hw:wI (d.1.2+1)=d.1.2+1:=bk;unfold Qk;simp only[bJ];simp only[nf,o6,ua,hw];repeat' (first|exact True.intro|omega|(intro _)|(apply And.intro))) (λd hd=>by omega)
instance aHd (x0:Int)(x1:Nat->Int)(x2:Nat->Int)(x3:Nat->Bool)(x4:Nat->Int)(x5:Nat->Int)(x6:Nat->Int)(x7:Int):bl (kC x0 x1 x2 x3 x4 x5 x6 x7):=by
 unfold kC rI;refine aF ?_;rw[Qq,dH,aK];refine⟨λ_=>by rw[av];trivial,λh=> ?_⟩;rw[ae9] at h;obtain⟨h1,h2,h3⟩:=aSB h 6 (by omega);simp only[bJ,h1,h2,NN,KX,DB]
instance aYT (x0:Int)(x1:Int)(x2:Int)(x3:Int)(x4:Int)(x5:Int)(x6:Int)(x7:Int):bl (kD x0 x1 x2 x3 x4 x5 x6 x7):=by
 unfold kD zQ;refine aF ?_;refine ay (ayI _ (by simp)) λd _ hd=> ?_;simp only[bJ]
instance aOp (x:gh.B):bl (cU x):=by
 unfold cU mn;try dsimp only
 exact aF (by simp only[bJ,qk])
instance a0M (x:Ff.B):bl (oJ x):=by
 have key:∀d,(0<=d.1.2/\d.1.2<=24)->∀(k1 k2),(∀a,PQ (k1 a) λ_=>True)->(∀a,PQ (k2 a) λ_=>True)->PQ (opt (H0 d) λx=>sum x k1 k2) (δ:=anp) (λ_=>True):=λd hd k1 k2 h1 h2=>by
  refine ay (aFU d hd) λx _ _=> ?_;rw[qc];exact⟨λa _=>h1 a,λa _=>h2 a⟩
 unfold oJ aaj;try dsimp only
 refine aF ?_;repeat' (first|(rw[aK];refine⟨λ_=>by rw[av];trivial,λ_=> ?_⟩)|(rw[bA];intro _ _))
 refine key _ (by simp) _ _ (λ_=>by rw[av];trivial) (λ_=> ?_);simp only[bJ]
theorem Pw (n:Nat):∀(d:dM.B) (hd:0<=d.1.2.2/\d.1.2.2<=d.1.2.1/\d.1.2.1<=1999/\d.1.2.1=((d.1.1:Nat):Int)/\d.2.1.2.2=d.1.1/\d.1.1=n),Ok (sF d) (λx:jL=>x.1.1=n):=
 bL (λd:dM.B=>ws (d.1.2.1-d.1.2.2)) (λd hd=>by
  have hw:wI (d.1.2.2+1)=d.1.2.2+1:=bk;unfold sE;simp only[bJ];simp only[nf,o6,ua,hw];repeat' (first|exact True.intro|exact hd.c.1|exact hd.c.2|omega|(intro _)|(apply And.intro))) (λd hd=>by omega)
theorem Px (n:Nat):∀(d:dN.B) (hd:0<=d.1.2.2/\d.1.2.2<=d.1.2.1/\d.1.2.1<=1999/\d.1.2.1=((d.1.1:Nat):Int)/\d.2.1.2.2=d.1.1/\d.1.1=n),Ok (sH d) (λx:jM=>x.1.1=n):=
 bL (λd:dN.B=>ws (d.1.2.1-d.1.2.2)) (λd hd=>by
  have hw:wI (d.1.2.2+1)=d.1.2.2+1:=bk;unfold sG;simp only[bJ];simp only[nf,o6,ua,hw];repeat' (first|exact True.intro|exact hd.c.1|exact hd.c.2|omega|(intro _)|(apply And.intro))) (λd hd=>by omega)
theorem TJ (x:lE.B)(h:x.1.2.2<=1999):Ok (lF x) (λr:ux=>r.2.1=x.1.2.2):=by
 unfold lF uA;show PQ _ _;rw[aM,bF];refine⟨rfl,ay (Pw x.1.2.2 _ ?_) λd _ hd=> ?_⟩
 .dsimp only;simp only[dJ];exact⟨by omega,by omega,by omega,trivial,trivial,trivial⟩
 .rw[av];exact hd
theorem TK (x:lG.B)(h:x.1.2.2<=1999):Ok (lH x) (λr:uD=>r.2.1=x.1.2.2):=by
 unfold lH uG;show PQ _ _;rw[aM,bF];refine⟨rfl,ay (Px x.1.2.2 _ ?_) λd _ hd=> ?_⟩
 .dsimp only;simp only[dJ];exact⟨by omega,by omega,by omega,trivial,trivial,trivial⟩
 .rw[av];exact hd
theorem Nc:∀(d:dz.B) (hd:0<=d.1.2.2.2.2/\d.1.2.2.2.2<=d.1.2.2.2.1/\d.1.2.2.2.1<=1999/\d.1.2.2.2.1=((d.1.2.2.1.1:Nat):Int)),Ok (p7 d) (λx:iN=>True):=
 bL (λd:dz.B=>ws (d.1.2.2.2.1-d.1.2.2.2.2)) (λd hd=>by
  have hw:wI (d.1.2.2.2.2+1)=d.1.2.2.2.2+1:=bk;unfold p6;simp only[bJ];simp only[nf,o6,ua,hw];repeat' (first|exact True.intro|omega|(intro _)|(apply And.intro))) (λd hd=>by omega)
theorem RR (x0:Nat)(x1:Nat)(x2:Nat->Int)(x3:Nat->Int)(w0:Bool)(w1:Bool)(h:x0<=1999):bl (gL x0 x1 x2 x3 w0 w1):=by
 unfold gL sI;refine aF ?_;rw[aM,aM,bF,bF];refine⟨rfl,rfl,ay (Nc _ (hdN x0 h)) λd _ hd=> ?_⟩;simp only[bJ]
instance a0N (x2 x3:Nat->Int)(w0 w1:Bool):bl (gL 8 8 x2 x3 w0 w1):=RR _ _ _ _ _ _ (by omega)
instance aUt (x:C'.B):bl (tU x):=by
 unfold tU Tx;try dsimp only
 exact aF (by simp only[bJ,qk])
theorem pH (n:Nat):∀(d:aX.B) (hd:0<=d.1.2.2.1/\d.1.2.2.1<=d.1.2.2.2/\d.1.2.2.2<=(n:Int)/\d.1.1.1=n/\n<=1999/\d.1.2.1=(n:Int)),Ok (ei d) (λx:bR=>0<=x.1.2.2.1/\x.1.2.2.1<=(n:Int)/\x.1.1.1=n/\x.1.2.1=(n:Int)):=
 bL (λd:aX.B=>ws (d.1.2.2.2-d.1.2.2.1)) (λd hd=>by
  have h1:wI (d.1.2.2.1+d.1.2.2.2)=d.1.2.2.1+d.1.2.2.2:=fL;have h2:wU (d.1.2.2.1+d.1.2.2.2)=d.1.2.2.1+d.1.2.2.2:=by show IntKind.wrap .u64 _=_;rw[wrap_u64];omega
  have h3:ul (d.1.2.2.1+d.1.2.2.2) 2=(d.1.2.2.1+d.1.2.2.2)/2:=Int.fdiv_eq_ediv_of_nonneg _ (by omega);have h4:wI ((d.1.2.2.1+d.1.2.2.2)/2)=(d.1.2.2.1+d.1.2.2.2)/2:=fL;have h5:wI ((d.1.2.2.1+d.1.2.2.2)/2+1)=(d.1.2.2.1+d.1.2.2.2)/2+1:=fL;unfold ee;simp only[h1,h2,h3,h4,h5];simp only[bJ];simp only[nf,o6,ua];repeat' (first|exact True.intro|omega|(intro _)|(apply And.intro))) (λd hd=>by omega)
theorem aRm (x:bU.B)(h:x.1.1.1<=1999):Ok (bV x) (λr:eH=>0<=r.1/\r.1<=(x.1.1.1:Int)):=by
 unfold bV eI;try dsimp only
 show PQ _ _;rw[aM,bF];refine⟨rfl,ay (pH x.1.1.1 _ ?_) λd _ hd=> ?_⟩
 .try dsimp only
  simp only[dJ];exact⟨by omega,by omega,by omega,trivial,h,trivial⟩
 .obtain⟨a1,a2,a3,a4⟩:=hd;simp only[bJ,a3,a4];simp only[nf,o6,ua];exact⟨λc=>⟨λ_ _ _=>⟨a1,a2⟩,⟨a1,c⟩⟩,λ_=>⟨a1,a2⟩⟩
theorem aOq (n:Nat)(i:Int)(h0:0<=i)(h1:i<=(n:Int))(hn:n<=1999)(x2 x3 x4 x5 x6 x7 x8 x9 fS fR zy x13 x14 x15 x16 x17 x18 x19:Nat->Int)(w1:Bool):
  Ok (cS n i x2 x3 x4 x5 x6 x7 x8 x9 fS fR zy x13 x14 x15 x16 x17 x18 x19 1 true w1) (λr:fe=>r.1=n+1):=by
 have b1:wd (ws i) n=true:=by rw[eQ];omega
 have b2:wd ((n+1)*72) 140737488355328=true:=by rw[eQ];omega
 unfold cS;rw[b1,b2,gy h0];exact⟨_,rfl,rfl⟩
theorem aBj (n:Nat)(i j:Int)(h0:0<=i)(h1:i<=j)(h2:j<=(n:Int))(x3 x4 x5 x6 x7 x8 x9 fS fR:Nat->Int):
  Ok (bP n i j x3 x4 x5 x6 x7 x8 x9 fS fR true) (λr:fg=>r.1=ws i+(n-ws j)):=by
 have b1:wd (ws i) (ws j)=true:=by rw[eQ];omega
 have b2:wd (ws j) n=true:=by rw[eQ];omega
 unfold bP;rw[b1,b2,gy h0,gy (show 0<=j by omega)];exact⟨_,rfl,rfl⟩
theorem aRn (n:Nat)(hn:n<=1999)(x1 x2 x3 x4 x5 x6 x7 x8 x9:Nat->Int)(w:Bool):
  Ok (fC n x1 x2 x3 x4 x5 x6 x7 x8 x9 w) (λr:iI=>r.1=n):=by
 have b1:wd (n*72) 140737488355328=true:=by rw[eQ];omega
 unfold fC;rw[b1];exact⟨_,rfl,rfl⟩
theorem aOr (s:Nat)(hs:s<=120)(n:Nat)(hn:n<=100)(fP:Bool)(f:Nat->Int)(w w':Bool):
  vM (wl s) n n fP f w w'=some (sat (RP (H9 (λj=>sat (f j)*sat (f j)) n) s),(fP||KM (λj=>iM (f j)||iM (f j)) n)||iM (RP (H9 (λj=>sat (f j)*sat (f j)) n) s)):=by
 simp only[vM,OZ,Pg.cC,Pg.ch,Pg.cQ,Pg.fB,Pg.eG];try delta wI wU
 unfold JK;have n0:decide (wl s<0)=false:=by simp
 have n1:decide (wl s>120)=false:=by simp only[dJ];exact dq (by omega)
 have m:(if 100<if wl n<wl n then wl n else wl n then 100 else if wl n<wl n then wl n else wl n)=wl n:=by
  have e:¬wl n<wl n:=by omega
  rw[if_neg e,if_neg (by simp only[dJ];omega)]
 rw[n0,n1,bH,bH,NL,bz,m]
 refine NX (λt d=>∃(i:Nat) (h l':Int),i+t=n/\okW h l'/\vW h l'=H9 (λj=>sat (f j)*sat (f j)) i/\d=((wl s,(n,w),(n,w'),wl n,wl i),(fP||KM (λj=>iM (f j)||iM (f j)) i),f,h,l')) ?_ 2000 n _ (by omega)
  ⟨0,0,0,by omega,⟨by omega,by omega,by omega,by omega⟩,rfl,by simp only[KM,aJA];rfl⟩
 rintro t _ c ⟨i,h,l',hi,ho,hv,rfl⟩ hc
 have bnd:=aob (λj=>sat (f j)*sat (f j)) 1329227995784915872903807060280344576 (by omega) i (λj _=>aeQ _ _);rcases aaP t with t0|t0
 .have e:i=n:=by omega
  subst e;simp only[B3,Pg.vY,Pg.vZ,Pg.Az,Pg.FH,Pg.v5,qH,mM,wI,awu (eO i),bH,ahB h l' s _ hs ho,hv,bN]
 .have hs1:=qi (f i);have Vq:=qi (f i);have hm:=aeQ (f i) (f i);obtain⟨h1,l1,e1,o1,v1⟩:=Dw (sat (f i)) (sat (f i)) (by omega) (by omega) (by omega) (by omega)
  obtain⟨h2,l2,e2,o2,v2⟩:=ahC (λj:Nat=>bif ww j 1 then h1 else bif ww j 0 then h else h) (λj:Nat=>bif ww j 1 then l1 else bif ww j 0 then l' else l') true
   ho o1 (by show _<=vW h l'+vW h1 l1;rw[hv,v1];omega) (by show vW h l'+vW h1 l1<_;rw[hv,v1];omega)
  have v2:vW h2 l2=vW h l'+vW h1 l1:=v2;rw[hv,v1] at v2;have q:ws (wl i)=i:=rfl;simp only[B3,Pg.vY,Pg.vZ,Pg.Az,Pg.FH,Pg.v5,qH,mM,wI,awt hi t0,awv (show i<n by omega),bz,q,ui,bN,e1,e2,aww (show i<9000000000000000000 by omega)];refine hc (t-1) _ (by omega) ⟨i+1,h2,l2,by omega,o2,v2,?_⟩;simp only[KM,Bool.or_assoc]
instance a2a (fP:Bool)(f:Nat->Int)(w w':Bool):bl (vM 30 2 2 fP f w w'):=⟨_,aOr 30 (by omega) 2 (by omega) fP f w w'⟩
instance aRo (x0:Nat->Int)(x1:Int)(x2:Int)(x3:Int)(x4:Bool):bl (wK x0 x1 x2 x3 x4):=by
 unfold wK JL;exact aF (by simp only[bJ,qk])
instance aUu (x0:Int)(x1:Int)(x2:Int)(x3:Int)(x4:Int)(x5:Int)(x6:Int)(x7:Int)(x8:Int)(x9:Int):bl (Db x0 x1 x2 x3 x4 x5 x6 x7 x8 x9):=by
 unfold Db Tz;exact aF (by simp only[bJ,qk])
theorem aK9 (x:oo.B)(h:x.1.2.1<=1999):bl (gE x):=by
 have tr:=λa b c d e g i j k l m w=>Ac a b x.1.2.1 c d e g i j k l m w
 unfold gE JR;try dsimp only
 refine aF ?_;rw[aM,bF];refine⟨rfl,?_⟩;have:=Ac;refine ay (bl.Ok (Ac _ _ _ _ _ _ _ _ _ _ _ _ _ _ h) (Q:=λ_=>True) λ_ _=>trivial) λd _ _=> ?_;rw[av];trivial
instance a2W (x:m8.B):bl (ec x):=by
 unfold ec G9;try dsimp only
 refine aF ?_;iterate 9 (rw[aM,bF];refine⟨rfl,?_⟩)
 refine ay (bl.Ok (aK9 ((x.1,1,true),_) (by show 1<=1999;omega)) (Q:=λ_=>True) λ_ _=>trivial) λd _ _=> ?_;rw[av];trivial
instance a2b (x:mr.B):bl (cq x):=by
 unfold cq Fl;try dsimp only
 refine aF ?_;iterate 9 (rw[aM,bF];refine⟨rfl,?_⟩)
 refine ay (bl.Ok (aK9 ((x.1,1,true),_) (by show 1<=1999;omega)) (Q:=λ_=>True) λ_ _=>trivial) λd _ _=> ?_;rw[av];trivial
theorem RT (x:mu.B)(h:x.2.1.2.2.2.2.2.2.2.2.2.2.2.2.2.2.2.2<=100000):Ok (fM x) (λr:Cc=>r.1.2.2.2.2.2.2.2.2.2.2.2.2.2.2.2.2=x.2.1.2.2.2.2.2.2.2.2.2.2.2.2.2.2.2.2+1/\r.1.2.2.2.2.1=x.2.1.2.2.2.2.1/\r.1.2.2.2.2.2.2.2.2.2.2.2.2.2.1=x.2.1.2.2.2.2.2.2.2.2.2.2.2.2.2.1):=by
 unfold fM JV;try dsimp only
 show PQ _ _;rw[bF,av];exact⟨by rw[eQ];omega,rfl,rfl,rfl⟩
theorem aeT (x:mw.B)(h:x.1.2.1<=1999):Ok (cW x) (λr:Cd=>r.1=x.1.2.1/\r.2.1.1.d.c.b.2.2=x.2.1.d.c.b.2.2/\r.2.1.1.c.1=x.2.1.c.1/\r.2.1.1.d.c.2.1=x.2.1.d.c.2.1):=by
 unfold cW JW;try dsimp only
 show PQ _ _;rw[aM,bF];refine⟨rfl,ay (aK8 _ h) λd _ hd=> ?_⟩;iterate 10 (rw[aM,bF];refine⟨rfl,?_⟩)
 refine ay (bl.Ok (aK9 ((x.1.1,d.1.2.2,true),_) (by show d.1.2.2<=1999;rw[hd];exact h)) (Q:=λ_=>True) λ_ _=>trivial) λd1 _ _=> ?_;rw[av];exact⟨hd,rfl,rfl,rfl⟩
theorem YJ (x:jN.B)(h:x.1.1<=1999):Ok (fm x) (λr:Fm=>r.d.c.b.2.2=x.2.1.d.c.b.2.2/\r.c.1=x.2.1.c.1/\r.d.c.2.1=x.2.1.d.c.2.1):=by
 unfold fm Fs;try dsimp only
 show PQ _ _;rw[aM,bF];refine⟨rfl,ay (bl.Ok (arP x.1.1 _ _ _ _ h) (Q:=λ_=>True) λ_ _=>trivial) λd1 _ _=> ?_⟩;rw[aK];exact⟨λ_=>by rw[av];exact⟨rfl,rfl,rfl⟩,λ_=>by rw[av];exact⟨rfl,rfl,rfl⟩⟩
theorem aX9 (x:kc.B)(h:x.2.1.d.c.b.2.2<=90000):Ok (mz x) (λr:wT=>r.1.d.c.b.2.2<=x.2.1.d.c.b.2.2+3/\r.1.c.1=x.2.1.c.1/\r.1.d.c.2.1=x.2.1.d.c.2.1):=by
 unfold mz Ci;try dsimp only
 show PQ _ _;simp only[aM];rw[bA];intro d _;rw[bA];intro d1 _;iterate 9 (rw[bF];refine⟨rfl,?_⟩)
 refine ay (RT _ (show x.2.1.d.c.b.2.2<=100000 by omega)) λd2 _ h2=> ?_;have h2:d2.1.d.c.b.2.2=x.2.1.d.c.b.2.2+1/\d2.1.c.1=x.2.1.c.1/\d2.1.d.c.2.1=x.2.1.d.c.2.1:=h2;rw[bA];intro d3 _;iterate 9 (rw[bF];refine⟨rfl,?_⟩)
 refine ay (RT _ (show d2.1.d.c.b.2.2<=100000 by omega)) λd4 _ h4=> ?_;have h4:d4.1.d.c.b.2.2=d2.1.d.c.b.2.2+1/\d4.1.c.1=d2.1.c.1/\d4.1.d.c.2.1=d2.1.d.c.2.1:=h4;rw[aK];refine⟨λ_=> ?_,λ_=>by rw[av];omega⟩;rw[bA];intro d5 _;iterate 9 (rw[bF];refine⟨rfl,?_⟩)
 refine ay (RT _ (show d4.1.d.c.b.2.2<=100000 by omega)) λd6 _ h6=> ?_;have h6:d6.1.d.c.b.2.2=d4.1.d.c.b.2.2+1/\d6.1.c.1=d4.1.c.1/\d6.1.d.c.2.1=d4.1.d.c.2.1:=h6;rw[av];omega
end Go.Proofs.YtldgljclcgaibaaGreat
