/-
  Parts of the proof: PRT PWY PWZ PWQ PRE TA TB TC TD TU TE TF TG TH TI TJ TK TL TM
-/
import Derived.Test.YtldgljclcgaibaaGreatZAE
import Derived.Test.YtldgljclcgaibaaGreatZAG
import Derived.Test.YtldgljclcgaibaaGreatZAH
import Derived.Test.YtldgljclcgaibaaGreatZAI
open Nat renaming beq→ww,ble→wd
open Int renaming toNat→ws,ofNat→wl,fdiv→ul,tdiv→t7
open BitVec renaming ofInt→v9,toNat→v4
open List renaming append→t9
set_option linter.all false
set_option maxRecDepth 100000
set_option maxHeartbeats 4000000
namespace Go.Proofs.YtldgljclcgaibaaGreat
open Go.Ab
def isR (r V:Int):Prop:=0<=r/\V<=r*r+r/\(r=0∨r*r-r<V)
theorem aMy {a b:Int}(ha:0<=a)(hb:0<=b):0<=a*b:=JO ha hb
theorem aUj {r s V:Int}(h1:isR r V)(h2:isR s V):s<=r:=by
 obtain⟨a1,a2,a3⟩:=h1;obtain⟨b1,b2,b3⟩:=h2;rcases agt r s with h|h
 .exfalso
  have p:=aMy (a:=s-r-1) (b:=s+r) (by omega) (by omega);have q:(s-r-1)*(s+r)=s*s-s-(r*r+r):=by grind
  rcases b3 with b3|b3
  .omega
  .omega
 .exact h
theorem aVn {r s V:Int}(h1:isR r V)(h2:isR s V):r=s:=Int.le_antisymm (aUj h2 h1) (aUj h1 h2)
theorem aZB (n:Nat):∃q:Nat,q*q<=n/\n<(q+1)*(q+1):=by
 induction n with
 |zero=>exact⟨0,by omega,by omega⟩
 |succ n ih=>
  obtain⟨q,h1,h2⟩:=ih;by_cases c:n+1<(q+1)*(q+1)
  .exact⟨q,by omega,c⟩
  .refine⟨q+1,by omega,?_⟩;have:(q+1+1)*(q+1+1)=(q+1)*(q+1)+2*q+3:=by grind
   omega
theorem aVo (V:Int)(h:0<=V):∃q:Int,0<=q/\q*q<=V/\V<(q+1)*(q+1):=by
 obtain⟨q,h1,h2⟩:=aZB V.toNat;refine⟨q,by omega,?_,?_⟩
 .have e:((q*q:Nat):Int)=(q:Int)*q:=by simp
  omega
 .have e:(((q+1)*(q+1):Nat):Int)=((q:Int)+1)*(q+1):=by simp
  omega
theorem aSY {a b:Int}(ha:0<=a)(hb:0<=b)(h:a*a<b*b):a<b:=by
 rcases agt a b with c|c
 .exact c
 .exfalso
  have:=OF c c hb (by omega);omega
theorem aVp (n:Nat)(hn:n<128):ia 0 1 (wl n)=some (2^n/18446744073709551616,2^n%18446744073709551616):=by
 have key:∀n:Fin 128,ia 0 1 (wl n.val)=some ((2:Int)^n.val/18446744073709551616,(2:Int)^n.val%18446744073709551616):=by decide+kernel
 exact key ⟨n,hn⟩
theorem aJ8 (a b c d:Int)(b0:0<=b)(b1:b<18446744073709551616)(d0:0<=d)(d1:d<18446744073709551616):
  we a b c d=some (decide (a*18446744073709551616+b<c*18446744073709551616+d)):=by
 simp only[we,O2,Pg.cF,Pg.ck,Pg.cT,Pg.fI,Pg.eL];try delta wI wU
 by_cases h:a<c
 .have:a*18446744073709551616+b<c*18446744073709551616+d:=by omega
  simp[h,this]
 .by_cases e:a=c
  .subst e;have:(a*18446744073709551616+b<a*18446744073709551616+d)↔b<d:=by omega
   simp[this]
  .have:¬a*18446744073709551616+b<c*18446744073709551616+d:=by omega
   have e':(a==c)=false:=by simp[e]
   rw[dw h,bK,e',bK,dw this]
theorem azS (x y c:Int)(x0:0<=x)(x1:x<18446744073709551616)(y0:0<=y)(y1:y<18446744073709551616)(c0:0<=c)(c1:c<=1):aex x y c=some ((x-y-c)%18446744073709551616,if x<y+c then 1 else 0):=by
 unfold aex;have h:wd c.toNat 1=true:=aEH (by omega);rw[h,bD];congr 1
 unfold aZb aZc;simp only[dQ,rE];constructor
 .omega
 .split<;>split<;>omega
theorem aSZ (a b c d:Int)(a0:0<=a)(a1:a<18446744073709551616)(b0:0<=b)(b1:b<18446744073709551616)(c0:0<=c)(c1:c<18446744073709551616)(d0:0<=d)(d1:d<18446744073709551616)
  (h:c*18446744073709551616+d<=a*18446744073709551616+b):
  ∃h' l',yU a b c d=some (h',l')/\0<=h'/\h'<18446744073709551616/\0<=l'/\l'<18446744073709551616/\h'*18446744073709551616+l'=a*18446744073709551616+b-(c*18446744073709551616+d):=by
 simp only[yU,Mk,Pg.cF,Pg.ck,Pg.cT,Pg.fI,Pg.eL];try delta wI wU
 rw[azS b d 0 b0 b1 d0 d1 (by omega) (by omega)];simp only[bR,Int.add_zero];by_cases k:b<d
 .rw[if_pos k,azS a c 1 a0 a1 c0 c1 (by omega) (by omega)];simp only[bR];refine⟨_,_,rfl,?_,?_,?_,?_,?_⟩<;>omega
 .rw[if_neg k,azS a c 0 a0 a1 c0 c1 (by omega) (by omega)];simp only[bR];refine⟨_,_,rfl,?_,?_,?_,?_,?_⟩<;>omega
theorem aiU (h1 l1 h2 l2:Int)(a0:0<=h1)(b0:0<=l1)(c0:0<=h2)(d0:0<=l2)(b1:l1<18446744073709551616)(d1:l2<18446744073709551616)
  (h:h1*18446744073709551616+l1+(h2*18446744073709551616+l2)<340282366920938463463374607431768211456):
  ∃h' l',jG h1 l1 h2 l2=some (h',l')/\0<=h'/\h'<18446744073709551616/\0<=l'/\l'<18446744073709551616/\h'*18446744073709551616+l'=h1*18446744073709551616+l1+(h2*18446744073709551616+l2):=by
 rw[aJ6 h1 l1 h2 l2 a0 b0 c0 d0 b1 d1];refine⟨_,_,rfl,?_,?_,?_,?_,?_⟩<;>omega
theorem apk {m n:Nat}(h:m<=n):(2:Int)^m<=2^n:=by
 have h2:(2:Nat)^m<=2^n:=Nat.pow_le_pow_right (by decide) h;have h3:((2^m:Nat):Int)<=((2^n:Nat):Int):=by exact_mod_cast h2
 simpa using h3
theorem auT (h l:Int)(o:okW h l)(h0:0<=h):∃r,isR r (vW h l)/\r<18446744073709551616/\Mn h l=if r<=9223372036854775807 then some (r,true) else some (0,false):=by
 obtain⟨o1,o2,o3,o4⟩:=o;have v0:0<=vW h l:=by show 0<=h*18446744073709551616+l;omega
 have v1:vW h l<170141183460469231731687303715884105728:=by show h*18446744073709551616+l<_;omega
 have hvv:h*18446744073709551616+l=vW h l:=rfl;generalize vW h l=V at*
 obtain⟨q,q0,q1,q2⟩:=aVo V v0;have qb:q<13043817825332782213:=aSY q0 (by omega) (by omega);obtain⟨r,hr⟩:∃r,r=if q<V-q*q then q+1 else q:=⟨_,rfl⟩
 have q3:(q+1)*(q+1)=q*q+2*q+1:=by grind
 refine⟨r,?_,by rw[hr];split<;>omega,?_⟩
 .rw[hr];split
  .rename_i c
   exact⟨by omega,by omega,Or.inr (by omega)⟩
  .rename_i c
   refine⟨q0,by omega,?_⟩;rcases agt 0 q with k|k
   .exact Or.inr (by omega)
   .exact Or.inl (by omega)
 simp only[Mn,ag9,Pg.cF,Pg.ck,Pg.cT,Pg.fI,Pg.eL];try delta wI wU
 unfold Xk;have n0:decide (h<0)=false:=dw (by omega);have n1:IntKind.wrap .u64 h=h:=by rw[wrap_u64];omega
 rw[n0,bK,n1]
 refine OT (λt d=>∃(p c rh rl sh sl:Int),t<=64/\0<=p/\p=c*2^t/\p*p<=V/\V<(p+2^t)*(p+2^t)/\0<=rh/\rh<18446744073709551616/\0<=rl/\rl<18446744073709551616/\rh*18446744073709551616+rl=V-p*p/\
   0<=sh/\sh<18446744073709551616/\0<=sl/\sl<18446744073709551616/\sh*18446744073709551616+sl=p*2^t/\d=(2*(t:Int)-2,(rh,rl),sh,sl)) ?_ 2000 64 _ (by omega)
  ⟨0,0,h,l,0,0,by omega,by omega,by omega,by omega,by
   have:(2:Int)^64=18446744073709551616:=rfl;omega,by omega,by omega,by omega,by omega,by omega,by omega,by omega,by omega,by omega,by omega,rfl⟩
 rintro t _ k ⟨p,c,rh,rl,sh,sl,t0,p0,pc,p1,p2,r0,r1,r2,r3,r4,s0,s1,s2,s3,s4,rfl⟩ hk
 rcases acb t with z|z
 .subst z;have e1:(2:Int)^0=1:=rfl;rw[e1] at p2 s4
  have pq:p=q:=by
   have h1:p<q+1:=aSY p0 (by omega) (by omega);have h2:q<p+1:=aSY q0 (by omega) (by omega);omega
  subst pq;have g0:decide ((2:Int)*((0:Nat):Int)-2>=0)=false:=by decide
  simp only[Mm,Pg.wN,Pg.wO,Pg.A9,Pg.Gk,Pg.wP,rF,mT,g0,bK,aJ8 sh sl rh rl s2 s3 r2 r3,bR];rw[s4,r4,Int.mul_one];by_cases cc:p<V-p*p
  .rw[gF cc,bD];rw[if_pos cc] at hr;obtain⟨a,b,e2,a0,a1,b0,b1,e3⟩:=aiU sh sl 0 1 s0 s2 (by omega) (by omega) s3 (by omega) (by omega);rw[e2,bR,N4 a b false a0 b0 b1,e3,hr];have e4:sh*18446744073709551616+sl+(0*18446744073709551616+1)=p+1:=by omega
   rw[e4];have az:a=0:=by omega
   have e5:b=p+1:=by omega
   simp only[yc,gG,e5];by_cases f:p+1<=9223372036854775807
   .rw[if_pos f,bR]
   .rw[if_neg f,bR]
  .rw[dw cc,bK];rw[if_neg cc] at hr;rw[N4 sh sl false s0 s2 s3,s4,hr];have az:sh=0:=by omega
   have e5:sl=p:=by omega
   simp only[yc,gG,Int.mul_one,e5];by_cases f:p<=9223372036854775807
   .rw[if_pos f,bR]
   .rw[if_neg f,bR]
 .obtain⟨m,rfl⟩:∃m,t=m+1:=⟨t-1,by omega⟩;have P2:(2:Int)^(m+1)=2^m*2:=Int.pow_succ _ _;have PP:(2:Int)^(2*m)=2^m*2^m:=by rw[<-Int.pow_add];congr 1;omega
  have P0:=m6 m;have PB:(2:Int)^m<=2^63:=apk (by omega);have PBv:(2:Int)^63=9223372036854775808:=rfl;have at0:(2:Int)*((m+1:Nat):Int)-2=wl (2*m):=by simp only[dQ];omega
  rw[at0];have g0:decide (wl (2*m)>=0)=true:=gF (by simp only[dQ];omega)
  have g1:IntKind.wrap .i64 (wl (2*m)-2)=2*(m:Int)-2:=by
   simp only[dQ];rw[wrap_i64 (by omega) (by omega)];omega
  simp only[Mm,Pg.wN,Pg.wO,Pg.A9,Pg.Gk,Pg.wP,rF,mT,g0,bD,aVp (2*m) (by omega),bR,wI,g1];rw[PP];rw[P2] at pc p2 s4;generalize hP:(2:Int)^m=P at*
  have PPb:P*P<=85070591730234615865843651857942052864:=by
   have:=OF PB PB (by omega) (by omega);omega
  have PP0:0<P*P:=Int.mul_pos P0 P0
  have pb:p*P*2<=V:=by
   rcases agt 0 c with k0|k0
   .have c1:1*(P*2)<=c*(P*2):=aqV (by omega) (by omega);have c2:p*(P*2)<=p*p:=Int.mul_le_mul_of_nonneg_left (by omega) p0;have c3:p*(P*2)=p*P*2:=by grind
    omega
   .have c1:c*(P*2)<=0*(P*2):=aqV k0 (by omega);have:p=0:=by omega
    subst this;omega
  have s4':sh*18446744073709551616+sl=p*P*2:=by rw[s4];grind
  obtain⟨a,b,e2,a0,a1,b0,b1,e3⟩:=aiU sh sl (P*P/18446744073709551616) (P*P%18446744073709551616) s0 s2 (by omega) (by omega) s3 (by omega) (by omega);have e3':a*18446744073709551616+b=p*P*2+P*P:=by omega
  obtain⟨u,v,e4,u0,v0,v1,e5⟩:=axF sh sl 1 (by omega) s0 s1 s2 s3;have e4':jA sh sl 1=some (u,v):=e4
  have e5':u*18446744073709551616+v=p*P:=by
   rw[e5,s4'];show p*P*2/2^1=p*P;rw[show(2:Int)^1=2 from rfl];omega
  rw[e2,bR,e4',bR,aJ8 rh rl a b r2 r3 b0 b1,bR,e3',r4];have dd:p*p+(p*P*2+P*P)=(p+P)*(p+P):=by grind
  by_cases cc:V-p*p<p*P*2+P*P
  .rw[gF cc];simp only[LO,bK];refine hk m _ (by omega) ⟨p,c*2,rh,rl,u,v,by omega,p0,by rw[hP,pc];grind,p1,by rw[hP];omega,r0,r1,r2,r3,r4,u0,by omega,v0,v1,by rw[hP];exact e5',rfl⟩
  .rw[dw cc];simp only[Bool.not_false,bD];obtain⟨x,y,e6,x0,x1,y0,y1,e7⟩:=aSZ rh rl a b r0 r1 r2 r3 a0 a1 b0 b1 (by omega);obtain⟨w,z',e8,w0,w1,z0,z1,e9⟩:=aiU u v (P*P/18446744073709551616) (P*P%18446744073709551616) u0 v0 (by omega) (by omega) v1 (by omega) (by omega);rw[e6,bR,e8,bR];refine hk m _ (by omega) ⟨p+P,c*2+1,x,y,w,z',by omega,by omega,by rw[hP,pc];grind,by omega,?_,x0,x1,y0,y1,by omega,w0,w1,z0,z1,?_,rfl⟩
   .rw[hP];have:(p+P+P)*(p+P+P)=(p+P*2)*(p+P*2):=by grind
    omega
   .rw[hP];have:(p+P)*P=p*P+P*P:=by grind
    omega
theorem aS0 (h l:Int)(neg:Bool)(h0:0<=h)(h1:h<18446744073709551616)(l0:0<=l)(l1:l<18446744073709551616):
  ∃h' l' b,nT h l neg=some ((h',l'),b)/\okW h' l'/\(b=true↔if neg=true then h*18446744073709551616+l<=170141183460469231731687303715884105728 else h*18446744073709551616+l<170141183460469231731687303715884105728)/\
   (b=true->vW h' l'=if neg=true then -(h*18446744073709551616+l) else h*18446744073709551616+l):=by
 simp only[nT,L8,Pg.cF,Pg.ck,Pg.cT,Pg.fI,Pg.eL];try delta wI wU
 unfold vW;cases neg
 .have hw:=G0 h;rw[Fh h0 h1] at hw;generalize IntKind.wrap IntKind.i64 h=w at*
  refine⟨w,l,_,rfl,⟨?_,?_,l0,l1⟩,?_,?_⟩
  .split at hw<;>omega
  .split at hw<;>omega
  .rw[si _ _ (by omega),beq_iff_eq,if_neg (by decide)];constructor<;>intro _<;>omega
  .rw[si _ _ (by omega),beq_iff_eq,if_neg (by decide)];intro _;split at hw<;>omega
 .simp only[LO,bK,af3 l l0 l1,wrap_u64,af3 h h0 h1];rw[Qs _ _ _ (by omega) (by omega) (by omega) (by omega)];simp only[bR,lZ];generalize hm:((18446744073709551615-h)%18446744073709551616+((18446744073709551615-l)%18446744073709551616+1+0)/18446744073709551616)%18446744073709551616=m
  have hw:=G0 m;generalize IntKind.wrap IntKind.i64 m=w at*
  have m0:0<=m/\m<18446744073709551616:=by omega
  rw[Fh m0.1 m0.2] at hw;have w0: -9223372036854775808<=w/\w<=9223372036854775807:=by split at hw<;>omega
  have wm:(w<0/\w=m-18446744073709551616)∨(0<=w/\w=m):=by split at hw<;>omega
  clear hw
  by_cases c:w<0
  .rw[gF c,bD];refine⟨_,_,_,rfl,⟨w0.1,w0.2,by omega,by omega⟩,?_,?_⟩
   .simp only[true_iff];omega
   .intro _;omega
  .rw[dw c,bK];refine⟨_,_,_,rfl,⟨w0.1,w0.2,by omega,by omega⟩,?_,?_⟩
   .simp only[cq,beq_iff_eq,Cd];constructor<;>intro _<;>omega
   .simp only[cq,beq_iff_eq,Cd];intro _;omega
theorem aZC (d:Int)(s:Nat)(hs:s<=127)(d0:0<=d)(d1:d<18446744073709551616):
  ∃h' l',ia 0 d (wl s)=some (h',l')/\0<=h'/\h'<18446744073709551616/\0<=l'/\l'<18446744073709551616/\h'*18446744073709551616+l'=d*2^s%340282366920938463463374607431768211456:=by
 simp only[ia,Ts,Pg.cF,Pg.ck,Pg.cT,Pg.fI,Pg.eL];try delta wI wU
 by_cases c:64<=s
 .have e:decide (wl s>=64)=true:=by simp only[dQ];exact gF (by omega)
  have e2:IntKind.wrap .i64 (wl s-64)=wl (s-64):=(wrap_i64 (by simp only[dQ];omega) (by simp only[dQ];omega)).trans (by simp only[dQ];omega);have e3:(!decide (wl (s-64)<0))=true:=by simp
  have e4:min (ws (wl (s-64))) 64=s-64:=by
   show min (s-64) 64=s-64;omega
  simp only[e,e2,e3,e4,bD,wrap_u64];refine⟨_,_,rfl,by omega,by omega,by omega,by omega,?_⟩
  have p:(2:Int)^s=2^(s-64)*18446744073709551616:=by
   rw[show(18446744073709551616:Int)=2^64 from rfl,<-Int.pow_add];congr 1;omega
  rw[p,<-alL];generalize d*2^(s-64)=x
  omega
 .have e:decide (wl s>=64)=false:=by simp only[dQ];exact dw (by omega)
  have e2:IntKind.wrap .i64 (64-wl s)=wl (64-s):=(wrap_i64 (by simp only[dQ];omega) (by simp only[dQ];omega)).trans (by simp only[dQ];omega);have e3:∀n,(!decide (wl n<0))=true:=by simp
  have e4:min (ws (wl (64-s))) 64=64-s:=by
   show min (64-s) 64=64-s;omega
  have e5:min (ws (wl s)) 64=s:=by
   show min s 64=s;omega
  simp only[e,e2,e3,e4,e5,bD,bK,wrap_u64,Int.zero_mul];rw[si _ _ (pV (m6 _))]
  have pq:(18446744073709551616:Int)=2^s*2^(64-s):=by
   rw[<-Int.pow_add,show s+(64-s)=64 by omega];rfl
  have P0:=m6 s;have Q0:=m6 (64-s);have x0:0<=d/2^(64-s):=Eg d0 (pV Q0);have x1:d/2^(64-s)<2^s:=aca Q0 (by rw[<-pq];exact d1);have x2:d/2^(64-s)<=d:=ayo _ d0;have z0:(0:Int)%18446744073709551616=0:=rfl;rw[z0]
  have key:wl (v4 (v9 64 0|||v9 64 (d/2^(64-s))))=d/2^(64-s):=by
   rw[azQ 0 (d/2^(64-s)) 0 (by omega) (by decide) x0 (by omega) (by omega) (by rw[show(2:Int)^0=1 from rfl,Int.emod_one])];omega
  rw[key];refine⟨_,_,rfl,by omega,by omega,by omega,by omega,?_⟩
  have m1:d*2^s/18446744073709551616=d/2^(64-s):=by
   rw[pq,Fi d,Int.mul_ediv_mul_of_pos _ _ P0]
  have b1:d*2^s<340282366920938463463374607431768211456:=by
   have:=Int.mul_lt_mul_of_pos_right d1 P0;have q:(2:Int)^s<=2^64:=apk (by omega);have q2:(2:Int)^64=18446744073709551616:=rfl;have q3:18446744073709551616*2^s<=(18446744073709551616:Int)*18446744073709551616:=Int.mul_le_mul_of_nonneg_left (by omega) (by omega);have q4:(18446744073709551616:Int)*18446744073709551616=340282366920938463463374607431768211456:=by decide
   omega
  have b0:0<=d*2^s:=JO d0 (pV P0);rw[Fh b0 b1];have x3:d/2^(64-s)%18446744073709551616=d/2^(64-s):=Fh x0 (by omega);rw[x3,<-m1];omega
theorem apl (a:Int)(s:Nat)(hs:s<=127)(a0: -9223372036854775808<=a)(a1:a<=9223372036854775807):
  ∃h l b,vP a (wl s)=some ((h,l),b)/\okW h l/\(b=true↔ -170141183460469231731687303715884105728<=a*2^s/\a*2^s<170141183460469231731687303715884105728)/\(b=true->vW h l=a*2^s)/\(b=false->h=0/\l=0):=by
 simp only[vP,acF,Pg.cF,Pg.ck,Pg.cT,Pg.fI,Pg.eL];try delta wI wU
 have n0:decide (wl s<0)=false:=by simp
 have n1:decide (wl s>127)=false:=by simp only[dQ];exact dw (by omega)
 rw[n0,bK,n1,bK,apW a a0 a1,bR];generalize hd:(if a<0 then -a else a)=d
 have d0:0<=d/\d<=9223372036854775808:=by split at hd<;>omega
 obtain⟨u,v,e1,u0,u1,v0,v1,e2⟩:=aZC d s hs d0.1 (by omega);rw[e1,bR];simp only;have P0:=m6 s;have D0:0<=d*2^s:=JO d0.1 (pV P0)
 have sg:(a<0->a*2^s= -(d*2^s))/\(¬a<0->a*2^s=d*2^s):=by
  constructor<;>intro h
  .rw[if_pos h] at hd;rw[<-hd,Int.neg_mul,Int.neg_neg]
  .rw[if_neg h] at hd;rw[hd]
 have a2S:∀{b:Bool},b=false->¬d*2^s<340282366920938463463374607431768211456->(b=true↔ -170141183460469231731687303715884105728<=a*2^s/\a*2^s<170141183460469231731687303715884105728):=by
  intro b hb hn;rw[hb];refine iff_of_false Bool.false_ne_true λh=> ?_;by_cases n:a<0
  .have:=sg.1 n;omega
  .have:=sg.2 n;omega
 have fin:d*2^s<340282366920938463463374607431768211456->∃h l b,(Option.bind (nT u v (decide (a<0))) λ(d:WX)=>bif !d.2 then some (((0,0),false):(Int×Int)×Bool) else some (d.1,true))=some ((h,l),b)/\okW h l/\(b=true↔ -170141183460469231731687303715884105728<=a*2^s/\a*2^s<170141183460469231731687303715884105728)/\(b=true->vW h l=a*2^s)/\(b=false->h=0/\l=0):=by
  intro lt;rw[Fh D0 lt] at e2;obtain⟨h',l',b,e3,o3,f3,v3⟩:=aS0 u v (decide (a<0)) u0 u1 v0 v1;rw[e3,bR];rw[e2] at f3 v3;by_cases n:a<0
  .have q:=sg.1 n;rw[gF n,if_pos rfl] at f3 v3;cases b with
   |false=>
    refine⟨0,0,false,rfl,⟨by omega,by omega,by omega,by omega⟩,?_,(λh=>by cases h),(λ_=>⟨rfl,rfl⟩)⟩;rw[f3];omega
   |true=>
    refine⟨h',l',true,rfl,o3,?_,(λ_=> ?_),(λh=>by cases h)⟩
    .rw[f3];omega
    .rw[v3 rfl];omega
  .have q:=sg.2 n;rw[dw n,if_neg (by decide)] at f3 v3;cases b with
   |false=>
    refine⟨0,0,false,rfl,⟨by omega,by omega,by omega,by omega⟩,?_,(λh=>by cases h),(λ_=>⟨rfl,rfl⟩)⟩;rw[f3];omega
   |true=>
    refine⟨h',l',true,rfl,o3,?_,(λ_=> ?_),(λh=>by cases h)⟩
    .rw[f3];omega
    .rw[v3 rfl];omega
 have shr:∃x y,jA u v (wl s)=some (x,y)/\0<=x/\0<=y/\y<18446744073709551616/\x*18446744073709551616+y=(u*18446744073709551616+v)/2^s:=by
  rcases pQ s 127 with c|c
  .exact axF u v s (by omega) u0 u1 v0 v1
  .obtain rfl:s=127:=by omega
   refine⟨0,u/9223372036854775808,?_,by omega,by omega,by omega,?_⟩
   .simp only[jA,IX,Pg.cF,Pg.ck,Pg.cT,Pg.fI,Pg.eL];try delta wI wU
    have k1:decide (wl 127>=64)=true:=by decide
    have k2:(!decide (IntKind.wrap .i64 (wl 127-64)<0))=true:=by decide
    have k3:(2:Int)^min (ws (IntKind.wrap .i64 (wl 127-64))) 64=9223372036854775808:=by decide
    simp only[k1,k2,k3,bD];rw[si _ _ (by omega)]
   .have k:(2:Int)^127=170141183460469231731687303715884105728:=by decide
    rw[k];omega
 obtain⟨x,y,e3,x0,y0,y1,e4⟩:=shr;rw[e3,bR];simp only;rw[e2] at e4;by_cases lt:d*2^s<340282366920938463463374607431768211456
 .rw[Fh D0 lt,Int.mul_ediv_cancel _ (by omega)] at e4;have xe:(x==0)=true:=by rw[beq_iff_eq];omega
  have ye:(y==d)=true:=by rw[beq_iff_eq];omega
  rw[xe,ye];exact fin lt
 .have small:d*2^s%340282366920938463463374607431768211456/2^s<d:=by
   refine aca P0 ?_;have:d*2^s%340282366920938463463374607431768211456<340282366920938463463374607431768211456:=WB _ (by omega);omega
  have ne:(x==0&&(y==d&&true))=false:=by
   rw[Bool.and_true];by_cases xz:x=0
   .have:(y==d)=false:=by rw[alH];omega
    rw[this,Bool.and_false]
   .have:(x==0)=false:=by rw[alH];omega
    rw[this,Bool.false_and]
  rw[ne];exact⟨0,0,false,rfl,⟨by omega,by omega,by omega,by omega⟩,a2S rfl lt,(λh=>by cases h),(λ_=>⟨rfl,rfl⟩)⟩
theorem S9 (x:Int)(h0:1<=x)(h1:x<256):∃n:Nat,1<=n/\n<=8/\(2:Int)^(n-1)<=x/\x<2^n/\bk (IntKind.wrap .u8 x) 256=true/\IntKind.wrap .i64 (EC (ByteArray.mk (List.toArray (t9 (t9 [0,1,2,2,3,3,3,3,4,4,4,4,4,4,4,4,5,5,5,5,5,5,5,5,5,5,5,5,5,5,5,5,6,6,6,6,6,6,6,6,6,6,6,6,6,6,6,6,6,6,6,6,6,6,6,6,6,6,6,6,6,6,6,6] [7,7,7,7,7,7,7,7,7,7,7,7,7,7,7,7,7,7,7,7,7,7,7,7,7,7,7,7,7,7,7,7,7,7,7,7,7,7,7,7,7,7,7,7,7,7,7,7,7,7,7,7,7,7,7,7,7,7,7,7,7,7,7,7]) (t9 [8,8,8,8,8,8,8,8,8,8,8,8,8,8,8,8,8,8,8,8,8,8,8,8,8,8,8,8,8,8,8,8,8,8,8,8,8,8,8,8,8,8,8,8,8,8,8,8,8,8,8,8,8,8,8,8,8,8,8,8,8,8,8,8] [8,8,8,8,8,8,8,8,8,8,8,8,8,8,8,8,8,8,8,8,8,8,8,8,8,8,8,8,8,8,8,8,8,8,8,8,8,8,8,8,8,8,8,8,8,8,8,8,8,8,8,8,8,8,8,8,8,8,8,8,8,8,8,8])))) (ws (IntKind.wrap IntKind.u8 x)))=(n:Int):=by
 obtain⟨a,rfl⟩:∃a:Nat,x=(a:Int):=⟨x.toNat,by omega⟩;have t:∀a:Fin 256,1<=a.val->(bk (IntKind.wrap .u8 (a.val:Int)) 256=true/\IntKind.wrap .i64 (EC (ByteArray.mk (List.toArray (t9 (t9 [0,1,2,2,3,3,3,3,4,4,4,4,4,4,4,4,5,5,5,5,5,5,5,5,5,5,5,5,5,5,5,5,6,6,6,6,6,6,6,6,6,6,6,6,6,6,6,6,6,6,6,6,6,6,6,6,6,6,6,6,6,6,6,6] [7,7,7,7,7,7,7,7,7,7,7,7,7,7,7,7,7,7,7,7,7,7,7,7,7,7,7,7,7,7,7,7,7,7,7,7,7,7,7,7,7,7,7,7,7,7,7,7,7,7,7,7,7,7,7,7,7,7,7,7,7,7,7,7]) (t9 [8,8,8,8,8,8,8,8,8,8,8,8,8,8,8,8,8,8,8,8,8,8,8,8,8,8,8,8,8,8,8,8,8,8,8,8,8,8,8,8,8,8,8,8,8,8,8,8,8,8,8,8,8,8,8,8,8,8,8,8,8,8,8,8] [8,8,8,8,8,8,8,8,8,8,8,8,8,8,8,8,8,8,8,8,8,8,8,8,8,8,8,8,8,8,8,8,8,8,8,8,8,8,8,8,8,8,8,8,8,8,8,8,8,8,8,8,8,8,8,8,8,8,8,8,8,8,8,8])))) (ws (IntKind.wrap IntKind.u8 (a.val:Int))))=((Nat.log2 a.val+1:Nat):Int)):=by decide+kernel
 have ha:1<=a:=by omega
 have a4y:a<256:=by omega
 have l1:=Nat.log2_self_le (n:=a) (by omega);have l2:a<2^(a.log2+1):=Nat.lt_log2_self
 have lb:a.log2<8:=by
  rcases pQ a.log2 8 with c|c
  .exact c
  .have:2^8<=2^a.log2:=Nat.pow_le_pow_right (by decide) c;omega
 have k:=t ⟨a,a4y⟩ ha;refine⟨a.log2+1,by omega,by omega,?_,?_,k.1,k.2⟩
 .rw[Nat.add_sub_cancel];have:((2^a.log2:Nat):Int)=(2:Int)^a.log2:=by simp
  omega
 .have:((2^(a.log2+1):Nat):Int)=(2:Int)^(a.log2+1):=by simp
  omega
theorem pow_add' (a b:Nat):(2:Int)^(a+b)=2^a*2^b:=Int.pow_add _ _ _
theorem Gi (x:Int)(b n:Nat)(hn:1<=n)(h0:(2:Int)^(n-1)<=x/2^b)(h1:x/2^b<2^n):(2:Int)^(n+b-1)<=x/\x<2^(n+b):=by
 have B0:=m6 b;have e1:(2:Int)^(n+b-1)=2^(n-1)*2^b:=by rw[<-pow_add'];congr 1;omega
 have e2:(2:Int)^(n+b)=2^n*2^b:=pow_add' _ _;rw[e1,e2];exact⟨Int.mul_le_of_le_ediv B0 h0,Int.lt_mul_of_ediv_lt B0 h1⟩
theorem a0X (x:Int)(h0:1<=x)(h1:x<18446744073709551616):∃n:Nat,1<=n/\n<=64/\(2:Int)^(n-1)<=x/\x<2^n/\Ib x=some (n:Int):=by
 have f1:∀a:Int,ul a 256=a/256:=λa=>si _ _ (by omega)
 have f2:∀a:Int,ul a 65536=a/65536:=λa=>si _ _ (by omega)
 have f3:∀a:Int,ul a 4294967296=a/4294967296:=λa=>si _ _ (by omega)
 simp only[Ib,acA,Pg.cF,Pg.ck,Pg.cT,Pg.fI,Pg.eL,f1,f2,f3];try delta wI wU
 by_cases c:x>=4294967296
 .by_cases d:x/4294967296>=65536
  .by_cases e:x/4294967296/65536>=256
   .have q:x/4294967296/65536/256=x/2^56:=by rw[show(2:Int)^56=72057594037927936 from rfl]<;>omega
    obtain⟨n,n1,n2,b0,b1,t1,t2⟩:=S9 (x/4294967296/65536/256) (by omega) (by omega);rw[q] at b0 b1;obtain⟨c0,c1⟩:=Gi x 56 n n1 b0 b1;refine⟨n+56,by omega,by omega,c0,c1,?_⟩;rw[gF c,bD,gF d,bD,gF e,bD,t1,bD,t2,wrap_i64 (n:=56+(n:Int)) (by omega) (by omega)];exact cO (some:Int->Option Int) (by omega)
   .have q:x/4294967296/65536=x/2^48:=by rw[show(2:Int)^48=281474976710656 from rfl]<;>omega
    obtain⟨n,n1,n2,b0,b1,t1,t2⟩:=S9 (x/4294967296/65536) (by omega) (by omega);rw[q] at b0 b1;obtain⟨c0,c1⟩:=Gi x 48 n n1 b0 b1;refine⟨n+48,by omega,by omega,c0,c1,?_⟩;rw[gF c,bD,gF d,bD,dw e,bK,t1,bD,t2,wrap_i64 (n:=48+(n:Int)) (by omega) (by omega)];exact cO (some:Int->Option Int) (by omega)
  .by_cases e:x/4294967296>=256
   .have q:x/4294967296/256=x/2^40:=by rw[show(2:Int)^40=1099511627776 from rfl]<;>omega
    obtain⟨n,n1,n2,b0,b1,t1,t2⟩:=S9 (x/4294967296/256) (by omega) (by omega);rw[q] at b0 b1;obtain⟨c0,c1⟩:=Gi x 40 n n1 b0 b1;refine⟨n+40,by omega,by omega,c0,c1,?_⟩;rw[gF c,bD,dw d,bK,gF e,bD,t1,bD,t2,wrap_i64 (n:=40+(n:Int)) (by omega) (by omega)];exact cO (some:Int->Option Int) (by omega)
   .have q:x/4294967296=x/2^32:=by rw[show(2:Int)^32=4294967296 from rfl]<;>omega
    obtain⟨n,n1,n2,b0,b1,t1,t2⟩:=S9 (x/4294967296) (by omega) (by omega);rw[q] at b0 b1;obtain⟨c0,c1⟩:=Gi x 32 n n1 b0 b1;refine⟨n+32,by omega,by omega,c0,c1,?_⟩;rw[gF c,bD,dw d,bK,dw e,bK,t1,bD,t2,wrap_i64 (n:=32+(n:Int)) (by omega) (by omega)];exact cO (some:Int->Option Int) (by omega)
 .by_cases d:x>=65536
  .by_cases e:x/65536>=256
   .have q:x/65536/256=x/2^24:=by rw[show(2:Int)^24=16777216 from rfl]<;>omega
    obtain⟨n,n1,n2,b0,b1,t1,t2⟩:=S9 (x/65536/256) (by omega) (by omega);rw[q] at b0 b1;obtain⟨c0,c1⟩:=Gi x 24 n n1 b0 b1;refine⟨n+24,by omega,by omega,c0,c1,?_⟩;rw[dw c,bK,gF d,bD,gF e,bD,t1,bD,t2,wrap_i64 (n:=24+(n:Int)) (by omega) (by omega)];exact cO (some:Int->Option Int) (by omega)
   .have q:x/65536=x/2^16:=by rw[show(2:Int)^16=65536 from rfl]<;>omega
    obtain⟨n,n1,n2,b0,b1,t1,t2⟩:=S9 (x/65536) (by omega) (by omega);rw[q] at b0 b1;obtain⟨c0,c1⟩:=Gi x 16 n n1 b0 b1;refine⟨n+16,by omega,by omega,c0,c1,?_⟩;rw[dw c,bK,gF d,bD,dw e,bK,t1,bD,t2,wrap_i64 (n:=16+(n:Int)) (by omega) (by omega)];exact cO (some:Int->Option Int) (by omega)
  .by_cases e:x>=256
   .have q:x/256=x/2^8:=by rw[show(2:Int)^8=256 from rfl]<;>omega
    obtain⟨n,n1,n2,b0,b1,t1,t2⟩:=S9 (x/256) (by omega) (by omega);rw[q] at b0 b1;obtain⟨c0,c1⟩:=Gi x 8 n n1 b0 b1;refine⟨n+8,by omega,by omega,c0,c1,?_⟩;rw[dw c,bK,dw d,bK,gF e,bD,t1,bD,t2,wrap_i64 (n:=8+(n:Int)) (by omega) (by omega)];exact cO (some:Int->Option Int) (by omega)
   .have q:x=x/2^0:=by rw[show(2:Int)^0=1 from rfl]<;>omega
    obtain⟨n,n1,n2,b0,b1,t1,t2⟩:=S9 (x) (by omega) (by omega);rw[q] at b0 b1;obtain⟨c0,c1⟩:=Gi x 0 n n1 b0 b1;refine⟨n+0,by omega,by omega,c0,c1,?_⟩;rw[dw c,bK,dw d,bK,dw e,bK,t1,bD,t2,wrap_i64 (n:=0+(n:Int)) (by omega) (by omega)];exact cO (some:Int->Option Int) (by omega)
theorem aZD (x:Int)(h0:1<=x)(h1:x<18446744073709551616):∃s:Nat,s<=63/\9223372036854775808<=x*2^s/\x*2^s<18446744073709551616/\p6 x=some (s:Int):=by
 obtain⟨n,n1,n2,b0,b1,e⟩:=a0X x h0 h1;refine⟨64-n,by omega,?_,?_,?_⟩
 .have p:(9223372036854775808:Int)=2^(n-1)*2^(64-n):=by
   rw[<-pow_add',show n-1+(64-n)=63 by omega];rfl
  rw[p];exact aqV b0 (pV (m6 _))
 .have p:(18446744073709551616:Int)=2^n*2^(64-n):=by
   rw[<-pow_add',show n+(64-n)=64 by omega];rfl
  rw[p];exact Int.mul_lt_mul_of_pos_right b1 (m6 _)
 .simp only[p6,Cg,Pg.cF,Pg.ck,Pg.cT,Pg.fI,Pg.eL];try delta wI wU
  rw[e,bR,wrap_i64 (by omega) (by omega)];exact cO (some:Int->Option Int) (by omega)
structure Dig (Y iJ zW U u:Int):Prop where
 y:Y=iJ*4294967296+zW
 a:2147483648<=iJ/\iJ<4294967296
 b:0<=zW/\zW<4294967296
 u0:0<=U/\U<Y
 d:0<=u/\u<4294967296
theorem Dig.lt {Y iJ zW U u:Int}(h:Dig Y iJ zW U u):0<=(U*4294967296+u)/Y/\(U*4294967296+u)/Y<4294967296:=by
 obtain⟨y,a,b,u0,d⟩:=h;constructor
 .exact Eg (by omega) (by omega)
 .refine aca (by omega) ?_;omega
theorem Dig.down {Y iJ zW U u q rh:Int}(h:Dig Y iJ zW U u)(e:q*iJ+rh=U)(c:4294967296*rh+u<q*zW):(U*4294967296+u)/Y<=q-1:=by
 obtain⟨y,a,b,u0,d⟩:=h
 have:(U*4294967296+u)/Y<q:=by
  refine aca (by omega) ?_;have e2:q*Y=(q*iJ)*4294967296+q*zW:=by rw[y];grind
  omega
 omega
theorem Dig.stay {Y iJ zW U u q rh:Int}(h:Dig Y iJ zW U u)(e:q*iJ+rh=U)(c:q*zW<=4294967296*rh+u)(l:(U*4294967296+u)/Y<=q):q=(U*4294967296+u)/Y:=by
 obtain⟨y,a,b,u0,d⟩:=h
 have:q<=(U*4294967296+u)/Y:=by
  refine(Int.le_ediv_iff_mul_le (by omega)).2 ?_;have e2:q*Y=(q*iJ)*4294967296+q*zW:=by rw[y];grind
  omega
 omega
theorem Dig.out {Y iJ zW U u q rh:Int}(h:Dig Y iJ zW U u)(e:q*iJ+rh=U)(q0:0<=q)(c:4294967296<=rh)(l:(U*4294967296+u)/Y<=q):q=(U*4294967296+u)/Y:=by
 have h':=h;obtain⟨y,a,b,u0,d⟩:=h;refine h'.stay e ?_ l
 have q1:q<=4294967295:=by
  rcases agt q 4294967296 with k|k
  .omega
  .exfalso
   have:=aqV k (show 0<=iJ by omega);omega
 have:=OF q1 (show zW<=4294967295 by omega) b.1 (by omega);omega
theorem a0Y {ρ:Type}(Y s iJ zW U u u0:Int)(h:Dig Y iJ zW U u)(k:_->Option ρ)(r:Option ρ)
  (h1:∀rh a b c d,k (Sum.inl (Y,s,iJ,zW,U,u,u0,(U*4294967296+u)/Y,rh,a,b,c,d))=r)
  (h2:∀rh a b c d e f g i,k (Sum.inr (Sum.inl (Y,s,iJ,zW,U,u,u0,(U*4294967296+u)/Y,rh,a,b,c,d,e,f,g,i)))=r)
  (h3:∀rh a b c d e,k (Sum.inr (Sum.inr (Y,s,iJ,zW,U,u,u0,(U*4294967296+u)/Y,rh,a,b,c,d,e)))=r):
  (I1 (Y,s,iJ,zW,U,u,u0,U/iJ,U%iJ)).bind k=r:=by
 have h':=h;obtain⟨y,a,b,hu,d⟩:=h;have lt:=h'.lt;have qm:=ayh U iJ;have m0:=acf U (show iJ≠0 by omega);have m1:=WB U (show 0<iJ by omega);have qn:=Eg hu.1 (show 0<=iJ by omega)
 have start:(U*4294967296+u)/Y<=U/iJ:=by
  have e2:(U*4294967296+u)/Y<U/iJ+1:=by
   refine aca (by omega) ?_;have e3:(U/iJ+1)*Y=(iJ*(U/iJ))*4294967296+iJ*4294967296+(U/iJ+1)*zW:=by rw[y];grind
   have:=JO (show 0<=U/iJ+1 by omega) b.1;omega
  omega
 unfold I1
 refine OT (λt x=>∃(q rh:Int),0<=q/\q*iJ+rh=U/\(U*4294967296+u)/Y<=q/\(2-(t:Int))*2147483648<=rh/\0<=rh/\rh<4294967296/\x=(Y,s,iJ,zW,U,u,u0,q,rh)) ?_ 2000 2 _ (by omega)
  ⟨U/iJ,U%iJ,qn,by rw[Fi];exact qm,start,by omega,m0,by omega,rfl⟩
 rintro t _ c ⟨q,rh,q0,e,l,tb,r0,r1,rfl⟩ hc
 have down:(U*4294967296+u)/Y<=q-1->0<=q-1->(q-1)*iJ+(rh+iJ)=U:=λ_ _=>by
  have:(q-1)*iJ=q*iJ-iJ:=by grind
  omega
 have qb:q<=4294967298:=by
  rcases agt q 4294967298 with k|k
  .omega
  .exfalso
   have:=aqV k (show 0<=iJ by omega);omega
 have w1:IntKind.wrap .u64 (rh+iJ)=rh+iJ:=by rw[wrap_u64];omega
 by_cases c1:q>=4294967296
 .have d1:(U*4294967296+u)/Y<=q-1:=by omega
  have w2:IntKind.wrap .u64 (q-1)=q-1:=by rw[wrap_u64];omega
  have e2:=down d1 (by omega);simp only[I0,Pg.wN,Pg.wO,Pg.A9,Pg.Gk,Pg.wP,rF,mT,wU,gF c1,bD,w1,w2];by_cases c2:rh+iJ>=4294967296
  .rw[gF c2,bD,h'.out e2 (by omega) c2 d1];exact h1 _ _ _ _ _
  .rw[dw c2,bK];have t1:1<=t:=by omega
   exact hc (t-1) _ (by omega) ⟨q-1,rh+iJ,by omega,e2,d1,by omega,by omega,by omega,rfl⟩
 .have pm:0<=q*zW/\q*zW<18446744073709551616:=by
   refine⟨JO q0 b.1,?_⟩;have:=OF (show q<=4294967295 by omega) (show zW<=4294967295 by omega) b.1 (by omega);omega
  have w3:IntKind.wrap .u64 (q*zW)=q*zW:=by rw[wrap_u64];omega
  have w4:IntKind.wrap .u64 (4294967296*rh)=4294967296*rh:=by rw[wrap_u64];omega
  have w5:IntKind.wrap .u64 (4294967296*rh+u)=4294967296*rh+u:=by rw[wrap_u64];omega
  simp only[I0,Pg.wN,Pg.wO,Pg.A9,Pg.Gk,Pg.wP,rF,mT,wU,dw c1,bK,w1,w3,w4,w5];by_cases c3:q*zW>4294967296*rh+u
  .have d1:=h'.down e c3
   have qp:1<=q:=by
    rcases agt 0 q with k|k
    .omega
    .exfalso
     have:q=0:=by omega
     subst this;omega
   have w2:IntKind.wrap .u64 (q-1)=q-1:=by rw[wrap_u64];omega
   have e2:=down d1 (by omega);rw[gF c3,bD,w2];by_cases c2:rh+iJ>=4294967296
   .rw[gF c2,bD,h'.out e2 (by omega) c2 d1];exact h2 _ _ _ _ _ _ _ _ _
   .rw[dw c2,bK];exact hc (t-1) _ (by omega) ⟨q-1,rh+iJ,by omega,e2,d1,by omega,by omega,by omega,rfl⟩
  .rw[dw c3,bK,h'.stay e (by omega) l];exact h3 _ _ _ _ _ _
theorem a0Z {ρ:Type}(Y s iJ zW U u q1:Int)(h:Dig Y iJ zW U u)(k:_->Option ρ)(r:Option ρ)
  (h1:∀rh a b c d,k (Sum.inl (Y,s,iJ,zW,u,q1,rh,U,(U*4294967296+u)/Y,a,b,c,d))=r)
  (h2:∀rh a b c d e f g i,k (Sum.inr (Sum.inl (Y,s,iJ,zW,u,q1,rh,U,(U*4294967296+u)/Y,a,b,c,d,e,f,g,i)))=r)
  (h3:∀rh a b c d e,k (Sum.inr (Sum.inr (Y,s,iJ,zW,u,q1,rh,U,(U*4294967296+u)/Y,a,b,c,d,e)))=r):
  (I3 (Y,s,iJ,zW,u,q1,U%iJ,U,U/iJ)).bind k=r:=by
 have h':=h;obtain⟨y,a,b,hu,d⟩:=h;have lt:=h'.lt;have qm:=ayh U iJ;have m0:=acf U (show iJ≠0 by omega);have m1:=WB U (show 0<iJ by omega);have qn:=Eg hu.1 (show 0<=iJ by omega)
 have start:(U*4294967296+u)/Y<=U/iJ:=by
  have e2:(U*4294967296+u)/Y<U/iJ+1:=by
   refine aca (by omega) ?_;have e3:(U/iJ+1)*Y=(iJ*(U/iJ))*4294967296+iJ*4294967296+(U/iJ+1)*zW:=by rw[y];grind
   have:=JO (show 0<=U/iJ+1 by omega) b.1;omega
  omega
 unfold I3
 refine OT (λt x=>∃(q rh:Int),0<=q/\q*iJ+rh=U/\(U*4294967296+u)/Y<=q/\(2-(t:Int))*2147483648<=rh/\0<=rh/\rh<4294967296/\x=(Y,s,iJ,zW,u,q1,rh,U,q)) ?_ 2000 2 _ (by omega)
  ⟨U/iJ,U%iJ,qn,by rw[Fi];exact qm,start,by omega,m0,by omega,rfl⟩
 rintro t _ c ⟨q,rh,q0,e,l,tb,r0,r1,rfl⟩ hc
 have down:(U*4294967296+u)/Y<=q-1->0<=q-1->(q-1)*iJ+(rh+iJ)=U:=λ_ _=>by
  have:(q-1)*iJ=q*iJ-iJ:=by grind
  omega
 have qb:q<=4294967298:=by
  rcases agt q 4294967298 with k|k
  .omega
  .exfalso
   have:=aqV k (show 0<=iJ by omega);omega
 have w1:IntKind.wrap .u64 (rh+iJ)=rh+iJ:=by rw[wrap_u64];omega
 by_cases c1:q>=4294967296
 .have d1:(U*4294967296+u)/Y<=q-1:=by omega
  have w2:IntKind.wrap .u64 (q-1)=q-1:=by rw[wrap_u64];omega
  have e2:=down d1 (by omega);simp only[I2,Pg.wN,Pg.wO,Pg.A9,Pg.Gk,Pg.wP,rF,mT,wU,gF c1,bD,w1,w2];by_cases c2:rh+iJ>=4294967296
  .rw[gF c2,bD,h'.out e2 (by omega) c2 d1];exact h1 _ _ _ _ _
  .rw[dw c2,bK];have t1:1<=t:=by omega
   exact hc (t-1) _ (by omega) ⟨q-1,rh+iJ,by omega,e2,d1,by omega,by omega,by omega,rfl⟩
 .have pm:0<=q*zW/\q*zW<18446744073709551616:=by
   refine⟨JO q0 b.1,?_⟩;have:=OF (show q<=4294967295 by omega) (show zW<=4294967295 by omega) b.1 (by omega);omega
  have w3:IntKind.wrap .u64 (q*zW)=q*zW:=by rw[wrap_u64];omega
  have w4:IntKind.wrap .u64 (4294967296*rh)=4294967296*rh:=by rw[wrap_u64];omega
  have w5:IntKind.wrap .u64 (4294967296*rh+u)=4294967296*rh+u:=by rw[wrap_u64];omega
  simp only[I2,Pg.wN,Pg.wO,Pg.A9,Pg.Gk,Pg.wP,rF,mT,wU,dw c1,bK,w1,w3,w4,w5];by_cases c3:q*zW>4294967296*rh+u
  .have d1:=h'.down e c3
   have qp:1<=q:=by
    rcases agt 0 q with k|k
    .omega
    .exfalso
     have:q=0:=by omega
     subst this;omega
   have w2:IntKind.wrap .u64 (q-1)=q-1:=by rw[wrap_u64];omega
   have e2:=down d1 (by omega);rw[gF c3,bD,w2];by_cases c2:rh+iJ>=4294967296
   .rw[gF c2,bD,h'.out e2 (by omega) c2 d1];exact h2 _ _ _ _ _ _ _ _ _
   .rw[dw c2,bK];exact hc (t-1) _ (by omega) ⟨q-1,rh+iJ,by omega,e2,d1,by omega,by omega,by omega,rfl⟩
  .rw[dw c3,bK,h'.stay e (by omega) l];exact h3 _ _ _ _ _ _
theorem aVq (hi lo y:Int)(h0:0<=hi)(h1:hi<y)(h2:y<18446744073709551616)(l0:0<=lo)(l1:lo<18446744073709551616):
  Ic hi lo y=some ((hi*18446744073709551616+lo)/y,(hi*18446744073709551616+lo)%y):=by
 simp only[Ic,acB,Pg.cF,Pg.ck,Pg.cT,Pg.fI,Pg.eL];try delta wI wU
 have y0:(y==0)=false:=by rw[alH];omega
 rw[y0,bK,dw (show ¬y<=hi by omega),bK];by_cases hz:hi=0
 .subst hz;have z:((0:Int)==0)=true:=rfl;have yn:(!decide (y=0))=true:=by rw[dw (by omega)];rfl
  rw[z,bD,yn,bD,bD,Int.zero_mul,aEL,aAk l0,Int.tmod_eq_emod_of_nonneg l0];have d0:=Eg l0 (show 0<=y by omega);have d1:=ayo y l0;have w:IntKind.wrap .u64 (lo/y)=lo/y:=by rw[wrap_u64];omega
  rw[w]
 have z:(hi==0)=false:=by rw[alH];exact hz
 rw[z,bK];obtain⟨s,s63,b0,b1,e⟩:=aZD y (by omega) h2;rw[e,bR];have P0:=m6 s;have Q0:=m6 (64-s);have k1:IntKind.wrap .u64 (s:Int)=(s:Int):=by rw[wrap_u64];omega
 have k2:IntKind.wrap .u64 (64-(s:Int))=((64-s:Nat):Int):=by rw[wrap_u64];omega
 have k3:∀n:Nat,(!decide ((n:Int)<0))=true:=λn=>by rw[dw (by omega)];rfl
 have k4:min (ws (s:Int)) 64=s:=by rw[Int.toNat_natCast];omega
 have k5:min (ws ((64-s:Nat):Int)) 64=64-s:=by rw[Int.toNat_natCast];omega
 have k6:IntKind.wrap .u64 (y*2^s)=y*2^s:=by rw[wrap_u64];omega
 simp only[k1,k2,k3,k4,k5,k6,bD]
 have pq:(18446744073709551616:Int)=2^s*2^(64-s):=by
  rw[<-pow_add',show s+(64-s)=64 by omega];rfl
 have ab:hi*2^s+2^s<=y*2^s:=by
  have:=aqV (show hi+1<=y by omega) (pV P0);rw[agu] at this;omega
 have a0:0<=hi*2^s:=JO h0 (pV P0);have x0:0<=lo/2^(64-s):=Eg l0 (pV Q0);have x1:lo/2^(64-s)<2^s:=aca Q0 (by rw[<-pq];exact l1);have k7:IntKind.wrap .u64 (hi*2^s)=hi*2^s:=by rw[wrap_u64];omega
 have or1:wl (v4 (v9 64 (hi*2^s)|||v9 64 (ul lo (2^(64-s)))))=hi*2^s+lo/2^(64-s):=by
  rw[si _ _ (pV Q0),BitVec.or_comm,azQ _ _ s x0 x1 a0 (by omega) (by omega) (Int.mul_emod_left _ _)];omega
 have k8:IntKind.wrap .u64 (hi*2^s+lo/2^(64-s))=hi*2^s+lo/2^(64-s):=by rw[wrap_u64];omega
 simp only[k7,or1,k8];rw[wrap_u64 (lo*2^s)];have c0:0<=lo*2^s%18446744073709551616/\lo*2^s%18446744073709551616<18446744073709551616:=by omega
 have N:(hi*2^s+lo/2^(64-s))*18446744073709551616+lo*2^s%18446744073709551616=(hi*18446744073709551616+lo)*2^s:=by
  have m1:lo*2^s/18446744073709551616=lo/2^(64-s):=by
   rw[pq,Fi lo,Int.mul_ediv_mul_of_pos _ _ P0]
  have m2:lo*2^s=lo*2^s/18446744073709551616*18446744073709551616+lo*2^s%18446744073709551616:=by omega
  have m3:(hi*18446744073709551616+lo)*2^s=hi*2^s*18446744073709551616+lo*2^s:=by grind
  rw[m3,<-m1];omega
 have U1:0<=hi*2^s+lo/2^(64-s)/\hi*2^s+lo/2^(64-s)<y*2^s:=by omega
 have am1:∀x:Int,0<=x->x<18446744073709551616->IntKind.wrap .u64 (wl (v4 (v9 64 x&&&v9 64 4294967295)))=x%4294967296:=λx x0 x1=>by
  rw[apV x x0 x1,wrap_u64];omega
 rw[am1 (y*2^s) (by omega) b1,am1 _ c0.1 c0.2];simp only[si _ 4294967296 (show(0:Int)<=4294967296 by decide)]
 have A1:(hi*18446744073709551616+lo)/y=(hi*18446744073709551616+lo)*2^s/(y*2^s):=by
  rw[Fi _ (2^s),Fi y,Int.mul_ediv_mul_of_pos _ _ P0]
 have A2:(hi*18446744073709551616+lo)%y=(hi*18446744073709551616+lo)*2^s%(y*2^s)/2^s:=by
  rw[Fi _ (2^s),Fi y,Int.mul_emod_mul_of_pos _ _ P0,Int.mul_ediv_cancel_left _ (by omega)]
 rw[A1,A2,<-N];generalize hi*2^s+lo/2^(64-s)=U at*
 generalize lo*2^s%18446744073709551616=L at*
 generalize hY:y*2^s=Y at*
 generalize h2s:(2:Int)^s=P at*
 clear N A1 A2 or1 k7 k8 x0 x1 ab a0 pq k6 e
 have hY1:2147483648<=Y/4294967296/\Y/4294967296<4294967296:=by omega
 have g1:Dig Y (Y/4294967296) (Y%4294967296) U (L/4294967296):=⟨by omega,hY1,by omega,U1,by omega⟩;have yz:(!decide (Y/4294967296=0))=true:=by rw[dw (by omega)];rfl
 have Q1:=g1.lt;have R1:=ayh (U*4294967296+L/4294967296) Y;have R1a:=acf (U*4294967296+L/4294967296) (show Y≠0 by omega);have R1b:=WB (U*4294967296+L/4294967296) (show 0<Y by omega)
 have q0:IntKind.wrap .u64 (t7 U (Y/4294967296))=U/(Y/4294967296):=by
  rw[aAk U1.1,wrap_u64];have:=Eg U1.1 (show 0<=Y/4294967296 by omega);have:=ayo (Y/4294967296) U1.1;omega
 have r0:IntKind.wrap .u64 (U-IntKind.wrap .u64 (U/(Y/4294967296)*(Y/4294967296)))=U%(Y/4294967296):=by
  have qm:=Int.ediv_mul_add_emod U (Y/4294967296);have m0:=acf U (show Y/4294967296≠0 by omega);have m1:=WB U (show 0<Y/4294967296 by omega);rw[wrap_u64,wrap_u64];generalize U/(Y/4294967296)*(Y/4294967296)=A at*
  omega
 simp only[yz,bD,q0,r0];generalize hQ1:(U*4294967296+L/4294967296)/Y=q1 at*
 generalize hR1:(U*4294967296+L/4294967296)%Y=R at*
 have g2:Dig Y (Y/4294967296) (Y%4294967296) R (L%4294967296):=⟨by omega,hY1,by omega,⟨R1a,R1b⟩,by omega⟩;have Q2:=g2.lt;have R2:=ayh (R*4294967296+L%4294967296) Y;have R2a:=acf (R*4294967296+L%4294967296) (show Y≠0 by omega);have R2b:=WB (R*4294967296+L%4294967296) (show 0<Y by omega);generalize hQ2:(R*4294967296+L%4294967296)/Y=q2 at*
 generalize hR2:(R*4294967296+L%4294967296)%Y=R' at*
 have un:IntKind.wrap .u64 (IntKind.wrap .u64 (IntKind.wrap .u64 (U*4294967296)+L/4294967296)-IntKind.wrap .u64 (q1*Y))=R:=by
  rw[Fi q1 Y];simp only[wrap_u64];generalize Y*q1=A at*
  omega
 have q3:IntKind.wrap .u64 (t7 R (Y/4294967296))=R/(Y/4294967296):=by
  rw[aAk R1a,wrap_u64];have:=Eg R1a (show 0<=Y/4294967296 by omega);have:=ayo (Y/4294967296) R1a;omega
 have r3:IntKind.wrap .u64 (R-IntKind.wrap .u64 (R/(Y/4294967296)*(Y/4294967296)))=R%(Y/4294967296):=by
  have qm:=Int.ediv_mul_add_emod R (Y/4294967296);have m0:=acf R (show Y/4294967296≠0 by omega);have m1:=WB R (show 0<Y/4294967296 by omega);rw[wrap_u64,wrap_u64];generalize R/(Y/4294967296)*(Y/4294967296)=A at*
  omega
 have un2:IntKind.wrap .u64 (IntKind.wrap .u64 (IntKind.wrap .u64 (R*4294967296)+L%4294967296)-IntKind.wrap .u64 (q2*Y))=R':=by
  rw[Fi q2 Y];simp only[wrap_u64];generalize Y*q2=A at*
  omega
 have quo:IntKind.wrap .u64 (IntKind.wrap .u64 (q1*4294967296)+q2)=q1*4294967296+q2:=by
  simp only[wrap_u64];omega
 have ans:(U*18446744073709551616+L)/Y=q1*4294967296+q2/\(U*18446744073709551616+L)%Y=R':=by
  have e:U*18446744073709551616+L=R'+Y*(q1*4294967296+q2):=by
   have e2:Y*(q1*4294967296+q2)=Y*q1*4294967296+Y*q2:=by grind
   rw[e2];omega
  rw[e];constructor
  .rw[Int.add_mul_ediv_left _ _ (by omega),Int.ediv_eq_zero_of_lt R2a R2b,aEL]
  .rw[Int.add_mul_emod_self_left,Fh R2a R2b]
 rw[ans.1,ans.2];refine a0Y Y s _ _ U _ _ g1 _ _ ?_ ?_ ?_
 all_goals
  intros
  simp only[rF,mT,hQ1,yz,bD,un,q3,r3];refine a0Z Y s _ _ R _ _ g2 _ _ ?_ ?_ ?_
  all_goals
   intros
   simp only[rF,mT,hQ2,k3,bD,un2,quo,k4,h2s];rw[si _ _ (pV P0)]
def lW (x:Int):Int:=if x<0 then -x else x
theorem aMz (x:Int):0<=lW x:=by unfold lW;split<;>omega
def qdq (V D:Int):Int:=V/D+(if 2*(V%D)<D then 0 else 1)
def IQ (a d:Int):Int:=if (decide (a<0))=(decide (d<0)) then qdq (lW a) (lW d) else -qdq (lW a) (lW d)
theorem aJ9 (h l d:Int)(o:okW h l)(d0: -9223372036854775808<=d)(d1:d<=9223372036854775807)(nz:d≠0):
  BU h l d=if -9223372036854775808<=IQ (vW h l) d/\IQ (vW h l) d<=9223372036854775807 then some (IQ (vW h l) d,true) else some (0,false):=by
 simp only[BU,amr,Pg.cF,Pg.ck,Pg.cT,Pg.fI,Pg.eL];try delta wI wU
 have z:(d==0)=false:=by rw[alH];exact nz
 obtain⟨ah,al,e1,a0,a1,a2,a3,a4⟩:=aJ5 h l o;have e2:=apW d d0 d1;rw[z,bK,e1,bR,e2,bR];simp only;have D0:0<lW d:=by unfold lW;split<;>omega
 have D1:lW d<=9223372036854775808:=by unfold lW;split<;>omega
 have ed:(if d<0 then -d else d)=lW d:=rfl
 have va:ah*18446744073709551616+al=lW (vW h l):=by
  rw[a4];obtain⟨o1,o2,o3,o4⟩:=o;unfold lW;simp only[vW];split<;>split<;>omega
 have sn:decide (h<0)=decide (vW h l<0):=by
  obtain⟨o1,o2,o3,o4⟩:=o;simp only[vW];by_cases c:h<0
  .rw[gF c,gF (by omega)]
  .rw[dw c,dw (by omega)]
 rw[ed,sn];generalize vW h l=V at*
 have nz2:(!decide (lW d=0))=true:=by rw[dw (by omega)];rfl
 have r0:=acf ah (show lW d≠0 by omega);have r1:=WB ah D0;have q0:=Eg a0 (pV D0);have q1:=ayo (lW d) a0;have qe:=ayh ah (lW d);have dv:=aVq (ah%lW d) al (lW d) r0 r1 (by omega) a2 a3;rw[nz2,bD,bD,Int.tmod_eq_emod_of_nonneg a0,dv,bR,aAk a0];simp only;have w1:IntKind.wrap .u64 (ah/lW d)=ah/lW d:=by rw[wrap_u64];omega
 have E:lW V=(ah%lW d*18446744073709551616+al)+lW d*(ah/lW d*18446744073709551616):=by
  rw[<-va];have:lW d*(ah/lW d*18446744073709551616)=lW d*(ah/lW d)*18446744073709551616:=by grind
  rw[this];omega
 have Q:lW V/lW d=(ah%lW d*18446744073709551616+al)/lW d+ah/lW d*18446744073709551616:=by
  rw[E,Int.add_mul_ediv_left _ _ (by omega)]
 have R:lW V%lW d=(ah%lW d*18446744073709551616+al)%lW d:=by rw[E,Int.add_mul_emod_self_left]
 have n0:0<=(ah%lW d*18446744073709551616+al)/lW d:=Eg (by omega) (pV D0)
 have n1:(ah%lW d*18446744073709551616+al)/lW d<18446744073709551616:=by
  refine aca D0 ?_;omega
 have t0:=acf (ah%lW d*18446744073709551616+al) (show lW d≠0 by omega);have t1:=WB (ah%lW d*18446744073709551616+al) D0;rw[<-R] at t0 t1 ⊢;have w2:IntKind.wrap .u64 (lW d-lW V%lW d)=lW d-lW V%lW d:=by rw[wrap_u64];omega
 rw[w1,w2]
 have sgn:(!decide (V<0)==decide (d<0))= !decide ((decide (V<0))=(decide (d<0))):=by
  cases decide (V<0)<;>cases decide (d<0)<;>rfl
 have qn:0<=qdq (lW V) (lW d):=by
  have:=aMz V;have:=Eg this (pV D0);unfold qdq;split<;>omega
 have fin:∀u v:Int,0<=u->0<=v->v<18446744073709551616->u*18446744073709551616+v=qdq (lW V) (lW d)->
   (Option.bind (jH u v (!decide (V<0)==decide (d<0))) λ(d:Int×Bool)=>some (d.1,d.2))=if -9223372036854775808<=IQ V d/\IQ V d<=9223372036854775807 then some (IQ V d,true) else some (0,false):=by
  intro u v u0 v0 v1 e;rw[N4 u v _ u0 v0 v1,e,sgn];unfold IQ;generalize qdq (lW V) (lW d)=q at*
  by_cases s:(decide (V<0))=(decide (d<0))
  .rw[if_pos s,gF s];simp only[LO,yc,gG];by_cases c:q<=9223372036854775807
   .rw[if_pos c,if_pos (by omega),bR];have uz:u=0:=by omega
    subst uz;have:v=q:=by omega
    rw[this]
   .rw[if_neg c,if_neg (by omega),bR]
  .rw[if_neg s,dw s];simp only[Bool.not_false,lZ];by_cases c:q<=9223372036854775808
   .rw[if_pos c,if_pos (by omega),bR];have uz:u=0:=by omega
    subst uz;have:v=q:=by omega
    rw[this]
   .rw[if_neg c,if_neg (by omega),bR]
 by_cases c:lW V%lW d>=lW d-lW V%lW d
 .rw[gF c,bD];obtain⟨u,v,e3,u0,u1,v0,v1,e4⟩:=aiU (ah/lW d) ((ah%lW d*18446744073709551616+al)/lW d) 0 1 q0 n0 (by omega) (by omega) n1 (by omega) (by omega);rw[e3,bR];simp only;refine fin u v u0 v0 v1 ?_;rw[e4];unfold qdq;rw[if_neg (by omega),Q];omega
 .rw[dw c,bK];refine fin _ _ q0 n0 n1 ?_;unfold qdq;rw[if_pos (by omega),Q];omega
theorem aVr (a d:Int)(nz:d≠0):((decide (a<0))=(decide (d<0))->0<=IQ a d)/\(¬(decide (a<0))=(decide (d<0))->IQ a d<=0):=by
 have D0:0<lW d:=by unfold lW;split<;>omega
 have q:=Eg (aMz a) (pV D0);have qn:0<=qdq (lW a) (lW d):=by unfold qdq;split<;>omega
 unfold IQ;constructor
 .intro h;rw[if_pos h];exact qn
 .intro h;rw[if_neg h];omega
theorem aUk (h l d:Int)(fX:Bool)(o:okW h l)(d0: -9223372036854775808<=d)(d1:d<=9223372036854775807)(nz:d≠0):
  yT h l d fX=some (sat (IQ (vW h l) d),fX||fj (IQ (vW h l) d)):=by
 simp only[yT,Me,Pg.cF,Pg.ck,Pg.cT,Pg.fI,Pg.eL];try delta wI wU
 have z:(d==0)=false:=by rw[alH];exact nz
 have sn:decide (h<0)=decide (vW h l<0):=by
  obtain⟨o1,o2,o3,o4⟩:=o;simp only[vW];by_cases c:h<0
  .rw[gF c,gF (by omega)]
  .rw[dw c,dw (by omega)]
 rw[z,bK,aJ9 h l d o d0 d1 nz,sn];have s:=aVr (vW h l) d nz;generalize vW h l=V at*
 by_cases c: -9223372036854775808<=IQ V d/\IQ V d<=9223372036854775807
 .rw[if_pos c,bR];simp only[af4,lZ,bR]
 .rw[if_neg c,bR];simp only[af4,yc,gG,bR];by_cases e:(decide (V<0))=(decide (d<0))
  .have p:=s.1 e;have e2:(!decide (V<0)==decide (d<0))=false:=by rw[e,beq_self_eq_true];rfl
   rw[e2];unfold sat fj;rw[if_neg (by decide),if_neg (by omega),if_pos (by omega),gF (show 1152921504606846976<IQ V d by omega),Bool.or_true,Bool.or_true]
  .have p:=s.2 e
   have e2:(!decide (V<0)==decide (d<0))=true:=by
    have:(decide (V<0)==decide (d<0))=false:=by rw[alH];exact e
    rw[this];rfl
   rw[e2];unfold sat fj;rw[if_pos rfl,if_pos (by omega),gF (show IQ V d< -1152921504606846976 by omega),Bool.true_or,Bool.or_true]
theorem aCs (a b d:Int)(fX:Bool)(nz:sat d≠0):
  aP a b d fX=some (sat (IQ (sat a*sat b) (sat d)),((((fX||fj a)||fj b)||fj d)||fj (IQ (sat a*sat b) (sat d)))):=by
 simp only[aP,Gq,Pg.cF,Pg.ck,Pg.cT,Pg.fI,Pg.eL];try delta wI wU
 have:=ri a;have:=ri b;have:=ri d;obtain⟨h,l,e1,e2,e3⟩:=Ec (sat a) (sat b) (by omega) (by omega) (by omega) (by omega);simp only[uU,bR,e1,aUk h l (sat d) _ e2 (by omega) (by omega) nz,e3]
theorem aPZ (a b:Int)(s:Nat)(fX:Bool)(hs:s<=66)(nz:sat b≠0):
  bl a b (wl s) fX=some (sat (IQ (sat a*2^s) (sat b)),(((fX||fj a)||fj b)||fj (IQ (sat a*2^s) (sat b)))):=by
 simp only[bl,QT,Pg.cF,Pg.ck,Pg.cT,Pg.fI,Pg.eL];try delta wI wU
 have ha:=ri a;have hb:=ri b;have P0:=m6 s;have PB:(2:Int)^s<=2^66:=apk hs;have PV:(2:Int)^66=73786976294838206464:=by decide
 have m1:sat a*2^s<=1152921504606846976*73786976294838206464:=by
  rcases ayp 0 (sat a) with c|c
  .exact OF ha.2 (by omega) (pV P0) (by omega)
  .have:=aMy (a:= -sat a) (b:=2^s) (by omega) (pV P0);rw[Int.neg_mul] at this;omega
 have m2: -(1152921504606846976*73786976294838206464)<=sat a*2^s:=by
  rcases ayp 0 (sat a) with c|c
  .have:=aMy c (pV P0);omega
  .have:=OF (show -sat a<=1152921504606846976 by omega) (show(2:Int)^s<=73786976294838206464 by omega) (pV P0) (by omega);rw[Int.neg_mul] at this;omega
 have mv:(1152921504606846976:Int)*73786976294838206464=85070591730234615865843651857942052864:=by decide
 obtain⟨h,l,b',e1,o1,f1,v1,_⟩:=apl (sat a) s (by omega) (by omega) (by omega);have bt:b'=true:=f1.2 ⟨by omega,by omega⟩;subst bt;have n0:decide (wl s<0)=false:=by simp
 have n1:decide (wl s>66)=false:=by simp only[dQ];exact dw (by omega)
 simp only[uU,bR,n0,n1,bK,e1,aUk h l (sat b) _ o1 (by omega) (by omega) nz,v1 rfl]
theorem axK (h l r:Int)(fX:Bool)(o:okW h l)(h0:0<=h)(hr:isR r (vW h l)):yV h l fX=some (sat r,fX||fj r):=by
 obtain⟨r',e1,e2,e3⟩:=auT h l o h0;have:=aVn hr e1;subst this;simp only[yV,amv,Pg.cF,Pg.ck,Pg.cT,Pg.fI,Pg.eL];try delta wI wU
 rw[e3];by_cases c:r<=9223372036854775807
 .rw[if_pos c,bR];simp only[LO,bK,uU,bR]
 .rw[if_neg c,bR];simp only[Bool.not_false,bD,uU,bR]
  have a:sat r=sat 1152921504606846977:=by
   unfold sat;rw[if_neg (by omega),if_pos (by omega),if_neg (by omega),if_pos (by omega)]
  have b:fj r=fj 1152921504606846977:=by
   unfold fj;rw[gF (show 1152921504606846976<r by omega),gF (show(1152921504606846976:Int)<1152921504606846977 by omega),Bool.or_true,Bool.or_true]
  rw[a,b]
open Go.Ab Go.Ab.Pg
instance a5y (x:Int)(h:Bool):bq (aM x h):=⟨_,uU x h⟩
instance a4z (x a b:Int)(h:Bool):bq (aT x a b h):=aF (p:=Dk x a b h) (by simp only[Dk,aK,av,OK,and_self])
instance a5h (b:Bool):bq (rI b):=aF (p:=Xa b) (by simp only[Xa,aK,av,OK,and_self])
instance a5z (x:Int):bq (uf x):=aF (p:=DW x) (by simp only[DW,aK,av,OK,and_self])
instance a5i (x:Int):bq (fM x):=aF (p:=VA x) (by simp only[VA,aK,av,bH,OK,and_self])
instance a5A (a:Int)(b c d:Bool):bq (nU a b c d):=aF (p:=Ia rI aM a b c d) (by simp only[Ia,aK,av,bE,OK,and_self])
instance a5B (x y:Int)(h:Bool):bq (bu x y h):=aF (p:=QW aM x y h) (by simp only[QW,aK,av,bE,OK,and_self])
theorem aS1 (a b:Int)(s:Nat)(hs:s<=120)(h:Bool):bq (aX a b (wl s) h):=⟨_,aPW a b s h hs⟩
instance a4A (a b:Int)(h:Bool):bq (aX a b 30 h):=aS1 a b 30 (by omega) h
instance a4B (a b:Int)(h:Bool):bq (aX a b 44 h):=aS1 a b 44 (by omega) h
instance a4C (a b:Int)(h:Bool):bq (aX a b 10 h):=aS1 a b 10 (by omega) h
instance t_m (a b:Int)(h:Bool):bq (K7 a b h):=aF (p:=aeL aX a b h) (by simp only[aeL,aK,av,bE,OK,and_self])
theorem a2T (s:Nat)(hs:s<=120)(n:Nat)(hn:n<=100)(fX:Bool)(f g:Nat->Int)(w w':Bool):bq (bx (wl s) n n fX f g w w'):=⟨_,aPY s hs n hn fX f g w w'⟩
theorem N5 (n:Nat)(hn:n<=100)(fX:Bool)(f g:Nat->Int)(w w':Bool):bq (bx 30 n n fX f g w w'):=a2T 30 (by omega) n hn fX f g w w'
instance a5j (fX:Bool)(f g:Nat->Int)(w w':Bool):bq (bx 30 2 2 fX f g w w'):=N5 2 (by omega) fX f g w w'
instance a5k (fX:Bool)(f g:Nat->Int)(w w':Bool):bq (bx 30 3 3 fX f g w w'):=N5 3 (by omega) fX f g w w'
instance a5l (fX:Bool)(f g:Nat->Int)(w w':Bool):bq (bx 30 4 4 fX f g w w'):=N5 4 (by omega) fX f g w w'
instance a4D (fX:Bool)(f g:Nat->Int)(w w':Bool):bq (bx 30 24 24 fX f g w w'):=N5 24 (by omega) fX f g w w'
instance a4E (fX:Bool)(f g:Nat->Int)(w w':Bool):bq (bx 30 48 48 fX f g w w'):=N5 48 (by omega) fX f g w w'
theorem aMA (n:Nat)(hn:n<=1900)(fX:Bool)(l:Nat->Int)(w:Bool):bq (cC n fX l w):=⟨_,aPX n hn fX l w⟩
instance a5m (fX:Bool)(l:Nat->Int)(w:Bool):bq (cC 2 fX l w):=aMA 2 (by omega) fX l w
instance a5n (fX:Bool)(l:Nat->Int)(w:Bool):bq (cC 3 fX l w):=aMA 3 (by omega) fX l w
theorem aZE (x y:Int)(h:Bool):bq (yT x y 0 h):=aF (p:=Me rI BU nU x y 0 h) (by
 unfold Me;simp only[aK,av,bE,OK,and_self,AK];intro h;simp at h)
instance a3N (a b d:Int)(h:Bool):bq (aP a b d h):=by
 by_cases nz:sat d=0
 .have h1:=ri a;have h2:=ri b;obtain⟨x,y,e,_,_⟩:=Ec (sat a) (sat b) (by omega) (by omega) (by omega) (by omega);have:=(aZE x y (((h||fj a)||fj b)||fj d)).ok;refine⟨?_⟩;simp only[aP,Gq,cF,ck,cT,uU,bR,e,nz];obtain⟨d,hd⟩:=this;rw[hd];exact⟨_,rfl⟩
 .exact⟨_,aCs a b d h nz⟩
theorem aZF (a b:Int)(s:Nat)(hs:s<=66)(h:Bool):bq (bl a b (wl s) h):=by
 by_cases nz:sat b=0
 .have h1:=ri a;obtain⟨x,y,q,e,_,_⟩:=apl (sat a) s (by omega) (by omega) (by omega);have:=(aZE x y ((h||fj a)||fj b)).ok;refine⟨?_⟩;have n0:decide (wl s<0)=false:=by simp
  have n1:decide (wl s>66)=false:=by simp only[dQ];exact dw (by omega)
  simp only[bl,QT,cF,ck,cT,uU,bR,n0,n1,bK,e,nz];obtain⟨d,hd⟩:=this;rw[hd];exact⟨_,rfl⟩
 .exact⟨_,aPZ a b s h hs nz⟩
instance a4F (a b:Int)(h:Bool):bq (bl a b 30 h):=aZF a b 30 (by omega) h
instance a4G (a b:Int)(h:Bool):bq (bl a b 44 h):=aZF a b 44 (by omega) h
def sq2 (f:Nat->Int)(n:Nat):Int:=DS (λj=>sat (f j)*sat (f j)) n
theorem aCt (f:Nat->Int):∀n,0<=sq2 f n
 |0=>eZ 0
 |n+1=>by
  have:=aCt f n
  have h2:0<=sat (f n)*sat (f n):=by
   rcases ayp 0 (sat (f n)) with h|h
   .exact JO h h
   .exact Int.mul_nonneg_of_nonpos_of_nonpos h h
  unfold sq2 at*;rw[DS];omega
theorem aVs (n:Nat)(hn:n<=64)(fX:Bool)(f:Nat->Int)(w:Bool):∃r,isR r (sq2 f n)/\fa n fX f w=some (sat r,(fX||Hl (λj=>fj (f j)) n)||fj r):=by
 have nn:=aCt f n
 have key:∃x,fa n fX f w=x/\∃h l,okW h l/\vW h l=sq2 f n/\x=(yV h l (fX||Hl (λj=>fj (f j)) n)):=by
  refine⟨_,rfl,?_⟩;have m:(if 64<wl n then(64:Int) else wl n)=wl n:=by rw[if_neg (by simp only[dQ];omega)]
  have k:K0 (wl n) n=true:=by simp[K0]
  have q:ws (wl n)=n:=rfl;simp only[fa,acQ,cF,ck,cT,fI,m,k,q,bD];unfold TA
  obtain⟨x,hx,i,h,l,ho,hv,rfl⟩:=aaA (s:=Dp aM fY kU)
   (λt d=>∃(i:Nat) (h l':Int),i+t=n/\okW h l'/\vW h l'=sq2 f i/\d=(((n,w&&false),wl n,wl i),(fX||Hl (λj=>fj (f j)) i),(n,f),h,l'))
   (λx=>∃(i:Nat) (h l':Int),okW h l'/\vW h l'=sq2 f n/\x=(((n,w&&false),wl n,wl n,decide (wl n<wl n)),(fX||Hl (λj=>fj (f j)) n),(n,f),h,l')) (λt d=>by
    rintro ⟨i,h,l',hi,ho,hv,rfl⟩
    have bnd:=apj (λj=>sat (f j)*sat (f j)) 1329227995784915872903807060280344576 (by omega) i (λj _=>af5 _ _);have hv':vW h l'=DS (λj=>sat (f j)*sat (f j)) i:=hv;rcases acb t with t0|t0
    .have e:i=n:=by omega
     subst e;simp only[Dp,cF,ck,cT,fI,axH (eT i),bK];exact⟨_,rfl,i,h,l',ho,hv,by rfl⟩
    .have hs1:=ri (f i);have hm:=af5 (f i) (f i);obtain⟨h1,l1,e1,o1,v1⟩:=Ec (sat (f i)) (sat (f i)) (by omega) (by omega) (by omega) (by omega)
     obtain⟨h2,l2,e2,o2,v2⟩:=aiT (λj:Nat=>bif ww j 1 then h1 else bif ww j 0 then h else h) (λj:Nat=>bif ww j 1 then l1 else bif ww j 0 then l' else l') true
      ho o1 (by show _<=vW h l'+vW h1 l1;rw[hv',v1];omega) (by show vW h l'+vW h1 l1<_;rw[hv',v1];omega)
     have v2:vW h2 l2=vW h l'+vW h1 l1:=v2;rw[hv',v1] at v2;have q:ws (wl i)=i:=rfl;simp only[Dp,cF,ck,cT,fI,wI,axG hi t0,axI (show i<n by omega),bD,q,uU,bR,e1,e2,axJ (show i<9000000000000000000 by omega)];refine⟨_,rfl,t-1,by omega,i+1,h2,l2,by omega,o2,v2,?_⟩;simp only[Hl,Bool.or_assoc])
   2000 n (((n,w&&false),wl n,0),fX,(n,f),0,0) (by omega) ⟨0,0,0,by omega,⟨by omega,by omega,by omega,by omega⟩,rfl,by simp only[Hl,aK7];rfl⟩
  rw[hx];refine⟨h,l,ho,hv,?_⟩;simp only[bR];cases yV h l (fX||Hl (λj=>fj (f j)) n)<;>rfl
 obtain⟨x,hx,h,l,ho,hv,rfl⟩:=key
 have h0:0<=h:=by
  obtain⟨o1,o2,o3,o4⟩:=ho;rw[<-hv] at nn;simp only[vW] at nn;omega
 obtain⟨r,hr,_,_⟩:=auT h l ho h0;refine⟨r,hv▸hr,?_⟩;rw[hx];exact axK h l r _ ho h0 hr
theorem aHa (n:Nat)(hn:n<=64)(fX:Bool)(f:Nat->Int)(w:Bool):bq (fa n fX f w):=by
 obtain⟨r,_,h⟩:=aVs n hn fX f w;exact⟨_,h⟩
instance a3O (fX:Bool)(f:Nat->Int)(w:Bool):bq (fa 3 fX f w):=aHa 3 (by omega) fX f w
instance a3P (fX:Bool)(f:Nat->Int)(w:Bool):bq (fa 4 fX f w):=aHa 4 (by omega) fX f w
theorem axL:∀(d:lI.B) (hd:0<=d.1.2.2.2.2/\d.1.2.2.2.2<=d.1.2.2.2.1/\d.1.2.2.2.1<=1999/\d.1.2.2.2.1=((d.1.2.2.1.1:Nat):Int)),Ok (O5 d) (λx:wh=>True):=
 bP (λd:lI.B=>ws (d.1.2.2.2.1-d.1.2.2.2.2)) (λd hd=>by
  have hw:wI (d.1.2.2.2.2+1)=d.1.2.2.2.2+1:=bo;unfold Gu;simp only[bN];simp only[nf,uO,hw];repeat' (first|exact True.intro|omega|(intro _)|(apply And.intro))) (λd hd=>by omega)
theorem azT (x0:Int)(x1:Nat)(h1:1<=x1)(h2:x1<=1000)(x2:Bool)(x3:Nat->Int)(w0:Bool):bq (nW x0 x1 x2 x3 w0):=by
 unfold nW Mp;refine aF ?_;rw[bH,bH];refine⟨by simp only[cx];omega,by simp only[aey];omega,?_⟩;refine ay (axL _ (hdN (x1-1) (by omega))) λd _ hd=> ?_;simp only[av]
instance a2U (x0:Int)(x2:Bool)(x3:Nat->Int)(w0:Bool):bq (nW x0 6 x2 x3 w0):=azT _ _ (by omega) (by omega) _ _ _
instance a2V (x0:Int)(x2:Bool)(x3:Nat->Int)(w0:Bool):bq (nW x0 7 x2 x3 w0):=azT _ _ (by omega) (by omega) _ _ _
instance a2f (x0:Int)(x2:Bool)(x3:Nat->Int)(w0:Bool):bq (nW x0 12 x2 x3 w0):=azT _ _ (by omega) (by omega) _ _ _
instance a2g (x0:Int)(x1:Bool):bq (oV x0 x1):=by
 unfold oV aaK;exact aF (by simp only[bN])
instance a2h (x0:Int)(x1:Bool):bq (tw x0 x1):=by
 unfold tw aaL;exact aF (by simp only[bN])
instance a0r (x0:Int)(x1:Int)(x2:Bool):bq (Ae x0 x1 x2):=by
 unfold Ae QV;exact aF (by simp only[bN])
instance a2W (x0:Int)(x1:Int)(x2:Int)(x3:Int)(x4:Int)(x5:Int)(x6:Bool):bq (p9 x0 x1 x2 x3 x4 x5 x6):=by
 unfold p9 atU;exact aF (by simp only[bN])
instance a00 (x0:Int)(x1:Int)(x2:Int)(x3:Int)(x4:Bool):bq (uZ x0 x1 x2 x3 x4):=by
 unfold uZ VD;exact aF (by simp only[bN])
instance a2i (x0:Int)(x1:Int)(x2:Int)(x3:Bool):bq (mi x0 x1 x2 x3):=by
 unfold mi amG;exact aF (by simp only[bN])
instance a2X (x0:Int)(x1:Int)(x2:Int)(x3:Bool):bq (uy x0 x1 x2 x3):=by
 unfold uy atV;exact aF (by simp only[bN])
instance aZG (x0:Int)(x1:Int)(x2:Bool):bq (wQ x0 x1 x2):=by
 unfold wQ Xf;exact aF (by simp only[bN])
instance aMB (x0:Int)(x1:Int)(x2:Int)(x3:Int)(x4:Bool):bq (kd x0 x1 x2 x3 x4):=by
 unfold kd uY;exact aF (by simp only[bN])
theorem aHb:∀(d:tx.B) (hd:0<=d.1/\d.1<=4),Ok (acU d) (λx:Ij=>True):=
 bP (λd:tx.B=>ws (4-d.1)) (λd hd=>by
  have hw:wI (d.1+1)=d.1+1:=bo;unfold acT;simp only[bN];simp only[nf,uO,hw];repeat' (first|exact True.intro|omega|(intro _)|(apply And.intro))) (λd hd=>by omega)
instance a2j (x0:Int)(x1:Int)(x2:Int)(x3:Int)(x4:Bool):bq (tz x0 x1 x2 x3 x4):=by
 unfold tz amI;refine aF ?_;refine ay (aHb _ (by simp)) λd _ hd=> ?_;simp only[bN]
instance a2k:bq jV:=by
 unfold jV amN;exact aF (by simp only[bN])
instance a01 (x0:Int)(x1:Int)(x2:Int)(x3:Int):bq (vf x0 x1 x2 x3):=by
 unfold vf ahs;exact aF (by simp only[bN])
theorem azU:∀(d:oW.B) (hd:0<=d.1.2/\d.1.2<=3),Ok (TC d) (λx:Dq=>True):=
 bP (λd:oW.B=>ws (3-d.1.2)) (λd hd=>by
  have hw:wI (d.1.2+1)=d.1.2+1:=bo;unfold TB;simp only[bN];simp only[nf,uO,hw];repeat' (first|exact True.intro|omega|(intro _)|(apply And.intro))) (λd hd=>by omega)
instance a0s (x0:Nat->Int)(x1:Int):bq (cM x0 x1):=by
 unfold cM acW;refine aF ?_;refine ay (azU _ (by simp)) λd _ hd=> ?_;simp only[bN]
theorem azV:∀(d:oX.B) (hd:0<=d.1.2.2.2.2/\d.1.2.2.2.2<=d.1.2.2.2.1/\d.1.2.2.2.1<=1999/\d.1.2.2.2.1=((d.1.2.2.1.1:Nat):Int)),Ok (TE d) (λx:Dr=>True):=
 bP (λd:oX.B=>ws (d.1.2.2.2.1-d.1.2.2.2.2)) (λd hd=>by
  have hw:wI (d.1.2.2.2.2+1)=d.1.2.2.2.2+1:=bo;unfold TD;simp only[bN];simp only[nf,uO,hw];repeat' (first|exact True.intro|omega|(intro _)|(apply And.intro))) (λd hd=>by omega)
theorem as7 (x0:Nat->Int)(x1:Int)(x2:Nat)(x3:Nat->Int)(w0:Bool)(h:x2<=1999):bq (fe x0 x1 x2 x3 w0):=by
 unfold fe ac0;refine aF ?_;rw[aN,bH];refine⟨rfl,?_⟩;refine ay (azV _ (hdN x2 h)) λd _ hd=> ?_;simp only[bN]
instance a4H (x0:Nat->Int)(x1:Int)(x3:Nat->Int)(w0:Bool):bq (fe x0 x1 3 x3 w0):=as7 _ _ _ _ _ (by omega)
instance a4I (x0:Nat->Int)(x1:Int)(x3:Nat->Int)(w0:Bool):bq (fe x0 x1 4 x3 w0):=as7 _ _ _ _ _ (by omega)
instance a2l (x0:Int)(x1:Int)(x2:Int)(x3:Int)(x4:Int)(x5:Int)(x6:Int)(x7:Int)(x8:Bool):bq (RU x0 x1 x2 x3 x4 x5 x6 x7 x8):=by
 unfold RU aaS;exact aF (by simp only[bN])
instance a2m (x0:Int)(x1:Int)(x2:Int)(x3:Int)(x4:Bool):bq (RW x0 x1 x2 x3 x4):=by
 unfold RW aaT;exact aF (by simp only[bN])
theorem apm:∀(d:jW.B) (hd:0<=d.1.2.2/\d.1.2.2<=d.1.1/\d.1.1<=1999/\d.1.1<=24),Ok (HA d) (λx:uQ=>True):=
 bP (λd:jW.B=>ws (d.1.1-d.1.2.2)) (λd hd=>by
  have hw:wI (d.1.2.2+1)=d.1.2.2+1:=bo;unfold Hz;simp only[bN];simp only[nf,uO,hw];repeat' (first|exact True.intro|omega|(intro _)|(apply And.intro))) (λd hd=>by omega)
theorem qz (x0:Int)(x1:Int)(x2:Int)(x3:Nat->Int)(h0:0<=x0)(h1:x0<=x1)(h2:x1<=24):bq (yY x0 x1 x2 x3):=by
 unfold yY Ms;refine aF ?_;refine ay (apm _ (by dsimp only;omega)) λd _ hd=> ?_;simp only[av]
instance aV4 (x0:Int)(x1:Bool):bq (uA x0 x1):=by
 unfold uA TJ;exact aF (by simp only[bN])
theorem aqv:∀(d:kV.B) (hd:0<=d.1/\d.1<=24),Ok (JX d) (λx:wR=>True):=
 bP (λd:kV.B=>ws (24-d.1)) (λd hd=>by
  have hw:wI (d.1+1)=d.1+1:=bo;unfold JW;simp only[bN];simp only[nf,uO,hw];repeat' (first|exact True.intro|omega|(intro _)|(apply And.intro))) (λd hd=>by omega)
theorem aqw:∀(d:kW.B) (hd:0<=d.1/\d.1<=276),Ok (JZ d) (λx:wS=>True):=
 bP (λd:kW.B=>ws (276-d.1)) (λd hd=>by
  have hw:wI (d.1+1)=d.1+1:=bo;unfold JY;simp only[bN];simp only[nf,uO,hw];repeat' (first|exact True.intro|omega|(intro _)|(apply And.intro))) (λd hd=>by omega)
instance aVt (x0:Nat->Int)(x1:Nat->Int)(x2:Bool):bq (jI x0 x1 x2):=by
 unfold jI O8;refine aF ?_;refine ay (aqv _ (by simp)) λd _ hd=> ?_;refine ay (aqw _ (by simp)) λd _ hd=> ?_;simp only[bN]
theorem aIB:∀(d:vR.B) (hd:0<=d.1.2/\d.1.2<=24),Ok (ahw d) (λx:Mw=>True):=
 bP (λd:vR.B=>ws (24-d.1.2)) (λd hd=>by
  have hw:wI (d.1.2+1)=d.1.2+1:=bo;unfold ahv;simp only[bN];simp only[nf,uO,hw];repeat' (first|exact True.intro|omega|(intro _)|(apply And.intro))) (λd hd=>by omega)
instance a2Y (x0:Nat)(x1:Bool)(x2:Nat->Int)(w0:Bool):bq (XE x0 x1 x2 w0):=by
 unfold XE atY;refine aF ?_;rw[aN,bH];refine⟨rfl,?_⟩;refine ay (aIB _ (by simp)) λd _ hd=> ?_;simp only[bN]
theorem aS2:∀j:Nat,j<24->0<=wI (t7 (wI ((j:Int)*wI ((j:Int)-1))) 2)/\wI (t7 (wI ((j:Int)*wI ((j:Int)-1))) 2)+(j:Int)<=276+(if j=0 then 1 else 0):=by decide
theorem aP0 {i j:Int}{d:ahy}(h:sH i j=some d)(ok:d.2=true):0<=d.1/\d.1<276:=by
 simp only[sH,VE,cF,ck] at h;by_cases h0:0<=i
 .by_cases h1:i<j
  .simp only[QF,h0,h1,QE,bD,j9] at h;subst h;have h2:j<24:=eK ok;obtain⟨n,rfl⟩:=Int.eq_ofNat_of_zero_le (by omega:0<=j);obtain⟨k1,k2⟩:=aS2 n (by omega);rw[if_neg (by omega)] at k2;generalize wI (t7 (wI ((n:Int)*wI ((n:Int)-1))) 2)=c at*
   show 0<=wI (c+i)/\wI (c+i)<276;rw[fS (by omega) (by omega)];omega
  .simp only[QF,h0,h1,QE,OH,bD,bK,j9] at h;subst h;cases ok
 .simp only[QF,h0,OH,bK,j9] at h;subst h;cases ok
instance a02 (x0:Int)(x1:Int):bq (sH x0 x1):=by
 unfold sH VE;exact aF (by simp only[bN])
instance a4J (x0:Nat->Int)(x1:Nat->Int)(x2:Int)(x3:Int):bq (Il x0 x1 x2 x3):=by
 have key:∀d,sH x2 x3=some d->((!d.2)=false->bk d.1 276=true/\wd (0+ws d.1*1+1) 276=true):=λd h k=>by
  have:=aP0 h (by simpa using k);simp only[cx,eV];omega
 unfold Il aF8;refine aF ?_;simp only[bN,nf];repeat' (first|(apply And.intro)|(intro _ h k;exact⟨λ_=>(key _ h k).2,(key _ h k).1⟩)|(intro _ h k;exact key _ h k)|(intro _))
instance a2Z (x0:Nat->Int)(x1:Nat->Int)(x2:Int)(x3:Int)(x4:Int):bq (Fv x0 x1 x2 x3 x4):=by
 unfold Fv at3;refine aF ?_;simp only[bN,nf];intro d h k;have:=aP0 h k;simp only[cx,eV,cq];omega
theorem auU:∀(d:mj.B) (hd:0<=d.1/\d.1<=24),Ok (My d) (λx:yZ=>True):=
 bP (λd:mj.B=>ws (24-d.1)) (λd hd=>by
  have hw:wI (d.1+1)=d.1+1:=bo;unfold Mx;simp only[bN];simp only[nf,uO,hw];repeat' (first|exact True.intro|omega|(intro _)|(apply And.intro))) (λd hd=>by omega)
instance aV5:bq (uB):=by
 unfold uB TM;refine aF ?_;refine ay (auU _ (by simp)) λd _ hd=> ?_;simp only[bN]
theorem aDy:∀(d:ou.B) (hd:0<=d.1/\d.1<=3),Ok (XH d) (λx:Bh=>True):=
 bP (λd:ou.B=>ws (3-d.1)) (λd hd=>by
  have hw:wI (d.1+1)=d.1+1:=bo;unfold MA;try dsimp only
  by_cases hc:d.1<3
  case neg=>simp only[hc,OH,aK,av,mT,OK,Cd,yc,Eh]
  have h1:wI (3*d.1)=3*d.1:=fS;have h2:wI (3*d.1+3)=3*d.1+3:=fS;have h3:ws (3*d.1+3)-ws (3*d.1)=3:=by omega
  simp only[h1,h2,h3];simp only[bN];simp only[nf,uO,hw];repeat' (first|exact True.intro|omega|(intro _)|(apply And.intro))) (λd hd=>by omega)
instance a03 (x0:Nat->Int)(x1:Int)(x2:Int)(x3:Int)(x4:Bool):bq (qd x0 x1 x2 x3 x4):=by
 unfold qd VF;refine aF ?_;refine ay (aDy _ (by simp)) λd _ hd=> ?_;simp only[bN]
theorem aHc:∀(d:qf.B) (hd:0<=d.1/\d.1<=3),Ok (adb d) (λx:DZ=>True):=
 bP (λd:qf.B=>ws (3-d.1)) (λd hd=>by
  have hw:wI (d.1+1)=d.1+1:=bo;unfold Q6;try dsimp only
  by_cases hc:d.1<3
  case neg=>simp only[hc,OH,aK,av,mT,OK,Cd,yc,Eh]
  have h1:wI (6+d.1)=6+d.1:=fS;have h2:wI (3+d.1)=3+d.1:=fS;simp only[h1,h2];simp only[bN];simp only[nf,uO,hw];repeat' (first|exact True.intro|omega|(intro _)|(apply And.intro))) (λd hd=>by omega)
instance a2n (x0:Nat->Int)(x1:Int)(x2:Int)(x3:Int)(x4:Bool):bq (za x0 x1 x2 x3 x4):=by
 unfold za aa1;refine aF ?_;refine ay (aHc _ (by simp)) λd _ hd=> ?_;simp only[bN]
instance a04 (x0:Int)(x1:Int)(x2:Bool)(x3:Bool):bq (MB x0 x1 x2 x3):=by
 unfold MB ahF;exact aF (by simp only[bN])
instance a05 (x0:Int)(x1:Bool)(x2:Bool)(x3:Bool)(x4:Bool)(x5:Bool)(x6:Bool)(x7:Bool)(x8:Bool)(x9:Int)(fG:Int)(fD:Int):bq (Cn x0 x1 x2 x3 x4 x5 x6 x7 x8 x9 fG fD):=by
 unfold Cn VI;exact aF (by simp only[bN])
instance aZH (x0:Int):bq (Bi x0):=by
 unfold Bi Fx;exact aF (by simp only[bN])
theorem aHd {x d:Int}(h:Bi x=some d):0<=d/\d<6:=by
 have k:PQ (Fx x) (λd=>0<=d/\d<6):=by
  simp only[Fx,aK,av];refine⟨λ_=>by decide,λ_=>⟨λ_=>by decide,λ_=>by decide⟩⟩
 exact Ok.post k h
theorem axM:∀(d:lJ.B) (hd:0<=d.1.2/\d.1.2<=4),Ok (Pc d) (λx:wq=>True):=
 bP (λd:lJ.B=>ws (4-d.1.2)) (λd hd=>by
  have hw:wI (d.1.2+1)=d.1.2+1:=bo;unfold Gz;simp only[bN];simp only[nf,uO,hw];repeat' (first|exact True.intro|omega|(intro _ h;have:=aHd h;revert this;clear h;intro this)|(intro _)|(apply And.intro))) (λd hd=>by omega)
instance aZI (x0:Int)(x1:Bool)(x2:Bool)(x3:Bool)(x4:Bool)(x5:Bool)(x6:Bool)(x7:Bool)(x8:Bool)(x9:Int)(fG:Int)(fD:Int):bq (wT x0 x1 x2 x3 x4 x5 x6 x7 x8 x9 fG fD):=by
 unfold wT MD;refine aF ?_;refine ay (axM _ (by simp)) λd _ hd=> ?_;simp only[bN]
instance a06 (x:Co.B):bq (vh x):=by
 unfold vh VJ;try dsimp only
 exact aF (by simp only[bN])
theorem aIC (a:Nat)(i:Int):∀(d:vT.B) (hd:0<=d.1.2.2.2.2.2.2/\d.1.2.2.2.2.2.2<=d.1.2.2.2.2.2.1/\d.1.2.2.2.2.2.1<=1999/\d.1.1.1=a/\d.1.2.1=i/\d.1.2.2.2.1=i/\d.1.2.2.2.2.1.1=a/\d.1.2.2.2.2.2.1=(a:Int)/\(d.1.2.2.1:Int)<=d.1.2.2.2.2.2.2/\0<=i/\i<3),Ok (VL d) (λx:MH=>x.1.1.1=a/\x.1.2.1=i/\x.1.2.2.2.1=i/\x.1.2.2.1<=a):=
 bP (λd:vT.B=>ws (d.1.2.2.2.2.2.1-d.1.2.2.2.2.2.2)) (λd hd=>by
  have hw:wI (d.1.2.2.2.2.2.2+1)=d.1.2.2.2.2.2.2+1:=bo;unfold ahI;simp only[bN];simp only[nf,uO,hw];repeat' (first|exact True.intro|omega|(intro _)|(apply And.intro))) (λd hd=>by omega)
theorem aID:∀(d:sI.B) (hd:0<=d.1.2/\d.1.2<=3/\d.1.1.1<=1900),Ok (ahJ d) (λx:GA=>True):=
 bP (λd:sI.B=>ws (3-d.1.2)) (λd hd=>by
  unfold VM;try dsimp only
  rw[aK];refine⟨λh=> ?_,λ_=>by simp only[av,mT]⟩;have h:=eK h;rw[bH,bH,aN];refine⟨rfl,rfl,ay (aIC d.1.1.1 d.1.2 _ ?_) λx _ hx=> ?_⟩
  .dsimp only;simp only[dQ,AK,Cd];omega
  obtain⟨a1,a2,a3,a4⟩:=hx;rw[aN,bH];have hw:wI (d.1.2+1)=d.1.2+1:=bo;have:=aMA x.1.2.2.1 (by omega);simp only[bN];simp only[nf,oL,uO,hw,a1,a2,a3];repeat' (first|exact True.intro|omega|(intro _)|(apply And.intro))) (λd hd=>by omega)
theorem aiV (x0:Nat)(x1:Bool)(x2:Nat->Int)(x3:Nat->Int)(x4:Nat->Int)(w0:Bool)(h:x0<=1900):bq (ml x0 x1 x2 x3 x4 w0):=by
 unfold ml ahK;refine aF ?_;rw[aN,bH];refine⟨rfl,?_⟩;refine ay (aID _ (by dsimp only;omega)) λd _ hd=> ?_;simp only[bN]
instance a4K (x1:Bool)(x2 x3 x4:Nat->Int)(w0:Bool):bq (ml 2 x1 x2 x3 x4 w0):=aiV _ _ _ _ _ _ (by omega)
instance a4L (x1:Bool)(x2 x3 x4:Nat->Int)(w0:Bool):bq (ml 3 x1 x2 x3 x4 w0):=aiV _ _ _ _ _ _ (by omega)
theorem aDz (i:Int):∀(d:oy.B) (hd:0<=d.1.2.2/\d.1.2.2<=4/\d.1.2.1=i),Ok (XP d) (λx:Bj=>x.1.2.1=i):=
 bP (λd:oy.B=>ws (4-d.1.2.2)) (λd hd=>by
  have hw:wI (d.1.2.2+1)=d.1.2.2+1:=bo;unfold MI;simp only[bN];simp only[nf,oL,uO,hw];repeat' (first|exact True.intro|omega|(intro _)|(apply And.intro))) (λd hd=>by omega)
theorem aDA:∀(d:oz.B) (hd:0<=d.1/\d.1<=2),Ok (XQ d) (λx:Bk=>True):=
 bP (λd:oz.B=>ws (2-d.1)) (λd hd=>by
  unfold MJ;try dsimp only
  rw[aK];refine⟨λh=> ?_,λ_=>by simp only[av,mT]⟩;have h:=eK h;rw[bE];intro d1 _;refine ay (aDz d.1 _ (by simp)) λx _ hx=> ?_;have hw:wI (d.1+1)=d.1+1:=bo;simp only[av,rF,hx,hw];omega) (λd hd=>by omega)
instance a07 (x0:Int)(x1:Int)(x2:Int)(x3:Int)(x4:Bool):bq (dH x0 x1 x2 x3 x4):=by
 unfold dH VN;refine aF ?_;rw[bE];intro d _;rw[aK];refine⟨λ_=>by simp only[bN],λ_=>ay (aDA _ (by simp)) λd _ hd=> ?_⟩;simp only[av]
theorem aqx (a b:Int):∀(d:kX.B) (hd:0<=d.1.2.2.2/\d.1.2.2.2<=d.1.2.2.1/\d.1.2.2.1<=1999/\d.1.2.2.1<=24/\d.1.1=a/\d.1.2.1=b),Ok (J2 d) (λx:wV=>x.1.1=a/\x.1.2.1=b):=
 bP (λd:kX.B=>ws (d.1.2.2.1-d.1.2.2.2)) (λd hd=>by
  have hw:wI (d.1.2.2.2+1)=d.1.2.2.2+1:=bo;unfold J1;simp only[bN];simp only[nf,oL,uO,hw];repeat' (first|exact True.intro|omega|(intro _)|(apply And.intro))) (λd hd=>by omega)
theorem aqy (a b:Int):∀(d:kY.B) (hd:0<=d.1.2.2/\d.1.2.2<=24/\d.1.1=a/\d.1.2.1=b/\0<=a/\a<24),Ok (J4 d) (λx:wW=>x.1.2.1=b):=
 bP (λd:kY.B=>ws (24-d.1.2.2)) (λd hd=>by
  have hw:wI (d.1.2.2+1)=d.1.2.2+1:=bo;unfold J3;simp only[bN];simp only[nf,oL,uO,hw];repeat' (first|exact True.intro|omega|(intro _)|(apply And.intro))) (λd hd=>by omega)
theorem aqz:∀(d:kZ.B) (hd:0<=d.1/\d.1<=24),Ok (J6 d) (λx:wX=>True):=
 bP (λd:kZ.B=>ws (24-d.1)) (λd hd=>by
  have hw:wI (d.1+1)=d.1+1:=bo;unfold J5;have h1:wI (24+d.1)=24+d.1:=fS;simp only[h1];simp only[bN];simp only[nf,oL,uO,hw];repeat' (first|exact True.intro|omega|(intro _)|(apply And.intro))) (λd hd=>by omega)
theorem aqA:∀(d:ld.B) (hd:0<=d.1/\d.1<=24),Ok (J8 d) (λx:wY=>True):=
 bP (λd:ld.B=>ws (24-d.1)) (λd hd=>by
  unfold J7;rw[aK];refine⟨λh=> ?_,λ_=>by simp only[av,mT]⟩;have h:=eK h;have hw:wI (d.1+1)=d.1+1:=bo;refine ay (aqx d.1 d.1 _ (by dsimp only;rw[hw];omega)) λx _ hx=> ?_;refine ay (aqy d.1 d.1 _ (by dsimp only;omega)) λx _ hx=> ?_;simp only[av,rF,hx,hw];omega) (λd hd=>by omega)
instance aVu (x0:Nat->Int)(x1:Nat->Int)(x2:Bool)(x3:Nat->Int):bq (Bl x0 x1 x2 x3):=by
 unfold Bl Pf;refine aF ?_;refine ay (aqA _ (by simp)) λd _ hd=> ?_;refine ay (aqz _ (by simp)) λd _ hd=> ?_;simp only[bN]
instance a08 (x0:Nat->Int):bq (bp x0):=by
 unfold bp ahO;exact aF (by simp only[bN])
instance aV6 (x0:Nat->Int)(x1:Int)(x2:Int)(x3:Int)(x4:Int):bq (oA x0 x1 x2 x3 x4):=by
 unfold oA TT;exact aF (by simp only[bN])
instance a0t (x0:Int)(x1:Int)(x2:Int)(x3:Int)(x4:Int)(x5:Int)(x6:Int)(x7:Int)(x8:Bool):bq (Im x0 x1 x2 x3 x4 x5 x6 x7 x8):=by
 unfold Im Q7;exact aF (by simp only[bN])
instance aZJ (x0:Int)(x1:Bool):bq (Fz x0 x1):=by
 unfold Fz MM;exact aF (by simp only[bN])
instance a2o (x0:Int)(x1:Int)(x2:Int)(x3:Int)(x4:Int)(x5:Int)(x6:Int)(x7:Int)(x8:Bool):bq (mm x0 x1 x2 x3 x4 x5 x6 x7 x8):=by
 unfold mm aa3;try dsimp only
 exact aF (by simp only[bN])
theorem aMC:∀(d:zd.B) (hd:0<=d.1/\d.1<=4),Ok (aa4 d) (λx:RX=>True):=
 bP (λd:zd.B=>ws (4-d.1)) (λd hd=>by
  have hw:wI (d.1+1)=d.1+1:=bo;unfold ank;simp only[bN];simp only[nf,oL,uO,hw];repeat' (first|exact True.intro|omega|(intro _)|(apply And.intro))) (λd hd=>by omega)
instance a3Q (x0:Int)(x1:Int)(x2:Int)(x3:Int)(x4:Bool):bq (kO x0 x1 x2 x3 x4):=by
 unfold kO apQ;try dsimp only
 refine aF ?_;refine ay (aMC _ (by simp)) λd _ hd=> ?_;simp only[bN]
instance a3R:bq qL:=by
 have b1:=λx=>qz 0 4 1073741840 x (by omega) (by omega) (by omega)
 have b2:=λx=>qz 4 7 549755813888 x (by omega) (by omega) (by omega)
 have b3:=λx=>qz 7 10 9007199254740992 x (by omega) (by omega) (by omega)
 have b4:=λx=>qz 10 13 134217728 x (by omega) (by omega) (by omega)
 have b5:=λx=>qz 13 16 1073741824 x (by omega) (by omega) (by omega)
 have b6:=λx=>qz 16 22 2147483648 x (by omega) (by omega) (by omega)
 have b7:=λx=>qz 22 24 137438953472 x (by omega) (by omega) (by omega)
 unfold qL TW;exact aF (by simp only[bN])
theorem axN:∀(d:ns.B) (hd:0<=d.1/\d.1<=24),Ok (Pm d) (λx:Bm=>True):=
 bP (λd:ns.B=>ws (24-d.1)) (λd hd=>by
  have hw:wI (d.1+1)=d.1+1:=bo;unfold Pk;simp only[bN];simp only[nf,oL,uO,hw];repeat' (first|exact True.intro|omega|(intro _)|(apply And.intro))) (λd hd=>by omega)
instance aZK (x0:Nat->Int)(x1:Bool):bq (qh x0 x1):=by
 unfold qh X2;refine aF ?_;rw[bE];intro d _;refine ay (axN _ (by simp)) λd _ hd=> ?_;simp only[av]
theorem a09 {x:Int}{y:aeI}(h:uf x=some y)(k:(y:Int)<=1073741840): -1073741840<=x/\x<=1073741840:=by
 have e:PQ (DW x) (λy:aeI=>(y:Int)<=1073741840-> -1073741840<=x/\x<=1073741840):=by
  by_cases c:x<0/\ -1152921504606846976<x
  .have w:wI (0-x)=0-x:=fS;simp only[DW,aK,av,QF,mf,Wy,w];exact⟨λ_=>(show(1152921504606846976:Int)<=1073741840-> -1073741840<=x/\x<=1073741840 by omega),λ_=>⟨λ_=>(show(1152921504606846976:Int)<=1073741840-> -1073741840<=x/\x<=1073741840 by omega),λ_=>⟨λ_=>(show(0-x:Int)<=1073741840-> -1073741840<=x/\x<=1073741840 by omega),λ_=>(show x<=1073741840-> -1073741840<=x/\x<=1073741840 by omega)⟩⟩⟩
  .simp only[DW,aK,av,QF,mf,Wy];exact⟨λ_=>(show(1152921504606846976:Int)<=1073741840-> -1073741840<=x/\x<=1073741840 by omega),λ_=>⟨λ_=>(show(1152921504606846976:Int)<=1073741840-> -1073741840<=x/\x<=1073741840 by omega),λ_=>⟨λ_=>by omega,λ_=>(show x<=1073741840-> -1073741840<=x/\x<=1073741840 by omega)⟩⟩⟩
 exact Ok.post e h k
theorem aqB (a b:Int):∀(d:lg.B) (hd:0<=d.1.2.2/\d.1.2.2<=24/\d.1.1=a/\d.1.2.1=b/\0<=a/\a<24),Ok (J' d) (λx:w8=>x.1.2.1=b):=
 bP (λd:lg.B=>ws (24-d.1.2.2)) (λd hd=>by
  have hw:wI (d.1.2.2+1)=d.1.2.2+1:=bo;unfold J9;simp only[bN];simp only[nf,oL,uO,hw];repeat' (first|exact True.intro|omega|(intro _)|(apply And.intro))) (λd hd=>by omega)
theorem aqC (a:Int):∀(d:lk.B) (hd:0<=d.1.2/\d.1.2<=48/\d.1.1=a/\0<=a/\a<24),Ok (Kb d) (λx:w9=>x.1.1=a):=
 bP (λd:lk.B=>ws (48-d.1.2)) (λd hd=>by
  have hw:wI (d.1.2+1)=d.1.2+1:=bo;unfold Ka;simp only[bN];simp only[nf,oL,uO,hw];repeat' (first|exact True.intro|omega|(intro _)|(apply And.intro))) (λd hd=>by omega)
theorem aqD (a b e g h:Int):∀(d:ln.B) (hd:0<=d.1.2.2.2.2.2.2/\d.1.2.2.2.2.2.2<=48/\d.1.1=a/\d.1.2.2.1=b/\0<=a/\a<24/\0<=b/\b<24/\d.1.2.2.2.2.1=g/\d.1.2.2.2.2.2.1=h),Ok (Kd d) (λx:xc=>x.1.1=a/\x.1.2.2.2.2.1=g/\x.1.2.2.2.2.2.1=h):=
 bP (λd:ln.B=>ws (48-d.1.2.2.2.2.2.2)) (λd hd=>by
  have hw:wI (d.1.2.2.2.2.2.2+1)=d.1.2.2.2.2.2.2+1:=bo;unfold Kc;simp only[bN];simp only[nf,oL,uO,hw];repeat' (first|exact True.intro|omega|(intro _)|(apply And.intro))) (λd hd=>by omega)
theorem aqE:∀(d:lp.B) (hd:0<=d.1/\d.1<=24),Ok (Kf d) (λx:xd=>True):=
 bP (λd:lp.B=>ws (24-d.1)) (λd hd=>by
  unfold Ke;rw[aK];refine⟨λh=> ?_,λ_=>by simp only[av,mT]⟩;have h:=eK h;have hw:wI (d.1+1)=d.1+1:=bo;have h1:wI (24+d.1)=24+d.1:=fS;rw[h1];iterate 2 (rw[bH];refine⟨by simp only[cx];omega,?_⟩)
  rw[bE];intro d1 _;iterate 4 (rw[bH];refine⟨by simp only[cx,eV,Ht];omega,?_⟩)
  refine ay (aqB d.1 d.1 _ (by dsimp only;omega)) λx _ hx=> ?_;simp only[av,rF,hx,hw];omega) (λd hd=>by omega)
theorem aqF (a:Int):∀(d:lq.B) (hd:0<=d.1.2.2.2/\d.1.2.2.2<=d.1.2.2.1/\d.1.1=a/\d.1.2.2.1<=24/\0<=a/\a<24),Ok (Kh d) (λx:xf=>x.1.1=a):=
 bP (λd:lq.B=>ws (d.1.2.2.1-d.1.2.2.2)) (λd hd=>by
  unfold Kg;try dsimp only
  rw[aK];refine⟨λh=> ?_,λ_=>by simp only[av,mT];exact hd.2.2.1⟩;have h:=eK h;have hw:wI (d.1.2.2.2+1)=d.1.2.2.2+1:=bo;rw[bH];refine⟨by simp only[cx];omega,?_⟩;rw[bE];intro d1 _;rw[bE];intro d2 _;rw[bE];intro d3 _;refine ay (aqD d.1.1 d.1.2.2.2 d.1.1 d.1.2.2.1 d.1.2.2.2 _ (by dsimp only;omega)) λx _ hx=> ?_;obtain⟨a1,a2,a3⟩:=hx;simp only[av,rF,a1,a2,a3,hw];omega) (λd hd=>by omega)
theorem aqG:∀(d:lr.B) (hd: -1<=d.1/\d.1<=23),Ok (Kj d) (λx:xg=>True):=
 bP (λd:lr.B=>ws (d.1+1)) (λd hd=>by
  unfold Ki;try dsimp only
  rw[aK];refine⟨λh=> ?_,λ_=>by simp only[av,mT]⟩;have h:=eK h;have hw:wI (d.1-1)=d.1-1:=fS;refine ay (aqC d.1 _ (by dsimp only;omega)) λx _ hx=> ?_;rw[bH];refine⟨by simp only[cx,hx];omega,?_⟩;rw[bE];intro d1 _;rw[bE];intro d2 _;rw[bH];refine⟨by simp only[cx,hx];omega,?_⟩;rw[bH];refine⟨by simp only[eV,Ht,hx];omega,?_⟩;refine ay (aqF d.1 _ (by dsimp only;omega)) λx _ hx=> ?_;simp only[av,rF,hx,hw];omega) (λd hd=>by omega)
instance aVv (x0:Nat->Int)(x1:Nat->Int)(x2:Nat->Int)(x3:Nat->Int)(x4:Bool):bq (rL x0 x1 x2 x3 x4):=by
 unfold rL Pr;refine aF ?_;rw[bE];intro d _;refine ay (aqE _ (by simp)) λd _ hd=> ?_;rw[bE];intro d1 _;refine ay (aqG _ (by simp)) λd _ hd=> ?_;simp only[av]
instance a2p (x0:Int):bq (FD x0):=by
 unfold FD aa7;exact aF (by simp only[bN])
theorem aMD (x:Int):FD x=some (decide (0<=x)&&decide (x<24)):=by
 simp only[FD,aa7,ck,cF];by_cases h0:0<=x<;>simp[h0]
instance aUl (x0:Int)(x1:Bool):bq (ze x0 x1):=by
 unfold ze MV;exact aF (by simp only[bN])
theorem axO:∀(d:nu.B) (hd:0<=d.1.2.2.2/\d.1.2.2.2<=d.1.2.2.1/\d.1.2.2.1<=1999/\d.1.2.2.1=((d.1.2.1.1:Nat):Int)),Ok (Pu d) (λx:Bp=>True):=
 bP (λd:nu.B=>ws (d.1.2.2.1-d.1.2.2.2)) (λd hd=>by
  have hw:wI (d.1.2.2.2+1)=d.1.2.2.2+1:=bo;unfold Ps;simp only[bN,aMD,dL];simp only[nf,oL,uO,hw];repeat' (first|exact True.intro|omega|(intro _)|(apply And.intro))) (λd hd=>by omega)
theorem BL (x0:Nat->Int)(x1:Nat->Int)(x2:Int)(x3:Nat)(x4:Bool)(x5:Nat->Int)(w0:Bool)(h:x3<=1999):bq (dU x0 x1 x2 x3 x4 x5 w0):=by
 unfold dU Yl;refine aF ?_;rw[bE];intro d1 _;rw[aN,bH];refine⟨rfl,?_⟩;refine ay (axO _ (hdN x3 h)) λd _ hd=> ?_;rw[bE];intro d2 _;simp only[av]
def BM (x0 x1 x2 x3:Int)(j:Nat):Int:=if j=0 then x0 else if j=1 then x1 else if j=2 then x2 else x3
def sqW (f g:Nat->Int)(j:Nat)(x:Int):Prop:=(-1073741840<=x/\x<=1073741840)/\okW (f j) (g j)/\vW (f j) (g j)=x*x
theorem af6 {x:Int}(h: -1073741840<=x/\x<=1073741840):0<=x*x/\x*x<=1152921538966585600:=by
 have key:∀u:Int,0<=u->u<=1073741840->0<=u*u/\u*u<=1152921538966585600:=λu u0 u1=>by
  refine⟨JO u0 u0,?_⟩;have:=OF u1 u1 u0 (by omega);omega
 rcases ayp 0 x with hx|hx
 .exact key x hx h.2
 .have:=key (-x) (by omega) (by omega);rwa [Int.neg_mul_neg] at this
theorem aiW {x:Int}{f g:Nat->Int}{n:Nat}{A:Type}{δ:Type}{Q:δ->Prop}{no1:Pg δ}{k:amg->Pg δ}
  (h1:(x< -1073741840∨1073741840<x)->PQ no1 Q)(h2:(-1073741840<=x/\x<=1073741840)->∀h l,fY x x=some (h,l)->okW h l->vW h l=x*x->PQ (k (h,l)) Q):
  PQ (opt (uf x) λaj=>ae (decide (aj>1073741840)) no1 (opt (fY x x) k)) Q:=by
 rw[bE];intro d hd;rw[aK];refine⟨λh=> ?_,λh=> ?_⟩
 .refine h1 ?_;have h:=eK h
  have:¬(-1073741840<=x/\x<=1073741840):=λc=>by
   have e:PQ (DW x) (λy:aeI=>(y:Int)<=1073741840):=by
    by_cases c':x<0
    .have w:wI (0-x)=0-x:=fS;simp only[DW,aK,av,QF,mf,Wy,w];exact⟨λ_=>by omega,λ_=>⟨λ_=>by omega,λ_=>⟨λ_=>(show(0-x:Int)<=1073741840 by omega),λ_=>by omega⟩⟩⟩
    .simp only[DW,aK,av,QF,mf,Wy];exact⟨λ_=>by omega,λ_=>⟨λ_=>by omega,λ_=>⟨λ_=>by omega,λ_=>(show x<=1073741840 by omega)⟩⟩⟩
   have h3:(d:Int)<=1073741840:=Ok.post e hd;exact absurd (show(1073741840:Int)<d from h) (Int.not_lt.mpr h3)
  omega
 .have h:=pP h;have h':¬((1073741840:Int)<d):=h;have hx:=a09 hd (Int.not_lt.mp h');obtain⟨a,b,e,o,v⟩:=Ec x x (by omega) (by omega) (by omega) (by omega);rw[e,dL];exact h2 hx a b e o v
theorem aS3 (x0 x1 x2 x3:Int)(d:mV.B)(hd:∃n:Nat,n<=4/\d.1.1=n/\d.1.2.2=(n:Int)/\d.1.2.1=(x0,x1,x2,x3)/\∀j,j<n->sqW d.b.1 d.b.2 j (BM x0 x1 x2 x3 j)):
  Ok (TG d) (λx:yF=>match x with
   |.inl _=>∃j,j<4/\(BM x0 x1 x2 x3 j< -1073741840∨1073741840<BM x0 x1 x2 x3 j)
   |.inr e=>e.1.1=4/\∀j,j<4->sqW e.b.1 e.b.2 j (BM x0 x1 x2 x3 j)):=
 aFO (s:=_) (λd:mV.B=>∃n:Nat,n<=4/\d.1.1=n/\d.1.2.2=(n:Int)/\d.1.2.1=(x0,x1,x2,x3)/\∀j,j<n->sqW d.b.1 d.b.2 j (BM x0 x1 x2 x3 j)) (λd:mV.B=>4-d.1.1) (λx:yF=>match x with
   |.inl _=>∃j,j<4/\(BM x0 x1 x2 x3 j< -1073741840∨1073741840<BM x0 x1 x2 x3 j)
   |.inr e=>e.1.1=4/\∀j,j<4->sqW e.b.1 e.b.2 j (BM x0 x1 x2 x3 j)) (λd hd=>by
  obtain⟨⟨c,q,i⟩,q',f,g⟩:=d;obtain⟨n,hn,h1,h2,h3,h4⟩:=hd;simp only at h1 h2 h3 h4;subst h1 h3 h2
  have step:∀(h l:Int),c<4->okW h l->(-1073741840<=BM x0 x1 x2 x3 c/\BM x0 x1 x2 x3 c<=1073741840)->vW h l=BM x0 x1 x2 x3 c*BM x0 x1 x2 x3 c->
    ∀j,j<c+1->sqW (λj=>bif ww j c then h else f j) (λj=>bif ww j c then l else g j) j (BM x0 x1 x2 x3 j):=λh l hc ho hs hv j hj=>by
   unfold sqW;by_cases e:j=c
   .subst e;simp only[aN,bD];exact⟨hs,ho,hv⟩
   .have e':ww j c=false:=by cases hb:ww j c with|false=>rfl|true=>exact absurd (oK hb) e
    simp only[e',bK];exact h4 j (by omega)
  have hw:wI ((c:Int)+1)=((c+1:Nat):Int):=by rw[fS (by omega) (by omega)];omega
  have hb:wd ((c+1)*16) 140737488355328=true:=by rw[eV];omega
  unfold TF;simp only[hw,hb]
  have fin:∀(h l:Int),c<4->okW h l->(-1073741840<=BM x0 x1 x2 x3 c/\BM x0 x1 x2 x3 c<=1073741840)->vW h l=BM x0 x1 x2 x3 c*BM x0 x1 x2 x3 c->
    (∃n:Nat,n<=4/\c+1=n/\((c+1:Nat):Int)=(n:Int)/\True/\∀j,j<n->sqW (λj=>bif ww j c then h else f j) (λj=>bif ww j c then l else g j) j (BM x0 x1 x2 x3 j))/\4-(c+1)<4-c:=λh l hc ho hs hv=>
   ⟨⟨c+1,by omega,rfl,rfl,trivial,step h l hc ho hs hv⟩,by omega⟩
  rcases(by omega:c=0∨c=1∨c=2∨c=3∨c=4) with rfl|rfl|rfl|rfl|rfl
  .rw[show decide (((0:Nat):Int)<4)=true from rfl,show bk ((0:Nat):Int) 4=true from rfl,show(((0:Nat):Int)==3)=false from rfl,show(((0:Nat):Int)==2)=false from rfl,show(((0:Nat):Int)==1)=false from rfl];simp only[aK,LL,yc,Eh,OJ,Cd,AK];refine aiW (A:=Unit) (n:=0) (f:=f) (g:=g) (λh=> ?_) (λhs h l _ ho hv=> ?_)
   .simp only[av,mT];exact⟨0,by omega,h⟩
   .rw[bH];refine⟨rfl,?_⟩;simp only[av,rF];exact fin h l (by omega) ho hs hv
  .rw[show decide (((1:Nat):Int)<4)=true from rfl,show bk ((1:Nat):Int) 4=true from rfl,show(((1:Nat):Int)==3)=false from rfl,show(((1:Nat):Int)==2)=false from rfl,show(((1:Nat):Int)==1)=true from rfl];simp only[aK,LL,yc,Eh,OJ,Cd,AK];refine aiW (A:=Unit) (n:=0) (f:=f) (g:=g) (λh=> ?_) (λhs h l _ ho hv=> ?_)
   .simp only[av,mT];exact⟨1,by omega,h⟩
   .rw[bH];refine⟨rfl,?_⟩;simp only[av,rF];exact fin h l (by omega) ho hs hv
  .rw[show decide (((2:Nat):Int)<4)=true from rfl,show bk ((2:Nat):Int) 4=true from rfl,show(((2:Nat):Int)==3)=false from rfl,show(((2:Nat):Int)==2)=true from rfl];simp only[aK,LL,yc,Eh,OJ,Cd,AK];refine aiW (A:=Unit) (n:=0) (f:=f) (g:=g) (λh=> ?_) (λhs h l _ ho hv=> ?_)
   .simp only[av,mT];exact⟨2,by omega,h⟩
   .rw[bH];refine⟨rfl,?_⟩;simp only[av,rF];exact fin h l (by omega) ho hs hv
  .rw[show decide (((3:Nat):Int)<4)=true from rfl,show bk ((3:Nat):Int) 4=true from rfl,show(((3:Nat):Int)==3)=true from rfl];simp only[aK,LL,yc,Eh,OJ,Cd,AK];refine aiW (A:=Unit) (n:=0) (f:=f) (g:=g) (λh=> ?_) (λhs h l _ ho hv=> ?_)
   .simp only[av,mT];exact⟨3,by omega,h⟩
   .rw[bH];refine⟨rfl,?_⟩;simp only[av,rF];exact fin h l (by omega) ho hs hv
  .rw[show decide (((4:Nat):Int)<4)=false from rfl];simp only[aK,av,yc,Eh,OJ,AK,mT];exact h4) 2000 d hd (by obtain⟨n,hn,h1,_⟩:=hd;omega)
theorem aVw (n:Nat)(hn:n<=100)(f g:Nat->Int)(w:Bool)(B:Int)(hB:0<=B)(hB2:B<=1329227995784915872903807060280344576)(h:∀j,j<n->okW (f j) (g j)/\ -B<=vW (f j) (g j)/\vW (f j) (g j)<=B):
  ∃a b,kU n f g w=some ((a,b),true)/\okW a b/\vW a b=DS (λj=>vW (f j) (g j)) n:=by
 have key:∃x:Ig,Ih (((n,w),wl n,0),(f,g),0,0)=some x/\(match x with
   |.inl _=>False
   |.inr e=>okW e.b.1 e.b.2/\vW e.b.1 e.b.2=DS (λj=>vW (f j) (g j)) n):=by
  unfold Ih
  refine aaA (s:=DX K8) (λt d=>∃(i:Nat) (a b:Int),i+t=n/\okW a b/\vW a b=DS (λj=>vW (f j) (g j)) i/\d=(((n,w),wl n,wl i),(f,g),a,b)) _ (λt d=> ?_) 2000 n _ (by omega)
   ⟨0,0,0,by omega,⟨by omega,by omega,by omega,by omega⟩,rfl,rfl⟩
  rintro ⟨i,a,b,hi,ho,hv,rfl⟩
  rcases acb t with t0|t0
  .have e:i=n:=by omega
   subst e;simp only[DX,cF,ck,cT,fI,axH (eT i),bK];exact⟨_,rfl,ho,hv⟩
  .obtain⟨o1,b1,b2⟩:=h i (by omega);have bnd:=apj (λj=>vW (f j) (g j)) B hB i (λj hj=>(h j (by omega)).2);obtain⟨a2,b2',q,e,o2,c,v⟩:=azR a b (f i) (g i) ho o1
   have hmul:(i:Int)*B<=100*1329227995784915872903807060280344576:=by
    have:=OF (show(i:Int)<=100 by omega) hB2 hB (by omega);exact this
   have hq:q=true:=by rw[c,hv];omega
   subst hq;have v:=v rfl;have qq:ws (wl i)=i:=rfl;simp only[DX,cF,ck,cT,fI,wI,axG hi t0,axI (show i<n by omega),bD,qq,bR,e,LO,bK,axJ (show i<9000000000000000000 by omega)];exact⟨_,rfl,t-1,by omega,i+1,a2,b2',by omega,o2,by rw[v,hv];rfl,rfl⟩
 obtain⟨x,hx,hp⟩:=key;simp only[kU,aaI,cF,ck,cT,fI,eL];rw[aN,bD,hx,bR];cases x with
 |inl e=>exact hp.elim
 |inr e=>exact⟨e.b.1,e.b.2,rfl,hp.1,hp.2⟩
theorem aZL (x0 x1 x2 x3:Int):Ok (Ah x0 x1 x2 x3) (λb:Bool=>b=true↔((∀j,j<4-> -1073741840<=BM x0 x1 x2 x3 j/\BM x0 x1 x2 x3 j<=1073741840)/\ -4294967296<=x0*x0+x1*x1+x2*x2+x3*x3-1152921504606846976/\x0*x0+x1*x1+x2*x2+x3*x3-1152921504606846976<=4294967296)):=by
 unfold Ah ac3;show PQ _ _;rw[bH];refine⟨rfl,ay (aS3 x0 x1 x2 x3 _ ⟨0,by omega,rfl,rfl,rfl,λj hj=>absurd hj (by omega)⟩) λx _ hx=> ?_⟩;rw[qW];constructor
 .rintro a rfl
  rw[av];obtain⟨j,hj,hs⟩:=hx;exact⟨λh=>(by cases h),λh=>by have:=h.1 j hj;omega⟩
 .rintro e rfl
  obtain⟨h1,h2⟩:=hx;rw[aN,bH];refine⟨rfl,?_⟩;have sm:∀j,j<4-> -1073741840<=BM x0 x1 x2 x3 j/\BM x0 x1 x2 x3 j<=1073741840:=λj hj=>(h2 j hj).1
  obtain⟨a,b,ea,oa,va⟩:=aVw 4 (by omega) e.b.1 e.b.2 true 1152921538966585600 (by omega) (by omega) (λj hj=>by
   obtain⟨s1,s2,s3⟩:=h2 j hj;have:=af6 s1;exact⟨s2,by rw[s3];omega,by rw[s3];omega⟩)
  rw[h1,ea,dL];have s0:=af6 (sm 0 (by omega));have s1:=af6 (sm 1 (by omega));have s2:=af6 (sm 2 (by omega));have s3:=af6 (sm 3 (by omega))
  have vs:vW a b=x0*x0+x1*x1+x2*x2+x3*x3:=by
   rw[va];simp only[DS,(h2 0 (by omega)).2.2,(h2 1 (by omega)).2.2,(h2 2 (by omega)).2.2,(h2 3 (by omega)).2.2];simp only[BM,lZ,if_neg (show ¬(1:Nat)=0 by omega),if_neg (show ¬(2:Nat)=0 by omega),if_neg (show ¬(2:Nat)=1 by omega),if_neg (show ¬(3:Nat)=0 by omega),if_neg (show ¬(3:Nat)=1 by omega),if_neg (show ¬(3:Nat)=2 by omega)];omega
  have t0:BM x0 x1 x2 x3 0=x0:=rfl;have t1:BM x0 x1 x2 x3 1=x1:=rfl;have t2:BM x0 x1 x2 x3 2=x2:=rfl;have t3:BM x0 x1 x2 x3 3=x3:=rfl;rw[t0] at s0;rw[t1] at s1;rw[t2] at s2;rw[t3] at s3;generalize hS:x0*x0+x1*x1+x2*x2+x3*x3=S at*
  have r:=wide_round a b 0 (by omega) oa;rw[aJ7,vs,show wl 0=0 from rfl,if_pos (by omega)] at r;rw[r,dL];have hw:wI (S-1152921504606846976)=S-1152921504606846976:=fS;simp only[hw,aK,av,OJ,LL,Eh,Cd,mf,Wy,QF];exact⟨λk=>⟨λm=>⟨sm,k,m⟩,λc=>c.2.2⟩,λk=>⟨λh=>(by cases h),λc=>absurd c.2.1 k⟩⟩
instance a5o (x0 x1 x2 x3:Int):bq (Ah x0 x1 x2 x3):=(aZL x0 x1 x2 x3).tot
instance a0u (x0:Nat->Int)(x1:Bool):bq (cw x0 x1):=by
 unfold cw Q8;exact aF (by simp only[bN])
instance aVx (x0:Int)(x1:Bool):bq (mW x0 x1):=by
 unfold mW GD;exact aF (by simp only[bN])
instance a21 (x0:Int)(x1:Int)(x2:Int)(x3:Bool):bq (X6 x0 x1 x2 x3):=by
 unfold X6 ahQ;exact aF (by simp only[bN])
instance aZM (x0:Nat->Int)(x1:Int)(x2:Int)(x3:Int)(x4:Int)(x5:Int)(x6:Int)(x7:Int)(x8:Int)(x9:Bool):bq (w7 x0 x1 x2 x3 x4 x5 x6 x7 x8 x9):=by
 unfold w7 MR;exact aF (by simp only[bN])
instance a0v (x0:Nat->Int)(x1:Int)(x2:Int)(x3:Int)(x4:Int)(x5:Int)(x6:Int)(x7:Int)(x8:Int)(x9:Bool):bq (Aj x0 x1 x2 x3 x4 x5 x6 x7 x8 x9):=by
 unfold Aj Ra;try dsimp only
 exact aF (by simp only[bN])
theorem aHe:∀(d:qi.B) (hd:0<=d.1.2/\d.1.2<=3),Ok (adm d) (λx:D4=>True):=
 bP (λd:qi.B=>ws (3-d.1.2)) (λd hd=>by
  have hw:wI (d.1.2+1)=d.1.2+1:=bo;unfold Rc;simp only[bN];simp only[nf,uO,hw];repeat' (first|exact True.intro|omega|(intro _)|(apply And.intro))) (λd hd=>by omega)
instance a2q (x0:Int)(x1:Int)(x2:Int)(x3:Bool):bq (RY x0 x1 x2 x3):=by
 unfold RY aa5;refine aF ?_;rw[bE];intro d _;rw[aK];refine⟨λ_=>by simp only[bN],λ_=> ?_⟩;rw[bE];intro d1 _;refine ay (aHe _ (by simp)) λd _ hd=> ?_;simp only[bN]
theorem aDB:∀(d:qM.B) (hd:0<=d.1.2/\d.1.2<=24),Ok (Yp d) (λx:FF=>True):=
 bP (λd:qM.B=>ws (24-d.1.2)) (λd hd=>by
  have hw:wI (d.1.2+1)=d.1.2+1:=bo;unfold Yo;simp only[bN];simp only[nf,uO,hw];repeat' (first|exact True.intro|omega|(intro _)|(apply And.intro))) (λd hd=>by omega)
instance a1a (x0:Nat->Int)(x1:Int)(x2:Bool):bq (MX x0 x1 x2):=by
 unfold MX ahU;refine aF ?_;rw[bE];intro d1 _;refine ay (aDB _ (by simp)) λd _ hd=> ?_;simp only[av]
theorem auV:∀(d:mn.B) (hd:0<=d.1.2/\d.1.2<=24),Ok (EH d) (λx:zf=>True):=
 bP (λd:mn.B=>ws (24-d.1.2)) (λd hd=>by
  have hw:wI (d.1.2+1)=d.1.2+1:=bo;unfold MY;simp only[bN];simp only[nf,uO,hw];repeat' (first|exact True.intro|omega|(intro _)|(apply And.intro))) (λd hd=>by omega)
theorem auW (a b:Int):∀(d:mo.B) (hd:0<=d.1.2.2.2.2/\d.1.2.2.2.2<=d.1.2.2.2.1/\d.1.2.2.2.1<=1999/\d.1.1=a/\d.1.2.2.1=b/\(d.1.2.1:Int)=d.1.2.2.2.2/\d.1.2.2.2.1=a+1),Ok (EI d) (λx:zh=>x.1.1=a/\x.1.2.2.1=b/\(x.1.2.1:Int)=a+1):=
 bP (λd:mo.B=>ws (d.1.2.2.2.1-d.1.2.2.2.2)) (λd hd=>by
  have hw:wI (d.1.2.2.2.2+1)=d.1.2.2.2.2+1:=bo;unfold MZ;simp only[bN];simp only[nf,uO,hw];repeat' (first|exact True.intro|omega|(intro _)|(apply And.intro))) (λd hd=>by omega)
theorem auX:∀(d:kg.B) (hd:0<=d.1/\d.1<=24),Ok (M0 d) (λx:ug=>True):=
 bP (λd:kg.B=>ws (24-d.1)) (λd hd=>by
  unfold EJ;try dsimp only
  rw[aK];refine⟨λh=> ?_,λ_=>by simp only[av,mT]⟩;have h:=eK h;have hw:wI (d.1+1)=d.1+1:=bo;rw[bH,hw];refine⟨rfl,ay (auW d.1 d.1 _ (by dsimp only;omega)) λx _ hx=> ?_⟩;obtain⟨a1,a2,a3⟩:=hx;have hn:x.1.2.1=ws (d.1+1):=by omega
  have td:=λa b c=>N5 (ws (d.1+1)) (by omega) a b c false true
  simp only[a1,a2,hw,hn];simp only[bN];simp only[nf,uO];repeat' (first|exact True.intro|omega|(intro _)|(apply And.intro))) (λd hd=>by omega)
instance aV7 (x0:Nat->Int)(x1:Nat->Int)(x2:Nat->Int)(x3:Int)(x4:Bool):bq (uC x0 x1 x2 x3 x4):=by
 unfold uC Jc;try dsimp only
 refine aF ?_;rw[bE];intro d1 _;refine ay (auV _ (by simp)) λd _ hd=> ?_;rw[bE];intro d2 _;refine ay (auX _ (by simp)) λd _ hd=> ?_;simp only[av]
instance aNn (x0:Nat->Int)(x1:Nat->Int)(x2:Nat->Int)(x3:Int)(x4:Bool):bq (rp x0 x1 x2 x3 x4):=by
 unfold rp xM;exact aF (by simp only[bN])
instance a2r (x0:Int)(x1:Int)(x2:Int)(x3:Int):bq (RZ x0 x1 x2 x3):=by
 unfold RZ anC;exact aF (by simp only[bN])
theorem apn (a b:Int):∀(d:iu.B) (hd:0<=d.1.2.2.2.2/\d.1.2.2.2.2<=d.1.2.2.2.1/\d.1.2.2.2.1<=1999/\d.1.1=a/\d.1.2.2.1=b/\d.1.2.2.2.1=a/\0<=a/\a<24),Ok (HC d) (λx:qD=>x.1.2.2.1=b):=
 bP (λd:iu.B=>ws (d.1.2.2.2.1-d.1.2.2.2.2)) (λd hd=>by
  have hw:wI (d.1.2.2.2.2+1)=d.1.2.2.2.2+1:=bo;unfold AL;simp only[bN];simp only[nf,uO,hw];repeat' (first|exact True.intro|omega|(intro _)|(apply And.intro))) (λd hd=>by omega)
theorem apo:∀(d:iv.B) (hd:0<=d.1/\d.1<=24),Ok (HD d) (λx:qE=>True):=
 bP (λd:iv.B=>ws (24-d.1)) (λd hd=>by
  have hw:wI (d.1+1)=d.1+1:=bo;unfold AM;simp only[bN];simp only[nf,uO,hw];repeat' (first|exact True.intro|omega|(intro _)|(apply And.intro))) (λd hd=>by omega)
theorem apq:∀(d:iw.B) (hd:0<=d.1/\d.1<=24),Ok (HE d) (λx:qF=>True):=
 bP (λd:iw.B=>ws (24-d.1)) (λd hd=>by
  unfold AN;try dsimp only
  rw[aK];refine⟨λh=> ?_,λ_=>by simp only[av,mT]⟩;have h:=eK h;have hw:wI (d.1+1)=d.1+1:=bo;iterate 4 (rw[bH];refine⟨by simp only[nf,uO,hw];omega,?_⟩)
  iterate 2 (rw[bE];intro _ _)
  iterate 5 (rw[bH];refine⟨by simp only[nf,uO,hw];omega,?_⟩)
  rw[bE];intro _ _;iterate 4 (rw[bH];refine⟨by simp only[nf,uO,hw];omega,?_⟩)
  refine ay (apn d.1 d.1 _ (by dsimp only;omega)) λx _ hx=> ?_;simp only[av,rF,hx,hw];omega) (λd hd=>by omega)
theorem auY:∀(d:kh.B) (hd:0<=d.1.2/\d.1.2<=24),Ok (M3 d) (λx:ui=>True):=
 bP (λd:kh.B=>ws (24-d.1.2)) (λd hd=>by
  have hw:wI (d.1.2+1)=d.1.2+1:=bo;unfold EL;simp only[bN];simp only[nf,uO,hw];repeat' (first|exact True.intro|omega|(intro _)|(apply And.intro))) (λd hd=>by omega)
instance aV8 (x0:Nat->Int)(x1:Int)(x2:Bool):bq (Dy x0 x1 x2):=by
 unfold Dy Jd;refine aF ?_;refine ay (auY _ (by simp)) λd _ hd=> ?_;simp only[bN]
instance aUm (x0:Nat->Int)(x1:Nat->Int)(x2:Nat->Int)(x3:Int)(x4:Bool):bq (zi x0 x1 x2 x3 x4):=by
 unfold zi EK;refine aF ?_;rw[bE];intro d1 _;refine ay (apq _ (by simp)) λd _ hd=> ?_;refine ay (apo _ (by simp)) λd _ hd=> ?_;simp only[bN]
instance a3S (x0 x1 x2:Int):bq (Bq x0 x1 x2):=by
 have h1:=ri x0;have h2:=ri x1;obtain⟨a,b,e,_,_⟩:=Ec (sat x0) (sat x0) (by omega) (by omega) (by omega) (by omega);unfold Bq Yq;refine aF ?_;rw[uU,dL,uU,dL,aK];refine⟨λ_=>by rw[av];trivial,λc1=> ?_⟩;rw[aK];refine⟨λ_=>by rw[av];trivial,λc2=> ?_⟩;rw[aK];refine⟨λ_=>by rw[av];trivial,λc3=> ?_⟩;have c1:=pP c1;have c2:=pP c2
 have sq:0<=x2*x2/\x2*x2<=1000000:=by
  refine⟨JO (by omega) (by omega),?_⟩;have:=OF (show x2<=1000 by omega) (show x2<=1000 by omega) (by omega) (by omega);omega
 have w1:wI (x2*x2)=x2*x2:=fS;have w2:wI (x2*x2*65536)=x2*x2*65536:=fS;obtain⟨a2,b2,e2,_,_⟩:=Ec (x2*x2*65536) (sat x1) (by omega) (by omega) (by omega) (by omega);rw[e,dL,w1,w2,e2,dL];simp only[bN]
theorem aDC (p:Nat×Bool)(a b:Int):∀(d:oB.B) (hd:0<=d.1.2.2.2/\d.1.2.2.2<=24/\d.1.1=p/\d.1.2.1=a/\d.1.2.2.1=b),Ok (Yr d) (λx:Br=>x.1.1=p/\x.1.2.1=a/\x.1.2.2.1=b):=
 bP (λd:oB.B=>ws (24-d.1.2.2.2)) (λd hd=>by
  have hw:wI (d.1.2.2.2+1)=d.1.2.2.2+1:=bo;unfold M4;simp only[bN];simp only[nf,uO,hw];repeat' (first|exact True.intro|exact hd.2.2.1|exact hd.2.2.2.1|exact hd.2.2.2.2|omega|(intro _)|(apply And.intro))) (λd hd=>by omega)
theorem aDD:∀(d:oC.B) (hd:0<=d.1.2.2/\d.1.2.2<=d.1.2.1/\d.1.2.1<=1999/\d.1.2.1=((d.1.1.1:Nat):Int)),Ok (Ys d) (λx:Bs=>True):=
 bP (λd:oC.B=>ws (d.1.2.1-d.1.2.2)) (λd hd=>by
  unfold M5;try dsimp only
  rw[aK];refine⟨λh=> ?_,λ_=>by simp only[av,mT]⟩;have h:=eK h;have hw:wI (d.1.2.2+1)=d.1.2.2+1:=bo;rw[bH,aN,bH];refine⟨by simp only[cx];omega,rfl,?_⟩;refine ay (aDC d.1.1 d.1.2.1 d.1.2.2 _ (by simp)) λx _ hx=> ?_;obtain⟨a1,a2,a3⟩:=hx;simp only[bN,a1,a2,a3,hw];omega) (λd hd=>by omega)
theorem aME (x:GG.B)(h:x.1.2.1<=1999):bq (M6 x):=by
 unfold M6 VR;refine aF ?_;rw[aK,aN,bH];refine⟨λ_=>by simp only[bN],λ_=>⟨rfl,?_⟩⟩;refine ay (aDD _ (hdN x.1.2.1 h)) λd _ hd=> ?_;simp only[av]
instance a2s (x0:Nat->Int)(x1:Nat->Int)(x2:Nat->Int)(x3:Nat->Int)(x4:Int)(x5:Int)(x6:Int)(x7:Bool):bq (R4 x0 x1 x2 x3 x4 x5 x6 x7):=by
 have ta:=λ(d:Nat->Int) a b=>aME ((d,1,true),a,b) (by show 1<=1999;omega)
 unfold R4 abm;refine aF ?_;simp only[bN]
theorem aHf (n:Int):∀(d:qk.B) (hd:0<=d.1.2.2.2/\d.1.2.2.2<=d.1.2.2.1/\d.1.2.2.1<=1999/\d.1.2.2.1=((d.1.2.1.1:Nat):Int)/\(d.1.1:Int)=d.1.2.2.2/\d.1.2.2.1=n),Ok (adp d) (λx:D5=>(x.1.1:Int)=n):=
 bP (λd:qk.B=>ws (d.1.2.2.1-d.1.2.2.2)) (λd hd=>by
  have hw:wI (d.1.2.2.2+1)=d.1.2.2.2+1:=bo;unfold Re;simp only[bN];simp only[nf,uO,hw];repeat' (first|exact True.intro|omega|(intro _)|(apply And.intro))) (λd hd=>by omega)
theorem aMF (x:Lh.B)(h:x.1.2.2.1<=1999):Ok (R6 x) (λr:R5=>r.1.2.2=x.1.2.2.1):=by
 unfold R6 abn;show PQ _ _;rw[aN,bH,bH];refine⟨rfl,rfl,?_⟩;refine ay (aHf ((x.1.2.2.1:Nat):Int) _ ?_) λd _ hd=> ?_
 .dsimp only;simp only[dQ];exact⟨by omega,by omega,by omega,trivial,rfl,trivial⟩
 .rw[av];exact Int.ofNat.inj hd
theorem azW:∀(d:o8.B) (hd:0<=d.1.2.2.2.2/\d.1.2.2.2.2<=d.1.2.2.2.1/\d.1.2.2.2.1<=1999/\d.1.2.2.2.1=((d.1.2.2.1.1:Nat):Int)),Ok (T9 d) (λx:Dz=>True):=
 bP (λd:o8.B=>ws (d.1.2.2.2.1-d.1.2.2.2.2)) (λd hd=>by
  have hw:wI (d.1.2.2.2.2+1)=d.1.2.2.2.2+1:=bo;unfold T8;simp only[bN];simp only[nf,oL,uO,hw];repeat' (first|exact True.intro|omega|(intro _)|(apply And.intro))) (λd hd=>by omega)
theorem as8 (x0:Nat)(x1:Nat->Bool)(x2:Nat->Int)(x3:Nat->Int)(w0:Bool)(h:x0<=1999):bq (Ak x0 x1 x2 x3 w0):=by
 unfold Ak ads;refine aF ?_;rw[aN,bH];refine⟨rfl,?_⟩;refine ay (azW _ (hdN x0 h)) λd _ hd=> ?_;simp only[bN]
instance aVy:bq cP:=by
 unfold cP Py;exact aF (by simp only[bN])
theorem azX:∀(d:mZ.B) (hd:0<=d.1.2.2.2.2/\d.1.2.2.2.2<=d.1.2.2.2.1/\d.1.2.2.2.1<=1999/\d.1.2.2.2.1=((d.1.2.2.1.1:Nat):Int)/\(d.1.1:Int)<=d.1.2.2.2.2/\(d.1.2.1:Int)<=d.1.2.2.2.2/\d.1.2.2.2.1<=1900),Ok (T' d) (λx:yJ=>x.1.1<=1900/\x.1.2.1<=1900):=
 bP (λd:mZ.B=>ws (d.1.2.2.2.1-d.1.2.2.2.2)) (λd hd=>by
  have hw:wI (d.1.2.2.2.2+1)=d.1.2.2.2.2+1:=bo;unfold Jg;simp only[bN];simp only[nf,oL,uO,hw];repeat' (first|exact True.intro|omega|(intro _)|(apply And.intro))) (λd hd=>by omega)
theorem aIE (x0:Nat)(x1:Bool)(x2:Nat->Int)(x3:Nat->Int)(x4:Nat->Int)(x5:Nat->Int)(x6:Nat->Int)(x7:Nat->Int)(x8:Nat->Int)(x9:Nat->Int)(fG:Nat->Int)(fD:Nat->Int)(w0:Bool)(h:x0<=1900):bq (Io x0 x1 x2 x3 x4 x5 x6 x7 x8 x9 fG fD w0):=by
 unfold Io Rg;try dsimp only
 refine aF ?_;rw[bE];intro d1 _;rw[aN,bH,bH];refine⟨rfl,rfl,?_⟩;refine ay (azX _ ?_) λd _ hd=> ?_
 .try dsimp only
  simp only[dQ];exact⟨by omega,by omega,by omega,trivial,by omega,by omega,by omega⟩
 .have t1:=λa b c e g=>aiV d.1.1 a b c e g hd.1
  have t2:=λa b c e g=>aiV d.1.2.1 a b c e g hd.2
  simp only[bN,aN,LL,Eh]
instance a3T (x0 x1:Nat->Int)(x2:Int)(x4:Bool)(x5:Nat->Int)(w0:Bool):bq (dU x0 x1 x2 4 x4 x5 w0):=BL _ _ _ _ _ _ _ (by omega)
instance a3U (x0 x1:Nat->Int)(x2:Int)(x4:Bool)(x5:Nat->Int)(w0:Bool):bq (dU x0 x1 x2 3 x4 x5 w0):=BL _ _ _ _ _ _ _ (by omega)
instance a3V (x0 x1:Nat->Int)(x2:Int)(x4:Bool)(x5:Nat->Int)(w0:Bool):bq (dU x0 x1 x2 2 x4 x5 w0):=BL _ _ _ _ _ _ _ (by omega)
instance a3W (x0 x1:Nat->Int)(x2:Int)(x4:Bool)(x5:Nat->Int)(w0:Bool):bq (dU x0 x1 x2 1 x4 x5 w0):=BL _ _ _ _ _ _ _ (by omega)
instance a1b (x0:Nat->Int)(x1:Nat->Int)(x2:Nat->Int)(x3:Int)(x4:Int)(x5:Bool):bq (Na x0 x1 x2 x3 x4 x5):=by
 unfold Na VV;exact aF (by simp only[bN])
theorem axP:∀(d:nw.B) (hd:0<=d.1.2.2.2.2/\d.1.2.2.2.2<=d.1.2.2.2.1/\d.1.2.2.2.1<=1999/\d.1.2.2.2.1=((d.1.2.2.1.1:Nat):Int)/\(d.1.2.1:Int)=d.1.2.2.2.2/\0<=d.1.1/\d.1.1+d.1.2.2.2.1<=24),Ok (GH d) (λx:Bt=>True):=
 bP (λd:nw.B=>ws (d.1.2.2.2.1-d.1.2.2.2.2)) (λd hd=>by
  have hw:wI (d.1.2.2.2.2+1)=d.1.2.2.2.2+1:=bo;unfold Pz;try dsimp only
  have h1:wI (d.1.1+d.1.2.2.2.2)=d.1.1+d.1.2.2.2.2:=fS;simp only[h1];simp only[bN];simp only[nf,oL,uO,hw];repeat' (first|exact True.intro|omega|(intro _)|(apply And.intro))) (λd hd=>by omega)
theorem ZO (x0:Nat->Int)(x1:Int)(x2:Nat)(x3:Bool)(x4:Nat->Int)(w0:Bool)(h0:0<=x1)(h1:x1+(x2:Int)<=24):bq (kG x0 x1 x2 x3 x4 w0):=by
 unfold kG Nf;refine aF ?_;rw[bE];intro d1 _;rw[aN,bH,bH];refine⟨rfl,rfl,?_⟩;refine ay (axP _ ?_) λd _ hd=> ?_
 .dsimp only;simp only[dQ];exact⟨by omega,by omega,by omega,trivial,rfl,h0,h1⟩
 .simp only[bN]
def akM (a:Int)(n:Nat)(f:Nat->Int):Nat->Int:=λj=>bif ww j (n+1) then a else bif ww j n then a else f j
theorem sum_add (a b:Int)(n:Nat)(hn:n<=1000)(f g:Nat->Int):mq a b n n f g=some ((n+2,n+2),akM a n f,akM b n g):=by
 have hb:wd ((n+2)*8) 140737488355328=true:=by rw[eV];omega
 simp only[mq,YA,ck,cF,fI,hb,bD];rfl
theorem aVz (a b:Int)(f g:Nat->Int):mq a b 0 0 f g=some ((2,2),akM a 0 f,akM b 0 g):=sum_add a b 0 (by omega) f g
theorem aVA (a b:Int)(f g:Nat->Int):mq a b 2 2 f g=some ((4,4),akM a 2 f,akM b 2 g):=sum_add a b 2 (by omega) f g
theorem aVB (a b:Int)(f g:Nat->Int):mq a b 4 4 f g=some ((6,6),akM a 4 f,akM b 4 g):=sum_add a b 4 (by omega) f g
theorem aVC (a b:Int)(f g:Nat->Int):mq a b 6 6 f g=some ((8,8),akM a 6 f,akM b 6 g):=sum_add a b 6 (by omega) f g
theorem aVD (a b:Int)(f g:Nat->Int):mq a b 8 8 f g=some ((10,10),akM a 8 f,akM b 8 g):=sum_add a b 8 (by omega) f g
instance a5p (fX:Bool)(f g:Nat->Int)(w w':Bool):bq (bx 30 6 6 fX f g w w'):=N5 6 (by omega) fX f g w w'
instance a5q (fX:Bool)(f g:Nat->Int)(w w':Bool):bq (bx 30 8 8 fX f g w w'):=N5 8 (by omega) fX f g w w'
instance a4M (fX:Bool)(f g:Nat->Int)(w w':Bool):bq (bx 30 10 10 fX f g w w'):=N5 10 (by omega) fX f g w w'
instance a0w (x0:Int)(x1:Int)(x2:Int)(x3:Int)(x4:Int)(x5:Int)(x6:Int)(x7:Bool):bq (Al x0 x1 x2 x3 x4 x5 x6 x7):=by
 unfold Al Ri;try dsimp only
 exact aF (by simp only[bN,aVz,aVA,aVB,aVC,aVD,dL,aN,OJ,LL,Eh])
instance a0x (x0:Int)(x1:Int)(x2:Int)(x3:Int)(x4:Int)(x5:Int)(x6:Int)(x7:Int)(x8:Int):bq (vV x0 x1 x2 x3 x4 x5 x6 x7 x8):=by
 unfold vV adE;exact aF (by simp only[bN])
instance a0y (x0:Int)(x1:Int)(x2:Int):bq (fQ x0 x1 x2):=by
 unfold fQ Ir;exact aF (by simp only[bN])
instance a1c (x0:Int)(x1:Int)(x2:Int)(x3:Int)(x4:Int)(x5:Int)(x6:Int)(x7:Int)(x8:Int):bq (GI x0 x1 x2 x3 x4 x5 x6 x7 x8):=by
 unfold GI ah2;exact aF (by simp only[bN])
instance aVE (x0:Int):bq (Bu x0):=by
 unfold Bu GJ;exact aF (by simp only[bN])
instance a1d (x0:Int)(x1:Int)(x2:Int)(x3:Int)(x4:Int)(x5:Int)(x6:Int)(x7:Int)(x8:Int)(x9:Bool):bq (Cr x0 x1 x2 x3 x4 x5 x6 x7 x8 x9):=by
 unfold Cr VW;exact aF (by simp only[bN])
theorem auZ:∀(d:mr.B) (hd:0<=d.1.2.2/\d.1.2.2<=d.1.2.1/\d.1.2.1<=1999/\d.1.2.1=((d.1.1.1:Nat):Int)),Ok (Nj d) (λx:zm=>True):=
 bP (λd:mr.B=>ws (d.1.2.1-d.1.2.2)) (λd hd=>by
  have hw:wI (d.1.2.2+1)=d.1.2.2+1:=bo;unfold Ni;simp only[bN];simp only[nf,oL,uO,hw];repeat' (first|exact True.intro|omega|(intro _)|(apply And.intro))) (λd hd=>by omega)
theorem aDE (x0:Nat)(x1:Nat->Int)(w0:Bool)(h:x0<=1999):bq (qN x0 x1 w0):=by
 unfold qN Uc;refine aF ?_;rw[aN,bH];refine⟨rfl,?_⟩;refine ay (auZ _ (hdN x0 h)) λd _ hd=> ?_;simp only[bN]
instance a4N (x1:Nat->Int)(w0:Bool):bq (qN 1 x1 w0):=aDE _ _ _ (by omega)
theorem wE (x0:Nat->Int)(x1:Int)(x2:Int)(x3:Int)(x4:Int)(x5:Bool)(h0:0<=x1)(h1:x1<24):bq (dV x0 x1 x2 x3 x4 x5):=by
 have hr:bk x1 24=true:=by simp only[cx];omega
 unfold dV PE;exact aF (by simp only[bN,hr,LL,Eh])
instance a1e (x0:Nat->Int)(x2 x3 x4:Int)(x5:Bool):bq (dV x0 4 x2 x3 x4 x5):=wE _ _ _ _ _ _ (by omega) (by omega)
instance a1f (x0:Nat->Int)(x2 x3 x4:Int)(x5:Bool):bq (dV x0 5 x2 x3 x4 x5):=wE _ _ _ _ _ _ (by omega) (by omega)
instance a1g (x0:Nat->Int)(x2 x3 x4:Int)(x5:Bool):bq (dV x0 6 x2 x3 x4 x5):=wE _ _ _ _ _ _ (by omega) (by omega)
instance a1h (x0:Nat->Int)(x2 x3 x4:Int)(x5:Bool):bq (dV x0 7 x2 x3 x4 x5):=wE _ _ _ _ _ _ (by omega) (by omega)
instance a1i (x0:Nat->Int)(x2 x3 x4:Int)(x5:Bool):bq (dV x0 8 x2 x3 x4 x5):=wE _ _ _ _ _ _ (by omega) (by omega)
instance a1j (x0:Nat->Int)(x2 x3 x4:Int)(x5:Bool):bq (dV x0 9 x2 x3 x4 x5):=wE _ _ _ _ _ _ (by omega) (by omega)
instance a5r (fX:Bool)(l:Nat->Int)(w:Bool):bq (cC 4 fX l w):=aMA 4 (by omega) fX l w
instance a3X (fX:Bool)(f:Nat->Int)(w:Bool):bq (fa 2 fX f w):=aHa 2 (by omega) fX f w
instance aVF (x0:Nat->Int)(x1:Int)(x2:Int)(x3:Int)(x4:Int)(x5:Int)(x6:Int)(x7:Int)(x8:Int)(x9:Int)(fG:Bool):bq (wB x0 x1 x2 x3 x4 x5 x6 x7 x8 x9 fG):=by
 unfold wB PG;exact aF (by simp only[bN,rm])
instance aUn (x0:Int)(x1:Int)(x2:Int)(x3:Int)(x4:Int)(x5:Int)(x6:Int)(x7:Int)(x8:Bool):bq (lL x0 x1 x2 x3 x4 x5 x6 x7 x8):=by
 unfold lL EO;exact aF (by simp only[bN,rm])
instance aS4 (x:rN.B):bq (xi x):=by
 unfold xi Cu;exact aF (by simp only[bN,rm])
instance aZN (x:Bv.B):bq (FG x):=by
 unfold FG No;try dsimp only
 exact aF (by simp only[bN,rm])
instance aS5 (x0:Int):bq (xj x0):=by
 unfold xj Cv;exact aF (by simp only[bN,rm])
instance aZO (x0:Int)(x1:Int)(x2:Int)(x3:Int)(x4:Int)(x5:Int)(x6:Int)(x7:Int)(x8:Int)(x9:Int)(fG:Int)(fD:Bool):bq (xm x0 x1 x2 x3 x4 x5 x6 x7 x8 x9 fG fD):=by
 unfold xm Np;exact aF (by simp only[bN,rm])
instance aS6 (x0:Int)(x1:Int)(x2:Int)(x3:Int)(x4:Int)(x5:Int)(x6:Int)(x7:Int)(x8:Int)(x9:Bool):bq (oO x0 x1 x2 x3 x4 x5 x6 x7 x8 x9):=by
 unfold oO Cy;exact aF (by simp only[bN,rm])
instance aZP (x0:Nat->Int)(x1:Int)(x2:Int)(x3:Int)(x4:Bool):bq (Bw x0 x1 x2 x3 x4):=by
 unfold Bw YS;exact aF (by simp only[bN,rm])
instance aQE (x0:Int)(x1:Int)(x2:Int)(x3:Int)(x4:Int)(x5:Int)(x6:Int)(x7:Int)(x8:Int)(x9:Bool):bq (nk x0 x1 x2 x3 x4 x5 x6 x7 x8 x9):=by
 unfold nk AO;exact aF (by simp only[bN,rm])
instance aV9 (x0:Nat->Int)(x1:Int)(x2:Int)(x3:Int)(x4:Int)(x5:Bool):bq (DA x0 x1 x2 x3 x4 x5):=by
 unfold DA Ji;try dsimp only
 exact aF (by simp only[bN,rm])
instance aWa (x0:Int):bq (DB x0):=by
 unfold DB Jj;exact aF (by simp only[bN,rm])
instance a2t (x0:Int)(x1:Int)(x2:Int)(x3:Int)(x4:Int)(x5:Int)(x6:Int)(x7:Int)(x8:Int)(x9:Bool):bq (zo x0 x1 x2 x3 x4 x5 x6 x7 x8 x9):=by
 unfold zo abw;exact aF (by simp only[bN,rm])
instance a2u (x0:Nat->Int)(x1:Int)(x2:Int)(x3:Int)(x4:Int)(x5:Int)(x6:Bool):bq (R8 x0 x1 x2 x3 x4 x5 x6):=by
 unfold R8 aby;try dsimp only
 exact aF (by simp only[bN,rm])
instance a0z (x0:Int)(x1:Int)(x2:Int)(x3:Bool):bq (An x0 x1 x2 x3):=by
 unfold An Rk;exact aF (by simp only[bN,rm])
instance aZQ (x0:Nat->Int)(x1:Int)(x2:Int)(x3:Int)(x4:Int)(x5:Int)(x6:Int)(x7:Int)(x8:Bool):bq (FI x0 x1 x2 x3 x4 x5 x6 x7 x8):=by
 unfold FI Nq;try dsimp only
 exact aF (by simp only[bN,rm])
instance a1k (x0:Int)(x1:Int)(x2:Int)(x3:Int)(x4:Int)(x5:Int)(x6:Int)(x7:Int)(x8:Int)(x9:Bool):bq (Nr x0 x1 x2 x3 x4 x5 x6 x7 x8 x9):=by
 unfold Nr VX;exact aF (by simp only[bN,rm])
instance aWb (x0:Int):bq (DD x0):=by
 unfold DD Jk;exact aF (by simp only[bN,rm])
instance a2v (x0:Int)(x1:Int)(x2:Int)(x3:Int)(x4:Int)(x5:Int)(x6:Int)(x7:Int)(x8:Int)(x9:Bool):bq (FJ x0 x1 x2 x3 x4 x5 x6 x7 x8 x9):=by
 unfold FJ abz;exact aF (by simp only[bN,rm])
instance aWc (x0:Nat->Int)(x1:Bool):bq (oE x0 x1):=by
 unfold oE Uq;exact aF (by simp only[bN,rm])
instance a1l (x0:Int)(x1:Int)(x2:Int)(x3:Nat->Int)(x4:Int)(x5:Int)(x6:Int):bq (vi x0 x1 x2 x3 x4 x5 x6):=by
 unfold vi aie;exact aF (by simp only[bN,rm])
instance aWd (x0:Nat->Int)(x1:Int)(x2:Int)(x3:Int)(x4:Bool):bq (DF x0 x1 x2 x3 x4):=by
 unfold DF Jm;exact aF (by simp only[bN,rm])
instance aWe (x0:Nat->Int)(x1:Int)(x2:Int)(x3:Bool):bq (DG x0 x1 x2 x3):=by
 unfold DG Jo;try dsimp only
 exact aF (by simp only[bN,rm])
instance aVG (x0:Int):bq (Bx x0):=by
 unfold Bx GL;exact aF (by simp only[bN,rm])
instance a1m (x0:Int)(x1:Int)(x2:Int)(x3:Int)(x4:Int)(x5:Int)(x6:Int)(x7:Int)(x8:Int)(x9:Bool):bq (Cz x0 x1 x2 x3 x4 x5 x6 x7 x8 x9):=by
 unfold Cz VY;exact aF (by simp only[bN,rm])
instance aVH (x0:Nat->Int)(x1:Bool):bq (By x0 x1):=by
 unfold By GM;exact aF (by simp only[bN,rm])
instance a1n (x0:Nat->Int)(x1:Int)(x2:Int)(x3:Int)(x4:Int)(x5:Int)(x6:Bool):bq (CA x0 x1 x2 x3 x4 x5 x6):=by
 unfold CA Nw;try dsimp only
 exact aF (by simp only[bN,rm])
instance a1o (x0:Int):bq (qu x0):=by
 unfold qu V1;exact aF (by simp only[bN,rm])
instance aP1 (x0:Int)(x1:Int)(x2:Int)(x3:Bool):bq (mu x0 x1 x2 x3):=by
 unfold mu zp;exact aF (by simp only[bN,rm])
instance aP2 (x0:Int)(x1:Int)(x2:Bool):bq (mw x0 x1 x2):=by
 unfold mw zq;exact aF (by simp only[bN,rm])
instance aNo (x0:Int)(x1:Int)(x2:Int)(x3:Int)(x4:Bool):bq (lD x0 x1 x2 x3 x4):=by
 unfold lD rq;exact aF (by simp only[bN,rm])
instance af7 (x0:Int)(x1:Int)(x2:Int)(x3:Bool)(x4:Int)(x5:Int)(x6:Int):bq (du x0 x1 x2 x3 x4 x5 x6):=by
 unfold du pd;exact aF (by simp only[bN,rm])
instance aNp (x0:Nat->Int)(x1:Nat->Int)(x2:Nat->Bool)(x3:Nat->Int)(x4:Nat->Int)(x5:Nat->Int)(x6:Int):bq (rr x0 x1 x2 x3 x4 x5 x6):=by
 unfold rr Eo;exact aF (by simp only[bN,rm])
instance aHg (x0:Bool)(x1:Int)(x2:Int)(x3:Bool)(x4:Int)(x5:Int)(x6:Nat->Int)(x7:Nat->Int)(x8:Nat->Bool)(x9:Nat->Int)(fG:Nat->Int)(fD:Nat->Int)(Ad:Int):bq (fu x0 x1 x2 x3 x4 x5 x6 x7 x8 x9 fG fD Ad):=by
 unfold fu xq;exact aF (by simp only[bN,rm])
theorem Ry (x:Int):qu x=some (decide (0<=x)&&decide (x<6)):=by
 simp only[qu,V1,ck,cF];by_cases h0:0<=x<;>simp[h0]
theorem aUo {x:Int}(h:(decide (0<=x)&&decide (x<6))=true)(k:Nat)(hk:k<=6):bk x 6=true/\wd (0+ws x*6+k) 36=true/\wd (0+ws x*6+k) 37=true:=by
 simp only[cq,mf] at h;simp only[cx,eV];omega
instance aIF (x0:Int)(x1:Int)(x2:Nat->Int)(x3:Nat->Int)(x4:Nat->Bool)(x5:Nat->Int)(x6:Nat->Int)(x7:Nat->Int)(x8:Int):bq (gy x0 x1 x2 x3 x4 x5 x6 x7 x8):=by
 unfold gy sN;refine aF ?_;rw[Ry,dL,aK];refine⟨λh=> ?_,λ_=>by rw[av];trivial⟩;obtain⟨h1,h2,h3⟩:=aUo h 6 (by omega);simp only[bN,h1,h2,OJ,LL,Eh]
theorem AD (x0:Int)(x1:Int)(x2:Nat)(x3:Nat->Int)(x4:Nat->Int)(x5:Nat->Bool)(x6:Nat->Int)(x7:Nat->Int)(x8:Nat->Int)(x9:Int)(fG:Nat->Bool)(fD:Nat->Int)(Ad:Nat->Int)(w0:Bool)(h:x2<=1999):bq (fg x0 x1 x2 x3 x4 x5 x6 x7 x8 x9 fG fD Ad w0):=by
 have tc:=λa b c e=>as8 x2 a b c e h
 unfold fg sK;try dsimp only
 refine aF ?_;rw[Ry,dL,aK];refine⟨λ_=>by rw[av];trivial,λh=> ?_⟩;rw[agq] at h;obtain⟨h1,h2,h3⟩:=aUo h 3 (by omega);simp only[bN,h1,h2,h3,Bool.and_self,aN,OJ,LL,Eh]
theorem Wm:∀(d:eR.B) (hd:0<=d.1.2.2/\d.1.2.2<=6),Ok (xp d) (λx:mx=>True):=
 bP (λd:eR.B=>ws (6-d.1.2.2)) (λd hd=>by
  have hw:wI (d.1.2.2+1)=d.1.2.2+1:=bo;unfold xo;simp only[bN];simp only[nf,oL,uO,hw];repeat' (first|exact True.intro|omega|(intro _)|(apply And.intro))) (λd hd=>by omega)
instance aIG (x0:Int)(x1:Nat->Int)(x2:Nat->Int)(x3:Nat->Bool)(x4:Nat->Int)(x5:Nat->Int)(x6:Nat->Int)(x7:Int):bq (nZ x0 x1 x2 x3 x4 x5 x6 x7):=by
 unfold nZ Aq;refine aF ?_;refine ay (Wm _ (by simp)) λd _ hd=> ?_;simp only[bN]
instance a5s (x:Int)(fX:Bool):bq (Cl x fX):=by
 have h1:=ri x;obtain⟨a,b,q,e,ho,hq,hv,_⟩:=apl (sat x) 30 (by omega) (by omega) (by omega);unfold Cl ahf;refine aF ?_;rw[uU,dL,aK];refine⟨λ_=>by rw[av];trivial,λc=> ?_⟩;have c:=pP c;have e30:(2:Int)^30=1073741824:=rfl;have q1:q=true:=by rw[hq,e30];omega
 have v:=hv q1;rw[e30] at v;have e':vP (sat x) 30=some ((a,b),q):=e
 have h0:0<=a:=by
  obtain⟨o1,o2,o3,o4⟩:=ho;simp only[vW] at v;omega
 obtain⟨r,hr,_,_⟩:=auT a b ho h0;rw[e',dL,axK a b r _ ho h0 hr,dL,av];trivial
instance a3Y (x0:Nat->Int)(x3:Bool)(x4:Nat->Int)(w0:Bool):bq (kG x0 4 3 x3 x4 w0):=ZO _ _ _ _ _ _ (by omega) (by omega)
instance a3Z (x0:Nat->Int)(x3:Bool)(x4:Nat->Int)(w0:Bool):bq (kG x0 7 2 x3 x4 w0):=ZO _ _ _ _ _ _ (by omega) (by omega)
instance a30 (x0:Nat->Int)(x3:Bool)(x4:Nat->Int)(w0:Bool):bq (kG x0 9 1 x3 x4 w0):=ZO _ _ _ _ _ _ (by omega) (by omega)
instance a1p (x0:Nat->Int)(x1:Int)(x2:Bool):bq (lN x0 x1 x2):=by
 unfold lN V3;exact aF (by simp only[bN,rm])
instance a0A (x0:Nat->Int)(x1:Int)(x2:Int)(x3:Int)(x4:Int)(x5:Int)(x6:Int)(x7:Int)(x8:Int)(x9:Int)(fG:Int)(fD:Int):bq (mM x0 x1 x2 x3 x4 x5 x6 x7 x8 x9 fG fD):=by
 unfold mM adZ;exact aF (by simp only[bN,rm])
instance a0B (x:vY.B):bq (sQ x):=by
 unfold sQ D9;try dsimp only
 exact aF (by simp only[bN,rm])
instance aHv (x:fZ.B):bq (gf x):=by
 unfold gf m8;exact aF (by simp only[bN,rm])
instance aNq (x:lE.B):bq (jg x):=by
 unfold jg xR;exact aF (by simp only[bN,rm])
instance aZR (x0:Int)(x1:Int)(x2:Int):bq (oe x0 x1 x2):=by
 unfold oe Ny;exact aF (by simp only[bN,rm])
instance a1q (x0:Int)(x1:Int)(x2:Int):bq (zw x0 x1 x2):=by
 unfold zw air;exact aF (by simp only[bN,rm])
instance aUp (x0:Nat->Int)(x1:Nat->Int)(x2:Nat->Int)(x3:Int)(x4:Int)(x5:Int)(x6:Int)(x7:Bool):bq (zy x0 x1 x2 x3 x4 x5 x6 x7):=by
 unfold zy ES;try dsimp only
 exact aF (by simp only[bN,rm])
instance aQF (x0:Nat->Int)(x1:Nat->Int)(x2:Nat->Int)(x3:Int)(x4:Int)(x5:Int)(x6:Bool):bq (uR x0 x1 x2 x3 x4 x5 x6):=by
 unfold uR AP;try dsimp only
 exact aF (by simp only[bN,rm])
instance aWf (x0:Nat->Int)(x1:Nat->Int)(x2:Nat->Int)(x3:Int)(x4:Int)(x5:Bool):bq (DI x0 x1 x2 x3 x4 x5):=by
 unfold DI Jq;exact aF (by simp only[bN,rm])
instance aD4 (x:iT.B):bq (iU x):=by
 unfold iU pD;try dsimp only
 exact aF (by simp only[bN,rm])
instance aCu (x:gO.B):bq (gP x):=by
 unfold gP ny;try dsimp only
 exact aF (by simp only[bN,rm])
instance aS7 (x0:Int):bq (xw x0):=by
 unfold xw Kv;exact aF (by simp only[bN,rm])
instance aP3 (x0:Int)(x1:Int):bq (mA x0 x1):=by
 unfold mA FY;exact aF (by simp only[bN,rm])
instance aQG:bq lu:=by
 unfold lu HQ;exact aF (by simp only[bN,rm])
instance a31 (x0:Int):bq (P8 x0):=by
 unfold P8 apS;exact aF (by simp only[bN,rm])
theorem azY:∀(d:ib.B) (hd:0<=d.1/\d.1<=3),Ok (DH d) (λx:qO=>True):=
 bP (λd:ib.B=>ws (3-d.1)) (λd hd=>by
  have hw:wI (d.1+1)=d.1+1:=bo;unfold yK;simp only[bN];simp only[nf,oL,uO,hw];repeat' (first|exact True.intro|omega|(intro _)|(apply And.intro))) (λd hd=>by omega)
theorem aHh:∀(d:mz.B) (hd:0<=d.1.2/\d.1.2<=24),Ok (II d) (λx:Eb=>True):=
 bP (λd:mz.B=>ws (24-d.1.2)) (λd hd=>by
  have hw:wI (d.1.2+1)=d.1.2+1:=bo;unfold Rs;simp only[bN];simp only[nf,oL,uO,hw];repeat' (first|exact True.intro|omega|(intro _)|(apply And.intro))) (λd hd=>by omega)
instance aIH (x0:Int)(x1:Nat->Int)(x2:Nat->Int)(x3:Nat->Bool)(x4:Nat->Int)(x5:Nat->Int)(x6:Nat->Int)(x7:Int):bq (kQ x0 x1 x2 x3 x4 x5 x6 x7):=by
 unfold kQ sP;refine aF ?_;rw[Ry,dL,aK];refine⟨λ_=>by rw[av];trivial,λh=> ?_⟩;rw[agq] at h;obtain⟨h1,h2,h3⟩:=aUo h 6 (by omega);simp only[bN,h1,h2,OJ,LL,Eh]
instance a0C (x0:Int)(x1:Int)(x2:Int)(x3:Int)(x4:Int)(x5:Int)(x6:Int)(x7:Int):bq (jQ x0 x1 x2 x3 x4 x5 x6 x7):=by
 unfold jQ Au;refine aF ?_;refine ay (azY _ (by simp)) λd _ hd=> ?_;simp only[bN]
instance aP4 (x:fw.B):bq (dD x):=by
 unfold dD jX;try dsimp only
 exact aF (by simp only[bN,rm])
instance a2w (x:FW.B):bq (pf x):=by
 have key:∀d,(0<=d.1.2/\d.1.2<=24)->∀(k1 k2),(∀a,PQ (k1 a) λ_=>True)->(∀a,PQ (k2 a) λ_=>True)->PQ (opt (II d) λx=>sum x k1 k2) (δ:=aoz) (λ_=>True):=λd hd k1 k2 h1 h2=>by
  refine ay (aHh d hd) λx _ _=> ?_;rw[qW];exact⟨λa _=>h1 a,λa _=>h2 a⟩
 unfold pf abG;try dsimp only
 refine aF ?_;repeat' (first|(rw[aK];refine⟨λ_=>by rw[av];trivial,λ_=> ?_⟩)|(rw[bE];intro _ _))
 refine key _ (by simp) _ _ (λ_=>by rw[av];trivial) (λ_=> ?_);simp only[bN]
theorem Qt (n:Nat):∀(d:dk.B) (hd:0<=d.1.2.2/\d.1.2.2<=d.1.2.1/\d.1.2.1<=1999/\d.1.2.1=((d.1.1:Nat):Int)/\d.2.1.2.2=d.1.1/\d.1.1=n),Ok (tF d) (λx:gQ=>x.1.1=n):=
 bP (λd:dk.B=>ws (d.1.2.1-d.1.2.2)) (λd hd=>by
  have hw:wI (d.1.2.2+1)=d.1.2.2+1:=bo;unfold nA;simp only[bN];simp only[nf,oL,uO,hw];repeat' (first|exact True.intro|exact hd.c.1|exact hd.c.2|omega|(intro _)|(apply And.intro))) (λd hd=>by omega)
theorem Qu (n:Nat):∀(d:dm.B) (hd:0<=d.1.2.2/\d.1.2.2<=d.1.2.1/\d.1.2.1<=1999/\d.1.2.1=((d.1.1:Nat):Int)/\d.2.1.2.2=d.1.1/\d.1.1=n),Ok (tG d) (λx:gR=>x.1.1=n):=
 bP (λd:dm.B=>ws (d.1.2.1-d.1.2.2)) (λd hd=>by
  have hw:wI (d.1.2.2+1)=d.1.2.2+1:=bo;unfold nC;simp only[bN];simp only[nf,oL,uO,hw];repeat' (first|exact True.intro|exact hd.c.1|exact hd.c.2|omega|(intro _)|(apply And.intro))) (λd hd=>by omega)
theorem UN (x:iV.B)(h:x.1.2.2<=1999):Ok (lO x) (λr:pE=>r.2.1=x.1.2.2):=by
 unfold lO pF;show PQ _ _;rw[aN,bH];refine⟨rfl,ay (Qt x.1.2.2 _ ?_) λd _ hd=> ?_⟩
 .dsimp only;simp only[dQ];exact⟨by omega,by omega,by omega,trivial,trivial,trivial⟩
 .rw[av];exact hd
theorem UO (x:iW.B)(h:x.1.2.2<=1999):Ok (lP x) (λr:pH=>r.2.1=x.1.2.2):=by
 unfold lP pI;show PQ _ _;rw[aN,bH];refine⟨rfl,ay (Qu x.1.2.2 _ ?_) λd _ hd=> ?_⟩
 .dsimp only;simp only[dQ];exact⟨by omega,by omega,by omega,trivial,trivial,trivial⟩
 .rw[av];exact hd
theorem N6:∀(d:dE.B) (hd:0<=d.1.2.2.2.2/\d.1.2.2.2.2<=d.1.2.2.2.1/\d.1.2.2.2.1<=1999/\d.1.2.2.2.1=((d.1.2.2.1.1:Nat):Int)),Ok (qU d) (λx:jc=>True):=
 bP (λd:dE.B=>ws (d.1.2.2.2.1-d.1.2.2.2.2)) (λd hd=>by
  have hw:wI (d.1.2.2.2.2+1)=d.1.2.2.2.2+1:=bo;unfold qT;simp only[bN];simp only[nf,oL,uO,hw];repeat' (first|exact True.intro|omega|(intro _)|(apply And.intro))) (λd hd=>by omega)
theorem Ta (x0:Nat)(x1:Nat)(x2:Nat->Int)(x3:Nat->Int)(w0:Bool)(w1:Bool)(h:x0<=1999):bq (gT x0 x1 x2 x3 w0 w1):=by
 unfold gT tH;refine aF ?_;rw[aN,aN,bH,bH];refine⟨rfl,rfl,ay (N6 _ (hdN x0 h)) λd _ hd=> ?_⟩;simp only[bN]
instance a2x (x2 x3:Nat->Int)(w0 w1:Bool):bq (gT 8 8 x2 x3 w0 w1):=Ta _ _ _ _ _ _ (by omega)
instance aWg (x:DJ.B):bq (uH x):=by
 unfold uH UB;try dsimp only
 exact aF (by simp only[bN,rm])
theorem qA (n:Nat):∀(d:ba.B) (hd:0<=d.1.2.2.1/\d.1.2.2.1<=d.1.2.2.2/\d.1.2.2.2<=(n:Int)/\d.1.1.1=n/\n<=1999/\d.1.2.1=(n:Int)),Ok (eu d) (λx:bV=>0<=x.1.2.2.1/\x.1.2.2.1<=(n:Int)/\x.1.1.1=n/\x.1.2.1=(n:Int)):=
 bP (λd:ba.B=>ws (d.1.2.2.2-d.1.2.2.1)) (λd hd=>by
  have h1:wI (d.1.2.2.1+d.1.2.2.2)=d.1.2.2.1+d.1.2.2.2:=fS;have h2:wU (d.1.2.2.1+d.1.2.2.2)=d.1.2.2.1+d.1.2.2.2:=by show IntKind.wrap .u64 _=_;rw[wrap_u64];omega
  have h3:ul (d.1.2.2.1+d.1.2.2.2) 2=(d.1.2.2.1+d.1.2.2.2)/2:=Int.fdiv_eq_ediv_of_nonneg _ (by omega);have h4:wI ((d.1.2.2.1+d.1.2.2.2)/2)=(d.1.2.2.1+d.1.2.2.2)/2:=fS;have h5:wI ((d.1.2.2.1+d.1.2.2.2)/2+1)=(d.1.2.2.1+d.1.2.2.2)/2+1:=fS;unfold ep;simp only[h1,h2,h3,h4,h5];simp only[bN];simp only[nf,oL,uO];repeat' (first|exact True.intro|omega|(intro _)|(apply And.intro))) (λd hd=>by omega)
theorem aS8 (x:bY.B)(h:x.1.1.1<=1999):Ok (bZ x) (λr:eM=>0<=r.1/\r.1<=(x.1.1.1:Int)):=by
 unfold bZ eN;try dsimp only
 show PQ _ _;rw[aN,bH];refine⟨rfl,ay (qA x.1.1.1 _ ?_) λd _ hd=> ?_⟩
 .try dsimp only
  simp only[dQ];exact⟨by omega,by omega,by omega,trivial,h,trivial⟩
 .obtain⟨a1,a2,a3,a4⟩:=hd;simp only[bN,a3,a4];simp only[nf,oL,uO];exact⟨λc=>⟨λ_ _ _=>⟨a1,a2⟩,⟨a1,c⟩⟩,λ_=>⟨a1,a2⟩⟩
theorem aP5 (n:Nat)(i:Int)(h0:0<=i)(h1:i<=(n:Int))(hn:n<=1999)(x2 x3 x4 x5 x6 x7 x8 x9 fG fD Ad x13 x14 x15 x16 x17 x18 x19:Nat->Int)(w1:Bool):
  Ok (cV n i x2 x3 x4 x5 x6 x7 x8 x9 fG fD Ad x13 x14 x15 x16 x17 x18 x19 1 true w1) (λr:fk=>r.1=n+1):=by
 have b1:wd (ws i) n=true:=by rw[eV];omega
 have b2:wd ((n+1)*72) 140737488355328=true:=by rw[eV];omega
 unfold cV;rw[b1,b2,gF h0];exact⟨_,rfl,rfl⟩
theorem aCv (n:Nat)(i j:Int)(h0:0<=i)(h1:i<=j)(h2:j<=(n:Int))(x3 x4 x5 x6 x7 x8 x9 fG fD:Nat->Int):
  Ok (bT n i j x3 x4 x5 x6 x7 x8 x9 fG fD true) (λr:fm=>r.1=ws i+(n-ws j)):=by
 have b1:wd (ws i) (ws j)=true:=by rw[eV];omega
 have b2:wd (ws j) n=true:=by rw[eV];omega
 unfold bT;rw[b1,b2,gF h0,gF (show 0<=j by omega)];exact⟨_,rfl,rfl⟩
theorem aS9 (n:Nat)(hn:n<=1999)(x1 x2 x3 x4 x5 x6 x7 x8 x9:Nat->Int)(w:Bool):
  Ok (fJ n x1 x2 x3 x4 x5 x6 x7 x8 x9 w) (λr:iS=>r.1=n):=by
 have b1:wd (n*72) 140737488355328=true:=by rw[eV];omega
 unfold fJ;rw[b1];exact⟨_,rfl,rfl⟩
theorem aP6 (s:Nat)(hs:s<=120)(n:Nat)(hn:n<=100)(fX:Bool)(f:Nat->Int)(w w':Bool):
  rO (wl s) n n fX f w w'=some (sat (LD (DS (λj=>sat (f j)*sat (f j)) n) s),(fX||Hl (λj=>fj (f j)||fj (f j)) n)||fj (LD (DS (λj=>sat (f j)*sat (f j)) n) s)):=by
 simp only[rO,P1,Pg.cF,Pg.ck,Pg.cT,Pg.fI,Pg.eL];try delta wI wU
 unfold Kt;have n0:decide (wl s<0)=false:=by simp
 have n1:decide (wl s>120)=false:=by simp only[dQ];exact dw (by omega)
 have m:(if 100<if wl n<wl n then wl n else wl n then 100 else if wl n<wl n then wl n else wl n)=wl n:=by
  have e:¬wl n<wl n:=by omega
  rw[if_neg e,if_neg (by simp only[dQ];omega)]
 rw[n0,n1,bK,bK,OG,bD,m]
 refine OT (λt d=>∃(i:Nat) (h l':Int),i+t=n/\okW h l'/\vW h l'=DS (λj=>sat (f j)*sat (f j)) i/\d=((wl s,(n,w),(n,w'),wl n,wl i),(fX||Hl (λj=>fj (f j)||fj (f j)) i),f,h,l')) ?_ 2000 n _ (by omega)
  ⟨0,0,0,by omega,⟨by omega,by omega,by omega,by omega⟩,rfl,by simp only[Hl,aK7];rfl⟩
 rintro t _ c ⟨i,h,l',hi,ho,hv,rfl⟩ hc
 have bnd:=apj (λj=>sat (f j)*sat (f j)) 1329227995784915872903807060280344576 (by omega) i (λj _=>af5 _ _);rcases acb t with t0|t0
 .have e:i=n:=by omega
  subst e;simp only[CF,Pg.wN,Pg.wO,Pg.A9,Pg.Gk,Pg.wP,rF,mT,wI,axH (eT i),bK,aiS h l' s _ hs ho,hv,bR]
 .have hs1:=ri (f i);have WJ:=ri (f i);have hm:=af5 (f i) (f i);obtain⟨h1,l1,e1,o1,v1⟩:=Ec (sat (f i)) (sat (f i)) (by omega) (by omega) (by omega) (by omega)
  obtain⟨h2,l2,e2,o2,v2⟩:=aiT (λj:Nat=>bif ww j 1 then h1 else bif ww j 0 then h else h) (λj:Nat=>bif ww j 1 then l1 else bif ww j 0 then l' else l') true
   ho o1 (by show _<=vW h l'+vW h1 l1;rw[hv,v1];omega) (by show vW h l'+vW h1 l1<_;rw[hv,v1];omega)
  have v2:vW h2 l2=vW h l'+vW h1 l1:=v2;rw[hv,v1] at v2;have q:ws (wl i)=i:=rfl;simp only[CF,Pg.wN,Pg.wO,Pg.A9,Pg.Gk,Pg.wP,rF,mT,wI,axG hi t0,axI (show i<n by omega),bD,q,uU,bR,e1,e2,axJ (show i<9000000000000000000 by omega)];refine hc (t-1) _ (by omega) ⟨i+1,h2,l2,by omega,o2,v2,?_⟩;simp only[Hl,Bool.or_assoc]
instance a32 (fX:Bool)(f:Nat->Int)(w w':Bool):bq (rO 30 2 2 fX f w w'):=⟨_,aP6 30 (by omega) 2 (by omega) fX f w w'⟩
instance aTa (x0:Nat->Int)(x1:Int)(x2:Int)(x3:Int)(x4:Bool):bq (xt x0 x1 x2 x3 x4):=by
 unfold xt CG;exact aF (by simp only[bN,rm])
instance aWh (x0:Int)(x1:Int)(x2:Int)(x3:Int)(x4:Int)(x5:Int)(x6:Int)(x7:Int)(x8:Int)(x9:Int):bq (DL x0 x1 x2 x3 x4 x5 x6 x7 x8 x9):=by
 unfold DL UD;exact aF (by simp only[bN,rm])
theorem aMG (x:oR.B)(h:x.1.2.1<=1999):bq (fT x):=by
 have tr:=λa b c d e g i j k l m w=>AD a b x.1.2.1 c d e g i j k l m w
 unfold fT KA;try dsimp only
 refine aF ?_;rw[aN,bH];refine⟨rfl,?_⟩;have:=AD;refine ay (bq.Ok (AD _ _ _ _ _ _ _ _ _ _ _ _ _ _ h) (Q:=λ_=>True) λ_ _=>trivial) λd _ _=> ?_;rw[av];trivial
instance a4O (x:nm.B):bq (dM x):=by
 unfold dM HS;try dsimp only
 refine aF ?_;iterate 9 (rw[aN,bH];refine⟨rfl,?_⟩)
 refine ay (bq.Ok (aMG ((x.1,1,true),_) (by show 1<=1999;omega)) (Q:=λ_=>True) λ_ _=>trivial) λd _ _=> ?_;rw[av];trivial
instance a33 (x:mB.B):bq (bJ x):=by
 unfold bJ F3;try dsimp only
 refine aF ?_;iterate 9 (rw[aN,bH];refine⟨rfl,?_⟩)
 refine ay (bq.Ok (aMG ((x.1,1,true),_) (by show 1<=1999;omega)) (Q:=λ_=>True) λ_ _=>trivial) λd _ _=> ?_;rw[av];trivial
theorem Tb (x:mC.B)(h:x.2.1.2.2.2.2.2.2.2.2.2.2.2.2.2.2.2.2<=100000):Ok (fU x) (λr:CR=>r.1.2.2.2.2.2.2.2.2.2.2.2.2.2.2.2.2=x.2.1.2.2.2.2.2.2.2.2.2.2.2.2.2.2.2.2+1/\r.1.2.2.2.2.1=x.2.1.2.2.2.2.1/\r.1.2.2.2.2.2.2.2.2.2.2.2.2.2.1=x.2.1.2.2.2.2.2.2.2.2.2.2.2.2.2.1):=by
 unfold fU KE;try dsimp only
 show PQ _ _;rw[bH,av];exact⟨by rw[eV];omega,rfl,rfl,rfl⟩
theorem af8 (x:kn.B)(h:x.1.2.1<=1999):Ok (dx x) (λr:xB=>r.1=x.1.2.1/\r.2.1.1.d.c.b.2.2=x.2.1.d.c.b.2.2/\r.2.1.1.c.1=x.2.1.c.1/\r.2.1.1.d.c.2.1=x.2.1.d.c.2.1):=by
 unfold dx CS;try dsimp only
 show PQ _ _;rw[aN,bH];refine⟨rfl,ay (aMF _ h) λd _ hd=> ?_⟩;iterate 10 (rw[aN,bH];refine⟨rfl,?_⟩)
 refine ay (bq.Ok (aMG ((x.1.1,d.1.2.2,true),_) (by show d.1.2.2<=1999;rw[hd];exact h)) (Q:=λ_=>True) λ_ _=>trivial) λd1 _ _=> ?_;rw[av];exact⟨hd,rfl,rfl,rfl⟩
theorem ZP (x:jY.B)(h:x.1.1<=1999):Ok (eB x) (λr:F4=>r.d.c.b.2.2=x.2.1.d.c.b.2.2/\r.c.1=x.2.1.c.1/\r.d.c.2.1=x.2.1.d.c.2.1):=by
 unfold eB F7;try dsimp only
 show PQ _ _;rw[aN,bH];refine⟨rfl,ay (bq.Ok (as8 x.1.1 _ _ _ _ h) (Q:=λ_=>True) λ_ _=>trivial) λd1 _ _=> ?_⟩;rw[aK];exact⟨λ_=>by rw[av];exact⟨rfl,rfl,rfl⟩,λ_=>by rw[av];exact⟨rfl,rfl,rfl⟩⟩
theorem aZS (x:kp.B)(h:x.2.1.d.c.b.2.2<=90000):Ok (mE x) (λr:xF=>r.1.d.c.b.2.2<=x.2.1.d.c.b.2.2+3/\r.1.c.1=x.2.1.c.1/\r.1.d.c.2.1=x.2.1.d.c.2.1):=by
 unfold mE CU;try dsimp only
 show PQ _ _;simp only[aN];rw[bE];intro d _;rw[bE];intro d1 _;iterate 9 (rw[bH];refine⟨rfl,?_⟩)
 refine ay (Tb _ (show x.2.1.d.c.b.2.2<=100000 by omega)) λd2 _ h2=> ?_;have h2:d2.1.d.c.b.2.2=x.2.1.d.c.b.2.2+1/\d2.1.c.1=x.2.1.c.1/\d2.1.d.c.2.1=x.2.1.d.c.2.1:=h2;rw[bE];intro d3 _;iterate 9 (rw[bH];refine⟨rfl,?_⟩)
 refine ay (Tb _ (show d2.1.d.c.b.2.2<=100000 by omega)) λd4 _ h4=> ?_;have h4:d4.1.d.c.b.2.2=d2.1.d.c.b.2.2+1/\d4.1.c.1=d2.1.c.1/\d4.1.d.c.2.1=d2.1.d.c.2.1:=h4;rw[aK];refine⟨λ_=> ?_,λ_=>by rw[av];omega⟩;rw[bE];intro d5 _;iterate 9 (rw[bH];refine⟨rfl,?_⟩)
 refine ay (Tb _ (show d4.1.d.c.b.2.2<=100000 by omega)) λd6 _ h6=> ?_;have h6:d6.1.d.c.b.2.2=d4.1.d.c.b.2.2+1/\d6.1.c.1=d4.1.c.1/\d6.1.d.c.2.1=d4.1.d.c.2.1:=h6;rw[av];omega
end Go.Proofs.YtldgljclcgaibaaGreat
