/-
  Parts of the proof: PRT PWY PWZ PWQ PRE TA TB TC TD TU TE
-/
import Derived.Test.YtldgljclcgaibaaGreatZAE
import Derived.Test.YtldgljclcgaibaaGreatZAG
set_option linter.unusedVariables false
set_option linter.unusedSimpArgs false
set_option maxRecDepth 100000
set_option maxHeartbeats 4000000
namespace Go.Proofs.YtldgljclcgaibaaGreat
open Go.Ab
def isR (r V:Int):Prop:=0<=r∧V<=r*r+r∧(r=0∨r*r-r<V)
theorem aGN {a b:Int}(ha:0<=a)(hb:0<=b):0<=a*b:=Int.mul_nonneg ha hb
theorem aNp {r s V:Int}(h1:isR r V)(h2:isR s V):s<=r:=by
 obtain⟨a1,a2,a3⟩:=h1
 obtain⟨b1,b2,b3⟩:=h2
 rcases Int.lt_or_le r s with h|h
 ·exfalso
  have p:=aGN (a:=s-r-1) (b:=s+r) (by omega) (by omega)
  have q:(s-r-1)*(s+r)=s*s-s-(r*r+r):=by grind
  rcases b3 with b3|b3
  ·omega
  ·omega
 ·exact h
theorem aOh {r s V:Int}(h1:isR r V)(h2:isR s V):r=s:=Int.le_antisymm (aNp h2 h1) (aNp h1 h2)
theorem aSu (n:Nat):∃q:Nat,q*q<=n∧n<(q+1)*(q+1):=by
 induction n with
 |zero=>exact⟨0,by omega,by omega⟩
 |succ n ih=>
  obtain⟨q,h1,h2⟩:=ih
  by_cases c:n+1<(q+1)*(q+1)
  ·exact⟨q,by omega,c⟩
  ·refine⟨q+1,by omega,?_⟩
   have:(q+1+1)*(q+1+1)=(q+1)*(q+1)+2*q+3:=by grind
   omega
theorem aOi (V:Int)(h:0<=V):∃q:Int,0<=q∧q*q<=V∧V<(q+1)*(q+1):=by
 obtain⟨q,h1,h2⟩:=aSu V.toNat
 refine⟨q,by omega,?_,?_⟩
 ·have e:((q*q:Nat):Int)=(q:Int)*q:=by simp
  omega
 ·have e:(((q+1)*(q+1):Nat):Int)=((q:Int)+1)*(q+1):=by simp
  omega
theorem aMb {a b:Int}(ha:0<=a)(hb:0<=b)(h:a*a<b*b):a<b:=by
 rcases Int.lt_or_le a b with c|c
 ·exact c
 ·exfalso
  have:=Int.mul_le_mul c c hb (by omega)
  omega
theorem aOj (n:Nat)(hn:n<128):fQ 0 1 (Int.ofNat n)=some (2^n/18446744073709551616,2^n%18446744073709551616):=by
 have key:∀n:Fin 128,fQ 0 1 (Int.ofNat n.val)=some ((2:Int)^n.val/18446744073709551616,(2:Int)^n.val%18446744073709551616):=by decide+kernel
 exact key ⟨n,hn⟩
theorem aEY (a b c d:Int)(b0:0<=b)(b1:b<18446744073709551616)(d0:0<=d)(d1:d<18446744073709551616):
  sS a b c d=some (decide (a*18446744073709551616+b<c*18446744073709551616+d)):=by
 simp only[sS,Ma,Pg.bO,Pg.bI,Pg.bZ,Pg.eB,Pg.dB]
 try delta wI wU
 by_cases h:a<c
 ·have:a*18446744073709551616+b<c*18446744073709551616+d:=by omega
  simp[h,this]
 ·by_cases e:a=c
  ·subst e
   have:(a*18446744073709551616+b<a*18446744073709551616+d)↔b<d:=by omega
   simp[this]
  ·have:¬a*18446744073709551616+b<c*18446744073709551616+d:=by omega
   have e':(a==c)=false:=by simp[e]
   rw[decide_eq_false h,cond_false,e',cond_false,decide_eq_false this]
theorem avf (x y c:Int)(x0:0<=x)(x1:x<18446744073709551616)(y0:0<=y)(y1:y<18446744073709551616)(c0:0<=c)(c1:c<=1):aba x y c=some ((x-y-c)%18446744073709551616,if x<y+c then 1 else 0):=by
 unfold aba
 have h:Nat.ble c.toNat 1=true:=Nat.ble_eq_true_of_le (by omega)
 rw[h,cond_true]
 congr 1
 unfold aR7 aR8
 simp only[Int.ofNat_eq_natCast,Prod.mk.injEq]
 constructor
 ·omega
 ·split<;>split<;>omega
theorem aMc (a b c d:Int)(a0:0<=a)(a1:a<18446744073709551616)(b0:0<=b)(b1:b<18446744073709551616)(c0:0<=c)(c1:c<18446744073709551616)(d0:0<=d)(d1:d<18446744073709551616)
  (h:c*18446744073709551616+d<=a*18446744073709551616+b):
  ∃h' l',vF a b c d=some (h',l')∧0<=h'∧h'<18446744073709551616∧0<=l'∧l'<18446744073709551616∧h'*18446744073709551616+l'=a*18446744073709551616+b-(c*18446744073709551616+d):=by
 simp only[vF,JG,Pg.bO,Pg.bI,Pg.bZ,Pg.eB,Pg.dB]
 try delta wI wU
 rw[avf b d 0 b0 b1 d0 d1 (by omega) (by omega)]
 simp only[Option.bind_some,Int.add_zero]
 by_cases k:b<d
 ·rw[if_pos k,avf a c 1 a0 a1 c0 c1 (by omega) (by omega)]
  simp only[Option.bind_some]
  refine⟨_,_,rfl,?_,?_,?_,?_,?_⟩<;>omega
 ·rw[if_neg k,avf a c 0 a0 a1 c0 c1 (by omega) (by omega)]
  simp only[Option.bind_some]
  refine⟨_,_,rfl,?_,?_,?_,?_,?_⟩<;>omega
theorem aeL (h1 l1 h2 l2:Int)(a0:0<=h1)(b0:0<=l1)(c0:0<=h2)(d0:0<=l2)(b1:l1<18446744073709551616)(d1:l2<18446744073709551616)
  (h:h1*18446744073709551616+l1+(h2*18446744073709551616+l2)<340282366920938463463374607431768211456):
  ∃h' l',ib h1 l1 h2 l2=some (h',l')∧0<=h'∧h'<18446744073709551616∧0<=l'∧l'<18446744073709551616∧h'*18446744073709551616+l'=h1*18446744073709551616+l1+(h2*18446744073709551616+l2):=by
 rw[aEW h1 l1 h2 l2 a0 b0 c0 d0 b1 d1]
 refine⟨_,_,rfl,?_,?_,?_,?_,?_⟩<;>omega
theorem aj6 {m n:Nat}(h:m<=n):(2:Int)^m<=2^n:=by
 have h2:(2:Nat)^m<=2^n:=Nat.pow_le_pow_right (by decide) h
 have h3:((2^m:Nat):Int)<=((2^n:Nat):Int):=by exact_mod_cast h2
 simpa using h3
theorem ap8 (h l:Int)(o:okW h l)(h0:0<=h):∃r,isR r (vW h l)∧r<18446744073709551616∧JK h l=if r<=9223372036854775807 then some (r,true) else some (0,false):=by
 obtain⟨o1,o2,o3,o4⟩:=o
 have v0:0<=vW h l:=by show 0<=h*18446744073709551616+l;omega
 have v1:vW h l<170141183460469231731687303715884105728:=by show h*18446744073709551616+l<_;omega
 have hvv:h*18446744073709551616+l=vW h l:=rfl
 generalize vW h l=V at*
 obtain⟨q,q0,q1,q2⟩:=aOi V v0
 have qb:q<13043817825332782213:=aMb q0 (by omega) (by omega)
 obtain⟨r,hr⟩:∃r,r=if q<V-q*q then q+1 else q:=⟨_,rfl⟩
 have q3:(q+1)*(q+1)=q*q+2*q+1:=by grind
 refine⟨r,?_,by rw[hr];split<;>omega,?_⟩
 ·rw[hr]
  split
  ·rename_i c
   exact⟨by omega,by omega,Or.inr (by omega)⟩
  ·rename_i c
   refine⟨q0,by omega,?_⟩
   rcases Int.lt_or_le 0 q with k|k
   ·exact Or.inr (by omega)
   ·exact Or.inl (by omega)
 simp only[JK,adN,Pg.bO,Pg.bI,Pg.bZ,Pg.eB,Pg.dB]
 try delta wI wU
 unfold TT
 have n0:decide (h<0)=false:=decide_eq_false (by omega)
 have n1:IntKind.wrap .u64 h=h:=by rw[wrap_u64];omega
 rw[n0,cond_false,n1]
 refine LZ (λt d=>∃(p c rh rl sh sl:Int),t<=64∧0<=p∧p=c*2^t∧p*p<=V∧V<(p+2^t)*(p+2^t)∧0<=rh∧rh<18446744073709551616∧0<=rl∧rl<18446744073709551616∧rh*18446744073709551616+rl=V-p*p∧
   0<=sh∧sh<18446744073709551616∧0<=sl∧sl<18446744073709551616∧sh*18446744073709551616+sl=p*2^t∧d=(2*(t:Int)-2,(rh,rl),sh,sl)) ?_ 2000 64 _ (by omega)
  ⟨0,0,h,l,0,0,by omega,by omega,by omega,by omega,by
   have:(2:Int)^64=18446744073709551616:=rfl
   omega,by omega,by omega,by omega,by omega,by omega,by omega,by omega,by omega,by omega,by omega,rfl⟩
 rintro t _ k ⟨p,c,rh,rl,sh,sl,t0,p0,pc,p1,p2,r0,r1,r2,r3,r4,s0,s1,s2,s3,s4,rfl⟩ hk
 rcases Nat.eq_zero_or_pos t with z|z
 ·subst z
  have e1:(2:Int)^0=1:=rfl
  rw[e1] at p2 s4
  have pq:p=q:=by
   have h1:p<q+1:=aMb p0 (by omega) (by omega)
   have h2:q<p+1:=aMb q0 (by omega) (by omega)
   omega
  subst pq
  have g0:decide ((2:Int)*((0:Nat):Int)-2>=0)=false:=by decide
  simp only[JJ,Pg.tu,Pg.tv,Pg.xN,Pg.DV,Pg.tw,Sum.elim_inl,Sum.elim_inr,g0,cond_false,aEY sh sl rh rl s2 s3 r2 r3,Option.bind_some]
  rw[s4,r4,Int.mul_one]
  by_cases cc:p<V-p*p
  ·rw[decide_eq_true cc,cond_true]
   rw[if_pos cc] at hr
   obtain⟨a,b,e2,a0,a1,b0,b1,e3⟩:=aeL sh sl 0 1 s0 s2 (by omega) (by omega) s3 (by omega) (by omega)
   rw[e2,Option.bind_some,Ko a b false a0 b0 b1,e3,hr]
   have e4:sh*18446744073709551616+sl+(0*18446744073709551616+1)=p+1:=by omega
   rw[e4]
   have az:a=0:=by omega
   have e5:b=p+1:=by omega
   simp only[Bool.false_eq_true,if_false,e5]
   by_cases f:p+1<=9223372036854775807
   ·rw[if_pos f,Option.bind_some]
   ·rw[if_neg f,Option.bind_some]
  ·rw[decide_eq_false cc,cond_false]
   rw[if_neg cc] at hr
   rw[Ko sh sl false s0 s2 s3,s4,hr]
   have az:sh=0:=by omega
   have e5:sl=p:=by omega
   simp only[Bool.false_eq_true,if_false,Int.mul_one,e5]
   by_cases f:p<=9223372036854775807
   ·rw[if_pos f,Option.bind_some]
   ·rw[if_neg f,Option.bind_some]
 ·obtain⟨m,rfl⟩:∃m,t=m+1:=⟨t-1,by omega⟩
  have P2:(2:Int)^(m+1)=2^m*2:=Int.pow_succ _ _
  have PP:(2:Int)^(2*m)=2^m*2^m:=by rw[<-Int.pow_add];congr 1;omega
  have P0:=kO m
  have PB:(2:Int)^m<=2^63:=aj6 (by omega)
  have PBv:(2:Int)^63=9223372036854775808:=rfl
  have at0:(2:Int)*((m+1:Nat):Int)-2=Int.ofNat (2*m):=by simp only[Int.ofNat_eq_natCast];omega
  rw[at0]
  have g0:decide (Int.ofNat (2*m)>=0)=true:=decide_eq_true (by simp only[Int.ofNat_eq_natCast];omega)
  have g1:IntKind.wrap .i64 (Int.ofNat (2*m)-2)=2*(m:Int)-2:=by
   simp only[Int.ofNat_eq_natCast]
   rw[wrap_i64 (by omega) (by omega)]
   omega
  simp only[JJ,Pg.tu,Pg.tv,Pg.xN,Pg.DV,Pg.tw,Sum.elim_inl,Sum.elim_inr,g0,cond_true,aOj (2*m) (by omega),Option.bind_some,wI,g1]
  rw[PP]
  rw[P2] at pc p2 s4
  generalize hP:(2:Int)^m=P at*
  have PPb:P*P<=85070591730234615865843651857942052864:=by
   have:=Int.mul_le_mul PB PB (by omega) (by omega)
   omega
  have PP0:0<P*P:=Int.mul_pos P0 P0
  have pb:p*P*2<=V:=by
   rcases Int.lt_or_le 0 c with k0|k0
   ·have c1:1*(P*2)<=c*(P*2):=Int.mul_le_mul_of_nonneg_right (by omega) (by omega)
    have c2:p*(P*2)<=p*p:=Int.mul_le_mul_of_nonneg_left (by omega) p0
    have c3:p*(P*2)=p*P*2:=by grind
    omega
   ·have c1:c*(P*2)<=0*(P*2):=Int.mul_le_mul_of_nonneg_right k0 (by omega)
    have:p=0:=by omega
    subst this
    omega
  have s4':sh*18446744073709551616+sl=p*P*2:=by rw[s4];grind
  obtain⟨a,b,e2,a0,a1,b0,b1,e3⟩:=aeL sh sl (P*P/18446744073709551616) (P*P%18446744073709551616) s0 s2 (by omega) (by omega) s3 (by omega) (by omega)
  have e3':a*18446744073709551616+b=p*P*2+P*P:=by omega
  obtain⟨u,v,e4,u0,v0,v1,e5⟩:=asJ sh sl 1 (by omega) s0 s1 s2 s3
  have e4':hI sh sl 1=some (u,v):=e4
  have e5':u*18446744073709551616+v=p*P:=by
   rw[e5,s4']
   show p*P*2/2^1=p*P
   rw[show(2:Int)^1=2 from rfl];omega
  rw[e2,Option.bind_some,e4',Option.bind_some,aEY rh rl a b r2 r3 b0 b1,Option.bind_some,e3',r4]
  have dd:p*p+(p*P*2+P*P)=(p+P)*(p+P):=by grind
  by_cases cc:V-p*p<p*P*2+P*P
  ·rw[decide_eq_true cc]
   simp only[Bool.not_true,cond_false]
   refine hk m _ (by omega) ⟨p,c*2,rh,rl,u,v,by omega,p0,by rw[hP,pc];grind,p1,by rw[hP];omega,r0,r1,r2,r3,r4,u0,by omega,v0,v1,by rw[hP];exact e5',rfl⟩
  ·rw[decide_eq_false cc]
   simp only[Bool.not_false,cond_true]
   obtain⟨x,y,e6,x0,x1,y0,y1,e7⟩:=aMc rh rl a b r0 r1 r2 r3 a0 a1 b0 b1 (by omega)
   obtain⟨w,z',e8,w0,w1,z0,z1,e9⟩:=aeL u v (P*P/18446744073709551616) (P*P%18446744073709551616) u0 v0 (by omega) (by omega) v1 (by omega) (by omega)
   rw[e6,Option.bind_some,e8,Option.bind_some]
   refine hk m _ (by omega) ⟨p+P,c*2+1,x,y,w,z',by omega,by omega,by rw[hP,pc];grind,by omega,?_,x0,x1,y0,y1,by omega,w0,w1,z0,z1,?_,rfl⟩
   ·rw[hP]
    have:(p+P+P)*(p+P+P)=(p+P*2)*(p+P*2):=by grind
    omega
   ·rw[hP]
    have:(p+P)*P=p*P+P*P:=by grind
    omega
end Go.Proofs.YtldgljclcgaibaaGreat
namespace Go.Proofs.YtldgljclcgaibaaGreat
open Go.Ab
theorem aMd (h l:Int)(neg:Bool)(h0:0<=h)(h1:h<18446744073709551616)(l0:0<=l)(l1:l<18446744073709551616):
  ∃h' l' b,lJ h l neg=some ((h',l'),b)∧okW h' l'∧(b=true↔if neg=true then h*18446744073709551616+l<=170141183460469231731687303715884105728 else h*18446744073709551616+l<170141183460469231731687303715884105728)∧
   (b=true->vW h' l'=if neg=true then -(h*18446744073709551616+l) else h*18446744073709551616+l):=by
 simp only[lJ,Jt,Pg.bO,Pg.bI,Pg.bZ,Pg.eB,Pg.dB]
 try delta wI wU
 unfold vW
 cases neg
 ·have hw:=Em h
  rw[Int.emod_eq_of_lt h0 h1] at hw
  generalize IntKind.wrap IntKind.i64 h=w at*
  refine⟨w,l,_,rfl,⟨?_,?_,l0,l1⟩,?_,?_⟩
  ·split at hw<;>omega
  ·split at hw<;>omega
  ·rw[oP _ _ (by omega),beq_iff_eq,if_neg (by decide)]
   constructor<;>intro _<;>omega
  ·rw[oP _ _ (by omega),beq_iff_eq,if_neg (by decide)]
   intro _
   split at hw<;>omega
 ·simp only[Bool.not_true,cond_false,abB l l0 l1,wrap_u64,abB h h0 h1]
  rw[My _ _ _ (by omega) (by omega) (by omega) (by omega)]
  simp only[Option.bind_some,if_true]
  generalize hm:((18446744073709551615-h)%18446744073709551616+((18446744073709551615-l)%18446744073709551616+1+0)/18446744073709551616)%18446744073709551616=m
  have hw:=Em m
  generalize IntKind.wrap IntKind.i64 m=w at*
  have m0:0<=m∧m<18446744073709551616:=by omega
  rw[Int.emod_eq_of_lt m0.1 m0.2] at hw
  have w0: -9223372036854775808<=w∧w<=9223372036854775807:=by split at hw<;>omega
  have wm:(w<0∧w=m-18446744073709551616)∨(0<=w∧w=m):=by split at hw<;>omega
  clear hw
  by_cases c:w<0
  ·rw[decide_eq_true c,cond_true]
   refine⟨_,_,_,rfl,⟨w0.1,w0.2,by omega,by omega⟩,?_,?_⟩
   ·simp only[true_iff];omega
   ·intro _;omega
  ·rw[decide_eq_false c,cond_false]
   refine⟨_,_,_,rfl,⟨w0.1,w0.2,by omega,by omega⟩,?_,?_⟩
   ·simp only[Bool.and_eq_true,beq_iff_eq,and_true]
    constructor<;>intro _<;>omega
   ·simp only[Bool.and_eq_true,beq_iff_eq,and_true]
    intro _;omega
theorem aSv (d:Int)(s:Nat)(hs:s<=127)(d0:0<=d)(d1:d<18446744073709551616):
  ∃h' l',fQ 0 d (Int.ofNat s)=some (h',l')∧0<=h'∧h'<18446744073709551616∧0<=l'∧l'<18446744073709551616∧h'*18446744073709551616+l'=d*2^s%340282366920938463463374607431768211456:=by
 simp only[fQ,P8,Pg.bO,Pg.bI,Pg.bZ,Pg.eB,Pg.dB]
 try delta wI wU
 by_cases c:64<=s
 ·have e:decide (Int.ofNat s>=64)=true:=by simp only[Int.ofNat_eq_natCast];exact decide_eq_true (by omega)
  have e2:IntKind.wrap .i64 (Int.ofNat s-64)=Int.ofNat (s-64):=(wrap_i64 (by simp only[Int.ofNat_eq_natCast];omega) (by simp only[Int.ofNat_eq_natCast];omega)).trans (by simp only[Int.ofNat_eq_natCast];omega)
  have e3:(!decide (Int.ofNat (s-64)<0))=true:=by simp
  have e4:min (Int.toNat (Int.ofNat (s-64))) 64=s-64:=by
   show min (s-64) 64=s-64
   omega
  simp only[e,e2,e3,e4,cond_true,wrap_u64]
  refine⟨_,_,rfl,by omega,by omega,by omega,by omega,?_⟩
  have p:(2:Int)^s=2^(s-64)*18446744073709551616:=by
   rw[show(18446744073709551616:Int)=2^64 from rfl,<-Int.pow_add]
   congr 1;omega
  rw[p,<-Int.mul_assoc]
  generalize d*2^(s-64)=x
  omega
 ·have e:decide (Int.ofNat s>=64)=false:=by simp only[Int.ofNat_eq_natCast];exact decide_eq_false (by omega)
  have e2:IntKind.wrap .i64 (64-Int.ofNat s)=Int.ofNat (64-s):=(wrap_i64 (by simp only[Int.ofNat_eq_natCast];omega) (by simp only[Int.ofNat_eq_natCast];omega)).trans (by simp only[Int.ofNat_eq_natCast];omega)
  have e3:∀n,(!decide (Int.ofNat n<0))=true:=by simp
  have e4:min (Int.toNat (Int.ofNat (64-s))) 64=64-s:=by
   show min (64-s) 64=64-s
   omega
  have e5:min (Int.toNat (Int.ofNat s)) 64=s:=by
   show min s 64=s
   omega
  simp only[e,e2,e3,e4,e5,cond_true,cond_false,wrap_u64,Int.zero_mul]
  rw[oP _ _ (Int.le_of_lt (kO _))]
  have pq:(18446744073709551616:Int)=2^s*2^(64-s):=by
   rw[<-Int.pow_add,show s+(64-s)=64 by omega];rfl
  have P0:=kO s
  have Q0:=kO (64-s)
  have x0:0<=d/2^(64-s):=Int.ediv_nonneg d0 (Int.le_of_lt Q0)
  have x1:d/2^(64-s)<2^s:=Int.ediv_lt_of_lt_mul Q0 (by rw[<-pq];exact d1)
  have x2:d/2^(64-s)<=d:=Int.ediv_le_self _ d0
  have z0:(0:Int)%18446744073709551616=0:=rfl
  rw[z0]
  have key:Int.ofNat (BitVec.toNat (BitVec.ofInt 64 0|||BitVec.ofInt 64 (d/2^(64-s))))=d/2^(64-s):=by
   rw[avd 0 (d/2^(64-s)) 0 (by omega) (by decide) x0 (by omega) (by omega) (by rw[show(2:Int)^0=1 from rfl,Int.emod_one])]
   omega
  rw[key]
  refine⟨_,_,rfl,by omega,by omega,by omega,by omega,?_⟩
  have m1:d*2^s/18446744073709551616=d/2^(64-s):=by
   rw[pq,Int.mul_comm d,Int.mul_ediv_mul_of_pos _ _ P0]
  have b1:d*2^s<340282366920938463463374607431768211456:=by
   have:=Int.mul_lt_mul_of_pos_right d1 P0
   have q:(2:Int)^s<=2^64:=aj6 (by omega)
   have q2:(2:Int)^64=18446744073709551616:=rfl
   have q3:18446744073709551616*2^s<=(18446744073709551616:Int)*18446744073709551616:=Int.mul_le_mul_of_nonneg_left (by omega) (by omega)
   have q4:(18446744073709551616:Int)*18446744073709551616=340282366920938463463374607431768211456:=by decide
   omega
  have b0:0<=d*2^s:=Int.mul_nonneg d0 (Int.le_of_lt P0)
  rw[Int.emod_eq_of_lt b0 b1]
  have x3:d/2^(64-s)%18446744073709551616=d/2^(64-s):=Int.emod_eq_of_lt x0 (by omega)
  rw[x3,<-m1]
  omega
theorem aj7 (a:Int)(s:Nat)(hs:s<=127)(a0: -9223372036854775808<=a)(a1:a<=9223372036854775807):
  ∃h l b,sG a (Int.ofNat s)=some ((h,l),b)∧okW h l∧(b=true↔ -170141183460469231731687303715884105728<=a*2^s∧a*2^s<170141183460469231731687303715884105728)∧(b=true->vW h l=a*2^s)∧(b=false->h=0∧l=0):=by
 simp only[sG,Zi,Pg.bO,Pg.bI,Pg.bZ,Pg.eB,Pg.dB]
 try delta wI wU
 have n0:decide (Int.ofNat s<0)=false:=by simp
 have n1:decide (Int.ofNat s>127)=false:=by simp only[Int.ofNat_eq_natCast];exact decide_eq_false (by omega)
 rw[n0,cond_false,n1,cond_false,al3 a a0 a1,Option.bind_some]
 generalize hd:(if a<0 then -a else a)=d
 have d0:0<=d∧d<=9223372036854775808:=by split at hd<;>omega
 obtain⟨u,v,e1,u0,u1,v0,v1,e2⟩:=aSv d s hs d0.1 (by omega)
 rw[e1,Option.bind_some]
 simp only
 have P0:=kO s
 have D0:0<=d*2^s:=Int.mul_nonneg d0.1 (Int.le_of_lt P0)
 have sg:(a<0->a*2^s= -(d*2^s))∧(¬a<0->a*2^s=d*2^s):=by
  constructor<;>intro h
  ·rw[if_pos h] at hd
   rw[<-hd,Int.neg_mul,Int.neg_neg]
  ·rw[if_neg h] at hd
   rw[hd]
 have aVx:∀{b:Bool},b=false->¬d*2^s<340282366920938463463374607431768211456->(b=true↔ -170141183460469231731687303715884105728<=a*2^s∧a*2^s<170141183460469231731687303715884105728):=by
  intro b hb hn
  rw[hb]
  refine iff_of_false Bool.false_ne_true λh=> ?_
  by_cases n:a<0
  ·have:=sg.1 n;omega
  ·have:=sg.2 n;omega
 have fin:d*2^s<340282366920938463463374607431768211456->∃h l b,(Option.bind (lJ u v (decide (a<0))) λ(d:TC)=>bif !d.2 then some (((0,0),false):(Int×Int)×Bool) else some (d.1,true))=some ((h,l),b)∧okW h l∧(b=true↔ -170141183460469231731687303715884105728<=a*2^s∧a*2^s<170141183460469231731687303715884105728)∧(b=true->vW h l=a*2^s)∧(b=false->h=0∧l=0):=by
  intro lt
  rw[Int.emod_eq_of_lt D0 lt] at e2
  obtain⟨h',l',b,e3,o3,f3,v3⟩:=aMd u v (decide (a<0)) u0 u1 v0 v1
  rw[e3,Option.bind_some]
  rw[e2] at f3 v3
  by_cases n:a<0
  ·have q:=sg.1 n
   rw[decide_eq_true n,if_pos rfl] at f3 v3
   cases b with
   |false=>
    refine⟨0,0,false,rfl,⟨by omega,by omega,by omega,by omega⟩,?_,(λh=>by cases h),(λ_=>⟨rfl,rfl⟩)⟩
    rw[f3];omega
   |true=>
    refine⟨h',l',true,rfl,o3,?_,(λ_=> ?_),(λh=>by cases h)⟩
    ·rw[f3];omega
    ·rw[v3 rfl];omega
  ·have q:=sg.2 n
   rw[decide_eq_false n,if_neg (by decide)] at f3 v3
   cases b with
   |false=>
    refine⟨0,0,false,rfl,⟨by omega,by omega,by omega,by omega⟩,?_,(λh=>by cases h),(λ_=>⟨rfl,rfl⟩)⟩
    rw[f3];omega
   |true=>
    refine⟨h',l',true,rfl,o3,?_,(λ_=> ?_),(λh=>by cases h)⟩
    ·rw[f3];omega
    ·rw[v3 rfl];omega
 have shr:∃x y,hI u v (Int.ofNat s)=some (x,y)∧0<=x∧0<=y∧y<18446744073709551616∧x*18446744073709551616+y=(u*18446744073709551616+v)/2^s:=by
  rcases Nat.lt_or_ge s 127 with c|c
  ·exact asJ u v s (by omega) u0 u1 v0 v1
  ·obtain rfl:s=127:=by omega
   refine⟨0,u/9223372036854775808,?_,by omega,by omega,by omega,?_⟩
   ·simp only[hI,GO,Pg.bO,Pg.bI,Pg.bZ,Pg.eB,Pg.dB]
    try delta wI wU
    have k1:decide (Int.ofNat 127>=64)=true:=by decide
    have k2:(!decide (IntKind.wrap .i64 (Int.ofNat 127-64)<0))=true:=by decide
    have k3:(2:Int)^min (Int.toNat (IntKind.wrap .i64 (Int.ofNat 127-64))) 64=9223372036854775808:=by decide
    simp only[k1,k2,k3,cond_true]
    rw[oP _ _ (by omega)]
   ·have k:(2:Int)^127=170141183460469231731687303715884105728:=by decide
    rw[k];omega
 obtain⟨x,y,e3,x0,y0,y1,e4⟩:=shr
 rw[e3,Option.bind_some]
 simp only
 rw[e2] at e4
 by_cases lt:d*2^s<340282366920938463463374607431768211456
 ·rw[Int.emod_eq_of_lt D0 lt,Int.mul_ediv_cancel _ (by omega)] at e4
  have xe:(x==0)=true:=by rw[beq_iff_eq];omega
  have ye:(y==d)=true:=by rw[beq_iff_eq];omega
  rw[xe,ye]
  exact fin lt
 ·have small:d*2^s%340282366920938463463374607431768211456/2^s<d:=by
   refine Int.ediv_lt_of_lt_mul P0 ?_
   have:d*2^s%340282366920938463463374607431768211456<340282366920938463463374607431768211456:=Int.emod_lt_of_pos _ (by omega)
   omega
  have ne:(x==0&&(y==d&&true))=false:=by
   rw[Bool.and_true]
   by_cases xz:x=0
   ·have:(y==d)=false:=by rw[beq_eq_false_iff_ne];omega
    rw[this,Bool.and_false]
   ·have:(x==0)=false:=by rw[beq_eq_false_iff_ne];omega
    rw[this,Bool.false_and]
  rw[ne]
  exact⟨0,0,false,rfl,⟨by omega,by omega,by omega,by omega⟩,aVx rfl lt,(λh=>by cases h),(λ_=>⟨rfl,rfl⟩)⟩
end Go.Proofs.YtldgljclcgaibaaGreat
namespace Go.Proofs.YtldgljclcgaibaaGreat
open Go.Ab
theorem OK (x:Int)(h0:1<=x)(h1:x<256):∃n:Nat,1<=n∧n<=8∧(2:Int)^(n-1)<=x∧x<2^n∧aW (IntKind.wrap .u8 x) 256=true∧IntKind.wrap .i64 (B4 (ByteArray.mk (List.toArray (List.append (List.append [0,1,2,2,3,3,3,3,4,4,4,4,4,4,4,4,5,5,5,5,5,5,5,5,5,5,5,5,5,5,5,5,6,6,6,6,6,6,6,6,6,6,6,6,6,6,6,6,6,6,6,6,6,6,6,6,6,6,6,6,6,6,6,6] [7,7,7,7,7,7,7,7,7,7,7,7,7,7,7,7,7,7,7,7,7,7,7,7,7,7,7,7,7,7,7,7,7,7,7,7,7,7,7,7,7,7,7,7,7,7,7,7,7,7,7,7,7,7,7,7,7,7,7,7,7,7,7,7]) (List.append [8,8,8,8,8,8,8,8,8,8,8,8,8,8,8,8,8,8,8,8,8,8,8,8,8,8,8,8,8,8,8,8,8,8,8,8,8,8,8,8,8,8,8,8,8,8,8,8,8,8,8,8,8,8,8,8,8,8,8,8,8,8,8,8] [8,8,8,8,8,8,8,8,8,8,8,8,8,8,8,8,8,8,8,8,8,8,8,8,8,8,8,8,8,8,8,8,8,8,8,8,8,8,8,8,8,8,8,8,8,8,8,8,8,8,8,8,8,8,8,8,8,8,8,8,8,8,8,8])))) (Int.toNat (IntKind.wrap IntKind.u8 x)))=(n:Int):=by
 obtain⟨a,rfl⟩:∃a:Nat,x=(a:Int):=⟨x.toNat,by omega⟩
 have t:∀a:Fin 256,1<=a.val->(aW (IntKind.wrap .u8 (a.val:Int)) 256=true∧IntKind.wrap .i64 (B4 (ByteArray.mk (List.toArray (List.append (List.append [0,1,2,2,3,3,3,3,4,4,4,4,4,4,4,4,5,5,5,5,5,5,5,5,5,5,5,5,5,5,5,5,6,6,6,6,6,6,6,6,6,6,6,6,6,6,6,6,6,6,6,6,6,6,6,6,6,6,6,6,6,6,6,6] [7,7,7,7,7,7,7,7,7,7,7,7,7,7,7,7,7,7,7,7,7,7,7,7,7,7,7,7,7,7,7,7,7,7,7,7,7,7,7,7,7,7,7,7,7,7,7,7,7,7,7,7,7,7,7,7,7,7,7,7,7,7,7,7]) (List.append [8,8,8,8,8,8,8,8,8,8,8,8,8,8,8,8,8,8,8,8,8,8,8,8,8,8,8,8,8,8,8,8,8,8,8,8,8,8,8,8,8,8,8,8,8,8,8,8,8,8,8,8,8,8,8,8,8,8,8,8,8,8,8,8] [8,8,8,8,8,8,8,8,8,8,8,8,8,8,8,8,8,8,8,8,8,8,8,8,8,8,8,8,8,8,8,8,8,8,8,8,8,8,8,8,8,8,8,8,8,8,8,8,8,8,8,8,8,8,8,8,8,8,8,8,8,8,8,8])))) (Int.toNat (IntKind.wrap IntKind.u8 (a.val:Int))))=((Nat.log2 a.val+1:Nat):Int)):=by decide+kernel
 have ha:1<=a:=by omega
 have aWS:a<256:=by omega
 have l1:=Nat.log2_self_le (n:=a) (by omega)
 have l2:a<2^(a.log2+1):=Nat.lt_log2_self
 have lb:a.log2<8:=by
  rcases Nat.lt_or_ge a.log2 8 with c|c
  ·exact c
  ·have:2^8<=2^a.log2:=Nat.pow_le_pow_right (by decide) c
   omega
 have k:=t ⟨a,aWS⟩ ha
 refine⟨a.log2+1,by omega,by omega,?_,?_,k.1,k.2⟩
 ·rw[Nat.add_sub_cancel]
  have:((2^a.log2:Nat):Int)=(2:Int)^a.log2:=by simp
  omega
 ·have:((2^(a.log2+1):Nat):Int)=(2:Int)^(a.log2+1):=by simp
  omega
theorem pow_add' (a b:Nat):(2:Int)^(a+b)=2^a*2^b:=Int.pow_add _ _ _
theorem C2 (x:Int)(b n:Nat)(hn:1<=n)(h0:(2:Int)^(n-1)<=x/2^b)(h1:x/2^b<2^n):(2:Int)^(n+b-1)<=x∧x<2^(n+b):=by
 have B0:=kO b
 have e1:(2:Int)^(n+b-1)=2^(n-1)*2^b:=by rw[<-pow_add'];congr 1;omega
 have e2:(2:Int)^(n+b)=2^n*2^b:=pow_add' _ _
 rw[e1,e2]
 exact⟨Int.mul_le_of_le_ediv B0 h0,Int.lt_mul_of_ediv_lt B0 h1⟩
theorem aTB (x:Int)(h0:1<=x)(h1:x<18446744073709551616):∃n:Nat,1<=n∧n<=64∧(2:Int)^(n-1)<=x∧x<2^n∧F5 x=some (n:Int):=by
 have f1:∀a:Int,Int.fdiv a 256=a/256:=λa=>oP _ _ (by omega)
 have f2:∀a:Int,Int.fdiv a 65536=a/65536:=λa=>oP _ _ (by omega)
 have f3:∀a:Int,Int.fdiv a 4294967296=a/4294967296:=λa=>oP _ _ (by omega)
 simp only[F5,Zd,Pg.bO,Pg.bI,Pg.bZ,Pg.eB,Pg.dB,f1,f2,f3]
 try delta wI wU
 by_cases c:x>=4294967296
 ·by_cases d:x/4294967296>=65536
  ·by_cases e:x/4294967296/65536>=256
   ·have q:x/4294967296/65536/256=x/2^56:=by rw[show(2:Int)^56=72057594037927936 from rfl]<;>omega
    obtain⟨n,n1,n2,b0,b1,t1,t2⟩:=OK (x/4294967296/65536/256) (by omega) (by omega)
    rw[q] at b0 b1
    obtain⟨c0,c1⟩:=C2 x 56 n n1 b0 b1
    refine⟨n+56,by omega,by omega,c0,c1,?_⟩
    rw[decide_eq_true c,cond_true,decide_eq_true d,cond_true,decide_eq_true e,cond_true,t1,cond_true,t2,wrap_i64 (n:=56+(n:Int)) (by omega) (by omega)]
    exact congrArg (some:Int->Option Int) (by omega)
   ·have q:x/4294967296/65536=x/2^48:=by rw[show(2:Int)^48=281474976710656 from rfl]<;>omega
    obtain⟨n,n1,n2,b0,b1,t1,t2⟩:=OK (x/4294967296/65536) (by omega) (by omega)
    rw[q] at b0 b1
    obtain⟨c0,c1⟩:=C2 x 48 n n1 b0 b1
    refine⟨n+48,by omega,by omega,c0,c1,?_⟩
    rw[decide_eq_true c,cond_true,decide_eq_true d,cond_true,decide_eq_false e,cond_false,t1,cond_true,t2,wrap_i64 (n:=48+(n:Int)) (by omega) (by omega)]
    exact congrArg (some:Int->Option Int) (by omega)
  ·by_cases e:x/4294967296>=256
   ·have q:x/4294967296/256=x/2^40:=by rw[show(2:Int)^40=1099511627776 from rfl]<;>omega
    obtain⟨n,n1,n2,b0,b1,t1,t2⟩:=OK (x/4294967296/256) (by omega) (by omega)
    rw[q] at b0 b1
    obtain⟨c0,c1⟩:=C2 x 40 n n1 b0 b1
    refine⟨n+40,by omega,by omega,c0,c1,?_⟩
    rw[decide_eq_true c,cond_true,decide_eq_false d,cond_false,decide_eq_true e,cond_true,t1,cond_true,t2,wrap_i64 (n:=40+(n:Int)) (by omega) (by omega)]
    exact congrArg (some:Int->Option Int) (by omega)
   ·have q:x/4294967296=x/2^32:=by rw[show(2:Int)^32=4294967296 from rfl]<;>omega
    obtain⟨n,n1,n2,b0,b1,t1,t2⟩:=OK (x/4294967296) (by omega) (by omega)
    rw[q] at b0 b1
    obtain⟨c0,c1⟩:=C2 x 32 n n1 b0 b1
    refine⟨n+32,by omega,by omega,c0,c1,?_⟩
    rw[decide_eq_true c,cond_true,decide_eq_false d,cond_false,decide_eq_false e,cond_false,t1,cond_true,t2,wrap_i64 (n:=32+(n:Int)) (by omega) (by omega)]
    exact congrArg (some:Int->Option Int) (by omega)
 ·by_cases d:x>=65536
  ·by_cases e:x/65536>=256
   ·have q:x/65536/256=x/2^24:=by rw[show(2:Int)^24=16777216 from rfl]<;>omega
    obtain⟨n,n1,n2,b0,b1,t1,t2⟩:=OK (x/65536/256) (by omega) (by omega)
    rw[q] at b0 b1
    obtain⟨c0,c1⟩:=C2 x 24 n n1 b0 b1
    refine⟨n+24,by omega,by omega,c0,c1,?_⟩
    rw[decide_eq_false c,cond_false,decide_eq_true d,cond_true,decide_eq_true e,cond_true,t1,cond_true,t2,wrap_i64 (n:=24+(n:Int)) (by omega) (by omega)]
    exact congrArg (some:Int->Option Int) (by omega)
   ·have q:x/65536=x/2^16:=by rw[show(2:Int)^16=65536 from rfl]<;>omega
    obtain⟨n,n1,n2,b0,b1,t1,t2⟩:=OK (x/65536) (by omega) (by omega)
    rw[q] at b0 b1
    obtain⟨c0,c1⟩:=C2 x 16 n n1 b0 b1
    refine⟨n+16,by omega,by omega,c0,c1,?_⟩
    rw[decide_eq_false c,cond_false,decide_eq_true d,cond_true,decide_eq_false e,cond_false,t1,cond_true,t2,wrap_i64 (n:=16+(n:Int)) (by omega) (by omega)]
    exact congrArg (some:Int->Option Int) (by omega)
  ·by_cases e:x>=256
   ·have q:x/256=x/2^8:=by rw[show(2:Int)^8=256 from rfl]<;>omega
    obtain⟨n,n1,n2,b0,b1,t1,t2⟩:=OK (x/256) (by omega) (by omega)
    rw[q] at b0 b1
    obtain⟨c0,c1⟩:=C2 x 8 n n1 b0 b1
    refine⟨n+8,by omega,by omega,c0,c1,?_⟩
    rw[decide_eq_false c,cond_false,decide_eq_false d,cond_false,decide_eq_true e,cond_true,t1,cond_true,t2,wrap_i64 (n:=8+(n:Int)) (by omega) (by omega)]
    exact congrArg (some:Int->Option Int) (by omega)
   ·have q:x=x/2^0:=by rw[show(2:Int)^0=1 from rfl]<;>omega
    obtain⟨n,n1,n2,b0,b1,t1,t2⟩:=OK (x) (by omega) (by omega)
    rw[q] at b0 b1
    obtain⟨c0,c1⟩:=C2 x 0 n n1 b0 b1
    refine⟨n+0,by omega,by omega,c0,c1,?_⟩
    rw[decide_eq_false c,cond_false,decide_eq_false d,cond_false,decide_eq_false e,cond_false,t1,cond_true,t2,wrap_i64 (n:=0+(n:Int)) (by omega) (by omega)]
    exact congrArg (some:Int->Option Int) (by omega)
theorem aSw (x:Int)(h0:1<=x)(h1:x<18446744073709551616):∃s:Nat,s<=63∧9223372036854775808<=x*2^s∧x*2^s<18446744073709551616∧nk x=some (s:Int):=by
 obtain⟨n,n1,n2,b0,b1,e⟩:=aTB x h0 h1
 refine⟨64-n,by omega,?_,?_,?_⟩
 ·have p:(9223372036854775808:Int)=2^(n-1)*2^(64-n):=by
   rw[<-pow_add',show n-1+(64-n)=63 by omega];rfl
  rw[p]
  exact Int.mul_le_mul_of_nonneg_right b0 (Int.le_of_lt (kO _))
 ·have p:(18446744073709551616:Int)=2^n*2^(64-n):=by
   rw[<-pow_add',show n+(64-n)=64 by omega];rfl
  rw[p]
  exact Int.mul_lt_mul_of_pos_right b1 (kO _)
 ·simp only[nk,zi,Pg.bO,Pg.bI,Pg.bZ,Pg.eB,Pg.dB]
  try delta wI wU
  rw[e,Option.bind_some,wrap_i64 (by omega) (by omega)]
  exact congrArg (some:Int->Option Int) (by omega)
structure Dig (Y gh vR U u:Int):Prop where
 y:Y=gh*4294967296+vR
 a:2147483648<=gh∧gh<4294967296
 b:0<=vR∧vR<4294967296
 u0:0<=U∧U<Y
 d:0<=u∧u<4294967296
theorem Dig.lt {Y gh vR U u:Int}(h:Dig Y gh vR U u):0<=(U*4294967296+u)/Y∧(U*4294967296+u)/Y<4294967296:=by
 obtain⟨y,a,b,u0,d⟩:=h
 constructor
 ·exact Int.ediv_nonneg (by omega) (by omega)
 ·refine Int.ediv_lt_of_lt_mul (by omega) ?_
  omega
theorem Dig.down {Y gh vR U u q rh:Int}(h:Dig Y gh vR U u)(e:q*gh+rh=U)(c:4294967296*rh+u<q*vR):(U*4294967296+u)/Y<=q-1:=by
 obtain⟨y,a,b,u0,d⟩:=h
 have:(U*4294967296+u)/Y<q:=by
  refine Int.ediv_lt_of_lt_mul (by omega) ?_
  have e2:q*Y=(q*gh)*4294967296+q*vR:=by rw[y];grind
  omega
 omega
theorem Dig.stay {Y gh vR U u q rh:Int}(h:Dig Y gh vR U u)(e:q*gh+rh=U)(c:q*vR<=4294967296*rh+u)(l:(U*4294967296+u)/Y<=q):q=(U*4294967296+u)/Y:=by
 obtain⟨y,a,b,u0,d⟩:=h
 have:q<=(U*4294967296+u)/Y:=by
  refine(Int.le_ediv_iff_mul_le (by omega)).2 ?_
  have e2:q*Y=(q*gh)*4294967296+q*vR:=by rw[y];grind
  omega
 omega
theorem Dig.out {Y gh vR U u q rh:Int}(h:Dig Y gh vR U u)(e:q*gh+rh=U)(q0:0<=q)(c:4294967296<=rh)(l:(U*4294967296+u)/Y<=q):q=(U*4294967296+u)/Y:=by
 have h':=h
 obtain⟨y,a,b,u0,d⟩:=h
 refine h'.stay e ?_ l
 have q1:q<=4294967295:=by
  rcases Int.lt_or_le q 4294967296 with k|k
  ·omega
  ·exfalso
   have:=Int.mul_le_mul_of_nonneg_right k (show 0<=gh by omega)
   omega
 have:=Int.mul_le_mul q1 (show vR<=4294967295 by omega) b.1 (by omega)
 omega
theorem aTC {ρ:Type}(Y s gh vR U u u0:Int)(h:Dig Y gh vR U u)(k:_->Option ρ)(r:Option ρ)
  (h1:∀rh a b c d,k (Sum.inl (Y,s,gh,vR,U,u,u0,(U*4294967296+u)/Y,rh,a,b,c,d))=r)
  (h2:∀rh a b c d e f g i,k (Sum.inr (Sum.inl (Y,s,gh,vR,U,u,u0,(U*4294967296+u)/Y,rh,a,b,c,d,e,f,g,i)))=r)
  (h3:∀rh a b c d e,k (Sum.inr (Sum.inr (Y,s,gh,vR,U,u,u0,(U*4294967296+u)/Y,rh,a,b,c,d,e)))=r):
  (GS (Y,s,gh,vR,U,u,u0,U/gh,U%gh)).bind k=r:=by
 have h':=h
 obtain⟨y,a,b,hu,d⟩:=h
 have lt:=h'.lt
 have qm:=Int.mul_ediv_add_emod U gh
 have m0:=Int.emod_nonneg U (show gh≠0 by omega)
 have m1:=Int.emod_lt_of_pos U (show 0<gh by omega)
 have qn:=Int.ediv_nonneg hu.1 (show 0<=gh by omega)
 have start:(U*4294967296+u)/Y<=U/gh:=by
  have e2:(U*4294967296+u)/Y<U/gh+1:=by
   refine Int.ediv_lt_of_lt_mul (by omega) ?_
   have e3:(U/gh+1)*Y=(gh*(U/gh))*4294967296+gh*4294967296+(U/gh+1)*vR:=by rw[y];grind
   have:=Int.mul_nonneg (show 0<=U/gh+1 by omega) b.1
   omega
  omega
 unfold GS
 refine LZ (λt x=>∃(q rh:Int),0<=q∧q*gh+rh=U∧(U*4294967296+u)/Y<=q∧(2-(t:Int))*2147483648<=rh∧0<=rh∧rh<4294967296∧x=(Y,s,gh,vR,U,u,u0,q,rh)) ?_ 2000 2 _ (by omega)
  ⟨U/gh,U%gh,qn,by rw[Int.mul_comm];exact qm,start,by omega,m0,by omega,rfl⟩
 rintro t _ c ⟨q,rh,q0,e,l,tb,r0,r1,rfl⟩ hc
 have down:(U*4294967296+u)/Y<=q-1->0<=q-1->(q-1)*gh+(rh+gh)=U:=λ_ _=>by
  have:(q-1)*gh=q*gh-gh:=by grind
  omega
 have qb:q<=4294967298:=by
  rcases Int.lt_or_le q 4294967298 with k|k
  ·omega
  ·exfalso
   have:=Int.mul_le_mul_of_nonneg_right k (show 0<=gh by omega)
   omega
 have w1:IntKind.wrap .u64 (rh+gh)=rh+gh:=by rw[wrap_u64];omega
 by_cases c1:q>=4294967296
 ·have d1:(U*4294967296+u)/Y<=q-1:=by omega
  have w2:IntKind.wrap .u64 (q-1)=q-1:=by rw[wrap_u64];omega
  have e2:=down d1 (by omega)
  simp only[GR,Pg.tu,Pg.tv,Pg.xN,Pg.DV,Pg.tw,Sum.elim_inl,Sum.elim_inr,wU,decide_eq_true c1,cond_true,w1,w2]
  by_cases c2:rh+gh>=4294967296
  ·rw[decide_eq_true c2,cond_true,h'.out e2 (by omega) c2 d1]
   exact h1 _ _ _ _ _
  ·rw[decide_eq_false c2,cond_false]
   have t1:1<=t:=by omega
   exact hc (t-1) _ (by omega) ⟨q-1,rh+gh,by omega,e2,d1,by omega,by omega,by omega,rfl⟩
 ·have pm:0<=q*vR∧q*vR<18446744073709551616:=by
   refine⟨Int.mul_nonneg q0 b.1,?_⟩
   have:=Int.mul_le_mul (show q<=4294967295 by omega) (show vR<=4294967295 by omega) b.1 (by omega)
   omega
  have w3:IntKind.wrap .u64 (q*vR)=q*vR:=by rw[wrap_u64];omega
  have w4:IntKind.wrap .u64 (4294967296*rh)=4294967296*rh:=by rw[wrap_u64];omega
  have w5:IntKind.wrap .u64 (4294967296*rh+u)=4294967296*rh+u:=by rw[wrap_u64];omega
  simp only[GR,Pg.tu,Pg.tv,Pg.xN,Pg.DV,Pg.tw,Sum.elim_inl,Sum.elim_inr,wU,decide_eq_false c1,cond_false,w1,w3,w4,w5]
  by_cases c3:q*vR>4294967296*rh+u
  ·have d1:=h'.down e c3
   have qp:1<=q:=by
    rcases Int.lt_or_le 0 q with k|k
    ·omega
    ·exfalso
     have:q=0:=by omega
     subst this
     omega
   have w2:IntKind.wrap .u64 (q-1)=q-1:=by rw[wrap_u64];omega
   have e2:=down d1 (by omega)
   rw[decide_eq_true c3,cond_true,w2]
   by_cases c2:rh+gh>=4294967296
   ·rw[decide_eq_true c2,cond_true,h'.out e2 (by omega) c2 d1]
    exact h2 _ _ _ _ _ _ _ _ _
   ·rw[decide_eq_false c2,cond_false]
    exact hc (t-1) _ (by omega) ⟨q-1,rh+gh,by omega,e2,d1,by omega,by omega,by omega,rfl⟩
  ·rw[decide_eq_false c3,cond_false,h'.stay e (by omega) l]
   exact h3 _ _ _ _ _ _
theorem aTD {ρ:Type}(Y s gh vR U u q1:Int)(h:Dig Y gh vR U u)(k:_->Option ρ)(r:Option ρ)
  (h1:∀rh a b c d,k (Sum.inl (Y,s,gh,vR,u,q1,rh,U,(U*4294967296+u)/Y,a,b,c,d))=r)
  (h2:∀rh a b c d e f g i,k (Sum.inr (Sum.inl (Y,s,gh,vR,u,q1,rh,U,(U*4294967296+u)/Y,a,b,c,d,e,f,g,i)))=r)
  (h3:∀rh a b c d e,k (Sum.inr (Sum.inr (Y,s,gh,vR,u,q1,rh,U,(U*4294967296+u)/Y,a,b,c,d,e)))=r):
  (GW (Y,s,gh,vR,u,q1,U%gh,U,U/gh)).bind k=r:=by
 have h':=h
 obtain⟨y,a,b,hu,d⟩:=h
 have lt:=h'.lt
 have qm:=Int.mul_ediv_add_emod U gh
 have m0:=Int.emod_nonneg U (show gh≠0 by omega)
 have m1:=Int.emod_lt_of_pos U (show 0<gh by omega)
 have qn:=Int.ediv_nonneg hu.1 (show 0<=gh by omega)
 have start:(U*4294967296+u)/Y<=U/gh:=by
  have e2:(U*4294967296+u)/Y<U/gh+1:=by
   refine Int.ediv_lt_of_lt_mul (by omega) ?_
   have e3:(U/gh+1)*Y=(gh*(U/gh))*4294967296+gh*4294967296+(U/gh+1)*vR:=by rw[y];grind
   have:=Int.mul_nonneg (show 0<=U/gh+1 by omega) b.1
   omega
  omega
 unfold GW
 refine LZ (λt x=>∃(q rh:Int),0<=q∧q*gh+rh=U∧(U*4294967296+u)/Y<=q∧(2-(t:Int))*2147483648<=rh∧0<=rh∧rh<4294967296∧x=(Y,s,gh,vR,u,q1,rh,U,q)) ?_ 2000 2 _ (by omega)
  ⟨U/gh,U%gh,qn,by rw[Int.mul_comm];exact qm,start,by omega,m0,by omega,rfl⟩
 rintro t _ c ⟨q,rh,q0,e,l,tb,r0,r1,rfl⟩ hc
 have down:(U*4294967296+u)/Y<=q-1->0<=q-1->(q-1)*gh+(rh+gh)=U:=λ_ _=>by
  have:(q-1)*gh=q*gh-gh:=by grind
  omega
 have qb:q<=4294967298:=by
  rcases Int.lt_or_le q 4294967298 with k|k
  ·omega
  ·exfalso
   have:=Int.mul_le_mul_of_nonneg_right k (show 0<=gh by omega)
   omega
 have w1:IntKind.wrap .u64 (rh+gh)=rh+gh:=by rw[wrap_u64];omega
 by_cases c1:q>=4294967296
 ·have d1:(U*4294967296+u)/Y<=q-1:=by omega
  have w2:IntKind.wrap .u64 (q-1)=q-1:=by rw[wrap_u64];omega
  have e2:=down d1 (by omega)
  simp only[GV,Pg.tu,Pg.tv,Pg.xN,Pg.DV,Pg.tw,Sum.elim_inl,Sum.elim_inr,wU,decide_eq_true c1,cond_true,w1,w2]
  by_cases c2:rh+gh>=4294967296
  ·rw[decide_eq_true c2,cond_true,h'.out e2 (by omega) c2 d1]
   exact h1 _ _ _ _ _
  ·rw[decide_eq_false c2,cond_false]
   have t1:1<=t:=by omega
   exact hc (t-1) _ (by omega) ⟨q-1,rh+gh,by omega,e2,d1,by omega,by omega,by omega,rfl⟩
 ·have pm:0<=q*vR∧q*vR<18446744073709551616:=by
   refine⟨Int.mul_nonneg q0 b.1,?_⟩
   have:=Int.mul_le_mul (show q<=4294967295 by omega) (show vR<=4294967295 by omega) b.1 (by omega)
   omega
  have w3:IntKind.wrap .u64 (q*vR)=q*vR:=by rw[wrap_u64];omega
  have w4:IntKind.wrap .u64 (4294967296*rh)=4294967296*rh:=by rw[wrap_u64];omega
  have w5:IntKind.wrap .u64 (4294967296*rh+u)=4294967296*rh+u:=by rw[wrap_u64];omega
  simp only[GV,Pg.tu,Pg.tv,Pg.xN,Pg.DV,Pg.tw,Sum.elim_inl,Sum.elim_inr,wU,decide_eq_false c1,cond_false,w1,w3,w4,w5]
  by_cases c3:q*vR>4294967296*rh+u
  ·have d1:=h'.down e c3
   have qp:1<=q:=by
    rcases Int.lt_or_le 0 q with k|k
    ·omega
    ·exfalso
     have:q=0:=by omega
     subst this
     omega
   have w2:IntKind.wrap .u64 (q-1)=q-1:=by rw[wrap_u64];omega
   have e2:=down d1 (by omega)
   rw[decide_eq_true c3,cond_true,w2]
   by_cases c2:rh+gh>=4294967296
   ·rw[decide_eq_true c2,cond_true,h'.out e2 (by omega) c2 d1]
    exact h2 _ _ _ _ _ _ _ _ _
   ·rw[decide_eq_false c2,cond_false]
    exact hc (t-1) _ (by omega) ⟨q-1,rh+gh,by omega,e2,d1,by omega,by omega,by omega,rfl⟩
  ·rw[decide_eq_false c3,cond_false,h'.stay e (by omega) l]
   exact h3 _ _ _ _ _ _
theorem aOk (hi lo y:Int)(h0:0<=hi)(h1:hi<y)(h2:y<18446744073709551616)(l0:0<=lo)(l1:lo<18446744073709551616):
  F6 hi lo y=some ((hi*18446744073709551616+lo)/y,(hi*18446744073709551616+lo)%y):=by
 simp only[F6,Ze,Pg.bO,Pg.bI,Pg.bZ,Pg.eB,Pg.dB]
 try delta wI wU
 have y0:(y==0)=false:=by rw[beq_eq_false_iff_ne];omega
 rw[y0,cond_false,decide_eq_false (show ¬y<=hi by omega),cond_false]
 by_cases hz:hi=0
 ·subst hz
  have z:((0:Int)==0)=true:=rfl
  have yn:(!decide (y=0))=true:=by rw[decide_eq_false (by omega)];rfl
  rw[z,cond_true,yn,cond_true,cond_true,Int.zero_mul,Int.zero_add,Int.tdiv_eq_ediv_of_nonneg l0,Int.tmod_eq_emod_of_nonneg l0]
  have d0:=Int.ediv_nonneg l0 (show 0<=y by omega)
  have d1:=Int.ediv_le_self y l0
  have w:IntKind.wrap .u64 (lo/y)=lo/y:=by rw[wrap_u64];omega
  rw[w]
 have z:(hi==0)=false:=by rw[beq_eq_false_iff_ne];exact hz
 rw[z,cond_false]
 obtain⟨s,s63,b0,b1,e⟩:=aSw y (by omega) h2
 rw[e,Option.bind_some]
 have P0:=kO s
 have Q0:=kO (64-s)
 have k1:IntKind.wrap .u64 (s:Int)=(s:Int):=by rw[wrap_u64];omega
 have k2:IntKind.wrap .u64 (64-(s:Int))=((64-s:Nat):Int):=by rw[wrap_u64];omega
 have k3:∀n:Nat,(!decide ((n:Int)<0))=true:=λn=>by rw[decide_eq_false (by omega)];rfl
 have k4:min (Int.toNat (s:Int)) 64=s:=by rw[Int.toNat_natCast];omega
 have k5:min (Int.toNat ((64-s:Nat):Int)) 64=64-s:=by rw[Int.toNat_natCast];omega
 have k6:IntKind.wrap .u64 (y*2^s)=y*2^s:=by rw[wrap_u64];omega
 simp only[k1,k2,k3,k4,k5,k6,cond_true]
 have pq:(18446744073709551616:Int)=2^s*2^(64-s):=by
  rw[<-pow_add',show s+(64-s)=64 by omega];rfl
 have ab:hi*2^s+2^s<=y*2^s:=by
  have:=Int.mul_le_mul_of_nonneg_right (show hi+1<=y by omega) (Int.le_of_lt P0)
  rw[Int.add_mul] at this;omega
 have a0:0<=hi*2^s:=Int.mul_nonneg h0 (Int.le_of_lt P0)
 have x0:0<=lo/2^(64-s):=Int.ediv_nonneg l0 (Int.le_of_lt Q0)
 have x1:lo/2^(64-s)<2^s:=Int.ediv_lt_of_lt_mul Q0 (by rw[<-pq];exact l1)
 have k7:IntKind.wrap .u64 (hi*2^s)=hi*2^s:=by rw[wrap_u64];omega
 have or1:Int.ofNat (BitVec.toNat (BitVec.ofInt 64 (hi*2^s)|||BitVec.ofInt 64 (Int.fdiv lo (2^(64-s)))))=hi*2^s+lo/2^(64-s):=by
  rw[oP _ _ (Int.le_of_lt Q0),BitVec.or_comm,avd _ _ s x0 x1 a0 (by omega) (by omega) (Int.mul_emod_left _ _)]
  omega
 have k8:IntKind.wrap .u64 (hi*2^s+lo/2^(64-s))=hi*2^s+lo/2^(64-s):=by rw[wrap_u64];omega
 simp only[k7,or1,k8]
 rw[wrap_u64 (lo*2^s)]
 have c0:0<=lo*2^s%18446744073709551616∧lo*2^s%18446744073709551616<18446744073709551616:=by omega
 have N:(hi*2^s+lo/2^(64-s))*18446744073709551616+lo*2^s%18446744073709551616=(hi*18446744073709551616+lo)*2^s:=by
  have m1:lo*2^s/18446744073709551616=lo/2^(64-s):=by
   rw[pq,Int.mul_comm lo,Int.mul_ediv_mul_of_pos _ _ P0]
  have m2:lo*2^s=lo*2^s/18446744073709551616*18446744073709551616+lo*2^s%18446744073709551616:=by omega
  have m3:(hi*18446744073709551616+lo)*2^s=hi*2^s*18446744073709551616+lo*2^s:=by grind
  rw[m3,<-m1];omega
 have U1:0<=hi*2^s+lo/2^(64-s)∧hi*2^s+lo/2^(64-s)<y*2^s:=by omega
 have am1:∀x:Int,0<=x->x<18446744073709551616->IntKind.wrap .u64 (Int.ofNat (BitVec.toNat (BitVec.ofInt 64 x&&&BitVec.ofInt 64 4294967295)))=x%4294967296:=λx x0 x1=>by
  rw[al2 x x0 x1,wrap_u64];omega
 rw[am1 (y*2^s) (by omega) b1,am1 _ c0.1 c0.2]
 simp only[oP _ 4294967296 (show(0:Int)<=4294967296 by decide)]
 have A1:(hi*18446744073709551616+lo)/y=(hi*18446744073709551616+lo)*2^s/(y*2^s):=by
  rw[Int.mul_comm _ (2^s),Int.mul_comm y,Int.mul_ediv_mul_of_pos _ _ P0]
 have A2:(hi*18446744073709551616+lo)%y=(hi*18446744073709551616+lo)*2^s%(y*2^s)/2^s:=by
  rw[Int.mul_comm _ (2^s),Int.mul_comm y,Int.mul_emod_mul_of_pos _ _ P0,Int.mul_ediv_cancel_left _ (by omega)]
 rw[A1,A2,<-N]
 generalize hi*2^s+lo/2^(64-s)=U at*
 generalize lo*2^s%18446744073709551616=L at*
 generalize hY:y*2^s=Y at*
 generalize h2s:(2:Int)^s=P at*
 clear N A1 A2 or1 k7 k8 x0 x1 ab a0 pq k6 e
 have hY1:2147483648<=Y/4294967296∧Y/4294967296<4294967296:=by omega
 have g1:Dig Y (Y/4294967296) (Y%4294967296) U (L/4294967296):=⟨by omega,hY1,by omega,U1,by omega⟩
 have yz:(!decide (Y/4294967296=0))=true:=by rw[decide_eq_false (by omega)];rfl
 have Q1:=g1.lt
 have R1:=Int.mul_ediv_add_emod (U*4294967296+L/4294967296) Y
 have R1a:=Int.emod_nonneg (U*4294967296+L/4294967296) (show Y≠0 by omega)
 have R1b:=Int.emod_lt_of_pos (U*4294967296+L/4294967296) (show 0<Y by omega)
 have q0:IntKind.wrap .u64 (Int.tdiv U (Y/4294967296))=U/(Y/4294967296):=by
  rw[Int.tdiv_eq_ediv_of_nonneg U1.1,wrap_u64]
  have:=Int.ediv_nonneg U1.1 (show 0<=Y/4294967296 by omega)
  have:=Int.ediv_le_self (Y/4294967296) U1.1
  omega
 have r0:IntKind.wrap .u64 (U-IntKind.wrap .u64 (U/(Y/4294967296)*(Y/4294967296)))=U%(Y/4294967296):=by
  have qm:=Int.ediv_mul_add_emod U (Y/4294967296)
  have m0:=Int.emod_nonneg U (show Y/4294967296≠0 by omega)
  have m1:=Int.emod_lt_of_pos U (show 0<Y/4294967296 by omega)
  rw[wrap_u64,wrap_u64]
  generalize U/(Y/4294967296)*(Y/4294967296)=A at*
  omega
 simp only[yz,cond_true,q0,r0]
 generalize hQ1:(U*4294967296+L/4294967296)/Y=q1 at*
 generalize hR1:(U*4294967296+L/4294967296)%Y=R at*
 have g2:Dig Y (Y/4294967296) (Y%4294967296) R (L%4294967296):=⟨by omega,hY1,by omega,⟨R1a,R1b⟩,by omega⟩
 have Q2:=g2.lt
 have R2:=Int.mul_ediv_add_emod (R*4294967296+L%4294967296) Y
 have R2a:=Int.emod_nonneg (R*4294967296+L%4294967296) (show Y≠0 by omega)
 have R2b:=Int.emod_lt_of_pos (R*4294967296+L%4294967296) (show 0<Y by omega)
 generalize hQ2:(R*4294967296+L%4294967296)/Y=q2 at*
 generalize hR2:(R*4294967296+L%4294967296)%Y=R' at*
 have un:IntKind.wrap .u64 (IntKind.wrap .u64 (IntKind.wrap .u64 (U*4294967296)+L/4294967296)-IntKind.wrap .u64 (q1*Y))=R:=by
  rw[Int.mul_comm q1 Y]
  simp only[wrap_u64]
  generalize Y*q1=A at*
  omega
 have q3:IntKind.wrap .u64 (Int.tdiv R (Y/4294967296))=R/(Y/4294967296):=by
  rw[Int.tdiv_eq_ediv_of_nonneg R1a,wrap_u64]
  have:=Int.ediv_nonneg R1a (show 0<=Y/4294967296 by omega)
  have:=Int.ediv_le_self (Y/4294967296) R1a
  omega
 have r3:IntKind.wrap .u64 (R-IntKind.wrap .u64 (R/(Y/4294967296)*(Y/4294967296)))=R%(Y/4294967296):=by
  have qm:=Int.ediv_mul_add_emod R (Y/4294967296)
  have m0:=Int.emod_nonneg R (show Y/4294967296≠0 by omega)
  have m1:=Int.emod_lt_of_pos R (show 0<Y/4294967296 by omega)
  rw[wrap_u64,wrap_u64]
  generalize R/(Y/4294967296)*(Y/4294967296)=A at*
  omega
 have un2:IntKind.wrap .u64 (IntKind.wrap .u64 (IntKind.wrap .u64 (R*4294967296)+L%4294967296)-IntKind.wrap .u64 (q2*Y))=R':=by
  rw[Int.mul_comm q2 Y]
  simp only[wrap_u64]
  generalize Y*q2=A at*
  omega
 have quo:IntKind.wrap .u64 (IntKind.wrap .u64 (q1*4294967296)+q2)=q1*4294967296+q2:=by
  simp only[wrap_u64];omega
 have ans:(U*18446744073709551616+L)/Y=q1*4294967296+q2∧(U*18446744073709551616+L)%Y=R':=by
  have e:U*18446744073709551616+L=R'+Y*(q1*4294967296+q2):=by
   have e2:Y*(q1*4294967296+q2)=Y*q1*4294967296+Y*q2:=by grind
   rw[e2];omega
  rw[e]
  constructor
  ·rw[Int.add_mul_ediv_left _ _ (by omega),Int.ediv_eq_zero_of_lt R2a R2b,Int.zero_add]
  ·rw[Int.add_mul_emod_self_left,Int.emod_eq_of_lt R2a R2b]
 rw[ans.1,ans.2]
 refine aTC Y s _ _ U _ _ g1 _ _ ?_ ?_ ?_
 all_goals
  intros
  simp only[Sum.elim_inl,Sum.elim_inr,hQ1,yz,cond_true,un,q3,r3]
  refine aTD Y s _ _ R _ _ g2 _ _ ?_ ?_ ?_
  all_goals
   intros
   simp only[Sum.elim_inl,Sum.elim_inr,hQ2,k3,cond_true,un2,quo,k4,h2s]
   rw[oP _ _ (Int.le_of_lt P0)]
end Go.Proofs.YtldgljclcgaibaaGreat
namespace Go.Proofs.YtldgljclcgaibaaGreat
open Go.Ab
def jR (x:Int):Int:=if x<0 then -x else x
theorem aGO (x:Int):0<=jR x:=by unfold jR;split<;>omega
def qdq (V D:Int):Int:=V/D+(if 2*(V%D)<D then 0 else 1)
def Lj (a d:Int):Int:=if (decide (a<0))=(decide (d<0)) then qdq (jR a) (jR d) else -qdq (jR a) (jR d)
theorem aEZ (h l d:Int)(o:okW h l)(d0: -9223372036854775808<=d)(d1:d<=9223372036854775807)(nz:d≠0):
  yN h l d=if -9223372036854775808<=Lj (vW h l) d∧Lj (vW h l) d<=9223372036854775807 then some (Lj (vW h l) d,true) else some (0,false):=by
 simp only[yN,aiI,Pg.bO,Pg.bI,Pg.bZ,Pg.eB,Pg.dB]
 try delta wI wU
 have z:(d==0)=false:=by rw[beq_eq_false_iff_ne];exact nz
 obtain⟨ah,al,e1,a0,a1,a2,a3,a4⟩:=aEV h l o
 have e2:=al3 d d0 d1
 rw[z,cond_false,e1,Option.bind_some,e2,Option.bind_some]
 simp only
 have D0:0<jR d:=by unfold jR;split<;>omega
 have D1:jR d<=9223372036854775808:=by unfold jR;split<;>omega
 have ed:(if d<0 then -d else d)=jR d:=rfl
 have va:ah*18446744073709551616+al=jR (vW h l):=by
  rw[a4]
  obtain⟨o1,o2,o3,o4⟩:=o
  unfold jR
  simp only[vW]
  split<;>split<;>omega
 have sn:decide (h<0)=decide (vW h l<0):=by
  obtain⟨o1,o2,o3,o4⟩:=o
  simp only[vW]
  by_cases c:h<0
  ·rw[decide_eq_true c,decide_eq_true (by omega)]
  ·rw[decide_eq_false c,decide_eq_false (by omega)]
 rw[ed,sn]
 generalize vW h l=V at*
 have nz2:(!decide (jR d=0))=true:=by rw[decide_eq_false (by omega)];rfl
 have r0:=Int.emod_nonneg ah (show jR d≠0 by omega)
 have r1:=Int.emod_lt_of_pos ah D0
 have q0:=Int.ediv_nonneg a0 (Int.le_of_lt D0)
 have q1:=Int.ediv_le_self (jR d) a0
 have qe:=Int.mul_ediv_add_emod ah (jR d)
 have dv:=aOk (ah%jR d) al (jR d) r0 r1 (by omega) a2 a3
 rw[nz2,cond_true,cond_true,Int.tmod_eq_emod_of_nonneg a0,dv,Option.bind_some,Int.tdiv_eq_ediv_of_nonneg a0]
 simp only
 have w1:IntKind.wrap .u64 (ah/jR d)=ah/jR d:=by rw[wrap_u64];omega
 have E:jR V=(ah%jR d*18446744073709551616+al)+jR d*(ah/jR d*18446744073709551616):=by
  rw[<-va]
  have:jR d*(ah/jR d*18446744073709551616)=jR d*(ah/jR d)*18446744073709551616:=by grind
  rw[this];omega
 have Q:jR V/jR d=(ah%jR d*18446744073709551616+al)/jR d+ah/jR d*18446744073709551616:=by
  rw[E,Int.add_mul_ediv_left _ _ (by omega)]
 have R:jR V%jR d=(ah%jR d*18446744073709551616+al)%jR d:=by rw[E,Int.add_mul_emod_self_left]
 have n0:0<=(ah%jR d*18446744073709551616+al)/jR d:=Int.ediv_nonneg (by omega) (Int.le_of_lt D0)
 have n1:(ah%jR d*18446744073709551616+al)/jR d<18446744073709551616:=by
  refine Int.ediv_lt_of_lt_mul D0 ?_
  omega
 have t0:=Int.emod_nonneg (ah%jR d*18446744073709551616+al) (show jR d≠0 by omega)
 have t1:=Int.emod_lt_of_pos (ah%jR d*18446744073709551616+al) D0
 rw[<-R] at t0 t1 ⊢
 have w2:IntKind.wrap .u64 (jR d-jR V%jR d)=jR d-jR V%jR d:=by rw[wrap_u64];omega
 rw[w1,w2]
 have sgn:(!decide (V<0)==decide (d<0))= !decide ((decide (V<0))=(decide (d<0))):=by
  cases decide (V<0)<;>cases decide (d<0)<;>rfl
 have qn:0<=qdq (jR V) (jR d):=by
  have:=aGO V
  have:=Int.ediv_nonneg this (Int.le_of_lt D0)
  unfold qdq;split<;>omega
 have fin:∀u v:Int,0<=u->0<=v->v<18446744073709551616->u*18446744073709551616+v=qdq (jR V) (jR d)->
   (Option.bind (ig u v (!decide (V<0)==decide (d<0))) λ(d:Int×Bool)=>some (d.1,d.2))=if -9223372036854775808<=Lj V d∧Lj V d<=9223372036854775807 then some (Lj V d,true) else some (0,false):=by
  intro u v u0 v0 v1 e
  rw[Ko u v _ u0 v0 v1,e,sgn]
  unfold Lj
  generalize qdq (jR V) (jR d)=q at*
  by_cases s:(decide (V<0))=(decide (d<0))
  ·rw[if_pos s,decide_eq_true s]
   simp only[Bool.not_true,Bool.false_eq_true,if_false]
   by_cases c:q<=9223372036854775807
   ·rw[if_pos c,if_pos (by omega),Option.bind_some]
    have uz:u=0:=by omega
    subst uz
    have:v=q:=by omega
    rw[this]
   ·rw[if_neg c,if_neg (by omega),Option.bind_some]
  ·rw[if_neg s,decide_eq_false s]
   simp only[Bool.not_false,if_true]
   by_cases c:q<=9223372036854775808
   ·rw[if_pos c,if_pos (by omega),Option.bind_some]
    have uz:u=0:=by omega
    subst uz
    have:v=q:=by omega
    rw[this]
   ·rw[if_neg c,if_neg (by omega),Option.bind_some]
 by_cases c:jR V%jR d>=jR d-jR V%jR d
 ·rw[decide_eq_true c,cond_true]
  obtain⟨u,v,e3,u0,u1,v0,v1,e4⟩:=aeL (ah/jR d) ((ah%jR d*18446744073709551616+al)/jR d) 0 1 q0 n0 (by omega) (by omega) n1 (by omega) (by omega)
  rw[e3,Option.bind_some]
  simp only
  refine fin u v u0 v0 v1 ?_
  rw[e4];unfold qdq
  rw[if_neg (by omega),Q];omega
 ·rw[decide_eq_false c,cond_false]
  refine fin _ _ q0 n0 n1 ?_
  unfold qdq
  rw[if_pos (by omega),Q];omega
theorem aOl (a d:Int)(nz:d≠0):((decide (a<0))=(decide (d<0))->0<=Lj a d)∧(¬(decide (a<0))=(decide (d<0))->Lj a d<=0):=by
 have D0:0<jR d:=by unfold jR;split<;>omega
 have q:=Int.ediv_nonneg (aGO a) (Int.le_of_lt D0)
 have qn:0<=qdq (jR a) (jR d):=by unfold qdq;split<;>omega
 unfold Lj
 constructor
 ·intro h;rw[if_pos h];exact qn
 ·intro h;rw[if_neg h];omega
theorem aNq (h l d:Int)(eM:Bool)(o:okW h l)(d0: -9223372036854775808<=d)(d1:d<=9223372036854775807)(nz:d≠0):
  vE h l d eM=some (sat (Lj (vW h l) d),eM||eS (Lj (vW h l) d)):=by
 simp only[vE,Jz,Pg.bO,Pg.bI,Pg.bZ,Pg.eB,Pg.dB]
 try delta wI wU
 have z:(d==0)=false:=by rw[beq_eq_false_iff_ne];exact nz
 have sn:decide (h<0)=decide (vW h l<0):=by
  obtain⟨o1,o2,o3,o4⟩:=o
  simp only[vW]
  by_cases c:h<0
  ·rw[decide_eq_true c,decide_eq_true (by omega)]
  ·rw[decide_eq_false c,decide_eq_false (by omega)]
 rw[z,cond_false,aEZ h l d o d0 d1 nz,sn]
 have s:=aOl (vW h l) d nz
 generalize vW h l=V at*
 by_cases c: -9223372036854775808<=Lj V d∧Lj V d<=9223372036854775807
 ·rw[if_pos c,Option.bind_some]
  simp only[abC,if_true,Option.bind_some]
 ·rw[if_neg c,Option.bind_some]
  simp only[abC,Bool.false_eq_true,if_false,Option.bind_some]
  by_cases e:(decide (V<0))=(decide (d<0))
  ·have p:=s.1 e
   have e2:(!decide (V<0)==decide (d<0))=false:=by rw[e,beq_self_eq_true];rfl
   rw[e2]
   unfold sat eS
   rw[if_neg (by decide),if_neg (by omega),if_pos (by omega),decide_eq_true (show 1152921504606846976<Lj V d by omega),Bool.or_true,Bool.or_true]
  ·have p:=s.2 e
   have e2:(!decide (V<0)==decide (d<0))=true:=by
    have:(decide (V<0)==decide (d<0))=false:=by rw[beq_eq_false_iff_ne];exact e
    rw[this];rfl
   rw[e2]
   unfold sat eS
   rw[if_pos rfl,if_pos (by omega),decide_eq_true (show Lj V d< -1152921504606846976 by omega),Bool.true_or,Bool.or_true]
theorem aJs (a b d:Int)(eM:Bool)(nz:sat d≠0):
  aS a b d eM=some (sat (Lj (sat a*sat b) (sat d)),((((eM||eS a)||eS b)||eS d)||eS (Lj (sat a*sat b) (sat d)))):=by
 simp only[aS,D3,Pg.bO,Pg.bI,Pg.bZ,Pg.eB,Pg.dB]
 try delta wI wU
 have:=oi a
 have:=oi b
 have:=oi d
 obtain⟨h,l,e1,e2,e3⟩:=Bu (sat a) (sat b) (by omega) (by omega) (by omega) (by omega)
 simp only[oz,Option.bind_some,e1,aNq h l (sat d) _ e2 (by omega) (by omega) nz,e3]
theorem aSx (a b:Int)(s:Nat)(eM:Bool)(hs:s<=66)(nz:sat b≠0):
  bk a b (Int.ofNat s) eM=some (sat (Lj (sat a*2^s) (sat b)),(((eM||eS a)||eS b)||eS (Lj (sat a*2^s) (sat b)))):=by
 simp only[bk,NM,Pg.bO,Pg.bI,Pg.bZ,Pg.eB,Pg.dB]
 try delta wI wU
 have ha:=oi a
 have hb:=oi b
 have P0:=kO s
 have PB:(2:Int)^s<=2^66:=aj6 hs
 have PV:(2:Int)^66=73786976294838206464:=by decide
 have m1:sat a*2^s<=1152921504606846976*73786976294838206464:=by
  rcases Int.le_total 0 (sat a) with c|c
  ·exact Int.mul_le_mul ha.2 (by omega) (Int.le_of_lt P0) (by omega)
  ·have:=aGN (a:= -sat a) (b:=2^s) (by omega) (Int.le_of_lt P0)
   rw[Int.neg_mul] at this;omega
 have m2: -(1152921504606846976*73786976294838206464)<=sat a*2^s:=by
  rcases Int.le_total 0 (sat a) with c|c
  ·have:=aGN c (Int.le_of_lt P0);omega
  ·have:=Int.mul_le_mul (show -sat a<=1152921504606846976 by omega) (show(2:Int)^s<=73786976294838206464 by omega) (Int.le_of_lt P0) (by omega)
   rw[Int.neg_mul] at this;omega
 have mv:(1152921504606846976:Int)*73786976294838206464=85070591730234615865843651857942052864:=by decide
 obtain⟨h,l,b',e1,o1,f1,v1,_⟩:=aj7 (sat a) s (by omega) (by omega) (by omega)
 have bt:b'=true:=f1.2 ⟨by omega,by omega⟩
 subst bt
 have n0:decide (Int.ofNat s<0)=false:=by simp
 have n1:decide (Int.ofNat s>66)=false:=by simp only[Int.ofNat_eq_natCast];exact decide_eq_false (by omega)
 simp only[oz,Option.bind_some,n0,n1,cond_false,e1,aNq h l (sat b) _ o1 (by omega) (by omega) nz,v1 rfl]
end Go.Proofs.YtldgljclcgaibaaGreat
namespace Go.Proofs.YtldgljclcgaibaaGreat
open Go.Ab
theorem asO (h l r:Int)(eM:Bool)(o:okW h l)(h0:0<=h)(hr:isR r (vW h l)):vG h l eM=some (sat r,eM||eS r):=by
 obtain⟨r',e1,e2,e3⟩:=ap8 h l o h0
 have:=aOh hr e1
 subst this
 simp only[vG,aiM,Pg.bO,Pg.bI,Pg.bZ,Pg.eB,Pg.dB]
 try delta wI wU
 rw[e3]
 by_cases c:r<=9223372036854775807
 ·rw[if_pos c,Option.bind_some]
  simp only[Bool.not_true,cond_false,oz,Option.bind_some]
 ·rw[if_neg c,Option.bind_some]
  simp only[Bool.not_false,cond_true,oz,Option.bind_some]
  have a:sat r=sat 1152921504606846977:=by
   unfold sat
   rw[if_neg (by omega),if_pos (by omega),if_neg (by omega),if_pos (by omega)]
  have b:eS r=eS 1152921504606846977:=by
   unfold eS
   rw[decide_eq_true (show 1152921504606846976<r by omega),decide_eq_true (show(1152921504606846976:Int)<1152921504606846977 by omega),Bool.or_true,Bool.or_true]
  rw[a,b]
end Go.Proofs.YtldgljclcgaibaaGreat
namespace Go.Proofs.YtldgljclcgaibaaGreat
open Go.Ab Go.Ab.Pg
instance aXR (x:Int)(h:Bool):bj (aO x h):=⟨_,oz x h⟩
instance aWT (x a b:Int)(h:Bool):bj (aX x a b h):=aF (p:=vf x a b h) (by simp only[vf,aL,av,implies_true,and_self])
instance aXB (b:Bool):bj (oK b):=aF (p:=TI b) (by simp only[TI,aL,av,implies_true,and_self])
instance aXS (x:Int):bj (vi x):=aF (p:=Bm x) (by simp only[Bm,aL,av,implies_true,and_self])
instance aXC (x:Int):bj (jx x):=aF (p:=Sn x) (by simp only[Sn,aL,av,bG,implies_true,and_self])
instance aXT (a:Int)(b c d:Bool):bj (lK a b c d):=aF (p:=F4 oK aO a b c d) (by simp only[F4,aL,av,bx,implies_true,and_self])
instance aXU (x y:Int)(h:Bool):bj (bD x y h):=aF (p:=Ga aO x y h) (by simp only[Ga,aL,av,bx,implies_true,and_self])
theorem aMe (a b:Int)(s:Nat)(hs:s<=120)(h:Bool):bj (aT a b (Int.ofNat s) h):=⟨_,aJp a b s h hs⟩
instance aWU (a b:Int)(h:Bool):bj (aT a b 30 h):=aMe a b 30 (by omega) h
instance aWV (a b:Int)(h:Bool):bj (aT a b 44 h):=aMe a b 44 (by omega) h
instance aWW (a b:Int)(h:Bool):bj (aT a b 10 h):=aMe a b 10 (by omega) h
instance t_m (a b:Int)(h:Bool):bj (Iy a b h):=aF (p:=al0 aT a b h) (by simp only[al0,aL,av,bx,implies_true,and_self])
theorem aVy (s:Nat)(hs:s<=120)(n:Nat)(hn:n<=100)(eM:Bool)(f g:Nat->Int)(w w':Bool):bj (bn (Int.ofNat s) n n eM f g w w'):=⟨_,aJq s hs n hn eM f g w w'⟩
theorem Kq (n:Nat)(hn:n<=100)(eM:Bool)(f g:Nat->Int)(w w':Bool):bj (bn 30 n n eM f g w w'):=aVy 30 (by omega) n hn eM f g w w'
instance aXD (eM:Bool)(f g:Nat->Int)(w w':Bool):bj (bn 30 2 2 eM f g w w'):=Kq 2 (by omega) eM f g w w'
instance aXE (eM:Bool)(f g:Nat->Int)(w w':Bool):bj (bn 30 3 3 eM f g w w'):=Kq 3 (by omega) eM f g w w'
instance aXF (eM:Bool)(f g:Nat->Int)(w w':Bool):bj (bn 30 4 4 eM f g w w'):=Kq 4 (by omega) eM f g w w'
instance aWX (eM:Bool)(f g:Nat->Int)(w w':Bool):bj (bn 30 24 24 eM f g w w'):=Kq 24 (by omega) eM f g w w'
instance aWY (eM:Bool)(f g:Nat->Int)(w w':Bool):bj (bn 30 48 48 eM f g w w'):=Kq 48 (by omega) eM f g w w'
theorem aGP (n:Nat)(hn:n<=1900)(eM:Bool)(l:Nat->Int)(w:Bool):bj (cC n eM l w):=⟨_,aSt n hn eM l w⟩
instance aXG (eM:Bool)(l:Nat->Int)(w:Bool):bj (cC 2 eM l w):=aGP 2 (by omega) eM l w
instance aXH (eM:Bool)(l:Nat->Int)(w:Bool):bj (cC 3 eM l w):=aGP 3 (by omega) eM l w
theorem aSy (x y:Int)(h:Bool):bj (vE x y 0 h):=aF (p:=Jz oK yN lK x y 0 h) (by
 unfold Jz
 simp only[aL,av,bx,implies_true,and_self,true_and]
 intro h;simp at h)
instance aV7 (a b d:Int)(h:Bool):bj (aS a b d h):=by
 by_cases nz:sat d=0
 ·have h1:=oi a
  have h2:=oi b
  obtain⟨x,y,e,_,_⟩:=Bu (sat a) (sat b) (by omega) (by omega) (by omega) (by omega)
  have:=(aSy x y (((h||eS a)||eS b)||eS d)).ok
  refine⟨?_⟩
  simp only[aS,D3,bO,bI,bZ,oz,Option.bind_some,e,nz]
  obtain⟨d,hd⟩:=this
  rw[hd]
  exact⟨_,rfl⟩
 ·exact⟨_,aJs a b d h nz⟩
theorem aSz (a b:Int)(s:Nat)(hs:s<=66)(h:Bool):bj (bk a b (Int.ofNat s) h):=by
 by_cases nz:sat b=0
 ·have h1:=oi a
  obtain⟨x,y,q,e,_,_⟩:=aj7 (sat a) s (by omega) (by omega) (by omega)
  have:=(aSy x y ((h||eS a)||eS b)).ok
  refine⟨?_⟩
  have n0:decide (Int.ofNat s<0)=false:=by simp
  have n1:decide (Int.ofNat s>66)=false:=by simp only[Int.ofNat_eq_natCast];exact decide_eq_false (by omega)
  simp only[bk,NM,bO,bI,bZ,oz,Option.bind_some,n0,n1,cond_false,e,nz]
  obtain⟨d,hd⟩:=this
  rw[hd]
  exact⟨_,rfl⟩
 ·exact⟨_,aSx a b s h hs nz⟩
instance aWZ (a b:Int)(h:Bool):bj (bk a b 30 h):=aSz a b 30 (by omega) h
instance aW0 (a b:Int)(h:Bool):bj (bk a b 44 h):=aSz a b 44 (by omega) h
def sq2 (f:Nat->Int)(n:Nat):Int:=xt (λj=>sat (f j)*sat (f j)) n
theorem axq (f:Nat->Int):∀n,0<=sq2 f n
 |0=>Int.le_refl 0
 |n+1=>by
  have:=axq f n
  have h2:0<=sat (f n)*sat (f n):=by
   rcases Int.le_total 0 (sat (f n)) with h|h
   ·exact Int.mul_nonneg h h
   ·exact Int.mul_nonneg_of_nonpos_of_nonpos h h
  unfold sq2 at*
  rw[xt];omega
theorem aOm (n:Nat)(hn:n<=64)(eM:Bool)(f:Nat->Int)(w:Bool):∃r,isR r (sq2 f n)∧fJ n eM f w=some (sat r,(eM||CZ (λj=>eS (f j)) n)||eS r):=by
 have nn:=axq f n
 have key:∃x,fJ n eM f w=x∧∃h l,okW h l∧vW h l=sq2 f n∧x=(vG h l (eM||CZ (λj=>eS (f j)) n)):=by
  refine⟨_,rfl,?_⟩
  have m:(if 64<Int.ofNat n then(64:Int) else Int.ofNat n)=Int.ofNat n:=by rw[if_neg (by simp only[Int.ofNat_eq_natCast];omega)]
  have k:Ir (Int.ofNat n) n=true:=by simp[Ir]
  have q:Int.toNat (Int.ofNat n)=n:=rfl
  simp only[fJ,Zt,bO,bI,bZ,eB,m,k,q,cond_true]
  unfold Qg
  obtain⟨x,hx,i,h,l,ho,hv,rfl⟩:=XA (s:=AN aO eN jl)
   (λt d=>∃(i:Nat) (h l':Int),i+t=n∧okW h l'∧vW h l'=sq2 f i∧d=(((n,w&&false),Int.ofNat n,Int.ofNat i),(eM||CZ (λj=>eS (f j)) i),(n,f),h,l'))
   (λx=>∃(i:Nat) (h l':Int),okW h l'∧vW h l'=sq2 f n∧x=(((n,w&&false),Int.ofNat n,Int.ofNat n,decide (Int.ofNat n<Int.ofNat n)),(eM||CZ (λj=>eS (f j)) n),(n,f),h,l')) (λt d=>by
    rintro ⟨i,h,l',hi,ho,hv,rfl⟩
    have bnd:=aj5 (λj=>sat (f j)*sat (f j)) 1329227995784915872903807060280344576 (by omega) i (λj _=>abD _ _)
    have hv':vW h l'=xt (λj=>sat (f j)*sat (f j)) i:=hv
    rcases Nat.eq_zero_or_pos t with t0|t0
    ·have e:i=n:=by omega
     subst e
     simp only[AN,bO,bI,bZ,eB,asL (Nat.le_refl i),cond_false]
     exact⟨_,rfl,i,h,l',ho,hv,by rfl⟩
    ·have hs1:=oi (f i)
     have hm:=abD (f i) (f i)
     obtain⟨h1,l1,e1,o1,v1⟩:=Bu (sat (f i)) (sat (f i)) (by omega) (by omega) (by omega) (by omega)
     obtain⟨h2,l2,e2,o2,v2⟩:=aeK (λj:Nat=>bif Nat.beq j 1 then h1 else bif Nat.beq j 0 then h else h) (λj:Nat=>bif Nat.beq j 1 then l1 else bif Nat.beq j 0 then l' else l') true
      ho o1 (by show _<=vW h l'+vW h1 l1;rw[hv',v1];omega) (by show vW h l'+vW h1 l1<_;rw[hv',v1];omega)
     have v2:vW h2 l2=vW h l'+vW h1 l1:=v2
     rw[hv',v1] at v2
     have q:Int.toNat (Int.ofNat i)=i:=rfl
     simp only[AN,bO,bI,bZ,eB,wI,asK hi t0,asM (show i<n by omega),cond_true,q,oz,Option.bind_some,e1,e2,asN (show i<9000000000000000000 by omega)]
     refine⟨_,rfl,t-1,by omega,i+1,h2,l2,by omega,o2,v2,?_⟩
     simp only[CZ,Bool.or_assoc])
   2000 n (((n,w&&false),Int.ofNat n,0),eM,(n,f),0,0) (by omega) ⟨0,0,0,by omega,⟨by omega,by omega,by omega,by omega⟩,rfl,by simp only[CZ,Bool.or_false];rfl⟩
  rw[hx]
  refine⟨h,l,ho,hv,?_⟩
  simp only[Option.bind_some]
  cases vG h l (eM||CZ (λj=>eS (f j)) n)<;>rfl
 obtain⟨x,hx,h,l,ho,hv,rfl⟩:=key
 have h0:0<=h:=by
  obtain⟨o1,o2,o3,o4⟩:=ho
  rw[<-hv] at nn
  simp only[vW] at nn;omega
 obtain⟨r,hr,_,_⟩:=ap8 h l ho h0
 refine⟨r,hv▸hr,?_⟩
 rw[hx]
 exact asO h l r _ ho h0 hr
theorem aBY (n:Nat)(hn:n<=64)(eM:Bool)(f:Nat->Int)(w:Bool):bj (fJ n eM f w):=by
 obtain⟨r,_,h⟩:=aOm n hn eM f w
 exact⟨_,h⟩
instance aV8 (eM:Bool)(f:Nat->Int)(w:Bool):bj (fJ 3 eM f w):=aBY 3 (by omega) eM f w
instance aV9 (eM:Bool)(f:Nat->Int)(w:Bool):bj (fJ 4 eM f w):=aBY 4 (by omega) eM f w
end Go.Proofs.YtldgljclcgaibaaGreat
namespace Go.Proofs.YtldgljclcgaibaaGreat
open Go.Ab Go.Ab.Pg
theorem asQ (d:jy.B)(hd:0<=d.1.2.2.2.2∧d.1.2.2.2.2<=d.1.2.2.2.1∧d.1.2.2.2.1<=1999∧d.1.2.2.2.1=((d.1.2.2.1.1:Nat):Int)):Ok (Me d) (λx:sV=>True):=
 bd (s:=_) (λd:jy.B=>0<=d.1.2.2.2.2∧d.1.2.2.2.2<=d.1.2.2.2.1∧d.1.2.2.2.1<=1999∧d.1.2.2.2.1=((d.1.2.2.1.1:Nat):Int)) (λd:jy.B=>Int.toNat (d.1.2.2.2.1-d.1.2.2.2.2)) (λx:sV=>True) (λd hd=>by
  have hw:wI (d.1.2.2.2.2+1)=d.1.2.2.2.2+1:=bf (by omega) (by omega)
  unfold Md
  simp only[bB]
  simp only[nf,sO,hw]
  repeat' (first|exact True.intro|omega|(intro _)|(apply And.intro))) 2000 d hd (by omega)
theorem avg (x0:Int)(x1:Nat)(h1:1<=x1)(h2:x1<=1000)(x2:Bool)(x3:Nat->Int)(w0:Bool):bj (lM x0 x1 x2 x3 w0):=by
 unfold lM TY
 refine aF ?_
 rw[bG,bG]
 refine⟨by simp only[bl];omega,by simp only[abb];omega,?_⟩
 refine aA (asQ _ (hdN (x1-1) (by omega))) λd _ hd=> ?_
 simp only[av]
instance aVz (x0:Int)(x2:Bool)(x3:Nat->Int)(w0:Bool):bj (lM x0 6 x2 x3 w0):=avg _ _ (by omega) (by omega) _ _ _
instance aVA (x0:Int)(x2:Bool)(x3:Nat->Int)(w0:Bool):bj (lM x0 7 x2 x3 w0):=avg _ _ (by omega) (by omega) _ _ _
instance aUJ (x0:Int)(x2:Bool)(x3:Nat->Int)(w0:Bool):bj (lM x0 12 x2 x3 w0):=avg _ _ (by omega) (by omega) _ _ _
instance aUK (x0:Int)(x1:Bool):bj (mD x0 x1):=by
 unfold mD aiV
 exact aF (by simp only[bB])
instance aUL (x0:Int)(x1:Bool):bj (pU x0 x1):=by
 unfold pU aiW
 exact aF (by simp only[bB])
instance aS9 (x0:Int)(x1:Int)(x2:Bool):bj (wB x0 x1 x2):=by
 unfold wB Zr
 exact aF (by simp only[bB])
instance aVB (x0:Int)(x1:Int)(x2:Int)(x3:Int)(x4:Int)(x5:Int)(x6:Bool):bj (tz x0 x1 x2 x3 x4 x5 x6):=by
 unfold tz apQ
 exact aF (by simp only[bB])
instance aTE (x0:Int)(x1:Int)(x2:Int)(x3:Int)(x4:Bool):bj (rK x0 x1 x2 x3 x4):=by
 unfold rK adZ
 exact aF (by simp only[bB])
instance aUM (x0:Int)(x1:Int)(x2:Int)(x3:Bool):bj (nX x0 x1 x2 x3):=by
 unfold nX aiY
 exact aF (by simp only[bB])
instance aVC (x0:Int)(x1:Int)(x2:Int)(x3:Bool):bj (zq x0 x1 x2 x3):=by
 unfold zq apR
 exact aF (by simp only[bB])
instance aSA (x0:Int)(x1:Int)(x2:Bool):bj (tx x0 x1 x2):=by
 unfold tx TN
 exact aF (by simp only[bB])
instance aGQ (x0:Int)(x1:Int)(x2:Int)(x3:Int)(x4:Bool):bj (iG x0 x1 x2 x3 x4):=by
 unfold iG zm
 exact aF (by simp only[bB])
theorem aBZ (d:np.B)(hd:0<=d.1∧d.1<=4):Ok (Zx d) (λx:Bo=>True):=
 bd (s:=_) (λd:np.B=>0<=d.1∧d.1<=4) (λd:np.B=>Int.toNat (4-d.1)) (λx:Bo=>True) (λd hd=>by
  have hw:wI (d.1+1)=d.1+1:=bf (by omega) (by omega)
  unfold Zw
  simp only[bB]
  simp only[nf,sO,hw]
  repeat' (first|exact True.intro|omega|(intro _)|(apply And.intro))) 2000 d hd (by omega)
instance aUN (x0:Int)(x1:Int)(x2:Int)(x3:Int)(x4:Bool):bj (vJ x0 x1 x2 x3 x4):=by
 unfold vJ ai0
 refine aF ?_
 refine aA (aBZ _ (by simp)) λd _ hd=> ?_
 simp only[bB]
instance aUO:bj mE:=by
 unfold mE ai5
 exact aF (by simp only[bB])
instance aTF (x0:Int)(x1:Int)(x2:Int)(x3:Int):bj (zr x0 x1 x2 x3):=by
 unfold zr ad9
 exact aF (by simp only[bB])
theorem avh (d:kH.B)(hd:0<=d.1.2∧d.1.2<=3):Ok (Qi d) (λx:vj=>True):=
 bd (s:=_) (λd:kH.B=>0<=d.1.2∧d.1.2<=3) (λd:kH.B=>Int.toNat (3-d.1.2)) (λx:vj=>True) (λd hd=>by
  have hw:wI (d.1.2+1)=d.1.2+1:=bf (by omega) (by omega)
  unfold Qh
  simp only[bB]
  simp only[nf,sO,hw]
  repeat' (first|exact True.intro|omega|(intro _)|(apply And.intro))) 2000 d hd (by omega)
instance aTa (x0:Nat->Int)(x1:Int):bj (ee x0 x1):=by
 unfold ee Zz
 refine aF ?_
 refine aA (avh _ (by simp)) λd _ hd=> ?_
 simp only[bB]
theorem avi (d:kI.B)(hd:0<=d.1.2.2.2.2∧d.1.2.2.2.2<=d.1.2.2.2.1∧d.1.2.2.2.1<=1999∧d.1.2.2.2.1=((d.1.2.2.1.1:Nat):Int)):Ok (Qk d) (λx:vk=>True):=
 bd (s:=_) (λd:kI.B=>0<=d.1.2.2.2.2∧d.1.2.2.2.2<=d.1.2.2.2.1∧d.1.2.2.2.1<=1999∧d.1.2.2.2.1=((d.1.2.2.1.1:Nat):Int)) (λd:kI.B=>Int.toNat (d.1.2.2.2.1-d.1.2.2.2.2)) (λx:vk=>True) (λd hd=>by
  have hw:wI (d.1.2.2.2.2+1)=d.1.2.2.2.2+1:=bf (by omega) (by omega)
  unfold Qj
  simp only[bB]
  simp only[nf,sO,hw]
  repeat' (first|exact True.intro|omega|(intro _)|(apply And.intro))) 2000 d hd (by omega)
theorem aob (x0:Nat->Int)(x1:Int)(x2:Nat)(x3:Nat->Int)(w0:Bool)(h:x2<=1999):bj (fK x0 x1 x2 x3 w0):=by
 unfold fK ZD
 refine aF ?_
 rw[aR,bG]
 refine⟨rfl,?_⟩
 refine aA (avi _ (hdN x2 h)) λd _ hd=> ?_
 simp only[bB]
instance aW1 (x0:Nat->Int)(x1:Int)(x3:Nat->Int)(w0:Bool):bj (fK x0 x1 3 x3 w0):=aob _ _ _ _ _ (by omega)
instance aW2 (x0:Nat->Int)(x1:Int)(x3:Nat->Int)(w0:Bool):bj (fK x0 x1 4 x3 w0):=aob _ _ _ _ _ (by omega)
instance aUP (x0:Int)(x1:Int)(x2:Int)(x3:Int)(x4:Int)(x5:Int)(x6:Int)(x7:Int)(x8:Bool):bj (OE x0 x1 x2 x3 x4 x5 x6 x7 x8):=by
 unfold OE ai7
 exact aF (by simp only[bB])
instance aUQ (x0:Int)(x1:Int)(x2:Int)(x3:Int)(x4:Bool):bj (OF x0 x1 x2 x3 x4):=by
 unfold OF ai9
 exact aF (by simp only[bB])
theorem aj8 (d:fW.B)(hd:0<=d.1.2.2∧d.1.2.2<=d.1.1∧d.1.1<=1999∧d.1.1<=24):Ok (Fc d) (λx:nN=>True):=
 bd (s:=_) (λd:fW.B=>0<=d.1.2.2∧d.1.2.2<=d.1.1∧d.1.1<=1999∧d.1.1<=24) (λd:fW.B=>Int.toNat (d.1.1-d.1.2.2)) (λx:nN=>True) (λd hd=>by
  have hw:wI (d.1.2.2+1)=d.1.2.2+1:=bf (by omega) (by omega)
  unfold Fb
  simp only[bB]
  simp only[nf,sO,hw]
  repeat' (first|exact True.intro|omega|(intro _)|(apply And.intro))) 2000 d hd (by omega)
theorem ny (x0:Int)(x1:Int)(x2:Int)(x3:Nat->Int)(h0:0<=x0)(h1:x0<=x1)(h2:x1<=24):bj (vK x0 x1 x2 x3):=by
 unfold vK JN
 refine aF ?_
 refine aA (aj8 _ (by dsimp only;omega)) λd _ hd=> ?_
 simp only[av]
instance aO0 (x0:Int)(x1:Bool):bj (me x0 x1):=by
 unfold me G4
 exact aF (by simp only[bB])
theorem aml (d:dO.B)(hd:0<=d.1∧d.1<=24):Ok (zu d) (λx:j7=>True):=
 bd (s:=_) (λd:dO.B=>0<=d.1∧d.1<=24) (λd:dO.B=>Int.toNat (24-d.1)) (λx:j7=>True) (λd hd=>by
  have hw:wI (d.1+1)=d.1+1:=bf (by omega) (by omega)
  unfold zt
  simp only[bB]
  simp only[nf,sO,hw]
  repeat' (first|exact True.intro|omega|(intro _)|(apply And.intro))) 2000 d hd (by omega)
theorem amm (d:dP.B)(hd:0<=d.1∧d.1<=276):Ok (zy d) (λx:j8=>True):=
 bd (s:=_) (λd:dP.B=>0<=d.1∧d.1<=276) (λd:dP.B=>Int.toNat (276-d.1)) (λx:j8=>True) (λd hd=>by
  have hw:wI (d.1+1)=d.1+1:=bf (by omega) (by omega)
  unfold zw
  simp only[bB]
  simp only[nf,sO,hw]
  repeat' (first|exact True.intro|omega|(intro _)|(apply And.intro))) 2000 d hd (by omega)
instance aOn (x0:Nat->Int)(x1:Nat->Int)(x2:Bool):bj (eX x0 x1 x2):=by
 unfold eX D6
 refine aF ?_
 refine aA (aml _ (by simp)) λd _ hd=> ?_
 refine aA (amm _ (by simp)) λd _ hd=> ?_
 simp only[bB]
theorem aDn (d:po.B)(hd:0<=d.1.2∧d.1.2<=24):Ok (aed d) (λx:Ea=>True):=
 bd (s:=_) (λd:po.B=>0<=d.1.2∧d.1.2<=24) (λd:po.B=>Int.toNat (24-d.1.2)) (λx:Ea=>True) (λd hd=>by
  have hw:wI (d.1.2+1)=d.1.2+1:=bf (by omega) (by omega)
  unfold aec
  simp only[bB]
  simp only[nf,sO,hw]
  repeat' (first|exact True.intro|omega|(intro _)|(apply And.intro))) 2000 d hd (by omega)
instance aVD (x0:Nat)(x1:Bool)(x2:Nat->Int)(w0:Bool):bj (Uc x0 x1 x2 w0):=by
 unfold Uc apU
 refine aF ?_
 rw[aR,bG]
 refine⟨rfl,?_⟩
 refine aA (aDn _ (by simp)) λd _ hd=> ?_
 simp only[bB]
end Go.Proofs.YtldgljclcgaibaaGreat
namespace Go.Proofs.YtldgljclcgaibaaGreat
open Go.Ab Go.Ab.Pg
theorem aMf:∀j:Nat,j<24->0<=wI (Int.tdiv (wI ((j:Int)*wI ((j:Int)-1))) 2)∧wI (Int.tdiv (wI ((j:Int)*wI ((j:Int)-1))) 2)+(j:Int)<=276+(if j=0 then 1 else 0):=by decide
theorem aJt {i j:Int}{d:Sq}(h:iH i j=some d)(ok:d.2=true):0<=d.1∧d.1<276:=by
 simp only[iH,Eb,bO,bI] at h
 by_cases h0:0<=i
 ·by_cases h1:i<j
  ·simp only[ge_iff_le,h0,h1,decide_true,cond_true,Option.some.injEq] at h
   subst h
   have h2:j<24:=of_decide_eq_true ok
   obtain⟨n,rfl⟩:=Int.eq_ofNat_of_zero_le (by omega:0<=j)
   obtain⟨k1,k2⟩:=aMf n (by omega)
   rw[if_neg (by omega)] at k2
   generalize wI (Int.tdiv (wI ((n:Int)*wI ((n:Int)-1))) 2)=c at*
   show 0<=wI (c+i)∧wI (c+i)<276
   rw[eK (by omega) (by omega)]
   omega
  ·simp only[ge_iff_le,h0,h1,decide_true,decide_false,cond_true,cond_false,Option.some.injEq] at h
   subst h;cases ok
 ·simp only[ge_iff_le,h0,decide_false,cond_false,Option.some.injEq] at h
  subst h;cases ok
instance aTG (x0:Int)(x1:Int):bj (iH x0 x1):=by
 unfold iH Eb
 exact aF (by simp only[bB])
instance aW3 (x0:Nat->Int)(x1:Nat->Int)(x2:Int)(x3:Int):bj (CO x0 x1 x2 x3):=by
 have key:∀d,iH x2 x3=some d->((!d.2)=false->aW d.1 276=true∧Nat.ble (0+Int.toNat d.1*1+1) 276=true):=λd h k=>by
  have:=aJt h (by simpa using k)
  simp only[bl,bP];omega
 unfold CO ar5
 refine aF ?_
 simp only[bB,nf]
 repeat' (first|(apply And.intro)|(intro _ h k;exact⟨λ_=>(key _ h k).2,(key _ h k).1⟩)|(intro _ h k;exact key _ h k)|(intro _))
instance aVE (x0:Nat->Int)(x1:Nat->Int)(x2:Int)(x3:Int)(x4:Int):bj (wE x0 x1 x2 x3 x4):=by
 unfold wE aeh
 refine aF ?_
 simp only[bB,nf]
 intro d h k
 have:=aJt h k
 simp only[bl,bP,Bool.and_eq_true]
 omega
theorem ap9 (d:eL.B)(hd:0<=d.1∧d.1<=24):Ok (B9 d) (λx:lr=>True):=
 bd (s:=_) (λd:eL.B=>0<=d.1∧d.1<=24) (λd:eL.B=>Int.toNat (24-d.1)) (λx:lr=>True) (λd hd=>by
  have hw:wI (d.1+1)=d.1+1:=bf (by omega) (by omega)
  unfold B8
  simp only[bB]
  simp only[nf,sO,hw]
  repeat' (first|exact True.intro|omega|(intro _)|(apply And.intro))) 2000 d hd (by omega)
instance aO1:bj (mf):=by
 unfold mf G5
 refine aF ?_
 refine aA (ap9 _ (by simp)) λd _ hd=> ?_
 simp only[bB]
theorem ay0 (d:mg.B)(hd:0<=d.1∧d.1<=3):Ok (Ug d) (λx:xU=>True):=
 bd (s:=_) (λd:mg.B=>0<=d.1∧d.1<=3) (λd:mg.B=>Int.toNat (3-d.1)) (λx:xU=>True) (λd hd=>by
  have hw:wI (d.1+1)=d.1+1:=bf (by omega) (by omega)
  unfold Uf
  try dsimp only
  by_cases hc:d.1<3
  case neg=>simp only[hc,decide_false,aL,av,Sum.elim_inr,implies_true,and_true,Bool.false_eq_true,false_implies]
  have h1:wI (3*d.1)=3*d.1:=eK (by omega) (by omega)
  have h2:wI (3*d.1+3)=3*d.1+3:=eK (by omega) (by omega)
  have h3:Int.toNat (3*d.1+3)-Int.toNat (3*d.1)=3:=by omega
  simp only[h1,h2,h3]
  simp only[bB]
  simp only[nf,sO,hw]
  repeat' (first|exact True.intro|omega|(intro _)|(apply And.intro))) 2000 d hd (by omega)
instance aTH (x0:Nat->Int)(x1:Int)(x2:Int)(x3:Int)(x4:Bool):bj (nr x0 x1 x2 x3 x4):=by
 unfold nr aei
 refine aF ?_
 refine aA (ay0 _ (by simp)) λd _ hd=> ?_
 simp only[bB]
theorem aB0 (d:ns.B)(hd:0<=d.1∧d.1<=3):Ok (ZP d) (λx:Br=>True):=
 bd (s:=_) (λd:ns.B=>0<=d.1∧d.1<=3) (λd:ns.B=>Int.toNat (3-d.1)) (λx:Br=>True) (λd hd=>by
  have hw:wI (d.1+1)=d.1+1:=bf (by omega) (by omega)
  unfold ZO
  try dsimp only
  by_cases hc:d.1<3
  case neg=>simp only[hc,decide_false,aL,av,Sum.elim_inr,implies_true,and_true,Bool.false_eq_true,false_implies]
  have h1:wI (6+d.1)=6+d.1:=eK (by omega) (by omega)
  have h2:wI (3+d.1)=3+d.1:=eK (by omega) (by omega)
  simp only[h1,h2]
  simp only[bB]
  simp only[nf,sO,hw]
  repeat' (first|exact True.intro|omega|(intro _)|(apply And.intro))) 2000 d hd (by omega)
instance aUR (x0:Nat->Int)(x1:Int)(x2:Int)(x3:Int)(x4:Bool):bj (vL x0 x1 x2 x3 x4):=by
 unfold vL ajf
 refine aF ?_
 refine aA (aB0 _ (by simp)) λd _ hd=> ?_
 simp only[bB]
instance aTI (x0:Int)(x1:Int)(x2:Bool)(x3:Bool):bj (JS x0 x1 x2 x3):=by
 unfold JS aem
 exact aF (by simp only[bB])
instance aTJ (x0:Int)(x1:Bool)(x2:Bool)(x3:Bool)(x4:Bool)(x5:Bool)(x6:Bool)(x7:Bool)(x8:Bool)(x9:Int)(fS:Int)(fT:Int):bj (JT x0 x1 x2 x3 x4 x5 x6 x7 x8 x9 fS fT):=by
 unfold JT aen
 exact aF (by simp only[bB])
instance aSB (x0:Int):bj (xV x0):=by
 unfold xV CQ
 exact aF (by simp only[bB])
theorem aB1 {x d:Int}(h:xV x=some d):0<=d∧d<6:=by
 have k:PQ (CQ x) (λd=>0<=d∧d<6):=by
  simp only[CQ,aL,av];refine⟨λ_=>by decide,λ_=>⟨λ_=>by decide,λ_=>by decide⟩⟩
 exact Ok.post k h
theorem asT (d:jz.B)(hd:0<=d.1.2∧d.1.2<=4):Ok (Mk d) (λx:sY=>True):=
 bd (s:=_) (λd:jz.B=>0<=d.1.2∧d.1.2<=4) (λd:jz.B=>Int.toNat (4-d.1.2)) (λx:sY=>True) (λd hd=>by
  have hw:wI (d.1.2+1)=d.1.2+1:=bf (by omega) (by omega)
  unfold Mj
  simp only[bB]
  simp only[nf,sO,hw]
  repeat' (first|exact True.intro|omega|(intro _ h;have:=aB1 h;revert this;clear h;intro this)|(intro _)|(apply And.intro))) 2000 d hd (by omega)
instance aSC (x0:Int)(x1:Bool)(x2:Bool)(x3:Bool)(x4:Bool)(x5:Bool)(x6:Bool)(x7:Bool)(x8:Bool)(x9:Int)(fS:Int)(fT:Int):bj (CR x0 x1 x2 x3 x4 x5 x6 x7 x8 x9 fS fT):=by
 unfold CR Uk
 refine aF ?_
 refine aA (asT _ (by simp)) λd _ hd=> ?_
 simp only[bB]
instance aTK (x:JW.B):bj (JY x):=by
 unfold JY aeq
 try dsimp only
 exact aF (by simp only[bB])
theorem aDo (a:Nat)(i:Int)(d:pw.B)(hd:0<=d.1.2.2.2.2.2.2∧d.1.2.2.2.2.2.2<=d.1.2.2.2.2.2.1∧d.1.2.2.2.2.2.1<=1999∧d.1.1.1=a∧d.1.2.1=i∧d.1.2.2.2.1=i∧d.1.2.2.2.2.1.1=a∧d.1.2.2.2.2.2.1=(a:Int)∧(d.1.2.2.1:Int)<=d.1.2.2.2.2.2.2∧0<=i∧i<3):Ok (aes d) (λx:Ed=>x.1.1.1=a∧x.1.2.1=i∧x.1.2.2.2.1=i∧x.1.2.2.1<=a):=
 bd (s:=_) (λd:pw.B=>0<=d.1.2.2.2.2.2.2∧d.1.2.2.2.2.2.2<=d.1.2.2.2.2.2.1∧d.1.2.2.2.2.2.1<=1999∧d.1.1.1=a∧d.1.2.1=i∧d.1.2.2.2.1=i∧d.1.2.2.2.2.1.1=a∧d.1.2.2.2.2.2.1=(a:Int)∧(d.1.2.2.1:Int)<=d.1.2.2.2.2.2.2∧0<=i∧i<3) (λd:pw.B=>Int.toNat (d.1.2.2.2.2.2.1-d.1.2.2.2.2.2.2)) (λx:Ed=>x.1.1.1=a∧x.1.2.1=i∧x.1.2.2.2.1=i∧x.1.2.2.1<=a) (λd hd=>by
  have hw:wI (d.1.2.2.2.2.2.2+1)=d.1.2.2.2.2.2.2+1:=bf (by omega) (by omega)
  unfold aer
  simp only[bB]
  simp only[nf,sO,hw]
  repeat' (first|exact True.intro|omega|(intro _)|(apply And.intro))) 2000 d hd (by omega)
end Go.Proofs.YtldgljclcgaibaaGreat
namespace Go.Proofs.YtldgljclcgaibaaGreat
open Go.Ab Go.Ab.Pg
theorem aDp (d:px.B)(hd:0<=d.1.2∧d.1.2<=3∧d.1.1.1<=1900):Ok (aeu d) (λx:Ee=>True):=
 bd (s:=_) (λd:px.B=>0<=d.1.2∧d.1.2<=3∧d.1.1.1<=1900) (λd:px.B=>Int.toNat (3-d.1.2)) (λx:Ee=>True) (λd hd=>by
  unfold aet
  try dsimp only
  rw[aL]
  refine⟨λh=> ?_,λ_=>by simp only[av,Sum.elim_inr]⟩
  have h:=of_decide_eq_true h
  rw[bG,bG,aR]
  refine⟨rfl,rfl,aA (aDo d.1.1.1 d.1.2 _ ?_) λx _ hx=> ?_⟩
  ·dsimp only;simp only[Int.ofNat_eq_natCast,true_and,and_true];omega
  obtain⟨a1,a2,a3,a4⟩:=hx
  rw[aR,bG]
  have hw:wI (d.1.2+1)=d.1.2+1:=bf (by omega) (by omega)
  have:=aGP x.1.2.2.1 (by omega)
  simp only[bB]
  simp only[nf,Bool.not_eq_true',sO,hw,a1,a2,a3]
  repeat' (first|exact True.intro|omega|(intro _)|(apply And.intro))) 2000 d hd (by omega)
theorem aeM (x0:Nat)(x1:Bool)(x2:Nat->Int)(x3:Nat->Int)(x4:Nat->Int)(w0:Bool)(h:x0<=1900):bj (jq x0 x1 x2 x3 x4 w0):=by
 unfold jq apZ
 refine aF ?_
 rw[aR,bG]
 refine⟨rfl,?_⟩
 refine aA (aDp _ (by dsimp only;omega)) λd _ hd=> ?_
 simp only[bB]
instance aW4 (x1:Bool)(x2 x3 x4:Nat->Int)(w0:Bool):bj (jq 2 x1 x2 x3 x4 w0):=aeM _ _ _ _ _ _ (by omega)
instance aW5 (x1:Bool)(x2 x3 x4:Nat->Int)(w0:Bool):bj (jq 3 x1 x2 x3 x4 w0):=aeM _ _ _ _ _ _ (by omega)
theorem ay1 (i:Int)(d:mi.B)(hd:0<=d.1.2.2∧d.1.2.2<=4∧d.1.2.1=i):Ok (Uq d) (λx:xW=>x.1.2.1=i):=
 bd (s:=_) (λd:mi.B=>0<=d.1.2.2∧d.1.2.2<=4∧d.1.2.1=i) (λd:mi.B=>Int.toNat (4-d.1.2.2)) (λx:xW=>x.1.2.1=i) (λd hd=>by
  have hw:wI (d.1.2.2+1)=d.1.2.2+1:=bf (by omega) (by omega)
  unfold Uo
  simp only[bB]
  simp only[nf,Bool.not_eq_true',sO,hw]
  repeat' (first|exact True.intro|omega|(intro _)|(apply And.intro))) 2000 d hd (by omega)
theorem ay2 (d:mj.B)(hd:0<=d.1∧d.1<=2):Ok (Us d) (λx:xX=>True):=
 bd (s:=_) (λd:mj.B=>0<=d.1∧d.1<=2) (λd:mj.B=>Int.toNat (2-d.1)) (λx:xX=>True) (λd hd=>by
  unfold Ur
  try dsimp only
  rw[aL]
  refine⟨λh=> ?_,λ_=>by simp only[av,Sum.elim_inr]⟩
  have h:=of_decide_eq_true h
  rw[bx]
  intro d1 _
  refine aA (ay1 d.1 _ (by simp)) λx _ hx=> ?_
  have hw:wI (d.1+1)=d.1+1:=bf (by omega) (by omega)
  simp only[av,Sum.elim_inl,hx,hw]
  omega) 2000 d hd (by omega)
instance aTL (x0:Int)(x1:Int)(x2:Int)(x3:Int)(x4:Bool):bj (cV x0 x1 x2 x3 x4):=by
 unfold cV aex
 refine aF ?_
 rw[bx]
 intro d _
 rw[aL]
 refine⟨λ_=>by simp only[bB],λ_=>aA (ay2 _ (by simp)) λd _ hd=> ?_⟩
 simp only[av]
theorem amn (a b:Int)(d:dQ.B)(hd:0<=d.1.2.2.2∧d.1.2.2.2<=d.1.2.2.1∧d.1.2.2.1<=1999∧d.1.2.2.1<=24∧d.1.1=a∧d.1.2.1=b):Ok (zB d) (λx:j9=>x.1.1=a∧x.1.2.1=b):=
 bd (s:=_) (λd:dQ.B=>0<=d.1.2.2.2∧d.1.2.2.2<=d.1.2.2.1∧d.1.2.2.1<=1999∧d.1.2.2.1<=24∧d.1.1=a∧d.1.2.1=b) (λd:dQ.B=>Int.toNat (d.1.2.2.1-d.1.2.2.2)) (λx:j9=>x.1.1=a∧x.1.2.1=b) (λd hd=>by
  have hw:wI (d.1.2.2.2+1)=d.1.2.2.2+1:=bf (by omega) (by omega)
  unfold zA
  simp only[bB]
  simp only[nf,Bool.not_eq_true',sO,hw]
  repeat' (first|exact True.intro|omega|(intro _)|(apply And.intro))) 2000 d hd (by omega)
theorem amo (a b:Int)(d:dR.B)(hd:0<=d.1.2.2∧d.1.2.2<=24∧d.1.1=a∧d.1.2.1=b∧0<=a∧a<24):Ok (zD d) (λx:ka=>x.1.2.1=b):=
 bd (s:=_) (λd:dR.B=>0<=d.1.2.2∧d.1.2.2<=24∧d.1.1=a∧d.1.2.1=b∧0<=a∧a<24) (λd:dR.B=>Int.toNat (24-d.1.2.2)) (λx:ka=>x.1.2.1=b) (λd hd=>by
  have hw:wI (d.1.2.2+1)=d.1.2.2+1:=bf (by omega) (by omega)
  unfold zC
  simp only[bB]
  simp only[nf,Bool.not_eq_true',sO,hw]
  repeat' (first|exact True.intro|omega|(intro _)|(apply And.intro))) 2000 d hd (by omega)
theorem amp (d:dS.B)(hd:0<=d.1∧d.1<=24):Ok (zF d) (λx:kc=>True):=
 bd (s:=_) (λd:dS.B=>0<=d.1∧d.1<=24) (λd:dS.B=>Int.toNat (24-d.1)) (λx:kc=>True) (λd hd=>by
  have hw:wI (d.1+1)=d.1+1:=bf (by omega) (by omega)
  unfold zE
  have h1:wI (24+d.1)=24+d.1:=eK (by omega) (by omega)
  simp only[h1]
  simp only[bB]
  simp only[nf,Bool.not_eq_true',sO,hw]
  repeat' (first|exact True.intro|omega|(intro _)|(apply And.intro))) 2000 d hd (by omega)
theorem amq (d:dU.B)(hd:0<=d.1∧d.1<=24):Ok (zH d) (λx:kd=>True):=
 bd (s:=_) (λd:dU.B=>0<=d.1∧d.1<=24) (λd:dU.B=>Int.toNat (24-d.1)) (λx:kd=>True) (λd hd=>by
  unfold zG
  rw[aL]
  refine⟨λh=> ?_,λ_=>by simp only[av,Sum.elim_inr]⟩
  have h:=of_decide_eq_true h
  have hw:wI (d.1+1)=d.1+1:=bf (by omega) (by omega)
  refine aA (amn d.1 d.1 _ (by dsimp only;rw[hw];omega)) λx _ hx=> ?_
  refine aA (amo d.1 d.1 _ (by dsimp only;omega)) λx _ hx=> ?_
  simp only[av,Sum.elim_inl,hx,hw]
  omega) 2000 d hd (by omega)
instance aOo (x0:Nat->Int)(x1:Nat->Int)(x2:Bool)(x3:Nat->Int):bj (oM x0 x1 x2 x3):=by
 unfold oM Ef
 refine aF ?_
 refine aA (amq _ (by simp)) λd _ hd=> ?_
 refine aA (amp _ (by simp)) λd _ hd=> ?_
 simp only[bB]
instance aTM (x0:Nat->Int):bj (bV x0):=by
 unfold bV aey
 exact aF (by simp only[bB])
instance aO2 (x0:Nat->Int)(x1:Int)(x2:Int)(x3:Int)(x4:Int):bj (qY x0 x1 x2 x3 x4):=by
 unfold qY Qw
 exact aF (by simp only[bB])
instance aTb (x0:Int)(x1:Int)(x2:Int)(x3:Int)(x4:Int)(x5:Int)(x6:Int)(x7:Int)(x8:Bool):bj (Ge x0 x1 x2 x3 x4 x5 x6 x7 x8):=by
 unfold Ge ZU
 exact aF (by simp only[bB])
instance aSD (x0:Int)(x1:Bool):bj (CT x0 x1):=by
 unfold CT UC
 exact aF (by simp only[bB])
instance aUS (x0:Int)(x1:Int)(x2:Int)(x3:Int)(x4:Int)(x5:Int)(x6:Int)(x7:Int)(x8:Bool):bj (ke x0 x1 x2 x3 x4 x5 x6 x7 x8):=by
 unfold ke ajA
 try dsimp only
 exact aF (by simp only[bB])
theorem aGR (d:rL.B)(hd:0<=d.1∧d.1<=4):Ok (ajC d) (λx:IF=>True):=
 bd (s:=_) (λd:rL.B=>0<=d.1∧d.1<=4) (λd:rL.B=>Int.toNat (4-d.1)) (λx:IF=>True) (λd hd=>by
  have hw:wI (d.1+1)=d.1+1:=bf (by omega) (by omega)
  unfold ajB
  simp only[bB]
  simp only[nf,Bool.not_eq_true',sO,hw]
  repeat' (first|exact True.intro|omega|(intro _)|(apply And.intro))) 2000 d hd (by omega)
instance aWa (x0:Int)(x1:Int)(x2:Int)(x3:Int)(x4:Bool):bj (jh x0 x1 x2 x3 x4):=by
 unfold jh au5
 try dsimp only
 refine aF ?_
 refine aA (aGR _ (by simp)) λd _ hd=> ?_
 simp only[bB]
instance aWb:bj qZ:=by
 have b1:=λx=>ny 0 4 1073741840 x (by omega) (by omega) (by omega)
 have b2:=λx=>ny 4 7 549755813888 x (by omega) (by omega) (by omega)
 have b3:=λx=>ny 7 10 9007199254740992 x (by omega) (by omega) (by omega)
 have b4:=λx=>ny 10 13 134217728 x (by omega) (by omega) (by omega)
 have b5:=λx=>ny 13 16 1073741824 x (by omega) (by omega) (by omega)
 have b6:=λx=>ny 16 22 2147483648 x (by omega) (by omega) (by omega)
 have b7:=λx=>ny 22 24 137438953472 x (by omega) (by omega) (by omega)
 unfold qZ Qz
 exact aF (by simp only[bB])
theorem asU (d:jB.B)(hd:0<=d.1∧d.1<=24):Ok (Mr d) (λx:tf=>True):=
 bd (s:=_) (λd:jB.B=>0<=d.1∧d.1<=24) (λd:jB.B=>Int.toNat (24-d.1)) (λx:tf=>True) (λd hd=>by
  have hw:wI (d.1+1)=d.1+1:=bf (by omega) (by omega)
  unfold Mq
  simp only[bB]
  simp only[nf,Bool.not_eq_true',sO,hw]
  repeat' (first|exact True.intro|omega|(intro _)|(apply And.intro))) 2000 d hd (by omega)
instance aSE (x0:Nat->Int)(x1:Bool):bj (tC x0 x1):=by
 unfold tC UE
 refine aF ?_
 rw[bx]
 intro d _
 refine aA (asU _ (by simp)) λd _ hd=> ?_
 simp only[av]
theorem aTN {x:Int}{y:abl}(h:vi x=some y)(k:(y:Int)<=1073741840): -1073741840<=x∧x<=1073741840:=by
 have e:PQ (Bm x) (λy:abl=>(y:Int)<=1073741840-> -1073741840<=x∧x<=1073741840):=by
  by_cases c:x<0∧ -1152921504606846976<x
  ·have w:wI (0-x)=0-x:=eK (by omega) (by omega)
   simp only[Bm,aL,av,ge_iff_le,decide_eq_true_eq,decide_eq_false_iff_not,w]
   exact⟨λ_=>(show(1152921504606846976:Int)<=1073741840-> -1073741840<=x∧x<=1073741840 by omega),λ_=>⟨λ_=>(show(1152921504606846976:Int)<=1073741840-> -1073741840<=x∧x<=1073741840 by omega),λ_=>⟨λ_=>(show(0-x:Int)<=1073741840-> -1073741840<=x∧x<=1073741840 by omega),λ_=>(show x<=1073741840-> -1073741840<=x∧x<=1073741840 by omega)⟩⟩⟩
  ·simp only[Bm,aL,av,ge_iff_le,decide_eq_true_eq,decide_eq_false_iff_not]
   exact⟨λ_=>(show(1152921504606846976:Int)<=1073741840-> -1073741840<=x∧x<=1073741840 by omega),λ_=>⟨λ_=>(show(1152921504606846976:Int)<=1073741840-> -1073741840<=x∧x<=1073741840 by omega),λ_=>⟨λ_=>by omega,λ_=>(show x<=1073741840-> -1073741840<=x∧x<=1073741840 by omega)⟩⟩⟩
 exact Ok.post e h k
theorem amr (a b:Int)(d:dV.B)(hd:0<=d.1.2.2∧d.1.2.2<=24∧d.1.1=a∧d.1.2.1=b∧0<=a∧a<24):Ok (zJ d) (λx:kg=>x.1.2.1=b):=
 bd (s:=_) (λd:dV.B=>0<=d.1.2.2∧d.1.2.2<=24∧d.1.1=a∧d.1.2.1=b∧0<=a∧a<24) (λd:dV.B=>Int.toNat (24-d.1.2.2)) (λx:kg=>x.1.2.1=b) (λd hd=>by
  have hw:wI (d.1.2.2+1)=d.1.2.2+1:=bf (by omega) (by omega)
  unfold zI
  simp only[bB]
  simp only[nf,Bool.not_eq_true',sO,hw]
  repeat' (first|exact True.intro|omega|(intro _)|(apply And.intro))) 2000 d hd (by omega)
theorem ams (a:Int)(d:dW.B)(hd:0<=d.1.2∧d.1.2<=48∧d.1.1=a∧0<=a∧a<24):Ok (zL d) (λx:kh=>x.1.1=a):=
 bd (s:=_) (λd:dW.B=>0<=d.1.2∧d.1.2<=48∧d.1.1=a∧0<=a∧a<24) (λd:dW.B=>Int.toNat (48-d.1.2)) (λx:kh=>x.1.1=a) (λd hd=>by
  have hw:wI (d.1.2+1)=d.1.2+1:=bf (by omega) (by omega)
  unfold zK
  simp only[bB]
  simp only[nf,Bool.not_eq_true',sO,hw]
  repeat' (first|exact True.intro|omega|(intro _)|(apply And.intro))) 2000 d hd (by omega)
theorem amt (a b e g h:Int)(d:dX.B)(hd:0<=d.1.2.2.2.2.2.2∧d.1.2.2.2.2.2.2<=48∧d.1.1=a∧d.1.2.2.1=b∧0<=a∧a<24∧0<=b∧b<24∧d.1.2.2.2.2.1=g∧d.1.2.2.2.2.2.1=h):Ok (zN d) (λx:kj=>x.1.1=a∧x.1.2.2.2.2.1=g∧x.1.2.2.2.2.2.1=h):=
 bd (s:=_) (λd:dX.B=>0<=d.1.2.2.2.2.2.2∧d.1.2.2.2.2.2.2<=48∧d.1.1=a∧d.1.2.2.1=b∧0<=a∧a<24∧0<=b∧b<24∧d.1.2.2.2.2.1=g∧d.1.2.2.2.2.2.1=h) (λd:dX.B=>Int.toNat (48-d.1.2.2.2.2.2.2)) (λx:kj=>x.1.1=a∧x.1.2.2.2.2.1=g∧x.1.2.2.2.2.2.1=h) (λd hd=>by
  have hw:wI (d.1.2.2.2.2.2.2+1)=d.1.2.2.2.2.2.2+1:=bf (by omega) (by omega)
  unfold zM
  simp only[bB]
  simp only[nf,Bool.not_eq_true',sO,hw]
  repeat' (first|exact True.intro|omega|(intro _)|(apply And.intro))) 2000 d hd (by omega)
theorem amu (d:dY.B)(hd:0<=d.1∧d.1<=24):Ok (zP d) (λx:kl=>True):=
 bd (s:=_) (λd:dY.B=>0<=d.1∧d.1<=24) (λd:dY.B=>Int.toNat (24-d.1)) (λx:kl=>True) (λd hd=>by
  unfold zO
  rw[aL]
  refine⟨λh=> ?_,λ_=>by simp only[av,Sum.elim_inr]⟩
  have h:=of_decide_eq_true h
  have hw:wI (d.1+1)=d.1+1:=bf (by omega) (by omega)
  have h1:wI (24+d.1)=24+d.1:=eK (by omega) (by omega)
  rw[h1]
  iterate 2 (rw[bG];refine⟨by simp only[bl];omega,?_⟩)
  rw[bx]
  intro d1 _
  iterate 4 (rw[bG];refine⟨by simp only[bl,bP,Bool.true_and];omega,?_⟩)
  refine aA (amr d.1 d.1 _ (by dsimp only;omega)) λx _ hx=> ?_
  simp only[av,Sum.elim_inl,hx,hw]
  omega) 2000 d hd (by omega)
theorem amv (a:Int)(d:dZ.B)(hd:0<=d.1.2.2.2∧d.1.2.2.2<=d.1.2.2.1∧d.1.1=a∧d.1.2.2.1<=24∧0<=a∧a<24):Ok (zR d) (λx:km=>x.1.1=a):=
 bd (s:=_) (λd:dZ.B=>0<=d.1.2.2.2∧d.1.2.2.2<=d.1.2.2.1∧d.1.1=a∧d.1.2.2.1<=24∧0<=a∧a<24) (λd:dZ.B=>Int.toNat (d.1.2.2.1-d.1.2.2.2)) (λx:km=>x.1.1=a) (λd hd=>by
  unfold zQ
  try dsimp only
  rw[aL]
  refine⟨λh=> ?_,λ_=>by simp only[av,Sum.elim_inr];exact hd.2.2.1⟩
  have h:=of_decide_eq_true h
  have hw:wI (d.1.2.2.2+1)=d.1.2.2.2+1:=bf (by omega) (by omega)
  rw[bG]
  refine⟨by simp only[bl];omega,?_⟩
  rw[bx];intro d1 _
  rw[bx];intro d2 _
  rw[bx];intro d3 _
  refine aA (amt d.1.1 d.1.2.2.2 d.1.1 d.1.2.2.1 d.1.2.2.2 _ (by dsimp only;omega)) λx _ hx=> ?_
  obtain⟨a1,a2,a3⟩:=hx
  simp only[av,Sum.elim_inl,a1,a2,a3,hw]
  omega) 2000 d hd (by omega)
theorem amw (d:ec.B)(hd: -1<=d.1∧d.1<=23):Ok (zU d) (λx:kn=>True):=
 bd (s:=_) (λd:ec.B=> -1<=d.1∧d.1<=23) (λd:ec.B=>Int.toNat (d.1+1)) (λx:kn=>True) (λd hd=>by
  unfold zT
  try dsimp only
  rw[aL]
  refine⟨λh=> ?_,λ_=>by simp only[av,Sum.elim_inr]⟩
  have h:=of_decide_eq_true h
  have hw:wI (d.1-1)=d.1-1:=eK (by omega) (by omega)
  refine aA (ams d.1 _ (by dsimp only;omega)) λx _ hx=> ?_
  rw[bG]
  refine⟨by simp only[bl,hx];omega,?_⟩
  rw[bx];intro d1 _
  rw[bx];intro d2 _
  rw[bG]
  refine⟨by simp only[bl,hx];omega,?_⟩
  rw[bG]
  refine⟨by simp only[bP,Bool.true_and,hx];omega,?_⟩
  refine aA (amv d.1 _ (by dsimp only;omega)) λx _ hx=> ?_
  simp only[av,Sum.elim_inl,hx,hw]
  omega) 2000 d hd (by omega)
instance aOp (x0:Nat->Int)(x1:Nat->Int)(x2:Nat->Int)(x3:Nat->Int)(x4:Bool):bj (jk x0 x1 x2 x3 x4):=by
 unfold jk Ej
 refine aF ?_
 rw[bx];intro d _
 refine aA (amu _ (by simp)) λd _ hd=> ?_
 rw[bx];intro d1 _
 refine aA (amw _ (by simp)) λd _ hd=> ?_
 simp only[av]
instance aUT (x0:Int):bj (vN x0):=by
 unfold vN OG
 exact aF (by simp only[bB])
theorem aGS (x:Int):vN x=some (decide (0<=x)&&decide (x<24)):=by
 simp only[vN,OG,bI,bO]
 by_cases h0:0<=x<;>simp[h0]
instance aNr (x0:Int)(x1:Bool):bj (nx x0 x1):=by
 unfold nx Ca
 exact aF (by simp only[bB])
theorem asV (d:fe.B)(hd:0<=d.1.2.2.2∧d.1.2.2.2<=d.1.2.2.1∧d.1.2.2.1<=1999∧d.1.2.2.1=((d.1.2.1.1:Nat):Int)):Ok (El d) (λx:mI=>True):=
 bd (s:=_) (λd:fe.B=>0<=d.1.2.2.2∧d.1.2.2.2<=d.1.2.2.1∧d.1.2.2.1<=1999∧d.1.2.2.1=((d.1.2.1.1:Nat):Int)) (λd:fe.B=>Int.toNat (d.1.2.2.1-d.1.2.2.2)) (λx:mI=>True) (λd hd=>by
  have hw:wI (d.1.2.2.2+1)=d.1.2.2.2+1:=bf (by omega) (by omega)
  unfold Ek
  simp only[bB,aGS,bR]
  simp only[nf,Bool.not_eq_true',sO,hw]
  repeat' (first|exact True.intro|omega|(intro _)|(apply And.intro))) 2000 d hd (by omega)
theorem Kr (x0:Nat->Int)(x1:Nat->Int)(x2:Int)(x3:Nat)(x4:Bool)(x5:Nat->Int)(w0:Bool)(h:x3<=1999):bj (cN x0 x1 x2 x3 x4 x5 w0):=by
 unfold cN J9
 refine aF ?_
 rw[bx];intro d1 _
 rw[aR,bG]
 refine⟨rfl,?_⟩
 refine aA (asV _ (hdN x3 h)) λd _ hd=> ?_
 rw[bx];intro d2 _;simp only[av]
end Go.Proofs.YtldgljclcgaibaaGreat
namespace Go.Proofs.YtldgljclcgaibaaGreat
open Go.Ab Go.Ab.Pg
def yd (x0 x1 x2 x3:Int)(j:Nat):Int:=if j=0 then x0 else if j=1 then x1 else if j=2 then x2 else x3
def sqW (f g:Nat->Int)(j:Nat)(x:Int):Prop:=(-1073741840<=x∧x<=1073741840)∧okW (f j) (g j)∧vW (f j) (g j)=x*x
theorem abE {x:Int}(h: -1073741840<=x∧x<=1073741840):0<=x*x∧x*x<=1152921538966585600:=by
 have key:∀u:Int,0<=u->u<=1073741840->0<=u*u∧u*u<=1152921538966585600:=λu u0 u1=>by
  refine⟨Int.mul_nonneg u0 u0,?_⟩
  have:=Int.mul_le_mul u1 u1 u0 (by omega)
  omega
 rcases Int.le_total 0 x with hx|hx
 ·exact key x hx h.2
 ·have:=key (-x) (by omega) (by omega)
  rwa [Int.neg_mul_neg] at this
theorem aeN {x:Int}{f g:Nat->Int}{n:Nat}{A:Type}{δ:Type}{Q:δ->Prop}{no1:Pg δ}{k:aix->Pg δ}
  (h1:(x< -1073741840∨1073741840<x)->PQ no1 Q)(h2:(-1073741840<=x∧x<=1073741840)->∀h l,eN x x=some (h,l)->okW h l->vW h l=x*x->PQ (k (h,l)) Q):
  PQ (opt (vi x) λaj=>ae (decide (aj>1073741840)) no1 (opt (eN x x) k)) Q:=by
 rw[bx]
 intro d hd
 rw[aL]
 refine⟨λh=> ?_,λh=> ?_⟩
 ·refine h1 ?_
  have h:=of_decide_eq_true h
  have:¬(-1073741840<=x∧x<=1073741840):=λc=>by
   have e:PQ (Bm x) (λy:abl=>(y:Int)<=1073741840):=by
    by_cases c':x<0
    ·have w:wI (0-x)=0-x:=eK (by omega) (by omega)
     simp only[Bm,aL,av,ge_iff_le,decide_eq_true_eq,decide_eq_false_iff_not,w]
     exact⟨λ_=>by omega,λ_=>⟨λ_=>by omega,λ_=>⟨λ_=>(show(0-x:Int)<=1073741840 by omega),λ_=>by omega⟩⟩⟩
    ·simp only[Bm,aL,av,ge_iff_le,decide_eq_true_eq,decide_eq_false_iff_not]
     exact⟨λ_=>by omega,λ_=>⟨λ_=>by omega,λ_=>⟨λ_=>by omega,λ_=>(show x<=1073741840 by omega)⟩⟩⟩
   have h3:(d:Int)<=1073741840:=Ok.post e hd
   exact absurd (show(1073741840:Int)<d from h) (Int.not_lt.mpr h3)
  omega
 ·have h:=of_decide_eq_false h
  have h':¬((1073741840:Int)<d):=h
  have hx:=aTN hd (Int.not_lt.mp h')
  obtain⟨a,b,e,o,v⟩:=Bu x x (by omega) (by omega) (by omega) (by omega)
  rw[e,bR]
  exact h2 hx a b e o v
theorem aMg (x0 x1 x2 x3:Int)(d:kK.B)(hd:∃n:Nat,n<=4∧d.1.1=n∧d.1.2.2=(n:Int)∧d.1.2.1=(x0,x1,x2,x3)∧∀j,j<n->sqW d.2.2.1 d.2.2.2 j (yd x0 x1 x2 x3 j)):
  Ok (Qm d) (λx:vm=>match x with
   |.inl _=>∃j,j<4∧(yd x0 x1 x2 x3 j< -1073741840∨1073741840<yd x0 x1 x2 x3 j)
   |.inr e=>e.1.1=4∧∀j,j<4->sqW e.2.2.1 e.2.2.2 j (yd x0 x1 x2 x3 j)):=
 bd (s:=_) (λd:kK.B=>∃n:Nat,n<=4∧d.1.1=n∧d.1.2.2=(n:Int)∧d.1.2.1=(x0,x1,x2,x3)∧∀j,j<n->sqW d.2.2.1 d.2.2.2 j (yd x0 x1 x2 x3 j)) (λd:kK.B=>4-d.1.1) (λx:vm=>match x with
   |.inl _=>∃j,j<4∧(yd x0 x1 x2 x3 j< -1073741840∨1073741840<yd x0 x1 x2 x3 j)
   |.inr e=>e.1.1=4∧∀j,j<4->sqW e.2.2.1 e.2.2.2 j (yd x0 x1 x2 x3 j)) (λd hd=>by
  obtain⟨⟨c,q,i⟩,q',f,g⟩:=d
  obtain⟨n,hn,h1,h2,h3,h4⟩:=hd
  simp only at h1 h2 h3 h4
  subst h1 h3 h2
  have step:∀(h l:Int),c<4->okW h l->(-1073741840<=yd x0 x1 x2 x3 c∧yd x0 x1 x2 x3 c<=1073741840)->vW h l=yd x0 x1 x2 x3 c*yd x0 x1 x2 x3 c->
    ∀j,j<c+1->sqW (λj=>bif Nat.beq j c then h else f j) (λj=>bif Nat.beq j c then l else g j) j (yd x0 x1 x2 x3 j):=λh l hc ho hs hv j hj=>by
   unfold sqW
   by_cases e:j=c
   ·subst e;simp only[aR,cond_true];exact⟨hs,ho,hv⟩
   ·have e':Nat.beq j c=false:=by cases hb:Nat.beq j c with|false=>rfl|true=>exact absurd (Nat.eq_of_beq_eq_true hb) e
    simp only[e',cond_false];exact h4 j (by omega)
  have hw:wI ((c:Int)+1)=((c+1:Nat):Int):=by rw[eK (by omega) (by omega)];omega
  have hb:Nat.ble ((c+1)*16) 140737488355328=true:=by rw[bP];omega
  unfold Ql
  simp only[hw,hb]
  have fin:∀(h l:Int),c<4->okW h l->(-1073741840<=yd x0 x1 x2 x3 c∧yd x0 x1 x2 x3 c<=1073741840)->vW h l=yd x0 x1 x2 x3 c*yd x0 x1 x2 x3 c->
    (∃n:Nat,n<=4∧c+1=n∧((c+1:Nat):Int)=(n:Int)∧True∧∀j,j<n->sqW (λj=>bif Nat.beq j c then h else f j) (λj=>bif Nat.beq j c then l else g j) j (yd x0 x1 x2 x3 j))∧4-(c+1)<4-c:=λh l hc ho hs hv=>
   ⟨⟨c+1,by omega,rfl,rfl,trivial,step h l hc ho hs hv⟩,by omega⟩
  rcases(by omega:c=0∨c=1∨c=2∨c=3∨c=4) with rfl|rfl|rfl|rfl|rfl
  ·rw[show decide (((0:Nat):Int)<4)=true from rfl,show aW ((0:Nat):Int) 4=true from rfl,show(((0:Nat):Int)==3)=false from rfl,show(((0:Nat):Int)==2)=false from rfl,show(((0:Nat):Int)==1)=false from rfl]
   simp only[aL,Bool.true_eq_false,Bool.false_eq_true,false_implies,true_implies,and_true,true_and]
   refine aeN (A:=Unit) (n:=0) (f:=f) (g:=g) (λh=> ?_) (λhs h l _ ho hv=> ?_)
   ·simp only[av,Sum.elim_inr];exact⟨0,by omega,h⟩
   ·rw[bG];refine⟨rfl,?_⟩;simp only[av,Sum.elim_inl];exact fin h l (by omega) ho hs hv
  ·rw[show decide (((1:Nat):Int)<4)=true from rfl,show aW ((1:Nat):Int) 4=true from rfl,show(((1:Nat):Int)==3)=false from rfl,show(((1:Nat):Int)==2)=false from rfl,show(((1:Nat):Int)==1)=true from rfl]
   simp only[aL,Bool.true_eq_false,Bool.false_eq_true,false_implies,true_implies,and_true,true_and]
   refine aeN (A:=Unit) (n:=0) (f:=f) (g:=g) (λh=> ?_) (λhs h l _ ho hv=> ?_)
   ·simp only[av,Sum.elim_inr];exact⟨1,by omega,h⟩
   ·rw[bG];refine⟨rfl,?_⟩;simp only[av,Sum.elim_inl];exact fin h l (by omega) ho hs hv
  ·rw[show decide (((2:Nat):Int)<4)=true from rfl,show aW ((2:Nat):Int) 4=true from rfl,show(((2:Nat):Int)==3)=false from rfl,show(((2:Nat):Int)==2)=true from rfl]
   simp only[aL,Bool.true_eq_false,Bool.false_eq_true,false_implies,true_implies,and_true,true_and]
   refine aeN (A:=Unit) (n:=0) (f:=f) (g:=g) (λh=> ?_) (λhs h l _ ho hv=> ?_)
   ·simp only[av,Sum.elim_inr];exact⟨2,by omega,h⟩
   ·rw[bG];refine⟨rfl,?_⟩;simp only[av,Sum.elim_inl];exact fin h l (by omega) ho hs hv
  ·rw[show decide (((3:Nat):Int)<4)=true from rfl,show aW ((3:Nat):Int) 4=true from rfl,show(((3:Nat):Int)==3)=true from rfl]
   simp only[aL,Bool.true_eq_false,Bool.false_eq_true,false_implies,true_implies,and_true,true_and]
   refine aeN (A:=Unit) (n:=0) (f:=f) (g:=g) (λh=> ?_) (λhs h l _ ho hv=> ?_)
   ·simp only[av,Sum.elim_inr];exact⟨3,by omega,h⟩
   ·rw[bG];refine⟨rfl,?_⟩;simp only[av,Sum.elim_inl];exact fin h l (by omega) ho hs hv
  ·rw[show decide (((4:Nat):Int)<4)=false from rfl]
   simp only[aL,av,Bool.false_eq_true,false_implies,true_implies,true_and,Sum.elim_inr]
   exact h4) 2000 d hd (by obtain⟨n,hn,h1,_⟩:=hd;omega)
theorem aOq (n:Nat)(hn:n<=100)(f g:Nat->Int)(w:Bool)(B:Int)(hB:0<=B)(hB2:B<=1329227995784915872903807060280344576)(h:∀j,j<n->okW (f j) (g j)∧ -B<=vW (f j) (g j)∧vW (f j) (g j)<=B):
  ∃a b,jl n f g w=some ((a,b),true)∧okW a b∧vW a b=xt (λj=>vW (f j) (g j)) n:=by
 have key:∃x:F8,F9 (((n,w),Int.ofNat n,0),(f,g),0,0)=some x∧(match x with
   |.inl _=>False
   |.inr e=>okW e.2.2.1 e.2.2.2∧vW e.2.2.1 e.2.2.2=xt (λj=>vW (f j) (g j)) n):=by
  unfold F9
  refine XA (s:=Bn Iz) (λt d=>∃(i:Nat) (a b:Int),i+t=n∧okW a b∧vW a b=xt (λj=>vW (f j) (g j)) i∧d=(((n,w),Int.ofNat n,Int.ofNat i),(f,g),a,b)) _ (λt d=> ?_) 2000 n _ (by omega)
   ⟨0,0,0,by omega,⟨by omega,by omega,by omega,by omega⟩,rfl,rfl⟩
  rintro ⟨i,a,b,hi,ho,hv,rfl⟩
  rcases Nat.eq_zero_or_pos t with t0|t0
  ·have e:i=n:=by omega
   subst e
   simp only[Bn,bO,bI,bZ,eB,asL (Nat.le_refl i),cond_false]
   exact⟨_,rfl,ho,hv⟩
  ·obtain⟨o1,b1,b2⟩:=h i (by omega)
   have bnd:=aj5 (λj=>vW (f j) (g j)) B hB i (λj hj=>(h j (by omega)).2)
   obtain⟨a2,b2',q,e,o2,c,v⟩:=ave a b (f i) (g i) ho o1
   have hmul:(i:Int)*B<=100*1329227995784915872903807060280344576:=by
    have:=Int.mul_le_mul (show(i:Int)<=100 by omega) hB2 hB (by omega)
    exact this
   have hq:q=true:=by rw[c,hv];omega
   subst hq
   have v:=v rfl
   have qq:Int.toNat (Int.ofNat i)=i:=rfl
   simp only[Bn,bO,bI,bZ,eB,wI,asK hi t0,asM (show i<n by omega),cond_true,qq,Option.bind_some,e,Bool.not_true,cond_false,asN (show i<9000000000000000000 by omega)]
   exact⟨_,rfl,t-1,by omega,i+1,a2,b2',by omega,o2,by rw[v,hv];rfl,rfl⟩
 obtain⟨x,hx,hp⟩:=key
 simp only[jl,XJ,bO,bI,bZ,eB,dB]
 rw[aR,cond_true,hx,Option.bind_some]
 cases x with
 |inl e=>exact hp.elim
 |inr e=>exact⟨e.2.2.1,e.2.2.2,rfl,hp.1,hp.2⟩
theorem aSF (x0 x1 x2 x3:Int):Ok (Bq x0 x1 x2 x3) (λb:Bool=>b=true↔((∀j,j<4-> -1073741840<=yd x0 x1 x2 x3 j∧yd x0 x1 x2 x3 j<=1073741840)∧ -4294967296<=x0*x0+x1*x1+x2*x2+x3*x3-1152921504606846976∧x0*x0+x1*x1+x2*x2+x3*x3-1152921504606846976<=4294967296)):=by
 unfold Bq ZG
 show PQ _ _
 rw[bG]
 refine⟨rfl,aA (aMg x0 x1 x2 x3 _ ⟨0,by omega,rfl,rfl,rfl,λj hj=>absurd hj (by omega)⟩) λx _ hx=> ?_⟩
 rw[zf]
 constructor
 ·rintro a rfl
  rw[av]
  obtain⟨j,hj,hs⟩:=hx
  exact⟨λh=>(by cases h),λh=>by have:=h.1 j hj;omega⟩
 ·rintro e rfl
  obtain⟨h1,h2⟩:=hx
  rw[aR,bG]
  refine⟨rfl,?_⟩
  have sm:∀j,j<4-> -1073741840<=yd x0 x1 x2 x3 j∧yd x0 x1 x2 x3 j<=1073741840:=λj hj=>(h2 j hj).1
  obtain⟨a,b,ea,oa,va⟩:=aOq 4 (by omega) e.2.2.1 e.2.2.2 true 1152921538966585600 (by omega) (by omega) (λj hj=>by
   obtain⟨s1,s2,s3⟩:=h2 j hj
   have:=abE s1
   exact⟨s2,by rw[s3];omega,by rw[s3];omega⟩)
  rw[h1,ea,bR]
  have s0:=abE (sm 0 (by omega))
  have s1:=abE (sm 1 (by omega))
  have s2:=abE (sm 2 (by omega))
  have s3:=abE (sm 3 (by omega))
  have vs:vW a b=x0*x0+x1*x1+x2*x2+x3*x3:=by
   rw[va]
   simp only[xt,(h2 0 (by omega)).2.2,(h2 1 (by omega)).2.2,(h2 2 (by omega)).2.2,(h2 3 (by omega)).2.2]
   simp only[yd,if_true,if_neg (show ¬(1:Nat)=0 by omega),if_neg (show ¬(2:Nat)=0 by omega),if_neg (show ¬(2:Nat)=1 by omega),if_neg (show ¬(3:Nat)=0 by omega),if_neg (show ¬(3:Nat)=1 by omega),if_neg (show ¬(3:Nat)=2 by omega)]
   omega
  have t0:yd x0 x1 x2 x3 0=x0:=rfl
  have t1:yd x0 x1 x2 x3 1=x1:=rfl
  have t2:yd x0 x1 x2 x3 2=x2:=rfl
  have t3:yd x0 x1 x2 x3 3=x3:=rfl
  rw[t0] at s0;rw[t1] at s1;rw[t2] at s2;rw[t3] at s3
  generalize hS:x0*x0+x1*x1+x2*x2+x3*x3=S at*
  have r:=wide_round a b 0 (by omega) oa
  rw[aEX,vs,show Int.ofNat 0=0 from rfl,if_pos (by omega)] at r
  rw[r,bR]
  have hw:wI (S-1152921504606846976)=S-1152921504606846976:=eK (by omega) (by omega)
  simp only[hw,aL,av,true_implies,Bool.true_eq_false,false_implies,and_true,decide_eq_true_eq,decide_eq_false_iff_not,ge_iff_le]
  exact⟨λk=>⟨λm=>⟨sm,k,m⟩,λc=>c.2.2⟩,λk=>⟨λh=>(by cases h),λc=>absurd c.2.1 k⟩⟩
instance aXI (x0 x1 x2 x3:Int):bj (Bq x0 x1 x2 x3):=(aSF x0 x1 x2 x3).tot
end Go.Proofs.YtldgljclcgaibaaGreat
namespace Go.Proofs.YtldgljclcgaibaaGreat
open Go.Ab Go.Ab.Pg
instance aTc (x0:Nat->Int)(x1:Bool):bj (bT x0 x1):=by
 unfold bT ZV
 exact aF (by simp only[bB])
instance aOr (x0:Int)(x1:Bool):bj (jj x0 x1):=by
 unfold jj Ms
 exact aF (by simp only[bB])
instance aVF (x0:Int)(x1:Int)(x2:Int)(x3:Bool):bj (UI x0 x1 x2 x3):=by
 unfold UI ap1
 exact aF (by simp only[bB])
instance aSG (x0:Nat->Int)(x1:Int)(x2:Int)(x3:Int)(x4:Int)(x5:Int)(x6:Int)(x7:Int)(x8:Int)(x9:Bool):bj (tE x0 x1 x2 x3 x4 x5 x6 x7 x8 x9):=by
 unfold tE UK
 exact aF (by simp only[bB])
instance aTd (x0:Nat->Int)(x1:Int)(x2:Int)(x3:Int)(x4:Int)(x5:Int)(x6:Int)(x7:Int)(x8:Int)(x9:Bool):bj (sJ x0 x1 x2 x3 x4 x5 x6 x7 x8 x9):=by
 unfold sJ ZX
 try dsimp only
 exact aF (by simp only[bB])
theorem aB2 (d:nw.B)(hd:0<=d.1.2∧d.1.2<=3):Ok (ZZ d) (λx:Bt=>True):=
 bd (s:=_) (λd:nw.B=>0<=d.1.2∧d.1.2<=3) (λd:nw.B=>Int.toNat (3-d.1.2)) (λx:Bt=>True) (λd hd=>by
  have hw:wI (d.1.2+1)=d.1.2+1:=bf (by omega) (by omega)
  unfold ZY
  simp only[bB]
  simp only[nf,sO,hw]
  repeat' (first|exact True.intro|omega|(intro _)|(apply And.intro))) 2000 d hd (by omega)
instance aUU (x0:Int)(x1:Int)(x2:Int)(x3:Bool):bj (II x0 x1 x2 x3):=by
 unfold II ajM
 refine aF ?_
 rw[bx];intro d _
 rw[aL]
 refine⟨λ_=>by simp only[bB],λ_=> ?_⟩
 rw[bx];intro d1 _
 refine aA (aB2 _ (by simp)) λd _ hd=> ?_
 simp only[bB]
theorem ay3 (d:ml.B)(hd:0<=d.1.2∧d.1.2<=24):Ok (U3 d) (λx:ya=>True):=
 bd (s:=_) (λd:ml.B=>0<=d.1.2∧d.1.2<=24) (λd:ml.B=>Int.toNat (24-d.1.2)) (λx:ya=>True) (λd hd=>by
  have hw:wI (d.1.2+1)=d.1.2+1:=bf (by omega) (by omega)
  unfold U2
  simp only[bB]
  simp only[nf,sO,hw]
  repeat' (first|exact True.intro|omega|(intro _)|(apply And.intro))) 2000 d hd (by omega)
instance aTO (x0:Nat->Int)(x1:Int)(x2:Bool):bj (Ka x0 x1 x2):=by
 unfold Ka aeD
 refine aF ?_
 rw[bx];intro d1 _
 refine aA (ay3 _ (by simp)) λd _ hd=> ?_
 simp only[av]
theorem aqa (d:iJ.B)(hd:0<=d.1.2∧d.1.2<=24):Ok (Kc d) (λx:qH=>True):=
 bd (s:=_) (λd:iJ.B=>0<=d.1.2∧d.1.2<=24) (λd:iJ.B=>Int.toNat (24-d.1.2)) (λx:qH=>True) (λd hd=>by
  have hw:wI (d.1.2+1)=d.1.2+1:=bf (by omega) (by omega)
  unfold Kb
  simp only[bB]
  simp only[nf,sO,hw]
  repeat' (first|exact True.intro|omega|(intro _)|(apply And.intro))) 2000 d hd (by omega)
theorem aqb (a b:Int)(d:iK.B)(hd:0<=d.1.2.2.2.2∧d.1.2.2.2.2<=d.1.2.2.2.1∧d.1.2.2.2.1<=1999∧d.1.1=a∧d.1.2.2.1=b∧(d.1.2.1:Int)=d.1.2.2.2.2∧d.1.2.2.2.1=a+1):Ok (Ke d) (λx:qI=>x.1.1=a∧x.1.2.2.1=b∧(x.1.2.1:Int)=a+1):=
 bd (s:=_) (λd:iK.B=>0<=d.1.2.2.2.2∧d.1.2.2.2.2<=d.1.2.2.2.1∧d.1.2.2.2.1<=1999∧d.1.1=a∧d.1.2.2.1=b∧(d.1.2.1:Int)=d.1.2.2.2.2∧d.1.2.2.2.1=a+1) (λd:iK.B=>Int.toNat (d.1.2.2.2.1-d.1.2.2.2.2)) (λx:qI=>x.1.1=a∧x.1.2.2.1=b∧(x.1.2.1:Int)=a+1) (λd hd=>by
  have hw:wI (d.1.2.2.2.2+1)=d.1.2.2.2.2+1:=bf (by omega) (by omega)
  unfold Kd
  simp only[bB]
  simp only[nf,sO,hw]
  repeat' (first|exact True.intro|omega|(intro _)|(apply And.intro))) 2000 d hd (by omega)
theorem aqc (d:iL.B)(hd:0<=d.1∧d.1<=24):Ok (Kg d) (λx:qJ=>True):=
 bd (s:=_) (λd:iL.B=>0<=d.1∧d.1<=24) (λd:iL.B=>Int.toNat (24-d.1)) (λx:qJ=>True) (λd hd=>by
  unfold Kf
  try dsimp only
  rw[aL]
  refine⟨λh=> ?_,λ_=>by simp only[av,Sum.elim_inr]⟩
  have h:=of_decide_eq_true h
  have hw:wI (d.1+1)=d.1+1:=bf (by omega) (by omega)
  rw[bG,hw]
  refine⟨rfl,aA (aqb d.1 d.1 _ (by dsimp only;omega)) λx _ hx=> ?_⟩
  obtain⟨a1,a2,a3⟩:=hx
  have hn:x.1.2.1=Int.toNat (d.1+1):=by omega
  have td:=λa b c=>Kq (Int.toNat (d.1+1)) (by omega) a b c false true
  simp only[a1,a2,hw,hn]
  simp only[bB]
  simp only[nf,sO]
  repeat' (first|exact True.intro|omega|(intro _)|(apply And.intro))) 2000 d hd (by omega)
instance aO3 (x0:Nat->Int)(x1:Nat->Int)(x2:Nat->Int)(x3:Int)(x4:Bool):bj (rb x0 x1 x2 x3 x4):=by
 unfold rb QG
 try dsimp only
 refine aF ?_
 rw[bx];intro d1 _
 refine aA (aqa _ (by simp)) λd _ hd=> ?_
 rw[bx];intro d2 _
 refine aA (aqc _ (by simp)) λd _ hd=> ?_
 simp only[av]
instance aHC (x0:Nat->Int)(x1:Nat->Int)(x2:Nat->Int)(x3:Int)(x4:Bool):bj (oy x0 x1 x2 x3 x4):=by
 unfold oy BG
 exact aF (by simp only[bB])
instance aUV (x0:Int)(x1:Int)(x2:Int)(x3:Int):bj (OH x0 x1 x2 x3):=by
 unfold OH ajT
 exact aF (by simp only[bB])
theorem aj9 (a b:Int)(d:fY.B)(hd:0<=d.1.2.2.2.2∧d.1.2.2.2.2<=d.1.2.2.2.1∧d.1.2.2.2.1<=1999∧d.1.1=a∧d.1.2.2.1=b∧d.1.2.2.2.1=a∧0<=a∧a<24):Ok (Ff d) (λx:nP=>x.1.2.2.1=b):=
 bd (s:=_) (λd:fY.B=>0<=d.1.2.2.2.2∧d.1.2.2.2.2<=d.1.2.2.2.1∧d.1.2.2.2.1<=1999∧d.1.1=a∧d.1.2.2.1=b∧d.1.2.2.2.1=a∧0<=a∧a<24) (λd:fY.B=>Int.toNat (d.1.2.2.2.1-d.1.2.2.2.2)) (λx:nP=>x.1.2.2.1=b) (λd hd=>by
  have hw:wI (d.1.2.2.2.2+1)=d.1.2.2.2.2+1:=bf (by omega) (by omega)
  unfold Fe
  simp only[bB]
  simp only[nf,sO,hw]
  repeat' (first|exact True.intro|omega|(intro _)|(apply And.intro))) 2000 d hd (by omega)
theorem aka (d:fZ.B)(hd:0<=d.1∧d.1<=24):Ok (Fh d) (λx:nQ=>True):=
 bd (s:=_) (λd:fZ.B=>0<=d.1∧d.1<=24) (λd:fZ.B=>Int.toNat (24-d.1)) (λx:nQ=>True) (λd hd=>by
  have hw:wI (d.1+1)=d.1+1:=bf (by omega) (by omega)
  unfold Fg
  simp only[bB]
  simp only[nf,sO,hw]
  repeat' (first|exact True.intro|omega|(intro _)|(apply And.intro))) 2000 d hd (by omega)
theorem akb (d:gf.B)(hd:0<=d.1∧d.1<=24):Ok (Fj d) (λx:nR=>True):=
 bd (s:=_) (λd:gf.B=>0<=d.1∧d.1<=24) (λd:gf.B=>Int.toNat (24-d.1)) (λx:nR=>True) (λd hd=>by
  unfold Fi
  try dsimp only
  rw[aL]
  refine⟨λh=> ?_,λ_=>by simp only[av,Sum.elim_inr]⟩
  have h:=of_decide_eq_true h
  have hw:wI (d.1+1)=d.1+1:=bf (by omega) (by omega)
  iterate 4 (rw[bG];refine⟨by simp only[nf,sO,hw];omega,?_⟩)
  iterate 2 (rw[bx];intro _ _)
  iterate 5 (rw[bG];refine⟨by simp only[nf,sO,hw];omega,?_⟩)
  rw[bx];intro _ _
  iterate 4 (rw[bG];refine⟨by simp only[nf,sO,hw];omega,?_⟩)
  refine aA (aj9 d.1 d.1 _ (by dsimp only;omega)) λx _ hx=> ?_
  simp only[av,Sum.elim_inl,hx,hw]
  omega) 2000 d hd (by omega)
theorem aqd (d:iM.B)(hd:0<=d.1.2∧d.1.2<=24):Ok (Kj d) (λx:qL=>True):=
 bd (s:=_) (λd:iM.B=>0<=d.1.2∧d.1.2<=24) (λd:iM.B=>Int.toNat (24-d.1.2)) (λx:qL=>True) (λd hd=>by
  have hw:wI (d.1.2+1)=d.1.2+1:=bf (by omega) (by omega)
  unfold Ki
  simp only[bB]
  simp only[nf,sO,hw]
  repeat' (first|exact True.intro|omega|(intro _)|(apply And.intro))) 2000 d hd (by omega)
instance aO4 (x0:Nat->Int)(x1:Int)(x2:Bool):bj (AW x0 x1 x2):=by
 unfold AW QI
 refine aF ?_
 refine aA (aqd _ (by simp)) λd _ hd=> ?_
 simp only[bB]
end Go.Proofs.YtldgljclcgaibaaGreat
