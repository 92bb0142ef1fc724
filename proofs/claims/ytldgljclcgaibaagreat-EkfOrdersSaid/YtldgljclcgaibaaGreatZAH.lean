/-
  Parts of the proof: PRT PWY PWZ PWQ PRE TA TB TC TD TU TE
-/
import Derived.Test.YtldgljclcgaibaaGreatZAE
import Derived.Test.YtldgljclcgaibaaGreatZAG
open Nat renaming beq→ww,ble→wl
open Int renaming toNat→wt,ofNat→wn,fdiv→t9,tdiv→t6
open BitVec renaming ofInt→wd,toNat→ul
open List renaming append→t8
set_option linter.all false
set_option maxRecDepth 100000
set_option maxHeartbeats 4000000
namespace Go.Proofs.YtldgljclcgaibaaGreat
open Go.Ab
def isR (r V:Int):Prop:=0<=r/\V<=r*r+r/\(r=0∨r*r-r<V)
theorem aLy {a b:Int}(ha:0<=a)(hb:0<=b):0<=a*b:=JL ha hb
theorem aTr {r s V:Int}(h1:isR r V)(h2:isR s V):s<=r:=by
 obtain⟨a1,a2,a3⟩:=h1;obtain⟨b1,b2,b3⟩:=h2;rcases ago r s with h|h
 .exfalso
  have p:=aLy (a:=s-r-1) (b:=s+r) (by omega) (by omega);have q:(s-r-1)*(s+r)=s*s-s-(r*r+r):=by grind
  rcases b3 with b3|b3
  .omega
  .omega
 .exact h
theorem aUB {r s V:Int}(h1:isR r V)(h2:isR s V):r=s:=Int.le_antisymm (aTr h2 h1) (aTr h1 h2)
theorem aYH (n:Nat):∃q:Nat,q*q<=n/\n<(q+1)*(q+1):=by
 induction n with
 |zero=>exact⟨0,by omega,by omega⟩
 |succ n ih=>
  obtain⟨q,h1,h2⟩:=ih;by_cases c:n+1<(q+1)*(q+1)
  .exact⟨q,by omega,c⟩
  .refine⟨q+1,by omega,?_⟩;have:(q+1+1)*(q+1+1)=(q+1)*(q+1)+2*q+3:=by grind
   omega
theorem aUC (V:Int)(h:0<=V):∃q:Int,0<=q/\q*q<=V/\V<(q+1)*(q+1):=by
 obtain⟨q,h1,h2⟩:=aYH V.toNat;refine⟨q,by omega,?_,?_⟩
 .have e:((q*q:Nat):Int)=(q:Int)*q:=by simp
  omega
 .have e:(((q+1)*(q+1):Nat):Int)=((q:Int)+1)*(q+1):=by simp
  omega
theorem aRZ {a b:Int}(ha:0<=a)(hb:0<=b)(h:a*a<b*b):a<b:=by
 rcases ago a b with c|c
 .exact c
 .exfalso
  have:=On c c hb (by omega);omega
theorem aUD (n:Nat)(hn:n<128):gY 0 1 (wn n)=some (2^n/18446744073709551616,2^n%18446744073709551616):=by
 have key:∀n:Fin 128,gY 0 1 (wn n.val)=some ((2:Int)^n.val/18446744073709551616,(2:Int)^n.val%18446744073709551616):=by decide+kernel
 exact key ⟨n,hn⟩
theorem aJw (a b c d:Int)(b0:0<=b)(b1:b<18446744073709551616)(d0:0<=d)(d1:d<18446744073709551616):
  vr a b c d=some (decide (a*18446744073709551616+b<c*18446744073709551616+d)):=by
 simp only[vr,OL,Pg.cg,Pg.bN,Pg.cq,Pg.fe,Pg.eu];try delta wI wU
 by_cases h:a<c
 .have:a*18446744073709551616+b<c*18446744073709551616+d:=by omega
  simp[h,this]
 .by_cases e:a=c
  .subst e;have:(a*18446744073709551616+b<a*18446744073709551616+d)↔b<d:=by omega
   simp[this]
  .have:¬a*18446744073709551616+b<c*18446744073709551616+d:=by omega
   have e':(a==c)=false:=by simp[e]
   rw[cG h,bA,e',bA,cG this]
theorem aze (x y c:Int)(x0:0<=x)(x1:x<18446744073709551616)(y0:0<=y)(y1:y<18446744073709551616)(c0:0<=c)(c1:c<=1):aeq x y c=some ((x-y-c)%18446744073709551616,if x<y+c then 1 else 0):=by
 unfold aeq;have h:wl c.toNat 1=true:=aKA (by omega);rw[h,bn];congr 1
 unfold aYm aYn;simp only[cF,ql];constructor
 .omega
 .split<;>split<;>omega
theorem aR0 (a b c d:Int)(a0:0<=a)(a1:a<18446744073709551616)(b0:0<=b)(b1:b<18446744073709551616)(c0:0<=c)(c1:c<18446744073709551616)(d0:0<=d)(d1:d<18446744073709551616)
  (h:c*18446744073709551616+d<=a*18446744073709551616+b):
  ∃h' l',xP a b c d=some (h',l')/\0<=h'/\h'<18446744073709551616/\0<=l'/\l'<18446744073709551616/\h'*18446744073709551616+l'=a*18446744073709551616+b-(c*18446744073709551616+d):=by
 simp only[xP,L0,Pg.cg,Pg.bN,Pg.cq,Pg.fe,Pg.eu];try delta wI wU
 rw[aze b d 0 b0 b1 d0 d1 (by omega) (by omega)];simp only[bM,Int.add_zero];by_cases k:b<d
 .rw[if_pos k,aze a c 1 a0 a1 c0 c1 (by omega) (by omega)];simp only[bM];refine⟨_,_,rfl,?_,?_,?_,?_,?_⟩<;>omega
 .rw[if_neg k,aze a c 0 a0 a1 c0 c1 (by omega) (by omega)];simp only[bM];refine⟨_,_,rfl,?_,?_,?_,?_,?_⟩<;>omega
theorem ah0 (h1 l1 h2 l2:Int)(a0:0<=h1)(b0:0<=l1)(c0:0<=h2)(d0:0<=l2)(b1:l1<18446744073709551616)(d1:l2<18446744073709551616)
  (h:h1*18446744073709551616+l1+(h2*18446744073709551616+l2)<340282366920938463463374607431768211456):
  ∃h' l',iZ h1 l1 h2 l2=some (h',l')/\0<=h'/\h'<18446744073709551616/\0<=l'/\l'<18446744073709551616/\h'*18446744073709551616+l'=h1*18446744073709551616+l1+(h2*18446744073709551616+l2):=by
 rw[aJu h1 l1 h2 l2 a0 b0 c0 d0 b1 d1];refine⟨_,_,rfl,?_,?_,?_,?_,?_⟩<;>omega
theorem anG {m n:Nat}(h:m<=n):(2:Int)^m<=2^n:=by
 have h2:(2:Nat)^m<=2^n:=Nat.pow_le_pow_right (by decide) h;have h3:((2^m:Nat):Int)<=((2^n:Nat):Int):=by exact_mod_cast h2
 simpa using h3
theorem atV (h l:Int)(o:okW h l)(h0:0<=h):∃r,isR r (vW h l)/\r<18446744073709551616/\L5 h l=if r<=9223372036854775807 then some (r,true) else some (0,false):=by
 obtain⟨o1,o2,o3,o4⟩:=o;have v0:0<=vW h l:=by show 0<=h*18446744073709551616+l;omega
 have v1:vW h l<170141183460469231731687303715884105728:=by show h*18446744073709551616+l<_;omega
 have hvv:h*18446744073709551616+l=vW h l:=rfl;generalize vW h l=V at*
 obtain⟨q,q0,q1,q2⟩:=aUC V v0;have qb:q<13043817825332782213:=aRZ q0 (by omega) (by omega);obtain⟨r,hr⟩:∃r,r=if q<V-q*q then q+1 else q:=⟨_,rfl⟩
 have q3:(q+1)*(q+1)=q*q+2*q+1:=by grind
 refine⟨r,?_,by rw[hr];split<;>omega,?_⟩
 .rw[hr];split
  .rename_i c
   exact⟨by omega,by omega,Or.inr (by omega)⟩
  .rename_i c
   refine⟨q0,by omega,?_⟩;rcases ago 0 q with k|k
   .exact Or.inr (by omega)
   .exact Or.inl (by omega)
 simp only[L5,ag5,Pg.cg,Pg.bN,Pg.cq,Pg.fe,Pg.eu];try delta wI wU
 unfold WR;have n0:decide (h<0)=false:=cG (by omega);have n1:IntKind.wrap .u64 h=h:=by rw[wrap_u64];omega
 rw[n0,bA,n1]
 refine OB (λt d=>∃(p c rh rl sh sl:Int),t<=64/\0<=p/\p=c*2^t/\p*p<=V/\V<(p+2^t)*(p+2^t)/\0<=rh/\rh<18446744073709551616/\0<=rl/\rl<18446744073709551616/\rh*18446744073709551616+rl=V-p*p/\
   0<=sh/\sh<18446744073709551616/\0<=sl/\sl<18446744073709551616/\sh*18446744073709551616+sl=p*2^t/\d=(2*(t:Int)-2,(rh,rl),sh,sl)) ?_ 2000 64 _ (by omega)
  ⟨0,0,h,l,0,0,by omega,by omega,by omega,by omega,by
   have:(2:Int)^64=18446744073709551616:=rfl;omega,by omega,by omega,by omega,by omega,by omega,by omega,by omega,by omega,by omega,by omega,rfl⟩
 rintro t _ k ⟨p,c,rh,rl,sh,sl,t0,p0,pc,p1,p2,r0,r1,r2,r3,r4,s0,s1,s2,s3,s4,rfl⟩ hk
 rcases abY t with z|z
 .subst z;have e1:(2:Int)^0=1:=rfl;rw[e1] at p2 s4
  have pq:p=q:=by
   have h1:p<q+1:=aRZ p0 (by omega) (by omega);have h2:q<p+1:=aRZ q0 (by omega) (by omega);omega
  subst pq;have g0:decide ((2:Int)*((0:Nat):Int)-2>=0)=false:=by decide
  simp only[L4,Pg.vN,Pg.vO,Pg.An,Pg.Gu,Pg.vP,qo,lP,g0,bA,aJw sh sl rh rl s2 s3 r2 r3,bM];rw[s4,r4,Int.mul_one];by_cases cc:p<V-p*p
  .rw[dA cc,bn];rw[if_pos cc] at hr;obtain⟨a,b,e2,a0,a1,b0,b1,e3⟩:=ah0 sh sl 0 1 s0 s2 (by omega) (by omega) s3 (by omega) (by omega);rw[e2,bM,MN a b false a0 b0 b1,e3,hr];have e4:sh*18446744073709551616+sl+(0*18446744073709551616+1)=p+1:=by omega
   rw[e4];have az:a=0:=by omega
   have e5:b=p+1:=by omega
   simp only[wS,fY,e5];by_cases f:p+1<=9223372036854775807
   .rw[if_pos f,bM]
   .rw[if_neg f,bM]
  .rw[cG cc,bA];rw[if_neg cc] at hr;rw[MN sh sl false s0 s2 s3,s4,hr];have az:sh=0:=by omega
   have e5:sl=p:=by omega
   simp only[wS,fY,Int.mul_one,e5];by_cases f:p<=9223372036854775807
   .rw[if_pos f,bM]
   .rw[if_neg f,bM]
 .obtain⟨m,rfl⟩:∃m,t=m+1:=⟨t-1,by omega⟩;have P2:(2:Int)^(m+1)=2^m*2:=Int.pow_succ _ _;have PP:(2:Int)^(2*m)=2^m*2^m:=by rw[<-Int.pow_add];congr 1;omega
  have P0:=lU m;have PB:(2:Int)^m<=2^63:=anG (by omega);have PBv:(2:Int)^63=9223372036854775808:=rfl;have at0:(2:Int)*((m+1:Nat):Int)-2=wn (2*m):=by simp only[cF];omega
  rw[at0];have g0:decide (wn (2*m)>=0)=true:=dA (by simp only[cF];omega)
  have g1:IntKind.wrap .i64 (wn (2*m)-2)=2*(m:Int)-2:=by
   simp only[cF];rw[wrap_i64 (by omega) (by omega)];omega
  simp only[L4,Pg.vN,Pg.vO,Pg.An,Pg.Gu,Pg.vP,qo,lP,g0,bn,aUD (2*m) (by omega),bM,wI,g1];rw[PP];rw[P2] at pc p2 s4;generalize hP:(2:Int)^m=P at*
  have PPb:P*P<=85070591730234615865843651857942052864:=by
   have:=On PB PB (by omega) (by omega);omega
  have PP0:0<P*P:=Int.mul_pos P0 P0
  have pb:p*P*2<=V:=by
   rcases ago 0 c with k0|k0
   .have c1:1*(P*2)<=c*(P*2):=aqy (by omega) (by omega);have c2:p*(P*2)<=p*p:=Int.mul_le_mul_of_nonneg_left (by omega) p0;have c3:p*(P*2)=p*P*2:=by grind
    omega
   .have c1:c*(P*2)<=0*(P*2):=aqy k0 (by omega);have:p=0:=by omega
    subst this;omega
  have s4':sh*18446744073709551616+sl=p*P*2:=by rw[s4];grind
  obtain⟨a,b,e2,a0,a1,b0,b1,e3⟩:=ah0 sh sl (P*P/18446744073709551616) (P*P%18446744073709551616) s0 s2 (by omega) (by omega) s3 (by omega) (by omega);have e3':a*18446744073709551616+b=p*P*2+P*P:=by omega
  obtain⟨u,v,e4,u0,v0,v1,e5⟩:=awz sh sl 1 (by omega) s0 s1 s2 s3;have e4':iU sh sl 1=some (u,v):=e4
  have e5':u*18446744073709551616+v=p*P:=by
   rw[e5,s4'];show p*P*2/2^1=p*P;rw[show(2:Int)^1=2 from rfl];omega
  rw[e2,bM,e4',bM,aJw rh rl a b r2 r3 b0 b1,bM,e3',r4];have dd:p*p+(p*P*2+P*P)=(p+P)*(p+P):=by grind
  by_cases cc:V-p*p<p*P*2+P*P
  .rw[dA cc];simp only[DV,bA];refine hk m _ (by omega) ⟨p,c*2,rh,rl,u,v,by omega,p0,by rw[hP,pc];grind,p1,by rw[hP];omega,r0,r1,r2,r3,r4,u0,by omega,v0,v1,by rw[hP];exact e5',rfl⟩
  .rw[cG cc];simp only[Bool.not_false,bn];obtain⟨x,y,e6,x0,x1,y0,y1,e7⟩:=aR0 rh rl a b r0 r1 r2 r3 a0 a1 b0 b1 (by omega);obtain⟨w,z',e8,w0,w1,z0,z1,e9⟩:=ah0 u v (P*P/18446744073709551616) (P*P%18446744073709551616) u0 v0 (by omega) (by omega) v1 (by omega) (by omega);rw[e6,bM,e8,bM];refine hk m _ (by omega) ⟨p+P,c*2+1,x,y,w,z',by omega,by omega,by rw[hP,pc];grind,by omega,?_,x0,x1,y0,y1,by omega,w0,w1,z0,z1,?_,rfl⟩
   .rw[hP];have:(p+P+P)*(p+P+P)=(p+P*2)*(p+P*2):=by grind
    omega
   .rw[hP];have:(p+P)*P=p*P+P*P:=by grind
    omega
theorem aR1 (h l:Int)(neg:Bool)(h0:0<=h)(h1:h<18446744073709551616)(l0:0<=l)(l1:l<18446744073709551616):
  ∃h' l' b,mR h l neg=some ((h',l'),b)/\okW h' l'/\(b=true↔if neg=true then h*18446744073709551616+l<=170141183460469231731687303715884105728 else h*18446744073709551616+l<170141183460469231731687303715884105728)/\
   (b=true->vW h' l'=if neg=true then -(h*18446744073709551616+l) else h*18446744073709551616+l):=by
 simp only[mR,LM,Pg.cg,Pg.bN,Pg.cq,Pg.fe,Pg.eu];try delta wI wU
 unfold vW;cases neg
 .have hw:=GQ h;rw[E0 h0 h1] at hw;generalize IntKind.wrap IntKind.i64 h=w at*
  refine⟨w,l,_,rfl,⟨?_,?_,l0,l1⟩,?_,?_⟩
  .split at hw<;>omega
  .split at hw<;>omega
  .rw[qO _ _ (by omega),beq_iff_eq,if_neg (by decide)];constructor<;>intro _<;>omega
  .rw[qO _ _ (by omega),beq_iff_eq,if_neg (by decide)];intro _;split at hw<;>omega
 .simp only[DV,bA,aeQ l l0 l1,wrap_u64,aeQ h h0 h1];rw[O9 _ _ _ (by omega) (by omega) (by omega) (by omega)];simp only[bM,kR];generalize hm:((18446744073709551615-h)%18446744073709551616+((18446744073709551615-l)%18446744073709551616+1+0)/18446744073709551616)%18446744073709551616=m
  have hw:=GQ m;generalize IntKind.wrap IntKind.i64 m=w at*
  have m0:0<=m/\m<18446744073709551616:=by omega
  rw[E0 m0.1 m0.2] at hw;have w0: -9223372036854775808<=w/\w<=9223372036854775807:=by split at hw<;>omega
  have wm:(w<0/\w=m-18446744073709551616)∨(0<=w/\w=m):=by split at hw<;>omega
  clear hw
  by_cases c:w<0
  .rw[dA c,bn];refine⟨_,_,_,rfl,⟨w0.1,w0.2,by omega,by omega⟩,?_,?_⟩
   .simp only[true_iff];omega
   .intro _;omega
  .rw[cG c,bA];refine⟨_,_,_,rfl,⟨w0.1,w0.2,by omega,by omega⟩,?_,?_⟩
   .simp only[cj,beq_iff_eq,Bx];constructor<;>intro _<;>omega
   .simp only[cj,beq_iff_eq,Bx];intro _;omega
theorem aYI (d:Int)(s:Nat)(hs:s<=127)(d0:0<=d)(d1:d<18446744073709551616):
  ∃h' l',gY 0 d (wn s)=some (h',l')/\0<=h'/\h'<18446744073709551616/\0<=l'/\l'<18446744073709551616/\h'*18446744073709551616+l'=d*2^s%340282366920938463463374607431768211456:=by
 simp only[gY,S9,Pg.cg,Pg.bN,Pg.cq,Pg.fe,Pg.eu];try delta wI wU
 by_cases c:64<=s
 .have e:decide (wn s>=64)=true:=by simp only[cF];exact dA (by omega)
  have e2:IntKind.wrap .i64 (wn s-64)=wn (s-64):=(wrap_i64 (by simp only[cF];omega) (by simp only[cF];omega)).trans (by simp only[cF];omega);have e3:(!decide (wn (s-64)<0))=true:=by simp
  have e4:min (wt (wn (s-64))) 64=s-64:=by
   show min (s-64) 64=s-64;omega
  simp only[e,e2,e3,e4,bn,wrap_u64];refine⟨_,_,rfl,by omega,by omega,by omega,by omega,?_⟩
  have p:(2:Int)^s=2^(s-64)*18446744073709551616:=by
   rw[show(18446744073709551616:Int)=2^64 from rfl,<-Int.pow_add];congr 1;omega
  rw[p,<-alw];generalize d*2^(s-64)=x
  omega
 .have e:decide (wn s>=64)=false:=by simp only[cF];exact cG (by omega)
  have e2:IntKind.wrap .i64 (64-wn s)=wn (64-s):=(wrap_i64 (by simp only[cF];omega) (by simp only[cF];omega)).trans (by simp only[cF];omega);have e3:∀n,(!decide (wn n<0))=true:=by simp
  have e4:min (wt (wn (64-s))) 64=64-s:=by
   show min (64-s) 64=64-s;omega
  have e5:min (wt (wn s)) 64=s:=by
   show min s 64=s;omega
  simp only[e,e2,e3,e4,e5,bn,bA,wrap_u64,agp];rw[qO _ _ (oS (lU _))]
  have pq:(18446744073709551616:Int)=2^s*2^(64-s):=by
   rw[<-Int.pow_add,show s+(64-s)=64 by omega];rfl
  have P0:=lU s;have Q0:=lU (64-s);have x0:0<=d/2^(64-s):=DT d0 (oS Q0);have x1:d/2^(64-s)<2^s:=abX Q0 (by rw[<-pq];exact d1);have x2:d/2^(64-s)<=d:=ayj _ d0;have z0:(0:Int)%18446744073709551616=0:=rfl;rw[z0]
  have key:wn (ul (wd 64 0|||wd 64 (d/2^(64-s))))=d/2^(64-s):=by
   rw[azc 0 (d/2^(64-s)) 0 (by omega) (by decide) x0 (by omega) (by omega) (by rw[show(2:Int)^0=1 from rfl,Int.emod_one])];omega
  rw[key];refine⟨_,_,rfl,by omega,by omega,by omega,by omega,?_⟩
  have m1:d*2^s/18446744073709551616=d/2^(64-s):=by
   rw[pq,Ag d,Int.mul_ediv_mul_of_pos _ _ P0]
  have b1:d*2^s<340282366920938463463374607431768211456:=by
   have:=Int.mul_lt_mul_of_pos_right d1 P0;have q:(2:Int)^s<=2^64:=anG (by omega);have q2:(2:Int)^64=18446744073709551616:=rfl;have q3:18446744073709551616*2^s<=(18446744073709551616:Int)*18446744073709551616:=Int.mul_le_mul_of_nonneg_left (by omega) (by omega);have q4:(18446744073709551616:Int)*18446744073709551616=340282366920938463463374607431768211456:=by decide
   omega
  have b0:0<=d*2^s:=JL d0 (oS P0);rw[E0 b0 b1];have x3:d/2^(64-s)%18446744073709551616=d/2^(64-s):=E0 x0 (by omega);rw[x3,<-m1];omega
theorem anH (a:Int)(s:Nat)(hs:s<=127)(a0: -9223372036854775808<=a)(a1:a<=9223372036854775807):
  ∃h l b,uY a (wn s)=some ((h,l),b)/\okW h l/\(b=true↔ -170141183460469231731687303715884105728<=a*2^s/\a*2^s<170141183460469231731687303715884105728)/\(b=true->vW h l=a*2^s)/\(b=false->h=0/\l=0):=by
 simp only[uY,acp,Pg.cg,Pg.bN,Pg.cq,Pg.fe,Pg.eu];try delta wI wU
 have n0:decide (wn s<0)=false:=by simp
 have n1:decide (wn s>127)=false:=by simp only[cF];exact cG (by omega)
 rw[n0,bA,n1,bA,apA a a0 a1,bM];generalize hd:(if a<0 then -a else a)=d
 have d0:0<=d/\d<=9223372036854775808:=by split at hd<;>omega
 obtain⟨u,v,e1,u0,u1,v0,v1,e2⟩:=aYI d s hs d0.1 (by omega);rw[e1,bM];simp only;have P0:=lU s;have D0:0<=d*2^s:=JL d0.1 (oS P0)
 have sg:(a<0->a*2^s= -(d*2^s))/\(¬a<0->a*2^s=d*2^s):=by
  constructor<;>intro h
  .rw[if_pos h] at hd;rw[<-hd,Int.neg_mul,Int.neg_neg]
  .rw[if_neg h] at hd;rw[hd]
 have a17:∀{b:Bool},b=false->¬d*2^s<340282366920938463463374607431768211456->(b=true↔ -170141183460469231731687303715884105728<=a*2^s/\a*2^s<170141183460469231731687303715884105728):=by
  intro b hb hn;rw[hb];refine iff_of_false Bool.false_ne_true λh=> ?_;by_cases n:a<0
  .have:=sg.1 n;omega
  .have:=sg.2 n;omega
 have fin:d*2^s<340282366920938463463374607431768211456->∃h l b,(Option.bind (mR u v (decide (a<0))) λ(d:Wz)=>bif !d.2 then some (((0,0),false):(Int×Int)×Bool) else some (d.1,true))=some ((h,l),b)/\okW h l/\(b=true↔ -170141183460469231731687303715884105728<=a*2^s/\a*2^s<170141183460469231731687303715884105728)/\(b=true->vW h l=a*2^s)/\(b=false->h=0/\l=0):=by
  intro lt;rw[E0 D0 lt] at e2;obtain⟨h',l',b,e3,o3,f3,v3⟩:=aR1 u v (decide (a<0)) u0 u1 v0 v1;rw[e3,bM];rw[e2] at f3 v3;by_cases n:a<0
  .have q:=sg.1 n;rw[dA n,if_pos rfl] at f3 v3;cases b with
   |false=>
    refine⟨0,0,false,rfl,⟨by omega,by omega,by omega,by omega⟩,?_,(λh=>by cases h),(λ_=>⟨rfl,rfl⟩)⟩;rw[f3];omega
   |true=>
    refine⟨h',l',true,rfl,o3,?_,(λ_=> ?_),(λh=>by cases h)⟩
    .rw[f3];omega
    .rw[v3 rfl];omega
  .have q:=sg.2 n;rw[cG n,if_neg (by decide)] at f3 v3;cases b with
   |false=>
    refine⟨0,0,false,rfl,⟨by omega,by omega,by omega,by omega⟩,?_,(λh=>by cases h),(λ_=>⟨rfl,rfl⟩)⟩;rw[f3];omega
   |true=>
    refine⟨h',l',true,rfl,o3,?_,(λ_=> ?_),(λh=>by cases h)⟩
    .rw[f3];omega
    .rw[v3 rfl];omega
 have shr:∃x y,iU u v (wn s)=some (x,y)/\0<=x/\0<=y/\y<18446744073709551616/\x*18446744073709551616+y=(u*18446744073709551616+v)/2^s:=by
  rcases ns s 127 with c|c
  .exact awz u v s (by omega) u0 u1 v0 v1
  .obtain rfl:s=127:=by omega
   refine⟨0,u/9223372036854775808,?_,by omega,by omega,by omega,?_⟩
   .simp only[iU,I5,Pg.cg,Pg.bN,Pg.cq,Pg.fe,Pg.eu];try delta wI wU
    have k1:decide (wn 127>=64)=true:=by decide
    have k2:(!decide (IntKind.wrap .i64 (wn 127-64)<0))=true:=by decide
    have k3:(2:Int)^min (wt (IntKind.wrap .i64 (wn 127-64))) 64=9223372036854775808:=by decide
    simp only[k1,k2,k3,bn];rw[qO _ _ (by omega)]
   .have k:(2:Int)^127=170141183460469231731687303715884105728:=by decide
    rw[k];omega
 obtain⟨x,y,e3,x0,y0,y1,e4⟩:=shr;rw[e3,bM];simp only;rw[e2] at e4;by_cases lt:d*2^s<340282366920938463463374607431768211456
 .rw[E0 D0 lt,Int.mul_ediv_cancel _ (by omega)] at e4;have xe:(x==0)=true:=by rw[beq_iff_eq];omega
  have ye:(y==d)=true:=by rw[beq_iff_eq];omega
  rw[xe,ye];exact fin lt
 .have small:d*2^s%340282366920938463463374607431768211456/2^s<d:=by
   refine abX P0 ?_;have:d*2^s%340282366920938463463374607431768211456<340282366920938463463374607431768211456:=We _ (by omega);omega
  have ne:(x==0&&(y==d&&true))=false:=by
   rw[Bool.and_true];by_cases xz:x=0
   .have:(y==d)=false:=by rw[als];omega
    rw[this,Bool.and_false]
   .have:(x==0)=false:=by rw[als];omega
    rw[this,Bool.false_and]
  rw[ne];exact⟨0,0,false,rfl,⟨by omega,by omega,by omega,by omega⟩,a17 rfl lt,(λh=>by cases h),(λ_=>⟨rfl,rfl⟩)⟩
theorem Rv (x:Int)(h0:1<=x)(h1:x<256):∃n:Nat,1<=n/\n<=8/\(2:Int)^(n-1)<=x/\x<2^n/\aX (IntKind.wrap .u8 x) 256=true/\IntKind.wrap .i64 (Em (ByteArray.mk (List.toArray (t8 (t8 [0,1,2,2,3,3,3,3,4,4,4,4,4,4,4,4,5,5,5,5,5,5,5,5,5,5,5,5,5,5,5,5,6,6,6,6,6,6,6,6,6,6,6,6,6,6,6,6,6,6,6,6,6,6,6,6,6,6,6,6,6,6,6,6] [7,7,7,7,7,7,7,7,7,7,7,7,7,7,7,7,7,7,7,7,7,7,7,7,7,7,7,7,7,7,7,7,7,7,7,7,7,7,7,7,7,7,7,7,7,7,7,7,7,7,7,7,7,7,7,7,7,7,7,7,7,7,7,7]) (t8 [8,8,8,8,8,8,8,8,8,8,8,8,8,8,8,8,8,8,8,8,8,8,8,8,8,8,8,8,8,8,8,8,8,8,8,8,8,8,8,8,8,8,8,8,8,8,8,8,8,8,8,8,8,8,8,8,8,8,8,8,8,8,8,8] [8,8,8,8,8,8,8,8,8,8,8,8,8,8,8,8,8,8,8,8,8,8,8,8,8,8,8,8,8,8,8,8,8,8,8,8,8,8,8,8,8,8,8,8,8,8,8,8,8,8,8,8,8,8,8,8,8,8,8,8,8,8,8,8])))) (wt (IntKind.wrap IntKind.u8 x)))=(n:Int):=by
 obtain⟨a,rfl⟩:∃a:Nat,x=(a:Int):=⟨x.toNat,by omega⟩;have t:∀a:Fin 256,1<=a.val->(aX (IntKind.wrap .u8 (a.val:Int)) 256=true/\IntKind.wrap .i64 (Em (ByteArray.mk (List.toArray (t8 (t8 [0,1,2,2,3,3,3,3,4,4,4,4,4,4,4,4,5,5,5,5,5,5,5,5,5,5,5,5,5,5,5,5,6,6,6,6,6,6,6,6,6,6,6,6,6,6,6,6,6,6,6,6,6,6,6,6,6,6,6,6,6,6,6,6] [7,7,7,7,7,7,7,7,7,7,7,7,7,7,7,7,7,7,7,7,7,7,7,7,7,7,7,7,7,7,7,7,7,7,7,7,7,7,7,7,7,7,7,7,7,7,7,7,7,7,7,7,7,7,7,7,7,7,7,7,7,7,7,7]) (t8 [8,8,8,8,8,8,8,8,8,8,8,8,8,8,8,8,8,8,8,8,8,8,8,8,8,8,8,8,8,8,8,8,8,8,8,8,8,8,8,8,8,8,8,8,8,8,8,8,8,8,8,8,8,8,8,8,8,8,8,8,8,8,8,8] [8,8,8,8,8,8,8,8,8,8,8,8,8,8,8,8,8,8,8,8,8,8,8,8,8,8,8,8,8,8,8,8,8,8,8,8,8,8,8,8,8,8,8,8,8,8,8,8,8,8,8,8,8,8,8,8,8,8,8,8,8,8,8,8])))) (wt (IntKind.wrap IntKind.u8 (a.val:Int))))=((Nat.log2 a.val+1:Nat):Int)):=by decide+kernel
 have ha:1<=a:=by omega
 have a31:a<256:=by omega
 have l1:=Nat.log2_self_le (n:=a) (by omega);have l2:a<2^(a.log2+1):=Nat.lt_log2_self
 have lb:a.log2<8:=by
  rcases ns a.log2 8 with c|c
  .exact c
  .have:2^8<=2^a.log2:=Nat.pow_le_pow_right (by decide) c;omega
 have k:=t ⟨a,a31⟩ ha;refine⟨a.log2+1,by omega,by omega,?_,?_,k.1,k.2⟩
 .rw[Nat.add_sub_cancel];have:((2^a.log2:Nat):Int)=(2:Int)^a.log2:=by simp
  omega
 .have:((2^(a.log2+1):Nat):Int)=(2:Int)^(a.log2+1):=by simp
  omega
theorem pow_add' (a b:Nat):(2:Int)^(a+b)=2^a*2^b:=Int.pow_add _ _ _
theorem Fx (x:Int)(b n:Nat)(hn:1<=n)(h0:(2:Int)^(n-1)<=x/2^b)(h1:x/2^b<2^n):(2:Int)^(n+b-1)<=x/\x<2^(n+b):=by
 have B0:=lU b;have e1:(2:Int)^(n+b-1)=2^(n-1)*2^b:=by rw[<-pow_add'];congr 1;omega
 have e2:(2:Int)^(n+b)=2^n*2^b:=pow_add' _ _;rw[e1,e2];exact⟨Int.mul_le_of_le_ediv B0 h0,Int.lt_mul_of_ediv_lt B0 h1⟩
theorem aZ7 (x:Int)(h0:1<=x)(h1:x<18446744073709551616):∃n:Nat,1<=n/\n<=64/\(2:Int)^(n-1)<=x/\x<2^n/\Ii x=some (n:Int):=by
 have f1:∀a:Int,t9 a 256=a/256:=λa=>qO _ _ (by omega)
 have f2:∀a:Int,t9 a 65536=a/65536:=λa=>qO _ _ (by omega)
 have f3:∀a:Int,t9 a 4294967296=a/4294967296:=λa=>qO _ _ (by omega)
 simp only[Ii,acj,Pg.cg,Pg.bN,Pg.cq,Pg.fe,Pg.eu,f1,f2,f3];try delta wI wU
 by_cases c:x>=4294967296
 .by_cases d:x/4294967296>=65536
  .by_cases e:x/4294967296/65536>=256
   .have q:x/4294967296/65536/256=x/2^56:=by rw[show(2:Int)^56=72057594037927936 from rfl]<;>omega
    obtain⟨n,n1,n2,b0,b1,t1,t2⟩:=Rv (x/4294967296/65536/256) (by omega) (by omega);rw[q] at b0 b1;obtain⟨c0,c1⟩:=Fx x 56 n n1 b0 b1;refine⟨n+56,by omega,by omega,c0,c1,?_⟩;rw[dA c,bn,dA d,bn,dA e,bn,t1,bn,t2,wrap_i64 (n:=56+(n:Int)) (by omega) (by omega)];exact c8 (some:Int->Option Int) (by omega)
   .have q:x/4294967296/65536=x/2^48:=by rw[show(2:Int)^48=281474976710656 from rfl]<;>omega
    obtain⟨n,n1,n2,b0,b1,t1,t2⟩:=Rv (x/4294967296/65536) (by omega) (by omega);rw[q] at b0 b1;obtain⟨c0,c1⟩:=Fx x 48 n n1 b0 b1;refine⟨n+48,by omega,by omega,c0,c1,?_⟩;rw[dA c,bn,dA d,bn,cG e,bA,t1,bn,t2,wrap_i64 (n:=48+(n:Int)) (by omega) (by omega)];exact c8 (some:Int->Option Int) (by omega)
  .by_cases e:x/4294967296>=256
   .have q:x/4294967296/256=x/2^40:=by rw[show(2:Int)^40=1099511627776 from rfl]<;>omega
    obtain⟨n,n1,n2,b0,b1,t1,t2⟩:=Rv (x/4294967296/256) (by omega) (by omega);rw[q] at b0 b1;obtain⟨c0,c1⟩:=Fx x 40 n n1 b0 b1;refine⟨n+40,by omega,by omega,c0,c1,?_⟩;rw[dA c,bn,cG d,bA,dA e,bn,t1,bn,t2,wrap_i64 (n:=40+(n:Int)) (by omega) (by omega)];exact c8 (some:Int->Option Int) (by omega)
   .have q:x/4294967296=x/2^32:=by rw[show(2:Int)^32=4294967296 from rfl]<;>omega
    obtain⟨n,n1,n2,b0,b1,t1,t2⟩:=Rv (x/4294967296) (by omega) (by omega);rw[q] at b0 b1;obtain⟨c0,c1⟩:=Fx x 32 n n1 b0 b1;refine⟨n+32,by omega,by omega,c0,c1,?_⟩;rw[dA c,bn,cG d,bA,cG e,bA,t1,bn,t2,wrap_i64 (n:=32+(n:Int)) (by omega) (by omega)];exact c8 (some:Int->Option Int) (by omega)
 .by_cases d:x>=65536
  .by_cases e:x/65536>=256
   .have q:x/65536/256=x/2^24:=by rw[show(2:Int)^24=16777216 from rfl]<;>omega
    obtain⟨n,n1,n2,b0,b1,t1,t2⟩:=Rv (x/65536/256) (by omega) (by omega);rw[q] at b0 b1;obtain⟨c0,c1⟩:=Fx x 24 n n1 b0 b1;refine⟨n+24,by omega,by omega,c0,c1,?_⟩;rw[cG c,bA,dA d,bn,dA e,bn,t1,bn,t2,wrap_i64 (n:=24+(n:Int)) (by omega) (by omega)];exact c8 (some:Int->Option Int) (by omega)
   .have q:x/65536=x/2^16:=by rw[show(2:Int)^16=65536 from rfl]<;>omega
    obtain⟨n,n1,n2,b0,b1,t1,t2⟩:=Rv (x/65536) (by omega) (by omega);rw[q] at b0 b1;obtain⟨c0,c1⟩:=Fx x 16 n n1 b0 b1;refine⟨n+16,by omega,by omega,c0,c1,?_⟩;rw[cG c,bA,dA d,bn,cG e,bA,t1,bn,t2,wrap_i64 (n:=16+(n:Int)) (by omega) (by omega)];exact c8 (some:Int->Option Int) (by omega)
  .by_cases e:x>=256
   .have q:x/256=x/2^8:=by rw[show(2:Int)^8=256 from rfl]<;>omega
    obtain⟨n,n1,n2,b0,b1,t1,t2⟩:=Rv (x/256) (by omega) (by omega);rw[q] at b0 b1;obtain⟨c0,c1⟩:=Fx x 8 n n1 b0 b1;refine⟨n+8,by omega,by omega,c0,c1,?_⟩;rw[cG c,bA,cG d,bA,dA e,bn,t1,bn,t2,wrap_i64 (n:=8+(n:Int)) (by omega) (by omega)];exact c8 (some:Int->Option Int) (by omega)
   .have q:x=x/2^0:=by rw[show(2:Int)^0=1 from rfl]<;>omega
    obtain⟨n,n1,n2,b0,b1,t1,t2⟩:=Rv (x) (by omega) (by omega);rw[q] at b0 b1;obtain⟨c0,c1⟩:=Fx x 0 n n1 b0 b1;refine⟨n+0,by omega,by omega,c0,c1,?_⟩;rw[cG c,bA,cG d,bA,cG e,bA,t1,bn,t2,wrap_i64 (n:=0+(n:Int)) (by omega) (by omega)];exact c8 (some:Int->Option Int) (by omega)
theorem aYJ (x:Int)(h0:1<=x)(h1:x<18446744073709551616):∃s:Nat,s<=63/\9223372036854775808<=x*2^s/\x*2^s<18446744073709551616/\oW x=some (s:Int):=by
 obtain⟨n,n1,n2,b0,b1,e⟩:=aZ7 x h0 h1;refine⟨64-n,by omega,?_,?_,?_⟩
 .have p:(9223372036854775808:Int)=2^(n-1)*2^(64-n):=by
   rw[<-pow_add',show n-1+(64-n)=63 by omega];rfl
  rw[p];exact aqy b0 (oS (lU _))
 .have p:(18446744073709551616:Int)=2^n*2^(64-n):=by
   rw[<-pow_add',show n+(64-n)=64 by omega];rfl
  rw[p];exact Int.mul_lt_mul_of_pos_right b1 (lU _)
 .simp only[oW,BA,Pg.cg,Pg.bN,Pg.cq,Pg.fe,Pg.eu];try delta wI wU
  rw[e,bM,wrap_i64 (by omega) (by omega)];exact c8 (some:Int->Option Int) (by omega)
structure Dig (Y hX yi U u:Int):Prop where
 y:Y=hX*4294967296+yi
 a:2147483648<=hX/\hX<4294967296
 b:0<=yi/\yi<4294967296
 u0:0<=U/\U<Y
 d:0<=u/\u<4294967296
theorem Dig.lt {Y hX yi U u:Int}(h:Dig Y hX yi U u):0<=(U*4294967296+u)/Y/\(U*4294967296+u)/Y<4294967296:=by
 obtain⟨y,a,b,u0,d⟩:=h;constructor
 .exact DT (by omega) (by omega)
 .refine abX (by omega) ?_;omega
theorem Dig.down {Y hX yi U u q rh:Int}(h:Dig Y hX yi U u)(e:q*hX+rh=U)(c:4294967296*rh+u<q*yi):(U*4294967296+u)/Y<=q-1:=by
 obtain⟨y,a,b,u0,d⟩:=h
 have:(U*4294967296+u)/Y<q:=by
  refine abX (by omega) ?_;have e2:q*Y=(q*hX)*4294967296+q*yi:=by rw[y];grind
  omega
 omega
theorem Dig.stay {Y hX yi U u q rh:Int}(h:Dig Y hX yi U u)(e:q*hX+rh=U)(c:q*yi<=4294967296*rh+u)(l:(U*4294967296+u)/Y<=q):q=(U*4294967296+u)/Y:=by
 obtain⟨y,a,b,u0,d⟩:=h
 have:q<=(U*4294967296+u)/Y:=by
  refine(Int.le_ediv_iff_mul_le (by omega)).2 ?_;have e2:q*Y=(q*hX)*4294967296+q*yi:=by rw[y];grind
  omega
 omega
theorem Dig.out {Y hX yi U u q rh:Int}(h:Dig Y hX yi U u)(e:q*hX+rh=U)(q0:0<=q)(c:4294967296<=rh)(l:(U*4294967296+u)/Y<=q):q=(U*4294967296+u)/Y:=by
 have h':=h;obtain⟨y,a,b,u0,d⟩:=h;refine h'.stay e ?_ l
 have q1:q<=4294967295:=by
  rcases ago q 4294967296 with k|k
  .omega
  .exfalso
   have:=aqy k (show 0<=hX by omega);omega
 have:=On q1 (show yi<=4294967295 by omega) b.1 (by omega);omega
theorem aZ8 {ρ:Type}(Y s hX yi U u u0:Int)(h:Dig Y hX yi U u)(k:_->Option ρ)(r:Option ρ)
  (h1:∀rh a b c d,k (Sum.inl (Y,s,hX,yi,U,u,u0,(U*4294967296+u)/Y,rh,a,b,c,d))=r)
  (h2:∀rh a b c d e f g i,k (Sum.inr (Sum.inl (Y,s,hX,yi,U,u,u0,(U*4294967296+u)/Y,rh,a,b,c,d,e,f,g,i)))=r)
  (h3:∀rh a b c d e,k (Sum.inr (Sum.inr (Y,s,hX,yi,U,u,u0,(U*4294967296+u)/Y,rh,a,b,c,d,e)))=r):
  (I9 (Y,s,hX,yi,U,u,u0,U/hX,U%hX)).bind k=r:=by
 have h':=h;obtain⟨y,a,b,hu,d⟩:=h;have lt:=h'.lt;have qm:=ayd U hX;have m0:=ab0 U (show hX≠0 by omega);have m1:=We U (show 0<hX by omega);have qn:=DT hu.1 (show 0<=hX by omega)
 have start:(U*4294967296+u)/Y<=U/hX:=by
  have e2:(U*4294967296+u)/Y<U/hX+1:=by
   refine abX (by omega) ?_;have e3:(U/hX+1)*Y=(hX*(U/hX))*4294967296+hX*4294967296+(U/hX+1)*yi:=by rw[y];grind
   have:=JL (show 0<=U/hX+1 by omega) b.1;omega
  omega
 unfold I9
 refine OB (λt x=>∃(q rh:Int),0<=q/\q*hX+rh=U/\(U*4294967296+u)/Y<=q/\(2-(t:Int))*2147483648<=rh/\0<=rh/\rh<4294967296/\x=(Y,s,hX,yi,U,u,u0,q,rh)) ?_ 2000 2 _ (by omega)
  ⟨U/hX,U%hX,qn,by rw[Ag];exact qm,start,by omega,m0,by omega,rfl⟩
 rintro t _ c ⟨q,rh,q0,e,l,tb,r0,r1,rfl⟩ hc
 have down:(U*4294967296+u)/Y<=q-1->0<=q-1->(q-1)*hX+(rh+hX)=U:=λ_ _=>by
  have:(q-1)*hX=q*hX-hX:=by grind
  omega
 have qb:q<=4294967298:=by
  rcases ago q 4294967298 with k|k
  .omega
  .exfalso
   have:=aqy k (show 0<=hX by omega);omega
 have w1:IntKind.wrap .u64 (rh+hX)=rh+hX:=by rw[wrap_u64];omega
 by_cases c1:q>=4294967296
 .have d1:(U*4294967296+u)/Y<=q-1:=by omega
  have w2:IntKind.wrap .u64 (q-1)=q-1:=by rw[wrap_u64];omega
  have e2:=down d1 (by omega);simp only[I8,Pg.vN,Pg.vO,Pg.An,Pg.Gu,Pg.vP,qo,lP,wU,dA c1,bn,w1,w2];by_cases c2:rh+hX>=4294967296
  .rw[dA c2,bn,h'.out e2 (by omega) c2 d1];exact h1 _ _ _ _ _
  .rw[cG c2,bA];have t1:1<=t:=by omega
   exact hc (t-1) _ (by omega) ⟨q-1,rh+hX,by omega,e2,d1,by omega,by omega,by omega,rfl⟩
 .have pm:0<=q*yi/\q*yi<18446744073709551616:=by
   refine⟨JL q0 b.1,?_⟩;have:=On (show q<=4294967295 by omega) (show yi<=4294967295 by omega) b.1 (by omega);omega
  have w3:IntKind.wrap .u64 (q*yi)=q*yi:=by rw[wrap_u64];omega
  have w4:IntKind.wrap .u64 (4294967296*rh)=4294967296*rh:=by rw[wrap_u64];omega
  have w5:IntKind.wrap .u64 (4294967296*rh+u)=4294967296*rh+u:=by rw[wrap_u64];omega
  simp only[I8,Pg.vN,Pg.vO,Pg.An,Pg.Gu,Pg.vP,qo,lP,wU,cG c1,bA,w1,w3,w4,w5];by_cases c3:q*yi>4294967296*rh+u
  .have d1:=h'.down e c3
   have qp:1<=q:=by
    rcases ago 0 q with k|k
    .omega
    .exfalso
     have:q=0:=by omega
     subst this;omega
   have w2:IntKind.wrap .u64 (q-1)=q-1:=by rw[wrap_u64];omega
   have e2:=down d1 (by omega);rw[dA c3,bn,w2];by_cases c2:rh+hX>=4294967296
   .rw[dA c2,bn,h'.out e2 (by omega) c2 d1];exact h2 _ _ _ _ _ _ _ _ _
   .rw[cG c2,bA];exact hc (t-1) _ (by omega) ⟨q-1,rh+hX,by omega,e2,d1,by omega,by omega,by omega,rfl⟩
  .rw[cG c3,bA,h'.stay e (by omega) l];exact h3 _ _ _ _ _ _
theorem aZ9 {ρ:Type}(Y s hX yi U u q1:Int)(h:Dig Y hX yi U u)(k:_->Option ρ)(r:Option ρ)
  (h1:∀rh a b c d,k (Sum.inl (Y,s,hX,yi,u,q1,rh,U,(U*4294967296+u)/Y,a,b,c,d))=r)
  (h2:∀rh a b c d e f g i,k (Sum.inr (Sum.inl (Y,s,hX,yi,u,q1,rh,U,(U*4294967296+u)/Y,a,b,c,d,e,f,g,i)))=r)
  (h3:∀rh a b c d e,k (Sum.inr (Sum.inr (Y,s,hX,yi,u,q1,rh,U,(U*4294967296+u)/Y,a,b,c,d,e)))=r):
  (Ja (Y,s,hX,yi,u,q1,U%hX,U,U/hX)).bind k=r:=by
 have h':=h;obtain⟨y,a,b,hu,d⟩:=h;have lt:=h'.lt;have qm:=ayd U hX;have m0:=ab0 U (show hX≠0 by omega);have m1:=We U (show 0<hX by omega);have qn:=DT hu.1 (show 0<=hX by omega)
 have start:(U*4294967296+u)/Y<=U/hX:=by
  have e2:(U*4294967296+u)/Y<U/hX+1:=by
   refine abX (by omega) ?_;have e3:(U/hX+1)*Y=(hX*(U/hX))*4294967296+hX*4294967296+(U/hX+1)*yi:=by rw[y];grind
   have:=JL (show 0<=U/hX+1 by omega) b.1;omega
  omega
 unfold Ja
 refine OB (λt x=>∃(q rh:Int),0<=q/\q*hX+rh=U/\(U*4294967296+u)/Y<=q/\(2-(t:Int))*2147483648<=rh/\0<=rh/\rh<4294967296/\x=(Y,s,hX,yi,u,q1,rh,U,q)) ?_ 2000 2 _ (by omega)
  ⟨U/hX,U%hX,qn,by rw[Ag];exact qm,start,by omega,m0,by omega,rfl⟩
 rintro t _ c ⟨q,rh,q0,e,l,tb,r0,r1,rfl⟩ hc
 have down:(U*4294967296+u)/Y<=q-1->0<=q-1->(q-1)*hX+(rh+hX)=U:=λ_ _=>by
  have:(q-1)*hX=q*hX-hX:=by grind
  omega
 have qb:q<=4294967298:=by
  rcases ago q 4294967298 with k|k
  .omega
  .exfalso
   have:=aqy k (show 0<=hX by omega);omega
 have w1:IntKind.wrap .u64 (rh+hX)=rh+hX:=by rw[wrap_u64];omega
 by_cases c1:q>=4294967296
 .have d1:(U*4294967296+u)/Y<=q-1:=by omega
  have w2:IntKind.wrap .u64 (q-1)=q-1:=by rw[wrap_u64];omega
  have e2:=down d1 (by omega);simp only[I',Pg.vN,Pg.vO,Pg.An,Pg.Gu,Pg.vP,qo,lP,wU,dA c1,bn,w1,w2];by_cases c2:rh+hX>=4294967296
  .rw[dA c2,bn,h'.out e2 (by omega) c2 d1];exact h1 _ _ _ _ _
  .rw[cG c2,bA];have t1:1<=t:=by omega
   exact hc (t-1) _ (by omega) ⟨q-1,rh+hX,by omega,e2,d1,by omega,by omega,by omega,rfl⟩
 .have pm:0<=q*yi/\q*yi<18446744073709551616:=by
   refine⟨JL q0 b.1,?_⟩;have:=On (show q<=4294967295 by omega) (show yi<=4294967295 by omega) b.1 (by omega);omega
  have w3:IntKind.wrap .u64 (q*yi)=q*yi:=by rw[wrap_u64];omega
  have w4:IntKind.wrap .u64 (4294967296*rh)=4294967296*rh:=by rw[wrap_u64];omega
  have w5:IntKind.wrap .u64 (4294967296*rh+u)=4294967296*rh+u:=by rw[wrap_u64];omega
  simp only[I',Pg.vN,Pg.vO,Pg.An,Pg.Gu,Pg.vP,qo,lP,wU,cG c1,bA,w1,w3,w4,w5];by_cases c3:q*yi>4294967296*rh+u
  .have d1:=h'.down e c3
   have qp:1<=q:=by
    rcases ago 0 q with k|k
    .omega
    .exfalso
     have:q=0:=by omega
     subst this;omega
   have w2:IntKind.wrap .u64 (q-1)=q-1:=by rw[wrap_u64];omega
   have e2:=down d1 (by omega);rw[dA c3,bn,w2];by_cases c2:rh+hX>=4294967296
   .rw[dA c2,bn,h'.out e2 (by omega) c2 d1];exact h2 _ _ _ _ _ _ _ _ _
   .rw[cG c2,bA];exact hc (t-1) _ (by omega) ⟨q-1,rh+hX,by omega,e2,d1,by omega,by omega,by omega,rfl⟩
  .rw[cG c3,bA,h'.stay e (by omega) l];exact h3 _ _ _ _ _ _
theorem aUE (hi lo y:Int)(h0:0<=hi)(h1:hi<y)(h2:y<18446744073709551616)(l0:0<=lo)(l1:lo<18446744073709551616):
  Ij hi lo y=some ((hi*18446744073709551616+lo)/y,(hi*18446744073709551616+lo)%y):=by
 simp only[Ij,ack,Pg.cg,Pg.bN,Pg.cq,Pg.fe,Pg.eu];try delta wI wU
 have y0:(y==0)=false:=by rw[als];omega
 rw[y0,bA,cG (show ¬y<=hi by omega),bA];by_cases hz:hi=0
 .subst hz;have z:((0:Int)==0)=true:=rfl;have yn:(!decide (y=0))=true:=by rw[cG (by omega)];rfl
  rw[z,bn,yn,bn,bn,agp,ate,aAb l0,Int.tmod_eq_emod_of_nonneg l0];have d0:=DT l0 (show 0<=y by omega);have d1:=ayj y l0;have w:IntKind.wrap .u64 (lo/y)=lo/y:=by rw[wrap_u64];omega
  rw[w]
 have z:(hi==0)=false:=by rw[als];exact hz
 rw[z,bA];obtain⟨s,s63,b0,b1,e⟩:=aYJ y (by omega) h2;rw[e,bM];have P0:=lU s;have Q0:=lU (64-s);have k1:IntKind.wrap .u64 (s:Int)=(s:Int):=by rw[wrap_u64];omega
 have k2:IntKind.wrap .u64 (64-(s:Int))=((64-s:Nat):Int):=by rw[wrap_u64];omega
 have k3:∀n:Nat,(!decide ((n:Int)<0))=true:=λn=>by rw[cG (by omega)];rfl
 have k4:min (wt (s:Int)) 64=s:=by rw[Hr];omega
 have k5:min (wt ((64-s:Nat):Int)) 64=64-s:=by rw[Hr];omega
 have k6:IntKind.wrap .u64 (y*2^s)=y*2^s:=by rw[wrap_u64];omega
 simp only[k1,k2,k3,k4,k5,k6,bn]
 have pq:(18446744073709551616:Int)=2^s*2^(64-s):=by
  rw[<-pow_add',show s+(64-s)=64 by omega];rfl
 have ab:hi*2^s+2^s<=y*2^s:=by
  have:=aqy (show hi+1<=y by omega) (oS P0);rw[agq] at this;omega
 have a0:0<=hi*2^s:=JL h0 (oS P0);have x0:0<=lo/2^(64-s):=DT l0 (oS Q0);have x1:lo/2^(64-s)<2^s:=abX Q0 (by rw[<-pq];exact l1);have k7:IntKind.wrap .u64 (hi*2^s)=hi*2^s:=by rw[wrap_u64];omega
 have or1:wn (ul (wd 64 (hi*2^s)|||wd 64 (t9 lo (2^(64-s)))))=hi*2^s+lo/2^(64-s):=by
  rw[qO _ _ (oS Q0),BitVec.or_comm,azc _ _ s x0 x1 a0 (by omega) (by omega) (Int.mul_emod_left _ _)];omega
 have k8:IntKind.wrap .u64 (hi*2^s+lo/2^(64-s))=hi*2^s+lo/2^(64-s):=by rw[wrap_u64];omega
 simp only[k7,or1,k8];rw[wrap_u64 (lo*2^s)];have c0:0<=lo*2^s%18446744073709551616/\lo*2^s%18446744073709551616<18446744073709551616:=by omega
 have N:(hi*2^s+lo/2^(64-s))*18446744073709551616+lo*2^s%18446744073709551616=(hi*18446744073709551616+lo)*2^s:=by
  have m1:lo*2^s/18446744073709551616=lo/2^(64-s):=by
   rw[pq,Ag lo,Int.mul_ediv_mul_of_pos _ _ P0]
  have m2:lo*2^s=lo*2^s/18446744073709551616*18446744073709551616+lo*2^s%18446744073709551616:=by omega
  have m3:(hi*18446744073709551616+lo)*2^s=hi*2^s*18446744073709551616+lo*2^s:=by grind
  rw[m3,<-m1];omega
 have U1:0<=hi*2^s+lo/2^(64-s)/\hi*2^s+lo/2^(64-s)<y*2^s:=by omega
 have am1:∀x:Int,0<=x->x<18446744073709551616->IntKind.wrap .u64 (wn (ul (wd 64 x&&&wd 64 4294967295)))=x%4294967296:=λx x0 x1=>by
  rw[apz x x0 x1,wrap_u64];omega
 rw[am1 (y*2^s) (by omega) b1,am1 _ c0.1 c0.2];simp only[qO _ 4294967296 (show(0:Int)<=4294967296 by decide)]
 have A1:(hi*18446744073709551616+lo)/y=(hi*18446744073709551616+lo)*2^s/(y*2^s):=by
  rw[Ag _ (2^s),Ag y,Int.mul_ediv_mul_of_pos _ _ P0]
 have A2:(hi*18446744073709551616+lo)%y=(hi*18446744073709551616+lo)*2^s%(y*2^s)/2^s:=by
  rw[Ag _ (2^s),Ag y,Int.mul_emod_mul_of_pos _ _ P0,Int.mul_ediv_cancel_left _ (by omega)]
 rw[A1,A2,<-N];generalize hi*2^s+lo/2^(64-s)=U at*
 generalize lo*2^s%18446744073709551616=L at*
 generalize hY:y*2^s=Y at*
 generalize h2s:(2:Int)^s=P at*
 clear N A1 A2 or1 k7 k8 x0 x1 ab a0 pq k6 e
 have hY1:2147483648<=Y/4294967296/\Y/4294967296<4294967296:=by omega
 have g1:Dig Y (Y/4294967296) (Y%4294967296) U (L/4294967296):=⟨by omega,hY1,by omega,U1,by omega⟩;have yz:(!decide (Y/4294967296=0))=true:=by rw[cG (by omega)];rfl
 have Q1:=g1.lt;have R1:=ayd (U*4294967296+L/4294967296) Y;have R1a:=ab0 (U*4294967296+L/4294967296) (show Y≠0 by omega);have R1b:=We (U*4294967296+L/4294967296) (show 0<Y by omega)
 have q0:IntKind.wrap .u64 (t6 U (Y/4294967296))=U/(Y/4294967296):=by
  rw[aAb U1.1,wrap_u64];have:=DT U1.1 (show 0<=Y/4294967296 by omega);have:=ayj (Y/4294967296) U1.1;omega
 have r0:IntKind.wrap .u64 (U-IntKind.wrap .u64 (U/(Y/4294967296)*(Y/4294967296)))=U%(Y/4294967296):=by
  have qm:=Int.ediv_mul_add_emod U (Y/4294967296);have m0:=ab0 U (show Y/4294967296≠0 by omega);have m1:=We U (show 0<Y/4294967296 by omega);rw[wrap_u64,wrap_u64];generalize U/(Y/4294967296)*(Y/4294967296)=A at*
  omega
 simp only[yz,bn,q0,r0];generalize hQ1:(U*4294967296+L/4294967296)/Y=q1 at*
 generalize hR1:(U*4294967296+L/4294967296)%Y=R at*
 have g2:Dig Y (Y/4294967296) (Y%4294967296) R (L%4294967296):=⟨by omega,hY1,by omega,⟨R1a,R1b⟩,by omega⟩;have Q2:=g2.lt;have R2:=ayd (R*4294967296+L%4294967296) Y;have R2a:=ab0 (R*4294967296+L%4294967296) (show Y≠0 by omega);have R2b:=We (R*4294967296+L%4294967296) (show 0<Y by omega);generalize hQ2:(R*4294967296+L%4294967296)/Y=q2 at*
 generalize hR2:(R*4294967296+L%4294967296)%Y=R' at*
 have un:IntKind.wrap .u64 (IntKind.wrap .u64 (IntKind.wrap .u64 (U*4294967296)+L/4294967296)-IntKind.wrap .u64 (q1*Y))=R:=by
  rw[Ag q1 Y];simp only[wrap_u64];generalize Y*q1=A at*
  omega
 have q3:IntKind.wrap .u64 (t6 R (Y/4294967296))=R/(Y/4294967296):=by
  rw[aAb R1a,wrap_u64];have:=DT R1a (show 0<=Y/4294967296 by omega);have:=ayj (Y/4294967296) R1a;omega
 have r3:IntKind.wrap .u64 (R-IntKind.wrap .u64 (R/(Y/4294967296)*(Y/4294967296)))=R%(Y/4294967296):=by
  have qm:=Int.ediv_mul_add_emod R (Y/4294967296);have m0:=ab0 R (show Y/4294967296≠0 by omega);have m1:=We R (show 0<Y/4294967296 by omega);rw[wrap_u64,wrap_u64];generalize R/(Y/4294967296)*(Y/4294967296)=A at*
  omega
 have un2:IntKind.wrap .u64 (IntKind.wrap .u64 (IntKind.wrap .u64 (R*4294967296)+L%4294967296)-IntKind.wrap .u64 (q2*Y))=R':=by
  rw[Ag q2 Y];simp only[wrap_u64];generalize Y*q2=A at*
  omega
 have quo:IntKind.wrap .u64 (IntKind.wrap .u64 (q1*4294967296)+q2)=q1*4294967296+q2:=by
  simp only[wrap_u64];omega
 have ans:(U*18446744073709551616+L)/Y=q1*4294967296+q2/\(U*18446744073709551616+L)%Y=R':=by
  have e:U*18446744073709551616+L=R'+Y*(q1*4294967296+q2):=by
   have e2:Y*(q1*4294967296+q2)=Y*q1*4294967296+Y*q2:=by grind
   rw[e2];omega
  rw[e];constructor
  .rw[Int.add_mul_ediv_left _ _ (by omega),Int.ediv_eq_zero_of_lt R2a R2b,ate]
  .rw[Int.add_mul_emod_self_left,E0 R2a R2b]
 rw[ans.1,ans.2];refine aZ8 Y s _ _ U _ _ g1 _ _ ?_ ?_ ?_
 all_goals
  intros
  simp only[qo,lP,hQ1,yz,bn,un,q3,r3];refine aZ9 Y s _ _ R _ _ g2 _ _ ?_ ?_ ?_
  all_goals
   intros
   simp only[qo,lP,hQ2,k3,bn,un2,quo,k4,h2s];rw[qO _ _ (oS P0)]
def kK (x:Int):Int:=if x<0 then -x else x
theorem aLz (x:Int):0<=kK x:=by unfold kK;split<;>omega
def qdq (V D:Int):Int:=V/D+(if 2*(V%D)<D then 0 else 1)
def NL (a d:Int):Int:=if (decide (a<0))=(decide (d<0)) then qdq (kK a) (kK d) else -qdq (kK a) (kK d)
theorem aJx (h l d:Int)(o:okW h l)(d0: -9223372036854775808<=d)(d1:d<=9223372036854775807)(nz:d≠0):
  Be h l d=if -9223372036854775808<=NL (vW h l) d/\NL (vW h l) d<=9223372036854775807 then some (NL (vW h l) d,true) else some (0,false):=by
 simp only[Be,amd,Pg.cg,Pg.bN,Pg.cq,Pg.fe,Pg.eu];try delta wI wU
 have z:(d==0)=false:=by rw[als];exact nz
 obtain⟨ah,al,e1,a0,a1,a2,a3,a4⟩:=aJt h l o;have e2:=apA d d0 d1;rw[z,bA,e1,bM,e2,bM];simp only;have D0:0<kK d:=by unfold kK;split<;>omega
 have D1:kK d<=9223372036854775808:=by unfold kK;split<;>omega
 have ed:(if d<0 then -d else d)=kK d:=rfl
 have va:ah*18446744073709551616+al=kK (vW h l):=by
  rw[a4];obtain⟨o1,o2,o3,o4⟩:=o;unfold kK;simp only[vW];split<;>split<;>omega
 have sn:decide (h<0)=decide (vW h l<0):=by
  obtain⟨o1,o2,o3,o4⟩:=o;simp only[vW];by_cases c:h<0
  .rw[dA c,dA (by omega)]
  .rw[cG c,cG (by omega)]
 rw[ed,sn];generalize vW h l=V at*
 have nz2:(!decide (kK d=0))=true:=by rw[cG (by omega)];rfl
 have r0:=ab0 ah (show kK d≠0 by omega);have r1:=We ah D0;have q0:=DT a0 (oS D0);have q1:=ayj (kK d) a0;have qe:=ayd ah (kK d);have dv:=aUE (ah%kK d) al (kK d) r0 r1 (by omega) a2 a3;rw[nz2,bn,bn,Int.tmod_eq_emod_of_nonneg a0,dv,bM,aAb a0];simp only;have w1:IntKind.wrap .u64 (ah/kK d)=ah/kK d:=by rw[wrap_u64];omega
 have E:kK V=(ah%kK d*18446744073709551616+al)+kK d*(ah/kK d*18446744073709551616):=by
  rw[<-va];have:kK d*(ah/kK d*18446744073709551616)=kK d*(ah/kK d)*18446744073709551616:=by grind
  rw[this];omega
 have Q:kK V/kK d=(ah%kK d*18446744073709551616+al)/kK d+ah/kK d*18446744073709551616:=by
  rw[E,Int.add_mul_ediv_left _ _ (by omega)]
 have R:kK V%kK d=(ah%kK d*18446744073709551616+al)%kK d:=by rw[E,Int.add_mul_emod_self_left]
 have n0:0<=(ah%kK d*18446744073709551616+al)/kK d:=DT (by omega) (oS D0)
 have n1:(ah%kK d*18446744073709551616+al)/kK d<18446744073709551616:=by
  refine abX D0 ?_;omega
 have t0:=ab0 (ah%kK d*18446744073709551616+al) (show kK d≠0 by omega);have t1:=We (ah%kK d*18446744073709551616+al) D0;rw[<-R] at t0 t1 ⊢;have w2:IntKind.wrap .u64 (kK d-kK V%kK d)=kK d-kK V%kK d:=by rw[wrap_u64];omega
 rw[w1,w2]
 have sgn:(!decide (V<0)==decide (d<0))= !decide ((decide (V<0))=(decide (d<0))):=by
  cases decide (V<0)<;>cases decide (d<0)<;>rfl
 have qn:0<=qdq (kK V) (kK d):=by
  have:=aLz V;have:=DT this (oS D0);unfold qdq;split<;>omega
 have fin:∀u v:Int,0<=u->0<=v->v<18446744073709551616->u*18446744073709551616+v=qdq (kK V) (kK d)->
   (Option.bind (ja u v (!decide (V<0)==decide (d<0))) λ(d:Int×Bool)=>some (d.1,d.2))=if -9223372036854775808<=NL V d/\NL V d<=9223372036854775807 then some (NL V d,true) else some (0,false):=by
  intro u v u0 v0 v1 e;rw[MN u v _ u0 v0 v1,e,sgn];unfold NL;generalize qdq (kK V) (kK d)=q at*
  by_cases s:(decide (V<0))=(decide (d<0))
  .rw[if_pos s,dA s];simp only[DV,wS,fY];by_cases c:q<=9223372036854775807
   .rw[if_pos c,if_pos (by omega),bM];have uz:u=0:=by omega
    subst uz;have:v=q:=by omega
    rw[this]
   .rw[if_neg c,if_neg (by omega),bM]
  .rw[if_neg s,cG s];simp only[Bool.not_false,kR];by_cases c:q<=9223372036854775808
   .rw[if_pos c,if_pos (by omega),bM];have uz:u=0:=by omega
    subst uz;have:v=q:=by omega
    rw[this]
   .rw[if_neg c,if_neg (by omega),bM]
 by_cases c:kK V%kK d>=kK d-kK V%kK d
 .rw[dA c,bn];obtain⟨u,v,e3,u0,u1,v0,v1,e4⟩:=ah0 (ah/kK d) ((ah%kK d*18446744073709551616+al)/kK d) 0 1 q0 n0 (by omega) (by omega) n1 (by omega) (by omega);rw[e3,bM];simp only;refine fin u v u0 v0 v1 ?_;rw[e4];unfold qdq;rw[if_neg (by omega),Q];omega
 .rw[cG c,bA];refine fin _ _ q0 n0 n1 ?_;unfold qdq;rw[if_pos (by omega),Q];omega
theorem aUF (a d:Int)(nz:d≠0):((decide (a<0))=(decide (d<0))->0<=NL a d)/\(¬(decide (a<0))=(decide (d<0))->NL a d<=0):=by
 have D0:0<kK d:=by unfold kK;split<;>omega
 have q:=DT (aLz a) (oS D0);have qn:0<=qdq (kK a) (kK d):=by unfold qdq;split<;>omega
 unfold NL;constructor
 .intro h;rw[if_pos h];exact qn
 .intro h;rw[if_neg h];omega
theorem aTs (h l d:Int)(fA:Bool)(o:okW h l)(d0: -9223372036854775808<=d)(d1:d<=9223372036854775807)(nz:d≠0):
  xO h l d fA=some (sat (NL (vW h l) d),fA||fH (NL (vW h l) d)):=by
 simp only[xO,LS,Pg.cg,Pg.bN,Pg.cq,Pg.fe,Pg.eu];try delta wI wU
 have z:(d==0)=false:=by rw[als];exact nz
 have sn:decide (h<0)=decide (vW h l<0):=by
  obtain⟨o1,o2,o3,o4⟩:=o;simp only[vW];by_cases c:h<0
  .rw[dA c,dA (by omega)]
  .rw[cG c,cG (by omega)]
 rw[z,bA,aJx h l d o d0 d1 nz,sn];have s:=aUF (vW h l) d nz;generalize vW h l=V at*
 by_cases c: -9223372036854775808<=NL V d/\NL V d<=9223372036854775807
 .rw[if_pos c,bM];simp only[aeR,kR,bM]
 .rw[if_neg c,bM];simp only[aeR,wS,fY,bM];by_cases e:(decide (V<0))=(decide (d<0))
  .have p:=s.1 e;have e2:(!decide (V<0)==decide (d<0))=false:=by rw[e,beq_self_eq_true];rfl
   rw[e2];unfold sat fH;rw[if_neg (by decide),if_neg (by omega),if_pos (by omega),dA (show 1152921504606846976<NL V d by omega),Bool.or_true,Bool.or_true]
  .have p:=s.2 e
   have e2:(!decide (V<0)==decide (d<0))=true:=by
    have:(decide (V<0)==decide (d<0))=false:=by rw[als];exact e
    rw[this];rfl
   rw[e2];unfold sat fH;rw[if_pos rfl,if_pos (by omega),dA (show NL V d< -1152921504606846976 by omega),Bool.true_or,Bool.or_true]
theorem aOx (a b d:Int)(fA:Bool)(nz:sat d≠0):
  aU a b d fA=some (sat (NL (sat a*sat b) (sat d)),((((fA||fH a)||fH b)||fH d)||fH (NL (sat a*sat b) (sat d)))):=by
 simp only[aU,Gz,Pg.cg,Pg.bN,Pg.cq,Pg.fe,Pg.eu];try delta wI wU
 have:=pS a;have:=pS b;have:=pS d;obtain⟨h,l,e1,e2,e3⟩:=DJ (sat a) (sat b) (by omega) (by omega) (by omega) (by omega);simp only[p6,bM,e1,aTs h l (sat d) _ e2 (by omega) (by omega) nz,e3]
theorem aYK (a b:Int)(s:Nat)(fA:Bool)(hs:s<=66)(nz:sat b≠0):
  bu a b (wn s) fA=some (sat (NL (sat a*2^s) (sat b)),(((fA||fH a)||fH b)||fH (NL (sat a*2^s) (sat b)))):=by
 simp only[bu,QA,Pg.cg,Pg.bN,Pg.cq,Pg.fe,Pg.eu];try delta wI wU
 have ha:=pS a;have hb:=pS b;have P0:=lU s;have PB:(2:Int)^s<=2^66:=anG hs;have PV:(2:Int)^66=73786976294838206464:=by decide
 have m1:sat a*2^s<=1152921504606846976*73786976294838206464:=by
  rcases ayl 0 (sat a) with c|c
  .exact On ha.2 (by omega) (oS P0) (by omega)
  .have:=aLy (a:= -sat a) (b:=2^s) (by omega) (oS P0);rw[Int.neg_mul] at this;omega
 have m2: -(1152921504606846976*73786976294838206464)<=sat a*2^s:=by
  rcases ayl 0 (sat a) with c|c
  .have:=aLy c (oS P0);omega
  .have:=On (show -sat a<=1152921504606846976 by omega) (show(2:Int)^s<=73786976294838206464 by omega) (oS P0) (by omega);rw[Int.neg_mul] at this;omega
 have mv:(1152921504606846976:Int)*73786976294838206464=85070591730234615865843651857942052864:=by decide
 obtain⟨h,l,b',e1,o1,f1,v1,_⟩:=anH (sat a) s (by omega) (by omega) (by omega);have bt:b'=true:=f1.2 ⟨by omega,by omega⟩;subst bt;have n0:decide (wn s<0)=false:=by simp
 have n1:decide (wn s>66)=false:=by simp only[cF];exact cG (by omega)
 simp only[p6,bM,n0,n1,bA,e1,aTs h l (sat b) _ o1 (by omega) (by omega) nz,v1 rfl]
theorem awE (h l r:Int)(fA:Bool)(o:okW h l)(h0:0<=h)(hr:isR r (vW h l)):xQ h l fA=some (sat r,fA||fH r):=by
 obtain⟨r',e1,e2,e3⟩:=atV h l o h0;have:=aUB hr e1;subst this;simp only[xQ,amh,Pg.cg,Pg.bN,Pg.cq,Pg.fe,Pg.eu];try delta wI wU
 rw[e3];by_cases c:r<=9223372036854775807
 .rw[if_pos c,bM];simp only[DV,bA,p6,bM]
 .rw[if_neg c,bM];simp only[Bool.not_false,bn,p6,bM]
  have a:sat r=sat 1152921504606846977:=by
   unfold sat;rw[if_neg (by omega),if_pos (by omega),if_neg (by omega),if_pos (by omega)]
  have b:fH r=fH 1152921504606846977:=by
   unfold fH;rw[dA (show 1152921504606846976<r by omega),dA (show(1152921504606846976:Int)<1152921504606846977 by omega),Bool.or_true,Bool.or_true]
  rw[a,b]
open Go.Ab Go.Ab.Pg
instance a5H (x:Int)(h:Bool):bp (aQ x h):=⟨_,p6 x h⟩
instance a32 (x a b:Int)(h:Bool):bp (bc x a b h):=aG (p:=xr x a b h) (by simp only[xr,aK,av,Oq,and_self])
instance a5q (b:Bool):bp (qw b):=aG (p:=WG b) (by simp only[WG,aK,av,Oq,and_self])
instance a5I (x:Int):bp (xw x):=aG (p:=DE x) (by simp only[DE,aK,av,Oq,and_self])
instance a5r (x:Int):bp (kl x):=aG (p:=Vl x) (by simp only[Vl,aK,av,bJ,Oq,and_self])
instance a5J (a:Int)(b c d:Bool):bp (mS a b c d):=aG (p:=Ih qw aQ a b c d) (by simp only[Ih,aK,av,bD,Oq,and_self])
instance a5K (x y:Int)(h:Bool):bp (bQ x y h):=aG (p:=Io aQ x y h) (by simp only[Io,aK,av,bD,Oq,and_self])
theorem aR2 (a b:Int)(s:Nat)(hs:s<=120)(h:Bool):bp (aV a b (wn s) h):=⟨_,aOu a b s h hs⟩
instance a33 (a b:Int)(h:Bool):bp (aV a b 30 h):=aR2 a b 30 (by omega) h
instance a34 (a b:Int)(h:Bool):bp (aV a b 44 h):=aR2 a b 44 (by omega) h
instance a35 (a b:Int)(h:Bool):bp (aV a b 10 h):=aR2 a b 10 (by omega) h
instance t_m (a b:Int)(h:Bool):bp (KN a b h):=aG (p:=apx aV a b h) (by simp only[apx,aK,av,bD,Oq,and_self])
theorem a18 (s:Nat)(hs:s<=120)(n:Nat)(hn:n<=100)(fA:Bool)(f g:Nat->Int)(w w':Bool):bp (bz (wn s) n n fA f g w w'):=⟨_,aOv s hs n hn fA f g w w'⟩
theorem MP (n:Nat)(hn:n<=100)(fA:Bool)(f g:Nat->Int)(w w':Bool):bp (bz 30 n n fA f g w w'):=a18 30 (by omega) n hn fA f g w w'
instance a5s (fA:Bool)(f g:Nat->Int)(w w':Bool):bp (bz 30 2 2 fA f g w w'):=MP 2 (by omega) fA f g w w'
instance a5t (fA:Bool)(f g:Nat->Int)(w w':Bool):bp (bz 30 3 3 fA f g w w'):=MP 3 (by omega) fA f g w w'
instance a5u (fA:Bool)(f g:Nat->Int)(w w':Bool):bp (bz 30 4 4 fA f g w w'):=MP 4 (by omega) fA f g w w'
instance a36 (fA:Bool)(f g:Nat->Int)(w w':Bool):bp (bz 30 24 24 fA f g w w'):=MP 24 (by omega) fA f g w w'
instance a37 (fA:Bool)(f g:Nat->Int)(w w':Bool):bp (bz 30 48 48 fA f g w w'):=MP 48 (by omega) fA f g w w'
theorem aLA (n:Nat)(hn:n<=1900)(fA:Bool)(l:Nat->Int)(w:Bool):bp (cU n fA l w):=⟨_,aYG n hn fA l w⟩
instance a5v (fA:Bool)(l:Nat->Int)(w:Bool):bp (cU 2 fA l w):=aLA 2 (by omega) fA l w
instance a5w (fA:Bool)(l:Nat->Int)(w:Bool):bp (cU 3 fA l w):=aLA 3 (by omega) fA l w
theorem aYL (x y:Int)(h:Bool):bp (xO x y 0 h):=aG (p:=LS qw Be mS x y 0 h) (by
 unfold LS;simp only[aK,av,bD,Oq,and_self,zW];intro h;simp at h)
instance a3f (a b d:Int)(h:Bool):bp (aU a b d h):=by
 by_cases nz:sat d=0
 .have h1:=pS a;have h2:=pS b;obtain⟨x,y,e,_,_⟩:=DJ (sat a) (sat b) (by omega) (by omega) (by omega) (by omega);have:=(aYL x y (((h||fH a)||fH b)||fH d)).ok;refine⟨?_⟩;simp only[aU,Gz,cg,bN,cq,p6,bM,e,nz];obtain⟨d,hd⟩:=this;rw[hd];exact⟨_,rfl⟩
 .exact⟨_,aOx a b d h nz⟩
theorem aYM (a b:Int)(s:Nat)(hs:s<=66)(h:Bool):bp (bu a b (wn s) h):=by
 by_cases nz:sat b=0
 .have h1:=pS a;obtain⟨x,y,q,e,_,_⟩:=anH (sat a) s (by omega) (by omega) (by omega);have:=(aYL x y ((h||fH a)||fH b)).ok;refine⟨?_⟩;have n0:decide (wn s<0)=false:=by simp
  have n1:decide (wn s>66)=false:=by simp only[cF];exact cG (by omega)
  simp only[bu,QA,cg,bN,cq,p6,bM,n0,n1,bA,e,nz];obtain⟨d,hd⟩:=this;rw[hd];exact⟨_,rfl⟩
 .exact⟨_,aYK a b s h hs nz⟩
instance a38 (a b:Int)(h:Bool):bp (bu a b 30 h):=aYM a b 30 (by omega) h
instance a39 (a b:Int)(h:Bool):bp (bu a b 44 h):=aYM a b 44 (by omega) h
def sq2 (f:Nat->Int)(n:Nat):Int:=zT (λj=>sat (f j)*sat (f j)) n
theorem aBo (f:Nat->Int):∀n,0<=sq2 f n
 |0=>eZ 0
 |n+1=>by
  have:=aBo f n
  have h2:0<=sat (f n)*sat (f n):=by
   rcases ayl 0 (sat (f n)) with h|h
   .exact JL h h
   .exact Int.mul_nonneg_of_nonpos_of_nonpos h h
  unfold sq2 at*;rw[zT];omega
theorem aUG (n:Nat)(hn:n<=64)(fA:Bool)(f:Nat->Int)(w:Bool):∃r,isR r (sq2 f n)/\gB n fA f w=some (sat r,(fA||Fw (λj=>fH (f j)) n)||fH r):=by
 have nn:=aBo f n
 have key:∃x,gB n fA f w=x/\∃h l,okW h l/\vW h l=sq2 f n/\x=(xQ h l (fA||Fw (λj=>fH (f j)) n)):=by
  refine⟨_,rfl,?_⟩;have m:(if 64<wn n then(64:Int) else wn n)=wn n:=by rw[if_neg (by simp only[cF];omega)]
  have k:KG (wn n) n=true:=by simp[KG]
  have q:wt (wn n)=n:=rfl;simp only[gB,acB,cg,bN,cq,fe,m,k,q,bn];unfold Th
  obtain⟨x,hx,i,h,l,ho,hv,rfl⟩:=aav (s:=C7 aQ fC j8)
   (λt d=>∃(i:Nat) (h l':Int),i+t=n/\okW h l'/\vW h l'=sq2 f i/\d=(((n,w&&false),wn n,wn i),(fA||Fw (λj=>fH (f j)) i),(n,f),h,l'))
   (λx=>∃(i:Nat) (h l':Int),okW h l'/\vW h l'=sq2 f n/\x=(((n,w&&false),wn n,wn n,decide (wn n<wn n)),(fA||Fw (λj=>fH (f j)) n),(n,f),h,l')) (λt d=>by
    rintro ⟨i,h,l',hi,ho,hv,rfl⟩
    have bnd:=anF (λj=>sat (f j)*sat (f j)) 1329227995784915872903807060280344576 (by omega) i (λj _=>aeS _ _);have hv':vW h l'=zT (λj=>sat (f j)*sat (f j)) i:=hv;rcases abY t with t0|t0
    .have e:i=n:=by omega
     subst e;simp only[C7,cg,bN,cq,fe,awB (cW i),bA];exact⟨_,rfl,i,h,l',ho,hv,by rfl⟩
    .have hs1:=pS (f i);have hm:=aeS (f i) (f i);obtain⟨h1,l1,e1,o1,v1⟩:=DJ (sat (f i)) (sat (f i)) (by omega) (by omega) (by omega) (by omega)
     obtain⟨h2,l2,e2,o2,v2⟩:=ahZ (λj:Nat=>bif ww j 1 then h1 else bif ww j 0 then h else h) (λj:Nat=>bif ww j 1 then l1 else bif ww j 0 then l' else l') true
      ho o1 (by show _<=vW h l'+vW h1 l1;rw[hv',v1];omega) (by show vW h l'+vW h1 l1<_;rw[hv',v1];omega)
     have v2:vW h2 l2=vW h l'+vW h1 l1:=v2;rw[hv',v1] at v2;have q:wt (wn i)=i:=rfl;simp only[C7,cg,bN,cq,fe,wI,awA hi t0,awC (show i<n by omega),bn,q,p6,bM,e1,e2,awD (show i<9000000000000000000 by omega)];refine⟨_,rfl,t-1,by omega,i+1,h2,l2,by omega,o2,v2,?_⟩;simp only[Fw,Bool.or_assoc])
   2000 n (((n,w&&false),wn n,0),fA,(n,f),0,0) (by omega) ⟨0,0,0,by omega,⟨by omega,by omega,by omega,by omega⟩,rfl,by simp only[Fw,SM];rfl⟩
  rw[hx];refine⟨h,l,ho,hv,?_⟩;simp only[bM];cases xQ h l (fA||Fw (λj=>fH (f j)) n)<;>rfl
 obtain⟨x,hx,h,l,ho,hv,rfl⟩:=key
 have h0:0<=h:=by
  obtain⟨o1,o2,o3,o4⟩:=ho;rw[<-hv] at nn;simp only[vW] at nn;omega
 obtain⟨r,hr,_,_⟩:=atV h l ho h0;refine⟨r,hv▸hr,?_⟩;rw[hx];exact awE h l r _ ho h0 hr
theorem aGi (n:Nat)(hn:n<=64)(fA:Bool)(f:Nat->Int)(w:Bool):bp (gB n fA f w):=by
 obtain⟨r,_,h⟩:=aUG n hn fA f w;exact⟨_,h⟩
instance a3g (fA:Bool)(f:Nat->Int)(w:Bool):bp (gB 3 fA f w):=aGi 3 (by omega) fA f w
instance a3h (fA:Bool)(f:Nat->Int)(w:Bool):bp (gB 4 fA f w):=aGi 4 (by omega) fA f w
theorem awF:∀(d:mu.B) (hd:0<=d.1.2.2.2.2/\d.1.2.2.2.2<=d.1.2.2.2.1/\d.1.2.2.2.1<=1999/\d.1.2.2.2.1=((d.1.2.2.1.1:Nat):Int)),Ok (OP d) (λx:Av=>True):=
 bq (λd:mu.B=>wt (d.1.2.2.2.1-d.1.2.2.2.2)) (λd hd=>by
  have hw:wI (d.1.2.2.2.2+1)=d.1.2.2.2.2+1:=aY;unfold OO;simp only[bO];simp only[nf,tW,hw];repeat' (first|exact True.intro|omega|(intro _)|(apply And.intro))) (λd hd=>by omega)
theorem azf (x0:Int)(x1:Nat)(h1:1<=x1)(h2:x1<=1000)(x2:Bool)(x3:Nat->Int)(w0:Bool):bp (mU x0 x1 x2 x3 w0):=by
 unfold mU WX;refine aG ?_;rw[bJ,bJ];refine⟨by simp only[bk];omega,by simp only[aer];omega,?_⟩;refine ay (awF _ (hdN (x1-1) (by omega))) λd _ hd=> ?_;simp only[av]
instance a19 (x0:Int)(x2:Bool)(x3:Nat->Int)(w0:Bool):bp (mU x0 6 x2 x3 w0):=azf _ _ (by omega) (by omega) _ _ _
instance a2a (x0:Int)(x2:Bool)(x3:Nat->Int)(w0:Bool):bp (mU x0 7 x2 x3 w0):=azf _ _ (by omega) (by omega) _ _ _
instance a1h (x0:Int)(x2:Bool)(x3:Nat->Int)(w0:Bool):bp (mU x0 12 x2 x3 w0):=azf _ _ (by omega) (by omega) _ _ _
instance a1i (x0:Int)(x1:Bool):bp (nE x0 x1):=by
 unfold nE amq;exact aG (by simp only[bO])
instance a1j (x0:Int)(x1:Bool):bp (su x0 x1):=by
 unfold su amr;exact aG (by simp only[bO])
instance aZF (x0:Int)(x1:Int)(x2:Bool):bp (yY x0 x1 x2):=by
 unfold yY acz;exact aG (by simp only[bO])
instance a2b (x0:Int)(x1:Int)(x2:Int)(x3:Int)(x4:Int)(x5:Int)(x6:Bool):bp (vR x0 x1 x2 x3 x4 x5 x6):=by
 unfold vR atC;exact aG (by simp only[bO])
instance a0a (x0:Int)(x1:Int)(x2:Int)(x3:Int)(x4:Bool):bp (um x0 x1 x2 x3 x4):=by
 unfold um ahh;exact aG (by simp only[bO])
instance a1k (x0:Int)(x1:Int)(x2:Int)(x3:Bool):bp (pF x0 x1 x2 x3):=by
 unfold pF amt;exact aG (by simp only[bO])
instance a2c (x0:Int)(x1:Int)(x2:Int)(x3:Bool):bp (BG x0 x1 x2 x3):=by
 unfold BG atD;exact aG (by simp only[bO])
instance aYN (x0:Int)(x1:Int)(x2:Bool):bp (vQ x0 x1 x2):=by
 unfold vQ WL;exact aG (by simp only[bO])
instance aLB (x0:Int)(x1:Int)(x2:Int)(x3:Int)(x4:Bool):bp (jC x0 x1 x2 x3 x4):=by
 unfold jC BD;exact aG (by simp only[bO])
theorem aGj:∀(d:sw.B) (hd:0<=d.1/\d.1<=4),Ok (acF d) (λx:Iq=>True):=
 bq (λd:sw.B=>wt (4-d.1)) (λd hd=>by
  have hw:wI (d.1+1)=d.1+1:=aY;unfold acE;simp only[bO];simp only[nf,tW,hw];repeat' (first|exact True.intro|omega|(intro _)|(apply And.intro))) (λd hd=>by omega)
instance a1l (x0:Int)(x1:Int)(x2:Int)(x3:Int)(x4:Bool):bp (xT x0 x1 x2 x3 x4):=by
 unfold xT amv;refine aG ?_;refine ay (aGj _ (by simp)) λd _ hd=> ?_;simp only[bO]
instance a1m:bp nF:=by
 unfold nF amA;exact aG (by simp only[bO])
instance a0b (x0:Int)(x1:Int)(x2:Int)(x3:Int):bp (BH x0 x1 x2 x3):=by
 unfold BH aho;exact aG (by simp only[bO])
theorem azg:∀(d:nG.B) (hd:0<=d.1.2/\d.1.2<=3),Ok (Tj d) (λx:C8=>True):=
 bq (λd:nG.B=>wt (3-d.1.2)) (λd hd=>by
  have hw:wI (d.1.2+1)=d.1.2+1:=aY;unfold Ti;simp only[bO];simp only[nf,tW,hw];repeat' (first|exact True.intro|omega|(intro _)|(apply And.intro))) (λd hd=>by omega)
instance aZG (x0:Nat->Int)(x1:Int):bp (eL x0 x1):=by
 unfold eL acH;refine aG ?_;refine ay (azg _ (by simp)) λd _ hd=> ?_;simp only[bO]
theorem azh:∀(d:nH.B) (hd:0<=d.1.2.2.2.2/\d.1.2.2.2.2<=d.1.2.2.2.1/\d.1.2.2.2.1<=1999/\d.1.2.2.2.1=((d.1.2.2.1.1:Nat):Int)),Ok (Tl d) (λx:C9=>True):=
 bq (λd:nH.B=>wt (d.1.2.2.2.1-d.1.2.2.2.2)) (λd hd=>by
  have hw:wI (d.1.2.2.2.2+1)=d.1.2.2.2.2+1:=aY;unfold Tk;simp only[bO];simp only[nf,tW,hw];repeat' (first|exact True.intro|omega|(intro _)|(apply And.intro))) (λd hd=>by omega)
theorem arM (x0:Nat->Int)(x1:Int)(x2:Nat)(x3:Nat->Int)(w0:Bool)(h:x2<=1999):bp (gC x0 x1 x2 x3 w0):=by
 unfold gC acL;refine aG ?_;rw[aM,bJ];refine⟨rfl,?_⟩;refine ay (azh _ (hdN x2 h)) λd _ hd=> ?_;simp only[bO]
instance a4a (x0:Nat->Int)(x1:Int)(x3:Nat->Int)(w0:Bool):bp (gC x0 x1 3 x3 w0):=arM _ _ _ _ _ (by omega)
instance a4b (x0:Nat->Int)(x1:Int)(x3:Nat->Int)(w0:Bool):bp (gC x0 x1 4 x3 w0):=arM _ _ _ _ _ (by omega)
instance a1n (x0:Int)(x1:Int)(x2:Int)(x3:Int)(x4:Int)(x5:Int)(x6:Int)(x7:Int)(x8:Bool):bp (Rn x0 x1 x2 x3 x4 x5 x6 x7 x8):=by
 unfold Rn amC;exact aG (by simp only[bO])
instance a1o (x0:Int)(x1:Int)(x2:Int)(x3:Int)(x4:Bool):bp (Ro x0 x1 x2 x3 x4):=by
 unfold Ro amE;exact aG (by simp only[bO])
theorem anI:∀(d:jl.B) (hd:0<=d.1.2.2/\d.1.2.2<=d.1.1/\d.1.1<=1999/\d.1.1<=24),Ok (Hz d) (λx:tX=>True):=
 bq (λd:jl.B=>wt (d.1.1-d.1.2.2)) (λd hd=>by
  have hw:wI (d.1.2.2+1)=d.1.2.2+1:=aY;unfold Hy;simp only[bO];simp only[nf,tW,hw];repeat' (first|exact True.intro|omega|(intro _)|(apply And.intro))) (λd hd=>by omega)
theorem o7 (x0:Int)(x1:Int)(x2:Int)(x3:Nat->Int)(h0:0<=x0)(h1:x0<=x1)(h2:x1<=24):bp (xU x0 x1 x2 x3):=by
 unfold xU L8;refine aG ?_;refine ay (anI _ (by dsimp only;omega)) λd _ hd=> ?_;simp only[av]
instance aVu (x0:Int)(x1:Bool):bp (nd x0 x1):=by
 unfold nd Jg;exact aG (by simp only[bO])
theorem apU:∀(d:gD.B) (hd:0<=d.1/\d.1<=24),Ok (BJ d) (λx:qz=>True):=
 bq (λd:gD.B=>wt (24-d.1)) (λd hd=>by
  have hw:wI (d.1+1)=d.1+1:=aY;unfold BI;simp only[bO];simp only[nf,tW,hw];repeat' (first|exact True.intro|omega|(intro _)|(apply And.intro))) (λd hd=>by omega)
theorem apV:∀(d:gE.B) (hd:0<=d.1/\d.1<=276),Ok (BL d) (λx:qA=>True):=
 bq (λd:gE.B=>wt (276-d.1)) (λd hd=>by
  have hw:wI (d.1+1)=d.1+1:=aY;unfold BK;simp only[bO];simp only[nf,tW,hw];repeat' (first|exact True.intro|omega|(intro _)|(apply And.intro))) (λd hd=>by omega)
instance aUH (x0:Nat->Int)(x1:Nat->Int)(x2:Bool):bp (fW x0 x1 x2):=by
 unfold fW GC;refine aG ?_;refine ay (apU _ (by simp)) λd _ hd=> ?_;refine ay (apV _ (by simp)) λd _ hd=> ?_;simp only[bO]
theorem aHU:∀(d:vd.B) (hd:0<=d.1.2/\d.1.2<=24),Ok (ahs d) (λx:Mc=>True):=
 bq (λd:vd.B=>wt (24-d.1.2)) (λd hd=>by
  have hw:wI (d.1.2+1)=d.1.2+1:=aY;unfold ahr;simp only[bO];simp only[nf,tW,hw];repeat' (first|exact True.intro|omega|(intro _)|(apply And.intro))) (λd hd=>by omega)
instance a2d (x0:Nat)(x1:Bool)(x2:Nat->Int)(w0:Bool):bp (Xj x0 x1 x2 w0):=by
 unfold Xj atG;refine aG ?_;rw[aM,bJ];refine⟨rfl,?_⟩;refine ay (aHU _ (by simp)) λd _ hd=> ?_;simp only[bO]
theorem aR3:∀j:Nat,j<24->0<=wI (t6 (wI ((j:Int)*wI ((j:Int)-1))) 2)/\wI (t6 (wI ((j:Int)*wI ((j:Int)-1))) 2)+(j:Int)<=276+(if j=0 then 1 else 0):=by decide
theorem aOy {i j:Int}{d:Vo}(h:jD i j=some d)(ok:d.2=true):0<=d.1/\d.1<276:=by
 simp only[jD,GH,cg,bN] at h;by_cases h0:0<=i
 .by_cases h1:i<j
  .simp only[Gs,h0,h1,I1,bn,gS] at h;subst h;have h2:j<24:=dq ok;obtain⟨n,rfl⟩:=Int.eq_ofNat_of_zero_le (by omega:0<=j);obtain⟨k1,k2⟩:=aR3 n (by omega);rw[if_neg (by omega)] at k2;generalize wI (t6 (wI ((n:Int)*wI ((n:Int)-1))) 2)=c at*
   show 0<=wI (c+i)/\wI (c+i)<276;rw[dS (by omega) (by omega)];omega
  .simp only[Gs,h0,h1,I1,JM,bn,bA,gS] at h;subst h;cases ok
 .simp only[Gs,h0,JM,bA,gS] at h;subst h;cases ok
instance a0c (x0:Int)(x1:Int):bp (jD x0 x1):=by
 unfold jD GH;exact aG (by simp only[bO])
instance a4c (x0:Nat->Int)(x1:Nat->Int)(x2:Int)(x3:Int):bp (Fb x0 x1 x2 x3):=by
 have key:∀d,jD x2 x3=some d->((!d.2)=false->aX d.1 276=true/\wl (0+wt d.1*1+1) 276=true):=λd h k=>by
  have:=aOy h (by simpa using k);simp only[bk,bW];omega
 unfold Fb av0;refine aG ?_;simp only[bO,nf];repeat' (first|(apply And.intro)|(intro _ h k;exact⟨λ_=>(key _ h k).2,(key _ h k).1⟩)|(intro _ h k;exact key _ h k)|(intro _))
instance a2e (x0:Nat->Int)(x1:Nat->Int)(x2:Int)(x3:Int)(x4:Int):bp (zd x0 x1 x2 x3 x4):=by
 unfold zd ahw;refine aG ?_;simp only[bO,nf];intro d h k;have:=aOy h k;simp only[bk,bW,cj];omega
theorem atW:∀(d:iA.B) (hd:0<=d.1/\d.1<=24),Ok (Et d) (λx:tl=>True):=
 bq (λd:iA.B=>wt (24-d.1)) (λd hd=>by
  have hw:wI (d.1+1)=d.1+1:=aY;unfold Es;simp only[bO];simp only[nf,tW,hw];repeat' (first|exact True.intro|omega|(intro _)|(apply And.intro))) (λd hd=>by omega)
instance aVv:bp (nh):=by
 unfold nh Jh;refine aG ?_;refine ay (atW _ (by simp)) λd _ hd=> ?_;simp only[bO]
theorem aC1:∀(d:pH.B) (hd:0<=d.1/\d.1<=3),Ok (Xn d) (λx:Fc=>True):=
 bq (λd:pH.B=>wt (3-d.1)) (λd hd=>by
  have hw:wI (d.1+1)=d.1+1:=aY;unfold Xm;try dsimp only
  by_cases hc:d.1<3
  case neg=>simp only[hc,JM,aK,av,lP,Oq,Bx,wS,DU]
  have h1:wI (3*d.1)=3*d.1:=dS;have h2:wI (3*d.1+3)=3*d.1+3:=dS;have h3:wt (3*d.1+3)-wt (3*d.1)=3:=by omega
  simp only[h1,h2,h3];simp only[bO];simp only[nf,tW,hw];repeat' (first|exact True.intro|omega|(intro _)|(apply And.intro))) (λd hd=>by omega)
instance a0d (x0:Nat->Int)(x1:Int)(x2:Int)(x3:Int)(x4:Bool):bp (oY x0 x1 x2 x3 x4):=by
 unfold oY ahx;refine aG ?_;refine ay (aC1 _ (by simp)) λd _ hd=> ?_;simp only[bO]
theorem aGk:∀(d:sx.B) (hd:0<=d.1/\d.1<=3),Ok (acX d) (λx:Is=>True):=
 bq (λd:sx.B=>wt (3-d.1)) (λd hd=>by
  have hw:wI (d.1+1)=d.1+1:=aY;unfold acW;try dsimp only
  by_cases hc:d.1<3
  case neg=>simp only[hc,JM,aK,av,lP,Oq,Bx,wS,DU]
  have h1:wI (6+d.1)=6+d.1:=dS;have h2:wI (3+d.1)=3+d.1:=dS;simp only[h1,h2];simp only[bO];simp only[nf,tW,hw];repeat' (first|exact True.intro|omega|(intro _)|(apply And.intro))) (λd hd=>by omega)
instance a1p (x0:Nat->Int)(x1:Int)(x2:Int)(x3:Int)(x4:Bool):bp (xV x0 x1 x2 x3 x4):=by
 unfold xV amK;refine aG ?_;refine ay (aGk _ (by simp)) λd _ hd=> ?_;simp only[bO]
instance a0e (x0:Int)(x1:Int)(x2:Bool)(x3:Bool):bp (Me x0 x1 x2 x3):=by
 unfold Me ahB;exact aG (by simp only[bO])
instance a0f (x0:Int)(x1:Bool)(x2:Bool)(x3:Bool)(x4:Bool)(x5:Bool)(x6:Bool)(x7:Bool)(x8:Bool)(x9:Int)(gx:Int)(gy:Int):bp (Mf x0 x1 x2 x3 x4 x5 x6 x7 x8 x9 gx gy):=by
 unfold Mf ahC;exact aG (by simp only[bO])
instance aYO (x0:Int):bp (Ay x0):=by
 unfold Ay Ff;exact aG (by simp only[bO])
theorem aGl {x d:Int}(h:Ay x=some d):0<=d/\d<6:=by
 have k:PQ (Ff x) (λd=>0<=d/\d<6):=by
  simp only[Ff,aK,av];refine⟨λ_=>by decide,λ_=>⟨λ_=>by decide,λ_=>by decide⟩⟩
 exact Ok.post k h
theorem awG:∀(d:mw.B) (hd:0<=d.1.2/\d.1.2<=4),Ok (OV d) (λx:Az=>True):=
 bq (λd:mw.B=>wt (4-d.1.2)) (λd hd=>by
  have hw:wI (d.1.2+1)=d.1.2+1:=aY;unfold OU;simp only[bO];simp only[nf,tW,hw];repeat' (first|exact True.intro|omega|(intro _ h;have:=aGl h;revert this;clear h;intro this)|(intro _)|(apply And.intro))) (λd hd=>by omega)
instance aYP (x0:Int)(x1:Bool)(x2:Bool)(x3:Bool)(x4:Bool)(x5:Bool)(x6:Bool)(x7:Bool)(x8:Bool)(x9:Int)(gx:Int)(gy:Int):bp (Fg x0 x1 x2 x3 x4 x5 x6 x7 x8 x9 gx gy):=by
 unfold Fg Xr;refine aG ?_;refine ay (awG _ (by simp)) λd _ hd=> ?_;simp only[bO]
instance a0g (x:Mi.B):bp (Mk x):=by
 unfold Mk ahF;try dsimp only
 exact aG (by simp only[bO])
theorem aHV (a:Nat)(i:Int):∀(d:vf.B) (hd:0<=d.1.2.2.2.2.2.2/\d.1.2.2.2.2.2.2<=d.1.2.2.2.2.2.1/\d.1.2.2.2.2.2.1<=1999/\d.1.1.1=a/\d.1.2.1=i/\d.1.2.2.2.1=i/\d.1.2.2.2.2.1.1=a/\d.1.2.2.2.2.2.1=(a:Int)/\(d.1.2.2.1:Int)<=d.1.2.2.2.2.2.2/\0<=i/\i<3),Ok (ahH d) (λx:Ml=>x.1.1.1=a/\x.1.2.1=i/\x.1.2.2.2.1=i/\x.1.2.2.1<=a):=
 bq (λd:vf.B=>wt (d.1.2.2.2.2.2.1-d.1.2.2.2.2.2.2)) (λd hd=>by
  have hw:wI (d.1.2.2.2.2.2.2+1)=d.1.2.2.2.2.2.2+1:=aY;unfold ahG;simp only[bO];simp only[nf,tW,hw];repeat' (first|exact True.intro|omega|(intro _)|(apply And.intro))) (λd hd=>by omega)
theorem aHW:∀(d:vg.B) (hd:0<=d.1.2/\d.1.2<=3/\d.1.1.1<=1900),Ok (ahJ d) (λx:Mm=>True):=
 bq (λd:vg.B=>wt (3-d.1.2)) (λd hd=>by
  unfold ahI;try dsimp only
  rw[aK];refine⟨λh=> ?_,λ_=>by simp only[av,lP]⟩;have h:=dq h;rw[bJ,bJ,aM];refine⟨rfl,rfl,ay (aHV d.1.1.1 d.1.2 _ ?_) λx _ hx=> ?_⟩
  .dsimp only;simp only[cF,zW,Bx];omega
  obtain⟨a1,a2,a3,a4⟩:=hx;rw[aM,bJ];have hw:wI (d.1.2+1)=d.1.2+1:=aY;have:=aLA x.1.2.2.1 (by omega);simp only[bO];simp only[nf,oJ,tW,hw,a1,a2,a3];repeat' (first|exact True.intro|omega|(intro _)|(apply And.intro))) (λd hd=>by omega)
theorem ah1 (x0:Nat)(x1:Bool)(x2:Nat->Int)(x3:Nat->Int)(x4:Nat->Int)(w0:Bool)(h:x0<=1900):bp (kg x0 x1 x2 x3 x4 w0):=by
 unfold kg atL;refine aG ?_;rw[aM,bJ];refine⟨rfl,?_⟩;refine ay (aHW _ (by dsimp only;omega)) λd _ hd=> ?_;simp only[bO]
instance a4d (x1:Bool)(x2 x3 x4:Nat->Int)(w0:Bool):bp (kg 2 x1 x2 x3 x4 w0):=ah1 _ _ _ _ _ _ (by omega)
instance a4e (x1:Bool)(x2 x3 x4:Nat->Int)(w0:Bool):bp (kg 3 x1 x2 x3 x4 w0):=ah1 _ _ _ _ _ _ (by omega)
theorem aC2 (i:Int):∀(d:pI.B) (hd:0<=d.1.2.2/\d.1.2.2<=4/\d.1.2.1=i),Ok (Xw d) (λx:Fi=>x.1.2.1=i):=
 bq (λd:pI.B=>wt (4-d.1.2.2)) (λd hd=>by
  have hw:wI (d.1.2.2+1)=d.1.2.2+1:=aY;unfold Xv;simp only[bO];simp only[nf,oJ,tW,hw];repeat' (first|exact True.intro|omega|(intro _)|(apply And.intro))) (λd hd=>by omega)
theorem aC3:∀(d:pJ.B) (hd:0<=d.1/\d.1<=2),Ok (Xy d) (λx:Fj=>True):=
 bq (λd:pJ.B=>wt (2-d.1)) (λd hd=>by
  unfold Xx;try dsimp only
  rw[aK];refine⟨λh=> ?_,λ_=>by simp only[av,lP]⟩;have h:=dq h;rw[bD];intro d1 _;refine ay (aC2 d.1 _ (by simp)) λx _ hx=> ?_;have hw:wI (d.1+1)=d.1+1:=aY;simp only[av,qo,hx,hw];omega) (λd hd=>by omega)
instance a0h (x0:Int)(x1:Int)(x2:Int)(x3:Int)(x4:Bool):bp (dy x0 x1 x2 x3 x4):=by
 unfold dy ahM;refine aG ?_;rw[bD];intro d _;rw[aK];refine⟨λ_=>by simp only[bO],λ_=>ay (aC3 _ (by simp)) λd _ hd=> ?_⟩;simp only[av]
theorem apW (a b:Int):∀(d:gF.B) (hd:0<=d.1.2.2.2/\d.1.2.2.2<=d.1.2.2.1/\d.1.2.2.1<=1999/\d.1.2.2.1<=24/\d.1.1=a/\d.1.2.1=b),Ok (BO d) (λx:qB=>x.1.1=a/\x.1.2.1=b):=
 bq (λd:gF.B=>wt (d.1.2.2.1-d.1.2.2.2)) (λd hd=>by
  have hw:wI (d.1.2.2.2+1)=d.1.2.2.2+1:=aY;unfold BN;simp only[bO];simp only[nf,oJ,tW,hw];repeat' (first|exact True.intro|omega|(intro _)|(apply And.intro))) (λd hd=>by omega)
theorem apX (a b:Int):∀(d:gG.B) (hd:0<=d.1.2.2/\d.1.2.2<=24/\d.1.1=a/\d.1.2.1=b/\0<=a/\a<24),Ok (BQ d) (λx:qC=>x.1.2.1=b):=
 bq (λd:gG.B=>wt (24-d.1.2.2)) (λd hd=>by
  have hw:wI (d.1.2.2+1)=d.1.2.2+1:=aY;unfold BP;simp only[bO];simp only[nf,oJ,tW,hw];repeat' (first|exact True.intro|omega|(intro _)|(apply And.intro))) (λd hd=>by omega)
theorem apY:∀(d:gH.B) (hd:0<=d.1/\d.1<=24),Ok (BT d) (λx:qD=>True):=
 bq (λd:gH.B=>wt (24-d.1)) (λd hd=>by
  have hw:wI (d.1+1)=d.1+1:=aY;unfold BS;have h1:wI (24+d.1)=24+d.1:=dS;simp only[h1];simp only[bO];simp only[nf,oJ,tW,hw];repeat' (first|exact True.intro|omega|(intro _)|(apply And.intro))) (λd hd=>by omega)
theorem apZ:∀(d:gI.B) (hd:0<=d.1/\d.1<=24),Ok (BV d) (λx:qE=>True):=
 bq (λd:gI.B=>wt (24-d.1)) (λd hd=>by
  unfold BU;rw[aK];refine⟨λh=> ?_,λ_=>by simp only[av,lP]⟩;have h:=dq h;have hw:wI (d.1+1)=d.1+1:=aY;refine ay (apW d.1 d.1 _ (by dsimp only;rw[hw];omega)) λx _ hx=> ?_;refine ay (apX d.1 d.1 _ (by dsimp only;omega)) λx _ hx=> ?_;simp only[av,qo,hx,hw];omega) (λd hd=>by omega)
instance aUI (x0:Nat->Int)(x1:Nat->Int)(x2:Bool)(x3:Nat->Int):bp (qF x0 x1 x2 x3):=by
 unfold qF GJ;refine aG ?_;refine ay (apZ _ (by simp)) λd _ hd=> ?_;refine ay (apY _ (by simp)) λd _ hd=> ?_;simp only[bO]
instance a0i (x0:Nat->Int):bp (cy x0):=by
 unfold cy ahN;exact aG (by simp only[bO])
instance aVw (x0:Nat->Int)(x1:Int)(x2:Int)(x3:Int)(x4:Int):bp (tJ x0 x1 x2 x3 x4):=by
 unfold tJ TA;exact aG (by simp only[bO])
instance aZH (x0:Int)(x1:Int)(x2:Int)(x3:Int)(x4:Int)(x5:Int)(x6:Int)(x7:Int)(x8:Bool):bp (It x0 x1 x2 x3 x4 x5 x6 x7 x8):=by
 unfold It ac2;exact aG (by simp only[bO])
instance aYQ (x0:Int)(x1:Bool):bp (Fk x0 x1):=by
 unfold Fk XI;exact aG (by simp only[bO])
instance a1q (x0:Int)(x1:Int)(x2:Int)(x3:Int)(x4:Int)(x5:Int)(x6:Int)(x7:Int)(x8:Bool):bp (ln x0 x1 x2 x3 x4 x5 x6 x7 x8):=by
 unfold ln am7;try dsimp only
 exact aG (by simp only[bO])
theorem aLC:∀(d:xX.B) (hd:0<=d.1/\d.1<=4),Ok (am9 d) (λx:Rp=>True):=
 bq (λd:xX.B=>wt (4-d.1)) (λd hd=>by
  have hw:wI (d.1+1)=d.1+1:=aY;unfold am8;simp only[bO];simp only[nf,oJ,tW,hw];repeat' (first|exact True.intro|omega|(intro _)|(apply And.intro))) (λd hd=>by omega)
instance a3i (x0:Int)(x1:Int)(x2:Int)(x3:Int)(x4:Bool):bp (jU x0 x1 x2 x3 x4):=by
 unfold jU ay4;try dsimp only
 refine aG ?_;refine ay (aLC _ (by simp)) λd _ hd=> ?_;simp only[bO]
instance a3j:bp tK:=by
 have b1:=λx=>o7 0 4 1073741840 x (by omega) (by omega) (by omega)
 have b2:=λx=>o7 4 7 549755813888 x (by omega) (by omega) (by omega)
 have b3:=λx=>o7 7 10 9007199254740992 x (by omega) (by omega) (by omega)
 have b4:=λx=>o7 10 13 134217728 x (by omega) (by omega) (by omega)
 have b5:=λx=>o7 13 16 1073741824 x (by omega) (by omega) (by omega)
 have b6:=λx=>o7 16 22 2147483648 x (by omega) (by omega) (by omega)
 have b7:=λx=>o7 22 24 137438953472 x (by omega) (by omega) (by omega)
 unfold tK TD;exact aG (by simp only[bO])
theorem awH:∀(d:mx.B) (hd:0<=d.1/\d.1<=24),Ok (O2 d) (λx:AA=>True):=
 bq (λd:mx.B=>wt (24-d.1)) (λd hd=>by
  have hw:wI (d.1+1)=d.1+1:=aY;unfold O1;simp only[bO];simp only[nf,oJ,tW,hw];repeat' (first|exact True.intro|omega|(intro _)|(apply And.intro))) (λd hd=>by omega)
instance aYR (x0:Nat->Int)(x1:Bool):bp (vS x0 x1):=by
 unfold vS XK;refine aG ?_;rw[bD];intro d _;refine ay (awH _ (by simp)) λd _ hd=> ?_;simp only[av]
theorem a0j {x:Int}{y:aeB}(h:xw x=some y)(k:(y:Int)<=1073741840): -1073741840<=x/\x<=1073741840:=by
 have e:PQ (DE x) (λy:aeB=>(y:Int)<=1073741840-> -1073741840<=x/\x<=1073741840):=by
  by_cases c:x<0/\ -1152921504606846976<x
  .have w:wI (0-x)=0-x:=dS;simp only[DE,aK,av,Gs,ke,abW,w];exact⟨λ_=>(show(1152921504606846976:Int)<=1073741840-> -1073741840<=x/\x<=1073741840 by omega),λ_=>⟨λ_=>(show(1152921504606846976:Int)<=1073741840-> -1073741840<=x/\x<=1073741840 by omega),λ_=>⟨λ_=>(show(0-x:Int)<=1073741840-> -1073741840<=x/\x<=1073741840 by omega),λ_=>(show x<=1073741840-> -1073741840<=x/\x<=1073741840 by omega)⟩⟩⟩
  .simp only[DE,aK,av,Gs,ke,abW];exact⟨λ_=>(show(1152921504606846976:Int)<=1073741840-> -1073741840<=x/\x<=1073741840 by omega),λ_=>⟨λ_=>(show(1152921504606846976:Int)<=1073741840-> -1073741840<=x/\x<=1073741840 by omega),λ_=>⟨λ_=>by omega,λ_=>(show x<=1073741840-> -1073741840<=x/\x<=1073741840 by omega)⟩⟩⟩
 exact Ok.post e h k
theorem ap0 (a b:Int):∀(d:gJ.B) (hd:0<=d.1.2.2/\d.1.2.2<=24/\d.1.1=a/\d.1.2.1=b/\0<=a/\a<24),Ok (BX d) (λx:qI=>x.1.2.1=b):=
 bq (λd:gJ.B=>wt (24-d.1.2.2)) (λd hd=>by
  have hw:wI (d.1.2.2+1)=d.1.2.2+1:=aY;unfold BW;simp only[bO];simp only[nf,oJ,tW,hw];repeat' (first|exact True.intro|omega|(intro _)|(apply And.intro))) (λd hd=>by omega)
theorem ap1 (a:Int):∀(d:gK.B) (hd:0<=d.1.2/\d.1.2<=48/\d.1.1=a/\0<=a/\a<24),Ok (BZ d) (λx:qJ=>x.1.1=a):=
 bq (λd:gK.B=>wt (48-d.1.2)) (λd hd=>by
  have hw:wI (d.1.2+1)=d.1.2+1:=aY;unfold BY;simp only[bO];simp only[nf,oJ,tW,hw];repeat' (first|exact True.intro|omega|(intro _)|(apply And.intro))) (λd hd=>by omega)
theorem ap2 (a b e g h:Int):∀(d:gL.B) (hd:0<=d.1.2.2.2.2.2.2/\d.1.2.2.2.2.2.2<=48/\d.1.1=a/\d.1.2.2.1=b/\0<=a/\a<24/\0<=b/\b<24/\d.1.2.2.2.2.1=g/\d.1.2.2.2.2.2.1=h),Ok (B4 d) (λx:qK=>x.1.1=a/\x.1.2.2.2.2.1=g/\x.1.2.2.2.2.2.1=h):=
 bq (λd:gL.B=>wt (48-d.1.2.2.2.2.2.2)) (λd hd=>by
  have hw:wI (d.1.2.2.2.2.2.2+1)=d.1.2.2.2.2.2.2+1:=aY;unfold B3;simp only[bO];simp only[nf,oJ,tW,hw];repeat' (first|exact True.intro|omega|(intro _)|(apply And.intro))) (λd hd=>by omega)
theorem ap3:∀(d:gM.B) (hd:0<=d.1/\d.1<=24),Ok (B6 d) (λx:qL=>True):=
 bq (λd:gM.B=>wt (24-d.1)) (λd hd=>by
  unfold B5;rw[aK];refine⟨λh=> ?_,λ_=>by simp only[av,lP]⟩;have h:=dq h;have hw:wI (d.1+1)=d.1+1:=aY;have h1:wI (24+d.1)=24+d.1:=dS;rw[h1];iterate 2 (rw[bJ];refine⟨by simp only[bk];omega,?_⟩)
  rw[bD];intro d1 _;iterate 4 (rw[bJ];refine⟨by simp only[bk,bW,oK];omega,?_⟩)
  refine ay (ap0 d.1 d.1 _ (by dsimp only;omega)) λx _ hx=> ?_;simp only[av,qo,hx,hw];omega) (λd hd=>by omega)
theorem ap4 (a:Int):∀(d:fE.B) (hd:0<=d.1.2.2.2/\d.1.2.2.2<=d.1.2.2.1/\d.1.1=a/\d.1.2.2.1<=24/\0<=a/\a<24),Ok (B8 d) (λx:qM=>x.1.1=a):=
 bq (λd:fE.B=>wt (d.1.2.2.1-d.1.2.2.2)) (λd hd=>by
  unfold B7;try dsimp only
  rw[aK];refine⟨λh=> ?_,λ_=>by simp only[av,lP];exact hd.2.2.1⟩;have h:=dq h;have hw:wI (d.1.2.2.2+1)=d.1.2.2.2+1:=aY;rw[bJ];refine⟨by simp only[bk];omega,?_⟩;rw[bD];intro d1 _;rw[bD];intro d2 _;rw[bD];intro d3 _;refine ay (ap2 d.1.1 d.1.2.2.2 d.1.1 d.1.2.2.1 d.1.2.2.2 _ (by dsimp only;omega)) λx _ hx=> ?_;obtain⟨a1,a2,a3⟩:=hx;simp only[av,qo,a1,a2,a3,hw];omega) (λd hd=>by omega)
theorem ap5:∀(d:gN.B) (hd: -1<=d.1/\d.1<=23),Ok (Ca d) (λx:qN=>True):=
 bq (λd:gN.B=>wt (d.1+1)) (λd hd=>by
  unfold B9;try dsimp only
  rw[aK];refine⟨λh=> ?_,λ_=>by simp only[av,lP]⟩;have h:=dq h;have hw:wI (d.1-1)=d.1-1:=dS;refine ay (ap1 d.1 _ (by dsimp only;omega)) λx _ hx=> ?_;rw[bJ];refine⟨by simp only[bk,hx];omega,?_⟩;rw[bD];intro d1 _;rw[bD];intro d2 _;rw[bJ];refine⟨by simp only[bk,hx];omega,?_⟩;rw[bJ];refine⟨by simp only[bW,oK,hx];omega,?_⟩;refine ay (ap4 d.1 _ (by dsimp only;omega)) λx _ hx=> ?_;simp only[av,qo,hx,hw];omega) (λd hd=>by omega)
instance aUJ (x0:Nat->Int)(x1:Nat->Int)(x2:Nat->Int)(x3:Nat->Int)(x4:Bool):bp (jX x0 x1 x2 x3 x4):=by
 unfold jX GN;refine aG ?_;rw[bD];intro d _;refine ay (ap3 _ (by simp)) λd _ hd=> ?_;rw[bD];intro d1 _;refine ay (ap5 _ (by simp)) λd _ hd=> ?_;simp only[av]
instance a1r (x0:Int):bp (xY x0):=by
 unfold xY Rr;exact aG (by simp only[bO])
theorem aLD (x:Int):xY x=some (decide (0<=x)&&decide (x<24)):=by
 simp only[xY,Rr,bN,cg];by_cases h0:0<=x<;>simp[h0]
instance aTt (x0:Int)(x1:Bool):bp (o6 x0 x1):=by
 unfold o6 Eu;exact aG (by simp only[bO])
theorem awI:∀(d:jj.B) (hd:0<=d.1.2.2.2/\d.1.2.2.2<=d.1.2.2.1/\d.1.2.2.1<=1999/\d.1.2.2.1=((d.1.2.1.1:Nat):Int)),Ok (GP d) (λx:vA=>True):=
 bq (λd:jj.B=>wt (d.1.2.2.1-d.1.2.2.2)) (λd hd=>by
  have hw:wI (d.1.2.2.2+1)=d.1.2.2.2+1:=aY;unfold GO;simp only[bO,aLD,bX];simp only[nf,oJ,tW,hw];repeat' (first|exact True.intro|omega|(intro _)|(apply And.intro))) (λd hd=>by omega)
theorem MQ (x0:Nat->Int)(x1:Nat->Int)(x2:Int)(x3:Nat)(x4:Bool)(x5:Nat->Int)(w0:Bool)(h:x3<=1999):bp (de x0 x1 x2 x3 x4 x5 w0):=by
 unfold de Mx;refine aG ?_;rw[bD];intro d1 _;rw[aM,bJ];refine⟨rfl,?_⟩;refine ay (awI _ (hdN x3 h)) λd _ hd=> ?_;rw[bD];intro d2 _;simp only[av]
def AE (x0 x1 x2 x3:Int)(j:Nat):Int:=if j=0 then x0 else if j=1 then x1 else if j=2 then x2 else x3
def sqW (f g:Nat->Int)(j:Nat)(x:Int):Prop:=(-1073741840<=x/\x<=1073741840)/\okW (f j) (g j)/\vW (f j) (g j)=x*x
theorem aeT {x:Int}(h: -1073741840<=x/\x<=1073741840):0<=x*x/\x*x<=1152921538966585600:=by
 have key:∀u:Int,0<=u->u<=1073741840->0<=u*u/\u*u<=1152921538966585600:=λu u0 u1=>by
  refine⟨JL u0 u0,?_⟩;have:=On u1 u1 u0 (by omega);omega
 rcases ayl 0 x with hx|hx
 .exact key x hx h.2
 .have:=key (-x) (by omega) (by omega);rwa [Int.neg_mul_neg] at this
theorem ah2 {x:Int}{f g:Nat->Int}{n:Nat}{A:Type}{δ:Type}{Q:δ->Prop}{no1:Pg δ}{k:al2->Pg δ}
  (h1:(x< -1073741840∨1073741840<x)->PQ no1 Q)(h2:(-1073741840<=x/\x<=1073741840)->∀h l,fC x x=some (h,l)->okW h l->vW h l=x*x->PQ (k (h,l)) Q):
  PQ (opt (xw x) λaj=>ae (decide (aj>1073741840)) no1 (opt (fC x x) k)) Q:=by
 rw[bD];intro d hd;rw[aK];refine⟨λh=> ?_,λh=> ?_⟩
 .refine h1 ?_;have h:=dq h
  have:¬(-1073741840<=x/\x<=1073741840):=λc=>by
   have e:PQ (DE x) (λy:aeB=>(y:Int)<=1073741840):=by
    by_cases c':x<0
    .have w:wI (0-x)=0-x:=dS;simp only[DE,aK,av,Gs,ke,abW,w];exact⟨λ_=>by omega,λ_=>⟨λ_=>by omega,λ_=>⟨λ_=>(show(0-x:Int)<=1073741840 by omega),λ_=>by omega⟩⟩⟩
    .simp only[DE,aK,av,Gs,ke,abW];exact⟨λ_=>by omega,λ_=>⟨λ_=>by omega,λ_=>⟨λ_=>by omega,λ_=>(show x<=1073741840 by omega)⟩⟩⟩
   have h3:(d:Int)<=1073741840:=Ok.post e hd;exact absurd (show(1073741840:Int)<d from h) (Int.not_lt.mpr h3)
  omega
 .have h:=qk h;have h':¬((1073741840:Int)<d):=h;have hx:=a0j hd (Int.not_lt.mp h');obtain⟨a,b,e,o,v⟩:=DJ x x (by omega) (by omega) (by omega) (by omega);rw[e,bX];exact h2 hx a b e o v
theorem aR4 (x0 x1 x2 x3:Int)(d:lS.B)(hd:∃n:Nat,n<=4/\d.1.1=n/\d.1.2.2=(n:Int)/\d.1.2.1=(x0,x1,x2,x3)/\∀j,j<n->sqW d.b.1 d.b.2 j (AE x0 x1 x2 x3 j)):
  Ok (To d) (λx:xx=>match x with
   |.inl _=>∃j,j<4/\(AE x0 x1 x2 x3 j< -1073741840∨1073741840<AE x0 x1 x2 x3 j)
   |.inr e=>e.1.1=4/\∀j,j<4->sqW e.b.1 e.b.2 j (AE x0 x1 x2 x3 j)):=
 aNU (s:=_) (λd:lS.B=>∃n:Nat,n<=4/\d.1.1=n/\d.1.2.2=(n:Int)/\d.1.2.1=(x0,x1,x2,x3)/\∀j,j<n->sqW d.b.1 d.b.2 j (AE x0 x1 x2 x3 j)) (λd:lS.B=>4-d.1.1) (λx:xx=>match x with
   |.inl _=>∃j,j<4/\(AE x0 x1 x2 x3 j< -1073741840∨1073741840<AE x0 x1 x2 x3 j)
   |.inr e=>e.1.1=4/\∀j,j<4->sqW e.b.1 e.b.2 j (AE x0 x1 x2 x3 j)) (λd hd=>by
  obtain⟨⟨c,q,i⟩,q',f,g⟩:=d;obtain⟨n,hn,h1,h2,h3,h4⟩:=hd;simp only at h1 h2 h3 h4;subst h1 h3 h2
  have step:∀(h l:Int),c<4->okW h l->(-1073741840<=AE x0 x1 x2 x3 c/\AE x0 x1 x2 x3 c<=1073741840)->vW h l=AE x0 x1 x2 x3 c*AE x0 x1 x2 x3 c->
    ∀j,j<c+1->sqW (λj=>bif ww j c then h else f j) (λj=>bif ww j c then l else g j) j (AE x0 x1 x2 x3 j):=λh l hc ho hs hv j hj=>by
   unfold sqW;by_cases e:j=c
   .subst e;simp only[aM,bn];exact⟨hs,ho,hv⟩
   .have e':ww j c=false:=by cases hb:ww j c with|false=>rfl|true=>exact absurd (mO hb) e
    simp only[e',bA];exact h4 j (by omega)
  have hw:wI ((c:Int)+1)=((c+1:Nat):Int):=by rw[dS (by omega) (by omega)];omega
  have hb:wl ((c+1)*16) 140737488355328=true:=by rw[bW];omega
  unfold Tn;simp only[hw,hb]
  have fin:∀(h l:Int),c<4->okW h l->(-1073741840<=AE x0 x1 x2 x3 c/\AE x0 x1 x2 x3 c<=1073741840)->vW h l=AE x0 x1 x2 x3 c*AE x0 x1 x2 x3 c->
    (∃n:Nat,n<=4/\c+1=n/\((c+1:Nat):Int)=(n:Int)/\True/\∀j,j<n->sqW (λj=>bif ww j c then h else f j) (λj=>bif ww j c then l else g j) j (AE x0 x1 x2 x3 j))/\4-(c+1)<4-c:=λh l hc ho hs hv=>
   ⟨⟨c+1,by omega,rfl,rfl,trivial,step h l hc ho hs hv⟩,by omega⟩
  rcases(by omega:c=0∨c=1∨c=2∨c=3∨c=4) with rfl|rfl|rfl|rfl|rfl
  .rw[show decide (((0:Nat):Int)<4)=true from rfl,show aX ((0:Nat):Int) 4=true from rfl,show(((0:Nat):Int)==3)=false from rfl,show(((0:Nat):Int)==2)=false from rfl,show(((0:Nat):Int)==1)=false from rfl];simp only[aK,Lo,wS,DU,Oo,Bx,zW];refine ah2 (A:=Unit) (n:=0) (f:=f) (g:=g) (λh=> ?_) (λhs h l _ ho hv=> ?_)
   .simp only[av,lP];exact⟨0,by omega,h⟩
   .rw[bJ];refine⟨rfl,?_⟩;simp only[av,qo];exact fin h l (by omega) ho hs hv
  .rw[show decide (((1:Nat):Int)<4)=true from rfl,show aX ((1:Nat):Int) 4=true from rfl,show(((1:Nat):Int)==3)=false from rfl,show(((1:Nat):Int)==2)=false from rfl,show(((1:Nat):Int)==1)=true from rfl];simp only[aK,Lo,wS,DU,Oo,Bx,zW];refine ah2 (A:=Unit) (n:=0) (f:=f) (g:=g) (λh=> ?_) (λhs h l _ ho hv=> ?_)
   .simp only[av,lP];exact⟨1,by omega,h⟩
   .rw[bJ];refine⟨rfl,?_⟩;simp only[av,qo];exact fin h l (by omega) ho hs hv
  .rw[show decide (((2:Nat):Int)<4)=true from rfl,show aX ((2:Nat):Int) 4=true from rfl,show(((2:Nat):Int)==3)=false from rfl,show(((2:Nat):Int)==2)=true from rfl];simp only[aK,Lo,wS,DU,Oo,Bx,zW];refine ah2 (A:=Unit) (n:=0) (f:=f) (g:=g) (λh=> ?_) (λhs h l _ ho hv=> ?_)
   .simp only[av,lP];exact⟨2,by omega,h⟩
   .rw[bJ];refine⟨rfl,?_⟩;simp only[av,qo];exact fin h l (by omega) ho hs hv
  .rw[show decide (((3:Nat):Int)<4)=true from rfl,show aX ((3:Nat):Int) 4=true from rfl,show(((3:Nat):Int)==3)=true from rfl];simp only[aK,Lo,wS,DU,Oo,Bx,zW];refine ah2 (A:=Unit) (n:=0) (f:=f) (g:=g) (λh=> ?_) (λhs h l _ ho hv=> ?_)
   .simp only[av,lP];exact⟨3,by omega,h⟩
   .rw[bJ];refine⟨rfl,?_⟩;simp only[av,qo];exact fin h l (by omega) ho hs hv
  .rw[show decide (((4:Nat):Int)<4)=false from rfl];simp only[aK,av,wS,DU,Oo,zW,lP];exact h4) 2000 d hd (by obtain⟨n,hn,h1,_⟩:=hd;omega)
theorem aUK (n:Nat)(hn:n<=100)(f g:Nat->Int)(w:Bool)(B:Int)(hB:0<=B)(hB2:B<=1329227995784915872903807060280344576)(h:∀j,j<n->okW (f j) (g j)/\ -B<=vW (f j) (g j)/\vW (f j) (g j)<=B):
  ∃a b,j8 n f g w=some ((a,b),true)/\okW a b/\vW a b=zT (λj=>vW (f j) (g j)) n:=by
 have key:∃x:Il,Im (((n,w),wn n,0),(f,g),0,0)=some x/\(match x with
   |.inl _=>False
   |.inr e=>okW e.b.1 e.b.2/\vW e.b.1 e.b.2=zT (λj=>vW (f j) (g j)) n):=by
  unfold Im
  refine aav (s:=DF KO) (λt d=>∃(i:Nat) (a b:Int),i+t=n/\okW a b/\vW a b=zT (λj=>vW (f j) (g j)) i/\d=(((n,w),wn n,wn i),(f,g),a,b)) _ (λt d=> ?_) 2000 n _ (by omega)
   ⟨0,0,0,by omega,⟨by omega,by omega,by omega,by omega⟩,rfl,rfl⟩
  rintro ⟨i,a,b,hi,ho,hv,rfl⟩
  rcases abY t with t0|t0
  .have e:i=n:=by omega
   subst e;simp only[DF,cg,bN,cq,fe,awB (cW i),bA];exact⟨_,rfl,ho,hv⟩
  .obtain⟨o1,b1,b2⟩:=h i (by omega);have bnd:=anF (λj=>vW (f j) (g j)) B hB i (λj hj=>(h j (by omega)).2);obtain⟨a2,b2',q,e,o2,c,v⟩:=azd a b (f i) (g i) ho o1
   have hmul:(i:Int)*B<=100*1329227995784915872903807060280344576:=by
    have:=On (show(i:Int)<=100 by omega) hB2 hB (by omega);exact this
   have hq:q=true:=by rw[c,hv];omega
   subst hq;have v:=v rfl;have qq:wt (wn i)=i:=rfl;simp only[DF,cg,bN,cq,fe,wI,awA hi t0,awC (show i<n by omega),bn,qq,bM,e,DV,bA,awD (show i<9000000000000000000 by omega)];exact⟨_,rfl,t-1,by omega,i+1,a2,b2',by omega,o2,by rw[v,hv];rfl,rfl⟩
 obtain⟨x,hx,hp⟩:=key;simp only[j8,aaD,cg,bN,cq,fe,eu];rw[aM,bn,hx,bM];cases x with
 |inl e=>exact hp.elim
 |inr e=>exact⟨e.b.1,e.b.2,rfl,hp.1,hp.2⟩
theorem aYS (x0 x1 x2 x3:Int):Ok (DH x0 x1 x2 x3) (λb:Bool=>b=true↔((∀j,j<4-> -1073741840<=AE x0 x1 x2 x3 j/\AE x0 x1 x2 x3 j<=1073741840)/\ -4294967296<=x0*x0+x1*x1+x2*x2+x3*x3-1152921504606846976/\x0*x0+x1*x1+x2*x2+x3*x3-1152921504606846976<=4294967296)):=by
 unfold DH acO;show PQ _ _;rw[bJ];refine⟨rfl,ay (aR4 x0 x1 x2 x3 _ ⟨0,by omega,rfl,rfl,rfl,λj hj=>absurd hj (by omega)⟩) λx _ hx=> ?_⟩;rw[rC];constructor
 .rintro a rfl
  rw[av];obtain⟨j,hj,hs⟩:=hx;exact⟨λh=>(by cases h),λh=>by have:=h.1 j hj;omega⟩
 .rintro e rfl
  obtain⟨h1,h2⟩:=hx;rw[aM,bJ];refine⟨rfl,?_⟩;have sm:∀j,j<4-> -1073741840<=AE x0 x1 x2 x3 j/\AE x0 x1 x2 x3 j<=1073741840:=λj hj=>(h2 j hj).1
  obtain⟨a,b,ea,oa,va⟩:=aUK 4 (by omega) e.b.1 e.b.2 true 1152921538966585600 (by omega) (by omega) (λj hj=>by
   obtain⟨s1,s2,s3⟩:=h2 j hj;have:=aeT s1;exact⟨s2,by rw[s3];omega,by rw[s3];omega⟩)
  rw[h1,ea,bX];have s0:=aeT (sm 0 (by omega));have s1:=aeT (sm 1 (by omega));have s2:=aeT (sm 2 (by omega));have s3:=aeT (sm 3 (by omega))
  have vs:vW a b=x0*x0+x1*x1+x2*x2+x3*x3:=by
   rw[va];simp only[zT,(h2 0 (by omega)).2.2,(h2 1 (by omega)).2.2,(h2 2 (by omega)).2.2,(h2 3 (by omega)).2.2];simp only[AE,kR,if_neg (show ¬(1:Nat)=0 by omega),if_neg (show ¬(2:Nat)=0 by omega),if_neg (show ¬(2:Nat)=1 by omega),if_neg (show ¬(3:Nat)=0 by omega),if_neg (show ¬(3:Nat)=1 by omega),if_neg (show ¬(3:Nat)=2 by omega)];omega
  have t0:AE x0 x1 x2 x3 0=x0:=rfl;have t1:AE x0 x1 x2 x3 1=x1:=rfl;have t2:AE x0 x1 x2 x3 2=x2:=rfl;have t3:AE x0 x1 x2 x3 3=x3:=rfl;rw[t0] at s0;rw[t1] at s1;rw[t2] at s2;rw[t3] at s3;generalize hS:x0*x0+x1*x1+x2*x2+x3*x3=S at*
  have r:=wide_round a b 0 (by omega) oa;rw[aJv,vs,show wn 0=0 from rfl,if_pos (by omega)] at r;rw[r,bX];have hw:wI (S-1152921504606846976)=S-1152921504606846976:=dS;simp only[hw,aK,av,Oo,Lo,DU,Bx,ke,abW,Gs];exact⟨λk=>⟨λm=>⟨sm,k,m⟩,λc=>c.2.2⟩,λk=>⟨λh=>(by cases h),λc=>absurd c.2.1 k⟩⟩
instance a5x (x0 x1 x2 x3:Int):bp (DH x0 x1 x2 x3):=(aYS x0 x1 x2 x3).tot
instance aZI (x0:Nat->Int)(x1:Bool):bp (cw x0 x1):=by
 unfold cw ac3;exact aG (by simp only[bO])
instance aUL (x0:Int)(x1:Bool):bp (jW x0 x1):=by
 unfold jW O3;exact aG (by simp only[bO])
instance a2f (x0:Int)(x1:Int)(x2:Int)(x3:Bool):bp (XO x0 x1 x2 x3):=by
 unfold XO atN;exact aG (by simp only[bO])
instance aYT (x0:Nat->Int)(x1:Int)(x2:Int)(x3:Int)(x4:Int)(x5:Int)(x6:Int)(x7:Int)(x8:Int)(x9:Bool):bp (vU x0 x1 x2 x3 x4 x5 x6 x7 x8 x9):=by
 unfold vU XQ;exact aG (by simp only[bO])
instance aZJ (x0:Nat->Int)(x1:Int)(x2:Int)(x3:Int)(x4:Int)(x5:Int)(x6:Int)(x7:Int)(x8:Int)(x9:Bool):bp (vi x0 x1 x2 x3 x4 x5 x6 x7 x8 x9):=by
 unfold vi ac5;try dsimp only
 exact aG (by simp only[bO])
theorem aGm:∀(d:sy.B) (hd:0<=d.1.2/\d.1.2<=3),Ok (ac7 d) (λx:Iu=>True):=
 bq (λd:sy.B=>wt (3-d.1.2)) (λd hd=>by
  have hw:wI (d.1.2+1)=d.1.2+1:=aY;unfold ac6;simp only[bO];simp only[nf,tW,hw];repeat' (first|exact True.intro|omega|(intro _)|(apply And.intro))) (λd hd=>by omega)
instance a1s (x0:Int)(x1:Int)(x2:Int)(x3:Bool):bp (KX x0 x1 x2 x3):=by
 unfold KX ank;refine aG ?_;rw[bD];intro d _;rw[aK];refine⟨λ_=>by simp only[bO],λ_=> ?_⟩;rw[bD];intro d1 _;refine ay (aGm _ (by simp)) λd _ hd=> ?_;simp only[bO]
theorem aC4:∀(d:pK.B) (hd:0<=d.1.2/\d.1.2<=24),Ok (X7 d) (λx:Fs=>True):=
 bq (λd:pK.B=>wt (24-d.1.2)) (λd hd=>by
  have hw:wI (d.1.2+1)=d.1.2+1:=aY;unfold X6;simp only[bO];simp only[nf,tW,hw];repeat' (first|exact True.intro|omega|(intro _)|(apply And.intro))) (λd hd=>by omega)
instance a0k (x0:Nat->Int)(x1:Int)(x2:Bool):bp (Mz x0 x1 x2):=by
 unfold Mz ahS;refine aG ?_;rw[bD];intro d1 _;refine ay (aC4 _ (by simp)) λd _ hd=> ?_;simp only[av]
theorem atX:∀(d:lp.B) (hd:0<=d.1.2/\d.1.2<=24),Ok (MB d) (λx:xZ=>True):=
 bq (λd:lp.B=>wt (24-d.1.2)) (λd hd=>by
  have hw:wI (d.1.2+1)=d.1.2+1:=aY;unfold MA;simp only[bO];simp only[nf,tW,hw];repeat' (first|exact True.intro|omega|(intro _)|(apply And.intro))) (λd hd=>by omega)
theorem atY (a b:Int):∀(d:lq.B) (hd:0<=d.1.2.2.2.2/\d.1.2.2.2.2<=d.1.2.2.2.1/\d.1.2.2.2.1<=1999/\d.1.1=a/\d.1.2.2.1=b/\(d.1.2.1:Int)=d.1.2.2.2.2/\d.1.2.2.2.1=a+1),Ok (MD d) (λx:ya=>x.1.1=a/\x.1.2.2.1=b/\(x.1.2.1:Int)=a+1):=
 bq (λd:lq.B=>wt (d.1.2.2.2.1-d.1.2.2.2.2)) (λd hd=>by
  have hw:wI (d.1.2.2.2.2+1)=d.1.2.2.2.2+1:=aY;unfold MC;simp only[bO];simp only[nf,tW,hw];repeat' (first|exact True.intro|omega|(intro _)|(apply And.intro))) (λd hd=>by omega)
theorem atZ:∀(d:lr.B) (hd:0<=d.1/\d.1<=24),Ok (MF d) (λx:yb=>True):=
 bq (λd:lr.B=>wt (24-d.1)) (λd hd=>by
  unfold ME;try dsimp only
  rw[aK];refine⟨λh=> ?_,λ_=>by simp only[av,lP]⟩;have h:=dq h;have hw:wI (d.1+1)=d.1+1:=aY;rw[bJ,hw];refine⟨rfl,ay (atY d.1 d.1 _ (by dsimp only;omega)) λx _ hx=> ?_⟩;obtain⟨a1,a2,a3⟩:=hx;have hn:x.1.2.1=wt (d.1+1):=by omega
  have td:=λa b c=>MP (wt (d.1+1)) (by omega) a b c false true
  simp only[a1,a2,hw,hn];simp only[bO];simp only[nf,tW];repeat' (first|exact True.intro|omega|(intro _)|(apply And.intro))) (λd hd=>by omega)
instance aVx (x0:Nat->Int)(x1:Nat->Int)(x2:Nat->Int)(x3:Int)(x4:Bool):bp (tL x0 x1 x2 x3 x4):=by
 unfold tL TK;try dsimp only
 refine aG ?_;rw[bD];intro d1 _;refine ay (atX _ (by simp)) λd _ hd=> ?_;rw[bD];intro d2 _;refine ay (atZ _ (by simp)) λd _ hd=> ?_;simp only[av]
instance aMB (x0:Nat->Int)(x1:Nat->Int)(x2:Nat->Int)(x3:Int)(x4:Bool):bp (pZ x0 x1 x2 x3 x4):=by
 unfold pZ DZ;exact aG (by simp only[bO])
instance a1t (x0:Int)(x1:Int)(x2:Int)(x3:Int):bp (Rt x0 x1 x2 x3):=by
 unfold Rt anr;exact aG (by simp only[bO])
theorem anJ (a b:Int):∀(d:jm.B) (hd:0<=d.1.2.2.2.2/\d.1.2.2.2.2<=d.1.2.2.2.1/\d.1.2.2.2.1<=1999/\d.1.1=a/\d.1.2.2.1=b/\d.1.2.2.2.1=a/\0<=a/\a<24),Ok (HB d) (λx:tY=>x.1.2.2.1=b):=
 bq (λd:jm.B=>wt (d.1.2.2.2.1-d.1.2.2.2.2)) (λd hd=>by
  have hw:wI (d.1.2.2.2.2+1)=d.1.2.2.2.2+1:=aY;unfold HA;simp only[bO];simp only[nf,tW,hw];repeat' (first|exact True.intro|omega|(intro _)|(apply And.intro))) (λd hd=>by omega)
theorem anK:∀(d:jo.B) (hd:0<=d.1/\d.1<=24),Ok (HD d) (λx:tZ=>True):=
 bq (λd:jo.B=>wt (24-d.1)) (λd hd=>by
  have hw:wI (d.1+1)=d.1+1:=aY;unfold HC;simp only[bO];simp only[nf,tW,hw];repeat' (first|exact True.intro|omega|(intro _)|(apply And.intro))) (λd hd=>by omega)
theorem anL:∀(d:jq.B) (hd:0<=d.1/\d.1<=24),Ok (HF d) (λx:ua=>True):=
 bq (λd:jq.B=>wt (24-d.1)) (λd hd=>by
  unfold HE;try dsimp only
  rw[aK];refine⟨λh=> ?_,λ_=>by simp only[av,lP]⟩;have h:=dq h;have hw:wI (d.1+1)=d.1+1:=aY;iterate 4 (rw[bJ];refine⟨by simp only[nf,tW,hw];omega,?_⟩)
  iterate 2 (rw[bD];intro _ _)
  iterate 5 (rw[bJ];refine⟨by simp only[nf,tW,hw];omega,?_⟩)
  rw[bD];intro _ _;iterate 4 (rw[bJ];refine⟨by simp only[nf,tW,hw];omega,?_⟩)
  refine ay (anJ d.1 d.1 _ (by dsimp only;omega)) λx _ hx=> ?_;simp only[av,qo,hx,hw];omega) (λd hd=>by omega)
theorem at1:∀(d:lu.B) (hd:0<=d.1.2/\d.1.2<=24),Ok (MI d) (λx:yg=>True):=
 bq (λd:lu.B=>wt (24-d.1.2)) (λd hd=>by
  have hw:wI (d.1.2+1)=d.1.2+1:=aY;unfold MH;simp only[bO];simp only[nf,tW,hw];repeat' (first|exact True.intro|omega|(intro _)|(apply And.intro))) (λd hd=>by omega)
instance aVy (x0:Nat->Int)(x1:Int)(x2:Bool):bp (Dg x0 x1 x2):=by
 unfold Dg TM;refine aG ?_;refine ay (at1 _ (by simp)) λd _ hd=> ?_;simp only[bO]
end Go.Proofs.YtldgljclcgaibaaGreat
