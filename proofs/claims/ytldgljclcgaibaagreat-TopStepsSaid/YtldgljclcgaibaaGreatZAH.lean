/-
  Parts of the proof: PRT PWY PWZ PWQ PRE TA TB TC TD TU TE
-/
import Derived.Test.YtldgljclcgaibaaGreatZAE
import Derived.Test.YtldgljclcgaibaaGreatZAG
open Nat renaming beq→z9,ble→wr
open Int renaming toNat→z4,ofNat→ws,fdiv→v9,tdiv→ul
open BitVec renaming ofInt→wn,toNat→wd
open List renaming append→v6
set_option linter.unusedVariables false
set_option linter.unusedSimpArgs false
set_option maxRecDepth 100000
set_option maxHeartbeats 4000000
namespace Go.Proofs.YtldgljclcgaibaaGreat
open Go.Ab
def isR (r V:Int):Prop:=0<=r/\V<=r*r+r/\(r=0∨r*r-r<V)
theorem aLA {a b:Int}(ha:0<=a)(hb:0<=b):0<=a*b:=Aq ha hb
theorem aTT {r s V:Int}(h1:isR r V)(h2:isR s V):s<=r:=by
 obtain⟨a1,a2,a3⟩:=h1;obtain⟨b1,b2,b3⟩:=h2;rcases Ke r s with h|h
 .exfalso
  have p:=aLA (a:=s-r-1) (b:=s+r) (by omega) (by omega);have q:(s-r-1)*(s+r)=s*s-s-(r*r+r):=by grind
  rcases b3 with b3|b3
  .omega
  .omega
 .exact h
theorem aU3 {r s V:Int}(h1:isR r V)(h2:isR s V):r=s:=Int.le_antisymm (aTT h2 h1) (aTT h1 h2)
theorem aZ0 (n:Nat):∃q:Nat,q*q<=n/\n<(q+1)*(q+1):=by
 induction n with
 |zero=>exact⟨0,by omega,by omega⟩
 |succ n ih=>
  obtain⟨q,h1,h2⟩:=ih;by_cases c:n+1<(q+1)*(q+1)
  .exact⟨q,by omega,c⟩
  .refine⟨q+1,by omega,?_⟩;have:(q+1+1)*(q+1+1)=(q+1)*(q+1)+2*q+3:=by grind
   omega
theorem aJp (V:Int)(h:0<=V):∃q:Int,0<=q/\q*q<=V/\V<(q+1)*(q+1):=by
 obtain⟨q,h1,h2⟩:=aZ0 V.toNat;refine⟨q,by omega,?_,?_⟩
 .have e:((q*q:Nat):Int)=(q:Int)*q:=by simp
  omega
 .have e:(((q+1)*(q+1):Nat):Int)=((q:Int)+1)*(q+1):=by simp
  omega
theorem aGf {a b:Int}(ha:0<=a)(hb:0<=b)(h:a*a<b*b):a<b:=by
 rcases Ke a b with c|c
 .exact c
 .exfalso
  have:=LH c c hb (by omega);omega
theorem aU4 (n:Nat)(hn:n<128):gU 0 1 (ws n)=some (2^n/18446744073709551616,2^n%18446744073709551616):=by
 have key:∀n:Fin 128,gU 0 1 (ws n.val)=some ((2:Int)^n.val/18446744073709551616,(2:Int)^n.val%18446744073709551616):=by decide+kernel
 exact key ⟨n,hn⟩
theorem aJq (a b c d:Int)(b0:0<=b)(b1:b<18446744073709551616)(d0:0<=d)(d1:d<18446744073709551616):
  wz a b c d=some (decide (a*18446744073709551616+b<c*18446744073709551616+d)):=by
 simp only[wz,ON,Pg.bP,Pg.bN,Pg.bZ,Pg.eD,Pg.dD];try delta wI wU
 by_cases h:a<c
 .have:a*18446744073709551616+b<c*18446744073709551616+d:=by omega
  simp[h,this]
 .by_cases e:a=c
  .subst e;have:(a*18446744073709551616+b<a*18446744073709551616+d)↔b<d:=by omega
   simp[this]
  .have:¬a*18446744073709551616+b<c*18446744073709551616+d:=by omega
   have e':(a==c)=false:=by simp[e]
   rw[cC h,bx,e',bx,cC this]
theorem ayE (x y c:Int)(x0:0<=x)(x1:x<18446744073709551616)(y0:0<=y)(y1:y<18446744073709551616)(c0:0<=c)(c1:c<=1):ad3 x y c=some ((x-y-c)%18446744073709551616,if x<y+c then 1 else 0):=by
 unfold ad3;have h:wr c.toNat 1=true:=axH (by omega);rw[h,bn];congr 1
 unfold aZF aZG;simp only[dQ,rq];constructor
 .omega
 .split<;>split<;>omega
theorem aR3 (a b c d:Int)(a0:0<=a)(a1:a<18446744073709551616)(b0:0<=b)(b1:b<18446744073709551616)(c0:0<=c)(c1:c<18446744073709551616)(d0:0<=d)(d1:d<18446744073709551616)
  (h:c*18446744073709551616+d<=a*18446744073709551616+b):
  ∃h' l',zj a b c d=some (h',l')/\0<=h'/\h'<18446744073709551616/\0<=l'/\l'<18446744073709551616/\h'*18446744073709551616+l'=a*18446744073709551616+b-(c*18446744073709551616+d):=by
 simp only[zj,Mg,Pg.bP,Pg.bN,Pg.bZ,Pg.eD,Pg.dD];try delta wI wU
 rw[ayE b d 0 b0 b1 d0 d1 (by omega) (by omega)];simp only[bC,Int.add_zero];by_cases k:b<d
 .rw[if_pos k,ayE a c 1 a0 a1 c0 c1 (by omega) (by omega)];simp only[bC];refine⟨_,_,rfl,?_,?_,?_,?_,?_⟩<;>omega
 .rw[if_neg k,ayE a c 0 a0 a1 c0 c1 (by omega) (by omega)];simp only[bC];refine⟨_,_,rfl,?_,?_,?_,?_,?_⟩<;>omega
theorem ahp (h1 l1 h2 l2:Int)(a0:0<=h1)(b0:0<=l1)(c0:0<=h2)(d0:0<=l2)(b1:l1<18446744073709551616)(d1:l2<18446744073709551616)
  (h:h1*18446744073709551616+l1+(h2*18446744073709551616+l2)<340282366920938463463374607431768211456):
  ∃h' l',js h1 l1 h2 l2=some (h',l')/\0<=h'/\h'<18446744073709551616/\0<=l'/\l'<18446744073709551616/\h'*18446744073709551616+l'=h1*18446744073709551616+l1+(h2*18446744073709551616+l2):=by
 rw[aJn h1 l1 h2 l2 a0 b0 c0 d0 b1 d1];refine⟨_,_,rfl,?_,?_,?_,?_,?_⟩<;>omega
theorem amT {m n:Nat}(h:m<=n):(2:Int)^m<=2^n:=by
 have h2:(2:Nat)^m<=2^n:=Nat.pow_le_pow_right (by decide) h;have h3:((2^m:Nat):Int)<=((2^n:Nat):Int):=by exact_mod_cast h2
 simpa using h3
theorem atu (h l:Int)(o:okW h l)(h0:0<=h):∃r,isR r (vW h l)/\r<18446744073709551616/\Mj h l=if r<=9223372036854775807 then some (r,true) else some (0,false):=by
 obtain⟨o1,o2,o3,o4⟩:=o;have v0:0<=vW h l:=by show 0<=h*18446744073709551616+l;omega
 have v1:vW h l<170141183460469231731687303715884105728:=by show h*18446744073709551616+l<_;omega
 have hvv:h*18446744073709551616+l=vW h l:=rfl;generalize vW h l=V at*
 obtain⟨q,q0,q1,q2⟩:=aJp V v0;have qb:q<13043817825332782213:=aGf q0 (by omega) (by omega);obtain⟨r,hr⟩:∃r,r=if q<V-q*q then q+1 else q:=⟨_,rfl⟩
 have q3:(q+1)*(q+1)=q*q+2*q+1:=by grind
 refine⟨r,?_,by rw[hr];split<;>omega,?_⟩
 .rw[hr];split
  .rename_i c
   exact⟨by omega,by omega,Or.inr (by omega)⟩
  .rename_i c
   refine⟨q0,by omega,?_⟩;rcases Ke 0 q with k|k
   .exact Or.inr (by omega)
   .exact Or.inl (by omega)
 simp only[Mj,agE,Pg.bP,Pg.bN,Pg.bZ,Pg.eD,Pg.dD];try delta wI wU
 unfold WK;have n0:decide (h<0)=false:=cC (by omega);have n1:IntKind.wrap .u64 h=h:=by rw[wrap_u64];omega
 rw[n0,bx,n1]
 refine FL (λt d=>∃(p c rh rl sh sl:Int),t<=64/\0<=p/\p=c*2^t/\p*p<=V/\V<(p+2^t)*(p+2^t)/\0<=rh/\rh<18446744073709551616/\0<=rl/\rl<18446744073709551616/\rh*18446744073709551616+rl=V-p*p/\
   0<=sh/\sh<18446744073709551616/\0<=sl/\sl<18446744073709551616/\sh*18446744073709551616+sl=p*2^t/\d=(2*(t:Int)-2,(rh,rl),sh,sl)) ?_ 2000 64 _ (by omega)
  ⟨0,0,h,l,0,0,by omega,by omega,by omega,by omega,by
   have:(2:Int)^64=18446744073709551616:=rfl;omega,by omega,by omega,by omega,by omega,by omega,by omega,by omega,by omega,by omega,by omega,rfl⟩
 rintro t _ k ⟨p,c,rh,rl,sh,sl,t0,p0,pc,p1,p2,r0,r1,r2,r3,r4,s0,s1,s2,s3,s4,rfl⟩ hk
 rcases SQ t with z|z
 .subst z;have e1:(2:Int)^0=1:=rfl;rw[e1] at p2 s4
  have pq:p=q:=by
   have h1:p<q+1:=aGf p0 (by omega) (by omega);have h2:q<p+1:=aGf q0 (by omega) (by omega);omega
  subst pq;have g0:decide ((2:Int)*((0:Nat):Int)-2>=0)=false:=by decide
  simp only[Mi,Pg.pV,Pg.pW,Pg.sW,Pg.zd,Pg.pX,na,j8,g0,bx,aJq sh sl rh rl s2 s3 r2 r3,bC];rw[s4,r4,Int.mul_one];by_cases cc:p<V-p*p
  .rw[dR cc,bn];rw[if_pos cc] at hr;obtain⟨a,b,e2,a0,a1,b0,b1,e3⟩:=ahp sh sl 0 1 s0 s2 (by omega) (by omega) s3 (by omega) (by omega);rw[e2,bC,MU a b false a0 b0 b1,e3,hr];have e4:sh*18446744073709551616+sl+(0*18446744073709551616+1)=p+1:=by omega
   rw[e4];have az:a=0:=by omega
   have e5:b=p+1:=by omega
   simp only[yf,gq,e5];by_cases f:p+1<=9223372036854775807
   .rw[if_pos f,bC]
   .rw[if_neg f,bC]
  .rw[cC cc,bx];rw[if_neg cc] at hr;rw[MU sh sl false s0 s2 s3,s4,hr];have az:sh=0:=by omega
   have e5:sl=p:=by omega
   simp only[yf,gq,Int.mul_one,e5];by_cases f:p<=9223372036854775807
   .rw[if_pos f,bC]
   .rw[if_neg f,bC]
 .obtain⟨m,rfl⟩:∃m,t=m+1:=⟨t-1,by omega⟩;have P2:(2:Int)^(m+1)=2^m*2:=Int.pow_succ _ _;have PP:(2:Int)^(2*m)=2^m*2^m:=by rw[<-Int.pow_add];congr 1;omega
  have P0:=mS m;have PB:(2:Int)^m<=2^63:=amT (by omega);have PBv:(2:Int)^63=9223372036854775808:=rfl;have at0:(2:Int)*((m+1:Nat):Int)-2=ws (2*m):=by simp only[dQ];omega
  rw[at0];have g0:decide (ws (2*m)>=0)=true:=dR (by simp only[dQ];omega)
  have g1:IntKind.wrap .i64 (ws (2*m)-2)=2*(m:Int)-2:=by
   simp only[dQ];rw[wrap_i64 (by omega) (by omega)];omega
  simp only[Mi,Pg.pV,Pg.pW,Pg.sW,Pg.zd,Pg.pX,na,j8,g0,bn,aU4 (2*m) (by omega),bC,wI,g1];rw[PP];rw[P2] at pc p2 s4;generalize hP:(2:Int)^m=P at*
  have PPb:P*P<=85070591730234615865843651857942052864:=by
   have:=LH PB PB (by omega) (by omega);omega
  have PP0:0<P*P:=Int.mul_pos P0 P0
  have pb:p*P*2<=V:=by
   rcases Ke 0 c with k0|k0
   .have c1:1*(P*2)<=c*(P*2):=ZM (by omega) (by omega);have c2:p*(P*2)<=p*p:=Int.mul_le_mul_of_nonneg_left (by omega) p0;have c3:p*(P*2)=p*P*2:=by grind
    omega
   .have c1:c*(P*2)<=0*(P*2):=ZM k0 (by omega);have:p=0:=by omega
    subst this;omega
  have s4':sh*18446744073709551616+sl=p*P*2:=by rw[s4];grind
  obtain⟨a,b,e2,a0,a1,b0,b1,e3⟩:=ahp sh sl (P*P/18446744073709551616) (P*P%18446744073709551616) s0 s2 (by omega) (by omega) s3 (by omega) (by omega);have e3':a*18446744073709551616+b=p*P*2+P*P:=by omega
  obtain⟨u,v,e4,u0,v0,v1,e5⟩:=av3 sh sl 1 (by omega) s0 s1 s2 s3;have e4':jk sh sl 1=some (u,v):=e4
  have e5':u*18446744073709551616+v=p*P:=by
   rw[e5,s4'];show p*P*2/2^1=p*P;rw[show(2:Int)^1=2 from rfl];omega
  rw[e2,bC,e4',bC,aJq rh rl a b r2 r3 b0 b1,bC,e3',r4];have dd:p*p+(p*P*2+P*P)=(p+P)*(p+P):=by grind
  by_cases cc:V-p*p<p*P*2+P*P
  .rw[dR cc];simp only[HW,bx];refine hk m _ (by omega) ⟨p,c*2,rh,rl,u,v,by omega,p0,by rw[hP,pc];grind,p1,by rw[hP];omega,r0,r1,r2,r3,r4,u0,by omega,v0,v1,by rw[hP];exact e5',rfl⟩
  .rw[cC cc];simp only[Bool.not_false,bn];obtain⟨x,y,e6,x0,x1,y0,y1,e7⟩:=aR3 rh rl a b r0 r1 r2 r3 a0 a1 b0 b1 (by omega);obtain⟨w,z',e8,w0,w1,z0,z1,e9⟩:=ahp u v (P*P/18446744073709551616) (P*P%18446744073709551616) u0 v0 (by omega) (by omega) v1 (by omega) (by omega);rw[e6,bC,e8,bC];refine hk m _ (by omega) ⟨p+P,c*2+1,x,y,w,z',by omega,by omega,by rw[hP,pc];grind,by omega,?_,x0,x1,y0,y1,by omega,w0,w1,z0,z1,?_,rfl⟩
   .rw[hP];have:(p+P+P)*(p+P+P)=(p+P*2)*(p+P*2):=by grind
    omega
   .rw[hP];have:(p+P)*P=p*P+P*P:=by grind
    omega
theorem aR4 (h l:Int)(neg:Bool)(h0:0<=h)(h1:h<18446744073709551616)(l0:0<=l)(l1:l<18446744073709551616):
  ∃h' l' b,nN h l neg=some ((h',l'),b)/\okW h' l'/\(b=true↔if neg=true then h*18446744073709551616+l<=170141183460469231731687303715884105728 else h*18446744073709551616+l<170141183460469231731687303715884105728)/\
   (b=true->vW h' l'=if neg=true then -(h*18446744073709551616+l) else h*18446744073709551616+l):=by
 simp only[nN,L4,Pg.bP,Pg.bN,Pg.bZ,Pg.eD,Pg.dD];try delta wI wU
 unfold vW;cases neg
 .have hw:=Hc h;rw[FG h0 h1] at hw;generalize IntKind.wrap IntKind.i64 h=w at*
  refine⟨w,l,_,rfl,⟨?_,?_,l0,l1⟩,?_,?_⟩
  .split at hw<;>omega
  .split at hw<;>omega
  .rw[rN _ _ (by omega),beq_iff_eq,if_neg (by decide)];constructor<;>intro _<;>omega
  .rw[rN _ _ (by omega),beq_iff_eq,if_neg (by decide)];intro _;split at hw<;>omega
 .simp only[HW,bx,aet l l0 l1,wrap_u64,aet h h0 h1];rw[O7 _ _ _ (by omega) (by omega) (by omega) (by omega)];simp only[bC,lK];generalize hm:((18446744073709551615-h)%18446744073709551616+((18446744073709551615-l)%18446744073709551616+1+0)/18446744073709551616)%18446744073709551616=m
  have hw:=Hc m;generalize IntKind.wrap IntKind.i64 m=w at*
  have m0:0<=m/\m<18446744073709551616:=by omega
  rw[FG m0.1 m0.2] at hw;have w0: -9223372036854775808<=w/\w<=9223372036854775807:=by split at hw<;>omega
  have wm:(w<0/\w=m-18446744073709551616)∨(0<=w/\w=m):=by split at hw<;>omega
  clear hw
  by_cases c:w<0
  .rw[dR c,bn];refine⟨_,_,_,rfl,⟨w0.1,w0.2,by omega,by omega⟩,?_,?_⟩
   .simp only[true_iff];omega
   .intro _;omega
  .rw[cC c,bx];refine⟨_,_,_,rfl,⟨w0.1,w0.2,by omega,by omega⟩,?_,?_⟩
   .simp only[cL,beq_iff_eq,CC];constructor<;>intro _<;>omega
   .simp only[cL,beq_iff_eq,CC];intro _;omega
theorem aZ1 (d:Int)(s:Nat)(hs:s<=127)(d0:0<=d)(d1:d<18446744073709551616):
  ∃h' l',gU 0 d (ws s)=some (h',l')/\0<=h'/\h'<18446744073709551616/\0<=l'/\l'<18446744073709551616/\h'*18446744073709551616+l'=d*2^s%340282366920938463463374607431768211456:=by
 simp only[gU,S7,Pg.bP,Pg.bN,Pg.bZ,Pg.eD,Pg.dD];try delta wI wU
 by_cases c:64<=s
 .have e:decide (ws s>=64)=true:=by simp only[dQ];exact dR (by omega)
  have e2:IntKind.wrap .i64 (ws s-64)=ws (s-64):=(wrap_i64 (by simp only[dQ];omega) (by simp only[dQ];omega)).trans (by simp only[dQ];omega);have e3:(!decide (ws (s-64)<0))=true:=by simp
  have e4:min (z4 (ws (s-64))) 64=s-64:=by
   show min (s-64) 64=s-64;omega
  simp only[e,e2,e3,e4,bn,wrap_u64];refine⟨_,_,rfl,by omega,by omega,by omega,by omega,?_⟩
  have p:(2:Int)^s=2^(s-64)*18446744073709551616:=by
   rw[show(18446744073709551616:Int)=2^64 from rfl,<-Int.pow_add];congr 1;omega
  rw[p,<-akQ];generalize d*2^(s-64)=x
  omega
 .have e:decide (ws s>=64)=false:=by simp only[dQ];exact cC (by omega)
  have e2:IntKind.wrap .i64 (64-ws s)=ws (64-s):=(wrap_i64 (by simp only[dQ];omega) (by simp only[dQ];omega)).trans (by simp only[dQ];omega);have e3:∀n,(!decide (ws n<0))=true:=by simp
  have e4:min (z4 (ws (64-s))) 64=64-s:=by
   show min (64-s) 64=64-s;omega
  have e5:min (z4 (ws s)) 64=s:=by
   show min s 64=s;omega
  simp only[e,e2,e3,e4,e5,bn,bx,wrap_u64,afY];rw[rN _ _ (pS (mS _))]
  have pq:(18446744073709551616:Int)=2^s*2^(64-s):=by
   rw[<-Int.pow_add,show s+(64-s)=64 by omega];rfl
  have P0:=mS s;have Q0:=mS (64-s);have x0:0<=d/2^(64-s):=Ez d0 (pS Q0);have x1:d/2^(64-s)<2^s:=abK Q0 (by rw[<-pq];exact d1);have x2:d/2^(64-s)<=d:=axL _ d0;have z0:(0:Int)%18446744073709551616=0:=rfl;rw[z0]
  have key:ws (wd (wn 64 0|||wn 64 (d/2^(64-s))))=d/2^(64-s):=by
   rw[ayC 0 (d/2^(64-s)) 0 (by omega) (by decide) x0 (by omega) (by omega) (by rw[show(2:Int)^0=1 from rfl,Int.emod_one])];omega
  rw[key];refine⟨_,_,rfl,by omega,by omega,by omega,by omega,?_⟩
  have m1:d*2^s/18446744073709551616=d/2^(64-s):=by
   rw[pq,yg d,Int.mul_ediv_mul_of_pos _ _ P0]
  have b1:d*2^s<340282366920938463463374607431768211456:=by
   have:=Int.mul_lt_mul_of_pos_right d1 P0;have q:(2:Int)^s<=2^64:=amT (by omega);have q2:(2:Int)^64=18446744073709551616:=rfl;have q3:18446744073709551616*2^s<=(18446744073709551616:Int)*18446744073709551616:=Int.mul_le_mul_of_nonneg_left (by omega) (by omega);have q4:(18446744073709551616:Int)*18446744073709551616=340282366920938463463374607431768211456:=by decide
   omega
  have b0:0<=d*2^s:=Aq d0 (pS P0);rw[FG b0 b1];have x3:d/2^(64-s)%18446744073709551616=d/2^(64-s):=FG x0 (by omega);rw[x3,<-m1];omega
theorem amU (a:Int)(s:Nat)(hs:s<=127)(a0: -9223372036854775808<=a)(a1:a<=9223372036854775807):
  ∃h l b,vZ a (ws s)=some ((h,l),b)/\okW h l/\(b=true↔ -170141183460469231731687303715884105728<=a*2^s/\a*2^s<170141183460469231731687303715884105728)/\(b=true->vW h l=a*2^s)/\(b=false->h=0/\l=0):=by
 simp only[vZ,aca,Pg.bP,Pg.bN,Pg.bZ,Pg.eD,Pg.dD];try delta wI wU
 have n0:decide (ws s<0)=false:=by simp
 have n1:decide (ws s>127)=false:=by simp only[dQ];exact cC (by omega)
 rw[n0,bx,n1,bx,ao0 a a0 a1,bC];generalize hd:(if a<0 then -a else a)=d
 have d0:0<=d/\d<=9223372036854775808:=by split at hd<;>omega
 obtain⟨u,v,e1,u0,u1,v0,v1,e2⟩:=aZ1 d s hs d0.1 (by omega);rw[e1,bC];simp only;have P0:=mS s;have D0:0<=d*2^s:=Aq d0.1 (pS P0)
 have sg:(a<0->a*2^s= -(d*2^s))/\(¬a<0->a*2^s=d*2^s):=by
  constructor<;>intro h
  .rw[if_pos h] at hd;rw[<-hd,Int.neg_mul,Int.neg_neg]
  .rw[if_neg h] at hd;rw[hd]
 have a4L:∀{b:Bool},b=false->¬d*2^s<340282366920938463463374607431768211456->(b=true↔ -170141183460469231731687303715884105728<=a*2^s/\a*2^s<170141183460469231731687303715884105728):=by
  intro b hb hn;rw[hb];refine iff_of_false Bool.false_ne_true λh=> ?_;by_cases n:a<0
  .have:=sg.1 n;omega
  .have:=sg.2 n;omega
 have fin:d*2^s<340282366920938463463374607431768211456->∃h l b,(Option.bind (nN u v (decide (a<0))) λ(d:Wu)=>bif !d.2 then some (((0,0),false):(Int×Int)×Bool) else some (d.1,true))=some ((h,l),b)/\okW h l/\(b=true↔ -170141183460469231731687303715884105728<=a*2^s/\a*2^s<170141183460469231731687303715884105728)/\(b=true->vW h l=a*2^s)/\(b=false->h=0/\l=0):=by
  intro lt;rw[FG D0 lt] at e2;obtain⟨h',l',b,e3,o3,f3,v3⟩:=aR4 u v (decide (a<0)) u0 u1 v0 v1;rw[e3,bC];rw[e2] at f3 v3;by_cases n:a<0
  .have q:=sg.1 n;rw[dR n,if_pos rfl] at f3 v3;cases b with
   |false=>
    refine⟨0,0,false,rfl,⟨by omega,by omega,by omega,by omega⟩,?_,(λh=>by cases h),(λ_=>⟨rfl,rfl⟩)⟩;rw[f3];omega
   |true=>
    refine⟨h',l',true,rfl,o3,?_,(λ_=> ?_),(λh=>by cases h)⟩
    .rw[f3];omega
    .rw[v3 rfl];omega
  .have q:=sg.2 n;rw[cC n,if_neg (by decide)] at f3 v3;cases b with
   |false=>
    refine⟨0,0,false,rfl,⟨by omega,by omega,by omega,by omega⟩,?_,(λh=>by cases h),(λ_=>⟨rfl,rfl⟩)⟩;rw[f3];omega
   |true=>
    refine⟨h',l',true,rfl,o3,?_,(λ_=> ?_),(λh=>by cases h)⟩
    .rw[f3];omega
    .rw[v3 rfl];omega
 have shr:∃x y,jk u v (ws s)=some (x,y)/\0<=x/\0<=y/\y<18446744073709551616/\x*18446744073709551616+y=(u*18446744073709551616+v)/2^s:=by
  rcases mO s 127 with c|c
  .exact av3 u v s (by omega) u0 u1 v0 v1
  .obtain rfl:s=127:=by omega
   refine⟨0,u/9223372036854775808,?_,by omega,by omega,by omega,?_⟩
   .simp only[jk,Jm,Pg.bP,Pg.bN,Pg.bZ,Pg.eD,Pg.dD];try delta wI wU
    have k1:decide (ws 127>=64)=true:=by decide
    have k2:(!decide (IntKind.wrap .i64 (ws 127-64)<0))=true:=by decide
    have k3:(2:Int)^min (z4 (IntKind.wrap .i64 (ws 127-64))) 64=9223372036854775808:=by decide
    simp only[k1,k2,k3,bn];rw[rN _ _ (by omega)]
   .have k:(2:Int)^127=170141183460469231731687303715884105728:=by decide
    rw[k];omega
 obtain⟨x,y,e3,x0,y0,y1,e4⟩:=shr;rw[e3,bC];simp only;rw[e2] at e4;by_cases lt:d*2^s<340282366920938463463374607431768211456
 .rw[FG D0 lt,Int.mul_ediv_cancel _ (by omega)] at e4;have xe:(x==0)=true:=by rw[beq_iff_eq];omega
  have ye:(y==d)=true:=by rw[beq_iff_eq];omega
  rw[xe,ye];exact fin lt
 .have small:d*2^s%340282366920938463463374607431768211456/2^s<d:=by
   refine abK P0 ?_;have:d*2^s%340282366920938463463374607431768211456<340282366920938463463374607431768211456:=SP _ (by omega);omega
  have ne:(x==0&&(y==d&&true))=false:=by
   rw[Bool.and_true];by_cases xz:x=0
   .have:(y==d)=false:=by rw[afU];omega
    rw[this,Bool.and_false]
   .have:(x==0)=false:=by rw[afU];omega
    rw[this,Bool.false_and]
  rw[ne];exact⟨0,0,false,rfl,⟨by omega,by omega,by omega,by omega⟩,a4L rfl lt,(λh=>by cases h),(λ_=>⟨rfl,rfl⟩)⟩
theorem Rx (x:Int)(h0:1<=x)(h1:x<256):∃n:Nat,1<=n/\n<=8/\(2:Int)^(n-1)<=x/\x<2^n/\aZ (IntKind.wrap .u8 x) 256=true/\IntKind.wrap .i64 (EU (ByteArray.mk (List.toArray (v6 (v6 [0,1,2,2,3,3,3,3,4,4,4,4,4,4,4,4,5,5,5,5,5,5,5,5,5,5,5,5,5,5,5,5,6,6,6,6,6,6,6,6,6,6,6,6,6,6,6,6,6,6,6,6,6,6,6,6,6,6,6,6,6,6,6,6] [7,7,7,7,7,7,7,7,7,7,7,7,7,7,7,7,7,7,7,7,7,7,7,7,7,7,7,7,7,7,7,7,7,7,7,7,7,7,7,7,7,7,7,7,7,7,7,7,7,7,7,7,7,7,7,7,7,7,7,7,7,7,7,7]) (v6 [8,8,8,8,8,8,8,8,8,8,8,8,8,8,8,8,8,8,8,8,8,8,8,8,8,8,8,8,8,8,8,8,8,8,8,8,8,8,8,8,8,8,8,8,8,8,8,8,8,8,8,8,8,8,8,8,8,8,8,8,8,8,8,8] [8,8,8,8,8,8,8,8,8,8,8,8,8,8,8,8,8,8,8,8,8,8,8,8,8,8,8,8,8,8,8,8,8,8,8,8,8,8,8,8,8,8,8,8,8,8,8,8,8,8,8,8,8,8,8,8,8,8,8,8,8,8,8,8])))) (z4 (IntKind.wrap IntKind.u8 x)))=(n:Int):=by
 obtain⟨a,rfl⟩:∃a:Nat,x=(a:Int):=⟨x.toNat,by omega⟩;have t:∀a:Fin 256,1<=a.val->(aZ (IntKind.wrap .u8 (a.val:Int)) 256=true/\IntKind.wrap .i64 (EU (ByteArray.mk (List.toArray (v6 (v6 [0,1,2,2,3,3,3,3,4,4,4,4,4,4,4,4,5,5,5,5,5,5,5,5,5,5,5,5,5,5,5,5,6,6,6,6,6,6,6,6,6,6,6,6,6,6,6,6,6,6,6,6,6,6,6,6,6,6,6,6,6,6,6,6] [7,7,7,7,7,7,7,7,7,7,7,7,7,7,7,7,7,7,7,7,7,7,7,7,7,7,7,7,7,7,7,7,7,7,7,7,7,7,7,7,7,7,7,7,7,7,7,7,7,7,7,7,7,7,7,7,7,7,7,7,7,7,7,7]) (v6 [8,8,8,8,8,8,8,8,8,8,8,8,8,8,8,8,8,8,8,8,8,8,8,8,8,8,8,8,8,8,8,8,8,8,8,8,8,8,8,8,8,8,8,8,8,8,8,8,8,8,8,8,8,8,8,8,8,8,8,8,8,8,8,8] [8,8,8,8,8,8,8,8,8,8,8,8,8,8,8,8,8,8,8,8,8,8,8,8,8,8,8,8,8,8,8,8,8,8,8,8,8,8,8,8,8,8,8,8,8,8,8,8,8,8,8,8,8,8,8,8,8,8,8,8,8,8,8,8])))) (z4 (IntKind.wrap IntKind.u8 (a.val:Int))))=((Nat.log2 a.val+1:Nat):Int)):=by decide+kernel
 have ha:1<=a:=by omega
 have a6z:a<256:=by omega
 have l1:=Nat.log2_self_le (n:=a) (by omega);have l2:a<2^(a.log2+1):=Nat.lt_log2_self
 have lb:a.log2<8:=by
  rcases mO a.log2 8 with c|c
  .exact c
  .have:2^8<=2^a.log2:=Nat.pow_le_pow_right (by decide) c;omega
 have k:=t ⟨a,a6z⟩ ha;refine⟨a.log2+1,by omega,by omega,?_,?_,k.1,k.2⟩
 .rw[Nat.add_sub_cancel];have:((2^a.log2:Nat):Int)=(2:Int)^a.log2:=by simp
  omega
 .have:((2^(a.log2+1):Nat):Int)=(2:Int)^(a.log2+1):=by simp
  omega
theorem pow_add' (a b:Nat):(2:Int)^(a+b)=2^a*2^b:=Int.pow_add _ _ _
theorem F8 (x:Int)(b n:Nat)(hn:1<=n)(h0:(2:Int)^(n-1)<=x/2^b)(h1:x/2^b<2^n):(2:Int)^(n+b-1)<=x/\x<2^(n+b):=by
 have B0:=mS b;have e1:(2:Int)^(n+b-1)=2^(n-1)*2^b:=by rw[<-pow_add'];congr 1;omega
 have e2:(2:Int)^(n+b)=2^n*2^b:=pow_add' _ _;rw[e1,e2];exact⟨Int.mul_le_of_le_ediv B0 h0,Int.lt_mul_of_ediv_lt B0 h1⟩
theorem a1T (x:Int)(h0:1<=x)(h1:x<18446744073709551616):∃n:Nat,1<=n/\n<=64/\(2:Int)^(n-1)<=x/\x<2^n/\IC x=some (n:Int):=by
 have f1:∀a:Int,v9 a 256=a/256:=λa=>rN _ _ (by omega)
 have f2:∀a:Int,v9 a 65536=a/65536:=λa=>rN _ _ (by omega)
 have f3:∀a:Int,v9 a 4294967296=a/4294967296:=λa=>rN _ _ (by omega)
 simp only[IC,ab5,Pg.bP,Pg.bN,Pg.bZ,Pg.eD,Pg.dD,f1,f2,f3];try delta wI wU
 by_cases c:x>=4294967296
 .by_cases d:x/4294967296>=65536
  .by_cases e:x/4294967296/65536>=256
   .have q:x/4294967296/65536/256=x/2^56:=by rw[show(2:Int)^56=72057594037927936 from rfl]<;>omega
    obtain⟨n,n1,n2,b0,b1,t1,t2⟩:=Rx (x/4294967296/65536/256) (by omega) (by omega);rw[q] at b0 b1;obtain⟨c0,c1⟩:=F8 x 56 n n1 b0 b1;refine⟨n+56,by omega,by omega,c0,c1,?_⟩;rw[dR c,bn,dR d,bn,dR e,bn,t1,bn,t2,wrap_i64 (n:=56+(n:Int)) (by omega) (by omega)];exact eC (some:Int->Option Int) (by omega)
   .have q:x/4294967296/65536=x/2^48:=by rw[show(2:Int)^48=281474976710656 from rfl]<;>omega
    obtain⟨n,n1,n2,b0,b1,t1,t2⟩:=Rx (x/4294967296/65536) (by omega) (by omega);rw[q] at b0 b1;obtain⟨c0,c1⟩:=F8 x 48 n n1 b0 b1;refine⟨n+48,by omega,by omega,c0,c1,?_⟩;rw[dR c,bn,dR d,bn,cC e,bx,t1,bn,t2,wrap_i64 (n:=48+(n:Int)) (by omega) (by omega)];exact eC (some:Int->Option Int) (by omega)
  .by_cases e:x/4294967296>=256
   .have q:x/4294967296/256=x/2^40:=by rw[show(2:Int)^40=1099511627776 from rfl]<;>omega
    obtain⟨n,n1,n2,b0,b1,t1,t2⟩:=Rx (x/4294967296/256) (by omega) (by omega);rw[q] at b0 b1;obtain⟨c0,c1⟩:=F8 x 40 n n1 b0 b1;refine⟨n+40,by omega,by omega,c0,c1,?_⟩;rw[dR c,bn,cC d,bx,dR e,bn,t1,bn,t2,wrap_i64 (n:=40+(n:Int)) (by omega) (by omega)];exact eC (some:Int->Option Int) (by omega)
   .have q:x/4294967296=x/2^32:=by rw[show(2:Int)^32=4294967296 from rfl]<;>omega
    obtain⟨n,n1,n2,b0,b1,t1,t2⟩:=Rx (x/4294967296) (by omega) (by omega);rw[q] at b0 b1;obtain⟨c0,c1⟩:=F8 x 32 n n1 b0 b1;refine⟨n+32,by omega,by omega,c0,c1,?_⟩;rw[dR c,bn,cC d,bx,cC e,bx,t1,bn,t2,wrap_i64 (n:=32+(n:Int)) (by omega) (by omega)];exact eC (some:Int->Option Int) (by omega)
 .by_cases d:x>=65536
  .by_cases e:x/65536>=256
   .have q:x/65536/256=x/2^24:=by rw[show(2:Int)^24=16777216 from rfl]<;>omega
    obtain⟨n,n1,n2,b0,b1,t1,t2⟩:=Rx (x/65536/256) (by omega) (by omega);rw[q] at b0 b1;obtain⟨c0,c1⟩:=F8 x 24 n n1 b0 b1;refine⟨n+24,by omega,by omega,c0,c1,?_⟩;rw[cC c,bx,dR d,bn,dR e,bn,t1,bn,t2,wrap_i64 (n:=24+(n:Int)) (by omega) (by omega)];exact eC (some:Int->Option Int) (by omega)
   .have q:x/65536=x/2^16:=by rw[show(2:Int)^16=65536 from rfl]<;>omega
    obtain⟨n,n1,n2,b0,b1,t1,t2⟩:=Rx (x/65536) (by omega) (by omega);rw[q] at b0 b1;obtain⟨c0,c1⟩:=F8 x 16 n n1 b0 b1;refine⟨n+16,by omega,by omega,c0,c1,?_⟩;rw[cC c,bx,dR d,bn,cC e,bx,t1,bn,t2,wrap_i64 (n:=16+(n:Int)) (by omega) (by omega)];exact eC (some:Int->Option Int) (by omega)
  .by_cases e:x>=256
   .have q:x/256=x/2^8:=by rw[show(2:Int)^8=256 from rfl]<;>omega
    obtain⟨n,n1,n2,b0,b1,t1,t2⟩:=Rx (x/256) (by omega) (by omega);rw[q] at b0 b1;obtain⟨c0,c1⟩:=F8 x 8 n n1 b0 b1;refine⟨n+8,by omega,by omega,c0,c1,?_⟩;rw[cC c,bx,cC d,bx,dR e,bn,t1,bn,t2,wrap_i64 (n:=8+(n:Int)) (by omega) (by omega)];exact eC (some:Int->Option Int) (by omega)
   .have q:x=x/2^0:=by rw[show(2:Int)^0=1 from rfl]<;>omega
    obtain⟨n,n1,n2,b0,b1,t1,t2⟩:=Rx (x) (by omega) (by omega);rw[q] at b0 b1;obtain⟨c0,c1⟩:=F8 x 0 n n1 b0 b1;refine⟨n+0,by omega,by omega,c0,c1,?_⟩;rw[cC c,bx,cC d,bx,cC e,bx,t1,bn,t2,wrap_i64 (n:=0+(n:Int)) (by omega) (by omega)];exact eC (some:Int->Option Int) (by omega)
theorem aZ2 (x:Int)(h0:1<=x)(h1:x<18446744073709551616):∃s:Nat,s<=63/\9223372036854775808<=x*2^s/\x*2^s<18446744073709551616/\pZ x=some (s:Int):=by
 obtain⟨n,n1,n2,b0,b1,e⟩:=a1T x h0 h1;refine⟨64-n,by omega,?_,?_,?_⟩
 .have p:(9223372036854775808:Int)=2^(n-1)*2^(64-n):=by
   rw[<-pow_add',show n-1+(64-n)=63 by omega];rfl
  rw[p];exact ZM b0 (pS (mS _))
 .have p:(18446744073709551616:Int)=2^n*2^(64-n):=by
   rw[<-pow_add',show n+(64-n)=64 by omega];rfl
  rw[p];exact Int.mul_lt_mul_of_pos_right b1 (mS _)
 .simp only[pZ,CF,Pg.bP,Pg.bN,Pg.bZ,Pg.eD,Pg.dD];try delta wI wU
  rw[e,bC,wrap_i64 (by omega) (by omega)];exact eC (some:Int->Option Int) (by omega)
structure Dig (Y hI zG U u:Int):Prop where
 y:Y=hI*4294967296+zG
 a:2147483648<=hI/\hI<4294967296
 b:0<=zG/\zG<4294967296
 u0:0<=U/\U<Y
 d:0<=u/\u<4294967296
theorem Dig.lt {Y hI zG U u:Int}(h:Dig Y hI zG U u):0<=(U*4294967296+u)/Y/\(U*4294967296+u)/Y<4294967296:=by
 obtain⟨y,a,b,u0,d⟩:=h;constructor
 .exact Ez (by omega) (by omega)
 .refine abK (by omega) ?_;omega
theorem Dig.down {Y hI zG U u q rh:Int}(h:Dig Y hI zG U u)(e:q*hI+rh=U)(c:4294967296*rh+u<q*zG):(U*4294967296+u)/Y<=q-1:=by
 obtain⟨y,a,b,u0,d⟩:=h
 have:(U*4294967296+u)/Y<q:=by
  refine abK (by omega) ?_;have e2:q*Y=(q*hI)*4294967296+q*zG:=by rw[y];grind
  omega
 omega
theorem Dig.stay {Y hI zG U u q rh:Int}(h:Dig Y hI zG U u)(e:q*hI+rh=U)(c:q*zG<=4294967296*rh+u)(l:(U*4294967296+u)/Y<=q):q=(U*4294967296+u)/Y:=by
 obtain⟨y,a,b,u0,d⟩:=h
 have:q<=(U*4294967296+u)/Y:=by
  refine(Int.le_ediv_iff_mul_le (by omega)).2 ?_;have e2:q*Y=(q*hI)*4294967296+q*zG:=by rw[y];grind
  omega
 omega
theorem Dig.out {Y hI zG U u q rh:Int}(h:Dig Y hI zG U u)(e:q*hI+rh=U)(q0:0<=q)(c:4294967296<=rh)(l:(U*4294967296+u)/Y<=q):q=(U*4294967296+u)/Y:=by
 have h':=h;obtain⟨y,a,b,u0,d⟩:=h;refine h'.stay e ?_ l
 have q1:q<=4294967295:=by
  rcases Ke q 4294967296 with k|k
  .omega
  .exfalso
   have:=ZM k (show 0<=hI by omega);omega
 have:=LH q1 (show zG<=4294967295 by omega) b.1 (by omega);omega
theorem a1U {ρ:Type}(Y s hI zG U u u0:Int)(h:Dig Y hI zG U u)(k:_->Option ρ)(r:Option ρ)
  (h1:∀rh a b c d,k (Sum.inl (Y,s,hI,zG,U,u,u0,(U*4294967296+u)/Y,rh,a,b,c,d))=r)
  (h2:∀rh a b c d e f g i,k (Sum.inr (Sum.inl (Y,s,hI,zG,U,u,u0,(U*4294967296+u)/Y,rh,a,b,c,d,e,f,g,i)))=r)
  (h3:∀rh a b c d e,k (Sum.inr (Sum.inr (Y,s,hI,zG,U,u,u0,(U*4294967296+u)/Y,rh,a,b,c,d,e)))=r):
  (Jr (Y,s,hI,zG,U,u,u0,U/hI,U%hI)).bind k=r:=by
 have h':=h;obtain⟨y,a,b,hu,d⟩:=h;have lt:=h'.lt;have qm:=asH U hI;have m0:=Wd U (show hI≠0 by omega);have m1:=SP U (show 0<hI by omega);have qn:=Ez hu.1 (show 0<=hI by omega)
 have start:(U*4294967296+u)/Y<=U/hI:=by
  have e2:(U*4294967296+u)/Y<U/hI+1:=by
   refine abK (by omega) ?_;have e3:(U/hI+1)*Y=(hI*(U/hI))*4294967296+hI*4294967296+(U/hI+1)*zG:=by rw[y];grind
   have:=Aq (show 0<=U/hI+1 by omega) b.1;omega
  omega
 unfold Jr
 refine FL (λt x=>∃(q rh:Int),0<=q/\q*hI+rh=U/\(U*4294967296+u)/Y<=q/\(2-(t:Int))*2147483648<=rh/\0<=rh/\rh<4294967296/\x=(Y,s,hI,zG,U,u,u0,q,rh)) ?_ 2000 2 _ (by omega)
  ⟨U/hI,U%hI,qn,by rw[yg];exact qm,start,by omega,m0,by omega,rfl⟩
 rintro t _ c ⟨q,rh,q0,e,l,tb,r0,r1,rfl⟩ hc
 have down:(U*4294967296+u)/Y<=q-1->0<=q-1->(q-1)*hI+(rh+hI)=U:=λ_ _=>by
  have:(q-1)*hI=q*hI-hI:=by grind
  omega
 have qb:q<=4294967298:=by
  rcases Ke q 4294967298 with k|k
  .omega
  .exfalso
   have:=ZM k (show 0<=hI by omega);omega
 have w1:IntKind.wrap .u64 (rh+hI)=rh+hI:=by rw[wrap_u64];omega
 by_cases c1:q>=4294967296
 .have d1:(U*4294967296+u)/Y<=q-1:=by omega
  have w2:IntKind.wrap .u64 (q-1)=q-1:=by rw[wrap_u64];omega
  have e2:=down d1 (by omega);simp only[Jq,Pg.pV,Pg.pW,Pg.sW,Pg.zd,Pg.pX,na,j8,wU,dR c1,bn,w1,w2];by_cases c2:rh+hI>=4294967296
  .rw[dR c2,bn,h'.out e2 (by omega) c2 d1];exact h1 _ _ _ _ _
  .rw[cC c2,bx];have t1:1<=t:=by omega
   exact hc (t-1) _ (by omega) ⟨q-1,rh+hI,by omega,e2,d1,by omega,by omega,by omega,rfl⟩
 .have pm:0<=q*zG/\q*zG<18446744073709551616:=by
   refine⟨Aq q0 b.1,?_⟩;have:=LH (show q<=4294967295 by omega) (show zG<=4294967295 by omega) b.1 (by omega);omega
  have w3:IntKind.wrap .u64 (q*zG)=q*zG:=by rw[wrap_u64];omega
  have w4:IntKind.wrap .u64 (4294967296*rh)=4294967296*rh:=by rw[wrap_u64];omega
  have w5:IntKind.wrap .u64 (4294967296*rh+u)=4294967296*rh+u:=by rw[wrap_u64];omega
  simp only[Jq,Pg.pV,Pg.pW,Pg.sW,Pg.zd,Pg.pX,na,j8,wU,cC c1,bx,w1,w3,w4,w5];by_cases c3:q*zG>4294967296*rh+u
  .have d1:=h'.down e c3
   have qp:1<=q:=by
    rcases Ke 0 q with k|k
    .omega
    .exfalso
     have:q=0:=by omega
     subst this;omega
   have w2:IntKind.wrap .u64 (q-1)=q-1:=by rw[wrap_u64];omega
   have e2:=down d1 (by omega);rw[dR c3,bn,w2];by_cases c2:rh+hI>=4294967296
   .rw[dR c2,bn,h'.out e2 (by omega) c2 d1];exact h2 _ _ _ _ _ _ _ _ _
   .rw[cC c2,bx];exact hc (t-1) _ (by omega) ⟨q-1,rh+hI,by omega,e2,d1,by omega,by omega,by omega,rfl⟩
  .rw[cC c3,bx,h'.stay e (by omega) l];exact h3 _ _ _ _ _ _
theorem a1V {ρ:Type}(Y s hI zG U u q1:Int)(h:Dig Y hI zG U u)(k:_->Option ρ)(r:Option ρ)
  (h1:∀rh a b c d,k (Sum.inl (Y,s,hI,zG,u,q1,rh,U,(U*4294967296+u)/Y,a,b,c,d))=r)
  (h2:∀rh a b c d e f g i,k (Sum.inr (Sum.inl (Y,s,hI,zG,u,q1,rh,U,(U*4294967296+u)/Y,a,b,c,d,e,f,g,i)))=r)
  (h3:∀rh a b c d e,k (Sum.inr (Sum.inr (Y,s,hI,zG,u,q1,rh,U,(U*4294967296+u)/Y,a,b,c,d,e)))=r):
  (Ju (Y,s,hI,zG,u,q1,U%hI,U,U/hI)).bind k=r:=by
 have h':=h;obtain⟨y,a,b,hu,d⟩:=h;have lt:=h'.lt;have qm:=asH U hI;have m0:=Wd U (show hI≠0 by omega);have m1:=SP U (show 0<hI by omega);have qn:=Ez hu.1 (show 0<=hI by omega)
 have start:(U*4294967296+u)/Y<=U/hI:=by
  have e2:(U*4294967296+u)/Y<U/hI+1:=by
   refine abK (by omega) ?_;have e3:(U/hI+1)*Y=(hI*(U/hI))*4294967296+hI*4294967296+(U/hI+1)*zG:=by rw[y];grind
   have:=Aq (show 0<=U/hI+1 by omega) b.1;omega
  omega
 unfold Ju
 refine FL (λt x=>∃(q rh:Int),0<=q/\q*hI+rh=U/\(U*4294967296+u)/Y<=q/\(2-(t:Int))*2147483648<=rh/\0<=rh/\rh<4294967296/\x=(Y,s,hI,zG,u,q1,rh,U,q)) ?_ 2000 2 _ (by omega)
  ⟨U/hI,U%hI,qn,by rw[yg];exact qm,start,by omega,m0,by omega,rfl⟩
 rintro t _ c ⟨q,rh,q0,e,l,tb,r0,r1,rfl⟩ hc
 have down:(U*4294967296+u)/Y<=q-1->0<=q-1->(q-1)*hI+(rh+hI)=U:=λ_ _=>by
  have:(q-1)*hI=q*hI-hI:=by grind
  omega
 have qb:q<=4294967298:=by
  rcases Ke q 4294967298 with k|k
  .omega
  .exfalso
   have:=ZM k (show 0<=hI by omega);omega
 have w1:IntKind.wrap .u64 (rh+hI)=rh+hI:=by rw[wrap_u64];omega
 by_cases c1:q>=4294967296
 .have d1:(U*4294967296+u)/Y<=q-1:=by omega
  have w2:IntKind.wrap .u64 (q-1)=q-1:=by rw[wrap_u64];omega
  have e2:=down d1 (by omega);simp only[Jt,Pg.pV,Pg.pW,Pg.sW,Pg.zd,Pg.pX,na,j8,wU,dR c1,bn,w1,w2];by_cases c2:rh+hI>=4294967296
  .rw[dR c2,bn,h'.out e2 (by omega) c2 d1];exact h1 _ _ _ _ _
  .rw[cC c2,bx];have t1:1<=t:=by omega
   exact hc (t-1) _ (by omega) ⟨q-1,rh+hI,by omega,e2,d1,by omega,by omega,by omega,rfl⟩
 .have pm:0<=q*zG/\q*zG<18446744073709551616:=by
   refine⟨Aq q0 b.1,?_⟩;have:=LH (show q<=4294967295 by omega) (show zG<=4294967295 by omega) b.1 (by omega);omega
  have w3:IntKind.wrap .u64 (q*zG)=q*zG:=by rw[wrap_u64];omega
  have w4:IntKind.wrap .u64 (4294967296*rh)=4294967296*rh:=by rw[wrap_u64];omega
  have w5:IntKind.wrap .u64 (4294967296*rh+u)=4294967296*rh+u:=by rw[wrap_u64];omega
  simp only[Jt,Pg.pV,Pg.pW,Pg.sW,Pg.zd,Pg.pX,na,j8,wU,cC c1,bx,w1,w3,w4,w5];by_cases c3:q*zG>4294967296*rh+u
  .have d1:=h'.down e c3
   have qp:1<=q:=by
    rcases Ke 0 q with k|k
    .omega
    .exfalso
     have:q=0:=by omega
     subst this;omega
   have w2:IntKind.wrap .u64 (q-1)=q-1:=by rw[wrap_u64];omega
   have e2:=down d1 (by omega);rw[dR c3,bn,w2];by_cases c2:rh+hI>=4294967296
   .rw[dR c2,bn,h'.out e2 (by omega) c2 d1];exact h2 _ _ _ _ _ _ _ _ _
   .rw[cC c2,bx];exact hc (t-1) _ (by omega) ⟨q-1,rh+hI,by omega,e2,d1,by omega,by omega,by omega,rfl⟩
  .rw[cC c3,bx,h'.stay e (by omega) l];exact h3 _ _ _ _ _ _
theorem aU5 (hi lo y:Int)(h0:0<=hi)(h1:hi<y)(h2:y<18446744073709551616)(l0:0<=lo)(l1:lo<18446744073709551616):
  ID hi lo y=some ((hi*18446744073709551616+lo)/y,(hi*18446744073709551616+lo)%y):=by
 simp only[ID,ab6,Pg.bP,Pg.bN,Pg.bZ,Pg.eD,Pg.dD];try delta wI wU
 have y0:(y==0)=false:=by rw[afU];omega
 rw[y0,bx,cC (show ¬y<=hi by omega),bx];by_cases hz:hi=0
 .subst hz;have z:((0:Int)==0)=true:=rfl;have yn:(!decide (y=0))=true:=by rw[cC (by omega)];rfl
  rw[z,bn,yn,bn,bn,afY,akR,azD l0,Int.tmod_eq_emod_of_nonneg l0];have d0:=Ez l0 (show 0<=y by omega);have d1:=axL y l0;have w:IntKind.wrap .u64 (lo/y)=lo/y:=by rw[wrap_u64];omega
  rw[w]
 have z:(hi==0)=false:=by rw[afU];exact hz
 rw[z,bx];obtain⟨s,s63,b0,b1,e⟩:=aZ2 y (by omega) h2;rw[e,bC];have P0:=mS s;have Q0:=mS (64-s);have k1:IntKind.wrap .u64 (s:Int)=(s:Int):=by rw[wrap_u64];omega
 have k2:IntKind.wrap .u64 (64-(s:Int))=((64-s:Nat):Int):=by rw[wrap_u64];omega
 have k3:∀n:Nat,(!decide ((n:Int)<0))=true:=λn=>by rw[cC (by omega)];rfl
 have k4:min (z4 (s:Int)) 64=s:=by rw[HV];omega
 have k5:min (z4 ((64-s:Nat):Int)) 64=64-s:=by rw[HV];omega
 have k6:IntKind.wrap .u64 (y*2^s)=y*2^s:=by rw[wrap_u64];omega
 simp only[k1,k2,k3,k4,k5,k6,bn]
 have pq:(18446744073709551616:Int)=2^s*2^(64-s):=by
  rw[<-pow_add',show s+(64-s)=64 by omega];rfl
 have ab:hi*2^s+2^s<=y*2^s:=by
  have:=ZM (show hi+1<=y by omega) (pS P0);rw[ZN] at this;omega
 have a0:0<=hi*2^s:=Aq h0 (pS P0);have x0:0<=lo/2^(64-s):=Ez l0 (pS Q0);have x1:lo/2^(64-s)<2^s:=abK Q0 (by rw[<-pq];exact l1);have k7:IntKind.wrap .u64 (hi*2^s)=hi*2^s:=by rw[wrap_u64];omega
 have or1:ws (wd (wn 64 (hi*2^s)|||wn 64 (v9 lo (2^(64-s)))))=hi*2^s+lo/2^(64-s):=by
  rw[rN _ _ (pS Q0),BitVec.or_comm,ayC _ _ s x0 x1 a0 (by omega) (by omega) (Int.mul_emod_left _ _)];omega
 have k8:IntKind.wrap .u64 (hi*2^s+lo/2^(64-s))=hi*2^s+lo/2^(64-s):=by rw[wrap_u64];omega
 simp only[k7,or1,k8];rw[wrap_u64 (lo*2^s)];have c0:0<=lo*2^s%18446744073709551616/\lo*2^s%18446744073709551616<18446744073709551616:=by omega
 have N:(hi*2^s+lo/2^(64-s))*18446744073709551616+lo*2^s%18446744073709551616=(hi*18446744073709551616+lo)*2^s:=by
  have m1:lo*2^s/18446744073709551616=lo/2^(64-s):=by
   rw[pq,yg lo,Int.mul_ediv_mul_of_pos _ _ P0]
  have m2:lo*2^s=lo*2^s/18446744073709551616*18446744073709551616+lo*2^s%18446744073709551616:=by omega
  have m3:(hi*18446744073709551616+lo)*2^s=hi*2^s*18446744073709551616+lo*2^s:=by grind
  rw[m3,<-m1];omega
 have U1:0<=hi*2^s+lo/2^(64-s)/\hi*2^s+lo/2^(64-s)<y*2^s:=by omega
 have am1:∀x:Int,0<=x->x<18446744073709551616->IntKind.wrap .u64 (ws (wd (wn 64 x&&&wn 64 4294967295)))=x%4294967296:=λx x0 x1=>by
  rw[aoZ x x0 x1,wrap_u64];omega
 rw[am1 (y*2^s) (by omega) b1,am1 _ c0.1 c0.2];simp only[rN _ 4294967296 (show(0:Int)<=4294967296 by decide)]
 have A1:(hi*18446744073709551616+lo)/y=(hi*18446744073709551616+lo)*2^s/(y*2^s):=by
  rw[yg _ (2^s),yg y,Int.mul_ediv_mul_of_pos _ _ P0]
 have A2:(hi*18446744073709551616+lo)%y=(hi*18446744073709551616+lo)*2^s%(y*2^s)/2^s:=by
  rw[yg _ (2^s),yg y,Int.mul_emod_mul_of_pos _ _ P0,Int.mul_ediv_cancel_left _ (by omega)]
 rw[A1,A2,<-N];generalize hi*2^s+lo/2^(64-s)=U at*
 generalize lo*2^s%18446744073709551616=L at*
 generalize hY:y*2^s=Y at*
 generalize h2s:(2:Int)^s=P at*
 clear N A1 A2 or1 k7 k8 x0 x1 ab a0 pq k6 e
 have hY1:2147483648<=Y/4294967296/\Y/4294967296<4294967296:=by omega
 have g1:Dig Y (Y/4294967296) (Y%4294967296) U (L/4294967296):=⟨by omega,hY1,by omega,U1,by omega⟩;have yz:(!decide (Y/4294967296=0))=true:=by rw[cC (by omega)];rfl
 have Q1:=g1.lt;have R1:=asH (U*4294967296+L/4294967296) Y;have R1a:=Wd (U*4294967296+L/4294967296) (show Y≠0 by omega);have R1b:=SP (U*4294967296+L/4294967296) (show 0<Y by omega)
 have q0:IntKind.wrap .u64 (ul U (Y/4294967296))=U/(Y/4294967296):=by
  rw[azD U1.1,wrap_u64];have:=Ez U1.1 (show 0<=Y/4294967296 by omega);have:=axL (Y/4294967296) U1.1;omega
 have r0:IntKind.wrap .u64 (U-IntKind.wrap .u64 (U/(Y/4294967296)*(Y/4294967296)))=U%(Y/4294967296):=by
  have qm:=Int.ediv_mul_add_emod U (Y/4294967296);have m0:=Wd U (show Y/4294967296≠0 by omega);have m1:=SP U (show 0<Y/4294967296 by omega);rw[wrap_u64,wrap_u64];generalize U/(Y/4294967296)*(Y/4294967296)=A at*
  omega
 simp only[yz,bn,q0,r0];generalize hQ1:(U*4294967296+L/4294967296)/Y=q1 at*
 generalize hR1:(U*4294967296+L/4294967296)%Y=R at*
 have g2:Dig Y (Y/4294967296) (Y%4294967296) R (L%4294967296):=⟨by omega,hY1,by omega,⟨R1a,R1b⟩,by omega⟩;have Q2:=g2.lt;have R2:=asH (R*4294967296+L%4294967296) Y;have R2a:=Wd (R*4294967296+L%4294967296) (show Y≠0 by omega);have R2b:=SP (R*4294967296+L%4294967296) (show 0<Y by omega);generalize hQ2:(R*4294967296+L%4294967296)/Y=q2 at*
 generalize hR2:(R*4294967296+L%4294967296)%Y=R' at*
 have un:IntKind.wrap .u64 (IntKind.wrap .u64 (IntKind.wrap .u64 (U*4294967296)+L/4294967296)-IntKind.wrap .u64 (q1*Y))=R:=by
  rw[yg q1 Y];simp only[wrap_u64];generalize Y*q1=A at*
  omega
 have q3:IntKind.wrap .u64 (ul R (Y/4294967296))=R/(Y/4294967296):=by
  rw[azD R1a,wrap_u64];have:=Ez R1a (show 0<=Y/4294967296 by omega);have:=axL (Y/4294967296) R1a;omega
 have r3:IntKind.wrap .u64 (R-IntKind.wrap .u64 (R/(Y/4294967296)*(Y/4294967296)))=R%(Y/4294967296):=by
  have qm:=Int.ediv_mul_add_emod R (Y/4294967296);have m0:=Wd R (show Y/4294967296≠0 by omega);have m1:=SP R (show 0<Y/4294967296 by omega);rw[wrap_u64,wrap_u64];generalize R/(Y/4294967296)*(Y/4294967296)=A at*
  omega
 have un2:IntKind.wrap .u64 (IntKind.wrap .u64 (IntKind.wrap .u64 (R*4294967296)+L%4294967296)-IntKind.wrap .u64 (q2*Y))=R':=by
  rw[yg q2 Y];simp only[wrap_u64];generalize Y*q2=A at*
  omega
 have quo:IntKind.wrap .u64 (IntKind.wrap .u64 (q1*4294967296)+q2)=q1*4294967296+q2:=by
  simp only[wrap_u64];omega
 have ans:(U*18446744073709551616+L)/Y=q1*4294967296+q2/\(U*18446744073709551616+L)%Y=R':=by
  have e:U*18446744073709551616+L=R'+Y*(q1*4294967296+q2):=by
   have e2:Y*(q1*4294967296+q2)=Y*q1*4294967296+Y*q2:=by grind
   rw[e2];omega
  rw[e];constructor
  .rw[Int.add_mul_ediv_left _ _ (by omega),Int.ediv_eq_zero_of_lt R2a R2b,akR]
  .rw[Int.add_mul_emod_self_left,FG R2a R2b]
 rw[ans.1,ans.2];refine a1U Y s _ _ U _ _ g1 _ _ ?_ ?_ ?_
 all_goals
  intros
  simp only[na,j8,hQ1,yz,bn,un,q3,r3];refine a1V Y s _ _ R _ _ g2 _ _ ?_ ?_ ?_
  all_goals
   intros
   simp only[na,j8,hQ2,k3,bn,un2,quo,k4,h2s];rw[rN _ _ (pS P0)]
def jK (x:Int):Int:=if x<0 then -x else x
theorem aLB (x:Int):0<=jK x:=by unfold jK;split<;>omega
def qdq (V D:Int):Int:=V/D+(if 2*(V%D)<D then 0 else 1)
def He (a d:Int):Int:=if (decide (a<0))=(decide (d<0)) then qdq (jK a) (jK d) else -qdq (jK a) (jK d)
theorem aJr (h l d:Int)(o:okW h l)(d0: -9223372036854775808<=d)(d1:d<=9223372036854775807)(nz:d≠0):
  Cd h l d=if -9223372036854775808<=He (vW h l) d/\He (vW h l) d<=9223372036854775807 then some (He (vW h l) d,true) else some (0,false):=by
 simp only[Cd,alz,Pg.bP,Pg.bN,Pg.bZ,Pg.eD,Pg.dD];try delta wI wU
 have z:(d==0)=false:=by rw[afU];exact nz
 obtain⟨ah,al,e1,a0,a1,a2,a3,a4⟩:=aJm h l o;have e2:=ao0 d d0 d1;rw[z,bx,e1,bC,e2,bC];simp only;have D0:0<jK d:=by unfold jK;split<;>omega
 have D1:jK d<=9223372036854775808:=by unfold jK;split<;>omega
 have ed:(if d<0 then -d else d)=jK d:=rfl
 have va:ah*18446744073709551616+al=jK (vW h l):=by
  rw[a4];obtain⟨o1,o2,o3,o4⟩:=o;unfold jK;simp only[vW];split<;>split<;>omega
 have sn:decide (h<0)=decide (vW h l<0):=by
  obtain⟨o1,o2,o3,o4⟩:=o;simp only[vW];by_cases c:h<0
  .rw[dR c,dR (by omega)]
  .rw[cC c,cC (by omega)]
 rw[ed,sn];generalize vW h l=V at*
 have nz2:(!decide (jK d=0))=true:=by rw[cC (by omega)];rfl
 have r0:=Wd ah (show jK d≠0 by omega);have r1:=SP ah D0;have q0:=Ez a0 (pS D0);have q1:=axL (jK d) a0;have qe:=asH ah (jK d);have dv:=aU5 (ah%jK d) al (jK d) r0 r1 (by omega) a2 a3;rw[nz2,bn,bn,Int.tmod_eq_emod_of_nonneg a0,dv,bC,azD a0];simp only;have w1:IntKind.wrap .u64 (ah/jK d)=ah/jK d:=by rw[wrap_u64];omega
 have E:jK V=(ah%jK d*18446744073709551616+al)+jK d*(ah/jK d*18446744073709551616):=by
  rw[<-va];have:jK d*(ah/jK d*18446744073709551616)=jK d*(ah/jK d)*18446744073709551616:=by grind
  rw[this];omega
 have Q:jK V/jK d=(ah%jK d*18446744073709551616+al)/jK d+ah/jK d*18446744073709551616:=by
  rw[E,Int.add_mul_ediv_left _ _ (by omega)]
 have R:jK V%jK d=(ah%jK d*18446744073709551616+al)%jK d:=by rw[E,Int.add_mul_emod_self_left]
 have n0:0<=(ah%jK d*18446744073709551616+al)/jK d:=Ez (by omega) (pS D0)
 have n1:(ah%jK d*18446744073709551616+al)/jK d<18446744073709551616:=by
  refine abK D0 ?_;omega
 have t0:=Wd (ah%jK d*18446744073709551616+al) (show jK d≠0 by omega);have t1:=SP (ah%jK d*18446744073709551616+al) D0;rw[<-R] at t0 t1 ⊢;have w2:IntKind.wrap .u64 (jK d-jK V%jK d)=jK d-jK V%jK d:=by rw[wrap_u64];omega
 rw[w1,w2]
 have sgn:(!decide (V<0)==decide (d<0))= !decide ((decide (V<0))=(decide (d<0))):=by
  cases decide (V<0)<;>cases decide (d<0)<;>rfl
 have qn:0<=qdq (jK V) (jK d):=by
  have:=aLB V;have:=Ez this (pS D0);unfold qdq;split<;>omega
 have fin:∀u v:Int,0<=u->0<=v->v<18446744073709551616->u*18446744073709551616+v=qdq (jK V) (jK d)->
   (Option.bind (jt u v (!decide (V<0)==decide (d<0))) λ(d:Int×Bool)=>some (d.1,d.2))=if -9223372036854775808<=He V d/\He V d<=9223372036854775807 then some (He V d,true) else some (0,false):=by
  intro u v u0 v0 v1 e;rw[MU u v _ u0 v0 v1,e,sgn];unfold He;generalize qdq (jK V) (jK d)=q at*
  by_cases s:(decide (V<0))=(decide (d<0))
  .rw[if_pos s,dR s];simp only[HW,yf,gq];by_cases c:q<=9223372036854775807
   .rw[if_pos c,if_pos (by omega),bC];have uz:u=0:=by omega
    subst uz;have:v=q:=by omega
    rw[this]
   .rw[if_neg c,if_neg (by omega),bC]
  .rw[if_neg s,cC s];simp only[Bool.not_false,lK];by_cases c:q<=9223372036854775808
   .rw[if_pos c,if_pos (by omega),bC];have uz:u=0:=by omega
    subst uz;have:v=q:=by omega
    rw[this]
   .rw[if_neg c,if_neg (by omega),bC]
 by_cases c:jK V%jK d>=jK d-jK V%jK d
 .rw[dR c,bn];obtain⟨u,v,e3,u0,u1,v0,v1,e4⟩:=ahp (ah/jK d) ((ah%jK d*18446744073709551616+al)/jK d) 0 1 q0 n0 (by omega) (by omega) n1 (by omega) (by omega);rw[e3,bC];simp only;refine fin u v u0 v0 v1 ?_;rw[e4];unfold qdq;rw[if_neg (by omega),Q];omega
 .rw[cC c,bx];refine fin _ _ q0 n0 n1 ?_;unfold qdq;rw[if_pos (by omega),Q];omega
theorem aU6 (a d:Int)(nz:d≠0):((decide (a<0))=(decide (d<0))->0<=He a d)/\(¬(decide (a<0))=(decide (d<0))->He a d<=0):=by
 have D0:0<jK d:=by unfold jK;split<;>omega
 have q:=Ez (aLB a) (pS D0);have qn:0<=qdq (jK a) (jK d):=by unfold qdq;split<;>omega
 unfold He;constructor
 .intro h;rw[if_pos h];exact qn
 .intro h;rw[if_neg h];omega
theorem aTU (h l d:Int)(eJ:Bool)(o:okW h l)(d0: -9223372036854775808<=d)(d1:d<=9223372036854775807)(nz:d≠0):
  p7 h l d eJ=some (sat (He (vW h l) d),eJ||dE (He (vW h l) d)):=by
 simp only[p7,GP,Pg.bP,Pg.bN,Pg.bZ,Pg.eD,Pg.dD];try delta wI wU
 have z:(d==0)=false:=by rw[afU];exact nz
 have sn:decide (h<0)=decide (vW h l<0):=by
  obtain⟨o1,o2,o3,o4⟩:=o;simp only[vW];by_cases c:h<0
  .rw[dR c,dR (by omega)]
  .rw[cC c,cC (by omega)]
 rw[z,bx,aJr h l d o d0 d1 nz,sn];have s:=aU6 (vW h l) d nz;generalize vW h l=V at*
 by_cases c: -9223372036854775808<=He V d/\He V d<=9223372036854775807
 .rw[if_pos c,bC];simp only[aeu,lK,bC]
 .rw[if_neg c,bC];simp only[aeu,yf,gq,bC];by_cases e:(decide (V<0))=(decide (d<0))
  .have p:=s.1 e;have e2:(!decide (V<0)==decide (d<0))=false:=by rw[e,beq_self_eq_true];rfl
   rw[e2];unfold sat dE;rw[if_neg (by decide),if_neg (by omega),if_pos (by omega),dR (show 1152921504606846976<He V d by omega),Bool.or_true,Bool.or_true]
  .have p:=s.2 e
   have e2:(!decide (V<0)==decide (d<0))=true:=by
    have:(decide (V<0)==decide (d<0))=false:=by rw[afU];exact e
    rw[this];rfl
   rw[e2];unfold sat dE;rw[if_pos rfl,if_pos (by omega),dR (show He V d< -1152921504606846976 by omega),Bool.true_or,Bool.or_true]
theorem aOF (a b d:Int)(eJ:Bool)(nz:sat d≠0):
  aX a b d eJ=some (sat (He (sat a*sat b) (sat d)),((((eJ||dE a)||dE b)||dE d)||dE (He (sat a*sat b) (sat d)))):=by
 simp only[aX,GQ,Pg.bP,Pg.bN,Pg.bZ,Pg.eD,Pg.dD];try delta wI wU
 have:=mT a;have:=mT b;have:=mT d;obtain⟨h,l,e1,e2,e3⟩:=BG (sat a) (sat b) (by omega) (by omega) (by omega) (by omega);simp only[pj,bC,e1,aTU h l (sat d) _ e2 (by omega) (by omega) nz,e3]
theorem aOG (a b:Int)(s:Nat)(eJ:Bool)(hs:s<=66)(nz:sat b≠0):
  bh a b (ws s) eJ=some (sat (He (sat a*2^s) (sat b)),(((eJ||dE a)||dE b)||dE (He (sat a*2^s) (sat b)))):=by
 simp only[bh,IF,Pg.bP,Pg.bN,Pg.bZ,Pg.eD,Pg.dD];try delta wI wU
 have ha:=mT a;have hb:=mT b;have P0:=mS s;have PB:(2:Int)^s<=2^66:=amT hs;have PV:(2:Int)^66=73786976294838206464:=by decide
 have m1:sat a*2^s<=1152921504606846976*73786976294838206464:=by
  rcases abP 0 (sat a) with c|c
  .exact LH ha.2 (by omega) (pS P0) (by omega)
  .have:=aLA (a:= -sat a) (b:=2^s) (by omega) (pS P0);rw[Int.neg_mul] at this;omega
 have m2: -(1152921504606846976*73786976294838206464)<=sat a*2^s:=by
  rcases abP 0 (sat a) with c|c
  .have:=aLA c (pS P0);omega
  .have:=LH (show -sat a<=1152921504606846976 by omega) (show(2:Int)^s<=73786976294838206464 by omega) (pS P0) (by omega);rw[Int.neg_mul] at this;omega
 have mv:(1152921504606846976:Int)*73786976294838206464=85070591730234615865843651857942052864:=by decide
 obtain⟨h,l,b',e1,o1,f1,v1,_⟩:=amU (sat a) s (by omega) (by omega) (by omega);have bt:b'=true:=f1.2 ⟨by omega,by omega⟩;subst bt;have n0:decide (ws s<0)=false:=by simp
 have n1:decide (ws s>66)=false:=by simp only[dQ];exact cC (by omega)
 simp only[pj,bC,n0,n1,bx,e1,aTU h l (sat b) _ o1 (by omega) (by omega) nz,v1 rfl]
theorem aTV (V:Int)(h:0<=V):∃r,isR r V:=by
 obtain⟨q,q0,q1,q2⟩:=aJp V h;have q3:(q+1)*(q+1)=q*q+2*q+1:=by grind
 by_cases c:q<V-q*q
 .exact⟨q+1,by omega,by omega,Or.inr (by omega)⟩
 .refine⟨q,q0,by omega,?_⟩;rcases Ke 0 q with k|k
  .exact Or.inr (by omega)
  .exact Or.inl (by omega)
theorem ahq (h l r:Int)(eJ:Bool)(o:okW h l)(h0:0<=h)(hr:isR r (vW h l)):v5 h l eJ=some (sat r,eJ||dE r):=by
 obtain⟨r',e1,e2,e3⟩:=atu h l o h0;have:=aU3 hr e1;subst this;simp only[v5,alD,Pg.bP,Pg.bN,Pg.bZ,Pg.eD,Pg.dD];try delta wI wU
 rw[e3];by_cases c:r<=9223372036854775807
 .rw[if_pos c,bC];simp only[HW,bx,pj,bC]
 .rw[if_neg c,bC];simp only[Bool.not_false,bn,pj,bC]
  have a:sat r=sat 1152921504606846977:=by
   unfold sat;rw[if_neg (by omega),if_pos (by omega),if_neg (by omega),if_pos (by omega)]
  have b:dE r=dE 1152921504606846977:=by
   unfold dE;rw[dR (show 1152921504606846976<r by omega),dR (show(1152921504606846976:Int)<1152921504606846977 by omega),Bool.or_true,Bool.or_true]
  rw[a,b]
open Go.Ab Go.Ab.Pg
instance a7J (x:Int)(h:Bool):bA (aO x h):=⟨_,pj x h⟩
instance a6A (x a b:Int)(h:Bool):bA (aT x a b h):=aK (p:=qF x a b h) (by simp only[qF,aM,aw,Oo,and_self])
instance a7t (b:Bool):bA (oH b):=aK (p:=OL b) (by simp only[OL,aM,aw,Oo,and_self])
instance a7K (x:Int):bA (yK x):=aK (p:=Ej x) (by simp only[Ej,aM,aw,Oo,and_self])
instance a7u (x:Int):bA (lr x):=aK (p:=Vi x) (by simp only[Vi,aM,aw,bQ,Oo,and_self])
instance a7L (a:Int)(b c d:Bool):bA (jC a b c d):=aK (p:=Ei oH aO a b c d) (by simp only[Ei,aM,aw,bI,Oo,and_self])
instance a7M (x y:Int)(h:Bool):bA (bS x y h):=aK (p:=II aO x y h) (by simp only[II,aM,aw,bI,Oo,and_self])
theorem aR5 (a b:Int)(s:Nat)(hs:s<=120)(h:Bool):bA (aU a b (ws s) h):=⟨_,aGd a b s h hs⟩
instance a6B (a b:Int)(h:Bool):bA (aU a b 30 h):=aR5 a b 30 (by omega) h
instance a6C (a b:Int)(h:Bool):bA (aU a b 44 h):=aR5 a b 44 (by omega) h
instance a6D (a b:Int)(h:Bool):bA (aU a b 10 h):=aR5 a b 10 (by omega) h
instance t_m (a b:Int)(h:Bool):bA (GU a b h):=aK (p:=aoX aU a b h) (by simp only[aoX,aM,aw,bI,Oo,and_self])
theorem a4M (s:Nat)(hs:s<=120)(n:Nat)(hn:n<=100)(eJ:Bool)(f g:Nat->Int)(w w':Bool):bA (bu (ws s) n n eJ f g w w'):=⟨_,aGe s hs n hn eJ f g w w'⟩
theorem MV (n:Nat)(hn:n<=100)(eJ:Bool)(f g:Nat->Int)(w w':Bool):bA (bu 30 n n eJ f g w w'):=a4M 30 (by omega) n hn eJ f g w w'
instance a7v (eJ:Bool)(f g:Nat->Int)(w w':Bool):bA (bu 30 2 2 eJ f g w w'):=MV 2 (by omega) eJ f g w w'
instance a7w (eJ:Bool)(f g:Nat->Int)(w w':Bool):bA (bu 30 3 3 eJ f g w w'):=MV 3 (by omega) eJ f g w w'
instance a7x (eJ:Bool)(f g:Nat->Int)(w w':Bool):bA (bu 30 4 4 eJ f g w w'):=MV 4 (by omega) eJ f g w w'
instance a6E (eJ:Bool)(f g:Nat->Int)(w w':Bool):bA (bu 30 24 24 eJ f g w w'):=MV 24 (by omega) eJ f g w w'
instance a6F (eJ:Bool)(f g:Nat->Int)(w w':Bool):bA (bu 30 48 48 eJ f g w w'):=MV 48 (by omega) eJ f g w w'
theorem aLC (n:Nat)(hn:n<=1900)(eJ:Bool)(l:Nat->Int)(w:Bool):bA (cF n eJ l w):=⟨_,aZZ n hn eJ l w⟩
instance a7y (eJ:Bool)(l:Nat->Int)(w:Bool):bA (cF 2 eJ l w):=aLC 2 (by omega) eJ l w
instance a7z (eJ:Bool)(l:Nat->Int)(w:Bool):bA (cF 3 eJ l w):=aLC 3 (by omega) eJ l w
theorem aZ3 (x y:Int)(h:Bool):bA (p7 x y 0 h):=aK (p:=GP oH Cd jC x y 0 h) (by
 unfold GP;simp only[aM,aw,bI,Oo,and_self,A6];intro h;simp at h)
instance a5L (a b d:Int)(h:Bool):bA (aX a b d h):=by
 by_cases nz:sat d=0
 .have h1:=mT a;have h2:=mT b;obtain⟨x,y,e,_,_⟩:=BG (sat a) (sat b) (by omega) (by omega) (by omega) (by omega);have:=(aZ3 x y (((h||dE a)||dE b)||dE d)).ok;refine⟨?_⟩;simp only[aX,GQ,bP,bN,bZ,pj,bC,e,nz];obtain⟨d,hd⟩:=this;rw[hd];exact⟨_,rfl⟩
 .exact⟨_,aOF a b d h nz⟩
theorem aZ4 (a b:Int)(s:Nat)(hs:s<=66)(h:Bool):bA (bh a b (ws s) h):=by
 by_cases nz:sat b=0
 .have h1:=mT a;obtain⟨x,y,q,e,_,_⟩:=amU (sat a) s (by omega) (by omega) (by omega);have:=(aZ3 x y ((h||dE a)||dE b)).ok;refine⟨?_⟩;have n0:decide (ws s<0)=false:=by simp
  have n1:decide (ws s>66)=false:=by simp only[dQ];exact cC (by omega)
  simp only[bh,IF,bP,bN,bZ,pj,bC,n0,n1,bx,e,nz];obtain⟨d,hd⟩:=this;rw[hd];exact⟨_,rfl⟩
 .exact⟨_,aOG a b s h hs nz⟩
instance a6G (a b:Int)(h:Bool):bA (bh a b 30 h):=aZ4 a b 30 (by omega) h
instance a6H (a b:Int)(h:Bool):bA (bh a b 44 h):=aZ4 a b 44 (by omega) h
def sq2 (f:Nat->Int)(n:Nat):Int:=pk (λj=>sat (f j)*sat (f j)) n
theorem aAR (f:Nat->Int):∀n,0<=sq2 f n
 |0=>dZ 0
 |n+1=>by
  have:=aAR f n
  have h2:0<=sat (f n)*sat (f n):=by
   rcases abP 0 (sat (f n)) with h|h
   .exact Aq h h
   .exact Int.mul_nonneg_of_nonpos_of_nonpos h h
  unfold sq2 at*;rw[pk];omega
theorem aU7 (n:Nat)(hn:n<=64)(eJ:Bool)(f:Nat->Int)(w:Bool):∃r,isR r (sq2 f n)/\cw n eJ f w=some (sat r,(eJ||oE (λj=>dE (f j)) n)||dE r):=by
 have nn:=aAR f n
 have key:∃x,cw n eJ f w=x/\∃h l,okW h l/\vW h l=sq2 f n/\x=(v5 h l (eJ||oE (λj=>dE (f j)) n)):=by
  refine⟨_,rfl,?_⟩;have m:(if 64<ws n then(64:Int) else ws n)=ws n:=by rw[if_neg (by simp only[dQ];omega)]
  have k:HA (ws n) n=true:=by simp[HA]
  have q:z4 (ws n)=n:=rfl;simp only[cw,Qx,bP,bN,bZ,eD,m,k,q,bn];unfold DN
  obtain⟨x,hx,i,h,l,ho,hv,rfl⟩:=Z5 (s:=uq aO fP kU)
   (λt d=>∃(i:Nat) (h l':Int),i+t=n/\okW h l'/\vW h l'=sq2 f i/\d=(((n,w&&false),ws n,ws i),(eJ||oE (λj=>dE (f j)) i),(n,f),h,l'))
   (λx=>∃(i:Nat) (h l':Int),okW h l'/\vW h l'=sq2 f n/\x=(((n,w&&false),ws n,ws n,decide (ws n<ws n)),(eJ||oE (λj=>dE (f j)) n),(n,f),h,l')) (λt d=>by
    rintro ⟨i,h,l',hi,ho,hv,rfl⟩
    have bnd:=aev (λj=>sat (f j)*sat (f j)) 1329227995784915872903807060280344576 (by omega) i (λj _=>Rw _ _);have hv':vW h l'=pk (λj=>sat (f j)*sat (f j)) i:=hv;rcases SQ t with t0|t0
    .have e:i=n:=by omega
     subst e;simp only[uq,bP,bN,bZ,eD,ao3 (cP i),bx];exact⟨_,rfl,i,h,l',ho,hv,by rfl⟩
    .have hs1:=mT (f i);have hm:=Rw (f i) (f i);obtain⟨h1,l1,e1,o1,v1⟩:=BG (sat (f i)) (sat (f i)) (by omega) (by omega) (by omega) (by omega)
     obtain⟨h2,l2,e2,o2,v2⟩:=XV (λj:Nat=>bif z9 j 1 then h1 else bif z9 j 0 then h else h) (λj:Nat=>bif z9 j 1 then l1 else bif z9 j 0 then l' else l') true
      ho o1 (by show _<=vW h l'+vW h1 l1;rw[hv',v1];omega) (by show vW h l'+vW h1 l1<_;rw[hv',v1];omega)
     have v2:vW h2 l2=vW h l'+vW h1 l1:=v2;rw[hv',v1] at v2;have q:z4 (ws i)=i:=rfl;simp only[uq,bP,bN,bZ,eD,wI,ao2 hi t0,aaL (show i<n by omega),bn,q,pj,bC,e1,e2,ao4 (show i<9000000000000000000 by omega)];refine⟨_,rfl,t-1,by omega,i+1,h2,l2,by omega,o2,v2,?_⟩;simp only[oE,Bool.or_assoc])
   2000 n (((n,w&&false),ws n,0),eJ,(n,f),0,0) (by omega) ⟨0,0,0,by omega,⟨by omega,by omega,by omega,by omega⟩,rfl,by simp only[oE,LJ];rfl⟩
  rw[hx];refine⟨h,l,ho,hv,?_⟩;simp only[bC];cases v5 h l (eJ||oE (λj=>dE (f j)) n)<;>rfl
 obtain⟨x,hx,h,l,ho,hv,rfl⟩:=key
 have h0:0<=h:=by
  obtain⟨o1,o2,o3,o4⟩:=ho;rw[<-hv] at nn;simp only[vW] at nn;omega
 obtain⟨r,hr,_,_⟩:=atu h l ho h0;refine⟨r,hv▸hr,?_⟩;rw[hx];exact ahq h l r _ ho h0 hr
theorem aGg (n:Nat)(hn:n<=64)(eJ:Bool)(f:Nat->Int)(w:Bool):bA (cw n eJ f w):=by
 obtain⟨r,_,h⟩:=aU7 n hn eJ f w;exact⟨_,h⟩
instance a5M (eJ:Bool)(f:Nat->Int)(w:Bool):bA (cw 3 eJ f w):=aGg 3 (by omega) eJ f w
instance a5N (eJ:Bool)(f:Nat->Int)(w:Bool):bA (cw 4 eJ f w):=aGg 4 (by omega) eJ f w
theorem av4:∀(d:lu.B) (hd:0<=d.1.2.2.2.2/\d.1.2.2.2.2<=d.1.2.2.2.1/\d.1.2.2.2.1<=1999/\d.1.2.2.2.1=((d.1.2.2.1.1:Nat):Int)),Ok (GV d) (λx:Bu=>True):=
 bT (λd:lu.B=>z4 (d.1.2.2.2.1-d.1.2.2.2.2)) (λd hd=>by
  have hw:wI (d.1.2.2.2.2+1)=d.1.2.2.2.2+1:=bf;unfold OQ;simp only[bU];simp only[nf,uL,hw];repeat' (first|exact True.intro|omega|(intro _)|(apply And.intro))) (λd hd=>by omega)
theorem ayF (x0:Int)(x1:Nat)(h1:1<=x1)(h2:x1<=1000)(x2:Bool)(x3:Nat->Int)(w0:Bool):bA (lS x0 x1 x2 x3 w0):=by
 unfold lS WQ;refine aK ?_;rw[bQ,bQ];refine⟨by simp only[bp];omega,by simp only[ad4];omega,?_⟩;refine ax (av4 _ (hdN (x1-1) (by omega))) λd _ hd=> ?_;simp only[aw]
instance a4N (x0:Int)(x2:Bool)(x3:Nat->Int)(w0:Bool):bA (lS x0 6 x2 x3 w0):=ayF _ _ (by omega) (by omega) _ _ _
instance a4O (x0:Int)(x2:Bool)(x3:Nat->Int)(w0:Bool):bA (lS x0 7 x2 x3 w0):=ayF _ _ (by omega) (by omega) _ _ _
instance a3F (x0:Int)(x2:Bool)(x3:Nat->Int)(w0:Bool):bA (lS x0 12 x2 x3 w0):=ayF _ _ (by omega) (by omega) _ _ _
instance a3G (x0:Int)(x1:Bool):bA (ni x0 x1):=by
 unfold ni alM;exact aK (by simp only[bU])
instance a3H (x0:Int)(x1:Bool):bA (qG x0 x1):=by
 unfold qG alN;exact aK (by simp only[bU])
instance a08 (x0:Int)(x1:Int)(x2:Bool):bA (v7 x0 x1 x2):=by
 unfold v7 acj;exact aK (by simp only[bU])
instance a4P (x0:Int)(x1:Int)(x2:Int)(x3:Int)(x4:Int)(x5:Int)(x6:Bool):bA (uo x0 x1 x2 x3 x4 x5 x6):=by
 unfold uo atd;exact aK (by simp only[bU])
instance a1W (x0:Int)(x1:Int)(x2:Int)(x3:Int)(x4:Bool):bA (sD x0 x1 x2 x3 x4):=by
 unfold sD agQ;exact aK (by simp only[bU])
instance a3I (x0:Int)(x1:Int)(x2:Int)(x3:Bool):bA (o7 x0 x1 x2 x3):=by
 unfold o7 alP;exact aK (by simp only[bU])
instance a4Q (x0:Int)(x1:Int)(x2:Int)(x3:Bool):bA (At x0 x1 x2 x3):=by
 unfold At ate;exact aK (by simp only[bU])
instance aZ5 (x0:Int)(x1:Int)(x2:Bool):bA (wV x0 x1 x2):=by
 unfold wV WE;exact aK (by simp only[bU])
instance aLD (x0:Int)(x1:Int)(x2:Int)(x3:Int)(x4:Bool):bA (gY x0 x1 x2 x3 x4):=by
 unfold gY CJ;exact aK (by simp only[bU])
theorem aGh:∀(d:p9.B) (hd:0<=d.1/\d.1<=4),Ok (El d) (λx:IK=>True):=
 bT (λd:p9.B=>z4 (4-d.1)) (λd hd=>by
  have hw:wI (d.1+1)=d.1+1:=bf;unfold aco;simp only[bU];simp only[nf,uL,hw];repeat' (first|exact True.intro|omega|(intro _)|(apply And.intro))) (λd hd=>by omega)
instance a3J (x0:Int)(x1:Int)(x2:Int)(x3:Int)(x4:Bool):bA (qH x0 x1 x2 x3 x4):=by
 unfold qH alR;refine aK ?_;refine ax (aGh _ (by simp)) λd _ hd=> ?_;simp only[bU]
instance a3K:bA o8:=by
 unfold o8 alW;exact aK (by simp only[bU])
instance a1X (x0:Int)(x1:Int)(x2:Int)(x3:Int):bA (CN x0 x1 x2 x3):=by
 unfold CN agX;exact aK (by simp only[bU])
theorem ayG:∀(d:o9.B) (hd:0<=d.1.2/\d.1.2<=3),Ok (Tf d) (λx:DO=>True):=
 bT (λd:o9.B=>z4 (3-d.1.2)) (λd hd=>by
  have hw:wI (d.1.2+1)=d.1.2+1:=bf;unfold Te;simp only[bU];simp only[nf,uL,hw];repeat' (first|exact True.intro|omega|(intro _)|(apply And.intro))) (λd hd=>by omega)
instance a09 (x0:Nat->Int)(x1:Int):bA (fh x0 x1):=by
 unfold fh acq;refine aK ?_;refine ax (ayG _ (by simp)) λd _ hd=> ?_;simp only[bU]
theorem ayH:∀(d:pd.B) (hd:0<=d.1.2.2.2.2/\d.1.2.2.2.2<=d.1.2.2.2.1/\d.1.2.2.2.1<=1999/\d.1.2.2.2.1=((d.1.2.2.1.1:Nat):Int)),Ok (Th d) (λx:DP=>True):=
 bT (λd:pd.B=>z4 (d.1.2.2.2.1-d.1.2.2.2.2)) (λd hd=>by
  have hw:wI (d.1.2.2.2.2+1)=d.1.2.2.2.2+1:=bf;unfold Tg;simp only[bU];simp only[nf,uL,hw];repeat' (first|exact True.intro|omega|(intro _)|(apply And.intro))) (λd hd=>by omega)
theorem arc (x0:Nat->Int)(x1:Int)(x2:Nat)(x3:Nat->Int)(w0:Bool)(h:x2<=1999):bA (fk x0 x1 x2 x3 w0):=by
 unfold fk acu;refine aK ?_;rw[aS,bQ];refine⟨rfl,?_⟩;refine ax (ayH _ (hdN x2 h)) λd _ hd=> ?_;simp only[bU]
instance a6I (x0:Nat->Int)(x1:Int)(x3:Nat->Int)(w0:Bool):bA (fk x0 x1 3 x3 w0):=arc _ _ _ _ _ (by omega)
instance a6J (x0:Nat->Int)(x1:Int)(x3:Nat->Int)(w0:Bool):bA (fk x0 x1 4 x3 w0):=arc _ _ _ _ _ (by omega)
instance a3L (x0:Int)(x1:Int)(x2:Int)(x3:Int)(x4:Int)(x5:Int)(x6:Int)(x7:Int)(x8:Bool):bA (K9 x0 x1 x2 x3 x4 x5 x6 x7 x8):=by
 unfold K9 alY;exact aK (by simp only[bU])
instance a3M (x0:Int)(x1:Int)(x2:Int)(x3:Int)(x4:Bool):bA (K' x0 x1 x2 x3 x4):=by
 unfold K' al0;exact aK (by simp only[bU])
theorem amV:∀(d:jL.B) (hd:0<=d.1.2.2/\d.1.2.2<=d.1.1/\d.1.1<=1999/\d.1.1<=24),Ok (H4 d) (λx:uN=>True):=
 bT (λd:jL.B=>z4 (d.1.1-d.1.2.2)) (λd hd=>by
  have hw:wI (d.1.2.2+1)=d.1.2.2+1:=bf;unfold H2;simp only[bU];simp only[nf,uL,hw];repeat' (first|exact True.intro|omega|(intro _)|(apply And.intro))) (λd hd=>by omega)
theorem qh (x0:Int)(x1:Int)(x2:Int)(x3:Nat->Int)(h0:0<=x0)(h1:x0<=x1)(h2:x1<=24):bA (zp x0 x1 x2 x3):=by
 unfold zp Mm;refine aK ?_;refine ax (amV _ (by dsimp only;omega)) λd _ hd=> ?_;simp only[aw]
instance aWl (x0:Int)(x1:Bool):bA (gr x0 x1):=by
 unfold gr yM;exact aK (by simp only[bU])
theorem apo:∀(d:ek.B) (hd:0<=d.1/\d.1<=24),Ok (oI d) (λx:lT=>True):=
 bT (λd:ek.B=>z4 (24-d.1)) (λd hd=>by
  have hw:wI (d.1+1)=d.1+1:=bf;unfold rD;simp only[bU];simp only[nf,uL,hw];repeat' (first|exact True.intro|omega|(intro _)|(apply And.intro))) (λd hd=>by omega)
theorem apq:∀(d:eo.B) (hd:0<=d.1/\d.1<=276),Ok (oJ d) (λx:lU=>True):=
 bT (λd:eo.B=>z4 (276-d.1)) (λd hd=>by
  have hw:wI (d.1+1)=d.1+1:=bf;unfold rE;simp only[bU];simp only[nf,uL,hw];repeat' (first|exact True.intro|omega|(intro _)|(apply And.intro))) (λd hd=>by omega)
instance aU8 (x0:Nat->Int)(x1:Nat->Int)(x2:Bool):bA (du x0 x1 x2):=by
 unfold du wA;refine aK ?_;refine ax (apo _ (by simp)) λd _ hd=> ?_;refine ax (apq _ (by simp)) λd _ hd=> ?_;simp only[bU]
theorem aHR:∀(d:sG.B) (hd:0<=d.1.2/\d.1.2<=24),Ok (Vm d) (λx:GZ=>True):=
 bT (λd:sG.B=>z4 (24-d.1.2)) (λd hd=>by
  have hw:wI (d.1.2+1)=d.1.2+1:=bf;unfold Vl;simp only[bU];simp only[nf,uL,hw];repeat' (first|exact True.intro|omega|(intro _)|(apply And.intro))) (λd hd=>by omega)
instance a4R (x0:Nat)(x1:Bool)(x2:Nat->Int)(w0:Bool):bA (Km x0 x1 x2 w0):=by
 unfold Km ag0;refine aK ?_;rw[aS,bQ];refine⟨rfl,?_⟩;refine ax (aHR _ (by simp)) λd _ hd=> ?_;simp only[bU]
theorem aR6:∀j:Nat,j<24->0<=wI (ul (wI ((j:Int)*wI ((j:Int)-1))) 2)/\wI (ul (wI ((j:Int)*wI ((j:Int)-1))) 2)+(j:Int)<=276+(if j=0 then 1 else 0):=by decide
theorem aOH {i j:Int}{d:Vn}(h:fH i j=some d)(ok:d.2=true):0<=d.1/\d.1<276:=by
 simp only[fH,zq,bP,bN] at h;by_cases h0:0<=i
 .by_cases h1:i<j
  .simp only[ES,h0,h1,Ji,bn,iv] at h;subst h;have h2:j<24:=dh ok;obtain⟨n,rfl⟩:=Int.eq_ofNat_of_zero_le (by omega:0<=j);obtain⟨k1,k2⟩:=aR6 n (by omega);rw[if_neg (by omega)] at k2;generalize wI (ul (wI ((n:Int)*wI ((n:Int)-1))) 2)=c at*
   show 0<=wI (c+i)/\wI (c+i)<276;rw[eS (by omega) (by omega)];omega
  .simp only[ES,h0,h1,Ji,Kd,bn,bx,iv] at h;subst h;cases ok
 .simp only[ES,h0,Kd,bx,iv] at h;subst h;cases ok
instance a1Y (x0:Int)(x1:Int):bA (fH x0 x1):=by
 unfold fH zq;exact aK (by simp only[bU])
instance a6K (x0:Nat->Int)(x1:Nat->Int)(x2:Int)(x3:Int):bA (wW x0 x1 x2 x3):=by
 have key:∀d,fH x2 x3=some d->((!d.2)=false->aZ d.1 276=true/\wr (0+z4 d.1*1+1) 276=true):=λd h k=>by
  have:=aOH h (by simpa using k);simp only[bp,ch];omega
 unfold wW al4;refine aK ?_;simp only[bU,nf];repeat' (first|(apply And.intro)|(intro _ h k;exact⟨λ_=>(key _ h k).2,(key _ h k).1⟩)|(intro _ h k;exact key _ h k)|(intro _))
instance a4S (x0:Nat->Int)(x1:Nat->Int)(x2:Int)(x3:Int)(x4:Int):bA (ur x0 x1 x2 x3 x4):=by
 unfold ur Xe;refine aK ?_;simp only[bU,nf];intro d h k;have:=aOH h k;simp only[bp,ch,cL];omega
theorem atv:∀(d:iz.B) (hd:0<=d.1/\d.1<=24),Ok (E0 d) (λx:tW=>True):=
 bT (λd:iz.B=>z4 (24-d.1)) (λd hd=>by
  have hw:wI (d.1+1)=d.1+1:=bf;unfold EZ;simp only[bU];simp only[nf,uL,hw];repeat' (first|exact True.intro|omega|(intro _)|(apply And.intro))) (λd hd=>by omega)
instance aWm:bA (oi):=by
 unfold oi JC;refine aK ?_;refine ax (atv _ (by simp)) λd _ hd=> ?_;simp only[bU]
theorem aCC:∀(d:om.B) (hd:0<=d.1/\d.1<=3),Ok (Mt d) (λx:FR=>True):=
 bT (λd:om.B=>z4 (3-d.1)) (λd hd=>by
  have hw:wI (d.1+1)=d.1+1:=bf;unfold Xf;try dsimp only
  by_cases hc:d.1<3
  case neg=>simp only[hc,Kd,aM,aw,j8,Oo,CC,yf,FH]
  have h1:wI (3*d.1)=3*d.1:=eS;have h2:wI (3*d.1+3)=3*d.1+3:=eS;have h3:z4 (3*d.1+3)-z4 (3*d.1)=3:=by omega
  simp only[h1,h2,h3];simp only[bU];simp only[nf,uL,hw];repeat' (first|exact True.intro|omega|(intro _)|(apply And.intro))) (λd hd=>by omega)
instance a1Z (x0:Nat->Int)(x1:Int)(x2:Int)(x3:Int)(x4:Bool):bA (oo x0 x1 x2 x3 x4):=by
 unfold oo ag4;refine aK ?_;refine ax (aCC _ (by simp)) λd _ hd=> ?_;simp only[bU]
theorem aGi:∀(d:qd.B) (hd:0<=d.1/\d.1<=3),Ok (QF d) (λx:IN=>True):=
 bT (λd:qd.B=>z4 (3-d.1)) (λd hd=>by
  have hw:wI (d.1+1)=d.1+1:=bf;unfold acG;try dsimp only
  by_cases hc:d.1<3
  case neg=>simp only[hc,Kd,aM,aw,j8,Oo,CC,yf,FH]
  have h1:wI (6+d.1)=6+d.1:=eS;have h2:wI (3+d.1)=3+d.1:=eS;simp only[h1,h2];simp only[bU];simp only[nf,uL,hw];repeat' (first|exact True.intro|omega|(intro _)|(apply And.intro))) (λd hd=>by omega)
instance a3N (x0:Nat->Int)(x1:Int)(x2:Int)(x3:Int)(x4:Bool):bA (wa x0 x1 x2 x3 x4):=by
 unfold wa al8;refine aK ?_;refine ax (aGi _ (by simp)) λd _ hd=> ?_;simp only[bU]
instance a10 (x0:Int)(x1:Int)(x2:Bool)(x3:Bool):bA (CO x0 x1 x2 x3):=by
 unfold CO Vq;exact aK (by simp only[bU])
instance a12 (x0:Int)(x1:Bool)(x2:Bool)(x3:Bool)(x4:Bool)(x5:Bool)(x6:Bool)(x7:Bool)(x8:Bool)(x9:Int)(gw:Int)(gx:Int):bA (CP x0 x1 x2 x3 x4 x5 x6 x7 x8 x9 gw gx):=by
 unfold CP Vr;exact aK (by simp only[bU])
instance aZ6 (x0:Int):bA (Bx x0):=by
 unfold Bx FU;exact aK (by simp only[bU])
theorem aGj {x d:Int}(h:Bx x=some d):0<=d/\d<6:=by
 have k:PQ (FU x) (λd=>0<=d/\d<6):=by
  simp only[FU,aM,aw];refine⟨λ_=>by decide,λ_=>⟨λ_=>by decide,λ_=>by decide⟩⟩
 exact Ok.post k h
theorem av5:∀(d:lx.B) (hd:0<=d.1.2/\d.1.2<=4),Ok (G4 d) (λx:wB=>True):=
 bT (λd:lx.B=>z4 (4-d.1.2)) (λd hd=>by
  have hw:wI (d.1.2+1)=d.1.2+1:=bf;unfold G3;simp only[bU];simp only[nf,uL,hw];repeat' (first|exact True.intro|omega|(intro _ h;have:=aGj h;revert this;clear h;intro this)|(intro _)|(apply And.intro))) (λd hd=>by omega)
instance aZ7 (x0:Int)(x1:Bool)(x2:Bool)(x3:Bool)(x4:Bool)(x5:Bool)(x6:Bool)(x7:Bool)(x8:Bool)(x9:Int)(gw:Int)(gx:Int):bA (wX x0 x1 x2 x3 x4 x5 x6 x7 x8 x9 gw gx):=by
 unfold wX Mv;refine aK ?_;refine ax (av5 _ (by simp)) λd _ hd=> ?_;simp only[bU]
instance a13 (x:G5.B):bA (CQ x):=by
 unfold CQ Vs;try dsimp only
 exact aK (by simp only[bU])
theorem aHS (a:Nat)(i:Int):∀(d:sH.B) (hd:0<=d.1.2.2.2.2.2.2/\d.1.2.2.2.2.2.2<=d.1.2.2.2.2.2.1/\d.1.2.2.2.2.2.1<=1999/\d.1.1.1=a/\d.1.2.1=i/\d.1.2.2.2.1=i/\d.1.2.2.2.2.1.1=a/\d.1.2.2.2.2.2.1=(a:Int)/\(d.1.2.2.1:Int)<=d.1.2.2.2.2.2.2/\0<=i/\i<3),Ok (Vu d) (λx:My=>x.1.1.1=a/\x.1.2.1=i/\x.1.2.2.2.1=i/\x.1.2.2.1<=a):=
 bT (λd:sH.B=>z4 (d.1.2.2.2.2.2.1-d.1.2.2.2.2.2.2)) (λd hd=>by
  have hw:wI (d.1.2.2.2.2.2.2+1)=d.1.2.2.2.2.2.2+1:=bf;unfold aha;simp only[bU];simp only[nf,uL,hw];repeat' (first|exact True.intro|omega|(intro _)|(apply And.intro))) (λd hd=>by omega)
theorem aHT:∀(d:sI.B) (hd:0<=d.1.2/\d.1.2<=3/\d.1.1.1<=1900),Ok (Vv d) (λx:Mz=>True):=
 bT (λd:sI.B=>z4 (3-d.1.2)) (λd hd=>by
  unfold ahb;try dsimp only
  rw[aM];refine⟨λh=> ?_,λ_=>by simp only[aw,j8]⟩;have h:=dh h;rw[bQ,bQ,aS];refine⟨rfl,rfl,ax (aHS d.1.1.1 d.1.2 _ ?_) λx _ hx=> ?_⟩
  .dsimp only;simp only[dQ,A6,CC];omega
  obtain⟨a1,a2,a3,a4⟩:=hx;rw[aS,bQ];have hw:wI (d.1.2+1)=d.1.2+1:=bf;have:=aLC x.1.2.2.1 (by omega);simp only[bU];simp only[nf,pL,uL,hw,a1,a2,a3];repeat' (first|exact True.intro|omega|(intro _)|(apply And.intro))) (λd hd=>by omega)
theorem ahr (x0:Nat)(x1:Bool)(x2:Nat->Int)(x3:Nat->Int)(x4:Nat->Int)(w0:Bool)(h:x0<=1900):bA (kc x0 x1 x2 x3 x4 w0):=by
 unfold kc atl;refine aK ?_;rw[aS,bQ];refine⟨rfl,?_⟩;refine ax (aHT _ (by dsimp only;omega)) λd _ hd=> ?_;simp only[bU]
instance a6L (x1:Bool)(x2 x3 x4:Nat->Int)(w0:Bool):bA (kc 2 x1 x2 x3 x4 w0):=ahr _ _ _ _ _ _ (by omega)
instance a6M (x1:Bool)(x2 x3 x4:Nat->Int)(w0:Bool):bA (kc 3 x1 x2 x3 x4 w0):=ahr _ _ _ _ _ _ (by omega)
theorem aCD (i:Int):∀(d:ot.B) (hd:0<=d.1.2.2/\d.1.2.2<=4/\d.1.2.1=i),Ok (fu d) (λx:FX=>x.1.2.1=i):=
 bT (λd:ot.B=>z4 (4-d.1.2.2)) (λd hd=>by
  have hw:wI (d.1.2.2+1)=d.1.2.2+1:=bf;unfold Xm;simp only[bU];simp only[nf,pL,uL,hw];repeat' (first|exact True.intro|omega|(intro _)|(apply And.intro))) (λd hd=>by omega)
theorem aCE:∀(d:ou.B) (hd:0<=d.1/\d.1<=2),Ok (By d) (λx:FY=>True):=
 bT (λd:ou.B=>z4 (2-d.1)) (λd hd=>by
  unfold kD;try dsimp only
  rw[aM];refine⟨λh=> ?_,λ_=>by simp only[aw,j8]⟩;have h:=dh h;rw[bI];intro d1 _;refine ax (aCD d.1 _ (by simp)) λx _ hx=> ?_;have hw:wI (d.1+1)=d.1+1:=bf;simp only[aw,na,hx,hw];omega) (λd hd=>by omega)
instance a14 (x0:Int)(x1:Int)(x2:Int)(x3:Int)(x4:Bool):bA (cQ x0 x1 x2 x3 x4):=by
 unfold cQ Vx;refine aK ?_;rw[bI];intro d _;rw[aM];refine⟨λ_=>by simp only[bU],λ_=>ax (aCE _ (by simp)) λd _ hd=> ?_⟩;simp only[aw]
theorem apr (a b:Int):∀(d:eW.B) (hd:0<=d.1.2.2.2/\d.1.2.2.2<=d.1.2.2.1/\d.1.2.2.1<=1999/\d.1.2.2.1<=24/\d.1.1=a/\d.1.2.1=b),Ok (wY d) (λx:oK=>x.1.1=a/\x.1.2.1=b):=
 bT (λd:eW.B=>z4 (d.1.2.2.1-d.1.2.2.2)) (λd hd=>by
  have hw:wI (d.1.2.2.2+1)=d.1.2.2.2+1:=bf;unfold CS;simp only[bU];simp only[nf,pL,uL,hw];repeat' (first|exact True.intro|omega|(intro _)|(apply And.intro))) (λd hd=>by omega)
theorem aps (a b:Int):∀(d:eX.B) (hd:0<=d.1.2.2/\d.1.2.2<=24/\d.1.1=a/\d.1.2.1=b/\0<=a/\a<24),Ok (wZ d) (λx:oL=>x.1.2.1=b):=
 bT (λd:eX.B=>z4 (24-d.1.2.2)) (λd hd=>by
  have hw:wI (d.1.2.2+1)=d.1.2.2+1:=bf;unfold CT;simp only[bU];simp only[nf,pL,uL,hw];repeat' (first|exact True.intro|omega|(intro _)|(apply And.intro))) (λd hd=>by omega)
theorem apt:∀(d:fS.B) (hd:0<=d.1/\d.1<=24),Ok (w8 d) (λx:rF=>True):=
 bT (λd:fS.B=>z4 (24-d.1)) (λd hd=>by
  have hw:wI (d.1+1)=d.1+1:=bf;unfold CU;have h1:wI (24+d.1)=24+d.1:=eS;simp only[h1];simp only[bU];simp only[nf,pL,uL,hw];repeat' (first|exact True.intro|omega|(intro _)|(apply And.intro))) (λd hd=>by omega)
theorem apu:∀(d:eY.B) (hd:0<=d.1/\d.1<=24),Ok (w9 d) (λx:oM=>True):=
 bT (λd:eY.B=>z4 (24-d.1)) (λd hd=>by
  unfold CW;rw[aM];refine⟨λh=> ?_,λ_=>by simp only[aw,j8]⟩;have h:=dh h;have hw:wI (d.1+1)=d.1+1:=bf;refine ax (apr d.1 d.1 _ (by dsimp only;rw[hw];omega)) λx _ hx=> ?_;refine ax (aps d.1 d.1 _ (by dsimp only;omega)) λx _ hx=> ?_;simp only[aw,na,hx,hw];omega) (λd hd=>by omega)
instance aU9 (x0:Nat->Int)(x1:Nat->Int)(x2:Bool)(x3:Nat->Int):bA (pe x0 x1 x2 x3):=by
 unfold pe G6;refine aK ?_;refine ax (apu _ (by simp)) λd _ hd=> ?_;refine ax (apt _ (by simp)) λd _ hd=> ?_;simp only[bU]
instance a15 (x0:Nat->Int):bA (cj x0):=by
 unfold cj ahe;exact aK (by simp only[bU])
instance aWn (x0:Nat->Int)(x1:Int)(x2:Int)(x3:Int)(x4:Int):bA (mI x0 x1 x2 x3 x4):=by
 unfold mI JF;exact aK (by simp only[bU])
instance a1a (x0:Int)(x1:Int)(x2:Int)(x3:Int)(x4:Int)(x5:Int)(x6:Int)(x7:Int)(x8:Bool):bA (En x0 x1 x2 x3 x4 x5 x6 x7 x8):=by
 unfold En acL;exact aK (by simp only[bU])
instance aZ8 (x0:Int)(x1:Bool):bA (Bz x0 x1):=by
 unfold Bz Xw;exact aK (by simp only[bU])
instance a3O (x0:Int)(x1:Int)(x2:Int)(x3:Int)(x4:Int)(x5:Int)(x6:Int)(x7:Int)(x8:Bool):bA (kV x0 x1 x2 x3 x4 x5 x6 x7 x8):=by
 unfold kV ams;try dsimp only
 exact aK (by simp only[bU])
theorem aLE:∀(d:vh.B) (hd:0<=d.1/\d.1<=4),Ok (aas d) (λx:Rt=>True):=
 bT (λd:vh.B=>z4 (4-d.1)) (λd hd=>by
  have hw:wI (d.1+1)=d.1+1:=bf;unfold amt;simp only[bU];simp only[nf,pL,uL,hw];repeat' (first|exact True.intro|omega|(intro _)|(apply And.intro))) (λd hd=>by omega)
instance a5O (x0:Int)(x1:Int)(x2:Int)(x3:Int)(x4:Bool):bA (jY x0 x1 x2 x3 x4):=by
 unfold jY ayu;try dsimp only
 refine aK ?_;refine ax (aLE _ (by simp)) λd _ hd=> ?_;simp only[bU]
instance a5P:bA kE:=by
 have b1:=λx=>qh 0 4 1073741840 x (by omega) (by omega) (by omega)
 have b2:=λx=>qh 4 7 549755813888 x (by omega) (by omega) (by omega)
 have b3:=λx=>qh 7 10 9007199254740992 x (by omega) (by omega) (by omega)
 have b4:=λx=>qh 10 13 134217728 x (by omega) (by omega) (by omega)
 have b5:=λx=>qh 13 16 1073741824 x (by omega) (by omega) (by omega)
 have b6:=λx=>qh 16 22 2147483648 x (by omega) (by omega) (by omega)
 have b7:=λx=>qh 22 24 137438953472 x (by omega) (by omega) (by omega)
 unfold kE Tx;exact aK (by simp only[bU])
theorem av6:∀(d:jF.B) (hd:0<=d.1/\d.1<=24),Ok (BA d) (λx:wE=>True):=
 bT (λd:jF.B=>z4 (24-d.1)) (λd hd=>by
  have hw:wI (d.1+1)=d.1+1:=bf;unfold G8;simp only[bU];simp only[nf,pL,uL,hw];repeat' (first|exact True.intro|omega|(intro _)|(apply And.intro))) (λd hd=>by omega)
instance aZ9 (x0:Nat->Int)(x1:Bool):bA (lV x0 x1):=by
 unfold lV MF;refine aK ?_;rw[bI];intro d _;refine ax (av6 _ (by simp)) λd _ hd=> ?_;simp only[aw]
theorem a16 {x:Int}{y:aee}(h:yK x=some y)(k:(y:Int)<=1073741840): -1073741840<=x/\x<=1073741840:=by
 have e:PQ (Ej x) (λy:aee=>(y:Int)<=1073741840-> -1073741840<=x/\x<=1073741840):=by
  by_cases c:x<0/\ -1152921504606846976<x
  .have w:wI (0-x)=0-x:=eS;simp only[Ej,aM,aw,ES,j7,Om,w];exact⟨λ_=>(show(1152921504606846976:Int)<=1073741840-> -1073741840<=x/\x<=1073741840 by omega),λ_=>⟨λ_=>(show(1152921504606846976:Int)<=1073741840-> -1073741840<=x/\x<=1073741840 by omega),λ_=>⟨λ_=>(show(0-x:Int)<=1073741840-> -1073741840<=x/\x<=1073741840 by omega),λ_=>(show x<=1073741840-> -1073741840<=x/\x<=1073741840 by omega)⟩⟩⟩
  .simp only[Ej,aM,aw,ES,j7,Om];exact⟨λ_=>(show(1152921504606846976:Int)<=1073741840-> -1073741840<=x/\x<=1073741840 by omega),λ_=>⟨λ_=>(show(1152921504606846976:Int)<=1073741840-> -1073741840<=x/\x<=1073741840 by omega),λ_=>⟨λ_=>by omega,λ_=>(show x<=1073741840-> -1073741840<=x/\x<=1073741840 by omega)⟩⟩⟩
 exact Ok.post e h k
theorem apv (a b:Int):∀(d:eZ.B) (hd:0<=d.1.2.2/\d.1.2.2<=24/\d.1.1=a/\d.1.2.1=b/\0<=a/\a<24),Ok (xd d) (λx:oO=>x.1.2.1=b):=
 bT (λd:eZ.B=>z4 (24-d.1.2.2)) (λd hd=>by
  have hw:wI (d.1.2.2+1)=d.1.2.2+1:=bf;unfold CX;simp only[bU];simp only[nf,pL,uL,hw];repeat' (first|exact True.intro|omega|(intro _)|(apply And.intro))) (λd hd=>by omega)
theorem apw (a:Int):∀(d:ep.B) (hd:0<=d.1.2/\d.1.2<=48/\d.1.1=a/\0<=a/\a<24),Ok (rI d) (λx:lW=>x.1.1=a):=
 bT (λd:ep.B=>z4 (48-d.1.2)) (λd hd=>by
  have hw:wI (d.1.2+1)=d.1.2+1:=bf;unfold xf;simp only[bU];simp only[nf,pL,uL,hw];repeat' (first|exact True.intro|omega|(intro _)|(apply And.intro))) (λd hd=>by omega)
theorem apx (a b e g h:Int):∀(d:eu.B) (hd:0<=d.1.2.2.2.2.2.2/\d.1.2.2.2.2.2.2<=48/\d.1.1=a/\d.1.2.2.1=b/\0<=a/\a<24/\0<=b/\b<24/\d.1.2.2.2.2.1=g/\d.1.2.2.2.2.2.1=h),Ok (rJ d) (λx:lX=>x.1.1=a/\x.1.2.2.2.2.1=g/\x.1.2.2.2.2.2.1=h):=
 bT (λd:eu.B=>z4 (48-d.1.2.2.2.2.2.2)) (λd hd=>by
  have hw:wI (d.1.2.2.2.2.2.2+1)=d.1.2.2.2.2.2.2+1:=bf;unfold xg;simp only[bU];simp only[nf,pL,uL,hw];repeat' (first|exact True.intro|omega|(intro _)|(apply And.intro))) (λd hd=>by omega)
theorem apy:∀(d:fa.B) (hd:0<=d.1/\d.1<=24),Ok (xi d) (λx:oP=>True):=
 bT (λd:fa.B=>z4 (24-d.1)) (λd hd=>by
  unfold CY;rw[aM];refine⟨λh=> ?_,λ_=>by simp only[aw,j8]⟩;have h:=dh h;have hw:wI (d.1+1)=d.1+1:=bf;have h1:wI (24+d.1)=24+d.1:=eS;rw[h1];iterate 2 (rw[bQ];refine⟨by simp only[bp];omega,?_⟩)
  rw[bI];intro d1 _;iterate 4 (rw[bQ];refine⟨by simp only[bp,ch,pM];omega,?_⟩)
  refine ax (apv d.1 d.1 _ (by dsimp only;omega)) λx _ hx=> ?_;simp only[aw,na,hx,hw];omega) (λd hd=>by omega)
theorem apz (a:Int):∀(d:ew.B) (hd:0<=d.1.2.2.2/\d.1.2.2.2<=d.1.2.2.1/\d.1.1=a/\d.1.2.2.1<=24/\0<=a/\a<24),Ok (rK d) (λx:oQ=>x.1.1=a):=
 bT (λd:ew.B=>z4 (d.1.2.2.1-d.1.2.2.2)) (λd hd=>by
  unfold xj;try dsimp only
  rw[aM];refine⟨λh=> ?_,λ_=>by simp only[aw,j8];exact hd.2.2.1⟩;have h:=dh h;have hw:wI (d.1.2.2.2+1)=d.1.2.2.2+1:=bf;rw[bQ];refine⟨by simp only[bp];omega,?_⟩;rw[bI];intro d1 _;rw[bI];intro d2 _;rw[bI];intro d3 _;refine ax (apx d.1.1 d.1.2.2.2 d.1.1 d.1.2.2.1 d.1.2.2.2 _ (by dsimp only;omega)) λx _ hx=> ?_;obtain⟨a1,a2,a3⟩:=hx;simp only[aw,na,a1,a2,a3,hw];omega) (λd hd=>by omega)
theorem apA:∀(d:fe.B) (hd: -1<=d.1/\d.1<=23),Ok (rL d) (λx:oR=>True):=
 bT (λd:fe.B=>z4 (d.1+1)) (λd hd=>by
  unfold xm;try dsimp only
  rw[aM];refine⟨λh=> ?_,λ_=>by simp only[aw,j8]⟩;have h:=dh h;have hw:wI (d.1-1)=d.1-1:=eS;refine ax (apw d.1 _ (by dsimp only;omega)) λx _ hx=> ?_;rw[bQ];refine⟨by simp only[bp,hx];omega,?_⟩;rw[bI];intro d1 _;rw[bI];intro d2 _;rw[bQ];refine⟨by simp only[bp,hx];omega,?_⟩;rw[bQ];refine⟨by simp only[ch,pM,hx];omega,?_⟩;refine ax (apz d.1 _ (by dsimp only;omega)) λx _ hx=> ?_;simp only[aw,na,hx,hw];omega) (λd hd=>by omega)
instance aVa (x0:Nat->Int)(x1:Nat->Int)(x2:Nat->Int)(x3:Nat->Int)(x4:Bool):bA (gm x0 x1 x2 x3 x4):=by
 unfold gm BC;refine aK ?_;rw[bI];intro d _;refine ax (apy _ (by simp)) λd _ hd=> ?_;rw[bI];intro d1 _;refine ax (apA _ (by simp)) λd _ hd=> ?_;simp only[aw]
instance a3P (x0:Int):bA (zy x0):=by
 unfold zy Ru;exact aK (by simp only[bU])
theorem aLF (x:Int):zy x=some (decide (0<=x)&&decide (x<24)):=by
 simp only[zy,Ru,bN,bP];by_cases h0:0<=x<;>simp[h0]
instance aTW (x0:Int)(x1:Bool):bA (nj x0 x1):=by
 unfold nj E1;exact aK (by simp only[bU])
theorem av7:∀(d:gu.B) (hd:0<=d.1.2.2.2/\d.1.2.2.2<=d.1.2.2.1/\d.1.2.2.1<=1999/\d.1.2.2.1=((d.1.2.1.1:Nat):Int)),Ok (BE d) (λx:rM=>True):=
 bT (λd:gu.B=>z4 (d.1.2.2.1-d.1.2.2.2)) (λd hd=>by
  have hw:wI (d.1.2.2.2+1)=d.1.2.2.2+1:=bf;unfold Ha;simp only[bU,aLF,cz];simp only[nf,pL,uL,hw];repeat' (first|exact True.intro|omega|(intro _)|(apply And.intro))) (λd hd=>by omega)
theorem MW (x0:Nat->Int)(x1:Nat->Int)(x2:Int)(x3:Nat)(x4:Bool)(x5:Nat->Int)(w0:Bool)(h:x3<=1999):bA (cJ x0 x1 x2 x3 x4 x5 w0):=by
 unfold cJ F2;refine aK ?_;rw[bI];intro d1 _;rw[aS,bQ];refine⟨rfl,?_⟩;refine ax (av7 _ (hdN x3 h)) λd _ hd=> ?_;rw[bI];intro d2 _;simp only[aw]
def xo (x0 x1 x2 x3:Int)(j:Nat):Int:=if j=0 then x0 else if j=1 then x1 else if j=2 then x2 else x3
def sqW (f g:Nat->Int)(j:Nat)(x:Int):Prop:=(-1073741840<=x/\x<=1073741840)/\okW (f j) (g j)/\vW (f j) (g j)=x*x
theorem aew {x:Int}(h: -1073741840<=x/\x<=1073741840):0<=x*x/\x*x<=1152921538966585600:=by
 have key:∀u:Int,0<=u->u<=1073741840->0<=u*u/\u*u<=1152921538966585600:=λu u0 u1=>by
  refine⟨Aq u0 u0,?_⟩;have:=LH u1 u1 u0 (by omega);omega
 rcases abP 0 x with hx|hx
 .exact key x hx h.2
 .have:=key (-x) (by omega) (by omega);rwa [Int.neg_mul_neg] at this
theorem ahs {x:Int}{f g:Nat->Int}{n:Nat}{A:Type}{δ:Type}{Q:δ->Prop}{no1:Pg δ}{k:aln->Pg δ}
  (h1:(x< -1073741840∨1073741840<x)->PQ no1 Q)(h2:(-1073741840<=x/\x<=1073741840)->∀h l,fP x x=some (h,l)->okW h l->vW h l=x*x->PQ (k (h,l)) Q):
  PQ (opt (yK x) λak=>ae (decide (ak>1073741840)) no1 (opt (fP x x) k)) Q:=by
 rw[bI];intro d hd;rw[aM];refine⟨λh=> ?_,λh=> ?_⟩
 .refine h1 ?_;have h:=dh h
  have:¬(-1073741840<=x/\x<=1073741840):=λc=>by
   have e:PQ (Ej x) (λy:aee=>(y:Int)<=1073741840):=by
    by_cases c':x<0
    .have w:wI (0-x)=0-x:=eS;simp only[Ej,aM,aw,ES,j7,Om,w];exact⟨λ_=>by omega,λ_=>⟨λ_=>by omega,λ_=>⟨λ_=>(show(0-x:Int)<=1073741840 by omega),λ_=>by omega⟩⟩⟩
    .simp only[Ej,aM,aw,ES,j7,Om];exact⟨λ_=>by omega,λ_=>⟨λ_=>by omega,λ_=>⟨λ_=>by omega,λ_=>(show x<=1073741840 by omega)⟩⟩⟩
   have h3:(d:Int)<=1073741840:=Ok.post e hd;exact absurd (show(1073741840:Int)<d from h) (Int.not_lt.mpr h3)
  omega
 .have h:=wS h;have h':¬((1073741840:Int)<d):=h;have hx:=a16 hd (Int.not_lt.mp h');obtain⟨a,b,e,o,v⟩:=BG x x (by omega) (by omega) (by omega) (by omega);rw[e,cz];exact h2 hx a b e o v
theorem aR7 (x0 x1 x2 x3:Int)(d:mQ.B)(hd:∃n:Nat,n<=4/\d.1.1=n/\d.1.2.2=(n:Int)/\d.1.2.1=(x0,x1,x2,x3)/\∀j,j<n->sqW d.b.1 d.b.2 j (xo x0 x1 x2 x3 j)):
  Ok (Tj d) (λx:yL=>match x with
   |.inl _=>∃j,j<4/\(xo x0 x1 x2 x3 j< -1073741840∨1073741840<xo x0 x1 x2 x3 j)
   |.inr e=>e.1.1=4/\∀j,j<4->sqW e.b.1 e.b.2 j (xo x0 x1 x2 x3 j)):=
 uK (s:=_) (λd:mQ.B=>∃n:Nat,n<=4/\d.1.1=n/\d.1.2.2=(n:Int)/\d.1.2.1=(x0,x1,x2,x3)/\∀j,j<n->sqW d.b.1 d.b.2 j (xo x0 x1 x2 x3 j)) (λd:mQ.B=>4-d.1.1) (λx:yL=>match x with
   |.inl _=>∃j,j<4/\(xo x0 x1 x2 x3 j< -1073741840∨1073741840<xo x0 x1 x2 x3 j)
   |.inr e=>e.1.1=4/\∀j,j<4->sqW e.b.1 e.b.2 j (xo x0 x1 x2 x3 j)) (λd hd=>by
  obtain⟨⟨c,q,i⟩,q',f,g⟩:=d;obtain⟨n,hn,h1,h2,h3,h4⟩:=hd;simp only at h1 h2 h3 h4;subst h1 h3 h2
  have step:∀(h l:Int),c<4->okW h l->(-1073741840<=xo x0 x1 x2 x3 c/\xo x0 x1 x2 x3 c<=1073741840)->vW h l=xo x0 x1 x2 x3 c*xo x0 x1 x2 x3 c->
    ∀j,j<c+1->sqW (λj=>bif z9 j c then h else f j) (λj=>bif z9 j c then l else g j) j (xo x0 x1 x2 x3 j):=λh l hc ho hs hv j hj=>by
   unfold sqW;by_cases e:j=c
   .subst e;simp only[aS,bn];exact⟨hs,ho,hv⟩
   .have e':z9 j c=false:=by cases hb:z9 j c with|false=>rfl|true=>exact absurd (lE hb) e
    simp only[e',bx];exact h4 j (by omega)
  have hw:wI ((c:Int)+1)=((c+1:Nat):Int):=by rw[eS (by omega) (by omega)];omega
  have hb:wr ((c+1)*16) 140737488355328=true:=by rw[ch];omega
  unfold Ti;simp only[hw,hb]
  have fin:∀(h l:Int),c<4->okW h l->(-1073741840<=xo x0 x1 x2 x3 c/\xo x0 x1 x2 x3 c<=1073741840)->vW h l=xo x0 x1 x2 x3 c*xo x0 x1 x2 x3 c->
    (∃n:Nat,n<=4/\c+1=n/\((c+1:Nat):Int)=(n:Int)/\True/\∀j,j<n->sqW (λj=>bif z9 j c then h else f j) (λj=>bif z9 j c then l else g j) j (xo x0 x1 x2 x3 j))/\4-(c+1)<4-c:=λh l hc ho hs hv=>
   ⟨⟨c+1,by omega,rfl,rfl,trivial,step h l hc ho hs hv⟩,by omega⟩
  rcases(by omega:c=0∨c=1∨c=2∨c=3∨c=4) with rfl|rfl|rfl|rfl|rfl
  .rw[show decide (((0:Nat):Int)<4)=true from rfl,show aZ ((0:Nat):Int) 4=true from rfl,show(((0:Nat):Int)==3)=false from rfl,show(((0:Nat):Int)==2)=false from rfl,show(((0:Nat):Int)==1)=false from rfl];simp only[aM,On,yf,FH,SU,CC,A6];refine ahs (A:=Unit) (n:=0) (f:=f) (g:=g) (λh=> ?_) (λhs h l _ ho hv=> ?_)
   .simp only[aw,j8];exact⟨0,by omega,h⟩
   .rw[bQ];refine⟨rfl,?_⟩;simp only[aw,na];exact fin h l (by omega) ho hs hv
  .rw[show decide (((1:Nat):Int)<4)=true from rfl,show aZ ((1:Nat):Int) 4=true from rfl,show(((1:Nat):Int)==3)=false from rfl,show(((1:Nat):Int)==2)=false from rfl,show(((1:Nat):Int)==1)=true from rfl];simp only[aM,On,yf,FH,SU,CC,A6];refine ahs (A:=Unit) (n:=0) (f:=f) (g:=g) (λh=> ?_) (λhs h l _ ho hv=> ?_)
   .simp only[aw,j8];exact⟨1,by omega,h⟩
   .rw[bQ];refine⟨rfl,?_⟩;simp only[aw,na];exact fin h l (by omega) ho hs hv
  .rw[show decide (((2:Nat):Int)<4)=true from rfl,show aZ ((2:Nat):Int) 4=true from rfl,show(((2:Nat):Int)==3)=false from rfl,show(((2:Nat):Int)==2)=true from rfl];simp only[aM,On,yf,FH,SU,CC,A6];refine ahs (A:=Unit) (n:=0) (f:=f) (g:=g) (λh=> ?_) (λhs h l _ ho hv=> ?_)
   .simp only[aw,j8];exact⟨2,by omega,h⟩
   .rw[bQ];refine⟨rfl,?_⟩;simp only[aw,na];exact fin h l (by omega) ho hs hv
  .rw[show decide (((3:Nat):Int)<4)=true from rfl,show aZ ((3:Nat):Int) 4=true from rfl,show(((3:Nat):Int)==3)=true from rfl];simp only[aM,On,yf,FH,SU,CC,A6];refine ahs (A:=Unit) (n:=0) (f:=f) (g:=g) (λh=> ?_) (λhs h l _ ho hv=> ?_)
   .simp only[aw,j8];exact⟨3,by omega,h⟩
   .rw[bQ];refine⟨rfl,?_⟩;simp only[aw,na];exact fin h l (by omega) ho hs hv
  .rw[show decide (((4:Nat):Int)<4)=false from rfl];simp only[aM,aw,yf,FH,SU,A6,j8];exact h4) 2000 d hd (by obtain⟨n,hn,h1,_⟩:=hd;omega)
theorem aVb (n:Nat)(hn:n<=100)(f g:Nat->Int)(w:Bool)(B:Int)(hB:0<=B)(hB2:B<=1329227995784915872903807060280344576)(h:∀j,j<n->okW (f j) (g j)/\ -B<=vW (f j) (g j)/\vW (f j) (g j)<=B):
  ∃a b,kU n f g w=some ((a,b),true)/\okW a b/\vW a b=pk (λj=>vW (f j) (g j)) n:=by
 have key:∃x:IG,IH (((n,w),ws n,0),(f,g),0,0)=some x/\(match x with
   |.inl _=>False
   |.inr e=>okW e.b.1 e.b.2/\vW e.b.1 e.b.2=pk (λj=>vW (f j) (g j)) n):=by
  unfold IH
  refine Z5 (s:=Ek K4) (λt d=>∃(i:Nat) (a b:Int),i+t=n/\okW a b/\vW a b=pk (λj=>vW (f j) (g j)) i/\d=(((n,w),ws n,ws i),(f,g),a,b)) _ (λt d=> ?_) 2000 n _ (by omega)
   ⟨0,0,0,by omega,⟨by omega,by omega,by omega,by omega⟩,rfl,rfl⟩
  rintro ⟨i,a,b,hi,ho,hv,rfl⟩
  rcases SQ t with t0|t0
  .have e:i=n:=by omega
   subst e;simp only[Ek,bP,bN,bZ,eD,ao3 (cP i),bx];exact⟨_,rfl,ho,hv⟩
  .obtain⟨o1,b1,b2⟩:=h i (by omega);have bnd:=aev (λj=>vW (f j) (g j)) B hB i (λj hj=>(h j (by omega)).2);obtain⟨a2,b2',q,e,o2,c,v⟩:=ayD a b (f i) (g i) ho o1
   have hmul:(i:Int)*B<=100*1329227995784915872903807060280344576:=by
    have:=LH (show(i:Int)<=100 by omega) hB2 hB (by omega);exact this
   have hq:q=true:=by rw[c,hv];omega
   subst hq;have v:=v rfl;have qq:z4 (ws i)=i:=rfl;simp only[Ek,bP,bN,bZ,eD,wI,ao2 hi t0,aaL (show i<n by omega),bn,qq,bC,e,HW,bx,ao4 (show i<9000000000000000000 by omega)];exact⟨_,rfl,t-1,by omega,i+1,a2,b2',by omega,o2,by rw[v,hv];rfl,rfl⟩
 obtain⟨x,hx,hp⟩:=key;simp only[kU,aac,bP,bN,bZ,eD,dD];rw[aS,bn,hx,bC];cases x with
 |inl e=>exact hp.elim
 |inr e=>exact⟨e.b.1,e.b.2,rfl,hp.1,hp.2⟩
theorem aGk (x0 x1 x2 x3:Int):Ok (sF x0 x1 x2 x3) (λb:Bool=>b=true↔((∀j,j<4-> -1073741840<=xo x0 x1 x2 x3 j/\xo x0 x1 x2 x3 j<=1073741840)/\ -4294967296<=x0*x0+x1*x1+x2*x2+x3*x3-1152921504606846976/\x0*x0+x1*x1+x2*x2+x3*x3-1152921504606846976<=4294967296)):=by
 unfold sF acy;show PQ _ _;rw[bQ];refine⟨rfl,ax (aR7 x0 x1 x2 x3 _ ⟨0,by omega,rfl,rfl,rfl,λj hj=>absurd hj (by omega)⟩) λx _ hx=> ?_⟩;rw[og];constructor
 .rintro a rfl
  rw[aw];obtain⟨j,hj,hs⟩:=hx;exact⟨λh=>(by cases h),λh=>by have:=h.1 j hj;omega⟩
 .rintro e rfl
  obtain⟨h1,h2⟩:=hx;rw[aS,bQ];refine⟨rfl,?_⟩;have sm:∀j,j<4-> -1073741840<=xo x0 x1 x2 x3 j/\xo x0 x1 x2 x3 j<=1073741840:=λj hj=>(h2 j hj).1
  obtain⟨a,b,ea,oa,va⟩:=aVb 4 (by omega) e.b.1 e.b.2 true 1152921538966585600 (by omega) (by omega) (λj hj=>by
   obtain⟨s1,s2,s3⟩:=h2 j hj;have:=aew s1;exact⟨s2,by rw[s3];omega,by rw[s3];omega⟩)
  rw[h1,ea,cz];have s0:=aew (sm 0 (by omega));have s1:=aew (sm 1 (by omega));have s2:=aew (sm 2 (by omega));have s3:=aew (sm 3 (by omega))
  have vs:vW a b=x0*x0+x1*x1+x2*x2+x3*x3:=by
   rw[va];simp only[pk,(h2 0 (by omega)).2.2,(h2 1 (by omega)).2.2,(h2 2 (by omega)).2.2,(h2 3 (by omega)).2.2];simp only[xo,lK,if_neg (show ¬(1:Nat)=0 by omega),if_neg (show ¬(2:Nat)=0 by omega),if_neg (show ¬(2:Nat)=1 by omega),if_neg (show ¬(3:Nat)=0 by omega),if_neg (show ¬(3:Nat)=1 by omega),if_neg (show ¬(3:Nat)=2 by omega)];omega
  have t0:xo x0 x1 x2 x3 0=x0:=rfl;have t1:xo x0 x1 x2 x3 1=x1:=rfl;have t2:xo x0 x1 x2 x3 2=x2:=rfl;have t3:xo x0 x1 x2 x3 3=x3:=rfl;rw[t0] at s0;rw[t1] at s1;rw[t2] at s2;rw[t3] at s3;generalize hS:x0*x0+x1*x1+x2*x2+x3*x3=S at*
  have r:=wide_round a b 0 (by omega) oa;rw[aJo,vs,show ws 0=0 from rfl,if_pos (by omega)] at r;rw[r,cz];have hw:wI (S-1152921504606846976)=S-1152921504606846976:=eS;simp only[hw,aM,aw,SU,On,FH,CC,j7,Om,ES];exact⟨λk=>⟨λm=>⟨sm,k,m⟩,λc=>c.2.2⟩,λk=>⟨λh=>(by cases h),λc=>absurd c.2.1 k⟩⟩
instance a7A (x0 x1 x2 x3:Int):bA (sF x0 x1 x2 x3):=(aGk x0 x1 x2 x3).tot
instance a1b (x0:Nat->Int)(x1:Bool):bA (bW x0 x1):=by
 unfold bW QG;exact aK (by simp only[bU])
instance aVc (x0:Int)(x1:Bool):bA (ju x0 x1):=by
 unfold ju O0;exact aK (by simp only[bU])
instance a4T (x0:Int)(x1:Int)(x2:Int)(x3:Bool):bA (O2 x0 x1 x2 x3):=by
 unfold O2 atn;exact aK (by simp only[bU])
instance a0a (x0:Nat->Int)(x1:Int)(x2:Int)(x3:Int)(x4:Int)(x5:Int)(x6:Int)(x7:Int)(x8:Int)(x9:Bool):bA (ti x0 x1 x2 x3 x4 x5 x6 x7 x8 x9):=by
 unfold ti XC;exact aK (by simp only[bU])
instance a1c (x0:Nat->Int)(x1:Int)(x2:Int)(x3:Int)(x4:Int)(x5:Int)(x6:Int)(x7:Int)(x8:Int)(x9:Bool):bA (nR x0 x1 x2 x3 x4 x5 x6 x7 x8 x9):=by
 unfold nR QI;try dsimp only
 exact aK (by simp only[bU])
theorem aGl:∀(d:qg.B) (hd:0<=d.1.2/\d.1.2<=3),Ok (QJ d) (λx:IP=>True):=
 bT (λd:qg.B=>z4 (3-d.1.2)) (λd hd=>by
  have hw:wI (d.1.2+1)=d.1.2+1:=bf;unfold acN;simp only[bU];simp only[nf,uL,hw];repeat' (first|exact True.intro|omega|(intro _)|(apply And.intro))) (λd hd=>by omega)
instance a3Q (x0:Int)(x1:Int)(x2:Int)(x3:Bool):bA (zw x0 x1 x2 x3):=by
 unfold zw aat;refine aK ?_;rw[bI];intro d _;rw[aM];refine⟨λ_=>by simp only[bU],λ_=> ?_⟩;rw[bI];intro d1 _;refine ax (aGl _ (by simp)) λd _ hd=> ?_;simp only[bU]
theorem aCF:∀(d:ov.B) (hd:0<=d.1.2/\d.1.2<=24),Ok (MO d) (λx:F4=>True):=
 bT (λd:ov.B=>z4 (24-d.1.2)) (λd hd=>by
  have hw:wI (d.1.2+1)=d.1.2+1:=bf;unfold XS;simp only[bU];simp only[nf,uL,hw];repeat' (first|exact True.intro|omega|(intro _)|(apply And.intro))) (λd hd=>by omega)
instance a17 (x0:Nat->Int)(x1:Int)(x2:Bool):bA (Hb x0 x1 x2):=by
 unfold Hb ahj;refine aK ?_;rw[bI];intro d1 _;refine ax (aCF _ (by simp)) λd _ hd=> ?_;simp only[aw]
theorem atw:∀(d:iA.B) (hd:0<=d.1.2/\d.1.2<=24),Ok (zz d) (λx:tX=>True):=
 bT (λd:iA.B=>z4 (24-d.1.2)) (λd hd=>by
  have hw:wI (d.1.2+1)=d.1.2+1:=bf;unfold E2;simp only[bU];simp only[nf,uL,hw];repeat' (first|exact True.intro|omega|(intro _)|(apply And.intro))) (λd hd=>by omega)
theorem atx (a b:Int):∀(d:iB.B) (hd:0<=d.1.2.2.2.2/\d.1.2.2.2.2<=d.1.2.2.2.1/\d.1.2.2.2.1<=1999/\d.1.1=a/\d.1.2.2.1=b/\(d.1.2.1:Int)=d.1.2.2.2.2/\d.1.2.2.2.1=a+1),Ok (zA d) (λx:tY=>x.1.1=a/\x.1.2.2.1=b/\(x.1.2.1:Int)=a+1):=
 bT (λd:iB.B=>z4 (d.1.2.2.2.1-d.1.2.2.2.2)) (λd hd=>by
  have hw:wI (d.1.2.2.2.2+1)=d.1.2.2.2.2+1:=bf;unfold E3;simp only[bU];simp only[nf,uL,hw];repeat' (first|exact True.intro|omega|(intro _)|(apply And.intro))) (λd hd=>by omega)
theorem aty:∀(d:iC.B) (hd:0<=d.1/\d.1<=24),Ok (zB d) (λx:tZ=>True):=
 bT (λd:iC.B=>z4 (24-d.1)) (λd hd=>by
  unfold E4;try dsimp only
  rw[aM];refine⟨λh=> ?_,λ_=>by simp only[aw,j8]⟩;have h:=dh h;have hw:wI (d.1+1)=d.1+1:=bf;rw[bQ,hw];refine⟨rfl,ax (atx d.1 d.1 _ (by dsimp only;omega)) λx _ hx=> ?_⟩;obtain⟨a1,a2,a3⟩:=hx;have hn:x.1.2.1=z4 (d.1+1):=by omega
  have td:=λa b c=>MV (z4 (d.1+1)) (by omega) a b c false true
  simp only[a1,a2,hw,hn];simp only[bU];simp only[nf,uL];repeat' (first|exact True.intro|omega|(intro _)|(apply And.intro))) (λd hd=>by omega)
instance aWo (x0:Nat->Int)(x1:Nat->Int)(x2:Nat->Int)(x3:Int)(x4:Bool):bA (mJ x0 x1 x2 x3 x4):=by
 unfold mJ JJ;try dsimp only
 refine aK ?_;rw[bI];intro d1 _;refine ax (atw _ (by simp)) λd _ hd=> ?_;rw[bI];intro d2 _;refine ax (aty _ (by simp)) λd _ hd=> ?_;simp only[aw]
instance aMJ (x0:Nat->Int)(x1:Nat->Int)(x2:Nat->Int)(x3:Int)(x4:Bool):bA (nG x0 x1 x2 x3 x4):=by
 unfold nG ED;exact aK (by simp only[bU])
instance a3R (x0:Int)(x1:Int)(x2:Int)(x3:Int):bA (Rv x0 x1 x2 x3):=by
 unfold Rv amI;exact aK (by simp only[bU])
theorem amW (a b:Int):∀(d:fW.B) (hd:0<=d.1.2.2.2.2/\d.1.2.2.2.2<=d.1.2.2.2.1/\d.1.2.2.2.1<=1999/\d.1.1=a/\d.1.2.2.1=b/\d.1.2.2.2.1=a/\0<=a/\a<24),Ok (uO d) (λx:qx=>x.1.2.2.1=b):=
 bT (λd:fW.B=>z4 (d.1.2.2.2.1-d.1.2.2.2.2)) (λd hd=>by
  have hw:wI (d.1.2.2.2.2+1)=d.1.2.2.2.2+1:=bf;unfold A7;simp only[bU];simp only[nf,uL,hw];repeat' (first|exact True.intro|omega|(intro _)|(apply And.intro))) (λd hd=>by omega)
theorem amX:∀(d:fX.B) (hd:0<=d.1/\d.1<=24),Ok (uP d) (λx:qy=>True):=
 bT (λd:fX.B=>z4 (24-d.1)) (λd hd=>by
  have hw:wI (d.1+1)=d.1+1:=bf;unfold A8;simp only[bU];simp only[nf,uL,hw];repeat' (first|exact True.intro|omega|(intro _)|(apply And.intro))) (λd hd=>by omega)
theorem amY:∀(d:fY.B) (hd:0<=d.1/\d.1<=24),Ok (uQ d) (λx:qz=>True):=
 bT (λd:fY.B=>z4 (24-d.1)) (λd hd=>by
  unfold A9;try dsimp only
  rw[aM];refine⟨λh=> ?_,λ_=>by simp only[aw,j8]⟩;have h:=dh h;have hw:wI (d.1+1)=d.1+1:=bf;iterate 4 (rw[bQ];refine⟨by simp only[nf,uL,hw];omega,?_⟩)
  iterate 2 (rw[bI];intro _ _)
  iterate 5 (rw[bQ];refine⟨by simp only[nf,uL,hw];omega,?_⟩)
  rw[bI];intro _ _;iterate 4 (rw[bQ];refine⟨by simp only[nf,uL,hw];omega,?_⟩)
  refine ax (amW d.1 d.1 _ (by dsimp only;omega)) λx _ hx=> ?_;simp only[aw,na,hx,hw];omega) (λd hd=>by omega)
theorem atz:∀(d:ke.B) (hd:0<=d.1.2/\d.1.2<=24),Ok (E6 d) (λx:zE=>True):=
 bT (λd:ke.B=>z4 (24-d.1.2)) (λd hd=>by
  have hw:wI (d.1.2+1)=d.1.2+1:=bf;unfold MP;simp only[bU];simp only[nf,uL,hw];repeat' (first|exact True.intro|omega|(intro _)|(apply And.intro))) (λd hd=>by omega)
instance aWp (x0:Nat->Int)(x1:Int)(x2:Bool):bA (yQ x0 x1 x2):=by
 unfold yQ TF;refine aK ?_;refine ax (atz _ (by simp)) λd _ hd=> ?_;simp only[bU]
end Go.Proofs.YtldgljclcgaibaaGreat
