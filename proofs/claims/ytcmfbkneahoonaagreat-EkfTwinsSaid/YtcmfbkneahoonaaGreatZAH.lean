/-
  Parts of the proof: PI PWS PWT PWU PWV PRT PWY PWZ PWQ PRE Tot TA TB TC TD
-/
import Derived.Test.YtcmfbkneahoonaaGreatZAE
import Derived.Test.YtcmfbkneahoonaaGreatZAG
namespace Go.Ab
theorem MM {D X ρ:Type}{s:D->Pg (D⊕X)}{k:X->Option ρ}{r:Option ρ}(Inv:Nat->D->Prop)
  (h:∀t d c,Inv t d->(∀t' d',t'<t->Inv t' d'->c d'=r)->(s d).run (Sum.elim c k)=r)(fuel t:Nat)(d:D)(hf:t<fuel)(hd:Inv t d):(bD s fuel d).bind k=r:=by
 rw[aiI]
 exact aCE Inv h fuel t d hf hd
theorem Yf {D X:Type}{s:D->Pg (D⊕X)}(Inv:Nat->D->Prop)(Q:X->Prop)
  (h:∀t d,Inv t d->∃y,(s d).val=some y∧match y with|.inl d'=>∃t',t'<t∧Inv t' d'|.inr x=>Q x):∀(fuel t:Nat) (d:D),t<fuel->Inv t d->∃x,bD s fuel d=some x∧Q x
 |0,t,d,hf,hd=>by omega
 |fuel+1,t,d,hf,hd=>by
  obtain⟨y,hy,hq⟩:=h t d hd
  have e:bD s (fuel+1) d=(s d).run (Sum.elim (λd=>bD s fuel d) some):=rfl
  rw[e,<-Pg.aBS,hy,Option.bind_some]
  cases y with
  |inl d'=>obtain⟨t',ht,hd'⟩:=hq;exact Yf Inv Q h fuel t' d' (by omega) hd'
  |inr x=>exact⟨x,rfl,hq⟩
end Go.Ab
set_option maxRecDepth 100000
set_option maxHeartbeats 4000000
set_option linter.unusedVariables false
set_option linter.unusedSimpArgs false
namespace Go.Ab
theorem EM (n:Int):IntKind.wrap .i64 n=if 9223372036854775808<=n%18446744073709551616 then n%18446744073709551616-18446744073709551616 else n%18446744073709551616:=by
 unfold IntKind.wrap
 simp only[IntKind.signed,IntKind.bits,Bool.true_and,decide_eq_true_eq,show(2:Int)^64=18446744073709551616 from rfl,show(2:Int)^(64-1)=9223372036854775808 from rfl,ge_iff_le]
theorem o6 (a b:Int)(h:0<=b):Int.fdiv a b=a/b:=Int.fdiv_eq_ediv_of_nonneg a h
theorem SI (x:Int)(h0:0<=x)(h1:x<18446744073709551616):(BitVec.ofInt 64 x).toNat=x.toNat:=by
 rw[BitVec.toNat_ofInt]
 congr 1
 simp only[Nat.reducePow,Int.cast_ofNat_Int]
 omega
theorem abL (x:Int)(h0:0<=x)(h1:x<18446744073709551616):Int.ofNat (BitVec.toNat (BitVec.ofInt 64 18446744073709551615^^^BitVec.ofInt 64 x))=18446744073709551615-x:=by
 have e:BitVec.ofInt 64 18446744073709551615=BitVec.allOnes 64:=by decide
 rw[e,BitVec.allOnes_xor,BitVec.toNat_not,SI x h0 h1]
 simp only[Int.ofNat_eq_natCast]
 omega
theorem amm (x:Int)(h0:0<=x)(h1:x<18446744073709551616):Int.ofNat (BitVec.toNat (BitVec.ofInt 64 x&&&BitVec.ofInt 64 4294967295))=x%4294967296:=by
 rw[BitVec.toNat_and,SI x h0 h1]
 have e:(BitVec.ofInt 64 4294967295).toNat=2^32-1:=by decide
 rw[e,Nat.and_two_pow_sub_one_eq_mod]
 simp only[Int.ofNat_eq_natCast]
 omega
theorem avF (x y:Int)(k:Nat)(h0:0<=x)(h1:x<2^k)(h2:0<=y)(h3:y<18446744073709551616)(h4:x<18446744073709551616)(h5:y%2^k=0):
  Int.ofNat (BitVec.toNat (BitVec.ofInt 64 x|||BitVec.ofInt 64 y))=x+y:=by
 rw[BitVec.toNat_or,SI x h0 h4,SI y h2 h3]
 obtain⟨q,hq⟩:∃q:Nat,y.toNat=2^k*q:=by
  refine⟨y.toNat/2^k,?_⟩
  have:y.toNat%2^k=0:=by
   have e:((y.toNat%2^k:Nat):Int)=y%2^k:=by
    rw[Int.natCast_emod,Int.toNat_of_nonneg h2]
    simp
   omega
  exact(Nat.mul_div_cancel' (Nat.dvd_of_mod_eq_zero this)).symm
 have hx:x.toNat<2^k:=by
  have e:((2^k:Nat):Int)=(2:Int)^k:=by simp
  omega
 rw[hq,Nat.or_comm,<-Nat.two_pow_add_eq_or_of_lt hx,<-hq]
 simp only[Int.ofNat_eq_natCast]
 omega
end Go.Ab
namespace Go.Proofs.YtcmfbkneahoonaaGreat
open Go.Ab
abbrev okW (h l:Int):Prop:= -9223372036854775808<=h∧h<=9223372036854775807∧0<=l∧l<18446744073709551616
abbrev vW (h l:Int):Int:=h*18446744073709551616+l
theorem aTd (x:Int)(h0: -9223372036854775808<=x)(h1:x<=9223372036854775807):∃h l,TY x=some (h,l)∧okW h l∧vW h l=x:=by
 unfold vW
 simp only[TY,ap9,Pg.bP,Pg.bM,Pg.cq,Pg.eE,Pg.dM]
 try delta wI wU
 refine⟨_,_,rfl,?_,?_⟩<;>rw[wrap_u64,o6 _ _ (by omega)]<;>omega
theorem MN (x y c:Int)(x0:0<=x)(y0:0<=y)(c0:0<=c)(c1:c<=1):Ba x y c=some ((x+y+c)%18446744073709551616,(x+y+c)/18446744073709551616):=by
 unfold Ba
 have h:Nat.ble c.toNat 1=true:=Nat.ble_eq_true_of_le (by omega)
 rw[h,cond_true]
 congr 1
 unfold aSV aSW
 simp only[Int.ofNat_eq_natCast,Prod.mk.injEq]
 constructor<;>omega
theorem avG (h1 l1 h2 l2:Int)(o1:okW h1 l1)(o2:okW h2 l2):∃h l b,IH h1 l1 h2 l2=some ((h,l),b)∧okW h l∧(b=true↔ -170141183460469231731687303715884105728<=vW h1 l1+vW h2 l2∧vW h1 l1+vW h2 l2<170141183460469231731687303715884105728)∧(b=true->vW h l=vW h1 l1+vW h2 l2):=by
 obtain⟨a1,a2,a3,a4⟩:=o1
 obtain⟨b1,b2,b3,b4⟩:=o2
 unfold vW
 simp only[IH,ai7,Pg.bP,Pg.bM,Pg.cq,Pg.eE,Pg.dM]
 try delta wI wU
 rw[MN l1 l2 0 a3 b3 (by omega) (by omega)]
 simp only[Option.bind_some,wrap_u64]
 rw[MN _ _ _ (by omega) (by omega) (by omega) (by omega)]
 simp only[Option.bind_some]
 generalize hc:(l1+l2+0)/18446744073709551616=c
 generalize hl:(l1+l2+0)%18446744073709551616=l
 generalize hm:(h1%18446744073709551616+h2%18446744073709551616+c)%18446744073709551616=m
 have hw:=EM m
 generalize IntKind.wrap IntKind.i64 m=w at*
 have hw1:w=m∨w=m-18446744073709551616:=by split at hw<;>omega
 have hw2: -9223372036854775808<=w∧w<=9223372036854775807:=by split at hw<;>omega
 by_cases n1:h1<0
 ·by_cases n2:h2<0
  ·have e:(!decide (h1<0)==decide (h2<0))=false:=by simp[n1,n2]
   simp only[e,cond_false]
   refine⟨w,l,_,rfl,⟨hw2.1,hw2.2,by omega,by omega⟩,?_,?_⟩
   ·simp only[n1,decide_true,beq_true,decide_eq_true_eq]
    constructor<;>intro h<;>omega
   ·simp only[n1,decide_true,beq_true,decide_eq_true_eq]
    intro h;omega
  ·have e:(!decide (h1<0)==decide (h2<0))=true:=by simp[n1,n2]
   simp only[e,cond_true]
   refine⟨w,l,_,rfl,⟨hw2.1,hw2.2,by omega,by omega⟩,?_,?_⟩
   ·simp only[true_iff];constructor<;>omega
   ·intro h;omega
 ·by_cases n2:h2<0
  ·have e:(!decide (h1<0)==decide (h2<0))=true:=by simp[n1,n2]
   simp only[e,cond_true]
   refine⟨w,l,_,rfl,⟨hw2.1,hw2.2,by omega,by omega⟩,?_,?_⟩
   ·simp only[true_iff];constructor<;>omega
   ·intro h;omega
  ·have e:(!decide (h1<0)==decide (h2<0))=false:=by simp[n1,n2]
   simp only[e,cond_false]
   refine⟨w,l,_,rfl,⟨hw2.1,hw2.2,by omega,by omega⟩,?_,?_⟩
   ·simp only[n1,decide_false,_root_.beq_false,Bool.not_eq_true',decide_eq_false_iff_not]
    constructor<;>intro h<;>omega
   ·simp only[n1,decide_false,_root_.beq_false,Bool.not_eq_true',decide_eq_false_iff_not]
    intro h;omega
theorem aFw (h l:Int)(o:okW h l):∃ah al,De h l=some ((ah,al),decide (h<0))∧0<=ah∧ah<=9223372036854775808∧0<=al∧al<18446744073709551616∧ah*18446744073709551616+al=(if h<0 then -vW h l else vW h l):=by
 obtain⟨a1,a2,a3,a4⟩:=o
 unfold vW
 simp only[De,aiT,Pg.bP,Pg.bM,Pg.cq,Pg.eE,Pg.dM]
 try delta wI wU
 by_cases n:h<0
 ·have e:decide (h>=0)=false:=decide_eq_false (by omega)
  simp only[e,cond_false,abL l a3 a4,wrap_u64]
  rw[abL (h%18446744073709551616) (by omega) (by omega),MN _ _ _ (by omega) (by omega) (by omega) (by omega)]
  simp only[Option.bind_some,n,decide_true,if_true]
  refine⟨_,_,rfl,?_,?_,?_,?_,?_⟩<;>omega
 ·have e:decide (h>=0)=true:=decide_eq_true (by omega)
  simp only[e,cond_true,wrap_u64,n,decide_false,if_false]
  refine⟨_,_,rfl,?_,?_,?_,?_,?_⟩<;>omega
theorem aFx (h1 l1 h2 l2:Int)(a0:0<=h1)(b0:0<=l1)(c0:0<=h2)(d0:0<=l2)(b1:l1<18446744073709551616)(d1:l2<18446744073709551616):
  hO h1 l1 h2 l2=some ((h1+h2+(l1+l2)/18446744073709551616)%18446744073709551616,(l1+l2)%18446744073709551616):=by
 simp only[hO,Mi,Pg.bP,Pg.bM,Pg.cq,Pg.eE,Pg.dM]
 try delta wI wU
 rw[MN _ _ _ b0 d0 (by omega) (by omega)]
 simp only[Option.bind_some,Int.add_zero]
 rw[MN _ _ _ a0 c0 (by omega) (by omega)]
 rfl
theorem aTe (n:Nat)(hn:n<126):fW 0 1 (Int.ofNat n)=some (2^n/18446744073709551616,2^n%18446744073709551616):=by
 have key:∀n:Fin 126,fW 0 1 (Int.ofNat n.val)=some ((2:Int)^n.val/18446744073709551616,(2:Int)^n.val%18446744073709551616):=by decide+kernel
 exact key ⟨n,hn⟩
theorem kK (n:Nat):(0:Int)<2^n:=Int.pow_pos (by decide)
theorem atb (h l:Int)(s:Nat)(hs:s<=126)(h0:0<=h)(h1:h<18446744073709551616)(l0:0<=l)(l1:l<18446744073709551616):
  ∃h' l',gX h l (Int.ofNat s)=some (h',l')∧0<=h'∧0<=l'∧l'<18446744073709551616∧h'*18446744073709551616+l'=(h*18446744073709551616+l)/2^s:=by
 simp only[gX,G5,Pg.bP,Pg.bM,Pg.cq,Pg.eE,Pg.dM]
 try delta wI wU
 by_cases c:64<=s
 ·have e:decide (Int.ofNat s>=64)=true:=by simp only[Int.ofNat_eq_natCast];exact decide_eq_true (by omega)
  have e2:IntKind.wrap .i64 (Int.ofNat s-64)=Int.ofNat (s-64):=(wrap_i64 (by simp only[Int.ofNat_eq_natCast];omega) (by simp only[Int.ofNat_eq_natCast];omega)).trans (by simp only[Int.ofNat_eq_natCast];omega)
  have e3:(!decide (Int.ofNat (s-64)<0))=true:=by simp
  have e4:min (Int.toNat (Int.ofNat (s-64))) 64=s-64:=by
   show min (s-64) 64=s-64
   omega
  simp only[e,e2,e3,e4,cond_true]
  rw[o6 _ _ (Int.le_of_lt (kK _))]
  refine⟨_,_,rfl,by omega,Int.ediv_nonneg h0 (Int.le_of_lt (kK _)),Int.lt_of_le_of_lt (Int.ediv_le_self _ h0) h1,?_⟩
  have p:(2:Int)^s=18446744073709551616*2^(s-64):=by
   rw[show(18446744073709551616:Int)=2^64 from rfl,<-Int.pow_add]
   congr 1;omega
  rw[p,<-Int.ediv_ediv_of_nonneg (by decide)]
  have:(h*18446744073709551616+l)/18446744073709551616=h:=by omega
  rw[this];omega
 ·have e:decide (Int.ofNat s>=64)=false:=by simp only[Int.ofNat_eq_natCast];exact decide_eq_false (by omega)
  have e2:IntKind.wrap .i64 (64-Int.ofNat s)=Int.ofNat (64-s):=(wrap_i64 (by simp only[Int.ofNat_eq_natCast];omega) (by simp only[Int.ofNat_eq_natCast];omega)).trans (by simp only[Int.ofNat_eq_natCast];omega)
  have e3:∀n,(!decide (Int.ofNat n<0))=true:=by simp
  have e4:min (Int.toNat (Int.ofNat (64-s))) 64=64-s:=by
   show min (64-s) 64=64-s
   omega
  have e5:min (Int.toNat (Int.ofNat s)) 64=s:=by
   show min s 64=s
   omega
  simp only[e,e2,e3,e4,e5,cond_true,cond_false,wrap_u64]
  rw[o6 _ _ (Int.le_of_lt (kK _)),o6 _ _ (Int.le_of_lt (kK _))]
  have pq:(18446744073709551616:Int)=2^s*2^(64-s):=by
   rw[<-Int.pow_add,show s+(64-s)=64 by omega];rfl
  generalize hP:(2:Int)^s=P at*
  generalize hQ:(2:Int)^(64-s)=Q at*
  have P0:0<P:=by rw[<-hP];exact kK s
  have Q0:0<Q:=by rw[<-hQ];exact kK (64-s)
  have m:h*Q%18446744073709551616=h%P*Q:=by
   rw[pq,Int.mul_comm h Q,Int.mul_comm P Q,Int.mul_emod_mul_of_pos _ _ Q0,Int.mul_comm]
  have x0:0<=l/P:=Int.ediv_nonneg l0 (Int.le_of_lt P0)
  have x1:l/P<Q:=Int.ediv_lt_of_lt_mul P0 (by rw[Int.mul_comm,<-pq];exact l1)
  have y0:0<=h%P:=Int.emod_nonneg _ (by omega)
  have y1:h%P<P:=Int.emod_lt_of_pos _ P0
  have y2:h%P*Q+Q<=18446744073709551616:=by
   have:(h%P+1)*Q<=P*Q:=Int.mul_le_mul_of_nonneg_right (by omega) (Int.le_of_lt Q0)
   rw[Int.add_mul,<-pq] at this;omega
  have y3:0<=h%P*Q:=Int.mul_nonneg y0 (Int.le_of_lt Q0)
  have key:Int.ofNat (BitVec.toNat (BitVec.ofInt 64 (l/P)|||BitVec.ofInt 64 (h*Q%18446744073709551616)))=l/P+h%P*Q:=by
   rw[m]
   exact avF _ _ (64-s) x0 (by rw[hQ];exact x1) y3 (by omega) (by omega) (by rw[hQ];exact Int.mul_emod_left _ _)
  rw[key]
  have z:(l/P+h%P*Q)%18446744073709551616=l/P+h%P*Q:=Int.emod_eq_of_lt (by omega) (by omega)
  rw[z]
  refine⟨_,_,rfl,Int.ediv_nonneg h0 (Int.le_of_lt P0),by omega,by omega,?_⟩
  have f1:(h*18446744073709551616+l)/P=h*Q+l/P:=by
   rw[pq,show h*(P*Q)+l=l+h*Q*P by rw[Int.mul_comm P Q,<-Int.mul_assoc,Int.add_comm],Int.add_mul_ediv_right _ _ (by omega)]
   omega
  have f2:h/P*18446744073709551616=h/P*P*Q:=by rw[pq,Int.mul_assoc]
  have f3:h/P*P+h%P=h:=Int.ediv_mul_add_emod h P
  rw[f1,f2]
  have f4:(h/P*P+h%P)*Q=h*Q:=by rw[f3]
  rw[Int.add_mul] at f4
  omega
theorem Kz (h l:Int)(neg:Bool)(h0:0<=h)(l0:0<=l)(l1:l<18446744073709551616):
  hX h l neg=if h*18446744073709551616+l<=(if neg=true then 9223372036854775808 else 9223372036854775807) then some (if neg=true then -l else l,true) else some (0,false):=by
 simp only[hX,Ml,Pg.bP,Pg.bM,Pg.cq,Pg.eE,Pg.dM]
 try delta wI wU
 by_cases c:h=0
 ·subst c
  have e:((0:Int)!=0)=false:=rfl
  simp only[e,cond_false,Int.zero_mul,Int.zero_add]
  cases neg
  ·by_cases d:l>9223372036854775807
   ·have d2:¬l<=9223372036854775807:=by omega
    simp[d,d2]
   ·have d2:l<=9223372036854775807:=by omega
    simp only[Bool.not_false,cond_true,d,decide_false,cond_false,Bool.false_eq_true,if_false,d2,if_true]
    rw[wrap_i64 (by omega) d2]
  ·by_cases d:l>9223372036854775808
   ·have d2:¬l<=9223372036854775808:=by omega
    simp[d,d2]
   ·have d2:l<=9223372036854775808:=by omega
    have e3:IntKind.wrap .i64 (IntKind.wrap .u64 (0-l))= -l:=by
     rw[wrap_u64,EM];split<;>omega
    have e4:IntKind.wrap .i64 (IntKind.wrap .u64 (-l))= -l:=by
     rw[wrap_u64,EM];split<;>omega
    simp[d,d2,e3,e4]
 ·have e:(h !=0)=true:=by simp[c]
  have d2:¬h*18446744073709551616+l<=(if neg=true then 9223372036854775808 else 9223372036854775807):=by split<;>omega
  simp only[e,cond_true,d2,if_false]
def half (s:Nat):Int:=if s=0 then 0 else 2^(s-1)
def KA (v:Int)(s:Nat):Int:=if v<0 then -((-v+half s)/2^s) else(v+half s)/2^s
theorem aJ4 (s:Nat)(hs:s<=126):0<=half s∧half s<=42535295865117307932921825928971026432:=by
 unfold half
 split
 ·omega
 ·refine⟨Int.le_of_lt (kK _),?_⟩
  have:(2:Int)^(s-1)<=2^125:=by
   have h2:(2:Nat)^(s-1)<=2^125:=Nat.pow_le_pow_right (by decide) (by omega)
   have h3:((2^(s-1):Nat):Int)<=((2^125:Nat):Int):=by exact_mod_cast h2
   simpa using h3
  exact this
theorem wide_round (h l:Int)(s:Nat)(hs:s<=126)(o:okW h l):
  pC h l (Int.ofNat s)=if -9223372036854775808<=KA (vW h l) s∧KA (vW h l) s<=9223372036854775807 then some (KA (vW h l) s,true) else some (0,false):=by
 simp only[pC,Zi,Pg.bP,Pg.bM,Pg.cq,Pg.eE,Pg.dM]
 try delta wI wU
 obtain⟨ah,al,e1,a0,a1,a2,a3,a4⟩:=aFw h l o
 have n0:decide (Int.ofNat s<0)=false:=by simp
 have n1:decide (Int.ofNat s>126)=false:=by simp only[Int.ofNat_eq_natCast];exact decide_eq_false (by omega)
 simp only[n0,n1,cond_false,e1,Option.bind_some]
 obtain⟨hh0,hh1⟩:=aJ4 s hs
 have fin:∀h' l':Int,0<=h'->0<=l'->l'<18446744073709551616->h'*18446744073709551616+l'=((if h<0 then -vW h l else vW h l)+half s)/2^s->
   (hX h' l' (decide (h<0))).bind (λd=>some (d.fst,d.snd))=if -9223372036854775808<=KA (vW h l) s∧KA (vW h l) s<=9223372036854775807 then some (KA (vW h l) s,true) else some (0,false):=by
  intro h' l' b0 b1 b2 b3
  rw[Kz h' l' _ b0 b1 b2]
  obtain⟨o1,o2,o3,o4⟩:=o
  by_cases n:h<0
  ·have nv:vW h l<0:=by show h*18446744073709551616+l<0;omega
   simp only[n,decide_true,if_true] at b3 ⊢
   unfold KA
   simp only[nv,if_true]
   rw[<-b3]
   by_cases c:h'*18446744073709551616+l'<=9223372036854775808
   ·rw[if_pos c,if_pos (by omega)]
    simp only[Option.bind_some,Option.some.injEq,Prod.mk.injEq,and_true];omega
   ·rw[if_neg c,if_neg (by omega)];rfl
  ·have nv:¬vW h l<0:=by show ¬h*18446744073709551616+l<0;omega
   simp only[n,decide_false,if_false,Bool.false_eq_true] at b3 ⊢
   unfold KA
   simp only[nv,if_false]
   rw[<-b3]
   by_cases c:h'*18446744073709551616+l'<=9223372036854775807
   ·rw[if_pos c,if_pos (by omega)]
    simp only[Option.bind_some,Option.some.injEq,Prod.mk.injEq,and_true];omega
   ·rw[if_neg c,if_neg (by omega)];rfl
 by_cases z:s=0
 ·subst z
  have n2:decide (Int.ofNat 0>0)=false:=by decide
  simp only[n2,cond_false]
  obtain⟨h',l',e2,b0,b1,b2,b3⟩:=atb ah al 0 (by omega) a0 (by omega) a2 a3
  rw[e2]
  simp only[Option.bind_some]
  exact fin h' l' b0 b1 b2 (by rw[b3,a4];simp[half])
 ·have n2:decide (Int.ofNat s>0)=true:=by simp only[Int.ofNat_eq_natCast];exact decide_eq_true (by omega)
  simp only[n2,cond_true]
  have n3:IntKind.wrap .i64 (Int.ofNat s-1)=Int.ofNat (s-1):=(wrap_i64 (by simp only[Int.ofNat_eq_natCast];omega) (by simp only[Int.ofNat_eq_natCast];omega)).trans (by simp only[Int.ofNat_eq_natCast];omega)
  have hf:half s=2^(s-1):=by unfold half;rw[if_neg z]
  rw[n3,aTe (s-1) (by omega),<-hf]
  simp only[Option.bind_some]
  rw[aFx _ _ _ _ a0 a2 (by omega) (by omega) a3 (by omega)]
  simp only[Option.bind_some]
  obtain⟨h',l',e2,b0,b1,b2,b3⟩:=atb ((ah+half s/18446744073709551616+(al+half s%18446744073709551616)/18446744073709551616)%18446744073709551616) ((al+half s%18446744073709551616)%18446744073709551616) s hs (by omega) (by omega) (by omega) (by omega)
  rw[e2]
  simp only[Option.bind_some]
  refine fin h' l' b0 b1 b2 ?_
  rw[b3,<-a4]
  congr 1
  omega
def sat (x:Int):Int:=if x< -1152921504606846976 then -1152921504606846976 else if 1152921504606846976<x then 1152921504606846976 else x
def eV (x:Int):Bool:=decide (x< -1152921504606846976)||decide (1152921504606846976<x)
theorem oD (x:Int): -1152921504606846976<=sat x∧sat x<=1152921504606846976:=by
 unfold sat;split<;>(try split)<;>omega
theorem oK (x:Int)(eO:Bool):aQ x eO=some (sat x,eO||eV x):=by
 simp only[aQ,Ze,bc,vx,Pg.bP,Pg.bM,Pg.cq,Pg.eE,Pg.dM]
 try delta wI wU
 unfold sat eV
 have e:decide ((-1152921504606846976:Int)>1152921504606846976)=false:=by decide
 by_cases c:x< -1152921504606846976
 ·simp[e,c]
 ·by_cases d:1152921504606846976<x
  ·have d2:x>1152921504606846976:=d
   simp[e,c,d]
  ·simp[e,c,d]
theorem abM (a:Int)(ok neg eO:Bool):lM a ok neg eO=if ok=true then some (sat a,eO||eV a) else some (if neg=true then -1152921504606846976 else 1152921504606846976,true):=by
 simp only[lM,Ge,oU,TM,Pg.bP,Pg.bM,Pg.cq,Pg.eE,Pg.dM]
 try delta wI wU
 cases ok
 ·cases neg<;>rfl
 ·simp only[Bool.not_true,cond_false,oK,Option.bind_some,if_true]
theorem aeU (h l:Int)(s:Nat)(eO:Bool)(hs:s<=120)(o:okW h l):me h l (Int.ofNat s) eO=some (sat (KA (vW h l) s),eO||eV (KA (vW h l) s)):=by
 simp only[me,Qb,Pg.bP,Pg.bM,Pg.cq,Pg.eE,Pg.dM]
 try delta wI wU
 have n0:decide (Int.ofNat s<0)=false:=by simp
 have n1:decide (Int.ofNat s>120)=false:=by simp only[Int.ofNat_eq_natCast];exact decide_eq_false (by omega)
 simp only[n0,n1,cond_false,wide_round h l s (by omega) o]
 by_cases c: -9223372036854775808<=KA (vW h l) s∧KA (vW h l) s<=9223372036854775807
 ·simp only[c,and_self,if_true,Option.bind_some,abM]
 ·rw[if_neg c]
  simp only[Option.bind_some,abM,Bool.false_eq_true,if_false]
  have sg:(h<0->KA (vW h l) s<=0)∧(¬h<0->0<=KA (vW h l) s):=by
   obtain⟨o1,o2,o3,o4⟩:=o
   obtain⟨hh0,hh1⟩:=aJ4 s (by omega)
   have p:=kK s
   unfold KA
   refine⟨λn=> ?_,λn=> ?_⟩
   ·have nv:vW h l<0:=by show h*18446744073709551616+l<0;omega
    rw[if_pos nv]
    have:0<=(-vW h l+half s)/2^s:=Int.ediv_nonneg (by omega) (Int.le_of_lt p)
    omega
   ·have nv:¬vW h l<0:=by show ¬h*18446744073709551616+l<0;omega
    rw[if_neg nv]
    exact Int.ediv_nonneg (by omega) (Int.le_of_lt p)
  unfold sat eV
  by_cases n:h<0
  ·have:=sg.1 n
   have c1:KA (vW h l) s< -1152921504606846976:=by omega
   simp[n,c1]
  ·have:=sg.2 n
   have c1:¬KA (vW h l) s< -1152921504606846976:=by omega
   have c2:1152921504606846976<KA (vW h l) s:=by omega
   simp[n,c1,c2]
end Go.Proofs.YtcmfbkneahoonaaGreat
namespace Go.Proofs.YtcmfbkneahoonaaGreat
open Go.Ab
theorem amn (x:Int)(h0: -9223372036854775808<=x)(h1:x<=9223372036854775807):pB x=some (if x<0 then -x else x):=by
 simp only[pB,Zf,Pg.bP,Pg.bM,Pg.cq,Pg.eE,Pg.dM]
 try delta wI wU
 by_cases c:x<0
 ·simp only[c,decide_true,cond_true,if_true,wrap_u64];exact congrArg (some:Int->Option Int) (by omega)
 ·simp only[c,decide_false,cond_false,if_false,wrap_u64];exact congrArg (some:Int->Option Int) (by omega)
theorem amo {a b:Int}(a0:0<=a)(a1:a<=4294967295)(b0:0<=b)(b1:b<=4294967295):0<=a*b∧a*b<=18446744065119617025:=by
 refine⟨Int.mul_nonneg a0 b0,?_⟩
 have:=Int.mul_le_mul a1 b1 b0 (by omega)
 omega
theorem aPi (x y:Int)(x0:0<=x)(x1:x<18446744073709551616)(y0:0<=y)(y1:y<18446744073709551616):Gb x y=some (x*y/18446744073709551616,x*y%18446744073709551616):=by
 simp only[Gb,Zh,Pg.bP,Pg.bM,Pg.cq,Pg.eE,Pg.dM]
 try delta wI wU
 rw[amm x x0 x1,amm y y0 y1]
 simp only[o6 _ 4294967296 (by decide),wrap_u64]
 have xe:x=x/4294967296*4294967296+x%4294967296:=by omega
 have ye:y=y/4294967296*4294967296+y%4294967296:=by omega
 have xh:0<=x/4294967296∧x/4294967296<=4294967295:=by omega
 have yh:0<=y/4294967296∧y/4294967296<=4294967295:=by omega
 have xl:0<=x%4294967296∧x%4294967296<=4294967295:=by omega
 have yl:0<=y%4294967296∧y%4294967296<=4294967295:=by omega
 have hxy:x*y=(x/4294967296)*(y/4294967296)*18446744073709551616+((x/4294967296)*(y%4294967296)+(x%4294967296)*(y/4294967296))*4294967296+(x%4294967296)*(y%4294967296):=by
  conv=>lhs;rw[xe,ye]
  generalize x/4294967296=a
  generalize x%4294967296=b
  generalize y/4294967296=c
  generalize y%4294967296=d
  rw[Int.add_mul,Int.mul_add,Int.mul_add,Int.add_mul]
  rw[show a*4294967296*(c*4294967296)=a*c*18446744073709551616 by rw[Int.mul_assoc,Int.mul_left_comm 4294967296 c,<-Int.mul_assoc,show(4294967296:Int)*4294967296=18446744073709551616 from rfl]]
  rw[show a*4294967296*d=a*d*4294967296 by rw[Int.mul_assoc,Int.mul_comm 4294967296 d,<-Int.mul_assoc],show b*(c*4294967296)=b*c*4294967296 by rw[Int.mul_assoc]]
  omega
 obtain⟨A0,A1⟩:=amo xh.1 xh.2 yh.1 yh.2
 obtain⟨B0,B1⟩:=amo xh.1 xh.2 yl.1 yl.2
 obtain⟨C0,C1⟩:=amo xl.1 xl.2 yh.1 yh.2
 obtain⟨D0,D1⟩:=amo xl.1 xl.2 yl.1 yl.2
 simp only[Int.emod_eq_of_lt xl.1 (show x%4294967296<18446744073709551616 by omega),Int.emod_eq_of_lt yl.1 (show y%4294967296<18446744073709551616 by omega)]
 rw[hxy]
 generalize x/4294967296*(y/4294967296)=A at*
 generalize x/4294967296*(y%4294967296)=B at*
 generalize x%4294967296*(y/4294967296)=C at*
 generalize x%4294967296*(y%4294967296)=D at*
 have r1:A%18446744073709551616=A:=Int.emod_eq_of_lt A0 (by omega)
 have r2:B%18446744073709551616=B:=Int.emod_eq_of_lt B0 (by omega)
 have r3:C%18446744073709551616=C:=Int.emod_eq_of_lt C0 (by omega)
 have r4:D%18446744073709551616=D:=Int.emod_eq_of_lt D0 (by omega)
 simp only[r1,r2,r3,r4]
 have r5:(B+D/4294967296)%18446744073709551616=B+D/4294967296:=Int.emod_eq_of_lt (by omega) (by omega)
 simp only[r5]
 rw[amm (B+D/4294967296) (by omega) (by omega)]
 have r6:(B+D/4294967296)%4294967296%18446744073709551616=(B+D/4294967296)%4294967296:=Int.emod_eq_of_lt (by omega) (by omega)
 simp only[r6]
 have r7:((B+D/4294967296)%4294967296+C)%18446744073709551616=(B+D/4294967296)%4294967296+C:=Int.emod_eq_of_lt (by omega) (by omega)
 simp only[r7]
 refine congrArg some (Prod.ext ?_ rfl)
 simp only
 omega
theorem aHm (h l:Int)(neg:Bool)(h0:0<=h)(h1:h<9223372036854775808)(l0:0<=l)(l1:l<18446744073709551616):
  ∃h' l' b,lL h l neg=some ((h',l'),b)∧okW h' l'∧vW h' l'=if neg=true then -(h*18446744073709551616+l) else h*18446744073709551616+l:=by
 simp only[lL,JF,Pg.bP,Pg.bM,Pg.cq,Pg.eE,Pg.dM]
 try delta wI wU
 cases neg
 ·refine⟨_,_,_,rfl,?_,?_⟩
  ·rw[wrap_i64 (by omega) (by omega)];omega
  ·rw[wrap_i64 (by omega) (by omega)];rfl
 ·simp only[Bool.not_true,cond_false,abL l l0 l1,wrap_u64,abL h h0 (by omega)]
  rw[MN _ _ _ (by omega) (by omega) (by omega) (by omega)]
  simp only[Option.bind_some]
  generalize hm:(18446744073709551615-h)%18446744073709551616+((18446744073709551615-l)%18446744073709551616+1+0)/18446744073709551616=m
  have hw:=EM (m%18446744073709551616)
  generalize IntKind.wrap IntKind.i64 (m%18446744073709551616)=w at*
  have ok:okW w (((18446744073709551615-l)%18446744073709551616+1+0)%18446744073709551616)∧vW w (((18446744073709551615-l)%18446744073709551616+1+0)%18446744073709551616)= -(h*18446744073709551616+l):=by
   unfold vW
   refine⟨⟨?_,?_,?_,?_⟩,?_⟩<;>(split at hw<;>omega)
  cases decide (w<0)
  ·exact⟨_,_,_,rfl,ok.1,by simp only[if_true];exact ok.2⟩
  ·exact⟨_,_,_,rfl,ok.1,by simp only[if_true];exact ok.2⟩
theorem BT (a b:Int)(a0: -9223372036854775808<=a)(a1:a<=9223372036854775807)(b0: -9223372036854775808<=b)(b1:b<=9223372036854775807):∃h l,eQ a b=some (h,l)∧okW h l∧vW h l=a*b:=by
 simp only[eQ,aiQ,Pg.bP,Pg.bM,Pg.cq,Pg.eE,Pg.dM]
 try delta wI wU
 simp only[amn a a0 a1,amn b b0 b1,Option.bind_some]
 generalize hx:(if a<0 then -a else a)=x
 generalize hy:(if b<0 then -b else b)=y
 have x0:0<=x∧x<=9223372036854775808:=by rw[<-hx];split<;>omega
 have y0:0<=y∧y<=9223372036854775808:=by rw[<-hy];split<;>omega
 have hp:0<=x*y:=Int.mul_nonneg x0.1 y0.1
 have hq:x*y<=85070591730234615865843651857942052864:=by
  have:=Int.mul_le_mul x0.2 y0.2 y0.1 (by omega)
  omega
 rw[aPi x y x0.1 (by omega) y0.1 (by omega)]
 simp only[Option.bind_some]
 obtain⟨h,l,c,e1,e2,e3⟩:=aHm (x*y/18446744073709551616) (x*y%18446744073709551616) (!decide (a<0)==decide (b<0)) (by omega) (by omega) (by omega) (by omega)
 rw[e1]
 simp only[Option.bind_some]
 refine⟨h,l,rfl,e2,?_⟩
 have e4:x*y/18446744073709551616*18446744073709551616+x*y%18446744073709551616=x*y:=by omega
 rw[e3,e4]
 by_cases p:a<0
 ·by_cases q:b<0
  ·rw[if_pos p] at hx
   rw[if_pos q] at hy
   simp only[p,q,decide_true]
   rw[if_neg (by decide)]
   rw[<-hx,<-hy,Int.neg_mul_neg]
  ·rw[if_pos p] at hx
   rw[if_neg q] at hy
   simp only[p,q,decide_true,decide_false]
   rw[if_pos (by decide)]
   rw[<-hx,<-hy,Int.neg_mul,Int.neg_neg]
 ·by_cases q:b<0
  ·rw[if_neg p] at hx
   rw[if_pos q] at hy
   simp only[p,q,decide_true,decide_false]
   rw[if_pos (by decide)]
   rw[<-hx,<-hy,Int.mul_neg,Int.neg_neg]
  ·rw[if_neg p] at hx
   rw[if_neg q] at hy
   simp only[p,q,decide_false]
   rw[if_neg (by decide)]
   rw[<-hx,<-hy]
theorem aJ5 (a b:Int)(s:Nat)(eO:Bool)(hs:s<=120):aV a b (Int.ofNat s) eO=some (sat (KA (sat a*sat b) s),eO||eV a||eV b||eV (KA (sat a*sat b) s)):=by
 simp only[aV,Zl,Pg.bP,Pg.bM,Pg.cq,Pg.eE,Pg.dM]
 try delta wI wU
 have:=oD a
 have:=oD b
 obtain⟨h,l,e1,e2,e3⟩:=BT (sat a) (sat b) (by omega) (by omega) (by omega) (by omega)
 simp only[oK,Option.bind_some,e1,aeU h l s _ hs e2,e3]
end Go.Proofs.YtcmfbkneahoonaaGreat
namespace Go.Proofs.YtcmfbkneahoonaaGreat
open Go.Ab
theorem aeV (f g:Nat->Int)(w:Bool)(o1:okW (f 0) (g 0))(o2:okW (f 1) (g 1))(r0: -170141183460469231731687303715884105728<=vW (f 0) (g 0)+vW (f 1) (g 1))(r1:vW (f 0) (g 0)+vW (f 1) (g 1)<170141183460469231731687303715884105728):
  ∃h l,ji 2 f g w=some ((h,l),true)∧okW h l∧vW h l=vW (f 0) (g 0)+vW (f 1) (g 1):=by
 simp only[ji,XJ,Pg.bP,Pg.bM,Pg.cq,Pg.eE,Pg.dM]
 try delta wI wU
 unfold Gj
 rw[show Nat.beq 2 2=true from rfl,cond_true,aiI]
 obtain⟨h1,l1,b1,e1,a1,c1,d1⟩:=avG 0 0 (f 0) (g 0) ⟨by omega,by omega,by omega,by omega⟩ o1
 have t1:b1=true:=by
  rw[c1]
  obtain⟨p1,p2,p3,p4⟩:=o1
  simp only[vW];omega
 subst t1
 have d1:=d1 rfl
 obtain⟨h2,l2,b2,e2,a2,c2,d2⟩:=avG h1 l1 (f 1) (g 1) a1 o2
 have z:vW 0 0=0:=rfl
 have t2:b2=true:=by rw[c2,d1,z];omega
 subst t2
 have d2:=d2 rfl
 refine⟨h2,l2,?_,a2,by rw[d2,d1,z];omega⟩
 have k0:decide ((0:Int)<Int.ofNat 2)=true:=by decide
 have k1:aX 0 2=true:=by decide
 have k2:IntKind.wrap .i64 (0+1)=1:=by decide
 have k3:decide ((1:Int)<Int.ofNat 2)=true:=by decide
 have k4:aX 1 2=true:=by decide
 have k5:IntKind.wrap .i64 (1+1)=2:=by decide
 have k6:decide ((2:Int)<Int.ofNat 2)=false:=by decide
 have k7:Int.toNat 0=0:=rfl
 have k8:Int.toNat 1=1:=rfl
 rw[Ye]
 simp only[BM,Pg.tI,Pg.tJ,Pg.yi,Pg.Em,Pg.tK,Sum.elim_inl,Sum.elim_inr,wI,k0,k1,k2,k7,cond_true,e1,Option.bind_some,Bool.not_true,cond_false]
 rw[Ye]
 simp only[k3,k4,k5,k8,cond_true,e2,Option.bind_some,Bool.not_true,cond_false]
 rw[Ye]
 simp only[k6,cond_false,Sum.elim_inr]
def xL (f:Nat->Int):Nat->Int
 |0=>0
 |n+1=>xL f n+f n
def Dq (f:Nat->Bool):Nat->Bool
 |0=>false
 |n+1=>Dq f n||f n
theorem akn (f:Nat->Int)(B:Int)(hB:0<=B)(n:Nat)(h:∀j,j<n-> -B<=f j∧f j<=B): -(n*B)<=xL f n∧xL f n<=n*B:=by
 induction n with
 |zero=>simp[xL]
 |succ n ih=>
  have:=ih λj hj=>h j (by omega)
  have h2:=h n (by omega)
  have e:((n+1:Nat):Int)*B=n*B+B:=by rw[Int.natCast_add,Int.add_mul];simp
  rw[e,xL]
  omega
theorem aFy (v:Int):KA v 0=v:=by
 unfold KA half
 simp only[if_true,Int.add_zero]
 have:(2:Int)^0=1:=rfl
 rw[this,Int.ediv_one,Int.ediv_one]
 split<;>omega
theorem atc {i n t:Nat}(h:i+t=n)(ht:0<t):decide (Int.ofNat i<Int.ofNat n)=true:=by simp only[Int.ofNat_eq_natCast];exact decide_eq_true (by omega)
theorem atd {i n:Nat}(h:n<=i):decide (Int.ofNat i<Int.ofNat n)=false:=by simp only[Int.ofNat_eq_natCast];exact decide_eq_false (by omega)
theorem ate {i n:Nat}(h:i<n):aX (Int.ofNat i) n=true:=by unfold aX;simp only[Int.ofNat_eq_natCast,Bool.and_eq_true,decide_eq_true_eq];omega
theorem atf {i:Nat}(h:i<9000000000000000000):IntKind.wrap .i64 (Int.ofNat i+1)=Int.ofNat (i+1):=(wrap_i64 (by simp only[Int.ofNat_eq_natCast];omega) (by simp only[Int.ofNat_eq_natCast];omega)).trans rfl
theorem aTf (n:Nat)(hn:n<=1900)(eO:Bool)(l:Nat->Int)(w:Bool):
  cG n eO l w=some (sat (xL (λj=>sat (l j)) n),(eO||Dq (λj=>eV (l j)) n)||eV (xL (λj=>sat (l j)) n)):=by
 simp only[cG,Zv,Pg.bP,Pg.bM,Pg.cq,Pg.eE,Pg.dM]
 try delta wI wU
 unfold Qe
 rw[Nat.beq_refl,cond_true]
 refine MM (λt d=>∃(i:Nat) (h l':Int),i+t=n∧okW h l'∧vW h l'=xL (λj=>sat (l j)) i∧d=(((n,w),Int.ofNat n,Int.ofNat i),(eO||Dq (λj=>eV (l j)) i),l,h,l')) ?_ 2000 n _ (by omega)
  ⟨0,0,0,by omega,⟨by omega,by omega,by omega,by omega⟩,rfl,by simp only[Dq,Bool.or_false];rfl⟩
 rintro t _ c ⟨i,h,l',hi,ho,hv,rfl⟩ hc
 have bnd:=akn (λj=>sat (l j)) 1152921504606846976 (by omega) i (λj _=>oD _)
 rcases Nat.eq_zero_or_pos t with t0|t0
 ·have e:i=n:=by omega
  subst e
  have r:=aeU h l' 0
  have r2:=wide_round h l' 0 (by omega) ho
  rw[aFy] at r2
  have r3:Int.ofNat 0=0:=rfl
  rw[r3] at r2
  simp only[He,Pg.tI,Pg.tJ,Pg.yi,Pg.Em,Pg.tK,Sum.elim_inl,Sum.elim_inr,wI,atd (Nat.le_refl i),cond_false,r2]
  by_cases k: -9223372036854775808<=vW h l'∧vW h l'<=9223372036854775807
  ·rw[if_pos k]
   simp only[if_true,Option.bind_some,abM,hv]
  ·rw[if_neg k]
   simp only[Option.bind_some,abM,Bool.false_eq_true,if_false]
   rw[<-hv]
   unfold sat eV
   by_cases ng:h<0
   ·have c1:vW h l'< -1152921504606846976:=by
     obtain⟨o1,o2,o3,o4⟩:=ho
     simp only[vW] at*;omega
    simp[ng,c1]
   ·have c1:¬vW h l'< -1152921504606846976:=by
     obtain⟨o1,o2,o3,o4⟩:=ho
     simp only[vW] at*;omega
    have c2:1152921504606846976<vW h l':=by
     obtain⟨o1,o2,o3,o4⟩:=ho
     simp only[vW] at*;omega
    simp[ng,c1,c2]
 ·have hs:=oD (l i)
  obtain⟨h1,l1,e1,o1,v1⟩:=aTd (sat (l i)) (by omega) (by omega)
  obtain⟨h2,l2,e2,o2,v2⟩:=aeV (λj:Nat=>bif Nat.beq j 1 then h1 else bif Nat.beq j 0 then h else h) (λj:Nat=>bif Nat.beq j 1 then l1 else bif Nat.beq j 0 then l' else l') true
   ho o1 (by show _<=vW h l'+vW h1 l1;rw[hv,v1];omega) (by show vW h l'+vW h1 l1<_;rw[hv,v1];omega)
  have v2:vW h2 l2=vW h l'+vW h1 l1:=v2
  rw[hv,v1] at v2
  have q:Int.toNat (Int.ofNat i)=i:=rfl
  simp only[He,Pg.tI,Pg.tJ,Pg.yi,Pg.Em,Pg.tK,Sum.elim_inl,Sum.elim_inr,wI,atc hi t0,ate (show i<n by omega),cond_true,q,oK,Option.bind_some,e1,e2,atf (show i<9000000000000000000 by omega)]
  refine hc (t-1) _ (by omega) ⟨i+1,h2,l2,by omega,o2,v2,?_⟩
  simp only[Dq,Bool.or_assoc]
end Go.Proofs.YtcmfbkneahoonaaGreat
namespace Go.Proofs.YtcmfbkneahoonaaGreat
open Go.Ab
theorem abN (a b:Int): -1329227995784915872903807060280344576<=sat a*sat b∧sat a*sat b<=1329227995784915872903807060280344576:=by
 have h1:=oD a
 have h2:=oD b
 generalize sat a=x at*
 generalize sat b=y at*
 have key:∀u v:Int,0<=u->u<=1152921504606846976->0<=v->v<=1152921504606846976->0<=u*v∧u*v<=1329227995784915872903807060280344576:=λu v u0 u1 v0 v1=>by
  refine⟨Int.mul_nonneg u0 v0,?_⟩
  have:=Int.mul_le_mul u1 v1 v0 (by omega)
  omega
 rcases Int.le_total 0 x with hx|hx<;>rcases Int.le_total 0 y with hy|hy
 ·have:=key x y hx (by omega) hy (by omega);omega
 ·have:=key x (-y) hx (by omega) (by omega) (by omega)
  rw[Int.mul_neg] at this;omega
 ·have:=key (-x) y (by omega) (by omega) hy (by omega)
  rw[Int.neg_mul] at this;omega
 ·have:=key (-x) (-y) (by omega) (by omega) (by omega) (by omega)
  rw[Int.neg_mul_neg] at this;omega
theorem aJ6 (s:Nat)(hs:s<=120)(n:Nat)(hn:n<=100)(eO:Bool)(f g:Nat->Int)(w w':Bool):
  br (Int.ofNat s) n n eO f g w w'=some (sat (KA (xL (λj=>sat (f j)*sat (g j)) n) s),(eO||Dq (λj=>eV (f j)||eV (g j)) n)||eV (KA (xL (λj=>sat (f j)*sat (g j)) n) s)):=by
 simp only[br,ZS,Pg.bP,Pg.bM,Pg.cq,Pg.eE,Pg.dM]
 try delta wI wU
 unfold Qn
 have n0:decide (Int.ofNat s<0)=false:=by simp
 have n1:decide (Int.ofNat s>120)=false:=by simp only[Int.ofNat_eq_natCast];exact decide_eq_false (by omega)
 have m:(if 100<if Int.ofNat n<Int.ofNat n then Int.ofNat n else Int.ofNat n then 100 else if Int.ofNat n<Int.ofNat n then Int.ofNat n else Int.ofNat n)=Int.ofNat n:=by
  have e:¬Int.ofNat n<Int.ofNat n:=by omega
  rw[if_neg e,if_neg (by simp only[Int.ofNat_eq_natCast];omega)]
 rw[n0,n1,cond_false,cond_false,Nat.beq_refl,cond_true,cond_true,m]
 refine MM (λt d=>∃(i:Nat) (h l':Int),i+t=n∧okW h l'∧vW h l'=xL (λj=>sat (f j)*sat (g j)) i∧d=((Int.ofNat s,(n,w),(n,w'),Int.ofNat n,Int.ofNat i),(eO||Dq (λj=>eV (f j)||eV (g j)) i),f,g,h,l')) ?_ 2000 n _ (by omega)
  ⟨0,0,0,by omega,⟨by omega,by omega,by omega,by omega⟩,rfl,by simp only[Dq,Bool.or_false];rfl⟩
 rintro t _ c ⟨i,h,l',hi,ho,hv,rfl⟩ hc
 have bnd:=akn (λj=>sat (f j)*sat (g j)) 1329227995784915872903807060280344576 (by omega) i (λj _=>abN _ _)
 rcases Nat.eq_zero_or_pos t with t0|t0
 ·have e:i=n:=by omega
  subst e
  simp only[Hh,Pg.tI,Pg.tJ,Pg.yi,Pg.Em,Pg.tK,Sum.elim_inl,Sum.elim_inr,wI,atd (Nat.le_refl i),cond_false,aeU h l' s _ hs ho,hv,Option.bind_some]
 ·have hs1:=oD (f i)
  have Tw:=oD (g i)
  have hm:=abN (f i) (g i)
  obtain⟨h1,l1,e1,o1,v1⟩:=BT (sat (f i)) (sat (g i)) (by omega) (by omega) (by omega) (by omega)
  obtain⟨h2,l2,e2,o2,v2⟩:=aeV (λj:Nat=>bif Nat.beq j 1 then h1 else bif Nat.beq j 0 then h else h) (λj:Nat=>bif Nat.beq j 1 then l1 else bif Nat.beq j 0 then l' else l') true
   ho o1 (by show _<=vW h l'+vW h1 l1;rw[hv,v1];omega) (by show vW h l'+vW h1 l1<_;rw[hv,v1];omega)
  have v2:vW h2 l2=vW h l'+vW h1 l1:=v2
  rw[hv,v1] at v2
  have q:Int.toNat (Int.ofNat i)=i:=rfl
  simp only[Hh,Pg.tI,Pg.tJ,Pg.yi,Pg.Em,Pg.tK,Sum.elim_inl,Sum.elim_inr,wI,atc hi t0,ate (show i<n by omega),cond_true,q,oK,Option.bind_some,e1,e2,atf (show i<9000000000000000000 by omega)]
  refine hc (t-1) _ (by omega) ⟨i+1,h2,l2,by omega,o2,v2,?_⟩
  simp only[Dq,Bool.or_assoc]
theorem aJ7 (x:Int):KA (x*1073741824) 30=x:=by
 unfold KA half
 rw[if_neg (by omega:¬(30:Nat)=0),show(2:Int)^(30-1)=536870912 from rfl,show(2:Int)^30=1073741824 from rfl]
 split<;>omega
theorem aOn {x:Int}(h: -1152921504606846976<=x∧x<=1152921504606846976):sat x=x∧eV x=false:=by
 unfold sat eV
 have h1:¬x< -1152921504606846976:=by omega
 have h2:¬1152921504606846976<x:=by omega
 simp[h1,h2]
end Go.Proofs.YtcmfbkneahoonaaGreat
namespace Go.Proofs.YtcmfbkneahoonaaGreat
open Go.Ab
def isR (r V:Int):Prop:=0<=r∧V<=r*r+r∧(r=0∨r*r-r<V)
theorem aHn {a b:Int}(ha:0<=a)(hb:0<=b):0<=a*b:=Int.mul_nonneg ha hb
theorem aOo {r s V:Int}(h1:isR r V)(h2:isR s V):s<=r:=by
 obtain⟨a1,a2,a3⟩:=h1
 obtain⟨b1,b2,b3⟩:=h2
 rcases Int.lt_or_le r s with h|h
 ·exfalso
  have p:=aHn (a:=s-r-1) (b:=s+r) (by omega) (by omega)
  have q:(s-r-1)*(s+r)=s*s-s-(r*r+r):=by grind
  rcases b3 with b3|b3
  ·omega
  ·omega
 ·exact h
theorem aPj {r s V:Int}(h1:isR r V)(h2:isR s V):r=s:=Int.le_antisymm (aOo h2 h1) (aOo h1 h2)
theorem aTg (n:Nat):∃q:Nat,q*q<=n∧n<(q+1)*(q+1):=by
 induction n with
 |zero=>exact⟨0,by omega,by omega⟩
 |succ n ih=>
  obtain⟨q,h1,h2⟩:=ih
  by_cases c:n+1<(q+1)*(q+1)
  ·exact⟨q,by omega,c⟩
  ·refine⟨q+1,by omega,?_⟩
   have:(q+1+1)*(q+1+1)=(q+1)*(q+1)+2*q+3:=by grind
   omega
theorem aPk (V:Int)(h:0<=V):∃q:Int,0<=q∧q*q<=V∧V<(q+1)*(q+1):=by
 obtain⟨q,h1,h2⟩:=aTg V.toNat
 refine⟨q,by omega,?_,?_⟩
 ·have e:((q*q:Nat):Int)=(q:Int)*q:=by simp
  omega
 ·have e:(((q+1)*(q+1):Nat):Int)=((q:Int)+1)*(q+1):=by simp
  omega
theorem aM5 {a b:Int}(ha:0<=a)(hb:0<=b)(h:a*a<b*b):a<b:=by
 rcases Int.lt_or_le a b with c|c
 ·exact c
 ·exfalso
  have:=Int.mul_le_mul c c hb (by omega)
  omega
theorem aPl (n:Nat)(hn:n<128):fW 0 1 (Int.ofNat n)=some (2^n/18446744073709551616,2^n%18446744073709551616):=by
 have key:∀n:Fin 128,fW 0 1 (Int.ofNat n.val)=some ((2:Int)^n.val/18446744073709551616,(2:Int)^n.val%18446744073709551616):=by decide+kernel
 exact key ⟨n,hn⟩
theorem aFz (a b c d:Int)(b0:0<=b)(b1:b<18446744073709551616)(d0:0<=d)(d1:d<18446744073709551616):
  ti a b c d=some (decide (a*18446744073709551616+b<c*18446744073709551616+d)):=by
 simp only[ti,Mo,Pg.bP,Pg.bM,Pg.cq,Pg.eE,Pg.dM]
 try delta wI wU
 by_cases h:a<c
 ·have:a*18446744073709551616+b<c*18446744073709551616+d:=by omega
  simp[h,this]
 ·by_cases e:a=c
  ·subst e
   have:(a*18446744073709551616+b<a*18446744073709551616+d)↔b<d:=by omega
   simp[this]
  ·have:¬a*18446744073709551616+b<c*18446744073709551616+d:=by omega
   have e':(a==c)=false:=by simp[e]
   rw[decide_eq_false h,cond_false,e',cond_false,decide_eq_false this]
theorem avH (x y c:Int)(x0:0<=x)(x1:x<18446744073709551616)(y0:0<=y)(y1:y<18446744073709551616)(c0:0<=c)(c1:c<=1):abl x y c=some ((x-y-c)%18446744073709551616,if x<y+c then 1 else 0):=by
 unfold abl
 have h:Nat.ble c.toNat 1=true:=Nat.ble_eq_true_of_le (by omega)
 rw[h,cond_true]
 congr 1
 unfold aSX aSY
 simp only[Int.ofNat_eq_natCast,Prod.mk.injEq]
 constructor
 ·omega
 ·split<;>split<;>omega
theorem aM6 (a b c d:Int)(a0:0<=a)(a1:a<18446744073709551616)(b0:0<=b)(b1:b<18446744073709551616)(c0:0<=c)(c1:c<18446744073709551616)(d0:0<=d)(d1:d<18446744073709551616)
  (h:c*18446744073709551616+d<=a*18446744073709551616+b):
  ∃h' l',vY a b c d=some (h',l')∧0<=h'∧h'<18446744073709551616∧0<=l'∧l'<18446744073709551616∧h'*18446744073709551616+l'=a*18446744073709551616+b-(c*18446744073709551616+d):=by
 simp only[vY,JT,Pg.bP,Pg.bM,Pg.cq,Pg.eE,Pg.dM]
 try delta wI wU
 rw[avH b d 0 b0 b1 d0 d1 (by omega) (by omega)]
 simp only[Option.bind_some,Int.add_zero]
 by_cases k:b<d
 ·rw[if_pos k,avH a c 1 a0 a1 c0 c1 (by omega) (by omega)]
  simp only[Option.bind_some]
  refine⟨_,_,rfl,?_,?_,?_,?_,?_⟩<;>omega
 ·rw[if_neg k,avH a c 0 a0 a1 c0 c1 (by omega) (by omega)]
  simp only[Option.bind_some]
  refine⟨_,_,rfl,?_,?_,?_,?_,?_⟩<;>omega
theorem aeW (h1 l1 h2 l2:Int)(a0:0<=h1)(b0:0<=l1)(c0:0<=h2)(d0:0<=l2)(b1:l1<18446744073709551616)(d1:l2<18446744073709551616)
  (h:h1*18446744073709551616+l1+(h2*18446744073709551616+l2)<340282366920938463463374607431768211456):
  ∃h' l',hO h1 l1 h2 l2=some (h',l')∧0<=h'∧h'<18446744073709551616∧0<=l'∧l'<18446744073709551616∧h'*18446744073709551616+l'=h1*18446744073709551616+l1+(h2*18446744073709551616+l2):=by
 rw[aFx h1 l1 h2 l2 a0 b0 c0 d0 b1 d1]
 refine⟨_,_,rfl,?_,?_,?_,?_,?_⟩<;>omega
theorem ako {m n:Nat}(h:m<=n):(2:Int)^m<=2^n:=by
 have h2:(2:Nat)^m<=2^n:=Nat.pow_le_pow_right (by decide) h
 have h3:((2^m:Nat):Int)<=((2^n:Nat):Int):=by exact_mod_cast h2
 simpa using h3
theorem aqs (h l:Int)(o:okW h l)(h0:0<=h):∃r,isR r (vW h l)∧r<18446744073709551616∧JW h l=if r<=9223372036854775807 then some (r,true) else some (0,false):=by
 obtain⟨o1,o2,o3,o4⟩:=o
 have v0:0<=vW h l:=by show 0<=h*18446744073709551616+l;omega
 have v1:vW h l<170141183460469231731687303715884105728:=by show h*18446744073709551616+l<_;omega
 have hvv:h*18446744073709551616+l=vW h l:=rfl
 generalize vW h l=V at*
 obtain⟨q,q0,q1,q2⟩:=aPk V v0
 have qb:q<13043817825332782213:=aM5 q0 (by omega) (by omega)
 obtain⟨r,hr⟩:∃r,r=if q<V-q*q then q+1 else q:=⟨_,rfl⟩
 have q3:(q+1)*(q+1)=q*q+2*q+1:=by grind
 refine⟨r,?_,by rw[hr];split<;>omega,?_⟩
 ·rw[hr]
  split
  ·rename_i c
   exact⟨by omega,by omega,Or.inr (by omega)⟩
  ·rename_i c
   refine⟨q0,by omega,?_⟩
   rcases Int.lt_or_le 0 q with k|k
   ·exact Or.inr (by omega)
   ·exact Or.inl (by omega)
 simp only[JW,adY,Pg.bP,Pg.bM,Pg.cq,Pg.eE,Pg.dM]
 try delta wI wU
 unfold TX
 have n0:decide (h<0)=false:=decide_eq_false (by omega)
 have n1:IntKind.wrap .u64 h=h:=by rw[wrap_u64];omega
 rw[n0,cond_false,n1]
 refine MM (λt d=>∃(p c rh rl sh sl:Int),t<=64∧0<=p∧p=c*2^t∧p*p<=V∧V<(p+2^t)*(p+2^t)∧0<=rh∧rh<18446744073709551616∧0<=rl∧rl<18446744073709551616∧rh*18446744073709551616+rl=V-p*p∧
   0<=sh∧sh<18446744073709551616∧0<=sl∧sl<18446744073709551616∧sh*18446744073709551616+sl=p*2^t∧d=(2*(t:Int)-2,(rh,rl),sh,sl)) ?_ 2000 64 _ (by omega)
  ⟨0,0,h,l,0,0,by omega,by omega,by omega,by omega,by
   have:(2:Int)^64=18446744073709551616:=rfl
   omega,by omega,by omega,by omega,by omega,by omega,by omega,by omega,by omega,by omega,by omega,rfl⟩
 rintro t _ k ⟨p,c,rh,rl,sh,sl,t0,p0,pc,p1,p2,r0,r1,r2,r3,r4,s0,s1,s2,s3,s4,rfl⟩ hk
 rcases Nat.eq_zero_or_pos t with z|z
 ·subst z
  have e1:(2:Int)^0=1:=rfl
  rw[e1] at p2 s4
  have pq:p=q:=by
   have h1:p<q+1:=aM5 p0 (by omega) (by omega)
   have h2:q<p+1:=aM5 q0 (by omega) (by omega)
   omega
  subst pq
  have g0:decide ((2:Int)*((0:Nat):Int)-2>=0)=false:=by decide
  simp only[JV,Pg.tI,Pg.tJ,Pg.yi,Pg.Em,Pg.tK,Sum.elim_inl,Sum.elim_inr,g0,cond_false,aFz sh sl rh rl s2 s3 r2 r3,Option.bind_some]
  rw[s4,r4,Int.mul_one]
  by_cases cc:p<V-p*p
  ·rw[decide_eq_true cc,cond_true]
   rw[if_pos cc] at hr
   obtain⟨a,b,e2,a0,a1,b0,b1,e3⟩:=aeW sh sl 0 1 s0 s2 (by omega) (by omega) s3 (by omega) (by omega)
   rw[e2,Option.bind_some,Kz a b false a0 b0 b1,e3,hr]
   have e4:sh*18446744073709551616+sl+(0*18446744073709551616+1)=p+1:=by omega
   rw[e4]
   have az:a=0:=by omega
   have e5:b=p+1:=by omega
   simp only[Bool.false_eq_true,if_false,e5]
   by_cases f:p+1<=9223372036854775807
   ·rw[if_pos f,Option.bind_some]
   ·rw[if_neg f,Option.bind_some]
  ·rw[decide_eq_false cc,cond_false]
   rw[if_neg cc] at hr
   rw[Kz sh sl false s0 s2 s3,s4,hr]
   have az:sh=0:=by omega
   have e5:sl=p:=by omega
   simp only[Bool.false_eq_true,if_false,Int.mul_one,e5]
   by_cases f:p<=9223372036854775807
   ·rw[if_pos f,Option.bind_some]
   ·rw[if_neg f,Option.bind_some]
 ·obtain⟨m,rfl⟩:∃m,t=m+1:=⟨t-1,by omega⟩
  have P2:(2:Int)^(m+1)=2^m*2:=Int.pow_succ _ _
  have PP:(2:Int)^(2*m)=2^m*2^m:=by rw[<-Int.pow_add];congr 1;omega
  have P0:=kK m
  have PB:(2:Int)^m<=2^63:=ako (by omega)
  have PBv:(2:Int)^63=9223372036854775808:=rfl
  have at0:(2:Int)*((m+1:Nat):Int)-2=Int.ofNat (2*m):=by simp only[Int.ofNat_eq_natCast];omega
  rw[at0]
  have g0:decide (Int.ofNat (2*m)>=0)=true:=decide_eq_true (by simp only[Int.ofNat_eq_natCast];omega)
  have g1:IntKind.wrap .i64 (Int.ofNat (2*m)-2)=2*(m:Int)-2:=by
   simp only[Int.ofNat_eq_natCast]
   rw[wrap_i64 (by omega) (by omega)]
   omega
  simp only[JV,Pg.tI,Pg.tJ,Pg.yi,Pg.Em,Pg.tK,Sum.elim_inl,Sum.elim_inr,g0,cond_true,aPl (2*m) (by omega),Option.bind_some,wI,g1]
  rw[PP]
  rw[P2] at pc p2 s4
  generalize hP:(2:Int)^m=P at*
  have PPb:P*P<=85070591730234615865843651857942052864:=by
   have:=Int.mul_le_mul PB PB (by omega) (by omega)
   omega
  have PP0:0<P*P:=Int.mul_pos P0 P0
  have pb:p*P*2<=V:=by
   rcases Int.lt_or_le 0 c with k0|k0
   ·have c1:1*(P*2)<=c*(P*2):=Int.mul_le_mul_of_nonneg_right (by omega) (by omega)
    have c2:p*(P*2)<=p*p:=Int.mul_le_mul_of_nonneg_left (by omega) p0
    have c3:p*(P*2)=p*P*2:=by grind
    omega
   ·have c1:c*(P*2)<=0*(P*2):=Int.mul_le_mul_of_nonneg_right k0 (by omega)
    have:p=0:=by omega
    subst this
    omega
  have s4':sh*18446744073709551616+sl=p*P*2:=by rw[s4];grind
  obtain⟨a,b,e2,a0,a1,b0,b1,e3⟩:=aeW sh sl (P*P/18446744073709551616) (P*P%18446744073709551616) s0 s2 (by omega) (by omega) s3 (by omega) (by omega)
  have e3':a*18446744073709551616+b=p*P*2+P*P:=by omega
  obtain⟨u,v,e4,u0,v0,v1,e5⟩:=atb sh sl 1 (by omega) s0 s1 s2 s3
  have e4':gX sh sl 1=some (u,v):=e4
  have e5':u*18446744073709551616+v=p*P:=by
   rw[e5,s4']
   show p*P*2/2^1=p*P
   rw[show(2:Int)^1=2 from rfl];omega
  rw[e2,Option.bind_some,e4',Option.bind_some,aFz rh rl a b r2 r3 b0 b1,Option.bind_some,e3',r4]
  have dd:p*p+(p*P*2+P*P)=(p+P)*(p+P):=by grind
  by_cases cc:V-p*p<p*P*2+P*P
  ·rw[decide_eq_true cc]
   simp only[Bool.not_true,cond_false]
   refine hk m _ (by omega) ⟨p,c*2,rh,rl,u,v,by omega,p0,by rw[hP,pc];grind,p1,by rw[hP];omega,r0,r1,r2,r3,r4,u0,by omega,v0,v1,by rw[hP];exact e5',rfl⟩
  ·rw[decide_eq_false cc]
   simp only[Bool.not_false,cond_true]
   obtain⟨x,y,e6,x0,x1,y0,y1,e7⟩:=aM6 rh rl a b r0 r1 r2 r3 a0 a1 b0 b1 (by omega)
   obtain⟨w,z',e8,w0,w1,z0,z1,e9⟩:=aeW u v (P*P/18446744073709551616) (P*P%18446744073709551616) u0 v0 (by omega) (by omega) v1 (by omega) (by omega)
   rw[e6,Option.bind_some,e8,Option.bind_some]
   refine hk m _ (by omega) ⟨p+P,c*2+1,x,y,w,z',by omega,by omega,by rw[hP,pc];grind,by omega,?_,x0,x1,y0,y1,by omega,w0,w1,z0,z1,?_,rfl⟩
   ·rw[hP]
    have:(p+P+P)*(p+P+P)=(p+P*2)*(p+P*2):=by grind
    omega
   ·rw[hP]
    have:(p+P)*P=p*P+P*P:=by grind
    omega
end Go.Proofs.YtcmfbkneahoonaaGreat
namespace Go.Proofs.YtcmfbkneahoonaaGreat
open Go.Ab
theorem aM7 (h l:Int)(neg:Bool)(h0:0<=h)(h1:h<18446744073709551616)(l0:0<=l)(l1:l<18446744073709551616):
  ∃h' l' b,lL h l neg=some ((h',l'),b)∧okW h' l'∧(b=true↔if neg=true then h*18446744073709551616+l<=170141183460469231731687303715884105728 else h*18446744073709551616+l<170141183460469231731687303715884105728)∧
   (b=true->vW h' l'=if neg=true then -(h*18446744073709551616+l) else h*18446744073709551616+l):=by
 simp only[lL,JF,Pg.bP,Pg.bM,Pg.cq,Pg.eE,Pg.dM]
 try delta wI wU
 unfold vW
 cases neg
 ·have hw:=EM h
  rw[Int.emod_eq_of_lt h0 h1] at hw
  generalize IntKind.wrap IntKind.i64 h=w at*
  refine⟨w,l,_,rfl,⟨?_,?_,l0,l1⟩,?_,?_⟩
  ·split at hw<;>omega
  ·split at hw<;>omega
  ·rw[o6 _ _ (by omega),beq_iff_eq,if_neg (by decide)]
   constructor<;>intro _<;>omega
  ·rw[o6 _ _ (by omega),beq_iff_eq,if_neg (by decide)]
   intro _
   split at hw<;>omega
 ·simp only[Bool.not_true,cond_false,abL l l0 l1,wrap_u64,abL h h0 h1]
  rw[MN _ _ _ (by omega) (by omega) (by omega) (by omega)]
  simp only[Option.bind_some,if_true]
  generalize hm:((18446744073709551615-h)%18446744073709551616+((18446744073709551615-l)%18446744073709551616+1+0)/18446744073709551616)%18446744073709551616=m
  have hw:=EM m
  generalize IntKind.wrap IntKind.i64 m=w at*
  have m0:0<=m∧m<18446744073709551616:=by omega
  rw[Int.emod_eq_of_lt m0.1 m0.2] at hw
  have w0: -9223372036854775808<=w∧w<=9223372036854775807:=by split at hw<;>omega
  have wm:(w<0∧w=m-18446744073709551616)∨(0<=w∧w=m):=by split at hw<;>omega
  clear hw
  by_cases c:w<0
  ·rw[decide_eq_true c,cond_true]
   refine⟨_,_,_,rfl,⟨w0.1,w0.2,by omega,by omega⟩,?_,?_⟩
   ·simp only[true_iff];omega
   ·intro _;omega
  ·rw[decide_eq_false c,cond_false]
   refine⟨_,_,_,rfl,⟨w0.1,w0.2,by omega,by omega⟩,?_,?_⟩
   ·simp only[Bool.and_eq_true,beq_iff_eq,and_true]
    constructor<;>intro _<;>omega
   ·simp only[Bool.and_eq_true,beq_iff_eq,and_true]
    intro _;omega
theorem aTh (d:Int)(s:Nat)(hs:s<=127)(d0:0<=d)(d1:d<18446744073709551616):
  ∃h' l',fW 0 d (Int.ofNat s)=some (h',l')∧0<=h'∧h'<18446744073709551616∧0<=l'∧l'<18446744073709551616∧h'*18446744073709551616+l'=d*2^s%340282366920938463463374607431768211456:=by
 simp only[fW,P9,Pg.bP,Pg.bM,Pg.cq,Pg.eE,Pg.dM]
 try delta wI wU
 by_cases c:64<=s
 ·have e:decide (Int.ofNat s>=64)=true:=by simp only[Int.ofNat_eq_natCast];exact decide_eq_true (by omega)
  have e2:IntKind.wrap .i64 (Int.ofNat s-64)=Int.ofNat (s-64):=(wrap_i64 (by simp only[Int.ofNat_eq_natCast];omega) (by simp only[Int.ofNat_eq_natCast];omega)).trans (by simp only[Int.ofNat_eq_natCast];omega)
  have e3:(!decide (Int.ofNat (s-64)<0))=true:=by simp
  have e4:min (Int.toNat (Int.ofNat (s-64))) 64=s-64:=by
   show min (s-64) 64=s-64
   omega
  simp only[e,e2,e3,e4,cond_true,wrap_u64]
  refine⟨_,_,rfl,by omega,by omega,by omega,by omega,?_⟩
  have p:(2:Int)^s=2^(s-64)*18446744073709551616:=by
   rw[show(18446744073709551616:Int)=2^64 from rfl,<-Int.pow_add]
   congr 1;omega
  rw[p,<-Int.mul_assoc]
  generalize d*2^(s-64)=x
  omega
 ·have e:decide (Int.ofNat s>=64)=false:=by simp only[Int.ofNat_eq_natCast];exact decide_eq_false (by omega)
  have e2:IntKind.wrap .i64 (64-Int.ofNat s)=Int.ofNat (64-s):=(wrap_i64 (by simp only[Int.ofNat_eq_natCast];omega) (by simp only[Int.ofNat_eq_natCast];omega)).trans (by simp only[Int.ofNat_eq_natCast];omega)
  have e3:∀n,(!decide (Int.ofNat n<0))=true:=by simp
  have e4:min (Int.toNat (Int.ofNat (64-s))) 64=64-s:=by
   show min (64-s) 64=64-s
   omega
  have e5:min (Int.toNat (Int.ofNat s)) 64=s:=by
   show min s 64=s
   omega
  simp only[e,e2,e3,e4,e5,cond_true,cond_false,wrap_u64,Int.zero_mul]
  rw[o6 _ _ (Int.le_of_lt (kK _))]
  have pq:(18446744073709551616:Int)=2^s*2^(64-s):=by
   rw[<-Int.pow_add,show s+(64-s)=64 by omega];rfl
  have P0:=kK s
  have Q0:=kK (64-s)
  have x0:0<=d/2^(64-s):=Int.ediv_nonneg d0 (Int.le_of_lt Q0)
  have x1:d/2^(64-s)<2^s:=Int.ediv_lt_of_lt_mul Q0 (by rw[<-pq];exact d1)
  have x2:d/2^(64-s)<=d:=Int.ediv_le_self _ d0
  have z0:(0:Int)%18446744073709551616=0:=rfl
  rw[z0]
  have key:Int.ofNat (BitVec.toNat (BitVec.ofInt 64 0|||BitVec.ofInt 64 (d/2^(64-s))))=d/2^(64-s):=by
   rw[avF 0 (d/2^(64-s)) 0 (by omega) (by decide) x0 (by omega) (by omega) (by rw[show(2:Int)^0=1 from rfl,Int.emod_one])]
   omega
  rw[key]
  refine⟨_,_,rfl,by omega,by omega,by omega,by omega,?_⟩
  have m1:d*2^s/18446744073709551616=d/2^(64-s):=by
   rw[pq,Int.mul_comm d,Int.mul_ediv_mul_of_pos _ _ P0]
  have b1:d*2^s<340282366920938463463374607431768211456:=by
   have:=Int.mul_lt_mul_of_pos_right d1 P0
   have q:(2:Int)^s<=2^64:=ako (by omega)
   have q2:(2:Int)^64=18446744073709551616:=rfl
   have q3:18446744073709551616*2^s<=(18446744073709551616:Int)*18446744073709551616:=Int.mul_le_mul_of_nonneg_left (by omega) (by omega)
   have q4:(18446744073709551616:Int)*18446744073709551616=340282366920938463463374607431768211456:=by decide
   omega
  have b0:0<=d*2^s:=Int.mul_nonneg d0 (Int.le_of_lt P0)
  rw[Int.emod_eq_of_lt b0 b1]
  have x3:d/2^(64-s)%18446744073709551616=d/2^(64-s):=Int.emod_eq_of_lt x0 (by omega)
  rw[x3,<-m1]
  omega
theorem akp (a:Int)(s:Nat)(hs:s<=127)(a0: -9223372036854775808<=a)(a1:a<=9223372036854775807):
  ∃h l b,sS a (Int.ofNat s)=some ((h,l),b)∧okW h l∧(b=true↔ -170141183460469231731687303715884105728<=a*2^s∧a*2^s<170141183460469231731687303715884105728)∧(b=true->vW h l=a*2^s)∧(b=false->h=0∧l=0):=by
 simp only[sS,Zr,Pg.bP,Pg.bM,Pg.cq,Pg.eE,Pg.dM]
 try delta wI wU
 have n0:decide (Int.ofNat s<0)=false:=by simp
 have n1:decide (Int.ofNat s>127)=false:=by simp only[Int.ofNat_eq_natCast];exact decide_eq_false (by omega)
 rw[n0,cond_false,n1,cond_false,amn a a0 a1,Option.bind_some]
 generalize hd:(if a<0 then -a else a)=d
 have d0:0<=d∧d<=9223372036854775808:=by split at hd<;>omega
 obtain⟨u,v,e1,u0,u1,v0,v1,e2⟩:=aTh d s hs d0.1 (by omega)
 rw[e1,Option.bind_some]
 simp only
 have P0:=kK s
 have D0:0<=d*2^s:=Int.mul_nonneg d0.1 (Int.le_of_lt P0)
 have sg:(a<0->a*2^s= -(d*2^s))∧(¬a<0->a*2^s=d*2^s):=by
  constructor<;>intro h
  ·rw[if_pos h] at hd
   rw[<-hd,Int.neg_mul,Int.neg_neg]
  ·rw[if_neg h] at hd
   rw[hd]
 have aWe:∀{b:Bool},b=false->¬d*2^s<340282366920938463463374607431768211456->(b=true↔ -170141183460469231731687303715884105728<=a*2^s∧a*2^s<170141183460469231731687303715884105728):=by
  intro b hb hn
  rw[hb]
  refine iff_of_false Bool.false_ne_true λh=> ?_
  by_cases n:a<0
  ·have:=sg.1 n;omega
  ·have:=sg.2 n;omega
 have fin:d*2^s<340282366920938463463374607431768211456->∃h l b,(Option.bind (lL u v (decide (a<0))) λ(d:TG)=>bif !d.2 then some (((0,0),false):(Int×Int)×Bool) else some (d.1,true))=some ((h,l),b)∧okW h l∧(b=true↔ -170141183460469231731687303715884105728<=a*2^s∧a*2^s<170141183460469231731687303715884105728)∧(b=true->vW h l=a*2^s)∧(b=false->h=0∧l=0):=by
  intro lt
  rw[Int.emod_eq_of_lt D0 lt] at e2
  obtain⟨h',l',b,e3,o3,f3,v3⟩:=aM7 u v (decide (a<0)) u0 u1 v0 v1
  rw[e3,Option.bind_some]
  rw[e2] at f3 v3
  by_cases n:a<0
  ·have q:=sg.1 n
   rw[decide_eq_true n,if_pos rfl] at f3 v3
   cases b with
   |false=>
    refine⟨0,0,false,rfl,⟨by omega,by omega,by omega,by omega⟩,?_,(λh=>by cases h),(λ_=>⟨rfl,rfl⟩)⟩
    rw[f3];omega
   |true=>
    refine⟨h',l',true,rfl,o3,?_,(λ_=> ?_),(λh=>by cases h)⟩
    ·rw[f3];omega
    ·rw[v3 rfl];omega
  ·have q:=sg.2 n
   rw[decide_eq_false n,if_neg (by decide)] at f3 v3
   cases b with
   |false=>
    refine⟨0,0,false,rfl,⟨by omega,by omega,by omega,by omega⟩,?_,(λh=>by cases h),(λ_=>⟨rfl,rfl⟩)⟩
    rw[f3];omega
   |true=>
    refine⟨h',l',true,rfl,o3,?_,(λ_=> ?_),(λh=>by cases h)⟩
    ·rw[f3];omega
    ·rw[v3 rfl];omega
 have shr:∃x y,gX u v (Int.ofNat s)=some (x,y)∧0<=x∧0<=y∧y<18446744073709551616∧x*18446744073709551616+y=(u*18446744073709551616+v)/2^s:=by
  rcases Nat.lt_or_ge s 127 with c|c
  ·exact atb u v s (by omega) u0 u1 v0 v1
  ·obtain rfl:s=127:=by omega
   refine⟨0,u/9223372036854775808,?_,by omega,by omega,by omega,?_⟩
   ·simp only[gX,G5,Pg.bP,Pg.bM,Pg.cq,Pg.eE,Pg.dM]
    try delta wI wU
    have k1:decide (Int.ofNat 127>=64)=true:=by decide
    have k2:(!decide (IntKind.wrap .i64 (Int.ofNat 127-64)<0))=true:=by decide
    have k3:(2:Int)^min (Int.toNat (IntKind.wrap .i64 (Int.ofNat 127-64))) 64=9223372036854775808:=by decide
    simp only[k1,k2,k3,cond_true]
    rw[o6 _ _ (by omega)]
   ·have k:(2:Int)^127=170141183460469231731687303715884105728:=by decide
    rw[k];omega
 obtain⟨x,y,e3,x0,y0,y1,e4⟩:=shr
 rw[e3,Option.bind_some]
 simp only
 rw[e2] at e4
 by_cases lt:d*2^s<340282366920938463463374607431768211456
 ·rw[Int.emod_eq_of_lt D0 lt,Int.mul_ediv_cancel _ (by omega)] at e4
  have xe:(x==0)=true:=by rw[beq_iff_eq];omega
  have ye:(y==d)=true:=by rw[beq_iff_eq];omega
  rw[xe,ye]
  exact fin lt
 ·have small:d*2^s%340282366920938463463374607431768211456/2^s<d:=by
   refine Int.ediv_lt_of_lt_mul P0 ?_
   have:d*2^s%340282366920938463463374607431768211456<340282366920938463463374607431768211456:=Int.emod_lt_of_pos _ (by omega)
   omega
  have ne:(x==0&&(y==d&&true))=false:=by
   rw[Bool.and_true]
   by_cases xz:x=0
   ·have:(y==d)=false:=by rw[beq_eq_false_iff_ne];omega
    rw[this,Bool.and_false]
   ·have:(x==0)=false:=by rw[beq_eq_false_iff_ne];omega
    rw[this,Bool.false_and]
  rw[ne]
  exact⟨0,0,false,rfl,⟨by omega,by omega,by omega,by omega⟩,aWe rfl lt,(λh=>by cases h),(λ_=>⟨rfl,rfl⟩)⟩
end Go.Proofs.YtcmfbkneahoonaaGreat
namespace Go.Proofs.YtcmfbkneahoonaaGreat
open Go.Ab
theorem OQ (x:Int)(h0:1<=x)(h1:x<256):∃n:Nat,1<=n∧n<=8∧(2:Int)^(n-1)<=x∧x<2^n∧aX (IntKind.wrap .u8 x) 256=true∧IntKind.wrap .i64 (Cv (ByteArray.mk (List.toArray (List.append (List.append [0,1,2,2,3,3,3,3,4,4,4,4,4,4,4,4,5,5,5,5,5,5,5,5,5,5,5,5,5,5,5,5,6,6,6,6,6,6,6,6,6,6,6,6,6,6,6,6,6,6,6,6,6,6,6,6,6,6,6,6,6,6,6,6] [7,7,7,7,7,7,7,7,7,7,7,7,7,7,7,7,7,7,7,7,7,7,7,7,7,7,7,7,7,7,7,7,7,7,7,7,7,7,7,7,7,7,7,7,7,7,7,7,7,7,7,7,7,7,7,7,7,7,7,7,7,7,7,7]) (List.append [8,8,8,8,8,8,8,8,8,8,8,8,8,8,8,8,8,8,8,8,8,8,8,8,8,8,8,8,8,8,8,8,8,8,8,8,8,8,8,8,8,8,8,8,8,8,8,8,8,8,8,8,8,8,8,8,8,8,8,8,8,8,8,8] [8,8,8,8,8,8,8,8,8,8,8,8,8,8,8,8,8,8,8,8,8,8,8,8,8,8,8,8,8,8,8,8,8,8,8,8,8,8,8,8,8,8,8,8,8,8,8,8,8,8,8,8,8,8,8,8,8,8,8,8,8,8,8,8])))) (Int.toNat (IntKind.wrap IntKind.u8 x)))=(n:Int):=by
 obtain⟨a,rfl⟩:∃a:Nat,x=(a:Int):=⟨x.toNat,by omega⟩
 have t:∀a:Fin 256,1<=a.val->(aX (IntKind.wrap .u8 (a.val:Int)) 256=true∧IntKind.wrap .i64 (Cv (ByteArray.mk (List.toArray (List.append (List.append [0,1,2,2,3,3,3,3,4,4,4,4,4,4,4,4,5,5,5,5,5,5,5,5,5,5,5,5,5,5,5,5,6,6,6,6,6,6,6,6,6,6,6,6,6,6,6,6,6,6,6,6,6,6,6,6,6,6,6,6,6,6,6,6] [7,7,7,7,7,7,7,7,7,7,7,7,7,7,7,7,7,7,7,7,7,7,7,7,7,7,7,7,7,7,7,7,7,7,7,7,7,7,7,7,7,7,7,7,7,7,7,7,7,7,7,7,7,7,7,7,7,7,7,7,7,7,7,7]) (List.append [8,8,8,8,8,8,8,8,8,8,8,8,8,8,8,8,8,8,8,8,8,8,8,8,8,8,8,8,8,8,8,8,8,8,8,8,8,8,8,8,8,8,8,8,8,8,8,8,8,8,8,8,8,8,8,8,8,8,8,8,8,8,8,8] [8,8,8,8,8,8,8,8,8,8,8,8,8,8,8,8,8,8,8,8,8,8,8,8,8,8,8,8,8,8,8,8,8,8,8,8,8,8,8,8,8,8,8,8,8,8,8,8,8,8,8,8,8,8,8,8,8,8,8,8,8,8,8,8])))) (Int.toNat (IntKind.wrap IntKind.u8 (a.val:Int))))=((Nat.log2 a.val+1:Nat):Int)):=by decide+kernel
 have ha:1<=a:=by omega
 have aXH:a<256:=by omega
 have l1:=Nat.log2_self_le (n:=a) (by omega)
 have l2:a<2^(a.log2+1):=Nat.lt_log2_self
 have lb:a.log2<8:=by
  rcases Nat.lt_or_ge a.log2 8 with c|c
  ·exact c
  ·have:2^8<=2^a.log2:=Nat.pow_le_pow_right (by decide) c
   omega
 have k:=t ⟨a,aXH⟩ ha
 refine⟨a.log2+1,by omega,by omega,?_,?_,k.1,k.2⟩
 ·rw[Nat.add_sub_cancel]
  have:((2^a.log2:Nat):Int)=(2:Int)^a.log2:=by simp
  omega
 ·have:((2^(a.log2+1):Nat):Int)=(2:Int)^(a.log2+1):=by simp
  omega
theorem pow_add' (a b:Nat):(2:Int)^(a+b)=2^a*2^b:=Int.pow_add _ _ _
theorem Dr (x:Int)(b n:Nat)(hn:1<=n)(h0:(2:Int)^(n-1)<=x/2^b)(h1:x/2^b<2^n):(2:Int)^(n+b-1)<=x∧x<2^(n+b):=by
 have B0:=kK b
 have e1:(2:Int)^(n+b-1)=2^(n-1)*2^b:=by rw[<-pow_add'];congr 1;omega
 have e2:(2:Int)^(n+b)=2^n*2^b:=pow_add' _ _
 rw[e1,e2]
 exact⟨Int.mul_le_of_le_ediv B0 h0,Int.lt_mul_of_ediv_lt B0 h1⟩
theorem aUk (x:Int)(h0:1<=x)(h1:x<18446744073709551616):∃n:Nat,1<=n∧n<=64∧(2:Int)^(n-1)<=x∧x<2^n∧Gf x=some (n:Int):=by
 have f1:∀a:Int,Int.fdiv a 256=a/256:=λa=>o6 _ _ (by omega)
 have f2:∀a:Int,Int.fdiv a 65536=a/65536:=λa=>o6 _ _ (by omega)
 have f3:∀a:Int,Int.fdiv a 4294967296=a/4294967296:=λa=>o6 _ _ (by omega)
 simp only[Gf,Zm,Pg.bP,Pg.bM,Pg.cq,Pg.eE,Pg.dM,f1,f2,f3]
 try delta wI wU
 by_cases c:x>=4294967296
 ·by_cases d:x/4294967296>=65536
  ·by_cases e:x/4294967296/65536>=256
   ·have q:x/4294967296/65536/256=x/2^56:=by rw[show(2:Int)^56=72057594037927936 from rfl]<;>omega
    obtain⟨n,n1,n2,b0,b1,t1,t2⟩:=OQ (x/4294967296/65536/256) (by omega) (by omega)
    rw[q] at b0 b1
    obtain⟨c0,c1⟩:=Dr x 56 n n1 b0 b1
    refine⟨n+56,by omega,by omega,c0,c1,?_⟩
    rw[decide_eq_true c,cond_true,decide_eq_true d,cond_true,decide_eq_true e,cond_true,t1,cond_true,t2,wrap_i64 (n:=56+(n:Int)) (by omega) (by omega)]
    exact congrArg (some:Int->Option Int) (by omega)
   ·have q:x/4294967296/65536=x/2^48:=by rw[show(2:Int)^48=281474976710656 from rfl]<;>omega
    obtain⟨n,n1,n2,b0,b1,t1,t2⟩:=OQ (x/4294967296/65536) (by omega) (by omega)
    rw[q] at b0 b1
    obtain⟨c0,c1⟩:=Dr x 48 n n1 b0 b1
    refine⟨n+48,by omega,by omega,c0,c1,?_⟩
    rw[decide_eq_true c,cond_true,decide_eq_true d,cond_true,decide_eq_false e,cond_false,t1,cond_true,t2,wrap_i64 (n:=48+(n:Int)) (by omega) (by omega)]
    exact congrArg (some:Int->Option Int) (by omega)
  ·by_cases e:x/4294967296>=256
   ·have q:x/4294967296/256=x/2^40:=by rw[show(2:Int)^40=1099511627776 from rfl]<;>omega
    obtain⟨n,n1,n2,b0,b1,t1,t2⟩:=OQ (x/4294967296/256) (by omega) (by omega)
    rw[q] at b0 b1
    obtain⟨c0,c1⟩:=Dr x 40 n n1 b0 b1
    refine⟨n+40,by omega,by omega,c0,c1,?_⟩
    rw[decide_eq_true c,cond_true,decide_eq_false d,cond_false,decide_eq_true e,cond_true,t1,cond_true,t2,wrap_i64 (n:=40+(n:Int)) (by omega) (by omega)]
    exact congrArg (some:Int->Option Int) (by omega)
   ·have q:x/4294967296=x/2^32:=by rw[show(2:Int)^32=4294967296 from rfl]<;>omega
    obtain⟨n,n1,n2,b0,b1,t1,t2⟩:=OQ (x/4294967296) (by omega) (by omega)
    rw[q] at b0 b1
    obtain⟨c0,c1⟩:=Dr x 32 n n1 b0 b1
    refine⟨n+32,by omega,by omega,c0,c1,?_⟩
    rw[decide_eq_true c,cond_true,decide_eq_false d,cond_false,decide_eq_false e,cond_false,t1,cond_true,t2,wrap_i64 (n:=32+(n:Int)) (by omega) (by omega)]
    exact congrArg (some:Int->Option Int) (by omega)
 ·by_cases d:x>=65536
  ·by_cases e:x/65536>=256
   ·have q:x/65536/256=x/2^24:=by rw[show(2:Int)^24=16777216 from rfl]<;>omega
    obtain⟨n,n1,n2,b0,b1,t1,t2⟩:=OQ (x/65536/256) (by omega) (by omega)
    rw[q] at b0 b1
    obtain⟨c0,c1⟩:=Dr x 24 n n1 b0 b1
    refine⟨n+24,by omega,by omega,c0,c1,?_⟩
    rw[decide_eq_false c,cond_false,decide_eq_true d,cond_true,decide_eq_true e,cond_true,t1,cond_true,t2,wrap_i64 (n:=24+(n:Int)) (by omega) (by omega)]
    exact congrArg (some:Int->Option Int) (by omega)
   ·have q:x/65536=x/2^16:=by rw[show(2:Int)^16=65536 from rfl]<;>omega
    obtain⟨n,n1,n2,b0,b1,t1,t2⟩:=OQ (x/65536) (by omega) (by omega)
    rw[q] at b0 b1
    obtain⟨c0,c1⟩:=Dr x 16 n n1 b0 b1
    refine⟨n+16,by omega,by omega,c0,c1,?_⟩
    rw[decide_eq_false c,cond_false,decide_eq_true d,cond_true,decide_eq_false e,cond_false,t1,cond_true,t2,wrap_i64 (n:=16+(n:Int)) (by omega) (by omega)]
    exact congrArg (some:Int->Option Int) (by omega)
  ·by_cases e:x>=256
   ·have q:x/256=x/2^8:=by rw[show(2:Int)^8=256 from rfl]<;>omega
    obtain⟨n,n1,n2,b0,b1,t1,t2⟩:=OQ (x/256) (by omega) (by omega)
    rw[q] at b0 b1
    obtain⟨c0,c1⟩:=Dr x 8 n n1 b0 b1
    refine⟨n+8,by omega,by omega,c0,c1,?_⟩
    rw[decide_eq_false c,cond_false,decide_eq_false d,cond_false,decide_eq_true e,cond_true,t1,cond_true,t2,wrap_i64 (n:=8+(n:Int)) (by omega) (by omega)]
    exact congrArg (some:Int->Option Int) (by omega)
   ·have q:x=x/2^0:=by rw[show(2:Int)^0=1 from rfl]<;>omega
    obtain⟨n,n1,n2,b0,b1,t1,t2⟩:=OQ (x) (by omega) (by omega)
    rw[q] at b0 b1
    obtain⟨c0,c1⟩:=Dr x 0 n n1 b0 b1
    refine⟨n+0,by omega,by omega,c0,c1,?_⟩
    rw[decide_eq_false c,cond_false,decide_eq_false d,cond_false,decide_eq_false e,cond_false,t1,cond_true,t2,wrap_i64 (n:=0+(n:Int)) (by omega) (by omega)]
    exact congrArg (some:Int->Option Int) (by omega)
theorem aTi (x:Int)(h0:1<=x)(h1:x<18446744073709551616):∃s:Nat,s<=63∧9223372036854775808<=x*2^s∧x*2^s<18446744073709551616∧nw x=some (s:Int):=by
 obtain⟨n,n1,n2,b0,b1,e⟩:=aUk x h0 h1
 refine⟨64-n,by omega,?_,?_,?_⟩
 ·have p:(9223372036854775808:Int)=2^(n-1)*2^(64-n):=by
   rw[<-pow_add',show n-1+(64-n)=63 by omega];rfl
  rw[p]
  exact Int.mul_le_mul_of_nonneg_right b0 (Int.le_of_lt (kK _))
 ·have p:(18446744073709551616:Int)=2^n*2^(64-n):=by
   rw[<-pow_add',show n+(64-n)=64 by omega];rfl
  rw[p]
  exact Int.mul_lt_mul_of_pos_right b1 (kK _)
 ·simp only[nw,zH,Pg.bP,Pg.bM,Pg.cq,Pg.eE,Pg.dM]
  try delta wI wU
  rw[e,Option.bind_some,wrap_i64 (by omega) (by omega)]
  exact congrArg (some:Int->Option Int) (by omega)
structure Dig (Y gu wy U u:Int):Prop where
 y:Y=gu*4294967296+wy
 a:2147483648<=gu∧gu<4294967296
 b:0<=wy∧wy<4294967296
 u0:0<=U∧U<Y
 d:0<=u∧u<4294967296
theorem Dig.lt {Y gu wy U u:Int}(h:Dig Y gu wy U u):0<=(U*4294967296+u)/Y∧(U*4294967296+u)/Y<4294967296:=by
 obtain⟨y,a,b,u0,d⟩:=h
 constructor
 ·exact Int.ediv_nonneg (by omega) (by omega)
 ·refine Int.ediv_lt_of_lt_mul (by omega) ?_
  omega
theorem Dig.down {Y gu wy U u q rh:Int}(h:Dig Y gu wy U u)(e:q*gu+rh=U)(c:4294967296*rh+u<q*wy):(U*4294967296+u)/Y<=q-1:=by
 obtain⟨y,a,b,u0,d⟩:=h
 have:(U*4294967296+u)/Y<q:=by
  refine Int.ediv_lt_of_lt_mul (by omega) ?_
  have e2:q*Y=(q*gu)*4294967296+q*wy:=by rw[y];grind
  omega
 omega
theorem Dig.stay {Y gu wy U u q rh:Int}(h:Dig Y gu wy U u)(e:q*gu+rh=U)(c:q*wy<=4294967296*rh+u)(l:(U*4294967296+u)/Y<=q):q=(U*4294967296+u)/Y:=by
 obtain⟨y,a,b,u0,d⟩:=h
 have:q<=(U*4294967296+u)/Y:=by
  refine(Int.le_ediv_iff_mul_le (by omega)).2 ?_
  have e2:q*Y=(q*gu)*4294967296+q*wy:=by rw[y];grind
  omega
 omega
theorem Dig.out {Y gu wy U u q rh:Int}(h:Dig Y gu wy U u)(e:q*gu+rh=U)(q0:0<=q)(c:4294967296<=rh)(l:(U*4294967296+u)/Y<=q):q=(U*4294967296+u)/Y:=by
 have h':=h
 obtain⟨y,a,b,u0,d⟩:=h
 refine h'.stay e ?_ l
 have q1:q<=4294967295:=by
  rcases Int.lt_or_le q 4294967296 with k|k
  ·omega
  ·exfalso
   have:=Int.mul_le_mul_of_nonneg_right k (show 0<=gu by omega)
   omega
 have:=Int.mul_le_mul q1 (show wy<=4294967295 by omega) b.1 (by omega)
 omega
theorem aUl {ρ:Type}(Y s gu wy U u u0:Int)(h:Dig Y gu wy U u)(k:_->Option ρ)(r:Option ρ)
  (h1:∀rh a b c d,k (Sum.inl (Y,s,gu,wy,U,u,u0,(U*4294967296+u)/Y,rh,a,b,c,d))=r)
  (h2:∀rh a b c d e f g i,k (Sum.inr (Sum.inl (Y,s,gu,wy,U,u,u0,(U*4294967296+u)/Y,rh,a,b,c,d,e,f,g,i)))=r)
  (h3:∀rh a b c d e,k (Sum.inr (Sum.inr (Y,s,gu,wy,U,u,u0,(U*4294967296+u)/Y,rh,a,b,c,d,e)))=r):
  (G9 (Y,s,gu,wy,U,u,u0,U/gu,U%gu)).bind k=r:=by
 have h':=h
 obtain⟨y,a,b,hu,d⟩:=h
 have lt:=h'.lt
 have qm:=Int.mul_ediv_add_emod U gu
 have m0:=Int.emod_nonneg U (show gu≠0 by omega)
 have m1:=Int.emod_lt_of_pos U (show 0<gu by omega)
 have qn:=Int.ediv_nonneg hu.1 (show 0<=gu by omega)
 have start:(U*4294967296+u)/Y<=U/gu:=by
  have e2:(U*4294967296+u)/Y<U/gu+1:=by
   refine Int.ediv_lt_of_lt_mul (by omega) ?_
   have e3:(U/gu+1)*Y=(gu*(U/gu))*4294967296+gu*4294967296+(U/gu+1)*wy:=by rw[y];grind
   have:=Int.mul_nonneg (show 0<=U/gu+1 by omega) b.1
   omega
  omega
 unfold G9
 refine MM (λt x=>∃(q rh:Int),0<=q∧q*gu+rh=U∧(U*4294967296+u)/Y<=q∧(2-(t:Int))*2147483648<=rh∧0<=rh∧rh<4294967296∧x=(Y,s,gu,wy,U,u,u0,q,rh)) ?_ 2000 2 _ (by omega)
  ⟨U/gu,U%gu,qn,by rw[Int.mul_comm];exact qm,start,by omega,m0,by omega,rfl⟩
 rintro t _ c ⟨q,rh,q0,e,l,tb,r0,r1,rfl⟩ hc
 have down:(U*4294967296+u)/Y<=q-1->0<=q-1->(q-1)*gu+(rh+gu)=U:=λ_ _=>by
  have:(q-1)*gu=q*gu-gu:=by grind
  omega
 have qb:q<=4294967298:=by
  rcases Int.lt_or_le q 4294967298 with k|k
  ·omega
  ·exfalso
   have:=Int.mul_le_mul_of_nonneg_right k (show 0<=gu by omega)
   omega
 have w1:IntKind.wrap .u64 (rh+gu)=rh+gu:=by rw[wrap_u64];omega
 by_cases c1:q>=4294967296
 ·have d1:(U*4294967296+u)/Y<=q-1:=by omega
  have w2:IntKind.wrap .u64 (q-1)=q-1:=by rw[wrap_u64];omega
  have e2:=down d1 (by omega)
  simp only[G8,Pg.tI,Pg.tJ,Pg.yi,Pg.Em,Pg.tK,Sum.elim_inl,Sum.elim_inr,wU,decide_eq_true c1,cond_true,w1,w2]
  by_cases c2:rh+gu>=4294967296
  ·rw[decide_eq_true c2,cond_true,h'.out e2 (by omega) c2 d1]
   exact h1 _ _ _ _ _
  ·rw[decide_eq_false c2,cond_false]
   have t1:1<=t:=by omega
   exact hc (t-1) _ (by omega) ⟨q-1,rh+gu,by omega,e2,d1,by omega,by omega,by omega,rfl⟩
 ·have pm:0<=q*wy∧q*wy<18446744073709551616:=by
   refine⟨Int.mul_nonneg q0 b.1,?_⟩
   have:=Int.mul_le_mul (show q<=4294967295 by omega) (show wy<=4294967295 by omega) b.1 (by omega)
   omega
  have w3:IntKind.wrap .u64 (q*wy)=q*wy:=by rw[wrap_u64];omega
  have w4:IntKind.wrap .u64 (4294967296*rh)=4294967296*rh:=by rw[wrap_u64];omega
  have w5:IntKind.wrap .u64 (4294967296*rh+u)=4294967296*rh+u:=by rw[wrap_u64];omega
  simp only[G8,Pg.tI,Pg.tJ,Pg.yi,Pg.Em,Pg.tK,Sum.elim_inl,Sum.elim_inr,wU,decide_eq_false c1,cond_false,w1,w3,w4,w5]
  by_cases c3:q*wy>4294967296*rh+u
  ·have d1:=h'.down e c3
   have qp:1<=q:=by
    rcases Int.lt_or_le 0 q with k|k
    ·omega
    ·exfalso
     have:q=0:=by omega
     subst this
     omega
   have w2:IntKind.wrap .u64 (q-1)=q-1:=by rw[wrap_u64];omega
   have e2:=down d1 (by omega)
   rw[decide_eq_true c3,cond_true,w2]
   by_cases c2:rh+gu>=4294967296
   ·rw[decide_eq_true c2,cond_true,h'.out e2 (by omega) c2 d1]
    exact h2 _ _ _ _ _ _ _ _ _
   ·rw[decide_eq_false c2,cond_false]
    exact hc (t-1) _ (by omega) ⟨q-1,rh+gu,by omega,e2,d1,by omega,by omega,by omega,rfl⟩
  ·rw[decide_eq_false c3,cond_false,h'.stay e (by omega) l]
   exact h3 _ _ _ _ _ _
theorem aUm {ρ:Type}(Y s gu wy U u q1:Int)(h:Dig Y gu wy U u)(k:_->Option ρ)(r:Option ρ)
  (h1:∀rh a b c d,k (Sum.inl (Y,s,gu,wy,u,q1,rh,U,(U*4294967296+u)/Y,a,b,c,d))=r)
  (h2:∀rh a b c d e f g i,k (Sum.inr (Sum.inl (Y,s,gu,wy,u,q1,rh,U,(U*4294967296+u)/Y,a,b,c,d,e,f,g,i)))=r)
  (h3:∀rh a b c d e,k (Sum.inr (Sum.inr (Y,s,gu,wy,u,q1,rh,U,(U*4294967296+u)/Y,a,b,c,d,e)))=r):
  (Hb (Y,s,gu,wy,u,q1,U%gu,U,U/gu)).bind k=r:=by
 have h':=h
 obtain⟨y,a,b,hu,d⟩:=h
 have lt:=h'.lt
 have qm:=Int.mul_ediv_add_emod U gu
 have m0:=Int.emod_nonneg U (show gu≠0 by omega)
 have m1:=Int.emod_lt_of_pos U (show 0<gu by omega)
 have qn:=Int.ediv_nonneg hu.1 (show 0<=gu by omega)
 have start:(U*4294967296+u)/Y<=U/gu:=by
  have e2:(U*4294967296+u)/Y<U/gu+1:=by
   refine Int.ediv_lt_of_lt_mul (by omega) ?_
   have e3:(U/gu+1)*Y=(gu*(U/gu))*4294967296+gu*4294967296+(U/gu+1)*wy:=by rw[y];grind
   have:=Int.mul_nonneg (show 0<=U/gu+1 by omega) b.1
   omega
  omega
 unfold Hb
 refine MM (λt x=>∃(q rh:Int),0<=q∧q*gu+rh=U∧(U*4294967296+u)/Y<=q∧(2-(t:Int))*2147483648<=rh∧0<=rh∧rh<4294967296∧x=(Y,s,gu,wy,u,q1,rh,U,q)) ?_ 2000 2 _ (by omega)
  ⟨U/gu,U%gu,qn,by rw[Int.mul_comm];exact qm,start,by omega,m0,by omega,rfl⟩
 rintro t _ c ⟨q,rh,q0,e,l,tb,r0,r1,rfl⟩ hc
 have down:(U*4294967296+u)/Y<=q-1->0<=q-1->(q-1)*gu+(rh+gu)=U:=λ_ _=>by
  have:(q-1)*gu=q*gu-gu:=by grind
  omega
 have qb:q<=4294967298:=by
  rcases Int.lt_or_le q 4294967298 with k|k
  ·omega
  ·exfalso
   have:=Int.mul_le_mul_of_nonneg_right k (show 0<=gu by omega)
   omega
 have w1:IntKind.wrap .u64 (rh+gu)=rh+gu:=by rw[wrap_u64];omega
 by_cases c1:q>=4294967296
 ·have d1:(U*4294967296+u)/Y<=q-1:=by omega
  have w2:IntKind.wrap .u64 (q-1)=q-1:=by rw[wrap_u64];omega
  have e2:=down d1 (by omega)
  simp only[Ha,Pg.tI,Pg.tJ,Pg.yi,Pg.Em,Pg.tK,Sum.elim_inl,Sum.elim_inr,wU,decide_eq_true c1,cond_true,w1,w2]
  by_cases c2:rh+gu>=4294967296
  ·rw[decide_eq_true c2,cond_true,h'.out e2 (by omega) c2 d1]
   exact h1 _ _ _ _ _
  ·rw[decide_eq_false c2,cond_false]
   have t1:1<=t:=by omega
   exact hc (t-1) _ (by omega) ⟨q-1,rh+gu,by omega,e2,d1,by omega,by omega,by omega,rfl⟩
 ·have pm:0<=q*wy∧q*wy<18446744073709551616:=by
   refine⟨Int.mul_nonneg q0 b.1,?_⟩
   have:=Int.mul_le_mul (show q<=4294967295 by omega) (show wy<=4294967295 by omega) b.1 (by omega)
   omega
  have w3:IntKind.wrap .u64 (q*wy)=q*wy:=by rw[wrap_u64];omega
  have w4:IntKind.wrap .u64 (4294967296*rh)=4294967296*rh:=by rw[wrap_u64];omega
  have w5:IntKind.wrap .u64 (4294967296*rh+u)=4294967296*rh+u:=by rw[wrap_u64];omega
  simp only[Ha,Pg.tI,Pg.tJ,Pg.yi,Pg.Em,Pg.tK,Sum.elim_inl,Sum.elim_inr,wU,decide_eq_false c1,cond_false,w1,w3,w4,w5]
  by_cases c3:q*wy>4294967296*rh+u
  ·have d1:=h'.down e c3
   have qp:1<=q:=by
    rcases Int.lt_or_le 0 q with k|k
    ·omega
    ·exfalso
     have:q=0:=by omega
     subst this
     omega
   have w2:IntKind.wrap .u64 (q-1)=q-1:=by rw[wrap_u64];omega
   have e2:=down d1 (by omega)
   rw[decide_eq_true c3,cond_true,w2]
   by_cases c2:rh+gu>=4294967296
   ·rw[decide_eq_true c2,cond_true,h'.out e2 (by omega) c2 d1]
    exact h2 _ _ _ _ _ _ _ _ _
   ·rw[decide_eq_false c2,cond_false]
    exact hc (t-1) _ (by omega) ⟨q-1,rh+gu,by omega,e2,d1,by omega,by omega,by omega,rfl⟩
  ·rw[decide_eq_false c3,cond_false,h'.stay e (by omega) l]
   exact h3 _ _ _ _ _ _
theorem aPm (hi lo y:Int)(h0:0<=hi)(h1:hi<y)(h2:y<18446744073709551616)(l0:0<=lo)(l1:lo<18446744073709551616):
  Gg hi lo y=some ((hi*18446744073709551616+lo)/y,(hi*18446744073709551616+lo)%y):=by
 simp only[Gg,Zn,Pg.bP,Pg.bM,Pg.cq,Pg.eE,Pg.dM]
 try delta wI wU
 have y0:(y==0)=false:=by rw[beq_eq_false_iff_ne];omega
 rw[y0,cond_false,decide_eq_false (show ¬y<=hi by omega),cond_false]
 by_cases hz:hi=0
 ·subst hz
  have z:((0:Int)==0)=true:=rfl
  have yn:(!decide (y=0))=true:=by rw[decide_eq_false (by omega)];rfl
  rw[z,cond_true,yn,cond_true,cond_true,Int.zero_mul,Int.zero_add,Int.tdiv_eq_ediv_of_nonneg l0,Int.tmod_eq_emod_of_nonneg l0]
  have d0:=Int.ediv_nonneg l0 (show 0<=y by omega)
  have d1:=Int.ediv_le_self y l0
  have w:IntKind.wrap .u64 (lo/y)=lo/y:=by rw[wrap_u64];omega
  rw[w]
 have z:(hi==0)=false:=by rw[beq_eq_false_iff_ne];exact hz
 rw[z,cond_false]
 obtain⟨s,s63,b0,b1,e⟩:=aTi y (by omega) h2
 rw[e,Option.bind_some]
 have P0:=kK s
 have Q0:=kK (64-s)
 have k1:IntKind.wrap .u64 (s:Int)=(s:Int):=by rw[wrap_u64];omega
 have k2:IntKind.wrap .u64 (64-(s:Int))=((64-s:Nat):Int):=by rw[wrap_u64];omega
 have k3:∀n:Nat,(!decide ((n:Int)<0))=true:=λn=>by rw[decide_eq_false (by omega)];rfl
 have k4:min (Int.toNat (s:Int)) 64=s:=by rw[Int.toNat_natCast];omega
 have k5:min (Int.toNat ((64-s:Nat):Int)) 64=64-s:=by rw[Int.toNat_natCast];omega
 have k6:IntKind.wrap .u64 (y*2^s)=y*2^s:=by rw[wrap_u64];omega
 simp only[k1,k2,k3,k4,k5,k6,cond_true]
 have pq:(18446744073709551616:Int)=2^s*2^(64-s):=by
  rw[<-pow_add',show s+(64-s)=64 by omega];rfl
 have ab:hi*2^s+2^s<=y*2^s:=by
  have:=Int.mul_le_mul_of_nonneg_right (show hi+1<=y by omega) (Int.le_of_lt P0)
  rw[Int.add_mul] at this;omega
 have a0:0<=hi*2^s:=Int.mul_nonneg h0 (Int.le_of_lt P0)
 have x0:0<=lo/2^(64-s):=Int.ediv_nonneg l0 (Int.le_of_lt Q0)
 have x1:lo/2^(64-s)<2^s:=Int.ediv_lt_of_lt_mul Q0 (by rw[<-pq];exact l1)
 have k7:IntKind.wrap .u64 (hi*2^s)=hi*2^s:=by rw[wrap_u64];omega
 have or1:Int.ofNat (BitVec.toNat (BitVec.ofInt 64 (hi*2^s)|||BitVec.ofInt 64 (Int.fdiv lo (2^(64-s)))))=hi*2^s+lo/2^(64-s):=by
  rw[o6 _ _ (Int.le_of_lt Q0),BitVec.or_comm,avF _ _ s x0 x1 a0 (by omega) (by omega) (Int.mul_emod_left _ _)]
  omega
 have k8:IntKind.wrap .u64 (hi*2^s+lo/2^(64-s))=hi*2^s+lo/2^(64-s):=by rw[wrap_u64];omega
 simp only[k7,or1,k8]
 rw[wrap_u64 (lo*2^s)]
 have c0:0<=lo*2^s%18446744073709551616∧lo*2^s%18446744073709551616<18446744073709551616:=by omega
 have N:(hi*2^s+lo/2^(64-s))*18446744073709551616+lo*2^s%18446744073709551616=(hi*18446744073709551616+lo)*2^s:=by
  have m1:lo*2^s/18446744073709551616=lo/2^(64-s):=by
   rw[pq,Int.mul_comm lo,Int.mul_ediv_mul_of_pos _ _ P0]
  have m2:lo*2^s=lo*2^s/18446744073709551616*18446744073709551616+lo*2^s%18446744073709551616:=by omega
  have m3:(hi*18446744073709551616+lo)*2^s=hi*2^s*18446744073709551616+lo*2^s:=by grind
  rw[m3,<-m1];omega
 have U1:0<=hi*2^s+lo/2^(64-s)∧hi*2^s+lo/2^(64-s)<y*2^s:=by omega
 have am1:∀x:Int,0<=x->x<18446744073709551616->IntKind.wrap .u64 (Int.ofNat (BitVec.toNat (BitVec.ofInt 64 x&&&BitVec.ofInt 64 4294967295)))=x%4294967296:=λx x0 x1=>by
  rw[amm x x0 x1,wrap_u64];omega
 rw[am1 (y*2^s) (by omega) b1,am1 _ c0.1 c0.2]
 simp only[o6 _ 4294967296 (show(0:Int)<=4294967296 by decide)]
 have A1:(hi*18446744073709551616+lo)/y=(hi*18446744073709551616+lo)*2^s/(y*2^s):=by
  rw[Int.mul_comm _ (2^s),Int.mul_comm y,Int.mul_ediv_mul_of_pos _ _ P0]
 have A2:(hi*18446744073709551616+lo)%y=(hi*18446744073709551616+lo)*2^s%(y*2^s)/2^s:=by
  rw[Int.mul_comm _ (2^s),Int.mul_comm y,Int.mul_emod_mul_of_pos _ _ P0,Int.mul_ediv_cancel_left _ (by omega)]
 rw[A1,A2,<-N]
 generalize hi*2^s+lo/2^(64-s)=U at*
 generalize lo*2^s%18446744073709551616=L at*
 generalize hY:y*2^s=Y at*
 generalize h2s:(2:Int)^s=P at*
 clear N A1 A2 or1 k7 k8 x0 x1 ab a0 pq k6 e
 have hY1:2147483648<=Y/4294967296∧Y/4294967296<4294967296:=by omega
 have g1:Dig Y (Y/4294967296) (Y%4294967296) U (L/4294967296):=⟨by omega,hY1,by omega,U1,by omega⟩
 have yz:(!decide (Y/4294967296=0))=true:=by rw[decide_eq_false (by omega)];rfl
 have Q1:=g1.lt
 have R1:=Int.mul_ediv_add_emod (U*4294967296+L/4294967296) Y
 have R1a:=Int.emod_nonneg (U*4294967296+L/4294967296) (show Y≠0 by omega)
 have R1b:=Int.emod_lt_of_pos (U*4294967296+L/4294967296) (show 0<Y by omega)
 have q0:IntKind.wrap .u64 (Int.tdiv U (Y/4294967296))=U/(Y/4294967296):=by
  rw[Int.tdiv_eq_ediv_of_nonneg U1.1,wrap_u64]
  have:=Int.ediv_nonneg U1.1 (show 0<=Y/4294967296 by omega)
  have:=Int.ediv_le_self (Y/4294967296) U1.1
  omega
 have r0:IntKind.wrap .u64 (U-IntKind.wrap .u64 (U/(Y/4294967296)*(Y/4294967296)))=U%(Y/4294967296):=by
  have qm:=Int.ediv_mul_add_emod U (Y/4294967296)
  have m0:=Int.emod_nonneg U (show Y/4294967296≠0 by omega)
  have m1:=Int.emod_lt_of_pos U (show 0<Y/4294967296 by omega)
  rw[wrap_u64,wrap_u64]
  generalize U/(Y/4294967296)*(Y/4294967296)=A at*
  omega
 simp only[yz,cond_true,q0,r0]
 generalize hQ1:(U*4294967296+L/4294967296)/Y=q1 at*
 generalize hR1:(U*4294967296+L/4294967296)%Y=R at*
 have g2:Dig Y (Y/4294967296) (Y%4294967296) R (L%4294967296):=⟨by omega,hY1,by omega,⟨R1a,R1b⟩,by omega⟩
 have Q2:=g2.lt
 have R2:=Int.mul_ediv_add_emod (R*4294967296+L%4294967296) Y
 have R2a:=Int.emod_nonneg (R*4294967296+L%4294967296) (show Y≠0 by omega)
 have R2b:=Int.emod_lt_of_pos (R*4294967296+L%4294967296) (show 0<Y by omega)
 generalize hQ2:(R*4294967296+L%4294967296)/Y=q2 at*
 generalize hR2:(R*4294967296+L%4294967296)%Y=R' at*
 have un:IntKind.wrap .u64 (IntKind.wrap .u64 (IntKind.wrap .u64 (U*4294967296)+L/4294967296)-IntKind.wrap .u64 (q1*Y))=R:=by
  rw[Int.mul_comm q1 Y]
  simp only[wrap_u64]
  generalize Y*q1=A at*
  omega
 have q3:IntKind.wrap .u64 (Int.tdiv R (Y/4294967296))=R/(Y/4294967296):=by
  rw[Int.tdiv_eq_ediv_of_nonneg R1a,wrap_u64]
  have:=Int.ediv_nonneg R1a (show 0<=Y/4294967296 by omega)
  have:=Int.ediv_le_self (Y/4294967296) R1a
  omega
 have r3:IntKind.wrap .u64 (R-IntKind.wrap .u64 (R/(Y/4294967296)*(Y/4294967296)))=R%(Y/4294967296):=by
  have qm:=Int.ediv_mul_add_emod R (Y/4294967296)
  have m0:=Int.emod_nonneg R (show Y/4294967296≠0 by omega)
  have m1:=Int.emod_lt_of_pos R (show 0<Y/4294967296 by omega)
  rw[wrap_u64,wrap_u64]
  generalize R/(Y/4294967296)*(Y/4294967296)=A at*
  omega
 have un2:IntKind.wrap .u64 (IntKind.wrap .u64 (IntKind.wrap .u64 (R*4294967296)+L%4294967296)-IntKind.wrap .u64 (q2*Y))=R':=by
  rw[Int.mul_comm q2 Y]
  simp only[wrap_u64]
  generalize Y*q2=A at*
  omega
 have quo:IntKind.wrap .u64 (IntKind.wrap .u64 (q1*4294967296)+q2)=q1*4294967296+q2:=by
  simp only[wrap_u64];omega
 have ans:(U*18446744073709551616+L)/Y=q1*4294967296+q2∧(U*18446744073709551616+L)%Y=R':=by
  have e:U*18446744073709551616+L=R'+Y*(q1*4294967296+q2):=by
   have e2:Y*(q1*4294967296+q2)=Y*q1*4294967296+Y*q2:=by grind
   rw[e2];omega
  rw[e]
  constructor
  ·rw[Int.add_mul_ediv_left _ _ (by omega),Int.ediv_eq_zero_of_lt R2a R2b,Int.zero_add]
  ·rw[Int.add_mul_emod_self_left,Int.emod_eq_of_lt R2a R2b]
 rw[ans.1,ans.2]
 refine aUl Y s _ _ U _ _ g1 _ _ ?_ ?_ ?_
 all_goals
  intros
  simp only[Sum.elim_inl,Sum.elim_inr,hQ1,yz,cond_true,un,q3,r3]
  refine aUm Y s _ _ R _ _ g2 _ _ ?_ ?_ ?_
  all_goals
   intros
   simp only[Sum.elim_inl,Sum.elim_inr,hQ2,k3,cond_true,un2,quo,k4,h2s]
   rw[o6 _ _ (Int.le_of_lt P0)]
end Go.Proofs.YtcmfbkneahoonaaGreat
namespace Go.Proofs.YtcmfbkneahoonaaGreat
open Go.Ab
def jN (x:Int):Int:=if x<0 then -x else x
theorem aHo (x:Int):0<=jN x:=by unfold jN;split<;>omega
def qdq (V D:Int):Int:=V/D+(if 2*(V%D)<D then 0 else 1)
def Lw (a d:Int):Int:=if (decide (a<0))=(decide (d<0)) then qdq (jN a) (jN d) else -qdq (jN a) (jN d)
theorem aFA (h l d:Int)(o:okW h l)(d0: -9223372036854775808<=d)(d1:d<=9223372036854775807)(nz:d≠0):
  zi h l d=if -9223372036854775808<=Lw (vW h l) d∧Lw (vW h l) d<=9223372036854775807 then some (Lw (vW h l) d,true) else some (0,false):=by
 simp only[zi,ai0,Pg.bP,Pg.bM,Pg.cq,Pg.eE,Pg.dM]
 try delta wI wU
 have z:(d==0)=false:=by rw[beq_eq_false_iff_ne];exact nz
 obtain⟨ah,al,e1,a0,a1,a2,a3,a4⟩:=aFw h l o
 have e2:=amn d d0 d1
 rw[z,cond_false,e1,Option.bind_some,e2,Option.bind_some]
 simp only
 have D0:0<jN d:=by unfold jN;split<;>omega
 have D1:jN d<=9223372036854775808:=by unfold jN;split<;>omega
 have ed:(if d<0 then -d else d)=jN d:=rfl
 have va:ah*18446744073709551616+al=jN (vW h l):=by
  rw[a4]
  obtain⟨o1,o2,o3,o4⟩:=o
  unfold jN
  simp only[vW]
  split<;>split<;>omega
 have sn:decide (h<0)=decide (vW h l<0):=by
  obtain⟨o1,o2,o3,o4⟩:=o
  simp only[vW]
  by_cases c:h<0
  ·rw[decide_eq_true c,decide_eq_true (by omega)]
  ·rw[decide_eq_false c,decide_eq_false (by omega)]
 rw[ed,sn]
 generalize vW h l=V at*
 have nz2:(!decide (jN d=0))=true:=by rw[decide_eq_false (by omega)];rfl
 have r0:=Int.emod_nonneg ah (show jN d≠0 by omega)
 have r1:=Int.emod_lt_of_pos ah D0
 have q0:=Int.ediv_nonneg a0 (Int.le_of_lt D0)
 have q1:=Int.ediv_le_self (jN d) a0
 have qe:=Int.mul_ediv_add_emod ah (jN d)
 have dv:=aPm (ah%jN d) al (jN d) r0 r1 (by omega) a2 a3
 rw[nz2,cond_true,cond_true,Int.tmod_eq_emod_of_nonneg a0,dv,Option.bind_some,Int.tdiv_eq_ediv_of_nonneg a0]
 simp only
 have w1:IntKind.wrap .u64 (ah/jN d)=ah/jN d:=by rw[wrap_u64];omega
 have E:jN V=(ah%jN d*18446744073709551616+al)+jN d*(ah/jN d*18446744073709551616):=by
  rw[<-va]
  have:jN d*(ah/jN d*18446744073709551616)=jN d*(ah/jN d)*18446744073709551616:=by grind
  rw[this];omega
 have Q:jN V/jN d=(ah%jN d*18446744073709551616+al)/jN d+ah/jN d*18446744073709551616:=by
  rw[E,Int.add_mul_ediv_left _ _ (by omega)]
 have R:jN V%jN d=(ah%jN d*18446744073709551616+al)%jN d:=by rw[E,Int.add_mul_emod_self_left]
 have n0:0<=(ah%jN d*18446744073709551616+al)/jN d:=Int.ediv_nonneg (by omega) (Int.le_of_lt D0)
 have n1:(ah%jN d*18446744073709551616+al)/jN d<18446744073709551616:=by
  refine Int.ediv_lt_of_lt_mul D0 ?_
  omega
 have t0:=Int.emod_nonneg (ah%jN d*18446744073709551616+al) (show jN d≠0 by omega)
 have t1:=Int.emod_lt_of_pos (ah%jN d*18446744073709551616+al) D0
 rw[<-R] at t0 t1 ⊢
 have w2:IntKind.wrap .u64 (jN d-jN V%jN d)=jN d-jN V%jN d:=by rw[wrap_u64];omega
 rw[w1,w2]
 have sgn:(!decide (V<0)==decide (d<0))= !decide ((decide (V<0))=(decide (d<0))):=by
  cases decide (V<0)<;>cases decide (d<0)<;>rfl
 have qn:0<=qdq (jN V) (jN d):=by
  have:=aHo V
  have:=Int.ediv_nonneg this (Int.le_of_lt D0)
  unfold qdq;split<;>omega
 have fin:∀u v:Int,0<=u->0<=v->v<18446744073709551616->u*18446744073709551616+v=qdq (jN V) (jN d)->
   (Option.bind (hX u v (!decide (V<0)==decide (d<0))) λ(d:Int×Bool)=>some (d.1,d.2))=if -9223372036854775808<=Lw V d∧Lw V d<=9223372036854775807 then some (Lw V d,true) else some (0,false):=by
  intro u v u0 v0 v1 e
  rw[Kz u v _ u0 v0 v1,e,sgn]
  unfold Lw
  generalize qdq (jN V) (jN d)=q at*
  by_cases s:(decide (V<0))=(decide (d<0))
  ·rw[if_pos s,decide_eq_true s]
   simp only[Bool.not_true,Bool.false_eq_true,if_false]
   by_cases c:q<=9223372036854775807
   ·rw[if_pos c,if_pos (by omega),Option.bind_some]
    have uz:u=0:=by omega
    subst uz
    have:v=q:=by omega
    rw[this]
   ·rw[if_neg c,if_neg (by omega),Option.bind_some]
  ·rw[if_neg s,decide_eq_false s]
   simp only[Bool.not_false,if_true]
   by_cases c:q<=9223372036854775808
   ·rw[if_pos c,if_pos (by omega),Option.bind_some]
    have uz:u=0:=by omega
    subst uz
    have:v=q:=by omega
    rw[this]
   ·rw[if_neg c,if_neg (by omega),Option.bind_some]
 by_cases c:jN V%jN d>=jN d-jN V%jN d
 ·rw[decide_eq_true c,cond_true]
  obtain⟨u,v,e3,u0,u1,v0,v1,e4⟩:=aeW (ah/jN d) ((ah%jN d*18446744073709551616+al)/jN d) 0 1 q0 n0 (by omega) (by omega) n1 (by omega) (by omega)
  rw[e3,Option.bind_some]
  simp only
  refine fin u v u0 v0 v1 ?_
  rw[e4];unfold qdq
  rw[if_neg (by omega),Q];omega
 ·rw[decide_eq_false c,cond_false]
  refine fin _ _ q0 n0 n1 ?_
  unfold qdq
  rw[if_pos (by omega),Q];omega
theorem aPn (a d:Int)(nz:d≠0):((decide (a<0))=(decide (d<0))->0<=Lw a d)∧(¬(decide (a<0))=(decide (d<0))->Lw a d<=0):=by
 have D0:0<jN d:=by unfold jN;split<;>omega
 have q:=Int.ediv_nonneg (aHo a) (Int.le_of_lt D0)
 have qn:0<=qdq (jN a) (jN d):=by unfold qdq;split<;>omega
 unfold Lw
 constructor
 ·intro h;rw[if_pos h];exact qn
 ·intro h;rw[if_neg h];omega
theorem aOp (h l d:Int)(eO:Bool)(o:okW h l)(d0: -9223372036854775808<=d)(d1:d<=9223372036854775807)(nz:d≠0):
  vX h l d eO=some (sat (Lw (vW h l) d),eO||eV (Lw (vW h l) d)):=by
 simp only[vX,JM,Pg.bP,Pg.bM,Pg.cq,Pg.eE,Pg.dM]
 try delta wI wU
 have z:(d==0)=false:=by rw[beq_eq_false_iff_ne];exact nz
 have sn:decide (h<0)=decide (vW h l<0):=by
  obtain⟨o1,o2,o3,o4⟩:=o
  simp only[vW]
  by_cases c:h<0
  ·rw[decide_eq_true c,decide_eq_true (by omega)]
  ·rw[decide_eq_false c,decide_eq_false (by omega)]
 rw[z,cond_false,aFA h l d o d0 d1 nz,sn]
 have s:=aPn (vW h l) d nz
 generalize vW h l=V at*
 by_cases c: -9223372036854775808<=Lw V d∧Lw V d<=9223372036854775807
 ·rw[if_pos c,Option.bind_some]
  simp only[abM,if_true,Option.bind_some]
 ·rw[if_neg c,Option.bind_some]
  simp only[abM,Bool.false_eq_true,if_false,Option.bind_some]
  by_cases e:(decide (V<0))=(decide (d<0))
  ·have p:=s.1 e
   have e2:(!decide (V<0)==decide (d<0))=false:=by rw[e,beq_self_eq_true];rfl
   rw[e2]
   unfold sat eV
   rw[if_neg (by decide),if_neg (by omega),if_pos (by omega),decide_eq_true (show 1152921504606846976<Lw V d by omega),Bool.or_true,Bool.or_true]
  ·have p:=s.2 e
   have e2:(!decide (V<0)==decide (d<0))=true:=by
    have:(decide (V<0)==decide (d<0))=false:=by rw[beq_eq_false_iff_ne];exact e
    rw[this];rfl
   rw[e2]
   unfold sat eV
   rw[if_pos rfl,if_pos (by omega),decide_eq_true (show Lw V d< -1152921504606846976 by omega),Bool.true_or,Bool.or_true]
theorem aJ8 (a b d:Int)(eO:Bool)(nz:sat d≠0):
  aU a b d eO=some (sat (Lw (sat a*sat b) (sat d)),((((eO||eV a)||eV b)||eV d)||eV (Lw (sat a*sat b) (sat d)))):=by
 simp only[aU,Es,Pg.bP,Pg.bM,Pg.cq,Pg.eE,Pg.dM]
 try delta wI wU
 have:=oD a
 have:=oD b
 have:=oD d
 obtain⟨h,l,e1,e2,e3⟩:=BT (sat a) (sat b) (by omega) (by omega) (by omega) (by omega)
 simp only[oK,Option.bind_some,e1,aOp h l (sat d) _ e2 (by omega) (by omega) nz,e3]
theorem aTj (a b:Int)(s:Nat)(eO:Bool)(hs:s<=66)(nz:sat b≠0):
  bp a b (Int.ofNat s) eO=some (sat (Lw (sat a*2^s) (sat b)),(((eO||eV a)||eV b)||eV (Lw (sat a*2^s) (sat b)))):=by
 simp only[bp,NW,Pg.bP,Pg.bM,Pg.cq,Pg.eE,Pg.dM]
 try delta wI wU
 have ha:=oD a
 have hb:=oD b
 have P0:=kK s
 have PB:(2:Int)^s<=2^66:=ako hs
 have PV:(2:Int)^66=73786976294838206464:=by decide
 have m1:sat a*2^s<=1152921504606846976*73786976294838206464:=by
  rcases Int.le_total 0 (sat a) with c|c
  ·exact Int.mul_le_mul ha.2 (by omega) (Int.le_of_lt P0) (by omega)
  ·have:=aHn (a:= -sat a) (b:=2^s) (by omega) (Int.le_of_lt P0)
   rw[Int.neg_mul] at this;omega
 have m2: -(1152921504606846976*73786976294838206464)<=sat a*2^s:=by
  rcases Int.le_total 0 (sat a) with c|c
  ·have:=aHn c (Int.le_of_lt P0);omega
  ·have:=Int.mul_le_mul (show -sat a<=1152921504606846976 by omega) (show(2:Int)^s<=73786976294838206464 by omega) (Int.le_of_lt P0) (by omega)
   rw[Int.neg_mul] at this;omega
 have mv:(1152921504606846976:Int)*73786976294838206464=85070591730234615865843651857942052864:=by decide
 obtain⟨h,l,b',e1,o1,f1,v1,_⟩:=akp (sat a) s (by omega) (by omega) (by omega)
 have bt:b'=true:=f1.2 ⟨by omega,by omega⟩
 subst bt
 have n0:decide (Int.ofNat s<0)=false:=by simp
 have n1:decide (Int.ofNat s>66)=false:=by simp only[Int.ofNat_eq_natCast];exact decide_eq_false (by omega)
 simp only[oK,Option.bind_some,n0,n1,cond_false,e1,aOp h l (sat b) _ o1 (by omega) (by omega) nz,v1 rfl]
end Go.Proofs.YtcmfbkneahoonaaGreat
namespace Go.Proofs.YtcmfbkneahoonaaGreat
open Go.Ab
theorem atg (h l r:Int)(eO:Bool)(o:okW h l)(h0:0<=h)(hr:isR r (vW h l)):vZ h l eO=some (sat r,eO||eV r):=by
 obtain⟨r',e1,e2,e3⟩:=aqs h l o h0
 have:=aPj hr e1
 subst this
 simp only[vZ,ai4,Pg.bP,Pg.bM,Pg.cq,Pg.eE,Pg.dM]
 try delta wI wU
 rw[e3]
 by_cases c:r<=9223372036854775807
 ·rw[if_pos c,Option.bind_some]
  simp only[Bool.not_true,cond_false,oK,Option.bind_some]
 ·rw[if_neg c,Option.bind_some]
  simp only[Bool.not_false,cond_true,oK,Option.bind_some]
  have a:sat r=sat 1152921504606846977:=by
   unfold sat
   rw[if_neg (by omega),if_pos (by omega),if_neg (by omega),if_pos (by omega)]
  have b:eV r=eV 1152921504606846977:=by
   unfold eV
   rw[decide_eq_true (show 1152921504606846976<r by omega),decide_eq_true (show(1152921504606846976:Int)<1152921504606846977 by omega),Bool.or_true,Bool.or_true]
  rw[a,b]
end Go.Proofs.YtcmfbkneahoonaaGreat
namespace Go.Ab
class bo {D:Type} (x:Option D):Prop where
 ok:∃d,x=some d
def Ok {D:Type}(x:Option D)(Q:D->Prop):Prop:=∃d,x=some d∧Q d
def PQ {δ:Type}(p:Pg δ)(Q:δ->Prop):Prop:=Ok p.val Q
section
variable {δ D A B:Type} {Q:δ->Prop}
theorem Ok.tot {x:Option D}{Q:D->Prop}(h:Ok x Q):bo x:=⟨h.imp λ_ h=>h.1⟩
theorem Ok.post {x:Option D}{Q:D->Prop}(h:Ok x Q){d:D}(e:x=some d):Q d:=by
 obtain⟨d',e',h⟩:=h
 rw[e] at e';cases e';exact h
theorem Ok.mono {x:Option D}{Q R:D->Prop}(h:Ok x Q)(k:∀d,Q d->R d):Ok x R:=h.imp λ_ h=>⟨h.1,k _ h.2⟩
theorem bo.Ok {x:Option D}(h:bo x){Q:D->Prop}(k:∀d,x=some d->Q d):Ok x Q:=by
 obtain⟨d,e⟩:=h.ok
 exact⟨d,e,k d e⟩
theorem aTk (d:D)(Q:D->Prop):Ok (some d) Q=Q d:=propext (Iff.intro (λh=>Ok.post h rfl) λh=>⟨d,rfl,h⟩)
theorem av (d:δ):PQ (.ret d) Q=Q d:=aTk d Q
theorem aM8:PQ (.no:Pg δ) Q=False:=propext (Iff.intro (λh=>by obtain⟨_,h,_⟩:=h;cases h) λh=>False.elim h)
theorem aL (b:Bool)(x y:Pg δ):PQ (.ae b x y) Q=((b=true->PQ x Q)∧(b=false->PQ y Q)):=by
 unfold PQ
 rw[Pg.bM]
 cases b<;>simp
theorem bC (b:Bool)(x:Pg δ):PQ (.ae b x .no) Q=(b=true∧PQ x Q):=by
 rw[aL,aM8]
 cases b<;>simp
theorem aC (x y:Pg δ):PQ (.ae true x y) Q=PQ x Q:=by unfold PQ;rw[Pg.bM];rfl
theorem bz (x:Option D)(f:D->Pg δ)[h:bo x]:PQ (.opt x f) Q=∀d,x=some d->PQ (f d) Q:=by
 obtain⟨d,rfl⟩:=h.ok
 unfold PQ
 rw[Pg.cq,Option.bind_some]
 exact propext (Iff.intro (λh d' e=>by cases e;exact h) λh=>h d rfl)
theorem bQ (d:D)(f:D->Pg δ):PQ (.opt (some d) f) Q=PQ (f d) Q:=rfl
theorem ay {x:Option D}{f:D->Pg δ}{R:D->Prop}(h:Ok x R)(k:∀d,x=some d->R d->PQ (f d) Q):PQ (.opt x f) Q:=by
 obtain⟨d,rfl,hr⟩:=h
 exact k d rfl hr
theorem oE (x:A⊕B)(f:A->Pg δ)(g:B->Pg δ):PQ (.sum x f g) Q=((∀a,x=.inl a->PQ (f a) Q)∧∀b,x=.inr b->PQ (g b) Q):=by
 unfold PQ
 rw[Pg.dM]
 cases x<;>simp
theorem oA (x:A⊕B)(f:A->Pg δ)(g:B->Pg δ):PQ (.sm x f g) Q=((∀a,x=.inl a->PQ (f a) Q)∧∀b,x=.inr b->PQ (g b) Q):=by
 unfold PQ
 rw[Pg.aGU]
 cases x<;>simp
theorem aG {p:Pg δ}(h:PQ p λ_=>True):bo p.val:=Ok.tot h
theorem aZ {D X:Type}{s:D->Pg (D⊕X)}(I:D->Prop)(m:D->Nat)(R:X->Prop)
  (h:∀d,I d->PQ (s d) (Sum.elim (λd'=>I d'∧m d'<m d) R)):∀(n:Nat) (d:D),I d->m d<n->Ok (bD s n d) R:=λn d hd hn=>by
 refine Yf (λt d=>I d∧m d=t) R (λt d hd=> ?_) n (m d) d hn ⟨hd,rfl⟩
 obtain⟨y,hy,hq⟩:=h d hd.1
 refine⟨y,hy,?_⟩
 cases y with
 |inl d'=>exact⟨m d',hd.2▸hq.2,hq.1,rfl⟩
 |inr x=>exact hq
end
theorem bd {n:Int}(h:0<=n)(k:n<=4611686018427387904):wI (n+1)=n+1:=wrap_i64 (by omega) (by omega)
theorem eP {n:Int}(h: -4611686018427387904<=n)(k:n<=4611686018427387904):wI n=n:=wrap_i64 (by omega) (by omega)
theorem bn {n:Int}{m:Nat}:aX n m=true↔0<=n∧n<m:=by simp[aX]
theorem MO {n:Int}{m:Nat}:Cu n m=true↔0<=n∧n<=m:=by simp[Cu]
theorem bL {m n:Nat}:Nat.ble m n=true↔m<=n:=by rw[Nat.ble_eq]
theorem nf {b:Bool}:(b=false->False)↔b=true:=by cases b<;>simp
theorem hdN (n:Nat)(h:n<=1999):(0:Int)<=0∧(0:Int)<=Int.ofNat n∧Int.ofNat n<=1999∧Int.ofNat n=(n:Int):=by
 simp only[Int.ofNat_eq_natCast,and_true]
 omega
theorem aM (m:Nat):Nat.beq m m=true:=Nat.beq_refl m
theorem bG:(∀{δ:Type} {Q:δ->Prop} (d:δ),PQ (.ret d) Q=Q d)∧(∀{δ:Type} {Q:δ->Prop} (b:Bool) (x:Pg δ),PQ (.ae b x .no) Q=(b=true∧PQ x Q))∧(∀{δ:Type} {Q:δ->Prop} (b:Bool) (x y:Pg δ),PQ (.ae b x y) Q=((b=true->PQ x Q)∧(b=false->PQ y Q)))
  ∧(∀{δ D:Type} {Q:δ->Prop} (x:Option D) (f:D->Pg δ) [h:bo x],PQ (.opt x f) Q=∀d,x=some d->PQ (f d) Q)∧(∀{δ A B:Type} {Q:δ->Prop} (x:A⊕B) (f:A->Pg δ) (g:B->Pg δ),PQ (.sum x f g) Q=((∀a,x=.inl a->PQ (f a) Q)∧∀b,x=.inr b->PQ (g b) Q))
  ∧(∀{δ A B:Type} {Q:δ->Prop} (x:A⊕B) (f:A->Pg δ) (g:B->Pg δ),PQ (.sm x f g) Q=((∀a,x=.inl a->PQ (f a) Q)∧∀b,x=.inr b->PQ (g b) Q))∧(∀{δ:Type} {Q:δ->Prop},PQ (.no:Pg δ) Q=False)
  ∧(∀{A B C:Type} (f:A->C) (g:B->C) (x:A),Sum.elim f g (.inl x)=f x)∧(∀{A B C:Type} (f:A->C) (g:B->C) (x:B),Sum.elim f g (.inr x)=g x)
  ∧(∀p:Prop,(p->True)=True)∧(∀α:Type,(α->True)=True)∧(∀p:Prop,(p∧True)=p)∧(∀p:Prop,(True∧p)=p)∧∀p:Prop,(p∧p)=p:=
 ⟨λd=>av d,λb x=>bC b x,λb x y=>aL b x y,λx f _=>bz x f,λx f g=>oE x f g,λx f g=>oA x f g,aM8,λ_ _ _=>rfl,λ_ _ _=>rfl,λp=>implies_true p,λα=>implies_true α,and_true,true_and,and_self⟩
theorem oL:(∀m,Nat.beq m m=true)∧(∀p:Prop,(True->p)=p)∧((true=false)=False)∧(∀p:Prop,(False->p)=True)∧∀{δ D:Type} {Q:δ->Prop} (d:D) (f:D->Pg δ),PQ (.opt (some d) f) Q=PQ (f d) Q:=
 ⟨aM,true_implies,Bool.true_eq_false,false_implies,λd f=>bQ d f⟩
theorem rX:(∀{n:Int} {m:Nat},aX n m=true↔0<=n∧n<m)∧(∀{n:Int} {m:Nat},Cu n m=true↔0<=n∧n<=m)∧(∀{m n:Nat},Nat.ble m n=true↔m<=n)∧(∀m,Nat.beq m m=true)∧(∀a b:Bool,((a&&b)=true)=(a=true∧b=true))∧(∀{p:Prop} [Decidable p],(decide p=true)=p)
  ∧(∀{p:Prop} [Decidable p],decide p=false↔¬p)∧(∀{a b:Int},(a==b)=true↔a=b)∧(∀b:Bool,(true&&b)=b)∧∀n:Nat,Int.ofNat n=(n:Int):=
 ⟨bn,MO,bL,aM,λa b=>Bool.and_eq_true a b,λ{_} _=>decide_eq_true_eq,λ{_} _=>decide_eq_false_iff_not,beq_iff_eq,Bool.true_and,Int.ofNat_eq_natCast⟩
end Go.Ab
namespace Go.Proofs.YtcmfbkneahoonaaGreat
open Go.Ab Go.Ab.Pg
instance aYN (x:Int)(h:Bool):bo (aQ x h):=⟨_,oK x h⟩
instance aXI (x a b:Int)(h:Bool):bo (bc x a b h):=aG (p:=vx x a b h) (by simp only[vx,aL,av,implies_true,and_self])
instance aYx (b:Bool):bo (oU b):=aG (p:=TM b) (by simp only[TM,aL,av,implies_true,and_self])
instance aYO (x:Int):bo (vA x):=aG (p:=BL x) (by simp only[BL,aL,av,implies_true,and_self])
instance aYy (x:Int):bo (jt x):=aG (p:=Ss x) (by simp only[Ss,aL,av,bC,implies_true,and_self])
instance aYP (a:Int)(b c d:Bool):bo (lM a b c d):=aG (p:=Ge oU aQ a b c d) (by simp only[Ge,aL,av,bz,implies_true,and_self])
instance aYQ (x y:Int)(h:Bool):bo (bJ x y h):=aG (p:=Gk aQ x y h) (by simp only[Gk,aL,av,bz,implies_true,and_self])
theorem aM9 (a b:Int)(s:Nat)(hs:s<=120)(h:Bool):bo (aV a b (Int.ofNat s) h):=⟨_,aJ5 a b s h hs⟩
instance aXJ (a b:Int)(h:Bool):bo (aV a b 30 h):=aM9 a b 30 (by omega) h
instance aXK (a b:Int)(h:Bool):bo (aV a b 44 h):=aM9 a b 44 (by omega) h
instance aXL (a b:Int)(h:Bool):bo (aV a b 10 h):=aM9 a b 10 (by omega) h
instance t_m (a b:Int)(h:Bool):bo (IG a b h):=aG (p:=amk aV a b h) (by simp only[amk,aL,av,bz,implies_true,and_self])
theorem aWf (s:Nat)(hs:s<=120)(n:Nat)(hn:n<=100)(eO:Bool)(f g:Nat->Int)(w w':Bool):bo (br (Int.ofNat s) n n eO f g w w'):=⟨_,aJ6 s hs n hn eO f g w w'⟩
theorem KB (n:Nat)(hn:n<=100)(eO:Bool)(f g:Nat->Int)(w w':Bool):bo (br 30 n n eO f g w w'):=aWf 30 (by omega) n hn eO f g w w'
instance aYz (eO:Bool)(f g:Nat->Int)(w w':Bool):bo (br 30 2 2 eO f g w w'):=KB 2 (by omega) eO f g w w'
instance aYA (eO:Bool)(f g:Nat->Int)(w w':Bool):bo (br 30 3 3 eO f g w w'):=KB 3 (by omega) eO f g w w'
instance aYB (eO:Bool)(f g:Nat->Int)(w w':Bool):bo (br 30 4 4 eO f g w w'):=KB 4 (by omega) eO f g w w'
instance aXM (eO:Bool)(f g:Nat->Int)(w w':Bool):bo (br 30 24 24 eO f g w w'):=KB 24 (by omega) eO f g w w'
instance aXN (eO:Bool)(f g:Nat->Int)(w w':Bool):bo (br 30 48 48 eO f g w w'):=KB 48 (by omega) eO f g w w'
theorem aHp (n:Nat)(hn:n<=1900)(eO:Bool)(l:Nat->Int)(w:Bool):bo (cG n eO l w):=⟨_,aTf n hn eO l w⟩
instance aYC (eO:Bool)(l:Nat->Int)(w:Bool):bo (cG 2 eO l w):=aHp 2 (by omega) eO l w
instance aYD (eO:Bool)(l:Nat->Int)(w:Bool):bo (cG 3 eO l w):=aHp 3 (by omega) eO l w
theorem aTl (x y:Int)(h:Bool):bo (vX x y 0 h):=aG (p:=JM oU zi lM x y 0 h) (by
 unfold JM
 simp only[aL,av,bz,implies_true,and_self,true_and]
 intro h;simp at h)
instance aWW (a b d:Int)(h:Bool):bo (aU a b d h):=by
 by_cases nz:sat d=0
 ·have h1:=oD a
  have h2:=oD b
  obtain⟨x,y,e,_,_⟩:=BT (sat a) (sat b) (by omega) (by omega) (by omega) (by omega)
  have:=(aTl x y (((h||eV a)||eV b)||eV d)).ok
  refine⟨?_⟩
  simp only[aU,Es,bP,bM,cq,oK,Option.bind_some,e,nz]
  obtain⟨d,hd⟩:=this
  rw[hd]
  exact⟨_,rfl⟩
 ·exact⟨_,aJ8 a b d h nz⟩
theorem aTm (a b:Int)(s:Nat)(hs:s<=66)(h:Bool):bo (bp a b (Int.ofNat s) h):=by
 by_cases nz:sat b=0
 ·have h1:=oD a
  obtain⟨x,y,q,e,_,_⟩:=akp (sat a) s (by omega) (by omega) (by omega)
  have:=(aTl x y ((h||eV a)||eV b)).ok
  refine⟨?_⟩
  have n0:decide (Int.ofNat s<0)=false:=by simp
  have n1:decide (Int.ofNat s>66)=false:=by simp only[Int.ofNat_eq_natCast];exact decide_eq_false (by omega)
  simp only[bp,NW,bP,bM,cq,oK,Option.bind_some,n0,n1,cond_false,e,nz]
  obtain⟨d,hd⟩:=this
  rw[hd]
  exact⟨_,rfl⟩
 ·exact⟨_,aTj a b s h hs nz⟩
instance aXO (a b:Int)(h:Bool):bo (bp a b 30 h):=aTm a b 30 (by omega) h
instance aXP (a b:Int)(h:Bool):bo (bp a b 44 h):=aTm a b 44 (by omega) h
def sq2 (f:Nat->Int)(n:Nat):Int:=xL (λj=>sat (f j)*sat (f j)) n
theorem axO (f:Nat->Int):∀n,0<=sq2 f n
 |0=>Int.le_refl 0
 |n+1=>by
  have:=axO f n
  have h2:0<=sat (f n)*sat (f n):=by
   rcases Int.le_total 0 (sat (f n)) with h|h
   ·exact Int.mul_nonneg h h
   ·exact Int.mul_nonneg_of_nonpos_of_nonpos h h
  unfold sq2 at*
  rw[xL];omega
theorem aPo (n:Nat)(hn:n<=64)(eO:Bool)(f:Nat->Int)(w:Bool):∃r,isR r (sq2 f n)∧fM n eO f w=some (sat r,(eO||Dq (λj=>eV (f j)) n)||eV r):=by
 have nn:=axO f n
 have key:∃x,fM n eO f w=x∧∃h l,okW h l∧vW h l=sq2 f n∧x=(vZ h l (eO||Dq (λj=>eV (f j)) n)):=by
  refine⟨_,rfl,?_⟩
  have m:(if 64<Int.ofNat n then(64:Int) else Int.ofNat n)=Int.ofNat n:=by rw[if_neg (by simp only[Int.ofNat_eq_natCast];omega)]
  have k:Cu (Int.ofNat n) n=true:=by simp[Cu]
  have q:Int.toNat (Int.ofNat n)=n:=rfl
  simp only[fM,ZC,bP,bM,cq,eE,m,k,q,cond_true]
  unfold Qg
  obtain⟨x,hx,i,h,l,ho,hv,rfl⟩:=Yf (s:=Bg aQ eQ ji)
   (λt d=>∃(i:Nat) (h l':Int),i+t=n∧okW h l'∧vW h l'=sq2 f i∧d=(((n,w&&false),Int.ofNat n,Int.ofNat i),(eO||Dq (λj=>eV (f j)) i),(n,f),h,l'))
   (λx=>∃(i:Nat) (h l':Int),okW h l'∧vW h l'=sq2 f n∧x=(((n,w&&false),Int.ofNat n,Int.ofNat n,decide (Int.ofNat n<Int.ofNat n)),(eO||Dq (λj=>eV (f j)) n),(n,f),h,l')) (λt d=>by
    rintro ⟨i,h,l',hi,ho,hv,rfl⟩
    have bnd:=akn (λj=>sat (f j)*sat (f j)) 1329227995784915872903807060280344576 (by omega) i (λj _=>abN _ _)
    have hv':vW h l'=xL (λj=>sat (f j)*sat (f j)) i:=hv
    rcases Nat.eq_zero_or_pos t with t0|t0
    ·have e:i=n:=by omega
     subst e
     simp only[Bg,bP,bM,cq,eE,atd (Nat.le_refl i),cond_false]
     exact⟨_,rfl,i,h,l',ho,hv,by rfl⟩
    ·have hs1:=oD (f i)
     have hm:=abN (f i) (f i)
     obtain⟨h1,l1,e1,o1,v1⟩:=BT (sat (f i)) (sat (f i)) (by omega) (by omega) (by omega) (by omega)
     obtain⟨h2,l2,e2,o2,v2⟩:=aeV (λj:Nat=>bif Nat.beq j 1 then h1 else bif Nat.beq j 0 then h else h) (λj:Nat=>bif Nat.beq j 1 then l1 else bif Nat.beq j 0 then l' else l') true
      ho o1 (by show _<=vW h l'+vW h1 l1;rw[hv',v1];omega) (by show vW h l'+vW h1 l1<_;rw[hv',v1];omega)
     have v2:vW h2 l2=vW h l'+vW h1 l1:=v2
     rw[hv',v1] at v2
     have q:Int.toNat (Int.ofNat i)=i:=rfl
     simp only[Bg,bP,bM,cq,eE,wI,atc hi t0,ate (show i<n by omega),cond_true,q,oK,Option.bind_some,e1,e2,atf (show i<9000000000000000000 by omega)]
     refine⟨_,rfl,t-1,by omega,i+1,h2,l2,by omega,o2,v2,?_⟩
     simp only[Dq,Bool.or_assoc])
   2000 n (((n,w&&false),Int.ofNat n,0),eO,(n,f),0,0) (by omega) ⟨0,0,0,by omega,⟨by omega,by omega,by omega,by omega⟩,rfl,by simp only[Dq,Bool.or_false];rfl⟩
  rw[hx]
  refine⟨h,l,ho,hv,?_⟩
  simp only[Option.bind_some]
  cases vZ h l (eO||Dq (λj=>eV (f j)) n)<;>rfl
 obtain⟨x,hx,h,l,ho,hv,rfl⟩:=key
 have h0:0<=h:=by
  obtain⟨o1,o2,o3,o4⟩:=ho
  rw[<-hv] at nn
  simp only[vW] at nn;omega
 obtain⟨r,hr,_,_⟩:=aqs h l ho h0
 refine⟨r,hv▸hr,?_⟩
 rw[hx]
 exact atg h l r _ ho h0 hr
theorem aCF (n:Nat)(hn:n<=64)(eO:Bool)(f:Nat->Int)(w:Bool):bo (fM n eO f w):=by
 obtain⟨r,_,h⟩:=aPo n hn eO f w
 exact⟨_,h⟩
instance aWX (eO:Bool)(f:Nat->Int)(w:Bool):bo (fM 3 eO f w):=aCF 3 (by omega) eO f w
instance aWY (eO:Bool)(f:Nat->Int)(w:Bool):bo (fM 4 eO f w):=aCF 4 (by omega) eO f w
end Go.Proofs.YtcmfbkneahoonaaGreat
namespace Go.Proofs.YtcmfbkneahoonaaGreat
open Go.Ab Go.Ab.Pg
theorem ath (d:ju.B)(hd:0<=d.1.2.2.2.2∧d.1.2.2.2.2<=d.1.2.2.2.1∧d.1.2.2.2.1<=1999∧d.1.2.2.2.1=((d.1.2.2.1.1:Nat):Int)):Ok (Ms d) (λx:tk=>True):=
 aZ (s:=_) (λd:ju.B=>0<=d.1.2.2.2.2∧d.1.2.2.2.2<=d.1.2.2.2.1∧d.1.2.2.2.1<=1999∧d.1.2.2.2.1=((d.1.2.2.1.1:Nat):Int)) (λd:ju.B=>Int.toNat (d.1.2.2.2.1-d.1.2.2.2.2)) (λx:tk=>True) (λd hd=>by
  have hw:wI (d.1.2.2.2.2+1)=d.1.2.2.2.2+1:=bd (by omega) (by omega)
  unfold Mr
  simp only[bG]
  simp only[nf,rX,hw]
  repeat' (first|exact True.intro|omega|(intro _)|(apply And.intro))) 2000 d hd (by omega)
theorem avI (x0:Int)(x1:Nat)(h1:1<=x1)(h2:x1<=1000)(x2:Bool)(x3:Nat->Int)(w0:Bool):bo (lO x0 x1 x2 x3 w0):=by
 unfold lO T2
 refine aG ?_
 rw[bC,bC]
 refine⟨by simp only[bn];omega,by simp only[MO];omega,?_⟩
 refine ay (ath _ (hdN (x1-1) (by omega))) λd _ hd=> ?_
 simp only[av]
instance aWg (x0:Int)(x2:Bool)(x3:Nat->Int)(w0:Bool):bo (lO x0 6 x2 x3 w0):=avI _ _ (by omega) (by omega) _ _ _
instance aWh (x0:Int)(x2:Bool)(x3:Nat->Int)(w0:Bool):bo (lO x0 7 x2 x3 w0):=avI _ _ (by omega) (by omega) _ _ _
instance aVp (x0:Int)(x2:Bool)(x3:Nat->Int)(w0:Bool):bo (lO x0 12 x2 x3 w0):=avI _ _ (by omega) (by omega) _ _ _
instance aVq (x0:Int)(x1:Bool):bo (mG x0 x1):=by
 unfold mG ajd
 exact aG (by simp only[bG])
instance aVr (x0:Int)(x1:Bool):bo (qd x0 x1):=by
 unfold qd aje
 exact aG (by simp only[bG])
instance aTR (x0:Int)(x1:Int)(x2:Bool):bo (w7 x0 x1 x2):=by
 unfold w7 ZA
 exact aG (by simp only[bG])
instance aWi (x0:Int)(x1:Int)(x2:Int)(x3:Int)(x4:Int)(x5:Int)(x6:Bool):bo (tM x0 x1 x2 x3 x4 x5 x6):=by
 unfold tM aqa
 exact aG (by simp only[bG])
instance aUn (x0:Int)(x1:Int)(x2:Int)(x3:Int)(x4:Bool):bo (rV x0 x1 x2 x3 x4):=by
 unfold rV aed
 exact aG (by simp only[bG])
instance aVs (x0:Int)(x1:Int)(x2:Int)(x3:Bool):bo (oi x0 x1 x2 x3):=by
 unfold oi ajg
 exact aG (by simp only[bG])
instance aWj (x0:Int)(x1:Int)(x2:Int)(x3:Bool):bo (zN x0 x1 x2 x3):=by
 unfold zN aqb
 exact aG (by simp only[bG])
instance aTn (x0:Int)(x1:Int)(x2:Bool):bo (tL x0 x1 x2):=by
 unfold tL TS
 exact aG (by simp only[bG])
instance aHq (x0:Int)(x1:Int)(x2:Int)(x3:Int)(x4:Bool):bo (iC x0 x1 x2 x3 x4):=by
 unfold iC zK
 exact aG (by simp only[bG])
theorem aCG (d:ny.B)(hd:0<=d.1∧d.1<=4):Ok (ZG d) (λx:BN=>True):=
 aZ (s:=_) (λd:ny.B=>0<=d.1∧d.1<=4) (λd:ny.B=>Int.toNat (4-d.1)) (λx:BN=>True) (λd hd=>by
  have hw:wI (d.1+1)=d.1+1:=bd (by omega) (by omega)
  unfold ZF
  simp only[bG]
  simp only[nf,rX,hw]
  repeat' (first|exact True.intro|omega|(intro _)|(apply And.intro))) 2000 d hd (by omega)
instance aVt (x0:Int)(x1:Int)(x2:Int)(x3:Int)(x4:Bool):bo (we x0 x1 x2 x3 x4):=by
 unfold we aji
 refine aG ?_
 refine ay (aCG _ (by simp)) λd _ hd=> ?_
 simp only[bG]
instance aVu:bo mH:=by
 unfold mH ajn
 exact aG (by simp only[bG])
instance aUo (x0:Int)(x1:Int)(x2:Int)(x3:Int):bo (zO x0 x1 x2 x3):=by
 unfold zO aek
 exact aG (by simp only[bG])
theorem avJ (d:kF.B)(hd:0<=d.1.2∧d.1.2<=3):Ok (Qi d) (λx:vC=>True):=
 aZ (s:=_) (λd:kF.B=>0<=d.1.2∧d.1.2<=3) (λd:kF.B=>Int.toNat (3-d.1.2)) (λx:vC=>True) (λd hd=>by
  have hw:wI (d.1.2+1)=d.1.2+1:=bd (by omega) (by omega)
  unfold Qh
  simp only[bG]
  simp only[nf,rX,hw]
  repeat' (first|exact True.intro|omega|(intro _)|(apply And.intro))) 2000 d hd (by omega)
instance aTS (x0:Nat->Int)(x1:Int):bo (en x0 x1):=by
 unfold en ZI
 refine aG ?_
 refine ay (avJ _ (by simp)) λd _ hd=> ?_
 simp only[bG]
theorem avK (d:kG.B)(hd:0<=d.1.2.2.2.2∧d.1.2.2.2.2<=d.1.2.2.2.1∧d.1.2.2.2.1<=1999∧d.1.2.2.2.1=((d.1.2.2.1.1:Nat):Int)):Ok (Qk d) (λx:vD=>True):=
 aZ (s:=_) (λd:kG.B=>0<=d.1.2.2.2.2∧d.1.2.2.2.2<=d.1.2.2.2.1∧d.1.2.2.2.1<=1999∧d.1.2.2.2.1=((d.1.2.2.1.1:Nat):Int)) (λd:kG.B=>Int.toNat (d.1.2.2.2.1-d.1.2.2.2.2)) (λx:vD=>True) (λd hd=>by
  have hw:wI (d.1.2.2.2.2+1)=d.1.2.2.2.2+1:=bd (by omega) (by omega)
  unfold Qj
  simp only[bG]
  simp only[nf,rX,hw]
  repeat' (first|exact True.intro|omega|(intro _)|(apply And.intro))) 2000 d hd (by omega)
theorem aow (x0:Nat->Int)(x1:Int)(x2:Nat)(x3:Nat->Int)(w0:Bool)(h:x2<=1999):bo (fN x0 x1 x2 x3 w0):=by
 unfold fN ZM
 refine aG ?_
 rw[aM,bC]
 refine⟨rfl,?_⟩
 refine ay (avK _ (hdN x2 h)) λd _ hd=> ?_
 simp only[bG]
instance aXQ (x0:Nat->Int)(x1:Int)(x3:Nat->Int)(w0:Bool):bo (fN x0 x1 3 x3 w0):=aow _ _ _ _ _ (by omega)
instance aXR (x0:Nat->Int)(x1:Int)(x3:Nat->Int)(w0:Bool):bo (fN x0 x1 4 x3 w0):=aow _ _ _ _ _ (by omega)
instance aVv (x0:Int)(x1:Int)(x2:Int)(x3:Int)(x4:Int)(x5:Int)(x6:Int)(x7:Int)(x8:Bool):bo (OL x0 x1 x2 x3 x4 x5 x6 x7 x8):=by
 unfold OL ajp
 exact aG (by simp only[bG])
instance aVw (x0:Int)(x1:Int)(x2:Int)(x3:Int)(x4:Bool):bo (OM x0 x1 x2 x3 x4):=by
 unfold OM ajr
 exact aG (by simp only[bG])
theorem akq (d:gh.B)(hd:0<=d.1.2.2∧d.1.2.2<=d.1.1∧d.1.1<=1999∧d.1.1<=24):Ok (Fu d) (λx:nW=>True):=
 aZ (s:=_) (λd:gh.B=>0<=d.1.2.2∧d.1.2.2<=d.1.1∧d.1.1<=1999∧d.1.1<=24) (λd:gh.B=>Int.toNat (d.1.1-d.1.2.2)) (λx:nW=>True) (λd hd=>by
  have hw:wI (d.1.2.2+1)=d.1.2.2+1:=bd (by omega) (by omega)
  unfold Ft
  simp only[bG]
  simp only[nf,rX,hw]
  repeat' (first|exact True.intro|omega|(intro _)|(apply And.intro))) 2000 d hd (by omega)
theorem nH (x0:Int)(x1:Int)(x2:Int)(x3:Nat->Int)(h0:0<=x0)(h1:x0<=x1)(h2:x1<=24):bo (wg x0 x1 x2 x3):=by
 unfold wg JZ
 refine aG ?_
 refine ay (akq _ (by dsimp only;omega)) λd _ hd=> ?_
 simp only[av]
instance aPZ (x0:Int)(x1:Bool):bo (mf x0 x1):=by
 unfold mf Hi
 exact aG (by simp only[bG])
theorem amG (d:dP.B)(hd:0<=d.1∧d.1<=24):Ok (zQ d) (λx:jX=>True):=
 aZ (s:=_) (λd:dP.B=>0<=d.1∧d.1<=24) (λd:dP.B=>Int.toNat (24-d.1)) (λx:jX=>True) (λd hd=>by
  have hw:wI (d.1+1)=d.1+1:=bd (by omega) (by omega)
  unfold zP
  simp only[bG]
  simp only[nf,rX,hw]
  repeat' (first|exact True.intro|omega|(intro _)|(apply And.intro))) 2000 d hd (by omega)
theorem amH (d:dQ.B)(hd:0<=d.1∧d.1<=276):Ok (zT d) (λx:jY=>True):=
 aZ (s:=_) (λd:dQ.B=>0<=d.1∧d.1<=276) (λd:dQ.B=>Int.toNat (276-d.1)) (λx:jY=>True) (λd hd=>by
  have hw:wI (d.1+1)=d.1+1:=bd (by omega) (by omega)
  unfold zR
  simp only[bG]
  simp only[nf,rX,hw]
  repeat' (first|exact True.intro|omega|(intro _)|(apply And.intro))) 2000 d hd (by omega)
instance aPp (x0:Nat->Int)(x1:Nat->Int)(x2:Bool):bo (fh x0 x1 x2):=by
 unfold fh Ev
 refine aG ?_
 refine ay (amG _ (by simp)) λd _ hd=> ?_
 refine ay (amH _ (by simp)) λd _ hd=> ?_
 simp only[bG]
theorem aD6 (d:pH.B)(hd:0<=d.1.2∧d.1.2<=24):Ok (aeo d) (λx:EA=>True):=
 aZ (s:=_) (λd:pH.B=>0<=d.1.2∧d.1.2<=24) (λd:pH.B=>Int.toNat (24-d.1.2)) (λx:EA=>True) (λd hd=>by
  have hw:wI (d.1.2+1)=d.1.2+1:=bd (by omega) (by omega)
  unfold aen
  simp only[bG]
  simp only[nf,rX,hw]
  repeat' (first|exact True.intro|omega|(intro _)|(apply And.intro))) 2000 d hd (by omega)
instance aWk (x0:Nat)(x1:Bool)(x2:Nat->Int)(w0:Bool):bo (Ug x0 x1 x2 w0):=by
 unfold Ug aqe
 refine aG ?_
 rw[aM,bC]
 refine⟨rfl,?_⟩
 refine ay (aD6 _ (by simp)) λd _ hd=> ?_
 simp only[bG]
end Go.Proofs.YtcmfbkneahoonaaGreat
namespace Go.Proofs.YtcmfbkneahoonaaGreat
open Go.Ab Go.Ab.Pg
theorem aNa:∀j:Nat,j<24->0<=wI (Int.tdiv (wI ((j:Int)*wI ((j:Int)-1))) 2)∧wI (Int.tdiv (wI ((j:Int)*wI ((j:Int)-1))) 2)+(j:Int)<=276+(if j=0 then 1 else 0):=by decide
theorem aJ9 {i j:Int}{d:Sw}(h:iD i j=some d)(ok:d.2=true):0<=d.1∧d.1<276:=by
 simp only[iD,EB,bP,bM] at h
 by_cases h0:0<=i
 ·by_cases h1:i<j
  ·simp only[ge_iff_le,h0,h1,decide_true,cond_true,Option.some.injEq] at h
   subst h
   have h2:j<24:=of_decide_eq_true ok
   obtain⟨n,rfl⟩:=Int.eq_ofNat_of_zero_le (by omega:0<=j)
   obtain⟨k1,k2⟩:=aNa n (by omega)
   rw[if_neg (by omega)] at k2
   generalize wI (Int.tdiv (wI ((n:Int)*wI ((n:Int)-1))) 2)=c at*
   show 0<=wI (c+i)∧wI (c+i)<276
   rw[eP (by omega) (by omega)]
   omega
  ·simp only[ge_iff_le,h0,h1,decide_true,decide_false,cond_true,cond_false,Option.some.injEq] at h
   subst h;cases ok
 ·simp only[ge_iff_le,h0,decide_false,cond_false,Option.some.injEq] at h
  subst h;cases ok
instance aUp (x0:Int)(x1:Int):bo (iD x0 x1):=by
 unfold iD EB
 exact aG (by simp only[bG])
instance aXS (x0:Nat->Int)(x1:Nat->Int)(x2:Int)(x3:Int):bo (Df x0 x1 x2 x3):=by
 have key:∀d,iD x2 x3=some d->((!d.2)=false->aX d.1 276=true∧Nat.ble (0+Int.toNat d.1*1+1) 276=true):=λd h k=>by
  have:=aJ9 h (by simpa using k)
  simp only[bn,bL];omega
 unfold Df asv
 refine aG ?_
 simp only[bG,nf]
 repeat' (first|(apply And.intro)|(intro _ h k;exact⟨λ_=>(key _ h k).2,(key _ h k).1⟩)|(intro _ h k;exact key _ h k)|(intro _))
instance aWl (x0:Nat->Int)(x1:Nat->Int)(x2:Int)(x3:Int)(x4:Int):bo (xc x0 x1 x2 x3 x4):=by
 unfold xc aes
 refine aG ?_
 simp only[bG,nf]
 intro d h k
 have:=aJ9 h k
 simp only[bn,bL,Bool.and_eq_true]
 omega
theorem aqt (d:eN.B)(hd:0<=d.1∧d.1<=24):Ok (CB d) (λx:lu=>True):=
 aZ (s:=_) (λd:eN.B=>0<=d.1∧d.1<=24) (λd:eN.B=>Int.toNat (24-d.1)) (λx:lu=>True) (λd hd=>by
  have hw:wI (d.1+1)=d.1+1:=bd (by omega) (by omega)
  unfold CA
  simp only[bG]
  simp only[nf,rX,hw]
  repeat' (first|exact True.intro|omega|(intro _)|(apply And.intro))) 2000 d hd (by omega)
instance aP0:bo (mg):=by
 unfold mg Hj
 refine aG ?_
 refine ay (aqt _ (by simp)) λd _ hd=> ?_
 simp only[bG]
theorem azp (d:mh.B)(hd:0<=d.1∧d.1<=3):Ok (Uk d) (λx:yr=>True):=
 aZ (s:=_) (λd:mh.B=>0<=d.1∧d.1<=3) (λd:mh.B=>Int.toNat (3-d.1)) (λx:yr=>True) (λd hd=>by
  have hw:wI (d.1+1)=d.1+1:=bd (by omega) (by omega)
  unfold Uj
  try dsimp only
  by_cases hc:d.1<3
  case neg=>simp only[hc,decide_false,aL,av,Sum.elim_inr,implies_true,and_true,Bool.false_eq_true,false_implies]
  have h1:wI (3*d.1)=3*d.1:=eP (by omega) (by omega)
  have h2:wI (3*d.1+3)=3*d.1+3:=eP (by omega) (by omega)
  have h3:Int.toNat (3*d.1+3)-Int.toNat (3*d.1)=3:=by omega
  simp only[h1,h2,h3]
  simp only[bG]
  simp only[nf,rX,hw]
  repeat' (first|exact True.intro|omega|(intro _)|(apply And.intro))) 2000 d hd (by omega)
instance aUq (x0:Nat->Int)(x1:Int)(x2:Int)(x3:Int)(x4:Bool):bo (nC x0 x1 x2 x3 x4):=by
 unfold nC aet
 refine aG ?_
 refine ay (azp _ (by simp)) λd _ hd=> ?_
 simp only[bG]
theorem aCH (d:nD.B)(hd:0<=d.1∧d.1<=3):Ok (ZY d) (λx:BQ=>True):=
 aZ (s:=_) (λd:nD.B=>0<=d.1∧d.1<=3) (λd:nD.B=>Int.toNat (3-d.1)) (λx:BQ=>True) (λd hd=>by
  have hw:wI (d.1+1)=d.1+1:=bd (by omega) (by omega)
  unfold ZX
  try dsimp only
  by_cases hc:d.1<3
  case neg=>simp only[hc,decide_false,aL,av,Sum.elim_inr,implies_true,and_true,Bool.false_eq_true,false_implies]
  have h1:wI (6+d.1)=6+d.1:=eP (by omega) (by omega)
  have h2:wI (3+d.1)=3+d.1:=eP (by omega) (by omega)
  simp only[h1,h2]
  simp only[bG]
  simp only[nf,rX,hw]
  repeat' (first|exact True.intro|omega|(intro _)|(apply And.intro))) 2000 d hd (by omega)
instance aVx (x0:Nat->Int)(x1:Int)(x2:Int)(x3:Int)(x4:Bool):bo (wh x0 x1 x2 x3 x4):=by
 unfold wh ajx
 refine aG ?_
 refine ay (aCH _ (by simp)) λd _ hd=> ?_
 simp only[bG]
instance aUr (x0:Int)(x1:Int)(x2:Bool)(x3:Bool):bo (J4 x0 x1 x2 x3):=by
 unfold J4 aex
 exact aG (by simp only[bG])
instance aUs (x0:Int)(x1:Bool)(x2:Bool)(x3:Bool)(x4:Bool)(x5:Bool)(x6:Bool)(x7:Bool)(x8:Bool)(x9:Int)(fQ:Int)(fR:Int):bo (J5 x0 x1 x2 x3 x4 x5 x6 x7 x8 x9 fQ fR):=by
 unfold J5 aey
 exact aG (by simp only[bG])
instance aTo (x0:Int):bo (yu x0):=by
 unfold yu Dh
 exact aG (by simp only[bG])
theorem aCI {x d:Int}(h:yu x=some d):0<=d∧d<6:=by
 have k:PQ (Dh x) (λd=>0<=d∧d<6):=by
  simp only[Dh,aL,av];refine⟨λ_=>by decide,λ_=>⟨λ_=>by decide,λ_=>by decide⟩⟩
 exact Ok.post k h
theorem ati (d:jw.B)(hd:0<=d.1.2∧d.1.2<=4):Ok (My d) (λx:tp=>True):=
 aZ (s:=_) (λd:jw.B=>0<=d.1.2∧d.1.2<=4) (λd:jw.B=>Int.toNat (4-d.1.2)) (λx:tp=>True) (λd hd=>by
  have hw:wI (d.1.2+1)=d.1.2+1:=bd (by omega) (by omega)
  unfold Mx
  simp only[bG]
  simp only[nf,rX,hw]
  repeat' (first|exact True.intro|omega|(intro _ h;have:=aCI h;revert this;clear h;intro this)|(intro _)|(apply And.intro))) 2000 d hd (by omega)
instance aTp (x0:Int)(x1:Bool)(x2:Bool)(x3:Bool)(x4:Bool)(x5:Bool)(x6:Bool)(x7:Bool)(x8:Bool)(x9:Int)(fQ:Int)(fR:Int):bo (Di x0 x1 x2 x3 x4 x5 x6 x7 x8 x9 fQ fR):=by
 unfold Di Uo
 refine aG ?_
 refine ay (ati _ (by simp)) λd _ hd=> ?_
 simp only[bG]
instance aUt (x:J8.B):bo (J' x):=by
 unfold J' aeB
 try dsimp only
 exact aG (by simp only[bG])
theorem aD7 (a:Nat)(i:Int)(d:pI.B)(hd:0<=d.1.2.2.2.2.2.2∧d.1.2.2.2.2.2.2<=d.1.2.2.2.2.2.1∧d.1.2.2.2.2.2.1<=1999∧d.1.1.1=a∧d.1.2.1=i∧d.1.2.2.2.1=i∧d.1.2.2.2.2.1.1=a∧d.1.2.2.2.2.2.1=(a:Int)∧(d.1.2.2.1:Int)<=d.1.2.2.2.2.2.2∧0<=i∧i<3):Ok (aeD d) (λx:ED=>x.1.1.1=a∧x.1.2.1=i∧x.1.2.2.2.1=i∧x.1.2.2.1<=a):=
 aZ (s:=_) (λd:pI.B=>0<=d.1.2.2.2.2.2.2∧d.1.2.2.2.2.2.2<=d.1.2.2.2.2.2.1∧d.1.2.2.2.2.2.1<=1999∧d.1.1.1=a∧d.1.2.1=i∧d.1.2.2.2.1=i∧d.1.2.2.2.2.1.1=a∧d.1.2.2.2.2.2.1=(a:Int)∧(d.1.2.2.1:Int)<=d.1.2.2.2.2.2.2∧0<=i∧i<3) (λd:pI.B=>Int.toNat (d.1.2.2.2.2.2.1-d.1.2.2.2.2.2.2)) (λx:ED=>x.1.1.1=a∧x.1.2.1=i∧x.1.2.2.2.1=i∧x.1.2.2.1<=a) (λd hd=>by
  have hw:wI (d.1.2.2.2.2.2.2+1)=d.1.2.2.2.2.2.2+1:=bd (by omega) (by omega)
  unfold aeC
  simp only[bG]
  simp only[nf,rX,hw]
  repeat' (first|exact True.intro|omega|(intro _)|(apply And.intro))) 2000 d hd (by omega)
end Go.Proofs.YtcmfbkneahoonaaGreat
namespace Go.Proofs.YtcmfbkneahoonaaGreat
open Go.Ab Go.Ab.Pg
theorem aD8 (d:pJ.B)(hd:0<=d.1.2∧d.1.2<=3∧d.1.1.1<=1900):Ok (aeF d) (λx:EE=>True):=
 aZ (s:=_) (λd:pJ.B=>0<=d.1.2∧d.1.2<=3∧d.1.1.1<=1900) (λd:pJ.B=>Int.toNat (3-d.1.2)) (λx:EE=>True) (λd hd=>by
  unfold aeE
  try dsimp only
  rw[aL]
  refine⟨λh=> ?_,λ_=>by simp only[av,Sum.elim_inr]⟩
  have h:=of_decide_eq_true h
  rw[bC,bC,aM]
  refine⟨rfl,rfl,ay (aD7 d.1.1.1 d.1.2 _ ?_) λx _ hx=> ?_⟩
  ·dsimp only;simp only[Int.ofNat_eq_natCast,true_and,and_true];omega
  obtain⟨a1,a2,a3,a4⟩:=hx
  rw[aM,bC]
  have hw:wI (d.1.2+1)=d.1.2+1:=bd (by omega) (by omega)
  have:=aHp x.1.2.2.1 (by omega)
  simp only[bG]
  simp only[nf,Bool.not_eq_true',rX,hw,a1,a2,a3]
  repeat' (first|exact True.intro|omega|(intro _)|(apply And.intro))) 2000 d hd (by omega)
theorem aeX (x0:Nat)(x1:Bool)(x2:Nat->Int)(x3:Nat->Int)(x4:Nat->Int)(w0:Bool)(h:x0<=1900):bo (jl x0 x1 x2 x3 x4 w0):=by
 unfold jl aqj
 refine aG ?_
 rw[aM,bC]
 refine⟨rfl,?_⟩
 refine ay (aD8 _ (by dsimp only;omega)) λd _ hd=> ?_
 simp only[bG]
instance aXT (x1:Bool)(x2 x3 x4:Nat->Int)(w0:Bool):bo (jl 2 x1 x2 x3 x4 w0):=aeX _ _ _ _ _ _ (by omega)
instance aXU (x1:Bool)(x2 x3 x4:Nat->Int)(w0:Bool):bo (jl 3 x1 x2 x3 x4 w0):=aeX _ _ _ _ _ _ (by omega)
theorem azq (i:Int)(d:mj.B)(hd:0<=d.1.2.2∧d.1.2.2<=4∧d.1.2.1=i):Ok (Uu d) (λx:yw=>x.1.2.1=i):=
 aZ (s:=_) (λd:mj.B=>0<=d.1.2.2∧d.1.2.2<=4∧d.1.2.1=i) (λd:mj.B=>Int.toNat (4-d.1.2.2)) (λx:yw=>x.1.2.1=i) (λd hd=>by
  have hw:wI (d.1.2.2+1)=d.1.2.2+1:=bd (by omega) (by omega)
  unfold Ut
  simp only[bG]
  simp only[nf,Bool.not_eq_true',rX,hw]
  repeat' (first|exact True.intro|omega|(intro _)|(apply And.intro))) 2000 d hd (by omega)
theorem azr (d:ml.B)(hd:0<=d.1∧d.1<=2):Ok (Uw d) (λx:yx=>True):=
 aZ (s:=_) (λd:ml.B=>0<=d.1∧d.1<=2) (λd:ml.B=>Int.toNat (2-d.1)) (λx:yx=>True) (λd hd=>by
  unfold Uv
  try dsimp only
  rw[aL]
  refine⟨λh=> ?_,λ_=>by simp only[av,Sum.elim_inr]⟩
  have h:=of_decide_eq_true h
  rw[bz]
  intro d1 _
  refine ay (azq d.1 _ (by simp)) λx _ hx=> ?_
  have hw:wI (d.1+1)=d.1+1:=bd (by omega) (by omega)
  simp only[av,Sum.elim_inl,hx,hw]
  omega) 2000 d hd (by omega)
instance aUu (x0:Int)(x1:Int)(x2:Int)(x3:Int)(x4:Bool):bo (cX x0 x1 x2 x3 x4):=by
 unfold cX aeI
 refine aG ?_
 rw[bz]
 intro d _
 rw[aL]
 refine⟨λ_=>by simp only[bG],λ_=>ay (azr _ (by simp)) λd _ hd=> ?_⟩
 simp only[av]
theorem amI (a b:Int)(d:dR.B)(hd:0<=d.1.2.2.2∧d.1.2.2.2<=d.1.2.2.1∧d.1.2.2.1<=1999∧d.1.2.2.1<=24∧d.1.1=a∧d.1.2.1=b):Ok (zW d) (λx:jZ=>x.1.1=a∧x.1.2.1=b):=
 aZ (s:=_) (λd:dR.B=>0<=d.1.2.2.2∧d.1.2.2.2<=d.1.2.2.1∧d.1.2.2.1<=1999∧d.1.2.2.1<=24∧d.1.1=a∧d.1.2.1=b) (λd:dR.B=>Int.toNat (d.1.2.2.1-d.1.2.2.2)) (λx:jZ=>x.1.1=a∧x.1.2.1=b) (λd hd=>by
  have hw:wI (d.1.2.2.2+1)=d.1.2.2.2+1:=bd (by omega) (by omega)
  unfold zV
  simp only[bG]
  simp only[nf,Bool.not_eq_true',rX,hw]
  repeat' (first|exact True.intro|omega|(intro _)|(apply And.intro))) 2000 d hd (by omega)
theorem amJ (a b:Int)(d:dS.B)(hd:0<=d.1.2.2∧d.1.2.2<=24∧d.1.1=a∧d.1.2.1=b∧0<=a∧a<24):Ok (zY d) (λx:j6=>x.1.2.1=b):=
 aZ (s:=_) (λd:dS.B=>0<=d.1.2.2∧d.1.2.2<=24∧d.1.1=a∧d.1.2.1=b∧0<=a∧a<24) (λd:dS.B=>Int.toNat (24-d.1.2.2)) (λx:j6=>x.1.2.1=b) (λd hd=>by
  have hw:wI (d.1.2.2+1)=d.1.2.2+1:=bd (by omega) (by omega)
  unfold zX
  simp only[bG]
  simp only[nf,Bool.not_eq_true',rX,hw]
  repeat' (first|exact True.intro|omega|(intro _)|(apply And.intro))) 2000 d hd (by omega)
theorem amK (d:dU.B)(hd:0<=d.1∧d.1<=24):Ok (z5 d) (λx:j7=>True):=
 aZ (s:=_) (λd:dU.B=>0<=d.1∧d.1<=24) (λd:dU.B=>Int.toNat (24-d.1)) (λx:j7=>True) (λd hd=>by
  have hw:wI (d.1+1)=d.1+1:=bd (by omega) (by omega)
  unfold zZ
  have h1:wI (24+d.1)=24+d.1:=eP (by omega) (by omega)
  simp only[h1]
  simp only[bG]
  simp only[nf,Bool.not_eq_true',rX,hw]
  repeat' (first|exact True.intro|omega|(intro _)|(apply And.intro))) 2000 d hd (by omega)
theorem amL (d:dV.B)(hd:0<=d.1∧d.1<=24):Ok (z7 d) (λx:j8=>True):=
 aZ (s:=_) (λd:dV.B=>0<=d.1∧d.1<=24) (λd:dV.B=>Int.toNat (24-d.1)) (λx:j8=>True) (λd hd=>by
  unfold z6
  rw[aL]
  refine⟨λh=> ?_,λ_=>by simp only[av,Sum.elim_inr]⟩
  have h:=of_decide_eq_true h
  have hw:wI (d.1+1)=d.1+1:=bd (by omega) (by omega)
  refine ay (amI d.1 d.1 _ (by dsimp only;rw[hw];omega)) λx _ hx=> ?_
  refine ay (amJ d.1 d.1 _ (by dsimp only;omega)) λx _ hx=> ?_
  simp only[av,Sum.elim_inl,hx,hw]
  omega) 2000 d hd (by omega)
instance aPq (x0:Nat->Int)(x1:Nat->Int)(x2:Bool)(x3:Nat->Int):bo (oX x0 x1 x2 x3):=by
 unfold oX EF
 refine aG ?_
 refine ay (amL _ (by simp)) λd _ hd=> ?_
 refine ay (amK _ (by simp)) λd _ hd=> ?_
 simp only[bG]
instance aUv (x0:Nat->Int):bo (bZ x0):=by
 unfold bZ aeJ
 exact aG (by simp only[bG])
instance aP1 (x0:Nat->Int)(x1:Int)(x2:Int)(x3:Int)(x4:Int):bo (rA x0 x1 x2 x3 x4):=by
 unfold rA Qw
 exact aG (by simp only[bG])
instance aTT (x0:Int)(x1:Int)(x2:Int)(x3:Int)(x4:Int)(x5:Int)(x6:Int)(x7:Int)(x8:Bool):bo (Gp x0 x1 x2 x3 x4 x5 x6 x7 x8):=by
 unfold Gp Z3
 exact aG (by simp only[bG])
instance aTq (x0:Int)(x1:Bool):bo (Dk x0 x1):=by
 unfold Dk UG
 exact aG (by simp only[bG])
instance aVy (x0:Int)(x1:Int)(x2:Int)(x3:Int)(x4:Int)(x5:Int)(x6:Int)(x7:Int)(x8:Bool):bo (j9 x0 x1 x2 x3 x4 x5 x6 x7 x8):=by
 unfold j9 ajS
 try dsimp only
 exact aG (by simp only[bG])
theorem aHr (d:rW.B)(hd:0<=d.1∧d.1<=4):Ok (ajU d) (λx:IN=>True):=
 aZ (s:=_) (λd:rW.B=>0<=d.1∧d.1<=4) (λd:rW.B=>Int.toNat (4-d.1)) (λx:IN=>True) (λd hd=>by
  have hw:wI (d.1+1)=d.1+1:=bd (by omega) (by omega)
  unfold ajT
  simp only[bG]
  simp only[nf,Bool.not_eq_true',rX,hw]
  repeat' (first|exact True.intro|omega|(intro _)|(apply And.intro))) 2000 d hd (by omega)
instance aWZ (x0:Int)(x1:Int)(x2:Int)(x3:Int)(x4:Bool):bo (je x0 x1 x2 x3 x4):=by
 unfold je avx
 try dsimp only
 refine aG ?_
 refine ay (aHr _ (by simp)) λd _ hd=> ?_
 simp only[bG]
instance aW0:bo rB:=by
 have b1:=λx=>nH 0 4 1073741840 x (by omega) (by omega) (by omega)
 have b2:=λx=>nH 4 7 549755813888 x (by omega) (by omega) (by omega)
 have b3:=λx=>nH 7 10 9007199254740992 x (by omega) (by omega) (by omega)
 have b4:=λx=>nH 10 13 134217728 x (by omega) (by omega) (by omega)
 have b5:=λx=>nH 13 16 1073741824 x (by omega) (by omega) (by omega)
 have b6:=λx=>nH 16 22 2147483648 x (by omega) (by omega) (by omega)
 have b7:=λx=>nH 22 24 137438953472 x (by omega) (by omega) (by omega)
 unfold rB Qz
 exact aG (by simp only[bG])
theorem atj (d:jy.B)(hd:0<=d.1∧d.1<=24):Ok (MF d) (λx:tu=>True):=
 aZ (s:=_) (λd:jy.B=>0<=d.1∧d.1<=24) (λd:jy.B=>Int.toNat (24-d.1)) (λx:tu=>True) (λd hd=>by
  have hw:wI (d.1+1)=d.1+1:=bd (by omega) (by omega)
  unfold ME
  simp only[bG]
  simp only[nf,Bool.not_eq_true',rX,hw]
  repeat' (first|exact True.intro|omega|(intro _)|(apply And.intro))) 2000 d hd (by omega)
instance aTr (x0:Nat->Int)(x1:Bool):bo (tN x0 x1):=by
 unfold tN UI
 refine aG ?_
 rw[bz]
 intro d _
 refine ay (atj _ (by simp)) λd _ hd=> ?_
 simp only[av]
theorem aUw {x:Int}{y:abw}(h:vA x=some y)(k:(y:Int)<=1073741840): -1073741840<=x∧x<=1073741840:=by
 have e:PQ (BL x) (λy:abw=>(y:Int)<=1073741840-> -1073741840<=x∧x<=1073741840):=by
  by_cases c:x<0∧ -1152921504606846976<x
  ·have w:wI (0-x)=0-x:=eP (by omega) (by omega)
   simp only[BL,aL,av,ge_iff_le,decide_eq_true_eq,decide_eq_false_iff_not,w]
   exact⟨λ_=>(show(1152921504606846976:Int)<=1073741840-> -1073741840<=x∧x<=1073741840 by omega),λ_=>⟨λ_=>(show(1152921504606846976:Int)<=1073741840-> -1073741840<=x∧x<=1073741840 by omega),λ_=>⟨λ_=>(show(0-x:Int)<=1073741840-> -1073741840<=x∧x<=1073741840 by omega),λ_=>(show x<=1073741840-> -1073741840<=x∧x<=1073741840 by omega)⟩⟩⟩
  ·simp only[BL,aL,av,ge_iff_le,decide_eq_true_eq,decide_eq_false_iff_not]
   exact⟨λ_=>(show(1152921504606846976:Int)<=1073741840-> -1073741840<=x∧x<=1073741840 by omega),λ_=>⟨λ_=>(show(1152921504606846976:Int)<=1073741840-> -1073741840<=x∧x<=1073741840 by omega),λ_=>⟨λ_=>by omega,λ_=>(show x<=1073741840-> -1073741840<=x∧x<=1073741840 by omega)⟩⟩⟩
 exact Ok.post e h k
theorem amM (a b:Int)(d:dW.B)(hd:0<=d.1.2.2∧d.1.2.2<=24∧d.1.1=a∧d.1.2.1=b∧0<=a∧a<24):Ok (Aa d) (λx:ka=>x.1.2.1=b):=
 aZ (s:=_) (λd:dW.B=>0<=d.1.2.2∧d.1.2.2<=24∧d.1.1=a∧d.1.2.1=b∧0<=a∧a<24) (λd:dW.B=>Int.toNat (24-d.1.2.2)) (λx:ka=>x.1.2.1=b) (λd hd=>by
  have hw:wI (d.1.2.2+1)=d.1.2.2+1:=bd (by omega) (by omega)
  unfold z8
  simp only[bG]
  simp only[nf,Bool.not_eq_true',rX,hw]
  repeat' (first|exact True.intro|omega|(intro _)|(apply And.intro))) 2000 d hd (by omega)
theorem amN (a:Int)(d:dX.B)(hd:0<=d.1.2∧d.1.2<=48∧d.1.1=a∧0<=a∧a<24):Ok (Ad d) (λx:kc=>x.1.1=a):=
 aZ (s:=_) (λd:dX.B=>0<=d.1.2∧d.1.2<=48∧d.1.1=a∧0<=a∧a<24) (λd:dX.B=>Int.toNat (48-d.1.2)) (λx:kc=>x.1.1=a) (λd hd=>by
  have hw:wI (d.1.2+1)=d.1.2+1:=bd (by omega) (by omega)
  unfold Ac
  simp only[bG]
  simp only[nf,Bool.not_eq_true',rX,hw]
  repeat' (first|exact True.intro|omega|(intro _)|(apply And.intro))) 2000 d hd (by omega)
theorem amO (a b e g h:Int)(d:dY.B)(hd:0<=d.1.2.2.2.2.2.2∧d.1.2.2.2.2.2.2<=48∧d.1.1=a∧d.1.2.2.1=b∧0<=a∧a<24∧0<=b∧b<24∧d.1.2.2.2.2.1=g∧d.1.2.2.2.2.2.1=h):Ok (Af d) (λx:kd=>x.1.1=a∧x.1.2.2.2.2.1=g∧x.1.2.2.2.2.2.1=h):=
 aZ (s:=_) (λd:dY.B=>0<=d.1.2.2.2.2.2.2∧d.1.2.2.2.2.2.2<=48∧d.1.1=a∧d.1.2.2.1=b∧0<=a∧a<24∧0<=b∧b<24∧d.1.2.2.2.2.1=g∧d.1.2.2.2.2.2.1=h) (λd:dY.B=>Int.toNat (48-d.1.2.2.2.2.2.2)) (λx:kd=>x.1.1=a∧x.1.2.2.2.2.1=g∧x.1.2.2.2.2.2.1=h) (λd hd=>by
  have hw:wI (d.1.2.2.2.2.2.2+1)=d.1.2.2.2.2.2.2+1:=bd (by omega) (by omega)
  unfold Ae
  simp only[bG]
  simp only[nf,Bool.not_eq_true',rX,hw]
  repeat' (first|exact True.intro|omega|(intro _)|(apply And.intro))) 2000 d hd (by omega)
theorem amP (d:dZ.B)(hd:0<=d.1∧d.1<=24):Ok (Ah d) (λx:ke=>True):=
 aZ (s:=_) (λd:dZ.B=>0<=d.1∧d.1<=24) (λd:dZ.B=>Int.toNat (24-d.1)) (λx:ke=>True) (λd hd=>by
  unfold Ag
  rw[aL]
  refine⟨λh=> ?_,λ_=>by simp only[av,Sum.elim_inr]⟩
  have h:=of_decide_eq_true h
  have hw:wI (d.1+1)=d.1+1:=bd (by omega) (by omega)
  have h1:wI (24+d.1)=24+d.1:=eP (by omega) (by omega)
  rw[h1]
  iterate 2 (rw[bC];refine⟨by simp only[bn];omega,?_⟩)
  rw[bz]
  intro d1 _
  iterate 4 (rw[bC];refine⟨by simp only[bn,bL,Bool.true_and];omega,?_⟩)
  refine ay (amM d.1 d.1 _ (by dsimp only;omega)) λx _ hx=> ?_
  simp only[av,Sum.elim_inl,hx,hw]
  omega) 2000 d hd (by omega)
theorem amQ (a:Int)(d:ec.B)(hd:0<=d.1.2.2.2∧d.1.2.2.2<=d.1.2.2.1∧d.1.1=a∧d.1.2.2.1<=24∧0<=a∧a<24):Ok (Aj d) (λx:kg=>x.1.1=a):=
 aZ (s:=_) (λd:ec.B=>0<=d.1.2.2.2∧d.1.2.2.2<=d.1.2.2.1∧d.1.1=a∧d.1.2.2.1<=24∧0<=a∧a<24) (λd:ec.B=>Int.toNat (d.1.2.2.1-d.1.2.2.2)) (λx:kg=>x.1.1=a) (λd hd=>by
  unfold Ai
  try dsimp only
  rw[aL]
  refine⟨λh=> ?_,λ_=>by simp only[av,Sum.elim_inr];exact hd.2.2.1⟩
  have h:=of_decide_eq_true h
  have hw:wI (d.1.2.2.2+1)=d.1.2.2.2+1:=bd (by omega) (by omega)
  rw[bC]
  refine⟨by simp only[bn];omega,?_⟩
  rw[bz];intro d1 _
  rw[bz];intro d2 _
  rw[bz];intro d3 _
  refine ay (amO d.1.1 d.1.2.2.2 d.1.1 d.1.2.2.1 d.1.2.2.2 _ (by dsimp only;omega)) λx _ hx=> ?_
  obtain⟨a1,a2,a3⟩:=hx
  simp only[av,Sum.elim_inl,a1,a2,a3,hw]
  omega) 2000 d hd (by omega)
theorem amR (d:ee.B)(hd: -1<=d.1∧d.1<=23):Ok (Al d) (λx:kh=>True):=
 aZ (s:=_) (λd:ee.B=> -1<=d.1∧d.1<=23) (λd:ee.B=>Int.toNat (d.1+1)) (λx:kh=>True) (λd hd=>by
  unfold Ak
  try dsimp only
  rw[aL]
  refine⟨λh=> ?_,λ_=>by simp only[av,Sum.elim_inr]⟩
  have h:=of_decide_eq_true h
  have hw:wI (d.1-1)=d.1-1:=eP (by omega) (by omega)
  refine ay (amN d.1 _ (by dsimp only;omega)) λx _ hx=> ?_
  rw[bC]
  refine⟨by simp only[bn,hx];omega,?_⟩
  rw[bz];intro d1 _
  rw[bz];intro d2 _
  rw[bC]
  refine⟨by simp only[bn,hx];omega,?_⟩
  rw[bC]
  refine⟨by simp only[bL,Bool.true_and,hx];omega,?_⟩
  refine ay (amQ d.1 _ (by dsimp only;omega)) λx _ hx=> ?_
  simp only[av,Sum.elim_inl,hx,hw]
  omega) 2000 d hd (by omega)
instance aPr (x0:Nat->Int)(x1:Nat->Int)(x2:Nat->Int)(x3:Nat->Int)(x4:Bool):bo (jh x0 x1 x2 x3 x4):=by
 unfold jh EJ
 refine aG ?_
 rw[bz];intro d _
 refine ay (amP _ (by simp)) λd _ hd=> ?_
 rw[bz];intro d1 _
 refine ay (amR _ (by simp)) λd _ hd=> ?_
 simp only[av]
instance aVz (x0:Int):bo (wo x0):=by
 unfold wo ON
 exact aG (by simp only[bG])
theorem aHs (x:Int):wo x=some (decide (0<=x)&&decide (x<24)):=by
 simp only[wo,ON,bM,bP]
 by_cases h0:0<=x<;>simp[h0]
instance aOq (x0:Int)(x1:Bool):bo (nG x0 x1):=by
 unfold nG CC
 exact aG (by simp only[bG])
theorem atk (d:fm.B)(hd:0<=d.1.2.2.2∧d.1.2.2.2<=d.1.2.2.1∧d.1.2.2.1<=1999∧d.1.2.2.1=((d.1.2.1.1:Nat):Int)):Ok (EL d) (λx:mL=>True):=
 aZ (s:=_) (λd:fm.B=>0<=d.1.2.2.2∧d.1.2.2.2<=d.1.2.2.1∧d.1.2.2.1<=1999∧d.1.2.2.1=((d.1.2.1.1:Nat):Int)) (λd:fm.B=>Int.toNat (d.1.2.2.1-d.1.2.2.2)) (λx:mL=>True) (λd hd=>by
  have hw:wI (d.1.2.2.2+1)=d.1.2.2.2+1:=bd (by omega) (by omega)
  unfold EK
  simp only[bG,aHs,bQ]
  simp only[nf,Bool.not_eq_true',rX,hw]
  repeat' (first|exact True.intro|omega|(intro _)|(apply And.intro))) 2000 d hd (by omega)
theorem KC (x0:Nat->Int)(x1:Nat->Int)(x2:Int)(x3:Nat)(x4:Bool)(x5:Nat->Int)(w0:Bool)(h:x3<=1999):bo (cQ x0 x1 x2 x3 x4 x5 w0):=by
 unfold cQ Kj
 refine aG ?_
 rw[bz];intro d1 _
 rw[aM,bC]
 refine⟨rfl,?_⟩
 refine ay (atk _ (hdN x3 h)) λd _ hd=> ?_
 rw[bz];intro d2 _;simp only[av]
end Go.Proofs.YtcmfbkneahoonaaGreat
