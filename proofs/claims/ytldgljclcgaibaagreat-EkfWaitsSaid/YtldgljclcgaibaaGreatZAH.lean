/-
  Parts of the proof: AbLaw AbInv PI PWS PWT PWU PWV PRT PWY PWZ PWQ PRE Tot TA TB TC
-/
import Derived.Test.YtldgljclcgaibaaGreatZAE
import Derived.Test.YtldgljclcgaibaaGreatZAG
set_option linter.unusedVariables false
set_option linter.unusedSimpArgs false
namespace Go.Ab
theorem avC {a:Bool}{pt:List PT}{ps:List Prm}{ds:List Dat}(h:aBH (.flat a pt::ps) ds):∃l ds',ds=.flat l::ds'∧bj awN pt l∧aBH ps ds':=by
 match ds,h with
 |.flat l::ds',h=>exact⟨l,ds',rfl,h.1,h.2⟩
theorem aVg {ks:List K}{ps:List Prm}{ds:List Dat}(h:aBH (.sl ks::ps) ds):∃n cols ds',ds=.sl n cols::ds'∧n<=maxLen∧bj (λk c=>K.mc k n c) ks cols∧aBH ps ds':=by
 match ds,h with
 |.sl n cols::ds',h=>exact⟨n,cols,ds',rfl,h.1.1,h.1.2,h.2⟩
theorem aTY {ds:List Dat}(h:aBH [] ds):ds=[]:=by cases ds<;>first|rfl|cases h
theorem aHz {l:List DC}(h:bj awN [] l):l=[]:=by cases l<;>first|rfl|cases h
theorem re {k:IntKind}{pt:List PT}{l:List DC}(h:bj awN (.c (.i k)::pt) l):∃x l',l=.c (.i k x)::l'∧(k.min<=x∧x<=k.max)∧bj awN pt l':=by
 match l,h with
 |.c (.i k' x)::l',h=>
  obtain⟨⟨rfl,h1⟩,h2⟩:=h
  exact⟨x,l',rfl,h1,h2⟩
theorem aWl {n:Nat}{ks:List K}{pt:List PT}{l:List DC}(h:bj awN (.a n ks::pt) l):∃cols l',l=.a cols::l'∧bj (λk c=>K.mc k n c) ks cols∧bj awN pt l':=by
 match l,h with
 |.a cols::l',h=>exact⟨cols,l',rfl,h.1,h.2⟩
theorem aCx {n:Nat}{l:List cB}(h:bj (λk c=>K.mc k n c) [] l):l=[]:=by cases l<;>first|rfl|cases h
theorem vf {n:Nat}{k:IntKind}{ks:List K}{l:List cB}(h:bj (λk c=>K.mc k n c) (.i k::ks) l):∃g l',l=.i k g::l'∧(∀j,j<n->k.min<=g j∧g j<=k.max)∧bj (λk c=>K.mc k n c) ks l':=by
 match l,h with
 |.i k' g::l',h=>
  obtain⟨⟨rfl,h1⟩,h2⟩:=h
  exact⟨g,l',rfl,h1,h2⟩
end Go.Ab
namespace Go.Ab
theorem Yk {D X ρ:Type}(s:D->(D->Option ρ)->(X->Option ρ)->Option ρ)(n:Nat)(d:D)(k:X->Option ρ):P9 s (n+1) d k=s d (λd=>P9 s n d k) k:=rfl
theorem aCy {D X ρ:Type}{s:D->(D->Option ρ)->(X->Option ρ)->Option ρ}{k:X->Option ρ}{r:Option ρ}(Inv:Nat->D->Prop)
  (h:∀t d c,Inv t d->(∀t' d',t'<t->Inv t' d'->c d'=r)->s d c k=r):∀(fuel t:Nat) (d:D),t<fuel->Inv t d->P9 s fuel d k=r
 |0,t,d,hf,hd=>by omega
 |fuel+1,t,d,hf,hd=>by
  rw[Yk]
  exact h t d _ hd λt' d' ht hd'=>aCy Inv h fuel t' d' (by omega) hd'
theorem wrap_i64 {n:Int}(h1: -9223372036854775808<=n)(h2:n<=9223372036854775807):IntKind.wrap .i64 n=n:=by
 unfold IntKind.wrap
 simp only[IntKind.signed,IntKind.bits,Bool.true_and,decide_eq_true_eq,show(2:Int)^64=18446744073709551616 from rfl,show(2:Int)^(64-1)=9223372036854775808 from rfl]
 split<;>omega
theorem wrap_u64 (n:Int):IntKind.wrap .u64 n=n%18446744073709551616:=by
 unfold IntKind.wrap
 simp only[IntKind.signed,IntKind.bits,Bool.false_and,show(2:Int)^64=18446744073709551616 from rfl,Bool.false_eq_true,if_false]
end Go.Ab
namespace Go.Ab
theorem MO {D X ρ:Type}{s:D->Pg (D⊕X)}{k:X->Option ρ}{r:Option ρ}(Inv:Nat->D->Prop)
  (h:∀t d c,Inv t d->(∀t' d',t'<t->Inv t' d'->c d'=r)->(s d).run (Sum.elim c k)=r)(fuel t:Nat)(d:D)(hf:t<fuel)(hd:Inv t d):(bD s fuel d).bind k=r:=by
 rw[aiF]
 exact aCy Inv h fuel t d hf hd
theorem Yl {D X:Type}{s:D->Pg (D⊕X)}(Inv:Nat->D->Prop)(Q:X->Prop)
  (h:∀t d,Inv t d->∃y,(s d).val=some y∧match y with|.inl d'=>∃t',t'<t∧Inv t' d'|.inr x=>Q x):∀(fuel t:Nat) (d:D),t<fuel->Inv t d->∃x,bD s fuel d=some x∧Q x
 |0,t,d,hf,hd=>by omega
 |fuel+1,t,d,hf,hd=>by
  obtain⟨y,hy,hq⟩:=h t d hd
  have e:bD s (fuel+1) d=(s d).run (Sum.elim (λd=>bD s fuel d) some):=rfl
  rw[e,<-Pg.aBM,hy,Option.bind_some]
  cases y with
  |inl d'=>obtain⟨t',ht,hd'⟩:=hq;exact Yl Inv Q h fuel t' d' (by omega) hd'
  |inr x=>exact⟨x,rfl,hq⟩
end Go.Ab
set_option maxRecDepth 100000
set_option maxHeartbeats 4000000
namespace Go.Ab
theorem ET (n:Int):IntKind.wrap .i64 n=if 9223372036854775808<=n%18446744073709551616 then n%18446744073709551616-18446744073709551616 else n%18446744073709551616:=by
 unfold IntKind.wrap
 simp only[IntKind.signed,IntKind.bits,Bool.true_and,decide_eq_true_eq,show(2:Int)^64=18446744073709551616 from rfl,show(2:Int)^(64-1)=9223372036854775808 from rfl,ge_iff_le]
theorem o7 (a b:Int)(h:0<=b):Int.fdiv a b=a/b:=Int.fdiv_eq_ediv_of_nonneg a h
theorem SK (x:Int)(h0:0<=x)(h1:x<18446744073709551616):(BitVec.ofInt 64 x).toNat=x.toNat:=by
 rw[BitVec.toNat_ofInt]
 congr 1
 simp only[Nat.reducePow,Int.cast_ofNat_Int]
 omega
theorem abH (x:Int)(h0:0<=x)(h1:x<18446744073709551616):Int.ofNat (BitVec.toNat (BitVec.ofInt 64 18446744073709551615^^^BitVec.ofInt 64 x))=18446744073709551615-x:=by
 have e:BitVec.ofInt 64 18446744073709551615=BitVec.allOnes 64:=by decide
 rw[e,BitVec.allOnes_xor,BitVec.toNat_not,SK x h0 h1]
 simp only[Int.ofNat_eq_natCast]
 omega
theorem ame (x:Int)(h0:0<=x)(h1:x<18446744073709551616):Int.ofNat (BitVec.toNat (BitVec.ofInt 64 x&&&BitVec.ofInt 64 4294967295))=x%4294967296:=by
 rw[BitVec.toNat_and,SK x h0 h1]
 have e:(BitVec.ofInt 64 4294967295).toNat=2^32-1:=by decide
 rw[e,Nat.and_two_pow_sub_one_eq_mod]
 simp only[Int.ofNat_eq_natCast]
 omega
theorem avD (x y:Int)(k:Nat)(h0:0<=x)(h1:x<2^k)(h2:0<=y)(h3:y<18446744073709551616)(h4:x<18446744073709551616)(h5:y%2^k=0):
  Int.ofNat (BitVec.toNat (BitVec.ofInt 64 x|||BitVec.ofInt 64 y))=x+y:=by
 rw[BitVec.toNat_or,SK x h0 h4,SK y h2 h3]
 obtain⟨q,hq⟩:∃q:Nat,y.toNat=2^k*q:=by
  refine⟨y.toNat/2^k,?_⟩
  have:y.toNat%2^k=0:=by
   have e:((y.toNat%2^k:Nat):Int)=y%2^k:=by
    rw[Int.natCast_emod,Int.toNat_of_nonneg h2]
    simp
   omega
  exact(Nat.mul_div_cancel' (Nat.dvd_of_mod_eq_zero this)).symm
 have hx:x.toNat<2^k:=by
  have e:((2^k:Nat):Int)=(2:Int)^k:=by simp
  omega
 rw[hq,Nat.or_comm,<-Nat.two_pow_add_eq_or_of_lt hx,<-hq]
 simp only[Int.ofNat_eq_natCast]
 omega
end Go.Ab
namespace Go.Proofs.YtldgljclcgaibaaGreat
open Go.Ab
abbrev okW (h l:Int):Prop:= -9223372036854775808<=h∧h<=9223372036854775807∧0<=l∧l<18446744073709551616
abbrev vW (h l:Int):Int:=h*18446744073709551616+l
theorem aTZ (x:Int)(h0: -9223372036854775808<=x)(h1:x<=9223372036854775807):∃h l,T3 x=some (h,l)∧okW h l∧vW h l=x:=by
 unfold vW
 simp only[T3,ap1,Pg.bP,Pg.bJ,Pg.cm,Pg.eG,Pg.dL]
 try delta wI wU
 refine⟨_,_,rfl,?_,?_⟩<;>rw[wrap_u64,o7 _ _ (by omega)]<;>omega
theorem MP (x y c:Int)(x0:0<=x)(y0:0<=y)(c0:0<=c)(c1:c<=1):Bh x y c=some ((x+y+c)%18446744073709551616,(x+y+c)/18446744073709551616):=by
 unfold Bh
 have h:Nat.ble c.toNat 1=true:=Nat.ble_eq_true_of_le (by omega)
 rw[h,cond_true]
 congr 1
 unfold aTH aTI
 simp only[Int.ofNat_eq_natCast,Prod.mk.injEq]
 constructor<;>omega
theorem avE (h1 l1 h2 l2:Int)(o1:okW h1 l1)(o2:okW h2 l2):∃h l b,IN h1 l1 h2 l2=some ((h,l),b)∧okW h l∧(b=true↔ -170141183460469231731687303715884105728<=vW h1 l1+vW h2 l2∧vW h1 l1+vW h2 l2<170141183460469231731687303715884105728)∧(b=true->vW h l=vW h1 l1+vW h2 l2):=by
 obtain⟨a1,a2,a3,a4⟩:=o1
 obtain⟨b1,b2,b3,b4⟩:=o2
 unfold vW
 simp only[IN,ai4,Pg.bP,Pg.bJ,Pg.cm,Pg.eG,Pg.dL]
 try delta wI wU
 rw[MP l1 l2 0 a3 b3 (by omega) (by omega)]
 simp only[Option.bind_some,wrap_u64]
 rw[MP _ _ _ (by omega) (by omega) (by omega) (by omega)]
 simp only[Option.bind_some]
 generalize hc:(l1+l2+0)/18446744073709551616=c
 generalize hl:(l1+l2+0)%18446744073709551616=l
 generalize hm:(h1%18446744073709551616+h2%18446744073709551616+c)%18446744073709551616=m
 have hw:=ET m
 generalize IntKind.wrap IntKind.i64 m=w at*
 have hw1:w=m∨w=m-18446744073709551616:=by split at hw<;>omega
 have hw2: -9223372036854775808<=w∧w<=9223372036854775807:=by split at hw<;>omega
 by_cases n1:h1<0
 ·by_cases n2:h2<0
  ·have e:(!decide (h1<0)==decide (h2<0))=false:=by simp[n1,n2]
   simp only[e,cond_false]
   refine⟨w,l,_,rfl,⟨hw2.1,hw2.2,by omega,by omega⟩,?_,?_⟩
   ·simp only[n1,decide_true,beq_true,decide_eq_true_eq]
    constructor<;>intro h<;>omega
   ·simp only[n1,decide_true,beq_true,decide_eq_true_eq]
    intro h;omega
  ·have e:(!decide (h1<0)==decide (h2<0))=true:=by simp[n1,n2]
   simp only[e,cond_true]
   refine⟨w,l,_,rfl,⟨hw2.1,hw2.2,by omega,by omega⟩,?_,?_⟩
   ·simp only[true_iff];constructor<;>omega
   ·intro h;omega
 ·by_cases n2:h2<0
  ·have e:(!decide (h1<0)==decide (h2<0))=true:=by simp[n1,n2]
   simp only[e,cond_true]
   refine⟨w,l,_,rfl,⟨hw2.1,hw2.2,by omega,by omega⟩,?_,?_⟩
   ·simp only[true_iff];constructor<;>omega
   ·intro h;omega
  ·have e:(!decide (h1<0)==decide (h2<0))=false:=by simp[n1,n2]
   simp only[e,cond_false]
   refine⟨w,l,_,rfl,⟨hw2.1,hw2.2,by omega,by omega⟩,?_,?_⟩
   ·simp only[n1,decide_false,_root_.beq_false,Bool.not_eq_true',decide_eq_false_iff_not]
    constructor<;>intro h<;>omega
   ·simp only[n1,decide_false,_root_.beq_false,Bool.not_eq_true',decide_eq_false_iff_not]
    intro h;omega
theorem aFE (h l:Int)(o:okW h l):∃ah al,Dh h l=some ((ah,al),decide (h<0))∧0<=ah∧ah<=9223372036854775808∧0<=al∧al<18446744073709551616∧ah*18446744073709551616+al=(if h<0 then -vW h l else vW h l):=by
 obtain⟨a1,a2,a3,a4⟩:=o
 unfold vW
 simp only[Dh,aiQ,Pg.bP,Pg.bJ,Pg.cm,Pg.eG,Pg.dL]
 try delta wI wU
 by_cases n:h<0
 ·have e:decide (h>=0)=false:=decide_eq_false (by omega)
  simp only[e,cond_false,abH l a3 a4,wrap_u64]
  rw[abH (h%18446744073709551616) (by omega) (by omega),MP _ _ _ (by omega) (by omega) (by omega) (by omega)]
  simp only[Option.bind_some,n,decide_true,if_true]
  refine⟨_,_,rfl,?_,?_,?_,?_,?_⟩<;>omega
 ·have e:decide (h>=0)=true:=decide_eq_true (by omega)
  simp only[e,cond_true,wrap_u64,n,decide_false,if_false]
  refine⟨_,_,rfl,?_,?_,?_,?_,?_⟩<;>omega
theorem aFF (h1 l1 h2 l2:Int)(a0:0<=h1)(b0:0<=l1)(c0:0<=h2)(d0:0<=l2)(b1:l1<18446744073709551616)(d1:l2<18446744073709551616):
  hO h1 l1 h2 l2=some ((h1+h2+(l1+l2)/18446744073709551616)%18446744073709551616,(l1+l2)%18446744073709551616):=by
 simp only[hO,Mk,Pg.bP,Pg.bJ,Pg.cm,Pg.eG,Pg.dL]
 try delta wI wU
 rw[MP _ _ _ b0 d0 (by omega) (by omega)]
 simp only[Option.bind_some,Int.add_zero]
 rw[MP _ _ _ a0 c0 (by omega) (by omega)]
 rfl
theorem aT0 (n:Nat)(hn:n<126):fV 0 1 (Int.ofNat n)=some (2^n/18446744073709551616,2^n%18446744073709551616):=by
 have key:∀n:Fin 126,fV 0 1 (Int.ofNat n.val)=some ((2:Int)^n.val/18446744073709551616,(2:Int)^n.val%18446744073709551616):=by decide+kernel
 exact key ⟨n,hn⟩
theorem kQ (n:Nat):(0:Int)<2^n:=Int.pow_pos (by decide)
theorem as0 (h l:Int)(s:Nat)(hs:s<=126)(h0:0<=h)(h1:h<18446744073709551616)(l0:0<=l)(l1:l<18446744073709551616):
  ∃h' l',gX h l (Int.ofNat s)=some (h',l')∧0<=h'∧0<=l'∧l'<18446744073709551616∧h'*18446744073709551616+l'=(h*18446744073709551616+l)/2^s:=by
 simp only[gX,G9,Pg.bP,Pg.bJ,Pg.cm,Pg.eG,Pg.dL]
 try delta wI wU
 by_cases c:64<=s
 ·have e:decide (Int.ofNat s>=64)=true:=by simp only[Int.ofNat_eq_natCast];exact decide_eq_true (by omega)
  have e2:IntKind.wrap .i64 (Int.ofNat s-64)=Int.ofNat (s-64):=(wrap_i64 (by simp only[Int.ofNat_eq_natCast];omega) (by simp only[Int.ofNat_eq_natCast];omega)).trans (by simp only[Int.ofNat_eq_natCast];omega)
  have e3:(!decide (Int.ofNat (s-64)<0))=true:=by simp
  have e4:min (Int.toNat (Int.ofNat (s-64))) 64=s-64:=by
   show min (s-64) 64=s-64
   omega
  simp only[e,e2,e3,e4,cond_true]
  rw[o7 _ _ (Int.le_of_lt (kQ _))]
  refine⟨_,_,rfl,by omega,Int.ediv_nonneg h0 (Int.le_of_lt (kQ _)),Int.lt_of_le_of_lt (Int.ediv_le_self _ h0) h1,?_⟩
  have p:(2:Int)^s=18446744073709551616*2^(s-64):=by
   rw[show(18446744073709551616:Int)=2^64 from rfl,<-Int.pow_add]
   congr 1;omega
  rw[p,<-Int.ediv_ediv_of_nonneg (by decide)]
  have:(h*18446744073709551616+l)/18446744073709551616=h:=by omega
  rw[this];omega
 ·have e:decide (Int.ofNat s>=64)=false:=by simp only[Int.ofNat_eq_natCast];exact decide_eq_false (by omega)
  have e2:IntKind.wrap .i64 (64-Int.ofNat s)=Int.ofNat (64-s):=(wrap_i64 (by simp only[Int.ofNat_eq_natCast];omega) (by simp only[Int.ofNat_eq_natCast];omega)).trans (by simp only[Int.ofNat_eq_natCast];omega)
  have e3:∀n,(!decide (Int.ofNat n<0))=true:=by simp
  have e4:min (Int.toNat (Int.ofNat (64-s))) 64=64-s:=by
   show min (64-s) 64=64-s
   omega
  have e5:min (Int.toNat (Int.ofNat s)) 64=s:=by
   show min s 64=s
   omega
  simp only[e,e2,e3,e4,e5,cond_true,cond_false,wrap_u64]
  rw[o7 _ _ (Int.le_of_lt (kQ _)),o7 _ _ (Int.le_of_lt (kQ _))]
  have pq:(18446744073709551616:Int)=2^s*2^(64-s):=by
   rw[<-Int.pow_add,show s+(64-s)=64 by omega];rfl
  generalize hP:(2:Int)^s=P at*
  generalize hQ:(2:Int)^(64-s)=Q at*
  have P0:0<P:=by rw[<-hP];exact kQ s
  have Q0:0<Q:=by rw[<-hQ];exact kQ (64-s)
  have m:h*Q%18446744073709551616=h%P*Q:=by
   rw[pq,Int.mul_comm h Q,Int.mul_comm P Q,Int.mul_emod_mul_of_pos _ _ Q0,Int.mul_comm]
  have x0:0<=l/P:=Int.ediv_nonneg l0 (Int.le_of_lt P0)
  have x1:l/P<Q:=Int.ediv_lt_of_lt_mul P0 (by rw[Int.mul_comm,<-pq];exact l1)
  have y0:0<=h%P:=Int.emod_nonneg _ (by omega)
  have y1:h%P<P:=Int.emod_lt_of_pos _ P0
  have y2:h%P*Q+Q<=18446744073709551616:=by
   have:(h%P+1)*Q<=P*Q:=Int.mul_le_mul_of_nonneg_right (by omega) (Int.le_of_lt Q0)
   rw[Int.add_mul,<-pq] at this;omega
  have y3:0<=h%P*Q:=Int.mul_nonneg y0 (Int.le_of_lt Q0)
  have key:Int.ofNat (BitVec.toNat (BitVec.ofInt 64 (l/P)|||BitVec.ofInt 64 (h*Q%18446744073709551616)))=l/P+h%P*Q:=by
   rw[m]
   exact avD _ _ (64-s) x0 (by rw[hQ];exact x1) y3 (by omega) (by omega) (by rw[hQ];exact Int.mul_emod_left _ _)
  rw[key]
  have z:(l/P+h%P*Q)%18446744073709551616=l/P+h%P*Q:=Int.emod_eq_of_lt (by omega) (by omega)
  rw[z]
  refine⟨_,_,rfl,Int.ediv_nonneg h0 (Int.le_of_lt P0),by omega,by omega,?_⟩
  have f1:(h*18446744073709551616+l)/P=h*Q+l/P:=by
   rw[pq,show h*(P*Q)+l=l+h*Q*P by rw[Int.mul_comm P Q,<-Int.mul_assoc,Int.add_comm],Int.add_mul_ediv_right _ _ (by omega)]
   omega
  have f2:h/P*18446744073709551616=h/P*P*Q:=by rw[pq,Int.mul_assoc]
  have f3:h/P*P+h%P=h:=Int.ediv_mul_add_emod h P
  rw[f1,f2]
  have f4:(h/P*P+h%P)*Q=h*Q:=by rw[f3]
  rw[Int.add_mul] at f4
  omega
theorem KG (h l:Int)(neg:Bool)(h0:0<=h)(l0:0<=l)(l1:l<18446744073709551616):
  hX h l neg=if h*18446744073709551616+l<=(if neg=true then 9223372036854775808 else 9223372036854775807) then some (if neg=true then -l else l,true) else some (0,false):=by
 simp only[hX,Mn,Pg.bP,Pg.bJ,Pg.cm,Pg.eG,Pg.dL]
 try delta wI wU
 by_cases c:h=0
 ·subst c
  have e:((0:Int)!=0)=false:=rfl
  simp only[e,cond_false,Int.zero_mul,Int.zero_add]
  cases neg
  ·by_cases d:l>9223372036854775807
   ·have d2:¬l<=9223372036854775807:=by omega
    simp[d,d2]
   ·have d2:l<=9223372036854775807:=by omega
    simp only[Bool.not_false,cond_true,d,decide_false,cond_false,Bool.false_eq_true,if_false,d2,if_true]
    rw[wrap_i64 (by omega) d2]
  ·by_cases d:l>9223372036854775808
   ·have d2:¬l<=9223372036854775808:=by omega
    simp[d,d2]
   ·have d2:l<=9223372036854775808:=by omega
    have e3:IntKind.wrap .i64 (IntKind.wrap .u64 (0-l))= -l:=by
     rw[wrap_u64,ET];split<;>omega
    have e4:IntKind.wrap .i64 (IntKind.wrap .u64 (-l))= -l:=by
     rw[wrap_u64,ET];split<;>omega
    simp[d,d2,e3,e4]
 ·have e:(h !=0)=true:=by simp[c]
  have d2:¬h*18446744073709551616+l<=(if neg=true then 9223372036854775808 else 9223372036854775807):=by split<;>omega
  simp only[e,cond_true,d2,if_false]
def half (s:Nat):Int:=if s=0 then 0 else 2^(s-1)
def KH (v:Int)(s:Nat):Int:=if v<0 then -((-v+half s)/2^s) else(v+half s)/2^s
theorem aKo (s:Nat)(hs:s<=126):0<=half s∧half s<=42535295865117307932921825928971026432:=by
 unfold half
 split
 ·omega
 ·refine⟨Int.le_of_lt (kQ _),?_⟩
  have:(2:Int)^(s-1)<=2^125:=by
   have h2:(2:Nat)^(s-1)<=2^125:=Nat.pow_le_pow_right (by decide) (by omega)
   have h3:((2^(s-1):Nat):Int)<=((2^125:Nat):Int):=by exact_mod_cast h2
   simpa using h3
  exact this
theorem wide_round (h l:Int)(s:Nat)(hs:s<=126)(o:okW h l):
  pE h l (Int.ofNat s)=if -9223372036854775808<=KH (vW h l) s∧KH (vW h l) s<=9223372036854775807 then some (KH (vW h l) s,true) else some (0,false):=by
 simp only[pE,Zg,Pg.bP,Pg.bJ,Pg.cm,Pg.eG,Pg.dL]
 try delta wI wU
 obtain⟨ah,al,e1,a0,a1,a2,a3,a4⟩:=aFE h l o
 have n0:decide (Int.ofNat s<0)=false:=by simp
 have n1:decide (Int.ofNat s>126)=false:=by simp only[Int.ofNat_eq_natCast];exact decide_eq_false (by omega)
 simp only[n0,n1,cond_false,e1,Option.bind_some]
 obtain⟨hh0,hh1⟩:=aKo s hs
 have fin:∀h' l':Int,0<=h'->0<=l'->l'<18446744073709551616->h'*18446744073709551616+l'=((if h<0 then -vW h l else vW h l)+half s)/2^s->
   (hX h' l' (decide (h<0))).bind (λd=>some (d.fst,d.snd))=if -9223372036854775808<=KH (vW h l) s∧KH (vW h l) s<=9223372036854775807 then some (KH (vW h l) s,true) else some (0,false):=by
  intro h' l' b0 b1 b2 b3
  rw[KG h' l' _ b0 b1 b2]
  obtain⟨o1,o2,o3,o4⟩:=o
  by_cases n:h<0
  ·have nv:vW h l<0:=by show h*18446744073709551616+l<0;omega
   simp only[n,decide_true,if_true] at b3 ⊢
   unfold KH
   simp only[nv,if_true]
   rw[<-b3]
   by_cases c:h'*18446744073709551616+l'<=9223372036854775808
   ·rw[if_pos c,if_pos (by omega)]
    simp only[Option.bind_some,Option.some.injEq,Prod.mk.injEq,and_true];omega
   ·rw[if_neg c,if_neg (by omega)];rfl
  ·have nv:¬vW h l<0:=by show ¬h*18446744073709551616+l<0;omega
   simp only[n,decide_false,if_false,Bool.false_eq_true] at b3 ⊢
   unfold KH
   simp only[nv,if_false]
   rw[<-b3]
   by_cases c:h'*18446744073709551616+l'<=9223372036854775807
   ·rw[if_pos c,if_pos (by omega)]
    simp only[Option.bind_some,Option.some.injEq,Prod.mk.injEq,and_true];omega
   ·rw[if_neg c,if_neg (by omega)];rfl
 by_cases z:s=0
 ·subst z
  have n2:decide (Int.ofNat 0>0)=false:=by decide
  simp only[n2,cond_false]
  obtain⟨h',l',e2,b0,b1,b2,b3⟩:=as0 ah al 0 (by omega) a0 (by omega) a2 a3
  rw[e2]
  simp only[Option.bind_some]
  exact fin h' l' b0 b1 b2 (by rw[b3,a4];simp[half])
 ·have n2:decide (Int.ofNat s>0)=true:=by simp only[Int.ofNat_eq_natCast];exact decide_eq_true (by omega)
  simp only[n2,cond_true]
  have n3:IntKind.wrap .i64 (Int.ofNat s-1)=Int.ofNat (s-1):=(wrap_i64 (by simp only[Int.ofNat_eq_natCast];omega) (by simp only[Int.ofNat_eq_natCast];omega)).trans (by simp only[Int.ofNat_eq_natCast];omega)
  have hf:half s=2^(s-1):=by unfold half;rw[if_neg z]
  rw[n3,aT0 (s-1) (by omega),<-hf]
  simp only[Option.bind_some]
  rw[aFF _ _ _ _ a0 a2 (by omega) (by omega) a3 (by omega)]
  simp only[Option.bind_some]
  obtain⟨h',l',e2,b0,b1,b2,b3⟩:=as0 ((ah+half s/18446744073709551616+(al+half s%18446744073709551616)/18446744073709551616)%18446744073709551616) ((al+half s%18446744073709551616)%18446744073709551616) s hs (by omega) (by omega) (by omega) (by omega)
  rw[e2]
  simp only[Option.bind_some]
  refine fin h' l' b0 b1 b2 ?_
  rw[b3,<-a4]
  congr 1
  omega
def sat (x:Int):Int:=if x< -1152921504606846976 then -1152921504606846976 else if 1152921504606846976<x then 1152921504606846976 else x
def eV (x:Int):Bool:=decide (x< -1152921504606846976)||decide (1152921504606846976<x)
theorem oE (x:Int): -1152921504606846976<=sat x∧sat x<=1152921504606846976:=by
 unfold sat;split<;>(try split)<;>omega
theorem oL (x:Int)(eQ:Bool):aQ x eQ=some (sat x,eQ||eV x):=by
 simp only[aQ,Zc,aZ,vD,Pg.bP,Pg.bJ,Pg.cm,Pg.eG,Pg.dL]
 try delta wI wU
 unfold sat eV
 have e:decide ((-1152921504606846976:Int)>1152921504606846976)=false:=by decide
 by_cases c:x< -1152921504606846976
 ·simp[e,c]
 ·by_cases d:1152921504606846976<x
  ·have d2:x>1152921504606846976:=d
   simp[e,c,d]
  ·simp[e,c,d]
theorem abI (a:Int)(ok neg eQ:Bool):lO a ok neg eQ=if ok=true then some (sat a,eQ||eV a) else some (if neg=true then -1152921504606846976 else 1152921504606846976,true):=by
 simp only[lO,Gl,oW,TS,Pg.bP,Pg.bJ,Pg.cm,Pg.eG,Pg.dL]
 try delta wI wU
 cases ok
 ·cases neg<;>rfl
 ·simp only[Bool.not_true,cond_false,oL,Option.bind_some,if_true]
theorem aeR (h l:Int)(s:Nat)(eQ:Bool)(hs:s<=120)(o:okW h l):mg h l (Int.ofNat s) eQ=some (sat (KH (vW h l) s),eQ||eV (KH (vW h l) s)):=by
 simp only[mg,Qe,Pg.bP,Pg.bJ,Pg.cm,Pg.eG,Pg.dL]
 try delta wI wU
 have n0:decide (Int.ofNat s<0)=false:=by simp
 have n1:decide (Int.ofNat s>120)=false:=by simp only[Int.ofNat_eq_natCast];exact decide_eq_false (by omega)
 simp only[n0,n1,cond_false,wide_round h l s (by omega) o]
 by_cases c: -9223372036854775808<=KH (vW h l) s∧KH (vW h l) s<=9223372036854775807
 ·simp only[c,and_self,if_true,Option.bind_some,abI]
 ·rw[if_neg c]
  simp only[Option.bind_some,abI,Bool.false_eq_true,if_false]
  have sg:(h<0->KH (vW h l) s<=0)∧(¬h<0->0<=KH (vW h l) s):=by
   obtain⟨o1,o2,o3,o4⟩:=o
   obtain⟨hh0,hh1⟩:=aKo s (by omega)
   have p:=kQ s
   unfold KH
   refine⟨λn=> ?_,λn=> ?_⟩
   ·have nv:vW h l<0:=by show h*18446744073709551616+l<0;omega
    rw[if_pos nv]
    have:0<=(-vW h l+half s)/2^s:=Int.ediv_nonneg (by omega) (Int.le_of_lt p)
    omega
   ·have nv:¬vW h l<0:=by show ¬h*18446744073709551616+l<0;omega
    rw[if_neg nv]
    exact Int.ediv_nonneg (by omega) (Int.le_of_lt p)
  unfold sat eV
  by_cases n:h<0
  ·have:=sg.1 n
   have c1:KH (vW h l) s< -1152921504606846976:=by omega
   simp[n,c1]
  ·have:=sg.2 n
   have c1:¬KH (vW h l) s< -1152921504606846976:=by omega
   have c2:1152921504606846976<KH (vW h l) s:=by omega
   simp[n,c1,c2]
end Go.Proofs.YtldgljclcgaibaaGreat
namespace Go.Proofs.YtldgljclcgaibaaGreat
open Go.Ab
theorem amf (x:Int)(h0: -9223372036854775808<=x)(h1:x<=9223372036854775807):pD x=some (if x<0 then -x else x):=by
 simp only[pD,Zd,Pg.bP,Pg.bJ,Pg.cm,Pg.eG,Pg.dL]
 try delta wI wU
 by_cases c:x<0
 ·simp only[c,decide_true,cond_true,if_true,wrap_u64];exact congrArg (some:Int->Option Int) (by omega)
 ·simp only[c,decide_false,cond_false,if_false,wrap_u64];exact congrArg (some:Int->Option Int) (by omega)
theorem amg {a b:Int}(a0:0<=a)(a1:a<=4294967295)(b0:0<=b)(b1:b<=4294967295):0<=a*b∧a*b<=18446744065119617025:=by
 refine⟨Int.mul_nonneg a0 b0,?_⟩
 have:=Int.mul_le_mul a1 b1 b0 (by omega)
 omega
theorem aP4 (x y:Int)(x0:0<=x)(x1:x<18446744073709551616)(y0:0<=y)(y1:y<18446744073709551616):Gj x y=some (x*y/18446744073709551616,x*y%18446744073709551616):=by
 simp only[Gj,Zf,Pg.bP,Pg.bJ,Pg.cm,Pg.eG,Pg.dL]
 try delta wI wU
 rw[ame x x0 x1,ame y y0 y1]
 simp only[o7 _ 4294967296 (by decide),wrap_u64]
 have xe:x=x/4294967296*4294967296+x%4294967296:=by omega
 have ye:y=y/4294967296*4294967296+y%4294967296:=by omega
 have xh:0<=x/4294967296∧x/4294967296<=4294967295:=by omega
 have yh:0<=y/4294967296∧y/4294967296<=4294967295:=by omega
 have xl:0<=x%4294967296∧x%4294967296<=4294967295:=by omega
 have yl:0<=y%4294967296∧y%4294967296<=4294967295:=by omega
 have hxy:x*y=(x/4294967296)*(y/4294967296)*18446744073709551616+((x/4294967296)*(y%4294967296)+(x%4294967296)*(y/4294967296))*4294967296+(x%4294967296)*(y%4294967296):=by
  conv=>lhs;rw[xe,ye]
  generalize x/4294967296=a
  generalize x%4294967296=b
  generalize y/4294967296=c
  generalize y%4294967296=d
  rw[Int.add_mul,Int.mul_add,Int.mul_add,Int.add_mul]
  rw[show a*4294967296*(c*4294967296)=a*c*18446744073709551616 by rw[Int.mul_assoc,Int.mul_left_comm 4294967296 c,<-Int.mul_assoc,show(4294967296:Int)*4294967296=18446744073709551616 from rfl]]
  rw[show a*4294967296*d=a*d*4294967296 by rw[Int.mul_assoc,Int.mul_comm 4294967296 d,<-Int.mul_assoc],show b*(c*4294967296)=b*c*4294967296 by rw[Int.mul_assoc]]
  omega
 obtain⟨A0,A1⟩:=amg xh.1 xh.2 yh.1 yh.2
 obtain⟨B0,B1⟩:=amg xh.1 xh.2 yl.1 yl.2
 obtain⟨C0,C1⟩:=amg xl.1 xl.2 yh.1 yh.2
 obtain⟨D0,D1⟩:=amg xl.1 xl.2 yl.1 yl.2
 simp only[Int.emod_eq_of_lt xl.1 (show x%4294967296<18446744073709551616 by omega),Int.emod_eq_of_lt yl.1 (show y%4294967296<18446744073709551616 by omega)]
 rw[hxy]
 generalize x/4294967296*(y/4294967296)=A at*
 generalize x/4294967296*(y%4294967296)=B at*
 generalize x%4294967296*(y/4294967296)=C at*
 generalize x%4294967296*(y%4294967296)=D at*
 have r1:A%18446744073709551616=A:=Int.emod_eq_of_lt A0 (by omega)
 have r2:B%18446744073709551616=B:=Int.emod_eq_of_lt B0 (by omega)
 have r3:C%18446744073709551616=C:=Int.emod_eq_of_lt C0 (by omega)
 have r4:D%18446744073709551616=D:=Int.emod_eq_of_lt D0 (by omega)
 simp only[r1,r2,r3,r4]
 have r5:(B+D/4294967296)%18446744073709551616=B+D/4294967296:=Int.emod_eq_of_lt (by omega) (by omega)
 simp only[r5]
 rw[ame (B+D/4294967296) (by omega) (by omega)]
 have r6:(B+D/4294967296)%4294967296%18446744073709551616=(B+D/4294967296)%4294967296:=Int.emod_eq_of_lt (by omega) (by omega)
 simp only[r6]
 have r7:((B+D/4294967296)%4294967296+C)%18446744073709551616=(B+D/4294967296)%4294967296+C:=Int.emod_eq_of_lt (by omega) (by omega)
 simp only[r7]
 refine congrArg some (Prod.ext ?_ rfl)
 simp only
 omega
theorem aHA (h l:Int)(neg:Bool)(h0:0<=h)(h1:h<9223372036854775808)(l0:0<=l)(l1:l<18446744073709551616):
  ∃h' l' b,lN h l neg=some ((h',l'),b)∧okW h' l'∧vW h' l'=if neg=true then -(h*18446744073709551616+l) else h*18446744073709551616+l:=by
 simp only[lN,JN,Pg.bP,Pg.bJ,Pg.cm,Pg.eG,Pg.dL]
 try delta wI wU
 cases neg
 ·refine⟨_,_,_,rfl,?_,?_⟩
  ·rw[wrap_i64 (by omega) (by omega)];omega
  ·rw[wrap_i64 (by omega) (by omega)];rfl
 ·simp only[Bool.not_true,cond_false,abH l l0 l1,wrap_u64,abH h h0 (by omega)]
  rw[MP _ _ _ (by omega) (by omega) (by omega) (by omega)]
  simp only[Option.bind_some]
  generalize hm:(18446744073709551615-h)%18446744073709551616+((18446744073709551615-l)%18446744073709551616+1+0)/18446744073709551616=m
  have hw:=ET (m%18446744073709551616)
  generalize IntKind.wrap IntKind.i64 (m%18446744073709551616)=w at*
  have ok:okW w (((18446744073709551615-l)%18446744073709551616+1+0)%18446744073709551616)∧vW w (((18446744073709551615-l)%18446744073709551616+1+0)%18446744073709551616)= -(h*18446744073709551616+l):=by
   unfold vW
   refine⟨⟨?_,?_,?_,?_⟩,?_⟩<;>(split at hw<;>omega)
  cases decide (w<0)
  ·exact⟨_,_,_,rfl,ok.1,by simp only[if_true];exact ok.2⟩
  ·exact⟨_,_,_,rfl,ok.1,by simp only[if_true];exact ok.2⟩
theorem BY (a b:Int)(a0: -9223372036854775808<=a)(a1:a<=9223372036854775807)(b0: -9223372036854775808<=b)(b1:b<=9223372036854775807):∃h l,eR a b=some (h,l)∧okW h l∧vW h l=a*b:=by
 simp only[eR,aiN,Pg.bP,Pg.bJ,Pg.cm,Pg.eG,Pg.dL]
 try delta wI wU
 simp only[amf a a0 a1,amf b b0 b1,Option.bind_some]
 generalize hx:(if a<0 then -a else a)=x
 generalize hy:(if b<0 then -b else b)=y
 have x0:0<=x∧x<=9223372036854775808:=by rw[<-hx];split<;>omega
 have y0:0<=y∧y<=9223372036854775808:=by rw[<-hy];split<;>omega
 have hp:0<=x*y:=Int.mul_nonneg x0.1 y0.1
 have hq:x*y<=85070591730234615865843651857942052864:=by
  have:=Int.mul_le_mul x0.2 y0.2 y0.1 (by omega)
  omega
 rw[aP4 x y x0.1 (by omega) y0.1 (by omega)]
 simp only[Option.bind_some]
 obtain⟨h,l,c,e1,e2,e3⟩:=aHA (x*y/18446744073709551616) (x*y%18446744073709551616) (!decide (a<0)==decide (b<0)) (by omega) (by omega) (by omega) (by omega)
 rw[e1]
 simp only[Option.bind_some]
 refine⟨h,l,rfl,e2,?_⟩
 have e4:x*y/18446744073709551616*18446744073709551616+x*y%18446744073709551616=x*y:=by omega
 rw[e3,e4]
 by_cases p:a<0
 ·by_cases q:b<0
  ·rw[if_pos p] at hx
   rw[if_pos q] at hy
   simp only[p,q,decide_true]
   rw[if_neg (by decide)]
   rw[<-hx,<-hy,Int.neg_mul_neg]
  ·rw[if_pos p] at hx
   rw[if_neg q] at hy
   simp only[p,q,decide_true,decide_false]
   rw[if_pos (by decide)]
   rw[<-hx,<-hy,Int.neg_mul,Int.neg_neg]
 ·by_cases q:b<0
  ·rw[if_neg p] at hx
   rw[if_pos q] at hy
   simp only[p,q,decide_true,decide_false]
   rw[if_pos (by decide)]
   rw[<-hx,<-hy,Int.mul_neg,Int.neg_neg]
  ·rw[if_neg p] at hx
   rw[if_neg q] at hy
   simp only[p,q,decide_false]
   rw[if_neg (by decide)]
   rw[<-hx,<-hy]
theorem aKp (a b:Int)(s:Nat)(eQ:Bool)(hs:s<=120):aU a b (Int.ofNat s) eQ=some (sat (KH (sat a*sat b) s),eQ||eV a||eV b||eV (KH (sat a*sat b) s)):=by
 simp only[aU,Zj,Pg.bP,Pg.bJ,Pg.cm,Pg.eG,Pg.dL]
 try delta wI wU
 have:=oE a
 have:=oE b
 obtain⟨h,l,e1,e2,e3⟩:=BY (sat a) (sat b) (by omega) (by omega) (by omega) (by omega)
 simp only[oL,Option.bind_some,e1,aeR h l s _ hs e2,e3]
end Go.Proofs.YtldgljclcgaibaaGreat
namespace Go.Proofs.YtldgljclcgaibaaGreat
open Go.Ab
theorem aeS (f g:Nat->Int)(w:Bool)(o1:okW (f 0) (g 0))(o2:okW (f 1) (g 1))(r0: -170141183460469231731687303715884105728<=vW (f 0) (g 0)+vW (f 1) (g 1))(r1:vW (f 0) (g 0)+vW (f 1) (g 1)<170141183460469231731687303715884105728):
  ∃h l,jk 2 f g w=some ((h,l),true)∧okW h l∧vW h l=vW (f 0) (g 0)+vW (f 1) (g 1):=by
 simp only[jk,XP,Pg.bP,Pg.bJ,Pg.cm,Pg.eG,Pg.dL]
 try delta wI wU
 unfold Gr
 rw[show Nat.beq 2 2=true from rfl,cond_true,aiF]
 obtain⟨h1,l1,b1,e1,a1,c1,d1⟩:=avE 0 0 (f 0) (g 0) ⟨by omega,by omega,by omega,by omega⟩ o1
 have t1:b1=true:=by
  rw[c1]
  obtain⟨p1,p2,p3,p4⟩:=o1
  simp only[vW];omega
 subst t1
 have d1:=d1 rfl
 obtain⟨h2,l2,b2,e2,a2,c2,d2⟩:=avE h1 l1 (f 1) (g 1) a1 o2
 have z:vW 0 0=0:=rfl
 have t2:b2=true:=by rw[c2,d1,z];omega
 subst t2
 have d2:=d2 rfl
 refine⟨h2,l2,?_,a2,by rw[d2,d1,z];omega⟩
 have k0:decide ((0:Int)<Int.ofNat 2)=true:=by decide
 have k1:aX 0 2=true:=by decide
 have k2:IntKind.wrap .i64 (0+1)=1:=by decide
 have k3:decide ((1:Int)<Int.ofNat 2)=true:=by decide
 have k4:aX 1 2=true:=by decide
 have k5:IntKind.wrap .i64 (1+1)=2:=by decide
 have k6:decide ((2:Int)<Int.ofNat 2)=false:=by decide
 have k7:Int.toNat 0=0:=rfl
 have k8:Int.toNat 1=1:=rfl
 rw[Yk]
 simp only[BQ,Pg.tP,Pg.tQ,Pg.yw,Pg.Et,Pg.tT,Sum.elim_inl,Sum.elim_inr,wI,k0,k1,k2,k7,cond_true,e1,Option.bind_some,Bool.not_true,cond_false]
 rw[Yk]
 simp only[k3,k4,k5,k8,cond_true,e2,Option.bind_some,Bool.not_true,cond_false]
 rw[Yk]
 simp only[k6,cond_false,Sum.elim_inr]
def xQ (f:Nat->Int):Nat->Int
 |0=>0
 |n+1=>xQ f n+f n
def Dt (f:Nat->Bool):Nat->Bool
 |0=>false
 |n+1=>Dt f n||f n
theorem akk (f:Nat->Int)(B:Int)(hB:0<=B)(n:Nat)(h:∀j,j<n-> -B<=f j∧f j<=B): -(n*B)<=xQ f n∧xQ f n<=n*B:=by
 induction n with
 |zero=>simp[xQ]
 |succ n ih=>
  have:=ih λj hj=>h j (by omega)
  have h2:=h n (by omega)
  have e:((n+1:Nat):Int)*B=n*B+B:=by rw[Int.natCast_add,Int.add_mul];simp
  rw[e,xQ]
  omega
theorem aFG (v:Int):KH v 0=v:=by
 unfold KH half
 simp only[if_true,Int.add_zero]
 have:(2:Int)^0=1:=rfl
 rw[this,Int.ediv_one,Int.ediv_one]
 split<;>omega
theorem as1 {i n t:Nat}(h:i+t=n)(ht:0<t):decide (Int.ofNat i<Int.ofNat n)=true:=by simp only[Int.ofNat_eq_natCast];exact decide_eq_true (by omega)
theorem as2 {i n:Nat}(h:n<=i):decide (Int.ofNat i<Int.ofNat n)=false:=by simp only[Int.ofNat_eq_natCast];exact decide_eq_false (by omega)
theorem as3 {i n:Nat}(h:i<n):aX (Int.ofNat i) n=true:=by unfold aX;simp only[Int.ofNat_eq_natCast,Bool.and_eq_true,decide_eq_true_eq];omega
theorem as4 {i:Nat}(h:i<9000000000000000000):IntKind.wrap .i64 (Int.ofNat i+1)=Int.ofNat (i+1):=(wrap_i64 (by simp only[Int.ofNat_eq_natCast];omega) (by simp only[Int.ofNat_eq_natCast];omega)).trans rfl
theorem aT1 (n:Nat)(hn:n<=1900)(eQ:Bool)(l:Nat->Int)(w:Bool):
  cF n eQ l w=some (sat (xQ (λj=>sat (l j)) n),(eQ||Dt (λj=>eV (l j)) n)||eV (xQ (λj=>sat (l j)) n)):=by
 simp only[cF,Zt,Pg.bP,Pg.bJ,Pg.cm,Pg.eG,Pg.dL]
 try delta wI wU
 unfold Qh
 rw[Nat.beq_refl,cond_true]
 refine MO (λt d=>∃(i:Nat) (h l':Int),i+t=n∧okW h l'∧vW h l'=xQ (λj=>sat (l j)) i∧d=(((n,w),Int.ofNat n,Int.ofNat i),(eQ||Dt (λj=>eV (l j)) i),l,h,l')) ?_ 2000 n _ (by omega)
  ⟨0,0,0,by omega,⟨by omega,by omega,by omega,by omega⟩,rfl,by simp only[Dt,Bool.or_false];rfl⟩
 rintro t _ c ⟨i,h,l',hi,ho,hv,rfl⟩ hc
 have bnd:=akk (λj=>sat (l j)) 1152921504606846976 (by omega) i (λj _=>oE _)
 rcases Nat.eq_zero_or_pos t with t0|t0
 ·have e:i=n:=by omega
  subst e
  have r:=aeR h l' 0
  have r2:=wide_round h l' 0 (by omega) ho
  rw[aFG] at r2
  have r3:Int.ofNat 0=0:=rfl
  rw[r3] at r2
  simp only[Hi,Pg.tP,Pg.tQ,Pg.yw,Pg.Et,Pg.tT,Sum.elim_inl,Sum.elim_inr,wI,as2 (Nat.le_refl i),cond_false,r2]
  by_cases k: -9223372036854775808<=vW h l'∧vW h l'<=9223372036854775807
  ·rw[if_pos k]
   simp only[if_true,Option.bind_some,abI,hv]
  ·rw[if_neg k]
   simp only[Option.bind_some,abI,Bool.false_eq_true,if_false]
   rw[<-hv]
   unfold sat eV
   by_cases ng:h<0
   ·have c1:vW h l'< -1152921504606846976:=by
     obtain⟨o1,o2,o3,o4⟩:=ho
     simp only[vW] at*;omega
    simp[ng,c1]
   ·have c1:¬vW h l'< -1152921504606846976:=by
     obtain⟨o1,o2,o3,o4⟩:=ho
     simp only[vW] at*;omega
    have c2:1152921504606846976<vW h l':=by
     obtain⟨o1,o2,o3,o4⟩:=ho
     simp only[vW] at*;omega
    simp[ng,c1,c2]
 ·have hs:=oE (l i)
  obtain⟨h1,l1,e1,o1,v1⟩:=aTZ (sat (l i)) (by omega) (by omega)
  obtain⟨h2,l2,e2,o2,v2⟩:=aeS (λj:Nat=>bif Nat.beq j 1 then h1 else bif Nat.beq j 0 then h else h) (λj:Nat=>bif Nat.beq j 1 then l1 else bif Nat.beq j 0 then l' else l') true
   ho o1 (by show _<=vW h l'+vW h1 l1;rw[hv,v1];omega) (by show vW h l'+vW h1 l1<_;rw[hv,v1];omega)
  have v2:vW h2 l2=vW h l'+vW h1 l1:=v2
  rw[hv,v1] at v2
  have q:Int.toNat (Int.ofNat i)=i:=rfl
  simp only[Hi,Pg.tP,Pg.tQ,Pg.yw,Pg.Et,Pg.tT,Sum.elim_inl,Sum.elim_inr,wI,as1 hi t0,as3 (show i<n by omega),cond_true,q,oL,Option.bind_some,e1,e2,as4 (show i<9000000000000000000 by omega)]
  refine hc (t-1) _ (by omega) ⟨i+1,h2,l2,by omega,o2,v2,?_⟩
  simp only[Dt,Bool.or_assoc]
end Go.Proofs.YtldgljclcgaibaaGreat
namespace Go.Proofs.YtldgljclcgaibaaGreat
open Go.Ab
theorem abJ (a b:Int): -1329227995784915872903807060280344576<=sat a*sat b∧sat a*sat b<=1329227995784915872903807060280344576:=by
 have h1:=oE a
 have h2:=oE b
 generalize sat a=x at*
 generalize sat b=y at*
 have key:∀u v:Int,0<=u->u<=1152921504606846976->0<=v->v<=1152921504606846976->0<=u*v∧u*v<=1329227995784915872903807060280344576:=λu v u0 u1 v0 v1=>by
  refine⟨Int.mul_nonneg u0 v0,?_⟩
  have:=Int.mul_le_mul u1 v1 v0 (by omega)
  omega
 rcases Int.le_total 0 x with hx|hx<;>rcases Int.le_total 0 y with hy|hy
 ·have:=key x y hx (by omega) hy (by omega);omega
 ·have:=key x (-y) hx (by omega) (by omega) (by omega)
  rw[Int.mul_neg] at this;omega
 ·have:=key (-x) y (by omega) (by omega) hy (by omega)
  rw[Int.neg_mul] at this;omega
 ·have:=key (-x) (-y) (by omega) (by omega) (by omega) (by omega)
  rw[Int.neg_mul_neg] at this;omega
theorem aKq (s:Nat)(hs:s<=120)(n:Nat)(hn:n<=100)(eQ:Bool)(f g:Nat->Int)(w w':Bool):
  bo (Int.ofNat s) n n eQ f g w w'=some (sat (KH (xQ (λj=>sat (f j)*sat (g j)) n) s),(eQ||Dt (λj=>eV (f j)||eV (g j)) n)||eV (KH (xQ (λj=>sat (f j)*sat (g j)) n) s)):=by
 simp only[bo,ZQ,Pg.bP,Pg.bJ,Pg.cm,Pg.eG,Pg.dL]
 try delta wI wU
 unfold Qq
 have n0:decide (Int.ofNat s<0)=false:=by simp
 have n1:decide (Int.ofNat s>120)=false:=by simp only[Int.ofNat_eq_natCast];exact decide_eq_false (by omega)
 have m:(if 100<if Int.ofNat n<Int.ofNat n then Int.ofNat n else Int.ofNat n then 100 else if Int.ofNat n<Int.ofNat n then Int.ofNat n else Int.ofNat n)=Int.ofNat n:=by
  have e:¬Int.ofNat n<Int.ofNat n:=by omega
  rw[if_neg e,if_neg (by simp only[Int.ofNat_eq_natCast];omega)]
 rw[n0,n1,cond_false,cond_false,Nat.beq_refl,cond_true,cond_true,m]
 refine MO (λt d=>∃(i:Nat) (h l':Int),i+t=n∧okW h l'∧vW h l'=xQ (λj=>sat (f j)*sat (g j)) i∧d=((Int.ofNat s,(n,w),(n,w'),Int.ofNat n,Int.ofNat i),(eQ||Dt (λj=>eV (f j)||eV (g j)) i),f,g,h,l')) ?_ 2000 n _ (by omega)
  ⟨0,0,0,by omega,⟨by omega,by omega,by omega,by omega⟩,rfl,by simp only[Dt,Bool.or_false];rfl⟩
 rintro t _ c ⟨i,h,l',hi,ho,hv,rfl⟩ hc
 have bnd:=akk (λj=>sat (f j)*sat (g j)) 1329227995784915872903807060280344576 (by omega) i (λj _=>abJ _ _)
 rcases Nat.eq_zero_or_pos t with t0|t0
 ·have e:i=n:=by omega
  subst e
  simp only[Hl,Pg.tP,Pg.tQ,Pg.yw,Pg.Et,Pg.tT,Sum.elim_inl,Sum.elim_inr,wI,as2 (Nat.le_refl i),cond_false,aeR h l' s _ hs ho,hv,Option.bind_some]
 ·have hs1:=oE (f i)
  have TB:=oE (g i)
  have hm:=abJ (f i) (g i)
  obtain⟨h1,l1,e1,o1,v1⟩:=BY (sat (f i)) (sat (g i)) (by omega) (by omega) (by omega) (by omega)
  obtain⟨h2,l2,e2,o2,v2⟩:=aeS (λj:Nat=>bif Nat.beq j 1 then h1 else bif Nat.beq j 0 then h else h) (λj:Nat=>bif Nat.beq j 1 then l1 else bif Nat.beq j 0 then l' else l') true
   ho o1 (by show _<=vW h l'+vW h1 l1;rw[hv,v1];omega) (by show vW h l'+vW h1 l1<_;rw[hv,v1];omega)
  have v2:vW h2 l2=vW h l'+vW h1 l1:=v2
  rw[hv,v1] at v2
  have q:Int.toNat (Int.ofNat i)=i:=rfl
  simp only[Hl,Pg.tP,Pg.tQ,Pg.yw,Pg.Et,Pg.tT,Sum.elim_inl,Sum.elim_inr,wI,as1 hi t0,as3 (show i<n by omega),cond_true,q,oL,Option.bind_some,e1,e2,as4 (show i<9000000000000000000 by omega)]
  refine hc (t-1) _ (by omega) ⟨i+1,h2,l2,by omega,o2,v2,?_⟩
  simp only[Dt,Bool.or_assoc]
theorem aKr (x:Int):KH (x*1073741824) 30=x:=by
 unfold KH half
 rw[if_neg (by omega:¬(30:Nat)=0),show(2:Int)^(30-1)=536870912 from rfl,show(2:Int)^30=1073741824 from rfl]
 split<;>omega
theorem aOR {x:Int}(h: -1152921504606846976<=x∧x<=1152921504606846976):sat x=x∧eV x=false:=by
 unfold sat eV
 have h1:¬x< -1152921504606846976:=by omega
 have h2:¬1152921504606846976<x:=by omega
 simp[h1,h2]
end Go.Proofs.YtldgljclcgaibaaGreat
namespace Go.Proofs.YtldgljclcgaibaaGreat
open Go.Ab
def isR (r V:Int):Prop:=0<=r∧V<=r*r+r∧(r=0∨r*r-r<V)
theorem aHB {a b:Int}(ha:0<=a)(hb:0<=b):0<=a*b:=Int.mul_nonneg ha hb
theorem aOS {r s V:Int}(h1:isR r V)(h2:isR s V):s<=r:=by
 obtain⟨a1,a2,a3⟩:=h1
 obtain⟨b1,b2,b3⟩:=h2
 rcases Int.lt_or_le r s with h|h
 ·exfalso
  have p:=aHB (a:=s-r-1) (b:=s+r) (by omega) (by omega)
  have q:(s-r-1)*(s+r)=s*s-s-(r*r+r):=by grind
  rcases b3 with b3|b3
  ·omega
  ·omega
 ·exact h
theorem aP5 {r s V:Int}(h1:isR r V)(h2:isR s V):r=s:=Int.le_antisymm (aOS h2 h1) (aOS h1 h2)
theorem aT2 (n:Nat):∃q:Nat,q*q<=n∧n<(q+1)*(q+1):=by
 induction n with
 |zero=>exact⟨0,by omega,by omega⟩
 |succ n ih=>
  obtain⟨q,h1,h2⟩:=ih
  by_cases c:n+1<(q+1)*(q+1)
  ·exact⟨q,by omega,c⟩
  ·refine⟨q+1,by omega,?_⟩
   have:(q+1+1)*(q+1+1)=(q+1)*(q+1)+2*q+3:=by grind
   omega
theorem aP6 (V:Int)(h:0<=V):∃q:Int,0<=q∧q*q<=V∧V<(q+1)*(q+1):=by
 obtain⟨q,h1,h2⟩:=aT2 V.toNat
 refine⟨q,by omega,?_,?_⟩
 ·have e:((q*q:Nat):Int)=(q:Int)*q:=by simp
  omega
 ·have e:(((q+1)*(q+1):Nat):Int)=((q:Int)+1)*(q+1):=by simp
  omega
theorem aNA {a b:Int}(ha:0<=a)(hb:0<=b)(h:a*a<b*b):a<b:=by
 rcases Int.lt_or_le a b with c|c
 ·exact c
 ·exfalso
  have:=Int.mul_le_mul c c hb (by omega)
  omega
theorem aP7 (n:Nat)(hn:n<128):fV 0 1 (Int.ofNat n)=some (2^n/18446744073709551616,2^n%18446744073709551616):=by
 have key:∀n:Fin 128,fV 0 1 (Int.ofNat n.val)=some ((2:Int)^n.val/18446744073709551616,(2:Int)^n.val%18446744073709551616):=by decide+kernel
 exact key ⟨n,hn⟩
theorem aFH (a b c d:Int)(b0:0<=b)(b1:b<18446744073709551616)(d0:0<=d)(d1:d<18446744073709551616):
  tp a b c d=some (decide (a*18446744073709551616+b<c*18446744073709551616+d)):=by
 simp only[tp,Mq,Pg.bP,Pg.bJ,Pg.cm,Pg.eG,Pg.dL]
 try delta wI wU
 by_cases h:a<c
 ·have:a*18446744073709551616+b<c*18446744073709551616+d:=by omega
  simp[h,this]
 ·by_cases e:a=c
  ·subst e
   have:(a*18446744073709551616+b<a*18446744073709551616+d)↔b<d:=by omega
   simp[this]
  ·have:¬a*18446744073709551616+b<c*18446744073709551616+d:=by omega
   have e':(a==c)=false:=by simp[e]
   rw[decide_eq_false h,cond_false,e',cond_false,decide_eq_false this]
theorem avF (x y c:Int)(x0:0<=x)(x1:x<18446744073709551616)(y0:0<=y)(y1:y<18446744073709551616)(c0:0<=c)(c1:c<=1):abh x y c=some ((x-y-c)%18446744073709551616,if x<y+c then 1 else 0):=by
 unfold abh
 have h:Nat.ble c.toNat 1=true:=Nat.ble_eq_true_of_le (by omega)
 rw[h,cond_true]
 congr 1
 unfold aTJ aTK
 simp only[Int.ofNat_eq_natCast,Prod.mk.injEq]
 constructor
 ·omega
 ·split<;>split<;>omega
theorem aNB (a b c d:Int)(a0:0<=a)(a1:a<18446744073709551616)(b0:0<=b)(b1:b<18446744073709551616)(c0:0<=c)(c1:c<18446744073709551616)(d0:0<=d)(d1:d<18446744073709551616)
  (h:c*18446744073709551616+d<=a*18446744073709551616+b):
  ∃h' l',v7 a b c d=some (h',l')∧0<=h'∧h'<18446744073709551616∧0<=l'∧l'<18446744073709551616∧h'*18446744073709551616+l'=a*18446744073709551616+b-(c*18446744073709551616+d):=by
 simp only[v7,J0,Pg.bP,Pg.bJ,Pg.cm,Pg.eG,Pg.dL]
 try delta wI wU
 rw[avF b d 0 b0 b1 d0 d1 (by omega) (by omega)]
 simp only[Option.bind_some,Int.add_zero]
 by_cases k:b<d
 ·rw[if_pos k,avF a c 1 a0 a1 c0 c1 (by omega) (by omega)]
  simp only[Option.bind_some]
  refine⟨_,_,rfl,?_,?_,?_,?_,?_⟩<;>omega
 ·rw[if_neg k,avF a c 0 a0 a1 c0 c1 (by omega) (by omega)]
  simp only[Option.bind_some]
  refine⟨_,_,rfl,?_,?_,?_,?_,?_⟩<;>omega
theorem aeT (h1 l1 h2 l2:Int)(a0:0<=h1)(b0:0<=l1)(c0:0<=h2)(d0:0<=l2)(b1:l1<18446744073709551616)(d1:l2<18446744073709551616)
  (h:h1*18446744073709551616+l1+(h2*18446744073709551616+l2)<340282366920938463463374607431768211456):
  ∃h' l',hO h1 l1 h2 l2=some (h',l')∧0<=h'∧h'<18446744073709551616∧0<=l'∧l'<18446744073709551616∧h'*18446744073709551616+l'=h1*18446744073709551616+l1+(h2*18446744073709551616+l2):=by
 rw[aFF h1 l1 h2 l2 a0 b0 c0 d0 b1 d1]
 refine⟨_,_,rfl,?_,?_,?_,?_,?_⟩<;>omega
theorem akl {m n:Nat}(h:m<=n):(2:Int)^m<=2^n:=by
 have h2:(2:Nat)^m<=2^n:=Nat.pow_le_pow_right (by decide) h
 have h3:((2^m:Nat):Int)<=((2^n:Nat):Int):=by exact_mod_cast h2
 simpa using h3
theorem aqk (h l:Int)(o:okW h l)(h0:0<=h):∃r,isR r (vW h l)∧r<18446744073709551616∧J3 h l=if r<=9223372036854775807 then some (r,true) else some (0,false):=by
 obtain⟨o1,o2,o3,o4⟩:=o
 have v0:0<=vW h l:=by show 0<=h*18446744073709551616+l;omega
 have v1:vW h l<170141183460469231731687303715884105728:=by show h*18446744073709551616+l<_;omega
 have hvv:h*18446744073709551616+l=vW h l:=rfl
 generalize vW h l=V at*
 obtain⟨q,q0,q1,q2⟩:=aP6 V v0
 have qb:q<13043817825332782213:=aNA q0 (by omega) (by omega)
 obtain⟨r,hr⟩:∃r,r=if q<V-q*q then q+1 else q:=⟨_,rfl⟩
 have q3:(q+1)*(q+1)=q*q+2*q+1:=by grind
 refine⟨r,?_,by rw[hr];split<;>omega,?_⟩
 ·rw[hr]
  split
  ·rename_i c
   exact⟨by omega,by omega,Or.inr (by omega)⟩
  ·rename_i c
   refine⟨q0,by omega,?_⟩
   rcases Int.lt_or_le 0 q with k|k
   ·exact Or.inr (by omega)
   ·exact Or.inl (by omega)
 simp only[J3,adV,Pg.bP,Pg.bJ,Pg.cm,Pg.eG,Pg.dL]
 try delta wI wU
 unfold T2
 have n0:decide (h<0)=false:=decide_eq_false (by omega)
 have n1:IntKind.wrap .u64 h=h:=by rw[wrap_u64];omega
 rw[n0,cond_false,n1]
 refine MO (λt d=>∃(p c rh rl sh sl:Int),t<=64∧0<=p∧p=c*2^t∧p*p<=V∧V<(p+2^t)*(p+2^t)∧0<=rh∧rh<18446744073709551616∧0<=rl∧rl<18446744073709551616∧rh*18446744073709551616+rl=V-p*p∧
   0<=sh∧sh<18446744073709551616∧0<=sl∧sl<18446744073709551616∧sh*18446744073709551616+sl=p*2^t∧d=(2*(t:Int)-2,(rh,rl),sh,sl)) ?_ 2000 64 _ (by omega)
  ⟨0,0,h,l,0,0,by omega,by omega,by omega,by omega,by
   have:(2:Int)^64=18446744073709551616:=rfl
   omega,by omega,by omega,by omega,by omega,by omega,by omega,by omega,by omega,by omega,by omega,rfl⟩
 rintro t _ k ⟨p,c,rh,rl,sh,sl,t0,p0,pc,p1,p2,r0,r1,r2,r3,r4,s0,s1,s2,s3,s4,rfl⟩ hk
 rcases Nat.eq_zero_or_pos t with z|z
 ·subst z
  have e1:(2:Int)^0=1:=rfl
  rw[e1] at p2 s4
  have pq:p=q:=by
   have h1:p<q+1:=aNA p0 (by omega) (by omega)
   have h2:q<p+1:=aNA q0 (by omega) (by omega)
   omega
  subst pq
  have g0:decide ((2:Int)*((0:Nat):Int)-2>=0)=false:=by decide
  simp only[J2,Pg.tP,Pg.tQ,Pg.yw,Pg.Et,Pg.tT,Sum.elim_inl,Sum.elim_inr,g0,cond_false,aFH sh sl rh rl s2 s3 r2 r3,Option.bind_some]
  rw[s4,r4,Int.mul_one]
  by_cases cc:p<V-p*p
  ·rw[decide_eq_true cc,cond_true]
   rw[if_pos cc] at hr
   obtain⟨a,b,e2,a0,a1,b0,b1,e3⟩:=aeT sh sl 0 1 s0 s2 (by omega) (by omega) s3 (by omega) (by omega)
   rw[e2,Option.bind_some,KG a b false a0 b0 b1,e3,hr]
   have e4:sh*18446744073709551616+sl+(0*18446744073709551616+1)=p+1:=by omega
   rw[e4]
   have az:a=0:=by omega
   have e5:b=p+1:=by omega
   simp only[Bool.false_eq_true,if_false,e5]
   by_cases f:p+1<=9223372036854775807
   ·rw[if_pos f,Option.bind_some]
   ·rw[if_neg f,Option.bind_some]
  ·rw[decide_eq_false cc,cond_false]
   rw[if_neg cc] at hr
   rw[KG sh sl false s0 s2 s3,s4,hr]
   have az:sh=0:=by omega
   have e5:sl=p:=by omega
   simp only[Bool.false_eq_true,if_false,Int.mul_one,e5]
   by_cases f:p<=9223372036854775807
   ·rw[if_pos f,Option.bind_some]
   ·rw[if_neg f,Option.bind_some]
 ·obtain⟨m,rfl⟩:∃m,t=m+1:=⟨t-1,by omega⟩
  have P2:(2:Int)^(m+1)=2^m*2:=Int.pow_succ _ _
  have PP:(2:Int)^(2*m)=2^m*2^m:=by rw[<-Int.pow_add];congr 1;omega
  have P0:=kQ m
  have PB:(2:Int)^m<=2^63:=akl (by omega)
  have PBv:(2:Int)^63=9223372036854775808:=rfl
  have at0:(2:Int)*((m+1:Nat):Int)-2=Int.ofNat (2*m):=by simp only[Int.ofNat_eq_natCast];omega
  rw[at0]
  have g0:decide (Int.ofNat (2*m)>=0)=true:=decide_eq_true (by simp only[Int.ofNat_eq_natCast];omega)
  have g1:IntKind.wrap .i64 (Int.ofNat (2*m)-2)=2*(m:Int)-2:=by
   simp only[Int.ofNat_eq_natCast]
   rw[wrap_i64 (by omega) (by omega)]
   omega
  simp only[J2,Pg.tP,Pg.tQ,Pg.yw,Pg.Et,Pg.tT,Sum.elim_inl,Sum.elim_inr,g0,cond_true,aP7 (2*m) (by omega),Option.bind_some,wI,g1]
  rw[PP]
  rw[P2] at pc p2 s4
  generalize hP:(2:Int)^m=P at*
  have PPb:P*P<=85070591730234615865843651857942052864:=by
   have:=Int.mul_le_mul PB PB (by omega) (by omega)
   omega
  have PP0:0<P*P:=Int.mul_pos P0 P0
  have pb:p*P*2<=V:=by
   rcases Int.lt_or_le 0 c with k0|k0
   ·have c1:1*(P*2)<=c*(P*2):=Int.mul_le_mul_of_nonneg_right (by omega) (by omega)
    have c2:p*(P*2)<=p*p:=Int.mul_le_mul_of_nonneg_left (by omega) p0
    have c3:p*(P*2)=p*P*2:=by grind
    omega
   ·have c1:c*(P*2)<=0*(P*2):=Int.mul_le_mul_of_nonneg_right k0 (by omega)
    have:p=0:=by omega
    subst this
    omega
  have s4':sh*18446744073709551616+sl=p*P*2:=by rw[s4];grind
  obtain⟨a,b,e2,a0,a1,b0,b1,e3⟩:=aeT sh sl (P*P/18446744073709551616) (P*P%18446744073709551616) s0 s2 (by omega) (by omega) s3 (by omega) (by omega)
  have e3':a*18446744073709551616+b=p*P*2+P*P:=by omega
  obtain⟨u,v,e4,u0,v0,v1,e5⟩:=as0 sh sl 1 (by omega) s0 s1 s2 s3
  have e4':gX sh sl 1=some (u,v):=e4
  have e5':u*18446744073709551616+v=p*P:=by
   rw[e5,s4']
   show p*P*2/2^1=p*P
   rw[show(2:Int)^1=2 from rfl];omega
  rw[e2,Option.bind_some,e4',Option.bind_some,aFH rh rl a b r2 r3 b0 b1,Option.bind_some,e3',r4]
  have dd:p*p+(p*P*2+P*P)=(p+P)*(p+P):=by grind
  by_cases cc:V-p*p<p*P*2+P*P
  ·rw[decide_eq_true cc]
   simp only[Bool.not_true,cond_false]
   refine hk m _ (by omega) ⟨p,c*2,rh,rl,u,v,by omega,p0,by rw[hP,pc];grind,p1,by rw[hP];omega,r0,r1,r2,r3,r4,u0,by omega,v0,v1,by rw[hP];exact e5',rfl⟩
  ·rw[decide_eq_false cc]
   simp only[Bool.not_false,cond_true]
   obtain⟨x,y,e6,x0,x1,y0,y1,e7⟩:=aNB rh rl a b r0 r1 r2 r3 a0 a1 b0 b1 (by omega)
   obtain⟨w,z',e8,w0,w1,z0,z1,e9⟩:=aeT u v (P*P/18446744073709551616) (P*P%18446744073709551616) u0 v0 (by omega) (by omega) v1 (by omega) (by omega)
   rw[e6,Option.bind_some,e8,Option.bind_some]
   refine hk m _ (by omega) ⟨p+P,c*2+1,x,y,w,z',by omega,by omega,by rw[hP,pc];grind,by omega,?_,x0,x1,y0,y1,by omega,w0,w1,z0,z1,?_,rfl⟩
   ·rw[hP]
    have:(p+P+P)*(p+P+P)=(p+P*2)*(p+P*2):=by grind
    omega
   ·rw[hP]
    have:(p+P)*P=p*P+P*P:=by grind
    omega
end Go.Proofs.YtldgljclcgaibaaGreat
namespace Go.Proofs.YtldgljclcgaibaaGreat
open Go.Ab
theorem aNC (h l:Int)(neg:Bool)(h0:0<=h)(h1:h<18446744073709551616)(l0:0<=l)(l1:l<18446744073709551616):
  ∃h' l' b,lN h l neg=some ((h',l'),b)∧okW h' l'∧(b=true↔if neg=true then h*18446744073709551616+l<=170141183460469231731687303715884105728 else h*18446744073709551616+l<170141183460469231731687303715884105728)∧
   (b=true->vW h' l'=if neg=true then -(h*18446744073709551616+l) else h*18446744073709551616+l):=by
 simp only[lN,JN,Pg.bP,Pg.bJ,Pg.cm,Pg.eG,Pg.dL]
 try delta wI wU
 unfold vW
 cases neg
 ·have hw:=ET h
  rw[Int.emod_eq_of_lt h0 h1] at hw
  generalize IntKind.wrap IntKind.i64 h=w at*
  refine⟨w,l,_,rfl,⟨?_,?_,l0,l1⟩,?_,?_⟩
  ·split at hw<;>omega
  ·split at hw<;>omega
  ·rw[o7 _ _ (by omega),beq_iff_eq,if_neg (by decide)]
   constructor<;>intro _<;>omega
  ·rw[o7 _ _ (by omega),beq_iff_eq,if_neg (by decide)]
   intro _
   split at hw<;>omega
 ·simp only[Bool.not_true,cond_false,abH l l0 l1,wrap_u64,abH h h0 h1]
  rw[MP _ _ _ (by omega) (by omega) (by omega) (by omega)]
  simp only[Option.bind_some,if_true]
  generalize hm:((18446744073709551615-h)%18446744073709551616+((18446744073709551615-l)%18446744073709551616+1+0)/18446744073709551616)%18446744073709551616=m
  have hw:=ET m
  generalize IntKind.wrap IntKind.i64 m=w at*
  have m0:0<=m∧m<18446744073709551616:=by omega
  rw[Int.emod_eq_of_lt m0.1 m0.2] at hw
  have w0: -9223372036854775808<=w∧w<=9223372036854775807:=by split at hw<;>omega
  have wm:(w<0∧w=m-18446744073709551616)∨(0<=w∧w=m):=by split at hw<;>omega
  clear hw
  by_cases c:w<0
  ·rw[decide_eq_true c,cond_true]
   refine⟨_,_,_,rfl,⟨w0.1,w0.2,by omega,by omega⟩,?_,?_⟩
   ·simp only[true_iff];omega
   ·intro _;omega
  ·rw[decide_eq_false c,cond_false]
   refine⟨_,_,_,rfl,⟨w0.1,w0.2,by omega,by omega⟩,?_,?_⟩
   ·simp only[Bool.and_eq_true,beq_iff_eq,and_true]
    constructor<;>intro _<;>omega
   ·simp only[Bool.and_eq_true,beq_iff_eq,and_true]
    intro _;omega
theorem aT3 (d:Int)(s:Nat)(hs:s<=127)(d0:0<=d)(d1:d<18446744073709551616):
  ∃h' l',fV 0 d (Int.ofNat s)=some (h',l')∧0<=h'∧h'<18446744073709551616∧0<=l'∧l'<18446744073709551616∧h'*18446744073709551616+l'=d*2^s%340282366920938463463374607431768211456:=by
 simp only[fV,Qa,Pg.bP,Pg.bJ,Pg.cm,Pg.eG,Pg.dL]
 try delta wI wU
 by_cases c:64<=s
 ·have e:decide (Int.ofNat s>=64)=true:=by simp only[Int.ofNat_eq_natCast];exact decide_eq_true (by omega)
  have e2:IntKind.wrap .i64 (Int.ofNat s-64)=Int.ofNat (s-64):=(wrap_i64 (by simp only[Int.ofNat_eq_natCast];omega) (by simp only[Int.ofNat_eq_natCast];omega)).trans (by simp only[Int.ofNat_eq_natCast];omega)
  have e3:(!decide (Int.ofNat (s-64)<0))=true:=by simp
  have e4:min (Int.toNat (Int.ofNat (s-64))) 64=s-64:=by
   show min (s-64) 64=s-64
   omega
  simp only[e,e2,e3,e4,cond_true,wrap_u64]
  refine⟨_,_,rfl,by omega,by omega,by omega,by omega,?_⟩
  have p:(2:Int)^s=2^(s-64)*18446744073709551616:=by
   rw[show(18446744073709551616:Int)=2^64 from rfl,<-Int.pow_add]
   congr 1;omega
  rw[p,<-Int.mul_assoc]
  generalize d*2^(s-64)=x
  omega
 ·have e:decide (Int.ofNat s>=64)=false:=by simp only[Int.ofNat_eq_natCast];exact decide_eq_false (by omega)
  have e2:IntKind.wrap .i64 (64-Int.ofNat s)=Int.ofNat (64-s):=(wrap_i64 (by simp only[Int.ofNat_eq_natCast];omega) (by simp only[Int.ofNat_eq_natCast];omega)).trans (by simp only[Int.ofNat_eq_natCast];omega)
  have e3:∀n,(!decide (Int.ofNat n<0))=true:=by simp
  have e4:min (Int.toNat (Int.ofNat (64-s))) 64=64-s:=by
   show min (64-s) 64=64-s
   omega
  have e5:min (Int.toNat (Int.ofNat s)) 64=s:=by
   show min s 64=s
   omega
  simp only[e,e2,e3,e4,e5,cond_true,cond_false,wrap_u64,Int.zero_mul]
  rw[o7 _ _ (Int.le_of_lt (kQ _))]
  have pq:(18446744073709551616:Int)=2^s*2^(64-s):=by
   rw[<-Int.pow_add,show s+(64-s)=64 by omega];rfl
  have P0:=kQ s
  have Q0:=kQ (64-s)
  have x0:0<=d/2^(64-s):=Int.ediv_nonneg d0 (Int.le_of_lt Q0)
  have x1:d/2^(64-s)<2^s:=Int.ediv_lt_of_lt_mul Q0 (by rw[<-pq];exact d1)
  have x2:d/2^(64-s)<=d:=Int.ediv_le_self _ d0
  have z0:(0:Int)%18446744073709551616=0:=rfl
  rw[z0]
  have key:Int.ofNat (BitVec.toNat (BitVec.ofInt 64 0|||BitVec.ofInt 64 (d/2^(64-s))))=d/2^(64-s):=by
   rw[avD 0 (d/2^(64-s)) 0 (by omega) (by decide) x0 (by omega) (by omega) (by rw[show(2:Int)^0=1 from rfl,Int.emod_one])]
   omega
  rw[key]
  refine⟨_,_,rfl,by omega,by omega,by omega,by omega,?_⟩
  have m1:d*2^s/18446744073709551616=d/2^(64-s):=by
   rw[pq,Int.mul_comm d,Int.mul_ediv_mul_of_pos _ _ P0]
  have b1:d*2^s<340282366920938463463374607431768211456:=by
   have:=Int.mul_lt_mul_of_pos_right d1 P0
   have q:(2:Int)^s<=2^64:=akl (by omega)
   have q2:(2:Int)^64=18446744073709551616:=rfl
   have q3:18446744073709551616*2^s<=(18446744073709551616:Int)*18446744073709551616:=Int.mul_le_mul_of_nonneg_left (by omega) (by omega)
   have q4:(18446744073709551616:Int)*18446744073709551616=340282366920938463463374607431768211456:=by decide
   omega
  have b0:0<=d*2^s:=Int.mul_nonneg d0 (Int.le_of_lt P0)
  rw[Int.emod_eq_of_lt b0 b1]
  have x3:d/2^(64-s)%18446744073709551616=d/2^(64-s):=Int.emod_eq_of_lt x0 (by omega)
  rw[x3,<-m1]
  omega
theorem akm (a:Int)(s:Nat)(hs:s<=127)(a0: -9223372036854775808<=a)(a1:a<=9223372036854775807):
  ∃h l b,sY a (Int.ofNat s)=some ((h,l),b)∧okW h l∧(b=true↔ -170141183460469231731687303715884105728<=a*2^s∧a*2^s<170141183460469231731687303715884105728)∧(b=true->vW h l=a*2^s)∧(b=false->h=0∧l=0):=by
 simp only[sY,Zp,Pg.bP,Pg.bJ,Pg.cm,Pg.eG,Pg.dL]
 try delta wI wU
 have n0:decide (Int.ofNat s<0)=false:=by simp
 have n1:decide (Int.ofNat s>127)=false:=by simp only[Int.ofNat_eq_natCast];exact decide_eq_false (by omega)
 rw[n0,cond_false,n1,cond_false,amf a a0 a1,Option.bind_some]
 generalize hd:(if a<0 then -a else a)=d
 have d0:0<=d∧d<=9223372036854775808:=by split at hd<;>omega
 obtain⟨u,v,e1,u0,u1,v0,v1,e2⟩:=aT3 d s hs d0.1 (by omega)
 rw[e1,Option.bind_some]
 simp only
 have P0:=kQ s
 have D0:0<=d*2^s:=Int.mul_nonneg d0.1 (Int.le_of_lt P0)
 have sg:(a<0->a*2^s= -(d*2^s))∧(¬a<0->a*2^s=d*2^s):=by
  constructor<;>intro h
  ·rw[if_pos h] at hd
   rw[<-hd,Int.neg_mul,Int.neg_neg]
  ·rw[if_neg h] at hd
   rw[hd]
 have aXc:∀{b:Bool},b=false->¬d*2^s<340282366920938463463374607431768211456->(b=true↔ -170141183460469231731687303715884105728<=a*2^s∧a*2^s<170141183460469231731687303715884105728):=by
  intro b hb hn
  rw[hb]
  refine iff_of_false Bool.false_ne_true λh=> ?_
  by_cases n:a<0
  ·have:=sg.1 n;omega
  ·have:=sg.2 n;omega
 have fin:d*2^s<340282366920938463463374607431768211456->∃h l b,(Option.bind (lN u v (decide (a<0))) λ(d:TL)=>bif !d.2 then some (((0,0),false):(Int×Int)×Bool) else some (d.1,true))=some ((h,l),b)∧okW h l∧(b=true↔ -170141183460469231731687303715884105728<=a*2^s∧a*2^s<170141183460469231731687303715884105728)∧(b=true->vW h l=a*2^s)∧(b=false->h=0∧l=0):=by
  intro lt
  rw[Int.emod_eq_of_lt D0 lt] at e2
  obtain⟨h',l',b,e3,o3,f3,v3⟩:=aNC u v (decide (a<0)) u0 u1 v0 v1
  rw[e3,Option.bind_some]
  rw[e2] at f3 v3
  by_cases n:a<0
  ·have q:=sg.1 n
   rw[decide_eq_true n,if_pos rfl] at f3 v3
   cases b with
   |false=>
    refine⟨0,0,false,rfl,⟨by omega,by omega,by omega,by omega⟩,?_,(λh=>by cases h),(λ_=>⟨rfl,rfl⟩)⟩
    rw[f3];omega
   |true=>
    refine⟨h',l',true,rfl,o3,?_,(λ_=> ?_),(λh=>by cases h)⟩
    ·rw[f3];omega
    ·rw[v3 rfl];omega
  ·have q:=sg.2 n
   rw[decide_eq_false n,if_neg (by decide)] at f3 v3
   cases b with
   |false=>
    refine⟨0,0,false,rfl,⟨by omega,by omega,by omega,by omega⟩,?_,(λh=>by cases h),(λ_=>⟨rfl,rfl⟩)⟩
    rw[f3];omega
   |true=>
    refine⟨h',l',true,rfl,o3,?_,(λ_=> ?_),(λh=>by cases h)⟩
    ·rw[f3];omega
    ·rw[v3 rfl];omega
 have shr:∃x y,gX u v (Int.ofNat s)=some (x,y)∧0<=x∧0<=y∧y<18446744073709551616∧x*18446744073709551616+y=(u*18446744073709551616+v)/2^s:=by
  rcases Nat.lt_or_ge s 127 with c|c
  ·exact as0 u v s (by omega) u0 u1 v0 v1
  ·obtain rfl:s=127:=by omega
   refine⟨0,u/9223372036854775808,?_,by omega,by omega,by omega,?_⟩
   ·simp only[gX,G9,Pg.bP,Pg.bJ,Pg.cm,Pg.eG,Pg.dL]
    try delta wI wU
    have k1:decide (Int.ofNat 127>=64)=true:=by decide
    have k2:(!decide (IntKind.wrap .i64 (Int.ofNat 127-64)<0))=true:=by decide
    have k3:(2:Int)^min (Int.toNat (IntKind.wrap .i64 (Int.ofNat 127-64))) 64=9223372036854775808:=by decide
    simp only[k1,k2,k3,cond_true]
    rw[o7 _ _ (by omega)]
   ·have k:(2:Int)^127=170141183460469231731687303715884105728:=by decide
    rw[k];omega
 obtain⟨x,y,e3,x0,y0,y1,e4⟩:=shr
 rw[e3,Option.bind_some]
 simp only
 rw[e2] at e4
 by_cases lt:d*2^s<340282366920938463463374607431768211456
 ·rw[Int.emod_eq_of_lt D0 lt,Int.mul_ediv_cancel _ (by omega)] at e4
  have xe:(x==0)=true:=by rw[beq_iff_eq];omega
  have ye:(y==d)=true:=by rw[beq_iff_eq];omega
  rw[xe,ye]
  exact fin lt
 ·have small:d*2^s%340282366920938463463374607431768211456/2^s<d:=by
   refine Int.ediv_lt_of_lt_mul P0 ?_
   have:d*2^s%340282366920938463463374607431768211456<340282366920938463463374607431768211456:=Int.emod_lt_of_pos _ (by omega)
   omega
  have ne:(x==0&&(y==d&&true))=false:=by
   rw[Bool.and_true]
   by_cases xz:x=0
   ·have:(y==d)=false:=by rw[beq_eq_false_iff_ne];omega
    rw[this,Bool.and_false]
   ·have:(x==0)=false:=by rw[beq_eq_false_iff_ne];omega
    rw[this,Bool.false_and]
  rw[ne]
  exact⟨0,0,false,rfl,⟨by omega,by omega,by omega,by omega⟩,aXc rfl lt,(λh=>by cases h),(λ_=>⟨rfl,rfl⟩)⟩
end Go.Proofs.YtldgljclcgaibaaGreat
namespace Go.Proofs.YtldgljclcgaibaaGreat
open Go.Ab
theorem OU (x:Int)(h0:1<=x)(h1:x<256):∃n:Nat,1<=n∧n<=8∧(2:Int)^(n-1)<=x∧x<2^n∧aX (IntKind.wrap .u8 x) 256=true∧IntKind.wrap .i64 (Cz (ByteArray.mk (List.toArray (List.append (List.append [0,1,2,2,3,3,3,3,4,4,4,4,4,4,4,4,5,5,5,5,5,5,5,5,5,5,5,5,5,5,5,5,6,6,6,6,6,6,6,6,6,6,6,6,6,6,6,6,6,6,6,6,6,6,6,6,6,6,6,6,6,6,6,6] [7,7,7,7,7,7,7,7,7,7,7,7,7,7,7,7,7,7,7,7,7,7,7,7,7,7,7,7,7,7,7,7,7,7,7,7,7,7,7,7,7,7,7,7,7,7,7,7,7,7,7,7,7,7,7,7,7,7,7,7,7,7,7,7]) (List.append [8,8,8,8,8,8,8,8,8,8,8,8,8,8,8,8,8,8,8,8,8,8,8,8,8,8,8,8,8,8,8,8,8,8,8,8,8,8,8,8,8,8,8,8,8,8,8,8,8,8,8,8,8,8,8,8,8,8,8,8,8,8,8,8] [8,8,8,8,8,8,8,8,8,8,8,8,8,8,8,8,8,8,8,8,8,8,8,8,8,8,8,8,8,8,8,8,8,8,8,8,8,8,8,8,8,8,8,8,8,8,8,8,8,8,8,8,8,8,8,8,8,8,8,8,8,8,8,8])))) (Int.toNat (IntKind.wrap IntKind.u8 x)))=(n:Int):=by
 obtain⟨a,rfl⟩:∃a:Nat,x=(a:Int):=⟨x.toNat,by omega⟩
 have t:∀a:Fin 256,1<=a.val->(aX (IntKind.wrap .u8 (a.val:Int)) 256=true∧IntKind.wrap .i64 (Cz (ByteArray.mk (List.toArray (List.append (List.append [0,1,2,2,3,3,3,3,4,4,4,4,4,4,4,4,5,5,5,5,5,5,5,5,5,5,5,5,5,5,5,5,6,6,6,6,6,6,6,6,6,6,6,6,6,6,6,6,6,6,6,6,6,6,6,6,6,6,6,6,6,6,6,6] [7,7,7,7,7,7,7,7,7,7,7,7,7,7,7,7,7,7,7,7,7,7,7,7,7,7,7,7,7,7,7,7,7,7,7,7,7,7,7,7,7,7,7,7,7,7,7,7,7,7,7,7,7,7,7,7,7,7,7,7,7,7,7,7]) (List.append [8,8,8,8,8,8,8,8,8,8,8,8,8,8,8,8,8,8,8,8,8,8,8,8,8,8,8,8,8,8,8,8,8,8,8,8,8,8,8,8,8,8,8,8,8,8,8,8,8,8,8,8,8,8,8,8,8,8,8,8,8,8,8,8] [8,8,8,8,8,8,8,8,8,8,8,8,8,8,8,8,8,8,8,8,8,8,8,8,8,8,8,8,8,8,8,8,8,8,8,8,8,8,8,8,8,8,8,8,8,8,8,8,8,8,8,8,8,8,8,8,8,8,8,8,8,8,8,8])))) (Int.toNat (IntKind.wrap IntKind.u8 (a.val:Int))))=((Nat.log2 a.val+1:Nat):Int)):=by decide+kernel
 have ha:1<=a:=by omega
 have aYF:a<256:=by omega
 have l1:=Nat.log2_self_le (n:=a) (by omega)
 have l2:a<2^(a.log2+1):=Nat.lt_log2_self
 have lb:a.log2<8:=by
  rcases Nat.lt_or_ge a.log2 8 with c|c
  ·exact c
  ·have:2^8<=2^a.log2:=Nat.pow_le_pow_right (by decide) c
   omega
 have k:=t ⟨a,aYF⟩ ha
 refine⟨a.log2+1,by omega,by omega,?_,?_,k.1,k.2⟩
 ·rw[Nat.add_sub_cancel]
  have:((2^a.log2:Nat):Int)=(2:Int)^a.log2:=by simp
  omega
 ·have:((2^(a.log2+1):Nat):Int)=(2:Int)^(a.log2+1):=by simp
  omega
theorem pow_add' (a b:Nat):(2:Int)^(a+b)=2^a*2^b:=Int.pow_add _ _ _
theorem Du (x:Int)(b n:Nat)(hn:1<=n)(h0:(2:Int)^(n-1)<=x/2^b)(h1:x/2^b<2^n):(2:Int)^(n+b-1)<=x∧x<2^(n+b):=by
 have B0:=kQ b
 have e1:(2:Int)^(n+b-1)=2^(n-1)*2^b:=by rw[<-pow_add'];congr 1;omega
 have e2:(2:Int)^(n+b)=2^n*2^b:=pow_add' _ _
 rw[e1,e2]
 exact⟨Int.mul_le_of_le_ediv B0 h0,Int.lt_mul_of_ediv_lt B0 h1⟩
theorem aVh (x:Int)(h0:1<=x)(h1:x<18446744073709551616):∃n:Nat,1<=n∧n<=64∧(2:Int)^(n-1)<=x∧x<2^n∧Gm x=some (n:Int):=by
 have f1:∀a:Int,Int.fdiv a 256=a/256:=λa=>o7 _ _ (by omega)
 have f2:∀a:Int,Int.fdiv a 65536=a/65536:=λa=>o7 _ _ (by omega)
 have f3:∀a:Int,Int.fdiv a 4294967296=a/4294967296:=λa=>o7 _ _ (by omega)
 simp only[Gm,Zk,Pg.bP,Pg.bJ,Pg.cm,Pg.eG,Pg.dL,f1,f2,f3]
 try delta wI wU
 by_cases c:x>=4294967296
 ·by_cases d:x/4294967296>=65536
  ·by_cases e:x/4294967296/65536>=256
   ·have q:x/4294967296/65536/256=x/2^56:=by rw[show(2:Int)^56=72057594037927936 from rfl]<;>omega
    obtain⟨n,n1,n2,b0,b1,t1,t2⟩:=OU (x/4294967296/65536/256) (by omega) (by omega)
    rw[q] at b0 b1
    obtain⟨c0,c1⟩:=Du x 56 n n1 b0 b1
    refine⟨n+56,by omega,by omega,c0,c1,?_⟩
    rw[decide_eq_true c,cond_true,decide_eq_true d,cond_true,decide_eq_true e,cond_true,t1,cond_true,t2,wrap_i64 (n:=56+(n:Int)) (by omega) (by omega)]
    exact congrArg (some:Int->Option Int) (by omega)
   ·have q:x/4294967296/65536=x/2^48:=by rw[show(2:Int)^48=281474976710656 from rfl]<;>omega
    obtain⟨n,n1,n2,b0,b1,t1,t2⟩:=OU (x/4294967296/65536) (by omega) (by omega)
    rw[q] at b0 b1
    obtain⟨c0,c1⟩:=Du x 48 n n1 b0 b1
    refine⟨n+48,by omega,by omega,c0,c1,?_⟩
    rw[decide_eq_true c,cond_true,decide_eq_true d,cond_true,decide_eq_false e,cond_false,t1,cond_true,t2,wrap_i64 (n:=48+(n:Int)) (by omega) (by omega)]
    exact congrArg (some:Int->Option Int) (by omega)
  ·by_cases e:x/4294967296>=256
   ·have q:x/4294967296/256=x/2^40:=by rw[show(2:Int)^40=1099511627776 from rfl]<;>omega
    obtain⟨n,n1,n2,b0,b1,t1,t2⟩:=OU (x/4294967296/256) (by omega) (by omega)
    rw[q] at b0 b1
    obtain⟨c0,c1⟩:=Du x 40 n n1 b0 b1
    refine⟨n+40,by omega,by omega,c0,c1,?_⟩
    rw[decide_eq_true c,cond_true,decide_eq_false d,cond_false,decide_eq_true e,cond_true,t1,cond_true,t2,wrap_i64 (n:=40+(n:Int)) (by omega) (by omega)]
    exact congrArg (some:Int->Option Int) (by omega)
   ·have q:x/4294967296=x/2^32:=by rw[show(2:Int)^32=4294967296 from rfl]<;>omega
    obtain⟨n,n1,n2,b0,b1,t1,t2⟩:=OU (x/4294967296) (by omega) (by omega)
    rw[q] at b0 b1
    obtain⟨c0,c1⟩:=Du x 32 n n1 b0 b1
    refine⟨n+32,by omega,by omega,c0,c1,?_⟩
    rw[decide_eq_true c,cond_true,decide_eq_false d,cond_false,decide_eq_false e,cond_false,t1,cond_true,t2,wrap_i64 (n:=32+(n:Int)) (by omega) (by omega)]
    exact congrArg (some:Int->Option Int) (by omega)
 ·by_cases d:x>=65536
  ·by_cases e:x/65536>=256
   ·have q:x/65536/256=x/2^24:=by rw[show(2:Int)^24=16777216 from rfl]<;>omega
    obtain⟨n,n1,n2,b0,b1,t1,t2⟩:=OU (x/65536/256) (by omega) (by omega)
    rw[q] at b0 b1
    obtain⟨c0,c1⟩:=Du x 24 n n1 b0 b1
    refine⟨n+24,by omega,by omega,c0,c1,?_⟩
    rw[decide_eq_false c,cond_false,decide_eq_true d,cond_true,decide_eq_true e,cond_true,t1,cond_true,t2,wrap_i64 (n:=24+(n:Int)) (by omega) (by omega)]
    exact congrArg (some:Int->Option Int) (by omega)
   ·have q:x/65536=x/2^16:=by rw[show(2:Int)^16=65536 from rfl]<;>omega
    obtain⟨n,n1,n2,b0,b1,t1,t2⟩:=OU (x/65536) (by omega) (by omega)
    rw[q] at b0 b1
    obtain⟨c0,c1⟩:=Du x 16 n n1 b0 b1
    refine⟨n+16,by omega,by omega,c0,c1,?_⟩
    rw[decide_eq_false c,cond_false,decide_eq_true d,cond_true,decide_eq_false e,cond_false,t1,cond_true,t2,wrap_i64 (n:=16+(n:Int)) (by omega) (by omega)]
    exact congrArg (some:Int->Option Int) (by omega)
  ·by_cases e:x>=256
   ·have q:x/256=x/2^8:=by rw[show(2:Int)^8=256 from rfl]<;>omega
    obtain⟨n,n1,n2,b0,b1,t1,t2⟩:=OU (x/256) (by omega) (by omega)
    rw[q] at b0 b1
    obtain⟨c0,c1⟩:=Du x 8 n n1 b0 b1
    refine⟨n+8,by omega,by omega,c0,c1,?_⟩
    rw[decide_eq_false c,cond_false,decide_eq_false d,cond_false,decide_eq_true e,cond_true,t1,cond_true,t2,wrap_i64 (n:=8+(n:Int)) (by omega) (by omega)]
    exact congrArg (some:Int->Option Int) (by omega)
   ·have q:x=x/2^0:=by rw[show(2:Int)^0=1 from rfl]<;>omega
    obtain⟨n,n1,n2,b0,b1,t1,t2⟩:=OU (x) (by omega) (by omega)
    rw[q] at b0 b1
    obtain⟨c0,c1⟩:=Du x 0 n n1 b0 b1
    refine⟨n+0,by omega,by omega,c0,c1,?_⟩
    rw[decide_eq_false c,cond_false,decide_eq_false d,cond_false,decide_eq_false e,cond_false,t1,cond_true,t2,wrap_i64 (n:=0+(n:Int)) (by omega) (by omega)]
    exact congrArg (some:Int->Option Int) (by omega)
theorem aT4 (x:Int)(h0:1<=x)(h1:x<18446744073709551616):∃s:Nat,s<=63∧9223372036854775808<=x*2^s∧x*2^s<18446744073709551616∧nD x=some (s:Int):=by
 obtain⟨n,n1,n2,b0,b1,e⟩:=aVh x h0 h1
 refine⟨64-n,by omega,?_,?_,?_⟩
 ·have p:(9223372036854775808:Int)=2^(n-1)*2^(64-n):=by
   rw[<-pow_add',show n-1+(64-n)=63 by omega];rfl
  rw[p]
  exact Int.mul_le_mul_of_nonneg_right b0 (Int.le_of_lt (kQ _))
 ·have p:(18446744073709551616:Int)=2^n*2^(64-n):=by
   rw[<-pow_add',show n+(64-n)=64 by omega];rfl
  rw[p]
  exact Int.mul_lt_mul_of_pos_right b1 (kQ _)
 ·simp only[nD,zQ,Pg.bP,Pg.bJ,Pg.cm,Pg.eG,Pg.dL]
  try delta wI wU
  rw[e,Option.bind_some,wrap_i64 (by omega) (by omega)]
  exact congrArg (some:Int->Option Int) (by omega)
structure Dig (Y gu wy U u:Int):Prop where
 y:Y=gu*4294967296+wy
 a:2147483648<=gu∧gu<4294967296
 b:0<=wy∧wy<4294967296
 u0:0<=U∧U<Y
 d:0<=u∧u<4294967296
theorem Dig.lt {Y gu wy U u:Int}(h:Dig Y gu wy U u):0<=(U*4294967296+u)/Y∧(U*4294967296+u)/Y<4294967296:=by
 obtain⟨y,a,b,u0,d⟩:=h
 constructor
 ·exact Int.ediv_nonneg (by omega) (by omega)
 ·refine Int.ediv_lt_of_lt_mul (by omega) ?_
  omega
theorem Dig.down {Y gu wy U u q rh:Int}(h:Dig Y gu wy U u)(e:q*gu+rh=U)(c:4294967296*rh+u<q*wy):(U*4294967296+u)/Y<=q-1:=by
 obtain⟨y,a,b,u0,d⟩:=h
 have:(U*4294967296+u)/Y<q:=by
  refine Int.ediv_lt_of_lt_mul (by omega) ?_
  have e2:q*Y=(q*gu)*4294967296+q*wy:=by rw[y];grind
  omega
 omega
theorem Dig.stay {Y gu wy U u q rh:Int}(h:Dig Y gu wy U u)(e:q*gu+rh=U)(c:q*wy<=4294967296*rh+u)(l:(U*4294967296+u)/Y<=q):q=(U*4294967296+u)/Y:=by
 obtain⟨y,a,b,u0,d⟩:=h
 have:q<=(U*4294967296+u)/Y:=by
  refine(Int.le_ediv_iff_mul_le (by omega)).2 ?_
  have e2:q*Y=(q*gu)*4294967296+q*wy:=by rw[y];grind
  omega
 omega
theorem Dig.out {Y gu wy U u q rh:Int}(h:Dig Y gu wy U u)(e:q*gu+rh=U)(q0:0<=q)(c:4294967296<=rh)(l:(U*4294967296+u)/Y<=q):q=(U*4294967296+u)/Y:=by
 have h':=h
 obtain⟨y,a,b,u0,d⟩:=h
 refine h'.stay e ?_ l
 have q1:q<=4294967295:=by
  rcases Int.lt_or_le q 4294967296 with k|k
  ·omega
  ·exfalso
   have:=Int.mul_le_mul_of_nonneg_right k (show 0<=gu by omega)
   omega
 have:=Int.mul_le_mul q1 (show wy<=4294967295 by omega) b.1 (by omega)
 omega
theorem aVi {ρ:Type}(Y s gu wy U u u0:Int)(h:Dig Y gu wy U u)(k:_->Option ρ)(r:Option ρ)
  (h1:∀rh a b c d,k (Sum.inl (Y,s,gu,wy,U,u,u0,(U*4294967296+u)/Y,rh,a,b,c,d))=r)
  (h2:∀rh a b c d e f g i,k (Sum.inr (Sum.inl (Y,s,gu,wy,U,u,u0,(U*4294967296+u)/Y,rh,a,b,c,d,e,f,g,i)))=r)
  (h3:∀rh a b c d e,k (Sum.inr (Sum.inr (Y,s,gu,wy,U,u,u0,(U*4294967296+u)/Y,rh,a,b,c,d,e)))=r):
  (Hc (Y,s,gu,wy,U,u,u0,U/gu,U%gu)).bind k=r:=by
 have h':=h
 obtain⟨y,a,b,hu,d⟩:=h
 have lt:=h'.lt
 have qm:=Int.mul_ediv_add_emod U gu
 have m0:=Int.emod_nonneg U (show gu≠0 by omega)
 have m1:=Int.emod_lt_of_pos U (show 0<gu by omega)
 have qn:=Int.ediv_nonneg hu.1 (show 0<=gu by omega)
 have start:(U*4294967296+u)/Y<=U/gu:=by
  have e2:(U*4294967296+u)/Y<U/gu+1:=by
   refine Int.ediv_lt_of_lt_mul (by omega) ?_
   have e3:(U/gu+1)*Y=(gu*(U/gu))*4294967296+gu*4294967296+(U/gu+1)*wy:=by rw[y];grind
   have:=Int.mul_nonneg (show 0<=U/gu+1 by omega) b.1
   omega
  omega
 unfold Hc
 refine MO (λt x=>∃(q rh:Int),0<=q∧q*gu+rh=U∧(U*4294967296+u)/Y<=q∧(2-(t:Int))*2147483648<=rh∧0<=rh∧rh<4294967296∧x=(Y,s,gu,wy,U,u,u0,q,rh)) ?_ 2000 2 _ (by omega)
  ⟨U/gu,U%gu,qn,by rw[Int.mul_comm];exact qm,start,by omega,m0,by omega,rfl⟩
 rintro t _ c ⟨q,rh,q0,e,l,tb,r0,r1,rfl⟩ hc
 have down:(U*4294967296+u)/Y<=q-1->0<=q-1->(q-1)*gu+(rh+gu)=U:=λ_ _=>by
  have:(q-1)*gu=q*gu-gu:=by grind
  omega
 have qb:q<=4294967298:=by
  rcases Int.lt_or_le q 4294967298 with k|k
  ·omega
  ·exfalso
   have:=Int.mul_le_mul_of_nonneg_right k (show 0<=gu by omega)
   omega
 have w1:IntKind.wrap .u64 (rh+gu)=rh+gu:=by rw[wrap_u64];omega
 by_cases c1:q>=4294967296
 ·have d1:(U*4294967296+u)/Y<=q-1:=by omega
  have w2:IntKind.wrap .u64 (q-1)=q-1:=by rw[wrap_u64];omega
  have e2:=down d1 (by omega)
  simp only[Hb,Pg.tP,Pg.tQ,Pg.yw,Pg.Et,Pg.tT,Sum.elim_inl,Sum.elim_inr,wU,decide_eq_true c1,cond_true,w1,w2]
  by_cases c2:rh+gu>=4294967296
  ·rw[decide_eq_true c2,cond_true,h'.out e2 (by omega) c2 d1]
   exact h1 _ _ _ _ _
  ·rw[decide_eq_false c2,cond_false]
   have t1:1<=t:=by omega
   exact hc (t-1) _ (by omega) ⟨q-1,rh+gu,by omega,e2,d1,by omega,by omega,by omega,rfl⟩
 ·have pm:0<=q*wy∧q*wy<18446744073709551616:=by
   refine⟨Int.mul_nonneg q0 b.1,?_⟩
   have:=Int.mul_le_mul (show q<=4294967295 by omega) (show wy<=4294967295 by omega) b.1 (by omega)
   omega
  have w3:IntKind.wrap .u64 (q*wy)=q*wy:=by rw[wrap_u64];omega
  have w4:IntKind.wrap .u64 (4294967296*rh)=4294967296*rh:=by rw[wrap_u64];omega
  have w5:IntKind.wrap .u64 (4294967296*rh+u)=4294967296*rh+u:=by rw[wrap_u64];omega
  simp only[Hb,Pg.tP,Pg.tQ,Pg.yw,Pg.Et,Pg.tT,Sum.elim_inl,Sum.elim_inr,wU,decide_eq_false c1,cond_false,w1,w3,w4,w5]
  by_cases c3:q*wy>4294967296*rh+u
  ·have d1:=h'.down e c3
   have qp:1<=q:=by
    rcases Int.lt_or_le 0 q with k|k
    ·omega
    ·exfalso
     have:q=0:=by omega
     subst this
     omega
   have w2:IntKind.wrap .u64 (q-1)=q-1:=by rw[wrap_u64];omega
   have e2:=down d1 (by omega)
   rw[decide_eq_true c3,cond_true,w2]
   by_cases c2:rh+gu>=4294967296
   ·rw[decide_eq_true c2,cond_true,h'.out e2 (by omega) c2 d1]
    exact h2 _ _ _ _ _ _ _ _ _
   ·rw[decide_eq_false c2,cond_false]
    exact hc (t-1) _ (by omega) ⟨q-1,rh+gu,by omega,e2,d1,by omega,by omega,by omega,rfl⟩
  ·rw[decide_eq_false c3,cond_false,h'.stay e (by omega) l]
   exact h3 _ _ _ _ _ _
theorem aVj {ρ:Type}(Y s gu wy U u q1:Int)(h:Dig Y gu wy U u)(k:_->Option ρ)(r:Option ρ)
  (h1:∀rh a b c d,k (Sum.inl (Y,s,gu,wy,u,q1,rh,U,(U*4294967296+u)/Y,a,b,c,d))=r)
  (h2:∀rh a b c d e f g i,k (Sum.inr (Sum.inl (Y,s,gu,wy,u,q1,rh,U,(U*4294967296+u)/Y,a,b,c,d,e,f,g,i)))=r)
  (h3:∀rh a b c d e,k (Sum.inr (Sum.inr (Y,s,gu,wy,u,q1,rh,U,(U*4294967296+u)/Y,a,b,c,d,e)))=r):
  (Hg (Y,s,gu,wy,u,q1,U%gu,U,U/gu)).bind k=r:=by
 have h':=h
 obtain⟨y,a,b,hu,d⟩:=h
 have lt:=h'.lt
 have qm:=Int.mul_ediv_add_emod U gu
 have m0:=Int.emod_nonneg U (show gu≠0 by omega)
 have m1:=Int.emod_lt_of_pos U (show 0<gu by omega)
 have qn:=Int.ediv_nonneg hu.1 (show 0<=gu by omega)
 have start:(U*4294967296+u)/Y<=U/gu:=by
  have e2:(U*4294967296+u)/Y<U/gu+1:=by
   refine Int.ediv_lt_of_lt_mul (by omega) ?_
   have e3:(U/gu+1)*Y=(gu*(U/gu))*4294967296+gu*4294967296+(U/gu+1)*wy:=by rw[y];grind
   have:=Int.mul_nonneg (show 0<=U/gu+1 by omega) b.1
   omega
  omega
 unfold Hg
 refine MO (λt x=>∃(q rh:Int),0<=q∧q*gu+rh=U∧(U*4294967296+u)/Y<=q∧(2-(t:Int))*2147483648<=rh∧0<=rh∧rh<4294967296∧x=(Y,s,gu,wy,u,q1,rh,U,q)) ?_ 2000 2 _ (by omega)
  ⟨U/gu,U%gu,qn,by rw[Int.mul_comm];exact qm,start,by omega,m0,by omega,rfl⟩
 rintro t _ c ⟨q,rh,q0,e,l,tb,r0,r1,rfl⟩ hc
 have down:(U*4294967296+u)/Y<=q-1->0<=q-1->(q-1)*gu+(rh+gu)=U:=λ_ _=>by
  have:(q-1)*gu=q*gu-gu:=by grind
  omega
 have qb:q<=4294967298:=by
  rcases Int.lt_or_le q 4294967298 with k|k
  ·omega
  ·exfalso
   have:=Int.mul_le_mul_of_nonneg_right k (show 0<=gu by omega)
   omega
 have w1:IntKind.wrap .u64 (rh+gu)=rh+gu:=by rw[wrap_u64];omega
 by_cases c1:q>=4294967296
 ·have d1:(U*4294967296+u)/Y<=q-1:=by omega
  have w2:IntKind.wrap .u64 (q-1)=q-1:=by rw[wrap_u64];omega
  have e2:=down d1 (by omega)
  simp only[Hf,Pg.tP,Pg.tQ,Pg.yw,Pg.Et,Pg.tT,Sum.elim_inl,Sum.elim_inr,wU,decide_eq_true c1,cond_true,w1,w2]
  by_cases c2:rh+gu>=4294967296
  ·rw[decide_eq_true c2,cond_true,h'.out e2 (by omega) c2 d1]
   exact h1 _ _ _ _ _
  ·rw[decide_eq_false c2,cond_false]
   have t1:1<=t:=by omega
   exact hc (t-1) _ (by omega) ⟨q-1,rh+gu,by omega,e2,d1,by omega,by omega,by omega,rfl⟩
 ·have pm:0<=q*wy∧q*wy<18446744073709551616:=by
   refine⟨Int.mul_nonneg q0 b.1,?_⟩
   have:=Int.mul_le_mul (show q<=4294967295 by omega) (show wy<=4294967295 by omega) b.1 (by omega)
   omega
  have w3:IntKind.wrap .u64 (q*wy)=q*wy:=by rw[wrap_u64];omega
  have w4:IntKind.wrap .u64 (4294967296*rh)=4294967296*rh:=by rw[wrap_u64];omega
  have w5:IntKind.wrap .u64 (4294967296*rh+u)=4294967296*rh+u:=by rw[wrap_u64];omega
  simp only[Hf,Pg.tP,Pg.tQ,Pg.yw,Pg.Et,Pg.tT,Sum.elim_inl,Sum.elim_inr,wU,decide_eq_false c1,cond_false,w1,w3,w4,w5]
  by_cases c3:q*wy>4294967296*rh+u
  ·have d1:=h'.down e c3
   have qp:1<=q:=by
    rcases Int.lt_or_le 0 q with k|k
    ·omega
    ·exfalso
     have:q=0:=by omega
     subst this
     omega
   have w2:IntKind.wrap .u64 (q-1)=q-1:=by rw[wrap_u64];omega
   have e2:=down d1 (by omega)
   rw[decide_eq_true c3,cond_true,w2]
   by_cases c2:rh+gu>=4294967296
   ·rw[decide_eq_true c2,cond_true,h'.out e2 (by omega) c2 d1]
    exact h2 _ _ _ _ _ _ _ _ _
   ·rw[decide_eq_false c2,cond_false]
    exact hc (t-1) _ (by omega) ⟨q-1,rh+gu,by omega,e2,d1,by omega,by omega,by omega,rfl⟩
  ·rw[decide_eq_false c3,cond_false,h'.stay e (by omega) l]
   exact h3 _ _ _ _ _ _
theorem aP8 (hi lo y:Int)(h0:0<=hi)(h1:hi<y)(h2:y<18446744073709551616)(l0:0<=lo)(l1:lo<18446744073709551616):
  Gn hi lo y=some ((hi*18446744073709551616+lo)/y,(hi*18446744073709551616+lo)%y):=by
 simp only[Gn,Zl,Pg.bP,Pg.bJ,Pg.cm,Pg.eG,Pg.dL]
 try delta wI wU
 have y0:(y==0)=false:=by rw[beq_eq_false_iff_ne];omega
 rw[y0,cond_false,decide_eq_false (show ¬y<=hi by omega),cond_false]
 by_cases hz:hi=0
 ·subst hz
  have z:((0:Int)==0)=true:=rfl
  have yn:(!decide (y=0))=true:=by rw[decide_eq_false (by omega)];rfl
  rw[z,cond_true,yn,cond_true,cond_true,Int.zero_mul,Int.zero_add,Int.tdiv_eq_ediv_of_nonneg l0,Int.tmod_eq_emod_of_nonneg l0]
  have d0:=Int.ediv_nonneg l0 (show 0<=y by omega)
  have d1:=Int.ediv_le_self y l0
  have w:IntKind.wrap .u64 (lo/y)=lo/y:=by rw[wrap_u64];omega
  rw[w]
 have z:(hi==0)=false:=by rw[beq_eq_false_iff_ne];exact hz
 rw[z,cond_false]
 obtain⟨s,s63,b0,b1,e⟩:=aT4 y (by omega) h2
 rw[e,Option.bind_some]
 have P0:=kQ s
 have Q0:=kQ (64-s)
 have k1:IntKind.wrap .u64 (s:Int)=(s:Int):=by rw[wrap_u64];omega
 have k2:IntKind.wrap .u64 (64-(s:Int))=((64-s:Nat):Int):=by rw[wrap_u64];omega
 have k3:∀n:Nat,(!decide ((n:Int)<0))=true:=λn=>by rw[decide_eq_false (by omega)];rfl
 have k4:min (Int.toNat (s:Int)) 64=s:=by rw[Int.toNat_natCast];omega
 have k5:min (Int.toNat ((64-s:Nat):Int)) 64=64-s:=by rw[Int.toNat_natCast];omega
 have k6:IntKind.wrap .u64 (y*2^s)=y*2^s:=by rw[wrap_u64];omega
 simp only[k1,k2,k3,k4,k5,k6,cond_true]
 have pq:(18446744073709551616:Int)=2^s*2^(64-s):=by
  rw[<-pow_add',show s+(64-s)=64 by omega];rfl
 have ab:hi*2^s+2^s<=y*2^s:=by
  have:=Int.mul_le_mul_of_nonneg_right (show hi+1<=y by omega) (Int.le_of_lt P0)
  rw[Int.add_mul] at this;omega
 have a0:0<=hi*2^s:=Int.mul_nonneg h0 (Int.le_of_lt P0)
 have x0:0<=lo/2^(64-s):=Int.ediv_nonneg l0 (Int.le_of_lt Q0)
 have x1:lo/2^(64-s)<2^s:=Int.ediv_lt_of_lt_mul Q0 (by rw[<-pq];exact l1)
 have k7:IntKind.wrap .u64 (hi*2^s)=hi*2^s:=by rw[wrap_u64];omega
 have or1:Int.ofNat (BitVec.toNat (BitVec.ofInt 64 (hi*2^s)|||BitVec.ofInt 64 (Int.fdiv lo (2^(64-s)))))=hi*2^s+lo/2^(64-s):=by
  rw[o7 _ _ (Int.le_of_lt Q0),BitVec.or_comm,avD _ _ s x0 x1 a0 (by omega) (by omega) (Int.mul_emod_left _ _)]
  omega
 have k8:IntKind.wrap .u64 (hi*2^s+lo/2^(64-s))=hi*2^s+lo/2^(64-s):=by rw[wrap_u64];omega
 simp only[k7,or1,k8]
 rw[wrap_u64 (lo*2^s)]
 have c0:0<=lo*2^s%18446744073709551616∧lo*2^s%18446744073709551616<18446744073709551616:=by omega
 have N:(hi*2^s+lo/2^(64-s))*18446744073709551616+lo*2^s%18446744073709551616=(hi*18446744073709551616+lo)*2^s:=by
  have m1:lo*2^s/18446744073709551616=lo/2^(64-s):=by
   rw[pq,Int.mul_comm lo,Int.mul_ediv_mul_of_pos _ _ P0]
  have m2:lo*2^s=lo*2^s/18446744073709551616*18446744073709551616+lo*2^s%18446744073709551616:=by omega
  have m3:(hi*18446744073709551616+lo)*2^s=hi*2^s*18446744073709551616+lo*2^s:=by grind
  rw[m3,<-m1];omega
 have U1:0<=hi*2^s+lo/2^(64-s)∧hi*2^s+lo/2^(64-s)<y*2^s:=by omega
 have am1:∀x:Int,0<=x->x<18446744073709551616->IntKind.wrap .u64 (Int.ofNat (BitVec.toNat (BitVec.ofInt 64 x&&&BitVec.ofInt 64 4294967295)))=x%4294967296:=λx x0 x1=>by
  rw[ame x x0 x1,wrap_u64];omega
 rw[am1 (y*2^s) (by omega) b1,am1 _ c0.1 c0.2]
 simp only[o7 _ 4294967296 (show(0:Int)<=4294967296 by decide)]
 have A1:(hi*18446744073709551616+lo)/y=(hi*18446744073709551616+lo)*2^s/(y*2^s):=by
  rw[Int.mul_comm _ (2^s),Int.mul_comm y,Int.mul_ediv_mul_of_pos _ _ P0]
 have A2:(hi*18446744073709551616+lo)%y=(hi*18446744073709551616+lo)*2^s%(y*2^s)/2^s:=by
  rw[Int.mul_comm _ (2^s),Int.mul_comm y,Int.mul_emod_mul_of_pos _ _ P0,Int.mul_ediv_cancel_left _ (by omega)]
 rw[A1,A2,<-N]
 generalize hi*2^s+lo/2^(64-s)=U at*
 generalize lo*2^s%18446744073709551616=L at*
 generalize hY:y*2^s=Y at*
 generalize h2s:(2:Int)^s=P at*
 clear N A1 A2 or1 k7 k8 x0 x1 ab a0 pq k6 e
 have hY1:2147483648<=Y/4294967296∧Y/4294967296<4294967296:=by omega
 have g1:Dig Y (Y/4294967296) (Y%4294967296) U (L/4294967296):=⟨by omega,hY1,by omega,U1,by omega⟩
 have yz:(!decide (Y/4294967296=0))=true:=by rw[decide_eq_false (by omega)];rfl
 have Q1:=g1.lt
 have R1:=Int.mul_ediv_add_emod (U*4294967296+L/4294967296) Y
 have R1a:=Int.emod_nonneg (U*4294967296+L/4294967296) (show Y≠0 by omega)
 have R1b:=Int.emod_lt_of_pos (U*4294967296+L/4294967296) (show 0<Y by omega)
 have q0:IntKind.wrap .u64 (Int.tdiv U (Y/4294967296))=U/(Y/4294967296):=by
  rw[Int.tdiv_eq_ediv_of_nonneg U1.1,wrap_u64]
  have:=Int.ediv_nonneg U1.1 (show 0<=Y/4294967296 by omega)
  have:=Int.ediv_le_self (Y/4294967296) U1.1
  omega
 have r0:IntKind.wrap .u64 (U-IntKind.wrap .u64 (U/(Y/4294967296)*(Y/4294967296)))=U%(Y/4294967296):=by
  have qm:=Int.ediv_mul_add_emod U (Y/4294967296)
  have m0:=Int.emod_nonneg U (show Y/4294967296≠0 by omega)
  have m1:=Int.emod_lt_of_pos U (show 0<Y/4294967296 by omega)
  rw[wrap_u64,wrap_u64]
  generalize U/(Y/4294967296)*(Y/4294967296)=A at*
  omega
 simp only[yz,cond_true,q0,r0]
 generalize hQ1:(U*4294967296+L/4294967296)/Y=q1 at*
 generalize hR1:(U*4294967296+L/4294967296)%Y=R at*
 have g2:Dig Y (Y/4294967296) (Y%4294967296) R (L%4294967296):=⟨by omega,hY1,by omega,⟨R1a,R1b⟩,by omega⟩
 have Q2:=g2.lt
 have R2:=Int.mul_ediv_add_emod (R*4294967296+L%4294967296) Y
 have R2a:=Int.emod_nonneg (R*4294967296+L%4294967296) (show Y≠0 by omega)
 have R2b:=Int.emod_lt_of_pos (R*4294967296+L%4294967296) (show 0<Y by omega)
 generalize hQ2:(R*4294967296+L%4294967296)/Y=q2 at*
 generalize hR2:(R*4294967296+L%4294967296)%Y=R' at*
 have un:IntKind.wrap .u64 (IntKind.wrap .u64 (IntKind.wrap .u64 (U*4294967296)+L/4294967296)-IntKind.wrap .u64 (q1*Y))=R:=by
  rw[Int.mul_comm q1 Y]
  simp only[wrap_u64]
  generalize Y*q1=A at*
  omega
 have q3:IntKind.wrap .u64 (Int.tdiv R (Y/4294967296))=R/(Y/4294967296):=by
  rw[Int.tdiv_eq_ediv_of_nonneg R1a,wrap_u64]
  have:=Int.ediv_nonneg R1a (show 0<=Y/4294967296 by omega)
  have:=Int.ediv_le_self (Y/4294967296) R1a
  omega
 have r3:IntKind.wrap .u64 (R-IntKind.wrap .u64 (R/(Y/4294967296)*(Y/4294967296)))=R%(Y/4294967296):=by
  have qm:=Int.ediv_mul_add_emod R (Y/4294967296)
  have m0:=Int.emod_nonneg R (show Y/4294967296≠0 by omega)
  have m1:=Int.emod_lt_of_pos R (show 0<Y/4294967296 by omega)
  rw[wrap_u64,wrap_u64]
  generalize R/(Y/4294967296)*(Y/4294967296)=A at*
  omega
 have un2:IntKind.wrap .u64 (IntKind.wrap .u64 (IntKind.wrap .u64 (R*4294967296)+L%4294967296)-IntKind.wrap .u64 (q2*Y))=R':=by
  rw[Int.mul_comm q2 Y]
  simp only[wrap_u64]
  generalize Y*q2=A at*
  omega
 have quo:IntKind.wrap .u64 (IntKind.wrap .u64 (q1*4294967296)+q2)=q1*4294967296+q2:=by
  simp only[wrap_u64];omega
 have ans:(U*18446744073709551616+L)/Y=q1*4294967296+q2∧(U*18446744073709551616+L)%Y=R':=by
  have e:U*18446744073709551616+L=R'+Y*(q1*4294967296+q2):=by
   have e2:Y*(q1*4294967296+q2)=Y*q1*4294967296+Y*q2:=by grind
   rw[e2];omega
  rw[e]
  constructor
  ·rw[Int.add_mul_ediv_left _ _ (by omega),Int.ediv_eq_zero_of_lt R2a R2b,Int.zero_add]
  ·rw[Int.add_mul_emod_self_left,Int.emod_eq_of_lt R2a R2b]
 rw[ans.1,ans.2]
 refine aVi Y s _ _ U _ _ g1 _ _ ?_ ?_ ?_
 all_goals
  intros
  simp only[Sum.elim_inl,Sum.elim_inr,hQ1,yz,cond_true,un,q3,r3]
  refine aVj Y s _ _ R _ _ g2 _ _ ?_ ?_ ?_
  all_goals
   intros
   simp only[Sum.elim_inl,Sum.elim_inr,hQ2,k3,cond_true,un2,quo,k4,h2s]
   rw[o7 _ _ (Int.le_of_lt P0)]
end Go.Proofs.YtldgljclcgaibaaGreat
namespace Go.Proofs.YtldgljclcgaibaaGreat
open Go.Ab
def jS (x:Int):Int:=if x<0 then -x else x
theorem aHC (x:Int):0<=jS x:=by unfold jS;split<;>omega
def qdq (V D:Int):Int:=V/D+(if 2*(V%D)<D then 0 else 1)
def LB (a d:Int):Int:=if (decide (a<0))=(decide (d<0)) then qdq (jS a) (jS d) else -qdq (jS a) (jS d)
theorem aFI (h l d:Int)(o:okW h l)(d0: -9223372036854775808<=d)(d1:d<=9223372036854775807)(nz:d≠0):
  zu h l d=if -9223372036854775808<=LB (vW h l) d∧LB (vW h l) d<=9223372036854775807 then some (LB (vW h l) d,true) else some (0,false):=by
 simp only[zu,aiX,Pg.bP,Pg.bJ,Pg.cm,Pg.eG,Pg.dL]
 try delta wI wU
 have z:(d==0)=false:=by rw[beq_eq_false_iff_ne];exact nz
 obtain⟨ah,al,e1,a0,a1,a2,a3,a4⟩:=aFE h l o
 have e2:=amf d d0 d1
 rw[z,cond_false,e1,Option.bind_some,e2,Option.bind_some]
 simp only
 have D0:0<jS d:=by unfold jS;split<;>omega
 have D1:jS d<=9223372036854775808:=by unfold jS;split<;>omega
 have ed:(if d<0 then -d else d)=jS d:=rfl
 have va:ah*18446744073709551616+al=jS (vW h l):=by
  rw[a4]
  obtain⟨o1,o2,o3,o4⟩:=o
  unfold jS
  simp only[vW]
  split<;>split<;>omega
 have sn:decide (h<0)=decide (vW h l<0):=by
  obtain⟨o1,o2,o3,o4⟩:=o
  simp only[vW]
  by_cases c:h<0
  ·rw[decide_eq_true c,decide_eq_true (by omega)]
  ·rw[decide_eq_false c,decide_eq_false (by omega)]
 rw[ed,sn]
 generalize vW h l=V at*
 have nz2:(!decide (jS d=0))=true:=by rw[decide_eq_false (by omega)];rfl
 have r0:=Int.emod_nonneg ah (show jS d≠0 by omega)
 have r1:=Int.emod_lt_of_pos ah D0
 have q0:=Int.ediv_nonneg a0 (Int.le_of_lt D0)
 have q1:=Int.ediv_le_self (jS d) a0
 have qe:=Int.mul_ediv_add_emod ah (jS d)
 have dv:=aP8 (ah%jS d) al (jS d) r0 r1 (by omega) a2 a3
 rw[nz2,cond_true,cond_true,Int.tmod_eq_emod_of_nonneg a0,dv,Option.bind_some,Int.tdiv_eq_ediv_of_nonneg a0]
 simp only
 have w1:IntKind.wrap .u64 (ah/jS d)=ah/jS d:=by rw[wrap_u64];omega
 have E:jS V=(ah%jS d*18446744073709551616+al)+jS d*(ah/jS d*18446744073709551616):=by
  rw[<-va]
  have:jS d*(ah/jS d*18446744073709551616)=jS d*(ah/jS d)*18446744073709551616:=by grind
  rw[this];omega
 have Q:jS V/jS d=(ah%jS d*18446744073709551616+al)/jS d+ah/jS d*18446744073709551616:=by
  rw[E,Int.add_mul_ediv_left _ _ (by omega)]
 have R:jS V%jS d=(ah%jS d*18446744073709551616+al)%jS d:=by rw[E,Int.add_mul_emod_self_left]
 have n0:0<=(ah%jS d*18446744073709551616+al)/jS d:=Int.ediv_nonneg (by omega) (Int.le_of_lt D0)
 have n1:(ah%jS d*18446744073709551616+al)/jS d<18446744073709551616:=by
  refine Int.ediv_lt_of_lt_mul D0 ?_
  omega
 have t0:=Int.emod_nonneg (ah%jS d*18446744073709551616+al) (show jS d≠0 by omega)
 have t1:=Int.emod_lt_of_pos (ah%jS d*18446744073709551616+al) D0
 rw[<-R] at t0 t1 ⊢
 have w2:IntKind.wrap .u64 (jS d-jS V%jS d)=jS d-jS V%jS d:=by rw[wrap_u64];omega
 rw[w1,w2]
 have sgn:(!decide (V<0)==decide (d<0))= !decide ((decide (V<0))=(decide (d<0))):=by
  cases decide (V<0)<;>cases decide (d<0)<;>rfl
 have qn:0<=qdq (jS V) (jS d):=by
  have:=aHC V
  have:=Int.ediv_nonneg this (Int.le_of_lt D0)
  unfold qdq;split<;>omega
 have fin:∀u v:Int,0<=u->0<=v->v<18446744073709551616->u*18446744073709551616+v=qdq (jS V) (jS d)->
   (Option.bind (hX u v (!decide (V<0)==decide (d<0))) λ(d:Int×Bool)=>some (d.1,d.2))=if -9223372036854775808<=LB V d∧LB V d<=9223372036854775807 then some (LB V d,true) else some (0,false):=by
  intro u v u0 v0 v1 e
  rw[KG u v _ u0 v0 v1,e,sgn]
  unfold LB
  generalize qdq (jS V) (jS d)=q at*
  by_cases s:(decide (V<0))=(decide (d<0))
  ·rw[if_pos s,decide_eq_true s]
   simp only[Bool.not_true,Bool.false_eq_true,if_false]
   by_cases c:q<=9223372036854775807
   ·rw[if_pos c,if_pos (by omega),Option.bind_some]
    have uz:u=0:=by omega
    subst uz
    have:v=q:=by omega
    rw[this]
   ·rw[if_neg c,if_neg (by omega),Option.bind_some]
  ·rw[if_neg s,decide_eq_false s]
   simp only[Bool.not_false,if_true]
   by_cases c:q<=9223372036854775808
   ·rw[if_pos c,if_pos (by omega),Option.bind_some]
    have uz:u=0:=by omega
    subst uz
    have:v=q:=by omega
    rw[this]
   ·rw[if_neg c,if_neg (by omega),Option.bind_some]
 by_cases c:jS V%jS d>=jS d-jS V%jS d
 ·rw[decide_eq_true c,cond_true]
  obtain⟨u,v,e3,u0,u1,v0,v1,e4⟩:=aeT (ah/jS d) ((ah%jS d*18446744073709551616+al)/jS d) 0 1 q0 n0 (by omega) (by omega) n1 (by omega) (by omega)
  rw[e3,Option.bind_some]
  simp only
  refine fin u v u0 v0 v1 ?_
  rw[e4];unfold qdq
  rw[if_neg (by omega),Q];omega
 ·rw[decide_eq_false c,cond_false]
  refine fin _ _ q0 n0 n1 ?_
  unfold qdq
  rw[if_pos (by omega),Q];omega
theorem aP9 (a d:Int)(nz:d≠0):((decide (a<0))=(decide (d<0))->0<=LB a d)∧(¬(decide (a<0))=(decide (d<0))->LB a d<=0):=by
 have D0:0<jS d:=by unfold jS;split<;>omega
 have q:=Int.ediv_nonneg (aHC a) (Int.le_of_lt D0)
 have qn:0<=qdq (jS a) (jS d):=by unfold qdq;split<;>omega
 unfold LB
 constructor
 ·intro h;rw[if_pos h];exact qn
 ·intro h;rw[if_neg h];omega
theorem aOT (h l d:Int)(eQ:Bool)(o:okW h l)(d0: -9223372036854775808<=d)(d1:d<=9223372036854775807)(nz:d≠0):
  vZ h l d eQ=some (sat (LB (vW h l) d),eQ||eV (LB (vW h l) d)):=by
 simp only[vZ,JT,Pg.bP,Pg.bJ,Pg.cm,Pg.eG,Pg.dL]
 try delta wI wU
 have z:(d==0)=false:=by rw[beq_eq_false_iff_ne];exact nz
 have sn:decide (h<0)=decide (vW h l<0):=by
  obtain⟨o1,o2,o3,o4⟩:=o
  simp only[vW]
  by_cases c:h<0
  ·rw[decide_eq_true c,decide_eq_true (by omega)]
  ·rw[decide_eq_false c,decide_eq_false (by omega)]
 rw[z,cond_false,aFI h l d o d0 d1 nz,sn]
 have s:=aP9 (vW h l) d nz
 generalize vW h l=V at*
 by_cases c: -9223372036854775808<=LB V d∧LB V d<=9223372036854775807
 ·rw[if_pos c,Option.bind_some]
  simp only[abI,if_true,Option.bind_some]
 ·rw[if_neg c,Option.bind_some]
  simp only[abI,Bool.false_eq_true,if_false,Option.bind_some]
  by_cases e:(decide (V<0))=(decide (d<0))
  ·have p:=s.1 e
   have e2:(!decide (V<0)==decide (d<0))=false:=by rw[e,beq_self_eq_true];rfl
   rw[e2]
   unfold sat eV
   rw[if_neg (by decide),if_neg (by omega),if_pos (by omega),decide_eq_true (show 1152921504606846976<LB V d by omega),Bool.or_true,Bool.or_true]
  ·have p:=s.2 e
   have e2:(!decide (V<0)==decide (d<0))=true:=by
    have:(decide (V<0)==decide (d<0))=false:=by rw[beq_eq_false_iff_ne];exact e
    rw[this];rfl
   rw[e2]
   unfold sat eV
   rw[if_pos rfl,if_pos (by omega),decide_eq_true (show LB V d< -1152921504606846976 by omega),Bool.true_or,Bool.or_true]
theorem aKs (a b d:Int)(eQ:Bool)(nz:sat d≠0):
  aT a b d eQ=some (sat (LB (sat a*sat b) (sat d)),((((eQ||eV a)||eV b)||eV d)||eV (LB (sat a*sat b) (sat d)))):=by
 simp only[aT,Ez,Pg.bP,Pg.bJ,Pg.cm,Pg.eG,Pg.dL]
 try delta wI wU
 have:=oE a
 have:=oE b
 have:=oE d
 obtain⟨h,l,e1,e2,e3⟩:=BY (sat a) (sat b) (by omega) (by omega) (by omega) (by omega)
 simp only[oL,Option.bind_some,e1,aOT h l (sat d) _ e2 (by omega) (by omega) nz,e3]
theorem aT5 (a b:Int)(s:Nat)(eQ:Bool)(hs:s<=66)(nz:sat b≠0):
  bm a b (Int.ofNat s) eQ=some (sat (LB (sat a*2^s) (sat b)),(((eQ||eV a)||eV b)||eV (LB (sat a*2^s) (sat b)))):=by
 simp only[bm,NY,Pg.bP,Pg.bJ,Pg.cm,Pg.eG,Pg.dL]
 try delta wI wU
 have ha:=oE a
 have hb:=oE b
 have P0:=kQ s
 have PB:(2:Int)^s<=2^66:=akl hs
 have PV:(2:Int)^66=73786976294838206464:=by decide
 have m1:sat a*2^s<=1152921504606846976*73786976294838206464:=by
  rcases Int.le_total 0 (sat a) with c|c
  ·exact Int.mul_le_mul ha.2 (by omega) (Int.le_of_lt P0) (by omega)
  ·have:=aHB (a:= -sat a) (b:=2^s) (by omega) (Int.le_of_lt P0)
   rw[Int.neg_mul] at this;omega
 have m2: -(1152921504606846976*73786976294838206464)<=sat a*2^s:=by
  rcases Int.le_total 0 (sat a) with c|c
  ·have:=aHB c (Int.le_of_lt P0);omega
  ·have:=Int.mul_le_mul (show -sat a<=1152921504606846976 by omega) (show(2:Int)^s<=73786976294838206464 by omega) (Int.le_of_lt P0) (by omega)
   rw[Int.neg_mul] at this;omega
 have mv:(1152921504606846976:Int)*73786976294838206464=85070591730234615865843651857942052864:=by decide
 obtain⟨h,l,b',e1,o1,f1,v1,_⟩:=akm (sat a) s (by omega) (by omega) (by omega)
 have bt:b'=true:=f1.2 ⟨by omega,by omega⟩
 subst bt
 have n0:decide (Int.ofNat s<0)=false:=by simp
 have n1:decide (Int.ofNat s>66)=false:=by simp only[Int.ofNat_eq_natCast];exact decide_eq_false (by omega)
 simp only[oL,Option.bind_some,n0,n1,cond_false,e1,aOT h l (sat b) _ o1 (by omega) (by omega) nz,v1 rfl]
end Go.Proofs.YtldgljclcgaibaaGreat
namespace Go.Proofs.YtldgljclcgaibaaGreat
open Go.Ab
theorem as5 (h l r:Int)(eQ:Bool)(o:okW h l)(h0:0<=h)(hr:isR r (vW h l)):v8 h l eQ=some (sat r,eQ||eV r):=by
 obtain⟨r',e1,e2,e3⟩:=aqk h l o h0
 have:=aP5 hr e1
 subst this
 simp only[v8,ai1,Pg.bP,Pg.bJ,Pg.cm,Pg.eG,Pg.dL]
 try delta wI wU
 rw[e3]
 by_cases c:r<=9223372036854775807
 ·rw[if_pos c,Option.bind_some]
  simp only[Bool.not_true,cond_false,oL,Option.bind_some]
 ·rw[if_neg c,Option.bind_some]
  simp only[Bool.not_false,cond_true,oL,Option.bind_some]
  have a:sat r=sat 1152921504606846977:=by
   unfold sat
   rw[if_neg (by omega),if_pos (by omega),if_neg (by omega),if_pos (by omega)]
  have b:eV r=eV 1152921504606846977:=by
   unfold eV
   rw[decide_eq_true (show 1152921504606846976<r by omega),decide_eq_true (show(1152921504606846976:Int)<1152921504606846977 by omega),Bool.or_true,Bool.or_true]
  rw[a,b]
end Go.Proofs.YtldgljclcgaibaaGreat
namespace Go.Ab
class bl {D:Type} (x:Option D):Prop where
 ok:∃d,x=some d
def Ok {D:Type}(x:Option D)(Q:D->Prop):Prop:=∃d,x=some d∧Q d
def PQ {δ:Type}(p:Pg δ)(Q:δ->Prop):Prop:=Ok p.val Q
section
variable {δ D A B:Type} {Q:δ->Prop}
theorem Ok.tot {x:Option D}{Q:D->Prop}(h:Ok x Q):bl x:=⟨h.imp λ_ h=>h.1⟩
theorem Ok.post {x:Option D}{Q:D->Prop}(h:Ok x Q){d:D}(e:x=some d):Q d:=by
 obtain⟨d',e',h⟩:=h
 rw[e] at e';cases e';exact h
theorem Ok.mono {x:Option D}{Q R:D->Prop}(h:Ok x Q)(k:∀d,Q d->R d):Ok x R:=h.imp λ_ h=>⟨h.1,k _ h.2⟩
theorem bl.Ok {x:Option D}(h:bl x){Q:D->Prop}(k:∀d,x=some d->Q d):Ok x Q:=by
 obtain⟨d,e⟩:=h.ok
 exact⟨d,e,k d e⟩
theorem aT6 (d:D)(Q:D->Prop):Ok (some d) Q=Q d:=propext (Iff.intro (λh=>Ok.post h rfl) λh=>⟨d,rfl,h⟩)
theorem av (d:δ):PQ (.ret d) Q=Q d:=aT6 d Q
theorem aND:PQ (.no:Pg δ) Q=False:=propext (Iff.intro (λh=>by obtain⟨_,h,_⟩:=h;cases h) λh=>False.elim h)
theorem aK (b:Bool)(x y:Pg δ):PQ (.ae b x y) Q=((b=true->PQ x Q)∧(b=false->PQ y Q)):=by
 unfold PQ
 rw[Pg.bJ]
 cases b<;>simp
theorem bB (b:Bool)(x:Pg δ):PQ (.ae b x .no) Q=(b=true∧PQ x Q):=by
 rw[aK,aND]
 cases b<;>simp
theorem aB (x y:Pg δ):PQ (.ae true x y) Q=PQ x Q:=by unfold PQ;rw[Pg.bJ];rfl
theorem bu (x:Option D)(f:D->Pg δ)[h:bl x]:PQ (.opt x f) Q=∀d,x=some d->PQ (f d) Q:=by
 obtain⟨d,rfl⟩:=h.ok
 unfold PQ
 rw[Pg.cm,Option.bind_some]
 exact propext (Iff.intro (λh d' e=>by cases e;exact h) λh=>h d rfl)
theorem bM (d:D)(f:D->Pg δ):PQ (.opt (some d) f) Q=PQ (f d) Q:=rfl
theorem ay {x:Option D}{f:D->Pg δ}{R:D->Prop}(h:Ok x R)(k:∀d,x=some d->R d->PQ (f d) Q):PQ (.opt x f) Q:=by
 obtain⟨d,rfl,hr⟩:=h
 exact k d rfl hr
theorem r9 (x:A⊕B)(f:A->Pg δ)(g:B->Pg δ):PQ (.sum x f g) Q=((∀a,x=.inl a->PQ (f a) Q)∧∀b,x=.inr b->PQ (g b) Q):=by
 unfold PQ
 rw[Pg.dL]
 cases x<;>simp
theorem qh (x:A⊕B)(f:A->Pg δ)(g:B->Pg δ):PQ (.sm x f g) Q=((∀a,x=.inl a->PQ (f a) Q)∧∀b,x=.inr b->PQ (g b) Q):=by
 unfold PQ
 rw[Pg.aG7]
 cases x<;>simp
theorem aF {p:Pg δ}(h:PQ p λ_=>True):bl p.val:=Ok.tot h
theorem ba {D X:Type}{s:D->Pg (D⊕X)}(I:D->Prop)(m:D->Nat)(R:X->Prop)
  (h:∀d,I d->PQ (s d) (Sum.elim (λd'=>I d'∧m d'<m d) R)):∀(n:Nat) (d:D),I d->m d<n->Ok (bD s n d) R:=λn d hd hn=>by
 refine Yl (λt d=>I d∧m d=t) R (λt d hd=> ?_) n (m d) d hn ⟨hd,rfl⟩
 obtain⟨y,hy,hq⟩:=h d hd.1
 refine⟨y,hy,?_⟩
 cases y with
 |inl d'=>exact⟨m d',hd.2▸hq.2,hq.1,rfl⟩
 |inr x=>exact hq
end
theorem bg {n:Int}(h:0<=n)(k:n<=4611686018427387904):wI (n+1)=n+1:=wrap_i64 (by omega) (by omega)
theorem ey {n:Int}(h: -4611686018427387904<=n)(k:n<=4611686018427387904):wI n=n:=wrap_i64 (by omega) (by omega)
theorem bk {n:Int}{m:Nat}:aX n m=true↔0<=n∧n<m:=by simp[aX]
theorem abK {n:Int}{m:Nat}:IF n m=true↔0<=n∧n<=m:=by simp[IF]
theorem bO {m n:Nat}:Nat.ble m n=true↔m<=n:=by rw[Nat.ble_eq]
theorem nf {b:Bool}:(b=false->False)↔b=true:=by cases b<;>simp
theorem hdN (n:Nat)(h:n<=1999):(0:Int)<=0∧(0:Int)<=Int.ofNat n∧Int.ofNat n<=1999∧Int.ofNat n=(n:Int):=by
 simp only[Int.ofNat_eq_natCast,and_true]
 omega
theorem aM (m:Nat):Nat.beq m m=true:=Nat.beq_refl m
theorem bE:(∀{δ:Type} {Q:δ->Prop} (d:δ),PQ (.ret d) Q=Q d)∧(∀{δ:Type} {Q:δ->Prop} (b:Bool) (x:Pg δ),PQ (.ae b x .no) Q=(b=true∧PQ x Q))∧(∀{δ:Type} {Q:δ->Prop} (b:Bool) (x y:Pg δ),PQ (.ae b x y) Q=((b=true->PQ x Q)∧(b=false->PQ y Q)))
  ∧(∀{δ D:Type} {Q:δ->Prop} (x:Option D) (f:D->Pg δ) [h:bl x],PQ (.opt x f) Q=∀d,x=some d->PQ (f d) Q)∧(∀{δ A B:Type} {Q:δ->Prop} (x:A⊕B) (f:A->Pg δ) (g:B->Pg δ),PQ (.sum x f g) Q=((∀a,x=.inl a->PQ (f a) Q)∧∀b,x=.inr b->PQ (g b) Q))
  ∧(∀{δ A B:Type} {Q:δ->Prop} (x:A⊕B) (f:A->Pg δ) (g:B->Pg δ),PQ (.sm x f g) Q=((∀a,x=.inl a->PQ (f a) Q)∧∀b,x=.inr b->PQ (g b) Q))∧(∀{δ:Type} {Q:δ->Prop},PQ (.no:Pg δ) Q=False)
  ∧(∀{A B C:Type} (f:A->C) (g:B->C) (x:A),Sum.elim f g (.inl x)=f x)∧(∀{A B C:Type} (f:A->C) (g:B->C) (x:B),Sum.elim f g (.inr x)=g x)
  ∧(∀p:Prop,(p->True)=True)∧(∀α:Type,(α->True)=True)∧(∀p:Prop,(p∧True)=p)∧(∀p:Prop,(True∧p)=p)∧∀p:Prop,(p∧p)=p:=
 ⟨λd=>av d,λb x=>bB b x,λb x y=>aK b x y,λx f _=>bu x f,λx f g=>r9 x f g,λx f g=>qh x f g,aND,λ_ _ _=>rfl,λ_ _ _=>rfl,λp=>implies_true p,λα=>implies_true α,and_true,true_and,and_self⟩
theorem oM:(∀m,Nat.beq m m=true)∧(∀p:Prop,(True->p)=p)∧((true=false)=False)∧(∀p:Prop,(False->p)=True)∧∀{δ D:Type} {Q:δ->Prop} (d:D) (f:D->Pg δ),PQ (.opt (some d) f) Q=PQ (f d) Q:=
 ⟨aM,true_implies,Bool.true_eq_false,false_implies,λd f=>bM d f⟩
theorem rN:(∀{n:Int} {m:Nat},aX n m=true↔0<=n∧n<m)∧(∀{n:Int} {m:Nat},IF n m=true↔0<=n∧n<=m)∧(∀{m n:Nat},Nat.ble m n=true↔m<=n)∧(∀m,Nat.beq m m=true)∧(∀a b:Bool,((a&&b)=true)=(a=true∧b=true))∧(∀{p:Prop} [Decidable p],(decide p=true)=p)
  ∧(∀{p:Prop} [Decidable p],decide p=false↔¬p)∧(∀{a b:Int},(a==b)=true↔a=b)∧(∀b:Bool,(true&&b)=b)∧∀n:Nat,Int.ofNat n=(n:Int):=
 ⟨bk,abK,bO,aM,λa b=>Bool.and_eq_true a b,λ{_} _=>decide_eq_true_eq,λ{_} _=>decide_eq_false_iff_not,beq_iff_eq,Bool.true_and,Int.ofNat_eq_natCast⟩
end Go.Ab
namespace Go.Proofs.YtldgljclcgaibaaGreat
open Go.Ab Go.Ab.Pg
instance aZY (x:Int)(h:Bool):bl (aQ x h):=⟨_,oL x h⟩
instance aYG (x a b:Int)(h:Bool):bl (aZ x a b h):=aF (p:=vD x a b h) (by simp only[vD,aK,av,implies_true,and_self])
instance aZI (b:Bool):bl (oW b):=aF (p:=TS b) (by simp only[TS,aK,av,implies_true,and_self])
instance aZZ (x:Int):bl (vG x):=aF (p:=BP x) (by simp only[BP,aK,av,implies_true,and_self])
instance aZJ (x:Int):bl (jy x):=aF (p:=Sv x) (by simp only[Sv,aK,av,bB,implies_true,and_self])
instance aZ0 (a:Int)(b c d:Bool):bl (lO a b c d):=aF (p:=Gl oW aQ a b c d) (by simp only[Gl,aK,av,bu,implies_true,and_self])
instance aZ1 (x y:Int)(h:Bool):bl (bH x y h):=aF (p:=Gs aQ x y h) (by simp only[Gs,aK,av,bu,implies_true,and_self])
theorem aNE (a b:Int)(s:Nat)(hs:s<=120)(h:Bool):bl (aU a b (Int.ofNat s) h):=⟨_,aKp a b s h hs⟩
instance aYH (a b:Int)(h:Bool):bl (aU a b 30 h):=aNE a b 30 (by omega) h
instance aYI (a b:Int)(h:Bool):bl (aU a b 44 h):=aNE a b 44 (by omega) h
instance aYJ (a b:Int)(h:Bool):bl (aU a b 10 h):=aNE a b 10 (by omega) h
instance t_m (a b:Int)(h:Bool):bl (IM a b h):=aF (p:=amc aU a b h) (by simp only[amc,aK,av,bu,implies_true,and_self])
theorem aXd (s:Nat)(hs:s<=120)(n:Nat)(hn:n<=100)(eQ:Bool)(f g:Nat->Int)(w w':Bool):bl (bo (Int.ofNat s) n n eQ f g w w'):=⟨_,aKq s hs n hn eQ f g w w'⟩
theorem KI (n:Nat)(hn:n<=100)(eQ:Bool)(f g:Nat->Int)(w w':Bool):bl (bo 30 n n eQ f g w w'):=aXd 30 (by omega) n hn eQ f g w w'
instance aZK (eQ:Bool)(f g:Nat->Int)(w w':Bool):bl (bo 30 2 2 eQ f g w w'):=KI 2 (by omega) eQ f g w w'
instance aZL (eQ:Bool)(f g:Nat->Int)(w w':Bool):bl (bo 30 3 3 eQ f g w w'):=KI 3 (by omega) eQ f g w w'
instance aZM (eQ:Bool)(f g:Nat->Int)(w w':Bool):bl (bo 30 4 4 eQ f g w w'):=KI 4 (by omega) eQ f g w w'
instance aYK (eQ:Bool)(f g:Nat->Int)(w w':Bool):bl (bo 30 24 24 eQ f g w w'):=KI 24 (by omega) eQ f g w w'
instance aYL (eQ:Bool)(f g:Nat->Int)(w w':Bool):bl (bo 30 48 48 eQ f g w w'):=KI 48 (by omega) eQ f g w w'
theorem aHD (n:Nat)(hn:n<=1900)(eQ:Bool)(l:Nat->Int)(w:Bool):bl (cF n eQ l w):=⟨_,aT1 n hn eQ l w⟩
instance aZN (eQ:Bool)(l:Nat->Int)(w:Bool):bl (cF 2 eQ l w):=aHD 2 (by omega) eQ l w
instance aZO (eQ:Bool)(l:Nat->Int)(w:Bool):bl (cF 3 eQ l w):=aHD 3 (by omega) eQ l w
theorem aT7 (x y:Int)(h:Bool):bl (vZ x y 0 h):=aF (p:=JT oW zu lO x y 0 h) (by
 unfold JT
 simp only[aK,av,bu,implies_true,and_self,true_and]
 intro h;simp at h)
instance aXU (a b d:Int)(h:Bool):bl (aT a b d h):=by
 by_cases nz:sat d=0
 ·have h1:=oE a
  have h2:=oE b
  obtain⟨x,y,e,_,_⟩:=BY (sat a) (sat b) (by omega) (by omega) (by omega) (by omega)
  have:=(aT7 x y (((h||eV a)||eV b)||eV d)).ok
  refine⟨?_⟩
  simp only[aT,Ez,bP,bJ,cm,oL,Option.bind_some,e,nz]
  obtain⟨d,hd⟩:=this
  rw[hd]
  exact⟨_,rfl⟩
 ·exact⟨_,aKs a b d h nz⟩
theorem aT8 (a b:Int)(s:Nat)(hs:s<=66)(h:Bool):bl (bm a b (Int.ofNat s) h):=by
 by_cases nz:sat b=0
 ·have h1:=oE a
  obtain⟨x,y,q,e,_,_⟩:=akm (sat a) s (by omega) (by omega) (by omega)
  have:=(aT7 x y ((h||eV a)||eV b)).ok
  refine⟨?_⟩
  have n0:decide (Int.ofNat s<0)=false:=by simp
  have n1:decide (Int.ofNat s>66)=false:=by simp only[Int.ofNat_eq_natCast];exact decide_eq_false (by omega)
  simp only[bm,NY,bP,bJ,cm,oL,Option.bind_some,n0,n1,cond_false,e,nz]
  obtain⟨d,hd⟩:=this
  rw[hd]
  exact⟨_,rfl⟩
 ·exact⟨_,aT5 a b s h hs nz⟩
instance aYM (a b:Int)(h:Bool):bl (bm a b 30 h):=aT8 a b 30 (by omega) h
instance aYN (a b:Int)(h:Bool):bl (bm a b 44 h):=aT8 a b 44 (by omega) h
def sq2 (f:Nat->Int)(n:Nat):Int:=xQ (λj=>sat (f j)*sat (f j)) n
theorem axI (f:Nat->Int):∀n,0<=sq2 f n
 |0=>Int.le_refl 0
 |n+1=>by
  have:=axI f n
  have h2:0<=sat (f n)*sat (f n):=by
   rcases Int.le_total 0 (sat (f n)) with h|h
   ·exact Int.mul_nonneg h h
   ·exact Int.mul_nonneg_of_nonpos_of_nonpos h h
  unfold sq2 at*
  rw[xQ];omega
theorem aQa (n:Nat)(hn:n<=64)(eQ:Bool)(f:Nat->Int)(w:Bool):∃r,isR r (sq2 f n)∧fL n eQ f w=some (sat r,(eQ||Dt (λj=>eV (f j)) n)||eV r):=by
 have nn:=axI f n
 have key:∃x,fL n eQ f w=x∧∃h l,okW h l∧vW h l=sq2 f n∧x=(v8 h l (eQ||Dt (λj=>eV (f j)) n)):=by
  refine⟨_,rfl,?_⟩
  have m:(if 64<Int.ofNat n then(64:Int) else Int.ofNat n)=Int.ofNat n:=by rw[if_neg (by simp only[Int.ofNat_eq_natCast];omega)]
  have k:IF (Int.ofNat n) n=true:=by simp[IF]
  have q:Int.toNat (Int.ofNat n)=n:=rfl
  simp only[fL,ZA,bP,bJ,cm,eG,m,k,q,cond_true]
  unfold Qj
  obtain⟨x,hx,i,h,l,ho,hv,rfl⟩:=Yl (s:=Bm aQ eR jk)
   (λt d=>∃(i:Nat) (h l':Int),i+t=n∧okW h l'∧vW h l'=sq2 f i∧d=(((n,w&&false),Int.ofNat n,Int.ofNat i),(eQ||Dt (λj=>eV (f j)) i),(n,f),h,l'))
   (λx=>∃(i:Nat) (h l':Int),okW h l'∧vW h l'=sq2 f n∧x=(((n,w&&false),Int.ofNat n,Int.ofNat n,decide (Int.ofNat n<Int.ofNat n)),(eQ||Dt (λj=>eV (f j)) n),(n,f),h,l')) (λt d=>by
    rintro ⟨i,h,l',hi,ho,hv,rfl⟩
    have bnd:=akk (λj=>sat (f j)*sat (f j)) 1329227995784915872903807060280344576 (by omega) i (λj _=>abJ _ _)
    have hv':vW h l'=xQ (λj=>sat (f j)*sat (f j)) i:=hv
    rcases Nat.eq_zero_or_pos t with t0|t0
    ·have e:i=n:=by omega
     subst e
     simp only[Bm,bP,bJ,cm,eG,as2 (Nat.le_refl i),cond_false]
     exact⟨_,rfl,i,h,l',ho,hv,by rfl⟩
    ·have hs1:=oE (f i)
     have hm:=abJ (f i) (f i)
     obtain⟨h1,l1,e1,o1,v1⟩:=BY (sat (f i)) (sat (f i)) (by omega) (by omega) (by omega) (by omega)
     obtain⟨h2,l2,e2,o2,v2⟩:=aeS (λj:Nat=>bif Nat.beq j 1 then h1 else bif Nat.beq j 0 then h else h) (λj:Nat=>bif Nat.beq j 1 then l1 else bif Nat.beq j 0 then l' else l') true
      ho o1 (by show _<=vW h l'+vW h1 l1;rw[hv',v1];omega) (by show vW h l'+vW h1 l1<_;rw[hv',v1];omega)
     have v2:vW h2 l2=vW h l'+vW h1 l1:=v2
     rw[hv',v1] at v2
     have q:Int.toNat (Int.ofNat i)=i:=rfl
     simp only[Bm,bP,bJ,cm,eG,wI,as1 hi t0,as3 (show i<n by omega),cond_true,q,oL,Option.bind_some,e1,e2,as4 (show i<9000000000000000000 by omega)]
     refine⟨_,rfl,t-1,by omega,i+1,h2,l2,by omega,o2,v2,?_⟩
     simp only[Dt,Bool.or_assoc])
   2000 n (((n,w&&false),Int.ofNat n,0),eQ,(n,f),0,0) (by omega) ⟨0,0,0,by omega,⟨by omega,by omega,by omega,by omega⟩,rfl,by simp only[Dt,Bool.or_false];rfl⟩
  rw[hx]
  refine⟨h,l,ho,hv,?_⟩
  simp only[Option.bind_some]
  cases v8 h l (eQ||Dt (λj=>eV (f j)) n)<;>rfl
 obtain⟨x,hx,h,l,ho,hv,rfl⟩:=key
 have h0:0<=h:=by
  obtain⟨o1,o2,o3,o4⟩:=ho
  rw[<-hv] at nn
  simp only[vW] at nn;omega
 obtain⟨r,hr,_,_⟩:=aqk h l ho h0
 refine⟨r,hv▸hr,?_⟩
 rw[hx]
 exact as5 h l r _ ho h0 hr
theorem aCz (n:Nat)(hn:n<=64)(eQ:Bool)(f:Nat->Int)(w:Bool):bl (fL n eQ f w):=by
 obtain⟨r,_,h⟩:=aQa n hn eQ f w
 exact⟨_,h⟩
instance aXV (eQ:Bool)(f:Nat->Int)(w:Bool):bl (fL 3 eQ f w):=aCz 3 (by omega) eQ f w
instance aXW (eQ:Bool)(f:Nat->Int)(w:Bool):bl (fL 4 eQ f w):=aCz 4 (by omega) eQ f w
end Go.Proofs.YtldgljclcgaibaaGreat
namespace Go.Proofs.YtldgljclcgaibaaGreat
open Go.Ab Go.Ab.Pg
theorem as6 (d:jz.B)(hd:0<=d.1.2.2.2.2∧d.1.2.2.2.2<=d.1.2.2.2.1∧d.1.2.2.2.1<=1999∧d.1.2.2.2.1=((d.1.2.2.1.1:Nat):Int)):Ok (Mu d) (λx:tu=>True):=
 ba (s:=_) (λd:jz.B=>0<=d.1.2.2.2.2∧d.1.2.2.2.2<=d.1.2.2.2.1∧d.1.2.2.2.1<=1999∧d.1.2.2.2.1=((d.1.2.2.1.1:Nat):Int)) (λd:jz.B=>Int.toNat (d.1.2.2.2.1-d.1.2.2.2.2)) (λx:tu=>True) (λd hd=>by
  have hw:wI (d.1.2.2.2.2+1)=d.1.2.2.2.2+1:=bg (by omega) (by omega)
  unfold Mt
  simp only[bE]
  simp only[nf,rN,hw]
  repeat' (first|exact True.intro|omega|(intro _)|(apply And.intro))) 2000 d hd (by omega)
theorem avG (x0:Int)(x1:Nat)(h1:1<=x1)(h2:x1<=1000)(x2:Bool)(x3:Nat->Int)(w0:Bool):bl (lQ x0 x1 x2 x3 w0):=by
 unfold lQ T7
 refine aF ?_
 rw[bB,bB]
 refine⟨by simp only[bk];omega,by simp only[abK];omega,?_⟩
 refine ay (as6 _ (hdN (x1-1) (by omega))) λd _ hd=> ?_
 simp only[av]
instance aXe (x0:Int)(x2:Bool)(x3:Nat->Int)(w0:Bool):bl (lQ x0 6 x2 x3 w0):=avG _ _ (by omega) (by omega) _ _ _
instance aXf (x0:Int)(x2:Bool)(x3:Nat->Int)(w0:Bool):bl (lQ x0 7 x2 x3 w0):=avG _ _ (by omega) (by omega) _ _ _
instance aWm (x0:Int)(x2:Bool)(x3:Nat->Int)(w0:Bool):bl (lQ x0 12 x2 x3 w0):=avG _ _ (by omega) (by omega) _ _ _
instance aWn (x0:Int)(x1:Bool):bl (mH x0 x1):=by
 unfold mH aja
 exact aF (by simp only[bE])
instance aWo (x0:Int)(x1:Bool):bl (qg x0 x1):=by
 unfold qg ajb
 exact aF (by simp only[bE])
instance aUP (x0:Int)(x1:Int)(x2:Bool):bl (w9 x0 x1 x2):=by
 unfold w9 Zy
 exact aF (by simp only[bE])
instance aXg (x0:Int)(x1:Int)(x2:Int)(x3:Int)(x4:Int)(x5:Int)(x6:Bool):bl (tV x0 x1 x2 x3 x4 x5 x6):=by
 unfold tV ap2
 exact aF (by simp only[bE])
instance aVk (x0:Int)(x1:Int)(x2:Int)(x3:Int)(x4:Bool):bl (rZ x0 x1 x2 x3 x4):=by
 unfold rZ aea
 exact aF (by simp only[bE])
instance aWp (x0:Int)(x1:Int)(x2:Int)(x3:Bool):bl (ot x0 x1 x2 x3):=by
 unfold ot ajd
 exact aF (by simp only[bE])
instance aXh (x0:Int)(x1:Int)(x2:Int)(x3:Bool):bl (zX x0 x1 x2 x3):=by
 unfold zX ap3
 exact aF (by simp only[bE])
instance aT9 (x0:Int)(x1:Int)(x2:Bool):bl (tU x0 x1 x2):=by
 unfold tU TX
 exact aF (by simp only[bE])
instance aHE (x0:Int)(x1:Int)(x2:Int)(x3:Int)(x4:Bool):bl (iJ x0 x1 x2 x3 x4):=by
 unfold iJ zU
 exact aF (by simp only[bE])
theorem aCA (d:nE.B)(hd:0<=d.1∧d.1<=4):Ok (ZE d) (λx:BS=>True):=
 ba (s:=_) (λd:nE.B=>0<=d.1∧d.1<=4) (λd:nE.B=>Int.toNat (4-d.1)) (λx:BS=>True) (λd hd=>by
  have hw:wI (d.1+1)=d.1+1:=bg (by omega) (by omega)
  unfold ZD
  simp only[bE]
  simp only[nf,rN,hw]
  repeat' (first|exact True.intro|omega|(intro _)|(apply And.intro))) 2000 d hd (by omega)
instance aWq (x0:Int)(x1:Int)(x2:Int)(x3:Int)(x4:Bool):bl (we x0 x1 x2 x3 x4):=by
 unfold we ajf
 refine aF ?_
 refine ay (aCA _ (by simp)) λd _ hd=> ?_
 simp only[bE]
instance aWr:bl mJ:=by
 unfold mJ ajk
 exact aF (by simp only[bE])
instance aVl (x0:Int)(x1:Int)(x2:Int)(x3:Int):bl (zY x0 x1 x2 x3):=by
 unfold zY aeh
 exact aF (by simp only[bE])
theorem avH (d:kK.B)(hd:0<=d.1.2∧d.1.2<=3):Ok (Ql d) (λx:vH=>True):=
 ba (s:=_) (λd:kK.B=>0<=d.1.2∧d.1.2<=3) (λd:kK.B=>Int.toNat (3-d.1.2)) (λx:vH=>True) (λd hd=>by
  have hw:wI (d.1.2+1)=d.1.2+1:=bg (by omega) (by omega)
  unfold Qk
  simp only[bE]
  simp only[nf,rN,hw]
  repeat' (first|exact True.intro|omega|(intro _)|(apply And.intro))) 2000 d hd (by omega)
instance aUQ (x0:Nat->Int)(x1:Int):bl (ec x0 x1):=by
 unfold ec ZG
 refine aF ?_
 refine ay (avH _ (by simp)) λd _ hd=> ?_
 simp only[bE]
theorem avI (d:kM.B)(hd:0<=d.1.2.2.2.2∧d.1.2.2.2.2<=d.1.2.2.2.1∧d.1.2.2.2.1<=1999∧d.1.2.2.2.1=((d.1.2.2.1.1:Nat):Int)):Ok (Qn d) (λx:vI=>True):=
 ba (s:=_) (λd:kM.B=>0<=d.1.2.2.2.2∧d.1.2.2.2.2<=d.1.2.2.2.1∧d.1.2.2.2.1<=1999∧d.1.2.2.2.1=((d.1.2.2.1.1:Nat):Int)) (λd:kM.B=>Int.toNat (d.1.2.2.2.1-d.1.2.2.2.2)) (λx:vI=>True) (λd hd=>by
  have hw:wI (d.1.2.2.2.2+1)=d.1.2.2.2.2+1:=bg (by omega) (by omega)
  unfold Qm
  simp only[bE]
  simp only[nf,rN,hw]
  repeat' (first|exact True.intro|omega|(intro _)|(apply And.intro))) 2000 d hd (by omega)
theorem aon (x0:Nat->Int)(x1:Int)(x2:Nat)(x3:Nat->Int)(w0:Bool)(h:x2<=1999):bl (fM x0 x1 x2 x3 w0):=by
 unfold fM ZK
 refine aF ?_
 rw[aM,bB]
 refine⟨rfl,?_⟩
 refine ay (avI _ (hdN x2 h)) λd _ hd=> ?_
 simp only[bE]
instance aYO (x0:Nat->Int)(x1:Int)(x3:Nat->Int)(w0:Bool):bl (fM x0 x1 3 x3 w0):=aon _ _ _ _ _ (by omega)
instance aYP (x0:Nat->Int)(x1:Int)(x3:Nat->Int)(w0:Bool):bl (fM x0 x1 4 x3 w0):=aon _ _ _ _ _ (by omega)
instance aWs (x0:Int)(x1:Int)(x2:Int)(x3:Int)(x4:Int)(x5:Int)(x6:Int)(x7:Int)(x8:Bool):bl (OP x0 x1 x2 x3 x4 x5 x6 x7 x8):=by
 unfold OP ajm
 exact aF (by simp only[bE])
instance aWt (x0:Int)(x1:Int)(x2:Int)(x3:Int)(x4:Bool):bl (OQ x0 x1 x2 x3 x4):=by
 unfold OQ ajo
 exact aF (by simp only[bE])
theorem akn (d:gh.B)(hd:0<=d.1.2.2∧d.1.2.2<=d.1.1∧d.1.1<=1999∧d.1.1<=24):Ok (FB d) (λx:oc=>True):=
 ba (s:=_) (λd:gh.B=>0<=d.1.2.2∧d.1.2.2<=d.1.1∧d.1.1<=1999∧d.1.1<=24) (λd:gh.B=>Int.toNat (d.1.1-d.1.2.2)) (λx:oc=>True) (λd hd=>by
  have hw:wI (d.1.2.2+1)=d.1.2.2+1:=bg (by omega) (by omega)
  unfold FA
  simp only[bE]
  simp only[nf,rN,hw]
  repeat' (first|exact True.intro|omega|(intro _)|(apply And.intro))) 2000 d hd (by omega)
theorem nL (x0:Int)(x1:Int)(x2:Int)(x3:Nat->Int)(h0:0<=x0)(h1:x0<=x1)(h2:x1<=24):bl (wg x0 x1 x2 x3):=by
 unfold wg J6
 refine aF ?_
 refine ay (akn _ (by dsimp only;omega)) λd _ hd=> ?_
 simp only[av]
instance aQM (x0:Int)(x1:Bool):bl (mh x0 x1):=by
 unfold mh Hm
 exact aF (by simp only[bE])
theorem amy (d:dN.B)(hd:0<=d.1∧d.1<=24):Ok (z5 d) (λx:j7=>True):=
 ba (s:=_) (λd:dN.B=>0<=d.1∧d.1<=24) (λd:dN.B=>Int.toNat (24-d.1)) (λx:j7=>True) (λd hd=>by
  have hw:wI (d.1+1)=d.1+1:=bg (by omega) (by omega)
  unfold zZ
  simp only[bE]
  simp only[nf,rN,hw]
  repeat' (first|exact True.intro|omega|(intro _)|(apply And.intro))) 2000 d hd (by omega)
theorem amz (d:dO.B)(hd:0<=d.1∧d.1<=276):Ok (z7 d) (λx:j8=>True):=
 ba (s:=_) (λd:dO.B=>0<=d.1∧d.1<=276) (λd:dO.B=>Int.toNat (276-d.1)) (λx:j8=>True) (λd hd=>by
  have hw:wI (d.1+1)=d.1+1:=bg (by omega) (by omega)
  unfold z6
  simp only[bE]
  simp only[nf,rN,hw]
  repeat' (first|exact True.intro|omega|(intro _)|(apply And.intro))) 2000 d hd (by omega)
instance aQb (x0:Nat->Int)(x1:Nat->Int)(x2:Bool):bl (fe x0 x1 x2):=by
 unfold fe EC
 refine aF ?_
 refine ay (amy _ (by simp)) λd _ hd=> ?_
 refine ay (amz _ (by simp)) λd _ hd=> ?_
 simp only[bE]
theorem aEc (d:pI.B)(hd:0<=d.1.2∧d.1.2<=24):Ok (ael d) (λx:EG=>True):=
 ba (s:=_) (λd:pI.B=>0<=d.1.2∧d.1.2<=24) (λd:pI.B=>Int.toNat (24-d.1.2)) (λx:EG=>True) (λd hd=>by
  have hw:wI (d.1.2+1)=d.1.2+1:=bg (by omega) (by omega)
  unfold aek
  simp only[bE]
  simp only[nf,rN,hw]
  repeat' (first|exact True.intro|omega|(intro _)|(apply And.intro))) 2000 d hd (by omega)
instance aXi (x0:Nat)(x1:Bool)(x2:Nat->Int)(w0:Bool):bl (Ul x0 x1 x2 w0):=by
 unfold Ul ap6
 refine aF ?_
 rw[aM,bB]
 refine⟨rfl,?_⟩
 refine ay (aEc _ (by simp)) λd _ hd=> ?_
 simp only[bE]
end Go.Proofs.YtldgljclcgaibaaGreat
namespace Go.Proofs.YtldgljclcgaibaaGreat
open Go.Ab Go.Ab.Pg
theorem aNF:∀j:Nat,j<24->0<=wI (Int.tdiv (wI ((j:Int)*wI ((j:Int)-1))) 2)∧wI (Int.tdiv (wI ((j:Int)*wI ((j:Int)-1))) 2)+(j:Int)<=276+(if j=0 then 1 else 0):=by decide
theorem aKt {i j:Int}{d:Sy}(h:iK i j=some d)(ok:d.2=true):0<=d.1∧d.1<276:=by
 simp only[iK,EH,bP,bJ] at h
 by_cases h0:0<=i
 ·by_cases h1:i<j
  ·simp only[ge_iff_le,h0,h1,decide_true,cond_true,Option.some.injEq] at h
   subst h
   have h2:j<24:=of_decide_eq_true ok
   obtain⟨n,rfl⟩:=Int.eq_ofNat_of_zero_le (by omega:0<=j)
   obtain⟨k1,k2⟩:=aNF n (by omega)
   rw[if_neg (by omega)] at k2
   generalize wI (Int.tdiv (wI ((n:Int)*wI ((n:Int)-1))) 2)=c at*
   show 0<=wI (c+i)∧wI (c+i)<276
   rw[ey (by omega) (by omega)]
   omega
  ·simp only[ge_iff_le,h0,h1,decide_true,decide_false,cond_true,cond_false,Option.some.injEq] at h
   subst h;cases ok
 ·simp only[ge_iff_le,h0,decide_false,cond_false,Option.some.injEq] at h
  subst h;cases ok
instance aVm (x0:Int)(x1:Int):bl (iK x0 x1):=by
 unfold iK EH
 exact aF (by simp only[bE])
instance aYQ (x0:Nat->Int)(x1:Nat->Int)(x2:Int)(x3:Int):bl (Di x0 x1 x2 x3):=by
 have key:∀d,iK x2 x3=some d->((!d.2)=false->aX d.1 276=true∧Nat.ble (0+Int.toNat d.1*1+1) 276=true):=λd h k=>by
  have:=aKt h (by simpa using k)
  simp only[bk,bO];omega
 unfold Di asj
 refine aF ?_
 simp only[bE,nf]
 repeat' (first|(apply And.intro)|(intro _ h k;exact⟨λ_=>(key _ h k).2,(key _ h k).1⟩)|(intro _ h k;exact key _ h k)|(intro _))
instance aXj (x0:Nat->Int)(x1:Nat->Int)(x2:Int)(x3:Int)(x4:Int):bl (xf x0 x1 x2 x3 x4):=by
 unfold xf aep
 refine aF ?_
 simp only[bE,nf]
 intro d h k
 have:=aKt h k
 simp only[bk,bO,Bool.and_eq_true]
 omega
theorem aql (d:eP.B)(hd:0<=d.1∧d.1<=24):Ok (CE d) (λx:lA=>True):=
 ba (s:=_) (λd:eP.B=>0<=d.1∧d.1<=24) (λd:eP.B=>Int.toNat (24-d.1)) (λx:lA=>True) (λd hd=>by
  have hw:wI (d.1+1)=d.1+1:=bg (by omega) (by omega)
  unfold CD
  simp only[bE]
  simp only[nf,rN,hw]
  repeat' (first|exact True.intro|omega|(intro _)|(apply And.intro))) 2000 d hd (by omega)
instance aQN:bl (mi):=by
 unfold mi Hn
 refine aF ?_
 refine ay (aql _ (by simp)) λd _ hd=> ?_
 simp only[bE]
theorem azm (d:mj.B)(hd:0<=d.1∧d.1<=3):Ok (Uq d) (λx:yE=>True):=
 ba (s:=_) (λd:mj.B=>0<=d.1∧d.1<=3) (λd:mj.B=>Int.toNat (3-d.1)) (λx:yE=>True) (λd hd=>by
  have hw:wI (d.1+1)=d.1+1:=bg (by omega) (by omega)
  unfold Uo
  try dsimp only
  by_cases hc:d.1<3
  case neg=>simp only[hc,decide_false,aK,av,Sum.elim_inr,implies_true,and_true,Bool.false_eq_true,false_implies]
  have h1:wI (3*d.1)=3*d.1:=ey (by omega) (by omega)
  have h2:wI (3*d.1+3)=3*d.1+3:=ey (by omega) (by omega)
  have h3:Int.toNat (3*d.1+3)-Int.toNat (3*d.1)=3:=by omega
  simp only[h1,h2,h3]
  simp only[bE]
  simp only[nf,rN,hw]
  repeat' (first|exact True.intro|omega|(intro _)|(apply And.intro))) 2000 d hd (by omega)
instance aVn (x0:Nat->Int)(x1:Int)(x2:Int)(x3:Int)(x4:Bool):bl (nG x0 x1 x2 x3 x4):=by
 unfold nG aeq
 refine aF ?_
 refine ay (azm _ (by simp)) λd _ hd=> ?_
 simp only[bE]
theorem aCB (d:nH.B)(hd:0<=d.1∧d.1<=3):Ok (ZW d) (λx:BV=>True):=
 ba (s:=_) (λd:nH.B=>0<=d.1∧d.1<=3) (λd:nH.B=>Int.toNat (3-d.1)) (λx:BV=>True) (λd hd=>by
  have hw:wI (d.1+1)=d.1+1:=bg (by omega) (by omega)
  unfold ZV
  try dsimp only
  by_cases hc:d.1<3
  case neg=>simp only[hc,decide_false,aK,av,Sum.elim_inr,implies_true,and_true,Bool.false_eq_true,false_implies]
  have h1:wI (6+d.1)=6+d.1:=ey (by omega) (by omega)
  have h2:wI (3+d.1)=3+d.1:=ey (by omega) (by omega)
  simp only[h1,h2]
  simp only[bE]
  simp only[nf,rN,hw]
  repeat' (first|exact True.intro|omega|(intro _)|(apply And.intro))) 2000 d hd (by omega)
instance aWu (x0:Nat->Int)(x1:Int)(x2:Int)(x3:Int)(x4:Bool):bl (wh x0 x1 x2 x3 x4):=by
 unfold wh aju
 refine aF ?_
 refine ay (aCB _ (by simp)) λd _ hd=> ?_
 simp only[bE]
instance aVo (x0:Int)(x1:Int)(x2:Bool)(x3:Bool):bl (Ka x0 x1 x2 x3):=by
 unfold Ka aeu
 exact aF (by simp only[bE])
instance aVp (x0:Int)(x1:Bool)(x2:Bool)(x3:Bool)(x4:Bool)(x5:Bool)(x6:Bool)(x7:Bool)(x8:Bool)(x9:Int)(fP:Int)(fQ:Int):bl (Kb x0 x1 x2 x3 x4 x5 x6 x7 x8 x9 fP fQ):=by
 unfold Kb aev
 exact aF (by simp only[bE])
instance aUa (x0:Int):bl (yF x0):=by
 unfold yF Dk
 exact aF (by simp only[bE])
theorem aCC {x d:Int}(h:yF x=some d):0<=d∧d<6:=by
 have k:PQ (Dk x) (λd=>0<=d∧d<6):=by
  simp only[Dk,aK,av];refine⟨λ_=>by decide,λ_=>⟨λ_=>by decide,λ_=>by decide⟩⟩
 exact Ok.post k h
theorem as7 (d:jB.B)(hd:0<=d.1.2∧d.1.2<=4):Ok (MA d) (λx:tx=>True):=
 ba (s:=_) (λd:jB.B=>0<=d.1.2∧d.1.2<=4) (λd:jB.B=>Int.toNat (4-d.1.2)) (λx:tx=>True) (λd hd=>by
  have hw:wI (d.1.2+1)=d.1.2+1:=bg (by omega) (by omega)
  unfold Mz
  simp only[bE]
  simp only[nf,rN,hw]
  repeat' (first|exact True.intro|omega|(intro _ h;have:=aCC h;revert this;clear h;intro this)|(intro _)|(apply And.intro))) 2000 d hd (by omega)
instance aUb (x0:Int)(x1:Bool)(x2:Bool)(x3:Bool)(x4:Bool)(x5:Bool)(x6:Bool)(x7:Bool)(x8:Bool)(x9:Int)(fP:Int)(fQ:Int):bl (Dl x0 x1 x2 x3 x4 x5 x6 x7 x8 x9 fP fQ):=by
 unfold Dl Uu
 refine aF ?_
 refine ay (as7 _ (by simp)) λd _ hd=> ?_
 simp only[bE]
instance aVq (x:Ke.B):bl (Kg x):=by
 unfold Kg aey
 try dsimp only
 exact aF (by simp only[bE])
theorem aEd (a:Nat)(i:Int)(d:pJ.B)(hd:0<=d.1.2.2.2.2.2.2∧d.1.2.2.2.2.2.2<=d.1.2.2.2.2.2.1∧d.1.2.2.2.2.2.1<=1999∧d.1.1.1=a∧d.1.2.1=i∧d.1.2.2.2.1=i∧d.1.2.2.2.2.1.1=a∧d.1.2.2.2.2.2.1=(a:Int)∧(d.1.2.2.1:Int)<=d.1.2.2.2.2.2.2∧0<=i∧i<3):Ok (aeA d) (λx:EJ=>x.1.1.1=a∧x.1.2.1=i∧x.1.2.2.2.1=i∧x.1.2.2.1<=a):=
 ba (s:=_) (λd:pJ.B=>0<=d.1.2.2.2.2.2.2∧d.1.2.2.2.2.2.2<=d.1.2.2.2.2.2.1∧d.1.2.2.2.2.2.1<=1999∧d.1.1.1=a∧d.1.2.1=i∧d.1.2.2.2.1=i∧d.1.2.2.2.2.1.1=a∧d.1.2.2.2.2.2.1=(a:Int)∧(d.1.2.2.1:Int)<=d.1.2.2.2.2.2.2∧0<=i∧i<3) (λd:pJ.B=>Int.toNat (d.1.2.2.2.2.2.1-d.1.2.2.2.2.2.2)) (λx:EJ=>x.1.1.1=a∧x.1.2.1=i∧x.1.2.2.2.1=i∧x.1.2.2.1<=a) (λd hd=>by
  have hw:wI (d.1.2.2.2.2.2.2+1)=d.1.2.2.2.2.2.2+1:=bg (by omega) (by omega)
  unfold aez
  simp only[bE]
  simp only[nf,rN,hw]
  repeat' (first|exact True.intro|omega|(intro _)|(apply And.intro))) 2000 d hd (by omega)
end Go.Proofs.YtldgljclcgaibaaGreat
