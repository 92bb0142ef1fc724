/-
  Parts of the proof: TLn TLu TLv
-/
import Derived.Test.YtldgljclcgaibaaGreatZAE
import Derived.Test.YtldgljclcgaibaaGreatZAK
import Derived.Test.YtldgljclcgaibaaGreatZAN
open Int renaming toNat→ws,ofNat→wl
set_option linter.all false
set_option maxRecDepth 100000
set_option maxHeartbeats 4000000
namespace Go.Proofs.YtldgljclcgaibaaGreat
open Go.Ab Go.Ab.Pg
theorem aY7 (w:Nat->Int):∀(d:jB.B) (hd:0<=d.1.b.2/\d.1.b.1=6/\d.2.1=w/\(∀k,d.b.1 k=0)/\∀j:Nat,(j:Int)<d.1.b.2->d.c.b.1 j=w j),Po (C9 d) (λx:rH=>match x with|.inl _=>True|.inr e=>(∀k,e.b.1 k=0)/\∀j,j<6->e.c.b.1 j=w j):=
 Dg (λd hd=>by
  obtain⟨i0,i1,ew,hl,ht⟩:=hd;unfold C8;dsimp only;rw[aX];refine⟨λc=> ?_,λc=> ?_⟩
  .have c:=cQ c;rw[i1] at c;have hw:wI (d.1.b.2+1)=d.1.b.2+1:=aY i0 (by omega);obtain⟨n,hn⟩:∃n:Nat,d.1.b.2=(n:Int):=⟨ws d.1.b.2,by omega⟩;have tn:ws d.1.b.2=n:=by omega
   rw[cU];intro _;rw[aX];refine⟨λ_=>by rw[aQ];exact trivial,λ_=> ?_⟩;rw[aX];refine⟨λ_=>by rw[aQ];exact trivial,λ_=> ?_⟩;rw[cU];intro _;rw[cU];intro _;rw[aQ,hw,tn];refine⟨by show 0<=d.1.b.2+1;omega,i1,ew,λk=> ?_,λj hj=> ?_⟩
   .show(bif Nat.beq k n then 0 else d.b.1 k)=0;cases Nat.beq k n
    .exact hl k
    .rfl
   .have hj:(j:Int)<d.1.b.2+1:=hj;show(bif Nat.beq j n then d.2.1 n else d.c.b.1 j)=w j;cases hb:Nat.beq j n with
    |true=>
     have e:j=n:=nQ hb;subst e;show d.2.1 j=w j;rw[ew]
    |false=>
     have ne:j≠n:=λq=>by rw[q,Lv] at hb;cases hb
     exact ht j (by omega)
  .have c:=kO c;rw[i1] at c;rw[aQ];exact⟨hl,λj hj=>ht j (by omega)⟩)
theorem a18 (x0:Int)(x1:Nat)(w:Nat->Int)(w0:Bool):Po (rI x0 x1 w w0) (λr:wo=>match r with|.inl _=>True|.inr e=>(∀k,e.1 k=0)/\∀j,j<6->e.c.1 j=w j):=by
 unfold rI GX;show PW _ _;try dsimp only
 rw[aX];refine⟨λ_=>by rw[aQ];exact trivial,λ_=> ?_⟩;rw[aX];refine⟨λ_=>by rw[aQ];exact trivial,λ_=> ?_⟩;rw[aX];refine⟨λ_=>by rw[aQ];exact trivial,λc=> ?_⟩
 have c:wl x1=6:=by
  have c:(!(wl x1==6))=false:=c;rw[afs] at c;exact eq_of_beq c
 repeat (rw[cU];intro _)
 refine bB (aY7 w _ ⟨dg 0,c,rfl,λ_=>rfl,λj hj=>absurd hj (by show ¬(j:Int)<0;omega)⟩) λy _ hy=> ?_;rw[iz];refine⟨λa ha=>by rw[aQ];exact trivial,λa ha=> ?_⟩;subst ha;rw[aQ];exact hy
theorem a19 (x0:Int):Po (uB x0) (λr:DR=>match r with|.inl _=>True|.inr e=>e=x0):=by
 unfold uB Jx;show PW _ _;try dsimp only
 repeat' (first
  |(rw[kQ];exact trivial)
  |(rw[iz];refine⟨λa ha=> ?_,λa ha=> ?_⟩<;>subst ha)
  |(rw[qu];refine⟨λa ha=> ?_,λa ha=> ?_⟩<;>subst ha)
  |(rw[aX];refine⟨λc=> ?_,λc=> ?_⟩)
  |(rw[dz];intro _ _))
 all_goals (rw[aQ]<;>first|exact trivial|exact rfl)
theorem aY8 (x:Ks.B)(h0:x.c.2.1.1=10000)(h1:x.c.2.1.2.1=10000)(h2:x.c.2.1.b.1=10000)(h3:x.c.2.1.b.2.1=10000)(h4:x.c.2.1.c.1=10000)(h5:x.c.2.1.c.2=10000):Po (Al x) (λr:PX=>match r with|.inl _=>True|.inr e=>e.1.2.1=x.2.1/\e.1.e.b.1=x.d.1/\e.b.1=x.1/\(∀k,e.d.b.1.1 k=0)/\(∀j,j<6->e.d.b.1.c.1 j=10000)):=by
 unfold Al YQ;try dsimp only
 show PW _ _;try dsimp only
 repeat' (first
  |(with_reducible refine bB (a18 _ _ _ _) λhn _ hhn=> ?_)
  |(with_reducible refine bB (a19 _) λdn _ hdn=> ?_)
  |(rw[kQ];exact trivial)
  |(rw[iz];refine⟨λa ha=> ?_,λa ha=> ?_⟩<;>subst ha)
  |(rw[qu];refine⟨λa ha=> ?_,λa ha=> ?_⟩<;>subst ha)
  |(rw[aX];refine⟨λc=> ?_,λc=> ?_⟩)
  |(rw[dz];intro _ _))
 all_goals
  rw[aQ];first
  |exact trivial
  |(refine⟨rfl,rfl,hdn,hhn.1,λj hj=> ?_⟩
    rw[hhn.2 j hj];have cs:j=0∨j=1∨j=2∨j=3∨j=4∨j=5:=by omega
    rcases cs with rfl|rfl|rfl|rfl|rfl|rfl
    .exact h0
    .exact h1
    .exact h2
    .exact h3
    .exact h4
    .exact h5)
theorem aUG:∀(d:lz.B) (hd:0<=d.1.2/\d.1.2<=6/\(0<d.1.2->d.d.2.1=10000)/\(1<d.1.2->d.d.b.1=10000)/\(2<d.1.2->d.d.b.2.1=10000)/\(3<d.1.2->d.d.c.1=10000)/\(4<d.1.2->d.d.c.2.1=10000)/\(5<d.1.2->d.d.c.b.1=10000)),Ok (Kz d) (λx:xm=>x.d.2.1=10000/\x.d.b.1=10000/\x.d.b.2.1=10000/\x.d.c.1=10000/\x.d.c.2.1=10000/\x.d.c.b.1=10000):=
 bp (λd:lz.B=>ws (6-d.1.2)) (λd hd=>by
  obtain⟨i0,i1,t0,t1,t2,t3,t4,t5⟩:=hd;unfold Ky;dsimp only;rw[aK];refine⟨λc=> ?_,λc=> ?_⟩
  .have c:=cQ c;have hw:wI (d.1.2+1)=d.1.2+1:=aY;have r0:bb d.1.2 6=true:=by rw[bk];omega
   rw[r0,aC];have ms:ws (6-wI (d.1.2+1))<ws (6-d.1.2):=by rw[hw];omega
   have b0:0<=wI (d.1.2+1):=by rw[hw];omega
   have b1:wI (d.1.2+1)<=6:=by rw[hw];omega
   repeat' (first
    |(rw[aK];refine⟨λq=> ?_,λq=> ?_⟩<;>first|have q:=eq_of_beq q|have q:=akI q))
   .rw[av];exact⟨⟨b0,b1,λq=>t0 (by have q:0<wI (d.1.2+1):=q;rw[hw] at q;omega),λq=>t1 (by have q:1<wI (d.1.2+1):=q;rw[hw] at q;omega),λq=>t2 (by have q:2<wI (d.1.2+1):=q;rw[hw] at q;omega),λq=>t3 (by have q:3<wI (d.1.2+1):=q;rw[hw] at q;omega),λq=>t4 (by have q:4<wI (d.1.2+1):=q;rw[hw] at q;omega),λ_=>rfl⟩,ms⟩
   .rw[av];exact⟨⟨b0,b1,λq=>t0 (by have q:0<wI (d.1.2+1):=q;rw[hw] at q;omega),λq=>t1 (by have q:1<wI (d.1.2+1):=q;rw[hw] at q;omega),λq=>t2 (by have q:2<wI (d.1.2+1):=q;rw[hw] at q;omega),λq=>t3 (by have q:3<wI (d.1.2+1):=q;rw[hw] at q;omega),λ_=>rfl,λq=>t5 (by have q:5<wI (d.1.2+1):=q;rw[hw] at q;omega)⟩,ms⟩
   .rw[av];exact⟨⟨b0,b1,λq=>t0 (by have q:0<wI (d.1.2+1):=q;rw[hw] at q;omega),λq=>t1 (by have q:1<wI (d.1.2+1):=q;rw[hw] at q;omega),λq=>t2 (by have q:2<wI (d.1.2+1):=q;rw[hw] at q;omega),λ_=>rfl,λq=>t4 (by have q:4<wI (d.1.2+1):=q;rw[hw] at q;omega),λq=>t5 (by have q:5<wI (d.1.2+1):=q;rw[hw] at q;omega)⟩,ms⟩
   .rw[av];exact⟨⟨b0,b1,λq=>t0 (by have q:0<wI (d.1.2+1):=q;rw[hw] at q;omega),λq=>t1 (by have q:1<wI (d.1.2+1):=q;rw[hw] at q;omega),λ_=>rfl,λq=>t3 (by have q:3<wI (d.1.2+1):=q;rw[hw] at q;omega),λq=>t4 (by have q:4<wI (d.1.2+1):=q;rw[hw] at q;omega),λq=>t5 (by have q:5<wI (d.1.2+1):=q;rw[hw] at q;omega)⟩,ms⟩
   .rw[av];exact⟨⟨b0,b1,λq=>t0 (by have q:0<wI (d.1.2+1):=q;rw[hw] at q;omega),λ_=>rfl,λq=>t2 (by have q:2<wI (d.1.2+1):=q;rw[hw] at q;omega),λq=>t3 (by have q:3<wI (d.1.2+1):=q;rw[hw] at q;omega),λq=>t4 (by have q:4<wI (d.1.2+1):=q;rw[hw] at q;omega),λq=>t5 (by have q:5<wI (d.1.2+1):=q;rw[hw] at q;omega)⟩,ms⟩
   .rw[av];exact⟨⟨b0,b1,λ_=>rfl,λq=>t1 (by have q:1<wI (d.1.2+1):=q;rw[hw] at q;omega),λq=>t2 (by have q:2<wI (d.1.2+1):=q;rw[hw] at q;omega),λq=>t3 (by have q:3<wI (d.1.2+1):=q;rw[hw] at q;omega),λq=>t4 (by have q:4<wI (d.1.2+1):=q;rw[hw] at q;omega),λq=>t5 (by have q:5<wI (d.1.2+1):=q;rw[hw] at q;omega)⟩,ms⟩
  .have c:=kO c;rw[av];exact⟨t0 (by omega),t1 (by omega),t2 (by omega),t3 (by omega),t4 (by omega),t5 (by omega)⟩) (λd hd=>by omega)
theorem aUH (x:Lf.B)(h0:x.c.2.1.1=10000)(h1:x.c.2.1.2.1=10000)(h2:x.c.2.1.b.1=10000)(h3:x.c.2.1.b.2.1=10000)(h4:x.c.2.1.c.1=10000)(h5:x.c.2.1.c.2=10000):Po (Gj x) (λr:Sf=>match r with|.inl _=>True|.inr e=>e.1.2.1=x.2.1/\e.1.e.b.1=x.d.1/\e.b.1=x.1/\(∀k,e.d.b.1.1 k=0)/\(∀j,j<6->e.d.b.1.c.1 j=10000)):=by
 unfold Gj aaT;show PW _ _;rw[dz];intro r hr;have k:=aY8 x h0 h1 h2 h3 h4 h5 r hr;cases r with
 |inl a=>
  rw[aX];refine⟨λ_=> ?_,λc=>Bool.noConfusion c⟩;rw[dz];intro _ _;rw[aQ];exact trivial
 |inr a=>
  rw[aX];refine⟨λc=>Bool.noConfusion c,λ_=> ?_⟩;rw[dz];intro b hb;have hb:=Od hb;subst hb;rw[aQ];exact k
theorem aUJ (x:mN.B):Ok (gm x) (λr:tx=>(r.1,r.2.1,r.b.1,r.b.2.1)=x.1.c.2.1):=by
 refine(bn.Ok (aoB x) (Q:=λ_=>True) λ_ _=>trivial).with (R:=λr:tx=>(r.1,r.2.1,r.b.1,r.b.2.1)=x.1.c.2.1) ?_|>.mono λ_ h=>h.2
 unfold gm tz;try dsimp only
 show PW _ _;rw[dz];intro _ _;rw[dz];intro _ _;rw[aQ]
theorem aHy (x:pe.B):Ok (wx x) (λr:G6=>r=true):=by
 unfold wx P';try dsimp only
 show PQ _ _;rw[show Vy=some true from rfl,bT,show(!true)=false from rfl,uh];refine ay (aUG _ ⟨dg 0,(show(0:Int)<=6 by decide),λq=>absurd q (show ¬(0:Int)<0 by decide),λq=>absurd q (show ¬(1:Int)<0 by decide),λq=>absurd q (show ¬(2:Int)<0 by decide),λq=>absurd q (show ¬(3:Int)<0 by decide),λq=>absurd q (show ¬(4:Int)<0 by decide),λq=>absurd q (show ¬(5:Int)<0 by decide)⟩) λd _ hd=> ?_;obtain⟨t0,t1,t2,t3,t4,t5⟩:=hd;with_reducible refine ay ((aUz _).with (aUH _ ?_ ?_ ?_ ?_ ?_ ?_)) λr _ hr=> ?_
 .exact t0
 .exact t1
 .exact t2
 .exact t3
 .exact t4
 .exact t5
 cases r with
 |inl a=>
  have aOY:=hr.1;simp only[aC,bT];rw[show oY _=some false from aOY,bT,av];rfl
 |inr a=>
 obtain⟨⟨⟨b0,b1,o0,o1⟩,s0,s1,s2,s3,s4,s5,u⟩,f1,f8,f2,fl,ft⟩:=hr;have b0:1<=d.2.1:=b0;have b1:d.2.1<=64:=b1;have o0:1<=d.e.c.1:=o0;have o1:d.e.c.1<=64:=o1;simp only[uh,bT];obtain⟨N,hN⟩:∃N:Nat,d.e.c.1=(N:Int):=⟨ws d.e.c.1,(Int.toNat_of_nonneg (by omega)).symm⟩;have pb:∀y:Int,y=d.2.1->Pb d.2.1 ((0,0,0,0,0),y,0, -9223372036854775808):=λy e=>⟨e,by show((0:Nat):Int)<=d.2.1;omega⟩
 with_reducible refine ay (aUD N (by omega) (by omega) d.2.1 b1 _ ⟨?_,?_,?_⟩) λy _ hy=> ?_
 .exact dg 0
 .show(0:Int)<=20;decide
 .exact⟨⟨dg 0,⟨λ_=>dg 0,dg 0,λi k _ h=>absurd h (Nat.not_lt_zero _)⟩,pb _ s0,pb _ s1,pb _ s2,pb _ s3,pb _ s4,pb _ s5,u.trans hN,Nat.zero_le _⟩,⟨f1,f8,⟨dg 0,dg 0⟩,rfl,f2,rfl,dg 0,(show(0:Int)<=100000 by decide),λ_=>rfl,⟨dg 0,(show(0:Int)<=1125899906842624 by decide)⟩,λk=>⟨by show 0<=a.d.b.1.1 k;rw[fl k];decide,by show a.d.b.1.1 k<=0;rw[fl k];decide⟩,ft⟩,λj h=>absurd h (Nat.not_lt_zero j),λj h=>absurd h (Nat.not_lt_zero j),λj h=>absurd h (Nat.not_lt_zero j),λj h=>absurd h (Nat.not_lt_zero j),λj h=>absurd h (Nat.not_lt_zero j),λj h=>absurd h (Nat.not_lt_zero j)⟩
 rw[qy];refine⟨λz hz=> ?_,λz hz=> ?_⟩<;>subst hz
 a0u
 rw[qy];refine⟨λz hz=> ?_,λz hz=> ?_⟩<;>subst hz
 all_goals
  dsimp only[Js] at hy
  obtain⟨is,hJ,c0,c1,c2,c3,c4,c5⟩:=hy;have hJ':=hJ;obtain⟨j1,j8,ja,jq,jt,jS,jp0,jp1,aYW,⟨jL0,jL1⟩,jl,jw⟩:=hJ';rw[aK];refine⟨λ_=>by rw[av],λcl=> ?_⟩;have cl:=kO cl;have cl:z.2.1.1<=562949953421312:=Int.not_lt.mp cl;with_reducible refine ay (aUF N (by omega) (by omega) d.2.1 b1 z.2.1.1 jL0 cl _ ⟨?_,?_,?_,?_,?_,?_,?_,?_,?_,?_,?_,?_,?_,?_,?_⟩) λv _ hv=> ?_
  .exact dg 0
  .show(0:Int)<=8;decide
  .exact is
  .show z.2.1.1=z.2.1.1+8000*0;omega
  .exact j1
  .exact j8
  .exact jq
  .exact jt
  .exact jS
  .exact jp0
  .exact jp1
  .exact jw
  .exact λ_=>⟨hJ,c0,c1,c2,c3,c4,c5⟩
  .exact λn=>absurd n (show ¬(1:Int)<=0 by decide)
  .exact λn=>absurd n (show ¬(4:Int)<=0 by decide)
  unfold Dc;try dsimp only
  try dsimp only
  obtain⟨ve,_,_,_,_,_,_,_,vw,_,_,_,_,_,_,_,vl,⟨q0,q2,q3⟩,vt⟩:=hv;simp only[aN];repeat rw[aC]
  with_reducible refine ay ((aUJ _).with (aUI _).po) λss _ hss=> ?_
  have hm:(ss.1,ss.2.1,ss.b.1,ss.b.2.1)=v.b.2.1.c.2.1:=hss.1;have hT:ss.c.1=v.b.2.1.d.c.2.1:=hss.2;have m0:ss.1=v.b.2.1.c.2.1.1:=ck (λz=>z.1) hm;have m2:ss.b.1=v.b.2.1.c.2.1.b.1:=ck (λz=>z.b.1) hm;have m3:ss.b.2.1=v.b.2.1.c.2.1.b.2:=ck (λz=>z.b.2) hm;rw[show ss.b.1=false from m2.trans q2,uh,aK];refine⟨λc=>absurd (m0.symm.trans (eq_of_beq c)) q0,λ_=> ?_⟩;rw[aK];refine⟨λc=> ?_,λ_=> ?_⟩
  .have c:=cQ c;rw[show ss.b.2.1=true from m3.trans (q3 (by rw[<-m0];exact c)),show(!true)=false from rfl,uh];with_reducible refine ay (aI3 (z.2.1.1+8000) _ ⟨?_,?_,?_,?_,?_,?_⟩) λu _ hu=> ?_
   .exact dg 0
   .show(0:Int)<=6;decide
   .exact vl
   .exact vw
   .show z.2.1.1+8000+10000<ss.c.1;rw[hT,vt,ve];omega
   .show ss.c.1<=4000000000000000;rw[hT,vt,ve];omega
   rw[qy];refine⟨λa e=>by subst e;exact absurd hu id,λa e=>by rw[av]⟩
  .with_reducible refine ay (aI3 (z.2.1.1+8000) _ ⟨?_,?_,?_,?_,?_,?_⟩) λu _ hu=> ?_
   .exact dg 0
   .show(0:Int)<=6;decide
   .exact vl
   .exact vw
   .show z.2.1.1+8000+10000<ss.c.1;rw[hT,vt,ve];omega
   .show ss.c.1<=4000000000000000;rw[hT,vt,ve];omega
   rw[qy];refine⟨λa e=>by subst e;exact absurd hu id,λa e=>by rw[av]⟩
theorem aY9 (x:pe.B):wx x=some true:=by
 obtain⟨r,e,h⟩:=aHy x;rw[e,h]
end Go.Proofs.YtldgljclcgaibaaGreat
