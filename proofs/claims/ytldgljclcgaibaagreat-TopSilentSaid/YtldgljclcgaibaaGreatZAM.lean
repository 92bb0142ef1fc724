/-
  Parts of the proof: TAk TLc TLk TLd TLo TLf TLj TLg TLe TLh TLm TLp TLq TSi TLi
-/
import Derived.Test.YtldgljclcgaibaaGreatZAE
import Derived.Test.YtldgljclcgaibaaGreatZAK
open Int renaming toNat→ws,ofNat→wl
open Sum renaming elim→t8
set_option linter.all false
set_option maxRecDepth 100000
set_option maxHeartbeats 4000000
namespace Go.Proofs.YtldgljclcgaibaaGreat
open Go.Ab Go.Ab.Pg
theorem ahI (t:Int):M8 t 8000=some (t,8000, -84238486):=by kernel_rfl
theorem aaB {α:Type}{o:Option α}{v:α}(h:o=some v):Ok o (λr=>r=v):=⟨v,h,rfl⟩
theorem aOA (N:Nat)(h1:1<=N)(hN:N<=1999)(x:fO.B)(hq:x.2.1.c.1<=1998)(l0:x.c.2.1.b.1<=64)(l1:x.c.b.1.b.1<=64)(l2:x.c.b.2.1.b.1<=64)(l3:x.d.1.b.1<=64)(l4:x.d.2.1.b.1<=64)(l5:x.d.b.1.b.1<=64)(hs:x.d.c.1.1<=(N:Int))(hl:x.d.c.1.2.2<=N)(tq:Tq x.2.1.d.c.2.1 x.b.2.1.2.1.1 x.b.2.1.2.2 x.2.1.c.1 x.c.1.1):
  Ok (cX x) (λe:kh=>e.1.c.2.1.2<=x.2.1.c.1+1/\Tq e.1.d.c.b.1 e.b.1.2.1.1 e.b.1.2.2 e.1.c.2.1.2 (λi=>e.b.2.1.2.1 (e.1.c.2.1.1+i))/\x.2.1.d.c.2.1<=e.1.d.c.b.1/\BR e.1.d.c.b.1 x.c.2.1 e.c.1/\BR e.1.d.c.b.1 x.c.b.1 e.c.2.1/\BR e.1.d.c.b.1 x.c.b.2.1 e.c.b.1/\BR e.1.d.c.b.1 x.d.1 e.c.b.2.1/\BR e.1.d.c.b.1 x.d.2.1 e.d.1/\BR e.1.d.c.b.1 x.d.b.1 e.d.2.1/\e.d.b.2.1.1=x.d.c.1.1/\e.d.b.2.1.2.2<=N):=by
 unfold cX re;try dsimp only
 show PQ _ _;try dsimp only
 rw[ahI,dH];simp only[aM,aR];with_reducible refine ay (aSH N h1 hN _ ?_ ?_ ?_ ?_ ?_ ?_ ?_ ?_ ?_ ?_ ?_) λe _ he=> ?_
 .exact hq
 .exact l0
 .exact l1
 .exact l2
 .exact l3
 .exact l4
 .exact l5
 .exact hs
 .exact hl
 .exact tq.1
 .exact tq.2
 obtain⟨e4,eh,et,eq,b0,b1,b2,b3,b4,b5,u0,u1⟩:=he;rw[aK];refine⟨λ_=> ?_,λ_=> ?_⟩
 all_goals
  repeat rw[aR]
  refine ay (aaB (rfl:iy _=some _)) λd _ hd=> ?_;subst hd;rw[av];exact⟨e4,⟨eh,eq⟩,et,b0,b1,b2,b3,b4,b5,u0,u1⟩
theorem aRu (N:Nat)(h1:1<=N)(hN:N<=1999)(q:Int)(hq:q+40<=1998)(w d:ey.B)(l0:w.c.b.2.1.b.1<=64)(l1:w.d.1.b.1<=64)(l2:w.d.2.1.b.1<=64)(l3:w.d.b.1.b.1<=64)(l4:w.d.b.2.1.b.1<=64)(l5:w.d.c.1.b.1<=64)(WS:w.d.c.b.1.1<=(N:Int))(hd:0<=d.1.1/\d.1.1<=40/\((d.b.2.1.c.1.2:Nat):Int)<=q+d.1.1/\Tq d.b.2.1.d.c.2.1 d.c.2.1.2.1.1 d.c.2.1.2.2 d.b.2.1.c.1.2 (λi=>d.c.b.1.2.1 (d.b.2.1.c.1.1+i))/\w.b.2.1.d.c.2.1<=d.b.2.1.d.c.2.1/\BR d.b.2.1.d.c.2.1 w.c.b.2.1 d.c.b.2.1/\BR d.b.2.1.d.c.2.1 w.d.1 d.d.1/\BR d.b.2.1.d.c.2.1 w.d.2.1 d.d.2.1/\BR d.b.2.1.d.c.2.1 w.d.b.1 d.d.b.1/\BR d.b.2.1.d.c.2.1 w.d.b.2.1 d.d.b.2.1/\BR d.b.2.1.d.c.2.1 w.d.c.1 d.d.c.1/\d.d.c.b.1.1=w.d.c.b.1.1/\d.d.c.b.1.2.2<=N):Ok (na d) (λx:m9=>match x with|.inl x=>((x.b.2.1.c.1.2:Nat):Int)<=q+40/\Tq x.b.2.1.d.c.2.1 x.c.2.1.2.1.1 x.c.2.1.2.2 x.b.2.1.c.1.2 (λi=>x.c.b.1.2.1 (x.b.2.1.c.1.1+i))/\w.b.2.1.d.c.2.1<=x.b.2.1.d.c.2.1/\BR x.b.2.1.d.c.2.1 w.c.b.2.1 x.c.b.2.1/\BR x.b.2.1.d.c.2.1 w.d.1 x.d.1/\BR x.b.2.1.d.c.2.1 w.d.2.1 x.d.2.1/\BR x.b.2.1.d.c.2.1 w.d.b.1 x.d.b.1/\BR x.b.2.1.d.c.2.1 w.d.b.2.1 x.d.b.2.1/\BR x.b.2.1.d.c.2.1 w.d.c.1 x.d.c.1/\x.d.c.b.1.1=w.d.c.b.1.1/\x.d.c.b.1.2.2<=N|.inr (.inl x)=>((x.b.2.1.c.1.2:Nat):Int)<=q+40/\Tq x.b.2.1.d.c.2.1 x.c.2.1.2.1.1 x.c.2.1.2.2 x.b.2.1.c.1.2 (λi=>x.c.b.1.2.1 (x.b.2.1.c.1.1+i))/\w.b.2.1.d.c.2.1<=x.b.2.1.d.c.2.1/\BR x.b.2.1.d.c.2.1 w.c.b.2.1 x.c.b.2.1/\BR x.b.2.1.d.c.2.1 w.d.1 x.d.1/\BR x.b.2.1.d.c.2.1 w.d.2.1 x.d.2.1/\BR x.b.2.1.d.c.2.1 w.d.b.1 x.d.b.1/\BR x.b.2.1.d.c.2.1 w.d.b.2.1 x.d.b.2.1/\BR x.b.2.1.d.c.2.1 w.d.c.1 x.d.c.1/\x.d.c.b.1.1=w.d.c.b.1.1/\x.d.c.b.1.2.2<=N|.inr (.inr (.inl x))=>((x.b.2.1.c.1.2:Nat):Int)<=q+40/\Tq x.b.2.1.d.c.2.1 x.c.2.1.2.1.1 x.c.2.1.2.2 x.b.2.1.c.1.2 (λi=>x.c.b.1.2.1 (x.b.2.1.c.1.1+i))/\w.b.2.1.d.c.2.1<=x.b.2.1.d.c.2.1/\BR x.b.2.1.d.c.2.1 w.c.b.2.1 x.c.b.2.1/\BR x.b.2.1.d.c.2.1 w.d.1 x.d.1/\BR x.b.2.1.d.c.2.1 w.d.2.1 x.d.2.1/\BR x.b.2.1.d.c.2.1 w.d.b.1 x.d.b.1/\BR x.b.2.1.d.c.2.1 w.d.b.2.1 x.d.b.2.1/\BR x.b.2.1.d.c.2.1 w.d.c.1 x.d.c.1/\x.d.c.b.1.1=w.d.c.b.1.1/\x.d.c.b.1.2.2<=N|.inr (.inr (.inr x))=>((x.b.2.1.c.1.2:Nat):Int)<=q+40/\Tq x.b.2.1.d.c.2.1 x.c.2.1.2.1.1 x.c.2.1.2.2 x.b.2.1.c.1.2 (λi=>x.c.b.1.2.1 (x.b.2.1.c.1.1+i))/\w.b.2.1.d.c.2.1<=x.b.2.1.d.c.2.1/\BR x.b.2.1.d.c.2.1 w.c.b.2.1 x.c.b.2.1/\BR x.b.2.1.d.c.2.1 w.d.1 x.d.1/\BR x.b.2.1.d.c.2.1 w.d.2.1 x.d.2.1/\BR x.b.2.1.d.c.2.1 w.d.b.1 x.d.b.1/\BR x.b.2.1.d.c.2.1 w.d.b.2.1 x.d.b.2.1/\BR x.b.2.1.d.c.2.1 w.d.c.1 x.d.c.1/\x.d.c.b.1.1=w.d.c.b.1.1/\x.d.c.b.1.2.2<=N):=by
 revert d
 exact bL (λd:ey.B=>ws (40-d.1.1)) (λd hd=>by
  obtain⟨c0,c1,i0,tq,wt,s0,s1,s2,s3,s4,s5,p0,p1⟩:=hd;unfold Aq;try dsimp only
  try dsimp only
  have fin:((d.b.2.1.c.1.2:Nat):Int)<=q+40:=by omega
  rw[aK];refine⟨λ_=> ?_,λ_=>by rw[av];exact⟨fin,tq,wt,s0,s1,s2,s3,s4,s5,p0,p1⟩⟩;rw[aK];refine⟨λh=> ?_,λ_=>by rw[av];exact⟨fin,tq,wt,s0,s1,s2,s3,s4,s5,p0,p1⟩⟩;have h:=eF h;rw[aK];refine⟨λ_=> ?_,λ_=>by rw[av];exact⟨fin,tq,wt,s0,s1,s2,s3,s4,s5,p0,p1⟩⟩;rw[aK];refine⟨λ_=> ?_,λ_=>by rw[av];exact⟨fin,tq,wt,s0,s1,s2,s3,s4,s5,p0,p1⟩⟩;simp only[aM,aR];have hw:wI (d.1.1+1)=d.1.1+1:=bk;with_reducible refine ay (aOA N h1 hN _ ?_ ?_ ?_ ?_ ?_ ?_ ?_ ?_ ?_ ?_) λe _ he=> ?_
  .show d.b.2.1.c.1.2<=1998;omega
  .exact bZ s0.len l0
  .exact bZ s1.len l1
  .exact bZ s2.len l2
  .exact bZ s3.len l3
  .exact bZ s4.len l4
  .exact bZ s5.len l5
  .show d.d.c.b.1.1<=(N:Int);rw[p0];exact WS
  .exact p1
  .exact tq
  obtain⟨e4,eq,et,b0,b1,b2,b3,b4,b5,u0,u1⟩:=he;have e4:e.1.c.2.1.2<=d.b.2.1.c.1.2+1:=e4;have et:d.b.2.1.d.c.2.1<=e.1.d.c.b.1:=et;have u0:e.d.b.2.1.1=d.d.c.b.1.1:=u0;rw[av,hw];exact⟨⟨by show 0<=d.1.1+1;omega,by show d.1.1+1<=40;omega,by show((e.1.c.2.1.2:Nat):Int)<=q+(d.1.1+1);omega,eq,As wt et,(s0.mono et).trans b0,(s1.mono et).trans b1,(s2.mono et).trans b2,(s3.mono et).trans b3,(s4.mono et).trans b4,(s5.mono et).trans b5,u0.trans p0,u1⟩,by show ws (40-(d.1.1+1))<ws (40-d.1.1);omega⟩) (λd hd=>by omega)
theorem aOB (N:Nat)(h1:1<=N)(hN:N<=1999)(q:Int)(hq:q+40<=1998)(d:ey.B)(l0:d.c.b.2.1.b.1<=64)(l1:d.d.1.b.1<=64)(l2:d.d.2.1.b.1<=64)(l3:d.d.b.1.b.1<=64)(l4:d.d.b.2.1.b.1<=64)(l5:d.d.c.1.b.1<=64)(WS:d.d.c.b.1.1<=(N:Int))(c0:d.1.1=0)(i0:((d.b.2.1.c.1.2:Nat):Int)<=q)(tq:Tq d.b.2.1.d.c.2.1 d.c.2.1.2.1.1 d.c.2.1.2.2 d.b.2.1.c.1.2 (λi=>d.c.b.1.2.1 (d.b.2.1.c.1.1+i)))(p1:d.d.c.b.1.2.2<=N):Ok (na d) (λx:m9=>match x with|.inl x=>((x.b.2.1.c.1.2:Nat):Int)<=q+40/\Tq x.b.2.1.d.c.2.1 x.c.2.1.2.1.1 x.c.2.1.2.2 x.b.2.1.c.1.2 (λi=>x.c.b.1.2.1 (x.b.2.1.c.1.1+i))/\d.b.2.1.d.c.2.1<=x.b.2.1.d.c.2.1/\BR x.b.2.1.d.c.2.1 d.c.b.2.1 x.c.b.2.1/\BR x.b.2.1.d.c.2.1 d.d.1 x.d.1/\BR x.b.2.1.d.c.2.1 d.d.2.1 x.d.2.1/\BR x.b.2.1.d.c.2.1 d.d.b.1 x.d.b.1/\BR x.b.2.1.d.c.2.1 d.d.b.2.1 x.d.b.2.1/\BR x.b.2.1.d.c.2.1 d.d.c.1 x.d.c.1/\x.d.c.b.1.1=d.d.c.b.1.1/\x.d.c.b.1.2.2<=N|.inr (.inl x)=>((x.b.2.1.c.1.2:Nat):Int)<=q+40/\Tq x.b.2.1.d.c.2.1 x.c.2.1.2.1.1 x.c.2.1.2.2 x.b.2.1.c.1.2 (λi=>x.c.b.1.2.1 (x.b.2.1.c.1.1+i))/\d.b.2.1.d.c.2.1<=x.b.2.1.d.c.2.1/\BR x.b.2.1.d.c.2.1 d.c.b.2.1 x.c.b.2.1/\BR x.b.2.1.d.c.2.1 d.d.1 x.d.1/\BR x.b.2.1.d.c.2.1 d.d.2.1 x.d.2.1/\BR x.b.2.1.d.c.2.1 d.d.b.1 x.d.b.1/\BR x.b.2.1.d.c.2.1 d.d.b.2.1 x.d.b.2.1/\BR x.b.2.1.d.c.2.1 d.d.c.1 x.d.c.1/\x.d.c.b.1.1=d.d.c.b.1.1/\x.d.c.b.1.2.2<=N|.inr (.inr (.inl x))=>((x.b.2.1.c.1.2:Nat):Int)<=q+40/\Tq x.b.2.1.d.c.2.1 x.c.2.1.2.1.1 x.c.2.1.2.2 x.b.2.1.c.1.2 (λi=>x.c.b.1.2.1 (x.b.2.1.c.1.1+i))/\d.b.2.1.d.c.2.1<=x.b.2.1.d.c.2.1/\BR x.b.2.1.d.c.2.1 d.c.b.2.1 x.c.b.2.1/\BR x.b.2.1.d.c.2.1 d.d.1 x.d.1/\BR x.b.2.1.d.c.2.1 d.d.2.1 x.d.2.1/\BR x.b.2.1.d.c.2.1 d.d.b.1 x.d.b.1/\BR x.b.2.1.d.c.2.1 d.d.b.2.1 x.d.b.2.1/\BR x.b.2.1.d.c.2.1 d.d.c.1 x.d.c.1/\x.d.c.b.1.1=d.d.c.b.1.1/\x.d.c.b.1.2.2<=N|.inr (.inr (.inr x))=>((x.b.2.1.c.1.2:Nat):Int)<=q+40/\Tq x.b.2.1.d.c.2.1 x.c.2.1.2.1.1 x.c.2.1.2.2 x.b.2.1.c.1.2 (λi=>x.c.b.1.2.1 (x.b.2.1.c.1.1+i))/\d.b.2.1.d.c.2.1<=x.b.2.1.d.c.2.1/\BR x.b.2.1.d.c.2.1 d.c.b.2.1 x.c.b.2.1/\BR x.b.2.1.d.c.2.1 d.d.1 x.d.1/\BR x.b.2.1.d.c.2.1 d.d.2.1 x.d.2.1/\BR x.b.2.1.d.c.2.1 d.d.b.1 x.d.b.1/\BR x.b.2.1.d.c.2.1 d.d.b.2.1 x.d.b.2.1/\BR x.b.2.1.d.c.2.1 d.d.c.1 x.d.c.1/\x.d.c.b.1.1=d.d.c.b.1.1/\x.d.c.b.1.2.2<=N):=
 aRu N h1 hN q hq d d l0 l1 l2 l3 l4 l5 WS ⟨by omega,by omega,by omega,tq,eW _,BR.refl _ _,BR.refl _ _,BR.refl _ _,BR.refl _ _,BR.refl _ _,BR.refl _ _,rfl,p1⟩
theorem aZN (N:Nat)(h1:1<=N)(hN:N<=1999)(x:lO.B)(hq:x.b.1.c.1<=1958)(l0:x.c.b.1.b.1<=64)(l1:x.c.b.2.1.b.1<=64)(l2:x.d.1.b.1<=64)(l3:x.d.2.1.b.1<=64)(l4:x.d.b.1.b.1<=64)(l5:x.d.b.2.1.b.1<=64)(hs:x.d.c.2.1.1<=(N:Int))(hl:x.d.c.2.1.2.2<=N)(tq:Tq x.b.1.d.c.2.1 x.c.1.2.1.1 x.c.1.2.2 x.b.1.c.1 x.c.2.1.1):
  Ok (jE x) (λr:tD=>match r with|.inl e=>x.1.1=1/\(e.1.2.1,e.1.2.2)=(x.b.1.1,x.b.1.2)/\e.2.1=x.b.2.1/\e.b.1=x.c.1/\e.b.2.1=x.c.2.1/\e.d.b.1=x.d.c.1/\e.d.b.2.1=x.d.c.2.1/\((¬(0<=x.1.2.1/\x.1.2.1<6)/\e.c.1=x.c.b.1/\e.c.2.1=x.c.b.2.1/\e.c.b.1=x.d.1/\e.c.b.2.1=x.d.2.1/\e.d.1=x.d.b.1/\e.d.2.1=x.d.b.2.1)∨(x.1.2.1=0/\(PR x.c.b.1 e.c.1∨SR x.c.b.1 e.c.1)/\e.c.2.1=x.c.b.2.1/\e.c.b.1=x.d.1/\e.c.b.2.1=x.d.2.1/\e.d.1=x.d.b.1/\e.d.2.1=x.d.b.2.1)∨(x.1.2.1=1/\e.c.1=x.c.b.1/\(PR x.c.b.2.1 e.c.2.1∨SR x.c.b.2.1 e.c.2.1)/\e.c.b.1=x.d.1/\e.c.b.2.1=x.d.2.1/\e.d.1=x.d.b.1/\e.d.2.1=x.d.b.2.1)∨(x.1.2.1=2/\e.c.1=x.c.b.1/\e.c.2.1=x.c.b.2.1/\(PR x.d.1 e.c.b.1∨SR x.d.1 e.c.b.1)/\e.c.b.2.1=x.d.2.1/\e.d.1=x.d.b.1/\e.d.2.1=x.d.b.2.1)∨(x.1.2.1=3/\e.c.1=x.c.b.1/\e.c.2.1=x.c.b.2.1/\e.c.b.1=x.d.1/\(PR x.d.2.1 e.c.b.2.1∨SR x.d.2.1 e.c.b.2.1)/\e.d.1=x.d.b.1/\e.d.2.1=x.d.b.2.1)∨(x.1.2.1=4/\e.c.1=x.c.b.1/\e.c.2.1=x.c.b.2.1/\e.c.b.1=x.d.1/\e.c.b.2.1=x.d.2.1/\(PR x.d.b.1 e.d.1∨SR x.d.b.1 e.d.1)/\e.d.2.1=x.d.b.2.1)∨(x.1.2.1=5/\e.c.1=x.c.b.1/\e.c.2.1=x.c.b.2.1/\e.c.b.1=x.d.1/\e.c.b.2.1=x.d.2.1/\e.d.1=x.d.b.1/\(PR x.d.b.2.1 e.d.2.1∨SR x.d.b.2.1 e.d.2.1)))|.inr e=>x.1.1≠1/\((e.2.1.c.1.2:Nat):Int)<=x.b.1.c.1+40/\Tq e.2.1.d.c.2.1 e.b.2.1.2.1.1 e.b.2.1.2.2 e.2.1.c.1.2 (λi=>e.c.1.2.1 (e.2.1.c.1.1+i))/\x.b.1.d.c.2.1<=e.2.1.d.c.2.1/\BR e.2.1.d.c.2.1 x.c.b.1 e.c.2.1/\BR e.2.1.d.c.2.1 x.c.b.2.1 e.c.b.1/\BR e.2.1.d.c.2.1 x.d.1 e.c.b.2.1/\BR e.2.1.d.c.2.1 x.d.2.1 e.d.1/\BR e.2.1.d.c.2.1 x.d.b.1 e.d.2.1/\BR e.2.1.d.c.2.1 x.d.b.2.1 e.d.b.1/\e.d.c.1.1=x.d.c.2.1.1/\e.d.c.1.2.2<=N):=by
 unfold jE El;try dsimp only
 show PQ _ _;try dsimp only
 simp only[aM,aR];rw[aK];refine⟨λo1=> ?_,λo1=> ?_⟩
 .have o1:=eq_of_beq o1;repeat rw[aR]
  with_reducible refine ay (aRt _ ?_ ?_ ?_ ?_ ?_ ?_) λe _ he=> ?_
  .exact bZ l0 (by decide)
  .exact bZ l1 (by decide)
  .exact bZ l2 (by decide)
  .exact bZ l3 (by decide)
  .exact bZ l4 (by decide)
  .exact bZ l5 (by decide)
  obtain⟨f1,f2,f3,f4,f11,f12,f13,f20,CH⟩:=he;rw[av];exact⟨o1,by show(e.2.1.1,e.2.1.2)=_;rw[f1],f2,f3,f4,f11,f12,CH⟩
 have o1:=akr o1;rw[aK];refine⟨λ_=> ?_,λ_=> ?_⟩
 .repeat rw[aR]
  with_reducible refine ay (aSH N h1 hN _ ?_ ?_ ?_ ?_ ?_ ?_ ?_ ?_ ?_ ?_ ?_) λe _ he=> ?_
  .exact bZ hq (by decide)
  .exact l0
  .exact l1
  .exact l2
  .exact l3
  .exact l4
  .exact l5
  .exact hs
  .exact hl
  .exact tq.1
  .exact tq.2
  obtain⟨e4,eh,et,eq,b0,b1,b2,b3,b4,b5,u0,u1⟩:=he;have e4:e.2.1.c.1.2<=x.b.1.c.1+1:=e4;have e5:((e.2.1.c.1.2:Nat):Int)<=x.b.1.c.1+40:=by omega
  rw[aK];refine⟨λ_=> ?_,λ_=> ?_⟩
  all_goals
   repeat rw[aR]
   refine ay (aaB (rfl:nc _=some _)) λd _ hd=> ?_;subst hd;rw[av];exact⟨o1,e5,⟨eh,eq⟩,et,b0,b1,b2,b3,b4,b5,u0,u1⟩
 .repeat rw[aR]
  with_reducible refine ay (aOB N h1 hN x.b.1.c.1 (by omega) _ l0 l1 l2 l3 l4 l5 hs ?_ ?_ ?_ ?_) λy _ hy=> ?_
  .rfl
  .show((x.b.1.c.1:Nat):Int)<=x.b.1.c.1;omega
  .exact⟨tq.1,tq.2.up (eW _) (λi=>by show x.c.2.1.1 (0+i)=_;rw[gW])⟩
  .exact hl
  rw[qc];refine⟨λa ha=> ?_,λa ha=> ?_⟩
  .subst ha;rw[av];exact⟨o1,hy⟩
  rw[qc];refine⟨λb hb=> ?_,λb hb=> ?_⟩
  .subst ha;subst hb;rw[av];exact⟨o1,hy⟩
  rw[qc];refine⟨λc hc=> ?_,λc hc=> ?_⟩
  .subst ha;subst hb;subst hc;rw[av];exact⟨o1,hy⟩
  .subst ha;subst hb;subst hc;rw[av];exact⟨o1,hy⟩
class Rb (M:outParam Int) (n:Nat) (r:Nat->Int):Prop where
 h:∀i,i<n->r i<=M
class Lm (M:outParam Int) (x:Int):Prop where
 h:x<=M
instance{M:Int}{n:Nat}{r:Nat->Int}[k:Rb M n r]:Rb M n (λj=>r (0+j)):=⟨λi hi=>by show r (0+i)<=M;rw[gW];exact k.h i hi⟩
theorem aOC (x:lr.B):Po (iR x) (λr:xc=>r.b.1=x.1.b.1):=(awD x).po.mono λr h=>by
 have h:r.2=x.1.2:=h.1;exact cM (λz=>z.2.1) h
theorem aFX (M:Int)(x:fX.B)(hs:x.1.2.1<=M)(h0:∀i,i<x.c.2.1.b.1->x.d.c.b.1.1 i<=M)(h1:∀i,i<x.c.b.1.b.1->x.d.c.b.2.1.1 i<=M)(h2:∀i,i<x.c.b.2.1.b.1->x.e.1.1 i<=M)(h3:∀i,i<x.d.1.b.1->x.e.2.1.1 i<=M)(h4:∀i,i<x.d.2.1.b.1->x.e.b.1.1 i<=M)(h5:∀i,i<x.d.b.1.b.1->x.e.b.2.1.1 i<=M):Po (dF x) (λe:kg=>(∀i,i<e.c.2.1.b.1->e.d.c.b.1.2.1 i<=M)/\(∀i,i<e.c.b.1.b.1->e.d.c.b.2.1.2.1 i<=M)/\(∀i,i<e.c.b.2.1.b.1->e.e.1.2.1 i<=M)/\(∀i,i<e.d.1.b.1->e.e.2.1.2.1 i<=M)/\(∀i,i<e.d.2.1.b.1->e.e.b.1.2.1 i<=M)/\(∀i,i<e.d.b.1.b.1->e.e.b.2.1.2.1 i<=M)):=by
 unfold dF pF;try dsimp only
 show PW _ _;try dsimp only
 have hy:(0:Nat)=0:=rfl
 repeat' (first
  |(rw[kn];exact trivial)
  |(with_reducible refine bu (aZd M _ ?_ ?_) λy _ hy=> ?_)
  |(with_reducible refine bu (aOC _) λy _ hy=> ?_)
  |(rw[hX];refine⟨λa ha=> ?_,λa ha=> ?_⟩<;>subst ha)
  |(rw[pZ];refine⟨λa ha=> ?_,λa ha=> ?_⟩<;>subst ha)
  |(rw[aW];refine⟨λ_=> ?_,λ_=> ?_⟩)
  |(rw[du];intro _ _))
 all_goals first
  |exact hs
  |exact h0
  |exact h1
  |exact h2
  |exact h3
  |exact h4
  |exact h5
  |(rw[aP]
    refine⟨?_,?_,?_,?_,?_,?_⟩<;>first|exact h0|exact h1|exact h2|exact h3|exact h4|exact h5|exact hy|exact λi hi=>h0 i (Nat.lt_of_lt_of_eq hi hy)|exact λi hi=>h1 i (Nat.lt_of_lt_of_eq hi hy)|exact λi hi=>h2 i (Nat.lt_of_lt_of_eq hi hy)|exact λi hi=>h3 i (Nat.lt_of_lt_of_eq hi hy)|exact λi hi=>h4 i (Nat.lt_of_lt_of_eq hi hy)|exact λi hi=>h5 i (Nat.lt_of_lt_of_eq hi hy))
variable {M:Int}
instance a3D (x:om.B)[k:Rb M x.2.1.b.1 x.b.1]:Mo (j7 x) (λx=>Rb M x.2.1.b.1 x.b.2.1):=⟨(aSv M x k.h).mono λe h=>⟨h.1⟩⟩
instance aZO (x:fX.B)[m:Lm M x.1.2.1][k0:Rb M x.c.2.1.b.1 x.d.c.b.1.1][k1:Rb M x.c.b.1.b.1 x.d.c.b.2.1.1][k2:Rb M x.c.b.2.1.b.1 x.e.1.1][k3:Rb M x.d.1.b.1 x.e.2.1.1][k4:Rb M x.d.2.1.b.1 x.e.b.1.1][k5:Rb M x.d.b.1.b.1 x.e.b.2.1.1]:Mo (dF x) (λx=>Rb M x.c.2.1.b.1 x.d.c.b.1.2.1/\Rb M x.c.b.1.b.1 x.d.c.b.2.1.2.1/\Rb M x.c.b.2.1.b.1 x.e.1.2.1/\Rb M x.d.1.b.1 x.e.2.1.2.1/\Rb M x.d.2.1.b.1 x.e.b.1.2.1/\Rb M x.d.b.1.b.1 x.e.b.2.1.2.1):=⟨(aFX M x m.h k0.h k1.h k2.h k3.h k4.h k5.h).mono λe h=>⟨⟨h.1⟩,⟨h.2.1⟩,⟨h.b.1⟩,⟨h.b.2.1⟩,⟨h.c.1⟩,⟨h.c.2⟩⟩⟩
instance aLm (d:bG.B)[Rb M d.c.2.1.b.1 d.e.2.1.1][Rb M d.c.b.1.b.1 d.e.b.1.1][Rb M d.c.b.2.1.b.1 d.e.b.2.1.1][Rb M d.d.1.b.1 d.e.c.1.1][Rb M d.d.2.1.b.1 d.e.c.2.1.1][Rb M d.d.b.1.b.1 d.e.c.b.1.1]:Mo (gv d) (λx=>Rb M x.c.2.1.b.1 x.e.2.1.1/\Rb M x.c.b.1.b.1 x.e.b.1.1/\Rb M x.c.b.2.1.b.1 x.e.b.2.1.1/\Rb M x.d.1.b.1 x.e.c.1.1/\Rb M x.d.2.1.b.1 x.e.c.2.1.1/\Rb M x.d.b.1.b.1 x.e.c.b.1.1):=H8 (λd=>Rb M d.c.2.1.b.1 d.e.2.1.1/\Rb M d.c.b.1.b.1 d.e.b.1.1/\Rb M d.c.b.2.1.b.1 d.e.b.2.1.1/\Rb M d.d.1.b.1 d.e.c.1.1/\Rb M d.d.2.1.b.1 d.e.c.2.1.1/\Rb M d.d.b.1.b.1 d.e.c.b.1.1) (λd h=>by
 obtain⟨_,_,_,_,_,_⟩:=h;exact my) d ⟨inferInstance,inferInstance,inferInstance,inferInstance,inferInstance,inferInstance⟩
instance aLn (d:cw.B)[Rb M d.c.2.1.b.1 d.e.1.1][Rb M d.c.b.1.b.1 d.e.2.1.1][Rb M d.c.b.2.1.b.1 d.e.b.1.1][Rb M d.d.1.b.1 d.e.b.2.1.1][Rb M d.d.2.1.b.1 d.e.c.1.1][Rb M d.d.b.1.b.1 d.e.c.2.1.1]:Mo (iw d) (λx=>Rb M x.c.2.1.b.1 x.e.1.1/\Rb M x.c.b.1.b.1 x.e.2.1.1/\Rb M x.c.b.2.1.b.1 x.e.b.1.1/\Rb M x.d.1.b.1 x.e.b.2.1.1/\Rb M x.d.2.1.b.1 x.e.c.1.1/\Rb M x.d.b.1.b.1 x.e.c.2.1.1):=H8 (λd=>Rb M d.c.2.1.b.1 d.e.1.1/\Rb M d.c.b.1.b.1 d.e.2.1.1/\Rb M d.c.b.2.1.b.1 d.e.b.1.1/\Rb M d.d.1.b.1 d.e.b.2.1.1/\Rb M d.d.2.1.b.1 d.e.c.1.1/\Rb M d.d.b.1.b.1 d.e.c.2.1.1) (λd h=>by
 obtain⟨_,_,_,_,_,_⟩:=h;exact my) d ⟨inferInstance,inferInstance,inferInstance,inferInstance,inferInstance,inferInstance⟩
instance aLo (d:cv.B)[Rb M d.c.2.1.b.1 d.e.2.1.1][Rb M d.c.b.1.b.1 d.e.b.1.1][Rb M d.c.b.2.1.b.1 d.e.b.2.1.1][Rb M d.d.1.b.1 d.e.c.1.1][Rb M d.d.2.1.b.1 d.e.c.2.1.1][Rb M d.d.b.1.b.1 d.e.c.b.1.1]:Mo (gx d) (λx=>Rb M x.c.2.1.b.1 x.e.2.1.1/\Rb M x.c.b.1.b.1 x.e.b.1.1/\Rb M x.c.b.2.1.b.1 x.e.b.2.1.1/\Rb M x.d.1.b.1 x.e.c.1.1/\Rb M x.d.2.1.b.1 x.e.c.2.1.1/\Rb M x.d.b.1.b.1 x.e.c.b.1.1):=H8 (λd=>Rb M d.c.2.1.b.1 d.e.2.1.1/\Rb M d.c.b.1.b.1 d.e.b.1.1/\Rb M d.c.b.2.1.b.1 d.e.b.2.1.1/\Rb M d.d.1.b.1 d.e.c.1.1/\Rb M d.d.2.1.b.1 d.e.c.2.1.1/\Rb M d.d.b.1.b.1 d.e.c.b.1.1) (λd h=>by
 obtain⟨_,_,_,_,_,_⟩:=h;exact my) d ⟨inferInstance,inferInstance,inferInstance,inferInstance,inferInstance,inferInstance⟩
instance aLp (d:dB.B)[Rb M d.c.1.b.1 d.d.c.b.2.1.1][Rb M d.c.2.1.b.1 d.e.1.1][Rb M d.c.b.1.b.1 d.e.2.1.1][Rb M d.c.b.2.1.b.1 d.e.b.1.1][Rb M d.d.1.b.1 d.e.b.2.1.1][Rb M d.d.2.1.b.1 d.e.c.1.1]:Mo (fq d) (t8 (λx=>Rb M x.c.2.1.b.1 x.e.1.1/\Rb M x.c.b.1.b.1 x.e.2.1.1/\Rb M x.c.b.2.1.b.1 x.e.b.1.1/\Rb M x.d.1.b.1 x.e.b.2.1.1/\Rb M x.d.2.1.b.1 x.e.c.1.1/\Rb M x.d.b.1.b.1 x.e.c.2.1.1) (λx=>Rb M x.c.2.1.b.1 x.e.1.1/\Rb M x.c.b.1.b.1 x.e.2.1.1/\Rb M x.c.b.2.1.b.1 x.e.b.1.1/\Rb M x.d.1.b.1 x.e.b.2.1.1/\Rb M x.d.2.1.b.1 x.e.c.1.1/\Rb M x.d.b.1.b.1 x.e.c.2.1.1)):=⟨my⟩
instance aLq (d:dC.B)[Rb M d.c.1.b.1 d.e.1.1][Rb M d.c.2.1.b.1 d.e.2.1.1][Rb M d.c.b.1.b.1 d.e.b.1.1][Rb M d.c.b.2.1.b.1 d.e.b.2.1.1][Rb M d.d.1.b.1 d.e.c.1.1][Rb M d.d.2.1.b.1 d.e.c.2.1.1]:Mo (dQ d) (t8 (λx=>Rb M x.c.2.1.b.1 x.e.1.1/\Rb M x.c.b.1.b.1 x.e.2.1.1/\Rb M x.c.b.2.1.b.1 x.e.b.1.1/\Rb M x.d.1.b.1 x.e.b.2.1.1/\Rb M x.d.2.1.b.1 x.e.c.1.1/\Rb M x.d.b.1.b.1 x.e.c.2.1.1) (λx=>Rb M x.c.2.1.b.1 x.e.1.1/\Rb M x.c.b.1.b.1 x.e.2.1.1/\Rb M x.c.b.2.1.b.1 x.e.b.1.1/\Rb M x.d.1.b.1 x.e.b.2.1.1/\Rb M x.d.2.1.b.1 x.e.c.1.1/\Rb M x.d.b.1.b.1 x.e.c.2.1.1)):=⟨my⟩
instance aLr (d:de.B)[Rb M d.c.1.b.1 d.d.c.b.2.1.1][Rb M d.c.2.1.b.1 d.e.1.1][Rb M d.c.b.1.b.1 d.e.2.1.1][Rb M d.c.b.2.1.b.1 d.e.b.1.1][Rb M d.d.1.b.1 d.e.b.2.1.1][Rb M d.d.2.1.b.1 d.e.c.1.1]:Mo (eu d) (t8 (λx=>Rb M x.c.2.1.b.1 x.e.1.1/\Rb M x.c.b.1.b.1 x.e.2.1.1/\Rb M x.c.b.2.1.b.1 x.e.b.1.1/\Rb M x.d.1.b.1 x.e.b.2.1.1/\Rb M x.d.2.1.b.1 x.e.c.1.1/\Rb M x.d.b.1.b.1 x.e.c.2.1.1) (λx=>Rb M x.c.2.1.b.1 x.e.1.1/\Rb M x.c.b.1.b.1 x.e.2.1.1/\Rb M x.c.b.2.1.b.1 x.e.b.1.1/\Rb M x.d.1.b.1 x.e.b.2.1.1/\Rb M x.d.2.1.b.1 x.e.c.1.1/\Rb M x.d.b.1.b.1 x.e.c.2.1.1)):=⟨my⟩
instance aOV (x:fN.B)[Rb M x.c.2.1.b.1 x.d.c.b.1.1][Rb M x.c.b.1.b.1 x.d.c.b.2.1.1][Rb M x.c.b.2.1.b.1 x.e.1.1][Rb M x.d.1.b.1 x.e.2.1.1][Rb M x.d.2.1.b.1 x.e.b.1.1][Rb M x.d.b.1.b.1 x.e.b.2.1.1]:Mo (eT x) (λx=>Rb M x.1.2.1.b.1 x.b.1.1/\Rb M x.1.b.1.b.1 x.b.2.1.1/\Rb M x.1.b.2.1.b.1 x.c.1.1/\Rb M x.1.c.1.b.1 x.c.2.1.1/\Rb M x.1.c.2.1.b.1 x.c.b.1.1/\Rb M x.1.c.b.1.b.1 x.c.b.2.1.1):=⟨my⟩
instance aLP (d:cF.B)[Rb M d.c.1.b.1 d.d.c.b.2.1.1][Rb M d.c.2.1.b.1 d.e.1.1][Rb M d.c.b.1.b.1 d.e.2.1.1][Rb M d.c.b.2.1.b.1 d.e.b.1.1][Rb M d.d.1.b.1 d.e.b.2.1.1][Rb M d.d.2.1.b.1 d.e.c.1.1]:Mo (gU d) (t8 (λx=>Rb M x.c.1.b.1 x.d.c.b.2.1.1/\Rb M x.c.2.1.b.1 x.e.1.1/\Rb M x.c.b.1.b.1 x.e.2.1.1/\Rb M x.c.b.2.1.b.1 x.e.b.1.1/\Rb M x.d.1.b.1 x.e.b.2.1.1/\Rb M x.d.2.1.b.1 x.e.c.1.1) (λx=>Rb M x.c.1.b.1 x.d.c.b.2.1.1/\Rb M x.c.2.1.b.1 x.e.1.1/\Rb M x.c.b.1.b.1 x.e.2.1.1/\Rb M x.c.b.2.1.b.1 x.e.b.1.1/\Rb M x.d.1.b.1 x.e.b.2.1.1/\Rb M x.d.2.1.b.1 x.e.c.1.1)):=H8 (λd=>Rb M d.c.1.b.1 d.d.c.b.2.1.1/\Rb M d.c.2.1.b.1 d.e.1.1/\Rb M d.c.b.1.b.1 d.e.2.1.1/\Rb M d.c.b.2.1.b.1 d.e.b.1.1/\Rb M d.d.1.b.1 d.e.b.2.1.1/\Rb M d.d.2.1.b.1 d.e.c.1.1) (λd h=>by
 obtain⟨_,_,_,_,_,_⟩:=h;exact my) d ⟨inferInstance,inferInstance,inferInstance,inferInstance,inferInstance,inferInstance⟩
instance aLQ (d:cG.B)[Rb M d.b.2.1.b.1 d.d.c.b.1.1][Rb M d.c.1.b.1 d.d.c.b.2.1.1][Rb M d.c.2.1.b.1 d.e.1.1][Rb M d.c.b.1.b.1 d.e.2.1.1][Rb M d.c.b.2.1.b.1 d.e.b.1.1][Rb M d.d.1.b.1 d.e.b.2.1.1]:Mo (cO d) (λx=>Rb M x.c.2.1.b.1 x.d.c.b.1.1/\Rb M x.c.b.1.b.1 x.d.c.b.2.1.1/\Rb M x.c.b.2.1.b.1 x.e.1.1/\Rb M x.d.1.b.1 x.e.2.1.1/\Rb M x.d.2.1.b.1 x.e.b.1.1/\Rb M x.d.b.1.b.1 x.e.b.2.1.1):=⟨my⟩
instance atJ (x:dZ.B)[Rb M x.c.2.1.b.1 x.d.c.b.1.1][Rb M x.c.b.1.b.1 x.d.c.b.2.1.1][Rb M x.c.b.2.1.b.1 x.e.1.1][Rb M x.d.1.b.1 x.e.2.1.1][Rb M x.d.2.1.b.1 x.e.b.1.1][Rb M x.d.b.1.b.1 x.e.b.2.1.1]:Mo (bQ x) (λx=>Rb M x.c.2.1.b.1 x.d.c.b.1.1/\Rb M x.c.b.1.b.1 x.d.c.b.2.1.1/\Rb M x.c.b.2.1.b.1 x.e.1.1/\Rb M x.d.1.b.1 x.e.2.1.1/\Rb M x.d.2.1.b.1 x.e.b.1.1/\Rb M x.d.b.1.b.1 x.e.b.2.1.1):=⟨my⟩
instance aLs (d:iV.B)[Rb M d.c.b.1.b.1 d.d.c.b.2.1.1][Rb M d.c.b.2.1.b.1 d.e.1.1][Rb M d.d.1.b.1 d.e.2.1.1][Rb M d.d.2.1.b.1 d.e.b.1.1][Rb M d.d.b.1.b.1 d.e.b.2.1.1][Rb M d.d.b.2.1.b.1 d.e.c.1.1]:Mo (iy d) (λx=>Rb M x.c.b.1.b.1 x.d.c.b.2.1.1/\Rb M x.c.b.2.1.b.1 x.e.1.1/\Rb M x.d.1.b.1 x.e.2.1.1/\Rb M x.d.2.1.b.1 x.e.b.1.1/\Rb M x.d.b.1.b.1 x.e.b.2.1.1/\Rb M x.d.b.2.1.b.1 x.e.c.1.1):=⟨my⟩
instance aOW (x:fO.B)[Rb M x.c.2.1.b.1 x.d.c.b.1.1][Rb M x.c.b.1.b.1 x.d.c.b.2.1.1][Rb M x.c.b.2.1.b.1 x.e.1.1][Rb M x.d.1.b.1 x.e.2.1.1][Rb M x.d.2.1.b.1 x.e.b.1.1][Rb M x.d.b.1.b.1 x.e.b.2.1.1]:Mo (cX x) (λx=>Rb M x.c.1.b.1 x.d.c.2.1.1/\Rb M x.c.2.1.b.1 x.d.c.b.1.1/\Rb M x.c.b.1.b.1 x.d.c.b.2.1.1/\Rb M x.c.b.2.1.b.1 x.e.1.1/\Rb M x.d.1.b.1 x.e.2.1.1/\Rb M x.d.2.1.b.1 x.e.b.1.1):=⟨my⟩
instance aLR (d:jV.B)[Rb M d.c.b.1.b.1 d.d.c.b.2.1.1][Rb M d.c.b.2.1.b.1 d.e.1.1][Rb M d.d.1.b.1 d.e.2.1.1][Rb M d.d.2.1.b.1 d.e.b.1.1][Rb M d.d.b.1.b.1 d.e.b.2.1.1][Rb M d.d.b.2.1.b.1 d.e.c.1.1]:Mo (nc d) (λx=>Rb M x.c.b.1.b.1 x.d.c.b.2.1.1/\Rb M x.c.b.2.1.b.1 x.e.1.1/\Rb M x.d.1.b.1 x.e.2.1.1/\Rb M x.d.2.1.b.1 x.e.b.1.1/\Rb M x.d.b.1.b.1 x.e.b.2.1.1/\Rb M x.d.b.2.1.b.1 x.e.c.1.1):=⟨my⟩
instance aLS (d:ey.B)[Lm M d.b.1.d.b.2.1][Rb M d.c.b.2.1.b.1 d.e.1.1][Rb M d.d.1.b.1 d.e.2.1.1][Rb M d.d.2.1.b.1 d.e.b.1.1][Rb M d.d.b.1.b.1 d.e.b.2.1.1][Rb M d.d.b.2.1.b.1 d.e.c.1.1][Rb M d.d.c.1.b.1 d.e.c.2.1.1]:Mo (na d) (t8 (λx=>Lm M x.b.1.d.b.1/\Rb M x.c.b.2.1.b.1 x.e.1.1/\Rb M x.d.1.b.1 x.e.2.1.1/\Rb M x.d.2.1.b.1 x.e.b.1.1/\Rb M x.d.b.1.b.1 x.e.b.2.1.1/\Rb M x.d.b.2.1.b.1 x.e.c.1.1/\Rb M x.d.c.1.b.1 x.e.c.2.1.1) (t8 (λx=>Lm M x.b.1.d.b.1/\Rb M x.c.b.2.1.b.1 x.e.1.1/\Rb M x.d.1.b.1 x.e.2.1.1/\Rb M x.d.2.1.b.1 x.e.b.1.1/\Rb M x.d.b.1.b.1 x.e.b.2.1.1/\Rb M x.d.b.2.1.b.1 x.e.c.1.1/\Rb M x.d.c.1.b.1 x.e.c.2.1.1) (t8 (λx=>Lm M x.b.1.d.b.1/\Rb M x.c.b.2.1.b.1 x.e.1.1/\Rb M x.d.1.b.1 x.e.2.1.1/\Rb M x.d.2.1.b.1 x.e.b.1.1/\Rb M x.d.b.1.b.1 x.e.b.2.1.1/\Rb M x.d.b.2.1.b.1 x.e.c.1.1/\Rb M x.d.c.1.b.1 x.e.c.2.1.1) (λx=>Lm M x.b.1.d.b.1/\Rb M x.c.b.2.1.b.1 x.e.1.1/\Rb M x.d.1.b.1 x.e.2.1.1/\Rb M x.d.2.1.b.1 x.e.b.1.1/\Rb M x.d.b.1.b.1 x.e.b.2.1.1/\Rb M x.d.b.2.1.b.1 x.e.c.1.1/\Rb M x.d.c.1.b.1 x.e.c.2.1.1)))):=H8 (λd=>Lm M d.b.1.d.b.2.1/\Rb M d.c.b.2.1.b.1 d.e.1.1/\Rb M d.d.1.b.1 d.e.2.1.1/\Rb M d.d.2.1.b.1 d.e.b.1.1/\Rb M d.d.b.1.b.1 d.e.b.2.1.1/\Rb M d.d.b.2.1.b.1 d.e.c.1.1/\Rb M d.d.c.1.b.1 d.e.c.2.1.1) (λd h=>by
 obtain⟨_,_,_,_,_,_,_⟩:=h;exact my) d ⟨inferInstance,inferInstance,inferInstance,inferInstance,inferInstance,inferInstance,inferInstance⟩
instance aRv (x:lO.B)[Lm M x.1.c.1][Rb M x.c.b.1.b.1 x.d.c.b.2.1.1][Rb M x.c.b.2.1.b.1 x.e.1.1][Rb M x.d.1.b.1 x.e.2.1.1][Rb M x.d.2.1.b.1 x.e.b.1.1][Rb M x.d.b.1.b.1 x.e.b.2.1.1][Rb M x.d.b.2.1.b.1 x.e.c.1.1]:Mo (jE x) (t8 (λx=>Rb M x.c.1.b.1 x.d.c.2.1.2.1/\Rb M x.c.2.1.b.1 x.d.c.b.1.2.1/\Rb M x.c.b.1.b.1 x.d.c.b.2.1.2.1/\Rb M x.c.b.2.1.b.1 x.e.1.2.1/\Rb M x.d.1.b.1 x.e.2.1.2.1/\Rb M x.d.2.1.b.1 x.e.b.1.2.1) (λx=>Rb M x.c.2.1.b.1 x.d.c.b.1.1/\Rb M x.c.b.1.b.1 x.d.c.b.2.1.1/\Rb M x.c.b.2.1.b.1 x.e.1.1/\Rb M x.d.1.b.1 x.e.2.1.1/\Rb M x.d.2.1.b.1 x.e.b.1.1/\Rb M x.d.b.1.b.1 x.e.b.2.1.1)):=⟨my⟩
end Go.Proofs.YtldgljclcgaibaaGreat
namespace Go.Proofs.YtldgljclcgaibaaGreat
open Go.Ab Go.Ab.Pg
variable (i0 i1 i2 i3 i4 i5 i6 i7 i8 i9 i10:Int) (n0 n1:Nat) (r0 r1 r2 r3 r4 r5 r6 r7 r8 r9:Nat->Int) (q0 q1:Nat->Bool) (b0 b1 b2:Bool) {vL vd vg va vt:Int} {vq:Nat} {vs:Int×(Int×Int×(Int×Int×Int)×Int×Int×Int)×Bool} {w:Nat->Int}
instance aLT (x:gh.B)[Ek vg x.2.1.1]:Mo (cU x) (λx=>Ek vg x.2.1.1):=⟨my⟩
instance aIG (d:dE.B)[Ek vd d.2.1.1.2.1][Ek vL d.2.1.1.d.1][Ek vg d.b.2.1.1][Ek w d.d.b.2.1.1.c.1]:Mo (iU d) (λx=>Ek vd x.2.1.1.2.1/\Ek vg x.b.2.1.1/\Ek vL x.2.1.1.d.1/\Ek w x.d.b.2.1.1.c.1):=H8 (λd=>Ek vd d.2.1.1.2.1/\Ek vL d.2.1.1.d.1/\Ek vg d.b.2.1.1/\Ek w d.d.b.2.1.1.c.1) (λd h=>by
 obtain⟨_,_,_,_⟩:=h;exact my) d ⟨inferInstance,inferInstance,inferInstance,inferInstance⟩
instance aOD (x:fU.B)[Ek vd x.2.1.1.2.1][Ek vL x.2.1.1.d.1][Ek vg x.b.2.1.1][Ek w x.d.b.2.1.1.c.1]:Mo (gR x) (t8 (λx=>Ek vd x.1.1.2.1/\Ek vL x.1.1.d.1) (λx=>Ek vd x.1.1.1.2.1/\Ek vL x.1.1.1.d.1)):=⟨my⟩
instance aFY (x:eE.B)[Ek vd x.1.1.2.1][Ek vL x.1.1.d.1][Ek vg x.b.1.1][Ek w x.d.b.1.1.c.1]:Mo (di x) (λx=>Ek vd x.2.1.2.1/\Ek vL x.2.1.d.1):=⟨my⟩
instance aF3 [Ek w r3]:Mo (eZ i0 i1 n0 r0 r1 q0 r2 r3 r4 i2 q1 r5 r6 b0) (λx=>Ek w x.1.c.1):=⟨my⟩
instance aOX (x:oo.B)[Ek vd x.2.1.1.2.1][Ek vL x.2.1.1.d.1][Ek vg x.c.1.1][Ek w x.d.c.1.1.c.1]:Mo (gE x) (λx=>Ek w x.1.c.1):=⟨my⟩
instance aLU (x:mr.B)[Ek vd x.2.1.1.2.1][Ek vL x.2.1.1.d.1][Ek vg x.b.2.1.1][Ek w x.d.b.2.1.1.c.1]:Mo (cq x) (λx=>Ek w x.1.c.1):=⟨my⟩
instance aOY (x:mu.B)[Ek vd x.2.1.1.2.1][Ek vL x.2.1.1.d.1][Ek vg x.b.2.1.1][Ek w x.d.b.2.1.1.c.1]:Mo (fM x) (λx=>Ek vd x.1.1.2.1/\Ek vL x.1.1.d.1):=⟨my⟩
instance aOE (x:m8.B)[Ek vd x.2.1.1.2.1][Ek vL x.2.1.1.d.1][Ek vg x.b.2.1.1][Ek w x.d.b.2.1.1.c.1]:Mo (ec x) (λx=>Ek w x.1.c.1):=⟨my⟩
instance aOZ (x:ka.B)[Ek vd x.2.1.1.2.1][Ek vL x.2.1.1.d.1][Ek vg x.b.2.1.1][Ek w x.d.b.2.1.1.c.1]:Mo (mx x) (t8 (λx=>Ek vd x.1.1.2.1/\Ek w x.2.1.c.1/\Ek vL x.1.1.d.1) (λx=>Ek vd x.1.1.1.2.1/\Ek w x.1.2.1.c.1/\Ek vL x.1.1.1.d.1)):=⟨my⟩
instance aO0 (x:kc.B)[Ek vd x.2.1.1.2.1][Ek vL x.2.1.1.d.1][Ek vg x.b.2.1.1][Ek w x.d.b.2.1.1.c.1]:Mo (mz x) (λx=>Ek vd x.1.1.2.1/\Ek vL x.1.1.d.1):=⟨my⟩
instance aO1 (x:mw.B)[Ek vd x.2.1.1.2.1][Ek vL x.2.1.1.d.1][Ek vg x.c.1.1][Ek w x.d.c.1.1.c.1]:Mo (cW x) (λx=>Ek vd x.2.1.1.1.2.1/\Ek w x.2.1.2.1.c.1/\Ek vL x.2.1.1.1.d.1):=⟨my⟩
instance aLV (x:jN.B)[Ek vd x.2.1.1.2.1][Ek vL x.2.1.1.d.1][Ek vg x.c.1.1][Ek w x.d.c.1.1.c.1]:Mo (fm x) (λx=>Ek vd x.1.2.1/\Ek vL x.1.d.1):=⟨my⟩
instance aCH [Ek w r3]:Mo (fj b0 i0 i1 b1 i2 i3 r0 r1 q0 r2 r3 r4 i4) (λx=>Ek w x.1.c.1):=⟨my⟩
instance aF4 (x:fa.B)[Ek vd x.2.1.1.2.1][Ek vL x.2.1.1.d.1][Ek vg x.b.2.1.1][Ek w x.d.b.2.1.1.c.1]:Mo (gm x) (t8 (λx=>Ek vd x.1.1.1.2.1/\Ek w x.1.2.1.c.1/\Ek vL x.1.1.1.d.1) (λx=>Ek vd x.1.1.2.1/\Ek w x.2.1.c.1/\Ek vL x.1.1.d.1)):=⟨my⟩
instance aIH (x:im.B)[Ek vd x.2.1.1.2.1][Ek vL x.2.1.1.d.1][Ek vg x.b.2.1.1][Ek w x.d.b.2.1.1.c.1]:Mo (fV x) (λx=>Ek vd x.1.1.2.1/\Ek w x.2.1.c.1/\Ek vL x.1.1.d.1):=⟨my⟩
instance aLW (x:jO.B)[Ek vd x.2.1.1.2.1][Ek vL x.2.1.1.d.1][Ek vg x.b.2.1.1][Ek w x.d.b.2.1.1.c.1]:Mo (iv x) (λx=>Ek vd x.1.1.2.1/\Ek w x.2.1.c.1/\Ek vL x.1.1.d.1):=⟨my⟩
instance aII (x:iu.B)[Ek vd x.2.1.1.2.1][Ek vL x.2.1.1.d.1][Ek vg x.b.2.1.1][Ek w x.d.b.2.1.1.c.1]:Mo (fW x) (λx=>Ek vd x.1.1.2.1/\Ek w x.2.1.c.1/\Ek vL x.1.1.d.1):=⟨my⟩
instance aO2 (x:mA.B)[Ek vd x.2.1.1.2.1][Ek vL x.2.1.1.d.1][Ek vg x.b.2.1.1][Ek w x.d.b.2.1.1.c.1]:Mo (kd x) (λx=>Ek vd x.1.1.2.1/\Ek w x.2.1.c.1/\Ek vL x.1.1.d.1):=⟨my⟩
instance aRw (x:lJ.B)[Ek vd x.2.1.1.2.1][Ek vL x.2.1.1.d.1][Ek vg x.b.2.1.1][Ek w x.d.b.2.1.1.c.1]:Mo (nr x) (t8 (λx=>Ek vd x.1.1.2.1/\Ek w x.2.1.c.1/\Ek vL x.1.1.d.1) (λx=>Ek vd x.1.1.1.2.1/\Ek w x.1.2.1.c.1/\Ek vL x.1.1.1.d.1)):=⟨my⟩
instance aLt (d:bG.B)[Ek vd d.2.1.1.2.1][Ek vL d.2.1.1.d.1][Ek vg d.b.2.1.1][Ek w d.d.b.2.1.1.c.1]:Mo (gv d) (λx=>Ek vd x.2.1.1.2.1/\Ek vg x.b.2.1.1/\Ek vL x.2.1.1.d.1/\Ek w x.d.b.2.1.1.c.1):=H8 (λd=>Ek vd d.2.1.1.2.1/\Ek vL d.2.1.1.d.1/\Ek vg d.b.2.1.1/\Ek w d.d.b.2.1.1.c.1) (λd h=>by
 obtain⟨_,_,_,_⟩:=h;exact my) d ⟨inferInstance,inferInstance,inferInstance,inferInstance⟩
instance aLu (d:cw.B)[Ek vd d.2.1.1.2.1][Ek vL d.2.1.1.d.1][Ek vg d.b.2.1.1][Ek w d.d.b.2.1.1.c.1]:Mo (iw d) (λx=>Ek vd x.2.1.1.2.1/\Ek vg x.b.2.1.1/\Ek vL x.2.1.1.d.1/\Ek w x.d.b.2.1.1.c.1):=H8 (λd=>Ek vd d.2.1.1.2.1/\Ek vL d.2.1.1.d.1/\Ek vg d.b.2.1.1/\Ek w d.d.b.2.1.1.c.1) (λd h=>by
 obtain⟨_,_,_,_⟩:=h;exact my) d ⟨inferInstance,inferInstance,inferInstance,inferInstance⟩
instance aLv (d:cv.B)[Ek vd d.2.1.1.2.1][Ek vL d.2.1.1.d.1][Ek vg d.b.2.1.1][Ek w d.d.b.2.1.1.c.1][Ek vL d.d.c.b.2.1.d.1]:Mo (gx d) (λx=>Ek vd x.2.1.1.2.1/\Ek vg x.b.2.1.1/\Ek vL x.2.1.1.d.1/\Ek w x.d.b.2.1.1.c.1/\Ek vL x.d.c.b.2.1.d.1):=H8 (λd=>Ek vd d.2.1.1.2.1/\Ek vL d.2.1.1.d.1/\Ek vg d.b.2.1.1/\Ek w d.d.b.2.1.1.c.1/\Ek vL d.d.c.b.2.1.d.1) (λd h=>by
 obtain⟨_,_,_,_,_⟩:=h;exact my) d ⟨inferInstance,inferInstance,inferInstance,inferInstance,inferInstance⟩
instance aLw (d:dB.B)[Ek vd d.1.1.2.1][Ek vL d.1.1.d.1][Ek vg d.b.1.1][Ek w d.d.b.1.1.c.1]:Mo (fq d) (t8 (λx=>Ek vd x.2.1.1.2.1/\Ek vg x.b.2.1.1/\Ek vL x.2.1.1.d.1/\Ek w x.d.b.2.1.1.c.1) (λx=>Ek vd x.2.1.1.2.1/\Ek vg x.b.2.1.1/\Ek vL x.2.1.1.d.1/\Ek w x.d.b.2.1.1.c.1)):=⟨my⟩
instance aLx (d:dC.B)[Ek vd d.1.1.2.1][Ek vL d.1.1.d.1][Ek vg d.b.1.1][Ek w d.d.b.1.1.c.1][Ek vL d.d.c.b.1.d.2.1]:Mo (dQ d) (t8 (λx=>Ek vd x.2.1.1.2.1/\Ek vg x.b.2.1.1/\Ek vL x.2.1.1.d.1/\Ek w x.d.b.2.1.1.c.1) (λx=>Ek vd x.2.1.1.2.1/\Ek vg x.b.2.1.1/\Ek vL x.2.1.1.d.1/\Ek w x.d.b.2.1.1.c.1)):=⟨my⟩
instance aLy (d:de.B)[Ek vd d.1.1.2.1][Ek vL d.1.1.d.1][Ek vg d.b.1.1][Ek w d.d.b.1.1.c.1]:Mo (eu d) (t8 (λx=>Ek vd x.2.1.1.2.1/\Ek vg x.b.2.1.1/\Ek vL x.2.1.1.d.1/\Ek w x.d.b.2.1.1.c.1) (λx=>Ek vd x.2.1.1.2.1/\Ek vg x.b.2.1.1/\Ek vL x.2.1.1.d.1/\Ek w x.d.b.2.1.1.c.1)):=⟨my⟩
instance aO3 (x:fN.B)[Ek vd x.2.1.1.2.1][Ek vL x.2.1.1.d.1][Ek vg x.b.2.1.1][Ek w x.d.b.2.1.1.c.1]:Mo (eT x) (λx=>Ek vd x.1.1.1.2.1/\Ek vL x.1.1.1.d.1/\Ek w x.1.c.b.2.1.1.c.1):=⟨my⟩
instance aLX (d:cF.B)[Ek vd d.2.1.1.2.1][Ek vL d.2.1.1.d.1][Ek vg d.b.2.1.1][Ek w d.d.b.1.1.c.1]:Mo (gU d) (t8 (λx=>Ek vg x.b.2.1.1/\Ek vd x.1.c.b.2.1/\Ek vL x.2.1.1.c.b.2.1/\Ek w x.d.b.1.1.c.1) (λx=>Ek vd x.2.1.1.2.1/\Ek vg x.b.2.1.1/\Ek vL x.2.1.1.d.1/\Ek w x.d.b.1.1.c.1)):=H8 (λd=>Ek vd d.2.1.1.2.1/\Ek vL d.2.1.1.d.1/\Ek vg d.b.2.1.1/\Ek w d.d.b.1.1.c.1) (λd h=>by
 obtain⟨_,_,_,_⟩:=h;exact my) d ⟨inferInstance,inferInstance,inferInstance,inferInstance⟩
instance aLY (d:cG.B)[Ek vd d.1.1.2.1][Ek vL d.1.1.d.1][Ek vg d.b.1.1][Ek w d.d.2.1.1.c.1]:Mo (cO d) (λx=>Ek vd x.2.1.1.2.1/\Ek vg x.b.2.1.1/\Ek vL x.2.1.1.d.1/\Ek w x.d.b.2.1.1.c.1):=⟨my⟩
instance atK (x:dZ.B)[Ek vd x.2.1.1.2.1][Ek vL x.2.1.1.d.1][Ek vg x.b.2.1.1][Ek w x.d.b.2.1.1.c.1]:Mo (bQ x) (λx=>Ek vd x.2.1.1.2.1/\Ek vg x.b.2.1.1/\Ek vL x.2.1.1.d.1/\Ek w x.d.b.2.1.1.c.1):=⟨my⟩
instance aIJ (x:fX.B)[Ek vd x.2.1.1.2.1][Ek vL x.2.1.1.d.1][Ek vg x.b.2.1.1][Ek w x.d.b.2.1.1.c.1]:Mo (dF x) (λx=>Ek vd x.2.1.1.2.1/\Ek vg x.b.2.1.1/\Ek vL x.2.1.1.d.1/\Ek w x.d.b.2.1.1.c.1):=⟨my⟩
instance aLz (d:iV.B)[Ek vd d.b.1.1.2.1][Ek vL d.b.1.1.d.1][Ek vg d.c.1.1][Ek w d.d.c.1.1.c.1]:Mo (iy d) (λx=>Ek vd x.b.1.1.2.1/\Ek vg x.c.1.1/\Ek vL x.b.1.1.d.1/\Ek w x.d.c.1.1.c.1):=⟨my⟩
instance apq (x:fO.B)[Ek vd x.2.1.1.2.1][Ek vL x.2.1.1.d.1][Ek vg x.b.2.1.1][Ek w x.d.b.2.1.1.c.1]:Mo (cX x) (λx=>Ek vg x.b.1.1/\Ek vd x.1.2.1.2.1/\Ek vL x.1.2.1.d.1/\Ek w x.d.b.1.1.c.1):=⟨my⟩
instance aLZ (d:jV.B)[Ek vd d.b.1.1.2.1][Ek vL d.b.1.1.d.1][Ek vg d.c.1.1][Ek w d.d.c.1.1.c.1]:Mo (nc d) (λx=>Ek vd x.b.1.1.2.1/\Ek vg x.c.1.1/\Ek vL x.b.1.1.d.1/\Ek w x.d.c.1.1.c.1):=⟨my⟩
instance aL0 (d:ey.B)[Ek vd d.b.2.1.1.2.1][Ek vL d.b.2.1.1.d.1][Ek vg d.c.2.1.1][Ek w d.d.c.2.1.1.c.1]:Mo (na d) (t8 (λx=>Ek vd x.b.2.1.1.2.1/\Ek vg x.c.2.1.1/\Ek vL x.b.2.1.1.d.1/\Ek w x.d.c.2.1.1.c.1) (t8 (λx=>Ek vd x.b.2.1.1.2.1/\Ek vg x.c.2.1.1/\Ek vL x.b.2.1.1.d.1/\Ek w x.d.c.2.1.1.c.1) (t8 (λx=>Ek vd x.b.2.1.1.2.1/\Ek vg x.c.2.1.1/\Ek vL x.b.2.1.1.d.1/\Ek w x.d.c.2.1.1.c.1) (λx=>Ek vd x.b.2.1.1.2.1/\Ek vg x.c.2.1.1/\Ek vL x.b.2.1.1.d.1/\Ek w x.d.c.2.1.1.c.1)))):=H8 (λd=>Ek vd d.b.2.1.1.2.1/\Ek vL d.b.2.1.1.d.1/\Ek vg d.c.2.1.1/\Ek w d.d.c.2.1.1.c.1) (λd h=>by
 obtain⟨_,_,_,_⟩:=h;exact my) d ⟨inferInstance,inferInstance,inferInstance,inferInstance⟩
instance aRx (x:lO.B)[Ek vd x.b.1.1.2.1][Ek vL x.b.1.1.d.1][Ek vg x.c.1.1][Ek w x.d.c.1.1.c.1]:Mo (jE x) (t8 (λx=>Ek vg x.b.1.1/\Ek vd x.1.2.1.2.1/\Ek vL x.1.2.1.d.1/\Ek w x.d.b.1.1.c.1) (λx=>Ek vd x.2.1.1.2.1/\Ek vg x.b.2.1.1/\Ek vL x.2.1.1.d.1/\Ek w x.d.b.2.1.1.c.1)):=⟨my⟩
instance aF5 (d:dE.B)[Ek vq d.1.1][Ek vq d.2.1.c.1]:Mo (iU d) (λx=>Ek vq x.1.1/\Ek vq x.2.1.c.1):=H8 (λd=>Ek vq d.1.1/\Ek vq d.2.1.c.1) (λd h=>by
 obtain⟨_,_⟩:=h;exact my) d ⟨inferInstance,inferInstance⟩
instance aLA (x:fU.B)[Ek vq x.2.1.c.1]:Mo (gR x) (t8 (λx=>Ek vq x.1.c.1) (λx=>Ek vq x.1.1.c.1)):=⟨my⟩
instance aCs (x:eE.B)[Ek vq x.1.c.1]:Mo (di x) (λx=>Ek vq x.c.2.1):=⟨my⟩
instance aL1 (x:mu.B)[Ek vq x.2.1.c.1]:Mo (fM x) (λx=>Ek vq x.1.c.1):=⟨my⟩
instance aL2 (x:ka.B)[Ek vq x.2.1.c.1]:Mo (mx x) (t8 (λx=>Ek vq x.1.c.1) (λx=>Ek vq x.1.1.c.1)):=⟨my⟩
instance aL3 (x:kc.B)[Ek vq x.2.1.c.1]:Mo (mz x) (λx=>Ek vq x.1.c.1):=⟨my⟩
instance aL4 (x:mw.B)[Ek vq x.2.1.c.1]:Mo (cW x) (λx=>Ek vq x.2.1.1.c.1):=⟨my⟩
instance aIK (x:jN.B)[Ek vq x.2.1.c.1]:Mo (fm x) (λx=>Ek vq x.c.1):=⟨my⟩
instance aCI (x:fa.B)[Ek vq x.2.1.c.1]:Mo (gm x) (t8 (λx=>Ek vq x.1.1.c.1) (λx=>Ek vq x.1.c.1)):=⟨my⟩
instance aF6 (x:im.B)[Ek vq x.2.1.c.1]:Mo (fV x) (λx=>Ek vq x.1.c.1):=⟨my⟩
instance aIL (x:jO.B)[Ek vq x.2.1.c.1]:Mo (iv x) (λx=>Ek vq x.1.c.1):=⟨my⟩
instance aF7 (x:iu.B)[Ek vq x.2.1.c.1]:Mo (fW x) (λx=>Ek vq x.1.c.1):=⟨my⟩
instance aL5 (x:mA.B)[Ek vq x.2.1.c.1]:Mo (kd x) (λx=>Ek vq x.1.c.1):=⟨my⟩
instance aOF (x:lJ.B)[Ek vq x.2.1.c.1]:Mo (nr x) (t8 (λx=>Ek vq x.1.c.1) (λx=>Ek vq x.1.1.c.1)):=⟨my⟩
instance aHf (d:bG.B)[Ek vq d.2.1.c.1][Ek vq d.c.1.1]:Mo (gv d) (λx=>Ek vq x.c.1.1/\Ek vq x.2.1.c.1):=H8 (λd=>Ek vq d.2.1.c.1/\Ek vq d.c.1.1) (λd h=>by
 obtain⟨_,_⟩:=h;exact my) d ⟨inferInstance,inferInstance⟩
instance aHg (d:cw.B)[Ek vq d.2.1.c.1][Ek vq d.c.1.1]:Mo (iw d) (λx=>Ek vq x.c.1.1/\Ek vq x.2.1.c.1):=H8 (λd=>Ek vq d.2.1.c.1/\Ek vq d.c.1.1) (λd h=>by
 obtain⟨_,_⟩:=h;exact my) d ⟨inferInstance,inferInstance⟩
instance aHh (d:cv.B)[Ek vq d.2.1.c.1][Ek vq d.c.1.1]:Mo (gx d) (λx=>Ek vq x.c.1.1/\Ek vq x.2.1.c.1):=H8 (λd=>Ek vq d.2.1.c.1/\Ek vq d.c.1.1) (λd h=>by
 obtain⟨_,_⟩:=h;exact my) d ⟨inferInstance,inferInstance⟩
instance aHi (d:dB.B)[Ek vq d.1.c.1][Ek vq d.b.2.1.1]:Mo (fq d) (t8 (λx=>Ek vq x.2.1.b.2.1/\Ek vq x.c.1.1) (λx=>Ek vq x.c.1.1/\Ek vq x.2.1.c.1)):=⟨my⟩
instance aHj (d:dC.B)[Ek vq d.1.c.1][Ek vq d.b.2.1.1]:Mo (dQ d) (t8 (λx=>Ek vq x.2.1.b.2.1/\Ek vq x.c.1.1) (λx=>Ek vq x.c.1.1/\Ek vq x.2.1.c.1)):=⟨my⟩
instance aHk (d:de.B)[Ek vq d.1.c.1][Ek vq d.b.2.1.1]:Mo (eu d) (t8 (λx=>Ek vq x.2.1.b.2.1/\Ek vq x.c.1.1) (λx=>Ek vq x.c.1.1/\Ek vq x.2.1.c.1)):=⟨my⟩
instance xg (x:fN.B)[Ek vq x.2.1.c.1]:Mo (eT x) (λx=>Ek vq x.1.1.c.1):=⟨my⟩
instance aF8 (d:dE.B)[Ek vL d.2.1.1.d.1][Ek va d.2.1.d.b.1][Ek vt d.2.1.d.b.2.1][Ek vq d.2.1.d.c.2.2]:Mo (iU d) (λx=>Ek vL x.2.1.1.d.1/\Ek va x.2.1.d.b.1/\Ek vt x.2.1.d.b.2.1/\Ek vq x.2.1.d.c.2.2):=H8 (λd=>Ek vL d.2.1.1.d.1/\Ek va d.2.1.d.b.1/\Ek vt d.2.1.d.b.2.1/\Ek vq d.2.1.d.c.2.2) (λd h=>by
 obtain⟨_,_,_,_⟩:=h;exact my) d ⟨inferInstance,inferInstance,inferInstance,inferInstance⟩
instance ahJ (x:fU.B)[Ek vL x.2.1.1.d.1][Ek va x.2.1.d.c.1][Ek vt x.2.1.d.c.2.1][Ek vq x.2.1.d.c.b.2.2]:Mo (gR x) (t8 (λx=>Ek vL x.1.1.d.1/\Ek va x.1.d.c.1/\Ek vt x.1.d.c.2.1/\Ek vq x.1.d.c.b.2.2) (λx=>Ek vL x.1.1.1.d.1/\Ek va x.1.1.d.b.1/\Ek vt x.1.1.d.b.2.1/\Ek vq x.1.1.d.c.2.2)):=⟨my⟩
instance aIM (d:cF.B)[Ek vs d.b.2.1]:Mo (gU d) (t8 (λx=>Ek vs x.b.2.1) (λx=>Ek vs x.b.2.1)):=H8 (λd=>Ek vs d.b.2.1) (λd _=>my) d inferInstance
instance aeU (d:cG.B)[Ek vs d.b.1]:Mo (cO d) (λx=>Ek vs x.b.2.1):=⟨my⟩
end Go.Proofs.YtldgljclcgaibaaGreat
namespace Go.Proofs.YtldgljclcgaibaaGreat
open Go.Ab Go.Ab.Pg
theorem aSI (x:zR.B):Po (rK x) (λd:acJ=>d.1.1=x.1.2.1/\d.1.2.1=wI (x.1.1.2.1+x.1.b.1)):=by
 unfold rK HX;try dsimp only
 show PW _ _;rw[du];intro _ _;rw[du];intro _ _;rw[aP];exact⟨rfl,rfl⟩
theorem aZP (x0 x1 x2 x3 x4 x5 x6 x7:Int):Po (kD x0 x1 x2 x3 x4 x5 x6 x7) (λr:HW=>r=true->1<=x1/\x1<=100000):=by
 unfold kD zQ;show PW _ _
 refine bu (Vy (s:=_) (λd:hU.B=>d.2.2.1=x1) (λx:pW=>match x with|.inl _=>True|.inr e=>e.2.2.1=x1) (λd hd=>by
  unfold xY;try dsimp only
  try dsimp only
  repeat' (first
  |(rw[kn];exact trivial)
  |(rw[hX];refine⟨λa ha=> ?_,λa ha=> ?_⟩<;>subst ha)
  |(rw[pZ];refine⟨λa ha=> ?_,λa ha=> ?_⟩<;>subst ha)
  |(rw[aW];refine⟨λc=> ?_,λc=> ?_⟩)
  |(rw[du];intro _ _))
  all_goals (rw[aP];first|exact trivial|exact hd)) 2000 _ rfl) λy _ hy=> ?_
 repeat' (first
  |(rw[kn];exact trivial)
  |(rw[hX];refine⟨λa ha=> ?_,λa ha=> ?_⟩<;>subst ha)
  |(rw[pZ];refine⟨λa ha=> ?_,λa ha=> ?_⟩<;>subst ha)
  |(rw[aW];refine⟨λc=> ?_,λc=> ?_⟩)
  |(rw[du];intro _ _))
 all_goals
  rw[aP];first
  |(intro h;exact Bool.noConfusion h)
  |(intro _
    have hy:a.2.2.1=x1:=hy;simp only[lY] at*;omega)
theorem aok (x:gh.B):Po (cU x) (λe:sx=>(e.1.2.1=true->e.1.1.1=x.1.1/\e.1.2.2=0/\e.2.1.2.1.2.1=0)/\e.2.1.1=x.2.1.1/\(e.1.2.2=0->e.2.1.2.1.1=x.1.1/\e.2.1.2.2=true/\(0<=x.2.1.2.1.2.1->x.2.1.2.1.2.1<=100000->x.2.1.1<=100000->0<=e.2.1.2.1.2.1/\e.2.1.2.1.2.1<=100000))/\(e.1.2.2≠0->e.2.1=x.2.1)):=by
 unfold cU mn;try dsimp only
 show PW _ _;try dsimp only
 refine bu (aZP _ _ _ _ _ _ _ _) λg _ hg=> ?_;rw[aW];refine⟨λc=>by rw[aP];exact⟨λh=>Bool.noConfusion (show false=true from h),rfl,λh=>absurd (show(1:Int)=0 from h) (by decide),λ_=>rfl⟩,λc=> ?_⟩;have hg:=hg (by cases g<;>first|rfl|cases c)
 repeat' (first
  |(with_reducible refine bu (aSI _) λd _ hd=> ?_)
  |(rw[kn];exact trivial)
  |(rw[hX];refine⟨λa ha=> ?_,λa ha=> ?_⟩<;>subst ha)
  |(rw[pZ];refine⟨λa ha=> ?_,λa ha=> ?_⟩<;>subst ha)
  |(rw[aW];refine⟨λc=> ?_,λc=> ?_⟩)
  |(rw[du];intro _ _))
 all_goals
  rw[aP];first
  |exact⟨λh=>Bool.noConfusion (show false=true from h),rfl,λh=>absurd (show(1:Int)=0 from h) (by decide),λ_=>rfl⟩
  |exact⟨λ_=>⟨hd.1,rfl,rfl⟩,rfl,λ_=>⟨rfl,rfl,λ_ _ _=>⟨(show(0:Int)<=0 by decide),(show(0:Int)<=100000 by decide)⟩⟩,λh=>absurd (show(0:Int)=0 from rfl) h⟩
  |(refine⟨λh=>Bool.noConfusion (show false=true from h),rfl,λ_=>⟨hd.1,rfl,λp0 p1 p2=> ?_⟩,λh=>absurd (show(0:Int)=0 from rfl) h⟩
    have h2:d.1.2.1=wI (x.2.1.2.1.2.1+x.1.2.1):=hd.2;rw[fL (by omega) (by omega)] at h2;have c:=eF c;show 0<=d.1.2.1/\d.1.2.1<=100000;omega)
theorem a1h (B:Int)(w:Nat->Int):∀(d:cF.B) (hd:(∀i,i<d.2.1.2.2.2.2.1.2->Bd B (d.2.2.2.2.2.2.2.2.2.2.2.2.2.1.2.1 (d.2.1.2.2.2.2.1.1+i)))/\Bd B d.2.1.2.2.2.2.2.2.2.2.2.2.2.2.1/\Lb B d.2.2.2.2.2.2.2.2.2.2.1.1.1/\d.2.2.2.2.2.2.2.2.2.2.1.1.2.2.2.2.1=w),Po (gU d) (λx:gT=>match x with|.inl e=>Bd B e.2.1.2.2.2.2.2.2.2.2.2.2.2.1/\Lb B e.2.2.2.2.2.2.2.2.2.2.1.1.1/\e.2.2.2.2.2.2.2.2.2.2.1.1.2.2.2.2.1=w|.inr e=>Bd B e.2.1.2.2.2.2.2.2.2.2.2.2.2.1/\Lb B e.2.2.2.2.2.2.2.2.2.2.1.1.1/\e.2.2.2.2.2.2.2.2.2.2.1.1.2.2.2.2.1=w):=
 CE (λd hd=>by
  obtain⟨hr,ha,hl,hw⟩:=hd;unfold kZ;dsimp only;rw[aW];refine⟨λc0=> ?_,λ_=>by rw[aP];exact⟨ha,hl,hw⟩⟩;have c0:=eF c0;rw[dJ] at c0;rw[cR];intro _;rw[aW];refine⟨λc1=> ?_,λ_=>by rw[aP];exact⟨ha,hl,hw⟩⟩;have ht:Bd B (d.2.2.2.2.2.2.2.2.2.2.2.2.2.1.2.1 (d.2.1.2.2.2.2.1.1+0)):=hr 0 (by omega)
  repeat' (first
   |(rw[kn];exact trivial)
   |(rw[cR];intro _))
  rw[du];intro e he;have k1:=(@apc B w _ ⟨ht⟩ ⟨ha⟩ ⟨hl⟩ ⟨hw⟩).h e he;have k2:=(@xg (d.2.1.2.2.2.2.1.2-1) _ ⟨rfl⟩).h e he;have k2:e.1.1.2.2.2.2.1=d.2.1.2.2.2.2.1.2-1:=k2.h;rw[aP];refine⟨λi hi=> ?_,?_,?_,?_⟩
  .have hi:i<e.1.1.2.2.2.2.1:=hi;show Bd B (d.2.2.2.2.2.2.2.2.2.2.2.2.2.1.2.1 (d.2.1.2.2.2.2.1.1+1+0+i));have:=hr (1+i) (by omega);rw[show d.2.1.2.2.2.2.1.1+1+0+i=d.2.1.2.2.2.2.1.1+(1+i) by omega];exact this
  .exact k1.2.1.h
  .exact k1.1.h
  .exact k1.2.2.1.h)
theorem aYg (x0 x1 x2 x3 x4 x5 x6 x7:Int):Po (kD x0 x1 x2 x3 x4 x5 x6 x7) (λr:HW=>r=true->0<=x0/\x0<=1125899906842624):=by
 unfold kD zQ;show PW _ _
 refine bu (Vy (s:=_) (λd:hU.B=>d.2.1=x0) (λx:pW=>match x with|.inl _=>True|.inr e=>e.2.1=x0) (λd hd=>by
  unfold xY;try dsimp only
  try dsimp only
  repeat' (first
  |(rw[kn];exact trivial)
  |(rw[hX];refine⟨λa ha=> ?_,λa ha=> ?_⟩<;>subst ha)
  |(rw[pZ];refine⟨λa ha=> ?_,λa ha=> ?_⟩<;>subst ha)
  |(rw[aW];refine⟨λc=> ?_,λc=> ?_⟩)
  |(rw[du];intro _ _))
  all_goals (rw[aP];first|exact trivial|exact hd)) 2000 _ rfl) λy _ hy=> ?_
 repeat' (first
  |(rw[kn];exact trivial)
  |(rw[hX];refine⟨λa ha=> ?_,λa ha=> ?_⟩<;>subst ha)
  |(rw[pZ];refine⟨λa ha=> ?_,λa ha=> ?_⟩<;>subst ha)
  |(rw[aW];refine⟨λc=> ?_,λc=> ?_⟩)
  |(rw[du];intro _ _))
 all_goals
  rw[aP];first
  |(intro h;exact Bool.noConfusion h)
  |(intro q
    have q:=eF q;have hy:a.2.1=x0:=hy;simp only[lY] at*;omega)
theorem aZQ (x:gh.B):Po (cU x) (λe:sx=>e.1.2.2=0->0<=x.1.1/\x.1.1<=1125899906842624/\(x.2.1.2.2=true->x.2.1.2.1.1<x.1.1)):=by
 unfold cU mn;try dsimp only
 show PW _ _;try dsimp only
 refine bu (aYg _ _ _ _ _ _ _ _) λg _ hg=> ?_;rw[aW];refine⟨λc=>by rw[aP];exact λh=>absurd (show(1:Int)=0 from h) (by decide),λc=> ?_⟩;have hg:=hg (by cases g<;>first|rfl|cases c);rw[aW];refine⟨λc1=> ?_,λc1=> ?_⟩
 .rw[aW];refine⟨λ_=>by rw[aP];exact λh=>absurd (show(1:Int)=0 from h) (by decide),λc2=> ?_⟩;have c2:=pf c2;have key:0<=x.1.1/\x.1.1<=1125899906842624/\(x.2.1.2.2=true->x.2.1.2.1.1<x.1.1):=⟨hg.1,hg.2,λ_=>by omega⟩;repeat' (first
  |(rw[kn];exact trivial)
  |(rw[hX];refine⟨λa ha=> ?_,λa ha=> ?_⟩<;>subst ha)
  |(rw[pZ];refine⟨λa ha=> ?_,λa ha=> ?_⟩<;>subst ha)
  |(rw[aW];refine⟨λc=> ?_,λc=> ?_⟩)
  |(rw[du];intro _ _))
  all_goals (rw[aP];exact λ_=>key)
 .have key:0<=x.1.1/\x.1.1<=1125899906842624/\(x.2.1.2.2=true->x.2.1.2.1.1<x.1.1):=⟨hg.1,hg.2,λh=>by rw[h] at c1;cases c1⟩;repeat' (first
  |(rw[kn];exact trivial)
  |(rw[hX];refine⟨λa ha=> ?_,λa ha=> ?_⟩<;>subst ha)
  |(rw[pZ];refine⟨λa ha=> ?_,λa ha=> ?_⟩<;>subst ha)
  |(rw[aW];refine⟨λc=> ?_,λc=> ?_⟩)
  |(rw[du];intro _ _))
  all_goals (rw[aP];exact λ_=>key)
theorem aYh (x:dZ.B):Po (bQ x) (λe:gB=>e.b.2.1.1=x.b.2.1.1/\(e.1.2=0->e.b.2.1.2.1.1=x.1.1/\e.b.2.1.2.2=true/\(0<=x.b.2.1.2.1.2.1->x.b.2.1.2.1.2.1<=100000->x.b.2.1.1<=100000->0<=e.b.2.1.2.1.2.1/\e.b.2.1.2.1.2.1<=100000))/\(e.1.2≠0->e.b.2.1=x.b.2.1)/\(e.1.2=0->0<=x.1.1/\x.1.1<=1125899906842624/\(x.b.2.1.2.2=true->x.b.2.1.2.1.1<x.1.1))):=by
 unfold bQ jD;try dsimp only
 show PW _ _;try dsimp only
 refine bu ((aok _).and (aZQ _)) λd _ hd=> ?_;obtain⟨⟨d1,d2,d3,d4⟩,d5⟩:=hd;rw[aW];refine⟨λc=> ?_,λc=> ?_⟩
 .rw[aP];exact⟨d2,d3,d4,d5⟩
 have e0:d.1.2.2=0:=by
  have c:(!(d.1.2.2==0))=false:=c;rw[ae9] at c;exact eq_of_beq c
 rw[aW];refine⟨λ_=>by rw[aP];exact⟨d2,d3,d4,d5⟩,λ_=> ?_⟩
 have key:∀y:cG.B,y.b.1=d.2.1->Po (cO y) (λe:eV=>e.b.2.1=d.2.1):=by
  intro y hy;haveI:Ek d.2.1 y.b.1:=⟨hy⟩
  exact(aeU (vs:=d.2.1) y).h.mono λe h=>h.h
 repeat' (first
  |(rw[kn];exact trivial)
  |(with_reducible refine bu (key _ ?_) λy _ hy=> ?_)
  |(rw[pZ];refine⟨λ_ _=> ?_,λ_ _=> ?_⟩)
  |(rw[aW];refine⟨λ_=> ?_,λ_=> ?_⟩)
  |(rw[du];intro _ _))
 all_goals first
  |rfl
  |(rw[aP]
    have hy:y.b.2.1=d.2.1:=hy;have g:=d3 e0;refine⟨?_,λ_=> ?_,λh=>absurd (show(0:Int)=0 from rfl) h,λ_=>d5 e0⟩
    .show y.b.2.1.1=x.b.2.1.1;rw[hy];exact d2
    .show y.b.2.1.2.1.1=x.1.1/\y.b.2.1.2.2=true/\_;rw[hy];exact g)
theorem aRy (k t:Int)(r0 r1:Nat->Int)(q:Nat->Bool)(r2 r3 r4:Nat->Int)(v B:Int)(hl:Lb B r0)(ht:∀j,j<6->r3 j=10000)(h:B+10000<t)(hB:t<=4000000000000000):Po (gf k t r0 r1 q r2 r3 r4 v) (λr:rF=>r=false):=by
 unfold gf rG;show PW _ _;try dsimp only
 rw[du];intro g _;rw[aW];refine⟨λ_=> ?_,λ_=>by rw[aP]⟩;rw[cR];intro c6;rw[cm] at c6;have k6:ws k<6:=by omega
 rw[cR];intro _;have hk:=hl (ws k);refine bu (R:=λr:oH=>r=false) ?_ λd _ hd=>by rw[aP];exact hd
 unfold dm oI;show PW _ _;refine bu (R:=λr:w8=>r=false) ?_ λd _ hd=>by rw[hd,aW];exact⟨λc=>Bool.noConfusion c,λ_=>by rw[aP]⟩
 unfold lq qv;show PW _ _;try dsimp only
 rw[aW];refine⟨λ_=>by rw[aP],λ_=> ?_⟩;rw[aW];refine⟨λ_=> ?_,λc=>absurd (pf c) (by omega)⟩;rw[aW];refine⟨λ_=> ?_,λ_=>by rw[aP]⟩;rw[aP,ht _ k6];have e1:wU t=t:=by rw[show wU t=(t)%18446744073709551616 from wrap_u64 _];omega
 have e2:wU (r0 (ws k))=r0 (ws k):=by rw[show wU (r0 (ws k))=(r0 (ws k))%18446744073709551616 from wrap_u64 _];omega
 have e3:wU (t-r0 (ws k))=t-r0 (ws k):=by rw[show wU (t-r0 (ws k))=(t-r0 (ws k))%18446744073709551616 from wrap_u64 _];omega
 have e4:wU 10000=10000:=by rw[show wU 10000=(10000)%18446744073709551616 from wrap_u64 _];omega
 rw[e1,e2,e3,e4];exact dq (by omega)
theorem aOG (k t:Int)(r0 r1:Nat->Int)(q:Nat->Bool)(r2 r3 r4:Nat->Int)(v B:Int)(hl:Lb B r0)(ht:∀j,j<6->r3 j=10000)(hB:t<=4000000000000000):Po (gf k t r0 r1 q r2 r3 r4 v) (λr:rF=>B+10000<t->r=false):=by
 by_cases h:B+10000<t
 .exact(aRy k t r0 r1 q r2 r3 r4 v B hl ht h hB).mono λr hr _=>hr
 .exact λr _ h'=>absurd h' h
theorem sl1 (d:bG.B)(a:d.1.2.2.2.1=0)(b:d.1.2.2.2.2=0):Po (gv d) (λx:gu=>x.1.2.1=d.1.2.1/\x.2=d.2):=
 Vy (s:=_) (λe:bG.B=>e=d) (λx:gu=>x.1.2.1=d.1.2.1/\x.2=d.2) (λe he=>by
  subst he;unfold oQ;dsimp only;rw[aW];refine⟨λc=> ?_,λ_=>by rw[aP];exact⟨rfl,rfl⟩⟩;have c:=eF c;omega) 2000 d rfl
theorem sl0 (w:cw.B):∀(d:cw.B) (hd:0<=d.1/\d.2.1=w.2.1/\d.d.b.2.1=w.d.b.2.1/\d.d.c.b.1=w.d.c.b.1/\d.c.2.1.b.1=0/\d.c.b.1.b.1=0/\d.c.b.2.1.b.1=0/\d.d.1.b.1=0/\d.d.2.1.b.1=0/\d.d.b.1.b.1=0),Po (iw d) (λx:jT=>x.2.1=w.2.1/\x.d.b.2.1=w.d.b.2.1/\x.d.c.b.1=w.d.c.b.1/\x.c.2.1.b.1=0/\x.c.b.1.b.1=0/\x.c.b.2.1.b.1=0/\x.d.1.b.1=0/\x.d.2.1.b.1=0/\x.d.b.1.b.1=0):=
 CE (λd hd=>by
  obtain⟨i0,e1,e11,e14,l5,l6,l7,l8,l9,l10⟩:=hd;unfold oR;dsimp only;rw[aW];refine⟨λc6=> ?_,λ_=>by rw[aP];exact⟨e1,e11,e14,l5,l6,l7,l8,l9,l10⟩⟩;rw[cR];intro _
  repeat' (first
   |(rw[kn];exact trivial)
   |(with_reducible refine bu (aID _ ?_).po λe _ he=> ?_)
   |(with_reducible refine bu (sl1 _ ?_ ?_) λy _ hy=> ?_)
   |(rw[aW];refine⟨λ_=> ?_,λ_=> ?_⟩))
  all_goals first
   |rfl
   |(rw[aP]
     obtain⟨p1,p2⟩:=he;obtain⟨y1,y2⟩:=hy;have y1:y.1.2.1=d.1:=y1;have p3:e.2.1.b.1=0:=by first|exact Nat.le_zero.mp (bZ p2.len (Nat.le_of_eq l5))|exact Nat.le_zero.mp (bZ p2.len (Nat.le_of_eq l6))|exact Nat.le_zero.mp (bZ p2.len (Nat.le_of_eq l7))|exact Nat.le_zero.mp (bZ p2.len (Nat.le_of_eq l8))|exact Nat.le_zero.mp (bZ p2.len (Nat.le_of_eq l9))|exact Nat.le_zero.mp (bZ p2.len (Nat.le_of_eq l10))
     have c6:=eF c6;have hw:wI (y.1.2.1+1)=d.1+1:=by rw[y1];exact bk (by omega) (by omega)
     have g1:=cM (λz=>z.1) y2;have g11:=cM (λz=>z.d.b.1) y2;have g14:=cM (λz=>z.d.c.2.1) y2;have g5:=cM (λz=>z.c.1) y2;have g6:=cM (λz=>z.c.2.1) y2;have g7:=cM (λz=>z.c.b.1) y2;have g8:=cM (λz=>z.c.b.2.1) y2;have g9:=cM (λz=>z.d.1) y2;have g10:=cM (λz=>z.d.2.1) y2
     exact⟨by show 0<=wI (y.1.2.1+1);rw[hw];omega,g1.trans e1,g11.trans e11,g14.trans e14,
      (by show y.c.2.1.b.1=0;rw[show y.c.2.1=_ from g5];first|exact l5|exact p3),(by show y.c.b.1.b.1=0;rw[show y.c.b.1=_ from g6];first|exact l6|exact p3),(by show y.c.b.2.1.b.1=0;rw[show y.c.b.2.1=_ from g7];first|exact l7|exact p3),(by show y.d.1.b.1=0;rw[show y.d.1=_ from g8];first|exact l8|exact p3),(by show y.d.2.1.b.1=0;rw[show y.d.2.1=_ from g9];first|exact l9|exact p3),(by show y.d.b.1.b.1=0;rw[show y.d.b.1=_ from g10];first|exact l10|exact p3)⟩)
   |(obtain⟨p1,p2⟩:=he
     have p1:e.1=0:=by first|exact Nat.le_zero.mp (bZ p1 (Nat.le_of_eq l5))|exact Nat.le_zero.mp (bZ p1 (Nat.le_of_eq l6))|exact Nat.le_zero.mp (bZ p1 (Nat.le_of_eq l7))|exact Nat.le_zero.mp (bZ p1 (Nat.le_of_eq l8))|exact Nat.le_zero.mp (bZ p1 (Nat.le_of_eq l9))|exact Nat.le_zero.mp (bZ p1 (Nat.le_of_eq l10))
     show wl e.1=0;rw[p1];rfl)
   |(first|exact bZ (Nat.le_of_eq l5) (show 0<=1000 by decide)|exact bZ (Nat.le_of_eq l6) (show 0<=1000 by decide)|exact bZ (Nat.le_of_eq l7) (show 0<=1000 by decide)|exact bZ (Nat.le_of_eq l8) (show 0<=1000 by decide)|exact bZ (Nat.le_of_eq l9) (show 0<=1000 by decide)|exact bZ (Nat.le_of_eq l10) (show 0<=1000 by decide)))
theorem sl2 (B:Int)(w d:cv.B)(hl:Lb B w.d.b.2.1.1.1)(ht:∀j,j<6->w.d.b.2.1.1.c.1 j=10000)(hB:w.d.c.b.1.1<=4000000000000000)(hd:(B+10000<w.d.c.b.1.1->d.d.c.b.2.1.b.1=false/\d.d.c.b.2.1.b.2.1=false/\d.d.c.b.2.1.c.1=false/\d.d.c.b.2.1.c.2.1=false/\d.d.c.b.2.1.c.b.1=false/\d.d.c.b.2.1.c.b.2.1=false)/\d.2.1=w.2.1/\d.c.2.1=w.c.2.1/\d.c.b.1=w.c.b.1/\d.c.b.2.1=w.c.b.2.1/\d.d.1=w.d.1/\d.d.2.1=w.d.2.1/\d.d.b.1=w.d.b.1/\d.d.b.2.1=w.d.b.2.1/\d.d.c.1=w.d.c.1/\d.d.c.b.1=w.d.c.b.1/\d.d.c.b.2.2=w.d.c.b.2.2/\d.d.c.b.2.1.d.1=w.d.c.b.2.1.d.1/\d.d.c.b.2.1.d.2=w.d.c.b.2.1.d.2):Po (gx d) (λx:mD=>(B+10000<w.d.c.b.1.1->x.d.c.b.2.1.b.1=false/\x.d.c.b.2.1.b.2.1=false/\x.d.c.b.2.1.c.1=false/\x.d.c.b.2.1.c.2.1=false/\x.d.c.b.2.1.c.b.1=false/\x.d.c.b.2.1.c.b.2.1=false)/\x.2.1=w.2.1/\x.c.2.1=w.c.2.1/\x.c.b.1=w.c.b.1/\x.c.b.2.1=w.c.b.2.1/\x.d.1=w.d.1/\x.d.2.1=w.d.2.1/\x.d.b.1=w.d.b.1/\x.d.b.2.1=w.d.b.2.1/\x.d.c.1=w.d.c.1/\x.d.c.b.1=w.d.c.b.1/\x.d.c.b.2.2=w.d.c.b.2.2/\x.d.c.b.2.1.d.1=w.d.c.b.2.1.d.1/\x.d.c.b.2.1.d.2=w.d.c.b.2.1.d.2):=by
 revert d
 exact CE (λd hd=>by
  have hd':=hd;obtain⟨hu,ik⟩:=hd;have e11:d.d.b.2.1=w.d.b.2.1:=ik.c.b.2.1;have e14:d.d.c.b.1=w.d.c.b.1:=ik.d.2.1;unfold sW;dsimp only;rw[aW];refine⟨λ_=> ?_,λ_=>by rw[aP];exact hd'⟩;have hl':Lb B d.d.b.2.1.1.1:=by rw[e11];exact hl
  have ht':∀j,j<6->d.d.b.2.1.1.c.1 j=10000:=by rw[e11];exact ht
  have hB':d.d.c.b.1.1<=4000000000000000:=by rw[e14];exact hB
  with_reducible refine bu (aOG _ _ _ _ _ _ _ _ _ B hl' ht' hB') λr _ hr=> ?_
  have hr:B+10000<w.d.c.b.1.1->r=false:=by rw[<-e14];exact hr
  repeat' (first
   |(rw[kn];exact trivial)
   |(rw[aW];refine⟨λ_=> ?_,λ_=> ?_⟩))
  all_goals
   rw[aP];refine⟨λhc=> ?_,ik⟩;obtain⟨u0,u1,u2,u3,u4,u5⟩:=hu hc;have hr:=hr hc;first
   |exact⟨hr,u1,u2,u3,u4,u5⟩
   |exact⟨u0,hr,u2,u3,u4,u5⟩
   |exact⟨u0,u1,hr,u3,u4,u5⟩
   |exact⟨u0,u1,u2,hr,u4,u5⟩
   |exact⟨u0,u1,u2,u3,hr,u5⟩
   |exact⟨u0,u1,u2,u3,u4,hr⟩)
theorem aYi (x0:Int)(x1 x2 x4 x5 x6 x7:Bool)(x9 fS fR:Int):Po (BN x0 x1 x2 false x4 x5 x6 x7 false x9 fS fR) (λr:agr=>¬(r:Int)=3):=by
 unfold BN UB;show PW _ _;dsimp only
 repeat' (first
  |(rw[aW];refine⟨λc=> ?_,λc=> ?_⟩))
 all_goals
  rw[aP];first
  |contradiction
  |(intro h;exact absurd h (by decide))
  |(intro h
    have h:x0=3:=h;subst h;simp at*)
theorem aRz (x0:Int)(x1 x2:Bool)(x9 fS fR:Int):Po (we x0 x1 x2 false false false false false false x9 fS fR) (λr:Wj=>r.2=false):=by
 unfold we LQ;show PW _ _
 refine bu (Vy (s:=_) (λd:lz.B=>d.2.1.b.1=false/\d.2.1.b.2.1=false/\d.2.1.c.1=false/\d.2.1.c.2.1=false/\d.2.1.c.b.1=false/\d.2.1.c.b.2.1=false) (λx:vD=>match x with|.inl _=>False|.inr _=>True) (λd hd=>by
  have hd':=hd;obtain⟨u0,u1,u2,u3,u4,u5⟩:=hd;unfold FU;dsimp only;repeat' (first
  |(rw[kn];exact trivial)
  |(rw[hX];refine⟨λa ha=> ?_,λa ha=> ?_⟩<;>subst ha)
  |(rw[pZ];refine⟨λa ha=> ?_,λa ha=> ?_⟩<;>subst ha)
  |(rw[aW];refine⟨λc=> ?_,λc=> ?_⟩)
  |(rw[du];intro _ _))
  all_goals first
   |(rw[aP];first|exact trivial|exact hd')
   |(exfalso;simp_all)) 2000 _ ⟨rfl,rfl,rfl,rfl,rfl,rfl⟩) λy _ hy=> ?_
 rw[hX];refine⟨λa ha=>by subst ha;exact absurd hy id,λa ha=> ?_⟩;rw[aP]
theorem aLB (x:BO.B)(u:x.2.2.2.1=(false,false,false,false,false,false))(h:x.2.2.2.2.2.1<x.2.2.2.2.1):Po (yy x) (λr:LS=>(¬r.1.1=3/\r.1.2.2.1=false/\(2<=r.1.1->r.1.2.2.2=true))):=by
 unfold yy UC;try dsimp only
 show PW _ _;try dsimp only
 rw[u]
 repeat' (first
  |(with_reducible refine bu (aYi _ _ _ _ _ _ _ _ _ _) λm _ hm=> ?_)
  |(with_reducible refine bu (aRz _ _ _ _ _ _) λs _ hs=> ?_)
  |(rw[aW];refine⟨λc=> ?_,λc=> ?_⟩)
  |(rw[du];intro _ _))
 all_goals
  rw[aP];first
  |(rename_i c;exact absurd (eq_of_beq c) hm)
  |exact⟨hm,dq (by omega),λ_=>by show(!s.2)=true;rw[hs];rfl⟩
  |exact⟨hm,rfl,λ_=>by show(!s.2)=true;rw[hs];rfl⟩
  |exact⟨hm,rfl,λq=>absurd q (by rename_i c;exact pf c)⟩
theorem aHl (P:Prop)(x:BO.B)(u:P->x.b.2.1=(false,false,false,false,false,false))(h:P->x.c.2.1<x.c.1):Po (yy x) (λr:LS=>P->(¬r.1.1=3/\r.1.b.1=false/\(2<=r.1.1->r.1.b.2=true))):=by
 by_cases p:P
 .exact(aLB x (u p) (h p)).mono λr hr _=>hr
 .exact λr _ p'=>absurd p' p
theorem sl5 (d:dB.B):Po (fq d) (λx:jR=>match x with|.inl e=>e.2.1.c.1=d.1.c.2.1/\e.2.1.d.2.1=d.1.d.b.2.1/\e.2.1.d.b.1=d.1.d.c.1/\e.2.1.d.b.2.1=d.1.d.c.2.1/\e.c.2.1=d.c.1/\e.c.b.1=d.c.2.1/\e.c.b.2.1=d.c.b.1/\e.d.1=d.c.b.2.1/\e.d.2.1=d.d.1/\e.d.b.1=d.d.2.1/\e.d.b.2.1=d.d.b.1|.inr e=>e.2.1.c.2.1=d.1.c.2.1/\e.2.1.d.b.1=d.1.d.b.2.1/\e.2.1.d.b.2.1=d.1.d.c.1/\e.2.1.d.c.1=d.1.d.c.2.1/\e.c.2.1=d.c.1/\e.c.b.1=d.c.2.1/\e.c.b.2.1=d.c.b.1/\e.d.1=d.c.b.2.1/\e.d.2.1=d.d.1/\e.d.b.1=d.d.2.1/\e.d.b.2.1=d.d.b.1):=by
 unfold fq zi;try dsimp only
 show PW _ _;try dsimp only
 repeat' (first
  |(rw[kn];exact trivial)
  |(rw[hX];refine⟨λa ha=> ?_,λa ha=> ?_⟩<;>subst ha)
  |(rw[pZ];refine⟨λa ha=> ?_,λa ha=> ?_⟩<;>subst ha)
  |(rw[aW];refine⟨λc=> ?_,λc=> ?_⟩)
  |(rw[du];intro _ _))
 all_goals (rw[aP];exact⟨rfl,rfl,rfl,rfl,rfl,rfl,rfl,rfl,rfl,rfl,rfl⟩)
theorem sl4 (P:Prop)(d:dC.B)(j:d.1.d.c.b.2.2=0)(u:P->(d.d.c.b.1.b.1,d.d.c.b.1.b.2.1,d.d.c.b.1.c.1,d.d.c.b.1.c.2.1,d.d.c.b.1.c.b.1,d.d.c.b.1.c.b.2.1)=(false,false,false,false,false,false))(h:P->d.d.c.b.1.d.2.1<d.d.c.b.1.d.1):Po (dQ d) (λx:jU=>match x with|.inl e=>(P->(¬e.2.1.c.1.1=3/\e.2.1.c.1.b.1=false/\(2<=e.2.1.c.1.1->e.2.1.c.1.b.2=true)))/\e.2.1.d.2.1=d.1.d.b.2.1/\e.2.1.d.b.1=d.1.d.c.1/\e.2.1.d.b.2.1=d.1.d.c.2.1/\e.c.2.1=d.c.1/\e.c.b.1=d.c.2.1/\e.c.b.2.1=d.c.b.1/\e.d.1=d.c.b.2.1/\e.d.2.1=d.d.1/\e.d.b.1=d.d.2.1/\e.d.b.2.1=d.d.b.1|.inr e=>(P->(¬e.2.1.c.2.1.1=3/\e.2.1.c.2.1.b.1=false/\(2<=e.2.1.c.2.1.1->e.2.1.c.2.1.b.2=true)))/\e.2.1.d.b.1=d.1.d.b.2.1/\e.2.1.d.b.2.1=d.1.d.c.1/\e.2.1.d.c.1=d.1.d.c.2.1/\e.c.2.1=d.c.1/\e.c.b.1=d.c.2.1/\e.c.b.2.1=d.c.b.1/\e.d.1=d.c.b.2.1/\e.d.2.1=d.d.1/\e.d.b.1=d.d.2.1/\e.d.b.2.1=d.d.b.1):=by
 unfold dQ sX;try dsimp only
 show PW _ _;try dsimp only
 refine bu (aHl P _ u h) λm _ hm=> ?_;rw[j,show decide (wl 0>0)=false from rfl,aW];refine⟨λc=>Bool.noConfusion c,λ_=> ?_⟩
 repeat' (first
  |(rw[kn];exact trivial)
  |(with_reducible refine bu (sl5 _) λy _ hy=> ?_)
  |(rw[hX];refine⟨λa ha=> ?_,λa ha=> ?_⟩<;>subst ha)
  |(rw[aW];refine⟨λ_=> ?_,λ_=> ?_⟩))
 all_goals
  rw[aP];obtain⟨k0,k1,k2,k3,kb⟩:=hy;refine⟨?_,k1,k2,k3,kb⟩;rw[k0];exact hm
theorem sl3 (B:Int)(d:de.B)(j:d.1.d.c.b.2.2=0)(l0:d.c.1.b.1=0)(l1:d.c.2.1.b.1=0)(l2:d.c.b.1.b.1=0)(l3:d.c.b.2.1.b.1=0)(l4:d.d.1.b.1=0)(l5:d.d.2.1.b.1=0)(hl:Lb B d.d.b.1.1.1)(ht:∀j,j<6->d.d.b.1.1.c.1 j=10000)(hL:d.1.1.d.1=20000)(ha:Bd B d.1.d.c.1)(hB:d.d.c.2.1.1<=4000000000000000):Po (eu d) (λx:ix=>match x with|.inl e=>(B+20000<d.d.c.2.1.1->(¬e.2.1.c.1.1=3/\e.2.1.c.1.b.1=false/\(2<=e.2.1.c.1.1->e.2.1.c.1.b.2=true)))/\e.2.1.d.b.1=d.1.d.c.1/\e.2.1.d.b.2.1=d.1.d.c.2.1/\e.c.2.1.b.1=0/\e.c.b.1.b.1=0/\e.c.b.2.1.b.1=0/\e.d.1.b.1=0/\e.d.2.1.b.1=0/\e.d.b.1.b.1=0/\e.d.b.2.1=d.d.b.1|.inr e=>(B+20000<d.d.c.2.1.1->(¬e.2.1.c.2.1.1=3/\e.2.1.c.2.1.b.1=false/\(2<=e.2.1.c.2.1.1->e.2.1.c.2.1.b.2=true)))/\e.2.1.d.b.2.1=d.1.d.c.1/\e.2.1.d.c.1=d.1.d.c.2.1/\e.c.2.1.b.1=0/\e.c.b.1.b.1=0/\e.c.b.2.1.b.1=0/\e.d.1.b.1=0/\e.d.2.1.b.1=0/\e.d.b.1.b.1=0/\e.d.b.2.1=d.d.b.1):=by
 unfold eu oS;try dsimp only
 show PW _ _;repeat (rw[cR];intro _)
 refine bu (sl0 _ _ ⟨eW 0,rfl,rfl,rfl,l0,l1,l2,l3,l4,l5⟩) λy _ hy=> ?_;obtain⟨y1,uM,xI,m0,m1,m2,m3,m4,m5⟩:=hy;have y1:y.2.1=d.1:=y1;have uM:y.d.b.2.1=d.d.b.1:=uM;have xI:y.d.c.b.1=d.d.c.2.1:=xI;repeat (rw[cR];intro _)
 refine bu (sl2 B _ _ (by show Lb B y.d.b.2.1.1.1;rw[uM];exact hl) (by show∀j,j<6->y.d.b.2.1.1.c.1 j=10000;rw[uM];exact ht) (by show y.d.c.b.1.1<=_;rw[xI];exact hB) ⟨λ_=>⟨rfl,rfl,rfl,rfl,rfl,rfl⟩,rfl,rfl,rfl,rfl,rfl,rfl,rfl,rfl,rfl,rfl,rfl,rfl,rfl⟩) λz _ hz=> ?_;obtain⟨hu,z1,z5,z6,z7,z8,z9,z10,z11,z12,z14,z16,zL,zP⟩:=hz;have z1:z.2.1=y.2.1:=z1;have z11:z.d.b.2.1=y.d.b.2.1:=z11;have z14:z.d.c.b.1=y.d.c.b.1:=z14;have zL:z.d.c.b.2.1.d.1=y.2.1.1.d.1:=zL;have w1:z.2.1=d.1:=z1.trans y1;have t1:z.d.c.b.1.1=d.d.c.2.1.1:=by rw[z14,xI]
 have lim:z.d.c.b.2.1.d.1=20000:=by rw[zL,y1];exact hL
 have us:B+20000<d.d.c.2.1.1->(z.d.c.b.2.1.b.1,z.d.c.b.2.1.b.2.1,z.d.c.b.2.1.c.1,z.d.c.b.2.1.c.2.1,z.d.c.b.2.1.c.b.1,z.d.c.b.2.1.c.b.2.1)=(false,false,false,false,false,false):=λhc=>by
  obtain⟨u0,u1,u2,u3,u4,u5⟩:=hu (by show B+10000<y.d.c.b.1.1;rw[xI];omega);rw[u0,u1,u2,u3,u4,u5]
 have n0:z.c.2.1.b.1=0:=by rw[show z.c.2.1=y.c.2.1 from z5];exact m0
 have n1:z.c.b.1.b.1=0:=by rw[show z.c.b.1=y.c.b.1 from z6];exact m1
 have n2:z.c.b.2.1.b.1=0:=by rw[show z.c.b.2.1=y.c.b.2.1 from z7];exact m2
 have n3:z.d.1.b.1=0:=by rw[show z.d.1=y.d.1 from z8];exact m3
 have n4:z.d.2.1.b.1=0:=by rw[show z.d.2.1=y.d.2.1 from z9];exact m4
 have n5:z.d.b.1.b.1=0:=by rw[show z.d.b.1=y.d.b.1 from z10];exact m5
 have mon:z.d.b.2.1=d.d.b.1:=z11.trans uM
 repeat' (first
  |(rw[kn];exact trivial)
  |(with_reducible refine bu (sl4 (B+20000<d.d.c.2.1.1) _ ?_ ?_ ?_) λv _ hv=> ?_)
  |(rw[hX];refine⟨λa ha=> ?_,λa ha=> ?_⟩<;>subst ha)
  |(rw[aW];refine⟨λ_=> ?_,λ_=> ?_⟩))
 all_goals first
  |exact us
  |(show z.2.1.d.c.b.2.2=0;rw[w1];exact j)
  |(intro hc
    show z.d.c.b.2.1.d.1<wI (z.d.c.b.1.1-z.2.1.d.c.1);rw[lim,t1,w1,fL (by omega) (by omega)];omega)
  |(intro hc
    show z.d.c.b.2.1.d.1<1125899906842624;rw[lim];decide)
  |(rw[aP]
    obtain⟨k0,_,k2,k3,b0,b1,b2,b3,b4,b5,bm⟩:=hv;rw[show z.2.1=d.1 from w1] at k2 k3;refine⟨k0,k2,k3,?_,?_,?_,?_,?_,?_,bm.trans mon⟩
    .rw[b0];exact n0
    .rw[b1];exact n1
    .rw[b2];exact n2
    .rw[b3];exact n3
    .rw[b4];exact n4
    .rw[b5];exact n5)
theorem zr {M:Int}{n:Nat}{r:Nat->Int}(h:∀j,j<n->r j<=M):∀i,i<n->r (0+i)<=M:=λi hi=>by rw[gW];exact h i hi
theorem aYj (w:bG.B):∀(d:bG.B) (hd:d.1.2.1=w.1.2.1/\d.c.2.1=w.c.2.1/\d.c.b.1=w.c.b.1/\d.c.b.2.1=w.c.b.2.1/\d.d.1=w.d.1/\d.d.2.1=w.d.2.1/\d.d.b.1=w.d.b.1/\d.d.c.b.1=w.d.c.b.1/\d.e.2=w.e.2),Po (gv d) (λx:gu=>x.1.2.1=w.1.2.1/\x.c.2.1=w.c.2.1/\x.c.b.1=w.c.b.1/\x.c.b.2.1=w.c.b.2.1/\x.d.1=w.d.1/\x.d.2.1=w.d.2.1/\x.d.b.1=w.d.b.1/\x.d.c.b.1=w.d.c.b.1/\x.e.2=w.e.2):=
 CE (λd hd=>by
  unfold oQ;dsimp only;repeat' (first
  |(rw[kn];exact trivial)
  |(rw[hX];refine⟨λa ha=> ?_,λa ha=> ?_⟩<;>subst ha)
  |(rw[pZ];refine⟨λa ha=> ?_,λa ha=> ?_⟩<;>subst ha)
  |(rw[aW];refine⟨λc=> ?_,λc=> ?_⟩)
  |(rw[du];intro _ _))
  all_goals (rw[aP];exact hd))
theorem aYk (w:cv.B):∀(d:cv.B) (hd:d.c.2.1=w.c.2.1/\d.c.b.1=w.c.b.1/\d.c.b.2.1=w.c.b.2.1/\d.d.1=w.d.1/\d.d.2.1=w.d.2.1/\d.d.b.1=w.d.b.1),Po (gx d) (λx:mD=>x.c.2.1=w.c.2.1/\x.c.b.1=w.c.b.1/\x.c.b.2.1=w.c.b.2.1/\x.d.1=w.d.1/\x.d.2.1=w.d.2.1/\x.d.b.1=w.d.b.1):=
 CE (λd hd=>by
  unfold sW;dsimp only;repeat' (first
  |(rw[kn];exact trivial)
  |(rw[hX];refine⟨λa ha=> ?_,λa ha=> ?_⟩<;>subst ha)
  |(rw[pZ];refine⟨λa ha=> ?_,λa ha=> ?_⟩<;>subst ha)
  |(rw[aW];refine⟨λc=> ?_,λc=> ?_⟩)
  |(rw[du];intro _ _))
  all_goals (rw[aP];exact hd))
theorem aYl (d:dB.B):Po (fq d) (λx:jR=>match x with|.inl e=>e.c.2.1=d.c.1/\e.c.b.1=d.c.2.1/\e.c.b.2.1=d.c.b.1/\e.d.1=d.c.b.2.1/\e.d.2.1=d.d.1/\e.d.b.1=d.d.2.1|.inr e=>e.c.2.1=d.c.1/\e.c.b.1=d.c.2.1/\e.c.b.2.1=d.c.b.1/\e.d.1=d.c.b.2.1/\e.d.2.1=d.d.1/\e.d.b.1=d.d.2.1):=(sl5 d).mono λx h=>by
 cases x with
 |inl e=>obtain⟨_,_,_,_,b0,b1,b2,b3,b4,b5,_⟩:=h;exact⟨b0,b1,b2,b3,b4,b5⟩
 |inr e=>obtain⟨_,_,_,_,b0,b1,b2,b3,b4,b5,_⟩:=h;exact⟨b0,b1,b2,b3,b4,b5⟩
theorem aYm (d:dC.B):Po (dQ d) (λx:jU=>match x with|.inl e=>e.c.2.1=d.c.1/\e.c.b.1=d.c.2.1/\e.c.b.2.1=d.c.b.1/\e.d.1=d.c.b.2.1/\e.d.2.1=d.d.1/\e.d.b.1=d.d.2.1|.inr e=>e.c.2.1=d.c.1/\e.c.b.1=d.c.2.1/\e.c.b.2.1=d.c.b.1/\e.d.1=d.c.b.2.1/\e.d.2.1=d.d.1/\e.d.b.1=d.d.2.1):=by
 unfold dQ sX;try dsimp only
 show PW _ _;try dsimp only
 repeat' (first
  |(with_reducible refine bu (aYl _) λy _ hy=> ?_)
  |(rw[kn];exact trivial)
  |(rw[hX];refine⟨λa ha=> ?_,λa ha=> ?_⟩<;>subst ha)
  |(rw[pZ];refine⟨λa ha=> ?_,λa ha=> ?_⟩<;>subst ha)
  |(rw[aW];refine⟨λc=> ?_,λc=> ?_⟩)
  |(rw[du];intro _ _))
 all_goals (rw[aP];exact hy)
theorem em0 (M t:Int)(hM:M<=t):∀(d:cw.B) (hd:0<=d.1/\d.1<=6/\d.d.c.b.1.1=t/\(∀j,j<d.c.2.1.b.1->d.e.1.1 j<=M)/\(0<d.1->d.c.2.1.b.1=0)/\(∀j,j<d.c.b.1.b.1->d.e.2.1.1 j<=M)/\(1<d.1->d.c.b.1.b.1=0)/\(∀j,j<d.c.b.2.1.b.1->d.e.b.1.1 j<=M)/\(2<d.1->d.c.b.2.1.b.1=0)/\(∀j,j<d.d.1.b.1->d.e.b.2.1.1 j<=M)/\(3<d.1->d.d.1.b.1=0)/\(∀j,j<d.d.2.1.b.1->d.e.c.1.1 j<=M)/\(4<d.1->d.d.2.1.b.1=0)/\(∀j,j<d.d.b.1.b.1->d.e.c.2.1.1 j<=M)/\(5<d.1->d.d.b.1.b.1=0)),Po (iw d) (λx:jT=>x.c.2.1.b.1=0/\x.c.b.1.b.1=0/\x.c.b.2.1.b.1=0/\x.d.1.b.1=0/\x.d.2.1.b.1=0/\x.d.b.1.b.1=0):=
 CE (λd hd=>by
  obtain⟨i0,i1,e14,c0,e0,c1,e1,c2,e2,c3,e3,c4,e4,c5,e5⟩:=hd;unfold oR;dsimp only;rw[aW];refine⟨λc7=> ?_,λc7=> ?_⟩
  .have c7:=eF c7;rw[cR];intro _
   repeat' (first
    |(rw[kn];exact trivial)
    |(with_reducible refine bu (aSv M _ ?_) λe _ he=> ?_)
    |(with_reducible refine bu (aYj _ _ ⟨rfl,rfl,rfl,rfl,rfl,rfl,rfl,rfl,rfl⟩) λy _ hy=> ?_)
    |(rw[aW];refine⟨λc=> ?_,λc=> ?_⟩<;>first|have c8:=eq_of_beq c|have c8:=akr c|skip))
   all_goals first
    |(rw[aP]
      obtain⟨p1,p2⟩:=he;have p2:=p2 (by show M<=d.d.c.b.1.1;rw[e14];exact hM);obtain⟨y1,g0,g1,g2,g3,g4,g5,g14,gr⟩:=hy;have y1:y.1.2.1=d.1:=y1;have hw:wI (y.1.2.1+1)=d.1+1:=by rw[y1];exact bk (by omega) (by omega)
      have r0:=cM (λz=>z.1) gr;have r1:=cM (λz=>z.2.1) gr;have r2:=cM (λz=>z.b.1) gr;have r3:=cM (λz=>z.b.2.1) gr;have r4:=cM (λz=>z.c.1) gr;have r5:=cM (λz=>z.c.2.1) gr;refine⟨by show 0<=wI (y.1.2.1+1);rw[hw];omega,by show wI (y.1.2.1+1)<=6;rw[hw];omega,(cM (λz=>z.1) g14).trans e14,(λj hj=>by
      have hj:j<y.c.2.1.b.1:=hj;show y.e.2.1.1 j<=M;rw[show y.c.2.1=_ from g0] at hj;rw[show y.e.2.1=_ from r0];first|exact c0 j hj|exact p1 j hj),(λhk=>by
      have hk:0<wI (y.1.2.1+1):=hk;show y.c.2.1.b.1=0;rw[show y.c.2.1=_ from g0];first|exact p2|exact e0 (by omega)),(λj hj=>by
      have hj:j<y.c.b.1.b.1:=hj;show y.e.b.1.1 j<=M;rw[show y.c.b.1=_ from g1] at hj;rw[show y.e.b.1=_ from r1];first|exact c1 j hj|exact p1 j hj),(λhk=>by
      have hk:1<wI (y.1.2.1+1):=hk;show y.c.b.1.b.1=0;rw[show y.c.b.1=_ from g1];first|exact p2|exact e1 (by omega)),(λj hj=>by
      have hj:j<y.c.b.2.1.b.1:=hj;show y.e.b.2.1.1 j<=M;rw[show y.c.b.2.1=_ from g2] at hj;rw[show y.e.b.2.1=_ from r2];first|exact c2 j hj|exact p1 j hj),(λhk=>by
      have hk:2<wI (y.1.2.1+1):=hk;show y.c.b.2.1.b.1=0;rw[show y.c.b.2.1=_ from g2];first|exact p2|exact e2 (by omega)),(λj hj=>by
      have hj:j<y.d.1.b.1:=hj;show y.e.c.1.1 j<=M;rw[show y.d.1=_ from g3] at hj;rw[show y.e.c.1=_ from r3];first|exact c3 j hj|exact p1 j hj),(λhk=>by
      have hk:3<wI (y.1.2.1+1):=hk;show y.d.1.b.1=0;rw[show y.d.1=_ from g3];first|exact p2|exact e3 (by omega)),(λj hj=>by
      have hj:j<y.d.2.1.b.1:=hj;show y.e.c.2.1.1 j<=M;rw[show y.d.2.1=_ from g4] at hj;rw[show y.e.c.2.1=_ from r4];first|exact c4 j hj|exact p1 j hj),(λhk=>by
      have hk:4<wI (y.1.2.1+1):=hk;show y.d.2.1.b.1=0;rw[show y.d.2.1=_ from g4];first|exact p2|exact e4 (by omega)),(λj hj=>by
      have hj:j<y.d.b.1.b.1:=hj;show y.e.c.b.1.1 j<=M;rw[show y.d.b.1=_ from g5] at hj;rw[show y.e.c.b.1=_ from r5];first|exact c5 j hj|exact p1 j hj),(λhk=>by
      have hk:5<wI (y.1.2.1+1):=hk;show y.d.b.1.b.1=0;rw[show y.d.b.1=_ from g5];first|exact p2|exact e5 (by omega))⟩)
    |exact zr c0
    |exact zr c1
    |exact zr c2
    |exact zr c3
    |exact zr c4
    |exact zr c5
  .have c7:=pf c7;rw[aP];exact⟨e0 (by omega),e1 (by omega),e2 (by omega),e3 (by omega),e4 (by omega),e5 (by omega)⟩)
theorem em3 (M:Int)(d:de.B)(hM:M<=d.d.c.2.1.1)(h0:∀j,j<d.c.1.b.1->d.d.c.b.2.1.1 j<=M)(h1:∀j,j<d.c.2.1.b.1->d.e.1.1 j<=M)(h2:∀j,j<d.c.b.1.b.1->d.e.2.1.1 j<=M)(h3:∀j,j<d.c.b.2.1.b.1->d.e.b.1.1 j<=M)(h4:∀j,j<d.d.1.b.1->d.e.b.2.1.1 j<=M)(h5:∀j,j<d.d.2.1.b.1->d.e.c.1.1 j<=M):Po (eu d) (λx:ix=>match x with|.inl e=>e.c.2.1.b.1=0/\e.c.b.1.b.1=0/\e.c.b.2.1.b.1=0/\e.d.1.b.1=0/\e.d.2.1.b.1=0/\e.d.b.1.b.1=0|.inr e=>e.c.2.1.b.1=0/\e.c.b.1.b.1=0/\e.c.b.2.1.b.1=0/\e.d.1.b.1=0/\e.d.2.1.b.1=0/\e.d.b.1.b.1=0):=by
 unfold eu oS;try dsimp only
 show PW _ _;repeat (rw[cR];intro _)
 refine bu (em0 M d.d.c.2.1.1 hM _ ⟨eW 0,(show(0:Int)<=6 by decide),rfl,h0,λh=>absurd h (show ¬((0:Int)<0) by decide),h1,λh=>absurd h (show ¬((1:Int)<0) by decide),h2,λh=>absurd h (show ¬((2:Int)<0) by decide),h3,λh=>absurd h (show ¬((3:Int)<0) by decide),h4,λh=>absurd h (show ¬((4:Int)<0) by decide),h5,λh=>absurd h (show ¬((5:Int)<0) by decide)⟩) λy _ hy=> ?_;obtain⟨l0,l1,l2,l3,l4,l5⟩:=hy;repeat (rw[cR];intro _)
 refine bu (aYk _ _ ⟨rfl,rfl,rfl,rfl,rfl,rfl⟩) λz _ hz=> ?_;obtain⟨z0,z1,z2,z3,z4,z5⟩:=hz;have z0:z.c.2.1=y.c.2.1:=z0;have z1:z.c.b.1=y.c.b.1:=z1;have z2:z.c.b.2.1=y.c.b.2.1:=z2;have z3:z.d.1=y.d.1:=z3;have z4:z.d.2.1=y.d.2.1:=z4;have z5:z.d.b.1=y.d.b.1:=z5
 repeat' (first
  |(with_reducible refine bu (aYm _) λv _ hv=> ?_)
  |(rw[kn];exact trivial)
  |(rw[hX];refine⟨λa ha=> ?_,λa ha=> ?_⟩<;>subst ha)
  |(rw[pZ];refine⟨λa ha=> ?_,λa ha=> ?_⟩<;>subst ha)
  |(rw[aW];refine⟨λc=> ?_,λc=> ?_⟩)
  |(rw[du];intro _ _))
 all_goals
  rw[aP];obtain⟨b0,b1,b2,b3,b4,b5⟩:=hv;refine⟨?_,?_,?_,?_,?_,?_⟩
  .rw[b0];show z.c.2.1.b.1=0;rw[z0];exact l0
  .rw[b1];show z.c.b.1.b.1=0;rw[z1];exact l1
  .rw[b2];show z.c.b.2.1.b.1=0;rw[z2];exact l2
  .rw[b3];show z.d.1.b.1=0;rw[z3];exact l3
  .rw[b4];show z.d.2.1.b.1=0;rw[z4];exact l4
  .rw[b5];show z.d.b.1.b.1=0;rw[z5];exact l5
theorem aYn (M:Int)(x:fN.B)(hM:M<=x.1.1)(h0:∀j,j<x.c.2.1.b.1->x.d.c.b.1.1 j<=M)(h1:∀j,j<x.c.b.1.b.1->x.d.c.b.2.1.1 j<=M)(h2:∀j,j<x.c.b.2.1.b.1->x.e.1.1 j<=M)(h3:∀j,j<x.d.1.b.1->x.e.2.1.1 j<=M)(h4:∀j,j<x.d.2.1.b.1->x.e.b.1.1 j<=M)(h5:∀j,j<x.d.b.1.b.1->x.e.b.2.1.1 j<=M):Po (eT x) (λr:oq=>r.1.2.1.b.1=0/\r.1.b.1.b.1=0/\r.1.b.2.1.b.1=0/\r.1.c.1.b.1=0/\r.1.c.2.1.b.1=0/\r.1.c.b.1.b.1=0):=by
 unfold eT qZ;try dsimp only
 show PW _ _;try dsimp only
 repeat' (first
  |(with_reducible refine bu (em3 M _ ?_ ?_ ?_ ?_ ?_ ?_ ?_) λv _ hv=> ?_)
  |(rw[kn];exact trivial)
  |(rw[hX];refine⟨λa ha=> ?_,λa ha=> ?_⟩<;>subst ha)
  |(rw[pZ];refine⟨λa ha=> ?_,λa ha=> ?_⟩<;>subst ha)
  |(rw[aW];refine⟨λc=> ?_,λc=> ?_⟩)
  |(rw[du];intro _ _))
 all_goals first
  |exact hM
  |exact h0
  |exact h1
  |exact h2
  |exact h3
  |exact h4
  |exact h5
  |(rw[aP];exact hv)
theorem aYo (y:fU.B):Po (gR y) (λr:pK=>match r with|.inl x=>x.1.1.d.1=y.2.1.1.d.1/\x.1.d.c.1=y.2.1.d.c.1/\x.1.d.c.2.1=y.2.1.d.c.2.1/\x.1.d.c.b.2.2=y.2.1.d.c.b.2.2|.inr x=>x.1.1.1.d.1=y.2.1.1.d.1/\x.1.1.d.b.1=y.2.1.d.c.1/\x.1.1.d.b.2.1=y.2.1.d.c.2.1/\x.1.1.d.c.2.2=y.2.1.d.c.b.2.2):=by
 haveI i0:Ek y.2.1.1.d.1 y.2.1.1.d.1:=⟨rfl⟩
 haveI i1:Ek y.2.1.d.c.1 y.2.1.d.c.1:=⟨rfl⟩
 haveI i2:Ek y.2.1.d.c.2.1 y.2.1.d.c.2.1:=⟨rfl⟩
 haveI i3:Ek y.2.1.d.c.b.2.2 y.2.1.d.c.b.2.2:=⟨rfl⟩
 refine(ahJ y).h.mono λr h=> ?_;cases r with
 |inl a=>exact⟨h.1.h,h.2.1.h,h.b.1.h,h.b.2.h⟩
 |inr a=>exact⟨h.1.h,h.2.1.h,h.b.1.h,h.b.2.h⟩
theorem aLC (B:Int)(x:fN.B)(l0:x.c.2.1.b.1=0)(l1:x.c.b.1.b.1=0)(l2:x.c.b.2.1.b.1=0)(l3:x.d.1.b.1=0)(l4:x.d.2.1.b.1=0)(l5:x.d.b.1.b.1=0)(hl:Lb B x.d.b.2.1.1.1)(ht:∀j,j<6->x.d.b.2.1.1.c.1 j=10000)(hL:x.2.1.1.d.1=20000)(ha:Bd B x.2.1.d.c.1)(hB:x.1.1<=4000000000000000):Po (eT x) (λr:oq=>(B+20000<x.1.1->(¬r.1.1.c.2.1.1=3/\r.1.1.c.2.1.b.1=false/\(2<=r.1.1.c.2.1.1->r.1.1.c.2.1.b.2=true)))/\r.1.1.d.c.1=x.2.1.d.c.1/\r.1.1.d.c.2.1=x.1.1/\r.1.2.1.b.1=0/\r.1.b.1.b.1=0/\r.1.b.2.1.b.1=0/\r.1.c.1.b.1=0/\r.1.c.2.1.b.1=0/\r.1.c.b.1.b.1=0/\r.1.c.b.2.1=x.d.b.2.1):=by
 unfold eT qZ;try dsimp only
 show PW _ _;try dsimp only
 rw[aW];refine⟨λ_=> ?_,λ_=> ?_⟩
 .repeat (rw[cR];intro _)
  refine bu (aYo _) λg _ hg=> ?_;rw[pZ];refine⟨λa e=> ?_,λa e=> ?_⟩<;>subst e
  all_goals
   obtain⟨g0,g1,g2,g3⟩:=hg;repeat (rw[cR];intro _)
  .have g0:a.1.1.d.1=x.2.1.1.d.1:=g0;have g1:a.1.d.c.1=x.2.1.d.c.1:=g1;have g2:a.1.d.c.2.1=x.1.1:=g2;have g3:a.1.d.c.b.2.2=0:=g3;refine bu (sl3 B _ g3 l0 l1 l2 l3 l4 l5 hl ht (g0.trans hL) (by show Bd B a.1.d.c.1;rw[g1];exact ha) hB) λv _ hv=> ?_;rw[hX];refine⟨λb e=> ?_,λb e=> ?_⟩<;>subst e
   all_goals
    rw[aP];obtain⟨k0,k2,k3,b0,b1,b2,b3,b4,b5,bm⟩:=hv;exact⟨k0,k2.trans g1,k3.trans g2,b0,b1,b2,b3,b4,b5,bm⟩
  .have g0:a.1.1.1.d.1=x.2.1.1.d.1:=g0;have g1:a.1.1.d.b.1=x.2.1.d.c.1:=g1;have g2:a.1.1.d.b.2.1=x.1.1:=g2;have g3:a.1.1.d.c.2.2=0:=g3;refine bu (sl3 B _ g3 l0 l1 l2 l3 l4 l5 hl ht (g0.trans hL) (by show Bd B a.1.1.d.b.1;rw[g1];exact ha) hB) λv _ hv=> ?_;rw[hX];refine⟨λb e=> ?_,λb e=> ?_⟩<;>subst e
   all_goals
    rw[aP];obtain⟨k0,k2,k3,b0,b1,b2,b3,b4,b5,bm⟩:=hv;exact⟨k0,k2.trans g1,k3.trans g2,b0,b1,b2,b3,b4,b5,bm⟩
 .rw[du];intro j _;rw[du];intro s _;repeat (rw[cR];intro _)
  refine bu (sl3 B _ rfl l0 l1 l2 l3 l4 l5 hl ht hL ha hB) λv _ hv=> ?_;rw[hX];refine⟨λb e=> ?_,λb e=> ?_⟩<;>subst e
  all_goals
   rw[aP];obtain⟨k0,k2,k3,b0,b1,b2,b3,b4,b5,bm⟩:=hv;exact⟨k0,k2,k3,b0,b1,b2,b3,b4,b5,bm⟩
theorem a1i (B:Int)(w:Nat->Int)(d:cG.B)(hr:∀i,i<d.1.c.1->Bd B (d.d.c.1.1 i))(hj:Bd B d.d.b.2.1.1)(ha:Bd B d.1.d.c.1)(hl:Lb B d.d.2.1.1.1)(hw:d.d.2.1.1.c.1=w):Po (cO d) (λy:eV=>Bd B y.2.1.d.c.1/\Lb B y.d.b.2.1.1.1/\y.d.b.2.1.1.c.1=w):=by
 unfold cO ld;try dsimp only
 show PW _ _;try dsimp only
 repeat (rw[cR];intro _)
 refine bu (a1h B w _ ⟨λi hi=> ?_,ha,hl,hw⟩) λx _ hx=> ?_
 .have hi:i<d.1.c.1+1:=hi;show Bd B (bif Nat.beq (0+i) d.1.c.1 then d.d.b.2.1.1 else d.d.c.1.1 (0+(0+i)));rw[gW,gW];cases hb:Nat.beq i d.1.c.1 with
  |true=>exact hj
  |false=>
   have ne:i≠d.1.c.1:=λq=>by rw[q,NL] at hb;cases hb
   exact hr i (by omega)
 rw[hX];refine⟨λa e=> ?_,λa e=> ?_⟩<;>subst e<;>(rw[aP];exact hx)
theorem a1j (B:Int)(w:Nat->Int)(x:dZ.B)(hr:∀i,i<x.2.1.c.1->Bd B (x.c.1.1 i))(hj:Bd B x.1.1)(ha:Bd B x.2.1.d.c.1)(hl:Lb B x.d.b.2.1.1.1)(hw:x.d.b.2.1.1.c.1=w):Po (bQ x) (λy:gB=>Bd B y.2.1.d.c.1/\Lb B y.d.b.2.1.1.1/\y.d.b.2.1.1.c.1=w):=by
 unfold bQ jD;try dsimp only
 show PW _ _;try dsimp only
 refine bu (aok _) λd _ hd=> ?_;rw[aW];refine⟨λ_=>by rw[aP];exact⟨ha,hl,hw⟩,λ_=> ?_⟩;rw[aW];refine⟨λ_=>by rw[aP];exact⟨ha,hl,hw⟩,λc=> ?_⟩
 have tj:Bd B d.1.1.1:=by
  have c:d.1.2.1=true:=by
   cases h:d.1.2.1 with
   |true=>rfl
   |false=>rw[h] at c;cases c
  rw[(hd.1 c).1];exact hj
 repeat' (first
  |(rw[kn];exact trivial)
  |(with_reducible refine bu (a1i B w _ ?_ ?_ ?_ ?_ ?_) λy _ hy=> ?_)
  |(rw[pZ];refine⟨λ_ _=> ?_,λ_ _=> ?_⟩)
  |(rw[aW];refine⟨λ_=> ?_,λ_=> ?_⟩)
  |(rw[du];intro _ _))
 all_goals first
  |exact hr
  |exact tj
  |exact ha
  |exact hl
  |exact hw
  |(rw[aP];exact hy)
theorem aOH (T:Int)(h0:0<=T)(h1:T<=1125899906842624):Po (kD T 8000 0 0 0 0 0 (-84238486)) (λr:HW=>r=true):=by
 have hL:C8 (0,T,8000,0,0,0,0,0, -84238486)=some (.inr ((3,false),T,8000,0,0,0,0,0, -84238486)):=by kernel_rfl
 unfold kD zQ;show PW _ _;rw[hL,du];intro y hy;have hy:=NJ hy;subst hy;rw[hX];refine⟨λa ha=>(by cases ha),λa ha=> ?_⟩;have ha:=Sum.inr.inj ha;subst ha;rw[aW];refine⟨λ_=> ?_,λc=>absurd (show(8000:Int)>=1 by decide) (pf c)⟩;rw[aW];refine⟨λ_=> ?_,λc=>absurd (show(8000:Int)<=100000 by decide) (pf c)⟩;rw[aW];refine⟨λ_=> ?_,λc=>absurd (show T>=0 from h0) (pf c)⟩;rw[aP];exact gy h1
theorem aIN (x:gh.B)(T:Int)(hx:x.1=(T,8000,(0,0,0),0,0, -84238486))(h0:0<=T)(h1:T<=1125899906842624)(ha:x.2.1.2.2=true->x.2.1.2.1.1<T)(p0:0<=x.2.1.2.1.2.1)(p1:x.2.1.2.1.2.1<=100000)(tg:x.2.1.1=8000):Po (cU x) (λe:sx=>e.1.2.1=true):=by
 unfold cU mn;try dsimp only
 show PW _ _;rw[hx];try dsimp only
 refine bu (aOH T h0 h1) λg _ hg=> ?_;rw[hg,aW];refine⟨λc=>Bool.noConfusion c,λ_=> ?_⟩
 repeat' (first
  |(with_reducible refine bu (aSI _) λd _ hd=> ?_)
  |(rw[aW];refine⟨λc=> ?_,λc=> ?_⟩))
 all_goals first
  |(rw[aP];done)
  |(exfalso
    have c:=eF c;first
    |(have h2:d.1.2.1=wI (x.2.1.2.1.2.1+8000):=hd.2;rw[fL (by omega) (by omega)] at h2;omega)
    |(rename_i c2;have:=ha c2;omega)
    |(rename_i c2 _;have:=ha c2;omega))
theorem aYp (B t:Int)(mon:((Nat->Int)×(Nat->Int)×(Nat->Bool)×(Nat->Int)×(Nat->Int)×(Nat->Int))×Int)(smp:(Int×(Int×Int×(Int×Int×Int)×Int×Int×Int)×Bool))(hl:Lb B mon.1.1)(ht:∀j,j<6->mon.1.c.1 j=10000)(h:0<=t)(hB:t<=4000000000000000)(h0:0<=B):∀(d:cF.B) (hd:((d.2.1.c.1.2=1/\d.d.c.2.1.2.1 (d.2.1.c.1.1+0)=t/\d.c.1.b.1=0/\d.c.2.1.b.1=0/\d.c.b.1.b.1=0/\d.c.b.2.1.b.1=0/\d.d.1.b.1=0/\d.d.2.1.b.1=0/\d.d.b.1=mon/\d.2.1.1.d.1=20000/\Bd B d.2.1.d.c.1/\d.d.c.1.1=t/\d.2.1.1.2.1=0/\d.b.2.1=smp)∨(d.2.1.c.1.2=0/\(B+20000<t->(¬d.2.1.c.2.1.1=3/\d.2.1.c.2.1.b.1=false/\(2<=d.2.1.c.2.1.1->d.2.1.c.2.1.b.2=true)))/\Bd B d.2.1.d.c.1/\d.2.1.d.c.2.1=t/\d.c.1.b.1=0/\d.c.2.1.b.1=0/\d.c.b.1.b.1=0/\d.c.b.2.1.b.1=0/\d.d.1.b.1=0/\d.d.2.1.b.1=0/\d.d.b.1=mon/\d.b.2.1=smp))),Po (gU d) (λx:gT=>match x with|.inl _=>False|.inr e=>(B+20000<t->(¬e.2.1.c.1.1=3/\e.2.1.c.1.b.1=false/\(2<=e.2.1.c.1.1->e.2.1.c.1.b.2=true)))/\Bd B e.2.1.d.b.2.1/\e.2.1.d.c.1=t/\e.c.1.b.1=0/\e.c.2.1.b.1=0/\e.c.b.1.b.1=0/\e.c.b.2.1.b.1=0/\e.d.1.b.1=0/\e.d.2.1.b.1=0/\e.d.b.1=mon/\e.1.2.1.2=0/\e.b.2.1=smp):=
 CE (λd hd=>by
  unfold kZ;dsimp only;rcases hd with hd|hd
  .obtain⟨q1,q2,l0,l1,l2,l3,l4,l5,hm,hL,ha,hj,hD,hsm⟩:=hd;rw[aW];refine⟨λ_=> ?_,λc=>absurd (pf c) (by rw[q1];decide)⟩;rw[cR];intro _;rw[aW];refine⟨λ_=> ?_,λc=>absurd (pf c) (by rw[q2,hj,hD,Int.sub_zero,fL (by omega) (by omega)];omega)⟩
   repeat' (first
    |(rw[kn];exact trivial)
    |(rw[cR];intro _))
   rw[du];intro e he;have k1:=aLC B _ l0 l1 l2 l3 l4 l5 (by show Lb B d.d.b.1.1.1;rw[hm];exact hl) (by show∀j,j<6->d.d.b.1.1.c.1 j=10000;rw[hm];exact ht) hL ha (by show d.d.c.2.1.2.1 (d.2.1.c.1.1+0)<=_;rw[q2];exact hB) e he;have k2:=(@xg (d.2.1.c.1.2-1) _ ⟨rfl⟩).h e he;have k2:e.1.1.c.1=d.2.1.c.1.2-1:=k2.h;obtain⟨s0,s1,s2,b0,b1,b2,b3,b4,b5,sm⟩:=k1;rw[aP];refine .inr ⟨?_,λhc=>s0 (by show B+20000<d.d.c.2.1.2.1 (d.2.1.c.1.1+0);rw[q2];exact hc),?_,?_,b0,b1,b2,b3,b4,b5,?_,hsm⟩
   .show e.1.1.c.1=0;rw[k2,q1]
   .show Bd B e.1.1.d.c.1;rw[s1];exact ha
   .exact s2.trans q2
   .exact sm.trans hm
  .obtain⟨q1,s0,s1,s2,l0,l1,l2,l3,l4,l5,hm,hsm⟩:=hd;rw[aW];refine⟨λc=>absurd (eF c) (by rw[q1];decide),λ_=> ?_⟩;rw[aP];exact⟨s0,s1,s2,l0,l1,l2,l3,l4,l5,hm,q1,hsm⟩)
theorem aYq (B t:Int)(d:cG.B)(hl:Lb B d.d.2.1.1.1)(ht:∀j,j<6->d.d.2.1.1.c.1 j=10000)(h:0<=t)(hB:t<=4000000000000000)(h0:0<=B)(q:d.1.c.1=0)(hj:d.d.b.2.1.1=t)(hD:d.1.1.2.1=0)(hL:d.1.1.d.1=20000)(ha:Bd B d.1.d.c.1)(l0:d.b.2.1.b.1=0)(l1:d.c.1.b.1=0)(l2:d.c.2.1.b.1=0)(l3:d.c.b.1.b.1=0)(l4:d.c.b.2.1.b.1=0)(l5:d.d.1.b.1=0):Po (cO d) (λy:eV=>(B+20000<t->(¬y.2.1.c.2.1.1=3/\y.2.1.c.2.1.b.1=false/\(2<=y.2.1.c.2.1.1->y.2.1.c.2.1.b.2=true)))/\Bd B y.2.1.d.c.1/\y.2.1.d.c.2.1=t/\y.c.2.1.b.1=0/\y.c.b.1.b.1=0/\y.c.b.2.1.b.1=0/\y.d.1.b.1=0/\y.d.2.1.b.1=0/\y.d.b.1.b.1=0/\y.d.b.2.1=d.d.2.1/\y.2.1.c.1.2=0/\y.b.2.1=d.b.1):=by
 unfold cO ld;try dsimp only
 show PW _ _;try dsimp only
 repeat (rw[cR];intro _)
 refine bu (aYp B t d.d.2.1 d.b.1 hl ht h hB h0 _ (.inl ⟨?_,?_,l0,l1,l2,l3,l4,l5,rfl,hL,ha,hj,hD,rfl⟩)) λx _ hx=> ?_
 .show d.1.c.1+1=1;rw[q]
 .show(bif Nat.beq (0+0) d.1.c.1 then d.d.b.2.1.1 else d.d.c.1.1 (0+(0+0)))=t;rw[q];exact hj
 rw[hX];refine⟨λa e=>by subst e;exact absurd hx id,λa e=> ?_⟩;subst e;rw[aP];obtain⟨s0,s1,s2,b0,b1,b2,b3,b4,b5,sm,sq,ss⟩:=hx;exact⟨s0,s1,s2,b0,b1,b2,b3,b4,b5,sm,sq,ss⟩
theorem a1k (t:Int)(t0: -9223372036854775808<=t)(t1:t<=9223372036854775807):∀(d:cF.B) (hd:((d.2.1.c.1.2=1/\d.d.c.2.1.2.1 (d.2.1.c.1.1+0)=t/\d.d.c.1.1=t/\d.2.1.1.2.1=0)∨d.2.1.c.1.2=0)),Po (gU d) (λx:gT=>match x with|.inl _=>False|.inr e=>e.1.2.1.2=0):=
 CE (λd hd=>by
  unfold kZ;dsimp only;rcases hd with hd|hd
  .obtain⟨q1,q2,hj,hD⟩:=hd;rw[aW];refine⟨λ_=> ?_,λc=>absurd (pf c) (by rw[q1];decide)⟩;rw[cR];intro _;rw[aW];refine⟨λ_=> ?_,λc=>absurd (pf c) (by rw[q2,hj,hD,Int.sub_zero,show wI t=t from wrap_i64 t0 t1];omega)⟩
   repeat' (first
    |(rw[kn];exact trivial)
    |(rw[cR];intro _))
   rw[du];intro e he;have k2:=(@xg (d.2.1.c.1.2-1) _ ⟨rfl⟩).h e he;have k2:e.1.1.c.1=d.2.1.c.1.2-1:=k2.h;rw[aP];refine .inr ?_;show e.1.1.c.1=0;rw[k2,q1]
  .rw[aW];refine⟨λc=>absurd (eF c) (by rw[hd];decide),λ_=> ?_⟩;rw[aP];exact hd)
theorem aYr (M t:Int)(hM:M<=t)(t0: -9223372036854775808<=t)(t1:t<=9223372036854775807):∀(d:cF.B) (hd:((d.2.1.c.1.2=1/\d.d.c.2.1.2.1 (d.2.1.c.1.1+0)=t/\d.d.c.1.1=t/\d.2.1.1.2.1=0/\(∀j,j<d.c.1.b.1->d.d.c.b.2.1.1 j<=M)/\(∀j,j<d.c.2.1.b.1->d.e.1.1 j<=M)/\(∀j,j<d.c.b.1.b.1->d.e.2.1.1 j<=M)/\(∀j,j<d.c.b.2.1.b.1->d.e.b.1.1 j<=M)/\(∀j,j<d.d.1.b.1->d.e.b.2.1.1 j<=M)/\(∀j,j<d.d.2.1.b.1->d.e.c.1.1 j<=M))∨(d.2.1.c.1.2=0/\d.c.1.b.1=0/\d.c.2.1.b.1=0/\d.c.b.1.b.1=0/\d.c.b.2.1.b.1=0/\d.d.1.b.1=0/\d.d.2.1.b.1=0))),Po (gU d) (λx:gT=>match x with|.inl _=>False|.inr e=>e.1.2.1.2=0/\e.c.1.b.1=0/\e.c.2.1.b.1=0/\e.c.b.1.b.1=0/\e.c.b.2.1.b.1=0/\e.d.1.b.1=0/\e.d.2.1.b.1=0):=
 CE (λd hd=>by
  unfold kZ;dsimp only;rcases hd with hd|hd
  .obtain⟨q1,q2,hj,hD,h0,h1,h2,h3,h4,h5⟩:=hd;rw[aW];refine⟨λ_=> ?_,λc=>absurd (pf c) (by rw[q1];decide)⟩;rw[cR];intro _;rw[aW];refine⟨λ_=> ?_,λc=>absurd (pf c) (by rw[q2,hj,hD,Int.sub_zero,show wI t=t from wrap_i64 t0 t1];omega)⟩
   repeat' (first
    |(rw[kn];exact trivial)
    |(rw[cR];intro _))
   rw[du];intro e he;have k2:=(@xg (d.2.1.c.1.2-1) _ ⟨rfl⟩).h e he;have k2:e.1.1.c.1=d.2.1.c.1.2-1:=k2.h;have k1:=aYn M _ (by show M<=d.d.c.2.1.2.1 (d.2.1.c.1.1+0);rw[q2];exact hM) (zr h0) (zr h1) (zr h2) (zr h3) (zr h4) (zr h5) e he;rw[aP];refine .inr ⟨?_,k1⟩;show e.1.1.c.1=0;rw[k2,q1]
  .obtain⟨q1,l⟩:=hd;rw[aW];refine⟨λc=>absurd (eF c) (by rw[q1];decide),λ_=> ?_⟩;rw[aP];exact⟨q1,l⟩)
theorem a1l (d:cG.B)(t0: -9223372036854775808<=d.d.b.2.1.1)(t1:d.d.b.2.1.1<=9223372036854775807)(q:d.1.c.1=0)(hD:d.1.1.2.1=0):Po (cO d) (λy:eV=>y.2.1.c.1.2=0):=by
 unfold cO ld;try dsimp only
 show PW _ _;try dsimp only
 repeat (rw[cR];intro _)
 refine bu (a1k d.d.b.2.1.1 t0 t1 _ (.inl ⟨?_,?_,rfl,hD⟩)) λx _ hx=> ?_
 .show d.1.c.1+1=1;rw[q]
 .show(bif Nat.beq (0+0) d.1.c.1 then d.d.b.2.1.1 else d.d.c.1.1 (0+(0+0)))=d.d.b.2.1.1;rw[q];rfl
 rw[hX];refine⟨λa e=>by subst e;exact absurd hx id,λa e=> ?_⟩;subst e;rw[aP];exact hx
theorem aYs (M:Int)(d:cG.B)(hM:M<=d.d.b.2.1.1)(t0: -9223372036854775808<=d.d.b.2.1.1)(t1:d.d.b.2.1.1<=9223372036854775807)(q:d.1.c.1=0)(hD:d.1.1.2.1=0)(h0:∀j,j<d.b.2.1.b.1->d.d.c.b.1.1 j<=M)(h1:∀j,j<d.c.1.b.1->d.d.c.b.2.1.1 j<=M)(h2:∀j,j<d.c.2.1.b.1->d.e.1.1 j<=M)(h3:∀j,j<d.c.b.1.b.1->d.e.2.1.1 j<=M)(h4:∀j,j<d.c.b.2.1.b.1->d.e.b.1.1 j<=M)(h5:∀j,j<d.d.1.b.1->d.e.b.2.1.1 j<=M):Po (cO d) (λy:eV=>y.2.1.c.1.2=0/\y.c.2.1.b.1=0/\y.c.b.1.b.1=0/\y.c.b.2.1.b.1=0/\y.d.1.b.1=0/\y.d.2.1.b.1=0/\y.d.b.1.b.1=0):=by
 unfold cO ld;try dsimp only
 show PW _ _;try dsimp only
 repeat (rw[cR];intro _)
 refine bu (aYr M d.d.b.2.1.1 hM t0 t1 _ (.inl ⟨?_,?_,rfl,hD,h0,h1,h2,h3,h4,h5⟩)) λx _ hx=> ?_
 .show d.1.c.1+1=1;rw[q]
 .show(bif Nat.beq (0+0) d.1.c.1 then d.d.b.2.1.1 else d.d.c.1.1 (0+(0+0)))=d.d.b.2.1.1;rw[q];rfl
 rw[hX];refine⟨λa e=>by subst e;exact absurd hx id,λa e=> ?_⟩;subst e;rw[aP];exact hx
theorem a1m (x:dZ.B)(h0: -9223372036854775808<=x.1.1)(h1:x.1.1<=9223372036854775807)(q:x.2.1.c.1=0)(hD:x.2.1.1.2.1=0):Po (bQ x) (λy:gB=>y.2.1.c.1.2=0):=by
 unfold bQ jD;try dsimp only
 show PW _ _;try dsimp only
 refine bu (aok _) λd _ hd=> ?_;rw[aW];refine⟨λ_=>by rw[aP];exact q,λ_=> ?_⟩;rw[aW];refine⟨λ_=>by rw[aP];exact q,λc=> ?_⟩
 have tj:d.1.1.1=x.1.1:=by
  have c:d.1.2.1=true:=by
   cases h:d.1.2.1 with
   |true=>rfl
   |false=>rw[h] at c;cases c
  exact(hd.1 c).1
 repeat' (first
  |(rw[kn];exact trivial)
  |(with_reducible refine bu (a1l _ ?_ ?_ ?_ ?_) λy _ hy=> ?_)
  |(rw[pZ];refine⟨λ_ _=> ?_,λ_ _=> ?_⟩)
  |(rw[aW];refine⟨λ_=> ?_,λ_=> ?_⟩)
  |(rw[du];intro _ _))
 all_goals first
  |exact q
  |exact hD
  |exact(show -9223372036854775808<=d.1.1.1 by rw[tj];exact h0)
  |exact(show d.1.1.1<=9223372036854775807 by rw[tj];exact h1)
  |(rw[aP];exact hy)
theorem aT6 (M t:Int)(x:fO.B)(hx:wI (x.1.1+8000)=t)(hM:M<=t)(h0:0<=t)(h1:t<=1125899906842624)(q:x.2.1.c.1=0)(hD:x.2.1.1.2.1=0)(c0:∀j,j<x.c.2.1.b.1->x.d.c.b.1.1 j<=M)(c1:∀j,j<x.c.b.1.b.1->x.d.c.b.2.1.1 j<=M)(c2:∀j,j<x.c.b.2.1.b.1->x.e.1.1 j<=M)(c3:∀j,j<x.d.1.b.1->x.e.2.1.1 j<=M)(c4:∀j,j<x.d.2.1.b.1->x.e.b.1.1 j<=M)(c5:∀j,j<x.d.b.1.b.1->x.e.b.2.1.1 j<=M)(hs:x.b.2.1.2.2=true->x.b.2.1.2.1.1<t)(p0:0<=x.b.2.1.2.1.2.1)(p1:x.b.2.1.2.1.2.1<=100000)(tg:x.b.2.1.1=8000):Po (cX x) (λe:kh=>e.1.c.2.1.2=0/\e.c.1.b.1=0/\e.c.2.1.b.1=0/\e.c.b.1.b.1=0/\e.c.b.2.1.b.1=0/\e.d.1.b.1=0/\e.d.2.1.b.1=0/\e.1.1.1=t):=by
 unfold cX re;try dsimp only
 show PW _ _;try dsimp only
 rw[ahI,du];intro s hs';have hs':=NJ hs';subst hs';repeat (rw[cR];intro _)
 have key:∀y:dZ.B,y.1=(t,8000,(0,0,0),0,0, -84238486)->y.2=x.2->Po (bQ y) (λy:gB=>y.2.1.c.1.2=0/\y.c.2.1.b.1=0/\y.c.b.1.b.1=0/\y.c.b.2.1.b.1=0/\y.d.1.b.1=0/\y.d.2.1.b.1=0/\y.d.b.1.b.1=0/\y.1.2=0):=by
  intro y hy he;obtain⟨y0,y1⟩:=y;have he:y1=x.2:=he;have hy:y0=_:=hy;subst he hy;unfold bQ jD;try dsimp only
  show PW _ _;try dsimp only
  refine bu ((aok _).and (aIN _ t rfl h0 h1 hs p0 p1 tg)) λd _ hd=> ?_;obtain⟨⟨d1,d2,d3,d4⟩,d0⟩:=hd;obtain⟨e1,e2,e3⟩:=d1 d0;have e1:d.1.1.1=t:=e1;rw[e2,d0,show((0:Int)!=0)=false from rfl,aW];refine⟨λc=>Bool.noConfusion c,λ_=> ?_⟩;rw[show(!true)=false from rfl,aW];refine⟨λc=>Bool.noConfusion c,λ_=> ?_⟩
  repeat' (first
   |(rw[kn];exact trivial)
   |(with_reducible refine bu (aYs M _ ?_ ?_ ?_ ?_ ?_ ?_ ?_ ?_ ?_ ?_ ?_) λy _ hy=> ?_)
   |(rw[pZ];refine⟨λ_ _=> ?_,λ_ _=> ?_⟩)
   |(rw[aW];refine⟨λ_=> ?_,λ_=> ?_⟩)
   |(rw[du];intro _ _))
  all_goals first
   |exact q
   |exact hD
   |exact c0
   |exact c1
   |exact c2
   |exact c3
   |exact c4
   |exact c5
   |exact(show M<=d.1.1.1 by rw[e1];exact hM)
   |exact(show -9223372036854775808<=d.1.1.1 by rw[e1];omega)
   |exact(show d.1.1.1<=9223372036854775807 by rw[e1];omega)
   |(rw[aP];exact⟨hy.1,hy.2.1,hy.b.1,hy.b.2.1,hy.c.1,hy.c.2.1,hy.c.2.2,rfl⟩)
 refine bu (key _ ?_ rfl) λy _ hy=> ?_
 .show(wI (x.1.1+8000),(8000:Int),((0:Int),(0:Int),(0:Int)),(0:Int),(0:Int),(-84238486:Int))=_;rw[hx]
 obtain⟨sq,b0,b1,b2,b3,b4,b5,e0⟩:=hy;rw[e0,show((0:Int)==0)=true from rfl,aW];refine⟨λ_=> ?_,λc=>Bool.noConfusion c⟩;repeat (rw[cR];intro _)
 refine bu (aaB (rfl:iy _=some _)).po λd _ hd=> ?_;subst hd;rw[aP];exact⟨sq,b0,b1,b2,b3,b4,b5,hx⟩
def Jp (L p1 p8 aid:Int)(ql:Nat)(smp:(Int×(Int×Int×(Int×Int×Int)×Int×Int×Int)×Bool))(mon:((Nat->Int)×(Nat->Int)×(Nat->Bool)×(Nat->Int)×(Nat->Int)×(Nat->Int))×Int):Prop:=p1=0/\p8=20000/\Bd L aid/\ql=0/\smp.1=8000/\smp.2.1.1=L/\0<=smp.2.1.2.1/\smp.2.1.2.1<=100000/\(smp.2.2=false->L=0)/\(0<=L/\L<=1125899906842624)/\Lb L mon.1.1/\∀j,j<6->mon.1.c.1 j=10000
theorem Lb.up' {L T:Int}{r:Nat->Int}(h:Lb L r)(t:L<=T):Lb T r:=λk=>⟨(h k).1,As (h k).2 t⟩
theorem aYt (x:dZ.B):Po (bQ x) (λe:gB=>e.1.2≠0->e.2.1.1=x.2.1.1/\e.2.1.d.c.1=x.2.1.d.c.1/\e.2.1.c.1.2=x.2.1.c.1/\e.d.b.2.1=x.d.b.2.1/\e.c.2.1=x.c.2.1/\e.c.b.1=x.c.b.1/\e.c.b.2.1=x.c.b.2.1/\e.d.1=x.d.1/\e.d.2.1=x.d.2.1/\e.d.b.1=x.d.b.1/\e.d.c.b.1=x.d.c.b.1/\e.d.c.b.2.1=x.d.c.b.2.1/\e.e.1=x.e.1/\e.e.2.1=x.e.2.1/\e.e.b.1=x.e.b.1/\e.e.b.2.1=x.e.b.2.1):=by
 unfold bQ jD;try dsimp only
 show PW _ _;try dsimp only
 rw[du];intro d _;rw[aW];refine⟨λ_=>by rw[aP];exact λ_=>⟨rfl,rfl,rfl,rfl,rfl,rfl,rfl,rfl,rfl,rfl,rfl,rfl,rfl,rfl,rfl,rfl⟩,λc=> ?_⟩
 have e0:d.1.2.2=0:=by
  have c:(!(d.1.2.2==0))=false:=c;rw[ae9] at c;exact eq_of_beq c
 rw[aW];refine⟨λ_=>by rw[aP];exact λh=>absurd e0 h,λ_=> ?_⟩
 repeat' (first
  |(rw[kn];exact trivial)
  |(rw[hX];refine⟨λa ha=> ?_,λa ha=> ?_⟩<;>subst ha)
  |(rw[pZ];refine⟨λa ha=> ?_,λa ha=> ?_⟩<;>subst ha)
  |(rw[aW];refine⟨λc=> ?_,λc=> ?_⟩)
  |(rw[du];intro _ _))
 all_goals (rw[aP];exact λh=>absurd (show(0:Int)=0 from rfl) h)
theorem aYu (L:Int)(x:dZ.B)(h:Jp L x.2.1.1.2.1 x.2.1.1.d.1 x.2.1.d.c.1 x.2.1.c.1 x.b.2.1 x.d.b.2.1)(hc:(∀j,j<x.c.2.1.b.1->x.d.c.b.1.1 j<=L)/\(∀j,j<x.c.b.1.b.1->x.d.c.b.2.1.1 j<=L)/\(∀j,j<x.c.b.2.1.b.1->x.e.1.1 j<=L)/\(∀j,j<x.d.1.b.1->x.e.2.1.1 j<=L)/\(∀j,j<x.d.2.1.b.1->x.e.b.1.1 j<=L)/\(∀j,j<x.d.b.1.b.1->x.e.b.2.1.1 j<=L)):Po (bQ x) (λe:gB=>∃T,(e.1.2=0->T=x.1.1)/\(e.1.2≠0->T=L)/\L<=T/\Jp T e.2.1.1.2.1 e.2.1.1.d.1 e.2.1.d.c.1 e.2.1.c.1.2 e.b.2.1 e.d.b.2.1/\(∀j,j<e.c.2.1.b.1->e.d.c.b.1.1 j<=T)/\(∀j,j<e.c.b.1.b.1->e.d.c.b.2.1.1 j<=T)/\(∀j,j<e.c.b.2.1.b.1->e.e.1.1 j<=T)/\(∀j,j<e.d.1.b.1->e.e.2.1.1 j<=T)/\(∀j,j<e.d.2.1.b.1->e.e.b.1.1 j<=T)/\(∀j,j<e.d.b.1.b.1->e.e.b.2.1.1 j<=T)):=by
 intro e he;obtain⟨j1,j8,ja,jq,jt,jS,jp0,jp1,aYv,⟨jL0,jL1⟩,jl,jw⟩:=h;obtain⟨c0,c1,c2,c3,c4,c5⟩:=hc;obtain⟨s1,s2,s3,s4⟩:=aYh x e he;by_cases z:e.1.2=0
 .obtain⟨t0,t1,t2⟩:=s4 z
  have hLT:L<=x.1.1:=by
   cases ha:x.b.2.1.2.2 with
   |true=>have:=t2 ha;rw[jS] at this;omega
   |false=>rw[aYv ha];exact t0
  obtain⟨u1,u2,u3⟩:=s2 z;have u3:=u3 jp0 jp1 (by rw[jt];decide);have a:=a1j x.1.1 x.d.b.2.1.1.c.1 x (λi hi=>absurd hi (by rw[jq];exact Nat.not_lt_zero i)) ⟨t0,eW _⟩ ⟨ja.1,As ja.2 hLT⟩ (jl.up' hLT) rfl e he;have q:=a1m x (by omega) (by omega) jq j1 e he;haveI k0:Rb x.1.1 x.c.2.1.b.1 x.d.c.b.1.1:=⟨λi hi=>As (c0 i hi) hLT⟩
  haveI k1:Rb x.1.1 x.c.b.1.b.1 x.d.c.b.2.1.1:=⟨λi hi=>As (c1 i hi) hLT⟩
  haveI k2:Rb x.1.1 x.c.b.2.1.b.1 x.e.1.1:=⟨λi hi=>As (c2 i hi) hLT⟩
  haveI k3:Rb x.1.1 x.d.1.b.1 x.e.2.1.1:=⟨λi hi=>As (c3 i hi) hLT⟩
  haveI k4:Rb x.1.1 x.d.2.1.b.1 x.e.b.1.1:=⟨λi hi=>As (c4 i hi) hLT⟩
  haveI k5:Rb x.1.1 x.d.b.1.b.1 x.e.b.2.1.1:=⟨λi hi=>As (c5 i hi) hLT⟩
  obtain⟨r0,r1,r2,r3,r4,r5⟩:=(atJ x).h e he;haveI i0:Ek x.2.1.1.2.1 x.2.1.1.2.1:=⟨rfl⟩
  haveI i1:Ek x.2.1.1.d.1 x.2.1.1.d.1:=⟨rfl⟩
  haveI i2:Ek x.b.2.1.1 x.b.2.1.1:=⟨rfl⟩
  haveI i3:Ek x.d.b.2.1.1.c.1 x.d.b.2.1.1.c.1:=⟨rfl⟩
  obtain⟨v0,v1,v2,v3⟩:=(atK x).h e he;refine⟨x.1.1,λ_=>rfl,λn=>absurd z n,hLT,⟨v0.h.trans j1,v2.h.trans j8,a.1,q,s1.trans jt,u1,u3.1,u3.2,λn=> ?_,⟨t0,t1⟩,a.2.1,?_⟩,r0.h,r1.h,r2.h,r3.h,r4.h,r5.h⟩
  .rw[u2] at n;cases n
  .rw[a.2.2];exact jw
 .obtain⟨f0,f1,f2,f3,b0,b1,b2,b3,b4,b5,w0,w1,w2,w3,w4,w5⟩:=aYt x e he z;have f4:=s3 z;refine⟨L,λn=>absurd n z,λ_=>rfl,eW _,?_,?_⟩
  .rw[f0,f1,f2,f3,f4];exact⟨j1,j8,ja,jq,jt,jS,jp0,jp1,aYv,⟨jL0,jL1⟩,jl,jw⟩
  .rw[b0,b1,b2,b3,b4,b5,w0,w1,w2,w3,w4,w5];exact⟨c0,c1,c2,c3,c4,c5⟩
theorem aSJ (L:Int)(x:fO.B)(hL:x.1.1=L)(h:Jp L x.2.1.1.2.1 x.2.1.1.d.1 x.2.1.d.c.1 x.2.1.c.1 x.b.2.1 x.d.b.2.1)(hc:(∀j,j<x.c.2.1.b.1->x.d.c.b.1.1 j<=L)/\(∀j,j<x.c.b.1.b.1->x.d.c.b.2.1.1 j<=L)/\(∀j,j<x.c.b.2.1.b.1->x.e.1.1 j<=L)/\(∀j,j<x.d.1.b.1->x.e.2.1.1 j<=L)/\(∀j,j<x.d.2.1.b.1->x.e.b.1.1 j<=L)/\(∀j,j<x.d.b.1.b.1->x.e.b.2.1.1 j<=L)):Po (cX x) (λe:kh=>∃T,e.1.1.1=T/\L<=T/\Jp T e.1.2.1.2.1 e.1.2.1.d.1 e.1.d.c.2.1 e.1.c.2.1.2 e.b.1 e.d.b.1/\(∀j,j<e.c.1.b.1->e.d.c.2.1.1 j<=T)/\(∀j,j<e.c.2.1.b.1->e.d.c.b.1.1 j<=T)/\(∀j,j<e.c.b.1.b.1->e.d.c.b.2.1.1 j<=T)/\(∀j,j<e.c.b.2.1.b.1->e.e.1.1 j<=T)/\(∀j,j<e.d.1.b.1->e.e.2.1.1 j<=T)/\(∀j,j<e.d.2.1.b.1->e.e.b.1.1 j<=T)):=by
 unfold cX re;try dsimp only
 show PW _ _;try dsimp only
 rw[ahI,du];intro s hs';have hs':=NJ hs';subst hs';repeat (rw[cR];intro _)
 with_reducible refine bu (aYu L _ ?_ ?_) λy _ hy=> ?_
 .exact h
 .exact hc
 obtain⟨T,t0,t1,hT,hJ,hC⟩:=hy;rw[aW];refine⟨λc=> ?_,λc=> ?_⟩
 .have c:=eq_of_beq c;repeat (rw[cR];intro _)
  refine bu (aaB (rfl:iy _=some _)).po λd _ hd=> ?_;subst hd;rw[aP];exact⟨T,(t0 c).symm,hT,hJ,hC⟩
 .have c:=akr c;repeat (rw[cR];intro _)
  refine bu (aaB (rfl:iy _=some _)).po λd _ hd=> ?_;subst hd;rw[aP];exact⟨T,by show x.1.1=T;rw[hL,t1 c],hT,hJ,hC⟩
theorem aT7 (L:Int)(x:fX.B)(hs:x.1.2.1<=L)(h:Jp L x.2.1.1.2.1 x.2.1.1.d.1 x.2.1.d.c.1 x.2.1.c.1 x.b.2.1 x.d.b.2.1)(hc:(∀j,j<x.c.2.1.b.1->x.d.c.b.1.1 j<=L)/\(∀j,j<x.c.b.1.b.1->x.d.c.b.2.1.1 j<=L)/\(∀j,j<x.c.b.2.1.b.1->x.e.1.1 j<=L)/\(∀j,j<x.d.1.b.1->x.e.2.1.1 j<=L)/\(∀j,j<x.d.2.1.b.1->x.e.b.1.1 j<=L)/\(∀j,j<x.d.b.1.b.1->x.e.b.2.1.1 j<=L)):Po (dF x) (λe:kg=>Jp L e.2.1.1.2.1 e.2.1.1.d.1 e.2.1.d.c.1 e.2.1.c.1 e.b.2.1 e.d.b.2.1/\(∀j,j<e.c.2.1.b.1->e.d.c.b.1.2.1 j<=L)/\(∀j,j<e.c.b.1.b.1->e.d.c.b.2.1.2.1 j<=L)/\(∀j,j<e.c.b.2.1.b.1->e.e.1.2.1 j<=L)/\(∀j,j<e.d.1.b.1->e.e.2.1.2.1 j<=L)/\(∀j,j<e.d.2.1.b.1->e.e.b.1.2.1 j<=L)/\(∀j,j<e.d.b.1.b.1->e.e.b.2.1.2.1 j<=L)):=by
 intro e he
 have k:Po (dF x) (λe:kg=>e.2.1=x.2.1/\e.b.2.1=x.b.2.1/\e.d.b.2.1=x.d.b.2.1):=by
  unfold dF pF;try dsimp only
  show PW _ _;try dsimp only
  repeat' (first
  |(rw[kn];exact trivial)
  |(rw[hX];refine⟨λa ha=> ?_,λa ha=> ?_⟩<;>subst ha)
  |(rw[pZ];refine⟨λa ha=> ?_,λa ha=> ?_⟩<;>subst ha)
  |(rw[aW];refine⟨λc=> ?_,λc=> ?_⟩)
  |(rw[du];intro _ _))
  all_goals (rw[aP];exact⟨rfl,rfl,rfl⟩)
 obtain⟨k1,k3,k11⟩:=k e he;obtain⟨c0,c1,c2,c3,c4,c5⟩:=hc;refine⟨?_,aFX L x hs c0 c1 c2 c3 c4 c5 e he⟩;rw[k1,k3,k11];exact h
theorem aZR (L:Int):∀(d:ey.B) (hd:∃T,d.2.1.1=T/\L<=T/\Jp T d.b.2.1.1.2.1 d.b.2.1.1.d.1 d.b.2.1.d.c.1 d.b.2.1.c.1.2 d.c.2.1 d.d.c.2.1/\(∀j,j<d.c.b.2.1.b.1->d.e.1.1 j<=T)/\(∀j,j<d.d.1.b.1->d.e.2.1.1 j<=T)/\(∀j,j<d.d.2.1.b.1->d.e.b.1.1 j<=T)/\(∀j,j<d.d.b.1.b.1->d.e.b.2.1.1 j<=T)/\(∀j,j<d.d.b.2.1.b.1->d.e.c.1.1 j<=T)/\(∀j,j<d.d.c.1.b.1->d.e.c.2.1.1 j<=T)),Po (na d) (λx:m9=>match x with|.inl x=>∃T,x.1.c.2.1=T/\L<=T/\Jp T x.b.2.1.1.2.1 x.b.2.1.1.d.1 x.b.2.1.d.c.1 x.b.2.1.c.1.2 x.c.2.1 x.d.c.2.1/\(∀j,j<x.c.b.2.1.b.1->x.e.1.1 j<=T)/\(∀j,j<x.d.1.b.1->x.e.2.1.1 j<=T)/\(∀j,j<x.d.2.1.b.1->x.e.b.1.1 j<=T)/\(∀j,j<x.d.b.1.b.1->x.e.b.2.1.1 j<=T)/\(∀j,j<x.d.b.2.1.b.1->x.e.c.1.1 j<=T)/\(∀j,j<x.d.c.1.b.1->x.e.c.2.1.1 j<=T)|.inr (.inl x)=>∃T,x.1.c.2.1=T/\L<=T/\Jp T x.b.2.1.1.2.1 x.b.2.1.1.d.1 x.b.2.1.d.c.1 x.b.2.1.c.1.2 x.c.2.1 x.d.c.2.1/\(∀j,j<x.c.b.2.1.b.1->x.e.1.1 j<=T)/\(∀j,j<x.d.1.b.1->x.e.2.1.1 j<=T)/\(∀j,j<x.d.2.1.b.1->x.e.b.1.1 j<=T)/\(∀j,j<x.d.b.1.b.1->x.e.b.2.1.1 j<=T)/\(∀j,j<x.d.b.2.1.b.1->x.e.c.1.1 j<=T)/\(∀j,j<x.d.c.1.b.1->x.e.c.2.1.1 j<=T)|.inr (.inr (.inl x))=>∃T,x.2.1.1=T/\L<=T/\Jp T x.b.2.1.1.2.1 x.b.2.1.1.d.1 x.b.2.1.d.c.1 x.b.2.1.c.1.2 x.c.2.1 x.d.c.2.1/\(∀j,j<x.c.b.2.1.b.1->x.e.1.1 j<=T)/\(∀j,j<x.d.1.b.1->x.e.2.1.1 j<=T)/\(∀j,j<x.d.2.1.b.1->x.e.b.1.1 j<=T)/\(∀j,j<x.d.b.1.b.1->x.e.b.2.1.1 j<=T)/\(∀j,j<x.d.b.2.1.b.1->x.e.c.1.1 j<=T)/\(∀j,j<x.d.c.1.b.1->x.e.c.2.1.1 j<=T)|.inr (.inr (.inr x))=>∃T,x.2.1.1=T/\L<=T/\Jp T x.b.2.1.1.2.1 x.b.2.1.1.d.1 x.b.2.1.d.c.1 x.b.2.1.c.1.2 x.c.2.1 x.d.c.2.1/\(∀j,j<x.c.b.2.1.b.1->x.e.1.1 j<=T)/\(∀j,j<x.d.1.b.1->x.e.2.1.1 j<=T)/\(∀j,j<x.d.2.1.b.1->x.e.b.1.1 j<=T)/\(∀j,j<x.d.b.1.b.1->x.e.b.2.1.1 j<=T)/\(∀j,j<x.d.b.2.1.b.1->x.e.c.1.1 j<=T)/\(∀j,j<x.d.c.1.b.1->x.e.c.2.1.1 j<=T)):=
 CE (λd hd=>by
  have hd':=hd;obtain⟨T,hl,hT,hJ,c0,c1,c2,c3,c4,c5⟩:=hd;unfold Aq;dsimp only;rw[aW];refine⟨λ_=> ?_,λ_=>by rw[aP];exact hd'⟩;rw[aW];refine⟨λ_=> ?_,λ_=>by rw[aP];exact hd'⟩;rw[aW];refine⟨λ_=> ?_,λ_=>by rw[aP];exact hd'⟩;rw[aW];refine⟨λ_=> ?_,λ_=>by rw[aP];exact hd'⟩;repeat (rw[cR];intro _)
  with_reducible refine bu (aSJ T _ ?_ ?_ ?_) λy _ hy=> ?_
  .exact hl
  .exact hJ
  .exact⟨zr c0,zr c1,zr c2,zr c3,zr c4,zr c5⟩
  obtain⟨U,u0,u1,u2,u3⟩:=hy;rw[aP];exact⟨U,u0,As hT u1,u2,u3⟩)
theorem aYw (L:Int)(x:lO.B)(hL:x.2.1.1=L)(pk:x.1.1=1->x.1.c.1<=L)(h:Jp L x.b.1.1.2.1 x.b.1.1.d.1 x.b.1.d.c.1 x.b.1.c.1 x.c.1 x.d.c.1)(hc:(∀j,j<x.c.b.1.b.1->x.d.c.b.2.1.1 j<=L)/\(∀j,j<x.c.b.2.1.b.1->x.e.1.1 j<=L)/\(∀j,j<x.d.1.b.1->x.e.2.1.1 j<=L)/\(∀j,j<x.d.2.1.b.1->x.e.b.1.1 j<=L)/\(∀j,j<x.d.b.1.b.1->x.e.b.2.1.1 j<=L)/\(∀j,j<x.d.b.2.1.b.1->x.e.c.1.1 j<=L)):Po (jE x) (λr:tD=>match r with|.inl e=>∃T,e.1.1.1=T/\L<=T/\Jp T e.1.2.1.2.1 e.1.2.1.d.1 e.1.d.c.2.1 e.1.c.2.1 e.b.1 e.d.b.1/\(∀j,j<e.c.1.b.1->e.d.c.2.1.2.1 j<=T)/\(∀j,j<e.c.2.1.b.1->e.d.c.b.1.2.1 j<=T)/\(∀j,j<e.c.b.1.b.1->e.d.c.b.2.1.2.1 j<=T)/\(∀j,j<e.c.b.2.1.b.1->e.e.1.2.1 j<=T)/\(∀j,j<e.d.1.b.1->e.e.2.1.2.1 j<=T)/\(∀j,j<e.d.2.1.b.1->e.e.b.1.2.1 j<=T)|.inr e=>∃T,e.1.1=T/\L<=T/\Jp T e.2.1.1.2.1 e.2.1.1.d.1 e.2.1.d.c.1 e.2.1.c.1.2 e.b.2.1 e.d.b.2.1/\(∀j,j<e.c.2.1.b.1->e.d.c.b.1.1 j<=T)/\(∀j,j<e.c.b.1.b.1->e.d.c.b.2.1.1 j<=T)/\(∀j,j<e.c.b.2.1.b.1->e.e.1.1 j<=T)/\(∀j,j<e.d.1.b.1->e.e.2.1.1 j<=T)/\(∀j,j<e.d.2.1.b.1->e.e.b.1.1 j<=T)/\(∀j,j<e.d.b.1.b.1->e.e.b.2.1.1 j<=T)):=by
 unfold jE El;try dsimp only
 show PW _ _;try dsimp only
 rw[aW];refine⟨λo1=> ?_,λo1=> ?_⟩
 .have o1:=eq_of_beq o1;repeat (rw[cR];intro _)
  with_reducible refine bu (aT7 L _ ?_ ?_ ?_) λe _ he=> ?_
  .exact pk o1
  .exact h
  .exact hc
  rw[aP];exact⟨L,hL,eW _,he.1,he.2⟩
 rw[aW];refine⟨λo0=> ?_,λo0=> ?_⟩
 .repeat (rw[cR];intro _)
  with_reducible refine bu (aYu L _ ?_ ?_) λy _ hy=> ?_
  .exact h
  .exact hc
  obtain⟨T,t0,t1,hT,hJ,hC⟩:=hy;rw[aW];refine⟨λc=> ?_,λc=> ?_⟩
  .have c:=eq_of_beq c;repeat (rw[cR];intro _)
   refine bu (aaB (rfl:nc _=some _)).po λd _ hd=> ?_;subst hd;rw[aP];exact⟨T,(t0 c).symm,hT,hJ,hC⟩
  .have c:=akr c;repeat (rw[cR];intro _)
   refine bu (aaB (rfl:nc _=some _)).po λd _ hd=> ?_;subst hd;rw[aP];exact⟨T,by show x.2.1.1=T;rw[hL,t1 c],hT,hJ,hC⟩
 .repeat (rw[cR];intro _)
  refine bu (aZR L _ ⟨L,hL,eW _,h,hc⟩) λy _ hy=> ?_
  repeat' (first
   |(rw[hX];refine⟨λa ha=> ?_,λa ha=> ?_⟩<;>subst ha))
  all_goals
   rw[aP];exact hy
def Pb (B:Int)(b:Bf):Prop:=b.2.1=B/\((b.2.2.1:Nat):Int)<=B
theorem Pb.br {B T:Int}{b c:Bf}(h:Pb B b)(k:BR T b c):Pb B c:=⟨k.2.1.trans h.1,by have:=k.len;have:=h.2;omega⟩
theorem Pb.pr {B:Int}{b c:Bf}(h:Pb B b)(k:PR b c∨SR b c):Pb B c:=by
 obtain⟨a,l⟩:=h;rcases k with k|k
 .obtain⟨k1,_,_,_,_,k6⟩:=k;refine⟨k1.trans a,?_⟩;rcases k6 with k6|k6|k6
  .rw[k6.2.2];exact l
  .have:=k6.2.2.2;omega
  .rw[k6.2.2];exact l
 .have e:=k.1;exact⟨by rw[e];exact a,by rw[e];exact l⟩
theorem Pb.len {B:Int}{b:Bf}(hB:B<=64)(h:Pb B b):b.2.2.1<=64:=by have:=h.2;omega
def IS (N:Nat)(B k:Int)(q:Nat×Nat)(T S:Int)(a:Bool)(row:Nat->Int)(b0 b1 b2 b3 b4 b5:Bf)(p:Int×Int×Nat):Prop:=((q.2:Nat):Int)<=k/\Tq T S a q.2 (λi=>row (q.1+i))/\Pb B b0/\Pb B b1/\Pb B b2/\Pb B b3/\Pb B b4/\Pb B b5/\p.1=N/\p.2.2<=N
theorem aSK (N:Nat)(h1:1<=N)(hN:N<=1999)(B:Int)(hB:B<=64)(k:Int)(hk:k<=1900)(q:Nat×Nat)(row:Nat->Int)(x:lO.B)(e1:x.b.1.c.1=q.2)(e2:x.c.2.1.1=λi=>row (q.1+i))(h:IS N B k q x.b.1.d.c.2.1 x.c.1.2.1.1 x.c.1.2.2 row x.c.b.1 x.c.b.2.1 x.d.1 x.d.2.1 x.d.b.1 x.d.b.2.1 x.d.c.2.1):Ok (jE x) (λr:tD=>match r with|.inl e=>IS N B (k+40) (0,e.1.c.2.1) e.1.d.c.b.1 e.b.1.2.1.1 e.b.1.2.2 e.b.2.1.1 e.c.1 e.c.2.1 e.c.b.1 e.c.b.2.1 e.d.1 e.d.2.1 e.d.b.2.1|.inr e=>IS N B (k+40) e.2.1.c.1 e.2.1.d.c.2.1 e.b.2.1.2.1.1 e.b.2.1.2.2 e.c.1.2.1 e.c.2.1 e.c.b.1 e.c.b.2.1 e.d.1 e.d.2.1 e.d.b.1 e.d.c.1):=by
 obtain⟨h0,h1',p0,p1,p2,p3,p4,p5,s0,s1⟩:=h;refine(aZN N h1 hN x (by rw[e1];omega) (p0.len hB) (p1.len hB) (p2.len hB) (p3.len hB) (p4.len hB) (p5.len hB) (by rw[s0];exact eW _) s1 (by rw[e1,e2];exact h1')).mono λr hr=> ?_;cases r with
 |inl e=>
  obtain⟨o1,f1,f2,f3,f4,f11,f12,CH⟩:=hr;have f1:(e.1.2.1,e.1.2.2)=(x.b.1.1,x.b.1.2):=f1;have f5:e.1.c.2.1=x.b.1.c.1:=cM (λz=>z.c.1) f1;have f14:e.1.d.c.b.1=x.b.1.d.c.2.1:=cM (λz=>z.d.c.2.1) f1;show IS N B (k+40) (0,e.1.c.2.1) e.1.d.c.b.1 e.b.1.2.1.1 e.b.1.2.2 e.b.2.1.1 e.c.1 e.c.2.1 e.c.b.1 e.c.b.2.1 e.d.1 e.d.2.1 e.d.b.2.1;rw[f5,f14,f3,f4,f12];refine⟨by show((x.b.1.c.1:Nat):Int)<=k+40;rw[e1];omega,?_,?_⟩
  .show Tq x.b.1.d.c.2.1 x.c.1.2.1.1 x.c.1.2.2 x.b.1.c.1 (λi=>x.c.2.1.1 (0+i));rw[e1,e2];exact⟨h1'.1,h1'.2.up (eW _) (λi=>by show row (q.1+(0+i))=row (q.1+i);rw[gW])⟩
  .have all:Pb B e.c.1/\Pb B e.c.2.1/\Pb B e.c.b.1/\Pb B e.c.b.2.1/\Pb B e.d.1/\Pb B e.d.2.1:=by
    rcases CH with⟨o2,c0,c1,c2,c3,c4,c5⟩| ⟨o2,c0,c1,c2,c3,c4,c5⟩| ⟨o2,c0,c1,c2,c3,c4,c5⟩| ⟨o2,c0,c1,c2,c3,c4,c5⟩| ⟨o2,c0,c1,c2,c3,c4,c5⟩| ⟨o2,c0,c1,c2,c3,c4,c5⟩| ⟨o2,c0,c1,c2,c3,c4,c5⟩
    .exact⟨by rw[c0];exact p0,by rw[c1];exact p1,by rw[c2];exact p2,by rw[c3];exact p3,by rw[c4];exact p4,by rw[c5];exact p5⟩
    .exact⟨p0.pr c0,by rw[c1];exact p1,by rw[c2];exact p2,by rw[c3];exact p3,by rw[c4];exact p4,by rw[c5];exact p5⟩
    .exact⟨by rw[c0];exact p0,p1.pr c1,by rw[c2];exact p2,by rw[c3];exact p3,by rw[c4];exact p4,by rw[c5];exact p5⟩
    .exact⟨by rw[c0];exact p0,by rw[c1];exact p1,p2.pr c2,by rw[c3];exact p3,by rw[c4];exact p4,by rw[c5];exact p5⟩
    .exact⟨by rw[c0];exact p0,by rw[c1];exact p1,by rw[c2];exact p2,p3.pr c3,by rw[c4];exact p4,by rw[c5];exact p5⟩
    .exact⟨by rw[c0];exact p0,by rw[c1];exact p1,by rw[c2];exact p2,by rw[c3];exact p3,p4.pr c4,by rw[c5];exact p5⟩
    .exact⟨by rw[c0];exact p0,by rw[c1];exact p1,by rw[c2];exact p2,by rw[c3];exact p3,by rw[c4];exact p4,p5.pr c5⟩
   obtain⟨a0,a1,a2,a3,a4,a5⟩:=all;exact⟨a0,a1,a2,a3,a4,a5,s0,s1⟩
 |inr e=>
  obtain⟨o1,a0,a1,a2,r0,r1,r2,r3,r4,r5,u0,u1⟩:=hr;have a0:((e.2.1.c.1.2:Nat):Int)<=x.b.1.c.1+40:=a0;rw[e1] at a0;show IS N B (k+40) e.2.1.c.1 e.2.1.d.c.2.1 e.b.2.1.2.1.1 e.b.2.1.2.2 e.c.1.2.1 e.c.2.1 e.c.b.1 e.c.b.2.1 e.d.1 e.d.2.1 e.d.b.1 e.d.c.1;exact⟨by omega,a1,p0.br r0,p1.br r1,p2.br r2,p3.br r3,p4.br r4,p5.br r5,u0.trans s0,u1⟩
theorem aT8 (x:J1.B):Po (zZ x) (λr:Pq=>match r with|.inl _=>oJ x=some false|.inr _=>True):=by
 unfold zZ Yv;try dsimp only
 show PW _ _;try dsimp only
 rw[du];intro g hg;rw[aW];refine⟨λc=> ?_,λ_=> ?_⟩
 .have g0:g=false:=by
   cases g with
   |false=>rfl
   |true=>cases c
  rw[aP,<-g0];exact hg
 .repeat' (first
   |(rw[kn];exact trivial)
   |(rw[aW];refine⟨λ_=> ?_,λ_=> ?_⟩)
   |(rw[pZ];refine⟨λe0 e1=> ?_,λe0 e1=> ?_⟩)
   |(rw[du];intro _ _))
  all_goals (rw[aP];exact trivial)
theorem aT9 (x:KL.B):Ok (FE x) (λr:RL=>match r with|.inl _=>oJ x=some false|.inr e=>(1<=x.b.1/\x.b.1<=64/\1<=x.d.c.1/\x.d.c.1<=64)/\e.c.1=x.b.1/\e.c.2.1=x.b.1/\e.c.b.1=x.b.1/\e.c.b.2.1=x.b.1/\e.d.1=x.b.1/\e.d.2.1=x.b.1/\e.d.b.2.1.1=x.d.c.1):=by
 obtain⟨r,g,hr,aOI⟩:=(aZL x).with (aT8 x)
 unfold FE aay;show PQ _ _;rw[g,dH];cases r with
 |inl a=>
  have aOI:oJ x=some false:=aOI;simp only[aR,dH,av];exact aOI
 |inr a=>
  obtain⟨b0,b1,o0,o1,s0,s1,s2,s3,s4,s5,u⟩:=hr;simp only[tE,dH,av];exact⟨⟨b0,b1,o0,o1⟩,s0,s1,s2,s3,s4,s5,u⟩
theorem aYy (B t:Int)(x:dZ.B)(hx:x.1=(t,8000,(0,0,0),0,0, -84238486))(hl:Lb B x.d.b.2.1.1.1)(ht:∀j,j<6->x.d.b.2.1.1.c.1 j=10000)(h:0<=t)(h0:0<=B)(q:x.2.1.c.1=0)(hD:x.2.1.1.2.1=0)(hL:x.2.1.1.d.1=20000)(ha:Bd B x.2.1.d.c.1)(l0:x.c.2.1.b.1=0)(l1:x.c.b.1.b.1=0)(l2:x.c.b.2.1.b.1=0)(l3:x.d.1.b.1=0)(l4:x.d.2.1.b.1=0)(l5:x.d.b.1.b.1=0)(h1:t<=1125899906842624)(hs:x.b.2.1.2.2=true->x.b.2.1.2.1.1<t)(p0:0<=x.b.2.1.2.1.2.1)(p1:x.b.2.1.2.1.2.1<=100000)(tg:x.b.2.1.1=8000):Po (bQ x) (λy:gB=>(B+20000<t->(¬y.2.1.c.2.1.1=3/\y.2.1.c.2.1.b.1=false/\(2<=y.2.1.c.2.1.1->y.2.1.c.2.1.b.2=true)))/\Bd B y.2.1.d.c.1/\y.2.1.d.c.2.1=t/\y.c.2.1.b.1=0/\y.c.b.1.b.1=0/\y.c.b.2.1.b.1=0/\y.d.1.b.1=0/\y.d.2.1.b.1=0/\y.d.b.1.b.1=0/\y.d.b.2.1=x.d.b.2.1/\y.2.1.c.1.2=0/\y.b.2.1.1=8000/\y.b.2.1.2.1.1=t/\y.b.2.1.2.1.2.1=0/\y.b.2.1.2.2=true/\y.1.2=0):=by
 unfold bQ jD;try dsimp only
 show PW _ _;try dsimp only
 refine bu ((aok _).and (aIN _ t hx (by omega) h1 hs p0 p1 tg)) λd _ hd=> ?_;obtain⟨⟨d1,d2,d3,d4⟩,d0⟩:=hd;obtain⟨e1,e2,e3⟩:=d1 d0;obtain⟨f1,f2,_⟩:=d3 e2;have e1:d.1.1.1=t:=e1.trans (by show x.1.1=t;rw[hx]);have f1:d.2.1.2.1.1=t:=f1.trans (by show x.1.1=t;rw[hx]);have d2:d.2.1.1=8000:=d2.trans tg;rw[e2,d0,show((0:Int)!=0)=false from rfl,aW];refine⟨λc=>Bool.noConfusion c,λ_=> ?_⟩;rw[show(!true)=false from rfl,aW];refine⟨λc=>Bool.noConfusion c,λ_=> ?_⟩
 repeat' (first
  |(rw[kn];exact trivial)
  |(with_reducible refine bu (aYq B t _ ?_ ?_ ?_ ?_ ?_ ?_ ?_ ?_ ?_ ?_ ?_ ?_ ?_ ?_ ?_ ?_) λy _ hy=> ?_)
  |(rw[pZ];refine⟨λ_ _=> ?_,λ_ _=> ?_⟩)
  |(rw[aW];refine⟨λ_=> ?_,λ_=> ?_⟩)
  |(rw[du];intro _ _))
 all_goals first
  |exact hl
  |exact ht
  |exact h
  |exact h0
  |exact q
  |exact e1
  |exact hD
  |exact hL
  |exact ha
  |exact l0
  |exact l1
  |exact l2
  |exact l3
  |exact l4
  |exact l5
  |exact(by omega:t<=4000000000000000)
  |skip
 all_goals
  rw[aP];obtain⟨s0,s1,s2,b0,b1,b2,b3,b4,b5,sm,sq,ss⟩:=hy;have ss:y.b.2.1=d.2.1:=ss;refine⟨s0,s1,s2,b0,b1,b2,b3,b4,b5,sm,sq,?_,?_,?_,?_,rfl⟩
  .show y.b.2.1.1=8000;rw[ss];exact d2
  .show y.b.2.1.2.1.1=t;rw[ss];exact f1
  .show y.b.2.1.2.1.2.1=0;rw[ss];exact e3
  .show y.b.2.1.2.2=true;rw[ss];exact f2
theorem aUb (B t:Int)(x:fO.B)(hx:wI (x.1.1+8000)=t)(hl:Lb B x.d.b.2.1.1.1)(ht:∀j,j<6->x.d.b.2.1.1.c.1 j=10000)(h:0<=t)(h0:0<=B)(q:x.2.1.c.1=0)(hD:x.2.1.1.2.1=0)(hL:x.2.1.1.d.1=20000)(ha:Bd B x.2.1.d.c.1)(l0:x.c.2.1.b.1=0)(l1:x.c.b.1.b.1=0)(l2:x.c.b.2.1.b.1=0)(l3:x.d.1.b.1=0)(l4:x.d.2.1.b.1=0)(l5:x.d.b.1.b.1=0)(h1:t<=1125899906842624)(hs:x.b.2.1.2.2=true->x.b.2.1.2.1.1<t)(p0:0<=x.b.2.1.2.1.2.1)(p1:x.b.2.1.2.1.2.1<=100000)(tg:x.b.2.1.1=8000):Po (cX x) (λe:kh=>(B+20000<t->(¬e.1.c.b.1.1=3/\e.1.c.b.1.b.1=false/\(2<=e.1.c.b.1.1->e.1.c.b.1.b.2=true)))/\Bd B e.1.d.c.2.1/\e.1.d.c.b.1=t/\e.c.1.b.1=0/\e.c.2.1.b.1=0/\e.c.b.1.b.1=0/\e.c.b.2.1.b.1=0/\e.d.1.b.1=0/\e.d.2.1.b.1=0/\e.d.b.1=x.d.b.2.1/\e.1.c.2.1.2=0/\e.b.1.1=8000/\e.b.1.2.1.1=t/\e.b.1.2.1.2.1=0/\e.b.1.2.2=true/\e.1.1.1=t):=by
 unfold cX re;try dsimp only
 show PW _ _;try dsimp only
 rw[ahI,du];intro s hs';have hs':=NJ hs';subst hs';repeat (rw[cR];intro _)
 with_reducible refine bu (aYy B t _ ?_ ?_ ?_ ?_ ?_ ?_ ?_ ?_ ?_ ?_ ?_ ?_ ?_ ?_ ?_ ?_ ?_ ?_ ?_ ?_) λy _ hy=> ?_
 .show(wI (x.1.1+8000),(8000:Int),((0:Int),(0:Int),(0:Int)),(0:Int),(0:Int),(-84238486:Int))=_;rw[hx]
 .exact hl
 .exact ht
 .exact h
 .exact h0
 .exact q
 .exact hD
 .exact hL
 .exact ha
 .exact l0
 .exact l1
 .exact l2
 .exact l3
 .exact l4
 .exact l5
 .exact h1
 .exact hs
 .exact p0
 .exact p1
 .exact tg
 obtain⟨s0,s1,s2,b0,b1,b2,b3,b4,b5,sm,sq,t0,t1,t2,t3,e0⟩:=hy;rw[e0,show((0:Int)==0)=true from rfl,aW];refine⟨λ_=> ?_,λc=>Bool.noConfusion c⟩;repeat (rw[cR];intro _)
 refine bu (aaB (rfl:iy _=some _)).po λd _ hd=> ?_;subst hd;rw[aP];exact⟨s0,s1,s2,b0,b1,b2,b3,b4,b5,sm,sq,t0,t1,t2,t3,hx⟩
end Go.Proofs.YtldgljclcgaibaaGreat
