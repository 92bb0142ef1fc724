/-
  Parts of the proof: TAk TLc TLk TLd TLo TLf TLj TLg TLe TLh TLm TLp TLq TSi TLi
-/
import Derived.Test.YtldgljclcgaibaaGreatZAE
import Derived.Test.YtldgljclcgaibaaGreatZAK
open Int renaming toNat→ws,ofNat→wl
open Sum renaming elim→t8
set_option linter.all false
set_option maxRecDepth 100000
set_option maxHeartbeats 4000000
namespace Go.Proofs.YtldgljclcgaibaaGreat
open Go.Ab Go.Ab.Pg
theorem aiZ (t:Int):NY t 8000=some (t,8000, -84238486):=by kernel_rfl
theorem abY {α:Type}{o:Option α}{v:α}(h:o=some v):Ok o (λr=>r=v):=⟨v,h,rfl⟩
theorem aQf (N:Nat)(h1:1<=N)(hN:N<=1999)(x:fW.B)(hq:x.2.1.c.1<=1998)(l0:x.c.2.1.b.1<=64)(l1:x.c.b.1.b.1<=64)(l2:x.c.b.2.1.b.1<=64)(l3:x.d.1.b.1<=64)(l4:x.d.2.1.b.1<=64)(l5:x.d.b.1.b.1<=64)(hs:x.d.c.1.1<=(N:Int))(hl:x.d.c.1.2.2<=N)(tq:Tq x.2.1.d.c.2.1 x.b.2.1.2.1.1 x.b.2.1.2.2 x.2.1.c.1 x.c.1.1):
  Ok (cY x) (λe:kv=>e.1.c.2.1.2<=x.2.1.c.1+1/\Tq e.1.d.c.b.1 e.b.1.2.1.1 e.b.1.2.2 e.1.c.2.1.2 (λi=>e.b.2.1.2.1 (e.1.c.2.1.1+i))/\x.2.1.d.c.2.1<=e.1.d.c.b.1/\BR e.1.d.c.b.1 x.c.2.1 e.c.1/\BR e.1.d.c.b.1 x.c.b.1 e.c.2.1/\BR e.1.d.c.b.1 x.c.b.2.1 e.c.b.1/\BR e.1.d.c.b.1 x.d.1 e.c.b.2.1/\BR e.1.d.c.b.1 x.d.2.1 e.d.1/\BR e.1.d.c.b.1 x.d.b.1 e.d.2.1/\e.d.b.2.1.1=x.d.c.1.1/\e.d.b.2.1.2.2<=N):=by
 unfold cY sf;try dsimp only
 show PQ _ _;try dsimp only
 rw[aiZ,dL];simp only[aN,aV];with_reducible refine ay (aUu N h1 hN _ ?_ ?_ ?_ ?_ ?_ ?_ ?_ ?_ ?_ ?_ ?_) λe _ he=> ?_
 .exact hq
 .exact l0
 .exact l1
 .exact l2
 .exact l3
 .exact l4
 .exact l5
 .exact hs
 .exact hl
 .exact tq.1
 .exact tq.2
 obtain⟨e4,eh,et,eq,b0,b1,b2,b3,b4,b5,u0,u1⟩:=he;rw[aK];refine⟨λ_=> ?_,λ_=> ?_⟩
 all_goals
  repeat rw[aV]
  refine ay (abY (rfl:iI _=some _)) λd _ hd=> ?_;subst hd;rw[av];exact⟨e4,⟨eh,eq⟩,et,b0,b1,b2,b3,b4,b5,u0,u1⟩
theorem aTg (N:Nat)(h1:1<=N)(hN:N<=1999)(q:Int)(hq:q+40<=1998)(w d:eF.B)(l0:w.c.b.2.1.b.1<=64)(l1:w.d.1.b.1<=64)(l2:w.d.2.1.b.1<=64)(l3:w.d.b.1.b.1<=64)(l4:w.d.b.2.1.b.1<=64)(l5:w.d.c.1.b.1<=64)(WS:w.d.c.b.1.1<=(N:Int))(hd:0<=d.1.1/\d.1.1<=40/\((d.b.2.1.c.1.2:Nat):Int)<=q+d.1.1/\Tq d.b.2.1.d.c.2.1 d.c.2.1.2.1.1 d.c.2.1.2.2 d.b.2.1.c.1.2 (λi=>d.c.b.1.2.1 (d.b.2.1.c.1.1+i))/\w.b.2.1.d.c.2.1<=d.b.2.1.d.c.2.1/\BR d.b.2.1.d.c.2.1 w.c.b.2.1 d.c.b.2.1/\BR d.b.2.1.d.c.2.1 w.d.1 d.d.1/\BR d.b.2.1.d.c.2.1 w.d.2.1 d.d.2.1/\BR d.b.2.1.d.c.2.1 w.d.b.1 d.d.b.1/\BR d.b.2.1.d.c.2.1 w.d.b.2.1 d.d.b.2.1/\BR d.b.2.1.d.c.2.1 w.d.c.1 d.d.c.1/\d.d.c.b.1.1=w.d.c.b.1.1/\d.d.c.b.1.2.2<=N):Ok (nq d) (λx:np=>match x with|.inl x=>((x.b.2.1.c.1.2:Nat):Int)<=q+40/\Tq x.b.2.1.d.c.2.1 x.c.2.1.2.1.1 x.c.2.1.2.2 x.b.2.1.c.1.2 (λi=>x.c.b.1.2.1 (x.b.2.1.c.1.1+i))/\w.b.2.1.d.c.2.1<=x.b.2.1.d.c.2.1/\BR x.b.2.1.d.c.2.1 w.c.b.2.1 x.c.b.2.1/\BR x.b.2.1.d.c.2.1 w.d.1 x.d.1/\BR x.b.2.1.d.c.2.1 w.d.2.1 x.d.2.1/\BR x.b.2.1.d.c.2.1 w.d.b.1 x.d.b.1/\BR x.b.2.1.d.c.2.1 w.d.b.2.1 x.d.b.2.1/\BR x.b.2.1.d.c.2.1 w.d.c.1 x.d.c.1/\x.d.c.b.1.1=w.d.c.b.1.1/\x.d.c.b.1.2.2<=N|.inr (.inl x)=>((x.b.2.1.c.1.2:Nat):Int)<=q+40/\Tq x.b.2.1.d.c.2.1 x.c.2.1.2.1.1 x.c.2.1.2.2 x.b.2.1.c.1.2 (λi=>x.c.b.1.2.1 (x.b.2.1.c.1.1+i))/\w.b.2.1.d.c.2.1<=x.b.2.1.d.c.2.1/\BR x.b.2.1.d.c.2.1 w.c.b.2.1 x.c.b.2.1/\BR x.b.2.1.d.c.2.1 w.d.1 x.d.1/\BR x.b.2.1.d.c.2.1 w.d.2.1 x.d.2.1/\BR x.b.2.1.d.c.2.1 w.d.b.1 x.d.b.1/\BR x.b.2.1.d.c.2.1 w.d.b.2.1 x.d.b.2.1/\BR x.b.2.1.d.c.2.1 w.d.c.1 x.d.c.1/\x.d.c.b.1.1=w.d.c.b.1.1/\x.d.c.b.1.2.2<=N|.inr (.inr (.inl x))=>((x.b.2.1.c.1.2:Nat):Int)<=q+40/\Tq x.b.2.1.d.c.2.1 x.c.2.1.2.1.1 x.c.2.1.2.2 x.b.2.1.c.1.2 (λi=>x.c.b.1.2.1 (x.b.2.1.c.1.1+i))/\w.b.2.1.d.c.2.1<=x.b.2.1.d.c.2.1/\BR x.b.2.1.d.c.2.1 w.c.b.2.1 x.c.b.2.1/\BR x.b.2.1.d.c.2.1 w.d.1 x.d.1/\BR x.b.2.1.d.c.2.1 w.d.2.1 x.d.2.1/\BR x.b.2.1.d.c.2.1 w.d.b.1 x.d.b.1/\BR x.b.2.1.d.c.2.1 w.d.b.2.1 x.d.b.2.1/\BR x.b.2.1.d.c.2.1 w.d.c.1 x.d.c.1/\x.d.c.b.1.1=w.d.c.b.1.1/\x.d.c.b.1.2.2<=N|.inr (.inr (.inr x))=>((x.b.2.1.c.1.2:Nat):Int)<=q+40/\Tq x.b.2.1.d.c.2.1 x.c.2.1.2.1.1 x.c.2.1.2.2 x.b.2.1.c.1.2 (λi=>x.c.b.1.2.1 (x.b.2.1.c.1.1+i))/\w.b.2.1.d.c.2.1<=x.b.2.1.d.c.2.1/\BR x.b.2.1.d.c.2.1 w.c.b.2.1 x.c.b.2.1/\BR x.b.2.1.d.c.2.1 w.d.1 x.d.1/\BR x.b.2.1.d.c.2.1 w.d.2.1 x.d.2.1/\BR x.b.2.1.d.c.2.1 w.d.b.1 x.d.b.1/\BR x.b.2.1.d.c.2.1 w.d.b.2.1 x.d.b.2.1/\BR x.b.2.1.d.c.2.1 w.d.c.1 x.d.c.1/\x.d.c.b.1.1=w.d.c.b.1.1/\x.d.c.b.1.2.2<=N):=by
 revert d
 exact bP (λd:eF.B=>ws (40-d.1.1)) (λd hd=>by
  obtain⟨c0,c1,i0,tq,wt,s0,s1,s2,s3,s4,s5,p0,p1⟩:=hd;unfold AW;try dsimp only
  try dsimp only
  have fin:((d.b.2.1.c.1.2:Nat):Int)<=q+40:=by omega
  rw[aK];refine⟨λ_=> ?_,λ_=>by rw[av];exact⟨fin,tq,wt,s0,s1,s2,s3,s4,s5,p0,p1⟩⟩;rw[aK];refine⟨λh=> ?_,λ_=>by rw[av];exact⟨fin,tq,wt,s0,s1,s2,s3,s4,s5,p0,p1⟩⟩;have h:=eK h;rw[aK];refine⟨λ_=> ?_,λ_=>by rw[av];exact⟨fin,tq,wt,s0,s1,s2,s3,s4,s5,p0,p1⟩⟩;rw[aK];refine⟨λ_=> ?_,λ_=>by rw[av];exact⟨fin,tq,wt,s0,s1,s2,s3,s4,s5,p0,p1⟩⟩;simp only[aN,aV];have hw:wI (d.1.1+1)=d.1.1+1:=bo;with_reducible refine ay (aQf N h1 hN _ ?_ ?_ ?_ ?_ ?_ ?_ ?_ ?_ ?_ ?_) λe _ he=> ?_
  .show d.b.2.1.c.1.2<=1998;omega
  .exact ch s0.len l0
  .exact ch s1.len l1
  .exact ch s2.len l2
  .exact ch s3.len l3
  .exact ch s4.len l4
  .exact ch s5.len l5
  .show d.d.c.b.1.1<=(N:Int);rw[p0];exact WS
  .exact p1
  .exact tq
  obtain⟨e4,eq,et,b0,b1,b2,b3,b4,b5,u0,u1⟩:=he;have e4:e.1.c.2.1.2<=d.b.2.1.c.1.2+1:=e4;have et:d.b.2.1.d.c.2.1<=e.1.d.c.b.1:=et;have u0:e.d.b.2.1.1=d.d.c.b.1.1:=u0;rw[av,hw];exact⟨⟨by show 0<=d.1.1+1;omega,by show d.1.1+1<=40;omega,by show((e.1.c.2.1.2:Nat):Int)<=q+(d.1.1+1);omega,eq,AZ wt et,(s0.mono et).trans b0,(s1.mono et).trans b1,(s2.mono et).trans b2,(s3.mono et).trans b3,(s4.mono et).trans b4,(s5.mono et).trans b5,u0.trans p0,u1⟩,by show ws (40-(d.1.1+1))<ws (40-d.1.1);omega⟩) (λd hd=>by omega)
theorem aQg (N:Nat)(h1:1<=N)(hN:N<=1999)(q:Int)(hq:q+40<=1998)(d:eF.B)(l0:d.c.b.2.1.b.1<=64)(l1:d.d.1.b.1<=64)(l2:d.d.2.1.b.1<=64)(l3:d.d.b.1.b.1<=64)(l4:d.d.b.2.1.b.1<=64)(l5:d.d.c.1.b.1<=64)(WS:d.d.c.b.1.1<=(N:Int))(c0:d.1.1=0)(i0:((d.b.2.1.c.1.2:Nat):Int)<=q)(tq:Tq d.b.2.1.d.c.2.1 d.c.2.1.2.1.1 d.c.2.1.2.2 d.b.2.1.c.1.2 (λi=>d.c.b.1.2.1 (d.b.2.1.c.1.1+i)))(p1:d.d.c.b.1.2.2<=N):Ok (nq d) (λx:np=>match x with|.inl x=>((x.b.2.1.c.1.2:Nat):Int)<=q+40/\Tq x.b.2.1.d.c.2.1 x.c.2.1.2.1.1 x.c.2.1.2.2 x.b.2.1.c.1.2 (λi=>x.c.b.1.2.1 (x.b.2.1.c.1.1+i))/\d.b.2.1.d.c.2.1<=x.b.2.1.d.c.2.1/\BR x.b.2.1.d.c.2.1 d.c.b.2.1 x.c.b.2.1/\BR x.b.2.1.d.c.2.1 d.d.1 x.d.1/\BR x.b.2.1.d.c.2.1 d.d.2.1 x.d.2.1/\BR x.b.2.1.d.c.2.1 d.d.b.1 x.d.b.1/\BR x.b.2.1.d.c.2.1 d.d.b.2.1 x.d.b.2.1/\BR x.b.2.1.d.c.2.1 d.d.c.1 x.d.c.1/\x.d.c.b.1.1=d.d.c.b.1.1/\x.d.c.b.1.2.2<=N|.inr (.inl x)=>((x.b.2.1.c.1.2:Nat):Int)<=q+40/\Tq x.b.2.1.d.c.2.1 x.c.2.1.2.1.1 x.c.2.1.2.2 x.b.2.1.c.1.2 (λi=>x.c.b.1.2.1 (x.b.2.1.c.1.1+i))/\d.b.2.1.d.c.2.1<=x.b.2.1.d.c.2.1/\BR x.b.2.1.d.c.2.1 d.c.b.2.1 x.c.b.2.1/\BR x.b.2.1.d.c.2.1 d.d.1 x.d.1/\BR x.b.2.1.d.c.2.1 d.d.2.1 x.d.2.1/\BR x.b.2.1.d.c.2.1 d.d.b.1 x.d.b.1/\BR x.b.2.1.d.c.2.1 d.d.b.2.1 x.d.b.2.1/\BR x.b.2.1.d.c.2.1 d.d.c.1 x.d.c.1/\x.d.c.b.1.1=d.d.c.b.1.1/\x.d.c.b.1.2.2<=N|.inr (.inr (.inl x))=>((x.b.2.1.c.1.2:Nat):Int)<=q+40/\Tq x.b.2.1.d.c.2.1 x.c.2.1.2.1.1 x.c.2.1.2.2 x.b.2.1.c.1.2 (λi=>x.c.b.1.2.1 (x.b.2.1.c.1.1+i))/\d.b.2.1.d.c.2.1<=x.b.2.1.d.c.2.1/\BR x.b.2.1.d.c.2.1 d.c.b.2.1 x.c.b.2.1/\BR x.b.2.1.d.c.2.1 d.d.1 x.d.1/\BR x.b.2.1.d.c.2.1 d.d.2.1 x.d.2.1/\BR x.b.2.1.d.c.2.1 d.d.b.1 x.d.b.1/\BR x.b.2.1.d.c.2.1 d.d.b.2.1 x.d.b.2.1/\BR x.b.2.1.d.c.2.1 d.d.c.1 x.d.c.1/\x.d.c.b.1.1=d.d.c.b.1.1/\x.d.c.b.1.2.2<=N|.inr (.inr (.inr x))=>((x.b.2.1.c.1.2:Nat):Int)<=q+40/\Tq x.b.2.1.d.c.2.1 x.c.2.1.2.1.1 x.c.2.1.2.2 x.b.2.1.c.1.2 (λi=>x.c.b.1.2.1 (x.b.2.1.c.1.1+i))/\d.b.2.1.d.c.2.1<=x.b.2.1.d.c.2.1/\BR x.b.2.1.d.c.2.1 d.c.b.2.1 x.c.b.2.1/\BR x.b.2.1.d.c.2.1 d.d.1 x.d.1/\BR x.b.2.1.d.c.2.1 d.d.2.1 x.d.2.1/\BR x.b.2.1.d.c.2.1 d.d.b.1 x.d.b.1/\BR x.b.2.1.d.c.2.1 d.d.b.2.1 x.d.b.2.1/\BR x.b.2.1.d.c.2.1 d.d.c.1 x.d.c.1/\x.d.c.b.1.1=d.d.c.b.1.1/\x.d.c.b.1.2.2<=N):=
 aTg N h1 hN q hq d d l0 l1 l2 l3 l4 l5 WS ⟨by omega,by omega,by omega,tq,eZ _,BR.refl _ _,BR.refl _ _,BR.refl _ _,BR.refl _ _,BR.refl _ _,BR.refl _ _,rfl,p1⟩
theorem a1w (N:Nat)(h1:1<=N)(hN:N<=1999)(x:lU.B)(hq:x.b.1.c.1<=1958)(l0:x.c.b.1.b.1<=64)(l1:x.c.b.2.1.b.1<=64)(l2:x.d.1.b.1<=64)(l3:x.d.2.1.b.1<=64)(l4:x.d.b.1.b.1<=64)(l5:x.d.b.2.1.b.1<=64)(hs:x.d.c.2.1.1<=(N:Int))(hl:x.d.c.2.1.2.2<=N)(tq:Tq x.b.1.d.c.2.1 x.c.1.2.1.1 x.c.1.2.2 x.b.1.c.1 x.c.2.1.1):
  Ok (jT x) (λr:ur=>match r with|.inl e=>x.1.1=1/\(e.1.2.1,e.1.2.2)=(x.b.1.1,x.b.1.2)/\e.2.1=x.b.2.1/\e.b.1=x.c.1/\e.b.2.1=x.c.2.1/\e.d.b.1=x.d.c.1/\e.d.b.2.1=x.d.c.2.1/\((¬(0<=x.1.2.1/\x.1.2.1<6)/\e.c.1=x.c.b.1/\e.c.2.1=x.c.b.2.1/\e.c.b.1=x.d.1/\e.c.b.2.1=x.d.2.1/\e.d.1=x.d.b.1/\e.d.2.1=x.d.b.2.1)∨(x.1.2.1=0/\(PR x.c.b.1 e.c.1∨SR x.c.b.1 e.c.1)/\e.c.2.1=x.c.b.2.1/\e.c.b.1=x.d.1/\e.c.b.2.1=x.d.2.1/\e.d.1=x.d.b.1/\e.d.2.1=x.d.b.2.1)∨(x.1.2.1=1/\e.c.1=x.c.b.1/\(PR x.c.b.2.1 e.c.2.1∨SR x.c.b.2.1 e.c.2.1)/\e.c.b.1=x.d.1/\e.c.b.2.1=x.d.2.1/\e.d.1=x.d.b.1/\e.d.2.1=x.d.b.2.1)∨(x.1.2.1=2/\e.c.1=x.c.b.1/\e.c.2.1=x.c.b.2.1/\(PR x.d.1 e.c.b.1∨SR x.d.1 e.c.b.1)/\e.c.b.2.1=x.d.2.1/\e.d.1=x.d.b.1/\e.d.2.1=x.d.b.2.1)∨(x.1.2.1=3/\e.c.1=x.c.b.1/\e.c.2.1=x.c.b.2.1/\e.c.b.1=x.d.1/\(PR x.d.2.1 e.c.b.2.1∨SR x.d.2.1 e.c.b.2.1)/\e.d.1=x.d.b.1/\e.d.2.1=x.d.b.2.1)∨(x.1.2.1=4/\e.c.1=x.c.b.1/\e.c.2.1=x.c.b.2.1/\e.c.b.1=x.d.1/\e.c.b.2.1=x.d.2.1/\(PR x.d.b.1 e.d.1∨SR x.d.b.1 e.d.1)/\e.d.2.1=x.d.b.2.1)∨(x.1.2.1=5/\e.c.1=x.c.b.1/\e.c.2.1=x.c.b.2.1/\e.c.b.1=x.d.1/\e.c.b.2.1=x.d.2.1/\e.d.1=x.d.b.1/\(PR x.d.b.2.1 e.d.2.1∨SR x.d.b.2.1 e.d.2.1)))|.inr e=>x.1.1≠1/\((e.2.1.c.1.2:Nat):Int)<=x.b.1.c.1+40/\Tq e.2.1.d.c.2.1 e.b.2.1.2.1.1 e.b.2.1.2.2 e.2.1.c.1.2 (λi=>e.c.1.2.1 (e.2.1.c.1.1+i))/\x.b.1.d.c.2.1<=e.2.1.d.c.2.1/\BR e.2.1.d.c.2.1 x.c.b.1 e.c.2.1/\BR e.2.1.d.c.2.1 x.c.b.2.1 e.c.b.1/\BR e.2.1.d.c.2.1 x.d.1 e.c.b.2.1/\BR e.2.1.d.c.2.1 x.d.2.1 e.d.1/\BR e.2.1.d.c.2.1 x.d.b.1 e.d.2.1/\BR e.2.1.d.c.2.1 x.d.b.2.1 e.d.b.1/\e.d.c.1.1=x.d.c.2.1.1/\e.d.c.1.2.2<=N):=by
 unfold jT E4;try dsimp only
 show PQ _ _;try dsimp only
 simp only[aN,aV];rw[aK];refine⟨λo1=> ?_,λo1=> ?_⟩
 .have o1:=eq_of_beq o1;repeat rw[aV]
  with_reducible refine ay (aTf _ ?_ ?_ ?_ ?_ ?_ ?_) λe _ he=> ?_
  .exact ch l0 (by decide)
  .exact ch l1 (by decide)
  .exact ch l2 (by decide)
  .exact ch l3 (by decide)
  .exact ch l4 (by decide)
  .exact ch l5 (by decide)
  obtain⟨f1,f2,f3,f4,f11,f12,f13,f20,CH⟩:=he;rw[av];exact⟨o1,by show(e.2.1.1,e.2.1.2)=_;rw[f1],f2,f3,f4,f11,f12,CH⟩
 have o1:=alK o1;rw[aK];refine⟨λ_=> ?_,λ_=> ?_⟩
 .repeat rw[aV]
  with_reducible refine ay (aUu N h1 hN _ ?_ ?_ ?_ ?_ ?_ ?_ ?_ ?_ ?_ ?_ ?_) λe _ he=> ?_
  .exact ch hq (by decide)
  .exact l0
  .exact l1
  .exact l2
  .exact l3
  .exact l4
  .exact l5
  .exact hs
  .exact hl
  .exact tq.1
  .exact tq.2
  obtain⟨e4,eh,et,eq,b0,b1,b2,b3,b4,b5,u0,u1⟩:=he;have e4:e.2.1.c.1.2<=x.b.1.c.1+1:=e4;have e5:((e.2.1.c.1.2:Nat):Int)<=x.b.1.c.1+40:=by omega
  rw[aK];refine⟨λ_=> ?_,λ_=> ?_⟩
  all_goals
   repeat rw[aV]
   refine ay (abY (rfl:nr _=some _)) λd _ hd=> ?_;subst hd;rw[av];exact⟨o1,e5,⟨eh,eq⟩,et,b0,b1,b2,b3,b4,b5,u0,u1⟩
 .repeat rw[aV]
  with_reducible refine ay (aQg N h1 hN x.b.1.c.1 (by omega) _ l0 l1 l2 l3 l4 l5 hs ?_ ?_ ?_ ?_) λy _ hy=> ?_
  .rfl
  .show((x.b.1.c.1:Nat):Int)<=x.b.1.c.1;omega
  .exact⟨tq.1,tq.2.up (eZ _) (λi=>by show x.c.2.1.1 (0+i)=_;rw[hI])⟩
  .exact hl
  rw[qW];refine⟨λa ha=> ?_,λa ha=> ?_⟩
  .subst ha;rw[av];exact⟨o1,hy⟩
  rw[qW];refine⟨λb hb=> ?_,λb hb=> ?_⟩
  .subst ha;subst hb;rw[av];exact⟨o1,hy⟩
  rw[qW];refine⟨λc hc=> ?_,λc hc=> ?_⟩
  .subst ha;subst hb;subst hc;rw[av];exact⟨o1,hy⟩
  .subst ha;subst hb;subst hc;rw[av];exact⟨o1,hy⟩
class Rb (M:outParam Int) (n:Nat) (r:Nat->Int):Prop where
 h:∀i,i<n->r i<=M
class Lm (M:outParam Int) (x:Int):Prop where
 h:x<=M
instance{M:Int}{n:Nat}{r:Nat->Int}[k:Rb M n r]:Rb M n (λj=>r (0+j)):=⟨λi hi=>by show r (0+i)<=M;rw[hI];exact k.h i hi⟩
theorem aQh (x:lE.B):Po (jg x) (λr:xQ=>r.b.1=x.1.b.1):=(axQ x).po.mono λr h=>by
 have h:r.2=x.1.2:=h.1;exact cO (λz=>z.2.1) h
theorem aHk (M:Int)(x:gu.B)(hs:x.1.2.1<=M)(h0:∀i,i<x.c.2.1.b.1->x.d.c.b.1.1 i<=M)(h1:∀i,i<x.c.b.1.b.1->x.d.c.b.2.1.1 i<=M)(h2:∀i,i<x.c.b.2.1.b.1->x.e.1.1 i<=M)(h3:∀i,i<x.d.1.b.1->x.e.2.1.1 i<=M)(h4:∀i,i<x.d.2.1.b.1->x.e.b.1.1 i<=M)(h5:∀i,i<x.d.b.1.b.1->x.e.b.2.1.1 i<=M):Po (dJ x) (λe:ku=>(∀i,i<e.c.2.1.b.1->e.d.c.b.1.2.1 i<=M)/\(∀i,i<e.c.b.1.b.1->e.d.c.b.2.1.2.1 i<=M)/\(∀i,i<e.c.b.2.1.b.1->e.e.1.2.1 i<=M)/\(∀i,i<e.d.1.b.1->e.e.2.1.2.1 i<=M)/\(∀i,i<e.d.2.1.b.1->e.e.b.1.2.1 i<=M)/\(∀i,i<e.d.b.1.b.1->e.e.b.2.1.2.1 i<=M)):=by
 unfold dJ qy;try dsimp only
 show PW _ _;try dsimp only
 have hy:(0:Nat)=0:=rfl
 repeat' (first
  |(rw[kD];exact trivial)
  |(with_reducible refine bB (a0W M _ ?_ ?_) λy _ hy=> ?_)
  |(with_reducible refine bB (aQh _) λy _ hy=> ?_)
  |(rw[ij];refine⟨λa ha=> ?_,λa ha=> ?_⟩<;>subst ha)
  |(rw[qR];refine⟨λa ha=> ?_,λa ha=> ?_⟩<;>subst ha)
  |(rw[aZ];refine⟨λ_=> ?_,λ_=> ?_⟩)
  |(rw[dA];intro _ _))
 all_goals first
  |exact hs
  |exact h0
  |exact h1
  |exact h2
  |exact h3
  |exact h4
  |exact h5
  |(rw[aR]
    refine⟨?_,?_,?_,?_,?_,?_⟩<;>first|exact h0|exact h1|exact h2|exact h3|exact h4|exact h5|exact hy|exact λi hi=>h0 i (Nat.lt_of_lt_of_eq hi hy)|exact λi hi=>h1 i (Nat.lt_of_lt_of_eq hi hy)|exact λi hi=>h2 i (Nat.lt_of_lt_of_eq hi hy)|exact λi hi=>h3 i (Nat.lt_of_lt_of_eq hi hy)|exact λi hi=>h4 i (Nat.lt_of_lt_of_eq hi hy)|exact λi hi=>h5 i (Nat.lt_of_lt_of_eq hi hy))
variable {M:Int}
instance a5t (x:oQ.B)[k:Rb M x.2.1.b.1 x.b.1]:Mo (kl x) (λx=>Rb M x.2.1.b.1 x.b.2.1):=⟨(aUi M x k.h).mono λe h=>⟨h.1⟩⟩
instance a1x (x:gu.B)[m:Lm M x.1.2.1][k0:Rb M x.c.2.1.b.1 x.d.c.b.1.1][k1:Rb M x.c.b.1.b.1 x.d.c.b.2.1.1][k2:Rb M x.c.b.2.1.b.1 x.e.1.1][k3:Rb M x.d.1.b.1 x.e.2.1.1][k4:Rb M x.d.2.1.b.1 x.e.b.1.1][k5:Rb M x.d.b.1.b.1 x.e.b.2.1.1]:Mo (dJ x) (λx=>Rb M x.c.2.1.b.1 x.d.c.b.1.2.1/\Rb M x.c.b.1.b.1 x.d.c.b.2.1.2.1/\Rb M x.c.b.2.1.b.1 x.e.1.2.1/\Rb M x.d.1.b.1 x.e.2.1.2.1/\Rb M x.d.2.1.b.1 x.e.b.1.2.1/\Rb M x.d.b.1.b.1 x.e.b.2.1.2.1):=⟨(aHk M x m.h k0.h k1.h k2.h k3.h k4.h k5.h).mono λe h=>⟨⟨h.1⟩,⟨h.2.1⟩,⟨h.b.1⟩,⟨h.b.2.1⟩,⟨h.c.1⟩,⟨h.c.2⟩⟩⟩
instance aMT (d:bI.B)[Rb M d.c.2.1.b.1 d.e.2.1.1][Rb M d.c.b.1.b.1 d.e.b.1.1][Rb M d.c.b.2.1.b.1 d.e.b.2.1.1][Rb M d.d.1.b.1 d.e.c.1.1][Rb M d.d.2.1.b.1 d.e.c.2.1.1][Rb M d.d.b.1.b.1 d.e.c.b.1.1]:Mo (gD d) (λx=>Rb M x.c.2.1.b.1 x.e.2.1.1/\Rb M x.c.b.1.b.1 x.e.b.1.1/\Rb M x.c.b.2.1.b.1 x.e.b.2.1.1/\Rb M x.d.1.b.1 x.e.c.1.1/\Rb M x.d.2.1.b.1 x.e.c.2.1.1/\Rb M x.d.b.1.b.1 x.e.c.b.1.1):=IP (λd=>Rb M d.c.2.1.b.1 d.e.2.1.1/\Rb M d.c.b.1.b.1 d.e.b.1.1/\Rb M d.c.b.2.1.b.1 d.e.b.2.1.1/\Rb M d.d.1.b.1 d.e.c.1.1/\Rb M d.d.2.1.b.1 d.e.c.2.1.1/\Rb M d.d.b.1.b.1 d.e.c.b.1.1) (λd h=>by
 obtain⟨_,_,_,_,_,_⟩:=h;exact my) d ⟨inferInstance,inferInstance,inferInstance,inferInstance,inferInstance,inferInstance⟩
instance aMU (d:cz.B)[Rb M d.c.2.1.b.1 d.e.1.1][Rb M d.c.b.1.b.1 d.e.2.1.1][Rb M d.c.b.2.1.b.1 d.e.b.1.1][Rb M d.d.1.b.1 d.e.b.2.1.1][Rb M d.d.2.1.b.1 d.e.c.1.1][Rb M d.d.b.1.b.1 d.e.c.2.1.1]:Mo (iF d) (λx=>Rb M x.c.2.1.b.1 x.e.1.1/\Rb M x.c.b.1.b.1 x.e.2.1.1/\Rb M x.c.b.2.1.b.1 x.e.b.1.1/\Rb M x.d.1.b.1 x.e.b.2.1.1/\Rb M x.d.2.1.b.1 x.e.c.1.1/\Rb M x.d.b.1.b.1 x.e.c.2.1.1):=IP (λd=>Rb M d.c.2.1.b.1 d.e.1.1/\Rb M d.c.b.1.b.1 d.e.2.1.1/\Rb M d.c.b.2.1.b.1 d.e.b.1.1/\Rb M d.d.1.b.1 d.e.b.2.1.1/\Rb M d.d.2.1.b.1 d.e.c.1.1/\Rb M d.d.b.1.b.1 d.e.c.2.1.1) (λd h=>by
 obtain⟨_,_,_,_,_,_⟩:=h;exact my) d ⟨inferInstance,inferInstance,inferInstance,inferInstance,inferInstance,inferInstance⟩
instance aMV (d:cy.B)[Rb M d.c.2.1.b.1 d.e.2.1.1][Rb M d.c.b.1.b.1 d.e.b.1.1][Rb M d.c.b.2.1.b.1 d.e.b.2.1.1][Rb M d.d.1.b.1 d.e.c.1.1][Rb M d.d.2.1.b.1 d.e.c.2.1.1][Rb M d.d.b.1.b.1 d.e.c.b.1.1]:Mo (gE d) (λx=>Rb M x.c.2.1.b.1 x.e.2.1.1/\Rb M x.c.b.1.b.1 x.e.b.1.1/\Rb M x.c.b.2.1.b.1 x.e.b.2.1.1/\Rb M x.d.1.b.1 x.e.c.1.1/\Rb M x.d.2.1.b.1 x.e.c.2.1.1/\Rb M x.d.b.1.b.1 x.e.c.b.1.1):=IP (λd=>Rb M d.c.2.1.b.1 d.e.2.1.1/\Rb M d.c.b.1.b.1 d.e.b.1.1/\Rb M d.c.b.2.1.b.1 d.e.b.2.1.1/\Rb M d.d.1.b.1 d.e.c.1.1/\Rb M d.d.2.1.b.1 d.e.c.2.1.1/\Rb M d.d.b.1.b.1 d.e.c.b.1.1) (λd h=>by
 obtain⟨_,_,_,_,_,_⟩:=h;exact my) d ⟨inferInstance,inferInstance,inferInstance,inferInstance,inferInstance,inferInstance⟩
instance aMW (d:de.B)[Rb M d.c.1.b.1 d.d.c.b.2.1.1][Rb M d.c.2.1.b.1 d.e.1.1][Rb M d.c.b.1.b.1 d.e.2.1.1][Rb M d.c.b.2.1.b.1 d.e.b.1.1][Rb M d.d.1.b.1 d.e.b.2.1.1][Rb M d.d.2.1.b.1 d.e.c.1.1]:Mo (fA d) (t8 (λx=>Rb M x.c.2.1.b.1 x.e.1.1/\Rb M x.c.b.1.b.1 x.e.2.1.1/\Rb M x.c.b.2.1.b.1 x.e.b.1.1/\Rb M x.d.1.b.1 x.e.b.2.1.1/\Rb M x.d.2.1.b.1 x.e.c.1.1/\Rb M x.d.b.1.b.1 x.e.c.2.1.1) (λx=>Rb M x.c.2.1.b.1 x.e.1.1/\Rb M x.c.b.1.b.1 x.e.2.1.1/\Rb M x.c.b.2.1.b.1 x.e.b.1.1/\Rb M x.d.1.b.1 x.e.b.2.1.1/\Rb M x.d.2.1.b.1 x.e.c.1.1/\Rb M x.d.b.1.b.1 x.e.c.2.1.1)):=⟨my⟩
instance aMX (d:dg.B)[Rb M d.c.1.b.1 d.e.1.1][Rb M d.c.2.1.b.1 d.e.2.1.1][Rb M d.c.b.1.b.1 d.e.b.1.1][Rb M d.c.b.2.1.b.1 d.e.b.2.1.1][Rb M d.d.1.b.1 d.e.c.1.1][Rb M d.d.2.1.b.1 d.e.c.2.1.1]:Mo (eD d) (t8 (λx=>Rb M x.c.2.1.b.1 x.e.1.1/\Rb M x.c.b.1.b.1 x.e.2.1.1/\Rb M x.c.b.2.1.b.1 x.e.b.1.1/\Rb M x.d.1.b.1 x.e.b.2.1.1/\Rb M x.d.2.1.b.1 x.e.c.1.1/\Rb M x.d.b.1.b.1 x.e.c.2.1.1) (λx=>Rb M x.c.2.1.b.1 x.e.1.1/\Rb M x.c.b.1.b.1 x.e.2.1.1/\Rb M x.c.b.2.1.b.1 x.e.b.1.1/\Rb M x.d.1.b.1 x.e.b.2.1.1/\Rb M x.d.2.1.b.1 x.e.c.1.1/\Rb M x.d.b.1.b.1 x.e.c.2.1.1)):=⟨my⟩
instance aMY (d:dh.B)[Rb M d.c.1.b.1 d.d.c.b.2.1.1][Rb M d.c.2.1.b.1 d.e.1.1][Rb M d.c.b.1.b.1 d.e.2.1.1][Rb M d.c.b.2.1.b.1 d.e.b.1.1][Rb M d.d.1.b.1 d.e.b.2.1.1][Rb M d.d.2.1.b.1 d.e.c.1.1]:Mo (eE d) (t8 (λx=>Rb M x.c.2.1.b.1 x.e.1.1/\Rb M x.c.b.1.b.1 x.e.2.1.1/\Rb M x.c.b.2.1.b.1 x.e.b.1.1/\Rb M x.d.1.b.1 x.e.b.2.1.1/\Rb M x.d.2.1.b.1 x.e.c.1.1/\Rb M x.d.b.1.b.1 x.e.c.2.1.1) (λx=>Rb M x.c.2.1.b.1 x.e.1.1/\Rb M x.c.b.1.b.1 x.e.2.1.1/\Rb M x.c.b.2.1.b.1 x.e.b.1.1/\Rb M x.d.1.b.1 x.e.b.2.1.1/\Rb M x.d.2.1.b.1 x.e.c.1.1/\Rb M x.d.b.1.b.1 x.e.c.2.1.1)):=⟨my⟩
instance aQH (x:fV.B)[Rb M x.c.2.1.b.1 x.d.c.b.1.1][Rb M x.c.b.1.b.1 x.d.c.b.2.1.1][Rb M x.c.b.2.1.b.1 x.e.1.1][Rb M x.d.1.b.1 x.e.2.1.1][Rb M x.d.2.1.b.1 x.e.b.1.1][Rb M x.d.b.1.b.1 x.e.b.2.1.1]:Mo (eW x) (λx=>Rb M x.1.2.1.b.1 x.b.1.1/\Rb M x.1.b.1.b.1 x.b.2.1.1/\Rb M x.1.b.2.1.b.1 x.c.1.1/\Rb M x.1.c.1.b.1 x.c.2.1.1/\Rb M x.1.c.2.1.b.1 x.c.b.1.1/\Rb M x.1.c.b.1.b.1 x.c.b.2.1.1):=⟨my⟩
instance aNr (d:cI.B)[Rb M d.c.1.b.1 d.d.c.b.2.1.1][Rb M d.c.2.1.b.1 d.e.1.1][Rb M d.c.b.1.b.1 d.e.2.1.1][Rb M d.c.b.2.1.b.1 d.e.b.1.1][Rb M d.d.1.b.1 d.e.b.2.1.1][Rb M d.d.2.1.b.1 d.e.c.1.1]:Mo (gY d) (t8 (λx=>Rb M x.c.1.b.1 x.d.c.b.2.1.1/\Rb M x.c.2.1.b.1 x.e.1.1/\Rb M x.c.b.1.b.1 x.e.2.1.1/\Rb M x.c.b.2.1.b.1 x.e.b.1.1/\Rb M x.d.1.b.1 x.e.b.2.1.1/\Rb M x.d.2.1.b.1 x.e.c.1.1) (λx=>Rb M x.c.1.b.1 x.d.c.b.2.1.1/\Rb M x.c.2.1.b.1 x.e.1.1/\Rb M x.c.b.1.b.1 x.e.2.1.1/\Rb M x.c.b.2.1.b.1 x.e.b.1.1/\Rb M x.d.1.b.1 x.e.b.2.1.1/\Rb M x.d.2.1.b.1 x.e.c.1.1)):=IP (λd=>Rb M d.c.1.b.1 d.d.c.b.2.1.1/\Rb M d.c.2.1.b.1 d.e.1.1/\Rb M d.c.b.1.b.1 d.e.2.1.1/\Rb M d.c.b.2.1.b.1 d.e.b.1.1/\Rb M d.d.1.b.1 d.e.b.2.1.1/\Rb M d.d.2.1.b.1 d.e.c.1.1) (λd h=>by
 obtain⟨_,_,_,_,_,_⟩:=h;exact my) d ⟨inferInstance,inferInstance,inferInstance,inferInstance,inferInstance,inferInstance⟩
instance aNs (d:cJ.B)[Rb M d.b.2.1.b.1 d.d.c.b.1.1][Rb M d.c.1.b.1 d.d.c.b.2.1.1][Rb M d.c.2.1.b.1 d.e.1.1][Rb M d.c.b.1.b.1 d.e.2.1.1][Rb M d.c.b.2.1.b.1 d.e.b.1.1][Rb M d.d.1.b.1 d.e.b.2.1.1]:Mo (cR d) (λx=>Rb M x.c.2.1.b.1 x.d.c.b.1.1/\Rb M x.c.b.1.b.1 x.d.c.b.2.1.1/\Rb M x.c.b.2.1.b.1 x.e.1.1/\Rb M x.d.1.b.1 x.e.2.1.1/\Rb M x.d.2.1.b.1 x.e.b.1.1/\Rb M x.d.b.1.b.1 x.e.b.2.1.1):=⟨my⟩
instance au0 (x:eo.B)[Rb M x.c.2.1.b.1 x.d.c.b.1.1][Rb M x.c.b.1.b.1 x.d.c.b.2.1.1][Rb M x.c.b.2.1.b.1 x.e.1.1][Rb M x.d.1.b.1 x.e.2.1.1][Rb M x.d.2.1.b.1 x.e.b.1.1][Rb M x.d.b.1.b.1 x.e.b.2.1.1]:Mo (bU x) (λx=>Rb M x.c.2.1.b.1 x.d.c.b.1.1/\Rb M x.c.b.1.b.1 x.d.c.b.2.1.1/\Rb M x.c.b.2.1.b.1 x.e.1.1/\Rb M x.d.1.b.1 x.e.2.1.1/\Rb M x.d.2.1.b.1 x.e.b.1.1/\Rb M x.d.b.1.b.1 x.e.b.2.1.1):=⟨my⟩
instance aMZ (d:jj.B)[Rb M d.c.b.1.b.1 d.d.c.b.2.1.1][Rb M d.c.b.2.1.b.1 d.e.1.1][Rb M d.d.1.b.1 d.e.2.1.1][Rb M d.d.2.1.b.1 d.e.b.1.1][Rb M d.d.b.1.b.1 d.e.b.2.1.1][Rb M d.d.b.2.1.b.1 d.e.c.1.1]:Mo (iI d) (λx=>Rb M x.c.b.1.b.1 x.d.c.b.2.1.1/\Rb M x.c.b.2.1.b.1 x.e.1.1/\Rb M x.d.1.b.1 x.e.2.1.1/\Rb M x.d.2.1.b.1 x.e.b.1.1/\Rb M x.d.b.1.b.1 x.e.b.2.1.1/\Rb M x.d.b.2.1.b.1 x.e.c.1.1):=⟨my⟩
instance aQI (x:fW.B)[Rb M x.c.2.1.b.1 x.d.c.b.1.1][Rb M x.c.b.1.b.1 x.d.c.b.2.1.1][Rb M x.c.b.2.1.b.1 x.e.1.1][Rb M x.d.1.b.1 x.e.2.1.1][Rb M x.d.2.1.b.1 x.e.b.1.1][Rb M x.d.b.1.b.1 x.e.b.2.1.1]:Mo (cY x) (λx=>Rb M x.c.1.b.1 x.d.c.2.1.1/\Rb M x.c.2.1.b.1 x.d.c.b.1.1/\Rb M x.c.b.1.b.1 x.d.c.b.2.1.1/\Rb M x.c.b.2.1.b.1 x.e.1.1/\Rb M x.d.1.b.1 x.e.2.1.1/\Rb M x.d.2.1.b.1 x.e.b.1.1):=⟨my⟩
instance aNt (d:j5.B)[Rb M d.c.b.1.b.1 d.d.c.b.2.1.1][Rb M d.c.b.2.1.b.1 d.e.1.1][Rb M d.d.1.b.1 d.e.2.1.1][Rb M d.d.2.1.b.1 d.e.b.1.1][Rb M d.d.b.1.b.1 d.e.b.2.1.1][Rb M d.d.b.2.1.b.1 d.e.c.1.1]:Mo (nr d) (λx=>Rb M x.c.b.1.b.1 x.d.c.b.2.1.1/\Rb M x.c.b.2.1.b.1 x.e.1.1/\Rb M x.d.1.b.1 x.e.2.1.1/\Rb M x.d.2.1.b.1 x.e.b.1.1/\Rb M x.d.b.1.b.1 x.e.b.2.1.1/\Rb M x.d.b.2.1.b.1 x.e.c.1.1):=⟨my⟩
instance aNu (d:eF.B)[Lm M d.b.1.d.b.2.1][Rb M d.c.b.2.1.b.1 d.e.1.1][Rb M d.d.1.b.1 d.e.2.1.1][Rb M d.d.2.1.b.1 d.e.b.1.1][Rb M d.d.b.1.b.1 d.e.b.2.1.1][Rb M d.d.b.2.1.b.1 d.e.c.1.1][Rb M d.d.c.1.b.1 d.e.c.2.1.1]:Mo (nq d) (t8 (λx=>Lm M x.b.1.d.b.1/\Rb M x.c.b.2.1.b.1 x.e.1.1/\Rb M x.d.1.b.1 x.e.2.1.1/\Rb M x.d.2.1.b.1 x.e.b.1.1/\Rb M x.d.b.1.b.1 x.e.b.2.1.1/\Rb M x.d.b.2.1.b.1 x.e.c.1.1/\Rb M x.d.c.1.b.1 x.e.c.2.1.1) (t8 (λx=>Lm M x.b.1.d.b.1/\Rb M x.c.b.2.1.b.1 x.e.1.1/\Rb M x.d.1.b.1 x.e.2.1.1/\Rb M x.d.2.1.b.1 x.e.b.1.1/\Rb M x.d.b.1.b.1 x.e.b.2.1.1/\Rb M x.d.b.2.1.b.1 x.e.c.1.1/\Rb M x.d.c.1.b.1 x.e.c.2.1.1) (t8 (λx=>Lm M x.b.1.d.b.1/\Rb M x.c.b.2.1.b.1 x.e.1.1/\Rb M x.d.1.b.1 x.e.2.1.1/\Rb M x.d.2.1.b.1 x.e.b.1.1/\Rb M x.d.b.1.b.1 x.e.b.2.1.1/\Rb M x.d.b.2.1.b.1 x.e.c.1.1/\Rb M x.d.c.1.b.1 x.e.c.2.1.1) (λx=>Lm M x.b.1.d.b.1/\Rb M x.c.b.2.1.b.1 x.e.1.1/\Rb M x.d.1.b.1 x.e.2.1.1/\Rb M x.d.2.1.b.1 x.e.b.1.1/\Rb M x.d.b.1.b.1 x.e.b.2.1.1/\Rb M x.d.b.2.1.b.1 x.e.c.1.1/\Rb M x.d.c.1.b.1 x.e.c.2.1.1)))):=IP (λd=>Lm M d.b.1.d.b.2.1/\Rb M d.c.b.2.1.b.1 d.e.1.1/\Rb M d.d.1.b.1 d.e.2.1.1/\Rb M d.d.2.1.b.1 d.e.b.1.1/\Rb M d.d.b.1.b.1 d.e.b.2.1.1/\Rb M d.d.b.2.1.b.1 d.e.c.1.1/\Rb M d.d.c.1.b.1 d.e.c.2.1.1) (λd h=>by
 obtain⟨_,_,_,_,_,_,_⟩:=h;exact my) d ⟨inferInstance,inferInstance,inferInstance,inferInstance,inferInstance,inferInstance,inferInstance⟩
instance aTh (x:lU.B)[Lm M x.1.c.1][Rb M x.c.b.1.b.1 x.d.c.b.2.1.1][Rb M x.c.b.2.1.b.1 x.e.1.1][Rb M x.d.1.b.1 x.e.2.1.1][Rb M x.d.2.1.b.1 x.e.b.1.1][Rb M x.d.b.1.b.1 x.e.b.2.1.1][Rb M x.d.b.2.1.b.1 x.e.c.1.1]:Mo (jT x) (t8 (λx=>Rb M x.c.1.b.1 x.d.c.2.1.2.1/\Rb M x.c.2.1.b.1 x.d.c.b.1.2.1/\Rb M x.c.b.1.b.1 x.d.c.b.2.1.2.1/\Rb M x.c.b.2.1.b.1 x.e.1.2.1/\Rb M x.d.1.b.1 x.e.2.1.2.1/\Rb M x.d.2.1.b.1 x.e.b.1.2.1) (λx=>Rb M x.c.2.1.b.1 x.d.c.b.1.1/\Rb M x.c.b.1.b.1 x.d.c.b.2.1.1/\Rb M x.c.b.2.1.b.1 x.e.1.1/\Rb M x.d.1.b.1 x.e.2.1.1/\Rb M x.d.2.1.b.1 x.e.b.1.1/\Rb M x.d.b.1.b.1 x.e.b.2.1.1)):=⟨my⟩
end Go.Proofs.YtldgljclcgaibaaGreat
namespace Go.Proofs.YtldgljclcgaibaaGreat
open Go.Ab Go.Ab.Pg
variable (i0 i1 i2 i3 i4 i5 i6 i7 i8 i9 i10:Int) (n0 n1:Nat) (r0 r1 r2 r3 r4 r5 r6 r7 r8 r9:Nat->Int) (q0 q1:Nat->Bool) (b0 b1 b2:Bool) {vL vd vg va vt:Int} {vq:Nat} {vs:Int×(Int×Int×(Int×Int×Int)×Int×Int×Int)×Bool} {w:Nat->Int}
instance aNv (x:fw.B)[Ek vg x.2.1.1]:Mo (dD x) (λx=>Ek vg x.2.1.1):=⟨my⟩
instance aKd (d:dr.B)[Ek vd d.2.1.1.2.1][Ek vL d.2.1.1.d.1][Ek vg d.b.2.1.1][Ek w d.d.b.2.1.1.c.1]:Mo (lF d) (λx=>Ek vd x.2.1.1.2.1/\Ek vg x.b.2.1.1/\Ek vL x.2.1.1.d.1/\Ek w x.d.b.2.1.1.c.1):=IP (λd=>Ek vd d.2.1.1.2.1/\Ek vL d.2.1.1.d.1/\Ek vg d.b.2.1.1/\Ek w d.d.b.2.1.1.c.1) (λd h=>by
 obtain⟨_,_,_,_⟩:=h;exact my) d ⟨inferInstance,inferInstance,inferInstance,inferInstance⟩
instance aQi (x:gj.B)[Ek vd x.2.1.1.2.1][Ek vL x.2.1.1.d.1][Ek vg x.b.2.1.1][Ek w x.d.b.2.1.1.c.1]:Mo (gW x) (t8 (λx=>Ek vd x.1.1.2.1/\Ek vL x.1.1.d.1) (λx=>Ek vd x.1.1.1.2.1/\Ek vL x.1.1.1.d.1)):=⟨my⟩
instance aHl (x:dO.B)[Ek vd x.1.1.2.1][Ek vL x.1.1.d.1][Ek vg x.b.1.1][Ek w x.d.b.1.1.c.1]:Mo (dP x) (λx=>Ek vd x.2.1.2.1/\Ek vL x.2.1.d.1):=⟨my⟩
instance aHx [Ek w r3]:Mo (fg i0 i1 n0 r0 r1 q0 r2 r3 r4 i2 q1 r5 r6 b0) (λx=>Ek w x.1.c.1):=⟨my⟩
instance aQJ (x:oR.B)[Ek vd x.2.1.1.2.1][Ek vL x.2.1.1.d.1][Ek vg x.c.1.1][Ek w x.d.c.1.1.c.1]:Mo (fT x) (λx=>Ek w x.1.c.1):=⟨my⟩
instance aNw (x:mB.B)[Ek vd x.2.1.1.2.1][Ek vL x.2.1.1.d.1][Ek vg x.b.2.1.1][Ek w x.d.b.2.1.1.c.1]:Mo (bJ x) (λx=>Ek w x.1.c.1):=⟨my⟩
instance aQK (x:mC.B)[Ek vd x.2.1.1.2.1][Ek vL x.2.1.1.d.1][Ek vg x.b.2.1.1][Ek w x.d.b.2.1.1.c.1]:Mo (fU x) (λx=>Ek vd x.1.1.2.1/\Ek vL x.1.1.d.1):=⟨my⟩
instance aQj (x:nm.B)[Ek vd x.2.1.1.2.1][Ek vL x.2.1.1.d.1][Ek vg x.b.2.1.1][Ek w x.d.b.2.1.1.c.1]:Mo (dM x) (λx=>Ek w x.1.c.1):=⟨my⟩
instance aQL (x:ko.B)[Ek vd x.2.1.1.2.1][Ek vL x.2.1.1.d.1][Ek vg x.b.2.1.1][Ek w x.d.b.2.1.1.c.1]:Mo (mD x) (t8 (λx=>Ek vd x.1.1.2.1/\Ek w x.2.1.c.1/\Ek vL x.1.1.d.1) (λx=>Ek vd x.1.1.1.2.1/\Ek w x.1.2.1.c.1/\Ek vL x.1.1.1.d.1)):=⟨my⟩
instance aQM (x:kp.B)[Ek vd x.2.1.1.2.1][Ek vL x.2.1.1.d.1][Ek vg x.b.2.1.1][Ek w x.d.b.2.1.1.c.1]:Mo (mE x) (λx=>Ek vd x.1.1.2.1/\Ek vL x.1.1.d.1):=⟨my⟩
instance aQN (x:kn.B)[Ek vd x.2.1.1.2.1][Ek vL x.2.1.1.d.1][Ek vg x.c.1.1][Ek w x.d.c.1.1.c.1]:Mo (dx x) (λx=>Ek vd x.2.1.1.1.2.1/\Ek w x.2.1.2.1.c.1/\Ek vL x.2.1.1.1.d.1):=⟨my⟩
instance aNx (x:jY.B)[Ek vd x.2.1.1.2.1][Ek vL x.2.1.1.d.1][Ek vg x.c.1.1][Ek w x.d.c.1.1.c.1]:Mo (eB x) (λx=>Ek vd x.1.2.1/\Ek vL x.1.d.1):=⟨my⟩
instance aD6 [Ek w r3]:Mo (fu b0 i0 i1 b1 i2 i3 r0 r1 q0 r2 r3 r4 i4) (λx=>Ek w x.1.c.1):=⟨my⟩
instance aHy (x:fh.B)[Ek vd x.2.1.1.2.1][Ek vL x.2.1.1.d.1][Ek vg x.b.2.1.1][Ek w x.d.b.2.1.1.c.1]:Mo (gB x) (t8 (λx=>Ek vd x.1.1.1.2.1/\Ek w x.1.2.1.c.1/\Ek vL x.1.1.1.d.1) (λx=>Ek vd x.1.1.2.1/\Ek w x.2.1.c.1/\Ek vL x.1.1.d.1)):=⟨my⟩
instance aKe (x:gk.B)[Ek vd x.2.1.1.2.1][Ek vL x.2.1.1.d.1][Ek vg x.b.2.1.1][Ek w x.d.b.2.1.1.c.1]:Mo (iA x) (λx=>Ek vd x.1.1.2.1/\Ek w x.2.1.c.1/\Ek vL x.1.1.d.1):=⟨my⟩
instance aNy (x:iC.B)[Ek vd x.2.1.1.2.1][Ek vL x.2.1.1.d.1][Ek vg x.b.2.1.1][Ek w x.d.b.2.1.1.c.1]:Mo (jZ x) (λx=>Ek vd x.1.1.2.1/\Ek w x.2.1.c.1/\Ek vL x.1.1.d.1):=⟨my⟩
instance aKf (x:gm.B)[Ek vd x.2.1.1.2.1][Ek vL x.2.1.1.d.1][Ek vg x.b.2.1.1][Ek w x.d.b.2.1.1.c.1]:Mo (iB x) (λx=>Ek vd x.1.1.2.1/\Ek w x.2.1.c.1/\Ek vL x.1.1.d.1):=⟨my⟩
instance aQO (x:kq.B)[Ek vd x.2.1.1.2.1][Ek vL x.2.1.1.d.1][Ek vg x.b.2.1.1][Ek w x.d.b.2.1.1.c.1]:Mo (mF x) (λx=>Ek vd x.1.1.2.1/\Ek w x.2.1.c.1/\Ek vL x.1.1.d.1):=⟨my⟩
instance aTi (x:lQ.B)[Ek vd x.2.1.1.2.1][Ek vL x.2.1.1.d.1][Ek vg x.b.2.1.1][Ek w x.d.b.2.1.1.c.1]:Mo (nG x) (t8 (λx=>Ek vd x.1.1.2.1/\Ek w x.2.1.c.1/\Ek vL x.1.1.d.1) (λx=>Ek vd x.1.1.1.2.1/\Ek w x.1.2.1.c.1/\Ek vL x.1.1.1.d.1)):=⟨my⟩
instance aM0 (d:bI.B)[Ek vd d.2.1.1.2.1][Ek vL d.2.1.1.d.1][Ek vg d.b.2.1.1][Ek w d.d.b.2.1.1.c.1]:Mo (gD d) (λx=>Ek vd x.2.1.1.2.1/\Ek vg x.b.2.1.1/\Ek vL x.2.1.1.d.1/\Ek w x.d.b.2.1.1.c.1):=IP (λd=>Ek vd d.2.1.1.2.1/\Ek vL d.2.1.1.d.1/\Ek vg d.b.2.1.1/\Ek w d.d.b.2.1.1.c.1) (λd h=>by
 obtain⟨_,_,_,_⟩:=h;exact my) d ⟨inferInstance,inferInstance,inferInstance,inferInstance⟩
instance aM1 (d:cz.B)[Ek vd d.2.1.1.2.1][Ek vL d.2.1.1.d.1][Ek vg d.b.2.1.1][Ek w d.d.b.2.1.1.c.1]:Mo (iF d) (λx=>Ek vd x.2.1.1.2.1/\Ek vg x.b.2.1.1/\Ek vL x.2.1.1.d.1/\Ek w x.d.b.2.1.1.c.1):=IP (λd=>Ek vd d.2.1.1.2.1/\Ek vL d.2.1.1.d.1/\Ek vg d.b.2.1.1/\Ek w d.d.b.2.1.1.c.1) (λd h=>by
 obtain⟨_,_,_,_⟩:=h;exact my) d ⟨inferInstance,inferInstance,inferInstance,inferInstance⟩
instance aM2 (d:cy.B)[Ek vd d.2.1.1.2.1][Ek vL d.2.1.1.d.1][Ek vg d.b.2.1.1][Ek w d.d.b.2.1.1.c.1][Ek vL d.d.c.b.2.1.d.1]:Mo (gE d) (λx=>Ek vd x.2.1.1.2.1/\Ek vg x.b.2.1.1/\Ek vL x.2.1.1.d.1/\Ek w x.d.b.2.1.1.c.1/\Ek vL x.d.c.b.2.1.d.1):=IP (λd=>Ek vd d.2.1.1.2.1/\Ek vL d.2.1.1.d.1/\Ek vg d.b.2.1.1/\Ek w d.d.b.2.1.1.c.1/\Ek vL d.d.c.b.2.1.d.1) (λd h=>by
 obtain⟨_,_,_,_,_⟩:=h;exact my) d ⟨inferInstance,inferInstance,inferInstance,inferInstance,inferInstance⟩
instance aM3 (d:de.B)[Ek vd d.1.1.2.1][Ek vL d.1.1.d.1][Ek vg d.b.1.1][Ek w d.d.b.1.1.c.1]:Mo (fA d) (t8 (λx=>Ek vd x.2.1.1.2.1/\Ek vg x.b.2.1.1/\Ek vL x.2.1.1.d.1/\Ek w x.d.b.2.1.1.c.1) (λx=>Ek vd x.2.1.1.2.1/\Ek vg x.b.2.1.1/\Ek vL x.2.1.1.d.1/\Ek w x.d.b.2.1.1.c.1)):=⟨my⟩
instance aM4 (d:dg.B)[Ek vd d.1.1.2.1][Ek vL d.1.1.d.1][Ek vg d.b.1.1][Ek w d.d.b.1.1.c.1][Ek vL d.d.c.b.1.d.2.1]:Mo (eD d) (t8 (λx=>Ek vd x.2.1.1.2.1/\Ek vg x.b.2.1.1/\Ek vL x.2.1.1.d.1/\Ek w x.d.b.2.1.1.c.1) (λx=>Ek vd x.2.1.1.2.1/\Ek vg x.b.2.1.1/\Ek vL x.2.1.1.d.1/\Ek w x.d.b.2.1.1.c.1)):=⟨my⟩
instance aM5 (d:dh.B)[Ek vd d.1.1.2.1][Ek vL d.1.1.d.1][Ek vg d.b.1.1][Ek w d.d.b.1.1.c.1]:Mo (eE d) (t8 (λx=>Ek vd x.2.1.1.2.1/\Ek vg x.b.2.1.1/\Ek vL x.2.1.1.d.1/\Ek w x.d.b.2.1.1.c.1) (λx=>Ek vd x.2.1.1.2.1/\Ek vg x.b.2.1.1/\Ek vL x.2.1.1.d.1/\Ek w x.d.b.2.1.1.c.1)):=⟨my⟩
instance aQP (x:fV.B)[Ek vd x.2.1.1.2.1][Ek vL x.2.1.1.d.1][Ek vg x.b.2.1.1][Ek w x.d.b.2.1.1.c.1]:Mo (eW x) (λx=>Ek vd x.1.1.1.2.1/\Ek vL x.1.1.1.d.1/\Ek w x.1.c.b.2.1.1.c.1):=⟨my⟩
instance aNz (d:cI.B)[Ek vd d.2.1.1.2.1][Ek vL d.2.1.1.d.1][Ek vg d.b.2.1.1][Ek w d.d.b.1.1.c.1]:Mo (gY d) (t8 (λx=>Ek vg x.b.2.1.1/\Ek vd x.1.c.b.2.1/\Ek vL x.2.1.1.c.b.2.1/\Ek w x.d.b.1.1.c.1) (λx=>Ek vd x.2.1.1.2.1/\Ek vg x.b.2.1.1/\Ek vL x.2.1.1.d.1/\Ek w x.d.b.1.1.c.1)):=IP (λd=>Ek vd d.2.1.1.2.1/\Ek vL d.2.1.1.d.1/\Ek vg d.b.2.1.1/\Ek w d.d.b.1.1.c.1) (λd h=>by
 obtain⟨_,_,_,_⟩:=h;exact my) d ⟨inferInstance,inferInstance,inferInstance,inferInstance⟩
instance aNA (d:cJ.B)[Ek vd d.1.1.2.1][Ek vL d.1.1.d.1][Ek vg d.b.1.1][Ek w d.d.2.1.1.c.1]:Mo (cR d) (λx=>Ek vd x.2.1.1.2.1/\Ek vg x.b.2.1.1/\Ek vL x.2.1.1.d.1/\Ek w x.d.b.2.1.1.c.1):=⟨my⟩
instance au1 (x:eo.B)[Ek vd x.2.1.1.2.1][Ek vL x.2.1.1.d.1][Ek vg x.b.2.1.1][Ek w x.d.b.2.1.1.c.1]:Mo (bU x) (λx=>Ek vd x.2.1.1.2.1/\Ek vg x.b.2.1.1/\Ek vL x.2.1.1.d.1/\Ek w x.d.b.2.1.1.c.1):=⟨my⟩
instance aKg (x:gu.B)[Ek vd x.2.1.1.2.1][Ek vL x.2.1.1.d.1][Ek vg x.b.2.1.1][Ek w x.d.b.2.1.1.c.1]:Mo (dJ x) (λx=>Ek vd x.2.1.1.2.1/\Ek vg x.b.2.1.1/\Ek vL x.2.1.1.d.1/\Ek w x.d.b.2.1.1.c.1):=⟨my⟩
instance aM6 (d:jj.B)[Ek vd d.b.1.1.2.1][Ek vL d.b.1.1.d.1][Ek vg d.c.1.1][Ek w d.d.c.1.1.c.1]:Mo (iI d) (λx=>Ek vd x.b.1.1.2.1/\Ek vg x.c.1.1/\Ek vL x.b.1.1.d.1/\Ek w x.d.c.1.1.c.1):=⟨my⟩
instance aqH (x:fW.B)[Ek vd x.2.1.1.2.1][Ek vL x.2.1.1.d.1][Ek vg x.b.2.1.1][Ek w x.d.b.2.1.1.c.1]:Mo (cY x) (λx=>Ek vg x.b.1.1/\Ek vd x.1.2.1.2.1/\Ek vL x.1.2.1.d.1/\Ek w x.d.b.1.1.c.1):=⟨my⟩
instance aNB (d:j5.B)[Ek vd d.b.1.1.2.1][Ek vL d.b.1.1.d.1][Ek vg d.c.1.1][Ek w d.d.c.1.1.c.1]:Mo (nr d) (λx=>Ek vd x.b.1.1.2.1/\Ek vg x.c.1.1/\Ek vL x.b.1.1.d.1/\Ek w x.d.c.1.1.c.1):=⟨my⟩
instance aNC (d:eF.B)[Ek vd d.b.2.1.1.2.1][Ek vL d.b.2.1.1.d.1][Ek vg d.c.2.1.1][Ek w d.d.c.2.1.1.c.1]:Mo (nq d) (t8 (λx=>Ek vd x.b.2.1.1.2.1/\Ek vg x.c.2.1.1/\Ek vL x.b.2.1.1.d.1/\Ek w x.d.c.2.1.1.c.1) (t8 (λx=>Ek vd x.b.2.1.1.2.1/\Ek vg x.c.2.1.1/\Ek vL x.b.2.1.1.d.1/\Ek w x.d.c.2.1.1.c.1) (t8 (λx=>Ek vd x.b.2.1.1.2.1/\Ek vg x.c.2.1.1/\Ek vL x.b.2.1.1.d.1/\Ek w x.d.c.2.1.1.c.1) (λx=>Ek vd x.b.2.1.1.2.1/\Ek vg x.c.2.1.1/\Ek vL x.b.2.1.1.d.1/\Ek w x.d.c.2.1.1.c.1)))):=IP (λd=>Ek vd d.b.2.1.1.2.1/\Ek vL d.b.2.1.1.d.1/\Ek vg d.c.2.1.1/\Ek w d.d.c.2.1.1.c.1) (λd h=>by
 obtain⟨_,_,_,_⟩:=h;exact my) d ⟨inferInstance,inferInstance,inferInstance,inferInstance⟩
instance aTj (x:lU.B)[Ek vd x.b.1.1.2.1][Ek vL x.b.1.1.d.1][Ek vg x.c.1.1][Ek w x.d.c.1.1.c.1]:Mo (jT x) (t8 (λx=>Ek vg x.b.1.1/\Ek vd x.1.2.1.2.1/\Ek vL x.1.2.1.d.1/\Ek w x.d.b.1.1.c.1) (λx=>Ek vd x.2.1.1.2.1/\Ek vg x.b.2.1.1/\Ek vL x.2.1.1.d.1/\Ek w x.d.b.2.1.1.c.1)):=⟨my⟩
instance aHz (d:dr.B)[Ek vq d.1.1][Ek vq d.2.1.c.1]:Mo (lF d) (λx=>Ek vq x.1.1/\Ek vq x.2.1.c.1):=IP (λd=>Ek vq d.1.1/\Ek vq d.2.1.c.1) (λd h=>by
 obtain⟨_,_⟩:=h;exact my) d ⟨inferInstance,inferInstance⟩
instance aM7 (x:gj.B)[Ek vq x.2.1.c.1]:Mo (gW x) (t8 (λx=>Ek vq x.1.c.1) (λx=>Ek vq x.1.1.c.1)):=⟨my⟩
instance aDG (x:dO.B)[Ek vq x.1.c.1]:Mo (dP x) (λx=>Ek vq x.c.2.1):=⟨my⟩
instance aND (x:mC.B)[Ek vq x.2.1.c.1]:Mo (fU x) (λx=>Ek vq x.1.c.1):=⟨my⟩
instance aNE (x:ko.B)[Ek vq x.2.1.c.1]:Mo (mD x) (t8 (λx=>Ek vq x.1.c.1) (λx=>Ek vq x.1.1.c.1)):=⟨my⟩
instance aNF (x:kp.B)[Ek vq x.2.1.c.1]:Mo (mE x) (λx=>Ek vq x.1.c.1):=⟨my⟩
instance aNG (x:kn.B)[Ek vq x.2.1.c.1]:Mo (dx x) (λx=>Ek vq x.2.1.1.c.1):=⟨my⟩
instance aKh (x:jY.B)[Ek vq x.2.1.c.1]:Mo (eB x) (λx=>Ek vq x.c.1):=⟨my⟩
instance aD7 (x:fh.B)[Ek vq x.2.1.c.1]:Mo (gB x) (t8 (λx=>Ek vq x.1.1.c.1) (λx=>Ek vq x.1.c.1)):=⟨my⟩
instance aHA (x:gk.B)[Ek vq x.2.1.c.1]:Mo (iA x) (λx=>Ek vq x.1.c.1):=⟨my⟩
instance aKi (x:iC.B)[Ek vq x.2.1.c.1]:Mo (jZ x) (λx=>Ek vq x.1.c.1):=⟨my⟩
instance aHB (x:gm.B)[Ek vq x.2.1.c.1]:Mo (iB x) (λx=>Ek vq x.1.c.1):=⟨my⟩
instance aNH (x:kq.B)[Ek vq x.2.1.c.1]:Mo (mF x) (λx=>Ek vq x.1.c.1):=⟨my⟩
instance aQk (x:lQ.B)[Ek vq x.2.1.c.1]:Mo (nG x) (t8 (λx=>Ek vq x.1.c.1) (λx=>Ek vq x.1.1.c.1)):=⟨my⟩
instance aIJ (d:bI.B)[Ek vq d.2.1.c.1][Ek vq d.c.1.1]:Mo (gD d) (λx=>Ek vq x.c.1.1/\Ek vq x.2.1.c.1):=IP (λd=>Ek vq d.2.1.c.1/\Ek vq d.c.1.1) (λd h=>by
 obtain⟨_,_⟩:=h;exact my) d ⟨inferInstance,inferInstance⟩
instance aIK (d:cz.B)[Ek vq d.2.1.c.1][Ek vq d.c.1.1]:Mo (iF d) (λx=>Ek vq x.c.1.1/\Ek vq x.2.1.c.1):=IP (λd=>Ek vq d.2.1.c.1/\Ek vq d.c.1.1) (λd h=>by
 obtain⟨_,_⟩:=h;exact my) d ⟨inferInstance,inferInstance⟩
instance aIL (d:cy.B)[Ek vq d.2.1.c.1][Ek vq d.c.1.1]:Mo (gE d) (λx=>Ek vq x.c.1.1/\Ek vq x.2.1.c.1):=IP (λd=>Ek vq d.2.1.c.1/\Ek vq d.c.1.1) (λd h=>by
 obtain⟨_,_⟩:=h;exact my) d ⟨inferInstance,inferInstance⟩
instance aIM (d:de.B)[Ek vq d.1.c.1][Ek vq d.b.2.1.1]:Mo (fA d) (t8 (λx=>Ek vq x.2.1.b.2.1/\Ek vq x.c.1.1) (λx=>Ek vq x.c.1.1/\Ek vq x.2.1.c.1)):=⟨my⟩
instance aIN (d:dg.B)[Ek vq d.1.c.1][Ek vq d.b.2.1.1]:Mo (eD d) (t8 (λx=>Ek vq x.2.1.b.2.1/\Ek vq x.c.1.1) (λx=>Ek vq x.c.1.1/\Ek vq x.2.1.c.1)):=⟨my⟩
instance aIO (d:dh.B)[Ek vq d.1.c.1][Ek vq d.b.2.1.1]:Mo (eE d) (t8 (λx=>Ek vq x.2.1.b.2.1/\Ek vq x.c.1.1) (λx=>Ek vq x.c.1.1/\Ek vq x.2.1.c.1)):=⟨my⟩
instance xU (x:fV.B)[Ek vq x.2.1.c.1]:Mo (eW x) (λx=>Ek vq x.1.1.c.1):=⟨my⟩
instance aHC (d:dr.B)[Ek vL d.2.1.1.d.1][Ek va d.2.1.d.b.1][Ek vt d.2.1.d.b.2.1][Ek vq d.2.1.d.c.2.2]:Mo (lF d) (λx=>Ek vL x.2.1.1.d.1/\Ek va x.2.1.d.b.1/\Ek vt x.2.1.d.b.2.1/\Ek vq x.2.1.d.c.2.2):=IP (λd=>Ek vL d.2.1.1.d.1/\Ek va d.2.1.d.b.1/\Ek vt d.2.1.d.b.2.1/\Ek vq d.2.1.d.c.2.2) (λd h=>by
 obtain⟨_,_,_,_⟩:=h;exact my) d ⟨inferInstance,inferInstance,inferInstance,inferInstance⟩
instance ai0 (x:gj.B)[Ek vL x.2.1.1.d.1][Ek va x.2.1.d.c.1][Ek vt x.2.1.d.c.2.1][Ek vq x.2.1.d.c.b.2.2]:Mo (gW x) (t8 (λx=>Ek vL x.1.1.d.1/\Ek va x.1.d.c.1/\Ek vt x.1.d.c.2.1/\Ek vq x.1.d.c.b.2.2) (λx=>Ek vL x.1.1.1.d.1/\Ek va x.1.1.d.b.1/\Ek vt x.1.1.d.b.2.1/\Ek vq x.1.1.d.c.2.2)):=⟨my⟩
instance aKj (d:cI.B)[Ek vs d.b.2.1]:Mo (gY d) (t8 (λx=>Ek vs x.b.2.1) (λx=>Ek vs x.b.2.1)):=IP (λd=>Ek vs d.b.2.1) (λd _=>my) d inferInstance
instance af9 (d:cJ.B)[Ek vs d.b.1]:Mo (cR d) (λx=>Ek vs x.b.2.1):=⟨my⟩
end Go.Proofs.YtldgljclcgaibaaGreat
namespace Go.Proofs.YtldgljclcgaibaaGreat
open Go.Ab Go.Ab.Pg
theorem aUv (x:vY.B):Po (sQ x) (λd:Rn=>d.1.1=x.1.2.1/\d.1.2.1=wI (x.1.1.2.1+x.1.b.1)):=by
 unfold sQ D9;try dsimp only
 show PW _ _;rw[dA];intro _ _;rw[dA];intro _ _;rw[aR];exact⟨rfl,rfl⟩
theorem a1y (x0 x1 x2 x3 x4 x5 x6 x7:Int):Po (jQ x0 x1 x2 x3 x4 x5 x6 x7) (λr:IF=>r=true->1<=x1/\x1<=100000):=by
 unfold jQ Au;show PW _ _
 refine bB (WR (s:=_) (λd:ib.B=>d.2.2.1=x1) (λx:qO=>match x with|.inl _=>True|.inr e=>e.2.2.1=x1) (λd hd=>by
  unfold yK;try dsimp only
  try dsimp only
  repeat' (first
  |(rw[kD];exact trivial)
  |(rw[ij];refine⟨λa ha=> ?_,λa ha=> ?_⟩<;>subst ha)
  |(rw[qR];refine⟨λa ha=> ?_,λa ha=> ?_⟩<;>subst ha)
  |(rw[aZ];refine⟨λc=> ?_,λc=> ?_⟩)
  |(rw[dA];intro _ _))
  all_goals (rw[aR];first|exact trivial|exact hd)) 2000 _ rfl) λy _ hy=> ?_
 repeat' (first
  |(rw[kD];exact trivial)
  |(rw[ij];refine⟨λa ha=> ?_,λa ha=> ?_⟩<;>subst ha)
  |(rw[qR];refine⟨λa ha=> ?_,λa ha=> ?_⟩<;>subst ha)
  |(rw[aZ];refine⟨λc=> ?_,λc=> ?_⟩)
  |(rw[dA];intro _ _))
 all_goals
  rw[aR];first
  |(intro h;exact Bool.noConfusion h)
  |(intro _
    have hy:a.2.2.1=x1:=hy;simp only[mf] at*;omega)
theorem apt (x:fw.B):Po (dD x) (λe:pe=>(e.1.2.1=true->e.1.1.1=x.1.1/\e.1.2.2=0/\e.2.1.2.1.2.1=0)/\e.2.1.1=x.2.1.1/\(e.1.2.2=0->e.2.1.2.1.1=x.1.1/\e.2.1.2.2=true/\(0<=x.2.1.2.1.2.1->x.2.1.2.1.2.1<=100000->x.2.1.1<=100000->0<=e.2.1.2.1.2.1/\e.2.1.2.1.2.1<=100000))/\(e.1.2.2≠0->e.2.1=x.2.1)):=by
 unfold dD jX;try dsimp only
 show PW _ _;try dsimp only
 refine bB (a1y _ _ _ _ _ _ _ _) λg _ hg=> ?_;rw[aZ];refine⟨λc=>by rw[aR];exact⟨λh=>Bool.noConfusion (show false=true from h),rfl,λh=>absurd (show(1:Int)=0 from h) (by decide),λ_=>rfl⟩,λc=> ?_⟩;have hg:=hg (by cases g<;>first|rfl|cases c)
 repeat' (first
  |(with_reducible refine bB (aUv _) λd _ hd=> ?_)
  |(rw[kD];exact trivial)
  |(rw[ij];refine⟨λa ha=> ?_,λa ha=> ?_⟩<;>subst ha)
  |(rw[qR];refine⟨λa ha=> ?_,λa ha=> ?_⟩<;>subst ha)
  |(rw[aZ];refine⟨λc=> ?_,λc=> ?_⟩)
  |(rw[dA];intro _ _))
 all_goals
  rw[aR];first
  |exact⟨λh=>Bool.noConfusion (show false=true from h),rfl,λh=>absurd (show(1:Int)=0 from h) (by decide),λ_=>rfl⟩
  |exact⟨λ_=>⟨hd.1,rfl,rfl⟩,rfl,λ_=>⟨rfl,rfl,λ_ _ _=>⟨(show(0:Int)<=0 by decide),(show(0:Int)<=100000 by decide)⟩⟩,λh=>absurd (show(0:Int)=0 from rfl) h⟩
  |(refine⟨λh=>Bool.noConfusion (show false=true from h),rfl,λ_=>⟨hd.1,rfl,λp0 p1 p2=> ?_⟩,λh=>absurd (show(0:Int)=0 from rfl) h⟩
    have h2:d.1.2.1=wI (x.2.1.2.1.2.1+x.1.2.1):=hd.2;rw[fS (by omega) (by omega)] at h2;have c:=eK c;show 0<=d.1.2.1/\d.1.2.1<=100000;omega)
theorem a23 (B:Int)(w:Nat->Int):∀(d:cI.B) (hd:(∀i,i<d.2.1.2.2.2.2.1.2->Bd B (d.2.2.2.2.2.2.2.2.2.2.2.2.2.1.2.1 (d.2.1.2.2.2.2.1.1+i)))/\Bd B d.2.1.2.2.2.2.2.2.2.2.2.2.2.2.1/\Lb B d.2.2.2.2.2.2.2.2.2.2.1.1.1/\d.2.2.2.2.2.2.2.2.2.2.1.1.2.2.2.2.1=w),Po (gY d) (λx:gX=>match x with|.inl e=>Bd B e.2.1.2.2.2.2.2.2.2.2.2.2.2.1/\Lb B e.2.2.2.2.2.2.2.2.2.2.1.1.1/\e.2.2.2.2.2.2.2.2.2.2.1.1.2.2.2.2.1=w|.inr e=>Bd B e.2.1.2.2.2.2.2.2.2.2.2.2.2.1/\Lb B e.2.2.2.2.2.2.2.2.2.2.1.1.1/\e.2.2.2.2.2.2.2.2.2.2.1.1.2.2.2.2.1=w):=
 Dh (λd hd=>by
  obtain⟨hr,ha,hl,hw⟩:=hd;unfold ly;dsimp only;rw[aZ];refine⟨λc0=> ?_,λ_=>by rw[aR];exact⟨ha,hl,hw⟩⟩;have c0:=eK c0;rw[dQ] at c0;rw[cU];intro _;rw[aZ];refine⟨λc1=> ?_,λ_=>by rw[aR];exact⟨ha,hl,hw⟩⟩;have ht:Bd B (d.2.2.2.2.2.2.2.2.2.2.2.2.2.1.2.1 (d.2.1.2.2.2.2.1.1+0)):=hr 0 (by omega)
  repeat' (first
   |(rw[kD];exact trivial)
   |(rw[cU];intro _))
  rw[dA];intro e he;have k1:=(@aqu B w _ ⟨ht⟩ ⟨ha⟩ ⟨hl⟩ ⟨hw⟩).h e he;have k2:=(@xU (d.2.1.2.2.2.2.1.2-1) _ ⟨rfl⟩).h e he;have k2:e.1.1.2.2.2.2.1=d.2.1.2.2.2.2.1.2-1:=k2.h;rw[aR];refine⟨λi hi=> ?_,?_,?_,?_⟩
  .have hi:i<e.1.1.2.2.2.2.1:=hi;show Bd B (d.2.2.2.2.2.2.2.2.2.2.2.2.2.1.2.1 (d.2.1.2.2.2.2.1.1+1+0+i));have:=hr (1+i) (by omega);rw[show d.2.1.2.2.2.2.1.1+1+0+i=d.2.1.2.2.2.2.1.1+(1+i) by omega];exact this
  .exact k1.2.1.h
  .exact k1.1.h
  .exact k1.2.2.1.h)
theorem aZZ (x0 x1 x2 x3 x4 x5 x6 x7:Int):Po (jQ x0 x1 x2 x3 x4 x5 x6 x7) (λr:IF=>r=true->0<=x0/\x0<=1125899906842624):=by
 unfold jQ Au;show PW _ _
 refine bB (WR (s:=_) (λd:ib.B=>d.2.1=x0) (λx:qO=>match x with|.inl _=>True|.inr e=>e.2.1=x0) (λd hd=>by
  unfold yK;try dsimp only
  try dsimp only
  repeat' (first
  |(rw[kD];exact trivial)
  |(rw[ij];refine⟨λa ha=> ?_,λa ha=> ?_⟩<;>subst ha)
  |(rw[qR];refine⟨λa ha=> ?_,λa ha=> ?_⟩<;>subst ha)
  |(rw[aZ];refine⟨λc=> ?_,λc=> ?_⟩)
  |(rw[dA];intro _ _))
  all_goals (rw[aR];first|exact trivial|exact hd)) 2000 _ rfl) λy _ hy=> ?_
 repeat' (first
  |(rw[kD];exact trivial)
  |(rw[ij];refine⟨λa ha=> ?_,λa ha=> ?_⟩<;>subst ha)
  |(rw[qR];refine⟨λa ha=> ?_,λa ha=> ?_⟩<;>subst ha)
  |(rw[aZ];refine⟨λc=> ?_,λc=> ?_⟩)
  |(rw[dA];intro _ _))
 all_goals
  rw[aR];first
  |(intro h;exact Bool.noConfusion h)
  |(intro q
    have q:=eK q;have hy:a.2.1=x0:=hy;simp only[mf] at*;omega)
theorem a1z (x:fw.B):Po (dD x) (λe:pe=>e.1.2.2=0->0<=x.1.1/\x.1.1<=1125899906842624/\(x.2.1.2.2=true->x.2.1.2.1.1<x.1.1)):=by
 unfold dD jX;try dsimp only
 show PW _ _;try dsimp only
 refine bB (aZZ _ _ _ _ _ _ _ _) λg _ hg=> ?_;rw[aZ];refine⟨λc=>by rw[aR];exact λh=>absurd (show(1:Int)=0 from h) (by decide),λc=> ?_⟩;have hg:=hg (by cases g<;>first|rfl|cases c);rw[aZ];refine⟨λc1=> ?_,λc1=> ?_⟩
 .rw[aZ];refine⟨λ_=>by rw[aR];exact λh=>absurd (show(1:Int)=0 from h) (by decide),λc2=> ?_⟩;have c2:=pP c2;have key:0<=x.1.1/\x.1.1<=1125899906842624/\(x.2.1.2.2=true->x.2.1.2.1.1<x.1.1):=⟨hg.1,hg.2,λ_=>by omega⟩;repeat' (first
  |(rw[kD];exact trivial)
  |(rw[ij];refine⟨λa ha=> ?_,λa ha=> ?_⟩<;>subst ha)
  |(rw[qR];refine⟨λa ha=> ?_,λa ha=> ?_⟩<;>subst ha)
  |(rw[aZ];refine⟨λc=> ?_,λc=> ?_⟩)
  |(rw[dA];intro _ _))
  all_goals (rw[aR];exact λ_=>key)
 .have key:0<=x.1.1/\x.1.1<=1125899906842624/\(x.2.1.2.2=true->x.2.1.2.1.1<x.1.1):=⟨hg.1,hg.2,λh=>by rw[h] at c1;cases c1⟩;repeat' (first
  |(rw[kD];exact trivial)
  |(rw[ij];refine⟨λa ha=> ?_,λa ha=> ?_⟩<;>subst ha)
  |(rw[qR];refine⟨λa ha=> ?_,λa ha=> ?_⟩<;>subst ha)
  |(rw[aZ];refine⟨λc=> ?_,λc=> ?_⟩)
  |(rw[dA];intro _ _))
  all_goals (rw[aR];exact λ_=>key)
theorem aZ0 (x:eo.B):Po (bU x) (λe:gH=>e.b.2.1.1=x.b.2.1.1/\(e.1.2=0->e.b.2.1.2.1.1=x.1.1/\e.b.2.1.2.2=true/\(0<=x.b.2.1.2.1.2.1->x.b.2.1.2.1.2.1<=100000->x.b.2.1.1<=100000->0<=e.b.2.1.2.1.2.1/\e.b.2.1.2.1.2.1<=100000))/\(e.1.2≠0->e.b.2.1=x.b.2.1)/\(e.1.2=0->0<=x.1.1/\x.1.1<=1125899906842624/\(x.b.2.1.2.2=true->x.b.2.1.2.1.1<x.1.1))):=by
 unfold bU jR;try dsimp only
 show PW _ _;try dsimp only
 refine bB ((apt _).and (a1z _)) λd _ hd=> ?_;obtain⟨⟨d1,d2,d3,d4⟩,d5⟩:=hd;rw[aZ];refine⟨λc=> ?_,λc=> ?_⟩
 .rw[aR];exact⟨d2,d3,d4,d5⟩
 have e0:d.1.2.2=0:=by
  have c:(!(d.1.2.2==0))=false:=c;rw[agq] at c;exact eq_of_beq c
 rw[aZ];refine⟨λ_=>by rw[aR];exact⟨d2,d3,d4,d5⟩,λ_=> ?_⟩
 have key:∀y:cJ.B,y.b.1=d.2.1->Po (cR y) (λe:eY=>e.b.2.1=d.2.1):=by
  intro y hy;haveI:Ek d.2.1 y.b.1:=⟨hy⟩
  exact(af9 (vs:=d.2.1) y).h.mono λe h=>h.h
 repeat' (first
  |(rw[kD];exact trivial)
  |(with_reducible refine bB (key _ ?_) λy _ hy=> ?_)
  |(rw[qR];refine⟨λ_ _=> ?_,λ_ _=> ?_⟩)
  |(rw[aZ];refine⟨λ_=> ?_,λ_=> ?_⟩)
  |(rw[dA];intro _ _))
 all_goals first
  |rfl
  |(rw[aR]
    have hy:y.b.2.1=d.2.1:=hy;have g:=d3 e0;refine⟨?_,λ_=> ?_,λh=>absurd (show(0:Int)=0 from rfl) h,λ_=>d5 e0⟩
    .show y.b.2.1.1=x.b.2.1.1;rw[hy];exact d2
    .show y.b.2.1.2.1.1=x.1.1/\y.b.2.1.2.2=true/\_;rw[hy];exact g)
theorem aTk (k t:Int)(r0 r1:Nat->Int)(q:Nat->Bool)(r2 r3 r4:Nat->Int)(v B:Int)(hl:Lb B r0)(ht:∀j,j<6->r3 j=10000)(h:B+10000<t)(hB:t<=4000000000000000):Po (gy k t r0 r1 q r2 r3 r4 v) (λr:sM=>r=false):=by
 unfold gy sN;show PW _ _;try dsimp only
 rw[dA];intro g _;rw[aZ];refine⟨λ_=> ?_,λ_=>by rw[aR]⟩;rw[cU];intro c6;rw[cx] at c6;have k6:ws k<6:=by omega
 rw[cU];intro _;have hk:=hl (ws k);refine bB (R:=λr:o9=>r=false) ?_ λd _ hd=>by rw[aR];exact hd
 unfold du pd;show PW _ _;refine bB (R:=λr:xO=>r=false) ?_ λd _ hd=>by rw[hd,aZ];exact⟨λc=>Bool.noConfusion c,λ_=>by rw[aR]⟩
 unfold lD rq;show PW _ _;try dsimp only
 rw[aZ];refine⟨λ_=>by rw[aR],λ_=> ?_⟩;rw[aZ];refine⟨λ_=> ?_,λc=>absurd (pP c) (by omega)⟩;rw[aZ];refine⟨λ_=> ?_,λ_=>by rw[aR]⟩;rw[aR,ht _ k6];have e1:wU t=t:=by rw[show wU t=(t)%18446744073709551616 from wrap_u64 _];omega
 have e2:wU (r0 (ws k))=r0 (ws k):=by rw[show wU (r0 (ws k))=(r0 (ws k))%18446744073709551616 from wrap_u64 _];omega
 have e3:wU (t-r0 (ws k))=t-r0 (ws k):=by rw[show wU (t-r0 (ws k))=(t-r0 (ws k))%18446744073709551616 from wrap_u64 _];omega
 have e4:wU 10000=10000:=by rw[show wU 10000=(10000)%18446744073709551616 from wrap_u64 _];omega
 rw[e1,e2,e3,e4];exact dw (by omega)
theorem aQl (k t:Int)(r0 r1:Nat->Int)(q:Nat->Bool)(r2 r3 r4:Nat->Int)(v B:Int)(hl:Lb B r0)(ht:∀j,j<6->r3 j=10000)(hB:t<=4000000000000000):Po (gy k t r0 r1 q r2 r3 r4 v) (λr:sM=>B+10000<t->r=false):=by
 by_cases h:B+10000<t
 .exact(aTk k t r0 r1 q r2 r3 r4 v B hl ht h hB).mono λr hr _=>hr
 .exact λr _ h'=>absurd h' h
theorem sl1 (d:bI.B)(a:d.1.2.2.2.1=0)(b:d.1.2.2.2.2=0):Po (gD d) (λx:gC=>x.1.2.1=d.1.2.1/\x.2=d.2):=
 WR (s:=_) (λe:bI.B=>e=d) (λx:gC=>x.1.2.1=d.1.2.1/\x.2=d.2) (λe he=>by
  subst he;unfold px;dsimp only;rw[aZ];refine⟨λc=> ?_,λ_=>by rw[aR];exact⟨rfl,rfl⟩⟩;have c:=eK c;omega) 2000 d rfl
theorem sl0 (w:cz.B):∀(d:cz.B) (hd:0<=d.1/\d.2.1=w.2.1/\d.d.b.2.1=w.d.b.2.1/\d.d.c.b.1=w.d.c.b.1/\d.c.2.1.b.1=0/\d.c.b.1.b.1=0/\d.c.b.2.1.b.1=0/\d.d.1.b.1=0/\d.d.2.1.b.1=0/\d.d.b.1.b.1=0),Po (iF d) (λx:j4=>x.2.1=w.2.1/\x.d.b.2.1=w.d.b.2.1/\x.d.c.b.1=w.d.c.b.1/\x.c.2.1.b.1=0/\x.c.b.1.b.1=0/\x.c.b.2.1.b.1=0/\x.d.1.b.1=0/\x.d.2.1.b.1=0/\x.d.b.1.b.1=0):=
 Dh (λd hd=>by
  obtain⟨i0,e1,e11,e14,l5,l6,l7,l8,l9,l10⟩:=hd;unfold py;dsimp only;rw[aZ];refine⟨λc6=> ?_,λ_=>by rw[aR];exact⟨e1,e11,e14,l5,l6,l7,l8,l9,l10⟩⟩;rw[cU];intro _
  repeat' (first
   |(rw[kD];exact trivial)
   |(with_reducible refine bB (aKa _ ?_).po λe _ he=> ?_)
   |(with_reducible refine bB (sl1 _ ?_ ?_) λy _ hy=> ?_)
   |(rw[aZ];refine⟨λ_=> ?_,λ_=> ?_⟩))
  all_goals first
   |rfl
   |(rw[aR]
     obtain⟨p1,p2⟩:=he;obtain⟨y1,y2⟩:=hy;have y1:y.1.2.1=d.1:=y1;have p3:e.2.1.b.1=0:=by first|exact Nat.le_zero.mp (ch p2.len (Nat.le_of_eq l5))|exact Nat.le_zero.mp (ch p2.len (Nat.le_of_eq l6))|exact Nat.le_zero.mp (ch p2.len (Nat.le_of_eq l7))|exact Nat.le_zero.mp (ch p2.len (Nat.le_of_eq l8))|exact Nat.le_zero.mp (ch p2.len (Nat.le_of_eq l9))|exact Nat.le_zero.mp (ch p2.len (Nat.le_of_eq l10))
     have c6:=eK c6;have hw:wI (y.1.2.1+1)=d.1+1:=by rw[y1];exact bo (by omega) (by omega)
     have g1:=cO (λz=>z.1) y2;have g11:=cO (λz=>z.d.b.1) y2;have g14:=cO (λz=>z.d.c.2.1) y2;have g5:=cO (λz=>z.c.1) y2;have g6:=cO (λz=>z.c.2.1) y2;have g7:=cO (λz=>z.c.b.1) y2;have g8:=cO (λz=>z.c.b.2.1) y2;have g9:=cO (λz=>z.d.1) y2;have g10:=cO (λz=>z.d.2.1) y2
     exact⟨by show 0<=wI (y.1.2.1+1);rw[hw];omega,g1.trans e1,g11.trans e11,g14.trans e14,
      (by show y.c.2.1.b.1=0;rw[show y.c.2.1=_ from g5];first|exact l5|exact p3),(by show y.c.b.1.b.1=0;rw[show y.c.b.1=_ from g6];first|exact l6|exact p3),(by show y.c.b.2.1.b.1=0;rw[show y.c.b.2.1=_ from g7];first|exact l7|exact p3),(by show y.d.1.b.1=0;rw[show y.d.1=_ from g8];first|exact l8|exact p3),(by show y.d.2.1.b.1=0;rw[show y.d.2.1=_ from g9];first|exact l9|exact p3),(by show y.d.b.1.b.1=0;rw[show y.d.b.1=_ from g10];first|exact l10|exact p3)⟩)
   |(obtain⟨p1,p2⟩:=he
     have p1:e.1=0:=by first|exact Nat.le_zero.mp (ch p1 (Nat.le_of_eq l5))|exact Nat.le_zero.mp (ch p1 (Nat.le_of_eq l6))|exact Nat.le_zero.mp (ch p1 (Nat.le_of_eq l7))|exact Nat.le_zero.mp (ch p1 (Nat.le_of_eq l8))|exact Nat.le_zero.mp (ch p1 (Nat.le_of_eq l9))|exact Nat.le_zero.mp (ch p1 (Nat.le_of_eq l10))
     show wl e.1=0;rw[p1];rfl)
   |(first|exact ch (Nat.le_of_eq l5) (show 0<=1000 by decide)|exact ch (Nat.le_of_eq l6) (show 0<=1000 by decide)|exact ch (Nat.le_of_eq l7) (show 0<=1000 by decide)|exact ch (Nat.le_of_eq l8) (show 0<=1000 by decide)|exact ch (Nat.le_of_eq l9) (show 0<=1000 by decide)|exact ch (Nat.le_of_eq l10) (show 0<=1000 by decide)))
theorem sl2 (B:Int)(w d:cy.B)(hl:Lb B w.d.b.2.1.1.1)(ht:∀j,j<6->w.d.b.2.1.1.c.1 j=10000)(hB:w.d.c.b.1.1<=4000000000000000)(hd:(B+10000<w.d.c.b.1.1->d.d.c.b.2.1.b.1=false/\d.d.c.b.2.1.b.2.1=false/\d.d.c.b.2.1.c.1=false/\d.d.c.b.2.1.c.2.1=false/\d.d.c.b.2.1.c.b.1=false/\d.d.c.b.2.1.c.b.2.1=false)/\d.2.1=w.2.1/\d.c.2.1=w.c.2.1/\d.c.b.1=w.c.b.1/\d.c.b.2.1=w.c.b.2.1/\d.d.1=w.d.1/\d.d.2.1=w.d.2.1/\d.d.b.1=w.d.b.1/\d.d.b.2.1=w.d.b.2.1/\d.d.c.1=w.d.c.1/\d.d.c.b.1=w.d.c.b.1/\d.d.c.b.2.2=w.d.c.b.2.2/\d.d.c.b.2.1.d.1=w.d.c.b.2.1.d.1/\d.d.c.b.2.1.d.2=w.d.c.b.2.1.d.2):Po (gE d) (λx:mI=>(B+10000<w.d.c.b.1.1->x.d.c.b.2.1.b.1=false/\x.d.c.b.2.1.b.2.1=false/\x.d.c.b.2.1.c.1=false/\x.d.c.b.2.1.c.2.1=false/\x.d.c.b.2.1.c.b.1=false/\x.d.c.b.2.1.c.b.2.1=false)/\x.2.1=w.2.1/\x.c.2.1=w.c.2.1/\x.c.b.1=w.c.b.1/\x.c.b.2.1=w.c.b.2.1/\x.d.1=w.d.1/\x.d.2.1=w.d.2.1/\x.d.b.1=w.d.b.1/\x.d.b.2.1=w.d.b.2.1/\x.d.c.1=w.d.c.1/\x.d.c.b.1=w.d.c.b.1/\x.d.c.b.2.2=w.d.c.b.2.2/\x.d.c.b.2.1.d.1=w.d.c.b.2.1.d.1/\x.d.c.b.2.1.d.2=w.d.c.b.2.1.d.2):=by
 revert d
 exact Dh (λd hd=>by
  have hd':=hd;obtain⟨hu,ik⟩:=hd;have e11:d.d.b.2.1=w.d.b.2.1:=ik.c.b.2.1;have e14:d.d.c.b.1=w.d.c.b.1:=ik.d.2.1;unfold tU;dsimp only;rw[aZ];refine⟨λ_=> ?_,λ_=>by rw[aR];exact hd'⟩;have hl':Lb B d.d.b.2.1.1.1:=by rw[e11];exact hl
  have ht':∀j,j<6->d.d.b.2.1.1.c.1 j=10000:=by rw[e11];exact ht
  have hB':d.d.c.b.1.1<=4000000000000000:=by rw[e14];exact hB
  with_reducible refine bB (aQl _ _ _ _ _ _ _ _ _ B hl' ht' hB') λr _ hr=> ?_
  have hr:B+10000<w.d.c.b.1.1->r=false:=by rw[<-e14];exact hr
  repeat' (first
   |(rw[kD];exact trivial)
   |(rw[aZ];refine⟨λ_=> ?_,λ_=> ?_⟩))
  all_goals
   rw[aR];refine⟨λhc=> ?_,ik⟩;obtain⟨u0,u1,u2,u3,u4,u5⟩:=hu hc;have hr:=hr hc;first
   |exact⟨hr,u1,u2,u3,u4,u5⟩
   |exact⟨u0,hr,u2,u3,u4,u5⟩
   |exact⟨u0,u1,hr,u3,u4,u5⟩
   |exact⟨u0,u1,u2,hr,u4,u5⟩
   |exact⟨u0,u1,u2,u3,hr,u5⟩
   |exact⟨u0,u1,u2,u3,u4,hr⟩)
theorem aZ1 (x0:Int)(x1 x2 x4 x5 x6 x7:Bool)(x9 fG fD:Int):Po (Cn x0 x1 x2 false x4 x5 x6 x7 false x9 fG fD) (λr:ahG=>¬(r:Int)=3):=by
 unfold Cn VI;show PW _ _;dsimp only
 repeat' (first
  |(rw[aZ];refine⟨λc=> ?_,λc=> ?_⟩))
 all_goals
  rw[aR];first
  |contradiction
  |(intro h;exact absurd h (by decide))
  |(intro h
    have h:x0=3:=h;subst h;simp at*)
theorem aTl (x0:Int)(x1 x2:Bool)(x9 fG fD:Int):Po (wT x0 x1 x2 false false false false false false x9 fG fD) (λr:XJ=>r.2=false):=by
 unfold wT MD;show PW _ _
 refine bB (WR (s:=_) (λd:lJ.B=>d.2.1.b.1=false/\d.2.1.b.2.1=false/\d.2.1.c.1=false/\d.2.1.c.2.1=false/\d.2.1.c.b.1=false/\d.2.1.c.b.2.1=false) (λx:wq=>match x with|.inl _=>False|.inr _=>True) (λd hd=>by
  have hd':=hd;obtain⟨u0,u1,u2,u3,u4,u5⟩:=hd;unfold Gz;dsimp only;repeat' (first
  |(rw[kD];exact trivial)
  |(rw[ij];refine⟨λa ha=> ?_,λa ha=> ?_⟩<;>subst ha)
  |(rw[qR];refine⟨λa ha=> ?_,λa ha=> ?_⟩<;>subst ha)
  |(rw[aZ];refine⟨λc=> ?_,λc=> ?_⟩)
  |(rw[dA];intro _ _))
  all_goals first
   |(rw[aR];first|exact trivial|exact hd')
   |(exfalso;simp_all)) 2000 _ ⟨rfl,rfl,rfl,rfl,rfl,rfl⟩) λy _ hy=> ?_
 rw[ij];refine⟨λa ha=>by subst ha;exact absurd hy id,λa ha=> ?_⟩;rw[aR]
theorem aM8 (x:Co.B)(u:x.2.2.2.1=(false,false,false,false,false,false))(h:x.2.2.2.2.2.1<x.2.2.2.2.1):Po (vh x) (λr:MF=>(¬r.1.1=3/\r.1.2.2.1=false/\(2<=r.1.1->r.1.2.2.2=true))):=by
 unfold vh VJ;try dsimp only
 show PW _ _;try dsimp only
 rw[u]
 repeat' (first
  |(with_reducible refine bB (aZ1 _ _ _ _ _ _ _ _ _ _) λm _ hm=> ?_)
  |(with_reducible refine bB (aTl _ _ _ _ _ _) λs _ hs=> ?_)
  |(rw[aZ];refine⟨λc=> ?_,λc=> ?_⟩)
  |(rw[dA];intro _ _))
 all_goals
  rw[aR];first
  |(rename_i c;exact absurd (eq_of_beq c) hm)
  |exact⟨hm,dw (by omega),λ_=>by show(!s.2)=true;rw[hs];rfl⟩
  |exact⟨hm,rfl,λ_=>by show(!s.2)=true;rw[hs];rfl⟩
  |exact⟨hm,rfl,λq=>absurd q (by rename_i c;exact pP c)⟩
theorem aIP (P:Prop)(x:Co.B)(u:P->x.b.2.1=(false,false,false,false,false,false))(h:P->x.c.2.1<x.c.1):Po (vh x) (λr:MF=>P->(¬r.1.1=3/\r.1.b.1=false/\(2<=r.1.1->r.1.b.2=true))):=by
 by_cases p:P
 .exact(aM8 x (u p) (h p)).mono λr hr _=>hr
 .exact λr _ p'=>absurd p' p
theorem sl5 (d:de.B):Po (fA d) (λx:iD=>match x with|.inl e=>e.2.1.c.1=d.1.c.2.1/\e.2.1.d.2.1=d.1.d.b.2.1/\e.2.1.d.b.1=d.1.d.c.1/\e.2.1.d.b.2.1=d.1.d.c.2.1/\e.c.2.1=d.c.1/\e.c.b.1=d.c.2.1/\e.c.b.2.1=d.c.b.1/\e.d.1=d.c.b.2.1/\e.d.2.1=d.d.1/\e.d.b.1=d.d.2.1/\e.d.b.2.1=d.d.b.1|.inr e=>e.2.1.c.2.1=d.1.c.2.1/\e.2.1.d.b.1=d.1.d.b.2.1/\e.2.1.d.b.2.1=d.1.d.c.1/\e.2.1.d.c.1=d.1.d.c.2.1/\e.c.2.1=d.c.1/\e.c.b.1=d.c.2.1/\e.c.b.2.1=d.c.b.1/\e.d.1=d.c.b.2.1/\e.d.2.1=d.d.1/\e.d.b.1=d.d.2.1/\e.d.b.2.1=d.d.b.1):=by
 unfold fA tV;try dsimp only
 show PW _ _;try dsimp only
 repeat' (first
  |(rw[kD];exact trivial)
  |(rw[ij];refine⟨λa ha=> ?_,λa ha=> ?_⟩<;>subst ha)
  |(rw[qR];refine⟨λa ha=> ?_,λa ha=> ?_⟩<;>subst ha)
  |(rw[aZ];refine⟨λc=> ?_,λc=> ?_⟩)
  |(rw[dA];intro _ _))
 all_goals (rw[aR];exact⟨rfl,rfl,rfl,rfl,rfl,rfl,rfl,rfl,rfl,rfl,rfl⟩)
theorem sl4 (P:Prop)(d:dg.B)(j:d.1.d.c.b.2.2=0)(u:P->(d.d.c.b.1.b.1,d.d.c.b.1.b.2.1,d.d.c.b.1.c.1,d.d.c.b.1.c.2.1,d.d.c.b.1.c.b.1,d.d.c.b.1.c.b.2.1)=(false,false,false,false,false,false))(h:P->d.d.c.b.1.d.2.1<d.d.c.b.1.d.1):Po (eD d) (λx:iG=>match x with|.inl e=>(P->(¬e.2.1.c.1.1=3/\e.2.1.c.1.b.1=false/\(2<=e.2.1.c.1.1->e.2.1.c.1.b.2=true)))/\e.2.1.d.2.1=d.1.d.b.2.1/\e.2.1.d.b.1=d.1.d.c.1/\e.2.1.d.b.2.1=d.1.d.c.2.1/\e.c.2.1=d.c.1/\e.c.b.1=d.c.2.1/\e.c.b.2.1=d.c.b.1/\e.d.1=d.c.b.2.1/\e.d.2.1=d.d.1/\e.d.b.1=d.d.2.1/\e.d.b.2.1=d.d.b.1|.inr e=>(P->(¬e.2.1.c.2.1.1=3/\e.2.1.c.2.1.b.1=false/\(2<=e.2.1.c.2.1.1->e.2.1.c.2.1.b.2=true)))/\e.2.1.d.b.1=d.1.d.b.2.1/\e.2.1.d.b.2.1=d.1.d.c.1/\e.2.1.d.c.1=d.1.d.c.2.1/\e.c.2.1=d.c.1/\e.c.b.1=d.c.2.1/\e.c.b.2.1=d.c.b.1/\e.d.1=d.c.b.2.1/\e.d.2.1=d.d.1/\e.d.b.1=d.d.2.1/\e.d.b.2.1=d.d.b.1):=by
 unfold eD pz;try dsimp only
 show PW _ _;try dsimp only
 refine bB (aIP P _ u h) λm _ hm=> ?_;rw[j,show decide (wl 0>0)=false from rfl,aZ];refine⟨λc=>Bool.noConfusion c,λ_=> ?_⟩
 repeat' (first
  |(rw[kD];exact trivial)
  |(with_reducible refine bB (sl5 _) λy _ hy=> ?_)
  |(rw[ij];refine⟨λa ha=> ?_,λa ha=> ?_⟩<;>subst ha)
  |(rw[aZ];refine⟨λ_=> ?_,λ_=> ?_⟩))
 all_goals
  rw[aR];obtain⟨k0,k1,k2,k3,kb⟩:=hy;refine⟨?_,k1,k2,k3,kb⟩;rw[k0];exact hm
theorem sl3 (B:Int)(d:dh.B)(j:d.1.d.c.b.2.2=0)(l0:d.c.1.b.1=0)(l1:d.c.2.1.b.1=0)(l2:d.c.b.1.b.1=0)(l3:d.c.b.2.1.b.1=0)(l4:d.d.1.b.1=0)(l5:d.d.2.1.b.1=0)(hl:Lb B d.d.b.1.1.1)(ht:∀j,j<6->d.d.b.1.1.c.1 j=10000)(hL:d.1.1.d.1=20000)(ha:Bd B d.1.d.c.1)(hB:d.d.c.2.1.1<=4000000000000000):Po (eE d) (λx:iH=>match x with|.inl e=>(B+20000<d.d.c.2.1.1->(¬e.2.1.c.1.1=3/\e.2.1.c.1.b.1=false/\(2<=e.2.1.c.1.1->e.2.1.c.1.b.2=true)))/\e.2.1.d.b.1=d.1.d.c.1/\e.2.1.d.b.2.1=d.1.d.c.2.1/\e.c.2.1.b.1=0/\e.c.b.1.b.1=0/\e.c.b.2.1.b.1=0/\e.d.1.b.1=0/\e.d.2.1.b.1=0/\e.d.b.1.b.1=0/\e.d.b.2.1=d.d.b.1|.inr e=>(B+20000<d.d.c.2.1.1->(¬e.2.1.c.2.1.1=3/\e.2.1.c.2.1.b.1=false/\(2<=e.2.1.c.2.1.1->e.2.1.c.2.1.b.2=true)))/\e.2.1.d.b.2.1=d.1.d.c.1/\e.2.1.d.c.1=d.1.d.c.2.1/\e.c.2.1.b.1=0/\e.c.b.1.b.1=0/\e.c.b.2.1.b.1=0/\e.d.1.b.1=0/\e.d.2.1.b.1=0/\e.d.b.1.b.1=0/\e.d.b.2.1=d.d.b.1):=by
 unfold eE pA;try dsimp only
 show PW _ _;repeat (rw[cU];intro _)
 refine bB (sl0 _ _ ⟨eZ 0,rfl,rfl,rfl,l0,l1,l2,l3,l4,l5⟩) λy _ hy=> ?_;obtain⟨y1,vC,yv,m0,m1,m2,m3,m4,m5⟩:=hy;have y1:y.2.1=d.1:=y1;have vC:y.d.b.2.1=d.d.b.1:=vC;have yv:y.d.c.b.1=d.d.c.2.1:=yv;repeat (rw[cU];intro _)
 refine bB (sl2 B _ _ (by show Lb B y.d.b.2.1.1.1;rw[vC];exact hl) (by show∀j,j<6->y.d.b.2.1.1.c.1 j=10000;rw[vC];exact ht) (by show y.d.c.b.1.1<=_;rw[yv];exact hB) ⟨λ_=>⟨rfl,rfl,rfl,rfl,rfl,rfl⟩,rfl,rfl,rfl,rfl,rfl,rfl,rfl,rfl,rfl,rfl,rfl,rfl,rfl⟩) λz _ hz=> ?_;obtain⟨hu,z1,z5,z6,z7,z8,z9,z10,z11,z12,z14,z16,zL,zP⟩:=hz;have z1:z.2.1=y.2.1:=z1;have z11:z.d.b.2.1=y.d.b.2.1:=z11;have z14:z.d.c.b.1=y.d.c.b.1:=z14;have zL:z.d.c.b.2.1.d.1=y.2.1.1.d.1:=zL;have w1:z.2.1=d.1:=z1.trans y1;have t1:z.d.c.b.1.1=d.d.c.2.1.1:=by rw[z14,yv]
 have lim:z.d.c.b.2.1.d.1=20000:=by rw[zL,y1];exact hL
 have us:B+20000<d.d.c.2.1.1->(z.d.c.b.2.1.b.1,z.d.c.b.2.1.b.2.1,z.d.c.b.2.1.c.1,z.d.c.b.2.1.c.2.1,z.d.c.b.2.1.c.b.1,z.d.c.b.2.1.c.b.2.1)=(false,false,false,false,false,false):=λhc=>by
  obtain⟨u0,u1,u2,u3,u4,u5⟩:=hu (by show B+10000<y.d.c.b.1.1;rw[yv];omega);rw[u0,u1,u2,u3,u4,u5]
 have n0:z.c.2.1.b.1=0:=by rw[show z.c.2.1=y.c.2.1 from z5];exact m0
 have n1:z.c.b.1.b.1=0:=by rw[show z.c.b.1=y.c.b.1 from z6];exact m1
 have n2:z.c.b.2.1.b.1=0:=by rw[show z.c.b.2.1=y.c.b.2.1 from z7];exact m2
 have n3:z.d.1.b.1=0:=by rw[show z.d.1=y.d.1 from z8];exact m3
 have n4:z.d.2.1.b.1=0:=by rw[show z.d.2.1=y.d.2.1 from z9];exact m4
 have n5:z.d.b.1.b.1=0:=by rw[show z.d.b.1=y.d.b.1 from z10];exact m5
 have mon:z.d.b.2.1=d.d.b.1:=z11.trans vC
 repeat' (first
  |(rw[kD];exact trivial)
  |(with_reducible refine bB (sl4 (B+20000<d.d.c.2.1.1) _ ?_ ?_ ?_) λv _ hv=> ?_)
  |(rw[ij];refine⟨λa ha=> ?_,λa ha=> ?_⟩<;>subst ha)
  |(rw[aZ];refine⟨λ_=> ?_,λ_=> ?_⟩))
 all_goals first
  |exact us
  |(show z.2.1.d.c.b.2.2=0;rw[w1];exact j)
  |(intro hc
    show z.d.c.b.2.1.d.1<wI (z.d.c.b.1.1-z.2.1.d.c.1);rw[lim,t1,w1,fS (by omega) (by omega)];omega)
  |(intro hc
    show z.d.c.b.2.1.d.1<1125899906842624;rw[lim];decide)
  |(rw[aR]
    obtain⟨k0,_,k2,k3,b0,b1,b2,b3,b4,b5,bm⟩:=hv;rw[show z.2.1=d.1 from w1] at k2 k3;refine⟨k0,k2,k3,?_,?_,?_,?_,?_,?_,bm.trans mon⟩
    .rw[b0];exact n0
    .rw[b1];exact n1
    .rw[b2];exact n2
    .rw[b3];exact n3
    .rw[b4];exact n4
    .rw[b5];exact n5)
theorem zr {M:Int}{n:Nat}{r:Nat->Int}(h:∀j,j<n->r j<=M):∀i,i<n->r (0+i)<=M:=λi hi=>by rw[hI];exact h i hi
theorem aZ2 (w:bI.B):∀(d:bI.B) (hd:d.1.2.1=w.1.2.1/\d.c.2.1=w.c.2.1/\d.c.b.1=w.c.b.1/\d.c.b.2.1=w.c.b.2.1/\d.d.1=w.d.1/\d.d.2.1=w.d.2.1/\d.d.b.1=w.d.b.1/\d.d.c.b.1=w.d.c.b.1/\d.e.2=w.e.2),Po (gD d) (λx:gC=>x.1.2.1=w.1.2.1/\x.c.2.1=w.c.2.1/\x.c.b.1=w.c.b.1/\x.c.b.2.1=w.c.b.2.1/\x.d.1=w.d.1/\x.d.2.1=w.d.2.1/\x.d.b.1=w.d.b.1/\x.d.c.b.1=w.d.c.b.1/\x.e.2=w.e.2):=
 Dh (λd hd=>by
  unfold px;dsimp only;repeat' (first
  |(rw[kD];exact trivial)
  |(rw[ij];refine⟨λa ha=> ?_,λa ha=> ?_⟩<;>subst ha)
  |(rw[qR];refine⟨λa ha=> ?_,λa ha=> ?_⟩<;>subst ha)
  |(rw[aZ];refine⟨λc=> ?_,λc=> ?_⟩)
  |(rw[dA];intro _ _))
  all_goals (rw[aR];exact hd))
theorem aZ3 (w:cy.B):∀(d:cy.B) (hd:d.c.2.1=w.c.2.1/\d.c.b.1=w.c.b.1/\d.c.b.2.1=w.c.b.2.1/\d.d.1=w.d.1/\d.d.2.1=w.d.2.1/\d.d.b.1=w.d.b.1),Po (gE d) (λx:mI=>x.c.2.1=w.c.2.1/\x.c.b.1=w.c.b.1/\x.c.b.2.1=w.c.b.2.1/\x.d.1=w.d.1/\x.d.2.1=w.d.2.1/\x.d.b.1=w.d.b.1):=
 Dh (λd hd=>by
  unfold tU;dsimp only;repeat' (first
  |(rw[kD];exact trivial)
  |(rw[ij];refine⟨λa ha=> ?_,λa ha=> ?_⟩<;>subst ha)
  |(rw[qR];refine⟨λa ha=> ?_,λa ha=> ?_⟩<;>subst ha)
  |(rw[aZ];refine⟨λc=> ?_,λc=> ?_⟩)
  |(rw[dA];intro _ _))
  all_goals (rw[aR];exact hd))
theorem aZ4 (d:de.B):Po (fA d) (λx:iD=>match x with|.inl e=>e.c.2.1=d.c.1/\e.c.b.1=d.c.2.1/\e.c.b.2.1=d.c.b.1/\e.d.1=d.c.b.2.1/\e.d.2.1=d.d.1/\e.d.b.1=d.d.2.1|.inr e=>e.c.2.1=d.c.1/\e.c.b.1=d.c.2.1/\e.c.b.2.1=d.c.b.1/\e.d.1=d.c.b.2.1/\e.d.2.1=d.d.1/\e.d.b.1=d.d.2.1):=(sl5 d).mono λx h=>by
 cases x with
 |inl e=>obtain⟨_,_,_,_,b0,b1,b2,b3,b4,b5,_⟩:=h;exact⟨b0,b1,b2,b3,b4,b5⟩
 |inr e=>obtain⟨_,_,_,_,b0,b1,b2,b3,b4,b5,_⟩:=h;exact⟨b0,b1,b2,b3,b4,b5⟩
theorem aZ5 (d:dg.B):Po (eD d) (λx:iG=>match x with|.inl e=>e.c.2.1=d.c.1/\e.c.b.1=d.c.2.1/\e.c.b.2.1=d.c.b.1/\e.d.1=d.c.b.2.1/\e.d.2.1=d.d.1/\e.d.b.1=d.d.2.1|.inr e=>e.c.2.1=d.c.1/\e.c.b.1=d.c.2.1/\e.c.b.2.1=d.c.b.1/\e.d.1=d.c.b.2.1/\e.d.2.1=d.d.1/\e.d.b.1=d.d.2.1):=by
 unfold eD pz;try dsimp only
 show PW _ _;try dsimp only
 repeat' (first
  |(with_reducible refine bB (aZ4 _) λy _ hy=> ?_)
  |(rw[kD];exact trivial)
  |(rw[ij];refine⟨λa ha=> ?_,λa ha=> ?_⟩<;>subst ha)
  |(rw[qR];refine⟨λa ha=> ?_,λa ha=> ?_⟩<;>subst ha)
  |(rw[aZ];refine⟨λc=> ?_,λc=> ?_⟩)
  |(rw[dA];intro _ _))
 all_goals (rw[aR];exact hy)
theorem em0 (M t:Int)(hM:M<=t):∀(d:cz.B) (hd:0<=d.1/\d.1<=6/\d.d.c.b.1.1=t/\(∀j,j<d.c.2.1.b.1->d.e.1.1 j<=M)/\(0<d.1->d.c.2.1.b.1=0)/\(∀j,j<d.c.b.1.b.1->d.e.2.1.1 j<=M)/\(1<d.1->d.c.b.1.b.1=0)/\(∀j,j<d.c.b.2.1.b.1->d.e.b.1.1 j<=M)/\(2<d.1->d.c.b.2.1.b.1=0)/\(∀j,j<d.d.1.b.1->d.e.b.2.1.1 j<=M)/\(3<d.1->d.d.1.b.1=0)/\(∀j,j<d.d.2.1.b.1->d.e.c.1.1 j<=M)/\(4<d.1->d.d.2.1.b.1=0)/\(∀j,j<d.d.b.1.b.1->d.e.c.2.1.1 j<=M)/\(5<d.1->d.d.b.1.b.1=0)),Po (iF d) (λx:j4=>x.c.2.1.b.1=0/\x.c.b.1.b.1=0/\x.c.b.2.1.b.1=0/\x.d.1.b.1=0/\x.d.2.1.b.1=0/\x.d.b.1.b.1=0):=
 Dh (λd hd=>by
  obtain⟨i0,i1,e14,c0,e0,c1,e1,c2,e2,c3,e3,c4,e4,c5,e5⟩:=hd;unfold py;dsimp only;rw[aZ];refine⟨λc7=> ?_,λc7=> ?_⟩
  .have c7:=eK c7;rw[cU];intro _
   repeat' (first
    |(rw[kD];exact trivial)
    |(with_reducible refine bB (aUi M _ ?_) λe _ he=> ?_)
    |(with_reducible refine bB (aZ2 _ _ ⟨rfl,rfl,rfl,rfl,rfl,rfl,rfl,rfl,rfl⟩) λy _ hy=> ?_)
    |(rw[aZ];refine⟨λc=> ?_,λc=> ?_⟩<;>first|have c8:=eq_of_beq c|have c8:=alK c|skip))
   all_goals first
    |(rw[aR]
      obtain⟨p1,p2⟩:=he;have p2:=p2 (by show M<=d.d.c.b.1.1;rw[e14];exact hM);obtain⟨y1,g0,g1,g2,g3,g4,g5,g14,gr⟩:=hy;have y1:y.1.2.1=d.1:=y1;have hw:wI (y.1.2.1+1)=d.1+1:=by rw[y1];exact bo (by omega) (by omega)
      have r0:=cO (λz=>z.1) gr;have r1:=cO (λz=>z.2.1) gr;have r2:=cO (λz=>z.b.1) gr;have r3:=cO (λz=>z.b.2.1) gr;have r4:=cO (λz=>z.c.1) gr;have r5:=cO (λz=>z.c.2.1) gr;refine⟨by show 0<=wI (y.1.2.1+1);rw[hw];omega,by show wI (y.1.2.1+1)<=6;rw[hw];omega,(cO (λz=>z.1) g14).trans e14,(λj hj=>by
      have hj:j<y.c.2.1.b.1:=hj;show y.e.2.1.1 j<=M;rw[show y.c.2.1=_ from g0] at hj;rw[show y.e.2.1=_ from r0];first|exact c0 j hj|exact p1 j hj),(λhk=>by
      have hk:0<wI (y.1.2.1+1):=hk;show y.c.2.1.b.1=0;rw[show y.c.2.1=_ from g0];first|exact p2|exact e0 (by omega)),(λj hj=>by
      have hj:j<y.c.b.1.b.1:=hj;show y.e.b.1.1 j<=M;rw[show y.c.b.1=_ from g1] at hj;rw[show y.e.b.1=_ from r1];first|exact c1 j hj|exact p1 j hj),(λhk=>by
      have hk:1<wI (y.1.2.1+1):=hk;show y.c.b.1.b.1=0;rw[show y.c.b.1=_ from g1];first|exact p2|exact e1 (by omega)),(λj hj=>by
      have hj:j<y.c.b.2.1.b.1:=hj;show y.e.b.2.1.1 j<=M;rw[show y.c.b.2.1=_ from g2] at hj;rw[show y.e.b.2.1=_ from r2];first|exact c2 j hj|exact p1 j hj),(λhk=>by
      have hk:2<wI (y.1.2.1+1):=hk;show y.c.b.2.1.b.1=0;rw[show y.c.b.2.1=_ from g2];first|exact p2|exact e2 (by omega)),(λj hj=>by
      have hj:j<y.d.1.b.1:=hj;show y.e.c.1.1 j<=M;rw[show y.d.1=_ from g3] at hj;rw[show y.e.c.1=_ from r3];first|exact c3 j hj|exact p1 j hj),(λhk=>by
      have hk:3<wI (y.1.2.1+1):=hk;show y.d.1.b.1=0;rw[show y.d.1=_ from g3];first|exact p2|exact e3 (by omega)),(λj hj=>by
      have hj:j<y.d.2.1.b.1:=hj;show y.e.c.2.1.1 j<=M;rw[show y.d.2.1=_ from g4] at hj;rw[show y.e.c.2.1=_ from r4];first|exact c4 j hj|exact p1 j hj),(λhk=>by
      have hk:4<wI (y.1.2.1+1):=hk;show y.d.2.1.b.1=0;rw[show y.d.2.1=_ from g4];first|exact p2|exact e4 (by omega)),(λj hj=>by
      have hj:j<y.d.b.1.b.1:=hj;show y.e.c.b.1.1 j<=M;rw[show y.d.b.1=_ from g5] at hj;rw[show y.e.c.b.1=_ from r5];first|exact c5 j hj|exact p1 j hj),(λhk=>by
      have hk:5<wI (y.1.2.1+1):=hk;show y.d.b.1.b.1=0;rw[show y.d.b.1=_ from g5];first|exact p2|exact e5 (by omega))⟩)
    |exact zr c0
    |exact zr c1
    |exact zr c2
    |exact zr c3
    |exact zr c4
    |exact zr c5
  .have c7:=pP c7;rw[aR];exact⟨e0 (by omega),e1 (by omega),e2 (by omega),e3 (by omega),e4 (by omega),e5 (by omega)⟩)
theorem em3 (M:Int)(d:dh.B)(hM:M<=d.d.c.2.1.1)(h0:∀j,j<d.c.1.b.1->d.d.c.b.2.1.1 j<=M)(h1:∀j,j<d.c.2.1.b.1->d.e.1.1 j<=M)(h2:∀j,j<d.c.b.1.b.1->d.e.2.1.1 j<=M)(h3:∀j,j<d.c.b.2.1.b.1->d.e.b.1.1 j<=M)(h4:∀j,j<d.d.1.b.1->d.e.b.2.1.1 j<=M)(h5:∀j,j<d.d.2.1.b.1->d.e.c.1.1 j<=M):Po (eE d) (λx:iH=>match x with|.inl e=>e.c.2.1.b.1=0/\e.c.b.1.b.1=0/\e.c.b.2.1.b.1=0/\e.d.1.b.1=0/\e.d.2.1.b.1=0/\e.d.b.1.b.1=0|.inr e=>e.c.2.1.b.1=0/\e.c.b.1.b.1=0/\e.c.b.2.1.b.1=0/\e.d.1.b.1=0/\e.d.2.1.b.1=0/\e.d.b.1.b.1=0):=by
 unfold eE pA;try dsimp only
 show PW _ _;repeat (rw[cU];intro _)
 refine bB (em0 M d.d.c.2.1.1 hM _ ⟨eZ 0,(show(0:Int)<=6 by decide),rfl,h0,λh=>absurd h (show ¬((0:Int)<0) by decide),h1,λh=>absurd h (show ¬((1:Int)<0) by decide),h2,λh=>absurd h (show ¬((2:Int)<0) by decide),h3,λh=>absurd h (show ¬((3:Int)<0) by decide),h4,λh=>absurd h (show ¬((4:Int)<0) by decide),h5,λh=>absurd h (show ¬((5:Int)<0) by decide)⟩) λy _ hy=> ?_;obtain⟨l0,l1,l2,l3,l4,l5⟩:=hy;repeat (rw[cU];intro _)
 refine bB (aZ3 _ _ ⟨rfl,rfl,rfl,rfl,rfl,rfl⟩) λz _ hz=> ?_;obtain⟨z0,z1,z2,z3,z4,z5⟩:=hz;have z0:z.c.2.1=y.c.2.1:=z0;have z1:z.c.b.1=y.c.b.1:=z1;have z2:z.c.b.2.1=y.c.b.2.1:=z2;have z3:z.d.1=y.d.1:=z3;have z4:z.d.2.1=y.d.2.1:=z4;have z5:z.d.b.1=y.d.b.1:=z5
 repeat' (first
  |(with_reducible refine bB (aZ5 _) λv _ hv=> ?_)
  |(rw[kD];exact trivial)
  |(rw[ij];refine⟨λa ha=> ?_,λa ha=> ?_⟩<;>subst ha)
  |(rw[qR];refine⟨λa ha=> ?_,λa ha=> ?_⟩<;>subst ha)
  |(rw[aZ];refine⟨λc=> ?_,λc=> ?_⟩)
  |(rw[dA];intro _ _))
 all_goals
  rw[aR];obtain⟨b0,b1,b2,b3,b4,b5⟩:=hv;refine⟨?_,?_,?_,?_,?_,?_⟩
  .rw[b0];show z.c.2.1.b.1=0;rw[z0];exact l0
  .rw[b1];show z.c.b.1.b.1=0;rw[z1];exact l1
  .rw[b2];show z.c.b.2.1.b.1=0;rw[z2];exact l2
  .rw[b3];show z.d.1.b.1=0;rw[z3];exact l3
  .rw[b4];show z.d.2.1.b.1=0;rw[z4];exact l4
  .rw[b5];show z.d.b.1.b.1=0;rw[z5];exact l5
theorem aZ6 (M:Int)(x:fV.B)(hM:M<=x.1.1)(h0:∀j,j<x.c.2.1.b.1->x.d.c.b.1.1 j<=M)(h1:∀j,j<x.c.b.1.b.1->x.d.c.b.2.1.1 j<=M)(h2:∀j,j<x.c.b.2.1.b.1->x.e.1.1 j<=M)(h3:∀j,j<x.d.1.b.1->x.e.2.1.1 j<=M)(h4:∀j,j<x.d.2.1.b.1->x.e.b.1.1 j<=M)(h5:∀j,j<x.d.b.1.b.1->x.e.b.2.1.1 j<=M):Po (eW x) (λr:oS=>r.1.2.1.b.1=0/\r.1.b.1.b.1=0/\r.1.b.2.1.b.1=0/\r.1.c.1.b.1=0/\r.1.c.2.1.b.1=0/\r.1.c.b.1.b.1=0):=by
 unfold eW sd;try dsimp only
 show PW _ _;try dsimp only
 repeat' (first
  |(with_reducible refine bB (em3 M _ ?_ ?_ ?_ ?_ ?_ ?_ ?_) λv _ hv=> ?_)
  |(rw[kD];exact trivial)
  |(rw[ij];refine⟨λa ha=> ?_,λa ha=> ?_⟩<;>subst ha)
  |(rw[qR];refine⟨λa ha=> ?_,λa ha=> ?_⟩<;>subst ha)
  |(rw[aZ];refine⟨λc=> ?_,λc=> ?_⟩)
  |(rw[dA];intro _ _))
 all_goals first
  |exact hM
  |exact h0
  |exact h1
  |exact h2
  |exact h3
  |exact h4
  |exact h5
  |(rw[aR];exact hv)
theorem aZ7 (y:gj.B):Po (gW y) (λr:qH=>match r with|.inl x=>x.1.1.d.1=y.2.1.1.d.1/\x.1.d.c.1=y.2.1.d.c.1/\x.1.d.c.2.1=y.2.1.d.c.2.1/\x.1.d.c.b.2.2=y.2.1.d.c.b.2.2|.inr x=>x.1.1.1.d.1=y.2.1.1.d.1/\x.1.1.d.b.1=y.2.1.d.c.1/\x.1.1.d.b.2.1=y.2.1.d.c.2.1/\x.1.1.d.c.2.2=y.2.1.d.c.b.2.2):=by
 haveI i0:Ek y.2.1.1.d.1 y.2.1.1.d.1:=⟨rfl⟩
 haveI i1:Ek y.2.1.d.c.1 y.2.1.d.c.1:=⟨rfl⟩
 haveI i2:Ek y.2.1.d.c.2.1 y.2.1.d.c.2.1:=⟨rfl⟩
 haveI i3:Ek y.2.1.d.c.b.2.2 y.2.1.d.c.b.2.2:=⟨rfl⟩
 refine(ai0 y).h.mono λr h=> ?_;cases r with
 |inl a=>exact⟨h.1.h,h.2.1.h,h.b.1.h,h.b.2.h⟩
 |inr a=>exact⟨h.1.h,h.2.1.h,h.b.1.h,h.b.2.h⟩
theorem aM9 (B:Int)(x:fV.B)(l0:x.c.2.1.b.1=0)(l1:x.c.b.1.b.1=0)(l2:x.c.b.2.1.b.1=0)(l3:x.d.1.b.1=0)(l4:x.d.2.1.b.1=0)(l5:x.d.b.1.b.1=0)(hl:Lb B x.d.b.2.1.1.1)(ht:∀j,j<6->x.d.b.2.1.1.c.1 j=10000)(hL:x.2.1.1.d.1=20000)(ha:Bd B x.2.1.d.c.1)(hB:x.1.1<=4000000000000000):Po (eW x) (λr:oS=>(B+20000<x.1.1->(¬r.1.1.c.2.1.1=3/\r.1.1.c.2.1.b.1=false/\(2<=r.1.1.c.2.1.1->r.1.1.c.2.1.b.2=true)))/\r.1.1.d.c.1=x.2.1.d.c.1/\r.1.1.d.c.2.1=x.1.1/\r.1.2.1.b.1=0/\r.1.b.1.b.1=0/\r.1.b.2.1.b.1=0/\r.1.c.1.b.1=0/\r.1.c.2.1.b.1=0/\r.1.c.b.1.b.1=0/\r.1.c.b.2.1=x.d.b.2.1):=by
 unfold eW sd;try dsimp only
 show PW _ _;try dsimp only
 rw[aZ];refine⟨λ_=> ?_,λ_=> ?_⟩
 .repeat (rw[cU];intro _)
  refine bB (aZ7 _) λg _ hg=> ?_;rw[qR];refine⟨λa e=> ?_,λa e=> ?_⟩<;>subst e
  all_goals
   obtain⟨g0,g1,g2,g3⟩:=hg;repeat (rw[cU];intro _)
  .have g0:a.1.1.d.1=x.2.1.1.d.1:=g0;have g1:a.1.d.c.1=x.2.1.d.c.1:=g1;have g2:a.1.d.c.2.1=x.1.1:=g2;have g3:a.1.d.c.b.2.2=0:=g3;refine bB (sl3 B _ g3 l0 l1 l2 l3 l4 l5 hl ht (g0.trans hL) (by show Bd B a.1.d.c.1;rw[g1];exact ha) hB) λv _ hv=> ?_;rw[ij];refine⟨λb e=> ?_,λb e=> ?_⟩<;>subst e
   all_goals
    rw[aR];obtain⟨k0,k2,k3,b0,b1,b2,b3,b4,b5,bm⟩:=hv;exact⟨k0,k2.trans g1,k3.trans g2,b0,b1,b2,b3,b4,b5,bm⟩
  .have g0:a.1.1.1.d.1=x.2.1.1.d.1:=g0;have g1:a.1.1.d.b.1=x.2.1.d.c.1:=g1;have g2:a.1.1.d.b.2.1=x.1.1:=g2;have g3:a.1.1.d.c.2.2=0:=g3;refine bB (sl3 B _ g3 l0 l1 l2 l3 l4 l5 hl ht (g0.trans hL) (by show Bd B a.1.1.d.b.1;rw[g1];exact ha) hB) λv _ hv=> ?_;rw[ij];refine⟨λb e=> ?_,λb e=> ?_⟩<;>subst e
   all_goals
    rw[aR];obtain⟨k0,k2,k3,b0,b1,b2,b3,b4,b5,bm⟩:=hv;exact⟨k0,k2.trans g1,k3.trans g2,b0,b1,b2,b3,b4,b5,bm⟩
 .rw[dA];intro j _;rw[dA];intro s _;repeat (rw[cU];intro _)
  refine bB (sl3 B _ rfl l0 l1 l2 l3 l4 l5 hl ht hL ha hB) λv _ hv=> ?_;rw[ij];refine⟨λb e=> ?_,λb e=> ?_⟩<;>subst e
  all_goals
   rw[aR];obtain⟨k0,k2,k3,b0,b1,b2,b3,b4,b5,bm⟩:=hv;exact⟨k0,k2,k3,b0,b1,b2,b3,b4,b5,bm⟩
theorem a25 (B:Int)(w:Nat->Int)(d:cJ.B)(hr:∀i,i<d.1.c.1->Bd B (d.d.c.1.1 i))(hj:Bd B d.d.b.2.1.1)(ha:Bd B d.1.d.c.1)(hl:Lb B d.d.2.1.1.1)(hw:d.d.2.1.1.c.1=w):Po (cR d) (λy:eY=>Bd B y.2.1.d.c.1/\Lb B y.d.b.2.1.1.1/\y.d.b.2.1.1.c.1=w):=by
 unfold cR lz;try dsimp only
 show PW _ _;try dsimp only
 repeat (rw[cU];intro _)
 refine bB (a23 B w _ ⟨λi hi=> ?_,ha,hl,hw⟩) λx _ hx=> ?_
 .have hi:i<d.1.c.1+1:=hi;show Bd B (bif Nat.beq (0+i) d.1.c.1 then d.d.b.2.1.1 else d.d.c.1.1 (0+(0+i)));rw[hI,hI];cases hb:Nat.beq i d.1.c.1 with
  |true=>exact hj
  |false=>
   have ne:i≠d.1.c.1:=λq=>by rw[q,OG] at hb;cases hb
   exact hr i (by omega)
 rw[ij];refine⟨λa e=> ?_,λa e=> ?_⟩<;>subst e<;>(rw[aR];exact hx)
theorem a26 (B:Int)(w:Nat->Int)(x:eo.B)(hr:∀i,i<x.2.1.c.1->Bd B (x.c.1.1 i))(hj:Bd B x.1.1)(ha:Bd B x.2.1.d.c.1)(hl:Lb B x.d.b.2.1.1.1)(hw:x.d.b.2.1.1.c.1=w):Po (bU x) (λy:gH=>Bd B y.2.1.d.c.1/\Lb B y.d.b.2.1.1.1/\y.d.b.2.1.1.c.1=w):=by
 unfold bU jR;try dsimp only
 show PW _ _;try dsimp only
 refine bB (apt _) λd _ hd=> ?_;rw[aZ];refine⟨λ_=>by rw[aR];exact⟨ha,hl,hw⟩,λ_=> ?_⟩;rw[aZ];refine⟨λ_=>by rw[aR];exact⟨ha,hl,hw⟩,λc=> ?_⟩
 have tj:Bd B d.1.1.1:=by
  have c:d.1.2.1=true:=by
   cases h:d.1.2.1 with
   |true=>rfl
   |false=>rw[h] at c;cases c
  rw[(hd.1 c).1];exact hj
 repeat' (first
  |(rw[kD];exact trivial)
  |(with_reducible refine bB (a25 B w _ ?_ ?_ ?_ ?_ ?_) λy _ hy=> ?_)
  |(rw[qR];refine⟨λ_ _=> ?_,λ_ _=> ?_⟩)
  |(rw[aZ];refine⟨λ_=> ?_,λ_=> ?_⟩)
  |(rw[dA];intro _ _))
 all_goals first
  |exact hr
  |exact tj
  |exact ha
  |exact hl
  |exact hw
  |(rw[aR];exact hy)
theorem aQm (T:Int)(h0:0<=T)(h1:T<=1125899906842624):Po (jQ T 8000 0 0 0 0 0 (-84238486)) (λr:IF=>r=true):=by
 have hL:DH (0,T,8000,0,0,0,0,0, -84238486)=some (.inr ((3,false),T,8000,0,0,0,0,0, -84238486)):=by kernel_rfl
 unfold jQ Au;show PW _ _;rw[hL,dA];intro y hy;have hy:=OE hy;subst hy;rw[ij];refine⟨λa ha=>(by cases ha),λa ha=> ?_⟩;have ha:=Sum.inr.inj ha;subst ha;rw[aZ];refine⟨λ_=> ?_,λc=>absurd (show(8000:Int)>=1 by decide) (pP c)⟩;rw[aZ];refine⟨λ_=> ?_,λc=>absurd (show(8000:Int)<=100000 by decide) (pP c)⟩;rw[aZ];refine⟨λ_=> ?_,λc=>absurd (show T>=0 from h0) (pP c)⟩;rw[aR];exact gF h1
theorem aKk (x:fw.B)(T:Int)(hx:x.1=(T,8000,(0,0,0),0,0, -84238486))(h0:0<=T)(h1:T<=1125899906842624)(ha:x.2.1.2.2=true->x.2.1.2.1.1<T)(p0:0<=x.2.1.2.1.2.1)(p1:x.2.1.2.1.2.1<=100000)(tg:x.2.1.1=8000):Po (dD x) (λe:pe=>e.1.2.1=true):=by
 unfold dD jX;try dsimp only
 show PW _ _;rw[hx];try dsimp only
 refine bB (aQm T h0 h1) λg _ hg=> ?_;rw[hg,aZ];refine⟨λc=>Bool.noConfusion c,λ_=> ?_⟩
 repeat' (first
  |(with_reducible refine bB (aUv _) λd _ hd=> ?_)
  |(rw[aZ];refine⟨λc=> ?_,λc=> ?_⟩))
 all_goals first
  |(rw[aR];done)
  |(exfalso
    have c:=eK c;first
    |(have h2:d.1.2.1=wI (x.2.1.2.1.2.1+8000):=hd.2;rw[fS (by omega) (by omega)] at h2;omega)
    |(rename_i c2;have:=ha c2;omega)
    |(rename_i c2 _;have:=ha c2;omega))
theorem aZ8 (B t:Int)(mon:((Nat->Int)×(Nat->Int)×(Nat->Bool)×(Nat->Int)×(Nat->Int)×(Nat->Int))×Int)(smp:(Int×(Int×Int×(Int×Int×Int)×Int×Int×Int)×Bool))(hl:Lb B mon.1.1)(ht:∀j,j<6->mon.1.c.1 j=10000)(h:0<=t)(hB:t<=4000000000000000)(h0:0<=B):∀(d:cI.B) (hd:((d.2.1.c.1.2=1/\d.d.c.2.1.2.1 (d.2.1.c.1.1+0)=t/\d.c.1.b.1=0/\d.c.2.1.b.1=0/\d.c.b.1.b.1=0/\d.c.b.2.1.b.1=0/\d.d.1.b.1=0/\d.d.2.1.b.1=0/\d.d.b.1=mon/\d.2.1.1.d.1=20000/\Bd B d.2.1.d.c.1/\d.d.c.1.1=t/\d.2.1.1.2.1=0/\d.b.2.1=smp)∨(d.2.1.c.1.2=0/\(B+20000<t->(¬d.2.1.c.2.1.1=3/\d.2.1.c.2.1.b.1=false/\(2<=d.2.1.c.2.1.1->d.2.1.c.2.1.b.2=true)))/\Bd B d.2.1.d.c.1/\d.2.1.d.c.2.1=t/\d.c.1.b.1=0/\d.c.2.1.b.1=0/\d.c.b.1.b.1=0/\d.c.b.2.1.b.1=0/\d.d.1.b.1=0/\d.d.2.1.b.1=0/\d.d.b.1=mon/\d.b.2.1=smp))),Po (gY d) (λx:gX=>match x with|.inl _=>False|.inr e=>(B+20000<t->(¬e.2.1.c.1.1=3/\e.2.1.c.1.b.1=false/\(2<=e.2.1.c.1.1->e.2.1.c.1.b.2=true)))/\Bd B e.2.1.d.b.2.1/\e.2.1.d.c.1=t/\e.c.1.b.1=0/\e.c.2.1.b.1=0/\e.c.b.1.b.1=0/\e.c.b.2.1.b.1=0/\e.d.1.b.1=0/\e.d.2.1.b.1=0/\e.d.b.1=mon/\e.1.2.1.2=0/\e.b.2.1=smp):=
 Dh (λd hd=>by
  unfold ly;dsimp only;rcases hd with hd|hd
  .obtain⟨q1,q2,l0,l1,l2,l3,l4,l5,hm,hL,ha,hj,hD,hsm⟩:=hd;rw[aZ];refine⟨λ_=> ?_,λc=>absurd (pP c) (by rw[q1];decide)⟩;rw[cU];intro _;rw[aZ];refine⟨λ_=> ?_,λc=>absurd (pP c) (by rw[q2,hj,hD,Int.sub_zero,fS (by omega) (by omega)];omega)⟩
   repeat' (first
    |(rw[kD];exact trivial)
    |(rw[cU];intro _))
   rw[dA];intro e he;have k1:=aM9 B _ l0 l1 l2 l3 l4 l5 (by show Lb B d.d.b.1.1.1;rw[hm];exact hl) (by show∀j,j<6->d.d.b.1.1.c.1 j=10000;rw[hm];exact ht) hL ha (by show d.d.c.2.1.2.1 (d.2.1.c.1.1+0)<=_;rw[q2];exact hB) e he;have k2:=(@xU (d.2.1.c.1.2-1) _ ⟨rfl⟩).h e he;have k2:e.1.1.c.1=d.2.1.c.1.2-1:=k2.h;obtain⟨s0,s1,s2,b0,b1,b2,b3,b4,b5,sm⟩:=k1;rw[aR];refine .inr ⟨?_,λhc=>s0 (by show B+20000<d.d.c.2.1.2.1 (d.2.1.c.1.1+0);rw[q2];exact hc),?_,?_,b0,b1,b2,b3,b4,b5,?_,hsm⟩
   .show e.1.1.c.1=0;rw[k2,q1]
   .show Bd B e.1.1.d.c.1;rw[s1];exact ha
   .exact s2.trans q2
   .exact sm.trans hm
  .obtain⟨q1,s0,s1,s2,l0,l1,l2,l3,l4,l5,hm,hsm⟩:=hd;rw[aZ];refine⟨λc=>absurd (eK c) (by rw[q1];decide),λ_=> ?_⟩;rw[aR];exact⟨s0,s1,s2,l0,l1,l2,l3,l4,l5,hm,q1,hsm⟩)
theorem aZ9 (B t:Int)(d:cJ.B)(hl:Lb B d.d.2.1.1.1)(ht:∀j,j<6->d.d.2.1.1.c.1 j=10000)(h:0<=t)(hB:t<=4000000000000000)(h0:0<=B)(q:d.1.c.1=0)(hj:d.d.b.2.1.1=t)(hD:d.1.1.2.1=0)(hL:d.1.1.d.1=20000)(ha:Bd B d.1.d.c.1)(l0:d.b.2.1.b.1=0)(l1:d.c.1.b.1=0)(l2:d.c.2.1.b.1=0)(l3:d.c.b.1.b.1=0)(l4:d.c.b.2.1.b.1=0)(l5:d.d.1.b.1=0):Po (cR d) (λy:eY=>(B+20000<t->(¬y.2.1.c.2.1.1=3/\y.2.1.c.2.1.b.1=false/\(2<=y.2.1.c.2.1.1->y.2.1.c.2.1.b.2=true)))/\Bd B y.2.1.d.c.1/\y.2.1.d.c.2.1=t/\y.c.2.1.b.1=0/\y.c.b.1.b.1=0/\y.c.b.2.1.b.1=0/\y.d.1.b.1=0/\y.d.2.1.b.1=0/\y.d.b.1.b.1=0/\y.d.b.2.1=d.d.2.1/\y.2.1.c.1.2=0/\y.b.2.1=d.b.1):=by
 unfold cR lz;try dsimp only
 show PW _ _;try dsimp only
 repeat (rw[cU];intro _)
 refine bB (aZ8 B t d.d.2.1 d.b.1 hl ht h hB h0 _ (.inl ⟨?_,?_,l0,l1,l2,l3,l4,l5,rfl,hL,ha,hj,hD,rfl⟩)) λx _ hx=> ?_
 .show d.1.c.1+1=1;rw[q]
 .show(bif Nat.beq (0+0) d.1.c.1 then d.d.b.2.1.1 else d.d.c.1.1 (0+(0+0)))=t;rw[q];exact hj
 rw[ij];refine⟨λa e=>by subst e;exact absurd hx id,λa e=> ?_⟩;subst e;rw[aR];obtain⟨s0,s1,s2,b0,b1,b2,b3,b4,b5,sm,sq,ss⟩:=hx;exact⟨s0,s1,s2,b0,b1,b2,b3,b4,b5,sm,sq,ss⟩
theorem a27 (t:Int)(t0: -9223372036854775808<=t)(t1:t<=9223372036854775807):∀(d:cI.B) (hd:((d.2.1.c.1.2=1/\d.d.c.2.1.2.1 (d.2.1.c.1.1+0)=t/\d.d.c.1.1=t/\d.2.1.1.2.1=0)∨d.2.1.c.1.2=0)),Po (gY d) (λx:gX=>match x with|.inl _=>False|.inr e=>e.1.2.1.2=0):=
 Dh (λd hd=>by
  unfold ly;dsimp only;rcases hd with hd|hd
  .obtain⟨q1,q2,hj,hD⟩:=hd;rw[aZ];refine⟨λ_=> ?_,λc=>absurd (pP c) (by rw[q1];decide)⟩;rw[cU];intro _;rw[aZ];refine⟨λ_=> ?_,λc=>absurd (pP c) (by rw[q2,hj,hD,Int.sub_zero,show wI t=t from wrap_i64 t0 t1];omega)⟩
   repeat' (first
    |(rw[kD];exact trivial)
    |(rw[cU];intro _))
   rw[dA];intro e he;have k2:=(@xU (d.2.1.c.1.2-1) _ ⟨rfl⟩).h e he;have k2:e.1.1.c.1=d.2.1.c.1.2-1:=k2.h;rw[aR];refine .inr ?_;show e.1.1.c.1=0;rw[k2,q1]
  .rw[aZ];refine⟨λc=>absurd (eK c) (by rw[hd];decide),λ_=> ?_⟩;rw[aR];exact hd)
theorem a0a (M t:Int)(hM:M<=t)(t0: -9223372036854775808<=t)(t1:t<=9223372036854775807):∀(d:cI.B) (hd:((d.2.1.c.1.2=1/\d.d.c.2.1.2.1 (d.2.1.c.1.1+0)=t/\d.d.c.1.1=t/\d.2.1.1.2.1=0/\(∀j,j<d.c.1.b.1->d.d.c.b.2.1.1 j<=M)/\(∀j,j<d.c.2.1.b.1->d.e.1.1 j<=M)/\(∀j,j<d.c.b.1.b.1->d.e.2.1.1 j<=M)/\(∀j,j<d.c.b.2.1.b.1->d.e.b.1.1 j<=M)/\(∀j,j<d.d.1.b.1->d.e.b.2.1.1 j<=M)/\(∀j,j<d.d.2.1.b.1->d.e.c.1.1 j<=M))∨(d.2.1.c.1.2=0/\d.c.1.b.1=0/\d.c.2.1.b.1=0/\d.c.b.1.b.1=0/\d.c.b.2.1.b.1=0/\d.d.1.b.1=0/\d.d.2.1.b.1=0))),Po (gY d) (λx:gX=>match x with|.inl _=>False|.inr e=>e.1.2.1.2=0/\e.c.1.b.1=0/\e.c.2.1.b.1=0/\e.c.b.1.b.1=0/\e.c.b.2.1.b.1=0/\e.d.1.b.1=0/\e.d.2.1.b.1=0):=
 Dh (λd hd=>by
  unfold ly;dsimp only;rcases hd with hd|hd
  .obtain⟨q1,q2,hj,hD,h0,h1,h2,h3,h4,h5⟩:=hd;rw[aZ];refine⟨λ_=> ?_,λc=>absurd (pP c) (by rw[q1];decide)⟩;rw[cU];intro _;rw[aZ];refine⟨λ_=> ?_,λc=>absurd (pP c) (by rw[q2,hj,hD,Int.sub_zero,show wI t=t from wrap_i64 t0 t1];omega)⟩
   repeat' (first
    |(rw[kD];exact trivial)
    |(rw[cU];intro _))
   rw[dA];intro e he;have k2:=(@xU (d.2.1.c.1.2-1) _ ⟨rfl⟩).h e he;have k2:e.1.1.c.1=d.2.1.c.1.2-1:=k2.h;have k1:=aZ6 M _ (by show M<=d.d.c.2.1.2.1 (d.2.1.c.1.1+0);rw[q2];exact hM) (zr h0) (zr h1) (zr h2) (zr h3) (zr h4) (zr h5) e he;rw[aR];refine .inr ⟨?_,k1⟩;show e.1.1.c.1=0;rw[k2,q1]
  .obtain⟨q1,l⟩:=hd;rw[aZ];refine⟨λc=>absurd (eK c) (by rw[q1];decide),λ_=> ?_⟩;rw[aR];exact⟨q1,l⟩)
theorem a28 (d:cJ.B)(t0: -9223372036854775808<=d.d.b.2.1.1)(t1:d.d.b.2.1.1<=9223372036854775807)(q:d.1.c.1=0)(hD:d.1.1.2.1=0):Po (cR d) (λy:eY=>y.2.1.c.1.2=0):=by
 unfold cR lz;try dsimp only
 show PW _ _;try dsimp only
 repeat (rw[cU];intro _)
 refine bB (a27 d.d.b.2.1.1 t0 t1 _ (.inl ⟨?_,?_,rfl,hD⟩)) λx _ hx=> ?_
 .show d.1.c.1+1=1;rw[q]
 .show(bif Nat.beq (0+0) d.1.c.1 then d.d.b.2.1.1 else d.d.c.1.1 (0+(0+0)))=d.d.b.2.1.1;rw[q];rfl
 rw[ij];refine⟨λa e=>by subst e;exact absurd hx id,λa e=> ?_⟩;subst e;rw[aR];exact hx
theorem a0b (M:Int)(d:cJ.B)(hM:M<=d.d.b.2.1.1)(t0: -9223372036854775808<=d.d.b.2.1.1)(t1:d.d.b.2.1.1<=9223372036854775807)(q:d.1.c.1=0)(hD:d.1.1.2.1=0)(h0:∀j,j<d.b.2.1.b.1->d.d.c.b.1.1 j<=M)(h1:∀j,j<d.c.1.b.1->d.d.c.b.2.1.1 j<=M)(h2:∀j,j<d.c.2.1.b.1->d.e.1.1 j<=M)(h3:∀j,j<d.c.b.1.b.1->d.e.2.1.1 j<=M)(h4:∀j,j<d.c.b.2.1.b.1->d.e.b.1.1 j<=M)(h5:∀j,j<d.d.1.b.1->d.e.b.2.1.1 j<=M):Po (cR d) (λy:eY=>y.2.1.c.1.2=0/\y.c.2.1.b.1=0/\y.c.b.1.b.1=0/\y.c.b.2.1.b.1=0/\y.d.1.b.1=0/\y.d.2.1.b.1=0/\y.d.b.1.b.1=0):=by
 unfold cR lz;try dsimp only
 show PW _ _;try dsimp only
 repeat (rw[cU];intro _)
 refine bB (a0a M d.d.b.2.1.1 hM t0 t1 _ (.inl ⟨?_,?_,rfl,hD,h0,h1,h2,h3,h4,h5⟩)) λx _ hx=> ?_
 .show d.1.c.1+1=1;rw[q]
 .show(bif Nat.beq (0+0) d.1.c.1 then d.d.b.2.1.1 else d.d.c.1.1 (0+(0+0)))=d.d.b.2.1.1;rw[q];rfl
 rw[ij];refine⟨λa e=>by subst e;exact absurd hx id,λa e=> ?_⟩;subst e;rw[aR];exact hx
theorem a29 (x:eo.B)(h0: -9223372036854775808<=x.1.1)(h1:x.1.1<=9223372036854775807)(q:x.2.1.c.1=0)(hD:x.2.1.1.2.1=0):Po (bU x) (λy:gH=>y.2.1.c.1.2=0):=by
 unfold bU jR;try dsimp only
 show PW _ _;try dsimp only
 refine bB (apt _) λd _ hd=> ?_;rw[aZ];refine⟨λ_=>by rw[aR];exact q,λ_=> ?_⟩;rw[aZ];refine⟨λ_=>by rw[aR];exact q,λc=> ?_⟩
 have tj:d.1.1.1=x.1.1:=by
  have c:d.1.2.1=true:=by
   cases h:d.1.2.1 with
   |true=>rfl
   |false=>rw[h] at c;cases c
  exact(hd.1 c).1
 repeat' (first
  |(rw[kD];exact trivial)
  |(with_reducible refine bB (a28 _ ?_ ?_ ?_ ?_) λy _ hy=> ?_)
  |(rw[qR];refine⟨λ_ _=> ?_,λ_ _=> ?_⟩)
  |(rw[aZ];refine⟨λ_=> ?_,λ_=> ?_⟩)
  |(rw[dA];intro _ _))
 all_goals first
  |exact q
  |exact hD
  |exact(show -9223372036854775808<=d.1.1.1 by rw[tj];exact h0)
  |exact(show d.1.1.1<=9223372036854775807 by rw[tj];exact h1)
  |(rw[aR];exact hy)
theorem aVT (M t:Int)(x:fW.B)(hx:wI (x.1.1+8000)=t)(hM:M<=t)(h0:0<=t)(h1:t<=1125899906842624)(q:x.2.1.c.1=0)(hD:x.2.1.1.2.1=0)(c0:∀j,j<x.c.2.1.b.1->x.d.c.b.1.1 j<=M)(c1:∀j,j<x.c.b.1.b.1->x.d.c.b.2.1.1 j<=M)(c2:∀j,j<x.c.b.2.1.b.1->x.e.1.1 j<=M)(c3:∀j,j<x.d.1.b.1->x.e.2.1.1 j<=M)(c4:∀j,j<x.d.2.1.b.1->x.e.b.1.1 j<=M)(c5:∀j,j<x.d.b.1.b.1->x.e.b.2.1.1 j<=M)(hs:x.b.2.1.2.2=true->x.b.2.1.2.1.1<t)(p0:0<=x.b.2.1.2.1.2.1)(p1:x.b.2.1.2.1.2.1<=100000)(tg:x.b.2.1.1=8000):Po (cY x) (λe:kv=>e.1.c.2.1.2=0/\e.c.1.b.1=0/\e.c.2.1.b.1=0/\e.c.b.1.b.1=0/\e.c.b.2.1.b.1=0/\e.d.1.b.1=0/\e.d.2.1.b.1=0/\e.1.1.1=t):=by
 unfold cY sf;try dsimp only
 show PW _ _;try dsimp only
 rw[aiZ,dA];intro s hs';have hs':=OE hs';subst hs';repeat (rw[cU];intro _)
 have key:∀y:eo.B,y.1=(t,8000,(0,0,0),0,0, -84238486)->y.2=x.2->Po (bU y) (λy:gH=>y.2.1.c.1.2=0/\y.c.2.1.b.1=0/\y.c.b.1.b.1=0/\y.c.b.2.1.b.1=0/\y.d.1.b.1=0/\y.d.2.1.b.1=0/\y.d.b.1.b.1=0/\y.1.2=0):=by
  intro y hy he;obtain⟨y0,y1⟩:=y;have he:y1=x.2:=he;have hy:y0=_:=hy;subst he hy;unfold bU jR;try dsimp only
  show PW _ _;try dsimp only
  refine bB ((apt _).and (aKk _ t rfl h0 h1 hs p0 p1 tg)) λd _ hd=> ?_;obtain⟨⟨d1,d2,d3,d4⟩,d0⟩:=hd;obtain⟨e1,e2,e3⟩:=d1 d0;have e1:d.1.1.1=t:=e1;rw[e2,d0,show((0:Int)!=0)=false from rfl,aZ];refine⟨λc=>Bool.noConfusion c,λ_=> ?_⟩;rw[show(!true)=false from rfl,aZ];refine⟨λc=>Bool.noConfusion c,λ_=> ?_⟩
  repeat' (first
   |(rw[kD];exact trivial)
   |(with_reducible refine bB (a0b M _ ?_ ?_ ?_ ?_ ?_ ?_ ?_ ?_ ?_ ?_ ?_) λy _ hy=> ?_)
   |(rw[qR];refine⟨λ_ _=> ?_,λ_ _=> ?_⟩)
   |(rw[aZ];refine⟨λ_=> ?_,λ_=> ?_⟩)
   |(rw[dA];intro _ _))
  all_goals first
   |exact q
   |exact hD
   |exact c0
   |exact c1
   |exact c2
   |exact c3
   |exact c4
   |exact c5
   |exact(show M<=d.1.1.1 by rw[e1];exact hM)
   |exact(show -9223372036854775808<=d.1.1.1 by rw[e1];omega)
   |exact(show d.1.1.1<=9223372036854775807 by rw[e1];omega)
   |(rw[aR];exact⟨hy.1,hy.2.1,hy.b.1,hy.b.2.1,hy.c.1,hy.c.2.1,hy.c.2.2,rfl⟩)
 refine bB (key _ ?_ rfl) λy _ hy=> ?_
 .show(wI (x.1.1+8000),(8000:Int),((0:Int),(0:Int),(0:Int)),(0:Int),(0:Int),(-84238486:Int))=_;rw[hx]
 obtain⟨sq,b0,b1,b2,b3,b4,b5,e0⟩:=hy;rw[e0,show((0:Int)==0)=true from rfl,aZ];refine⟨λ_=> ?_,λc=>Bool.noConfusion c⟩;repeat (rw[cU];intro _)
 refine bB (abY (rfl:iI _=some _)).po λd _ hd=> ?_;subst hd;rw[aR];exact⟨sq,b0,b1,b2,b3,b4,b5,hx⟩
def Jp (L p1 p8 aid:Int)(ql:Nat)(smp:(Int×(Int×Int×(Int×Int×Int)×Int×Int×Int)×Bool))(mon:((Nat->Int)×(Nat->Int)×(Nat->Bool)×(Nat->Int)×(Nat->Int)×(Nat->Int))×Int):Prop:=p1=0/\p8=20000/\Bd L aid/\ql=0/\smp.1=8000/\smp.2.1.1=L/\0<=smp.2.1.2.1/\smp.2.1.2.1<=100000/\(smp.2.2=false->L=0)/\(0<=L/\L<=1125899906842624)/\Lb L mon.1.1/\∀j,j<6->mon.1.c.1 j=10000
theorem Lb.up' {L T:Int}{r:Nat->Int}(h:Lb L r)(t:L<=T):Lb T r:=λk=>⟨(h k).1,AZ (h k).2 t⟩
theorem a0c (x:eo.B):Po (bU x) (λe:gH=>e.1.2≠0->e.2.1.1=x.2.1.1/\e.2.1.d.c.1=x.2.1.d.c.1/\e.2.1.c.1.2=x.2.1.c.1/\e.d.b.2.1=x.d.b.2.1/\e.c.2.1=x.c.2.1/\e.c.b.1=x.c.b.1/\e.c.b.2.1=x.c.b.2.1/\e.d.1=x.d.1/\e.d.2.1=x.d.2.1/\e.d.b.1=x.d.b.1/\e.d.c.b.1=x.d.c.b.1/\e.d.c.b.2.1=x.d.c.b.2.1/\e.e.1=x.e.1/\e.e.2.1=x.e.2.1/\e.e.b.1=x.e.b.1/\e.e.b.2.1=x.e.b.2.1):=by
 unfold bU jR;try dsimp only
 show PW _ _;try dsimp only
 rw[dA];intro d _;rw[aZ];refine⟨λ_=>by rw[aR];exact λ_=>⟨rfl,rfl,rfl,rfl,rfl,rfl,rfl,rfl,rfl,rfl,rfl,rfl,rfl,rfl,rfl,rfl⟩,λc=> ?_⟩
 have e0:d.1.2.2=0:=by
  have c:(!(d.1.2.2==0))=false:=c;rw[agq] at c;exact eq_of_beq c
 rw[aZ];refine⟨λ_=>by rw[aR];exact λh=>absurd e0 h,λ_=> ?_⟩
 repeat' (first
  |(rw[kD];exact trivial)
  |(rw[ij];refine⟨λa ha=> ?_,λa ha=> ?_⟩<;>subst ha)
  |(rw[qR];refine⟨λa ha=> ?_,λa ha=> ?_⟩<;>subst ha)
  |(rw[aZ];refine⟨λc=> ?_,λc=> ?_⟩)
  |(rw[dA];intro _ _))
 all_goals (rw[aR];exact λh=>absurd (show(0:Int)=0 from rfl) h)
theorem a0d (L:Int)(x:eo.B)(h:Jp L x.2.1.1.2.1 x.2.1.1.d.1 x.2.1.d.c.1 x.2.1.c.1 x.b.2.1 x.d.b.2.1)(hc:(∀j,j<x.c.2.1.b.1->x.d.c.b.1.1 j<=L)/\(∀j,j<x.c.b.1.b.1->x.d.c.b.2.1.1 j<=L)/\(∀j,j<x.c.b.2.1.b.1->x.e.1.1 j<=L)/\(∀j,j<x.d.1.b.1->x.e.2.1.1 j<=L)/\(∀j,j<x.d.2.1.b.1->x.e.b.1.1 j<=L)/\(∀j,j<x.d.b.1.b.1->x.e.b.2.1.1 j<=L)):Po (bU x) (λe:gH=>∃T,(e.1.2=0->T=x.1.1)/\(e.1.2≠0->T=L)/\L<=T/\Jp T e.2.1.1.2.1 e.2.1.1.d.1 e.2.1.d.c.1 e.2.1.c.1.2 e.b.2.1 e.d.b.2.1/\(∀j,j<e.c.2.1.b.1->e.d.c.b.1.1 j<=T)/\(∀j,j<e.c.b.1.b.1->e.d.c.b.2.1.1 j<=T)/\(∀j,j<e.c.b.2.1.b.1->e.e.1.1 j<=T)/\(∀j,j<e.d.1.b.1->e.e.2.1.1 j<=T)/\(∀j,j<e.d.2.1.b.1->e.e.b.1.1 j<=T)/\(∀j,j<e.d.b.1.b.1->e.e.b.2.1.1 j<=T)):=by
 intro e he;obtain⟨j1,j8,ja,jq,jt,jS,jp0,jp1,a0e,⟨jL0,jL1⟩,jl,jw⟩:=h;obtain⟨c0,c1,c2,c3,c4,c5⟩:=hc;obtain⟨s1,s2,s3,s4⟩:=aZ0 x e he;by_cases z:e.1.2=0
 .obtain⟨t0,t1,t2⟩:=s4 z
  have hLT:L<=x.1.1:=by
   cases ha:x.b.2.1.2.2 with
   |true=>have:=t2 ha;rw[jS] at this;omega
   |false=>rw[a0e ha];exact t0
  obtain⟨u1,u2,u3⟩:=s2 z;have u3:=u3 jp0 jp1 (by rw[jt];decide);have a:=a26 x.1.1 x.d.b.2.1.1.c.1 x (λi hi=>absurd hi (by rw[jq];exact Nat.not_lt_zero i)) ⟨t0,eZ _⟩ ⟨ja.1,AZ ja.2 hLT⟩ (jl.up' hLT) rfl e he;have q:=a29 x (by omega) (by omega) jq j1 e he;haveI k0:Rb x.1.1 x.c.2.1.b.1 x.d.c.b.1.1:=⟨λi hi=>AZ (c0 i hi) hLT⟩
  haveI k1:Rb x.1.1 x.c.b.1.b.1 x.d.c.b.2.1.1:=⟨λi hi=>AZ (c1 i hi) hLT⟩
  haveI k2:Rb x.1.1 x.c.b.2.1.b.1 x.e.1.1:=⟨λi hi=>AZ (c2 i hi) hLT⟩
  haveI k3:Rb x.1.1 x.d.1.b.1 x.e.2.1.1:=⟨λi hi=>AZ (c3 i hi) hLT⟩
  haveI k4:Rb x.1.1 x.d.2.1.b.1 x.e.b.1.1:=⟨λi hi=>AZ (c4 i hi) hLT⟩
  haveI k5:Rb x.1.1 x.d.b.1.b.1 x.e.b.2.1.1:=⟨λi hi=>AZ (c5 i hi) hLT⟩
  obtain⟨r0,r1,r2,r3,r4,r5⟩:=(au0 x).h e he;haveI i0:Ek x.2.1.1.2.1 x.2.1.1.2.1:=⟨rfl⟩
  haveI i1:Ek x.2.1.1.d.1 x.2.1.1.d.1:=⟨rfl⟩
  haveI i2:Ek x.b.2.1.1 x.b.2.1.1:=⟨rfl⟩
  haveI i3:Ek x.d.b.2.1.1.c.1 x.d.b.2.1.1.c.1:=⟨rfl⟩
  obtain⟨v0,v1,v2,v3⟩:=(au1 x).h e he;refine⟨x.1.1,λ_=>rfl,λn=>absurd z n,hLT,⟨v0.h.trans j1,v2.h.trans j8,a.1,q,s1.trans jt,u1,u3.1,u3.2,λn=> ?_,⟨t0,t1⟩,a.2.1,?_⟩,r0.h,r1.h,r2.h,r3.h,r4.h,r5.h⟩
  .rw[u2] at n;cases n
  .rw[a.2.2];exact jw
 .obtain⟨f0,f1,f2,f3,b0,b1,b2,b3,b4,b5,w0,w1,w2,w3,w4,w5⟩:=a0c x e he z;have f4:=s3 z;refine⟨L,λn=>absurd n z,λ_=>rfl,eZ _,?_,?_⟩
  .rw[f0,f1,f2,f3,f4];exact⟨j1,j8,ja,jq,jt,jS,jp0,jp1,a0e,⟨jL0,jL1⟩,jl,jw⟩
  .rw[b0,b1,b2,b3,b4,b5,w0,w1,w2,w3,w4,w5];exact⟨c0,c1,c2,c3,c4,c5⟩
theorem aUw (L:Int)(x:fW.B)(hL:x.1.1=L)(h:Jp L x.2.1.1.2.1 x.2.1.1.d.1 x.2.1.d.c.1 x.2.1.c.1 x.b.2.1 x.d.b.2.1)(hc:(∀j,j<x.c.2.1.b.1->x.d.c.b.1.1 j<=L)/\(∀j,j<x.c.b.1.b.1->x.d.c.b.2.1.1 j<=L)/\(∀j,j<x.c.b.2.1.b.1->x.e.1.1 j<=L)/\(∀j,j<x.d.1.b.1->x.e.2.1.1 j<=L)/\(∀j,j<x.d.2.1.b.1->x.e.b.1.1 j<=L)/\(∀j,j<x.d.b.1.b.1->x.e.b.2.1.1 j<=L)):Po (cY x) (λe:kv=>∃T,e.1.1.1=T/\L<=T/\Jp T e.1.2.1.2.1 e.1.2.1.d.1 e.1.d.c.2.1 e.1.c.2.1.2 e.b.1 e.d.b.1/\(∀j,j<e.c.1.b.1->e.d.c.2.1.1 j<=T)/\(∀j,j<e.c.2.1.b.1->e.d.c.b.1.1 j<=T)/\(∀j,j<e.c.b.1.b.1->e.d.c.b.2.1.1 j<=T)/\(∀j,j<e.c.b.2.1.b.1->e.e.1.1 j<=T)/\(∀j,j<e.d.1.b.1->e.e.2.1.1 j<=T)/\(∀j,j<e.d.2.1.b.1->e.e.b.1.1 j<=T)):=by
 unfold cY sf;try dsimp only
 show PW _ _;try dsimp only
 rw[aiZ,dA];intro s hs';have hs':=OE hs';subst hs';repeat (rw[cU];intro _)
 with_reducible refine bB (a0d L _ ?_ ?_) λy _ hy=> ?_
 .exact h
 .exact hc
 obtain⟨T,t0,t1,hT,hJ,hC⟩:=hy;rw[aZ];refine⟨λc=> ?_,λc=> ?_⟩
 .have c:=eq_of_beq c;repeat (rw[cU];intro _)
  refine bB (abY (rfl:iI _=some _)).po λd _ hd=> ?_;subst hd;rw[aR];exact⟨T,(t0 c).symm,hT,hJ,hC⟩
 .have c:=alK c;repeat (rw[cU];intro _)
  refine bB (abY (rfl:iI _=some _)).po λd _ hd=> ?_;subst hd;rw[aR];exact⟨T,by show x.1.1=T;rw[hL,t1 c],hT,hJ,hC⟩
theorem aVU (L:Int)(x:gu.B)(hs:x.1.2.1<=L)(h:Jp L x.2.1.1.2.1 x.2.1.1.d.1 x.2.1.d.c.1 x.2.1.c.1 x.b.2.1 x.d.b.2.1)(hc:(∀j,j<x.c.2.1.b.1->x.d.c.b.1.1 j<=L)/\(∀j,j<x.c.b.1.b.1->x.d.c.b.2.1.1 j<=L)/\(∀j,j<x.c.b.2.1.b.1->x.e.1.1 j<=L)/\(∀j,j<x.d.1.b.1->x.e.2.1.1 j<=L)/\(∀j,j<x.d.2.1.b.1->x.e.b.1.1 j<=L)/\(∀j,j<x.d.b.1.b.1->x.e.b.2.1.1 j<=L)):Po (dJ x) (λe:ku=>Jp L e.2.1.1.2.1 e.2.1.1.d.1 e.2.1.d.c.1 e.2.1.c.1 e.b.2.1 e.d.b.2.1/\(∀j,j<e.c.2.1.b.1->e.d.c.b.1.2.1 j<=L)/\(∀j,j<e.c.b.1.b.1->e.d.c.b.2.1.2.1 j<=L)/\(∀j,j<e.c.b.2.1.b.1->e.e.1.2.1 j<=L)/\(∀j,j<e.d.1.b.1->e.e.2.1.2.1 j<=L)/\(∀j,j<e.d.2.1.b.1->e.e.b.1.2.1 j<=L)/\(∀j,j<e.d.b.1.b.1->e.e.b.2.1.2.1 j<=L)):=by
 intro e he
 have k:Po (dJ x) (λe:ku=>e.2.1=x.2.1/\e.b.2.1=x.b.2.1/\e.d.b.2.1=x.d.b.2.1):=by
  unfold dJ qy;try dsimp only
  show PW _ _;try dsimp only
  repeat' (first
  |(rw[kD];exact trivial)
  |(rw[ij];refine⟨λa ha=> ?_,λa ha=> ?_⟩<;>subst ha)
  |(rw[qR];refine⟨λa ha=> ?_,λa ha=> ?_⟩<;>subst ha)
  |(rw[aZ];refine⟨λc=> ?_,λc=> ?_⟩)
  |(rw[dA];intro _ _))
  all_goals (rw[aR];exact⟨rfl,rfl,rfl⟩)
 obtain⟨k1,k3,k11⟩:=k e he;obtain⟨c0,c1,c2,c3,c4,c5⟩:=hc;refine⟨?_,aHk L x hs c0 c1 c2 c3 c4 c5 e he⟩;rw[k1,k3,k11];exact h
theorem a1A (L:Int):∀(d:eF.B) (hd:∃T,d.2.1.1=T/\L<=T/\Jp T d.b.2.1.1.2.1 d.b.2.1.1.d.1 d.b.2.1.d.c.1 d.b.2.1.c.1.2 d.c.2.1 d.d.c.2.1/\(∀j,j<d.c.b.2.1.b.1->d.e.1.1 j<=T)/\(∀j,j<d.d.1.b.1->d.e.2.1.1 j<=T)/\(∀j,j<d.d.2.1.b.1->d.e.b.1.1 j<=T)/\(∀j,j<d.d.b.1.b.1->d.e.b.2.1.1 j<=T)/\(∀j,j<d.d.b.2.1.b.1->d.e.c.1.1 j<=T)/\(∀j,j<d.d.c.1.b.1->d.e.c.2.1.1 j<=T)),Po (nq d) (λx:np=>match x with|.inl x=>∃T,x.1.c.2.1=T/\L<=T/\Jp T x.b.2.1.1.2.1 x.b.2.1.1.d.1 x.b.2.1.d.c.1 x.b.2.1.c.1.2 x.c.2.1 x.d.c.2.1/\(∀j,j<x.c.b.2.1.b.1->x.e.1.1 j<=T)/\(∀j,j<x.d.1.b.1->x.e.2.1.1 j<=T)/\(∀j,j<x.d.2.1.b.1->x.e.b.1.1 j<=T)/\(∀j,j<x.d.b.1.b.1->x.e.b.2.1.1 j<=T)/\(∀j,j<x.d.b.2.1.b.1->x.e.c.1.1 j<=T)/\(∀j,j<x.d.c.1.b.1->x.e.c.2.1.1 j<=T)|.inr (.inl x)=>∃T,x.1.c.2.1=T/\L<=T/\Jp T x.b.2.1.1.2.1 x.b.2.1.1.d.1 x.b.2.1.d.c.1 x.b.2.1.c.1.2 x.c.2.1 x.d.c.2.1/\(∀j,j<x.c.b.2.1.b.1->x.e.1.1 j<=T)/\(∀j,j<x.d.1.b.1->x.e.2.1.1 j<=T)/\(∀j,j<x.d.2.1.b.1->x.e.b.1.1 j<=T)/\(∀j,j<x.d.b.1.b.1->x.e.b.2.1.1 j<=T)/\(∀j,j<x.d.b.2.1.b.1->x.e.c.1.1 j<=T)/\(∀j,j<x.d.c.1.b.1->x.e.c.2.1.1 j<=T)|.inr (.inr (.inl x))=>∃T,x.2.1.1=T/\L<=T/\Jp T x.b.2.1.1.2.1 x.b.2.1.1.d.1 x.b.2.1.d.c.1 x.b.2.1.c.1.2 x.c.2.1 x.d.c.2.1/\(∀j,j<x.c.b.2.1.b.1->x.e.1.1 j<=T)/\(∀j,j<x.d.1.b.1->x.e.2.1.1 j<=T)/\(∀j,j<x.d.2.1.b.1->x.e.b.1.1 j<=T)/\(∀j,j<x.d.b.1.b.1->x.e.b.2.1.1 j<=T)/\(∀j,j<x.d.b.2.1.b.1->x.e.c.1.1 j<=T)/\(∀j,j<x.d.c.1.b.1->x.e.c.2.1.1 j<=T)|.inr (.inr (.inr x))=>∃T,x.2.1.1=T/\L<=T/\Jp T x.b.2.1.1.2.1 x.b.2.1.1.d.1 x.b.2.1.d.c.1 x.b.2.1.c.1.2 x.c.2.1 x.d.c.2.1/\(∀j,j<x.c.b.2.1.b.1->x.e.1.1 j<=T)/\(∀j,j<x.d.1.b.1->x.e.2.1.1 j<=T)/\(∀j,j<x.d.2.1.b.1->x.e.b.1.1 j<=T)/\(∀j,j<x.d.b.1.b.1->x.e.b.2.1.1 j<=T)/\(∀j,j<x.d.b.2.1.b.1->x.e.c.1.1 j<=T)/\(∀j,j<x.d.c.1.b.1->x.e.c.2.1.1 j<=T)):=
 Dh (λd hd=>by
  have hd':=hd;obtain⟨T,hl,hT,hJ,c0,c1,c2,c3,c4,c5⟩:=hd;unfold AW;dsimp only;rw[aZ];refine⟨λ_=> ?_,λ_=>by rw[aR];exact hd'⟩;rw[aZ];refine⟨λ_=> ?_,λ_=>by rw[aR];exact hd'⟩;rw[aZ];refine⟨λ_=> ?_,λ_=>by rw[aR];exact hd'⟩;rw[aZ];refine⟨λ_=> ?_,λ_=>by rw[aR];exact hd'⟩;repeat (rw[cU];intro _)
  with_reducible refine bB (aUw T _ ?_ ?_ ?_) λy _ hy=> ?_
  .exact hl
  .exact hJ
  .exact⟨zr c0,zr c1,zr c2,zr c3,zr c4,zr c5⟩
  obtain⟨U,u0,u1,u2,u3⟩:=hy;rw[aR];exact⟨U,u0,AZ hT u1,u2,u3⟩)
theorem a0f (L:Int)(x:lU.B)(hL:x.2.1.1=L)(pY:x.1.1=1->x.1.c.1<=L)(h:Jp L x.b.1.1.2.1 x.b.1.1.d.1 x.b.1.d.c.1 x.b.1.c.1 x.c.1 x.d.c.1)(hc:(∀j,j<x.c.b.1.b.1->x.d.c.b.2.1.1 j<=L)/\(∀j,j<x.c.b.2.1.b.1->x.e.1.1 j<=L)/\(∀j,j<x.d.1.b.1->x.e.2.1.1 j<=L)/\(∀j,j<x.d.2.1.b.1->x.e.b.1.1 j<=L)/\(∀j,j<x.d.b.1.b.1->x.e.b.2.1.1 j<=L)/\(∀j,j<x.d.b.2.1.b.1->x.e.c.1.1 j<=L)):Po (jT x) (λr:ur=>match r with|.inl e=>∃T,e.1.1.1=T/\L<=T/\Jp T e.1.2.1.2.1 e.1.2.1.d.1 e.1.d.c.2.1 e.1.c.2.1 e.b.1 e.d.b.1/\(∀j,j<e.c.1.b.1->e.d.c.2.1.2.1 j<=T)/\(∀j,j<e.c.2.1.b.1->e.d.c.b.1.2.1 j<=T)/\(∀j,j<e.c.b.1.b.1->e.d.c.b.2.1.2.1 j<=T)/\(∀j,j<e.c.b.2.1.b.1->e.e.1.2.1 j<=T)/\(∀j,j<e.d.1.b.1->e.e.2.1.2.1 j<=T)/\(∀j,j<e.d.2.1.b.1->e.e.b.1.2.1 j<=T)|.inr e=>∃T,e.1.1=T/\L<=T/\Jp T e.2.1.1.2.1 e.2.1.1.d.1 e.2.1.d.c.1 e.2.1.c.1.2 e.b.2.1 e.d.b.2.1/\(∀j,j<e.c.2.1.b.1->e.d.c.b.1.1 j<=T)/\(∀j,j<e.c.b.1.b.1->e.d.c.b.2.1.1 j<=T)/\(∀j,j<e.c.b.2.1.b.1->e.e.1.1 j<=T)/\(∀j,j<e.d.1.b.1->e.e.2.1.1 j<=T)/\(∀j,j<e.d.2.1.b.1->e.e.b.1.1 j<=T)/\(∀j,j<e.d.b.1.b.1->e.e.b.2.1.1 j<=T)):=by
 unfold jT E4;try dsimp only
 show PW _ _;try dsimp only
 rw[aZ];refine⟨λo1=> ?_,λo1=> ?_⟩
 .have o1:=eq_of_beq o1;repeat (rw[cU];intro _)
  with_reducible refine bB (aVU L _ ?_ ?_ ?_) λe _ he=> ?_
  .exact pY o1
  .exact h
  .exact hc
  rw[aR];exact⟨L,hL,eZ _,he.1,he.2⟩
 rw[aZ];refine⟨λo0=> ?_,λo0=> ?_⟩
 .repeat (rw[cU];intro _)
  with_reducible refine bB (a0d L _ ?_ ?_) λy _ hy=> ?_
  .exact h
  .exact hc
  obtain⟨T,t0,t1,hT,hJ,hC⟩:=hy;rw[aZ];refine⟨λc=> ?_,λc=> ?_⟩
  .have c:=eq_of_beq c;repeat (rw[cU];intro _)
   refine bB (abY (rfl:nr _=some _)).po λd _ hd=> ?_;subst hd;rw[aR];exact⟨T,(t0 c).symm,hT,hJ,hC⟩
  .have c:=alK c;repeat (rw[cU];intro _)
   refine bB (abY (rfl:nr _=some _)).po λd _ hd=> ?_;subst hd;rw[aR];exact⟨T,by show x.2.1.1=T;rw[hL,t1 c],hT,hJ,hC⟩
 .repeat (rw[cU];intro _)
  refine bB (a1A L _ ⟨L,hL,eZ _,h,hc⟩) λy _ hy=> ?_
  repeat' (first
   |(rw[ij];refine⟨λa ha=> ?_,λa ha=> ?_⟩<;>subst ha))
  all_goals
   rw[aR];exact hy
def Pb (B:Int)(b:Bf):Prop:=b.2.1=B/\((b.2.2.1:Nat):Int)<=B
theorem Pb.br {B T:Int}{b c:Bf}(h:Pb B b)(k:BR T b c):Pb B c:=⟨k.2.1.trans h.1,by have:=k.len;have:=h.2;omega⟩
theorem Pb.pr {B:Int}{b c:Bf}(h:Pb B b)(k:PR b c∨SR b c):Pb B c:=by
 obtain⟨a,l⟩:=h;rcases k with k|k
 .obtain⟨k1,_,_,_,_,k6⟩:=k;refine⟨k1.trans a,?_⟩;rcases k6 with k6|k6|k6
  .rw[k6.2.2];exact l
  .have:=k6.2.2.2;omega
  .rw[k6.2.2];exact l
 .have e:=k.1;exact⟨by rw[e];exact a,by rw[e];exact l⟩
theorem Pb.len {B:Int}{b:Bf}(hB:B<=64)(h:Pb B b):b.2.2.1<=64:=by have:=h.2;omega
def IS (N:Nat)(B k:Int)(q:Nat×Nat)(T S:Int)(a:Bool)(row:Nat->Int)(b0 b1 b2 b3 b4 b5:Bf)(p:Int×Int×Nat):Prop:=((q.2:Nat):Int)<=k/\Tq T S a q.2 (λi=>row (q.1+i))/\Pb B b0/\Pb B b1/\Pb B b2/\Pb B b3/\Pb B b4/\Pb B b5/\p.1=N/\p.2.2<=N
theorem aUx (N:Nat)(h1:1<=N)(hN:N<=1999)(B:Int)(hB:B<=64)(k:Int)(hk:k<=1900)(q:Nat×Nat)(row:Nat->Int)(x:lU.B)(e1:x.b.1.c.1=q.2)(e2:x.c.2.1.1=λi=>row (q.1+i))(h:IS N B k q x.b.1.d.c.2.1 x.c.1.2.1.1 x.c.1.2.2 row x.c.b.1 x.c.b.2.1 x.d.1 x.d.2.1 x.d.b.1 x.d.b.2.1 x.d.c.2.1):Ok (jT x) (λr:ur=>match r with|.inl e=>IS N B (k+40) (0,e.1.c.2.1) e.1.d.c.b.1 e.b.1.2.1.1 e.b.1.2.2 e.b.2.1.1 e.c.1 e.c.2.1 e.c.b.1 e.c.b.2.1 e.d.1 e.d.2.1 e.d.b.2.1|.inr e=>IS N B (k+40) e.2.1.c.1 e.2.1.d.c.2.1 e.b.2.1.2.1.1 e.b.2.1.2.2 e.c.1.2.1 e.c.2.1 e.c.b.1 e.c.b.2.1 e.d.1 e.d.2.1 e.d.b.1 e.d.c.1):=by
 obtain⟨h0,h1',p0,p1,p2,p3,p4,p5,s0,s1⟩:=h;refine(a1w N h1 hN x (by rw[e1];omega) (p0.len hB) (p1.len hB) (p2.len hB) (p3.len hB) (p4.len hB) (p5.len hB) (by rw[s0];exact eZ _) s1 (by rw[e1,e2];exact h1')).mono λr hr=> ?_;cases r with
 |inl e=>
  obtain⟨o1,f1,f2,f3,f4,f11,f12,CH⟩:=hr;have f1:(e.1.2.1,e.1.2.2)=(x.b.1.1,x.b.1.2):=f1;have f5:e.1.c.2.1=x.b.1.c.1:=cO (λz=>z.c.1) f1;have f14:e.1.d.c.b.1=x.b.1.d.c.2.1:=cO (λz=>z.d.c.2.1) f1;show IS N B (k+40) (0,e.1.c.2.1) e.1.d.c.b.1 e.b.1.2.1.1 e.b.1.2.2 e.b.2.1.1 e.c.1 e.c.2.1 e.c.b.1 e.c.b.2.1 e.d.1 e.d.2.1 e.d.b.2.1;rw[f5,f14,f3,f4,f12];refine⟨by show((x.b.1.c.1:Nat):Int)<=k+40;rw[e1];omega,?_,?_⟩
  .show Tq x.b.1.d.c.2.1 x.c.1.2.1.1 x.c.1.2.2 x.b.1.c.1 (λi=>x.c.2.1.1 (0+i));rw[e1,e2];exact⟨h1'.1,h1'.2.up (eZ _) (λi=>by show row (q.1+(0+i))=row (q.1+i);rw[hI])⟩
  .have all:Pb B e.c.1/\Pb B e.c.2.1/\Pb B e.c.b.1/\Pb B e.c.b.2.1/\Pb B e.d.1/\Pb B e.d.2.1:=by
    rcases CH with⟨o2,c0,c1,c2,c3,c4,c5⟩| ⟨o2,c0,c1,c2,c3,c4,c5⟩| ⟨o2,c0,c1,c2,c3,c4,c5⟩| ⟨o2,c0,c1,c2,c3,c4,c5⟩| ⟨o2,c0,c1,c2,c3,c4,c5⟩| ⟨o2,c0,c1,c2,c3,c4,c5⟩| ⟨o2,c0,c1,c2,c3,c4,c5⟩
    .exact⟨by rw[c0];exact p0,by rw[c1];exact p1,by rw[c2];exact p2,by rw[c3];exact p3,by rw[c4];exact p4,by rw[c5];exact p5⟩
    .exact⟨p0.pr c0,by rw[c1];exact p1,by rw[c2];exact p2,by rw[c3];exact p3,by rw[c4];exact p4,by rw[c5];exact p5⟩
    .exact⟨by rw[c0];exact p0,p1.pr c1,by rw[c2];exact p2,by rw[c3];exact p3,by rw[c4];exact p4,by rw[c5];exact p5⟩
    .exact⟨by rw[c0];exact p0,by rw[c1];exact p1,p2.pr c2,by rw[c3];exact p3,by rw[c4];exact p4,by rw[c5];exact p5⟩
    .exact⟨by rw[c0];exact p0,by rw[c1];exact p1,by rw[c2];exact p2,p3.pr c3,by rw[c4];exact p4,by rw[c5];exact p5⟩
    .exact⟨by rw[c0];exact p0,by rw[c1];exact p1,by rw[c2];exact p2,by rw[c3];exact p3,p4.pr c4,by rw[c5];exact p5⟩
    .exact⟨by rw[c0];exact p0,by rw[c1];exact p1,by rw[c2];exact p2,by rw[c3];exact p3,by rw[c4];exact p4,p5.pr c5⟩
   obtain⟨a0,a1,a2,a3,a4,a5⟩:=all;exact⟨a0,a1,a2,a3,a4,a5,s0,s1⟩
 |inr e=>
  obtain⟨o1,a0,a1,a2,r0,r1,r2,r3,r4,r5,u0,u1⟩:=hr;have a0:((e.2.1.c.1.2:Nat):Int)<=x.b.1.c.1+40:=a0;rw[e1] at a0;show IS N B (k+40) e.2.1.c.1 e.2.1.d.c.2.1 e.b.2.1.2.1.1 e.b.2.1.2.2 e.c.1.2.1 e.c.2.1 e.c.b.1 e.c.b.2.1 e.d.1 e.d.2.1 e.d.b.1 e.d.c.1;exact⟨by omega,a1,p0.br r0,p1.br r1,p2.br r2,p3.br r3,p4.br r4,p5.br r5,u0.trans s0,u1⟩
theorem aVV (x:KH.B):Po (AA x) (λr:Qo=>match r with|.inl _=>pf x=some false|.inr _=>True):=by
 unfold AA ZB;try dsimp only
 show PW _ _;try dsimp only
 rw[dA];intro g hg;rw[aZ];refine⟨λc=> ?_,λ_=> ?_⟩
 .have g0:g=false:=by
   cases g with
   |false=>rfl
   |true=>cases c
  rw[aR,<-g0];exact hg
 .repeat' (first
   |(rw[kD];exact trivial)
   |(rw[aZ];refine⟨λ_=> ?_,λ_=> ?_⟩)
   |(rw[qR];refine⟨λe0 e1=> ?_,λe0 e1=> ?_⟩)
   |(rw[dA];intro _ _))
  all_goals (rw[aR];exact trivial)
theorem aVW (x:Lw.B):Ok (Gh x) (λr:S5=>match r with|.inl _=>pf x=some false|.inr e=>(1<=x.b.1/\x.b.1<=64/\1<=x.d.c.1/\x.d.c.1<=64)/\e.c.1=x.b.1/\e.c.2.1=x.b.1/\e.c.b.1=x.b.1/\e.c.b.2.1=x.b.1/\e.d.1=x.b.1/\e.d.2.1=x.b.1/\e.d.b.2.1.1=x.d.c.1):=by
 obtain⟨r,g,hr,aQn⟩:=(a1u x).with (aVV x)
 unfold Gh abV;show PQ _ _;rw[g,dL];cases r with
 |inl a=>
  have aQn:pf x=some false:=aQn;simp only[aV,dL,av];exact aQn
 |inr a=>
  obtain⟨b0,b1,o0,o1,s0,s1,s2,s3,s4,s5,u⟩:=hr;simp only[uu,dL,av];exact⟨⟨b0,b1,o0,o1⟩,s0,s1,s2,s3,s4,s5,u⟩
theorem a0h (B t:Int)(x:eo.B)(hx:x.1=(t,8000,(0,0,0),0,0, -84238486))(hl:Lb B x.d.b.2.1.1.1)(ht:∀j,j<6->x.d.b.2.1.1.c.1 j=10000)(h:0<=t)(h0:0<=B)(q:x.2.1.c.1=0)(hD:x.2.1.1.2.1=0)(hL:x.2.1.1.d.1=20000)(ha:Bd B x.2.1.d.c.1)(l0:x.c.2.1.b.1=0)(l1:x.c.b.1.b.1=0)(l2:x.c.b.2.1.b.1=0)(l3:x.d.1.b.1=0)(l4:x.d.2.1.b.1=0)(l5:x.d.b.1.b.1=0)(h1:t<=1125899906842624)(hs:x.b.2.1.2.2=true->x.b.2.1.2.1.1<t)(p0:0<=x.b.2.1.2.1.2.1)(p1:x.b.2.1.2.1.2.1<=100000)(tg:x.b.2.1.1=8000):Po (bU x) (λy:gH=>(B+20000<t->(¬y.2.1.c.2.1.1=3/\y.2.1.c.2.1.b.1=false/\(2<=y.2.1.c.2.1.1->y.2.1.c.2.1.b.2=true)))/\Bd B y.2.1.d.c.1/\y.2.1.d.c.2.1=t/\y.c.2.1.b.1=0/\y.c.b.1.b.1=0/\y.c.b.2.1.b.1=0/\y.d.1.b.1=0/\y.d.2.1.b.1=0/\y.d.b.1.b.1=0/\y.d.b.2.1=x.d.b.2.1/\y.2.1.c.1.2=0/\y.b.2.1.1=8000/\y.b.2.1.2.1.1=t/\y.b.2.1.2.1.2.1=0/\y.b.2.1.2.2=true/\y.1.2=0):=by
 unfold bU jR;try dsimp only
 show PW _ _;try dsimp only
 refine bB ((apt _).and (aKk _ t hx (by omega) h1 hs p0 p1 tg)) λd _ hd=> ?_;obtain⟨⟨d1,d2,d3,d4⟩,d0⟩:=hd;obtain⟨e1,e2,e3⟩:=d1 d0;obtain⟨f1,f2,_⟩:=d3 e2;have e1:d.1.1.1=t:=e1.trans (by show x.1.1=t;rw[hx]);have f1:d.2.1.2.1.1=t:=f1.trans (by show x.1.1=t;rw[hx]);have d2:d.2.1.1=8000:=d2.trans tg;rw[e2,d0,show((0:Int)!=0)=false from rfl,aZ];refine⟨λc=>Bool.noConfusion c,λ_=> ?_⟩;rw[show(!true)=false from rfl,aZ];refine⟨λc=>Bool.noConfusion c,λ_=> ?_⟩
 repeat' (first
  |(rw[kD];exact trivial)
  |(with_reducible refine bB (aZ9 B t _ ?_ ?_ ?_ ?_ ?_ ?_ ?_ ?_ ?_ ?_ ?_ ?_ ?_ ?_ ?_ ?_) λy _ hy=> ?_)
  |(rw[qR];refine⟨λ_ _=> ?_,λ_ _=> ?_⟩)
  |(rw[aZ];refine⟨λ_=> ?_,λ_=> ?_⟩)
  |(rw[dA];intro _ _))
 all_goals first
  |exact hl
  |exact ht
  |exact h
  |exact h0
  |exact q
  |exact e1
  |exact hD
  |exact hL
  |exact ha
  |exact l0
  |exact l1
  |exact l2
  |exact l3
  |exact l4
  |exact l5
  |exact(by omega:t<=4000000000000000)
  |skip
 all_goals
  rw[aR];obtain⟨s0,s1,s2,b0,b1,b2,b3,b4,b5,sm,sq,ss⟩:=hy;have ss:y.b.2.1=d.2.1:=ss;refine⟨s0,s1,s2,b0,b1,b2,b3,b4,b5,sm,sq,?_,?_,?_,?_,rfl⟩
  .show y.b.2.1.1=8000;rw[ss];exact d2
  .show y.b.2.1.2.1.1=t;rw[ss];exact f1
  .show y.b.2.1.2.1.2.1=0;rw[ss];exact e3
  .show y.b.2.1.2.2=true;rw[ss];exact f2
theorem aVY (B t:Int)(x:fW.B)(hx:wI (x.1.1+8000)=t)(hl:Lb B x.d.b.2.1.1.1)(ht:∀j,j<6->x.d.b.2.1.1.c.1 j=10000)(h:0<=t)(h0:0<=B)(q:x.2.1.c.1=0)(hD:x.2.1.1.2.1=0)(hL:x.2.1.1.d.1=20000)(ha:Bd B x.2.1.d.c.1)(l0:x.c.2.1.b.1=0)(l1:x.c.b.1.b.1=0)(l2:x.c.b.2.1.b.1=0)(l3:x.d.1.b.1=0)(l4:x.d.2.1.b.1=0)(l5:x.d.b.1.b.1=0)(h1:t<=1125899906842624)(hs:x.b.2.1.2.2=true->x.b.2.1.2.1.1<t)(p0:0<=x.b.2.1.2.1.2.1)(p1:x.b.2.1.2.1.2.1<=100000)(tg:x.b.2.1.1=8000):Po (cY x) (λe:kv=>(B+20000<t->(¬e.1.c.b.1.1=3/\e.1.c.b.1.b.1=false/\(2<=e.1.c.b.1.1->e.1.c.b.1.b.2=true)))/\Bd B e.1.d.c.2.1/\e.1.d.c.b.1=t/\e.c.1.b.1=0/\e.c.2.1.b.1=0/\e.c.b.1.b.1=0/\e.c.b.2.1.b.1=0/\e.d.1.b.1=0/\e.d.2.1.b.1=0/\e.d.b.1=x.d.b.2.1/\e.1.c.2.1.2=0/\e.b.1.1=8000/\e.b.1.2.1.1=t/\e.b.1.2.1.2.1=0/\e.b.1.2.2=true/\e.1.1.1=t):=by
 unfold cY sf;try dsimp only
 show PW _ _;try dsimp only
 rw[aiZ,dA];intro s hs';have hs':=OE hs';subst hs';repeat (rw[cU];intro _)
 with_reducible refine bB (a0h B t _ ?_ ?_ ?_ ?_ ?_ ?_ ?_ ?_ ?_ ?_ ?_ ?_ ?_ ?_ ?_ ?_ ?_ ?_ ?_ ?_) λy _ hy=> ?_
 .show(wI (x.1.1+8000),(8000:Int),((0:Int),(0:Int),(0:Int)),(0:Int),(0:Int),(-84238486:Int))=_;rw[hx]
 .exact hl
 .exact ht
 .exact h
 .exact h0
 .exact q
 .exact hD
 .exact hL
 .exact ha
 .exact l0
 .exact l1
 .exact l2
 .exact l3
 .exact l4
 .exact l5
 .exact h1
 .exact hs
 .exact p0
 .exact p1
 .exact tg
 obtain⟨s0,s1,s2,b0,b1,b2,b3,b4,b5,sm,sq,t0,t1,t2,t3,e0⟩:=hy;rw[e0,show((0:Int)==0)=true from rfl,aZ];refine⟨λ_=> ?_,λc=>Bool.noConfusion c⟩;repeat (rw[cU];intro _)
 refine bB (abY (rfl:iI _=some _)).po λd _ hd=> ?_;subst hd;rw[aR];exact⟨s0,s1,s2,b0,b1,b2,b3,b4,b5,sm,sq,t0,t1,t2,t3,hx⟩
end Go.Proofs.YtldgljclcgaibaaGreat
