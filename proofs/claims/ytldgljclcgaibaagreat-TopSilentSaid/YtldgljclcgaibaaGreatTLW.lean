/-
  TopSilent
-/
import Derived.Test.YtldgljclcgaibaaGreatZAE
import Derived.Test.YtldgljclcgaibaaGreatZAN
set_option linter.all false
set_option maxRecDepth 100000
set_option maxHeartbeats 4000000
namespace Go.Proofs.YtldgljclcgaibaaGreat
open Go.Ab Go.Ab.Pg
theorem a0l {β δ:Type}{Q:Rq (List AV×List af) β}{R:δ->T}{f:β->Option δ}{t:δ}(hf:∀b,f b=some t){a:List AV}{h:List af}(hq:(Q.rd (a,h)).map Prod.fst=some []):(FC Q R f a h).eval=(R t).eval:=by
 unfold FC;cases hc:Q.rd (a,h) with
 |none=>rw[hc] at hq;cases hq
 |some b=>
  rw[hc] at hq;obtain⟨l,b⟩:=b;have hq:l=[]:=OE hq;subst hq;show(T.opt (f b) R).eval=_;rw[hf];rfl
theorem az8:aY8 (FC pB (lf Oa) wF) [.flat true [.c (.i .i64),.c (.i .i64),.c (.i .i64),.c (.i .i64),.c (.i .i64),.c (.i .i64),.c (.i .i64),.c (.i .i64),.c (.i .i64),.c (.i .i64),.c (.i .i64),.c (.i .i64),.c (.i .i64),.c (.i .i64),.c (.i .i64),.c (.i .i64),.a 24 [.i .i64],.a 24 [.i .i64],.c (.i .i64),.c (.i .i64),.c (.i .i64),.c (.i .i64),.c (.i .i64),.c (.i .i64),.c (.i .i64),.c (.i .i64)],.sl [.i .i64,.i .i64,.i .i64,.i .i64,.i .i64,.i .i64,.i .i64,.i .i64,.i .i64,.i .i64,.i .i64,.i .i64,.i .i64,.i .i64,.i .i64,.i .i64,.i .i64,.i .i64,.i .i64,.i .i64]]:=λds h=>by
 obtain⟨_,_,rfl,a4Q,g0⟩:=aU6 h;obtain⟨a6w,_,rfl,a6x,a4R⟩:=EF a4Q;obtain⟨a6y,_,rfl,a6z,a4S⟩:=EF a4R;obtain⟨a6A,_,rfl,a6B,a4T⟩:=EF a4S;obtain⟨a6C,_,rfl,a6D,a4U⟩:=EF a4T;obtain⟨a6E,_,rfl,a6F,a4V⟩:=EF a4U;obtain⟨a6G,_,rfl,a6H,a4W⟩:=EF a4V;obtain⟨a6I,_,rfl,a6J,a4X⟩:=EF a4W;obtain⟨a6K,_,rfl,a6L,a4Y⟩:=EF a4X;obtain⟨a6M,_,rfl,a6N,a4Z⟩:=EF a4Y;obtain⟨a6O,_,rfl,a6P,a3k⟩:=EF a4Z;obtain⟨a5C,_,rfl,a5D,a3l⟩:=EF a3k;obtain⟨a5E,_,rfl,a5F,a3m⟩:=EF a3l;obtain⟨a5G,_,rfl,a5H,a3n⟩:=EF a3m;obtain⟨a5I,_,rfl,a5J,a3o⟩:=EF a3n;obtain⟨a5K,_,rfl,a5L,a3p⟩:=EF a3o;obtain⟨a5M,_,rfl,a5N,a3q⟩:=EF a3p;obtain⟨_,_,rfl,a0m,a3r⟩:=a1Y a3q;obtain⟨a41,_,rfl,a42,a0n⟩:=yf a0m;obtain rfl:=aFM a0n
 obtain⟨_,_,rfl,a0o,a3s⟩:=a1Y a3r;obtain⟨a43,_,rfl,a44,a0p⟩:=yf a0o;obtain rfl:=aFM a0p
 obtain⟨a5O,_,rfl,a5P,a3t⟩:=EF a3s;obtain⟨a5Q,_,rfl,a5R,a3u⟩:=EF a3t;obtain⟨a5S,_,rfl,a5T,a3v⟩:=EF a3u;obtain⟨a5U,_,rfl,a5V,a3w⟩:=EF a3v;obtain⟨a5W,_,rfl,a5X,a3x⟩:=EF a3w;obtain⟨a5Y,_,rfl,a5Z,a3y⟩:=EF a3x;obtain⟨a50,_,rfl,a51,a3z⟩:=EF a3y;obtain⟨a52,_,rfl,a53,a3A⟩:=EF a3z;obtain rfl:=a0T a3A
 obtain⟨n1,c1,_,rfl,m1,a45,g1⟩:=a0S g0;obtain⟨a6Q,_,rfl,a6R,a46⟩:=yf a45;obtain⟨a6S,_,rfl,a6T,a47⟩:=yf a46;obtain⟨a6U,_,rfl,a6V,a48⟩:=yf a47;obtain⟨a6W,_,rfl,a6X,a49⟩:=yf a48;obtain⟨a6Y,_,rfl,a6Z,a5a⟩:=yf a49;obtain⟨a60,_,rfl,a61,a5b⟩:=yf a5a;obtain⟨a62,_,rfl,a63,a5c⟩:=yf a5b;obtain⟨a64,_,rfl,a65,a5d⟩:=yf a5c;obtain⟨a66,_,rfl,a67,a5e⟩:=yf a5d;obtain⟨a68,_,rfl,a69,a3B⟩:=yf a5e;obtain⟨a54,_,rfl,a55,a3C⟩:=yf a3B;obtain⟨a56,_,rfl,a57,a3D⟩:=yf a3C;obtain⟨a58,_,rfl,a59,a3E⟩:=yf a3D;obtain⟨a6a,_,rfl,a6b,a3F⟩:=yf a3E;obtain⟨a6c,_,rfl,a6d,a3G⟩:=yf a3F;obtain⟨a6e,_,rfl,a6f,a3H⟩:=yf a3G;obtain⟨a6g,_,rfl,a6h,a3I⟩:=yf a3H;obtain⟨a6i,_,rfl,a6j,a3J⟩:=yf a3I;obtain⟨a6k,_,rfl,a6l,a3K⟩:=yf a3J;obtain⟨a6m,_,rfl,a6n,a3L⟩:=yf a3K;obtain rfl:=aFM a3L
 obtain rfl:=aZh g1
 exact⟨[],(a0l a0k (by kernel_rfl)).trans rfl⟩
theorem aHt [ax]:Sound Tryz.prog 3 (FC pB (lf Oa) wF):=az7
set_option maxRecDepth 100000 in
theorem axY (os:Os)(started:os.Started)(H:Type)(enc:TypeId×Value->H):
  ReturnsInHanded {} Tryz.checked os 3 .any (Rows.topSilentSpec.pre6 enc Tryz.prog Tryz.f3 Rows.topSilentRow.domain false) (Rows.topSilentSpec.post enc Tryz.prog Tryz.f3 false true false false):=
 aU0 (C:=Tryz.checked) (tb:=Tryz.f3.resultTypes.getD 0 0) own started (by kernel_rfl) Tryz.func3 laid (by kernel_rfl) (by kernel_rfl) (by kernel_rfl) rfl
  (λds h=>by
   have h:ds.length=2:=h.trans (by kernel_rfl);match ds,h with
   | [_,_],_=>rfl)
  (ChangeSpec.witness6 (enc:=enc) (C:=Tryz.checked) false ⟨#[],#[.agg #[.int .i64 0,.int .i64 0,.int .i64 0,.int .i64 0,.int .i64 0,.int .i64 0,.int .i64 0,.int .i64 0,.int .i64 0,.int .i64 0,.int .i64 0,.int .i64 0,.int .i64 0,.int .i64 0,.int .i64 0,.int .i64 0,.int .i64 0,.int .i64 0,.int .i64 0,.int .i64 0,.int .i64 0,.int .i64 0,.int .i64 0,.int .i64 0,.int .i64 0,.int .i64 0,.int .i64 0,.int .i64 0,.int .i64 0,.int .i64 0,.int .i64 0,.int .i64 0,.int .i64 0,.int .i64 0,.int .i64 0,.int .i64 0,.int .i64 0,.int .i64 0,.int .i64 0,.int .i64 0,.int .i64 0,.int .i64 0,.int .i64 0,.int .i64 0,.int .i64 0,.int .i64 0,.int .i64 0,.int .i64 0,.int .i64 0,.int .i64 0,.int .i64 0,.int .i64 0,.int .i64 0,.int .i64 0,.int .i64 0,.int .i64 0,.int .i64 0,.int .i64 0,.int .i64 0,.int .i64 0,.int .i64 0,.int .i64 0,.int .i64 0,.int .i64 0,.int .i64 0,.int .i64 0,.int .i64 0,.int .i64 0,.int .i64 0,.int .i64 0,.int .i64 0,.int .i64 0],.slice none 0 0],[]⟩ 8 (by kernel_rfl) (by kernel_rfl) (by kernel_rfl) (by kernel_rfl))
  (λW base args ds ps _ aFt ht _ _ _=>aSA (pr:=[.flat true [.c (.i .i64),.c (.i .i64),.c (.i .i64),.c (.i .i64),.c (.i .i64),.c (.i .i64),.c (.i .i64),.c (.i .i64),.c (.i .i64),.c (.i .i64),.c (.i .i64),.c (.i .i64),.c (.i .i64),.c (.i .i64),.c (.i .i64),.c (.i .i64),.a 24 [.i .i64],.a 24 [.i .i64],.c (.i .i64),.c (.i .i64),.c (.i .i64),.c (.i .i64),.c (.i .i64),.c (.i .i64),.c (.i .i64),.c (.i .i64)],.sl [.i .i64,.i .i64,.i .i64,.i .i64,.i .i64,.i .i64,.i .i64,.i .i64,.i .i64,.i .i64,.i .i64,.i .i64,.i .i64,.i .i64,.i .i64,.i .i64,.i .i64,.i .i64,.i .i64,.i .i64]]) aHt (by kernel_rfl) (ts:=Tryz.f3.params.toList) (by kernel_rfl) az8 aFt ht)
def jf0 (P:Program)(f:FuncId)(fn:Func)(s:ChangeSpec)(c:OpenClaim):Bool:=c.wf (OpenSpec.ofChange s)&&laidOutB P&&mapsRowed P&&fn.params.all (P.readableRec ·)&&namedTie P c.named s.vars&&(c.stops==[])&&(P.stops==[])&&(c.knobs==[])&&(P.stopKnobs==[])
def jf1 (P:Program)(f:FuncId)(fn:Func)(s:ChangeSpec)(c:OpenClaim):Bool:=(c.inPlace==P.inPlace f)&&(c.unfollowed==P.unfollowed f)
def jf2 (P:Program)(f:FuncId)(fn:Func)(s:ChangeSpec)(c:OpenClaim):Bool:=(c.recurses==P.recurses f)&&(c.named==P.varsNamed f)
def jf3 (P:Program)(f:FuncId)(fn:Func)(s:ChangeSpec)(c:OpenClaim):Bool:=(c.maps==(fn.params.toList++s.plain.varTypes P).any (P.mapsRec ·))&&(c.ifaces==(fn.params.toList++s.plain.varTypes P).any (P.ifacesRec ·))&&(c.mapsOut==P.mapsAmong fn.resultTypes.toList)&&(c.loops==(fn.params.toList++s.plain.varTypes P).any (P.loopsFrom ·))&&(c.wideKeys==(fn.params.toList++s.plain.varTypes P++fn.resultTypes.toList).any (P.wideKeysFrom ·))
def jf4 (P:Program)(f:FuncId)(fn:Func)(s:ChangeSpec)(c:OpenClaim):Bool:=s.vars.all (P.varReadable ·)&&fn.resultTypes.all (λt=>P.readableRec t&&decide (t<P.types.size))&&(c.ifacesOut==fn.resultTypes.toList.any (P.ifacesRec ·))&&(c.loopsOut==fn.resultTypes.toList.any (P.loopsFrom ·))&&(c.plainKeys==P.plainKeys)&&c.shortTexts.isNone&&P.stopsHeard&&P.mayEnter&&(c.lifted==P.liftsFinal)&&(P.make==some c.make)&&(c.kinds==(if c.domain.isEmpty then[] else fn.params.toList.map λt=>match P.underlying t with|some (.int k)=>some k|_=>none))&&(c.pinned==c.pinnedBy)
def jf5 (P:Program)(f:FuncId)(fn:Func)(s:ChangeSpec)(c:OpenClaim):Bool:=(c.veiled==(fn.params.toList++s.plain.varTypes P++fn.resultTypes.toList).any (P.veiledRec ·))&&c.veiledFits P fn.params.toList (fn.params.toList++s.plain.varTypes P++fn.resultTypes.toList)
theorem a1C (P:Program)(f:FuncId)(fn:Func)(s:ChangeSpec)(c:OpenClaim):joinedFacts P f fn s c=(jf0 P f fn s c&&jf1 P f fn s c&&jf2 P f fn s c&&jf3 P f fn s c&&jf4 P f fn s c&&jf5 P f fn s c):=by
 simp only[joinedFacts,jf0,jf1,jf2,jf3,jf4,jf5,Bool.and_assoc];rfl
theorem aIW:jf0 Tryz.pinned.checked.prog 3 Tryz.f3 Rows.topSilentSpec Rows.topSilentRow=true:=by kernel_rfl
theorem aIX:jf1 Tryz.pinned.checked.prog 3 Tryz.f3 Rows.topSilentSpec Rows.topSilentRow=true:=by kernel_rfl
theorem aIY:jf2 Tryz.pinned.checked.prog 3 Tryz.f3 Rows.topSilentSpec Rows.topSilentRow=true:=by kernel_rfl
theorem aIZ:jf3 Tryz.pinned.checked.prog 3 Tryz.f3 Rows.topSilentSpec Rows.topSilentRow=true:=by kernel_rfl
theorem aI0:jf4 Tryz.pinned.checked.prog 3 Tryz.f3 Rows.topSilentSpec Rows.topSilentRow=true:=by kernel_rfl
theorem aI1:jf5 Tryz.pinned.checked.prog 3 Tryz.f3 Rows.topSilentSpec Rows.topSilentRow=true:=by kernel_rfl
theorem aAa:joinedFacts Tryz.pinned.checked.prog 3 Tryz.f3 Rows.topSilentSpec Rows.topSilentRow=true:=by
 rw[a1C,aIW,aIX,aIY,aIZ,aI0,aI1];rfl
theorem aDT:Rows.topSilentRow.holds Tryz.pinned (OpenSpec.ofChange Rows.topSilentSpec):=
 OpenClaim.holds_of_wide 3 Tryz.f3 rfl rfl rfl rfl rfl rfl rfl ⟨rfl,rfl,rfl,rfl,rfl⟩ rfl rfl rfl rfl rfl (by kernel_rfl) Tryz.func3 aAa
  (eK (by kernel_rfl)) (by unfold Func.isWrapper;first|(rw[if_pos (by decide+kernel)];kernel_rfl)|(rw[if_neg (by decide+kernel)];exact⟨rfl,rfl⟩))
  (λos started H enc _=>axY os started H enc)
theorem topSilent_proved:Rows.TopSilentSaid:=aDT
#print axioms topSilent_proved
end Go.Proofs.YtldgljclcgaibaaGreat
