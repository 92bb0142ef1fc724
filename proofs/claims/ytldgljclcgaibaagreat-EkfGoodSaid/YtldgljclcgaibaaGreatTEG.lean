/-
  Behind any calls the estimate is within its box, the factors within their bounds, the machine good, all outputs within the box, samples all accounted for: the statement of astrolabelaw28.EkfGood; no condition.
-/
import Derived.Test.YtldgljclcgaibaaGreatZAE
import Derived.Test.YtldgljclcgaibaaGreatZAO
set_option linter.unusedVariables false
set_option linter.unusedSimpArgs false
set_option maxRecDepth 100000
set_option maxHeartbeats 4000000
namespace Go.Proofs.YtldgljclcgaibaaGreat
open Go.Ab Go.Ab.Pg
theorem aZg {β δ:Type}{Q:Rq (List AV×List aj) β}{R:δ->T}{f:β->Option δ}{t:δ}(hf:∀b,f b=some t){a:List AV}{h:List aj}(hq:(Q.rd (a,h)).map Prod.fst=some []):(FC Q R f a h).eval=(R t).eval:=by
 unfold FC;cases hc:Q.rd (a,h) with
 |none=>rw[hc] at hq;cases hq
 |some b=>
  rw[hc] at hq;obtain⟨l,b⟩:=b;have hq:l=[]:=HX hq;subst hq;show(T.opt (f b) R).eval=_;rw[hf];rfl
theorem aHn:aX4 (FC tW (lf UO) BJ) [.flat true [.c (.i .i64),.c (.i .i64),.c (.i .i64),.c (.i .i64),.c (.i .i64),.c (.i .i64),.c (.i .i64),.c (.i .i64),.c (.i .i64),.c (.i .i64),.c (.i .i64),.c (.i .i64),.c (.i .i64),.c (.i .i64),.c (.i .i64),.c (.i .i64),.a 24 [.i .i64],.a 24 [.i .i64],.c (.i .i64),.c (.i .i64),.c (.i .i64),.c (.i .i64),.c (.i .i64),.c (.i .i64),.c (.i .i64),.c (.i .i64)],.sl [.i .i64,.i .i64,.i .i64,.i .i64,.i .i64,.i .i64,.i .i64,.i .i64,.i .i64,.i .i64,.i .i64,.i .i64,.i .i64,.i .i64,.i .i64,.i .i64,.i .i64,.i .i64,.i .i64,.i .i64]]:=λds h=>by
 obtain⟨_,_,rfl,a4h,g0⟩:=aTY h;obtain⟨a50,_,rfl,a51,a4i⟩:=ES a4h;obtain⟨a52,_,rfl,a53,a4j⟩:=ES a4i;obtain⟨a54,_,rfl,a55,a4k⟩:=ES a4j;obtain⟨a56,_,rfl,a57,a4l⟩:=ES a4k;obtain⟨a58,_,rfl,a59,a4m⟩:=ES a4l;obtain⟨a6a,_,rfl,a6b,a4n⟩:=ES a4m;obtain⟨a6c,_,rfl,a6d,a4o⟩:=ES a4n;obtain⟨a6e,_,rfl,a6f,a4p⟩:=ES a4o;obtain⟨a6g,_,rfl,a6h,a4q⟩:=ES a4p;obtain⟨a6i,_,rfl,a6j,a2y⟩:=ES a4q;obtain⟨a45,_,rfl,a46,a2z⟩:=ES a2y;obtain⟨a47,_,rfl,a48,a2A⟩:=ES a2z;obtain⟨a49,_,rfl,a5a,a2B⟩:=ES a2A;obtain⟨a5b,_,rfl,a5c,a2C⟩:=ES a2B;obtain⟨a5d,_,rfl,a5e,a2D⟩:=ES a2C;obtain⟨a5f,_,rfl,a5g,a2E⟩:=ES a2D;obtain⟨_,_,rfl,aZh,a2F⟩:=a08 a2E;obtain⟨a4r,_,rfl,a4s,aZi⟩:=yd aZh;obtain rfl:=aFD aZi
 obtain⟨_,_,rfl,aZj,a2G⟩:=a08 a2F;obtain⟨a4t,_,rfl,a4u,aZk⟩:=yd aZj;obtain rfl:=aFD aZk
 obtain⟨a5h,_,rfl,a5i,a2H⟩:=ES a2G;obtain⟨a5j,_,rfl,a5k,a2I⟩:=ES a2H;obtain⟨a5l,_,rfl,a5m,a2J⟩:=ES a2I;obtain⟨a5n,_,rfl,a5o,a2K⟩:=ES a2J;obtain⟨a5p,_,rfl,a5q,a2L⟩:=ES a2K;obtain⟨a5r,_,rfl,a5s,a2M⟩:=ES a2L;obtain⟨a5t,_,rfl,a5u,a2N⟩:=ES a2M;obtain⟨a5v,_,rfl,a5w,a2O⟩:=ES a2N;obtain rfl:=aZN a2O
 obtain⟨n1,c1,_,rfl,m1,a4v,g1⟩:=aZM g0;obtain⟨a6k,_,rfl,a6l,a4w⟩:=yd a4v;obtain⟨a6m,_,rfl,a6n,a4x⟩:=yd a4w;obtain⟨a6o,_,rfl,a6p,a4y⟩:=yd a4x;obtain⟨a6q,_,rfl,a6r,a4z⟩:=yd a4y;obtain⟨a6s,_,rfl,a6t,a4A⟩:=yd a4z;obtain⟨a6u,_,rfl,a6v,a4B⟩:=yd a4A;obtain⟨a6w,_,rfl,a6x,a4C⟩:=yd a4B;obtain⟨a6y,_,rfl,a6z,a4D⟩:=yd a4C;obtain⟨a6A,_,rfl,a6B,a4E⟩:=yd a4D;obtain⟨a6C,_,rfl,a6D,a2P⟩:=yd a4E;obtain⟨a5x,_,rfl,a5y,a2Q⟩:=yd a2P;obtain⟨a5z,_,rfl,a5A,a2R⟩:=yd a2Q;obtain⟨a5B,_,rfl,a5C,a2S⟩:=yd a2R;obtain⟨a5D,_,rfl,a5E,a2T⟩:=yd a2S;obtain⟨a5F,_,rfl,a5G,a2U⟩:=yd a2T;obtain⟨a5H,_,rfl,a5I,a2V⟩:=yd a2U;obtain⟨a5J,_,rfl,a5K,a2W⟩:=yd a2V;obtain⟨a5L,_,rfl,a5M,a2X⟩:=yd a2W;obtain⟨a5N,_,rfl,a5O,a2Y⟩:=yd a2X;obtain⟨a5P,_,rfl,a5Q,a2Z⟩:=yd a2Y;obtain rfl:=aFD a2Z
 obtain rfl:=aYd g1
 exact⟨[],(aZg a2x (by kernel_rfl)).trans rfl⟩
theorem aMp [ay]:Sound Tryz.prog 7 (FC tW (lf UO) BJ):=aHl
set_option maxRecDepth 100000 in
theorem aDQ (os:Os)(started:os.Started)(H:Type)(enc:TypeId×Value->H):
  ReturnsInHanded {} Tryz.checked os 7 .any (Rows.ekfGoodSpec.pre6 enc Tryz.prog Tryz.f7 Rows.ekfGoodRow.domain false) (Rows.ekfGoodSpec.post enc Tryz.prog Tryz.f7 false true false false):=
 aTS (C:=Tryz.checked) (tb:=Tryz.f7.resultTypes.getD 0 0) own started (by kernel_rfl) Tryz.func7 laid (by kernel_rfl) (by kernel_rfl) (by kernel_rfl) rfl
  (λds h=>by
   have h:ds.length=2:=h.trans (by kernel_rfl);match ds,h with
   | [_,_],_=>rfl)
  (ChangeSpec.witness6 (enc:=enc) (C:=Tryz.checked) false ⟨#[],#[.agg #[.int .i64 0,.int .i64 0,.int .i64 0,.int .i64 0,.int .i64 0,.int .i64 0,.int .i64 0,.int .i64 0,.int .i64 0,.int .i64 0,.int .i64 0,.int .i64 0,.int .i64 0,.int .i64 0,.int .i64 0,.int .i64 0,.int .i64 0,.int .i64 0,.int .i64 0,.int .i64 0,.int .i64 0,.int .i64 0,.int .i64 0,.int .i64 0,.int .i64 0,.int .i64 0,.int .i64 0,.int .i64 0,.int .i64 0,.int .i64 0,.int .i64 0,.int .i64 0,.int .i64 0,.int .i64 0,.int .i64 0,.int .i64 0,.int .i64 0,.int .i64 0,.int .i64 0,.int .i64 0,.int .i64 0,.int .i64 0,.int .i64 0,.int .i64 0,.int .i64 0,.int .i64 0,.int .i64 0,.int .i64 0,.int .i64 0,.int .i64 0,.int .i64 0,.int .i64 0,.int .i64 0,.int .i64 0,.int .i64 0,.int .i64 0,.int .i64 0,.int .i64 0,.int .i64 0,.int .i64 0,.int .i64 0,.int .i64 0,.int .i64 0,.int .i64 0,.int .i64 0,.int .i64 0,.int .i64 0,.int .i64 0,.int .i64 0,.int .i64 0,.int .i64 0,.int .i64 0],.slice none 0 0],[]⟩ 8 (by kernel_rfl) (by kernel_rfl) (by kernel_rfl) (by kernel_rfl))
  (λW base args ds ps _ aFk ht _ _ _=>aQ7 (pr:=[.flat true [.c (.i .i64),.c (.i .i64),.c (.i .i64),.c (.i .i64),.c (.i .i64),.c (.i .i64),.c (.i .i64),.c (.i .i64),.c (.i .i64),.c (.i .i64),.c (.i .i64),.c (.i .i64),.c (.i .i64),.c (.i .i64),.c (.i .i64),.c (.i .i64),.a 24 [.i .i64],.a 24 [.i .i64],.c (.i .i64),.c (.i .i64),.c (.i .i64),.c (.i .i64),.c (.i .i64),.c (.i .i64),.c (.i .i64),.c (.i .i64)],.sl [.i .i64,.i .i64,.i .i64,.i .i64,.i .i64,.i .i64,.i .i64,.i .i64,.i .i64,.i .i64,.i .i64,.i .i64,.i .i64,.i .i64,.i .i64,.i .i64,.i .i64,.i .i64,.i .i64,.i .i64]]) aMp (by kernel_rfl) (ts:=Tryz.f7.params.toList) (by kernel_rfl) aHn aFk ht)
def jf0 (P:Program)(f:FuncId)(fn:Func)(s:ChangeSpec)(c:OpenClaim):Bool:=c.wf (OpenSpec.ofChange s)&&laidOutB P&&mapsRowed P&&fn.params.all (P.readableRec ·)&&namedTie P c.named s.vars&&(c.stops==[])&&(P.stops==[])&&(c.knobs==[])&&(P.stopKnobs==[])
def jf1 (P:Program)(f:FuncId)(fn:Func)(s:ChangeSpec)(c:OpenClaim):Bool:=(c.inPlace==P.inPlace f)&&(c.unfollowed==P.unfollowed f)
def jf2 (P:Program)(f:FuncId)(fn:Func)(s:ChangeSpec)(c:OpenClaim):Bool:=(c.recurses==P.recurses f)&&(c.named==P.varsNamed f)
def jf3 (P:Program)(f:FuncId)(fn:Func)(s:ChangeSpec)(c:OpenClaim):Bool:=(c.maps==(fn.params.toList++s.plain.varTypes P).any (P.mapsRec ·))&&(c.ifaces==(fn.params.toList++s.plain.varTypes P).any (P.ifacesRec ·))&&(c.mapsOut==P.mapsAmong fn.resultTypes.toList)&&(c.loops==(fn.params.toList++s.plain.varTypes P).any (P.loopsFrom ·))&&(c.wideKeys==(fn.params.toList++s.plain.varTypes P++fn.resultTypes.toList).any (P.wideKeysFrom ·))
def jf4 (P:Program)(f:FuncId)(fn:Func)(s:ChangeSpec)(c:OpenClaim):Bool:=s.vars.all (P.varReadable ·)&&fn.resultTypes.all (λt=>P.readableRec t&&decide (t<P.types.size))&&(c.ifacesOut==fn.resultTypes.toList.any (P.ifacesRec ·))&&(c.loopsOut==fn.resultTypes.toList.any (P.loopsFrom ·))&&(c.plainKeys==P.plainKeys)&&c.shortTexts.isNone&&P.stopsHeard&&P.mayEnter&&(c.lifted==P.liftsFinal)&&(P.make==some c.make)&&(c.kinds==(if c.domain.isEmpty then[] else fn.params.toList.map λt=>match P.underlying t with|some (.int k)=>some k|_=>none))&&(c.pinned==c.pinnedBy)
def jf5 (P:Program)(f:FuncId)(fn:Func)(s:ChangeSpec)(c:OpenClaim):Bool:=(c.veiled==(fn.params.toList++s.plain.varTypes P++fn.resultTypes.toList).any (P.veiledRec ·))&&c.veiledFits P fn.params.toList (fn.params.toList++s.plain.varTypes P++fn.resultTypes.toList)
theorem a0L (P:Program)(f:FuncId)(fn:Func)(s:ChangeSpec)(c:OpenClaim):joinedFacts P f fn s c=(jf0 P f fn s c&&jf1 P f fn s c&&jf2 P f fn s c&&jf3 P f fn s c&&jf4 P f fn s c&&jf5 P f fn s c):=by
 simp only[joinedFacts,jf0,jf1,jf2,jf3,jf4,jf5,Bool.and_assoc];rfl
theorem aO9:jf0 Tryz.pinned.checked.prog 7 Tryz.f7 Rows.ekfGoodSpec Rows.ekfGoodRow=true:=by kernel_rfl
theorem aPa:jf1 Tryz.pinned.checked.prog 7 Tryz.f7 Rows.ekfGoodSpec Rows.ekfGoodRow=true:=by kernel_rfl
theorem aPb:jf2 Tryz.pinned.checked.prog 7 Tryz.f7 Rows.ekfGoodSpec Rows.ekfGoodRow=true:=by kernel_rfl
theorem aPc:jf3 Tryz.pinned.checked.prog 7 Tryz.f7 Rows.ekfGoodSpec Rows.ekfGoodRow=true:=by kernel_rfl
theorem aPd:jf4 Tryz.pinned.checked.prog 7 Tryz.f7 Rows.ekfGoodSpec Rows.ekfGoodRow=true:=by kernel_rfl
theorem aPe:jf5 Tryz.pinned.checked.prog 7 Tryz.f7 Rows.ekfGoodSpec Rows.ekfGoodRow=true:=by kernel_rfl
theorem aHp:joinedFacts Tryz.pinned.checked.prog 7 Tryz.f7 Rows.ekfGoodSpec Rows.ekfGoodRow=true:=by
 rw[a0L,aO9,aPa,aPb,aPc,aPd,aPe];rfl
theorem aIK:Rows.ekfGoodRow.holds Tryz.pinned (OpenSpec.ofChange Rows.ekfGoodSpec):=
 OpenClaim.holds_of_wide 7 Tryz.f7 rfl rfl rfl rfl rfl rfl rfl ⟨rfl,rfl,rfl,rfl,rfl⟩ rfl rfl rfl rfl rfl (by kernel_rfl) Tryz.func7 aHp
  (dm (by kernel_rfl)) (by unfold Func.isWrapper;first|(rw[if_pos (by decide+kernel)];kernel_rfl)|(rw[if_neg (by decide+kernel)];exact⟨rfl,rfl⟩))
  (λos started H enc _=>aDQ os started H enc)
theorem ekfGood_proved:Rows.EkfGoodSaid:=aIK
#print axioms ekfGood_proved
end Go.Proofs.YtldgljclcgaibaaGreat
