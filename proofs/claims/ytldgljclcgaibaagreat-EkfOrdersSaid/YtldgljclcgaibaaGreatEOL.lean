/-
  Samples in any order make the same: the statement of astrolabelaw28.EkfOrders; no condition.
-/
import Derived.Test.YtldgljclcgaibaaGreatZAE
import Derived.Test.YtldgljclcgaibaaGreatZAO
set_option linter.all false
set_option maxRecDepth 100000
set_option maxHeartbeats 4000000
namespace Go.Proofs.YtldgljclcgaibaaGreat
open Go.Ab Go.Ab.Pg
theorem aZA {β δ:Type}{Q:Rq (List AV×List af) β}{R:δ->T}{f:β->Option δ}{t:δ}(hf:∀b,f b=some t){a:List AV}{h:List af}(hq:(Q.rd (a,h)).map Prod.fst=some []):(FC Q R f a h).eval=(R t).eval:=by
 unfold FC;cases hc:Q.rd (a,h) with
 |none=>rw[hc] at hq;cases hq
 |some b=>
  rw[hc] at hq;obtain⟨l,b⟩:=b;have hq:l=[]:=Om hq;subst hq;show(T.opt (f b) R).eval=_;rw[hf];rfl
theorem az0:aYj (FC oq (lf NG) vI) [.flat true [.c (.i .i64),.c (.i .i64),.c (.i .i64),.c (.i .i64),.c (.i .i64),.c (.i .i64),.c (.i .i64),.c (.i .i64),.c (.i .i64),.c (.i .i64),.c (.i .i64),.c (.i .i64),.c (.i .i64),.c (.i .i64),.c (.i .i64),.c (.i .i64),.a 24 [.i .i64],.a 24 [.i .i64],.c (.i .i64),.c (.i .i64),.c (.i .i64),.c (.i .i64),.c (.i .i64),.c (.i .i64),.c (.i .i64),.c (.i .i64)],.sl [.i .i64,.i .i64,.i .i64,.i .i64,.i .i64,.i .i64,.i .i64,.i .i64,.i .i64,.i .i64,.i .i64,.i .i64,.i .i64,.i .i64,.i .i64,.i .i64,.i .i64,.i .i64,.i .i64,.i .i64],.sl [.i .i64,.i .i64,.i .i64,.i .i64,.i .i64,.i .i64,.i .i64,.i .i64,.i .i64,.i .i64,.i .i64,.i .i64,.i .i64,.i .i64,.i .i64,.i .i64,.i .i64,.i .i64,.i .i64,.i .i64],.flat false [.c (.i .i64)],.sl [.i .i64,.i .i64,.i .i64,.i .i64,.i .i64,.i .i64,.i .i64,.i .i64,.i .i64,.i .i64,.i .i64,.i .i64,.i .i64,.i .i64,.i .i64,.i .i64,.i .i64,.i .i64,.i .i64,.i .i64]]:=λds h=>by
 obtain⟨_,_,rfl,a4D,g0⟩:=aJj h;obtain⟨a7j,_,rfl,a7k,a4E⟩:=CY a4D;obtain⟨a7l,_,rfl,a7m,a4F⟩:=CY a4E;obtain⟨a7n,_,rfl,a7o,a4G⟩:=CY a4F;obtain⟨a7p,_,rfl,a7q,a4H⟩:=CY a4G;obtain⟨a7r,_,rfl,a7s,a4I⟩:=CY a4H;obtain⟨a7t,_,rfl,a7u,a4J⟩:=CY a4I;obtain⟨a7v,_,rfl,a7w,a4K⟩:=CY a4J;obtain⟨a7x,_,rfl,a7y,a4L⟩:=CY a4K;obtain⟨a7z,_,rfl,a7A,a4M⟩:=CY a4L;obtain⟨a7B,_,rfl,a7C,a2o⟩:=CY a4M;obtain⟨a5L,_,rfl,a5M,a2p⟩:=CY a2o;obtain⟨a5N,_,rfl,a5O,a2q⟩:=CY a2p;obtain⟨a5P,_,rfl,a5Q,a2r⟩:=CY a2q;obtain⟨a5R,_,rfl,a5S,a2s⟩:=CY a2r;obtain⟨a5T,_,rfl,a5U,a2t⟩:=CY a2s;obtain⟨a5V,_,rfl,a5W,a2u⟩:=CY a2t;obtain⟨_,_,rfl,aZB,a2v⟩:=a1a a2u;obtain⟨a4N,_,rfl,a4O,aZC⟩:=dD aZB;obtain rfl:=alW aZC
 obtain⟨_,_,rfl,aZD,a2w⟩:=a1a a2v;obtain⟨a4P,_,rfl,a4Q,aZE⟩:=dD aZD;obtain rfl:=alW aZE
 obtain⟨a5X,_,rfl,a5Y,a2x⟩:=CY a2w;obtain⟨a5Z,_,rfl,a50,a2y⟩:=CY a2x;obtain⟨a51,_,rfl,a52,a2z⟩:=CY a2y;obtain⟨a53,_,rfl,a54,a2A⟩:=CY a2z;obtain⟨a55,_,rfl,a56,a2B⟩:=CY a2A;obtain⟨a57,_,rfl,a58,a2C⟩:=CY a2B;obtain⟨a59,_,rfl,a6a,a2D⟩:=CY a2C;obtain⟨a6b,_,rfl,a6c,a2E⟩:=CY a2D;obtain rfl:=aTn a2E
 obtain⟨n1,c1,_,rfl,m1,a4R,g1⟩:=aK4 g0;obtain⟨a7D,_,rfl,a7E,a4S⟩:=dD a4R;obtain⟨a7F,_,rfl,a7G,a4T⟩:=dD a4S;obtain⟨a7H,_,rfl,a7I,a4U⟩:=dD a4T;obtain⟨a7J,_,rfl,a7K,a4V⟩:=dD a4U;obtain⟨a7L,_,rfl,a7M,a4W⟩:=dD a4V;obtain⟨a7N,_,rfl,a7O,a4X⟩:=dD a4W;obtain⟨a7P,_,rfl,a7Q,a4Y⟩:=dD a4X;obtain⟨a7R,_,rfl,a7S,a4Z⟩:=dD a4Y;obtain⟨a7T,_,rfl,a7U,a41⟩:=dD a4Z;obtain⟨a7V,_,rfl,a7W,a2F⟩:=dD a41;obtain⟨a6d,_,rfl,a6e,a2G⟩:=dD a2F;obtain⟨a6f,_,rfl,a6g,a2H⟩:=dD a2G;obtain⟨a6h,_,rfl,a6i,a2I⟩:=dD a2H;obtain⟨a6j,_,rfl,a6k,a2J⟩:=dD a2I;obtain⟨a6l,_,rfl,a6m,a2K⟩:=dD a2J;obtain⟨a6n,_,rfl,a6o,a2L⟩:=dD a2K;obtain⟨a6p,_,rfl,a6q,a2M⟩:=dD a2L;obtain⟨a6r,_,rfl,a6s,a2N⟩:=dD a2M;obtain⟨a6t,_,rfl,a6u,a2O⟩:=dD a2N;obtain⟨a6v,_,rfl,a6w,a2P⟩:=dD a2O;obtain rfl:=alW a2P
 obtain⟨n2,c2,_,rfl,m2,a42,g2⟩:=aK4 g1;obtain⟨a7X,_,rfl,a7Y,a43⟩:=dD a42;obtain⟨a7Z,_,rfl,a70,a44⟩:=dD a43;obtain⟨a71,_,rfl,a72,a45⟩:=dD a44;obtain⟨a73,_,rfl,a74,a46⟩:=dD a45;obtain⟨a75,_,rfl,a76,a47⟩:=dD a46;obtain⟨a77,_,rfl,a78,a48⟩:=dD a47;obtain⟨a79,_,rfl,a8a,a49⟩:=dD a48;obtain⟨a8b,_,rfl,a8c,a5a⟩:=dD a49;obtain⟨a8d,_,rfl,a8e,a5b⟩:=dD a5a;obtain⟨a8f,_,rfl,a8g,a2Q⟩:=dD a5b;obtain⟨a6x,_,rfl,a6y,a2R⟩:=dD a2Q;obtain⟨a6z,_,rfl,a6A,a2S⟩:=dD a2R;obtain⟨a6B,_,rfl,a6C,a2T⟩:=dD a2S;obtain⟨a6D,_,rfl,a6E,a2U⟩:=dD a2T;obtain⟨a6F,_,rfl,a6G,a2V⟩:=dD a2U;obtain⟨a6H,_,rfl,a6I,a2W⟩:=dD a2V;obtain⟨a6J,_,rfl,a6K,a2X⟩:=dD a2W;obtain⟨a6L,_,rfl,a6M,a2Y⟩:=dD a2X;obtain⟨a6N,_,rfl,a6O,a2Z⟩:=dD a2Y;obtain⟨a6P,_,rfl,a6Q,a21⟩:=dD a2Z;obtain rfl:=alW a21
 obtain⟨_,_,rfl,a5c,g3⟩:=aJj g2;obtain⟨a8h,_,rfl,a8i,a5d⟩:=CY a5c;obtain rfl:=aTn a5d
 obtain⟨n4,c4,_,rfl,m4,a5e,g4⟩:=aK4 g3;obtain⟨a8j,_,rfl,a8k,a5f⟩:=dD a5e;obtain⟨a8l,_,rfl,a8m,a5g⟩:=dD a5f;obtain⟨a8n,_,rfl,a8o,a5h⟩:=dD a5g;obtain⟨a8p,_,rfl,a8q,a5i⟩:=dD a5h;obtain⟨a8r,_,rfl,a8s,a5j⟩:=dD a5i;obtain⟨a8t,_,rfl,a8u,a5k⟩:=dD a5j;obtain⟨a8v,_,rfl,a8w,a5l⟩:=dD a5k;obtain⟨a8x,_,rfl,a8y,a5m⟩:=dD a5l;obtain⟨a8z,_,rfl,a8A,a5n⟩:=dD a5m;obtain⟨a8B,_,rfl,a8C,a23⟩:=dD a5n;obtain⟨a6R,_,rfl,a6S,a25⟩:=dD a23;obtain⟨a6T,_,rfl,a6U,a26⟩:=dD a25;obtain⟨a6V,_,rfl,a6W,a27⟩:=dD a26;obtain⟨a6X,_,rfl,a6Y,a28⟩:=dD a27;obtain⟨a6Z,_,rfl,a60,a29⟩:=dD a28;obtain⟨a61,_,rfl,a62,a3a⟩:=dD a29;obtain⟨a63,_,rfl,a64,a3b⟩:=dD a3a;obtain⟨a65,_,rfl,a66,a3c⟩:=dD a3b;obtain⟨a67,_,rfl,a68,a3d⟩:=dD a3c;obtain⟨a69,_,rfl,a7a,a3e⟩:=dD a3d;obtain rfl:=alW a3e
 obtain rfl:=aYs g4
 exact⟨[],(aZA aZz (by kernel_rfl)).trans rfl⟩
theorem aHh [ax]:Sound Tryz.prog 4 (FC oq (lf NG) vI):=azZ
set_option maxRecDepth 100000 in
theorem axQ (os:Os)(started:os.Started)(H:Type)(enc:TypeId×Value->H):
  ReturnsInHanded {} Tryz.checked os 4 .any (Rows.ekfOrdersSpec.pre6 enc Tryz.prog Tryz.f4 Rows.ekfOrdersRow.domain false) (Rows.ekfOrdersSpec.post enc Tryz.prog Tryz.f4 false true false false):=
 aUn (C:=Tryz.checked) (tb:=Tryz.f4.resultTypes.getD 0 0) own started (by kernel_rfl) Tryz.func4 laid (by kernel_rfl) (by kernel_rfl) (by kernel_rfl) rfl
  (λds h=>by
   have h:ds.length=5:=h.trans (by kernel_rfl);match ds,h with
   | [_,_,_,_,_],_=>rfl)
  (ChangeSpec.witness6 (enc:=enc) (C:=Tryz.checked) false ⟨#[],#[.agg #[.int .i64 0,.int .i64 0,.int .i64 0,.int .i64 0,.int .i64 0,.int .i64 0,.int .i64 0,.int .i64 0,.int .i64 0,.int .i64 0,.int .i64 0,.int .i64 0,.int .i64 0,.int .i64 0,.int .i64 0,.int .i64 0,.int .i64 0,.int .i64 0,.int .i64 0,.int .i64 0,.int .i64 0,.int .i64 0,.int .i64 0,.int .i64 0,.int .i64 0,.int .i64 0,.int .i64 0,.int .i64 0,.int .i64 0,.int .i64 0,.int .i64 0,.int .i64 0,.int .i64 0,.int .i64 0,.int .i64 0,.int .i64 0,.int .i64 0,.int .i64 0,.int .i64 0,.int .i64 0,.int .i64 0,.int .i64 0,.int .i64 0,.int .i64 0,.int .i64 0,.int .i64 0,.int .i64 0,.int .i64 0,.int .i64 0,.int .i64 0,.int .i64 0,.int .i64 0,.int .i64 0,.int .i64 0,.int .i64 0,.int .i64 0,.int .i64 0,.int .i64 0,.int .i64 0,.int .i64 0,.int .i64 0,.int .i64 0,.int .i64 0,.int .i64 0,.int .i64 0,.int .i64 0,.int .i64 0,.int .i64 0,.int .i64 0,.int .i64 0,.int .i64 0,.int .i64 0],.slice none 0 0,.slice none 0 0,.int .i64 0,.slice none 0 0],[]⟩ 8 (by kernel_rfl) (by kernel_rfl) (by kernel_rfl) (by kernel_rfl))
  (λW base args ds ps _ aFe ht _ _ _=>aRI (pr:=[.flat true [.c (.i .i64),.c (.i .i64),.c (.i .i64),.c (.i .i64),.c (.i .i64),.c (.i .i64),.c (.i .i64),.c (.i .i64),.c (.i .i64),.c (.i .i64),.c (.i .i64),.c (.i .i64),.c (.i .i64),.c (.i .i64),.c (.i .i64),.c (.i .i64),.a 24 [.i .i64],.a 24 [.i .i64],.c (.i .i64),.c (.i .i64),.c (.i .i64),.c (.i .i64),.c (.i .i64),.c (.i .i64),.c (.i .i64),.c (.i .i64)],.sl [.i .i64,.i .i64,.i .i64,.i .i64,.i .i64,.i .i64,.i .i64,.i .i64,.i .i64,.i .i64,.i .i64,.i .i64,.i .i64,.i .i64,.i .i64,.i .i64,.i .i64,.i .i64,.i .i64,.i .i64],.sl [.i .i64,.i .i64,.i .i64,.i .i64,.i .i64,.i .i64,.i .i64,.i .i64,.i .i64,.i .i64,.i .i64,.i .i64,.i .i64,.i .i64,.i .i64,.i .i64,.i .i64,.i .i64,.i .i64,.i .i64],.flat false [.c (.i .i64)],.sl [.i .i64,.i .i64,.i .i64,.i .i64,.i .i64,.i .i64,.i .i64,.i .i64,.i .i64,.i .i64,.i .i64,.i .i64,.i .i64,.i .i64,.i .i64,.i .i64,.i .i64,.i .i64,.i .i64,.i .i64]]) aHh (by kernel_rfl) (ts:=Tryz.f4.params.toList) (by kernel_rfl) az0 aFe ht)
def jf0 (P:Program)(f:FuncId)(fn:Func)(s:ChangeSpec)(c:OpenClaim):Bool:=c.wf (OpenSpec.ofChange s)&&laidOutB P&&mapsRowed P&&fn.params.all (P.readableRec ·)&&namedTie P c.named s.vars&&(c.stops==[])&&(P.stops==[])&&(c.knobs==[])&&(P.stopKnobs==[])
def jf1 (P:Program)(f:FuncId)(fn:Func)(s:ChangeSpec)(c:OpenClaim):Bool:=(c.inPlace==P.inPlace f)&&(c.unfollowed==P.unfollowed f)
def jf2 (P:Program)(f:FuncId)(fn:Func)(s:ChangeSpec)(c:OpenClaim):Bool:=(c.recurses==P.recurses f)&&(c.named==P.varsNamed f)
def jf3 (P:Program)(f:FuncId)(fn:Func)(s:ChangeSpec)(c:OpenClaim):Bool:=(c.maps==(fn.params.toList++s.plain.varTypes P).any (P.mapsRec ·))&&(c.ifaces==(fn.params.toList++s.plain.varTypes P).any (P.ifacesRec ·))&&(c.mapsOut==P.mapsAmong fn.resultTypes.toList)&&(c.loops==(fn.params.toList++s.plain.varTypes P).any (P.loopsFrom ·))&&(c.wideKeys==(fn.params.toList++s.plain.varTypes P++fn.resultTypes.toList).any (P.wideKeysFrom ·))
def jf4 (P:Program)(f:FuncId)(fn:Func)(s:ChangeSpec)(c:OpenClaim):Bool:=s.vars.all (P.varReadable ·)&&fn.resultTypes.all (λt=>P.readableRec t&&decide (t<P.types.size))&&(c.ifacesOut==fn.resultTypes.toList.any (P.ifacesRec ·))&&(c.loopsOut==fn.resultTypes.toList.any (P.loopsFrom ·))&&(c.plainKeys==P.plainKeys)&&c.shortTexts.isNone&&P.stopsHeard&&P.mayEnter&&(c.lifted==P.liftsFinal)&&(P.make==some c.make)&&(c.kinds==(if c.domain.isEmpty then[] else fn.params.toList.map λt=>match P.underlying t with|some (.int k)=>some k|_=>none))&&(c.pinned==c.pinnedBy)
def jf5 (P:Program)(f:FuncId)(fn:Func)(s:ChangeSpec)(c:OpenClaim):Bool:=(c.veiled==(fn.params.toList++s.plain.varTypes P++fn.resultTypes.toList).any (P.veiledRec ·))&&c.veiledFits P fn.params.toList (fn.params.toList++s.plain.varTypes P++fn.resultTypes.toList)
theorem a0O (P:Program)(f:FuncId)(fn:Func)(s:ChangeSpec)(c:OpenClaim):joinedFacts P f fn s c=(jf0 P f fn s c&&jf1 P f fn s c&&jf2 P f fn s c&&jf3 P f fn s c&&jf4 P f fn s c&&jf5 P f fn s c):=by
 simp only[joinedFacts,jf0,jf1,jf2,jf3,jf4,jf5,Bool.and_assoc];rfl
theorem aIz:jf0 Tryz.pinned.checked.prog 4 Tryz.f4 Rows.ekfOrdersSpec Rows.ekfOrdersRow=true:=by kernel_rfl
theorem aIA:jf1 Tryz.pinned.checked.prog 4 Tryz.f4 Rows.ekfOrdersSpec Rows.ekfOrdersRow=true:=by kernel_rfl
theorem aIB:jf2 Tryz.pinned.checked.prog 4 Tryz.f4 Rows.ekfOrdersSpec Rows.ekfOrdersRow=true:=by kernel_rfl
theorem aIC:jf3 Tryz.pinned.checked.prog 4 Tryz.f4 Rows.ekfOrdersSpec Rows.ekfOrdersRow=true:=by kernel_rfl
theorem aID:jf4 Tryz.pinned.checked.prog 4 Tryz.f4 Rows.ekfOrdersSpec Rows.ekfOrdersRow=true:=by kernel_rfl
theorem aIE:jf5 Tryz.pinned.checked.prog 4 Tryz.f4 Rows.ekfOrdersSpec Rows.ekfOrdersRow=true:=by kernel_rfl
theorem az2:joinedFacts Tryz.pinned.checked.prog 4 Tryz.f4 Rows.ekfOrdersSpec Rows.ekfOrdersRow=true:=by
 rw[a0O,aIz,aIA,aIB,aIC,aID,aIE];rfl
theorem aDO:Rows.ekfOrdersRow.holds Tryz.pinned (OpenSpec.ofChange Rows.ekfOrdersSpec):=
 OpenClaim.holds_of_wide 4 Tryz.f4 rfl rfl rfl rfl rfl rfl rfl ⟨rfl,rfl,rfl,rfl,rfl⟩ rfl rfl rfl rfl rfl (by kernel_rfl) Tryz.func4 az2
  (dq (by kernel_rfl)) (by unfold Func.isWrapper;first|(rw[if_pos (by decide+kernel)];kernel_rfl)|(rw[if_neg (by decide+kernel)];exact⟨rfl,rfl⟩))
  (λos started H enc _=>axQ os started H enc)
theorem ekfOrders_proved:Rows.EkfOrdersSaid:=aDO
#print axioms ekfOrders_proved
end Go.Proofs.YtldgljclcgaibaaGreat
