/-
  TopSilent
-/
import Derived.Test.YtldgljclcgaibaaGreatZAE
import Derived.Test.YtldgljclcgaibaaGreatZAO
set_option linter.all false
set_option maxRecDepth 100000
set_option maxHeartbeats 4000000
namespace Go.Proofs.YtldgljclcgaibaaGreat
open Go.Ab Go.Ab.Pg
theorem aZa {β δ:Type}{Q:Rq (List AV×List af) β}{R:δ->T}{f:β->Option δ}{t:δ}(hf:∀b,f b=some t){a:List AV}{h:List af}(hq:(Q.rd (a,h)).map Prod.fst=some []):(FC Q R f a h).eval=(R t).eval:=by
 unfold FC;cases hc:Q.rd (a,h) with
 |none=>rw[hc] at hq;cases hq
 |some b=>
  rw[hc] at hq;obtain⟨l,b⟩:=b;have hq:l=[]:=Od hq;subst hq;show(T.opt (f b) R).eval=_;rw[hf];rfl
theorem ayY:aXO (FC pe (lf NJ) wx) [.flat true [.c (.i .i64),.c (.i .i64),.c (.i .i64),.c (.i .i64),.c (.i .i64),.c (.i .i64),.c (.i .i64),.c (.i .i64),.c (.i .i64),.c (.i .i64),.c (.i .i64),.c (.i .i64),.c (.i .i64),.c (.i .i64),.c (.i .i64),.c (.i .i64),.a 24 [.i .i64],.a 24 [.i .i64],.c (.i .i64),.c (.i .i64),.c (.i .i64),.c (.i .i64),.c (.i .i64),.c (.i .i64),.c (.i .i64),.c (.i .i64)],.sl [.i .i64,.i .i64,.i .i64,.i .i64,.i .i64,.i .i64,.i .i64,.i .i64,.i .i64,.i .i64,.i .i64,.i .i64,.i .i64,.i .i64,.i .i64,.i .i64,.i .i64,.i .i64,.i .i64,.i .i64]]:=λds h=>by
 obtain⟨_,_,rfl,a3S,g0⟩:=aTJ h;obtain⟨a5y,_,rfl,a5z,a3T⟩:=EC a3S;obtain⟨a5A,_,rfl,a5B,a3U⟩:=EC a3T;obtain⟨a5C,_,rfl,a5D,a3V⟩:=EC a3U;obtain⟨a5E,_,rfl,a5F,a3W⟩:=EC a3V;obtain⟨a5G,_,rfl,a5H,a3X⟩:=EC a3W;obtain⟨a5I,_,rfl,a5J,a3Y⟩:=EC a3X;obtain⟨a5K,_,rfl,a5L,a3Z⟩:=EC a3Y;obtain⟨a5M,_,rfl,a5N,a30⟩:=EC a3Z;obtain⟨a5O,_,rfl,a5P,a31⟩:=EC a30;obtain⟨a5Q,_,rfl,a5R,a2a⟩:=EC a31;obtain⟨a4D,_,rfl,a4E,a2b⟩:=EC a2a;obtain⟨a4F,_,rfl,a4G,a2c⟩:=EC a2b;obtain⟨a4H,_,rfl,a4I,a2d⟩:=EC a2c;obtain⟨a4J,_,rfl,a4K,a2e⟩:=EC a2d;obtain⟨a4L,_,rfl,a4M,a2f⟩:=EC a2e;obtain⟨a4N,_,rfl,a4O,a2g⟩:=EC a2f;obtain⟨_,_,rfl,aZb,a2h⟩:=a0R a2g;obtain⟨a32,_,rfl,a33,aZc⟩:=xG aZb;obtain rfl:=aEy aZc
 obtain⟨_,_,rfl,aZd,a2i⟩:=a0R a2h;obtain⟨a34,_,rfl,a35,aZe⟩:=xG aZd;obtain rfl:=aEy aZe
 obtain⟨a4P,_,rfl,a4Q,a2j⟩:=EC a2i;obtain⟨a4R,_,rfl,a4S,a2k⟩:=EC a2j;obtain⟨a4T,_,rfl,a4U,a2l⟩:=EC a2k;obtain⟨a4V,_,rfl,a4W,a2m⟩:=EC a2l;obtain⟨a4X,_,rfl,a4Y,a2n⟩:=EC a2m;obtain⟨a4Z,_,rfl,a41,a2o⟩:=EC a2n;obtain⟨a42,_,rfl,a43,a2p⟩:=EC a2o;obtain⟨a44,_,rfl,a45,a2q⟩:=EC a2p;obtain rfl:=aZI a2q
 obtain⟨n1,c1,_,rfl,m1,a36,g1⟩:=aZH g0;obtain⟨a5S,_,rfl,a5T,a37⟩:=xG a36;obtain⟨a5U,_,rfl,a5V,a38⟩:=xG a37;obtain⟨a5W,_,rfl,a5X,a39⟩:=xG a38;obtain⟨a5Y,_,rfl,a5Z,a4a⟩:=xG a39;obtain⟨a50,_,rfl,a51,a4b⟩:=xG a4a;obtain⟨a52,_,rfl,a53,a4c⟩:=xG a4b;obtain⟨a54,_,rfl,a55,a4d⟩:=xG a4c;obtain⟨a56,_,rfl,a57,a4e⟩:=xG a4d;obtain⟨a58,_,rfl,a59,a4f⟩:=xG a4e;obtain⟨a6a,_,rfl,a6b,a2r⟩:=xG a4f;obtain⟨a46,_,rfl,a47,a2s⟩:=xG a2r;obtain⟨a48,_,rfl,a49,a2t⟩:=xG a2s;obtain⟨a5a,_,rfl,a5b,a2u⟩:=xG a2t;obtain⟨a5c,_,rfl,a5d,a2v⟩:=xG a2u;obtain⟨a5e,_,rfl,a5f,a2w⟩:=xG a2v;obtain⟨a5g,_,rfl,a5h,a2x⟩:=xG a2w;obtain⟨a5i,_,rfl,a5j,a2y⟩:=xG a2x;obtain⟨a5k,_,rfl,a5l,a2z⟩:=xG a2y;obtain⟨a5m,_,rfl,a5n,a2A⟩:=xG a2z;obtain⟨a5o,_,rfl,a5p,a2B⟩:=xG a2A;obtain rfl:=aEy a2B
 obtain rfl:=aXX g1
 exact⟨[],(aZa aY9 (by kernel_rfl)).trans rfl⟩
theorem aGa [ax]:Sound Tryz.prog 3 (FC pe (lf NJ) wx):=ayX
set_option maxRecDepth 100000 in
theorem awU (os:Os)(started:os.Started)(H:Type)(enc:TypeId×Value->H):
  ReturnsInHanded {} Tryz.checked os 3 .any (Rows.topSilentSpec.pre6 enc Tryz.prog Tryz.f3 Rows.topSilentRow.domain false) (Rows.topSilentSpec.post enc Tryz.prog Tryz.f3 false true false false):=
 aTD (C:=Tryz.checked) (tb:=Tryz.f3.resultTypes.getD 0 0) own started (by kernel_rfl) Tryz.func3 laid (by kernel_rfl) (by kernel_rfl) (by kernel_rfl) rfl
  (λds h=>by
   have h:ds.length=2:=h.trans (by kernel_rfl);match ds,h with
   | [_,_],_=>rfl)
  (ChangeSpec.witness6 (enc:=enc) (C:=Tryz.checked) false ⟨#[],#[.agg #[.int .i64 0,.int .i64 0,.int .i64 0,.int .i64 0,.int .i64 0,.int .i64 0,.int .i64 0,.int .i64 0,.int .i64 0,.int .i64 0,.int .i64 0,.int .i64 0,.int .i64 0,.int .i64 0,.int .i64 0,.int .i64 0,.int .i64 0,.int .i64 0,.int .i64 0,.int .i64 0,.int .i64 0,.int .i64 0,.int .i64 0,.int .i64 0,.int .i64 0,.int .i64 0,.int .i64 0,.int .i64 0,.int .i64 0,.int .i64 0,.int .i64 0,.int .i64 0,.int .i64 0,.int .i64 0,.int .i64 0,.int .i64 0,.int .i64 0,.int .i64 0,.int .i64 0,.int .i64 0,.int .i64 0,.int .i64 0,.int .i64 0,.int .i64 0,.int .i64 0,.int .i64 0,.int .i64 0,.int .i64 0,.int .i64 0,.int .i64 0,.int .i64 0,.int .i64 0,.int .i64 0,.int .i64 0,.int .i64 0,.int .i64 0,.int .i64 0,.int .i64 0,.int .i64 0,.int .i64 0,.int .i64 0,.int .i64 0,.int .i64 0,.int .i64 0,.int .i64 0,.int .i64 0,.int .i64 0,.int .i64 0,.int .i64 0,.int .i64 0,.int .i64 0,.int .i64 0],.slice none 0 0],[]⟩ 8 (by kernel_rfl) (by kernel_rfl) (by kernel_rfl) (by kernel_rfl))
  (λW base args ds ps _ aEf ht _ _ _=>aQ7 (pr:=[.flat true [.c (.i .i64),.c (.i .i64),.c (.i .i64),.c (.i .i64),.c (.i .i64),.c (.i .i64),.c (.i .i64),.c (.i .i64),.c (.i .i64),.c (.i .i64),.c (.i .i64),.c (.i .i64),.c (.i .i64),.c (.i .i64),.c (.i .i64),.c (.i .i64),.a 24 [.i .i64],.a 24 [.i .i64],.c (.i .i64),.c (.i .i64),.c (.i .i64),.c (.i .i64),.c (.i .i64),.c (.i .i64),.c (.i .i64),.c (.i .i64)],.sl [.i .i64,.i .i64,.i .i64,.i .i64,.i .i64,.i .i64,.i .i64,.i .i64,.i .i64,.i .i64,.i .i64,.i .i64,.i .i64,.i .i64,.i .i64,.i .i64,.i .i64,.i .i64,.i .i64,.i .i64]]) aGa (by kernel_rfl) (ts:=Tryz.f3.params.toList) (by kernel_rfl) ayY aEf ht)
def jf0 (P:Program)(f:FuncId)(fn:Func)(s:ChangeSpec)(c:OpenClaim):Bool:=c.wf (OpenSpec.ofChange s)&&laidOutB P&&mapsRowed P&&fn.params.all (P.readableRec ·)&&namedTie P c.named s.vars&&(c.stops==[])&&(P.stops==[])&&(c.knobs==[])&&(P.stopKnobs==[])
def jf1 (P:Program)(f:FuncId)(fn:Func)(s:ChangeSpec)(c:OpenClaim):Bool:=(c.inPlace==P.inPlace f)&&(c.unfollowed==P.unfollowed f)
def jf2 (P:Program)(f:FuncId)(fn:Func)(s:ChangeSpec)(c:OpenClaim):Bool:=(c.recurses==P.recurses f)&&(c.named==P.varsNamed f)
def jf3 (P:Program)(f:FuncId)(fn:Func)(s:ChangeSpec)(c:OpenClaim):Bool:=(c.maps==(fn.params.toList++s.plain.varTypes P).any (P.mapsRec ·))&&(c.ifaces==(fn.params.toList++s.plain.varTypes P).any (P.ifacesRec ·))&&(c.mapsOut==P.mapsAmong fn.resultTypes.toList)&&(c.loops==(fn.params.toList++s.plain.varTypes P).any (P.loopsFrom ·))&&(c.wideKeys==(fn.params.toList++s.plain.varTypes P++fn.resultTypes.toList).any (P.wideKeysFrom ·))
def jf4 (P:Program)(f:FuncId)(fn:Func)(s:ChangeSpec)(c:OpenClaim):Bool:=s.vars.all (P.varReadable ·)&&fn.resultTypes.all (λt=>P.readableRec t&&decide (t<P.types.size))&&(c.ifacesOut==fn.resultTypes.toList.any (P.ifacesRec ·))&&(c.loopsOut==fn.resultTypes.toList.any (P.loopsFrom ·))&&(c.plainKeys==P.plainKeys)&&c.shortTexts.isNone&&P.stopsHeard&&P.mayEnter&&(c.lifted==P.liftsFinal)&&(P.make==some c.make)&&(c.kinds==(if c.domain.isEmpty then[] else fn.params.toList.map λt=>match P.underlying t with|some (.int k)=>some k|_=>none))&&(c.pinned==c.pinnedBy)
def jf5 (P:Program)(f:FuncId)(fn:Func)(s:ChangeSpec)(c:OpenClaim):Bool:=(c.veiled==(fn.params.toList++s.plain.varTypes P++fn.resultTypes.toList).any (P.veiledRec ·))&&c.veiledFits P fn.params.toList (fn.params.toList++s.plain.varTypes P++fn.resultTypes.toList)
theorem a0v (P:Program)(f:FuncId)(fn:Func)(s:ChangeSpec)(c:OpenClaim):joinedFacts P f fn s c=(jf0 P f fn s c&&jf1 P f fn s c&&jf2 P f fn s c&&jf3 P f fn s c&&jf4 P f fn s c&&jf5 P f fn s c):=by
 simp only[joinedFacts,jf0,jf1,jf2,jf3,jf4,jf5,Bool.and_assoc];rfl
theorem aHz:jf0 Tryz.pinned.checked.prog 3 Tryz.f3 Rows.topSilentSpec Rows.topSilentRow=true:=by kernel_rfl
theorem aHA:jf1 Tryz.pinned.checked.prog 3 Tryz.f3 Rows.topSilentSpec Rows.topSilentRow=true:=by kernel_rfl
theorem aHB:jf2 Tryz.pinned.checked.prog 3 Tryz.f3 Rows.topSilentSpec Rows.topSilentRow=true:=by kernel_rfl
theorem aHC:jf3 Tryz.pinned.checked.prog 3 Tryz.f3 Rows.topSilentSpec Rows.topSilentRow=true:=by kernel_rfl
theorem aHD:jf4 Tryz.pinned.checked.prog 3 Tryz.f3 Rows.topSilentSpec Rows.topSilentRow=true:=by kernel_rfl
theorem aHE:jf5 Tryz.pinned.checked.prog 3 Tryz.f3 Rows.topSilentSpec Rows.topSilentRow=true:=by kernel_rfl
theorem ay0:joinedFacts Tryz.pinned.checked.prog 3 Tryz.f3 Rows.topSilentSpec Rows.topSilentRow=true:=by
 rw[a0v,aHz,aHA,aHB,aHC,aHD,aHE];rfl
theorem aCF:Rows.topSilentRow.holds Tryz.pinned (OpenSpec.ofChange Rows.topSilentSpec):=
 OpenClaim.holds_of_wide 3 Tryz.f3 rfl rfl rfl rfl rfl rfl rfl ⟨rfl,rfl,rfl,rfl,rfl⟩ rfl rfl rfl rfl rfl (by kernel_rfl) Tryz.func3 ay0
  (cQ (by kernel_rfl)) (by unfold Func.isWrapper;first|(rw[if_pos (by decide+kernel)];kernel_rfl)|(rw[if_neg (by decide+kernel)];exact⟨rfl,rfl⟩))
  (λos started H enc _=>awU os started H enc)
theorem topSilent_proved:Rows.TopSilentSaid:=aCF
#print axioms topSilent_proved
end Go.Proofs.YtldgljclcgaibaaGreat
