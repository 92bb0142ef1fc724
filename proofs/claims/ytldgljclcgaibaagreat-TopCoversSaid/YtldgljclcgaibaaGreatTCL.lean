/-
  The factors are a covariance's: what two states have in common is no more than their variances allow: the statement of astrolabetop.TopCovers; no condition.
-/
import Derived.Test.YtldgljclcgaibaaGreatZAE
import Derived.Test.YtldgljclcgaibaaGreatZAN
set_option linter.unusedVariables false
set_option linter.unusedSimpArgs false
set_option maxRecDepth 100000
set_option maxHeartbeats 4000000
namespace Go.Proofs.YtldgljclcgaibaaGreat
open Go.Ab Go.Ab.Pg
theorem aZl {β δ:Type}{Q:Rq (List AV×List aj) β}{R:δ->T}{f:β->Option δ}{t:δ}(hf:∀b,f b=some t){a:List AV}{h:List aj}(hq:(Q.rd (a,h)).map Prod.fst=some []):(FC Q R f a h).eval=(R t).eval:=by
 unfold FC;cases hc:Q.rd (a,h) with
 |none=>rw[hc] at hq;cases hq
 |some b=>
  rw[hc] at hq;obtain⟨l,b⟩:=b;have hq:l=[]:=Ka hq;subst hq;show(T.opt (f b) R).eval=_;rw[hf];rfl
theorem azu:aX7 (FC oW (lf NU) wc) [.sl [.i .i64,.i .i64,.i .i64,.i .i64,.i .i64,.i .i64,.i .i64,.i .i64,.i .i64,.i .i64,.i .i64,.i .i64,.i .i64,.i .i64,.i .i64,.i .i64,.i .i64,.i .i64,.i .i64,.i .i64],.flat false [.c (.i .i64)],.flat false [.c (.i .i64)]]:=λds h=>by
 obtain⟨n0,c0,_,rfl,m0,a3Z,g0⟩:=aZN h;obtain⟨a46,_,rfl,a47,a30⟩:=Bd a3Z;obtain⟨a48,_,rfl,a49,a31⟩:=Bd a30;obtain⟨a5a,_,rfl,a5b,a32⟩:=Bd a31;obtain⟨a5c,_,rfl,a5d,a33⟩:=Bd a32;obtain⟨a5e,_,rfl,a5f,a34⟩:=Bd a33;obtain⟨a5g,_,rfl,a5h,a35⟩:=Bd a34;obtain⟨a5i,_,rfl,a5j,a36⟩:=Bd a35;obtain⟨a5k,_,rfl,a5l,a37⟩:=Bd a36;obtain⟨a5m,_,rfl,a5n,a38⟩:=Bd a37;obtain⟨a5o,_,rfl,a5p,a2y⟩:=Bd a38;obtain⟨a4C,_,rfl,a4D,a2z⟩:=Bd a2y;obtain⟨a4E,_,rfl,a4F,a2A⟩:=Bd a2z;obtain⟨a4G,_,rfl,a4H,a2B⟩:=Bd a2A;obtain⟨a4I,_,rfl,a4J,a2C⟩:=Bd a2B;obtain⟨a4K,_,rfl,a4L,a2D⟩:=Bd a2C;obtain⟨a4M,_,rfl,a4N,a2E⟩:=Bd a2D;obtain⟨a4O,_,rfl,a4P,a2F⟩:=Bd a2E;obtain⟨a4Q,_,rfl,a4R,a2G⟩:=Bd a2F;obtain⟨a4S,_,rfl,a4T,a2H⟩:=Bd a2G;obtain⟨a4U,_,rfl,a4V,a2I⟩:=Bd a2H;obtain rfl:=aYh a2I
 obtain⟨_,_,rfl,a39,g1⟩:=aIY g0;obtain⟨a5q,_,rfl,a5r,a4a⟩:=a07 a39;obtain rfl:=aSJ a4a
 obtain⟨_,_,rfl,a4b,g2⟩:=aIY g1;obtain⟨a5s,_,rfl,a5t,a4c⟩:=a07 a4b;obtain rfl:=aSJ a4c
 obtain rfl:=aYg g2
 exact⟨[],(aZl aZk (by kernel_rfl)).trans rfl⟩
theorem aGX [aA]:Sound Tryz.prog 8 (FC oW (lf NU) wc):=azq
set_option maxRecDepth 100000 in
theorem axj (os:Os)(started:os.Started)(H:Type)(enc:TypeId×Value->H):
  ReturnsInHanded {} Tryz.checked os 8 .any (Rows.topCoversSpec.pre6 enc Tryz.prog Tryz.f8 Rows.topCoversRow.domain false) (Rows.topCoversSpec.post enc Tryz.prog Tryz.f8 false true false false):=
 aTx (C:=Tryz.checked) (tb:=Tryz.f8.resultTypes.getD 0 0) own started (by kernel_rfl) Tryz.func8 laid (by kernel_rfl) (by kernel_rfl) (by kernel_rfl) rfl
  (λds h=>by
   have h:ds.length=3:=h.trans (by kernel_rfl);match ds,h with
   | [_,_,_],_=>rfl)
  (ChangeSpec.witness6 (enc:=enc) (C:=Tryz.checked) false ⟨#[],#[.slice none 0 0,.int .i64 0,.int .i64 0],[]⟩ 8 (by kernel_rfl) (by kernel_rfl) (by kernel_rfl) (by kernel_rfl))
  (λW base args ds ps _ aEY ht _ _ _=>aQN (pr:=[.sl [.i .i64,.i .i64,.i .i64,.i .i64,.i .i64,.i .i64,.i .i64,.i .i64,.i .i64,.i .i64,.i .i64,.i .i64,.i .i64,.i .i64,.i .i64,.i .i64,.i .i64,.i .i64,.i .i64,.i .i64],.flat false [.c (.i .i64)],.flat false [.c (.i .i64)]]) aGX (by kernel_rfl) (ts:=Tryz.f8.params.toList) (by kernel_rfl) azu aEY ht)
def jf0 (P:Program)(f:FuncId)(fn:Func)(s:ChangeSpec)(c:OpenClaim):Bool:=c.wf (OpenSpec.ofChange s)&&laidOutB P&&mapsRowed P&&fn.params.all (P.readableRec ·)&&namedTie P c.named s.vars&&(c.stops==[])&&(P.stops==[])&&(c.knobs==[])&&(P.stopKnobs==[])
def jf1 (P:Program)(f:FuncId)(fn:Func)(s:ChangeSpec)(c:OpenClaim):Bool:=(c.inPlace==P.inPlace f)&&(c.unfollowed==P.unfollowed f)
def jf2 (P:Program)(f:FuncId)(fn:Func)(s:ChangeSpec)(c:OpenClaim):Bool:=(c.recurses==P.recurses f)&&(c.named==P.varsNamed f)
def jf3 (P:Program)(f:FuncId)(fn:Func)(s:ChangeSpec)(c:OpenClaim):Bool:=(c.maps==(fn.params.toList++s.plain.varTypes P).any (P.mapsRec ·))&&(c.ifaces==(fn.params.toList++s.plain.varTypes P).any (P.ifacesRec ·))&&(c.mapsOut==P.mapsAmong fn.resultTypes.toList)&&(c.loops==(fn.params.toList++s.plain.varTypes P).any (P.loopsFrom ·))&&(c.wideKeys==(fn.params.toList++s.plain.varTypes P++fn.resultTypes.toList).any (P.wideKeysFrom ·))
def jf4 (P:Program)(f:FuncId)(fn:Func)(s:ChangeSpec)(c:OpenClaim):Bool:=s.vars.all (P.varReadable ·)&&fn.resultTypes.all (λt=>P.readableRec t&&decide (t<P.types.size))&&(c.ifacesOut==fn.resultTypes.toList.any (P.ifacesRec ·))&&(c.loopsOut==fn.resultTypes.toList.any (P.loopsFrom ·))&&(c.plainKeys==P.plainKeys)&&c.shortTexts.isNone&&P.stopsHeard&&P.mayEnter&&(c.lifted==P.liftsFinal)&&(P.make==some c.make)&&(c.kinds==(if c.domain.isEmpty then[] else fn.params.toList.map λt=>match P.underlying t with|some (.int k)=>some k|_=>none))&&(c.pinned==c.pinnedBy)
def jf5 (P:Program)(f:FuncId)(fn:Func)(s:ChangeSpec)(c:OpenClaim):Bool:=(c.veiled==(fn.params.toList++s.plain.varTypes P++fn.resultTypes.toList).any (P.veiledRec ·))&&c.veiledFits P fn.params.toList (fn.params.toList++s.plain.varTypes P++fn.resultTypes.toList)
theorem a0K (P:Program)(f:FuncId)(fn:Func)(s:ChangeSpec)(c:OpenClaim):joinedFacts P f fn s c=(jf0 P f fn s c&&jf1 P f fn s c&&jf2 P f fn s c&&jf3 P f fn s c&&jf4 P f fn s c&&jf5 P f fn s c):=by
 simp only[joinedFacts,jf0,jf1,jf2,jf3,jf4,jf5,Bool.and_assoc];rfl
theorem aH9:jf0 Tryz.pinned.checked.prog 8 Tryz.f8 Rows.topCoversSpec Rows.topCoversRow=true:=by kernel_rfl
theorem aIa:jf1 Tryz.pinned.checked.prog 8 Tryz.f8 Rows.topCoversSpec Rows.topCoversRow=true:=by kernel_rfl
theorem aIb:jf2 Tryz.pinned.checked.prog 8 Tryz.f8 Rows.topCoversSpec Rows.topCoversRow=true:=by kernel_rfl
theorem aIc:jf3 Tryz.pinned.checked.prog 8 Tryz.f8 Rows.topCoversSpec Rows.topCoversRow=true:=by kernel_rfl
theorem aId:jf4 Tryz.pinned.checked.prog 8 Tryz.f8 Rows.topCoversSpec Rows.topCoversRow=true:=by kernel_rfl
theorem aIe:jf5 Tryz.pinned.checked.prog 8 Tryz.f8 Rows.topCoversSpec Rows.topCoversRow=true:=by kernel_rfl
theorem azw:joinedFacts Tryz.pinned.checked.prog 8 Tryz.f8 Rows.topCoversSpec Rows.topCoversRow=true:=by
 rw[a0K,aH9,aIa,aIb,aIc,aId,aIe];rfl
theorem aDg:Rows.topCoversRow.holds Tryz.pinned (OpenSpec.ofChange Rows.topCoversSpec):=
 OpenClaim.holds_of_wide 8 Tryz.f8 rfl rfl rfl rfl rfl rfl rfl ⟨rfl,rfl,rfl,rfl,rfl⟩ rfl rfl rfl rfl rfl (by kernel_rfl) Tryz.func8 azw
  (db (by kernel_rfl)) (by unfold Func.isWrapper;first|(rw[if_pos (by decide+kernel)];kernel_rfl)|(rw[if_neg (by decide+kernel)];exact⟨rfl,rfl⟩))
  (λos started H enc _=>axj os started H enc)
theorem topCovers_proved:Rows.TopCoversSaid:=aDg
#print axioms topCovers_proved
end Go.Proofs.YtldgljclcgaibaaGreat
