/-
  A sample that comes in time waits: the statement of astrolabelaw28.EkfWaits; no condition.
-/
import Derived.Test.YtldgljclcgaibaaGreatZAH
import Derived.Test.YtldgljclcgaibaaGreatZAN
set_option linter.unusedVariables false
set_option linter.unusedSimpArgs false
set_option maxRecDepth 100000
set_option maxHeartbeats 4000000
namespace Go.Proofs.YtldgljclcgaibaaGreat
open Go.Ab Go.Ab.Pg
theorem aUK {β δ:Type}{Q:Rq (List AV×List af) β}{R:δ->T}{f:β->Option δ}{t:δ}(hf:∀b,f b=some t){a:List AV}{h:List af}(hq:(Q.rd (a,h)).map Prod.fst=some []):(FC Q R f a h).eval=(R t).eval:=by
 unfold FC
 cases hc:Q.rd (a,h) with
 |none=>rw[hc] at hq;cases hq
 |some b=>
  rw[hc] at hq
  obtain⟨l,b⟩:=b
  have hq:l=[]:=Option.some.inj hq
  subst hq
  show(T.opt (f b) R).eval=_
  rw[hf]
  rfl
theorem aAd:aTG (FC oz (lf NK) vQ) [.flat true [.c (.i .i64),.c (.i .i64),.c (.i .i64),.c (.i .i64),.c (.i .i64),.c (.i .i64),.c (.i .i64),.c (.i .i64),.c (.i .i64),.c (.i .i64),.c (.i .i64),.c (.i .i64),.c (.i .i64),.c (.i .i64),.c (.i .i64),.c (.i .i64),.a 24 [.i .i64],.a 24 [.i .i64],.c (.i .i64),.c (.i .i64),.c (.i .i64),.c (.i .i64),.c (.i .i64),.c (.i .i64),.c (.i .i64),.c (.i .i64)],.sl [.i .i64,.i .i64,.i .i64,.i .i64,.i .i64,.i .i64,.i .i64,.i .i64,.i .i64,.i .i64,.i .i64,.i .i64,.i .i64,.i .i64,.i .i64,.i .i64,.i .i64,.i .i64,.i .i64,.i .i64],.flat false [.c (.i .i64)],.flat true [.c (.i .i64),.c (.i .i64),.c (.i .i64),.c (.i .i64),.c (.i .i64),.c (.i .i64),.c (.i .i64),.c (.i .i64),.c (.i .i64)]]:=λds h=>by
 obtain⟨_,_,rfl,aY6,g0⟩:=avC h
 obtain⟨a0W,_,rfl,a0X,aY7⟩:=re aY6
 obtain⟨a0Y,_,rfl,a0Z,aY8⟩:=re aY7
 obtain⟨a00,_,rfl,a01,aY9⟩:=re aY8
 obtain⟨a02,_,rfl,a03,aZa⟩:=re aY9
 obtain⟨a04,_,rfl,a05,aZb⟩:=re aZa
 obtain⟨a06,_,rfl,a07,aZc⟩:=re aZb
 obtain⟨a08,_,rfl,a09,aZd⟩:=re aZc
 obtain⟨a1a,_,rfl,a1b,aZe⟩:=re aZd
 obtain⟨a1c,_,rfl,a1d,aZf⟩:=re aZe
 obtain⟨a1e,_,rfl,a1f,aXs⟩:=re aZf
 obtain⟨aZ2,_,rfl,aZ3,aXt⟩:=re aXs
 obtain⟨aZ4,_,rfl,aZ5,aXu⟩:=re aXt
 obtain⟨aZ6,_,rfl,aZ7,aXv⟩:=re aXu
 obtain⟨aZ8,_,rfl,aZ9,aXw⟩:=re aXv
 obtain⟨a0a,_,rfl,a0b,aXx⟩:=re aXw
 obtain⟨a0c,_,rfl,a0d,aXy⟩:=re aXx
 obtain⟨_,_,rfl,aUL,aXz⟩:=aWl aXy
 obtain⟨aZg,_,rfl,aZh,aUM⟩:=vf aUL
 obtain rfl:=aCx aUM
 obtain⟨_,_,rfl,aUN,aXA⟩:=aWl aXz
 obtain⟨aZi,_,rfl,aZj,aUO⟩:=vf aUN
 obtain rfl:=aCx aUO
 obtain⟨a0e,_,rfl,a0f,aXB⟩:=re aXA
 obtain⟨a0g,_,rfl,a0h,aXC⟩:=re aXB
 obtain⟨a0i,_,rfl,a0j,aXD⟩:=re aXC
 obtain⟨a0k,_,rfl,a0l,aXE⟩:=re aXD
 obtain⟨a0m,_,rfl,a0n,aXF⟩:=re aXE
 obtain⟨a0o,_,rfl,a0p,aXG⟩:=re aXF
 obtain⟨a0q,_,rfl,a0r,aXH⟩:=re aXG
 obtain⟨a0s,_,rfl,a0t,aXI⟩:=re aXH
 obtain rfl:=aHz aXI
 obtain⟨n1,c1,_,rfl,m1,aZk,g1⟩:=aVg g0
 obtain⟨a1g,_,rfl,a1h,aZl⟩:=vf aZk
 obtain⟨a1i,_,rfl,a1j,aZm⟩:=vf aZl
 obtain⟨a1k,_,rfl,a1l,aZn⟩:=vf aZm
 obtain⟨a1m,_,rfl,a1n,aZo⟩:=vf aZn
 obtain⟨a1o,_,rfl,a1p,aZp⟩:=vf aZo
 obtain⟨a1q,_,rfl,a1r,aZq⟩:=vf aZp
 obtain⟨a1s,_,rfl,a1t,aZr⟩:=vf aZq
 obtain⟨a1u,_,rfl,a1v,aZs⟩:=vf aZr
 obtain⟨a1w,_,rfl,a1x,aZt⟩:=vf aZs
 obtain⟨a1y,_,rfl,a1z,aXJ⟩:=vf aZt
 obtain⟨a0u,_,rfl,a0v,aXK⟩:=vf aXJ
 obtain⟨a0w,_,rfl,a0x,aXL⟩:=vf aXK
 obtain⟨a0y,_,rfl,a0z,aXM⟩:=vf aXL
 obtain⟨a0A,_,rfl,a0B,aXN⟩:=vf aXM
 obtain⟨a0C,_,rfl,a0D,aXO⟩:=vf aXN
 obtain⟨a0E,_,rfl,a0F,aXP⟩:=vf aXO
 obtain⟨a0G,_,rfl,a0H,aXQ⟩:=vf aXP
 obtain⟨a0I,_,rfl,a0J,aXR⟩:=vf aXQ
 obtain⟨a0K,_,rfl,a0L,aXS⟩:=vf aXR
 obtain⟨a0M,_,rfl,a0N,aXT⟩:=vf aXS
 obtain rfl:=aCx aXT
 obtain⟨_,_,rfl,aZu,g2⟩:=avC g1
 obtain⟨a1A,_,rfl,a1B,aZv⟩:=re aZu
 obtain rfl:=aHz aZv
 obtain⟨_,_,rfl,aZw,g3⟩:=avC g2
 obtain⟨a1C,_,rfl,a1D,aZx⟩:=re aZw
 obtain⟨a1E,_,rfl,a1F,aZy⟩:=re aZx
 obtain⟨a1G,_,rfl,a1H,aZz⟩:=re aZy
 obtain⟨a1I,_,rfl,a1J,aZA⟩:=re aZz
 obtain⟨a1K,_,rfl,a1L,aZB⟩:=re aZA
 obtain⟨a1M,_,rfl,a1N,aZC⟩:=re aZB
 obtain⟨a1O,_,rfl,a1P,aZD⟩:=re aZC
 obtain⟨a1Q,_,rfl,a1R,aZE⟩:=re aZD
 obtain⟨a1S,_,rfl,a1T,aZF⟩:=re aZE
 obtain rfl:=aHz aZF
 obtain rfl:=aTY g3
 exact⟨[],(aUK waits (by kernel_rfl)).trans rfl⟩
theorem aEP [ax]:Sound Tryz.prog 6 (FC oz (lf NK) vQ):=aAc
set_option maxRecDepth 100000 in
theorem awn (os:Os)(started:os.Started)(H:Type)(enc:TypeId×Value->H):
  ReturnsInHanded {} Tryz.checked os 6 .any (Rows.ekfWaitsSpec.pre6 enc Tryz.prog Tryz.f6 Rows.ekfWaitsRow.domain false) (Rows.ekfWaitsSpec.post enc Tryz.prog Tryz.f6 false true false false):=
 aPR (C:=Tryz.checked) (tb:=Tryz.f6.resultTypes.getD 0 0) own started (by kernel_rfl) Tryz.func6 laid (by kernel_rfl) (by kernel_rfl) (by kernel_rfl) rfl
  (λds h=>by
   have h:ds.length=4:=h.trans (by kernel_rfl)
   match ds,h with
   | [_,_,_,_],_=>rfl)
  (ChangeSpec.witness6 (enc:=enc) (C:=Tryz.checked) false ⟨#[],#[.agg #[.int .i64 0,.int .i64 0,.int .i64 0,.int .i64 0,.int .i64 0,.int .i64 0,.int .i64 0,.int .i64 0,.int .i64 0,.int .i64 0,.int .i64 0,.int .i64 0,.int .i64 0,.int .i64 0,.int .i64 0,.int .i64 0,.int .i64 0,.int .i64 0,.int .i64 0,.int .i64 0,.int .i64 0,.int .i64 0,.int .i64 0,.int .i64 0,.int .i64 0,.int .i64 0,.int .i64 0,.int .i64 0,.int .i64 0,.int .i64 0,.int .i64 0,.int .i64 0,.int .i64 0,.int .i64 0,.int .i64 0,.int .i64 0,.int .i64 0,.int .i64 0,.int .i64 0,.int .i64 0,.int .i64 0,.int .i64 0,.int .i64 0,.int .i64 0,.int .i64 0,.int .i64 0,.int .i64 0,.int .i64 0,.int .i64 0,.int .i64 0,.int .i64 0,.int .i64 0,.int .i64 0,.int .i64 0,.int .i64 0,.int .i64 0,.int .i64 0,.int .i64 0,.int .i64 0,.int .i64 0,.int .i64 0,.int .i64 0,.int .i64 0,.int .i64 0,.int .i64 0,.int .i64 0,.int .i64 0,.int .i64 0,.int .i64 0,.int .i64 0,.int .i64 0,.int .i64 0],.slice none 0 0,.int .i64 0,.agg #[.int .i64 0,.int .i64 0,.int .i64 0,.int .i64 0,.int .i64 0,.int .i64 0,.int .i64 0,.int .i64 0,.int .i64 0]],[]⟩ 8 (by kernel_rfl) (by kernel_rfl) (by kernel_rfl) (by kernel_rfl))
  (λW base args ds ps _ aBv ht _ _ _=>aNk (pr:=[.flat true [.c (.i .i64),.c (.i .i64),.c (.i .i64),.c (.i .i64),.c (.i .i64),.c (.i .i64),.c (.i .i64),.c (.i .i64),.c (.i .i64),.c (.i .i64),.c (.i .i64),.c (.i .i64),.c (.i .i64),.c (.i .i64),.c (.i .i64),.c (.i .i64),.a 24 [.i .i64],.a 24 [.i .i64],.c (.i .i64),.c (.i .i64),.c (.i .i64),.c (.i .i64),.c (.i .i64),.c (.i .i64),.c (.i .i64),.c (.i .i64)],.sl [.i .i64,.i .i64,.i .i64,.i .i64,.i .i64,.i .i64,.i .i64,.i .i64,.i .i64,.i .i64,.i .i64,.i .i64,.i .i64,.i .i64,.i .i64,.i .i64,.i .i64,.i .i64,.i .i64,.i .i64],.flat false [.c (.i .i64)],.flat true [.c (.i .i64),.c (.i .i64),.c (.i .i64),.c (.i .i64),.c (.i .i64),.c (.i .i64),.c (.i .i64),.c (.i .i64),.c (.i .i64)]]) aEP (by kernel_rfl) (ts:=Tryz.f6.params.toList) (by kernel_rfl) aAd aBv ht)
def jf0 (P:Program)(f:FuncId)(fn:Func)(s:ChangeSpec)(c:OpenClaim):Bool:=c.wf (OpenSpec.ofChange s)&&laidOutB P&&mapsRowed P&&fn.params.all (P.readableRec ·)&&namedTie P c.named s.vars&&(c.stops==[])&&(P.stops==[])&&(c.knobs==[])&&(P.stopKnobs==[])
def jf1 (P:Program)(f:FuncId)(fn:Func)(s:ChangeSpec)(c:OpenClaim):Bool:=(c.inPlace==P.inPlace f)&&(c.unfollowed==P.unfollowed f)
def jf2 (P:Program)(f:FuncId)(fn:Func)(s:ChangeSpec)(c:OpenClaim):Bool:=(c.recurses==P.recurses f)&&(c.named==P.varsNamed f)
def jf3 (P:Program)(f:FuncId)(fn:Func)(s:ChangeSpec)(c:OpenClaim):Bool:=(c.maps==(fn.params.toList++s.plain.varTypes P).any (P.mapsRec ·))&&(c.ifaces==(fn.params.toList++s.plain.varTypes P).any (P.ifacesRec ·))&&(c.mapsOut==P.mapsAmong fn.resultTypes.toList)&&(c.loops==(fn.params.toList++s.plain.varTypes P).any (P.loopsFrom ·))&&(c.wideKeys==(fn.params.toList++s.plain.varTypes P++fn.resultTypes.toList).any (P.wideKeysFrom ·))
def jf4 (P:Program)(f:FuncId)(fn:Func)(s:ChangeSpec)(c:OpenClaim):Bool:=s.vars.all (P.varReadable ·)&&fn.resultTypes.all (λt=>P.readableRec t&&decide (t<P.types.size))&&(c.ifacesOut==fn.resultTypes.toList.any (P.ifacesRec ·))&&(c.loopsOut==fn.resultTypes.toList.any (P.loopsFrom ·))&&(c.plainKeys==P.plainKeys)&&c.shortTexts.isNone&&P.stopsHeard&&P.mayEnter&&(c.lifted==P.liftsFinal)&&(P.make==some c.make)&&(c.kinds==(if c.domain.isEmpty then[] else fn.params.toList.map λt=>match P.underlying t with|some (.int k)=>some k|_=>none))&&(c.pinned==c.pinnedBy)
def jf5 (P:Program)(f:FuncId)(fn:Func)(s:ChangeSpec)(c:OpenClaim):Bool:=(c.veiled==(fn.params.toList++s.plain.varTypes P++fn.resultTypes.toList).any (P.veiledRec ·))&&c.veiledFits P fn.params.toList (fn.params.toList++s.plain.varTypes P++fn.resultTypes.toList)
theorem aVU (P:Program)(f:FuncId)(fn:Func)(s:ChangeSpec)(c:OpenClaim):joinedFacts P f fn s c=(jf0 P f fn s c&&jf1 P f fn s c&&jf2 P f fn s c&&jf3 P f fn s c&&jf4 P f fn s c&&jf5 P f fn s c):=by
 simp only[joinedFacts,jf0,jf1,jf2,jf3,jf4,jf5,Bool.and_assoc]
 rfl
theorem aIt:jf0 Tryz.pinned.checked.prog 6 Tryz.f6 Rows.ekfWaitsSpec Rows.ekfWaitsRow=true:=by kernel_rfl
theorem aIu:jf1 Tryz.pinned.checked.prog 6 Tryz.f6 Rows.ekfWaitsSpec Rows.ekfWaitsRow=true:=by kernel_rfl
theorem aIv:jf2 Tryz.pinned.checked.prog 6 Tryz.f6 Rows.ekfWaitsSpec Rows.ekfWaitsRow=true:=by kernel_rfl
theorem aIw:jf3 Tryz.pinned.checked.prog 6 Tryz.f6 Rows.ekfWaitsSpec Rows.ekfWaitsRow=true:=by kernel_rfl
theorem aIx:jf4 Tryz.pinned.checked.prog 6 Tryz.f6 Rows.ekfWaitsSpec Rows.ekfWaitsRow=true:=by kernel_rfl
theorem aIy:jf5 Tryz.pinned.checked.prog 6 Tryz.f6 Rows.ekfWaitsSpec Rows.ekfWaitsRow=true:=by kernel_rfl
theorem aAf:joinedFacts Tryz.pinned.checked.prog 6 Tryz.f6 Rows.ekfWaitsSpec Rows.ekfWaitsRow=true:=by
 rw[aVU,aIt,aIu,aIv,aIw,aIx,aIy]
 rfl
theorem aDA:Rows.ekfWaitsRow.holds Tryz.pinned (OpenSpec.ofChange Rows.ekfWaitsSpec):=
 OpenClaim.holds_of_wide 6 Tryz.f6 rfl rfl rfl rfl rfl rfl rfl ⟨rfl,rfl,rfl,rfl,rfl⟩ rfl rfl rfl rfl rfl (by kernel_rfl) Tryz.func6 aAf
  (of_decide_eq_true (by kernel_rfl)) (by unfold Func.isWrapper;first|(rw[if_pos (by decide+kernel)];kernel_rfl)|(rw[if_neg (by decide+kernel)];exact⟨rfl,rfl⟩))
  (λos started H enc _=>awn os started H enc)
theorem ekfWaits_proved:Rows.EkfWaitsSaid:=aDA
#print axioms ekfWaits_proved
end Go.Proofs.YtldgljclcgaibaaGreat
