/-
  Inertial samples that are cut in two make the same of everything: the statement of astrolabelaw28.EkfHalves; no condition.
-/
import Derived.Test.YtldgljclcgaibaaGreatZAE
import Derived.Test.YtldgljclcgaibaaGreatZAN
set_option linter.unusedVariables false
set_option linter.unusedSimpArgs false
set_option maxRecDepth 100000
set_option maxHeartbeats 4000000
namespace Go.Proofs.YtldgljclcgaibaaGreat
open Go.Ab Go.Ab.Pg
theorem aS4 {β δ:Type}{Q:Rq (List AV×List af) β}{R:δ->T}{f:β->Option δ}{t:δ}(hf:∀b,f b=some t){a:List AV}{h:List af}(hq:(Q.rd (a,h)).map Prod.fst=some []):(FC Q R f a h).eval=(R t).eval:=by
 unfold FC
 cases hc:Q.rd (a,h) with
 |none=>rw[hc] at hq;cases hq
 |some b=>
  rw[hc] at hq
  obtain⟨l,b⟩:=b
  have hq:l=[]:=Option.some.inj hq
  subst hq
  show(T.opt (f b) R).eval=_
  rw[hf]
  rfl
theorem av2:aR4 (FC mV (lf Lh) tq) [.flat true [.c (.i .i64),.c (.i .i64),.c (.i .i64),.c (.i .i64),.c (.i .i64),.c (.i .i64),.c (.i .i64),.c (.i .i64),.c (.i .i64),.c (.i .i64),.c (.i .i64),.c (.i .i64),.c (.i .i64),.c (.i .i64),.c (.i .i64),.c (.i .i64),.a 24 [.i .i64],.a 24 [.i .i64],.c (.i .i64),.c (.i .i64),.c (.i .i64),.c (.i .i64),.c (.i .i64),.c (.i .i64),.c (.i .i64),.c (.i .i64)],.flat false [.c (.i .i64)]]:=λds h=>by
 obtain⟨_,_,rfl,aXj,g0⟩:=aEL h
 obtain⟨aYv,_,rfl,aYw,aXk⟩:=AI aXj
 obtain⟨aYx,_,rfl,aYy,aXl⟩:=AI aXk
 obtain⟨aYz,_,rfl,aYA,aXm⟩:=AI aXl
 obtain⟨aYB,_,rfl,aYC,aXn⟩:=AI aXm
 obtain⟨aYD,_,rfl,aYE,aXo⟩:=AI aXn
 obtain⟨aYF,_,rfl,aYG,aXp⟩:=AI aXo
 obtain⟨aYH,_,rfl,aYI,aXq⟩:=AI aXp
 obtain⟨aYJ,_,rfl,aYK,aXr⟩:=AI aXq
 obtain⟨aYL,_,rfl,aYM,aXs⟩:=AI aXr
 obtain⟨aYN,_,rfl,aYO,aVQ⟩:=AI aXs
 obtain⟨aXV,_,rfl,aXW,aVR⟩:=AI aVQ
 obtain⟨aXX,_,rfl,aXY,aVS⟩:=AI aVR
 obtain⟨aXZ,_,rfl,aX0,aVT⟩:=AI aVS
 obtain⟨aX1,_,rfl,aX2,aVU⟩:=AI aVT
 obtain⟨aX3,_,rfl,aX4,aVV⟩:=AI aVU
 obtain⟨aX5,_,rfl,aX6,aVW⟩:=AI aVV
 obtain⟨_,_,rfl,aS5,aVX⟩:=aUC aVW
 obtain⟨aXt,_,rfl,aXu,aS6⟩:=aSe aS5
 obtain rfl:=aIO aS6
 obtain⟨_,_,rfl,aS7,aVY⟩:=aUC aVX
 obtain⟨aXv,_,rfl,aXw,aS8⟩:=aSe aS7
 obtain rfl:=aIO aS8
 obtain⟨aX7,_,rfl,aX8,aVZ⟩:=AI aVY
 obtain⟨aX9,_,rfl,aYa,aV0⟩:=AI aVZ
 obtain⟨aYb,_,rfl,aYc,aV1⟩:=AI aV0
 obtain⟨aYd,_,rfl,aYe,aV2⟩:=AI aV1
 obtain⟨aYf,_,rfl,aYg,aV3⟩:=AI aV2
 obtain⟨aYh,_,rfl,aYi,aV4⟩:=AI aV3
 obtain⟨aYj,_,rfl,aYk,aV5⟩:=AI aV4
 obtain⟨aYl,_,rfl,aYm,aV6⟩:=AI aV5
 obtain rfl:=aNl aV6
 obtain⟨_,_,rfl,aXx,g1⟩:=aEL g0
 obtain⟨aYP,_,rfl,aYQ,aXy⟩:=AI aXx
 obtain rfl:=aNl aXy
 obtain rfl:=aSd g1
 exact⟨[],(aS4 aUg (by kernel_rfl)).trans rfl⟩
theorem aCL [ax]:Sound Tryz.prog 5 (FC mV (lf Lh) tq):=av1
set_option maxRecDepth 100000 in
theorem at3 (os:Os)(started:os.Started)(H:Type)(enc:TypeId×Value->H):
  ReturnsInHanded {} Tryz.checked os 5 .any (Rows.ekfHalvesSpec.pre6 enc Tryz.prog Tryz.f5 Rows.ekfHalvesRow.domain false) (Rows.ekfHalvesSpec.post enc Tryz.prog Tryz.f5 false true false false):=
 aN3 (C:=Tryz.checked) (tb:=Tryz.f5.resultTypes.getD 0 0) own started (by kernel_rfl) Tryz.func5 laid (by kernel_rfl) (by kernel_rfl) (by kernel_rfl) rfl
  (λds h=>by
   have h:ds.length=2:=h.trans (by kernel_rfl)
   match ds,h with
   | [_,_],_=>rfl)
  (ChangeSpec.witness6 (enc:=enc) (C:=Tryz.checked) false ⟨#[],#[.agg #[.int .i64 0,.int .i64 0,.int .i64 0,.int .i64 0,.int .i64 0,.int .i64 0,.int .i64 0,.int .i64 0,.int .i64 0,.int .i64 0,.int .i64 0,.int .i64 0,.int .i64 0,.int .i64 0,.int .i64 0,.int .i64 0,.int .i64 0,.int .i64 0,.int .i64 0,.int .i64 0,.int .i64 0,.int .i64 0,.int .i64 0,.int .i64 0,.int .i64 0,.int .i64 0,.int .i64 0,.int .i64 0,.int .i64 0,.int .i64 0,.int .i64 0,.int .i64 0,.int .i64 0,.int .i64 0,.int .i64 0,.int .i64 0,.int .i64 0,.int .i64 0,.int .i64 0,.int .i64 0,.int .i64 0,.int .i64 0,.int .i64 0,.int .i64 0,.int .i64 0,.int .i64 0,.int .i64 0,.int .i64 0,.int .i64 0,.int .i64 0,.int .i64 0,.int .i64 0,.int .i64 0,.int .i64 0,.int .i64 0,.int .i64 0,.int .i64 0,.int .i64 0,.int .i64 0,.int .i64 0,.int .i64 0,.int .i64 0,.int .i64 0,.int .i64 0,.int .i64 0,.int .i64 0,.int .i64 0,.int .i64 0,.int .i64 0,.int .i64 0,.int .i64 0,.int .i64 0],.int .i64 0],[]⟩ 8 (by kernel_rfl) (by kernel_rfl) (by kernel_rfl) (by kernel_rfl))
  (λW base args ds ps _ aAW ht _ _ _=>aLU (pr:=[.flat true [.c (.i .i64),.c (.i .i64),.c (.i .i64),.c (.i .i64),.c (.i .i64),.c (.i .i64),.c (.i .i64),.c (.i .i64),.c (.i .i64),.c (.i .i64),.c (.i .i64),.c (.i .i64),.c (.i .i64),.c (.i .i64),.c (.i .i64),.c (.i .i64),.a 24 [.i .i64],.a 24 [.i .i64],.c (.i .i64),.c (.i .i64),.c (.i .i64),.c (.i .i64),.c (.i .i64),.c (.i .i64),.c (.i .i64),.c (.i .i64)],.flat false [.c (.i .i64)]]) aCL (by kernel_rfl) (ts:=Tryz.f5.params.toList) (by kernel_rfl) av2 aAW ht)
def jf0 (P:Program)(f:FuncId)(fn:Func)(s:ChangeSpec)(c:OpenClaim):Bool:=c.wf (OpenSpec.ofChange s)&&laidOutB P&&mapsRowed P&&fn.params.all (P.readableRec ·)&&namedTie P c.named s.vars&&(c.stops==[])&&(P.stops==[])&&(c.knobs==[])&&(P.stopKnobs==[])
def jf1 (P:Program)(f:FuncId)(fn:Func)(s:ChangeSpec)(c:OpenClaim):Bool:=(c.inPlace==P.inPlace f)&&(c.unfollowed==P.unfollowed f)
def jf2 (P:Program)(f:FuncId)(fn:Func)(s:ChangeSpec)(c:OpenClaim):Bool:=(c.recurses==P.recurses f)&&(c.named==P.varsNamed f)
def jf3 (P:Program)(f:FuncId)(fn:Func)(s:ChangeSpec)(c:OpenClaim):Bool:=(c.maps==(fn.params.toList++s.plain.varTypes P).any (P.mapsRec ·))&&(c.ifaces==(fn.params.toList++s.plain.varTypes P).any (P.ifacesRec ·))&&(c.mapsOut==P.mapsAmong fn.resultTypes.toList)&&(c.loops==(fn.params.toList++s.plain.varTypes P).any (P.loopsFrom ·))&&(c.wideKeys==(fn.params.toList++s.plain.varTypes P++fn.resultTypes.toList).any (P.wideKeysFrom ·))
def jf4 (P:Program)(f:FuncId)(fn:Func)(s:ChangeSpec)(c:OpenClaim):Bool:=s.vars.all (P.varReadable ·)&&fn.resultTypes.all (λt=>P.readableRec t&&decide (t<P.types.size))&&(c.ifacesOut==fn.resultTypes.toList.any (P.ifacesRec ·))&&(c.loopsOut==fn.resultTypes.toList.any (P.loopsFrom ·))&&(c.plainKeys==P.plainKeys)&&c.shortTexts.isNone&&P.stopsHeard&&P.mayEnter&&(c.lifted==P.liftsFinal)&&(P.make==some c.make)&&(c.kinds==(if c.domain.isEmpty then[] else fn.params.toList.map λt=>match P.underlying t with|some (.int k)=>some k|_=>none))&&(c.pinned==c.pinnedBy)
def jf5 (P:Program)(f:FuncId)(fn:Func)(s:ChangeSpec)(c:OpenClaim):Bool:=(c.veiled==(fn.params.toList++s.plain.varTypes P++fn.resultTypes.toList).any (P.veiledRec ·))&&c.veiledFits P fn.params.toList (fn.params.toList++s.plain.varTypes P++fn.resultTypes.toList)
theorem aUh (P:Program)(f:FuncId)(fn:Func)(s:ChangeSpec)(c:OpenClaim):joinedFacts P f fn s c=(jf0 P f fn s c&&jf1 P f fn s c&&jf2 P f fn s c&&jf3 P f fn s c&&jf4 P f fn s c&&jf5 P f fn s c):=by
 simp only[joinedFacts,jf0,jf1,jf2,jf3,jf4,jf5,Bool.and_assoc]
 rfl
theorem aDZ:jf0 Tryz.pinned.checked.prog 5 Tryz.f5 Rows.ekfHalvesSpec Rows.ekfHalvesRow=true:=by kernel_rfl
theorem aD0:jf1 Tryz.pinned.checked.prog 5 Tryz.f5 Rows.ekfHalvesSpec Rows.ekfHalvesRow=true:=by kernel_rfl
theorem aD1:jf2 Tryz.pinned.checked.prog 5 Tryz.f5 Rows.ekfHalvesSpec Rows.ekfHalvesRow=true:=by kernel_rfl
theorem aD2:jf3 Tryz.pinned.checked.prog 5 Tryz.f5 Rows.ekfHalvesSpec Rows.ekfHalvesRow=true:=by kernel_rfl
theorem aD3:jf4 Tryz.pinned.checked.prog 5 Tryz.f5 Rows.ekfHalvesSpec Rows.ekfHalvesRow=true:=by kernel_rfl
theorem aD4:jf5 Tryz.pinned.checked.prog 5 Tryz.f5 Rows.ekfHalvesSpec Rows.ekfHalvesRow=true:=by kernel_rfl
theorem av4:joinedFacts Tryz.pinned.checked.prog 5 Tryz.f5 Rows.ekfHalvesSpec Rows.ekfHalvesRow=true:=by
 rw[aUh,aDZ,aD0,aD1,aD2,aD3,aD4]
 rfl
theorem azH:Rows.ekfHalvesRow.holds Tryz.pinned (OpenSpec.ofChange Rows.ekfHalvesSpec):=
 OpenClaim.holds_of_wide 5 Tryz.f5 rfl rfl rfl rfl rfl rfl rfl ⟨rfl,rfl,rfl,rfl,rfl⟩ rfl rfl rfl rfl rfl (by kernel_rfl) Tryz.func5 av4
  (of_decide_eq_true (by kernel_rfl)) (by unfold Func.isWrapper;first|(rw[if_pos (by decide+kernel)];kernel_rfl)|(rw[if_neg (by decide+kernel)];exact⟨rfl,rfl⟩))
  (λos started H enc _=>at3 os started H enc)
theorem ekfHalves_proved:Rows.EkfHalvesSaid:=azH
#print axioms ekfHalves_proved
end Go.Proofs.YtldgljclcgaibaaGreat
