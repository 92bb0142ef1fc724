/-
  Two filters that are told the same are the same, call by call: the statement of astrolabelaw28.EkfTwins; no condition.
-/
import Derived.Test.YtcmfbkneahoonaaGreatZAE
import Derived.Test.YtcmfbkneahoonaaGreatZAN
set_option maxRecDepth 100000
set_option maxHeartbeats 4000000
set_option linter.unusedVariables false
set_option linter.unusedSimpArgs false
namespace Go.Proofs.YtcmfbkneahoonaaGreat
open Go.Ab Go.Ab.Pg
theorem aTM {β δ:Type}{Q:Rq (List AV×List af) β}{R:δ->T}{f:β->Option δ}{t:δ}(hf:∀b,f b=some t){a:List AV}{h:List af}(hq:(Q.rd (a,h)).map Prod.fst=some []):(FC Q R f a h).eval=(R t).eval:=by
 unfold FC
 cases hc:Q.rd (a,h) with
 |none=>rw[hc] at hq;cases hq
 |some b=>
  rw[hc] at hq
  obtain⟨l,b⟩:=b
  have hq:l=[]:=Option.some.inj hq
  subst hq
  show(T.opt (f b) R).eval=_
  rw[hf]
  rfl
theorem aAg:aSU (FC oq (lf NH) vM) [.flat true [.c (.i .i64),.c (.i .i64),.c (.i .i64),.c (.i .i64),.c (.i .i64),.c (.i .i64),.c (.i .i64),.c (.i .i64),.c (.i .i64),.c (.i .i64),.c (.i .i64),.c (.i .i64),.c (.i .i64),.c (.i .i64),.c (.i .i64),.c (.i .i64),.a 24 [.i .i64],.a 24 [.i .i64],.c (.i .i64),.c (.i .i64),.c (.i .i64),.c (.i .i64),.c (.i .i64),.c (.i .i64),.c (.i .i64),.c (.i .i64)],.sl [.i .i64,.i .i64,.i .i64,.i .i64,.i .i64,.i .i64,.i .i64,.i .i64,.i .i64,.i .i64,.i .i64,.i .i64,.i .i64,.i .i64,.i .i64,.i .i64,.i .i64,.i .i64,.i .i64,.i .i64]]:=λds h=>by
 obtain⟨_,_,rfl,aX7,g0⟩:=aPh h
 obtain⟨aZL,_,rfl,aZM,aX8⟩:=CE aX7
 obtain⟨aZN,_,rfl,aZO,aX9⟩:=CE aX8
 obtain⟨aZP,_,rfl,aZQ,aYa⟩:=CE aX9
 obtain⟨aZR,_,rfl,aZS,aYb⟩:=CE aYa
 obtain⟨aZT,_,rfl,aZU,aYc⟩:=CE aYb
 obtain⟨aZV,_,rfl,aZW,aYd⟩:=CE aYc
 obtain⟨aZX,_,rfl,aZY,aYe⟩:=CE aYd
 obtain⟨aZZ,_,rfl,aZ0,aYf⟩:=CE aYe
 obtain⟨aZ1,_,rfl,aZ2,aYg⟩:=CE aYf
 obtain⟨aZ3,_,rfl,aZ4,aWu⟩:=CE aYg
 obtain⟨aYR,_,rfl,aYS,aWv⟩:=CE aWu
 obtain⟨aYT,_,rfl,aYU,aWw⟩:=CE aWv
 obtain⟨aYV,_,rfl,aYW,aWx⟩:=CE aWw
 obtain⟨aYX,_,rfl,aYY,aWy⟩:=CE aWx
 obtain⟨aYZ,_,rfl,aY0,aWz⟩:=CE aWy
 obtain⟨aY1,_,rfl,aY2,aWA⟩:=CE aWz
 obtain⟨_,_,rfl,aTN,aWB⟩:=aVo aWA
 obtain⟨aYh,_,rfl,aYi,aTO⟩:=uU aTN
 obtain rfl:=aCD aTO
 obtain⟨_,_,rfl,aTP,aWC⟩:=aVo aWB
 obtain⟨aYj,_,rfl,aYk,aTQ⟩:=uU aTP
 obtain rfl:=aCD aTQ
 obtain⟨aY3,_,rfl,aY4,aWD⟩:=CE aWC
 obtain⟨aY5,_,rfl,aY6,aWE⟩:=CE aWD
 obtain⟨aY7,_,rfl,aY8,aWF⟩:=CE aWE
 obtain⟨aY9,_,rfl,aZa,aWG⟩:=CE aWF
 obtain⟨aZb,_,rfl,aZc,aWH⟩:=CE aWG
 obtain⟨aZd,_,rfl,aZe,aWI⟩:=CE aWH
 obtain⟨aZf,_,rfl,aZg,aWJ⟩:=CE aWI
 obtain⟨aZh,_,rfl,aZi,aWK⟩:=CE aWJ
 obtain rfl:=aUj aWK
 obtain⟨n1,c1,_,rfl,m1,aYl,g1⟩:=aUi g0
 obtain⟨aZ5,_,rfl,aZ6,aYm⟩:=uU aYl
 obtain⟨aZ7,_,rfl,aZ8,aYn⟩:=uU aYm
 obtain⟨aZ9,_,rfl,a0a,aYo⟩:=uU aYn
 obtain⟨a0b,_,rfl,a0c,aYp⟩:=uU aYo
 obtain⟨a0d,_,rfl,a0e,aYq⟩:=uU aYp
 obtain⟨a0f,_,rfl,a0g,aYr⟩:=uU aYq
 obtain⟨a0h,_,rfl,a0i,aYs⟩:=uU aYr
 obtain⟨a0j,_,rfl,a0k,aYt⟩:=uU aYs
 obtain⟨a0l,_,rfl,a0m,aYu⟩:=uU aYt
 obtain⟨a0n,_,rfl,a0o,aWL⟩:=uU aYu
 obtain⟨aZj,_,rfl,aZk,aWM⟩:=uU aWL
 obtain⟨aZl,_,rfl,aZm,aWN⟩:=uU aWM
 obtain⟨aZn,_,rfl,aZo,aWO⟩:=uU aWN
 obtain⟨aZp,_,rfl,aZq,aWP⟩:=uU aWO
 obtain⟨aZr,_,rfl,aZs,aWQ⟩:=uU aWP
 obtain⟨aZt,_,rfl,aZu,aWR⟩:=uU aWQ
 obtain⟨aZv,_,rfl,aZw,aWS⟩:=uU aWR
 obtain⟨aZx,_,rfl,aZy,aWT⟩:=uU aWS
 obtain⟨aZz,_,rfl,aZA,aWU⟩:=uU aWT
 obtain⟨aZB,_,rfl,aZC,aWV⟩:=uU aWU
 obtain rfl:=aCD aWV
 obtain rfl:=aTc g1
 exact⟨[],(aTM twins (by kernel_rfl)).trans rfl⟩
theorem aEJ [ax]:Sound Tryz.prog 4 (FC oq (lf NH) vM):=aAf
set_option maxRecDepth 100000 in
theorem awp (os:Os)(started:os.Started)(H:Type)(enc:TypeId×Value->H):
  ReturnsInHanded {} Tryz.checked os 4 .any (Rows.ekfTwinsSpec.pre6 enc Tryz.prog Tryz.f4 Rows.ekfTwinsRow.domain false) (Rows.ekfTwinsSpec.post enc Tryz.prog Tryz.f4 false true false false):=
 aO4 (C:=Tryz.checked) (tb:=Tryz.f4.resultTypes.getD 0 0) own started (by kernel_rfl) Tryz.func4 laid (by kernel_rfl) (by kernel_rfl) (by kernel_rfl) rfl
  (λds h=>by
   have h:ds.length=2:=h.trans (by kernel_rfl)
   match ds,h with
   | [_,_],_=>rfl)
  (ChangeSpec.witness6 (enc:=enc) (C:=Tryz.checked) false ⟨#[],#[.agg #[.int .i64 0,.int .i64 0,.int .i64 0,.int .i64 0,.int .i64 0,.int .i64 0,.int .i64 0,.int .i64 0,.int .i64 0,.int .i64 0,.int .i64 0,.int .i64 0,.int .i64 0,.int .i64 0,.int .i64 0,.int .i64 0,.int .i64 0,.int .i64 0,.int .i64 0,.int .i64 0,.int .i64 0,.int .i64 0,.int .i64 0,.int .i64 0,.int .i64 0,.int .i64 0,.int .i64 0,.int .i64 0,.int .i64 0,.int .i64 0,.int .i64 0,.int .i64 0,.int .i64 0,.int .i64 0,.int .i64 0,.int .i64 0,.int .i64 0,.int .i64 0,.int .i64 0,.int .i64 0,.int .i64 0,.int .i64 0,.int .i64 0,.int .i64 0,.int .i64 0,.int .i64 0,.int .i64 0,.int .i64 0,.int .i64 0,.int .i64 0,.int .i64 0,.int .i64 0,.int .i64 0,.int .i64 0,.int .i64 0,.int .i64 0,.int .i64 0,.int .i64 0,.int .i64 0,.int .i64 0,.int .i64 0,.int .i64 0,.int .i64 0,.int .i64 0,.int .i64 0,.int .i64 0,.int .i64 0,.int .i64 0,.int .i64 0,.int .i64 0,.int .i64 0,.int .i64 0],.slice none 0 0],[]⟩ 8 (by kernel_rfl) (by kernel_rfl) (by kernel_rfl) (by kernel_rfl))
  (λW base args ds ps _ aBB ht _ _ _=>aMP (pr:=[.flat true [.c (.i .i64),.c (.i .i64),.c (.i .i64),.c (.i .i64),.c (.i .i64),.c (.i .i64),.c (.i .i64),.c (.i .i64),.c (.i .i64),.c (.i .i64),.c (.i .i64),.c (.i .i64),.c (.i .i64),.c (.i .i64),.c (.i .i64),.c (.i .i64),.a 24 [.i .i64],.a 24 [.i .i64],.c (.i .i64),.c (.i .i64),.c (.i .i64),.c (.i .i64),.c (.i .i64),.c (.i .i64),.c (.i .i64),.c (.i .i64)],.sl [.i .i64,.i .i64,.i .i64,.i .i64,.i .i64,.i .i64,.i .i64,.i .i64,.i .i64,.i .i64,.i .i64,.i .i64,.i .i64,.i .i64,.i .i64,.i .i64,.i .i64,.i .i64,.i .i64,.i .i64]]) aEJ (by kernel_rfl) (ts:=Tryz.f4.params.toList) (by kernel_rfl) aAg aBB ht)
theorem aDu:Rows.ekfTwinsRow.holds Tryz.pinned (OpenSpec.ofChange Rows.ekfTwinsSpec):=
 OpenClaim.holds_of_wide 4 Tryz.f4 rfl rfl rfl rfl rfl rfl rfl ⟨rfl,rfl,rfl,rfl,rfl⟩ rfl rfl rfl rfl rfl (by kernel_rfl) Tryz.func4 (by kernel_rfl)
  (of_decide_eq_true (by kernel_rfl)) (by unfold Func.isWrapper;first|(rw[if_pos (by decide+kernel)];kernel_rfl)|(rw[if_neg (by decide+kernel)];exact⟨rfl,rfl⟩))
  (λos started H enc _=>awp os started H enc)
theorem ekfTwins_proved:Rows.EkfTwinsSaid:=aDu
#print axioms ekfTwins_proved
end Go.Proofs.YtcmfbkneahoonaaGreat
