/-
  Behind every call of any script each state is within its box, the factors within their bounds, no variance below nought, and the flag stays once it is set: the statement of astrolabetop.TopSteps; no condition.
-/
import Derived.Test.YtldgljclcgaibaaGreatZAE
import Derived.Test.YtldgljclcgaibaaGreatZAO
set_option linter.unusedVariables false
set_option linter.unusedSimpArgs false
set_option maxRecDepth 100000
set_option maxHeartbeats 4000000
namespace Go.Proofs.YtldgljclcgaibaaGreat
open Go.Ab Go.Ab.Pg
theorem a03 {β δ:Type}{Q:Rq (List AV×List aj) β}{R:δ->T}{f:β->Option δ}{t:δ}(hf:∀b,f b=some t){a:List AV}{h:List aj}(hq:(Q.rd (a,h)).map Prod.fst=some []):(FC Q R f a h).eval=(R t).eval:=by
 unfold FC;cases hc:Q.rd (a,h) with
 |none=>rw[hc] at hq;cases hq
 |some b=>
  rw[hc] at hq;obtain⟨l,b⟩:=b;have hq:l=[]:=LG hq;subst hq;show(T.opt (f b) R).eval=_;rw[hf];rfl
theorem aDt:aZC (FC qM (lf Qg) yX) [.flat true [.c (.i .i64),.c (.i .i64),.c (.i .i64),.c (.i .i64),.c (.i .i64),.c (.i .i64),.c (.i .i64),.c (.i .i64),.c (.i .i64),.c (.i .i64),.c (.i .i64),.c (.i .i64),.c (.i .i64),.c (.i .i64),.c (.i .i64),.c (.i .i64),.a 24 [.i .i64],.a 24 [.i .i64],.c (.i .i64),.c (.i .i64),.c (.i .i64),.c (.i .i64),.c (.i .i64),.c (.i .i64),.c (.i .i64),.c (.i .i64)],.sl [.i .i64,.i .i64,.i .i64,.i .i64,.i .i64,.i .i64,.i .i64,.i .i64,.i .i64,.i .i64,.i .i64,.i .i64,.i .i64,.i .i64,.i .i64,.i .i64,.i .i64,.i .i64,.i .i64,.i .i64]]:=λds h=>by
 obtain⟨_,_,rfl,a63,g0⟩:=aUU h;obtain⟨a8L,_,rfl,a8M,a64⟩:=EX a63;obtain⟨a8N,_,rfl,a8O,a65⟩:=EX a64;obtain⟨a8P,_,rfl,a8Q,a66⟩:=EX a65;obtain⟨a8R,_,rfl,a8S,a67⟩:=EX a66;obtain⟨a8T,_,rfl,a8U,a68⟩:=EX a67;obtain⟨a8V,_,rfl,a8W,a69⟩:=EX a68;obtain⟨a8X,_,rfl,a8Y,a7a⟩:=EX a69;obtain⟨a8Z,_,rfl,a80,a7b⟩:=EX a7a;obtain⟨a81,_,rfl,a82,a7c⟩:=EX a7b;obtain⟨a83,_,rfl,a84,a5j⟩:=EX a7c;obtain⟨a7Q,_,rfl,a7R,a5k⟩:=EX a5j;obtain⟨a7S,_,rfl,a7T,a5l⟩:=EX a5k;obtain⟨a7U,_,rfl,a7V,a5m⟩:=EX a5l;obtain⟨a7W,_,rfl,a7X,a5n⟩:=EX a5m;obtain⟨a7Y,_,rfl,a7Z,a5o⟩:=EX a5n;obtain⟨a70,_,rfl,a71,a5p⟩:=EX a5o;obtain⟨_,_,rfl,a04,a5q⟩:=a3y a5p;obtain⟨a7d,_,rfl,a7e,a05⟩:=yj a04;obtain rfl:=aFu a05
 obtain⟨_,_,rfl,a06,a5r⟩:=a3y a5q;obtain⟨a7f,_,rfl,a7g,a07⟩:=yj a06;obtain rfl:=aFu a07
 obtain⟨a72,_,rfl,a73,a5s⟩:=EX a5r;obtain⟨a74,_,rfl,a75,a5t⟩:=EX a5s;obtain⟨a76,_,rfl,a77,a5u⟩:=EX a5t;obtain⟨a78,_,rfl,a79,a5v⟩:=EX a5u;obtain⟨a8a,_,rfl,a8b,a5w⟩:=EX a5v;obtain⟨a8c,_,rfl,a8d,a5x⟩:=EX a5w;obtain⟨a8e,_,rfl,a8f,a5y⟩:=EX a5x;obtain⟨a8g,_,rfl,a8h,a5z⟩:=EX a5y;obtain rfl:=a1S a5z
 obtain⟨n1,c1,_,rfl,m1,a7h,g1⟩:=a1R g0;obtain⟨a85,_,rfl,a86,a7i⟩:=yj a7h;obtain⟨a87,_,rfl,a88,a7j⟩:=yj a7i;obtain⟨a89,_,rfl,a9a,a7k⟩:=yj a7j;obtain⟨a9b,_,rfl,a9c,a7l⟩:=yj a7k;obtain⟨a9d,_,rfl,a9e,a7m⟩:=yj a7l;obtain⟨a9f,_,rfl,a9g,a7n⟩:=yj a7m;obtain⟨a9h,_,rfl,a9i,a7o⟩:=yj a7n;obtain⟨a9j,_,rfl,a9k,a7p⟩:=yj a7o;obtain⟨a9l,_,rfl,a9m,a7q⟩:=yj a7p;obtain⟨a9n,_,rfl,a9o,a5A⟩:=yj a7q;obtain⟨a8i,_,rfl,a8j,a5B⟩:=yj a5A;obtain⟨a8k,_,rfl,a8l,a5C⟩:=yj a5B;obtain⟨a8m,_,rfl,a8n,a5D⟩:=yj a5C;obtain⟨a8o,_,rfl,a8p,a5E⟩:=yj a5D;obtain⟨a8q,_,rfl,a8r,a5F⟩:=yj a5E;obtain⟨a8s,_,rfl,a8t,a5G⟩:=yj a5F;obtain⟨a8u,_,rfl,a8v,a5H⟩:=yj a5G;obtain⟨a8w,_,rfl,a8x,a5I⟩:=yj a5H;obtain⟨a8y,_,rfl,a8z,a5J⟩:=yj a5I;obtain⟨a8A,_,rfl,a8B,a5K⟩:=yj a5J;obtain rfl:=aFu a5K
 obtain rfl:=aZL g1
 exact⟨[],(a03 a3b (by kernel_rfl)).trans rfl⟩
theorem aIu [aA]:Sound Tryz.prog 10 (FC qM (lf Qg) yX):=aDs
set_option maxRecDepth 100000 in
theorem azv (os:Os)(started:os.Started)(H:Type)(enc:TypeId×Value->H):
  ReturnsInHanded {} Tryz.checked os 10 .any (Rows.topStepsSpec.pre6 enc Tryz.prog Tryz.f10 Rows.topStepsRow.domain false) (Rows.topStepsSpec.post enc Tryz.prog Tryz.f10 false true false false):=
 aUO (C:=Tryz.checked) (tb:=Tryz.f10.resultTypes.getD 0 0) own started (by kernel_rfl) Tryz.func10 laid (by kernel_rfl) (by kernel_rfl) (by kernel_rfl) rfl
  (λds h=>by
   have h:ds.length=2:=h.trans (by kernel_rfl);match ds,h with
   | [_,_],_=>rfl)
  (ChangeSpec.witness6 (enc:=enc) (C:=Tryz.checked) false ⟨#[],#[.agg #[.int .i64 0,.int .i64 0,.int .i64 0,.int .i64 0,.int .i64 0,.int .i64 0,.int .i64 0,.int .i64 0,.int .i64 0,.int .i64 0,.int .i64 0,.int .i64 0,.int .i64 0,.int .i64 0,.int .i64 0,.int .i64 0,.int .i64 0,.int .i64 0,.int .i64 0,.int .i64 0,.int .i64 0,.int .i64 0,.int .i64 0,.int .i64 0,.int .i64 0,.int .i64 0,.int .i64 0,.int .i64 0,.int .i64 0,.int .i64 0,.int .i64 0,.int .i64 0,.int .i64 0,.int .i64 0,.int .i64 0,.int .i64 0,.int .i64 0,.int .i64 0,.int .i64 0,.int .i64 0,.int .i64 0,.int .i64 0,.int .i64 0,.int .i64 0,.int .i64 0,.int .i64 0,.int .i64 0,.int .i64 0,.int .i64 0,.int .i64 0,.int .i64 0,.int .i64 0,.int .i64 0,.int .i64 0,.int .i64 0,.int .i64 0,.int .i64 0,.int .i64 0,.int .i64 0,.int .i64 0,.int .i64 0,.int .i64 0,.int .i64 0,.int .i64 0,.int .i64 0,.int .i64 0,.int .i64 0,.int .i64 0,.int .i64 0,.int .i64 0,.int .i64 0,.int .i64 0],.slice none 0 0],[]⟩ 8 (by kernel_rfl) (by kernel_rfl) (by kernel_rfl) (by kernel_rfl))
  (λW base args ds ps _ aFb ht _ _ _=>aRM (pr:=[.flat true [.c (.i .i64),.c (.i .i64),.c (.i .i64),.c (.i .i64),.c (.i .i64),.c (.i .i64),.c (.i .i64),.c (.i .i64),.c (.i .i64),.c (.i .i64),.c (.i .i64),.c (.i .i64),.c (.i .i64),.c (.i .i64),.c (.i .i64),.c (.i .i64),.a 24 [.i .i64],.a 24 [.i .i64],.c (.i .i64),.c (.i .i64),.c (.i .i64),.c (.i .i64),.c (.i .i64),.c (.i .i64),.c (.i .i64),.c (.i .i64)],.sl [.i .i64,.i .i64,.i .i64,.i .i64,.i .i64,.i .i64,.i .i64,.i .i64,.i .i64,.i .i64,.i .i64,.i .i64,.i .i64,.i .i64,.i .i64,.i .i64,.i .i64,.i .i64,.i .i64,.i .i64]]) aIu (by kernel_rfl) (ts:=Tryz.f10.params.toList) (by kernel_rfl) aDt aFb ht)
def jf0 (P:Program)(f:FuncId)(fn:Func)(s:ChangeSpec)(c:OpenClaim):Bool:=c.wf (OpenSpec.ofChange s)&&laidOutB P&&mapsRowed P&&fn.params.all (P.readableRec ·)&&namedTie P c.named s.vars&&(c.stops==[])&&(P.stops==[])&&(c.knobs==[])&&(P.stopKnobs==[])
def jf1 (P:Program)(f:FuncId)(fn:Func)(s:ChangeSpec)(c:OpenClaim):Bool:=(c.inPlace==P.inPlace f)&&(c.unfollowed==P.unfollowed f)
def jf2 (P:Program)(f:FuncId)(fn:Func)(s:ChangeSpec)(c:OpenClaim):Bool:=(c.recurses==P.recurses f)&&(c.named==P.varsNamed f)
def jf3 (P:Program)(f:FuncId)(fn:Func)(s:ChangeSpec)(c:OpenClaim):Bool:=(c.maps==(fn.params.toList++s.plain.varTypes P).any (P.mapsRec ·))&&(c.ifaces==(fn.params.toList++s.plain.varTypes P).any (P.ifacesRec ·))&&(c.mapsOut==P.mapsAmong fn.resultTypes.toList)&&(c.loops==(fn.params.toList++s.plain.varTypes P).any (P.loopsFrom ·))&&(c.wideKeys==(fn.params.toList++s.plain.varTypes P++fn.resultTypes.toList).any (P.wideKeysFrom ·))
def jf4 (P:Program)(f:FuncId)(fn:Func)(s:ChangeSpec)(c:OpenClaim):Bool:=s.vars.all (P.varReadable ·)&&fn.resultTypes.all (λt=>P.readableRec t&&decide (t<P.types.size))&&(c.ifacesOut==fn.resultTypes.toList.any (P.ifacesRec ·))&&(c.loopsOut==fn.resultTypes.toList.any (P.loopsFrom ·))&&(c.plainKeys==P.plainKeys)&&c.shortTexts.isNone&&P.stopsHeard&&P.mayEnter&&(c.lifted==P.liftsFinal)&&(P.make==some c.make)&&(c.kinds==(if c.domain.isEmpty then[] else fn.params.toList.map λt=>match P.underlying t with|some (.int k)=>some k|_=>none))&&(c.pinned==c.pinnedBy)
def jf5 (P:Program)(f:FuncId)(fn:Func)(s:ChangeSpec)(c:OpenClaim):Bool:=(c.veiled==(fn.params.toList++s.plain.varTypes P++fn.resultTypes.toList).any (P.veiledRec ·))&&c.veiledFits P fn.params.toList (fn.params.toList++s.plain.varTypes P++fn.resultTypes.toList)
theorem a3c (P:Program)(f:FuncId)(fn:Func)(s:ChangeSpec)(c:OpenClaim):joinedFacts P f fn s c=(jf0 P f fn s c&&jf1 P f fn s c&&jf2 P f fn s c&&jf3 P f fn s c&&jf4 P f fn s c&&jf5 P f fn s c):=by
 simp only[joinedFacts,jf0,jf1,jf2,jf3,jf4,jf5,Bool.and_assoc];rfl
theorem aMD:jf0 Tryz.pinned.checked.prog 10 Tryz.f10 Rows.topStepsSpec Rows.topStepsRow=true:=by kernel_rfl
theorem aME:jf1 Tryz.pinned.checked.prog 10 Tryz.f10 Rows.topStepsSpec Rows.topStepsRow=true:=by kernel_rfl
theorem aMF:jf2 Tryz.pinned.checked.prog 10 Tryz.f10 Rows.topStepsSpec Rows.topStepsRow=true:=by kernel_rfl
theorem aMG:jf3 Tryz.pinned.checked.prog 10 Tryz.f10 Rows.topStepsSpec Rows.topStepsRow=true:=by kernel_rfl
theorem aMH:jf4 Tryz.pinned.checked.prog 10 Tryz.f10 Rows.topStepsSpec Rows.topStepsRow=true:=by kernel_rfl
theorem aMI:jf5 Tryz.pinned.checked.prog 10 Tryz.f10 Rows.topStepsSpec Rows.topStepsRow=true:=by kernel_rfl
theorem aDv:joinedFacts Tryz.pinned.checked.prog 10 Tryz.f10 Rows.topStepsSpec Rows.topStepsRow=true:=by
 rw[a3c,aMD,aME,aMF,aMG,aMH,aMI];rfl
theorem aHd:Rows.topStepsRow.holds Tryz.pinned (OpenSpec.ofChange Rows.topStepsSpec):=
 OpenClaim.holds_of_wide 10 Tryz.f10 rfl rfl rfl rfl rfl rfl rfl ⟨rfl,rfl,rfl,rfl,rfl⟩ rfl rfl rfl rfl rfl (by kernel_rfl) Tryz.func10 aDv
  (dh (by kernel_rfl)) (by unfold Func.isWrapper;first|(rw[if_pos (by decide+kernel)];kernel_rfl)|(rw[if_neg (by decide+kernel)];exact⟨rfl,rfl⟩))
  (λos started H enc _=>azv os started H enc)
theorem topSteps_proved:Rows.TopStepsSaid:=aHd
#print axioms topSteps_proved
end Go.Proofs.YtldgljclcgaibaaGreat
