/-
  TopSilent
-/
import Derived.Test.YtldgljclcgaibaaGreatZAE
import Derived.Test.YtldgljclcgaibaaGreatZAN
set_option linter.all false
set_option maxRecDepth 100000
set_option maxHeartbeats 4000000
namespace Go.Proofs.YtldgljclcgaibaaGreat
open Go.Ab Go.Ab.Pg
theorem aYC {β δ:Type}{Q:Rq (List AV×List af) β}{R:δ->T}{f:β->Option δ}{t:δ}(hf:∀b,f b=some t){a:List AV}{h:List af}(hq:(Q.rd (a,h)).map Prod.fst=some []):(FC Q R f a h).eval=(R t).eval:=by
 unfold FC;cases hc:Q.rd (a,h) with
 |none=>rw[hc] at hq;cases hq
 |some b=>
  rw[hc] at hq;obtain⟨l,b⟩:=b;have hq:l=[]:=NJ hq;subst hq;show(T.opt (f b) R).eval=_;rw[hf];rfl
theorem ayN:aXl (FC oT (lf Nf) vQ) [.flat true [.c (.i .i64),.c (.i .i64),.c (.i .i64),.c (.i .i64),.c (.i .i64),.c (.i .i64),.c (.i .i64),.c (.i .i64),.c (.i .i64),.c (.i .i64),.c (.i .i64),.c (.i .i64),.c (.i .i64),.c (.i .i64),.c (.i .i64),.c (.i .i64),.a 24 [.i .i64],.a 24 [.i .i64],.c (.i .i64),.c (.i .i64),.c (.i .i64),.c (.i .i64),.c (.i .i64),.c (.i .i64),.c (.i .i64),.c (.i .i64)],.sl [.i .i64,.i .i64,.i .i64,.i .i64,.i .i64,.i .i64,.i .i64,.i .i64,.i .i64,.i .i64,.i .i64,.i .i64,.i .i64,.i .i64,.i .i64,.i .i64,.i .i64,.i .i64,.i .i64,.i .i64]]:=λds h=>by
 obtain⟨_,_,rfl,a2Y,g0⟩:=aTj h;obtain⟨a4G,_,rfl,a4H,a2Z⟩:=DY a2Y;obtain⟨a4I,_,rfl,a4J,a21⟩:=DY a2Z;obtain⟨a4K,_,rfl,a4L,a23⟩:=DY a21;obtain⟨a4M,_,rfl,a4N,a25⟩:=DY a23;obtain⟨a4O,_,rfl,a4P,a26⟩:=DY a25;obtain⟨a4Q,_,rfl,a4R,a27⟩:=DY a26;obtain⟨a4S,_,rfl,a4T,a28⟩:=DY a27;obtain⟨a4U,_,rfl,a4V,a29⟩:=DY a28;obtain⟨a4W,_,rfl,a4X,a3a⟩:=DY a29;obtain⟨a4Y,_,rfl,a4Z,a1r⟩:=DY a3a;obtain⟨a3M,_,rfl,a3N,a1s⟩:=DY a1r;obtain⟨a3O,_,rfl,a3P,a1t⟩:=DY a1s;obtain⟨a3Q,_,rfl,a3R,a1u⟩:=DY a1t;obtain⟨a3S,_,rfl,a3T,a1v⟩:=DY a1u;obtain⟨a3U,_,rfl,a3V,a1w⟩:=DY a1v;obtain⟨a3W,_,rfl,a3X,a1x⟩:=DY a1w;obtain⟨_,_,rfl,aYD,a1y⟩:=a0f a1x;obtain⟨a3b,_,rfl,a3c,aYE⟩:=xu aYD;obtain rfl:=aEn aYE
 obtain⟨_,_,rfl,aYF,a1z⟩:=a0f a1y;obtain⟨a3d,_,rfl,a3e,aYG⟩:=xu aYF;obtain rfl:=aEn aYG
 obtain⟨a3Y,_,rfl,a3Z,a1A⟩:=DY a1z;obtain⟨a30,_,rfl,a31,a1B⟩:=DY a1A;obtain⟨a32,_,rfl,a33,a1C⟩:=DY a1B;obtain⟨a34,_,rfl,a35,a1D⟩:=DY a1C;obtain⟨a36,_,rfl,a37,a1E⟩:=DY a1D;obtain⟨a38,_,rfl,a39,a1F⟩:=DY a1E;obtain⟨a4a,_,rfl,a4b,a1G⟩:=DY a1F;obtain⟨a4c,_,rfl,a4d,a1H⟩:=DY a1G;obtain rfl:=aZa a1H
 obtain⟨n1,c1,_,rfl,m1,a3f,g1⟩:=aY9 g0;obtain⟨a41,_,rfl,a42,a3g⟩:=xu a3f;obtain⟨a43,_,rfl,a44,a3h⟩:=xu a3g;obtain⟨a45,_,rfl,a46,a3i⟩:=xu a3h;obtain⟨a47,_,rfl,a48,a3j⟩:=xu a3i;obtain⟨a49,_,rfl,a5a,a3k⟩:=xu a3j;obtain⟨a5b,_,rfl,a5c,a3l⟩:=xu a3k;obtain⟨a5d,_,rfl,a5e,a3m⟩:=xu a3l;obtain⟨a5f,_,rfl,a5g,a3n⟩:=xu a3m;obtain⟨a5h,_,rfl,a5i,a3o⟩:=xu a3n;obtain⟨a5j,_,rfl,a5k,a1I⟩:=xu a3o;obtain⟨a4e,_,rfl,a4f,a1J⟩:=xu a1I;obtain⟨a4g,_,rfl,a4h,a1K⟩:=xu a1J;obtain⟨a4i,_,rfl,a4j,a1L⟩:=xu a1K;obtain⟨a4k,_,rfl,a4l,a1M⟩:=xu a1L;obtain⟨a4m,_,rfl,a4n,a1N⟩:=xu a1M;obtain⟨a4o,_,rfl,a4p,a1O⟩:=xu a1N;obtain⟨a4q,_,rfl,a4r,a1P⟩:=xu a1O;obtain⟨a4s,_,rfl,a4t,a1Q⟩:=xu a1P;obtain⟨a4u,_,rfl,a4v,a1R⟩:=xu a1Q;obtain⟨a4w,_,rfl,a4x,a1S⟩:=xu a1R;obtain rfl:=aEn a1S
 obtain rfl:=aXu g1
 exact⟨[],(aYC aYB (by kernel_rfl)).trans rfl⟩
theorem aFZ [ax]:Sound Tryz.prog 3 (FC oT (lf Nf) vQ):=ayM
set_option maxRecDepth 100000 in
theorem awJ (os:Os)(started:os.Started)(H:Type)(enc:TypeId×Value->H):
  ReturnsInHanded {} Tryz.checked os 3 .any (Rows.topSilentSpec.pre6 enc Tryz.prog Tryz.f3 Rows.topSilentRow.domain false) (Rows.topSilentSpec.post enc Tryz.prog Tryz.f3 false true false false):=
 aTd (C:=Tryz.checked) (tb:=Tryz.f3.resultTypes.getD 0 0) own started (by kernel_rfl) Tryz.func3 laid (by kernel_rfl) (by kernel_rfl) (by kernel_rfl) rfl
  (λds h=>by
   have h:ds.length=2:=h.trans (by kernel_rfl);match ds,h with
   | [_,_],_=>rfl)
  (ChangeSpec.witness6 (enc:=enc) (C:=Tryz.checked) false ⟨#[],#[.agg #[.int .i64 0,.int .i64 0,.int .i64 0,.int .i64 0,.int .i64 0,.int .i64 0,.int .i64 0,.int .i64 0,.int .i64 0,.int .i64 0,.int .i64 0,.int .i64 0,.int .i64 0,.int .i64 0,.int .i64 0,.int .i64 0,.int .i64 0,.int .i64 0,.int .i64 0,.int .i64 0,.int .i64 0,.int .i64 0,.int .i64 0,.int .i64 0,.int .i64 0,.int .i64 0,.int .i64 0,.int .i64 0,.int .i64 0,.int .i64 0,.int .i64 0,.int .i64 0,.int .i64 0,.int .i64 0,.int .i64 0,.int .i64 0,.int .i64 0,.int .i64 0,.int .i64 0,.int .i64 0,.int .i64 0,.int .i64 0,.int .i64 0,.int .i64 0,.int .i64 0,.int .i64 0,.int .i64 0,.int .i64 0,.int .i64 0,.int .i64 0,.int .i64 0,.int .i64 0,.int .i64 0,.int .i64 0,.int .i64 0,.int .i64 0,.int .i64 0,.int .i64 0,.int .i64 0,.int .i64 0,.int .i64 0,.int .i64 0,.int .i64 0,.int .i64 0,.int .i64 0,.int .i64 0,.int .i64 0,.int .i64 0,.int .i64 0,.int .i64 0,.int .i64 0,.int .i64 0],.slice none 0 0],[]⟩ 8 (by kernel_rfl) (by kernel_rfl) (by kernel_rfl) (by kernel_rfl))
  (λW base args ds ps _ aD4 ht _ _ _=>aQO (pr:=[.flat true [.c (.i .i64),.c (.i .i64),.c (.i .i64),.c (.i .i64),.c (.i .i64),.c (.i .i64),.c (.i .i64),.c (.i .i64),.c (.i .i64),.c (.i .i64),.c (.i .i64),.c (.i .i64),.c (.i .i64),.c (.i .i64),.c (.i .i64),.c (.i .i64),.a 24 [.i .i64],.a 24 [.i .i64],.c (.i .i64),.c (.i .i64),.c (.i .i64),.c (.i .i64),.c (.i .i64),.c (.i .i64),.c (.i .i64),.c (.i .i64)],.sl [.i .i64,.i .i64,.i .i64,.i .i64,.i .i64,.i .i64,.i .i64,.i .i64,.i .i64,.i .i64,.i .i64,.i .i64,.i .i64,.i .i64,.i .i64,.i .i64,.i .i64,.i .i64,.i .i64,.i .i64]]) aFZ (by kernel_rfl) (ts:=Tryz.f3.params.toList) (by kernel_rfl) ayN aD4 ht)
def jf0 (P:Program)(f:FuncId)(fn:Func)(s:ChangeSpec)(c:OpenClaim):Bool:=c.wf (OpenSpec.ofChange s)&&laidOutB P&&mapsRowed P&&fn.params.all (P.readableRec ·)&&namedTie P c.named s.vars&&(c.stops==[])&&(P.stops==[])&&(c.knobs==[])&&(P.stopKnobs==[])
def jf1 (P:Program)(f:FuncId)(fn:Func)(s:ChangeSpec)(c:OpenClaim):Bool:=(c.inPlace==P.inPlace f)&&(c.unfollowed==P.unfollowed f)
def jf2 (P:Program)(f:FuncId)(fn:Func)(s:ChangeSpec)(c:OpenClaim):Bool:=(c.recurses==P.recurses f)&&(c.named==P.varsNamed f)
def jf3 (P:Program)(f:FuncId)(fn:Func)(s:ChangeSpec)(c:OpenClaim):Bool:=(c.maps==(fn.params.toList++s.plain.varTypes P).any (P.mapsRec ·))&&(c.ifaces==(fn.params.toList++s.plain.varTypes P).any (P.ifacesRec ·))&&(c.mapsOut==P.mapsAmong fn.resultTypes.toList)&&(c.loops==(fn.params.toList++s.plain.varTypes P).any (P.loopsFrom ·))&&(c.wideKeys==(fn.params.toList++s.plain.varTypes P++fn.resultTypes.toList).any (P.wideKeysFrom ·))
def jf4 (P:Program)(f:FuncId)(fn:Func)(s:ChangeSpec)(c:OpenClaim):Bool:=s.vars.all (P.varReadable ·)&&fn.resultTypes.all (λt=>P.readableRec t&&decide (t<P.types.size))&&(c.ifacesOut==fn.resultTypes.toList.any (P.ifacesRec ·))&&(c.loopsOut==fn.resultTypes.toList.any (P.loopsFrom ·))&&(c.plainKeys==P.plainKeys)&&c.shortTexts.isNone&&P.stopsHeard&&P.mayEnter&&(c.lifted==P.liftsFinal)&&(P.make==some c.make)&&(c.kinds==(if c.domain.isEmpty then[] else fn.params.toList.map λt=>match P.underlying t with|some (.int k)=>some k|_=>none))&&(c.pinned==c.pinnedBy)
def jf5 (P:Program)(f:FuncId)(fn:Func)(s:ChangeSpec)(c:OpenClaim):Bool:=(c.veiled==(fn.params.toList++s.plain.varTypes P++fn.resultTypes.toList).any (P.veiledRec ·))&&c.veiledFits P fn.params.toList (fn.params.toList++s.plain.varTypes P++fn.resultTypes.toList)
theorem aZT (P:Program)(f:FuncId)(fn:Func)(s:ChangeSpec)(c:OpenClaim):joinedFacts P f fn s c=(jf0 P f fn s c&&jf1 P f fn s c&&jf2 P f fn s c&&jf3 P f fn s c&&jf4 P f fn s c&&jf5 P f fn s c):=by
 simp only[joinedFacts,jf0,jf1,jf2,jf3,jf4,jf5,Bool.and_assoc];rfl
theorem aHn:jf0 Tryz.pinned.checked.prog 3 Tryz.f3 Rows.topSilentSpec Rows.topSilentRow=true:=by kernel_rfl
theorem aHo:jf1 Tryz.pinned.checked.prog 3 Tryz.f3 Rows.topSilentSpec Rows.topSilentRow=true:=by kernel_rfl
theorem aHp:jf2 Tryz.pinned.checked.prog 3 Tryz.f3 Rows.topSilentSpec Rows.topSilentRow=true:=by kernel_rfl
theorem aHq:jf3 Tryz.pinned.checked.prog 3 Tryz.f3 Rows.topSilentSpec Rows.topSilentRow=true:=by kernel_rfl
theorem aHr:jf4 Tryz.pinned.checked.prog 3 Tryz.f3 Rows.topSilentSpec Rows.topSilentRow=true:=by kernel_rfl
theorem aHs:jf5 Tryz.pinned.checked.prog 3 Tryz.f3 Rows.topSilentSpec Rows.topSilentRow=true:=by kernel_rfl
theorem ayP:joinedFacts Tryz.pinned.checked.prog 3 Tryz.f3 Rows.topSilentSpec Rows.topSilentRow=true:=by
 rw[aZT,aHn,aHo,aHp,aHq,aHr,aHs];rfl
theorem aCu:Rows.topSilentRow.holds Tryz.pinned (OpenSpec.ofChange Rows.topSilentSpec):=
 OpenClaim.holds_of_wide 3 Tryz.f3 rfl rfl rfl rfl rfl rfl rfl ⟨rfl,rfl,rfl,rfl,rfl⟩ rfl rfl rfl rfl rfl (by kernel_rfl) Tryz.func3 ayP
  (eF (by kernel_rfl)) (by unfold Func.isWrapper;first|(rw[if_pos (by decide+kernel)];kernel_rfl)|(rw[if_neg (by decide+kernel)];exact⟨rfl,rfl⟩))
  (λos started H enc _=>awJ os started H enc)
theorem topSilent_proved:Rows.TopSilentSaid:=aCu
#print axioms topSilent_proved
end Go.Proofs.YtldgljclcgaibaaGreat
