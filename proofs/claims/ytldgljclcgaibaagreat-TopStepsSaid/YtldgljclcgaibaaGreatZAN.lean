/-
  Parts of the proof: TCn TGr
-/
import Derived.Test.YtldgljclcgaibaaGreatZAM
set_option linter.unusedVariables false
set_option linter.unusedSimpArgs false
set_option maxRecDepth 100000
set_option maxHeartbeats 4000000
namespace Go.Proofs.YtldgljclcgaibaaGreat
open Go.Ab Go.Ab.Pg
theorem aJS (v:Int):(0<=v->0<=C4 v 30)/\(v<=0->C4 v 30<=0):=by
 have hh:half 30=536870912:=by decide
 have hp:(2:Int)^30=1073741824:=by decide
 unfold C4;rw[hh,hp];split<;>omega
def tm (f g:Nat->Int)(i j k:Nat):Int:=uV f i k*C4 (uV f j k*g k) 30
theorem a5c (f g:Nat->Int)(i:Nat)(hi:i<24)(c:Bool)(d:Int×Bool)(e:Qe f g i i c=some d)(hD:∀k,k<24->0<=g k):0<=d.1:=by
 rw[aG9 f g i i i c (by omega) (by omega) (by rw[if_neg (by omega)]) hi] at e;have e:=LG e;subst e;show 0<=sat (C4 (atS f g i i i (24-i)) 30);have ss:∀x:Int,0<=x->0<=sat x:=λx h=>by unfold sat;split<;>(try split)<;>omega
 have sn:∀x:Int,x<=0->sat x<=0:=λx h=>by unfold sat;split<;>(try split)<;>omega
 refine ss _ ((aJS _).1 ?_);unfold atS
 have:∀n,n<=24-i->0<=pk (λk=>sat (uV f i ((i+k:Nat):Int))*sat (sat (xV f g i (i+k)))) n:=λn=>by
  induction n with
  |zero=>intro _;exact dZ _
  |succ n ih=>
   intro h;have a:=ih (by omega);have d:=ss _ (hD (i+n) (by omega))
   have b:0<=sat (uV f i ((i+n:Nat):Int))*sat (sat (xV f g i (i+n))):=by
    unfold xV;generalize sat (uV f i ((i+n:Nat):Int))=u at*
    generalize sat (g (i+n))=D at*
    have s:=aJS (u*D);rcases abP 0 u with h|h
    .exact Aq h (ss _ (ss _ (s.1 (Aq h d))))
    .exact Int.mul_nonneg_of_nonpos_of_nonpos h (sn _ (sn _ (s.2 (Int.mul_nonpos_of_nonpos_of_nonneg h d))))
   rw[pk];omega
 exact this _ (cP _)
end Go.Proofs.YtldgljclcgaibaaGreat
