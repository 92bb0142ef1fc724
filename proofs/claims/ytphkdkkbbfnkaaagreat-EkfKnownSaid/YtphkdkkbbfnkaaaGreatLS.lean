/-
  Sample, where no other buffer than the barometer's is written anew.
-/
import Derived.Test.YtphkdkkbbfnkaaaGreatQ4
set_option maxRecDepth 100000
set_option maxHeartbeats 4000000
set_option linter.unusedVariables false
noncomputable section
namespace Go.Proofs.YtphkdkkbbfnkaaaGreat
open Go.Ab Go.Ab.Pg
abbrev G_CG := G_Bw
def R_CG (d : D_Bw) : T := (fun x => T.sum x (fun d => .leaf (RR_Bw_0.em d)) (fun x => T.sum x (fun _ => .fail) (fun x => T.sum x (fun _ => .fail) (fun x => T.sum x (fun _ => .fail) (fun x => T.sum x (fun _ => .fail) (fun x => T.sum x (fun d => .leaf (RR_Bw_5.em (d.1, d.2.1, d.2.1.2.1.2.2.1, d.2.2))) (fun _ => .fail))))))) d
def e_CG (g : G_Bw) : Ct := (16, FC Q_Bw R_CG g)
abbrev f_CG := f_Bw
theorem s_CG [Amb] : Snd Tryz.prog (e_CG f_CG) := FC_weaken (R := R_Bw) (R' := R_CG) (fun d r h => by rcases d with d | d | d | d | d | d | d <;> first | exact h | (have h : (none : Option Res) = some r := h; cases h)) s_Bw
end Go.Proofs.YtphkdkkbbfnkaaaGreat
