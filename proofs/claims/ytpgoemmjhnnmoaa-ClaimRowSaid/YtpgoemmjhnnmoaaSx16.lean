/- The second machine: a loop told by what changes. -/
import Derived.Test.YtpgoemmjhnnmoaaSx15
namespace Go.Proofs.Ytpgoemmjhnnmoaa.Ab
open Go
set_option linter.unusedVariables false
def egd : SE → Nat → SV → SV
  | [], _, v => v
  | (m, x) :: r, n, v => if m = n then x else egd r n v
/-- slots, some of them otherwise -/
def supE (u : SE) : SE → SE
  | [] => []
  | (n, v) :: r => (n, egd u n v) :: supE u r
def hgd : List (Nat × B2) → Nat → Option B2 → Option B2
  | [], _, b => b
  | (m, x) :: r, n, b => if m = n then some x else hgd r n b
/-- blocks, some of them otherwise -/
def supH (g : List (Nat × B2)) : Nat → SH → SH
  | _, [] => []
  | i, b :: r => hgd g i b :: supH g (i + 1) r
section
variable {T : AT} {k : Nat} {Q : XT → SE → SH → Prop} {e e' : SE} {h h' : SH}
theorem W2_loopu {b : AC} (I : Nat → SE → List (Nat × B2) → Prop) (m : Nat) {u0 : SE} {g0 : List (Nat × B2)} (h0 : I m u0 g0) (he : supE u0 e = e) (hh : supH g0 0 h = h)
    (hb : ∀ m u g, I m u g → ∀ e1 h1, supE u e = e1 → supH g 0 h = h1 → W2 T k b e1 h1 (thn2 (fun e' h' => ∃ σ : List Nat, σ.Nodup ∧ pinOk k σ = true ∧ ∃ m' u' g', m' < m ∧ I m' u' g' ∧ SE.cv (idx σ) e' = supE u' e ∧ view σ h' = supH g' 0 h) Q)) : W2 T k (.loop b) e h Q := by
  refine W2_loopv (fun m e1 h1 => ∃ u g, I m u g ∧ supE u e = e1 ∧ supH g 0 h = h1) m ⟨u0, g0, h0, he, hh⟩ fun m e1 h1 ⟨u, g, a1, a2, a3⟩ => (hb m u g a1 e1 h1 a2 a3).mono fun t e2 h2 hq => ?_
  cases t with
  | nrm =>
    obtain ⟨σ, b1, b2, m', u', g', b3, b4, b5, b6⟩ := hq
    exact ⟨σ, b1, b2, m', b3, u', g', b4, b5.symm, b6.symm⟩
  | ret => exact hq
  | ex i => exact hq
end
attribute [go_sem] egd supE hgd supH List.length_nil Int.natCast_zero
attribute [go_sem_proc] Int.reduceGT Int.reduceGE
end Go.Proofs.Ytpgoemmjhnnmoaa.Ab
