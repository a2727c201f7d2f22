/- The given statement about RetryPlays. -/
import Derived.Test.YtadbipeachcekaaQ05g
namespace Go.Proofs.Ytadbipeachcekaa.Ab
open Go Go.ChangeShapes Go.WideShapes Go.ChangeAt Go.RowKit
set_option linter.unusedVariables false
set_option maxRecDepth 100000 in
theorem retryPlays_lifted (os : Os) (started : os.Started) (H : Type) (enc : TypeId × Value → H) :
    ReturnsInHanded {} Try.checked os 6 .any (Rows.retryPlaysSpec.pre6 enc Try.prog Try.f6 Rows.retryPlaysRow.domain false) (Rows.retryPlaysSpec.post enc Try.prog Try.f6 false true false false) := by
  refine returns_sized (C := Try.checked) own started (by kernel_rfl) Try.func6
    (ChangeSpec.witness6 (enc := enc) (C := Try.checked) false ⟨#[], #[.agg #[.int .i64 0, .int .i64 0, .int .i64 0, .int .u16 0], .slice none 0 0], []⟩ 8 (by kernel_rfl) (by kernel_rfl) (by kernel_rfl) (by kernel_rfl)) ?_
  intro W base args ds gs before hval0 hW hwt
  have hval : ∀ (j : Nat) t v, Try.f6.params[j]? = some t → args[j]? = some v → Value.okWide Try.prog W .any base t v := hval0
  have hW' := hW
  obtain ⟨p, q, hA0, hV, rfl, hfz, hnd⟩ := hW
  have hA : DataW.TrodAll enc Try.prog W 0 (fun _ => true) true Try.f6.params.toList args.toList ds p := hA0
  rw [Try.params6] at hA hval
  obtain ⟨v0, vs0, d0, ds0, p0, q0, hargs, rfl, rfl, h0, r0⟩ := trodAll_cons hA
  obtain ⟨v1, vs1, d1, ds1, p1, q1, rfl, rfl, rfl, h1, r1⟩ := trodAll_cons r0
  obtain ⟨rfl, rfl, rfl⟩ := trodAll_nil r1
  obtain rfl : args = #[v0, v1] := by cases args; simp_all
  obtain ⟨rfl, rfl⟩ := trodVars_none hV
  obtain ⟨ps0, s0, _, a0⟩ := arg_of (lk := lk) (n := 20) (s := tHow) (by kernel_rfl) (hval 0 24 v0 rfl rfl) h0
  obtain ⟨h, hf, rfl⟩ := of_How s0
  rw [List.all_eq_true] at hwt
  have hsm : Small Try.prog reachBytes 48 d1 := fun w hw => by
    have := hwt w (weights_each (i := 1) (t := 48) (d := d1) (by rw [Try.params6]; rfl) rfl hw)
    simpa using this
  obtain ⟨ps1, s1, w1, a1⟩ := arg_of (lk := lk) (n := 20) (s := .list tO5) (by kernel_rfl) (hval 1 48 v1 rfl rfl) h1
  obtain ⟨os, ⟨ho, _⟩, rfl⟩ := of_list (f := cO5) (fun q h => of_O5 h) s1
  have hd : ∀ o ∈ os, o.data.length ≤ room := fun o h => Nat.le_trans (win_data (w1 _ hsm) o h) (by decide)
  obtain ⟨cargs, hc, hx⟩ := (args_cons a0 (args_cons a1 args_nil))
  refine (law_calls2 (xs := #[v0, v1]) T05_ok mixed (f := i_stillagelaw05_RetryPlays) (g := 6) rfl (retryPlays_law tabR05 rfl h.w h.p h.t h.f hf.1 hf.2 os (fun o h => ⟨ho o h, hd o h⟩)) hc hx).mono fun e W' ⟨he, hs, ho, hu⟩ => ?_
  subst he
  exact ⟨_, rfl, post_true kids (fun ht hu => slices_ok slcs ht hu) (by rw [Try.params6]; decide +kernel) rfl hW' hs ho hu (tb := 4) (by kernel_rfl) Try.underlying4 ⟨rfl, rfl, rfl⟩⟩
theorem retryPlays_over : Rows.retryPlaysRow.holds Try.pinned (OpenSpec.ofChange Rows.retryPlaysSpec) :=
  OpenClaim.holds_of_wide 6 Try.f6 rfl rfl rfl rfl rfl rfl rfl ⟨rfl, rfl, rfl, rfl, rfl⟩ rfl rfl rfl rfl rfl (by kernel_rfl) Try.func6 (by kernel_rfl)
    (of_decide_eq_true (by kernel_rfl)) (by unfold Func.isWrapper; first | (rw [if_pos (by decide +kernel)]; kernel_rfl) | (rw [if_neg (by decide +kernel)]; exact ⟨rfl, rfl⟩))
    (fun os started H enc _ => retryPlays_lifted os started H enc)
theorem retryPlays_proved : Rows.RetryPlaysSaid := retryPlays_over
end Go.Proofs.Ytadbipeachcekaa.Ab
