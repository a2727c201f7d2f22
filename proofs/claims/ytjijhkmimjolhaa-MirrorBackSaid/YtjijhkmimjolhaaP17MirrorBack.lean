/- The given statement about MirrorBack. -/
import Derived.Test.YtjijhkmimjolhaaQ17r
import Derived.Test.YtjijhkmimjolhaaY17v
namespace Go.Proofs.Ytjijhkmimjolhaa.Ab
open Go Go.ChangeShapes Go.WideShapes Go.ChangeAt Go.RowKit
set_option linter.unusedVariables false
set_option maxRecDepth 100000 in
theorem mirrorBack_lifted (os : Os) (started : os.Started) (H : Type) (enc : TypeId × Value → H) :
    ReturnsInHanded {} Try.checked os 9 .any (Rows.mirrorBackSpec.pre6 enc Try.prog Try.f9 Rows.mirrorBackRow.domain false) (Rows.mirrorBackSpec.post enc Try.prog Try.f9 false true false false) := by
  refine returnsInHanded_of_change (C := Try.checked) own started (by kernel_rfl) Try.func9
    (ChangeSpec.witness6 (enc := enc) (C := Try.checked) false ⟨#[], #[.agg #[.slice none 0 0, .slice none 0 0], .slice none 0 0, .agg #[.int .i64 0, .int .i64 0, .int .i64 0, .int .i64 0]], []⟩ 8 (by kernel_rfl) (by kernel_rfl) (by kernel_rfl) (by kernel_rfl)) ?_
  intro W base args ds gs before hval0 hW hcnd _
  have hval : ∀ (j : Nat) t v, Try.f9.params[j]? = some t → args[j]? = some v → Value.okWide Try.prog W .any base t v := hval0
  have hW' := hW
  obtain ⟨p, q, hA0, hV, rfl, hfz, hnd⟩ := hW
  have hA : DataW.TrodAll enc Try.prog W 0 (fun _ => true) true Try.f9.params.toList args.toList ds p := hA0
  rw [Try.params9] at hA hval
  obtain ⟨v0, vs0, d0, ds0, p0, q0, hargs, rfl, rfl, h0, r0⟩ := trodAll_cons hA
  obtain ⟨v1, vs1, d1, ds1, p1, q1, rfl, rfl, rfl, h1, r1⟩ := trodAll_cons r0
  obtain ⟨v2, vs2, d2, ds2, p2, q2, rfl, rfl, rfl, h2, r2⟩ := trodAll_cons r1
  obtain ⟨rfl, rfl, rfl⟩ := trodAll_nil r2
  obtain rfl : args = #[v0, v1, v2] := by cases args; simp_all
  obtain ⟨rfl, rfl⟩ := trodVars_none hV
  obtain ⟨ps0, s0, a0⟩ := arg_of (lk := lk) (n := 20) (s := tLay) (by kernel_rfl) (hval 0 25 v0 rfl rfl) h0
  obtain ⟨l, hl, rfl⟩ := of_Lay s0
  obtain ⟨ps1, s1, a1⟩ := arg_of (lk := lk) (n := 20) (s := .list tNt) (by kernel_rfl) (hval 1 39 v1 rfl rfl) h1
  obtain ⟨s, _, rfl⟩ := of_list (f := cNt) (fun q h => of_Nt h) s1
  obtain ⟨ps2, s2, a2⟩ := arg_of (lk := lk) (n := 20) (s := tNt) (by kernel_rfl) (hval 2 43 v2 rfl rfl) h2
  obtain ⟨n, _, rfl⟩ := of_Nt s2
  obtain ⟨cargs, hc, hx⟩ := (args_cons a0 (args_cons a1 (args_cons a2 args_nil)))
  refine (law_calls2 (xs := #[v0, v1, v2]) tb_ok mixed (f := i_stillagelaw17_MirrorBack) (g := 9) rfl (mirrorBack_law tabV17 rfl l hl s n) hc hx).mono fun e W' ⟨he, hs, ho, hu⟩ => ?_
  subst he
  exact ⟨_, rfl, post_true kids (fun ht hu => slices_ok slcs ht hu) (by rw [Try.params9]; decide +kernel) rfl hW' hs ho hu (tb := 4) (by kernel_rfl) Try.underlying4 ⟨rfl, rfl, rfl⟩⟩
theorem mirrorBack_over : Rows.mirrorBackRow.holds Try.pinned (OpenSpec.ofChange Rows.mirrorBackSpec) :=
  OpenClaim.holds_of_wide 9 Try.f9 rfl rfl rfl rfl rfl rfl rfl ⟨rfl, rfl, rfl, rfl, rfl⟩ rfl rfl rfl rfl rfl (by kernel_rfl) Try.func9 (by kernel_rfl)
    (of_decide_eq_true (by kernel_rfl)) (by unfold Func.isWrapper; first | (rw [if_pos (by decide +kernel)]; kernel_rfl) | (rw [if_neg (by decide +kernel)]; exact ⟨rfl, rfl⟩))
    (fun os started H enc _ => mirrorBack_lifted os started H enc)
theorem mirrorBack_proved : Rows.MirrorBackSaid := mirrorBack_over
end Go.Proofs.Ytjijhkmimjolhaa.Ab
