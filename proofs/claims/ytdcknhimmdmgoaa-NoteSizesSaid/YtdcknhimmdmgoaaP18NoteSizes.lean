/- The given statement about NoteSizes. -/
import Derived.Test.YtdcknhimmdmgoaaFrA
import Derived.Test.YtdcknhimmdmgoaaS18e
import Derived.Test.YtdcknhimmdmgoaaL18
import Derived.Test.YtdcknhimmdmgoaaRows
import Derived.WalkKit
import Derived.ProofKit
import Derived.OpenShut
namespace Go.Proofs.Ytdcknhimmdmgoaa.Ab
open Go Go.ChangeShapes Go.WideShapes Go.ChangeAt Go.RowKit
set_option linter.unusedVariables false
def T18 : AT := told tb i_stillagelaw18_awake (.b true)
theorem awakes : (exN tb 40 i_stillagelaw18_awake [] h00).map (·.1) = some (.b true) := by decide +kernel
theorem T18_ok : TOk Try.prog lk T18 := with_ok tb_ok (alone tb_ok mixed awakes)
theorem tabL18 : TabL18 T18 := ⟨⟨rfl, rfl, rfl, rfl, rfl, rfl⟩, rfl, rfl, rfl⟩
theorem kids : Kids Try.prog (· < Try.prog.types.size) := kids_rows (by kernel_rfl) (by kernel_rfl)
theorem slcs : slicesB Try.prog = true := by kernel_rfl
theorem own : ownKnob Try.prog.godebug = none := by kernel_rfl
theorem ct23 : Try.prog.cellTypes Try.prog.depth 23 = some [3, 3, 3, 3] := by kernel_rfl
theorem sz23 : Try.prog.cellsOf 23 = 4 := by kernel_rfl
/-- a note, as it comes in -/
theorem open_note {W : World} {base : Nat} {v : Value} (h : Value.okWide Try.prog W .any base 23 v) : ∃ k a b c : Int, v = .agg #[.int .i64 k, .int .i64 a, .int .i64 b, .int .i64 c] := by
  simp only [Value.okWide, Try.underlying23] at h
  obtain ⟨cs, rfl, hsz, hrow⟩ := h
  rw [sz23] at hsz
  have hr := row_ints hrow ct23 Try.underlying3 (by simp)
  obtain ⟨x0, rfl⟩ : ∃ l, cs = l := ⟨cs, rfl⟩
  obtain ⟨l⟩ := cs
  simp only [List.size_toArray] at hsz
  match l, hsz with
  | [w0, w1, w2, w3], _ =>
    obtain ⟨k, rfl, _⟩ := hr 0 w0 rfl
    obtain ⟨a, rfl, _⟩ := hr 1 w1 rfl
    obtain ⟨b, rfl, _⟩ := hr 2 w2 rfl
    obtain ⟨c, rfl, _⟩ := hr 3 w3 rfl
    exact ⟨k, a, b, c, rfl⟩
theorem note_ve {lk : Lk} {ρ : Rho} (k a b c : Int) : VE lk ρ (.agg [.i .i64 k, .i .i64 a, .i .i64 b, .i .i64 c]) (.agg #[.int .i64 k, .int .i64 a, .int .i64 b, .int .i64 c]) :=
  (VR.agg (cs := [.i .i64 k, .i .i64 a, .i .i64 b, .i .i64 c]) (xs := #[.int .i64 k, .int .i64 a, .int .i64 b, .int .i64 c]) ⟨.i _ _, .i _ _, .i _ _, .i _ _, trivial⟩).e
theorem rel00 {lk : Lk} (W : World) : Rel lk (fun _ => none) h00 W := ⟨fun hi => (by cases hi), fun hi => (by cases hi), fun hi => (by cases hi), fun hi => (by cases hi), fun _ _ => rfl⟩

set_option maxRecDepth 100000 in
theorem noteSizes_lifted (os : Os) (started : os.Started) (H : Type) (enc : TypeId × Value → H) :
    ReturnsInHanded {} Try.checked os 3 .any (Rows.noteSizesSpec.pre6 enc Try.prog Try.f3 Rows.noteSizesRow.domain false) (Rows.noteSizesSpec.post enc Try.prog Try.f3 false true false false) := by
  refine returnsInHanded_of_change (C := Try.checked) own started (by kernel_rfl) Try.func3
    (ChangeSpec.witness6 (enc := enc) (C := Try.checked) false ⟨#[], #[.agg #[.int .i64 0, .int .i64 0, .int .i64 0, .int .i64 0]], []⟩ 8 (by kernel_rfl) (by kernel_rfl) (by kernel_rfl) (by kernel_rfl)) ?_
  intro W base args ds gs before hval0 hW hcnd _
  have hval : ∀ (j : Nat) t v, Try.f3.params[j]? = some t → args[j]? = some v → Value.okWide Try.prog W .any base t v := hval0
  have hW' := hW
  obtain ⟨p, q, hA0, hV, rfl, hfz, hnd⟩ := hW
  have hA : DataW.TrodAll enc Try.prog W 0 (fun _ => true) true Try.f3.params.toList args.toList ds p := hA0
  rw [Try.params3] at hA hval
  obtain ⟨v0, vs0, d0, ds0, p0, q0, hargs, rfl, rfl, h0, r0⟩ := trodAll_cons hA
  obtain ⟨rfl, rfl, rfl⟩ := trodAll_nil r0
  obtain rfl : args = #[v0] := by cases args; simp_all
  obtain ⟨rfl, rfl⟩ := trodVars_none hV
  obtain ⟨k, a, b, c, rfl⟩ := open_note (hval 0 23 v0 rfl rfl)
  refine (law_calls (xs := #[.agg #[.int .i64 k, .int .i64 a, .int .i64 b, .int .i64 c]]) T18_ok mixed (f := i_stillagelaw18_NoteSizes) (g := 3) rfl (noteSizes_law tabL18 k a b c) (rel00 W) ⟨note_ve k a b c, trivial⟩ (fun _ _ => rfl) (fun b ⟨_, _, _, h, _⟩ => by cases h)).mono fun e W' ⟨he, hs, ho, hu⟩ => ?_
  subst he
  exact ⟨_, rfl, post_true kids (fun ht hu => slices_ok slcs ht hu) (by rw [Try.params3]; decide +kernel) rfl hW' hs ho hu (tb := 4) (by kernel_rfl) Try.underlying4 ⟨rfl, rfl, rfl⟩⟩
theorem noteSizes_over : Rows.noteSizesRow.holds Try.pinned (OpenSpec.ofChange Rows.noteSizesSpec) :=
  OpenClaim.holds_of_wide 3 Try.f3 rfl rfl rfl rfl rfl rfl rfl ⟨rfl, rfl, rfl, rfl, rfl⟩ rfl rfl rfl rfl rfl (by kernel_rfl) Try.func3 (by kernel_rfl)
    (of_decide_eq_true (by kernel_rfl)) (by unfold Func.isWrapper; first | (rw [if_pos (by decide +kernel)]; kernel_rfl) | (rw [if_neg (by decide +kernel)]; exact ⟨rfl, rfl⟩))
    (fun os started H enc _ => noteSizes_lifted os started H enc)
theorem noteSizes_proved : Rows.NoteSizesSaid := noteSizes_over
end Go.Proofs.Ytdcknhimmdmgoaa.Ab
