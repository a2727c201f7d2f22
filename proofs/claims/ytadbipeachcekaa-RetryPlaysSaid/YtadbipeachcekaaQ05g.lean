/- Seat of chapter 05: what the given statement about RetryPlays needs: the sizes of what is handed in. -/
import Derived.Test.YtadbipeachcekaaMG
import Derived.Test.YtadbipeachcekaaY05p
import Derived.Test.YtadbipeachcekaaL05
import Derived.Test.YtadbipeachcekaaRows
import Derived.WalkKit
import Derived.ProofKit
import Derived.OpenShut
namespace Go.Proofs.Ytadbipeachcekaa.Ab
open Go Go.ChangeShapes Go.WideShapes Go.ChangeAt Go.RowKit
set_option linter.unusedVariables false
def T05 : AT := told tb i_stillagelaw05_awake (.b true)
theorem awakes : (exN tb 60 i_stillagelaw05_awake [] h00).map (·.1) = some (.b true) := by decide +kernel
theorem T05_ok : TOk Try.prog lk T05 := with_ok tb_ok (alone tb_ok mixed awakes)
theorem tabR05 : TabR05 T05 := ⟨⟨⟨⟨rfl, rfl, rfl, rfl, rfl, rfl, rfl, rfl, rfl, rfl, rfl, rfl, rfl, rfl, rfl, rfl, rfl, rfl⟩, rfl⟩, rfl⟩, rfl, rfl, rfl, rfl, rfl, rfl, rfl, rfl⟩
theorem kids : Kids Try.prog (· < Try.prog.types.size) := kids_rows (by kernel_rfl) (by kernel_rfl)
theorem slcs : slicesB Try.prog = true := by kernel_rfl
theorem own : ownKnob Try.prog.godebug = none := by kernel_rfl
abbrev tHow : TS := .cons (.int .i64) (.cons (.int .i64) (.cons (.int .i64) (.cons (.int .u16) .nil)))
structure How where
  w : Int
  p : Int
  t : Int
  f : Int
theorem of_How {ps : List PV} (h : tHow.S ps) : ∃ x : How, (0 ≤ x.f ∧ x.f < 65536) ∧ ps = [.i .i64 x.w, .i .i64 x.p, .i .i64 x.t, .i .u16 x.f] := by
  obtain ⟨_, _, rfl, ⟨w, _, _, rfl⟩, _, _, _, rfl, ⟨p, _, _, rfl⟩, _, _, _, rfl, ⟨t, _, _, rfl⟩, _, _, _, rfl, ⟨f, h1, h2, rfl⟩, _, rfl⟩ := h
  exact ⟨⟨w, p, t, f⟩, ⟨h1, Int.lt_add_one_of_le h2⟩, rfl⟩
abbrev tO5 : TS := .cons (.int .i64) (.cons (.int .u16) (.cons (.list (.int .u8)) .nil))
theorem of_O5 {ps : List PV} (h : tO5.S ps) : ∃ o : Op5, (0 ≤ o.seq ∧ o.seq < 65536) ∧ ps = cO5 o := by
  obtain ⟨_, _, rfl, ⟨k, _, _, rfl⟩, _, _, _, rfl, ⟨q, h1, h2, rfl⟩, _, _, _, rfl, h3, _, rfl⟩ := h
  obtain ⟨l, _, rfl⟩ := of_list (f := c8) (fun q h => of_byte h) h3
  exact ⟨⟨k, q, l⟩, ⟨h1, Int.lt_add_one_of_le h2⟩, rfl⟩
theorem win_data {os : List Op5} {B : Nat} (h : ∀ q ∈ [PV.fz 3 (os.map cO5)], Win B q) : ∀ o ∈ os, o.data.length ≤ B := fun o ho => by
  cases h _ (.head _) with
  | fz _ _ h1 h2 =>
    cases h2 (cO5 o) (List.mem_map_of_mem ho) (.fz 1 (o.data.map c8)) (by simp [cO5]) with
    | fz _ _ h3 _ => simpa using h3
/-- the kit's wrap, with what the weights of the input say -/
theorem returns_sized {H : Type} {enc : TypeId × Value → H} {a : Assume} {C : Checked} {os : Os} {f : FuncId} {fn : Func} {s : ChangeSpec} {conds : List PathCond} {apart fresh handsOn again : Bool}
    (own : ownKnob C.prog.godebug = none) (started : os.Started) (noInit : C.prog.inits.idxOf? f = none) (hfn : C.prog.funcs[f]? = some fn)
    (witness : ∃ (w : World) (tape : Tape) (i : Input), w.os = os ∧ (w.forCall tape i).Shaped C.prog ∧ i.vars = [] ∧ Input.okWide C.prog (w.forCall tape i) .any w.heap.size f i ∧
      s.pre6 enc C.prog fn conds apart (w.forCall tape i).memory i.args ∧ a.holds C.prog (lone (Frame.enter C.prog f i.args .normal) [] (w.forCall tape i)))
    (contract : ∀ (W : World) (base : Nat) (args : Array Value) (ds gs : List (DataW H)) (before : List MemPlace),
      (∀ (j : Nat) t v, fn.params[j]? = some t → args[j]? = some v → Value.okWide C.prog W .any base t v) →
      DataW.Whole enc C.prog fn.params.toList s.vars apart W args.toList ds gs before →
      (DataW.weightsEach C.prog (fn.params.toList ++ s.plain.varTypes C.prog) (ds ++ gs)).all (· ≤ reachBytes) = true →
      Calls C.prog f args W fun e W' => ∃ v, e = .returned v ∧ s.post enc C.prog fn apart fresh handsOn again W args v W') :
    ReturnsInHanded a C os f .any (s.pre6 enc C.prog fn conds apart) (s.post enc C.prog fn apart fresh handsOn again) := by
  have e : (fun w args => (s.pre enc C.prog fn conds apart w args ∧ True) ∧ sizedMet enc C.prog fn (OpenSpec.ofChange s) apart w args) = s.pre6 enc C.prog fn conds apart := by
    funext w args
    simp only [and_true, ChangeSpec.pre6]
  rw [← e] at witness ⊢
  exact returnsInHanded_of_change_and (X := fun _ _ => True) (fun _ _ _ _ _ => trivial) own started noInit hfn witness fun W base args ds gs before h1 h2 _ h4 _ _ => contract W base args ds gs before h1 h2 h4
end Go.Proofs.Ytadbipeachcekaa.Ab
