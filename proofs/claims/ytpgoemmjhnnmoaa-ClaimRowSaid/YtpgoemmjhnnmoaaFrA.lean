/- The frame of a law, once for all: the memory that was there is the same behind the call, so the arguments read as before. -/
import Derived.Test.YtpgoemmjhnnmoaaAbMain
import Derived.Test.YtpgoemmjhnnmoaaAbLogic
import Derived.ChangeStays
import Derived.ChangeSame
import Derived.RowKit
import Derived.OpenShut
import Derived.ProofKit
namespace Go.Proofs.Ytpgoemmjhnnmoaa.Ab
open Go Go.ChangeShapes Go.RowKit
set_option linter.unusedVariables false
section
variable {H : Type} {enc : TypeId × Value → H} {P : Program} {T : TypeId → Prop} {W W' : World}
def SameOld (W W' : World) : Prop := ∀ b, b < W.heap.size → W'.heap[b]? = W.heap[b]?
theorem sameAt_old (hs : SameOld W W') {p : MemPlace} (hp : p.block < W.heap.size) : W.sameAt W' p := by
  cases p with
  | cell b off => simp only [World.sameAt, World.cell?]; rw [hs b hp]
  | map b => exact hs b hp
theorem args_stay (K : Kids P T) (hsz : ∀ {t e : TypeId}, T t → P.underlying t = some (.slice e) → 0 < P.cellsOf e) (hs : SameOld W W') {sp : Nat → Bool} :
    ∀ {ts : List TypeId} {vs : List Value} {ds : List (DataW H)} {p : List MemPlace}, (∀ t ∈ ts, T t) → DataW.TrodAll enc P W 0 (fun _ => true) true ts vs ds p → (∀ q ∈ p, q.block < W.heap.size) →
      (∀ q ∈ p, sp q.block = true) → DataW.TrodAll enc P W' 0 sp true ts vs ds p
  | [], vs, ds, p, _, h, _, _ => by
    obtain ⟨rfl, rfl, rfl⟩ := trodAll_nil h
    exact h
  | t :: ts, vs, ds, p, hT, h, hl, hsp => by
    obtain ⟨v0, vs0, d0, ds0, p0, q0, rfl, rfl, rfl, ⟨n, h0⟩, r0⟩ := trodAll_cons h
    refine ⟨p0, q0, ⟨n, ?_⟩, ?_, rfl⟩
    · exact DataW.trod_stays K hsz (fun h => by cases h) (hT t (.head _)) h0 (fun q hq => sameAt_old hs (hl q (List.mem_append_left _ hq))) (fun q hq => hsp q (List.mem_append_left _ hq))
    · exact args_stay K hsz hs (fun u hu => hT u (.tail _ hu)) r0 (fun q hq => hl q (List.mem_append_right _ hq)) fun q hq => hsp q (List.mem_append_right _ hq)
theorem kept_old (hs : SameOld W W') (hos : W'.os = W.os) (hout : W'.output = W.output) {may : MemPlace → Prop} : W.keptBut W' may := by
  refine ⟨hos, hout, fun i hi => ?_⟩
  rw [hs i hi]
  cases W.heap[i]? with
  | none => rfl
  | some o => cases o <;> first | exact ⟨rfl, rfl, rfl, fun _ _ => rfl⟩ | exact .inr ⟨rfl, rfl⟩ | rfl
theorem post_true {f : Func} {s : ChangeSpec} {fresh handsOn : Bool} {args : Array Value} {ds gs : List (DataW H)} {before : List MemPlace} (K : Kids P T)
    (hsz : ∀ {t e : TypeId}, T t → P.underlying t = some (.slice e) → 0 < P.cellsOf e) (hT : ∀ t ∈ f.params.toList, T t) (hvars : s.vars = [])
    (hW : DataW.Whole enc P f.params.toList s.vars false W args.toList ds gs before) (hs : SameOld W W') (hos : W'.os = W.os) (hout : W'.output = W.output)
    {tb : TypeId} (hres : f.resultTypes = #[tb]) (hb : P.underlying tb = some .bool) (hspec : (s.fn H (ds ++ gs)).results = [.lit (.bool true)] ∧ (s.fn H (ds ++ gs)).args = ds ∧ (s.fn H (ds ++ gs)).vars = []) :
    s.post enc P f false fresh handsOn false W args (.bool true) W' := by
  have hlt := fun p hp => hW.lt p hp
  have hW' := hW
  obtain ⟨p, q, hA, hV, rfl, hfz, hnd⟩ := hW
  rw [hvars] at hV
  obtain ⟨rfl, rfl⟩ := trodVars_none hV
  simp only [List.append_nil] at hspec hlt hW' ⊢
  refine ⟨ds, [], p, [], p, [], by simpa using hW', ?_, ?_, ?_, kept_old hs hos hout, fun h => by cases h⟩
  · rw [hres, List.append_nil, hspec.1]
    exact trodAll_cons_mk (shut_bool hb true) trodAll_mk0
  · rw [List.append_nil, hspec.2.1]
    exact args_stay K hsz hs hT hA hlt fun r hr => by simpa using hlt r hr
  · rw [hvars, List.append_nil, hspec.2.2]
    rfl
end
/-- a step that may write nothing leaves all that was there -/
theorem same_of_stp {ρ ρ' : Rho} {h h' : AH} {w w' : World} (s : Stp ρ h w ρ' h' w') (hw : ∀ b, ¬ Wr ρ h b) : SameOld w w' := fun b hb => s.sm b hb (hw b)

/-- every slice's elements have a size -/
def slicesB (P : Program) : Bool := (List.range P.types.size).all fun t => match P.underlying t with | some (.slice e) => decide (0 < P.cellsOf e) | _ => true
theorem slices_ok {P : Program} (h : slicesB P = true) {t e : TypeId} (ht : t < P.types.size) (hu : P.underlying t = some (.slice e)) : 0 < P.cellsOf e := by
  have := List.all_eq_true.1 h t (by simpa using ht)
  simpa [hu] using this
/-- cells that are all of one kind of integer -/
theorem row_ints {P : Program} {w : World} {r : Reach} {base : Nat} {t u : TypeId} {k : IntKind} {cs : Array Value} {ts : List TypeId} (h : Row.okWide P w r base t cs) (hct : P.cellTypes P.depth t = some ts)
    (hu : P.underlying u = some (.int k)) (hts : ∀ x ∈ ts, x = u) : ∀ (i : Nat) (v : Value), cs[i]? = some v → ∃ n, v = .int k n ∧ k.min ≤ n ∧ n ≤ k.max := by
  obtain ⟨ts', h1, h2, h3⟩ := h
  rw [hct] at h1
  cases h1
  intro i v hv
  obtain ⟨x, hx, hc⟩ := h3 i v hv
  obtain rfl := hts x (List.mem_of_getElem? hx)
  simp only [Cell.okWide, hu, Cell.ok] at hc
  cases v <;> simp only at hc <;> try contradiction
  obtain ⟨rfl, hk⟩ := hc
  simp only [IntKind.has] at hk
  exact ⟨_, rfl, by simpa using hk⟩
/-! ### a function that takes nothing and reads nothing: run once, by the kernel -/
def h00 : AH := ⟨0, fun _ => none⟩
theorem rel_same {lk : Lk} {ρ : Rho} {h : AH} {w w' : World} (r : Rel lk ρ h w) (hs : SameOld w w') (hz : w.heap.size ≤ w'.heap.size) : Rel lk ρ h w' := by
  refine ⟨fun hi hb => ?_, fun hi hb => ?_, r.inj, fun hi => Nat.lt_of_lt_of_le (r.lt hi) hz, r.wf⟩
  · rw [hs _ (r.lt hi)]
    exact r.row hi hb
  · rw [hs _ (r.lt hi)]
    exact r.map hi hb
theorem alone {P : Program} {lk : Lk} {T : AT} (hT : TOk P lk T) (hmix : P.follows .mixedOrders = true) {n f : Nat} {x : Bool} (hr : (exN T n f [] h00).map (·.1) = some (.b x)) (h : AH) :
    CallsOk P lk f [] h (.b x) h := by
  obtain ⟨⟨v, h'⟩, he, hv⟩ := Option.map_eq_some_iff.1 hr
  simp only at hv
  subst hv
  obtain ⟨g, fn, h1, h2, h3, h4, h5⟩ := (exN_sound hT hmix n).ok he
  refine ⟨g, fn, h1, h2, h3, h4, fun ρ w xs r hf free => ?_⟩
  have r0 : Rel lk (fun _ => none) h00 w := ⟨fun hi => (by cases hi), fun hi => (by cases hi), fun hi => (by cases hi), fun hi => (by cases hi), fun _ _ => rfl⟩
  have hf0 : F2 (VE lk fun _ => none) [] xs.toList := by
    cases hxs : xs.toList with
    | nil => trivial
    | cons a l => rw [hxs] at hf; exact hf.elim
  refine (h5 (fun _ => none) w xs r0 hf0 (fun _ _ _ => rfl)).mono ?_
  rintro e w' ⟨y, ρ', rfl, hy, r', s⟩
  have hs : SameOld w w' := same_of_stp s fun b ⟨id, t, z, hz, _⟩ => by cases hz
  have := hy.b
  subst this
  exact ⟨_, ρ, rfl, (VC.b x).e, rel_same r hs s.sz, ⟨fun _ _ => rfl, Nat.le_refl _, fun _ _ _ => rfl, fun _ _ h => h, fun _ _ h => h, fun b hb _ => hs b hb, s.sz, s.os, s.tape, s.output⟩⟩
theorem always_ok {P : Program} {lk : Lk} {f : Nat} {v : AV} (h : ∀ h, CallsOk P lk f [] h v h) : ∀ args u, always v args = some u → ∀ h, CallsOk P lk f args h u h := by
  intro args u hu h1
  cases args with
  | nil => cases hu; exact h h1
  | cons => cases hu
/-- a table with one function told by what it gives -/
def told (T : AT) (f : Nat) (v : AV) : AT := fun g => if Nat.beq g f then some (.spec (always v)) else T g
theorem with_ok {P : Program} {lk : Lk} {T : AT} (hT : TOk P lk T) {f : Nat} {v : AV} (h : ∀ h, CallsOk P lk f [] h v h) : TOk P lk (told T f v) := by
  intro g
  unfold told
  by_cases hg : Nat.beq g f = true
  · rw [if_pos hg, Nat.eq_of_beq_eq_true hg]
    exact always_ok h
  · rw [if_neg hg]
    exact hT g
/-- what a law comes to in the model -/
theorem law_calls {P : Program} {lk : Lk} {T : AT} (hT : TOk P lk T) (hmix : P.follows .mixedOrders = true) {f : Nat} {g : FuncId} (hg : lk f = some g) {args : List AV} {h : AH} (hr : Ret T f args h fun v _ => v = .b true)
    {ρ : Rho} {W : World} {xs : Array Value} (r : Rel lk ρ h W) (hf : F2 (VE lk ρ) args xs.toList) (hfree : ∀ id, h.next ≤ id → ρ id = none) (hro : ∀ b, ¬ Wr ρ h b) :
    Calls P g xs W fun e W' => e = .returned (.bool true) ∧ SameOld W W' ∧ W'.os = W.os ∧ W'.output = W.output := by
  obtain ⟨n, v, h', he, rfl⟩ := hr
  obtain ⟨g', fn, h1, h2, h3, h4, h5⟩ := (exN_sound hT hmix n).ok he
  rw [hg] at h1
  cases h1
  refine (h5 ρ W xs r hf fun id a _ => hfree id a).mono ?_
  rintro e w' ⟨y, ρ', rfl, hy, r', s⟩
  have := hy.b
  subst this
  exact ⟨rfl, same_of_stp s hro, s.os, s.output⟩
end Go.Proofs.Ytpgoemmjhnnmoaa.Ab
