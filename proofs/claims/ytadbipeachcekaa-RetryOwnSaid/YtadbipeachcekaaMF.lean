/- The frame of a given statement: arguments, and what stays. -/
import Derived.Test.YtadbipeachcekaaMB
import Derived.ChangeStays
import Derived.ChangeSame
import Derived.RowKit
import Derived.OpenShut
import Derived.ProofKit
import Derived.Test.YtadbipeachcekaaMS2
import Derived.ChangeArms
/- The frame of a law, once for all: the memory that was there is the same behind the call, so the arguments read as before. -/
namespace Go.Proofs.Ytadbipeachcekaa.Ab
open Go Go.ChangeShapes Go.RowKit
set_option linter.unusedVariables false
section
variable {H : Type} {enc : TypeId × Value → H} {P : Program} {T : TypeId → Prop} {W W' : World}
def SameOld (W W' : World) : Prop := ∀ b, b < W.heap.size → W'.heap[b]? = W.heap[b]?
theorem sameAt_old (hs : SameOld W W') {p : MemPlace} (hp : p.block < W.heap.size) : W.sameAt W' p := by
  cases p with
  | cell b off => simp only [World.sameAt, World.cell?]; rw [hs b hp]
  | map b => exact hs b hp
theorem args_stay (K : Kids P T) (hsz : ∀ {t e : TypeId}, T t → P.underlying t = some (.slice e) → 0 < P.cellsOf e) (hs : SameOld W W') {sp : Nat → Bool} :
    ∀ {ts : List TypeId} {vs : List Value} {ds : List (DataW H)} {p : List MemPlace}, (∀ t ∈ ts, T t) → DataW.TrodAll enc P W 0 (fun _ => true) true ts vs ds p → (∀ q ∈ p, q.block < W.heap.size) →
      (∀ q ∈ p, sp q.block = true) → DataW.TrodAll enc P W' 0 sp true ts vs ds p
  | [], vs, ds, p, _, h, _, _ => by
    obtain ⟨rfl, rfl, rfl⟩ := trodAll_nil h
    exact h
  | t :: ts, vs, ds, p, hT, h, hl, hsp => by
    obtain ⟨v0, vs0, d0, ds0, p0, q0, rfl, rfl, rfl, ⟨n, h0⟩, r0⟩ := trodAll_cons h
    refine ⟨p0, q0, ⟨n, ?_⟩, ?_, rfl⟩
    · exact DataW.trod_stays K hsz (fun h => by cases h) (hT t (.head _)) h0 (fun q hq => sameAt_old hs (hl q (List.mem_append_left _ hq))) (fun q hq => hsp q (List.mem_append_left _ hq))
    · exact args_stay K hsz hs (fun u hu => hT u (.tail _ hu)) r0 (fun q hq => hl q (List.mem_append_right _ hq)) fun q hq => hsp q (List.mem_append_right _ hq)
theorem kept_old (hs : SameOld W W') (hos : W'.os = W.os) (hout : W'.output = W.output) {may : MemPlace → Prop} : W.keptBut W' may := by
  refine ⟨hos, hout, fun i hi => ?_⟩
  rw [hs i hi]
  cases W.heap[i]? with
  | none => rfl
  | some o => cases o <;> first | exact ⟨rfl, rfl, rfl, fun _ _ => rfl⟩ | exact .inr ⟨rfl, rfl⟩ | rfl
theorem post_true {f : Func} {s : ChangeSpec} {fresh handsOn : Bool} {args : Array Value} {ds gs : List (DataW H)} {before : List MemPlace} (K : Kids P T)
    (hsz : ∀ {t e : TypeId}, T t → P.underlying t = some (.slice e) → 0 < P.cellsOf e) (hT : ∀ t ∈ f.params.toList, T t) (hvars : s.vars = [])
    (hW : DataW.Whole enc P f.params.toList s.vars false W args.toList ds gs before) (hs : SameOld W W') (hos : W'.os = W.os) (hout : W'.output = W.output)
    {tb : TypeId} (hres : f.resultTypes = #[tb]) (hb : P.underlying tb = some .bool) (hspec : (s.fn H (ds ++ gs)).results = [.lit (.bool true)] ∧ (s.fn H (ds ++ gs)).args = ds ∧ (s.fn H (ds ++ gs)).vars = []) :
    s.post enc P f false fresh handsOn false W args (.bool true) W' := by
  have hlt := fun p hp => hW.lt p hp
  have hW' := hW
  obtain ⟨p, q, hA, hV, rfl, hfz, hnd⟩ := hW
  rw [hvars] at hV
  obtain ⟨rfl, rfl⟩ := trodVars_none hV
  simp only [List.append_nil] at hspec hlt hW' ⊢
  refine ⟨ds, [], p, [], p, [], by simpa using hW', ?_, ?_, ?_, kept_old hs hos hout, fun h => by cases h⟩
  · rw [hres, List.append_nil, hspec.1]
    exact trodAll_cons_mk (shut_bool hb true) trodAll_mk0
  · rw [List.append_nil, hspec.2.1]
    exact args_stay K hsz hs hT hA hlt fun r hr => by simpa using hlt r hr
  · rw [hvars, List.append_nil, hspec.2.2]
    rfl
end
/-- a step that may write nothing leaves all that was there -/
theorem same_of_stp {ρ ρ' : Rho} {h h' : AH} {w w' : World} (s : Stp ρ h w ρ' h' w') (hw : ∀ b, ¬ Wr ρ h b) : SameOld w w' := fun b hb => s.sm b hb (hw b)

/-- every slice's elements have a size -/
def slicesB (P : Program) : Bool := (List.range P.types.size).all fun t => match P.underlying t with | some (.slice e) => decide (0 < P.cellsOf e) | _ => true
theorem slices_ok {P : Program} (h : slicesB P = true) {t e : TypeId} (ht : t < P.types.size) (hu : P.underlying t = some (.slice e)) : 0 < P.cellsOf e := by
  have := List.all_eq_true.1 h t (by simpa using ht)
  simpa [hu] using this
/-- cells that are all of one kind of integer -/
theorem row_ints {P : Program} {w : World} {r : Reach} {base : Nat} {t u : TypeId} {k : IntKind} {cs : Array Value} {ts : List TypeId} (h : Row.okWide P w r base t cs) (hct : P.cellTypes P.depth t = some ts)
    (hu : P.underlying u = some (.int k)) (hts : ∀ x ∈ ts, x = u) : ∀ (i : Nat) (v : Value), cs[i]? = some v → ∃ n, v = .int k n ∧ k.min ≤ n ∧ n ≤ k.max := by
  obtain ⟨ts', h1, h2, h3⟩ := h
  rw [hct] at h1
  cases h1
  intro i v hv
  obtain ⟨x, hx, hc⟩ := h3 i v hv
  obtain rfl := hts x (List.mem_of_getElem? hx)
  simp only [Cell.okWide, hu, Cell.ok] at hc
  cases v <;> simp only at hc <;> try contradiction
  obtain ⟨rfl, hk⟩ := hc
  simp only [IntKind.has] at hk
  exact ⟨_, rfl, by simpa using hk⟩
/-! ### a function that takes nothing and reads nothing: run once, by the kernel -/
def h00 : AH := ⟨0, fun _ => none⟩
theorem rel_same {lk : Lk} {ρ : Rho} {h : AH} {w w' : World} (r : Rel lk ρ h w) (hs : SameOld w w') (hz : w.heap.size ≤ w'.heap.size) : Rel lk ρ h w' := by
  refine ⟨fun hi hb => ?_, fun hi hb => ?_, r.inj, fun hi => Nat.lt_of_lt_of_le (r.lt hi) hz, r.wf⟩
  · rw [hs _ (r.lt hi)]
    exact r.row hi hb
  · rw [hs _ (r.lt hi)]
    exact r.map hi hb
theorem alone {P : Program} {lk : Lk} {T : AT} (hT : TOk P lk T) (hmix : P.follows .mixedOrders = true) {n f : Nat} {x : Bool} (hr : (exN T n f [] h00).map (·.1) = some (.b x)) (h : AH) :
    CallsOk P lk f [] h (.b x) h := by
  obtain ⟨⟨v, h'⟩, he, hv⟩ := Option.map_eq_some_iff.1 hr
  simp only at hv
  subst hv
  obtain ⟨g, fn, h1, h2, h3, h4, h5⟩ := (exN_sound hT hmix n).ok he
  refine ⟨g, fn, h1, h2, h3, h4, fun ρ w xs r hf free => ?_⟩
  have r0 : Rel lk (fun _ => none) h00 w := ⟨fun hi => (by cases hi), fun hi => (by cases hi), fun hi => (by cases hi), fun hi => (by cases hi), fun _ _ => rfl⟩
  have hf0 : F2 (VE lk fun _ => none) [] xs.toList := by
    cases hxs : xs.toList with
    | nil => trivial
    | cons a l => rw [hxs] at hf; exact hf.elim
  refine (h5 (fun _ => none) w xs r0 hf0 (fun _ _ _ => rfl)).mono ?_
  rintro e w' ⟨y, ρ', rfl, hy, r', s⟩
  have hs : SameOld w w' := same_of_stp s fun b ⟨id, t, z, hz, _⟩ => by cases hz
  have := hy.b
  subst this
  exact ⟨_, ρ, rfl, (VC.b x).e, rel_same r hs s.sz, ⟨fun _ _ => rfl, Nat.le_refl _, fun _ _ _ => rfl, fun _ _ h => h, fun _ _ h => h, fun b hb _ => hs b hb, s.sz, s.os, s.tape, s.output⟩⟩
theorem always_ok {P : Program} {lk : Lk} {f : Nat} {v : AV} (h : ∀ h, CallsOk P lk f [] h v h) : ∀ args u, always v args = some u → ∀ h, CallsOk P lk f args h u h := by
  intro args u hu h1
  cases args with
  | nil => cases hu; exact h h1
  | cons => cases hu
/-- a table with one function told by what it gives -/
def told (T : AT) (f : Nat) (v : AV) : AT := fun g => if Nat.beq g f then some (.spec (always v)) else T g
theorem with_ok {P : Program} {lk : Lk} {T : AT} (hT : TOk P lk T) {f : Nat} {v : AV} (h : ∀ h, CallsOk P lk f [] h v h) : TOk P lk (told T f v) := by
  intro g
  unfold told
  by_cases hg : Nat.beq g f = true
  · rw [if_pos hg, Nat.eq_of_beq_eq_true hg]
    exact always_ok h
  · rw [if_neg hg]
    exact hT g
/-- what a law comes to in the model -/
theorem law_calls {P : Program} {lk : Lk} {T : AT} (hT : TOk P lk T) (hmix : P.follows .mixedOrders = true) {f : Nat} {g : FuncId} (hg : lk f = some g) {args : List AV} {h : AH} (hr : Ret T f args h fun v _ => v = .b true)
    {ρ : Rho} {W : World} {xs : Array Value} (r : Rel lk ρ h W) (hf : F2 (VE lk ρ) args xs.toList) (hfree : ∀ id, h.next ≤ id → ρ id = none) (hro : ∀ b, ¬ Wr ρ h b) :
    Calls P g xs W fun e W' => e = .returned (.bool true) ∧ SameOld W W' ∧ W'.os = W.os ∧ W'.output = W.output := by
  obtain ⟨n, v, h', he, rfl⟩ := hr
  obtain ⟨g', fn, h1, h2, h3, h4, h5⟩ := (exN_sound hT hmix n).ok he
  rw [hg] at h1
  cases h1
  refine (h5 ρ W xs r hf fun id a _ => hfree id a).mono ?_
  rintro e w' ⟨y, ρ', rfl, hy, r', s⟩
  have := hy.b
  subst this
  exact ⟨rfl, same_of_stp s hro, s.os, s.output⟩
end Go.Proofs.Ytadbipeachcekaa.Ab
/- The frame of a law, second part: the arguments as values that stay, whatever else the memory holds. -/
namespace Go.Proofs.Ytadbipeachcekaa.Ab
open Go Go.ChangeShapes Go.RowKit
set_option linter.unusedVariables false
/-- a value of the model, as the first machine has it -/
def cvV (W : World) : Value → AV
  | .bool x => .b x
  | .int k n => .i k n
  | .string y => .s y.data.toList
  | .pointer none => .nilp
  | .slice none 0 0 => .nils
  | .slice (some _) 0 0 => .es
  | .slice (some ⟨b, o, none⟩) len cap =>
    match W.heap[b]? with
    | some (.cells _ _ _) => if len ≤ cap then .sl b o len cap 0 else .un
    | _ => .un
  | _ => .un
def mirρ (W : World) : Rho := fun b => match W.heap[b]? with | some (.cells c _ _) => some (b, c.size) | _ => none
def mirF (W : World) : Fro := fun b => match W.heap[b]? with | some (.cells c _ _) => some (c.toList.map (cvV W)) | _ => none
def mirH (W : World) : AH := ⟨W.heap.size, fun b => (mirF W b).map fun cs => .row cs true⟩
def mirW (W : World) : Wd := ⟨fun _ => none, mirF W, fun _ => 0⟩
section
variable {lk : Lk} {W : World}
theorem cvV_vc (v : Value) (h : cvV W v ≠ .un) : VC lk (mirρ W) (cvV W v) v := by
  unfold cvV at h ⊢
  split at h
  · exact .b _
  · exact .i _ _
  · exact .s _ _ rfl
  · exact .nilp
  · exact .nils
  · exact .es _
  · rename_i b o len cap _
    split at h
    · rename_i c e fz hb
      have hρ : mirρ W b = some (b, c.size) := by simp only [mirρ, hb]
      split at h
      · rename_i hl
        simp only [if_pos hl]
        exact .sl hρ hl (Nat.le_refl _) (fun _ => rfl) (.inl rfl) (fun h => absurd rfl h)
      · exact (h rfl).elim
    · exact (h rfl).elim
  · exact (h rfl).elim
theorem cvV_vu (v : Value) : VU lk (mirρ W) (cvV W v) v := by
  by_cases h : cvV W v = .un
  · exact .inl h
  · exact .inr (cvV_vc v h)
theorem mir_rel : Rel lk (mirρ W) (mirH W) W := by
  have hρ : ∀ {id b t : Nat}, mirρ W id = some (b, t) → b = id ∧ ∃ c e fz, W.heap[id]? = some (.cells c e fz) ∧ c.size = t := fun {id b t} h => by
    unfold mirρ at h
    split at h
    · rename_i c e fz hb; cases h; exact ⟨rfl, c, e, fz, hb, rfl⟩
    · cases h
  refine ⟨fun {id b t cs ro} hi hb => ?_, fun {id b t es cl} hi hb => ?_, fun {i j b t b' t'} hi hj _ _ he => ?_, fun {id b t} hi => ?_, fun id hid => ?_⟩
  · obtain ⟨rfl, c, e, fz, h1, h2⟩ := hρ hi
    simp only [mirH, mirF, h1, Option.map_some] at hb
    cases hb
    refine ⟨c, e, fz, h1, h2, by simp [h2], (fun h => by cases h), fun j x hx => ?_⟩
    obtain ⟨y, hy, rfl⟩ := get_map hx
    exact ⟨y, by simpa using hy, cvV_vu y⟩
  · obtain ⟨rfl, c, e, fz, h1, h2⟩ := hρ hi
    simp only [mirH, mirF, h1, Option.map_some] at hb
    cases hb
  · rw [(hρ hi).1, (hρ hj).1] at he; exact he
  · obtain ⟨rfl, c, e, fz, h1, h2⟩ := hρ hi
    exact (Array.getElem?_eq_some_iff.1 h1).1
  · simp only [mirH] at hid ⊢
    have : W.heap[id]? = none := Array.getElem?_eq_none hid
    simp only [mirF, this, Option.map_none]
theorem mir_free : ∀ id, (mirH W).next ≤ id → mirρ W id = none := fun id hid => by
  have : W.heap[id]? = none := Array.getElem?_eq_none hid
  simp only [mirρ, this]
theorem mir_ro : ∀ b, ¬ Wr (mirρ W) (mirH W) b := fun b ⟨id, t, x, h1, h2, h3⟩ => by
  simp only [mirH, Option.map_eq_some_iff] at h2
  obtain ⟨cs, _, rfl⟩ := h2
  exact h3 cs rfl
theorem mir_rh : RH (mirW W) [] (mirH W) := by
  refine ⟨fun i j b b' c h => by simp at h, fun i c h => by simp at h, fun i b c h => by simp at h, fun id row hf => ?_, fun i b c h => by simp at h, fun i b h => by simp at h, fun id hid => by
    have : W.heap[id]? = none := Array.getElem?_eq_none hid
    simp only [mirH, mirF, this, Option.map_none]⟩
  have hf : mirF W id = some row := hf
  refine ⟨?_, true, by simp only [mirH, hf, Option.map_some]⟩
  unfold mirF at hf
  split at hf
  · rename_i hb; exact (Array.getElem?_eq_some_iff.1 hb).1
  · cases hf
end
/-! ### what a reading says of cells -/
section
variable {P : Program} {W : World}
/-- of a type: cells that are read as one of its values are values that stay, of a certain form -/
structure Op (P : Program) (W : World) (t : TypeId) (n : Nat) (S : List PV → Prop) : Prop where
  go : ∀ {H : Type} {enc : TypeId × Value → H} {held : Bool} {fuel : Nat} {cs : List Value} {x : DataW H × List MemPlace}, DataW.trod enc P W 0 (fun _ => true) held fuel t cs = some x → ∃ ps, P2 (RP (mirF W)) ps (cs.map (cvV W)) ∧ S ps ∧ ps.length = n
theorem op_int {t : TypeId} {k : IntKind} (ht : P.underlying t = some (.int k)) : Op P W t 1 fun ps => ∃ n, k.min ≤ n ∧ n ≤ k.max ∧ ps = [.i k n] := ⟨fun h => by
  obtain ⟨n, rfl, _, hw⟩ := DataW.trod_int ht h
  simp only [Lit.wf, Bool.and_eq_true, decide_eq_true_eq] at hw
  exact ⟨[.i k n], .one (.i _ _), ⟨n, hw.1, hw.2, rfl⟩, rfl⟩⟩
theorem op_bool {t : TypeId} (ht : P.underlying t = some .bool) : Op P W t 1 fun ps => ∃ b, ps = [.b b] := ⟨fun h => by
  obtain ⟨b, rfl, _⟩ := DataW.trod_bool ht h
  exact ⟨[.b b], .one (.b _), ⟨b, rfl⟩, rfl⟩⟩
theorem op_string {t : TypeId} (ht : P.underlying t = some .string) : Op P W t 1 fun ps => ∃ l, l.length ≤ 9223372036854775807 ∧ ps = [.s l] := ⟨fun h => by
  obtain ⟨s, rfl, _, hl⟩ := DataW.trod_string ht h
  refine ⟨[.s s.data.toList], .one (.s _), ⟨_, ?_, rfl⟩, rfl⟩
  rw [Array.length_toList]
  exact hl⟩
/-- fields, one behind the other -/
def Parts : List (Nat × (List PV → Prop)) → List PV → Prop
  | [], ps => ps = []
  | (n, S) :: r, ps => ∃ a b, ps = a ++ b ∧ S a ∧ a.length = n ∧ Parts r b
def fieldsAt (fs : List (TypeId × Nat × (List PV → Prop))) : Nat := (fs.map fun f => f.2.1).sum
theorem parts_go {H : Type} {enc : TypeId × Value → H} {held : Bool} {fuel : Nat} {cs : List Value} : ∀ (fs : List (TypeId × Nat × (List PV → Prop))) (o : Nat), (∀ f ∈ fs, Op P W f.1 f.2.1 f.2.2) → cs.length = o + fieldsAt fs →
    (∀ (i : Nat) f, fs[i]? = some f → ∃ x, DataW.trod enc P W 0 (fun _ => true) held fuel f.1 ((cs.drop (o + fieldsAt (fs.take i))).take f.2.1) = some x) → ∃ ps, P2 (RP (mirF W)) ps ((cs.drop o).map (cvV W)) ∧ Parts (fs.map (·.2)) ps ∧ ps.length = fieldsAt fs
  | [], o, _, hl, _ => by
    have : cs.drop o = [] := List.drop_eq_nil_of_le (by simp [fieldsAt] at hl; omega)
    rw [this]
    exact ⟨[], .nil, rfl, rfl⟩
  | (t, n, S) :: fs, o, hf, hl, hx => by
    have hsum : fieldsAt ((t, n, S) :: fs) = n + fieldsAt fs := by simp [fieldsAt]
    rw [hsum] at hl ⊢
    obtain ⟨x, h0⟩ := hx 0 (t, n, S) rfl
    simp only [List.take_zero, fieldsAt, List.map_nil, List.sum_nil, Nat.add_zero] at h0
    obtain ⟨a, a1, a2, a3⟩ := (hf _ (.head _)).go h0
    obtain ⟨b, b1, b2, b3⟩ := parts_go (enc := enc) (held := held) (fuel := fuel) (cs := cs) fs (o + n) (fun f h => hf f (.tail _ h)) (by omega) fun i f hi => by
      obtain ⟨y, hy⟩ := hx (i + 1) f (by simpa using hi)
      refine ⟨y, ?_⟩
      rw [← hy]
      simp only [List.take_succ_cons, fieldsAt, List.map_cons, List.sum_cons]
      rw [Nat.add_assoc]
    refine ⟨a ++ b, ?_, ⟨a, b, rfl, a2, a3, b2⟩, by simp only at a3; rw [List.length_append, a3, b3]⟩
    have : cs.drop o = (cs.drop o).take n ++ cs.drop (o + n) := by
      rw [← List.drop_drop, List.take_append_drop]
    rw [this, List.map_append]
    exact a1.append b1
theorem op_struct {t : TypeId} {fs : Array Field} (ht : P.underlying t = some (.struct fs)) (L : List (TypeId × Nat × (List PV → Prop))) (hL : ∀ f ∈ L, Op P W f.1 f.2.1 f.2.2) (hlen : fs.size = L.length)
    (hfs : ∀ (i : Nat) f, L[i]? = some f → ∃ g : Field, fs[i]? = some g ∧ g.type = f.1 ∧ g.offset = fieldsAt (L.take i) ∧ P.cellsOf f.1 = f.2.1) (hc : P.cellsOf t = fieldsAt L) : Op P W t (fieldsAt L) (Parts (L.map (·.2))) := ⟨fun h => by
  obtain ⟨xs, n, rfl, rfl, hcl, hxl, hx⟩ := DataW.trod_struct ht h
  have := parts_go L 0 hL (by rw [hcl, hc]; omega) fun i f hi => by
    obtain ⟨g, h1, h2, h3, h4⟩ := hfs i f hi
    have h5 := hx i g h1
    rw [h2, h3, h4] at h5
    have hil : i < xs.length := by rw [hxl, hlen]; exact (List.getElem?_eq_some_iff.1 hi).1
    rw [List.getElem?_eq_getElem hil] at h5
    exact ⟨_, by rw [Nat.zero_add]; exact h5⟩
  simpa using this⟩
theorem sum_rep (k m : Nat) : (List.replicate k m).sum = k * m := by
  induction k with
  | zero => simp
  | succ k ih => rw [List.replicate_succ, List.sum_cons, ih, Nat.succ_mul]; omega
theorem op_array {t e : TypeId} {n m : Nat} {S : List PV → Prop} (ht : P.underlying t = some (.array n e)) (he : Op P W e m S) (hm : P.cellsOf e = m) (hc : P.cellsOf t = n * m) : Op P W t (n * m) (Parts (List.replicate n (m, S))) := ⟨fun h => by
  obtain ⟨xs, f, rfl, rfl, hcl, hxl, hx⟩ := DataW.trod_array ht h
  have hfa : ∀ k, fieldsAt (List.replicate k (e, m, S)) = k * m := fun k => by simp only [fieldsAt, List.map_replicate]; exact sum_rep k m
  have := parts_go (W := W) (List.replicate n (e, m, S)) 0 (fun g hg => by rw [List.eq_of_mem_replicate hg]; exact he) (by rw [hcl, hc, hfa]; omega) fun i g hi => by
    have hil : i < n := by have := (List.getElem?_eq_some_iff.1 hi).1; simpa using this
    have hg : g = (e, m, S) := List.eq_of_mem_replicate (List.mem_of_getElem? hi)
    subst hg
    have h5 := hx i hil
    rw [List.getElem?_eq_getElem (by omega), hm] at h5
    rw [List.take_replicate, hfa, Nat.min_eq_left (by omega), Nat.zero_add]
    exact ⟨_, h5⟩
  rw [hfa] at this
  simpa [List.map_replicate] using this⟩
/-- elements at a place in a row -/
theorem cells_at {a : Addr} {n : Nat} {cs : List Value} (h : W.cells? 0 a n = some cs) (hn : 0 < n) : a.spot = none ∧ ∃ c e fz, W.heap[a.block]? = some (.cells c e fz) ∧ a.off + n ≤ c.size ∧ cs.length = n ∧ ∀ j, j < n → cs[j]? = c[a.off + j]? := by
  simp only [World.cells?, Nat.zero_le, if_true] at h
  have hl := mapM_some_length h
  simp only [List.length_range] at hl
  have hg : ∀ j, j < n → W.cell? (a.add j) = cs[j]? := fun j hj => mapM_some_get h j j (by simp [hj])
  have h0 := hg 0 hn
  rw [List.getElem?_eq_getElem (by omega)] at h0
  simp only [Addr.add, if_true] at h0
  simp only [World.cell?] at h0
  split at h0
  · rename_i c e fz hb
    split at h0
    · cases h0
    · rename_i hs
      have hs : a.spot = none := by simpa using hs
      have hall : ∀ j, j < n → cs[j]? = c[a.off + j]? := fun j hj => by
        rw [← hg j hj]
        by_cases hj0 : j = 0
        · subst hj0; simp [Addr.add, World.cell?, hb, hs]
        · simp [Addr.add, hj0, World.cell?, hb]
      refine ⟨hs, c, e, fz, hb, ?_, hl, hall⟩
      have := hall (n - 1) (by omega)
      rw [List.getElem?_eq_getElem (by omega)] at this
      have := (Array.getElem?_eq_some_iff.1 this.symm).1
      omega
  · cases h0
theorem op_slice {t e : TypeId} {m : Nat} {S : List PV → Prop} (ht : P.underlying t = some (.slice e)) (he : Op P W e m S) (hm : P.cellsOf e = m) (h0 : 0 < m) {H : Type} {enc : TypeId × Value → H} {held : Bool} {fuel : Nat} {v : Value} {x : DataW H × List MemPlace}
    (h : DataW.trod enc P W 0 (fun _ => true) held fuel t [v] = some x) :
    ∃ els, (∀ el ∈ els, S el ∧ el.length = m) ∧ els.length ≤ 9223372036854775807 ∧ RP (mirF W) (.fz m els) (cvV W v) := by
  rcases DataW.trod_slice ht h with ⟨hv, _⟩ | ⟨a, len, cap, elems, rest, n, rfl, hv, _, _, hle, hmax, hel, hget, hspare, _⟩
  · cases hv
    exact ⟨[], by simp, by simp, .fz0 _⟩
  · cases hv
    have hmax' : cap ≤ 9223372036854775807 := hmax
    rw [hm] at hget
    by_cases hc0 : cap = 0
    · subst hc0
      obtain rfl : len = 0 := by omega
      exact ⟨[], by simp, by simp, .fz1 _⟩
    · -- the row
      have hone : ∃ i cs, W.cells? 0 (a.add (i * m)) m = some cs := by
        by_cases hl0 : len = 0
        · obtain ⟨hrl, hr⟩ := hspare rfl
          have := hr 0 (by omega)
          rw [List.getElem?_eq_getElem (by omega)] at this
          obtain ⟨cs, h1, _⟩ := Option.bind_eq_some_iff.1 this
          rw [hm] at h1
          exact ⟨_, cs, h1⟩
        · have := hget 0 (by omega)
          rw [List.getElem?_eq_getElem (by omega)] at this
          obtain ⟨cs, h1, _⟩ := Option.bind_eq_some_iff.1 this
          exact ⟨_, cs, h1⟩
      obtain ⟨i0, cs0, h1⟩ := hone
      obtain ⟨hs1, c, e', fz, hb, _⟩ := cells_at h1 h0
      have hblk : ∀ i, (a.add i).block = a.block := fun i => by unfold Addr.add; split <;> rfl
      rw [hblk] at hb
      have hoff : ∀ i, (a.add i).off = a.off + i := fun i => by unfold Addr.add; split <;> simp_all
      -- each element
      have hev : ∀ i, i < len → ∃ ps, P2 (RP (mirF W)) ps ((((c.toList.map (cvV W)).drop (a.off + i * m)).take m)) ∧ S ps ∧ ps.length = m ∧ a.off + i * m + m ≤ c.size := fun i hi => by
        have := hget i hi
        rw [List.getElem?_eq_getElem (by omega)] at this
        obtain ⟨cs, h2, h3⟩ := Option.bind_eq_some_iff.1 this
        obtain ⟨_, c', e2, fz2, hb2, hsz, hcl, hcg⟩ := cells_at h2 h0
        rw [hblk, hb] at hb2
        cases hb2
        rw [hoff] at hsz hcg
        obtain ⟨ps, p1, p2, p3⟩ := he.go h3
        refine ⟨ps, ?_, p2, p3, hsz⟩
        have : (((c.toList.map (cvV W)).drop (a.off + i * m)).take m) = cs.map (cvV W) := by
          apply List.ext_getElem?
          intro j
          rw [List.getElem?_take]
          split
          · rename_i hj
            rw [List.getElem?_drop, List.getElem?_map, List.getElem?_map, hcg j hj]
            simp
          · rename_i hj
            rw [List.getElem?_eq_none (by simp; omega)]
        rw [this]
        exact p1
      -- a place without a spot
      have hspot : a.spot = none := by
        by_cases hl0 : len = 0
        · obtain ⟨hrl, hr⟩ := hspare rfl
          have := hr 0 (by omega)
          rw [List.getElem?_eq_getElem (by omega)] at this
          obtain ⟨cs, h2, _⟩ := Option.bind_eq_some_iff.1 this
          rw [hm, hl0] at h2
          exact (cells_at (a := a) (by simpa [Addr.add] using h2) h0).1
        · have := hget 0 (by omega)
          rw [List.getElem?_eq_getElem (by omega)] at this
          obtain ⟨cs, h2, _⟩ := Option.bind_eq_some_iff.1 this
          exact (cells_at (a := a) (by simpa [Addr.add] using h2) h0).1
      have hoffc : a.off ≤ c.size := by
        by_cases hl0 : len = 0
        · obtain ⟨hrl, hr⟩ := hspare rfl
          have := hr 0 (by omega)
          rw [List.getElem?_eq_getElem (by omega)] at this
          obtain ⟨cs, h2, _⟩ := Option.bind_eq_some_iff.1 this
          rw [hm] at h2
          obtain ⟨_, c', e2, fz2, hb2, hsz, _⟩ := cells_at h2 h0
          rw [hblk, hb] at hb2
          cases hb2
          rw [hoff] at hsz
          omega
        · obtain ⟨_, _, _, _, h⟩ := hev 0 (by omega)
          omega
      obtain ⟨els, hels, hlen⟩ : ∃ els : List (List PV), (∀ i el, els[i]? = some el → P2 (RP (mirF W)) el ((((c.toList.map (cvV W)).drop (a.off + i * m)).take m)) ∧ S el ∧ el.length = m) ∧ els.length = len := by
        have : ∀ k, k ≤ len → ∃ els : List (List PV), (∀ i el, els[i]? = some el → P2 (RP (mirF W)) el ((((c.toList.map (cvV W)).drop (a.off + i * m)).take m)) ∧ S el ∧ el.length = m) ∧ els.length = k := fun k => by
          induction k with
          | zero => intro _; exact ⟨[], fun i el h => by simp at h, rfl⟩
          | succ k ih =>
            intro hk
            obtain ⟨els, e1, e2⟩ := ih (by omega)
            obtain ⟨ps, p1, p2, p3, _⟩ := hev k (by omega)
            refine ⟨els ++ [ps], fun i el hi => ?_, by simp [e2]⟩
            by_cases hik : i < els.length
            · rw [List.getElem?_append_left hik] at hi; exact e1 i el hi
            · rw [List.getElem?_append_right (by omega)] at hi
              have : i = k := by
                have := (List.getElem?_eq_some_iff.1 hi).1
                simp at this; omega
              subst this
              rw [e2, Nat.sub_self] at hi
              cases hi
              exact ⟨p1, p2, p3⟩
        exact this len (Nat.le_refl _)
      have hfit : a.off + len * m ≤ c.size := by
        by_cases hl0 : len = 0
        · rw [hl0]; omega
        · obtain ⟨_, _, _, _, h⟩ := hev (len - 1) (by omega)
          have : (len - 1) * m + m = len * m := by rw [← Nat.succ_mul]; congr 1; omega
          omega
      refine ⟨els, fun el hel' => ?_, by omega, ?_⟩
      · obtain ⟨i, hi⟩ := List.mem_iff_getElem?.1 hel'
        exact (hels i el hi).2
      · obtain ⟨b, o, s⟩ := a
        simp only at hspot hb hfit hels
        subst hspot
        have hcv : cvV W (.slice (some ⟨b, o, none⟩) len cap) = .sl b o len cap 0 := by simp [cvV, hb, hle, hc0]
        rw [hcv]
        refine .fz (row := c.toList.map (cvV W)) (by simp only [mirF, hb]) h0 hlen hle (.inl rfl) (by simpa using hfit) (fun j el h => (hels j el h).2.2) (fun j el t x y h1 h2 h3 => ?_)
        have hp := (hels j el h1).1
        have htm : t < m := by have := (List.getElem?_eq_some_iff.1 h2).1; rw [(hels j el h1).2.2] at this; exact this
        refine hp.2 t x y h2 ?_
        rw [List.getElem?_take, if_pos htm, List.getElem?_drop]
        exact h3
/-- a list within something else -/
def isSl (m : Nat) (S : List PV → Prop) (ps : List PV) : Prop := ∃ els, (∀ el ∈ els, S el ∧ el.length = m) ∧ els.length ≤ 9223372036854775807 ∧ ps = [.fz m els]
theorem op_list {t e : TypeId} {m : Nat} {S : List PV → Prop} (ht : P.underlying t = some (.slice e)) (he : Op P W e m S) (hm : P.cellsOf e = m) (h0 : 0 < m) : Op P W t 1 (isSl m S) := ⟨fun {H enc held fuel cs x} h => by
  have hv : ∃ v, cs = [v] := by
    rcases DataW.trod_slice ht h with ⟨hv, _⟩ | ⟨a, len, cap, elems, rest, n, rfl, hv, _⟩
    · exact ⟨_, hv⟩
    · exact ⟨_, hv⟩
  obtain ⟨v, rfl⟩ := hv
  obtain ⟨els, a, b, c⟩ := op_slice ht he hm h0 h
  exact ⟨[.fz m els], .one c, ⟨els, a, b, rfl⟩, rfl⟩⟩
/-- one cell that is read as of a type of one cell -/
theorem op_cell {t : TypeId} {S : List PV → Prop} (ho : Op P W t 1 S) {H : Type} {enc : TypeId × Value → H} {held : Bool} {fuel : Nat} {v : Value} {x : DataW H × List MemPlace} (h : DataW.trod enc P W 0 (fun _ => true) held fuel t [v] = some x) :
    ∃ p, S [p] ∧ RP (mirF W) p (cvV W v) := by
  obtain ⟨ps, h1, h2, h3⟩ := ho.go h
  match ps, h3 with
  | [p], _ => exact ⟨p, h2, h1.2 0 p (cvV W v) rfl rfl⟩
/-- elements of a form are the cells of things -/
theorem els_map {α : Type} {f : α → List PV} {S : List PV → Prop} (hS : ∀ ps, S ps → ∃ x, ps = f x) : ∀ (els : List (List PV)), (∀ el ∈ els, S el) → ∃ l : List α, els = l.map f
  | [], _ => ⟨[], rfl⟩
  | el :: els, h => by
    obtain ⟨x, rfl⟩ := hS el (h el (.head _))
    obtain ⟨l, rfl⟩ := els_map hS els fun e he => h e (.tail _ he)
    exact ⟨x :: l, rfl⟩
end
/-- what a law comes to in the model, over the second machine -/
theorem law_calls2 {P : Program} {lk : Lk} {T : AT} (hT : TOk P lk T) (hmix : P.follows .mixedOrders = true) {f : Nat} {g : FuncId} (hg : lk f = some g) {args : List SV} (hr : Ret2 T 0 f args [] fun v _ => v = .b true) {W : World} {xs : Array Value} {cargs : List AV}
    (hc : P2 (RS (mirW W) 0) args cargs) (hx : F2 (VE lk (mirρ W)) cargs xs.toList) : Calls P g xs W fun e W' => e = .returned (.bool true) ∧ SameOld W W' ∧ W'.os = W.os ∧ W'.output = W.output := by
  obtain ⟨n, cv, ch', w', v, h', h1, rfl, h3, h4, h5⟩ := hr.run (mirW W) cargs (mirH W) mir_rh hc
  cases h4 with | p h4 => cases h4 with | b =>
  exact law_calls hT hmix hg ⟨n, _, _, h1, rfl⟩ mir_rel hx mir_free mir_ro
end Go.Proofs.Ytadbipeachcekaa.Ab
/- The frame of a law, third part: arguments. -/
namespace Go.Proofs.Ytadbipeachcekaa.Ab
open Go Go.ChangeShapes Go.RowKit
set_option linter.unusedVariables false
section
variable {P : Program} {W : World} {lk : Lk} {r : Reach} {base : Nat} {t e : TypeId} {v : Value}
/-- an argument, as the machines have it -/
structure Arg (W : World) (lk : Lk) (s : SV) (v : Value) : Prop where
  ok : ∃ a, RS (mirW W) 0 s a ∧ VE lk (mirρ W) a v
theorem arg_cell {p : PV} (h : RP (mirF W) p (cvV W v)) : Arg W lk (.p p) v :=
  ⟨cvV W v, .p h, (cvV_vc v (fun e => by have := h.ne_un; rw [e] at this; cases this)).e⟩
theorem arg_agg {ps : List PV} {cs : Array Value} (h : P2 (RP (mirF W)) ps (cs.toList.map (cvV W))) : Arg W lk (.agg (ps.map .p)) (.agg cs) := by
  refine ⟨.agg (cs.toList.map (cvV W)), ?_, ?_⟩
  · have : P2 (RS (mirW W) 0) (ps.map .p) (cs.toList.map (cvV W)) := P2.map (h.mono fun _ _ h => .p h)
    exact .agg this.1 this.2
  · refine .of (.one (.agg ?_))
    refine F2.of_get (by simp) fun j x y hx hy => ?_
    rw [List.getElem?_map, hy] at hx
    cases hx
    refine cvV_vc y fun hun => ?_
    have hj : j < ps.length := by rw [h.1]; simpa using (List.getElem?_eq_some_iff.1 hy).1
    have := h.2 j ps[j] (cvV W y) (List.getElem?_eq_getElem hj) (by rw [List.getElem?_map, hy]; rfl)
    have := this.ne_un
    rw [hun] at this; cases this
theorem args_nil : ∃ cargs, P2 (RS (mirW W) 0) [] cargs ∧ F2 (VE lk (mirρ W)) cargs [] := ⟨[], .nil, trivial⟩
theorem args_cons {s : SV} {ss : List SV} {vs : List Value} (h : Arg W lk s v) (h' : ∃ cargs, P2 (RS (mirW W) 0) ss cargs ∧ F2 (VE lk (mirρ W)) cargs vs) : ∃ cargs, P2 (RS (mirW W) 0) (s :: ss) cargs ∧ F2 (VE lk (mirρ W)) cargs (v :: vs) := by
  obtain ⟨a, h1, h2⟩ := h.ok
  obtain ⟨cs, h3, h4⟩ := h'
  exact ⟨a :: cs, .cons h1 h3, h2, h4⟩
/-- a slice at the top -/
theorem top_slice (ht : P.underlying t = some (.slice e)) (hok : Value.okWide P W r base t v) : v.cells.toList = [v] ∧ ∀ a len, v = .slice (some a) len 0 → a.spot = none ∧ ∃ c e fz, W.heap[a.block]? = some (.cells c e fz) := by
  unfold Value.okWide at hok
  rw [ht] at hok
  simp only [Cell.okWide, ht] at hok
  refine ⟨?_, fun a len hv => ?_⟩
  · cases v <;> simp [Cell.ok, ht] at hok <;> rfl
  · subst hv
    simp only [Cell.ok, ht, World.has] at hok
    obtain ⟨_, _, h1, h2, row, cells, h3, _⟩ := hok
    refine ⟨h2, ?_⟩
    unfold World.shape? at h3
    split at h3
    · rename_i c e fz hb; exact ⟨c, e, fz, hb⟩
    · cases h3
theorem top_int {k : IntKind} (ht : P.underlying t = some (.int k)) (hok : Value.okWide P W r base t v) : v.cells.toList = [v] := by
  unfold Value.okWide at hok
  rw [ht] at hok
  simp only [Cell.okWide, ht] at hok
  cases v <;> simp [Cell.ok, ht] at hok <;> rfl
theorem top_string (ht : P.underlying t = some .string) (hok : Value.okWide P W r base t v) : v.cells.toList = [v] := by
  unfold Value.okWide at hok
  rw [ht] at hok
  simp only [Cell.okWide, ht] at hok
  cases v <;> simp [Cell.ok, ht] at hok <;> rfl
theorem top_struct {fs : Array Field} (ht : P.underlying t = some (.struct fs)) (hok : Value.okWide P W r base t v) : ∃ cs, v = .agg cs := by
  unfold Value.okWide at hok
  rw [ht] at hok
  obtain ⟨cs, h, _⟩ := hok
  exact ⟨cs, h⟩
theorem top_array {n : Nat} (ht : P.underlying t = some (.array n e)) (hok : Value.okWide P W r base t v) : ∃ cs, v = .agg cs := by
  unfold Value.okWide at hok
  rw [ht] at hok
  obtain ⟨cs, h, _⟩ := hok
  exact ⟨cs, h⟩
section
variable {H : Type} {enc : TypeId × Value → H} {d : DataW H} {p : List MemPlace} {S : List PV → Prop} {m : Nat}
theorem arg_slice (ht : P.underlying t = some (.slice e)) (he : Op P W e m S) (hm : P.cellsOf e = m) (h0 : 0 < m) (hok : Value.okWide P W r base t v) (h : DataW.Trod enc P W 0 (fun _ => true) true t v d p) :
    ∃ els, (∀ el ∈ els, S el ∧ el.length = m) ∧ els.length ≤ 9223372036854775807 ∧ Arg W lk (.fz m els) v := by
  obtain ⟨n, h⟩ := h
  obtain ⟨h1, h2⟩ := top_slice ht hok
  rw [h1] at h
  obtain ⟨els, a, b, c⟩ := op_slice ht he hm h0 h
  exact ⟨els, a, b, arg_cell c⟩
theorem arg_one (ho : Op P W t 1 S) (hc : v.cells.toList = [v]) (h : DataW.Trod enc P W 0 (fun _ => true) true t v d p) : ∃ q, S [q] ∧ Arg W lk (.p q) v := by
  obtain ⟨n, h⟩ := h
  rw [hc] at h
  obtain ⟨q, a, b⟩ := op_cell ho h
  exact ⟨q, a, arg_cell b⟩
theorem arg_many (ho : Op P W t m S) (hc : ∃ cs, v = .agg cs) (h : DataW.Trod enc P W 0 (fun _ => true) true t v d p) : ∃ qs, S qs ∧ Arg W lk (.agg (qs.map .p)) v := by
  obtain ⟨cs, rfl⟩ := hc
  obtain ⟨n, h⟩ := h
  obtain ⟨ps, a, b, c⟩ := ho.go h
  exact ⟨ps, b, arg_agg a⟩
end
end
end Go.Proofs.Ytadbipeachcekaa.Ab
/- The frame of a law, fourth part: types looked over by the kernel. -/
namespace Go.Proofs.Ytadbipeachcekaa.Ab
open Go Go.ChangeShapes Go.RowKit
set_option linter.unusedVariables false
/-- the form of a type's values: numbers, lists, parts one behind the other -/
inductive TS where
  | int (k : IntKind)
  | bool
  | str
  | list (e : TS)
  | nil
  | cons (a r : TS)
def TS.size : TS → Nat
  | .nil => 0
  | .cons a r => a.size + r.size
  | _ => 1
def TS.S : TS → List PV → Prop
  | .int k, ps => ∃ n, k.min ≤ n ∧ n ≤ k.max ∧ ps = [.i k n]
  | .bool, ps => ∃ b, ps = [.b b]
  | .str, ps => ∃ l, l.length ≤ 9223372036854775807 ∧ ps = [.s l]
  | .list e, ps => ∃ els, (∀ el ∈ els, e.S el) ∧ els.length ≤ 9223372036854775807 ∧ ps = [.fz e.size els]
  | .nil, ps => ps = []
  | .cons a r, ps => ∃ x y, ps = x ++ y ∧ a.S x ∧ x.length = a.size ∧ r.S y
def isInt (k : IntKind) : Option TypeDesc → Bool
  | some (.int k') => decide (k' = k)
  | _ => false
theorem isInt_ok {k : IntKind} {o : Option TypeDesc} (h : isInt k o = true) : o = some (.int k) := by
  unfold isInt at h
  split at h
  · have := of_decide_eq_true h; subst this; rfl
  · cases h
def TS.same : TS → TS → Bool
  | .int k, .int k' => decide (k = k')
  | .bool, .bool => true
  | .str, .str => true
  | .list a, .list b => TS.same a b
  | .nil, .nil => true
  | .cons a r, .cons a' r' => TS.same a a' && TS.same r r'
  | _, _ => false
theorem TS.same_eq : ∀ {a b : TS}, TS.same a b = true → a = b
  | .int k, b, h => by cases b <;> simp [TS.same] at h; rw [h]
  | .bool, b, h => by cases b <;> simp [TS.same] at h; rfl
  | .str, b, h => by cases b <;> simp [TS.same] at h; rfl
  | .list a, b, h => by
    cases b <;> simp [TS.same] at h
    rw [TS.same_eq h]
  | .nil, b, h => by cases b <;> simp [TS.same] at h; rfl
  | .cons a r, b, h => by
    cases b <;> simp [TS.same] at h
    rw [TS.same_eq h.1, TS.same_eq h.2]
def sameOk : Nat → TS → TS → Bool
  | 0, _, .nil => true
  | m + 1, a, .cons b r => TS.same a b && sameOk m a r
  | _, _, _ => false
def isSlice : Option TypeDesc → Option TypeId
  | some (.slice e) => some e
  | _ => none
theorem isSlice_ok {e : TypeId} {o : Option TypeDesc} (h : isSlice o = some e) : o = some (.slice e) := by
  unfold isSlice at h
  split at h
  · cases h; rfl
  · cases h
def isBool : Option TypeDesc → Bool
  | some .bool => true
  | _ => false
def isStr : Option TypeDesc → Bool
  | some .string => true
  | _ => false
theorem isBool_ok {o : Option TypeDesc} (h : isBool o = true) : o = some .bool := by
  unfold isBool at h
  split at h
  · rfl
  · cases h
theorem isStr_ok {o : Option TypeDesc} (h : isStr o = true) : o = some .string := by
  unfold isStr at h
  split at h
  · rfl
  · cases h
/-- a struct's fields, or an array's length and elements -/
inductive Agg where
  | st (fs : List Field)
  | ar (n : Nat) (e : TypeId)
  | no
def aggOf : Option TypeDesc → Agg
  | some (.struct fs) => .st fs.toList
  | some (.array n e) => .ar n e
  | _ => .no
mutual
def opOk (P : Program) : Nat → TypeId → TS → Bool
  | 0, _, _ => false
  | n + 1, t, s =>
    match s with
    | .int k => isInt k (P.underlying t)
    | .bool => isBool (P.underlying t)
    | .str => isStr (P.underlying t)
    | .list e => (match isSlice (P.underlying t) with | some et => opOk P n et e && Nat.beq (P.cellsOf et) e.size && Nat.blt 0 e.size | none => false)
    | s =>
      match aggOf (P.underlying t) with
      | .st fs => fieldsOk P n fs 0 s && Nat.beq (P.cellsOf t) s.size
      | .ar m et => (match s with | .cons a r => opOk P n et a && Nat.beq (P.cellsOf et) a.size && Nat.beq (P.cellsOf t) (m * a.size) && sameOk m a (.cons a r) | _ => false)
      | .no => false
termination_by structural n => n
def fieldsOk (P : Program) : Nat → List Field → Nat → TS → Bool
  | 0, _, _, _ => false
  | n + 1, fs, o, s =>
    match fs, s with
    | [], .nil => true
    | f :: fs, .cons a r => Nat.beq f.offset o && Nat.beq (P.cellsOf f.type) a.size && opOk P n f.type a && fieldsOk P n fs (o + a.size) r
    | _, _ => false
termination_by structural n => n
end
section
variable {P : Program} {W : World}
/-- parts, and their types -/
def toL : List Field → TS → List (TypeId × Nat × (List PV → Prop))
  | f :: fs, .cons a r => (f.type, a.size, a.S) :: toL fs r
  | _, _ => []
theorem parts_S : ∀ (fs : List Field) (o n : Nat) (s : TS) (ps : List PV), fieldsOk P n fs o s = true → Parts ((toL fs s).map (·.2)) ps → s.S ps
  | fs, o, 0, s, ps, h, hp => by simp [fieldsOk] at h
  | [], o, n + 1, s, ps, h, hp => by
    cases s <;> simp [fieldsOk] at h
    exact hp
  | f :: fs, o, n + 1, s, ps, h, hp => by
    cases s with
    | cons a r =>
      simp only [fieldsOk, Bool.and_eq_true] at h
      obtain ⟨x, y, h1, h2, h3, h4⟩ := hp
      exact ⟨x, y, h1, h2, h3, parts_S fs _ n r y h.2 h4⟩
    | _ => simp [fieldsOk] at h
theorem toL_size : ∀ (fs : List Field) (o n : Nat) (s : TS), fieldsOk P n fs o s = true → fieldsAt (toL fs s) = s.size ∧ (toL fs s).length = fs.length
  | fs, o, 0, s, h => by simp [fieldsOk] at h
  | [], o, n + 1, s, h => by
    cases s <;> simp [fieldsOk] at h
    exact ⟨rfl, rfl⟩
  | f :: fs, o, n + 1, s, h => by
    cases s with
    | cons a r =>
      simp only [fieldsOk, Bool.and_eq_true] at h
      obtain ⟨h1, h2⟩ := toL_size fs _ n r h.2
      simp only [fieldsAt] at h1
      exact ⟨by simp [toL, fieldsAt, TS.size, h1], by simp [toL, h2]⟩
    | _ => simp [fieldsOk] at h
theorem toL_get : ∀ (fs : List Field) (o n : Nat) (s : TS), fieldsOk P n fs o s = true → ∀ (i : Nat) f, (toL fs s)[i]? = some f → ∃ g : Field, fs[i]? = some g ∧ g.type = f.1 ∧ g.offset = o + fieldsAt ((toL fs s).take i) ∧ P.cellsOf f.1 = f.2.1 ∧ ∃ a m, m < n ∧ f.2 = (TS.size a, TS.S a) ∧ opOk P m f.1 a = true
  | fs, o, 0, s, h => by simp [fieldsOk] at h
  | [], o, n + 1, s, h => by intro i f hi; simp [toL] at hi
  | f :: fs, o, n + 1, s, h => by
    cases s with
    | cons a r =>
      simp only [fieldsOk, Bool.and_eq_true] at h
      obtain ⟨⟨⟨h1, h2⟩, h3⟩, h4⟩ := h
      intro i g hi
      cases i with
      | zero =>
        simp only [toL, List.getElem?_cons_zero, Option.some.injEq] at hi
        subst hi
        exact ⟨f, rfl, rfl, by simp [fieldsAt, Nat.eq_of_beq_eq_true h1], Nat.eq_of_beq_eq_true h2, a, n, Nat.lt_succ_self _, rfl, h3⟩
      | succ i =>
        simp only [toL, List.getElem?_cons_succ] at hi
        obtain ⟨q, q1, q2, q3, q4, b, m, q5, q6, q7⟩ := toL_get fs _ n r h4 i g hi
        exact ⟨q, by simpa using q1, q2, by rw [q3]; simp [toL, fieldsAt]; omega, q4, b, m, by omega, q6, q7⟩
    | _ => simp [fieldsOk] at h
theorem same_rep : ∀ (m : Nat) (a s : TS), sameOk m a s = true → s.size = m * a.size ∧ ∀ ps, Parts (List.replicate m (a.size, a.S)) ps → s.S ps
  | 0, a, s, h => by
    cases s <;> simp [sameOk] at h
    exact ⟨by simp [TS.size], fun ps hp => hp⟩
  | m + 1, a, s, h => by
    cases s with
    | cons b r =>
      simp only [sameOk, Bool.and_eq_true] at h
      obtain rfl := TS.same_eq h.1
      obtain ⟨h1, h2⟩ := same_rep m a r h.2
      refine ⟨by rw [TS.size, h1, Nat.succ_mul]; omega, fun ps hp => ?_⟩
      obtain ⟨x, y, q1, q2, q3, q4⟩ := hp
      exact ⟨x, y, q1, q2, q3, h2 y q4⟩
    | _ => simp [sameOk] at h
theorem Op.imp {t : TypeId} {n : Nat} {S S' : List PV → Prop} (h : Op P W t n S) (hS : ∀ ps, S ps → S' ps) : Op P W t n S' := ⟨fun hx => by
  obtain ⟨ps, h1, h2, h3⟩ := h.go hx
  exact ⟨ps, h1, hS _ h2, h3⟩⟩
/-- a type that is of a form is read as one -/
theorem op_of : ∀ (n : Nat) {t : TypeId} {s : TS}, opOk P n t s = true → Op P W t s.size s.S := by
  intro n
  induction n using Nat.strongRecOn with
  | _ n ih =>
  intro t s h
  cases n with
  | zero => simp [opOk] at h
  | succ n =>
    have agg : ∀ s : TS, opOk P (n + 1) t s = (match aggOf (P.underlying t) with
      | .st fs => fieldsOk P n fs 0 s && Nat.beq (P.cellsOf t) s.size
      | .ar m et => (match s with | .cons a r => opOk P n et a && Nat.beq (P.cellsOf et) a.size && Nat.beq (P.cellsOf t) (m * a.size) && sameOk m a (.cons a r) | _ => false)
      | .no => false) → (s = .nil ∨ ∃ a r, s = .cons a r) → opOk P (n + 1) t s = true → Op P W t s.size s.S := by
      intro s he hs h
      rw [he] at h
      split at h
      · rename_i fs ha
        have hu : ∃ fa : Array Field, P.underlying t = some (.struct fa) ∧ fa.toList = fs := by
          unfold aggOf at ha
          split at ha
          · cases ha; exact ⟨_, by assumption, rfl⟩
          · cases ha
          · cases ha
        obtain ⟨fa, hu, rfl⟩ := hu
        simp only [Bool.and_eq_true] at h
        obtain ⟨h1, h2⟩ := h
        obtain ⟨s1, s2⟩ := toL_size fa.toList 0 n s h1
        have hop := op_struct (W := W) hu (toL fa.toList s) (fun f hf => by
          obtain ⟨i, hi⟩ := List.mem_iff_getElem?.1 hf
          obtain ⟨g, _, _, _, _, a, m, q1, q2, q3⟩ := toL_get fa.toList 0 n s h1 i f hi
          have := ih m (by omega) q3
          rw [q2]; exact this) (by rw [s2]; simp) (fun i f hi => by
          obtain ⟨g, q1, q2, q3, q4, _⟩ := toL_get fa.toList 0 n s h1 i f hi
          exact ⟨g, by simpa using q1, q2, by simpa using q3, q4⟩) (by rw [s1]; exact Nat.eq_of_beq_eq_true h2)
        rw [s1] at hop
        exact hop.imp fun ps hp => parts_S fa.toList 0 n s ps h1 hp
      · rename_i m et ha
        have hu : P.underlying t = some (.array m et) := by
          unfold aggOf at ha
          split at ha
          · cases ha
          · cases ha; assumption
          · cases ha
        split at h
        · rename_i a r
          simp only [Bool.and_eq_true] at h
          obtain ⟨⟨⟨h1, h2⟩, h3⟩, h4⟩ := h
          obtain ⟨s1, s2⟩ := same_rep m a _ h4
          have hop := op_array (W := W) hu (ih n (Nat.lt_succ_self n) h1) (Nat.eq_of_beq_eq_true h2) (Nat.eq_of_beq_eq_true h3)
          rw [s1]
          exact hop.imp s2
        · cases h
      · cases h
    cases s with
    | int k => exact op_int (isInt_ok h)
    | bool => exact op_bool (isBool_ok h)
    | str => exact op_string (isStr_ok h)
    | list e =>
      simp only [opOk] at h
      split at h
      · rename_i et hs
        simp only [Bool.and_eq_true] at h
        obtain ⟨⟨h1, h2⟩, h3⟩ := h
        have := op_list (isSlice_ok hs) (ih n (Nat.lt_succ_self n) h1) (Nat.eq_of_beq_eq_true h2) (by simpa [Nat.blt_eq] using h3)
        exact this.imp fun ps ⟨els, h1, h2, h3⟩ => ⟨els, fun el hel => (h1 el hel).1, h2, h3⟩
      · cases h
    | nil => exact agg .nil rfl (.inl rfl) h
    | cons a r => exact agg (.cons a r) rfl (.inr ⟨a, r, rfl⟩) h
end
/-- values of a form, as the second machine has them -/
def TS.sv (s : TS) (ps : List PV) : SV :=
  match s, ps with
  | .nil, ps => .agg (ps.map .p)
  | .cons _ _, ps => .agg (ps.map .p)
  | _, [q] => .p q
  | _, _ => .un
section
variable {P : Program} {W : World} {lk : Lk} {r : Reach} {base : Nat} {t : TypeId} {v : Value}
theorem top_bool (ht : P.underlying t = some .bool) (hok : Value.okWide P W r base t v) : v.cells.toList = [v] := by
  unfold Value.okWide at hok
  rw [ht] at hok
  simp only [Cell.okWide, ht] at hok
  cases v <;> simp [Cell.ok, ht] at hok <;> rfl
variable {H : Type} {enc : TypeId × Value → H} {d : DataW H} {p : List MemPlace}
/-- an argument of a form -/
theorem arg_of {n : Nat} {s : TS} (h : opOk P n t s = true) (hok : Value.okWide P W r base t v) (hd : DataW.Trod enc P W 0 (fun _ => true) true t v d p) : ∃ ps, s.S ps ∧ Arg W lk (s.sv ps) v := by
  have ho := op_of (W := W) n h
  have agg : (∃ cs, v = .agg cs) → ∃ ps, s.S ps ∧ Arg W lk (.agg (ps.map .p)) v := fun hc => arg_many ho hc hd
  have one : s.size = 1 → v.cells.toList = [v] → ∃ q, s.S [q] ∧ Arg W lk (.p q) v := fun h1 hc => by
    rw [h1] at ho
    exact arg_one ho hc hd
  have hagg : ∀ s : TS, (s = .nil ∨ ∃ a r, s = .cons a r) → opOk P n t s = true → ∃ cs, v = .agg cs := fun s hs h => by
    cases n with
    | zero => simp [opOk] at h
    | succ n =>
      have : ∃ A, aggOf (P.underlying t) = A ∧ A ≠ .no := by
        refine ⟨_, rfl, fun e => ?_⟩
        rcases hs with rfl | ⟨a, r, rfl⟩ <;> simp [opOk, e] at h
      obtain ⟨A, e, hA⟩ := this
      unfold aggOf at e
      split at e
      · exact top_struct (by assumption) hok
      · exact top_array (by assumption) hok
      · exact (hA e.symm).elim
  cases s with
  | nil => exact agg (hagg _ (.inl rfl) h)
  | cons a r => exact agg (hagg _ (.inr ⟨a, r, rfl⟩) h)
  | int k =>
    obtain ⟨q, h1, h2⟩ := one rfl (by cases n with | zero => simp [opOk] at h | succ n => exact top_int (isInt_ok h) hok)
    exact ⟨[q], h1, h2⟩
  | bool =>
    obtain ⟨q, h1, h2⟩ := one rfl (by cases n with | zero => simp [opOk] at h | succ n => exact top_bool (isBool_ok h) hok)
    exact ⟨[q], h1, h2⟩
  | str =>
    obtain ⟨q, h1, h2⟩ := one rfl (by cases n with | zero => simp [opOk] at h | succ n => exact top_string (isStr_ok h) hok)
    exact ⟨[q], h1, h2⟩
  | list e =>
    obtain ⟨q, h1, h2⟩ := one rfl (by
      cases n with
      | zero => simp [opOk] at h
      | succ n =>
        simp only [opOk] at h
        split at h
        · rename_i et hs
          exact (top_slice (isSlice_ok hs) hok).1
        · cases h)
    exact ⟨[q], h1, h2⟩
end
/-- lists of things -/
theorem of_list {α : Type} {f : α → List PV} {C : α → Prop} {e : TS} (hf : ∀ q, e.S q → ∃ x, C x ∧ q = f x) {ps : List PV} (h : (TS.list e).S ps) :
    ∃ l : List α, ((∀ x ∈ l, C x) ∧ l.length ≤ 9223372036854775807) ∧ ps = [.fz e.size (l.map f)] := by
  obtain ⟨els, h1, h2, rfl⟩ := h
  have : ∀ els : List (List PV), (∀ el ∈ els, e.S el) → ∃ l : List α, (∀ x ∈ l, C x) ∧ els = l.map f := fun els => by
    induction els with
    | nil => intro _; exact ⟨[], by simp, rfl⟩
    | cons q els ih =>
      intro hq
      obtain ⟨x, h3, rfl⟩ := hf q (hq q (.head _))
      obtain ⟨l, h4, rfl⟩ := ih fun q h => hq q (.tail _ h)
      exact ⟨x :: l, fun y hy => by
        rcases List.mem_cons.1 hy with rfl | hy
        · exact h3
        · exact h4 y hy, rfl⟩
  obtain ⟨l, h3, rfl⟩ := this els h1
  exact ⟨l, ⟨h3, by simpa using h2⟩, rfl⟩
def inK (k : IntKind) (n : Int) : Prop := k.min ≤ n ∧ n ≤ k.max
theorem of_int {k : IntKind} {ps : List PV} (h : (TS.int k).S ps) : ∃ n, inK k n ∧ ps = [.i k n] := by
  obtain ⟨n, h1, h2, rfl⟩ := h
  exact ⟨n, ⟨h1, h2⟩, rfl⟩
theorem of_bool {ps : List PV} (h : TS.bool.S ps) : ∃ b, True ∧ ps = [.b b] := by
  obtain ⟨b, rfl⟩ := h
  exact ⟨b, trivial, rfl⟩
theorem of_str {ps : List PV} (h : TS.str.S ps) : ∃ l : List UInt8, l.length ≤ 9223372036854775807 ∧ ps = [.s l] := by
  obtain ⟨b, h1, rfl⟩ := h
  exact ⟨b, h1, rfl⟩
theorem of_byte {ps : List PV} (h : (TS.int .u8).S ps) : ∃ c : UInt8, True ∧ ps = c8 c := by
  obtain ⟨n, h1, h2, rfl⟩ := h
  refine ⟨UInt8.ofInt n, trivial, ?_⟩
  have h1 : 0 ≤ n := h1
  have h2 : n ≤ 255 := h2
  have := wrap8 n
  simp only [c8]
  rw [← this]
  have : IntKind.u8.wrap n = n := by simp [IntKind.wrap, IntKind.bits, IntKind.signed]; omega
  rw [this]
end Go.Proofs.Ytadbipeachcekaa.Ab
