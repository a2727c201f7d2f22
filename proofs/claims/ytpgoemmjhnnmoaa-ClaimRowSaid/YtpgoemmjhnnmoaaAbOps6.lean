/- The operations, part six: lengths, conversions, least and greatest, functions, maps. -/
import Derived.Test.YtpgoemmjhnnmoaaAbOps5
import Derived.MapKept
import Derived.Lib.ConvBytes
import Derived.WideKeyRuns
namespace Go.Proofs.Ytpgoemmjhnnmoaa.Ab
open Go
open Go.Lib (bytesCells bytesWorld bytesWorld_at_old bytesWorld_at_new bytesWorld_size)
set_option linter.unusedVariables false
section
variable {P : Program} {lk : Lk} {ρ : Rho} {h : AH} {w : World}

theorem getMap {b : Nat} {es : Array MapEntry} {cl : Nat} (hb : w.heap[b]? = some (.map es cl)) : (getObj b).run P w = .ok (.map es cl) w := by simp [getObj, Sem.run, hb]
theorem setMap {b : Nat} {es : Array MapEntry} {cl : Nat} (o : Obj) (hb : w.heap[b]? = some (.map es cl)) : (setObj b o).run P w = .ok () { w with heap := w.heap.setIfInBounds b o } := by simp [setObj, Sem.run, hb]
/-! ### lengths -/
def lenK (P : Program) (ts : Array TypeId) (k : LK) : Bool :=
  match ts.toList with
  | t :: _ =>
    match k with
    | .st => (match P.underlying t with | some .string => true | _ => false)
    | .sl => (match P.underlying t with | some (.slice _) => true | _ => false)
    | .mp => (match P.underlying t with | some (.map _ _) => true | _ => false)
  | _ => false
theorem alen_sound (r : Rel lk ρ h w) {ts : Array TypeId} {ty : TypeId} {k : LK} {u v : AV} {a : Value} (ht : lenK P ts k = true) (hu : VE lk ρ u a) (hr : alen k u h = some v) :
    ∃ x, (Builtin.len_ ts ty #[a]).run P w = .ok x w ∧ VE lk ρ v x := by
  unfold lenK at ht
  split at ht
  · rename_i t tr hts
    have ht0 : ts[0]? = some t := by rw [← Array.getElem?_toList, hts]; rfl
    unfold alen at hr
    split at hr
    · simp only at ht
      split at ht
      · rename_i hd
        obtain ⟨y, hy, rfl⟩ := hu.s
        cases hr
        have : y.size = y.data.toList.length := by simp
        exact ⟨.int .i64 y.size, by simp [Builtin.len_, ht0, run_underlying hd, goInt], by rw [← hy, ← this]; exact (VC.i _ _).e⟩
      · cases ht
    · simp only at ht
      split at ht
      · rename_i hd
        obtain rfl := hu.nils
        cases hr
        exact ⟨_, by simp [Builtin.len_, ht0, run_underlying hd, goInt], (VC.i _ _).e⟩
      · cases ht
    · simp only at ht
      split at ht
      · rename_i hd
        obtain ⟨ad, rfl⟩ := hu.es
        cases hr
        exact ⟨_, by simp [Builtin.len_, ht0, run_underlying hd, goInt], (VC.i _ _).e⟩
      · cases ht
    · simp only at ht
      split at ht
      · rename_i hd
        obtain ⟨b, t', o, c', hid, g0, g1, g2, g3, g4, rfl⟩ := hu.sl
        cases hr
        exact ⟨_, by simp [Builtin.len_, ht0, run_underlying hd, goInt], (VC.i _ _).e⟩
      · cases ht
    · simp only at ht
      split at ht
      · rename_i hd
        obtain rfl := hu.nilm
        cases hr
        exact ⟨_, by simp [Builtin.len_, ht0, run_underlying hd, goInt], (VC.i _ _).e⟩
      · cases ht
    · simp only at ht
      split at ht
      · rename_i hd
        obtain ⟨b, t', hid, rfl⟩ := hu.mp
        split at hr
        · rename_i es cl hb
          cases hr
          obtain ⟨es', h1, h2⟩ := r.map hid hb
          have hl : es.length = es'.size := by simpa using h2.length
          exact ⟨.int .i64 es'.size, by simp [Builtin.len_, ht0, run_underlying hd, goInt, getMap h1], by rw [hl]; exact (VC.i _ _).e⟩
        · cases hr
      · cases ht
    · cases hr
  · cases ht

/-! ### conversions -/
theorem toInt_sound {s d : TypeId} {k k0 : IntKind} {n : Int} {a : Value} {q : TypeDesc} (hs : P.underlying s = some q) (hd : P.underlying d = some (.int k)) (hu : VE lk ρ (.i k0 n) a) :
    (convert s d a).run P w = .ok (.int k (k.wrap n)) w := by
  obtain rfl := hu.i
  simp [convert, run_underlying hs, run_underlying hd, Conv.intToInt]
theorem same_sound {s d : TypeId} {l : List UInt8} {a : Value} {q : TypeDesc} (hs : P.underlying s = some q) (hd : P.underlying d = some .string) (hu : VE lk ρ (.s l) a) : (convert s d a).run P w = .ok a w := by
  obtain ⟨y, hy, rfl⟩ := hu.s
  simp [convert, run_underlying hs, run_underlying hd]
theorem bytesOf_nums : ∀ {cs : List AV} {xs : List Value} {l : List UInt8}, F2 (VC lk ρ) cs xs → bytesOf cs = some l → ∃ ns : List Int, xs = ns.map (Value.int .u8) ∧ l = ns.map fun n => UInt8.ofNat n.toNat
  | [], [], l, _, h => by simp [bytesOf] at h; subst h; exact ⟨[], rfl, rfl⟩
  | c :: cs, x :: xs, l, hf, h => by
    cases c with
    | i k n =>
      cases k with
      | u8 =>
        simp only [bytesOf, Option.map_eq_some_iff] at h
        obtain ⟨l', h1, rfl⟩ := h
        obtain ⟨ns, rfl, rfl⟩ := bytesOf_nums hf.2 h1
        have : x = .int .u8 n := hf.1.e.i
        subst this
        exact ⟨n :: ns, rfl, rfl⟩
      | _ => simp [bytesOf] at h
    | _ => simp [bytesOf] at h
  | [], _ :: _, _, hf, _ => hf.elim
  | _ :: _, [], _, hf, _ => hf.elim
theorem foldl_push (ns : List Int) : ∀ (s : ByteArray), (ns.foldl (fun r n => r.push (UInt8.ofNat n.toNat)) s).data.toList = s.data.toList ++ ns.map fun n => UInt8.ofNat n.toNat := by
  induction ns with
  | nil => intro s; simp
  | cons n ns ih => intro s; rw [List.foldl_cons, ih]; simp [ByteArray.push]
theorem toStr_sound (r : Rel lk ρ h w) {s d e : TypeId} {u : AV} {a : Value} {n : Nat} {cs : List AV} {l : List UInt8} (hs : P.underlying s = some (.slice e)) (he : P.underlying e = some (.int .u8)) (hd : P.underlying d = some .string)
    (hu : VE lk ρ u a) (hsh : ashow 1 u h = some (n, cs)) (hb : bytesOf cs = some l) : ∃ y, (convert s d a).run P w = .ok y w ∧ VE lk ρ (.s l) y := by
  obtain ⟨hl, xs, hn, hxs, hlen⟩ := show_sound (P := P) r hu hsh
  obtain ⟨ns, rfl, rfl⟩ := bytesOf_nums hxs hb
  unfold ashow at hsh
  split at hsh
  · cases hsh
    obtain rfl := hu.nils
    have : ns = [] := by
      have := hxs.length
      simpa using this.symm
    subst this
    exact ⟨.string .empty, by rw [run_convert_bytes_string w s d e _ _ _ hs he hd]; simp [Conv.bytesToString], (VC.s [] .empty rfl).e⟩
  · cases hsh
    obtain ⟨ad, rfl⟩ := hu.es
    have : ns = [] := by
      have := hxs.length
      simpa using this.symm
    subst this
    exact ⟨.string .empty, by rw [run_convert_bytes_string w s d e _ _ _ hs he hd]; simp [Conv.bytesToString, loadCells, loadCellsFrom], (VC.s [] .empty rfl).e⟩
  · obtain ⟨b, t', o, c', hid, g0, g1, g2, g3, g4, rfl⟩ := hu.sl
    simp only [Option.map_eq_some_iff, Prod.mk.injEq] at hsh
    obtain ⟨q, hq, rfl, rfl⟩ := hsh
    simp only [Builtin.firstCells, Nat.mul_one] at hn
    refine ⟨_, by rw [run_convert_bytes_string w s d e _ _ _ hs he hd, run_bytesToString w _ _ _ ns hn], (VC.s _ _ ?_).e⟩
    rw [foldl_push]
    rfl
  · obtain ⟨y, hy, rfl⟩ := hu.s
    split at hsh
    · rename_i l0 _
      cases hsh
      refine ⟨.string y, by simp [convert, run_underlying hs, run_underlying hd], (VC.s _ _ ?_).e⟩
      simp only [Builtin.firstCells, Sem.run_pure] at hn
      have hy2 : y = ⟨l0.toArray⟩ := by cases y; simp at hy; simp [← hy]
      rw [hy2, ByteArray.extract_mk] at hn
      have h2 := congrArg (fun r => match r with | Result.ok x _ => x.toList | _ => []) hn
      simp only [List.drop_zero, Nat.sub_zero, List.take_length] at h2
      have h3 : l0.map (fun c => Value.int .u8 (c.toNat : Int)) = ns.map (Value.int .u8) := by simpa using h2
      have h4 : l0 = ns.map fun n => UInt8.ofNat n.toNat := by
        have := congrArg (List.map fun v => match v with | Value.int _ n => UInt8.ofNat n.toNat | _ => 0) h3
        simpa [Function.comp_def] using this
      rw [hy, h4]
    · cases hsh
  · cases hsh
theorem toBytes_sound (r : Rel lk ρ h w) (f : ρ h.next = none) {s d e : TypeId} {l : List UInt8} {a : Value} {q : TypeDesc} (hs : P.underlying s = some q) (hd : P.underlying d = some (.slice e)) (he : P.underlying e = some (.int .u8)) (hu : VE lk ρ (.s l) a) :
    ∃ y w' ρ', (convert s d a).run P w = .ok y w' ∧ VE lk ρ' (.sl h.next 0 l.length l.length 1) y ∧ Rel lk ρ' (h.alloc (.row (l.map fun c => .i .u8 c.toNat) false)) w' ∧ Stp ρ h w ρ' (h.alloc (.row (l.map fun c => .i .u8 c.toNat) false)) w' := by
  obtain ⟨y, hy, rfl⟩ := hu.s
  have hsz : y.size = l.length := by rw [← hy]; simp
  have hc := grownCap_ge w y.size 0 e
  have hcs : (bytesCells w e y).size = grownCap w y.size 0 e := by
    have : y.data.size = y.size := rfl
    simp only [bytesCells, Array.size_append, Array.size_map, Array.size_replicate]
    omega
  have hn := r.drew.allocRow f (cs := l.map fun c => .i .u8 c.toNat) (cur := bytesCells w e y) (ty := e) (fz := ((bytesCells w e y).size, (bytesCells w e y).size + 1)) (by simp; omega) (fun j hj => by simp; omega) (fun j x hx => by
    rw [List.getElem?_map, Option.map_eq_some_iff] at hx
    obtain ⟨c, hc1, rfl⟩ := hx
    refine ⟨.int .u8 c.toNat, ?_, VC.i _ _⟩
    have hd1 : y.data[j]? = some c := by rw [← Array.getElem?_toList, hy]; exact hc1
    have hlt2 : j < y.data.size := (Array.getElem?_eq_some_iff.1 hd1).1
    simp only [bytesCells]
    rw [Array.getElem?_append_left (by simpa using hlt2), Array.getElem?_map, hd1]
    rfl)
  have hw : bytesWorld w e y = w.drew.alloc (.cells (bytesCells w e y) e ((bytesCells w e y).size, (bytesCells w e y).size + 1)) := by
    have hh : (bytesWorld w e y).heap = (w.drew.alloc (.cells (bytesCells w e y) e ((bytesCells w e y).size, (bytesCells w e y).size + 1))).heap := by
      apply Array.ext_getElem?
      intro j
      rcases Nat.lt_trichotomy j w.heap.size with hj | hj | hj
      · rw [bytesWorld_at_old w e y j hj, heap_alloc_lt (w := w.drew) hj]
        rfl
      · subst hj
        rw [bytesWorld_at_new]
        exact (heap_alloc_new w.drew _).symm
      · rw [Array.getElem?_eq_none (by rw [bytesWorld_size]; omega), Array.getElem?_eq_none (by simp; omega)]
    have he : bytesWorld w e y = { w.drew with heap := (bytesWorld w e y).heap } := by
      simp only [bytesWorld, World.freeze]
      split
      · rfl
      · rfl
    rw [he, hh]
    rfl
  have hconv := Go.Lib.run_convert_string_bytes (P := P) w s d e y hs hd he
  rw [hw] at hconv
  refine ⟨_, _, _, hconv, ?_, hn.1, Stp.drew_then hn.2⟩
  rw [hsz] at *
  exact (VC.sl (Rho.add_same _ _ _ _) (Nat.le_refl _) hc (fun h0 => by omega) (.inl rfl) (fun _ => by omega)).e
theorem runeStr_sound {s d : TypeId} {k : IntKind} {n : Int} {a : Value} {q : TypeDesc} (hs : P.underlying s = some q) (hd : P.underlying d = some .string) (hb : 0 ≤ n ∧ n < 128) (hu : VE lk ρ (.i k n) a) :
    ∃ y, (convert s d a).run P w = .ok y w ∧ VE lk ρ (.s [UInt8.ofNat n.toNat]) y := by
  obtain rfl := hu.i
  refine ⟨.string (Utf8.encode n), by simp [convert, run_underlying hs, run_underlying hd, Conv.intToString], (VC.s _ _ ?_).e⟩
  have h1 : Utf8.valid n = true := by simp [Utf8.valid]; omega
  simp only [Utf8.encode, h1, if_true]
  rw [if_pos (by omega)]

/-! ### least, greatest, functions -/
theorem amins_sound : ∀ {us : List AV} {xs : List Value} {u v : AV} {a : Value}, VE lk ρ u a → F2 (VE lk ρ) us xs → amins u us = some v → ∃ x, (xs.foldlM Builtin.min2 a).run P w = .ok x w ∧ VE lk ρ v x
  | [], [], u, v, a, hu, _, hr => by simp [amins] at hr; subst hr; exact ⟨a, rfl, hu⟩
  | u2 :: us, x2 :: xs, u, v, a, hu, hf, hr => by
    unfold amins at hr
    split at hr
    · rename_i heq; cases heq
    · rename_i heq
      cases heq
      split at hr
      · rename_i hk
        subst hk
        obtain rfl := hu.i
        obtain rfl := hf.1.i
        obtain ⟨x, h1, h2⟩ := amins_sound (VC.i _ _).e hf.2 hr
        exact ⟨x, by simp only [List.foldlM_cons, Sem.run_bind, Builtin.min2, Sem.run_pure, Result.andThen_ok]; exact h1, h2⟩
      · cases hr
    · cases hr
  | [], _ :: _, _, _, _, _, hf, _ => hf.elim
  | _ :: _, [], _, _, _, _, hf, _ => hf.elim
theorem amaxs_sound : ∀ {us : List AV} {xs : List Value} {u v : AV} {a : Value}, VE lk ρ u a → F2 (VE lk ρ) us xs → amaxs u us = some v → ∃ x, (xs.foldlM Builtin.max2 a).run P w = .ok x w ∧ VE lk ρ v x
  | [], [], u, v, a, hu, _, hr => by simp [amaxs] at hr; subst hr; exact ⟨a, rfl, hu⟩
  | u2 :: us, x2 :: xs, u, v, a, hu, hf, hr => by
    unfold amaxs at hr
    split at hr
    · rename_i heq; cases heq
    · rename_i heq
      cases heq
      split at hr
      · rename_i hk
        subst hk
        obtain rfl := hu.i
        obtain rfl := hf.1.i
        obtain ⟨x, h1, h2⟩ := amaxs_sound (VC.i _ _).e hf.2 hr
        exact ⟨x, by simp only [List.foldlM_cons, Sem.run_bind, Builtin.max2, Sem.run_pure, Result.andThen_ok]; exact h1, h2⟩
      · cases hr
    · cases hr
  | [], _ :: _, _, _, _, _, hf, _ => hf.elim
  | _ :: _, [], _, _, _, _, hf, _ => hf.elim
theorem ptrs_sound : ∀ {us : List AV} {xs : List Value} {ps : List (Nat × Nat)}, F2 (VE lk ρ) us xs → ptrs us = some ps → F2 (PR ρ) ps xs
  | [], [], ps, _, hr => by simp [ptrs] at hr; subst hr; trivial
  | u :: us, x :: xs, ps, hf, hr => by
    unfold ptrs at hr
    split at hr
    · rename_i heq; cases heq
    · rename_i heq
      cases heq
      simp only [Option.map_eq_some_iff] at hr
      obtain ⟨ps', h1, rfl⟩ := hr
      obtain ⟨b, t, h2, rfl⟩ := hf.1.ptr
      exact ⟨⟨b, t, h2, rfl⟩, ptrs_sound hf.2 h1⟩
    · cases hr
  | [], _ :: _, _, hf, _ => hf.elim
  | _ :: _, [], _, hf, _ => hf.elim
end
end Go.Proofs.Ytpgoemmjhnnmoaa.Ab
