/- The frame of a law, third part: arguments. -/
import Derived.Test.YtpgoemmjhnnmoaaFrB
namespace Go.Proofs.Ytpgoemmjhnnmoaa.Ab
open Go Go.ChangeShapes Go.RowKit
set_option linter.unusedVariables false
section
variable {P : Program} {W : World} {lk : Lk} {r : Reach} {base : Nat} {t e : TypeId} {v : Value}
/-- an argument, as the machines have it -/
structure Arg (W : World) (lk : Lk) (s : SV) (v : Value) : Prop where
  ok : ∃ a, RS (mirW W) 0 s a ∧ VE lk (mirρ W) a v
theorem arg_cell {p : PV} (h : RP (mirF W) p (cvV W v)) : Arg W lk (.p p) v :=
  ⟨cvV W v, .p h, (cvV_vc v (fun e => by have := h.ne_un; rw [e] at this; cases this)).e⟩
theorem arg_agg {ps : List PV} {cs : Array Value} (h : P2 (RP (mirF W)) ps (cs.toList.map (cvV W))) : Arg W lk (.agg (ps.map .p)) (.agg cs) := by
  refine ⟨.agg (cs.toList.map (cvV W)), ?_, ?_⟩
  · have : P2 (RS (mirW W) 0) (ps.map .p) (cs.toList.map (cvV W)) := P2.map (h.mono fun _ _ h => .p h)
    exact .agg this.1 this.2
  · refine .of (.one (.agg ?_))
    refine F2.of_get (by simp) fun j x y hx hy => ?_
    rw [List.getElem?_map, hy] at hx
    cases hx
    refine cvV_vc y fun hun => ?_
    have hj : j < ps.length := by rw [h.1]; simpa using (List.getElem?_eq_some_iff.1 hy).1
    have := h.2 j ps[j] (cvV W y) (List.getElem?_eq_getElem hj) (by rw [List.getElem?_map, hy]; rfl)
    have := this.ne_un
    rw [hun] at this; cases this
theorem args_nil : ∃ cargs, P2 (RS (mirW W) 0) [] cargs ∧ F2 (VE lk (mirρ W)) cargs [] := ⟨[], .nil, trivial⟩
theorem args_cons {s : SV} {ss : List SV} {vs : List Value} (h : Arg W lk s v) (h' : ∃ cargs, P2 (RS (mirW W) 0) ss cargs ∧ F2 (VE lk (mirρ W)) cargs vs) : ∃ cargs, P2 (RS (mirW W) 0) (s :: ss) cargs ∧ F2 (VE lk (mirρ W)) cargs (v :: vs) := by
  obtain ⟨a, h1, h2⟩ := h.ok
  obtain ⟨cs, h3, h4⟩ := h'
  exact ⟨a :: cs, .cons h1 h3, h2, h4⟩
/-- a slice at the top -/
theorem top_slice (ht : P.underlying t = some (.slice e)) (hok : Value.okWide P W r base t v) : v.cells.toList = [v] ∧ ∀ a len, v = .slice (some a) len 0 → a.spot = none ∧ ∃ c e fz, W.heap[a.block]? = some (.cells c e fz) := by
  unfold Value.okWide at hok
  rw [ht] at hok
  simp only [Cell.okWide, ht] at hok
  refine ⟨?_, fun a len hv => ?_⟩
  · cases v <;> simp [Cell.ok, ht] at hok <;> rfl
  · subst hv
    simp only [Cell.ok, ht, World.has] at hok
    obtain ⟨_, _, h1, h2, row, cells, h3, _⟩ := hok
    refine ⟨h2, ?_⟩
    unfold World.shape? at h3
    split at h3
    · rename_i c e fz hb; exact ⟨c, e, fz, hb⟩
    · cases h3
theorem top_int {k : IntKind} (ht : P.underlying t = some (.int k)) (hok : Value.okWide P W r base t v) : v.cells.toList = [v] := by
  unfold Value.okWide at hok
  rw [ht] at hok
  simp only [Cell.okWide, ht] at hok
  cases v <;> simp [Cell.ok, ht] at hok <;> rfl
theorem top_string (ht : P.underlying t = some .string) (hok : Value.okWide P W r base t v) : v.cells.toList = [v] := by
  unfold Value.okWide at hok
  rw [ht] at hok
  simp only [Cell.okWide, ht] at hok
  cases v <;> simp [Cell.ok, ht] at hok <;> rfl
theorem top_struct {fs : Array Field} (ht : P.underlying t = some (.struct fs)) (hok : Value.okWide P W r base t v) : ∃ cs, v = .agg cs := by
  unfold Value.okWide at hok
  rw [ht] at hok
  obtain ⟨cs, h, _⟩ := hok
  exact ⟨cs, h⟩
theorem top_array {n : Nat} (ht : P.underlying t = some (.array n e)) (hok : Value.okWide P W r base t v) : ∃ cs, v = .agg cs := by
  unfold Value.okWide at hok
  rw [ht] at hok
  obtain ⟨cs, h, _⟩ := hok
  exact ⟨cs, h⟩
section
variable {H : Type} {enc : TypeId × Value → H} {d : DataW H} {p : List MemPlace} {S : List PV → Prop} {m : Nat}
theorem arg_slice (ht : P.underlying t = some (.slice e)) (he : Op P W e m S) (hm : P.cellsOf e = m) (h0 : 0 < m) (hok : Value.okWide P W r base t v) (h : DataW.Trod enc P W 0 (fun _ => true) true t v d p) :
    ∃ els, (∀ el ∈ els, S el ∧ el.length = m) ∧ els.length ≤ 9223372036854775807 ∧ Arg W lk (.fz m els) v := by
  obtain ⟨n, h⟩ := h
  obtain ⟨h1, h2⟩ := top_slice ht hok
  rw [h1] at h
  obtain ⟨els, a, b, c⟩ := op_slice ht he hm h0 h
  exact ⟨els, a, b, arg_cell c⟩
theorem arg_one (ho : Op P W t 1 S) (hc : v.cells.toList = [v]) (h : DataW.Trod enc P W 0 (fun _ => true) true t v d p) : ∃ q, S [q] ∧ Arg W lk (.p q) v := by
  obtain ⟨n, h⟩ := h
  rw [hc] at h
  obtain ⟨q, a, b⟩ := op_cell ho h
  exact ⟨q, a, arg_cell b⟩
theorem arg_many (ho : Op P W t m S) (hc : ∃ cs, v = .agg cs) (h : DataW.Trod enc P W 0 (fun _ => true) true t v d p) : ∃ qs, S qs ∧ Arg W lk (.agg (qs.map .p)) v := by
  obtain ⟨cs, rfl⟩ := hc
  obtain ⟨n, h⟩ := h
  obtain ⟨ps, a, b, c⟩ := ho.go h
  exact ⟨ps, b, arg_agg a⟩
end
end
end Go.Proofs.Ytpgoemmjhnnmoaa.Ab
