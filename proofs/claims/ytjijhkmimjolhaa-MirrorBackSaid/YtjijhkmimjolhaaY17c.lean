/- Chapter 17: the mirror: lists that are looked through. -/
import Derived.Test.YtjijhkmimjolhaaY17b
namespace Go.Proofs.Ytjijhkmimjolhaa.Ab
open Go
set_option linter.unusedVariables false
set_option linter.unusedSimpArgs false
variable {T : AT}
def dn : List Md → Nat → List Int
  | [], _ => []
  | x :: r, j => if x.down = true then (j : Int) :: dn r (j + 1) else dn r (j + 1)
theorem dn_snoc (x : Md) : ∀ (l : List Md) (k : Nat), dn (l ++ [x]) k = dn l k ++ if x.down = true then [((k + l.length : Nat) : Int)] else []
  | [], k => by
    simp only [List.nil_append, dn]
    cases x.down <;> simp
  | y :: l, k => by
    rw [List.cons_append, dn, dn, dn_snoc x l (k + 1), show k + 1 + l.length = k + (y :: l).length by simp; omega]
    cases y.down <;> simp
def Mi.downs (m : Mi) : List Int := dn m.ds 0
theorem dn_len : ∀ (l : List Md) (k : Nat), (dn l k).length ≤ l.length
  | [], k => Nat.le_refl _
  | y :: l, k => by
    rw [dn]
    have := dn_len l (k + 1)
    split
    · simp only [List.length_cons]; omega
    · simp only [List.length_cons]; omega
theorem down_spec (c : TabM T) (m : Mi) (hk : m.Ok) : Ret2 T 3 i_mirror_Mirror_Down [.ptr 0 0] m.h (fun v h' => v = .sl 1 3 0 m.downs.length none ∧ h' = m.h ++ [some (.arr 1 (m.downs.map cI))]) := by
  refine Ret2_fnv c.down rfl rfl ?_
  have hw := hk.wl
  have hdl := hk.dl
  have hel := hk.el
  unfold Mi.h Mi.downs
  ((repeat' with_reducible first |apply qA|apply qB|apply qC|apply qD|apply qE|apply qF|(apply qG;decide)|apply qH|apply qI|apply qJ|apply qK|apply qX|((first|apply qR|apply qS);(conv=>lhs;simp only[go_sem])<;>rfl;rfl)|((first|apply qT|apply qU);(conv=>lhs;simp only[go_sem])<;>rfl;rfl)|apply qZ|apply qY|apply qW);with_reducible((first|apply qL|apply qM|apply qN|apply qO|((first|apply qP|apply qQ);decide +kernel));(conv=>lhs;simp only[go_sem, ibin, ishift])<;>rfl))
  ((repeat' with_reducible first |apply qA|apply qB|apply qC|apply qD|apply qE|apply qF|(apply qG;decide)|apply qH|apply qI|apply qJ|apply qK|apply qX|((first|apply qR|apply qS);(conv=>lhs;simp only[go_sem])<;>rfl;rfl)|((first|apply qT|apply qU);(conv=>lhs;simp only[go_sem])<;>rfl;rfl)|apply qZ|apply qY|apply qW);with_reducible((first|apply qL|apply qM|apply qN|apply qO|((first|apply qP|apply qQ);decide +kernel));(conv=>lhs;simp only[go_sem, ibin, ishift])<;>rfl))
  refine W2.wnil 3 1 rfl (by (conv => lhs; simp only [go_sem, ibin, ishift]) <;> with_reducible rfl) (by (conv => lhs; simp only [go_sem, ibin, ishift]) <;> with_reducible rfl) ?_
  (repeat' with_reducible first |apply qA|apply qB|apply qC|apply qD|apply qE|apply qF|(apply qG;decide)|apply qH|apply qI|apply qJ|apply qK|((first|apply qL|apply qM|apply qN|apply qO|((first|apply qP|apply qQ);decide +kernel));(conv=>lhs;simp only[go_sem, ibin, ishift, mw_32 hw])<;>rfl)|((first|apply qR|apply qS);(conv=>lhs;simp only[go_sem])<;>rfl;rfl)|((first|apply qT|apply qU);(conv=>lhs;simp only[go_sem])<;>rfl;rfl)|apply qV|apply qW|apply qX|apply qY|apply qZ)
  generalize m.ds = l at hdl
  refine W2_loopu (fun mm u g => ∃ j n : Nat, j + mm = l.length ∧ n = (dn (l.take j) 0).length ∧ u = [(3, .sl 1 3 0 n none), (11, .i .i64 j)] ∧ g = [(3, .arr 1 ((dn (l.take j) 0).map cI))]) l.length ⟨0, 0, by omega, rfl, rfl, rfl⟩ rfl rfl ?_
  rintro mm u g ⟨j, n, hj, hn, rfl, rfl⟩
  intro e1 h1 he1 hh1; simp only [egd, supE, hgd, supH, Nat.reduceEqDiff, Nat.reduceAdd, if_true, if_false, reduceIte] at he1 hh1; subst he1; subst hh1
  (repeat' with_reducible first |apply qA|apply qB|apply qC|apply qD|apply qE|apply qF|(apply qG;decide)|apply qH|apply qI|apply qJ|apply qK|((first|apply qL|apply qM|apply qN|apply qO|((first|apply qP|apply qQ);decide +kernel));(conv=>lhs;simp only[go_sem, ibin, ishift])<;>rfl)|((first|apply qR|apply qS);(conv=>lhs;simp only[go_sem])<;>rfl;rfl)|((first|apply qT|apply qU);(conv=>lhs;simp only[go_sem])<;>rfl;rfl)|apply qV|apply qW|apply qX|apply qY|apply qZ)
  (((first | with_reducible apply W2_sc | with_reducible apply W2_cond); ((conv => lhs; simp only [go_sem]) <;> with_reducible rfl)) <;> intro hx <;> (try rw [hx]) <;> simp only [Bool.or_eq_true, Bool.and_eq_true, decide_eq_true_eq, Bool.or_eq_false_iff, Bool.and_eq_false_iff, decide_eq_false_iff_not, Bool.not_eq_true', Bool.not_eq_false', bne_iff_ne, beq_iff_eq, not_or, not_and, Decidable.not_not, ne_eq, gt_iff_lt, ge_iff_le, Int.not_lt, Int.not_le] at hx)
  · have hjl : j < l.length := by omega
    have hg := List.getElem?_eq_getElem hjl
    have htk : l.take (j + 1) = l.take j ++ [l[j]] := by rw [List.take_add_one, List.getElem?_eq_getElem hjl]; rfl
    have hmem := List.getElem_mem hjl
    generalize l[j] = x at hg htk hmem
    have h0 : (0 : Int) ≤ (j : Int) := by omega
    have h1 : (j : Int) < (l.length : Int) := by omega
    have hsn := dn_snoc x (l.take j) 0
    rw [← htk, Nat.zero_add, List.length_take, Nat.min_eq_left (Nat.le_of_lt hjl)] at hsn
    have hnl := dn_len (l.take j) 0
    rw [List.length_take] at hnl
    generalize hW : dn (l.take j) 0 = W at hn hsn hnl
    have hWn : W.take n = W := List.take_of_length_le (by omega)
    have hroom : (n + 1) * 8 ≤ room := by simp only [room]; omega
    have wj := wS (show j < 9223372036854775807 by omega)
    cases hd : x.down with
    | true =>
      rw [hd, if_pos rfl] at hsn
      (repeat' with_reducible first |apply qA|apply qB|apply qC|apply qD|apply qE|apply qF|(apply qG;decide)|apply qH|apply qI|apply qJ|apply qK|((first|apply qL|apply qM|apply qN|apply qO|((first|apply qP|apply qQ);decide +kernel));(conv=>lhs;simp only[go_sem, ibin, ishift, hg, hjl, h0, h1, cMd, hd, ← hn, hWn, hroom, wj, Nat.le_refl])<;>rfl)|((first|apply qR|apply qS);(conv=>lhs;simp only[go_sem])<;>rfl;rfl)|((first|apply qT|apply qU);(conv=>lhs;simp only[go_sem])<;>rfl;rfl)|apply qV|apply qW|apply qX|apply qY|apply qZ)
      refine ⟨[0, 1, 2, 6], by decide, rfl, ?_⟩
      exact ⟨l.length - (j + 1), _, _, by omega, ⟨j + 1, n + 1, by omega, by rw [hsn, List.length_append, ← hn]; rfl, rfl, rfl⟩, rfl, (by rw [hsn, List.map_append]; first | rfl | ((conv => lhs; simp only [go_sem, ibin, ishift]) <;> rfl))⟩
    | false =>
      rw [hd, if_neg (by decide), List.append_nil] at hsn
      (repeat' with_reducible first |apply qA|apply qB|apply qC|apply qD|apply qE|apply qF|(apply qG;decide)|apply qH|apply qI|apply qJ|apply qK|((first|apply qL|apply qM|apply qN|apply qO|((first|apply qP|apply qQ);decide +kernel));(conv=>lhs;simp only[go_sem, ibin, ishift, hg, hjl, h0, h1, cMd, hd, wj])<;>rfl)|((first|apply qR|apply qS);(conv=>lhs;simp only[go_sem])<;>rfl;rfl)|((first|apply qT|apply qU);(conv=>lhs;simp only[go_sem])<;>rfl;rfl)|apply qV|apply qW|apply qX|apply qY|apply qZ)
      refine ⟨[0, 1, 2, 3], by decide, rfl, ?_⟩
      exact ⟨l.length - (j + 1), _, _, by omega, ⟨j + 1, n, by omega, by rw [hsn]; exact hn, rfl, rfl⟩, rfl, (by rw [hsn]; first | rfl | ((conv => lhs; simp only [go_sem, ibin, ishift]) <;> rfl))⟩
  · have : j = l.length := by omega
    subst this
    rw [List.take_length] at hn ⊢
    subst hn
    (repeat' with_reducible first |apply qA|apply qB|apply qC|apply qD|apply qE|apply qF|(apply qG;decide)|apply qH|apply qI|apply qJ|apply qK|((first|apply qL|apply qM|apply qN|apply qO|((first|apply qP|apply qQ);decide +kernel));(conv=>lhs;simp only[go_sem, ibin, ishift])<;>rfl)|((first|apply qR|apply qS);(conv=>lhs;simp only[go_sem])<;>rfl;rfl)|((first|apply qT|apply qU);(conv=>lhs;simp only[go_sem])<;>rfl;rfl)|apply qV|apply qW|apply qX|apply qY|apply qZ)
    refine ⟨by first | exact .inr rfl | exact .inl rfl, _, _, (by (conv => lhs; simp only [go_sem, ibin, ishift]) <;> with_reducible rfl), (by (conv => lhs; simp only [go_sem, ibin, ishift]) <;> with_reducible rfl), ?_⟩
    refine ⟨[0, 1, 2, 3], by decide, rfl, ?_⟩
    exact ⟨rfl, (by first | rfl | (simp only [go_sem, Mi.h]; done) | (simp only [go_sem, Mi.h] <;> rfl))⟩
/-- is a device told to move to a node? -/
def busyAt (es : List Ed) (n : Int) (j : Nat) (x : Md) : Bool := decide (x.tote > 0) && (match es[j - 1]? with | some e => decide (e.b = n) | none => false)
def Mi.busy (m : Mi) (n : Int) : Bool := (List.range m.ds.length).any fun j => match m.ds[j]? with | some x => busyAt m.es n j x | none => false
def Mi.taken (m : Mi) (n : Int) : Bool := !m.noNode n && (m.busy n || decide (m.at_[n.toNat]?.getD 0 > 0))
theorem busy_true {m : Mi} {n : Int} {j : Nat} {x : Md} (hx : m.ds[j]? = some x) (h : busyAt m.es n j x = true) : m.busy n = true :=
  List.any_eq_true.2 ⟨j, List.mem_range.2 (List.getElem?_eq_some_iff.1 hx).1, by simp only [hx]; exact h⟩
theorem busy_false {m : Mi} {n : Int} (h : ∀ j x, m.ds[j]? = some x → busyAt m.es n j x = false) : m.busy n = false :=
  List.any_eq_false.2 fun j hj => by
    have hj := List.mem_range.1 hj
    simp only [List.getElem?_eq_getElem hj, h j _ (List.getElem?_eq_getElem hj)]
    decide
theorem taken_spec (c : TabM T) (m : Mi) (hk : m.Ok) (n : Int) : Ret2 T 3 i_mirror_Mirror_Taken [.ptr 0 0, .i .i64 n] m.h (fun v h' => v = .b (m.taken n) ∧ h' = m.h) := by
  refine Ret2_fnv c.taken rfl rfl ?_
  have hw := hk.wl
  have hdl := hk.dl
  have hel := hk.el
  unfold Mi.h
  (repeat' with_reducible first |apply qA|apply qB|apply qC|apply qD|apply qE|apply qF|(apply qG;decide)|apply qH|apply qI|apply qJ|apply qK|((first|apply qL|apply qM|apply qN|apply qO|((first|apply qP|apply qQ);decide +kernel));(conv=>lhs;simp only[go_sem, ibin, ishift])<;>rfl)|((first|apply qR|apply qS);(conv=>lhs;simp only[go_sem])<;>rfl;rfl)|((first|apply qT|apply qU);(conv=>lhs;simp only[go_sem])<;>rfl;rfl)|apply qV|apply qW|apply qX|apply qY|apply qZ)
  (with_reducible((first|apply pA|apply pB|apply pC|apply pD|apply pE|((first|apply pF|apply pG);decide +kernel));(conv=>lhs;simp only[go_sem, ibin, ishift])<;>rfl))
  refine CK_call [0, 1, 2] (noNode_spec c m hw n) (by decide) (by simp) rfl rfl (by first | rfl | (simp only [go_sem, Mi.h]; done) | (simp only [go_sem, Mi.h] <;> rfl)) ?_
  rintro v h' ⟨rfl, rfl⟩
  unfold Mi.h
  cases hn : m.noNode n with
  | true =>
    (with_reducible((first|apply WO2_finw|apply WO2_fina);(conv=>lhs;simp only[go_sem, ibin, ishift])<;>rfl))
    (repeat' with_reducible first |apply qA|apply qB|apply qC|apply qD|apply qE|apply qF|(apply qG;decide)|apply qH|apply qI|apply qJ|apply qK|((first|apply qL|apply qM|apply qN|apply qO|((first|apply qP|apply qQ);decide +kernel));(conv=>lhs;simp only[go_sem, ibin, ishift])<;>rfl)|((first|apply qR|apply qS);(conv=>lhs;simp only[go_sem])<;>rfl;rfl)|((first|apply qT|apply qU);(conv=>lhs;simp only[go_sem])<;>rfl;rfl)|apply qV|apply qW|apply qX|apply qY|apply qZ)
    refine ⟨by first | exact .inr rfl | exact .inl rfl, _, _, (by (conv => lhs; simp only [go_sem, ibin, ishift]) <;> with_reducible rfl), (by (conv => lhs; simp only [go_sem, ibin, ishift]) <;> with_reducible rfl), ?_⟩
    refine ⟨[0, 1, 2], by decide, rfl, ?_⟩
    exact ⟨by simp [SV.cv, Mi.taken, hn], (by first | rfl | (simp only [go_sem, Mi.h]; done) | (simp only [go_sem, Mi.h] <;> rfl))⟩
  | false =>
    have hr : ¬(n < 0 ∨ (m.at_.length : Int) ≤ n) := by simpa [Mi.noNode] using hn
    have n0 : 0 ≤ n := by omega
    have n1 : n < (m.at_.length : Int) := by omega
    have n2 : n.toNat < m.at_.length := by omega
    obtain ⟨y, hy⟩ : ∃ x, m.at_[n.toNat]? = some x := ⟨_, List.getElem?_eq_getElem n2⟩
    (with_reducible((first|apply WO2_finw|apply WO2_fina);(conv=>lhs;simp only[go_sem, ibin, ishift])<;>rfl))
    (repeat' with_reducible first |apply qA|apply qB|apply qC|apply qD|apply qE|apply qF|(apply qG;decide)|apply qH|apply qI|apply qJ|apply qK|((first|apply qL|apply qM|apply qN|apply qO|((first|apply qP|apply qQ);decide +kernel));(conv=>lhs;simp only[go_sem, ibin, ishift, mw_32 hw])<;>rfl)|((first|apply qR|apply qS);(conv=>lhs;simp only[go_sem])<;>rfl;rfl)|((first|apply qT|apply qU);(conv=>lhs;simp only[go_sem])<;>rfl;rfl)|apply qV|apply qW|apply qX|apply qY|apply qZ)
    refine W2_loopu (fun mm u g => ∃ j : Nat, j + mm = m.ds.length ∧ (∀ i < j, ∀ x, m.ds[i]? = some x → busyAt m.es n i x = false) ∧ u = [(15, .i .i64 j)] ∧ g = []) m.ds.length ⟨0, by omega, fun i h => by omega, rfl, rfl⟩ rfl rfl ?_
    rintro mm u g ⟨j, hj, hno, rfl, rfl⟩
    intro e1 h1 he1 hh1; simp only [egd, supE, hgd, supH, Nat.reduceEqDiff, Nat.reduceAdd, if_true, if_false, reduceIte] at he1 hh1; subst he1; subst hh1
    (repeat' with_reducible first |apply qA|apply qB|apply qC|apply qD|apply qE|apply qF|(apply qG;decide)|apply qH|apply qI|apply qJ|apply qK|((first|apply qL|apply qM|apply qN|apply qO|((first|apply qP|apply qQ);decide +kernel));(conv=>lhs;simp only[go_sem, ibin, ishift])<;>rfl)|((first|apply qR|apply qS);(conv=>lhs;simp only[go_sem])<;>rfl;rfl)|((first|apply qT|apply qU);(conv=>lhs;simp only[go_sem])<;>rfl;rfl)|apply qV|apply qW|apply qX|apply qY|apply qZ)
    (((first | with_reducible apply W2_sc | with_reducible apply W2_cond); ((conv => lhs; simp only [go_sem]) <;> with_reducible rfl)) <;> intro hx <;> (try rw [hx]) <;> simp only [Bool.or_eq_true, Bool.and_eq_true, decide_eq_true_eq, Bool.or_eq_false_iff, Bool.and_eq_false_iff, decide_eq_false_iff_not, Bool.not_eq_true', Bool.not_eq_false', bne_iff_ne, beq_iff_eq, not_or, not_and, Decidable.not_not, ne_eq, gt_iff_lt, ge_iff_le, Int.not_lt, Int.not_le] at hx)
    · obtain ⟨x, hx2⟩ : ∃ x, m.ds[j]? = some x := ⟨_, List.getElem?_eq_getElem (by omega)⟩
      have hjl : j < m.ds.length := by omega
      have h0 : (0 : Int) ≤ (j : Int) := by omega
      have h1 : (j : Int) < (m.ds.length : Int) := by omega
      have wj := wS (show j < 9223372036854775807 by omega)
      have nxt : busyAt m.es n j x = false → ∀ i < j + 1, ∀ z, m.ds[i]? = some z → busyAt m.es n i z = false := fun hb i hi z hz => by
        by_cases e : i = j
        · subst e; rw [hx2] at hz; cases hz; exact hb
        · exact hno i (by omega) z hz
      by_cases ht : x.tote > 0
      · have e1 : decide (x.tote > 0) = true := decide_eq_true ht
        have hj1 : 1 ≤ j := by
          rcases Nat.eq_zero_or_pos j with h | h
          · subst h; have := hk.d0 x hx2; omega
          · exact h
        have r4 : j - 1 < m.es.length := by omega
        obtain ⟨e, he⟩ : ∃ e, m.es[j - 1]? = some e := ⟨_, List.getElem?_eq_getElem r4⟩
        have wj1 : IntKind.i64.wrap ((j : Int) - 1) = ((j - 1 : Nat) : Int) := by rw [wi _ (by omega) (by omega)]; omega
        have r0 : (0 : Int) ≤ ((j - 1 : Nat) : Int) := by omega
        have r1 : ((j - 1 : Nat) : Int) < (m.es.length : Int) := by omega
        by_cases hb : e.b = n
        · have e2 : decide (e.b = n) = true := decide_eq_true hb
          (repeat' with_reducible first |apply qA|apply qB|apply qC|apply qD|apply qE|apply qF|(apply qG;decide)|apply qH|apply qI|apply qJ|apply qK|((first|apply qL|apply qM|apply qN|apply qO|((first|apply qP|apply qQ);decide +kernel));(conv=>lhs;simp only[go_sem, ibin, ishift, hx2, hjl, h0, h1, cMd, e1, wj1, r0, r1, r4, he, cD, e2])<;>rfl)|((first|apply qR|apply qS);(conv=>lhs;simp only[go_sem])<;>rfl;rfl)|((first|apply qT|apply qU);(conv=>lhs;simp only[go_sem])<;>rfl;rfl)|apply qV|apply qW|apply qX|apply qY|apply qZ)
          refine ⟨by first | exact .inr rfl | exact .inl rfl, _, _, (by (conv => lhs; simp only [go_sem, ibin, ishift]) <;> with_reducible rfl), (by (conv => lhs; simp only [go_sem, ibin, ishift]) <;> with_reducible rfl), ?_⟩
          refine ⟨[0, 1, 2], by decide, rfl, ?_⟩
          exact ⟨by simp only [SV.cv, Mi.taken, hn, busy_true hx2 (show busyAt m.es n j x = true by simp only [busyAt, e1, he, e2]; rfl)]; rfl, (by first | rfl | (simp only [go_sem, Mi.h]; done) | (simp only [go_sem, Mi.h] <;> rfl))⟩
        · have e2 : decide (e.b = n) = false := decide_eq_false hb
          (repeat' with_reducible first |apply qA|apply qB|apply qC|apply qD|apply qE|apply qF|(apply qG;decide)|apply qH|apply qI|apply qJ|apply qK|((first|apply qL|apply qM|apply qN|apply qO|((first|apply qP|apply qQ);decide +kernel));(conv=>lhs;simp only[go_sem, ibin, ishift, hx2, hjl, h0, h1, cMd, e1, wj1, r0, r1, r4, he, cD, e2, wj])<;>rfl)|((first|apply qR|apply qS);(conv=>lhs;simp only[go_sem])<;>rfl;rfl)|((first|apply qT|apply qU);(conv=>lhs;simp only[go_sem])<;>rfl;rfl)|apply qV|apply qW|apply qX|apply qY|apply qZ)
          refine ⟨[0, 1, 2], by decide, rfl, ?_⟩
          exact ⟨m.ds.length - (j + 1), _, _, by omega, ⟨j + 1, by omega, nxt (by simp only [busyAt, e1, he, e2]; rfl), rfl, rfl⟩, rfl, (by first | rfl | ((conv => lhs; simp only [go_sem, ibin, ishift]) <;> rfl))⟩
      · have e1 : decide (x.tote > 0) = false := decide_eq_false ht
        have hbz : busyAt m.es n j x = false := by simp only [busyAt, e1]; rfl
        (repeat' with_reducible first |apply qA|apply qB|apply qC|apply qD|apply qE|apply qF|(apply qG;decide)|apply qH|apply qI|apply qJ|apply qK|((first|apply qL|apply qM|apply qN|apply qO|((first|apply qP|apply qQ);decide +kernel));(conv=>lhs;simp only[go_sem, ibin, ishift, hx2, hjl, h0, h1, cMd])<;>rfl)|((first|apply qR|apply qS);(conv=>lhs;simp only[go_sem])<;>rfl;rfl)|((first|apply qT|apply qU);(conv=>lhs;simp only[go_sem])<;>rfl;rfl)|apply qV|apply qW|apply qX|apply qY|apply qZ)
        (repeat' with_reducible first |apply qA|apply qB|apply qC|apply qD|apply qE|apply qF|(apply qG;decide)|apply qH|apply qI|apply qJ|apply qK|apply qX|((first|apply qR|apply qS);(conv=>lhs;simp only[go_sem])<;>rfl;rfl)|((first|apply qT|apply qU);(conv=>lhs;simp only[go_sem])<;>rfl;rfl)|apply qZ)
        (with_reducible first | apply W2_srl | apply W2_runl); ((conv => lhs; simp only [go_sem, ibin, ishift, e1]) <;> with_reducible rfl)
        (repeat' with_reducible first |apply qA|apply qB|apply qC|apply qD|apply qE|apply qF|(apply qG;decide)|apply qH|apply qI|apply qJ|apply qK|((first|apply qL|apply qM|apply qN|apply qO|((first|apply qP|apply qQ);decide +kernel));(conv=>lhs;simp only[go_sem, ibin, ishift, wj])<;>rfl)|((first|apply qR|apply qS);(conv=>lhs;simp only[go_sem])<;>rfl;rfl)|((first|apply qT|apply qU);(conv=>lhs;simp only[go_sem])<;>rfl;rfl)|apply qV|apply qW|apply qX|apply qY|apply qZ)
        refine ⟨[0, 1, 2], by decide, rfl, ?_⟩
        exact ⟨m.ds.length - (j + 1), _, _, by omega, ⟨j + 1, by omega, nxt hbz, rfl, rfl⟩, rfl, (by first | rfl | ((conv => lhs; simp only [go_sem, ibin, ishift]) <;> rfl))⟩
    · (repeat' with_reducible first |apply qA|apply qB|apply qC|apply qD|apply qE|apply qF|(apply qG;decide)|apply qH|apply qI|apply qJ|apply qK|((first|apply qL|apply qM|apply qN|apply qO|((first|apply qP|apply qQ);decide +kernel));(conv=>lhs;simp only[go_sem, ibin, ishift, mw_31 hw, n0, n1, n2, hy, cI])<;>rfl)|((first|apply qR|apply qS);(conv=>lhs;simp only[go_sem])<;>rfl;rfl)|((first|apply qT|apply qU);(conv=>lhs;simp only[go_sem])<;>rfl;rfl)|apply qV|apply qW|apply qX|apply qY|apply qZ)
      refine ⟨by first | exact .inr rfl | exact .inl rfl, _, _, (by (conv => lhs; simp only [go_sem, ibin, ishift]) <;> with_reducible rfl), (by (conv => lhs; simp only [go_sem, ibin, ishift]) <;> with_reducible rfl), ?_⟩
      refine ⟨[0, 1, 2], by decide, rfl, ?_⟩
      refine ⟨?_, (by first | rfl | (simp only [go_sem, Mi.h]; done) | (simp only [go_sem, Mi.h] <;> rfl))⟩
      have hb : m.busy n = false := busy_false fun i x hx => hno i (by have := (List.getElem?_eq_some_iff.1 hx).1; omega) x hx
      simp only [SV.cv, Mi.taken, hn, hb, hy, Option.getD_some]
      rfl
end Go.Proofs.Ytjijhkmimjolhaa.Ab
