/- Chapter 06: LayoutFinds. -/
import Derived.Test.YtankmcjfglbbiaaDoorY06b
namespace Go.Proofs.YtankmcjfglbbiaaDoor.Ab
open Go
set_option linter.unusedVariables false
set_option linter.unusedSimpArgs false
variable {T : AT}
def sumTo (f : Nat → Nat) : Nat → Nat
  | 0 => 0
  | n + 1 => sumTo f n + f n
theorem sumTo_add (f g : Nat → Nat) : ∀ n, sumTo (fun k => f k + g k) n = sumTo f n + sumTo g n
  | 0 => rfl
  | n + 1 => by simp only [sumTo]; rw [sumTo_add f g n]; omega
theorem sumTo_one (a : Nat) : ∀ n, sumTo (fun k => if a = k then 1 else 0) n = if a < n then 1 else 0
  | 0 => rfl
  | n + 1 => by
    simp only [sumTo]
    rw [sumTo_one a n]
    by_cases h : a < n
    · rw [if_pos h, if_neg (by omega), if_pos (by omega)]
    · by_cases h2 : a = n
      · rw [if_neg h, if_pos h2, if_pos (by omega)]
      · rw [if_neg h, if_neg h2, if_neg (by omega)]
theorem sumTo_zero (f : Nat → Nat) (h : ∀ k, f k = 0) : ∀ n, sumTo f n = 0
  | 0 => rfl
  | n + 1 => by rw [sumTo, sumTo_zero f h n, h n]
theorem sum_outs (es : List Ed) (N : Nat) (h : ∀ e ∈ es, 0 ≤ e.a ∧ e.a < (N : Int)) : ∀ j, j ≤ es.length → sumTo (fun k => (outK es (k : Int) j).length) N = j
  | 0, _ => sumTo_zero _ (fun k => rfl) N
  | j + 1, hj => by
    have hjl : j < es.length := hj
    have hg := List.getElem?_eq_getElem hjl
    have hm := List.getElem_mem hjl
    generalize es[j] = e at hg hm
    have hb := h e hm
    have : (fun k : Nat => (outK es (k : Int) (j + 1)).length) = fun k : Nat => (outK es (k : Int) j).length + (if e.a.toNat = k then 1 else 0) := by
      funext k
      rw [outK_succ hg, List.length_append]
      congr 1
      by_cases hk : e.a = (k : Int)
      · rw [if_pos hk, if_pos (by omega)]; rfl
      · rw [if_neg hk, if_neg (by omega)]; rfl
    rw [this, sumTo_add, sum_outs es N h j (by omega), sumTo_one, if_pos (by omega)]
theorem good_facts {l : Lay} (h : l.good = true) : (1 ≤ l.ns.length ∧ l.ns.length ≤ 40 ∧ l.es.length ≤ 120) ∧ (∀ (i : Nat) (x : Nd), l.ns[i]? = some x → ∀ y ∈ l.ns.take i, y.name ≠ x.name) ∧ ∀ e ∈ l.es, 0 ≤ e.a ∧ e.a < (l.ns.length : Int) := by
  simp only [Lay.good, Bool.and_eq_true, decide_eq_true_eq] at h
  obtain ⟨⟨⟨⟨h1, h2⟩, h3⟩, h4⟩, h5⟩ := h
  refine ⟨⟨h1, h2, h3⟩, fun i x hi => (okN_name (allOk_iff.1 h4 i x hi)).2.2.2.2.2, fun e he => ?_⟩
  obtain ⟨i, hi⟩ := List.mem_iff_getElem?.1 he
  exact (okE_iff.1 (allOk_iff.1 h5 i e hi)).1
theorem layoutFinds_law (c : TabF T) (hT : T i_stillagelaw06_LayoutFinds = some (.fn c_stillagelaw06_LayoutFinds)) (l : Lay) (hs : ∀ x ∈ l.ns, x.name.length ≤ 9223372036854775807) (hl : l.ns.length ≤ 9223372036854775807 ∧ l.es.length ≤ 9223372036854775807) (nm : List UInt8) (nd : Int) : Ret2 T 0 i_stillagelaw06_LayoutFinds [l.v, .s nm, .i .i64 nd] [] (fun v h' => v = .b true) := by
  refine Ret2_fnv hT rfl rfl ?_
  have hgs := good_any c l hs hl
  have hv : l.v = .agg [.fz 3 (l.ns.map cN), .fz 2 (l.es.map cD)] := rfl
  rw [hv] at hgs ⊢
  (repeat' with_reducible first |apply qA|apply qB|apply qC|apply qD|apply qE|apply qF|(apply qG;decide)|apply qH|apply qI|apply qJ|apply qK|((first|apply qL|apply qM|apply qN|apply qO|((first|apply qP|apply qQ);decide +kernel));(conv=>lhs;simp only[go_sem, ibin, ishift])<;>rfl)|((first|apply qR|apply qS);(conv=>lhs;simp only[go_sem])<;>rfl;rfl)|((first|apply qT|apply qU);(conv=>lhs;simp only[go_sem])<;>rfl;rfl)|apply qV|apply qW|apply qX|apply qY|apply qZ)
  (with_reducible((first|apply pA|apply pB|apply pC|apply pD|apply pE|((first|apply pF|apply pG);decide +kernel));(conv=>lhs;simp only[go_sem, ibin, ishift])<;>rfl))
  refine CK_pure (awake_spec c c.awake) rfl ?_
  rintro v h' ⟨rfl, rfl⟩
  (with_reducible((first|apply WO2_finw|apply WO2_fina);(conv=>lhs;simp only[go_sem, ibin, ishift])<;>rfl))
  (repeat' with_reducible first |apply qA|apply qB|apply qC|apply qD|apply qE|apply qF|(apply qG;decide)|apply qH|apply qI|apply qJ|apply qK|((first|apply qL|apply qM|apply qN|apply qO|((first|apply qP|apply qQ);decide +kernel));(conv=>lhs;simp only[go_sem, ibin, ishift])<;>rfl)|((first|apply qR|apply qS);(conv=>lhs;simp only[go_sem])<;>rfl;rfl)|((first|apply qT|apply qU);(conv=>lhs;simp only[go_sem])<;>rfl;rfl)|apply qV|apply qW|apply qX|apply qY|apply qZ)
  (with_reducible((first|apply pA|apply pB|apply pC|apply pD|apply pE|((first|apply pF|apply pG);decide +kernel));(conv=>lhs;simp only[go_sem, ibin, ishift])<;>rfl))
  refine CK_pure hgs rfl ?_
  rintro v h' ⟨rfl, rfl⟩
  cases hg : l.good with
  | false =>
    (with_reducible((first|apply WO2_finw|apply WO2_fina);(conv=>lhs;simp only[go_sem, ibin, ishift])<;>rfl))
    (repeat' with_reducible first |apply qA|apply qB|apply qC|apply qD|apply qE|apply qF|(apply qG;decide)|apply qH|apply qI|apply qJ|apply qK|((first|apply qL|apply qM|apply qN|apply qO|((first|apply qP|apply qQ);decide +kernel));(conv=>lhs;simp only[go_sem, ibin, ishift])<;>rfl)|((first|apply qR|apply qS);(conv=>lhs;simp only[go_sem])<;>rfl;rfl)|((first|apply qT|apply qU);(conv=>lhs;simp only[go_sem])<;>rfl;rfl)|apply qV|apply qW|apply qX|apply qY|apply qZ)
    refine ⟨by first | exact .inr rfl | exact .inl rfl, _, _, (by (conv => lhs; simp only [go_sem, ibin, ishift]) <;> with_reducible rfl), (by (conv => lhs; simp only [go_sem, ibin, ishift]) <;> with_reducible rfl), ?_⟩
    refine ⟨[], by decide, rfl, ?_⟩
    rfl
  | true =>
  obtain ⟨⟨hn1, hn2, hn3⟩, hnm, hea⟩ := good_facts hg
  have hown := own_spec c.toTabO l (by omega)
  have hsame := same_spec c.toTabO l (by omega)
  have hlf := fun nm => lfind_spec c l (by omega) nm
  have hrf := fun nm => find_spec c.toTabG l (by omega) nm
  have hlo := fun n => lout_spec c l (by omega) n
  rw [hv] at hown hsame hlf hrf hlo
  (with_reducible((first|apply WO2_finw|apply WO2_fina);(conv=>lhs;simp only[go_sem, ibin, ishift])<;>rfl))
  (repeat' with_reducible first |apply qA|apply qB|apply qC|apply qD|apply qE|apply qF|(apply qG;decide)|apply qH|apply qI|apply qJ|apply qK|((first|apply qL|apply qM|apply qN|apply qO|((first|apply qP|apply qQ);decide +kernel));(conv=>lhs;simp only[go_sem, ibin, ishift])<;>rfl)|((first|apply qR|apply qS);(conv=>lhs;simp only[go_sem])<;>rfl;rfl)|((first|apply qT|apply qU);(conv=>lhs;simp only[go_sem])<;>rfl;rfl)|apply qV|apply qW|apply qX|apply qY|apply qZ)
  (with_reducible((first|apply pA|apply pB|apply pC|apply pD|apply pE|((first|apply pF|apply pG);decide +kernel));(conv=>lhs;simp only[go_sem, ibin, ishift])<;>rfl))
  refine CK_pure hown rfl ?_
  rintro v h' ⟨rfl, rfl⟩
  (with_reducible((first|apply WO2_finw|apply WO2_fina);(conv=>lhs;simp only[go_sem, ibin, ishift])<;>rfl))
  (repeat' with_reducible first |apply qA|apply qB|apply qC|apply qD|apply qE|apply qF|(apply qG;decide)|apply qH|apply qI|apply qJ|apply qK|apply qX|((first|apply qR|apply qS);(conv=>lhs;simp only[go_sem])<;>rfl;rfl)|((first|apply qT|apply qU);(conv=>lhs;simp only[go_sem])<;>rfl;rfl)|apply qZ|apply qY|apply qW)
  refine W2.wfrz 1 rfl (by (conv => lhs; simp only [go_sem, ibin, ishift]) <;> with_reducible rfl) (by (conv => lhs; simp only [go_sem, ibin, ishift]) <;> with_reducible rfl) ?_
  refine W2.wfrz 2 rfl (by (conv => lhs; simp only [go_sem, ibin, ishift]) <;> with_reducible rfl) (by (conv => lhs; simp only [go_sem, ibin, ishift]) <;> with_reducible rfl) ?_
  (repeat' with_reducible first |apply qA|apply qB|apply qC|apply qD|apply qE|apply qF|(apply qG;decide)|apply qH|apply qI|apply qJ|apply qK|((first|apply qL|apply qM|apply qN|apply qO|((first|apply qP|apply qQ);decide +kernel));(conv=>lhs;simp only[go_sem, ibin, ishift])<;>rfl)|((first|apply qR|apply qS);(conv=>lhs;simp only[go_sem])<;>rfl;rfl)|((first|apply qT|apply qU);(conv=>lhs;simp only[go_sem])<;>rfl;rfl)|apply qV|apply qW|apply qX|apply qY|apply qZ)
  refine W2_loopu (fun m u g => ∃ (j : Nat), j + m = l.ns.length ∧ u = [(24, .i .i64 j)] ∧ g = []) l.ns.length ⟨0, by omega, rfl, rfl⟩ rfl rfl ?_
  rintro m u g ⟨j, hj, rfl, rfl⟩
  intro e1 h1 he1 hh1; simp only [egd, supE, hgd, supH, Nat.reduceEqDiff, Nat.reduceAdd, if_true, if_false, reduceIte] at he1 hh1; subst he1; subst hh1
  by_cases hjt : j < l.ns.length
  · have hjl : j < l.ns.length := by omega
    have hg := List.getElem?_eq_getElem hjl
    have htk : l.ns.take (j + 1) = l.ns.take j ++ [l.ns[j]] := by rw [List.take_add_one, List.getElem?_eq_getElem hjl]; rfl
    have hmem := List.getElem_mem hjl
    generalize l.ns[j] = x at hg htk hmem
    have h0 : (0 : Int) ≤ (j : Int) := by omega
    have h1 : (j : Int) < (l.ns.length : Int) := by omega
    have zj : decide (j < l.ns.length) = true := decide_eq_true hjl
    have zji : decide ((j : Int) < (l.ns.length : Int)) = true := decide_eq_true h1
    have wj := wS (show j < 9223372036854775807 by omega)
    have hfx := fnd_here (hnm j x hg) hg rfl
    (repeat' with_reducible first |apply qA|apply qB|apply qC|apply qD|apply qE|apply qF|(apply qG;decide)|apply qH|apply qI|apply qJ|apply qK|((first|apply qL|apply qM|apply qN|apply qO|((first|apply qP|apply qQ);decide +kernel));(conv=>lhs;simp only[go_sem, ibin, ishift, zj, zji])<;>rfl)|((first|apply qR|apply qS);(conv=>lhs;simp only[go_sem])<;>rfl;rfl)|((first|apply qT|apply qU);(conv=>lhs;simp only[go_sem])<;>rfl;rfl)|apply qV|apply qW|apply qX|apply qY|apply qZ)
    (with_reducible((first|apply pA|apply pB|apply pC|apply pD|apply pE|((first|apply pF|apply pG);decide +kernel));(conv=>lhs;simp only[go_sem, ibin, ishift, hg, hjl, cN, h0, h1])<;>rfl))
    refine CK_pure (hlf x.name) rfl ?_
    rintro v h' ⟨rfl, rfl⟩
    rw [hfx]
    (with_reducible((first|apply WO2_finw|apply WO2_fina);(conv=>lhs;simp only[go_sem, ibin, ishift])<;>rfl))
    (repeat' with_reducible first |apply qA|apply qB|apply qC|apply qD|apply qE|apply qF|(apply qG;decide)|apply qH|apply qI|apply qJ|apply qK|((first|apply qL|apply qM|apply qN|apply qO|((first|apply qP|apply qQ);decide +kernel));(conv=>lhs;simp only[go_sem, ibin, ishift, wj])<;>rfl)|((first|apply qR|apply qS);(conv=>lhs;simp only[go_sem])<;>rfl;rfl)|((first|apply qT|apply qU);(conv=>lhs;simp only[go_sem])<;>rfl;rfl)|apply qV|apply qW|apply qX|apply qY|apply qZ)
    refine ⟨[0, 1, 2, 3], by decide, rfl, ?_⟩
    exact ⟨l.ns.length - (j + 1), _, _, by omega, ⟨j + 1, by omega, rfl, rfl⟩, rfl, (by first | rfl | ((conv => lhs; simp only [go_sem, ibin, ishift]) <;> rfl))⟩
  have hje : j = l.ns.length := by omega
  have zj : decide (j < l.ns.length) = false := decide_eq_false hjt
  have zji : decide ((j : Int) < (l.ns.length : Int)) = false := decide_eq_false (by omega)
  clear hje
  (repeat' with_reducible first |apply qA|apply qB|apply qC|apply qD|apply qE|apply qF|(apply qG;decide)|apply qH|apply qI|apply qJ|apply qK|((first|apply qL|apply qM|apply qN|apply qO|((first|apply qP|apply qQ);decide +kernel));(conv=>lhs;simp only[go_sem, ibin, ishift, zj, zji])<;>rfl)|((first|apply qR|apply qS);(conv=>lhs;simp only[go_sem])<;>rfl;rfl)|((first|apply qT|apply qU);(conv=>lhs;simp only[go_sem])<;>rfl;rfl)|apply qV|apply qW|apply qX|apply qY|apply qZ)
  clear zj zji hjt hj j
  have hsum := sum_outs l.es l.ns.length hea l.es.length (Nat.le_refl _)
  refine W2_loopu (fun m u g => ∃ (j c : Nat), j + m = l.ns.length ∧ c = sumTo (fun k => (outK l.es (k : Int) l.es.length).length) j ∧ c ≤ 120 * j ∧ u = [(9, .i .i64 c), (41, .i .i64 j)] ∧ g = []) l.ns.length ⟨0, 0, by omega, rfl, by omega, rfl, rfl⟩ rfl rfl ?_
  rintro m u g ⟨j, c0, hj, hc0, hcl, rfl, rfl⟩
  intro e1 h1 he1 hh1; simp only [egd, supE, hgd, supH, Nat.reduceEqDiff, Nat.reduceAdd, if_true, if_false, reduceIte] at he1 hh1; subst he1; subst hh1
  by_cases hjt : j < l.ns.length
  · have h0 : (0 : Int) ≤ (j : Int) := by omega
    have h1 : (j : Int) < (l.ns.length : Int) := by omega
    have zj : decide (j < l.ns.length) = true := decide_eq_true hjt
    have zji : decide ((j : Int) < (l.ns.length : Int)) = true := decide_eq_true h1
    have wj := wS (show j < 9223372036854775807 by omega)
    have hoi : outI l (j : Int) = outK l.es (j : Int) l.es.length := if_pos ⟨h0, h1⟩
    have hout := hlo (j : Int)
    rw [hoi] at hout
    have hWl := outK_len l.es (j : Int) l.es.length
    have hWm : ∀ d ∈ outK l.es (j : Int) l.es.length, ∃ (i : Nat) (e : Ed), i < l.es.length ∧ l.es[i]? = some e ∧ e.a = (j : Int) ∧ d = (i : Int) + 1 := fun d hd => outK_mem hd
    have hWs := outK_srt l.es (j : Int) l.es.length
    have hcs : sumTo (fun k => (outK l.es (k : Int) l.es.length).length) (j + 1) = c0 + (outK l.es (j : Int) l.es.length).length := by rw [sumTo, hc0]
    generalize outK l.es (j : Int) l.es.length = W at hout hWl hWm hWs hcs
    (repeat' with_reducible first |apply qA|apply qB|apply qC|apply qD|apply qE|apply qF|(apply qG;decide)|apply qH|apply qI|apply qJ|apply qK|((first|apply qL|apply qM|apply qN|apply qO|((first|apply qP|apply qQ);decide +kernel));(conv=>lhs;simp only[go_sem, ibin, ishift, zj, zji])<;>rfl)|((first|apply qR|apply qS);(conv=>lhs;simp only[go_sem])<;>rfl;rfl)|((first|apply qT|apply qU);(conv=>lhs;simp only[go_sem])<;>rfl;rfl)|apply qV|apply qW|apply qX|apply qY|apply qZ)
    (with_reducible((first|apply pA|apply pB|apply pC|apply pD|apply pE|((first|apply pF|apply pG);decide +kernel));(conv=>lhs;simp only[go_sem, ibin, ishift])<;>rfl))
    refine CK_pure hout rfl ?_
    rintro v h' ⟨rfl, rfl⟩
    (with_reducible((first|apply WO2_finw|apply WO2_fina);(conv=>lhs;simp only[go_sem, ibin, ishift])<;>rfl))
    (repeat' with_reducible first |apply qA|apply qB|apply qC|apply qD|apply qE|apply qF|(apply qG;decide)|apply qH|apply qI|apply qJ|apply qK|((first|apply qL|apply qM|apply qN|apply qO|((first|apply qP|apply qQ);decide +kernel));(conv=>lhs;simp only[go_sem, ibin, ishift])<;>rfl)|((first|apply qR|apply qS);(conv=>lhs;simp only[go_sem])<;>rfl;rfl)|((first|apply qT|apply qU);(conv=>lhs;simp only[go_sem])<;>rfl;rfl)|apply qV|apply qW|apply qX|apply qY|apply qZ)
    refine W2_loopu (fun m u g => ∃ (k : Nat) (last : Int), k + m = W.length ∧ (∀ d ∈ W.drop k, last < d) ∧ u = [(9, .i .i64 ((c0 + k : Nat) : Int)), (11, .i .i64 last), (48, .i .i64 k)] ∧ g = []) W.length ⟨0, 0, by omega, fun d hd => by obtain ⟨i, e, _, _, _, rfl⟩ := hWm d hd; omega, rfl, rfl⟩ rfl rfl ?_
    rintro m u g ⟨k, last, hk, hlast, rfl, rfl⟩
    intro e1 h1 he1 hh1; simp only [egd, supE, hgd, supH, Nat.reduceEqDiff, Nat.reduceAdd, if_true, if_false, reduceIte] at he1 hh1; subst he1; subst hh1
    by_cases hkt : k < W.length
    · have hgk := List.getElem?_eq_getElem hkt
      have hdk := List.drop_eq_getElem_cons hkt
      have hmk := List.getElem_mem hkt
      have hsk : ∀ d ∈ W.drop (k + 1), W[k] < d := fun d hd => by
        have := hWs.drop (i := k)
        rw [hdk] at this
        exact (List.pairwise_cons.1 this).1 d hd
      generalize W[k] = d at hgk hdk hmk hsk
      obtain ⟨i, e, hi, hei, hea2, rfl⟩ := hWm d hmk
      have hld := hlast ((i : Int) + 1) (by rw [hdk]; simp)
      have zk : decide (k < W.length) = true := decide_eq_true hkt
      have zki : decide ((k : Int) < (W.length : Int)) = true := decide_eq_true (by omega)
      have k0 : (0 : Int) ≤ (k : Int) := by omega
      have k1 : (k : Int) < (W.length : Int) := by omega
      have wk := wS (show k < 9223372036854775807 by omega)
      have wc := wS (show c0 + k < 9223372036854775807 by omega)
      have z1 : decide ((i : Int) + 1 ≤ last) = false := decide_eq_false (by omega)
      have z2 : decide ((i : Int) + 1 > (l.es.length : Int)) = false := decide_eq_false (by omega)
      have wi1 : IntKind.i64.wrap ((i : Int) + 1 - 1) = (i : Int) := by rw [wi _ (by omega) (by omega)]; omega
      have i0 : (0 : Int) ≤ (i : Int) := by omega
      have i1 : (i : Int) < (l.es.length : Int) := by omega
      have z3 : decide (e.a = (j : Int)) = true := decide_eq_true hea2
      (repeat' with_reducible first |apply qA|apply qB|apply qC|apply qD|apply qE|apply qF|(apply qG;decide)|apply qH|apply qI|apply qJ|apply qK|((first|apply qL|apply qM|apply qN|apply qO|((first|apply qP|apply qQ);decide +kernel));(conv=>lhs;simp only[go_sem, ibin, ishift, zk, zki, hgk, hkt, k0, k1, cI, z1, z2, wi1, i0, i1, hei, hi, cD, z3, wk, wc])<;>rfl)|((first|apply qR|apply qS);(conv=>lhs;simp only[go_sem])<;>rfl;rfl)|((first|apply qT|apply qU);(conv=>lhs;simp only[go_sem])<;>rfl;rfl)|apply qV|apply qW|apply qX|apply qY|apply qZ)
      refine ⟨[0, 1, 2, 3], by decide, rfl, ?_⟩
      exact ⟨W.length - (k + 1), _, _, by omega, ⟨k + 1, (i : Int) + 1, by omega, hsk, rfl, rfl⟩, rfl, (by first | rfl | ((conv => lhs; simp only [go_sem, ibin, ishift]) <;> rfl))⟩
    · have zk : decide (k < W.length) = false := decide_eq_false hkt
      have zki : decide ((k : Int) < (W.length : Int)) = false := decide_eq_false (by omega)
      have hkl : k = W.length := by omega
      (repeat' with_reducible first |apply qA|apply qB|apply qC|apply qD|apply qE|apply qF|(apply qG;decide)|apply qH|apply qI|apply qJ|apply qK|((first|apply qL|apply qM|apply qN|apply qO|((first|apply qP|apply qQ);decide +kernel));(conv=>lhs;simp only[go_sem, ibin, ishift, zk, zki, wj])<;>rfl)|((first|apply qR|apply qS);(conv=>lhs;simp only[go_sem])<;>rfl;rfl)|((first|apply qT|apply qU);(conv=>lhs;simp only[go_sem])<;>rfl;rfl)|apply qV|apply qW|apply qX|apply qY|apply qZ)
      refine ⟨[0, 1, 2, 3], by decide, rfl, ?_⟩
      exact ⟨l.ns.length - (j + 1), _, _, by omega, ⟨j + 1, c0 + k, by omega, by rw [hcs, hkl], by omega, rfl, rfl⟩, rfl, (by first | rfl | ((conv => lhs; simp only [go_sem, ibin, ishift]) <;> rfl))⟩
  have hje : j = l.ns.length := by omega
  have zj : decide (j < l.ns.length) = false := decide_eq_false hjt
  have zji : decide ((j : Int) < (l.ns.length : Int)) = false := decide_eq_false (by omega)
  rw [hje, hsum] at hc0
  subst hc0
  have ho2 := hlo nd
  (repeat' with_reducible first |apply qA|apply qB|apply qC|apply qD|apply qE|apply qF|(apply qG;decide)|apply qH|apply qI|apply qJ|apply qK|((first|apply qL|apply qM|apply qN|apply qO|((first|apply qP|apply qQ);decide +kernel));(conv=>lhs;simp only[go_sem, ibin, ishift, zj, zji])<;>rfl)|((first|apply qR|apply qS);(conv=>lhs;simp only[go_sem])<;>rfl;rfl)|((first|apply qT|apply qU);(conv=>lhs;simp only[go_sem])<;>rfl;rfl)|apply qV|apply qW|apply qX|apply qY|apply qZ)
  by_cases hn0 : nd < 0
  case' pos =>
    have z1 : decide (nd < 0) = true := decide_eq_true hn0
    rw [show outI l nd = [] from if_neg (by omega)] at ho2
    (with_reducible((first|apply pA|apply pB|apply pC|apply pD|apply pE|((first|apply pF|apply pG);decide +kernel));(conv=>lhs;simp only[go_sem, ibin, ishift, z1])<;>rfl))
    refine CK_pure ho2 rfl ?_
    rintro v h' ⟨rfl, rfl⟩
    (with_reducible((first|apply WO2_finw|apply WO2_fina);(conv=>lhs;simp only[go_sem, ibin, ishift])<;>rfl))
    (repeat' with_reducible first |apply qA|apply qB|apply qC|apply qD|apply qE|apply qF|(apply qG;decide)|apply qH|apply qI|apply qJ|apply qK|((first|apply qL|apply qM|apply qN|apply qO|((first|apply qP|apply qQ);decide +kernel));(conv=>lhs;simp only[go_sem, ibin, ishift])<;>rfl)|((first|apply qR|apply qS);(conv=>lhs;simp only[go_sem])<;>rfl;rfl)|((first|apply qT|apply qU);(conv=>lhs;simp only[go_sem])<;>rfl;rfl)|apply qV|apply qW|apply qX|apply qY|apply qZ)
  case' neg =>
    have z1 : decide (nd < 0) = false := decide_eq_false hn0
    by_cases hn1 : nd ≥ (l.ns.length : Int)
    case' pos =>
      have z2 : decide (nd ≥ (l.ns.length : Int)) = true := decide_eq_true hn1
      rw [show outI l nd = [] from if_neg (by omega)] at ho2
      (with_reducible((first|apply pA|apply pB|apply pC|apply pD|apply pE|((first|apply pF|apply pG);decide +kernel));(conv=>lhs;simp only[go_sem, ibin, ishift, z1, z2])<;>rfl))
      refine CK_pure ho2 rfl ?_
      rintro v h' ⟨rfl, rfl⟩
      (with_reducible((first|apply WO2_finw|apply WO2_fina);(conv=>lhs;simp only[go_sem, ibin, ishift])<;>rfl))
      (repeat' with_reducible first |apply qA|apply qB|apply qC|apply qD|apply qE|apply qF|(apply qG;decide)|apply qH|apply qI|apply qJ|apply qK|((first|apply qL|apply qM|apply qN|apply qO|((first|apply qP|apply qQ);decide +kernel));(conv=>lhs;simp only[go_sem, ibin, ishift])<;>rfl)|((first|apply qR|apply qS);(conv=>lhs;simp only[go_sem])<;>rfl;rfl)|((first|apply qT|apply qU);(conv=>lhs;simp only[go_sem])<;>rfl;rfl)|apply qV|apply qW|apply qX|apply qY|apply qZ)
    case' neg =>
      have z2 : decide (nd ≥ (l.ns.length : Int)) = false := decide_eq_false hn1
      (repeat' with_reducible first |apply qA|apply qB|apply qC|apply qD|apply qE|apply qF|(apply qG;decide)|apply qH|apply qI|apply qJ|apply qK|((first|apply qL|apply qM|apply qN|apply qO|((first|apply qP|apply qQ);decide +kernel));(conv=>lhs;simp only[go_sem, ibin, ishift, z1, z2])<;>rfl)|((first|apply qR|apply qS);(conv=>lhs;simp only[go_sem])<;>rfl;rfl)|((first|apply qT|apply qU);(conv=>lhs;simp only[go_sem])<;>rfl;rfl)|apply qV|apply qW|apply qX|apply qY|apply qZ)
  all_goals
    (repeat' with_reducible first |apply qA|apply qB|apply qC|apply qD|apply qE|apply qF|(apply qG;decide)|apply qH|apply qI|apply qJ|apply qK|apply qX|((first|apply qR|apply qS);(conv=>lhs;simp only[go_sem])<;>rfl;rfl)|((first|apply qT|apply qU);(conv=>lhs;simp only[go_sem])<;>rfl;rfl)|apply qZ|apply qY|apply qW)
    (with_reducible first | apply W2_sregH [0] [false, false, false, false, false, false, false, false, false, true, false] | apply W2_regH [0] [false, false, false, false, false, false, false, false, false, true, false])
    · decide
    · decide
    · rfl
    ((conv => lhs; simp only [go_sem, ibin, ishift]) <;> with_reducible rfl)
    refine EH_pure (hlf nm) rfl ?_
    rintro v h' ⟨rfl, rfl⟩
    (with_reducible apply WOH_go (by decide); ((conv => lhs; simp only [go_sem, ibin, ishift]) <;> with_reducible rfl))
    refine EH_ck ?_
    refine CK_pure (hrf nm) rfl ?_
    rintro v h' ⟨rfl, rfl⟩
    (with_reducible((first|apply pA|apply pB|apply pC|apply pD|apply pE|((first|apply pF|apply pG);decide +kernel));(conv=>lhs;simp only[go_sem, ibin, ishift])<;>rfl))
    refine CK_pure hsame rfl ?_
    rintro v h' ⟨rfl, rfl⟩
    (with_reducible((first|apply WO2_finw|apply WO2_fina);(conv=>lhs;simp only[go_sem, ibin, ishift])<;>rfl))
    (repeat' with_reducible first |apply qA|apply qB|apply qC|apply qD|apply qE|apply qF|(apply qG;decide)|apply qH|apply qI|apply qJ|apply qK|((first|apply qL|apply qM|apply qN|apply qO|((first|apply qP|apply qQ);decide +kernel));(conv=>lhs;simp only[go_sem, ibin, ishift])<;>rfl)|((first|apply qR|apply qS);(conv=>lhs;simp only[go_sem])<;>rfl;rfl)|((first|apply qT|apply qU);(conv=>lhs;simp only[go_sem])<;>rfl;rfl)|apply qV|apply qW|apply qX|apply qY|apply qZ)
    refine ⟨by first | exact .inr rfl | exact .inl rfl, _, _, (by (conv => lhs; simp only [go_sem, ibin, ishift]) <;> with_reducible rfl), (by (conv => lhs; simp only [go_sem, ibin, ishift]) <;> with_reducible rfl), ?_⟩
    refine ⟨[], by decide, rfl, ?_⟩
    rfl
end Go.Proofs.YtankmcjfglbbiaaDoor.Ab
