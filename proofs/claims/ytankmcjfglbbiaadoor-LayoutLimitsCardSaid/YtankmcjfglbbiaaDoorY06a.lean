/- Layouts: names; layout.Check. -/
import Derived.Test.YtankmcjfglbbiaaDoorMS2
import Derived.Test.YtankmcjfglbbiaaDoorC06
namespace Go.Proofs.YtankmcjfglbbiaaDoor.Ab
open Go
set_option linter.unusedVariables false
set_option linter.unusedSimpArgs false
variable {T : AT}
structure Nd where
  name : List UInt8
  kind : Int
  zone : Int
def cN (n : Nd) : List PV := [.s n.name, .i .i64 n.kind, .i .i64 n.zone]
structure Ed where
  a : Int
  b : Int
  deriving DecidableEq
def cD (e : Ed) : List PV := [.i .i64 e.a, .i .i64 e.b]
def Ed.p (e : Ed) : Int × Int := (e.a, e.b)
theorem Ed.p_inj {e f : Ed} (h : e.p = f.p) : e = f := by
  cases e; cases f; simp [Ed.p] at h; simp [h]
structure Lay where
  ns : List Nd
  es : List Ed
def Lay.v (l : Lay) : SV := .agg [.fz 3 (l.ns.map cN), .fz 2 (l.es.map cD)]
/-- a byte of a name, at its place -/
def chOk (i : Nat) (c : UInt8) : Bool := decide (97 ≤ (c.toNat : Int) ∧ (c.toNat : Int) ≤ 122 ∨ i ≠ 0 ∧ 48 ≤ (c.toNat : Int) ∧ (c.toNat : Int) ≤ 57)
def chsOk (s : List UInt8) : Bool := (List.range s.length).all fun i => match s[i]? with | some c => chOk i c | none => true
def nameOk (s : List UInt8) : Bool := chsOk s && decide (1 ≤ s.length) && decide (s.length ≤ 8)
theorem chsOk_iff {s : List UInt8} : chsOk s = true ↔ ∀ i c, s[i]? = some c → chOk i c = true := by
  simp only [chsOk, List.all_eq_true, List.mem_range]
  constructor
  · intro h i c hi
    have := h i (List.getElem?_eq_some_iff.1 hi).1
    rw [hi] at this; exact this
  · intro h i hi
    have := h i _ (List.getElem?_eq_getElem hi)
    rw [List.getElem?_eq_getElem hi]; exact this
theorem chsOk_false {s : List UInt8} {i : Nat} {c : UInt8} (hi : s[i]? = some c) (h : chOk i c = false) : chsOk s = false := by
  cases hc : chsOk s with
  | false => rfl
  | true => rw [chsOk_iff.1 hc i c hi] at h; cases h
theorem chsOk_true {s : List UInt8} (h : ∀ i < s.length, ∀ c, s[i]? = some c → chOk i c = true) : chsOk s = true := chsOk_iff.2 fun i c hi => h i (List.getElem?_eq_some_iff.1 hi).1 c hi
structure TabK (T : AT) : Prop where
  name : T i_layout_name = some (.fn c_layout_name)
  out : T i_layout_Check_1 = some (.fn c_layout_Check_1)
  check : T i_layout_Check = some (.fn c_layout_Check)
theorem name_spec (c : TabK T) (s : List UInt8) (hs : s.length ≤ 9223372036854775807) : Ret2 T 0 i_layout_name [.s s] [] (fun v h' => v = .b (nameOk s) ∧ h' = []) := by
  refine Ret2_fnv c.name rfl rfl ?_
  (repeat' with_reducible first |apply qA|apply qB|apply qC|apply qD|apply qE|apply qF|(apply qG;decide)|apply qH|apply qI|apply qJ|apply qK|((first|apply qL|apply qM|apply qN|apply qO|((first|apply qP|apply qQ);decide +kernel));(conv=>lhs;simp only[go_sem, ibin, ishift, hs])<;>rfl)|((first|apply qR|apply qS);(conv=>lhs;simp only[go_sem])<;>rfl;rfl)|((first|apply qT|apply qU);(conv=>lhs;simp only[go_sem])<;>rfl;rfl)|apply qV|apply qW|apply qX|apply qY|apply qZ)
  refine W2_loopu (fun m u g => ∃ j, j + m = s.length ∧ (∀ i < j, ∀ c, s[i]? = some c → chOk i c = true) ∧ u = [(8, .i .i64 j)] ∧ g = []) s.length ⟨0, by omega, fun i hi => by omega, rfl, rfl⟩ rfl rfl ?_
  rintro m u g ⟨j, hj, hok, rfl, rfl⟩
  intro e1 h1 he1 hh1; simp only [egd, supE, hgd, supH, Nat.reduceEqDiff, Nat.reduceAdd, if_true, if_false, reduceIte] at he1 hh1; subst he1; subst hh1
  (repeat' with_reducible first |apply qA|apply qB|apply qC|apply qD|apply qE|apply qF|(apply qG;decide)|apply qH|apply qI|apply qJ|apply qK|((first|apply qL|apply qM|apply qN|apply qO|((first|apply qP|apply qQ);decide +kernel));(conv=>lhs;simp only[go_sem, ibin, ishift])<;>rfl)|((first|apply qR|apply qS);(conv=>lhs;simp only[go_sem])<;>rfl;rfl)|((first|apply qT|apply qU);(conv=>lhs;simp only[go_sem])<;>rfl;rfl)|apply qV|apply qW|apply qX|apply qY|apply qZ)
  (((first | with_reducible apply W2_sc | with_reducible apply W2_cond); ((conv => lhs; simp only [go_sem]) <;> with_reducible rfl)) <;> intro hx <;> (try rw [hx]) <;> simp only [Bool.or_eq_true, Bool.and_eq_true, decide_eq_true_eq, Bool.or_eq_false_iff, Bool.and_eq_false_iff, decide_eq_false_iff_not, Bool.not_eq_true', Bool.not_eq_false', bne_iff_ne, beq_iff_eq, not_or, not_and, Decidable.not_not, ne_eq, gt_iff_lt, ge_iff_le, Int.not_lt, Int.not_le] at hx)
  · have hjl : j < s.length := by omega
    have hg := List.getElem?_eq_getElem hjl
    have htk : s.take (j + 1) = s.take j ++ [s[j]] := by rw [List.take_add_one, List.getElem?_eq_getElem hjl]; rfl
    have hmem := List.getElem_mem hjl
    generalize s[j] = x at hg htk hmem
    have h0 : (0 : Int) ≤ (j : Int) := by omega
    have h1 : (j : Int) < (s.length : Int) := by omega
    (repeat' with_reducible first |apply qA|apply qB|apply qC|apply qD|apply qE|apply qF|(apply qG;decide)|apply qH|apply qI|apply qJ|apply qK|((first|apply qL|apply qM|apply qN|apply qO|((first|apply qP|apply qQ);decide +kernel));(conv=>lhs;simp only[go_sem, ibin, ishift, hg, hjl, h0, h1])<;>rfl)|((first|apply qR|apply qS);(conv=>lhs;simp only[go_sem])<;>rfl;rfl)|((first|apply qT|apply qU);(conv=>lhs;simp only[go_sem])<;>rfl;rfl)|apply qV|apply qW|apply qX|apply qY|apply qZ)
    rw [show ((decide ((x.toNat : Int) < 97) || decide ((x.toNat : Int) > 122)) && (decide ((j : Int) = 0) || decide ((x.toNat : Int) < 48) || decide ((x.toNat : Int) > 57))) = !chOk j x by
      rw [Bool.eq_iff_iff]; simp only [chOk, Bool.and_eq_true, Bool.or_eq_true, decide_eq_true_eq, Bool.not_eq_true', decide_eq_false_iff_not]; omega]
    cases hc : chOk j x with
    | true =>
      (repeat' with_reducible first |apply qA|apply qB|apply qC|apply qD|apply qE|apply qF|(apply qG;decide)|apply qH|apply qI|apply qJ|apply qK|((first|apply qL|apply qM|apply qN|apply qO|((first|apply qP|apply qQ);decide +kernel));(conv=>lhs;simp only[go_sem, ibin, ishift, wS (show j < 9223372036854775807 by omega)])<;>rfl)|((first|apply qR|apply qS);(conv=>lhs;simp only[go_sem])<;>rfl;rfl)|((first|apply qT|apply qU);(conv=>lhs;simp only[go_sem])<;>rfl;rfl)|apply qV|apply qW|apply qX|apply qY|apply qZ)
      refine ⟨[0], by decide, rfl, ?_⟩
      exact ⟨s.length - (j + 1), _, _, by omega, ⟨j + 1, by omega, fun i hi c h => by
        by_cases e : i = j
        · subst e; rw [hg] at h; cases h; exact hc
        · exact hok i (by omega) c h, rfl, rfl⟩, rfl, (by first | rfl | ((conv => lhs; simp only [go_sem, ibin, ishift]) <;> rfl))⟩
    | false =>
      (repeat' with_reducible first |apply qA|apply qB|apply qC|apply qD|apply qE|apply qF|(apply qG;decide)|apply qH|apply qI|apply qJ|apply qK|((first|apply qL|apply qM|apply qN|apply qO|((first|apply qP|apply qQ);decide +kernel));(conv=>lhs;simp only[go_sem, ibin, ishift])<;>rfl)|((first|apply qR|apply qS);(conv=>lhs;simp only[go_sem])<;>rfl;rfl)|((first|apply qT|apply qU);(conv=>lhs;simp only[go_sem])<;>rfl;rfl)|apply qV|apply qW|apply qX|apply qY|apply qZ)
      refine ⟨by first | exact .inr rfl | exact .inl rfl, _, _, (by (conv => lhs; simp only [go_sem, ibin, ishift]) <;> with_reducible rfl), (by (conv => lhs; simp only [go_sem, ibin, ishift]) <;> with_reducible rfl), ?_⟩
      refine ⟨[], by decide, rfl, ?_⟩
      exact ⟨by rw [show nameOk s = false by simp [nameOk, chsOk_false hg hc]]; rfl, rfl⟩
  · (repeat' with_reducible first |apply qA|apply qB|apply qC|apply qD|apply qE|apply qF|(apply qG;decide)|apply qH|apply qI|apply qJ|apply qK|((first|apply qL|apply qM|apply qN|apply qO|((first|apply qP|apply qQ);decide +kernel));(conv=>lhs;simp only[go_sem, ibin, ishift])<;>rfl)|((first|apply qR|apply qS);(conv=>lhs;simp only[go_sem])<;>rfl;rfl)|((first|apply qT|apply qU);(conv=>lhs;simp only[go_sem])<;>rfl;rfl)|apply qV|apply qW|apply qX|apply qY|apply qZ)
    refine ⟨by first | exact .inr rfl | exact .inl rfl, _, _, (by (conv => lhs; simp only [go_sem, ibin, ishift]) <;> with_reducible rfl), (by (conv => lhs; simp only [go_sem, ibin, ishift]) <;> with_reducible rfl), ?_⟩
    refine ⟨[], by decide, rfl, ?_⟩
    have hjn : j = s.length := by omega
    subst hjn
    refine ⟨?_, rfl⟩
    have := chsOk_true hok
    simp only [nameOk, this, SV.cv, Bool.true_and]
    congr 3
    · rw [Bool.eq_iff_iff]; simp only [decide_eq_true_eq]; omega
    · rw [Bool.eq_iff_iff]; simp only [decide_eq_true_eq]; omega
theorem out_spec (c : TabK T) (i n : Int) : Ret2 T 1 i_layout_Check_1 [.i .i64 i, .ptr 0 0] [some (.obj [.i .i64 n])] (fun v h' => v = .b (decide (i < 0 ∨ n ≤ i)) ∧ h' = [some (.obj [.i .i64 n])]) := by
  refine Ret2_fnv c.out rfl rfl ?_
  (repeat' with_reducible first |apply qA|apply qB|apply qC|apply qD|apply qE|apply qF|(apply qG;decide)|apply qH|apply qI|apply qJ|apply qK|((first|apply qL|apply qM|apply qN|apply qO|((first|apply qP|apply qQ);decide +kernel));(conv=>lhs;simp only[go_sem, ibin, ishift])<;>rfl)|((first|apply qR|apply qS);(conv=>lhs;simp only[go_sem])<;>rfl;rfl)|((first|apply qT|apply qU);(conv=>lhs;simp only[go_sem])<;>rfl;rfl)|apply qV|apply qW|apply qX|apply qY|apply qZ)
  refine ⟨by first | exact .inr rfl | exact .inl rfl, _, _, (by (conv => lhs; simp only [go_sem, ibin, ishift]) <;> with_reducible rfl), (by (conv => lhs; simp only [go_sem, ibin, ishift]) <;> with_reducible rfl), ?_⟩
  refine ⟨[0], by decide, rfl, ?_⟩
  refine ⟨?_, rfl⟩
  simp only [SV.cv]
  congr 2
  rw [Bool.eq_iff_iff]; simp only [Bool.or_eq_true, decide_eq_true_eq]
/-- a node, behind those that come ahead of it -/
def okN (pre : List Nd) (x : Nd) : Bool := nameOk x.name && decide (1 ≤ x.kind ∧ x.kind ≤ 4) && decide (0 ≤ x.zone ∧ x.zone ≤ 7) && !(pre.any fun y => decide (y.name = x.name))
def kindAt (ns : List Nd) (i : Int) : Int := match ns[i.toNat]? with | some x => x.kind | none => 0
def okE (ns : List Nd) (pre : List Ed) (e : Ed) : Bool := decide (0 ≤ e.a ∧ e.a < ns.length) && decide (0 ≤ e.b ∧ e.b < ns.length) && decide (e.a ≠ e.b) && decide (kindAt ns e.a = 1 ∨ kindAt ns e.b = 1) && !(pre.any fun f => decide (f = e))
def allOk {α : Type} (ok : List α → α → Bool) (l : List α) : Bool := (List.range l.length).all fun i => match l[i]? with | some x => ok (l.take i) x | none => true
theorem allOk_iff {α : Type} {ok : List α → α → Bool} {l : List α} : allOk ok l = true ↔ ∀ i x, l[i]? = some x → ok (l.take i) x = true := by
  simp only [allOk, List.all_eq_true, List.mem_range]
  constructor
  · intro h i c hi
    have := h i (List.getElem?_eq_some_iff.1 hi).1
    rw [hi] at this; exact this
  · intro h i hi
    have := h i _ (List.getElem?_eq_getElem hi)
    rw [List.getElem?_eq_getElem hi]; exact this
theorem allOk_false {α : Type} {ok : List α → α → Bool} {l : List α} {i : Nat} {x : α} (hi : l[i]? = some x) (h : ok (l.take i) x = false) : allOk ok l = false := by
  cases hc : allOk ok l with
  | false => rfl
  | true => rw [allOk_iff.1 hc i x hi] at h; cases h
theorem allOk_true {α : Type} {ok : List α → α → Bool} {l : List α} (h : ∀ i < l.length, ∀ x, l[i]? = some x → ok (l.take i) x = true) : allOk ok l = true := allOk_iff.2 fun i x hi => h i (List.getElem?_eq_some_iff.1 hi).1 x hi
def Lay.good (l : Lay) : Bool := decide (1 ≤ l.ns.length) && decide (l.ns.length ≤ 40) && decide (l.es.length ≤ 120) && allOk okN l.ns && allOk (okE l.ns) l.es
theorem okN_name {pre : List Nd} {x : Nd} (h : okN pre x = true) : nameOk x.name = true ∧ 1 ≤ x.kind ∧ x.kind ≤ 4 ∧ 0 ≤ x.zone ∧ x.zone ≤ 7 ∧ ∀ y ∈ pre, y.name ≠ x.name := by
  simp only [okN, Bool.and_eq_true, decide_eq_true_eq, Bool.not_eq_true', List.any_eq_false] at h
  exact ⟨h.1.1.1, h.1.1.2.1, h.1.1.2.2, h.1.2.1, h.1.2.2, h.2⟩
def oneP {α : Type} (_ : α) : PV := .i .i64 1
theorem good_size {ns : List Nd} {es : List Ed} (h : ¬(1 ≤ ns.length ∧ ns.length ≤ 40 ∧ es.length ≤ 120)) : Lay.good ⟨ns, es⟩ = false := by
  cases hb : Lay.good ⟨ns, es⟩ with
  | false => rfl
  | true =>
    simp only [Lay.good, Bool.and_eq_true, decide_eq_true_eq] at hb
    omega
theorem good_node {ns : List Nd} {es : List Ed} {i : Nat} {x : Nd} (hi : ns[i]? = some x) (h : okN (ns.take i) x = false) : Lay.good ⟨ns, es⟩ = false := by
  simp [Lay.good, allOk_false hi h]
theorem good_edge {ns : List Nd} {es : List Ed} {i : Nat} {x : Ed} (hi : es[i]? = some x) (h : okE ns (es.take i) x = false) : Lay.good ⟨ns, es⟩ = false := by
  simp [Lay.good, allOk_false hi h]
theorem okN_new {pre : List Nd} {x : Nd} (h : ∀ y ∈ pre, y.name ≠ x.name) : okN pre x = !(!nameOk x.name || decide (x.kind < 1) || decide (x.kind > 4) || decide (x.zone < 0) || decide (x.zone ≥ 8)) := by
  have : (pre.any fun y => decide (y.name = x.name)) = false := List.any_eq_false.2 fun y hy => by simpa using h y hy
  rw [okN, this, Bool.eq_iff_iff]
  simp only [Bool.and_eq_true, decide_eq_true_eq, Bool.not_eq_true', Bool.or_eq_false_iff, decide_eq_false_iff_not, Bool.not_false, and_true]
  cases nameOk x.name <;> simp <;> omega
theorem wr1 : IntKind.i64.wrap 1 = 1 := rfl
theorem okE_iff {ns : List Nd} {pre : List Ed} {e : Ed} : okE ns pre e = true ↔ (0 ≤ e.a ∧ e.a < ns.length) ∧ (0 ≤ e.b ∧ e.b < ns.length) ∧ e.a ≠ e.b ∧ (kindAt ns e.a = 1 ∨ kindAt ns e.b = 1) ∧ ∀ f ∈ pre, f ≠ e := by
  simp only [okE, Bool.and_eq_true, decide_eq_true_eq, Bool.not_eq_true', List.any_eq_false]
  simp only [and_assoc]
theorem okE_not {ns : List Nd} {pre : List Ed} {e : Ed} (h : ¬((0 ≤ e.a ∧ e.a < ns.length) ∧ (0 ≤ e.b ∧ e.b < ns.length) ∧ e.a ≠ e.b ∧ (kindAt ns e.a = 1 ∨ kindAt ns e.b = 1) ∧ ∀ f ∈ pre, f ≠ e)) : okE ns pre e = false := by
  cases hb : okE ns pre e with
  | false => rfl
  | true => exact (h (okE_iff.1 hb)).elim
theorem okE_a {ns : List Nd} {pre : List Ed} {e : Ed} (h : e.a < 0 ∨ (ns.length : Int) ≤ e.a) : okE ns pre e = false := okE_not fun k => by omega
theorem okE_b {ns : List Nd} {pre : List Ed} {e : Ed} (h : e.b < 0 ∨ (ns.length : Int) ≤ e.b) : okE ns pre e = false := okE_not fun k => by omega
set_option maxHeartbeats 1000000 in
theorem check_spec (c : TabK T) (l : Lay) (hl : l.ns.length ≤ 1000000 ∧ l.es.length ≤ 1000000) (hs : ∀ x ∈ l.ns, x.name.length ≤ 9223372036854775807) : Ret2 T 0 i_layout_Check [l.v] [] (fun v h' => v = .i .i64 (if l.good = true then 0 else 61) ∧ h' = []) := by
  obtain ⟨ns, es⟩ := l
  simp only at hl hs
  refine Ret2_fnv c.check rfl rfl ?_
  unfold Lay.v
  simp only
  (repeat' with_reducible first |apply qA|apply qB|apply qC|apply qD|apply qE|apply qF|(apply qG;decide)|apply qH|apply qI|apply qJ|apply qK|((first|apply qL|apply qM|apply qN|apply qO|((first|apply qP|apply qQ);decide +kernel));(conv=>lhs;simp only[go_sem, ibin, ishift])<;>rfl)|((first|apply qR|apply qS);(conv=>lhs;simp only[go_sem])<;>rfl;rfl)|((first|apply qT|apply qU);(conv=>lhs;simp only[go_sem])<;>rfl;rfl)|apply qV|apply qW|apply qX|apply qY|apply qZ)
  by_cases hsz : 1 ≤ ns.length ∧ ns.length ≤ 40 ∧ es.length ≤ 120
  rotate_left
  · rw [show (decide ((ns.length : Int) < 1) || decide ((ns.length : Int) > 40) || decide ((es.length : Int) > 120)) = true by
      simp only [Bool.or_eq_true, decide_eq_true_eq]; omega]
    (repeat' with_reducible first |apply qA|apply qB|apply qC|apply qD|apply qE|apply qF|(apply qG;decide)|apply qH|apply qI|apply qJ|apply qK|((first|apply qL|apply qM|apply qN|apply qO|((first|apply qP|apply qQ);decide +kernel));(conv=>lhs;simp only[go_sem, ibin, ishift])<;>rfl)|((first|apply qR|apply qS);(conv=>lhs;simp only[go_sem])<;>rfl;rfl)|((first|apply qT|apply qU);(conv=>lhs;simp only[go_sem])<;>rfl;rfl)|apply qV|apply qW|apply qX|apply qY|apply qZ)
    refine ⟨by first | exact .inr rfl | exact .inl rfl, _, _, (by (conv => lhs; simp only [go_sem, ibin, ishift]) <;> with_reducible rfl), (by (conv => lhs; simp only [go_sem, ibin, ishift]) <;> with_reducible rfl), ?_⟩
    refine ⟨[], by decide, rfl, ?_⟩
    exact ⟨by rw [good_size hsz]; rfl, rfl⟩
  rw [show (decide ((ns.length : Int) < 1) || decide ((ns.length : Int) > 40) || decide ((es.length : Int) > 120)) = false by
    simp only [Bool.or_eq_false_iff, decide_eq_false_iff_not]; omega]
  (repeat' with_reducible first |apply qA|apply qB|apply qC|apply qD|apply qE|apply qF|(apply qG;decide)|apply qH|apply qI|apply qJ|apply qK|((first|apply qL|apply qM|apply qN|apply qO|((first|apply qP|apply qQ);decide +kernel));(conv=>lhs;simp only[go_sem, ibin, ishift])<;>rfl)|((first|apply qR|apply qS);(conv=>lhs;simp only[go_sem])<;>rfl;rfl)|((first|apply qT|apply qU);(conv=>lhs;simp only[go_sem])<;>rfl;rfl)|apply qV|apply qW|apply qX|apply qY|apply qZ)
  refine W2_loopu (fun m u g => ∃ j, j + m = ns.length ∧ (∀ i < j, ∀ x, ns[i]? = some x → okN (ns.take i) x = true) ∧ u = [(30, .i .i64 j)] ∧ g = [(2, .map ((ns.take j).map (mS Nd.name oneP)))]) ns.length ⟨0, by omega, fun i hi => by omega, rfl, rfl⟩ rfl rfl ?_
  rintro m u g ⟨j, hj, hok, rfl, rfl⟩
  intro e1 h1 he1 hh1; simp only [egd, supE, hgd, supH, Nat.reduceEqDiff, Nat.reduceAdd, if_true, if_false, reduceIte] at he1 hh1; subst he1; subst hh1
  (repeat' with_reducible first |apply qA|apply qB|apply qC|apply qD|apply qE|apply qF|(apply qG;decide)|apply qH|apply qI|apply qJ|apply qK|((first|apply qL|apply qM|apply qN|apply qO|((first|apply qP|apply qQ);decide +kernel));(conv=>lhs;simp only[go_sem, ibin, ishift])<;>rfl)|((first|apply qR|apply qS);(conv=>lhs;simp only[go_sem])<;>rfl;rfl)|((first|apply qT|apply qU);(conv=>lhs;simp only[go_sem])<;>rfl;rfl)|apply qV|apply qW|apply qX|apply qY|apply qZ)
  (((first | with_reducible apply W2_sc | with_reducible apply W2_cond); ((conv => lhs; simp only [go_sem]) <;> with_reducible rfl)) <;> intro hx <;> (try rw [hx]) <;> simp only [Bool.or_eq_true, Bool.and_eq_true, decide_eq_true_eq, Bool.or_eq_false_iff, Bool.and_eq_false_iff, decide_eq_false_iff_not, Bool.not_eq_true', Bool.not_eq_false', bne_iff_ne, beq_iff_eq, not_or, not_and, Decidable.not_not, ne_eq, gt_iff_lt, ge_iff_le, Int.not_lt, Int.not_le] at hx)
  · have hjl : j < ns.length := by omega
    have hg := List.getElem?_eq_getElem hjl
    have htk : ns.take (j + 1) = ns.take j ++ [ns[j]] := by rw [List.take_add_one, List.getElem?_eq_getElem hjl]; rfl
    have hmem := List.getElem_mem hjl
    generalize ns[j] = x at hg htk hmem
    have h0 : (0 : Int) ≤ (j : Int) := by omega
    have h1 : (j : Int) < (ns.length : Int) := by omega
    cases hf : findK Nd.name x.name (ns.take j) 0 with
    | some p =>
      obtain ⟨i, y⟩ := p
      obtain ⟨hy, hyn⟩ := findK_mem hf
      have hbad : okN (ns.take j) x = false := by
        cases hb : okN (ns.take j) x with
        | false => rfl
        | true => exact ((okN_name hb).2.2.2.2.2 y hy hyn).elim
      (repeat' with_reducible first |apply qA|apply qB|apply qC|apply qD|apply qE|apply qF|(apply qG;decide)|apply qH|apply qI|apply qJ|apply qK|((first|apply qL|apply qM|apply qN|apply qO|((first|apply qP|apply qQ);decide +kernel));(conv=>lhs;simp only[go_sem, ibin, ishift, hg, hjl, h0, h1, cN, hf, oneP])<;>rfl)|((first|apply qR|apply qS);(conv=>lhs;simp only[go_sem])<;>rfl;rfl)|((first|apply qT|apply qU);(conv=>lhs;simp only[go_sem])<;>rfl;rfl)|apply qV|apply qW|apply qX|apply qY|apply qZ)
      refine ⟨by first | exact .inr rfl | exact .inl rfl, _, _, (by (conv => lhs; simp only [go_sem, ibin, ishift]) <;> with_reducible rfl), (by (conv => lhs; simp only [go_sem, ibin, ishift]) <;> with_reducible rfl), ?_⟩
      refine ⟨[], by decide, rfl, ?_⟩
      exact ⟨by rw [good_node hg hbad]; rfl, rfl⟩
    | none =>
      have hnew : ∀ y ∈ ns.take j, y.name ≠ x.name := findK_none.1 hf
      (repeat' with_reducible first |apply qA|apply qB|apply qC|apply qD|apply qE|apply qF|(apply qG;decide)|apply qH|apply qI|apply qJ|apply qK|((first|apply qL|apply qM|apply qN|apply qO|((first|apply qP|apply qQ);decide +kernel));(conv=>lhs;simp only[go_sem, ibin, ishift, hg, hjl, h0, h1, cN, hf, oneP])<;>rfl)|((first|apply qR|apply qS);(conv=>lhs;simp only[go_sem])<;>rfl;rfl)|((first|apply qT|apply qU);(conv=>lhs;simp only[go_sem])<;>rfl;rfl)|apply qV|apply qW|apply qX|apply qY|apply qZ)
      (with_reducible((first|apply pA|apply pB|apply pC|apply pD|apply pE|((first|apply pF|apply pG);decide +kernel));(conv=>lhs;simp only[go_sem, ibin, ishift, hf])<;>rfl))
      refine CK_pure (name_spec c x.name (hs x hmem)) rfl ?_
      rintro v h' ⟨rfl, rfl⟩
      cases hb : okN (ns.take j) x with
      | false =>
        (with_reducible((first|apply WO2_finw|apply WO2_fina);(conv=>lhs;simp only[go_sem, ibin, ishift])<;>rfl))
        rw [show (!nameOk x.name || decide (x.kind < 1) || decide (x.kind > 4) || decide (x.zone < 0) || decide (x.zone ≥ 8)) = true by
          rw [okN_new hnew] at hb
          rw [Bool.not_eq_false'] at hb; exact hb]
        (repeat' with_reducible first |apply qA|apply qB|apply qC|apply qD|apply qE|apply qF|(apply qG;decide)|apply qH|apply qI|apply qJ|apply qK|((first|apply qL|apply qM|apply qN|apply qO|((first|apply qP|apply qQ);decide +kernel));(conv=>lhs;simp only[go_sem, ibin, ishift])<;>rfl)|((first|apply qR|apply qS);(conv=>lhs;simp only[go_sem])<;>rfl;rfl)|((first|apply qT|apply qU);(conv=>lhs;simp only[go_sem])<;>rfl;rfl)|apply qV|apply qW|apply qX|apply qY|apply qZ)
        refine ⟨by first | exact .inr rfl | exact .inl rfl, _, _, (by (conv => lhs; simp only [go_sem, ibin, ishift]) <;> with_reducible rfl), (by (conv => lhs; simp only [go_sem, ibin, ishift]) <;> with_reducible rfl), ?_⟩
        refine ⟨[], by decide, rfl, ?_⟩
        exact ⟨by rw [good_node hg hb]; rfl, rfl⟩
      | true =>
        (with_reducible((first|apply WO2_finw|apply WO2_fina);(conv=>lhs;simp only[go_sem, ibin, ishift])<;>rfl))
        rw [show (!nameOk x.name || decide (x.kind < 1) || decide (x.kind > 4) || decide (x.zone < 0) || decide (x.zone ≥ 8)) = false by
          rw [okN_new hnew] at hb
          simpa using hb]
        (repeat' with_reducible first |apply qA|apply qB|apply qC|apply qD|apply qE|apply qF|(apply qG;decide)|apply qH|apply qI|apply qJ|apply qK|((first|apply qL|apply qM|apply qN|apply qO|((first|apply qP|apply qQ);decide +kernel));(conv=>lhs;simp only[go_sem, ibin, ishift, hf, wS (show j < 9223372036854775807 by omega), wr1])<;>rfl)|((first|apply qR|apply qS);(conv=>lhs;simp only[go_sem])<;>rfl;rfl)|((first|apply qT|apply qU);(conv=>lhs;simp only[go_sem])<;>rfl;rfl)|apply qV|apply qW|apply qX|apply qY|apply qZ)
        rw [show (ns.take j).map (mS Nd.name oneP) ++ [(SV.p (PV.s x.name), SV.p (PV.i IntKind.i64 1))] = (ns.take (j + 1)).map (mS Nd.name oneP) by rw [htk, List.map_append]; rfl]
        refine ⟨[0, 1, 2], by decide, rfl, ?_⟩
        exact ⟨ns.length - (j + 1), _, _, by omega, ⟨j + 1, by omega, fun i hi c h => by
          by_cases e : i = j
          · subst e; rw [hg] at h; cases h; exact hb
          · exact hok i (by omega) c h, rfl, rfl⟩, rfl, (by first | rfl | ((conv => lhs; simp only [go_sem, ibin, ishift]) <;> rfl))⟩
  have hjn : j = ns.length := by omega
  subst hjn
  have hN := allOk_true hok
  (repeat' with_reducible first |apply qA|apply qB|apply qC|apply qD|apply qE|apply qF|(apply qG;decide)|apply qH|apply qI|apply qJ|apply qK|((first|apply qL|apply qM|apply qN|apply qO|((first|apply qP|apply qQ);decide +kernel));(conv=>lhs;simp only[go_sem, ibin, ishift])<;>rfl)|((first|apply qR|apply qS);(conv=>lhs;simp only[go_sem])<;>rfl;rfl)|((first|apply qT|apply qU);(conv=>lhs;simp only[go_sem])<;>rfl;rfl)|apply qV|apply qW|apply qX|apply qY|apply qZ)
  refine W2_loopu (fun m u g => ∃ j, j + m = es.length ∧ (∀ i < j, ∀ x, es[i]? = some x → okE ns (es.take i) x = true) ∧ u = [(75, .i .i64 j)] ∧ g = [(3, .map ((es.take j).map (mD Ed.p oneP)))]) es.length ⟨0, by omega, fun i hi => by omega, rfl, rfl⟩ rfl rfl ?_
  rintro m u g ⟨j, hj, hok, rfl, rfl⟩
  intro e1 h1 he1 hh1; simp only [egd, supE, hgd, supH, Nat.reduceEqDiff, Nat.reduceAdd, if_true, if_false, reduceIte] at he1 hh1; subst he1; subst hh1
  (repeat' with_reducible first |apply qA|apply qB|apply qC|apply qD|apply qE|apply qF|(apply qG;decide)|apply qH|apply qI|apply qJ|apply qK|((first|apply qL|apply qM|apply qN|apply qO|((first|apply qP|apply qQ);decide +kernel));(conv=>lhs;simp only[go_sem, ibin, ishift])<;>rfl)|((first|apply qR|apply qS);(conv=>lhs;simp only[go_sem])<;>rfl;rfl)|((first|apply qT|apply qU);(conv=>lhs;simp only[go_sem])<;>rfl;rfl)|apply qV|apply qW|apply qX|apply qY|apply qZ)
  (((first | with_reducible apply W2_sc | with_reducible apply W2_cond); ((conv => lhs; simp only [go_sem]) <;> with_reducible rfl)) <;> intro hx <;> (try rw [hx]) <;> simp only [Bool.or_eq_true, Bool.and_eq_true, decide_eq_true_eq, Bool.or_eq_false_iff, Bool.and_eq_false_iff, decide_eq_false_iff_not, Bool.not_eq_true', Bool.not_eq_false', bne_iff_ne, beq_iff_eq, not_or, not_and, Decidable.not_not, ne_eq, gt_iff_lt, ge_iff_le, Int.not_lt, Int.not_le] at hx)
  · have hjl : j < es.length := by omega
    have hg := List.getElem?_eq_getElem hjl
    have htk : es.take (j + 1) = es.take j ++ [es[j]] := by rw [List.take_add_one, List.getElem?_eq_getElem hjl]; rfl
    have hmem := List.getElem_mem hjl
    generalize es[j] = x at hg htk hmem
    have h0 : (0 : Int) ≤ (j : Int) := by omega
    have h1 : (j : Int) < (es.length : Int) := by omega
    (repeat' with_reducible first |apply qA|apply qB|apply qC|apply qD|apply qE|apply qF|(apply qG;decide)|apply qH|apply qI|apply qJ|apply qK|((first|apply qL|apply qM|apply qN|apply qO|((first|apply qP|apply qQ);decide +kernel));(conv=>lhs;simp only[go_sem, ibin, ishift, hg, hjl, h0, h1, cD])<;>rfl)|((first|apply qR|apply qS);(conv=>lhs;simp only[go_sem])<;>rfl;rfl)|((first|apply qT|apply qU);(conv=>lhs;simp only[go_sem])<;>rfl;rfl)|apply qV|apply qW|apply qX|apply qY|apply qZ)
    (with_reducible((first|apply pA|apply pB|apply pC|apply pD|apply pE|((first|apply pF|apply pG);decide +kernel));(conv=>lhs;simp only[go_sem, ibin, ishift])<;>rfl))
    refine CK_call [1] (out_spec c x.a ns.length) (by decide) (by simp) rfl rfl rfl ?_
    rintro v h' ⟨rfl, rfl⟩
    by_cases ha : x.a < 0 ∨ (ns.length : Int) ≤ x.a
    · rw [decide_eq_true ha]
      have hbad : okE ns (es.take j) x = false := okE_a ha
      ((with_reducible first | apply WO2_finl | apply WO2_finlq); ((conv => lhs; simp only [go_sem, ibin, ishift, Bool.true_or]) <;> with_reducible rfl))
      (repeat' with_reducible first |apply qA|apply qB|apply qC|apply qD|apply qE|apply qF|(apply qG;decide)|apply qH|apply qI|apply qJ|apply qK|((first|apply qL|apply qM|apply qN|apply qO|((first|apply qP|apply qQ);decide +kernel));(conv=>lhs;simp only[go_sem, ibin, ishift])<;>rfl)|((first|apply qR|apply qS);(conv=>lhs;simp only[go_sem])<;>rfl;rfl)|((first|apply qT|apply qU);(conv=>lhs;simp only[go_sem])<;>rfl;rfl)|apply qV|apply qW|apply qX|apply qY|apply qZ)
      refine ⟨by first | exact .inr rfl | exact .inl rfl, _, _, (by (conv => lhs; simp only [go_sem, ibin, ishift]) <;> with_reducible rfl), (by (conv => lhs; simp only [go_sem, ibin, ishift]) <;> with_reducible rfl), ?_⟩
      refine ⟨[], by decide, rfl, ?_⟩
      exact ⟨by rw [good_edge hg hbad]; rfl, rfl⟩
    rw [decide_eq_false ha]
    (with_reducible((first|apply pA|apply pB|apply pC|apply pD|apply pE|((first|apply pF|apply pG);decide +kernel));(conv=>lhs;simp only[go_sem, ibin, ishift])<;>rfl))
    refine CK_call [1] (out_spec c x.b ns.length) (by decide) (by simp) rfl rfl rfl ?_
    rintro v h' ⟨rfl, rfl⟩
    by_cases hb : x.b < 0 ∨ (ns.length : Int) ≤ x.b
    · rw [decide_eq_true hb]
      have hbad : okE ns (es.take j) x = false := okE_b hb
      ((with_reducible first | apply WO2_finl | apply WO2_finlq); ((conv => lhs; simp only [go_sem, ibin, ishift, Bool.true_or]) <;> with_reducible rfl))
      (repeat' with_reducible first |apply qA|apply qB|apply qC|apply qD|apply qE|apply qF|(apply qG;decide)|apply qH|apply qI|apply qJ|apply qK|((first|apply qL|apply qM|apply qN|apply qO|((first|apply qP|apply qQ);decide +kernel));(conv=>lhs;simp only[go_sem, ibin, ishift])<;>rfl)|((first|apply qR|apply qS);(conv=>lhs;simp only[go_sem])<;>rfl;rfl)|((first|apply qT|apply qU);(conv=>lhs;simp only[go_sem])<;>rfl;rfl)|apply qV|apply qW|apply qX|apply qY|apply qZ)
      refine ⟨by first | exact .inr rfl | exact .inl rfl, _, _, (by (conv => lhs; simp only [go_sem, ibin, ishift]) <;> with_reducible rfl), (by (conv => lhs; simp only [go_sem, ibin, ishift]) <;> with_reducible rfl), ?_⟩
      refine ⟨[], by decide, rfl, ?_⟩
      exact ⟨by rw [good_edge hg hbad]; rfl, rfl⟩
    rw [decide_eq_false hb]
    by_cases hab : x.a = x.b
    · have hab1 : decide (x.a = x.b) = true := decide_eq_true hab
      have hbad : okE ns (es.take j) x = false := okE_not fun k => k.2.2.1 hab
      ((with_reducible first | apply WO2_finl | apply WO2_finlq); ((conv => lhs; simp only [go_sem, ibin, ishift, hab1]) <;> with_reducible rfl))
      (repeat' with_reducible first |apply qA|apply qB|apply qC|apply qD|apply qE|apply qF|(apply qG;decide)|apply qH|apply qI|apply qJ|apply qK|((first|apply qL|apply qM|apply qN|apply qO|((first|apply qP|apply qQ);decide +kernel));(conv=>lhs;simp only[go_sem, ibin, ishift])<;>rfl)|((first|apply qR|apply qS);(conv=>lhs;simp only[go_sem])<;>rfl;rfl)|((first|apply qT|apply qU);(conv=>lhs;simp only[go_sem])<;>rfl;rfl)|apply qV|apply qW|apply qX|apply qY|apply qZ)
      refine ⟨by first | exact .inr rfl | exact .inl rfl, _, _, (by (conv => lhs; simp only [go_sem, ibin, ishift]) <;> with_reducible rfl), (by (conv => lhs; simp only [go_sem, ibin, ishift]) <;> with_reducible rfl), ?_⟩
      refine ⟨[], by decide, rfl, ?_⟩
      exact ⟨by rw [good_edge hg hbad]; rfl, rfl⟩
    have hab1 : decide (x.a = x.b) = false := decide_eq_false hab
    cases hf : findK Ed.p (x.a, x.b) (es.take j) 0 with
    | some p =>
      obtain ⟨i, y⟩ := p
      obtain ⟨hy, hyn⟩ := findK_mem hf
      have hbad : okE ns (es.take j) x = false := okE_not fun k => k.2.2.2.2 y hy (Ed.p_inj hyn)
      ((with_reducible first | apply WO2_finl | apply WO2_finlq); ((conv => lhs; simp only [go_sem, ibin, ishift, hab1, hf, oneP]) <;> with_reducible rfl))
      (repeat' with_reducible first |apply qA|apply qB|apply qC|apply qD|apply qE|apply qF|(apply qG;decide)|apply qH|apply qI|apply qJ|apply qK|((first|apply qL|apply qM|apply qN|apply qO|((first|apply qP|apply qQ);decide +kernel));(conv=>lhs;simp only[go_sem, ibin, ishift])<;>rfl)|((first|apply qR|apply qS);(conv=>lhs;simp only[go_sem])<;>rfl;rfl)|((first|apply qT|apply qU);(conv=>lhs;simp only[go_sem])<;>rfl;rfl)|apply qV|apply qW|apply qX|apply qY|apply qZ)
      refine ⟨by first | exact .inr rfl | exact .inl rfl, _, _, (by (conv => lhs; simp only [go_sem, ibin, ishift]) <;> with_reducible rfl), (by (conv => lhs; simp only [go_sem, ibin, ishift]) <;> with_reducible rfl), ?_⟩
      refine ⟨[], by decide, rfl, ?_⟩
      exact ⟨by rw [good_edge hg hbad]; rfl, rfl⟩
    | none =>
      obtain ⟨p, hp⟩ : ∃ p, ns[x.a.toNat]? = some p := ⟨_, List.getElem?_eq_getElem (by omega)⟩
      obtain ⟨q, hq⟩ : ∃ q, ns[x.b.toNat]? = some q := ⟨_, List.getElem?_eq_getElem (by omega)⟩
      have a0 : 0 ≤ x.a := by omega
      have a1 : x.a < (ns.length : Int) := by omega
      have b0 : 0 ≤ x.b := by omega
      have b1 : x.b < (ns.length : Int) := by omega
      have a2 : x.a.toNat < ns.length := by omega
      have b2 : x.b.toNat < ns.length := by omega
      (with_reducible((first|apply WO2_finw|apply WO2_fina);(conv=>lhs;simp only[go_sem, ibin, ishift, hab1, hf, hp, hq, oneP, cN, a0, a1, b0, b1, a2, b2])<;>rfl))
      have hkd : (!decide (p.kind = 1) && !decide (q.kind = 1)) = !okE ns (es.take j) x := by
        rw [Bool.eq_iff_iff, Bool.not_eq_true', ← Bool.not_eq_true, okE_iff]
        have ka : kindAt ns x.a = p.kind := by simp only [kindAt, hp]
        have kb : kindAt ns x.b = q.kind := by simp only [kindAt, hq]
        rw [ka, kb]
        have hno : ∀ f ∈ es.take j, f ≠ x := fun f hf2 e => findK_none.1 hf f hf2 (by rw [e]; rfl)
        simp only [Bool.and_eq_true, Bool.not_eq_true', decide_eq_false_iff_not]
        constructor
        · rintro ⟨k1, k2⟩ ⟨_, _, _, k3, _⟩
          exact k3.elim k1 k2
        · intro k
          constructor
          · intro k1; exact k ⟨⟨a0, a1⟩, ⟨b0, b1⟩, hab, .inl k1, hno⟩
          · intro k1; exact k ⟨⟨a0, a1⟩, ⟨b0, b1⟩, hab, .inr k1, hno⟩
      rw [hkd]
      cases hok2 : okE ns (es.take j) x with
      | false =>
        (repeat' with_reducible first |apply qA|apply qB|apply qC|apply qD|apply qE|apply qF|(apply qG;decide)|apply qH|apply qI|apply qJ|apply qK|((first|apply qL|apply qM|apply qN|apply qO|((first|apply qP|apply qQ);decide +kernel));(conv=>lhs;simp only[go_sem, ibin, ishift])<;>rfl)|((first|apply qR|apply qS);(conv=>lhs;simp only[go_sem])<;>rfl;rfl)|((first|apply qT|apply qU);(conv=>lhs;simp only[go_sem])<;>rfl;rfl)|apply qV|apply qW|apply qX|apply qY|apply qZ)
        refine ⟨by first | exact .inr rfl | exact .inl rfl, _, _, (by (conv => lhs; simp only [go_sem, ibin, ishift]) <;> with_reducible rfl), (by (conv => lhs; simp only [go_sem, ibin, ishift]) <;> with_reducible rfl), ?_⟩
        refine ⟨[], by decide, rfl, ?_⟩
        exact ⟨by rw [good_edge hg hok2]; rfl, rfl⟩
      | true =>
        (repeat' with_reducible first |apply qA|apply qB|apply qC|apply qD|apply qE|apply qF|(apply qG;decide)|apply qH|apply qI|apply qJ|apply qK|((first|apply qL|apply qM|apply qN|apply qO|((first|apply qP|apply qQ);decide +kernel));(conv=>lhs;simp only[go_sem, ibin, ishift])<;>rfl)|((first|apply qR|apply qS);(conv=>lhs;simp only[go_sem])<;>rfl;rfl)|((first|apply qT|apply qU);(conv=>lhs;simp only[go_sem])<;>rfl;rfl)|apply qV|apply qW|apply qX|apply qY|apply qZ)
        (repeat' with_reducible first |apply qA|apply qB|apply qC|apply qD|apply qE|apply qF|(apply qG;decide)|apply qH|apply qI|apply qJ|apply qK|apply qX|((first|apply qR|apply qS);(conv=>lhs;simp only[go_sem])<;>rfl;rfl)|((first|apply qT|apply qU);(conv=>lhs;simp only[go_sem])<;>rfl;rfl)|apply qZ|apply qY|apply qW)
        refine W2_inc (m := 7) (x := 9) (by decide) (by decide) (by decide) rfl rfl ?_
        simp only [incA]
        (repeat' with_reducible first |apply qA|apply qB|apply qC|apply qD|apply qE|apply qF|(apply qG;decide)|apply qH|apply qI|apply qJ|apply qK|((first|apply qL|apply qM|apply qN|apply qO|((first|apply qP|apply qQ);decide +kernel));(conv=>lhs;simp only[go_sem, ibin, ishift, hf, wr1, wS (show j < 9223372036854775807 by omega)])<;>rfl)|((first|apply qR|apply qS);(conv=>lhs;simp only[go_sem])<;>rfl;rfl)|((first|apply qT|apply qU);(conv=>lhs;simp only[go_sem])<;>rfl;rfl)|apply qV|apply qW|apply qX|apply qY|apply qZ)
        rw [show (es.take j).map (mD Ed.p oneP) ++ [(SV.agg [SV.p (PV.i IntKind.i64 x.a), SV.p (PV.i IntKind.i64 x.b)], SV.p (PV.i IntKind.i64 1))] = (es.take (j + 1)).map (mD Ed.p oneP) by rw [htk, List.map_append]; rfl]
        refine ⟨[0, 1, 2, 3], by decide, rfl, ?_⟩
        exact ⟨es.length - (j + 1), _, _, by omega, ⟨j + 1, by omega, fun i hi c h => by
          by_cases e : i = j
          · subst e; rw [hg] at h; cases h; exact hok2
          · exact hok i (by omega) c h, rfl, rfl⟩, rfl, (by first | rfl | ((conv => lhs; simp only [go_sem, ibin, ishift]) <;> rfl))⟩
  · (repeat' with_reducible first |apply qA|apply qB|apply qC|apply qD|apply qE|apply qF|(apply qG;decide)|apply qH|apply qI|apply qJ|apply qK|((first|apply qL|apply qM|apply qN|apply qO|((first|apply qP|apply qQ);decide +kernel));(conv=>lhs;simp only[go_sem, ibin, ishift])<;>rfl)|((first|apply qR|apply qS);(conv=>lhs;simp only[go_sem])<;>rfl;rfl)|((first|apply qT|apply qU);(conv=>lhs;simp only[go_sem])<;>rfl;rfl)|apply qV|apply qW|apply qX|apply qY|apply qZ)
    refine ⟨by first | exact .inr rfl | exact .inl rfl, _, _, (by (conv => lhs; simp only [go_sem, ibin, ishift]) <;> with_reducible rfl), (by (conv => lhs; simp only [go_sem, ibin, ishift]) <;> with_reducible rfl), ?_⟩
    refine ⟨[], by decide, rfl, ?_⟩
    have hjn : j = es.length := by omega
    subst hjn
    have hE := allOk_true hok
    refine ⟨?_, rfl⟩
    rw [show Lay.good ⟨ns, es⟩ = true by simp only [Lay.good, hN, hE, Bool.and_true, Bool.and_eq_true, decide_eq_true_eq]; exact ⟨⟨hsz.1, hsz.2.1⟩, hsz.2.2⟩]
    rfl
end Go.Proofs.YtankmcjfglbbiaaDoor.Ab
