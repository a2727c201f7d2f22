/- Chapter 20: the plant: what is asked. -/
import Derived.Test.YtpblhjaghkkdhaaY20a
namespace Go.Proofs.Ytpblhjaghkkdhaa.Ab
open Go
set_option linter.unusedVariables false
set_option linter.unusedSimpArgs false
variable {T : AT}
structure Dv where
  broken : Bool
  did : Bool
  seq : Int
  tote : Int
def cV (d : Dv) : List PV := [.b d.broken, .b d.did, .i .u16 d.seq, .i .u16 d.tote]
structure Te where
  k : Int
  dev : Int
  seq : Int
  a : Int
  b : Int
def cT (t : Te) : List PV := [.i .u8 t.k, .i .u16 t.dev, .i .u16 t.seq, .i .u16 t.a, .i .u16 t.b]
def Te.v (t : Te) : SV := .agg [.i .u8 t.k, .i .u16 t.dev, .i .u16 t.seq, .i .u16 t.a, .i .u16 t.b]
def Te.nil : Te := ⟨0, 0, 0, 0, 0⟩
structure Pl where
  es : List Ed
  at_ : List Int
  ds : List Dv
  mv : Int
def Pl.h (p : Pl) : SH := [some (.obj [.fz 2 (p.es.map cD), .sl 1 1 0 p.at_.length none, .sl 4 2 0 p.ds.length none, .i .i64 p.mv]), some (.arr 1 (p.at_.map cI)), some (.arr 4 (p.ds.map cV))]
structure Pl.Ok (p : Pl) : Prop where
  al : p.at_.length ≤ 1000000
  dl : p.ds.length = p.es.length + 1
  el : p.es.length ≤ 1000
  ed : ∀ e ∈ p.es, 0 ≤ e.a ∧ e.a < p.at_.length ∧ 0 ≤ e.b ∧ e.b < p.at_.length ∧ e.a ≠ e.b
structure TabP (T : AT) : Prop extends TabK T where
  dist : T i_turn_Dist = some (.fn c_turn_Dist)
  behind : T i_turn_Behind = some (.fn c_turn_Behind)
  index : T i_slices_Index_int_int = some (.fn c_slices_Index_int_int)
  clone : T i_slices_Clone_2_int_2_int = some (.fn c_slices_Clone_2_int_2_int)
  noDev : T i_plant_Plant_noDev = some (.fn c_plant_Plant_noDev)
  works : T i_plant_Plant_Works = some (.fn c_plant_Plant_Works)
  where_ : T i_plant_Plant_Where = some (.fn c_plant_Plant_Where)
  at_ : T i_plant_Plant_At = some (.fn c_plant_Plant_At)
  moves : T i_plant_Plant_Moves = some (.fn c_plant_Plant_Moves)
  put : T i_plant_Plant_Put = some (.fn c_plant_Plant_Put)
  break_ : T i_plant_Plant_Break = some (.fn c_plant_Plant_Break)
  mend : T i_plant_Plant_Mend = some (.fn c_plant_Plant_Mend)
  move : T i_plant_Plant_move = some (.fn c_plant_Plant_move)
  hear : T i_plant_Plant_Hear = some (.fn c_plant_Plant_Hear)
  new : T i_plant_New = some (.fn c_plant_New)
def dist (a b : Int) : Int := IntKind.i64.wrap (IntKind.i16.wrap (IntKind.u16.wrap (b - a)))
theorem dist_spec (c : TabP T) (a b : Int) : Ret2 T 0 i_turn_Dist [.i .u16 a, .i .u16 b] [] (fun v h' => v = .i .i64 (dist a b) ∧ h' = []) := by
  refine Ret2_fnv c.dist rfl rfl ?_
  (repeat' with_reducible first |apply qA|apply qB|apply qC|apply qD|apply qE|apply qF|(apply qG;decide)|apply qH|apply qI|apply qJ|apply qK|((first|apply qL|apply qM|apply qN|apply qO|((first|apply qP|apply qQ);decide +kernel));(conv=>lhs;simp only[go_sem, ibin, ishift])<;>rfl)|((first|apply qR|apply qS);(conv=>lhs;simp only[go_sem])<;>rfl;rfl)|((first|apply qT|apply qU);(conv=>lhs;simp only[go_sem])<;>rfl;rfl)|apply qV|apply qW|apply qX|apply qY|apply qZ)
  refine ⟨by first | exact .inr rfl | exact .inl rfl, _, _, (by (conv => lhs; simp only [go_sem, ibin, ishift]) <;> with_reducible rfl), (by (conv => lhs; simp only [go_sem, ibin, ishift]) <;> with_reducible rfl), ?_⟩
  refine ⟨[], by decide, rfl, ?_⟩
  exact ⟨rfl, rfl⟩
theorem behind_spec (c : TabP T) (a b : Int) : Ret2 T 0 i_turn_Behind [.i .u16 a, .i .u16 b] [] (fun v h' => v = .b (decide (dist a b > 0)) ∧ h' = []) := by
  refine Ret2_fnv c.behind rfl rfl ?_
  (repeat' with_reducible first |apply qA|apply qB|apply qC|apply qD|apply qE|apply qF|(apply qG;decide)|apply qH|apply qI|apply qJ|apply qK|((first|apply qL|apply qM|apply qN|apply qO|((first|apply qP|apply qQ);decide +kernel));(conv=>lhs;simp only[go_sem, ibin, ishift])<;>rfl)|((first|apply qR|apply qS);(conv=>lhs;simp only[go_sem])<;>rfl;rfl)|((first|apply qT|apply qU);(conv=>lhs;simp only[go_sem])<;>rfl;rfl)|apply qV|apply qW|apply qX|apply qY|apply qZ)
  (with_reducible((first|apply pA|apply pB|apply pC|apply pD|apply pE|((first|apply pF|apply pG);decide +kernel));(conv=>lhs;simp only[go_sem, ibin, ishift])<;>rfl))
  refine CK_pure (dist_spec c a b) rfl ?_
  rintro v h' ⟨rfl, rfl⟩
  (with_reducible((first|apply WO2_finw|apply WO2_fina);(conv=>lhs;simp only[go_sem, ibin, ishift])<;>rfl))
  (repeat' with_reducible first |apply qA|apply qB|apply qC|apply qD|apply qE|apply qF|(apply qG;decide)|apply qH|apply qI|apply qJ|apply qK|((first|apply qL|apply qM|apply qN|apply qO|((first|apply qP|apply qQ);decide +kernel));(conv=>lhs;simp only[go_sem, ibin, ishift])<;>rfl)|((first|apply qR|apply qS);(conv=>lhs;simp only[go_sem])<;>rfl;rfl)|((first|apply qT|apply qU);(conv=>lhs;simp only[go_sem])<;>rfl;rfl)|apply qV|apply qW|apply qX|apply qY|apply qZ)
  refine ⟨by first | exact .inr rfl | exact .inl rfl, _, _, (by (conv => lhs; simp only [go_sem, ibin, ishift]) <;> with_reducible rfl), (by (conv => lhs; simp only [go_sem, ibin, ishift]) <;> with_reducible rfl), ?_⟩
  refine ⟨[], by decide, rfl, ?_⟩
  exact ⟨rfl, rfl⟩
/-- the place of a number in a list; -1: none -/
def ixOf (x : Int) : List Int → Nat → Int
  | [], _ => -1
  | y :: r, j => if x = y then j else ixOf x r (j + 1)
theorem ixOf_take {x : Int} : ∀ {l : List Int} {j i : Nat}, (∀ y ∈ l.take i, x ≠ y) → ixOf x l j = ixOf x (l.drop i) (j + i)
  | [], j, i, _ => by simp [ixOf]
  | y :: l, j, 0, _ => by simp
  | y :: l, j, i + 1, h => by
    rw [ixOf, if_neg (h y (by simp)), List.drop_succ_cons, ixOf_take (i := i) fun z hz => h z (by simp [hz])]
    congr 1; omega
theorem ixOf_here {x : Int} {l : List Int} {j : Nat} (h : ∀ y ∈ l.take j, x ≠ y) (hg : l[j]? = some x) : ixOf x l 0 = j := by
  obtain ⟨hj, e⟩ := List.getElem?_eq_some_iff.1 hg
  rw [ixOf_take h, List.drop_eq_getElem_cons hj, e, ixOf, if_pos rfl, Nat.zero_add]
theorem ixOf_none {x : Int} {l : List Int} (h : ∀ y ∈ l, x ≠ y) : ixOf x l 0 = -1 := by
  rw [ixOf_take (i := l.length) (by rw [List.take_length]; exact h), List.drop_length, ixOf]
theorem index_spec (c : TabP T) (x : Int) (l : List Int) (hl : l.length ≤ 1000000) : Ret2 T 0 i_slices_Index_int_int [.fz 1 (l.map cI), .i .i64 x] [] (fun v h' => v = .i .i64 (ixOf x l 0) ∧ h' = []) := by
  refine Ret2_fnv c.index rfl rfl ?_
  (repeat' with_reducible first |apply qA|apply qB|apply qC|apply qD|apply qE|apply qF|(apply qG;decide)|apply qH|apply qI|apply qJ|apply qK|((first|apply qL|apply qM|apply qN|apply qO|((first|apply qP|apply qQ);decide +kernel));(conv=>lhs;simp only[go_sem, ibin, ishift])<;>rfl)|((first|apply qR|apply qS);(conv=>lhs;simp only[go_sem])<;>rfl;rfl)|((first|apply qT|apply qU);(conv=>lhs;simp only[go_sem])<;>rfl;rfl)|apply qV|apply qW|apply qX|apply qY|apply qZ)
  refine W2_loopu (fun m u g => ∃ j, j + m = l.length ∧ (∀ y ∈ l.take j, x ≠ y) ∧ u = [(8, .i .i64 j)] ∧ g = []) l.length ⟨0, by omega, by simp, rfl, rfl⟩ rfl rfl ?_
  rintro m u g ⟨j, hj, hno, rfl, rfl⟩
  intro e1 h1 he1 hh1; simp only [egd, supE, hgd, supH, Nat.reduceEqDiff, Nat.reduceAdd, if_true, if_false, reduceIte] at he1 hh1; subst he1; subst hh1
  (repeat' with_reducible first |apply qA|apply qB|apply qC|apply qD|apply qE|apply qF|(apply qG;decide)|apply qH|apply qI|apply qJ|apply qK|((first|apply qL|apply qM|apply qN|apply qO|((first|apply qP|apply qQ);decide +kernel));(conv=>lhs;simp only[go_sem, ibin, ishift])<;>rfl)|((first|apply qR|apply qS);(conv=>lhs;simp only[go_sem])<;>rfl;rfl)|((first|apply qT|apply qU);(conv=>lhs;simp only[go_sem])<;>rfl;rfl)|apply qV|apply qW|apply qX|apply qY|apply qZ)
  (((first | with_reducible apply W2_sc | with_reducible apply W2_cond); ((conv => lhs; simp only [go_sem]) <;> with_reducible rfl)) <;> intro hx <;> (try rw [hx]) <;> simp only [Bool.or_eq_true, Bool.and_eq_true, decide_eq_true_eq, Bool.or_eq_false_iff, Bool.and_eq_false_iff, decide_eq_false_iff_not, Bool.not_eq_true', Bool.not_eq_false', bne_iff_ne, beq_iff_eq, not_or, not_and, Decidable.not_not, ne_eq, gt_iff_lt, ge_iff_le, Int.not_lt, Int.not_le] at hx)
  · have hjl : j < l.length := by omega
    have hg := List.getElem?_eq_getElem hjl
    have htk : l.take (j + 1) = l.take j ++ [l[j]] := by rw [List.take_add_one, List.getElem?_eq_getElem hjl]; rfl
    have hmem := List.getElem_mem hjl
    generalize l[j] = y at hg htk hmem
    have h0 : (0 : Int) ≤ (j : Int) := by omega
    have h1 : (j : Int) < (l.length : Int) := by omega
    (repeat' with_reducible first |apply qA|apply qB|apply qC|apply qD|apply qE|apply qF|(apply qG;decide)|apply qH|apply qI|apply qJ|apply qK|((first|apply qL|apply qM|apply qN|apply qO|((first|apply qP|apply qQ);decide +kernel));(conv=>lhs;simp only[go_sem, ibin, ishift, hg, hjl, cI, h0, h1])<;>rfl)|((first|apply qR|apply qS);(conv=>lhs;simp only[go_sem])<;>rfl;rfl)|((first|apply qT|apply qU);(conv=>lhs;simp only[go_sem])<;>rfl;rfl)|apply qV|apply qW|apply qX|apply qY|apply qZ)
    (((first | with_reducible apply W2_sc | with_reducible apply W2_cond); ((conv => lhs; simp only [go_sem]) <;> with_reducible rfl)) <;> intro hx <;> (try rw [hx]) <;> simp only [Bool.or_eq_true, Bool.and_eq_true, decide_eq_true_eq, Bool.or_eq_false_iff, Bool.and_eq_false_iff, decide_eq_false_iff_not, Bool.not_eq_true', Bool.not_eq_false', bne_iff_ne, beq_iff_eq, not_or, not_and, Decidable.not_not, ne_eq, gt_iff_lt, ge_iff_le, Int.not_lt, Int.not_le] at hx)
    · subst hx
      (repeat' with_reducible first |apply qA|apply qB|apply qC|apply qD|apply qE|apply qF|(apply qG;decide)|apply qH|apply qI|apply qJ|apply qK|((first|apply qL|apply qM|apply qN|apply qO|((first|apply qP|apply qQ);decide +kernel));(conv=>lhs;simp only[go_sem, ibin, ishift])<;>rfl)|((first|apply qR|apply qS);(conv=>lhs;simp only[go_sem])<;>rfl;rfl)|((first|apply qT|apply qU);(conv=>lhs;simp only[go_sem])<;>rfl;rfl)|apply qV|apply qW|apply qX|apply qY|apply qZ)
      refine ⟨by first | exact .inr rfl | exact .inl rfl, _, _, (by (conv => lhs; simp only [go_sem, ibin, ishift]) <;> with_reducible rfl), (by (conv => lhs; simp only [go_sem, ibin, ishift]) <;> with_reducible rfl), ?_⟩
      refine ⟨[], by decide, rfl, ?_⟩
      exact ⟨by rw [ixOf_here hno hg]; rfl, rfl⟩
    · (repeat' with_reducible first |apply qA|apply qB|apply qC|apply qD|apply qE|apply qF|(apply qG;decide)|apply qH|apply qI|apply qJ|apply qK|((first|apply qL|apply qM|apply qN|apply qO|((first|apply qP|apply qQ);decide +kernel));(conv=>lhs;simp only[go_sem, ibin, ishift, wS (show j < 9223372036854775807 by omega)])<;>rfl)|((first|apply qR|apply qS);(conv=>lhs;simp only[go_sem])<;>rfl;rfl)|((first|apply qT|apply qU);(conv=>lhs;simp only[go_sem])<;>rfl;rfl)|apply qV|apply qW|apply qX|apply qY|apply qZ)
      refine ⟨[], by decide, rfl, ?_⟩
      exact ⟨l.length - (j + 1), _, _, by omega, ⟨j + 1, by omega, fun z hz => by
        rw [htk] at hz
        rcases List.mem_append.1 hz with hz | hz
        · exact hno z hz
        · rw [List.mem_singleton.1 hz]; exact hx, rfl, rfl⟩, rfl, (by first | rfl | ((conv => lhs; simp only [go_sem, ibin, ishift]) <;> rfl))⟩
  · (repeat' with_reducible first |apply qA|apply qB|apply qC|apply qD|apply qE|apply qF|(apply qG;decide)|apply qH|apply qI|apply qJ|apply qK|((first|apply qL|apply qM|apply qN|apply qO|((first|apply qP|apply qQ);decide +kernel));(conv=>lhs;simp only[go_sem, ibin, ishift])<;>rfl)|((first|apply qR|apply qS);(conv=>lhs;simp only[go_sem])<;>rfl;rfl)|((first|apply qT|apply qU);(conv=>lhs;simp only[go_sem])<;>rfl;rfl)|apply qV|apply qW|apply qX|apply qY|apply qZ)
    refine ⟨by first | exact .inr rfl | exact .inl rfl, _, _, (by (conv => lhs; simp only [go_sem, ibin, ishift]) <;> with_reducible rfl), (by (conv => lhs; simp only [go_sem, ibin, ishift]) <;> with_reducible rfl), ?_⟩
    refine ⟨[], by decide, rfl, ?_⟩
    have hjn : j = l.length := by omega
    subst hjn
    rw [List.take_length] at hno
    exact ⟨by rw [ixOf_none hno]; rfl, rfl⟩
def Pl.noDev (p : Pl) (d : Int) : Bool := decide (d < 1 ∨ (p.ds.length : Int) ≤ d)
theorem noDev_spec (c : TabP T) (p : Pl) (d : Int) : Ret2 T 3 i_plant_Plant_noDev [.ptr 0 0, .i .i64 d] p.h (fun v h' => v = .b (p.noDev d) ∧ h' = p.h) := by
  refine Ret2_fnv c.noDev rfl rfl ?_
  unfold Pl.h
  (repeat' with_reducible first |apply qA|apply qB|apply qC|apply qD|apply qE|apply qF|(apply qG;decide)|apply qH|apply qI|apply qJ|apply qK|((first|apply qL|apply qM|apply qN|apply qO|((first|apply qP|apply qQ);decide +kernel));(conv=>lhs;simp only[go_sem, ibin, ishift])<;>rfl)|((first|apply qR|apply qS);(conv=>lhs;simp only[go_sem])<;>rfl;rfl)|((first|apply qT|apply qU);(conv=>lhs;simp only[go_sem])<;>rfl;rfl)|apply qV|apply qW|apply qX|apply qY|apply qZ)
  refine ⟨by first | exact .inr rfl | exact .inl rfl, _, _, (by (conv => lhs; simp only [go_sem, ibin, ishift]) <;> with_reducible rfl), (by (conv => lhs; simp only [go_sem, ibin, ishift]) <;> with_reducible rfl), ?_⟩
  refine ⟨[0, 1, 2], by decide, rfl, ?_⟩
  refine ⟨?_, (by first | rfl | (simp only [go_sem, Pl.h]; done) | (simp only [go_sem, Pl.h] <;> rfl))⟩
  simp only [SV.cv, Pl.noDev]
  congr 2
  rw [Bool.eq_iff_iff]; simp only [Bool.or_eq_true, decide_eq_true_eq]
def brk (p : Pl) (d : Int) : Bool := match p.ds[d.toNat]? with | some x => x.broken | none => true
def Pl.works (p : Pl) (d : Int) : Bool := !p.noDev d && !brk p d
theorem works_spec (c : TabP T) (p : Pl) (d : Int) : Ret2 T 3 i_plant_Plant_Works [.ptr 0 0, .i .i64 d] p.h (fun v h' => v = .b (p.works d) ∧ h' = p.h) := by
  refine Ret2_fnv c.works rfl rfl ?_
  unfold Pl.h
  (repeat' with_reducible first |apply qA|apply qB|apply qC|apply qD|apply qE|apply qF|(apply qG;decide)|apply qH|apply qI|apply qJ|apply qK|((first|apply qL|apply qM|apply qN|apply qO|((first|apply qP|apply qQ);decide +kernel));(conv=>lhs;simp only[go_sem, ibin, ishift])<;>rfl)|((first|apply qR|apply qS);(conv=>lhs;simp only[go_sem])<;>rfl;rfl)|((first|apply qT|apply qU);(conv=>lhs;simp only[go_sem])<;>rfl;rfl)|apply qV|apply qW|apply qX|apply qY|apply qZ)
  (with_reducible((first|apply pA|apply pB|apply pC|apply pD|apply pE|((first|apply pF|apply pG);decide +kernel));(conv=>lhs;simp only[go_sem, ibin, ishift])<;>rfl))
  refine CK_call [0, 1, 2] (noDev_spec c p d) (by decide) (by simp) rfl rfl (by first | rfl | (simp only [go_sem, Pl.h]; done) | (simp only [go_sem, Pl.h] <;> rfl)) ?_
  rintro v h' ⟨rfl, rfl⟩
  unfold Pl.h
  cases hn : p.noDev d with
  | true =>
    ((with_reducible first | apply WO2_finl | apply WO2_finlq); ((conv => lhs; simp only [go_sem, ibin, ishift]) <;> with_reducible rfl))
    (repeat' with_reducible first |apply qA|apply qB|apply qC|apply qD|apply qE|apply qF|(apply qG;decide)|apply qH|apply qI|apply qJ|apply qK|((first|apply qL|apply qM|apply qN|apply qO|((first|apply qP|apply qQ);decide +kernel));(conv=>lhs;simp only[go_sem, ibin, ishift])<;>rfl)|((first|apply qR|apply qS);(conv=>lhs;simp only[go_sem])<;>rfl;rfl)|((first|apply qT|apply qU);(conv=>lhs;simp only[go_sem])<;>rfl;rfl)|apply qV|apply qW|apply qX|apply qY|apply qZ)
    refine ⟨by first | exact .inr rfl | exact .inl rfl, _, _, (by (conv => lhs; simp only [go_sem, ibin, ishift]) <;> with_reducible rfl), (by (conv => lhs; simp only [go_sem, ibin, ishift]) <;> with_reducible rfl), ?_⟩
    refine ⟨[0, 1, 2], by decide, rfl, ?_⟩
    exact ⟨by simp [SV.cv, Pl.works, hn], (by first | rfl | (simp only [go_sem, Pl.h]; done) | (simp only [go_sem, Pl.h] <;> rfl))⟩
  | false =>
    have hr : ¬(d < 1 ∨ (p.ds.length : Int) ≤ d) := by simpa [Pl.noDev] using hn
    have h0 : 0 ≤ d := by omega
    have h1 : d < (p.ds.length : Int) := by omega
    have h2 : d.toNat < p.ds.length := by omega
    obtain ⟨x, hx⟩ : ∃ x, p.ds[d.toNat]? = some x := ⟨_, List.getElem?_eq_getElem h2⟩
    (with_reducible((first|apply WO2_finw|apply WO2_fina);(conv=>lhs;simp only[go_sem, ibin, ishift, h0, h1, h2, hx, cV])<;>rfl))
    (repeat' with_reducible first |apply qA|apply qB|apply qC|apply qD|apply qE|apply qF|(apply qG;decide)|apply qH|apply qI|apply qJ|apply qK|((first|apply qL|apply qM|apply qN|apply qO|((first|apply qP|apply qQ);decide +kernel));(conv=>lhs;simp only[go_sem, ibin, ishift])<;>rfl)|((first|apply qR|apply qS);(conv=>lhs;simp only[go_sem])<;>rfl;rfl)|((first|apply qT|apply qU);(conv=>lhs;simp only[go_sem])<;>rfl;rfl)|apply qV|apply qW|apply qX|apply qY|apply qZ)
    refine ⟨by first | exact .inr rfl | exact .inl rfl, _, _, (by (conv => lhs; simp only [go_sem, ibin, ishift]) <;> with_reducible rfl), (by (conv => lhs; simp only [go_sem, ibin, ishift]) <;> with_reducible rfl), ?_⟩
    refine ⟨[0, 1, 2], by decide, rfl, ?_⟩
    exact ⟨by simp [SV.cv, Pl.works, hn, brk, hx], (by first | rfl | (simp only [go_sem, Pl.h]; done) | (simp only [go_sem, Pl.h] <;> rfl))⟩
def Pl.loc (p : Pl) (t : Int) : Int := if t < 1 then -1 else ixOf t p.at_ 0
theorem where_spec (c : TabP T) (p : Pl) (hl : p.at_.length ≤ 1000000) (t : Int) : Ret2 T 3 i_plant_Plant_Where [.ptr 0 0, .i .i64 t] p.h (fun v h' => v = .i .i64 (p.loc t) ∧ h' = p.h) := by
  refine Ret2_fnv c.where_ rfl rfl ?_
  unfold Pl.h
  (repeat' with_reducible first |apply qA|apply qB|apply qC|apply qD|apply qE|apply qF|(apply qG;decide)|apply qH|apply qI|apply qJ|apply qK|((first|apply qL|apply qM|apply qN|apply qO|((first|apply qP|apply qQ);decide +kernel));(conv=>lhs;simp only[go_sem, ibin, ishift])<;>rfl)|((first|apply qR|apply qS);(conv=>lhs;simp only[go_sem])<;>rfl;rfl)|((first|apply qT|apply qU);(conv=>lhs;simp only[go_sem])<;>rfl;rfl)|apply qV|apply qW|apply qX|apply qY|apply qZ)
  (((first | with_reducible apply W2_sc | with_reducible apply W2_cond); ((conv => lhs; simp only [go_sem]) <;> with_reducible rfl)) <;> intro hx <;> (try rw [hx]) <;> simp only [Bool.or_eq_true, Bool.and_eq_true, decide_eq_true_eq, Bool.or_eq_false_iff, Bool.and_eq_false_iff, decide_eq_false_iff_not, Bool.not_eq_true', Bool.not_eq_false', bne_iff_ne, beq_iff_eq, not_or, not_and, Decidable.not_not, ne_eq, gt_iff_lt, ge_iff_le, Int.not_lt, Int.not_le] at hx)
  · (repeat' with_reducible first |apply qA|apply qB|apply qC|apply qD|apply qE|apply qF|(apply qG;decide)|apply qH|apply qI|apply qJ|apply qK|((first|apply qL|apply qM|apply qN|apply qO|((first|apply qP|apply qQ);decide +kernel));(conv=>lhs;simp only[go_sem, ibin, ishift])<;>rfl)|((first|apply qR|apply qS);(conv=>lhs;simp only[go_sem])<;>rfl;rfl)|((first|apply qT|apply qU);(conv=>lhs;simp only[go_sem])<;>rfl;rfl)|apply qV|apply qW|apply qX|apply qY|apply qZ)
    refine ⟨by first | exact .inr rfl | exact .inl rfl, _, _, (by (conv => lhs; simp only [go_sem, ibin, ishift]) <;> with_reducible rfl), (by (conv => lhs; simp only [go_sem, ibin, ishift]) <;> with_reducible rfl), ?_⟩
    refine ⟨[0, 1, 2], by decide, rfl, ?_⟩
    exact ⟨by simp only [SV.cv, Pl.loc, hx, if_true], (by first | rfl | (simp only [go_sem, Pl.h]; done) | (simp only [go_sem, Pl.h] <;> rfl))⟩
  · (repeat' with_reducible first |apply qA|apply qB|apply qC|apply qD|apply qE|apply qF|(apply qG;decide)|apply qH|apply qI|apply qJ|apply qK|((first|apply qL|apply qM|apply qN|apply qO|((first|apply qP|apply qQ);decide +kernel));(conv=>lhs;simp only[go_sem, ibin, ishift])<;>rfl)|((first|apply qR|apply qS);(conv=>lhs;simp only[go_sem])<;>rfl;rfl)|((first|apply qT|apply qU);(conv=>lhs;simp only[go_sem])<;>rfl;rfl)|apply qV|apply qW|apply qX|apply qY|apply qZ)
    (with_reducible((first|apply pA|apply pB|apply pC|apply pD|apply pE|((first|apply pF|apply pG);decide +kernel));(conv=>lhs;simp only[go_sem, ibin, ishift])<;>rfl))
    refine CK_lend [1] (index_spec c t p.at_ hl) rfl (by first | rfl | ((conv => lhs; simp only [go_sem, ibin, ishift]) <;> rfl)) ?_
    rintro v h' ⟨rfl, rfl⟩
    refine ⟨rfl, fun b hb => by simp at hb, ?_⟩
    (with_reducible((first|apply WO2_finw|apply WO2_fina);(conv=>lhs;simp only[go_sem, ibin, ishift])<;>rfl))
    (repeat' with_reducible first |apply qA|apply qB|apply qC|apply qD|apply qE|apply qF|(apply qG;decide)|apply qH|apply qI|apply qJ|apply qK|((first|apply qL|apply qM|apply qN|apply qO|((first|apply qP|apply qQ);decide +kernel));(conv=>lhs;simp only[go_sem, ibin, ishift])<;>rfl)|((first|apply qR|apply qS);(conv=>lhs;simp only[go_sem])<;>rfl;rfl)|((first|apply qT|apply qU);(conv=>lhs;simp only[go_sem])<;>rfl;rfl)|apply qV|apply qW|apply qX|apply qY|apply qZ)
    refine ⟨by first | exact .inr rfl | exact .inl rfl, _, _, (by (conv => lhs; simp only [go_sem, ibin, ishift]) <;> with_reducible rfl), (by (conv => lhs; simp only [go_sem, ibin, ishift]) <;> with_reducible rfl), ?_⟩
    refine ⟨[0, 1, 2], by decide, rfl, ?_⟩
    exact ⟨by simp only [SV.cv, Pl.loc]; rw [if_neg (by omega)], (by first | rfl | (simp only [go_sem, Pl.h]; done) | (simp only [go_sem, Pl.h] <;> rfl))⟩
def Pl.tote (p : Pl) (n : Int) : Int := if n < 0 ∨ (p.at_.length : Int) ≤ n then 0 else p.at_[n.toNat]?.getD 0
theorem at_spec (c : TabP T) (p : Pl) (n : Int) : Ret2 T 3 i_plant_Plant_At [.ptr 0 0, .i .i64 n] p.h (fun v h' => v = .i .i64 (p.tote n) ∧ h' = p.h) := by
  refine Ret2_fnv c.at_ rfl rfl ?_
  unfold Pl.h
  (repeat' with_reducible first |apply qA|apply qB|apply qC|apply qD|apply qE|apply qF|(apply qG;decide)|apply qH|apply qI|apply qJ|apply qK|((first|apply qL|apply qM|apply qN|apply qO|((first|apply qP|apply qQ);decide +kernel));(conv=>lhs;simp only[go_sem, ibin, ishift])<;>rfl)|((first|apply qR|apply qS);(conv=>lhs;simp only[go_sem])<;>rfl;rfl)|((first|apply qT|apply qU);(conv=>lhs;simp only[go_sem])<;>rfl;rfl)|apply qV|apply qW|apply qX|apply qY|apply qZ)
  (((first | with_reducible apply W2_sc | with_reducible apply W2_cond); ((conv => lhs; simp only [go_sem]) <;> with_reducible rfl)) <;> intro hx <;> (try rw [hx]) <;> simp only [Bool.or_eq_true, Bool.and_eq_true, decide_eq_true_eq, Bool.or_eq_false_iff, Bool.and_eq_false_iff, decide_eq_false_iff_not, Bool.not_eq_true', Bool.not_eq_false', bne_iff_ne, beq_iff_eq, not_or, not_and, Decidable.not_not, ne_eq, gt_iff_lt, ge_iff_le, Int.not_lt, Int.not_le] at hx)
  · (repeat' with_reducible first |apply qA|apply qB|apply qC|apply qD|apply qE|apply qF|(apply qG;decide)|apply qH|apply qI|apply qJ|apply qK|((first|apply qL|apply qM|apply qN|apply qO|((first|apply qP|apply qQ);decide +kernel));(conv=>lhs;simp only[go_sem, ibin, ishift])<;>rfl)|((first|apply qR|apply qS);(conv=>lhs;simp only[go_sem])<;>rfl;rfl)|((first|apply qT|apply qU);(conv=>lhs;simp only[go_sem])<;>rfl;rfl)|apply qV|apply qW|apply qX|apply qY|apply qZ)
    refine ⟨by first | exact .inr rfl | exact .inl rfl, _, _, (by (conv => lhs; simp only [go_sem, ibin, ishift]) <;> with_reducible rfl), (by (conv => lhs; simp only [go_sem, ibin, ishift]) <;> with_reducible rfl), ?_⟩
    refine ⟨[0, 1, 2], by decide, rfl, ?_⟩
    exact ⟨by simp only [SV.cv, Pl.tote]; rw [if_pos hx], (by first | rfl | (simp only [go_sem, Pl.h]; done) | (simp only [go_sem, Pl.h] <;> rfl))⟩
  · have h0 : 0 ≤ n := by omega
    have h1 : n < (p.at_.length : Int) := by omega
    have h2 : n.toNat < p.at_.length := by omega
    obtain ⟨x, hg⟩ : ∃ x, p.at_[n.toNat]? = some x := ⟨_, List.getElem?_eq_getElem h2⟩
    (repeat' with_reducible first |apply qA|apply qB|apply qC|apply qD|apply qE|apply qF|(apply qG;decide)|apply qH|apply qI|apply qJ|apply qK|((first|apply qL|apply qM|apply qN|apply qO|((first|apply qP|apply qQ);decide +kernel));(conv=>lhs;simp only[go_sem, ibin, ishift, h0, h1, h2, hg, cI])<;>rfl)|((first|apply qR|apply qS);(conv=>lhs;simp only[go_sem])<;>rfl;rfl)|((first|apply qT|apply qU);(conv=>lhs;simp only[go_sem])<;>rfl;rfl)|apply qV|apply qW|apply qX|apply qY|apply qZ)
    refine ⟨by first | exact .inr rfl | exact .inl rfl, _, _, (by (conv => lhs; simp only [go_sem, ibin, ishift]) <;> with_reducible rfl), (by (conv => lhs; simp only [go_sem, ibin, ishift]) <;> with_reducible rfl), ?_⟩
    refine ⟨[0, 1, 2], by decide, rfl, ?_⟩
    exact ⟨by simp only [SV.cv, Pl.tote, hg, Option.getD_some]; rw [if_neg (by omega)], (by first | rfl | (simp only [go_sem, Pl.h]; done) | (simp only [go_sem, Pl.h] <;> rfl))⟩
theorem moves_spec (c : TabP T) (p : Pl) : Ret2 T 3 i_plant_Plant_Moves [.ptr 0 0] p.h (fun v h' => v = .i .i64 p.mv ∧ h' = p.h) := by
  refine Ret2_fnv c.moves rfl rfl ?_
  unfold Pl.h
  (repeat' with_reducible first |apply qA|apply qB|apply qC|apply qD|apply qE|apply qF|(apply qG;decide)|apply qH|apply qI|apply qJ|apply qK|((first|apply qL|apply qM|apply qN|apply qO|((first|apply qP|apply qQ);decide +kernel));(conv=>lhs;simp only[go_sem, ibin, ishift])<;>rfl)|((first|apply qR|apply qS);(conv=>lhs;simp only[go_sem])<;>rfl;rfl)|((first|apply qT|apply qU);(conv=>lhs;simp only[go_sem])<;>rfl;rfl)|apply qV|apply qW|apply qX|apply qY|apply qZ)
  refine ⟨by first | exact .inr rfl | exact .inl rfl, _, _, (by (conv => lhs; simp only [go_sem, ibin, ishift]) <;> with_reducible rfl), (by (conv => lhs; simp only [go_sem, ibin, ishift]) <;> with_reducible rfl), ?_⟩
  refine ⟨[0, 1, 2], by decide, rfl, ?_⟩
  exact ⟨rfl, (by first | rfl | (simp only [go_sem, Pl.h]; done) | (simp only [go_sem, Pl.h] <;> rfl))⟩
end Go.Proofs.Ytpblhjaghkkdhaa.Ab
