/- Chapter 20: a new plant. -/
import Derived.Test.YtpblhjaghkkdhaaY20c
namespace Go.Proofs.Ytpblhjaghkkdhaa.Ab
open Go
set_option linter.unusedVariables false
set_option linter.unusedSimpArgs false
variable {T : AT}
theorem clone_spec (c : TabP T) (l : List Ed) (hl : l.length ≤ 1000000) : Ret2 T 0 i_slices_Clone_2_int_2_int [.fz 2 (l.map cD)] [] (fun v h' => v = .fz 2 (l.map cD) ∧ h' = []) := by
  refine Ret2_fnv c.clone rfl rfl ?_
  cases l with
  | nil =>
    (repeat' with_reducible first |apply qA|apply qB|apply qC|apply qD|apply qE|apply qF|(apply qG;decide)|apply qH|apply qI|apply qJ|apply qK|((first|apply qL|apply qM|apply qN|apply qO|((first|apply qP|apply qQ);decide +kernel));(conv=>lhs;simp only[go_sem, ibin, ishift])<;>rfl)|((first|apply qR|apply qS);(conv=>lhs;simp only[go_sem])<;>rfl;rfl)|((first|apply qT|apply qU);(conv=>lhs;simp only[go_sem])<;>rfl;rfl)|apply qV|apply qW|apply qX|apply qY|apply qZ)
    refine W2_eqn (by decide) rfl ?_
    intro b
    simp only [List.map_cons, List.map_nil, eg, Nat.reduceEqDiff, if_true, if_false, reduceIte]
    cases b with
    | true =>
      (repeat' with_reducible first |apply qA|apply qB|apply qC|apply qD|apply qE|apply qF|(apply qG;decide)|apply qH|apply qI|apply qJ|apply qK|apply qX|((first|apply qR|apply qS);(conv=>lhs;simp only[go_sem])<;>rfl;rfl)|((first|apply qT|apply qU);(conv=>lhs;simp only[go_sem])<;>rfl;rfl)|apply qZ)
      (with_reducible first | apply W2_sra | apply W2_runa); ((conv => lhs; simp only [go_sem, ibin, ishift]) <;> with_reducible rfl)
      refine W2.weak (Wk.nilf 2 2 rfl) ?_
      (repeat' with_reducible first |apply qA|apply qB|apply qC|apply qD|apply qE|apply qF|(apply qG;decide)|apply qH|apply qI|apply qJ|apply qK|((first|apply qL|apply qM|apply qN|apply qO|((first|apply qP|apply qQ);decide +kernel));(conv=>lhs;simp only[go_sem, ibin, ishift])<;>rfl)|((first|apply qR|apply qS);(conv=>lhs;simp only[go_sem])<;>rfl;rfl)|((first|apply qT|apply qU);(conv=>lhs;simp only[go_sem])<;>rfl;rfl)|apply qV|apply qW|apply qX|apply qY|apply qZ)
      refine ⟨by first | exact .inr rfl | exact .inl rfl, _, _, (by (conv => lhs; simp only [go_sem, ibin, ishift]) <;> with_reducible rfl), (by (conv => lhs; simp only [go_sem, ibin, ishift]) <;> with_reducible rfl), ?_⟩
      refine ⟨[], by decide, rfl, ?_⟩
      exact ⟨rfl, rfl⟩
    | false =>
      have h16 : 0 ≤ room := Nat.zero_le _
      (repeat' with_reducible first |apply qA|apply qB|apply qC|apply qD|apply qE|apply qF|(apply qG;decide)|apply qH|apply qI|apply qJ|apply qK|apply qX|((first|apply qR|apply qS);(conv=>lhs;simp only[go_sem])<;>rfl;rfl)|((first|apply qT|apply qU);(conv=>lhs;simp only[go_sem])<;>rfl;rfl)|apply qZ)
      (with_reducible first | apply W2_sra | apply W2_runa); ((conv => lhs; simp only [go_sem, ibin, ishift, h16]) <;> with_reducible rfl)
      refine W2.wfrz 1 rfl (by (conv => lhs; simp only [go_sem, ibin, ishift]) <;> with_reducible rfl) (by (conv => lhs; simp only [go_sem, ibin, ishift]) <;> with_reducible rfl) ?_
      (repeat' with_reducible first |apply qA|apply qB|apply qC|apply qD|apply qE|apply qF|(apply qG;decide)|apply qH|apply qI|apply qJ|apply qK|((first|apply qL|apply qM|apply qN|apply qO|((first|apply qP|apply qQ);decide +kernel));(conv=>lhs;simp only[go_sem, ibin, ishift])<;>rfl)|((first|apply qR|apply qS);(conv=>lhs;simp only[go_sem])<;>rfl;rfl)|((first|apply qT|apply qU);(conv=>lhs;simp only[go_sem])<;>rfl;rfl)|apply qV|apply qW|apply qX|apply qY|apply qZ)
      refine ⟨by first | exact .inr rfl | exact .inl rfl, _, _, (by (conv => lhs; simp only [go_sem, ibin, ishift]) <;> with_reducible rfl), (by (conv => lhs; simp only [go_sem, ibin, ishift]) <;> with_reducible rfl), ?_⟩
      refine ⟨[], by decide, rfl, ?_⟩
      exact ⟨rfl, rfl⟩
  | cons x l =>
    have hroom : (0 + (x :: l).length) * 16 ≤ room := by simp only [room]; omega
    have hroom1 : (l.length + 1) * 16 ≤ room := by simp only [room, List.length_cons] at *; omega
    have hroom2 : (0 + (l.length + 1)) * 16 ≤ room := by omega
    ((repeat' with_reducible first |apply qA|apply qB|apply qC|apply qD|apply qE|apply qF|(apply qG;decide)|apply qH|apply qI|apply qJ|apply qK|apply qX|((first|apply qR|apply qS);(conv=>lhs;simp only[go_sem])<;>rfl;rfl)|((first|apply qT|apply qU);(conv=>lhs;simp only[go_sem])<;>rfl;rfl)|apply qZ|apply qY|apply qW);with_reducible((first|apply qL|apply qM|apply qN|apply qO|((first|apply qP|apply qQ);decide +kernel));(conv=>lhs;simp only[go_sem, ibin, ishift])<;>rfl))
    ((repeat' with_reducible first |apply qA|apply qB|apply qC|apply qD|apply qE|apply qF|(apply qG;decide)|apply qH|apply qI|apply qJ|apply qK|apply qX|((first|apply qR|apply qS);(conv=>lhs;simp only[go_sem])<;>rfl;rfl)|((first|apply qT|apply qU);(conv=>lhs;simp only[go_sem])<;>rfl;rfl)|apply qZ|apply qY|apply qW);with_reducible((first|apply qL|apply qM|apply qN|apply qO|((first|apply qP|apply qQ);decide +kernel));(conv=>lhs;simp only[go_sem, ibin, ishift])<;>rfl))
    (repeat' with_reducible first |apply qA|apply qB|apply qC|apply qD|apply qE|apply qF|(apply qG;decide)|apply qH|apply qI|apply qJ|apply qK|apply qX|((first|apply qR|apply qS);(conv=>lhs;simp only[go_sem])<;>rfl;rfl)|((first|apply qT|apply qU);(conv=>lhs;simp only[go_sem])<;>rfl;rfl)|apply qZ)
    (with_reducible first | apply W2_sra | apply W2_runa); ((conv => lhs; simp only [go_sem, ibin, ishift, hroom, hroom1, hroom2]) <;> with_reducible rfl)
    refine W2.wfrz 1 rfl (by (conv => lhs; simp only [go_sem, ibin, ishift]) <;> with_reducible rfl) (by (conv => lhs; simp only [go_sem, ibin, ishift]) <;> with_reducible rfl) ?_
    (repeat' with_reducible first |apply qA|apply qB|apply qC|apply qD|apply qE|apply qF|(apply qG;decide)|apply qH|apply qI|apply qJ|apply qK|((first|apply qL|apply qM|apply qN|apply qO|((first|apply qP|apply qQ);decide +kernel));(conv=>lhs;simp only[go_sem, ibin, ishift])<;>rfl)|((first|apply qR|apply qS);(conv=>lhs;simp only[go_sem])<;>rfl;rfl)|((first|apply qT|apply qU);(conv=>lhs;simp only[go_sem])<;>rfl;rfl)|apply qV|apply qW|apply qX|apply qY|apply qZ)
    refine ⟨by first | exact .inr rfl | exact .inl rfl, _, _, (by (conv => lhs; simp only [go_sem, ibin, ishift]) <;> with_reducible rfl), (by (conv => lhs; simp only [go_sem, ibin, ishift]) <;> with_reducible rfl), ?_⟩
    refine ⟨[], by decide, rfl, ?_⟩
    exact ⟨rfl, rfl⟩
def Pl.new (l : Lay) : Pl := ⟨l.es, List.replicate l.ns.length 0, List.replicate (l.es.length + 1) ⟨false, false, 0, 0⟩, 0⟩
theorem rep_cI (n : Nat) : List.replicate n [PV.i .i64 0] = (List.replicate n (0 : Int)).map cI := by rw [List.map_replicate]; rfl
theorem rep_cV (n : Nat) : List.replicate n [PV.b false, PV.b false, PV.i .u16 0, PV.i .u16 0] = (List.replicate n (Dv.mk false false 0 0)).map cV := by rw [List.map_replicate]; rfl
theorem new_spec (c : TabP T) (l : Lay) (hl : l.ns.length ≤ 1000000 ∧ l.es.length ≤ 1000000) (hs : ∀ x ∈ l.ns, x.name.length ≤ 9223372036854775807) :
    Ret2 T 0 i_plant_New [l.v] [] (fun v h' => (l.good = false → v = .tup [.nilp, .i .i64 61] ∧ h' = []) ∧ (l.good = true → v = .tup [.ptr 0 0, .i .i64 0] ∧ h' = (Pl.new l).h)) := by
  refine Ret2_fnv c.new rfl rfl ?_
  have hv : l.v = .agg [.fz 3 (l.ns.map cN), .fz 2 (l.es.map cD)] := rfl
  rw [hv]
  (repeat' with_reducible first |apply qA|apply qB|apply qC|apply qD|apply qE|apply qF|(apply qG;decide)|apply qH|apply qI|apply qJ|apply qK|((first|apply qL|apply qM|apply qN|apply qO|((first|apply qP|apply qQ);decide +kernel));(conv=>lhs;simp only[go_sem, ibin, ishift])<;>rfl)|((first|apply qR|apply qS);(conv=>lhs;simp only[go_sem])<;>rfl;rfl)|((first|apply qT|apply qU);(conv=>lhs;simp only[go_sem])<;>rfl;rfl)|apply qV|apply qW|apply qX|apply qY|apply qZ)
  (with_reducible((first|apply pA|apply pB|apply pC|apply pD|apply pE|((first|apply pF|apply pG);decide +kernel));(conv=>lhs;simp only[go_sem, ibin, ishift])<;>rfl))
  refine CK_pure (check_spec c.toTabK l hl hs) (by first | rfl | (simp only [go_sem, Lay.v]; done) | (simp only [go_sem, Lay.v] <;> rfl)) ?_
  rintro v h' ⟨rfl, rfl⟩
  cases hg : l.good with
  | false =>
    (with_reducible((first|apply WO2_finw|apply WO2_fina);(conv=>lhs;simp only[go_sem, ibin, ishift])<;>rfl))
    (repeat' with_reducible first |apply qA|apply qB|apply qC|apply qD|apply qE|apply qF|(apply qG;decide)|apply qH|apply qI|apply qJ|apply qK|((first|apply qL|apply qM|apply qN|apply qO|((first|apply qP|apply qQ);decide +kernel));(conv=>lhs;simp only[go_sem, ibin, ishift])<;>rfl)|((first|apply qR|apply qS);(conv=>lhs;simp only[go_sem])<;>rfl;rfl)|((first|apply qT|apply qU);(conv=>lhs;simp only[go_sem])<;>rfl;rfl)|apply qV|apply qW|apply qX|apply qY|apply qZ)
    refine ⟨by first | exact .inr rfl | exact .inl rfl, _, _, (by (conv => lhs; simp only [go_sem, ibin, ishift]) <;> with_reducible rfl), (by (conv => lhs; simp only [go_sem, ibin, ishift]) <;> with_reducible rfl), ?_⟩
    refine ⟨[], by decide, rfl, ?_⟩
    exact ⟨fun _ => ⟨rfl, rfl⟩, fun h => by cases h⟩
  | true =>
    have hlen : l.ns.length ≤ 40 ∧ l.es.length ≤ 120 := by
      simp only [Lay.good, Bool.and_eq_true, decide_eq_true_eq] at hg
      omega
    (with_reducible((first|apply WO2_finw|apply WO2_fina);(conv=>lhs;simp only[go_sem, ibin, ishift])<;>rfl))
    (repeat' with_reducible first |apply qA|apply qB|apply qC|apply qD|apply qE|apply qF|(apply qG;decide)|apply qH|apply qI|apply qJ|apply qK|((first|apply qL|apply qM|apply qN|apply qO|((first|apply qP|apply qQ);decide +kernel));(conv=>lhs;simp only[go_sem, ibin, ishift])<;>rfl)|((first|apply qR|apply qS);(conv=>lhs;simp only[go_sem])<;>rfl;rfl)|((first|apply qT|apply qU);(conv=>lhs;simp only[go_sem])<;>rfl;rfl)|apply qV|apply qW|apply qX|apply qY|apply qZ)
    (repeat' with_reducible first |apply qA|apply qB|apply qC|apply qD|apply qE|apply qF|(apply qG;decide)|apply qH|apply qI|apply qJ|apply qK|apply qX|((first|apply qR|apply qS);(conv=>lhs;simp only[go_sem])<;>rfl;rfl)|((first|apply qT|apply qU);(conv=>lhs;simp only[go_sem])<;>rfl;rfl)|apply qZ|apply qY|apply qW)
    have hn0 : (0 : Int) ≤ (l.ns.length : Int) := by omega
    have hn1 : (l.ns.length : Int) * 8 ≤ (room : Int) := by simp only [room]; omega
    have hm0 : (0 : Int) ≤ ((l.es.length + 1 : Nat) : Int) := by omega
    have hm1 : ((l.es.length + 1 : Nat) : Int) * 6 ≤ (room : Int) := by simp only [room]; omega
    have wm := wS (show l.es.length < 9223372036854775807 by omega)
    (with_reducible first | apply W2_sregH [0] [false, false, false, false, true, false, false, false, true, false, false, false, false, false, false, false, false, false, false, false] | apply W2_regH [0] [false, false, false, false, true, false, false, false, true, false, false, false, false, false, false, false, false, false, false, false])
    · decide
    · decide
    · rfl
    ((conv => lhs; simp only [go_sem, ibin, ishift]) <;> with_reducible rfl)
    refine EH_pure (clone_spec c l.es hl.2) rfl ?_
    rintro v h' ⟨rfl, rfl⟩
    (with_reducible apply WOH_go (by decide); ((conv => lhs; simp only [go_sem, ibin, ishift, hn0, hn1, hm0, hm1, wm, Int.le_refl, Int.toNat_natCast]) <;> with_reducible rfl))
    refine EH_go ?_
    rw [rep_cI, rep_cV]
    (repeat' with_reducible first |apply qA|apply qB|apply qC|apply qD|apply qE|apply qF|(apply qG;decide)|apply qH|apply qI|apply qJ|apply qK|((first|apply qL|apply qM|apply qN|apply qO|((first|apply qP|apply qQ);decide +kernel));(conv=>lhs;simp only[go_sem, ibin, ishift])<;>rfl)|((first|apply qR|apply qS);(conv=>lhs;simp only[go_sem])<;>rfl;rfl)|((first|apply qT|apply qU);(conv=>lhs;simp only[go_sem])<;>rfl;rfl)|apply qV|apply qW|apply qX|apply qY|apply qZ)
    refine ⟨by first | exact .inr rfl | exact .inl rfl, _, _, (by (conv => lhs; simp only [go_sem, ibin, ishift]) <;> with_reducible rfl), (by (conv => lhs; simp only [go_sem, ibin, ishift]) <;> with_reducible rfl), ?_⟩
    refine ⟨[3, 1, 2], by decide, rfl, ?_⟩
    refine ⟨fun h => (by cases h), fun _ => ⟨rfl, ?_⟩⟩
    simp only [Pl.h, Pl.new, List.length_replicate]
    exact (by first | rfl | ((conv => lhs; simp only [go_sem, ibin, ishift]) <;> rfl))
end Go.Proofs.Ytpblhjaghkkdhaa.Ab
