/- Chapter 05: lists of numbers; pieces told by a law. -/
import Derived.Test.YtadbipeachcekaaY05i
namespace Go.Proofs.Ytadbipeachcekaa.Ab
open Go
set_option linter.unusedVariables false
set_option linter.unusedSimpArgs false
variable {T : AT}
structure TabA (T : AT) : Prop extends TabL T where
  same : T i_stillageref03_Same = some (.fn c_stillageref03_Same)
theorem same16_spec (c : TabA T) (a b : List Int) (ha : a.length ≤ 1000000000) : Ret2 T 0 i_stillageref03_Same [.fz 1 (a.map cU), .fz 1 (b.map cU)] [] (fun v h' => v = .b (decide (a = b)) ∧ h' = []) := by
  refine Ret2_fnv c.same rfl rfl ?_
  (repeat' with_reducible first |apply qA|apply qB|apply qC|apply qD|apply qE|apply qF|(apply qG;decide)|apply qH|apply qI|apply qJ|apply qK|((first|apply qL|apply qM|apply qN|apply qO|((first|apply qP|apply qQ);decide +kernel));(conv=>lhs;simp only[go_sem, ibin, ishift])<;>rfl)|((first|apply qR|apply qS);(conv=>lhs;simp only[go_sem])<;>rfl;rfl)|((first|apply qT|apply qU);(conv=>lhs;simp only[go_sem])<;>rfl;rfl)|apply qV|apply qW|apply qX|apply qY|apply qZ)
  (((first | with_reducible apply W2_sc | with_reducible apply W2_cond); ((conv => lhs; simp only [go_sem]) <;> with_reducible rfl)) <;> intro hx <;> (try rw [hx]) <;> simp only [Bool.or_eq_true, Bool.and_eq_true, decide_eq_true_eq, Bool.or_eq_false_iff, Bool.and_eq_false_iff, decide_eq_false_iff_not, Bool.not_eq_true', Bool.not_eq_false', bne_iff_ne, beq_iff_eq, not_or, not_and, Decidable.not_not, ne_eq, gt_iff_lt, ge_iff_le, Int.not_lt, Int.not_le] at hx)
  · (repeat' with_reducible first |apply qA|apply qB|apply qC|apply qD|apply qE|apply qF|(apply qG;decide)|apply qH|apply qI|apply qJ|apply qK|((first|apply qL|apply qM|apply qN|apply qO|((first|apply qP|apply qQ);decide +kernel));(conv=>lhs;simp only[go_sem, ibin, ishift])<;>rfl)|((first|apply qR|apply qS);(conv=>lhs;simp only[go_sem])<;>rfl;rfl)|((first|apply qT|apply qU);(conv=>lhs;simp only[go_sem])<;>rfl;rfl)|apply qV|apply qW|apply qX|apply qY|apply qZ)
    refine ⟨by first | exact .inr rfl | exact .inl rfl, _, _, (by (conv => lhs; simp only [go_sem, ibin, ishift]) <;> with_reducible rfl), (by (conv => lhs; simp only [go_sem, ibin, ishift]) <;> with_reducible rfl), ?_⟩
    refine ⟨[], by decide, rfl, ?_⟩
    exact ⟨by rw [decide_eq_false (fun e => hx (by rw [e]))]; rfl, rfl⟩
  · have hl : a.length = b.length := by omega
    (repeat' with_reducible first |apply qA|apply qB|apply qC|apply qD|apply qE|apply qF|(apply qG;decide)|apply qH|apply qI|apply qJ|apply qK|((first|apply qL|apply qM|apply qN|apply qO|((first|apply qP|apply qQ);decide +kernel));(conv=>lhs;simp only[go_sem, ibin, ishift])<;>rfl)|((first|apply qR|apply qS);(conv=>lhs;simp only[go_sem])<;>rfl;rfl)|((first|apply qT|apply qU);(conv=>lhs;simp only[go_sem])<;>rfl;rfl)|apply qV|apply qW|apply qX|apply qY|apply qZ)
    refine W2_loopw (fun m e h => ∃ j, j + m = a.length ∧ (∀ i, i < j → a[i]? = b[i]?) ∧ e = [(0, .fz 1 (a.map cU)), (1, .fz 1 (b.map cU)), (12, .i .i64 a.length), (13, .i .i64 j)] ∧ h = []) a.length ⟨0, by omega, fun i h => by omega, rfl, rfl⟩ ?_
    rintro m e h ⟨j, hj, heq, rfl, rfl⟩
    (repeat' with_reducible first |apply qA|apply qB|apply qC|apply qD|apply qE|apply qF|(apply qG;decide)|apply qH|apply qI|apply qJ|apply qK|((first|apply qL|apply qM|apply qN|apply qO|((first|apply qP|apply qQ);decide +kernel));(conv=>lhs;simp only[go_sem, ibin, ishift])<;>rfl)|((first|apply qR|apply qS);(conv=>lhs;simp only[go_sem])<;>rfl;rfl)|((first|apply qT|apply qU);(conv=>lhs;simp only[go_sem])<;>rfl;rfl)|apply qV|apply qW|apply qX|apply qY|apply qZ)
    (((first | with_reducible apply W2_sc | with_reducible apply W2_cond); ((conv => lhs; simp only [go_sem]) <;> with_reducible rfl)) <;> intro hx <;> (try rw [hx]) <;> simp only [Bool.or_eq_true, Bool.and_eq_true, decide_eq_true_eq, Bool.or_eq_false_iff, Bool.and_eq_false_iff, decide_eq_false_iff_not, Bool.not_eq_true', Bool.not_eq_false', bne_iff_ne, beq_iff_eq, not_or, not_and, Decidable.not_not, ne_eq, gt_iff_lt, ge_iff_le, Int.not_lt, Int.not_le] at hx)
    · have hja : j < a.length := by omega
      have hjb : j < b.length := by omega
      have ga := List.getElem?_eq_getElem hja
      have gb := List.getElem?_eq_getElem hjb
      generalize a[j] = x at ga
      generalize b[j] = y at gb
      (repeat' with_reducible first |apply qA|apply qB|apply qC|apply qD|apply qE|apply qF|(apply qG;decide)|apply qH|apply qI|apply qJ|apply qK|((first|apply qL|apply qM|apply qN|apply qO|((first|apply qP|apply qQ);decide +kernel));(conv=>lhs;simp only[go_sem, ibin, ishift, ga, gb, cU])<;>rfl)|((first|apply qR|apply qS);(conv=>lhs;simp only[go_sem])<;>rfl;rfl)|((first|apply qT|apply qU);(conv=>lhs;simp only[go_sem])<;>rfl;rfl)|apply qV|apply qW|apply qX|apply qY|apply qZ)
      (((first | with_reducible apply W2_sc | with_reducible apply W2_cond); ((conv => lhs; simp only [go_sem]) <;> with_reducible rfl)) <;> intro hx <;> (try rw [hx]) <;> simp only [Bool.or_eq_true, Bool.and_eq_true, decide_eq_true_eq, Bool.or_eq_false_iff, Bool.and_eq_false_iff, decide_eq_false_iff_not, Bool.not_eq_true', Bool.not_eq_false', bne_iff_ne, beq_iff_eq, not_or, not_and, Decidable.not_not, ne_eq, gt_iff_lt, ge_iff_le, Int.not_lt, Int.not_le] at hx)
      · (repeat' with_reducible first |apply qA|apply qB|apply qC|apply qD|apply qE|apply qF|(apply qG;decide)|apply qH|apply qI|apply qJ|apply qK|((first|apply qL|apply qM|apply qN|apply qO|((first|apply qP|apply qQ);decide +kernel));(conv=>lhs;simp only[go_sem, ibin, ishift])<;>rfl)|((first|apply qR|apply qS);(conv=>lhs;simp only[go_sem])<;>rfl;rfl)|((first|apply qT|apply qU);(conv=>lhs;simp only[go_sem])<;>rfl;rfl)|apply qV|apply qW|apply qX|apply qY|apply qZ)
        refine ⟨by first | exact .inr rfl | exact .inl rfl, _, _, (by (conv => lhs; simp only [go_sem, ibin, ishift]) <;> with_reducible rfl), (by (conv => lhs; simp only [go_sem, ibin, ishift]) <;> with_reducible rfl), ?_⟩
        refine ⟨[], by decide, rfl, ?_⟩
        have hne : a ≠ b := fun e => by
          subst e
          rw [ga] at gb
          cases gb
          simp at hx
        exact ⟨by rw [decide_eq_false hne]; rfl, rfl⟩
      · have hxy : x = y := by simpa using hx
        (repeat' with_reducible first |apply qA|apply qB|apply qC|apply qD|apply qE|apply qF|(apply qG;decide)|apply qH|apply qI|apply qJ|apply qK|((first|apply qL|apply qM|apply qN|apply qO|((first|apply qP|apply qQ);decide +kernel));(conv=>lhs;simp only[go_sem, ibin, ishift, wS (show j < 9223372036854775807 by omega)])<;>rfl)|((first|apply qR|apply qS);(conv=>lhs;simp only[go_sem])<;>rfl;rfl)|((first|apply qT|apply qU);(conv=>lhs;simp only[go_sem])<;>rfl;rfl)|apply qV|apply qW|apply qX|apply qY|apply qZ)
        refine ⟨_, _, .refl, ?_⟩
        refine ⟨a.length - (j + 1), by omega, j + 1, by omega, fun i hi => ?_, rfl, rfl⟩
        by_cases hij : i = j
        · subst hij; rw [ga, gb, hxy]
        · exact heq i (by omega)
    · have : j = a.length := by omega
      subst this
      (repeat' with_reducible first |apply qA|apply qB|apply qC|apply qD|apply qE|apply qF|(apply qG;decide)|apply qH|apply qI|apply qJ|apply qK|((first|apply qL|apply qM|apply qN|apply qO|((first|apply qP|apply qQ);decide +kernel));(conv=>lhs;simp only[go_sem, ibin, ishift])<;>rfl)|((first|apply qR|apply qS);(conv=>lhs;simp only[go_sem])<;>rfl;rfl)|((first|apply qT|apply qU);(conv=>lhs;simp only[go_sem])<;>rfl;rfl)|apply qV|apply qW|apply qX|apply qY|apply qZ)
      refine ⟨by first | exact .inr rfl | exact .inl rfl, _, _, (by (conv => lhs; simp only [go_sem, ibin, ishift]) <;> with_reducible rfl), (by (conv => lhs; simp only [go_sem, ibin, ishift]) <;> with_reducible rfl), ?_⟩
      refine ⟨[], by decide, rfl, ?_⟩
      have : a = b := by
        apply List.ext_getElem?
        intro i
        by_cases hi : i < a.length
        · exact heq i hi
        · rw [List.getElem?_eq_none (by omega), List.getElem?_eq_none (by omega)]
      exact ⟨by rw [decide_eq_true this]; rfl, rfl⟩
def bt (j : Nat) : List UInt8 := [UInt8.ofNat j]
theorem u8_bt {j : Nat} (h : j < 256) : IntKind.u8.wrap (j : Int) = (((UInt8.ofNat j).toNat : Nat) : Int) := by
  rw [UInt8.toNat_ofNat', show IntKind.u8.wrap (j : Int) = (j : Int) % 256 from rfl]
  omega
def wm (w f : Int) (d : Nat → List UInt8) (p t : Int) (j i : Nat) : Rs := ⟨w, p, t, f, j, lst d i (j - i), false⟩
theorem wn_ackTo {w f p t : Int} {d : Nat → List UInt8} {j i : Nat} (hi : i ≤ j) (hj : j ≤ 64) : (wn w f d p t j).ackTo (num f i) = (wm w f d p t j i, (i : Int), (0 : Int)) := by
  have hfr : (wn w f d p t j).front = 0 := by
    unfold Rs.front wn
    cases j with
    | zero => rfl
    | succ j => simp only [lst_cons]; rfl
  have hnf := nof_at (r := wn w f d p t j) (n := (i : Int)) (by rw [hfr]; omega) (by rw [hfr]; omega)
  unfold wn at hnf ⊢
  rw [ackTo_all (k := j) hnf (by omega), lst_left d i j 0 (by omega) (by omega), lst_len, lst_len]
  unfold wm
  rw [Nat.zero_add, show (j : Int) - ((j - i : Nat) : Int) = (i : Int) by omega]
theorem wm_ack {w f p t : Int} {d : Nat → List UInt8} {j i : Nat} (hi : i < j) : (wm w f d p t j i).ack (num f i) = (wm w f d p t j (i + 1), 0) := by
  obtain ⟨m, hm⟩ : ∃ m, j - i = m + 1 := ⟨j - i - 1, by omega⟩
  have hm2 : j - (i + 1) = m := by omega
  unfold Rs.ack wm
  simp only [Bool.false_eq_true, if_false]
  rw [hm, hm2, lst_cons]
  have hx : ixR f (num f i) (mkP d i 0 :: lst d (i + 1) m) 0 = 0 := by
    rw [ixR, if_pos (by simp only [mkP]; rfl)]; rfl
  rw [hx, if_neg (by omega)]
  rfl
def outs (f : Int) (d : Nat → List UInt8) (a n : Nat) : List Ou := (lst d a n).map fun x => ⟨num f x.n, x.data⟩
theorem outs_len (f : Int) (d : Nat → List UInt8) (a n : Nat) : (outs f d a n).length = n := by simp [outs, lst_len]
theorem outs_get (f : Int) (d : Nat → List UInt8) (a n i : Nat) (h : i < n) : (outs f d a n)[i]? = some ⟨num f ((a + i : Nat) : Int), d (a + i)⟩ := by
  rw [outs, List.getElem?_map, lst_get d a n i h]; rfl
theorem wm_tick {w f p t : Int} {d : Nat → List UInt8} {j i : Nat} (ht : 0 < t) : (wm w f d p t j i).tick = (⟨w, p, t, f, j, (lst d i (j - i)).map (Pn.step p), false⟩, (lst d i (j - i)).map (Pn.step p), 0) := by
  have hs : ∀ x ∈ lst d i (j - i), sends p x := fun x hx => by
    obtain ⟨k, _, rfl⟩ := lst_mem hx
    exact .inl rfl
  unfold Rs.tick wm
  simp only [Bool.false_eq_true, if_false]
  rw [if_neg (by
    rw [Bool.not_eq_true, List.any_eq_false]
    intro x hx
    obtain ⟨k, _, rfl⟩ := lst_mem hx
    unfold dies
    rw [decide_eq_true_eq]
    simp only [mkP]
    omega)]
  rw [List.filter_eq_self.2 fun x hx => decide_eq_true (hs x hx)]
theorem wm_outs {w f p t : Int} {d : Nat → List UInt8} {j i : Nat} : ((lst d i (j - i)).map (Pn.step p)).map (fun x => (Pn.pc f x).out) = outs f d i (j - i) := by
  rw [outs, List.map_map]
  refine List.map_congr_left fun x _ => ?_
  have := step_n p x
  show (⟨num f (x.step p).n, (x.step p).data⟩ : Ou) = _
  rw [this.1, this.2]
theorem Rs.tick_sn {r : Rs} (h : r.Ok) (hd : r.dead = false) (hd2 : r.tick.1.dead = false) : r.sn.tick = (r.tick.1.sn, r.tick.2.1.map (fun x => (Pn.pc r.first x).out), r.tick.2.2) ∧ r.tick.1.Ok := by
  have hp := tick_sim (h.sim hd)
  have h2 := hp.2.2.eq_ hd2
  exact ⟨Prod.ext h2.1 (Prod.ext hp.2.1 hp.1), h2.2⟩
end Go.Proofs.Ytadbipeachcekaa.Ab
