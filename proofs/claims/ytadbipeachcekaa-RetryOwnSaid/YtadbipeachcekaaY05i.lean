/- Chapter 05: RetryWindow. -/
import Derived.Test.YtadbipeachcekaaY05h
namespace Go.Proofs.Ytadbipeachcekaa.Ab
open Go
set_option linter.unusedVariables false
set_option linter.unusedSimpArgs false
variable {T : AT}
theorem Rs.put_sn {r : Rs} (h : r.Ok) (hd : r.dead = false) (d : List UInt8) : r.sn.put d = ((r.put d).1.sn, (r.put d).2) ∧ ((r.put d).1.Ok ∧ (r.put d).1.dead = false) := by
  have hp := put_sim (h.sim hd) d
  have hd2 : (r.put d).1.dead = false := by
    unfold Rs.put
    split
    · exact hd
    split
    · exact hd
    split <;> exact hd
  have h2 := hp.2.eq_ hd2
  exact ⟨Prod.ext h2.1 hp.1, h2.2, hd2⟩
theorem Rs.ack_sn {r : Rs} (h : r.Ok) (hd : r.dead = false) (q : Int) : r.sn.ack q = ((r.ack q).1.sn, (r.ack q).2) ∧ ((r.ack q).1.Ok ∧ (r.ack q).1.dead = false) := by
  have hp := ack_sim (h.sim hd) q
  have hd2 : (r.ack q).1.dead = false := by
    unfold Rs.ack
    split
    · exact hd
    split <;> exact hd
  have h2 := hp.2.eq_ hd2
  exact ⟨Prod.ext h2.1 hp.1, h2.2, hd2⟩
theorem Rs.ackTo_sn {r : Rs} (h : r.Ok) (hd : r.dead = false) (q : Int) (h0 : 0 ≤ q) (h1 : q < 65536) : r.sn.ackTo q = ((r.ackTo q).1.sn, (r.ackTo q).2) ∧ ((r.ackTo q).1.Ok ∧ (r.ackTo q).1.dead = false) := by
  have hp := ackTo_sim (h.sim hd) q h0 h1
  have hd2 : (r.ackTo q).1.dead = false := by
    unfold Rs.ackTo
    split
    · exact hd
    split <;> exact hd
  have h2 := hp.2.eq_ hd2
  exact ⟨Prod.ext h2.1 hp.1, h2.2, hd2⟩
theorem num_b (f n : Int) : 0 ≤ num f n ∧ num f n < 65536 := by unfold num; omega
theorem ixR_at {f q : Int} : ∀ {l : List Pn} {i j : Nat} {x : Pn}, l[i]? = some x → num f x.n = q → (∀ y ∈ l.take i, num f y.n ≠ q) → ixR f q l j = ((j + i : Nat) : Int)
  | [], i, j, x, h, _, _ => by simp at h
  | y :: l, 0, j, x, h, hx, _ => by
    simp only [List.getElem?_cons_zero, Option.some.injEq] at h
    subst h
    rw [ixR, if_pos hx]; rfl
  | y :: l, i + 1, j, x, h, hx, hn => by
    rw [ixR, if_neg (hn y (by simp)), ixR_at (i := i) (by simpa using h) hx (fun z hz => hn z (by simp [hz]))]
    congr 1; omega
def mkP (d : Nat → List UInt8) (a : Nat) (i : Nat) : Pn := ⟨((a + i : Nat) : Int), d (a + i), 0, 0⟩
/-- the pieces a, a + 1, .. -/
def lst (d : Nat → List UInt8) (a n : Nat) : List Pn := (List.range n).map (mkP d a)
theorem lst_len (d : Nat → List UInt8) (a n : Nat) : (lst d a n).length = n := by simp [lst]
theorem lst_succ (d : Nat → List UInt8) (a n : Nat) : lst d a (n + 1) = lst d a n ++ [mkP d a n] := by simp [lst, List.range_succ]
theorem lst_cons (d : Nat → List UInt8) (a n : Nat) : lst d a (n + 1) = mkP d a 0 :: lst d (a + 1) n := by
  simp only [lst, List.range_succ_eq_map, List.map_cons, List.map_map]
  congr 1
  refine List.map_congr_left fun i _ => ?_
  unfold mkP
  simp only [Function.comp]
  rw [show a + (i + 1) = a + 1 + i by omega]
theorem lst_mem {d : Nat → List UInt8} {a n : Nat} {x : Pn} (h : x ∈ lst d a n) : ∃ i, i < n ∧ x = mkP d a i := by
  obtain ⟨i, hi, rfl⟩ := List.mem_map.1 h
  exact ⟨i, List.mem_range.1 hi, rfl⟩
theorem lst_get (d : Nat → List UInt8) (a n i : Nat) (h : i < n) : (lst d a n)[i]? = some (mkP d a i) := by simp [lst, h]
theorem lst_left (d : Nat → List UInt8) (b : Nat) : ∀ (n a : Nat), a ≤ b → b ≤ a + n → leftR (b : Int) (lst d a n) = lst d b (a + n - b)
  | 0, a, h1, h2 => by
    have : a = b := by omega
    subst this
    rw [show a + 0 - a = 0 by omega]; rfl
  | n + 1, a, h1, h2 => by
    by_cases h : a = b
    · subst h
      rw [leftR, List.filter_eq_self.2 (fun x hx => by
        obtain ⟨i, _, rfl⟩ := lst_mem hx
        exact decide_eq_true (by simp only [mkP]; omega))]
      rw [show a + (n + 1) - a = n + 1 by omega]
    · rw [lst_cons, leftR, List.filter_cons_of_neg (p := fun x : Pn => decide (x.n ≥ (b : Int))) (show ¬(decide (((a + 0 : Nat) : Int) ≥ (b : Int)) = true) by rw [decide_eq_true_eq]; omega), ← leftR, lst_left d b n (a + 1) (by omega) (by omega)]
      congr 1; omega
def wn (w f : Int) (d : Nat → List UInt8) (p t : Int) (j : Nat) : Rs := ⟨w, p, t, f, j, lst d 0 j, false⟩
theorem wn_put {w f p t : Int} {d : Nat → List UInt8} {j : Nat} (hj : (j : Int) < w) (hd : (d j).length ≤ 256) : (wn w f d p t j).put (d j) = (wn w f d p t (j + 1), num f j, 0) := by
  have hf : (wn w f d p t j).full = false := by
    unfold Rs.full wn
    cases j with
    | zero => rfl
    | succ j =>
      rw [lst_cons]
      exact decide_eq_false (by simp only [mkP]; omega)
  unfold Rs.put
  rw [if_neg (by exact Bool.false_ne_true), if_neg (by omega), if_neg (by rw [hf]; decide)]
  unfold wn
  simp only [lst_succ, mkP, Nat.zero_add, Int.natCast_add]
  rfl
theorem wn_full {w f p t : Int} {d : Nat → List UInt8} {j : Nat} (hj : (j : Int) = w) (h0 : 0 < j) : (wn w f d p t j).put [] = (wn w f d p t j, 0, 5) := by
  have hf : (wn w f d p t j).full = true := by
    unfold Rs.full wn
    cases j with
    | zero => omega
    | succ j =>
      rw [lst_cons]
      exact decide_eq_true (by simp only [mkP]; omega)
  unfold Rs.put
  rw [if_neg (by exact Bool.false_ne_true), if_neg (by simp), if_pos hf]
theorem wn_ack {w f p t : Int} {d : Nat → List UInt8} {j a : Nat} (ha : a < j) (hj : j ≤ 64) : (wn w f d p t j).ack (num f a) = (⟨w, p, t, f, j, woutR (lst d 0 j) a, false⟩, 0) := by
  have hi : ixR f (num f a) (lst d 0 j) 0 = ((0 + a : Nat) : Int) := ixR_at (lst_get d 0 j a ha) (by simp only [mkP]; congr 1; omega) (fun y hy => by
    obtain ⟨i, hi, rfl⟩ := List.mem_map.1 (by rw [lst, ← List.map_take] at hy; exact hy)
    have hi2 : i < a := by
      rw [List.take_range] at hi
      have := List.mem_range.1 hi
      omega
    intro hh
    have := num_inj hh (by simp only [mkP]; omega) (by simp only [mkP]; omega)
    simp only [mkP] at this
    omega)
  unfold Rs.ack wn
  simp only [Bool.false_eq_true, if_false]
  rw [hi, if_neg (by omega), Nat.zero_add, Int.toNat_natCast]
theorem wout_len {l : List Pn} {i : Nat} (h : i < l.length) : (woutR l i).length = l.length - 1 := by
  rw [woutR, List.length_append, List.length_take, List.length_drop]; omega
theorem wout_0 (d : Nat → List UInt8) (j : Nat) : woutR (lst d 0 (j + 1)) 0 = lst d 1 j := by
  rw [woutR, lst_cons]; rfl
theorem ackTo_all {w f p t : Int} {l : List Pn} {k : Nat} {c n : Int} (hn : (⟨w, p, t, f, c, l, false⟩ : Rs).nof (num f n) = n) (hc : n ≤ c) : (⟨w, p, t, f, c, l, false⟩ : Rs).ackTo (num f n) = (⟨w, p, t, f, c, leftR n l, false⟩, (l.length : Int) - ((leftR n l).length : Int), 0) := by
  unfold Rs.ackTo
  simp only [Bool.false_eq_true, if_false]
  rw [hn, if_neg (by omega)]
theorem nof_at {r : Rs} {n : Int} (h0 : r.front ≤ n) (h1 : n < r.front + 65536) : r.nof (num r.first n) = n := by
  unfold Rs.nof num; omega
theorem u16_num (f : Int) (j : Nat) : IntKind.u16.wrap (f + IntKind.u16.wrap (j : Int)) = num f j := by
  rw [IntKind.wrap_u16, IntKind.wrap_u16]; unfold num; omega
theorem sn_len {r : Rs} (h : r.Ok) : r.sn.opn.length ≤ 100000 := by
  have := h.len
  show (r.opn.map _).length ≤ _
  rw [List.length_map]; omega
theorem win_far {w f p t : Int} {d : Nat → List UInt8} {k i : Nat} (hw : w = ((k + 1 : Nat) : Int)) (hk : k < 64) (h0 : 0 < i) (hi : i < k + 1) :
    (⟨w, p, t, f, ((k + 1 : Nat) : Int), woutR (lst d 0 (k + 1)) i, false⟩ : Rs).put [] = (⟨w, p, t, f, ((k + 1 : Nat) : Int), woutR (lst d 0 (k + 1)) i, false⟩, 0, 5) ∧ ∃ r3 : Rs, (⟨w, p, t, f, ((k + 1 : Nat) : Int), woutR (lst d 0 (k + 1)) i, false⟩ : Rs).ackTo (num f ((k + 1 : Nat) : Int)) = (r3, (k : Int), 0) := by
  have hwo : woutR (lst d 0 (k + 1)) i = mkP d 0 0 :: woutR (lst d 1 k) (i - 1) := by
    obtain ⟨i, rfl⟩ : ∃ i', i = i' + 1 := ⟨i - 1, by omega⟩
    rw [woutR, woutR, lst_cons]; rfl
  have hlen : (woutR (lst d 0 (k + 1)) i).length = k := by rw [wout_len (by rw [lst_len]; exact hi), lst_len]; rfl
  refine ⟨?_, ?_⟩
  · unfold Rs.put
    rw [if_neg (by exact Bool.false_ne_true), if_neg (by simp), if_pos]
    unfold Rs.full
    simp only
    rw [hwo]
    exact decide_eq_true (by simp only [mkP]; omega)
  · have hfr : (⟨w, p, t, f, ((k + 1 : Nat) : Int), woutR (lst d 0 (k + 1)) i, false⟩ : Rs).front = 0 := by
      unfold Rs.front
      simp only
      rw [hwo]; rfl
    have hnf := nof_at (r := ⟨w, p, t, f, ((k + 1 : Nat) : Int), woutR (lst d 0 (k + 1)) i, false⟩) (n := ((k + 1 : Nat) : Int)) (by rw [hfr]; omega) (by rw [hfr]; omega)
    rw [ackTo_all (k := k) (n := ((k + 1 : Nat) : Int)) hnf (Int.le_refl _)]
    have hl : leftR ((k + 1 : Nat) : Int) (woutR (lst d 0 (k + 1)) i) = [] := by
      refine List.filter_eq_nil_iff.2 fun x hx => ?_
      have hx2 : x ∈ lst d 0 (k + 1) := by
        rcases List.mem_append.1 hx with h | h
        · exact List.mem_of_mem_take h
        · exact List.mem_of_mem_drop h
      obtain ⟨j, hj, rfl⟩ := lst_mem hx2
      show ¬(decide (((0 + j : Nat) : Int) ≥ ((k + 1 : Nat) : Int)) = true)
      rw [decide_eq_true_eq]; omega
    rw [hl, hlen]
    exact ⟨_, by rw [show (k : Int) - ((List.length ([] : List Pn) : Nat) : Int) = (k : Int) by simp]⟩
theorem win_near {w f p t : Int} {d : Nat → List UInt8} {k : Nat} (hw : w = ((k + 1 : Nat) : Int)) (hk : k < 64) (hd : d (k + 1) = []) :
    (⟨w, p, t, f, ((k + 1 : Nat) : Int), woutR (lst d 0 (k + 1)) 0, false⟩ : Rs).put [] = (⟨w, p, t, f, ((k + 1 : Nat) : Int) + 1, lst d 1 (k + 1), false⟩, num f ((k + 1 : Nat) : Int), 0) ∧ ∃ r3 : Rs, (⟨w, p, t, f, ((k + 1 : Nat) : Int) + 1, lst d 1 (k + 1), false⟩ : Rs).ackTo (num f ((k + 1 : Nat) : Int)) = (r3, (k : Int), 0) := by
  rw [wout_0]
  refine ⟨?_, ?_⟩
  · unfold Rs.put
    rw [if_neg (by exact Bool.false_ne_true), if_neg (by simp), if_neg]
    · rw [lst_succ, mkP, show 1 + k = k + 1 by omega, hd]
    · unfold Rs.full
      cases k with
      | zero => exact Bool.false_ne_true
      | succ k =>
        simp only
        rw [lst_cons]
        show ¬(decide (((k + 1 + 1 : Nat) : Int) - ((1 + 0 : Nat) : Int) + 1 > w) = true)
        rw [decide_eq_true_eq]; omega
  · have hfr : (⟨w, p, t, f, ((k + 1 : Nat) : Int) + 1, lst d 1 (k + 1), false⟩ : Rs).front = 1 := by
      unfold Rs.front
      simp only
      rw [lst_cons]; rfl
    have hnf := nof_at (r := ⟨w, p, t, f, ((k + 1 : Nat) : Int) + 1, lst d 1 (k + 1), false⟩) (n := ((k + 1 : Nat) : Int)) (by rw [hfr]; omega) (by rw [hfr]; omega)
    rw [ackTo_all (k := k) (n := ((k + 1 : Nat) : Int)) hnf (by omega)]
    rw [lst_left d (k + 1) (k + 1) 1 (by omega) (by omega), lst_len, lst_len]
    exact ⟨_, by rw [show ((k + 1 : Nat) : Int) - ((1 + (k + 1) - (k + 1) : Nat) : Int) = (k : Int) by omega]⟩
theorem retryWindow_law (c : TabL T) (hT : T i_stillagelaw05_RetryWindow = some (.fn c_stillagelaw05_RetryWindow)) (a f b : Int) (hf0 : 0 ≤ f) (hf1 : f < 65536) : Ret2 T 0 i_stillagelaw05_RetryWindow [.i .i64 a, .i .u16 f, .i .i64 b] [] (fun v h' => v = .b true) := by
  refine Ret2_fnv hT rfl rfl ?_
  obtain ⟨k, hk, hk1⟩ := umod a 64 (by decide) (by decide)
  have hk : IntKind.i64.wrap ((IntKind.u64.wrap a).tmod 64) = (k : Int) := hk
  have wk := wS (show k < 9223372036854775807 by omega)
  (repeat' with_reducible first |apply qA|apply qB|apply qC|apply qD|apply qE|apply qF|(apply qG;decide)|apply qH|apply qI|apply qJ|apply qK|((first|apply qL|apply qM|apply qN|apply qO|((first|apply qP|apply qQ);decide +kernel));(conv=>lhs;simp only[go_sem, ibin, ishift])<;>rfl)|((first|apply qR|apply qS);(conv=>lhs;simp only[go_sem])<;>rfl;rfl)|((first|apply qT|apply qU);(conv=>lhs;simp only[go_sem])<;>rfl;rfl)|apply qV|apply qW|apply qX|apply qY|apply qZ)
  (with_reducible((first|apply pA|apply pB|apply pC|apply pD|apply pE|((first|apply pF|apply pG);decide +kernel));(conv=>lhs;simp only[go_sem, ibin, ishift])<;>rfl))
  refine CK_pure (always_spec c.awake) rfl ?_
  rintro v h' ⟨rfl, rfl⟩
  (with_reducible((first|apply WO2_finw|apply WO2_fina);(conv=>lhs;simp only[go_sem, ibin, ishift])<;>rfl))
  (repeat' with_reducible first |apply qA|apply qB|apply qC|apply qD|apply qE|apply qF|(apply qG;decide)|apply qH|apply qI|apply qJ|apply qK|((first|apply qL|apply qM|apply qN|apply qO|((first|apply qP|apply qQ);decide +kernel));(conv=>lhs;simp only[go_sem, ibin, ishift, hk, wk])<;>rfl)|((first|apply qR|apply qS);(conv=>lhs;simp only[go_sem])<;>rfl;rfl)|((first|apply qT|apply qU);(conv=>lhs;simp only[go_sem])<;>rfl;rfl)|apply qV|apply qW|apply qX|apply qY|apply qZ)
  (with_reducible((first|apply pA|apply pB|apply pC|apply pD|apply pE|((first|apply pF|apply pG);decide +kernel));(conv=>lhs;simp only[go_sem, ibin, ishift])<;>rfl))
  refine CK_pure (new_spec c.toTabS ((k + 1 : Nat) : Int) 5 5 f) rfl ?_
  rintro v h' ⟨-, hv⟩
  obtain ⟨rfl, rfl⟩ := hv ⟨by omega, by omega, by omega⟩
  clear hv
  have hr0 := new_sn (w := ((k + 1 : Nat) : Int)) (p := 5) (t := 5) hf0 hf1
  have hk0 : (Rs.new ((k + 1 : Nat) : Int) 5 5 f).Ok := new_ok ⟨by omega, by omega, by omega⟩ hf0 hf1
  rw [← hr0]
  rw [show Rs.new ((k + 1 : Nat) : Int) 5 5 f = wn ((k + 1 : Nat) : Int) f (fun _ => []) 5 5 0 from rfl] at hk0 ⊢
  unfold Sn.h Sn.o
  (with_reducible((first|apply WO2_finw|apply WO2_fina);(conv=>lhs;simp only[go_sem, ibin, ishift])<;>rfl))
  (repeat' with_reducible first |apply qA|apply qB|apply qC|apply qD|apply qE|apply qF|(apply qG;decide)|apply qH|apply qI|apply qJ|apply qK|((first|apply qL|apply qM|apply qN|apply qO|((first|apply qP|apply qQ);decide +kernel));(conv=>lhs;simp only[go_sem, ibin, ishift])<;>rfl)|((first|apply qR|apply qS);(conv=>lhs;simp only[go_sem])<;>rfl;rfl)|((first|apply qT|apply qU);(conv=>lhs;simp only[go_sem])<;>rfl;rfl)|apply qV|apply qW|apply qX|apply qY|apply qZ)
  refine W2_loopu (fun m u g => ∃ (j : Nat) (s : Sn), j + m = k + 1 ∧ s = (wn ((k + 1 : Nat) : Int) f (fun _ => []) 5 5 j).sn ∧ (wn ((k + 1 : Nat) : Int) f (fun _ => []) 5 5 j).Ok ∧ u = [(9, .i .i64 j)] ∧ g = [(0, .obj [.i .i64 s.win, .i .i64 s.pau, .i .i64 s.tim, .i .u16 s.next, .sl 4 1 0 s.opn.length none, .b s.dead]), (1, .arr 4 (s.opn.map cPc))]) (k + 1) ⟨0, _, by omega, rfl, hk0, rfl, rfl⟩ rfl rfl ?_
  clear hk0
  rintro m u g ⟨j, s, hj, hs, hok, rfl, rfl⟩
  intro e1 h1 he1 hh1; simp only [egd, supE, hgd, supH, Nat.reduceEqDiff, Nat.reduceAdd, if_true, if_false, reduceIte] at he1 hh1; subst he1; subst hh1
  by_cases hjn : j < k + 1
  · have zj : decide (j < k + 1) = true := decide_eq_true hjn
    have zji : decide ((j : Int) < ((k + 1 : Nat) : Int)) = true := decide_eq_true (by omega)
    have wj := wS (show j < 9223372036854775807 by omega)
    have hps := put_nil c.toTabS s (by rw [hs]; exact sn_len hok)
    have hpt := Rs.put_sn hok rfl []
    rw [wn_put (d := fun _ => []) (by omega) (Nat.zero_le _), ← hs] at hpt
    rw [hpt.1] at hps
    have hok2 := hpt.2.1
    clear hpt
    simp only at hps hok2
    generalize hs2 : (wn ((k + 1 : Nat) : Int) f (fun _ => []) 5 5 (j + 1)).sn = s2 at hps
    unfold Sn.h Sn.o at hps
    have hsq := u16_num f j
    (repeat' with_reducible first |apply qA|apply qB|apply qC|apply qD|apply qE|apply qF|(apply qG;decide)|apply qH|apply qI|apply qJ|apply qK|((first|apply qL|apply qM|apply qN|apply qO|((first|apply qP|apply qQ);decide +kernel));(conv=>lhs;simp only[go_sem, ibin, ishift, zj, zji])<;>rfl)|((first|apply qR|apply qS);(conv=>lhs;simp only[go_sem])<;>rfl;rfl)|((first|apply qT|apply qU);(conv=>lhs;simp only[go_sem])<;>rfl;rfl)|apply qV|apply qW|apply qX|apply qY|apply qZ)
    (with_reducible((first|apply pA|apply pB|apply pC|apply pD|apply pE|((first|apply pF|apply pG);decide +kernel));(conv=>lhs;simp only[go_sem, ibin, ishift])<;>rfl))
    refine CK_call [0, 1] hps (by decide) (by simp) rfl rfl rfl ?_
    rintro v h' ⟨rfl, rfl⟩
    (with_reducible((first|apply WO2_finw|apply WO2_fina);(conv=>lhs;simp only[go_sem, ibin, ishift])<;>rfl))
    (repeat' with_reducible first |apply qA|apply qB|apply qC|apply qD|apply qE|apply qF|(apply qG;decide)|apply qH|apply qI|apply qJ|apply qK|((first|apply qL|apply qM|apply qN|apply qO|((first|apply qP|apply qQ);decide +kernel));(conv=>lhs;simp only[go_sem, ibin, ishift, wj, hsq])<;>rfl)|((first|apply qR|apply qS);(conv=>lhs;simp only[go_sem])<;>rfl;rfl)|((first|apply qT|apply qU);(conv=>lhs;simp only[go_sem])<;>rfl;rfl)|apply qV|apply qW|apply qX|apply qY|apply qZ)
    refine ⟨[0, 1], by decide, rfl, ?_⟩
    exact ⟨k + 1 - (j + 1), _, _, by omega, ⟨j + 1, s2, by omega, hs2.symm, hok2, rfl, rfl⟩, rfl, (by first | rfl | ((conv => lhs; simp only [go_sem, ibin, ishift]) <;> rfl))⟩
  have zj : decide (j < k + 1) = false := decide_eq_false hjn
  have zji : decide ((j : Int) < ((k + 1 : Nat) : Int)) = false := decide_eq_false (by omega)
  have hjk : j = k + 1 := by omega
  subst hjk
  obtain ⟨i, hi, hik⟩ := umod b (k + 1) (by omega) (by omega)
  have wkk : IntKind.u64.wrap ((k + 1 : Nat) : Int) = ((k + 1 : Nat) : Int) := by
    show ((k + 1 : Nat) : Int) % 18446744073709551616 = _
    omega
  have znk : ¬(((k + 1 : Nat) : Int) = 0) := by omega
  -- full
  have hps := put_nil c.toTabS s (by rw [hs]; exact sn_len hok)
  have hpt := Rs.put_sn hok rfl []
  rw [wn_full (by omega) (by omega), ← hs] at hpt
  rw [hpt.1] at hps
  have hps0 := hps
  clear hpt hps
  -- one of them is acknowledged
  have hks := ack_spec c.toTabS s (by rw [hs]; exact sn_len hok) (num f i)
  have hkt := Rs.ack_sn hok rfl (num f i)
  rw [wn_ack hik (by omega), ← hs] at hkt
  rw [hkt.1] at hks
  have hok2 := hkt.2.1
  clear hkt
  simp only at hps0 hks hok2
  generalize hr2 : (⟨((k + 1 : Nat) : Int), 5, 5, f, ((k + 1 : Nat) : Int), woutR (lst (fun _ => []) 0 (k + 1)) i, false⟩ : Rs) = r2 at hks hok2
  have hl2 : r2.sn.opn.length = k := by
    rw [← hr2]
    show (List.map _ _).length = _
    rw [List.length_map, wout_len (by rw [lst_len]; exact hik), lst_len]; rfl
  have hos := open_spec c.toTabS r2.sn (sn_len hok2)
  have hps2 := put_nil c.toTabS r2.sn (sn_len hok2)
  have hsq := u16_num f i
  have hsk := u16_num f (k + 1)
  unfold Sn.h Sn.o at hps0 hks hos
  rw [hl2] at hks hos
  have wkm : IntKind.i64.wrap (((k + 1 : Nat) : Int) - 1) = (k : Int) := by rw [wi _ (by omega) (by omega)]; omega
  (repeat' with_reducible first |apply qA|apply qB|apply qC|apply qD|apply qE|apply qF|(apply qG;decide)|apply qH|apply qI|apply qJ|apply qK|((first|apply qL|apply qM|apply qN|apply qO|((first|apply qP|apply qQ);decide +kernel));(conv=>lhs;simp only[go_sem, ibin, ishift, zj, zji, wkk, znk, hi])<;>rfl)|((first|apply qR|apply qS);(conv=>lhs;simp only[go_sem])<;>rfl;rfl)|((first|apply qT|apply qU);(conv=>lhs;simp only[go_sem])<;>rfl;rfl)|apply qV|apply qW|apply qX|apply qY|apply qZ)
  (with_reducible((first|apply pA|apply pB|apply pC|apply pD|apply pE|((first|apply pF|apply pG);decide +kernel));(conv=>lhs;simp only[go_sem, ibin, ishift])<;>rfl))
  refine CK_call [0, 1] hps0 (by decide) (by simp) rfl rfl rfl ?_
  rintro v h' ⟨rfl, rfl⟩
  (with_reducible((first|apply WO2_finw|apply WO2_fina);(conv=>lhs;simp only[go_sem, ibin, ishift])<;>rfl))
  (repeat' with_reducible first |apply qA|apply qB|apply qC|apply qD|apply qE|apply qF|(apply qG;decide)|apply qH|apply qI|apply qJ|apply qK|((first|apply qL|apply qM|apply qN|apply qO|((first|apply qP|apply qQ);decide +kernel));(conv=>lhs;simp only[go_sem, ibin, ishift])<;>rfl)|((first|apply qR|apply qS);(conv=>lhs;simp only[go_sem])<;>rfl;rfl)|((first|apply qT|apply qU);(conv=>lhs;simp only[go_sem])<;>rfl;rfl)|apply qV|apply qW|apply qX|apply qY|apply qZ)
  (with_reducible((first|apply pA|apply pB|apply pC|apply pD|apply pE|((first|apply pF|apply pG);decide +kernel));(conv=>lhs;simp only[go_sem, ibin, ishift, hsq])<;>rfl))
  refine CK_call [0, 1] hks (by decide) (by simp) rfl rfl rfl ?_
  rintro v h' ⟨rfl, rfl⟩
  (with_reducible((first|apply pA|apply pB|apply pC|apply pD|apply pE|((first|apply pF|apply pG);decide +kernel));(conv=>lhs;simp only[go_sem, ibin, ishift])<;>rfl))
  refine CK_call [0, 1] hos (by decide) (by simp) rfl rfl rfl ?_
  rintro v h' ⟨rfl, rfl⟩
  (with_reducible((first|apply WO2_finw|apply WO2_fina);(conv=>lhs;simp only[go_sem, ibin, ishift, wkm])<;>rfl))
  (repeat' with_reducible first |apply qA|apply qB|apply qC|apply qD|apply qE|apply qF|(apply qG;decide)|apply qH|apply qI|apply qJ|apply qK|((first|apply qL|apply qM|apply qN|apply qO|((first|apply qP|apply qQ);decide +kernel));(conv=>lhs;simp only[go_sem, ibin, ishift])<;>rfl)|((first|apply qR|apply qS);(conv=>lhs;simp only[go_sem])<;>rfl;rfl)|((first|apply qT|apply qU);(conv=>lhs;simp only[go_sem])<;>rfl;rfl)|apply qV|apply qW|apply qX|apply qY|apply qZ)
  by_cases hi0 : 0 < i
  · have hfa := win_far (w := ((k + 1 : Nat) : Int)) (f := f) (p := 5) (t := 5) (d := fun _ => []) rfl hk1 hi0 hik
    rw [hr2] at hfa
    obtain ⟨hpt, r3, hat⟩ := hfa
    have hd2 : r2.dead = false := by rw [← hr2]
    rw [(Rs.put_sn hok2 hd2 []).1, hpt] at hps2
    simp only at hps2
    have hat2 := Rs.ackTo_sn hok2 hd2 (num f ((k + 1 : Nat) : Int)) (num_b _ _).1 (num_b _ _).2
    rw [hat] at hat2
    have has := ackTo_spec c.toTabS r2.sn (sn_len hok2) (num f ((k + 1 : Nat) : Int))
    rw [hat2.1] at has
    simp only at has
    unfold Sn.h Sn.o at hps2 has
    rw [hl2] at hps2 has
    have z1 : decide ((i : Int) > 0) = true := decide_eq_true (by omega)
    have z2 : decide (i > 0) = true := decide_eq_true hi0
    have z3 : decide ((i : Int) = 0) = false := decide_eq_false (by omega)
    have z4 : decide (i = 0) = false := decide_eq_false (by omega)
    (with_reducible((first|apply pA|apply pB|apply pC|apply pD|apply pE|((first|apply pF|apply pG);decide +kernel));(conv=>lhs;simp only[go_sem, ibin, ishift])<;>rfl))
    refine CK_call [0, 1] hps2 (by decide) (by simp) rfl rfl rfl ?_
    rintro v h' ⟨rfl, rfl⟩
    (with_reducible((first|apply WO2_finw|apply WO2_fina);(conv=>lhs;simp only[go_sem, ibin, ishift])<;>rfl))
    (repeat' with_reducible first |apply qA|apply qB|apply qC|apply qD|apply qE|apply qF|(apply qG;decide)|apply qH|apply qI|apply qJ|apply qK|((first|apply qL|apply qM|apply qN|apply qO|((first|apply qP|apply qQ);decide +kernel));(conv=>lhs;simp only[go_sem, ibin, ishift, z1, z2, z3, z4])<;>rfl)|((first|apply qR|apply qS);(conv=>lhs;simp only[go_sem])<;>rfl;rfl)|((first|apply qT|apply qU);(conv=>lhs;simp only[go_sem])<;>rfl;rfl)|apply qV|apply qW|apply qX|apply qY|apply qZ)
    (with_reducible((first|apply pA|apply pB|apply pC|apply pD|apply pE|((first|apply pF|apply pG);decide +kernel));(conv=>lhs;simp only[go_sem, ibin, ishift, hsk])<;>rfl))
    refine CK_call [0, 1] has (by decide) (by simp) rfl rfl rfl ?_
    rintro v h' ⟨rfl, rfl⟩
    (with_reducible((first|apply WO2_finw|apply WO2_fina);(conv=>lhs;simp only[go_sem, ibin, ishift])<;>rfl))
    (repeat' with_reducible first |apply qA|apply qB|apply qC|apply qD|apply qE|apply qF|(apply qG;decide)|apply qH|apply qI|apply qJ|apply qK|((first|apply qL|apply qM|apply qN|apply qO|((first|apply qP|apply qQ);decide +kernel));(conv=>lhs;simp only[go_sem, ibin, ishift, wkm])<;>rfl)|((first|apply qR|apply qS);(conv=>lhs;simp only[go_sem])<;>rfl;rfl)|((first|apply qT|apply qU);(conv=>lhs;simp only[go_sem])<;>rfl;rfl)|apply qV|apply qW|apply qX|apply qY|apply qZ)
    refine ⟨by first | exact .inr rfl | exact .inl rfl, _, _, (by (conv => lhs; simp only [go_sem, ibin, ishift]) <;> with_reducible rfl), (by (conv => lhs; simp only [go_sem, ibin, ishift]) <;> with_reducible rfl), ?_⟩
    refine ⟨[], by decide, rfl, ?_⟩
    rfl
  · have hi1 : i = 0 := by omega
    subst hi1
    have hfa := win_near (w := ((k + 1 : Nat) : Int)) (f := f) (p := 5) (t := 5) (d := fun _ => []) rfl hk1 rfl
    rw [hr2] at hfa
    obtain ⟨hpt, r3, hat⟩ := hfa
    have hd2 : r2.dead = false := by rw [← hr2]
    have hpt2 := Rs.put_sn hok2 hd2 []
    rw [hpt] at hpt2
    rw [hpt2.1] at hps2
    have hok3 := hpt2.2.1
    clear hpt2
    simp only at hps2 hok3
    generalize hr4 : (⟨((k + 1 : Nat) : Int), 5, 5, f, ((k + 1 : Nat) : Int) + 1, lst (fun _ => []) 1 (k + 1), false⟩ : Rs) = r4 at hps2 hok3 hat
    have hd4 : r4.dead = false := by rw [← hr4]
    have hf4 : r4.first = f := by rw [← hr4]
    have hat2 := Rs.ackTo_sn hok3 hd4 (num f ((k + 1 : Nat) : Int)) (num_b _ _).1 (num_b _ _).2
    rw [hat] at hat2
    have has := ackTo_spec c.toTabS r4.sn (sn_len hok3) (num f ((k + 1 : Nat) : Int))
    rw [hat2.1] at has
    simp only at has
    unfold Sn.h Sn.o at hps2 has
    rw [hl2] at hps2
    (with_reducible((first|apply pA|apply pB|apply pC|apply pD|apply pE|((first|apply pF|apply pG);decide +kernel));(conv=>lhs;simp only[go_sem, ibin, ishift])<;>rfl))
    refine CK_call [0, 1] hps2 (by decide) (by simp) rfl rfl rfl ?_
    rintro v h' ⟨rfl, rfl⟩
    (with_reducible((first|apply WO2_finw|apply WO2_fina);(conv=>lhs;simp only[go_sem, ibin, ishift])<;>rfl))
    (repeat' with_reducible first |apply qA|apply qB|apply qC|apply qD|apply qE|apply qF|(apply qG;decide)|apply qH|apply qI|apply qJ|apply qK|((first|apply qL|apply qM|apply qN|apply qO|((first|apply qP|apply qQ);decide +kernel));(conv=>lhs;simp only[go_sem, ibin, ishift, hsk])<;>rfl)|((first|apply qR|apply qS);(conv=>lhs;simp only[go_sem])<;>rfl;rfl)|((first|apply qT|apply qU);(conv=>lhs;simp only[go_sem])<;>rfl;rfl)|apply qV|apply qW|apply qX|apply qY|apply qZ)
    (with_reducible((first|apply pA|apply pB|apply pC|apply pD|apply pE|((first|apply pF|apply pG);decide +kernel));(conv=>lhs;simp only[go_sem, ibin, ishift, hsk])<;>rfl))
    refine CK_call [0, 1] has (by decide) (by simp) rfl rfl rfl ?_
    rintro v h' ⟨rfl, rfl⟩
    (with_reducible((first|apply WO2_finw|apply WO2_fina);(conv=>lhs;simp only[go_sem, ibin, ishift])<;>rfl))
    (repeat' with_reducible first |apply qA|apply qB|apply qC|apply qD|apply qE|apply qF|(apply qG;decide)|apply qH|apply qI|apply qJ|apply qK|((first|apply qL|apply qM|apply qN|apply qO|((first|apply qP|apply qQ);decide +kernel));(conv=>lhs;simp only[go_sem, ibin, ishift, wkm])<;>rfl)|((first|apply qR|apply qS);(conv=>lhs;simp only[go_sem])<;>rfl;rfl)|((first|apply qT|apply qU);(conv=>lhs;simp only[go_sem])<;>rfl;rfl)|apply qV|apply qW|apply qX|apply qY|apply qZ)
    refine ⟨by first | exact .inr rfl | exact .inl rfl, _, _, (by (conv => lhs; simp only [go_sem, ibin, ishift]) <;> with_reducible rfl), (by (conv => lhs; simp only [go_sem, ibin, ishift]) <;> with_reducible rfl), ?_⟩
    refine ⟨[], by decide, rfl, ?_⟩
    rfl
end Go.Proofs.Ytadbipeachcekaa.Ab
