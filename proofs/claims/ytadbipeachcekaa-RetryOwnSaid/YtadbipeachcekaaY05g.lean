/- Chapter 05: acknowledged: both senders are alike. -/
import Derived.Test.YtadbipeachcekaaY05f
namespace Go.Proofs.Ytadbipeachcekaa.Ab
open Go
set_option linter.unusedVariables false
set_option linter.unusedSimpArgs false
theorem ix_sim (f q : Int) : ∀ (l : List Pn) (j : Nat), ixP (fun x => decide (x.seq = q)) (l.map (Pn.pc f)) j = ixR f q l j
  | [], _ => rfl
  | x :: l, j => by
    rw [List.map_cons, ixP, ixR, ix_sim f q l (j + 1)]
    by_cases h : num f x.n = q
    · rw [if_pos h, if_pos (decide_eq_true (show (Pn.pc f x).seq = q from h))]
    · rw [if_neg h, if_neg (by simpa using (show ¬((Pn.pc f x).seq = q) from h))]
theorem ack_sim {s : Sn} {r : Rs} (h : Sim s r) (q : Int) : (s.ack q).2 = (r.ack q).2 ∧ Sim (s.ack q).1 (r.ack q).1 := by
  cases hd : r.dead with
  | true =>
    have hsd : s.dead = true := h.dead_.trans hd
    unfold Sn.ack Rs.ack
    rw [if_pos hd, if_pos hsd]
    exact ⟨rfl, h⟩
  | false =>
    obtain ⟨rfl, hk⟩ := h.eq_ hd
    unfold Sn.ack Rs.ack
    rw [if_neg (show ¬(r.sn.dead = true) by show ¬(r.dead = true); rw [hd]; decide), if_neg (show ¬(r.dead = true) by rw [hd]; decide)]
    rw [show ixP (fun x => decide (x.seq = q)) r.sn.opn 0 = ixR r.first q r.opn 0 from ix_sim r.first q r.opn 0]
    by_cases h1 : ixR r.first q r.opn 0 < 0
    · rw [if_pos h1, if_pos h1]; exact ⟨rfl, h⟩
    rw [if_neg h1, if_neg h1]
    generalize (ixR r.first q r.opn 0).toNat = i
    have he : (⟨r.sn.win, r.sn.pau, r.sn.tim, r.sn.next, woutP r.sn.opn i, r.sn.dead⟩ : Sn) = (⟨r.win, r.pau, r.tim, r.first, r.count, woutR r.opn i, r.dead⟩ : Rs).sn := by
      unfold Rs.sn woutP woutR
      simp only [List.map_append, List.map_take, List.map_drop]
    rw [he]
    have hsub : (woutR r.opn i).Sublist r.opn := by
      have h2 : (List.take i r.opn ++ List.drop (i + 1) r.opn).Sublist (List.take i r.opn ++ List.drop i r.opn) := (List.Sublist.refl _).append (by rw [← List.drop_drop]; exact List.drop_sublist _ _)
      rwa [List.take_append_drop] at h2
    exact ⟨rfl, Rs.Ok.sim ⟨hk.set_, hk.f0, hk.f1, hk.c0, hk.srt.sublist hsub, fun x hx => hk.all_ x (hsub.subset hx)⟩ hd⟩
theorem isIn_eq (a f n : Int) : isIn a f n = decide ((a - f) % 65536 < n) := by
  unfold isIn
  rw [IntKind.wrap_u16, wi _ (by omega) (by omega)]
theorem nof_num (r : Rs) (q : Int) (hq0 : 0 ≤ q) (hq1 : q < 65536) : num r.first (r.nof q) = q := by
  unfold Rs.nof num; omega
theorem nof_le (r : Rs) (q : Int) : r.front ≤ r.nof q ∧ r.nof q < r.front + 65536 := by
  unfold Rs.nof; omega
theorem ackTo_sim {s : Sn} {r : Rs} (h : Sim s r) (q : Int) (hq0 : 0 ≤ q) (hq1 : q < 65536) : (s.ackTo q).2 = (r.ackTo q).2 ∧ Sim (s.ackTo q).1 (r.ackTo q).1 := by
  cases hd : r.dead with
  | true =>
    have hsd : s.dead = true := h.dead_.trans hd
    unfold Sn.ackTo Rs.ackTo
    rw [if_pos hd, if_pos hsd]
    exact ⟨rfl, h⟩
  | false =>
    obtain ⟨rfl, hk⟩ := h.eq_ hd
    have hs := hk.set_
    have hb := Rs.front_b hk
    unfold Sn.ackTo Rs.ackTo
    rw [if_neg (show ¬(r.sn.dead = true) by show ¬(r.dead = true); rw [hd]; decide), if_neg (show ¬(r.dead = true) by rw [hd]; decide)]
    have hnn := nof_num r q hq0 hq1
    have hnl := nof_le r q
    have hin : isIn q r.sn.front (IntKind.i64.wrap (dist r.sn.front r.sn.next + 1)) = decide (r.nof q ≤ r.count) := by
      rw [sn_front]
      show isIn q (num r.first r.front) (IntKind.i64.wrap (dist (num r.first r.front) (num r.first r.count) + 1)) = _
      rw [dist_num (by have := hs.1; omega) (by omega), wi _ (by have := hs.1; omega) (by have := hs.1; omega), isIn_eq]
      refine decide_eq_decide.2 ?_
      unfold Rs.nof
      omega
    rw [hin]
    by_cases h1 : r.nof q > r.count
    · rw [if_pos h1, if_pos (decide_eq_false (by omega))]; exact ⟨rfl, h⟩
    rw [if_neg h1, if_neg (by rw [decide_eq_true (show r.nof q ≤ r.count by omega)]; decide)]
    have hke : keepP (fun x => decide (dist x.seq q > 0)) r.sn.opn = (leftR (r.nof q) r.opn).map (Pn.pc r.first) := by
      show List.filter _ (List.map (Pn.pc r.first) r.opn) = _
      rw [List.filter_map, leftR]
      congr 1
      refine List.filter_congr fun x hx => ?_
      have h3 := hk.all_ x hx
      have h4 := hb.2.2.2 x hx
      show (!decide (dist (num r.first x.n) q > 0)) = decide (x.n ≥ r.nof q)
      have hw := hs.1
      have h5 : dist (num r.first x.n) q = r.nof q - x.n := by
        have h6 := dist_num (f := r.first) (a := x.n) (b := r.nof q) (by omega) (by omega)
        rwa [hnn] at h6
      rw [h5]
      by_cases h7 : x.n ≥ r.nof q
      · rw [decide_eq_true h7, decide_eq_false (by omega)]; rfl
      · rw [decide_eq_false h7, decide_eq_true (by omega)]; rfl
    rw [hke]
    refine ⟨by rw [show r.sn.opn = r.opn.map (Pn.pc r.first) from rfl]; simp only [List.length_map], ?_⟩
    have hsub : (leftR (r.nof q) r.opn).Sublist r.opn := List.filter_sublist
    exact Rs.Ok.sim (r := ⟨r.win, r.pau, r.tim, r.first, r.count, leftR (r.nof q) r.opn, r.dead⟩) ⟨hk.set_, hk.f0, hk.f1, hk.c0, hk.srt.sublist hsub, fun x hx => hk.all_ x (hsub.subset hx)⟩ hd
def Rs.new (w p t f : Int) : Rs := ⟨w, p, t, f, 0, [], false⟩
theorem new_ok {w p t f : Int} (h : okSet w p t) (h0 : 0 ≤ f) (h1 : f < 65536) : (Rs.new w p t f).Ok :=
  ⟨h, h0, h1, Int.le_refl _, List.Pairwise.nil, by simp [Rs.new]⟩
theorem new_sn {w p t f : Int} (h0 : 0 ≤ f) (h1 : f < 65536) : (Rs.new w p t f).sn = ⟨w, p, t, f, [], false⟩ := by
  unfold Rs.new Rs.sn
  simp only [List.map_nil]
  congr 1
  unfold num; omega
end Go.Proofs.Ytadbipeachcekaa.Ab
