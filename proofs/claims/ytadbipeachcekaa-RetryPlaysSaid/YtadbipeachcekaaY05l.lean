/- Chapter 05: the document's sender: new, put, numbers. -/
import Derived.Test.YtadbipeachcekaaY05k
namespace Go.Proofs.Ytadbipeachcekaa.Ab
open Go
set_option linter.unusedVariables false
set_option linter.unusedSimpArgs false
variable {T : AT}
def cPn (x : Pn) : List PV := [.i .i64 x.n, .s x.data, .i .i64 x.sent, .i .i64 x.since]
def Rs.v (r : Rs) : SV := .agg [.i .i64 r.win, .i .i64 r.pau, .i .i64 r.tim, .i .u16 r.first, .i .i64 r.count, .fz 4 (r.opn.map cPn), .b r.dead]
structure TabR05 (T : AT) : Prop extends TabA T where
  rnew : T i_stillageref05_New = some (.fn c_stillageref05_New)
  rput : T i_stillageref05_Put = some (.fn c_stillageref05_Put)
  rtick : T i_stillageref05_Tick = some (.fn c_stillageref05_Tick)
  rack : T i_stillageref05_Ack = some (.fn c_stillageref05_Ack)
  rackTo : T i_stillageref05_AckTo = some (.fn c_stillageref05_AckTo)
  rnumbers : T i_stillageref05_Numbers = some (.fn c_stillageref05_Numbers)
  rseq : T i_stillageref05_Seq = some (.fn c_stillageref05_Seq)
  lsame : T i_stillagelaw05_same = some (.fn c_stillagelaw05_same)
structure Rs.Bd (r : Rs) : Prop where
  f0 : 0 ≤ r.first
  f1 : r.first < 65536
  c0 : 0 ≤ r.count
  c1 : r.count ≤ 1000000
  len : r.opn.length ≤ 64
  fr : r.count - r.front ≤ 64
  all_ : ∀ x ∈ r.opn, 0 ≤ x.n ∧ x.n < r.count
  hi : ∀ x ∈ r.opn, (0 ≤ x.sent ∧ x.sent ≤ 100) ∧ (0 ≤ x.since ∧ x.since < 1000000)
theorem Rs.Ok.bd {r : Rs} (h : r.Ok) (hc : r.count ≤ 1000000) : r.Bd :=
  ⟨h.f0, h.f1, h.c0, hc, h.len, by have := (Rs.front_b h).2.1; have := h.set_.1; omega, fun x hx => ⟨(h.all_ x hx).1, (h.all_ x hx).2.1⟩, fun x hx => by
    have := h.all_ x hx
    have := h.set_.2.1
    have := h.set_.2.2
    omega⟩
theorem rseq_spec (c : TabR05 T) (r : Rs) (f0 : 0 ≤ r.first) (f1 : r.first < 65536) (n : Int) (h0 : 0 ≤ n) (h1 : n ≤ 10000000) : Ret2 T 0 i_stillageref05_Seq [r.v, .i .i64 n] [] (fun v h' => v = .i .u16 (num r.first n) ∧ h' = []) := by
  refine Ret2_fnv c.rseq rfl rfl ?_
  have w1 : IntKind.i64.wrap r.first = r.first := wi _ (by omega) (by omega)
  have w2 : IntKind.i64.wrap (r.first + n) = r.first + n := wi _ (by omega) (by omega)
  have w3 : (r.first + n).tmod 65536 = num r.first n := Int.tmod_eq_emod_of_nonneg (by omega)
  have w4 : IntKind.u16.wrap (num r.first n) = num r.first n := by
    have := num_b r.first n
    rw [IntKind.wrap_u16]; omega
  unfold Rs.v
  (repeat' with_reducible first |apply qA|apply qB|apply qC|apply qD|apply qE|apply qF|(apply qG;decide)|apply qH|apply qI|apply qJ|apply qK|((first|apply qL|apply qM|apply qN|apply qO|((first|apply qP|apply qQ);decide +kernel));(conv=>lhs;simp only[go_sem, ibin, ishift, w1, w2, w3, w4])<;>rfl)|((first|apply qR|apply qS);(conv=>lhs;simp only[go_sem])<;>rfl;rfl)|((first|apply qT|apply qU);(conv=>lhs;simp only[go_sem])<;>rfl;rfl)|apply qV|apply qW|apply qX|apply qY|apply qZ)
  refine ⟨by first | exact .inr rfl | exact .inl rfl, _, _, (by (conv => lhs; simp only [go_sem, ibin, ishift]) <;> with_reducible rfl), (by (conv => lhs; simp only [go_sem, ibin, ishift]) <;> with_reducible rfl), ?_⟩
  refine ⟨[], by decide, rfl, ?_⟩
  exact ⟨rfl, rfl⟩
theorem rnew_spec (c : TabR05 T) (w p t f : Int) : Ret2 T 0 i_stillageref05_New [.i .i64 w, .i .i64 p, .i .i64 t, .i .u16 f] [] (fun v h' => (¬okSet w p t → ∃ z, v = .tup [z, .i .i64 1] ∧ h' = [] ∧ z = .agg [.i .i64 0, .i .i64 0, .i .i64 0, .i .u16 0, .i .i64 0, .nils, .b false]) ∧ (okSet w p t → v = .tup [(Rs.new w p t f).v, .i .i64 0] ∧ h' = [])) := by
  refine Ret2_fnv c.rnew rfl rfl ?_
  (repeat' with_reducible first |apply qA|apply qB|apply qC|apply qD|apply qE|apply qF|(apply qG;decide)|apply qH|apply qI|apply qJ|apply qK|((first|apply qL|apply qM|apply qN|apply qO|((first|apply qP|apply qQ);decide +kernel));(conv=>lhs;simp only[go_sem, ibin, ishift])<;>rfl)|((first|apply qR|apply qS);(conv=>lhs;simp only[go_sem])<;>rfl;rfl)|((first|apply qT|apply qU);(conv=>lhs;simp only[go_sem])<;>rfl;rfl)|apply qV|apply qW|apply qX|apply qY|apply qZ)
  (((first | with_reducible apply W2_sc | with_reducible apply W2_cond); ((conv => lhs; simp only [go_sem]) <;> with_reducible rfl)) <;> intro hx <;> (try rw [hx]) <;> simp only [Bool.or_eq_true, Bool.and_eq_true, decide_eq_true_eq, Bool.or_eq_false_iff, Bool.and_eq_false_iff, decide_eq_false_iff_not, Bool.not_eq_true', Bool.not_eq_false', bne_iff_ne, beq_iff_eq, not_or, not_and, Decidable.not_not, ne_eq, gt_iff_lt, ge_iff_le, Int.not_lt, Int.not_le] at hx)
  · have hn : ¬okSet w p t := by unfold okSet; omega
    (repeat' with_reducible first |apply qA|apply qB|apply qC|apply qD|apply qE|apply qF|(apply qG;decide)|apply qH|apply qI|apply qJ|apply qK|((first|apply qL|apply qM|apply qN|apply qO|((first|apply qP|apply qQ);decide +kernel));(conv=>lhs;simp only[go_sem, ibin, ishift])<;>rfl)|((first|apply qR|apply qS);(conv=>lhs;simp only[go_sem])<;>rfl;rfl)|((first|apply qT|apply qU);(conv=>lhs;simp only[go_sem])<;>rfl;rfl)|apply qV|apply qW|apply qX|apply qY|apply qZ)
    refine ⟨by first | exact .inr rfl | exact .inl rfl, _, _, (by (conv => lhs; simp only [go_sem, ibin, ishift]) <;> with_reducible rfl), (by (conv => lhs; simp only [go_sem, ibin, ishift]) <;> with_reducible rfl), ?_⟩
    refine ⟨[], by decide, rfl, ?_⟩
    exact ⟨fun _ => ⟨_, rfl, rfl, rfl⟩, fun h => (hn h).elim⟩
  · have hn : okSet w p t := by unfold okSet; omega
    ((repeat' with_reducible first |apply qA|apply qB|apply qC|apply qD|apply qE|apply qF|(apply qG;decide)|apply qH|apply qI|apply qJ|apply qK|apply qX|((first|apply qR|apply qS);(conv=>lhs;simp only[go_sem])<;>rfl;rfl)|((first|apply qT|apply qU);(conv=>lhs;simp only[go_sem])<;>rfl;rfl)|apply qZ|apply qY|apply qW);with_reducible((first|apply qL|apply qM|apply qN|apply qO|((first|apply qP|apply qQ);decide +kernel));(conv=>lhs;simp only[go_sem, ibin, ishift])<;>rfl))
    refine W2.weak (Wk.nilcf 0 5 4 rfl rfl) ?_
    (repeat' with_reducible first |apply qA|apply qB|apply qC|apply qD|apply qE|apply qF|(apply qG;decide)|apply qH|apply qI|apply qJ|apply qK|((first|apply qL|apply qM|apply qN|apply qO|((first|apply qP|apply qQ);decide +kernel));(conv=>lhs;simp only[go_sem, ibin, ishift])<;>rfl)|((first|apply qR|apply qS);(conv=>lhs;simp only[go_sem])<;>rfl;rfl)|((first|apply qT|apply qU);(conv=>lhs;simp only[go_sem])<;>rfl;rfl)|apply qV|apply qW|apply qX|apply qY|apply qZ)
    refine ⟨by first | exact .inr rfl | exact .inl rfl, _, _, (by (conv => lhs; simp only [go_sem, ibin, ishift]) <;> with_reducible rfl), (by (conv => lhs; simp only [go_sem, ibin, ishift]) <;> with_reducible rfl), ?_⟩
    refine ⟨[], by decide, rfl, ?_⟩
    exact ⟨fun h => (h hn).elim, fun _ => ⟨rfl, rfl⟩⟩
theorem rput_spec (c : TabR05 T) (r : Rs) (hb : r.dead = false → r.Bd) (d : List UInt8) : Ret2 T 0 i_stillageref05_Put [r.v, .s d] [] (fun v h' => v = .tup [(r.put d).1.v, .i .u16 (r.put d).2.1, .i .i64 (r.put d).2.2] ∧ h' = []) := by
  refine Ret2_fnv c.rput rfl rfl ?_
  unfold Rs.put
  cases hd : r.dead with
  | true =>
    rw [if_pos rfl]
    unfold Rs.v
    rw [hd]
    (repeat' with_reducible first |apply qA|apply qB|apply qC|apply qD|apply qE|apply qF|(apply qG;decide)|apply qH|apply qI|apply qJ|apply qK|((first|apply qL|apply qM|apply qN|apply qO|((first|apply qP|apply qQ);decide +kernel));(conv=>lhs;simp only[go_sem, ibin, ishift])<;>rfl)|((first|apply qR|apply qS);(conv=>lhs;simp only[go_sem])<;>rfl;rfl)|((first|apply qT|apply qU);(conv=>lhs;simp only[go_sem])<;>rfl;rfl)|apply qV|apply qW|apply qX|apply qY|apply qZ)
    refine ⟨by first | exact .inr rfl | exact .inl rfl, _, _, (by (conv => lhs; simp only [go_sem, ibin, ishift]) <;> with_reducible rfl), (by (conv => lhs; simp only [go_sem, ibin, ishift]) <;> with_reducible rfl), ?_⟩
    refine ⟨[], by decide, rfl, ?_⟩
    exact ⟨rfl, rfl⟩
  | false =>
  have hb := hb hd
  rw [if_neg (by decide)]
  have hv : r.v = .agg [.i .i64 r.win, .i .i64 r.pau, .i .i64 r.tim, .i .u16 r.first, .i .i64 r.count, .fz 4 (r.opn.map cPn), .b false] := by rw [Rs.v, hd]
  by_cases h1 : d.length > 256
  · have z1 : decide ((d.length : Int) > 256) = true := decide_eq_true (by omega)
    rw [if_pos h1]
    simp only
    rw [hv]
    (repeat' with_reducible first |apply qA|apply qB|apply qC|apply qD|apply qE|apply qF|(apply qG;decide)|apply qH|apply qI|apply qJ|apply qK|((first|apply qL|apply qM|apply qN|apply qO|((first|apply qP|apply qQ);decide +kernel));(conv=>lhs;simp only[go_sem, ibin, ishift, z1])<;>rfl)|((first|apply qR|apply qS);(conv=>lhs;simp only[go_sem])<;>rfl;rfl)|((first|apply qT|apply qU);(conv=>lhs;simp only[go_sem])<;>rfl;rfl)|apply qV|apply qW|apply qX|apply qY|apply qZ)
    refine ⟨by first | exact .inr rfl | exact .inl rfl, _, _, (by (conv => lhs; simp only [go_sem, ibin, ishift]) <;> with_reducible rfl), (by (conv => lhs; simp only [go_sem, ibin, ishift]) <;> with_reducible rfl), ?_⟩
    refine ⟨[], by decide, rfl, ?_⟩
    exact ⟨rfl, rfl⟩
  have z1 : decide ((d.length : Int) > 256) = false := decide_eq_false (by omega)
  rw [if_neg h1]
  have hlen := hb.len
  have hfull : (r.opn.length = 0 ∧ r.full = false) ∨ ∃ x, 0 < r.opn.length ∧ r.opn[0]? = some x ∧ r.full = decide (r.count - x.n + 1 > r.win) ∧ 0 ≤ x.n ∧ x.n < r.count := by
    have ha := hb.all_
    unfold Rs.full
    cases ho : r.opn with
    | nil => exact .inl ⟨rfl, rfl⟩
    | cons x l =>
      rw [ho] at ha
      exact .inr ⟨x, by simp, rfl, rfl, ha x (by simp)⟩
  have hc1 := hb.c1
  have hc0 := hb.c0
  have hroom : (0 + r.opn.length) * 40 ≤ room := by simp only [room]; omega
  have hroom2 : r.opn.length * 40 ≤ room := by simp only [room]; omega
  have hroom3 : (r.opn.length + 1) * 40 ≤ room := by simp only [room]; omega
  have htk : r.opn.take r.opn.length = r.opn := List.take_length
  have wc1 : IntKind.i64.wrap (r.count + 1) = r.count + 1 := wi _ (by omega) (by omega)
  have wc2 : IntKind.i64.wrap (r.count + 1 - 1) = r.count := by rw [wi _ (by omega) (by omega)]; omega
  have hne : (⟨r.win, r.pau, r.tim, r.first, r.count + 1, r.opn ++ [⟨r.count, d, 0, 0⟩], false⟩ : Rs).v = .agg [.i .i64 r.win, .i .i64 r.pau, .i .i64 r.tim, .i .u16 r.first, .i .i64 (r.count + 1), .fz 4 ((r.opn ++ [Pn.mk r.count d 0 0]).map cPn), .b false] := rfl
  have hsq := rseq_spec c ⟨r.win, r.pau, r.tim, r.first, r.count + 1, r.opn ++ [⟨r.count, d, 0, 0⟩], false⟩ hb.f0 hb.f1 r.count hc0 (by omega)
  rw [hne] at hsq
  rcases hfull with ⟨hl0, hf⟩ | ⟨x, hl0, hg, hf, hx0, hx1⟩
  case' inl =>
    have z2 : decide (r.opn.length > 0) = false := decide_eq_false (by omega)
    have z2i : decide ((r.opn.length : Int) > 0) = false := decide_eq_false (by omega)
    have i1 : ¬((0 : Int) < (r.opn.length : Int)) := by omega
    have hg0 : r.opn[0]? = none := List.getElem?_eq_none (by omega)
    rw [hf, if_neg (by decide)]
    rw [hv]
    simp only
    rw [hne]
    (repeat' with_reducible first |apply qA|apply qB|apply qC|apply qD|apply qE|apply qF|(apply qG;decide)|apply qH|apply qI|apply qJ|apply qK|((first|apply qL|apply qM|apply qN|apply qO|((first|apply qP|apply qQ);decide +kernel));(conv=>lhs;simp only[go_sem, ibin, ishift, z1, z2, z2i, i1, hg0])<;>rfl)|((first|apply qR|apply qS);(conv=>lhs;simp only[go_sem])<;>rfl;rfl)|((first|apply qT|apply qU);(conv=>lhs;simp only[go_sem])<;>rfl;rfl)|apply qV|apply qW|apply qX|apply qY|apply qZ)
  case' inr =>
    have z2 : decide (r.opn.length > 0) = true := decide_eq_true hl0
    have z2i : decide ((r.opn.length : Int) > 0) = true := decide_eq_true (by omega)
    have i1 : (0 : Int) < (r.opn.length : Int) := by omega
    have wx1 : IntKind.i64.wrap (r.count - x.n) = r.count - x.n := wi _ (by omega) (by omega)
    have wx2 : IntKind.i64.wrap (r.count - x.n + 1) = r.count - x.n + 1 := wi _ (by omega) (by omega)
    by_cases hff : r.full = true
    · rw [if_pos hff]
      rw [hff] at hf
      rw [hv]
      simp only
      (repeat' with_reducible first |apply qA|apply qB|apply qC|apply qD|apply qE|apply qF|(apply qG;decide)|apply qH|apply qI|apply qJ|apply qK|((first|apply qL|apply qM|apply qN|apply qO|((first|apply qP|apply qQ);decide +kernel));(conv=>lhs;simp only[go_sem, ibin, ishift, z1, z2, z2i, i1, hg, hl0, cPn, wx1, wx2, ← hf])<;>rfl)|((first|apply qR|apply qS);(conv=>lhs;simp only[go_sem])<;>rfl;rfl)|((first|apply qT|apply qU);(conv=>lhs;simp only[go_sem])<;>rfl;rfl)|apply qV|apply qW|apply qX|apply qY|apply qZ)
      refine ⟨by first | exact .inr rfl | exact .inl rfl, _, _, (by (conv => lhs; simp only [go_sem, ibin, ishift]) <;> with_reducible rfl), (by (conv => lhs; simp only [go_sem, ibin, ishift]) <;> with_reducible rfl), ?_⟩
      refine ⟨[], by decide, rfl, ?_⟩
      exact ⟨rfl, rfl⟩
    rw [if_neg hff]
    simp only [Bool.not_eq_true] at hff
    rw [hff] at hf
    rw [hv]
    simp only
    rw [hne]
    (repeat' with_reducible first |apply qA|apply qB|apply qC|apply qD|apply qE|apply qF|(apply qG;decide)|apply qH|apply qI|apply qJ|apply qK|((first|apply qL|apply qM|apply qN|apply qO|((first|apply qP|apply qQ);decide +kernel));(conv=>lhs;simp only[go_sem, ibin, ishift, z1, z2, z2i, i1, hg, hl0, cPn, wx1, wx2, ← hf])<;>rfl)|((first|apply qR|apply qS);(conv=>lhs;simp only[go_sem])<;>rfl;rfl)|((first|apply qT|apply qU);(conv=>lhs;simp only[go_sem])<;>rfl;rfl)|apply qV|apply qW|apply qX|apply qY|apply qZ)
  all_goals
    (repeat' with_reducible first |apply qA|apply qB|apply qC|apply qD|apply qE|apply qF|(apply qG;decide)|apply qH|apply qI|apply qJ|apply qK|apply qX|((first|apply qR|apply qS);(conv=>lhs;simp only[go_sem])<;>rfl;rfl)|((first|apply qT|apply qU);(conv=>lhs;simp only[go_sem])<;>rfl;rfl)|apply qZ|apply qY|apply qW)
    (with_reducible first | apply W2_sregH [0] [false, false, true, false, false, true, false] | apply W2_regH [0] [false, false, true, false, false, true, false])
    · decide
    · decide
    · rfl
    ((conv => lhs; simp only [go_sem, ibin, ishift, hroom, hroom2, hroom3, htk, Nat.le_refl]) <;> with_reducible rfl)
    refine EH_go ?_
    have hap : List.map cPn r.opn ++ [[PV.i IntKind.i64 r.count, PV.s d, PV.i IntKind.i64 0, PV.i IntKind.i64 0]] = List.map cPn (r.opn ++ [Pn.mk r.count d 0 0]) := by rw [List.map_append]; rfl
    have hsl : (r.opn ++ [Pn.mk r.count d 0 0]).length = r.opn.length + 1 := by simp
    have hst : (r.opn ++ [Pn.mk r.count d 0 0]).take (r.opn.length + 1) = r.opn ++ [Pn.mk r.count d 0 0] := List.take_of_length_le (by simp)
    rw [hap]
    (repeat' with_reducible first |apply qA|apply qB|apply qC|apply qD|apply qE|apply qF|(apply qG;decide)|apply qH|apply qI|apply qJ|apply qK|apply qX|((first|apply qR|apply qS);(conv=>lhs;simp only[go_sem])<;>rfl;rfl)|((first|apply qT|apply qU);(conv=>lhs;simp only[go_sem])<;>rfl;rfl)|apply qZ|apply qY|apply qW)
    refine W2.wfrz 5 rfl (by (conv => lhs; simp only [go_sem, ibin, ishift, hsl, hst, Nat.le_refl]) <;> with_reducible rfl) (by (conv => lhs; simp only [go_sem, ibin, ishift, hsl, hst, Nat.le_refl]) <;> with_reducible rfl) ?_
    (repeat' with_reducible first |apply qA|apply qB|apply qC|apply qD|apply qE|apply qF|(apply qG;decide)|apply qH|apply qI|apply qJ|apply qK|((first|apply qL|apply qM|apply qN|apply qO|((first|apply qP|apply qQ);decide +kernel));(conv=>lhs;simp only[go_sem, ibin, ishift, wc1])<;>rfl)|((first|apply qR|apply qS);(conv=>lhs;simp only[go_sem])<;>rfl;rfl)|((first|apply qT|apply qU);(conv=>lhs;simp only[go_sem])<;>rfl;rfl)|apply qV|apply qW|apply qX|apply qY|apply qZ)
    (repeat' with_reducible first |apply qA|apply qB|apply qC|apply qD|apply qE|apply qF|(apply qG;decide)|apply qH|apply qI|apply qJ|apply qK|apply qX|((first|apply qR|apply qS);(conv=>lhs;simp only[go_sem])<;>rfl;rfl)|((first|apply qT|apply qU);(conv=>lhs;simp only[go_sem])<;>rfl;rfl)|apply qZ|apply qY|apply qW)
    (with_reducible first | apply W2_sregH [0] [true, false, false, false, false, false, false] | apply W2_regH [0] [true, false, false, false, false, false, false])
    · decide
    · decide
    · rfl
    ((conv => lhs; simp only [go_sem, ibin, ishift, wc2]) <;> with_reducible rfl)
    refine EH_pure hsq rfl ?_
    rintro v h' ⟨rfl, rfl⟩
    (with_reducible apply WOH_go (by decide); ((conv => lhs; simp only [go_sem, ibin, ishift]) <;> with_reducible rfl))
    refine EH_go ?_
    (repeat' with_reducible first |apply qA|apply qB|apply qC|apply qD|apply qE|apply qF|(apply qG;decide)|apply qH|apply qI|apply qJ|apply qK|((first|apply qL|apply qM|apply qN|apply qO|((first|apply qP|apply qQ);decide +kernel));(conv=>lhs;simp only[go_sem, ibin, ishift])<;>rfl)|((first|apply qR|apply qS);(conv=>lhs;simp only[go_sem])<;>rfl;rfl)|((first|apply qT|apply qU);(conv=>lhs;simp only[go_sem])<;>rfl;rfl)|apply qV|apply qW|apply qX|apply qY|apply qZ)
    refine ⟨by first | exact .inr rfl | exact .inl rfl, _, _, (by (conv => lhs; simp only [go_sem, ibin, ishift]) <;> with_reducible rfl), (by (conv => lhs; simp only [go_sem, ibin, ishift]) <;> with_reducible rfl), ?_⟩
    refine ⟨[], by decide, rfl, ?_⟩
    exact ⟨rfl, rfl⟩
end Go.Proofs.Ytadbipeachcekaa.Ab
