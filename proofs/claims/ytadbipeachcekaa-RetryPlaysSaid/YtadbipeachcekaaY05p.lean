/- Chapter 05: RetryPlays. -/
import Derived.Test.YtadbipeachcekaaY05o
namespace Go.Proofs.Ytadbipeachcekaa.Ab
open Go
set_option linter.unusedVariables false
set_option linter.unusedSimpArgs false
variable {T : AT}
structure Op5 where
  kind : Int
  seq : Int
  data : List UInt8
def cO5 (o : Op5) : List PV := [.i .i64 o.kind, .i .u16 o.seq, .fz 1 (o.data.map c8)]
theorem nums_sn (r : Rs) : r.sn.opn.map Pc.seq = r.nums := by
  show (r.opn.map _).map _ = _
  rw [List.map_map]; rfl
theorem Sim.len100 {s : Sn} {r : Rs} (h : Sim s r) : s.opn.length ≤ 100000 := by have := h.len_; omega
theorem Sim.dat100 {s : Sn} {r : Rs} (h : Sim s r) : ∀ p ∈ s.opn, p.data.length ≤ 1000000 := fun p hp => by have := h.dat_ p hp; omega
theorem put_count (r : Rs) (d : List UInt8) : (r.put d).1.count ≤ r.count + 1 := by
  unfold Rs.put
  split
  · simp only; omega
  split
  · simp only; omega
  split <;> simp only <;> omega
theorem tick_count (r : Rs) : r.tick.1.count = r.count ∧ r.tick.1.first = r.first := by
  unfold Rs.tick
  split
  · exact ⟨rfl, rfl⟩
  split <;> exact ⟨rfl, rfl⟩
theorem ack_count (r : Rs) (q : Int) : (r.ack q).1.count = r.count := by
  unfold Rs.ack
  split
  · rfl
  split <;> rfl
theorem ackTo_count (r : Rs) (q : Int) : (r.ackTo q).1.count = r.count := by
  unfold Rs.ackTo
  split
  · rfl
  split <;> rfl
theorem tick_out (r : Rs) : (r.tick.2.2 = 0 ∨ r.tick.2.2 ≠ 0 ∧ r.tick.2.2 = 190 ∧ r.tick.2.1 = []) ∧ (∀ x ∈ r.tick.2.1, ∃ y ∈ r.opn, x.n = y.n) ∧ (r.tick.2.1 ≠ [] → r.dead = false ∧ r.tick.1.dead = false) ∧ r.tick.2.1.length ≤ r.opn.length := by
  unfold Rs.tick
  split
  · exact ⟨.inr ⟨(show ¬((190 : Int) = 0) by decide), rfl, rfl⟩, by simp, fun h => (h rfl).elim, Nat.zero_le _⟩
  · rename_i hd
    split
    · exact ⟨.inr ⟨(show ¬((190 : Int) = 0) by decide), rfl, rfl⟩, by simp, fun h => (h rfl).elim, Nat.zero_le _⟩
    · refine ⟨.inl rfl, fun x hx => ?_, fun _ => ⟨by simpa using hd, rfl⟩, by simp only [List.length_map]; exact List.length_filter_le _ _⟩
      obtain ⟨y, hy, rfl⟩ := List.mem_map.1 hx
      exact ⟨y, (List.mem_filter.1 hy).1, (step_n _ _).1⟩
set_option maxHeartbeats 1000000 in
theorem retryPlays_law (c : TabR05 T) (hT : T i_stillagelaw05_RetryPlays = some (.fn c_stillagelaw05_RetryPlays)) (w p t f : Int) (hf0 : 0 ≤ f) (hf1 : f < 65536) (os : List Op5) (hos : ∀ o ∈ os, (0 ≤ o.seq ∧ o.seq < 65536) ∧ o.data.length ≤ room) : Ret2 T 0 i_stillagelaw05_RetryPlays [.agg [.i .i64 w, .i .i64 p, .i .i64 t, .i .u16 f], .fz 3 (os.map cO5)] [] (fun v h' => v = .b true) := by
  refine Ret2_fnv hT rfl rfl ?_
  (repeat' with_reducible first |apply qA|apply qB|apply qC|apply qD|apply qE|apply qF|(apply qG;decide)|apply qH|apply qI|apply qJ|apply qK|((first|apply qL|apply qM|apply qN|apply qO|((first|apply qP|apply qQ);decide +kernel));(conv=>lhs;simp only[go_sem, ibin, ishift])<;>rfl)|((first|apply qR|apply qS);(conv=>lhs;simp only[go_sem])<;>rfl;rfl)|((first|apply qT|apply qU);(conv=>lhs;simp only[go_sem])<;>rfl;rfl)|apply qV|apply qW|apply qX|apply qY|apply qZ)
  (with_reducible((first|apply pA|apply pB|apply pC|apply pD|apply pE|((first|apply pF|apply pG);decide +kernel));(conv=>lhs;simp only[go_sem, ibin, ishift])<;>rfl))
  refine CK_pure (always_spec c.awake) rfl ?_
  rintro v h' ⟨rfl, rfl⟩
  (with_reducible((first|apply WO2_finw|apply WO2_fina);(conv=>lhs;simp only[go_sem, ibin, ishift])<;>rfl))
  (repeat' with_reducible first |apply qA|apply qB|apply qC|apply qD|apply qE|apply qF|(apply qG;decide)|apply qH|apply qI|apply qJ|apply qK|((first|apply qL|apply qM|apply qN|apply qO|((first|apply qP|apply qQ);decide +kernel));(conv=>lhs;simp only[go_sem, ibin, ishift])<;>rfl)|((first|apply qR|apply qS);(conv=>lhs;simp only[go_sem])<;>rfl;rfl)|((first|apply qT|apply qU);(conv=>lhs;simp only[go_sem])<;>rfl;rfl)|apply qV|apply qW|apply qX|apply qY|apply qZ)
  (with_reducible((first|apply pA|apply pB|apply pC|apply pD|apply pE|((first|apply pF|apply pG);decide +kernel));(conv=>lhs;simp only[go_sem, ibin, ishift])<;>rfl))
  refine CK_pure (new_spec c.toTabS w p t f) rfl ?_
  rintro v h' ⟨hv0, hv⟩
  by_cases hks : okSet w p t
  rotate_left
  · obtain ⟨rfl, rfl⟩ := hv0 hks
    clear hv
    (with_reducible((first|apply WO2_finw|apply WO2_fina);(conv=>lhs;simp only[go_sem, ibin, ishift])<;>rfl))
    (repeat' with_reducible first |apply qA|apply qB|apply qC|apply qD|apply qE|apply qF|(apply qG;decide)|apply qH|apply qI|apply qJ|apply qK|((first|apply qL|apply qM|apply qN|apply qO|((first|apply qP|apply qQ);decide +kernel));(conv=>lhs;simp only[go_sem, ibin, ishift])<;>rfl)|((first|apply qR|apply qS);(conv=>lhs;simp only[go_sem])<;>rfl;rfl)|((first|apply qT|apply qU);(conv=>lhs;simp only[go_sem])<;>rfl;rfl)|apply qV|apply qW|apply qX|apply qY|apply qZ)
    (with_reducible((first|apply pA|apply pB|apply pC|apply pD|apply pE|((first|apply pF|apply pG);decide +kernel));(conv=>lhs;simp only[go_sem, ibin, ishift])<;>rfl))
    refine CK_pure (rnew_spec c w p t f) rfl ?_
    rintro v h' ⟨hv, -⟩
    obtain ⟨z, rfl, rfl, rfl⟩ := hv hks
    (with_reducible((first|apply WO2_finw|apply WO2_fina);(conv=>lhs;simp only[go_sem, ibin, ishift])<;>rfl))
    (repeat' with_reducible first |apply qA|apply qB|apply qC|apply qD|apply qE|apply qF|(apply qG;decide)|apply qH|apply qI|apply qJ|apply qK|((first|apply qL|apply qM|apply qN|apply qO|((first|apply qP|apply qQ);decide +kernel));(conv=>lhs;simp only[go_sem, ibin, ishift])<;>rfl)|((first|apply qR|apply qS);(conv=>lhs;simp only[go_sem])<;>rfl;rfl)|((first|apply qT|apply qU);(conv=>lhs;simp only[go_sem])<;>rfl;rfl)|apply qV|apply qW|apply qX|apply qY|apply qZ)
    refine W2_loopu (fun m u g => u = [] ∧ g = []) 0 ⟨rfl, rfl⟩ rfl rfl ?_
    rintro m u g ⟨rfl, rfl⟩
    intro e1 h1 he1 hh1; simp only [egd, supE, hgd, supH, Nat.reduceEqDiff, Nat.reduceAdd, if_true, if_false, reduceIte] at he1 hh1; subst he1; subst hh1
    (repeat' with_reducible first |apply qA|apply qB|apply qC|apply qD|apply qE|apply qF|(apply qG;decide)|apply qH|apply qI|apply qJ|apply qK|((first|apply qL|apply qM|apply qN|apply qO|((first|apply qP|apply qQ);decide +kernel));(conv=>lhs;simp only[go_sem, ibin, ishift])<;>rfl)|((first|apply qR|apply qS);(conv=>lhs;simp only[go_sem])<;>rfl;rfl)|((first|apply qT|apply qU);(conv=>lhs;simp only[go_sem])<;>rfl;rfl)|apply qV|apply qW|apply qX|apply qY|apply qZ)
    refine ⟨by first | exact .inr rfl | exact .inl rfl, _, _, (by (conv => lhs; simp only [go_sem, ibin, ishift]) <;> with_reducible rfl), (by (conv => lhs; simp only [go_sem, ibin, ishift]) <;> with_reducible rfl), ?_⟩
    refine ⟨[], by decide, rfl, ?_⟩
    rfl
  obtain ⟨rfl, rfl⟩ := hv hks
  clear hv hv0
  have hsn := new_sn (w := w) (p := p) (t := t) hf0 hf1
  have hS0 : Sim (Rs.new w p t f).sn (Rs.new w p t f) := (new_ok hks hf0 hf1).sim rfl
  have hC0 : (Rs.new w p t f).count ≤ ((0 : Nat) : Int) := Int.le_refl _
  rw [← hsn]
  unfold Sn.h Sn.o
  (with_reducible((first|apply WO2_finw|apply WO2_fina);(conv=>lhs;simp only[go_sem, ibin, ishift])<;>rfl))
  (repeat' with_reducible first |apply qA|apply qB|apply qC|apply qD|apply qE|apply qF|(apply qG;decide)|apply qH|apply qI|apply qJ|apply qK|((first|apply qL|apply qM|apply qN|apply qO|((first|apply qP|apply qQ);decide +kernel));(conv=>lhs;simp only[go_sem, ibin, ishift])<;>rfl)|((first|apply qR|apply qS);(conv=>lhs;simp only[go_sem])<;>rfl;rfl)|((first|apply qT|apply qU);(conv=>lhs;simp only[go_sem])<;>rfl;rfl)|apply qV|apply qW|apply qX|apply qY|apply qZ)
  (with_reducible((first|apply pA|apply pB|apply pC|apply pD|apply pE|((first|apply pF|apply pG);decide +kernel));(conv=>lhs;simp only[go_sem, ibin, ishift])<;>rfl))
  refine CK_pure (rnew_spec c w p t f) rfl ?_
  rintro v h' ⟨-, hv⟩
  obtain ⟨rfl, rfl⟩ := hv hks
  clear hv
  generalize Rs.new w p t f = r0 at hS0 hC0
  generalize r0.sn = s0 at hS0
  unfold Rs.v
  (with_reducible((first|apply WO2_finw|apply WO2_fina);(conv=>lhs;simp only[go_sem, ibin, ishift])<;>rfl))
  (repeat' with_reducible first |apply qA|apply qB|apply qC|apply qD|apply qE|apply qF|(apply qG;decide)|apply qH|apply qI|apply qJ|apply qK|((first|apply qL|apply qM|apply qN|apply qO|((first|apply qP|apply qQ);decide +kernel));(conv=>lhs;simp only[go_sem, ibin, ishift])<;>rfl)|((first|apply qR|apply qS);(conv=>lhs;simp only[go_sem])<;>rfl;rfl)|((first|apply qT|apply qU);(conv=>lhs;simp only[go_sem])<;>rfl;rfl)|apply qV|apply qW|apply qX|apply qY|apply qZ)
  refine W2_loopu (fun m u g => ∃ (i : Nat) (s : Sn) (r : Rs), i ≤ 200 ∧ i ≤ os.length ∧ m = 200 - i ∧ Sim s r ∧ r.count ≤ (i : Int) ∧ u = [(9, .i .i64 i)] ∧ g = [(1, .obj [.i .i64 s.win, .i .i64 s.pau, .i .i64 s.tim, .i .u16 s.next, .sl 4 2 0 s.opn.length none, .b s.dead]), (2, .arr 4 (s.opn.map cPc)), (3, .obj [.i .i64 r.win, .i .i64 r.pau, .i .i64 r.tim, .i .u16 r.first, .i .i64 r.count, .fz 4 (r.opn.map cPn), .b r.dead])]) 200 ⟨0, s0, r0, by omega, by omega, by omega, hS0, hC0, rfl, rfl⟩ rfl rfl ?_
  clear hS0 hC0 hsn
  rintro m u g ⟨i, s, r, hi, hil, hm, hS, hC, rfl, rfl⟩
  intro e1 h1 he1 hh1; simp only [egd, supE, hgd, supH, Nat.reduceEqDiff, Nat.reduceAdd, if_true, if_false, reduceIte] at he1 hh1; subst he1; subst hh1
  by_cases hc : i < os.length ∧ i < 200
  rotate_left
  · by_cases h1 : i < os.length
    · have z1 : decide (i < os.length) = true := decide_eq_true h1
      have z1i : decide ((i : Int) < (os.length : Int)) = true := decide_eq_true (by omega)
      have z2 : decide (i < 200) = false := decide_eq_false (by omega)
      have z2i : decide ((i : Int) < 200) = false := decide_eq_false (by omega)
      (repeat' with_reducible first |apply qA|apply qB|apply qC|apply qD|apply qE|apply qF|(apply qG;decide)|apply qH|apply qI|apply qJ|apply qK|((first|apply qL|apply qM|apply qN|apply qO|((first|apply qP|apply qQ);decide +kernel));(conv=>lhs;simp only[go_sem, ibin, ishift, z1, z1i, z2, z2i])<;>rfl)|((first|apply qR|apply qS);(conv=>lhs;simp only[go_sem])<;>rfl;rfl)|((first|apply qT|apply qU);(conv=>lhs;simp only[go_sem])<;>rfl;rfl)|apply qV|apply qW|apply qX|apply qY|apply qZ)
      refine ⟨by first | exact .inr rfl | exact .inl rfl, _, _, (by (conv => lhs; simp only [go_sem, ibin, ishift]) <;> with_reducible rfl), (by (conv => lhs; simp only [go_sem, ibin, ishift]) <;> with_reducible rfl), ?_⟩
      refine ⟨[], by decide, rfl, ?_⟩
      rfl
    · have z1 : decide (i < os.length) = false := decide_eq_false h1
      have z1i : decide ((i : Int) < (os.length : Int)) = false := decide_eq_false (by omega)
      (repeat' with_reducible first |apply qA|apply qB|apply qC|apply qD|apply qE|apply qF|(apply qG;decide)|apply qH|apply qI|apply qJ|apply qK|((first|apply qL|apply qM|apply qN|apply qO|((first|apply qP|apply qQ);decide +kernel));(conv=>lhs;simp only[go_sem, ibin, ishift, z1, z1i])<;>rfl)|((first|apply qR|apply qS);(conv=>lhs;simp only[go_sem])<;>rfl;rfl)|((first|apply qT|apply qU);(conv=>lhs;simp only[go_sem])<;>rfl;rfl)|apply qV|apply qW|apply qX|apply qY|apply qZ)
      refine ⟨by first | exact .inr rfl | exact .inl rfl, _, _, (by (conv => lhs; simp only [go_sem, ibin, ishift]) <;> with_reducible rfl), (by (conv => lhs; simp only [go_sem, ibin, ishift]) <;> with_reducible rfl), ?_⟩
      refine ⟨[], by decide, rfl, ?_⟩
      rfl
  have hjt := hc.1
  have z1 : decide (i < os.length) = true := decide_eq_true hc.1
  have z1i : decide ((i : Int) < (os.length : Int)) = true := decide_eq_true (by omega)
  have z2 : decide (i < 200) = true := decide_eq_true hc.2
  have z2i : decide ((i : Int) < 200) = true := decide_eq_true (by omega)
  have h0 : (0 : Int) ≤ (i : Int) := by omega
  have h1 : (i : Int) < (os.length : Int) := by omega
  have wj := wS (show i < 9223372036854775807 by omega)
  have hjl : i < os.length := by omega
  have hg := List.getElem?_eq_getElem hjl
  have htk : os.take (i + 1) = os.take i ++ [os[i]] := by rw [List.take_add_one, List.getElem?_eq_getElem hjl]; rfl
  have hmem := List.getElem_mem hjl
  generalize os[i] = o at hg htk hmem
  have ho := hos o (List.mem_of_getElem? hg)
  have hl := hS.len100
  have hbd : r.dead = false → r.Bd := fun hd => (hS.eq_ hd).2.bd (by omega)
  (repeat' with_reducible first |apply qA|apply qB|apply qC|apply qD|apply qE|apply qF|(apply qG;decide)|apply qH|apply qI|apply qJ|apply qK|((first|apply qL|apply qM|apply qN|apply qO|((first|apply qP|apply qQ);decide +kernel));(conv=>lhs;simp only[go_sem, ibin, ishift, z1, z1i, z2, z2i, h0, h1, hg, hjl, cO5])<;>rfl)|((first|apply qR|apply qS);(conv=>lhs;simp only[go_sem])<;>rfl;rfl)|((first|apply qT|apply qU);(conv=>lhs;simp only[go_sem])<;>rfl;rfl)|apply qV|apply qW|apply qX|apply qY|apply qZ)
  by_cases k1 : o.kind = 1
  · have zk : decide (o.kind = 1) = true := decide_eq_true k1
    have hroom : (0 + o.data.length) * 1 ≤ room := by omega
    have hroom2 : o.data.length ≤ room := ho.2
    have hps := put_spec0 c.toTabS s hl o.data
    have hsim := put_sim hS o.data
    have hct := put_count r o.data
    have hrp := rput_spec c r hbd o.data
    rw [hsim.1] at hps
    have hS2 := hsim.2
    clear hsim
    generalize (s.put o.data).1 = s2 at hps hS2
    generalize r.put o.data = q at hps hS2 hrp hct
    obtain ⟨r2, n2, e2⟩ := q
    simp only at hps hS2 hrp hct
    unfold Sn.h Sn.o at hps
    unfold Rs.v at hrp
    rw [zk]
    (repeat' with_reducible first |apply qA|apply qB|apply qC|apply qD|apply qE|apply qF|(apply qG;decide)|apply qH|apply qI|apply qJ|apply qK|((first|apply qL|apply qM|apply qN|apply qO|((first|apply qP|apply qQ);decide +kernel));(conv=>lhs;simp only[go_sem, ibin, ishift])<;>rfl)|((first|apply qR|apply qS);(conv=>lhs;simp only[go_sem])<;>rfl;rfl)|((first|apply qT|apply qU);(conv=>lhs;simp only[go_sem])<;>rfl;rfl)|apply qV|apply qW|apply qX|apply qY|apply qZ)
    (with_reducible((first|apply pA|apply pB|apply pC|apply pD|apply pE|((first|apply pF|apply pG);decide +kernel));(conv=>lhs;simp only[go_sem, ibin, ishift, hroom, hroom2])<;>rfl))
    refine CK_frz 6 rfl (args' := [.ptr 1 0, .fz 1 (o.data.map c8)]) (by (conv => lhs; simp only [go_sem, ibin, ishift]) <;> with_reducible rfl) (by (conv => lhs; simp only [go_sem, ibin, ishift]) <;> with_reducible rfl) (by (conv => lhs; simp only [go_sem, ibin, ishift]) <;> with_reducible rfl) ?_
    refine CK_call [1, 2] hps (by decide) (by simp) rfl rfl rfl ?_
    rintro v h' ⟨rfl, rfl⟩
    (with_reducible((first|apply WO2_finw|apply WO2_fina);(conv=>lhs;simp only[go_sem, ibin, ishift])<;>rfl))
    (repeat' with_reducible first |apply qA|apply qB|apply qC|apply qD|apply qE|apply qF|(apply qG;decide)|apply qH|apply qI|apply qJ|apply qK|((first|apply qL|apply qM|apply qN|apply qO|((first|apply qP|apply qQ);decide +kernel));(conv=>lhs;simp only[go_sem, ibin, ishift])<;>rfl)|((first|apply qR|apply qS);(conv=>lhs;simp only[go_sem])<;>rfl;rfl)|((first|apply qT|apply qU);(conv=>lhs;simp only[go_sem])<;>rfl;rfl)|apply qV|apply qW|apply qX|apply qY|apply qZ)
    (with_reducible((first|apply pA|apply pB|apply pC|apply pD|apply pE|((first|apply pF|apply pG);decide +kernel));(conv=>lhs;simp only[go_sem, ibin, ishift, bytes2_c8])<;>rfl))
    refine CK_pure hrp rfl ?_
    rintro v h' ⟨rfl, rfl⟩
    (with_reducible((first|apply WO2_finw|apply WO2_fina);(conv=>lhs;simp only[go_sem, ibin, ishift])<;>rfl))
    (repeat' with_reducible first |apply qA|apply qB|apply qC|apply qD|apply qE|apply qF|(apply qG;decide)|apply qH|apply qI|apply qJ|apply qK|((first|apply qL|apply qM|apply qN|apply qO|((first|apply qP|apply qQ);decide +kernel));(conv=>lhs;simp only[go_sem, ibin, ishift])<;>rfl)|((first|apply qR|apply qS);(conv=>lhs;simp only[go_sem])<;>rfl;rfl)|((first|apply qT|apply qU);(conv=>lhs;simp only[go_sem])<;>rfl;rfl)|apply qV|apply qW|apply qX|apply qY|apply qZ)
    (repeat' with_reducible first |apply qA|apply qB|apply qC|apply qD|apply qE|apply qF|(apply qG;decide)|apply qH|apply qI|apply qJ|apply qK|apply qX|((first|apply qR|apply qS);(conv=>lhs;simp only[go_sem])<;>rfl;rfl)|((first|apply qT|apply qU);(conv=>lhs;simp only[go_sem])<;>rfl;rfl)|apply qZ|apply qY|apply qW)
    refine W2.weak (Wk.keep [1, 5, 7, 9] rfl) ?_
    refine W2.wview [0, 1, 2, 3] (by decide) rfl (by (conv => lhs; simp only [go_sem, ibin, ishift]) <;> with_reducible rfl) (by (conv => lhs; simp only [go_sem, ibin, ishift]) <;> with_reducible rfl) ?_
    have hC2 : r2.count ≤ ((i + 1 : Nat) : Int) := by omega
    have hdd := hS2.dead_
    have hds := dead_spec c.toTabS s2
    have hos2 := open_spec c.toTabS s2 hS2.len100
    unfold Sn.h Sn.o at hds hos2
    cases hd : r2.dead with
    | true =>
      rw [hd] at hdd
      rw [hdd] at hds ⊢
      (repeat' with_reducible first |apply qA|apply qB|apply qC|apply qD|apply qE|apply qF|(apply qG;decide)|apply qH|apply qI|apply qJ|apply qK|apply qX|((first|apply qR|apply qS);(conv=>lhs;simp only[go_sem])<;>rfl;rfl)|((first|apply qT|apply qU);(conv=>lhs;simp only[go_sem])<;>rfl;rfl)|apply qZ|apply qY|apply qW)
      (with_reducible first | apply W2_sregH [3] [false, false, false, true, false, false, false, false, false, false, false, false, true, false] | apply W2_regH [3] [false, false, false, true, false, false, false, false, false, false, false, false, true, false])
      · decide
      · decide
      · rfl
      ((conv => lhs; simp only [go_sem, ibin, ishift]) <;> with_reducible rfl)
      refine EH_call [1, 2] hds (by decide) (by simp) rfl rfl rfl rfl ?_
      rintro v h' ⟨rfl, rfl⟩
      (with_reducible apply WOH_go (by decide); ((conv => lhs; simp only [go_sem, ibin, ishift]) <;> with_reducible rfl))
      refine EH_go ?_
      (repeat' with_reducible first |apply qA|apply qB|apply qC|apply qD|apply qE|apply qF|(apply qG;decide)|apply qH|apply qI|apply qJ|apply qK|((first|apply qL|apply qM|apply qN|apply qO|((first|apply qP|apply qQ);decide +kernel));(conv=>lhs;simp only[go_sem, ibin, ishift, wj])<;>rfl)|((first|apply qR|apply qS);(conv=>lhs;simp only[go_sem])<;>rfl;rfl)|((first|apply qT|apply qU);(conv=>lhs;simp only[go_sem])<;>rfl;rfl)|apply qV|apply qW|apply qX|apply qY|apply qZ)
      refine ⟨[0, 1, 2, 3], by decide, rfl, ?_⟩
      exact ⟨200 - (i + 1), _, _, by omega, ⟨i + 1, s2, r2, by omega, by omega, rfl, hS2, hC2, rfl, by rw [hd, hdd]⟩, rfl, (by first | rfl | ((conv => lhs; simp only [go_sem, ibin, ishift]) <;> rfl))⟩
    | false =>
      have hE := hS2.eq_ hd
      have hrn := rnumbers_spec c r2 (hE.2.bd (by omega))
      rw [← nums_sn, ← hE.1] at hrn
      unfold Rs.v at hrn
      rw [hd] at hdd hrn
      rw [hdd] at hds hos2 ⊢
      (repeat' with_reducible first |apply qA|apply qB|apply qC|apply qD|apply qE|apply qF|(apply qG;decide)|apply qH|apply qI|apply qJ|apply qK|apply qX|((first|apply qR|apply qS);(conv=>lhs;simp only[go_sem])<;>rfl;rfl)|((first|apply qT|apply qU);(conv=>lhs;simp only[go_sem])<;>rfl;rfl)|apply qZ|apply qY|apply qW)
      (with_reducible first | apply W2_sregH [3] [false, false, false, true, false, false, false, false, false, false, false, false, true, false] | apply W2_regH [3] [false, false, false, true, false, false, false, false, false, false, false, false, true, false])
      · decide
      · decide
      · rfl
      ((conv => lhs; simp only [go_sem, ibin, ishift]) <;> with_reducible rfl)
      refine EH_call [1, 2] hds (by decide) (by simp) rfl rfl rfl rfl ?_
      rintro v h' ⟨rfl, rfl⟩
      (with_reducible apply WOH_go (by decide); ((conv => lhs; simp only [go_sem, ibin, ishift]) <;> with_reducible rfl))
      refine EH_call [1, 2] hos2 (by decide) (by simp) rfl rfl rfl rfl ?_
      rintro v h' ⟨rfl, rfl⟩
      (with_reducible apply WOH_go (by decide); ((conv => lhs; simp only [go_sem, ibin, ishift]) <;> with_reducible rfl))
      refine EH_ck ?_
      refine CK_pure hrn rfl ?_
      rintro v h' ⟨rfl, rfl⟩
      (with_reducible((first|apply pA|apply pB|apply pC|apply pD|apply pE|((first|apply pF|apply pG);decide +kernel));(conv=>lhs;simp only[go_sem, ibin, ishift])<;>rfl))
      refine CK_frz 4 rfl (args' := [.fz 1 ((s2.opn.map Pc.seq).map cU), .fz 1 ((s2.opn.map Pc.seq).map cU)]) (by (conv => lhs; simp only [go_sem, ibin, ishift]) <;> with_reducible rfl) (by (conv => lhs; simp only [go_sem, ibin, ishift]) <;> with_reducible rfl) (by (conv => lhs; simp only [go_sem, ibin, ishift]) <;> with_reducible rfl) ?_
      refine CK_pure (same16_spec c.toTabA _ _ (by rw [List.length_map]; have := hS2.len_; omega)) rfl ?_
      rintro v h' ⟨rfl, rfl⟩
      rw [decide_eq_true rfl]
      (with_reducible((first|apply WO2_finw|apply WO2_fina);(conv=>lhs;simp only[go_sem, ibin, ishift])<;>rfl))
      (repeat' with_reducible first |apply qA|apply qB|apply qC|apply qD|apply qE|apply qF|(apply qG;decide)|apply qH|apply qI|apply qJ|apply qK|((first|apply qL|apply qM|apply qN|apply qO|((first|apply qP|apply qQ);decide +kernel));(conv=>lhs;simp only[go_sem, ibin, ishift, wj])<;>rfl)|((first|apply qR|apply qS);(conv=>lhs;simp only[go_sem])<;>rfl;rfl)|((first|apply qT|apply qU);(conv=>lhs;simp only[go_sem])<;>rfl;rfl)|apply qV|apply qW|apply qX|apply qY|apply qZ)
      refine ⟨[0, 1, 2, 3], by decide, rfl, ?_⟩
      exact ⟨200 - (i + 1), _, _, by omega, ⟨i + 1, s2, r2, by omega, by omega, rfl, hS2, hC2, rfl, by rw [hd, hdd]⟩, rfl, (by first | rfl | ((conv => lhs; simp only [go_sem, ibin, ishift]) <;> rfl))⟩
  have zk1 : decide (o.kind = 1) = false := decide_eq_false k1
  rw [zk1]
  (repeat' with_reducible first |apply qA|apply qB|apply qC|apply qD|apply qE|apply qF|(apply qG;decide)|apply qH|apply qI|apply qJ|apply qK|((first|apply qL|apply qM|apply qN|apply qO|((first|apply qP|apply qQ);decide +kernel));(conv=>lhs;simp only[go_sem, ibin, ishift])<;>rfl)|((first|apply qR|apply qS);(conv=>lhs;simp only[go_sem])<;>rfl;rfl)|((first|apply qT|apply qU);(conv=>lhs;simp only[go_sem])<;>rfl;rfl)|apply qV|apply qW|apply qX|apply qY|apply qZ)
  by_cases k2 : o.kind = 2
  · have zk : decide (o.kind = 2) = true := decide_eq_true k2
    have hts := tick_spec c.toTabS s hl hS.dat100
    have hsim := tick_sim hS
    have hct := tick_count r
    have hto := tick_out r
    have hrt := rtick_spec c r hbd
    have hlen := hS.len_
    have hal : ∀ x ∈ r.tick.2.1, 0 ≤ x.n ∧ x.n ≤ 10000000 := fun x hx => by
      obtain ⟨y, hy, he⟩ := hto.2.1 x hx
      have hb := hbd (hto.2.2.1 (fun h => by rw [h] at hx; simp at hx)).1
      have := hb.all_ y hy
      have := hb.c1
      omega
    have hll : r.tick.2.1.length ≤ 100000 := by
      by_cases hem : r.tick.2.1 = []
      · rw [hem]; exact Nat.zero_le _
      · have hb := hbd (hto.2.2.1 hem).1
        have := hb.len
        have := hto.2.2.2
        omega
    rw [hsim.1, hsim.2.1] at hts
    have hS2 := hsim.2.2
    have hb2 : r.tick.2.1 ≠ [] → r.tick.1.Bd := fun h => (hS2.eq_ (hto.2.2.1 h).2).2.bd (by have := hct.1; omega)
    have hls := lsame_spec c r.tick.1 r.tick.2.1 hb2 hll hal
    have hC2 : r.tick.1.count ≤ ((i + 1 : Nat) : Int) := by have := hct.1; omega
    rw [hct.2] at hls
    have hcase := hto.1
    clear hsim hto hct hal hll hb2
    generalize s.tick.1 = s2 at hts hS2
    generalize r.tick = q at hts hS2 hrt hls hC2 hcase
    obtain ⟨r2, l2, e2⟩ := q
    simp only at hts hS2 hrt hls hC2 hcase
    unfold Sn.h Sn.o at hts
    unfold Rs.v at hrt hls
    rw [zk]
    (repeat' with_reducible first |apply qA|apply qB|apply qC|apply qD|apply qE|apply qF|(apply qG;decide)|apply qH|apply qI|apply qJ|apply qK|((first|apply qL|apply qM|apply qN|apply qO|((first|apply qP|apply qQ);decide +kernel));(conv=>lhs;simp only[go_sem, ibin, ishift])<;>rfl)|((first|apply qR|apply qS);(conv=>lhs;simp only[go_sem])<;>rfl;rfl)|((first|apply qT|apply qU);(conv=>lhs;simp only[go_sem])<;>rfl;rfl)|apply qV|apply qW|apply qX|apply qY|apply qZ)
    (with_reducible((first|apply pA|apply pB|apply pC|apply pD|apply pE|((first|apply pF|apply pG);decide +kernel));(conv=>lhs;simp only[go_sem, ibin, ishift])<;>rfl))
    refine CK_call [1, 2] hts (by decide) (by simp) rfl rfl rfl ?_
    rintro v h' ⟨hv1, hv2⟩
    rcases hcase with he | ⟨he0, he, hl2⟩
    · subst he
      obtain ⟨rfl, rfl⟩ := hv1 rfl
      clear hv1 hv2 hts
      (with_reducible((first|apply WO2_finw|apply WO2_fina);(conv=>lhs;simp only[go_sem, ibin, ishift])<;>rfl))
      (repeat' with_reducible first |apply qA|apply qB|apply qC|apply qD|apply qE|apply qF|(apply qG;decide)|apply qH|apply qI|apply qJ|apply qK|((first|apply qL|apply qM|apply qN|apply qO|((first|apply qP|apply qQ);decide +kernel));(conv=>lhs;simp only[go_sem, ibin, ishift])<;>rfl)|((first|apply qR|apply qS);(conv=>lhs;simp only[go_sem])<;>rfl;rfl)|((first|apply qT|apply qU);(conv=>lhs;simp only[go_sem])<;>rfl;rfl)|apply qV|apply qW|apply qX|apply qY|apply qZ)
      (with_reducible((first|apply pA|apply pB|apply pC|apply pD|apply pE|((first|apply pF|apply pG);decide +kernel));(conv=>lhs;simp only[go_sem, ibin, ishift])<;>rfl))
      refine CK_pure hrt rfl ?_
      rintro v h' ⟨rfl, rfl⟩
      (with_reducible((first|apply WO2_finw|apply WO2_fina);(conv=>lhs;simp only[go_sem, ibin, ishift])<;>rfl))
      (repeat' with_reducible first |apply qA|apply qB|apply qC|apply qD|apply qE|apply qF|(apply qG;decide)|apply qH|apply qI|apply qJ|apply qK|((first|apply qL|apply qM|apply qN|apply qO|((first|apply qP|apply qQ);decide +kernel));(conv=>lhs;simp only[go_sem, ibin, ishift])<;>rfl)|((first|apply qR|apply qS);(conv=>lhs;simp only[go_sem])<;>rfl;rfl)|((first|apply qT|apply qU);(conv=>lhs;simp only[go_sem])<;>rfl;rfl)|apply qV|apply qW|apply qX|apply qY|apply qZ)
      refine W2.wfrz 5 rfl (by (conv => lhs; simp only [go_sem, ibin, ishift]) <;> with_reducible rfl) (by (conv => lhs; simp only [go_sem, ibin, ishift]) <;> with_reducible rfl) ?_
      (with_reducible((first|apply pA|apply pB|apply pC|apply pD|apply pE|((first|apply pF|apply pG);decide +kernel));(conv=>lhs;simp only[go_sem, ibin, ishift])<;>rfl))
      refine CK_pure hls rfl ?_
      rintro v h' ⟨rfl, rfl⟩
      (with_reducible((first|apply WO2_finw|apply WO2_fina);(conv=>lhs;simp only[go_sem, ibin, ishift])<;>rfl))
      (repeat' with_reducible first |apply qA|apply qB|apply qC|apply qD|apply qE|apply qF|(apply qG;decide)|apply qH|apply qI|apply qJ|apply qK|((first|apply qL|apply qM|apply qN|apply qO|((first|apply qP|apply qQ);decide +kernel));(conv=>lhs;simp only[go_sem, ibin, ishift])<;>rfl)|((first|apply qR|apply qS);(conv=>lhs;simp only[go_sem])<;>rfl;rfl)|((first|apply qT|apply qU);(conv=>lhs;simp only[go_sem])<;>rfl;rfl)|apply qV|apply qW|apply qX|apply qY|apply qZ)
      (repeat' with_reducible first |apply qA|apply qB|apply qC|apply qD|apply qE|apply qF|(apply qG;decide)|apply qH|apply qI|apply qJ|apply qK|apply qX|((first|apply qR|apply qS);(conv=>lhs;simp only[go_sem])<;>rfl;rfl)|((first|apply qT|apply qU);(conv=>lhs;simp only[go_sem])<;>rfl;rfl)|apply qZ|apply qY|apply qW)
      refine W2.weak (Wk.keep [1, 5, 7, 9] rfl) ?_
      refine W2.wview [0, 1, 2, 3] (by decide) rfl (by (conv => lhs; simp only [go_sem, ibin, ishift]) <;> with_reducible rfl) (by (conv => lhs; simp only [go_sem, ibin, ishift]) <;> with_reducible rfl) ?_
      have hdd := hS2.dead_
      have hds := dead_spec c.toTabS s2
      have hos2 := open_spec c.toTabS s2 hS2.len100
      unfold Sn.h Sn.o at hds hos2
      cases hd : r2.dead with
      | true =>
        rw [hd] at hdd
        rw [hdd] at hds ⊢
        (repeat' with_reducible first |apply qA|apply qB|apply qC|apply qD|apply qE|apply qF|(apply qG;decide)|apply qH|apply qI|apply qJ|apply qK|apply qX|((first|apply qR|apply qS);(conv=>lhs;simp only[go_sem])<;>rfl;rfl)|((first|apply qT|apply qU);(conv=>lhs;simp only[go_sem])<;>rfl;rfl)|apply qZ|apply qY|apply qW)
        (with_reducible first | apply W2_sregH [3] [false, false, false, true, false, false, false, false, false, false, false, false, true, false] | apply W2_regH [3] [false, false, false, true, false, false, false, false, false, false, false, false, true, false])
        · decide
        · decide
        · rfl
        ((conv => lhs; simp only [go_sem, ibin, ishift]) <;> with_reducible rfl)
        refine EH_call [1, 2] hds (by decide) (by simp) rfl rfl rfl rfl ?_
        rintro v h' ⟨rfl, rfl⟩
        (with_reducible apply WOH_go (by decide); ((conv => lhs; simp only [go_sem, ibin, ishift]) <;> with_reducible rfl))
        refine EH_go ?_
        (repeat' with_reducible first |apply qA|apply qB|apply qC|apply qD|apply qE|apply qF|(apply qG;decide)|apply qH|apply qI|apply qJ|apply qK|((first|apply qL|apply qM|apply qN|apply qO|((first|apply qP|apply qQ);decide +kernel));(conv=>lhs;simp only[go_sem, ibin, ishift, wj])<;>rfl)|((first|apply qR|apply qS);(conv=>lhs;simp only[go_sem])<;>rfl;rfl)|((first|apply qT|apply qU);(conv=>lhs;simp only[go_sem])<;>rfl;rfl)|apply qV|apply qW|apply qX|apply qY|apply qZ)
        refine ⟨[0, 1, 2, 3], by decide, rfl, ?_⟩
        exact ⟨200 - (i + 1), _, _, by omega, ⟨i + 1, s2, r2, by omega, by omega, rfl, hS2, hC2, rfl, by rw [hd, hdd]⟩, rfl, (by first | rfl | ((conv => lhs; simp only [go_sem, ibin, ishift]) <;> rfl))⟩
      | false =>
        have hE := hS2.eq_ hd
        have hrn := rnumbers_spec c r2 (hE.2.bd (by omega))
        rw [← nums_sn, ← hE.1] at hrn
        unfold Rs.v at hrn
        rw [hd] at hdd hrn
        rw [hdd] at hds hos2 ⊢
        (repeat' with_reducible first |apply qA|apply qB|apply qC|apply qD|apply qE|apply qF|(apply qG;decide)|apply qH|apply qI|apply qJ|apply qK|apply qX|((first|apply qR|apply qS);(conv=>lhs;simp only[go_sem])<;>rfl;rfl)|((first|apply qT|apply qU);(conv=>lhs;simp only[go_sem])<;>rfl;rfl)|apply qZ|apply qY|apply qW)
        (with_reducible first | apply W2_sregH [3] [false, false, false, true, false, false, false, false, false, false, false, false, true, false] | apply W2_regH [3] [false, false, false, true, false, false, false, false, false, false, false, false, true, false])
        · decide
        · decide
        · rfl
        ((conv => lhs; simp only [go_sem, ibin, ishift]) <;> with_reducible rfl)
        refine EH_call [1, 2] hds (by decide) (by simp) rfl rfl rfl rfl ?_
        rintro v h' ⟨rfl, rfl⟩
        (with_reducible apply WOH_go (by decide); ((conv => lhs; simp only [go_sem, ibin, ishift]) <;> with_reducible rfl))
        refine EH_call [1, 2] hos2 (by decide) (by simp) rfl rfl rfl rfl ?_
        rintro v h' ⟨rfl, rfl⟩
        (with_reducible apply WOH_go (by decide); ((conv => lhs; simp only [go_sem, ibin, ishift]) <;> with_reducible rfl))
        refine EH_ck ?_
        refine CK_pure hrn rfl ?_
        rintro v h' ⟨rfl, rfl⟩
        (with_reducible((first|apply pA|apply pB|apply pC|apply pD|apply pE|((first|apply pF|apply pG);decide +kernel));(conv=>lhs;simp only[go_sem, ibin, ishift])<;>rfl))
        refine CK_frz 4 rfl (args' := [.fz 1 ((s2.opn.map Pc.seq).map cU), .fz 1 ((s2.opn.map Pc.seq).map cU)]) (by (conv => lhs; simp only [go_sem, ibin, ishift]) <;> with_reducible rfl) (by (conv => lhs; simp only [go_sem, ibin, ishift]) <;> with_reducible rfl) (by (conv => lhs; simp only [go_sem, ibin, ishift]) <;> with_reducible rfl) ?_
        refine CK_pure (same16_spec c.toTabA _ _ (by rw [List.length_map]; have := hS2.len_; omega)) rfl ?_
        rintro v h' ⟨rfl, rfl⟩
        rw [decide_eq_true rfl]
        (with_reducible((first|apply WO2_finw|apply WO2_fina);(conv=>lhs;simp only[go_sem, ibin, ishift])<;>rfl))
        (repeat' with_reducible first |apply qA|apply qB|apply qC|apply qD|apply qE|apply qF|(apply qG;decide)|apply qH|apply qI|apply qJ|apply qK|((first|apply qL|apply qM|apply qN|apply qO|((first|apply qP|apply qQ);decide +kernel));(conv=>lhs;simp only[go_sem, ibin, ishift, wj])<;>rfl)|((first|apply qR|apply qS);(conv=>lhs;simp only[go_sem])<;>rfl;rfl)|((first|apply qT|apply qU);(conv=>lhs;simp only[go_sem])<;>rfl;rfl)|apply qV|apply qW|apply qX|apply qY|apply qZ)
        refine ⟨[0, 1, 2, 3], by decide, rfl, ?_⟩
        exact ⟨200 - (i + 1), _, _, by omega, ⟨i + 1, s2, r2, by omega, by omega, rfl, hS2, hC2, rfl, by rw [hd, hdd]⟩, rfl, (by first | rfl | ((conv => lhs; simp only [go_sem, ibin, ishift]) <;> rfl))⟩
    · subst hl2
      obtain ⟨rfl, rfl⟩ := hv2 he0
      subst he
      clear hv1 hv2 hts
      (with_reducible((first|apply WO2_finw|apply WO2_fina);(conv=>lhs;simp only[go_sem, ibin, ishift])<;>rfl))
      refine W2.weak (Wk.nilf 14 2 rfl) ?_
      (repeat' with_reducible first |apply qA|apply qB|apply qC|apply qD|apply qE|apply qF|(apply qG;decide)|apply qH|apply qI|apply qJ|apply qK|((first|apply qL|apply qM|apply qN|apply qO|((first|apply qP|apply qQ);decide +kernel));(conv=>lhs;simp only[go_sem, ibin, ishift])<;>rfl)|((first|apply qR|apply qS);(conv=>lhs;simp only[go_sem])<;>rfl;rfl)|((first|apply qT|apply qU);(conv=>lhs;simp only[go_sem])<;>rfl;rfl)|apply qV|apply qW|apply qX|apply qY|apply qZ)
      (with_reducible((first|apply pA|apply pB|apply pC|apply pD|apply pE|((first|apply pF|apply pG);decide +kernel));(conv=>lhs;simp only[go_sem, ibin, ishift])<;>rfl))
      refine CK_pure hrt rfl ?_
      rintro v h' ⟨rfl, rfl⟩
      (with_reducible((first|apply WO2_finw|apply WO2_fina);(conv=>lhs;simp only[go_sem, ibin, ishift])<;>rfl))
      (repeat' with_reducible first |apply qA|apply qB|apply qC|apply qD|apply qE|apply qF|(apply qG;decide)|apply qH|apply qI|apply qJ|apply qK|((first|apply qL|apply qM|apply qN|apply qO|((first|apply qP|apply qQ);decide +kernel));(conv=>lhs;simp only[go_sem, ibin, ishift])<;>rfl)|((first|apply qR|apply qS);(conv=>lhs;simp only[go_sem])<;>rfl;rfl)|((first|apply qT|apply qU);(conv=>lhs;simp only[go_sem])<;>rfl;rfl)|apply qV|apply qW|apply qX|apply qY|apply qZ)
      (with_reducible((first|apply pA|apply pB|apply pC|apply pD|apply pE|((first|apply pF|apply pG);decide +kernel));(conv=>lhs;simp only[go_sem, ibin, ishift])<;>rfl))
      refine CK_pure hls rfl ?_
      rintro v h' ⟨rfl, rfl⟩
      (with_reducible((first|apply WO2_finw|apply WO2_fina);(conv=>lhs;simp only[go_sem, ibin, ishift])<;>rfl))
      (repeat' with_reducible first |apply qA|apply qB|apply qC|apply qD|apply qE|apply qF|(apply qG;decide)|apply qH|apply qI|apply qJ|apply qK|((first|apply qL|apply qM|apply qN|apply qO|((first|apply qP|apply qQ);decide +kernel));(conv=>lhs;simp only[go_sem, ibin, ishift])<;>rfl)|((first|apply qR|apply qS);(conv=>lhs;simp only[go_sem])<;>rfl;rfl)|((first|apply qT|apply qU);(conv=>lhs;simp only[go_sem])<;>rfl;rfl)|apply qV|apply qW|apply qX|apply qY|apply qZ)
      (repeat' with_reducible first |apply qA|apply qB|apply qC|apply qD|apply qE|apply qF|(apply qG;decide)|apply qH|apply qI|apply qJ|apply qK|apply qX|((first|apply qR|apply qS);(conv=>lhs;simp only[go_sem])<;>rfl;rfl)|((first|apply qT|apply qU);(conv=>lhs;simp only[go_sem])<;>rfl;rfl)|apply qZ|apply qY|apply qW)
      refine W2.weak (Wk.keep [1, 5, 7, 9] rfl) ?_
      refine W2.wview [0, 1, 2, 3] (by decide) rfl (by (conv => lhs; simp only [go_sem, ibin, ishift]) <;> with_reducible rfl) (by (conv => lhs; simp only [go_sem, ibin, ishift]) <;> with_reducible rfl) ?_
      have hdd := hS2.dead_
      have hds := dead_spec c.toTabS s2
      have hos2 := open_spec c.toTabS s2 hS2.len100
      unfold Sn.h Sn.o at hds hos2
      cases hd : r2.dead with
      | true =>
        rw [hd] at hdd
        rw [hdd] at hds ⊢
        (repeat' with_reducible first |apply qA|apply qB|apply qC|apply qD|apply qE|apply qF|(apply qG;decide)|apply qH|apply qI|apply qJ|apply qK|apply qX|((first|apply qR|apply qS);(conv=>lhs;simp only[go_sem])<;>rfl;rfl)|((first|apply qT|apply qU);(conv=>lhs;simp only[go_sem])<;>rfl;rfl)|apply qZ|apply qY|apply qW)
        (with_reducible first | apply W2_sregH [3] [false, false, false, true, false, false, false, false, false, false, false, false, true, false] | apply W2_regH [3] [false, false, false, true, false, false, false, false, false, false, false, false, true, false])
        · decide
        · decide
        · rfl
        ((conv => lhs; simp only [go_sem, ibin, ishift]) <;> with_reducible rfl)
        refine EH_call [1, 2] hds (by decide) (by simp) rfl rfl rfl rfl ?_
        rintro v h' ⟨rfl, rfl⟩
        (with_reducible apply WOH_go (by decide); ((conv => lhs; simp only [go_sem, ibin, ishift]) <;> with_reducible rfl))
        refine EH_go ?_
        (repeat' with_reducible first |apply qA|apply qB|apply qC|apply qD|apply qE|apply qF|(apply qG;decide)|apply qH|apply qI|apply qJ|apply qK|((first|apply qL|apply qM|apply qN|apply qO|((first|apply qP|apply qQ);decide +kernel));(conv=>lhs;simp only[go_sem, ibin, ishift, wj])<;>rfl)|((first|apply qR|apply qS);(conv=>lhs;simp only[go_sem])<;>rfl;rfl)|((first|apply qT|apply qU);(conv=>lhs;simp only[go_sem])<;>rfl;rfl)|apply qV|apply qW|apply qX|apply qY|apply qZ)
        refine ⟨[0, 1, 2, 3], by decide, rfl, ?_⟩
        exact ⟨200 - (i + 1), _, _, by omega, ⟨i + 1, s2, r2, by omega, by omega, rfl, hS2, hC2, rfl, by rw [hd, hdd]⟩, rfl, (by first | rfl | ((conv => lhs; simp only [go_sem, ibin, ishift]) <;> rfl))⟩
      | false =>
        have hE := hS2.eq_ hd
        have hrn := rnumbers_spec c r2 (hE.2.bd (by omega))
        rw [← nums_sn, ← hE.1] at hrn
        unfold Rs.v at hrn
        rw [hd] at hdd hrn
        rw [hdd] at hds hos2 ⊢
        (repeat' with_reducible first |apply qA|apply qB|apply qC|apply qD|apply qE|apply qF|(apply qG;decide)|apply qH|apply qI|apply qJ|apply qK|apply qX|((first|apply qR|apply qS);(conv=>lhs;simp only[go_sem])<;>rfl;rfl)|((first|apply qT|apply qU);(conv=>lhs;simp only[go_sem])<;>rfl;rfl)|apply qZ|apply qY|apply qW)
        (with_reducible first | apply W2_sregH [3] [false, false, false, true, false, false, false, false, false, false, false, false, true, false] | apply W2_regH [3] [false, false, false, true, false, false, false, false, false, false, false, false, true, false])
        · decide
        · decide
        · rfl
        ((conv => lhs; simp only [go_sem, ibin, ishift]) <;> with_reducible rfl)
        refine EH_call [1, 2] hds (by decide) (by simp) rfl rfl rfl rfl ?_
        rintro v h' ⟨rfl, rfl⟩
        (with_reducible apply WOH_go (by decide); ((conv => lhs; simp only [go_sem, ibin, ishift]) <;> with_reducible rfl))
        refine EH_call [1, 2] hos2 (by decide) (by simp) rfl rfl rfl rfl ?_
        rintro v h' ⟨rfl, rfl⟩
        (with_reducible apply WOH_go (by decide); ((conv => lhs; simp only [go_sem, ibin, ishift]) <;> with_reducible rfl))
        refine EH_ck ?_
        refine CK_pure hrn rfl ?_
        rintro v h' ⟨rfl, rfl⟩
        (with_reducible((first|apply pA|apply pB|apply pC|apply pD|apply pE|((first|apply pF|apply pG);decide +kernel));(conv=>lhs;simp only[go_sem, ibin, ishift])<;>rfl))
        refine CK_frz 4 rfl (args' := [.fz 1 ((s2.opn.map Pc.seq).map cU), .fz 1 ((s2.opn.map Pc.seq).map cU)]) (by (conv => lhs; simp only [go_sem, ibin, ishift]) <;> with_reducible rfl) (by (conv => lhs; simp only [go_sem, ibin, ishift]) <;> with_reducible rfl) (by (conv => lhs; simp only [go_sem, ibin, ishift]) <;> with_reducible rfl) ?_
        refine CK_pure (same16_spec c.toTabA _ _ (by rw [List.length_map]; have := hS2.len_; omega)) rfl ?_
        rintro v h' ⟨rfl, rfl⟩
        rw [decide_eq_true rfl]
        (with_reducible((first|apply WO2_finw|apply WO2_fina);(conv=>lhs;simp only[go_sem, ibin, ishift])<;>rfl))
        (repeat' with_reducible first |apply qA|apply qB|apply qC|apply qD|apply qE|apply qF|(apply qG;decide)|apply qH|apply qI|apply qJ|apply qK|((first|apply qL|apply qM|apply qN|apply qO|((first|apply qP|apply qQ);decide +kernel));(conv=>lhs;simp only[go_sem, ibin, ishift, wj])<;>rfl)|((first|apply qR|apply qS);(conv=>lhs;simp only[go_sem])<;>rfl;rfl)|((first|apply qT|apply qU);(conv=>lhs;simp only[go_sem])<;>rfl;rfl)|apply qV|apply qW|apply qX|apply qY|apply qZ)
        refine ⟨[0, 1, 2, 3], by decide, rfl, ?_⟩
        exact ⟨200 - (i + 1), _, _, by omega, ⟨i + 1, s2, r2, by omega, by omega, rfl, hS2, hC2, rfl, by rw [hd, hdd]⟩, rfl, (by first | rfl | ((conv => lhs; simp only [go_sem, ibin, ishift]) <;> rfl))⟩
  have zk2 : decide (o.kind = 2) = false := decide_eq_false k2
  rw [zk2]
  (repeat' with_reducible first |apply qA|apply qB|apply qC|apply qD|apply qE|apply qF|(apply qG;decide)|apply qH|apply qI|apply qJ|apply qK|((first|apply qL|apply qM|apply qN|apply qO|((first|apply qP|apply qQ);decide +kernel));(conv=>lhs;simp only[go_sem, ibin, ishift])<;>rfl)|((first|apply qR|apply qS);(conv=>lhs;simp only[go_sem])<;>rfl;rfl)|((first|apply qT|apply qU);(conv=>lhs;simp only[go_sem])<;>rfl;rfl)|apply qV|apply qW|apply qX|apply qY|apply qZ)
  by_cases k3 : o.kind = 3
  · have zk : decide (o.kind = 3) = true := decide_eq_true k3
    have hps := ack_spec c.toTabS s hl o.seq
    have hsim := ack_sim hS o.seq
    have hct := ack_count r o.seq
    have hrp := rack_spec c r hbd o.seq
    rw [hsim.1] at hps
    have hS2 := hsim.2
    clear hsim
    generalize (s.ack o.seq).1 = s2 at hps hS2
    generalize r.ack o.seq = q at hps hS2 hrp hct
    obtain ⟨r2, e2⟩ := q
    simp only at hps hS2 hrp hct
    unfold Sn.h Sn.o at hps
    unfold Rs.v at hrp
    rw [zk]
    (repeat' with_reducible first |apply qA|apply qB|apply qC|apply qD|apply qE|apply qF|(apply qG;decide)|apply qH|apply qI|apply qJ|apply qK|((first|apply qL|apply qM|apply qN|apply qO|((first|apply qP|apply qQ);decide +kernel));(conv=>lhs;simp only[go_sem, ibin, ishift])<;>rfl)|((first|apply qR|apply qS);(conv=>lhs;simp only[go_sem])<;>rfl;rfl)|((first|apply qT|apply qU);(conv=>lhs;simp only[go_sem])<;>rfl;rfl)|apply qV|apply qW|apply qX|apply qY|apply qZ)
    (with_reducible((first|apply pA|apply pB|apply pC|apply pD|apply pE|((first|apply pF|apply pG);decide +kernel));(conv=>lhs;simp only[go_sem, ibin, ishift])<;>rfl))
    refine CK_call [1, 2] hps (by decide) (by simp) rfl rfl rfl ?_
    rintro v h' ⟨rfl, rfl⟩
    (with_reducible((first|apply WO2_finw|apply WO2_fina);(conv=>lhs;simp only[go_sem, ibin, ishift])<;>rfl))
    (repeat' with_reducible first |apply qA|apply qB|apply qC|apply qD|apply qE|apply qF|(apply qG;decide)|apply qH|apply qI|apply qJ|apply qK|((first|apply qL|apply qM|apply qN|apply qO|((first|apply qP|apply qQ);decide +kernel));(conv=>lhs;simp only[go_sem, ibin, ishift])<;>rfl)|((first|apply qR|apply qS);(conv=>lhs;simp only[go_sem])<;>rfl;rfl)|((first|apply qT|apply qU);(conv=>lhs;simp only[go_sem])<;>rfl;rfl)|apply qV|apply qW|apply qX|apply qY|apply qZ)
    (with_reducible((first|apply pA|apply pB|apply pC|apply pD|apply pE|((first|apply pF|apply pG);decide +kernel));(conv=>lhs;simp only[go_sem, ibin, ishift])<;>rfl))
    refine CK_pure hrp rfl ?_
    rintro v h' ⟨rfl, rfl⟩
    (with_reducible((first|apply WO2_finw|apply WO2_fina);(conv=>lhs;simp only[go_sem, ibin, ishift])<;>rfl))
    (repeat' with_reducible first |apply qA|apply qB|apply qC|apply qD|apply qE|apply qF|(apply qG;decide)|apply qH|apply qI|apply qJ|apply qK|((first|apply qL|apply qM|apply qN|apply qO|((first|apply qP|apply qQ);decide +kernel));(conv=>lhs;simp only[go_sem, ibin, ishift])<;>rfl)|((first|apply qR|apply qS);(conv=>lhs;simp only[go_sem])<;>rfl;rfl)|((first|apply qT|apply qU);(conv=>lhs;simp only[go_sem])<;>rfl;rfl)|apply qV|apply qW|apply qX|apply qY|apply qZ)
    (repeat' with_reducible first |apply qA|apply qB|apply qC|apply qD|apply qE|apply qF|(apply qG;decide)|apply qH|apply qI|apply qJ|apply qK|apply qX|((first|apply qR|apply qS);(conv=>lhs;simp only[go_sem])<;>rfl;rfl)|((first|apply qT|apply qU);(conv=>lhs;simp only[go_sem])<;>rfl;rfl)|apply qZ|apply qY|apply qW)
    refine W2.weak (Wk.keep [1, 5, 7, 9] rfl) ?_
    refine W2.wview [0, 1, 2, 3] (by decide) rfl (by (conv => lhs; simp only [go_sem, ibin, ishift]) <;> with_reducible rfl) (by (conv => lhs; simp only [go_sem, ibin, ishift]) <;> with_reducible rfl) ?_
    have hC2 : r2.count ≤ ((i + 1 : Nat) : Int) := by omega
    have hdd := hS2.dead_
    have hds := dead_spec c.toTabS s2
    have hos2 := open_spec c.toTabS s2 hS2.len100
    unfold Sn.h Sn.o at hds hos2
    cases hd : r2.dead with
    | true =>
      rw [hd] at hdd
      rw [hdd] at hds ⊢
      (repeat' with_reducible first |apply qA|apply qB|apply qC|apply qD|apply qE|apply qF|(apply qG;decide)|apply qH|apply qI|apply qJ|apply qK|apply qX|((first|apply qR|apply qS);(conv=>lhs;simp only[go_sem])<;>rfl;rfl)|((first|apply qT|apply qU);(conv=>lhs;simp only[go_sem])<;>rfl;rfl)|apply qZ|apply qY|apply qW)
      (with_reducible first | apply W2_sregH [3] [false, false, false, true, false, false, false, false, false, false, false, false, true, false] | apply W2_regH [3] [false, false, false, true, false, false, false, false, false, false, false, false, true, false])
      · decide
      · decide
      · rfl
      ((conv => lhs; simp only [go_sem, ibin, ishift]) <;> with_reducible rfl)
      refine EH_call [1, 2] hds (by decide) (by simp) rfl rfl rfl rfl ?_
      rintro v h' ⟨rfl, rfl⟩
      (with_reducible apply WOH_go (by decide); ((conv => lhs; simp only [go_sem, ibin, ishift]) <;> with_reducible rfl))
      refine EH_go ?_
      (repeat' with_reducible first |apply qA|apply qB|apply qC|apply qD|apply qE|apply qF|(apply qG;decide)|apply qH|apply qI|apply qJ|apply qK|((first|apply qL|apply qM|apply qN|apply qO|((first|apply qP|apply qQ);decide +kernel));(conv=>lhs;simp only[go_sem, ibin, ishift, wj])<;>rfl)|((first|apply qR|apply qS);(conv=>lhs;simp only[go_sem])<;>rfl;rfl)|((first|apply qT|apply qU);(conv=>lhs;simp only[go_sem])<;>rfl;rfl)|apply qV|apply qW|apply qX|apply qY|apply qZ)
      refine ⟨[0, 1, 2, 3], by decide, rfl, ?_⟩
      exact ⟨200 - (i + 1), _, _, by omega, ⟨i + 1, s2, r2, by omega, by omega, rfl, hS2, hC2, rfl, by rw [hd, hdd]⟩, rfl, (by first | rfl | ((conv => lhs; simp only [go_sem, ibin, ishift]) <;> rfl))⟩
    | false =>
      have hE := hS2.eq_ hd
      have hrn := rnumbers_spec c r2 (hE.2.bd (by omega))
      rw [← nums_sn, ← hE.1] at hrn
      unfold Rs.v at hrn
      rw [hd] at hdd hrn
      rw [hdd] at hds hos2 ⊢
      (repeat' with_reducible first |apply qA|apply qB|apply qC|apply qD|apply qE|apply qF|(apply qG;decide)|apply qH|apply qI|apply qJ|apply qK|apply qX|((first|apply qR|apply qS);(conv=>lhs;simp only[go_sem])<;>rfl;rfl)|((first|apply qT|apply qU);(conv=>lhs;simp only[go_sem])<;>rfl;rfl)|apply qZ|apply qY|apply qW)
      (with_reducible first | apply W2_sregH [3] [false, false, false, true, false, false, false, false, false, false, false, false, true, false] | apply W2_regH [3] [false, false, false, true, false, false, false, false, false, false, false, false, true, false])
      · decide
      · decide
      · rfl
      ((conv => lhs; simp only [go_sem, ibin, ishift]) <;> with_reducible rfl)
      refine EH_call [1, 2] hds (by decide) (by simp) rfl rfl rfl rfl ?_
      rintro v h' ⟨rfl, rfl⟩
      (with_reducible apply WOH_go (by decide); ((conv => lhs; simp only [go_sem, ibin, ishift]) <;> with_reducible rfl))
      refine EH_call [1, 2] hos2 (by decide) (by simp) rfl rfl rfl rfl ?_
      rintro v h' ⟨rfl, rfl⟩
      (with_reducible apply WOH_go (by decide); ((conv => lhs; simp only [go_sem, ibin, ishift]) <;> with_reducible rfl))
      refine EH_ck ?_
      refine CK_pure hrn rfl ?_
      rintro v h' ⟨rfl, rfl⟩
      (with_reducible((first|apply pA|apply pB|apply pC|apply pD|apply pE|((first|apply pF|apply pG);decide +kernel));(conv=>lhs;simp only[go_sem, ibin, ishift])<;>rfl))
      refine CK_frz 4 rfl (args' := [.fz 1 ((s2.opn.map Pc.seq).map cU), .fz 1 ((s2.opn.map Pc.seq).map cU)]) (by (conv => lhs; simp only [go_sem, ibin, ishift]) <;> with_reducible rfl) (by (conv => lhs; simp only [go_sem, ibin, ishift]) <;> with_reducible rfl) (by (conv => lhs; simp only [go_sem, ibin, ishift]) <;> with_reducible rfl) ?_
      refine CK_pure (same16_spec c.toTabA _ _ (by rw [List.length_map]; have := hS2.len_; omega)) rfl ?_
      rintro v h' ⟨rfl, rfl⟩
      rw [decide_eq_true rfl]
      (with_reducible((first|apply WO2_finw|apply WO2_fina);(conv=>lhs;simp only[go_sem, ibin, ishift])<;>rfl))
      (repeat' with_reducible first |apply qA|apply qB|apply qC|apply qD|apply qE|apply qF|(apply qG;decide)|apply qH|apply qI|apply qJ|apply qK|((first|apply qL|apply qM|apply qN|apply qO|((first|apply qP|apply qQ);decide +kernel));(conv=>lhs;simp only[go_sem, ibin, ishift, wj])<;>rfl)|((first|apply qR|apply qS);(conv=>lhs;simp only[go_sem])<;>rfl;rfl)|((first|apply qT|apply qU);(conv=>lhs;simp only[go_sem])<;>rfl;rfl)|apply qV|apply qW|apply qX|apply qY|apply qZ)
      refine ⟨[0, 1, 2, 3], by decide, rfl, ?_⟩
      exact ⟨200 - (i + 1), _, _, by omega, ⟨i + 1, s2, r2, by omega, by omega, rfl, hS2, hC2, rfl, by rw [hd, hdd]⟩, rfl, (by first | rfl | ((conv => lhs; simp only [go_sem, ibin, ishift]) <;> rfl))⟩
  have zk3 : decide (o.kind = 3) = false := decide_eq_false k3
  rw [zk3]
  (repeat' with_reducible first |apply qA|apply qB|apply qC|apply qD|apply qE|apply qF|(apply qG;decide)|apply qH|apply qI|apply qJ|apply qK|((first|apply qL|apply qM|apply qN|apply qO|((first|apply qP|apply qQ);decide +kernel));(conv=>lhs;simp only[go_sem, ibin, ishift])<;>rfl)|((first|apply qR|apply qS);(conv=>lhs;simp only[go_sem])<;>rfl;rfl)|((first|apply qT|apply qU);(conv=>lhs;simp only[go_sem])<;>rfl;rfl)|apply qV|apply qW|apply qX|apply qY|apply qZ)
  by_cases k4 : o.kind = 4
  · have zk : decide (o.kind = 4) = true := decide_eq_true k4
    have hps := ackTo_spec c.toTabS s hl o.seq
    have hsim := ackTo_sim hS o.seq ho.1.1 ho.1.2
    have hct := ackTo_count r o.seq
    have hrp := rackTo_spec c r hbd o.seq ho.1.1 ho.1.2
    rw [hsim.1] at hps
    have hS2 := hsim.2
    clear hsim
    generalize (s.ackTo o.seq).1 = s2 at hps hS2
    generalize r.ackTo o.seq = q at hps hS2 hrp hct
    obtain ⟨r2, n2, e2⟩ := q
    simp only at hps hS2 hrp hct
    unfold Sn.h Sn.o at hps
    unfold Rs.v at hrp
    rw [zk]
    (repeat' with_reducible first |apply qA|apply qB|apply qC|apply qD|apply qE|apply qF|(apply qG;decide)|apply qH|apply qI|apply qJ|apply qK|((first|apply qL|apply qM|apply qN|apply qO|((first|apply qP|apply qQ);decide +kernel));(conv=>lhs;simp only[go_sem, ibin, ishift])<;>rfl)|((first|apply qR|apply qS);(conv=>lhs;simp only[go_sem])<;>rfl;rfl)|((first|apply qT|apply qU);(conv=>lhs;simp only[go_sem])<;>rfl;rfl)|apply qV|apply qW|apply qX|apply qY|apply qZ)
    (with_reducible((first|apply pA|apply pB|apply pC|apply pD|apply pE|((first|apply pF|apply pG);decide +kernel));(conv=>lhs;simp only[go_sem, ibin, ishift])<;>rfl))
    refine CK_call [1, 2] hps (by decide) (by simp) rfl rfl rfl ?_
    rintro v h' ⟨rfl, rfl⟩
    (with_reducible((first|apply WO2_finw|apply WO2_fina);(conv=>lhs;simp only[go_sem, ibin, ishift])<;>rfl))
    (repeat' with_reducible first |apply qA|apply qB|apply qC|apply qD|apply qE|apply qF|(apply qG;decide)|apply qH|apply qI|apply qJ|apply qK|((first|apply qL|apply qM|apply qN|apply qO|((first|apply qP|apply qQ);decide +kernel));(conv=>lhs;simp only[go_sem, ibin, ishift])<;>rfl)|((first|apply qR|apply qS);(conv=>lhs;simp only[go_sem])<;>rfl;rfl)|((first|apply qT|apply qU);(conv=>lhs;simp only[go_sem])<;>rfl;rfl)|apply qV|apply qW|apply qX|apply qY|apply qZ)
    (with_reducible((first|apply pA|apply pB|apply pC|apply pD|apply pE|((first|apply pF|apply pG);decide +kernel));(conv=>lhs;simp only[go_sem, ibin, ishift])<;>rfl))
    refine CK_pure hrp rfl ?_
    rintro v h' ⟨rfl, rfl⟩
    (with_reducible((first|apply WO2_finw|apply WO2_fina);(conv=>lhs;simp only[go_sem, ibin, ishift])<;>rfl))
    (repeat' with_reducible first |apply qA|apply qB|apply qC|apply qD|apply qE|apply qF|(apply qG;decide)|apply qH|apply qI|apply qJ|apply qK|((first|apply qL|apply qM|apply qN|apply qO|((first|apply qP|apply qQ);decide +kernel));(conv=>lhs;simp only[go_sem, ibin, ishift])<;>rfl)|((first|apply qR|apply qS);(conv=>lhs;simp only[go_sem])<;>rfl;rfl)|((first|apply qT|apply qU);(conv=>lhs;simp only[go_sem])<;>rfl;rfl)|apply qV|apply qW|apply qX|apply qY|apply qZ)
    (repeat' with_reducible first |apply qA|apply qB|apply qC|apply qD|apply qE|apply qF|(apply qG;decide)|apply qH|apply qI|apply qJ|apply qK|apply qX|((first|apply qR|apply qS);(conv=>lhs;simp only[go_sem])<;>rfl;rfl)|((first|apply qT|apply qU);(conv=>lhs;simp only[go_sem])<;>rfl;rfl)|apply qZ|apply qY|apply qW)
    refine W2.weak (Wk.keep [1, 5, 7, 9] rfl) ?_
    refine W2.wview [0, 1, 2, 3] (by decide) rfl (by (conv => lhs; simp only [go_sem, ibin, ishift]) <;> with_reducible rfl) (by (conv => lhs; simp only [go_sem, ibin, ishift]) <;> with_reducible rfl) ?_
    have hC2 : r2.count ≤ ((i + 1 : Nat) : Int) := by omega
    have hdd := hS2.dead_
    have hds := dead_spec c.toTabS s2
    have hos2 := open_spec c.toTabS s2 hS2.len100
    unfold Sn.h Sn.o at hds hos2
    cases hd : r2.dead with
    | true =>
      rw [hd] at hdd
      rw [hdd] at hds ⊢
      (repeat' with_reducible first |apply qA|apply qB|apply qC|apply qD|apply qE|apply qF|(apply qG;decide)|apply qH|apply qI|apply qJ|apply qK|apply qX|((first|apply qR|apply qS);(conv=>lhs;simp only[go_sem])<;>rfl;rfl)|((first|apply qT|apply qU);(conv=>lhs;simp only[go_sem])<;>rfl;rfl)|apply qZ|apply qY|apply qW)
      (with_reducible first | apply W2_sregH [3] [false, false, false, true, false, false, false, false, false, false, false, false, true, false] | apply W2_regH [3] [false, false, false, true, false, false, false, false, false, false, false, false, true, false])
      · decide
      · decide
      · rfl
      ((conv => lhs; simp only [go_sem, ibin, ishift]) <;> with_reducible rfl)
      refine EH_call [1, 2] hds (by decide) (by simp) rfl rfl rfl rfl ?_
      rintro v h' ⟨rfl, rfl⟩
      (with_reducible apply WOH_go (by decide); ((conv => lhs; simp only [go_sem, ibin, ishift]) <;> with_reducible rfl))
      refine EH_go ?_
      (repeat' with_reducible first |apply qA|apply qB|apply qC|apply qD|apply qE|apply qF|(apply qG;decide)|apply qH|apply qI|apply qJ|apply qK|((first|apply qL|apply qM|apply qN|apply qO|((first|apply qP|apply qQ);decide +kernel));(conv=>lhs;simp only[go_sem, ibin, ishift, wj])<;>rfl)|((first|apply qR|apply qS);(conv=>lhs;simp only[go_sem])<;>rfl;rfl)|((first|apply qT|apply qU);(conv=>lhs;simp only[go_sem])<;>rfl;rfl)|apply qV|apply qW|apply qX|apply qY|apply qZ)
      refine ⟨[0, 1, 2, 3], by decide, rfl, ?_⟩
      exact ⟨200 - (i + 1), _, _, by omega, ⟨i + 1, s2, r2, by omega, by omega, rfl, hS2, hC2, rfl, by rw [hd, hdd]⟩, rfl, (by first | rfl | ((conv => lhs; simp only [go_sem, ibin, ishift]) <;> rfl))⟩
    | false =>
      have hE := hS2.eq_ hd
      have hrn := rnumbers_spec c r2 (hE.2.bd (by omega))
      rw [← nums_sn, ← hE.1] at hrn
      unfold Rs.v at hrn
      rw [hd] at hdd hrn
      rw [hdd] at hds hos2 ⊢
      (repeat' with_reducible first |apply qA|apply qB|apply qC|apply qD|apply qE|apply qF|(apply qG;decide)|apply qH|apply qI|apply qJ|apply qK|apply qX|((first|apply qR|apply qS);(conv=>lhs;simp only[go_sem])<;>rfl;rfl)|((first|apply qT|apply qU);(conv=>lhs;simp only[go_sem])<;>rfl;rfl)|apply qZ|apply qY|apply qW)
      (with_reducible first | apply W2_sregH [3] [false, false, false, true, false, false, false, false, false, false, false, false, true, false] | apply W2_regH [3] [false, false, false, true, false, false, false, false, false, false, false, false, true, false])
      · decide
      · decide
      · rfl
      ((conv => lhs; simp only [go_sem, ibin, ishift]) <;> with_reducible rfl)
      refine EH_call [1, 2] hds (by decide) (by simp) rfl rfl rfl rfl ?_
      rintro v h' ⟨rfl, rfl⟩
      (with_reducible apply WOH_go (by decide); ((conv => lhs; simp only [go_sem, ibin, ishift]) <;> with_reducible rfl))
      refine EH_call [1, 2] hos2 (by decide) (by simp) rfl rfl rfl rfl ?_
      rintro v h' ⟨rfl, rfl⟩
      (with_reducible apply WOH_go (by decide); ((conv => lhs; simp only [go_sem, ibin, ishift]) <;> with_reducible rfl))
      refine EH_ck ?_
      refine CK_pure hrn rfl ?_
      rintro v h' ⟨rfl, rfl⟩
      (with_reducible((first|apply pA|apply pB|apply pC|apply pD|apply pE|((first|apply pF|apply pG);decide +kernel));(conv=>lhs;simp only[go_sem, ibin, ishift])<;>rfl))
      refine CK_frz 4 rfl (args' := [.fz 1 ((s2.opn.map Pc.seq).map cU), .fz 1 ((s2.opn.map Pc.seq).map cU)]) (by (conv => lhs; simp only [go_sem, ibin, ishift]) <;> with_reducible rfl) (by (conv => lhs; simp only [go_sem, ibin, ishift]) <;> with_reducible rfl) (by (conv => lhs; simp only [go_sem, ibin, ishift]) <;> with_reducible rfl) ?_
      refine CK_pure (same16_spec c.toTabA _ _ (by rw [List.length_map]; have := hS2.len_; omega)) rfl ?_
      rintro v h' ⟨rfl, rfl⟩
      rw [decide_eq_true rfl]
      (with_reducible((first|apply WO2_finw|apply WO2_fina);(conv=>lhs;simp only[go_sem, ibin, ishift])<;>rfl))
      (repeat' with_reducible first |apply qA|apply qB|apply qC|apply qD|apply qE|apply qF|(apply qG;decide)|apply qH|apply qI|apply qJ|apply qK|((first|apply qL|apply qM|apply qN|apply qO|((first|apply qP|apply qQ);decide +kernel));(conv=>lhs;simp only[go_sem, ibin, ishift, wj])<;>rfl)|((first|apply qR|apply qS);(conv=>lhs;simp only[go_sem])<;>rfl;rfl)|((first|apply qT|apply qU);(conv=>lhs;simp only[go_sem])<;>rfl;rfl)|apply qV|apply qW|apply qX|apply qY|apply qZ)
      refine ⟨[0, 1, 2, 3], by decide, rfl, ?_⟩
      exact ⟨200 - (i + 1), _, _, by omega, ⟨i + 1, s2, r2, by omega, by omega, rfl, hS2, hC2, rfl, by rw [hd, hdd]⟩, rfl, (by first | rfl | ((conv => lhs; simp only [go_sem, ibin, ishift]) <;> rfl))⟩
  have zk4 : decide (o.kind = 4) = false := decide_eq_false k4
  rw [zk4]
  (repeat' with_reducible first |apply qA|apply qB|apply qC|apply qD|apply qE|apply qF|(apply qG;decide)|apply qH|apply qI|apply qJ|apply qK|((first|apply qL|apply qM|apply qN|apply qO|((first|apply qP|apply qQ);decide +kernel));(conv=>lhs;simp only[go_sem, ibin, ishift])<;>rfl)|((first|apply qR|apply qS);(conv=>lhs;simp only[go_sem])<;>rfl;rfl)|((first|apply qT|apply qU);(conv=>lhs;simp only[go_sem])<;>rfl;rfl)|apply qV|apply qW|apply qX|apply qY|apply qZ)
  (repeat' with_reducible first |apply qA|apply qB|apply qC|apply qD|apply qE|apply qF|(apply qG;decide)|apply qH|apply qI|apply qJ|apply qK|apply qX|((first|apply qR|apply qS);(conv=>lhs;simp only[go_sem])<;>rfl;rfl)|((first|apply qT|apply qU);(conv=>lhs;simp only[go_sem])<;>rfl;rfl)|apply qZ|apply qY|apply qW)
  refine W2.weak (Wk.keep [1, 5, 7, 9] rfl) ?_
  refine W2.wview [0, 1, 2, 3] (by decide) rfl (by (conv => lhs; simp only [go_sem, ibin, ishift]) <;> with_reducible rfl) (by (conv => lhs; simp only [go_sem, ibin, ishift]) <;> with_reducible rfl) ?_
  have hC2 : r.count ≤ ((i + 1 : Nat) : Int) := by omega
  have hS2 := hS
  have hdd := hS2.dead_
  have hds := dead_spec c.toTabS s
  have hos2 := open_spec c.toTabS s hS2.len100
  unfold Sn.h Sn.o at hds hos2
  cases hd : r.dead with
  | true =>
    rw [hd] at hdd
    rw [hdd] at hds ⊢
    (repeat' with_reducible first |apply qA|apply qB|apply qC|apply qD|apply qE|apply qF|(apply qG;decide)|apply qH|apply qI|apply qJ|apply qK|apply qX|((first|apply qR|apply qS);(conv=>lhs;simp only[go_sem])<;>rfl;rfl)|((first|apply qT|apply qU);(conv=>lhs;simp only[go_sem])<;>rfl;rfl)|apply qZ|apply qY|apply qW)
    (with_reducible first | apply W2_sregH [3] [false, false, false, true, false, false, false, false, false, false, false, false, true, false] | apply W2_regH [3] [false, false, false, true, false, false, false, false, false, false, false, false, true, false])
    · decide
    · decide
    · rfl
    ((conv => lhs; simp only [go_sem, ibin, ishift]) <;> with_reducible rfl)
    refine EH_call [1, 2] hds (by decide) (by simp) rfl rfl rfl rfl ?_
    rintro v h' ⟨rfl, rfl⟩
    (with_reducible apply WOH_go (by decide); ((conv => lhs; simp only [go_sem, ibin, ishift]) <;> with_reducible rfl))
    refine EH_go ?_
    (repeat' with_reducible first |apply qA|apply qB|apply qC|apply qD|apply qE|apply qF|(apply qG;decide)|apply qH|apply qI|apply qJ|apply qK|((first|apply qL|apply qM|apply qN|apply qO|((first|apply qP|apply qQ);decide +kernel));(conv=>lhs;simp only[go_sem, ibin, ishift, wj])<;>rfl)|((first|apply qR|apply qS);(conv=>lhs;simp only[go_sem])<;>rfl;rfl)|((first|apply qT|apply qU);(conv=>lhs;simp only[go_sem])<;>rfl;rfl)|apply qV|apply qW|apply qX|apply qY|apply qZ)
    refine ⟨[0, 1, 2, 3], by decide, rfl, ?_⟩
    exact ⟨200 - (i + 1), _, _, by omega, ⟨i + 1, s, r, by omega, by omega, rfl, hS2, hC2, rfl, by rw [hd, hdd]⟩, rfl, (by first | rfl | ((conv => lhs; simp only [go_sem, ibin, ishift]) <;> rfl))⟩
  | false =>
    have hE := hS2.eq_ hd
    have hrn := rnumbers_spec c r (hE.2.bd (by omega))
    rw [← nums_sn, ← hE.1] at hrn
    unfold Rs.v at hrn
    rw [hd] at hdd hrn
    rw [hdd] at hds hos2 ⊢
    (repeat' with_reducible first |apply qA|apply qB|apply qC|apply qD|apply qE|apply qF|(apply qG;decide)|apply qH|apply qI|apply qJ|apply qK|apply qX|((first|apply qR|apply qS);(conv=>lhs;simp only[go_sem])<;>rfl;rfl)|((first|apply qT|apply qU);(conv=>lhs;simp only[go_sem])<;>rfl;rfl)|apply qZ|apply qY|apply qW)
    (with_reducible first | apply W2_sregH [3] [false, false, false, true, false, false, false, false, false, false, false, false, true, false] | apply W2_regH [3] [false, false, false, true, false, false, false, false, false, false, false, false, true, false])
    · decide
    · decide
    · rfl
    ((conv => lhs; simp only [go_sem, ibin, ishift]) <;> with_reducible rfl)
    refine EH_call [1, 2] hds (by decide) (by simp) rfl rfl rfl rfl ?_
    rintro v h' ⟨rfl, rfl⟩
    (with_reducible apply WOH_go (by decide); ((conv => lhs; simp only [go_sem, ibin, ishift]) <;> with_reducible rfl))
    refine EH_call [1, 2] hos2 (by decide) (by simp) rfl rfl rfl rfl ?_
    rintro v h' ⟨rfl, rfl⟩
    (with_reducible apply WOH_go (by decide); ((conv => lhs; simp only [go_sem, ibin, ishift]) <;> with_reducible rfl))
    refine EH_ck ?_
    refine CK_pure hrn rfl ?_
    rintro v h' ⟨rfl, rfl⟩
    (with_reducible((first|apply pA|apply pB|apply pC|apply pD|apply pE|((first|apply pF|apply pG);decide +kernel));(conv=>lhs;simp only[go_sem, ibin, ishift])<;>rfl))
    refine CK_frz 4 rfl (args' := [.fz 1 ((s.opn.map Pc.seq).map cU), .fz 1 ((s.opn.map Pc.seq).map cU)]) (by (conv => lhs; simp only [go_sem, ibin, ishift]) <;> with_reducible rfl) (by (conv => lhs; simp only [go_sem, ibin, ishift]) <;> with_reducible rfl) (by (conv => lhs; simp only [go_sem, ibin, ishift]) <;> with_reducible rfl) ?_
    refine CK_pure (same16_spec c.toTabA _ _ (by rw [List.length_map]; have := hS2.len_; omega)) rfl ?_
    rintro v h' ⟨rfl, rfl⟩
    rw [decide_eq_true rfl]
    (with_reducible((first|apply WO2_finw|apply WO2_fina);(conv=>lhs;simp only[go_sem, ibin, ishift])<;>rfl))
    (repeat' with_reducible first |apply qA|apply qB|apply qC|apply qD|apply qE|apply qF|(apply qG;decide)|apply qH|apply qI|apply qJ|apply qK|((first|apply qL|apply qM|apply qN|apply qO|((first|apply qP|apply qQ);decide +kernel));(conv=>lhs;simp only[go_sem, ibin, ishift, wj])<;>rfl)|((first|apply qR|apply qS);(conv=>lhs;simp only[go_sem])<;>rfl;rfl)|((first|apply qT|apply qU);(conv=>lhs;simp only[go_sem])<;>rfl;rfl)|apply qV|apply qW|apply qX|apply qY|apply qZ)
    refine ⟨[0, 1, 2, 3], by decide, rfl, ?_⟩
    exact ⟨200 - (i + 1), _, _, by omega, ⟨i + 1, s, r, by omega, by omega, rfl, hS2, hC2, rfl, by rw [hd, hdd]⟩, rfl, (by first | rfl | ((conv => lhs; simp only [go_sem, ibin, ishift]) <;> rfl))⟩
end Go.Proofs.Ytadbipeachcekaa.Ab
