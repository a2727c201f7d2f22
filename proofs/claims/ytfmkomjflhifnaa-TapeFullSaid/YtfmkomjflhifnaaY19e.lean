/- Chapter 19 (as 18): notes one behind the other. -/
import Derived.Test.YtfmkomjflhifnaaY19d
namespace Go.Proofs.Ytfmkomjflhifnaa.Ab
open Go
set_option linter.unusedVariables false
set_option linter.unusedSimpArgs false
variable {T : AT}
def encsB (l : List Nt) : List UInt8 := l.flatMap encB
theorem encsB_take {l : List Nt} {j : Nat} (hj : j < l.length) : encsB (l.take (j + 1)) = encsB (l.take j) ++ encB l[j] := by
  simp only [encsB]
  rw [List.take_add_one, List.getElem?_eq_getElem hj]
  simp only [Option.toList_some, List.flatMap_append, List.flatMap_cons, List.flatMap_nil, List.append_nil]
theorem encB_le {n : Nt} (hg : goodN n) : (encB n).length ≤ 19 ∧ 4 ≤ (encB n).length := by
  have := body_len hg
  rw [enc_len2]; omega
theorem encsB_le : ∀ {l : List Nt}, (∀ n ∈ l, goodN n) → (encsB l).length ≤ 19 * l.length
  | [], _ => by simp [encsB]
  | n :: l, h => by
    have h1 := (encB_le (h n (.head _))).1
    have h2 := encsB_le (l := l) fun m hm => h m (.tail _ hm)
    simp only [encsB, List.flatMap_cons, List.length_append, List.length_cons] at h2 ⊢
    omega
structure TabN (T : AT) : Prop extends TabD T where
  write : T i_note_Write = some (.fn c_note_Write)
  read : T i_note_Read = some (.fn c_note_Read)
theorem write_spec (t : TabN T) (l : List Nt) (hl : l.length ≤ 1000000) : Ret2 T 0 i_note_Write [.fz 4 (l.map cN)] [] (fun v h' =>
    ((∀ n ∈ l, goodN n) → v = .tup [.sl 1 0 0 (encsB l).length none, .i .i64 0] ∧ h' = [some (.arr 1 ((encsB l).map c8))]) ∧ (¬ (∀ n ∈ l, goodN n) → v = .tup [.nils, .i .i64 180] ∧ h' = [])) := by
  refine Ret2_fnv t.write rfl rfl ?_
  refine W2_sra (by (conv => lhs; simp only [go_sem, ibin, ishift]) <;> with_reducible rfl) (W2_sra (by (conv => lhs; simp only [go_sem, ibin, ishift]) <;> with_reducible rfl) ?_)
  refine W2.wnil 4 1 rfl (by (conv => lhs; simp only [go_sem, ibin, ishift]) <;> with_reducible rfl) (by (conv => lhs; simp only [go_sem, ibin, ishift]) <;> with_reducible rfl) ?_
  (repeat' with_reducible first |apply qA|apply qB|apply qC|apply qD|apply qE|apply qF|(apply qG;decide)|apply qH|apply qI|apply qJ|apply qK|((first|apply qL|apply qM|apply qN|apply qO|((first|apply qP|apply qQ);decide +kernel));(conv=>lhs;simp only[go_sem, ibin, ishift])<;>rfl)|((first|apply qR|apply qS);(conv=>lhs;simp only[go_sem])<;>rfl;rfl)|((first|apply qT|apply qU);(conv=>lhs;simp only[go_sem])<;>rfl;rfl)|apply qV|apply qW|apply qX|apply qY|apply qZ)
  refine W2_loopv (fun m e h => ∃ j, j + m = l.length ∧ (∀ n ∈ l.take j, goodN n) ∧ e = [(4, .sl 1 0 0 (encsB (l.take j)).length none), (9, .fz 4 (l.map cN)), (10, .i .i64 l.length), (11, .i .i64 j)] ∧ h = [some (.arr 1 ((encsB (l.take j)).map c8))]) l.length ⟨0, by omega, by simp, rfl, rfl⟩ ?_
  rintro m e h ⟨j, hj, hgood, rfl, rfl⟩
  (repeat' with_reducible first |apply qA|apply qB|apply qC|apply qD|apply qE|apply qF|(apply qG;decide)|apply qH|apply qI|apply qJ|apply qK|((first|apply qL|apply qM|apply qN|apply qO|((first|apply qP|apply qQ);decide +kernel));(conv=>lhs;simp only[go_sem, ibin, ishift])<;>rfl)|((first|apply qR|apply qS);(conv=>lhs;simp only[go_sem])<;>rfl;rfl)|((first|apply qT|apply qU);(conv=>lhs;simp only[go_sem])<;>rfl;rfl)|apply qV|apply qW|apply qX|apply qY|apply qZ)
  (((first | with_reducible apply W2_sc | with_reducible apply W2_cond); ((conv => lhs; simp only [go_sem]) <;> with_reducible rfl)) <;> intro hx <;> (try rw [hx]) <;> simp only [Bool.or_eq_true, Bool.and_eq_true, decide_eq_true_eq, Bool.or_eq_false_iff, Bool.and_eq_false_iff, decide_eq_false_iff_not, Bool.not_eq_true', Bool.not_eq_false', bne_iff_ne, beq_iff_eq, not_or, not_and, Decidable.not_not, ne_eq, gt_iff_lt, ge_iff_le, Int.not_lt, Int.not_le] at hx)
  · have hjl : j < l.length := by omega
    have hg := List.getElem?_eq_getElem hjl
    have hm := List.getElem_mem hjl
    have hlen := encsB_le hgood
    have htl : (l.take j).length = j := by simp; omega
    generalize hn : l[j] = n at hg hm
    (repeat' with_reducible first |apply qA|apply qB|apply qC|apply qD|apply qE|apply qF|(apply qG;decide)|apply qH|apply qI|apply qJ|apply qK|((first|apply qL|apply qM|apply qN|apply qO|((first|apply qP|apply qQ);decide +kernel));(conv=>lhs;simp only[go_sem, ibin, ishift, hg, cN])<;>rfl)|((first|apply qR|apply qS);(conv=>lhs;simp only[go_sem])<;>rfl;rfl)|((first|apply qT|apply qU);(conv=>lhs;simp only[go_sem])<;>rfl;rfl)|apply qV|apply qW|apply qX|apply qY|apply qZ)
    (with_reducible((first|apply pA|apply pB|apply pC|apply pD|apply pE|((first|apply pF|apply pG);decide +kernel));(conv=>lhs;simp only[go_sem, ibin, ishift])<;>rfl))
    refine CK_pure (encode_spec t.toTab18 n) rfl ?_
    rintro v h' ⟨h1, h2⟩
    rcases Decidable.em (goodN n) with g | g
    · obtain ⟨rfl, rfl⟩ := h1 g
      have hroom : (encsB (l.take j)).length + (encB n).length ≤ room := by
        have := (encB_le g).1
        simp only [room]; omega
      have hs : encsB (l.take (j + 1)) = encsB (l.take j) ++ encB n := by rw [encsB_take hjl, hn]
      (with_reducible((first|apply WO2_finw|apply WO2_fina);(conv=>lhs;simp only[go_sem, ibin, ishift])<;>rfl))
      (repeat' with_reducible first |apply qA|apply qB|apply qC|apply qD|apply qE|apply qF|(apply qG;decide)|apply qH|apply qI|apply qJ|apply qK|((first|apply qL|apply qM|apply qN|apply qO|((first|apply qP|apply qQ);decide +kernel));(conv=>lhs;simp only[go_sem, ibin, ishift, hroom, Int.reduceEq, wS (show j < 9223372036854775807 by omega)])<;>rfl)|((first|apply qR|apply qS);(conv=>lhs;simp only[go_sem])<;>rfl;rfl)|((first|apply qT|apply qU);(conv=>lhs;simp only[go_sem])<;>rfl;rfl)|apply qV|apply qW|apply qX|apply qY|apply qZ)
      refine ⟨[3], by decide, rfl, ?_⟩
      refine ⟨l.length - (j + 1), by omega, j + 1, by omega, fun n' hn' => ?_, (by rw [hs, List.length_append]; first | rfl | ((conv => lhs; simp only [go_sem, ibin, ishift]) <;> rfl)), (by rw [hs, List.map_append]; first | rfl | ((conv => lhs; simp only [go_sem, ibin, ishift]) <;> rfl))⟩
      rw [List.take_add_one, List.getElem?_eq_getElem hjl] at hn'
      simp only [Option.toList_some, List.mem_append, List.mem_singleton] at hn'
      rcases hn' with h | h
      · exact hgood _ h
      · rw [h, hn]; exact g
    · obtain ⟨rfl, rfl⟩ := h2 g
      (with_reducible((first|apply WO2_finw|apply WO2_fina);(conv=>lhs;simp only[go_sem, ibin, ishift])<;>rfl))
      (repeat' with_reducible first |apply qA|apply qB|apply qC|apply qD|apply qE|apply qF|(apply qG;decide)|apply qH|apply qI|apply qJ|apply qK|((first|apply qL|apply qM|apply qN|apply qO|((first|apply qP|apply qQ);decide +kernel));(conv=>lhs;simp only[go_sem, ibin, ishift, Int.reduceEq])<;>rfl)|((first|apply qR|apply qS);(conv=>lhs;simp only[go_sem])<;>rfl;rfl)|((first|apply qT|apply qU);(conv=>lhs;simp only[go_sem])<;>rfl;rfl)|apply qV|apply qW|apply qX|apply qY|apply qZ)
      refine ⟨by first | exact .inr rfl | exact .inl rfl, _, _, (by (conv => lhs; simp only [go_sem, ibin, ishift]) <;> with_reducible rfl), (by (conv => lhs; simp only [go_sem, ibin, ishift]) <;> with_reducible rfl), ?_⟩
      refine ⟨[], by decide, rfl, ?_⟩
      exact ⟨fun hh => (g (hh n hm)).elim, fun _ => ⟨rfl, rfl⟩⟩
  · have : j = l.length := by omega
    subst this
    rw [List.take_length] at *
    (repeat' with_reducible first |apply qA|apply qB|apply qC|apply qD|apply qE|apply qF|(apply qG;decide)|apply qH|apply qI|apply qJ|apply qK|((first|apply qL|apply qM|apply qN|apply qO|((first|apply qP|apply qQ);decide +kernel));(conv=>lhs;simp only[go_sem, ibin, ishift])<;>rfl)|((first|apply qR|apply qS);(conv=>lhs;simp only[go_sem])<;>rfl;rfl)|((first|apply qT|apply qU);(conv=>lhs;simp only[go_sem])<;>rfl;rfl)|apply qV|apply qW|apply qX|apply qY|apply qZ)
    refine ⟨by first | exact .inr rfl | exact .inl rfl, _, _, (by (conv => lhs; simp only [go_sem, ibin, ishift]) <;> with_reducible rfl), (by (conv => lhs; simp only [go_sem, ibin, ishift]) <;> with_reducible rfl), ?_⟩
    refine ⟨[0], by decide, rfl, ?_⟩
    exact ⟨fun _ => ⟨rfl, rfl⟩, fun h => (h hgood).elim⟩
/-- the notes that bytes begin with -/
def ReadR (b : List UInt8) (l : List Nt) : Prop := (∀ n ∈ l, goodN n) ∧ encsB l <+: b ∧ ∀ n, goodN n → ¬ encB n <+: b.drop (encsB l).length
theorem read_spec (t : TabN T) (b : List UInt8) (hb : b.length ≤ 1000000) : Ret2 T 0 i_note_Read [.fz 1 (b.map c8)] [] (fun v h' =>
    ∃ l, ReadR b l ∧ v = .tup [.sl 4 0 0 l.length none, .i .i64 (encsB l).length] ∧ h' = [some (.arr 4 (l.map cN))]) := by
  refine Ret2_fnv t.read rfl rfl ?_
  refine W2_sra (by (conv => lhs; simp only [go_sem, ibin, ishift]) <;> with_reducible rfl) (W2_sra (by (conv => lhs; simp only [go_sem, ibin, ishift]) <;> with_reducible rfl) ?_)
  refine W2.wnil 4 4 rfl (by (conv => lhs; simp only [go_sem, ibin, ishift]) <;> with_reducible rfl) (by (conv => lhs; simp only [go_sem, ibin, ishift]) <;> with_reducible rfl) ?_
  (repeat' with_reducible first |apply qA|apply qB|apply qC|apply qD|apply qE|apply qF|(apply qG;decide)|apply qH|apply qI|apply qJ|apply qK|((first|apply qL|apply qM|apply qN|apply qO|((first|apply qP|apply qQ);decide +kernel));(conv=>lhs;simp only[go_sem, ibin, ishift])<;>rfl)|((first|apply qR|apply qS);(conv=>lhs;simp only[go_sem])<;>rfl;rfl)|((first|apply qT|apply qU);(conv=>lhs;simp only[go_sem])<;>rfl;rfl)|apply qV|apply qW|apply qX|apply qY|apply qZ)
  refine W2_loopv (fun m e h => ∃ l, (encsB l).length + m = b.length ∧ 4 * l.length ≤ (encsB l).length ∧ (∀ n ∈ l, goodN n) ∧ encsB l <+: b ∧ e = [(0, .fz 1 (b.map c8)), (4, .sl 4 0 0 l.length none), (5, .i .i64 (encsB l).length)] ∧ h = [some (.arr 4 (l.map cN))]) b.length ⟨[], by simp [encsB], by simp, by simp, by simp [encsB], rfl, rfl⟩ ?_
  rintro m e h ⟨l, hm, h4, hgood, hpre, rfl, rfl⟩
  have hat : ((encsB l).length : Int) ≤ (b.length : Nat) := by omega
  (repeat' with_reducible first |apply qA|apply qB|apply qC|apply qD|apply qE|apply qF|(apply qG;decide)|apply qH|apply qI|apply qJ|apply qK|((first|apply qL|apply qM|apply qN|apply qO|((first|apply qP|apply qQ);decide +kernel));(conv=>lhs;simp only[go_sem, ibin, ishift])<;>rfl)|((first|apply qR|apply qS);(conv=>lhs;simp only[go_sem])<;>rfl;rfl)|((first|apply qT|apply qU);(conv=>lhs;simp only[go_sem])<;>rfl;rfl)|apply qV|apply qW|apply qX|apply qY|apply qZ)
  (with_reducible((first|apply pA|apply pB|apply pC|apply pD|apply pE|((first|apply pF|apply pG);decide +kernel));(conv=>lhs;simp only[go_sem, ibin, ishift, hat])<;>rfl))
  refine CK_pure (decode_spec t.toTabD (b.drop (encsB l).length) (by simp; omega)) rfl ?_
  rintro v h' ⟨rfl, hd⟩
  rcases hd with ⟨n, hg, hp, rfl⟩ | ⟨hno, rfl⟩
  · have hne := encB_le hg
    have hle := hp.length_le
    rw [List.length_drop] at hle
    have hs : encsB (l ++ [n]) = encsB l ++ encB n := by simp [encsB]
    have hroom : (l.length + 1) * 32 ≤ room := by simp only [room]; omega
    have e1 : IntKind.i64.wrap (((encsB l).length : Int) + ((encB n).length : Nat)) = ((encsB (l ++ [n])).length : Nat) := by
      rw [hs, List.length_append, wi _ (by omega) (by omega)]; omega
    (with_reducible((first|apply WO2_finw|apply WO2_fina);(conv=>lhs;simp only[go_sem, ibin, ishift, cN])<;>rfl))
    (repeat' with_reducible first |apply qA|apply qB|apply qC|apply qD|apply qE|apply qF|(apply qG;decide)|apply qH|apply qI|apply qJ|apply qK|((first|apply qL|apply qM|apply qN|apply qO|((first|apply qP|apply qQ);decide +kernel));(conv=>lhs;simp only[go_sem, ibin, ishift, hroom, Int.reduceEq, e1])<;>rfl)|((first|apply qR|apply qS);(conv=>lhs;simp only[go_sem])<;>rfl;rfl)|((first|apply qT|apply qU);(conv=>lhs;simp only[go_sem])<;>rfl;rfl)|apply qV|apply qW|apply qX|apply qY|apply qZ)
    refine ⟨[3], by decide, rfl, ?_⟩
    refine ⟨b.length - (encsB (l ++ [n])).length, by rw [hs, List.length_append]; omega, l ++ [n], by rw [hs, List.length_append]; omega, by rw [hs, List.length_append, List.length_append]; simp; omega, ?_, ?_, (by (try simp only [List.map_append, List.length_append, List.map_cons, List.map_nil, List.length_cons, List.length_nil, Nat.zero_add]); rfl), (by (try simp only [List.map_append, List.length_append, List.map_cons, List.map_nil, List.length_cons, List.length_nil, Nat.zero_add]); rfl)⟩
    · intro m hm
      rcases List.mem_append.1 hm with h | h
      · exact hgood m h
      · rw [List.mem_singleton.1 h]; exact hg
    · rw [hs]
      obtain ⟨r1, h1⟩ := hpre
      obtain ⟨r2, h2⟩ := hp
      rw [← h1, List.drop_left] at h2
      exact ⟨r2, by rw [List.append_assoc, h2, h1]⟩
  · (with_reducible((first|apply WO2_finw|apply WO2_fina);(conv=>lhs;simp only[go_sem, ibin, ishift])<;>rfl))
    (repeat' with_reducible first |apply qA|apply qB|apply qC|apply qD|apply qE|apply qF|(apply qG;decide)|apply qH|apply qI|apply qJ|apply qK|((first|apply qL|apply qM|apply qN|apply qO|((first|apply qP|apply qQ);decide +kernel));(conv=>lhs;simp only[go_sem, ibin, ishift, Int.reduceEq])<;>rfl)|((first|apply qR|apply qS);(conv=>lhs;simp only[go_sem])<;>rfl;rfl)|((first|apply qT|apply qU);(conv=>lhs;simp only[go_sem])<;>rfl;rfl)|apply qV|apply qW|apply qX|apply qY|apply qZ)
    refine ⟨by first | exact .inr rfl | exact .inl rfl, _, _, (by (conv => lhs; simp only [go_sem, ibin, ishift]) <;> with_reducible rfl), (by (conv => lhs; simp only [go_sem, ibin, ishift]) <;> with_reducible rfl), ?_⟩
    refine ⟨[0], by decide, rfl, ?_⟩
    exact ⟨l, ⟨hgood, hpre, hno⟩, rfl, rfl⟩
/-- bytes begin with one note at most, and with one list of notes -/
theorem enc_unique {b : List UInt8} {n m : Nt} (hn : goodN n) (hm : goodN m) (h1 : encB n <+: b) (h2 : encB m <+: b) : n = m := by
  obtain ⟨x, y, r, e1, _, _, _, e5⟩ := cand_enc hn h1
  obtain ⟨x', y', r', f1, _, _, _, f5⟩ := cand_enc hm h2
  rw [e1] at f1
  cases f1
  rw [← e5, ← f5]
theorem encs_cons (n : Nt) (l : List Nt) : encsB (n :: l) = encB n ++ encsB l := rfl
theorem pre_of_append {α : Type} {a c b : List α} (h : a ++ c <+: b) : a <+: b ∧ c <+: b.drop a.length := by
  obtain ⟨r, hr⟩ := h
  rw [← hr, List.append_assoc]
  exact ⟨⟨_, rfl⟩, by rw [List.drop_left]; exact ⟨r, rfl⟩⟩
theorem read_unique : ∀ {b : List UInt8} {l l' : List Nt}, ReadR b l → ReadR b l' → l = l'
  | b, [], [], _, _ => rfl
  | b, n :: l, [], h, h' => by
    rw [ReadR, encs_cons] at h
    have := h'.2.2 n (h.1 n (.head _))
    exact (this (by simpa [encsB] using (pre_of_append h.2.1).1)).elim
  | b, [], n :: l, h', h => by
    rw [ReadR, encs_cons] at h
    have := h'.2.2 n (h.1 n (.head _))
    exact (this (by simpa [encsB] using (pre_of_append h.2.1).1)).elim
  | b, n :: l, m :: l', h, h' => by
    rw [ReadR, encs_cons] at h h'
    obtain rfl := enc_unique (h.1 n (.head _)) (h'.1 m (.head _)) (pre_of_append h.2.1).1 (pre_of_append h'.2.1).1
    have e : ∀ l : List Nt, b.drop (encB n ++ encsB l).length = (b.drop (encB n).length).drop (encsB l).length := fun l => by rw [List.drop_drop, List.length_append]
    rw [e] at h h'
    rw [read_unique (b := b.drop (encB n).length) ⟨fun k hk => h.1 k (.tail _ hk), (pre_of_append h.2.1).2, h.2.2⟩ ⟨fun k hk => h'.1 k (.tail _ hk), (pre_of_append h'.2.1).2, h'.2.2⟩]
end Go.Proofs.Ytfmkomjflhifnaa.Ab
