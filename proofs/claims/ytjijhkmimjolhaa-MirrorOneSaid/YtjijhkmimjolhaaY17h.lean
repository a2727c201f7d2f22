/- Chapter 17: MirrorMasks. -/
import Derived.Test.YtjijhkmimjolhaaY17g
namespace Go.Proofs.Ytjijhkmimjolhaa.Ab
open Go
set_option linter.unusedVariables false
set_option linter.unusedSimpArgs false
variable {T : AT}
theorem u64_wrap (x : Int) : IntKind.u64.wrap x = x % 18446744073709551616 := rfl
/-- the places of what is true -/
def dnB : List Bool → Nat → List Int
  | [], _ => []
  | x :: r, j => if x = true then (j : Int) :: dnB r (j + 1) else dnB r (j + 1)
theorem dn_B : ∀ (l : List Md) (k : Nat), dn l k = dnB (l.map Md.down) k
  | [], k => rfl
  | x :: l, k => by rw [dn, List.map_cons, dnB, dn_B l (k + 1)]
theorem dnB_ge : ∀ {l : List Bool} {k : Nat} {v : Int}, v ∈ dnB l k → (k : Int) ≤ v
  | [], k, v, h => by simp [dnB] at h
  | x :: l, k, v, h => by
    rw [dnB] at h
    split at h
    · rcases List.mem_cons.1 h with rfl | h
      · exact Int.le_refl _
      · have := dnB_ge h; omega
    · have := dnB_ge h; omega
theorem dnB_mem : ∀ {l : List Bool} {k j : Nat}, l[j]? = some true → ((k + j : Nat) : Int) ∈ dnB l k
  | [], k, j, h => by simp at h
  | x :: l, k, 0, h => by
    simp at h; subst h
    rw [dnB, if_pos rfl]; exact .head _
  | x :: l, k, j + 1, h => by
    have := dnB_mem (k := k + 1) (show l[j]? = some true by simpa using h)
    rw [show k + 1 + j = k + (j + 1) by omega] at this
    rw [dnB]
    split
    · exact .tail _ this
    · exact this
theorem dnB_off : ∀ {l : List Bool} {k j : Nat}, dnB (l.set j false) k = (dnB l k).filter fun v => !decide (v = ((k + j : Nat) : Int))
  | [], k, j => by simp [dnB]
  | x :: l, k, 0 => by
    have hn : (dnB l (k + 1)).filter (fun v => !decide (v = ((k + 0 : Nat) : Int))) = dnB l (k + 1) := List.filter_eq_self.2 fun v hv => by
      have := dnB_ge hv
      simp; omega
    rw [List.set_cons_zero, dnB, dnB]
    cases x
    · simp only [Bool.false_eq_true, if_false]; exact hn.symm
    · simp only [Bool.false_eq_true, if_false, if_true]
      rw [List.filter_cons_of_neg (by simp)]; exact hn.symm
  | x :: l, k, j + 1 => by
    have ih := dnB_off (l := l) (k := k + 1) (j := j)
    rw [show k + 1 + j = k + (j + 1) by omega] at ih
    rw [List.set_cons_succ, dnB, dnB]
    cases x
    · simp only [Bool.false_eq_true, if_false]; exact ih
    · simp only [if_true]
      rw [List.filter_cons_of_pos (by simp; omega), ih]
/-- what a mirror is told by notes -/
structure Fed (l : Lay) (m : Mi) : Prop where
  ok : m.Ok
  es : m.es = l.es
  al : m.at_.length = l.ns.length
  tt : ∀ (j : Nat) (d : Md), m.ds[j]? = some d → d.tote = 0 ∨ 1 ≤ d.tote ∧ d.tote ≤ 30
theorem tt_set {l : List Md} {j : Nat} {y : Md} (h : ∀ (j : Nat) (d : Md), l[j]? = some d → d.tote = 0 ∨ 1 ≤ d.tote ∧ d.tote ≤ 30) (hy : y.tote = 0 ∨ 1 ≤ y.tote ∧ y.tote ≤ 30) : ∀ (i : Nat) (d : Md), (l.set j y)[i]? = some d → d.tote = 0 ∨ 1 ≤ d.tote ∧ d.tote ≤ 30 := fun i d hd => by
  by_cases e : j = i
  · subst e
    rw [List.getElem?_set] at hd
    simp only [if_true] at hd
    split at hd
    · cases hd; exact hy
    · cases hd
  · rw [List.getElem?_set_ne e] at hd; exact h i d hd
theorem Fed.apply {l : Lay} {m : Mi} (h : Fed l m) (n : Nt) : Fed l (m.apply n).1 := by
  have ok := Mi.apply_ok h.ok n
  unfold Mi.apply at ok ⊢
  split at ok
  · rename_i k; simp only [k, if_true]
    rcases m.put_cases n.a n.b with q | ⟨_, _, _, _, q⟩
    · rw [q.2]; exact h
    · rw [q] at ok ⊢; exact ⟨ok, h.es, by simp only [List.length_set]; exact h.al, h.tt⟩
  rename_i k1
  rw [if_neg k1]
  split at ok
  · rename_i k; rw [if_pos k]
    rcases m.send_cases n.a n.b n.c with q | ⟨x, e, ht, _, _, _, _, _, _, _, _, _, _, q⟩
    · rw [q.2]; exact h
    · rw [q] at ok ⊢; exact ⟨ok, h.es, h.al, tt_set h.tt (.inr (noTote_in ht))⟩
  rename_i k2
  rw [if_neg k2]
  split at ok
  · rename_i k; rw [if_pos k]
    rcases m.moved_cases n.a n.b with q | ⟨x, e, _, _, _, _, _, _, q⟩
    · rw [q.2]; exact h
    · rw [q] at ok ⊢; exact ⟨ok, h.es, by simp only [List.length_set]; exact h.al, tt_set h.tt (.inl rfl)⟩
  rename_i k3
  rw [if_neg k3]
  split at ok
  · rename_i k; rw [if_pos k]
    rcases m.drop_cases n.a with q | ⟨x, _, _, _, q⟩
    · rw [q.2]; exact h
    · rw [q] at ok ⊢; exact ⟨ok, h.es, h.al, tt_set h.tt (.inl rfl)⟩
  rename_i k4
  rw [if_neg k4]
  split at ok
  · rename_i k; rw [if_pos k]
    rcases m.mask_cases n.a (decide (n.b = 1)) with q | ⟨x, _, hx, q⟩
    · rw [q.2]; exact h
    · rw [q] at ok ⊢; exact ⟨ok, h.es, h.al, tt_set h.tt (h.tt _ x hx)⟩
  · rename_i k; rw [if_neg k]; exact h
theorem Mi.mask_do {m : Mi} {d : Int} (hn : m.noDev d = false) {x : Md} (hx : m.ds[d.toNat]? = some x) (b : Bool) : m.mask d b = (⟨m.es, m.w, m.at_, m.ds.set d.toNat ⟨x.tote, x.seq, x.ever, b⟩⟩, 0) := by
  rw [Mi.mask, if_neg (by rw [hn]; decide)]; simp only [hx]
/-- a device is put out of order: it is told nothing, and what it was told stays -/
theorem Fed.masked {l : Lay} {m : Mi} (h : Fed l m) {D : Int} (hD : 1 ≤ D ∧ D ≤ l.es.length) : ∃ m1, m.mask D true = (m1, 0) ∧ Fed l m1 ∧ (m1.send D 1 0) = (m1, 140) ∧ m1.told D = m.told D ∧ m1.ds.map Md.down = (m.ds.map Md.down).set D.toNat true ∧ D.toNat < m.ds.length ∧
    ((m.told D).2.2 = true → ∃ m2 e, l.es[(D - 1).toNat]? = some e ∧ m1.moved D (m.told D).1 = (m2, 0) ∧ Fed l m2 ∧ m2.loc (m.told D).1 = e.b ∧ m2.ds.map Md.down = m1.ds.map Md.down) := by
  have hdl := h.ok.dl
  rw [h.es] at hdl
  have hn := noDev_out (m := m) (d := D) (by omega)
  obtain ⟨_, _, _, d3, x, hx⟩ := Mi.dev hn
  have hm := Mi.mask_do hn hx true
  have ok1 := Mi.mask_ok h.ok D true
  rw [hm] at ok1
  have hn1 : (Mi.mk m.es m.w m.at_ (m.ds.set D.toNat ⟨x.tote, x.seq, x.ever, true⟩)).noDev D = false := noDev_out (by simp only [List.length_set]; omega)
  have hx1 : (m.ds.set D.toNat ⟨x.tote, x.seq, x.ever, true⟩)[D.toNat]? = some ⟨x.tote, x.seq, x.ever, true⟩ := List.getElem?_set_self d3
  have r2 : (D - 1).toNat < l.es.length := by omega
  obtain ⟨e, he⟩ : ∃ e, l.es[(D - 1).toNat]? = some e := ⟨_, List.getElem?_eq_getElem r2⟩
  have hF : Fed l ⟨m.es, m.w, m.at_, m.ds.set D.toNat ⟨x.tote, x.seq, x.ever, true⟩⟩ := ⟨ok1, h.es, h.al, tt_set h.tt (h.tt _ x hx)⟩
  refine ⟨_, hm, hF, ?_, ?_, ?_, d3, fun ht => ?_⟩
  · rw [Mi.send, if_neg (by rw [hn1]; simp [noTote])]
    simp only [hx1, h.es, he]
    rw [if_pos (.inl trivial)]
  · rw [Mi.told, Mi.told, hn, hn1]
    simp only [Bool.false_eq_true, if_false, hx, hx1]
  · rw [List.map_set]
  · rw [Mi.told, hn] at ht ⊢
    simp only [Bool.false_eq_true, if_false, hx] at ht ⊢
    by_cases hz : x.tote = 0
    · rw [if_pos hz] at ht; cases ht
    rw [if_neg hz]
    simp only
    have htt := h.tt _ x hx
    have ht30 : 1 ≤ x.tote ∧ x.tote ≤ 30 := by omega
    have hmv : (Mi.mk m.es m.w m.at_ (m.ds.set D.toNat ⟨x.tote, x.seq, x.ever, true⟩)).moved D x.tote = (⟨m.es, m.w.set x.tote.toNat (e.b + 1), (m.at_.set e.a.toNat 0).set e.b.toNat x.tote, (m.ds.set D.toNat ⟨x.tote, x.seq, x.ever, true⟩).set D.toNat ⟨0, x.seq, x.ever, true⟩⟩, 0) := by
      rw [Mi.moved, if_neg (by rw [noTote_out ht30, hn1]; decide)]
      simp only [hx1, h.es, he]
      rw [if_neg hz, if_pos trivial]
    have ok2 := Mi.moved_ok ok1 D x.tote
    rw [hmv] at ok2
    refine ⟨_, e, he, hmv, ⟨ok2, h.es, by simp only [List.length_set]; exact h.al, tt_set hF.tt (.inl rfl)⟩, ?_, ?_⟩
    · rw [Mi.loc, if_neg (by rw [noTote_out ht30]; decide)]
      simp only
      rw [List.getElem?_set_self (by have := h.ok.wl; omega)]
      simp only [Option.getD_some]; omega
    · simp only [List.map_set, List.set_set]
theorem Fed.again {l : Lay} {m : Mi} (h : Fed l m) {D : Int} (hD : 1 ≤ D ∧ D ≤ l.es.length) : ∃ m1, m.mask D false = (m1, 0) ∧ Fed l m1 ∧ m1.ds.map Md.down = (m.ds.map Md.down).set D.toNat false := by
  have hdl := h.ok.dl
  rw [h.es] at hdl
  have hn := noDev_out (m := m) (d := D) (by omega)
  obtain ⟨_, _, _, d3, x, hx⟩ := Mi.dev hn
  have hm := Mi.mask_do hn hx false
  have ok1 := Mi.mask_ok h.ok D false
  rw [hm] at ok1
  exact ⟨_, hm, ⟨ok1, h.es, h.al, tt_set h.tt (h.tt _ x hx)⟩, by rw [List.map_set]⟩
theorem down_count {l l1 : List Md} {j : Nat} (h : l1.map Md.down = (l.map Md.down).set j false) : dn l1 0 = (dn l 0).filter fun v => !decide (v = (j : Int)) := by
  rw [dn_B, dn_B, h, dnB_off, Nat.zero_add]
theorem down_in {l : List Md} {j : Nat} (h : (l.map Md.down)[j]? = some true) : (j : Int) ∈ dn l 0 := by
  rw [dn_B]
  have := dnB_mem (k := 0) h
  rwa [Nat.zero_add] at this
set_option maxHeartbeats 4000000 in
theorem mirrorMasks_law (c : TabW T) (hT : T i_stillagelaw17_MirrorMasks = some (.fn c_stillagelaw17_MirrorMasks)) (l : Lay) (hs : ∀ x ∈ l.ns, x.name.length ≤ 9223372036854775807) (s : List Nt) (s0 : Int) :
    Ret2 T 0 i_stillagelaw17_MirrorMasks [l.v, .fz 4 (s.map cNt), .i .i64 s0] [] (fun v h' => v = .b true) := by
  refine Ret2_fnv hT rfl rfl ?_
  have hv : l.v = .agg [.fz 3 (l.ns.map cN), .fz 2 (l.es.map cD)] := rfl
  rw [hv]
  (repeat' with_reducible first | refine thn2_nrm ?_ | refine thn2_ret ?_ | refine thn2_ex ?_ | refine blk2_nrm ?_ | refine blk2_ret ?_ | refine blk2_at ?_ | (refine blk2_ex ?_ ?_; decide) | refine W2_sas ?_ | refine W2_ss ?_ | refine W2_sret ?_ | refine W2_sexit ?_ | ((first | apply W2_sra | apply W2_srda | apply W2_runa | apply W2_runda); (conv => lhs; simp only [go_sem, ibin, ishift]) <;> rfl) | ((first | apply W2_srS | apply W2_runS); decide +kernel; (conv => lhs; simp only [go_sem, ibin, ishift]) <;> rfl) | ((first | apply W2_sct | apply W2_t2); (conv => lhs; simp only [go_sem]) <;> rfl; rfl) | ((first | apply W2_scf | apply W2_f2); (conv => lhs; simp only [go_sem]) <;> rfl; rfl) | refine W2_ret ?_ | refine W2_exit ?_ | refine W2_skip ?_ | refine W2_seq ?_ | refine W2_block ?_)
  (first | (((with_reducible first | apply W2_scall | apply W2_scalld | apply W2_calla | apply W2_callda | apply run2a_sound); ((conv => lhs; simp only [go_sem, ibin, ishift]) <;> with_reducible rfl))) | ((with_reducible first | apply W2_scallS | apply W2_callS); decide +kernel; ((conv => lhs; simp only [go_sem, ibin, ishift]) <;> with_reducible rfl)))
  refine CK_pure (awake_spec c) rfl ?_
  rintro v h' ⟨rfl, rfl⟩
  (first | (((with_reducible first | apply W2_scall | apply W2_scalld | apply W2_calla | apply W2_callda | apply run2a_sound); ((conv => lhs; simp only [go_sem, ibin, ishift]) <;> with_reducible rfl))) | ((with_reducible first | apply W2_scallS | apply W2_callS); decide +kernel; ((conv => lhs; simp only [go_sem, ibin, ishift]) <;> with_reducible rfl)))
  refine CK_pure (few_spec c l) (by first | rfl | (simp only [go_sem, Lay.v]; done) | (simp only [go_sem, Lay.v] <;> rfl)) ?_
  rintro v h' ⟨rfl, rfl⟩
  by_cases hf : l.ns.length ≤ 60 ∧ l.es.length ≤ 200
  rotate_left
  · rw [decide_eq_false hf]
    ((with_reducible first | apply WO2_finw | apply WO2_fina); ((conv => lhs; simp only [go_sem, ibin, ishift]) <;> with_reducible rfl))
    (repeat' with_reducible first | refine thn2_nrm ?_ | refine thn2_ret ?_ | refine thn2_ex ?_ | refine blk2_nrm ?_ | refine blk2_ret ?_ | refine blk2_at ?_ | (refine blk2_ex ?_ ?_; decide) | refine W2_sas ?_ | refine W2_ss ?_ | refine W2_sret ?_ | refine W2_sexit ?_ | ((first | apply W2_sra | apply W2_srda | apply W2_runa | apply W2_runda); (conv => lhs; simp only [go_sem, ibin, ishift]) <;> rfl) | ((first | apply W2_srS | apply W2_runS); decide +kernel; (conv => lhs; simp only [go_sem, ibin, ishift]) <;> rfl) | ((first | apply W2_sct | apply W2_t2); (conv => lhs; simp only [go_sem]) <;> rfl; rfl) | ((first | apply W2_scf | apply W2_f2); (conv => lhs; simp only [go_sem]) <;> rfl; rfl) | refine W2_ret ?_ | refine W2_exit ?_ | refine W2_skip ?_ | refine W2_seq ?_ | refine W2_block ?_)
    (first | (((with_reducible first | apply W2_scall | apply W2_scalld | apply W2_calla | apply W2_callda | apply run2a_sound); ((conv => lhs; simp only [go_sem, ibin, ishift]) <;> with_reducible rfl))) | ((with_reducible first | apply W2_scallS | apply W2_callS); decide +kernel; ((conv => lhs; simp only [go_sem, ibin, ishift]) <;> with_reducible rfl)))
    refine CK_pure (awake_spec c) rfl ?_
    rintro v h' ⟨rfl, rfl⟩
    ((with_reducible first | apply WO2_finw | apply WO2_fina); ((conv => lhs; simp only [go_sem, ibin, ishift]) <;> with_reducible rfl))
    (repeat' with_reducible first | refine thn2_nrm ?_ | refine thn2_ret ?_ | refine thn2_ex ?_ | refine blk2_nrm ?_ | refine blk2_ret ?_ | refine blk2_at ?_ | (refine blk2_ex ?_ ?_; decide) | refine W2_sas ?_ | refine W2_ss ?_ | refine W2_sret ?_ | refine W2_sexit ?_ | ((first | apply W2_sra | apply W2_srda | apply W2_runa | apply W2_runda); (conv => lhs; simp only [go_sem, ibin, ishift]) <;> rfl) | ((first | apply W2_srS | apply W2_runS); decide +kernel; (conv => lhs; simp only [go_sem, ibin, ishift]) <;> rfl) | ((first | apply W2_sct | apply W2_t2); (conv => lhs; simp only [go_sem]) <;> rfl; rfl) | ((first | apply W2_scf | apply W2_f2); (conv => lhs; simp only [go_sem]) <;> rfl; rfl) | refine W2_ret ?_ | refine W2_exit ?_ | refine W2_skip ?_ | refine W2_seq ?_ | refine W2_block ?_)
    refine ⟨by first | exact .inr rfl | exact .inl rfl, _, _, (by (conv => lhs; simp only [go_sem, ibin, ishift]) <;> with_reducible rfl), (by (conv => lhs; simp only [go_sem, ibin, ishift]) <;> with_reducible rfl), ?_⟩
    refine ⟨[], by decide, rfl, ?_⟩
    rfl
  rw [decide_eq_true hf]
  ((with_reducible first | apply WO2_finw | apply WO2_fina); ((conv => lhs; simp only [go_sem, ibin, ishift]) <;> with_reducible rfl))
  (repeat' with_reducible first | refine thn2_nrm ?_ | refine thn2_ret ?_ | refine thn2_ex ?_ | refine blk2_nrm ?_ | refine blk2_ret ?_ | refine blk2_at ?_ | (refine blk2_ex ?_ ?_; decide) | refine W2_sas ?_ | refine W2_ss ?_ | refine W2_sret ?_ | refine W2_sexit ?_ | ((first | apply W2_sra | apply W2_srda | apply W2_runa | apply W2_runda); (conv => lhs; simp only [go_sem, ibin, ishift]) <;> rfl) | ((first | apply W2_srS | apply W2_runS); decide +kernel; (conv => lhs; simp only [go_sem, ibin, ishift]) <;> rfl) | ((first | apply W2_sct | apply W2_t2); (conv => lhs; simp only [go_sem]) <;> rfl; rfl) | ((first | apply W2_scf | apply W2_f2); (conv => lhs; simp only [go_sem]) <;> rfl; rfl) | refine W2_ret ?_ | refine W2_exit ?_ | refine W2_skip ?_ | refine W2_seq ?_ | refine W2_block ?_)
  (first | (((with_reducible first | apply W2_scall | apply W2_scalld | apply W2_calla | apply W2_callda | apply run2a_sound); ((conv => lhs; simp only [go_sem, ibin, ishift]) <;> with_reducible rfl))) | ((with_reducible first | apply W2_scallS | apply W2_callS); decide +kernel; ((conv => lhs; simp only [go_sem, ibin, ishift]) <;> with_reducible rfl)))
  refine CK_pure (new_spec c.toTabM l ⟨by omega, by omega⟩ hs) (by first | rfl | (simp only [go_sem, Lay.v]; done) | (simp only [go_sem, Lay.v] <;> rfl)) ?_
  rintro v h' ⟨hh0, hh1⟩
  cases hg : l.good with
  | false =>
    obtain ⟨rfl, rfl⟩ := hh0 hg
    ((with_reducible first | apply WO2_finw | apply WO2_fina); ((conv => lhs; simp only [go_sem, ibin, ishift]) <;> with_reducible rfl))
    (repeat' with_reducible first | refine thn2_nrm ?_ | refine thn2_ret ?_ | refine thn2_ex ?_ | refine blk2_nrm ?_ | refine blk2_ret ?_ | refine blk2_at ?_ | (refine blk2_ex ?_ ?_; decide) | refine W2_sas ?_ | refine W2_ss ?_ | refine W2_sret ?_ | refine W2_sexit ?_ | ((first | apply W2_sra | apply W2_srda | apply W2_runa | apply W2_runda); (conv => lhs; simp only [go_sem, ibin, ishift]) <;> rfl) | ((first | apply W2_srS | apply W2_runS); decide +kernel; (conv => lhs; simp only [go_sem, ibin, ishift]) <;> rfl) | ((first | apply W2_sct | apply W2_t2); (conv => lhs; simp only [go_sem]) <;> rfl; rfl) | ((first | apply W2_scf | apply W2_f2); (conv => lhs; simp only [go_sem]) <;> rfl; rfl) | refine W2_ret ?_ | refine W2_exit ?_ | refine W2_skip ?_ | refine W2_seq ?_ | refine W2_block ?_)
    refine ⟨by first | exact .inr rfl | exact .inl rfl, _, _, (by (conv => lhs; simp only [go_sem, ibin, ishift]) <;> with_reducible rfl), (by (conv => lhs; simp only [go_sem, ibin, ishift]) <;> with_reducible rfl), ?_⟩
    refine ⟨[], by decide, rfl, ?_⟩
    rfl
  | true =>
    obtain ⟨rfl, rfl⟩ := hh1 hg
    have hk0 := Mi.new_ok hg
    have he0 : (Mi.new l).es = l.es := rfl
    have hl0 : (Mi.new l).at_.length = l.ns.length := by simp [Mi.new]
    have hd0 : ∀ (j : Nat) (d : Md), (Mi.new l).ds[j]? = some d → d = ⟨0, 0, false, false⟩ := fun j d h => (by
      have := List.mem_of_getElem? h
      simp only [Mi.new] at this
      exact (List.mem_replicate.1 this).2)
    have hw0 : ∀ (j : Nat) (v : Int), (Mi.new l).w[j]? = some v → v = 0 := fun j d h => (by
      have := List.mem_of_getElem? h
      simp only [Mi.new] at this
      exact (List.mem_replicate.1 this).2)
    have hz0 : ∀ x ∈ (Mi.new l).at_, x = 0 := fun x hx => (by
      simp only [Mi.new] at hx
      exact (List.mem_replicate.1 hx).2)
    generalize Mi.new l = p0 at hk0 he0 hl0 hd0 hw0 hz0
    unfold Mi.h
    ((with_reducible first | apply WO2_finw | apply WO2_fina); ((conv => lhs; simp only [go_sem, ibin, ishift]) <;> with_reducible rfl))
    (repeat' with_reducible first | refine thn2_nrm ?_ | refine thn2_ret ?_ | refine thn2_ex ?_ | refine blk2_nrm ?_ | refine blk2_ret ?_ | refine blk2_at ?_ | (refine blk2_ex ?_ ?_; decide) | refine W2_sas ?_ | refine W2_ss ?_ | refine W2_sret ?_ | refine W2_sexit ?_ | ((first | apply W2_sra | apply W2_srda | apply W2_runa | apply W2_runda); (conv => lhs; simp only [go_sem, ibin, ishift]) <;> rfl) | ((first | apply W2_srS | apply W2_runS); decide +kernel; (conv => lhs; simp only [go_sem, ibin, ishift]) <;> rfl) | ((first | apply W2_sct | apply W2_t2); (conv => lhs; simp only [go_sem]) <;> rfl; rfl) | ((first | apply W2_scf | apply W2_f2); (conv => lhs; simp only [go_sem]) <;> rfl; rfl) | refine W2_ret ?_ | refine W2_exit ?_ | refine W2_skip ?_ | refine W2_seq ?_ | refine W2_block ?_)
    by_cases hn : l.es.length = 0
    · have hn1 : decide ((l.es.length : Int) = 0) = true := decide_eq_true (by omega)
      rw [hn1]
      (repeat' with_reducible first | refine thn2_nrm ?_ | refine thn2_ret ?_ | refine thn2_ex ?_ | refine blk2_nrm ?_ | refine blk2_ret ?_ | refine blk2_at ?_ | (refine blk2_ex ?_ ?_; decide) | refine W2_sas ?_ | refine W2_ss ?_ | refine W2_sret ?_ | refine W2_sexit ?_ | ((first | apply W2_sra | apply W2_srda | apply W2_runa | apply W2_runda); (conv => lhs; simp only [go_sem, ibin, ishift]) <;> rfl) | ((first | apply W2_srS | apply W2_runS); decide +kernel; (conv => lhs; simp only [go_sem, ibin, ishift]) <;> rfl) | ((first | apply W2_sct | apply W2_t2); (conv => lhs; simp only [go_sem]) <;> rfl; rfl) | ((first | apply W2_scf | apply W2_f2); (conv => lhs; simp only [go_sem]) <;> rfl; rfl) | refine W2_ret ?_ | refine W2_exit ?_ | refine W2_skip ?_ | refine W2_seq ?_ | refine W2_block ?_)
      refine ⟨by first | exact .inr rfl | exact .inl rfl, _, _, (by (conv => lhs; simp only [go_sem, ibin, ishift]) <;> with_reducible rfl), (by (conv => lhs; simp only [go_sem, ibin, ishift]) <;> with_reducible rfl), ?_⟩
      refine ⟨[], by decide, rfl, ?_⟩
      rfl
    have hn1 : decide ((l.es.length : Int) = 0) = false := decide_eq_false (by omega)
    have hn2 : ¬((l.es.length : Int) = 0) := by omega
    have hz := good_sz hg
    rw [hn1]
    have w1 : IntKind.u64.wrap (l.es.length : Int) = l.es.length := by rw [u64_wrap]; omega
    have w2 : (IntKind.u64.wrap s0).tmod (l.es.length : Int) = IntKind.u64.wrap s0 % (l.es.length : Int) := Int.tmod_eq_emod_of_nonneg (by rw [u64_wrap]; omega)
    have w3 : 0 ≤ IntKind.u64.wrap s0 % (l.es.length : Int) ∧ IntKind.u64.wrap s0 % (l.es.length : Int) < l.es.length := ⟨Int.emod_nonneg _ hn2, Int.emod_lt_of_pos _ (by omega)⟩
    have w4 : IntKind.i64.wrap (IntKind.u64.wrap s0 % (l.es.length : Int)) = IntKind.u64.wrap s0 % (l.es.length : Int) := wi _ (by omega) (by omega)
    have w6 : IntKind.u64.wrap (IntKind.u64.wrap s0 % (l.es.length : Int)) = IntKind.u64.wrap s0 % (l.es.length : Int) := by rw [u64_wrap]; omega
    have w5 : IntKind.i64.wrap (IntKind.u64.wrap s0 % (l.es.length : Int) + 1) = IntKind.u64.wrap s0 % (l.es.length : Int) + 1 := wi _ (by omega) (by omega)
    (repeat' with_reducible first | refine thn2_nrm ?_ | refine thn2_ret ?_ | refine thn2_ex ?_ | refine blk2_nrm ?_ | refine blk2_ret ?_ | refine blk2_at ?_ | (refine blk2_ex ?_ ?_; decide) | refine W2_sas ?_ | refine W2_ss ?_ | refine W2_sret ?_ | refine W2_sexit ?_ | ((first | apply W2_sra | apply W2_srda | apply W2_runa | apply W2_runda); (conv => lhs; simp only [go_sem, ibin, ishift, w1, w2, w4, w5, w6, hn2]) <;> rfl) | ((first | apply W2_srS | apply W2_runS); decide +kernel; (conv => lhs; simp only [go_sem, ibin, ishift, w1, w2, w4, w5, w6, hn2]) <;> rfl) | ((first | apply W2_sct | apply W2_t2); (conv => lhs; simp only [go_sem]) <;> rfl; rfl) | ((first | apply W2_scf | apply W2_f2); (conv => lhs; simp only [go_sem]) <;> rfl; rfl) | refine W2_ret ?_ | refine W2_exit ?_ | refine W2_skip ?_ | refine W2_seq ?_ | refine W2_block ?_)
    have hD : 1 ≤ IntKind.u64.wrap s0 % (l.es.length : Int) + 1 ∧ IntKind.u64.wrap s0 % (l.es.length : Int) + 1 ≤ l.es.length := by omega
    generalize IntKind.u64.wrap s0 % (l.es.length : Int) + 1 = D at hD
    clear w1 w2 w3 w4 w5 w6
    have hF0 : Fed l p0 := ⟨hk0, he0, hl0, fun j d h => .inl (by rw [hd0 j d h])⟩
    refine W2_loopu (fun mm u g => ∃ (i : Nat) (m : Mi), i + mm = 100 ∧ Fed l m ∧ u = [(9, .i .i64 i)] ∧ g = [(1, .obj (.fz 2 (m.es.map cD) :: ((m.w.map fun n => SV.p (PV.i .i64 n)) ++ [.sl 1 2 0 m.at_.length none, .sl 4 3 0 m.ds.length none]))), (2, .arr 1 (m.at_.map cI)), (3, .arr 4 (m.ds.map cMd))]) 100 ⟨0, p0, by omega, hF0, rfl, rfl⟩ rfl rfl ?_
    rintro mm u g ⟨i, m, hi, hF, rfl, rfl⟩
    intro e1 h1 he1 hh1; simp only [egd, supE, hgd, supH, Nat.reduceEqDiff, Nat.reduceAdd, if_true, if_false, reduceIte] at he1 hh1; subst he1; subst hh1
    by_cases hil : i < s.length ∧ i < 100
    · obtain ⟨hil, hi2⟩ := hil
      have hgx := List.getElem?_eq_getElem hil
      generalize s[i] = x at hgx
      have h0 : (0 : Int) ≤ (i : Int) := by omega
      have h1 : (i : Int) < (s.length : Int) := by omega
      have h2 : (i : Int) < 100 := by omega
      have d1 : decide ((i : Int) < (s.length : Int)) = true := decide_eq_true h1
      have d2 : decide ((i : Int) < 100) = true := decide_eq_true h2
      have wi1 := wS (show i < 9223372036854775807 by omega)
      have hF2 := hF.apply x
      (repeat' with_reducible first | refine thn2_nrm ?_ | refine thn2_ret ?_ | refine thn2_ex ?_ | refine blk2_nrm ?_ | refine blk2_ret ?_ | refine blk2_at ?_ | (refine blk2_ex ?_ ?_; decide) | refine W2_sas ?_ | refine W2_ss ?_ | refine W2_sret ?_ | refine W2_sexit ?_ | ((first | apply W2_sra | apply W2_srda | apply W2_runa | apply W2_runda); (conv => lhs; simp only [go_sem, ibin, ishift, d1, d2, h1, h2, h0, hil, hgx, cNt]) <;> rfl) | ((first | apply W2_srS | apply W2_runS); decide +kernel; (conv => lhs; simp only [go_sem, ibin, ishift, d1, d2, h1, h2, h0, hil, hgx, cNt]) <;> rfl) | ((first | apply W2_sct | apply W2_t2); (conv => lhs; simp only [go_sem]) <;> rfl; rfl) | ((first | apply W2_scf | apply W2_f2); (conv => lhs; simp only [go_sem]) <;> rfl; rfl) | refine W2_ret ?_ | refine W2_exit ?_ | refine W2_skip ?_ | refine W2_seq ?_ | refine W2_block ?_)
      (first | (((with_reducible first | apply W2_scall | apply W2_scalld | apply W2_calla | apply W2_callda | apply run2a_sound); ((conv => lhs; simp only [go_sem, ibin, ishift, h1, h0, hil, hgx, cNt]) <;> with_reducible rfl))) | ((with_reducible first | apply W2_scallS | apply W2_callS); decide +kernel; ((conv => lhs; simp only [go_sem, ibin, ishift, h1, h0, hil, hgx, cNt]) <;> with_reducible rfl)))
      refine CK_call [1, 2, 3] (apply_spec c.toTabM m hF.ok x) (by decide) (by simp) rfl rfl (by first | rfl | (simp only [go_sem, Mi.h, Nt.v]; done) | (simp only [go_sem, Mi.h, Nt.v] <;> rfl)) ?_
      rintro v h' ⟨rfl, rfl⟩
      generalize m.apply x = r at hF2
      obtain ⟨m2, e⟩ := r
      simp only at hF2
      unfold Mi.h
      ((with_reducible first | apply WO2_finw | apply WO2_fina); ((conv => lhs; simp only [go_sem, ibin, ishift]) <;> with_reducible rfl))
      (repeat' with_reducible first | refine thn2_nrm ?_ | refine thn2_ret ?_ | refine thn2_ex ?_ | refine blk2_nrm ?_ | refine blk2_ret ?_ | refine blk2_at ?_ | (refine blk2_ex ?_ ?_; decide) | refine W2_sas ?_ | refine W2_ss ?_ | refine W2_sret ?_ | refine W2_sexit ?_ | ((first | apply W2_sra | apply W2_srda | apply W2_runa | apply W2_runda); (conv => lhs; simp only [go_sem, ibin, ishift, wi1]) <;> rfl) | ((first | apply W2_srS | apply W2_runS); decide +kernel; (conv => lhs; simp only [go_sem, ibin, ishift, wi1]) <;> rfl) | ((first | apply W2_sct | apply W2_t2); (conv => lhs; simp only [go_sem]) <;> rfl; rfl) | ((first | apply W2_scf | apply W2_f2); (conv => lhs; simp only [go_sem]) <;> rfl; rfl) | refine W2_ret ?_ | refine W2_exit ?_ | refine W2_skip ?_ | refine W2_seq ?_ | refine W2_block ?_)
      refine ⟨[0, 1, 2, 3], by decide, rfl, ?_⟩
      exact ⟨100 - (i + 1), _, _, by omega, ⟨i + 1, m2, by omega, hF2, rfl, rfl⟩, rfl, (by first | rfl | ((conv => lhs; simp only [go_sem, ibin, ishift]) <;> rfl))⟩
    have hdec : (decide (i < s.length) && decide ((i : Int) < 100)) = false := by
      by_cases h : i < s.length
      · rw [decide_eq_false (show ¬((i : Int) < 100) by omega)]; simp
      · rw [decide_eq_false h]; rfl
    obtain ⟨m1, q1, F1, q3, q4, q5, q6, q7⟩ := hF.masked hD
    have hkm := hF.ok
    have hk1 := F1.ok
    have hw := hkm.wl
    have hw1 := hk1.wl
    ((repeat' with_reducible first | refine thn2_nrm ?_ | refine thn2_ret ?_ | refine thn2_ex ?_ | refine blk2_nrm ?_ | refine blk2_ret ?_ | refine blk2_at ?_ | (refine blk2_ex ?_ ?_; decide) | refine W2_sas ?_ | refine W2_ss ?_ | refine W2_sret ?_ | refine W2_sexit ?_ | refine W2_skip ?_ | ((first | apply W2_sct | apply W2_t2); (conv => lhs; simp only [go_sem]) <;> rfl; rfl) | ((first | apply W2_scf | apply W2_f2); (conv => lhs; simp only [go_sem]) <;> rfl; rfl) | refine W2_block ?_ | refine W2_seq ?_ | refine W2_exit ?_); (first | ((with_reducible first | apply W2_sra | apply W2_srda | apply W2_runa | apply W2_runda); ((conv => lhs; simp only [go_sem, ibin, ishift]) <;> with_reducible rfl)) | ((with_reducible first | apply W2_srS | apply W2_runS); decide +kernel; ((conv => lhs; simp only [go_sem, ibin, ishift]) <;> with_reducible rfl))))
    rw [hdec]
    (repeat' with_reducible first | refine thn2_nrm ?_ | refine thn2_ret ?_ | refine thn2_ex ?_ | refine blk2_nrm ?_ | refine blk2_ret ?_ | refine blk2_at ?_ | (refine blk2_ex ?_ ?_; decide) | refine W2_sas ?_ | refine W2_ss ?_ | refine W2_sret ?_ | refine W2_sexit ?_ | ((first | apply W2_sra | apply W2_srda | apply W2_runa | apply W2_runda); (conv => lhs; simp only [go_sem, ibin, ishift]) <;> rfl) | ((first | apply W2_srS | apply W2_runS); decide +kernel; (conv => lhs; simp only [go_sem, ibin, ishift]) <;> rfl) | ((first | apply W2_sct | apply W2_t2); (conv => lhs; simp only [go_sem]) <;> rfl; rfl) | ((first | apply W2_scf | apply W2_f2); (conv => lhs; simp only [go_sem]) <;> rfl; rfl) | refine W2_ret ?_ | refine W2_exit ?_ | refine W2_skip ?_ | refine W2_seq ?_ | refine W2_block ?_)
    (first | (((with_reducible first | apply W2_scall | apply W2_scalld | apply W2_calla | apply W2_callda | apply run2a_sound); ((conv => lhs; simp only [go_sem, ibin, ishift]) <;> with_reducible rfl))) | ((with_reducible first | apply W2_scallS | apply W2_callS); decide +kernel; ((conv => lhs; simp only [go_sem, ibin, ishift]) <;> with_reducible rfl)))
    refine CK_call [1, 2, 3] (down_spec c.toTabM m hkm) (by decide) (by simp) rfl rfl (by first | rfl | (simp only [go_sem, Mi.h]; done) | (simp only [go_sem, Mi.h] <;> rfl)) ?_
    rintro v h' ⟨rfl, rfl⟩
    unfold Mi.h
    ((with_reducible first | apply WO2_finw | apply WO2_fina); ((conv => lhs; simp only [go_sem, ibin, ishift]) <;> with_reducible rfl))
    (repeat' with_reducible first | refine thn2_nrm ?_ | refine thn2_ret ?_ | refine thn2_ex ?_ | refine blk2_nrm ?_ | refine blk2_ret ?_ | refine blk2_at ?_ | (refine blk2_ex ?_ ?_; decide) | refine W2_sas ?_ | refine W2_ss ?_ | refine W2_sret ?_ | refine W2_sexit ?_ | ((first | apply W2_sra | apply W2_srda | apply W2_runa | apply W2_runda); (conv => lhs; simp only [go_sem, ibin, ishift]) <;> rfl) | ((first | apply W2_srS | apply W2_runS); decide +kernel; (conv => lhs; simp only [go_sem, ibin, ishift]) <;> rfl) | ((first | apply W2_sct | apply W2_t2); (conv => lhs; simp only [go_sem]) <;> rfl; rfl) | ((first | apply W2_scf | apply W2_f2); (conv => lhs; simp only [go_sem]) <;> rfl; rfl) | refine W2_ret ?_ | refine W2_exit ?_ | refine W2_skip ?_ | refine W2_seq ?_ | refine W2_block ?_)
    (first | (((with_reducible first | apply W2_scall | apply W2_scalld | apply W2_calla | apply W2_callda | apply run2a_sound); ((conv => lhs; simp only [go_sem, ibin, ishift]) <;> with_reducible rfl))) | ((with_reducible first | apply W2_scallS | apply W2_callS); decide +kernel; ((conv => lhs; simp only [go_sem, ibin, ishift]) <;> with_reducible rfl)))
    refine CK_call [1, 2, 3] (told_spec c.toTabM m hw D) (by decide) (by simp) rfl rfl (by first | rfl | (simp only [go_sem, Mi.h]; done) | (simp only [go_sem, Mi.h] <;> rfl)) ?_
    rintro v h' ⟨rfl, rfl⟩
    generalize htd : m.told D = td at q4 q7
    obtain ⟨tt, ts, tb⟩ := td
    simp only at q7 ⊢
    unfold Mi.h
    ((with_reducible first | apply WO2_finw | apply WO2_fina); ((conv => lhs; simp only [go_sem, ibin, ishift]) <;> with_reducible rfl))
    (repeat' with_reducible first | refine thn2_nrm ?_ | refine thn2_ret ?_ | refine thn2_ex ?_ | refine blk2_nrm ?_ | refine blk2_ret ?_ | refine blk2_at ?_ | (refine blk2_ex ?_ ?_; decide) | refine W2_sas ?_ | refine W2_ss ?_ | refine W2_sret ?_ | refine W2_sexit ?_ | ((first | apply W2_sra | apply W2_srda | apply W2_runa | apply W2_runda); (conv => lhs; simp only [go_sem, ibin, ishift]) <;> rfl) | ((first | apply W2_srS | apply W2_runS); decide +kernel; (conv => lhs; simp only [go_sem, ibin, ishift]) <;> rfl) | ((first | apply W2_sct | apply W2_t2); (conv => lhs; simp only [go_sem]) <;> rfl; rfl) | ((first | apply W2_scf | apply W2_f2); (conv => lhs; simp only [go_sem]) <;> rfl; rfl) | refine W2_ret ?_ | refine W2_exit ?_ | refine W2_skip ?_ | refine W2_seq ?_ | refine W2_block ?_)
    (first | (((with_reducible first | apply W2_scall | apply W2_scalld | apply W2_calla | apply W2_callda | apply run2a_sound); ((conv => lhs; simp only [go_sem, ibin, ishift]) <;> with_reducible rfl))) | ((with_reducible first | apply W2_scallS | apply W2_callS); decide +kernel; ((conv => lhs; simp only [go_sem, ibin, ishift]) <;> with_reducible rfl)))
    refine CK_call [1, 2, 3] (mask_spec c.toTabM m hw D true) (by decide) (by simp) rfl rfl (by first | rfl | (simp only [go_sem, Mi.h]; done) | (simp only [go_sem, Mi.h] <;> rfl)) ?_
    rintro v h' ⟨rfl, rfl⟩
    rw [q1]
    unfold Mi.h
    (first | (((with_reducible first | apply W2_scall | apply W2_scalld | apply W2_calla | apply W2_callda | apply run2a_sound); ((conv => lhs; simp only [go_sem, ibin, ishift]) <;> with_reducible rfl))) | ((with_reducible first | apply W2_scallS | apply W2_callS); decide +kernel; ((conv => lhs; simp only [go_sem, ibin, ishift]) <;> with_reducible rfl)))
    refine CK_call [1, 2, 3] (send_spec c.toTabM m1 hk1 D 1 0) (by decide) (by simp) rfl rfl (by first | rfl | (simp only [go_sem, Mi.h]; done) | (simp only [go_sem, Mi.h] <;> rfl)) ?_
    rintro v h' ⟨rfl, rfl⟩
    rw [q3]
    unfold Mi.h
    ((with_reducible first | apply WO2_finw | apply WO2_fina); ((conv => lhs; simp only [go_sem, ibin, ishift]) <;> with_reducible rfl))
    (repeat' with_reducible first | refine thn2_nrm ?_ | refine thn2_ret ?_ | refine thn2_ex ?_ | refine blk2_nrm ?_ | refine blk2_ret ?_ | refine blk2_at ?_ | (refine blk2_ex ?_ ?_; decide) | refine W2_sas ?_ | refine W2_ss ?_ | refine W2_sret ?_ | refine W2_sexit ?_ | ((first | apply W2_sra | apply W2_srda | apply W2_runa | apply W2_runda); (conv => lhs; simp only [go_sem, ibin, ishift]) <;> rfl) | ((first | apply W2_srS | apply W2_runS); decide +kernel; (conv => lhs; simp only [go_sem, ibin, ishift]) <;> rfl) | ((first | apply W2_sct | apply W2_t2); (conv => lhs; simp only [go_sem]) <;> rfl; rfl) | ((first | apply W2_scf | apply W2_f2); (conv => lhs; simp only [go_sem]) <;> rfl; rfl) | refine W2_ret ?_ | refine W2_exit ?_ | refine W2_skip ?_ | refine W2_seq ?_ | refine W2_block ?_)
    (first | (((with_reducible first | apply W2_scall | apply W2_scalld | apply W2_calla | apply W2_callda | apply run2a_sound); ((conv => lhs; simp only [go_sem, ibin, ishift]) <;> with_reducible rfl))) | ((with_reducible first | apply W2_scallS | apply W2_callS); decide +kernel; ((conv => lhs; simp only [go_sem, ibin, ishift]) <;> with_reducible rfl)))
    refine CK_call [1, 2, 3] (told_spec c.toTabM m1 hw1 D) (by decide) (by simp) rfl rfl (by first | rfl | (simp only [go_sem, Mi.h]; done) | (simp only [go_sem, Mi.h] <;> rfl)) ?_
    rintro v h' ⟨rfl, rfl⟩
    rw [q4]
    unfold Mi.h
    have z1 : decide (tt = tt) = true := by simp
    have z2 : decide (ts = ts) = true := by simp
    have z3 : (tb != tb) = false := by simp
    simp only
    ((with_reducible first | apply WO2_finw | apply WO2_fina); ((conv => lhs; simp only [go_sem, ibin, ishift]) <;> with_reducible rfl))
    (repeat' with_reducible first | refine thn2_nrm ?_ | refine thn2_ret ?_ | refine thn2_ex ?_ | refine blk2_nrm ?_ | refine blk2_ret ?_ | refine blk2_at ?_ | (refine blk2_ex ?_ ?_; decide) | refine W2_sas ?_ | refine W2_ss ?_ | refine W2_sret ?_ | refine W2_sexit ?_ | ((first | apply W2_sra | apply W2_srda | apply W2_runa | apply W2_runda); (conv => lhs; simp only [go_sem, ibin, ishift, z1, z2, z3]) <;> rfl) | ((first | apply W2_srS | apply W2_runS); decide +kernel; (conv => lhs; simp only [go_sem, ibin, ishift, z1, z2, z3]) <;> rfl) | ((first | apply W2_sct | apply W2_t2); (conv => lhs; simp only [go_sem]) <;> rfl; rfl) | ((first | apply W2_scf | apply W2_f2); (conv => lhs; simp only [go_sem]) <;> rfl; rfl) | refine W2_ret ?_ | refine W2_exit ?_ | refine W2_skip ?_ | refine W2_seq ?_ | refine W2_block ?_)
    have wd : IntKind.i64.wrap (D - 1) = D - 1 := wi _ (by omega) (by omega)
    have r0 : (0 : Int) ≤ D - 1 := by omega
    have r1 : D - 1 < (l.es.length : Int) := by omega
    have r2 : (D - 1).toNat < l.es.length := by omega
    obtain ⟨e, he⟩ : ∃ e, l.es[(D - 1).toNat]? = some e := ⟨_, List.getElem?_eq_getElem r2⟩
    cases tb with
    | true =>
      obtain ⟨m2, e', he', hmv, F2, hloc, hdn⟩ := q7 rfl
      rw [he] at he'
      cases he'
      have hk2 := F2.ok
      have hdn2 := hdn.trans q5
      have ze : decide (e.b = e.b) = true := by simp
      (repeat' with_reducible first | refine thn2_nrm ?_ | refine thn2_ret ?_ | refine thn2_ex ?_ | refine blk2_nrm ?_ | refine blk2_ret ?_ | refine blk2_at ?_ | (refine blk2_ex ?_ ?_; decide) | refine W2_sas ?_ | refine W2_ss ?_ | refine W2_sret ?_ | refine W2_sexit ?_ | refine W2_skip ?_ | ((first | apply W2_sct | apply W2_t2); (conv => lhs; simp only [go_sem]) <;> rfl; rfl) | ((first | apply W2_scf | apply W2_f2); (conv => lhs; simp only [go_sem]) <;> rfl; rfl) | refine W2_block ?_ | refine W2_seq ?_ | refine W2_exit ?_)
      (with_reducible first | apply W2_sregH [0] [false, false, false, false, false, false, false, false, false, false, false, false, true, false, false, false, false, true, false] | apply W2_regH [0] [false, false, false, false, false, false, false, false, false, false, false, false, true, false, false, false, false, true, false])
      · decide
      · decide
      · rfl
      ((conv => lhs; simp only [go_sem, ibin, ishift]) <;> with_reducible rfl)
      refine EH_call [1, 2, 3] (moved_spec c.toTabM m1 hk1 D tt) (by decide) (by simp) rfl rfl rfl (by first | rfl | (simp only [go_sem, Mi.h]; done) | (simp only [go_sem, Mi.h] <;> rfl)) ?_
      rintro v h' ⟨rfl, rfl⟩
      rw [hmv]
      unfold Mi.h
      refine WOH_i 117 rfl ?_
      (with_reducible apply WOH_go (by decide); ((conv => lhs; simp only [go_sem, ibin, ishift]) <;> with_reducible rfl))
      refine EH_call [1, 2, 3] (where_spec c.toTabM m2 hk2 tt) (by decide) (by simp) rfl rfl rfl (by first | rfl | (simp only [go_sem, Mi.h]; done) | (simp only [go_sem, Mi.h] <;> rfl)) ?_
      rintro v h' ⟨rfl, rfl⟩
      rw [hloc]
      unfold Mi.h
      (with_reducible apply WOH_go (by decide); ((conv => lhs; simp only [go_sem, ibin, ishift, wd, r0, r1, r2, he, cD, ze]) <;> with_reducible rfl))
      refine EH_go ?_
      have hD0 : (((D.toNat : Nat)) : Int) = D := by omega
      obtain ⟨m3, p1, F3, p3⟩ := Fed.again F2 hD
      have hk3 := F3.ok
      have hw2 := Mi.Ok.wl hk2
      have hin : D ∈ Mi.downs m2 := by
        have := down_in (l := Mi.ds m2) (j := D.toNat) (by rw [hdn2]; exact List.getElem?_set_self (by rw [List.length_map]; exact q6))
        rwa [hD0] at this
      have hcnt : m3.downs = m.downs.filter fun v => !decide (v = D) := by
        have h1 := down_count (l := m.ds) (l1 := m3.ds) (j := D.toNat) (by rw [p3, hdn2, List.set_set])
        rw [hD0] at h1
        exact h1
      have hl0 : m.downs.length ≤ 1001 := Nat.le_trans (dn_len m.ds 0) (by have := hkm.dl; have := hkm.el; omega)
      have hl2 : (Mi.downs m2).length ≤ 1001 := Nat.le_trans (dn_len _ 0) (by have := Mi.Ok.dl hk2; have := Mi.Ok.el hk2; omega)
      (repeat' with_reducible first | refine thn2_nrm ?_ | refine thn2_ret ?_ | refine thn2_ex ?_ | refine blk2_nrm ?_ | refine blk2_ret ?_ | refine blk2_at ?_ | (refine blk2_ex ?_ ?_; decide) | refine W2_sas ?_ | refine W2_ss ?_ | refine W2_sret ?_ | refine W2_sexit ?_ | ((first | apply W2_sra | apply W2_srda | apply W2_runa | apply W2_runda); (conv => lhs; simp only [go_sem, ibin, ishift]) <;> rfl) | ((first | apply W2_srS | apply W2_runS); decide +kernel; (conv => lhs; simp only [go_sem, ibin, ishift]) <;> rfl) | ((first | apply W2_sct | apply W2_t2); (conv => lhs; simp only [go_sem]) <;> rfl; rfl) | ((first | apply W2_scf | apply W2_f2); (conv => lhs; simp only [go_sem]) <;> rfl; rfl) | refine W2_ret ?_ | refine W2_exit ?_ | refine W2_skip ?_ | refine W2_seq ?_ | refine W2_block ?_)
      (first | (((with_reducible first | apply W2_scall | apply W2_scalld | apply W2_calla | apply W2_callda | apply run2a_sound); ((conv => lhs; simp only [go_sem, ibin, ishift]) <;> with_reducible rfl))) | ((with_reducible first | apply W2_scallS | apply W2_callS); decide +kernel; ((conv => lhs; simp only [go_sem, ibin, ishift]) <;> with_reducible rfl)))
      refine CK_call [1, 2, 3] (down_spec c.toTabM m2 hk2) (by decide) (by simp) rfl rfl (by first | rfl | (simp only [go_sem, Mi.h]; done) | (simp only [go_sem, Mi.h] <;> rfl)) ?_
      rintro v h' ⟨rfl, rfl⟩
      unfold Mi.h
      generalize Mi.downs m2 = L2 at hin hl2
      ((with_reducible first | apply WO2_finw | apply WO2_fina); ((conv => lhs; simp only [go_sem, ibin, ishift]) <;> with_reducible rfl))
      (repeat' with_reducible first | refine thn2_nrm ?_ | refine thn2_ret ?_ | refine thn2_ex ?_ | refine blk2_nrm ?_ | refine blk2_ret ?_ | refine blk2_at ?_ | (refine blk2_ex ?_ ?_; decide) | refine W2_sas ?_ | refine W2_ss ?_ | refine W2_sret ?_ | refine W2_sexit ?_ | ((first | apply W2_sra | apply W2_srda | apply W2_runa | apply W2_runda); (conv => lhs; simp only [go_sem, ibin, ishift]) <;> rfl) | ((first | apply W2_srS | apply W2_runS); decide +kernel; (conv => lhs; simp only [go_sem, ibin, ishift]) <;> rfl) | ((first | apply W2_sct | apply W2_t2); (conv => lhs; simp only [go_sem]) <;> rfl; rfl) | ((first | apply W2_scf | apply W2_f2); (conv => lhs; simp only [go_sem]) <;> rfl; rfl) | refine W2_ret ?_ | refine W2_exit ?_ | refine W2_skip ?_ | refine W2_seq ?_ | refine W2_block ?_)
      refine W2_loopu (fun mm u g => ∃ j : Nat, j + mm = L2.length ∧ u = [(17, .b ((L2.take j).any fun v => decide (v = D))), (136, .i .i64 j)] ∧ g = []) L2.length ⟨0, by omega, rfl, rfl⟩ rfl rfl ?_
      rintro mm u g ⟨j, hj, rfl, rfl⟩
      intro e1 h1 he1 hh1; simp only [egd, supE, hgd, supH, Nat.reduceEqDiff, Nat.reduceAdd, if_true, if_false, reduceIte] at he1 hh1; subst he1; subst hh1
      (repeat' with_reducible first | refine thn2_nrm ?_ | refine thn2_ret ?_ | refine thn2_ex ?_ | refine blk2_nrm ?_ | refine blk2_ret ?_ | refine blk2_at ?_ | (refine blk2_ex ?_ ?_; decide) | refine W2_sas ?_ | refine W2_ss ?_ | refine W2_sret ?_ | refine W2_sexit ?_ | ((first | apply W2_sra | apply W2_srda | apply W2_runa | apply W2_runda); (conv => lhs; simp only [go_sem, ibin, ishift]) <;> rfl) | ((first | apply W2_srS | apply W2_runS); decide +kernel; (conv => lhs; simp only [go_sem, ibin, ishift]) <;> rfl) | ((first | apply W2_sct | apply W2_t2); (conv => lhs; simp only [go_sem]) <;> rfl; rfl) | ((first | apply W2_scf | apply W2_f2); (conv => lhs; simp only [go_sem]) <;> rfl; rfl) | refine W2_ret ?_ | refine W2_exit ?_ | refine W2_skip ?_ | refine W2_seq ?_ | refine W2_block ?_)
      (((first | with_reducible apply W2_sc | with_reducible apply W2_cond); ((conv => lhs; simp only [go_sem]) <;> with_reducible rfl)) <;> intro hx <;> (try rw [hx]) <;> simp only [Bool.or_eq_true, Bool.and_eq_true, decide_eq_true_eq, Bool.or_eq_false_iff, Bool.and_eq_false_iff, decide_eq_false_iff_not, Bool.not_eq_true', Bool.not_eq_false', bne_iff_ne, beq_iff_eq, not_or, not_and, Decidable.not_not, ne_eq, gt_iff_lt, ge_iff_le, Int.not_lt, Int.not_le] at hx)
      · have hjl : j < L2.length := by omega
        have hg := List.getElem?_eq_getElem hjl
        have htk : L2.take (j + 1) = L2.take j ++ [L2[j]] := by rw [List.take_add_one, List.getElem?_eq_getElem hjl]; rfl
        have hmem := List.getElem_mem hjl
        generalize L2[j] = y at hg htk hmem
        have j0 : (0 : Int) ≤ (j : Int) := by omega
        have j1 : (j : Int) < (L2.length : Int) := by omega
        have wj := wS (show j < 9223372036854775807 by omega)
        (repeat' with_reducible first | refine thn2_nrm ?_ | refine thn2_ret ?_ | refine thn2_ex ?_ | refine blk2_nrm ?_ | refine blk2_ret ?_ | refine blk2_at ?_ | (refine blk2_ex ?_ ?_; decide) | refine W2_sas ?_ | refine W2_ss ?_ | refine W2_sret ?_ | refine W2_sexit ?_ | ((first | apply W2_sra | apply W2_srda | apply W2_runa | apply W2_runda); (conv => lhs; simp only [go_sem, ibin, ishift, hg, hjl, cI, j0, j1, wj]) <;> rfl) | ((first | apply W2_srS | apply W2_runS); decide +kernel; (conv => lhs; simp only [go_sem, ibin, ishift, hg, hjl, cI, j0, j1, wj]) <;> rfl) | ((first | apply W2_sct | apply W2_t2); (conv => lhs; simp only [go_sem]) <;> rfl; rfl) | ((first | apply W2_scf | apply W2_f2); (conv => lhs; simp only [go_sem]) <;> rfl; rfl) | refine W2_ret ?_ | refine W2_exit ?_ | refine W2_skip ?_ | refine W2_seq ?_ | refine W2_block ?_)
        have han : (L2.take (j + 1)).any (fun z => decide (z = D)) = ((L2.take j).any (fun z => decide (z = D)) || decide (y = D)) := by rw [htk, List.any_append]; simp
        refine ⟨[0, 1, 2, 3, 4, 5], by decide, rfl, ?_⟩
        exact ⟨L2.length - (j + 1), [(17, .b ((L2.take j).any (fun z => decide (z = D)) || decide (y = D))), (136, .i .i64 ((j + 1 : Nat) : Int))], _, by omega, ⟨j + 1, by omega, by rw [han], rfl⟩, rfl, (by first | rfl | ((conv => lhs; simp only [go_sem, ibin, ishift]) <;> rfl))⟩
      have hjn : j = L2.length := by omega
      subst hjn
      rw [List.take_length, List.any_eq_true.2 ⟨D, hin, decide_eq_true rfl⟩]
      (repeat' with_reducible first | refine thn2_nrm ?_ | refine thn2_ret ?_ | refine thn2_ex ?_ | refine blk2_nrm ?_ | refine blk2_ret ?_ | refine blk2_at ?_ | (refine blk2_ex ?_ ?_; decide) | refine W2_sas ?_ | refine W2_ss ?_ | refine W2_sret ?_ | refine W2_sexit ?_ | ((first | apply W2_sra | apply W2_srda | apply W2_runa | apply W2_runda); (conv => lhs; simp only [go_sem, ibin, ishift]) <;> rfl) | ((first | apply W2_srS | apply W2_runS); decide +kernel; (conv => lhs; simp only [go_sem, ibin, ishift]) <;> rfl) | ((first | apply W2_sct | apply W2_t2); (conv => lhs; simp only [go_sem]) <;> rfl; rfl) | ((first | apply W2_scf | apply W2_f2); (conv => lhs; simp only [go_sem]) <;> rfl; rfl) | refine W2_ret ?_ | refine W2_exit ?_ | refine W2_skip ?_ | refine W2_seq ?_ | refine W2_block ?_)
      (first | (((with_reducible first | apply W2_scall | apply W2_scalld | apply W2_calla | apply W2_callda | apply run2a_sound); ((conv => lhs; simp only [go_sem, ibin, ishift]) <;> with_reducible rfl))) | ((with_reducible first | apply W2_scallS | apply W2_callS); decide +kernel; ((conv => lhs; simp only [go_sem, ibin, ishift]) <;> with_reducible rfl)))
      refine CK_call [1, 2, 3] (mask_spec c.toTabM m2 hw2 D false) (by decide) (by simp) rfl rfl (by first | rfl | (simp only [go_sem, Mi.h]; done) | (simp only [go_sem, Mi.h] <;> rfl)) ?_
      rintro v h' ⟨rfl, rfl⟩
      rw [p1]
      unfold Mi.h
      ((with_reducible first | apply WO2_finw | apply WO2_fina); ((conv => lhs; simp only [go_sem, ibin, ishift]) <;> with_reducible rfl))
      (repeat' with_reducible first | refine thn2_nrm ?_ | refine thn2_ret ?_ | refine thn2_ex ?_ | refine blk2_nrm ?_ | refine blk2_ret ?_ | refine blk2_at ?_ | (refine blk2_ex ?_ ?_; decide) | refine W2_sas ?_ | refine W2_ss ?_ | refine W2_sret ?_ | refine W2_sexit ?_ | ((first | apply W2_sra | apply W2_srda | apply W2_runa | apply W2_runda); (conv => lhs; simp only [go_sem, ibin, ishift]) <;> rfl) | ((first | apply W2_srS | apply W2_runS); decide +kernel; (conv => lhs; simp only [go_sem, ibin, ishift]) <;> rfl) | ((first | apply W2_sct | apply W2_t2); (conv => lhs; simp only [go_sem]) <;> rfl; rfl) | ((first | apply W2_scf | apply W2_f2); (conv => lhs; simp only [go_sem]) <;> rfl; rfl) | refine W2_ret ?_ | refine W2_exit ?_ | refine W2_skip ?_ | refine W2_seq ?_ | refine W2_block ?_)
      rw [← List.take_length (l := m.downs)] at hcnt
      generalize hL0 : m.downs = L0 at hl0 hcnt
      refine W2_loopu (fun mm u g => ∃ j q : Nat, j + mm = L0.length ∧ q = ((L0.take j).filter fun v => !decide (v = D)).length ∧ u = [(20, .i .i64 q), (157, .i .i64 j)] ∧ g = []) L0.length ⟨0, 0, by omega, rfl, rfl, rfl⟩ rfl rfl ?_
      rintro mm u g ⟨j, q, hj, hqn, rfl, rfl⟩
      intro e1 h1 he1 hh1; simp only [egd, supE, hgd, supH, Nat.reduceEqDiff, Nat.reduceAdd, if_true, if_false, reduceIte] at he1 hh1; subst he1; subst hh1
      (repeat' with_reducible first | refine thn2_nrm ?_ | refine thn2_ret ?_ | refine thn2_ex ?_ | refine blk2_nrm ?_ | refine blk2_ret ?_ | refine blk2_at ?_ | (refine blk2_ex ?_ ?_; decide) | refine W2_sas ?_ | refine W2_ss ?_ | refine W2_sret ?_ | refine W2_sexit ?_ | ((first | apply W2_sra | apply W2_srda | apply W2_runa | apply W2_runda); (conv => lhs; simp only [go_sem, ibin, ishift]) <;> rfl) | ((first | apply W2_srS | apply W2_runS); decide +kernel; (conv => lhs; simp only [go_sem, ibin, ishift]) <;> rfl) | ((first | apply W2_sct | apply W2_t2); (conv => lhs; simp only [go_sem]) <;> rfl; rfl) | ((first | apply W2_scf | apply W2_f2); (conv => lhs; simp only [go_sem]) <;> rfl; rfl) | refine W2_ret ?_ | refine W2_exit ?_ | refine W2_skip ?_ | refine W2_seq ?_ | refine W2_block ?_)
      (((first | with_reducible apply W2_sc | with_reducible apply W2_cond); ((conv => lhs; simp only [go_sem]) <;> with_reducible rfl)) <;> intro hx <;> (try rw [hx]) <;> simp only [Bool.or_eq_true, Bool.and_eq_true, decide_eq_true_eq, Bool.or_eq_false_iff, Bool.and_eq_false_iff, decide_eq_false_iff_not, Bool.not_eq_true', Bool.not_eq_false', bne_iff_ne, beq_iff_eq, not_or, not_and, Decidable.not_not, ne_eq, gt_iff_lt, ge_iff_le, Int.not_lt, Int.not_le] at hx)
      · have hjl : j < L0.length := by omega
        have hg := List.getElem?_eq_getElem hjl
        have htk : L0.take (j + 1) = L0.take j ++ [L0[j]] := by rw [List.take_add_one, List.getElem?_eq_getElem hjl]; rfl
        have hmem := List.getElem_mem hjl
        generalize L0[j] = y at hg htk hmem
        have j0 : (0 : Int) ≤ (j : Int) := by omega
        have j1 : (j : Int) < (L0.length : Int) := by omega
        have wj := wS (show j < 9223372036854775807 by omega)
        have hqj : q ≤ j := by rw [hqn]; exact Nat.le_trans (List.length_filter_le ..) (by rw [List.length_take]; omega)
        have wq := wS (show q < 9223372036854775807 by omega)
        by_cases hy : y = D
        · have ey : decide (y = D) = true := decide_eq_true hy
          have hf : (L0.take (j + 1)).filter (fun v => !decide (v = D)) = (L0.take j).filter fun v => !decide (v = D) := by rw [htk, List.filter_append]; simp [hy]
          (repeat' with_reducible first | refine thn2_nrm ?_ | refine thn2_ret ?_ | refine thn2_ex ?_ | refine blk2_nrm ?_ | refine blk2_ret ?_ | refine blk2_at ?_ | (refine blk2_ex ?_ ?_; decide) | refine W2_sas ?_ | refine W2_ss ?_ | refine W2_sret ?_ | refine W2_sexit ?_ | ((first | apply W2_sra | apply W2_srda | apply W2_runa | apply W2_runda); (conv => lhs; simp only [go_sem, ibin, ishift, hg, hjl, cI, j0, j1, ey, wj]) <;> rfl) | ((first | apply W2_srS | apply W2_runS); decide +kernel; (conv => lhs; simp only [go_sem, ibin, ishift, hg, hjl, cI, j0, j1, ey, wj]) <;> rfl) | ((first | apply W2_sct | apply W2_t2); (conv => lhs; simp only [go_sem]) <;> rfl; rfl) | ((first | apply W2_scf | apply W2_f2); (conv => lhs; simp only [go_sem]) <;> rfl; rfl) | refine W2_ret ?_ | refine W2_exit ?_ | refine W2_skip ?_ | refine W2_seq ?_ | refine W2_block ?_)
          refine ⟨[0, 1, 2, 3, 4, 5], by decide, rfl, ?_⟩
          exact ⟨L0.length - (j + 1), _, _, by omega, ⟨j + 1, q, by omega, by rw [hf]; exact hqn, rfl, rfl⟩, rfl, (by first | rfl | ((conv => lhs; simp only [go_sem, ibin, ishift]) <;> rfl))⟩
        · have ey : decide (y = D) = false := decide_eq_false hy
          have hf : (L0.take (j + 1)).filter (fun v => !decide (v = D)) = ((L0.take j).filter fun v => !decide (v = D)) ++ [y] := by rw [htk, List.filter_append]; simp [hy]
          (repeat' with_reducible first | refine thn2_nrm ?_ | refine thn2_ret ?_ | refine thn2_ex ?_ | refine blk2_nrm ?_ | refine blk2_ret ?_ | refine blk2_at ?_ | (refine blk2_ex ?_ ?_; decide) | refine W2_sas ?_ | refine W2_ss ?_ | refine W2_sret ?_ | refine W2_sexit ?_ | ((first | apply W2_sra | apply W2_srda | apply W2_runa | apply W2_runda); (conv => lhs; simp only [go_sem, ibin, ishift, hg, hjl, cI, j0, j1, ey, wj, wq]) <;> rfl) | ((first | apply W2_srS | apply W2_runS); decide +kernel; (conv => lhs; simp only [go_sem, ibin, ishift, hg, hjl, cI, j0, j1, ey, wj, wq]) <;> rfl) | ((first | apply W2_sct | apply W2_t2); (conv => lhs; simp only [go_sem]) <;> rfl; rfl) | ((first | apply W2_scf | apply W2_f2); (conv => lhs; simp only [go_sem]) <;> rfl; rfl) | refine W2_ret ?_ | refine W2_exit ?_ | refine W2_skip ?_ | refine W2_seq ?_ | refine W2_block ?_)
          refine ⟨[0, 1, 2, 3, 4, 5], by decide, rfl, ?_⟩
          exact ⟨L0.length - (j + 1), _, _, by omega, ⟨j + 1, q + 1, by omega, by rw [hf, List.length_append, ← hqn]; rfl, rfl, rfl⟩, rfl, (by first | rfl | ((conv => lhs; simp only [go_sem, ibin, ishift]) <;> rfl))⟩
      have hjn : j = L0.length := by omega
      subst hjn
      (repeat' with_reducible first | refine thn2_nrm ?_ | refine thn2_ret ?_ | refine thn2_ex ?_ | refine blk2_nrm ?_ | refine blk2_ret ?_ | refine blk2_at ?_ | (refine blk2_ex ?_ ?_; decide) | refine W2_sas ?_ | refine W2_ss ?_ | refine W2_sret ?_ | refine W2_sexit ?_ | ((first | apply W2_sra | apply W2_srda | apply W2_runa | apply W2_runda); (conv => lhs; simp only [go_sem, ibin, ishift]) <;> rfl) | ((first | apply W2_srS | apply W2_runS); decide +kernel; (conv => lhs; simp only [go_sem, ibin, ishift]) <;> rfl) | ((first | apply W2_sct | apply W2_t2); (conv => lhs; simp only [go_sem]) <;> rfl; rfl) | ((first | apply W2_scf | apply W2_f2); (conv => lhs; simp only [go_sem]) <;> rfl; rfl) | refine W2_ret ?_ | refine W2_exit ?_ | refine W2_skip ?_ | refine W2_seq ?_ | refine W2_block ?_)
      (first | (((with_reducible first | apply W2_scall | apply W2_scalld | apply W2_calla | apply W2_callda | apply run2a_sound); ((conv => lhs; simp only [go_sem, ibin, ishift]) <;> with_reducible rfl))) | ((with_reducible first | apply W2_scallS | apply W2_callS); decide +kernel; ((conv => lhs; simp only [go_sem, ibin, ishift]) <;> with_reducible rfl)))
      refine CK_call [1, 2, 3] (down_spec c.toTabM m3 hk3) (by decide) (by simp) rfl rfl (by first | rfl | (simp only [go_sem, Mi.h]; done) | (simp only [go_sem, Mi.h] <;> rfl)) ?_
      rintro v h' ⟨rfl, rfl⟩
      unfold Mi.h
      rw [hcnt, ← hqn]
      have eq : decide ((q : Int) = (q : Int)) = true := by simp
      ((with_reducible first | apply WO2_finw | apply WO2_fina); ((conv => lhs; simp only [go_sem, ibin, ishift, eq]) <;> with_reducible rfl))
      (repeat' with_reducible first | refine thn2_nrm ?_ | refine thn2_ret ?_ | refine thn2_ex ?_ | refine blk2_nrm ?_ | refine blk2_ret ?_ | refine blk2_at ?_ | (refine blk2_ex ?_ ?_; decide) | refine W2_sas ?_ | refine W2_ss ?_ | refine W2_sret ?_ | refine W2_sexit ?_ | ((first | apply W2_sra | apply W2_srda | apply W2_runa | apply W2_runda); (conv => lhs; simp only [go_sem, ibin, ishift]) <;> rfl) | ((first | apply W2_srS | apply W2_runS); decide +kernel; (conv => lhs; simp only [go_sem, ibin, ishift]) <;> rfl) | ((first | apply W2_sct | apply W2_t2); (conv => lhs; simp only [go_sem]) <;> rfl; rfl) | ((first | apply W2_scf | apply W2_f2); (conv => lhs; simp only [go_sem]) <;> rfl; rfl) | refine W2_ret ?_ | refine W2_exit ?_ | refine W2_skip ?_ | refine W2_seq ?_ | refine W2_block ?_)
      refine ⟨by first | exact .inr rfl | exact .inl rfl, _, _, (by (conv => lhs; simp only [go_sem, ibin, ishift]) <;> with_reducible rfl), (by (conv => lhs; simp only [go_sem, ibin, ishift]) <;> with_reducible rfl), ?_⟩
      refine ⟨[], by decide, rfl, ?_⟩
      rfl
    | false =>
      (repeat' with_reducible first | refine thn2_nrm ?_ | refine thn2_ret ?_ | refine thn2_ex ?_ | refine blk2_nrm ?_ | refine blk2_ret ?_ | refine blk2_at ?_ | (refine blk2_ex ?_ ?_; decide) | refine W2_sas ?_ | refine W2_ss ?_ | refine W2_sret ?_ | refine W2_sexit ?_ | refine W2_skip ?_ | ((first | apply W2_sct | apply W2_t2); (conv => lhs; simp only [go_sem]) <;> rfl; rfl) | ((first | apply W2_scf | apply W2_f2); (conv => lhs; simp only [go_sem]) <;> rfl; rfl) | refine W2_block ?_ | refine W2_seq ?_ | refine W2_exit ?_)
      (with_reducible first | apply W2_sregH [0] [false, false, false, false, false, false, false, false, false, false, false, false, true, false, false, false, false, true, false] | apply W2_regH [0] [false, false, false, false, false, false, false, false, false, false, false, false, true, false, false, false, false, true, false])
      · decide
      · decide
      · rfl
      ((conv => lhs; simp only [go_sem, ibin, ishift, wd, r0, r1, r2, he, cD]) <;> with_reducible rfl)
      refine EH_go ?_
      have hD0 : (((D.toNat : Nat)) : Int) = D := by omega
      obtain ⟨m3, p1, F3, p3⟩ := Fed.again F1 hD
      have hk3 := F3.ok
      have hw2 := Mi.Ok.wl hk1
      have hin : D ∈ Mi.downs m1 := by
        have := down_in (l := Mi.ds m1) (j := D.toNat) (by rw [q5]; exact List.getElem?_set_self (by rw [List.length_map]; exact q6))
        rwa [hD0] at this
      have hcnt : m3.downs = m.downs.filter fun v => !decide (v = D) := by
        have h1 := down_count (l := m.ds) (l1 := m3.ds) (j := D.toNat) (by rw [p3, q5, List.set_set])
        rw [hD0] at h1
        exact h1
      have hl0 : m.downs.length ≤ 1001 := Nat.le_trans (dn_len m.ds 0) (by have := hkm.dl; have := hkm.el; omega)
      have hl2 : (Mi.downs m1).length ≤ 1001 := Nat.le_trans (dn_len _ 0) (by have := Mi.Ok.dl hk1; have := Mi.Ok.el hk1; omega)
      (repeat' with_reducible first | refine thn2_nrm ?_ | refine thn2_ret ?_ | refine thn2_ex ?_ | refine blk2_nrm ?_ | refine blk2_ret ?_ | refine blk2_at ?_ | (refine blk2_ex ?_ ?_; decide) | refine W2_sas ?_ | refine W2_ss ?_ | refine W2_sret ?_ | refine W2_sexit ?_ | ((first | apply W2_sra | apply W2_srda | apply W2_runa | apply W2_runda); (conv => lhs; simp only [go_sem, ibin, ishift]) <;> rfl) | ((first | apply W2_srS | apply W2_runS); decide +kernel; (conv => lhs; simp only [go_sem, ibin, ishift]) <;> rfl) | ((first | apply W2_sct | apply W2_t2); (conv => lhs; simp only [go_sem]) <;> rfl; rfl) | ((first | apply W2_scf | apply W2_f2); (conv => lhs; simp only [go_sem]) <;> rfl; rfl) | refine W2_ret ?_ | refine W2_exit ?_ | refine W2_skip ?_ | refine W2_seq ?_ | refine W2_block ?_)
      (first | (((with_reducible first | apply W2_scall | apply W2_scalld | apply W2_calla | apply W2_callda | apply run2a_sound); ((conv => lhs; simp only [go_sem, ibin, ishift]) <;> with_reducible rfl))) | ((with_reducible first | apply W2_scallS | apply W2_callS); decide +kernel; ((conv => lhs; simp only [go_sem, ibin, ishift]) <;> with_reducible rfl)))
      refine CK_call [1, 2, 3] (down_spec c.toTabM m1 hk1) (by decide) (by simp) rfl rfl (by first | rfl | (simp only [go_sem, Mi.h]; done) | (simp only [go_sem, Mi.h] <;> rfl)) ?_
      rintro v h' ⟨rfl, rfl⟩
      unfold Mi.h
      generalize Mi.downs m1 = L2 at hin hl2
      ((with_reducible first | apply WO2_finw | apply WO2_fina); ((conv => lhs; simp only [go_sem, ibin, ishift]) <;> with_reducible rfl))
      (repeat' with_reducible first | refine thn2_nrm ?_ | refine thn2_ret ?_ | refine thn2_ex ?_ | refine blk2_nrm ?_ | refine blk2_ret ?_ | refine blk2_at ?_ | (refine blk2_ex ?_ ?_; decide) | refine W2_sas ?_ | refine W2_ss ?_ | refine W2_sret ?_ | refine W2_sexit ?_ | ((first | apply W2_sra | apply W2_srda | apply W2_runa | apply W2_runda); (conv => lhs; simp only [go_sem, ibin, ishift]) <;> rfl) | ((first | apply W2_srS | apply W2_runS); decide +kernel; (conv => lhs; simp only [go_sem, ibin, ishift]) <;> rfl) | ((first | apply W2_sct | apply W2_t2); (conv => lhs; simp only [go_sem]) <;> rfl; rfl) | ((first | apply W2_scf | apply W2_f2); (conv => lhs; simp only [go_sem]) <;> rfl; rfl) | refine W2_ret ?_ | refine W2_exit ?_ | refine W2_skip ?_ | refine W2_seq ?_ | refine W2_block ?_)
      refine W2_loopu (fun mm u g => ∃ j : Nat, j + mm = L2.length ∧ u = [(17, .b ((L2.take j).any fun v => decide (v = D))), (136, .i .i64 j)] ∧ g = []) L2.length ⟨0, by omega, rfl, rfl⟩ rfl rfl ?_
      rintro mm u g ⟨j, hj, rfl, rfl⟩
      intro e1 h1 he1 hh1; simp only [egd, supE, hgd, supH, Nat.reduceEqDiff, Nat.reduceAdd, if_true, if_false, reduceIte] at he1 hh1; subst he1; subst hh1
      (repeat' with_reducible first | refine thn2_nrm ?_ | refine thn2_ret ?_ | refine thn2_ex ?_ | refine blk2_nrm ?_ | refine blk2_ret ?_ | refine blk2_at ?_ | (refine blk2_ex ?_ ?_; decide) | refine W2_sas ?_ | refine W2_ss ?_ | refine W2_sret ?_ | refine W2_sexit ?_ | ((first | apply W2_sra | apply W2_srda | apply W2_runa | apply W2_runda); (conv => lhs; simp only [go_sem, ibin, ishift]) <;> rfl) | ((first | apply W2_srS | apply W2_runS); decide +kernel; (conv => lhs; simp only [go_sem, ibin, ishift]) <;> rfl) | ((first | apply W2_sct | apply W2_t2); (conv => lhs; simp only [go_sem]) <;> rfl; rfl) | ((first | apply W2_scf | apply W2_f2); (conv => lhs; simp only [go_sem]) <;> rfl; rfl) | refine W2_ret ?_ | refine W2_exit ?_ | refine W2_skip ?_ | refine W2_seq ?_ | refine W2_block ?_)
      (((first | with_reducible apply W2_sc | with_reducible apply W2_cond); ((conv => lhs; simp only [go_sem]) <;> with_reducible rfl)) <;> intro hx <;> (try rw [hx]) <;> simp only [Bool.or_eq_true, Bool.and_eq_true, decide_eq_true_eq, Bool.or_eq_false_iff, Bool.and_eq_false_iff, decide_eq_false_iff_not, Bool.not_eq_true', Bool.not_eq_false', bne_iff_ne, beq_iff_eq, not_or, not_and, Decidable.not_not, ne_eq, gt_iff_lt, ge_iff_le, Int.not_lt, Int.not_le] at hx)
      · have hjl : j < L2.length := by omega
        have hg := List.getElem?_eq_getElem hjl
        have htk : L2.take (j + 1) = L2.take j ++ [L2[j]] := by rw [List.take_add_one, List.getElem?_eq_getElem hjl]; rfl
        have hmem := List.getElem_mem hjl
        generalize L2[j] = y at hg htk hmem
        have j0 : (0 : Int) ≤ (j : Int) := by omega
        have j1 : (j : Int) < (L2.length : Int) := by omega
        have wj := wS (show j < 9223372036854775807 by omega)
        (repeat' with_reducible first | refine thn2_nrm ?_ | refine thn2_ret ?_ | refine thn2_ex ?_ | refine blk2_nrm ?_ | refine blk2_ret ?_ | refine blk2_at ?_ | (refine blk2_ex ?_ ?_; decide) | refine W2_sas ?_ | refine W2_ss ?_ | refine W2_sret ?_ | refine W2_sexit ?_ | ((first | apply W2_sra | apply W2_srda | apply W2_runa | apply W2_runda); (conv => lhs; simp only [go_sem, ibin, ishift, hg, hjl, cI, j0, j1, wj]) <;> rfl) | ((first | apply W2_srS | apply W2_runS); decide +kernel; (conv => lhs; simp only [go_sem, ibin, ishift, hg, hjl, cI, j0, j1, wj]) <;> rfl) | ((first | apply W2_sct | apply W2_t2); (conv => lhs; simp only [go_sem]) <;> rfl; rfl) | ((first | apply W2_scf | apply W2_f2); (conv => lhs; simp only [go_sem]) <;> rfl; rfl) | refine W2_ret ?_ | refine W2_exit ?_ | refine W2_skip ?_ | refine W2_seq ?_ | refine W2_block ?_)
        have han : (L2.take (j + 1)).any (fun z => decide (z = D)) = ((L2.take j).any (fun z => decide (z = D)) || decide (y = D)) := by rw [htk, List.any_append]; simp
        refine ⟨[0, 1, 2, 3, 4, 5], by decide, rfl, ?_⟩
        exact ⟨L2.length - (j + 1), [(17, .b ((L2.take j).any (fun z => decide (z = D)) || decide (y = D))), (136, .i .i64 ((j + 1 : Nat) : Int))], _, by omega, ⟨j + 1, by omega, by rw [han], rfl⟩, rfl, (by first | rfl | ((conv => lhs; simp only [go_sem, ibin, ishift]) <;> rfl))⟩
      have hjn : j = L2.length := by omega
      subst hjn
      rw [List.take_length, List.any_eq_true.2 ⟨D, hin, decide_eq_true rfl⟩]
      (repeat' with_reducible first | refine thn2_nrm ?_ | refine thn2_ret ?_ | refine thn2_ex ?_ | refine blk2_nrm ?_ | refine blk2_ret ?_ | refine blk2_at ?_ | (refine blk2_ex ?_ ?_; decide) | refine W2_sas ?_ | refine W2_ss ?_ | refine W2_sret ?_ | refine W2_sexit ?_ | ((first | apply W2_sra | apply W2_srda | apply W2_runa | apply W2_runda); (conv => lhs; simp only [go_sem, ibin, ishift]) <;> rfl) | ((first | apply W2_srS | apply W2_runS); decide +kernel; (conv => lhs; simp only [go_sem, ibin, ishift]) <;> rfl) | ((first | apply W2_sct | apply W2_t2); (conv => lhs; simp only [go_sem]) <;> rfl; rfl) | ((first | apply W2_scf | apply W2_f2); (conv => lhs; simp only [go_sem]) <;> rfl; rfl) | refine W2_ret ?_ | refine W2_exit ?_ | refine W2_skip ?_ | refine W2_seq ?_ | refine W2_block ?_)
      (first | (((with_reducible first | apply W2_scall | apply W2_scalld | apply W2_calla | apply W2_callda | apply run2a_sound); ((conv => lhs; simp only [go_sem, ibin, ishift]) <;> with_reducible rfl))) | ((with_reducible first | apply W2_scallS | apply W2_callS); decide +kernel; ((conv => lhs; simp only [go_sem, ibin, ishift]) <;> with_reducible rfl)))
      refine CK_call [1, 2, 3] (mask_spec c.toTabM m1 hw2 D false) (by decide) (by simp) rfl rfl (by first | rfl | (simp only [go_sem, Mi.h]; done) | (simp only [go_sem, Mi.h] <;> rfl)) ?_
      rintro v h' ⟨rfl, rfl⟩
      rw [p1]
      unfold Mi.h
      ((with_reducible first | apply WO2_finw | apply WO2_fina); ((conv => lhs; simp only [go_sem, ibin, ishift]) <;> with_reducible rfl))
      (repeat' with_reducible first | refine thn2_nrm ?_ | refine thn2_ret ?_ | refine thn2_ex ?_ | refine blk2_nrm ?_ | refine blk2_ret ?_ | refine blk2_at ?_ | (refine blk2_ex ?_ ?_; decide) | refine W2_sas ?_ | refine W2_ss ?_ | refine W2_sret ?_ | refine W2_sexit ?_ | ((first | apply W2_sra | apply W2_srda | apply W2_runa | apply W2_runda); (conv => lhs; simp only [go_sem, ibin, ishift]) <;> rfl) | ((first | apply W2_srS | apply W2_runS); decide +kernel; (conv => lhs; simp only [go_sem, ibin, ishift]) <;> rfl) | ((first | apply W2_sct | apply W2_t2); (conv => lhs; simp only [go_sem]) <;> rfl; rfl) | ((first | apply W2_scf | apply W2_f2); (conv => lhs; simp only [go_sem]) <;> rfl; rfl) | refine W2_ret ?_ | refine W2_exit ?_ | refine W2_skip ?_ | refine W2_seq ?_ | refine W2_block ?_)
      rw [← List.take_length (l := m.downs)] at hcnt
      generalize hL0 : m.downs = L0 at hl0 hcnt
      refine W2_loopu (fun mm u g => ∃ j q : Nat, j + mm = L0.length ∧ q = ((L0.take j).filter fun v => !decide (v = D)).length ∧ u = [(20, .i .i64 q), (157, .i .i64 j)] ∧ g = []) L0.length ⟨0, 0, by omega, rfl, rfl, rfl⟩ rfl rfl ?_
      rintro mm u g ⟨j, q, hj, hqn, rfl, rfl⟩
      intro e1 h1 he1 hh1; simp only [egd, supE, hgd, supH, Nat.reduceEqDiff, Nat.reduceAdd, if_true, if_false, reduceIte] at he1 hh1; subst he1; subst hh1
      (repeat' with_reducible first | refine thn2_nrm ?_ | refine thn2_ret ?_ | refine thn2_ex ?_ | refine blk2_nrm ?_ | refine blk2_ret ?_ | refine blk2_at ?_ | (refine blk2_ex ?_ ?_; decide) | refine W2_sas ?_ | refine W2_ss ?_ | refine W2_sret ?_ | refine W2_sexit ?_ | ((first | apply W2_sra | apply W2_srda | apply W2_runa | apply W2_runda); (conv => lhs; simp only [go_sem, ibin, ishift]) <;> rfl) | ((first | apply W2_srS | apply W2_runS); decide +kernel; (conv => lhs; simp only [go_sem, ibin, ishift]) <;> rfl) | ((first | apply W2_sct | apply W2_t2); (conv => lhs; simp only [go_sem]) <;> rfl; rfl) | ((first | apply W2_scf | apply W2_f2); (conv => lhs; simp only [go_sem]) <;> rfl; rfl) | refine W2_ret ?_ | refine W2_exit ?_ | refine W2_skip ?_ | refine W2_seq ?_ | refine W2_block ?_)
      (((first | with_reducible apply W2_sc | with_reducible apply W2_cond); ((conv => lhs; simp only [go_sem]) <;> with_reducible rfl)) <;> intro hx <;> (try rw [hx]) <;> simp only [Bool.or_eq_true, Bool.and_eq_true, decide_eq_true_eq, Bool.or_eq_false_iff, Bool.and_eq_false_iff, decide_eq_false_iff_not, Bool.not_eq_true', Bool.not_eq_false', bne_iff_ne, beq_iff_eq, not_or, not_and, Decidable.not_not, ne_eq, gt_iff_lt, ge_iff_le, Int.not_lt, Int.not_le] at hx)
      · have hjl : j < L0.length := by omega
        have hg := List.getElem?_eq_getElem hjl
        have htk : L0.take (j + 1) = L0.take j ++ [L0[j]] := by rw [List.take_add_one, List.getElem?_eq_getElem hjl]; rfl
        have hmem := List.getElem_mem hjl
        generalize L0[j] = y at hg htk hmem
        have j0 : (0 : Int) ≤ (j : Int) := by omega
        have j1 : (j : Int) < (L0.length : Int) := by omega
        have wj := wS (show j < 9223372036854775807 by omega)
        have hqj : q ≤ j := by rw [hqn]; exact Nat.le_trans (List.length_filter_le ..) (by rw [List.length_take]; omega)
        have wq := wS (show q < 9223372036854775807 by omega)
        by_cases hy : y = D
        · have ey : decide (y = D) = true := decide_eq_true hy
          have hf : (L0.take (j + 1)).filter (fun v => !decide (v = D)) = (L0.take j).filter fun v => !decide (v = D) := by rw [htk, List.filter_append]; simp [hy]
          (repeat' with_reducible first | refine thn2_nrm ?_ | refine thn2_ret ?_ | refine thn2_ex ?_ | refine blk2_nrm ?_ | refine blk2_ret ?_ | refine blk2_at ?_ | (refine blk2_ex ?_ ?_; decide) | refine W2_sas ?_ | refine W2_ss ?_ | refine W2_sret ?_ | refine W2_sexit ?_ | ((first | apply W2_sra | apply W2_srda | apply W2_runa | apply W2_runda); (conv => lhs; simp only [go_sem, ibin, ishift, hg, hjl, cI, j0, j1, ey, wj]) <;> rfl) | ((first | apply W2_srS | apply W2_runS); decide +kernel; (conv => lhs; simp only [go_sem, ibin, ishift, hg, hjl, cI, j0, j1, ey, wj]) <;> rfl) | ((first | apply W2_sct | apply W2_t2); (conv => lhs; simp only [go_sem]) <;> rfl; rfl) | ((first | apply W2_scf | apply W2_f2); (conv => lhs; simp only [go_sem]) <;> rfl; rfl) | refine W2_ret ?_ | refine W2_exit ?_ | refine W2_skip ?_ | refine W2_seq ?_ | refine W2_block ?_)
          refine ⟨[0, 1, 2, 3, 4, 5], by decide, rfl, ?_⟩
          exact ⟨L0.length - (j + 1), _, _, by omega, ⟨j + 1, q, by omega, by rw [hf]; exact hqn, rfl, rfl⟩, rfl, (by first | rfl | ((conv => lhs; simp only [go_sem, ibin, ishift]) <;> rfl))⟩
        · have ey : decide (y = D) = false := decide_eq_false hy
          have hf : (L0.take (j + 1)).filter (fun v => !decide (v = D)) = ((L0.take j).filter fun v => !decide (v = D)) ++ [y] := by rw [htk, List.filter_append]; simp [hy]
          (repeat' with_reducible first | refine thn2_nrm ?_ | refine thn2_ret ?_ | refine thn2_ex ?_ | refine blk2_nrm ?_ | refine blk2_ret ?_ | refine blk2_at ?_ | (refine blk2_ex ?_ ?_; decide) | refine W2_sas ?_ | refine W2_ss ?_ | refine W2_sret ?_ | refine W2_sexit ?_ | ((first | apply W2_sra | apply W2_srda | apply W2_runa | apply W2_runda); (conv => lhs; simp only [go_sem, ibin, ishift, hg, hjl, cI, j0, j1, ey, wj, wq]) <;> rfl) | ((first | apply W2_srS | apply W2_runS); decide +kernel; (conv => lhs; simp only [go_sem, ibin, ishift, hg, hjl, cI, j0, j1, ey, wj, wq]) <;> rfl) | ((first | apply W2_sct | apply W2_t2); (conv => lhs; simp only [go_sem]) <;> rfl; rfl) | ((first | apply W2_scf | apply W2_f2); (conv => lhs; simp only [go_sem]) <;> rfl; rfl) | refine W2_ret ?_ | refine W2_exit ?_ | refine W2_skip ?_ | refine W2_seq ?_ | refine W2_block ?_)
          refine ⟨[0, 1, 2, 3, 4, 5], by decide, rfl, ?_⟩
          exact ⟨L0.length - (j + 1), _, _, by omega, ⟨j + 1, q + 1, by omega, by rw [hf, List.length_append, ← hqn]; rfl, rfl, rfl⟩, rfl, (by first | rfl | ((conv => lhs; simp only [go_sem, ibin, ishift]) <;> rfl))⟩
      have hjn : j = L0.length := by omega
      subst hjn
      (repeat' with_reducible first | refine thn2_nrm ?_ | refine thn2_ret ?_ | refine thn2_ex ?_ | refine blk2_nrm ?_ | refine blk2_ret ?_ | refine blk2_at ?_ | (refine blk2_ex ?_ ?_; decide) | refine W2_sas ?_ | refine W2_ss ?_ | refine W2_sret ?_ | refine W2_sexit ?_ | ((first | apply W2_sra | apply W2_srda | apply W2_runa | apply W2_runda); (conv => lhs; simp only [go_sem, ibin, ishift]) <;> rfl) | ((first | apply W2_srS | apply W2_runS); decide +kernel; (conv => lhs; simp only [go_sem, ibin, ishift]) <;> rfl) | ((first | apply W2_sct | apply W2_t2); (conv => lhs; simp only [go_sem]) <;> rfl; rfl) | ((first | apply W2_scf | apply W2_f2); (conv => lhs; simp only [go_sem]) <;> rfl; rfl) | refine W2_ret ?_ | refine W2_exit ?_ | refine W2_skip ?_ | refine W2_seq ?_ | refine W2_block ?_)
      (first | (((with_reducible first | apply W2_scall | apply W2_scalld | apply W2_calla | apply W2_callda | apply run2a_sound); ((conv => lhs; simp only [go_sem, ibin, ishift]) <;> with_reducible rfl))) | ((with_reducible first | apply W2_scallS | apply W2_callS); decide +kernel; ((conv => lhs; simp only [go_sem, ibin, ishift]) <;> with_reducible rfl)))
      refine CK_call [1, 2, 3] (down_spec c.toTabM m3 hk3) (by decide) (by simp) rfl rfl (by first | rfl | (simp only [go_sem, Mi.h]; done) | (simp only [go_sem, Mi.h] <;> rfl)) ?_
      rintro v h' ⟨rfl, rfl⟩
      unfold Mi.h
      rw [hcnt, ← hqn]
      have eq : decide ((q : Int) = (q : Int)) = true := by simp
      ((with_reducible first | apply WO2_finw | apply WO2_fina); ((conv => lhs; simp only [go_sem, ibin, ishift, eq]) <;> with_reducible rfl))
      (repeat' with_reducible first | refine thn2_nrm ?_ | refine thn2_ret ?_ | refine thn2_ex ?_ | refine blk2_nrm ?_ | refine blk2_ret ?_ | refine blk2_at ?_ | (refine blk2_ex ?_ ?_; decide) | refine W2_sas ?_ | refine W2_ss ?_ | refine W2_sret ?_ | refine W2_sexit ?_ | ((first | apply W2_sra | apply W2_srda | apply W2_runa | apply W2_runda); (conv => lhs; simp only [go_sem, ibin, ishift]) <;> rfl) | ((first | apply W2_srS | apply W2_runS); decide +kernel; (conv => lhs; simp only [go_sem, ibin, ishift]) <;> rfl) | ((first | apply W2_sct | apply W2_t2); (conv => lhs; simp only [go_sem]) <;> rfl; rfl) | ((first | apply W2_scf | apply W2_f2); (conv => lhs; simp only [go_sem]) <;> rfl; rfl) | refine W2_ret ?_ | refine W2_exit ?_ | refine W2_skip ?_ | refine W2_seq ?_ | refine W2_block ?_)
      refine ⟨by first | exact .inr rfl | exact .inl rfl, _, _, (by (conv => lhs; simp only [go_sem, ibin, ishift]) <;> with_reducible rfl), (by (conv => lhs; simp only [go_sem, ibin, ishift]) <;> with_reducible rfl), ?_⟩
      refine ⟨[], by decide, rfl, ?_⟩
      rfl
end Go.Proofs.Ytjijhkmimjolhaa.Ab
