/- Chapter 10: grants. -/
import Derived.Test.YtpgoemmjhnnmoaaY10c
namespace Go.Proofs.Ytpgoemmjhnnmoaa.Ab
open Go
set_option linter.unusedVariables false
set_option linter.unusedSimpArgs false
variable {T : AT}
def cB (b : Bool) : List PV := [.b b]
/-- may a node be had? -/
def freeN (hold : List Int) (wl : List Bool) (tote n : Int) : Bool := !(wl[n.toNat]?.getD true) && (decide (hold[n.toNat]?.getD 0 = 0) || decide (hold[n.toNat]?.getD 0 = tote))
def freeC (hold : List Int) (wl : List Bool) (c : Clm) : Bool := c.ns.all (freeN hold wl c.t)
def markL {α : Type} (l : List α) (ns : List Int) (v : α) : List α := ns.foldl (fun l n => l.set n.toNat v) l
theorem markL_len {α : Type} (ns : List Int) (v : α) : ∀ (l : List α), (markL l ns v).length = l.length := by
  induction ns with
  | nil => intro l; rfl
  | cons n ns ih => intro l; exact (ih _).trans (List.length_set ..)
/-- the first claim that may be granted -/
def scan (hold : List Int) : List Bool → List Clm → Option Nat
  | _, [] => none
  | wl, c :: r => if freeC hold wl c = true then some 0 else (scan hold (markL wl c.ns true) r).map (· + 1)
def inB (len : Nat) (l : List Int) : Prop := ∀ n ∈ l, 0 ≤ n ∧ n < len
/-- memory while a claim is looked at -/
def grH (t : Tab) (out : List Int) (wl : List Bool) (c : Clm) : SH :=
  [some (.obj [.sl 1 1 0 t.hold.length none, .sl 2 2 0 t.q.length none]), some (.arr 1 (t.hold.map cI)), some (.arr 2 (t.q.map cQ)), some (.arr 1 (out.map cI)), some (.arr 1 (wl.map cB)), some (.obj [.i .i64 c.t, .fz 1 (c.ns.map cI)])]
def grE (t : Tab) (out : List Int) (c : Clm) (j : Nat) (f : Bool) (i : Nat) : SE :=
  [(0, .ptr 0 0), (3, .sl 1 3 0 out.length none), (4, .sl 1 4 0 t.hold.length none), (5, .i .i64 j), (6, .ptr 5 0), (7, .b f), (23, .sl 2 2 0 t.q.length none), (24, .i .i64 t.q.length), (25, .i .i64 j), (31, .fz 1 (c.ns.map cI)), (32, .i .i64 c.ns.length), (33, .i .i64 i)]
theorem free_loop (t : Tab) (out : List Int) (wl : List Bool) (c : Clm) (j : Nat) {Q : XT → SE → SH → Prop} (hb : inB t.hold.length c.ns) (hw : wl.length = t.hold.length) (hn : c.ns.length ≤ 1000000)
    (hq : Q (.ex 4) (grE t out c j (freeC t.hold wl c) c.ns.length ++ [(34, .b false)]) (grH t out wl c)) : W2 T 1 (.loop c_claim_Table_grants_b4) (grE t out c j true 0) (grH t out wl c) Q := by
  refine W2_loopv (fun m e h => ∃ i, i + m = c.ns.length ∧ e = grE t out c j ((c.ns.take i).all (freeN t.hold wl c.t)) i ∧ h = grH t out wl c) c.ns.length ⟨0, by omega, rfl, rfl⟩ ?_
  rintro m e h ⟨i, hi, rfl, rfl⟩
  unfold grE grH
  (repeat' with_reducible first | refine thn2_nrm ?_ | refine thn2_ret ?_ | refine thn2_ex ?_ | refine blk2_nrm ?_ | refine blk2_ret ?_ | refine blk2_at ?_ | (refine blk2_ex ?_ ?_; decide) | refine W2_sas ?_ | refine W2_ss ?_ | refine W2_sret ?_ | refine W2_sexit ?_ | ((first | apply W2_sra | apply W2_srda | apply W2_runa | apply W2_runda); (conv => lhs; simp only [go_sem, ibin, ishift]) <;> rfl) | ((first | apply W2_sct | apply W2_t2); (conv => lhs; simp only [go_sem]) <;> rfl; rfl) | ((first | apply W2_scf | apply W2_f2); (conv => lhs; simp only [go_sem]) <;> rfl; rfl) | refine W2_ret ?_ | refine W2_exit ?_ | refine W2_skip ?_ | refine W2_seq ?_ | refine W2_block ?_)
  (((first | with_reducible apply W2_sc | with_reducible apply W2_cond); ((conv => lhs; simp only [go_sem]) <;> with_reducible rfl)) <;> intro hx <;> (try rw [hx]) <;> simp only [Bool.or_eq_true, Bool.and_eq_true, decide_eq_true_eq, Bool.or_eq_false_iff, Bool.and_eq_false_iff, decide_eq_false_iff_not, Bool.not_eq_true', Bool.not_eq_false', bne_iff_ne, beq_iff_eq, not_or, not_and, Decidable.not_not, ne_eq, gt_iff_lt, ge_iff_le, Int.not_lt, Int.not_le] at hx)
  · have hil : i < c.ns.length := by omega
    have hg := List.getElem?_eq_getElem hil
    have htk : c.ns.take (i + 1) = c.ns.take i ++ [c.ns[i]] := by rw [List.take_add_one, List.getElem?_eq_getElem hil]; rfl
    obtain ⟨h0, h1⟩ := hb _ (List.getElem_mem hil)
    generalize c.ns[i] = x at hg htk h0 h1
    obtain ⟨m, rfl⟩ := Int.eq_ofNat_of_zero_le h0
    have hml : m < t.hold.length := by omega
    have hmw : m < wl.length := by omega
    have g1 := List.getElem?_eq_getElem hml
    have g2 := List.getElem?_eq_getElem hmw
    generalize t.hold[m] = y at g1
    generalize wl[m] = w at g2
    have hmi : (m : Int) < (t.hold.length : Int) := by omega
    have hs : (c.ns.take (i + 1)).all (freeN t.hold wl c.t) = ((c.ns.take i).all (freeN t.hold wl c.t) && freeN t.hold wl c.t m) := by rw [htk, List.all_append]; simp
    have hf : freeN t.hold wl c.t m = (!w && (decide (y = 0) || decide (y = c.t))) := by simp [freeN, g1, g2]
    generalize (c.ns.take i).all (freeN t.hold wl c.t) = f at hs
    (repeat' with_reducible first | refine thn2_nrm ?_ | refine thn2_ret ?_ | refine thn2_ex ?_ | refine blk2_nrm ?_ | refine blk2_ret ?_ | refine blk2_at ?_ | (refine blk2_ex ?_ ?_; decide) | refine W2_sas ?_ | refine W2_ss ?_ | refine W2_sret ?_ | refine W2_sexit ?_ | ((first | apply W2_sra | apply W2_srda | apply W2_runa | apply W2_runda); (conv => lhs; simp only [go_sem, ibin, ishift, hg, hil, h0, h1, hmi, hml, hmw, g1, g2, cI, cB, wS (show i < 9223372036854775807 by omega)]) <;> rfl) | ((first | apply W2_sct | apply W2_t2); (conv => lhs; simp only [go_sem]) <;> rfl; rfl) | ((first | apply W2_scf | apply W2_f2); (conv => lhs; simp only [go_sem]) <;> rfl; rfl) | refine W2_ret ?_ | refine W2_exit ?_ | refine W2_skip ?_ | refine W2_seq ?_ | refine W2_block ?_)
    refine ⟨[0, 1, 2, 3, 4, 5], by decide, rfl, ?_⟩
    refine ⟨c.ns.length - (i + 1), by omega, i + 1, by omega, ?_, rfl⟩
    rw [hs, hf]
    simp only [← Bool.and_assoc]
    rfl
  · have : i = c.ns.length := by omega
    subst this
    rw [List.take_length]
    (repeat' with_reducible first | refine thn2_nrm ?_ | refine thn2_ret ?_ | refine thn2_ex ?_ | refine blk2_nrm ?_ | refine blk2_ret ?_ | refine blk2_at ?_ | (refine blk2_ex ?_ ?_; decide) | refine W2_sas ?_ | refine W2_ss ?_ | refine W2_sret ?_ | refine W2_sexit ?_ | ((first | apply W2_sra | apply W2_srda | apply W2_runa | apply W2_runda); (conv => lhs; simp only [go_sem, ibin, ishift]) <;> rfl) | ((first | apply W2_sct | apply W2_t2); (conv => lhs; simp only [go_sem]) <;> rfl; rfl) | ((first | apply W2_scf | apply W2_f2); (conv => lhs; simp only [go_sem]) <;> rfl; rfl) | refine W2_ret ?_ | refine W2_exit ?_ | refine W2_skip ?_ | refine W2_seq ?_ | refine W2_block ?_)
    exact hq
theorem markL_take {α : Type} (l : List α) (ns : List Int) (v : α) {i : Nat} {m : Nat} (hg : ns[i]? = some (m : Int)) : markL l (ns.take (i + 1)) v = (markL l (ns.take i) v).set m v := by
  obtain ⟨hi, he⟩ := List.getElem?_eq_some_iff.1 hg
  have : ns.take (i + 1) = ns.take i ++ [(m : Int)] := by rw [List.take_add_one, hg]; rfl
  rw [this, markL, List.foldl_append]
  rfl
def maE (t : Tab) (out : List Int) (c : Clm) (j i : Nat) : SE :=
  [(0, .ptr 0 0), (3, .sl 1 3 0 out.length none), (4, .sl 1 4 0 t.hold.length none), (23, .sl 2 2 0 t.q.length none), (24, .i .i64 t.q.length), (25, .i .i64 j), (71, .fz 1 (c.ns.map cI)), (72, .i .i64 c.ns.length), (73, .i .i64 i)]
theorem mark_loop (t : Tab) (out : List Int) (wl : List Bool) (c : Clm) (j : Nat) {Q : XT → SE → SH → Prop} (hb : inB t.hold.length c.ns) (hw : wl.length = t.hold.length) (hn : c.ns.length ≤ 1000000)
    (hq : Q (.ex 6) (maE t out c j c.ns.length ++ [(74, .b false)]) (grH t out (markL wl c.ns true) c)) : W2 T 1 (.loop c_claim_Table_grants_b8) (maE t out c j 0) (grH t out wl c) Q := by
  refine W2_loopv (fun m e h => ∃ i, i + m = c.ns.length ∧ e = maE t out c j i ∧ h = grH t out (markL wl (c.ns.take i) true) c) c.ns.length ⟨0, by omega, rfl, rfl⟩ ?_
  rintro m e h ⟨i, hi, rfl, rfl⟩
  unfold maE grH
  (repeat' with_reducible first | refine thn2_nrm ?_ | refine thn2_ret ?_ | refine thn2_ex ?_ | refine blk2_nrm ?_ | refine blk2_ret ?_ | refine blk2_at ?_ | (refine blk2_ex ?_ ?_; decide) | refine W2_sas ?_ | refine W2_ss ?_ | refine W2_sret ?_ | refine W2_sexit ?_ | ((first | apply W2_sra | apply W2_srda | apply W2_runa | apply W2_runda); (conv => lhs; simp only [go_sem, ibin, ishift]) <;> rfl) | ((first | apply W2_sct | apply W2_t2); (conv => lhs; simp only [go_sem]) <;> rfl; rfl) | ((first | apply W2_scf | apply W2_f2); (conv => lhs; simp only [go_sem]) <;> rfl; rfl) | refine W2_ret ?_ | refine W2_exit ?_ | refine W2_skip ?_ | refine W2_seq ?_ | refine W2_block ?_)
  (((first | with_reducible apply W2_sc | with_reducible apply W2_cond); ((conv => lhs; simp only [go_sem]) <;> with_reducible rfl)) <;> intro hx <;> (try rw [hx]) <;> simp only [Bool.or_eq_true, Bool.and_eq_true, decide_eq_true_eq, Bool.or_eq_false_iff, Bool.and_eq_false_iff, decide_eq_false_iff_not, Bool.not_eq_true', Bool.not_eq_false', bne_iff_ne, beq_iff_eq, not_or, not_and, Decidable.not_not, ne_eq, gt_iff_lt, ge_iff_le, Int.not_lt, Int.not_le] at hx)
  · have hil : i < c.ns.length := by omega
    have hg := List.getElem?_eq_getElem hil
    obtain ⟨h0, h1⟩ := hb _ (List.getElem_mem hil)
    generalize c.ns[i] = x at hg h0 h1
    obtain ⟨m, rfl⟩ := Int.eq_ofNat_of_zero_le h0
    have hs := markL_take wl c.ns true hg
    have hln := markL_len (c.ns.take i) true wl
    generalize markL wl (c.ns.take i) true = l at hs hln
    have hmw : m < l.length := by omega
    have hmi : (m : Int) < (t.hold.length : Int) := by omega
    have hmm : m < wl.length := by omega
    have g2 := List.getElem?_eq_getElem hmw
    generalize l[m] = w at g2
    (repeat' with_reducible first | refine thn2_nrm ?_ | refine thn2_ret ?_ | refine thn2_ex ?_ | refine blk2_nrm ?_ | refine blk2_ret ?_ | refine blk2_at ?_ | (refine blk2_ex ?_ ?_; decide) | refine W2_sas ?_ | refine W2_ss ?_ | refine W2_sret ?_ | refine W2_sexit ?_ | ((first | apply W2_sra | apply W2_srda | apply W2_runa | apply W2_runda); (conv => lhs; simp only [go_sem, ibin, ishift, hg, hil, h0, h1, hmi, hmw, hmm, g2, cI, cB, wS (show i < 9223372036854775807 by omega)]) <;> rfl) | ((first | apply W2_sct | apply W2_t2); (conv => lhs; simp only [go_sem]) <;> rfl; rfl) | ((first | apply W2_scf | apply W2_f2); (conv => lhs; simp only [go_sem]) <;> rfl; rfl) | refine W2_ret ?_ | refine W2_exit ?_ | refine W2_skip ?_ | refine W2_seq ?_ | refine W2_block ?_)
    refine ⟨[0, 1, 2, 3, 4, 5], by decide, rfl, ?_⟩
    refine ⟨c.ns.length - (i + 1), by omega, i + 1, by omega, rfl, ?_⟩
    rw [hs, List.map_set]
    rfl
  · have : i = c.ns.length := by omega
    subst this
    rw [List.take_length]
    (repeat' with_reducible first | refine thn2_nrm ?_ | refine thn2_ret ?_ | refine thn2_ex ?_ | refine blk2_nrm ?_ | refine blk2_ret ?_ | refine blk2_at ?_ | (refine blk2_ex ?_ ?_; decide) | refine W2_sas ?_ | refine W2_ss ?_ | refine W2_sret ?_ | refine W2_sexit ?_ | ((first | apply W2_sra | apply W2_srda | apply W2_runa | apply W2_runda); (conv => lhs; simp only [go_sem, ibin, ishift]) <;> rfl) | ((first | apply W2_sct | apply W2_t2); (conv => lhs; simp only [go_sem]) <;> rfl; rfl) | ((first | apply W2_scf | apply W2_f2); (conv => lhs; simp only [go_sem]) <;> rfl; rfl) | refine W2_ret ?_ | refine W2_exit ?_ | refine W2_skip ?_ | refine W2_seq ?_ | refine W2_block ?_)
    exact hq
/-- memory while a claim is granted -/
def hoH (n : Nat) (hold : List Int) (t : Tab) (out : List Int) (wl : List Bool) (c : Clm) : SH :=
  [some (.obj [.sl 1 1 0 n none, .sl 2 2 0 t.q.length none]), some (.arr 1 (hold.map cI)), some (.arr 2 (t.q.map cQ)), some (.arr 1 (out.map cI)), some (.arr 1 (wl.map cB)), some (.obj [.i .i64 c.t, .fz 1 (c.ns.map cI)])]
def hoE (out : List Int) (c : Clm) (j i : Nat) : SE :=
  [(0, .ptr 0 0), (3, .sl 1 3 0 out.length none), (5, .i .i64 j), (6, .ptr 5 0), (82, .fz 1 (c.ns.map cI)), (83, .i .i64 c.ns.length), (84, .i .i64 i)]
theorem hold_loop (t : Tab) (out : List Int) (wl : List Bool) (c : Clm) (j : Nat) {Q : XT → SE → SH → Prop} (hb : inB t.hold.length c.ns) (hn : c.ns.length ≤ 1000000)
    (hq : Q (.ex 8) (hoE out c j c.ns.length ++ [(85, .b false)]) (hoH t.hold.length (markL t.hold c.ns c.t) t out wl c)) : W2 T 1 (.loop c_claim_Table_grants_b15) (hoE out c j 0) (hoH t.hold.length t.hold t out wl c) Q := by
  refine W2_loopv (fun m e h => ∃ i, i + m = c.ns.length ∧ e = hoE out c j i ∧ h = hoH t.hold.length (markL t.hold (c.ns.take i) c.t) t out wl c) c.ns.length ⟨0, by omega, rfl, rfl⟩ ?_
  rintro m e h ⟨i, hi, rfl, rfl⟩
  unfold hoE hoH
  (repeat' with_reducible first | refine thn2_nrm ?_ | refine thn2_ret ?_ | refine thn2_ex ?_ | refine blk2_nrm ?_ | refine blk2_ret ?_ | refine blk2_at ?_ | (refine blk2_ex ?_ ?_; decide) | refine W2_sas ?_ | refine W2_ss ?_ | refine W2_sret ?_ | refine W2_sexit ?_ | ((first | apply W2_sra | apply W2_srda | apply W2_runa | apply W2_runda); (conv => lhs; simp only [go_sem, ibin, ishift]) <;> rfl) | ((first | apply W2_sct | apply W2_t2); (conv => lhs; simp only [go_sem]) <;> rfl; rfl) | ((first | apply W2_scf | apply W2_f2); (conv => lhs; simp only [go_sem]) <;> rfl; rfl) | refine W2_ret ?_ | refine W2_exit ?_ | refine W2_skip ?_ | refine W2_seq ?_ | refine W2_block ?_)
  (((first | with_reducible apply W2_sc | with_reducible apply W2_cond); ((conv => lhs; simp only [go_sem]) <;> with_reducible rfl)) <;> intro hx <;> (try rw [hx]) <;> simp only [Bool.or_eq_true, Bool.and_eq_true, decide_eq_true_eq, Bool.or_eq_false_iff, Bool.and_eq_false_iff, decide_eq_false_iff_not, Bool.not_eq_true', Bool.not_eq_false', bne_iff_ne, beq_iff_eq, not_or, not_and, Decidable.not_not, ne_eq, gt_iff_lt, ge_iff_le, Int.not_lt, Int.not_le] at hx)
  · have hil : i < c.ns.length := by omega
    have hg := List.getElem?_eq_getElem hil
    obtain ⟨h0, h1⟩ := hb _ (List.getElem_mem hil)
    generalize c.ns[i] = x at hg h0 h1
    obtain ⟨m, rfl⟩ := Int.eq_ofNat_of_zero_le h0
    have hs := markL_take t.hold c.ns c.t hg
    have hln := markL_len (c.ns.take i) c.t t.hold
    generalize markL t.hold (c.ns.take i) c.t = l at hs hln
    have hmw : m < l.length := by omega
    have hmm : m < t.hold.length := by omega
    have g2 := List.getElem?_eq_getElem hmw
    generalize l[m] = w at g2
    (repeat' with_reducible first | refine thn2_nrm ?_ | refine thn2_ret ?_ | refine thn2_ex ?_ | refine blk2_nrm ?_ | refine blk2_ret ?_ | refine blk2_at ?_ | (refine blk2_ex ?_ ?_; decide) | refine W2_sas ?_ | refine W2_ss ?_ | refine W2_sret ?_ | refine W2_sexit ?_ | ((first | apply W2_sra | apply W2_srda | apply W2_runa | apply W2_runda); (conv => lhs; simp only [go_sem, ibin, ishift, hg, hil, h0, h1, hmw, hmm, g2, cI, cB, wS (show i < 9223372036854775807 by omega)]) <;> rfl) | ((first | apply W2_sct | apply W2_t2); (conv => lhs; simp only [go_sem]) <;> rfl; rfl) | ((first | apply W2_scf | apply W2_f2); (conv => lhs; simp only [go_sem]) <;> rfl; rfl) | refine W2_ret ?_ | refine W2_exit ?_ | refine W2_skip ?_ | refine W2_seq ?_ | refine W2_block ?_)
    refine ⟨[0, 1, 2, 3, 4, 5], by decide, rfl, ?_⟩
    refine ⟨c.ns.length - (i + 1), by omega, i + 1, by omega, rfl, ?_⟩
    rw [hs, List.map_set]
    rfl
  · have : i = c.ns.length := by omega
    subst this
    rw [List.take_length]
    (repeat' with_reducible first | refine thn2_nrm ?_ | refine thn2_ret ?_ | refine thn2_ex ?_ | refine blk2_nrm ?_ | refine blk2_ret ?_ | refine blk2_at ?_ | (refine blk2_ex ?_ ?_; decide) | refine W2_sas ?_ | refine W2_ss ?_ | refine W2_sret ?_ | refine W2_sexit ?_ | ((first | apply W2_sra | apply W2_srda | apply W2_runa | apply W2_runda); (conv => lhs; simp only [go_sem, ibin, ishift]) <;> rfl) | ((first | apply W2_sct | apply W2_t2); (conv => lhs; simp only [go_sem]) <;> rfl; rfl) | ((first | apply W2_scf | apply W2_f2); (conv => lhs; simp only [go_sem]) <;> rfl; rfl) | refine W2_ret ?_ | refine W2_exit ?_ | refine W2_skip ?_ | refine W2_seq ?_ | refine W2_block ?_)
    exact hq
end Go.Proofs.Ytpgoemmjhnnmoaa.Ab
