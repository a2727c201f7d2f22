/- Chapter 16: a round's end. -/
import Derived.Test.YthnoccmngpoibaaY16h
namespace Go.Proofs.Ythnoccmngpoibaa.Ab
open Go
set_option linter.unusedVariables false
set_option linter.unusedSimpArgs false
variable {T : AT}
theorem awake_spec (c : TabL16 T) : Ret2 T 0 i_stillagelaw16_awake [] [] (fun v h' => v = .b true ∧ h' = []) := by
  refine Ret2_fnv c.awake rfl rfl ?_
  let b1 : Bk := ⟨[⟨7, 2, 1, 1⟩], []⟩
  have k1 : b1.Ok := ⟨by simp [b1], by simp [b1], by simp [b1], by simp [b1], by simp [b1]⟩
  have e0 : Bk.nil.add 7 2 1 = (b1, true, 0) := rfl
  have e1 : b1.add 7 2 1 = (b1, false, 0) := rfl
  have e2 : b1.add 7 2 9 = (b1, false, 2) := rfl
  have e3 : b1.add 8 2 1 = (b1, false, 160) := rfl
  have e4 : b1.serve 7 = (⟨[⟨7, 2, 1, 2⟩], [7]⟩, 0) := rfl
  have e5 : (Bk.mk [⟨7, 2, 1, 2⟩] [7]).state 7 = 2 := rfl
  (repeat' with_reducible first | refine thn2_nrm ?_ | refine thn2_ret ?_ | refine thn2_ex ?_ | refine blk2_nrm ?_ | refine blk2_ret ?_ | refine blk2_at ?_ | (refine blk2_ex ?_ ?_; decide) | refine W2_sas ?_ | refine W2_ss ?_ | refine W2_sret ?_ | refine W2_sexit ?_ | ((first | apply W2_sra | apply W2_srda | apply W2_runa | apply W2_runda); (conv => lhs; simp only [go_sem, ibin, ishift]) <;> rfl) | ((first | apply W2_srS | apply W2_runS); decide +kernel; (conv => lhs; simp only [go_sem, ibin, ishift]) <;> rfl) | ((first | apply W2_sct | apply W2_t2); (conv => lhs; simp only [go_sem]) <;> rfl; rfl) | ((first | apply W2_scf | apply W2_f2); (conv => lhs; simp only [go_sem]) <;> rfl; rfl) | refine W2_ret ?_ | refine W2_exit ?_ | refine W2_skip ?_ | refine W2_seq ?_ | refine W2_block ?_)
  (first | (((with_reducible first | apply W2_scall | apply W2_scalld | apply W2_calla | apply W2_callda | apply run2a_sound); ((conv => lhs; simp only [go_sem, ibin, ishift]) <;> with_reducible rfl))) | ((with_reducible first | apply W2_scallS | apply W2_callS); decide +kernel; ((conv => lhs; simp only [go_sem, ibin, ishift]) <;> with_reducible rfl)))
  refine CK_pure (new_spec c.p) rfl ?_
  rintro v h' ⟨rfl, rfl⟩
  unfold Bk.h
  ((with_reducible first | apply WO2_finw | apply WO2_fina); ((conv => lhs; simp only [go_sem, ibin, ishift]) <;> with_reducible rfl))
  (repeat' with_reducible first | refine thn2_nrm ?_ | refine thn2_ret ?_ | refine thn2_ex ?_ | refine blk2_nrm ?_ | refine blk2_ret ?_ | refine blk2_at ?_ | (refine blk2_ex ?_ ?_; decide) | refine W2_sas ?_ | refine W2_ss ?_ | refine W2_sret ?_ | refine W2_sexit ?_ | ((first | apply W2_sra | apply W2_srda | apply W2_runa | apply W2_runda); (conv => lhs; simp only [go_sem, ibin, ishift]) <;> rfl) | ((first | apply W2_srS | apply W2_runS); decide +kernel; (conv => lhs; simp only [go_sem, ibin, ishift]) <;> rfl) | ((first | apply W2_sct | apply W2_t2); (conv => lhs; simp only [go_sem]) <;> rfl; rfl) | ((first | apply W2_scf | apply W2_f2); (conv => lhs; simp only [go_sem]) <;> rfl; rfl) | refine W2_ret ?_ | refine W2_exit ?_ | refine W2_skip ?_ | refine W2_seq ?_ | refine W2_block ?_)
  (first | (((with_reducible first | apply W2_scall | apply W2_scalld | apply W2_calla | apply W2_callda | apply run2a_sound); ((conv => lhs; simp only [go_sem, ibin, ishift]) <;> with_reducible rfl))) | ((with_reducible first | apply W2_scallS | apply W2_callS); decide +kernel; ((conv => lhs; simp only [go_sem, ibin, ishift]) <;> with_reducible rfl)))
  refine CK_call [0, 1, 2, 3] (add_spec c.p Bk.nil Bk.nil_ok 7 2 1) (by decide) (by simp) rfl rfl (by first | rfl | (simp only [go_sem, Bk.h]; done) | (simp only [go_sem, Bk.h] <;> rfl)) ?_
  rintro v h' ⟨rfl, rfl⟩
  rw [e0]
  generalize b1 = b at *
  unfold Bk.h
  ((with_reducible first | apply WO2_finw | apply WO2_fina); ((conv => lhs; simp only [go_sem, ibin, ishift]) <;> with_reducible rfl))
  (repeat' with_reducible first | refine thn2_nrm ?_ | refine thn2_ret ?_ | refine thn2_ex ?_ | refine blk2_nrm ?_ | refine blk2_ret ?_ | refine blk2_at ?_ | (refine blk2_ex ?_ ?_; decide) | refine W2_sas ?_ | refine W2_ss ?_ | refine W2_sret ?_ | refine W2_sexit ?_ | ((first | apply W2_sra | apply W2_srda | apply W2_runa | apply W2_runda); (conv => lhs; simp only [go_sem, ibin, ishift]) <;> rfl) | ((first | apply W2_srS | apply W2_runS); decide +kernel; (conv => lhs; simp only [go_sem, ibin, ishift]) <;> rfl) | ((first | apply W2_sct | apply W2_t2); (conv => lhs; simp only [go_sem]) <;> rfl; rfl) | ((first | apply W2_scf | apply W2_f2); (conv => lhs; simp only [go_sem]) <;> rfl; rfl) | refine W2_ret ?_ | refine W2_exit ?_ | refine W2_skip ?_ | refine W2_seq ?_ | refine W2_block ?_)
  (first | (((with_reducible first | apply W2_scall | apply W2_scalld | apply W2_calla | apply W2_callda | apply run2a_sound); ((conv => lhs; simp only [go_sem, ibin, ishift]) <;> with_reducible rfl))) | ((with_reducible first | apply W2_scallS | apply W2_callS); decide +kernel; ((conv => lhs; simp only [go_sem, ibin, ishift]) <;> with_reducible rfl)))
  refine CK_call [0, 1, 2, 3] (add_spec c.p b k1 7 2 1) (by decide) (by simp) rfl rfl (by first | rfl | (simp only [go_sem, Bk.h]; done) | (simp only [go_sem, Bk.h] <;> rfl)) ?_
  rintro v h' ⟨rfl, rfl⟩
  rw [e1]
  unfold Bk.h
  ((with_reducible first | apply WO2_finw | apply WO2_fina); ((conv => lhs; simp only [go_sem, ibin, ishift]) <;> with_reducible rfl))
  (repeat' with_reducible first | refine thn2_nrm ?_ | refine thn2_ret ?_ | refine thn2_ex ?_ | refine blk2_nrm ?_ | refine blk2_ret ?_ | refine blk2_at ?_ | (refine blk2_ex ?_ ?_; decide) | refine W2_sas ?_ | refine W2_ss ?_ | refine W2_sret ?_ | refine W2_sexit ?_ | ((first | apply W2_sra | apply W2_srda | apply W2_runa | apply W2_runda); (conv => lhs; simp only [go_sem, ibin, ishift]) <;> rfl) | ((first | apply W2_srS | apply W2_runS); decide +kernel; (conv => lhs; simp only [go_sem, ibin, ishift]) <;> rfl) | ((first | apply W2_sct | apply W2_t2); (conv => lhs; simp only [go_sem]) <;> rfl; rfl) | ((first | apply W2_scf | apply W2_f2); (conv => lhs; simp only [go_sem]) <;> rfl; rfl) | refine W2_ret ?_ | refine W2_exit ?_ | refine W2_skip ?_ | refine W2_seq ?_ | refine W2_block ?_)
  (first | (((with_reducible first | apply W2_scall | apply W2_scalld | apply W2_calla | apply W2_callda | apply run2a_sound); ((conv => lhs; simp only [go_sem, ibin, ishift]) <;> with_reducible rfl))) | ((with_reducible first | apply W2_scallS | apply W2_callS); decide +kernel; ((conv => lhs; simp only [go_sem, ibin, ishift]) <;> with_reducible rfl)))
  refine CK_call [0, 1, 2, 3] (add_spec c.p b k1 7 2 9) (by decide) (by simp) rfl rfl (by first | rfl | (simp only [go_sem, Bk.h]; done) | (simp only [go_sem, Bk.h] <;> rfl)) ?_
  rintro v h' ⟨rfl, rfl⟩
  rw [e2]
  unfold Bk.h
  ((with_reducible first | apply WO2_finw | apply WO2_fina); ((conv => lhs; simp only [go_sem, ibin, ishift]) <;> with_reducible rfl))
  (repeat' with_reducible first | refine thn2_nrm ?_ | refine thn2_ret ?_ | refine thn2_ex ?_ | refine blk2_nrm ?_ | refine blk2_ret ?_ | refine blk2_at ?_ | (refine blk2_ex ?_ ?_; decide) | refine W2_sas ?_ | refine W2_ss ?_ | refine W2_sret ?_ | refine W2_sexit ?_ | ((first | apply W2_sra | apply W2_srda | apply W2_runa | apply W2_runda); (conv => lhs; simp only [go_sem, ibin, ishift]) <;> rfl) | ((first | apply W2_srS | apply W2_runS); decide +kernel; (conv => lhs; simp only [go_sem, ibin, ishift]) <;> rfl) | ((first | apply W2_sct | apply W2_t2); (conv => lhs; simp only [go_sem]) <;> rfl; rfl) | ((first | apply W2_scf | apply W2_f2); (conv => lhs; simp only [go_sem]) <;> rfl; rfl) | refine W2_ret ?_ | refine W2_exit ?_ | refine W2_skip ?_ | refine W2_seq ?_ | refine W2_block ?_)
  (first | (((with_reducible first | apply W2_scall | apply W2_scalld | apply W2_calla | apply W2_callda | apply run2a_sound); ((conv => lhs; simp only [go_sem, ibin, ishift]) <;> with_reducible rfl))) | ((with_reducible first | apply W2_scallS | apply W2_callS); decide +kernel; ((conv => lhs; simp only [go_sem, ibin, ishift]) <;> with_reducible rfl)))
  refine CK_call [0, 1, 2, 3] (add_spec c.p b k1 8 2 1) (by decide) (by simp) rfl rfl (by first | rfl | (simp only [go_sem, Bk.h]; done) | (simp only [go_sem, Bk.h] <;> rfl)) ?_
  rintro v h' ⟨rfl, rfl⟩
  rw [e3]
  unfold Bk.h
  ((with_reducible first | apply WO2_finw | apply WO2_fina); ((conv => lhs; simp only [go_sem, ibin, ishift]) <;> with_reducible rfl))
  (repeat' with_reducible first | refine thn2_nrm ?_ | refine thn2_ret ?_ | refine thn2_ex ?_ | refine blk2_nrm ?_ | refine blk2_ret ?_ | refine blk2_at ?_ | (refine blk2_ex ?_ ?_; decide) | refine W2_sas ?_ | refine W2_ss ?_ | refine W2_sret ?_ | refine W2_sexit ?_ | ((first | apply W2_sra | apply W2_srda | apply W2_runa | apply W2_runda); (conv => lhs; simp only [go_sem, ibin, ishift]) <;> rfl) | ((first | apply W2_srS | apply W2_runS); decide +kernel; (conv => lhs; simp only [go_sem, ibin, ishift]) <;> rfl) | ((first | apply W2_sct | apply W2_t2); (conv => lhs; simp only [go_sem]) <;> rfl; rfl) | ((first | apply W2_scf | apply W2_f2); (conv => lhs; simp only [go_sem]) <;> rfl; rfl) | refine W2_ret ?_ | refine W2_exit ?_ | refine W2_skip ?_ | refine W2_seq ?_ | refine W2_block ?_)
  (first | (((with_reducible first | apply W2_scall | apply W2_scalld | apply W2_calla | apply W2_callda | apply run2a_sound); ((conv => lhs; simp only [go_sem, ibin, ishift]) <;> with_reducible rfl))) | ((with_reducible first | apply W2_scallS | apply W2_callS); decide +kernel; ((conv => lhs; simp only [go_sem, ibin, ishift]) <;> with_reducible rfl)))
  refine CK_call [0, 1, 2, 3] (serve_spec c.p b k1 7) (by decide) (by simp) rfl rfl (by first | rfl | (simp only [go_sem, Bk.h]; done) | (simp only [go_sem, Bk.h] <;> rfl)) ?_
  rintro v h' ⟨rfl, rfl⟩
  rw [e4]
  generalize Bk.mk [⟨7, 2, 1, 2⟩] [7] = b' at *
  unfold Bk.h
  (first | (((with_reducible first | apply W2_scall | apply W2_scalld | apply W2_calla | apply W2_callda | apply run2a_sound); ((conv => lhs; simp only [go_sem, ibin, ishift]) <;> with_reducible rfl))) | ((with_reducible first | apply W2_scallS | apply W2_callS); decide +kernel; ((conv => lhs; simp only [go_sem, ibin, ishift]) <;> with_reducible rfl)))
  refine CK_call [0, 1, 2, 3] (state_spec c.p.toTabB16 b' 7) (by decide) (by simp) rfl rfl (by first | rfl | (simp only [go_sem, Bk.h]; done) | (simp only [go_sem, Bk.h] <;> rfl)) ?_
  rintro v h' ⟨rfl, rfl⟩
  rw [e5]
  unfold Bk.h
  ((with_reducible first | apply WO2_finw | apply WO2_fina); ((conv => lhs; simp only [go_sem, ibin, ishift]) <;> with_reducible rfl))
  (repeat' with_reducible first | refine thn2_nrm ?_ | refine thn2_ret ?_ | refine thn2_ex ?_ | refine blk2_nrm ?_ | refine blk2_ret ?_ | refine blk2_at ?_ | (refine blk2_ex ?_ ?_; decide) | refine W2_sas ?_ | refine W2_ss ?_ | refine W2_sret ?_ | refine W2_sexit ?_ | ((first | apply W2_sra | apply W2_srda | apply W2_runa | apply W2_runda); (conv => lhs; simp only [go_sem, ibin, ishift]) <;> rfl) | ((first | apply W2_srS | apply W2_runS); decide +kernel; (conv => lhs; simp only [go_sem, ibin, ishift]) <;> rfl) | ((first | apply W2_sct | apply W2_t2); (conv => lhs; simp only [go_sem]) <;> rfl; rfl) | ((first | apply W2_scf | apply W2_f2); (conv => lhs; simp only [go_sem]) <;> rfl; rfl) | refine W2_ret ?_ | refine W2_exit ?_ | refine W2_skip ?_ | refine W2_seq ?_ | refine W2_block ?_)
  refine ⟨by first | exact .inr rfl | exact .inl rfl, _, _, (by (conv => lhs; simp only [go_sem, ibin, ishift]) <;> with_reducible rfl), (by (conv => lhs; simp only [go_sem, ibin, ishift]) <;> with_reducible rfl), ?_⟩
  refine ⟨[], by decide, rfl, ?_⟩
  exact ⟨rfl, rfl⟩
end Go.Proofs.Ythnoccmngpoibaa.Ab
