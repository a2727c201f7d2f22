/- Chapter 18: plain law: one, two or three turned bits change the sum. -/
import Derived.Test.YtdcknhimmdmgoaaY18f
namespace Go.Proofs.Ytdcknhimmdmgoaa.Ab
open Go
set_option linter.unusedVariables false
/-- the sum goes on from a sum -/
def runB (c : B16) (l : List UInt8) : B16 := l.foldl stepB c
theorem runB_cons (c : B16) (x : UInt8) (l : List UInt8) : runB c (x :: l) = runB (stepB c x) l := rfl
theorem runB_app (c : B16) (a b : List UInt8) : runB c (a ++ b) = runB (runB c a) b := List.foldl_append ..
theorem stepB_xor (c d : B16) (x y : UInt8) : stepB (c ^^^ d) (x ^^^ y) = stepB c x ^^^ stepB d y := by
  rw [← iterB_step, ← iterB_step, ← iterB_step, ← iterB_xor]
  congr 1
  rw [show (x ^^^ y).toBitVec.setWidth 16 = x.toBitVec.setWidth 16 ^^^ y.toBitVec.setWidth 16 by rw [UInt8.toBitVec_xor, BitVec.setWidth_xor], BitVec.shiftLeft_xor_distrib]
  ac_rfl
theorem iterB_add : ∀ (m n : Nat) (c : B16), iterB (m + n) c = iterB n (iterB m c)
  | 0, n, c => by rw [Nat.zero_add]; rfl
  | m + 1, n, c => by rw [Nat.add_right_comm, iterB, iterB, iterB_add m n]
theorem stepB_zero (c : B16) : stepB c 0 = iterB 8 c := by
  rw [← iterB_step]
  congr 1
  simp
theorem runB_xor : ∀ (l : List UInt8) (c d : B16), runB (c ^^^ d) l = runB c l ^^^ iterB (8 * l.length) d
  | [], c, d => rfl
  | x :: l, c, d => by
    have h := stepB_xor c d x 0
    rw [show x ^^^ (0 : UInt8) = x by simp, stepB_zero] at h
    rw [runB_cons, h, runB_xor l, ← iterB_add, runB_cons]
    congr 2
    simp only [List.length_cons]; omega
/-- what a turned bit does, m bits from the end -/
def synB (m : Nat) : B16 := iterB (m + 15) 1#16
theorem bit_step : ∀ j : Fin 8, stepB 0#16 (UInt8.ofNat (128 / 2 ^ j.val)) = iterB (8 + (15 - j.val)) 1#16 := by decide +kernel
def bitB (k : Nat) : UInt8 := UInt8.ofNat (128 / 2 ^ (k % 8))
/-- a bit is turned -/
def flipB (l : List UInt8) (k : Nat) : List UInt8 := l.set (k / 8) (l[k / 8]?.getD 0 ^^^ bitB k)
theorem flip_len (l : List UInt8) (k : Nat) : (flipB l k).length = l.length := List.length_set ..
theorem runB_flip (c : B16) (l : List UInt8) (k : Nat) (hk : k < 8 * l.length) : runB c (flipB l k) = runB c l ^^^ synB (8 * l.length - k) := by
  have hl : k / 8 < l.length := by omega
  obtain ⟨a, x, r, e, ha⟩ : ∃ a x r, l = a ++ x :: r ∧ a.length = k / 8 :=
    ⟨l.take (k / 8), l[k / 8], l.drop (k / 8 + 1), by rw [← List.drop_eq_getElem_cons hl, List.take_append_drop], by rw [List.length_take]; omega⟩
  have hx : l[k / 8]? = some x := by rw [e, ← ha]; simp
  have hf : flipB l k = a ++ (x ^^^ bitB k) :: r := by
    rw [flipB, hx, Option.getD_some, e, ← ha, List.set_append_right _ _ (Nat.le_refl _)]; simp
  have hb := bit_step ⟨k % 8, Nat.mod_lt _ (by decide)⟩
  simp only at hb
  rw [hf, e, runB_app, runB_app, runB_cons, runB_cons]
  have h := stepB_xor (runB c a) 0#16 x (bitB k)
  rw [BitVec.xor_zero] at h
  rw [h, runB_xor]
  congr 1
  rw [show stepB 0#16 (bitB k) = iterB (8 + (15 - k % 8)) 1#16 from hb, ← iterB_add, synB]
  congr 1
  have h1 : l.length = k / 8 + 1 + r.length := by rw [e]; simp; omega
  rw [e] at h1
  simp only [List.length_append, List.length_cons] at h1 ⊢
  omega
theorem flip_flip (l : List UInt8) (k : Nat) : flipB (flipB l k) k = l := by
  unfold flipB
  by_cases hl : k / 8 < l.length
  · rw [List.getElem?_set_self hl, List.set_set]
    simp only [Option.getD_some]
    rw [List.getElem?_eq_getElem hl]
    simp only [Option.getD_some]
    rw [show l[k / 8] ^^^ bitB k ^^^ bitB k = l[k / 8] by rw [UInt8.xor_assoc, UInt8.xor_self, UInt8.xor_zero]]
    exact List.set_getElem_self hl
  · rw [List.set_eq_of_length_le (by rw [List.length_set]; omega), List.set_eq_of_length_le (by omega)]
theorem seal_zero (s : B16) : stepB (stepB s (UInt8.ofNat (s.toNat / 256))) (UInt8.ofNat (s.toNat % 256)) = 0#16 := by
  have hs := s.isLt
  have e1 : s ^^^ ((UInt8.ofNat (s.toNat / 256)).toBitVec.setWidth 16) <<< 8 = BitVec.ofNat 16 (⟨s.toNat % 256, Nat.mod_lt _ (by decide)⟩ : Fin 256).val := by
    apply BitVec.eq_of_getLsbD_eq
    intro i hi
    simp only [BitVec.getLsbD_xor, BitVec.getLsbD_shiftLeft, BitVec.getLsbD_setWidth, BitVec.getLsbD_ofNat, hi, decide_true, Bool.true_and]
    rw [show (256 : Nat) = 2 ^ 8 from rfl]
    by_cases h8 : i < 8
    · simp only [h8, decide_true, Bool.not_true, Bool.false_and, Bool.xor_false, Nat.testBit_mod_two_pow, Bool.true_and]; rfl
    · have h9 : i - 8 < 8 := by omega
      have e : (UInt8.ofNat (s.toNat / 2 ^ 8)).toBitVec.getLsbD (i - 8) = s.toNat.testBit i := by
        show (BitVec.ofNat 8 (s.toNat / 2 ^ 8)).getLsbD (i - 8) = _
        rw [BitVec.getLsbD_ofNat, Nat.testBit_div_two_pow]
        simp only [h9, decide_true, Bool.true_and]
        congr 1; omega
      simp only [h8, decide_false, Bool.not_false, Bool.true_and, Nat.testBit_mod_two_pow, Bool.false_and, e]
      simp [BitVec.getLsbD]
      intro _; omega
  have e2 : stepB s (UInt8.ofNat (s.toNat / 256)) = BitVec.ofNat 16 (s.toNat % 256) <<< 8 := by
    rw [← iterB_step, e1, iterB_low]
  rw [e2, ← iterB_step]
  have e3 : BitVec.ofNat 16 (s.toNat % 256) = (UInt8.ofNat (s.toNat % 256)).toBitVec.setWidth 16 := by
    apply BitVec.eq_of_toNat_eq
    simp
  rw [e3, BitVec.xor_self]
  decide
theorem runB_seal (l : List UInt8) : runB 65535 (sealB l) = 0#16 := by
  rw [sealB, runB_app]
  exact seal_zero (sumB l)
/-- the powers -/
def pows : Nat → B16 → List B16
  | 0, _ => []
  | n + 1, c => c :: pows n (oneB c)
theorem pows_get : ∀ {n m : Nat} {c : B16}, m < n → (pows n c)[m]? = some (iterB m c)
  | n + 1, 0, c, _ => rfl
  | n + 1, m + 1, c, h => by
    rw [pows, List.getElem?_cons_succ, pows_get (by omega)]; rfl
def parB (c : B16) : Bool := (List.range 16).foldl (fun p i => p ^^ c.getLsbD i) false
def distinct : List B16 → Bool
  | [] => true
  | c :: l => l.all (fun d => decide (c ≠ d)) && distinct l
theorem distinct_get : ∀ {l : List B16} {i j : Nat} {x : B16}, distinct l = true → l[i]? = some x → l[j]? = some x → i = j
  | [], i, j, x, _, h, _ => by simp at h
  | c :: l, 0, 0, x, _, _, _ => rfl
  | c :: l, 0, j + 1, x, hd, hi, hj => by
    simp only [distinct, Bool.and_eq_true, List.all_eq_true, decide_eq_true_eq] at hd
    simp at hi; subst hi
    exact (hd.1 c (List.mem_of_getElem? (by simpa using hj)) rfl).elim
  | c :: l, i + 1, 0, x, hd, hi, hj => by
    simp only [distinct, Bool.and_eq_true, List.all_eq_true, decide_eq_true_eq] at hd
    simp at hj; subst hj
    exact (hd.1 c (List.mem_of_getElem? (by simpa using hi)) rfl).elim
  | c :: l, i + 1, j + 1, x, hd, hi, hj => by
    simp only [distinct, Bool.and_eq_true] at hd
    exact congrArg (· + 1) (distinct_get (l := l) hd.2 (by simpa using hi) (by simpa using hj))
theorem pows_distinct : distinct (pows 200 1#16) = true := by decide +kernel
theorem pows_odd : (pows 200 1#16).all parB = true := by decide +kernel
theorem syn_inj {m n : Nat} (hm : m < 180) (hn : n < 180) (h : synB m = synB n) : m = n := by
  have h1 : (pows 200 1#16)[m + 15]? = some (synB m) := pows_get (by omega)
  have h2 : (pows 200 1#16)[n + 15]? = some (synB m) := by rw [h]; exact pows_get (by omega)
  have := distinct_get pows_distinct h1 h2
  omega
theorem syn_odd {m : Nat} (hm : m < 180) : parB (synB m) = true := by
  have h1 : (pows 200 1#16)[m + 15]? = some (synB m) := pows_get (by omega)
  exact List.all_eq_true.1 pows_odd _ (List.mem_of_getElem? h1)
theorem parB_fold (a b : B16) : ∀ (l : List Nat) (p q : Bool), l.foldl (fun p i => p ^^ (a ^^^ b).getLsbD i) (p ^^ q) = (l.foldl (fun p i => p ^^ a.getLsbD i) p ^^ l.foldl (fun p i => p ^^ b.getLsbD i) q)
  | [], p, q => rfl
  | i :: l, p, q => by
    simp only [List.foldl_cons]
    rw [← parB_fold a b l]
    congr 1
    rw [BitVec.getLsbD_xor]
    cases p <;> cases q <;> cases a.getLsbD i <;> cases b.getLsbD i <;> rfl
theorem parB_xor (a b : B16) : parB (a ^^^ b) = (parB a ^^ parB b) := parB_fold a b _ false false
theorem syn1 {m : Nat} (hm : m < 180) : synB m ≠ 0#16 := fun h => by
  have := syn_odd hm
  rw [h] at this
  exact absurd this (by decide)
theorem syn3 {m n k : Nat} (hm : m < 180) (hn : n < 180) (hk : k < 180) : synB m ^^^ synB n ^^^ synB k ≠ 0#16 := fun h => by
  have := parB_xor (synB m ^^^ synB n) (synB k)
  rw [h, parB_xor, syn_odd hm, syn_odd hn, syn_odd hk] at this
  exact absurd this (by decide)
/-- bytes that begin as a note's, as long, with bits turned: they are a note's just if they are the same -/
theorem note_only {n : Nt} (hg : goodN n) {c : List UInt8} (hl : c.length = (encB n).length) (h0 : c[0]? = (encB n)[0]?) {m : Nt} (hm : goodN m) (hp : encB m <+: c) : runB 65535 c = 0#16 := by
  have h1 : (encB m)[0]? = (encB n)[0]? := by
    rw [← h0]
    obtain ⟨r, rfl⟩ := hp
    have : 4 ≤ (encB m).length := by rw [enc_len]; omega
    rw [List.getElem?_append_left (by omega)]
  have key : ∀ k : Nt, goodN k → (encB k)[0]? = some (UInt8.ofNat (bodyB k).length) := fun k _ => rfl
  rw [key m hm, key n hg] at h1
  have h2 : (bodyB m).length = (bodyB n).length := by
    have a := body_len hm
    have b := body_len hg
    have := congrArg UInt8.toNat (Option.some.inj h1)
    simp only [UInt8.toNat_ofNat'] at this
    omega
  have h3 : encB m = c := by
    obtain ⟨r, rfl⟩ := hp
    have e := enc_len2 m
    have e' := enc_len2 n
    rw [List.length_append] at hl
    have : r = [] := List.eq_nil_of_length_eq_zero (by omega)
    rw [this, List.append_nil]
  rw [← h3]
  exact runB_seal _
end Go.Proofs.Ytdcknhimmdmgoaa.Ab
