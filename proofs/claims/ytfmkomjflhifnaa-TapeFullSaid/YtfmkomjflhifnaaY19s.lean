/- Chapter 19: plain law: what is read of bytes that are notes'. -/
import Derived.Test.YtfmkomjflhifnaaY19q
namespace Go.Proofs.Ytfmkomjflhifnaa.Ab
open Go
set_option linter.unusedVariables false
theorem enc_not_nil {n : Nt} (hg : goodN n) : ¬ encB n <+: [] := fun h => by
  have h1 := h.length_le
  have h2 := (encB_le hg).2
  rw [List.length_nil] at h1
  omega
theorem readR_encs {l : List Nt} (h : ∀ n ∈ l, goodN n) : ReadR (encsB l) l :=
  ⟨h, List.prefix_refl _, fun n hn hp => by rw [List.drop_length] at hp; exact enc_not_nil hn hp⟩
theorem read_take : ∀ {l g : List Nt} {c : Nat}, (∀ n ∈ l, goodN n) → ReadR ((encsB l).take c) g → g = l.take g.length ∧ g.length ≤ l.length
  | l, [], c, _, _ => by simp
  | [], n :: g, c, _, h => by
    have h1 := h.2.1
    have g1 := h.1 n (.head _)
    rw [encs_cons, show encsB [] = [] from rfl, List.take_nil] at h1
    exact (enc_not_nil g1 (pre_of_append h1).1).elim
  | m :: l, n :: g, c, hl, h => by
    have h1 := h.2.1
    rw [encs_cons] at h1
    have gn := h.1 n (.head _)
    have gm := hl m (.head _)
    obtain ⟨h2, h3⟩ := pre_of_append h1
    have h4 : encB n <+: encsB (m :: l) := h2.trans (List.take_prefix _ _)
    have h5 : encB m <+: encsB (m :: l) := by rw [encs_cons]; exact List.prefix_append _ _
    obtain rfl := enc_unique gn gm h4 h5
    have h6 : ((encsB (n :: l)).take c).drop (encB n).length = (encsB l).take (c - (encB n).length) := by
      rw [List.drop_take, encs_cons, List.drop_left]
    have hr : ReadR ((encsB l).take (c - (encB n).length)) g := by
      refine ⟨fun k hk => h.1 k (.tail _ hk), h6 ▸ h3, fun k hk => ?_⟩
      have := h.2.2 k hk
      rw [encs_cons, List.length_append, ← List.drop_drop, h6] at this
      exact this
    obtain ⟨h7, h8⟩ := read_take (fun k hk => hl k (.tail _ hk)) hr
    refine ⟨?_, by simp only [List.length_cons]; omega⟩
    rw [List.length_cons, List.take_succ_cons]
    exact congrArg (n :: ·) h7
/-- notes' bytes at the front are read as these notes -/
theorem read_pre : ∀ {w g : List Nt} {b : List UInt8}, (∀ n ∈ w, goodN n) → encsB w <+: b → ReadR b g → w = g.take w.length ∧ w.length ≤ g.length
  | [], g, b, _, _, _ => by simp
  | n :: w, [], b, hw, hp, h => by
    rw [encs_cons] at hp
    exact (h.2.2 n (hw n (.head _)) (by simpa [encsB] using (pre_of_append hp).1)).elim
  | n :: w, m :: g, b, hw, hp, h => by
    rw [encs_cons] at hp
    have h1 := h.2.1
    rw [encs_cons] at h1
    obtain ⟨h2, h3⟩ := pre_of_append hp
    obtain ⟨h4, h5⟩ := pre_of_append h1
    have gn := hw n (.head _)
    have gm := h.1 m (.head _)
    obtain rfl := enc_unique gn gm h2 h4
    have hr : ReadR (b.drop (encB n).length) g := by
      refine ⟨fun k hk => h.1 k (.tail _ hk), h5, fun k hk => ?_⟩
      have := h.2.2 k hk
      rw [encs_cons, List.length_append, ← List.drop_drop] at this
      exact this
    obtain ⟨h6, h7⟩ := read_pre (fun k hk => hw k (.tail _ hk)) h3 hr
    refine ⟨?_, by simp only [List.length_cons]; omega⟩
    rw [List.length_cons, List.take_succ_cons]
    exact congrArg (n :: ·) h6
theorem encs_app (a b : List Nt) : encsB (a ++ b) = encsB a ++ encsB b := List.flatMap_append ..
theorem some_free {r : Rt} (h : r.bud = -1) (n : Nat) : r.some n = (r, n) := by
  rw [Rt.some, if_pos (.inl (by omega)), if_neg (by omega)]
/-- an append to a tape without a budget -/
theorem append_free {r : Rt} (hd : r.dead = false) (hb : r.bud = -1) {n : Nat} {l : List Nt} (hl : ∀ x ∈ l, goodN x) (hn : n = r.now.length) (h : r.now.length + (encsB l).length ≤ 65536) :
    r.append n l = (⟨r.now ++ encsB l, r.oth, -1, false⟩, 0) := by
  rw [Rt.append, if_neg (by rw [hd]; decide), if_neg (fun h => h hl), if_neg (by omega), if_neg (by omega), some_free hb, List.take_length, Rt.code, hd, hb, if_neg (by decide)]
theorem compact_free {r : Rt} (hd : r.dead = false) (hb : r.bud = -1) {l : List Nt} (hl : ∀ x ∈ l, goodN x) (h : (encsB l).length ≤ 65536) :
    r.compact l = (⟨encsB l, r.now, -1, false⟩, 0) := by
  have e1 : r.emp.dead = false ∧ r.emp.bud = -1 ∧ r.emp.now = r.now := by
    unfold Rt.emp
    rw [some_free hb]
    split
    · rw [if_neg (by rw [hd]; decide)]; exact ⟨hd, hb, rfl⟩
    · exact ⟨hd, hb, rfl⟩
  have e2 : r.emp.fill (encsB l) = ⟨r.now, encsB l, -1, false⟩ := by
    rw [Rt.fill, some_free e1.2.1, List.take_length, e1.1, e1.2.1, e1.2.2]
  rw [Rt.compact, if_neg (by rw [hd]; decide), if_neg (fun h => h hl), if_neg (by omega), if_neg (by rw [e1.1]; decide), e2]
  simp only [Bool.false_eq_true, if_false]
  rw [Rt.turn, some_free rfl]
  rfl
theorem repair_free {r : Rt} (hd : r.dead = false) (hb : r.bud = -1) {g : List Nt} (hg : ReadR r.now g) : r.repair (encsB g).length = (⟨encsB g, r.oth, -1, false⟩, (r.now.length : Int) - (encsB g).length, 0) := by
  have hp := hg.2.1
  have ht : r.now.take (encsB g).length = encsB g := (List.prefix_iff_eq_take.1 hp).symm
  rw [Rt.repair, if_neg (by rw [hd]; decide), some_free hb]
  by_cases h : (encsB g).length < r.now.length
  · rw [if_pos h, if_neg (by rw [hd]; decide), ht, hd, hb]
  · rw [if_neg h]
    have hl := hp.length_le
    have : r.now = encsB g := by rw [← ht, List.take_of_length_le (by omega)]
    obtain ⟨now, oth, bud, dead⟩ := r
    simp only at this hd hb
    subst this hd hb
    rfl
section
variable {T : AT}
theorem ab_len {p : Tp} {r : Rt} (h : Sim p r) : p.a.length ≤ 65536 ∧ p.b.length ≤ 65536 := by
  have h1 := h.l1
  have h2 := h.l2
  unfold Tp.now at h1
  unfold Tp.oth at h2
  cases hc : p.c with
  | false => rw [hc] at h1 h2; exact ⟨h1, h2⟩
  | true => rw [hc] at h1 h2; exact ⟨h2, h1⟩
theorem Ret2.args {k f : Nat} {args args' : List SV} {h : SH} {R : SV → SH → Prop} (H : Ret2 T k f args h R) (ha : ∀ w n ca, P2 (RS w n) args' ca → P2 (RS w n) args ca) : Ret2 T k f args' h R := ⟨fun w ca ch r hp => H.run w ca ch r (ha w _ ca hp)⟩
theorem args_nil4 (w : Wd) (n : Nat) (ca : List AV) (h : P2 (RS w n) [.ptr 0 0, .nils] ca) : P2 (RS w n) [.ptr 0 0, .fz 4 []] ca := by
  refine ⟨h.1, fun j x y hx hy => ?_⟩
  match j, hx with
  | 0, hx => exact h.2 0 x y hx hy
  | 1, hx =>
    have h1 := h.2 1 .nils y rfl hy
    simp only [List.getElem?_cons_succ, List.getElem?_cons_zero, Option.some.injEq] at hx
    subst hx
    cases h1 with
    | p h2 => cases h2; exact .p (.fz0 4)
  | j + 2, hx => simp at hx
theorem append_nil (c : TabT T) (p : Tp) (g : List Nt) (hg : ReadR p.now g) (hl : p.now.length ≤ 100000) : Ret2 T 1 i_tape_Tape_Append [.ptr 0 0, .nils] p.h (fun v h' => v = .i .i64 (p.append (encsB g).length []).2 ∧ h' = (p.append (encsB g).length []).1.h) :=
  (append_spec c p g hg hl [] (by decide)).args args_nil4
end
end Go.Proofs.Ytfmkomjflhifnaa.Ab
