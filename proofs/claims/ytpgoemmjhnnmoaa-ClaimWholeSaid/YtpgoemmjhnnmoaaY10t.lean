/- Chapter 10: plain facts for ClaimServed. -/
import Derived.Test.YtpgoemmjhnnmoaaY10s
import Derived.Test.YtpgoemmjhnnmoaaY10i
namespace Go.Proofs.Ytpgoemmjhnnmoaa.Ab
open Go
set_option linter.unusedVariables false
set_option linter.unusedSimpArgs false
/-- claims that were put, by numbers up to i; how often each was granted -/
structure Srv (N i : Nat) (t : Tab) (cnt : List Int) (put : Int) : Prop where
  len : t.hold.length = N
  st : t.still
  q : ∀ c ∈ t.q, inB N c.ns ∧ c.ns ≠ [] ∧ c.ns.length ≤ 6 ∧ 1 ≤ c.t ∧ c.t ≤ i
  nd : (t.q.map Clm.t).Nodup
  hold : ∀ (n : Nat) x, t.hold[n]? = some x → 0 ≤ x ∧ x ≤ 30
  cl : cnt.length = 31
  c01 : ∀ x ∈ cnt, x = 0 ∨ x = 1
  cq : ∀ c ∈ t.q, cnt[c.t.toNat]? = some 0
  ci : ∀ k, i < k → k < 31 → cnt[k]? = some 0
  sum : cnt.sum + (t.q.length : Int) = put
theorem Srv.ok {N i : Nat} {t : Tab} {cnt : List Int} {put : Int} (h : Srv N i t cnt put) (hN : N ≤ 40) : t.Ok :=
  ⟨fun c hc => by rw [h.len]; exact ⟨(h.q c hc).1, by have := (h.q c hc).2.2.1; omega⟩, by rw [h.len]; omega⟩
theorem sum_set (v : Int) : ∀ (l : List Int) (k : Nat) (x : Int), l[k]? = some x → (l.set k v).sum = l.sum - x + v
  | y :: l, 0, x, h => by simp at h; subst h; simp; omega
  | y :: l, k + 1, x, h => by
    have := sum_set v l k x (by simpa using h)
    simp only [List.set_cons_succ, List.sum_cons, this]; omega
theorem sum_01 : ∀ (l : List Int), (∀ x ∈ l, x = 0 ∨ x = 1) → 0 ≤ l.sum ∧ l.sum ≤ l.length
  | [], _ => by simp
  | x :: l, h => by
    have := sum_01 l fun y hy => h y (.tail _ hy)
    have := h x (.head _)
    simp only [List.sum_cons, List.length_cons]; omega
theorem Srv.putb {N i : Nat} {t : Tab} {cnt : List Int} {put : Int} (h : Srv N i t cnt put) : 0 ≤ put ∧ put ≤ 31 + t.q.length := by
  have := sum_01 cnt h.c01
  have := h.cl
  have := h.sum
  omega
theorem srv_first (N : Nat) : Srv N 0 (emp N) (List.replicate 31 0) 0 := by
  refine ⟨by simp [emp], by simp [Tab.still, emp, scan], by simp [emp], by simp [emp], fun n x h => ?_, by simp, by simp, by simp [emp], fun k h1 h2 => by rw [List.getElem?_replicate, if_pos h2], by simp [emp]⟩
  simp only [emp, List.getElem?_replicate] at h
  split at h
  · cases h; omega
  · cases h
/-- a claim more -/
theorem srv_put {N i : Nat} {t : Tab} {cnt : List Int} {put : Int} (h : Srv N i t cnt put) (hN : N ≤ 40) (hi : i < 30) {ns : List Int} (hb : inB N ns) (hl : ns.length ≤ 6) :
    ∃ t' yes er, t.put ((i + 1 : Nat) : Int) ns = (t', yes, er) ∧
      ((yes = false ∧ er = 1 ∧ Srv N (i + 1) t' cnt put) ∨ (yes = false ∧ er = 0 ∧ Srv N (i + 1) t' cnt (put + 1)) ∨ (yes = true ∧ er = 0 ∧ cnt[i + 1]? = some 0 ∧ Srv N (i + 1) t' (cnt.set (i + 1) 1) (put + 1))) := by
  have hq' : ∀ c ∈ t.q, inB N c.ns ∧ c.ns ≠ [] ∧ c.ns.length ≤ 6 ∧ 1 ≤ c.t ∧ c.t ≤ ((i + 1 : Nat) : Int) := fun c hc => by
    obtain ⟨a, b, c, d, e⟩ := h.q c hc; exact ⟨a, b, c, d, by omega⟩
  have hci' : ∀ k, i + 1 < k → k < 31 → cnt[k]? = some 0 := fun k h1 h2 => h.ci k (by omega) h2
  by_cases h0 : ns = []
  · refine ⟨t, false, 1, by rw [Tab.put, if_pos (.inr h0)], .inl ⟨rfl, rfl, h.len, h.st, hq', h.nd, h.hold, h.cl, h.c01, h.cq, hci', h.sum⟩⟩
  · have hne : ∀ c ∈ t.q, c.t ≠ ((i + 1 : Nat) : Int) := fun c hc => by have := (h.q c hc).2.2.2.2; omega
    have hbl : inB t.hold.length ns := by rw [h.len]; exact hb
    rw [put_new (by omega) (by omega) hbl h0 hne]
    rcases g_snoc (c := ⟨((i + 1 : Nat) : Int), ns⟩) h.st hbl with ⟨e, hs⟩ | ⟨e, hs⟩
    · rw [e]
      refine ⟨_, _, _, rfl, .inr (.inl ⟨rfl, rfl, h.len, hs, fun c hc => ?_, ?_, h.hold, h.cl, h.c01, fun c hc => ?_, hci', ?_⟩)⟩
      · rcases List.mem_append.1 hc with hc | hc
        · exact hq' c hc
        · rw [List.mem_singleton.1 hc]; exact ⟨hb, h0, hl, by simp only; omega, by simp only; omega⟩
      · simp only [List.map_append, List.map_cons, List.map_nil, List.nodup_append]
        refine ⟨h.nd, by simp, fun a ha b hb => ?_⟩
        obtain ⟨c, hc, rfl⟩ := List.mem_map.1 ha
        rw [List.mem_singleton.1 hb]; exact hne c hc
      · rcases List.mem_append.1 hc with hc | hc
        · exact h.cq c hc
        · rw [List.mem_singleton.1 hc]; exact h.ci _ (by simp only; omega) (by simp only; omega)
      · have := h.sum; simp only [List.length_append, List.length_cons, List.length_nil]; omega
    · rw [e]
      have hz := h.ci (i + 1) (by omega) (by omega)
      refine ⟨_, _, _, rfl, .inr (.inr ⟨rfl, rfl, hz, by simp only [markL_len]; exact h.len, hs, hq', h.nd, fun n x hx => ?_, by simp [h.cl], fun x hx => ?_, fun c hc => ?_, fun k h1 h2 => ?_, ?_⟩)⟩
      · simp only at hx
        have hl := (List.getElem?_eq_some_iff.1 hx).1
        rw [markL_len] at hl
        rcases markL_get2 ((i + 1 : Nat) : Int) ns t.hold n hl (fun m hm => (hb m hm).1) with ⟨a1, a2⟩ | ⟨a1, a2⟩
        · rw [a2] at hx; cases hx; omega
        · rw [a2] at hx; exact h.hold n x hx
      · rcases List.mem_or_eq_of_mem_set hx with hx | hx
        · exact h.c01 x hx
        · exact .inr hx
      · have := hne c hc
        have := (h.q c hc).2.2.2.1
        rw [List.getElem?_set_ne (by omega)]; exact h.cq c hc
      · rw [List.getElem?_set_ne (by omega)]; exact hci' k h1 h2
      · have := sum_set 1 cnt (i + 1) 0 hz
        have := h.sum
        simp only; omega
/-- a node is released, those that are granted aren't counted yet -/
structure Cnt (N : Nat) (t : Tab) (l : List Int) (cnt : List Int) (put : Int) : Prop where
  len : t.hold.length = N
  st : t.still
  q : ∀ c ∈ t.q, inB N c.ns ∧ c.ns ≠ [] ∧ c.ns.length ≤ 6 ∧ 1 ≤ c.t ∧ c.t ≤ 30
  nd : (l ++ t.q.map Clm.t).Nodup
  lb : ∀ g ∈ l, 1 ≤ g ∧ g ≤ 30
  hold : ∀ (n : Nat) x, t.hold[n]? = some x → 0 ≤ x ∧ x ≤ 30
  cl : cnt.length = 31
  c01 : ∀ x ∈ cnt, x = 0 ∨ x = 1
  cg : ∀ g ∈ l, cnt[g.toNat]? = some 0
  cq : ∀ c ∈ t.q, cnt[c.t.toNat]? = some 0
  sum : cnt.sum + (l.length : Int) + (t.q.length : Int) = put
theorem Cnt.srv {N : Nat} {t : Tab} {cnt : List Int} {put : Int} (h : Cnt N t [] cnt put) : Srv N 30 t cnt put :=
  ⟨h.len, h.st, h.q, by simpa using h.nd, h.hold, h.cl, h.c01, h.cq, fun k h1 h2 => by omega, by simpa using h.sum⟩
theorem cnt_step {N : Nat} {t : Tab} {g : Int} {l cnt : List Int} {put : Int} (h : Cnt N t (g :: l) cnt put) : cnt[g.toNat]? = some 0 ∧ Cnt N t l (cnt.set g.toNat 1) put := by
  have hg := h.cg g (.head _)
  have hb := h.lb g (.head _)
  have hnd := h.nd
  rw [List.cons_append, List.nodup_cons] at hnd
  refine ⟨hg, h.len, h.st, h.q, hnd.2, fun x hx => h.lb x (.tail _ hx), h.hold, by simp [h.cl], fun x hx => ?_, fun x hx => ?_, fun c hc => ?_, ?_⟩
  · rcases List.mem_or_eq_of_mem_set hx with hx | hx
    · exact h.c01 x hx
    · exact .inr hx
  · have hne : g ≠ x := fun e => hnd.1 (List.mem_append_left _ (e ▸ hx))
    have := h.lb x (.tail _ hx)
    rw [List.getElem?_set_ne (by omega)]; exact h.cg x (.tail _ hx)
  · have hne : g ≠ c.t := fun e => hnd.1 (List.mem_append_right _ (e ▸ List.mem_map_of_mem hc))
    have := (h.q c hc).2.2.2.1
    rw [List.getElem?_set_ne (by omega)]; exact h.cq c hc
  · have := sum_set 1 cnt g.toNat 0 hg
    have := h.sum
    simp only [List.length_cons] at this
    omega
theorem srv_release {N : Nat} {t : Tab} {cnt : List Int} {put : Int} (h : Srv N 30 t cnt put) (hN : N ≤ 40) {j : Nat} {x : Int} (hx : t.hold[j]? = some x) (h0 : x ≠ 0) :
    ∃ t' l, t.release x (j : Int) = (t', l, 0) ∧ Cnt N t' l cnt put ∧ t'.q.length ≤ t.q.length ∧ (l = [] → t' = ⟨t.hold.set j 0, t.q⟩) ∧ (l ≠ [] → t'.q.length < t.q.length) := by
  have hb := h.hold j x hx
  have hlt := (List.getElem?_eq_some_iff.1 hx).1
  have ho : t.out x [(j : Int)] = false := out_false (by omega) (by omega) (by intro n hn; simp at hn; subst hn; omega)
  rw [Tab.release, if_neg (by rw [ho]; simp), if_neg (by rw [Int.toNat_natCast, hx]; simp), Int.toNat_natCast]
  obtain ⟨G, h1, h2⟩ := g_gf (t := ⟨t.hold.set j 0, t.q⟩) (fun c hc => by simp only [List.length_set, h.len]; exact (h.q c hc).1)
  rw [h1]
  generalize Tab.g ⟨t.hold.set j 0, t.q⟩ = R at h2
  obtain ⟨t', out⟩ := R
  simp only at h2
  have hmem : ∀ c, c ∈ G ∨ c ∈ t'.q → c ∈ t.q := fun c hc => h2.perm.subset (List.mem_append.2 hc)
  have hpl := h2.perm.length_eq
  simp only [List.length_append] at hpl
  refine ⟨t', _, rfl, ⟨h2.len.trans (by simp [h.len]), h2.st, fun c hc => h.q c (hmem c (.inr hc)), ?_, fun g hg => ?_, fun n y hy => ?_, h.cl, h.c01, fun g hg => ?_, fun c hc => h.cq c (hmem c (.inr hc)), ?_⟩, by omega, fun e => ?_, fun e => ?_⟩
  · have := (h2.perm.map Clm.t).nodup_iff.2 h.nd
    simpa using this
  · obtain ⟨c, hc, rfl⟩ := List.mem_map.1 hg
    exact (h.q c (hmem c (.inl hc))).2.2.2
  · rcases h2.src n y hy with h3 | ⟨c, hc, rfl, _⟩
    · simp only [List.getElem?_set, hlt, if_true] at h3
      split at h3
      · cases h3; omega
      · exact h.hold n y h3
    · have := (h.q c (hmem c (.inl hc))).2.2.2; omega
  · obtain ⟨c, hc, rfl⟩ := List.mem_map.1 hg
    exact h.cq c (hmem c (.inl hc))
  · have := h.sum
    simp only [List.length_map] at *
    omega
  · exact h2.nil (List.map_eq_nil_iff.1 e)
  · have : 0 < G.length := List.length_pos_iff.2 fun e' => e (by rw [e']; rfl)
    omega
/-- if no node is held the first claim is granted -/
theorem srv_none {N : Nat} {t : Tab} {cnt : List Int} {put : Int} (h : Srv N 30 t cnt put) (hz : ∀ k, k < N → t.hold[k]? = some 0) : t.q = [] := by
  cases hq : t.q with
  | nil => rfl
  | cons c q =>
    have hs := h.st
    have hc := (h.q c (by rw [hq]; exact .head _)).1
    simp only [Tab.still, hq] at hs
    obtain ⟨n, hn, h1⟩ := not_free (scan_none.1 hs 0 c rfl)
    obtain ⟨b1, b2⟩ := hc n hn
    simp only [List.take_zero, marks, List.foldl_nil, List.getElem?_replicate, h.len, holdAt, hz n.toNat (by omega)] at h1
    rw [if_pos (by omega)] at h1
    simp at h1
end Go.Proofs.Ytpgoemmjhnnmoaa.Ab
