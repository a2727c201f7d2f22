/- Regions whose order is open: the invariant over what is done so far. -/
import Derived.Test.YtpgoemmjhnnmoaaAbDraw
namespace Go.Proofs.Ytpgoemmjhnnmoaa.Ab
open Go
set_option linter.unusedVariables false

def one (id : Nat) (B : Blk) : AH := ⟨id + 1, fun j => if j = id then some B else none⟩
theorem one_same (id : Nat) (B : Blk) : (one id B).blk id = some B := by simp [one]
theorem one_some {id j : Nat} {B C : Blk} (h : (one id B).blk j = some C) : j = id ∧ C = B := by
  simp only [one] at h; split at h
  · cases h; exact ⟨by assumption, rfl⟩
  · cases h
section
variable {lk : Lk} {ρ ρ' : Rho} {h h' : AH} {w w' : World}
/-- a new block that the abstract run has not yet made stays what it is -/
theorem one_keep {id : Nat} {B : Blk} (r : Rel lk ρ (one id B) w) {b t : Nat} (h1 : ρ id = some (b, t)) (h2 : ρ' id = some (b, t)) (hle : ρ.le ρ') (hw : w'.heap[b]? = w.heap[b]?)
    (hlt : ∀ {j b t : Nat}, ρ' j = some (b, t) → b < w'.heap.size) : Rel lk ρ' (one id B) w' := by
  refine ⟨?_, ?_, ?_, hlt, ?_⟩
  · intro j b' t' cs ro hj hb
    obtain ⟨rfl, rfl⟩ := one_some hb
    rw [h2] at hj
    cases hj
    obtain ⟨cur, ty, fz, a1, a2, a3, a4, a5⟩ := r.row h1 hb
    exact ⟨cur, ty, fz, by rw [hw]; exact a1, a2, a3, a4, fun k x hx => by obtain ⟨y, a6, a7⟩ := a5 k x hx; exact ⟨y, a6, a7.mono hle⟩⟩
  · intro j b' t' es cl hj hb
    obtain ⟨rfl, rfl⟩ := one_some hb
    rw [h2] at hj
    cases hj
    obtain ⟨es', a1, a2⟩ := r.map h1 hb
    exact ⟨es', by rw [hw]; exact a1, a2.mono fun _ _ ⟨a, b, c⟩ => ⟨a.mono hle, b.mono hle, c⟩⟩
  · intro i j b t b' t' hi hj hbi hbj e
    obtain ⟨B1, hb1⟩ := Option.ne_none_iff_exists'.1 hbi
    obtain ⟨B2, hb2⟩ := Option.ne_none_iff_exists'.1 hbj
    rw [(one_some hb1).1, (one_some hb2).1]
  · intro j hj
    simp only [one] at hj ⊢
    rw [if_neg (by omega)]
/-- ... until it makes it -/
theorem one_absorb {B : Blk} (r : Rel lk ρ h w) (r1 : Rel lk ρ (one h.next B) w) {b t : Nat} (h1 : ρ h.next = some (b, t)) (hn : ¬ Live ρ h b) : Rel lk ρ (h.alloc B) w := by
  refine ⟨?_, ?_, ?_, r.lt, ?_⟩
  · intro j b' t' cs ro hj hb
    by_cases e : j = h.next
    · subst e
      rw [blk_alloc_same] at hb
      exact r1.row hj (by rw [one_same]; exact hb)
    · rw [blk_alloc_ne e] at hb
      exact r.row hj hb
  · intro j b' t' es cl hj hb
    by_cases e : j = h.next
    · subst e
      rw [blk_alloc_same] at hb
      exact r1.map hj (by rw [one_same]; exact hb)
    · rw [blk_alloc_ne e] at hb
      exact r.map hj hb
  · intro i j b1 t1 b2 t2 hi hj hbi hbj e
    subst e
    by_cases ei : i = h.next
    · by_cases ej : j = h.next
      · rw [ei, ej]
      · subst ei
        rw [h1] at hi
        cases hi
        rw [blk_alloc_ne ej] at hbj
        exact (hn ⟨j, t2, hj, hbj⟩).elim
    · by_cases ej : j = h.next
      · subst ej
        rw [h1] at hj
        cases hj
        rw [blk_alloc_ne ei] at hbi
        exact (hn ⟨i, t1, hi, hbi⟩).elim
      · rw [blk_alloc_ne ei] at hbi
        rw [blk_alloc_ne ej] at hbj
        exact r.inj hi hj hbi hbj rfl
  · intro j hj
    rw [blk_alloc_ne (by simp only [next_alloc] at hj; omega)]
    exact r.wf j (by simp only [next_alloc] at hj; omega)

structure Stq (ρ : Rho) (h : AH) (w : World) (ρ' : Rho) (h' : AH) (w' : World) : Prop where
  nx : h.next ≤ h'.next
  un : ∀ id, id < h.next → ρ id = none → h'.blk id = h.blk id
  lv : ∀ b, b < w.heap.size → Live ρ' h' b → Live ρ h b
  wl : ∀ b, b < w.heap.size → Wr ρ' h' b → Wr ρ h b
  sm : ∀ b, b < w.heap.size → ¬ Wr ρ h b → w'.heap[b]? = w.heap[b]?
  sz : w.heap.size ≤ w'.heap.size
  os : w'.os = w.os
  tape : w'.tape = w.tape
  output : w'.output = w.output
theorem Stq.step {ρ0 : Rho} {h0 : AH} {w0 : World} (q : Stq ρ0 h0 w0 ρ h w) (ag : ∀ id, id < h0.next → ρ id = ρ0 id) (s : Stp ρ h w ρ' h' w') : Stq ρ0 h0 w0 ρ' h' w' where
  nx := Nat.le_trans q.nx s.nx
  un id hid hr := by
    have := q.nx
    rw [s.un id (by omega) (by rw [ag id hid]; exact hr), q.un id hid hr]
  lv b hb hl := q.lv b hb (s.lv b (Nat.lt_of_lt_of_le hb q.sz) hl)
  wl b hb hl := q.wl b hb (s.wl b (Nat.lt_of_lt_of_le hb q.sz) hl)
  sm b hb hn := by
    rw [s.sm b (Nat.lt_of_lt_of_le hb q.sz) (fun h => hn (q.wl b hb h)), q.sm b hb hn]
  sz := Nat.le_trans q.sz s.sz
  os := s.os.trans q.os
  tape := s.tape.trans q.tape
  output := s.output.trans q.output
end

section
variable {lk : Lk} {nt : Nat} {xs : List AOp} {E : Nat → Env} {H : Nat → AH} {v : Nat → AV} {ρ0 : Rho} {h0 : AH} {w0 : World}
/-- a block that is there already, but that the run in the order of the text makes later -/
def Pd (xs : List AOp) (E : Nat → Env) (L : Nat → Prop) (p k : Nat) : Prop := ∃ x, xs[k]? = some x ∧ p ≤ k ∧ L k ∧ x.o.kind = .alloc ∧ guarded (E k) x.g = some true

structure Inv (lk : Lk) (nt : Nat) (xs : List AOp) (E : Nat → Env) (H : Nat → AH) (v : Nat → AV) (ρ0 : Rho) (h0 : AH) (w0 : World) (L : Nat → Prop) (ρ : Rho) (p : Nat) (eS : Env) (a : Act) (w : World) : Prop where
  er : ER lk ρ nt eS a
  rel : Rel lk ρ (H p) w
  pm : p ≤ xs.length
  front : ∀ k x, xs[k]? = some x → k < p → x.hard = true → L k
  back : ∀ k x, xs[k]? = some x → p ≤ k → x.isLoud = true → ¬ L k
  es1 : ∀ k x d, xs[k]? = some x → L k → x.d = some d → eget eS d = v k
  es2 : ∀ d, (∀ k x, xs[k]? = some x → L k → x.d ≠ some d) → eget eS d = eget (E 0) d
  ag : ∀ id, id < h0.next ∨ (H xs.length).next ≤ id → ρ id = ρ0 id
  fr : ∀ id, (H p).next ≤ id → id < (H xs.length).next → ρ id = none ∨ ∃ k, Pd xs E L p k ∧ id = (H k).next
  pd : ∀ k, Pd xs E L p k → ∃ b t B, ρ (H k).next = some (b, t) ∧ H (k + 1) = (H k).alloc B ∧ Rel lk ρ (one (H k).next B) w ∧ ¬ Live ρ (H p) b ∧ w0.heap.size ≤ b
  pj : ∀ k k' b t t', Pd xs E L p k → Pd xs E L p k' → ρ (H k).next = some (b, t) → ρ (H k').next = some (b, t') → k = k'
  st : Stq ρ0 h0 w0 ρ (H p) w

theorem Pd.same {L : Nat → Prop} {p k i : Nat} {x : AOp} (hi : xs[i]? = some x) (hn : ¬ (x.o.kind = .alloc ∧ guarded (E i) x.g = some true)) (h : Pd xs E (fun j => L j ∨ j = i) p k) : Pd xs E L p k := by
  obtain ⟨y, h1, h2, h3, h4, h5⟩ := h
  refine ⟨y, h1, h2, ?_, h4, h5⟩
  rcases h3 with h3 | rfl
  · exact h3
  · rw [hi] at h1; cases h1; exact (hn ⟨h4, h5⟩).elim

variable {L : Nat → Prop} {ρ : Rho} {p : Nat} {eS : Env} {a : Act} {w : World}
/-- one more operation that makes no block ahead of time -/
theorem Inv.adv (hH : ∀ i j, i ≤ j → j ≤ xs.length → (H i).next ≤ (H j).next) (I : Inv lk nt xs E H v ρ0 h0 w0 L ρ p eS a w) {i q : Nat} {x : AOp} (hi : xs[i]? = some x) (hL : ¬ L i)
    (hq : (q = p ∧ x.isLoud = false) ∨ (q = p + 1 ∧ i = p ∧ x.isLoud = true)) (hna : ¬ (x.o.kind = .alloc ∧ guarded (E i) x.g = some true))
    (hdist : ∀ k y d, xs[k]? = some y → k ≠ i → y.d = some d → x.d ≠ some d)
    {ρ' : Rho} {w' : World} {a' : Act} (r' : Rel lk ρ' (H q) w') (s : Stp ρ (H p) w ρ' (H q) w') (e' : ER lk ρ' nt (eput eS x.d (v i)) a') :
    Inv lk nt xs E H v ρ0 h0 w0 (fun j => L j ∨ j = i) ρ' q (eput eS x.d (v i)) a' w' := by
  have him : i < xs.length := (List.getElem?_eq_some_iff.1 hi).1
  have hpq : p ≤ q := by rcases hq with ⟨h, _⟩ | ⟨h, _, _⟩ <;> omega
  have hqm : q ≤ xs.length := by have := I.pm; rcases hq with ⟨h, _⟩ | ⟨h, h', _⟩ <;> omega
  have hst := I.st.nx
  have hn1 := hH p q hpq hqm
  have hn2 := hH q xs.length hqm (Nat.le_refl _)
  have keep : ∀ {id}, (H q).next ≤ id → ρ' id = ρ id := fun h => s.ag _ (.inr h)
  have pdold : ∀ {k}, Pd xs E (fun j => L j ∨ j = i) q k → Pd xs E L p k := fun h => by
    obtain ⟨y, h1, h2, h3⟩ := h.same hi hna
    exact ⟨y, h1, by omega, h3⟩
  have pdq : ∀ {k}, Pd xs E (fun j => L j ∨ j = i) q k → (H q).next ≤ (H k).next ∧ k < xs.length := fun h => by
    obtain ⟨y, h1, h2, h3⟩ := h
    have := (List.getElem?_eq_some_iff.1 h1).1
    exact ⟨hH q _ h2 (by omega), this⟩
  have frp : ∀ id, (H p).next ≤ id → id < (H q).next → ρ id = none := fun id h1 h2 => by
    rcases I.fr id h1 (by omega) with h | ⟨k, ⟨y, y1, y2, y3, y4, y5⟩, hk⟩
    · exact h
    · exfalso
      rcases hq with ⟨rfl, _⟩ | ⟨rfl, rfl, hl⟩
      · omega
      · have hkm := (List.getElem?_eq_some_iff.1 y1).1
        rcases Nat.lt_or_ge i k with hlt | hge
        · have := hH (i + 1) k hlt (by omega); omega
        · have : k = i := by omega
          subst this
          rw [hi] at y1
          cases y1
          simp [AOp.isLoud, y4] at hl
  have hle : ρ.le ρ' := s.le frp
  refine ⟨e', r', hqm, ?_, ?_, ?_, ?_, ?_, ?_, ?_, ?_, ?_⟩
  · intro k y hk hkq hh
    rcases Nat.lt_or_ge k p with h | h
    · exact .inl (I.front k y hk h hh)
    · rcases hq with ⟨rfl, _⟩ | ⟨rfl, rfl, _⟩
      · omega
      · exact .inr (by omega)
  · intro k y hk hkq hl hor
    rcases hor with h | rfl
    · exact I.back k y hk (by omega) hl h
    · rw [hi] at hk
      cases hk
      rcases hq with ⟨_, h⟩ | ⟨rfl, rfl, _⟩
      · rw [hl] at h; cases h
      · omega
  · intro k y d hk hor hd
    by_cases e : k = i
    · subst e
      rw [hi] at hk
      cases hk
      rw [hd]
      simp [eput, eget]
    · have := hdist k y d hk e hd
      have hLk := hor.resolve_right e
      cases hxd : x.d with
      | none => exact I.es1 k y d hk hLk hd
      | some d' =>
        have : d' ≠ d := fun h => this (by rw [hxd, h])
        simp only [eput, eget, this, if_false]
        exact I.es1 k y d hk hLk hd
  · intro d hd
    have h1 := I.es2 d fun k y hk hLk => hd k y hk (.inl hLk)
    cases hxd : x.d with
    | none => exact h1
    | some d' =>
      have : d' ≠ d := fun h => hd i x hi (.inr rfl) (by rw [hxd, h])
      simpa only [eput, eget, this, if_false] using h1
  · intro id hid
    rw [s.ag id (by omega)]
    exact I.ag id hid
  · intro id h1 h2
    rw [keep h1]
    rcases I.fr id (by omega) h2 with h | ⟨k, ⟨y, y1, y2, y3, y4⟩, rfl⟩
    · exact .inl h
    · refine .inr ⟨k, ⟨y, y1, ?_, .inl y3, y4⟩, rfl⟩
      rcases hq with ⟨rfl, _⟩ | ⟨rfl, rfl, hl⟩
      · exact y2
      · rcases Nat.lt_or_ge i k with h | h
        · omega
        · have : k = i := by omega
          subst this
          exact (hL y3).elim
  · intro k hk
    obtain ⟨b, t, B, b1, b2, b3, b4, b5⟩ := I.pd k (pdold hk)
    have hkq := (pdq hk).1
    have hb : b < w.heap.size := I.rel.lt b1
    refine ⟨b, t, B, by rw [keep hkq]; exact b1, b2, ?_, fun hl => b4 (s.lv b hb hl), b5⟩
    refine one_keep b3 b1 (by rw [keep hkq]; exact b1) hle ?_ r'.lt
    exact s.sm b hb fun ⟨id, t, z, z1, z2, _⟩ => b4 ⟨id, t, z1, by rw [z2]; simp⟩
  · intro k k' b t t' hk hk' h1 h2
    rw [keep (pdq hk).1] at h1
    rw [keep (pdq hk').1] at h2
    exact I.pj k k' b t t' (pdold hk) (pdold hk') h1 h2
  · exact I.st.step (fun id hid => I.ag id (.inl hid)) s

theorem Inv.freeAt (hH : ∀ i j, i ≤ j → j ≤ xs.length → (H i).next ≤ (H j).next) (I : Inv lk nt xs E H v ρ0 h0 w0 L ρ p eS a w) {i : Nat} {x : AOp} (hi : xs[i]? = some x) (hL : ¬ L i) (hpi : p ≤ i)
    {B : Blk} (hB : H (i + 1) = (H i).alloc B) : ρ (H i).next = none := by
  have him : i < xs.length := (List.getElem?_eq_some_iff.1 hi).1
  have hn2 := hH (i + 1) xs.length him (Nat.le_refl _)
  rw [hB, next_alloc] at hn2
  rcases I.fr (H i).next (hH p i hpi (by omega)) (by omega) with h | ⟨k, hk', hke⟩
  · exact h
  · exfalso
    obtain ⟨b, t, B', _, b2, _⟩ := I.pd k hk'
    obtain ⟨y, y1, y2, y3, y4⟩ := hk'
    have hkm := (List.getElem?_eq_some_iff.1 y1).1
    rcases Nat.lt_trichotomy k i with h | rfl | h
    · have := hH (k + 1) i h (by omega)
      rw [b2, next_alloc] at this
      omega
    · exact hL y3
    · have := hH (i + 1) k h (by omega)
      rw [hB, next_alloc] at this
      omega
theorem Inv.freeOf (hH : ∀ i j, i ≤ j → j ≤ xs.length → (H i).next ≤ (H j).next) (I : Inv lk nt xs E H v ρ0 h0 w0 L ρ p eS a w) {x : AOp} (hi : xs[p]? = some x) (hl : x.isLoud = true) :
    Free ρ (H p).next (H (p + 1)).next := fun id h1 h2 => by
  have hpm := (List.getElem?_eq_some_iff.1 hi).1
  have := hH (p + 1) xs.length hpm (Nat.le_refl _)
  rcases I.fr id h1 (by omega) with h | ⟨k, ⟨y, y1, y2, y3, y4, y5⟩, hk⟩
  · exact h
  · exfalso
    have hkm := (List.getElem?_eq_some_iff.1 y1).1
    rcases Nat.lt_or_ge p k with hlt | hge
    · have := hH (p + 1) k hlt (by omega); omega
    · have : k = p := by omega
      subst this
      rw [hi] at y1
      cases y1
      simp [AOp.isLoud, y4] at hl

/-- a block made, maybe ahead of time -/
theorem Inv.pend (hH : ∀ i j, i ≤ j → j ≤ xs.length → (H i).next ≤ (H j).next) (I : Inv lk nt xs E H v ρ0 h0 w0 L ρ p eS a w) {i : Nat} {x : AOp} (hi : xs[i]? = some x) (hL : ¬ L i) (hpi : p ≤ i)
    (hk : x.o.kind = .alloc) (hg : guarded (E i) x.g = some true) {B : Blk} (hB : H (i + 1) = (H i).alloc B)
    (hdist : ∀ k y d, xs[k]? = some y → k ≠ i → y.d = some d → x.d ≠ some d)
    {ρ' : Rho} {w' : World} {a' : Act} {b0 t0 : Nat} (hid : ρ' (H i).next = some (b0, t0)) (r' : Rel lk ρ' ((⟨(H i).next, (H p).blk⟩ : AH).alloc B) w')
    (s : Stp ρ ⟨(H i).next, (H p).blk⟩ w ρ' ((⟨(H i).next, (H p).blk⟩ : AH).alloc B) w') (e' : ER lk ρ' nt (eput eS x.d (v i)) a') :
    Inv lk nt xs E H v ρ0 h0 w0 (fun j => L j ∨ j = i) ρ' p (eput eS x.d (v i)) a' w' := by
  have him : i < xs.length := (List.getElem?_eq_some_iff.1 hi).1
  have hst := I.st.nx
  have hn1 := hH p i hpi (by omega)
  have hn2 := hH (i + 1) xs.length him (Nat.le_refl _)
  rw [hB, next_alloc] at hn2
  have keep : ∀ {id}, id ≠ (H i).next → ρ' id = ρ id := fun h => s.ag _ (by simp only [next_alloc]; omega)
  -- other blocks of that kind have other numbers
  have other : ∀ {k}, Pd xs E L p k → (H k).next ≠ (H i).next := fun {k} hp e => by
    obtain ⟨b, t, B', _, b2, _⟩ := I.pd k hp
    obtain ⟨y, y1, y2, y3, y4⟩ := hp
    have hkm := (List.getElem?_eq_some_iff.1 y1).1
    rcases Nat.lt_trichotomy k i with h | rfl | h
    · have := hH (k + 1) i h (by omega)
      rw [b2, next_alloc] at this
      omega
    · exact hL y3
    · have := hH (i + 1) k h (by omega)
      rw [hB, next_alloc] at this
      omega
  have free : ρ (H i).next = none := by
    rcases I.fr (H i).next hn1 (by omega) with h | ⟨k, hk', hke⟩
    · exact h
    · exact (other hk' hke.symm).elim
  have hle : ρ.le ρ' := fun id y hy => by
    rw [keep (fun e => by rw [e, free] at hy; cases hy)]; exact hy
  have blkne : ∀ {j}, (H p).blk j ≠ none → j < (H p).next := fun h => by
    apply Classical.byContradiction
    intro hn
    exact h (I.rel.wf _ (by omega))
  have blkeq : ∀ {j}, (H p).blk j ≠ none → ((⟨(H i).next, (H p).blk⟩ : AH).alloc B).blk j = (H p).blk j := fun h => by
    have := blkne h
    exact blk_alloc_ne (h := ⟨(H i).next, (H p).blk⟩) (by show _ ≠ (H i).next; omega)
  have blki : ((⟨(H i).next, (H p).blk⟩ : AH).alloc B).blk (H i).next = some B := blk_alloc_same (⟨(H i).next, (H p).blk⟩ : AH) B
  have notlive : ¬ Live ρ' (H p) b0 := fun ⟨j, t, h1, h2⟩ => by
    have := blkne h2
    have := r'.inj h1 hid (by rw [blkeq h2]; exact h2) (by rw [blki]; simp) rfl
    omega
  have hb0 : w.heap.size ≤ b0 := by
    apply Classical.byContradiction
    intro hn
    obtain ⟨j, t, h1, h2⟩ := s.lv b0 (by omega) ⟨_, _, hid, by rw [blki]; simp⟩
    exact notlive ⟨j, t, hle _ _ h1, h2⟩
  have relp : Rel lk ρ' (H p) w' := by
    refine ⟨?_, ?_, ?_, r'.lt, I.rel.wf⟩
    · intro j b t cs ro h1 h2
      exact r'.row h1 (by rw [blkeq (by rw [h2]; simp)]; exact h2)
    · intro j b t es cl h1 h2
      exact r'.map h1 (by rw [blkeq (by rw [h2]; simp)]; exact h2)
    · intro j k b t b' t' h1 h2 h3 h4 e
      exact r'.inj h1 h2 (by rw [blkeq h3]; exact h3) (by rw [blkeq h4]; exact h4) e
  have relo : Rel lk ρ' (one (H i).next B) w' := by
    refine ⟨?_, ?_, ?_, r'.lt, ?_⟩
    · intro j b t cs ro h1 h2
      obtain ⟨rfl, rfl⟩ := one_some h2
      exact r'.row h1 blki
    · intro j b t es cl h1 h2
      obtain ⟨rfl, rfl⟩ := one_some h2
      exact r'.map h1 blki
    · intro j k b t b' t' h1 h2 h3 h4 e
      obtain ⟨B1, hb1⟩ := Option.ne_none_iff_exists'.1 h3
      obtain ⟨B2, hb2⟩ := Option.ne_none_iff_exists'.1 h4
      rw [(one_some hb1).1, (one_some hb2).1]
    · intro j hj
      simp only [one] at hj ⊢
      rw [if_neg (by omega)]
  have pdold : ∀ {k}, Pd xs E (fun j => L j ∨ j = i) p k → k = i ∨ Pd xs E L p k := fun ⟨y, h1, h2, h3, h4⟩ => by
    rcases h3 with h3 | h3
    · exact .inr ⟨y, h1, h2, h3, h4⟩
    · exact .inl h3
  refine ⟨e', relp, I.pm, ?_, ?_, ?_, ?_, ?_, ?_, ?_, ?_, ?_⟩
  · intro k y hk' hkq hh
    exact .inl (I.front k y hk' hkq hh)
  · intro k y hk' hkq hl hor
    rcases hor with h | rfl
    · exact I.back k y hk' hkq hl h
    · rw [hi] at hk'
      cases hk'
      simp [AOp.isLoud, hk] at hl
  · intro k y d hk' hor hd
    by_cases e : k = i
    · subst e
      rw [hi] at hk'
      cases hk'
      rw [hd]
      simp [eput, eget]
    · have := hdist k y d hk' e hd
      have hLk := hor.resolve_right e
      cases hxd : x.d with
      | none => exact I.es1 k y d hk' hLk hd
      | some d' =>
        have : d' ≠ d := fun h => this (by rw [hxd, h])
        simp only [eput, eget, this, if_false]
        exact I.es1 k y d hk' hLk hd
  · intro d hd
    have h1 := I.es2 d fun k y hk' hLk => hd k y hk' (.inl hLk)
    cases hxd : x.d with
    | none => exact h1
    | some d' =>
      have : d' ≠ d := fun h => hd i x hi (.inr rfl) (by rw [hxd, h])
      simpa only [eput, eget, this, if_false] using h1
  · intro id hid'
    rw [keep (by omega)]
    exact I.ag id hid'
  · intro id h1 h2
    by_cases e : id = (H i).next
    · exact .inr ⟨i, ⟨x, hi, hpi, .inr rfl, hk, hg⟩, e⟩
    · rw [keep e]
      rcases I.fr id h1 h2 with h | ⟨k, ⟨y, y1, y2, y3, y4⟩, rfl⟩
      · exact .inl h
      · exact .inr ⟨k, ⟨y, y1, y2, .inl y3, y4⟩, rfl⟩
  · intro k hk'
    rcases pdold hk' with rfl | hk'
    · exact ⟨b0, t0, B, hid, hB, relo, notlive, Nat.le_trans I.st.sz hb0⟩
    · obtain ⟨b, t, B', b1, b2, b3, b4, b5⟩ := I.pd k hk'
      have hne := other hk'
      have hb : b < w.heap.size := I.rel.lt b1
      have b1' : ρ' (H k).next = some (b, t) := by rw [keep hne]; exact b1
      refine ⟨b, t, B', b1', b2, ?_, ?_, b5⟩
      · refine one_keep b3 b1 b1' hle ?_ r'.lt
        exact s.sm b hb fun ⟨id, t, z, z1, z2, _⟩ => b4 ⟨id, t, z1, by rw [z2]; simp⟩
      · rintro ⟨j, t', h1, h2⟩
        have := blkne h2
        rw [keep (by omega)] at h1
        exact b4 ⟨j, t', h1, h2⟩
  · intro k k' b t t' hk1 hk2 h1 h2
    rcases pdold hk1 with rfl | hk1o
    · rcases pdold hk2 with rfl | hk2o
      · rfl
      · rw [hid] at h1
        cases h1
        rw [keep (other hk2o)] at h2
        have := I.rel.lt h2
        omega
    · rcases pdold hk2 with rfl | hk2o
      · rw [hid] at h2
        cases h2
        rw [keep (other hk1o)] at h1
        have := I.rel.lt h1
        omega
      · rw [keep (other hk1o)] at h1
        rw [keep (other hk2o)] at h2
        exact I.pj k k' b t t' hk1o hk2o h1 h2
  · refine ⟨I.st.nx, I.st.un, ?_, ?_, ?_, Nat.le_trans I.st.sz s.sz, s.os.trans I.st.os, s.tape.trans I.st.tape, s.output.trans I.st.output⟩
    · rintro b hb ⟨j, t, h1, h2⟩
      have := blkne h2
      rw [keep (by omega)] at h1
      exact I.st.lv b hb ⟨j, t, h1, h2⟩
    · rintro b hb ⟨j, t, z, h1, h2, h3⟩
      have := blkne (by rw [h2]; simp)
      rw [keep (by omega)] at h1
      exact I.st.wl b hb ⟨j, t, z, h1, h2, h3⟩
    · intro b hb hn
      rw [s.sm b (Nat.lt_of_lt_of_le hb I.st.sz) (fun h => hn (I.st.wl b hb h)), I.st.sm b hb hn]

/-- past an operation that made nothing -/
theorem Inv.pass (I : Inv lk nt xs E H v ρ0 h0 w0 L ρ p eS a w) (hp : p < xs.length) (hsame : H (p + 1) = H p) (hf : ∀ x, xs[p]? = some x → x.hard = true → L p)
    (hnp : ¬ Pd xs E L p p) : Inv lk nt xs E H v ρ0 h0 w0 L ρ (p + 1) eS a w := by
  have pdo : ∀ {k}, Pd xs E L (p + 1) k → Pd xs E L p k := fun ⟨y, h1, h2, h3⟩ => ⟨y, h1, by omega, h3⟩
  refine ⟨I.er, by rw [hsame]; exact I.rel, hp, ?_, ?_, I.es1, I.es2, I.ag, ?_, ?_, ?_, by rw [hsame]; exact I.st⟩
  · intro k x hk hkp hh
    rcases Nat.lt_or_ge k p with h | h
    · exact I.front k x hk h hh
    · have : k = p := by omega
      subst this
      exact hf x hk hh
  · intro k x hk hkp hl
    exact I.back k x hk (by omega) hl
  · intro id h1 h2
    rw [hsame] at h1
    rcases I.fr id h1 h2 with h | ⟨k, hk, rfl⟩
    · exact .inl h
    · refine .inr ⟨k, ?_, rfl⟩
      obtain ⟨y, y1, y2, y3⟩ := hk
      refine ⟨y, y1, ?_, y3⟩
      rcases Nat.lt_or_ge p k with h | h
      · omega
      · have : k = p := by omega
        subst this
        exact (hnp ⟨y, y1, y2, y3⟩).elim
  · intro k hk
    rw [hsame]
    exact I.pd k (pdo hk)
  · intro k k' b t t' hk hk'
    exact I.pj k k' b t t' (pdo hk) (pdo hk')
/-- past an operation whose block is there already -/
theorem Inv.take (hH : ∀ i j, i ≤ j → j ≤ xs.length → (H i).next ≤ (H j).next) (I : Inv lk nt xs E H v ρ0 h0 w0 L ρ p eS a w) (hpp : Pd xs E L p p) : Inv lk nt xs E H v ρ0 h0 w0 L ρ (p + 1) eS a w := by
  have pdo : ∀ {k}, Pd xs E L (p + 1) k → Pd xs E L p k := fun ⟨y, h1, h2, h3⟩ => ⟨y, h1, by omega, h3⟩
  obtain ⟨b0, t0, B, b1, b2, b3, b4, b5⟩ := I.pd p hpp
  obtain ⟨x, x1, x2, x3, x4⟩ := hpp
  have hp := (List.getElem?_eq_some_iff.1 x1).1
  have hst := I.st.nx
  refine ⟨I.er, by rw [b2]; exact one_absorb I.rel b3 b1 b4, hp, ?_, ?_, I.es1, I.es2, I.ag, ?_, ?_, ?_, ?_⟩
  · intro k y hk hkp hh
    rcases Nat.lt_or_ge k p with h | h
    · exact I.front k y hk h hh
    · have : k = p := by omega
      subst this
      exact x3
  · intro k y hk hkp hl
    exact I.back k y hk (by omega) hl
  · intro id h1 h2
    rw [b2, next_alloc] at h1
    rcases I.fr id (by omega) h2 with h | ⟨k, hk, rfl⟩
    · exact .inl h
    · refine .inr ⟨k, ?_, rfl⟩
      obtain ⟨y, y1, y2, y3⟩ := hk
      refine ⟨y, y1, ?_, y3⟩
      rcases Nat.lt_or_ge p k with h | h
      · omega
      · have : k = p := by omega
        subst this
        omega
  · intro k hk
    obtain ⟨b, t, B', c1, c2, c3, c4, c5⟩ := I.pd k (pdo hk)
    refine ⟨b, t, B', c1, c2, c3, ?_, c5⟩
    rw [b2]
    rintro ⟨j, t', h1, h2⟩
    by_cases e : j = (H p).next
    · subst e
      rw [b1] at h1
      cases h1
      have := I.pj k p _ _ _ (pdo hk) ⟨x, x1, x2, x3, x4⟩ c1 b1
      obtain ⟨_, _, h, _⟩ := hk
      omega
    · rw [blk_alloc_ne e] at h2
      exact c4 ⟨j, t', h1, h2⟩
  · intro k k' b t t' hk hk'
    exact I.pj k k' b t t' (pdo hk) (pdo hk')
  · rw [b2]
    refine ⟨Nat.le_trans hst (Nat.le_succ _), ?_, ?_, ?_, I.st.sm, I.st.sz, I.st.os, I.st.tape, I.st.output⟩
    · intro id hid hr
      rw [blk_alloc_ne (by omega)]
      exact I.st.un id hid hr
    · rintro b hb ⟨j, t, h1, h2⟩
      by_cases e : j = (H p).next
      · subst e
        rw [b1] at h1
        cases h1
        omega
      · rw [blk_alloc_ne e] at h2
        exact I.st.lv b hb ⟨j, t, h1, h2⟩
    · rintro b hb ⟨j, t, z, h1, h2, h3⟩
      by_cases e : j = (H p).next
      · subst e
        rw [b1] at h1
        cases h1
        omega
      · rw [blk_alloc_ne e] at h2
        exact I.st.wl b hb ⟨j, t, z, h1, h2, h3⟩
end
end Go.Proofs.Ytpgoemmjhnnmoaa.Ab
