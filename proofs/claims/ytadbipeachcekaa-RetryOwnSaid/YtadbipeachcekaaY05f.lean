/- Chapter 05: the sender whose numbers don't go round, and that both are alike. -/
import Derived.Test.YtadbipeachcekaaY05e
namespace Go.Proofs.Ytadbipeachcekaa.Ab
open Go
set_option linter.unusedVariables false
set_option linter.unusedSimpArgs false
structure Pn where
  n : Int
  data : List UInt8
  sent : Int
  since : Int
structure Rs where
  win : Int
  pau : Int
  tim : Int
  first : Int
  count : Int
  opn : List Pn
  dead : Bool
def num (f n : Int) : Int := (f + n) % 65536
def Pn.pc (f : Int) (x : Pn) : Pc := ⟨num f x.n, x.data, x.sent, x.since⟩
def Rs.sn (r : Rs) : Sn := ⟨r.win, r.pau, r.tim, num r.first r.count, r.opn.map (Pn.pc r.first), r.dead⟩
def Rs.front (r : Rs) : Int := match r.opn with | [] => r.count | x :: _ => x.n
structure Rs.Ok (r : Rs) : Prop where
  set_ : okSet r.win r.pau r.tim
  f0 : 0 ≤ r.first
  f1 : r.first < 65536
  c0 : 0 ≤ r.count
  srt : r.opn.Pairwise (fun x y => x.n < y.n)
  all_ : ∀ x ∈ r.opn, 0 ≤ x.n ∧ x.n < r.count ∧ r.count - x.n ≤ r.win ∧ (0 ≤ x.sent ∧ x.sent ≤ r.tim) ∧ (0 ≤ x.since ∧ x.since < r.pau) ∧ x.data.length ≤ 256
theorem srt_len : ∀ (l : List Pn) (a b : Int), l.Pairwise (fun x y => x.n < y.n) → (∀ x ∈ l, a ≤ x.n ∧ x.n < b) → a ≤ b → (l.length : Int) ≤ b - a
  | [], a, b, _, _, h => by simp only [List.length_nil]; omega
  | x :: l, a, b, hp, hb, h => by
    have h1 := List.pairwise_cons.1 hp
    have hx := hb x (by simp)
    have := srt_len l (x.n + 1) b h1.2 (fun y hy => ⟨by have := h1.1 y hy; omega, (hb y (by simp [hy])).2⟩) (by omega)
    simp only [List.length_cons]; omega
theorem Rs.Ok.len {r : Rs} (h : r.Ok) : r.opn.length ≤ 64 := by
  have hs := h.set_
  have := srt_len r.opn (r.count - r.win) r.count h.srt (fun x hx => by have := h.all_ x hx; omega) (by have := hs.1; omega)
  have := hs.1
  omega
theorem num_inj {f a b : Int} (h : num f a = num f b) (h1 : a - b < 65536) (h2 : b - a < 65536) : a = b := by
  unfold num at h; omega
theorem dist_num {f a b : Int} (h1 : b - a < 32768) (h2 : a - b ≤ 32768) : dist (num f a) (num f b) = b - a := by
  rw [dist_eq]; unfold num; omega
def Rs.full (r : Rs) : Bool := match r.opn with | [] => false | x :: _ => decide (r.count - x.n + 1 > r.win)
def Rs.put (r : Rs) (d : List UInt8) : Rs × Int × Int :=
  if r.dead = true then (r, 0, 190) else if d.length > 256 then (r, 0, 3) else if r.full = true then (r, 0, 5) else (⟨r.win, r.pau, r.tim, r.first, r.count + 1, r.opn ++ [⟨r.count, d, 0, 0⟩], r.dead⟩, num r.first r.count, 0)
def sends (pau : Int) (p : Pn) : Prop := p.sent = 0 ∨ p.since + 1 ≥ pau
instance (pau : Int) (p : Pn) : Decidable (sends pau p) := by unfold sends; exact inferInstance
def Pn.step (pau : Int) (p : Pn) : Pn := if sends pau p then ⟨p.n, p.data, p.sent + 1, 0⟩ else ⟨p.n, p.data, p.sent, p.since + 1⟩
def dies (pau tim : Int) (p : Pn) : Bool := decide (sends pau p ∧ p.sent ≥ tim)
def Rs.tick (r : Rs) : Rs × List Pn × Int :=
  if r.dead = true then (r, [], 190) else if r.opn.any (dies r.pau r.tim) = true then (⟨r.win, r.pau, r.tim, r.first, r.count, r.opn, true⟩, [], 190) else (⟨r.win, r.pau, r.tim, r.first, r.count, r.opn.map (Pn.step r.pau), false⟩, (r.opn.filter fun p => decide (sends r.pau p)).map (Pn.step r.pau), 0)
def ixR (f q : Int) : List Pn → Nat → Int
  | [], _ => -1
  | x :: r, j => if num f x.n = q then j else ixR f q r (j + 1)
def woutR (l : List Pn) (i : Nat) : List Pn := l.take i ++ l.drop (i + 1)
def Rs.ack (r : Rs) (q : Int) : Rs × Int :=
  if r.dead = true then (r, 190) else if ixR r.first q r.opn 0 < 0 then (r, 4) else (⟨r.win, r.pau, r.tim, r.first, r.count, woutR r.opn (ixR r.first q r.opn 0).toNat, r.dead⟩, 0)
def Rs.nof (r : Rs) (q : Int) : Int := r.front + (q - num r.first r.front) % 65536
def leftR (n : Int) (l : List Pn) : List Pn := l.filter fun x => decide (x.n ≥ n)
def Rs.ackTo (r : Rs) (q : Int) : Rs × Int × Int :=
  if r.dead = true then (r, 0, 190) else if r.nof q > r.count then (r, 0, 4) else (⟨r.win, r.pau, r.tim, r.first, r.count, leftR (r.nof q) r.opn, r.dead⟩, (r.opn.length : Int) - ((leftR (r.nof q) r.opn).length : Int), 0)
structure Sim (s : Sn) (r : Rs) : Prop where
  dead_ : s.dead = r.dead
  len_ : s.opn.length ≤ 64
  dat_ : ∀ p ∈ s.opn, p.data.length ≤ 256
  eq_ : r.dead = false → s = r.sn ∧ r.Ok
theorem Rs.Ok.sim {r : Rs} (h : r.Ok) (hd : r.dead = false) : Sim r.sn r :=
  ⟨rfl, by have := h.len; simpa [Rs.sn] using this, fun p hp => by
    obtain ⟨x, hx, rfl⟩ := List.mem_map.1 hp
    exact (h.all_ x hx).2.2.2.2.2, fun _ => ⟨rfl, h⟩⟩
theorem Rs.front_b {r : Rs} (h : r.Ok) : r.front ≤ r.count ∧ r.count - r.front ≤ r.win ∧ 0 ≤ r.front ∧ ∀ x ∈ r.opn, r.front ≤ x.n := by
  have hs := h.set_.1
  have ha := h.all_
  have hp := h.srt
  have hc := h.c0
  unfold Rs.front
  cases ho : r.opn with
  | nil => exact ⟨by simp, by simp; omega, hc, by simp⟩
  | cons x l =>
    rw [ho] at ha hp
    have hx := ha x (by simp)
    refine ⟨by simp only; omega, by simp only; omega, hx.1, fun y hy => ?_⟩
    rcases List.mem_cons.1 hy with rfl | hy
    · exact Int.le_refl _
    · exact Int.le_of_lt ((List.pairwise_cons.1 hp).1 y hy)
theorem sn_front (r : Rs) : r.sn.front = num r.first r.front := by
  unfold Rs.sn Sn.front Rs.front
  cases r.opn <;> rfl
theorem put_sim {s : Sn} {r : Rs} (h : Sim s r) (d : List UInt8) : (s.put d).2 = (r.put d).2 ∧ Sim (s.put d).1 (r.put d).1 := by
  cases hd : r.dead with
  | true =>
    have hsd : s.dead = true := h.dead_.trans hd
    unfold Sn.put Rs.put
    rw [if_pos hd, if_pos hsd]
    exact ⟨rfl, h⟩
  | false =>
    obtain ⟨rfl, hk⟩ := h.eq_ hd
    have hs := hk.set_
    have hb := Rs.front_b hk
    have hfe : r.sn.full = r.full := by
      have ha := hk.all_
      unfold Rs.sn Sn.full Rs.full
      cases ho : r.opn with
      | nil => rfl
      | cons x l =>
        rw [ho] at ha
        have hx := ha x (by simp)
        show decide (dist (num r.first x.n) (num r.first r.count) ≥ r.win) = _
        rw [dist_num (by have := hs.1; omega) (by omega)]
        exact decide_eq_decide.2 (by omega)
    unfold Sn.put Rs.put
    rw [if_neg (show ¬(r.sn.dead = true) by show ¬(r.dead = true); rw [hd]; decide), if_neg (show ¬(r.dead = true) by rw [hd]; decide)]
    by_cases h1 : d.length > 256
    · rw [if_pos h1, if_pos h1]; exact ⟨rfl, h⟩
    rw [if_neg h1, if_neg h1, hfe]
    by_cases h2 : r.full = true
    · rw [if_pos h2, if_pos h2]; exact ⟨rfl, h⟩
    rw [if_neg h2, if_neg h2]
    have hfn : r.count + 1 - r.front ≤ r.win := by
      unfold Rs.full at h2
      unfold Rs.front
      cases ho : r.opn with
      | nil => simp only; have := hs.1; omega
      | cons x l =>
        rw [ho] at h2
        have : ¬(r.count - x.n + 1 > r.win) := fun hh => h2 (decide_eq_true hh)
        simp only; omega
    have he : (⟨r.sn.win, r.sn.pau, r.sn.tim, IntKind.u16.wrap (r.sn.next + 1), r.sn.opn ++ [⟨r.sn.next, d, 0, 0⟩], r.sn.dead⟩ : Sn) = (⟨r.win, r.pau, r.tim, r.first, r.count + 1, r.opn ++ [⟨r.count, d, 0, 0⟩], r.dead⟩ : Rs).sn := by
      unfold Rs.sn
      simp only [List.map_append, List.map_cons, List.map_nil, Pn.pc]
      congr 1
      rw [IntKind.wrap_u16]; unfold num; omega
    rw [he]
    refine ⟨?_, Rs.Ok.sim ⟨hk.set_, hk.f0, hk.f1, by have := hk.c0; simp only; omega, ?_, ?_⟩ hd⟩
    · show (IntKind.u16.wrap (IntKind.u16.wrap (num r.first r.count + 1) - 1), (0 : Int)) = (num r.first r.count, 0)
      rw [IntKind.wrap_u16, IntKind.wrap_u16]
      congr 1
      unfold num; omega
    · refine List.pairwise_append.2 ⟨hk.srt, by simp, fun x hx y hy => ?_⟩
      rw [List.mem_singleton.1 hy]
      exact (hk.all_ x hx).2.1
    · intro x hx
      have hc := hk.c0
      rcases List.mem_append.1 hx with hx | hx
      · have := hk.all_ x hx
        have := hb.2.2.2 x hx
        simp only
        omega
      · rw [List.mem_singleton.1 hx]
        have := hs.1; have := hs.2.1; have := hs.2.2
        simp only; omega
theorem tk_sim (f pau tim : Int) (hp : 1 ≤ pau ∧ pau ≤ 1000) (ht : 1 ≤ tim ∧ tim ≤ 20) : ∀ l : List Pn, (∀ x ∈ l, (0 ≤ x.sent ∧ x.sent ≤ tim) ∧ (0 ≤ x.since ∧ x.since < pau)) →
    (tk pau tim (l.map (Pn.pc f))).2.2 = l.any (dies pau tim) ∧ (l.any (dies pau tim) = false → (tk pau tim (l.map (Pn.pc f))).1 = (l.map (Pn.step pau)).map (Pn.pc f) ∧ (tk pau tim (l.map (Pn.pc f))).2.1 = ((l.filter fun p => decide (sends pau p)).map (Pn.step pau)).map fun x => (Pn.pc f x).out)
  | [], _ => ⟨rfl, fun _ => ⟨rfl, rfl⟩⟩
  | x :: l, h => by
    have hx := h x (by simp)
    have ih := tk_sim f pau tim hp ht l fun y hy => h y (by simp [hy])
    have hw : IntKind.i64.wrap ((Pn.pc f x).since + 1) = x.since + 1 := wi (x.since + 1) (by omega) (by omega)
    have hw2 : IntKind.i64.wrap ((Pn.pc f x).sent + 1) = x.sent + 1 := wi (x.sent + 1) (by omega) (by omega)
    have hwt : waits pau (Pn.pc f x) ↔ ¬sends pau x := by
      unfold waits sends
      rw [hw]
      show (0 < x.sent ∧ _) ↔ _
      omega
    rw [List.map_cons, tk, List.any_cons]
    by_cases hs : sends pau x
    · rw [if_neg (by rw [hwt]; simpa using hs)]
      by_cases hd : x.sent = tim
      · have : dies pau tim x = true := decide_eq_true ⟨hs, by omega⟩
        rw [if_pos (show (Pn.pc f x).sent = tim from hd), this]
        exact ⟨rfl, fun hh => by simp at hh⟩
      · have : dies pau tim x = false := decide_eq_false fun hh => by omega
        rw [if_neg (show ¬((Pn.pc f x).sent = tim) from hd), this, Bool.false_or]
        refine ⟨ih.1, fun hh => ?_⟩
        have ih2 := ih.2 hh
        rw [List.filter_cons_of_pos (p := fun p => decide (sends pau p)) (decide_eq_true hs)]
        simp only [List.map_cons, ih2.1, ih2.2]
        have he : x.step pau = ⟨x.n, x.data, x.sent + 1, 0⟩ := if_pos hs
        rw [he]
        refine ⟨?_, rfl⟩
        congr 1
        unfold Pc.go
        rw [hw2]; rfl
    · rw [if_pos (hwt.2 hs)]
      have : dies pau tim x = false := decide_eq_false fun hh => hs hh.1
      rw [this, Bool.false_or]
      refine ⟨ih.1, fun hh => ?_⟩
      have ih2 := ih.2 hh
      rw [List.filter_cons_of_neg (p := fun p => decide (sends pau p)) (by simpa using hs)]
      simp only [List.map_cons, ih2.1, ih2.2]
      have he : x.step pau = ⟨x.n, x.data, x.sent, x.since + 1⟩ := if_neg hs
      rw [he, and_true]
      congr 1
      unfold Pc.age
      rw [hw]; rfl
theorem step_n (pau : Int) (x : Pn) : (x.step pau).n = x.n ∧ (x.step pau).data = x.data := by
  unfold Pn.step; split <;> exact ⟨rfl, rfl⟩
theorem tick_sim {s : Sn} {r : Rs} (h : Sim s r) : s.tick.2.2 = r.tick.2.2 ∧ s.tick.2.1 = r.tick.2.1.map (fun x => (Pn.pc r.first x).out) ∧ Sim s.tick.1 r.tick.1 := by
  cases hd : r.dead with
  | true =>
    have hsd : s.dead = true := h.dead_.trans hd
    unfold Sn.tick Rs.tick
    rw [if_pos hd, if_pos hsd]
    exact ⟨rfl, rfl, h⟩
  | false =>
    obtain ⟨rfl, hk⟩ := h.eq_ hd
    have hs := hk.set_
    have hts := tk_sim r.first r.pau r.tim hs.2.1 hs.2.2 r.opn fun x hx => ⟨(hk.all_ x hx).2.2.2.1, (hk.all_ x hx).2.2.2.2.1⟩
    have hla := tk_len r.pau r.tim (r.opn.map (Pn.pc r.first))
    have hln := hk.len
    unfold Sn.tick Rs.tick
    rw [if_neg (show ¬(r.sn.dead = true) by show ¬(r.dead = true); rw [hd]; decide), if_neg (show ¬(r.dead = true) by rw [hd]; decide)]
    have e1 : r.sn.pau = r.pau := rfl
    have e2 : r.sn.tim = r.tim := rfl
    have e3 : r.sn.opn = r.opn.map (Pn.pc r.first) := rfl
    rw [e1, e2, e3, hts.1]
    by_cases ha : r.opn.any (dies r.pau r.tim) = true
    · rw [if_pos ha, if_pos ha]
      refine ⟨rfl, rfl, rfl, ?_, ?_, fun hh => by simp at hh⟩
      · show (tk r.pau r.tim (r.opn.map (Pn.pc r.first))).1.length ≤ 64
        rw [hla.1, List.length_map]; exact hln
      · intro p hp
        have hall : ∀ l : List Pc, (∀ p ∈ l, p.data.length ≤ 256) → ∀ p ∈ (tk r.pau r.tim l).1, p.data.length ≤ 256 := by
          intro l
          induction l with
          | nil => intro _ p hp; simp [tk] at hp
          | cons y l ih =>
            intro hl p hp
            have hy := hl y (by simp)
            have hl2 : ∀ p ∈ l, p.data.length ≤ 256 := fun p hp => hl p (by simp [hp])
            rw [tk] at hp
            split at hp
            · rcases List.mem_cons.1 hp with rfl | hp
              · exact hy
              · exact ih hl2 p hp
            split at hp
            · rcases List.mem_cons.1 hp with rfl | hp
              · exact hy
              · exact hl2 p hp
            · rcases List.mem_cons.1 hp with rfl | hp
              · exact hy
              · exact ih hl2 p hp
        exact hall _ h.dat_ p hp
    · rw [if_neg ha, if_neg ha]
      simp only [Bool.not_eq_true] at ha
      have h2 := hts.2 ha
      rw [h2.1, h2.2]
      refine ⟨rfl, by rw [List.map_map], ?_⟩
      refine Rs.Ok.sim (r := ⟨r.win, r.pau, r.tim, r.first, r.count, r.opn.map (Pn.step r.pau), false⟩) ⟨hk.set_, hk.f0, hk.f1, hk.c0, ?_, ?_⟩ rfl
      · refine List.pairwise_map.2 (hk.srt.imp fun {x y} hxy => ?_)
        rw [(step_n _ x).1, (step_n _ y).1]; exact hxy
      · intro y hy
        obtain ⟨x, hx, rfl⟩ := List.mem_map.1 hy
        have hb := hk.all_ x hx
        have hnd : dies r.pau r.tim x = false := by
          rw [List.any_eq_false] at ha
          simpa using ha x hx
        have hnd2 : ¬(sends r.pau x ∧ x.sent ≥ r.tim) := of_decide_eq_false hnd
        have hsp := hs.2.1
        rw [(step_n _ x).1, (step_n _ x).2]
        refine ⟨hb.1, hb.2.1, hb.2.2.1, ?_, ?_, hb.2.2.2.2.2⟩
        · unfold Pn.step
          split
          · rename_i hh
            have : ¬(x.sent ≥ r.tim) := fun h5 => hnd2 ⟨hh, h5⟩
            simp only; omega
          · exact hb.2.2.2.1
        · unfold Pn.step
          split
          · simp only; omega
          · rename_i hh
            unfold sends at hh
            simp only; omega
end Go.Proofs.Ytadbipeachcekaa.Ab
