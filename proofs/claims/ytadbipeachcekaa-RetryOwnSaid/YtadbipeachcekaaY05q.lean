/- Chapter 05: a tick whose answer is new memory. -/
import Derived.Test.YtadbipeachcekaaY05j
namespace Go.Proofs.Ytadbipeachcekaa.Ab
open Go
set_option linter.unusedVariables false
set_option linter.unusedSimpArgs false
variable {T : AT}
theorem cloneL8_spec (c : TabS T) (l : List UInt8) (hl : l.length ≤ 1000000) (h0 : l ≠ []) : Ret2 T 0 i_slices_Clone_byte_byte [.fz 1 (l.map c8)] [] (fun v h' => v = .sl 1 0 0 l.length none ∧ h' = [some (.arr 1 (l.map c8))]) := by
  refine Ret2_fnv c.clone rfl rfl ?_
  cases l with
  | nil => exact (h0 rfl).elim
  | cons x l =>
    have hroom1 : l.length + 1 ≤ room := by simp only [room, List.length_cons] at *; omega
    have hroom : (0 + (x :: l).length) * 1 ≤ room := by simp only [List.length_cons]; omega
    have hroom2 : (0 + (l.length + 1)) * 1 ≤ room := by omega
    ((repeat' with_reducible first |apply qA|apply qB|apply qC|apply qD|apply qE|apply qF|(apply qG;decide)|apply qH|apply qI|apply qJ|apply qK|apply qX|((first|apply qR|apply qS);(conv=>lhs;simp only[go_sem])<;>rfl;rfl)|((first|apply qT|apply qU);(conv=>lhs;simp only[go_sem])<;>rfl;rfl)|apply qZ|apply qY|apply qW);with_reducible((first|apply qL|apply qM|apply qN|apply qO|((first|apply qP|apply qQ);decide +kernel));(conv=>lhs;simp only[go_sem, ibin, ishift])<;>rfl))
    ((repeat' with_reducible first |apply qA|apply qB|apply qC|apply qD|apply qE|apply qF|(apply qG;decide)|apply qH|apply qI|apply qJ|apply qK|apply qX|((first|apply qR|apply qS);(conv=>lhs;simp only[go_sem])<;>rfl;rfl)|((first|apply qT|apply qU);(conv=>lhs;simp only[go_sem])<;>rfl;rfl)|apply qZ|apply qY|apply qW);with_reducible((first|apply qL|apply qM|apply qN|apply qO|((first|apply qP|apply qQ);decide +kernel));(conv=>lhs;simp only[go_sem, ibin, ishift])<;>rfl))
    (repeat' with_reducible first |apply qA|apply qB|apply qC|apply qD|apply qE|apply qF|(apply qG;decide)|apply qH|apply qI|apply qJ|apply qK|apply qX|((first|apply qR|apply qS);(conv=>lhs;simp only[go_sem])<;>rfl;rfl)|((first|apply qT|apply qU);(conv=>lhs;simp only[go_sem])<;>rfl;rfl)|apply qZ)
    (with_reducible first | apply W2_sra | apply W2_runa); ((conv => lhs; simp only [go_sem, ibin, ishift, hroom, hroom1, hroom2]) <;> with_reducible rfl)
    (repeat' with_reducible first |apply qA|apply qB|apply qC|apply qD|apply qE|apply qF|(apply qG;decide)|apply qH|apply qI|apply qJ|apply qK|((first|apply qL|apply qM|apply qN|apply qO|((first|apply qP|apply qQ);decide +kernel));(conv=>lhs;simp only[go_sem, ibin, ishift])<;>rfl)|((first|apply qR|apply qS);(conv=>lhs;simp only[go_sem])<;>rfl;rfl)|((first|apply qT|apply qU);(conv=>lhs;simp only[go_sem])<;>rfl;rfl)|apply qV|apply qW|apply qX|apply qY|apply qZ)
    refine ⟨by first | exact .inr rfl | exact .inl rfl, _, _, (by (conv => lhs; simp only [go_sem, ibin, ishift]) <;> with_reducible rfl), (by (conv => lhs; simp only [go_sem, ibin, ishift]) <;> with_reducible rfl), ?_⟩
    refine ⟨[1], by decide, rfl, ?_⟩
    exact ⟨rfl, rfl⟩
theorem flat8 (l : List UInt8) : SH.flat [some (.arr 1 (l.map c8))] := fun b hb => by
  simp only [List.mem_singleton, Option.some.injEq] at hb
  subst hb
  intro el hel c hc
  obtain ⟨x, _, rfl⟩ := List.mem_map.1 hel
  simp only [c8, List.mem_singleton] at hc
  subst hc; rfl
theorem Ret2_of_CK {k g : Nat} {args : List SV} {h : SH} {R : SV → SH → Prop} (H : CK T k (fun e h' => R (eg e 0) h') [] h (some ⟨some 0, g, args, []⟩)) : Ret2 T k g args h R := ⟨fun w cargs ch r hp => by
  obtain ⟨n, cv, ch', w', e', h', h1, h2, h3, h4, h5⟩ := H w [] ch cargs r (fun s => .un) hp
  obtain ⟨m, ce', ch'', w'', e'', h'', a1, a2, a3, a4, a5⟩ := h5.run w' _ ch' h2 h3
  simp only [exOps, Option.some.injEq, Prod.mk.injEq] at a1
  obtain ⟨rfl, rfl⟩ := a1
  exact ⟨n, cv, ch', w'', eg e'' 0, h'', h1, a2, a3, by have := a4 0; simpa [eput, eget] using this, h4.trans a5⟩⟩
/-- a list that is known is put over into one that stays -/
theorem cloneF_spec (c : TabS T) (l : List UInt8) (hl : l.length ≤ 1000000) (h0 : l ≠ []) : Ret2 T 1 i_slices_Clone_byte_byte [.sl 1 0 0 l.length none] [some (.arr 1 (l.map c8))] (fun v h' => v = .fz 1 (l.map c8) ∧ h' = [some (.arr 1 (l.map c8)), none]) := by
  refine Ret2_of_CK (CK_lend [0] (cloneL8_spec c l hl h0) rfl (by first | rfl | (simp only [go_sem, c8]; done) | (simp only [go_sem, c8] <;> rfl)) ?_)
  rintro v h' ⟨rfl, rfl⟩
  refine ⟨rfl, flat8 l, WO2.weak (Wk.frz 1 rfl) (WO2_nil ?_)⟩
  exact ⟨(by first | rfl | (simp only [go_sem, c8]; done) | (simp only [go_sem, c8] <;> rfl)), (by first | rfl | (simp only [go_sem, c8]; done) | (simp only [go_sem, c8] <;> rfl))⟩
theorem putL_spec (c : TabS T) (w n : Int) (d : List UInt8) (hd : d.length ≤ 256) (h0 : d ≠ []) : Ret2 T 2 i_retry_Sender_Put [.ptr 0 0, .sl 1 1 0 d.length none] [some (.obj [.i .i64 w, .i .i64 1, .i .i64 9, .i .u16 n, .sl 4 2 0 0 none, .b false]), some (.arr 1 (d.map c8)), some (.arr 4 [])] (fun v h' => (∃ x y, v = .tup [x, y]) ∧ h' = [some (.obj [.i .i64 w, .i .i64 1, .i .i64 9, .i .u16 (IntKind.u16.wrap (n + 1)), .sl 4 2 0 1 none, .b false]), some (.arr 1 (d.map c8)), some (.arr 4 [[.i .u16 n, .fz 1 (d.map c8), .i .i64 0, .i .i64 0]])]) := by
  refine Ret2_fnv c.put rfl rfl ?_
  have z1 : decide ((d.length : Int) > 256) = false := decide_eq_false (by omega)
  have z1n : decide (d.length > 256) = false := decide_eq_false (by omega)
  have hroom : 1 * 48 ≤ room := by decide
  (repeat' with_reducible first |apply qA|apply qB|apply qC|apply qD|apply qE|apply qF|(apply qG;decide)|apply qH|apply qI|apply qJ|apply qK|((first|apply qL|apply qM|apply qN|apply qO|((first|apply qP|apply qQ);decide +kernel));(conv=>lhs;simp only[go_sem, ibin, ishift, z1, z1n])<;>rfl)|((first|apply qR|apply qS);(conv=>lhs;simp only[go_sem])<;>rfl;rfl)|((first|apply qT|apply qU);(conv=>lhs;simp only[go_sem])<;>rfl;rfl)|apply qV|apply qW|apply qX|apply qY|apply qZ)
  (repeat' with_reducible first |apply qA|apply qB|apply qC|apply qD|apply qE|apply qF|(apply qG;decide)|apply qH|apply qI|apply qJ|apply qK|apply qX|((first|apply qR|apply qS);(conv=>lhs;simp only[go_sem])<;>rfl;rfl)|((first|apply qT|apply qU);(conv=>lhs;simp only[go_sem])<;>rfl;rfl)|apply qZ|apply qY|apply qW)
  (with_reducible first | apply W2_sregH [0] [false, false, false, false, false, false, false, false, false, false, false, false, false, false, false, false, false, false, false, false, false, false, true, false] | apply W2_regH [0] [false, false, false, false, false, false, false, false, false, false, false, false, false, false, false, false, false, false, false, false, false, false, true, false])
  · decide
  · decide
  · rfl
  ((conv => lhs; simp only [go_sem, ibin, ishift]) <;> with_reducible rfl)
  refine EH_go ?_
  (repeat' with_reducible first |apply qA|apply qB|apply qC|apply qD|apply qE|apply qF|(apply qG;decide)|apply qH|apply qI|apply qJ|apply qK|((first|apply qL|apply qM|apply qN|apply qO|((first|apply qP|apply qQ);decide +kernel));(conv=>lhs;simp only[go_sem, ibin, ishift])<;>rfl)|((first|apply qR|apply qS);(conv=>lhs;simp only[go_sem])<;>rfl;rfl)|((first|apply qT|apply qU);(conv=>lhs;simp only[go_sem])<;>rfl;rfl)|apply qV|apply qW|apply qX|apply qY|apply qZ)
  (repeat' with_reducible first |apply qA|apply qB|apply qC|apply qD|apply qE|apply qF|(apply qG;decide)|apply qH|apply qI|apply qJ|apply qK|apply qX|((first|apply qR|apply qS);(conv=>lhs;simp only[go_sem])<;>rfl;rfl)|((first|apply qT|apply qU);(conv=>lhs;simp only[go_sem])<;>rfl;rfl)|apply qZ|apply qY|apply qW)
  (with_reducible first | apply W2_sregH [0] [false, false, false, false, true, false, false, false, true, false, false, false, false, false] | apply W2_regH [0] [false, false, false, false, true, false, false, false, true, false, false, false, false, false])
  · decide
  · decide
  · rfl
  ((conv => lhs; simp only [go_sem, ibin, ishift]) <;> with_reducible rfl)
  refine EH_call [1] (cloneF_spec c d (by omega) h0) (by decide) (by simp) rfl rfl rfl rfl ?_
  rintro v h' ⟨rfl, rfl⟩
  (with_reducible apply WOH_go (by decide); ((conv => lhs; simp only [go_sem, ibin, ishift, hroom]) <;> with_reducible rfl))
  refine EH_go ?_
  (repeat' with_reducible first |apply qA|apply qB|apply qC|apply qD|apply qE|apply qF|(apply qG;decide)|apply qH|apply qI|apply qJ|apply qK|((first|apply qL|apply qM|apply qN|apply qO|((first|apply qP|apply qQ);decide +kernel));(conv=>lhs;simp only[go_sem, ibin, ishift])<;>rfl)|((first|apply qR|apply qS);(conv=>lhs;simp only[go_sem])<;>rfl;rfl)|((first|apply qT|apply qU);(conv=>lhs;simp only[go_sem])<;>rfl;rfl)|apply qV|apply qW|apply qX|apply qY|apply qZ)
  refine ⟨by first | exact .inr rfl | exact .inl rfl, _, _, (by (conv => lhs; simp only [go_sem, ibin, ishift]) <;> with_reducible rfl), (by (conv => lhs; simp only [go_sem, ibin, ishift]) <;> with_reducible rfl), ?_⟩
  refine ⟨[0, 1, 5], by decide, rfl, ?_⟩
  exact ⟨⟨_, _, rfl⟩, rfl⟩
theorem pvs_sl {a b c d : Nat} {e : Option Nat} {r : List SV} : pvs (.sl a b c d e :: r) = none := rfl
theorem tick1_spec (c : TabS T) (w n q : Int) (d : List UInt8) (hd : d.length ≤ 1000000) (h0 : d ≠ []) (k : Int) (hk : k = 0 ∨ k = 1 ∨ k = 2) : Ret2 T 2 i_retry_Sender_Tick [.ptr 0 0] [some (.obj [.i .i64 w, .i .i64 1, .i .i64 9, .i .u16 n, .sl 4 1 0 1 none, .b false]), some (.arr 4 [[.i .u16 q, .fz 1 (d.map c8), .i .i64 k, .i .i64 0]])] (fun v h' => v = .tup [.so 2 3 0 1, .i .i64 0] ∧ h' = [some (.obj [.i .i64 w, .i .i64 1, .i .i64 9, .i .u16 n, .sl 4 1 0 1 none, .b false]), some (.arr 4 [[.i .u16 q, .fz 1 (d.map c8), .i .i64 (k + 1), .i .i64 0]]), some (.arr 1 (d.map c8)), some (.obj [.i .u16 q, .sl 1 2 0 d.length none])]) := by
  refine Ret2_fnv c.tick rfl rfl ?_
  have hroom : 1 * 32 ≤ room := by decide
  have wr2 : IntKind.i64.wrap 2 = 2 := rfl
  have wr3 : IntKind.i64.wrap 3 = 3 := rfl
  have wr1 : IntKind.i64.wrap 1 = 1 := rfl
  rcases hk with rfl | rfl | rfl
  · (repeat' with_reducible first |apply qA|apply qB|apply qC|apply qD|apply qE|apply qF|(apply qG;decide)|apply qH|apply qI|apply qJ|apply qK|((first|apply qL|apply qM|apply qN|apply qO|((first|apply qP|apply qQ);decide +kernel));(conv=>lhs;simp only[go_sem, ibin, ishift])<;>rfl)|((first|apply qR|apply qS);(conv=>lhs;simp only[go_sem])<;>rfl;rfl)|((first|apply qT|apply qU);(conv=>lhs;simp only[go_sem])<;>rfl;rfl)|apply qV|apply qW|apply qX|apply qY|apply qZ)
    refine W2_loopw (fun m e h => (m = 1 ∧ e = [(0, .ptr 0 0), (4, .p .nils), (15, .i .i64 1), (16, .i .i64 0)] ∧ h = [some (.obj [.i .i64 w, .i .i64 1, .i .i64 9, .i .u16 n, .sl 4 1 0 1 none, .b false]), some (.arr 4 [[.i .u16 q, .fz 1 (d.map c8), .i .i64 0, .i .i64 0]])]) ∨ (m = 0 ∧ e = [(0, .ptr 0 0), (4, .so 2 4 0 1), (15, .i .i64 1), (16, .i .i64 1)] ∧ h = [some (.obj [.i .i64 w, .i .i64 1, .i .i64 9, .i .u16 n, .sl 4 1 0 1 none, .b false]), some (.arr 4 [[.i .u16 q, .fz 1 (d.map c8), .i .i64 (1), .i .i64 0]]), some (.arr 1 (d.map c8)), some (.obj [.i .u16 q, .sl 1 2 0 d.length none]), some (.obj [.i .u16 q, .sl 1 2 0 d.length none])])) 1 (.inl ⟨rfl, rfl, rfl⟩) ?_
    rintro m e h (⟨rfl, rfl, rfl⟩ | ⟨rfl, rfl, rfl⟩)
    · (repeat' with_reducible first |apply qA|apply qB|apply qC|apply qD|apply qE|apply qF|(apply qG;decide)|apply qH|apply qI|apply qJ|apply qK|((first|apply qL|apply qM|apply qN|apply qO|((first|apply qP|apply qQ);decide +kernel));(conv=>lhs;simp only[go_sem, ibin, ishift, wr1, wr2, wr3])<;>rfl)|((first|apply qR|apply qS);(conv=>lhs;simp only[go_sem])<;>rfl;rfl)|((first|apply qT|apply qU);(conv=>lhs;simp only[go_sem])<;>rfl;rfl)|apply qV|apply qW|apply qX|apply qY|apply qZ)
      (repeat' with_reducible first |apply qA|apply qB|apply qC|apply qD|apply qE|apply qF|(apply qG;decide)|apply qH|apply qI|apply qJ|apply qK|apply qX|((first|apply qR|apply qS);(conv=>lhs;simp only[go_sem])<;>rfl;rfl)|((first|apply qT|apply qU);(conv=>lhs;simp only[go_sem])<;>rfl;rfl)|apply qZ|apply qY|apply qW)
      (with_reducible first | apply W2_sregH [1] [false, false, false, false, true, false, false, false, false, false, false, false] | apply W2_regH [1] [false, false, false, false, true, false, false, false, false, false, false, false])
      · decide
      · decide
      · rfl
      ((conv => lhs; simp only [go_sem, ibin, ishift]) <;> with_reducible rfl)
      refine EH_pure (cloneL8_spec c d hd h0) rfl ?_
      rintro v h' ⟨rfl, rfl⟩
      (with_reducible apply WOH_go (by decide); ((conv => lhs; simp only [go_sem, ibin, ishift, pvs_sl, hroom]) <;> with_reducible rfl))
      refine EH_go ?_
      (repeat' with_reducible first |apply qA|apply qB|apply qC|apply qD|apply qE|apply qF|(apply qG;decide)|apply qH|apply qI|apply qJ|apply qK|((first|apply qL|apply qM|apply qN|apply qO|((first|apply qP|apply qQ);decide +kernel));(conv=>lhs;simp only[go_sem, ibin, ishift, wr1])<;>rfl)|((first|apply qR|apply qS);(conv=>lhs;simp only[go_sem])<;>rfl;rfl)|((first|apply qT|apply qU);(conv=>lhs;simp only[go_sem])<;>rfl;rfl)|apply qV|apply qW|apply qX|apply qY|apply qZ)
      refine ⟨_, _, .refl, ?_⟩
      exact ⟨0, by omega, .inr ⟨rfl, rfl, rfl⟩⟩
    · (repeat' with_reducible first |apply qA|apply qB|apply qC|apply qD|apply qE|apply qF|(apply qG;decide)|apply qH|apply qI|apply qJ|apply qK|((first|apply qL|apply qM|apply qN|apply qO|((first|apply qP|apply qQ);decide +kernel));(conv=>lhs;simp only[go_sem, ibin, ishift])<;>rfl)|((first|apply qR|apply qS);(conv=>lhs;simp only[go_sem])<;>rfl;rfl)|((first|apply qT|apply qU);(conv=>lhs;simp only[go_sem])<;>rfl;rfl)|apply qV|apply qW|apply qX|apply qY|apply qZ)
      refine ⟨by first | exact .inr rfl | exact .inl rfl, _, _, (by (conv => lhs; simp only [go_sem, ibin, ishift]) <;> with_reducible rfl), (by (conv => lhs; simp only [go_sem, ibin, ishift]) <;> with_reducible rfl), ?_⟩
      refine ⟨[0, 1, 2, 4], by decide, rfl, ?_⟩
      exact ⟨rfl, rfl⟩
  · (repeat' with_reducible first |apply qA|apply qB|apply qC|apply qD|apply qE|apply qF|(apply qG;decide)|apply qH|apply qI|apply qJ|apply qK|((first|apply qL|apply qM|apply qN|apply qO|((first|apply qP|apply qQ);decide +kernel));(conv=>lhs;simp only[go_sem, ibin, ishift])<;>rfl)|((first|apply qR|apply qS);(conv=>lhs;simp only[go_sem])<;>rfl;rfl)|((first|apply qT|apply qU);(conv=>lhs;simp only[go_sem])<;>rfl;rfl)|apply qV|apply qW|apply qX|apply qY|apply qZ)
    refine W2_loopw (fun m e h => (m = 1 ∧ e = [(0, .ptr 0 0), (4, .p .nils), (15, .i .i64 1), (16, .i .i64 0)] ∧ h = [some (.obj [.i .i64 w, .i .i64 1, .i .i64 9, .i .u16 n, .sl 4 1 0 1 none, .b false]), some (.arr 4 [[.i .u16 q, .fz 1 (d.map c8), .i .i64 1, .i .i64 0]])]) ∨ (m = 0 ∧ e = [(0, .ptr 0 0), (4, .so 2 4 0 1), (15, .i .i64 1), (16, .i .i64 1)] ∧ h = [some (.obj [.i .i64 w, .i .i64 1, .i .i64 9, .i .u16 n, .sl 4 1 0 1 none, .b false]), some (.arr 4 [[.i .u16 q, .fz 1 (d.map c8), .i .i64 (2), .i .i64 0]]), some (.arr 1 (d.map c8)), some (.obj [.i .u16 q, .sl 1 2 0 d.length none]), some (.obj [.i .u16 q, .sl 1 2 0 d.length none])])) 1 (.inl ⟨rfl, rfl, rfl⟩) ?_
    rintro m e h (⟨rfl, rfl, rfl⟩ | ⟨rfl, rfl, rfl⟩)
    · (repeat' with_reducible first |apply qA|apply qB|apply qC|apply qD|apply qE|apply qF|(apply qG;decide)|apply qH|apply qI|apply qJ|apply qK|((first|apply qL|apply qM|apply qN|apply qO|((first|apply qP|apply qQ);decide +kernel));(conv=>lhs;simp only[go_sem, ibin, ishift, wr1, wr2, wr3])<;>rfl)|((first|apply qR|apply qS);(conv=>lhs;simp only[go_sem])<;>rfl;rfl)|((first|apply qT|apply qU);(conv=>lhs;simp only[go_sem])<;>rfl;rfl)|apply qV|apply qW|apply qX|apply qY|apply qZ)
      (repeat' with_reducible first |apply qA|apply qB|apply qC|apply qD|apply qE|apply qF|(apply qG;decide)|apply qH|apply qI|apply qJ|apply qK|apply qX|((first|apply qR|apply qS);(conv=>lhs;simp only[go_sem])<;>rfl;rfl)|((first|apply qT|apply qU);(conv=>lhs;simp only[go_sem])<;>rfl;rfl)|apply qZ|apply qY|apply qW)
      (with_reducible first | apply W2_sregH [1] [false, false, false, false, true, false, false, false, false, false, false, false] | apply W2_regH [1] [false, false, false, false, true, false, false, false, false, false, false, false])
      · decide
      · decide
      · rfl
      ((conv => lhs; simp only [go_sem, ibin, ishift]) <;> with_reducible rfl)
      refine EH_pure (cloneL8_spec c d hd h0) rfl ?_
      rintro v h' ⟨rfl, rfl⟩
      (with_reducible apply WOH_go (by decide); ((conv => lhs; simp only [go_sem, ibin, ishift, pvs_sl, hroom]) <;> with_reducible rfl))
      refine EH_go ?_
      (repeat' with_reducible first |apply qA|apply qB|apply qC|apply qD|apply qE|apply qF|(apply qG;decide)|apply qH|apply qI|apply qJ|apply qK|((first|apply qL|apply qM|apply qN|apply qO|((first|apply qP|apply qQ);decide +kernel));(conv=>lhs;simp only[go_sem, ibin, ishift, wr1])<;>rfl)|((first|apply qR|apply qS);(conv=>lhs;simp only[go_sem])<;>rfl;rfl)|((first|apply qT|apply qU);(conv=>lhs;simp only[go_sem])<;>rfl;rfl)|apply qV|apply qW|apply qX|apply qY|apply qZ)
      refine ⟨_, _, .refl, ?_⟩
      exact ⟨0, by omega, .inr ⟨rfl, rfl, rfl⟩⟩
    · (repeat' with_reducible first |apply qA|apply qB|apply qC|apply qD|apply qE|apply qF|(apply qG;decide)|apply qH|apply qI|apply qJ|apply qK|((first|apply qL|apply qM|apply qN|apply qO|((first|apply qP|apply qQ);decide +kernel));(conv=>lhs;simp only[go_sem, ibin, ishift])<;>rfl)|((first|apply qR|apply qS);(conv=>lhs;simp only[go_sem])<;>rfl;rfl)|((first|apply qT|apply qU);(conv=>lhs;simp only[go_sem])<;>rfl;rfl)|apply qV|apply qW|apply qX|apply qY|apply qZ)
      refine ⟨by first | exact .inr rfl | exact .inl rfl, _, _, (by (conv => lhs; simp only [go_sem, ibin, ishift]) <;> with_reducible rfl), (by (conv => lhs; simp only [go_sem, ibin, ishift]) <;> with_reducible rfl), ?_⟩
      refine ⟨[0, 1, 2, 4], by decide, rfl, ?_⟩
      exact ⟨rfl, rfl⟩
  · (repeat' with_reducible first |apply qA|apply qB|apply qC|apply qD|apply qE|apply qF|(apply qG;decide)|apply qH|apply qI|apply qJ|apply qK|((first|apply qL|apply qM|apply qN|apply qO|((first|apply qP|apply qQ);decide +kernel));(conv=>lhs;simp only[go_sem, ibin, ishift])<;>rfl)|((first|apply qR|apply qS);(conv=>lhs;simp only[go_sem])<;>rfl;rfl)|((first|apply qT|apply qU);(conv=>lhs;simp only[go_sem])<;>rfl;rfl)|apply qV|apply qW|apply qX|apply qY|apply qZ)
    refine W2_loopw (fun m e h => (m = 1 ∧ e = [(0, .ptr 0 0), (4, .p .nils), (15, .i .i64 1), (16, .i .i64 0)] ∧ h = [some (.obj [.i .i64 w, .i .i64 1, .i .i64 9, .i .u16 n, .sl 4 1 0 1 none, .b false]), some (.arr 4 [[.i .u16 q, .fz 1 (d.map c8), .i .i64 2, .i .i64 0]])]) ∨ (m = 0 ∧ e = [(0, .ptr 0 0), (4, .so 2 4 0 1), (15, .i .i64 1), (16, .i .i64 1)] ∧ h = [some (.obj [.i .i64 w, .i .i64 1, .i .i64 9, .i .u16 n, .sl 4 1 0 1 none, .b false]), some (.arr 4 [[.i .u16 q, .fz 1 (d.map c8), .i .i64 (3), .i .i64 0]]), some (.arr 1 (d.map c8)), some (.obj [.i .u16 q, .sl 1 2 0 d.length none]), some (.obj [.i .u16 q, .sl 1 2 0 d.length none])])) 1 (.inl ⟨rfl, rfl, rfl⟩) ?_
    rintro m e h (⟨rfl, rfl, rfl⟩ | ⟨rfl, rfl, rfl⟩)
    · (repeat' with_reducible first |apply qA|apply qB|apply qC|apply qD|apply qE|apply qF|(apply qG;decide)|apply qH|apply qI|apply qJ|apply qK|((first|apply qL|apply qM|apply qN|apply qO|((first|apply qP|apply qQ);decide +kernel));(conv=>lhs;simp only[go_sem, ibin, ishift, wr1, wr2, wr3])<;>rfl)|((first|apply qR|apply qS);(conv=>lhs;simp only[go_sem])<;>rfl;rfl)|((first|apply qT|apply qU);(conv=>lhs;simp only[go_sem])<;>rfl;rfl)|apply qV|apply qW|apply qX|apply qY|apply qZ)
      (repeat' with_reducible first |apply qA|apply qB|apply qC|apply qD|apply qE|apply qF|(apply qG;decide)|apply qH|apply qI|apply qJ|apply qK|apply qX|((first|apply qR|apply qS);(conv=>lhs;simp only[go_sem])<;>rfl;rfl)|((first|apply qT|apply qU);(conv=>lhs;simp only[go_sem])<;>rfl;rfl)|apply qZ|apply qY|apply qW)
      (with_reducible first | apply W2_sregH [1] [false, false, false, false, true, false, false, false, false, false, false, false] | apply W2_regH [1] [false, false, false, false, true, false, false, false, false, false, false, false])
      · decide
      · decide
      · rfl
      ((conv => lhs; simp only [go_sem, ibin, ishift]) <;> with_reducible rfl)
      refine EH_pure (cloneL8_spec c d hd h0) rfl ?_
      rintro v h' ⟨rfl, rfl⟩
      (with_reducible apply WOH_go (by decide); ((conv => lhs; simp only [go_sem, ibin, ishift, pvs_sl, hroom]) <;> with_reducible rfl))
      refine EH_go ?_
      (repeat' with_reducible first |apply qA|apply qB|apply qC|apply qD|apply qE|apply qF|(apply qG;decide)|apply qH|apply qI|apply qJ|apply qK|((first|apply qL|apply qM|apply qN|apply qO|((first|apply qP|apply qQ);decide +kernel));(conv=>lhs;simp only[go_sem, ibin, ishift, wr1])<;>rfl)|((first|apply qR|apply qS);(conv=>lhs;simp only[go_sem])<;>rfl;rfl)|((first|apply qT|apply qU);(conv=>lhs;simp only[go_sem])<;>rfl;rfl)|apply qV|apply qW|apply qX|apply qY|apply qZ)
      refine ⟨_, _, .refl, ?_⟩
      exact ⟨0, by omega, .inr ⟨rfl, rfl, rfl⟩⟩
    · (repeat' with_reducible first |apply qA|apply qB|apply qC|apply qD|apply qE|apply qF|(apply qG;decide)|apply qH|apply qI|apply qJ|apply qK|((first|apply qL|apply qM|apply qN|apply qO|((first|apply qP|apply qQ);decide +kernel));(conv=>lhs;simp only[go_sem, ibin, ishift])<;>rfl)|((first|apply qR|apply qS);(conv=>lhs;simp only[go_sem])<;>rfl;rfl)|((first|apply qT|apply qU);(conv=>lhs;simp only[go_sem])<;>rfl;rfl)|apply qV|apply qW|apply qX|apply qY|apply qZ)
      refine ⟨by first | exact .inr rfl | exact .inl rfl, _, _, (by (conv => lhs; simp only [go_sem, ibin, ishift]) <;> with_reducible rfl), (by (conv => lhs; simp only [go_sem, ibin, ishift]) <;> with_reducible rfl), ?_⟩
      refine ⟨[0, 1, 2, 4], by decide, rfl, ?_⟩
      exact ⟨rfl, rfl⟩
end Go.Proofs.Ytadbipeachcekaa.Ab
