/- The second machine: small helps. -/
import Derived.Test.YtpgoemmjhnnmoaaSx12
import Derived.Laws.BitsLemmas
namespace Go.Proofs.Ytpgoemmjhnnmoaa.Ab
open Go
set_option linter.unusedVariables false
section
variable {T : AT} {k : Nat} {Q : XT → SE → SH → Prop} {K : SE → SH → Prop} {e e' : SE} {h h' : SH}
theorem map_take_all {α β : Type} (f : α → β) (l : List α) : (l.map f).take l.length = l.map f := List.take_of_length_le (by simp)
theorem map_drop_all {α β : Type} (f : α → β) (l : List α) : (l.map f).drop l.length = [] := List.drop_eq_nil_of_le (by simp)
theorem wi (x : Int) (h0 : -9223372036854775808 ≤ x) (h1 : x ≤ 9223372036854775807) : IntKind.i64.wrap x = x := by
  rw [IntKind.wrap_i64]; omega
theorem wS {j : Nat} (h : j < 9223372036854775807) : IntKind.i64.wrap ((j : Int) + 1) = ((j + 1 : Nat) : Int) := by
  rw [wi _ (by omega) (by omega)]; omega
theorem u8nat (k : Nat) : UInt8.ofInt (k : Int) = UInt8.ofNat k := by
  apply UInt8.toNat_inj.1
  simp [UInt8.ofInt]; omega
/-- one byte, as it is stored -/
theorem wrap8 (n : Int) : IntKind.u8.wrap n = ((UInt8.ofInt n).toNat : Int) := by
  simp [IntKind.wrap, IntKind.bits, IntKind.signed, UInt8.ofInt]
  omega
/-- cells of one number, of one byte -/
def cI (x : Int) : List PV := [.i .i64 x]
def c8 (x : UInt8) : List PV := [.i .u8 x.toNat]
def c16 (x : Nat) : List PV := [.i .u16 x]
theorem bytes2_c8 (l : List UInt8) : bytes2 (l.map c8) = some l := by
  induction l with
  | nil => rfl
  | cons c l ih => simp only [List.map_cons, c8, bytes2, ih]; simp
theorem W2.wview {c : AC} (σ : List Nat) (hn : σ.Nodup) (hp : pinOk k σ = true) (he : SE.cv (idx σ) e = e') (hh : view σ h = h') (hw : W2 T k c e' h' Q) : W2 T k c e h Q := by
  subst he; subst hh; exact W2.weak (Wk.view σ hn hp) hw
theorem W2_runv {ops : List AOp} {kp : List Nat} {e1 : SE} {h1 : SH} (hr : runK2 ops kp e h = some (e1, h1)) (σ : List Nat) (hn : σ.Nodup) (hp : pinOk k σ = true) (he : SE.cv (idx σ) e1 = e') (hh : view σ h1 = h') (hq : Q .nrm e' h') : W2 T k (.reg ops kp) e h Q := by
  subst he; subst hh; exact W2_runw hr (Wk.view σ hn hp) hq
theorem W2.wnil {c : AC} (s esz : Nat) (hs : eg e s = .nils) (he : nilS s (.sl esz h.length 0 0 none) e = e') (hh : h ++ [some (.arr esz [])] = h') (hw : W2 T k c e' h' Q) : W2 T k c e h Q := by
  subst he; subst hh; exact W2.weak (Wk.nil s esz hs) hw
theorem W2.wfrz {c : AC} (id : Nat) (hl : (bAt h id).isSome = true) (he : SE.frz h id e = e') (hh : SH.frz id h = h') (hw : W2 T k c e' h' Q) : W2 T k c e h Q := by
  subst he; subst hh; exact W2.weak (Wk.frz id hl) hw
theorem W2_call {ops : List AOp} {kp : List Nat} {e1 : SE} {h1 : SH} {d : Option Nat} {g : Nat} {args : List SV} {rest : List AOp} (hr : run2 ops e h = some (e1, h1, some ⟨d, g, args, rest⟩))
    (hk : CK T k (fun e h => Q .nrm (kp.map fun s => (s, eg e s)) h) e1 h1 (some ⟨d, g, args, rest⟩)) : W2 T k (.reg ops kp) e h Q := W2_reg (run2_sound hr hk)
theorem W2_calld {ops : List AOp} {kp : List Nat} {e1 : SE} {h1 : SH} {d : Option Nat} {g : Nat} {args : List SV} {rest : List AOp} (hr : run2 ops e h = some (e1, h1, some ⟨d, g, args, rest⟩))
    (hk : CK T k (fun e h => Q .nrm (kp.map fun s => (s, eg e s)) h) e1 h1 (some ⟨d, g, args, rest⟩)) : W2 T k (.regd ops [] kp) e h Q := W2_regd (run2_sound hr hk)
theorem WO2_call {l : List AOp} {e1 : SE} {h1 : SH} {d : Option Nat} {g : Nat} {args : List SV} {rest : List AOp} (hr : run2 l e h = some (e1, h1, some ⟨d, g, args, rest⟩)) (hk : CK T k K e1 h1 (some ⟨d, g, args, rest⟩)) : WO2 T k l e h K := run2_sound hr hk
/-- a loop: what is known behind a round may be told otherwise -/
theorem W2_loopv {b : AC} (I : Nat → SE → SH → Prop) (m : Nat) (h0 : I m e h) (hb : ∀ m e h, I m e h → W2 T k b e h (thn2 (fun e' h' => ∃ σ : List Nat, σ.Nodup ∧ pinOk k σ = true ∧ ∃ m', m' < m ∧ I m' (SE.cv (idx σ) e') (view σ h')) Q)) : W2 T k (.loop b) e h Q := by
  refine W2_loop I m h0 fun m e h hi => (hb m e h hi).post fun t e h hq => ?_
  cases t with
  | nrm =>
    obtain ⟨σ, h1, h2, h3⟩ := hq
    exact ⟨_, _, Wk.view σ h1 h2, h3⟩
  | ret => exact ⟨e, h, .refl, hq⟩
  | ex i => exact ⟨e, h, .refl, hq⟩
/-- a function of the table: its result may be told otherwise -/
theorem Ret2_fnv {f : Nat} {F : AFun} {np : Nat} {res : List RV} {body : AC} (hf : T f = some (.fn F)) (hF : F = ⟨np, res, body⟩) {args : List SV} {R : SV → SH → Prop} (hn : args.length = np)
    (hw : W2 T k body (bindS 0 args) h fun t e' h' => (t = .nrm ∨ t = .ret) ∧ ∃ vs v, aress2 res e' h' = some vs ∧ tie2 vs = some v ∧ ∃ σ : List Nat, σ.Nodup ∧ pinOk k σ = true ∧ R (v.cv (idx σ)) (view σ h')) : Ret2 T k f args h R := by
  have h1 : Ret2 T k f args h fun v h' => ∃ σ : List Nat, σ.Nodup ∧ pinOk k σ = true ∧ R (v.cv (idx σ)) (view σ h') := Ret2_fn hf hF hn hw
  refine ⟨fun w ca ch r1 r2 => ?_⟩
  obtain ⟨n, cv, ch', w', v, h', a1, a2, a3, a4, a5⟩ := h1.run w ca ch r1 r2
  obtain ⟨σ, b1, b2, b3⟩ := a2
  obtain ⟨w2, c1, c2, c3⟩ := Wk.view (k := k) (e := [(0, v)]) σ b1 b2 w' [(0, cv)] ch' a3 (fun s => by
    simp only [eg, eget]
    split
    · exact a4
    · exact .un)
  have hv := c2 0
  simp only [SE.cv, eg, eget, if_true] at hv
  exact ⟨n, cv, ch', w2, _, _, a1, b3, c1, hv, a5.trans c3⟩
end
end Go.Proofs.Ytpgoemmjhnnmoaa.Ab
