/- Chapter 19: what a tape tells is the document's. -/
import Derived.Test.YtfmkomjflhifnaaY19p
namespace Go.Proofs.Ytfmkomjflhifnaa.Ab
open Go
set_option linter.unusedVariables false
set_option linter.unusedSimpArgs false
variable {T : AT}
theorem always_spec {f : Nat} (hT : T f = some (.spec (always (.b true)))) : Ret2 T 0 f [] [] (fun v h' => v = .b true ∧ h' = []) :=
  Ret2_spec hT (v := .b true) (fun w cargs hp => by
    have : cargs = [] := List.length_eq_zero_iff.1 hp.1.symm
    subst this
    exact ⟨.b true, rfl, .p (.b _)⟩) ⟨rfl, rfl⟩
structure TabL19 (T : AT) : Prop extends TabR19 T where
  awake : T i_stillagelaw19_awake = some (.spec (always (.b true)))
theorem tells_spec (c : TabR19 T) (p : Tp) (r : Rt) (h : Sim p r) : Ret2 T 3 i_stillagelaw19_Tells [.ptr 0 0, r.v] p.h (fun v h' => v = .b true ∧ h' = p.h) := by
  refine Ret2_fnv c.tells rfl rfl ?_
  obtain ⟨g, hg⟩ := readR_ex r.now
  have hl1 := h.l1
  have hgp : ReadR p.now g := h.now ▸ hg
  have hss := size_spec c.toTabT p
  have hrs := tread_spec c.toTabT p g hgp (by omega)
  have hnl : p.now.length = r.now.length := by rw [h.now]
  have hb : r.now.length ≤ 9223372036854775807 := by omega
  have hb2 : r.now.length ≤ 1000000 := by omega
  have hgl : g.length ≤ 65536 := by
    have h1 := hg.2.1.length_le
    have h2 : ∀ l : List Nt, (∀ n ∈ l, goodN n) → l.length ≤ (encsB l).length := fun l hl => by
      induction l with
      | nil => exact Nat.zero_le _
      | cons x l ih =>
        have := (encB_le (hl x (.head _))).2
        have := ih fun y hy => hl y (.tail _ hy)
        rw [encs_cons, List.length_append, List.length_cons]; omega
    have := h2 g hg.1
    omega
  unfold Tp.h Tp.o at hss hrs ⊢
  unfold Rt.v
  (repeat' with_reducible first |apply qA|apply qB|apply qC|apply qD|apply qE|apply qF|(apply qG;decide)|apply qH|apply qI|apply qJ|apply qK|((first|apply qL|apply qM|apply qN|apply qO|((first|apply qP|apply qQ);decide +kernel));(conv=>lhs;simp only[go_sem, ibin, ishift])<;>rfl)|((first|apply qR|apply qS);(conv=>lhs;simp only[go_sem])<;>rfl;rfl)|((first|apply qT|apply qU);(conv=>lhs;simp only[go_sem])<;>rfl;rfl)|apply qV|apply qW|apply qX|apply qY|apply qZ)
  (with_reducible((first|apply pA|apply pB|apply pC|apply pD|apply pE|((first|apply pF|apply pG);decide +kernel));(conv=>lhs;simp only[go_sem, ibin, ishift, hb])<;>rfl))
  rw [show r.now.map (fun c => [PV.i .u8 (c.toNat : Int)]) = r.now.map c8 from rfl]
  refine CK_frz 4 rfl (by (conv => lhs; simp only [go_sem, ibin, ishift]) <;> with_reducible rfl) (by (conv => lhs; simp only [go_sem, ibin, ishift]) <;> with_reducible rfl) (by (conv => lhs; simp only [go_sem, ibin, ishift]) <;> with_reducible rfl) ?_
  refine CK_pure (refread_spec c.toTabR r.now hb2) rfl ?_
  rintro v h' ⟨l, hl2, rfl, rfl⟩
  obtain rfl := read_unique hg hl2
  (with_reducible((first|apply WO2_finw|apply WO2_fina);(conv=>lhs;simp only[go_sem, ibin, ishift])<;>rfl))
  (repeat' with_reducible first |apply qA|apply qB|apply qC|apply qD|apply qE|apply qF|(apply qG;decide)|apply qH|apply qI|apply qJ|apply qK|((first|apply qL|apply qM|apply qN|apply qO|((first|apply qP|apply qQ);decide +kernel));(conv=>lhs;simp only[go_sem, ibin, ishift])<;>rfl)|((first|apply qR|apply qS);(conv=>lhs;simp only[go_sem])<;>rfl;rfl)|((first|apply qT|apply qU);(conv=>lhs;simp only[go_sem])<;>rfl;rfl)|apply qV|apply qW|apply qX|apply qY|apply qZ)
  (repeat' with_reducible first |apply qA|apply qB|apply qC|apply qD|apply qE|apply qF|(apply qG;decide)|apply qH|apply qI|apply qJ|apply qK|apply qX|((first|apply qR|apply qS);(conv=>lhs;simp only[go_sem])<;>rfl;rfl)|((first|apply qT|apply qU);(conv=>lhs;simp only[go_sem])<;>rfl;rfl)|apply qZ|apply qY|apply qW)
  have zz : decide (r.now.length = r.now.length) = true := by simp
  (with_reducible first | apply W2_sregH [3] [false, false, false, true, false] | apply W2_regH [3] [false, false, false, true, false])
  · decide
  · decide
  · rfl
  ((conv => lhs; simp only [go_sem, ibin, ishift]) <;> with_reducible rfl)
  refine EH_call [0, 1, 2] hss (by decide) (by simp) rfl rfl rfl (by first | rfl | (simp only [go_sem, ci]; done) | (simp only [go_sem, ci] <;> rfl)) ?_
  rintro v h' ⟨rfl, rfl⟩
  rw [hnl]
  (with_reducible apply WOH_go (by decide); ((conv => lhs; simp only [go_sem, ibin, ishift, zz]) <;> with_reducible rfl))
  refine EH_ck ?_
  refine CK_call [0, 1, 2] hrs (by decide) (by simp) rfl rfl (by first | rfl | (simp only [go_sem, ci]; done) | (simp only [go_sem, ci] <;> rfl)) ?_
  rintro v h' ⟨rfl, rfl⟩
  (with_reducible((first|apply pA|apply pB|apply pC|apply pD|apply pE|((first|apply pF|apply pG);decide +kernel));(conv=>lhs;simp only[go_sem, ibin, ishift])<;>rfl))
  refine CK_lend [5, 6] (same_spec c.toTabR g g (by omega)) rfl (by first | rfl | (simp only [go_sem, cN]; done) | (simp only [go_sem, cN] <;> rfl)) ?_
  rintro v h' ⟨rfl, rfl⟩
  refine ⟨rfl, fun b hb => by simp at hb, ?_⟩
  rw [decide_eq_true rfl]
  (with_reducible((first|apply WO2_finw|apply WO2_fina);(conv=>lhs;simp only[go_sem, ibin, ishift])<;>rfl))
  (repeat' with_reducible first |apply qA|apply qB|apply qC|apply qD|apply qE|apply qF|(apply qG;decide)|apply qH|apply qI|apply qJ|apply qK|((first|apply qL|apply qM|apply qN|apply qO|((first|apply qP|apply qQ);decide +kernel));(conv=>lhs;simp only[go_sem, ibin, ishift])<;>rfl)|((first|apply qR|apply qS);(conv=>lhs;simp only[go_sem])<;>rfl;rfl)|((first|apply qT|apply qU);(conv=>lhs;simp only[go_sem])<;>rfl;rfl)|apply qV|apply qW|apply qX|apply qY|apply qZ)
  refine ⟨by first | exact .inr rfl | exact .inl rfl, _, _, (by (conv => lhs; simp only [go_sem, ibin, ishift]) <;> with_reducible rfl), (by (conv => lhs; simp only [go_sem, ibin, ishift]) <;> with_reducible rfl), ?_⟩
  refine ⟨[0, 1, 2], by decide, rfl, ?_⟩
  exact ⟨rfl, rfl⟩
end Go.Proofs.Ytfmkomjflhifnaa.Ab
