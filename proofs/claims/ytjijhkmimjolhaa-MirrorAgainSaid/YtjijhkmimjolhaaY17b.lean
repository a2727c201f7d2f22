/- Chapter 17: the mirror: what is asked. -/
import Derived.Test.YtjijhkmimjolhaaY17a
namespace Go.Proofs.Ytjijhkmimjolhaa.Ab
open Go
set_option linter.unusedVariables false
set_option linter.unusedSimpArgs false
variable {T : AT}
structure Md where
  tote : Int
  seq : Int
  ever : Bool
  down : Bool
def cMd (d : Md) : List PV := [.i .i64 d.tote, .i .i64 d.seq, .b d.ever, .b d.down]
structure Mi where
  es : List Ed
  w : List Int
  at_ : List Int
  ds : List Md
def Mi.h (m : Mi) : SH := [some (.obj (.fz 2 (m.es.map cD) :: ((m.w.map fun n => SV.p (PV.i .i64 n)) ++ [.sl 1 1 0 m.at_.length none, .sl 4 2 0 m.ds.length none]))), some (.arr 1 (m.at_.map cI)), some (.arr 4 (m.ds.map cMd))]
structure Mi.Ok (m : Mi) : Prop where
  wl : m.w.length = 31
  al : m.at_.length ≤ 1000
  el : m.es.length ≤ 1000
  dl : m.ds.length = m.es.length + 1
  ed : ∀ e ∈ m.es, 0 ≤ e.a ∧ e.a < m.at_.length ∧ 0 ≤ e.b ∧ e.b < m.at_.length ∧ e.a ≠ e.b
  d0 : ∀ x, m.ds[0]? = some x → x.tote = 0
  wr : ∀ x ∈ m.w, 0 ≤ x ∧ x ≤ 1000
structure TabM (T : AT) : Prop extends TabK T where
  clone : T i_slices_Clone_2_int_2_int = some (.fn c_slices_Clone_2_int_2_int)
  noTote : T i_mirror_noTote = some (.fn c_mirror_noTote)
  noDev : T i_mirror_Mirror_noDev = some (.fn c_mirror_Mirror_noDev)
  noNode : T i_mirror_Mirror_noNode = some (.fn c_mirror_Mirror_noNode)
  where_ : T i_mirror_Mirror_Where = some (.fn c_mirror_Mirror_Where)
  at_ : T i_mirror_Mirror_At = some (.fn c_mirror_Mirror_At)
  told : T i_mirror_Mirror_Told = some (.fn c_mirror_Mirror_Told)
  last : T i_mirror_Mirror_Last = some (.fn c_mirror_Mirror_Last)
  down : T i_mirror_Mirror_Down = some (.fn c_mirror_Mirror_Down)
  taken : T i_mirror_Mirror_Taken = some (.fn c_mirror_Mirror_Taken)
  send1 : T i_mirror_Mirror_Send_1 = some (.fn c_mirror_Mirror_Send_1)
  index : T i_slices_IndexFunc_mirror_device_mirror_device = some (.fn c_slices_IndexFunc_mirror_device_mirror_device)
  contains : T i_slices_ContainsFunc_mirror_device_mirror_device = some (.fn c_slices_ContainsFunc_mirror_device_mirror_device)
  put : T i_mirror_Mirror_Put = some (.fn c_mirror_Mirror_Put)
  send : T i_mirror_Mirror_Send = some (.fn c_mirror_Mirror_Send)
  moved : T i_mirror_Mirror_Moved = some (.fn c_mirror_Mirror_Moved)
  drop : T i_mirror_Mirror_Drop = some (.fn c_mirror_Mirror_Drop)
  mask : T i_mirror_Mirror_Mask = some (.fn c_mirror_Mirror_Mask)
  apply : T i_mirror_Mirror_Apply = some (.fn c_mirror_Mirror_Apply)
  new : T i_mirror_New = some (.fn c_mirror_New)
section
variable {w : List Int}
theorem mw_get {t : Nat} {v : Int} (h : w[t]? = some v) (r : List SV) : ((w.map fun n => SV.p (PV.i .i64 n)) ++ r)[t]? = some (SV.p (PV.i .i64 v)) := by
  have := (List.getElem?_eq_some_iff.1 h).1
  rw [List.getElem?_append_left (by rw [List.length_map]; exact this), List.getElem?_map, h]; rfl
theorem mw_31 (h : w.length = 31) (x y : SV) : ((w.map fun n => SV.p (PV.i .i64 n)) ++ [x, y])[31]? = some x := by
  rw [List.getElem?_append_right (by rw [List.length_map, h]; exact Nat.le_refl _), List.length_map, h]; rfl
theorem mw_32 (h : w.length = 31) (x y : SV) : ((w.map fun n => SV.p (PV.i .i64 n)) ++ [x, y])[32]? = some y := by
  rw [List.getElem?_append_right (by rw [List.length_map, h]; decide), List.length_map, h]; rfl
theorem mw_set {t : Nat} (ht : t < w.length) (v : Int) (r : List SV) : ((w.map fun n => SV.p (PV.i .i64 n)) ++ r).set t (SV.p (PV.i .i64 v)) = ((w.set t v).map fun n => SV.p (PV.i .i64 n)) ++ r := by
  rw [List.set_append_left _ _ (by rw [List.length_map]; exact ht), List.map_set]
end
def noTote (t : Int) : Bool := decide (t < 1 ∨ 30 < t)
def Mi.noDev (m : Mi) (d : Int) : Bool := decide (d < 1 ∨ (m.ds.length : Int) ≤ d)
def Mi.noNode (m : Mi) (n : Int) : Bool := decide (n < 0 ∨ (m.at_.length : Int) ≤ n)
theorem noTote_spec (c : TabM T) (t : Int) : Ret2 T 0 i_mirror_noTote [.i .i64 t] [] (fun v h' => v = .b (noTote t) ∧ h' = []) := by
  refine Ret2_fnv c.noTote rfl rfl ?_
  (repeat' with_reducible first |apply qA|apply qB|apply qC|apply qD|apply qE|apply qF|(apply qG;decide)|apply qH|apply qI|apply qJ|apply qK|((first|apply qL|apply qM|apply qN|apply qO|((first|apply qP|apply qQ);decide +kernel));(conv=>lhs;simp only[go_sem, ibin, ishift])<;>rfl)|((first|apply qR|apply qS);(conv=>lhs;simp only[go_sem])<;>rfl;rfl)|((first|apply qT|apply qU);(conv=>lhs;simp only[go_sem])<;>rfl;rfl)|apply qV|apply qW|apply qX|apply qY|apply qZ)
  refine ⟨by first | exact .inr rfl | exact .inl rfl, _, _, (by (conv => lhs; simp only [go_sem, ibin, ishift]) <;> with_reducible rfl), (by (conv => lhs; simp only [go_sem, ibin, ishift]) <;> with_reducible rfl), ?_⟩
  refine ⟨[], by decide, rfl, ?_⟩
  refine ⟨?_, rfl⟩
  simp only [SV.cv, noTote]
  congr 2
  rw [Bool.eq_iff_iff]; simp only [Bool.or_eq_true, decide_eq_true_eq]
theorem noDev_spec (c : TabM T) (m : Mi) (hw : m.w.length = 31) (d : Int) : Ret2 T 3 i_mirror_Mirror_noDev [.ptr 0 0, .i .i64 d] m.h (fun v h' => v = .b (m.noDev d) ∧ h' = m.h) := by
  refine Ret2_fnv c.noDev rfl rfl ?_
  unfold Mi.h
  (repeat' with_reducible first |apply qA|apply qB|apply qC|apply qD|apply qE|apply qF|(apply qG;decide)|apply qH|apply qI|apply qJ|apply qK|((first|apply qL|apply qM|apply qN|apply qO|((first|apply qP|apply qQ);decide +kernel));(conv=>lhs;simp only[go_sem, ibin, ishift, mw_31 hw, mw_32 hw])<;>rfl)|((first|apply qR|apply qS);(conv=>lhs;simp only[go_sem])<;>rfl;rfl)|((first|apply qT|apply qU);(conv=>lhs;simp only[go_sem])<;>rfl;rfl)|apply qV|apply qW|apply qX|apply qY|apply qZ)
  refine ⟨by first | exact .inr rfl | exact .inl rfl, _, _, (by (conv => lhs; simp only [go_sem, ibin, ishift]) <;> with_reducible rfl), (by (conv => lhs; simp only [go_sem, ibin, ishift]) <;> with_reducible rfl), ?_⟩
  refine ⟨[0, 1, 2], by decide, rfl, ?_⟩
  refine ⟨?_, (by first | rfl | (simp only [go_sem, Mi.h]; done) | (simp only [go_sem, Mi.h] <;> rfl))⟩
  simp only [SV.cv, Mi.noDev]
  congr 2
  rw [Bool.eq_iff_iff]; simp only [Bool.or_eq_true, decide_eq_true_eq]
theorem noNode_spec (c : TabM T) (m : Mi) (hw : m.w.length = 31) (d : Int) : Ret2 T 3 i_mirror_Mirror_noNode [.ptr 0 0, .i .i64 d] m.h (fun v h' => v = .b (m.noNode d) ∧ h' = m.h) := by
  refine Ret2_fnv c.noNode rfl rfl ?_
  unfold Mi.h
  (repeat' with_reducible first |apply qA|apply qB|apply qC|apply qD|apply qE|apply qF|(apply qG;decide)|apply qH|apply qI|apply qJ|apply qK|((first|apply qL|apply qM|apply qN|apply qO|((first|apply qP|apply qQ);decide +kernel));(conv=>lhs;simp only[go_sem, ibin, ishift, mw_31 hw, mw_32 hw])<;>rfl)|((first|apply qR|apply qS);(conv=>lhs;simp only[go_sem])<;>rfl;rfl)|((first|apply qT|apply qU);(conv=>lhs;simp only[go_sem])<;>rfl;rfl)|apply qV|apply qW|apply qX|apply qY|apply qZ)
  refine ⟨by first | exact .inr rfl | exact .inl rfl, _, _, (by (conv => lhs; simp only [go_sem, ibin, ishift]) <;> with_reducible rfl), (by (conv => lhs; simp only [go_sem, ibin, ishift]) <;> with_reducible rfl), ?_⟩
  refine ⟨[0, 1, 2], by decide, rfl, ?_⟩
  refine ⟨?_, (by first | rfl | (simp only [go_sem, Mi.h]; done) | (simp only [go_sem, Mi.h] <;> rfl))⟩
  simp only [SV.cv, Mi.noNode]
  congr 2
  rw [Bool.eq_iff_iff]; simp only [Bool.or_eq_true, decide_eq_true_eq]
def Mi.loc (m : Mi) (t : Int) : Int := if noTote t = true then -1 else m.w[t.toNat]?.getD 0 - 1
theorem where_spec (c : TabM T) (m : Mi) (hk : m.Ok) (t : Int) : Ret2 T 3 i_mirror_Mirror_Where [.ptr 0 0, .i .i64 t] m.h (fun v h' => v = .i .i64 (m.loc t) ∧ h' = m.h) := by
  refine Ret2_fnv c.where_ rfl rfl ?_
  have hw := hk.wl
  unfold Mi.h
  (repeat' with_reducible first |apply qA|apply qB|apply qC|apply qD|apply qE|apply qF|(apply qG;decide)|apply qH|apply qI|apply qJ|apply qK|((first|apply qL|apply qM|apply qN|apply qO|((first|apply qP|apply qQ);decide +kernel));(conv=>lhs;simp only[go_sem, ibin, ishift])<;>rfl)|((first|apply qR|apply qS);(conv=>lhs;simp only[go_sem])<;>rfl;rfl)|((first|apply qT|apply qU);(conv=>lhs;simp only[go_sem])<;>rfl;rfl)|apply qV|apply qW|apply qX|apply qY|apply qZ)
  (with_reducible((first|apply pA|apply pB|apply pC|apply pD|apply pE|((first|apply pF|apply pG);decide +kernel));(conv=>lhs;simp only[go_sem, ibin, ishift])<;>rfl))
  refine CK_pure (noTote_spec c t) rfl ?_
  rintro v h' ⟨rfl, rfl⟩
  cases hn : noTote t with
  | true =>
    (with_reducible((first|apply WO2_finw|apply WO2_fina);(conv=>lhs;simp only[go_sem, ibin, ishift])<;>rfl))
    (repeat' with_reducible first |apply qA|apply qB|apply qC|apply qD|apply qE|apply qF|(apply qG;decide)|apply qH|apply qI|apply qJ|apply qK|((first|apply qL|apply qM|apply qN|apply qO|((first|apply qP|apply qQ);decide +kernel));(conv=>lhs;simp only[go_sem, ibin, ishift])<;>rfl)|((first|apply qR|apply qS);(conv=>lhs;simp only[go_sem])<;>rfl;rfl)|((first|apply qT|apply qU);(conv=>lhs;simp only[go_sem])<;>rfl;rfl)|apply qV|apply qW|apply qX|apply qY|apply qZ)
    refine ⟨by first | exact .inr rfl | exact .inl rfl, _, _, (by (conv => lhs; simp only [go_sem, ibin, ishift]) <;> with_reducible rfl), (by (conv => lhs; simp only [go_sem, ibin, ishift]) <;> with_reducible rfl), ?_⟩
    refine ⟨[0, 1, 2], by decide, rfl, ?_⟩
    exact ⟨by rw [Mi.loc, if_pos hn]; rfl, (by first | rfl | (simp only [go_sem, Mi.h]; done) | (simp only [go_sem, Mi.h] <;> rfl))⟩
  | false =>
    have hr : ¬(t < 1 ∨ 30 < t) := by simpa [noTote] using hn
    have h0 : 0 ≤ t := by omega
    have h1 : t < 31 := by omega
    have h2 : t.toNat < m.w.length := by omega
    obtain ⟨v, hv⟩ : ∃ v, m.w[t.toNat]? = some v := ⟨_, List.getElem?_eq_getElem h2⟩
    have hvr := hk.wr v (List.mem_of_getElem? hv)
    have h3 : 1 + t.toNat = t.toNat + 1 := by omega
    have wv : IntKind.i64.wrap (v - 1) = v - 1 := wi _ (by omega) (by omega)
    (with_reducible((first|apply WO2_finw|apply WO2_fina);(conv=>lhs;simp only[go_sem, ibin, ishift])<;>rfl))
    (repeat' with_reducible first |apply qA|apply qB|apply qC|apply qD|apply qE|apply qF|(apply qG;decide)|apply qH|apply qI|apply qJ|apply qK|((first|apply qL|apply qM|apply qN|apply qO|((first|apply qP|apply qQ);decide +kernel));(conv=>lhs;simp only[go_sem, ibin, ishift, h0, h1, h3, mw_get hv, wv])<;>rfl)|((first|apply qR|apply qS);(conv=>lhs;simp only[go_sem])<;>rfl;rfl)|((first|apply qT|apply qU);(conv=>lhs;simp only[go_sem])<;>rfl;rfl)|apply qV|apply qW|apply qX|apply qY|apply qZ)
    refine ⟨by first | exact .inr rfl | exact .inl rfl, _, _, (by (conv => lhs; simp only [go_sem, ibin, ishift]) <;> with_reducible rfl), (by (conv => lhs; simp only [go_sem, ibin, ishift]) <;> with_reducible rfl), ?_⟩
    refine ⟨[0, 1, 2], by decide, rfl, ?_⟩
    exact ⟨by rw [Mi.loc, if_neg (by rw [hn]; decide), hv]; rfl, (by first | rfl | (simp only [go_sem, Mi.h]; done) | (simp only [go_sem, Mi.h] <;> rfl))⟩
def Mi.tote (m : Mi) (n : Int) : Int := if m.noNode n = true then 0 else m.at_[n.toNat]?.getD 0
theorem at_spec (c : TabM T) (m : Mi) (hw : m.w.length = 31) (n : Int) : Ret2 T 3 i_mirror_Mirror_At [.ptr 0 0, .i .i64 n] m.h (fun v h' => v = .i .i64 (m.tote n) ∧ h' = m.h) := by
  refine Ret2_fnv c.at_ rfl rfl ?_
  unfold Mi.h
  (repeat' with_reducible first |apply qA|apply qB|apply qC|apply qD|apply qE|apply qF|(apply qG;decide)|apply qH|apply qI|apply qJ|apply qK|((first|apply qL|apply qM|apply qN|apply qO|((first|apply qP|apply qQ);decide +kernel));(conv=>lhs;simp only[go_sem, ibin, ishift])<;>rfl)|((first|apply qR|apply qS);(conv=>lhs;simp only[go_sem])<;>rfl;rfl)|((first|apply qT|apply qU);(conv=>lhs;simp only[go_sem])<;>rfl;rfl)|apply qV|apply qW|apply qX|apply qY|apply qZ)
  (with_reducible((first|apply pA|apply pB|apply pC|apply pD|apply pE|((first|apply pF|apply pG);decide +kernel));(conv=>lhs;simp only[go_sem, ibin, ishift])<;>rfl))
  refine CK_call [0, 1, 2] (noNode_spec c m hw n) (by decide) (by simp) rfl rfl (by first | rfl | (simp only [go_sem, Mi.h]; done) | (simp only [go_sem, Mi.h] <;> rfl)) ?_
  rintro v h' ⟨rfl, rfl⟩
  unfold Mi.h
  cases hn : m.noNode n with
  | true =>
    (with_reducible((first|apply WO2_finw|apply WO2_fina);(conv=>lhs;simp only[go_sem, ibin, ishift])<;>rfl))
    (repeat' with_reducible first |apply qA|apply qB|apply qC|apply qD|apply qE|apply qF|(apply qG;decide)|apply qH|apply qI|apply qJ|apply qK|((first|apply qL|apply qM|apply qN|apply qO|((first|apply qP|apply qQ);decide +kernel));(conv=>lhs;simp only[go_sem, ibin, ishift])<;>rfl)|((first|apply qR|apply qS);(conv=>lhs;simp only[go_sem])<;>rfl;rfl)|((first|apply qT|apply qU);(conv=>lhs;simp only[go_sem])<;>rfl;rfl)|apply qV|apply qW|apply qX|apply qY|apply qZ)
    refine ⟨by first | exact .inr rfl | exact .inl rfl, _, _, (by (conv => lhs; simp only [go_sem, ibin, ishift]) <;> with_reducible rfl), (by (conv => lhs; simp only [go_sem, ibin, ishift]) <;> with_reducible rfl), ?_⟩
    refine ⟨[0, 1, 2], by decide, rfl, ?_⟩
    exact ⟨by rw [Mi.tote, if_pos hn]; rfl, (by first | rfl | (simp only [go_sem, Mi.h]; done) | (simp only [go_sem, Mi.h] <;> rfl))⟩
  | false =>
    have hr : ¬(n < 0 ∨ (m.at_.length : Int) ≤ n) := by simpa [Mi.noNode] using hn
    have h0 : 0 ≤ n := by omega
    have h1 : n < (m.at_.length : Int) := by omega
    have h2 : n.toNat < m.at_.length := by omega
    obtain ⟨x, hg⟩ : ∃ x, m.at_[n.toNat]? = some x := ⟨_, List.getElem?_eq_getElem h2⟩
    (with_reducible((first|apply WO2_finw|apply WO2_fina);(conv=>lhs;simp only[go_sem, ibin, ishift])<;>rfl))
    (repeat' with_reducible first |apply qA|apply qB|apply qC|apply qD|apply qE|apply qF|(apply qG;decide)|apply qH|apply qI|apply qJ|apply qK|((first|apply qL|apply qM|apply qN|apply qO|((first|apply qP|apply qQ);decide +kernel));(conv=>lhs;simp only[go_sem, ibin, ishift, mw_31 hw, h0, h1, h2, hg, cI])<;>rfl)|((first|apply qR|apply qS);(conv=>lhs;simp only[go_sem])<;>rfl;rfl)|((first|apply qT|apply qU);(conv=>lhs;simp only[go_sem])<;>rfl;rfl)|apply qV|apply qW|apply qX|apply qY|apply qZ)
    refine ⟨by first | exact .inr rfl | exact .inl rfl, _, _, (by (conv => lhs; simp only [go_sem, ibin, ishift]) <;> with_reducible rfl), (by (conv => lhs; simp only [go_sem, ibin, ishift]) <;> with_reducible rfl), ?_⟩
    refine ⟨[0, 1, 2], by decide, rfl, ?_⟩
    exact ⟨by rw [Mi.tote, if_neg (by rw [hn]; decide), hg]; rfl, (by first | rfl | (simp only [go_sem, Mi.h]; done) | (simp only [go_sem, Mi.h] <;> rfl))⟩
def Mi.told (m : Mi) (d : Int) : Int × Int × Bool := if m.noDev d = true then (0, 0, false) else match m.ds[d.toNat]? with | some x => if x.tote = 0 then (0, 0, false) else (x.tote, x.seq, true) | none => (0, 0, false)
theorem Mi.dev {m : Mi} {d : Int} (h : m.noDev d = false) : 0 ≤ d ∧ 1 ≤ d ∧ d < (m.ds.length : Int) ∧ d.toNat < m.ds.length ∧ ∃ x, m.ds[d.toNat]? = some x := by
  have hr : ¬(d < 1 ∨ (m.ds.length : Int) ≤ d) := by simpa [Mi.noDev] using h
  have h2 : d.toNat < m.ds.length := by omega
  exact ⟨by omega, by omega, by omega, h2, _, List.getElem?_eq_getElem h2⟩
theorem told_spec (c : TabM T) (m : Mi) (hw : m.w.length = 31) (d : Int) : Ret2 T 3 i_mirror_Mirror_Told [.ptr 0 0, .i .i64 d] m.h (fun v h' => v = .tup [.i .i64 (m.told d).1, .i .i64 (m.told d).2.1, .b (m.told d).2.2] ∧ h' = m.h) := by
  refine Ret2_fnv c.told rfl rfl ?_
  unfold Mi.h
  (repeat' with_reducible first |apply qA|apply qB|apply qC|apply qD|apply qE|apply qF|(apply qG;decide)|apply qH|apply qI|apply qJ|apply qK|((first|apply qL|apply qM|apply qN|apply qO|((first|apply qP|apply qQ);decide +kernel));(conv=>lhs;simp only[go_sem, ibin, ishift])<;>rfl)|((first|apply qR|apply qS);(conv=>lhs;simp only[go_sem])<;>rfl;rfl)|((first|apply qT|apply qU);(conv=>lhs;simp only[go_sem])<;>rfl;rfl)|apply qV|apply qW|apply qX|apply qY|apply qZ)
  (with_reducible((first|apply pA|apply pB|apply pC|apply pD|apply pE|((first|apply pF|apply pG);decide +kernel));(conv=>lhs;simp only[go_sem, ibin, ishift])<;>rfl))
  refine CK_call [0, 1, 2] (noDev_spec c m hw d) (by decide) (by simp) rfl rfl (by first | rfl | (simp only [go_sem, Mi.h]; done) | (simp only [go_sem, Mi.h] <;> rfl)) ?_
  rintro v h' ⟨rfl, rfl⟩
  unfold Mi.h
  cases hn : m.noDev d with
  | true =>
    ((with_reducible first | apply WO2_finl | apply WO2_finlq); ((conv => lhs; simp only [go_sem, ibin, ishift]) <;> with_reducible rfl))
    (repeat' with_reducible first |apply qA|apply qB|apply qC|apply qD|apply qE|apply qF|(apply qG;decide)|apply qH|apply qI|apply qJ|apply qK|((first|apply qL|apply qM|apply qN|apply qO|((first|apply qP|apply qQ);decide +kernel));(conv=>lhs;simp only[go_sem, ibin, ishift])<;>rfl)|((first|apply qR|apply qS);(conv=>lhs;simp only[go_sem])<;>rfl;rfl)|((first|apply qT|apply qU);(conv=>lhs;simp only[go_sem])<;>rfl;rfl)|apply qV|apply qW|apply qX|apply qY|apply qZ)
    refine ⟨by first | exact .inr rfl | exact .inl rfl, _, _, (by (conv => lhs; simp only [go_sem, ibin, ishift]) <;> with_reducible rfl), (by (conv => lhs; simp only [go_sem, ibin, ishift]) <;> with_reducible rfl), ?_⟩
    refine ⟨[0, 1, 2], by decide, rfl, ?_⟩
    exact ⟨by rw [Mi.told, if_pos hn]; rfl, (by first | rfl | (simp only [go_sem, Mi.h]; done) | (simp only [go_sem, Mi.h] <;> rfl))⟩
  | false =>
    obtain ⟨h0, _, h1, h2, x, hx⟩ := Mi.dev hn
    by_cases ht : x.tote = 0
    · have e1 : decide (x.tote = 0) = true := decide_eq_true ht
      (with_reducible((first|apply WO2_finw|apply WO2_fina);(conv=>lhs;simp only[go_sem, ibin, ishift, mw_32 hw, h0, h1, h2, hx, cMd, e1])<;>rfl))
      (repeat' with_reducible first |apply qA|apply qB|apply qC|apply qD|apply qE|apply qF|(apply qG;decide)|apply qH|apply qI|apply qJ|apply qK|((first|apply qL|apply qM|apply qN|apply qO|((first|apply qP|apply qQ);decide +kernel));(conv=>lhs;simp only[go_sem, ibin, ishift])<;>rfl)|((first|apply qR|apply qS);(conv=>lhs;simp only[go_sem])<;>rfl;rfl)|((first|apply qT|apply qU);(conv=>lhs;simp only[go_sem])<;>rfl;rfl)|apply qV|apply qW|apply qX|apply qY|apply qZ)
      refine ⟨by first | exact .inr rfl | exact .inl rfl, _, _, (by (conv => lhs; simp only [go_sem, ibin, ishift]) <;> with_reducible rfl), (by (conv => lhs; simp only [go_sem, ibin, ishift]) <;> with_reducible rfl), ?_⟩
      refine ⟨[0, 1, 2], by decide, rfl, ?_⟩
      exact ⟨by rw [Mi.told, if_neg (by rw [hn]; decide), hx]; simp only [ht, if_true]; rfl, (by first | rfl | (simp only [go_sem, Mi.h]; done) | (simp only [go_sem, Mi.h] <;> rfl))⟩
    · have e1 : decide (x.tote = 0) = false := decide_eq_false ht
      (with_reducible((first|apply WO2_finw|apply WO2_fina);(conv=>lhs;simp only[go_sem, ibin, ishift, mw_32 hw, h0, h1, h2, hx, cMd, e1])<;>rfl))
      (repeat' with_reducible first |apply qA|apply qB|apply qC|apply qD|apply qE|apply qF|(apply qG;decide)|apply qH|apply qI|apply qJ|apply qK|((first|apply qL|apply qM|apply qN|apply qO|((first|apply qP|apply qQ);decide +kernel));(conv=>lhs;simp only[go_sem, ibin, ishift, mw_32 hw, h0, h1, h2, hx, cMd])<;>rfl)|((first|apply qR|apply qS);(conv=>lhs;simp only[go_sem])<;>rfl;rfl)|((first|apply qT|apply qU);(conv=>lhs;simp only[go_sem])<;>rfl;rfl)|apply qV|apply qW|apply qX|apply qY|apply qZ)
      refine ⟨by first | exact .inr rfl | exact .inl rfl, _, _, (by (conv => lhs; simp only [go_sem, ibin, ishift]) <;> with_reducible rfl), (by (conv => lhs; simp only [go_sem, ibin, ishift]) <;> with_reducible rfl), ?_⟩
      refine ⟨[0, 1, 2], by decide, rfl, ?_⟩
      exact ⟨by rw [Mi.told, if_neg (by rw [hn]; decide), hx]; simp only [ht, if_false]; rfl, (by first | rfl | (simp only [go_sem, Mi.h]; done) | (simp only [go_sem, Mi.h] <;> rfl))⟩
def Mi.last (m : Mi) (d : Int) : Int × Bool := if m.noDev d = true then (0, false) else match m.ds[d.toNat]? with | some x => if x.ever = true then (x.seq, true) else (0, false) | none => (0, false)
theorem last_spec (c : TabM T) (m : Mi) (hw : m.w.length = 31) (d : Int) : Ret2 T 3 i_mirror_Mirror_Last [.ptr 0 0, .i .i64 d] m.h (fun v h' => v = .tup [.i .i64 (m.last d).1, .b (m.last d).2] ∧ h' = m.h) := by
  refine Ret2_fnv c.last rfl rfl ?_
  unfold Mi.h
  (repeat' with_reducible first |apply qA|apply qB|apply qC|apply qD|apply qE|apply qF|(apply qG;decide)|apply qH|apply qI|apply qJ|apply qK|((first|apply qL|apply qM|apply qN|apply qO|((first|apply qP|apply qQ);decide +kernel));(conv=>lhs;simp only[go_sem, ibin, ishift])<;>rfl)|((first|apply qR|apply qS);(conv=>lhs;simp only[go_sem])<;>rfl;rfl)|((first|apply qT|apply qU);(conv=>lhs;simp only[go_sem])<;>rfl;rfl)|apply qV|apply qW|apply qX|apply qY|apply qZ)
  (with_reducible((first|apply pA|apply pB|apply pC|apply pD|apply pE|((first|apply pF|apply pG);decide +kernel));(conv=>lhs;simp only[go_sem, ibin, ishift])<;>rfl))
  refine CK_call [0, 1, 2] (noDev_spec c m hw d) (by decide) (by simp) rfl rfl (by first | rfl | (simp only [go_sem, Mi.h]; done) | (simp only [go_sem, Mi.h] <;> rfl)) ?_
  rintro v h' ⟨rfl, rfl⟩
  unfold Mi.h
  cases hn : m.noDev d with
  | true =>
    ((with_reducible first | apply WO2_finl | apply WO2_finlq); ((conv => lhs; simp only [go_sem, ibin, ishift]) <;> with_reducible rfl))
    (repeat' with_reducible first |apply qA|apply qB|apply qC|apply qD|apply qE|apply qF|(apply qG;decide)|apply qH|apply qI|apply qJ|apply qK|((first|apply qL|apply qM|apply qN|apply qO|((first|apply qP|apply qQ);decide +kernel));(conv=>lhs;simp only[go_sem, ibin, ishift])<;>rfl)|((first|apply qR|apply qS);(conv=>lhs;simp only[go_sem])<;>rfl;rfl)|((first|apply qT|apply qU);(conv=>lhs;simp only[go_sem])<;>rfl;rfl)|apply qV|apply qW|apply qX|apply qY|apply qZ)
    refine ⟨by first | exact .inr rfl | exact .inl rfl, _, _, (by (conv => lhs; simp only [go_sem, ibin, ishift]) <;> with_reducible rfl), (by (conv => lhs; simp only [go_sem, ibin, ishift]) <;> with_reducible rfl), ?_⟩
    refine ⟨[0, 1, 2], by decide, rfl, ?_⟩
    exact ⟨by rw [Mi.last, if_pos hn]; rfl, (by first | rfl | (simp only [go_sem, Mi.h]; done) | (simp only [go_sem, Mi.h] <;> rfl))⟩
  | false =>
    obtain ⟨h0, _, h1, h2, x, hx⟩ := Mi.dev hn
    cases ht : x.ever with
    | false =>
      (with_reducible((first|apply WO2_finw|apply WO2_fina);(conv=>lhs;simp only[go_sem, ibin, ishift, mw_32 hw, h0, h1, h2, hx, cMd, ht])<;>rfl))
      (repeat' with_reducible first |apply qA|apply qB|apply qC|apply qD|apply qE|apply qF|(apply qG;decide)|apply qH|apply qI|apply qJ|apply qK|((first|apply qL|apply qM|apply qN|apply qO|((first|apply qP|apply qQ);decide +kernel));(conv=>lhs;simp only[go_sem, ibin, ishift])<;>rfl)|((first|apply qR|apply qS);(conv=>lhs;simp only[go_sem])<;>rfl;rfl)|((first|apply qT|apply qU);(conv=>lhs;simp only[go_sem])<;>rfl;rfl)|apply qV|apply qW|apply qX|apply qY|apply qZ)
      refine ⟨by first | exact .inr rfl | exact .inl rfl, _, _, (by (conv => lhs; simp only [go_sem, ibin, ishift]) <;> with_reducible rfl), (by (conv => lhs; simp only [go_sem, ibin, ishift]) <;> with_reducible rfl), ?_⟩
      refine ⟨[0, 1, 2], by decide, rfl, ?_⟩
      exact ⟨by rw [Mi.last, if_neg (by rw [hn]; decide), hx]; simp only [ht, Bool.false_eq_true, if_false]; rfl, (by first | rfl | (simp only [go_sem, Mi.h]; done) | (simp only [go_sem, Mi.h] <;> rfl))⟩
    | true =>
      (with_reducible((first|apply WO2_finw|apply WO2_fina);(conv=>lhs;simp only[go_sem, ibin, ishift, mw_32 hw, h0, h1, h2, hx, cMd, ht])<;>rfl))
      (repeat' with_reducible first |apply qA|apply qB|apply qC|apply qD|apply qE|apply qF|(apply qG;decide)|apply qH|apply qI|apply qJ|apply qK|((first|apply qL|apply qM|apply qN|apply qO|((first|apply qP|apply qQ);decide +kernel));(conv=>lhs;simp only[go_sem, ibin, ishift, mw_32 hw, h0, h1, h2, hx, cMd])<;>rfl)|((first|apply qR|apply qS);(conv=>lhs;simp only[go_sem])<;>rfl;rfl)|((first|apply qT|apply qU);(conv=>lhs;simp only[go_sem])<;>rfl;rfl)|apply qV|apply qW|apply qX|apply qY|apply qZ)
      refine ⟨by first | exact .inr rfl | exact .inl rfl, _, _, (by (conv => lhs; simp only [go_sem, ibin, ishift]) <;> with_reducible rfl), (by (conv => lhs; simp only [go_sem, ibin, ishift]) <;> with_reducible rfl), ?_⟩
      refine ⟨[0, 1, 2], by decide, rfl, ?_⟩
      exact ⟨by rw [Mi.last, if_neg (by rw [hn]; decide), hx]; simp only [ht, if_true]; rfl, (by first | rfl | (simp only [go_sem, Mi.h]; done) | (simp only [go_sem, Mi.h] <;> rfl))⟩
end Go.Proofs.Ytjijhkmimjolhaa.Ab
