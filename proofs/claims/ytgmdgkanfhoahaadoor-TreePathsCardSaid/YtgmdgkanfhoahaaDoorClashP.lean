/- ghost.Clash: its map, in plain words. -/
import Derived.Test.YtgmdgkanfhoahaaDoorPathP
import Derived.Maps.OwnSet
import Derived.DeepKeys4
import Derived.ProofKit
namespace Go.Proofs.YtgmdgkanfhoahaaDoor.ClashP
open Go.RowKit Go.Maps Go.WideShapes Go.Proofs.YtgmdgkanfhoahaaDoor.ShaPure Go.Proofs.YtgmdgkanfhoahaaDoor.PathP Go.Proofs.YtgmdgkanfhoahaaDoorW.PrintWords
set_option linter.unusedVariables false
set_option linter.unusedSimpArgs false

theorem laidOutK : laidOutB Tryd.prog = true := by kernel_rfl
theorem lawK : Keyed Tryd.prog 29 := Keyed.of_law (deep_law_laid laidOutK (m := 2) (by decide) (by first | decide +kernel | (show (_ : Nat) < _; kernel_rfl)) (by kernel_rfl) (by kernel_rfl))
theorem sizeK : Tryd.prog.types.size = (Tryd.prog.types.size - 1) + 1 := by
  have : (0 < Tryd.prog.types.size) := by decide +kernel
  omega
theorem mapM_all {α β : Type} (f : α → Option β) : ∀ l : List α, (∀ x ∈ l, ∃ y, f x = some y) → ∃ ys, l.mapM f = some ys
  | [], _ => ⟨[], rfl⟩
  | x :: r, h => by
    obtain ⟨y, hy⟩ := h x List.mem_cons_self
    obtain ⟨ys, hys⟩ := mapM_all f r (fun z hz => h z (List.mem_cons_of_mem _ hz))
    exact ⟨y :: ys, by rw [List.mapM_cons, hy, hys]; rfl⟩
def dv (d : List Int) : Value := .agg (nums .u8 d).toArray
theorem key_some (d : List Int) (hl : d.length = 32) (hb : Bytes d) : ∃ l, keyOf Tryd.prog 29 (dv d) = some l := by
  have hT : Tryd.prog.keyType 29 = true := by kernel_rfl
  have h1 : Tryd.prog.cellsOf 5 = 1 := by kernel_rfl
  have h32 : Tryd.prog.cellsOf 29 = 32 := by kernel_rfl
  have hf : (dv d).formed Tryd.prog 29 = true := by
    unfold dv Value.formed
    rw [Tryd.underlying29]
    simp [h32, nums, hl]
  have hlit : ∃ ls, Tryd.prog.keyLits (Tryd.prog.types.size + 1) 29 (nums .u8 d) = some ls := by
    unfold Program.keyLits
    rw [Tryd.underlying29]
    simp only [h32, h1]
    rw [if_pos (by simp [nums, hl])]
    obtain ⟨ys, hys⟩ := mapM_all (fun i => Tryd.prog.keyLits Tryd.prog.types.size 5 (((nums .u8 d).drop (i * 1)).take 1)) (List.range 32) (fun i hi => by
      have hi' : i < d.length := by rw [hl]; exact List.mem_range.1 hi
      have hd : ((nums .u8 d).drop (i * 1)).take 1 = [.int .u8 d[i]] := by
        rw [Nat.mul_one, List.drop_eq_getElem_cons (by simp [nums]; exact hi')]
        simp [nums]
      rw [hd, sizeK]
      unfold Program.keyLits
      rw [Tryd.underlying5]
      have := hb _ (List.getElem_mem hi')
      refine ⟨[.int .u8 d[i]], ?_⟩
      simp only []
      rw [if_pos ⟨trivial, by simp [Lit.wf, IntKind.min, IntKind.max, IntKind.signed, IntKind.bits]; omega⟩])
    rw [hys]
    exact ⟨_, rfl⟩
  obtain ⟨ls, hls⟩ := hlit
  unfold keyOf
  rw [Tryd.underlying29]
  simp only []
  rw [if_pos (by rw [hT, hf]; rfl)]
  have : (dv d).cells.toList = nums .u8 d := by unfold dv; simp [Value.cells]
  rw [this, hls]
  exact ⟨_, rfl⟩
/-- A key for each digest. -/
def Kl (kl : List Int → Lit) : Prop := ∀ d, d.length = 32 → Bytes d → keyOf Tryd.prog 29 (dv d) = some (kl d)
theorem kl_exists : ∃ kl, Kl kl := by
  have h : ∀ d : List Int, ∃ l : Lit, d.length = 32 → Bytes d → keyOf Tryd.prog 29 (dv d) = some l := fun d => by
    by_cases hd : d.length = 32 ∧ Bytes d
    · obtain ⟨l, hl⟩ := key_some d hd.1 hd.2
      exact ⟨l, fun _ _ => hl⟩
    · exact ⟨.bool true, fun h1 h2 => absurd ⟨h1, h2⟩ hd⟩
  exact ⟨fun d => (h d).choose, fun d => (h d).choose_spec⟩
theorem nums_inj {a b : List Int} (h : nums .u8 a = nums .u8 b) : a = b := by
  unfold nums at h
  exact (List.map_inj_right (fun x y e => by injection e)).1 h
theorem dv_inj {a b : List Int} (h : dv a = dv b) : a = b := by
  unfold dv at h
  injection h with h
  exact nums_inj (by simpa using congrArg Array.toList h)
variable {kl : List Int → Lit}
theorem kl_inj (hk : Kl kl) {a b : List Int} (ha : a.length = 32) (hab : Bytes a) (hb : b.length = 32) (hbb : Bytes b) (h : kl a = kl b) : a = b := by
  have h1 := hk a ha hab
  rw [h] at h1
  exact dv_inj (lawK.inj h1 (hk b hb hbb))
theorem kl_is (hk : Kl kl) {d : List Int} (hl : d.length = 32) (hb : Bytes d) : WideAt.IsKeyLit (kl d) := lawK.key (hk d hl hb)
abbrev PS := List (List Int × List Int)
def dg (ps : PS) (i : Nat) : List Int := (ps.getD i ([], [])).2
def inp (ps : PS) (i : Nat) : List Int := (ps.getD i ([], [])).1
/-- What the map holds behind the first i pairs. -/
def fm (kl : List Int → Lit) (ps : PS) : Nat → DataW Unit
  | 0 => .map []
  | i + 1 => if Maps.has (fm kl ps i) (kl (dg ps i)) = true then fm kl ps i else (fm kl ps i).put (kl (dg ps i)) (.lit (.int .i64 i))
def Good (ps : PS) : Prop := ∀ i, i < ps.length → (dg ps i).length = 32 ∧ Bytes (dg ps i)
def At (kl : List Int → Lit) (ps : PS) (t j i : Nat) : Prop := i < t ∧ Maps.has (fm kl ps t) (kl (dg ps j)) = true ∧ (∀ z, (fm kl ps t).atKey (kl (dg ps j)) z = .lit (.int .i64 i)) ∧ dg ps i = dg ps j ∧ inp ps i = inp ps j
structure Inv (kl : List Int → Lit) (ps : PS) (t : Nat) : Prop where
  map : IsMap (fm kl ps t)
  at_ : ∀ j, j < t → ∃ i, At kl ps t j i
  key : ∀ k, Maps.has (fm kl ps t) k = true → ∃ j, j < t ∧ k = kl (dg ps j)
theorem inv_zero (kl : List Int → Lit) (ps : PS) : Inv kl ps 0 := ⟨isMap_empty, fun j h => by omega, fun k h => by simp [fm, Maps.has] at h⟩
theorem inv_new (hkl : Kl kl) {ps : PS} (hg : Good ps) {t : Nat} (h : Inv kl ps t) (ht : t < ps.length) (hn : Maps.has (fm kl ps t) (kl (dg ps t)) = false) : fm kl ps (t + 1) = (fm kl ps t).put (kl (dg ps t)) (.lit (.int .i64 t)) ∧ Inv kl ps (t + 1) := by
  have e : fm kl ps (t + 1) = (fm kl ps t).put (kl (dg ps t)) (.lit (.int .i64 t)) := by
    show (if _ then _ else _) = _
    rw [if_neg (by rw [hn]; decide)]
  have hk := kl_is hkl (hg t ht).1 (hg t ht).2
  refine ⟨e, by rw [e]; exact h.map.put _ _, fun j hj => ?_, fun k hk' => ?_⟩
  · by_cases hjt : j = t
    · subst hjt
      exact ⟨j, by omega, by rw [e]; exact has_put_same h.map hk _, fun z => by rw [e]; exact atKey_put_same h.map hk _ _, rfl, rfl⟩
    · obtain ⟨i, h1, h2, h3, h4, h5⟩ := h.at_ j (by omega)
      have hne : kl (dg ps j) ≠ kl (dg ps t) := fun ee => by rw [ee, hn] at h2; cases h2
      exact ⟨i, by omega, by rw [e, has_put_other hne]; exact h2, fun z => by rw [e, atKey_put_other hne]; exact h3 z, h4, h5⟩
  · rw [e] at hk'
    by_cases hkt : k = kl (dg ps t)
    · exact ⟨t, by omega, hkt⟩
    · rw [has_put_other hkt] at hk'
      obtain ⟨j, hj, hjk⟩ := h.key k hk'
      exact ⟨j, by omega, hjk⟩
/-- The key is there: at what index. -/
theorem inv_there (hkl : Kl kl) {ps : PS} (hg : Good ps) {t : Nat} (h : Inv kl ps t) (ht : t < ps.length) (hn : Maps.has (fm kl ps t) (kl (dg ps t)) = true) : ∃ i, i < t ∧ (∀ z, (fm kl ps t).atKey (kl (dg ps t)) z = .lit (.int .i64 i)) ∧ dg ps i = dg ps t := by
  obtain ⟨j, hj, hk⟩ := h.key _ hn
  obtain ⟨i, h1, h2, h3, h4, h5⟩ := h.at_ j hj
  have e := kl_inj hkl (hg t ht).1 (hg t ht).2 (hg j (by omega)).1 (hg j (by omega)).2 hk
  exact ⟨i, h1, fun z => by rw [e]; exact h3 z, h4.trans e.symm⟩
theorem inv_old {ps : PS} {t : Nat} (h : Inv kl ps t) (hn : Maps.has (fm kl ps t) (kl (dg ps t)) = true) {i : Nat} (hi : i < t) (ha : ∀ z, (fm kl ps t).atKey (kl (dg ps t)) z = .lit (.int .i64 i)) (hd : dg ps i = dg ps t) (he : inp ps i = inp ps t) : fm kl ps (t + 1) = fm kl ps t ∧ Inv kl ps (t + 1) := by
  have e : fm kl ps (t + 1) = fm kl ps t := by
    show (if _ then _ else _) = _
    rw [if_pos hn]
  refine ⟨e, by rw [e]; exact h.map, fun j hj => ?_, fun k hk' => ?_⟩
  · by_cases hjt : j = t
    · subst hjt
      exact ⟨i, by omega, by rw [e]; exact hn, fun z => by rw [e]; exact ha z, hd, he⟩
    · obtain ⟨i', h1, h2, h3, h4, h5⟩ := h.at_ j (by omega)
      exact ⟨i', by omega, by rw [e]; exact h2, fun z => by rw [e]; exact h3 z, h4, h5⟩
  · rw [e] at hk'
    obtain ⟨j, hj, hjk⟩ := h.key k hk'
    exact ⟨j, by omega, hjk⟩
theorem inv_end {ps : PS} (h : Inv kl ps ps.length) : ¬ Clash ps := by
  rintro ⟨p, hp, q, hq, e, hne⟩
  obtain ⟨a, ha⟩ := List.getElem?_of_mem hp
  obtain ⟨b, hb⟩ := List.getElem?_of_mem hq
  have la := (List.getElem?_eq_some_iff.1 ha).1
  have lb := (List.getElem?_eq_some_iff.1 hb).1
  obtain ⟨i, h1, h2, h3, h4, h5⟩ := h.at_ a la
  obtain ⟨j, k1, k2, k3, k4, k5⟩ := h.at_ b lb
  have ga : ps.getD a ([], []) = p := by rw [List.getD_eq_getElem?_getD, ha]; rfl
  have gb : ps.getD b ([], []) = q := by rw [List.getD_eq_getElem?_getD, hb]; rfl
  have hd : dg ps a = dg ps b := by unfold dg; rw [ga, gb, e]
  have h6 := h3 .nil
  rw [hd, k3 .nil] at h6
  injection h6 with h6
  injection h6 with _ h6
  have h7 : j = i := by omega
  subst h7
  apply hne
  have : inp ps a = inp ps b := h5.symm.trans k5
  unfold inp at this
  rwa [ga, gb] at this
end Go.Proofs.YtgmdgkanfhoahaaDoor.ClashP
