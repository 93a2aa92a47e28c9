/- Rows of blocks with room behind them; Copy, New. -/
import Derived.Test.YtgmdgkanfhoahaaDoorTreeAwk
import Derived.Test.YtgmdgkanfhoahaaDoorTreePla
namespace Go.Proofs.YtgmdgkanfhoahaaDoor.GRow
open Go.RowKit Go.Proofs.YtgmdgkanfhoahaaDoor.ShaPure Go.Proofs.YtgmdgkanfhoahaaDoor.ShaBlk Go.Proofs.YtgmdgkanfhoahaaDoor.ShaWrite Go.Proofs.YtgmdgkanfhoahaaDoor.ShaSum Go.Proofs.YtgmdgkanfhoahaaDoor.ShaEnd Go.Proofs.YtgmdgkanfhoahaaDoor.ShaOf Go.Proofs.YtgmdgkanfhoahaaDoor.BytesW Go.Proofs.YtgmdgkanfhoahaaDoor.RefPad Go.Proofs.YtgmdgkanfhoahaaDoor.Put Go.Proofs.YtgmdgkanfhoahaaDoor.LogW Go.Proofs.YtgmdgkanfhoahaaDoor.Dig Go.Proofs.YtgmdgkanfhoahaaDoor.Hdr Go.Proofs.YtgmdgkanfhoahaaDoor.Above Go.Proofs.YtgmdgkanfhoahaaDoorW.PrintWords Go.Proofs.YtgmdgkanfhoahaaDoorW.PrintLast Go.Proofs.YtgmdgkanfhoahaaDoorW.PrintMore
set_option linter.unusedVariables false
set_option linter.unusedSimpArgs false

def ghd (g : Nat × Nat) : Value := .slice (some ⟨g.1, 0, none⟩) 256 g.2
abbrev GK : Kd (Nat × Nat) := Kd.scalar ghd (fun _ => rfl)
def ghas (v : Value) (gs : List (Nat × Nat)) (k : Nat) : Prop := v.ownBlock = some k ∨ ∃ c, (k, c) ∈ gs
/-- A block of 256 bytes at least, whose first ones are x. -/
def GB (w : World) (g : Nat × Nat) (x : List Int) : Prop := x.length = 256 ∧ 256 ≤ g.2 ∧ ∃ cur, w.heap[g.1]? = some (.cells cur 5 (0, 0)) ∧ cur.toList.take 256 = nums .u8 x
structure GRows (w : World) (v : Value) (gs : List (Nat × Nat)) (xs : List (List Int)) : Prop where
  row : GK.R 22 w 0 (fun _ => True) v gs
  len : xs.length = gs.length
  blk : ∀ j g, gs[j]? = some g → GB w g (xs.getD j [])
  nodup : (gs.map (·.1)).Nodup
section
variable {w w' W w1 : World} {v v1 : Value} {gs : List (Nat × Nat)} {xs : List (List Int)} {T : Nat → Prop} {g : Nat × Nat} {x : List Int}
theorem GB.C (h : GB w g x) : Kd.C (Kd.int .u8) w (some ⟨g.1, 0, none⟩) 256 x := by
  obtain ⟨hl, -, cur, hb, ht⟩ := h
  refine Kd.C_of_reads (enc := Value.int .u8) (d := (0 : Int)) (h1 := fun _ => rfl) ⟨hl, by decide, fun hn => ⟨_, rfl, fun j hj => ?_⟩⟩
  have h1 : (cur.toList.take 256)[j]? = (nums .u8 x)[j]? := by rw [ht]
  rw [List.getElem?_take, if_pos hj] at h1
  rw [ShaWrite.add_at, blk_cell hb j, ← Array.getElem?_toList, h1]
  simp [nums, List.getElem?_eq_getElem (show j < x.length by omega), List.getD_eq_getElem?_getD]
theorem GB.same (h : GB w g x) (hk : w'.heap[g.1]? = w.heap[g.1]?) : GB w' g x := by
  obtain ⟨h1, h2, cur, hb, ht⟩ := h
  exact ⟨h1, h2, cur, hk.trans hb, ht⟩
theorem GB.lt (h : GB w g x) : g.1 < w.heap.size := by
  obtain ⟨-, -, cur, hb, -⟩ := h
  exact blk_lt hb
theorem GB.cell (h : GB w g x) {i : Int} (h0 : 0 ≤ i) (h1 : i < 256) : w.cell? ⟨g.1, i.toNat, none⟩ = some (.int .u8 (x.getD i.toNat 0)) := by
  have hl := h.1
  have := C_cell (by have := h.C; rw [← hl] at this; exact this) i.toNat (by omega)
  rwa [ShaWrite.add_at] at this
theorem GB.frozen (h : GB w g x) (i : Nat) : w.frozen? ⟨g.1, i, none⟩ = false := by
  obtain ⟨-, -, cur, hb, -⟩ := h
  exact blk_frozen hb i
theorem GB.set_ (h : GB w g x) {i : Nat} (hi : i < 256) (u : Int) : GB (w.setCell ⟨g.1, i, none⟩ (.int .u8 u)) g (x.set i u) := by
  obtain ⟨h1, h2, cur, hb, ht⟩ := h
  refine ⟨by rw [List.length_set]; exact h1, h2, _, blk_set hb i _, ?_⟩
  rw [Array.toList_setIfInBounds, List.take_set, ht]
  simp [nums, List.map_set]
theorem GRows.lt (h : GRows w v gs xs) {k : Nat} (hk : ghas v gs k) : k < w.heap.size := by
  rcases hk with hk | ⟨c, hk⟩
  · exact Kd.R_lt h.row k hk
  · obtain ⟨j, hj⟩ := List.getElem?_of_mem hk
    exact (h.blk j _ hj).lt
theorem GRows.kept (h : GRows w v gs xs) (hk : Kept w w' T) (hn : ∀ k, ghas v gs k → ¬ T k) : GRows w' v gs xs :=
  ⟨Kd.R_mono (Kd.R_kept (ok := fun k => v.ownBlock = some k) (Kd.R_of_own (Kd.own_of_R h.row) (fun k hk => hk)) hk (fun k hk => hn k (.inl hk))) (fun _ _ => trivial), h.len,
    fun j g hj => (h.blk j g hj).same (hk.2 _ (h.blk j g hj).lt (hn _ (.inr ⟨g.2, List.mem_of_getElem? hj⟩))), h.nodup⟩
theorem GRows.below (h : GRows w v gs xs) (hb : Below w.heap.size w w') : GRows w' v gs xs := h.kept (Kept.of_below hb (fun _ => False)) (fun _ _ hf => hf)
theorem GRows.nil (w : World) : GRows w (.slice none 0 0) [] [] := ⟨Kd.R_nil _ _ _ _ _, rfl, fun j g hj => by simp at hj, List.nodup_nil⟩
theorem GRows.ne (h : GRows w v gs xs) (hg : g ∈ gs) : some g.1 ≠ v.ownBlock := by
  obtain ⟨j, hj⟩ := List.getElem?_of_mem hg
  obtain ⟨-, -, cur, hb, -⟩ := h.blk j g hj
  exact Kd.R_ne h.row hb (by decide)
theorem GRows.cell_ {A : Option Addr} {n c : Nat} (h : GRows w (.slice A n c) gs xs) {i : Nat} (hg : gs[i]? = some g) : ∃ og, A = some ⟨og, 0, none⟩ ∧ ∀ (W : World) (ys : List (List Int)), GRows W (.slice A n c) gs ys → W.cell? ⟨og, i, none⟩ = some (ghd g) := by
  obtain ⟨hi, rfl⟩ := List.getElem?_eq_some_iff.1 hg
  rcases (Kd.own_of_R h.row).2 with ⟨he, h0⟩ | ⟨og, cap, cur, he, _⟩
  · omega
  · injection he with h1 h2 h3
    subst h1
    refine ⟨og, rfl, fun W ys h' => ?_⟩
    obtain ⟨hn, -, hC⟩ := Kd.R_reads' h'.row
    subst hn
    obtain ⟨ad, e3, hcell⟩ := hC.2.2 (by omega)
    injection e3 with e3
    subst e3
    obtain ⟨cs, hl, hk2, hu⟩ := hcell i gs[i] (List.getElem?_eq_getElem hi)
    have hk' : cs = [ghd gs[i]] := hk2
    have := hu 0 (ghd gs[i]) (by rw [hk']; rfl)
    rw [show i * GK.sz + 0 = i from Nat.mul_one i, ShaWrite.add_at] at this
    exact this
theorem GRows.reads (h : GRows w v gs xs) : ∃ A c, v = .slice A xs.length c ∧ xs.length ≤ c ∧ BB.C w A xs.length xs := by
  obtain ⟨A, c, e⟩ := Kd.R_slice h.row
  subst e
  obtain ⟨-, hc, hC⟩ := Kd.R_reads' h.row
  refine ⟨A, c, by rw [h.len], by rw [h.len]; exact hc, rfl, by rw [h.len]; exact hC.2.1, fun hn => ?_⟩
  obtain ⟨ad, e, hcell⟩ := hC.2.2 (by rw [← h.len]; exact hn)
  refine ⟨ad, e, fun j p hj => ?_⟩
  have hj' : j < xs.length := (List.getElem?_eq_some_iff.1 hj).1
  have hg : j < gs.length := by rw [← h.len]; exact hj'
  obtain ⟨cs, hl, hk, hu⟩ := hcell j gs[j] (List.getElem?_eq_getElem hg)
  have hk' : cs = [ghd gs[j]] := hk
  have hp : xs.getD j [] = p := by rw [List.getD_eq_getElem?_getD, hj]; rfl
  have hb := h.blk j gs[j] (List.getElem?_eq_getElem hg)
  rw [hp] at hb
  have hp2 := hb.1
  refine ⟨cs, hl, ⟨some ⟨gs[j].1, 0, none⟩, gs[j].2, by rw [hk', hp2]; rfl, by rw [hp2]; exact hb.2.1, by rw [hp2]; exact hb.C⟩, hu⟩
theorem GRows.snoc (h : GRows W v gs xs) (hr : GK.R 22 w1 0 (fun _ => True) v1 (gs ++ [g])) (hg : W.grownBy w1 v.ownBlock) (hb : GB W g x) (hn : ∀ c, (g.1, c) ∉ gs) : GRows w1 v1 (gs ++ [g]) (xs ++ [x]) := by
  have hgo : some g.1 ≠ v.ownBlock := by
    obtain ⟨-, -, cur, hb, -⟩ := hb
    exact Kd.R_ne h.row hb (by decide)
  refine ⟨hr, by rw [List.length_append, List.length_append, h.len]; rfl, fun j k hj => ?_, ?_⟩
  · rcases Nat.lt_or_ge j gs.length with hl | hl
    · rw [List.getElem?_append_left hl] at hj
      rw [List.getD_eq_getElem?_getD, List.getElem?_append_left (by rw [h.len]; exact hl), ← List.getD_eq_getElem?_getD]
      exact (h.blk j k hj).same (hg.block _ (h.blk j k hj).lt (h.ne (List.mem_of_getElem? hj)))
    · rw [List.getElem?_append_right hl] at hj
      have h0 : j - gs.length = 0 := by
        have := (List.getElem?_eq_some_iff.1 hj).1
        simp at this
        omega
      rw [h0] at hj
      have hk : g = k := by simpa using hj
      subst hk
      rw [List.getD_eq_getElem?_getD, List.getElem?_append_right (by rw [h.len]; exact hl), h.len, h0]
      exact hb.same (hg.block _ hb.lt hgo)
  · rw [List.map_append, List.nodup_append]
    refine ⟨h.nodup, by simp, fun a ha b hb e => ?_⟩
    obtain ⟨q, hq, rfl⟩ := List.mem_map.1 ha
    have hb' : b = g.1 := by simpa using hb
    exact hn q.2 (by rw [← hb', ← e]; exact hq)
/-- A byte of block j is another one. -/
theorem GRows.set_ (h : GRows w v gs xs) {j i : Nat} (hj : gs[j]? = some g) (hi : i < 256) (u : Int) : GRows (w.setCell ⟨g.1, i, none⟩ (.int .u8 u)) v gs (xs.set j ((xs.getD j []).set i u)) := by
  have hgo := h.ne (List.mem_of_getElem? hj)
  have hjl := (List.getElem?_eq_some_iff.1 hj).1
  refine ⟨Kd.R_step (Kd.R_of_own (ok := fun k => v.ownBlock = some k) (Kd.own_of_R h.row) (fun k hk => hk)) (fun k hk _ => Below.heap_setCell w ⟨g.1, i, none⟩ _ k (fun e => hgo (by rw [hk, e]))) |> fun h => Kd.R_mono h (fun _ _ => trivial), by rw [List.length_set, h.len], fun q k hq => ?_, h.nodup⟩
  by_cases e : q = j
  · subst e
    rw [hj] at hq
    injection hq with hq
    subst hq
    rw [List.getD_eq_getElem?_getD, List.getElem?_set_self (by rw [h.len]; exact hjl)]
    exact (h.blk q g hj).set_ hi u
  · have hk : k.1 ≠ g.1 := fun e2 => e (by
      have hil := (List.getElem?_eq_some_iff.1 hq).1
      refine (List.getElem?_inj (by rw [List.length_map]; exact hil) h.nodup).1 ?_
      rw [List.getElem?_map, List.getElem?_map, hq, hj]
      simp [e2])
    rw [List.getD_eq_getElem?_getD, List.getElem?_set_ne (fun e2 => e e2.symm), ← List.getD_eq_getElem?_getD]
    exact (h.blk q k hq).same (Below.heap_setCell w ⟨g.1, i, none⟩ _ k.1 hk)
end
end Go.Proofs.YtgmdgkanfhoahaaDoor.GRow
