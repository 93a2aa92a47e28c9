/- Rows of blocks of 256 bytes in memory of their own. tree.above: the nodes over a row of blocks. tree.Build. -/
import Derived.Test.YtgmdgkanfhoahaaDoorTreeLog
import Derived.StillTailTactics
namespace Go.Proofs.YtgmdgkanfhoahaaDoor.Hdr
open Go.RowKit Go.Proofs.YtgmdgkanfhoahaaDoor.ShaPure Go.Proofs.YtgmdgkanfhoahaaDoor.ShaBlk Go.Proofs.YtgmdgkanfhoahaaDoor.ShaWrite Go.Proofs.YtgmdgkanfhoahaaDoor.ShaSum Go.Proofs.YtgmdgkanfhoahaaDoor.ShaEnd Go.Proofs.YtgmdgkanfhoahaaDoor.ShaOf Go.Proofs.YtgmdgkanfhoahaaDoor.BytesW Go.Proofs.YtgmdgkanfhoahaaDoor.Put Go.Proofs.YtgmdgkanfhoahaaDoor.LogW Go.Proofs.YtgmdgkanfhoahaaDoor.Dig Go.Proofs.YtgmdgkanfhoahaaDoorW.PrintWords Go.Proofs.YtgmdgkanfhoahaaDoorW.PrintLast Go.Proofs.YtgmdgkanfhoahaaDoorW.PrintMore
set_option linter.unusedVariables false
set_option linter.unusedSimpArgs false

def hdr (g : Nat) : Value := .slice (some ⟨g, 0, none⟩) 256 256
/-- A block's slice. -/
abbrev HK : Kd Nat := Kd.scalar hdr (fun _ => rfl)
def has (v : Value) (gs : List Nat) (k : Nat) : Prop := v.ownBlock = some k ∨ k ∈ gs
structure HRows (w : World) (v : Value) (gs : List Nat) (xs : List (List Int)) : Prop where
  row : HK.R 22 w 0 (fun _ => True) v gs
  len : xs.length = gs.length
  blk : ∀ j g, gs[j]? = some g → w.heap[g]? = some (Obj.cells (nums .u8 (xs.getD j [])).toArray 5 (0, 0))
  full : ∀ x ∈ xs, x.length = 256
  nodup : gs.Nodup
theorem C_blk {w : World} {g : Nat} {x : List Int} {t : TypeId} (h : w.heap[g]? = some (Obj.cells (nums .u8 x).toArray t (0, 0))) (hl : x.length ≤ 1000000) : Kd.C (Kd.int .u8) w (some ⟨g, 0, none⟩) x.length x :=
  Kd.C_of_reads (enc := Value.int .u8) (d := (0 : Int)) (h1 := fun _ => rfl) ⟨rfl, by omega, fun hn => ⟨_, rfl, fun j hj => by
    rw [ShaWrite.add_at, blk_cell h j]
    simp [nums, List.getElem?_eq_getElem hj, List.getD_eq_getElem?_getD]⟩⟩
section
variable {w w' W w1 : World} {v v1 : Value} {gs : List Nat} {xs : List (List Int)} {T : Nat → Prop}
theorem HRows.at_ (h : HRows w v gs xs) {j : Nat} (hj : j < gs.length) : (xs.getD j []).length = 256 := by
  have hj' : j < xs.length := by rw [h.len]; exact hj
  rw [List.getD_eq_getElem?_getD, List.getElem?_eq_getElem hj']
  exact h.full _ (List.getElem_mem hj')
theorem HRows.lt (h : HRows w v gs xs) {k : Nat} (hk : has v gs k) : k < w.heap.size := by
  rcases hk with hk | hk
  · exact Kd.R_lt h.row k hk
  · obtain ⟨j, hj⟩ := List.getElem?_of_mem hk
    exact blk_lt (h.blk j k hj)
theorem HRows.kept (h : HRows w v gs xs) (hk : Kept w w' T) (hn : ∀ k, has v gs k → ¬ T k) : HRows w' v gs xs :=
  ⟨Kd.R_mono (Kd.R_kept (ok := fun k => v.ownBlock = some k) (Kd.R_of_own (Kd.own_of_R h.row) (fun k hk => hk)) hk (fun k hk => hn k (.inl hk))) (fun _ _ => trivial), h.len, fun j g hj => blk_kept (h.blk j g hj) hk (hn g (.inr (List.mem_of_getElem? hj))), h.full, h.nodup⟩
theorem HRows.below (h : HRows w v gs xs) (hb : Below w.heap.size w w') : HRows w' v gs xs := h.kept (Kept.of_below hb (fun _ => False)) (fun _ _ hf => hf)
theorem HRows.nil (w : World) : HRows w (.slice none 0 0) [] [] := ⟨Kd.R_nil _ _ _ _ _, rfl, fun j g hj => by simp at hj, fun x hx => by simp at hx, List.nodup_nil⟩
theorem HRows.ne (h : HRows w v gs xs) {g : Nat} (hg : g ∈ gs) : some g ≠ v.ownBlock := by
  obtain ⟨j, hj⟩ := List.getElem?_of_mem hg
  exact Kd.R_ne h.row (h.blk j g hj) (by decide)
theorem HRows.reads (h : HRows w v gs xs) : ∃ A c, v = .slice A xs.length c ∧ xs.length ≤ c ∧ BB.C w A xs.length xs := by
  obtain ⟨A, c, e⟩ := Kd.R_slice h.row
  subst e
  obtain ⟨-, hc, hC⟩ := Kd.R_reads' h.row
  refine ⟨A, c, by rw [h.len], by rw [h.len]; exact hc, rfl, by rw [h.len]; exact hC.2.1, fun hn => ?_⟩
  obtain ⟨ad, e, hcell⟩ := hC.2.2 (by rw [← h.len]; exact hn)
  refine ⟨ad, e, fun j p hj => ?_⟩
  have hj' : j < xs.length := by
    rcases Nat.lt_or_ge j xs.length with h1 | h1
    · exact h1
    · rw [List.getElem?_eq_none h1] at hj; simp at hj
  have hg : j < gs.length := by rw [← h.len]; exact hj'
  obtain ⟨cs, hl, hk, hu⟩ := hcell j gs[j] (List.getElem?_eq_getElem hg)
  have hk' : cs = [hdr gs[j]] := hk
  have hp : xs.getD j [] = p := by rw [List.getD_eq_getElem?_getD, hj]; rfl
  have hb := h.blk j gs[j] (List.getElem?_eq_getElem hg)
  rw [hp] at hb
  have hp2 : p.length = 256 := by rw [← hp]; exact h.at_ hg
  refine ⟨cs, hl, ⟨some ⟨gs[j], 0, none⟩, 256, by rw [hk', hp2]; rfl, by rw [hp2]; exact Nat.le_refl _, C_blk hb (by omega)⟩, hu⟩
theorem HRows.snoc (h : HRows W v gs xs) {g : Nat} {x : List Int} (hr : HK.R 22 w1 0 (fun _ => True) v1 (gs ++ [g])) (hg : W.grownBy w1 v.ownBlock) (hb : W.heap[g]? = some (Obj.cells (nums .u8 x).toArray 5 (0, 0))) (hx : x.length = 256) (hn : g ∉ gs) : HRows w1 v1 (gs ++ [g]) (xs ++ [x]) := by
  have hgo : some g ≠ v.ownBlock := Kd.R_ne h.row hb (by decide)
  refine ⟨hr, by rw [List.length_append, List.length_append, h.len]; rfl, fun j k hj => ?_, fun y hy => ?_, ?_⟩
  · rcases Nat.lt_or_ge j gs.length with hl | hl
    · rw [List.getElem?_append_left hl] at hj
      rw [List.getD_eq_getElem?_getD, List.getElem?_append_left (by rw [h.len]; exact hl), ← List.getD_eq_getElem?_getD]
      exact blk_grown (h.blk j k hj) hg (h.ne (List.mem_of_getElem? hj))
    · rw [List.getElem?_append_right hl] at hj
      have h0 : j - gs.length = 0 := by
        have := (List.getElem?_eq_some_iff.1 hj).1
        simp at this
        omega
      rw [h0] at hj
      have hk : g = k := by simpa using hj
      subst hk
      rw [List.getD_eq_getElem?_getD, List.getElem?_append_right (by rw [h.len]; exact hl), h.len, h0]
      exact blk_grown hb hg hgo
  · rcases List.mem_append.1 hy with h1 | h1
    · exact h.full y h1
    · rw [List.mem_singleton.1 h1]; exact hx
  · rw [List.nodup_append]
    exact ⟨h.nodup, by simp, fun a ha b hb => by rw [List.mem_singleton.1 hb]; intro e; exact hn (e ▸ ha)⟩
theorem HRows.app {v2 : Value} {gs2 : List Nat} {xs2 : List (List Int)} (h : HRows W v gs xs) (h2 : HRows W v2 gs2 xs2) (hr : HK.R 22 w1 0 (fun _ => True) v1 (gs ++ gs2)) (hg : W.grownBy w1 v.ownBlock) (hn : ∀ k ∈ gs2, k ∉ gs) : HRows w1 v1 (gs ++ gs2) (xs ++ xs2) := by
  refine ⟨hr, by rw [List.length_append, List.length_append, h.len, h2.len], fun j k hj => ?_, fun y hy => ?_, ?_⟩
  · rcases Nat.lt_or_ge j gs.length with hl | hl
    · rw [List.getElem?_append_left hl] at hj
      rw [List.getD_eq_getElem?_getD, List.getElem?_append_left (by rw [h.len]; exact hl), ← List.getD_eq_getElem?_getD]
      exact blk_grown (h.blk j k hj) hg (h.ne (List.mem_of_getElem? hj))
    · rw [List.getElem?_append_right hl] at hj
      rw [List.getD_eq_getElem?_getD, List.getElem?_append_right (by rw [h.len]; exact hl), h.len, ← List.getD_eq_getElem?_getD]
      have hb := h2.blk _ k hj
      exact blk_grown hb hg (Kd.R_ne h.row hb (by decide))
  · rcases List.mem_append.1 hy with h1 | h1
    · exact h.full y h1
    · exact h2.full y h1
  · rw [List.nodup_append]
    exact ⟨h.nodup, h2.nodup, fun a ha b hb e => hn b hb (e ▸ ha)⟩
theorem HRows.put (h : HRows w v gs xs) {j g : Nat} {y : List Int} (hj : gs[j]? = some g) (hy : y.length = 256) : HRows (w.setRow g (nums .u8 y).toArray) v gs (xs.set j y) := by
  have hgo := h.ne (List.mem_of_getElem? hj)
  have hjl := (List.getElem?_eq_some_iff.1 hj).1
  refine ⟨Kd.R_step (Kd.R_of_own (ok := fun k => v.ownBlock = some k) (Kd.own_of_R h.row) (fun k hk => hk)) (fun k hk _ => setRow_other _ _ _ _ (fun e => hgo (by rw [hk, e]))) |> fun h => Kd.R_mono h (fun _ _ => trivial), by rw [List.length_set, h.len], fun i k hi => ?_, fun z hz => ?_, h.nodup⟩
  · by_cases e : i = j
    · subst e
      rw [hj] at hi
      injection hi with hi
      subst hi
      rw [List.getD_eq_getElem?_getD, List.getElem?_set_self (by rw [h.len]; exact hjl)]
      exact setRow_heap _ _ _ _ _ _ (h.blk i g hj)
    · have hk : k ≠ g := fun e2 => e (by
        subst e2
        have hil := (List.getElem?_eq_some_iff.1 hi).1
        exact (List.getElem?_inj hil h.nodup).1 (hi.trans hj.symm))
      rw [List.getD_eq_getElem?_getD, List.getElem?_set_ne (fun e2 => e e2.symm), ← List.getD_eq_getElem?_getD, setRow_other _ _ _ _ hk]
      exact h.blk i k hi
  · rcases List.mem_or_eq_of_mem_set hz with h1 | h1
    · exact h.full z h1
    · rw [h1]; exact hy
theorem rows_cell {A : Option Addr} {n c : Nat} (h : HRows w (.slice A n c) gs xs) {i g : Nat} (hg : gs[i]? = some g) : ∃ og, A = some ⟨og, 0, none⟩ ∧ ∀ W, HRows W (.slice A n c) gs xs → W.cell? ⟨og, i, none⟩ = some (.slice (some ⟨g, 0, none⟩) 256 256) := by
  obtain ⟨hi, rfl⟩ := List.getElem?_eq_some_iff.1 hg
  rcases (Kd.own_of_R h.row).2 with ⟨he, h0⟩ | ⟨og, cap, cur, he, _⟩
  · omega
  · injection he with h1 h2 h3
    subst h1
    refine ⟨og, rfl, fun W h' => ?_⟩
    obtain ⟨hn, -, hC⟩ := Kd.R_reads' h'.row
    subst hn
    obtain ⟨ad, e3, hcell⟩ := hC.2.2 (by omega)
    injection e3 with e3
    subst e3
    obtain ⟨cs, hl, hk2, hu⟩ := hcell i gs[i] (List.getElem?_eq_getElem hi)
    have hk' : cs = [hdr gs[i]] := hk2
    have := hu 0 (hdr gs[i]) (by rw [hk']; rfl)
    rw [show i * HK.sz + 0 = i from Nat.mul_one i, ShaWrite.add_at] at this
    exact this
/-- A row of blocks that is read, whatever becomes of the blocks of S. -/
def RD (w : World) (S : Nat → Prop) (A : Option Addr) (bs : List (List Int)) : Prop :=
  bs.length ≤ 9223372036854775807 ∧ ∀ i, i < bs.length → ∃ ad A1 c1, A = some ad ∧ (bs.getD i []).length ≤ c1 ∧ ∀ W', Kept w W' S → Kd.C (Kd.int .u8) W' A1 (bs.getD i []).length (bs.getD i []) ∧ W'.cell? (ad.add i) = some (.slice A1 (bs.getD i []).length c1)
theorem RD.mono {S S1 : Nat → Prop} {A : Option Addr} {bs : List (List Int)} (h : RD w S A bs) (hs : ∀ k, S1 k → S k) : RD w S1 A bs :=
  ⟨h.1, fun i hi => by
    obtain ⟨ad, A1, c1, e, hc, hW⟩ := h.2 i hi
    exact ⟨ad, A1, c1, e, hc, fun W' hk' => hW W' (hk'.mono hs)⟩⟩
theorem RD.step {S S1 : Nat → Prop} {A : Option Addr} {bs : List (List Int)} (h : RD w S A bs) (hk : Kept w w1 S) (hs : ∀ k, S1 k → S k ∨ w.heap.size ≤ k) : RD w1 S1 A bs :=
  ⟨h.1, fun i hi => by
    obtain ⟨ad, A1, c1, e, hc, hW⟩ := h.2 i hi
    exact ⟨ad, A1, c1, e, hc, fun W' hk' => hW W' (hk.then_ hk' hs)⟩⟩
/-- What came in below. -/
theorem RD.of_C {S : Nat → Prop} {A : Option Addr} {bs : List (List Int)} (h : BB.C w A bs.length bs) (hb : Below w.heap.size w w1) (hs : ∀ k, S k → w.heap.size ≤ k) : RD w1 S A bs :=
  ⟨Kd.C_max h, fun i hi => by
    obtain ⟨ad, A1, c1, e, hc, hC, hcell⟩ := BB_at h i hi
    refine ⟨ad, A1, c1, e, hc, fun W' hk => ?_⟩
    have hB : ∀ k, k < w.heap.size → W'.heap[k]? = w.heap[k]? := fun k hk' => (hk.2 k (Nat.lt_of_lt_of_le hk' hb.size) (fun hS => by have := hs k hS; omega)).trans (hb.block k hk')
    exact ⟨low_C hC hB, cell_same hcell (hB _ (cell_lt hcell))⟩⟩
theorem RD.of_rows {S : Nat → Prop} (h : HRows w v gs xs) (hn : ∀ k, has v gs k → ¬ S k) : ∃ A c, v = .slice A xs.length c ∧ xs.length ≤ c ∧ RD w S A xs := by
  obtain ⟨A, c, e, hc, hC⟩ := h.reads
  refine ⟨A, c, e, hc, Kd.C_max hC, fun i hi => ?_⟩
  obtain ⟨-, -, hH⟩ := Kd.R_reads' (by have := h.row; rw [e] at this; exact this)
  have hg : i < gs.length := by rw [← h.len]; exact hi
  obtain ⟨ad, e2, -⟩ := hC.2.2 (by omega)
  have h256 := h.at_ hg
  refine ⟨ad, some ⟨gs[i], 0, none⟩, 256, e2, by rw [h256]; exact Nat.le_refl _, fun W' hk => ?_⟩
  have h' := h.kept hk hn
  have hb := h'.blk i gs[i] (List.getElem?_eq_getElem hg)
  refine ⟨C_blk hb (by omega), ?_⟩
  have hr := h'.row
  rw [e, e2] at hr
  obtain ⟨-, -, hH'⟩ := Kd.R_reads' hr
  obtain ⟨ad', e3, hcell⟩ := hH'.2.2 (by omega)
  injection e3 with e3
  subst e3
  obtain ⟨cs, hl, hk2, hu⟩ := hcell i gs[i] (List.getElem?_eq_getElem hg)
  have hk' : cs = [hdr gs[i]] := hk2
  have := hu 0 (hdr gs[i]) (by rw [hk']; rfl)
  rw [show i * HK.sz + 0 = i from Nat.mul_one i] at this
  rw [h256]
  exact this
end
end Go.Proofs.YtgmdgkanfhoahaaDoor.Hdr
namespace Go.Proofs.YtgmdgkanfhoahaaDoor.Above
open Go.RowKit Go.Proofs.YtgmdgkanfhoahaaDoor.ShaPure Go.Proofs.YtgmdgkanfhoahaaDoor.ShaBlk Go.Proofs.YtgmdgkanfhoahaaDoor.ShaWrite Go.Proofs.YtgmdgkanfhoahaaDoor.ShaSum Go.Proofs.YtgmdgkanfhoahaaDoor.ShaEnd Go.Proofs.YtgmdgkanfhoahaaDoor.ShaOf Go.Proofs.YtgmdgkanfhoahaaDoor.BytesW Go.Proofs.YtgmdgkanfhoahaaDoor.Put Go.Proofs.YtgmdgkanfhoahaaDoor.LogW Go.Proofs.YtgmdgkanfhoahaaDoor.Dig Go.Proofs.YtgmdgkanfhoahaaDoor.Hdr Go.Proofs.YtgmdgkanfhoahaaDoorW.PrintWords Go.Proofs.YtgmdgkanfhoahaaDoorW.PrintLast Go.Proofs.YtgmdgkanfhoahaaDoorW.PrintMore
set_option linter.unusedVariables false
set_option linter.unusedSimpArgs false

def splice (x : List Int) (o : Nat) (d : List Int) : List Int := x.take o ++ d ++ x.drop (o + 32)
/-- Room for one more node where it begins one. -/
def room (o : List (List Int)) (i : Nat) : List (List Int) := if i % 8 = 0 then o ++ [List.replicate 256 0] else o
def put (o : List (List Int)) (i : Nat) (d : List Int) : List (List Int) := o.set (i / 8) (splice (o.getD (i / 8) []) (32 * (i % 8)) d)
/-- The nodes behind the first i blocks. -/
def aft (n : Int) (bs : List (List Int)) : Nat → List (List Int)
  | 0 => []
  | i + 1 => put (room (aft n bs i) i) i (dig (n + i) (bs.getD i []))
/-- What is noted. -/
def prs (n : Int) (bs : List (List Int)) : Nat → List (List Int × List Int)
  | 0 => []
  | i + 1 => prs n bs i ++ [(input (n + i) (bs.getD i []), dig (n + i) (bs.getD i []))]
theorem prs_length (n : Int) (bs : List (List Int)) : ∀ i, (prs n bs i).length = i
  | 0 => rfl
  | i + 1 => by unfold prs; rw [List.length_append, prs_length n bs i]; rfl
theorem splice_length {x d : List Int} {o : Nat} (hx : x.length = 256) (hd : d.length = 32) (ho : o ≤ 224) : (splice x o d).length = 256 := by
  unfold splice
  rw [List.length_append, List.length_append, List.length_take, List.length_drop, hx, hd]
  omega
theorem put_length (o : List (List Int)) (i : Nat) (d : List Int) : (put o i d).length = o.length := by unfold put; rw [List.length_set]
theorem room_length (o : List (List Int)) (i : Nat) : (room o i).length = o.length + (if i % 8 = 0 then 1 else 0) := by
  unfold room
  split
  · rw [List.length_append]; rfl
  · rfl
theorem aft_length (n : Int) (bs : List (List Int)) : ∀ i, (aft n bs i).length = (i + 7) / 8
  | 0 => rfl
  | i + 1 => by
    unfold aft
    rw [put_length, room_length, aft_length n bs i]
    split <;> omega
theorem nums_splice (x D : List Int) (o : Nat) (hD : D.length = 32) : ((nums .u8 x).toArray.toList.take o ++ nums .u8 D ++ (nums .u8 x).toArray.toList.drop (o + (nums .u8 D).length)).toArray = (nums .u8 (splice x o D)).toArray := by
  have hl : (nums .u8 D).length = 32 := by rw [nums, List.length_map, hD]
  rw [hl]
  unfold splice nums
  simp [List.map_take, List.map_drop]
theorem run_make256 (W : World) : (Instr.makeSlice 22 (.int .i64 256) (.int .i64 256)).run Tryd.prog W = .ok (.slice (some ⟨W.heap.size, 0, none⟩) 256 256) (W.alloc (.cells (nums .u8 (List.replicate 256 0)).toArray 5 (0, 0))) := by
  obtain ⟨i0, hi0, hzz⟩ := Option.map_eq_some_iff.1 Tryd.infoB
  simp only [Prod.mk.injEq] at hzz
  have h := run_make (P := Tryd.prog) W 22 5 i0 (.int .u8 0) Tryd.underlying22 hi0 hzz.1 .i64 .i64 256 256 (by omega) (by omega) (by rw [hzz.2.2]; omega) (by omega)
  rw [hzz.2.1] at h
  have hm : madeCells (Value.int .u8 0).cells (Int.toNat 256 * 1) = (nums .u8 (List.replicate 256 0)).toArray := by
    apply Array.ext'
    show (madeCells #[Value.int .u8 0] 256).toList = _
    rw [toList_madeCells_one]
    exact List.map_replicate.symm
  rw [hm] at h
  exact h
theorem Tryd.infoHB : (Tryd.prog.info? 22).map (fun i => (i.zero, i.size, i.bytes)) = some (some (.slice none 0 0), 1, 24) := by kernel_rfl
theorem Tryd.infoB1 : (Tryd.prog.info? 5).map (·.size) = some 1 := by kernel_rfl

theorem make256_event {ops : Array Oper} {rest : List Oper} {o : Oper} {a : Act} {Q : Exit → Act → World → Prop} {W : World} (hgd : o.guard = none) {N : Tmp} (hd : o.dst = some N) (ho : o.op = .makeSlice 22 (.const (.int .i64 256)) (.const (.int .i64 256)))
    (h : ∀ g, g = W.heap.size → ∀ w1, w1.heap[g]? = some (.cells (nums .u8 (List.replicate 256 0)).toArray 5 (0, 0)) → Below W.heap.size W w1 → wpList Tryd.prog ops Q rest (a.put o.dst (.slice (some ⟨g, 0, none⟩) 256 256)) w1) : wpList Tryd.prog ops Q (o :: rest) a W := by
  refine Kd.event_run (w1 := W.alloc (.cells (nums .u8 (List.replicate 256 0)).toArray 5 (0, 0))) (v := .slice (some ⟨W.heap.size, 0, none⟩) 256 256) hgd ?_ (h _ rfl _ (blk_new W _) (below_alloc (Below.refl _ _) _))
  unfold execOp
  simp only [ho, Act.eval, Sem.run_bind, run_make256, Result.andThen_ok, Sem.run_pure]

set_option maxHeartbeats 8000000 in
set_option maxRecDepth 100000 in
theorem above_calls (L : Option Nat) (S : Nat → Prop) (ps : List (List Int × List Int)) (n : Int) (A : Option Addr) (c : Nat) (bs : List (List Int)) (w : World) (hL : Lg w L S ps) (hT : Tab w)
    (hC : RD w S A bs) (hby : ∀ b ∈ bs, Bytes b) (hl : ∀ b ∈ bs, b.length ≤ 1000000) (hbs : bs.length ≤ 1000) (hp : ps.length ≤ 100000000) (hn0 : 0 ≤ n) (hn1 : n ≤ 1000000) :
    Calls Tryd.prog 19 #[ptr L, .int .i64 n, .slice A bs.length c] w fun e w' => ∃ RA rc gs S', e = .returned (.slice RA (gs : List Nat).length rc) ∧ HRows w' (.slice RA gs.length rc) gs (aft n bs bs.length) ∧ Lg w' L S' (ps ++ prs n bs bs.length) ∧ (∀ k, S' k → S k ∨ w.heap.size ≤ k) ∧ Out w w' S ∧ ∀ k, has (.slice RA gs.length rc) gs k → w.heap.size ≤ k ∧ ¬ S' k := by
  have HL := Aside0.mk hL
  have HT := Aside0.mk hT
  have HC := Aside0.mk hC
  have HBY := Aside0.mk hby
  have HLN := Aside0.mk hl
  have HPL := Aside0.mk hp
  have HBS := Aside0.mk hbs
  have HST := Aside0.mk hL.tab
  clear hL hT hC hby hl hp
  go_enter Tryd.func19, Tryd.ntmps19
  go_wp2_with fail
  go_loopw [7, 13] (fun o i wr => ∃ (t : Int) (RA : Option Addr) (rc : Nat) (gs : List Nat) (S1 : Nat → Prop), o = .slice RA gs.length rc ∧ i = .int .i64 t ∧ 0 ≤ t ∧ t ≤ bs.length ∧ Aside0 (HRows wr (.slice RA gs.length rc) gs (aft n bs t.toNat)) ∧ Aside0 (Lg wr L S1 (ps ++ prs n bs t.toNat)) ∧ Aside0 (∀ k, S1 k → S k ∨ w.heap.size ≤ k) ∧ Aside0 (Out w wr S) ∧ Aside0 (∀ k, has (.slice RA gs.length rc) gs k → w.heap.size ≤ k ∧ ¬ S1 k)) (fun _ i _ => bs.length - (intOf i).toNat)
  case atStart => exact ⟨0, none, 0, [], S, rfl, rfl, by omega, by omega, ⟨HRows.nil w⟩, ⟨by simpa [prs] using HL.out⟩, ⟨fun k hk => .inl hk⟩, ⟨Out.refl w S⟩, ⟨fun k hk => by simp [has, Value.ownBlock] at hk⟩⟩
  case round =>
    obtain ⟨t, RA, rc, gs, S1, rfl, rfl, t0, tn, HR, HLr, HS1, HO, HN⟩ := hrel
    by_cases ht : t < bs.length
    · obtain ⟨ad, A1, c1, rfl, hc1, hCW⟩ := HC.out.2 t.toNat (by omega)
      have hmx := HC.out.1
      have hcell := (hCW wr HO.out.kept).2
      have hw : IntKind.i64.wrap (t + 1) = t + 1 := IntWalk.i64_in _ (by omega)
      have hw2 : IntKind.i64.wrap (n + t) = n + t := IntWalk.i64_in _ (by omega)
      have HPB := Aside0.mk (getD_bytes HBY.out t.toNat)
      have HPN : Aside0 ((bs.getD t.toNat []).length ≤ 1000000) := ⟨by
        rw [List.getD_eq_getElem?_getD, List.getElem?_eq_getElem (by omega)]
        exact HLN.out _ (List.getElem_mem (by omega))⟩
      have HAF : Aside0 (aft n bs (t.toNat + 1) = put (room (aft n bs t.toNat) t.toNat) t.toNat (dig (n + t) (bs.getD t.toNat []))) := ⟨by rw [aft, show ((t.toNat : Nat) : Int) = t by omega]⟩
      have HPR : Aside0 (ps ++ prs n bs (t.toNat + 1) = ps ++ prs n bs t.toNat ++ [(input (n + t) (bs.getD t.toNat []), dig (n + t) (bs.getD t.toNat []))]) := ⟨by rw [prs, show ((t.toNat : Nat) : Int) = t by omega, List.append_assoc]⟩
      have HXL := Aside0.mk (aft_length n bs t.toNat)
      have HPQ := Aside0.mk (prs_length n bs t.toNat)
      obtain ⟨p, hp⟩ : ∃ p, bs.getD t.toNat [] = p := ⟨_, rfl⟩
      obtain ⟨xs, hxs⟩ : ∃ xs, aft n bs t.toNat = xs := ⟨_, rfl⟩
      rw [hp] at hcell hCW hc1 HPB HPN HAF HPR
      rw [hxs] at HAF HXL HR
      have HCW := Aside0.mk hCW
      have HCC := Aside0.mk hc1
      have HSB : Aside0 (∀ k, S1 k → k < wr.heap.size) := ⟨HLr.out.lt⟩
      have HZN : Aside0 (∀ k, has (.slice RA gs.length rc) gs k → k < wr.heap.size) := ⟨fun k hk => HR.out.lt hk⟩
      clear hCW hc1 hp hxs HC HL HBY HLN
      by_cases h8 : t % 8 = 0
      · have hb8 : (t % 8 == 0) = true := by rw [h8]; rfl
        go_wp2_with (first
          | ((with_reducible refine gate_dst (N := 22) rfl ?_)
             refine make256_event rfl (N := 22) rfl rfl ?_
             intro zb hzb w2 hz2 hb2
             have HZ2 := Aside0.mk hz2
             have HZB := Aside0.mk hzb
             clear hzb
             replace HR := Aside0.mk (HR.out.below hb2)
             replace HLr := Aside0.mk (HLr.out.below hb2)
             have HO2 := Aside0.mk (HO.out.below hb2)
             have HZL : Aside0 (zb < w2.heap.size) := ⟨blk_lt hz2⟩
             clear hz2 hb2)
          | ((with_reducible refine gate_dst (N := 24) rfl ?_)
             refine Kd.R_append HK (w0 := w2) (W := w2) 0 rfl (.tmp 21) (.tmp 23) 26 22 (.slice none 0 0) 24 rfl Tryd.underlying26 Tryd.infoHB rfl (by decide) (by decide) _ gs zb [hdr zb] (fun _ => True) (fun _ => False) rfl rfl rfl (fun _ h => h.elim) (fun _ _ => trivial) HR.out.row (Below.refl _ _) (Nat.zero_le _) (by have := HR.out.len; have := HXL.out; omega) ?_
             intro v3 w3 ho3 hb3 hg3 hat3
             obtain ⟨gs3, hgs3⟩ : ∃ g, gs ++ [zb] = g := ⟨_, rfl⟩
             have hq3 : t.toNat / 8 < (gs ++ [zb]).length := by rw [List.length_append, ← HR.out.len, HXL.out]; show _ < _ + 1; omega
             have ho3' := ho3
             rw [hgs3] at ho3' hq3
             obtain ⟨RB, rb, e3⟩ := Kd.R_slice ho3'
             subst e3
             have HQ3 := Aside0.mk hq3
             have HNZ : Aside0 (zb ∉ gs) := ⟨fun hz => by have := HZN.out zb (.inr hz); have := HZB.out; omega⟩
             have hr3 := (HR.out.snoc ho3 hg3 HZ2.out (by rw [List.length_replicate]) HNZ.out)
             rw [hgs3] at hr3
             have HR3 := Aside0.mk hr3
             have HN3 : Aside0 (∀ k, has (.slice RB gs3.length rb) gs3 k → w.heap.size ≤ k ∧ ¬ S1 k) := ⟨fun k hk => by
               have hwz : w.heap.size ≤ zb := by rw [HZB.out]; exact HO.out.size
               have hnew : ∀ k, w2.heap.size ≤ k → w.heap.size ≤ k ∧ ¬ S1 k := fun k h => ⟨by have := HZL.out; omega, fun hs => by have := HLr.out.lt k hs; omega⟩
               rcases hk with hk | hk
               · rcases hat3 with e | ⟨b, e, hb⟩
                 · exact HN.out k (.inl (e.symm.trans hk))
                 · rw [e] at hk
                   injection hk with hk
                   subst hk
                   exact hnew _ hb
               · rw [← hgs3] at hk
                 rcases List.mem_append.1 hk with hk | hk
                 · exact HN.out k (.inr hk)
                 · rw [List.mem_singleton.1 hk]
                   exact ⟨hwz, fun hs => by have := HSB.out zb hs; have := HZB.out; omega⟩⟩
             have HL3 := Aside0.mk (HLr.out.kept (Kept.of_grown (S := fun k => (Value.slice RA gs.length rc).ownBlock = some k) hg3 (Kept.refl w2 _) (fun k hk => .inl hk)) (fun k hs hk => (HN.out k (.inl hk)).2 hs))
             have HO3 : Aside0 (Out w w3 S) := ⟨HO2.out.trans (S1 := fun k => (Value.slice RA gs.length rc).ownBlock = some k) ⟨hb3.os, hb3.tape, hb3.output, Kept.of_grown hg3 (Kept.refl w2 _) (fun k hk => .inl hk)⟩ (fun k hk => .inr (HN.out k (.inl hk)).1)⟩
             clear hr3 hq3 ho3' hgs3 ho3 hb3 hg3 hat3 HR HLr HZ2 HO2 HZL HNZ HN))
        have HRM : Aside0 (xs ++ [List.replicate 256 0] = room xs t.toNat) := ⟨by unfold room; rw [if_pos (by omega)]⟩
        rw [HRM.out] at HR3
        clear HRM h8 hb8 hcell HZB
        refine (digest_calls L S1 (ps ++ prs n bs t.toNat) (n + t) A1 c1 p w3 HL3.out (Tab.kept HT.out HO3.out.kept HST.out) (HCW.out w3 HO3.out.kept).1 HPB.out (by have := HPN.out; omega) (by rw [List.length_append, HPQ.out]; have := HPL.out; have := HBS.out; omega)).mono ?_
        rw [← HPR.out]
        rintro e w4 ⟨rfl, S2, hL4, hS4, hO4⟩
        have HDL := Aside0.mk (dig_length (n + t) p)
        obtain ⟨D, hD⟩ : ∃ D, dig (n + t) p = D := ⟨_, rfl⟩
        rw [hD] at HAF HDL ⊢
        clear hD
        have HL4 := Aside0.mk hL4
        have HS4 : Aside0 (∀ k, S2 k → S k ∨ w.heap.size ≤ k) := ⟨fun k hk => (hS4 k hk).elim (HS1.out k) (fun h => .inr (Nat.le_trans HO3.out.size h))⟩
        have HO4 := Aside0.mk (HO3.out.trans hO4 HS1.out)
        have HR4 := Aside0.mk (HR3.out.kept hO4.kept (fun k hk => (HN3.out k hk).2))
        have HN4 : Aside0 (∀ k, has (.slice RB gs3.length rb) gs3 k → w.heap.size ≤ k ∧ ¬ S2 k) := ⟨fun k hk => ⟨(HN3.out k hk).1, fun hs => (hS4 k hs).elim (HN3.out k hk).2 (fun h => by have := HR3.out.lt hk; omega)⟩⟩
        clear hL4 hS4 hO4 HR3 HL3 HO3 HN3 HS1 HSB HZN HPQ HPR HCW HPB HPN HCC
        have HI : Aside0 ((Tryd.prog.info? 29).map (·.size) = some (nums .u8 D).toArray.size) := ⟨by rw [Tryd.infoD, List.size_toArray, nums, List.length_map, HDL.out]⟩
        have HO32 : Aside0 ((nums .u8 D).toArray.all (·.oneCell') = true) := ⟨by simp [nums, Value.oneCell']⟩
        have HZ : Aside0 ((nums .u8 (List.replicate 32 0)).toArray.size = (nums .u8 D).toArray.size) := ⟨by rw [List.size_toArray, List.size_toArray, nums, nums, List.length_map, List.length_map, HDL.out, List.length_replicate]⟩
        have B4 := Aside0.mk HO4.out.size
        go_wp2_with ((refine wpList_store_row rfl 29 (.tmp 10) (.tmp 30) rfl w4.heap.size (nums .u8 D).toArray rfl rfl 29 (nums .u8 (List.replicate 32 0)).toArray (blk_new _ _) HI.out HZ.out HO32.out ?_)
                     have hb5 : Below w4.heap.size w4 ((w4.alloc (.cells (nums .u8 (List.replicate 32 0)).toArray 29 (0, 0))).setRow w4.heap.size (nums .u8 D).toArray) := (below_alloc (Below.refl _ _) _).trans ⟨rfl, rfl, rfl, by rw [setRow_size]; exact Nat.le_refl _, fun k hk => setRow_other _ _ _ _ (by omega)⟩
                     have HX5 := Aside0.mk (setRow_heap _ w4.heap.size _ (nums .u8 D).toArray _ _ (blk_new w4 (.cells (nums .u8 (List.replicate 32 0)).toArray 29 (0, 0))))
                     have HR5 := Aside0.mk (HR4.out.below hb5)
                     have HL5 := Aside0.mk (HL4.out.below hb5)
                     have HO5 := Aside0.mk (HO4.out.below hb5)
                     clear hb5 HR4 HL4 HO4
                     obtain ⟨bx, hbx⟩ : ∃ bx, w4.heap.size = bx := ⟨_, rfl⟩
                     rw [hbx] at HX5 HR5 HL5 HO5 B4 ⊢
                     clear hbx
                     change wpList _ _ _ _ _ ((w4.alloc (.cells (nums .u8 (List.replicate 32 0)).toArray 29 (0, 0))).setRow bx (nums .u8 D).toArray)
                     generalize (w4.alloc (.cells (nums .u8 (List.replicate 32 0)).toArray 29 (0, 0))).setRow bx (nums .u8 D).toArray = w5 at HX5 HR5 HL5 HO5 ⊢)
        obtain ⟨gq, hge⟩ : ∃ gq, gs3[t.toNat / 8]? = some gq := ⟨_, List.getElem?_eq_getElem HQ3.out⟩
        have HXR := Aside0.mk (HR5.out.blk (t.toNat / 8) gq hge)
        have HGM : Aside0 (has (.slice RB gs3.length rb) gs3 gq) := ⟨.inr (List.mem_of_getElem? hge)⟩
        have HGE := Aside0.mk hge
        have HXQ := Aside0.mk (HR5.out.at_ HQ3.out)
        obtain ⟨og, eo, hcel⟩ := rows_cell HR5.out hge
        subst eo
        obtain ⟨xq, hxq⟩ : ∃ xq, (room xs t.toNat).getD (t.toNat / 8) [] = xq := ⟨_, rfl⟩
        rw [hxq] at HXR HXQ
        have HXE := Aside0.mk hxq
        have q8 : (t / 8).toNat = t.toNat / 8 := by omega
        have hx0 : w5.cell? ⟨og, (t / 8).toNat, none⟩ = some (.slice (some ⟨gq, 0, none⟩) 256 256) := by rw [q8]; exact hcel w5 HR5.out
        have qd : IntKind.i64.wrap (t.tdiv 8) = t / 8 := by rw [Int.tdiv_eq_ediv_of_nonneg t0]; exact IntWalk.i64_in _ (by omega)
        have qm : t.tmod 8 = t % 8 := Int.tmod_eq_emod_of_nonneg t0
        have qw : IntKind.i64.wrap (t % 8) = t % 8 := IntWalk.i64_in _ (by omega)
        have q0 : 0 ≤ t / 8 := by omega
        have q1 : t / 8 < gs3.length := by have := HQ3.out; omega
        have q2 : IntKind.i64.wrap (32 * (t % 8)) = 32 * (t % 8) := IntWalk.i64_in _ (by omega)
        have q3 : 0 ≤ 32 * (t % 8) := by omega
        have q4 : 32 * (t % 8) ≤ 256 := by omega
        have q5 : (256 = (32 * (t % 8)).toNat) = False := eq_false (by omega)
        clear hge hxq hcel q8
        refine wp_region_still_tail 10 (by as_aux_lemma => kernel_rfl) (by as_aux_lemma => kernel_rfl) ?_
        simp only [List.take_succ_cons, List.take_zero, List.drop_succ_cons, List.drop_zero]
        repeat still_step
        refine wpStill_nil ?_
        change wpList _ _ _ _ _ w5.drew
        have HX6 := Aside0.mk (blk_drew HX5.out)
        have HXR6 := Aside0.mk (blk_drew HXR.out)
        have HR6 := Aside0.mk (HR5.out.below (below_drew1 (Below.refl w5.heap.size w5)))
        have HL6 := Aside0.mk (HL5.out.below (below_drew1 (Below.refl w5.heap.size w5)))
        have HO6 := Aside0.mk (HO5.out.below (below_drew1 (Below.refl w5.heap.size w5)))
        clear HX5 HXR HR5 HL5 HO5 hx0 qd qm q2
        generalize w5.drew = w6 at HX6 HXR6 HR6 HL6 HO6 ⊢
        have hcp := run_copy_row (P := Tryd.prog) w6 22 22 3 5 gq (32 * (t % 8)).toNat (256 - (32 * (t % 8)).toNat) (256 - (32 * (t % 8)).toNat) ⟨bx, 0, none⟩ 32 32 (nums .u8 xq).toArray 5 (nums .u8 D) Tryd.underlying22 Tryd.infoB1 HXR6.out (by rw [nums, List.length_map, HDL.out]; show 32 = min 32 _; omega) (fun j v hv => by rw [ShaWrite.add_at, blk_cell HX6.out j]; simpa using hv) (by rw [nums, nums, List.length_map, List.size_toArray, List.length_map, HDL.out, HXQ.out]; omega) (by simp [nums, Value.oneCell'])
        rw [nums_splice xq D _ HDL.out, show (nums .u8 D).length = 32 by rw [nums, List.length_map, HDL.out]] at hcp
        have HY : Aside0 ((splice xq (32 * (t % 8)).toNat D).length = 256) := ⟨splice_length HXQ.out HDL.out (by omega)⟩
        have HE : Aside0 ((room xs t.toNat).set (t.toNat / 8) (splice xq (32 * (t % 8)).toNat D) = aft n bs (t.toNat + 1)) := ⟨by rw [HAF.out, put, HXE.out, show (32 * (t % 8)).toNat = 32 * (t.toNat % 8) by omega]⟩
        obtain ⟨Y, hY⟩ : ∃ Y, splice xq (32 * (t % 8)).toNat D = Y := ⟨_, rfl⟩
        rw [hY] at hcp HY HE
        clear hY
        go_wp2_with fail
        refine ⟨⟨t + 1, some ⟨og, 0, none⟩, rb, gs3, S2, rfl, rfl, by omega, by omega, ⟨?_⟩, ⟨?_⟩, HS4, ⟨?_⟩, HN4⟩, by simp [intOf]; omega⟩
        · rw [show (t + 1).toNat = t.toNat + 1 by omega, ← HE.out]
          exact HR6.out.put HGE.out HY.out
        · rw [show (t + 1).toNat = t.toNat + 1 by omega]
          exact HL6.out.kept (T := fun k => k = gq) ⟨by rw [setRow_size]; exact Nat.le_refl _, fun i _ hn => setRow_other _ _ _ _ hn⟩ (fun k hs hk => (HN4.out gq HGM.out).2 (hk ▸ hs))
        · exact HO6.out.setRow (.inr (HN4.out gq HGM.out).1) _
      · have hb8 : (t % 8 == 0) = false := beq_eq_false_iff_ne.mpr h8
        go_wp2_with fail
        have HRM : Aside0 (xs = room xs t.toNat) := ⟨by unfold room; rw [if_neg (by omega)]⟩
        have HQ3 : Aside0 (t.toNat / 8 < gs.length) := ⟨by rw [← HR.out.len, HXL.out]; omega⟩
        rw [HRM.out] at HR
        clear HRM h8 hb8 hcell
        refine (digest_calls L S1 (ps ++ prs n bs t.toNat) (n + t) A1 c1 p wr HLr.out (Tab.kept HT.out HO.out.kept HST.out) (HCW.out wr HO.out.kept).1 HPB.out (by have := HPN.out; omega) (by rw [List.length_append, HPQ.out]; have := HPL.out; have := HBS.out; omega)).mono ?_
        rw [← HPR.out]
        rintro e w4 ⟨rfl, S2, hL4, hS4, hO4⟩
        have HDL := Aside0.mk (dig_length (n + t) p)
        obtain ⟨D, hD⟩ : ∃ D, dig (n + t) p = D := ⟨_, rfl⟩
        rw [hD] at HAF HDL ⊢
        clear hD
        have HL4 := Aside0.mk hL4
        have HS4 : Aside0 (∀ k, S2 k → S k ∨ w.heap.size ≤ k) := ⟨fun k hk => (hS4 k hk).elim (HS1.out k) (fun h => .inr (Nat.le_trans HO.out.size h))⟩
        have HO4 := Aside0.mk (HO.out.trans hO4 HS1.out)
        have HR4 := Aside0.mk (HR.out.kept hO4.kept (fun k hk => (HN.out k hk).2))
        have HN4 : Aside0 (∀ k, has (.slice RA gs.length rc) gs k → w.heap.size ≤ k ∧ ¬ S2 k) := ⟨fun k hk => ⟨(HN.out k hk).1, fun hs => (hS4 k hs).elim (HN.out k hk).2 (fun h => by have := HR.out.lt hk; omega)⟩⟩
        clear hL4 hS4 hO4 HR HLr HO HN HS1 HSB HZN HPQ HPR HCW HPB HPN HCC
        have HI : Aside0 ((Tryd.prog.info? 29).map (·.size) = some (nums .u8 D).toArray.size) := ⟨by rw [Tryd.infoD, List.size_toArray, nums, List.length_map, HDL.out]⟩
        have HO2 : Aside0 ((nums .u8 D).toArray.all (·.oneCell') = true) := ⟨by simp [nums, Value.oneCell']⟩
        have HZ : Aside0 ((nums .u8 (List.replicate 32 0)).toArray.size = (nums .u8 D).toArray.size) := ⟨by rw [List.size_toArray, List.size_toArray, nums, nums, List.length_map, List.length_map, HDL.out, List.length_replicate]⟩
        have B4 := Aside0.mk HO4.out.size
        go_wp2_with ((refine wpList_store_row rfl 29 (.tmp 10) (.tmp 30) rfl w4.heap.size (nums .u8 D).toArray rfl rfl 29 (nums .u8 (List.replicate 32 0)).toArray (blk_new _ _) HI.out HZ.out HO2.out ?_)
                     have hb5 : Below w4.heap.size w4 ((w4.alloc (.cells (nums .u8 (List.replicate 32 0)).toArray 29 (0, 0))).setRow w4.heap.size (nums .u8 D).toArray) := (below_alloc (Below.refl _ _) _).trans ⟨rfl, rfl, rfl, by rw [setRow_size]; exact Nat.le_refl _, fun k hk => setRow_other _ _ _ _ (by omega)⟩
                     have HX5 := Aside0.mk (setRow_heap _ w4.heap.size _ (nums .u8 D).toArray _ _ (blk_new w4 (.cells (nums .u8 (List.replicate 32 0)).toArray 29 (0, 0))))
                     have HR5 := Aside0.mk (HR4.out.below hb5)
                     have HL5 := Aside0.mk (HL4.out.below hb5)
                     have HO5 := Aside0.mk (HO4.out.below hb5)
                     clear hb5 HR4 HL4 HO4
                     obtain ⟨bx, hbx⟩ : ∃ bx, w4.heap.size = bx := ⟨_, rfl⟩
                     rw [hbx] at HX5 HR5 HL5 HO5 B4 ⊢
                     clear hbx
                     change wpList _ _ _ _ _ ((w4.alloc (.cells (nums .u8 (List.replicate 32 0)).toArray 29 (0, 0))).setRow bx (nums .u8 D).toArray)
                     generalize (w4.alloc (.cells (nums .u8 (List.replicate 32 0)).toArray 29 (0, 0))).setRow bx (nums .u8 D).toArray = w5 at HX5 HR5 HL5 HO5 ⊢)
        obtain ⟨gq, hge⟩ : ∃ gq, gs[t.toNat / 8]? = some gq := ⟨_, List.getElem?_eq_getElem HQ3.out⟩
        have HXR := Aside0.mk (HR5.out.blk (t.toNat / 8) gq hge)
        have HGM : Aside0 (has (.slice RA gs.length rc) gs gq) := ⟨.inr (List.mem_of_getElem? hge)⟩
        have HGE := Aside0.mk hge
        have HXQ := Aside0.mk (HR5.out.at_ HQ3.out)
        obtain ⟨og, eo, hcel⟩ := rows_cell HR5.out hge
        subst eo
        obtain ⟨xq, hxq⟩ : ∃ xq, (room xs t.toNat).getD (t.toNat / 8) [] = xq := ⟨_, rfl⟩
        rw [hxq] at HXR HXQ
        have HXE := Aside0.mk hxq
        have q8 : (t / 8).toNat = t.toNat / 8 := by omega
        have hx0 : w5.cell? ⟨og, (t / 8).toNat, none⟩ = some (.slice (some ⟨gq, 0, none⟩) 256 256) := by rw [q8]; exact hcel w5 HR5.out
        have qd : IntKind.i64.wrap (t.tdiv 8) = t / 8 := by rw [Int.tdiv_eq_ediv_of_nonneg t0]; exact IntWalk.i64_in _ (by omega)
        have qm : t.tmod 8 = t % 8 := Int.tmod_eq_emod_of_nonneg t0
        have qw : IntKind.i64.wrap (t % 8) = t % 8 := IntWalk.i64_in _ (by omega)
        have q0 : 0 ≤ t / 8 := by omega
        have q1 : t / 8 < gs.length := by have := HQ3.out; omega
        have q2 : IntKind.i64.wrap (32 * (t % 8)) = 32 * (t % 8) := IntWalk.i64_in _ (by omega)
        have q3 : 0 ≤ 32 * (t % 8) := by omega
        have q4 : 32 * (t % 8) ≤ 256 := by omega
        have q5 : (256 = (32 * (t % 8)).toNat) = False := eq_false (by omega)
        clear hge hxq hcel q8
        refine wp_region_still_tail 10 (by as_aux_lemma => kernel_rfl) (by as_aux_lemma => kernel_rfl) ?_
        simp only [List.take_succ_cons, List.take_zero, List.drop_succ_cons, List.drop_zero]
        repeat still_step
        refine wpStill_nil ?_
        change wpList _ _ _ _ _ w5.drew
        have HX6 := Aside0.mk (blk_drew HX5.out)
        have HXR6 := Aside0.mk (blk_drew HXR.out)
        have HR6 := Aside0.mk (HR5.out.below (below_drew1 (Below.refl w5.heap.size w5)))
        have HL6 := Aside0.mk (HL5.out.below (below_drew1 (Below.refl w5.heap.size w5)))
        have HO6 := Aside0.mk (HO5.out.below (below_drew1 (Below.refl w5.heap.size w5)))
        clear HX5 HXR HR5 HL5 HO5 hx0 qd qm q2
        generalize w5.drew = w6 at HX6 HXR6 HR6 HL6 HO6 ⊢
        have hcp := run_copy_row (P := Tryd.prog) w6 22 22 3 5 gq (32 * (t % 8)).toNat (256 - (32 * (t % 8)).toNat) (256 - (32 * (t % 8)).toNat) ⟨bx, 0, none⟩ 32 32 (nums .u8 xq).toArray 5 (nums .u8 D) Tryd.underlying22 Tryd.infoB1 HXR6.out (by rw [nums, List.length_map, HDL.out]; show 32 = min 32 _; omega) (fun j v hv => by rw [ShaWrite.add_at, blk_cell HX6.out j]; simpa using hv) (by rw [nums, nums, List.length_map, List.size_toArray, List.length_map, HDL.out, HXQ.out]; omega) (by simp [nums, Value.oneCell'])
        rw [nums_splice xq D _ HDL.out, show (nums .u8 D).length = 32 by rw [nums, List.length_map, HDL.out]] at hcp
        have HY : Aside0 ((splice xq (32 * (t % 8)).toNat D).length = 256) := ⟨splice_length HXQ.out HDL.out (by omega)⟩
        have HE : Aside0 ((room xs t.toNat).set (t.toNat / 8) (splice xq (32 * (t % 8)).toNat D) = aft n bs (t.toNat + 1)) := ⟨by rw [HAF.out, put, HXE.out, show (32 * (t % 8)).toNat = 32 * (t.toNat % 8) by omega]⟩
        obtain ⟨Y, hY⟩ : ∃ Y, splice xq (32 * (t % 8)).toNat D = Y := ⟨_, rfl⟩
        rw [hY] at hcp HY HE
        clear hY
        go_wp2_with fail
        refine ⟨⟨t + 1, some ⟨og, 0, none⟩, rc, gs, S2, rfl, rfl, by omega, by omega, ⟨?_⟩, ⟨?_⟩, HS4, ⟨?_⟩, HN4⟩, by simp [intOf]; omega⟩
        · rw [show (t + 1).toNat = t.toNat + 1 by omega, ← HE.out]
          exact HR6.out.put HGE.out HY.out
        · rw [show (t + 1).toNat = t.toNat + 1 by omega]
          exact HL6.out.kept (T := fun k => k = gq) ⟨by rw [setRow_size]; exact Nat.le_refl _, fun i _ hn => setRow_other _ _ _ _ hn⟩ (fun k hs hk => (HN4.out gq HGM.out).2 (hk ▸ hs))
        · exact HO6.out.setRow (.inr (HN4.out gq HGM.out).1) _
    · obtain rfl : t = bs.length := by omega
      rw [show ((bs.length : Int)).toNat = bs.length from rfl] at HR HLr
      go_wp2_with fail
      go_ret
      exact ⟨RA, rc, gs, rfl, HR.out, S1, HLr.out, HS1.out, HO.out, HN.out⟩
end Go.Proofs.YtgmdgkanfhoahaaDoor.Above
namespace Go.Proofs.YtgmdgkanfhoahaaDoor.Build
open Go.RowKit Go.Proofs.YtgmdgkanfhoahaaDoor.ShaPure Go.Proofs.YtgmdgkanfhoahaaDoor.ShaBlk Go.Proofs.YtgmdgkanfhoahaaDoor.ShaWrite Go.Proofs.YtgmdgkanfhoahaaDoor.ShaSum Go.Proofs.YtgmdgkanfhoahaaDoor.ShaEnd Go.Proofs.YtgmdgkanfhoahaaDoor.ShaOf Go.Proofs.YtgmdgkanfhoahaaDoor.BytesW Go.Proofs.YtgmdgkanfhoahaaDoor.Put Go.Proofs.YtgmdgkanfhoahaaDoor.LogW Go.Proofs.YtgmdgkanfhoahaaDoor.Dig Go.Proofs.YtgmdgkanfhoahaaDoor.Hdr Go.Proofs.YtgmdgkanfhoahaaDoor.Above Go.Proofs.YtgmdgkanfhoahaaDoorW.PrintWords Go.Proofs.YtgmdgkanfhoahaaDoorW.PrintLast Go.Proofs.YtgmdgkanfhoahaaDoorW.PrintMore
set_option linter.unusedVariables false
set_option linter.unusedSimpArgs false

/-- Behind k levels: the nodes, where the next row begins, the row. -/
def upN (n : Int) (bs : List (List Int)) : Nat → List (List Int) × Int × List (List Int)
  | 0 => ([], n, bs)
  | k + 1 => ((upN n bs k).1 ++ aft (upN n bs k).2.1 (upN n bs k).2.2 (upN n bs k).2.2.length, (upN n bs k).2.1 + (upN n bs k).2.2.length, aft (upN n bs k).2.1 (upN n bs k).2.2 (upN n bs k).2.2.length)
def upPairs (n : Int) (bs : List (List Int)) : Nat → List (List Int × List Int)
  | 0 => []
  | k + 1 => upPairs n bs k ++ prs (upN n bs k).2.1 (upN n bs k).2.2 (upN n bs k).2.2.length
theorem upN_len (n : Int) (bs : List (List Int)) : ∀ k, (upN n bs k).2.2.length ≤ bs.length
  | 0 => Nat.le_refl _
  | k + 1 => by
    have := upN_len n bs k
    show (aft _ _ _).length ≤ _
    rw [aft_length]
    omega
theorem upN_at (n : Int) (bs : List (List Int)) : ∀ k, n ≤ (upN n bs k).2.1 ∧ (upN n bs k).2.1 ≤ n + bs.length * k
  | 0 => by simp [upN]
  | k + 1 => by
    have := upN_len n bs k
    have h := upN_at n bs k
    have e : (upN n bs (k + 1)).2.1 = (upN n bs k).2.1 + (upN n bs k).2.2.length := rfl
    rw [e, show (bs.length : Int) * ((k + 1 : Nat) : Int) = bs.length * k + bs.length by rw [Int.natCast_add, Int.mul_add]; simp]
    omega
theorem upPairs_len (n : Int) (bs : List (List Int)) : ∀ k, (upPairs n bs k).length ≤ bs.length * k
  | 0 => Nat.le_refl _
  | k + 1 => by
    have := upN_len n bs k
    have h := upPairs_len n bs k
    unfold upPairs
    rw [List.length_append, prs_length, Nat.mul_succ]
    omega
theorem upN_nodes (n : Int) (bs : List (List Int)) : ∀ k, (upN n bs k).1.length ≤ bs.length * k
  | 0 => Nat.le_refl _
  | k + 1 => by
    have := upN_len n bs k
    have h := upN_nodes n bs k
    show ((upN n bs k).1 ++ aft _ _ _).length ≤ _
    rw [List.length_append, aft_length, Nat.mul_succ]
    omega
theorem splice_bytes {x d : List Int} {o : Nat} (hx : Bytes x) (hd : Bytes d) : Bytes (splice x o d) := by
  intro y hy
  unfold splice at hy
  rcases List.mem_append.1 hy with h | h
  · rcases List.mem_append.1 h with h | h
    · exact hx y (List.mem_of_mem_take h)
    · exact hd y h
  · exact hx y (List.mem_of_mem_drop h)
theorem room_bytes {o : List (List Int)} {i : Nat} (h : ∀ x ∈ o, Bytes x) : ∀ x ∈ room o i, Bytes x := by
  intro x hx
  unfold room at hx
  split at hx
  · rcases List.mem_append.1 hx with h1 | h1
    · exact h x h1
    · rw [List.mem_singleton.1 h1]
      intro y hy
      rw [List.eq_of_mem_replicate hy]
      omega
  · exact h x hx
theorem aft_bytes (n : Int) (bs : List (List Int)) : ∀ i, ∀ x ∈ aft n bs i, Bytes x
  | 0, x, hx => by simp [aft] at hx
  | i + 1, x, hx => by
    unfold aft put at hx
    rcases List.mem_or_eq_of_mem_set hx with h | h
    · exact room_bytes (aft_bytes n bs i) x h
    · rw [h]
      exact splice_bytes (getD_bytes (room_bytes (aft_bytes n bs i)) _) (dig_bytes _ _)
theorem aft_full (n : Int) (bs : List (List Int)) : ∀ i, ∀ x ∈ aft n bs i, x.length = 256
  | 0, x, hx => by simp [aft] at hx
  | i + 1, x, hx => by
    unfold aft put at hx
    have hr : ∀ x ∈ room (aft n bs i) i, x.length = 256 := by
      intro x hx
      unfold room at hx
      split at hx
      · rcases List.mem_append.1 hx with h1 | h1
        · exact aft_full n bs i x h1
        · rw [List.mem_singleton.1 h1, List.length_replicate]
      · exact aft_full n bs i x hx
    rcases List.mem_or_eq_of_mem_set hx with h | h
    · exact hr x h
    · have hq : i / 8 < (room (aft n bs i) i).length := by
        rw [room_length, aft_length]
        split <;> omega
      rw [h]
      refine splice_length ?_ (dig_length _ _) (by omega)
      rw [List.getD_eq_getElem?_getD, List.getElem?_eq_getElem hq]
      exact hr _ (List.getElem_mem hq)
theorem upN_bytes (n : Int) (bs : List (List Int)) (h : ∀ b ∈ bs, Bytes b) : ∀ k, ∀ x ∈ (upN n bs k).2.2, Bytes x
  | 0 => h
  | k + 1 => aft_bytes _ _ _
theorem upN_full (n : Int) (bs : List (List Int)) (h : ∀ b ∈ bs, b.length = 256) : ∀ k, ∀ x ∈ (upN n bs k).2.2, x.length = 256
  | 0 => h
  | k + 1 => aft_full _ _ _
theorem results_tct {P : Program} {fn : Func} {p u v : Tmp} {ty : TypeId} (h : fn.results = #[.tmp u, .cell p ty, .tmp v]) (tmps : Array Value) (w : World) (g : Nat) (t : TypeId) (cs : Array Value) (fr : Nat × Nat) (d : TypeDesc)
    (hp : tmps.getD p undef = .pointer (some ⟨g, 0, none⟩)) (hg : w.heap[g]? = some (.cells cs t fr))
    (hu : P.underlying ty = some d) (hd : (match d with | .struct _ | .array _ _ => true | _ => false) = true) (hi : (P.info? ty).map (·.size) = some cs.size) :
    (results fn tmps).run P w = .ok (.tuple #[tmps.getD u undef, .agg cs, tmps.getD v undef]) w := by
  have hp' : tmps[p]?.getD undef = .pointer (some ⟨g, 0, none⟩) := by simpa using hp
  simp [results, h, hp', asAddr, run_loadVar_row w g t ty cs fr d hg hu hd hi]
end Go.Proofs.YtgmdgkanfhoahaaDoor.Build
