/- The contract of (*sha.Sum).block. -/
import Derived.Test.YtgmdgkanfhoahaaDoorShaPure
import Derived.Test.YtgmdgkanfhoahaaDoorWWords
import Derived.Test.YtgmdgkanfhoahaaDoorWLast
import Derived.Test.YtgmdgkanfhoahaaDoorWTab
import Derived.Test.YtgmdgkanfhoahaaDoorWMore
import Derived.Test.YtgmdgkanfhoahaaDoorWKept
import Derived.IntWalk
import Derived.StillTailTactics
import Derived.Deep.LoopGhost
import Derived.BigQuiet
namespace Go.Proofs.YtgmdgkanfhoahaaDoor.ShaBlk
open Go.RowKit Go.Proofs.YtgmdgkanfhoahaaDoor.ShaRot Go.Proofs.YtgmdgkanfhoahaaDoor.ShaPure Go.Proofs.YtgmdgkanfhoahaaDoorW.PrintWords Go.Proofs.YtgmdgkanfhoahaaDoorW.PrintLast Go.Proofs.YtgmdgkanfhoahaaDoorW.PrintMore
set_option linter.unusedVariables false
set_option linter.unusedSimpArgs false

theorem nums_cell {k : IntKind} {w : World} {g : Nat} {t : TypeId} {xs : List Int} (h : w.heap[g]? = some (.cells (nums k xs).toArray t (0, 0))) (i : Int) (h0 : 0 ≤ i) (h1 : i.toNat < xs.length) :
    w.cell? ⟨g, i.toNat, none⟩ = some (.int k (rd xs i)) := by
  rw [blk_cell h]
  unfold rd nums
  rw [List.getElem?_toArray, List.getElem?_map, List.getElem?_eq_getElem h1, List.getD_eq_getElem?_getD, List.getElem?_eq_getElem h1]
  rfl

theorem nums_set {k : IntKind} {w : World} {g : Nat} {t : TypeId} {xs : List Int} (h : w.heap[g]? = some (.cells (nums k xs).toArray t (0, 0))) (i : Nat) (x : Int) :
    (w.setCell ⟨g, i, none⟩ (.int k x)).heap[g]? = some (.cells (nums k (xs.set i x)).toArray t (0, 0)) :=
  blk_put h i _ (by simp [nums, List.map_set])
theorem rd_set {xs : List Int} {i : Nat} (x : Int) (hi : i < xs.length) (j : Nat) : rd (xs.set i x) j = if j = i then x else rd xs j := by
  unfold rd
  rw [List.getD_eq_getElem?_getD, List.getD_eq_getElem?_getD, List.getElem?_set]
  by_cases e : j = i
  · subst e
    rw [if_pos rfl, if_pos (by omega), if_pos (by omega)]
    rfl
  · rw [if_neg (by omega), if_neg e]
theorem SW_lo {b : List Int} {t : Nat} (h : t < 16) : SW b t = wd b t := by rw [SW, if_pos h]
theorem SW_hi {b : List Int} {t : Nat} (h : 16 ≤ t) : SW b t = add32 (add32 (add32 (SW b (t - 16)) (sg0 (SW b (t - 15)))) (SW b (t - 7))) (sg1 (SW b (t - 2))) := by
  rw [SW, if_neg (by omega)]
theorem wrap_add (a b : Int) : IntKind.u32.wrap (a + b) = add32 a b := by rw [IntKind.wrap_u32]; rfl
theorem cells_nums (v : V8) : v.cells.toArray = (nums .u32 [v.a, v.b, v.c, v.d, v.e, v.f, v.g, v.h]).toArray := rfl

theorem st_cell {k : IntKind} {w : World} {g : Nat} {t : TypeId} {xs : List Int} {tl : List Value} (h : w.heap[g]? = some (.cells (nums k xs ++ tl).toArray t (0, 0))) (i : Int) (h0 : 0 ≤ i) (h1 : i.toNat < xs.length) :
    w.cell? ⟨g, i.toNat, none⟩ = some (.int k (rd xs i)) := by
  rw [blk_cell h]
  unfold rd nums
  rw [List.getElem?_toArray, List.getElem?_append_left (by simpa using h1), List.getElem?_map, List.getElem?_eq_getElem h1, List.getD_eq_getElem?_getD, List.getElem?_eq_getElem h1]
  rfl
theorem st_set {k : IntKind} {w : World} {g : Nat} {t : TypeId} {xs : List Int} {tl : List Value} (h : w.heap[g]? = some (.cells (nums k xs ++ tl).toArray t (0, 0))) (i : Nat) (hi : i < xs.length) (x : Int) :
    (w.setCell ⟨g, i, none⟩ (.int k x)).heap[g]? = some (.cells (nums k (xs.set i x) ++ tl).toArray t (0, 0)) :=
  blk_put h i _ (by simp [nums, List.map_set, List.set_append, hi])
theorem eight {st : List Int} {a b c d e f g h : Int} (hl : st.length = 8) (h0 : rd st ((0 : Nat) : Int) = a) (h1 : rd st ((1 : Nat) : Int) = b) (h2 : rd st ((2 : Nat) : Int) = c) (h3 : rd st ((3 : Nat) : Int) = d) (h4 : rd st ((4 : Nat) : Int) = e) (h5 : rd st ((5 : Nat) : Int) = f) (h6 : rd st ((6 : Nat) : Int) = g) (h7 : rd st ((7 : Nat) : Int) = h) :
    st = [a, b, c, d, e, f, g, h] := by
  match st, hl with
  | [_, _, _, _, _, _, _, _], _ =>
    simp only [rd] at *
    simp at *
    simp [*]
theorem World.grownBy_of_below {w w1 : World} (h : Below w.heap.size w w1) (row : Option Nat) : w.grownBy w1 row := ⟨h.os, h.tape, h.output, h.size, fun i hi _ => h.block i hi⟩
theorem World.grownBy_set {w w1 : World} {g : Nat} (h : w.grownBy w1 (some g)) (j : Nat) (u : Value) : w.grownBy (w1.setCell ⟨g, j, none⟩ u) (some g) :=
  ⟨h.os, h.tape, h.output, by simpa [World.setCell] using h.size, fun i hi hr => (Below.heap_setCell w1 ⟨g, j, none⟩ u i (fun e => hr (by rw [e]))).trans (h.block i hi hr)⟩

set_option maxHeartbeats 4000000 in
set_option maxRecDepth 100000 in
theorem block_calls (gs : Nat) (s0 s1 s2 s3 s4 s5 s6 s7 n : Int) (rest : Value) (b : List Int) (w : World) (hb : b.length = 64) (hby : Bytes b) (hT : ∀ i : Int, 0 ≤ i → i < 64 → w.cell? ⟨1, i.toNat, none⟩ = some (.int .u32 (rd KT i)))
    (hs : w.heap[gs]? = some (.cells #[.int .u32 s0, .int .u32 s1, .int .u32 s2, .int .u32 s3, .int .u32 s4, .int .u32 s5, .int .u32 s6, .int .u32 s7, rest, .int .u64 n] 101 (0, 0))) :
    Calls Tryd.prog 51 #[.pointer (some ⟨gs, 0, none⟩), .agg (nums .u8 b).toArray] w fun e w' => e = .returned (.tuple #[]) ∧ w'.heap[gs]? = some (.cells ((blk ⟨s0, s1, s2, s3, s4, s5, s6, s7⟩ b).cells ++ [rest, .int .u64 n]).toArray 101 (0, 0)) ∧ w.grownBy w' (some gs) := by
  go_enter Tryd.func51, Tryd.ntmps51
  go_wp2
  go_loopw [16] (fun i wr => ∃ t : Int, i = .int .i64 t ∧ 0 ≤ t ∧ t ≤ 16 ∧ (∃ ws : List Int, Aside0 (ws.length = 64) ∧ Aside0 (∀ j : Nat, (j : Int) < t → rd ws j = SW b j) ∧ Aside0 (wr.heap[w.heap.size + 1]? = some (.cells (nums .u32 ws).toArray 90 (0, 0)))) ∧
      Aside0 (wr.heap[w.heap.size]? = some (.cells (nums .u8 b).toArray 103 (0, 0))) ∧ Aside0 (Below w.heap.size w wr)) (fun i _ => 16 - (intOf i).toNat)
  case atStart =>
    refine ⟨0, rfl, by omega, by omega, ⟨List.replicate 64 0, ⟨rfl⟩, ⟨fun j hj => by omega⟩, ⟨?_⟩⟩, ⟨blk_alloc (blk_new _ _) _⟩, ⟨below_alloc (below_alloc (Below.refl _ _) _) _⟩⟩
    have h0 := blk_new (w.alloc (Obj.cells (nums .u8 b).toArray 103)) (Obj.cells (nums .u32 (List.replicate 64 0)).toArray 90)
    rw [World.size_alloc] at h0
    exact h0
  case round =>
    obtain ⟨t, rfl, t0, t16, ⟨ws, hl, hw, BW⟩, BB, HB⟩ := hrel
    by_cases ht : t < 16
    · go_wp2_with fail
      have m0 : 0 ≤ 4 * t := by omega
      have m1 : 4 * t + 3 < 64 := by omega
      have m2 : 4 * t < 64 := by omega
      have m3 : 4 * t + 1 < 64 := by omega
      have m4 : 4 * t + 2 < 64 := by omega
      have m5 : 0 ≤ 4 * t + 1 := by omega
      have m6 : 0 ≤ 4 * t + 2 := by omega
      have m7 : 0 ≤ 4 * t + 3 := by omega
      have e0 : IntKind.i64.wrap (4 * t) = 4 * t := IntWalk.i64_in _ (by omega)
      have e1 : IntKind.i64.wrap (4 * t + 1) = 4 * t + 1 := IntWalk.i64_in _ (by omega)
      have e2 : IntKind.i64.wrap (4 * t + 2) = 4 * t + 2 := IntWalk.i64_in _ (by omega)
      have e3 : IntKind.i64.wrap (4 * t + 3) = 4 * t + 3 := IntWalk.i64_in _ (by omega)
      have x0 : wr.cell? ⟨w.heap.size, (4 * t).toNat, none⟩ = some (.int .u8 (rd b (4 * t))) := nums_cell BB.out _ m0 (by omega)
      have x1 : wr.cell? ⟨w.heap.size, (4 * t + 1).toNat, none⟩ = some (.int .u8 (rd b (4 * t + 1))) := nums_cell BB.out _ m5 (by omega)
      have x2 : wr.cell? ⟨w.heap.size, (4 * t + 2).toNat, none⟩ = some (.int .u8 (rd b (4 * t + 2))) := nums_cell BB.out _ m6 (by omega)
      have x3 : wr.cell? ⟨w.heap.size, (4 * t + 3).toNat, none⟩ = some (.int .u8 (rd b (4 * t + 3))) := nums_cell BB.out _ m7 (by omega)
      have m8 : t < 64 := by omega
      have r0 := hby.at_ (4 * t)
      have r1 := hby.at_ (4 * t + 1)
      have r2 := hby.at_ (4 * t + 2)
      have r3 := hby.at_ (4 * t + 3)
      obtain ⟨p0, hp0⟩ : ∃ x, x = rd b (4 * t) := ⟨_, rfl⟩
      obtain ⟨p1, hp1⟩ : ∃ x, x = rd b (4 * t + 1) := ⟨_, rfl⟩
      obtain ⟨p2, hp2⟩ : ∃ x, x = rd b (4 * t + 2) := ⟨_, rfl⟩
      obtain ⟨p3, hp3⟩ : ∃ x, x = rd b (4 * t + 3) := ⟨_, rfl⟩
      rw [← hp0] at x0 r0
      rw [← hp1] at x1 r1
      rw [← hp2] at x2 r2
      rw [← hp3] at x3 r3
      have WD := Aside0.mk (show p0 * 16777216 + p1 * 65536 + p2 * 256 + p3 = wd b t by rw [hp0, hp1, hp2, hp3]; rfl)
      clear hp0 hp1 hp2 hp3
      have v0 : IntKind.u32.wrap p0 = p0 := wraps_u32 _ r0.1 (by omega)
      have v1 : IntKind.u32.wrap p1 = p1 := wraps_u32 _ r1.1 (by omega)
      have v2 : IntKind.u32.wrap p2 = p2 := wraps_u32 _ r2.1 (by omega)
      have v3 : IntKind.u32.wrap p3 = p3 := wraps_u32 _ r3.1 (by omega)
      have v4 : IntKind.u32.wrap (p0 * 16777216) = p0 * 16777216 := wraps_u32 _ (by omega) (by omega)
      have v5 : IntKind.u32.wrap (p1 * 65536) = p1 * 65536 := wraps_u32 _ (by omega) (by omega)
      have v6 : IntKind.u32.wrap (p2 * 256) = p2 * 256 := wraps_u32 _ (by omega) (by omega)
      obtain ⟨o0, o1, o2⟩ := wd_or p0 p1 p2 p3 r0 r1 r2 r3
      clear r0 r1 r2 r3
      go_still_tail 31, (by kernel_rfl)
      rw [WD.out]
      change wpList _ _ _ _ _ wr.drew
      have BW2 := Aside0.mk (blk_drew BW.out)
      have BB2 := Aside0.mk (blk_drew BB.out)
      have HB2 := Aside0.mk (below_drew1 HB.out)
      clear x0 x1 x2 x3 v0 v1 v2 v3 v4 v5 v6 o0 o1 o2 e0 e1 e2 e3 m0 m1 m2 m3 m4 m5 m6 m7 BW BB HB
      generalize wr.drew = w2 at BW2 BB2 HB2 ⊢
      have zc := nums_cell BW2.out t t0 (by rw [hl.out]; omega)
      have zf := blk_frozen BW2.out t.toNat
      go_wp2
      refine ⟨⟨t + 1, rfl, by omega, by omega, ⟨ws.set t.toNat (wd b t), ⟨by rw [List.length_set]; exact hl.out⟩, ⟨fun j hj => ?_⟩, ⟨nums_set BW2.out _ _⟩⟩, ⟨blk_far BB2.out (by simp) _⟩, ⟨below_set HB2.out (by omega)⟩⟩, by simp [intOf]; omega⟩
      rw [rd_set _ (by rw [hl.out]; omega)]
      by_cases e : j = t.toNat
      · rw [if_pos e, SW_lo (by omega)]
        congr 1
        omega
      · rw [if_neg e]
        exact hw.out j (by omega)
    · obtain rfl : t = 16 := by omega
      go_wp2
      clear ht t0 t16
      go_loopw [6] (fun i wr => ∃ t : Int, i = .int .i64 t ∧ 16 ≤ t ∧ t ≤ 64 ∧ (∃ ws : List Int, Aside0 (ws.length = 64) ∧ Aside0 (∀ j : Nat, (j : Int) < t → rd ws j = SW b j) ∧ Aside0 (wr.heap[w.heap.size + 1]? = some (.cells (nums .u32 ws).toArray 90 (0, 0)))) ∧
          Aside0 (Below w.heap.size w wr)) (fun i _ => 64 - (intOf i).toNat)
      case atStart => exact ⟨16, rfl, by omega, by omega, ⟨ws, hl, hw, BW⟩, HB⟩
      case round =>
        clear hl hw BW BB HB
        obtain ⟨t, rfl, t0, t64, ⟨ws, hl, hw, BW⟩, HB⟩ := hrel
        by_cases ht : t < 64
        · obtain ⟨q16, h16⟩ : ∃ x, x = SW b (t.toNat - 16) := ⟨_, rfl⟩
          obtain ⟨q15, h15⟩ : ∃ x, x = SW b (t.toNat - 15) := ⟨_, rfl⟩
          obtain ⟨q7, h7⟩ : ∃ x, x = SW b (t.toNat - 7) := ⟨_, rfl⟩
          obtain ⟨q2, h2⟩ : ∃ x, x = SW b (t.toNat - 2) := ⟨_, rfl⟩
          have SWt := Aside0.mk (show add32 (add32 (add32 q16 (sg0 q15)) q7) (sg1 q2) = SW b t.toNat by rw [h16, h15, h7, h2]; exact (SW_hi (by omega)).symm)
          have g : ∀ d : Nat, d ≤ 16 → 1 ≤ d → rd ws (t - d) = SW b (t.toNat - d) := fun d hd h1 => by
            have := hw.out (t.toNat - d) (by omega)
            rw [show ((t.toNat - d : Nat) : Int) = t - d by omega] at this
            exact this
          have e16 : IntKind.i64.wrap (t - 16) = t - 16 := IntWalk.i64_in _ (by omega)
          have e15 : IntKind.i64.wrap (t - 15) = t - 15 := IntWalk.i64_in _ (by omega)
          have e7 : IntKind.i64.wrap (t - 7) = t - 7 := IntWalk.i64_in _ (by omega)
          have e2 : IntKind.i64.wrap (t - 2) = t - 2 := IntWalk.i64_in _ (by omega)
          have x16 : wr.cell? ⟨w.heap.size + 1, (t - 16).toNat, none⟩ = some (.int .u32 q16) := by rw [h16, ← g 16 (by omega) (by omega)]; exact nums_cell BW.out _ (by omega) (by rw [hl.out]; omega)
          have x15 : wr.cell? ⟨w.heap.size + 1, (t - 15).toNat, none⟩ = some (.int .u32 q15) := by rw [h15, ← g 15 (by omega) (by omega)]; exact nums_cell BW.out _ (by omega) (by rw [hl.out]; omega)
          have x7 : wr.cell? ⟨w.heap.size + 1, (t - 7).toNat, none⟩ = some (.int .u32 q7) := by rw [h7, ← g 7 (by omega) (by omega)]; exact nums_cell BW.out _ (by omega) (by rw [hl.out]; omega)
          have x2 : wr.cell? ⟨w.heap.size + 1, (t - 2).toNat, none⟩ = some (.int .u32 q2) := by rw [h2, ← g 2 (by omega) (by omega)]; exact nums_cell BW.out _ (by omega) (by rw [hl.out]; omega)
          have i0 : 0 ≤ t - 16 := by omega
          have i1 : 0 ≤ t - 15 := by omega
          have i2 : 0 ≤ t - 7 := by omega
          have i3 : 0 ≤ t - 2 := by omega
          have i4 : t - 16 < 64 := by omega
          have i5 : t - 15 < 64 := by omega
          have i6 : t - 7 < 64 := by omega
          have i7 : t - 2 < 64 := by omega
          have i8 : 0 ≤ t := by omega
          have i9 : 7 ≤ t := by omega
          clear h16 h15 h7 h2 g
          go_wp2_with fail
          go_quiet (fail)
          have BW2 := Aside0.mk (blk_drewN BW.out nq)
          have HB2 := Aside0.mk (pw_below_drewN HB.out nq)
          replace x16 : (wr.drewN nq).cell? ⟨w.heap.size + 1, (t - 16).toNat, none⟩ = some (.int .u32 q16) := x16
          replace x7 : (wr.drewN nq).cell? ⟨w.heap.size + 1, (t - 7).toNat, none⟩ = some (.int .u32 q7) := x7
          clear x15 x2 e2 e15 i1 i3 i5 i7 BW HB
          generalize wr.drewN nq = w2 at BW2 HB2 x16 x7 ⊢
          have hadd := wrap_add
          obtain ⟨s0, hs0⟩ : ∃ x, bits .xor .u32 (bits .xor .u32 (rotr q15 7) (rotr q15 18)) (q15 / 8) = x := ⟨_, rfl⟩
          obtain ⟨s1, hs1⟩ : ∃ x, bits .xor .u32 (bits .xor .u32 (rotr q2 17) (rotr q2 19)) (q2 / 1024) = x := ⟨_, rfl⟩
          have SWu := Aside0.mk (show add32 (add32 (add32 q16 s0) q7) s1 = SW b t.toNat by rw [← SWt.out, ← hs0, ← hs1]; rfl)
          clear SWt
          go_wp2_with fail
          refine wp_region_still_tail 29 (by kernel_rfl) (by kernel_rfl) ?_
          simp only [List.take_succ_cons, List.take_zero, List.drop_succ_cons, List.drop_zero]
          repeat still_step
          still_call ((turn_calls q15 7 7 _ rfl (by omega) (by omega)).mono fun e w' h => ⟨h.1, h.2.symm⟩)
          repeat still_step
          still_call ((turn_calls q15 18 18 _ rfl (by omega) (by omega)).mono fun e w' h => ⟨h.1, h.2.symm⟩)
          repeat still_step
          still_call ((turn_calls q2 17 17 _ rfl (by omega) (by omega)).mono fun e w' h => ⟨h.1, h.2.symm⟩)
          repeat still_step
          still_call ((turn_calls q2 19 19 _ rfl (by omega) (by omega)).mono fun e w' h => ⟨h.1, h.2.symm⟩)
          repeat still_step
          refine wpStill_nil ?_
          rw [SWu.out]
          change wpList _ _ _ _ _ w2.drew
          have BW3 := Aside0.mk (blk_drew BW2.out)
          have HB3 := Aside0.mk (below_drew1 HB2.out)
          clear x16 x7 e16 e7 i0 i2 i4 i6 i9 hadd hs0 hs1 SWu BW2 HB2
          generalize w2.drew = w3 at BW3 HB3 ⊢
          have zc := nums_cell BW3.out t i8 (by rw [hl.out]; omega)
          have zf := blk_frozen BW3.out t.toNat
          go_wp2
          refine ⟨⟨t + 1, rfl, by omega, by omega, ⟨ws.set t.toNat (SW b t.toNat), ⟨by rw [List.length_set]; exact hl.out⟩, ⟨fun j hj => ?_⟩, ⟨nums_set BW3.out _ _⟩⟩, ⟨below_set HB3.out (by omega)⟩⟩, by simp [intOf]; omega⟩
          rw [rd_set _ (by rw [hl.out]; omega)]
          by_cases e : j = t.toNat
          · rw [if_pos e, e]
          · rw [if_neg e]
            exact hw.out j (by omega)
        · obtain rfl : t = 64 := by omega
          clear ht t0 t64
          have hs' := Aside0.mk (blk_below hs HB.out)
          have c0 : wr.cell? ⟨gs, 0, none⟩ = some (.int .u32 s0) := (blk_cell hs'.out 0).trans rfl
          have c1 : wr.cell? ⟨gs, 1, none⟩ = some (.int .u32 s1) := (blk_cell hs'.out 1).trans rfl
          have c2 : wr.cell? ⟨gs, 2, none⟩ = some (.int .u32 s2) := (blk_cell hs'.out 2).trans rfl
          have c3 : wr.cell? ⟨gs, 3, none⟩ = some (.int .u32 s3) := (blk_cell hs'.out 3).trans rfl
          have c4 : wr.cell? ⟨gs, 4, none⟩ = some (.int .u32 s4) := (blk_cell hs'.out 4).trans rfl
          have c5 : wr.cell? ⟨gs, 5, none⟩ = some (.int .u32 s5) := (blk_cell hs'.out 5).trans rfl
          have c6 : wr.cell? ⟨gs, 6, none⟩ = some (.int .u32 s6) := (blk_cell hs'.out 6).trans rfl
          have c7 : wr.cell? ⟨gs, 7, none⟩ = some (.int .u32 s7) := (blk_cell hs'.out 7).trans rfl
          go_wp2
          obtain ⟨gv, hgv⟩ : ∃ g, g = wr.heap.size := ⟨_, rfl⟩
          have VW := Aside0.mk (blk_alloc BW.out (Obj.cells #[.int .u32 s0, .int .u32 s1, .int .u32 s2, .int .u32 s3, .int .u32 s4, .int .u32 s5, .int .u32 s6, .int .u32 s7] 92))
          have VS := Aside0.mk (blk_alloc hs'.out (Obj.cells #[.int .u32 s0, .int .u32 s1, .int .u32 s2, .int .u32 s3, .int .u32 s4, .int .u32 s5, .int .u32 s6, .int .u32 s7] 92))
          have VB := Aside0.mk (below_alloc HB.out (Obj.cells #[.int .u32 s0, .int .u32 s1, .int .u32 s2, .int .u32 s3, .int .u32 s4, .int .u32 s5, .int .u32 s6, .int .u32 s7] 92))
          have VV := Aside0.mk (blk_new wr (Obj.cells #[.int .u32 s0, .int .u32 s1, .int .u32 s2, .int .u32 s3, .int .u32 s4, .int .u32 s5, .int .u32 s6, .int .u32 s7] 92))
          have GV := Aside0.mk (show w.heap.size + 1 < wr.heap.size from blk_lt BW.out)
          clear c0 c1 c2 c3 c4 c5 c6 c7
          rw [← hgv] at VV GV ⊢
          clear hgv
          go_loopw [96] (fun i wr => ∃ t : Int, i = .int .i64 t ∧ 0 ≤ t ∧ t ≤ 64 ∧ Aside0 (wr.heap[gv]? = some (.cells (RR ⟨s0, s1, s2, s3, s4, s5, s6, s7⟩ b t.toNat).cells.toArray 92 (0, 0))) ∧ Aside0 (wr.heap[w.heap.size + 1]? = some (.cells (nums .u32 ws).toArray 90 (0, 0))) ∧
              Aside0 (wr.heap[gs]? = some (.cells #[.int .u32 s0, .int .u32 s1, .int .u32 s2, .int .u32 s3, .int .u32 s4, .int .u32 s5, .int .u32 s6, .int .u32 s7, rest, .int .u64 n] 101 (0, 0))) ∧ Aside0 (Below w.heap.size w wr)) (fun i _ => 64 - (intOf i).toNat)
          case atStart => exact ⟨0, rfl, by omega, by omega, VV, VW, VS, VB⟩
          case round =>
            clear VW VS VB VV BW HB hs'
            obtain ⟨t, rfl, t0, t64, VV, VW, VS, VB⟩ := hrel
            by_cases ht : t < 64
            · obtain ⟨v, hv⟩ : ∃ v, v = RR ⟨s0, s1, s2, s3, s4, s5, s6, s7⟩ b t.toNat := ⟨_, rfl⟩
              rw [← hv] at VV
              have NX := Aside0.mk (show RR ⟨s0, s1, s2, s3, s4, s5, s6, s7⟩ b (t.toNat + 1) = rnd v (rd KT t.toNat) (SW b t.toNat) by rw [hv]; rfl)
              clear hv
              obtain ⟨va, vb, vc, vd, ve, vf, vg, vh⟩ := v
              have x0 : wr.cell? ⟨gv, 0, none⟩ = some (.int .u32 va) := (blk_cell VV.out 0).trans rfl
              have x1 : wr.cell? ⟨gv, 1, none⟩ = some (.int .u32 vb) := (blk_cell VV.out 1).trans rfl
              have x2 : wr.cell? ⟨gv, 2, none⟩ = some (.int .u32 vc) := (blk_cell VV.out 2).trans rfl
              have x3 : wr.cell? ⟨gv, 3, none⟩ = some (.int .u32 vd) := (blk_cell VV.out 3).trans rfl
              have x4 : wr.cell? ⟨gv, 4, none⟩ = some (.int .u32 ve) := (blk_cell VV.out 4).trans rfl
              have x5 : wr.cell? ⟨gv, 5, none⟩ = some (.int .u32 vf) := (blk_cell VV.out 5).trans rfl
              have x6 : wr.cell? ⟨gv, 6, none⟩ = some (.int .u32 vg) := (blk_cell VV.out 6).trans rfl
              have x7 : wr.cell? ⟨gv, 7, none⟩ = some (.int .u32 vh) := (blk_cell VV.out 7).trans rfl
              go_wp2_with fail
              go_quiet (fail)
              replace VV := Aside0.mk (blk_drewN VV.out nq)
              replace VW := Aside0.mk (blk_drewN VW.out nq)
              replace VS := Aside0.mk (blk_drewN VS.out nq)
              replace VB := Aside0.mk (pw_below_drewN VB.out nq)
              clear x0 x1 x2 x3 x4 x5 x6 x7
              generalize wr.drewN nq = wa at VV VW VS VB ⊢
              have x0 : wa.cell? ⟨gv, 0, none⟩ = some (.int .u32 va) := (blk_cell VV.out 0).trans rfl
              have x1 : wa.cell? ⟨gv, 1, none⟩ = some (.int .u32 vb) := (blk_cell VV.out 1).trans rfl
              have x2 : wa.cell? ⟨gv, 2, none⟩ = some (.int .u32 vc) := (blk_cell VV.out 2).trans rfl
              have x3 : wa.cell? ⟨gv, 3, none⟩ = some (.int .u32 vd) := (blk_cell VV.out 3).trans rfl
              have x4 : wa.cell? ⟨gv, 4, none⟩ = some (.int .u32 ve) := (blk_cell VV.out 4).trans rfl
              have x5 : wa.cell? ⟨gv, 5, none⟩ = some (.int .u32 vf) := (blk_cell VV.out 5).trans rfl
              have x6 : wa.cell? ⟨gv, 6, none⟩ = some (.int .u32 vg) := (blk_cell VV.out 6).trans rfl
              have x7 : wa.cell? ⟨gv, 7, none⟩ = some (.int .u32 vh) := (blk_cell VV.out 7).trans rfl
              go_wp2_with fail
              have hadd := wrap_add
              have kt : wa.cell? ⟨1, t.toNat, none⟩ = some (.int .u32 (rd KT t)) := (VB.out.cell (World.block_lt_of_cell? w _ (hT t t0 ht))).trans (hT t t0 ht)
              have wt : wa.cell? ⟨w.heap.size + 1, t.toNat, none⟩ = some (.int .u32 (SW b t.toNat)) := by
                have h1 := hw.out t.toNat (by omega)
                rw [show ((t.toNat : Nat) : Int) = t by omega] at h1
                rw [← h1]
                exact nums_cell VW.out t t0 (by rw [hl.out]; omega)
              have NY := Aside0.mk (show rnd ⟨va, vb, vc, vd, ve, vf, vg, vh⟩ (rd KT t.toNat) (SW b t.toNat) = ⟨add32 (one ⟨va, vb, vc, vd, ve, vf, vg, vh⟩ (rd KT t) (SW b t.toNat)) (two ⟨va, vb, vc, vd, ve, vf, vg, vh⟩), va, vb, vc, add32 vd (one ⟨va, vb, vc, vd, ve, vf, vg, vh⟩ (rd KT t) (SW b t.toNat)), ve, vf, vg⟩ by rw [show ((t.toNat : Nat) : Int) = t by omega]; rfl)
              obtain ⟨o1, ho1⟩ : ∃ x, add32 (add32 (add32 (add32 vh (bits .xor .u32 (bits .xor .u32 (rotr ve 6) (rotr ve 11)) (rotr ve 25))) (bits .xor .u32 (bits .and .u32 ve vf) (bits .and .u32 (bits .xor .u32 4294967295 ve) vg))) (rd KT t)) (SW b t.toNat) = x := ⟨_, rfl⟩
              obtain ⟨o2, ho2⟩ : ∃ x, add32 (bits .xor .u32 (bits .xor .u32 (rotr va 2) (rotr va 13)) (rotr va 22)) (bits .xor .u32 (bits .xor .u32 (bits .and .u32 va vb) (bits .and .u32 va vc)) (bits .and .u32 vb vc)) = x := ⟨_, rfl⟩
              rw [show one ⟨va, vb, vc, vd, ve, vf, vg, vh⟩ (rd KT t) (SW b t.toNat) = o1 from ho1, show two ⟨va, vb, vc, vd, ve, vf, vg, vh⟩ = o2 from ho2] at NY
              have hmax : (if IntKind.u32.signed = true then (-1 : Int) else IntKind.u32.max) = 4294967295 := by decide
              refine wp_region_still_lit (by kernel_rfl) (by kernel_rfl) ?_
              repeat still_step
              still_call ((turn_calls ve 6 6 _ rfl (by omega) (by omega)).mono fun e w' h => ⟨h.1, h.2.symm⟩)
              repeat still_step
              still_call ((turn_calls ve 11 11 _ rfl (by omega) (by omega)).mono fun e w' h => ⟨h.1, h.2.symm⟩)
              repeat still_step
              still_call ((turn_calls ve 25 25 _ rfl (by omega) (by omega)).mono fun e w' h => ⟨h.1, h.2.symm⟩)
              repeat still_step
              refine wpStill_nil ?_
              change Exit.then _ _ _ _ wa.drew
              clear kt wt hmax ho1
              replace VV := Aside0.mk (blk_drew VV.out)
              replace VW := Aside0.mk (blk_drew VW.out)
              replace VS := Aside0.mk (blk_drew VS.out)
              replace VB := Aside0.mk (below_drew1 VB.out)
              clear x0 x1 x2 x3 x4 x5 x6 x7
              generalize wa.drew = wb at VV VW VS VB ⊢
              have x0 : wb.cell? ⟨gv, 0, none⟩ = some (.int .u32 va) := (blk_cell VV.out 0).trans rfl
              have x1 : wb.cell? ⟨gv, 1, none⟩ = some (.int .u32 vb) := (blk_cell VV.out 1).trans rfl
              have x2 : wb.cell? ⟨gv, 2, none⟩ = some (.int .u32 vc) := (blk_cell VV.out 2).trans rfl
              have x3 : wb.cell? ⟨gv, 3, none⟩ = some (.int .u32 vd) := (blk_cell VV.out 3).trans rfl
              have x4 : wb.cell? ⟨gv, 4, none⟩ = some (.int .u32 ve) := (blk_cell VV.out 4).trans rfl
              have x5 : wb.cell? ⟨gv, 5, none⟩ = some (.int .u32 vf) := (blk_cell VV.out 5).trans rfl
              have x6 : wb.cell? ⟨gv, 6, none⟩ = some (.int .u32 vg) := (blk_cell VV.out 6).trans rfl
              have x7 : wb.cell? ⟨gv, 7, none⟩ = some (.int .u32 vh) := (blk_cell VV.out 7).trans rfl
              go_wp2_with fail
              refine wp_region_still_lit (by kernel_rfl) (by kernel_rfl) ?_
              repeat still_step
              still_call ((turn_calls va 2 2 _ rfl (by omega) (by omega)).mono fun e w' h => ⟨h.1, h.2.symm⟩)
              repeat still_step
              still_call ((turn_calls va 13 13 _ rfl (by omega) (by omega)).mono fun e w' h => ⟨h.1, h.2.symm⟩)
              repeat still_step
              still_call ((turn_calls va 22 22 _ rfl (by omega) (by omega)).mono fun e w' h => ⟨h.1, h.2.symm⟩)
              repeat still_step
              refine wpStill_nil ?_
              change Exit.then _ _ _ _ wb.drew
              clear ho2 hadd
              replace VV := Aside0.mk (blk_drew VV.out)
              replace VW := Aside0.mk (blk_drew VW.out)
              replace VS := Aside0.mk (blk_drew VS.out)
              replace VB := Aside0.mk (below_drew1 VB.out)
              clear x0 x1 x2 x3 x4 x5 x6 x7
              generalize wb.drew = wc at VV VW VS VB ⊢
              have x0 : wc.cell? ⟨gv, 0, none⟩ = some (.int .u32 va) := (blk_cell VV.out 0).trans rfl
              have x1 : wc.cell? ⟨gv, 1, none⟩ = some (.int .u32 vb) := (blk_cell VV.out 1).trans rfl
              have x2 : wc.cell? ⟨gv, 2, none⟩ = some (.int .u32 vc) := (blk_cell VV.out 2).trans rfl
              have x3 : wc.cell? ⟨gv, 3, none⟩ = some (.int .u32 vd) := (blk_cell VV.out 3).trans rfl
              have x4 : wc.cell? ⟨gv, 4, none⟩ = some (.int .u32 ve) := (blk_cell VV.out 4).trans rfl
              have x5 : wc.cell? ⟨gv, 5, none⟩ = some (.int .u32 vf) := (blk_cell VV.out 5).trans rfl
              have x6 : wc.cell? ⟨gv, 6, none⟩ = some (.int .u32 vg) := (blk_cell VV.out 6).trans rfl
              have x7 : wc.cell? ⟨gv, 7, none⟩ = some (.int .u32 vh) := (blk_cell VV.out 7).trans rfl
              have f0 := blk_frozen VV.out 0
              have f1 := blk_frozen VV.out 1
              have f2 := blk_frozen VV.out 2
              have f3 := blk_frozen VV.out 3
              have f4 := blk_frozen VV.out 4
              have f5 := blk_frozen VV.out 5
              have f6 := blk_frozen VV.out 6
              have f7 := blk_frozen VV.out 7
              have hadd2 : ∀ a b : Int, (a + b) % 4294967296 = add32 a b := fun _ _ => rfl
              go_wp2
              have P0 := blk_set VV.out 0 (.int .u32 (add32 o1 o2))
              have P1 := blk_set P0 1 (.int .u32 va)
              have P2 := blk_set P1 2 (.int .u32 vb)
              have P3 := blk_set P2 3 (.int .u32 vc)
              have P4 := blk_set P3 4 (.int .u32 (add32 vd o1))
              have P5 := blk_set P4 5 (.int .u32 ve)
              have P6 := blk_set P5 6 (.int .u32 vf)
              have P7 := blk_set P6 7 (.int .u32 vg)
              have gl := blk_lt hs
              have g1 : w.heap.size + 1 ≠ gv := by have := GV.out; omega
              have g2 : gs ≠ gv := by have := GV.out; omega
              have g3 : w.heap.size ≤ gv := by have := GV.out; omega
              refine ⟨⟨t + 1, rfl, by omega, by omega, ⟨?_⟩, ⟨?_⟩, ⟨?_⟩, ⟨?_⟩⟩, by simp [intOf]; omega⟩
              · rw [show (t + 1).toNat = t.toNat + 1 by omega, NX.out, NY.out]
                exact P7
              · exact blk_far (blk_far (blk_far (blk_far (blk_far (blk_far (blk_far (blk_far VW.out g1 _) g1 _) g1 _) g1 _) g1 _) g1 _) g1 _) g1 _
              · exact blk_far (blk_far (blk_far (blk_far (blk_far (blk_far (blk_far (blk_far VS.out g2 _) g2 _) g2 _) g2 _) g2 _) g2 _) g2 _) g2 _
              · exact below_set (below_set (below_set (below_set (below_set (below_set (below_set (below_set VB.out g3) g3) g3) g3) g3) g3) g3) g3
            · obtain rfl : t = 64 := by omega
              clear ht t0 t64 VW
              go_wp2
              have gl := blk_lt hs
              have g2 : gs ≠ gv := by have := GV.out; omega
              obtain ⟨u, hu⟩ : ∃ u, u = RR ⟨s0, s1, s2, s3, s4, s5, s6, s7⟩ b 64 := ⟨_, rfl⟩
              have hbk := Aside0.mk (show blk ⟨s0, s1, s2, s3, s4, s5, s6, s7⟩ b = ⟨add32 s0 u.a, add32 s1 u.b, add32 s2 u.c, add32 s3 u.d, add32 s4 u.e, add32 s5 u.f, add32 s6 u.g, add32 s7 u.h⟩ by rw [hu]; rfl)
              rw [show (64 : Int).toNat = 64 from rfl, ← hu, cells_nums] at VV
              clear hu
              have VG := Aside0.mk (World.grownBy_of_below VB.out (some gs))
              go_loopw [176] (fun i wr => ∃ (t : Int) (st : List Int), i = .int .i64 t ∧ 0 ≤ t ∧ t ≤ 8 ∧ Aside0 (st.length = 8) ∧ Aside0 (∀ j : Nat, j < 8 → rd st j = if (j : Int) < t then add32 (rd [s0, s1, s2, s3, s4, s5, s6, s7] j) (rd [u.a, u.b, u.c, u.d, u.e, u.f, u.g, u.h] j) else rd [s0, s1, s2, s3, s4, s5, s6, s7] j) ∧
                  Aside0 (wr.heap[gv]? = some (.cells (nums .u32 [u.a, u.b, u.c, u.d, u.e, u.f, u.g, u.h]).toArray 92 (0, 0))) ∧ Aside0 (wr.heap[gs]? = some (.cells (nums .u32 st ++ [rest, .int .u64 n]).toArray 101 (0, 0))) ∧ Aside0 (w.grownBy wr (some gs))) (fun i _ => 8 - (intOf i).toNat)
              case atStart => exact ⟨0, [s0, s1, s2, s3, s4, s5, s6, s7], rfl, by omega, by omega, ⟨rfl⟩, ⟨fun j _ => by rw [if_neg (by omega)]⟩, VV, VS, VG⟩
              case round =>
                clear VV VS VB VG
                obtain ⟨t, st, rfl, t0, t8, hst, hsp, VV, VS, VG⟩ := hrel
                by_cases ht : t < 8
                · have q1 := nums_cell VV.out t t0 (by simpa using ht)
                  have q2 := st_cell VS.out t t0 (by rw [hst.out]; omega)
                  have q3 := blk_frozen VS.out t.toNat
                  obtain ⟨qa, hqa⟩ : ∃ x, x = rd [u.a, u.b, u.c, u.d, u.e, u.f, u.g, u.h] t := ⟨_, rfl⟩
                  obtain ⟨qb, hqb⟩ : ∃ x, x = rd st t := ⟨_, rfl⟩
                  rw [← hqa] at q1
                  rw [← hqb] at q2
                  have Qa := Aside0.mk hqa
                  have Qb := Aside0.mk hqb
                  clear hqa hqb
                  have hadd := wrap_add
                  go_wp2_with fail
                  refine wp_region_still_tail 13 (by kernel_rfl) (by kernel_rfl) ?_
                  simp only [List.take_succ_cons, List.take_zero, List.drop_succ_cons, List.drop_zero]
                  repeat still_step
                  refine wpStill_nil ?_
                  change wpList _ _ _ _ _ wr.drew
                  have VV2 := Aside0.mk (blk_drew VV.out)
                  have VS2 := Aside0.mk (blk_drew VS.out)
                  have VG2 : Aside0 (w.grownBy wr.drew (some gs)) := ⟨⟨VG.out.os, VG.out.tape, VG.out.output, VG.out.size, VG.out.block⟩⟩
                  clear q1 q2 q3 VV VS VG
                  generalize wr.drew = w2 at VV2 VS2 VG2 ⊢
                  have z2 := st_cell VS2.out t t0 (by rw [hst.out]; omega)
                  have z3 := blk_frozen VS2.out t.toNat
                  clear hadd
                  go_wp2
                  have g3 : gv ≠ gs := fun e => g2 e.symm
                  refine ⟨⟨t + 1, st.set t.toNat (add32 qb qa), rfl, by omega, by omega, ⟨by rw [List.length_set]; exact hst.out⟩, ⟨fun j hj => ?_⟩, ⟨blk_far VV2.out g3 _⟩, ⟨st_set VS2.out _ (by rw [hst.out]; omega) _⟩, ⟨World.grownBy_set VG2.out _ _⟩⟩, by simp [intOf]; omega⟩
                  rw [rd_set _ (by rw [hst.out]; omega)]
                  by_cases e : j = t.toNat
                  · subst e
                    rw [if_pos rfl, if_pos (by omega), Qa.out, Qb.out]
                    have hz := hsp.out t.toNat hj
                    rw [if_neg (by omega)] at hz
                    rw [show ((t.toNat : Nat) : Int) = t by omega] at hz ⊢
                    rw [hz]
                  · rw [if_neg e, hsp.out j hj]
                    by_cases e2 : (j : Int) < t
                    · rw [if_pos e2, if_pos (by omega)]
                    · rw [if_neg e2, if_neg (by omega)]
                · obtain rfl : t = 8 := by omega
                  have he : st = [add32 s0 u.a, add32 s1 u.b, add32 s2 u.c, add32 s3 u.d, add32 s4 u.e, add32 s5 u.f, add32 s6 u.g, add32 s7 u.h] := by
                    have hl8 := hst.out
                    have h0 := hsp.out 0 (by omega)
                    have h1 := hsp.out 1 (by omega)
                    have h2 := hsp.out 2 (by omega)
                    have h3 := hsp.out 3 (by omega)
                    have h4 := hsp.out 4 (by omega)
                    have h5 := hsp.out 5 (by omega)
                    have h6 := hsp.out 6 (by omega)
                    have h7 := hsp.out 7 (by omega)
                    exact eight hl8 h0 h1 h2 h3 h4 h5 h6 h7
                  have VS2 := Aside0.mk VS.out
                  clear VS
                  rw [he] at VS2
                  clear ht t0 t8 hsp hst he
                  go_wp2
                  go_end0
                  exact ⟨rfl, by rw [hbk.out]; exact VS2.out, VG.out⟩
end Go.Proofs.YtgmdgkanfhoahaaDoor.ShaBlk
