/- The contract of ref03.words. The contract of ref03.Padded. -/
import Derived.Test.YtgmdgkanfhoahaaDoorShaOf
import Derived.Laws.MakeOwn
import Derived.Laws.OwnMore
namespace Go.Proofs.YtgmdgkanfhoahaaDoor.RefWords
open Go.RowKit Go.Proofs.YtgmdgkanfhoahaaDoor.ShaRot Go.Proofs.YtgmdgkanfhoahaaDoor.ShaPure Go.Proofs.YtgmdgkanfhoahaaDoor.ShaBlk Go.Proofs.YtgmdgkanfhoahaaDoor.ShaWrite Go.Proofs.YtgmdgkanfhoahaaDoor.ShaSum Go.Proofs.YtgmdgkanfhoahaaDoor.ShaEnd Go.Proofs.YtgmdgkanfhoahaaDoor.ShaOf Go.Proofs.YtgmdgkanfhoahaaDoorW.PrintWords Go.Proofs.YtgmdgkanfhoahaaDoorW.PrintLast Go.Proofs.YtgmdgkanfhoahaaDoorW.PrintMore
set_option linter.unusedVariables false
set_option linter.unusedSimpArgs false

theorem Tryd.infoK : (Tryd.prog.info? 90).map (·.size) = some 64 := by kernel_rfl
set_option maxHeartbeats 4000000 in
set_option maxRecDepth 100000 in
theorem words_calls (w : World) : Calls Tryd.prog 44 #[] w fun e w' => e = .returned (.agg (nums .u32 KT).toArray) ∧ Below w.heap.size w w' := by
  go_enter Tryd.func44, Tryd.ntmps44
  go_wp2_with (first | refine wpList_store_row rfl 90 (.tmp 0) (.tmp 1) rfl w.heap.size (nums .u32 KT).toArray rfl (by rfl) 90 _ (blk_new _ _) Tryd.infoK (by rfl) (by simp [nums, KT, Value.oneCell']) ?_)
  refine bodyPost_ret (results_cell_row (p := 0) (ty := 90) rfl _ _ w.heap.size 90 (nums .u32 KT).toArray _ _ rfl (setRow_heap _ _ _ _ _ _ (blk_new _ _)) Tryd.underlying90 rfl Tryd.infoK) rfl ⟨rfl, ?_⟩
  exact (below_alloc (Below.refl _ _) _).trans ⟨rfl, rfl, rfl, by rw [setRow_size]; exact Nat.le_refl _, fun k hk => setRow_other _ _ _ _ (by omega)⟩
end Go.Proofs.YtgmdgkanfhoahaaDoor.RefWords
namespace Go.Proofs.YtgmdgkanfhoahaaDoor.RefPad
open Go.RowKit Go.Proofs.YtgmdgkanfhoahaaDoor.ShaRot Go.Proofs.YtgmdgkanfhoahaaDoor.ShaPure Go.Proofs.YtgmdgkanfhoahaaDoor.ShaBlk Go.Proofs.YtgmdgkanfhoahaaDoor.ShaWrite Go.Proofs.YtgmdgkanfhoahaaDoor.ShaSum Go.Proofs.YtgmdgkanfhoahaaDoor.ShaEnd Go.Proofs.YtgmdgkanfhoahaaDoor.ShaOf Go.Proofs.YtgmdgkanfhoahaaDoorW.PrintWords Go.Proofs.YtgmdgkanfhoahaaDoorW.PrintLast Go.Proofs.YtgmdgkanfhoahaaDoorW.PrintMore
set_option linter.unusedVariables false
set_option linter.unusedSimpArgs false

/-- make([]byte, 0, c): the run, and the row. -/
theorem make_bytes (c : Int) (h0 : 0 ≤ c) (h1 : c ≤ 200000000000000) (W : World) : (Instr.makeSlice 22 (.int .i64 0) (.int .i64 c)).run Tryd.prog W = .ok (.slice (some ⟨W.heap.size, 0, none⟩) 0 c.toNat) (W.alloc (.cells (madeCells #[.int .u8 0] c.toNat) 5 (0, 0))) := by
  obtain ⟨i0, hi0, hzz⟩ := Option.map_eq_some_iff.1 Tryd.infoB
  simp only [Prod.mk.injEq] at hzz
  have h := run_make (P := Tryd.prog) W 22 5 i0 (.int .u8 0) Tryd.underlying22 hi0 hzz.1 .i64 .i64 0 c (by omega) h0 (by rw [hzz.2.2]; omega) (by omega)
  rw [hzz.2.1, Nat.mul_one] at h
  exact h
theorem made_row (c : Int) (h0 : 0 ≤ c) (h1 : c ≤ 200000000000000) (W : World) (base : Nat) (hb : base ≤ W.heap.size) : Kd.R (Kd.int .u8) 5 (W.alloc (.cells (madeCells #[.int .u8 0] c.toNat) 5 (0, 0))) base (fun _ => True) (.slice (some ⟨W.heap.size, 0, none⟩) 0 c.toNat) [] :=
  Kd.R_of_own (enc := Value.int .u8) (h1 := fun _ => rfl) ⟨rfl, .inr ⟨W.heap.size, c.toNat, _, rfl, hb, blk_new _ _, by simp, by simp [maxLen]; omega, by rw [size_madeCells, Nat.mul_one], by simp [encs]⟩⟩ (fun _ _ => trivial)

theorem len8_at2 (L : Nat) (t : Int) (h1 : L ≤ 100000000000000) (t0 : 0 ≤ t) (t7 : t ≤ 7) : (len8 L).take (t + 1).toNat = (len8 L).take t.toNat ++ [8 * (L : Int) / 2 ^ (56 - 8 * t).toNat % 256] := by
  rw [show (t + 1).toNat = t.toNat + 1 by omega, len8_take _ _ (by omega), show 8 * (7 - t.toNat) = (56 - 8 * t).toNat by omega, show ((8 * L : Nat) : Int) % 18446744073709551616 = 8 * (L : Int) by omega]

set_option maxHeartbeats 4000000 in
set_option maxRecDepth 100000 in
theorem padded_calls (A : Option Addr) (c : Nat) (l : List Int) (w : World) (hC : Kd.C (Kd.int .u8) w A l.length l) (hc : l.length ≤ c) (hlen : l.length ≤ 100000000000000) :
    Calls Tryd.prog 45 #[.slice A l.length c] w fun e w' => ∃ v, e = .returned v ∧ Kd.R (Kd.int .u8) 5 w' w.heap.size (fun _ => True) v (pad l) ∧ Below w.heap.size w w' := by
  have HL := Aside0.mk hlen
  go_enter Tryd.func45, Tryd.ntmps45
  have hw1 : IntKind.i64.wrap ((l.length : Int) + 72) = l.length + 72 := IntWalk.i64_in _ (by omega)
  have hmk := make_bytes ((l.length : Int) + 72) (by omega) (by omega)
  have HMR := Aside0.mk (made_row ((l.length : Int) + 72) (by omega) (by omega) w w.heap.size (Nat.le_refl _))
  have HC := Aside0.mk hC
  clear hC
  go_wp2_with (first
    | ((with_reducible refine gate_dst (N := 12) rfl ?_)
       refine Kd.R_append_rows (Kd.int .u8) (Rr := (Kd.int .u8).K _) (w0 := w) w.heap.size rfl (.tmp 10) (.tmp 11) 22 5 (.int .u8 0) 1 rfl Tryd.underlying22 Tryd.infoB rfl (by decide) (by decide) _ [] l A l.length c (fun _ => True) (fun _ => False) rfl rfl HMR.out (Kd.C_alloc HC.out _) (fun x cs h => h) (fun _ h => h.elim) (fun _ _ => trivial) (below_alloc (Below.refl _ _) _) (by simp) (by have := HL.out; simp; omega) ?_
       intro v1 w1 ho1 hb1 hg1 hat1
       clear hg1 hat1 HMR hmk
       rw [List.nil_append] at ho1
       obtain ⟨RA1, rc1, er1⟩ := Kd.R_slice ho1
       subst er1
       have ROW1 := Aside0.mk ho1
       have BEL1 := Aside0.mk hb1
       clear ho1 hb1)
    | ((with_reducible refine gate_dst (N := 15) rfl ?_)
       refine Kd.R_append (Kd.int .u8) (w0 := w) (W := w1) w.heap.size rfl (.tmp 13) (.tmp 14) 22 5 (.int .u8 0) 1 rfl Tryd.underlying22 Tryd.infoB rfl (by decide) (by decide) _ l 128 [.int .u8 128] (fun _ => True) (fun _ => False) rfl rfl rfl (fun _ h => h.elim) (fun _ _ => trivial) ROW1.out BEL1.out BEL1.out.size (by have := HL.out; omega) ?_
       intro v2 w2 ho2 hb2 hg2 hat2
       clear hg2 hat2 ROW1 BEL1
       have ROW2 := Aside0.mk ho2
       have BEL2 := Aside0.mk hb2
       clear ho2 hb2))
  go_loopw [3] (fun p wr => ∃ (j : Nat) (RA rc : _), p = .slice RA (l ++ [128] ++ List.replicate j 0).length rc ∧ j ≤ (119 - l.length % 64) % 64 ∧ Aside0 (Kd.R (Kd.int .u8) 5 wr w.heap.size (fun _ => True) (.slice RA (l ++ [128] ++ List.replicate j 0).length rc) (l ++ [128] ++ List.replicate j 0)) ∧ Aside0 (Below w.heap.size w wr))
    (fun p _ => match p with | .slice _ n _ => (120 + 64 - n % 64) % 64 | _ => 0)
  case atStart =>
    obtain ⟨RA2, rc2, er2⟩ := Kd.R_slice ROW2.out
    subst er2
    exact ⟨0, RA2, rc2, by simp [List.length_append], by omega, ⟨by simpa using ROW2.out⟩, BEL2⟩
  case round =>
    clear ROW2 BEL2
    obtain ⟨j, RA, rc, rfl, hj, ROW, BEL⟩ := hrel
    obtain ⟨x, hx⟩ : ∃ x, l ++ [128] ++ List.replicate j 0 = x := ⟨_, rfl⟩
    have hxl : x.length = l.length + 1 + j := by rw [← hx]; simp; omega
    rw [hx] at ROW ⊢
    have HX := Aside0.mk hx
    have HXL := Aside0.mk hxl
    clear hx hxl
    by_cases hfull : x.length % 64 = 56
    · have hfb : (((x.length : Nat) : Int) % 64 == 56) = true := beq_iff_eq.mpr (by omega)
      have HF := Aside0.mk hfull
      clear hfull
      go_wp2_with fail
      have hne : (((x.length : Nat) : Int) % 64 != 56) = false := by
        have := HF.out
        rw [show ((x.length : Nat) : Int) % 64 = 56 by omega]
        rfl
      simp only [hne]
      clear hne hfb
      have HJ : Aside0 (j = (119 - l.length % 64) % 64) := ⟨by have := HF.out; have := HXL.out; omega⟩
      have ROWA := Aside0.mk ROW.out
      have BELA := Aside0.mk BEL.out
      clear ROW BEL hj
      go_loopw [3, 5] (fun p i wr => ∃ (t : Int) (y : List Int) (RA rc : _), p = .slice RA y.length rc ∧ i = .int .i64 t ∧ 0 ≤ t ∧ t ≤ 8 ∧ Aside0 (y = x ++ (len8 l.length).take t.toNat) ∧ Aside0 (Kd.R (Kd.int .u8) 5 wr w.heap.size (fun _ => True) (.slice RA y.length rc) y) ∧ Aside0 (Below w.heap.size w wr))
        (fun _ i _ => 8 - (intOf i).toNat)
      case atStart => exact ⟨0, x, RA, rc, rfl, rfl, by omega, by omega, ⟨by simp⟩, ROWA, BELA⟩
      case round =>
        clear ROWA BELA
        obtain ⟨t, y, RB, rd2, rfl, rfl, t0, t8, HY, ROW, BEL⟩ := hrel
        by_cases ht : t < 8
        · have hl0 := HL.out
          have hc1 : IntKind.u64.wrap t = t := IntWalk.u64_in _ (by omega)
          have hc2 : IntKind.u64.wrap (8 * t) = 8 * t := IntWalk.u64_in _ (by omega)
          have hc3 : IntKind.u64.wrap (56 - 8 * t) = 56 - 8 * t := IntWalk.u64_in _ (by omega)
          have HYL : Aside0 (y.length ≤ x.length + 8) := ⟨by rw [HY.out, List.length_append, List.length_take, len8_length]; omega⟩
          go_wp2_with ((with_reducible refine gate_dst (N := 40) rfl ?_)
                       refine Kd.R_append (Kd.int .u8) (w0 := w) (W := wr) w.heap.size rfl (.tmp 31) (.tmp 39) 22 5 (.int .u8 0) 1 rfl Tryd.underlying22 Tryd.infoB rfl (by decide) (by decide) _ y (8 * (l.length : Int) / 2 ^ (56 - 8 * t).toNat % 256) [.int .u8 (8 * (l.length : Int) / 2 ^ (56 - 8 * t).toNat % 256)] (fun _ => True) (fun _ => False) rfl rfl rfl (fun _ h => h.elim) (fun _ _ => trivial) ROW.out BEL.out BEL.out.size (by have := HL.out; have h5 := HXL.out; have h6 := HYL.out; have h7 := HJ.out; omega) ?_
                       intro v3 w3 ho3 hb3 hg3 hat3
                       clear hg3 hat3 ROW BEL
                       obtain ⟨RC, rc3, er3⟩ := Kd.R_slice ho3
                       subst er3
                       have ROW3 := Aside0.mk ho3
                       have BEL3 := Aside0.mk hb3
                       clear ho3 hb3)
          refine ⟨⟨t + 1, _, RC, rc3, by rw [List.length_append]; rfl, rfl, by omega, by omega, ⟨?_⟩, ROW3, BEL3⟩, by simp [intOf]; omega⟩
          rw [len8_at2 l.length t HL.out t0 (by omega), HY.out, List.append_assoc]
        · obtain rfl : t = 8 := by omega
          have HY8 : Aside0 (y = pad l) := ⟨by
            rw [HY.out, ← HX.out, show (8 : Int).toNat = 8 by rfl, List.take_of_length_le (by rw [len8_length]; exact Nat.le_refl _), HJ.out]
            rfl⟩
          go_wp2_with fail
          go_ret
          exact ⟨_, rfl, by rw [← HY8.out]; exact ROW.out, BEL.out⟩
    · have hfb : (((x.length : Nat) : Int) % 64 == 56) = false := beq_eq_false_iff_ne.mpr (by omega)
      have HF := Aside0.mk hfull
      clear hfull
      go_wp2_with ((with_reducible refine gate_dst (N := 22) rfl ?_)
                   refine Kd.R_append (Kd.int .u8) (w0 := w) (W := wr) w.heap.size rfl (.tmp 20) (.tmp 21) 22 5 (.int .u8 0) 1 rfl Tryd.underlying22 Tryd.infoB rfl (by decide) (by decide) _ x 0 [.int .u8 0] (fun _ => True) (fun _ => False) rfl rfl rfl (fun _ h => h.elim) (fun _ _ => trivial) ROW.out BEL.out BEL.out.size (by have := HL.out; have := HXL.out; omega) ?_
                   intro v3 w3 ho3 hb3 hg3 hat3
                   clear hg3 hat3 ROW BEL
                   obtain ⟨RC, rc3, er3⟩ := Kd.R_slice ho3
                   subst er3
                   have ROW3 := Aside0.mk ho3
                   have BEL3 := Aside0.mk hb3
                   clear ho3 hb3)
      have hx0 := HXL.out
      have hf0 := HF.out
      have hxe : l ++ [128] ++ List.replicate (j + 1) 0 = x ++ [0] := by rw [← HX.out, List.replicate_succ']; simp
      refine ⟨⟨j + 1, RC, rc3, by rw [hxe, List.length_append]; rfl, by omega, ⟨by rw [hxe]; exact ROW3.out⟩, BEL3⟩, ?_⟩
      show (120 + 64 - (x.length + 1) % 64) % 64 < (120 + 64 - x.length % 64) % 64
      omega
end Go.Proofs.YtgmdgkanfhoahaaDoor.RefPad
