/- ref02.Copy, ref02.SameAll, ghost.New, ref18.Root. -/
import Derived.Test.YtgmdgkanfhoahaaDoorGRow
namespace Go.Proofs.YtgmdgkanfhoahaaDoor.Small
open Go.RowKit Go.Proofs.YtgmdgkanfhoahaaDoor.ShaPure Go.Proofs.YtgmdgkanfhoahaaDoor.ShaBlk Go.Proofs.YtgmdgkanfhoahaaDoor.ShaWrite Go.Proofs.YtgmdgkanfhoahaaDoor.ShaSum Go.Proofs.YtgmdgkanfhoahaaDoor.ShaEnd Go.Proofs.YtgmdgkanfhoahaaDoor.ShaOf Go.Proofs.YtgmdgkanfhoahaaDoor.BytesW Go.Proofs.YtgmdgkanfhoahaaDoor.RefPad Go.Proofs.YtgmdgkanfhoahaaDoor.Put Go.Proofs.YtgmdgkanfhoahaaDoor.LogW Go.Proofs.YtgmdgkanfhoahaaDoor.Dig Go.Proofs.YtgmdgkanfhoahaaDoor.Hdr Go.Proofs.YtgmdgkanfhoahaaDoor.Above Go.Proofs.YtgmdgkanfhoahaaDoor.Build Go.Proofs.YtgmdgkanfhoahaaDoor.BuildW Go.Proofs.YtgmdgkanfhoahaaDoor.Kid Go.Proofs.YtgmdgkanfhoahaaDoor.AwakeA Go.Proofs.YtgmdgkanfhoahaaDoor.GRow Go.Proofs.YtgmdgkanfhoahaaDoor.PTreePaths Go.Proofs.YtgmdgkanfhoahaaDoorW.PrintWords Go.Proofs.YtgmdgkanfhoahaaDoorW.PrintLast Go.Proofs.YtgmdgkanfhoahaaDoorW.PrintMore
set_option linter.unusedVariables false
set_option linter.unusedSimpArgs false

theorem GB_of_R {w : World} {base : Nat} {ok : Nat → Prop} {v : Value} {l : List Int} (h : Kd.R (Kd.int .u8) 5 w base ok v l) (hl : l.length = 256) : ∃ g, v = ghd g ∧ GB w g l ∧ base ≤ g.1 := by
  rcases (Kd.own_of_R h).2 with ⟨he, h0⟩ | ⟨g, cap, cur, he, hg, hb, r⟩
  · omega
  · obtain ⟨h1, h2, h3, h4⟩ := r
    refine ⟨(g, cap), by rw [he, hl]; rfl, ⟨hl, by simpa [hl] using h1, cur, hb, ?_⟩, hg⟩
    have h5 : cur.toList.take (l.length * 1) = encs (Value.int .u8) l := by first | exact h4 | simpa using h4
    rw [Nat.mul_one, hl] at h5
    exact h5
set_option maxHeartbeats 4000000 in
set_option maxRecDepth 100000 in
theorem copy_calls (A : Option Addr) (c : Nat) (l : List Int) (w : World) (hC : Kd.C (Kd.int .u8) w A l.length l) (hl : l.length ≤ 1000000) :
    Calls Tryd.prog 21 #[.slice A l.length c] w fun e w' => ∃ v, e = .returned v ∧ Kd.R (Kd.int .u8) 5 w' w.heap.size (fun _ => True) v l ∧ Below w.heap.size w w' := by
  have HL := Aside0.mk hl
  have HC := Aside0.mk hC
  have hmk := make_bytes (l.length : Int) (by omega) (by omega)
  have HMR := Aside0.mk (made_row (l.length : Int) (by omega) (by omega) w w.heap.size (Nat.le_refl _))
  have hmr := HMR.out
  rw [Int.toNat_natCast] at hmk hmr
  clear hC HMR
  have HMR := Aside0.mk hmr
  clear hmr
  go_enter Tryd.func21, Tryd.ntmps21
  go_wp2_with fail
  obtain ⟨wa, hwa⟩ : ∃ wa, w.alloc (.cells (madeCells #[.int .u8 0] l.length) 5 (0, 0)) = wa := ⟨_, rfl⟩
  have B0 : Aside0 (Below w.heap.size w wa) := ⟨by rw [← hwa]; exact below_alloc (Below.refl _ _) _⟩
  rw [hwa] at HMR ⊢
  clear hwa hmk
  go_loopw [3, 4] (fun p i wr => ∃ (t : Int) (y : List Int) (RA : Option Addr) (rc : Nat), p = .slice RA y.length rc ∧ i = .int .i64 t ∧ 0 ≤ t ∧ t ≤ l.length ∧ Aside0 (y = l.take t.toNat) ∧ Aside0 (Kd.R (Kd.int .u8) 5 wr w.heap.size (fun _ => True) (.slice RA y.length rc) y) ∧ Aside0 (Below w.heap.size w wr)) (fun _ i _ => l.length - (intOf i).toNat)
  case atStart => exact ⟨0, [], some ⟨w.heap.size, 0, none⟩, l.length, rfl, rfl, by omega, by omega, ⟨rfl⟩, HMR, B0⟩
  case round =>
    clear HMR B0
    obtain ⟨t, y, RA, rc, rfl, rfl, t0, tn, HY, ROW, BEL⟩ := hrel
    by_cases ht : t < l.length
    · obtain ⟨ad, rfl, hcell⟩ := Kd.at_int (Kd.C_below HC.out BEL.out) t t0 ht
      have hmx := Kd.C_max HC.out
      have hw : IntKind.i64.wrap (t + 1) = t + 1 := IntWalk.i64_in _ (by omega)
      have HYL : Aside0 (y.length ≤ 1000000) := ⟨by rw [HY.out, List.length_take]; have := HL.out; omega⟩
      have HYN : Aside0 (y ++ [rd l t] = l.take (t + 1).toNat) := ⟨by
        rw [HY.out, show (t + 1).toNat = t.toNat + 1 by omega, List.take_add_one, List.getElem?_eq_getElem (by omega)]
        unfold rd
        rw [List.getD_eq_getElem?_getD, List.getElem?_eq_getElem (by omega)]
        rfl⟩
      obtain ⟨q, hq⟩ : ∃ q, rd l t = q := ⟨_, rfl⟩
      rw [hq] at hcell HYN
      clear hq
      go_wp2_with ((with_reducible refine gate_dst (N := 20) rfl ?_)
                   refine Kd.R_append (Kd.int .u8) (w0 := w) (W := wr) w.heap.size rfl (.tmp 14) (.tmp 19) 22 5 (.int .u8 0) 1 rfl Tryd.underlying22 Tryd.infoB rfl (by decide) (by decide) _ y q [.int .u8 q] (fun _ => True) (fun _ => False) rfl rfl rfl (fun _ h => h.elim) (fun _ _ => trivial) ROW.out BEL.out BEL.out.size (by have := HYL.out; omega) ?_
                   intro v3 w3 ho3 hb3 hg3 hat3
                   clear hg3 hat3 ROW BEL
                   obtain ⟨RC, rc3, er3⟩ := Kd.R_slice ho3
                   subst er3
                   have ROW3 := Aside0.mk ho3
                   have BEL3 := Aside0.mk hb3
                   clear ho3 hb3)
      exact ⟨⟨t + 1, y ++ [q], RC, rc3, by simp, rfl, by omega, by omega, HYN, ROW3, BEL3⟩, by simp [intOf]; omega⟩
    · obtain rfl : t = l.length := by omega
      have HYE : Aside0 (y = l) := ⟨by rw [HY.out]; simp⟩
      go_wp2_with fail
      go_ret
      exact ⟨_, rfl, by rw [← HYE.out]; exact ROW.out, BEL.out⟩
/-! ### the same lists of bytes -/
/-! ### a log with nothing in it -/
theorem new_calls (w : World) : Calls Tryd.prog 8 #[] w fun e w' => ∃ g, e = .returned (ptr (some g)) ∧ g = w.heap.size ∧ w'.heap[g]? = some (.cells #[.slice none 0 0, .slice none 0 0, .slice none 0 0] 55 (0, 0)) ∧ Below w.heap.size w w' := by
  go_enter Tryd.func8, Tryd.ntmps8
  go_wp2_with fail
  go_ret
  exact ⟨_, rfl, rfl, blk_new _ _, below_alloc (Below.refl _ _) _⟩
theorem new_log {w w' : World} {g : Nat} (hg : g = w.heap.size) (hb : w'.heap[g]? = some (.cells #[.slice none 0 0, .slice none 0 0, .slice none 0 0] 55 (0, 0))) (hT : 1 < w.heap.size) : Lg w' (some g) (fun k => k = g) [] := by
  refine ⟨rfl, fun k hk => by rw [hk]; exact blk_lt hb, fun k hk => by rw [hk, hg]; exact hT, .slice none 0 0, hb, Kd.R_nil _ _ _ _ _⟩
end Go.Proofs.YtgmdgkanfhoahaaDoor.Small
