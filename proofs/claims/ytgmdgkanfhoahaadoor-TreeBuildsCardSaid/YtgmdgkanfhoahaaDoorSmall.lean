/- ref02.Copy, ref02.SameAll, ghost.New, ref18.Root. -/
import Derived.Test.YtgmdgkanfhoahaaDoorGRow
namespace Go.Proofs.YtgmdgkanfhoahaaDoor.Small
open Go.RowKit Go.Proofs.YtgmdgkanfhoahaaDoor.ShaPure Go.Proofs.YtgmdgkanfhoahaaDoor.ShaBlk Go.Proofs.YtgmdgkanfhoahaaDoor.ShaWrite Go.Proofs.YtgmdgkanfhoahaaDoor.ShaSum Go.Proofs.YtgmdgkanfhoahaaDoor.ShaEnd Go.Proofs.YtgmdgkanfhoahaaDoor.ShaOf Go.Proofs.YtgmdgkanfhoahaaDoor.BytesW Go.Proofs.YtgmdgkanfhoahaaDoor.RefPad Go.Proofs.YtgmdgkanfhoahaaDoor.Put Go.Proofs.YtgmdgkanfhoahaaDoor.LogW Go.Proofs.YtgmdgkanfhoahaaDoor.Dig Go.Proofs.YtgmdgkanfhoahaaDoor.Hdr Go.Proofs.YtgmdgkanfhoahaaDoor.Above Go.Proofs.YtgmdgkanfhoahaaDoor.Build Go.Proofs.YtgmdgkanfhoahaaDoor.BuildW Go.Proofs.YtgmdgkanfhoahaaDoor.Kid Go.Proofs.YtgmdgkanfhoahaaDoor.AwakeA Go.Proofs.YtgmdgkanfhoahaaDoor.GRow Go.Proofs.YtgmdgkanfhoahaaDoor.PTreePaths Go.Proofs.YtgmdgkanfhoahaaDoorW.PrintWords Go.Proofs.YtgmdgkanfhoahaaDoorW.PrintLast Go.Proofs.YtgmdgkanfhoahaaDoorW.PrintMore
set_option linter.unusedVariables false
set_option linter.unusedSimpArgs false

theorem GB_of_R {w : World} {base : Nat} {ok : Nat → Prop} {v : Value} {l : List Int} (h : Kd.R (Kd.int .u8) 5 w base ok v l) (hl : l.length = 256) : ∃ g, v = ghd g ∧ GB w g l ∧ base ≤ g.1 := by
  rcases (Kd.own_of_R h).2 with ⟨he, h0⟩ | ⟨g, cap, cur, he, hg, hb, r⟩
  · omega
  · obtain ⟨h1, h2, h3, h4⟩ := r
    refine ⟨(g, cap), by rw [he, hl]; rfl, ⟨hl, by simpa [hl] using h1, cur, hb, ?_⟩, hg⟩
    have h5 : cur.toList.take (l.length * 1) = encs (Value.int .u8) l := by first | exact h4 | simpa using h4
    rw [Nat.mul_one, hl] at h5
    exact h5
set_option maxHeartbeats 4000000 in
set_option maxRecDepth 100000 in
theorem copy_calls (A : Option Addr) (c : Nat) (l : List Int) (w : World) (hC : Kd.C (Kd.int .u8) w A l.length l) (hl : l.length ≤ 1000000) :
    Calls Tryd.prog 21 #[.slice A l.length c] w fun e w' => ∃ v, e = .returned v ∧ Kd.R (Kd.int .u8) 5 w' w.heap.size (fun _ => True) v l ∧ Below w.heap.size w w' := by
  have HL := Aside0.mk hl
  have HC := Aside0.mk hC
  have hmk := make_bytes (l.length : Int) (by omega) (by omega)
  have HMR := Aside0.mk (made_row (l.length : Int) (by omega) (by omega) w w.heap.size (Nat.le_refl _))
  have hmr := HMR.out
  rw [Int.toNat_natCast] at hmk hmr
  clear hC HMR
  have HMR := Aside0.mk hmr
  clear hmr
  go_enter Tryd.func21, Tryd.ntmps21
  go_wp2_with fail
  obtain ⟨wa, hwa⟩ : ∃ wa, w.alloc (.cells (madeCells #[.int .u8 0] l.length) 5 (0, 0)) = wa := ⟨_, rfl⟩
  have B0 : Aside0 (Below w.heap.size w wa) := ⟨by rw [← hwa]; exact below_alloc (Below.refl _ _) _⟩
  rw [hwa] at HMR ⊢
  clear hwa hmk
  go_loopw [3, 4] (fun p i wr => ∃ (t : Int) (y : List Int) (RA : Option Addr) (rc : Nat), p = .slice RA y.length rc ∧ i = .int .i64 t ∧ 0 ≤ t ∧ t ≤ l.length ∧ Aside0 (y = l.take t.toNat) ∧ Aside0 (Kd.R (Kd.int .u8) 5 wr w.heap.size (fun _ => True) (.slice RA y.length rc) y) ∧ Aside0 (Below w.heap.size w wr)) (fun _ i _ => l.length - (intOf i).toNat)
  case atStart => exact ⟨0, [], some ⟨w.heap.size, 0, none⟩, l.length, rfl, rfl, by omega, by omega, ⟨rfl⟩, HMR, B0⟩
  case round =>
    clear HMR B0
    obtain ⟨t, y, RA, rc, rfl, rfl, t0, tn, HY, ROW, BEL⟩ := hrel
    by_cases ht : t < l.length
    · obtain ⟨ad, rfl, hcell⟩ := Kd.at_int (Kd.C_below HC.out BEL.out) t t0 ht
      have hmx := Kd.C_max HC.out
      have hw : IntKind.i64.wrap (t + 1) = t + 1 := IntWalk.i64_in _ (by omega)
      have HYL : Aside0 (y.length ≤ 1000000) := ⟨by rw [HY.out, List.length_take]; have := HL.out; omega⟩
      have HYN : Aside0 (y ++ [rd l t] = l.take (t + 1).toNat) := ⟨by
        rw [HY.out, show (t + 1).toNat = t.toNat + 1 by omega, List.take_add_one, List.getElem?_eq_getElem (by omega)]
        unfold rd
        rw [List.getD_eq_getElem?_getD, List.getElem?_eq_getElem (by omega)]
        rfl⟩
      obtain ⟨q, hq⟩ : ∃ q, rd l t = q := ⟨_, rfl⟩
      rw [hq] at hcell HYN
      clear hq
      go_wp2_with ((with_reducible refine gate_dst (N := 20) rfl ?_)
                   refine Kd.R_append (Kd.int .u8) (w0 := w) (W := wr) w.heap.size rfl (.tmp 14) (.tmp 19) 22 5 (.int .u8 0) 1 rfl Tryd.underlying22 Tryd.infoB rfl (by decide) (by decide) _ y q [.int .u8 q] (fun _ => True) (fun _ => False) rfl rfl rfl (fun _ h => h.elim) (fun _ _ => trivial) ROW.out BEL.out BEL.out.size (by have := HYL.out; omega) ?_
                   intro v3 w3 ho3 hb3 hg3 hat3
                   clear hg3 hat3 ROW BEL
                   obtain ⟨RC, rc3, er3⟩ := Kd.R_slice ho3
                   subst er3
                   have ROW3 := Aside0.mk ho3
                   have BEL3 := Aside0.mk hb3
                   clear ho3 hb3)
      exact ⟨⟨t + 1, y ++ [q], RC, rc3, by simp, rfl, by omega, by omega, HYN, ROW3, BEL3⟩, by simp [intOf]; omega⟩
    · obtain rfl : t = l.length := by omega
      have HYE : Aside0 (y = l) := ⟨by rw [HY.out]; simp⟩
      go_wp2_with fail
      go_ret
      exact ⟨_, rfl, by rw [← HYE.out]; exact ROW.out, BEL.out⟩
/-! ### the same lists of bytes -/
def sameAll (a b : List (List Int)) : Bool := a == b
set_option maxHeartbeats 4000000 in
set_option maxRecDepth 100000 in
theorem sameall_calls (A B : Option Addr) (ca cb : Nat) (a b : List (List Int)) (w : World) (hA : BB.C w A a.length a) (hB : BB.C w B b.length b) (hlen : a.length = b.length) (hl : ∀ x ∈ a, x.length ≤ 1000000) (heq : a = b) :
    Calls Tryd.prog 10 #[.slice A a.length ca, .slice B b.length cb] w fun e w' => e = .returned (.bool true) ∧ Below w.heap.size w w' := by
  subst heq
  have HA := Aside0.mk hA
  have HB := Aside0.mk hB
  have HL := Aside0.mk hl
  have HM := Aside0.mk (Kd.C_max hA)
  clear hA hB hl hlen
  go_enter Tryd.func10, Tryd.ntmps10
  go_wp2_with fail
  go_loopw [5] (fun i wr => ∃ t : Int, i = .int .i64 t ∧ 0 ≤ t ∧ t ≤ a.length ∧ Aside0 (Below w.heap.size w wr)) (fun i _ => a.length - (intOf i).toNat)
  case atStart => exact ⟨0, rfl, by omega, by omega, ⟨Below.refl _ _⟩⟩
  case round =>
    obtain ⟨t, rfl, t0, tn, BEL⟩ := hrel
    by_cases ht : t < a.length
    · obtain ⟨ad1, A1, c1, rfl, hc1, hC1, hcell1⟩ := BB_at (Kd.C_below HA.out BEL.out) t.toNat (by omega)
      obtain ⟨ad2, A2, c2, rfl, hc2, hC2, hcell2⟩ := BB_at (Kd.C_below HB.out BEL.out) t.toNat (by omega)
      have hmx := HM.out
      have hw : IntKind.i64.wrap (t + 1) = t + 1 := IntWalk.i64_in _ (by omega)
      have HXL : Aside0 ((a.getD t.toNat []).length ≤ 1000000) := ⟨by
        rw [List.getD_eq_getElem?_getD, List.getElem?_eq_getElem (by omega)]
        exact HL.out _ (List.getElem_mem (by omega))⟩
      obtain ⟨x, hx⟩ : ∃ x, a.getD t.toNat [] = x := ⟨_, rfl⟩
      rw [hx] at hc1 hC1 hcell1 hc2 hC2 hcell2 HXL
      have K1 := Aside0.mk hC1
      have K2 := Aside0.mk hC2
      have L1 := Aside0.mk hc1
      have L2 := Aside0.mk hc2
      clear hx hC1 hC2 hc1 hc2
      go_wp2_with fail
      refine start_ (n := 10) (S := fun w' => Below wr.heap.size wr w') (ds := []) #[false, false, false, false, false, false, false, false, false, false] (by kernel_rfl) rfl rfl (below_drew1 (Below.refl _ _)) (fun hHeld => ?_)
      have HH := Aside0.mk hHeld
      clear hHeld
      generalize wr.drew = w2 at HH ⊢
      refine pure_ (i := 0) (N := some 17) (v := ?_) (a' := ?_) #[true, false, false, false, false, false, false, false, false, false] rfl rfl (by kernel_rfl) (fun _ _ _ h => h) (Or.inl ⟨by rfl, ?_⟩) ?_ ?_
      rotate_left
      · intro w'
        go_simp
        with_reducible rfl
      rotate_left
      · simp only [Act.put, List.setIfInBounds_toArray, List.set_cons_zero, List.set_cons_succ, i64_w, i32_w]
        rfl
      refine pure_ (i := 1) (N := some 18) (v := ?_) (a' := ?_) #[true, true, false, false, false, false, false, false, false, false] rfl rfl (by kernel_rfl) (fun _ _ _ h => h) (Or.inl ⟨by rfl, ?_⟩) ?_ ?_
      rotate_left
      · intro w'
        go_simp
        with_reducible rfl
      rotate_left
      · simp only [Act.put, List.setIfInBounds_toArray, List.set_cons_zero, List.set_cons_succ, i64_w, i32_w]
        rfl
      refine pure_ (i := 2) (N := some 19) (v := ?_) (a' := ?_) #[true, true, true, false, false, false, false, false, false, false] rfl rfl (by kernel_rfl) (fun _ _ _ h => h) (Or.inl ⟨by rfl, ?_⟩) ?_ ?_
      rotate_left
      · intro w'
        go_simp
        with_reducible rfl
      rotate_left
      · simp only [Act.put, List.setIfInBounds_toArray, List.set_cons_zero, List.set_cons_succ, i64_w, i32_w]
        rfl
      refine take_ (i := 3) (N := some 20) (v := ?_) (a' := ?_) #[true, true, true, true, false, false, false, false, false, false] rfl rfl (by kernel_rfl) (fun _ _ _ h => h) (Or.inl ⟨by rfl, ?_⟩) HH.out ?_ ?_
      rotate_left
      · rintro w' s0
        have z0 : w'.cell? (ad1.add t.toNat) = some (.slice A1 x.length c1) := cell_same hcell1 (s0.block _ (cell_lt hcell1))
        clear s0
        go_simp
        with_reducible rfl
      rotate_left
      · simp only [Act.put, List.setIfInBounds_toArray, List.set_cons_zero, List.set_cons_succ, i64_w, i32_w]
        rfl
      refine pure_ (i := 4) (N := some 21) (v := ?_) (a' := ?_) #[true, true, true, true, true, false, false, false, false, false] rfl rfl (by kernel_rfl) (fun _ _ _ h => h) (Or.inl ⟨by rfl, ?_⟩) ?_ ?_
      rotate_left
      · intro w'
        go_simp
        with_reducible rfl
      rotate_left
      · simp only [Act.put, List.setIfInBounds_toArray, List.set_cons_zero, List.set_cons_succ, i64_w, i32_w]
        rfl
      refine pure_ (i := 5) (N := some 22) (v := ?_) (a' := ?_) #[true, true, true, true, true, true, false, false, false, false] rfl rfl (by kernel_rfl) (fun _ _ _ h => h) (Or.inl ⟨by rfl, ?_⟩) ?_ ?_
      rotate_left
      · intro w'
        go_simp
        with_reducible rfl
      rotate_left
      · simp only [Act.put, List.setIfInBounds_toArray, List.set_cons_zero, List.set_cons_succ, i64_w, i32_w]
        rfl
      refine pure_ (i := 6) (N := some 23) (v := ?_) (a' := ?_) #[true, true, true, true, true, true, true, false, false, false] rfl rfl (by kernel_rfl) (fun _ _ _ h => h) (Or.inl ⟨by rfl, ?_⟩) ?_ ?_
      rotate_left
      · intro w'
        go_simp
        with_reducible rfl
      rotate_left
      · simp only [Act.put, List.setIfInBounds_toArray, List.set_cons_zero, List.set_cons_succ, i64_w, i32_w]
        rfl
      refine take_ (i := 7) (N := some 24) (v := ?_) (a' := ?_) #[true, true, true, true, true, true, true, true, false, false] rfl rfl (by kernel_rfl) (fun _ _ _ h => h) (Or.inl ⟨by rfl, ?_⟩) HH.out ?_ ?_
      rotate_left
      · rintro w' s0
        have z0 : w'.cell? (ad2.add t.toNat) = some (.slice A2 x.length c2) := cell_same hcell2 (s0.block _ (cell_lt hcell2))
        clear s0
        go_simp
        with_reducible rfl
      rotate_left
      · simp only [Act.put, List.setIfInBounds_toArray, List.set_cons_zero, List.set_cons_succ, i64_w, i32_w]
        rfl
      refine one_ (i := 8) (N := some 25) #[true, true, true, true, true, true, true, true, true, false] rfl rfl (by kernel_rfl) (by decide) (fun K hK => ?_)
      refine goes_ Tryd.func24 (by kernel_rfl) rfl #[.slice A1 x.length c1, .slice A2 x.length c2] (by rfl) rfl rfl (by simp only [List.map_toArray, List.map_cons, List.map_nil]; rfl) ?_
      refine (thimbleref02_Same.calls (x.length + 1) A1 c1 x A2 c2 x true w2 (Kd.C_below K1.out HH.out) L1.out (Kd.C_below K2.out HH.out) L2.out (by rw [same_f x x HXL.out, beq_self_eq_true])).mono ?_
      rintro e w3 ⟨rfl, nd, rfl⟩
      refine ⟨_, rfl, ?_⟩
      have hb' := HH.out.trans ((pw_below_drewN (Below.refl w2.heap.size w2) nd).mono HH.out.size)
      refine hK.out _ _ hb' (fun hHeld => ?_)
      clear hK K
      refine norm_ (a' := ?_) ?_ ?_
      rotate_left
      · show Act.put _ (some 25) _ = _
        simp only [Act.put, List.setIfInBounds_toArray, List.set_cons_zero, List.set_cons_succ, i64_w, i32_w]
        rfl
      have BF := Aside0.mk hHeld
      clear hHeld hb' HH
      generalize w2.drewN nd = w3 at BF ⊢
      refine pure_ (i := 9) (N := some 26) (v := ?_) (a' := ?_) #[true, true, true, true, true, true, true, true, true, true] rfl rfl (by kernel_rfl) (fun _ _ _ h => h) (Or.inl ⟨by rfl, ?_⟩) ?_ ?_
      rotate_left
      · intro w'
        go_simp
        with_reducible rfl
      rotate_left
      · simp only [Act.put, List.setIfInBounds_toArray, List.set_cons_zero, List.set_cons_succ, i64_w, i32_w]
        rfl
      refine done_ (by kernel_rfl) ?_
      go_wp2_with fail
      exact ⟨⟨t + 1, rfl, by omega, by omega, ⟨BEL.out.trans (BF.out.mono BEL.out.size)⟩⟩, by simp [intOf]; omega⟩
    · obtain rfl : t = a.length := by omega
      go_wp2_with fail
      go_ret
      exact ⟨rfl, BEL.out⟩
/-! ### a log with nothing in it -/
theorem new_calls (w : World) : Calls Tryd.prog 8 #[] w fun e w' => ∃ g, e = .returned (ptr (some g)) ∧ g = w.heap.size ∧ w'.heap[g]? = some (.cells #[.slice none 0 0, .slice none 0 0, .slice none 0 0] 55 (0, 0)) ∧ Below w.heap.size w w' := by
  go_enter Tryd.func8, Tryd.ntmps8
  go_wp2_with fail
  go_ret
  exact ⟨_, rfl, rfl, blk_new _ _, below_alloc (Below.refl _ _) _⟩
theorem new_log {w w' : World} {g : Nat} (hg : g = w.heap.size) (hb : w'.heap[g]? = some (.cells #[.slice none 0 0, .slice none 0 0, .slice none 0 0] 55 (0, 0))) (hT : 1 < w.heap.size) : Lg w' (some g) (fun k => k = g) [] := by
  refine ⟨rfl, fun k hk => by rw [hk]; exact blk_lt hb, fun k hk => by rw [hk, hg]; exact hT, .slice none 0 0, hb, Kd.R_nil _ _ _ _ _⟩
end Go.Proofs.YtgmdgkanfhoahaaDoor.Small
