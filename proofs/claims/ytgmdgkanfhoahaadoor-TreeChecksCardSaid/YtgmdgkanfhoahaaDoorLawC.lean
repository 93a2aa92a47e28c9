/- The law TreeChecks: true. -/
import Derived.Test.YtgmdgkanfhoahaaDoorCheckR
import Derived.Test.YtgmdgkanfhoahaaDoorTreeAwk
namespace Go.Proofs.YtgmdgkanfhoahaaDoor.LawC
open Go.RowKit Go.Proofs.YtgmdgkanfhoahaaDoor.ShaPure Go.Proofs.YtgmdgkanfhoahaaDoor.ShaBlk Go.Proofs.YtgmdgkanfhoahaaDoor.ShaWrite Go.Proofs.YtgmdgkanfhoahaaDoor.ShaSum Go.Proofs.YtgmdgkanfhoahaaDoor.ShaEnd Go.Proofs.YtgmdgkanfhoahaaDoor.ShaOf Go.Proofs.YtgmdgkanfhoahaaDoor.BytesW Go.Proofs.YtgmdgkanfhoahaaDoor.Put Go.Proofs.YtgmdgkanfhoahaaDoor.LogW Go.Proofs.YtgmdgkanfhoahaaDoor.Dig Go.Proofs.YtgmdgkanfhoahaaDoor.Hdr Go.Proofs.YtgmdgkanfhoahaaDoor.Above Go.Proofs.YtgmdgkanfhoahaaDoor.Build Go.Proofs.YtgmdgkanfhoahaaDoor.BuildW Go.Proofs.YtgmdgkanfhoahaaDoor.BuildE Go.Proofs.YtgmdgkanfhoahaaDoor.Kid Go.Proofs.YtgmdgkanfhoahaaDoor.AwakeA Go.Proofs.YtgmdgkanfhoahaaDoor.Awake Go.Proofs.YtgmdgkanfhoahaaDoor.PlanP Go.Proofs.YtgmdgkanfhoahaaDoor.Chk Go.Proofs.YtgmdgkanfhoahaaDoor.CheckT Go.Proofs.YtgmdgkanfhoahaaDoor.CheckR Go.Proofs.YtgmdgkanfhoahaaDoor.PTreePaths Go.Proofs.YtgmdgkanfhoahaaDoorW.PrintWords Go.Proofs.YtgmdgkanfhoahaaDoorW.PrintLast Go.Proofs.YtgmdgkanfhoahaaDoorW.PrintMore
set_option linter.unusedVariables false
set_option linter.unusedSimpArgs false

theorem low_C64 {w0 W : World} {A : Option Addr} {n : Nat} {xs : List Int} (h : (Kd.int .i64).C w0 A n xs) (hk : ∀ b, b < w0.heap.size → W.heap[b]? = w0.heap[b]?) : (Kd.int .i64).C W A n xs := by
  have hr := Kd.reads_of_C (enc := Value.int .i64) (d := (0 : Int)) (h1 := fun _ => rfl) h
  refine Kd.C_of_reads (enc := Value.int .i64) (d := (0 : Int)) (h1 := fun _ => rfl) ⟨hr.1, hr.2.1, fun hn => ?_⟩
  obtain ⟨ad, e, hc⟩ := hr.2.2 hn
  exact ⟨ad, e, fun j hj => cell_same (hc j hj) (hk _ (cell_lt (hc j hj)))⟩
theorem xor8 (a b : Int) : 0 ≤ Go.bits .xor .u8 a b ∧ Go.bits .xor .u8 a b ≤ 255 := by
  unfold Go.bits
  rw [IntKind.wrap_u8]
  omega
set_option maxHeartbeats 8000000 in
set_option maxRecDepth 100000 in
theorem law_checks (a0 a1 : Int) (A : Option Addr) (c : Nat) (path : List (List Int)) (root : List Int) (w : World) (hT : Tab w) (hC : BB.C w A path.length path) (hby : ∀ b ∈ path, Bytes b) (hroot : root.length = 32)
    (h00 : -9223372036854775808 ≤ a0) (h01 : a0 ≤ 9223372036854775807) (h11 : a1 ≤ 9223372036854775807) :
    Calls Tryd.prog 4 #[.int .i64 a0, .int .i64 a1, .slice A path.length c, .agg (nums .u8 root).toArray] w fun e w' => e = .returned (.bool true) ∧ Below w.heap.size w w' := by
  have HT := Aside0.mk hT
  have HRD := Aside0.mk (RD.of_C (S := fun _ => False) hC (Below.refl w.heap.size w) (fun k h => h.elim))
  have HRM := Aside0.mk (Kd.C_max hC)
  have HBY := Aside0.mk hby
  have HRL := Aside0.mk hroot
  have HPG := Aside0.mk h11
  clear hT hC hby hroot h11
  have GRW := Aside0.mk (blk_new w (.cells (nums .u8 root).toArray 29 (0, 0)))
  have BW := Aside0.mk (below_alloc (Below.refl w.heap.size w) (.cells (nums .u8 root).toArray 29 (0, 0)))
  by_cases h9 : path.length ≤ 9
  · have h9' : ((9 : Int) < path.length) = False := eq_false (by omega)
    go_enter Tryd.func4, Tryd.ntmps4
    go_wp2_with fail
    change Code.wp _ _ _ _ (w.alloc (.cells (nums .u8 root).toArray 29 (0, 0)))
    obtain ⟨g7, hg7⟩ : ∃ g7, w.heap.size = g7 := ⟨_, rfl⟩
    rw [hg7] at GRW ⊢
    clear hg7
    generalize w.alloc _ = wa at GRW BW ⊢
    go_loopw [9] (fun i wr => ∃ t : Int, i = .int .i64 t ∧ 0 ≤ t ∧ t ≤ path.length ∧ Aside0 (wr = wa)) (fun i _ => path.length - (intOf i).toNat)
    case atStart => exact ⟨0, rfl, by omega, by omega, ⟨rfl⟩⟩
    case round =>
      obtain ⟨t, rfl, t0, tn, HW⟩ := hrel
      obtain rfl := HW.out.symm
      have HTA := Aside0.mk (Tab.below HT.out (BW.out.mono (by have := HT.out.1; omega)))
      by_cases ht : t < path.length
      · obtain ⟨ad, A1, c1, rfl, hc1, hCW⟩ := HRD.out.2 t.toNat (by omega)
        have hcell := (hCW _ (Kept.of_below BW.out _)).2
        have hmx := HRM.out
        have hw : IntKind.i64.wrap (t + 1) = t + 1 := IntWalk.i64_in _ (by omega)
        obtain ⟨q, hq⟩ : ∃ q, (path.getD t.toNat []).length = q := ⟨_, rfl⟩
        rw [hq] at hcell
        by_cases h3 : q ≤ 300
        · have h3' : ((300 : Int) < q) = False := eq_false (by omega)
          clear hCW hc1 hq h3
          go_wp2_with fail
          exact ⟨⟨t + 1, rfl, by omega, by omega, ⟨by first | rfl | trivial⟩⟩, by simp [intOf]; omega⟩
        · have h3' : (300 : Int) < q := by omega
          clear hCW hc1 hq h3
          go_wp2_with fail
          refine (awake_calls _ HTA.out).mono ?_
          rintro e w1 ⟨rfl, hb⟩
          have BE := Aside0.mk (BW.out.trans (hb.mono BW.out.size))
          clear hb
          go_wp2
          go_ret
          exact ⟨rfl, BE.out⟩
      · obtain rfl : t = path.length := by omega
        clear ht tn t0
        go_wp2_with fail
        obtain ⟨k, P, ls, hmv, hP0, hP1, -, -⟩ := made_val a0 [] (fun x hx => by simp at hx) (by decide) xor8 h00 h01
        obtain ⟨C, hC⟩ : ∃ C, (P + 15) / 16 = C := ⟨_, rfl⟩
        have hpl := plan_ok P hP0 hP1
        rw [hC] at hmv hpl
        obtain ⟨L0, hL0⟩ : ∃ L, levels C = L := ⟨_, rfl⟩
        rw [hL0] at hmv hpl
        obtain ⟨N, hN⟩ : ∃ N, L0.sum = N := ⟨_, rfl⟩
        rw [hN] at hmv hpl
        obtain ⟨H, hH⟩ : ∃ H, P + C + N = H := ⟨_, rfl⟩
        rw [hH] at hmv hpl
        obtain ⟨a7, h7⟩ : ∃ x, H + 1 = x := ⟨_, rfl⟩
        obtain ⟨a8, h8⟩ : ∃ x, H + 5 = x := ⟨_, rfl⟩
        obtain ⟨a9, h9q⟩ : ∃ x, H + 9 = x := ⟨_, rfl⟩
        rw [h7, h8, h9q] at hmv
        have HMV := Aside0.mk hmv
        have HPL := Aside0.mk hpl
        clear hmv hpl hC hL0 hN hH h7 h8 h9q hP0 hP1
        refine (thimblelaw18_made.calls k a0 none 0 [] P 4 C L0 N H 1 a7 a8 a9 ls _ (Kd.C_nil _ _) (by decide) HMV.out).mono ?_
        rintro e w2 ⟨lv, v10, rfl, hlv, -, hb2⟩
        obtain ⟨LA, lc, e3⟩ := Kd.R_slice hlv
        subst e3
        obtain ⟨-, hlc, hLC⟩ := Kd.R_reads' hlv
        have HLC := Aside0.mk hlc
        have HLV := Aside0.mk hLC
        have B2 := Aside0.mk (BW.out.trans (hb2.mono BW.out.size))
        have G2 := Aside0.mk (blk_below GRW.out hb2)
        clear hlv hb2 hlc hLC HMV
        go_wp2_with fail
        change Code.wp _ _ _ _ (w2.alloc (.cells (planCells P 4 C (.slice LA L0.length lc) N H 1 a7 a8 a9) 25 (0, 0)))
        have hb3 := below_alloc (Below.refl w2.heap.size w2) (.cells (planCells P 4 C (.slice LA L0.length lc) N H 1 a7 a8 a9) 25 (0, 0))
        have G10 := Aside0.mk (blk_new w2 (.cells (planCells P 4 C (.slice LA L0.length lc) N H 1 a7 a8 a9) 25 (0, 0)))
        replace B2 := Aside0.mk (B2.out.trans (hb3.mono B2.out.size))
        replace G2 := Aside0.mk (blk_below G2.out hb3)
        replace HLV := Aside0.mk (Kd.C_below HLV.out hb3)
        clear hb3
        obtain ⟨g10, hg10⟩ : ∃ g, w2.heap.size = g := ⟨_, rfl⟩
        rw [hg10] at G10 ⊢
        clear hg10
        generalize w2.alloc _ = wq at G10 B2 G2 HLV ⊢
        obtain ⟨rs, hrs⟩ : ∃ rs, chk (P :: C :: L0) P H a1 path root = rs := ⟨_, rfl⟩
        have HRS := Aside0.mk hrs
        have HI : Aside0 ((Tryd.prog.info? 29).map (·.size) = some (nums .u8 root).toArray.size) := ⟨by rw [Tryd.infoD, List.size_toArray, nums, List.length_map, HRL.out]⟩
        have HN9 : Aside0 (path.length ≤ 9) := ⟨h9⟩
        clear hrs
        refine start_ (n := 15) (S := fun w' => Below wq.heap.size wq w') (ds := []) #[false, false, false, false, false, false, false, false, false, false, false, false, false, false, false] (by kernel_rfl) rfl rfl (below_drew1 (Below.refl _ _)) (fun hHeld => ?_)
        have HH := Aside0.mk hHeld
        clear hHeld
        generalize wq.drew = w2 at HH ⊢
        refine take_ (i := 0) (N := some 34) (v := ?_) (a' := ?_) #[true, false, false, false, false, false, false, false, false, false, false, false, false, false, false] rfl rfl (by kernel_rfl) (fun _ _ _ h => h) (Or.inl ⟨by rfl, ?_⟩) HH.out ?_ ?_
        rotate_left
        · rintro w' s0
          refine ev_load_row 25 (.tmp 10) ?_ g10 ?_ 25 (planCells P 4 C (.slice LA L0.length lc) N H 1 a7 a8 a9) (0, 0) _ (blk_below G10.out s0) Tryd.underlying25 rfl Tryd.infoPlanC <;> rfl
        rotate_left
        · simp only [Act.put, List.setIfInBounds_toArray, List.set_cons_zero, List.set_cons_succ, i64_w, i32_w]
          rfl
        refine pure_ (i := 1) (N := some 35) (v := ?_) (a' := ?_) #[true, true, false, false, false, false, false, false, false, false, false, false, false, false, false] rfl rfl (by kernel_rfl) (fun _ _ _ h => h) (Or.inl ⟨by rfl, ?_⟩) ?_ ?_
        rotate_left
        · intro w'
          go_simp
          with_reducible rfl
        rotate_left
        · simp only [Act.put, List.setIfInBounds_toArray, List.set_cons_zero, List.set_cons_succ, i64_w, i32_w]
          rfl
        refine pure_ (i := 2) (N := some 36) (v := ?_) (a' := ?_) #[true, true, true, false, false, false, false, false, false, false, false, false, false, false, false] rfl rfl (by kernel_rfl) (fun _ _ _ h => h) (Or.inl ⟨by rfl, ?_⟩) ?_ ?_
        rotate_left
        · intro w'
          go_simp
          with_reducible rfl
        rotate_left
        · simp only [Act.put, List.setIfInBounds_toArray, List.set_cons_zero, List.set_cons_succ, i64_w, i32_w]
          rfl
        refine take_ (i := 3) (N := some 37) (v := ?_) (a' := ?_) #[true, true, true, true, false, false, false, false, false, false, false, false, false, false, false] rfl rfl (by kernel_rfl) (fun _ _ _ h => h) (Or.inl ⟨by rfl, ?_⟩) HH.out ?_ ?_
        rotate_left
        · rintro w' s0
          refine ev_load_row 29 (.tmp 7) ?_ g7 ?_ 29 (nums .u8 root).toArray (0, 0) _ (blk_below G2.out s0) Tryd.underlying29 rfl HI.out <;> rfl
        rotate_left
        · simp only [Act.put, List.setIfInBounds_toArray, List.set_cons_zero, List.set_cons_succ, i64_w, i32_w]
          rfl
        refine take_ (i := 5) (N := some 39) (v := ?_) (a' := ?_) #[true, true, true, true, false, true, false, false, false, false, false, false, false, false, false] rfl rfl (by kernel_rfl) (fun _ _ _ h => h) (Or.inl ⟨by rfl, ?_⟩) HH.out ?_ ?_
        rotate_left
        · rintro w' s0
          refine ev_load_row 25 (.tmp 10) ?_ g10 ?_ 25 (planCells P 4 C (.slice LA L0.length lc) N H 1 a7 a8 a9) (0, 0) _ (blk_below G10.out s0) Tryd.underlying25 rfl Tryd.infoPlanC <;> rfl
        rotate_left
        · simp only [Act.put, List.setIfInBounds_toArray, List.set_cons_zero, List.set_cons_succ, i64_w, i32_w]
          rfl
        refine pure_ (i := 6) (N := some 40) (v := ?_) (a' := ?_) #[true, true, true, true, false, true, true, false, false, false, false, false, false, false, false] rfl rfl (by kernel_rfl) (fun _ _ _ h => h) (Or.inl ⟨by rfl, ?_⟩) ?_ ?_
        rotate_left
        · intro w'
          go_simp
          with_reducible rfl
        rotate_left
        · simp only [Act.put, List.setIfInBounds_toArray, List.set_cons_zero, List.set_cons_succ, i64_w, i32_w]
          rfl
        refine pure_ (i := 7) (N := some 41) (v := ?_) (a' := ?_) #[true, true, true, true, false, true, true, true, false, false, false, false, false, false, false] rfl rfl (by kernel_rfl) (fun _ _ _ h => h) (Or.inl ⟨by rfl, ?_⟩) ?_ ?_
        rotate_left
        · intro w'
          go_simp
          with_reducible rfl
        rotate_left
        · simp only [Act.put, List.setIfInBounds_toArray, List.set_cons_zero, List.set_cons_succ, i64_w, i32_w]
          rfl
        refine take_ (i := 8) (N := some 42) (v := ?_) (a' := ?_) #[true, true, true, true, false, true, true, true, true, false, false, false, false, false, false] rfl rfl (by kernel_rfl) (fun _ _ _ h => h) (Or.inl ⟨by rfl, ?_⟩) HH.out ?_ ?_
        rotate_left
        · rintro w' s0
          refine ev_load_row 29 (.tmp 7) ?_ g7 ?_ 29 (nums .u8 root).toArray (0, 0) _ (blk_below G2.out s0) Tryd.underlying29 rfl HI.out <;> rfl
        rotate_left
        · simp only [Act.put, List.setIfInBounds_toArray, List.set_cons_zero, List.set_cons_succ, i64_w, i32_w]
          rfl
        refine one_ (i := 4) (N := some 38) #[true, true, true, true, true, true, true, true, true, false, false, false, false, false, false] rfl rfl (by kernel_rfl) (by decide) (fun K hK => ?_)
        refine goes_ Tryd.func14 (by kernel_rfl) rfl #[.pointer none, .agg (planCells P 4 C (.slice LA L0.length lc) N H 1 a7 a8 a9), .int .i64 a1, .slice A path.length c, .agg (nums .u8 root).toArray] (by rfl) rfl rfl (by simp only [List.map_toArray, List.map_cons, List.map_nil]; rfl) ?_
        refine (check_calls none (fun _ => False) [] P C N H 1 a7 a8 a9 L0 LA lc a1 A c path root w2 (fun k h => h) (Tab.below HT.out ((B2.out.trans (HH.out.mono B2.out.size)).mono (by have := HT.out.1; omega))) HPL.out (fun W' hk => low_C64 (Kd.C_below HLV.out HH.out) (fun b hb => hk.2 b hb id)) HLC.out (HRD.out.step (Kept.of_below (B2.out.trans (HH.out.mono B2.out.size)) _) (fun k h => .inl h)) HBY.out HRL.out (by have := HN9.out; omega) (by decide) HPG.out).mono ?_
        rw [HRS.out]
        rintro e w3 ⟨rfl, m, ⟨S', hL', hS', hO'⟩, -⟩
        have hb := hO'.to_below (fun k h => h.elim)
        refine ⟨_, rfl, ?_⟩
        have hb' := HH.out.trans (hb.mono HH.out.size)
        refine hK.out _ _ hb' (fun hHeld => ?_)
        clear hK K
        refine norm_ (a' := ?_) ?_ ?_
        rotate_left
        · show Act.put _ (some 38) _ = _
          simp only [Act.put, List.setIfInBounds_toArray, List.set_cons_zero, List.set_cons_succ, i64_w, i32_w]
          rfl
        replace HH := Aside0.mk hHeld
        clear hHeld hb hb'
        refine one_ (i := 9) (N := some 43) #[true, true, true, true, true, true, true, true, true, true, false, false, false, false, false] rfl rfl (by kernel_rfl) (by decide) (fun K hK => ?_)
        refine goes_ Tryd.func15 (by kernel_rfl) rfl #[.agg (planCells P 4 C (.slice LA L0.length lc) N H 1 a7 a8 a9), .int .i64 a1, .slice A path.length c, .agg (nums .u8 root).toArray] (by rfl) rfl rfl (by simp only [List.map_toArray, List.map_cons, List.map_nil]; rfl) ?_
        refine (refcheck_calls P C N H 1 a7 a8 a9 L0 LA lc a1 A c path root w3 HPL.out (Kd.C_below HLV.out HH.out) HLC.out (HRD.out.step (Kept.of_below (B2.out.trans (HH.out.mono B2.out.size)) _) (fun k h => .inl h)) HBY.out HRL.out (by have := HN9.out; omega) HPG.out).mono ?_
        rw [HRS.out]
        rintro e w5 ⟨rfl, hb⟩
        refine ⟨_, rfl, ?_⟩
        have hb' := HH.out.trans (hb.mono HH.out.size)
        refine hK.out _ _ hb' (fun hHeld => ?_)
        clear hK K
        refine norm_ (a' := ?_) ?_ ?_
        rotate_left
        · show Act.put _ (some 43) _ = _
          simp only [Act.put, List.setIfInBounds_toArray, List.set_cons_zero, List.set_cons_succ, i64_w, i32_w]
          rfl
        have hB5 := hb'
        clear hHeld hb hb'
        have hrr : (rs == rs) = true := beq_self_eq_true rs
        refine pure_ (i := 10) (N := some 44) (v := ?_) (a' := ?_) #[true, true, true, true, true, true, true, true, true, true, true, false, false, false, false] rfl rfl (by kernel_rfl) (fun _ _ _ h => h) (Or.inl ⟨by rfl, ?_⟩) ?_ ?_
        rotate_left
        · intro w'
          go_simp
          with_reducible rfl
        rotate_left
        · simp only [Act.put, List.setIfInBounds_toArray, List.set_cons_zero, List.set_cons_succ, i64_w, i32_w]
          rfl
        refine pure_ (i := 11) (N := some 45) (v := ?_) (a' := ?_) #[true, true, true, true, true, true, true, true, true, true, true, true, false, false, false] rfl rfl (by kernel_rfl) (fun _ _ _ h => h) (Or.inl ⟨by rfl, ?_⟩) ?_ ?_
        rotate_left
        · intro w'
          go_simp
          with_reducible rfl
        rotate_left
        · simp only [Act.put, List.setIfInBounds_toArray, List.set_cons_zero, List.set_cons_succ, i64_w, i32_w]
          rfl
        refine one_ (i := 12) (N := some 46) #[true, true, true, true, true, true, true, true, true, true, true, true, true, false, false] rfl rfl (by kernel_rfl) (by decide) (fun K hK => ?_)
        refine goes_ Tryd.func13 (by kernel_rfl) rfl #[] (by rfl) rfl rfl (by simp) ?_
        refine (awake_calls w5 (Tab.below HT.out ((B2.out.trans (hB5.mono B2.out.size)).mono (by have := HT.out.1; omega)))).mono ?_
        rintro e w6 ⟨rfl, hb⟩
        refine ⟨_, rfl, ?_⟩
        have hb' := hB5.trans (hb.mono hB5.size)
        refine hK.out _ _ hb' (fun hHeld => ?_)
        clear hK K
        refine norm_ (a' := ?_) ?_ ?_
        rotate_left
        · show Act.put _ (some 46) _ = _
          simp only [Act.put, List.setIfInBounds_toArray, List.set_cons_zero, List.set_cons_succ, i64_w, i32_w]
          rfl
        have BF := Aside0.mk hHeld
        clear hHeld hb hb' hB5 HH
        refine pure_ (i := 13) (N := some 47) (v := ?_) (a' := ?_) #[true, true, true, true, true, true, true, true, true, true, true, true, true, true, false] rfl rfl (by kernel_rfl) (fun _ _ _ h => h) (Or.inl ⟨by rfl, ?_⟩) ?_ ?_
        rotate_left
        · intro w'
          go_simp
          with_reducible rfl
        rotate_left
        · simp only [Act.put, List.setIfInBounds_toArray, List.set_cons_zero, List.set_cons_succ, i64_w, i32_w]
          rfl
        refine pure_ (i := 14) (N := some 8) (v := ?_) (a' := ?_) #[true, true, true, true, true, true, true, true, true, true, true, true, true, true, true] rfl rfl (by kernel_rfl) (fun _ _ _ h => h) (Or.inl ⟨by rfl, ?_⟩) ?_ ?_
        rotate_left
        · intro w'
          go_simp
          with_reducible rfl
        rotate_left
        · simp only [Act.put, List.setIfInBounds_toArray, List.set_cons_zero, List.set_cons_succ, i64_w, i32_w]
          rfl
        refine done_ (by kernel_rfl) ?_
        go_wp2
        go_ret
        exact ⟨rfl, B2.out.trans (BF.out.mono B2.out.size)⟩
  · have h9' : (9 : Int) < path.length := by omega
    go_enter Tryd.func4, Tryd.ntmps4
    go_wp2_with fail
    change Calls _ _ _ (w.alloc (.cells (nums .u8 root).toArray 29 (0, 0))) _
    refine (awake_calls _ (Tab.below HT.out BW.out)).mono ?_
    rintro e w1 ⟨rfl, hb⟩
    have BE := Aside0.mk (BW.out.trans (hb.mono BW.out.size))
    clear hb
    go_wp2
    go_ret
    exact ⟨rfl, BE.out⟩
end Go.Proofs.YtgmdgkanfhoahaaDoor.LawC
