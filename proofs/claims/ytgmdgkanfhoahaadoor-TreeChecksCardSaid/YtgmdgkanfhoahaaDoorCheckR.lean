/- ref18.Check: the walk. -/
import Derived.Test.YtgmdgkanfhoahaaDoorCheckT
namespace Go.Proofs.YtgmdgkanfhoahaaDoor.CheckR
open Go.RowKit Go.Proofs.YtgmdgkanfhoahaaDoor.ShaPure Go.Proofs.YtgmdgkanfhoahaaDoor.ShaBlk Go.Proofs.YtgmdgkanfhoahaaDoor.ShaWrite Go.Proofs.YtgmdgkanfhoahaaDoor.ShaSum Go.Proofs.YtgmdgkanfhoahaaDoor.ShaEnd Go.Proofs.YtgmdgkanfhoahaaDoor.ShaOf Go.Proofs.YtgmdgkanfhoahaaDoor.BytesW Go.Proofs.YtgmdgkanfhoahaaDoor.Put Go.Proofs.YtgmdgkanfhoahaaDoor.LogW Go.Proofs.YtgmdgkanfhoahaaDoor.Dig Go.Proofs.YtgmdgkanfhoahaaDoor.Hdr Go.Proofs.YtgmdgkanfhoahaaDoor.Above Go.Proofs.YtgmdgkanfhoahaaDoor.Build Go.Proofs.YtgmdgkanfhoahaaDoor.BuildW Go.Proofs.YtgmdgkanfhoahaaDoor.BuildE Go.Proofs.YtgmdgkanfhoahaaDoor.Kid Go.Proofs.YtgmdgkanfhoahaaDoor.AwakeA Go.Proofs.YtgmdgkanfhoahaaDoor.PlanP Go.Proofs.YtgmdgkanfhoahaaDoor.Chk Go.Proofs.YtgmdgkanfhoahaaDoor.CheckT Go.Proofs.YtgmdgkanfhoahaaDoor.PTreePaths Go.Proofs.YtgmdgkanfhoahaaDoorW.PrintWords Go.Proofs.YtgmdgkanfhoahaaDoorW.PrintLast Go.Proofs.YtgmdgkanfhoahaaDoorW.PrintMore
set_option linter.unusedVariables false
set_option linter.unusedSimpArgs false

set_option maxHeartbeats 8000000 in
set_option maxRecDepth 100000 in
theorem refcheck_calls (P C N H a6 a7 a8 a9 : Int) (L0 : List Int) (LA : Option Addr) (lc : Nat) (page : Int) (A : Option Addr) (c : Nat) (path : List (List Int)) (root : List Int) (w : World)
    (hp : Plan P C L0 H) (hLv : Kd.C (Kd.int .i64) w LA L0.length L0) (hlc : L0.length ≤ lc) (hRD : RD w (fun _ => False) A path) (hby : ∀ b ∈ path, Bytes b) (hroot : root.length = 32) (hn : path.length ≤ 1000) (hpg : page ≤ 9223372036854775807) :
    Calls Tryd.prog 15 #[.agg (planCells P 4 C (.slice LA L0.length lc) N H a6 a7 a8 a9), .int .i64 page, .slice A path.length c, .agg (nums .u8 root).toArray] w fun e w' => e = .returned (.int .i64 (chk (P :: C :: L0) P H page path root)) ∧ Below w.heap.size w w' := by
  have HP := Aside0.mk hp
  have HLV := Aside0.mk hLv
  have HLC := Aside0.mk hlc
  have HRD := Aside0.mk hRD
  have HBY := Aside0.mk hby
  have HRL := Aside0.mk hroot
  have HNN := Aside0.mk hn
  have HPG := Aside0.mk hpg
  have HRM := Aside0.mk hRD.1
  clear hp hLv hlc hRD hby hroot hn hpg
  go_enter Tryd.func15, Tryd.ntmps15
  go_wp2_with fail
  have GB := Aside0.mk (blk_alloc (blk_new w (.cells (planCells P 4 C (.slice LA L0.length lc) N H a6 a7 a8 a9) 25 (0, 0))) (.cells (nums .u8 root).toArray 29 (0, 0)))
  have GR := Aside0.mk (blk_new (w.alloc (.cells (planCells P 4 C (.slice LA L0.length lc) N H a6 a7 a8 a9) 25 (0, 0))) (.cells (nums .u8 root).toArray 29 (0, 0)))
  rw [show (w.alloc (.cells (planCells P 4 C (.slice LA L0.length lc) N H a6 a7 a8 a9) 25 (0, 0))).heap.size = w.heap.size + 1 from Array.size_push ..] at GR
  have BEL := Aside0.mk (below_alloc (below_alloc (Below.refl w.heap.size w) (.cells (planCells P 4 C (.slice LA L0.length lc) N H a6 a7 a8 a9) 25 (0, 0))) (.cells (nums .u8 root).toArray 29 (0, 0)))
  change Calls _ _ #[.agg (planCells P 4 C (.slice LA L0.length lc) N H a6 a7 a8 a9), _] ((w.alloc (.cells (planCells P 4 C (.slice LA L0.length lc) N H a6 a7 a8 a9) 25 (0, 0))).alloc (.cells (nums .u8 root).toArray 29 (0, 0))) _
  generalize World.alloc (World.alloc w _) _ = wa at GB GR BEL ⊢
  obtain ⟨gr, hgr⟩ : ∃ gr, w.heap.size + 1 = gr := ⟨_, rfl⟩
  obtain ⟨gb, hgb⟩ : ∃ gb, w.heap.size = gb := ⟨_, rfl⟩
  rw [hgr] at GR ⊢
  rw [hgb] at GB ⊢
  clear hgr hgb
  by_cases hb : page < 0 ∨ page ≥ P
  · refine (thimbleref16_Path.calls 40 P 4 C LA lc L0 N H a6 a7 a8 a9 page [] 1 wa (Kd.C_below HLV.out BEL.out) HLC.out (by rw [ref_path_f P 4 C N a6 a7 a8 a9 L0 H HP.out 40 (by decide) page HPG.out, if_pos hb])).mono ?_
    rintro e w1 ⟨v0, rfl, -, hb1⟩
    have HCK : Aside0 (chk (P :: C :: L0) P H page path root = 1) := ⟨by unfold chk; rw [if_pos hb]⟩
    replace BEL := Aside0.mk (BEL.out.trans (hb1.mono BEL.out.size))
    clear hb hb1
    go_wp2
    go_ret
    exact ⟨by rw [HCK.out]; rfl, BEL.out⟩
  have hpg0 : 0 ≤ page := by omega
  have hpg1 : page < P := by omega
  have HB := Aside0.mk hb
  clear hb
  have HUF := Aside0.mk (up_find0 HP.out page hpg0 hpg1)
  have HPP : Aside0 (thimbleref16_Path.f 40 P 4 C L0 N H a6 a7 a8 a9 page = some (up (P :: C :: L0) 0 16 page, 0)) := ⟨by rw [ref_path_f P 4 C N a6 a7 a8 a9 L0 H HP.out 40 (by decide) page HPG.out, if_neg HB.out]⟩
  clear hpg0 hpg1
  obtain ⟨bl, hbl⟩ : ∃ bl, up (P :: C :: L0) 0 16 page = bl := ⟨_, rfl⟩
  rw [hbl] at HUF HPP
  have HBL := Aside0.mk hbl
  clear hbl
  refine (thimbleref16_Path.calls 40 P 4 C LA lc L0 N H a6 a7 a8 a9 page bl 0 wa (Kd.C_below HLV.out BEL.out) HLC.out HPP.out).mono ?_
  rintro e w1 ⟨v0, rfl, hR, hb1⟩
  obtain ⟨RB, rb, er⟩ := Kd.R_slice hR
  subst er
  have HBR := Aside0.mk hR
  replace GB := Aside0.mk (blk_below GB.out hb1)
  replace GR := Aside0.mk (blk_below GR.out hb1)
  replace BEL := Aside0.mk (BEL.out.trans (hb1.mono BEL.out.size))
  clear hR hb1 HPP
  by_cases hlen : (path.length : Int) = bl.length
  · have hl2 : ((path.length : Int) != bl.length) = false := bne_eq_false_iff_eq.mpr hlen
    have HLE := Aside0.mk hlen
    clear hlen
    go_wp2_with fail
    go_loopw [11] (fun i wr => ∃ t : Int, i = .int .i64 t ∧ 0 ≤ t ∧ t ≤ path.length ∧ Aside0 (wr = w1) ∧ Aside0 (∀ j, j < t.toNat → (path.getD j []).length = 256)) (fun i _ => path.length - (intOf i).toNat)
    case atStart => exact ⟨0, rfl, by omega, by omega, ⟨rfl⟩, ⟨fun j hj => by omega⟩⟩
    case round =>
      obtain ⟨t, rfl, t0, tn, HW, HJ⟩ := hrel
      obtain rfl := HW.out.symm
      by_cases ht : t < path.length
      · obtain ⟨ad, A1, c1, rfl, hc1, hCW⟩ := HRD.out.2 t.toNat (by omega)
        have hcell := (hCW _ (Kept.of_below BEL.out _)).2
        have hmx := HRM.out
        have hw : IntKind.i64.wrap (t + 1) = t + 1 := IntWalk.i64_in _ (by omega)
        by_cases h256 : (path.getD t.toNat []).length = 256
        · have HJN : Aside0 (∀ j, j < (t + 1).toNat → (path.getD j []).length = 256) := ⟨fun j hj => by
            by_cases e : j = t.toNat
            · rw [e]; exact h256
            · exact HJ.out j (by omega)⟩
          rw [h256] at hcell
          clear h256 hCW hc1
          go_wp2_with fail
          exact ⟨⟨t + 1, rfl, by omega, by omega, ⟨by first | rfl | trivial⟩, HJN⟩, by simp [intOf]; omega⟩
        · have HCK : Aside0 (chk (P :: C :: L0) P H page path root = 3) := ⟨by
            unfold chk
            rw [if_neg HB.out, HBL.out, if_neg (by have := HLE.out; omega), if_pos]
            rw [List.any_eq_true]
            refine ⟨path.getD t.toNat [], ?_, bne_iff_ne.mpr h256⟩
            rw [List.getD_eq_getElem?_getD, List.getElem?_eq_getElem (by omega)]
            exact List.getElem_mem (by omega)⟩
          obtain ⟨q, hq⟩ : ∃ q, (path.getD t.toNat []).length = q := ⟨_, rfl⟩
          rw [hq] at hcell h256
          have hq2 : ((q : Int) != 256) = true := bne_iff_ne.mpr (by omega)
          clear hCW hc1 hq h256
          go_wp2
          go_ret
          exact ⟨by rw [HCK.out]; rfl, BEL.out⟩
      · obtain rfl : t = path.length := by omega
        have HALL : Aside0 (∀ j, j < path.length → (path.getD j []).length = 256) := ⟨fun j hj => HJ.out j (by omega)⟩
        have HNB : Aside0 (path.any (fun b => b.length != 256) = false) := ⟨by
          rw [List.any_eq_false]
          intro b hb
          obtain ⟨j, hj, rfl⟩ := List.getElem_of_mem hb
          have := HALL.out j hj
          rw [List.getD_eq_getElem?_getD, List.getElem?_eq_getElem hj] at this
          simpa using this⟩
        clear ht tn t0 HJ
        clear hl2
        go_wp2_with fail
        go_loopw [12] (fun i wr => ∃ (t : Int), i = .int .i64 t ∧ 0 ≤ t ∧ t ≤ path.length ∧ Aside0 (Below w1.heap.size w1 wr) ∧ Aside0 (∀ j, j < t.toNat → good (P :: C :: L0) H bl path root j = true)) (fun i _ => path.length - (intOf i).toNat)
        case atStart => exact ⟨0, rfl, by omega, by omega, ⟨Below.refl _ _⟩, ⟨fun j hj => by omega⟩⟩
        case round =>
          obtain ⟨t, rfl, t0, tn, HO, HG⟩ := hrel
          have BWR := Aside0.mk (BEL.out.trans (HO.out.mono BEL.out.size))
          have GBr := Aside0.mk (blk_below GB.out HO.out)
          have GRr := Aside0.mk (blk_below GR.out HO.out)
          have HBC : Aside0 (Kd.C (Kd.int .i64) wr RB bl.length bl) := ⟨Kd.C_below (Kd.R_reads' HBR.out).2.2 HO.out⟩
          by_cases ht : t < path.length
          · obtain ⟨ad, A1, c1, rfl, hc1, hCW⟩ := HRD.out.2 t.toNat (by omega)
            have h256 := HALL.out t.toNat (by omega)
            obtain ⟨xt, hxt⟩ : ∃ xt, path.getD t.toNat [] = xt := ⟨_, rfl⟩
            rw [hxt] at h256 hCW hc1
            have HXL := Aside0.mk h256
            rw [h256] at hCW hc1
            have HCW1 : Aside0 (∀ W, Below wr.heap.size wr W → Kd.C (Kd.int .u8) W A1 256 xt ∧ W.cell? (ad.add t.toNat) = some (.slice A1 256 c1)) := ⟨fun W hW => hCW W (Kept.of_below (BWR.out.trans (hW.mono BWR.out.size)) _)⟩
            have HC1 := Aside0.mk hc1
            have HXB : Aside0 (Bytes xt) := ⟨by rw [← hxt]; exact getD_bytes HBY.out t.toNat⟩
            have HXT := Aside0.mk hxt
            have hmx := HRM.out
            have hw : IntKind.i64.wrap (t + 1) = t + 1 := IntWalk.i64_in _ (by omega)
            have HI : Aside0 ((Tryd.prog.info? 29).map (·.size) = some (nums .u8 root).toArray.size) := ⟨by rw [Tryd.infoD, List.size_toArray, nums, List.length_map, HRL.out]⟩
            have HOc : Aside0 ((nums .u8 root).toArray.all (·.oneCell') = true) := ⟨by simp [nums, Value.oneCell']⟩
            have HZ : Aside0 ((nums .u8 (List.replicate 32 0)).toArray.size = (nums .u8 root).toArray.size) := ⟨by rw [List.size_toArray, List.size_toArray, nums, nums, List.length_map, List.length_map, HRL.out, List.length_replicate]⟩
            clear h256 hCW hc1 hxt
            obtain ⟨adb, rfl, hbc⟩ := Kd.at_int HBC.out t t0 (by have := HLE.out; omega)
            have HBT : Aside0 (rd bl t = bl.getD t.toNat 0) := ⟨rfl⟩
            obtain ⟨bt, hbt⟩ : ∃ bt, rd bl t = bt := ⟨_, rfl⟩
            rw [hbt] at hbc HBT
            have HUT := HUF.out t.toNat (by have := HLE.out; omega)
            rw [← HBT.out] at HUT
            have HBTR := Aside0.mk (show 0 ≤ bt ∧ bt ≤ 100000 from ⟨HUT.1, HUT.2.1⟩)
            have HBC0 := Aside0.mk hbc
            have htb : t < (bl.length : Int) := by have := HLE.out; omega
            clear hbt hbc
            by_cases hlast : t + 1 < path.length
            · obtain ⟨fb, fa, hf, hf0, hf1⟩ : ∃ b a, find (H - 1) (P :: C :: L0) 0 16 bt = (b, a, 0) ∧ 0 ≤ a ∧ a < 8 := by
                have h := HUT.2.2
                rw [if_pos (by have := HLE.out; omega)] at h
                exact h
              have HFA := Aside0.mk (And.intro hf0 hf1)
              have HFE : Aside0 (thimbleref16_Parent.f 14 P 4 C L0 N H a6 a7 a8 a9 bt = some (fb, fa, 0)) := ⟨by rw [ref_parent_f P 4 C N a6 a7 a8 a9 L0 H HP.out 14 (by decide) bt (by have := HBTR.out; omega), if_neg (by have := HBTR.out; omega), hf]⟩
              obtain ⟨ad2, A2, c2, e2, hc2, hCW2⟩ := HRD.out.2 (t.toNat + 1) (by omega)
              injection e2 with e2
              subst e2
              obtain ⟨x2, hx2⟩ : ∃ x2, path.getD (t.toNat + 1) [] = x2 := ⟨_, rfl⟩
              have h2l := HALL.out (t.toNat + 1) (by omega)
              rw [hx2] at hCW2 hc2 h2l
              rw [h2l] at hCW2 hc2
              have HL2 := Aside0.mk h2l
              obtain ⟨WL, hWL⟩ : ∃ WL, kid fa.toNat x2 = WL := ⟨_, rfl⟩
              have HKW := Aside0.mk hWL
              have HWT : Aside0 (want (P :: C :: L0) H bl path root t.toNat = WL) := ⟨by unfold want slot; rw [if_pos (by omega), ← HBT.out, hf, hx2]; exact hWL⟩
              have HWL : Aside0 (WL.length = 32) := ⟨by rw [← hWL]; exact kid_length h2l (by omega)⟩
              have HWI : Aside0 ((Tryd.prog.info? 29).map (·.size) = some (nums .u8 WL).toArray.size) := ⟨by rw [Tryd.infoD, List.size_toArray, nums, List.length_map, HWL.out]⟩
              have HWO : Aside0 ((nums .u8 WL).toArray.all (·.oneCell') = true) := ⟨by simp [nums, Value.oneCell']⟩
              have HWZ : Aside0 ((nums .u8 root).toArray.size = (nums .u8 WL).toArray.size) := ⟨by rw [List.size_toArray, List.size_toArray, nums, nums, List.length_map, List.length_map, HWL.out, HRL.out]⟩
              have HCW2 : Aside0 (∀ W, Below wr.heap.size wr W → Kd.C (Kd.int .u8) W A2 256 x2 ∧ W.cell? (ad.add (t.toNat + 1)) = some (.slice A2 256 c2)) := ⟨fun W hW => hCW2 W (Kept.of_below (BWR.out.trans (hW.mono BWR.out.size)) _)⟩
              clear hWL h2l hx2 hc2 hCW2 hf hf0 hf1 HUT
              go_wp2_with (first
                | (refine wpList_load_row rfl 29 (.tmp 7) rfl gr rfl 29 (nums .u8 root).toArray _ _ GRr.out Tryd.underlying29 rfl HI.out ?_)
                | (refine wpList_store_row rfl 29 (.tmp 13) (.tmp 48) rfl wr.heap.size (nums .u8 root).toArray rfl rfl 29 (nums .u8 (List.replicate 32 0)).toArray (blk_new _ _) HI.out HZ.out HOc.out ?_
                   have hbq0 : Below wr.heap.size wr ((wr.alloc (.cells (nums .u8 (List.replicate 32 0)).toArray 29 (0, 0))).setRow wr.heap.size (nums .u8 root).toArray) := (below_alloc (Below.refl _ _) _).trans ⟨rfl, rfl, rfl, by rw [setRow_size]; exact Nat.le_refl _, fun k hk => setRow_other _ _ _ _ (by omega)⟩
                   have hgq0 : ((wr.alloc (.cells (nums .u8 (List.replicate 32 0)).toArray 29 (0, 0))).setRow wr.heap.size (nums .u8 root).toArray).heap[wr.heap.size]? = some (.cells (nums .u8 root).toArray 29 (0, 0)) := setRow_heap _ wr.heap.size _ _ _ _ (blk_new wr _)
                   have BQ := Aside0.mk hbq0
                   have GQ := Aside0.mk hgq0
                   clear hbq0 hgq0
                   obtain ⟨g17, hg17⟩ : ∃ g17, wr.heap.size = g17 := ⟨_, rfl⟩
                   have HG17 : Aside0 (g17 = wr.heap.size) := ⟨hg17.symm⟩
                   have BQ' : Aside0 (Below wr.heap.size wr ((wr.alloc (.cells (nums .u8 (List.replicate 32 0)).toArray 29 (0, 0))).setRow g17 (nums .u8 root).toArray)) := ⟨by rw [← hg17]; exact BQ.out⟩
                   rw [hg17] at GQ ⊢
                   change wpList _ _ _ _ _ ((wr.alloc (.cells (nums .u8 (List.replicate 32 0)).toArray 29 (0, 0))).setRow g17 (nums .u8 root).toArray)
                   clear hg17 BQ
                   generalize (wr.alloc (.cells (nums .u8 (List.replicate 32 0)).toArray 29 (0, 0))).setRow g17 (nums .u8 root).toArray = wq at GQ BQ' ⊢))
              have GBq := Aside0.mk (blk_below GBr.out BQ'.out)
              have hbq : wq.cell? (adb.add t.toNat) = some (.int .i64 bt) := cell_same HBC0.out (BQ'.out.block _ (cell_lt HBC0.out))
              have HLW : Aside0 (∀ W, Below wq.heap.size wq W → Kd.C (Kd.int .i64) W LA L0.length L0) := ⟨fun W hW => Kd.C_below HLV.out ((BWR.out.trans (BQ'.out.mono BWR.out.size)).trans (hW.mono (Nat.le_trans BWR.out.size BQ'.out.size)))⟩
              refine start_ (n := 12) (S := fun w' => Below wq.heap.size wq w') (ds := [10]) #[false, false, false, false, false, false, false, false, false, false, false, false] (by kernel_rfl) rfl rfl (below_drew1 (Below.refl _ _)) (fun hHeld => ?_)
              have HH := Aside0.mk hHeld
              clear hHeld
              generalize wq.drew = w2 at HH ⊢
              refine take_ (i := 0) (N := some 50) (v := ?_) (a' := ?_) #[true, false, false, false, false, false, false, false, false, false, false, false] rfl rfl (by kernel_rfl) (fun _ _ _ h => h) (Or.inl ⟨by rfl, ?_⟩) HH.out ?_ ?_
              rotate_left
              · rintro w' s0
                refine ev_load_row 25 (.tmp 4) ?_ gb ?_ 25 (planCells P 4 C (.slice LA L0.length lc) N H a6 a7 a8 a9) (0, 0) _ (blk_below GBq.out s0) Tryd.underlying25 rfl Tryd.infoPlanC <;> rfl
              rotate_left
              · simp only [Act.put, List.setIfInBounds_toArray, List.set_cons_zero, List.set_cons_succ, i64_w, i32_w]
                rfl
              refine pure_ (i := 1) (N := some 51) (v := ?_) (a' := ?_) #[true, true, false, false, false, false, false, false, false, false, false, false] rfl rfl (by kernel_rfl) (fun _ _ _ h => h) (Or.inl ⟨by rfl, ?_⟩) ?_ ?_
              rotate_left
              · intro w'
                go_simp
                with_reducible rfl
              rotate_left
              · simp only [Act.put, List.setIfInBounds_toArray, List.set_cons_zero, List.set_cons_succ, i64_w, i32_w]
                rfl
              refine pure_ (i := 2) (N := some 52) (v := ?_) (a' := ?_) #[true, true, true, false, false, false, false, false, false, false, false, false] rfl rfl (by kernel_rfl) (fun _ _ _ h => h) (Or.inl ⟨by rfl, ?_⟩) ?_ ?_
              rotate_left
              · intro w'
                go_simp
                with_reducible rfl
              rotate_left
              · simp only [Act.put, List.setIfInBounds_toArray, List.set_cons_zero, List.set_cons_succ, i64_w, i32_w]
                rfl
              refine pure_ (i := 3) (N := some 53) (v := ?_) (a' := ?_) #[true, true, true, true, false, false, false, false, false, false, false, false] rfl rfl (by kernel_rfl) (fun _ _ _ h => h) (Or.inl ⟨by rfl, ?_⟩) ?_ ?_
              rotate_left
              · intro w'
                go_simp
                with_reducible rfl
              rotate_left
              · simp only [Act.put, List.setIfInBounds_toArray, List.set_cons_zero, List.set_cons_succ, i64_w, i32_w]
                rfl
              refine take_ (i := 4) (N := some 54) (v := ?_) (a' := ?_) #[true, true, true, true, true, false, false, false, false, false, false, false] rfl rfl (by kernel_rfl) (fun _ _ _ h => h) (Or.inl ⟨by rfl, ?_⟩) HH.out ?_ ?_
              rotate_left
              · rintro w' s0
                have z0 : w'.cell? (adb.add t.toNat) = some (.int .i64 bt) := cell_same hbq (s0.block _ (cell_lt hbq))
                clear s0
                go_simp
                with_reducible rfl
              rotate_left
              · simp only [Act.put, List.setIfInBounds_toArray, List.set_cons_zero, List.set_cons_succ, i64_w, i32_w]
                rfl
              refine join_ (σ := Nat) 2 #[true, true, true, true, true, true, true, true, true, true, false, false] (fun s => [(55, .tuple #[.agg #[.int .i64 fb, .int .i64 fa], .int .i64 0]), (49, .tuple #[.agg #[.int .i64 fb, .int .i64 fa], .int .i64 0]), (56, .agg #[.int .i64 fb, .int .i64 fa]), (57, .int .i64 0), (14, .pointer (some ⟨s, 0, none⟩))]) (fun s w' => w'.heap[s]? = some (.cells #[.int .i64 0, .int .i64 0] 58 (0, 0)) ∧ Below wq.heap.size wq w' ∧ wq.heap.size ≤ s) ?_ ?_
              rotate_left
              · intro hj
                have HJ := Aside0.mk hj
                clear hj
                refine two_ (i := 5) (j := 9) (Ni := some 55) (Nj := some 14) #[true, true, true, true, true, true, false, false, false, false, false, false] #[true, true, true, true, true, false, false, false, false, true, false, false] rfl rfl rfl rfl (by kernel_rfl) (by decide) (by decide) (fun K hK => ?_) (fun K hK => ?_)
                · refine goes_ Tryd.func22 (by kernel_rfl) rfl #[.agg (planCells P 4 C (.slice LA L0.length lc) N H a6 a7 a8 a9), .int .i64 bt] (by rfl) rfl rfl (by simp only [List.map_toArray, List.map_cons, List.map_nil]; rfl) ?_
                  refine (thimbleref16_Parent.calls 14 P 4 C LA lc L0 N H a6 a7 a8 a9 bt fb fa 0 w2 (HLW.out w2 HH.out) HLC.out HFE.out).mono ?_
                  rintro e w3 ⟨rfl, hb⟩
                  refine ⟨_, rfl, ?_⟩
                  have hb' := HH.out.trans (hb.mono HH.out.size)
                  refine hK.out _ _ hb' (fun hHeld => ?_)
                  clear hK K
                  refine norm_ (a' := ?_) ?_ ?_
                  rotate_left
                  · show Act.put _ (some 55) _ = _
                    simp only [Act.put, List.setIfInBounds_toArray, List.set_cons_zero, List.set_cons_succ, i64_w, i32_w]
                    rfl
                  replace HH := Aside0.mk hHeld
                  clear hHeld hb hb'
                  refine pure_ (i := 6) (N := some 49) (v := ?_) (a' := ?_) #[true, true, true, true, true, true, true, false, false, false, false, false] rfl rfl (by kernel_rfl) (fun _ _ _ h => h) (Or.inl ⟨by rfl, ?_⟩) ?_ ?_
                  rotate_left
                  · intro w'
                    go_simp
                    with_reducible rfl
                  rotate_left
                  · simp only [Act.put, List.setIfInBounds_toArray, List.set_cons_zero, List.set_cons_succ, i64_w, i32_w]
                    rfl
                  refine pure_ (i := 7) (N := some 56) (v := ?_) (a' := ?_) #[true, true, true, true, true, true, true, true, false, false, false, false] rfl rfl (by kernel_rfl) (fun _ _ _ h => h) (Or.inl ⟨by rfl, ?_⟩) ?_ ?_
                  rotate_left
                  · intro w'
                    go_simp
                    with_reducible rfl
                  rotate_left
                  · simp only [Act.put, List.setIfInBounds_toArray, List.set_cons_zero, List.set_cons_succ, i64_w, i32_w]
                    rfl
                  refine pure_ (i := 8) (N := some 57) (v := ?_) (a' := ?_) #[true, true, true, true, true, true, true, true, true, false, false, false] rfl rfl (by kernel_rfl) (fun _ _ _ h => h) (Or.inl ⟨by rfl, ?_⟩) ?_ ?_
                  rotate_left
                  · intro w'
                    go_simp
                    with_reducible rfl
                  rotate_left
                  · simp only [Act.put, List.setIfInBounds_toArray, List.set_cons_zero, List.set_cons_succ, i64_w, i32_w]
                    rfl
                  refine one_ (i := 9) (N := some 14) #[true, true, true, true, true, true, true, true, true, true, false, false] rfl rfl (by kernel_rfl) (by decide) (fun K hK => ?_)
                  refine value_ (w1 := w3.alloc (.cells #[.int .i64 0, .int .i64 0] 58 (0, 0))) (v := .pointer (some ⟨w3.heap.size, 0, none⟩)) (by rfl) rfl (by go_simp) ?_
                  have hn9 := blk_new w3 (.cells #[.int .i64 0, .int .i64 0] 58 (0, 0))
                  have hb9 := below_alloc HH.out (.cells #[.int .i64 0, .int .i64 0] 58 (0, 0))
                  have hs9 := HH.out.size
                  refine hK.out _ _ hb9 (fun hHeld => ?_)
                  clear hK K
                  refine norm_ (a' := ?_) ?_ ?_
                  rotate_left
                  · show Act.put _ (some 14) _ = _
                    simp only [Act.put, List.setIfInBounds_toArray, List.set_cons_zero, List.set_cons_succ, i64_w, i32_w]
                    rfl
                  exact HJ.out w3.heap.size _ ⟨hn9, hb9, hs9⟩
                · refine value_ (w1 := w2.alloc (.cells #[.int .i64 0, .int .i64 0] 58 (0, 0))) (v := .pointer (some ⟨w2.heap.size, 0, none⟩)) (by rfl) rfl (by go_simp) ?_
                  have hn9 := blk_new w2 (.cells #[.int .i64 0, .int .i64 0] 58 (0, 0))
                  have hb9 := below_alloc HH.out (.cells #[.int .i64 0, .int .i64 0] 58 (0, 0))
                  have hs9 := HH.out.size
                  refine hK.out _ _ hb9 (fun hHeld => ?_)
                  clear hK K
                  refine norm_ (a' := ?_) ?_ ?_
                  rotate_left
                  · show Act.put _ (some 14) _ = _
                    simp only [Act.put, List.setIfInBounds_toArray, List.set_cons_zero, List.set_cons_succ, i64_w, i32_w]
                    rfl
                  clear hHeld
                  replace HH := Aside0.mk hb9
                  obtain ⟨s9, hq9⟩ : ∃ s9, w2.heap.size = s9 := ⟨_, rfl⟩
                  rw [hq9] at hn9 hs9 ⊢
                  generalize w2.alloc (.cells #[.int .i64 0, .int .i64 0] 58 (0, 0)) = w3 at HH hn9 ⊢
                  clear hb9 hq9
                  refine one_ (i := 5) (N := some 55) #[true, true, true, true, true, true, false, false, false, true, false, false] rfl rfl (by kernel_rfl) (by decide) (fun K hK => ?_)
                  refine goes_ Tryd.func22 (by kernel_rfl) rfl #[.agg (planCells P 4 C (.slice LA L0.length lc) N H a6 a7 a8 a9), .int .i64 bt] (by rfl) rfl rfl (by simp only [List.map_toArray, List.map_cons, List.map_nil]; rfl) ?_
                  refine (thimbleref16_Parent.calls 14 P 4 C LA lc L0 N H a6 a7 a8 a9 bt fb fa 0 w3 (HLW.out w3 HH.out) HLC.out HFE.out).mono ?_
                  rintro e w4 ⟨rfl, hb⟩
                  refine ⟨_, rfl, ?_⟩
                  have hb' := HH.out.trans (hb.mono HH.out.size)
                  have hn8 := blk_below hn9 hb
                  refine hK.out _ _ hb' (fun hHeld => ?_)
                  clear hK K
                  refine norm_ (a' := ?_) ?_ ?_
                  rotate_left
                  · show Act.put _ (some 55) _ = _
                    simp only [Act.put, List.setIfInBounds_toArray, List.set_cons_zero, List.set_cons_succ, i64_w, i32_w]
                    rfl
                  clear hHeld
                  refine pure_ (i := 6) (N := some 49) (v := ?_) (a' := ?_) #[true, true, true, true, true, true, true, false, false, true, false, false] rfl rfl (by kernel_rfl) (fun _ _ _ h => h) (Or.inl ⟨by rfl, ?_⟩) ?_ ?_
                  rotate_left
                  · intro w'
                    go_simp
                    with_reducible rfl
                  rotate_left
                  · simp only [Act.put, List.setIfInBounds_toArray, List.set_cons_zero, List.set_cons_succ, i64_w, i32_w]
                    rfl
                  refine pure_ (i := 7) (N := some 56) (v := ?_) (a' := ?_) #[true, true, true, true, true, true, true, true, false, true, false, false] rfl rfl (by kernel_rfl) (fun _ _ _ h => h) (Or.inl ⟨by rfl, ?_⟩) ?_ ?_
                  rotate_left
                  · intro w'
                    go_simp
                    with_reducible rfl
                  rotate_left
                  · simp only [Act.put, List.setIfInBounds_toArray, List.set_cons_zero, List.set_cons_succ, i64_w, i32_w]
                    rfl
                  refine pure_ (i := 8) (N := some 57) (v := ?_) (a' := ?_) #[true, true, true, true, true, true, true, true, true, true, false, false] rfl rfl (by kernel_rfl) (fun _ _ _ h => h) (Or.inl ⟨by rfl, ?_⟩) ?_ ?_
                  rotate_left
                  · intro w'
                    go_simp
                    with_reducible rfl
                  rotate_left
                  · simp only [Act.put, List.setIfInBounds_toArray, List.set_cons_zero, List.set_cons_succ, i64_w, i32_w]
                    rfl
                  exact HJ.out s9 _ ⟨hn8, hb', hs9⟩
              rintro gs w5 ⟨hP5, hB5, hG5⟩
              refine norm_ (a' := ?_) ?_ ?_
              rotate_left
              · simp only [putAll, Act.put, List.setIfInBounds_toArray, List.set_cons_zero, List.set_cons_succ, i64_w, i32_w]
                rfl
              refine last_ (i := 10) (N := none) #[true, true, true, true, true, true, true, true, true, true, true, false] rfl rfl (by kernel_rfl) (by decide) (fun K hK => ?_)
              refine skip_ (w1 := w5.setRow gs #[.int .i64 fb, .int .i64 fa]) (by rfl) rfl (by refine ev_store_row 58 (.tmp 14) (.tmp 56) ?_ gs #[.int .i64 fb, .int .i64 fa] ?_ ?_ 58 #[.int .i64 0, .int .i64 0] hP5 Tryd.infoPlace rfl (by simp [Value.oneCell']) <;> rfl) ?_
              refine hK.out _ _ ?_
              clear hK K
              refine norm_ (a' := ?_) ?_ ?_
              rotate_left
              · rfl
              refine pure_ (i := 11) (N := some 15) (v := ?_) (a' := ?_) #[true, true, true, true, true, true, true, true, true, true, true, true] rfl rfl (by kernel_rfl) (fun _ _ _ h => h) (Or.inl ⟨by rfl, ?_⟩) ?_ ?_
              rotate_left
              · intro w'
                go_simp
                with_reducible rfl
              rotate_left
              · simp only [Act.put, List.setIfInBounds_toArray, List.set_cons_zero, List.set_cons_succ, i64_w, i32_w]
                rfl
              refine done_ (by kernel_rfl) ?_
              have GS := Aside0.mk (setRow_heap w5 gs _ #[.int .i64 fb, .int .i64 fa] _ _ hP5)
              have B6 : Aside0 (Below wq.heap.size wq (w5.setRow gs #[.int .i64 fb, .int .i64 fa])) := ⟨hB5.trans ⟨rfl, rfl, rfl, by rw [setRow_size]; exact Nat.le_refl _, fun k hk => setRow_other _ _ _ _ (by omega)⟩⟩
              have HGS := Aside0.mk hG5
              clear hP5 hB5 hG5 HH
              generalize w5.setRow gs #[.int .i64 fb, .int .i64 fa] = w6 at GS B6 ⊢
              have B6r : Aside0 (Below wr.heap.size wr w6) := ⟨BQ'.out.trans (B6.out.mono BQ'.out.size)⟩
              have G6 := Aside0.mk (blk_below GQ.out B6.out)
              have hc6 : w6.cell? (ad.add (t + 1).toNat) = some (.slice A2 256 c2) := by rw [show (t + 1).toNat = t.toNat + 1 by omega]; exact (HCW2.out w6 B6r.out).2
              have HX2 : Aside0 (∀ W, Below w6.heap.size w6 W → Kd.C (Kd.int .u8) W A2 x2.length x2) := ⟨fun W hW => by rw [HL2.out]; exact (HCW2.out W (B6r.out.trans (hW.mono B6r.out.size))).1⟩
              have ht1 : 0 ≤ t + 1 := by omega
              have hw7 : IntKind.i64.wrap (t + 1) = t + 1 := IntWalk.i64_in _ (by omega)
              clear hbq htb
              go_wp2_with fail
              refine start_ (n := 9) (S := fun w' => Below w6.heap.size w6 w') (ds := [8]) #[false, false, false, false, false, false, false, false, false] (by kernel_rfl) rfl rfl (below_drew1 (Below.refl _ _)) (fun hHeld => ?_)
              have HH := Aside0.mk hHeld
              clear hHeld
              generalize w6.drew = w2 at HH ⊢
              refine pure_ (i := 0) (N := some 60) (v := ?_) (a' := ?_) #[true, false, false, false, false, false, false, false, false] rfl rfl (by kernel_rfl) (fun _ _ _ h => h) (Or.inl ⟨by rfl, ?_⟩) ?_ ?_
              rotate_left
              · intro w'
                go_simp
                with_reducible rfl
              rotate_left
              · simp only [Act.put, List.setIfInBounds_toArray, List.set_cons_zero, List.set_cons_succ, i64_w, i32_w]
                rfl
              refine pure_ (i := 1) (N := some 61) (v := ?_) (a' := ?_) #[true, true, false, false, false, false, false, false, false] rfl rfl (by kernel_rfl) (fun _ _ _ h => h) (Or.inl ⟨by rfl, ?_⟩) ?_ ?_
              rotate_left
              · intro w'
                go_simp
                with_reducible rfl
              rotate_left
              · simp only [Act.put, List.setIfInBounds_toArray, List.set_cons_zero, List.set_cons_succ, i64_w, i32_w]
                rfl
              refine pure_ (i := 2) (N := some 62) (v := ?_) (a' := ?_) #[true, true, true, false, false, false, false, false, false] rfl rfl (by kernel_rfl) (fun _ _ _ h => h) (Or.inl ⟨by rfl, ?_⟩) ?_ ?_
              rotate_left
              · intro w'
                go_simp
                with_reducible rfl
              rotate_left
              · simp only [Act.put, List.setIfInBounds_toArray, List.set_cons_zero, List.set_cons_succ, i64_w, i32_w]
                rfl
              refine pure_ (i := 3) (N := some 63) (v := ?_) (a' := ?_) #[true, true, true, true, false, false, false, false, false] rfl rfl (by kernel_rfl) (fun _ _ _ h => h) (Or.inl ⟨by rfl, ?_⟩) ?_ ?_
              rotate_left
              · intro w'
                go_simp
                with_reducible rfl
              rotate_left
              · simp only [Act.put, List.setIfInBounds_toArray, List.set_cons_zero, List.set_cons_succ, i64_w, i32_w]
                rfl
              refine take_ (i := 4) (N := some 64) (v := ?_) (a' := ?_) #[true, true, true, true, true, false, false, false, false] rfl rfl (by kernel_rfl) (fun _ _ _ h => h) (Or.inl ⟨by rfl, ?_⟩) HH.out ?_ ?_
              rotate_left
              · rintro w' s0
                have z0 : w'.cell? (ad.add (t + 1).toNat) = some (.slice A2 256 c2) := cell_same hc6 (s0.block _ (cell_lt hc6))
                clear s0
                go_simp
                with_reducible rfl
              rotate_left
              · simp only [Act.put, List.setIfInBounds_toArray, List.set_cons_zero, List.set_cons_succ, i64_w, i32_w]
                rfl
              refine pure_ (i := 5) (N := some 65) (v := ?_) (a' := ?_) #[true, true, true, true, true, true, false, false, false] rfl rfl (by kernel_rfl) (fun _ _ _ h => h) (Or.inl ⟨by rfl, ?_⟩) ?_ ?_
              rotate_left
              · intro w'
                go_simp
                with_reducible rfl
              rotate_left
              · simp only [Act.put, List.setIfInBounds_toArray, List.set_cons_zero, List.set_cons_succ, i64_w, i32_w]
                rfl
              refine take_ (i := 6) (N := some 66) (v := ?_) (a' := ?_) #[true, true, true, true, true, true, true, false, false] rfl rfl (by kernel_rfl) (fun _ _ _ h => h) (Or.inl ⟨by rfl, ?_⟩) HH.out ?_ ?_
              rotate_left
              · rintro w' s0
                have z0 : w'.cell? ⟨gs, 1, none⟩ = some (.int .i64 fa) := (blk_cell (blk_below GS.out s0) 1).trans rfl
                clear s0
                go_simp
                with_reducible rfl
              rotate_left
              · simp only [Act.put, List.setIfInBounds_toArray, List.set_cons_zero, List.set_cons_succ, i64_w, i32_w]
                rfl
              refine one_ (i := 7) (N := some 67) #[true, true, true, true, true, true, true, true, false] rfl rfl (by kernel_rfl) (by decide) (fun K hK => ?_)
              refine goes_ Tryd.func29 (by kernel_rfl) rfl #[.slice A2 256 c2, .int .i64 fa] (by rfl) rfl rfl (by simp only [List.map_toArray, List.map_cons, List.map_nil]; rfl) ?_
              refine (refkid_calls A2 c2 x2 fa w2 (HX2.out w2 HH.out) HL2.out HFA.out.1 HFA.out.2).mono ?_
              rw [HKW.out]
              rintro e w3 ⟨rfl, hb⟩
              refine ⟨_, rfl, ?_⟩
              have hb' := HH.out.trans (hb.mono HH.out.size)
              refine hK.out _ _ hb' (fun hHeld => ?_)
              clear hK K
              refine norm_ (a' := ?_) ?_ ?_
              rotate_left
              · show Act.put _ (some 67) _ = _
                simp only [Act.put, List.setIfInBounds_toArray, List.set_cons_zero, List.set_cons_succ, i64_w, i32_w]
                rfl
              replace HH := Aside0.mk hHeld
              clear hHeld hb hb'
              refine last_ (i := 8) (N := none) #[true, true, true, true, true, true, true, true, true] rfl rfl (by kernel_rfl) (by decide) (fun K hK => ?_)
              have hg17 := blk_below G6.out HH.out
              refine skip_ (w1 := w3.setRow g17 (nums .u8 WL).toArray) (by rfl) rfl (by refine ev_store_row 29 (.tmp 13) (.tmp 67) ?_ g17 (nums .u8 WL).toArray ?_ ?_ 29 (nums .u8 root).toArray hg17 HWI.out HWZ.out HWO.out <;> rfl) ?_
              refine hK.out _ _ ?_
              clear hK K
              refine done_ (by kernel_rfl) ?_
              have G7 := Aside0.mk (setRow_heap w3 g17 _ (nums .u8 WL).toArray _ _ hg17)
              have B7 : Aside0 (Below wr.heap.size wr (w3.setRow g17 (nums .u8 WL).toArray)) := ⟨(B6r.out.trans (HH.out.mono B6r.out.size)).trans ⟨rfl, rfl, rfl, by rw [setRow_size]; exact Nat.le_refl _, fun k hk => setRow_other _ _ _ _ (by have := HG17.out; omega)⟩⟩
              clear hg17 HH
              generalize w3.setRow g17 (nums .u8 WL).toArray = w7 at G7 B7 ⊢
              clear hc6
              obtain ⟨DD, hDD⟩ : ∃ DD, dig bt xt = DD := ⟨_, rfl⟩
              have HDD := Aside0.mk hDD
              have HDL : Aside0 (DD.length = 32) := ⟨by rw [← hDD]; rfl⟩
              have hb7 : w7.cell? (adb.add t.toNat) = some (.int .i64 bt) := cell_same HBC0.out (B7.out.block _ (cell_lt HBC0.out))
              have htb : t < (bl.length : Int) := by have := HLE.out; omega
              clear hDD
              go_wp2_with fail
              refine start_ (n := 11) (S := fun w' => Below w7.heap.size w7 w') (ds := []) #[false, false, false, false, false, false, false, false, false, false, false] (by kernel_rfl) rfl rfl (below_drew1 (Below.refl _ _)) (fun hHeld => ?_)
              have HH := Aside0.mk hHeld
              clear hHeld
              generalize w7.drew = w8 at HH ⊢
              refine pure_ (i := 0) (N := some 68) (v := ?_) (a' := ?_) #[true, false, false, false, false, false, false, false, false, false, false] rfl rfl (by kernel_rfl) (fun _ _ _ h => h) (Or.inl ⟨by rfl, ?_⟩) ?_ ?_
              rotate_left
              · intro w'
                go_simp
                with_reducible rfl
              rotate_left
              · simp only [Act.put, List.setIfInBounds_toArray, List.set_cons_zero, List.set_cons_succ, i64_w, i32_w]
                rfl
              refine pure_ (i := 1) (N := some 69) (v := ?_) (a' := ?_) #[true, true, false, false, false, false, false, false, false, false, false] rfl rfl (by kernel_rfl) (fun _ _ _ h => h) (Or.inl ⟨by rfl, ?_⟩) ?_ ?_
              rotate_left
              · intro w'
                go_simp
                with_reducible rfl
              rotate_left
              · simp only [Act.put, List.setIfInBounds_toArray, List.set_cons_zero, List.set_cons_succ, i64_w, i32_w]
                rfl
              refine pure_ (i := 2) (N := some 70) (v := ?_) (a' := ?_) #[true, true, true, false, false, false, false, false, false, false, false] rfl rfl (by kernel_rfl) (fun _ _ _ h => h) (Or.inl ⟨by rfl, ?_⟩) ?_ ?_
              rotate_left
              · intro w'
                go_simp
                with_reducible rfl
              rotate_left
              · simp only [Act.put, List.setIfInBounds_toArray, List.set_cons_zero, List.set_cons_succ, i64_w, i32_w]
                rfl
              refine take_ (i := 3) (N := some 71) (v := ?_) (a' := ?_) #[true, true, true, true, false, false, false, false, false, false, false] rfl rfl (by kernel_rfl) (fun _ _ _ h => h) (Or.inl ⟨by rfl, ?_⟩) HH.out ?_ ?_
              rotate_left
              · rintro w' s0
                have z0 : w'.cell? (adb.add t.toNat) = some (.int .i64 bt) := cell_same hb7 (s0.block _ (cell_lt hb7))
                clear s0
                go_simp
                with_reducible rfl
              rotate_left
              · simp only [Act.put, List.setIfInBounds_toArray, List.set_cons_zero, List.set_cons_succ, i64_w, i32_w]
                rfl
              refine pure_ (i := 4) (N := some 72) (v := ?_) (a' := ?_) #[true, true, true, true, true, false, false, false, false, false, false] rfl rfl (by kernel_rfl) (fun _ _ _ h => h) (Or.inl ⟨by rfl, ?_⟩) ?_ ?_
              rotate_left
              · intro w'
                go_simp
                with_reducible rfl
              rotate_left
              · simp only [Act.put, List.setIfInBounds_toArray, List.set_cons_zero, List.set_cons_succ, i64_w, i32_w]
                rfl
              refine pure_ (i := 5) (N := some 73) (v := ?_) (a' := ?_) #[true, true, true, true, true, true, false, false, false, false, false] rfl rfl (by kernel_rfl) (fun _ _ _ h => h) (Or.inl ⟨by rfl, ?_⟩) ?_ ?_
              rotate_left
              · intro w'
                go_simp
                with_reducible rfl
              rotate_left
              · simp only [Act.put, List.setIfInBounds_toArray, List.set_cons_zero, List.set_cons_succ, i64_w, i32_w]
                rfl
              refine pure_ (i := 6) (N := some 74) (v := ?_) (a' := ?_) #[true, true, true, true, true, true, true, false, false, false, false] rfl rfl (by kernel_rfl) (fun _ _ _ h => h) (Or.inl ⟨by rfl, ?_⟩) ?_ ?_
              rotate_left
              · intro w'
                go_simp
                with_reducible rfl
              rotate_left
              · simp only [Act.put, List.setIfInBounds_toArray, List.set_cons_zero, List.set_cons_succ, i64_w, i32_w]
                rfl
              refine take_ (i := 7) (N := some 75) (v := ?_) (a' := ?_) #[true, true, true, true, true, true, true, true, false, false, false] rfl rfl (by kernel_rfl) (fun _ _ _ h => h) (Or.inl ⟨by rfl, ?_⟩) HH.out ?_ ?_
              rotate_left
              · rintro w' s0
                have z0 : w'.cell? (ad.add t.toNat) = some (.slice A1 256 c1) := (HCW1.out w' (B7.out.trans (s0.mono B7.out.size))).2
                clear s0
                go_simp
                with_reducible rfl
              rotate_left
              · simp only [Act.put, List.setIfInBounds_toArray, List.set_cons_zero, List.set_cons_succ, i64_w, i32_w]
                rfl
              refine take_ (i := 9) (N := some 77) (v := ?_) (a' := ?_) #[true, true, true, true, true, true, true, true, false, true, false] rfl rfl (by kernel_rfl) (fun _ _ _ h => h) (Or.inl ⟨by rfl, ?_⟩) HH.out ?_ ?_
              rotate_left
              · rintro w' s0
                refine ev_load_row 29 (.tmp 13) ?_ g17 ?_ 29 (nums .u8 WL).toArray (0, 0) _ (blk_below G7.out s0) Tryd.underlying29 rfl HWI.out <;> rfl
              rotate_left
              · simp only [Act.put, List.setIfInBounds_toArray, List.set_cons_zero, List.set_cons_succ, i64_w, i32_w]
                rfl
              refine one_ (i := 8) (N := some 76) #[true, true, true, true, true, true, true, true, true, true, false] rfl rfl (by kernel_rfl) (by decide) (fun K hK => ?_)
              refine goes_ Tryd.func23 (by kernel_rfl) rfl #[.int .i64 bt, .slice A1 256 c1] (by rfl) rfl rfl (by simp only [List.map_toArray, List.map_cons, List.map_nil]; rfl) ?_
              have hdg := refdigest_calls bt A1 c1 xt w8 (by have h := (HCW1.out w8 (B7.out.trans (HH.out.mono B7.out.size))).1; rw [HXL.out]; exact h) (by rw [HXL.out]; exact HC1.out) HXB.out (by rw [HXL.out]; decide)
              rw [HXL.out] at hdg
              refine hdg.mono ?_
              clear hdg
              rw [HDD.out]
              rintro e w9 ⟨rfl, hb⟩
              refine ⟨_, rfl, ?_⟩
              have hb' := HH.out.trans (hb.mono HH.out.size)
              refine hK.out _ _ hb' (fun hHeld => ?_)
              clear hK K
              refine norm_ (a' := ?_) ?_ ?_
              rotate_left
              · show Act.put _ (some 76) _ = _
                simp only [Act.put, List.setIfInBounds_toArray, List.set_cons_zero, List.set_cons_succ, i64_w, i32_w]
                rfl
              have B9 : Aside0 (Below w1.heap.size w1 w9) := ⟨(HO.out.trans (B7.out.mono HO.out.size)).trans (hHeld.mono (Nat.le_trans HO.out.size B7.out.size))⟩
              clear hHeld hb hb' HH hb7
              refine pure_ (i := 10) (N := some 78) (v := ?_) (a' := ?_) #[true, true, true, true, true, true, true, true, true, true, true] rfl rfl (by kernel_rfl) (fun _ _ _ h => h) (Or.inl ⟨by rfl, ?_⟩) ?_ ?_
              rotate_left
              · intro w'
                refine ev_neq32 DD WL HDL.out HWL.out w' (.tmp 76) (.tmp 77) 29 ?_ ?_ ?_ <;> rfl
              rotate_left
              · simp only [Act.put, List.setIfInBounds_toArray, List.set_cons_zero, List.set_cons_succ, i64_w, i32_w]
                rfl
              refine done_ (by kernel_rfl) ?_
              cases hg : (DD == WL)
              case true =>
                have hw6 : IntKind.i64.wrap (t + 1) = t + 1 := IntWalk.i64_in _ (by have := HRM.out; omega)
                have HGT : Aside0 (∀ j, j < (t + 1).toNat → good (P :: C :: L0) H bl path root j = true) := ⟨fun j hj => by
                  by_cases e : j = t.toNat
                  · rw [e]; unfold good; rw [← HBT.out, HXT.out, HWT.out, HDD.out]; exact hg
                  · exact HG.out j (by omega)⟩
                clear hg HG
                go_wp2_with fail
                exact ⟨⟨t + 1, rfl, by omega, by omega, B9, HGT⟩, by simp [intOf]; omega⟩
              case false =>
                have HCK : Aside0 (chk (P :: C :: L0) P H page path root = 10) := ⟨by
                  unfold chk
                  rw [if_neg HB.out, HBL.out, if_neg (by have := HLE.out; omega), HNB.out, if_neg (by simp), if_neg]
                  intro h
                  rw [List.all_eq_true] at h
                  have h2 := h t.toNat (List.mem_range.2 (by omega))
                  unfold good at h2
                  rw [← HBT.out, HXT.out, HWT.out, HDD.out] at h2
                  rw [hg] at h2
                  exact absurd h2 (by decide)⟩
                clear hg HG
                go_wp2
                go_ret
                exact ⟨by rw [HCK.out]; rfl, BEL.out.trans (B9.out.mono BEL.out.size)⟩
            · have hf : find (H - 1) (P :: C :: L0) 0 16 bt = (0, 0, 5) := by
                have h := HUT.2.2
                rw [if_neg (by have := HLE.out; omega)] at h
                exact h
              have HFE : Aside0 (thimbleref16_Parent.f 14 P 4 C L0 N H a6 a7 a8 a9 bt = some (0, 0, 5)) := ⟨by rw [ref_parent_f P 4 C N a6 a7 a8 a9 L0 H HP.out 14 (by decide) bt (by have := HBTR.out; omega), if_neg (by have := HBTR.out; omega), hf]⟩
              obtain ⟨WL, hWL⟩ : ∃ WL, root = WL := ⟨_, rfl⟩
              have HWT : Aside0 (want (P :: C :: L0) H bl path root t.toNat = WL) := ⟨by unfold want; rw [if_neg (by omega)]; exact hWL⟩
              have HWL : Aside0 (WL.length = 32) := ⟨by rw [← hWL]; exact HRL.out⟩
              have HWI : Aside0 ((Tryd.prog.info? 29).map (·.size) = some (nums .u8 WL).toArray.size) := ⟨by rw [Tryd.infoD, List.size_toArray, nums, List.length_map, HWL.out]⟩
              have HWE := Aside0.mk hWL
              clear hWL HUT hf
              go_wp2_with (first
                | (refine wpList_load_row rfl 29 (.tmp 7) rfl gr rfl 29 (nums .u8 root).toArray _ _ GRr.out Tryd.underlying29 rfl HI.out ?_)
                | (refine wpList_store_row rfl 29 (.tmp 13) (.tmp 48) rfl wr.heap.size (nums .u8 root).toArray rfl rfl 29 (nums .u8 (List.replicate 32 0)).toArray (blk_new _ _) HI.out HZ.out HOc.out ?_
                   have hbq0 : Below wr.heap.size wr ((wr.alloc (.cells (nums .u8 (List.replicate 32 0)).toArray 29 (0, 0))).setRow wr.heap.size (nums .u8 root).toArray) := (below_alloc (Below.refl _ _) _).trans ⟨rfl, rfl, rfl, by rw [setRow_size]; exact Nat.le_refl _, fun k hk => setRow_other _ _ _ _ (by omega)⟩
                   have hgq0 : ((wr.alloc (.cells (nums .u8 (List.replicate 32 0)).toArray 29 (0, 0))).setRow wr.heap.size (nums .u8 root).toArray).heap[wr.heap.size]? = some (.cells (nums .u8 root).toArray 29 (0, 0)) := setRow_heap _ wr.heap.size _ _ _ _ (blk_new wr _)
                   have BQ := Aside0.mk hbq0
                   have GQ := Aside0.mk hgq0
                   clear hbq0 hgq0
                   obtain ⟨g17, hg17⟩ : ∃ g17, wr.heap.size = g17 := ⟨_, rfl⟩
                   have HG17 : Aside0 (g17 = wr.heap.size) := ⟨hg17.symm⟩
                   have BQ' : Aside0 (Below wr.heap.size wr ((wr.alloc (.cells (nums .u8 (List.replicate 32 0)).toArray 29 (0, 0))).setRow g17 (nums .u8 root).toArray)) := ⟨by rw [← hg17]; exact BQ.out⟩
                   rw [hg17] at GQ ⊢
                   change wpList _ _ _ _ _ ((wr.alloc (.cells (nums .u8 (List.replicate 32 0)).toArray 29 (0, 0))).setRow g17 (nums .u8 root).toArray)
                   clear hg17 BQ
                   generalize (wr.alloc (.cells (nums .u8 (List.replicate 32 0)).toArray 29 (0, 0))).setRow g17 (nums .u8 root).toArray = wq at GQ BQ' ⊢))
              have GBq := Aside0.mk (blk_below GBr.out BQ'.out)
              have hbq : wq.cell? (adb.add t.toNat) = some (.int .i64 bt) := cell_same HBC0.out (BQ'.out.block _ (cell_lt HBC0.out))
              have HLW : Aside0 (∀ W, Below wq.heap.size wq W → Kd.C (Kd.int .i64) W LA L0.length L0) := ⟨fun W hW => Kd.C_below HLV.out ((BWR.out.trans (BQ'.out.mono BWR.out.size)).trans (hW.mono (Nat.le_trans BWR.out.size BQ'.out.size)))⟩
              refine start_ (n := 12) (S := fun w' => Below wq.heap.size wq w') (ds := [10]) #[false, false, false, false, false, false, false, false, false, false, false, false] (by kernel_rfl) rfl rfl (below_drew1 (Below.refl _ _)) (fun hHeld => ?_)
              have HH := Aside0.mk hHeld
              clear hHeld
              generalize wq.drew = w2 at HH ⊢
              refine take_ (i := 0) (N := some 50) (v := ?_) (a' := ?_) #[true, false, false, false, false, false, false, false, false, false, false, false] rfl rfl (by kernel_rfl) (fun _ _ _ h => h) (Or.inl ⟨by rfl, ?_⟩) HH.out ?_ ?_
              rotate_left
              · rintro w' s0
                refine ev_load_row 25 (.tmp 4) ?_ gb ?_ 25 (planCells P 4 C (.slice LA L0.length lc) N H a6 a7 a8 a9) (0, 0) _ (blk_below GBq.out s0) Tryd.underlying25 rfl Tryd.infoPlanC <;> rfl
              rotate_left
              · simp only [Act.put, List.setIfInBounds_toArray, List.set_cons_zero, List.set_cons_succ, i64_w, i32_w]
                rfl
              refine pure_ (i := 1) (N := some 51) (v := ?_) (a' := ?_) #[true, true, false, false, false, false, false, false, false, false, false, false] rfl rfl (by kernel_rfl) (fun _ _ _ h => h) (Or.inl ⟨by rfl, ?_⟩) ?_ ?_
              rotate_left
              · intro w'
                go_simp
                with_reducible rfl
              rotate_left
              · simp only [Act.put, List.setIfInBounds_toArray, List.set_cons_zero, List.set_cons_succ, i64_w, i32_w]
                rfl
              refine pure_ (i := 2) (N := some 52) (v := ?_) (a' := ?_) #[true, true, true, false, false, false, false, false, false, false, false, false] rfl rfl (by kernel_rfl) (fun _ _ _ h => h) (Or.inl ⟨by rfl, ?_⟩) ?_ ?_
              rotate_left
              · intro w'
                go_simp
                with_reducible rfl
              rotate_left
              · simp only [Act.put, List.setIfInBounds_toArray, List.set_cons_zero, List.set_cons_succ, i64_w, i32_w]
                rfl
              refine pure_ (i := 3) (N := some 53) (v := ?_) (a' := ?_) #[true, true, true, true, false, false, false, false, false, false, false, false] rfl rfl (by kernel_rfl) (fun _ _ _ h => h) (Or.inl ⟨by rfl, ?_⟩) ?_ ?_
              rotate_left
              · intro w'
                go_simp
                with_reducible rfl
              rotate_left
              · simp only [Act.put, List.setIfInBounds_toArray, List.set_cons_zero, List.set_cons_succ, i64_w, i32_w]
                rfl
              refine take_ (i := 4) (N := some 54) (v := ?_) (a' := ?_) #[true, true, true, true, true, false, false, false, false, false, false, false] rfl rfl (by kernel_rfl) (fun _ _ _ h => h) (Or.inl ⟨by rfl, ?_⟩) HH.out ?_ ?_
              rotate_left
              · rintro w' s0
                have z0 : w'.cell? (adb.add t.toNat) = some (.int .i64 bt) := cell_same hbq (s0.block _ (cell_lt hbq))
                clear s0
                go_simp
                with_reducible rfl
              rotate_left
              · simp only [Act.put, List.setIfInBounds_toArray, List.set_cons_zero, List.set_cons_succ, i64_w, i32_w]
                rfl
              refine join_ (σ := Nat) 2 #[true, true, true, true, true, true, true, true, true, true, false, false] (fun s => [(55, .tuple #[.agg #[.int .i64 0, .int .i64 0], .int .i64 5]), (49, .tuple #[.agg #[.int .i64 0, .int .i64 0], .int .i64 5]), (56, .agg #[.int .i64 0, .int .i64 0]), (57, .int .i64 5), (14, .pointer (some ⟨s, 0, none⟩))]) (fun s w' => w'.heap[s]? = some (.cells #[.int .i64 0, .int .i64 0] 58 (0, 0)) ∧ Below wq.heap.size wq w' ∧ wq.heap.size ≤ s) ?_ ?_
              rotate_left
              · intro hj
                have HJ := Aside0.mk hj
                clear hj
                refine two_ (i := 5) (j := 9) (Ni := some 55) (Nj := some 14) #[true, true, true, true, true, true, false, false, false, false, false, false] #[true, true, true, true, true, false, false, false, false, true, false, false] rfl rfl rfl rfl (by kernel_rfl) (by decide) (by decide) (fun K hK => ?_) (fun K hK => ?_)
                · refine goes_ Tryd.func22 (by kernel_rfl) rfl #[.agg (planCells P 4 C (.slice LA L0.length lc) N H a6 a7 a8 a9), .int .i64 bt] (by rfl) rfl rfl (by simp only [List.map_toArray, List.map_cons, List.map_nil]; rfl) ?_
                  refine (thimbleref16_Parent.calls 14 P 4 C LA lc L0 N H a6 a7 a8 a9 bt 0 0 5 w2 (HLW.out w2 HH.out) HLC.out HFE.out).mono ?_
                  rintro e w3 ⟨rfl, hb⟩
                  refine ⟨_, rfl, ?_⟩
                  have hb' := HH.out.trans (hb.mono HH.out.size)
                  refine hK.out _ _ hb' (fun hHeld => ?_)
                  clear hK K
                  refine norm_ (a' := ?_) ?_ ?_
                  rotate_left
                  · show Act.put _ (some 55) _ = _
                    simp only [Act.put, List.setIfInBounds_toArray, List.set_cons_zero, List.set_cons_succ, i64_w, i32_w]
                    rfl
                  replace HH := Aside0.mk hHeld
                  clear hHeld hb hb'
                  refine pure_ (i := 6) (N := some 49) (v := ?_) (a' := ?_) #[true, true, true, true, true, true, true, false, false, false, false, false] rfl rfl (by kernel_rfl) (fun _ _ _ h => h) (Or.inl ⟨by rfl, ?_⟩) ?_ ?_
                  rotate_left
                  · intro w'
                    go_simp
                    with_reducible rfl
                  rotate_left
                  · simp only [Act.put, List.setIfInBounds_toArray, List.set_cons_zero, List.set_cons_succ, i64_w, i32_w]
                    rfl
                  refine pure_ (i := 7) (N := some 56) (v := ?_) (a' := ?_) #[true, true, true, true, true, true, true, true, false, false, false, false] rfl rfl (by kernel_rfl) (fun _ _ _ h => h) (Or.inl ⟨by rfl, ?_⟩) ?_ ?_
                  rotate_left
                  · intro w'
                    go_simp
                    with_reducible rfl
                  rotate_left
                  · simp only [Act.put, List.setIfInBounds_toArray, List.set_cons_zero, List.set_cons_succ, i64_w, i32_w]
                    rfl
                  refine pure_ (i := 8) (N := some 57) (v := ?_) (a' := ?_) #[true, true, true, true, true, true, true, true, true, false, false, false] rfl rfl (by kernel_rfl) (fun _ _ _ h => h) (Or.inl ⟨by rfl, ?_⟩) ?_ ?_
                  rotate_left
                  · intro w'
                    go_simp
                    with_reducible rfl
                  rotate_left
                  · simp only [Act.put, List.setIfInBounds_toArray, List.set_cons_zero, List.set_cons_succ, i64_w, i32_w]
                    rfl
                  refine one_ (i := 9) (N := some 14) #[true, true, true, true, true, true, true, true, true, true, false, false] rfl rfl (by kernel_rfl) (by decide) (fun K hK => ?_)
                  refine value_ (w1 := w3.alloc (.cells #[.int .i64 0, .int .i64 0] 58 (0, 0))) (v := .pointer (some ⟨w3.heap.size, 0, none⟩)) (by rfl) rfl (by go_simp) ?_
                  have hn9 := blk_new w3 (.cells #[.int .i64 0, .int .i64 0] 58 (0, 0))
                  have hb9 := below_alloc HH.out (.cells #[.int .i64 0, .int .i64 0] 58 (0, 0))
                  have hs9 := HH.out.size
                  refine hK.out _ _ hb9 (fun hHeld => ?_)
                  clear hK K
                  refine norm_ (a' := ?_) ?_ ?_
                  rotate_left
                  · show Act.put _ (some 14) _ = _
                    simp only [Act.put, List.setIfInBounds_toArray, List.set_cons_zero, List.set_cons_succ, i64_w, i32_w]
                    rfl
                  exact HJ.out w3.heap.size _ ⟨hn9, hb9, hs9⟩
                · refine value_ (w1 := w2.alloc (.cells #[.int .i64 0, .int .i64 0] 58 (0, 0))) (v := .pointer (some ⟨w2.heap.size, 0, none⟩)) (by rfl) rfl (by go_simp) ?_
                  have hn9 := blk_new w2 (.cells #[.int .i64 0, .int .i64 0] 58 (0, 0))
                  have hb9 := below_alloc HH.out (.cells #[.int .i64 0, .int .i64 0] 58 (0, 0))
                  have hs9 := HH.out.size
                  refine hK.out _ _ hb9 (fun hHeld => ?_)
                  clear hK K
                  refine norm_ (a' := ?_) ?_ ?_
                  rotate_left
                  · show Act.put _ (some 14) _ = _
                    simp only [Act.put, List.setIfInBounds_toArray, List.set_cons_zero, List.set_cons_succ, i64_w, i32_w]
                    rfl
                  clear hHeld
                  replace HH := Aside0.mk hb9
                  obtain ⟨s9, hq9⟩ : ∃ s9, w2.heap.size = s9 := ⟨_, rfl⟩
                  rw [hq9] at hn9 hs9 ⊢
                  generalize w2.alloc (.cells #[.int .i64 0, .int .i64 0] 58 (0, 0)) = w3 at HH hn9 ⊢
                  clear hb9 hq9
                  refine one_ (i := 5) (N := some 55) #[true, true, true, true, true, true, false, false, false, true, false, false] rfl rfl (by kernel_rfl) (by decide) (fun K hK => ?_)
                  refine goes_ Tryd.func22 (by kernel_rfl) rfl #[.agg (planCells P 4 C (.slice LA L0.length lc) N H a6 a7 a8 a9), .int .i64 bt] (by rfl) rfl rfl (by simp only [List.map_toArray, List.map_cons, List.map_nil]; rfl) ?_
                  refine (thimbleref16_Parent.calls 14 P 4 C LA lc L0 N H a6 a7 a8 a9 bt 0 0 5 w3 (HLW.out w3 HH.out) HLC.out HFE.out).mono ?_
                  rintro e w4 ⟨rfl, hb⟩
                  refine ⟨_, rfl, ?_⟩
                  have hb' := HH.out.trans (hb.mono HH.out.size)
                  have hn8 := blk_below hn9 hb
                  refine hK.out _ _ hb' (fun hHeld => ?_)
                  clear hK K
                  refine norm_ (a' := ?_) ?_ ?_
                  rotate_left
                  · show Act.put _ (some 55) _ = _
                    simp only [Act.put, List.setIfInBounds_toArray, List.set_cons_zero, List.set_cons_succ, i64_w, i32_w]
                    rfl
                  clear hHeld
                  refine pure_ (i := 6) (N := some 49) (v := ?_) (a' := ?_) #[true, true, true, true, true, true, true, false, false, true, false, false] rfl rfl (by kernel_rfl) (fun _ _ _ h => h) (Or.inl ⟨by rfl, ?_⟩) ?_ ?_
                  rotate_left
                  · intro w'
                    go_simp
                    with_reducible rfl
                  rotate_left
                  · simp only [Act.put, List.setIfInBounds_toArray, List.set_cons_zero, List.set_cons_succ, i64_w, i32_w]
                    rfl
                  refine pure_ (i := 7) (N := some 56) (v := ?_) (a' := ?_) #[true, true, true, true, true, true, true, true, false, true, false, false] rfl rfl (by kernel_rfl) (fun _ _ _ h => h) (Or.inl ⟨by rfl, ?_⟩) ?_ ?_
                  rotate_left
                  · intro w'
                    go_simp
                    with_reducible rfl
                  rotate_left
                  · simp only [Act.put, List.setIfInBounds_toArray, List.set_cons_zero, List.set_cons_succ, i64_w, i32_w]
                    rfl
                  refine pure_ (i := 8) (N := some 57) (v := ?_) (a' := ?_) #[true, true, true, true, true, true, true, true, true, true, false, false] rfl rfl (by kernel_rfl) (fun _ _ _ h => h) (Or.inl ⟨by rfl, ?_⟩) ?_ ?_
                  rotate_left
                  · intro w'
                    go_simp
                    with_reducible rfl
                  rotate_left
                  · simp only [Act.put, List.setIfInBounds_toArray, List.set_cons_zero, List.set_cons_succ, i64_w, i32_w]
                    rfl
                  exact HJ.out s9 _ ⟨hn8, hb', hs9⟩
              rintro gs w5 ⟨hP5, hB5, hG5⟩
              refine norm_ (a' := ?_) ?_ ?_
              rotate_left
              · simp only [putAll, Act.put, List.setIfInBounds_toArray, List.set_cons_zero, List.set_cons_succ, i64_w, i32_w]
                rfl
              refine last_ (i := 10) (N := none) #[true, true, true, true, true, true, true, true, true, true, true, false] rfl rfl (by kernel_rfl) (by decide) (fun K hK => ?_)
              refine skip_ (w1 := w5.setRow gs #[.int .i64 0, .int .i64 0]) (by rfl) rfl (by refine ev_store_row 58 (.tmp 14) (.tmp 56) ?_ gs #[.int .i64 0, .int .i64 0] ?_ ?_ 58 #[.int .i64 0, .int .i64 0] hP5 Tryd.infoPlace rfl (by simp [Value.oneCell']) <;> rfl) ?_
              refine hK.out _ _ ?_
              clear hK K
              refine norm_ (a' := ?_) ?_ ?_
              rotate_left
              · rfl
              refine pure_ (i := 11) (N := some 15) (v := ?_) (a' := ?_) #[true, true, true, true, true, true, true, true, true, true, true, true] rfl rfl (by kernel_rfl) (fun _ _ _ h => h) (Or.inl ⟨by rfl, ?_⟩) ?_ ?_
              rotate_left
              · intro w'
                go_simp
                with_reducible rfl
              rotate_left
              · simp only [Act.put, List.setIfInBounds_toArray, List.set_cons_zero, List.set_cons_succ, i64_w, i32_w]
                rfl
              refine done_ (by kernel_rfl) ?_
              have GS := Aside0.mk (setRow_heap w5 gs _ #[.int .i64 0, .int .i64 0] _ _ hP5)
              have B6 : Aside0 (Below wq.heap.size wq (w5.setRow gs #[.int .i64 0, .int .i64 0])) := ⟨hB5.trans ⟨rfl, rfl, rfl, by rw [setRow_size]; exact Nat.le_refl _, fun k hk => setRow_other _ _ _ _ (by omega)⟩⟩
              have HGS := Aside0.mk hG5
              clear hP5 hB5 hG5 HH
              generalize w5.setRow gs #[.int .i64 0, .int .i64 0] = w6 at GS B6 ⊢
              have B7 : Aside0 (Below wr.heap.size wr w6) := ⟨BQ'.out.trans (B6.out.mono BQ'.out.size)⟩
              have G7 : Aside0 (w6.heap[g17]? = some (.cells (nums .u8 WL).toArray 29 (0, 0))) := ⟨by rw [← HWE.out]; exact blk_below GQ.out B6.out⟩
              clear GQ BQ' hbq
              generalize w6 = w7 at G7 B7 ⊢
              obtain ⟨DD, hDD⟩ : ∃ DD, dig bt xt = DD := ⟨_, rfl⟩
              have HDD := Aside0.mk hDD
              have HDL : Aside0 (DD.length = 32) := ⟨by rw [← hDD]; rfl⟩
              have hb7 : w7.cell? (adb.add t.toNat) = some (.int .i64 bt) := cell_same HBC0.out (B7.out.block _ (cell_lt HBC0.out))
              have htb : t < (bl.length : Int) := by have := HLE.out; omega
              clear hDD
              go_wp2_with fail
              refine start_ (n := 11) (S := fun w' => Below w7.heap.size w7 w') (ds := []) #[false, false, false, false, false, false, false, false, false, false, false] (by kernel_rfl) rfl rfl (below_drew1 (Below.refl _ _)) (fun hHeld => ?_)
              have HH := Aside0.mk hHeld
              clear hHeld
              generalize w7.drew = w8 at HH ⊢
              refine pure_ (i := 0) (N := some 68) (v := ?_) (a' := ?_) #[true, false, false, false, false, false, false, false, false, false, false] rfl rfl (by kernel_rfl) (fun _ _ _ h => h) (Or.inl ⟨by rfl, ?_⟩) ?_ ?_
              rotate_left
              · intro w'
                go_simp
                with_reducible rfl
              rotate_left
              · simp only [Act.put, List.setIfInBounds_toArray, List.set_cons_zero, List.set_cons_succ, i64_w, i32_w]
                rfl
              refine pure_ (i := 1) (N := some 69) (v := ?_) (a' := ?_) #[true, true, false, false, false, false, false, false, false, false, false] rfl rfl (by kernel_rfl) (fun _ _ _ h => h) (Or.inl ⟨by rfl, ?_⟩) ?_ ?_
              rotate_left
              · intro w'
                go_simp
                with_reducible rfl
              rotate_left
              · simp only [Act.put, List.setIfInBounds_toArray, List.set_cons_zero, List.set_cons_succ, i64_w, i32_w]
                rfl
              refine pure_ (i := 2) (N := some 70) (v := ?_) (a' := ?_) #[true, true, true, false, false, false, false, false, false, false, false] rfl rfl (by kernel_rfl) (fun _ _ _ h => h) (Or.inl ⟨by rfl, ?_⟩) ?_ ?_
              rotate_left
              · intro w'
                go_simp
                with_reducible rfl
              rotate_left
              · simp only [Act.put, List.setIfInBounds_toArray, List.set_cons_zero, List.set_cons_succ, i64_w, i32_w]
                rfl
              refine take_ (i := 3) (N := some 71) (v := ?_) (a' := ?_) #[true, true, true, true, false, false, false, false, false, false, false] rfl rfl (by kernel_rfl) (fun _ _ _ h => h) (Or.inl ⟨by rfl, ?_⟩) HH.out ?_ ?_
              rotate_left
              · rintro w' s0
                have z0 : w'.cell? (adb.add t.toNat) = some (.int .i64 bt) := cell_same hb7 (s0.block _ (cell_lt hb7))
                clear s0
                go_simp
                with_reducible rfl
              rotate_left
              · simp only [Act.put, List.setIfInBounds_toArray, List.set_cons_zero, List.set_cons_succ, i64_w, i32_w]
                rfl
              refine pure_ (i := 4) (N := some 72) (v := ?_) (a' := ?_) #[true, true, true, true, true, false, false, false, false, false, false] rfl rfl (by kernel_rfl) (fun _ _ _ h => h) (Or.inl ⟨by rfl, ?_⟩) ?_ ?_
              rotate_left
              · intro w'
                go_simp
                with_reducible rfl
              rotate_left
              · simp only [Act.put, List.setIfInBounds_toArray, List.set_cons_zero, List.set_cons_succ, i64_w, i32_w]
                rfl
              refine pure_ (i := 5) (N := some 73) (v := ?_) (a' := ?_) #[true, true, true, true, true, true, false, false, false, false, false] rfl rfl (by kernel_rfl) (fun _ _ _ h => h) (Or.inl ⟨by rfl, ?_⟩) ?_ ?_
              rotate_left
              · intro w'
                go_simp
                with_reducible rfl
              rotate_left
              · simp only [Act.put, List.setIfInBounds_toArray, List.set_cons_zero, List.set_cons_succ, i64_w, i32_w]
                rfl
              refine pure_ (i := 6) (N := some 74) (v := ?_) (a' := ?_) #[true, true, true, true, true, true, true, false, false, false, false] rfl rfl (by kernel_rfl) (fun _ _ _ h => h) (Or.inl ⟨by rfl, ?_⟩) ?_ ?_
              rotate_left
              · intro w'
                go_simp
                with_reducible rfl
              rotate_left
              · simp only [Act.put, List.setIfInBounds_toArray, List.set_cons_zero, List.set_cons_succ, i64_w, i32_w]
                rfl
              refine take_ (i := 7) (N := some 75) (v := ?_) (a' := ?_) #[true, true, true, true, true, true, true, true, false, false, false] rfl rfl (by kernel_rfl) (fun _ _ _ h => h) (Or.inl ⟨by rfl, ?_⟩) HH.out ?_ ?_
              rotate_left
              · rintro w' s0
                have z0 : w'.cell? (ad.add t.toNat) = some (.slice A1 256 c1) := (HCW1.out w' (B7.out.trans (s0.mono B7.out.size))).2
                clear s0
                go_simp
                with_reducible rfl
              rotate_left
              · simp only [Act.put, List.setIfInBounds_toArray, List.set_cons_zero, List.set_cons_succ, i64_w, i32_w]
                rfl
              refine take_ (i := 9) (N := some 77) (v := ?_) (a' := ?_) #[true, true, true, true, true, true, true, true, false, true, false] rfl rfl (by kernel_rfl) (fun _ _ _ h => h) (Or.inl ⟨by rfl, ?_⟩) HH.out ?_ ?_
              rotate_left
              · rintro w' s0
                refine ev_load_row 29 (.tmp 13) ?_ g17 ?_ 29 (nums .u8 WL).toArray (0, 0) _ (blk_below G7.out s0) Tryd.underlying29 rfl HWI.out <;> rfl
              rotate_left
              · simp only [Act.put, List.setIfInBounds_toArray, List.set_cons_zero, List.set_cons_succ, i64_w, i32_w]
                rfl
              refine one_ (i := 8) (N := some 76) #[true, true, true, true, true, true, true, true, true, true, false] rfl rfl (by kernel_rfl) (by decide) (fun K hK => ?_)
              refine goes_ Tryd.func23 (by kernel_rfl) rfl #[.int .i64 bt, .slice A1 256 c1] (by rfl) rfl rfl (by simp only [List.map_toArray, List.map_cons, List.map_nil]; rfl) ?_
              have hdg := refdigest_calls bt A1 c1 xt w8 (by have h := (HCW1.out w8 (B7.out.trans (HH.out.mono B7.out.size))).1; rw [HXL.out]; exact h) (by rw [HXL.out]; exact HC1.out) HXB.out (by rw [HXL.out]; decide)
              rw [HXL.out] at hdg
              refine hdg.mono ?_
              clear hdg
              rw [HDD.out]
              rintro e w9 ⟨rfl, hb⟩
              refine ⟨_, rfl, ?_⟩
              have hb' := HH.out.trans (hb.mono HH.out.size)
              refine hK.out _ _ hb' (fun hHeld => ?_)
              clear hK K
              refine norm_ (a' := ?_) ?_ ?_
              rotate_left
              · show Act.put _ (some 76) _ = _
                simp only [Act.put, List.setIfInBounds_toArray, List.set_cons_zero, List.set_cons_succ, i64_w, i32_w]
                rfl
              have B9 : Aside0 (Below w1.heap.size w1 w9) := ⟨(HO.out.trans (B7.out.mono HO.out.size)).trans (hHeld.mono (Nat.le_trans HO.out.size B7.out.size))⟩
              clear hHeld hb hb' HH hb7
              refine pure_ (i := 10) (N := some 78) (v := ?_) (a' := ?_) #[true, true, true, true, true, true, true, true, true, true, true] rfl rfl (by kernel_rfl) (fun _ _ _ h => h) (Or.inl ⟨by rfl, ?_⟩) ?_ ?_
              rotate_left
              · intro w'
                refine ev_neq32 DD WL HDL.out HWL.out w' (.tmp 76) (.tmp 77) 29 ?_ ?_ ?_ <;> rfl
              rotate_left
              · simp only [Act.put, List.setIfInBounds_toArray, List.set_cons_zero, List.set_cons_succ, i64_w, i32_w]
                rfl
              refine done_ (by kernel_rfl) ?_
              cases hg : (DD == WL)
              case true =>
                have hw6 : IntKind.i64.wrap (t + 1) = t + 1 := IntWalk.i64_in _ (by have := HRM.out; omega)
                have HGT : Aside0 (∀ j, j < (t + 1).toNat → good (P :: C :: L0) H bl path root j = true) := ⟨fun j hj => by
                  by_cases e : j = t.toNat
                  · rw [e]; unfold good; rw [← HBT.out, HXT.out, HWT.out, HDD.out]; exact hg
                  · exact HG.out j (by omega)⟩
                clear hg HG
                go_wp2_with fail
                exact ⟨⟨t + 1, rfl, by omega, by omega, B9, HGT⟩, by simp [intOf]; omega⟩
              case false =>
                have HCK : Aside0 (chk (P :: C :: L0) P H page path root = 10) := ⟨by
                  unfold chk
                  rw [if_neg HB.out, HBL.out, if_neg (by have := HLE.out; omega), HNB.out, if_neg (by simp), if_neg]
                  intro h
                  rw [List.all_eq_true] at h
                  have h2 := h t.toNat (List.mem_range.2 (by omega))
                  unfold good at h2
                  rw [← HBT.out, HXT.out, HWT.out, HDD.out] at h2
                  rw [hg] at h2
                  exact absurd h2 (by decide)⟩
                clear hg HG
                go_wp2
                go_ret
                exact ⟨by rw [HCK.out]; rfl, BEL.out.trans (B9.out.mono BEL.out.size)⟩
          · obtain rfl : t = path.length := by omega
            rw [show ((path.length : Int)).toNat = path.length from rfl] at HG
            have HCK : Aside0 (chk (P :: C :: L0) P H page path root = 0) := ⟨by
              unfold chk
              rw [if_neg HB.out, HBL.out, if_neg (by have := HLE.out; omega), HNB.out, if_neg (by simp), if_pos]
              rw [List.all_eq_true]
              exact fun j hj => HG.out j (List.mem_range.1 hj)⟩
            clear ht
            go_wp2
            go_ret
            exact ⟨by rw [HCK.out]; rfl, BWR.out⟩
  · have hl2 : ((path.length : Int) != bl.length) = true := bne_iff_ne.mpr hlen
    have HCK : Aside0 (chk (P :: C :: L0) P H page path root = 3) := ⟨by unfold chk; rw [if_neg HB.out, HBL.out, if_pos (by omega)]⟩
    go_wp2
    go_ret
    exact ⟨by rw [HCK.out]; rfl, BEL.out⟩
end Go.Proofs.YtgmdgkanfhoahaaDoor.CheckR
