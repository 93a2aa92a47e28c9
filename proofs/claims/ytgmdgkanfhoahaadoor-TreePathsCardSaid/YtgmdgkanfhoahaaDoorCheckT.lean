/- tree.Check: the walk. -/
import Derived.Test.YtgmdgkanfhoahaaDoorEvs
namespace Go.Proofs.YtgmdgkanfhoahaaDoor.CheckT
open Go.RowKit Go.Proofs.YtgmdgkanfhoahaaDoor.ShaPure Go.Proofs.YtgmdgkanfhoahaaDoor.ShaBlk Go.Proofs.YtgmdgkanfhoahaaDoor.ShaWrite Go.Proofs.YtgmdgkanfhoahaaDoor.ShaSum Go.Proofs.YtgmdgkanfhoahaaDoor.ShaEnd Go.Proofs.YtgmdgkanfhoahaaDoor.ShaOf Go.Proofs.YtgmdgkanfhoahaaDoor.BytesW Go.Proofs.YtgmdgkanfhoahaaDoor.Put Go.Proofs.YtgmdgkanfhoahaaDoor.LogW Go.Proofs.YtgmdgkanfhoahaaDoor.Dig Go.Proofs.YtgmdgkanfhoahaaDoor.Hdr Go.Proofs.YtgmdgkanfhoahaaDoor.Above Go.Proofs.YtgmdgkanfhoahaaDoor.Build Go.Proofs.YtgmdgkanfhoahaaDoor.BuildW Go.Proofs.YtgmdgkanfhoahaaDoor.BuildE Go.Proofs.YtgmdgkanfhoahaaDoor.Kid Go.Proofs.YtgmdgkanfhoahaaDoor.AwakeA Go.Proofs.YtgmdgkanfhoahaaDoor.PlanP Go.Proofs.YtgmdgkanfhoahaaDoor.Chk Go.Proofs.YtgmdgkanfhoahaaDoor.PTreePaths Go.Proofs.YtgmdgkanfhoahaaDoorW.PrintWords Go.Proofs.YtgmdgkanfhoahaaDoorW.PrintLast Go.Proofs.YtgmdgkanfhoahaaDoorW.PrintMore
set_option linter.unusedVariables false
set_option linter.unusedSimpArgs false

set_option maxHeartbeats 8000000 in
set_option maxRecDepth 100000 in
theorem check_calls (L : Option Nat) (S : Nat → Prop) (ps : List (List Int × List Int)) (P C N H a6 a7 a8 a9 : Int) (L0 : List Int) (LA : Option Addr) (lc : Nat) (page : Int) (A : Option Addr) (c : Nat) (path : List (List Int)) (root : List Int) (w : World) (hL : Lg w L S ps) (hT : Tab w)
    (hp : Plan P C L0 H) (hLv : ∀ W', Kept w W' S → Kd.C (Kd.int .i64) W' LA L0.length L0) (hlc : L0.length ≤ lc) (hRD : RD w S A path) (hby : ∀ b ∈ path, Bytes b) (hroot : root.length = 32) (hn : path.length ≤ 1000) (hps : ps.length ≤ 10000000) (hpg : page ≤ 9223372036854775807) :
    Calls Tryd.prog 14 #[ptr L, .agg (planCells P 4 C (.slice LA L0.length lc) N H a6 a7 a8 a9), .int .i64 page, .slice A path.length c, .agg (nums .u8 root).toArray] w fun e w' => e = .returned (.int .i64 (chk (P :: C :: L0) P H page path root)) ∧
      ∃ m, Noted w w' L S (ps ++ cps (up (P :: C :: L0) 0 16 page) path m) ∧ (chk (P :: C :: L0) P H page path root = 0 → m = path.length) := by
  have HL := Aside0.mk hL
  have HT := Aside0.mk hT
  have HP := Aside0.mk hp
  have HLV := Aside0.mk hLv
  have HLC := Aside0.mk hlc
  have HRD := Aside0.mk hRD
  have HBY := Aside0.mk hby
  have HRL := Aside0.mk hroot
  have HNN := Aside0.mk hn
  have HPS := Aside0.mk hps
  have HPG := Aside0.mk hpg
  have HST := Aside0.mk hL.tab
  have HSL := Aside0.mk hL.lt
  have HRM := Aside0.mk hRD.1
  clear hL hT hp hLv hlc hRD hby hroot hn hps hpg
  go_enter Tryd.func14, Tryd.ntmps14
  go_wp2_with fail
  have hws : ((w.alloc (.cells (planCells P 4 C (.slice LA L0.length lc) N H a6 a7 a8 a9) 25 (0, 0))).alloc (.cells (nums .u8 root).toArray 29 (0, 0))).heap.size = w.heap.size + 2 := (Array.size_push ..).trans (congrArg (· + 1) (Array.size_push ..))
  have GB := Aside0.mk (blk_alloc (blk_new w (.cells (planCells P 4 C (.slice LA L0.length lc) N H a6 a7 a8 a9) 25 (0, 0))) (.cells (nums .u8 root).toArray 29 (0, 0)))
  have GR := Aside0.mk (blk_new (w.alloc (.cells (planCells P 4 C (.slice LA L0.length lc) N H a6 a7 a8 a9) 25 (0, 0))) (.cells (nums .u8 root).toArray 29 (0, 0)))
  rw [show (w.alloc (.cells (planCells P 4 C (.slice LA L0.length lc) N H a6 a7 a8 a9) 25 (0, 0))).heap.size = w.heap.size + 1 from Array.size_push ..] at GR
  have BEL := Aside0.mk (below_alloc (below_alloc (Below.refl w.heap.size w) (.cells (planCells P 4 C (.slice LA L0.length lc) N H a6 a7 a8 a9) 25 (0, 0))) (.cells (nums .u8 root).toArray 29 (0, 0)))
  have HWS := Aside0.mk hws
  clear hws
  change Calls _ _ #[.agg (planCells P 4 C (.slice LA L0.length lc) N H a6 a7 a8 a9), _] ((w.alloc (.cells (planCells P 4 C (.slice LA L0.length lc) N H a6 a7 a8 a9) 25 (0, 0))).alloc (.cells (nums .u8 root).toArray 29 (0, 0))) _
  generalize World.alloc (World.alloc w _) _ = wa at GB GR BEL HWS ⊢
  obtain ⟨gr, hgr⟩ : ∃ gr, w.heap.size + 1 = gr := ⟨_, rfl⟩
  obtain ⟨gb, hgb⟩ : ∃ gb, w.heap.size = gb := ⟨_, rfl⟩
  rw [hgr] at GR ⊢
  rw [hgb] at GB ⊢
  have HGR := Aside0.mk hgr
  have HGB := Aside0.mk hgb
  clear hgr hgb
  have NSG : Aside0 (∀ k, w.heap.size ≤ k → ¬ S k) := ⟨fun k hk hs => by have := HSL.out k hs; omega⟩
  by_cases hb : page < 0 ∨ page ≥ P
  · refine (plan_Path.calls 30 P 4 C LA lc L0 N H a6 a7 a8 a9 page [] 1 wa (HLV.out wa (Kept.of_below BEL.out S)) HLC.out (by rw [path_f P 4 C N a6 a7 a8 a9 L0 H HP.out 30 (by decide) page HPG.out, if_pos hb])).mono ?_
    rintro e w1 ⟨v0, rfl, -, hb1⟩
    have HCK : Aside0 (chk (P :: C :: L0) P H page path root = 1) := ⟨by unfold chk; rw [if_pos hb]⟩
    replace BEL := Aside0.mk (BEL.out.trans (hb1.mono BEL.out.size))
    clear hb hb1
    go_wp2
    go_ret
    refine ⟨by rw [HCK.out]; rfl, 0, ⟨S, by rw [cps, List.append_nil]; exact HL.out.below BEL.out, fun k hk => .inl hk, Out.of_below BEL.out S⟩, fun h => by rw [HCK.out] at h; exact absurd h (by decide)⟩
  have hpg0 : 0 ≤ page := by omega
  have hpg1 : page < P := by omega
  have HB := Aside0.mk hb
  clear hb
  have HUF := Aside0.mk (up_find0 HP.out page hpg0 hpg1)
  have HUL := Aside0.mk (up_len (P :: C :: L0) 0 16 page)
  have HPP : Aside0 (plan_Path.f 30 P 4 C L0 N H a6 a7 a8 a9 page = some (up (P :: C :: L0) 0 16 page, 0)) := ⟨by rw [path_f P 4 C N a6 a7 a8 a9 L0 H HP.out 30 (by decide) page HPG.out, if_neg HB.out]⟩
  clear hpg0 hpg1
  obtain ⟨bl, hbl⟩ : ∃ bl, up (P :: C :: L0) 0 16 page = bl := ⟨_, rfl⟩
  rw [hbl] at HUF HUL HPP
  have HBL := Aside0.mk hbl
  clear hbl
  refine (plan_Path.calls 30 P 4 C LA lc L0 N H a6 a7 a8 a9 page bl 0 wa (HLV.out wa (Kept.of_below BEL.out S)) HLC.out HPP.out).mono ?_
  rintro e w1 ⟨v0, rfl, hR, hb1⟩
  obtain ⟨RB, rb, er⟩ := Kd.R_slice hR
  subst er
  have HBR := Aside0.mk hR
  replace GB := Aside0.mk (blk_below GB.out hb1)
  replace GR := Aside0.mk (blk_below GR.out hb1)
  have HS1 := Aside0.mk (show w.heap.size + 2 ≤ w1.heap.size by have := hb1.size; have := HWS.out; omega)
  have HBB : Aside0 (∀ k, (Value.slice RB bl.length rb).ownBlock = some k → w.heap.size ≤ k) := ⟨fun k hk => by have := Kd.R_base hR k hk; have := HWS.out; omega⟩
  replace BEL := Aside0.mk (BEL.out.trans (hb1.mono BEL.out.size))
  clear hR hb1 HWS HPP
  by_cases hlen : (path.length : Int) = bl.length
  · have hl2 : ((path.length : Int) != bl.length) = false := bne_eq_false_iff_eq.mpr hlen
    have HLE := Aside0.mk hlen
    clear hlen
    go_wp2_with fail
    go_loopw [36] (fun i wr => ∃ t : Int, i = .int .i64 t ∧ 0 ≤ t ∧ t ≤ path.length ∧ Aside0 (wr = w1) ∧ Aside0 (∀ j, j < t.toNat → (path.getD j []).length = 256)) (fun i _ => path.length - (intOf i).toNat)
    case atStart => exact ⟨0, rfl, by omega, by omega, ⟨rfl⟩, ⟨fun j hj => by omega⟩⟩
    case round =>
      obtain ⟨t, rfl, t0, tn, HW, HJ⟩ := hrel
      obtain rfl := HW.out.symm
      by_cases ht : t < path.length
      · obtain ⟨ad, A1, c1, rfl, hc1, hCW⟩ := HRD.out.2 t.toNat (by omega)
        have hcell := (hCW _ (Kept.of_below BEL.out _)).2
        have hmx := HRM.out
        have hw : IntKind.i64.wrap (t + 1) = t + 1 := IntWalk.i64_in _ (by omega)
        by_cases h256 : (path.getD t.toNat []).length = 256
        · have HJN : Aside0 (∀ j, j < (t + 1).toNat → (path.getD j []).length = 256) := ⟨fun j hj => by
            by_cases e : j = t.toNat
            · rw [e]; exact h256
            · exact HJ.out j (by omega)⟩
          rw [h256] at hcell
          clear h256 hCW hc1
          go_wp2_with fail
          exact ⟨⟨t + 1, rfl, by omega, by omega, ⟨by first | rfl | trivial⟩, HJN⟩, by simp [intOf]; omega⟩
        · have HCK : Aside0 (chk (P :: C :: L0) P H page path root = 3) := ⟨by
            unfold chk
            rw [if_neg HB.out, HBL.out, if_neg (by have := HLE.out; omega), if_pos]
            rw [List.any_eq_true]
            refine ⟨path.getD t.toNat [], ?_, bne_iff_ne.mpr h256⟩
            rw [List.getD_eq_getElem?_getD, List.getElem?_eq_getElem (by omega)]
            exact List.getElem_mem (by omega)⟩
          obtain ⟨q, hq⟩ : ∃ q, (path.getD t.toNat []).length = q := ⟨_, rfl⟩
          rw [hq] at hcell h256
          have hq2 : ((q : Int) != 256) = true := bne_iff_ne.mpr (by omega)
          clear hCW hc1 hq h256
          go_wp2
          go_ret
          refine ⟨by rw [HCK.out]; rfl, 0, ⟨S, by rw [cps, List.append_nil]; exact HL.out.below BEL.out, fun k hk => .inl hk, Out.of_below BEL.out S⟩, fun h => by rw [HCK.out] at h; exact absurd h (by decide)⟩
      · obtain rfl : t = path.length := by omega
        have HALL : Aside0 (∀ j, j < path.length → (path.getD j []).length = 256) := ⟨fun j hj => HJ.out j (by omega)⟩
        have HNB : Aside0 (path.any (fun b => b.length != 256) = false) := ⟨by
          rw [List.any_eq_false]
          intro b hb
          obtain ⟨j, hj, rfl⟩ := List.getElem_of_mem hb
          have := HALL.out j hj
          rw [List.getD_eq_getElem?_getD, List.getElem?_eq_getElem hj] at this
          simpa using this⟩
        clear ht tn t0 HJ
        clear hl2
        go_wp2_with fail
        go_loopw [46] (fun i wr => ∃ (t : Int) (S1 : Nat → Prop), i = .int .i64 t ∧ 0 ≤ t ∧ t ≤ path.length ∧ Aside0 (Lg wr L S1 (ps ++ cps bl path t.toNat)) ∧ Aside0 (∀ k, S1 k → S k ∨ w1.heap.size ≤ k) ∧ Aside0 (Out w1 wr S) ∧ Aside0 (∀ j, j < t.toNat → good (P :: C :: L0) H bl path root j = true)) (fun i _ => path.length - (intOf i).toNat)
        case atStart => exact ⟨0, S, rfl, by omega, by omega, ⟨by simpa [cps] using HL.out.below BEL.out⟩, ⟨fun k hk => .inl hk⟩, ⟨Out.refl _ _⟩, ⟨fun j hj => by omega⟩⟩
        case round =>
          obtain ⟨t, S1, rfl, t0, tn, HLr, HS1', HO, HG⟩ := hrel
          have BWR := Aside0.mk ((Out.of_below BEL.out S).trans HO.out (fun k hk => .inl hk))
          have GBr := Aside0.mk (HO.out.blk GB.out (NSG.out gb (by have := HGB.out; omega)))
          have GRr := Aside0.mk (HO.out.blk GR.out (NSG.out gr (by have := HGR.out; omega)))
          have HBC : Aside0 (Kd.C (Kd.int .i64) wr RB bl.length bl) := ⟨Kd.C_kept_own (ok := fun k => (Value.slice RB bl.length rb).ownBlock = some k) (Kd.R_of_own (Kd.own_of_R HBR.out) (fun k hk => hk)) (fun k hk => NSG.out k (HBB.out k hk)) wr HO.out.kept⟩
          by_cases ht : t < path.length
          · obtain ⟨ad, A1, c1, rfl, hc1, hCW⟩ := HRD.out.2 t.toNat (by omega)
            have hcell := (hCW wr BWR.out.kept).2
            have h256 := HALL.out t.toNat (by omega)
            rw [h256] at hcell
            obtain ⟨xt, hxt⟩ : ∃ xt, path.getD t.toNat [] = xt := ⟨_, rfl⟩
            rw [hxt] at h256 hCW
            have HXL := Aside0.mk h256
            rw [h256] at hCW
            have HX1 : Aside0 (∀ W, Below wr.heap.size wr W → Kd.C (Kd.int .u8) W A1 256 xt) := ⟨fun W hW => (hCW W (BWR.out.below hW).kept).1⟩
            have HXB : Aside0 (Bytes xt) := ⟨by rw [← hxt]; exact getD_bytes HBY.out t.toNat⟩
            have hmx := HRM.out
            have hw : IntKind.i64.wrap (t + 1) = t + 1 := IntWalk.i64_in _ (by omega)
            have HI : Aside0 ((Tryd.prog.info? 29).map (·.size) = some (nums .u8 root).toArray.size) := ⟨by rw [Tryd.infoD, List.size_toArray, nums, List.length_map, HRL.out]⟩
            have HOc : Aside0 ((nums .u8 root).toArray.all (·.oneCell') = true) := ⟨by simp [nums, Value.oneCell']⟩
            have HZ : Aside0 ((nums .u8 (List.replicate 32 0)).toArray.size = (nums .u8 root).toArray.size) := ⟨by rw [List.size_toArray, List.size_toArray, nums, nums, List.length_map, List.length_map, HRL.out, List.length_replicate]⟩
            clear h256 hCW hc1
            obtain ⟨adb, rfl, hbc⟩ := Kd.at_int HBC.out t t0 (by have := HLE.out; omega)
            have HBT : Aside0 (rd bl t = bl.getD t.toNat 0) := ⟨rfl⟩
            obtain ⟨bt, hbt⟩ : ∃ bt, rd bl t = bt := ⟨_, rfl⟩
            rw [hbt] at hbc HBT
            have HUT := HUF.out t.toNat (by have := HLE.out; omega)
            rw [← HBT.out] at HUT
            have HBTR := Aside0.mk (show 0 ≤ bt ∧ bt ≤ 100000 from ⟨HUT.1, HUT.2.1⟩)
            have HBC0 := Aside0.mk hbc
            have HADW : Aside0 (adb.block < w1.heap.size) := ⟨by
              rcases (Kd.own_of_R HBR.out).2 with ⟨he, h0⟩ | ⟨g, cap, cur, he, _⟩
              · have := HLE.out; omega
              · have hlt := Kd.R_lt HBR.out
                injection he with h1 h2 h3
                injection h1 with h1
                subst h1
                exact hlt _ rfl⟩
            have HADB : Aside0 (w.heap.size ≤ adb.block) := ⟨by
              refine HBB.out adb.block ?_
              rcases (Kd.own_of_R HBR.out).2 with ⟨he, h0⟩ | ⟨g, cap, cur, he, _⟩
              · have := HLE.out; omega
              · injection he with h1 h2 h3
                injection h1 with h1
                subst h1
                rfl⟩
            by_cases hlast : t + 1 < path.length
            · obtain ⟨fb, fa, hf, hf0, hf1⟩ : ∃ b a, find (H - 1) (P :: C :: L0) 0 16 bt = (b, a, 0) ∧ 0 ≤ a ∧ a < 8 := by
                have h := HUT.2.2
                rw [if_pos (by have := HLE.out; omega)] at h
                exact h
              have HFA := Aside0.mk (And.intro hf0 hf1)
              obtain ⟨fe, hfe⟩ : ∃ fe : Int, 0 = fe := ⟨_, rfl⟩
              have HFE : Aside0 (plan_Parent.f 6 P 4 C L0 N H a6 a7 a8 a9 bt = some (fb, fa, fe)) := ⟨by rw [parent_f P 4 C N a6 a7 a8 a9 L0 H HP.out 6 (by decide) bt (by have := HBTR.out; omega), if_neg (by have := HBTR.out; omega), hf, hfe]⟩
              obtain ⟨ad2, A2, c2, e2, hc2, hCW2⟩ := HRD.out.2 (t.toNat + 1) (by omega)
              injection e2 with e2
              subst e2
              obtain ⟨x2, hx2⟩ : ∃ x2, path.getD (t.toNat + 1) [] = x2 := ⟨_, rfl⟩
              have h2l := HALL.out (t.toNat + 1) (by omega)
              rw [hx2] at hCW2 hc2 h2l
              rw [h2l] at hCW2 hc2
              have HL2 := Aside0.mk h2l
              have HC2 := Aside0.mk hc2
              obtain ⟨WL, hWL⟩ : ∃ WL, kid fa.toNat x2 = WL := ⟨_, rfl⟩
              have HKW := Aside0.mk hWL
              have HWT : Aside0 (want (P :: C :: L0) H bl path root t.toNat = WL) := ⟨by unfold want slot; rw [if_pos (by omega), ← HBT.out, hf, hx2]; exact hWL⟩
              have HWL : Aside0 (WL.length = 32) := ⟨by rw [← hWL]; exact kid_length h2l (by omega)⟩
              have HWI : Aside0 ((Tryd.prog.info? 29).map (·.size) = some (nums .u8 WL).toArray.size) := ⟨by rw [Tryd.infoD, List.size_toArray, nums, List.length_map, HWL.out]⟩
              have HWO : Aside0 ((nums .u8 WL).toArray.all (·.oneCell') = true) := ⟨by simp [nums, Value.oneCell']⟩
              have HWZ : Aside0 ((nums .u8 root).toArray.size = (nums .u8 WL).toArray.size) := ⟨by rw [List.size_toArray, List.size_toArray, nums, nums, List.length_map, List.length_map, HWL.out, HRL.out]⟩
              have HCW2 := Aside0.mk hCW2
              clear hWL h2l hx2 hc2 hCW2 hf hf0 hf1 hfe HUT hbt
              have hw5 : IntKind.i64.wrap (t + 1) = t + 1 := hw
              go_wp2_with (first
                | (refine wpList_load_row rfl 29 (.tmp 9) rfl gr rfl 29 (nums .u8 root).toArray _ _ GRr.out Tryd.underlying29 rfl HI.out ?_)
                | (refine wpList_store_row rfl 29 (.tmp 17) (.tmp 51) rfl wr.heap.size (nums .u8 root).toArray rfl rfl 29 (nums .u8 (List.replicate 32 0)).toArray (blk_new _ _) HI.out HZ.out HOc.out ?_
                   have hbq0 : Below wr.heap.size wr ((wr.alloc (.cells (nums .u8 (List.replicate 32 0)).toArray 29 (0, 0))).setRow wr.heap.size (nums .u8 root).toArray) := (below_alloc (Below.refl _ _) _).trans ⟨rfl, rfl, rfl, by rw [setRow_size]; exact Nat.le_refl _, fun k hk => setRow_other _ _ _ _ (by omega)⟩
                   have hgq0 : ((wr.alloc (.cells (nums .u8 (List.replicate 32 0)).toArray 29 (0, 0))).setRow wr.heap.size (nums .u8 root).toArray).heap[wr.heap.size]? = some (.cells (nums .u8 root).toArray 29 (0, 0)) := setRow_heap _ wr.heap.size _ _ _ _ (blk_new wr _)
                   have BQ := Aside0.mk hbq0
                   have GQ := Aside0.mk hgq0
                   have HG17 := Aside0.mk (Nat.le_refl wr.heap.size)
                   clear hbq0 hgq0
                   obtain ⟨g17, hg17⟩ : ∃ g17, wr.heap.size = g17 := ⟨_, rfl⟩
                   have HG17 : Aside0 (g17 = wr.heap.size) := ⟨hg17.symm⟩
                   have BQ' : Aside0 (Below wr.heap.size wr ((wr.alloc (.cells (nums .u8 (List.replicate 32 0)).toArray 29 (0, 0))).setRow g17 (nums .u8 root).toArray)) := ⟨by rw [← hg17]; exact BQ.out⟩
                   rw [hg17] at GQ ⊢
                   change wpList _ _ _ _ _ ((wr.alloc (.cells (nums .u8 (List.replicate 32 0)).toArray 29 (0, 0))).setRow g17 (nums .u8 root).toArray)
                   clear hg17 BQ
                   generalize (wr.alloc (.cells (nums .u8 (List.replicate 32 0)).toArray 29 (0, 0))).setRow g17 (nums .u8 root).toArray = wq at GQ BQ' ⊢))
              have GBq := Aside0.mk (blk_below GBr.out BQ'.out)
              have hbq : wq.cell? (adb.add t.toNat) = some (.int .i64 bt) := cell_same hbc (BQ'.out.block _ (cell_lt hbc))
              have HLW : Aside0 (∀ W, Below wq.heap.size wq W → Kd.C (Kd.int .i64) W LA L0.length L0) := ⟨fun W hW => HLV.out W ((BWR.out.below BQ'.out).below hW).kept⟩
              clear hbc hcell
              have htb : t < (bl.length : Int) := by have := HLE.out; omega
              refine start_ (n := 12) (S := fun w' => Below wq.heap.size wq w') (ds := [10]) #[false, false, false, false, false, false, false, false, false, false, false, false] (by kernel_rfl) rfl rfl (below_drew1 (Below.refl _ _)) (fun hHeld => ?_)
              have HH := Aside0.mk hHeld
              clear hHeld
              generalize wq.drew = w2 at HH ⊢
              refine take_ (i := 0) (N := some 58) (v := ?_) (a' := ?_) #[true, false, false, false, false, false, false, false, false, false, false, false] rfl rfl (by kernel_rfl) (fun _ _ _ h => h) (Or.inl ⟨by rfl, ?_⟩) HH.out ?_ ?_
              rotate_left
              · rintro w' s0
                refine ev_load_row 25 (.tmp 6) ?_ gb ?_ 25 (planCells P 4 C (.slice LA L0.length lc) N H a6 a7 a8 a9) (0, 0) _ (blk_below GBq.out s0) Tryd.underlying25 rfl Tryd.infoPlanC <;> rfl
              rotate_left
              · simp only [Act.put, List.setIfInBounds_toArray, List.set_cons_zero, List.set_cons_succ, i64_w, i32_w]
                rfl
              refine pure_ (i := 1) (N := some 59) (v := ?_) (a' := ?_) #[true, true, false, false, false, false, false, false, false, false, false, false] rfl rfl (by kernel_rfl) (fun _ _ _ h => h) (Or.inl ⟨by rfl, ?_⟩) ?_ ?_
              rotate_left
              · intro w'
                go_simp
                with_reducible rfl
              rotate_left
              · simp only [Act.put, List.setIfInBounds_toArray, List.set_cons_zero, List.set_cons_succ, i64_w, i32_w]
                rfl
              refine pure_ (i := 2) (N := some 60) (v := ?_) (a' := ?_) #[true, true, true, false, false, false, false, false, false, false, false, false] rfl rfl (by kernel_rfl) (fun _ _ _ h => h) (Or.inl ⟨by rfl, ?_⟩) ?_ ?_
              rotate_left
              · intro w'
                go_simp
                with_reducible rfl
              rotate_left
              · simp only [Act.put, List.setIfInBounds_toArray, List.set_cons_zero, List.set_cons_succ, i64_w, i32_w]
                rfl
              refine pure_ (i := 3) (N := some 61) (v := ?_) (a' := ?_) #[true, true, true, true, false, false, false, false, false, false, false, false] rfl rfl (by kernel_rfl) (fun _ _ _ h => h) (Or.inl ⟨by rfl, ?_⟩) ?_ ?_
              rotate_left
              · intro w'
                go_simp
                with_reducible rfl
              rotate_left
              · simp only [Act.put, List.setIfInBounds_toArray, List.set_cons_zero, List.set_cons_succ, i64_w, i32_w]
                rfl
              refine take_ (i := 4) (N := some 62) (v := ?_) (a' := ?_) #[true, true, true, true, true, false, false, false, false, false, false, false] rfl rfl (by kernel_rfl) (fun _ _ _ h => h) (Or.inl ⟨by rfl, ?_⟩) HH.out ?_ ?_
              rotate_left
              · rintro w' s0
                have z0 : w'.cell? (adb.add t.toNat) = some (.int .i64 bt) := cell_same hbq (s0.block _ (cell_lt hbq))
                clear s0
                go_simp
                with_reducible rfl
              rotate_left
              · simp only [Act.put, List.setIfInBounds_toArray, List.set_cons_zero, List.set_cons_succ, i64_w, i32_w]
                rfl
              refine join_ (σ := Nat) 2 #[true, true, true, true, true, true, true, true, true, true, false, false] (fun s => [(63, .tuple #[.agg #[.int .i64 fb, .int .i64 fa], .int .i64 fe]), (57, .tuple #[.agg #[.int .i64 fb, .int .i64 fa], .int .i64 fe]), (64, .agg #[.int .i64 fb, .int .i64 fa]), (65, .int .i64 fe), (18, .pointer (some ⟨s, 0, none⟩))]) (fun s w' => w'.heap[s]? = some (.cells #[.int .i64 0, .int .i64 0] 58 (0, 0)) ∧ Below wq.heap.size wq w' ∧ wq.heap.size ≤ s) ?_ ?_
              rotate_left
              · intro hj
                have HJ := Aside0.mk hj
                clear hj
                refine two_ (i := 5) (j := 9) (Ni := some 63) (Nj := some 18) #[true, true, true, true, true, true, false, false, false, false, false, false] #[true, true, true, true, true, false, false, false, false, true, false, false] rfl rfl rfl rfl (by kernel_rfl) (by decide) (by decide) (fun K hK => ?_) (fun K hK => ?_)
                · refine goes_ Tryd.func26 (by kernel_rfl) rfl #[.agg (planCells P 4 C (.slice LA L0.length lc) N H a6 a7 a8 a9), .int .i64 bt] (by rfl) rfl rfl (by simp only [List.map_toArray, List.map_cons, List.map_nil]; rfl) ?_
                  refine (plan_Parent.calls 6 P 4 C LA lc L0 N H a6 a7 a8 a9 bt fb fa fe w2 (HLW.out w2 HH.out) HLC.out HFE.out).mono ?_
                  rintro e w3 ⟨rfl, hb⟩
                  refine ⟨_, rfl, ?_⟩
                  have hb' := HH.out.trans (hb.mono HH.out.size)
                  refine hK.out _ _ hb' (fun hHeld => ?_)
                  clear hK K
                  refine norm_ (a' := ?_) ?_ ?_
                  rotate_left
                  · show Act.put _ (some 63) _ = _
                    simp only [Act.put, List.setIfInBounds_toArray, List.set_cons_zero, List.set_cons_succ, i64_w, i32_w]
                    rfl
                  replace HH := Aside0.mk hHeld
                  clear hHeld hb hb'
                  refine pure_ (i := 6) (N := some 57) (v := ?_) (a' := ?_) #[true, true, true, true, true, true, true, false, false, false, false, false] rfl rfl (by kernel_rfl) (fun _ _ _ h => h) (Or.inl ⟨by rfl, ?_⟩) ?_ ?_
                  rotate_left
                  · intro w'
                    go_simp
                    with_reducible rfl
                  rotate_left
                  · simp only [Act.put, List.setIfInBounds_toArray, List.set_cons_zero, List.set_cons_succ, i64_w, i32_w]
                    rfl
                  refine pure_ (i := 7) (N := some 64) (v := ?_) (a' := ?_) #[true, true, true, true, true, true, true, true, false, false, false, false] rfl rfl (by kernel_rfl) (fun _ _ _ h => h) (Or.inl ⟨by rfl, ?_⟩) ?_ ?_
                  rotate_left
                  · intro w'
                    go_simp
                    with_reducible rfl
                  rotate_left
                  · simp only [Act.put, List.setIfInBounds_toArray, List.set_cons_zero, List.set_cons_succ, i64_w, i32_w]
                    rfl
                  refine pure_ (i := 8) (N := some 65) (v := ?_) (a' := ?_) #[true, true, true, true, true, true, true, true, true, false, false, false] rfl rfl (by kernel_rfl) (fun _ _ _ h => h) (Or.inl ⟨by rfl, ?_⟩) ?_ ?_
                  rotate_left
                  · intro w'
                    go_simp
                    with_reducible rfl
                  rotate_left
                  · simp only [Act.put, List.setIfInBounds_toArray, List.set_cons_zero, List.set_cons_succ, i64_w, i32_w]
                    rfl
                  refine one_ (i := 9) (N := some 18) #[true, true, true, true, true, true, true, true, true, true, false, false] rfl rfl (by kernel_rfl) (by decide) (fun K hK => ?_)
                  refine value_ (w1 := w3.alloc (.cells #[.int .i64 0, .int .i64 0] 58 (0, 0))) (v := .pointer (some ⟨w3.heap.size, 0, none⟩)) (by rfl) rfl (by go_simp) ?_
                  have hn9 := blk_new w3 (.cells #[.int .i64 0, .int .i64 0] 58 (0, 0))
                  have hb9 := below_alloc HH.out (.cells #[.int .i64 0, .int .i64 0] 58 (0, 0))
                  have hs9 := HH.out.size
                  refine hK.out _ _ hb9 (fun hHeld => ?_)
                  clear hK K
                  refine norm_ (a' := ?_) ?_ ?_
                  rotate_left
                  · show Act.put _ (some 18) _ = _
                    simp only [Act.put, List.setIfInBounds_toArray, List.set_cons_zero, List.set_cons_succ, i64_w, i32_w]
                    rfl
                  exact HJ.out w3.heap.size _ ⟨hn9, hb9, hs9⟩
                · refine value_ (w1 := w2.alloc (.cells #[.int .i64 0, .int .i64 0] 58 (0, 0))) (v := .pointer (some ⟨w2.heap.size, 0, none⟩)) (by rfl) rfl (by go_simp) ?_
                  have hn9 := blk_new w2 (.cells #[.int .i64 0, .int .i64 0] 58 (0, 0))
                  have hb9 := below_alloc HH.out (.cells #[.int .i64 0, .int .i64 0] 58 (0, 0))
                  have hs9 := HH.out.size
                  refine hK.out _ _ hb9 (fun hHeld => ?_)
                  clear hK K
                  refine norm_ (a' := ?_) ?_ ?_
                  rotate_left
                  · show Act.put _ (some 18) _ = _
                    simp only [Act.put, List.setIfInBounds_toArray, List.set_cons_zero, List.set_cons_succ, i64_w, i32_w]
                    rfl
                  clear hHeld
                  replace HH := Aside0.mk hb9
                  obtain ⟨s9, hq9⟩ : ∃ s9, w2.heap.size = s9 := ⟨_, rfl⟩
                  rw [hq9] at hn9 hs9 ⊢
                  generalize w2.alloc (.cells #[.int .i64 0, .int .i64 0] 58 (0, 0)) = w3 at HH hn9 ⊢
                  clear hb9 hq9
                  refine one_ (i := 5) (N := some 63) #[true, true, true, true, true, true, false, false, false, true, false, false] rfl rfl (by kernel_rfl) (by decide) (fun K hK => ?_)
                  refine goes_ Tryd.func26 (by kernel_rfl) rfl #[.agg (planCells P 4 C (.slice LA L0.length lc) N H a6 a7 a8 a9), .int .i64 bt] (by rfl) rfl rfl (by simp only [List.map_toArray, List.map_cons, List.map_nil]; rfl) ?_
                  refine (plan_Parent.calls 6 P 4 C LA lc L0 N H a6 a7 a8 a9 bt fb fa fe w3 (HLW.out w3 HH.out) HLC.out HFE.out).mono ?_
                  rintro e w4 ⟨rfl, hb⟩
                  refine ⟨_, rfl, ?_⟩
                  have hb' := HH.out.trans (hb.mono HH.out.size)
                  have hn8 := blk_below hn9 hb
                  refine hK.out _ _ hb' (fun hHeld => ?_)
                  clear hK K
                  refine norm_ (a' := ?_) ?_ ?_
                  rotate_left
                  · show Act.put _ (some 63) _ = _
                    simp only [Act.put, List.setIfInBounds_toArray, List.set_cons_zero, List.set_cons_succ, i64_w, i32_w]
                    rfl
                  clear hHeld
                  refine pure_ (i := 6) (N := some 57) (v := ?_) (a' := ?_) #[true, true, true, true, true, true, true, false, false, true, false, false] rfl rfl (by kernel_rfl) (fun _ _ _ h => h) (Or.inl ⟨by rfl, ?_⟩) ?_ ?_
                  rotate_left
                  · intro w'
                    go_simp
                    with_reducible rfl
                  rotate_left
                  · simp only [Act.put, List.setIfInBounds_toArray, List.set_cons_zero, List.set_cons_succ, i64_w, i32_w]
                    rfl
                  refine pure_ (i := 7) (N := some 64) (v := ?_) (a' := ?_) #[true, true, true, true, true, true, true, true, false, true, false, false] rfl rfl (by kernel_rfl) (fun _ _ _ h => h) (Or.inl ⟨by rfl, ?_⟩) ?_ ?_
                  rotate_left
                  · intro w'
                    go_simp
                    with_reducible rfl
                  rotate_left
                  · simp only [Act.put, List.setIfInBounds_toArray, List.set_cons_zero, List.set_cons_succ, i64_w, i32_w]
                    rfl
                  refine pure_ (i := 8) (N := some 65) (v := ?_) (a' := ?_) #[true, true, true, true, true, true, true, true, true, true, false, false] rfl rfl (by kernel_rfl) (fun _ _ _ h => h) (Or.inl ⟨by rfl, ?_⟩) ?_ ?_
                  rotate_left
                  · intro w'
                    go_simp
                    with_reducible rfl
                  rotate_left
                  · simp only [Act.put, List.setIfInBounds_toArray, List.set_cons_zero, List.set_cons_succ, i64_w, i32_w]
                    rfl
                  exact HJ.out s9 _ ⟨hn8, hb', hs9⟩
              rintro gs w5 ⟨hP5, hB5, hG5⟩
              refine norm_ (a' := ?_) ?_ ?_
              rotate_left
              · simp only [putAll, Act.put, List.setIfInBounds_toArray, List.set_cons_zero, List.set_cons_succ, i64_w, i32_w]
                rfl
              refine last_ (i := 10) (N := none) #[true, true, true, true, true, true, true, true, true, true, true, false] rfl rfl (by kernel_rfl) (by decide) (fun K hK => ?_)
              refine skip_ (w1 := w5.setRow gs #[.int .i64 fb, .int .i64 fa]) (by rfl) rfl (by refine ev_store_row 58 (.tmp 18) (.tmp 64) ?_ gs #[.int .i64 fb, .int .i64 fa] ?_ ?_ 58 #[.int .i64 0, .int .i64 0] hP5 Tryd.infoPlace rfl (by simp [Value.oneCell']) <;> rfl) ?_
              refine hK.out _ _ ?_
              clear hK K
              refine norm_ (a' := ?_) ?_ ?_
              rotate_left
              · rfl
              refine pure_ (i := 11) (N := some 19) (v := ?_) (a' := ?_) #[true, true, true, true, true, true, true, true, true, true, true, true] rfl rfl (by kernel_rfl) (fun _ _ _ h => h) (Or.inl ⟨by rfl, ?_⟩) ?_ ?_
              rotate_left
              · intro w'
                go_simp
                with_reducible rfl
              rotate_left
              · simp only [Act.put, List.setIfInBounds_toArray, List.set_cons_zero, List.set_cons_succ, i64_w, i32_w]
                rfl
              refine done_ (by kernel_rfl) ?_
              have GS := Aside0.mk (setRow_heap w5 gs _ #[.int .i64 fb, .int .i64 fa] _ _ hP5)
              have B6 : Aside0 (Below wq.heap.size wq (w5.setRow gs #[.int .i64 fb, .int .i64 fa])) := ⟨hB5.trans ⟨rfl, rfl, rfl, by rw [setRow_size]; exact Nat.le_refl _, fun k hk => setRow_other _ _ _ _ (by omega)⟩⟩
              have HGS := Aside0.mk hG5
              clear hP5 hB5 hG5 HH
              generalize w5.setRow gs #[.int .i64 fb, .int .i64 fa] = w6 at GS B6 ⊢
              have B6r : Aside0 (Below wr.heap.size wr w6) := ⟨BQ'.out.trans (B6.out.mono BQ'.out.size)⟩
              have G6 := Aside0.mk (blk_below GQ.out B6.out)
              have hc6 : w6.cell? (ad.add (t + 1).toNat) = some (.slice A2 256 c2) := by rw [show (t + 1).toNat = t.toNat + 1 by omega]; exact (HCW2.out w6 (BWR.out.below B6r.out).kept).2
              have HX2 : Aside0 (∀ W, Below w6.heap.size w6 W → Kd.C (Kd.int .u8) W A2 x2.length x2) := ⟨fun W hW => by rw [HL2.out]; exact (HCW2.out W ((BWR.out.below B6r.out).below hW).kept).1⟩
              have ht1 : 0 ≤ t + 1 := by omega
              clear hbq htb
              go_wp2_with fail
              refine start_ (n := 12) (S := fun w' => Below w6.heap.size w6 w') (ds := [11]) #[false, false, false, false, false, false, false, false, false, false, false, false] (by kernel_rfl) rfl rfl (below_drew1 (Below.refl _ _)) (fun hHeld => ?_)
              have HH := Aside0.mk hHeld
              clear hHeld
              generalize w6.drew = w2 at HH ⊢
              refine pure_ (i := 0) (N := some 67) (v := ?_) (a' := ?_) #[true, false, false, false, false, false, false, false, false, false, false, false] rfl rfl (by kernel_rfl) (fun _ _ _ h => h) (Or.inl ⟨by rfl, ?_⟩) ?_ ?_
              rotate_left
              · intro w'
                go_simp
                with_reducible rfl
              rotate_left
              · simp only [Act.put, List.setIfInBounds_toArray, List.set_cons_zero, List.set_cons_succ, i64_w, i32_w]
                rfl
              refine pure_ (i := 1) (N := some 68) (v := ?_) (a' := ?_) #[true, true, false, false, false, false, false, false, false, false, false, false] rfl rfl (by kernel_rfl) (fun _ _ _ h => h) (Or.inl ⟨by rfl, ?_⟩) ?_ ?_
              rotate_left
              · intro w'
                go_simp
                with_reducible rfl
              rotate_left
              · simp only [Act.put, List.setIfInBounds_toArray, List.set_cons_zero, List.set_cons_succ, i64_w, i32_w]
                rfl
              refine pure_ (i := 2) (N := some 69) (v := ?_) (a' := ?_) #[true, true, true, false, false, false, false, false, false, false, false, false] rfl rfl (by kernel_rfl) (fun _ _ _ h => h) (Or.inl ⟨by rfl, ?_⟩) ?_ ?_
              rotate_left
              · intro w'
                go_simp
                with_reducible rfl
              rotate_left
              · simp only [Act.put, List.setIfInBounds_toArray, List.set_cons_zero, List.set_cons_succ, i64_w, i32_w]
                rfl
              refine pure_ (i := 3) (N := some 70) (v := ?_) (a' := ?_) #[true, true, true, true, false, false, false, false, false, false, false, false] rfl rfl (by kernel_rfl) (fun _ _ _ h => h) (Or.inl ⟨by rfl, ?_⟩) ?_ ?_
              rotate_left
              · intro w'
                go_simp
                with_reducible rfl
              rotate_left
              · simp only [Act.put, List.setIfInBounds_toArray, List.set_cons_zero, List.set_cons_succ, i64_w, i32_w]
                rfl
              refine take_ (i := 4) (N := some 71) (v := ?_) (a' := ?_) #[true, true, true, true, true, false, false, false, false, false, false, false] rfl rfl (by kernel_rfl) (fun _ _ _ h => h) (Or.inl ⟨by rfl, ?_⟩) HH.out ?_ ?_
              rotate_left
              · rintro w' s0
                have z0 : w'.cell? (ad.add (t + 1).toNat) = some (.slice A2 256 c2) := cell_same hc6 (s0.block _ (cell_lt hc6))
                clear s0
                go_simp
                with_reducible rfl
              rotate_left
              · simp only [Act.put, List.setIfInBounds_toArray, List.set_cons_zero, List.set_cons_succ, i64_w, i32_w]
                rfl
              refine pure_ (i := 5) (N := some 72) (v := ?_) (a' := ?_) #[true, true, true, true, true, true, false, false, false, false, false, false] rfl rfl (by kernel_rfl) (fun _ _ _ h => h) (Or.inl ⟨by rfl, ?_⟩) ?_ ?_
              rotate_left
              · intro w'
                go_simp
                with_reducible rfl
              rotate_left
              · simp only [Act.put, List.setIfInBounds_toArray, List.set_cons_zero, List.set_cons_succ, i64_w, i32_w]
                rfl
              refine take_ (i := 6) (N := some 73) (v := ?_) (a' := ?_) #[true, true, true, true, true, true, true, false, false, false, false, false] rfl rfl (by kernel_rfl) (fun _ _ _ h => h) (Or.inl ⟨by rfl, ?_⟩) HH.out ?_ ?_
              rotate_left
              · rintro w' s0
                have z0 : w'.cell? ⟨gs, 1, none⟩ = some (.int .i64 fa) := (blk_cell (blk_below GS.out s0) 1).trans rfl
                clear s0
                go_simp
                with_reducible rfl
              rotate_left
              · simp only [Act.put, List.setIfInBounds_toArray, List.set_cons_zero, List.set_cons_succ, i64_w, i32_w]
                rfl
              refine one_ (i := 7) (N := some 74) #[true, true, true, true, true, true, true, true, false, false, false, false] rfl rfl (by kernel_rfl) (by decide) (fun K hK => ?_)
              refine goes_ Tryd.func27 (by kernel_rfl) rfl #[.slice A2 256 c2, .int .i64 fa] (by rfl) rfl rfl (by simp only [List.map_toArray, List.map_cons, List.map_nil]; rfl) ?_
              refine (kid_calls A2 c2 x2 fa w2 (HX2.out w2 HH.out) HL2.out HC2.out HFA.out.1 HFA.out.2).mono ?_
              rw [HKW.out]
              rintro e w3 ⟨rfl, hb⟩
              refine ⟨_, rfl, ?_⟩
              have hb' := HH.out.trans (hb.mono HH.out.size)
              refine hK.out _ _ hb' (fun hHeld => ?_)
              clear hK K
              refine norm_ (a' := ?_) ?_ ?_
              rotate_left
              · show Act.put _ (some 74) _ = _
                simp only [Act.put, List.setIfInBounds_toArray, List.set_cons_zero, List.set_cons_succ, i64_w, i32_w]
                rfl
              replace HH := Aside0.mk hHeld
              clear hHeld hb hb'
              refine pure_ (i := 8) (N := some 66) (v := ?_) (a' := ?_) #[true, true, true, true, true, true, true, true, true, false, false, false] rfl rfl (by kernel_rfl) (fun _ _ _ h => h) (Or.inl ⟨by rfl, ?_⟩) ?_ ?_
              rotate_left
              · intro w'
                go_simp
                with_reducible rfl
              rotate_left
              · simp only [Act.put, List.setIfInBounds_toArray, List.set_cons_zero, List.set_cons_succ, i64_w, i32_w]
                rfl
              refine pure_ (i := 9) (N := some 75) (v := ?_) (a' := ?_) #[true, true, true, true, true, true, true, true, true, true, false, false] rfl rfl (by kernel_rfl) (fun _ _ _ h => h) (Or.inl ⟨by rfl, ?_⟩) ?_ ?_
              rotate_left
              · intro w'
                go_simp
                with_reducible rfl
              rotate_left
              · simp only [Act.put, List.setIfInBounds_toArray, List.set_cons_zero, List.set_cons_succ, i64_w, i32_w]
                rfl
              refine pure_ (i := 10) (N := some 76) (v := ?_) (a' := ?_) #[true, true, true, true, true, true, true, true, true, true, true, false] rfl rfl (by kernel_rfl) (fun _ _ _ h => h) (Or.inl ⟨by rfl, ?_⟩) ?_ ?_
              rotate_left
              · intro w'
                go_simp
                with_reducible rfl
              rotate_left
              · simp only [Act.put, List.setIfInBounds_toArray, List.set_cons_zero, List.set_cons_succ, i64_w, i32_w]
                rfl
              refine last_ (i := 11) (N := none) #[true, true, true, true, true, true, true, true, true, true, true, true] rfl rfl (by kernel_rfl) (by decide) (fun K hK => ?_)
              have hg17 := blk_below G6.out HH.out
              refine skip_ (w1 := w3.setRow g17 (nums .u8 WL).toArray) (by rfl) rfl (by refine ev_store_row 29 (.tmp 17) (.tmp 75) ?_ g17 (nums .u8 WL).toArray ?_ ?_ 29 (nums .u8 root).toArray hg17 HWI.out HWZ.out HWO.out <;> rfl) ?_
              refine hK.out _ _ ?_
              clear hK K
              refine done_ (by kernel_rfl) ?_
              have G7 := Aside0.mk (setRow_heap w3 g17 _ (nums .u8 WL).toArray _ _ hg17)
              have B7 : Aside0 (Below wr.heap.size wr (w3.setRow g17 (nums .u8 WL).toArray)) := ⟨(B6r.out.trans (HH.out.mono B6r.out.size)).trans ⟨rfl, rfl, rfl, by rw [setRow_size]; exact Nat.le_refl _, fun k hk => setRow_other _ _ _ _ (by have := HG17.out; omega)⟩⟩
              clear hg17 HH
              generalize w3.setRow g17 (nums .u8 WL).toArray = w7 at G7 B7 ⊢
              clear hc6
              have HNSA : Aside0 (¬ S1 (adb.add t.toNat).block) := ⟨fun h => by rw [add_block] at h; exact (HS1'.out _ h).elim (NSG.out _ HADB.out) (fun h2 => by have := HADW.out; omega)⟩
              have HNSB : Aside0 (¬ S1 g17) := ⟨fun h => by have := HLr.out.lt _ h; have := HG17.out; omega⟩
              have HXT : Aside0 (path.getD t.toNat [] = xt) := ⟨hxt⟩
              obtain ⟨DD, hDD⟩ : ∃ DD, dig bt xt = DD := ⟨_, rfl⟩
              have HDD := Aside0.mk hDD
              have HDL : Aside0 (DD.length = 32) := ⟨by rw [← hDD]; rfl⟩
              have hb7 : w7.drew.cell? (adb.add t.toNat) = some (.int .i64 bt) := cell_same HBC0.out (B7.out.block _ (cell_lt HBC0.out))
              have htb : t < (bl.length : Int) := by have := HLE.out; omega
              clear hDD hxt
              go_wp2_with fail
              refine start_ (n := 9) (S := fun w' => w'.heap[g17]? = some (.cells (nums .u8 WL).toArray 29 (0, 0)) ∧ w'.cell? (adb.add t.toNat) = some (.int .i64 bt)) (ds := []) #[false, false, false, false, false, false, false, false, false] (by kernel_rfl) rfl rfl ⟨blk_drew G7.out, hb7⟩ (fun hHeld => ?_)
              have HH := Aside0.mk hHeld
              clear hHeld
              have BD := Aside0.mk (below_drew1 B7.out)
              clear hb7
              generalize w7.drew = w8 at HH BD ⊢
              refine pure_ (i := 0) (N := some 77) (v := ?_) (a' := ?_) #[true, false, false, false, false, false, false, false, false] rfl rfl (by kernel_rfl) (fun _ _ _ h => h) (Or.inl ⟨by rfl, ?_⟩) ?_ ?_
              rotate_left
              · intro w'
                go_simp
                with_reducible rfl
              rotate_left
              · simp only [Act.put, List.setIfInBounds_toArray, List.set_cons_zero, List.set_cons_succ, i64_w, i32_w]
                rfl
              refine pure_ (i := 1) (N := some 78) (v := ?_) (a' := ?_) #[true, true, false, false, false, false, false, false, false] rfl rfl (by kernel_rfl) (fun _ _ _ h => h) (Or.inl ⟨by rfl, ?_⟩) ?_ ?_
              rotate_left
              · intro w'
                go_simp
                with_reducible rfl
              rotate_left
              · simp only [Act.put, List.setIfInBounds_toArray, List.set_cons_zero, List.set_cons_succ, i64_w, i32_w]
                rfl
              refine pure_ (i := 2) (N := some 79) (v := ?_) (a' := ?_) #[true, true, true, false, false, false, false, false, false] rfl rfl (by kernel_rfl) (fun _ _ _ h => h) (Or.inl ⟨by rfl, ?_⟩) ?_ ?_
              rotate_left
              · intro w'
                go_simp
                with_reducible rfl
              rotate_left
              · simp only [Act.put, List.setIfInBounds_toArray, List.set_cons_zero, List.set_cons_succ, i64_w, i32_w]
                rfl
              refine pure_ (i := 3) (N := some 80) (v := ?_) (a' := ?_) #[true, true, true, true, false, false, false, false, false] rfl rfl (by kernel_rfl) (fun _ _ _ h => h) (Or.inl ⟨by rfl, ?_⟩) ?_ ?_
              rotate_left
              · intro w'
                go_simp
                with_reducible rfl
              rotate_left
              · simp only [Act.put, List.setIfInBounds_toArray, List.set_cons_zero, List.set_cons_succ, i64_w, i32_w]
                rfl
              refine take_ (i := 4) (N := some 81) (v := ?_) (a' := ?_) #[true, true, true, true, true, false, false, false, false] rfl rfl (by kernel_rfl) (fun _ _ _ h => h) (Or.inl ⟨by rfl, ?_⟩) HH.out ?_ ?_
              rotate_left
              · rintro w' ⟨s0, s1⟩
                clear s0
                go_simp
                with_reducible rfl
              rotate_left
              · simp only [Act.put, List.setIfInBounds_toArray, List.set_cons_zero, List.set_cons_succ, i64_w, i32_w]
                rfl
              refine pure_ (i := 5) (N := some 82) (v := ?_) (a' := ?_) #[true, true, true, true, true, true, false, false, false] rfl rfl (by kernel_rfl) (fun _ _ _ h => h) (Or.inl ⟨by rfl, ?_⟩) ?_ ?_
              rotate_left
              · intro w'
                go_simp
                with_reducible rfl
              rotate_left
              · simp only [Act.put, List.setIfInBounds_toArray, List.set_cons_zero, List.set_cons_succ, i64_w, i32_w]
                rfl
              refine take_ (i := 7) (N := some 84) (v := ?_) (a' := ?_) #[true, true, true, true, true, true, false, true, false] rfl rfl (by kernel_rfl) (fun _ _ _ h => h) (Or.inl ⟨by rfl, ?_⟩) HH.out ?_ ?_
              rotate_left
              · rintro w' ⟨s0, s1⟩
                refine ev_load_row 29 (.tmp 17) ?_ g17 ?_ 29 (nums .u8 WL).toArray (0, 0) _ s0 Tryd.underlying29 rfl HWI.out <;> rfl
              rotate_left
              · simp only [Act.put, List.setIfInBounds_toArray, List.set_cons_zero, List.set_cons_succ, i64_w, i32_w]
                rfl
              refine one_ (i := 6) (N := some 83) #[true, true, true, true, true, true, true, true, false] rfl rfl (by kernel_rfl) (by decide) (fun K hK => ?_)
              refine goes_ Tryd.func20 (by kernel_rfl) rfl #[ptr L, .int .i64 bt, .slice A1 256 c1] (by rfl) rfl rfl (by simp only [List.map_toArray, List.map_cons, List.map_nil]; rfl) ?_
              have hdg := digest_calls L S1 (ps ++ cps bl path t.toNat) bt A1 c1 xt w8 (HLr.out.below BD.out) (Tab.kept HT.out (BWR.out.kept.below BD.out) HST.out) (by have h := HX1.out w8 BD.out; rw [HXL.out]; exact h) HXB.out (by rw [HXL.out]; decide) (by rw [List.length_append, cps_length]; have := HPS.out; have := HNN.out; omega)
              rw [HXL.out] at hdg
              refine hdg.mono ?_
              clear hdg
              rw [HDD.out]
              rintro e w9 ⟨rfl, S2, hL9, hS9, hO9⟩
              refine ⟨_, rfl, ?_⟩
              have hg9 := hO9.blk HH.out.1 HNSB.out
              have hc9 := cell_kept HH.out.2 hO9.kept HNSA.out
              have HL9 := Aside0.mk hL9
              have HS9 : Aside0 (∀ k, S2 k → S k ∨ w1.heap.size ≤ k) := ⟨fun k hk => (hS9 k hk).elim (HS1'.out k) (fun h => .inr (by have := BD.out.size; have := HO.out.size; omega))⟩
              have HO9 := Aside0.mk ((HO.out.below BD.out).trans hO9 HS1'.out)
              clear hL9 hS9 hO9
              refine hK.out _ _ ⟨hg9, hc9⟩ (fun hHeld => ?_)
              clear hK K
              refine norm_ (a' := ?_) ?_ ?_
              rotate_left
              · show Act.put _ (some 83) _ = _
                simp only [Act.put, List.setIfInBounds_toArray, List.set_cons_zero, List.set_cons_succ, i64_w, i32_w]
                rfl
              clear hHeld hg9 hc9 HH BD
              refine pure_ (i := 8) (N := some 85) (v := ?_) (a' := ?_) #[true, true, true, true, true, true, true, true, true] rfl rfl (by kernel_rfl) (fun _ _ _ h => h) (Or.inl ⟨by rfl, ?_⟩) ?_ ?_
              rotate_left
              · intro w'
                refine ev_neq32 DD WL HDL.out HWL.out w' (.tmp 83) (.tmp 84) 29 ?_ ?_ ?_ <;> rfl
              rotate_left
              · simp only [Act.put, List.setIfInBounds_toArray, List.set_cons_zero, List.set_cons_succ, i64_w, i32_w]
                rfl
              refine done_ (by kernel_rfl) ?_
              cases hg : (DD == WL)
              case true =>
                have hw6 : IntKind.i64.wrap (t + 1) = t + 1 := IntWalk.i64_in _ (by have := HRM.out; omega)
                have HGT : Aside0 (∀ j, j < (t + 1).toNat → good (P :: C :: L0) H bl path root j = true) := ⟨fun j hj => by
                  by_cases e : j = t.toNat
                  · rw [e]; unfold good; rw [← HBT.out, HXT.out, HWT.out, HDD.out]; exact hg
                  · exact HG.out j (by omega)⟩
                have HLN : Aside0 (Lg w9 L S2 (ps ++ cps bl path (t + 1).toNat)) := ⟨by rw [show (t + 1).toNat = t.toNat + 1 by omega, cps, ← HBT.out, HXT.out, HDD.out, ← List.append_assoc]; exact HL9.out⟩
                clear hg HG HL9
                go_wp2_with fail
                exact ⟨⟨t + 1, S2, rfl, by omega, by omega, HLN, HS9, HO9, HGT⟩, by simp [intOf]; omega⟩
              case false =>
                have HCK : Aside0 (chk (P :: C :: L0) P H page path root = 10) := ⟨by
                  unfold chk
                  rw [if_neg HB.out, HBL.out, if_neg (by have := HLE.out; omega), HNB.out, if_neg (by simp), if_neg]
                  intro h
                  rw [List.all_eq_true] at h
                  have h2 := h t.toNat (List.mem_range.2 (by omega))
                  unfold good at h2
                  rw [← HBT.out, HXT.out, HWT.out, HDD.out] at h2
                  rw [hg] at h2
                  exact absurd h2 (by decide)⟩
                have HLN : Aside0 (Lg w9 L S2 (ps ++ cps bl path (t.toNat + 1))) := ⟨by rw [cps, ← HBT.out, HXT.out, HDD.out, ← List.append_assoc]; exact HL9.out⟩
                clear hg HG HL9
                go_wp2
                go_ret
                refine ⟨by rw [HCK.out]; rfl, t.toNat + 1, ⟨S2, by rw [HBL.out]; exact HLN.out, fun k hk => (HS9.out k hk).elim .inl (fun h => .inr (by have := HS1.out; omega)), (Out.of_below BEL.out S).trans HO9.out (fun k hk => .inl hk)⟩, fun h => by rw [HCK.out] at h; exact absurd h (by decide)⟩
            · obtain ⟨WL, hWL⟩ : ∃ WL, root = WL := ⟨_, rfl⟩
              have HWT : Aside0 (want (P :: C :: L0) H bl path root t.toNat = WL) := ⟨by unfold want; rw [if_neg (by omega)]; exact hWL⟩
              have HWL : Aside0 (WL.length = 32) := ⟨by rw [← hWL]; exact HRL.out⟩
              have HWI : Aside0 ((Tryd.prog.info? 29).map (·.size) = some (nums .u8 WL).toArray.size) := ⟨by rw [Tryd.infoD, List.size_toArray, nums, List.length_map, HWL.out]⟩
              have HWE := Aside0.mk hWL
              clear hWL HUT hbt
              go_wp2_with (first
                | (refine wpList_load_row rfl 29 (.tmp 9) rfl gr rfl 29 (nums .u8 root).toArray _ _ GRr.out Tryd.underlying29 rfl HI.out ?_)
                | (refine wpList_store_row rfl 29 (.tmp 17) (.tmp 51) rfl wr.heap.size (nums .u8 root).toArray rfl rfl 29 (nums .u8 (List.replicate 32 0)).toArray (blk_new _ _) HI.out HZ.out HOc.out ?_
                   have hbq0 : Below wr.heap.size wr ((wr.alloc (.cells (nums .u8 (List.replicate 32 0)).toArray 29 (0, 0))).setRow wr.heap.size (nums .u8 root).toArray) := (below_alloc (Below.refl _ _) _).trans ⟨rfl, rfl, rfl, by rw [setRow_size]; exact Nat.le_refl _, fun k hk => setRow_other _ _ _ _ (by omega)⟩
                   have hgq0 : ((wr.alloc (.cells (nums .u8 (List.replicate 32 0)).toArray 29 (0, 0))).setRow wr.heap.size (nums .u8 root).toArray).heap[wr.heap.size]? = some (.cells (nums .u8 root).toArray 29 (0, 0)) := setRow_heap _ wr.heap.size _ _ _ _ (blk_new wr _)
                   have BQ := Aside0.mk hbq0
                   have GQ := Aside0.mk hgq0
                   have HG17 := Aside0.mk (Nat.le_refl wr.heap.size)
                   clear hbq0 hgq0
                   obtain ⟨g17, hg17⟩ : ∃ g17, wr.heap.size = g17 := ⟨_, rfl⟩
                   have HG17 : Aside0 (g17 = wr.heap.size) := ⟨hg17.symm⟩
                   have BQ' : Aside0 (Below wr.heap.size wr ((wr.alloc (.cells (nums .u8 (List.replicate 32 0)).toArray 29 (0, 0))).setRow g17 (nums .u8 root).toArray)) := ⟨by rw [← hg17]; exact BQ.out⟩
                   rw [hg17] at GQ ⊢
                   change wpList _ _ _ _ _ ((wr.alloc (.cells (nums .u8 (List.replicate 32 0)).toArray 29 (0, 0))).setRow g17 (nums .u8 root).toArray)
                   clear hg17 BQ
                   generalize (wr.alloc (.cells (nums .u8 (List.replicate 32 0)).toArray 29 (0, 0))).setRow g17 (nums .u8 root).toArray = wq at GQ BQ' ⊢))
              clear hcell
              have G7 : Aside0 (wq.heap[g17]? = some (.cells (nums .u8 WL).toArray 29 (0, 0))) := ⟨by rw [← HWE.out]; exact GQ.out⟩
              have B7 := Aside0.mk BQ'.out
              clear GQ BQ'
              generalize wq = w7 at G7 B7 ⊢
              have HNSA : Aside0 (¬ S1 (adb.add t.toNat).block) := ⟨fun h => by rw [add_block] at h; exact (HS1'.out _ h).elim (NSG.out _ HADB.out) (fun h2 => by have := HADW.out; omega)⟩
              have HNSB : Aside0 (¬ S1 g17) := ⟨fun h => by have := HLr.out.lt _ h; have := HG17.out; omega⟩
              have HXT : Aside0 (path.getD t.toNat [] = xt) := ⟨hxt⟩
              obtain ⟨DD, hDD⟩ : ∃ DD, dig bt xt = DD := ⟨_, rfl⟩
              have HDD := Aside0.mk hDD
              have HDL : Aside0 (DD.length = 32) := ⟨by rw [← hDD]; rfl⟩
              have hb7 : w7.drew.cell? (adb.add t.toNat) = some (.int .i64 bt) := cell_same HBC0.out (B7.out.block _ (cell_lt HBC0.out))
              have htb : t < (bl.length : Int) := by have := HLE.out; omega
              clear hDD hxt
              go_wp2_with fail
              refine start_ (n := 9) (S := fun w' => w'.heap[g17]? = some (.cells (nums .u8 WL).toArray 29 (0, 0)) ∧ w'.cell? (adb.add t.toNat) = some (.int .i64 bt)) (ds := []) #[false, false, false, false, false, false, false, false, false] (by kernel_rfl) rfl rfl ⟨blk_drew G7.out, hb7⟩ (fun hHeld => ?_)
              have HH := Aside0.mk hHeld
              clear hHeld
              have BD := Aside0.mk (below_drew1 B7.out)
              clear hb7
              generalize w7.drew = w8 at HH BD ⊢
              refine pure_ (i := 0) (N := some 77) (v := ?_) (a' := ?_) #[true, false, false, false, false, false, false, false, false] rfl rfl (by kernel_rfl) (fun _ _ _ h => h) (Or.inl ⟨by rfl, ?_⟩) ?_ ?_
              rotate_left
              · intro w'
                go_simp
                with_reducible rfl
              rotate_left
              · simp only [Act.put, List.setIfInBounds_toArray, List.set_cons_zero, List.set_cons_succ, i64_w, i32_w]
                rfl
              refine pure_ (i := 1) (N := some 78) (v := ?_) (a' := ?_) #[true, true, false, false, false, false, false, false, false] rfl rfl (by kernel_rfl) (fun _ _ _ h => h) (Or.inl ⟨by rfl, ?_⟩) ?_ ?_
              rotate_left
              · intro w'
                go_simp
                with_reducible rfl
              rotate_left
              · simp only [Act.put, List.setIfInBounds_toArray, List.set_cons_zero, List.set_cons_succ, i64_w, i32_w]
                rfl
              refine pure_ (i := 2) (N := some 79) (v := ?_) (a' := ?_) #[true, true, true, false, false, false, false, false, false] rfl rfl (by kernel_rfl) (fun _ _ _ h => h) (Or.inl ⟨by rfl, ?_⟩) ?_ ?_
              rotate_left
              · intro w'
                go_simp
                with_reducible rfl
              rotate_left
              · simp only [Act.put, List.setIfInBounds_toArray, List.set_cons_zero, List.set_cons_succ, i64_w, i32_w]
                rfl
              refine pure_ (i := 3) (N := some 80) (v := ?_) (a' := ?_) #[true, true, true, true, false, false, false, false, false] rfl rfl (by kernel_rfl) (fun _ _ _ h => h) (Or.inl ⟨by rfl, ?_⟩) ?_ ?_
              rotate_left
              · intro w'
                go_simp
                with_reducible rfl
              rotate_left
              · simp only [Act.put, List.setIfInBounds_toArray, List.set_cons_zero, List.set_cons_succ, i64_w, i32_w]
                rfl
              refine take_ (i := 4) (N := some 81) (v := ?_) (a' := ?_) #[true, true, true, true, true, false, false, false, false] rfl rfl (by kernel_rfl) (fun _ _ _ h => h) (Or.inl ⟨by rfl, ?_⟩) HH.out ?_ ?_
              rotate_left
              · rintro w' ⟨s0, s1⟩
                clear s0
                go_simp
                with_reducible rfl
              rotate_left
              · simp only [Act.put, List.setIfInBounds_toArray, List.set_cons_zero, List.set_cons_succ, i64_w, i32_w]
                rfl
              refine pure_ (i := 5) (N := some 82) (v := ?_) (a' := ?_) #[true, true, true, true, true, true, false, false, false] rfl rfl (by kernel_rfl) (fun _ _ _ h => h) (Or.inl ⟨by rfl, ?_⟩) ?_ ?_
              rotate_left
              · intro w'
                go_simp
                with_reducible rfl
              rotate_left
              · simp only [Act.put, List.setIfInBounds_toArray, List.set_cons_zero, List.set_cons_succ, i64_w, i32_w]
                rfl
              refine take_ (i := 7) (N := some 84) (v := ?_) (a' := ?_) #[true, true, true, true, true, true, false, true, false] rfl rfl (by kernel_rfl) (fun _ _ _ h => h) (Or.inl ⟨by rfl, ?_⟩) HH.out ?_ ?_
              rotate_left
              · rintro w' ⟨s0, s1⟩
                refine ev_load_row 29 (.tmp 17) ?_ g17 ?_ 29 (nums .u8 WL).toArray (0, 0) _ s0 Tryd.underlying29 rfl HWI.out <;> rfl
              rotate_left
              · simp only [Act.put, List.setIfInBounds_toArray, List.set_cons_zero, List.set_cons_succ, i64_w, i32_w]
                rfl
              refine one_ (i := 6) (N := some 83) #[true, true, true, true, true, true, true, true, false] rfl rfl (by kernel_rfl) (by decide) (fun K hK => ?_)
              refine goes_ Tryd.func20 (by kernel_rfl) rfl #[ptr L, .int .i64 bt, .slice A1 256 c1] (by rfl) rfl rfl (by simp only [List.map_toArray, List.map_cons, List.map_nil]; rfl) ?_
              have hdg := digest_calls L S1 (ps ++ cps bl path t.toNat) bt A1 c1 xt w8 (HLr.out.below BD.out) (Tab.kept HT.out (BWR.out.kept.below BD.out) HST.out) (by have h := HX1.out w8 BD.out; rw [HXL.out]; exact h) HXB.out (by rw [HXL.out]; decide) (by rw [List.length_append, cps_length]; have := HPS.out; have := HNN.out; omega)
              rw [HXL.out] at hdg
              refine hdg.mono ?_
              clear hdg
              rw [HDD.out]
              rintro e w9 ⟨rfl, S2, hL9, hS9, hO9⟩
              refine ⟨_, rfl, ?_⟩
              have hg9 := hO9.blk HH.out.1 HNSB.out
              have hc9 := cell_kept HH.out.2 hO9.kept HNSA.out
              have HL9 := Aside0.mk hL9
              have HS9 : Aside0 (∀ k, S2 k → S k ∨ w1.heap.size ≤ k) := ⟨fun k hk => (hS9 k hk).elim (HS1'.out k) (fun h => .inr (by have := BD.out.size; have := HO.out.size; omega))⟩
              have HO9 := Aside0.mk ((HO.out.below BD.out).trans hO9 HS1'.out)
              clear hL9 hS9 hO9
              refine hK.out _ _ ⟨hg9, hc9⟩ (fun hHeld => ?_)
              clear hK K
              refine norm_ (a' := ?_) ?_ ?_
              rotate_left
              · show Act.put _ (some 83) _ = _
                simp only [Act.put, List.setIfInBounds_toArray, List.set_cons_zero, List.set_cons_succ, i64_w, i32_w]
                rfl
              clear hHeld hg9 hc9 HH BD
              refine pure_ (i := 8) (N := some 85) (v := ?_) (a' := ?_) #[true, true, true, true, true, true, true, true, true] rfl rfl (by kernel_rfl) (fun _ _ _ h => h) (Or.inl ⟨by rfl, ?_⟩) ?_ ?_
              rotate_left
              · intro w'
                refine ev_neq32 DD WL HDL.out HWL.out w' (.tmp 83) (.tmp 84) 29 ?_ ?_ ?_ <;> rfl
              rotate_left
              · simp only [Act.put, List.setIfInBounds_toArray, List.set_cons_zero, List.set_cons_succ, i64_w, i32_w]
                rfl
              refine done_ (by kernel_rfl) ?_
              cases hg : (DD == WL)
              case true =>
                have hw6 : IntKind.i64.wrap (t + 1) = t + 1 := IntWalk.i64_in _ (by have := HRM.out; omega)
                have HGT : Aside0 (∀ j, j < (t + 1).toNat → good (P :: C :: L0) H bl path root j = true) := ⟨fun j hj => by
                  by_cases e : j = t.toNat
                  · rw [e]; unfold good; rw [← HBT.out, HXT.out, HWT.out, HDD.out]; exact hg
                  · exact HG.out j (by omega)⟩
                have HLN : Aside0 (Lg w9 L S2 (ps ++ cps bl path (t + 1).toNat)) := ⟨by rw [show (t + 1).toNat = t.toNat + 1 by omega, cps, ← HBT.out, HXT.out, HDD.out, ← List.append_assoc]; exact HL9.out⟩
                clear hg HG HL9
                go_wp2_with fail
                exact ⟨⟨t + 1, S2, rfl, by omega, by omega, HLN, HS9, HO9, HGT⟩, by simp [intOf]; omega⟩
              case false =>
                have HCK : Aside0 (chk (P :: C :: L0) P H page path root = 10) := ⟨by
                  unfold chk
                  rw [if_neg HB.out, HBL.out, if_neg (by have := HLE.out; omega), HNB.out, if_neg (by simp), if_neg]
                  intro h
                  rw [List.all_eq_true] at h
                  have h2 := h t.toNat (List.mem_range.2 (by omega))
                  unfold good at h2
                  rw [← HBT.out, HXT.out, HWT.out, HDD.out] at h2
                  rw [hg] at h2
                  exact absurd h2 (by decide)⟩
                have HLN : Aside0 (Lg w9 L S2 (ps ++ cps bl path (t.toNat + 1))) := ⟨by rw [cps, ← HBT.out, HXT.out, HDD.out, ← List.append_assoc]; exact HL9.out⟩
                clear hg HG HL9
                go_wp2
                go_ret
                refine ⟨by rw [HCK.out]; rfl, t.toNat + 1, ⟨S2, by rw [HBL.out]; exact HLN.out, fun k hk => (HS9.out k hk).elim .inl (fun h => .inr (by have := HS1.out; omega)), (Out.of_below BEL.out S).trans HO9.out (fun k hk => .inl hk)⟩, fun h => by rw [HCK.out] at h; exact absurd h (by decide)⟩
          · obtain rfl : t = path.length := by omega
            rw [show ((path.length : Int)).toNat = path.length from rfl] at HLr HG
            have HCK : Aside0 (chk (P :: C :: L0) P H page path root = 0) := ⟨by
              unfold chk
              rw [if_neg HB.out, HBL.out, if_neg (by have := HLE.out; omega), HNB.out, if_neg (by simp), if_pos]
              rw [List.all_eq_true]
              exact fun j hj => HG.out j (List.mem_range.1 hj)⟩
            clear ht
            go_wp2
            go_ret
            refine ⟨by rw [HCK.out]; rfl, path.length, ⟨S1, by rw [HBL.out]; exact HLr.out, fun k hk => (HS1'.out k hk).elim .inl (fun h => .inr (by have := HS1.out; omega)), (Out.of_below BEL.out S).trans HO.out (fun k hk => .inl hk)⟩, fun _ => rfl⟩
  · have hl2 : ((path.length : Int) != bl.length) = true := bne_iff_ne.mpr hlen
    have HCK : Aside0 (chk (P :: C :: L0) P H page path root = 3) := ⟨by unfold chk; rw [if_neg HB.out, HBL.out, if_pos (by omega)]⟩
    go_wp2
    go_ret
    refine ⟨by rw [HCK.out]; rfl, 0, ⟨S, by rw [cps, List.append_nil]; exact HL.out.below BEL.out, fun k hk => .inl hk, Out.of_below BEL.out S⟩, fun h => by rw [HCK.out] at h; exact absurd h (by decide)⟩
end Go.Proofs.YtgmdgkanfhoahaaDoor.CheckT
