/- thimblelaw18.path: the walk. -/
import Derived.Test.YtgmdgkanfhoahaaDoorSmall
import Derived.Test.YtgmdgkanfhoahaaDoorPathP
import Derived.Test.YtgmdgkanfhoahaaDoorEvs
namespace Go.Proofs.YtgmdgkanfhoahaaDoor.PathW
open Go.RowKit Go.Proofs.YtgmdgkanfhoahaaDoor.ShaPure Go.Proofs.YtgmdgkanfhoahaaDoor.ShaBlk Go.Proofs.YtgmdgkanfhoahaaDoor.ShaWrite Go.Proofs.YtgmdgkanfhoahaaDoor.ShaSum Go.Proofs.YtgmdgkanfhoahaaDoor.ShaEnd Go.Proofs.YtgmdgkanfhoahaaDoor.ShaOf Go.Proofs.YtgmdgkanfhoahaaDoor.BytesW Go.Proofs.YtgmdgkanfhoahaaDoor.RefPad Go.Proofs.YtgmdgkanfhoahaaDoor.Put Go.Proofs.YtgmdgkanfhoahaaDoor.LogW Go.Proofs.YtgmdgkanfhoahaaDoor.Dig Go.Proofs.YtgmdgkanfhoahaaDoor.Hdr Go.Proofs.YtgmdgkanfhoahaaDoor.Above Go.Proofs.YtgmdgkanfhoahaaDoor.Build Go.Proofs.YtgmdgkanfhoahaaDoor.BuildW Go.Proofs.YtgmdgkanfhoahaaDoor.Kid Go.Proofs.YtgmdgkanfhoahaaDoor.AwakeA Go.Proofs.YtgmdgkanfhoahaaDoor.Awake Go.Proofs.YtgmdgkanfhoahaaDoor.GRow Go.Proofs.YtgmdgkanfhoahaaDoor.Small Go.Proofs.YtgmdgkanfhoahaaDoor.PlanP Go.Proofs.YtgmdgkanfhoahaaDoor.Chk Go.Proofs.YtgmdgkanfhoahaaDoor.PathP Go.Proofs.YtgmdgkanfhoahaaDoor.CheckT Go.Proofs.YtgmdgkanfhoahaaDoor.PTreePaths Go.Proofs.YtgmdgkanfhoahaaDoorW.PrintWords Go.Proofs.YtgmdgkanfhoahaaDoorW.PrintLast Go.Proofs.YtgmdgkanfhoahaaDoorW.PrintMore
set_option linter.unusedVariables false
set_option linter.unusedSimpArgs false

theorem up_in {P C : Int} {L : List Int} {H : Int} (hp : Plan P C L H) (page : Int) (h0 : 0 ≤ page) (h1 : page < P) : ∀ z ∈ up (P :: C :: L) 0 16 page, P ≤ z ∧ z < H := by
  have hc := hp.chain
  have hh := hp.head
  have hn := up_next (.inl rfl) hc.2.2.1 h0 h1
  intro z hz
  have hu : up (P :: C :: L) 0 16 page = (0 + P + page / 16) :: up (C :: L) (0 + P) 8 (page / 16) := rfl
  rw [hu] at hz
  have hs : 0 ≤ L.sum := by
    have hb := hp.chain.bound
    have : ∀ (l : List Int), (∀ x ∈ l, 1 ≤ x) → 0 ≤ l.sum := by
      intro l
      induction l with
      | nil => intro _; simp
      | cons y r ih =>
        intro hy
        have h4 := ih (fun x hx => hy x (List.mem_cons_of_mem _ hx))
        have h5 := hy y List.mem_cons_self
        rw [List.sum_cons]
        omega
    exact this L (fun x hx => (hb x (List.mem_cons_of_mem _ (List.mem_cons_of_mem _ hx))).1)
  rw [List.sum_cons, List.sum_cons] at hh
  rcases List.mem_cons.1 hz with rfl | hz
  · omega
  · have := up_range (C :: L) (0 + P) 8 (page / 16) hc.2.2.2 (.inr rfl) hn.1 hn.2 z hz
    rw [List.sum_cons] at this
    omega
theorem own_new2 {w0 : Nat} {w2 : World} {v v3 : Value} {gs : List (Nat × Nat)} {g : Nat × Nat} (hn : ∀ k, ghas v gs k → w0 ≤ k) (hat : v3.ownBlock = v.ownBlock ∨ ∃ b, v3.ownBlock = some b ∧ w2.heap.size ≤ b) (hs : w0 ≤ w2.heap.size) (hg : w0 ≤ g.1) : ∀ k, ghas v3 (gs ++ [g]) k → w0 ≤ k := by
  rintro k (hk | ⟨c, hk⟩)
  · rcases hat with h | ⟨b, h, hb⟩
    · exact hn k (.inl (h ▸ hk))
    · rw [h] at hk
      injection hk with hk
      omega
  · rcases List.mem_append.1 hk with h | h
    · exact hn k (.inr ⟨c, h⟩)
    · rw [List.mem_singleton] at h
      rw [← h] at hg
      exact hg
theorem below_grown2 {n : Nat} {w w2 w3 : World} {row : Option Nat} (h : Below n w w2) (h3 : Below 0 w w3) (hs : n ≤ w2.heap.size) (hg : w2.grownBy w3 row) (hr : ∀ k, row = some k → n ≤ k) : Below n w w3 :=
  ⟨h3.os, h3.tape, h3.output, h3.size, fun k hk => (hg.block k (by omega) (fun e => by have := hr k e.symm; omega)).trans (h.block k hk)⟩
set_option maxHeartbeats 8000000 in
set_option maxRecDepth 100000 in
theorem path_calls (P C N H a6 a7 a8 a9 : Int) (L0 : List Int) (LA : Option Addr) (lc : Nat) (page : Int) (A : Option Addr) (c : Nat) (all : List (List Int)) (w : World)
    (hp : Plan P C L0 H) (hLv : Kd.C (Kd.int .i64) w LA L0.length L0) (hlc : L0.length ≤ lc) (hC : BB.C w A all.length all) (hfull : ∀ b ∈ all, b.length = 256) (hal : P + all.length = H) (h0 : 0 ≤ page) (h1 : page < P) (hpm : page ≤ 9223372036854775807) :
    Calls Tryd.prog 16 #[.agg (planCells P 4 C (.slice LA L0.length lc) N H a6 a7 a8 a9), .int .i64 page, .slice A all.length c] w fun e w' => ∃ RA rc gs, e = .returned (.slice RA (gs : List (Nat × Nat)).length rc) ∧ GRows w' (.slice RA gs.length rc) gs (pathOf all P (up (P :: C :: L0) 0 16 page)) ∧ (∀ k, ghas (.slice RA gs.length rc) gs k → w.heap.size ≤ k) ∧ Below w.heap.size w w' := by
  have HLV := Aside0.mk hLv
  have HLC := Aside0.mk hlc
  have HC := Aside0.mk hC
  have HFU := Aside0.mk hfull
  have HAL := Aside0.mk hal
  have HP0 : Aside0 (1 ≤ P ∧ P ≤ 4096) := ⟨hp.chain.bound _ List.mem_cons_self⟩
  have HPP : Aside0 (thimbleref16_Path.f 40 P 4 C L0 N H a6 a7 a8 a9 page = some (up (P :: C :: L0) 0 16 page, 0)) := ⟨by rw [ref_path_f P 4 C N a6 a7 a8 a9 L0 H hp 40 (by decide) page hpm, if_neg (by omega)]⟩
  have HUI := Aside0.mk (up_in hp page h0 h1)
  have HUL : Aside0 ((up (P :: C :: L0) 0 16 page).length ≤ 100) := ⟨by rw [up_len]; have := hp.len; simp; omega⟩
  clear hLv hlc hC hfull hal h0 h1 hpm hp
  obtain ⟨bl, hbl⟩ : ∃ bl, up (P :: C :: L0) 0 16 page = bl := ⟨_, rfl⟩
  rw [hbl] at HPP HUI HUL ⊢
  clear hbl
  go_enter Tryd.func16, Tryd.ntmps16
  go_wp2_with (refine wpList_load_row rfl 25 (.tmp 3) rfl w.heap.size rfl 25 (planCells P 4 C (.slice LA L0.length lc) N H a6 a7 a8 a9) _ _ (blk_new w _) Tryd.underlying25 rfl Tryd.infoPlan ?_)
  change Calls _ _ _ (w.alloc (.cells (planCells P 4 C (.slice LA L0.length lc) N H a6 a7 a8 a9) 25 (0, 0))) _
  have GP := Aside0.mk (blk_new w (.cells (planCells P 4 C (.slice LA L0.length lc) N H a6 a7 a8 a9) 25 (0, 0)))
  have BEL := Aside0.mk (below_alloc (Below.refl w.heap.size w) (.cells (planCells P 4 C (.slice LA L0.length lc) N H a6 a7 a8 a9) 25 (0, 0)))
  obtain ⟨gb, hgb⟩ : ∃ g, w.heap.size = g := ⟨_, rfl⟩
  rw [hgb] at GP ⊢
  generalize w.alloc _ = wa at GP BEL ⊢
  refine (thimbleref16_Path.calls 40 P 4 C LA lc L0 N H a6 a7 a8 a9 page bl 0 wa (Kd.C_below HLV.out BEL.out) HLC.out HPP.out).mono ?_
  rintro e w1 ⟨v0, rfl, hR, hb1⟩
  obtain ⟨RB, rb, er⟩ := Kd.R_slice hR
  subst er
  obtain ⟨-, hrb, hRC⟩ := Kd.R_reads' hR
  have HRB := Aside0.mk hRC
  have HRL := Aside0.mk hrb
  replace GP := Aside0.mk (blk_below GP.out hb1)
  replace BEL := Aside0.mk (BEL.out.trans (hb1.mono BEL.out.size))
  replace HC := Aside0.mk (Kd.C_below HC.out BEL.out)
  have HGS : Aside0 (gb < w1.heap.size) := ⟨blk_lt GP.out⟩
  clear hR hb1 HPP hRC hrb HLV HLC
  go_wp2_with fail
  go_loopw [9, 10] (fun o i wr => ∃ (t : Int) (RA : Option Addr) (rc : Nat) (gs : List (Nat × Nat)), o = .slice RA gs.length rc ∧ i = .int .i64 t ∧ 0 ≤ t ∧ t ≤ bl.length ∧ Aside0 (GRows wr (.slice RA gs.length rc) gs ((pathOf all P bl).take t.toNat)) ∧ Aside0 (∀ k, ghas (.slice RA gs.length rc) gs k → w1.heap.size ≤ k) ∧ Aside0 (Below w1.heap.size w1 wr)) (fun _ i _ => bl.length - (intOf i).toNat)
  case atStart => exact ⟨0, none, 0, [], rfl, rfl, by omega, by omega, ⟨GRows.nil _⟩, ⟨fun k hk => by simp [ghas, Value.ownBlock] at hk⟩, ⟨Below.refl _ _⟩⟩
  case round =>
    obtain ⟨t, RA, rc, gs, rfl, rfl, t0, tn, GR, GN, B1⟩ := hrel
    by_cases ht : t < bl.length
    · obtain ⟨adb, eb, hbq⟩ := Kd.at_int HRB.out t (by omega) (by omega)
      subst eb
      have hw : IntKind.i64.wrap (t + 1) = t + 1 := IntWalk.i64_in _ (by have := HUL.out; omega)
      have hbm : rd bl t ∈ bl := by
        unfold rd
        rw [List.getD_eq_getElem?_getD, List.getElem?_eq_getElem (by omega)]
        exact List.getElem_mem (by omega)
      have hbr := HUI.out _ hbm
      have hpl : (pathOf all P bl).length = bl.length := by unfold pathOf; rw [List.length_map]
      have hrd : rd bl t = bl[t.toNat]'(by omega) := by
        unfold rd
        rw [List.getD_eq_getElem?_getD, List.getElem?_eq_getElem (by omega)]
        rfl
      have HTK : Aside0 ((pathOf all P bl).take t.toNat ++ [all.getD (rd bl t - P).toNat []] = (pathOf all P bl).take (t + 1).toNat) := ⟨by
        rw [show (t + 1).toNat = t.toNat + 1 by omega, List.take_add_one, List.getElem?_eq_getElem (by omega), hrd]
        unfold pathOf
        rw [List.getElem_map]
        rfl⟩
      clear hrd
      obtain ⟨bt, hbt⟩ : ∃ b, rd bl t = b := ⟨_, rfl⟩
      rw [hbt] at hbq hbr HTK
      have hix : bt - P < all.length := by have := HAL.out; omega
      have hi0 : 0 ≤ bt - P := by omega
      obtain ⟨ad, A1, c1, rfl, hc1, hC1, hcell1⟩ := BB_at HC.out (bt - P).toNat (by omega)
      have HX : Aside0 ((all.getD (bt - P).toNat []).length = 256) := ⟨by
        rw [List.getD_eq_getElem?_getD, List.getElem?_eq_getElem (by omega)]
        exact HFU.out _ (List.getElem_mem (by omega))⟩
      have hws : IntKind.i64.wrap (bt - P) = bt - P := IntWalk.i64_in _ (by have := HP0.out; have := Kd.C_max HC.out; omega)
      have HGL : Aside0 (gs.length ≤ 5000) := ⟨by have h := GR.out.len; rw [List.length_take, hpl] at h; have := HUL.out; omega⟩
      have HBQ := Aside0.mk hbq
      have HCL := Aside0.mk hcell1
      have HC1 := Aside0.mk hC1
      obtain ⟨x, hx⟩ : ∃ x, all.getD (bt - P).toNat [] = x := ⟨_, rfl⟩
      rw [hx] at HCL HC1 HX HTK
      rw [HX.out] at HCL
      clear hx hbq hbm hbt hpl hC1 hcell1 hc1
      go_wp2_with fail
      refine start_ (n := 15) (S := fun w' => Below w1.heap.size w1 w') (ds := []) #[false, false, false, false, false, false, false, false, false, false, false, false, false, false, false] (by kernel_rfl) rfl rfl (below_drew1 B1.out) (fun hHeld => ?_)
      have HH := Aside0.mk hHeld
      clear hHeld
      replace GR := Aside0.mk (GR.out.below (below_drew1 (Below.refl wr.heap.size wr)))
      clear B1
      generalize wr.drew = w2 at HH GR ⊢
      refine pure_ (i := 0) (N := some 23) (v := ?_) (a' := ?_) #[true, false, false, false, false, false, false, false, false, false, false, false, false, false, false] rfl rfl (by kernel_rfl) (fun _ _ _ h => h) (Or.inl ⟨by rfl, ?_⟩) ?_ ?_
      rotate_left
      · intro w'
        go_simp
        with_reducible rfl
      rotate_left
      · simp only [Act.put, List.setIfInBounds_toArray, List.set_cons_zero, List.set_cons_succ, i64_w, i32_w]
        rfl
      refine pure_ (i := 1) (N := some 24) (v := ?_) (a' := ?_) #[true, true, false, false, false, false, false, false, false, false, false, false, false, false, false] rfl rfl (by kernel_rfl) (fun _ _ _ h => h) (Or.inl ⟨by rfl, ?_⟩) ?_ ?_
      rotate_left
      · intro w'
        go_simp
        with_reducible rfl
      rotate_left
      · simp only [Act.put, List.setIfInBounds_toArray, List.set_cons_zero, List.set_cons_succ, i64_w, i32_w]
        rfl
      refine pure_ (i := 2) (N := some 25) (v := ?_) (a' := ?_) #[true, true, true, false, false, false, false, false, false, false, false, false, false, false, false] rfl rfl (by kernel_rfl) (fun _ _ _ h => h) (Or.inl ⟨by rfl, ?_⟩) ?_ ?_
      rotate_left
      · intro w'
        go_simp
        with_reducible rfl
      rotate_left
      · simp only [Act.put, List.setIfInBounds_toArray, List.set_cons_zero, List.set_cons_succ, i64_w, i32_w]
        rfl
      refine pure_ (i := 3) (N := some 26) (v := ?_) (a' := ?_) #[true, true, true, true, false, false, false, false, false, false, false, false, false, false, false] rfl rfl (by kernel_rfl) (fun _ _ _ h => h) (Or.inl ⟨by rfl, ?_⟩) ?_ ?_
      rotate_left
      · intro w'
        go_simp
        with_reducible rfl
      rotate_left
      · simp only [Act.put, List.setIfInBounds_toArray, List.set_cons_zero, List.set_cons_succ, i64_w, i32_w]
        rfl
      refine pure_ (i := 4) (N := some 27) (v := ?_) (a' := ?_) #[true, true, true, true, true, false, false, false, false, false, false, false, false, false, false] rfl rfl (by kernel_rfl) (fun _ _ _ h => h) (Or.inl ⟨by rfl, ?_⟩) ?_ ?_
      rotate_left
      · intro w'
        go_simp
        with_reducible rfl
      rotate_left
      · simp only [Act.put, List.setIfInBounds_toArray, List.set_cons_zero, List.set_cons_succ, i64_w, i32_w]
        rfl
      refine take_ (i := 5) (N := some 28) (v := ?_) (a' := ?_) #[true, true, true, true, true, true, false, false, false, false, false, false, false, false, false] rfl rfl (by kernel_rfl) (fun _ _ _ h => h) (Or.inl ⟨by rfl, ?_⟩) HH.out ?_ ?_
      rotate_left
      · rintro w' s0
        have z0 : w'.cell? (adb.add t.toNat) = some (.int .i64 bt) := cell_same HBQ.out (s0.block _ (cell_lt HBQ.out))
        clear s0
        go_simp
        with_reducible rfl
      rotate_left
      · simp only [Act.put, List.setIfInBounds_toArray, List.set_cons_zero, List.set_cons_succ, i64_w, i32_w]
        rfl
      refine pure_ (i := 6) (N := some 29) (v := ?_) (a' := ?_) #[true, true, true, true, true, true, true, false, false, false, false, false, false, false, false] rfl rfl (by kernel_rfl) (fun _ _ _ h => h) (Or.inl ⟨by rfl, ?_⟩) ?_ ?_
      rotate_left
      · intro w'
        go_simp
        with_reducible rfl
      rotate_left
      · simp only [Act.put, List.setIfInBounds_toArray, List.set_cons_zero, List.set_cons_succ, i64_w, i32_w]
        rfl
      refine take_ (i := 7) (N := some 30) (v := ?_) (a' := ?_) #[true, true, true, true, true, true, true, true, false, false, false, false, false, false, false] rfl rfl (by kernel_rfl) (fun _ _ _ h => h) (Or.inl ⟨by rfl, ?_⟩) HH.out ?_ ?_
      rotate_left
      · rintro w' s0
        have z0 : w'.cell? ⟨gb, 0, none⟩ = some (.int .i64 P) := (blk_cell (blk_below GP.out s0) 0).trans rfl
        clear s0
        go_simp
        with_reducible rfl
      rotate_left
      · simp only [Act.put, List.setIfInBounds_toArray, List.set_cons_zero, List.set_cons_succ, i64_w, i32_w]
        rfl
      refine pure_ (i := 8) (N := some 31) (v := ?_) (a' := ?_) #[true, true, true, true, true, true, true, true, true, false, false, false, false, false, false] rfl rfl (by kernel_rfl) (fun _ _ _ h => h) (Or.inl ⟨by rfl, ?_⟩) ?_ ?_
      rotate_left
      · intro w'
        go_simp
        with_reducible rfl
      rotate_left
      · simp only [Act.put, List.setIfInBounds_toArray, List.set_cons_zero, List.set_cons_succ, i64_w, i32_w]
        rfl
      refine pure_ (i := 9) (N := some 32) (v := ?_) (a' := ?_) #[true, true, true, true, true, true, true, true, true, true, false, false, false, false, false] rfl rfl (by kernel_rfl) (fun _ _ _ h => h) (Or.inl ⟨by rfl, ?_⟩) ?_ ?_
      rotate_left
      · intro w'
        go_simp
        with_reducible rfl
      rotate_left
      · simp only [Act.put, List.setIfInBounds_toArray, List.set_cons_zero, List.set_cons_succ, i64_w, i32_w]
        rfl
      refine take_ (i := 10) (N := some 33) (v := ?_) (a' := ?_) #[true, true, true, true, true, true, true, true, true, true, true, false, false, false, false] rfl rfl (by kernel_rfl) (fun _ _ _ h => h) (Or.inl ⟨by rfl, ?_⟩) HH.out ?_ ?_
      rotate_left
      · rintro w' s0
        have z0 : w'.cell? (ad.add (bt - P).toNat) = some (.slice A1 256 c1) := cell_same HCL.out (s0.block _ (cell_lt HCL.out))
        clear s0
        go_simp
        with_reducible rfl
      rotate_left
      · simp only [Act.put, List.setIfInBounds_toArray, List.set_cons_zero, List.set_cons_succ, i64_w, i32_w]
        rfl
      refine one_ (i := 11) (N := some 34) #[true, true, true, true, true, true, true, true, true, true, true, true, false, false, false] rfl rfl (by kernel_rfl) (by decide) (fun K hK => ?_)
      refine goes_ Tryd.func21 (by kernel_rfl) rfl #[.slice A1 256 c1] (by rfl) rfl rfl (by simp only [List.map_toArray, List.map_cons, List.map_nil]; rfl) ?_
      have hcc := copy_calls A1 c1 x w2 (Kd.C_below HC1.out HH.out) (by rw [HX.out]; decide)
      rw [HX.out] at hcc
      refine hcc.mono ?_
      clear hcc
      rintro e w3 ⟨v, rfl, hR, hb⟩
      obtain ⟨g, hv, hG, hg⟩ := GB_of_R hR HX.out
      have hv' : v = .slice (some ⟨g.1, 0, none⟩) 256 g.2 := hv
      subst hv'
      clear hv
      refine ⟨_, rfl, ?_⟩
      have hb' := HH.out.trans (hb.mono HH.out.size)
      refine hK.out _ _ hb' (fun hHeld => ?_)
      clear hK K
      refine norm_ (a' := ?_) ?_ ?_
      rotate_left
      · show Act.put _ (some 34) _ = _
        simp only [Act.put, List.setIfInBounds_toArray, List.set_cons_zero, List.set_cons_succ, i64_w, i32_w]
        rfl
      have HG3 := Aside0.mk hG
      have HGN : Aside0 (∀ c, (g.1, c) ∉ gs) := ⟨fun c hc => by have := GR.out.lt (.inr ⟨c, hc⟩); omega⟩
      have HGW : Aside0 (w1.heap.size ≤ g.1) := ⟨Nat.le_trans HH.out.size hg⟩
      replace GR := Aside0.mk (GR.out.below hb)
      replace HH := Aside0.mk hHeld
      clear hR hG hg hb hb' hHeld HC1 HCL HBQ
      refine one_ (i := 12) (N := some 35) #[true, true, true, true, true, true, true, true, true, true, true, true, true, false, false] rfl rfl (by kernel_rfl) (by decide) (fun K hK => ?_)
      refine value_ (w1 := w3.alloc (.cells #[.slice (some ⟨g.1, 0, none⟩) 256 g.2] 22 (0, 0))) (v := .slice (some ⟨w3.heap.size, 0, none⟩) 1 1) (by rfl) rfl (by first | (go_simp; done) | (go_simp; rfl)) ?_
      have hb9 := below_alloc HH.out (.cells #[.slice (some ⟨g.1, 0, none⟩) 256 g.2] 22 (0, 0))
      refine hK.out _ _ hb9 (fun hHeld => ?_)
      clear hK K
      refine norm_ (a' := ?_) ?_ ?_
      rotate_left
      · show Act.put _ (some 35) _ = _
        simp only [Act.put, List.setIfInBounds_toArray, List.set_cons_zero, List.set_cons_succ, i64_w, i32_w]
        rfl
      clear hHeld hb9
      refine one_ (i := 13) (N := some 36) #[true, true, true, true, true, true, true, true, true, true, true, true, true, true, false] rfl rfl (by kernel_rfl) (by decide) (fun K hK => ?_)
      refine Kd.R_append_step GK (w0 := w1) (W := w3) 0 (by rfl) (.tmp 23) (.tmp 35) 26 22 (.slice none 0 0) 24 rfl Tryd.underlying26 Tryd.infoHB rfl (by decide) (by decide) _ gs g [ghd g] (fun _ => True) (fun _ => False) rfl rfl rfl (fun _ h => h.elim) (fun _ _ => trivial) GR.out.row (HH.out.mono (Nat.zero_le _)) (Nat.zero_le _) (by have := HGL.out; omega) ?_
      intro v3 w4 ho3 hb3 hg3 hat3
      have hb' := below_grown2 HH.out hb3 HH.out.size hg3 (fun k hk => GN.out k (.inl hk))
      refine hK.out _ _ hb' (fun hHeld => ?_)
      clear hK K
      refine norm_ (a' := ?_) ?_ ?_
      rotate_left
      · show Act.put _ (some 36) _ = _
        simp only [Act.put, List.setIfInBounds_toArray, List.set_cons_zero, List.set_cons_succ, i64_w, i32_w]
        rfl
      clear hHeld
      refine pure_ (i := 14) (N := some 9) (v := ?_) (a' := ?_) #[true, true, true, true, true, true, true, true, true, true, true, true, true, true, true] rfl rfl (by kernel_rfl) (fun _ _ _ h => h) (Or.inl ⟨by rfl, ?_⟩) ?_ ?_
      rotate_left
      · intro w'
        go_simp
        with_reducible rfl
      rotate_left
      · simp only [Act.put, List.setIfInBounds_toArray, List.set_cons_zero, List.set_cons_succ, i64_w, i32_w]
        rfl
      refine done_ (by kernel_rfl) ?_
      obtain ⟨RB2, rb2, e3⟩ := Kd.R_slice ho3
      subst e3
      have GR4 := Aside0.mk (GR.out.snoc ho3 hg3 HG3.out HGN.out)
      have GN4 := Aside0.mk (own_new2 GN.out hat3 HH.out.size HGW.out)
      have B4 := Aside0.mk hb'
      clear ho3 hb3 hg3 hat3 hb' GR GN HH HG3 HGN HGW
      go_wp2_with fail
      exact ⟨⟨t + 1, RB2, rb2, gs ++ [g], rfl, rfl, by omega, by omega, ⟨by rw [← HTK.out]; exact GR4.out⟩, GN4, B4⟩, by simp [intOf]; omega⟩
    · obtain rfl : t = bl.length := by omega
      clear ht tn t0
      rw [show ((bl.length : Int)).toNat = (pathOf all P bl).length by unfold pathOf; rw [List.length_map]; rfl, List.take_length] at GR
      go_wp2_with fail
      go_ret
      exact ⟨_, _, _, rfl, GR.out, fun k hk => Nat.le_trans (by have := BEL.out.size; omega) (GN.out k hk), hgb ▸ BEL.out.trans (B1.out.mono BEL.out.size)⟩
end Go.Proofs.YtgmdgkanfhoahaaDoor.PathW
