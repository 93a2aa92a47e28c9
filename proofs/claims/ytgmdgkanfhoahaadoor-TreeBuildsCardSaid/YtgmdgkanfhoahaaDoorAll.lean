/- ref18.Root, ref18.All. -/
import Derived.Test.YtgmdgkanfhoahaaDoorSmall
import Derived.Test.YtgmdgkanfhoahaaDoorEvs
namespace Go.Proofs.YtgmdgkanfhoahaaDoor.All
open Go.RowKit Go.Proofs.YtgmdgkanfhoahaaDoor.ShaPure Go.Proofs.YtgmdgkanfhoahaaDoor.ShaBlk Go.Proofs.YtgmdgkanfhoahaaDoor.ShaWrite Go.Proofs.YtgmdgkanfhoahaaDoor.ShaSum Go.Proofs.YtgmdgkanfhoahaaDoor.ShaEnd Go.Proofs.YtgmdgkanfhoahaaDoor.ShaOf Go.Proofs.YtgmdgkanfhoahaaDoor.BytesW Go.Proofs.YtgmdgkanfhoahaaDoor.RefPad Go.Proofs.YtgmdgkanfhoahaaDoor.Put Go.Proofs.YtgmdgkanfhoahaaDoor.LogW Go.Proofs.YtgmdgkanfhoahaaDoor.Dig Go.Proofs.YtgmdgkanfhoahaaDoor.Hdr Go.Proofs.YtgmdgkanfhoahaaDoor.Above Go.Proofs.YtgmdgkanfhoahaaDoor.Build Go.Proofs.YtgmdgkanfhoahaaDoor.BuildW Go.Proofs.YtgmdgkanfhoahaaDoor.Kid Go.Proofs.YtgmdgkanfhoahaaDoor.AwakeA Go.Proofs.YtgmdgkanfhoahaaDoor.Awake Go.Proofs.YtgmdgkanfhoahaaDoor.GRow Go.Proofs.YtgmdgkanfhoahaaDoor.Small Go.Proofs.YtgmdgkanfhoahaaDoor.PlanP Go.Proofs.YtgmdgkanfhoahaaDoor.CheckT Go.Proofs.YtgmdgkanfhoahaaDoor.PTreePaths Go.Proofs.YtgmdgkanfhoahaaDoorW.PrintWords Go.Proofs.YtgmdgkanfhoahaaDoorW.PrintLast Go.Proofs.YtgmdgkanfhoahaaDoorW.PrintMore
set_option linter.unusedVariables false
set_option linter.unusedSimpArgs false

set_option maxHeartbeats 4000000 in
set_option maxRecDepth 100000 in
theorem root_calls (p0 p1 p2 p4 H p6 p7 p8 p9 : Int) (lv : Value) (A : Option Addr) (c : Nat) (all : List (List Int)) (w : World) (hC : BB.C w A all.length all) (hn : 0 < all.length) (hby : ∀ b ∈ all, Bytes b) (hl : ∀ b ∈ all, b.length = 256) (hH0 : 1 ≤ H) (hH1 : H ≤ 1000000) (hal : all.length ≤ 1000000) :
    Calls Tryd.prog 11 #[.agg (planCells p0 p1 p2 lv p4 H p6 p7 p8 p9), .slice A all.length c] w fun e w' => e = .returned (.agg (nums .u8 (dig (H - 1) (all.getD (all.length - 1) []))).toArray) ∧ Below w.heap.size w w' := by
  obtain ⟨ad, A1, c1, rfl, hc1, hC1, hcell1⟩ := BB_at hC (all.length - 1) (by omega)
  have hmem : all.getD (all.length - 1) [] ∈ all := by
    rw [List.getD_eq_getElem?_getD, List.getElem?_eq_getElem (by omega)]
    exact List.getElem_mem (by omega)
  have HXB := Aside0.mk (hby _ hmem)
  have hx := hl _ hmem
  obtain ⟨x, hxe⟩ : ∃ x, all.getD (all.length - 1) [] = x := ⟨_, rfl⟩
  rw [hxe] at HXB hx hc1 hC1 hcell1 ⊢
  have HXL := Aside0.mk hx
  rw [hx] at hcell1 hc1
  have K1 := Aside0.mk hC1
  have HC1 := Aside0.mk hc1
  have HCL := Aside0.mk hcell1
  clear hmem hxe hx hC1 hc1 hC hby hl hcell1
  go_enter Tryd.func11, Tryd.ntmps11
  go_wp2_with fail
  have GB := Aside0.mk (blk_alloc (blk_new w (.cells (planCells p0 p1 p2 lv p4 H p6 p7 p8 p9) 25 (0, 0))) (.cells (nums .u8 (List.replicate 32 0)).toArray 29 (0, 0)))
  have GR := Aside0.mk (blk_new (w.alloc (.cells (planCells p0 p1 p2 lv p4 H p6 p7 p8 p9) 25 (0, 0))) (.cells (nums .u8 (List.replicate 32 0)).toArray 29 (0, 0)))
  rw [show (w.alloc (.cells (planCells p0 p1 p2 lv p4 H p6 p7 p8 p9) 25 (0, 0))).heap.size = w.heap.size + 1 from Array.size_push ..] at GR
  have BEL := Aside0.mk (below_alloc (below_alloc (Below.refl w.heap.size w) (.cells (planCells p0 p1 p2 lv p4 H p6 p7 p8 p9) 25 (0, 0))) (.cells (nums .u8 (List.replicate 32 0)).toArray 29 (0, 0)))
  change Code.wp _ _ _ _ ((w.alloc (.cells (planCells p0 p1 p2 lv p4 H p6 p7 p8 p9) 25 (0, 0))).alloc (.cells (nums .u8 (List.replicate 32 0)).toArray 29 (0, 0)))
  generalize World.alloc (World.alloc w _) _ = wa at GB GR BEL ⊢
  obtain ⟨gr, hgr⟩ : ∃ gr, w.heap.size + 1 = gr := ⟨_, rfl⟩
  obtain ⟨gb, hgb⟩ : ∃ gb, w.heap.size = gb := ⟨_, rfl⟩
  rw [hgr] at GR ⊢
  rw [hgb] at GB ⊢
  have HGR : Aside0 (w.heap.size ≤ gr) := ⟨by omega⟩
  clear hgr hgb
  have hcell1 : wa.cell? (ad.add (all.length - 1)) = some (.slice A1 256 c1) := cell_same HCL.out (BEL.out.block _ (cell_lt HCL.out))
  have hw1 : IntKind.i64.wrap (H - 1) = H - 1 := IntWalk.i64_in _ (by omega)
  have hw2 : IntKind.i64.wrap ((all.length : Int) - 1) = (all.length : Int) - 1 := IntWalk.i64_in _ (by omega)
  have q0 : 0 ≤ (all.length : Int) - 1 := by omega
  have q1 : (all.length : Int) - 1 < all.length := by omega
  have q2 : 1 ≤ (all.length : Int) := by omega
  refine start_ (n := 11) (S := fun w' => Below wa.heap.size wa w') (ds := [10]) #[false, false, false, false, false, false, false, false, false, false, false] (by kernel_rfl) rfl rfl (below_drew1 (Below.refl _ _)) (fun hHeld => ?_)
  have HH := Aside0.mk hHeld
  clear hHeld
  generalize wa.drew = w2 at HH ⊢
  refine pure_ (i := 0) (N := some 5) (v := ?_) (a' := ?_) #[true, false, false, false, false, false, false, false, false, false, false] rfl rfl (by kernel_rfl) (fun _ _ _ h => h) (Or.inl ⟨by rfl, ?_⟩) ?_ ?_
  rotate_left
  · intro w'
    go_simp
    with_reducible rfl
  rotate_left
  · simp only [Act.put, List.setIfInBounds_toArray, List.set_cons_zero, List.set_cons_succ, i64_w, i32_w]
    rfl
  refine take_ (i := 1) (N := some 6) (v := ?_) (a' := ?_) #[true, true, false, false, false, false, false, false, false, false, false] rfl rfl (by kernel_rfl) (fun _ _ _ h => h) (Or.inl ⟨by rfl, ?_⟩) HH.out ?_ ?_
  rotate_left
  · rintro w' s0
    have z0 : w'.cell? ⟨gb, 5, none⟩ = some (.int .i64 H) := (blk_cell (blk_below GB.out s0) 5).trans rfl
    clear s0
    go_simp
    with_reducible rfl
  rotate_left
  · simp only [Act.put, List.setIfInBounds_toArray, List.set_cons_zero, List.set_cons_succ, i64_w, i32_w]
    rfl
  refine pure_ (i := 2) (N := some 7) (v := ?_) (a' := ?_) #[true, true, true, false, false, false, false, false, false, false, false] rfl rfl (by kernel_rfl) (fun _ _ _ h => h) (Or.inl ⟨by rfl, ?_⟩) ?_ ?_
  rotate_left
  · intro w'
    go_simp
    with_reducible rfl
  rotate_left
  · simp only [Act.put, List.setIfInBounds_toArray, List.set_cons_zero, List.set_cons_succ, i64_w, i32_w]
    rfl
  refine pure_ (i := 3) (N := some 8) (v := ?_) (a' := ?_) #[true, true, true, true, false, false, false, false, false, false, false] rfl rfl (by kernel_rfl) (fun _ _ _ h => h) (Or.inl ⟨by rfl, ?_⟩) ?_ ?_
  rotate_left
  · intro w'
    go_simp
    with_reducible rfl
  rotate_left
  · simp only [Act.put, List.setIfInBounds_toArray, List.set_cons_zero, List.set_cons_succ, i64_w, i32_w]
    rfl
  refine pure_ (i := 4) (N := some 9) (v := ?_) (a' := ?_) #[true, true, true, true, true, false, false, false, false, false, false] rfl rfl (by kernel_rfl) (fun _ _ _ h => h) (Or.inl ⟨by rfl, ?_⟩) ?_ ?_
  rotate_left
  · intro w'
    go_simp
    with_reducible rfl
  rotate_left
  · simp only [Act.put, List.setIfInBounds_toArray, List.set_cons_zero, List.set_cons_succ, i64_w, i32_w]
    rfl
  refine pure_ (i := 5) (N := some 10) (v := ?_) (a' := ?_) #[true, true, true, true, true, true, false, false, false, false, false] rfl rfl (by kernel_rfl) (fun _ _ _ h => h) (Or.inl ⟨by rfl, ?_⟩) ?_ ?_
  rotate_left
  · intro w'
    go_simp
    with_reducible rfl
  rotate_left
  · simp only [Act.put, List.setIfInBounds_toArray, List.set_cons_zero, List.set_cons_succ, i64_w, i32_w]
    rfl
  refine pure_ (i := 6) (N := some 11) (v := ?_) (a' := ?_) #[true, true, true, true, true, true, true, false, false, false, false] rfl rfl (by kernel_rfl) (fun _ _ _ h => h) (Or.inl ⟨by rfl, ?_⟩) ?_ ?_
  rotate_left
  · intro w'
    go_simp
    with_reducible rfl
  rotate_left
  · simp only [Act.put, List.setIfInBounds_toArray, List.set_cons_zero, List.set_cons_succ, i64_w, i32_w]
    rfl
  refine pure_ (i := 7) (N := some 12) (v := ?_) (a' := ?_) #[true, true, true, true, true, true, true, true, false, false, false] rfl rfl (by kernel_rfl) (fun _ _ _ h => h) (Or.inl ⟨by rfl, ?_⟩) ?_ ?_
  rotate_left
  · intro w'
    go_simp
    with_reducible rfl
  rotate_left
  · simp only [Act.put, List.setIfInBounds_toArray, List.set_cons_zero, List.set_cons_succ, i64_w, i32_w]
    rfl
  refine take_ (i := 8) (N := some 13) (v := ?_) (a' := ?_) #[true, true, true, true, true, true, true, true, true, false, false] rfl rfl (by kernel_rfl) (fun _ _ _ h => h) (Or.inl ⟨by rfl, ?_⟩) HH.out ?_ ?_
  rotate_left
  · rintro w' s0
    have z0 : w'.cell? (ad.add (all.length - 1)) = some (.slice A1 256 c1) := cell_same hcell1 (s0.block _ (cell_lt hcell1))
    clear s0
    go_simp
    with_reducible rfl
  rotate_left
  · simp only [Act.put, List.setIfInBounds_toArray, List.set_cons_zero, List.set_cons_succ, i64_w, i32_w]
    rfl
  refine one_ (i := 9) (N := some 14) #[true, true, true, true, true, true, true, true, true, true, false] rfl rfl (by kernel_rfl) (by decide) (fun K hK => ?_)
  refine goes_ Tryd.func23 (by kernel_rfl) rfl #[.int .i64 (H - 1), .slice A1 256 c1] (by rfl) rfl rfl (by simp only [List.map_toArray, List.map_cons, List.map_nil]; rfl) ?_
  have hdg := refdigest_calls (H - 1) A1 c1 x w2 (by rw [HXL.out]; have h := K1.out; rw [HXL.out] at h; exact Kd.C_below h (BEL.out.trans (HH.out.mono BEL.out.size))) (by rw [HXL.out]; exact HC1.out) HXB.out (by rw [HXL.out]; decide)
  rw [HXL.out] at hdg
  refine hdg.mono ?_
  clear hdg
  rintro e w3 ⟨rfl, hb⟩
  refine ⟨_, rfl, ?_⟩
  have hb' := HH.out.trans (hb.mono HH.out.size)
  refine hK.out _ _ hb' (fun hHeld => ?_)
  clear hK K
  refine norm_ (a' := ?_) ?_ ?_
  rotate_left
  · show Act.put _ (some 14) _ = _
    simp only [Act.put, List.setIfInBounds_toArray, List.set_cons_zero, List.set_cons_succ, i64_w, i32_w]
    rfl
  replace HH := Aside0.mk hHeld
  clear hHeld hb hb'
  have HDL := Aside0.mk (dig_length (H - 1) x)
  obtain ⟨DD, hDD⟩ : ∃ D, dig (H - 1) x = D := ⟨_, rfl⟩
  rw [hDD] at HDL ⊢
  have HDE := Aside0.mk hDD
  clear hDD
  have HI : Aside0 ((Tryd.prog.info? 29).map (·.size) = some (nums .u8 DD).toArray.size) := ⟨by rw [Tryd.infoD, List.size_toArray, nums, List.length_map, HDL.out]⟩
  have HO : Aside0 ((nums .u8 DD).toArray.all (·.oneCell') = true) := ⟨by simp [nums, Value.oneCell']⟩
  have HZ : Aside0 ((nums .u8 (List.replicate 32 0)).toArray.size = (nums .u8 DD).toArray.size) := ⟨by rw [List.size_toArray, List.size_toArray, nums, nums, List.length_map, List.length_map, HDL.out, List.length_replicate]⟩
  refine last_ (i := 10) (N := none) #[true, true, true, true, true, true, true, true, true, true, true] rfl rfl (by kernel_rfl) (by decide) (fun K hK => ?_)
  have hgr := blk_below GR.out HH.out
  refine skip_ (w1 := w3.setRow gr (nums .u8 DD).toArray) (by rfl) rfl (by refine ev_store_row 29 (.tmp 4) (.tmp 14) ?_ gr (nums .u8 DD).toArray ?_ ?_ 29 (nums .u8 (List.replicate 32 0)).toArray hgr HI.out HZ.out HO.out <;> rfl) ?_
  refine hK.out _ _ ?_
  clear hK K
  refine done_ (by kernel_rfl) ?_
  have hg7 := Aside0.mk (setRow_heap w3 gr _ (nums .u8 DD).toArray _ _ hgr)
  have B7 : Aside0 (Below w.heap.size w (w3.setRow gr (nums .u8 DD).toArray)) := ⟨(BEL.out.trans (HH.out.mono BEL.out.size)).trans ⟨rfl, rfl, rfl, by rw [setRow_size]; exact Nat.le_refl _, fun k hk => setRow_other _ _ _ _ (by have := HGR.out; omega)⟩⟩
  clear hgr HH
  generalize w3.setRow gr (nums .u8 DD).toArray = w7 at hg7 B7 ⊢
  go_wp2
  refine bodyPost_ret (results_cell_row (p := 4) (ty := 29) rfl _ _ gr 29 (nums .u8 DD).toArray _ _ rfl hg7.out Tryd.underlying29 rfl HI.out) rfl ?_
  exact ⟨by rw [HDE.out], B7.out⟩
/-! ### All -/
/-- One step: a block's digest is laid into the block above it. -/
def allStep (xs : List Int) (H P : Int) (st : List (List Int)) (i : Nat) : List (List Int) :=
  if (find (H - 1) xs 0 16 (P + i)).2.2 = 0 then st.set ((find (H - 1) xs 0 16 (P + i)).1 - P).toNat (splice (st.getD ((find (H - 1) xs 0 16 (P + i)).1 - P).toNat []) (32 * (find (H - 1) xs 0 16 (P + i)).2.1.toNat) (dig (P + i) (st.getD i []))) else st
def allN (xs : List Int) (H P : Int) (st : List (List Int)) : Nat → List (List Int)
  | 0 => st
  | i + 1 => allStep xs H P (allN xs H P st i) i
theorem allN_length (xs : List Int) (H P : Int) (st : List (List Int)) : ∀ i, (allN xs H P st i).length = st.length
  | 0 => rfl
  | i + 1 => by
    unfold allN allStep
    split
    · rw [List.length_set, allN_length]
    · exact allN_length xs H P st i
theorem allStep_full {xs : List Int} {H P : Int} {st : List (List Int)} {i : Nat} (h : ∀ x ∈ st, x.length = 256) (h0 : 0 ≤ (find (H - 1) xs 0 16 (P + i)).2.1) (h8 : (find (H - 1) xs 0 16 (P + i)).2.1 < 8) (hb : ((find (H - 1) xs 0 16 (P + i)).1 - P).toNat < st.length) : ∀ x ∈ allStep xs H P st i, x.length = 256 := by
  intro x hx
  unfold allStep at hx
  split at hx
  · rcases List.mem_or_eq_of_mem_set hx with h1 | h1
    · exact h x h1
    · rw [h1]
      refine splice_length ?_ (dig_length _ _) (by omega)
      rw [List.getD_eq_getElem?_getD, List.getElem?_eq_getElem hb]
      exact h _ (List.getElem_mem hb)
  · exact h x hx
theorem allN_bytes (xs : List Int) (H P : Int) {st : List (List Int)} (h : ∀ x ∈ st, Bytes x) : ∀ i, ∀ x ∈ allN xs H P st i, Bytes x
  | 0 => h
  | i + 1 => by
    intro x hx
    unfold allN allStep at hx
    split at hx
    · rcases List.mem_or_eq_of_mem_set hx with h1 | h1
      · exact allN_bytes xs H P h i x h1
      · rw [h1]
        exact splice_bytes (getD_bytes (allN_bytes xs H P h i) _) (dig_bytes _ _)
    · exact allN_bytes xs H P h i x hx
theorem find_in {P C : Int} {L : List Int} {H : Int} (hp : Plan P C L H) (i : Int) (h0 : 0 ≤ i) (h1 : P + i < H) : find (H - 1) (P :: C :: L) 0 16 (P + i) = (0, 0, 5) ∨ ∃ b a, find (H - 1) (P :: C :: L) 0 16 (P + i) = (b, a, 0) ∧ 0 ≤ a ∧ a < 8 ∧ P + i < b ∧ b < H := by
  have hbd := hp.chain.bound
  have hch := hp.chain
  have hhd := hp.head
  rcases lev_spec (P :: C :: L) 0 (P + i) (fun x hx => (hbd x hx).1) (by have := hbd P (by simp); omega) with ⟨e, hs⟩ | ⟨pre, x, post, e1, e2, hs, hx⟩
  · rw [hhd] at h1; omega
  · have hpre : pre ≠ [] := by
      intro e
      subst e
      injection e1 with e1 _
      simp at hx
      omega
    rw [e1] at hch hhd hbd
    have hf := find_at hch hhd (P + i - pre.sum) (by omega) (by omega)
    rw [← e1, show pre.sum + (P + i - pre.sum) = P + i by omega, if_neg hpre] at hf
    by_cases hpo : post = []
    · rw [if_pos hpo] at hf
      exact .inl hf
    · rw [if_neg hpo] at hf
      refine .inr ⟨_, _, hf, by omega, by omega, by omega, ?_⟩
      obtain ⟨y, r, rfl⟩ := List.exists_cons_of_ne_nil hpo
      have hm := hch.mid
      rw [if_neg hpre] at hm
      have hxy := hm.2.2.1
      have hr := sum_bound (l := r) (fun z hz => hbd z (by simp [hz]))
      rw [hhd, List.sum_append, List.sum_cons, List.sum_cons]
      omega
def spl (x : List Int) (o k : Nat) (d : List Int) : List Int := x.take o ++ d.take k ++ x.drop (o + k)
theorem spl_zero (x : List Int) (o : Nat) (d : List Int) : spl x o 0 d = x := by unfold spl; simp
theorem spl_all {x d : List Int} {o : Nat} (hd : d.length = 32) : spl x o 32 d = splice x o d := by unfold spl splice; rw [show d.take 32 = d from List.take_of_length_le (by omega)]
theorem spl_step {x d : List Int} {o k : Nat} (hx : x.length = 256) (hd : d.length = 32) (ho : o ≤ 224) (hk : k < 32) : (spl x o k d).set (o + k) (d.getD k 0) = spl x o (k + 1) d := by
  unfold spl
  have h1 : (x.take o ++ d.take k).length = o + k := by rw [List.length_append, List.length_take, List.length_take]; omega
  rw [List.set_append_right _ _ (by omega), h1, Nat.sub_self, List.drop_eq_getElem_cons (by omega), List.set_cons_zero, show d.take (k + 1) = d.take k ++ [d.getD k 0] by
    rw [List.take_add_one, List.getElem?_eq_getElem (by omega), List.getD_eq_getElem?_getD, List.getElem?_eq_getElem (by omega)]; rfl]
  simp [Nat.add_assoc]
theorem GB_zero {w : World} {g : Nat} (h : w.heap[g]? = some (.cells (nums .u8 (List.replicate 256 0)).toArray 5 (0, 0))) : GRow.GB w (g, 256) z256 :=
  ⟨List.length_replicate, Nat.le_refl _, _, h, by
    show ((nums .u8 z256).toArray.toList).take 256 = nums .u8 z256
    rw [List.take_of_length_le]
    show (nums .u8 z256).length ≤ 256
    rw [nums, List.length_map]
    exact Nat.le_of_eq List.length_replicate⟩
theorem own_new {w w2 : World} {v v3 : Value} {gs : List (Nat × Nat)} {g : Nat × Nat} (hn : ∀ k, ghas v gs k → w.heap.size ≤ k) (hat : v3.ownBlock = v.ownBlock ∨ ∃ b, v3.ownBlock = some b ∧ w2.heap.size ≤ b) (hs : w.heap.size ≤ w2.heap.size) (hg : w.heap.size ≤ g.1) : ∀ k, ghas v3 (gs ++ [g]) k → w.heap.size ≤ k := by
  intro k hk
  rcases hk with hk | ⟨c, hk⟩
  · rcases hat with e | ⟨b, e, hb⟩
    · exact hn k (.inl (e.symm.trans hk))
    · rw [e] at hk
      injection hk with hk
      omega
  · rcases List.mem_append.1 hk with h | h
    · exact hn k (.inr ⟨c, h⟩)
    · have := List.mem_singleton.1 h
      rw [← this] at hg
      exact hg
theorem below_grown {w w2 w3 : World} {row : Option Nat} (h : Below w.heap.size w w2) (h3 : Below 0 w w3) (hg : w2.grownBy w3 row) (hr : ∀ k, row = some k → w.heap.size ≤ k) : Below w.heap.size w w3 :=
  ⟨h3.os, h3.tape, h3.output, h3.size, fun i hi => (hg.block i (Nat.lt_of_lt_of_le hi h.size) (fun e => by have := hr i e.symm; omega)).trans (h.block i hi)⟩
set_option maxHeartbeats 8000000 in
set_option maxRecDepth 100000 in
theorem all_calls (P C N H a6 a7 a8 a9 : Int) (L0 : List Int) (LA : Option Addr) (lc : Nat) (A : Option Addr) (c : Nat) (bs : List (List Int)) (w : World)
    (hp : Plan P C L0 H) (hN : N = L0.sum) (hLv : Kd.C (Kd.int .i64) w LA L0.length L0) (hlc : L0.length ≤ lc) (hRD : RD w (fun _ => False) A bs) (hby : ∀ b ∈ bs, Bytes b) (hl : ∀ b ∈ bs, b.length = 256) (hbs : (bs.length : Int) = C) :
    Calls Tryd.prog 9 #[.agg (planCells P 4 C (.slice LA L0.length lc) N H a6 a7 a8 a9), .slice A bs.length c] w fun e w' => ∃ RA rc gs, e = .returned (.slice RA (gs : List (Nat × Nat)).length rc) ∧ GRows w' (.slice RA gs.length rc) gs (allN (P :: C :: L0) H P (bs ++ List.replicate N.toNat z256) (bs.length + N.toNat)) ∧ (∀ k, ghas (.slice RA gs.length rc) gs k → w.heap.size ≤ k) ∧ Below w.heap.size w w' := by
  have HP := Aside0.mk hp
  have HLV := Aside0.mk hLv
  have HLC := Aside0.mk hlc
  have HRD := Aside0.mk hRD
  have HBY := Aside0.mk hby
  have HFU := Aside0.mk hl
  have HBC := Aside0.mk hbs
  have HRM := Aside0.mk hRD.1
  have HBD := Aside0.mk hp.chain.bound
  have HH := Aside0.mk hp.head
  have HNN := Aside0.mk hN
  have HLL := Aside0.mk hp.len
  have HN0 : Aside0 (0 ≤ N ∧ N ≤ 20000 ∧ 1 ≤ P ∧ P ≤ 4096 ∧ 1 ≤ C ∧ C ≤ 4096 ∧ H = P + C + N) := ⟨by
    have h1 := sum_bound (l := L0) (fun x hx => hp.chain.bound x (by simp [hx]))
    have h2 := hp.chain.bound P (by simp)
    have h3 := hp.chain.bound C (by simp)
    have h4 := hp.len
    have h5 := hp.head
    simp only [List.sum_cons] at h5
    omega⟩
  clear hp hN hLv hlc hRD hby hl hbs
  have GPn := blk_new w (.cells (planCells P 4 C (.slice LA L0.length lc) N H a6 a7 a8 a9) 25 (0, 0))
  have BPn := below_alloc (Below.refl w.heap.size w) (.cells (planCells P 4 C (.slice LA L0.length lc) N H a6 a7 a8 a9) 25 (0, 0))
  replace GPn := Aside0.mk GPn
  replace BPn := Aside0.mk BPn
  go_enter Tryd.func9, Tryd.ntmps9
  go_wp2_with fail
  change Code.wp _ _ _ _ (w.alloc (.cells (planCells P 4 C (.slice LA L0.length lc) N H a6 a7 a8 a9) 25 (0, 0)))
  obtain ⟨gb, hgb⟩ : ∃ gb, w.heap.size = gb := ⟨_, rfl⟩
  rw [hgb] at GPn ⊢
  have HGB := Aside0.mk hgb
  clear hgb
  generalize w.alloc _ = wa at GPn BPn ⊢
  go_loopw [5, 6] (fun o i wr => ∃ (t : Int) (RA : Option Addr) (rc : Nat) (gs : List (Nat × Nat)), o = .slice RA gs.length rc ∧ i = .int .i64 t ∧ 0 ≤ t ∧ t ≤ bs.length ∧ Aside0 (GRows wr (.slice RA gs.length rc) gs (bs.take t.toNat)) ∧ Aside0 (∀ k, ghas (.slice RA gs.length rc) gs k → w.heap.size ≤ k) ∧ Aside0 (wr.heap[gb]? = some (.cells (planCells P 4 C (.slice LA L0.length lc) N H a6 a7 a8 a9) 25 (0, 0))) ∧ Aside0 (Below w.heap.size w wr)) (fun _ i _ => bs.length - (intOf i).toNat)
  case atStart => exact ⟨0, none, 0, [], rfl, rfl, by omega, by omega, ⟨GRows.nil _⟩, ⟨fun k hk => by simp [ghas, Value.ownBlock] at hk⟩, GPn, BPn⟩
  case round =>
    clear GPn BPn
    obtain ⟨t, RA, rc, gs, rfl, rfl, t0, tn, GR, GN, GP, BEL⟩ := hrel
    by_cases ht : t < bs.length
    · obtain ⟨ad, A1, c1, rfl, hc1, hCW⟩ := HRD.out.2 t.toNat (by omega)
      have hcell := (hCW wr (Kept.of_below BEL.out _)).2
      have HC1 := Aside0.mk (hCW wr (Kept.of_below BEL.out _)).1
      have hmx := HRM.out
      have hw : IntKind.i64.wrap (t + 1) = t + 1 := IntWalk.i64_in _ (by omega)
      have HX : Aside0 ((bs.getD t.toNat []).length = 256) := ⟨by
        rw [List.getD_eq_getElem?_getD, List.getElem?_eq_getElem (by omega)]
        exact HFU.out _ (List.getElem_mem (by omega))⟩
      have HTK : Aside0 (bs.take t.toNat ++ [bs.getD t.toNat []] = bs.take (t + 1).toNat) := ⟨by
        rw [show (t + 1).toNat = t.toNat + 1 by omega, List.take_add_one, List.getElem?_eq_getElem (by omega), List.getD_eq_getElem?_getD, List.getElem?_eq_getElem (by omega)]
        rfl⟩
      have HGL : Aside0 (gs.length ≤ 5000) := ⟨by have := GR.out.len; rw [List.length_take] at this; have := HN0.out; have := HBC.out; omega⟩
      obtain ⟨x, hx⟩ : ∃ x, bs.getD t.toNat [] = x := ⟨_, rfl⟩
      rw [hx] at hcell HC1 HX HTK
      clear hx hCW hc1
      go_wp2_with fail
      refine (copy_calls A1 c1 x wr HC1.out (by rw [HX.out]; decide)).mono ?_
      rintro e w2 ⟨v, rfl, hR, hb2⟩
      obtain ⟨g, hv, hG, hg⟩ := GB_of_R hR HX.out
      have hv' : v = .slice (some ⟨g.1, 0, none⟩) 256 g.2 := hv
      subst hv'
      clear hv
      have HG2 := Aside0.mk hG
      have HGN : Aside0 (∀ c, (g.1, c) ∉ gs) := ⟨fun c hc => by have := GR.out.lt (.inr ⟨c, hc⟩); omega⟩
      have HGW : Aside0 (w.heap.size ≤ g.1) := ⟨Nat.le_trans BEL.out.size hg⟩
      have GR2 := Aside0.mk (GR.out.below hb2)
      have GP2 := Aside0.mk (blk_below GP.out hb2)
      have BEL2 := Aside0.mk (BEL.out.trans (hb2.mono BEL.out.size))
      clear hR hG hg hb2 GR GP BEL HC1 hcell
      go_wp2_with ((with_reducible refine gate_dst (N := 26) rfl ?_)
                   refine Kd.R_append GK (w0 := w) (W := w2) 0 rfl (.tmp 19) (.tmp 25) 26 22 (.slice none 0 0) 24 rfl Tryd.underlying26 Tryd.infoHB rfl (by decide) (by decide) _ gs g [ghd g] (fun _ => True) (fun _ => False) rfl rfl rfl (fun _ h => h.elim) (fun _ _ => trivial) GR2.out.row (BEL2.out.mono (Nat.zero_le _)) (Nat.zero_le _) (by have := HGL.out; omega) ?_
                   intro v3 w3 ho3 hb3 hg3 hat3
                   skip)
      obtain ⟨RB, rb, e3⟩ := Kd.R_slice ho3
      subst e3
      refine ⟨⟨t + 1, RB, rb, gs ++ [g], rfl, rfl, by omega, by omega, ⟨?_⟩, ⟨?_⟩, ⟨?_⟩, ⟨?_⟩⟩, by simp [intOf]; omega⟩
      · rw [← HTK.out]
        exact GR2.out.snoc ho3 hg3 HG2.out HGN.out
      · exact own_new GN.out hat3 BEL2.out.size HGW.out
      · exact blk_grown GP2.out hg3 (Kd.R_ne GR2.out.row GP2.out (by decide))
      · exact below_grown BEL2.out hb3 hg3 (fun k hk => GN.out k (.inl hk))
    · obtain rfl : t = bs.length := by omega
      clear ht tn t0
      rw [show ((bs.length : Int)).toNat = bs.length from rfl, List.take_length] at GR
      go_wp2_with fail
      go_loopw [5, 7] (fun o i wr => ∃ (t : Int) (RA : Option Addr) (rc : Nat) (gs : List (Nat × Nat)), o = .slice RA gs.length rc ∧ i = .int .i64 t ∧ 0 ≤ t ∧ t ≤ N ∧ Aside0 (GRows wr (.slice RA gs.length rc) gs (bs ++ List.replicate t.toNat z256)) ∧ Aside0 (∀ k, ghas (.slice RA gs.length rc) gs k → w.heap.size ≤ k) ∧ Aside0 (wr.heap[gb]? = some (.cells (planCells P 4 C (.slice LA L0.length lc) N H a6 a7 a8 a9) 25 (0, 0))) ∧ Aside0 (Below w.heap.size w wr)) (fun _ i _ => (N - intOf i).toNat)
      case atStart => exact ⟨0, RA, rc, gs, rfl, rfl, by omega, by have := HN0.out; omega, ⟨by simpa using GR.out⟩, GN, GP, BEL⟩
      case round =>
        clear GR GN GP BEL
        obtain ⟨t, RA, rc, gs, rfl, rfl, t0, tn, GR, GN, GP, BEL⟩ := hrel
        have zN : wr.cell? ⟨gb, 4, none⟩ = some (.int .i64 N) := (blk_cell GP.out 4).trans rfl
        by_cases ht : t < N
        · have hw : IntKind.i64.wrap (t + 1) = t + 1 := IntWalk.i64_in _ (by have := HN0.out; omega)
          have HGL : Aside0 (gs.length ≤ 50000) := ⟨by have := GR.out.len; rw [List.length_append, List.length_replicate] at this; have := HN0.out; have := HBC.out; omega⟩
          have HTK : Aside0 (bs ++ List.replicate t.toNat z256 ++ [z256] = bs ++ List.replicate (t + 1).toNat z256) := ⟨by
            rw [show (t + 1).toNat = t.toNat + 1 by omega, show List.replicate (t.toNat + 1) z256 = List.replicate t.toNat z256 ++ [z256] from List.replicate_succ', List.append_assoc]⟩
          go_wp2_with (first
            | ((with_reducible refine gate_dst (N := 34) rfl ?_)
               refine make256_event rfl (N := 34) rfl rfl ?_
               intro zb hzb w2 hz2 hb2
               have HZ2 := Aside0.mk hz2
               have HZB := Aside0.mk hzb
               have GR2 := Aside0.mk (GR.out.below hb2)
               have GP2 := Aside0.mk (blk_below GP.out hb2)
               have BEL2 := Aside0.mk (BEL.out.trans (hb2.mono BEL.out.size))
               clear hz2 hb2 hzb)
            | ((with_reducible refine gate_dst (N := 36) rfl ?_)
               refine Kd.R_append GK (w0 := w) (W := w2) 0 rfl (.tmp 33) (.tmp 35) 26 22 (.slice none 0 0) 24 rfl Tryd.underlying26 Tryd.infoHB rfl (by decide) (by decide) _ gs (zb, 256) [ghd (zb, 256)] (fun _ => True) (fun _ => False) rfl rfl rfl (fun _ h => h.elim) (fun _ _ => trivial) GR2.out.row (BEL2.out.mono (Nat.zero_le _)) (Nat.zero_le _) (by have := HGL.out; omega) ?_
               intro v3 w3 ho3 hb3 hg3 hat3
               skip))
          obtain ⟨RB, rb, e3⟩ := Kd.R_slice ho3
          subst e3
          refine ⟨⟨t + 1, RB, rb, gs ++ [(zb, 256)], rfl, rfl, by omega, by omega, ⟨?_⟩, ⟨?_⟩, ⟨?_⟩, ⟨?_⟩⟩, by simp [intOf]; omega⟩
          · rw [← HTK.out]
            exact GR2.out.snoc ho3 hg3 (GB_zero HZ2.out) (fun c hc => by have := GR.out.lt (.inr ⟨c, hc⟩); have := HZB.out; omega)
          · exact own_new GN.out hat3 BEL2.out.size (by have := BEL.out.size; have := HZB.out; show _ ≤ zb; omega)
          · exact blk_grown GP2.out hg3 (Kd.R_ne GR2.out.row GP2.out (by decide))
          · exact below_grown BEL2.out hb3 hg3 (fun k hk => GN.out k (.inl hk))
        · obtain rfl : N = t := by omega
          clear ht
          go_wp2_with fail
          obtain ⟨st0, hst0⟩ : ∃ st, bs ++ List.replicate N.toNat z256 = st := ⟨_, rfl⟩
          have HGL0 : Aside0 (gs.length = bs.length + N.toNat) := ⟨by rw [← GR.out.len, List.length_append, List.length_replicate]⟩
          have HSB : Aside0 (∀ x ∈ st0, Bytes x) := ⟨by
            rw [← hst0]
            intro x hx
            rcases List.mem_append.1 hx with h | h
            · exact HBY.out x h
            · rw [List.eq_of_mem_replicate h]
              intro y hy
              rw [List.eq_of_mem_replicate hy]
              omega⟩
          rw [hst0] at GR
          have HST0 := Aside0.mk hst0
          have HSL0 : Aside0 (st0.length = gs.length) := ⟨GR.out.len⟩
          clear hst0 zN
          go_loopw [8] (fun i wr => ∃ (t : Int), i = .int .i64 t ∧ 0 ≤ t ∧ t ≤ gs.length ∧ Aside0 (GRows wr (.slice RA gs.length rc) gs (allN (P :: C :: L0) H P st0 t.toNat)) ∧ Aside0 (wr.heap[gb]? = some (.cells (planCells P 4 C (.slice LA L0.length lc) N H a6 a7 a8 a9) 25 (0, 0))) ∧ Aside0 (Below w.heap.size w wr)) (fun i _ => gs.length - (intOf i).toNat)
          case atStart => exact ⟨0, rfl, by omega, by omega, GR, GP, BEL⟩
          case round =>
            clear GR GP BEL
            obtain ⟨t, rfl, t0, tn, GR, GP, BEL⟩ := hrel
            by_cases ht : t < gs.length
            · have HPT : Aside0 (P + t < H) := ⟨by have := HN0.out; have := HGL0.out; have := HBC.out; omega⟩
              have hw : IntKind.i64.wrap (t + 1) = t + 1 := IntWalk.i64_in _ (by have := HPT.out; have := HN0.out; omega)
              have hw2 : IntKind.i64.wrap (P + t) = P + t := IntWalk.i64_in _ (by have := HPT.out; have := HN0.out; omega)
              have zP : wr.cell? ⟨gb, 0, none⟩ = some (.int .i64 P) := (blk_cell GP.out 0).trans rfl
              obtain ⟨st, hst⟩ : ∃ st, allN (P :: C :: L0) H P st0 t.toNat = st := ⟨_, rfl⟩
              have HSX : Aside0 (∀ x ∈ st, Bytes x) := ⟨by rw [← hst]; exact allN_bytes _ _ _ HSB.out _⟩
              have HSN : Aside0 (allN (P :: C :: L0) H P st0 (t + 1).toNat = allStep (P :: C :: L0) H P st t.toNat) := ⟨by rw [show (t + 1).toNat = t.toNat + 1 by omega, ← hst]; rfl⟩
              have HSL : Aside0 (st.length = gs.length) := ⟨by rw [← hst, allN_length, HSL0.out]⟩
              rw [hst] at GR
              clear hst
              rcases find_in HP.out t t0 HPT.out with hf | ⟨fb, fa, hf, hfa0, hfa1, hfb0, hfb1⟩
              · have HPA : Aside0 (thimbleref16_Parent.f 14 P 4 C L0 N H a6 a7 a8 a9 (P + t) = some (0, 0, 5)) := ⟨by rw [ref_parent_f P 4 C N a6 a7 a8 a9 L0 H HP.out 14 (by decide) (P + t) (by have := HPT.out; have := HN0.out; omega), if_neg (by have := HN0.out; omega), hf]⟩
                have HSE : Aside0 (allStep (P :: C :: L0) H P st t.toNat = st) := ⟨by unfold allStep; rw [show ((t.toNat : Nat) : Int) = t by omega, hf, if_neg (by decide)]⟩
                clear hf
                go_wp2_with (refine wpList_load_row rfl 25 (.tmp 2) rfl gb rfl 25 (planCells P 4 C (.slice LA L0.length lc) N H a6 a7 a8 a9) _ _ GP.out Tryd.underlying25 rfl Tryd.infoPlanC ?_)
                refine (thimbleref16_Parent.calls 14 P 4 C LA lc L0 N H a6 a7 a8 a9 (P + t) 0 0 5 wr (Kd.C_below HLV.out BEL.out) HLC.out HPA.out).mono ?_
                rintro e w2 ⟨rfl, hb2⟩
                have GR2 := Aside0.mk (GR.out.below hb2)
                have GP2 := Aside0.mk (blk_below GP.out hb2)
                have BEL2 := Aside0.mk (BEL.out.trans (hb2.mono BEL.out.size))
                clear hb2 zP GR GP BEL
                go_wp2_with fail
                have hb3 := below_alloc (Below.refl w2.heap.size w2) (.cells #[.int .i64 0, .int .i64 0] 58 (0, 0))
                refine ⟨⟨t + 1, rfl, by omega, by omega, ⟨?_⟩, ⟨?_⟩, ⟨?_⟩⟩, by simp [intOf]; omega⟩
                · rw [HSN.out, HSE.out]
                  exact GR2.out.below hb3
                · exact blk_below GP2.out hb3
                · exact BEL2.out.trans (hb3.mono BEL2.out.size)
              · have HPA : Aside0 (thimbleref16_Parent.f 14 P 4 C L0 N H a6 a7 a8 a9 (P + t) = some (fb, fa, 0)) := ⟨by rw [ref_parent_f P 4 C N a6 a7 a8 a9 L0 H HP.out 14 (by decide) (P + t) (by have := HPT.out; have := HN0.out; omega), if_neg (by have := HN0.out; omega), hf]⟩
                obtain ⟨j, hj⟩ : ∃ j, (fb - P).toNat = j := ⟨_, rfl⟩
                have HJ : Aside0 (j < gs.length) := ⟨by have := HN0.out; have := HGL0.out; have := HBC.out; omega⟩
                have HJE := Aside0.mk hj
                have HSE : Aside0 (allStep (P :: C :: L0) H P st t.toNat = st.set j (splice (st.getD j []) (32 * fa.toNat) (dig (P + t) (st.getD t.toNat [])))) := ⟨by unfold allStep; rw [show ((t.toNat : Nat) : Int) = t by omega, hf, if_pos rfl, hj]⟩
                have HFA := Aside0.mk (And.intro hfa0 hfa1)
                have HFB := Aside0.mk (And.intro hfb0 hfb1)
                obtain ⟨gt, hgt⟩ : ∃ g, gs[t.toNat]? = some g := ⟨_, List.getElem?_eq_getElem (by omega)⟩
                obtain ⟨gq, hgq⟩ : ∃ g, gs[j]? = some g := ⟨_, List.getElem?_eq_getElem HJ.out⟩
                obtain ⟨og, rfl, hcel⟩ := GR.out.cell_ hgt
                have HCELT := Aside0.mk hcel
                obtain ⟨og', e', hcelq⟩ := GR.out.cell_ hgq
                injection e' with e'
                injection e' with e'
                subst e'
                have HCELQ := Aside0.mk hcelq
                have HGT := Aside0.mk hgt
                have HGQ := Aside0.mk hgq
                clear hf hfa0 hfa1 hfb0 hfb1 hgt hgq hcel hcelq hj
                go_wp2_with (refine wpList_load_row rfl 25 (.tmp 2) rfl gb rfl 25 (planCells P 4 C (.slice LA L0.length lc) N H a6 a7 a8 a9) _ _ GP.out Tryd.underlying25 rfl Tryd.infoPlanC ?_)
                refine (thimbleref16_Parent.calls 14 P 4 C LA lc L0 N H a6 a7 a8 a9 (P + t) fb fa 0 wr (Kd.C_below HLV.out BEL.out) HLC.out HPA.out).mono ?_
                rintro e w2 ⟨rfl, hb2⟩
                have GR2 := Aside0.mk (GR.out.below hb2)
                have GP2 := Aside0.mk (blk_below GP.out hb2)
                have BEL2 := Aside0.mk (BEL.out.trans (hb2.mono BEL.out.size))
                clear hb2 zP GR GP BEL
                go_wp2_with fail
                change Code.wp _ _ _ _ (w2.alloc (.cells #[.int .i64 fb, .int .i64 fa] 58 (0, 0)))
                have hb3 := below_alloc (Below.refl w2.heap.size w2) (.cells #[.int .i64 fb, .int .i64 fa] 58 (0, 0))
                have G9 := Aside0.mk (blk_new w2 (.cells #[.int .i64 fb, .int .i64 fa] 58 (0, 0)))
                replace GR2 := Aside0.mk (GR2.out.below hb3)
                replace GP2 := Aside0.mk (blk_below GP2.out hb3)
                replace BEL2 := Aside0.mk (BEL2.out.trans (hb3.mono BEL2.out.size))
                clear hb3
                obtain ⟨g9, hg9⟩ : ∃ g, w2.heap.size = g := ⟨_, rfl⟩
                rw [hg9] at G9 ⊢
                clear hg9
                generalize w2.alloc _ = wq at G9 GR2 GP2 BEL2 ⊢
                obtain ⟨xt, hxt⟩ : ∃ x, st.getD t.toNat [] = x := ⟨_, rfl⟩
                have HGB := Aside0.mk (GR2.out.blk t.toNat gt HGT.out)
                have HXB : Aside0 (Bytes xt) := ⟨by rw [← hxt]; exact getD_bytes HSX.out _⟩
                rw [hxt] at HGB HSE
                have HXL : Aside0 (xt.length = 256) := ⟨HGB.out.1⟩
                clear hxt
                obtain ⟨DD, hDD⟩ : ∃ D, dig (P + t) xt = D := ⟨_, rfl⟩
                have HDL : Aside0 (DD.length = 32) := ⟨by rw [← hDD]; rfl⟩
                have HDB : Aside0 (Bytes DD) := ⟨by rw [← hDD]; exact dig_bytes _ _⟩
                rw [hDD] at HSE
                have HDE := Aside0.mk hDD
                clear hDD
                have HI : Aside0 ((Tryd.prog.info? 29).map (·.size) = some (nums .u8 DD).toArray.size) := ⟨by rw [Tryd.infoD, List.size_toArray, nums, List.length_map, HDL.out]⟩
                have HO : Aside0 ((nums .u8 DD).toArray.all (·.oneCell') = true) := ⟨by simp [nums, Value.oneCell']⟩
                have HZ : Aside0 ((nums .u8 (List.replicate 32 0)).toArray.size = (nums .u8 DD).toArray.size) := ⟨by rw [List.size_toArray, List.size_toArray, nums, nums, List.length_map, List.length_map, HDL.out, List.length_replicate]⟩
                have zP : wq.cell? ⟨gb, 0, none⟩ = some (.int .i64 P) := (blk_cell GP2.out 0).trans rfl
                have ht0 : 0 ≤ t := t0
                refine start_ (n := 11) (S := fun w' => Below wq.heap.size wq w') (ds := [10]) #[false, false, false, false, false, false, false, false, false, false, false] (by kernel_rfl) rfl rfl (below_drew1 (Below.refl _ _)) (fun hHeld => ?_)
                have HH := Aside0.mk hHeld
                clear hHeld
                generalize wq.drew = w3 at HH ⊢
                refine pure_ (i := 0) (N := some 54) (v := ?_) (a' := ?_) #[true, false, false, false, false, false, false, false, false, false, false] rfl rfl (by kernel_rfl) (fun _ _ _ h => h) (Or.inl ⟨by rfl, ?_⟩) ?_ ?_
                rotate_left
                · intro w'
                  go_simp
                  with_reducible rfl
                rotate_left
                · simp only [Act.put, List.setIfInBounds_toArray, List.set_cons_zero, List.set_cons_succ, i64_w, i32_w]
                  rfl
                refine take_ (i := 1) (N := some 55) (v := ?_) (a' := ?_) #[true, true, false, false, false, false, false, false, false, false, false] rfl rfl (by kernel_rfl) (fun _ _ _ h => h) (Or.inl ⟨by rfl, ?_⟩) HH.out ?_ ?_
                rotate_left
                · rintro w' s0
                  have z0 : w'.cell? ⟨gb, 0, none⟩ = some (.int .i64 P) := cell_same zP (s0.block _ (cell_lt zP))
                  clear s0
                  go_simp
                  with_reducible rfl
                rotate_left
                · simp only [Act.put, List.setIfInBounds_toArray, List.set_cons_zero, List.set_cons_succ, i64_w, i32_w]
                  rfl
                refine pure_ (i := 2) (N := some 56) (v := ?_) (a' := ?_) #[true, true, true, false, false, false, false, false, false, false, false] rfl rfl (by kernel_rfl) (fun _ _ _ h => h) (Or.inl ⟨by rfl, ?_⟩) ?_ ?_
                rotate_left
                · intro w'
                  go_simp
                  with_reducible rfl
                rotate_left
                · simp only [Act.put, List.setIfInBounds_toArray, List.set_cons_zero, List.set_cons_succ, i64_w, i32_w]
                  rfl
                refine pure_ (i := 3) (N := some 57) (v := ?_) (a' := ?_) #[true, true, true, true, false, false, false, false, false, false, false] rfl rfl (by kernel_rfl) (fun _ _ _ h => h) (Or.inl ⟨by rfl, ?_⟩) ?_ ?_
                rotate_left
                · intro w'
                  go_simp
                  with_reducible rfl
                rotate_left
                · simp only [Act.put, List.setIfInBounds_toArray, List.set_cons_zero, List.set_cons_succ, i64_w, i32_w]
                  rfl
                refine pure_ (i := 4) (N := some 58) (v := ?_) (a' := ?_) #[true, true, true, true, true, false, false, false, false, false, false] rfl rfl (by kernel_rfl) (fun _ _ _ h => h) (Or.inl ⟨by rfl, ?_⟩) ?_ ?_
                rotate_left
                · intro w'
                  go_simp
                  with_reducible rfl
                rotate_left
                · simp only [Act.put, List.setIfInBounds_toArray, List.set_cons_zero, List.set_cons_succ, i64_w, i32_w]
                  rfl
                refine pure_ (i := 5) (N := some 59) (v := ?_) (a' := ?_) #[true, true, true, true, true, true, false, false, false, false, false] rfl rfl (by kernel_rfl) (fun _ _ _ h => h) (Or.inl ⟨by rfl, ?_⟩) ?_ ?_
                rotate_left
                · intro w'
                  go_simp
                  with_reducible rfl
                rotate_left
                · simp only [Act.put, List.setIfInBounds_toArray, List.set_cons_zero, List.set_cons_succ, i64_w, i32_w]
                  rfl
                refine pure_ (i := 6) (N := some 60) (v := ?_) (a' := ?_) #[true, true, true, true, true, true, true, false, false, false, false] rfl rfl (by kernel_rfl) (fun _ _ _ h => h) (Or.inl ⟨by rfl, ?_⟩) ?_ ?_
                rotate_left
                · intro w'
                  go_simp
                  with_reducible rfl
                rotate_left
                · simp only [Act.put, List.setIfInBounds_toArray, List.set_cons_zero, List.set_cons_succ, i64_w, i32_w]
                  rfl
                refine take_ (i := 7) (N := some 61) (v := ?_) (a' := ?_) #[true, true, true, true, true, true, true, true, false, false, false] rfl rfl (by kernel_rfl) (fun _ _ _ h => h) (Or.inl ⟨by rfl, ?_⟩) HH.out ?_ ?_
                rotate_left
                · rintro w' s0
                  have z0 : w'.cell? ⟨og, t.toNat, none⟩ = some (.slice (some ⟨gt.1, 0, none⟩) 256 gt.2) := HCELT.out w' _ (GR2.out.below s0)
                  clear s0
                  go_simp
                  with_reducible rfl
                rotate_left
                · simp only [Act.put, List.setIfInBounds_toArray, List.set_cons_zero, List.set_cons_succ, i64_w, i32_w]
                  rfl
                refine join_ (σ := Nat) 1 #[true, true, true, true, true, true, true, true, true, true, false] (fun s => [(62, .agg (nums .u8 DD).toArray), (11, .pointer (some ⟨s, 0, none⟩))]) (fun s w' => w'.heap[s]? = some (.cells (nums .u8 (List.replicate 32 0)).toArray 29 (0, 0)) ∧ Below wq.heap.size wq w' ∧ wq.heap.size ≤ s) ?_ ?_
                rotate_left
                · intro hj
                  have HJN := Aside0.mk hj
                  clear hj
                  refine two_ (i := 8) (j := 9) (Ni := some 62) (Nj := some 11) #[true, true, true, true, true, true, true, true, true, false, false] #[true, true, true, true, true, true, true, true, false, true, false] rfl rfl rfl rfl (by kernel_rfl) (by decide) (by decide) (fun K hK => ?_) (fun K hK => ?_)
                  · refine goes_ Tryd.func23 (by kernel_rfl) rfl #[.int .i64 (P + t), .slice (some ⟨gt.1, 0, none⟩) 256 gt.2] (by rfl) rfl rfl (by simp only [List.map_toArray, List.map_cons, List.map_nil]; rfl) ?_
                    have hdg := refdigest_calls (P + t) (some ⟨gt.1, 0, none⟩) gt.2 xt w3 (by rw [HXL.out]; exact Kd.C_below HGB.out.C HH.out) (by rw [HXL.out]; exact HGB.out.2.1) HXB.out (by rw [HXL.out]; decide)
                    rw [HXL.out, HDE.out] at hdg
                    refine hdg.mono ?_
                    clear hdg
                    rintro e w4 ⟨rfl, hb⟩
                    refine ⟨_, rfl, ?_⟩
                    have hb' := HH.out.trans (hb.mono HH.out.size)
                    refine hK.out _ _ hb' (fun hHeld => ?_)
                    clear hK K
                    refine norm_ (a' := ?_) ?_ ?_
                    rotate_left
                    · show Act.put _ (some 62) _ = _
                      simp only [Act.put, List.setIfInBounds_toArray, List.set_cons_zero, List.set_cons_succ, i64_w, i32_w]
                      rfl
                    replace HH := Aside0.mk hHeld
                    clear hHeld hb hb'
                    refine one_ (i := 9) (N := some 11) #[true, true, true, true, true, true, true, true, true, true, false] rfl rfl (by kernel_rfl) (by decide) (fun K hK => ?_)
                    refine value_ (w1 := w4.alloc (.cells (nums .u8 (List.replicate 32 0)).toArray 29 (0, 0))) (v := .pointer (some ⟨w4.heap.size, 0, none⟩)) (by rfl) rfl (by first | (go_simp; done) | (go_simp; rfl)) ?_
                    have hn9 := blk_new w4 (.cells (nums .u8 (List.replicate 32 0)).toArray 29 (0, 0))
                    have hb9 := below_alloc HH.out (.cells (nums .u8 (List.replicate 32 0)).toArray 29 (0, 0))
                    have hs9 := HH.out.size
                    refine hK.out _ _ hb9 (fun hHeld => ?_)
                    clear hK K
                    refine norm_ (a' := ?_) ?_ ?_
                    rotate_left
                    · show Act.put _ (some 11) _ = _
                      simp only [Act.put, List.setIfInBounds_toArray, List.set_cons_zero, List.set_cons_succ, i64_w, i32_w]
                      rfl
                    exact HJN.out w4.heap.size _ ⟨hn9, hb9, hs9⟩
                  · refine value_ (w1 := w3.alloc (.cells (nums .u8 (List.replicate 32 0)).toArray 29 (0, 0))) (v := .pointer (some ⟨w3.heap.size, 0, none⟩)) (by rfl) rfl (by first | (go_simp; done) | (go_simp; rfl)) ?_
                    have hn9 := blk_new w3 (.cells (nums .u8 (List.replicate 32 0)).toArray 29 (0, 0))
                    have hb9 := below_alloc HH.out (.cells (nums .u8 (List.replicate 32 0)).toArray 29 (0, 0))
                    have hs9 := HH.out.size
                    refine hK.out _ _ hb9 (fun hHeld => ?_)
                    clear hK K
                    refine norm_ (a' := ?_) ?_ ?_
                    rotate_left
                    · show Act.put _ (some 11) _ = _
                      simp only [Act.put, List.setIfInBounds_toArray, List.set_cons_zero, List.set_cons_succ, i64_w, i32_w]
                      rfl
                    clear hHeld
                    replace HH := Aside0.mk hb9
                    obtain ⟨s9, hq9⟩ : ∃ s9, w3.heap.size = s9 := ⟨_, rfl⟩
                    rw [hq9] at hn9 hs9 ⊢
                    generalize w3.alloc (.cells (nums .u8 (List.replicate 32 0)).toArray 29 (0, 0)) = w4 at HH hn9 ⊢
                    clear hb9 hq9
                    refine one_ (i := 8) (N := some 62) #[true, true, true, true, true, true, true, true, true, true, false] rfl rfl (by kernel_rfl) (by decide) (fun K hK => ?_)
                    refine goes_ Tryd.func23 (by kernel_rfl) rfl #[.int .i64 (P + t), .slice (some ⟨gt.1, 0, none⟩) 256 gt.2] (by rfl) rfl rfl (by simp only [List.map_toArray, List.map_cons, List.map_nil]; rfl) ?_
                    have hdg := refdigest_calls (P + t) (some ⟨gt.1, 0, none⟩) gt.2 xt w4 (by rw [HXL.out]; exact Kd.C_below HGB.out.C HH.out) (by rw [HXL.out]; exact HGB.out.2.1) HXB.out (by rw [HXL.out]; decide)
                    rw [HXL.out, HDE.out] at hdg
                    refine hdg.mono ?_
                    clear hdg
                    rintro e w5 ⟨rfl, hb⟩
                    refine ⟨_, rfl, ?_⟩
                    have hb' := HH.out.trans (hb.mono HH.out.size)
                    have hn8 := blk_below hn9 hb
                    refine hK.out _ _ hb' (fun hHeld => ?_)
                    clear hK K
                    refine norm_ (a' := ?_) ?_ ?_
                    rotate_left
                    · show Act.put _ (some 62) _ = _
                      simp only [Act.put, List.setIfInBounds_toArray, List.set_cons_zero, List.set_cons_succ, i64_w, i32_w]
                      rfl
                    exact HJN.out s9 _ ⟨hn8, hb', hs9⟩
                rintro g11 w5 ⟨hP5, hB5, hG5⟩
                refine norm_ (a' := ?_) ?_ ?_
                rotate_left
                · simp only [putAll, Act.put, List.setIfInBounds_toArray, List.set_cons_zero, List.set_cons_succ, i64_w, i32_w]
                  rfl
                refine last_ (i := 10) (N := none) #[true, true, true, true, true, true, true, true, true, true, true] rfl rfl (by kernel_rfl) (by decide) (fun K hK => ?_)
                refine skip_ (w1 := w5.setRow g11 (nums .u8 DD).toArray) (by rfl) rfl (by refine ev_store_row 29 (.tmp 11) (.tmp 62) ?_ g11 (nums .u8 DD).toArray ?_ ?_ 29 (nums .u8 (List.replicate 32 0)).toArray hP5 HI.out HZ.out HO.out <;> rfl) ?_
                refine hK.out _ _ ?_
                clear hK K
                refine done_ (by kernel_rfl) ?_
                have G116 := Aside0.mk (setRow_heap w5 g11 _ (nums .u8 DD).toArray _ _ hP5)
                have B6 : Aside0 (Below wq.heap.size wq (w5.setRow g11 (nums .u8 DD).toArray)) := ⟨hB5.trans ⟨rfl, rfl, rfl, by rw [setRow_size]; exact Nat.le_refl _, fun k hk => setRow_other _ _ _ _ (by omega)⟩⟩
                clear hP5 hB5 hG5 HH zP
                generalize w5.setRow g11 (nums .u8 DD).toArray = w6 at G116 B6 ⊢
                have GR6 := Aside0.mk (GR2.out.below B6.out)
                have GP6 := Aside0.mk (blk_below GP2.out B6.out)
                have G96 := Aside0.mk (blk_below G9.out B6.out)
                have BEL6 := Aside0.mk (BEL2.out.trans (B6.out.mono BEL2.out.size))
                clear HGB
                obtain ⟨row, hrow⟩ : ∃ r, st.getD j [] = r := ⟨_, rfl⟩
                rw [hrow] at HSE
                have HRL : Aside0 (row.length = 256) := ⟨by
                  have := (GR2.out.blk j gq HGQ.out).1
                  rwa [hrow] at this⟩
                have HSJ : Aside0 (st.set j row = st) := ⟨by
                  rw [← hrow]
                  have hj2 : j < st.length := by rw [HSL.out]; exact HJ.out
                  rw [List.getD_eq_getElem?_getD, List.getElem?_eq_getElem hj2]
                  exact List.set_getElem_self hj2⟩
                clear hrow
                go_wp2_with fail
                go_loopw [12] (fun i wr => ∃ (k : Int), i = .int .i64 k ∧ 0 ≤ k ∧ k ≤ 32 ∧ Aside0 (GRows wr (.slice (some ⟨og, 0, none⟩) gs.length rc) gs (st.set j (spl row (32 * fa.toNat) k.toNat DD))) ∧ Aside0 (wr.heap[gb]? = some (.cells (planCells P 4 C (.slice LA L0.length lc) N H a6 a7 a8 a9) 25 (0, 0))) ∧ Aside0 (wr.heap[g9]? = some (.cells #[.int .i64 fb, .int .i64 fa] 58 (0, 0))) ∧ Aside0 (wr.heap[g11]? = some (.cells (nums .u8 DD).toArray 29 (0, 0))) ∧ Aside0 (Below w.heap.size w wr)) (fun i _ => 32 - (intOf i).toNat)
                case atStart => exact ⟨0, rfl, by omega, by omega, ⟨by rw [show (0 : Int).toNat = 0 from rfl, spl_zero, HSJ.out]; exact GR6.out⟩, GP6, G96, G116, BEL6⟩
                case round =>
                  clear GR6 GP6 G96 G116 BEL6
                  obtain ⟨k, rfl, k0, k32, GR, GP, G9, G11, BEL⟩ := hrel
                  by_cases hk : k < 32
                  · have hw5 : IntKind.i64.wrap (k + 1) = k + 1 := IntWalk.i64_in _ (by omega)
                    have q1 : IntKind.i64.wrap (fb - P) = fb - P := IntWalk.i64_in _ (by have := HFB.out; have := HN0.out; omega)
                    have q2 : IntKind.i64.wrap (32 * fa) = 32 * fa := IntWalk.i64_in _ (by have := HFA.out; omega)
                    have q3 : IntKind.i64.wrap (32 * fa + k) = 32 * fa + k := IntWalk.i64_in _ (by have := HFA.out; omega)
                    have q4 : 0 ≤ fb - P := by have := HFB.out; omega
                    have q4' : P ≤ fb := by omega
                    have q5 : fb - P < gs.length := by have := HFB.out; have := HN0.out; have := HGL0.out; have := HBC.out; omega
                    have q6 : 0 ≤ 32 * fa + k := by have := HFA.out; omega
                    have q7 : 32 * fa + k < 256 := by have := HFA.out; omega
                    have y0 : wr.cell? ⟨g9, 0, none⟩ = some (.int .i64 fb) := (blk_cell G9.out 0).trans rfl
                    have y1 : wr.cell? ⟨g9, 1, none⟩ = some (.int .i64 fa) := (blk_cell G9.out 1).trans rfl
                    have y2 : wr.cell? ⟨gb, 0, none⟩ = some (.int .i64 P) := (blk_cell GP.out 0).trans rfl
                    have y3 : wr.cell? ⟨og, (fb - P).toNat, none⟩ = some (.slice (some ⟨gq.1, 0, none⟩) 256 gq.2) := by rw [HJE.out]; exact HCELQ.out wr _ GR.out
                    have y4 := nums_cell G11.out k k0 (by rw [HDL.out]; omega)
                    obtain ⟨dk, hdk⟩ : ∃ d, rd DD k = d := ⟨_, rfl⟩
                    rw [hdk] at y4
                    have HDK : Aside0 (dk = DD.getD k.toNat 0) := ⟨hdk.symm⟩
                    clear hdk
                    go_wp2_with fail
                    refine wp_region_still_tail 17 (by as_aux_lemma => kernel_rfl) (by as_aux_lemma => kernel_rfl) ?_
                    simp only [List.take_succ_cons, List.take_zero, List.drop_succ_cons, List.drop_zero]
                    repeat still_step
                    refine wpStill_nil ?_
                    change wpList _ _ _ _ _ wr.drew
                    have GRd := Aside0.mk (GR.out.below (below_drew1 (Below.refl wr.heap.size wr)))
                    have GPd := Aside0.mk (blk_drew GP.out)
                    have G9d := Aside0.mk (blk_drew G9.out)
                    have G11d := Aside0.mk (blk_drew G11.out)
                    have BELd := Aside0.mk (BEL.out.trans ((below_drew1 (Below.refl wr.heap.size wr)).mono BEL.out.size))
                    clear y0 y1 y2 y3 y4 q1 q2 q3 GR GP G9 G11 BEL
                    generalize wr.drew = wd at GRd GPd G9d G11d BELd ⊢
                    have HB := Aside0.mk (GRd.out.blk j gq HGQ.out)
                    have x0 := HB.out.cell q6 q7
                    have x1 := HB.out.frozen (32 * fa + k).toNat
                    go_wp2
                    have HNE : ∀ (g : Nat) (cs : Array Value) (ty : TypeId), wd.heap[g]? = some (.cells cs ty (0, 0)) → ty ≠ 5 → g ≠ gq.1 := fun g cs ty h hne e => by
                      obtain ⟨-, -, cur, hb, -⟩ := HB.out
                      rw [e, hb] at h
                      simp only [Option.some.injEq, Obj.cells.injEq] at h
                      exact hne h.2.1.symm
                    have hgw := GN.out gq.1 (.inr ⟨gq.2, List.mem_of_getElem? HGQ.out⟩)
                    refine ⟨⟨k + 1, rfl, by omega, by omega, ⟨?_⟩, ⟨blk_far GPd.out (HNE _ _ _ GPd.out (by decide)) _⟩, ⟨blk_far G9d.out (HNE _ _ _ G9d.out (by decide)) _⟩, ⟨blk_far G11d.out (HNE _ _ _ G11d.out (by decide)) _⟩, ⟨below_set BELd.out hgw⟩⟩, by simp [intOf]; omega⟩
                    have hs := GRd.out.set_ HGQ.out (i := (32 * fa + k).toNat) (by omega) dk
                    rw [List.set_set] at hs
                    have hj2 : j < st.length := by rw [HSL.out]; exact HJ.out
                    rw [show (st.set j (spl row (32 * fa.toNat) k.toNat DD)).getD j [] = spl row (32 * fa.toNat) k.toNat DD by rw [List.getD_eq_getElem?_getD, List.getElem?_set_self hj2]; rfl, show (32 * fa + k).toNat = 32 * fa.toNat + k.toNat by have := HFA.out; omega, HDK.out, spl_step HRL.out HDL.out (by have := HFA.out; omega) (by omega)] at hs
                    rw [show (k + 1).toNat = k.toNat + 1 by omega, show (32 * fa + k).toNat = 32 * fa.toNat + k.toNat by have := HFA.out; omega, HDK.out]
                    exact hs
                  · obtain rfl : k = 32 := by omega
                    rw [show (32 : Int).toNat = 32 from rfl, spl_all HDL.out, ← HSE.out, ← HSN.out] at GR
                    go_wp2_with fail
                    exact ⟨⟨t + 1, rfl, by omega, by omega, GR, GP, BEL⟩, by simp [intOf]; omega⟩
            · obtain rfl : t = gs.length := by omega
              go_wp2_with fail
              go_ret
              exact ⟨RA, rc, gs, rfl, by rw [HST0.out, ← HGL0.out]; exact GR.out, GN.out, BEL.out⟩
end Go.Proofs.YtgmdgkanfhoahaaDoor.All
