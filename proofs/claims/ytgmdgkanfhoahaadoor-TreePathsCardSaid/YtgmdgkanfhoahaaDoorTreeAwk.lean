/- The law package's awake: what it takes. The law package's awake: true. -/
import Derived.Test.YtgmdgkanfhoahaaDoorTreeBld
import Derived.Test.YtgmdgkanfhoahaaDoorKid
import Derived.Test.YtgmdgkanfhoahaaDoorMade
namespace Go.Proofs.YtgmdgkanfhoahaaDoor.AwakeA
open Go.RowKit Go.Proofs.YtgmdgkanfhoahaaDoor.ShaPure Go.Proofs.YtgmdgkanfhoahaaDoor.ShaBlk Go.Proofs.YtgmdgkanfhoahaaDoor.ShaWrite Go.Proofs.YtgmdgkanfhoahaaDoor.ShaSum Go.Proofs.YtgmdgkanfhoahaaDoor.ShaEnd Go.Proofs.YtgmdgkanfhoahaaDoor.ShaOf Go.Proofs.YtgmdgkanfhoahaaDoor.BytesW Go.Proofs.YtgmdgkanfhoahaaDoor.Put Go.Proofs.YtgmdgkanfhoahaaDoor.LogW Go.Proofs.YtgmdgkanfhoahaaDoor.Dig Go.Proofs.YtgmdgkanfhoahaaDoor.Hdr Go.Proofs.YtgmdgkanfhoahaaDoor.Above Go.Proofs.YtgmdgkanfhoahaaDoor.Build Go.Proofs.YtgmdgkanfhoahaaDoor.BuildW Go.Proofs.YtgmdgkanfhoahaaDoor.Kid Go.Proofs.YtgmdgkanfhoahaaDoor.PTreePaths Go.Proofs.YtgmdgkanfhoahaaDoorW.PrintWords Go.Proofs.YtgmdgkanfhoahaaDoorW.PrintLast Go.Proofs.YtgmdgkanfhoahaaDoorW.PrintMore
set_option linter.unusedVariables false
set_option linter.unusedSimpArgs false

theorem made0 : thimblelaw18_made.f 20 0 [] = some (1, 4, 1, [1], 1, 3, 1, 4, 8, 12, [List.replicate 256 0]) := by kernel_rfl
theorem same_l0 (a b : List Int) (h : a.length = b.length) (hl : a.length ≤ 1000000) : ∀ (m i : Nat), a.length - i ≤ m → i ≤ a.length → thimbleref02_Same.l0 (m + 1) a b i = some (a.drop i == b.drop i)
  | m, i, hm, hi => by
    unfold thimbleref02_Same.l0
    by_cases e : i < a.length
    · rw [if_pos (by omega), if_pos (by omega), if_pos (by omega)]
      have ha : a.drop i = a[i] :: a.drop (i + 1) := List.drop_eq_getElem_cons e
      have hb : b.drop i = b[i] :: b.drop (i + 1) := List.drop_eq_getElem_cons (by omega)
      have ra : rd a i = a[i] := by unfold rd; rw [List.getD_eq_getElem?_getD, Int.toNat_natCast, List.getElem?_eq_getElem e]; rfl
      have rb : rd b i = b[i] := by unfold rd; rw [List.getD_eq_getElem?_getD, Int.toNat_natCast, List.getElem?_eq_getElem (by omega)]; rfl
      rw [ra, rb, ha, hb]
      by_cases q : a[i] = b[i]
      · rw [if_pos q, q]
        cases m with
        | zero => omega
        | succ m =>
          have hw : wrap64 ((i : Int) + 1) = ((i + 1 : Nat) : Int) := by unfold wrap64; omega
          rw [hw, same_l0 a b h hl m (i + 1) (by omega) (by omega)]
          congr 1
          rw [Bool.eq_iff_iff, beq_iff_eq, beq_iff_eq]
          constructor
          · intro h; rw [h]
          · intro h; injection h
      · rw [if_neg q]
        congr 1
        symm
        rw [beq_eq_false_iff_ne]
        intro he
        injection he with h1 _
        exact q h1
    · rw [if_neg (by omega)]
      rw [List.drop_eq_nil_of_le (by omega), List.drop_eq_nil_of_le (by omega)]
      rfl
theorem same_f (a b : List Int) (hl : a.length ≤ 1000000) : thimbleref02_Same.f (a.length + 1) a b = some (a == b) := by
  unfold thimbleref02_Same.f
  by_cases h : a.length = b.length
  · rw [if_pos (by omega)]
    have := same_l0 a b h hl a.length 0 (by omega) (by omega)
    simpa using this
  · rw [if_neg (by omega)]
    congr 1
    symm
    rw [beq_eq_false_iff_ne]
    intro e
    exact h (by rw [e])
theorem C_pre {w : World} {g : Nat} {x : List Int} {t : TypeId} (n : Nat) (h : w.heap[g]? = some (.cells (nums .u8 x).toArray t (0, 0))) (hl : x.length ≤ 1000000) (hn : n ≤ x.length) : Kd.C (Kd.int .u8) w (some ⟨g, 0, none⟩) (x.take n).length (x.take n) :=
  Kd.C_of_reads (enc := Value.int .u8) (d := (0 : Int)) (h1 := fun _ => rfl) ⟨rfl, by rw [List.length_take]; omega, fun hn' => ⟨_, rfl, fun j hj => by
    rw [List.length_take] at hj
    rw [ShaWrite.add_at, blk_cell h j]
    simp [nums, List.getElem?_eq_getElem (show j < x.length by omega), List.getD_eq_getElem?_getD, List.getElem?_take, show j < n by omega]⟩⟩
theorem ev_eql32 (a b : List Int) (ha : a.length = 32) (hb : b.length = 32) {o : Oper} {ev : Operand → Value} (w : World) (x y : Operand) (t : TypeId) (ho : o.op = .binOp .eql 29 x y t) (hx : ev x = .agg (nums .u8 a).toArray) (hy : ev y = .agg (nums .u8 b).toArray) :
    (execOp ev o).run Tryd.prog w = .ok (.value (.bool (a == b))) w := by
  have h := run_eq32 a b ha hb w
  unfold execOp
  simp only [ho, hx, hy]
  go_simp
  first | done | rw [h] | (rw [h]; rfl)
theorem ev_neq32 (a b : List Int) (ha : a.length = 32) (hb : b.length = 32) {o : Oper} {ev : Operand → Value} (w : World) (x y : Operand) (t : TypeId) (ho : o.op = .binOp .neq 29 x y t) (hx : ev x = .agg (nums .u8 a).toArray) (hy : ev y = .agg (nums .u8 b).toArray) :
    (execOp ev o).run Tryd.prog w = .ok (.value (.bool (!(a == b)))) w := by
  have h := run_eq32 a b ha hb w
  unfold execOp
  simp only [ho, hx, hy]
  go_simp
  first | done | rw [h] | (rw [h]; rfl)
end Go.Proofs.YtgmdgkanfhoahaaDoor.AwakeA
namespace Go.Proofs.YtgmdgkanfhoahaaDoor.Awake
open Go.RowKit Go.Proofs.YtgmdgkanfhoahaaDoor.ShaPure Go.Proofs.YtgmdgkanfhoahaaDoor.ShaBlk Go.Proofs.YtgmdgkanfhoahaaDoor.ShaWrite Go.Proofs.YtgmdgkanfhoahaaDoor.ShaSum Go.Proofs.YtgmdgkanfhoahaaDoor.ShaEnd Go.Proofs.YtgmdgkanfhoahaaDoor.ShaOf Go.Proofs.YtgmdgkanfhoahaaDoor.BytesW Go.Proofs.YtgmdgkanfhoahaaDoor.Put Go.Proofs.YtgmdgkanfhoahaaDoor.LogW Go.Proofs.YtgmdgkanfhoahaaDoor.Dig Go.Proofs.YtgmdgkanfhoahaaDoor.Hdr Go.Proofs.YtgmdgkanfhoahaaDoor.Above Go.Proofs.YtgmdgkanfhoahaaDoor.Build Go.Proofs.YtgmdgkanfhoahaaDoor.BuildW Go.Proofs.YtgmdgkanfhoahaaDoor.Kid Go.Proofs.YtgmdgkanfhoahaaDoor.AwakeA Go.Proofs.YtgmdgkanfhoahaaDoor.PTreePaths Go.Proofs.YtgmdgkanfhoahaaDoorW.PrintWords Go.Proofs.YtgmdgkanfhoahaaDoorW.PrintLast Go.Proofs.YtgmdgkanfhoahaaDoorW.PrintMore
set_option linter.unusedVariables false
set_option linter.unusedSimpArgs false

def z256 : List Int := List.replicate 256 0
/-- The example's node. -/
def node1 : List Int := splice z256 0 (dig 1 z256)
theorem up1 : upN 1 [z256] 1 = ([node1], 2, [node1]) := rfl
theorem z256_bytes : Bytes z256 := by
  intro x hx
  rw [List.eq_of_mem_replicate hx]
  omega
theorem ev_same32 (a : List Int) (ha : a.length = 32) {o : Oper} {ev : Operand → Value} (w : World) (x y : Operand) (t : TypeId) (ho : o.op = .binOp .eql 29 x y t) (hx : ev x = .agg (nums .u8 a).toArray) (hy : ev y = .agg (nums .u8 a).toArray) :
    (execOp ev o).run Tryd.prog w = .ok (.value (.bool true)) w := by
  rw [ev_eql32 a a ha ha w x y t ho hx hy, beq_self_eq_true]
theorem Tryd.infoPlan : (Tryd.prog.info? 25).map (·.size) = some 10 := by kernel_rfl
set_option maxHeartbeats 8000000 in
set_option maxRecDepth 100000 in
theorem awake_calls (w : World) (hT : Tab w) : Calls Tryd.prog 13 #[] w fun e w' => e = .returned (.bool true) ∧ Below w.heap.size w w' := by
  have HT := Aside0.mk hT
  clear hT
  go_enter Tryd.func13, Tryd.ntmps13
  go_wp2_with fail
  refine (thimblelaw18_made.calls 20 0 none 0 [] 1 4 1 [1] 1 3 1 4 8 12 [List.replicate 256 0] w (Kd.C_nil _ _) (by decide) made0).mono ?_
  rintro e w1 ⟨lv, v10, rfl, hlv, hS, hb1⟩
  obtain ⟨LA, lc, e3⟩ := Kd.R_slice hlv
  subst e3
  obtain ⟨A, c, e4⟩ := Kd.R_slice (Kd.S_R hS)
  subst e4
  have HC : Aside0 (BB.C w1 A [z256].length [z256]) := ⟨(Kd.R_reads' (Kd.S_R hS)).2.2⟩
  have BEL := Aside0.mk hb1
  clear hlv hS hb1
  go_wp2_with fail
  have hb2 := below_alloc (Below.refl w1.heap.size w1) (.cells (planCells 1 4 1 (.slice LA 1 lc) 1 3 1 4 8 12) 25 (0, 0))
  change Calls _ _ #[ptr none, .agg (planCells 1 4 ([z256].length : Nat) (.slice LA 1 lc) 1 3 1 4 8 12), .slice A [z256].length c] (w1.alloc (.cells (planCells 1 4 1 (.slice LA 1 lc) 1 3 1 4 8 12) 25 (0, 0))) _
  have HRD := Aside0.mk (RD.of_C (S := fun _ => False) HC.out hb2 (fun k h => h.elim))
  replace BEL := Aside0.mk (BEL.out.trans (hb2.mono BEL.out.size))
  clear hb2 HC
  generalize w1.alloc _ = w2 at HRD BEL ⊢
  refine (build_calls none (fun _ => False) [] 1 4 1 3 1 4 8 12 LA 1 lc A c [z256] w2 (fun k h => h) (Tab.below HT.out (BEL.out.mono (by have := HT.out.1; omega))) HRD.out (fun b hb => by rw [List.mem_singleton.1 hb]; exact z256_bytes) (fun b hb => by rw [List.mem_singleton.1 hb]; exact List.length_replicate ..) (by decide) (by decide) (by decide) (by decide) (by decide) (by decide) (by rw [up1]; rfl)).mono ?_
  rw [up1]
  rintro e w3 ⟨RA, rc, gs, S', rfl, hR, -, -, hO, hH⟩
  obtain ⟨gn, rfl⟩ : ∃ g, gs = [g] := List.length_eq_one_iff.1 hR.len.symm
  have HR := Aside0.mk hR
  have hb3 : Below w2.heap.size w2 w3 := hO.to_below (fun k h => h.elim)
  replace HRD := Aside0.mk (HRD.out.step (Kept.of_below hb3 _) (fun k h => .inl h) : RD w3 (fun _ => False) A [z256])
  replace BEL := Aside0.mk (BEL.out.trans (hb3.mono BEL.out.size))
  clear hR hO hH hb3
  rw [show dig ([node1], (2 : Int), [node1]).snd.fst (([node1], (2 : Int), [node1]).snd.snd.getD 0 []) = dig 2 node1 from rfl, show [gn].length = 1 from rfl]
  rw [show [gn].length = 1 from rfl] at HR
  have HDL := Aside0.mk (dig_length 2 node1)
  obtain ⟨R, hD⟩ : ∃ D, dig 2 node1 = D := ⟨_, rfl⟩
  rw [hD] at HDL ⊢
  have HDR := Aside0.mk hD
  clear hD
  have HI : Aside0 ((Tryd.prog.info? 29).map (·.size) = some (nums .u8 R).toArray.size) := ⟨by rw [Tryd.infoD, List.size_toArray, nums, List.length_map, HDL.out]⟩
  have HO : Aside0 ((nums .u8 R).toArray.all (·.oneCell') = true) := ⟨by simp [nums, Value.oneCell']⟩
  have HZ : Aside0 ((nums .u8 (List.replicate 32 0)).toArray.size = (nums .u8 R).toArray.size) := ⟨by rw [List.size_toArray, List.size_toArray, nums, nums, List.length_map, List.length_map, HDL.out, List.length_replicate]⟩
  have ST : ∀ (W : World) (D : List Int), Below W.heap.size W ((W.alloc (.cells (nums .u8 (List.replicate 32 0)).toArray 29 (0, 0))).setRow W.heap.size (nums .u8 D).toArray) := fun W D => (below_alloc (Below.refl _ _) _).trans ⟨rfl, rfl, rfl, by rw [setRow_size]; exact Nat.le_refl _, fun k hk => setRow_other _ _ _ _ (by omega)⟩
  have SB : ∀ (W : World) (D : List Int), ((W.alloc (.cells (nums .u8 (List.replicate 32 0)).toArray 29 (0, 0))).setRow W.heap.size (nums .u8 D).toArray).heap[W.heap.size]? = some (.cells (nums .u8 D).toArray 29 (0, 0)) := fun W D => setRow_heap _ W.heap.size _ _ _ _ (blk_new W _)
  replace ST := Aside0.mk ST
  replace SB := Aside0.mk SB
  obtain ⟨ad, A1, c1, rfl, hc1, hCW⟩ := HRD.out.2 0 (by decide)
  rw [show [z256].getD 0 [] = z256 from rfl, show z256.length = 256 from List.length_replicate .., add_zero_] at hCW
  have HCW := Aside0.mk hCW
  have HC1 : Aside0 (256 ≤ c1) := ⟨by have h := hc1; rw [show [z256].getD 0 [] = z256 from rfl, show z256.length = 256 from List.length_replicate ..] at h; exact h⟩
  clear hCW hc1 HRD
  go_wp2_with (first
    | (refine wpList_store_row rfl 29 (.tmp 4) (.tmp 16) rfl w3.heap.size (nums .u8 R).toArray rfl rfl 29 (nums .u8 (List.replicate 32 0)).toArray (blk_new _ _) HI.out HZ.out HO.out ?_
       have hb4 := ST.out w3 R
       have G4 := Aside0.mk (SB.out w3 R)
       replace HR := Aside0.mk (HR.out.below hb4)
       replace BEL := Aside0.mk (BEL.out.trans (hb4.mono BEL.out.size))
       have hcell := (HCW.out _ (Kept.of_below hb4 _)).2
       have HC4 := Aside0.mk (HCW.out _ (Kept.of_below hb4 _)).1
       clear hb4
       obtain ⟨g4, hg4⟩ : ∃ bx, w3.heap.size = bx := ⟨_, rfl⟩
       rw [hg4] at G4 HR BEL hcell HC4 ⊢
       clear hg4
       change wpList _ _ _ _ _ ((w3.alloc (.cells (nums .u8 (List.replicate 32 0)).toArray 29 (0, 0))).setRow g4 (nums .u8 R).toArray)
       generalize (w3.alloc (.cells (nums .u8 (List.replicate 32 0)).toArray 29 (0, 0))).setRow g4 (nums .u8 R).toArray = w4 at G4 HR BEL hcell HC4 ⊢))
  have hdg := refdigest_calls 1 A1 c1 z256 w4 (by rw [show z256.length = 256 from List.length_replicate ..]; exact HC4.out) (by rw [show z256.length = 256 from List.length_replicate ..]; exact HC1.out) z256_bytes (by rw [show z256.length = 256 from List.length_replicate ..]; decide)
  rw [show z256.length = 256 from List.length_replicate ..] at hdg
  refine hdg.mono ?_
  rintro e w5 ⟨rfl, hb5⟩
  clear hdg hcell
  have HEL := Aside0.mk (dig_length 1 z256)
  obtain ⟨E, hE⟩ : ∃ D, dig 1 z256 = D := ⟨_, rfl⟩
  rw [hE] at HEL ⊢
  have HER := Aside0.mk hE
  clear hE
  replace HR := Aside0.mk (HR.out.below hb5)
  replace G4 := Aside0.mk (blk_below G4.out hb5)
  replace BEL := Aside0.mk (BEL.out.trans (hb5.mono BEL.out.size))
  clear hb5 HC4 HC1 HCW
  have HJ : Aside0 ((Tryd.prog.info? 29).map (·.size) = some (nums .u8 E).toArray.size) := ⟨by rw [Tryd.infoD, List.size_toArray, nums, List.length_map, HEL.out]⟩
  have HP : Aside0 ((nums .u8 E).toArray.all (·.oneCell') = true) := ⟨by simp [nums, Value.oneCell']⟩
  have HY : Aside0 ((nums .u8 (List.replicate 32 0)).toArray.size = (nums .u8 E).toArray.size) := ⟨by rw [List.size_toArray, List.size_toArray, nums, nums, List.length_map, List.length_map, HEL.out, List.length_replicate]⟩
  go_wp2_with (first
    | (refine wpList_store_row rfl 29 (.tmp 6) (.tmp 21) rfl w5.heap.size (nums .u8 E).toArray rfl rfl 29 (nums .u8 (List.replicate 32 0)).toArray (blk_new _ _) HJ.out HY.out HP.out ?_
       have hb6 := ST.out w5 E
       have G6 := Aside0.mk (SB.out w5 E)
       replace HR := Aside0.mk (HR.out.below hb6)
       replace G4 := Aside0.mk (blk_below G4.out hb6)
       replace BEL := Aside0.mk (BEL.out.trans (hb6.mono BEL.out.size))
       clear hb6
       obtain ⟨g6, hg6⟩ : ∃ bx, w5.heap.size = bx := ⟨_, rfl⟩
       rw [hg6] at G6 HR BEL G4 ⊢
       clear hg6
       change wpList _ _ _ _ _ ((w5.alloc (.cells (nums .u8 (List.replicate 32 0)).toArray 29 (0, 0))).setRow g6 (nums .u8 E).toArray)
       generalize (w5.alloc (.cells (nums .u8 (List.replicate 32 0)).toArray 29 (0, 0))).setRow g6 (nums .u8 E).toArray = w6 at G4 G6 HR BEL ⊢))
  obtain ⟨og, eo, hcel⟩ := rows_cell HR.out (i := 0) (g := gn) rfl
  subst eo
  have HCEL := Aside0.mk hcel
  clear hcel
  have SAME : Aside0 (node1.take 32 = E) := ⟨by rw [← HER.out]; rfl⟩
  refine start_ (n := 32) (S := fun w' => HRows w' (.slice (some ⟨og, 0, none⟩) 1 rc) [gn] [node1] ∧ w'.heap[g4]? = some (.cells (nums .u8 R).toArray 29 (0, 0)) ∧ w'.heap[g6]? = some (.cells (nums .u8 E).toArray 29 (0, 0))) (ds := []) #[false, false, false, false, false, false, false, false, false, false, false, false, false, false, false, false, false, false, false, false, false, false, false, false, false, false, false, false, false, false, false, false] (by kernel_rfl) rfl rfl ⟨HR.out.below (below_drew1 (Below.refl _ _)), blk_drew G4.out, blk_drew G6.out⟩ (fun hHeld => ?_)
  have HH := Aside0.mk hHeld
  clear hHeld HR G4 G6
  replace BEL := Aside0.mk (below_drew1 BEL.out)
  generalize w6.drew = w7 at HH BEL ⊢
  refine pure_ (i := 0) (N := some 22) (v := ?_) (a' := ?_) #[true, false, false, false, false, false, false, false, false, false, false, false, false, false, false, false, false, false, false, false, false, false, false, false, false, false, false, false, false, false, false, false] rfl rfl (by kernel_rfl) (fun _ _ _ h => h) (Or.inl ⟨by rfl, ?_⟩) ?_ ?_
  rotate_left
  · intro w'
    go_simp
    with_reducible rfl
  rotate_left
  · simp only [Act.put, List.setIfInBounds_toArray, List.set_cons_zero, List.set_cons_succ, i64_w, i32_w]
    rfl
  refine pure_ (i := 1) (N := some 23) (v := ?_) (a' := ?_) #[true, true, false, false, false, false, false, false, false, false, false, false, false, false, false, false, false, false, false, false, false, false, false, false, false, false, false, false, false, false, false, false] rfl rfl (by kernel_rfl) (fun _ _ _ h => h) (Or.inl ⟨by rfl, ?_⟩) ?_ ?_
  rotate_left
  · intro w'
    go_simp
    with_reducible rfl
  rotate_left
  · simp only [Act.put, List.setIfInBounds_toArray, List.set_cons_zero, List.set_cons_succ, i64_w, i32_w]
    rfl
  refine pure_ (i := 2) (N := some 24) (v := ?_) (a' := ?_) #[true, true, true, false, false, false, false, false, false, false, false, false, false, false, false, false, false, false, false, false, false, false, false, false, false, false, false, false, false, false, false, false] rfl rfl (by kernel_rfl) (fun _ _ _ h => h) (Or.inl ⟨by rfl, ?_⟩) ?_ ?_
  rotate_left
  · intro w'
    go_simp
    with_reducible rfl
  rotate_left
  · simp only [Act.put, List.setIfInBounds_toArray, List.set_cons_zero, List.set_cons_succ, i64_w, i32_w]
    rfl
  refine pure_ (i := 3) (N := some 25) (v := ?_) (a' := ?_) #[true, true, true, true, false, false, false, false, false, false, false, false, false, false, false, false, false, false, false, false, false, false, false, false, false, false, false, false, false, false, false, false] rfl rfl (by kernel_rfl) (fun _ _ _ h => h) (Or.inl ⟨by rfl, ?_⟩) ?_ ?_
  rotate_left
  · intro w'
    go_simp
    with_reducible rfl
  rotate_left
  · simp only [Act.put, List.setIfInBounds_toArray, List.set_cons_zero, List.set_cons_succ, i64_w, i32_w]
    rfl
  refine pure_ (i := 4) (N := some 26) (v := ?_) (a' := ?_) #[true, true, true, true, true, false, false, false, false, false, false, false, false, false, false, false, false, false, false, false, false, false, false, false, false, false, false, false, false, false, false, false] rfl rfl (by kernel_rfl) (fun _ _ _ h => h) (Or.inl ⟨by rfl, ?_⟩) ?_ ?_
  rotate_left
  · intro w'
    go_simp
    with_reducible rfl
  rotate_left
  · simp only [Act.put, List.setIfInBounds_toArray, List.set_cons_zero, List.set_cons_succ, i64_w, i32_w]
    rfl
  refine pure_ (i := 5) (N := some 27) (v := ?_) (a' := ?_) #[true, true, true, true, true, true, false, false, false, false, false, false, false, false, false, false, false, false, false, false, false, false, false, false, false, false, false, false, false, false, false, false] rfl rfl (by kernel_rfl) (fun _ _ _ h => h) (Or.inl ⟨by rfl, ?_⟩) ?_ ?_
  rotate_left
  · intro w'
    go_simp
    with_reducible rfl
  rotate_left
  · simp only [Act.put, List.setIfInBounds_toArray, List.set_cons_zero, List.set_cons_succ, i64_w, i32_w]
    rfl
  refine pure_ (i := 6) (N := some 28) (v := ?_) (a' := ?_) #[true, true, true, true, true, true, true, false, false, false, false, false, false, false, false, false, false, false, false, false, false, false, false, false, false, false, false, false, false, false, false, false] rfl rfl (by kernel_rfl) (fun _ _ _ h => h) (Or.inl ⟨by rfl, ?_⟩) ?_ ?_
  rotate_left
  · intro w'
    go_simp
    with_reducible rfl
  rotate_left
  · simp only [Act.put, List.setIfInBounds_toArray, List.set_cons_zero, List.set_cons_succ, i64_w, i32_w]
    rfl
  refine pure_ (i := 7) (N := some 29) (v := ?_) (a' := ?_) #[true, true, true, true, true, true, true, true, false, false, false, false, false, false, false, false, false, false, false, false, false, false, false, false, false, false, false, false, false, false, false, false] rfl rfl (by kernel_rfl) (fun _ _ _ h => h) (Or.inl ⟨by rfl, ?_⟩) ?_ ?_
  rotate_left
  · intro w'
    go_simp
    with_reducible rfl
  rotate_left
  · simp only [Act.put, List.setIfInBounds_toArray, List.set_cons_zero, List.set_cons_succ, i64_w, i32_w]
    rfl
  refine pure_ (i := 8) (N := some 30) (v := ?_) (a' := ?_) #[true, true, true, true, true, true, true, true, true, false, false, false, false, false, false, false, false, false, false, false, false, false, false, false, false, false, false, false, false, false, false, false] rfl rfl (by kernel_rfl) (fun _ _ _ h => h) (Or.inl ⟨by rfl, ?_⟩) ?_ ?_
  rotate_left
  · intro w'
    go_simp
    with_reducible rfl
  rotate_left
  · simp only [Act.put, List.setIfInBounds_toArray, List.set_cons_zero, List.set_cons_succ, i64_w, i32_w]
    rfl
  refine pure_ (i := 9) (N := some 31) (v := ?_) (a' := ?_) #[true, true, true, true, true, true, true, true, true, true, false, false, false, false, false, false, false, false, false, false, false, false, false, false, false, false, false, false, false, false, false, false] rfl rfl (by kernel_rfl) (fun _ _ _ h => h) (Or.inl ⟨by rfl, ?_⟩) ?_ ?_
  rotate_left
  · intro w'
    go_simp
    with_reducible rfl
  rotate_left
  · simp only [Act.put, List.setIfInBounds_toArray, List.set_cons_zero, List.set_cons_succ, i64_w, i32_w]
    rfl
  refine take_ (i := 10) (N := some 32) (v := ?_) (a' := ?_) #[true, true, true, true, true, true, true, true, true, true, true, false, false, false, false, false, false, false, false, false, false, false, false, false, false, false, false, false, false, false, false, false] rfl rfl (by kernel_rfl) (fun _ _ _ h => h) (Or.inl ⟨by rfl, ?_⟩) HH.out ?_ ?_
  rotate_left
  · rintro w' ⟨s0, s1, s2⟩
    have z0 : w'.cell? ⟨og, 0, none⟩ = some (.slice (some ⟨gn, 0, none⟩) 256 256) := HCEL.out w' s0
    clear s0 s1 s2
    go_simp
    with_reducible rfl
  rotate_left
  · simp only [Act.put, List.setIfInBounds_toArray, List.set_cons_zero, List.set_cons_succ, i64_w, i32_w]
    rfl
  refine pure_ (i := 11) (N := some 33) (v := ?_) (a' := ?_) #[true, true, true, true, true, true, true, true, true, true, true, true, false, false, false, false, false, false, false, false, false, false, false, false, false, false, false, false, false, false, false, false] rfl rfl (by kernel_rfl) (fun _ _ _ h => h) (Or.inl ⟨by rfl, ?_⟩) ?_ ?_
  rotate_left
  · intro w'
    go_simp
    with_reducible rfl
  rotate_left
  · simp only [Act.put, List.setIfInBounds_toArray, List.set_cons_zero, List.set_cons_succ, i64_w, i32_w]
    rfl
  refine pure_ (i := 12) (N := some 34) (v := ?_) (a' := ?_) #[true, true, true, true, true, true, true, true, true, true, true, true, true, false, false, false, false, false, false, false, false, false, false, false, false, false, false, false, false, false, false, false] rfl rfl (by kernel_rfl) (fun _ _ _ h => h) (Or.inl ⟨by rfl, ?_⟩) ?_ ?_
  rotate_left
  · intro w'
    go_simp
    with_reducible rfl
  rotate_left
  · simp only [Act.put, List.setIfInBounds_toArray, List.set_cons_zero, List.set_cons_succ, i64_w, i32_w]
    rfl
  refine one_ (i := 13) (N := some 35) #[true, true, true, true, true, true, true, true, true, true, true, true, true, true, false, false, false, false, false, false, false, false, false, false, false, false, false, false, false, false, false, false] rfl rfl (by kernel_rfl) (by decide) (fun K hK => ?_)
  refine goes_ Tryd.func24 (by kernel_rfl) rfl #[.slice (some ⟨gn, 0, none⟩) 32 256, .slice (some ⟨g6, 0, none⟩) 32 32] (by rfl) rfl rfl (by simp only [List.map_toArray, List.map_cons, List.map_nil]; rfl) ?_
  have hsm := thimbleref02_Same.calls (E.length + 1) (some ⟨gn, 0, none⟩) 256 E (some ⟨g6, 0, none⟩) 32 E true w7 (by have h := C_pre 32 (HH.out.1.blk 0 gn rfl) (by rw [HH.out.1.at_ (j := 0) (Nat.zero_lt_one)]; decide) (by rw [HH.out.1.at_ (j := 0) (Nat.zero_lt_one)]; decide); rw [show [node1].getD 0 [] = node1 from rfl, SAME.out] at h; exact h) (by rw [HEL.out]; decide) (C_blk HH.out.2.2 (by rw [HEL.out]; decide)) (by rw [HEL.out]; decide) (by rw [same_f E E (by rw [HEL.out]; decide)]; simp)
  rw [HEL.out] at hsm
  refine hsm.mono ?_
  clear hsm
  rintro e w8 ⟨rfl, nd, rfl⟩
  refine ⟨_, rfl, ?_⟩
  have hb8 := pw_below_drewN (Below.refl w7.heap.size w7) nd
  refine hK.out _ _ ⟨HH.out.1.below hb8, blk_below HH.out.2.1 hb8, blk_below HH.out.2.2 hb8⟩ (fun hHeld => ?_)
  clear hK K
  refine norm_ (a' := ?_) ?_ ?_
  rotate_left
  · show Act.put _ (some 35) _ = _
    simp only [Act.put, List.setIfInBounds_toArray, List.set_cons_zero, List.set_cons_succ, i64_w, i32_w]
    rfl
  replace HH := Aside0.mk hHeld
  clear hHeld
  replace BEL := Aside0.mk (BEL.out.trans (hb8.mono BEL.out.size))
  clear hb8
  generalize w7.drewN nd = w8 at HH BEL ⊢
  refine pure_ (i := 14) (N := some 36) (v := ?_) (a' := ?_) #[true, true, true, true, true, true, true, true, true, true, true, true, true, true, true, false, false, false, false, false, false, false, false, false, false, false, false, false, false, false, false, false] rfl rfl (by kernel_rfl) (fun _ _ _ h => h) (Or.inl ⟨by rfl, ?_⟩) ?_ ?_
  rotate_left
  · intro w'
    go_simp
    with_reducible rfl
  rotate_left
  · simp only [Act.put, List.setIfInBounds_toArray, List.set_cons_zero, List.set_cons_succ, i64_w, i32_w]
    rfl
  refine pure_ (i := 15) (N := some 37) (v := ?_) (a' := ?_) #[true, true, true, true, true, true, true, true, true, true, true, true, true, true, true, true, false, false, false, false, false, false, false, false, false, false, false, false, false, false, false, false] rfl rfl (by kernel_rfl) (fun _ _ _ h => h) (Or.inl ⟨by rfl, ?_⟩) ?_ ?_
  rotate_left
  · intro w'
    go_simp
    with_reducible rfl
  rotate_left
  · simp only [Act.put, List.setIfInBounds_toArray, List.set_cons_zero, List.set_cons_succ, i64_w, i32_w]
    rfl
  refine take_ (i := 16) (N := some 38) (v := ?_) (a' := ?_) #[true, true, true, true, true, true, true, true, true, true, true, true, true, true, true, true, true, false, false, false, false, false, false, false, false, false, false, false, false, false, false, false] rfl rfl (by kernel_rfl) (fun _ _ _ h => h) (Or.inl ⟨by rfl, ?_⟩) HH.out ?_ ?_
  rotate_left
  · rintro w' ⟨s0, s1, s2⟩
    refine ev_load_row 29 (.tmp 4) ?_ g4 ?_ 29 (nums .u8 R).toArray (0, 0) _ s1 Tryd.underlying29 rfl HI.out <;> rfl
  rotate_left
  · simp only [Act.put, List.setIfInBounds_toArray, List.set_cons_zero, List.set_cons_succ, i64_w, i32_w]
    rfl
  refine pure_ (i := 17) (N := some 39) (v := ?_) (a' := ?_) #[true, true, true, true, true, true, true, true, true, true, true, true, true, true, true, true, true, true, false, false, false, false, false, false, false, false, false, false, false, false, false, false] rfl rfl (by kernel_rfl) (fun _ _ _ h => h) (Or.inl ⟨by rfl, ?_⟩) ?_ ?_
  rotate_left
  · intro w'
    go_simp
    with_reducible rfl
  rotate_left
  · simp only [Act.put, List.setIfInBounds_toArray, List.set_cons_zero, List.set_cons_succ, i64_w, i32_w]
    rfl
  refine pure_ (i := 18) (N := some 40) (v := ?_) (a' := ?_) #[true, true, true, true, true, true, true, true, true, true, true, true, true, true, true, true, true, true, true, false, false, false, false, false, false, false, false, false, false, false, false, false] rfl rfl (by kernel_rfl) (fun _ _ _ h => h) (Or.inl ⟨by rfl, ?_⟩) ?_ ?_
  rotate_left
  · intro w'
    go_simp
    with_reducible rfl
  rotate_left
  · simp only [Act.put, List.setIfInBounds_toArray, List.set_cons_zero, List.set_cons_succ, i64_w, i32_w]
    rfl
  refine take_ (i := 19) (N := some 41) (v := ?_) (a' := ?_) #[true, true, true, true, true, true, true, true, true, true, true, true, true, true, true, true, true, true, true, true, false, false, false, false, false, false, false, false, false, false, false, false] rfl rfl (by kernel_rfl) (fun _ _ _ h => h) (Or.inl ⟨by rfl, ?_⟩) HH.out ?_ ?_
  rotate_left
  · rintro w' ⟨s0, s1, s2⟩
    have z0 : w'.cell? ⟨og, 0, none⟩ = some (.slice (some ⟨gn, 0, none⟩) 256 256) := HCEL.out w' s0
    clear s0 s1 s2
    go_simp
    with_reducible rfl
  rotate_left
  · simp only [Act.put, List.setIfInBounds_toArray, List.set_cons_zero, List.set_cons_succ, i64_w, i32_w]
    rfl
  refine one_ (i := 20) (N := some 42) #[true, true, true, true, true, true, true, true, true, true, true, true, true, true, true, true, true, true, true, true, true, false, false, false, false, false, false, false, false, false, false, false] rfl rfl (by kernel_rfl) (by decide) (fun K hK => ?_)
  refine goes_ Tryd.func23 (by kernel_rfl) rfl #[.int .i64 2, .slice (some ⟨gn, 0, none⟩) 256 256] (by rfl) rfl rfl (by simp only [List.map_toArray, List.map_cons, List.map_nil]; rfl) ?_
  have hnl : node1.length = 256 := HH.out.1.at_ (j := 0) (Nat.zero_lt_one)
  have hdg := refdigest_calls 2 (some ⟨gn, 0, none⟩) 256 node1 w8 (C_blk (HH.out.1.blk 0 gn rfl) (by show node1.length ≤ _; rw [hnl]; decide)) (by rw [hnl]; exact Nat.le_refl _) (splice_bytes z256_bytes (dig_bytes _ _)) (by rw [hnl]; decide)
  rw [hnl] at hdg
  refine hdg.mono ?_
  clear hdg hnl
  rintro e w9 ⟨rfl, hb9⟩
  rw [HDR.out]
  refine ⟨_, rfl, ?_⟩
  refine hK.out _ _ ⟨HH.out.1.below hb9, blk_below HH.out.2.1 hb9, blk_below HH.out.2.2 hb9⟩ (fun hHeld => ?_)
  clear hK K
  refine norm_ (a' := ?_) ?_ ?_
  rotate_left
  · show Act.put _ (some 42) _ = _
    simp only [Act.put, List.setIfInBounds_toArray, List.set_cons_zero, List.set_cons_succ, i64_w, i32_w]
    rfl
  replace HH := Aside0.mk hHeld
  clear hHeld
  replace BEL := Aside0.mk (BEL.out.trans (hb9.mono BEL.out.size))
  clear hb9
  refine pure_ (i := 21) (N := some 43) (v := ?_) (a' := ?_) #[true, true, true, true, true, true, true, true, true, true, true, true, true, true, true, true, true, true, true, true, true, true, false, false, false, false, false, false, false, false, false, false] rfl rfl (by kernel_rfl) (fun _ _ _ h => h) (Or.inl ⟨by rfl, ?_⟩) ?_ ?_
  rotate_left
  · intro w'
    refine ev_same32 R HDL.out w' (.tmp 38) (.tmp 42) 29 ?_ ?_ ?_ <;> rfl
  rotate_left
  · simp only [Act.put, List.setIfInBounds_toArray, List.set_cons_zero, List.set_cons_succ, i64_w, i32_w]
    rfl
  refine pure_ (i := 22) (N := some 44) (v := ?_) (a' := ?_) #[true, true, true, true, true, true, true, true, true, true, true, true, true, true, true, true, true, true, true, true, true, true, true, false, false, false, false, false, false, false, false, false] rfl rfl (by kernel_rfl) (fun _ _ _ h => h) (Or.inl ⟨by rfl, ?_⟩) ?_ ?_
  rotate_left
  · intro w'
    go_simp
    with_reducible rfl
  rotate_left
  · simp only [Act.put, List.setIfInBounds_toArray, List.set_cons_zero, List.set_cons_succ, i64_w, i32_w]
    rfl
  refine pure_ (i := 23) (N := some 45) (v := ?_) (a' := ?_) #[true, true, true, true, true, true, true, true, true, true, true, true, true, true, true, true, true, true, true, true, true, true, true, true, false, false, false, false, false, false, false, false] rfl rfl (by kernel_rfl) (fun _ _ _ h => h) (Or.inl ⟨by rfl, ?_⟩) ?_ ?_
  rotate_left
  · intro w'
    go_simp
    with_reducible rfl
  rotate_left
  · simp only [Act.put, List.setIfInBounds_toArray, List.set_cons_zero, List.set_cons_succ, i64_w, i32_w]
    rfl
  refine pure_ (i := 24) (N := some 46) (v := ?_) (a' := ?_) #[true, true, true, true, true, true, true, true, true, true, true, true, true, true, true, true, true, true, true, true, true, true, true, true, true, false, false, false, false, false, false, false] rfl rfl (by kernel_rfl) (fun _ _ _ h => h) (Or.inl ⟨by rfl, ?_⟩) ?_ ?_
  rotate_left
  · intro w'
    go_simp
    with_reducible rfl
  rotate_left
  · simp only [Act.put, List.setIfInBounds_toArray, List.set_cons_zero, List.set_cons_succ, i64_w, i32_w]
    rfl
  refine pure_ (i := 25) (N := some 47) (v := ?_) (a' := ?_) #[true, true, true, true, true, true, true, true, true, true, true, true, true, true, true, true, true, true, true, true, true, true, true, true, true, true, false, false, false, false, false, false] rfl rfl (by kernel_rfl) (fun _ _ _ h => h) (Or.inl ⟨by rfl, ?_⟩) ?_ ?_
  rotate_left
  · intro w'
    go_simp
    with_reducible rfl
  rotate_left
  · simp only [Act.put, List.setIfInBounds_toArray, List.set_cons_zero, List.set_cons_succ, i64_w, i32_w]
    rfl
  refine take_ (i := 26) (N := some 48) (v := ?_) (a' := ?_) #[true, true, true, true, true, true, true, true, true, true, true, true, true, true, true, true, true, true, true, true, true, true, true, true, true, true, true, false, false, false, false, false] rfl rfl (by kernel_rfl) (fun _ _ _ h => h) (Or.inl ⟨by rfl, ?_⟩) HH.out ?_ ?_
  rotate_left
  · rintro w' ⟨s0, s1, s2⟩
    have z0 : w'.cell? ⟨og, 0, none⟩ = some (.slice (some ⟨gn, 0, none⟩) 256 256) := HCEL.out w' s0
    clear s0 s1 s2
    go_simp
    with_reducible rfl
  rotate_left
  · simp only [Act.put, List.setIfInBounds_toArray, List.set_cons_zero, List.set_cons_succ, i64_w, i32_w]
    rfl
  refine pure_ (i := 27) (N := some 49) (v := ?_) (a' := ?_) #[true, true, true, true, true, true, true, true, true, true, true, true, true, true, true, true, true, true, true, true, true, true, true, true, true, true, true, true, false, false, false, false] rfl rfl (by kernel_rfl) (fun _ _ _ h => h) (Or.inl ⟨by rfl, ?_⟩) ?_ ?_
  rotate_left
  · intro w'
    go_simp
    with_reducible rfl
  rotate_left
  · simp only [Act.put, List.setIfInBounds_toArray, List.set_cons_zero, List.set_cons_succ, i64_w, i32_w]
    rfl
  refine take_ (i := 28) (N := some 50) (v := ?_) (a' := ?_) #[true, true, true, true, true, true, true, true, true, true, true, true, true, true, true, true, true, true, true, true, true, true, true, true, true, true, true, true, true, false, false, false] rfl rfl (by kernel_rfl) (fun _ _ _ h => h) (Or.inl ⟨by rfl, ?_⟩) HH.out ?_ ?_
  rotate_left
  · rintro w' ⟨s0, s1, s2⟩
    have z1 : w'.cell? ⟨gn, 32, none⟩ = some (.int .u8 0) := (blk_cell (s0.blk 0 gn rfl) 32).trans rfl
    clear s0 s1 s2
    go_simp
    with_reducible rfl
  rotate_left
  · simp only [Act.put, List.setIfInBounds_toArray, List.set_cons_zero, List.set_cons_succ, i64_w, i32_w]
    rfl
  refine pure_ (i := 29) (N := some 51) (v := ?_) (a' := ?_) #[true, true, true, true, true, true, true, true, true, true, true, true, true, true, true, true, true, true, true, true, true, true, true, true, true, true, true, true, true, true, false, false] rfl rfl (by kernel_rfl) (fun _ _ _ h => h) (Or.inl ⟨by rfl, ?_⟩) ?_ ?_
  rotate_left
  · intro w'
    go_simp
    with_reducible rfl
  rotate_left
  · simp only [Act.put, List.setIfInBounds_toArray, List.set_cons_zero, List.set_cons_succ, i64_w, i32_w]
    rfl
  refine pure_ (i := 30) (N := some 52) (v := ?_) (a' := ?_) #[true, true, true, true, true, true, true, true, true, true, true, true, true, true, true, true, true, true, true, true, true, true, true, true, true, true, true, true, true, true, true, false] rfl rfl (by kernel_rfl) (fun _ _ _ h => h) (Or.inl ⟨by rfl, ?_⟩) ?_ ?_
  rotate_left
  · intro w'
    go_simp
    with_reducible rfl
  rotate_left
  · simp only [Act.put, List.setIfInBounds_toArray, List.set_cons_zero, List.set_cons_succ, i64_w, i32_w]
    rfl
  refine pure_ (i := 31) (N := some 0) (v := ?_) (a' := ?_) #[true, true, true, true, true, true, true, true, true, true, true, true, true, true, true, true, true, true, true, true, true, true, true, true, true, true, true, true, true, true, true, true] rfl rfl (by kernel_rfl) (fun _ _ _ h => h) (Or.inl ⟨by rfl, ?_⟩) ?_ ?_
  rotate_left
  · intro w'
    go_simp
    with_reducible rfl
  rotate_left
  · simp only [Act.put, List.setIfInBounds_toArray, List.set_cons_zero, List.set_cons_succ, i64_w, i32_w]
    rfl
  refine done_ (by kernel_rfl) ?_
  go_wp2
  go_ret
  exact ⟨rfl, BEL.out⟩
end Go.Proofs.YtgmdgkanfhoahaaDoor.Awake
