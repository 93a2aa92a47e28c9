/- The walk of the law PlanParents: where the plan is made and both answers to each of the two blocks are the same, and the example holds, the Go call returns true, and nothing that was there has changed. Conditions: those of the Lean functions, typed as hypotheses. -/
import Derived.Test.YtgmdgkanfhoahaaHMade
import Derived.Outline
namespace Go.Proofs.Ytgmdgkanfhoahaa.HLawPa
open Go.RowKit Go.Proofs.Ytgmdgkanfhoahaa.PPath Go.Proofs.Ytgmdgkanfhoahaa.PNeed Go.Proofs.Ytgmdgkanfhoahaa.PSameInts Go.Proofs.Ytgmdgkanfhoahaa.PPick Go.Proofs.Ytgmdgkanfhoahaa.Pparts Go.Proofs.Ytgmdgkanfhoahaa.HOf Go.Proofs.Ytgmdgkanfhoahaa.HNeed Go.Proofs.Ytgmdgkanfhoahaa.HMade Go.Proofs.YtgmdgkanfhoahaaW.PrintWords Go.Proofs.YtgmdgkanfhoahaaW.PrintLast Go.Proofs.YtgmdgkanfhoahaaW.PrintMore
set_option linter.unusedVariables false
set_option linter.unusedSimpArgs false

theorem eqA29 (d : Nat) (w : World) (x0 y0 : Int) (x1 y1 : Int) :
    (Op.equalIn (d + 2) 29 (.agg #[.int .i64 x0, .int .i64 x1]) (.agg #[.int .i64 y0, .int .i64 y1])).run Try.prog w = .ok (x0 == y0 && (x1 == y1)) w := by
  refine eqA_of Try.underlying29 (by kernel_rfl) ?_
  refine eqf_cons (by rfl) (by go_simp; rfl) (by go_simp; rfl) (by go_simp) ?_
  exact eqf_last (by rfl) (by go_simp; rfl) (by go_simp; rfl) (by go_simp)
attribute [local go_sem high] eqA29

def T12 : Bool × List (List Nat × List Nat) := (true, [([], []), ([0], [0]), ([], []), ([2], [2]), ([3], [3]), ([1, 4], [1, 4]), ([5, 1], [5]), ([6, 6], [6]), ([6, 7], [6, 7]), ([8, 7, 0, 1, 2, 3, 4, 5, 6, 7, 8], [8])])
def B12 : List Nat := [0, 1, 0, 4, 12, 31, 63, 127, 255, 511]
theorem tab12 : rtab .any (opsOf Try.f3 12) = T12 := by kernel_rfl
theorem bits12 : waitsOk T12.2 B12 = true := by kernel_rfl
set_option maxHeartbeats 2000000 in
set_option maxRecDepth 100000 in
theorem parents_calls (k : Nat) (a0 a1 a2 : Int) (p0 p1 p2 : Int) (l : List Int) (p4 p5 p6 p7 p8 p9 b : Int) (x0 y0 e0 x1 y1 e1 : Int) (w : World)
    (hm : thimblelaw16_made.f k a0 a1 = some (p0, p1, p2, l, p4, p5, p6, p7, p8, p9, true)) (hb : thimbleref02_Pick.f a2 p9 = some b)
    (h0 : plan_Parent.f k p0 p1 p2 l p4 p5 p6 p7 p8 p9 a2 = some (x0, y0, e0)) (g0 : thimbleref16_Parent.f k p0 p1 p2 l p4 p5 p6 p7 p8 p9 a2 = some (x0, y0, e0))
    (h1 : plan_Parent.f k p0 p1 p2 l p4 p5 p6 p7 p8 p9 b = some (x1, y1, e1)) (g1 : thimbleref16_Parent.f k p0 p1 p2 l p4 p5 p6 p7 p8 p9 b = some (x1, y1, e1))
    (ht : plan_Top.f p0 p1 p2 l p4 p5 p6 p7 p8 p9 = some (wrap64 (p5 - 1))) (ha : thimblelaw16_awake.f k = some true) :
    Calls Try.prog 3 #[.int .i64 a0, .int .i64 a1, .int .i64 a2] w fun e w' => e = .returned (.bool true) ∧ Below w.heap.size w w' := by
  have hu24 := Try.underlying24
  have hu29 := Try.underlying29
  have Hm := Aside0.mk hm
  have Hb := Aside0.mk hb
  have H0 := Aside0.mk h0
  have G0 := Aside0.mk g0
  have H1 := Aside0.mk h1
  have G1 := Aside0.mk g1
  have Ht := Aside0.mk ht
  have Ha := Aside0.mk ha
  clear hm hb h0 g0 h1 g1 ht ha
  go_enter Try.func3, Try.ntmps3
  go_wp2_with fail
  refine (thimblelaw16_made.calls k a0 a1 p0 p1 p2 l p4 p5 p6 p7 p8 p9 true _ Hm.out).mono ?_
  rintro e w1 ⟨v, rfl, ho, hb⟩
  obtain ⟨A, c, ev⟩ := Kd.R_slice ho
  subst ev
  have HR := Aside0.mk (Kd.R_reads' ho)
  have HB := Aside0.mk hb
  clear ho hb
  go_wp2_with fail
  refine (thimbleref02_Pick.calls a2 p9 b _ Hb.out).mono ?_
  rintro e w2 ⟨rfl, hd⟩
  have BK : Aside0 (w2.heap[w1.heap.size]? = some (.cells #[.int .i64 p0, .int .i64 p1, .int .i64 p2, .slice A l.length c, .int .i64 p4, .int .i64 p5, .int .i64 p6, .int .i64 p7, .int .i64 p8, .int .i64 p9] 24 (0, 0))) := ⟨blk_below (blk_new _ _) hd.below⟩
  have HB1 : Aside0 (Below w1.heap.size w1 w2) := ⟨below_step (below_alloc (Below.refl _ _) _) hd.below⟩
  have i0 : ∀ w, (Instr.index 28 (.agg #[.int .i64 a2, .int .i64 b]) (.int .i64 0)).run Try.prog w = .ok (.int .i64 a2) w := fun _ => by kernel_rfl
  have i1 : ∀ w, (Instr.index 28 (.agg #[.int .i64 a2, .int .i64 b]) (.int .i64 1)).run Try.prog w = .ok (.int .i64 b) w := fun _ => by kernel_rfl
  clear hd
  have z0 : w2.cell? ⟨w1.heap.size, 0, none⟩ = some (.int .i64 p0) := (blk_cell BK.out 0).trans rfl
  have z1 : w2.cell? ⟨w1.heap.size, 1, none⟩ = some (.int .i64 p1) := (blk_cell BK.out 1).trans rfl
  have z2 : w2.cell? ⟨w1.heap.size, 2, none⟩ = some (.int .i64 p2) := (blk_cell BK.out 2).trans rfl
  have z3 : w2.cell? ⟨w1.heap.size, 3, none⟩ = some (.slice A l.length c) := (blk_cell BK.out 3).trans rfl
  have z4 : w2.cell? ⟨w1.heap.size, 4, none⟩ = some (.int .i64 p4) := (blk_cell BK.out 4).trans rfl
  have z5 : w2.cell? ⟨w1.heap.size, 5, none⟩ = some (.int .i64 p5) := (blk_cell BK.out 5).trans rfl
  have z6 : w2.cell? ⟨w1.heap.size, 6, none⟩ = some (.int .i64 p6) := (blk_cell BK.out 6).trans rfl
  have z7 : w2.cell? ⟨w1.heap.size, 7, none⟩ = some (.int .i64 p7) := (blk_cell BK.out 7).trans rfl
  have z8 : w2.cell? ⟨w1.heap.size, 8, none⟩ = some (.int .i64 p8) := (blk_cell BK.out 8).trans rfl
  have z9 : w2.cell? ⟨w1.heap.size, 9, none⟩ = some (.int .i64 p9) := (blk_cell BK.out 9).trans rfl
  go_wp2
  refine wp_loop_rounds 3 ?_
  rw [rounds_succ]
  go_wp2_with fail
  refine (plan_Parent.calls k p0 p1 p2 A c l p4 p5 p6 p7 p8 p9 a2 x0 y0 e0 _ (Kd.C_below HR.out.2.2 HB1.out) HR.out.2.1 H0.out).mono ?_
  rintro e_ w3 ⟨rfl, hb⟩
  clear z0 z1 z2 z3 z4 z5 z6 z7 z8 z9
  replace BK : Aside0 (w3.heap[w1.heap.size]? = some (.cells #[.int .i64 p0, .int .i64 p1, .int .i64 p2, .slice A l.length c, .int .i64 p4, .int .i64 p5, .int .i64 p6, .int .i64 p7, .int .i64 p8, .int .i64 p9] 24 (0, 0))) := ⟨blk_below BK.out hb⟩
  replace HB1 : Aside0 (Below w1.heap.size w1 w3) := ⟨below_step HB1.out hb⟩
  clear hb
  have hzw3 : w1.heap.size < w3.heap.size := blk_lt BK.out
  have z0 : w3.cell? ⟨w1.heap.size, 0, none⟩ = some (.int .i64 p0) := (blk_cell BK.out 0).trans rfl
  have z1 : w3.cell? ⟨w1.heap.size, 1, none⟩ = some (.int .i64 p1) := (blk_cell BK.out 1).trans rfl
  have z2 : w3.cell? ⟨w1.heap.size, 2, none⟩ = some (.int .i64 p2) := (blk_cell BK.out 2).trans rfl
  have z3 : w3.cell? ⟨w1.heap.size, 3, none⟩ = some (.slice A l.length c) := (blk_cell BK.out 3).trans rfl
  have z4 : w3.cell? ⟨w1.heap.size, 4, none⟩ = some (.int .i64 p4) := (blk_cell BK.out 4).trans rfl
  have z5 : w3.cell? ⟨w1.heap.size, 5, none⟩ = some (.int .i64 p5) := (blk_cell BK.out 5).trans rfl
  have z6 : w3.cell? ⟨w1.heap.size, 6, none⟩ = some (.int .i64 p6) := (blk_cell BK.out 6).trans rfl
  have z7 : w3.cell? ⟨w1.heap.size, 7, none⟩ = some (.int .i64 p7) := (blk_cell BK.out 7).trans rfl
  have z8 : w3.cell? ⟨w1.heap.size, 8, none⟩ = some (.int .i64 p8) := (blk_cell BK.out 8).trans rfl
  have z9 : w3.cell? ⟨w1.heap.size, 9, none⟩ = some (.int .i64 p9) := (blk_cell BK.out 9).trans rfl
  go_wp2_with fail
  refine (thimbleref16_Parent.calls k p0 p1 p2 A c l p4 p5 p6 p7 p8 p9 a2 x0 y0 e0 _ (Kd.C_alloc (Kd.C_below HR.out.2.2 HB1.out) _) HR.out.2.1 G0.out).mono ?_
  rintro e_ w4 ⟨rfl, hb⟩
  clear z0 z1 z2 z3 z4 z5 z6 z7 z8 z9
  have PKw3 : Aside0 (w4.heap[w3.heap.size]? = some (.cells #[.int .i64 x0, .int .i64 y0] 30 (0, 0))) := ⟨blk_below (blk_new _ _) hb⟩
  replace BK : Aside0 (w4.heap[w1.heap.size]? = some (.cells #[.int .i64 p0, .int .i64 p1, .int .i64 p2, .slice A l.length c, .int .i64 p4, .int .i64 p5, .int .i64 p6, .int .i64 p7, .int .i64 p8, .int .i64 p9] 24 (0, 0))) := ⟨blk_below (blk_alloc BK.out _) hb⟩
  replace HB1 : Aside0 (Below w1.heap.size w1 w4) := ⟨below_step (below_alloc HB1.out _) hb⟩
  clear hb
  have hzw4 : w1.heap.size < w4.heap.size := blk_lt BK.out
  have hyw4 : w3.heap.size < w4.heap.size := blk_lt PKw3.out
  have y0_ : w4.cell? ⟨w3.heap.size, 0, none⟩ = some (.int .i64 x0) := (blk_cell PKw3.out 0).trans rfl
  have y1_ : w4.cell? ⟨w3.heap.size, 1, none⟩ = some (.int .i64 y0) := (blk_cell PKw3.out 1).trans rfl
  have z0 : w4.cell? ⟨w1.heap.size, 0, none⟩ = some (.int .i64 p0) := (blk_cell BK.out 0).trans rfl
  have z1 : w4.cell? ⟨w1.heap.size, 1, none⟩ = some (.int .i64 p1) := (blk_cell BK.out 1).trans rfl
  have z2 : w4.cell? ⟨w1.heap.size, 2, none⟩ = some (.int .i64 p2) := (blk_cell BK.out 2).trans rfl
  have z3 : w4.cell? ⟨w1.heap.size, 3, none⟩ = some (.slice A l.length c) := (blk_cell BK.out 3).trans rfl
  have z4 : w4.cell? ⟨w1.heap.size, 4, none⟩ = some (.int .i64 p4) := (blk_cell BK.out 4).trans rfl
  have z5 : w4.cell? ⟨w1.heap.size, 5, none⟩ = some (.int .i64 p5) := (blk_cell BK.out 5).trans rfl
  have z6 : w4.cell? ⟨w1.heap.size, 6, none⟩ = some (.int .i64 p6) := (blk_cell BK.out 6).trans rfl
  have z7 : w4.cell? ⟨w1.heap.size, 7, none⟩ = some (.int .i64 p7) := (blk_cell BK.out 7).trans rfl
  have z8 : w4.cell? ⟨w1.heap.size, 8, none⟩ = some (.int .i64 p8) := (blk_cell BK.out 8).trans rfl
  have z9 : w4.cell? ⟨w1.heap.size, 9, none⟩ = some (.int .i64 p9) := (blk_cell BK.out 9).trans rfl
  go_wp2
  rw [rounds_succ]
  go_wp2_with fail
  refine (plan_Parent.calls k p0 p1 p2 A c l p4 p5 p6 p7 p8 p9 b x1 y1 e1 _ (Kd.C_alloc (Kd.C_below HR.out.2.2 HB1.out) _) HR.out.2.1 H1.out).mono ?_
  rintro e_ w5 ⟨rfl, hb⟩
  clear z0 z1 z2 z3 z4 z5 z6 z7 z8 z9
  replace BK : Aside0 (w5.heap[w1.heap.size]? = some (.cells #[.int .i64 p0, .int .i64 p1, .int .i64 p2, .slice A l.length c, .int .i64 p4, .int .i64 p5, .int .i64 p6, .int .i64 p7, .int .i64 p8, .int .i64 p9] 24 (0, 0))) := ⟨blk_below (blk_alloc BK.out _) hb⟩
  replace HB1 : Aside0 (Below w1.heap.size w1 w5) := ⟨below_step (below_alloc HB1.out _) hb⟩
  clear hb
  have hzw5 : w1.heap.size < w5.heap.size := blk_lt BK.out
  have z0 : w5.cell? ⟨w1.heap.size, 0, none⟩ = some (.int .i64 p0) := (blk_cell BK.out 0).trans rfl
  have z1 : w5.cell? ⟨w1.heap.size, 1, none⟩ = some (.int .i64 p1) := (blk_cell BK.out 1).trans rfl
  have z2 : w5.cell? ⟨w1.heap.size, 2, none⟩ = some (.int .i64 p2) := (blk_cell BK.out 2).trans rfl
  have z3 : w5.cell? ⟨w1.heap.size, 3, none⟩ = some (.slice A l.length c) := (blk_cell BK.out 3).trans rfl
  have z4 : w5.cell? ⟨w1.heap.size, 4, none⟩ = some (.int .i64 p4) := (blk_cell BK.out 4).trans rfl
  have z5 : w5.cell? ⟨w1.heap.size, 5, none⟩ = some (.int .i64 p5) := (blk_cell BK.out 5).trans rfl
  have z6 : w5.cell? ⟨w1.heap.size, 6, none⟩ = some (.int .i64 p6) := (blk_cell BK.out 6).trans rfl
  have z7 : w5.cell? ⟨w1.heap.size, 7, none⟩ = some (.int .i64 p7) := (blk_cell BK.out 7).trans rfl
  have z8 : w5.cell? ⟨w1.heap.size, 8, none⟩ = some (.int .i64 p8) := (blk_cell BK.out 8).trans rfl
  have z9 : w5.cell? ⟨w1.heap.size, 9, none⟩ = some (.int .i64 p9) := (blk_cell BK.out 9).trans rfl
  go_wp2_with fail
  refine (thimbleref16_Parent.calls k p0 p1 p2 A c l p4 p5 p6 p7 p8 p9 b x1 y1 e1 _ (Kd.C_alloc (Kd.C_below HR.out.2.2 HB1.out) _) HR.out.2.1 G1.out).mono ?_
  rintro e_ w6 ⟨rfl, hb⟩
  clear z0 z1 z2 z3 z4 z5 z6 z7 z8 z9
  have PKw5 : Aside0 (w6.heap[w5.heap.size]? = some (.cells #[.int .i64 x1, .int .i64 y1] 30 (0, 0))) := ⟨blk_below (blk_new _ _) hb⟩
  replace BK : Aside0 (w6.heap[w1.heap.size]? = some (.cells #[.int .i64 p0, .int .i64 p1, .int .i64 p2, .slice A l.length c, .int .i64 p4, .int .i64 p5, .int .i64 p6, .int .i64 p7, .int .i64 p8, .int .i64 p9] 24 (0, 0))) := ⟨blk_below (blk_alloc BK.out _) hb⟩
  replace HB1 : Aside0 (Below w1.heap.size w1 w6) := ⟨below_step (below_alloc HB1.out _) hb⟩
  clear hb
  have hzw6 : w1.heap.size < w6.heap.size := blk_lt BK.out
  have hyw6 : w5.heap.size < w6.heap.size := blk_lt PKw5.out
  have y2_ : w6.cell? ⟨w5.heap.size, 0, none⟩ = some (.int .i64 x1) := (blk_cell PKw5.out 0).trans rfl
  have y3_ : w6.cell? ⟨w5.heap.size, 1, none⟩ = some (.int .i64 y1) := (blk_cell PKw5.out 1).trans rfl
  have z0 : w6.cell? ⟨w1.heap.size, 0, none⟩ = some (.int .i64 p0) := (blk_cell BK.out 0).trans rfl
  have z1 : w6.cell? ⟨w1.heap.size, 1, none⟩ = some (.int .i64 p1) := (blk_cell BK.out 1).trans rfl
  have z2 : w6.cell? ⟨w1.heap.size, 2, none⟩ = some (.int .i64 p2) := (blk_cell BK.out 2).trans rfl
  have z3 : w6.cell? ⟨w1.heap.size, 3, none⟩ = some (.slice A l.length c) := (blk_cell BK.out 3).trans rfl
  have z4 : w6.cell? ⟨w1.heap.size, 4, none⟩ = some (.int .i64 p4) := (blk_cell BK.out 4).trans rfl
  have z5 : w6.cell? ⟨w1.heap.size, 5, none⟩ = some (.int .i64 p5) := (blk_cell BK.out 5).trans rfl
  have z6 : w6.cell? ⟨w1.heap.size, 6, none⟩ = some (.int .i64 p6) := (blk_cell BK.out 6).trans rfl
  have z7 : w6.cell? ⟨w1.heap.size, 7, none⟩ = some (.int .i64 p7) := (blk_cell BK.out 7).trans rfl
  have z8 : w6.cell? ⟨w1.heap.size, 8, none⟩ = some (.int .i64 p8) := (blk_cell BK.out 8).trans rfl
  have z9 : w6.cell? ⟨w1.heap.size, 9, none⟩ = some (.int .i64 p9) := (blk_cell BK.out 9).trans rfl
  go_wp2
  rw [rounds_succ]
  go_wp2
  clear z0 z1 z2 z3 z4 z5 z6 z7 z8 z9
  replace BK := Aside0.mk (blk_drew (blk_alloc BK.out (Obj.cells #[.int .i64 x1, .int .i64 y1] 30)))
  replace HB1 := Aside0.mk (below_drew1 (below_alloc HB1.out (Obj.cells #[.int .i64 x1, .int .i64 y1] 30)))
  refine start_ (n := 10) (S := fun w' => w'.cell? ⟨w1.heap.size, 0, none⟩ = some (.int .i64 p0) ∧ w'.cell? ⟨w1.heap.size, 1, none⟩ = some (.int .i64 p1) ∧ w'.cell? ⟨w1.heap.size, 2, none⟩ = some (.int .i64 p2) ∧ w'.cell? ⟨w1.heap.size, 3, none⟩ = some (.slice A l.length c) ∧ w'.cell? ⟨w1.heap.size, 4, none⟩ = some (.int .i64 p4) ∧ w'.cell? ⟨w1.heap.size, 5, none⟩ = some (.int .i64 p5) ∧ w'.cell? ⟨w1.heap.size, 6, none⟩ = some (.int .i64 p6) ∧ w'.cell? ⟨w1.heap.size, 7, none⟩ = some (.int .i64 p7) ∧ w'.cell? ⟨w1.heap.size, 8, none⟩ = some (.int .i64 p8) ∧ w'.cell? ⟨w1.heap.size, 9, none⟩ = some (.int .i64 p9)) (ds := []) #[false, false, false, false, false, false, false, false, false, false] (by kernel_rfl) rfl rfl ⟨(blk_cell BK.out 0).trans rfl, (blk_cell BK.out 1).trans rfl, (blk_cell BK.out 2).trans rfl, (blk_cell BK.out 3).trans rfl, (blk_cell BK.out 4).trans rfl, (blk_cell BK.out 5).trans rfl, (blk_cell BK.out 6).trans rfl, (blk_cell BK.out 7).trans rfl, (blk_cell BK.out 8).trans rfl, (blk_cell BK.out 9).trans rfl⟩ (fun hHeld => ?_); refine with_tabW tab12 bits12 (fun HT_ HW_ => ?_)
  generalize (w6.alloc (Obj.cells #[.int .i64 x1, .int .i64 y1] 30)).drew = w60 at BK HB1 hHeld ⊢
  refine pure_ (i := 2) (N := some 55) (v := ?_) (a' := ?_) #[false, false, true, false, false, false, false, false, false, false] rfl rfl (any_of HT_.out (by kernel_rfl)) (fun _ _ _ h => h) (Or.inl ⟨by rfl, ?_⟩) ?_ ?_
  rotate_left
  · intro w'
    go_simp
    with_reducible rfl
  rotate_left
  · simp only [Act.put, List.setIfInBounds_toArray, List.set_cons_zero, List.set_cons_succ, i64_w, i32_w]
    rfl
  refine take_ (i := 0) (N := some 53) (v := ?_) (a' := ?_) #[true, false, true, false, false, false, false, false, false, false] rfl rfl (take_ofW HT_.out HW_.out (by kernel_rfl)) (fun _ _ _ h => h) (Or.inl ⟨by rfl, ?_⟩) hHeld ?_ ?_
  rotate_left
  · rintro w' ⟨s0, s1, s2, s3, s4, s5, s6, s7, s8, s9⟩
    go_simp
    with_reducible rfl
  rotate_left
  · simp only [Act.put, List.setIfInBounds_toArray, List.set_cons_zero, List.set_cons_succ, i64_w, i32_w]
    rfl
  refine take_ (i := 3) (N := some 56) (v := ?_) (a' := ?_) #[true, false, true, true, false, false, false, false, false, false] rfl rfl (take_ofW HT_.out HW_.out (by kernel_rfl)) (fun _ _ _ h => h) (Or.inl ⟨by rfl, ?_⟩) hHeld ?_ ?_
  rotate_left
  · rintro w' ⟨s0, s1, s2, s3, s4, s5, s6, s7, s8, s9⟩
    go_simp
    with_reducible rfl
  rotate_left
  · simp only [Act.put, List.setIfInBounds_toArray, List.set_cons_zero, List.set_cons_succ, i64_w, i32_w]
    rfl
  refine pure_ (i := 4) (N := some 57) (v := ?_) (a' := ?_) #[true, false, true, true, true, false, false, false, false, false] rfl rfl (any_of HT_.out (by kernel_rfl)) (fun _ _ _ h => h) (Or.inl ⟨by rfl, ?_⟩) ?_ ?_
  rotate_left
  · intro w'
    go_simp
    with_reducible rfl
  rotate_left
  · simp only [Act.put, List.setIfInBounds_toArray, List.set_cons_zero, List.set_cons_succ, i64_w, i32_w]
    rfl
  refine one_ (i := 1) (N := some 54) #[true, true, true, true, true, false, false, false, false, false] rfl rfl (one_of HT_.out (by kernel_rfl)) (by decide) (fun K hK => ?_)
  refine goes_ Try.func10 (by kernel_rfl) rfl #[.agg #[.int .i64 p0, .int .i64 p1, .int .i64 p2, .slice A l.length c, .int .i64 p4, .int .i64 p5, .int .i64 p6, .int .i64 p7, .int .i64 p8, .int .i64 p9]] (by rfl) rfl rfl (by (try simp only [List.map_toArray, List.map_cons, List.map_nil]); first | done | rfl | (simp only [List.length_drop, List.length_take]; rfl)) ?_
  with_reducible refine (plan_Top.calls p0 p1 p2 _ _ l p4 p5 p6 p7 p8 p9 (wrap64 (p5 - 1)) _ ?side1 ?side2 Ht.out).mono ?_
  (case side1 => repeat (first | exact (Kd.C_below HR.out.2.2 HB1.out) | (with_reducible refine Kd.C_alloc ?_ _) | (with_reducible refine Kd.C_drewN ?_ _) | (with_reducible refine Kd.C_drew ?_)))
  (case side2 => exact HR.out.2.1)
  rintro e w61 ⟨rfl, hb⟩
  refine ⟨_, rfl, ?_⟩
  have n2_ := Aside0.mk (blk_below (g := w1.heap.size) (o := .cells #[.int .i64 p0, .int .i64 p1, .int .i64 p2, .slice A l.length c, .int .i64 p4, .int .i64 p5, .int .i64 p6, .int .i64 p7, .int .i64 p8, .int .i64 p9] 24 (0, 0)) (by (with_reducible repeat (first | refine blk_drewN ?_ _ | refine blk_drew ?_ | refine blk_alloc ?_ _)); exact BK.out) hb)
  have n3_ := Aside0.mk (below_step (by repeat (first | (with_reducible first | exact HB1.out | apply below_alloc | apply pw_below_drewN | apply below_drew1) | exact HB1.out)) hb)
  clear BK
  clear HB1
  have BK := n2_
  have HB1 := n3_
  clear n2_ n3_
  (try clear hb)
  (try clear hb2)
  (try clear hk)
  (try clear hi)
  refine hK.out _ _ ⟨(blk_cell BK.out 0).trans rfl, (blk_cell BK.out 1).trans rfl, (blk_cell BK.out 2).trans rfl, (blk_cell BK.out 3).trans rfl, (blk_cell BK.out 4).trans rfl, (blk_cell BK.out 5).trans rfl, (blk_cell BK.out 6).trans rfl, (blk_cell BK.out 7).trans rfl, (blk_cell BK.out 8).trans rfl, (blk_cell BK.out 9).trans rfl⟩ (fun hHeld => ?_)
  clear hK K
  refine norm_ (a' := ?_) ?_ ?_
  rotate_left
  · show Act.put _ (some 54) _ = _
    simp only [Act.put, List.setIfInBounds_toArray, List.set_cons_zero, List.set_cons_succ, i64_w, i32_w]
    rfl
  refine pure_ (i := 5) (N := some 58) (v := ?_) (a' := ?_) #[true, true, true, true, true, true, false, false, false, false] rfl rfl (any_of HT_.out (by kernel_rfl)) (fun _ _ _ h => h) (Or.inl ⟨by rfl, ?_⟩) ?_ ?_
  rotate_left
  · intro w'
    go_simp
    with_reducible rfl
  rotate_left
  · simp only [Act.put, List.setIfInBounds_toArray, List.set_cons_zero, List.set_cons_succ, i64_w, i32_w]
    rfl
  refine pure_ (i := 6) (N := some 59) (v := ?_) (a' := ?_) #[true, true, true, true, true, true, true, false, false, false] rfl rfl (any_of HT_.out (by kernel_rfl)) (fun _ _ _ h => h) (Or.inl ⟨by rfl, ?_⟩) ?_ ?_
  rotate_left
  · intro w'
    go_simp
    with_reducible rfl
  rotate_left
  · simp only [Act.put, List.setIfInBounds_toArray, List.set_cons_zero, List.set_cons_succ, i64_w, i32_w]
    rfl
  refine one_ (i := 7) (N := some 60) #[true, true, true, true, true, true, true, true, false, false] rfl rfl (one_of HT_.out (by kernel_rfl)) (by decide) (fun K hK => ?_)
  refine goes_ Try.func11 (by kernel_rfl) rfl #[] (by rfl) rfl rfl (by (try simp only [List.map_toArray, List.map_cons, List.map_nil]); first | done | rfl | (simp only [List.length_drop, List.length_take]; rfl)) ?_
  with_reducible refine (thimblelaw16_awake.calls k  true _ Ha.out).mono ?_
  rintro e w62 ⟨rfl, hb⟩
  refine ⟨_, rfl, ?_⟩
  have n2_ := Aside0.mk (blk_below (g := w1.heap.size) (o := .cells #[.int .i64 p0, .int .i64 p1, .int .i64 p2, .slice A l.length c, .int .i64 p4, .int .i64 p5, .int .i64 p6, .int .i64 p7, .int .i64 p8, .int .i64 p9] 24 (0, 0)) (by (with_reducible repeat (first | refine blk_drewN ?_ _ | refine blk_drew ?_ | refine blk_alloc ?_ _)); exact BK.out) hb)
  have n3_ := Aside0.mk (below_step (by repeat (first | (with_reducible first | exact HB1.out | apply below_alloc | apply pw_below_drewN | apply below_drew1) | exact HB1.out)) hb)
  clear BK
  clear HB1
  have BK := n2_
  have HB1 := n3_
  clear n2_ n3_
  (try clear hb)
  (try clear hb2)
  (try clear hk)
  (try clear hi)
  refine hK.out _ _ ⟨(blk_cell BK.out 0).trans rfl, (blk_cell BK.out 1).trans rfl, (blk_cell BK.out 2).trans rfl, (blk_cell BK.out 3).trans rfl, (blk_cell BK.out 4).trans rfl, (blk_cell BK.out 5).trans rfl, (blk_cell BK.out 6).trans rfl, (blk_cell BK.out 7).trans rfl, (blk_cell BK.out 8).trans rfl, (blk_cell BK.out 9).trans rfl⟩ (fun hHeld => ?_)
  clear hK K
  refine norm_ (a' := ?_) ?_ ?_
  rotate_left
  · show Act.put _ (some 60) _ = _
    simp only [Act.put, List.setIfInBounds_toArray, List.set_cons_zero, List.set_cons_succ, i64_w, i32_w]
    rfl
  refine pure_ (i := 8) (N := some 61) (v := ?_) (a' := ?_) #[true, true, true, true, true, true, true, true, true, false] rfl rfl (any_of HT_.out (by kernel_rfl)) (fun _ _ _ h => h) (Or.inl ⟨by rfl, ?_⟩) ?_ ?_
  rotate_left
  · intro w'
    go_simp
    with_reducible rfl
  rotate_left
  · simp only [Act.put, List.setIfInBounds_toArray, List.set_cons_zero, List.set_cons_succ, i64_w, i32_w]
    rfl
  refine pure_ (i := 9) (N := some 6) (v := ?_) (a' := ?_) #[true, true, true, true, true, true, true, true, true, true] rfl rfl (any_of HT_.out (by kernel_rfl)) (fun _ _ _ h => h) (Or.inl ⟨by rfl, ?_⟩) ?_ ?_
  rotate_left
  · intro w'
    go_simp
    with_reducible rfl
  rotate_left
  · simp only [Act.put, List.setIfInBounds_toArray, List.set_cons_zero, List.set_cons_succ, i64_w, i32_w]
    rfl
  refine done_ (done_of HT_.out (by kernel_rfl)) ?_
  try go_wp2
  go_ret
  exact ⟨rfl, below_step HB.out HB1.out⟩

end Go.Proofs.Ytgmdgkanfhoahaa.HLawPa
