/- The contract of (*sha.Sum).Sum. -/
import Derived.Test.YtgmdgkanfhoahaaDoorShaSum
namespace Go.Proofs.YtgmdgkanfhoahaaDoor.ShaEnd
open Go.RowKit Go.Proofs.YtgmdgkanfhoahaaDoor.ShaRot Go.Proofs.YtgmdgkanfhoahaaDoor.ShaPure Go.Proofs.YtgmdgkanfhoahaaDoor.ShaBlk Go.Proofs.YtgmdgkanfhoahaaDoor.ShaWrite Go.Proofs.YtgmdgkanfhoahaaDoor.ShaSum Go.Proofs.YtgmdgkanfhoahaaDoorW.PrintWords Go.Proofs.YtgmdgkanfhoahaaDoorW.PrintLast Go.Proofs.YtgmdgkanfhoahaaDoorW.PrintMore
set_option linter.unusedVariables false
set_option linter.unusedSimpArgs false

theorem empty_new (W : World) (base : Nat) (hb : base ≤ W.heap.size) : Kd.R (Kd.int .u8) 5 (W.alloc (.cells #[] 5 (0, 0))) base (fun _ => True) (.slice (some ⟨W.heap.size, 0, none⟩) 0 0) [] :=
  Kd.R_of_own (enc := Value.int .u8) (h1 := fun _ => rfl) ⟨rfl, .inr ⟨W.heap.size, 0, #[], rfl, hb, blk_new _ _, by simp, by decide, rfl, rfl⟩⟩ (fun _ _ => trivial)
theorem Tryd.infoU : (Tryd.prog.info? 79).map (·.size) = some 1 := by kernel_rfl
set_option maxRecDepth 100000 in
theorem run_index_u32 (cs : Array Value) (k : Int) (v : Value) (h0 : 0 ≤ k) (h1 : k < 8) (hv : cs[k.toNat]? = some v) (w : World) : (Instr.index 92 (.agg cs) (.int .i64 k)).run Tryd.prog w = .ok v w := by
  obtain ⟨i, hi, hs⟩ := Option.map_eq_some_iff.1 Tryd.infoU
  have hagg : (isAgg 79).run Tryd.prog w = .ok false w := by
    unfold isAgg
    rw [Sem.run_bind, run_underlying Tryd.underlying79 w]
    rfl
  have hs' : i.size = 1 := hs
  have h1' : k < ((8 : Nat) : Int) := h1
  simp [Instr.index, asIntOf, Sem.run_bind, run_underlying Tryd.underlying92 w, h0, h1', h1, sizeOf, typeInfo, hi, hs', part, hagg, hv]
theorem wpList_index_u32 {ops : Array Oper} {rest : List Oper} {o : Oper} {a : Act} {w : World} {Q : Exit → Act → World → Prop} (hgd : o.guard = none) (x i : Operand) (ho : o.op = .index 92 x i)
    (cs : Array Value) (k : Int) (v : Value) (hx : a.eval x = .agg cs) (hi : a.eval i = .int .i64 k) (h0 : 0 ≤ k) (h1 : k < 8) (hv : cs[k.toNat]? = some v)
    (h : wpList Tryd.prog ops Q rest (a.put o.dst v) w) : wpList Tryd.prog ops Q (o :: rest) a w :=
  wpList_plain hgd fun _ hK => by
    unfold Oper.wp execOp
    simp only [ho, hx, hi, Sem.run_bind, Sem.run_pure, run_index_u32 cs k v h0 h1 hv, Result.andThen_ok]
    exact hK _ _ h
theorem Tryd.infoD : (Tryd.prog.info? 29).map (·.size) = some 32 := by kernel_rfl
theorem Tryd.infoSum : (Tryd.prog.info? 101).map (·.size) = some 10 := by kernel_rfl
theorem step_mod (s : V8 × List Int) (c : Int) (h : s.2.length < 64) : (ShaPure.step s c).2.length = (s.2.length + 1) % 64 := by
  unfold ShaPure.step
  split
  · rename_i h1
    simp at h1 ⊢
    omega
  · rename_i h1
    simp at h1 ⊢
    omega
theorem absorb_mod (l : List Int) : ∀ (s : V8 × List Int), s.2.length < 64 → (absorb s l).2.length = (s.2.length + l.length) % 64 := by
  induction l with
  | nil => intro s h; simp [absorb]; omega
  | cons c l ih =>
    intro s h
    show (absorb (ShaPure.step s c) l).2.length = _
    rw [ih _ (step_len s c h), step_mod s c h]
    simp
    omega
theorem step_bytes (s : V8 × List Int) (c : Int) (h : Bytes s.2) (hc : 0 ≤ c ∧ c ≤ 255) : Bytes (ShaPure.step s c).2 := by
  unfold ShaPure.step
  split
  · intro x hx; simp at hx
  · intro x hx
    rcases List.mem_append.1 hx with h1 | h1
    · exact h x h1
    · simp at h1; subst h1; exact hc
theorem absorb_bytes (l : List Int) : ∀ (s : V8 × List Int), Bytes s.2 → Bytes l → Bytes (absorb s l).2 := by
  induction l with
  | nil => exact fun s h _ => h
  | cons c l ih => exact fun s h hl => ih _ (step_bytes s c h (hl c List.mem_cons_self)) (fun x hx => hl x (List.mem_cons_of_mem _ hx))

theorem len8_length (m : Nat) : (len8 m).length = 8 := by simp [len8]
theorem len8_bytes (m : Nat) : Bytes (len8 m) := by
  intro x hx
  unfold len8 at hx
  obtain ⟨i, _, rfl⟩ := List.mem_map.1 hx
  omega
theorem len8_take (m k : Nat) (hk : k < 8) : (len8 m).take (k + 1) = (len8 m).take k ++ [((8 * m : Nat) : Int) % 18446744073709551616 / 2 ^ (8 * (7 - k)) % 256] := by
  rw [List.take_add_one]
  congr 1
  unfold len8
  rw [List.getElem?_map, List.getElem?_range hk]
  rfl

theorem len8_at (n t : Int) (h0 : 0 ≤ n) (h1 : n ≤ 1000000000000000) (t0 : 0 ≤ t) (t7 : t ≤ 7) : (len8 n.toNat).take (7 - (t - 1)).toNat = (len8 n.toNat).take (7 - t).toNat ++ [n * 8 / 2 ^ (8 * t).toNat % 256] := by
  rw [show (7 - (t - 1)).toNat = (7 - t).toNat + 1 by omega, len8_take _ _ (by omega), show 8 * (7 - (7 - t).toNat) = (8 * t).toNat by omega, show ((8 * n.toNat : Nat) : Int) % 18446744073709551616 = n * 8 by omega]

set_option maxHeartbeats 4000000 in
set_option maxRecDepth 100000 in
theorem sum_calls (gs base : Nat) (v : V8) (r : List Int) (n : Int) (rv : Value) (w : World) (hT : Tab w) (hs : SumAt w gs base v r n rv) (hr : r.length < 64) (hrb : Bytes r) (hn : 0 ≤ n) (hnl : n ≤ 1000000000000000) (hz : n.toNat % 64 = r.length) :
    Calls Tryd.prog 50 #[.pointer (some ⟨gs, 0, none⟩)] w fun e w' => e = .returned (.agg (nums .u8 (out (absorb (absorb (v, r) ([128] ++ List.replicate ((119 - n.toNat % 64) % 64) 0)) (len8 n.toNat)).1)).toArray) ∧ Below w.heap.size w w' := by
  obtain ⟨RA, rc, er⟩ := Kd.R_slice hs.2
  subst er
  have HR := Aside0.mk hr
  go_enter Tryd.func50, Tryd.ntmps50
  go_wp2
  generalize hwa : w.alloc _ = wa
  have RES : Aside0 (wa.heap[w.heap.size]? = some (.cells (nums .u8 (List.replicate 32 0)).toArray 29 (0, 0))) := ⟨by rw [← hwa]; exact blk_new _ _⟩
  have HOBJ : Aside0 (wa.heap[gs]? = some (.cells (v.cells ++ [Value.slice RA r.length rc, Value.int .u64 n]).toArray 101 (0, 0))) := ⟨by rw [← hwa]; exact blk_alloc hs.1 _⟩
  have HROW : Aside0 (Kd.C (Kd.int .u8) wa RA r.length r) := ⟨by rw [← hwa]; exact Kd.C_alloc (Kd.R_reads' hs.2).2.2 _⟩
  have HB0 : Aside0 (Below w.heap.size w wa) := ⟨by rw [← hwa]; exact below_alloc (Below.refl _ _) _⟩
  have HTA := Aside0.mk (hT.below HB0.out)
  have HS0 := Aside0.mk hs.1
  have HRB := Aside0.mk hrb
  have HN := Aside0.mk hn
  have HNL := Aside0.mk hnl
  have HZ := Aside0.mk hz
  clear hwa hs hT hr hrb hn hnl hz
  refine start_ (n := 13) (S := fun w' => w'.heap[gs]? = some (.cells (v.cells ++ [(Value.slice RA r.length rc), Value.int .u64 n]).toArray 101 (0, 0))) (ds := [12]) #[false, false, false, false, false, false, false, false, false, false, false, false, false] (by kernel_rfl) rfl rfl (blk_drew HOBJ.out) (fun hHeld => ?_)
  have HH := Aside0.mk hHeld
  clear hHeld
  have BEL2 := Aside0.mk (below_drew (Below.refl wa.heap.size wa))
  have ROW2 := Aside0.mk (Kd.C_drew HROW.out)
  clear HROW
  generalize wa.drew = w2 at HH BEL2 ROW2 ⊢
  refine pure_ (i := 0) (N := some 11) (v := ?_) (a' := ?_) #[true, false, false, false, false, false, false, false, false, false, false, false, false] rfl rfl (by kernel_rfl) (fun _ _ _ h => h) (Or.inl ⟨by rfl, ?_⟩) ?_ ?_
  rotate_left
  · intro w'
    go_simp
    with_reducible rfl
  rotate_left
  · simp only [Act.put, List.setIfInBounds_toArray, List.set_cons_zero, List.set_cons_succ, i64_w, i32_w]
    rfl
  refine pure_ (i := 1) (N := some 12) (v := ?_) (a' := ?_) #[true, true, false, false, false, false, false, false, false, false, false, false, false] rfl rfl (by kernel_rfl) (fun _ _ _ h => h) (Or.inl ⟨by rfl, ?_⟩) ?_ ?_
  rotate_left
  · intro w'
    go_simp
    with_reducible rfl
  rotate_left
  · simp only [Act.put, List.setIfInBounds_toArray, List.set_cons_zero, List.set_cons_succ, i64_w, i32_w]
    rfl
  refine pure_ (i := 2) (N := some 13) (v := ?_) (a' := ?_) #[true, true, true, false, false, false, false, false, false, false, false, false, false] rfl rfl (by kernel_rfl) (fun _ _ _ h => h) (Or.inl ⟨by rfl, ?_⟩) ?_ ?_
  rotate_left
  · intro w'
    go_simp
    with_reducible rfl
  rotate_left
  · simp only [Act.put, List.setIfInBounds_toArray, List.set_cons_zero, List.set_cons_succ, i64_w, i32_w]
    rfl
  refine pure_ (i := 5) (N := some 16) (v := ?_) (a' := ?_) #[true, true, true, false, false, true, false, false, false, false, false, false, false] rfl rfl (by kernel_rfl) (fun _ _ _ h => h) (Or.inl ⟨by rfl, ?_⟩) ?_ ?_
  rotate_left
  · intro w'
    go_simp
    with_reducible rfl
  rotate_left
  · simp only [Act.put, List.setIfInBounds_toArray, List.set_cons_zero, List.set_cons_succ, i64_w, i32_w]
    rfl
  refine pure_ (i := 6) (N := some 17) (v := ?_) (a' := ?_) #[true, true, true, false, false, true, true, false, false, false, false, false, false] rfl rfl (by kernel_rfl) (fun _ _ _ h => h) (Or.inl ⟨by rfl, ?_⟩) ?_ ?_
  rotate_left
  · intro w'
    go_simp
    with_reducible rfl
  rotate_left
  · simp only [Act.put, List.setIfInBounds_toArray, List.set_cons_zero, List.set_cons_succ, i64_w, i32_w]
    rfl
  refine pure_ (i := 7) (N := some 18) (v := ?_) (a' := ?_) #[true, true, true, false, false, true, true, true, false, false, false, false, false] rfl rfl (by kernel_rfl) (fun _ _ _ h => h) (Or.inl ⟨by rfl, ?_⟩) ?_ ?_
  rotate_left
  · intro w'
    go_simp
    with_reducible rfl
  rotate_left
  · simp only [Act.put, List.setIfInBounds_toArray, List.set_cons_zero, List.set_cons_succ, i64_w, i32_w]
    rfl
  refine take_ (i := 3) (N := some 14) (v := ?_) (a' := ?_) #[true, true, true, true, false, true, true, true, false, false, false, false, false] rfl rfl (by kernel_rfl) (fun _ _ _ h => h) (Or.inl ⟨by rfl, ?_⟩) HH.out ?_ ?_
  rotate_left
  · rintro w' s0
    have z0 : w'.cell? ⟨gs, 0, none⟩ = some (.int .u32 v.a) := (blk_cell s0 0).trans rfl
    have z1 : w'.cell? ⟨gs, 1, none⟩ = some (.int .u32 v.b) := (blk_cell s0 1).trans rfl
    have z2 : w'.cell? ⟨gs, 2, none⟩ = some (.int .u32 v.c) := (blk_cell s0 2).trans rfl
    have z3 : w'.cell? ⟨gs, 3, none⟩ = some (.int .u32 v.d) := (blk_cell s0 3).trans rfl
    have z4 : w'.cell? ⟨gs, 4, none⟩ = some (.int .u32 v.e) := (blk_cell s0 4).trans rfl
    have z5 : w'.cell? ⟨gs, 5, none⟩ = some (.int .u32 v.f) := (blk_cell s0 5).trans rfl
    have z6 : w'.cell? ⟨gs, 6, none⟩ = some (.int .u32 v.g) := (blk_cell s0 6).trans rfl
    have z7 : w'.cell? ⟨gs, 7, none⟩ = some (.int .u32 v.h) := (blk_cell s0 7).trans rfl
    clear s0
    go_simp
    with_reducible rfl
  rotate_left
  · simp only [Act.put, List.setIfInBounds_toArray, List.set_cons_zero, List.set_cons_succ, i64_w, i32_w]
    rfl
  refine take_ (i := 8) (N := some 19) (v := ?_) (a' := ?_) #[true, true, true, true, false, true, true, true, true, false, false, false, false] rfl rfl (by kernel_rfl) (fun _ _ _ h => h) (Or.inl ⟨by rfl, ?_⟩) HH.out ?_ ?_
  rotate_left
  · rintro w' s0
    have z8 : w'.cell? ⟨gs, 8, none⟩ = some (.slice RA r.length rc) := (blk_cell s0 8).trans rfl
    clear s0
    go_simp
    with_reducible rfl
  rotate_left
  · simp only [Act.put, List.setIfInBounds_toArray, List.set_cons_zero, List.set_cons_succ, i64_w, i32_w]
    rfl
  refine join_ (σ := Value × Value × Nat) 1 #[true, true, true, true, true, true, true, true, true, true, true, true, false] (fun s => [(15, s.1), (20, s.2.1), (21, (.agg #[.int .u32 v.a, .int .u32 v.b, .int .u32 v.c, .int .u32 v.d, .int .u32 v.e, .int .u32 v.f, .int .u32 v.g, .int .u32 v.h, s.2.1, .int .u64 0])), (3, .pointer (some ⟨s.2.2, 0, none⟩))]) (fun s w' => w'.heap[s.2.2]? = some (.cells #[.int .u32 0, .int .u32 0, .int .u32 0, .int .u32 0, .int .u32 0, .int .u32 0, .int .u32 0, .int .u32 0, .slice none 0 0, .int .u64 0] 101 (0, 0)) ∧ Kd.R (Kd.int .u8) 5 w' wa.heap.size (fun _ => True) s.2.1 r ∧ Below wa.heap.size wa w' ∧ wa.heap.size ≤ s.2.2) ?_ ?_
  rotate_left
  · intro hj
    have HJ := Aside0.mk hj
    clear hj
    refine two_ (i := 4) (j := 11) (Ni := some 15) (Nj := some 3) #[true, true, true, true, true, true, true, true, true, false, false, false, false] #[true, true, true, true, false, true, true, true, true, false, false, true, false] rfl rfl rfl rfl (by kernel_rfl) (by decide) (by decide) (fun K hK => ?_) (fun K hK => ?_)
    · refine value_ (w1 := w2.alloc (.cells #[] 5 (0, 0))) (v := .slice (some ⟨w2.heap.size, 0, none⟩) 0 0) (by rfl) rfl (by go_simp) ?_
      refine hK.out _ _ (blk_alloc HH.out _) (fun hHeld => ?_)
      clear hK K
      refine norm_ (a' := ?_) ?_ ?_
      rotate_left
      · show Act.put _ (some 15) _ = _
        simp only [Act.put, List.setIfInBounds_toArray, List.set_cons_zero, List.set_cons_succ, i64_w, i32_w]
        rfl
      have ER := Aside0.mk (empty_new w2 wa.heap.size BEL2.out.size)
      replace HH := Aside0.mk hHeld
      clear hHeld
      replace BEL2 := Aside0.mk (below_alloc BEL2.out (.cells #[] 5 (0, 0)))
      replace ROW2 := Aside0.mk (Kd.C_alloc ROW2.out (.cells #[] 5 (0, 0)))
      obtain ⟨eb, heb⟩ : ∃ eb, eb = w2.heap.size := ⟨_, rfl⟩
      rw [← heb] at ER ⊢
      clear heb
      generalize w2.alloc (.cells #[] 5 (0, 0)) = w3 at HH BEL2 ROW2 ER ⊢
      refine two_ (i := 9) (j := 11) (Ni := some 20) (Nj := some 3) #[true, true, true, true, true, true, true, true, true, true, false, false, false] #[true, true, true, true, true, true, true, true, true, false, false, true, false] rfl rfl rfl rfl (by kernel_rfl) (by decide) (by decide) (fun K hK => ?_) (fun K hK => ?_)
      · refine Kd.R_append_rows_step (Kd.int .u8) (Rr := (Kd.int .u8).K w3) (w0 := wa) wa.heap.size (by rfl) (.tmp 15) (.tmp 19) 22 5 (.int .u8 0) 1 rfl Tryd.underlying22 Tryd.infoB rfl (by decide) (by omega) (.slice (some ⟨eb, 0, none⟩) 0 0) [] r RA r.length rc (fun _ => True) (fun _ => False) rfl rfl ER.out ROW2.out (fun x cs h => h) (fun _ h => h.elim) (fun _ _ => trivial) BEL2.out BEL2.out.size (by have := HR.out; simp; omega) ?_
        intro rv2 w4 ho hb hg hat
        rw [List.nil_append] at ho
        obtain ⟨RB, rd2, er2⟩ := Kd.R_slice ho
        subst er2
        have VR := Aside0.mk ho
        refine hK.out _ _ (blk_grown HH.out hg (Kd.R_ne ER.out HH.out (by decide))) (fun hHeld => ?_)
        clear hK K
        refine norm_ (a' := ?_) ?_ ?_
        rotate_left
        · show Act.put _ (some 20) _ = _
          simp only [Act.put, List.setIfInBounds_toArray, List.set_cons_zero, List.set_cons_succ, i64_w, i32_w]
          rfl
        replace HH := Aside0.mk hHeld
        replace BEL2 := Aside0.mk hb
        clear hHeld ho hb hat ROW2
        refine pure_ (i := 10) (N := some 21) (v := ?_) (a' := ?_) #[true, true, true, true, true, true, true, true, true, true, true, false, false] rfl rfl (by kernel_rfl) (fun _ _ _ h => h) (Or.inl ⟨by rfl, ?_⟩) ?_ ?_
        rotate_left
        · intro w'
          go_simp
          with_reducible rfl
        rotate_left
        · simp only [Act.put, List.setIfInBounds_toArray, List.set_cons_zero, List.set_cons_succ, i64_w, i32_w]
          rfl
        refine one_ (i := 11) (N := some 3) #[true, true, true, true, true, true, true, true, true, true, true, true, false] rfl rfl (by kernel_rfl) (by decide) (fun K hK => ?_)
        refine value_ (w1 := w4.alloc (.cells #[.int .u32 0, .int .u32 0, .int .u32 0, .int .u32 0, .int .u32 0, .int .u32 0, .int .u32 0, .int .u32 0, .slice none 0 0, .int .u64 0] 101 (0, 0))) (v := .pointer (some ⟨w4.heap.size, 0, none⟩)) (by rfl) rfl (by go_simp) ?_
        refine hK.out _ _ (blk_alloc HH.out _) (fun hHeld => ?_)
        clear hK K
        refine norm_ (a' := ?_) ?_ ?_
        rotate_left
        · show Act.put _ (some 3) _ = _
          simp only [Act.put, List.setIfInBounds_toArray, List.set_cons_zero, List.set_cons_succ, i64_w, i32_w]
          rfl
        have PP := Aside0.mk (blk_new w4 (.cells #[.int .u32 0, .int .u32 0, .int .u32 0, .int .u32 0, .int .u32 0, .int .u32 0, .int .u32 0, .int .u32 0, .slice none 0 0, .int .u64 0] 101 (0, 0)))
        have PB := Aside0.mk (show wa.heap.size ≤ w4.heap.size from BEL2.out.size)
        replace HH := Aside0.mk hHeld
        clear hHeld
        replace BEL2 := Aside0.mk (below_alloc BEL2.out (.cells #[.int .u32 0, .int .u32 0, .int .u32 0, .int .u32 0, .int .u32 0, .int .u32 0, .int .u32 0, .int .u32 0, .slice none 0 0, .int .u64 0] 101 (0, 0)))
        replace VR := Aside0.mk (Kd.R_below VR.out (below_alloc (Below.refl _ _) (.cells #[.int .u32 0, .int .u32 0, .int .u32 0, .int .u32 0, .int .u32 0, .int .u32 0, .int .u32 0, .int .u32 0, .slice none 0 0, .int .u64 0] 101 (0, 0))))
        obtain ⟨tp, htp⟩ : ∃ tp, tp = w4.heap.size := ⟨_, rfl⟩
        rw [← htp] at PP PB ⊢
        clear htp
        generalize w4.alloc (.cells #[.int .u32 0, .int .u32 0, .int .u32 0, .int .u32 0, .int .u32 0, .int .u32 0, .int .u32 0, .int .u32 0, .slice none 0 0, .int .u64 0] 101 (0, 0)) = w5 at HH BEL2 PP VR ⊢
        exact HJ.out (.slice (some ⟨eb, 0, none⟩) 0 0, .slice RB r.length rd2, tp) _ ⟨PP.out, VR.out, BEL2.out, PB.out⟩
      · refine value_ (w1 := w3.alloc (.cells #[.int .u32 0, .int .u32 0, .int .u32 0, .int .u32 0, .int .u32 0, .int .u32 0, .int .u32 0, .int .u32 0, .slice none 0 0, .int .u64 0] 101 (0, 0))) (v := .pointer (some ⟨w3.heap.size, 0, none⟩)) (by rfl) rfl (by go_simp) ?_
        refine hK.out _ _ (blk_alloc HH.out _) (fun hHeld => ?_)
        clear hK K
        refine norm_ (a' := ?_) ?_ ?_
        rotate_left
        · show Act.put _ (some 3) _ = _
          simp only [Act.put, List.setIfInBounds_toArray, List.set_cons_zero, List.set_cons_succ, i64_w, i32_w]
          rfl
        have PP := Aside0.mk (blk_new w3 (.cells #[.int .u32 0, .int .u32 0, .int .u32 0, .int .u32 0, .int .u32 0, .int .u32 0, .int .u32 0, .int .u32 0, .slice none 0 0, .int .u64 0] 101 (0, 0)))
        have PB := Aside0.mk (show wa.heap.size ≤ w3.heap.size from BEL2.out.size)
        replace HH := Aside0.mk hHeld
        clear hHeld
        replace BEL2 := Aside0.mk (below_alloc BEL2.out (.cells #[.int .u32 0, .int .u32 0, .int .u32 0, .int .u32 0, .int .u32 0, .int .u32 0, .int .u32 0, .int .u32 0, .slice none 0 0, .int .u64 0] 101 (0, 0)))
        replace ROW2 := Aside0.mk (Kd.C_alloc ROW2.out (.cells #[.int .u32 0, .int .u32 0, .int .u32 0, .int .u32 0, .int .u32 0, .int .u32 0, .int .u32 0, .int .u32 0, .slice none 0 0, .int .u64 0] 101 (0, 0)))
        replace ER := Aside0.mk (Kd.R_below ER.out (below_alloc (Below.refl _ _) (.cells #[.int .u32 0, .int .u32 0, .int .u32 0, .int .u32 0, .int .u32 0, .int .u32 0, .int .u32 0, .int .u32 0, .slice none 0 0, .int .u64 0] 101 (0, 0))))
        obtain ⟨tp, htp⟩ : ∃ tp, tp = w3.heap.size := ⟨_, rfl⟩
        rw [← htp] at PP PB ⊢
        clear htp
        generalize w3.alloc (.cells #[.int .u32 0, .int .u32 0, .int .u32 0, .int .u32 0, .int .u32 0, .int .u32 0, .int .u32 0, .int .u32 0, .slice none 0 0, .int .u64 0] 101 (0, 0)) = w4 at HH BEL2 ROW2 PP ER ⊢
        refine one_ (i := 9) (N := some 20) #[true, true, true, true, true, true, true, true, true, true, false, true, false] rfl rfl (by kernel_rfl) (by decide) (fun K hK => ?_)
        refine Kd.R_append_rows_step (Kd.int .u8) (Rr := (Kd.int .u8).K w4) (w0 := wa) wa.heap.size (by rfl) (.tmp 15) (.tmp 19) 22 5 (.int .u8 0) 1 rfl Tryd.underlying22 Tryd.infoB rfl (by decide) (by omega) (.slice (some ⟨eb, 0, none⟩) 0 0) [] r RA r.length rc (fun _ => True) (fun _ => False) rfl rfl ER.out ROW2.out (fun x cs h => h) (fun _ h => h.elim) (fun _ _ => trivial) BEL2.out BEL2.out.size (by have := HR.out; simp; omega) ?_
        intro rv2 w5 ho hb hg hat
        rw [List.nil_append] at ho
        obtain ⟨RB, rd2, er2⟩ := Kd.R_slice ho
        subst er2
        have VR := Aside0.mk ho
        refine hK.out _ _ (blk_grown HH.out hg (Kd.R_ne ER.out HH.out (by decide))) (fun hHeld => ?_)
        clear hK K
        refine norm_ (a' := ?_) ?_ ?_
        rotate_left
        · show Act.put _ (some 20) _ = _
          simp only [Act.put, List.setIfInBounds_toArray, List.set_cons_zero, List.set_cons_succ, i64_w, i32_w]
          rfl
        replace HH := Aside0.mk hHeld
        replace BEL2 := Aside0.mk hb
        replace PP := Aside0.mk (blk_grown PP.out hg (Kd.R_ne ER.out PP.out (by decide)))
        clear hHeld ho hb hat ROW2
        refine pure_ (i := 10) (N := some 21) (v := ?_) (a' := ?_) #[true, true, true, true, true, true, true, true, true, true, true, true, false] rfl rfl (by kernel_rfl) (fun _ _ _ h => h) (Or.inl ⟨by rfl, ?_⟩) ?_ ?_
        rotate_left
        · intro w'
          go_simp
          with_reducible rfl
        rotate_left
        · simp only [Act.put, List.setIfInBounds_toArray, List.set_cons_zero, List.set_cons_succ, i64_w, i32_w]
          rfl
        exact HJ.out (.slice (some ⟨eb, 0, none⟩) 0 0, .slice RB r.length rd2, tp) _ ⟨PP.out, VR.out, BEL2.out, PB.out⟩
    · refine value_ (w1 := w2.alloc (.cells #[.int .u32 0, .int .u32 0, .int .u32 0, .int .u32 0, .int .u32 0, .int .u32 0, .int .u32 0, .int .u32 0, .slice none 0 0, .int .u64 0] 101 (0, 0))) (v := .pointer (some ⟨w2.heap.size, 0, none⟩)) (by rfl) rfl (by go_simp) ?_
      refine hK.out _ _ (blk_alloc HH.out _) (fun hHeld => ?_)
      clear hK K
      refine norm_ (a' := ?_) ?_ ?_
      rotate_left
      · show Act.put _ (some 3) _ = _
        simp only [Act.put, List.setIfInBounds_toArray, List.set_cons_zero, List.set_cons_succ, i64_w, i32_w]
        rfl
      have PP := Aside0.mk (blk_new w2 (.cells #[.int .u32 0, .int .u32 0, .int .u32 0, .int .u32 0, .int .u32 0, .int .u32 0, .int .u32 0, .int .u32 0, .slice none 0 0, .int .u64 0] 101 (0, 0)))
      have PB := Aside0.mk (show wa.heap.size ≤ w2.heap.size from BEL2.out.size)
      replace HH := Aside0.mk hHeld
      clear hHeld
      replace BEL2 := Aside0.mk (below_alloc BEL2.out (.cells #[.int .u32 0, .int .u32 0, .int .u32 0, .int .u32 0, .int .u32 0, .int .u32 0, .int .u32 0, .int .u32 0, .slice none 0 0, .int .u64 0] 101 (0, 0)))
      replace ROW2 := Aside0.mk (Kd.C_alloc ROW2.out (.cells #[.int .u32 0, .int .u32 0, .int .u32 0, .int .u32 0, .int .u32 0, .int .u32 0, .int .u32 0, .int .u32 0, .slice none 0 0, .int .u64 0] 101 (0, 0)))
      obtain ⟨tp, htp⟩ : ∃ tp, tp = w2.heap.size := ⟨_, rfl⟩
      rw [← htp] at PP PB ⊢
      clear htp
      generalize w2.alloc (.cells #[.int .u32 0, .int .u32 0, .int .u32 0, .int .u32 0, .int .u32 0, .int .u32 0, .int .u32 0, .int .u32 0, .slice none 0 0, .int .u64 0] 101 (0, 0)) = w3 at HH BEL2 ROW2 PP ⊢
      refine one_ (i := 4) (N := some 15) #[true, true, true, true, true, true, true, true, true, false, false, true, false] rfl rfl (by kernel_rfl) (by decide) (fun K hK => ?_)
      refine value_ (w1 := w3.alloc (.cells #[] 5 (0, 0))) (v := .slice (some ⟨w3.heap.size, 0, none⟩) 0 0) (by rfl) rfl (by go_simp) ?_
      refine hK.out _ _ (blk_alloc HH.out _) (fun hHeld => ?_)
      clear hK K
      refine norm_ (a' := ?_) ?_ ?_
      rotate_left
      · show Act.put _ (some 15) _ = _
        simp only [Act.put, List.setIfInBounds_toArray, List.set_cons_zero, List.set_cons_succ, i64_w, i32_w]
        rfl
      have ER := Aside0.mk (empty_new w3 wa.heap.size BEL2.out.size)
      replace HH := Aside0.mk hHeld
      clear hHeld
      replace BEL2 := Aside0.mk (below_alloc BEL2.out (.cells #[] 5 (0, 0)))
      replace ROW2 := Aside0.mk (Kd.C_alloc ROW2.out (.cells #[] 5 (0, 0)))
      replace PP := Aside0.mk (blk_alloc PP.out (.cells #[] 5 (0, 0)))
      obtain ⟨eb, heb⟩ : ∃ eb, eb = w3.heap.size := ⟨_, rfl⟩
      rw [← heb] at ER ⊢
      clear heb
      generalize w3.alloc (.cells #[] 5 (0, 0)) = w4 at HH BEL2 ROW2 ER PP ⊢
      refine one_ (i := 9) (N := some 20) #[true, true, true, true, true, true, true, true, true, true, false, true, false] rfl rfl (by kernel_rfl) (by decide) (fun K hK => ?_)
      refine Kd.R_append_rows_step (Kd.int .u8) (Rr := (Kd.int .u8).K w4) (w0 := wa) wa.heap.size (by rfl) (.tmp 15) (.tmp 19) 22 5 (.int .u8 0) 1 rfl Tryd.underlying22 Tryd.infoB rfl (by decide) (by omega) (.slice (some ⟨eb, 0, none⟩) 0 0) [] r RA r.length rc (fun _ => True) (fun _ => False) rfl rfl ER.out ROW2.out (fun x cs h => h) (fun _ h => h.elim) (fun _ _ => trivial) BEL2.out BEL2.out.size (by have := HR.out; simp; omega) ?_
      intro rv2 w5 ho hb hg hat
      rw [List.nil_append] at ho
      obtain ⟨RB, rd2, er2⟩ := Kd.R_slice ho
      subst er2
      have VR := Aside0.mk ho
      refine hK.out _ _ (blk_grown HH.out hg (Kd.R_ne ER.out HH.out (by decide))) (fun hHeld => ?_)
      clear hK K
      refine norm_ (a' := ?_) ?_ ?_
      rotate_left
      · show Act.put _ (some 20) _ = _
        simp only [Act.put, List.setIfInBounds_toArray, List.set_cons_zero, List.set_cons_succ, i64_w, i32_w]
        rfl
      replace HH := Aside0.mk hHeld
      replace BEL2 := Aside0.mk hb
      replace PP := Aside0.mk (blk_grown PP.out hg (Kd.R_ne ER.out PP.out (by decide)))
      clear hHeld ho hb hat ROW2
      refine pure_ (i := 10) (N := some 21) (v := ?_) (a' := ?_) #[true, true, true, true, true, true, true, true, true, true, true, true, false] rfl rfl (by kernel_rfl) (fun _ _ _ h => h) (Or.inl ⟨by rfl, ?_⟩) ?_ ?_
      rotate_left
      · intro w'
        go_simp
        with_reducible rfl
      rotate_left
      · simp only [Act.put, List.setIfInBounds_toArray, List.set_cons_zero, List.set_cons_succ, i64_w, i32_w]
        rfl
      exact HJ.out (.slice (some ⟨eb, 0, none⟩) 0 0, .slice RB r.length rd2, tp) _ ⟨PP.out, VR.out, BEL2.out, PB.out⟩
  rintro ⟨v15, rv2, tp⟩ w3 ⟨hPP, hVR, hBEL, hPB⟩
  refine norm_ (a' := ?_) ?_ ?_
  rotate_left
  · simp only [putAll, Act.put, List.setIfInBounds_toArray, List.set_cons_zero, List.set_cons_succ, i64_w, i32_w]
    rfl
  refine last_ (i := 12) (N := none) #[true, true, true, true, true, true, true, true, true, true, true, true, true] rfl rfl (by kernel_rfl) (by decide) (fun K hK => ?_)
  obtain ⟨RB, rd2, er2⟩ := Kd.R_slice hVR
  subst er2
  have CELLS3 := Aside0.mk hPP
  have ROW3 := Aside0.mk hVR
  have BEL3 := Aside0.mk hBEL
  have PB3 := Aside0.mk hPB
  clear hPP hVR hBEL hPB
  rw [if_pos (by rfl)]
  refine wp_store_row 101 (.tmp 3) (.tmp 21) rfl tp #[.int .u32 v.a, .int .u32 v.b, .int .u32 v.c, .int .u32 v.d, .int .u32 v.e, .int .u32 v.f, .int .u32 v.g, .int .u32 v.h, .slice RB r.length rd2, .int .u64 0] rfl rfl 101 _ CELLS3.out Tryd.infoSum rfl (by simp [Value.oneCell']) ?_
  refine hK.out _ _ ?_
  clear hK K
  refine done_ (by kernel_rfl) ?_
  have SUM4 : Aside0 (SumAt (w3.setRow tp #[.int .u32 v.a, .int .u32 v.b, .int .u32 v.c, .int .u32 v.d, .int .u32 v.e, .int .u32 v.f, .int .u32 v.g, .int .u32 v.h, .slice RB r.length rd2, .int .u64 0]) tp wa.heap.size v r 0 (.slice RB r.length rd2)) :=
    ⟨⟨setRow_heap _ _ _ _ _ _ CELLS3.out, Kd.R_mono (Kd.R_step (Kd.R_types ROW3.out CELLS3.out (by decide)) (fun k hk _ => setRow_other _ _ _ _ hk.2)) (fun _ _ => trivial)⟩⟩
  have BEL4 : Aside0 (Below wa.heap.size wa (w3.setRow tp #[.int .u32 v.a, .int .u32 v.b, .int .u32 v.c, .int .u32 v.d, .int .u32 v.e, .int .u32 v.f, .int .u32 v.g, .int .u32 v.h, .slice RB r.length rd2, .int .u64 0])) :=
    ⟨BEL3.out.os, BEL3.out.tape, BEL3.out.output, by rw [setRow_size]; exact BEL3.out.size, fun k hk => (setRow_other _ _ _ _ (by have := PB3.out; simp only at this; omega)).trans (BEL3.out.block k hk)⟩
  have HTP : Aside0 (wa.heap.size ≤ tp) := PB3
  clear CELLS3 ROW3 BEL3 PB3 HH BEL2 ROW2
  generalize w3.setRow tp _ = w4 at SUM4 BEL4 ⊢
  go_wp2_with fail
  refine (write_one wa tp v r 0 _ 128 w4 HTA.out SUM4.out BEL4.out HTP.out HR.out HRB.out (by omega) (by omega) (by omega)).mono ?_
  rintro e w5 ⟨rfl, rv5, hs5, hb5, -, -⟩
  have SUM5 := Aside0.mk hs5
  have BEL5 := Aside0.mk hb5
  clear hs5 hb5 SUM4 BEL4
  go_wp2_with fail
  obtain ⟨s0, hs0⟩ : ∃ s0, s0 = ShaPure.step (v, r) 128 := ⟨_, rfl⟩
  have S0 := Aside0.mk hs0
  have LS0 : Aside0 (s0.2.length = (r.length + 1) % 64) := ⟨by rw [hs0]; exact step_mod (v, r) 128 HR.out⟩
  have BS0 : Aside0 (Bytes s0.2) := ⟨by rw [hs0]; exact step_bytes (v, r) 128 HRB.out (by omega)⟩
  rw [← hs0] at SUM5
  clear hs0
  go_loopw [] (fun wr => ∃ (j : Nat) (v1 : V8) (r1 : List Int) (rv1 : Value), Aside0 (j ≤ (119 - r.length) % 64) ∧ Aside0 (absorb s0 (List.replicate j 0) = (v1, r1)) ∧ Aside0 (SumAt wr tp wa.heap.size v1 r1 (1 + j) rv1) ∧ Aside0 (Below wa.heap.size wa wr))
    (fun wr => match wr.cell? ⟨tp, 8, none⟩ with | some (.slice _ n _) => (120 - n) % 64 | _ => 0)
  case atStart => exact ⟨0, s0.1, s0.2, rv5, ⟨Nat.zero_le _⟩, ⟨rfl⟩, SUM5, BEL5⟩
  case round =>
    clear SUM5 BEL5
    obtain ⟨j, v1, r1, rv1, HJ, HA, SUM, BEL⟩ := hrel
    have hl1 : r1.length = (r.length + 1 + j) % 64 := by
      have h1 := absorb_mod (List.replicate j 0) s0 (by have := LS0.out; omega)
      rw [HA.out, List.length_replicate, LS0.out] at h1
      simp only at h1
      omega
    have hb1 : Bytes r1 := by
      have h1 := absorb_bytes (List.replicate j 0) s0 BS0.out (by intro x hx; rw [List.eq_of_mem_replicate hx]; omega)
      rw [HA.out] at h1
      exact h1
    have HL1 := Aside0.mk hl1
    have HB1 := Aside0.mk hb1
    clear hb1
    obtain ⟨RA1, rc1, er1⟩ := Kd.R_slice SUM.out.2
    subst er1
    have z8 : wr.cell? ⟨tp, 8, none⟩ = some (.slice RA1 r1.length rc1) := (blk_cell SUM.out.1 8).trans rfl
    by_cases hfull : r1.length = 56
    · have hfb : ((r1.length : Int) == 56) = true := beq_iff_eq.mpr (by omega)
      have FF := Aside0.mk hfull
      clear hfull hl1
      go_wp2_with fail
      have hne : ((r1.length : Int) != 56) = false := by rw [FF.out]; rfl
      simp only [hne]
      clear z8 hfb hne
      have HJZ : Aside0 (j = (119 - r.length) % 64) := ⟨by have := HL1.out; have := HJ.out; have := FF.out; have := HR.out; omega⟩
      have HR1 : Aside0 (r1.length < 64) := ⟨by have := FF.out; omega⟩
      have HA1 := Aside0.mk HA.out
      have SUM1 := Aside0.mk SUM.out
      have BEL1 := Aside0.mk BEL.out
      clear SUM BEL HA HJ FF HL1
      go_loopw [4] (fun i wr => ∃ (t : Int) (v2 : V8) (r2 : List Int) (rv2 : Value), i = .int .i64 t ∧ -1 ≤ t ∧ t ≤ 7 ∧ Aside0 (absorb (v1, r1) ((len8 n.toNat).take (7 - t).toNat) = (v2, r2)) ∧ Aside0 (SumAt wr tp wa.heap.size v2 r2 (1 + j + (7 - t)) rv2) ∧ Aside0 (Below wa.heap.size wa wr))
        (fun i _ => (intOf i + 1).toNat)
      case atStart => exact ⟨7, v1, r1, _, rfl, by omega, by omega, ⟨rfl⟩, ⟨by rw [show (1 + (j : Int) + (7 - 7)) = 1 + (j : Int) by omega]; exact SUM1.out⟩, BEL1⟩
      case round =>
        clear SUM1 BEL1
        obtain ⟨t, v2, r2, rv2, rfl, ht0, ht7, HA2, SUM, BEL⟩ := hrel
        have HR2 : Aside0 (r2.length < 64) := ⟨by have h1 := absorb_len ((len8 n.toNat).take (7 - t).toNat) (v1, r1) HR1.out; rw [HA2.out] at h1; exact h1⟩
        have HB2 : Aside0 (Bytes r2) := ⟨by have h1 := absorb_bytes ((len8 n.toNat).take (7 - t).toNat) (v1, r1) HB1.out (fun x hx => len8_bytes _ x (List.mem_of_mem_take hx)); rw [HA2.out] at h1; exact h1⟩
        by_cases htt : 0 ≤ t
        · have z9 : wr.cell? ⟨gs, 9, none⟩ = some (Value.int .u64 n) := (blk_cell ((BEL.out.block gs (blk_lt HOBJ.out)).trans HOBJ.out) 9).trans rfl
          have hn0 := HN.out
          have hn1 := HNL.out
          go_wp2_with fail
          obtain ⟨x, hx⟩ : ∃ x, n * 8 / 2 ^ (8 * t).toNat % 256 = x := ⟨_, rfl⟩
          rw [hx]
          have HX := Aside0.mk hx
          have hx0 : 0 ≤ x ∧ x ≤ 255 := by omega
          clear hx
          refine (write_one wa tp v2 r2 _ _ x wr HTA.out SUM.out BEL.out HTP.out HR2.out HB2.out hx0 (by omega) (by have := HJZ.out; omega)).mono ?_
          rintro e w6 ⟨rfl, rv6, hs6, hb6, -, -⟩
          have SUM6 := Aside0.mk hs6
          have BEL6 := Aside0.mk hb6
          clear hs6 hb6 z9
          go_wp2_with fail
          refine ⟨⟨t - 1, _, _, rv6, rfl, by omega, by omega, ⟨?_⟩, ⟨by have := SUM6.out; rw [show (1 + (j : Int) + (7 - t) + 1) = 1 + (j : Int) + (7 - (t - 1)) by omega] at this; exact this⟩, BEL6⟩, by simp [intOf]; omega⟩
          rw [len8_at n t HN.out HNL.out htt ht7, absorb_append, HA2.out, HX.out]
          rfl
        · obtain rfl : t = -1 := by omega
          have HA3 : Aside0 (absorb (v1, r1) (len8 n.toNat) = (v2, r2)) := ⟨by rw [← HA2.out, List.take_of_length_le (by rw [len8_length]; decide)]⟩
          clear HA2 ht0 ht7 htt
          have x0 : ∀ o, (wr.alloc o).cell? ⟨tp, 0, none⟩ = some (.int .u32 v2.a) := fun o => (blk_cell (blk_alloc SUM.out.1 o) 0).trans rfl
          have x1 : ∀ o, (wr.alloc o).cell? ⟨tp, 1, none⟩ = some (.int .u32 v2.b) := fun o => (blk_cell (blk_alloc SUM.out.1 o) 1).trans rfl
          have x2 : ∀ o, (wr.alloc o).cell? ⟨tp, 2, none⟩ = some (.int .u32 v2.c) := fun o => (blk_cell (blk_alloc SUM.out.1 o) 2).trans rfl
          have x3 : ∀ o, (wr.alloc o).cell? ⟨tp, 3, none⟩ = some (.int .u32 v2.d) := fun o => (blk_cell (blk_alloc SUM.out.1 o) 3).trans rfl
          have x4 : ∀ o, (wr.alloc o).cell? ⟨tp, 4, none⟩ = some (.int .u32 v2.e) := fun o => (blk_cell (blk_alloc SUM.out.1 o) 4).trans rfl
          have x5 : ∀ o, (wr.alloc o).cell? ⟨tp, 5, none⟩ = some (.int .u32 v2.f) := fun o => (blk_cell (blk_alloc SUM.out.1 o) 5).trans rfl
          have x6 : ∀ o, (wr.alloc o).cell? ⟨tp, 6, none⟩ = some (.int .u32 v2.g) := fun o => (blk_cell (blk_alloc SUM.out.1 o) 6).trans rfl
          have x7 : ∀ o, (wr.alloc o).cell? ⟨tp, 7, none⟩ = some (.int .u32 v2.h) := fun o => (blk_cell (blk_alloc SUM.out.1 o) 7).trans rfl
          go_wp2_with fail
          clear x0 x1 x2 x3 x4 x5 x6 x7
          have hob : Aside0 (wa.heap.size ≤ wr.heap.size) := ⟨BEL.out.size⟩
          have OB0 := Aside0.mk (blk_new wr (.cells (nums .u8 (List.replicate 32 0)).toArray 29 (0, 0)))
          have BEL0 := Aside0.mk (below_alloc BEL.out (.cells (nums .u8 (List.replicate 32 0)).toArray 29 (0, 0)))
          change Code.wp _ _ _ _ (wr.alloc (.cells (nums .u8 (List.replicate 32 0)).toArray 29 (0, 0)))
          obtain ⟨ob, hobe⟩ : ∃ ob, wr.heap.size = ob := ⟨_, rfl⟩
          rw [hobe] at hob OB0 ⊢
          clear hobe
          generalize wr.alloc _ = wb at OB0 BEL0 ⊢
          go_loopw [47] (fun i wr => ∃ t : Int, i = .int .i64 t ∧ 0 ≤ t ∧ t ≤ 8 ∧ Aside0 (wr.heap[ob]? = some (.cells (nums .u8 ((out v2).take (4 * t.toNat) ++ List.replicate (32 - 4 * t.toNat) 0)).toArray 29 (0, 0))) ∧ Aside0 (Below wa.heap.size wa wr)) (fun i _ => 8 - (intOf i).toNat)
          case atStart => exact ⟨0, rfl, by omega, by omega, OB0, BEL0⟩
          case round =>
            clear OB0 BEL0
            obtain ⟨t, rfl, ht0, ht8, OB, BELO⟩ := hrel
            by_cases ht : t < 8
            · have hcase : t = 0 ∨ t = 1 ∨ t = 2 ∨ t = 3 ∨ t = 4 ∨ t = 5 ∨ t = 6 ∨ t = 7 := by omega
              clear ht0 ht8 ht
              rcases hcase with rfl | rfl | rfl | rfl | rfl | rfl | rfl | rfl
              · have z0 : wr.cell? ⟨ob, 0, none⟩ = some (.int .u8 0) := (blk_cell OB.out 0).trans rfl
                have z1 : wr.cell? ⟨ob, 1, none⟩ = some (.int .u8 0) := (blk_cell OB.out 1).trans rfl
                have z2 : wr.cell? ⟨ob, 2, none⟩ = some (.int .u8 0) := (blk_cell OB.out 2).trans rfl
                have z3 : wr.cell? ⟨ob, 3, none⟩ = some (.int .u8 0) := (blk_cell OB.out 3).trans rfl
                have q0 := blk_frozen OB.out 0
                have q1 := blk_frozen OB.out 1
                have q2 := blk_frozen OB.out 2
                have q3 := blk_frozen OB.out 3
                go_wp2_with (refine wpList_index_u32 rfl (.tmp 46) (.tmp 47) rfl #[.int .u32 v2.a, .int .u32 v2.b, .int .u32 v2.c, .int .u32 v2.d, .int .u32 v2.e, .int .u32 v2.f, .int .u32 v2.g, .int .u32 v2.h] 0 (.int .u32 v2.a) rfl rfl (by decide) (by decide) rfl ?_)
                exact ⟨⟨1, rfl, by omega, by omega, ⟨blk_put (blk_put (blk_put (blk_put OB.out 0 _ rfl) 1 _ rfl) 2 _ rfl) 3 _ (by rfl)⟩, ⟨RowKit.Below.setCell (p := ⟨ob, 3, none⟩) (RowKit.Below.setCell (p := ⟨ob, 2, none⟩) (RowKit.Below.setCell (p := ⟨ob, 1, none⟩) (RowKit.Below.setCell (p := ⟨ob, 0, none⟩) BELO.out hob.out _) hob.out _) hob.out _) hob.out _⟩⟩, by simp [intOf]⟩
              · have z0 : wr.cell? ⟨ob, 4, none⟩ = some (.int .u8 0) := (blk_cell OB.out 4).trans rfl
                have z1 : wr.cell? ⟨ob, 5, none⟩ = some (.int .u8 0) := (blk_cell OB.out 5).trans rfl
                have z2 : wr.cell? ⟨ob, 6, none⟩ = some (.int .u8 0) := (blk_cell OB.out 6).trans rfl
                have z3 : wr.cell? ⟨ob, 7, none⟩ = some (.int .u8 0) := (blk_cell OB.out 7).trans rfl
                have q0 := blk_frozen OB.out 4
                have q1 := blk_frozen OB.out 5
                have q2 := blk_frozen OB.out 6
                have q3 := blk_frozen OB.out 7
                go_wp2_with (refine wpList_index_u32 rfl (.tmp 46) (.tmp 47) rfl #[.int .u32 v2.a, .int .u32 v2.b, .int .u32 v2.c, .int .u32 v2.d, .int .u32 v2.e, .int .u32 v2.f, .int .u32 v2.g, .int .u32 v2.h] 1 (.int .u32 v2.b) rfl rfl (by decide) (by decide) rfl ?_)
                exact ⟨⟨2, rfl, by omega, by omega, ⟨blk_put (blk_put (blk_put (blk_put OB.out 4 _ rfl) 5 _ rfl) 6 _ rfl) 7 _ (by rfl)⟩, ⟨RowKit.Below.setCell (p := ⟨ob, 7, none⟩) (RowKit.Below.setCell (p := ⟨ob, 6, none⟩) (RowKit.Below.setCell (p := ⟨ob, 5, none⟩) (RowKit.Below.setCell (p := ⟨ob, 4, none⟩) BELO.out hob.out _) hob.out _) hob.out _) hob.out _⟩⟩, by simp [intOf]⟩
              · have z0 : wr.cell? ⟨ob, 8, none⟩ = some (.int .u8 0) := (blk_cell OB.out 8).trans rfl
                have z1 : wr.cell? ⟨ob, 9, none⟩ = some (.int .u8 0) := (blk_cell OB.out 9).trans rfl
                have z2 : wr.cell? ⟨ob, 10, none⟩ = some (.int .u8 0) := (blk_cell OB.out 10).trans rfl
                have z3 : wr.cell? ⟨ob, 11, none⟩ = some (.int .u8 0) := (blk_cell OB.out 11).trans rfl
                have q0 := blk_frozen OB.out 8
                have q1 := blk_frozen OB.out 9
                have q2 := blk_frozen OB.out 10
                have q3 := blk_frozen OB.out 11
                go_wp2_with (refine wpList_index_u32 rfl (.tmp 46) (.tmp 47) rfl #[.int .u32 v2.a, .int .u32 v2.b, .int .u32 v2.c, .int .u32 v2.d, .int .u32 v2.e, .int .u32 v2.f, .int .u32 v2.g, .int .u32 v2.h] 2 (.int .u32 v2.c) rfl rfl (by decide) (by decide) rfl ?_)
                exact ⟨⟨3, rfl, by omega, by omega, ⟨blk_put (blk_put (blk_put (blk_put OB.out 8 _ rfl) 9 _ rfl) 10 _ rfl) 11 _ (by rfl)⟩, ⟨RowKit.Below.setCell (p := ⟨ob, 11, none⟩) (RowKit.Below.setCell (p := ⟨ob, 10, none⟩) (RowKit.Below.setCell (p := ⟨ob, 9, none⟩) (RowKit.Below.setCell (p := ⟨ob, 8, none⟩) BELO.out hob.out _) hob.out _) hob.out _) hob.out _⟩⟩, by simp [intOf]⟩
              · have z0 : wr.cell? ⟨ob, 12, none⟩ = some (.int .u8 0) := (blk_cell OB.out 12).trans rfl
                have z1 : wr.cell? ⟨ob, 13, none⟩ = some (.int .u8 0) := (blk_cell OB.out 13).trans rfl
                have z2 : wr.cell? ⟨ob, 14, none⟩ = some (.int .u8 0) := (blk_cell OB.out 14).trans rfl
                have z3 : wr.cell? ⟨ob, 15, none⟩ = some (.int .u8 0) := (blk_cell OB.out 15).trans rfl
                have q0 := blk_frozen OB.out 12
                have q1 := blk_frozen OB.out 13
                have q2 := blk_frozen OB.out 14
                have q3 := blk_frozen OB.out 15
                go_wp2_with (refine wpList_index_u32 rfl (.tmp 46) (.tmp 47) rfl #[.int .u32 v2.a, .int .u32 v2.b, .int .u32 v2.c, .int .u32 v2.d, .int .u32 v2.e, .int .u32 v2.f, .int .u32 v2.g, .int .u32 v2.h] 3 (.int .u32 v2.d) rfl rfl (by decide) (by decide) rfl ?_)
                exact ⟨⟨4, rfl, by omega, by omega, ⟨blk_put (blk_put (blk_put (blk_put OB.out 12 _ rfl) 13 _ rfl) 14 _ rfl) 15 _ (by rfl)⟩, ⟨RowKit.Below.setCell (p := ⟨ob, 15, none⟩) (RowKit.Below.setCell (p := ⟨ob, 14, none⟩) (RowKit.Below.setCell (p := ⟨ob, 13, none⟩) (RowKit.Below.setCell (p := ⟨ob, 12, none⟩) BELO.out hob.out _) hob.out _) hob.out _) hob.out _⟩⟩, by simp [intOf]⟩
              · have z0 : wr.cell? ⟨ob, 16, none⟩ = some (.int .u8 0) := (blk_cell OB.out 16).trans rfl
                have z1 : wr.cell? ⟨ob, 17, none⟩ = some (.int .u8 0) := (blk_cell OB.out 17).trans rfl
                have z2 : wr.cell? ⟨ob, 18, none⟩ = some (.int .u8 0) := (blk_cell OB.out 18).trans rfl
                have z3 : wr.cell? ⟨ob, 19, none⟩ = some (.int .u8 0) := (blk_cell OB.out 19).trans rfl
                have q0 := blk_frozen OB.out 16
                have q1 := blk_frozen OB.out 17
                have q2 := blk_frozen OB.out 18
                have q3 := blk_frozen OB.out 19
                go_wp2_with (refine wpList_index_u32 rfl (.tmp 46) (.tmp 47) rfl #[.int .u32 v2.a, .int .u32 v2.b, .int .u32 v2.c, .int .u32 v2.d, .int .u32 v2.e, .int .u32 v2.f, .int .u32 v2.g, .int .u32 v2.h] 4 (.int .u32 v2.e) rfl rfl (by decide) (by decide) rfl ?_)
                exact ⟨⟨5, rfl, by omega, by omega, ⟨blk_put (blk_put (blk_put (blk_put OB.out 16 _ rfl) 17 _ rfl) 18 _ rfl) 19 _ (by rfl)⟩, ⟨RowKit.Below.setCell (p := ⟨ob, 19, none⟩) (RowKit.Below.setCell (p := ⟨ob, 18, none⟩) (RowKit.Below.setCell (p := ⟨ob, 17, none⟩) (RowKit.Below.setCell (p := ⟨ob, 16, none⟩) BELO.out hob.out _) hob.out _) hob.out _) hob.out _⟩⟩, by simp [intOf]⟩
              · have z0 : wr.cell? ⟨ob, 20, none⟩ = some (.int .u8 0) := (blk_cell OB.out 20).trans rfl
                have z1 : wr.cell? ⟨ob, 21, none⟩ = some (.int .u8 0) := (blk_cell OB.out 21).trans rfl
                have z2 : wr.cell? ⟨ob, 22, none⟩ = some (.int .u8 0) := (blk_cell OB.out 22).trans rfl
                have z3 : wr.cell? ⟨ob, 23, none⟩ = some (.int .u8 0) := (blk_cell OB.out 23).trans rfl
                have q0 := blk_frozen OB.out 20
                have q1 := blk_frozen OB.out 21
                have q2 := blk_frozen OB.out 22
                have q3 := blk_frozen OB.out 23
                go_wp2_with (refine wpList_index_u32 rfl (.tmp 46) (.tmp 47) rfl #[.int .u32 v2.a, .int .u32 v2.b, .int .u32 v2.c, .int .u32 v2.d, .int .u32 v2.e, .int .u32 v2.f, .int .u32 v2.g, .int .u32 v2.h] 5 (.int .u32 v2.f) rfl rfl (by decide) (by decide) rfl ?_)
                exact ⟨⟨6, rfl, by omega, by omega, ⟨blk_put (blk_put (blk_put (blk_put OB.out 20 _ rfl) 21 _ rfl) 22 _ rfl) 23 _ (by rfl)⟩, ⟨RowKit.Below.setCell (p := ⟨ob, 23, none⟩) (RowKit.Below.setCell (p := ⟨ob, 22, none⟩) (RowKit.Below.setCell (p := ⟨ob, 21, none⟩) (RowKit.Below.setCell (p := ⟨ob, 20, none⟩) BELO.out hob.out _) hob.out _) hob.out _) hob.out _⟩⟩, by simp [intOf]⟩
              · have z0 : wr.cell? ⟨ob, 24, none⟩ = some (.int .u8 0) := (blk_cell OB.out 24).trans rfl
                have z1 : wr.cell? ⟨ob, 25, none⟩ = some (.int .u8 0) := (blk_cell OB.out 25).trans rfl
                have z2 : wr.cell? ⟨ob, 26, none⟩ = some (.int .u8 0) := (blk_cell OB.out 26).trans rfl
                have z3 : wr.cell? ⟨ob, 27, none⟩ = some (.int .u8 0) := (blk_cell OB.out 27).trans rfl
                have q0 := blk_frozen OB.out 24
                have q1 := blk_frozen OB.out 25
                have q2 := blk_frozen OB.out 26
                have q3 := blk_frozen OB.out 27
                go_wp2_with (refine wpList_index_u32 rfl (.tmp 46) (.tmp 47) rfl #[.int .u32 v2.a, .int .u32 v2.b, .int .u32 v2.c, .int .u32 v2.d, .int .u32 v2.e, .int .u32 v2.f, .int .u32 v2.g, .int .u32 v2.h] 6 (.int .u32 v2.g) rfl rfl (by decide) (by decide) rfl ?_)
                exact ⟨⟨7, rfl, by omega, by omega, ⟨blk_put (blk_put (blk_put (blk_put OB.out 24 _ rfl) 25 _ rfl) 26 _ rfl) 27 _ (by rfl)⟩, ⟨RowKit.Below.setCell (p := ⟨ob, 27, none⟩) (RowKit.Below.setCell (p := ⟨ob, 26, none⟩) (RowKit.Below.setCell (p := ⟨ob, 25, none⟩) (RowKit.Below.setCell (p := ⟨ob, 24, none⟩) BELO.out hob.out _) hob.out _) hob.out _) hob.out _⟩⟩, by simp [intOf]⟩
              · have z0 : wr.cell? ⟨ob, 28, none⟩ = some (.int .u8 0) := (blk_cell OB.out 28).trans rfl
                have z1 : wr.cell? ⟨ob, 29, none⟩ = some (.int .u8 0) := (blk_cell OB.out 29).trans rfl
                have z2 : wr.cell? ⟨ob, 30, none⟩ = some (.int .u8 0) := (blk_cell OB.out 30).trans rfl
                have z3 : wr.cell? ⟨ob, 31, none⟩ = some (.int .u8 0) := (blk_cell OB.out 31).trans rfl
                have q0 := blk_frozen OB.out 28
                have q1 := blk_frozen OB.out 29
                have q2 := blk_frozen OB.out 30
                have q3 := blk_frozen OB.out 31
                go_wp2_with (refine wpList_index_u32 rfl (.tmp 46) (.tmp 47) rfl #[.int .u32 v2.a, .int .u32 v2.b, .int .u32 v2.c, .int .u32 v2.d, .int .u32 v2.e, .int .u32 v2.f, .int .u32 v2.g, .int .u32 v2.h] 7 (.int .u32 v2.h) rfl rfl (by decide) (by decide) rfl ?_)
                exact ⟨⟨8, rfl, by omega, by omega, ⟨blk_put (blk_put (blk_put (blk_put OB.out 28 _ rfl) 29 _ rfl) 30 _ rfl) 31 _ (by rfl)⟩, ⟨RowKit.Below.setCell (p := ⟨ob, 31, none⟩) (RowKit.Below.setCell (p := ⟨ob, 30, none⟩) (RowKit.Below.setCell (p := ⟨ob, 29, none⟩) (RowKit.Below.setCell (p := ⟨ob, 28, none⟩) BELO.out hob.out _) hob.out _) hob.out _) hob.out _⟩⟩, by simp [intOf]⟩
            · obtain rfl : t = 8 := by omega
              clear ht0 ht8 ht
              have OB8 : Aside0 (wr.heap[ob]? = some (.cells (nums .u8 (out v2)).toArray 29 (0, 0))) := ⟨OB.out.trans rfl⟩
              have RES2 : Aside0 (wr.heap[w.heap.size]? = some (.cells (nums .u8 (List.replicate 32 0)).toArray 29 (0, 0))) := ⟨(BELO.out.block _ (blk_lt RES.out)).trans RES.out⟩
              clear OB
              go_wp2_with (first | refine wpList_load_row rfl 29 (.tmp 5) rfl ob rfl 29 _ _ _ OB8.out Tryd.underlying29 rfl Tryd.infoD ?_ | refine wpList_store_row rfl 29 (.tmp 2) (.tmp 78) rfl w.heap.size _ rfl rfl 29 _ RES2.out Tryd.infoD rfl (by simp [nums, out, Value.oneCell']) ?_)
              refine bodyPost_ret (results_cell_row (p := 2) (ty := 29) rfl _ _ w.heap.size 29 _ _ _ rfl (setRow_heap _ _ _ _ _ _ RES2.out) Tryd.underlying29 rfl Tryd.infoD) rfl ⟨?_, ?_⟩
              · have hall : absorb (absorb (v, r) (128 :: List.replicate ((119 - n.toNat % 64) % 64) 0)) (len8 n.toNat) = (v2, r2) := by
                  show absorb (absorb (ShaPure.step (v, r) 128) _) _ = _
                  rw [← S0.out, HZ.out, ← HJZ.out, HA1.out, HA3.out]
                show _ = Ending.returned (Value.agg (nums .u8 (out (absorb (absorb (v, r) (128 :: List.replicate ((119 - n.toNat % 64) % 64) 0)) (len8 n.toNat)).1)).toArray)
                rw [hall]
              · have h2 : Below w.heap.size wa wr := ⟨BELO.out.os, BELO.out.tape, BELO.out.output, BELO.out.size, fun k hk => BELO.out.block k (by have := HB0.out.size; omega)⟩
                exact (HB0.out.trans h2).trans ⟨rfl, rfl, rfl, by rw [setRow_size]; exact Nat.le_refl _, fun k hk => setRow_other _ _ _ _ (by omega)⟩
    · have hfb : ((r1.length : Int) == 56) = false := beq_eq_false_iff_ne.mpr (by omega)
      have FF := Aside0.mk hfull
      clear hfull hl1
      go_wp2_with fail
      refine (write_one wa tp v1 r1 (1 + j) _ 0 wr HTA.out SUM.out BEL.out HTP.out (by have := HL1.out; omega) HB1.out (by omega) (by omega) (by have := HJ.out; omega)).mono ?_
      rintro e w6 ⟨rfl, rv6, hs6, hb6, -, -⟩
      have SUM6 := Aside0.mk hs6
      have BEL6 := Aside0.mk hb6
      clear hs6 hb6 z8
      go_wp2_with fail
      have hL := HL1.out
      have hF := FF.out
      have hJ := HJ.out
      have hRR := HR.out
      have hL6 : (ShaPure.step (v1, r1) 0).2.length = (r1.length + 1) % 64 := step_mod (v1, r1) 0 (by show r1.length < 64; omega)
      obtain ⟨RA6, rc6, er6⟩ := Kd.R_slice SUM6.out.2
      subst er6
      have y8 : w6.cell? ⟨tp, 8, none⟩ = some (.slice RA6 (ShaPure.step (v1, r1) 0).2.length rc6) := (blk_cell SUM6.out.1 8).trans rfl
      have x8 : wr.cell? ⟨tp, 8, none⟩ = some (.slice RA1 r1.length rc1) := (blk_cell SUM.out.1 8).trans rfl
      refine ⟨⟨j + 1, _, _, _, ⟨by omega⟩, ⟨?_⟩, ⟨by have := SUM6.out; rw [show (1 + (j : Int) + 1) = 1 + ((j + 1 : Nat) : Int) by omega] at this; exact this⟩, BEL6⟩, ?_⟩
      · rw [List.replicate_succ', absorb_append, HA.out]
        rfl
      · simp only [y8, x8, hL6]
        omega
end Go.Proofs.YtgmdgkanfhoahaaDoor.ShaEnd
