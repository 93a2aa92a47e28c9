/- The contracts of sha.New and (*sha.Sum).Write: bytes are taken in one by one. -/
import Derived.Test.YtgmdgkanfhoahaaDoorShaBlk
import Derived.Laws.Cover3
namespace Go.Proofs.YtgmdgkanfhoahaaDoor.ShaWrite
open Go.RowKit Go.Proofs.YtgmdgkanfhoahaaDoor.ShaRot Go.Proofs.YtgmdgkanfhoahaaDoor.ShaPure Go.Proofs.YtgmdgkanfhoahaaDoor.ShaBlk Go.Proofs.YtgmdgkanfhoahaaDoorW.PrintWords Go.Proofs.YtgmdgkanfhoahaaDoorW.PrintLast Go.Proofs.YtgmdgkanfhoahaaDoorW.PrintMore
attribute [local go_sem] min2_int min_two
set_option linter.unusedVariables false
set_option linter.unusedSimpArgs false

theorem Tryd.infoB : (Tryd.prog.info? 5).map (fun i => (i.zero, i.size, i.bytes)) = some (some (.int .u8 0), 1, 1) := by kernel_rfl

/-- A sum in memory: its state, the bytes that wait (a row of its own, from block 'base' on), how many bytes came. -/
def SumAt (w : World) (gs base : Nat) (v : V8) (r : List Int) (n : Int) (rv : Value) : Prop :=
  w.heap[gs]? = some (.cells (v.cells ++ [rv, .int .u64 n]).toArray 101 (0, 0)) ∧ Kd.R (Kd.int .u8) 5 w base (fun _ => True) rv r

theorem add_at (g j : Nat) : (⟨g, 0, none⟩ : Addr).add j = ⟨g, j, none⟩ := by unfold Addr.add; split <;> simp_all
/-- A load of an array type from the head of a block. -/
theorem run_loadVar_first (w : World) (g : Nat) (ty : TypeId) (cs : List Value) (d : TypeDesc) (hc : ∀ j v, cs[j]? = some v → w.cell? ⟨g, j, none⟩ = some v)
    (hu : Tryd.prog.underlying ty = some d) (hd : (match d with | .struct _ | .array _ _ => true | _ => false) = true) (hi : (Tryd.prog.info? ty).map (·.size) = some cs.length) :
    (loadVar ty ⟨g, 0, none⟩).run Tryd.prog w = .ok (.agg cs.toArray) w := by
  have hl : (loadCells ⟨g, 0, none⟩ cs.length).run Tryd.prog w = .ok cs.toArray w :=
    run_loadCells_list (P := Tryd.prog) w ⟨g, 0, none⟩ cs (fun j v hv => by
      rw [add_at]
      exact hc j v hv)
  cases hq : Tryd.prog.info? ty with
  | none => simp [hq] at hi
  | some i =>
    have hs : i.size = cs.length := by simpa [hq] using hi
    have hagg : (isAgg ty).run Tryd.prog w = .ok true w := by
      unfold isAgg
      rw [Sem.run_bind, run_underlying hu w]
      cases d <;> simp_all
    simp [loadVar, Sem.run_bind, hagg, sizeOf, typeInfo, hq, hs, hl]
theorem wpList_load_first {ops : Array Oper} {rest : List Oper} {o : Oper} {a : Act} {w : World} {Q : Exit → Act → World → Prop} (hgd : o.guard = none) (ty : TypeId) (x : Operand) (ho : o.op = .load ty x)
    (g : Nat) (hx : a.eval x = .pointer (some ⟨g, 0, none⟩)) (cs : List Value) (d : TypeDesc) (hc : ∀ j v, cs[j]? = some v → w.cell? ⟨g, j, none⟩ = some v)
    (hu : Tryd.prog.underlying ty = some d) (hd : (match d with | .struct _ | .array _ _ => true | _ => false) = true) (hi : (Tryd.prog.info? ty).map (·.size) = some cs.length)
    (h : wpList Tryd.prog ops Q rest (a.put o.dst (.agg cs.toArray)) w) : wpList Tryd.prog ops Q (o :: rest) a w :=
  wpList_plain hgd fun _ hK => by
    unfold Oper.wp execOp
    simp only [ho, hx, Instr.loadAt, Instr.sureAddr, Sem.run_bind, Sem.run_pure, Result.andThen_ok, run_loadVar_first w g ty cs d hc hu hd hi]
    exact hK _ _ h
theorem Tryd.infoA : (Tryd.prog.info? 103).map (·.size) = some 64 := by kernel_rfl
/-- A row of the call's own, as cells. -/
theorem row_cells {e base n c : Nat} {w : World} {ok : Nat → Prop} {A : Option Addr} {k : IntKind} {r : List Int} (h : Kd.R (Kd.int k) e w base ok (.slice A n c) r) (hn : 0 < r.length) :
    ∃ g, A = some ⟨g, 0, none⟩ ∧ n = r.length ∧ base ≤ g ∧ ∀ j v, (nums k r)[j]? = some v → w.cell? ⟨g, j, none⟩ = some v := by
  obtain ⟨rfl, hcap, hC⟩ := Kd.R_reads' h
  rcases (Kd.own_of_R h).2 with ⟨he, h0⟩ | ⟨g, cap, cur, he, hg, hh, hx⟩
  · omega
  · injection he with h1 h2 h3
    subst h1
    refine ⟨g, rfl, rfl, hg, fun j v hv => ?_⟩
    have hj : j < r.length := by
      by_cases hj : j < r.length
      · exact hj
      · rw [List.getElem?_eq_none (by simpa [nums] using (by omega))] at hv
        simp at hv
    obtain ⟨ad, had, hc⟩ := Kd.at_int hC (j : Int) (by omega) (by omega)
    injection had with had
    subst had
    rw [show ((j : Int)).toNat = j by omega, add_at] at hc
    rw [hc]
    rw [nums, List.getElem?_map, List.getElem?_eq_getElem hj] at hv
    simp only [Option.map_some] at hv
    rw [← hv]
    congr 2
    unfold rd
    rw [List.getD_eq_getElem?_getD, show ((j : Int)).toNat = j by omega, List.getElem?_eq_getElem hj]
    rfl

set_option maxHeartbeats 4000000 in
set_option maxRecDepth 100000 in
theorem write_calls (gs base : Nat) (v : V8) (r : List Int) (n : Int) (rv : Value) (A : Option Addr) (c : Nat) (l : List Int) (w : World)
    (hs : SumAt w gs base v r n rv) (hbase : base ≤ w.heap.size) (hgs : base ≤ gs) (hr : r.length < 64) (hrb : Bytes r) (hlb : Bytes l) (hn : 0 ≤ n) (hnl : n + l.length ≤ 1000000000000000) (hc : l.length ≤ c)
    (hp : ∀ W', KeepBut w W' gs rv.ownBlock → Kd.C (Kd.int .u8) W' A l.length l)
    (hT : ∀ W', KeepBut w W' gs rv.ownBlock → ∀ i : Int, 0 ≤ i → i < 64 → W'.cell? ⟨1, i.toNat, none⟩ = some (.int .u32 (rd KT i))) :
    Calls Tryd.prog 49 #[.pointer (some ⟨gs, 0, none⟩), .slice A l.length c] w fun e w' => e = .returned (.tuple #[]) ∧
      ∃ rv', SumAt w' gs base (absorb (v, r) l).1 (absorb (v, r) l).2 (n + l.length) rv' ∧ Below base w w' ∧ KeepBut w w' gs rv.ownBlock ∧ (rv'.ownBlock = rv.ownBlock ∨ ∃ b, rv'.ownBlock = some b ∧ w.heap.size ≤ b) := by
  obtain ⟨hst, hrow⟩ := hs
  have HN := Aside0.mk hnl
  go_enter Tryd.func49, Tryd.ntmps49
  have z9 : w.cell? ⟨gs, 9, none⟩ = some (.int .u64 n) := (blk_cell hst 9).trans rfl
  have f9 := blk_frozen hst 9
  go_wp2
  have HM : IntKind.u64.wrap (n + l.length) = n + l.length := IntWalk.u64_in _ (by omega)
  go_wp2
  obtain ⟨m, hm⟩ : ∃ m : Int, m = n + l.length := ⟨_, rfl⟩
  rw [← hm]
  have CELLS := Aside0.mk (show (w.setCell ⟨gs, 9, none⟩ (.int .u64 m)).heap[gs]? = some (.cells (v.cells ++ [rv, .int .u64 m]).toArray 101 (0, 0)) from blk_put hst 9 _ rfl)
  have ROW := Aside0.mk (show Kd.R (Kd.int .u8) 5 (w.setCell ⟨gs, 9, none⟩ (.int .u64 m)) base (fun _ => True) rv r from Kd.R_mono (Kd.R_set (g := gs) hrow hst (by decide) 9 _) (fun _ h => h))
  have BEL := Aside0.mk (show Below base w (w.setCell ⟨gs, 9, none⟩ (.int .u64 m)) from RowKit.Below.setCell (p := ⟨gs, 9, none⟩) (Below.refl _ _) hgs _)
  have KEP := Aside0.mk (show KeepBut w (w.setCell ⟨gs, 9, none⟩ (.int .u64 m)) gs rv.ownBlock from (KeepBut.refl w gs _).set_ 9 _)
  have HMM := Aside0.mk hm
  have HP := Aside0.mk hp
  have HT := Aside0.mk hT
  have GL := Aside0.mk (blk_lt hst)
  have HBS := Aside0.mk hbase
  have HGS := Aside0.mk hgs
  clear hm HM hst hrow hp hT z9 f9 hbase hgs
  go_loopw [1] (fun p wr => ∃ (A1 : Option Addr) (c1 : Nat) (l1 : List Int) (v1 : V8) (r1 : List Int) (rv1 : Value), p = .slice A1 l1.length c1 ∧ Aside0 (l1.length ≤ c1 ∧ l1.length ≤ l.length) ∧ Aside0 (∀ W', KeepBut w W' gs rv.ownBlock → Kd.C (Kd.int .u8) W' A1 l1.length l1) ∧
      Aside0 (absorb (v1, r1) l1 = absorb (v, r) l) ∧ Aside0 (r1.length < 64 ∧ Bytes r1 ∧ Bytes l1) ∧ Aside0 (wr.heap[gs]? = some (.cells (v1.cells ++ [rv1, .int .u64 m]).toArray 101 (0, 0))) ∧
      Aside0 (Kd.R (Kd.int .u8) 5 wr base (fun _ => True) rv1 r1) ∧ Aside0 (Below base w wr) ∧ Aside0 (KeepBut w wr gs rv.ownBlock) ∧ Aside0 (rv1.ownBlock = rv.ownBlock ∨ ∃ b, rv1.ownBlock = some b ∧ w.heap.size ≤ b))
    (fun p _ => match p with | .slice _ n _ => n | _ => 0)
  case atStart => exact ⟨A, c, l, v, r, rv, rfl, ⟨hc, Nat.le_refl _⟩, HP, ⟨rfl⟩, ⟨hr, hrb, hlb⟩, CELLS, ROW, BEL, KEP, ⟨.inl rfl⟩⟩
  case round =>
    clear CELLS ROW BEL KEP hr hrb hlb hc
    obtain ⟨A1, c1, l1, v1, r1, rv1, rfl, HC1, HP1, HA, HR, CELLS, ROW, BEL, KEP, OWN⟩ := hrel
    by_cases hl : 0 < l1.length
    · obtain ⟨k, hk⟩ : ∃ k : Int, (if (l1.length : Int) < 64 - r1.length then (l1.length : Int) else 64 - r1.length) = k := ⟨_, rfl⟩
      have hR1 := HR.out.1
      have k0 : 0 < k := by rw [← hk]; split <;> omega
      have k1 : k ≤ l1.length := by rw [← hk]; split <;> omega
      have k2 : r1.length + k ≤ 64 := by rw [← hk]; split <;> omega
      have KF := Aside0.mk (show (k = l1.length ∧ r1.length + k < 64) ∨ r1.length + k = 64 by rw [← hk]; split <;> omega)
      obtain ⟨RA, rc, er⟩ := Kd.R_slice ROW.out
      subst er
      have z8 : wr.cell? ⟨gs, 8, none⟩ = some (.slice RA r1.length rc) := (blk_cell CELLS.out 8).trans rfl
      go_wp2_with fail
      obtain ⟨i0, hi0, hzz⟩ := Option.map_eq_some_iff.1 Tryd.infoB
      simp only [Prod.mk.injEq] at hzz
      obtain ⟨htk, hrd, hle⟩ := print_take_int (k := .u8) 22 5 Tryd.underlying22 hi0 hzz.2.1 A1 c1 l1 k (by omega) k1 HC1.out.1
      have HRD := Aside0.mk hrd
      clear hrd hle
      refine start_ (n := 12) (S := fun w' => w'.cell? ⟨gs, 8, none⟩ = some (.slice RA r1.length rc)) (ds := [11]) #[false, false, false, false, false, false, false, false, false, false, false, false] (by kernel_rfl) rfl rfl ((blk_cell (blk_drew CELLS.out) 8).trans rfl) (fun hHeld => ?_)
      have CELLS2 := Aside0.mk (blk_drew CELLS.out)
      have ROW2 := Aside0.mk (Kd.R_drew ROW.out)
      have BEL2 := Aside0.mk (below_drew BEL.out)
      have KEP2 := Aside0.mk (show KeepBut w wr.drew gs rv.ownBlock from KEP.out)
      clear CELLS ROW BEL KEP z8
      generalize wr.drew = w2 at CELLS2 ROW2 BEL2 KEP2 hHeld ⊢
      refine pure_ (i := 0) (N := some 29) (v := ?_) (a' := ?_) #[true, false, false, false, false, false, false, false, false, false, false, false] rfl rfl (by kernel_rfl) (fun _ _ _ h => h) (Or.inl ⟨by rfl, ?_⟩) ?_ ?_
      rotate_left
      · intro w'
        go_simp
        with_reducible rfl
      rotate_left
      · simp only [Act.put, List.setIfInBounds_toArray, List.set_cons_zero, List.set_cons_succ, i64_w, i32_w]
        rfl
      refine pure_ (i := 1) (N := some 30) (v := ?_) (a' := ?_) #[true, true, false, false, false, false, false, false, false, false, false, false] rfl rfl (by kernel_rfl) (fun _ _ _ h => h) (Or.inl ⟨by rfl, ?_⟩) ?_ ?_
      rotate_left
      · intro w'
        go_simp
        with_reducible rfl
      rotate_left
      · simp only [Act.put, List.setIfInBounds_toArray, List.set_cons_zero, List.set_cons_succ, i64_w, i32_w]
        rfl
      refine pure_ (i := 5) (N := some 34) (v := ?_) (a' := ?_) #[true, true, false, false, false, true, false, false, false, false, false, false] rfl rfl (by kernel_rfl) (fun _ _ _ h => h) (Or.inl ⟨by rfl, ?_⟩) ?_ ?_
      rotate_left
      · intro w'
        go_simp
        with_reducible rfl
      rotate_left
      · simp only [Act.put, List.setIfInBounds_toArray, List.set_cons_zero, List.set_cons_succ, i64_w, i32_w]
        rfl
      refine pure_ (i := 6) (N := some 35) (v := ?_) (a' := ?_) #[true, true, false, false, false, true, true, false, false, false, false, false] rfl rfl (by kernel_rfl) (fun _ _ _ h => h) (Or.inl ⟨by rfl, ?_⟩) ?_ ?_
      rotate_left
      · intro w'
        go_simp
        with_reducible rfl
      rotate_left
      · simp only [Act.put, List.setIfInBounds_toArray, List.set_cons_zero, List.set_cons_succ, i64_w, i32_w]
        rfl
      refine pure_ (i := 2) (N := some 31) (v := ?_) (a' := ?_) #[true, true, true, false, false, true, true, false, false, false, false, false] rfl rfl (by kernel_rfl) (fun _ _ _ h => h) (Or.inl ⟨by rfl, ?_⟩) ?_ ?_
      rotate_left
      · intro w'
        go_simp
        with_reducible rfl
      rotate_left
      · simp only [Act.put, List.setIfInBounds_toArray, List.set_cons_zero, List.set_cons_succ, i64_w, i32_w]
        rfl
      refine pure_ (i := 3) (N := some 32) (v := ?_) (a' := ?_) #[true, true, true, true, false, true, true, false, false, false, false, false] rfl rfl (by kernel_rfl) (fun _ _ _ h => h) (Or.inl ⟨by rfl, ?_⟩) ?_ ?_
      rotate_left
      · intro w'
        go_simp
        with_reducible rfl
      rotate_left
      · simp only [Act.put, List.setIfInBounds_toArray, List.set_cons_zero, List.set_cons_succ, i64_w, i32_w]
        rfl
      refine pure_ (i := 7) (N := some 36) (v := ?_) (a' := ?_) #[true, true, true, true, false, true, true, true, false, false, false, false] rfl rfl (by kernel_rfl) (fun _ _ _ h => h) (Or.inl ⟨by rfl, ?_⟩) ?_ ?_
      rotate_left
      · intro w'
        go_simp
        with_reducible rfl
      rotate_left
      · simp only [Act.put, List.setIfInBounds_toArray, List.set_cons_zero, List.set_cons_succ, i64_w, i32_w]
        rfl
      refine take_ (i := 4) (N := some 33) (v := ?_) (a' := ?_) #[true, true, true, true, true, true, true, true, false, false, false, false] rfl rfl (by kernel_rfl) (fun _ _ _ h => h) (Or.inl ⟨by rfl, ?_⟩) hHeld ?_ ?_
      rotate_left
      · rintro w' s0
        go_simp
        with_reducible rfl
      rotate_left
      · simp only [Act.put, List.setIfInBounds_toArray, List.set_cons_zero, List.set_cons_succ, i64_w, i32_w]
        rfl
      have LT := Aside0.mk (show (l1.take k.toNat).length = k.toNat by rw [List.length_take]; omega)
      have CT := Aside0.mk (show Kd.C (Kd.int .u8) w2 A1 k.toNat (l1.take k.toNat) by
        have := Kd.C_take (m := k.toNat) (HP1.out w2 KEP2.out) (by omega)
        rw [LT.out] at this
        exact this)
      refine one_ (i := 8) (N := some 37) #[true, true, true, true, true, true, true, true, true, false, false, false] rfl rfl (by kernel_rfl) (by decide) (fun K hK => ?_)
      refine Kd.R_append_rows_step (Kd.int .u8) (Rr := (Kd.int .u8).K w2) (w0 := w) base (by rfl) (.tmp 33) (.tmp 36) 22 5 (.int .u8 0) 1 rfl Tryd.underlying22 Tryd.infoB rfl (by decide) (by omega) (.slice RA r1.length rc) r1 (l1.take k.toNat) A1 k.toNat c1 (fun _ => True) (fun _ => False) rfl rfl ROW2.out CT.out (fun x cs h => h) (fun _ h => h.elim) (fun _ _ => trivial) BEL2.out (Nat.le_trans HBS.out (by have := KEP2.out.1; omega)) (by omega) ?_
      intro v2 w3 ho hb hg hat
      have CELLS3 := Aside0.mk (blk_grown CELLS2.out hg (Kd.R_ne ROW2.out CELLS2.out (by decide)))
      have ROW3 := Aside0.mk ho
      have BEL3 := Aside0.mk hb
      have KEP3 := Aside0.mk (show KeepBut w w3 gs rv.ownBlock from KEP2.out.trans (KeepBut.of_grown hg gs) (OWN.out))
      have OWN3 : Aside0 (v2.ownBlock = rv.ownBlock ∨ ∃ b, v2.ownBlock = some b ∧ w.heap.size ≤ b) := ⟨by
        rcases hat with h | ⟨b, h, hb2⟩
        · rw [h]
          exact OWN.out
        · exact .inr ⟨b, h, Nat.le_trans KEP2.out.1 hb2⟩⟩
      clear ho hb hg hat CELLS2 ROW2 BEL2 KEP2 OWN
      obtain ⟨RB, rd2, er⟩ := Kd.R_slice ROW3.out
      subst er
      have y8 : w3.cell? ⟨gs, 8, none⟩ = some (.slice RA r1.length rc) := (blk_cell CELLS3.out 8).trans rfl
      have g8 := blk_frozen CELLS3.out 8
      refine hK.out _ _ ((blk_cell CELLS3.out 8).trans rfl) (fun hHeld => ?_)
      clear hK K
      refine norm_ (a' := ?_) ?_ ?_
      rotate_left
      · show Act.put _ (some 37) _ = _
        simp only [Act.put, List.setIfInBounds_toArray, List.set_cons_zero, List.set_cons_succ, i64_w, i32_w]
        rfl
      refine pure_ (i := 9) (N := some 38) (v := ?_) (a' := ?_) #[true, true, true, true, true, true, true, true, true, true, false, false] rfl rfl (by kernel_rfl) (fun _ _ _ h => h) (Or.inl ⟨by rfl, ?_⟩) ?_ ?_
      rotate_left
      · intro w'
        go_simp
        with_reducible rfl
      rotate_left
      · simp only [Act.put, List.setIfInBounds_toArray, List.set_cons_zero, List.set_cons_succ, i64_w, i32_w]
        rfl
      refine pure_ (i := 10) (N := some 39) (v := ?_) (a' := ?_) #[true, true, true, true, true, true, true, true, true, true, true, false] rfl rfl (by kernel_rfl) (fun _ _ _ h => h) (Or.inl ⟨by rfl, ?_⟩) ?_ ?_
      rotate_left
      · intro w'
        go_simp
        with_reducible rfl
      rotate_left
      · simp only [Act.put, List.setIfInBounds_toArray, List.set_cons_zero, List.set_cons_succ, i64_w, i32_w]
        rfl
      refine last_ (i := 11) (N := none) #[true, true, true, true, true, true, true, true, true, true, true, true] rfl rfl (by kernel_rfl) (by decide) (fun K hK => ?_)
      refine skip_ (w1 := w3.setCell ⟨gs, 8, none⟩ (.slice RB (r1 ++ l1.take k.toNat).length rd2)) (by rfl) rfl (by go_simp) ?_
      refine hK.out _ _ ?_
      clear hK K
      refine done_ (by kernel_rfl) ?_
      have CELLS4 := Aside0.mk (show (w3.setCell ⟨gs, 8, none⟩ (.slice RB (r1 ++ l1.take k.toNat).length rd2)).heap[gs]? = some (.cells (v1.cells ++ [Value.slice RB (r1 ++ l1.take k.toNat).length rd2, .int .u64 m]).toArray 101 (0, 0)) from blk_put CELLS3.out 8 _ rfl)
      have ROW4 := Aside0.mk (Kd.R_mono (Kd.R_set (g := gs) ROW3.out CELLS3.out (by decide) 8 (.slice RB (r1 ++ l1.take k.toNat).length rd2)) (ok' := fun _ => True) (fun _ h => h))
      have BEL4 := Aside0.mk (RowKit.Below.setCell (p := ⟨gs, 8, none⟩) BEL3.out HGS.out (.slice RB (r1 ++ l1.take k.toNat).length rd2))
      have KEP4 := Aside0.mk (KEP3.out.set_ 8 (.slice RB (r1 ++ l1.take k.toNat).length rd2))
      have LR := Aside0.mk (show (r1 ++ l1.take k.toNat).length = r1.length + k.toNat by rw [List.length_append, LT.out])
      clear y8 g8 CELLS3 ROW3 BEL3 KEP3 CT hHeld
      generalize w3.setCell ⟨gs, 8, none⟩ (.slice RB (r1 ++ l1.take k.toNat).length rd2) = w4 at CELLS4 ROW4 BEL4 KEP4 ⊢
      obtain ⟨r2, hr2⟩ : ∃ r2, r2 = r1 ++ l1.take k.toNat := ⟨_, rfl⟩
      rw [← hr2] at CELLS4 ROW4 LR OWN3 ⊢
      have R2 := Aside0.mk hr2
      clear hr2
      obtain ⟨A2, hdr, hrd2, hle2⟩ := print_drop_of (P := Tryd.prog) (Value.int .u8) (0 : Int) 22 5 .i64 Tryd.underlying22 hi0 hzz.2.1 A1 c1 l1 k (by omega) k1 HC1.out.1
      have DL := Aside0.mk (show (l1.drop k.toNat).length = l1.length - k.toNat from List.length_drop)
      rw [DL.out] at hdr
      have HRD2 := Aside0.mk hrd2
      have HLE2 := Aside0.mk hle2
      have HR1 := Aside0.mk hR1
      clear hrd2 hle2 hR1
      have y8 : w4.cell? ⟨gs, 8, none⟩ = some (.slice RB r2.length rd2) := (blk_cell CELLS4.out 8).trans rfl
      have PN := Aside0.mk (show ∀ W', KeepBut w W' gs rv.ownBlock → Kd.C (Kd.int .u8) W' A2 (l1.drop k.toNat).length (l1.drop k.toNat) from fun W' hW => Kd.C_of_reads (d := (0 : Int)) (h1 := fun _ => rfl) (HRD2.out W' (Kd.reads_of_C (enc := Value.int .u8) (d := (0 : Int)) (h1 := fun _ => rfl) (HP1.out W' hW))))
      have BR := Aside0.mk (show Bytes r2 by rw [R2.out]; intro x hx; rcases List.mem_append.1 hx with h | h; exact HR.out.2.1 x h; exact HR.out.2.2 x (List.mem_of_mem_take h))
      have BD := Aside0.mk (show Bytes (l1.drop k.toNat) from fun x hx => HR.out.2.2 x (List.mem_of_mem_drop hx))
      by_cases hfull : r2.length = 64
      · have hfb : ((r2.length : Int) == 64) = true := beq_iff_eq.mpr (by omega)
        have FF := Aside0.mk hfull
        clear hfull
        obtain ⟨RG, rfl, hRn, hRg, hRc⟩ := row_cells ROW4.out (by have := FF.out; omega)
        have HRC := Aside0.mk hRc
        have HRG := Aside0.mk hRg
        clear hRc hRg hRn
        have hat : ∀ w, (Instr.arrayAt 103 (.slice (some ⟨RG, 0, none⟩) r2.length rd2)).run Tryd.prog w = .ok (.pointer (some ⟨RG, 0, none⟩)) w := fun w => run_arrayAt w _ _ 64 _ r2.length rd2 Tryd.underlying103 (by have := FF.out; omega)
        have HAT := Aside0.mk hat
        clear hat
        go_wp2_with fail
        simp only [HAT.out, Result.andThen_ok]
        go_step
        go_step
        refine wpList_load_first rfl 103 (.tmp 54) rfl RG rfl (nums .u8 r2) _ HRC.out Tryd.underlying103 rfl (by rw [Tryd.infoA, nums, List.length_map, FF.out]) ?_
        go_wp2_with fail
        refine (block_calls gs v1.a v1.b v1.c v1.d v1.e v1.f v1.g v1.h m (.slice (some ⟨RG, 0, none⟩) r2.length rd2) r2 w4 FF.out BR.out (HT.out w4 KEP4.out) CELLS4.out).mono ?_
        rintro e w5 ⟨rfl, hc5, hg5⟩
        have CELLS5 := Aside0.mk hc5
        have ROW5 := Aside0.mk (Kd.R_grown1 ROW4.out rfl hg5 (Kd.R_ne ROW4.out CELLS4.out (by decide)))
        have BEL5 := Aside0.mk (BEL4.out.grown hg5 (Nat.le_trans HBS.out KEP4.out.1) (fun k hk => by injection hk with hk; rw [← hk]; exact HGS.out))
        have KEP5 : Aside0 (KeepBut w w5 gs rv.ownBlock) := ⟨⟨Nat.le_trans KEP4.out.1 hg5.size, fun i hi hne hr => (hg5.block i (by have := KEP4.out.1; omega) (by simp [hne])).trans (KEP4.out.2 i hi hne hr)⟩⟩
        clear hc5 hg5 y8 CELLS4 ROW4 BEL4 KEP4
        have x8 : w5.cell? ⟨gs, 8, none⟩ = some (.slice (some ⟨RG, 0, none⟩) r2.length rd2) := (blk_cell CELLS5.out 8).trans rfl
        have g8 := blk_frozen CELLS5.out 8
        have hcap := (Kd.R_reads' ROW5.out).2.1
        go_wp2_with fail
        refine ⟨⟨A2, c1 - k.toNat, l1.drop k.toNat, blk v1 r2, [], .slice (some ⟨RG, 0, none⟩) 0 rd2, by rw [DL.out], ⟨by have := HLE2.out; omega, by have := HC1.out; rw [DL.out]; omega⟩, PN, ⟨?_⟩, ⟨by decide, by intro x hx; simp at hx, BD.out⟩, ⟨blk_put CELLS5.out 8 _ rfl⟩, ⟨Kd.R_mono (Kd.R_set (g := gs) (Kd.R_take (m := 0) ROW5.out (by omega)) CELLS5.out (by decide) 8 _) (fun _ h => h)⟩, ⟨RowKit.Below.setCell (p := ⟨gs, 8, none⟩) BEL5.out HGS.out _⟩, ⟨KEP5.out.set_ 8 _⟩, ⟨OWN3.out⟩⟩, by show l1.length - k.toNat < l1.length; omega⟩
        rw [← HA.out, R2.out]
        conv => rhs; rw [← List.take_append_drop k.toNat l1]
        rw [absorb_append, absorb_fills v1 (l1.take k.toNat) r1 (by have := FF.out; have := LR.out; rw [LT.out]; omega) (by intro h0; have := LT.out; rw [h0] at this; simp at this; omega)]
      · have hfb : ((r2.length : Int) == 64) = false := beq_eq_false_iff_ne.mpr (by omega)
        have FF := Aside0.mk hfull
        clear hfull
        go_wp2
        have hf := KF.out.resolve_right (fun h => FF.out (by rw [LR.out]; omega))
        refine ⟨⟨A2, c1 - k.toNat, l1.drop k.toNat, v1, r2, .slice RB r2.length rd2, by rw [DL.out], ⟨by have := HLE2.out; omega, by have := HC1.out; rw [DL.out]; omega⟩, PN, ⟨?_⟩, ⟨by have := LR.out; omega, BR.out, BD.out⟩, CELLS4, ROW4, BEL4, KEP4, OWN3⟩, by show l1.length - k.toNat < l1.length; omega⟩
        rw [← HA.out, R2.out]
        conv => rhs; rw [← List.take_append_drop k.toNat l1]
        rw [absorb_append, absorb_fits v1 (l1.take k.toNat) r1 (by rw [LT.out]; omega)]
    · obtain rfl : l1 = [] := List.eq_nil_of_length_eq_zero (by omega)
      go_wp2
      go_end0
      refine ⟨rfl, rv1, ⟨?_, ?_⟩, BEL.out, KEP.out, OWN.out⟩
      · rw [← HA.out, ← HMM.out]
        exact CELLS.out
      · rw [← HA.out]
        exact ROW.out
end Go.Proofs.YtgmdgkanfhoahaaDoor.ShaWrite
