/- Digests compared; ref18.Digest; the two Kids. -/
import Derived.Test.YtgmdgkanfhoahaaDoorRefOf
import Derived.Test.YtgmdgkanfhoahaaDoorTreeLog
import Derived.Test.YtgmdgkanfhoahaaDoorPP2
import Derived.Test.YtgmdgkanfhoahaaDoorPP4
import Derived.ChangeKeysEq
namespace Go.Proofs.YtgmdgkanfhoahaaDoor.Kid
open Go.RowKit Go.Proofs.YtgmdgkanfhoahaaDoor.ShaPure Go.Proofs.YtgmdgkanfhoahaaDoor.ShaBlk Go.Proofs.YtgmdgkanfhoahaaDoor.ShaWrite Go.Proofs.YtgmdgkanfhoahaaDoor.ShaSum Go.Proofs.YtgmdgkanfhoahaaDoor.ShaEnd Go.Proofs.YtgmdgkanfhoahaaDoor.ShaOf Go.Proofs.YtgmdgkanfhoahaaDoor.BytesW Go.Proofs.YtgmdgkanfhoahaaDoor.Put Go.Proofs.YtgmdgkanfhoahaaDoor.LogW Go.Proofs.YtgmdgkanfhoahaaDoor.Dig Go.Proofs.YtgmdgkanfhoahaaDoor.PTreePaths Go.Proofs.YtgmdgkanfhoahaaDoorW.PrintWords Go.Proofs.YtgmdgkanfhoahaaDoorW.PrintLast Go.Proofs.YtgmdgkanfhoahaaDoorW.PrintMore
set_option linter.unusedVariables false
set_option linter.unusedSimpArgs false

theorem Tryd.plain8 : Tryd.prog.plainKey 5 = true := by kernel_rfl
theorem Tryd.cells8 : Tryd.prog.cellsOf 5 = 1 := by kernel_rfl
theorem nums_at (a : List Int) (i : Nat) (h : i < a.length) : (nums .u8 a).toArray[i]? = some (.int .u8 (a.getD i 0)) := by
  simp [nums, List.getElem?_eq_getElem h, List.getD_eq_getElem?_getD]
theorem run_items (d : Nat) (a b : List Int) (w : World) : ∀ is : List Nat, (∀ i ∈ is, i < a.length ∧ i < b.length) →
    (Op.eqItems (d + 1) 5 1 (nums .u8 a).toArray (nums .u8 b).toArray is).run Tryd.prog w = .ok (is.all fun i => a.getD i 0 == b.getD i 0) w
  | [], _ => by simp [Op.eqItems]
  | i :: is, h => by
    have hi := h i List.mem_cons_self
    have p1 := run_part_plain (P := Tryd.prog) (w := w) Tryd.plain8 (nums_at a i hi.1)
    have p2 := run_part_plain (P := Tryd.prog) (w := w) Tryd.plain8 (nums_at b i hi.2)
    have p3 := run_equalIn_int (P := Tryd.prog) w d 5 .u8 .u8 (a.getD i 0) (b.getD i 0) Tryd.underlying5
    have ih := run_items d a b w is (fun j hj => h j (List.mem_cons_of_mem _ hj))
    simp only [Op.eqItems, Nat.mul_one, Sem.run_bind, p1, p2, p3, Result.andThen_ok, List.all_cons]
    by_cases e : (a.getD i 0 == b.getD i 0) = true
    · rw [e]; simpa using ih
    · rw [Bool.not_eq_true] at e
      rw [e]; simp
theorem all_eq (a b : List Int) (n : Nat) (ha : a.length = n) (hb : b.length = n) : ((List.range n).all fun i => a.getD i 0 == b.getD i 0) = (a == b) := by
  rw [Bool.eq_iff_iff, List.all_eq_true, beq_iff_eq]
  constructor
  · intro h
    apply List.ext_getElem (by rw [ha, hb])
    intro i h1 h2
    have := h i (List.mem_range.2 (by omega))
    rw [beq_iff_eq, List.getD_eq_getElem?_getD, List.getD_eq_getElem?_getD, List.getElem?_eq_getElem h1, List.getElem?_eq_getElem h2] at this
    exact this
  · rintro rfl i _
    simp
theorem run_eq32 (a b : List Int) (ha : a.length = 32) (hb : b.length = 32) (w : World) : (Op.equalIn 10000 29 (.agg (nums .u8 a).toArray) (.agg (nums .u8 b).toArray)).run Tryd.prog w = .ok (a == b) w := by
  obtain ⟨i0, hi0, hzz⟩ := Option.map_eq_some_iff.1 Tryd.infoB
  rw [run_equalIn_array w 9999 (n := 32) (e := 5) (i := i0) _ _ Tryd.underlying29 hi0, Tryd.cells8, run_items 9998 a b w (List.range 32) (fun i hi => by have := List.mem_range.1 hi; omega), all_eq a b 32 ha hb]
set_option maxHeartbeats 4000000 in
set_option maxRecDepth 100000 in
theorem refdigest_calls (n : Int) (A : Option Addr) (c : Nat) (l : List Int) (w : World) (hC : Kd.C (Kd.int .u8) w A l.length l) (hc : l.length ≤ c) (hb : Bytes l) (hl : l.length ≤ 10000000000000) :
    Calls Tryd.prog 23 #[.int .i64 n, .slice A l.length c] w fun e w' => e = .returned (.agg (nums .u8 (dig n l)).toArray) ∧ Below w.heap.size w w' := by
  have HC := Aside0.mk hC
  have HCC := Aside0.mk hc
  have HBY := Aside0.mk hb
  have HLL := Aside0.mk hl
  clear hC hc hb hl
  go_enter Tryd.func23, Tryd.ntmps23
  go_wp2_with fail
  have hb0 := below_alloc (Below.refl w.heap.size w) (.cells (nums .u8 (List.replicate 32 0)).toArray 29 (0, 0))
  change Calls _ _ _ (w.alloc (.cells (nums .u8 (List.replicate 32 0)).toArray 29 (0, 0))) _
  have RES := Aside0.mk (blk_new w (.cells (nums .u8 (List.replicate 32 0)).toArray 29 (0, 0)))
  have HB0 := Aside0.mk hb0
  replace HC := Aside0.mk (Kd.C_below HC.out hb0)
  clear hb0
  generalize w.alloc _ = wa at RES HB0 HC ⊢
  obtain ⟨rg, hrg⟩ : ∃ rg, w.heap.size = rg := ⟨_, rfl⟩
  rw [hrg] at RES ⊢
  refine (thimbleref18_Input.calls n A c l (input n l) wa HC.out HCC.out (by
    unfold thimbleref18_Input.f
    have hh : ([1, n % 4294967296 / 16777216, n % 4294967296 / 65536 % 256, n % 4294967296 / 256 % 256, n % 4294967296 % 256] : List Int) = head (n % 4294967296) := by
      unfold head
      rw [show n % 4294967296 / 16777216 % 256 = n % 4294967296 / 16777216 by omega]
    rw [hh]
    show (if (head (n % 4294967296)).length + l.length < _ then some _ else none) = _
    rw [if_pos (by show 5 + l.length < _; have := HLL.out; omega)]
    rfl)).mono ?_
  rintro e w1 ⟨v0, rfl, hR, hb1⟩
  obtain ⟨RA, rc, er⟩ := Kd.R_slice hR
  subst er
  replace RES := Aside0.mk (blk_below RES.out hb1)
  replace HB0 := Aside0.mk (HB0.out.trans (hb1.mono HB0.out.size))
  obtain ⟨-, hrc, hRC⟩ := Kd.R_reads' hR
  have HR := Aside0.mk hRC
  have HRC := Aside0.mk hrc
  have HIB : Aside0 (Bytes (input n l)) := ⟨fun x hx => (List.mem_append.1 hx).elim (head_bytes _ x) (HBY.out x)⟩
  have HIL : Aside0 ((input n l).length ≤ 100000000000000) := ⟨by unfold input; rw [List.length_append]; show 5 + l.length ≤ _; have := HLL.out; omega⟩
  clear hR hb1 hrc hRC
  go_wp2_with fail
  refine (RefOf.of_calls RA rc (input n l) w1 HR.out HRC.out HIB.out HIL.out).mono ?_
  rintro e w2 ⟨rfl, hb2⟩
  replace RES := Aside0.mk (blk_below RES.out hb2)
  replace HB0 := Aside0.mk (HB0.out.trans (hb2.mono HB0.out.size))
  have HDE : Aside0 (sha (input n l) = dig n l) := ⟨rfl⟩
  rw [HDE.out]
  have HDL := Aside0.mk (dig_length n l)
  obtain ⟨D, hD⟩ : ∃ D, dig n l = D := ⟨_, rfl⟩
  rw [hD] at HDL ⊢
  have HDD := Aside0.mk hD
  clear hD hb2 HDE
  have HI : Aside0 ((Tryd.prog.info? 29).map (·.size) = some (nums .u8 D).toArray.size) := ⟨by rw [Tryd.infoD, List.size_toArray, nums, List.length_map, HDL.out]⟩
  have HO : Aside0 ((nums .u8 D).toArray.all (·.oneCell') = true) := ⟨by simp [nums, Value.oneCell']⟩
  have HZ : Aside0 ((nums .u8 (List.replicate 32 0)).toArray.size = (nums .u8 D).toArray.size) := ⟨by rw [List.size_toArray, List.size_toArray, nums, nums, List.length_map, List.length_map, HDL.out, List.length_replicate]⟩
  go_wp2_with (refine wpList_store_row rfl 29 (.tmp 4) (.tmp 8) rfl rg (nums .u8 D).toArray rfl rfl 29 (nums .u8 (List.replicate 32 0)).toArray RES.out HI.out HZ.out HO.out ?_)
  refine bodyPost_ret (results_cell_row (p := 4) (ty := 29) rfl _ _ rg 29 (nums .u8 D).toArray _ _ rfl (setRow_heap _ _ _ _ _ _ RES.out) Tryd.underlying29 rfl HI.out) rfl ?_
  rw [HDD.out]
  exact ⟨rfl, HB0.out.trans ⟨rfl, rfl, rfl, by rw [setRow_size]; exact Nat.le_refl _, fun k hk => setRow_other _ _ _ _ (by omega)⟩⟩
/-! ### a node's digest -/
def kid (i : Nat) (x : List Int) : List Int := (x.drop (32 * i)).take 32
theorem kid_length {i : Nat} {x : List Int} (hx : x.length = 256) (hi : i < 8) : (kid i x).length = 32 := by
  unfold kid
  rw [List.length_take, List.length_drop]
  omega
theorem run_loadVar_at (w : World) (g : Addr) (ty : TypeId) (cs : List Value) (d : TypeDesc) (hc : ∀ j v, cs[j]? = some v → w.cell? (g.add j) = some v)
    (hu : Tryd.prog.underlying ty = some d) (hd : (match d with | .struct _ | .array _ _ => true | _ => false) = true) (hi : (Tryd.prog.info? ty).map (·.size) = some cs.length) :
    (loadVar ty g).run Tryd.prog w = .ok (.agg cs.toArray) w := by
  have hl : (loadCells g cs.length).run Tryd.prog w = .ok cs.toArray w := run_loadCells_list (P := Tryd.prog) w g cs hc
  cases hq : Tryd.prog.info? ty with
  | none => simp [hq] at hi
  | some i =>
    have hs : i.size = cs.length := by simpa [hq] using hi
    have hagg : (isAgg ty).run Tryd.prog w = .ok true w := by
      unfold isAgg
      rw [Sem.run_bind, run_underlying hu w]
      cases d <;> simp_all
    simp [loadVar, Sem.run_bind, hagg, sizeOf, typeInfo, hq, hs, hl]
theorem wpList_load_at {ops : Array Oper} {rest : List Oper} {o : Oper} {a : Act} {w : World} {Q : Exit → Act → World → Prop} (hgd : o.guard = none) (ty : TypeId) (x : Operand) (ho : o.op = .load ty x)
    (g : Addr) (hx : a.eval x = .pointer (some g)) (cs : List Value) (d : TypeDesc) (hc : ∀ j v, cs[j]? = some v → w.cell? (g.add j) = some v)
    (hu : Tryd.prog.underlying ty = some d) (hd : (match d with | .struct _ | .array _ _ => true | _ => false) = true) (hi : (Tryd.prog.info? ty).map (·.size) = some cs.length)
    (h : wpList Tryd.prog ops Q rest (a.put o.dst (.agg cs.toArray)) w) : wpList Tryd.prog ops Q (o :: rest) a w :=
  wpList_plain hgd fun _ hK => by
    unfold Oper.wp execOp
    simp only [ho, hx, Instr.loadAt, Instr.sureAddr, Sem.run_bind, Sem.run_pure, Result.andThen_ok, run_loadVar_at w g ty cs d hc hu hd hi]
    exact hK _ _ h
theorem kid_cell {w : World} {ad : Addr} {x : List Int} {i : Nat} (hC : Kd.C (Kd.int .u8) w (some ad) x.length x) (hx : x.length = 256) (hi : i < 8) : ∀ j v, (nums .u8 (kid i x))[j]? = some v → w.cell? ((ad.add (32 * i)).add j) = some v := by
  intro j v hv
  have hj : j < 32 := by
    have := (List.getElem?_eq_some_iff.1 hv).1
    rw [nums, List.length_map, kid_length hx hi] at this
    exact this
  rw [Addr.add_add, C_cell hC (32 * i + j) (by omega)]
  rw [nums, List.getElem?_map, kid, List.getElem?_take, if_pos hj, List.getElem?_drop, List.getElem?_eq_getElem (by omega)] at hv
  rw [List.getD_eq_getElem?_getD, List.getElem?_eq_getElem (by omega)]
  exact hv
set_option maxHeartbeats 4000000 in
set_option maxRecDepth 100000 in
theorem kid_calls (A : Option Addr) (c : Nat) (x : List Int) (i : Int) (w : World) (hC : Kd.C (Kd.int .u8) w A x.length x) (hx : x.length = 256) (hc : 256 ≤ c) (h0 : 0 ≤ i) (h1 : i < 8) :
    Calls Tryd.prog 27 #[.slice A 256 c, .int .i64 i] w fun e w' => e = .returned (.tuple #[.agg (nums .u8 (kid i.toNat x)).toArray, .int .i64 0]) ∧ Below w.heap.size w w' := by
  have HC := Aside0.mk hC
  have HCC := Aside0.mk hc
  have HX := Aside0.mk hx
  clear hC hc hx
  go_enter Tryd.func27, Tryd.ntmps27
  go_wp2_with fail
  have hb0 := below_alloc (Below.refl w.heap.size w) (.cells (nums .u8 (List.replicate 32 0)).toArray 29 (0, 0))
  change Calls _ _ _ (w.alloc (.cells (nums .u8 (List.replicate 32 0)).toArray 29 (0, 0))) _
  have RES := Aside0.mk (blk_new w (.cells (nums .u8 (List.replicate 32 0)).toArray 29 (0, 0)))
  have HB0 := Aside0.mk hb0
  replace HC := Aside0.mk (Kd.C_below HC.out hb0)
  clear hb0
  generalize w.alloc _ = wa at RES HB0 HC ⊢
  obtain ⟨rg, hrg⟩ : ∃ rg, w.heap.size = rg := ⟨_, rfl⟩
  rw [hrg] at RES ⊢
  have hf := tree_fits.calls A c x i 0 wa HC.out (by rw [HX.out]; exact HCC.out) (by unfold tree_fits.f; rw [if_pos (by rw [HX.out]; rfl), if_neg (by omega), if_neg (by omega)])
  rw [HX.out] at hf
  refine hf.mono ?_
  rintro e w1 ⟨rfl, nd, rfl⟩
  have hb1 := pw_below_drewN (Below.refl wa.heap.size wa) nd
  replace RES := Aside0.mk (blk_below RES.out hb1)
  replace HB0 := Aside0.mk (HB0.out.trans (hb1.mono HB0.out.size))
  replace HC := Aside0.mk (Kd.C_below HC.out hb1)
  clear hb1 hf
  generalize wa.drewN nd = w1 at RES HB0 HC ⊢
  obtain ⟨ad, rfl, -⟩ := HC.out.2.2 (by rw [HX.out]; decide)
  have q2 : IntKind.i64.wrap (32 * i) = 32 * i := IntWalk.i64_in _ (by omega)
  have q3 : 0 ≤ 32 * i := by omega
  have q4 : 32 * i ≤ 256 := by omega
  have q5 : (256 = (32 * i).toNat) = False := eq_false (by omega)
  have q6 : 32 ≤ 256 - (32 * i).toNat := by omega
  have q7 := HCC.out
  have hat : ∀ w, (Instr.arrayAt 29 (.slice (some (ad.add (32 * i).toNat)) (256 - (32 * i).toNat) (c - (32 * i).toNat))).run Tryd.prog w = .ok (.pointer (some (ad.add (32 * i).toNat))) w := fun w => run_arrayAt w _ _ 32 _ _ _ Tryd.underlying29 q6
  have HCELL : Aside0 (∀ j v, (nums .u8 (kid i.toNat x))[j]? = some v → w1.cell? ((ad.add (32 * i).toNat).add j) = some v) := ⟨by rw [show (32 * i).toNat = 32 * i.toNat by omega]; exact kid_cell HC.out HX.out (by omega)⟩
  have HDL : Aside0 ((kid i.toNat x).length = 32) := ⟨kid_length HX.out (by omega)⟩
  obtain ⟨D, hD⟩ : ∃ D, kid i.toNat x = D := ⟨_, rfl⟩
  rw [hD] at HCELL HDL
  have HDD := Aside0.mk hD
  clear hD HC HX
  have HI : Aside0 ((Tryd.prog.info? 29).map (·.size) = some (nums .u8 D).length) := ⟨by rw [Tryd.infoD, nums, List.length_map, HDL.out]⟩
  have HO : Aside0 ((nums .u8 D).toArray.all (·.oneCell') = true) := ⟨by simp [nums, Value.oneCell']⟩
  have HZ : Aside0 ((nums .u8 (List.replicate 32 0)).toArray.size = (nums .u8 D).toArray.size) := ⟨by rw [List.size_toArray, List.size_toArray, nums, nums, List.length_map, List.length_map, HDL.out, List.length_replicate]⟩
  go_wp2_with (first
    | refine wpList_load_at rfl 29 (.tmp 18) rfl (ad.add (32 * i).toNat) rfl (nums .u8 D) _ HCELL.out Tryd.underlying29 rfl HI.out ?_
    | refine wpList_store_row rfl 29 (.tmp 4) (.tmp 19) rfl rg (nums .u8 D).toArray rfl rfl 29 (nums .u8 (List.replicate 32 0)).toArray RES.out (by rw [List.size_toArray]; exact HI.out) HZ.out HO.out ?_)
  refine bodyPost_ret (results_ct (p := 4) (u := 5) (ty := 29) rfl _ _ rg 29 (nums .u8 D).toArray _ _ rfl (setRow_heap _ _ _ _ _ _ RES.out) Tryd.underlying29 rfl (by rw [List.size_toArray]; exact HI.out)) rfl ?_
  rw [HDD.out]
  exact ⟨rfl, HB0.out.trans ⟨rfl, rfl, rfl, by rw [setRow_size]; exact Nat.le_refl _, fun k hk => setRow_other _ _ _ _ (by omega)⟩⟩
end Go.Proofs.YtgmdgkanfhoahaaDoor.Kid
