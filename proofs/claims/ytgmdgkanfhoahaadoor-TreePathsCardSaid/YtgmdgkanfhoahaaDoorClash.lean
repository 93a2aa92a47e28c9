/- ghost.Clash: the walk. -/
import Derived.Test.YtgmdgkanfhoahaaDoorClashP
import Derived.Test.YtgmdgkanfhoahaaDoorEvs
import Derived.Maps.OwnOps
namespace Go.Proofs.YtgmdgkanfhoahaaDoor.ClashW
open Go.RowKit Go.Maps Go.WideShapes Go.Proofs.YtgmdgkanfhoahaaDoor.ShaPure Go.Proofs.YtgmdgkanfhoahaaDoor.ShaBlk Go.Proofs.YtgmdgkanfhoahaaDoor.ShaWrite Go.Proofs.YtgmdgkanfhoahaaDoor.ShaSum Go.Proofs.YtgmdgkanfhoahaaDoor.ShaEnd Go.Proofs.YtgmdgkanfhoahaaDoor.ShaOf Go.Proofs.YtgmdgkanfhoahaaDoor.BytesW Go.Proofs.YtgmdgkanfhoahaaDoor.Put Go.Proofs.YtgmdgkanfhoahaaDoor.LogW Go.Proofs.YtgmdgkanfhoahaaDoor.Dig Go.Proofs.YtgmdgkanfhoahaaDoor.Hdr Go.Proofs.YtgmdgkanfhoahaaDoor.Above Go.Proofs.YtgmdgkanfhoahaaDoor.Kid Go.Proofs.YtgmdgkanfhoahaaDoor.AwakeA Go.Proofs.YtgmdgkanfhoahaaDoor.PathP Go.Proofs.YtgmdgkanfhoahaaDoor.ClashP Go.Proofs.YtgmdgkanfhoahaaDoor.CheckT Go.Proofs.YtgmdgkanfhoahaaDoor.PTreePaths Go.Proofs.YtgmdgkanfhoahaaDoorW.PrintWords Go.Proofs.YtgmdgkanfhoahaaDoorW.PrintLast Go.Proofs.YtgmdgkanfhoahaaDoorW.PrintMore
set_option linter.unusedVariables false
set_option linter.unusedSimpArgs false

theorem run_loadVar_cells {P : Program} (w : World) (ad : Addr) (ty : TypeId) (cs : List Value) (d : TypeDesc) (hc : ∀ j v, cs[j]? = some v → w.cell? (ad.add j) = some v)
    (hu : P.underlying ty = some d) (hd : (match d with | .struct _ | .array _ _ => true | _ => false) = true) (hi : (P.info? ty).map (·.size) = some cs.length) :
    (loadVar ty ad).run P w = .ok (.agg cs.toArray) w := by
  have hl : (loadCells ad cs.length).run P w = .ok cs.toArray w := run_loadCells_list (P := P) w ad cs hc
  cases hq : P.info? ty with
  | none => simp [hq] at hi
  | some i =>
    have hs : i.size = cs.length := by simpa [hq] using hi
    have hagg : (isAgg ty).run P w = .ok true w := by
      unfold isAgg
      rw [Sem.run_bind, run_underlying hu w]
      cases d <;> simp_all
    simp [loadVar, Sem.run_bind, hagg, sizeOf, typeInfo, hq, hs, hl]
theorem ev_load_cells {P : Program} {o : Oper} {ev : Operand → Value} {w : World} (ty : TypeId) (x : Operand) (ho : o.op = .load ty x) (ad : Addr) (hx : ev x = .pointer (some ad)) (cs : List Value) (d : TypeDesc) (hc : ∀ j v, cs[j]? = some v → w.cell? (ad.add j) = some v)
    (hu : P.underlying ty = some d) (hd : (match d with | .struct _ | .array _ _ => true | _ => false) = true) (hi : (P.info? ty).map (·.size) = some cs.length) :
    (execOp ev o).run P w = .ok (.value (.agg cs.toArray)) w := by
  unfold execOp
  simp only [ho, hx, Instr.loadAt, Instr.sureAddr, Sem.run_bind, Sem.run_pure, Result.andThen_ok, run_loadVar_cells w ad ty cs d hc hu hd hi]
theorem PK_at {w : World} {A : Option Addr} {n : Nat} {ps : PS} (h : PK.C w A n ps) (i : Nat) (h1 : i < n) :
    ∃ ad A1 c1, A = some ad ∧ (inp ps i).length ≤ c1 ∧ Kd.C (Kd.int .u8) w A1 (inp ps i).length (inp ps i) ∧ (dg ps i).length = 32 ∧ ∀ j v, ((.slice A1 (inp ps i).length c1) :: nums .u8 (dg ps i))[j]? = some v → w.cell? (ad.add (i * 33 + j)) = some v := by
  obtain ⟨ad, cs, hA, hl, ⟨c0, c1, rfl, ⟨A1, cc, rfl, hc, hC⟩, h2⟩, hcell⟩ := ReadsRow.get_ h ([], []) (i : Int) (by omega) (by omega)
  obtain ⟨h3, rfl⟩ := Kd.arr_cells h2
  exact ⟨ad, A1, cc, hA, hc, hC, h3, fun j v hv => hcell j v hv⟩
theorem back_bytes {a : List Int} (ha : Bytes a) : ((strOfNums a).toList.map fun u => (u.toNat : Int)) = a := by
  show ((strOfNums a).toList.map _) = _
  rw [Lib.strOfNums_toList]
  unfold Lib.bytesOf
  rw [List.map_map]
  refine (List.map_congr_left fun x hx => ?_).trans (List.map_id a)
  have := ha x hx
  show ((UInt8.ofNat x.toNat).toNat : Int) = x
  rw [UInt8.toNat_ofNat']
  omega
theorem eq_bytes {a b : List Int} (ha : Bytes a) (hb : Bytes b) (h : ((strOfNums a).toList == (strOfNums b).toList) = true) : a = b := by
  rw [← back_bytes ha, ← back_bytes hb, beq_iff_eq.1 h]
/-! ### bytes_Equal: function 30 -/
def bytes_Equal.f (l0 : List Int) (l1 : List Int) : Option (Bool) := some ((strOfNums l0).toList == (strOfNums l1).toList)
set_option maxHeartbeats 8000000 in
set_option maxRecDepth 100000 in
theorem bytes_Equal.calls (A0 : Option Addr) (c0 : Nat) (l0 : List Int) (A1 : Option Addr) (c1 : Nat) (l1 : List Int) (r : Bool) (w : World) (hr0 : Kd.C (Kd.int .u8) w A0 l0.length l0) (hc0 : l0.length ≤ c0) (hr1 : Kd.C (Kd.int .u8) w A1 l1.length l1) (hc1 : l1.length ≤ c1) (h : bytes_Equal.f l0 l1 = some r) :
    Calls Tryd.prog 30 #[.slice A0 l0.length c0, .slice A1 l1.length c1] w fun e w' => e = .returned (.bool r) ∧ Drawn0 w w' := by
  have HR0 := Aside0.mk hr0
  have HC0 := Aside0.mk hc0
  clear hr0 hc0
  have HR1 := Aside0.mk hr1
  have HC1 := Aside0.mk hc1
  clear hr1 hc1
  have H : (some ((strOfNums l0).toList == (strOfNums l1).toList)) = some r := h
  clear h
  obtain rfl := Option.some.inj H
  have hcv3 := Kd.C_string (P := Tryd.prog) (A := A0) (c := c0) Tryd.underlying22 Tryd.underlying5 Tryd.underlying9 HR0.out
  have hcv4 := Kd.C_string (P := Tryd.prog) (A := A1) (c := c1) Tryd.underlying22 Tryd.underlying5 Tryd.underlying9 HR1.out
  go_enter Tryd.func30, Tryd.ntmps30
  go_wp2
  go_ret
  exact ⟨by first | rfl | (simp; done) | (simp [*]; done), by repeat (first | exact Drawn0.refl _ | apply Drawn0.step)⟩
theorem st74 (W : World) (cs : Array Value) : Below W.heap.size W ((W.alloc (.cells ((Value.slice none 0 0) :: nums .u8 (List.replicate 32 0)).toArray 74 (0, 0))).setRow W.heap.size cs) := (below_alloc (Below.refl _ _) _).trans ⟨rfl, rfl, rfl, by rw [setRow_size]; exact Nat.le_refl _, fun k hk => setRow_other _ _ _ _ (by omega)⟩
theorem sb74 (W : World) (cs : Array Value) : ((W.alloc (.cells ((Value.slice none 0 0) :: nums .u8 (List.replicate 32 0)).toArray 74 (0, 0))).setRow W.heap.size cs).heap[W.heap.size]? = some (.cells cs 74 (0, 0)) := setRow_heap _ W.heap.size _ _ _ _ (blk_new W _)
theorem own_below {P : Program} {k : TypeId} {R : Value → Option (DataW Unit × List MemPlace)} {b n : Nat} {D : DataW Unit} {w w' : World} (h : w.ownsMap P k R b n D) (hb : Below w.heap.size w w') : w'.ownsMap P k R b n D := by
  obtain ⟨es, clock, h1, h2, h3, h4⟩ := h
  exact ⟨es, clock, (hb.block _ (blk_lt h1)).trans h1, h2, h3, h4⟩
theorem tail_cells {w : World} {b : Nat} {v : Value} {cs : List Value} {t : TypeId} (h : w.heap[b]? = some (.cells (v :: cs).toArray t (0, 0))) : ∀ j u, cs[j]? = some u → w.cell? ((⟨b, 1, none⟩ : Addr).add j) = some u := fun j u hu => by
  rw [show (⟨b, 1, none⟩ : Addr) = (⟨b, 0, none⟩ : Addr).add 1 by rw [ShaWrite.add_at], Addr.add_add, ShaWrite.add_at, blk_cell h]
  rw [Nat.add_comm]
  simpa using hu
section
variable {ops : Array Oper} {rest : List Oper} {o : Oper} {a : Act} {Q : Exit → Act → World → Prop} {W : World}
theorem zeroI (w : World) : (zeroValue 3).run Tryd.prog w = .ok (.int .i64 0) w := by kernel_rfl
theorem gate_look {x m : Nat} (b n : Nat) (D : DataW Unit) (key : Value) (k : Lit) (i : Int) (bv : Bool) (hg : o.guard = none) (ho : o.op = Op.lookup 72 (.tmp m) (.tmp x) true) (hm : a.eval (.tmp m) = .map (some b)) (hown : W.ownsMap Tryd.prog 29 (plainElem (H := Unit) Tryd.prog 3) b n D)
    (hx : a.eval (.tmp x) = key) (hk : keyOf Tryd.prog 29 key = some k) (hat : D.atKey k (.lit (.int .i64 0)) = .lit (.int .i64 i)) (hh : Maps.has D k = bv) (h : wpList Tryd.prog ops Q rest (a.put o.dst (.tuple #[.int .i64 i, .bool bv])) W) : wpList Tryd.prog ops Q (o :: rest) a W :=
  wpList_lookup_own_ok_int W hg (.tmp m) (.tmp x) 72 ho 29 3 .i64 lawK Tryd.underlying72 Tryd.underlying3 (zeroI W) b n D hm hown key k hx hk (fun c hc _ => by
    rw [hat] at hc
    injection hc with hc
    injection hc with _ hc
    subst hc
    rw [hh]
    exact h)
theorem gate_upd {x m v : Nat} (b n : Nat) (D : DataW Unit) (key : Value) (k : Lit) (i : Int) (hg : o.guard = none) (ho : o.op = Op.mapUpdate 72 (.tmp m) (.tmp x) (.tmp v)) (hm : a.eval (.tmp m) = .map (some b)) (hown : W.ownsMap Tryd.prog 29 (plainElem (H := Unit) Tryd.prog 3) b n D)
    (hn : n < maxLen) (hx : a.eval (.tmp x) = key) (hv : a.eval (.tmp v) = .int .i64 i) (hk : keyOf Tryd.prog 29 key = some k) (hi : 0 ≤ i ∧ i ≤ 9223372036854775807) (h : ∀ w', w'.ownsMap Tryd.prog 29 (plainElem (H := Unit) Tryd.prog 3) b (n + 1) (D.put k (.lit (.int .i64 i))) → W.grownBy w' (some b) → wpList Tryd.prog ops Q rest (a.put o.dst undef) w') : wpList Tryd.prog ops Q (o :: rest) a W :=
  wpList_mapUpdate_own W hg (.tmp m) (.tmp x) (.tmp v) 72 ho 29 3 lawK Tryd.underlying72 _ b n D hm hown hn key (.int .i64 i) k hx hv hk (.lit (.int .i64 i)) [] (plainElem_int Tryd.underlying3 (by simp [Lit.wf, IntKind.min, IntKind.max, IntKind.signed, IntKind.bits]; omega)) h
end
theorem grown_below {n b : Nat} {w w2 w3 : World} (h : Below n w w2) (hg : w2.grownBy w3 (some b)) (hb : n ≤ b) (hs : n ≤ w2.heap.size) : Below n w w3 :=
  ⟨hg.os.trans h.os, hg.tape.trans h.tape, hg.output.trans h.output, Nat.le_trans h.size hg.size, fun k hk => (hg.block k (by omega) (fun e => by injection e with e; omega)).trans (h.block k hk)⟩
section
variable {P : Program} {ops : Array Oper} {rest : List Oper} {o : Oper} {a : Act} {Q : Exit → Act → World → Prop} {W : World}
theorem gate_cells (x : Nat) (ad : Addr) (ty : TypeId) (cs : List Value) (d : TypeDesc) (hw : Region.wanted o (yielded ops a.tmps) = true) (ho : o.op = .load ty (.tmp x)) (hx : a.eval (.tmp x) = .pointer (some ad)) (hc : ∀ j v, cs[j]? = some v → W.cell? (ad.add j) = some v)
    (hu : P.underlying ty = some d) (hd : (match d with | .struct _ | .array _ _ => true | _ => false) = true) (hi : (P.info? ty).map (·.size) = some cs.length) (h : wpList P ops Q rest (a.put o.dst (.agg cs.toArray)) W) : wpList P ops Q (o :: rest) a W :=
  wpList_step (fun K hK => event_step hw (ev_load_cells ty (.tmp x) ho ad hx cs d hc hu hd hi) (hK _ _ h))
end
set_option maxHeartbeats 8000000 in
set_option maxRecDepth 100000 in
theorem clash_calls (g : Nat) (S : Nat → Prop) (ps : PS) (w : World) (hL : LogOn w g S ps) (hb : ∀ i, i < ps.length → Bytes (dg ps i) ∧ Bytes (inp ps i) ∧ (inp ps i).length ≤ 1000000) :
    Calls Tryd.prog 17 #[.pointer (some ⟨g, 0, none⟩)] w fun e w' => ∃ va vb b, e = .returned (.tuple #[va, vb, .bool b]) ∧ (Clash ps → b = true) ∧ Below w.heap.size w w' := by
  obtain ⟨kl, hkl⟩ := kl_exists
  obtain ⟨-, -, -, v, hg, hR⟩ := hL
  obtain ⟨V, vc, rfl⟩ := Kd.R_slice hR
  obtain ⟨-, -, hC⟩ := Kd.R_reads' hR
  have HKL := Aside0.mk hkl
  have HG := Aside0.mk hg
  have HC := Aside0.mk hC
  have HB := Aside0.mk hb
  have HN := Aside0.mk (Kd.C_max hC)
  clear hkl hg hR hC hb
  have hmm := @run_makeMap Tryd.prog
  have zl : w.cell? ⟨g, 0, none⟩ = some (.slice V ps.length vc) := (blk_cell HG.out 0).trans rfl
  have zl' : ∀ o, (w.alloc o).cell? ⟨g, 0, none⟩ = some (.slice V ps.length vc) := fun o => (blk_cell (blk_alloc HG.out o) 0).trans rfl
  go_enter Tryd.func17, Tryd.ntmps17
  go_wp2_with fail
  obtain ⟨bm, hbm⟩ : ∃ b, w.heap.size = b := ⟨_, rfl⟩
  have HBM := Aside0.mk hbm
  have OWN : Aside0 ((w.alloc (.map #[] 0)).ownsMap Tryd.prog 29 (plainElem (H := Unit) Tryd.prog 3) bm 0 (.map [])) := ⟨by rw [← hbm]; exact World.ownsMap_made w _ _ _⟩
  have BEL := Aside0.mk (below_alloc (Below.refl w.heap.size w) (.map #[] 0))
  rw [hbm]
  clear hbm zl zl' hmm
  go_loopw [18] (fun i wr => ∃ t : Nat, i = .int .i64 t ∧ t ≤ ps.length ∧ Aside0 (wr.ownsMap Tryd.prog 29 (plainElem (H := Unit) Tryd.prog 3) bm t (fm kl ps t)) ∧ Aside0 (Inv kl ps t) ∧ Aside0 (Below w.heap.size w wr)) (fun i _ => ps.length - (intOf i).toNat)
  case atStart => exact ⟨0, rfl, by omega, OWN, ⟨inv_zero kl ps⟩, BEL⟩
  case round =>
    clear OWN BEL
    obtain ⟨t, rfl, tn, OWN, INV, BEL⟩ := hrel
    by_cases ht : t < ps.length
    · obtain ⟨ad, A1, c1, rfl, hc1, hC1, hdl, hcell⟩ := PK_at (Kd.C_below HC.out BEL.out) t (by omega)
      have hadd : ∀ j v, ((.slice A1 (inp ps t).length c1) :: nums .u8 (dg ps t))[j]? = some v → wr.cell? ((ad.add (t * 33)).add j) = some v := fun j v hv => by
        rw [Addr.add_add]
        exact hcell j v hv
      have h74 : (Tryd.prog.info? 74).map (·.size) = some ((Value.slice A1 (inp ps t).length c1) :: nums .u8 (dg ps t)).length := by
        rw [List.length_cons, nums, List.length_map, hdl]
        kernel_rfl
      have h74a : (Tryd.prog.info? 74).map (·.size) = some ((Value.slice A1 (inp ps t).length c1) :: nums .u8 (dg ps t)).toArray.size := by rw [h74, List.size_toArray]
      have h74b : ((Value.slice none 0 0) :: nums .u8 (List.replicate 32 0)).toArray.size = ((Value.slice A1 (inp ps t).length c1) :: nums .u8 (dg ps t)).toArray.size := by
        rw [List.size_toArray, List.size_toArray, List.length_cons, List.length_cons, nums, nums, List.length_map, List.length_map, hdl, List.length_replicate]
      have h74c : ((Value.slice A1 (inp ps t).length c1) :: nums .u8 (dg ps t)).toArray.all (·.oneCell') = true := by simp [nums, Value.oneCell']
      have h29 : (Tryd.prog.info? 29).map (·.size) = some (nums .u8 (dg ps t)).length := by
        rw [nums, List.length_map, hdl]
        kernel_rfl
      have HGD : Aside0 (ClashP.Good ps) := ⟨fun i hi => by
        obtain ⟨_, _, _, _, _, _, h, _⟩ := PK_at HC.out i hi
        exact ⟨h, (HB.out i hi).1⟩⟩
      have HKT := Aside0.mk (HKL.out (dg ps t) hdl (HB.out t ht).1)
      have hw : IntKind.i64.wrap ((t : Int) + 1) = t + 1 := IntWalk.i64_in _ (by have := HN.out; omega)
      have KT0 := Aside0.mk hC1
      by_cases hh : Maps.has (fm kl ps t) (kl (dg ps t)) = true
      · have HHS := Aside0.mk hh
        obtain ⟨i, hi, hat, hdi⟩ := inv_there HKL.out HGD.out INV.out ht hh
        have HAT := Aside0.mk hat
        have HDI := Aside0.mk hdi
        have LT := Aside0.mk hc1
        have HADD := Aside0.mk hadd
        clear hat hdi hh hcell hc1 hC1
        go_wp2_with (first
          | (refine gate_cells 21 (ad.add (t * 33)) 74 _ _ rfl rfl rfl hadd Tryd.underlying74 rfl h74 ?_)
          | (refine wpList_store_row rfl 74 (.tmp 7) (.tmp 22) rfl wr.heap.size ((Value.slice A1 (inp ps t).length c1) :: nums .u8 (dg ps t)).toArray rfl rfl 74 ((Value.slice none 0 0) :: nums .u8 (List.replicate 32 0)).toArray (blk_new _ _) h74a h74b h74c ?_
             have hb2 := st74 wr ((Value.slice A1 (inp ps t).length c1) :: nums .u8 (dg ps t)).toArray
             have G7 := Aside0.mk (sb74 wr ((Value.slice A1 (inp ps t).length c1) :: nums .u8 (dg ps t)).toArray)
             have OWN2 := Aside0.mk (own_below OWN.out hb2)
             have KT := Aside0.mk (Kd.C_below KT0.out hb2)
             have BEL2 := Aside0.mk (BEL.out.trans (hb2.mono BEL.out.size))
             clear hb2
             obtain ⟨b7, hb7⟩ : ∃ b, wr.heap.size = b := ⟨_, rfl⟩
             rw [hb7] at G7 OWN2 BEL2 KT ⊢
             clear hb7
             change wpList _ _ _ _ _ ((wr.alloc (.cells ((Value.slice none 0 0) :: nums .u8 (List.replicate 32 0)).toArray 74 (0, 0))).setRow b7 ((Value.slice A1 (inp ps t).length c1) :: nums .u8 (dg ps t)).toArray)
             generalize (wr.alloc (.cells ((Value.slice none 0 0) :: nums .u8 (List.replicate 32 0)).toArray 74 (0, 0))).setRow b7 ((Value.slice A1 (inp ps t).length c1) :: nums .u8 (dg ps t)).toArray = w2 at G7 OWN2 BEL2 KT ⊢)
          | (refine gate_cells 25 ⟨b7, 1, none⟩ 29 (nums .u8 (dg ps t)) _ rfl rfl rfl (tail_cells G7.out) Tryd.underlying29 rfl h29 ?_)
          | (refine gate_look (x := 26) (m := 24) bm t (fm kl ps t) (dv (dg ps t)) (kl (dg ps t)) i true rfl rfl rfl OWN2.out rfl HKT.out (HAT.out _) HHS.out ?_))
        have HC2 := Kd.C_below HC.out BEL2.out
        obtain ⟨_, Ai, ci, ea, hci, hCi, hdl2, hcelli⟩ := PK_at HC2 i (by omega)
        injection ea with ea
        subst ea
        have hil : (i : Int) < ps.length := by omega
        have LOGC : Aside0 (w2.heap[g]? = some (.cells #[.slice (some ad) ps.length vc, .slice none 0 0, .slice none 0 0] 55 (0, 0))) := ⟨blk_below HG.out BEL2.out⟩
        have CI : Aside0 (w2.cell? (ad.add (i * 33)) = some (.slice Ai (inp ps i).length ci)) := ⟨hcelli 0 _ rfl⟩
        have KI := Aside0.mk hCi
        have LI := Aside0.mk hci
        have C7 : Aside0 (w2.cell? ⟨b7, 0, none⟩ = some (.slice A1 (inp ps t).length c1)) := ⟨(blk_cell G7.out 0).trans rfl⟩
        clear hCi hci hcelli HC2 hdl2
        refine start_ (n := 12) (S := fun w' => Below w2.heap.size w2 w') (ds := []) #[false, false, false, false, false, false, false, false, false, false, false, false] (by kernel_rfl) rfl rfl (below_drew1 (Below.refl _ _)) (fun hHeld => ?_)
        have HH := Aside0.mk hHeld
        clear hHeld
        generalize w2.drew = w3 at HH ⊢
        refine pure_ (i := 0) (N := some 36) (v := ?_) (a' := ?_) #[true, false, false, false, false, false, false, false, false, false, false, false] rfl rfl (by kernel_rfl) (fun _ _ _ h => h) (Or.inl ⟨by rfl, ?_⟩) ?_ ?_
        rotate_left
        · intro w'
          go_simp
          with_reducible rfl
        rotate_left
        · simp only [Act.put, List.setIfInBounds_toArray, List.set_cons_zero, List.set_cons_succ, i64_w, i32_w]
          rfl
        refine pure_ (i := 1) (N := some 37) (v := ?_) (a' := ?_) #[true, true, false, false, false, false, false, false, false, false, false, false] rfl rfl (by kernel_rfl) (fun _ _ _ h => h) (Or.inl ⟨by rfl, ?_⟩) ?_ ?_
        rotate_left
        · intro w'
          go_simp
          with_reducible rfl
        rotate_left
        · simp only [Act.put, List.setIfInBounds_toArray, List.set_cons_zero, List.set_cons_succ, i64_w, i32_w]
          rfl
        refine pure_ (i := 2) (N := some 38) (v := ?_) (a' := ?_) #[true, true, true, false, false, false, false, false, false, false, false, false] rfl rfl (by kernel_rfl) (fun _ _ _ h => h) (Or.inl ⟨by rfl, ?_⟩) ?_ ?_
        rotate_left
        · intro w'
          go_simp
          with_reducible rfl
        rotate_left
        · simp only [Act.put, List.setIfInBounds_toArray, List.set_cons_zero, List.set_cons_succ, i64_w, i32_w]
          rfl
        refine take_ (i := 3) (N := some 39) (v := ?_) (a' := ?_) #[true, true, true, true, false, false, false, false, false, false, false, false] rfl rfl (by kernel_rfl) (fun _ _ _ h => h) (Or.inl ⟨by rfl, ?_⟩) HH.out ?_ ?_
        rotate_left
        · rintro w' s0
          have z0 : w'.cell? ⟨g, 0, none⟩ = some (.slice (some ad) ps.length vc) := (blk_cell (blk_below LOGC.out s0) 0).trans rfl
          clear s0
          go_simp
          with_reducible rfl
        rotate_left
        · simp only [Act.put, List.setIfInBounds_toArray, List.set_cons_zero, List.set_cons_succ, i64_w, i32_w]
          rfl
        refine pure_ (i := 4) (N := some 40) (v := ?_) (a' := ?_) #[true, true, true, true, true, false, false, false, false, false, false, false] rfl rfl (by kernel_rfl) (fun _ _ _ h => h) (Or.inl ⟨by rfl, ?_⟩) ?_ ?_
        rotate_left
        · intro w'
          go_simp
          with_reducible rfl
        rotate_left
        · simp only [Act.put, List.setIfInBounds_toArray, List.set_cons_zero, List.set_cons_succ, i64_w, i32_w]
          rfl
        refine pure_ (i := 5) (N := some 41) (v := ?_) (a' := ?_) #[true, true, true, true, true, true, false, false, false, false, false, false] rfl rfl (by kernel_rfl) (fun _ _ _ h => h) (Or.inl ⟨by rfl, ?_⟩) ?_ ?_
        rotate_left
        · intro w'
          go_simp
          with_reducible rfl
        rotate_left
        · simp only [Act.put, List.setIfInBounds_toArray, List.set_cons_zero, List.set_cons_succ, i64_w, i32_w]
          rfl
        refine pure_ (i := 6) (N := some 42) (v := ?_) (a' := ?_) #[true, true, true, true, true, true, true, false, false, false, false, false] rfl rfl (by kernel_rfl) (fun _ _ _ h => h) (Or.inl ⟨by rfl, ?_⟩) ?_ ?_
        rotate_left
        · intro w'
          go_simp
          with_reducible rfl
        rotate_left
        · simp only [Act.put, List.setIfInBounds_toArray, List.set_cons_zero, List.set_cons_succ, i64_w, i32_w]
          rfl
        refine take_ (i := 7) (N := some 43) (v := ?_) (a' := ?_) #[true, true, true, true, true, true, true, true, false, false, false, false] rfl rfl (by kernel_rfl) (fun _ _ _ h => h) (Or.inl ⟨by rfl, ?_⟩) HH.out ?_ ?_
        rotate_left
        · rintro w' s0
          have z0 : w'.cell? (ad.add (i * 33)) = some (.slice Ai (inp ps i).length ci) := cell_same CI.out (s0.block _ (cell_lt CI.out))
          clear s0
          go_simp
          with_reducible rfl
        rotate_left
        · simp only [Act.put, List.setIfInBounds_toArray, List.set_cons_zero, List.set_cons_succ, i64_w, i32_w]
          rfl
        refine pure_ (i := 8) (N := some 44) (v := ?_) (a' := ?_) #[true, true, true, true, true, true, true, true, true, false, false, false] rfl rfl (by kernel_rfl) (fun _ _ _ h => h) (Or.inl ⟨by rfl, ?_⟩) ?_ ?_
        rotate_left
        · intro w'
          go_simp
          with_reducible rfl
        rotate_left
        · simp only [Act.put, List.setIfInBounds_toArray, List.set_cons_zero, List.set_cons_succ, i64_w, i32_w]
          rfl
        refine take_ (i := 9) (N := some 45) (v := ?_) (a' := ?_) #[true, true, true, true, true, true, true, true, true, true, false, false] rfl rfl (by kernel_rfl) (fun _ _ _ h => h) (Or.inl ⟨by rfl, ?_⟩) HH.out ?_ ?_
        rotate_left
        · rintro w' s0
          have z0 : w'.cell? ⟨b7, 0, none⟩ = some (.slice A1 (inp ps t).length c1) := cell_same C7.out (s0.block _ (cell_lt C7.out))
          clear s0
          go_simp
          with_reducible rfl
        rotate_left
        · simp only [Act.put, List.setIfInBounds_toArray, List.set_cons_zero, List.set_cons_succ, i64_w, i32_w]
          rfl
        refine one_ (i := 10) (N := some 46) #[true, true, true, true, true, true, true, true, true, true, true, false] rfl rfl (by kernel_rfl) (by decide) (fun K hK => ?_)
        refine goes_ Tryd.func30 (by kernel_rfl) rfl #[.slice Ai (inp ps i).length ci, .slice A1 (inp ps t).length c1] (by rfl) rfl rfl (by simp only [List.map_toArray, List.map_cons, List.map_nil]; rfl) ?_
        refine (bytes_Equal.calls Ai ci (inp ps i) A1 c1 (inp ps t) _ w3 (Kd.C_below KI.out HH.out) LI.out (Kd.C_below KT.out HH.out) LT.out rfl).mono ?_
        rintro e w4 ⟨rfl, nd, rfl⟩
        refine ⟨_, rfl, ?_⟩
        have hb' := HH.out.trans ((pw_below_drewN (Below.refl w3.heap.size w3) nd).mono HH.out.size)
        refine hK.out _ _ hb' (fun hHeld => ?_)
        clear hK K
        refine norm_ (a' := ?_) ?_ ?_
        rotate_left
        · show Act.put _ (some 46) _ = _
          simp only [Act.put, List.setIfInBounds_toArray, List.set_cons_zero, List.set_cons_succ, i64_w, i32_w]
          rfl
        have HH4 := Aside0.mk hHeld
        clear hHeld hb' HH
        generalize w3.drewN nd = w4 at HH4 ⊢
        obtain ⟨eqb, heqb⟩ : ∃ b, ((strOfNums (inp ps i)).toList == (strOfNums (inp ps t)).toList) = b := ⟨_, rfl⟩
        rw [heqb]
        refine pure_ (i := 11) (N := some 47) (v := ?_) (a' := ?_) #[true, true, true, true, true, true, true, true, true, true, true, true] rfl rfl (by kernel_rfl) (fun _ _ _ h => h) (Or.inl ⟨by rfl, ?_⟩) ?_ ?_
        rotate_left
        · intro w'
          go_simp
          with_reducible rfl
        rotate_left
        · simp only [Act.put, List.setIfInBounds_toArray, List.set_cons_zero, List.set_cons_succ, i64_w, i32_w]
          rfl
        refine done_ (by kernel_rfl) ?_
        have B4 := Aside0.mk (BEL2.out.trans (HH4.out.mono BEL2.out.size))
        have HLI : Aside0 ((inp ps i).length ≤ 1000000 ∧ (inp ps t).length ≤ 1000000) := ⟨(HB.out i (by omega)).2.2, (HB.out t ht).2.2⟩
        cases heqc : eqb with
        | true =>
          rw [heqc] at heqb
          have hee := eq_bytes (HB.out i (by omega)).2.1 (HB.out t ht).2.1 heqb
          obtain ⟨e1, hi1⟩ := inv_old INV.out HHS.out hi HAT.out HDI.out hee
          have OWN4 : Aside0 (w4.ownsMap Tryd.prog 29 (plainElem (H := Unit) Tryd.prog 3) bm (t + 1) (fm kl ps (t + 1))) := ⟨by rw [e1]; exact (own_below OWN2.out HH4.out).mono (by omega)⟩
          have INV1 := Aside0.mk hi1
          clear e1 hi1 hee heqb heqc
          go_wp2_with fail
          exact ⟨⟨t + 1, by simp, by omega, OWN4, INV1, B4⟩, by simp [intOf]; omega⟩
        | false =>
          clear heqb heqc
          go_wp2_with fail
          refine start_ (n := 15) (S := fun w' => Below w4.heap.size w4 w') (ds := []) #[false, false, false, false, false, false, false, false, false, false, false, false, false, false, false] (by kernel_rfl) rfl rfl (below_drew1 (Below.refl _ _)) (fun hHeld => ?_)
          have HH := Aside0.mk hHeld
          clear hHeld
          generalize w4.drew = w5 at HH ⊢
          refine pure_ (i := 0) (N := some 48) (v := ?_) (a' := ?_) #[true, false, false, false, false, false, false, false, false, false, false, false, false, false, false] rfl rfl (by kernel_rfl) (fun _ _ _ h => h) (Or.inl ⟨by rfl, ?_⟩) ?_ ?_
          rotate_left
          · intro w'
            go_simp
            with_reducible rfl
          rotate_left
          · simp only [Act.put, List.setIfInBounds_toArray, List.set_cons_zero, List.set_cons_succ, i64_w, i32_w]
            rfl
          refine pure_ (i := 1) (N := some 49) (v := ?_) (a' := ?_) #[true, true, false, false, false, false, false, false, false, false, false, false, false, false, false] rfl rfl (by kernel_rfl) (fun _ _ _ h => h) (Or.inl ⟨by rfl, ?_⟩) ?_ ?_
          rotate_left
          · intro w'
            go_simp
            with_reducible rfl
          rotate_left
          · simp only [Act.put, List.setIfInBounds_toArray, List.set_cons_zero, List.set_cons_succ, i64_w, i32_w]
            rfl
          refine pure_ (i := 2) (N := some 50) (v := ?_) (a' := ?_) #[true, true, true, false, false, false, false, false, false, false, false, false, false, false, false] rfl rfl (by kernel_rfl) (fun _ _ _ h => h) (Or.inl ⟨by rfl, ?_⟩) ?_ ?_
          rotate_left
          · intro w'
            go_simp
            with_reducible rfl
          rotate_left
          · simp only [Act.put, List.setIfInBounds_toArray, List.set_cons_zero, List.set_cons_succ, i64_w, i32_w]
            rfl
          refine take_ (i := 3) (N := some 51) (v := ?_) (a' := ?_) #[true, true, true, true, false, false, false, false, false, false, false, false, false, false, false] rfl rfl (by kernel_rfl) (fun _ _ _ h => h) (Or.inl ⟨by rfl, ?_⟩) HH.out ?_ ?_
          rotate_left
          · rintro w' s0
            have z0 : w'.cell? ⟨g, 0, none⟩ = some (.slice (some ad) ps.length vc) := (blk_cell (blk_below (blk_below LOGC.out HH4.out) s0) 0).trans rfl
            clear s0
            go_simp
            with_reducible rfl
          rotate_left
          · simp only [Act.put, List.setIfInBounds_toArray, List.set_cons_zero, List.set_cons_succ, i64_w, i32_w]
            rfl
          refine pure_ (i := 4) (N := some 52) (v := ?_) (a' := ?_) #[true, true, true, true, true, false, false, false, false, false, false, false, false, false, false] rfl rfl (by kernel_rfl) (fun _ _ _ h => h) (Or.inl ⟨by rfl, ?_⟩) ?_ ?_
          rotate_left
          · intro w'
            go_simp
            with_reducible rfl
          rotate_left
          · simp only [Act.put, List.setIfInBounds_toArray, List.set_cons_zero, List.set_cons_succ, i64_w, i32_w]
            rfl
          refine pure_ (i := 5) (N := some 53) (v := ?_) (a' := ?_) #[true, true, true, true, true, true, false, false, false, false, false, false, false, false, false] rfl rfl (by kernel_rfl) (fun _ _ _ h => h) (Or.inl ⟨by rfl, ?_⟩) ?_ ?_
          rotate_left
          · intro w'
            go_simp
            with_reducible rfl
          rotate_left
          · simp only [Act.put, List.setIfInBounds_toArray, List.set_cons_zero, List.set_cons_succ, i64_w, i32_w]
            rfl
          refine pure_ (i := 6) (N := some 54) (v := ?_) (a' := ?_) #[true, true, true, true, true, true, true, false, false, false, false, false, false, false, false] rfl rfl (by kernel_rfl) (fun _ _ _ h => h) (Or.inl ⟨by rfl, ?_⟩) ?_ ?_
          rotate_left
          · intro w'
            go_simp
            with_reducible rfl
          rotate_left
          · simp only [Act.put, List.setIfInBounds_toArray, List.set_cons_zero, List.set_cons_succ, i64_w, i32_w]
            rfl
          refine take_ (i := 7) (N := some 55) (v := ?_) (a' := ?_) #[true, true, true, true, true, true, true, true, false, false, false, false, false, false, false] rfl rfl (by kernel_rfl) (fun _ _ _ h => h) (Or.inl ⟨by rfl, ?_⟩) HH.out ?_ ?_
          rotate_left
          · rintro w' s0
            have z1 := cell_same CI.out (HH4.out.block _ (cell_lt CI.out))
            have z0 : w'.cell? (ad.add (i * 33)) = some (.slice Ai (inp ps i).length ci) := cell_same z1 (s0.block _ (cell_lt z1))
            clear s0 z1
            go_simp
            with_reducible rfl
          rotate_left
          · simp only [Act.put, List.setIfInBounds_toArray, List.set_cons_zero, List.set_cons_succ, i64_w, i32_w]
            rfl
          refine pure_ (i := 9) (N := some 57) (v := ?_) (a' := ?_) #[true, true, true, true, true, true, true, true, false, true, false, false, false, false, false] rfl rfl (by kernel_rfl) (fun _ _ _ h => h) (Or.inl ⟨by rfl, ?_⟩) ?_ ?_
          rotate_left
          · intro w'
            go_simp
            with_reducible rfl
          rotate_left
          · simp only [Act.put, List.setIfInBounds_toArray, List.set_cons_zero, List.set_cons_succ, i64_w, i32_w]
            rfl
          refine take_ (i := 10) (N := some 58) (v := ?_) (a' := ?_) #[true, true, true, true, true, true, true, true, false, true, true, false, false, false, false] rfl rfl (by kernel_rfl) (fun _ _ _ h => h) (Or.inl ⟨by rfl, ?_⟩) HH.out ?_ ?_
          rotate_left
          · rintro w' s0
            have z1 := cell_same C7.out (HH4.out.block _ (cell_lt C7.out))
            have z0 : w'.cell? ⟨b7, 0, none⟩ = some (.slice A1 (inp ps t).length c1) := cell_same z1 (s0.block _ (cell_lt z1))
            clear s0 z1
            go_simp
            with_reducible rfl
          rotate_left
          · simp only [Act.put, List.setIfInBounds_toArray, List.set_cons_zero, List.set_cons_succ, i64_w, i32_w]
            rfl
          refine one_ (i := 8) (N := some 56) #[true, true, true, true, true, true, true, true, true, true, true, false, false, false, false] rfl rfl (by kernel_rfl) (by decide) (fun K hK => ?_)
          refine goes_ Tryd.func31 (by kernel_rfl) rfl #[.slice Ai (inp ps i).length ci] (by rfl) rfl rfl (by simp only [List.map_toArray, List.map_cons, List.map_nil]; rfl) ?_
          refine (clone_calls Ai ci (inp ps i) w5 (Kd.C_below (Kd.C_below KI.out HH4.out) HH.out) (by have := HLI.out; omega)).mono ?_
          rintro e w6 ⟨v8, rfl, -, hb⟩
          refine ⟨_, rfl, ?_⟩
          have hb' := HH.out.trans (hb.mono HH.out.size)
          refine hK.out _ _ hb' (fun hHeld => ?_)
          clear hK K
          refine norm_ (a' := ?_) ?_ ?_
          rotate_left
          · show Act.put _ (some 56) _ = _
            simp only [Act.put, List.setIfInBounds_toArray, List.set_cons_zero, List.set_cons_succ, i64_w, i32_w]
            rfl
          replace HH := Aside0.mk hHeld
          clear hHeld hb hb'
          refine one_ (i := 11) (N := some 59) #[true, true, true, true, true, true, true, true, true, true, true, true, false, false, false] rfl rfl (by kernel_rfl) (by decide) (fun K hK => ?_)
          refine goes_ Tryd.func31 (by kernel_rfl) rfl #[.slice A1 (inp ps t).length c1] (by rfl) rfl rfl (by simp only [List.map_toArray, List.map_cons, List.map_nil]; rfl) ?_
          refine (clone_calls A1 c1 (inp ps t) w6 (Kd.C_below (Kd.C_below KT.out HH4.out) HH.out) (by have := HLI.out; omega)).mono ?_
          rintro e w7 ⟨v11, rfl, -, hb⟩
          refine ⟨_, rfl, ?_⟩
          have hb' := HH.out.trans (hb.mono HH.out.size)
          refine hK.out _ _ hb' (fun hHeld => ?_)
          clear hK K
          refine norm_ (a' := ?_) ?_ ?_
          rotate_left
          · show Act.put _ (some 59) _ = _
            simp only [Act.put, List.setIfInBounds_toArray, List.set_cons_zero, List.set_cons_succ, i64_w, i32_w]
            rfl
          replace HH := Aside0.mk hHeld
          clear hHeld hb hb'
          refine pure_ (i := 12) (N := some 2) (v := ?_) (a' := ?_) #[true, true, true, true, true, true, true, true, true, true, true, true, true, false, false] rfl rfl (by kernel_rfl) (fun _ _ _ h => h) (Or.inl ⟨by rfl, ?_⟩) ?_ ?_
          rotate_left
          · intro w'
            go_simp
            with_reducible rfl
          rotate_left
          · simp only [Act.put, List.setIfInBounds_toArray, List.set_cons_zero, List.set_cons_succ, i64_w, i32_w]
            rfl
          refine pure_ (i := 13) (N := some 3) (v := ?_) (a' := ?_) #[true, true, true, true, true, true, true, true, true, true, true, true, true, true, false] rfl rfl (by kernel_rfl) (fun _ _ _ h => h) (Or.inl ⟨by rfl, ?_⟩) ?_ ?_
          rotate_left
          · intro w'
            go_simp
            with_reducible rfl
          rotate_left
          · simp only [Act.put, List.setIfInBounds_toArray, List.set_cons_zero, List.set_cons_succ, i64_w, i32_w]
            rfl
          refine pure_ (i := 14) (N := some 4) (v := ?_) (a' := ?_) #[true, true, true, true, true, true, true, true, true, true, true, true, true, true, true] rfl rfl (by kernel_rfl) (fun _ _ _ h => h) (Or.inl ⟨by rfl, ?_⟩) ?_ ?_
          rotate_left
          · intro w'
            go_simp
            with_reducible rfl
          rotate_left
          · simp only [Act.put, List.setIfInBounds_toArray, List.set_cons_zero, List.set_cons_succ, i64_w, i32_w]
            rfl
          refine done_ (by kernel_rfl) ?_
          have HF := HH
          go_wp2
          go_ret3
          exact ⟨_, _, _, rfl, fun _ => rfl, B4.out.trans (HF.out.mono B4.out.size)⟩
      · have hf : Maps.has (fm kl ps t) (kl (dg ps t)) = false := by simpa using hh
        have HHS := Aside0.mk hf
        have HAT := Aside0.mk (atKey_of_not_has hf (.lit (.int .i64 0)))
        obtain ⟨e1, hi1⟩ := inv_new HKL.out HGD.out INV.out ht hf
        have HE := Aside0.mk e1
        have INV1 := Aside0.mk hi1
        clear hh hf e1 hi1 hcell hc1
        go_wp2_with (first
          | (refine gate_cells 21 (ad.add (t * 33)) 74 _ _ rfl rfl rfl hadd Tryd.underlying74 rfl h74 ?_)
          | (refine wpList_store_row rfl 74 (.tmp 7) (.tmp 22) rfl wr.heap.size ((Value.slice A1 (inp ps t).length c1) :: nums .u8 (dg ps t)).toArray rfl rfl 74 ((Value.slice none 0 0) :: nums .u8 (List.replicate 32 0)).toArray (blk_new _ _) h74a h74b h74c ?_
             have hb2 := st74 wr ((Value.slice A1 (inp ps t).length c1) :: nums .u8 (dg ps t)).toArray
             have G7 := Aside0.mk (sb74 wr ((Value.slice A1 (inp ps t).length c1) :: nums .u8 (dg ps t)).toArray)
             have OWN2 := Aside0.mk (own_below OWN.out hb2)
             have KT := Aside0.mk (Kd.C_below KT0.out hb2)
             have BEL2 := Aside0.mk (BEL.out.trans (hb2.mono BEL.out.size))
             clear hb2
             obtain ⟨b7, hb7⟩ : ∃ b, wr.heap.size = b := ⟨_, rfl⟩
             rw [hb7] at G7 OWN2 BEL2 KT ⊢
             clear hb7
             change wpList _ _ _ _ _ ((wr.alloc (.cells ((Value.slice none 0 0) :: nums .u8 (List.replicate 32 0)).toArray 74 (0, 0))).setRow b7 ((Value.slice A1 (inp ps t).length c1) :: nums .u8 (dg ps t)).toArray)
             generalize (wr.alloc (.cells ((Value.slice none 0 0) :: nums .u8 (List.replicate 32 0)).toArray 74 (0, 0))).setRow b7 ((Value.slice A1 (inp ps t).length c1) :: nums .u8 (dg ps t)).toArray = w2 at G7 OWN2 BEL2 KT ⊢)
          | (refine gate_cells 25 ⟨b7, 1, none⟩ 29 (nums .u8 (dg ps t)) _ rfl rfl rfl (tail_cells G7.out) Tryd.underlying29 rfl h29 ?_)
          | (refine gate_look (x := 26) (m := 24) bm t (fm kl ps t) (dv (dg ps t)) (kl (dg ps t)) 0 false rfl rfl rfl OWN2.out rfl HKT.out HAT.out HHS.out ?_)
          | (refine gate_cells 33 ⟨b7, 1, none⟩ 29 (nums .u8 (dg ps t)) _ rfl rfl rfl (tail_cells G7.out) Tryd.underlying29 rfl h29 ?_)
          | (refine gate_upd (m := 32) (x := 34) (v := 35) bm t (fm kl ps t) (dv (dg ps t)) (kl (dg ps t)) t rfl rfl rfl OWN2.out (by have := HN.out; unfold maxLen; omega) rfl rfl HKT.out (by have := HN.out; omega) ?_
             intro w3 hown3 hgrow3
             have OWN3 : Aside0 (w3.ownsMap Tryd.prog 29 (plainElem (H := Unit) Tryd.prog 3) bm (t + 1) (fm kl ps (t + 1))) := ⟨by rw [HE.out]; exact hown3⟩
             have BEL3 := Aside0.mk (grown_below BEL2.out hgrow3 (by have := HBM.out; omega) BEL2.out.size)
             clear hown3 hgrow3))
        exact ⟨⟨t + 1, by simp, by omega, OWN3, INV1, BEL3⟩, by simp [intOf]; omega⟩
    · obtain rfl : t = ps.length := by omega
      go_wp2_with fail
      go_ret3
      exact ⟨_, _, _, rfl, fun hc => absurd hc (inv_end INV.out), BEL.out⟩
end Go.Proofs.YtgmdgkanfhoahaaDoor.ClashW
