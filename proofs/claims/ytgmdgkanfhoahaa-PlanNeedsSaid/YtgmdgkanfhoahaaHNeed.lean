/- The contract of plan.Need (a set of blocks, kept in a map): the call returns how many different keys the Lean function 'plan_Need.go' gathers, and nothing that was there has changed. Conditions: the pages and the plan's levels read as lists of whole numbers. -/
import Derived.Test.YtgmdgkanfhoahaaPPathx
import Derived.Maps.OwnSet
import Derived.Maps.Views
import Derived.Lib.Hide
import Derived.Outline
namespace Go.Proofs.Ytgmdgkanfhoahaa.HNeed
open Go.RowKit Go.Maps Go.Proofs.Ytgmdgkanfhoahaa.PPath Go.Proofs.YtgmdgkanfhoahaaW.PrintWords Go.Proofs.YtgmdgkanfhoahaaW.PrintLast Go.Proofs.YtgmdgkanfhoahaaW.PrintMore
set_option linter.unusedVariables false
set_option linter.unusedSimpArgs false

/-- What the map holds after some pages: each page that is there, and its path; 'acc': the keys in the order in which they are stored, repeats among them. -/
def plan_Need.go (k : Nat) (a0_0 a0_1 a0_2 : Int) (l0_3 : List Int) (a0_4 a0_5 a0_6 a0_7 a0_8 a0_9 : Int) : List Int → List Int → Option (List Int)
  | [], acc => some acc
  | p :: ps, acc => (plan_Path.f k a0_0 a0_1 a0_2 l0_3 a0_4 a0_5 a0_6 a0_7 a0_8 a0_9 p).bind fun t =>
    if t.2 = 0 then (if acc.length + t.1.length < 1000000000 ∧ (∀ x ∈ p :: t.1, (Lit.int .i64 x).wf = true) then plan_Need.go k a0_0 a0_1 a0_2 l0_3 a0_4 a0_5 a0_6 a0_7 a0_8 a0_9 ps (acc ++ p :: t.1) else none)
    else plan_Need.go k a0_0 a0_1 a0_2 l0_3 a0_4 a0_5 a0_6 a0_7 a0_8 a0_9 ps acc

/-- The set of some keys. -/
def St (acc : List Int) : DataW Unit := setOf (.agg []) (acc.map (Lit.int .i64))
theorem St_nil : St [] = .map [] := rfl
theorem St_snoc (acc : List Int) (x : Int) : St (acc ++ [x]) = (St acc).put (.int .i64 x) (.agg []) := by
  unfold St
  rw [List.map_append, List.map_cons, List.map_nil, setOf_snoc]
/-- How many there are. -/
def cnt (acc : List Int) : Int := (Maps.size (St acc) : Int)

def plan_Need.f (k : Nat) (a0_0 a0_1 a0_2 : Int) (l0_3 : List Int) (a0_4 a0_5 a0_6 a0_7 a0_8 a0_9 : Int) (l1 : List Int) : Option Int :=
  (plan_Need.go k a0_0 a0_1 a0_2 l0_3 a0_4 a0_5 a0_6 a0_7 a0_8 a0_9 l1 []).bind fun acc => some (cnt acc)

theorem law3 : Keyed Try.prog 3 := int_keyed Try.underlying3
theorem zero52 (w : World) : (zeroValue 52).run Try.prog w = .ok (.agg #[]) w := by kernel_rfl

theorem rd_get (l : List Int) (i : Int) (h : i.toNat < l.length) : rd l i = l[i.toNat] := by
  unfold rd
  rw [List.getD_eq_getElem?_getD, List.getElem?_eq_getElem h, Option.getD_some]
theorem drop_at (l : List Int) (i : Int) (h0 : 0 ≤ i) (h : i < l.length) : l.drop i.toNat = rd l i :: l.drop (i + 1).toNat := by
  rw [List.drop_eq_getElem_cons (show i.toNat < l.length by omega), rd_get l i (by omega), show (i + 1).toNat = i.toNat + 1 by omega]
theorem take_at (l : List Int) (i : Int) (h0 : 0 ≤ i) (h : i < l.length) : l.take (i + 1).toNat = l.take i.toNat ++ [rd l i] := by
  rw [show (i + 1).toNat = i.toNat + 1 by omega, List.take_succ_eq_append_getElem (show i.toNat < l.length by omega), rd_get l i (by omega)]
theorem rd_mem (l : List Int) (i : Int) (h0 : 0 ≤ i) (h : i < l.length) : rd l i ∈ l := by
  rw [rd_get l i (by omega)]
  exact List.getElem_mem _

set_option maxHeartbeats 1000000 in
set_option maxRecDepth 100000 in
theorem plan_Need.calls (k : Nat) (a0_0 : Int) (a0_1 : Int) (a0_2 : Int) (A0_3 : Option Addr) (c0_3 : Nat) (l0_3 : List Int) (a0_4 : Int) (a0_5 : Int) (a0_6 : Int) (a0_7 : Int) (a0_8 : Int) (a0_9 : Int) (A1 : Option Addr) (c1 : Nat) (l1 : List Int) (r : Int) (w : World) (hr0_3 : Kd.C (Kd.int .i64) w A0_3 l0_3.length l0_3) (hc0_3 : l0_3.length ≤ c0_3) (hr1 : Kd.C (Kd.int .i64) w A1 l1.length l1) (hc1 : l1.length ≤ c1) (h : plan_Need.f k a0_0 a0_1 a0_2 l0_3 a0_4 a0_5 a0_6 a0_7 a0_8 a0_9 l1 = some r) :
    Calls Try.prog 15 #[.agg #[.int .i64 a0_0, .int .i64 a0_1, .int .i64 a0_2, .slice A0_3 l0_3.length c0_3, .int .i64 a0_4, .int .i64 a0_5, .int .i64 a0_6, .int .i64 a0_7, .int .i64 a0_8, .int .i64 a0_9], .slice A1 l1.length c1] w fun e w' => e = .returned (.int .i64 r) ∧ Below w.heap.size w w' := by
  have hu24 := Try.underlying24
  have HR0_3 := Aside0.mk hr0_3
  have HC0_3 := Aside0.mk hc0_3
  have HR1 := Aside0.mk hr1
  have hmx := Kd.C_max hr1
  clear hr0_3 hc0_3 hr1 hc1
  obtain ⟨ACC, hgo, hr⟩ := Option.bind_eq_some_iff.mp h
  obtain rfl : cnt ACC = r := by simpa using hr
  clear h hr
  have HG := Aside0.mk hgo
  clear hgo
  have hmm := @run_makeMap Try.prog
  go_enter Try.func15, Try.ntmps15
  go_wp2
  go_loopw [15] (fun i wr => ∃ (n : Int) (acc : List Int), i = .int .i64 n ∧ 0 ≤ n ∧ n ≤ (l1.length : Int) ∧ Aside0 (plan_Need.go k a0_0 a0_1 a0_2 l0_3 a0_4 a0_5 a0_6 a0_7 a0_8 a0_9 (l1.drop n.toNat) acc = some ACC) ∧ Aside0 (acc.length < 2000000000) ∧
      Aside0 (wr.ownsMap Try.prog 3 (unitElem (H := Unit)) (w.heap.size + 1) acc.length (St acc)) ∧ Aside0 (wr.heap[w.heap.size]? = some (.cells #[.int .i64 a0_0, .int .i64 a0_1, .int .i64 a0_2, .slice A0_3 l0_3.length c0_3, .int .i64 a0_4, .int .i64 a0_5, .int .i64 a0_6, .int .i64 a0_7, .int .i64 a0_8, .int .i64 a0_9] 24 (0, 0))) ∧ Aside0 (Below w.heap.size w wr))
    (fun i _ => l1.length - (intOf i).toNat)
  case atStart =>
    refine ⟨0, [], rfl, Int.le_refl _, by omega, HG, ⟨by simp⟩, ⟨?_⟩, ⟨blk_alloc (blk_new _ _) _⟩, ⟨below_alloc (below_alloc (Below.refl _ _) _) _⟩⟩
    have h0 := World.ownsMap_made (H := Unit) (w.alloc (Obj.cells #[.int .i64 a0_0, .int .i64 a0_1, .int .i64 a0_2, .slice A0_3 l0_3.length c0_3, .int .i64 a0_4, .int .i64 a0_5, .int .i64 a0_6, .int .i64 a0_7, .int .i64 a0_8, .int .i64 a0_9] 24)) Try.prog 3 unitElem
    rw [World.size_alloc] at h0
    exact h0
  case round =>
    obtain ⟨n, acc, rfl, hn0, hn, HA, HL, HM, BK, HB⟩ := hrel
    have GE : Aside0 (w.heap.size ≤ w.heap.size) := ⟨Nat.le_refl _⟩
    by_cases hlt : n < (l1.length : Int)
    · have H := HA.out
      clear HA
      rw [drop_at l1 n hn0 hlt, plan_Need.go] at H
      replace H := Option.bind_eq_some_iff.mp H
      obtain ⟨⟨t, te⟩, hp, H⟩ := H
      dsimp only at H
      have AP := Aside0.mk hp
      clear hp
      have RD := Aside0.mk (rd_mem l1 n hn0 hlt)
      obtain ⟨ad, ead, hcell⟩ := Kd.at_int HR1.out n hn0 hlt
      have hcx := (HB.out.cell (World.block_lt_of_cell? w _ hcell)).trans hcell
      clear hcell
      cases ead
      have z0 : wr.cell? ⟨w.heap.size, 0, none⟩ = some (.int .i64 a0_0) := (blk_cell BK.out 0).trans rfl
      have z1 : wr.cell? ⟨w.heap.size, 1, none⟩ = some (.int .i64 a0_1) := (blk_cell BK.out 1).trans rfl
      have z2 : wr.cell? ⟨w.heap.size, 2, none⟩ = some (.int .i64 a0_2) := (blk_cell BK.out 2).trans rfl
      have z3 : wr.cell? ⟨w.heap.size, 3, none⟩ = some (.slice A0_3 l0_3.length c0_3) := (blk_cell BK.out 3).trans rfl
      have z4 : wr.cell? ⟨w.heap.size, 4, none⟩ = some (.int .i64 a0_4) := (blk_cell BK.out 4).trans rfl
      have z5 : wr.cell? ⟨w.heap.size, 5, none⟩ = some (.int .i64 a0_5) := (blk_cell BK.out 5).trans rfl
      have z6 : wr.cell? ⟨w.heap.size, 6, none⟩ = some (.int .i64 a0_6) := (blk_cell BK.out 6).trans rfl
      have z7 : wr.cell? ⟨w.heap.size, 7, none⟩ = some (.int .i64 a0_7) := (blk_cell BK.out 7).trans rfl
      have z8 : wr.cell? ⟨w.heap.size, 8, none⟩ = some (.int .i64 a0_8) := (blk_cell BK.out 8).trans rfl
      have z9 : wr.cell? ⟨w.heap.size, 9, none⟩ = some (.int .i64 a0_9) := (blk_cell BK.out 9).trans rfl
      by_cases c12 : te = 0
      · subst c12
        rw [if_pos rfl] at H
        by_cases c13 : acc.length + t.length < 1000000000 ∧ (∀ x ∈ rd l1 n :: t, (Lit.int .i64 x).wf = true)
        · rw [if_pos c13] at H
          have LB := Aside0.mk c13.1
          have WF := Aside0.mk c13.2
          clear c13
          have H1 := Aside0.mk H
          clear H
          go_wp2_with fail
          refine (plan_Path.calls k a0_0 a0_1 a0_2 _ _ l0_3 a0_4 a0_5 a0_6 a0_7 a0_8 a0_9 (rd l1 n) t 0 _ (Kd.C_below HR0_3.out HB.out) HC0_3.out AP.out).mono ?_
          rintro e w1 ⟨v, rfl, ho, hb⟩
          have BK1 := Aside0.mk (blk_below BK.out hb)
          have HB1 := Aside0.mk (below_step HB.out hb)
          have HM1 := Aside0.mk (World.ownsMap.kept HM.out (grown_of_below hb none) (by simp))
          have HO := Aside0.mk (Kd.R_mono (Kd.R_bound ho) (ok' := fun q => q ≠ w.heap.size + 1) (fun q hq => by have := hq.2.1; have := HM.out.lt; omega))
          obtain ⟨Ao, co, eo⟩ := Kd.R_slice HO.out
          subst eo
          clear ho hb z0 z1 z2 z3 z4 z5 z6 z7 z8 z9 HB BK HM
          have hk := Aside0.mk (keyOf_int_mk Try.underlying3 (WF.out (rd l1 n) List.mem_cons_self))
          go_wp2_with (at_mapUpdate; refine wpList_mapUpdate_own _ rfl _ _ _ 51 rfl 3 52 law3 Try.underlying51 (unitElem (H := Unit)) (w.heap.size + 1) acc.length _ rfl HM1.out (by have := HL.out; unfold maxLen; omega) _ _ _ rfl rfl hk.out _ [] unitElem_mk ?_; intro w2 hown2 hgrow2)
          have BK2 := Aside0.mk (blk_grown BK1.out hgrow2 (by intro h; injection h with h; omega))
          have HB2 := Aside0.mk (pw_below_grown HB1.out _ HB1.out.size hgrow2 (fun q hq => by injection hq with hq; omega))
          have HO2 := Aside0.mk (Kd.R_grown HO.out hgrow2 (fun q hq h => hq (by injection h)))
          rw [← St_snoc] at hown2
          have HM2 := Aside0.mk hown2
          clear hown2 hgrow2 HM1 HO HB1 BK1 hk
          have hmt := Kd.C_max (Kd.R_reads' HO2.out).2.2
          obtain ⟨B0, hB0⟩ : ∃ B0, B0 = wr.heap.size := ⟨_, rfl⟩
          rw [← hB0] at HO2
          clear hB0
          go_loopw [32] (fun i wi => ∃ j : Int, i = .int .i64 j ∧ 0 ≤ j ∧ j ≤ (t.length : Int) ∧
              Aside0 (wi.ownsMap Try.prog 3 (unitElem (H := Unit)) (w.heap.size + 1) (acc.length + 1 + j.toNat) (St (acc ++ rd l1 n :: t.take j.toNat))) ∧ Aside0 (Kd.R (Kd.int .i64) 3 wi B0 (fun q => q ≠ w.heap.size + 1) (.slice Ao t.length co) t) ∧
              Aside0 (wi.heap[w.heap.size]? = some (.cells #[.int .i64 a0_0, .int .i64 a0_1, .int .i64 a0_2, .slice A0_3 l0_3.length c0_3, .int .i64 a0_4, .int .i64 a0_5, .int .i64 a0_6, .int .i64 a0_7, .int .i64 a0_8, .int .i64 a0_9] 24 (0, 0))) ∧ Aside0 (Below w.heap.size w wi))
            (fun i _ => t.length - (intOf i).toNat)
          case atStart => exact ⟨0, rfl, Int.le_refl _, by omega, ⟨by simpa using HM2.out⟩, HO2, BK2, HB2⟩
          case round =>
            rename_i wi
            obtain ⟨j, rfl, hj0, hj, HM3, HO3, BK3, HB3⟩ := hrel
            by_cases hjl : j < (t.length : Int)
            · obtain ⟨ad2, e2, hcell⟩ := Kd.at_int (Kd.R_reads' HO3.out).2.2 j hj0 hjl
              cases e2
              have hkt := Aside0.mk (keyOf_int_mk (P := Try.prog) Try.underlying3 (WF.out (rd t j) (List.mem_cons_of_mem _ (rd_mem t j hj0 hjl))))
              have TK := Aside0.mk (take_at t j hj0 hjl)
              go_wp2_with (at_mapUpdate; refine wpList_mapUpdate_own _ rfl _ _ _ 51 rfl 3 52 law3 Try.underlying51 (unitElem (H := Unit)) (w.heap.size + 1) (acc.length + 1 + j.toNat) _ rfl HM3.out (by have := LB.out; unfold maxLen; omega) _ _ _ rfl rfl hkt.out _ [] unitElem_mk ?_; intro w4 hown4 hgrow4)
              rw [← St_snoc, List.append_assoc, List.cons_append, ← TK.out] at hown4
              refine ⟨⟨j + 1, rfl, by omega, by omega, ⟨?_⟩, ⟨Kd.R_grown HO3.out hgrow4 (fun q hq h => hq (by injection h))⟩, ⟨blk_grown BK3.out hgrow4 (by intro h; injection h with h; omega)⟩, ⟨pw_below_grown HB3.out _ HB3.out.size hgrow4 (fun q hq => by injection hq with hq; omega)⟩⟩, by simp [intOf]; omega⟩
              rw [show acc.length + 1 + (j + 1).toNat = acc.length + 1 + j.toNat + 1 by omega]
              exact hown4
            · have hjt : j.toNat = t.length := by omega
              have HM4 := Aside0.mk HM3.out
              clear HM3
              rw [hjt, List.take_length] at HM4
              clear hjt
              go_wp2
              refine ⟨⟨n + 1, acc ++ rd l1 n :: t, rfl, by omega, by omega, H1, ⟨by have := LB.out; simp; omega⟩, ⟨?_⟩, BK3, HB3⟩, by simp [intOf]; omega⟩
              rw [show (acc ++ rd l1 n :: t).length = acc.length + 1 + t.length by simp; omega]
              exact HM4.out
        · rw [if_neg c13] at H
          exact absurd H (by simp)
      · rw [if_neg c12] at H
        have H1 := Aside0.mk H
        clear H
        have c12b : (te != 0) = true := bne_iff_ne.mpr c12
        have c12c : (te == 0) = false := beq_eq_false_iff_ne.mpr c12
        clear c12
        go_wp2_with fail
        refine (plan_Path.calls k a0_0 a0_1 a0_2 _ _ l0_3 a0_4 a0_5 a0_6 a0_7 a0_8 a0_9 (rd l1 n) t te _ (Kd.C_below HR0_3.out HB.out) HC0_3.out AP.out).mono ?_
        rintro e w1 ⟨v, rfl, ho, hb⟩
        have BK1 := Aside0.mk (blk_below BK.out hb)
        have HB1 := Aside0.mk (below_step HB.out hb)
        have HM1 := Aside0.mk (World.ownsMap.kept HM.out (grown_of_below hb none) (by simp))
        clear ho hb z0 z1 z2 z3 z4 z5 z6 z7 z8 z9 HB BK HM
        go_wp2
        exact ⟨⟨n + 1, acc, rfl, by omega, by omega, H1, HL, HM1, BK1, HB1⟩, by simp [intOf]; omega⟩
    · obtain rfl : n = (l1.length : Int) := by omega
      have H := HA.out
      clear HA
      rw [Int.toNat_natCast, List.drop_length, plan_Need.go] at H
      obtain rfl : acc = ACC := by simpa using H
      clear H
      go_wp2_with (at_len; refine wpList_len_own _ rfl _ 51 rfl 3 52 Try.underlying51 _ (w.heap.size + 1) acc.length _ rfl HM.out ?_)
      go_ret
      exact ⟨rfl, HB.out⟩

theorem plan_Need.go_mono (k : Nat) (a0_0 a0_1 a0_2 : Int) (l0_3 : List Int) (a0_4 a0_5 a0_6 a0_7 a0_8 a0_9 : Int) : ∀ (l acc : List Int), LeO (plan_Need.go k a0_0 a0_1 a0_2 l0_3 a0_4 a0_5 a0_6 a0_7 a0_8 a0_9 l acc) (plan_Need.go (k + 1) a0_0 a0_1 a0_2 l0_3 a0_4 a0_5 a0_6 a0_7 a0_8 a0_9 l acc)
  | [], acc => LeO.refl _
  | p :: ps, acc => by
    unfold plan_Need.go
    refine LeO.bind (plan_Path.mono _ _ _ _ _ _ _ _ _ _ _ _) (fun t => ?_)
    refine LeO.ite (LeO.ite (plan_Need.go_mono k _ _ _ _ _ _ _ _ _ _ ps _) (LeO.none _)) (plan_Need.go_mono k _ _ _ _ _ _ _ _ _ _ ps _)
theorem plan_Need.mono : ∀ a0 a1 a2 a3 a4 a5 a6 a7 a8 a9 a10 k, LeO (plan_Need.f k a0 a1 a2 a3 a4 a5 a6 a7 a8 a9 a10) (plan_Need.f (k + 1) a0 a1 a2 a3 a4 a5 a6 a7 a8 a9 a10) := by
  intro a0 a1 a2 a3 a4 a5 a6 a7 a8 a9 a10 k
  unfold plan_Need.f
  exact LeO.bind (plan_Need.go_mono _ _ _ _ _ _ _ _ _ _ _ _ _) (fun _ => LeO.refl _)
end Go.Proofs.Ytgmdgkanfhoahaa.HNeed
