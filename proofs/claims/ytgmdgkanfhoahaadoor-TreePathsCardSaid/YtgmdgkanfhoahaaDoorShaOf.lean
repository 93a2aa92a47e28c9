/- The contract of sha.Of. -/
import Derived.Test.YtgmdgkanfhoahaaDoorShaEnd
namespace Go.Proofs.YtgmdgkanfhoahaaDoor.ShaOf
open Go.RowKit Go.Proofs.YtgmdgkanfhoahaaDoor.ShaRot Go.Proofs.YtgmdgkanfhoahaaDoor.ShaPure Go.Proofs.YtgmdgkanfhoahaaDoor.ShaBlk Go.Proofs.YtgmdgkanfhoahaaDoor.ShaWrite Go.Proofs.YtgmdgkanfhoahaaDoor.ShaSum Go.Proofs.YtgmdgkanfhoahaaDoor.ShaEnd Go.Proofs.YtgmdgkanfhoahaaDoorW.PrintWords Go.Proofs.YtgmdgkanfhoahaaDoorW.PrintLast Go.Proofs.YtgmdgkanfhoahaaDoorW.PrintMore
set_option linter.unusedVariables false
set_option linter.unusedSimpArgs false

/-- Rows of bytes that are read. -/
abbrev BB : Kd (List Int) := Kd.slice 5 (Kd.int .u8)
theorem BB_at {w : World} {A : Option Addr} {n : Nat} {xss : List (List Int)} (h : BB.C w A n xss) (i : Nat) (h1 : i < n) :
    ∃ ad A1 c1, A = some ad ∧ (xss.getD i []).length ≤ c1 ∧ Kd.C (Kd.int .u8) w A1 (xss.getD i []).length (xss.getD i []) ∧ w.cell? (ad.add i) = some (.slice A1 (xss.getD i []).length c1) := by
  obtain ⟨ad, cs, hA, hl, ⟨A1, c1, rfl, hc, hC⟩, hcell⟩ := ReadsRow.get_ h [] (i : Int) (by omega) (by omega)
  refine ⟨ad, A1, c1, hA, ?_, ?_, ?_⟩
  · simpa using hc
  · simpa using hC
  · have := hcell 0 _ rfl
    simpa [Kd.slice] using this
theorem flat_take (xss : List (List Int)) (i : Nat) (h : i < xss.length) : (xss.take (i + 1)).flatten = (xss.take i).flatten ++ xss.getD i [] := by
  rw [List.take_add_one, List.flatten_append]
  congr 1
  rw [List.getD_eq_getElem?_getD, List.getElem?_eq_getElem h]
  simp
theorem flat_len (xss : List (List Int)) (i : Nat) (h : i < xss.length) : (xss.take i).flatten.length + (xss.getD i []).length ≤ xss.flatten.length := by
  rw [← List.length_append, ← flat_take xss i h]
  conv => rhs; rw [← List.take_append_drop (i + 1) xss, List.flatten_append, List.length_append]
  omega
theorem flat_bytes {xss : List (List Int)} (h : ∀ x ∈ xss, Bytes x) : Bytes xss.flatten := by
  intro y hy
  obtain ⟨x, hx, hy⟩ := List.mem_flatten.1 hy
  exact h x hx y hy
theorem getD_bytes {xss : List (List Int)} (h : ∀ x ∈ xss, Bytes x) (i : Nat) : Bytes (xss.getD i []) := by
  rw [List.getD_eq_getElem?_getD]
  by_cases hi : i < xss.length
  · rw [List.getElem?_eq_getElem hi]
    exact h _ (List.getElem_mem hi)
  · rw [List.getElem?_eq_none (by omega)]
    intro x hx
    simp at hx

set_option maxHeartbeats 4000000 in
set_option maxRecDepth 100000 in
theorem of_calls (A : Option Addr) (c : Nat) (xss : List (List Int)) (w : World) (hT : Tab w) (hC : BB.C w A xss.length xss) (hb : ∀ x ∈ xss, Bytes x) (hlen : xss.flatten.length ≤ 100000000000000) :
    Calls Tryd.prog 42 #[.slice A xss.length c] w fun e w' => e = .returned (.agg (nums .u8 (sha xss.flatten)).toArray) ∧ Below w.heap.size w w' := by
  go_enter Tryd.func42, Tryd.ntmps42
  go_wp2_with fail
  generalize hwa : w.alloc _ = wa
  have RES : Aside0 (wa.heap[w.heap.size]? = some (.cells (nums .u8 (List.replicate 32 0)).toArray 29 (0, 0))) := ⟨by rw [← hwa]; exact blk_new _ _⟩
  have HB0 : Aside0 (Below w.heap.size w wa) := ⟨by rw [← hwa]; exact below_alloc (Below.refl _ _) _⟩
  have HTA := Aside0.mk (hT.below HB0.out)
  have HC : Aside0 (BB.C wa A xss.length xss) := ⟨Kd.C_below hC HB0.out⟩
  have HBY := Aside0.mk hb
  have HLEN := Aside0.mk hlen
  clear hwa hT hC hb hlen
  refine (new_calls wa).mono ?_
  rintro e w1 ⟨rfl, hs1, hb1, -⟩
  have SUM1 := Aside0.mk hs1
  have BEL1 := Aside0.mk hb1
  have HGS : Aside0 (wa.heap.size ≤ wa.heap.size) := ⟨Nat.le_refl _⟩
  clear hs1 hb1
  go_wp2_with fail
  go_loopw [9] (fun i wr => ∃ (t : Int) (rv1 : Value), i = .int .i64 t ∧ 0 ≤ t ∧ t ≤ xss.length ∧ Aside0 (SumAt wr wa.heap.size wa.heap.size (absorb (H0, []) (xss.take t.toNat).flatten).1 (absorb (H0, []) (xss.take t.toNat).flatten).2 ((xss.take t.toNat).flatten.length : Nat) rv1) ∧ Aside0 (Below wa.heap.size wa wr)) (fun i _ => xss.length - (intOf i).toNat)
  case atStart => exact ⟨0, _, rfl, by omega, by omega, ⟨by simpa [absorb] using SUM1.out⟩, BEL1⟩
  case round =>
    clear SUM1 BEL1
    obtain ⟨t, rv1, rfl, t0, tn, SUM, BEL⟩ := hrel
    by_cases ht : t < xss.length
    · obtain ⟨ad, A1, c1, rfl, hc1, hC1, hcell0⟩ := BB_at HC.out t.toNat (by omega)
      have hcell := cell_same hcell0 (BEL.out.block _ (cell_lt hcell0))
      clear hcell0
      have hmx := Kd.C_max HC.out
      have hw : IntKind.i64.wrap (t + 1) = t + 1 := IntWalk.i64_in _ (by omega)
      obtain ⟨p, hp⟩ : ∃ p, xss.getD t.toNat [] = p := ⟨_, rfl⟩
      have hfl := flat_len xss t.toNat (by omega)
      have hft := flat_take xss t.toNat (by omega)
      have hpb := getD_bytes HBY.out t.toNat
      rw [hp] at hcell hC1 hc1 hfl hft hpb
      have HC1 := Aside0.mk hC1
      have HCC := Aside0.mk hc1
      have HFL := Aside0.mk hfl
      have HFT := Aside0.mk hft
      have HPB := Aside0.mk hpb
      clear hC1 hc1 hfl hft hpb hp
      go_wp2_with fail
      refine (write_low wa wa.heap.size _ _ _ _ A1 c1 p wr HTA.out SUM.out BEL.out (Nat.le_refl _) (absorb_len _ _ (by decide)) (absorb_bytes _ _ (by intro x hx; simp at hx) (flat_bytes (fun x hx => HBY.out x (List.mem_of_mem_take hx)))) HPB.out (by omega) (by have := HFL.out; have := HLEN.out; omega) HCC.out HC1.out).mono ?_
      rintro e w2 ⟨rfl, rv2, hs2, hb2, -, -⟩
      have SUM2 := Aside0.mk hs2
      have BEL2 := Aside0.mk hb2
      clear hs2 hb2
      go_wp2_with fail
      refine ⟨⟨t + 1, rv2, rfl, by omega, by omega, ⟨?_⟩, BEL2⟩, by simp [intOf]; omega⟩
      have h3 := SUM2.out
      rw [show (t + 1).toNat = t.toNat + 1 by omega, HFT.out, absorb_append, List.length_append]
      rw [Int.natCast_add]
      exact h3
    · obtain rfl : t = xss.length := by omega
      have SUM3 := Aside0.mk SUM.out
      rw [show (xss.length : Int).toNat = xss.length by omega, List.take_length] at SUM3
      clear SUM
      go_wp2_with fail
      refine (sum_calls wa.heap.size wa.heap.size _ _ _ _ wr (HTA.out.below BEL.out) SUM3.out (absorb_len _ _ (by decide)) (absorb_bytes _ _ (by intro x hx; simp at hx) (flat_bytes HBY.out)) (by omega) (by have := HLEN.out; omega) ?_).mono ?_
      · rw [absorb_mod _ _ (by decide)]
        simp
      rintro e w4 ⟨rfl, hb4⟩
      have BEL4 := Aside0.mk (BEL.out.trans (hb4.mono BEL.out.size))
      clear hb4
      have RES4 : Aside0 (w4.heap[w.heap.size]? = some (.cells (nums .u8 (List.replicate 32 0)).toArray 29 (0, 0))) := ⟨(BEL4.out.block _ (blk_lt RES.out)).trans RES.out⟩
      have hsha : out (absorb (absorb ((absorb (H0, []) xss.flatten).1, (absorb (H0, []) xss.flatten).2) ([128] ++ List.replicate ((119 - ((xss.flatten.length : Nat) : Int).toNat % 64) % 64) 0)) (len8 ((xss.flatten.length : Nat) : Int).toNat)).1 = sha xss.flatten := by
        unfold sha pad
        simp only [List.append_assoc, absorb_append, Int.toNat_natCast]
      rw [hsha]
      have hlen : (sha xss.flatten).length = 32 := rfl
      obtain ⟨D, hD⟩ : ∃ D, sha xss.flatten = D := ⟨_, rfl⟩
      rw [hD] at hlen
      have HD := Aside0.mk hD
      have HDL := Aside0.mk hlen
      simp only [hD]
      clear hD hsha hlen
      have hinfo : (Tryd.prog.info? 29).map (·.size) = some (nums .u8 D).toArray.size := by rw [Tryd.infoD, List.size_toArray, nums, List.length_map, HDL.out]
      have hone : (nums .u8 D).toArray.all (·.oneCell') = true := by simp [nums, Value.oneCell']
      have hsz : (nums .u8 (List.replicate 32 0)).toArray.size = (nums .u8 D).toArray.size := by rw [List.size_toArray, List.size_toArray, nums, nums, List.length_map, List.length_map, HDL.out, List.length_replicate]
      have HI := Aside0.mk hinfo
      have HO := Aside0.mk hone
      have HZ := Aside0.mk hsz
      clear hinfo hone hsz
      go_wp2_with (first | refine wpList_store_row rfl 29 (.tmp 2) (.tmp 18) rfl w.heap.size (nums .u8 D).toArray rfl rfl 29 _ RES4.out HI.out HZ.out HO.out ?_)
      refine bodyPost_ret (results_cell_row (p := 2) (ty := 29) rfl _ _ w.heap.size 29 (nums .u8 D).toArray _ _ rfl (setRow_heap _ _ _ _ _ _ RES4.out) Tryd.underlying29 rfl HI.out) rfl ⟨by rw [HD.out], ?_⟩
      have h2 : Below w.heap.size wa w4 := ⟨BEL4.out.os, BEL4.out.tape, BEL4.out.output, BEL4.out.size, fun k hk => BEL4.out.block k (by have := HB0.out.size; omega)⟩
      exact (HB0.out.trans h2).trans ⟨rfl, rfl, rfl, by rw [setRow_size]; exact Nat.le_refl _, fun k hk => setRow_other _ _ _ _ (by omega)⟩
end Go.Proofs.YtgmdgkanfhoahaaDoor.ShaOf
