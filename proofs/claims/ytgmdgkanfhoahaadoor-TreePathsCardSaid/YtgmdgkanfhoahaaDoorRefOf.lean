/- The contract of ref03.Of. -/
import Derived.Test.YtgmdgkanfhoahaaDoorRefPre
import Derived.StillTailTactics
import Derived.Deep.LoopGhost
import Derived.BigQuiet
namespace Go.Proofs.YtgmdgkanfhoahaaDoor.RefOf
open Go.RowKit Go.Proofs.YtgmdgkanfhoahaaDoor.ShaRot Go.Proofs.YtgmdgkanfhoahaaDoor.ShaPure Go.Proofs.YtgmdgkanfhoahaaDoor.ShaBlk Go.Proofs.YtgmdgkanfhoahaaDoor.ShaWrite Go.Proofs.YtgmdgkanfhoahaaDoor.ShaSum Go.Proofs.YtgmdgkanfhoahaaDoor.ShaEnd Go.Proofs.YtgmdgkanfhoahaaDoor.ShaOf Go.Proofs.YtgmdgkanfhoahaaDoor.RefWords Go.Proofs.YtgmdgkanfhoahaaDoor.RefPad Go.Proofs.YtgmdgkanfhoahaaDoorW.PrintWords Go.Proofs.YtgmdgkanfhoahaaDoorW.PrintLast Go.Proofs.YtgmdgkanfhoahaaDoorW.PrintMore
set_option linter.unusedVariables false
set_option linter.unusedSimpArgs false

/-- Block m of padded bytes. -/
def chunk (p : List Int) (m : Nat) : List Int := (p.drop (64 * m)).take 64
def hash (p : List Int) : Nat → V8
  | 0 => H0
  | m + 1 => blk (hash p m) (chunk p m)
theorem rd_chunk (p : List Int) (m : Nat) (j : Int) (h0 : 0 ≤ j) (h1 : j < 64) : rd (chunk p m) j = rd p (64 * m + j) := by
  unfold rd chunk
  rw [List.getD_eq_getElem?_getD, List.getD_eq_getElem?_getD, List.getElem?_take, if_pos (by omega), List.getElem?_drop, show (64 * (m : Int) + j).toNat = 64 * m + j.toNat by omega]
theorem wd_chunk (p : List Int) (m : Nat) (t : Int) (h0 : 0 ≤ t) (h1 : t < 16) : wd (chunk p m) t = rd p (64 * m + 4 * t) * 16777216 + rd p (64 * m + 4 * t + 1) * 65536 + rd p (64 * m + 4 * t + 2) * 256 + rd p (64 * m + 4 * t + 3) := by
  unfold wd
  rw [rd_chunk _ _ _ (by omega) (by omega), rd_chunk _ _ _ (by omega) (by omega), rd_chunk _ _ _ (by omega) (by omega), rd_chunk _ _ _ (by omega) (by omega)]
  rw [show 64 * (m : Int) + (4 * t + 1) = 64 * m + 4 * t + 1 by omega, show 64 * (m : Int) + (4 * t + 2) = 64 * m + 4 * t + 2 by omega, show 64 * (m : Int) + (4 * t + 3) = 64 * m + 4 * t + 3 by omega]
theorem absorb_chunks (p : List Int) : ∀ m : Nat, 64 * m ≤ p.length → absorb (H0, []) (p.take (64 * m)) = (hash p m, [])
  | 0, _ => by simp [absorb, hash]
  | m + 1, h => by
    rw [show 64 * (m + 1) = 64 * m + 64 by omega, List.take_add, absorb_append, absorb_chunks p m (by omega)]
    have hl : (chunk p m).length = 64 := by unfold chunk; rw [List.length_take, List.length_drop]; omega
    show absorb (hash p m, []) (chunk p m) = _
    rw [absorb_fills (hash p m) (chunk p m) [] (by rw [hl]; rfl) (by intro h; rw [h] at hl; simp at hl)]
    rfl
theorem hash_sha (l : List Int) (M : Nat) (h : (pad l).length = 64 * M) : out (hash (pad l) M) = sha l := by
  unfold sha
  have := absorb_chunks (pad l) M (by omega)
  rw [← h, List.take_length] at this
  rw [this]
theorem pad_len (l : List Int) : ∃ M, (pad l).length = 64 * M := by
  refine ⟨(pad l).length / 64, ?_⟩
  have : (pad l).length = l.length + 1 + (119 - l.length % 64) % 64 + 8 := by unfold pad; simp [len8_length]; omega
  omega
theorem pad_bytes {l : List Int} (h : Bytes l) : Bytes (pad l) := by
  unfold pad
  intro x hx
  rcases List.mem_append.1 hx with hx | hx
  · rcases List.mem_append.1 hx with hx | hx
    · rcases List.mem_append.1 hx with hx | hx
      · exact h x hx
      · simp at hx; omega
    · rw [List.eq_of_mem_replicate hx]; omega
  · exact len8_bytes _ x hx
theorem row_new (w : World) (z cs : Array Value) (t : TypeId) : ((w.alloc (.cells z t (0, 0))).setRow w.heap.size cs).heap[w.heap.size]? = some (.cells cs t (0, 0)) := setRow_heap _ _ _ _ _ _ (blk_new _ _)
theorem row_below (w : World) (z cs : Array Value) (t : TypeId) : Below w.heap.size w ((w.alloc (.cells z t (0, 0))).setRow w.heap.size cs) :=
  (below_alloc (Below.refl _ _) _).trans ⟨rfl, rfl, rfl, by rw [setRow_size]; exact Nat.le_refl _, fun k hk => setRow_other _ _ _ _ (by omega)⟩
theorem far8 {w W : World} {g gv : Nat} {row : Option Nat} {i0 i1 i2 i3 i4 i5 i6 i7 : Nat} {u0 u1 u2 u3 u4 u5 u6 u7 : Value} (h : KeepBut w W g row) (hp : w.heap.size ≤ gv) :
    KeepBut w ((((((((W.setCell ⟨gv, i0, none⟩ u0).setCell ⟨gv, i1, none⟩ u1).setCell ⟨gv, i2, none⟩ u2).setCell ⟨gv, i3, none⟩ u3).setCell ⟨gv, i4, none⟩ u4).setCell ⟨gv, i5, none⟩ u5).setCell ⟨gv, i6, none⟩ u6).setCell ⟨gv, i7, none⟩ u7) g row :=
  keep_far (p := ⟨gv, i7, none⟩) (keep_far (p := ⟨gv, i6, none⟩) (keep_far (p := ⟨gv, i5, none⟩) (keep_far (p := ⟨gv, i4, none⟩) (keep_far (p := ⟨gv, i3, none⟩) (keep_far (p := ⟨gv, i2, none⟩) (keep_far (p := ⟨gv, i1, none⟩) (keep_far (p := ⟨gv, i0, none⟩) h hp _) hp _) hp _) hp _) hp _) hp _) hp _) hp _
def v8l (v : V8) : List Int := [v.a, v.b, v.c, v.d, v.e, v.f, v.g, v.h]

theorem out_at (v : V8) (t : Int) (h0 : 0 ≤ t) (h1 : t < 32) : rd (out v) t = rd (v8l v) (t / 4) / 2 ^ (24 - 8 * (t % 4)).toNat % 256 := by
  have h : t = 0 ∨ t = 1 ∨ t = 2 ∨ t = 3 ∨ t = 4 ∨ t = 5 ∨ t = 6 ∨ t = 7 ∨ t = 8 ∨ t = 9 ∨ t = 10 ∨ t = 11 ∨ t = 12 ∨ t = 13 ∨ t = 14 ∨ t = 15 ∨ t = 16 ∨ t = 17 ∨ t = 18 ∨ t = 19 ∨ t = 20 ∨ t = 21 ∨ t = 22 ∨ t = 23 ∨ t = 24 ∨ t = 25 ∨ t = 26 ∨ t = 27 ∨ t = 28 ∨ t = 29 ∨ t = 30 ∨ t = 31 := by omega
  rcases h with rfl | rfl | rfl | rfl | rfl | rfl | rfl | rfl | rfl | rfl | rfl | rfl | rfl | rfl | rfl | rfl | rfl | rfl | rfl | rfl | rfl | rfl | rfl | rfl | rfl | rfl | rfl | rfl | rfl | rfl | rfl | rfl <;> (simp [out, v8l, rd])
theorem list_rd : ∀ {xs ys : List Int}, xs.length = ys.length → (∀ j : Nat, j < xs.length → rd xs j = rd ys j) → xs = ys := by
  intro xs ys hl h
  apply List.ext_getElem hl
  intro j h1 h2
  have := h j h1
  unfold rd at this
  rw [List.getD_eq_getElem?_getD, List.getD_eq_getElem?_getD, Int.toNat_natCast, List.getElem?_eq_getElem h1, List.getElem?_eq_getElem h2] at this
  simpa using this
set_option maxHeartbeats 0 in
set_option maxRecDepth 100000 in
theorem of_calls (A : Option Addr) (c : Nat) (l : List Int) (w : World) (hC : Kd.C (Kd.int .u8) w A l.length l) (hc : l.length ≤ c) (hby : Bytes l) (hlen : l.length ≤ 100000000000000) :
    Calls Tryd.prog 37 #[.slice A l.length c] w fun e w' => e = .returned (.agg (nums .u8 (sha l)).toArray) ∧ Below w.heap.size w w' := by
  have HL := Aside0.mk hlen
  have HCC := Aside0.mk hc
  have HBY := Aside0.mk (pad_bytes hby)
  go_enter Tryd.func37, Tryd.ntmps37
  go_wp2_with fail
  generalize hwa : w.alloc _ = wa
  have RES : Aside0 (wa.heap[w.heap.size]? = some (.cells (nums .u8 (List.replicate 32 0)).toArray 29 (0, 0))) := ⟨by rw [← hwa]; exact blk_new _ _⟩
  have HB0 : Aside0 (Below w.heap.size w wa) := ⟨by rw [← hwa]; exact below_alloc (Below.refl _ _) _⟩
  have HC : Aside0 (Kd.C (Kd.int .u8) wa A l.length l) := ⟨Kd.C_below hC HB0.out⟩
  clear hwa hC hby hlen hc
  refine (words_calls wa).mono ?_
  rintro e w1 ⟨rfl, hb1⟩
  have BEL1 := Aside0.mk hb1
  clear hb1
  go_wp2_with (first
    | (refine wpList_store_row rfl 90 (.tmp 3) (.tmp 19) rfl w1.heap.size (nums .u32 KT).toArray rfl rfl 90 _ (blk_new _ _) Tryd.infoK (by rfl) (by simp [nums, KT, Value.oneCell']) ?_
       generalize hw2 : World.setRow _ w1.heap.size (nums .u32 KT).toArray = w2
       have KB2 : Aside0 (w2.heap[w1.heap.size]? = some (.cells (nums .u32 KT).toArray 90 (0, 0))) := ⟨by rw [← hw2]; exact row_new _ _ _ _⟩
       have BEL2 : Aside0 (Below wa.heap.size wa w2) := ⟨BEL1.out.trans (by rw [← hw2]; exact (row_below _ _ _ _).mono BEL1.out.size)⟩
       have KG := Aside0.mk BEL1.out.size
       obtain ⟨kb, hkb⟩ : ∃ kb, w1.heap.size = kb := ⟨_, rfl⟩
       rw [hkb] at KB2 KG ⊢
       clear hw2 hkb BEL1))
  change Calls _ _ _ (w2.alloc (.cells (nums .u32 (v8l H0)).toArray 92 (0, 0))) _
  have HB3 := Aside0.mk (blk_new w2 (.cells (nums .u32 (v8l H0)).toArray 92 (0, 0)))
  have KB3 := Aside0.mk (blk_alloc KB2.out (.cells (nums .u32 (v8l H0)).toArray 92 (0, 0)))
  have BEL3 := Aside0.mk (below_alloc BEL2.out (.cells (nums .u32 (v8l H0)).toArray 92 (0, 0)))
  have HG := Aside0.mk BEL2.out.size
  have KH : Aside0 (kb < w2.heap.size) := ⟨blk_lt KB2.out⟩
  obtain ⟨hb, hhb⟩ : ∃ hb, w2.heap.size = hb := ⟨_, rfl⟩
  rw [hhb] at HB3 HG KH ⊢
  clear hhb BEL2 KB2
  generalize w2.alloc _ = w3 at HB3 KB3 BEL3 ⊢
  refine (padded_calls A c l w3 (Kd.C_below HC.out (BEL3.out)) HCC.out HL.out).mono ?_
  rintro e w4 ⟨pv, rfl, hR4, hb4⟩
  have BEL4 := Aside0.mk (BEL3.out.trans (hb4.mono BEL3.out.size))
  have HB4 := Aside0.mk (blk_below HB3.out hb4)
  have KB4 := Aside0.mk (blk_below KB3.out hb4)
  have ROW4 := Aside0.mk hR4
  have HB3L := Aside0.mk (blk_lt HB3.out)
  clear hR4 hb4 BEL3 HB3 KB3
  obtain ⟨p, hp⟩ : ∃ p, p = pad l := ⟨_, rfl⟩
  have HP := Aside0.mk hp
  obtain ⟨M, hM⟩ := pad_len l
  rw [← hp] at ROW4 hM HBY
  have HM := Aside0.mk hM
  clear hp hM
  obtain ⟨RA, rc, er⟩ := Kd.R_slice ROW4.out
  subst er
  have HPL : Aside0 (0 < p.length) := ⟨by rw [HP.out]; obtain ⟨M', hM'⟩ := pad_len l; unfold pad at hM' ⊢; simp only [List.length_append, List.length_singleton]; omega⟩
  obtain ⟨pg, rfl, -, hpg, hpc⟩ := row_cells ROW4.out HPL.out
  have PC : Aside0 (∀ i : Int, 0 ≤ i → i < p.length → w4.cell? ⟨pg, i.toNat, none⟩ = some (.int .u8 (rd p i))) := ⟨fun i h0 h1 => hpc i.toNat _ (by
    unfold nums rd
    rw [List.getElem?_map, List.getElem?_eq_getElem (by omega), List.getD_eq_getElem?_getD, List.getElem?_eq_getElem (by omega)]
    rfl)⟩
  have PG : Aside0 (hb < pg) := ⟨by have := HB3L.out; omega⟩
  have PGL : Aside0 (pg < w4.heap.size) := ⟨Kd.R_lt ROW4.out pg rfl⟩
  clear hpg hpc ROW4
  go_wp2_with fail
  have PCELL : Aside0 (∀ W, KeepBut w4 W hb none → ∀ i : Int, 0 ≤ i → i < p.length → W.cell? ⟨pg, i.toNat, none⟩ = some (.int .u8 (rd p i))) := ⟨fun W hk i h0 h1 => cell_same (PC.out i h0 h1) (hk.2 pg PGL.out (by have := PG.out; omega) (by simp))⟩
  have KCELL : Aside0 (∀ W, KeepBut w4 W hb none → ∀ i : Int, 0 ≤ i → i < 64 → W.cell? ⟨kb, i.toNat, none⟩ = some (.int .u32 (rd KT i))) := ⟨fun W hk i h0 h1 => cell_same (nums_cell KB4.out i h0 (by show i.toNat < 64; omega)) (hk.2 kb (blk_lt KB4.out) (by have := KH.out; omega) (by simp))⟩
  have HPM : Aside0 (p.length ≤ 100000000000200) := ⟨by rw [HP.out]; unfold pad; simp [len8_length]; have := HL.out; omega⟩
  clear PC HC HCC
  go_loopw [6] (fun i wr => ∃ (m : Nat) (a : Int), i = .int .i64 a ∧ 0 ≤ a ∧ a ≤ p.length ∧ Aside0 (a = 64 * m ∧ m ≤ M) ∧ Aside0 (wr.heap[hb]? = some (.cells (nums .u32 (v8l (hash p m))).toArray 92 (0, 0))) ∧ Aside0 (KeepBut w4 wr hb none) ∧ Aside0 (Below wa.heap.size wa wr)) (fun i _ => p.length - (intOf i).toNat)
  case atStart => exact ⟨0, 0, rfl, by omega, by omega, ⟨by omega, by omega⟩, HB4, ⟨KeepBut.refl _ _ _⟩, BEL4⟩
  case round =>
    clear HB4 BEL4
    obtain ⟨m, a, rfl, a0, a1, HA, HH, KP, BEL⟩ := hrel
    by_cases ha : a < p.length
    · have HM1 : Aside0 (m < M ∧ a + 64 ≤ p.length) := ⟨by have := HA.out; have := HM.out; omega⟩
      go_wp2_with fail
      change Code.wp _ _ _ _ (wr.alloc (.cells (nums .u32 (List.replicate 64 0)).toArray 90 (0, 0)))
      have GW : Aside0 (w4.heap.size ≤ wr.heap.size) := ⟨KP.out.1⟩
      have BW := Aside0.mk (blk_new wr (.cells (nums .u32 (List.replicate 64 0)).toArray 90 (0, 0)))
      have HH1 := Aside0.mk (blk_alloc HH.out (.cells (nums .u32 (List.replicate 64 0)).toArray 90 (0, 0)))
      have KP1 : Aside0 (KeepBut w4 (wr.alloc (.cells (nums .u32 (List.replicate 64 0)).toArray 90 (0, 0))) hb none) := ⟨KP.out.trans (KeepBut.of_below (below_alloc (Below.refl _ _) _) hb none) (.inl rfl)⟩
      have BEL1 := Aside0.mk (below_alloc BEL.out (.cells (nums .u32 (List.replicate 64 0)).toArray 90 (0, 0)))
      obtain ⟨gw, hgw⟩ : ∃ gw, wr.heap.size = gw := ⟨_, rfl⟩
      rw [hgw] at BW GW ⊢
      clear hgw HH KP BEL
      generalize wr.alloc _ = wi at BW HH1 KP1 BEL1 ⊢
      obtain ⟨b, hb'⟩ : ∃ b, b = chunk p m := ⟨_, rfl⟩
      have HBC := Aside0.mk hb'
      clear hb'
      have HHB : Aside0 (hb < w4.heap.size) := ⟨by have := PG.out; have := PGL.out; omega⟩
      go_loopw [8] (fun i wr => ∃ t : Int, i = .int .i64 t ∧ 0 ≤ t ∧ t ≤ 64 ∧ (∃ ws : List Int, Aside0 (ws.length = 64) ∧ Aside0 (∀ j : Nat, (j : Int) < t → rd ws j = SW b j) ∧ Aside0 (wr.heap[gw]? = some (.cells (nums .u32 ws).toArray 90 (0, 0)))) ∧ Aside0 (wr.heap[hb]? = some (.cells (nums .u32 (v8l (hash p m))).toArray 92 (0, 0))) ∧ Aside0 (KeepBut w4 wr hb none) ∧ Aside0 (Below wa.heap.size wa wr)) (fun i _ => 64 - (intOf i).toNat)
      case atStart => exact ⟨0, rfl, by omega, by omega, ⟨List.replicate 64 0, ⟨rfl⟩, ⟨fun j hj => by omega⟩, BW⟩, HH1, KP1, BEL1⟩
      case round =>
        clear BW HH1 KP1 BEL1
        obtain ⟨t, rfl, t0, t64, ⟨ws, hl, hw, BW⟩, HH, KP, BEL⟩ := hrel
        by_cases ht : t < 64
        · by_cases ht16 : t < 16
          · as_aux_lemma =>
            have hma := HM1.out.2
            have hpm := HPM.out
            have e9 : IntKind.i64.wrap (4 * t) = 4 * t := IntWalk.i64_in _ (by omega)
            have e0 : IntKind.i64.wrap (a + 4 * t) = a + 4 * t := IntWalk.i64_in _ (by omega)
            go_wp2_with fail
            obtain ⟨q, hq⟩ : ∃ q, a + 4 * t = q := ⟨_, rfl⟩
            rw [hq]
            have m0 : 0 ≤ q := by omega
            have m1 : 0 ≤ q + 1 := by omega
            have m2 : 0 ≤ q + 2 := by omega
            have m3 : 0 ≤ q + 3 := by omega
            have m4 : q < p.length := by omega
            have m5 : q + 1 < p.length := by omega
            have m6 : q + 2 < p.length := by omega
            have m7 : q + 3 < p.length := by omega
            have e1 : IntKind.i64.wrap (q + 1) = q + 1 := IntWalk.i64_in _ (by omega)
            have e2 : IntKind.i64.wrap (q + 2) = q + 2 := IntWalk.i64_in _ (by omega)
            have e3 : IntKind.i64.wrap (q + 3) = q + 3 := IntWalk.i64_in _ (by omega)
            have x0 := PCELL.out wr KP.out q m0 m4
            have x1 := PCELL.out wr KP.out (q + 1) m1 m5
            have x2 := PCELL.out wr KP.out (q + 2) m2 m6
            have x3 := PCELL.out wr KP.out (q + 3) m3 m7
            have r0 := HBY.out.at_ q
            have r1 := HBY.out.at_ (q + 1)
            have r2 := HBY.out.at_ (q + 2)
            have r3 := HBY.out.at_ (q + 3)
            have WD : Aside0 (rd p q * 16777216 + rd p (q + 1) * 65536 + rd p (q + 2) * 256 + rd p (q + 3) = wd b t) := ⟨by rw [HBC.out, wd_chunk p m t t0 ht16, ← HA.out.1, hq]⟩
            obtain ⟨p0, hp0⟩ : ∃ x, x = rd p q := ⟨_, rfl⟩
            obtain ⟨p1, hp1⟩ : ∃ x, x = rd p (q + 1) := ⟨_, rfl⟩
            obtain ⟨p2, hp2⟩ : ∃ x, x = rd p (q + 2) := ⟨_, rfl⟩
            obtain ⟨p3, hp3⟩ : ∃ x, x = rd p (q + 3) := ⟨_, rfl⟩
            rw [← hp0] at x0 r0 WD
            rw [← hp1] at x1 r1 WD
            rw [← hp2] at x2 r2 WD
            rw [← hp3] at x3 r3 WD
            clear hp0 hp1 hp2 hp3 hq e9 e0 hma
            have v0 : IntKind.u32.wrap p0 = p0 := wraps_u32 _ r0.1 (by omega)
            have v1 : IntKind.u32.wrap p1 = p1 := wraps_u32 _ r1.1 (by omega)
            have v2 : IntKind.u32.wrap p2 = p2 := wraps_u32 _ r2.1 (by omega)
            have v3 : IntKind.u32.wrap p3 = p3 := wraps_u32 _ r3.1 (by omega)
            have v4 : IntKind.u32.wrap (p0 * 16777216) = p0 * 16777216 := wraps_u32 _ (by omega) (by omega)
            have v5 : IntKind.u32.wrap (p1 * 65536) = p1 * 65536 := wraps_u32 _ (by omega) (by omega)
            have v6 : IntKind.u32.wrap (p2 * 256) = p2 * 256 := wraps_u32 _ (by omega) (by omega)
            have o0 : IntKind.u32.wrap (p0 * 16777216 + p1 * 65536) = p0 * 16777216 + p1 * 65536 := wraps_u32 _ (by omega) (by omega)
            have o1 : IntKind.u32.wrap (p0 * 16777216 + p1 * 65536 + p2 * 256) = p0 * 16777216 + p1 * 65536 + p2 * 256 := wraps_u32 _ (by omega) (by omega)
            have o2 : IntKind.u32.wrap (p0 * 16777216 + p1 * 65536 + p2 * 256 + p3) = p0 * 16777216 + p1 * 65536 + p2 * 256 + p3 := wraps_u32 _ (by omega) (by omega)
            clear r0 r1 r2 r3
            go_still_tail 31, (by as_aux_lemma => kernel_rfl)
            rw [WD.out]
            change wpList _ _ _ _ _ wr.drew
            have BW2 := Aside0.mk (blk_drew BW.out)
            have HH2 := Aside0.mk (blk_drew HH.out)
            have KP2 : Aside0 (KeepBut w4 wr.drew hb none) := ⟨KP.out⟩
            have BEL2 := Aside0.mk (below_drew1 BEL.out)
            clear x0 x1 x2 x3 v0 v1 v2 v3 v4 v5 v6 o0 o1 o2 e1 e2 e3 m0 m1 m2 m3 m4 m5 m6 m7 BW HH KP BEL
            generalize wr.drew = w2 at BW2 HH2 KP2 BEL2 ⊢
            have zc := nums_cell BW2.out t t0 (by rw [hl.out]; omega)
            have zf := blk_frozen BW2.out t.toNat
            go_wp2
            have hgw := GW.out
            have hhb := HHB.out
            have hwa := KG.out
            have hkh := KH.out
            refine ⟨⟨t + 1, rfl, by omega, by omega, ⟨ws.set t.toNat (wd b t), ⟨by rw [List.length_set]; exact hl.out⟩, ⟨fun j hj => ?_⟩, ⟨nums_set BW2.out _ _⟩⟩, ⟨blk_far HH2.out (show hb ≠ gw by omega) _⟩, ⟨keep_far KP2.out (p := ⟨gw, t.toNat, none⟩) hgw _⟩, ⟨below_set BEL2.out (show wa.heap.size ≤ gw by omega)⟩⟩, by simp [intOf]; omega⟩
            rw [rd_set _ (by rw [hl.out]; omega)]
            by_cases e : j = t.toNat
            · rw [if_pos e, SW_lo (by omega)]
              congr 1
              omega
            · rw [if_neg e]
              exact hw.out j (by omega)
          · as_aux_lemma =>
            obtain ⟨q16, h16⟩ : ∃ x, x = SW b (t.toNat - 16) := ⟨_, rfl⟩
            obtain ⟨q15, h15⟩ : ∃ x, x = SW b (t.toNat - 15) := ⟨_, rfl⟩
            obtain ⟨q7, h7⟩ : ∃ x, x = SW b (t.toNat - 7) := ⟨_, rfl⟩
            obtain ⟨q2, h2⟩ : ∃ x, x = SW b (t.toNat - 2) := ⟨_, rfl⟩
            have SWt := Aside0.mk (show add32 (add32 (add32 q16 (sg0 q15)) q7) (sg1 q2) = SW b t.toNat by rw [h16, h15, h7, h2]; exact (SW_hi (by omega)).symm)
            have g : ∀ d : Nat, d ≤ 16 → 1 ≤ d → rd ws (t - d) = SW b (t.toNat - d) := fun d hd h1 => by
              have := hw.out (t.toNat - d) (by omega)
              rw [show ((t.toNat - d : Nat) : Int) = t - d by omega] at this
              exact this
            have e16 : IntKind.i64.wrap (t - 16) = t - 16 := IntWalk.i64_in _ (by omega)
            have e15 : IntKind.i64.wrap (t - 15) = t - 15 := IntWalk.i64_in _ (by omega)
            have e7 : IntKind.i64.wrap (t - 7) = t - 7 := IntWalk.i64_in _ (by omega)
            have e2 : IntKind.i64.wrap (t - 2) = t - 2 := IntWalk.i64_in _ (by omega)
            have x16 : wr.cell? ⟨gw, (t - 16).toNat, none⟩ = some (.int .u32 q16) := by rw [h16, ← g 16 (by omega) (by omega)]; exact nums_cell BW.out _ (by omega) (by rw [hl.out]; omega)
            have x15 : wr.cell? ⟨gw, (t - 15).toNat, none⟩ = some (.int .u32 q15) := by rw [h15, ← g 15 (by omega) (by omega)]; exact nums_cell BW.out _ (by omega) (by rw [hl.out]; omega)
            have x7 : wr.cell? ⟨gw, (t - 7).toNat, none⟩ = some (.int .u32 q7) := by rw [h7, ← g 7 (by omega) (by omega)]; exact nums_cell BW.out _ (by omega) (by rw [hl.out]; omega)
            have x2 : wr.cell? ⟨gw, (t - 2).toNat, none⟩ = some (.int .u32 q2) := by rw [h2, ← g 2 (by omega) (by omega)]; exact nums_cell BW.out _ (by omega) (by rw [hl.out]; omega)
            have i0 : 0 ≤ t - 16 := by omega
            have i1 : 0 ≤ t - 15 := by omega
            have i2 : 0 ≤ t - 7 := by omega
            have i3 : 0 ≤ t - 2 := by omega
            have i4 : t - 16 < 64 := by omega
            have i5 : t - 15 < 64 := by omega
            have i6 : t - 7 < 64 := by omega
            have i7 : t - 2 < 64 := by omega
            have i8 : 0 ≤ t := by omega
            have i9 : 7 ≤ t := by omega
            have j15 : 15 ≤ t := by omega
            have j16 : 16 ≤ t := by omega
            have j2 : 2 ≤ t := by omega
            clear h16 h15 h7 h2 g
            obtain ⟨s0, hs0⟩ : ∃ x, bits .xor .u32 (bits .xor .u32 (rotr q15 7) (rotr q15 18)) (q15 / 8) = x := ⟨_, rfl⟩
            obtain ⟨s1, hs1⟩ : ∃ x, bits .xor .u32 (bits .xor .u32 (rotr q2 17) (rotr q2 19)) (q2 / 1024) = x := ⟨_, rfl⟩
            have SWu := Aside0.mk (show add32 (add32 (add32 q16 s0) q7) s1 = SW b t.toNat by rw [← SWt.out, ← hs0, ← hs1]; rfl)
            clear SWt
            go_wp2_with fail
            refine wp_region_still_lit (by as_aux_lemma => kernel_rfl) (by as_aux_lemma => kernel_rfl) ?_
            repeat still_step
            still_call ((rotr_calls q15 7 7 _ rfl (by omega) (by omega)).mono fun e w' h => ⟨h.1, h.2.symm⟩)
            repeat still_step
            still_call ((rotr_calls q15 18 18 _ rfl (by omega) (by omega)).mono fun e w' h => ⟨h.1, h.2.symm⟩)
            repeat still_step
            refine wpStill_nil ?_
            change Exit.then _ _ _ _ wr.drew
            have BW2 := Aside0.mk (blk_drew BW.out)
            have HH2 := Aside0.mk (blk_drew HH.out)
            have KP2 : Aside0 (KeepBut w4 wr.drew hb none) := ⟨KP.out⟩
            have BEL2 := Aside0.mk (below_drew1 BEL.out)
            replace x16 : wr.drew.cell? ⟨gw, (t - 16).toNat, none⟩ = some (.int .u32 q16) := x16
            replace x7 : wr.drew.cell? ⟨gw, (t - 7).toNat, none⟩ = some (.int .u32 q7) := x7
            replace x2 : wr.drew.cell? ⟨gw, (t - 2).toNat, none⟩ = some (.int .u32 q2) := x2
            clear x15 e15 i1 i5 BW HH KP BEL
            generalize wr.drew = w2 at BW2 HH2 KP2 BEL2 x16 x7 x2 ⊢
            go_wp2_with fail
            refine wp_region_still_lit (by as_aux_lemma => kernel_rfl) (by as_aux_lemma => kernel_rfl) ?_
            repeat still_step
            still_call ((rotr_calls q2 17 17 _ rfl (by omega) (by omega)).mono fun e w' h => ⟨h.1, h.2.symm⟩)
            repeat still_step
            still_call ((rotr_calls q2 19 19 _ rfl (by omega) (by omega)).mono fun e w' h => ⟨h.1, h.2.symm⟩)
            repeat still_step
            refine wpStill_nil ?_
            change Exit.then _ _ _ _ w2.drew
            have BW3 := Aside0.mk (blk_drew BW2.out)
            have HH3 := Aside0.mk (blk_drew HH2.out)
            have KP3 : Aside0 (KeepBut w4 w2.drew hb none) := ⟨KP2.out⟩
            have BEL3 := Aside0.mk (below_drew1 BEL2.out)
            replace x16 : w2.drew.cell? ⟨gw, (t - 16).toNat, none⟩ = some (.int .u32 q16) := x16
            replace x7 : w2.drew.cell? ⟨gw, (t - 7).toNat, none⟩ = some (.int .u32 q7) := x7
            clear x2 e2 i3 i7 BW2 HH2 KP2 BEL2
            generalize w2.drew = w3 at BW3 HH3 KP3 BEL3 x16 x7 ⊢
            have hadd := wrap_add
            go_wp2_with fail
            refine wp_region_still_tail 15 (by as_aux_lemma => kernel_rfl) (by as_aux_lemma => kernel_rfl) ?_
            simp only [List.take_succ_cons, List.take_zero, List.drop_succ_cons, List.drop_zero]
            repeat still_step
            refine wpStill_nil ?_
            rw [SWu.out]
            change wpList _ _ _ _ _ w3.drew
            have BW4 := Aside0.mk (blk_drew BW3.out)
            have HH4 := Aside0.mk (blk_drew HH3.out)
            have KP4 : Aside0 (KeepBut w4 w3.drew hb none) := ⟨KP3.out⟩
            have BEL4 := Aside0.mk (below_drew1 BEL3.out)
            clear x16 x7 e16 e7 i0 i2 i4 i6 i9 hadd hs0 hs1 SWu BW3 HH3 KP3 BEL3
            generalize w3.drew = w5 at BW4 HH4 KP4 BEL4 ⊢
            have zc := nums_cell BW4.out t i8 (by rw [hl.out]; omega)
            have zf := blk_frozen BW4.out t.toNat
            go_wp2
            have hgw := GW.out
            have hhb := HHB.out
            have hwa := KG.out
            have hkh := KH.out
            refine ⟨⟨t + 1, rfl, by omega, by omega, ⟨ws.set t.toNat (SW b t.toNat), ⟨by rw [List.length_set]; exact hl.out⟩, ⟨fun j hj => ?_⟩, ⟨nums_set BW4.out _ _⟩⟩, ⟨blk_far HH4.out (show hb ≠ gw by omega) _⟩, ⟨keep_far KP4.out (p := ⟨gw, t.toNat, none⟩) hgw _⟩, ⟨below_set BEL4.out (show wa.heap.size ≤ gw by omega)⟩⟩, by simp [intOf]; omega⟩
            rw [rd_set _ (by rw [hl.out]; omega)]
            by_cases e : j = t.toNat
            · rw [if_pos e, e]
            · rw [if_neg e]
              exact hw.out j (by omega)
        · obtain rfl : t = 64 := by omega
          clear ht t0 t64
          obtain ⟨hv, hhv⟩ : ∃ hv, hash p m = hv := ⟨_, rfl⟩
          rw [hhv] at HH
          have HHV := Aside0.mk hhv
          clear hhv
          obtain ⟨s0, s1, s2, s3, s4, s5, s6, s7⟩ := hv
          have c0 : wr.cell? ⟨hb, 0, none⟩ = some (.int .u32 s0) := (blk_cell HH.out 0).trans rfl
          have c1 : wr.cell? ⟨hb, 1, none⟩ = some (.int .u32 s1) := (blk_cell HH.out 1).trans rfl
          have c2 : wr.cell? ⟨hb, 2, none⟩ = some (.int .u32 s2) := (blk_cell HH.out 2).trans rfl
          have c3 : wr.cell? ⟨hb, 3, none⟩ = some (.int .u32 s3) := (blk_cell HH.out 3).trans rfl
          have c4 : wr.cell? ⟨hb, 4, none⟩ = some (.int .u32 s4) := (blk_cell HH.out 4).trans rfl
          have c5 : wr.cell? ⟨hb, 5, none⟩ = some (.int .u32 s5) := (blk_cell HH.out 5).trans rfl
          have c6 : wr.cell? ⟨hb, 6, none⟩ = some (.int .u32 s6) := (blk_cell HH.out 6).trans rfl
          have c7 : wr.cell? ⟨hb, 7, none⟩ = some (.int .u32 s7) := (blk_cell HH.out 7).trans rfl
          go_wp2
          obtain ⟨gv, hgv⟩ : ∃ g, g = wr.heap.size := ⟨_, rfl⟩
          have VW := Aside0.mk (blk_alloc BW.out (Obj.cells #[.int .u32 s0, .int .u32 s1, .int .u32 s2, .int .u32 s3, .int .u32 s4, .int .u32 s5, .int .u32 s6, .int .u32 s7] 92))
          have VH := Aside0.mk (blk_alloc HH.out (Obj.cells #[.int .u32 s0, .int .u32 s1, .int .u32 s2, .int .u32 s3, .int .u32 s4, .int .u32 s5, .int .u32 s6, .int .u32 s7] 92))
          have VK : Aside0 (KeepBut w4 (wr.alloc (Obj.cells #[.int .u32 s0, .int .u32 s1, .int .u32 s2, .int .u32 s3, .int .u32 s4, .int .u32 s5, .int .u32 s6, .int .u32 s7] 92)) hb none) := ⟨KP.out.trans (KeepBut.of_below (below_alloc (Below.refl _ _) _) hb none) (.inl rfl)⟩
          have VB := Aside0.mk (below_alloc BEL.out (Obj.cells #[.int .u32 s0, .int .u32 s1, .int .u32 s2, .int .u32 s3, .int .u32 s4, .int .u32 s5, .int .u32 s6, .int .u32 s7] 92))
          have VV := Aside0.mk (blk_new wr (Obj.cells #[.int .u32 s0, .int .u32 s1, .int .u32 s2, .int .u32 s3, .int .u32 s4, .int .u32 s5, .int .u32 s6, .int .u32 s7] 92))
          have GV : Aside0 (gw < wr.heap.size) := ⟨blk_lt BW.out⟩
          clear c0 c1 c2 c3 c4 c5 c6 c7
          rw [← hgv] at VV GV ⊢
          clear hgv BW HH KP BEL
          go_loopw [13] (fun i wr => ∃ t : Int, i = .int .i64 t ∧ 0 ≤ t ∧ t ≤ 64 ∧ Aside0 (wr.heap[gv]? = some (.cells (RR ⟨s0, s1, s2, s3, s4, s5, s6, s7⟩ b t.toNat).cells.toArray 92 (0, 0))) ∧ Aside0 (wr.heap[gw]? = some (.cells (nums .u32 ws).toArray 90 (0, 0))) ∧
              Aside0 (wr.heap[hb]? = some (.cells (nums .u32 (v8l ⟨s0, s1, s2, s3, s4, s5, s6, s7⟩)).toArray 92 (0, 0))) ∧ Aside0 (KeepBut w4 wr hb none) ∧ Aside0 (Below wa.heap.size wa wr)) (fun i _ => 64 - (intOf i).toNat)
          case atStart => exact ⟨0, rfl, by omega, by omega, VV, VW, VH, VK, VB⟩
          case round =>
            clear VV VW VH VK VB
            obtain ⟨t, rfl, t0, t64, VV, VW, VH, VK, VB⟩ := hrel
            by_cases ht : t < 64
            · skip
              obtain ⟨v, hv⟩ : ∃ v, v = RR ⟨s0, s1, s2, s3, s4, s5, s6, s7⟩ b t.toNat := ⟨_, rfl⟩
              rw [← hv] at VV
              have NX := Aside0.mk (show RR ⟨s0, s1, s2, s3, s4, s5, s6, s7⟩ b (t.toNat + 1) = rnd v (rd KT t.toNat) (SW b t.toNat) by rw [hv]; rfl)
              clear hv
              obtain ⟨va, vb, vc, vd, ve, vf, vg, vh⟩ := v
              have x0 : wr.cell? ⟨gv, 0, none⟩ = some (.int .u32 va) := (blk_cell VV.out 0).trans rfl
              have x1 : wr.cell? ⟨gv, 1, none⟩ = some (.int .u32 vb) := (blk_cell VV.out 1).trans rfl
              have x2 : wr.cell? ⟨gv, 2, none⟩ = some (.int .u32 vc) := (blk_cell VV.out 2).trans rfl
              have x3 : wr.cell? ⟨gv, 3, none⟩ = some (.int .u32 vd) := (blk_cell VV.out 3).trans rfl
              have x4 : wr.cell? ⟨gv, 4, none⟩ = some (.int .u32 ve) := (blk_cell VV.out 4).trans rfl
              have x5 : wr.cell? ⟨gv, 5, none⟩ = some (.int .u32 vf) := (blk_cell VV.out 5).trans rfl
              have x6 : wr.cell? ⟨gv, 6, none⟩ = some (.int .u32 vg) := (blk_cell VV.out 6).trans rfl
              have x7 : wr.cell? ⟨gv, 7, none⟩ = some (.int .u32 vh) := (blk_cell VV.out 7).trans rfl
              go_wp2_with fail
              have hadd := wrap_add
              have kt := KCELL.out wr VK.out t t0 ht
              have wt : wr.cell? ⟨gw, t.toNat, none⟩ = some (.int .u32 (SW b t.toNat)) := by
                have h1 := hw.out t.toNat (by omega)
                rw [show ((t.toNat : Nat) : Int) = t by omega] at h1
                rw [← h1]
                exact nums_cell VW.out t t0 (by rw [hl.out]; omega)
              have NY := Aside0.mk (show rnd ⟨va, vb, vc, vd, ve, vf, vg, vh⟩ (rd KT t.toNat) (SW b t.toNat) = ⟨add32 (one ⟨va, vb, vc, vd, ve, vf, vg, vh⟩ (rd KT t) (SW b t.toNat)) (two ⟨va, vb, vc, vd, ve, vf, vg, vh⟩), va, vb, vc, add32 vd (one ⟨va, vb, vc, vd, ve, vf, vg, vh⟩ (rd KT t) (SW b t.toNat)), ve, vf, vg⟩ by rw [show ((t.toNat : Nat) : Int) = t by omega]; rfl)
              obtain ⟨o1, ho1⟩ : ∃ x, add32 (add32 (add32 (add32 vh (bits .xor .u32 (bits .xor .u32 (rotr ve 6) (rotr ve 11)) (rotr ve 25))) (bits .xor .u32 (bits .and .u32 ve vf) (bits .and .u32 (bits .xor .u32 4294967295 ve) vg))) (rd KT t)) (SW b t.toNat) = x := ⟨_, rfl⟩
              obtain ⟨o2, ho2⟩ : ∃ x, add32 (bits .xor .u32 (bits .xor .u32 (rotr va 2) (rotr va 13)) (rotr va 22)) (bits .xor .u32 (bits .xor .u32 (bits .and .u32 va vb) (bits .and .u32 va vc)) (bits .and .u32 vb vc)) = x := ⟨_, rfl⟩
              rw [show one ⟨va, vb, vc, vd, ve, vf, vg, vh⟩ (rd KT t) (SW b t.toNat) = o1 from ho1, show two ⟨va, vb, vc, vd, ve, vf, vg, vh⟩ = o2 from ho2] at NY
              have hmax : (if IntKind.u32.signed = true then (-1 : Int) else IntKind.u32.max) = 4294967295 := by decide
              refine wp_region_still_lit (by as_aux_lemma => kernel_rfl) (by as_aux_lemma => kernel_rfl) ?_
              repeat still_step
              still_call ((rotr_calls ve 6 6 _ rfl (by omega) (by omega)).mono fun e w' h => ⟨h.1, h.2.symm⟩)
              repeat still_step
              still_call ((rotr_calls ve 11 11 _ rfl (by omega) (by omega)).mono fun e w' h => ⟨h.1, h.2.symm⟩)
              repeat still_step
              still_call ((rotr_calls ve 25 25 _ rfl (by omega) (by omega)).mono fun e w' h => ⟨h.1, h.2.symm⟩)
              repeat still_step
              refine wpStill_nil ?_
              change Exit.then _ _ _ _ wr.drew
              clear kt wt hmax ho1
              replace VV := Aside0.mk (blk_drew VV.out)
              replace VW := Aside0.mk (blk_drew VW.out)
              replace VH := Aside0.mk (blk_drew VH.out)
              replace VK : Aside0 (KeepBut w4 wr.drew hb none) := ⟨VK.out⟩
              replace VB := Aside0.mk (below_drew1 VB.out)
              clear x0 x1 x2 x3 x4 x5 x6 x7
              generalize wr.drew = wb at VV VW VH VK VB ⊢
              have x0 : wb.cell? ⟨gv, 0, none⟩ = some (.int .u32 va) := (blk_cell VV.out 0).trans rfl
              have x1 : wb.cell? ⟨gv, 1, none⟩ = some (.int .u32 vb) := (blk_cell VV.out 1).trans rfl
              have x2 : wb.cell? ⟨gv, 2, none⟩ = some (.int .u32 vc) := (blk_cell VV.out 2).trans rfl
              have x3 : wb.cell? ⟨gv, 3, none⟩ = some (.int .u32 vd) := (blk_cell VV.out 3).trans rfl
              have x4 : wb.cell? ⟨gv, 4, none⟩ = some (.int .u32 ve) := (blk_cell VV.out 4).trans rfl
              have x5 : wb.cell? ⟨gv, 5, none⟩ = some (.int .u32 vf) := (blk_cell VV.out 5).trans rfl
              have x6 : wb.cell? ⟨gv, 6, none⟩ = some (.int .u32 vg) := (blk_cell VV.out 6).trans rfl
              have x7 : wb.cell? ⟨gv, 7, none⟩ = some (.int .u32 vh) := (blk_cell VV.out 7).trans rfl
              go_wp2_with fail
              refine wp_region_still_lit (by as_aux_lemma => kernel_rfl) (by as_aux_lemma => kernel_rfl) ?_
              repeat still_step
              still_call ((rotr_calls va 2 2 _ rfl (by omega) (by omega)).mono fun e w' h => ⟨h.1, h.2.symm⟩)
              repeat still_step
              still_call ((rotr_calls va 13 13 _ rfl (by omega) (by omega)).mono fun e w' h => ⟨h.1, h.2.symm⟩)
              repeat still_step
              still_call ((rotr_calls va 22 22 _ rfl (by omega) (by omega)).mono fun e w' h => ⟨h.1, h.2.symm⟩)
              repeat still_step
              refine wpStill_nil ?_
              change Exit.then _ _ _ _ wb.drew
              clear ho2 hadd
              replace VV := Aside0.mk (blk_drew VV.out)
              replace VW := Aside0.mk (blk_drew VW.out)
              replace VH := Aside0.mk (blk_drew VH.out)
              replace VK : Aside0 (KeepBut w4 wb.drew hb none) := ⟨VK.out⟩
              replace VB := Aside0.mk (below_drew1 VB.out)
              clear x0 x1 x2 x3 x4 x5 x6 x7
              generalize wb.drew = wc at VV VW VH VK VB ⊢
              have x0 : wc.cell? ⟨gv, 0, none⟩ = some (.int .u32 va) := (blk_cell VV.out 0).trans rfl
              have x1 : wc.cell? ⟨gv, 1, none⟩ = some (.int .u32 vb) := (blk_cell VV.out 1).trans rfl
              have x2 : wc.cell? ⟨gv, 2, none⟩ = some (.int .u32 vc) := (blk_cell VV.out 2).trans rfl
              have x3 : wc.cell? ⟨gv, 3, none⟩ = some (.int .u32 vd) := (blk_cell VV.out 3).trans rfl
              have x4 : wc.cell? ⟨gv, 4, none⟩ = some (.int .u32 ve) := (blk_cell VV.out 4).trans rfl
              have x5 : wc.cell? ⟨gv, 5, none⟩ = some (.int .u32 vf) := (blk_cell VV.out 5).trans rfl
              have x6 : wc.cell? ⟨gv, 6, none⟩ = some (.int .u32 vg) := (blk_cell VV.out 6).trans rfl
              have x7 : wc.cell? ⟨gv, 7, none⟩ = some (.int .u32 vh) := (blk_cell VV.out 7).trans rfl
              have f0 := blk_frozen VV.out 0
              have f1 := blk_frozen VV.out 1
              have f2 := blk_frozen VV.out 2
              have f3 := blk_frozen VV.out 3
              have f4 := blk_frozen VV.out 4
              have f5 := blk_frozen VV.out 5
              have f6 := blk_frozen VV.out 6
              have f7 := blk_frozen VV.out 7
              have hadd2 : ∀ a b : Int, (a + b) % 4294967296 = add32 a b := fun _ _ => rfl
              go_wp2
              have P7 := blk_set VV.out 7 (.int .u32 vg)
              have P6 := blk_set P7 6 (.int .u32 vf)
              have P5 := blk_set P6 5 (.int .u32 ve)
              have P4 := blk_set P5 4 (.int .u32 (add32 vd o1))
              have P3 := blk_set P4 3 (.int .u32 vc)
              have P2 := blk_set P3 2 (.int .u32 vb)
              have P1 := blk_set P2 1 (.int .u32 va)
              have P0 := blk_set P1 0 (.int .u32 (add32 o1 o2))
              have g0 := GW.out
              have g1 : gw ≠ gv := by have := GV.out; omega
              have g2 : hb ≠ gv := by have := GV.out; have := HHB.out; omega
              have g3 : wa.heap.size ≤ gv := by have := GV.out; have := KG.out; have := KH.out; have := HHB.out; omega
              have g4 : w4.heap.size ≤ gv := by have := GV.out; omega
              refine ⟨⟨t + 1, rfl, by omega, by omega, ⟨?_⟩, ⟨?_⟩, ⟨?_⟩, ⟨?_⟩, ⟨?_⟩⟩, by simp [intOf]; omega⟩
              · rw [show (t + 1).toNat = t.toNat + 1 by omega, NX.out, NY.out]
                exact P0
              · exact blk_far (blk_far (blk_far (blk_far (blk_far (blk_far (blk_far (blk_far VW.out g1 _) g1 _) g1 _) g1 _) g1 _) g1 _) g1 _) g1 _
              · exact blk_far (blk_far (blk_far (blk_far (blk_far (blk_far (blk_far (blk_far VH.out g2 _) g2 _) g2 _) g2 _) g2 _) g2 _) g2 _) g2 _
              · exact far8 VK.out g4
              · exact below_set (below_set (below_set (below_set (below_set (below_set (below_set (below_set VB.out g3) g3) g3) g3) g3) g3) g3) g3
            · obtain rfl : t = 64 := by omega
              clear ht t0 t64 VW
              obtain ⟨u, hu⟩ : ∃ u, u = RR ⟨s0, s1, s2, s3, s4, s5, s6, s7⟩ b 64 := ⟨_, rfl⟩
              have hbk := Aside0.mk (show blk ⟨s0, s1, s2, s3, s4, s5, s6, s7⟩ b = ⟨add32 s0 u.a, add32 s1 u.b, add32 s2 u.c, add32 s3 u.d, add32 s4 u.e, add32 s5 u.f, add32 s6 u.g, add32 s7 u.h⟩ by rw [hu]; rfl)
              rw [show (64 : Int).toNat = 64 from rfl, ← hu, cells_nums] at VV
              clear hu
              go_wp2_with fail
              go_loopw [16] (fun i wr => ∃ (t : Int) (st : List Int), i = .int .i64 t ∧ 0 ≤ t ∧ t ≤ 8 ∧ Aside0 (st.length = 8) ∧ Aside0 (∀ j : Nat, j < 8 → rd st j = if (j : Int) < t then add32 (rd [s0, s1, s2, s3, s4, s5, s6, s7] j) (rd [u.a, u.b, u.c, u.d, u.e, u.f, u.g, u.h] j) else rd [s0, s1, s2, s3, s4, s5, s6, s7] j) ∧
                  Aside0 (wr.heap[gv]? = some (.cells (nums .u32 [u.a, u.b, u.c, u.d, u.e, u.f, u.g, u.h]).toArray 92 (0, 0))) ∧ Aside0 (wr.heap[hb]? = some (.cells (nums .u32 st).toArray 92 (0, 0))) ∧ Aside0 (KeepBut w4 wr hb none) ∧ Aside0 (Below wa.heap.size wa wr)) (fun i _ => 8 - (intOf i).toNat)
              case atStart => exact ⟨0, [s0, s1, s2, s3, s4, s5, s6, s7], rfl, by omega, by omega, ⟨rfl⟩, ⟨fun j _ => by rw [if_neg (by omega)]⟩, VV, VH, VK, VB⟩
              case round =>
                clear VV VH VK VB
                obtain ⟨t, st, rfl, t0, t8, hst, hsp, VV, VH, VK, VB⟩ := hrel
                by_cases ht : t < 8
                · skip
                  have q1 := nums_cell VV.out t t0 (by simpa using ht)
                  have q2 := nums_cell VH.out t t0 (by rw [hst.out]; omega)
                  have q3 := blk_frozen VH.out t.toNat
                  obtain ⟨qa, hqa⟩ : ∃ x, x = rd [u.a, u.b, u.c, u.d, u.e, u.f, u.g, u.h] t := ⟨_, rfl⟩
                  obtain ⟨qb, hqb⟩ : ∃ x, x = rd st t := ⟨_, rfl⟩
                  rw [← hqa] at q1
                  rw [← hqb] at q2
                  have Qa := Aside0.mk hqa
                  have Qb := Aside0.mk hqb
                  clear hqa hqb
                  have hadd := wrap_add
                  go_wp2_with fail
                  refine wp_region_still_tail 9 (by as_aux_lemma => kernel_rfl) (by as_aux_lemma => kernel_rfl) ?_
                  simp only [List.take_succ_cons, List.take_zero, List.drop_succ_cons, List.drop_zero]
                  repeat still_step
                  refine wpStill_nil ?_
                  change wpList _ _ _ _ _ wr.drew
                  have VV2 := Aside0.mk (blk_drew VV.out)
                  have VH2 := Aside0.mk (blk_drew VH.out)
                  have VK2 : Aside0 (KeepBut w4 wr.drew hb none) := ⟨VK.out⟩
                  have VB2 := Aside0.mk (below_drew1 VB.out)
                  clear q1 q2 q3 VV VH VK VB
                  generalize wr.drew = w2 at VV2 VH2 VK2 VB2 ⊢
                  have z2 := nums_cell VH2.out t t0 (by rw [hst.out]; omega)
                  have z3 := blk_frozen VH2.out t.toNat
                  clear hadd
                  go_wp2
                  have g3 : gv ≠ hb := by have := GV.out; have := GW.out; have := HHB.out; omega
                  have g5 : wa.heap.size ≤ hb := by have := KG.out; have := KH.out; omega
                  refine ⟨⟨t + 1, st.set t.toNat (add32 qb qa), rfl, by omega, by omega, ⟨by rw [List.length_set]; exact hst.out⟩, ⟨fun j hj => ?_⟩, ⟨blk_far VV2.out g3 _⟩, ⟨nums_set VH2.out _ _⟩, ⟨VK2.out.set_ _ _⟩, ⟨below_set VB2.out g5⟩⟩, by simp [intOf]; omega⟩
                  rw [rd_set _ (by rw [hst.out]; omega)]
                  by_cases e : j = t.toNat
                  · subst e
                    rw [if_pos rfl, if_pos (by omega), Qa.out, Qb.out]
                    have hz := hsp.out t.toNat hj
                    rw [if_neg (by omega)] at hz
                    rw [show ((t.toNat : Nat) : Int) = t by omega] at hz ⊢
                    rw [hz]
                  · rw [if_neg e, hsp.out j hj]
                    by_cases e2 : (j : Int) < t
                    · rw [if_pos e2, if_pos (by omega)]
                    · rw [if_neg e2, if_neg (by omega)]
                · obtain rfl : t = 8 := by omega
                  have he : st = [add32 s0 u.a, add32 s1 u.b, add32 s2 u.c, add32 s3 u.d, add32 s4 u.e, add32 s5 u.f, add32 s6 u.g, add32 s7 u.h] := by
                    have hl8 := hst.out
                    have h0 := hsp.out 0 (by omega)
                    have h1 := hsp.out 1 (by omega)
                    have h2 := hsp.out 2 (by omega)
                    have h3 := hsp.out 3 (by omega)
                    have h4 := hsp.out 4 (by omega)
                    have h5 := hsp.out 5 (by omega)
                    have h6 := hsp.out 6 (by omega)
                    have h7 := hsp.out 7 (by omega)
                    exact eight hl8 h0 h1 h2 h3 h4 h5 h6 h7
                  have VH2 := Aside0.mk VH.out
                  clear VH
                  rw [he] at VH2
                  clear ht t0 t8 hsp hst he
                  have hpm := HPM.out
                  have hma := HM1.out.2
                  have ea : IntKind.i64.wrap (a + 64) = a + 64 := IntWalk.i64_in _ (by omega)
                  go_wp2_with fail
                  have hHA := HA.out
                  have hMM := HM1.out.1
                  refine ⟨⟨m + 1, a + 64, rfl, by omega, by omega, ⟨by omega, by omega⟩, ⟨?_⟩, VK, VB⟩, by simp [intOf]; omega⟩
                  show wr.heap[hb]? = some (.cells (nums .u32 (v8l (blk (hash p m) (chunk p m)))).toArray 92 (0, 0))
                  rw [HHV.out, ← HBC.out, hbk.out]
                  exact VH2.out
    · skip
      have hmM : m = M := by have := HA.out; have := HM.out; omega
      subst hmM
      obtain ⟨hv, hhv⟩ : ∃ hv, hash p m = hv := ⟨_, rfl⟩
      rw [hhv] at HH
      have HOUT : Aside0 (out hv = sha l) := ⟨by rw [← hhv, HP.out]; exact hash_sha l m (by rw [← HP.out]; exact HM.out)⟩
      clear hhv
      go_wp2_with fail
      change Code.wp _ _ _ _ (wr.alloc (.cells (nums .u8 (List.replicate 32 0)).toArray 29 (0, 0)))
      have OB0 := Aside0.mk (blk_new wr (.cells (nums .u8 (List.replicate 32 0)).toArray 29 (0, 0)))
      have HH0 := Aside0.mk (blk_alloc HH.out (.cells (nums .u8 (List.replicate 32 0)).toArray 29 (0, 0)))
      have BEL0 := Aside0.mk (below_alloc BEL.out (.cells (nums .u8 (List.replicate 32 0)).toArray 29 (0, 0)))
      have OG := Aside0.mk BEL.out.size
      have OH : Aside0 (hb < wr.heap.size) := ⟨blk_lt HH.out⟩
      obtain ⟨ob, hob⟩ : ∃ ob, wr.heap.size = ob := ⟨_, rfl⟩
      rw [hob] at OB0 OG OH ⊢
      clear hob HH BEL KP
      generalize wr.alloc _ = wi at OB0 HH0 BEL0 ⊢
      go_loopw [18] (fun i wr => ∃ (t : Int) (xs : List Int), i = .int .i64 t ∧ 0 ≤ t ∧ t ≤ 32 ∧ Aside0 (xs.length = 32) ∧ Aside0 (∀ j : Nat, (j : Int) < t → rd xs j = rd (out hv) j) ∧ Aside0 (wr.heap[ob]? = some (.cells (nums .u8 xs).toArray 29 (0, 0))) ∧
          Aside0 (wr.heap[hb]? = some (.cells (nums .u32 (v8l hv)).toArray 92 (0, 0))) ∧ Aside0 (Below wa.heap.size wa wr)) (fun i _ => 32 - (intOf i).toNat)
      case atStart => exact ⟨0, List.replicate 32 0, rfl, by omega, by omega, ⟨rfl⟩, ⟨fun j hj => by omega⟩, OB0, HH0, BEL0⟩
      case round =>
        clear OB0 HH0 BEL0
        obtain ⟨t, xs, rfl, t0, t32, hxl, hxs, OB, HH, BEL⟩ := hrel
        by_cases ht : t < 32
        · have x0 : wr.cell? ⟨hb, (t / 4).toNat, none⟩ = some (.int .u32 (rd (v8l hv) (t / 4))) := nums_cell HH.out _ (by omega) (by show (t / 4).toNat < 8; omega)
          have z0 := nums_cell OB.out t t0 (by rw [hxl.out]; omega)
          have z1 := blk_frozen OB.out t.toNat
          have k0 : 0 ≤ t / 4 := by omega
          have k1 : t / 4 < 8 := by omega
          have k2 : IntKind.u64.wrap (t % 4) = t % 4 := IntWalk.u64_in _ (by omega)
          have k3 : IntKind.u64.wrap (8 * (t % 4)) = 8 * (t % 4) := IntWalk.u64_in _ (by omega)
          have k4 : IntKind.u64.wrap (24 - 8 * (t % 4)) = 24 - 8 * (t % 4) := IntWalk.u64_in _ (by omega)
          go_wp2_with fail
          have g1 : hb ≠ ob := by have := OH.out; omega
          refine ⟨⟨t + 1, xs.set t.toNat (rd (v8l hv) (t / 4) / 2 ^ (24 - 8 * (t % 4)).toNat % 256), rfl, by omega, by omega, ⟨by rw [List.length_set]; exact hxl.out⟩, ⟨fun j hj => ?_⟩, ⟨nums_set OB.out _ _⟩, ⟨blk_far HH.out g1 _⟩, ⟨below_set BEL.out OG.out⟩⟩, by simp [intOf]; omega⟩
          rw [rd_set _ (by rw [hxl.out]; omega)]
          by_cases e : j = t.toNat
          · rw [if_pos e, show (j : Int) = t by omega, out_at hv t t0 ht]
          · rw [if_neg e]
            exact hxs.out j (by omega)
        · obtain rfl : t = 32 := by omega
          have hX : xs = sha l := by
            rw [← HOUT.out]
            refine list_rd (by rw [hxl.out]; rfl) (fun j hj => hxs.out j (by have := hxl.out; omega))
          subst hX
          have hinfo : (Tryd.prog.info? 29).map (·.size) = some (nums .u8 (sha l)).toArray.size := by rw [Tryd.infoD, List.size_toArray, nums, List.length_map, hxl.out]
          have hone : (nums .u8 (sha l)).toArray.all (·.oneCell') = true := by simp [nums, Value.oneCell']
          have hsz : (nums .u8 (List.replicate 32 0)).toArray.size = (nums .u8 (sha l)).toArray.size := by rw [List.size_toArray, List.size_toArray, nums, nums, List.length_map, List.length_map, hxl.out, List.length_replicate]
          have HI := Aside0.mk hinfo
          have HO := Aside0.mk hone
          have HZ := Aside0.mk hsz
          clear hinfo hone hsz
          have RES4 : Aside0 (wr.heap[w.heap.size]? = some (.cells (nums .u8 (List.replicate 32 0)).toArray 29 (0, 0))) := ⟨(BEL.out.block _ (blk_lt RES.out)).trans RES.out⟩
          obtain ⟨D, hD⟩ : ∃ D, sha l = D := ⟨_, rfl⟩
          rw [hD] at OB HI HO HZ
          have HD := Aside0.mk hD
          clear hD
          go_wp2_with (first | refine wpList_load_row rfl 29 (.tmp 17) rfl ob rfl 29 (nums .u8 D).toArray _ _ OB.out Tryd.underlying29 rfl HI.out ?_ | refine wpList_store_row rfl 29 (.tmp 2) (.tmp 245) rfl w.heap.size (nums .u8 D).toArray rfl rfl 29 _ RES4.out HI.out HZ.out HO.out ?_)
          refine bodyPost_ret (results_cell_row (p := 2) (ty := 29) rfl _ _ w.heap.size 29 (nums .u8 D).toArray _ _ rfl (setRow_heap _ _ _ _ _ _ RES4.out) Tryd.underlying29 rfl HI.out) rfl ⟨by rw [HD.out], ?_⟩
          have h2 : Below w.heap.size wa wr := BEL.out.mono HB0.out.size
          exact (HB0.out.trans h2).trans ⟨rfl, rfl, rfl, by rw [setRow_size]; exact Nat.le_refl _, fun k hk => setRow_other _ _ _ _ (by omega)⟩
end Go.Proofs.YtgmdgkanfhoahaaDoor.RefOf
