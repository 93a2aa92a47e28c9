/- tree.Build: the walk where all fits. tree.Build: what doesn't fit is refused. -/
import Derived.Test.YtgmdgkanfhoahaaDoorTreeRow
namespace Go.Proofs.YtgmdgkanfhoahaaDoor.BuildW
open Go.RowKit Go.Proofs.YtgmdgkanfhoahaaDoor.ShaPure Go.Proofs.YtgmdgkanfhoahaaDoor.ShaBlk Go.Proofs.YtgmdgkanfhoahaaDoor.ShaWrite Go.Proofs.YtgmdgkanfhoahaaDoor.ShaSum Go.Proofs.YtgmdgkanfhoahaaDoor.ShaEnd Go.Proofs.YtgmdgkanfhoahaaDoor.ShaOf Go.Proofs.YtgmdgkanfhoahaaDoor.BytesW Go.Proofs.YtgmdgkanfhoahaaDoor.Put Go.Proofs.YtgmdgkanfhoahaaDoor.LogW Go.Proofs.YtgmdgkanfhoahaaDoor.Dig Go.Proofs.YtgmdgkanfhoahaaDoor.Hdr Go.Proofs.YtgmdgkanfhoahaaDoor.Above Go.Proofs.YtgmdgkanfhoahaaDoor.Build Go.Proofs.YtgmdgkanfhoahaaDoorW.PrintWords Go.Proofs.YtgmdgkanfhoahaaDoorW.PrintLast Go.Proofs.YtgmdgkanfhoahaaDoorW.PrintMore
set_option linter.unusedVariables false
set_option linter.unusedSimpArgs false

abbrev planCells (p0 p1 p2 : Int) (lv : Value) (p4 p5 p6 p7 p8 p9 : Int) : Array Value := #[.int .i64 p0, .int .i64 p1, .int .i64 p2, lv, .int .i64 p4, .int .i64 p5, .int .i64 p6, .int .i64 p7, .int .i64 p8, .int .i64 p9]
theorem add_zero_ (ad : Addr) : ad.add 0 = ad := by
  unfold Addr.add
  split <;> simp_all
set_option maxHeartbeats 8000000 in
set_option maxRecDepth 100000 in
theorem build_calls (L : Option Nat) (S : Nat → Prop) (ps : List (List Int × List Int)) (p0 p1 p4 p5 p6 p7 p8 p9 : Int) (LA : Option Addr) (nl lc : Nat) (A : Option Addr) (c : Nat) (bs : List (List Int)) (w : World) (hL : Lg w L S ps) (hT : Tab w)
    (hC : RD w S A bs) (hby : ∀ b ∈ bs, Bytes b) (hl : ∀ b ∈ bs, b.length = 256) (hbs : bs.length ≤ 1000) (hp : ps.length ≤ 10000000) (hn0 : 0 ≤ p0) (hn1 : p0 ≤ 100000) (hk0 : 0 < nl) (hk1 : nl ≤ 100) (hone : (upN p0 bs nl).2.2.length = 1) :
    Calls Tryd.prog 7 #[ptr L, .agg (planCells p0 p1 bs.length (.slice LA nl lc) p4 p5 p6 p7 p8 p9), .slice A bs.length c] w fun e w' => ∃ RA rc gs S', e = .returned (.tuple #[.slice RA (gs : List Nat).length rc, .agg (nums .u8 (dig (upN p0 bs nl).2.1 ((upN p0 bs nl).2.2.getD 0 []))).toArray, .int .i64 0]) ∧ HRows w' (.slice RA gs.length rc) gs (upN p0 bs nl).1 ∧
      Lg w' L S' (ps ++ upPairs p0 bs nl ++ [(input (upN p0 bs nl).2.1 ((upN p0 bs nl).2.2.getD 0 []), dig (upN p0 bs nl).2.1 ((upN p0 bs nl).2.2.getD 0 []))]) ∧ (∀ k, S' k → S k ∨ w.heap.size ≤ k) ∧ Out w w' S ∧ ∀ k, has (.slice RA gs.length rc) gs k → w.heap.size ≤ k ∧ ¬ S' k := by
  have HL := Aside0.mk hL
  have HT := Aside0.mk hT
  have HC := Aside0.mk hC
  have HBY := Aside0.mk hby
  have HFU := Aside0.mk hl
  have HPL := Aside0.mk hp
  have HBS := Aside0.mk hbs
  have HST := Aside0.mk hL.tab
  have HSL := Aside0.mk hL.lt
  have HON := Aside0.mk hone
  have HK := Aside0.mk hk1
  have HCM := Aside0.mk hC.1
  clear hL hT hC hby hl hp hone
  go_enter Tryd.func7, Tryd.ntmps7
  go_wp2_with fail
  generalize hwa : World.alloc (World.alloc w _) _ = wa
  have GB : Aside0 (wa.heap[w.heap.size]? = some (.cells (planCells p0 p1 bs.length (.slice LA nl lc) p4 p5 p6 p7 p8 p9) 25 (0, 0))) := ⟨by rw [← hwa]; exact blk_alloc (blk_new _ _) _⟩
  have hws : wa.heap.size = w.heap.size + 2 := by rw [← hwa]; exact (Array.size_push ..).trans (congrArg (· + 1) (Array.size_push ..))
  have GR : Aside0 (wa.heap[w.heap.size + 1]? = some (.cells (nums .u8 (List.replicate 32 0)).toArray 29 (0, 0))) := ⟨by rw [← hwa]; exact Eq.subst (motive := fun k => (World.alloc (World.alloc w _) _).heap[k]? = _) (Array.size_push ..) (blk_new (World.alloc w _) _)⟩
  have BEL : Aside0 (Below w.heap.size w wa) := ⟨by rw [← hwa]; exact below_alloc (below_alloc (Below.refl _ _) _) _⟩
  have HWS := Aside0.mk hws
  obtain ⟨gr, hgr⟩ : ∃ gr, w.heap.size + 1 = gr := ⟨_, rfl⟩
  obtain ⟨gb, hgb⟩ : ∃ gb, w.heap.size = gb := ⟨_, rfl⟩
  rw [hgr] at GR ⊢
  rw [hgb] at GB ⊢
  have HGR := Aside0.mk hgr
  have HGB := Aside0.mk hgb
  clear hwa hws hgr hgb
  go_loopw [29] (fun i wr => ∃ t : Int, i = .int .i64 t ∧ 0 ≤ t ∧ t ≤ bs.length ∧ Aside0 (wr = wa)) (fun i _ => bs.length - (intOf i).toNat)
  case atStart => exact ⟨0, rfl, by omega, by omega, ⟨rfl⟩⟩
  case round =>
    obtain ⟨t, rfl, t0, tn, HW⟩ := hrel
    obtain rfl := HW.out.symm
    by_cases ht : t < bs.length
    · obtain ⟨ad, A1, c1, rfl, hc1, hCW⟩ := HC.out.2 t.toNat (by omega)
      have hcell := (hCW _ (Kept.of_below BEL.out S)).2
      have h256 : (bs.getD t.toNat []).length = 256 := by
        rw [List.getD_eq_getElem?_getD, List.getElem?_eq_getElem (by omega)]
        exact HFU.out _ (List.getElem_mem (by omega))
      rw [h256] at hcell
      clear h256 hCW
      have hmx := HCM.out
      have hw : IntKind.i64.wrap (t + 1) = t + 1 := IntWalk.i64_in _ (by omega)
      go_wp2_with fail
      exact ⟨⟨t + 1, rfl, by omega, by omega, ⟨by first | rfl | trivial⟩⟩, by simp [intOf]; omega⟩
    · obtain rfl : t = bs.length := by omega
      clear ht tn t0
      have z0 : wa.cell? ⟨gb, 0, none⟩ = some (.int .i64 p0) := (blk_cell GB.out 0).trans rfl
      have z3 : wa.cell? ⟨gb, 3, none⟩ = some (.slice LA nl lc) := (blk_cell GB.out 3).trans rfl
      go_wp2_with fail
      clear z0 z3
      have NSG : Aside0 (∀ k, w.heap.size ≤ k → ¬ S k) := ⟨fun k hk hs => by have := HSL.out k hs; omega⟩
      go_loopw [11, 12, 13, 44] (fun o11 o12 o13 i w3 => ∃ (t at_ : Int) (NA LB : Option Addr) (nc lb : Nat) (gn : List Nat) (S1 : Nat → Prop) (ns lv : List (List Int)), o11 = .slice NA gn.length nc ∧ o12 = .int .i64 at_ ∧ o13 = .slice LB lv.length lb ∧ i = .int .i64 t ∧ 0 ≤ t ∧ t ≤ nl ∧ Aside0 (upN p0 bs t.toNat = (ns, at_, lv)) ∧ Aside0 (HRows w3 (.slice NA gn.length nc) gn ns) ∧ Aside0 (RD w3 (fun k => S1 k ∨ (Value.slice NA gn.length nc).ownBlock = some k) LB lv) ∧ Aside0 (Lg w3 L S1 (ps ++ upPairs p0 bs t.toNat)) ∧ Aside0 (∀ k, S1 k → S k ∨ wa.heap.size ≤ k) ∧ Aside0 (Out wa w3 S) ∧ Aside0 (∀ k, has (.slice NA gn.length nc) gn k → wa.heap.size ≤ k ∧ ¬ S1 k)) (fun _ _ _ i _ => nl - (intOf i).toNat)
      case atStart =>
        refine ⟨0, p0, none, A, 0, c, [], S, [], bs, rfl, rfl, rfl, rfl, by omega, by omega, ⟨rfl⟩, ⟨HRows.nil _⟩, ⟨?_⟩, ⟨?_⟩, ⟨fun k hk => .inl hk⟩, ⟨Out.refl _ S⟩, ⟨fun k hk => by simp [has, Value.ownBlock] at hk⟩⟩
        · exact (HC.out.step (Kept.of_below BEL.out S) (fun k hk => .inl hk)).mono (fun k hk => hk.elim id (fun h => by simp [Value.ownBlock] at h))
        · simpa [upPairs] using HL.out.below BEL.out
      case round =>
        obtain ⟨t, at_, NA, LB, nc, lb, gn, S1, ns, lv, rfl, rfl, rfl, rfl, t0, tn, HU, HN, HRD, HLr, HS1, HO, HH⟩ := hrel
        have HLL : Aside0 (lv.length ≤ 1000) := ⟨by have h := upN_len p0 bs t.toNat; rw [HU.out] at h; have h2 : lv.length ≤ bs.length := h; have := HBS.out; omega⟩
        have HAT : Aside0 (0 ≤ at_ ∧ at_ ≤ 1000000) := ⟨by
          have h := upN_at p0 bs t.toNat
          rw [HU.out] at h
          have h1 : (bs.length : Int) * (t.toNat : Int) ≤ 1000 * 100 := Int.mul_le_mul (by have := HBS.out; omega) (by have := HK.out; omega) (by omega) (by omega)
          simp only at h
          omega⟩
        have HNL : Aside0 (ns.length ≤ 100000) := ⟨by
          have h := upN_nodes p0 bs t.toNat
          rw [HU.out] at h
          have h1 : bs.length * t.toNat ≤ 1000 * 100 := Nat.mul_le_mul HBS.out (by have := HK.out; omega)
          simp only at h
          omega⟩
        have HQL : Aside0 ((ps ++ upPairs p0 bs t.toNat).length ≤ 100000000) := ⟨by
          have h := upPairs_len p0 bs t.toNat
          have h1 : bs.length * t.toNat ≤ 1000 * 100 := Nat.mul_le_mul HBS.out (by have := HK.out; omega)
          have := HPL.out
          rw [List.length_append]
          omega⟩
        have HLB : Aside0 (∀ x ∈ lv, Bytes x) := ⟨by have h := upN_bytes p0 bs HBY.out t.toNat; rw [HU.out] at h; exact h⟩
        have HLF : Aside0 (∀ x ∈ lv, x.length = 256) := ⟨by have h := upN_full p0 bs HFU.out t.toNat; rw [HU.out] at h; exact h⟩
        by_cases ht : t < nl
        · have hw : IntKind.i64.wrap (t + 1) = t + 1 := IntWalk.i64_in _ (by omega)
          have hw2 : IntKind.i64.wrap (at_ + lv.length) = at_ + lv.length := IntWalk.i64_in _ (by have := HAT.out; have := HLL.out; omega)
          have HUN : Aside0 (upN p0 bs (t.toNat + 1) = (ns ++ aft at_ lv lv.length, at_ + lv.length, aft at_ lv lv.length)) := ⟨by unfold upN; rw [HU.out]⟩
          have HPN : Aside0 (ps ++ upPairs p0 bs (t.toNat + 1) = ps ++ upPairs p0 bs t.toNat ++ prs at_ lv lv.length) := ⟨by rw [upPairs, HU.out, List.append_assoc]⟩
          go_wp2_with fail
          refine (above_calls L S1 (ps ++ upPairs p0 bs t.toNat) at_ LB lb lv _ HLr.out (Tab.kept HT.out ((Kept.of_below BEL.out S).then_ HO.out.kept (fun k hk => .inl hk)) HST.out) (HRD.out.mono (fun k hk => .inl hk)) HLB.out (fun b hb => by rw [HLF.out b hb]; omega) HLL.out HQL.out HAT.out.1 HAT.out.2).mono ?_
          rintro e w4 ⟨RB2, rc2, g2, S2, rfl, hR2, hL4, hS4, hO4, hH4⟩
          have HLV : Aside0 ((aft at_ lv lv.length).length = g2.length) := ⟨hR2.len⟩
          obtain ⟨nx, hnx⟩ : ∃ nx, aft at_ lv lv.length = nx := ⟨_, rfl⟩
          have HNX : Aside0 (nx.length ≤ 1000) := ⟨by rw [← hnx, aft_length]; have := HLL.out; omega⟩
          rw [hnx] at hR2 HUN HLV
          have HN4 := Aside0.mk (HN.out.kept hO4.kept (fun k hk => (HH.out k hk).2))
          have HR4 := Aside0.mk hR2
          have HH4 := Aside0.mk hH4
          have HNH4 : Aside0 (∀ k, has (.slice NA gn.length nc) gn k → k < wr.heap.size ∧ wa.heap.size ≤ k ∧ ¬ S2 k) := ⟨fun k hk => ⟨HN.out.lt hk, (HH.out k hk).1, fun hs => (hS4 k hs).elim (HH.out k hk).2 (fun h => by have := HN.out.lt hk; omega)⟩⟩
          have HWW := Aside0.mk HO.out.size
          have HL4 : Aside0 (Lg w4 L S2 (ps ++ upPairs p0 bs (t.toNat + 1))) := ⟨by rw [HPN.out]; exact hL4⟩
          have HS4 : Aside0 (∀ k, S2 k → S k ∨ wa.heap.size ≤ k) := ⟨fun k hk => (hS4 k hk).elim (HS1.out k) (fun h => .inr (Nat.le_trans HO.out.size h))⟩
          have HO4 := Aside0.mk (HO.out.trans hO4 HS1.out)
          have HLT4 := Aside0.mk hO4.size
          clear hR2 hL4 hS4 hO4 hH4 hnx HN HLr HS1 HO HH HRD HPN HQL HLB HLF HLL
          go_wp2_with ((with_reducible refine gate_dst (N := 57) rfl ?_)
                       refine Kd.R_append_row hdr 0 (w0 := w4) (W := w4) 0 rfl (.tmp 55) (.tmp 56) 26 22 (.slice none 0 0) 24 rfl Tryd.underlying26 Tryd.infoHB rfl (by decide) (.slice NA gn.length nc) gn g2 RB2 g2.length rc2 (fun _ => True) rfl rfl (fun _ _ => trivial) HN4.out.row (Kd.R_reads' HR4.out.row).2.2 (Below.refl _ _) (Nat.zero_le _) (by have h1 := HN4.out.len; have h2 := HNL.out; have h3 := HLV.out; have h4 := HNX.out; omega) ?_
                       intro v5 w5 ho5 hb5 hg5 hat5
                       skip)
          obtain ⟨NA5, nc5, e5⟩ := Kd.R_slice ho5
          subst e5
          refine ⟨⟨t + 1, at_ + lv.length, NA5, RB2, nc5, rc2, gn ++ g2, S2, ns ++ nx, nx, rfl, rfl, by rw [HLV.out], rfl, by omega, by omega, ⟨by rw [show (t + 1).toNat = t.toNat + 1 by omega]; exact HUN.out⟩, ⟨?_⟩, ⟨?_⟩, ⟨?_⟩, HS4, ⟨?_⟩, ⟨?_⟩⟩, by simp [intOf]; omega⟩
          · exact HRows.app HN4.out HR4.out ho5 hg5 (fun k h2 h1 => by have a := (HH4.out k (.inr h2)).1; have b := (HNH4.out k (.inr h1)).1; omega)
          · obtain ⟨A', c', e', hc', hrd⟩ := RD.of_rows (S := fun k => S2 k ∨ (Value.slice NA gn.length nc).ownBlock = some k) HR4.out (fun k hk hs => hs.elim (HH4.out k hk).2 (fun h => by have := (HH4.out k hk).1; have := (HNH4.out k (.inl h)).1; omega))
            injection e' with e1 e2 e3
            subst e1
            refine hrd.step (Kept.of_grown hg5 (Kept.refl w4 _) (fun k hk => .inl (.inr hk))) (fun k hk => ?_)
            rcases hk with hk | hk
            · exact .inl (.inl hk)
            · rcases hat5 with e | ⟨b, e, hb⟩
              · exact .inl (.inr (e.symm.trans hk))
              · rw [e] at hk
                injection hk with hk
                subst hk
                exact .inr hb
          · rw [show (t + 1).toNat = t.toNat + 1 by omega]
            exact HL4.out.kept (Kept.of_grown (S := fun k => (Value.slice NA gn.length nc).ownBlock = some k) hg5 (Kept.refl _ _) (fun k hk => .inl hk)) (fun k hs hk => (HNH4.out k (.inl hk)).2.2 hs)
          · exact HO4.out.trans (S1 := fun k => (Value.slice NA gn.length nc).ownBlock = some k) ⟨hb5.os, hb5.tape, hb5.output, Kept.of_grown hg5 (Kept.refl _ _) (fun k hk => .inl hk)⟩ (fun k hk => .inr (HNH4.out k (.inl hk)).2.1)
          · intro k hk
            have h1 := HLT4.out
            have h2 := HWW.out
            rcases hk with hk | hk
            · rcases hat5 with e | ⟨b, e, hb⟩
              · exact (HNH4.out k (.inl (e.symm.trans hk))).2
              · rw [e] at hk
                injection hk with hk
                subst hk
                exact ⟨by omega, fun hs => by have := HL4.out.lt _ hs; omega⟩
            · rcases List.mem_append.1 hk with hk | hk
              · exact (HNH4.out k (.inr hk)).2
              · exact ⟨Nat.le_trans h2 (HH4.out k (.inr hk)).1, (HH4.out k (.inr hk)).2⟩
        · obtain rfl : t = nl := by omega
          rw [show ((nl : Int)).toNat = nl from rfl] at HU HLr HQL
          have hon := HON.out
          rw [HU.out] at hon
          obtain ⟨x, rfl⟩ := List.length_eq_one_iff.1 hon
          have HXB := Aside0.mk (HLB.out x (List.mem_singleton.2 rfl))
          have HX2 := Aside0.mk (HLF.out x (List.mem_singleton.2 rfl))
          obtain ⟨ad, A1, c1, rfl, hc1, hCW⟩ := HRD.out.2 0 (by simp)
          have hcell := (hCW wr (Kept.refl _ _)).2
          have HC1 : Aside0 (Kd.C (Kd.int .u8) wr A1 x.length x) := ⟨(hCW wr (Kept.refl _ _)).1⟩
          have hl1 : [x].length = 1 := rfl
          rw [hl1]
          rw [show [x].getD 0 [] = x from rfl, show ad.add 0 = ad from add_zero_ ad] at hcell
          clear hCW hon hl1 ht t0 tn HLB HLF HLL hc1
          go_wp2_with fail
          refine (digest_calls L S1 (ps ++ upPairs p0 bs nl) at_ A1 c1 x wr HLr.out (Tab.kept HT.out ((Kept.of_below BEL.out S).then_ HO.out.kept (fun k hk => .inl hk)) HST.out) HC1.out HXB.out (by rw [HX2.out]; omega) (by have := HQL.out; omega)).mono ?_
          rintro e w4 ⟨rfl, S2, hL4, hS4, hO4⟩
          have HDL := Aside0.mk (dig_length at_ x)
          have HPS : Aside0 (ps ++ upPairs p0 bs nl ++ [(input at_ x, dig at_ x)] = ps ++ upPairs p0 bs nl ++ [(input (upN p0 bs nl).2.1 ((upN p0 bs nl).2.2.getD 0 []), dig (upN p0 bs nl).2.1 ((upN p0 bs nl).2.2.getD 0 []))]) := ⟨by rw [HU.out]; rfl⟩
          have HDQ : Aside0 (dig (upN p0 bs nl).2.1 ((upN p0 bs nl).2.2.getD 0 []) = dig at_ x) := ⟨by rw [HU.out]; rfl⟩
          have HUQ : Aside0 ((upN p0 bs nl).1 = ns) := ⟨by rw [HU.out]⟩
          obtain ⟨D, hD⟩ : ∃ D, dig at_ x = D := ⟨_, rfl⟩
          rw [hD] at HDL HDQ ⊢
          have HI : Aside0 ((Tryd.prog.info? 29).map (·.size) = some (nums .u8 D).toArray.size) := ⟨by rw [Tryd.infoD, List.size_toArray, nums, List.length_map, HDL.out]⟩
          have HO32 : Aside0 ((nums .u8 D).toArray.all (·.oneCell') = true) := ⟨by simp [nums, Value.oneCell']⟩
          have HZ : Aside0 ((nums .u8 (List.replicate 32 0)).toArray.size = (nums .u8 D).toArray.size) := ⟨by rw [List.size_toArray, List.size_toArray, nums, nums, List.length_map, List.length_map, HDL.out, List.length_replicate]⟩
          have GRA : Aside0 (gr < wa.heap.size ∧ w.heap.size ≤ gr) := ⟨by have := HWS.out; have := HGR.out; omega⟩
          have NS1 : Aside0 (¬ S1 gr) := ⟨fun h => (HS1.out gr h).elim (NSG.out gr GRA.out.2) (fun h => by have := GRA.out.1; omega)⟩
          have RES := Aside0.mk (hO4.blk (HO.out.blk GR.out (NSG.out gr GRA.out.2)) NS1.out)
          have HN4 := Aside0.mk (HN.out.kept hO4.kept (fun k hk => (HH.out k hk).2))
          have HH4 : Aside0 (∀ k, has (.slice NA gn.length nc) gn k → wa.heap.size ≤ k ∧ ¬ S2 k) := ⟨fun k hk => ⟨(HH.out k hk).1, fun hs => (hS4 k hs).elim (HH.out k hk).2 (fun h => by have := HN.out.lt hk; omega)⟩⟩
          have HL4 : Aside0 (Lg w4 L S2 (ps ++ upPairs p0 bs nl ++ [(input (upN p0 bs nl).2.1 ((upN p0 bs nl).2.2.getD 0 []), dig (upN p0 bs nl).2.1 ((upN p0 bs nl).2.2.getD 0 []))])) := ⟨by rw [← HPS.out]; exact hL4⟩
          have HG2 : Aside0 (¬ S2 gr) := ⟨fun hs => (hS4 gr hs).elim NS1.out (fun h => by have := GRA.out.1; have := HO.out.size; omega)⟩
          have HS4 : Aside0 (∀ k, S2 k → S k ∨ w.heap.size ≤ k) := ⟨fun k hk => (hS4 k hk).elim (fun h => (HS1.out k h).elim .inl (fun h2 => .inr (by have := GRA.out; omega))) (fun h => .inr (by have := HO.out.size; have := GRA.out; omega))⟩
          have HO4 := Aside0.mk (((Out.of_below BEL.out S).trans HO.out (fun k hk => .inl hk)).trans hO4 (fun k hk => (HS1.out k hk).elim .inl (fun h => .inr (by have := GRA.out; omega))))
          clear hL4 hS4 hO4 hD HU HRD HLr HS1 HO HH HN HC1 hcell HPS HDL HXB HX2
          go_wp2_with (refine wpList_store_row rfl 29 (.tmp 7) (.tmp 69) rfl gr (nums .u8 D).toArray rfl rfl 29 (nums .u8 (List.replicate 32 0)).toArray RES.out HI.out HZ.out HO32.out ?_)
          refine bodyPost_ret (results_tct (p := 7) (u := 6) (v := 8) (ty := 29) rfl _ _ gr 29 (nums .u8 D).toArray _ _ rfl (setRow_heap _ _ _ _ _ _ RES.out) Tryd.underlying29 rfl HI.out) rfl ?_
          have hk2 : Kept w4 (w4.setRow gr (nums .u8 D).toArray) (fun k => k = gr) := ⟨by rw [setRow_size]; exact Nat.le_refl _, fun i _ hn => setRow_other _ _ _ _ hn⟩
          refine ⟨NA, nc, gn, S2, by rw [HDQ.out]; rfl, by rw [HUQ.out]; exact HN4.out.kept hk2 (fun k hk e => by have := (HH4.out k hk).1; have := GRA.out.1; omega), HL4.out.kept hk2 (fun k hs e => HG2.out (e ▸ hs)), HS4.out, HO4.out.setRow (.inr GRA.out.2) _, fun k hk => ⟨by have := (HH4.out k hk).1; have := GRA.out; omega, (HH4.out k hk).2⟩⟩
end Go.Proofs.YtgmdgkanfhoahaaDoor.BuildW
namespace Go.Proofs.YtgmdgkanfhoahaaDoor.BuildE
theorem keeps_ : True := trivial
open Go.RowKit Go.Proofs.YtgmdgkanfhoahaaDoor.ShaPure Go.Proofs.YtgmdgkanfhoahaaDoor.ShaBlk Go.Proofs.YtgmdgkanfhoahaaDoor.ShaWrite Go.Proofs.YtgmdgkanfhoahaaDoor.ShaSum Go.Proofs.YtgmdgkanfhoahaaDoor.ShaEnd Go.Proofs.YtgmdgkanfhoahaaDoor.ShaOf Go.Proofs.YtgmdgkanfhoahaaDoor.BytesW Go.Proofs.YtgmdgkanfhoahaaDoor.Put Go.Proofs.YtgmdgkanfhoahaaDoor.LogW Go.Proofs.YtgmdgkanfhoahaaDoor.Dig Go.Proofs.YtgmdgkanfhoahaaDoor.Hdr Go.Proofs.YtgmdgkanfhoahaaDoor.Above Go.Proofs.YtgmdgkanfhoahaaDoor.Build Go.Proofs.YtgmdgkanfhoahaaDoor.BuildW Go.Proofs.YtgmdgkanfhoahaaDoorW.PrintWords Go.Proofs.YtgmdgkanfhoahaaDoorW.PrintLast Go.Proofs.YtgmdgkanfhoahaaDoorW.PrintMore
set_option linter.unusedVariables false
set_option linter.unusedSimpArgs false

end Go.Proofs.YtgmdgkanfhoahaaDoor.BuildE
