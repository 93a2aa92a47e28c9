/- The law TreePaths: true. -/
import Derived.Test.YtgmdgkanfhoahaaDoorHeads
import Derived.Test.YtgmdgkanfhoahaaDoorPath
import Derived.Test.YtgmdgkanfhoahaaDoorClash
import Derived.Test.YtgmdgkanfhoahaaDoorCheckT
import Derived.Test.YtgmdgkanfhoahaaDoorWGuard
namespace Go.Proofs.YtgmdgkanfhoahaaDoor.LawP
open Go.RowKit Go.Proofs.YtgmdgkanfhoahaaDoor.ShaPure Go.Proofs.YtgmdgkanfhoahaaDoor.ShaBlk Go.Proofs.YtgmdgkanfhoahaaDoor.ShaWrite Go.Proofs.YtgmdgkanfhoahaaDoor.ShaSum Go.Proofs.YtgmdgkanfhoahaaDoor.ShaEnd Go.Proofs.YtgmdgkanfhoahaaDoor.ShaOf Go.Proofs.YtgmdgkanfhoahaaDoor.BytesW Go.Proofs.YtgmdgkanfhoahaaDoor.Put Go.Proofs.YtgmdgkanfhoahaaDoor.LogW Go.Proofs.YtgmdgkanfhoahaaDoor.Dig Go.Proofs.YtgmdgkanfhoahaaDoor.Hdr Go.Proofs.YtgmdgkanfhoahaaDoor.Above Go.Proofs.YtgmdgkanfhoahaaDoor.Build Go.Proofs.YtgmdgkanfhoahaaDoor.BuildW Go.Proofs.YtgmdgkanfhoahaaDoor.BuildE Go.Proofs.YtgmdgkanfhoahaaDoor.Kid Go.Proofs.YtgmdgkanfhoahaaDoor.AwakeA Go.Proofs.YtgmdgkanfhoahaaDoor.Awake Go.Proofs.YtgmdgkanfhoahaaDoor.PlanP Go.Proofs.YtgmdgkanfhoahaaDoor.Chk Go.Proofs.YtgmdgkanfhoahaaDoor.GRow Go.Proofs.YtgmdgkanfhoahaaDoor.Small Go.Proofs.YtgmdgkanfhoahaaDoor.CheckT Go.Proofs.YtgmdgkanfhoahaaDoor.PathP Go.Proofs.YtgmdgkanfhoahaaDoor.PathW Go.Proofs.YtgmdgkanfhoahaaDoor.ClashP Go.Proofs.YtgmdgkanfhoahaaDoor.ClashW Go.Proofs.YtgmdgkanfhoahaaDoor.Heads Go.Proofs.YtgmdgkanfhoahaaDoor.PTreePaths Go.Proofs.YtgmdgkanfhoahaaDoorW.PrintWords Go.Proofs.YtgmdgkanfhoahaaDoorW.PrintLast Go.Proofs.YtgmdgkanfhoahaaDoorW.PrintMore
set_option linter.unusedVariables false
set_option linter.unusedSimpArgs false

theorem xor8 (a b : Int) : 0 ≤ Go.bits .xor .u8 a b ∧ Go.bits .xor .u8 a b ≤ 255 := by
  unfold Go.bits
  rw [IntKind.wrap_u8]
  omega
theorem sum_pos (l : List Int) (h : ∀ x ∈ l, 0 ≤ x) : 0 ≤ l.sum := by
  induction l with
  | nil => simp
  | cons y r ih =>
    have h1 := ih (fun x hx => h x (List.mem_cons_of_mem _ hx))
    have h2 := h y List.mem_cons_self
    rw [List.sum_cons]
    omega
theorem sum_le (l : List Int) (h : ∀ x ∈ l, x ≤ 4096) : l.sum ≤ 4096 * l.length := by
  induction l with
  | nil => simp
  | cons y r ih =>
    have h4 := ih (fun x hx => h x (List.mem_cons_of_mem _ hx))
    have h5 := h y List.mem_cons_self
    rw [List.sum_cons, List.length_cons]
    push_cast
    omega
theorem Tryd.infoD' (Z : List Int) (h : Z.length = 32) : (Tryd.prog.info? 29).map (·.size) = some (nums .u8 Z).toArray.size := by rw [Tryd.infoD, List.size_toArray, nums, List.length_map, h]
theorem one32 (Z : List Int) : (nums .u8 Z).toArray.all (·.oneCell') = true := by simp [nums, Value.oneCell']
theorem size32 (Y Z : List Int) (h : Y.length = 32) (h' : Z.length = 32) : (nums .u8 Y).toArray.size = (nums .u8 Z).toArray.size := by rw [List.size_toArray, List.size_toArray, nums, nums, List.length_map, List.length_map, h, h']
theorem st32 (W : World) (D : List Int) : Below W.heap.size W ((W.alloc (.cells (nums .u8 (List.replicate 32 0)).toArray 29 (0, 0))).setRow W.heap.size (nums .u8 D).toArray) := (below_alloc (Below.refl _ _) _).trans ⟨rfl, rfl, rfl, by rw [setRow_size]; exact Nat.le_refl _, fun k hk => setRow_other _ _ _ _ (by omega)⟩
theorem sb32 (W : World) (D : List Int) : ((W.alloc (.cells (nums .u8 (List.replicate 32 0)).toArray 29 (0, 0))).setRow W.heap.size (nums .u8 D).toArray).heap[W.heap.size]? = some (.cells (nums .u8 D).toArray 29 (0, 0)) := setRow_heap _ W.heap.size _ _ _ _ (blk_new W _)
section
variable {P : Program} {ops : Array Oper} {rest : List Oper} {o : Oper} {a : Act} {Q : Exit → Act → World → Prop} {W W1 : World}
theorem gate_val {v : Value} (hw : Region.wanted o (yielded ops a.tmps) = true) (hrun : (execOp a.eval o).run P W = .ok (.value v) W1) (h : wpList P ops Q rest (a.put o.dst v) W1) : wpList P ops Q (o :: rest) a W :=
  wpList_step (fun K hK => event_step hw hrun (hK _ _ h))
end
section
variable {ops : Array Oper} {rest : List Oper} {o : Oper} {a : Act} {Q : Exit → Act → World → Prop} {W : World} {ty : TypeId}
theorem gate_load32 (x g : Nat) (Z : List Int) (hZ : Z.length = 32) (hw : Region.wanted o (yielded ops a.tmps) = true) (ho : o.op = .load 29 (.tmp x)) (hx : a.eval (.tmp x) = .pointer (some ⟨g, 0, none⟩)) (hb : W.heap[g]? = some (.cells (nums .u8 Z).toArray 29 (0, 0)))
    (h : wpList Tryd.prog ops Q rest (a.put o.dst (.agg (nums .u8 Z).toArray)) W) : wpList Tryd.prog ops Q (o :: rest) a W :=
  gate_val hw (ev_load_row 29 (.tmp x) ho g hx 29 (nums .u8 Z).toArray (0, 0) _ hb Tryd.underlying29 rfl (Tryd.infoD' Z hZ)) h
end
set_option maxHeartbeats 8000000 in
set_option maxRecDepth 100000 in
theorem law_paths (a0 a2 a3 a4 : Int) (FA : Option Addr) (fc : Nat) (fill : List Int) (w : World) (hT : Tab w) (hC : Kd.C (Kd.int .u8) w FA fill.length fill) (hfc : fill.length ≤ fc) (hby : Bytes fill)
    (h00 : -9223372036854775808 ≤ a0) (h01 : a0 ≤ 9223372036854775807) (h20 : -9223372036854775808 ≤ a2) (h21 : a2 ≤ 9223372036854775807) (h30 : -9223372036854775808 ≤ a3) (h31 : a3 ≤ 9223372036854775807) (h40 : 0 ≤ a4) (h41 : a4 ≤ 255) :
    Calls Tryd.prog 5 #[.int .i64 a0, .slice FA fill.length fc, .int .i64 a2, .int .i64 a3, .int .u8 a4] w fun e w' => e = .returned (.bool true) ∧ Below w.heap.size w w' := by
  obtain ⟨k, P, ls, hmv, hP0, hP1, hll, hls⟩ := made_val a0 fill hby (Kd.C_max hC) xor8 h00 h01
  obtain ⟨C, hC1⟩ : ∃ C, (P + 15) / 16 = C := ⟨_, rfl⟩
  have hpl := plan_ok P hP0 hP1
  rw [hC1] at hmv hpl hll
  obtain ⟨L0, hL0⟩ : ∃ L, levels C = L := ⟨_, rfl⟩
  rw [hL0] at hmv hpl
  obtain ⟨N, hN⟩ : ∃ N, L0.sum = N := ⟨_, rfl⟩
  rw [hN] at hmv hpl
  obtain ⟨H, hH⟩ : ∃ H, P + C + N = H := ⟨_, rfl⟩
  rw [hH] at hmv hpl
  obtain ⟨a7, h7⟩ : ∃ x, H + 1 = x := ⟨_, rfl⟩
  obtain ⟨a8, h8⟩ : ∃ x, H + 5 = x := ⟨_, rfl⟩
  obtain ⟨a9, h9⟩ : ∃ x, H + 9 = x := ⟨_, rfl⟩
  rw [h7, h8, h9] at hmv
  have HLB : Aside0 (∀ b ∈ ls, Bytes b) := ⟨fun b hb => (hls b hb).2⟩
  have HLS : Aside0 (∀ b ∈ ls, b.length = 256) := ⟨fun b hb => (hls b hb).1⟩
  obtain ⟨bl1, bl3, bl4⟩ := up_facts P ls hP0 hP1 C hC1 hll L0 hL0 N hN H hH
  have HBL := Aside0.mk bl1
  obtain ⟨r2, hr2, r20, r21⟩ := pick_val a2 P hP0 (by omega) h20 h21
  have hgood := built_good P ls hP0 hP1 HLS.out C hC1 hll L0 hL0 N hN H hH r2 r20 r21 bl3
  have HIP := Aside0.mk (inp_append (upPairs_inp P ls HLB.out HLS.out L0.length) (fun p hp => by
    rw [List.mem_singleton.1 hp]
    have h1 := getD_mem (upN_bytes P ls HLB.out L0.length) (upN_full P ls HLS.out L0.length) 0
    exact ⟨(upN P ls L0.length).2.1, _, rfl, h1.1, h1.2⟩) : Inp (upPairs P ls L0.length ++ [(input (upN P ls L0.length).2.1 ((upN P ls L0.length).2.2.getD 0 []), dig (upN P ls L0.length).2.1 ((upN P ls L0.length).2.2.getD 0 []))]))
  have HPQ : Aside0 ((upPairs P ls L0.length ++ [(input (upN P ls L0.length).2.1 ((upN P ls L0.length).2.2.getD 0 []), dig (upN P ls L0.length).2.1 ((upN P ls L0.length).2.2.getD 0 []))]).length ≤ 100000) := ⟨by
    have h1 := upPairs_len P ls L0.length
    have h2 := hpl.len
    have h3 : ls.length * L0.length ≤ 100 * 100 := Nat.mul_le_mul (by omega) (by omega)
    rw [List.length_append, List.length_singleton]
    omega⟩
  obtain ⟨pq, hpq⟩ : ∃ pq, upPairs P ls L0.length ++ [(input (upN P ls L0.length).2.1 ((upN P ls L0.length).2.2.getD 0 []), dig (upN P ls L0.length).2.1 ((upN P ls L0.length).2.2.getD 0 []))] = pq := ⟨_, rfl⟩
  rw [hpq] at HIP HPQ
  have HPQE := Aside0.mk hpq
  obtain ⟨X, hX⟩ : ∃ X, (upN P ls L0.length).1 = X := ⟨_, rfl⟩
  have HXA : Aside0 (∀ x ∈ X, Bytes x ∧ x.length = 256) := ⟨by rw [← hX]; exact upN_all P ls HLB.out HLS.out L0.length⟩
  obtain ⟨RB, hRB⟩ : ∃ RB, (upN P ls L0.length).2.2.getD 0 [] = RB := ⟨_, rfl⟩
  rw [hX] at bl4 hgood
  rw [hRB] at hgood
  obtain ⟨R, hR⟩ : ∃ R, dig (H - 1) RB = R := ⟨_, rfl⟩
  have HRL : Aside0 (R.length = 32) := ⟨by rw [← hR]; exact dig_length _ _⟩
  have HRD : Aside0 (dig (upN P ls L0.length).2.1 ((upN P ls L0.length).2.2.getD 0 []) = R) := ⟨by rw [bl3, hRB]; exact hR⟩
  rw [hR] at hgood
  obtain ⟨al, hal⟩ : ∃ al, ls ++ X = al := ⟨_, rfl⟩
  rw [hal] at hgood
  have HAL := Aside0.mk hal
  have HX := Aside0.mk hX
  subst hll
  obtain ⟨bl, hbl⟩ : ∃ bl, up (P :: ls.length :: L0) 0 16 r2 = bl := ⟨_, rfl⟩
  have HBE := Aside0.mk hbl
  have HUI : Aside0 (∀ z ∈ bl, P ≤ z ∧ z < H) := ⟨by rw [← hbl]; exact up_in hpl r2 r20 r21⟩
  have HUL : Aside0 (1 ≤ bl.length ∧ bl.length ≤ 100) := ⟨by rw [← hbl, up_len]; have := hpl.len; simp; omega⟩
  rw [hbl] at hgood
  have hN0 : 1 ≤ N := by
    have hbd := hpl.chain.bound
    have h1 := hpl.len.2
    have h2 : ∀ x ∈ L0, 1 ≤ x := fun x hx => (hbd x (List.mem_cons_of_mem _ (List.mem_cons_of_mem _ hx))).1
    rw [← hN]
    cases L0 with
    | nil => simp at h1
    | cons y r =>
      have h3 := sum_pos r (fun x hx => by have := h2 x (List.mem_cons_of_mem _ hx); omega)
      have := h2 y List.mem_cons_self
      rw [List.sum_cons]
      omega
  obtain rfl : N = (X.length : Int) := by omega
  have HN := Aside0.mk (And.intro hN0 hN)
  have HSUM := Aside0.mk hH
  have HHH : Aside0 (1 ≤ H ∧ H ≤ 1000000) := by
    refine ⟨by omega, ?_⟩
    have hbd := hpl.chain.bound
    have h1 := hpl.len.1
    have h4 := sum_le L0 (fun x hx => (hbd x (List.mem_cons_of_mem _ (List.mem_cons_of_mem _ hx))).2)
    have h5 : (ls.length : Int) ≤ 4096 := (hbd _ (List.mem_cons_of_mem _ List.mem_cons_self)).2
    omega
  have HLN : Aside0 (1 ≤ ls.length ∧ ls.length ≤ 1000) := ⟨by omega⟩
  have HPP : Aside0 (1 ≤ P ∧ P ≤ 300) := ⟨⟨hP0, hP1⟩⟩
  have HPG : Aside0 (0 ≤ r2 ∧ r2 < P) := ⟨⟨r20, r21⟩⟩
  have HPL := Aside0.mk hpl
  have HMV := Aside0.mk hmv
  have HT := Aside0.mk hT
  have HC := Aside0.mk hC
  have HFC := Aside0.mk hfc
  have HPK := Aside0.mk hr2
  have HGD := Aside0.mk hgood
  have H3 := Aside0.mk (And.intro h30 h31)
  have H4 := Aside0.mk (And.intro h40 h41)
  clear hmv hP0 hP1 hls hC1 hL0 hN hH h7 h8 h9 bl1 bl3 bl4 hX hRB hR hN0 hpl hT hC hfc hby h00 h01 h20 h21 h30 h31 h40 h41 hr2 r20 r21 hgood hbl hpq hal
  go_enter Tryd.func5, Tryd.ntmps5
  go_wp2_with fail
  refine (thimblelaw18_made.calls k a0 FA fc fill P 4 ls.length L0 X.length H 1 a7 a8 a9 ls _ HC.out HFC.out HMV.out).mono ?_
  rintro e w1 ⟨lv, v10, rfl, hlv, hS, hb1⟩
  obtain ⟨LA, lc, e3⟩ := Kd.R_slice hlv
  subst e3
  obtain ⟨-, hlc, hLC⟩ := Kd.R_reads' hlv
  obtain ⟨og, cw, e4, hog, -⟩ := Kd.R_form (Kd.S_R hS) (by have := HLN.out; omega)
  subst e4
  obtain ⟨-, hcw, hBC⟩ := Kd.R_reads' (Kd.S_R hS)
  have HLC := Aside0.mk hlc
  have HLV := Aside0.mk hLC
  have HCW := Aside0.mk hcw
  have HBC := Aside0.mk hBC
  have BEL := Aside0.mk hb1
  clear hlv hlc hLC hS hcw hog hBC hb1 HMV HC HFC
  go_wp2_with fail
  change Calls _ _ _ (w1.alloc (.cells (planCells P 4 ls.length (.slice LA L0.length lc) X.length H 1 a7 a8 a9) 25 (0, 0))) _
  have hb3 := below_alloc (Below.refl w1.heap.size w1) (.cells (planCells P 4 ls.length (.slice LA L0.length lc) X.length H 1 a7 a8 a9) 25 (0, 0))
  have G11 := Aside0.mk (blk_new w1 (.cells (planCells P 4 ls.length (.slice LA L0.length lc) X.length H 1 a7 a8 a9) 25 (0, 0)))
  replace BEL := Aside0.mk (BEL.out.trans (hb3.mono BEL.out.size))
  replace HLV := Aside0.mk (Kd.C_below HLV.out hb3)
  replace HBC := Aside0.mk (Kd.C_below HBC.out hb3)
  clear hb3
  obtain ⟨g11, hg11⟩ : ∃ g, w1.heap.size = g := ⟨_, rfl⟩
  rw [hg11] at G11 ⊢
  clear hg11
  generalize w1.alloc _ = wq at G11 BEL HLV HBC ⊢
  refine (Small.new_calls wq).mono ?_
  rintro e w2 ⟨gl, rfl, hgl, hgb, hb⟩
  have HLG := Aside0.mk (new_log hgl hgb (by have := HT.out.1; have := BEL.out.size; omega))
  have HGQ : Aside0 (wq.heap.size ≤ gl) := ⟨by omega⟩
  have BQ := Aside0.mk hb
  have HBR := Aside0.mk (RD.of_C (S := fun k => k = gl) HBC.out hb (fun k hk => by omega))
  clear hgl hgb hb
  go_wp2_with (refine wpList_load_row rfl 25 (.tmp 11) rfl g11 rfl 25 (planCells P 4 ls.length (.slice LA L0.length lc) X.length H 1 a7 a8 a9) _ _ (blk_below G11.out BQ.out) Tryd.underlying25 rfl Tryd.infoPlan ?_)
  refine (build_calls (some gl) (fun k => k = gl) [] P 4 X.length H 1 a7 a8 a9 LA L0.length lc (some ⟨og, 0, none⟩) cw ls w2 HLG.out (Tab.below HT.out (BEL.out.trans (BQ.out.mono BEL.out.size))) HBR.out HLB.out HLS.out (by have := HLN.out; omega) (by decide) (by have := HPP.out; omega) (by have := HPP.out; omega) (by have := HPL.out.len; omega) (by have := HPL.out.len; omega) HBL.out).mono ?_
  rw [List.nil_append, HPQE.out, HRD.out, HX.out]
  rintro e w3 ⟨RA, rc, gx, S1, rfl, hH, hLg, hS1, hO, hn⟩
  have hlen := hH.len
  rw [← hlen] at hH hn ⊢
  obtain ⟨RX, rx, e9, hrx, hXC⟩ := hH.reads
  have e9' := Value.slice.inj e9
  rw [← e9'.1] at hXC
  rw [← e9'.2.2] at hrx
  have HXR := Aside0.mk hrx
  have HXC := Aside0.mk hXC
  have HL1 := Aside0.mk hLg
  have HS1 : Aside0 (∀ k, S1 k → wq.heap.size ≤ k) := ⟨fun k hk => (hS1 k hk).elim (fun e => by rw [e]; exact HGQ.out) (fun h => Nat.le_trans BQ.out.size h)⟩
  replace BQ := Aside0.mk (BQ.out.trans (hO.to_below' (n := wq.heap.size) BQ.out.size (fun k hk => by rw [hk]; exact HGQ.out)))
  clear hH hLg hS1 hO hn hlen e9 e9' hrx hXC HLG HBR HGQ
  go_wp2_with (first
    | (refine wpList_store_row rfl 29 (.tmp 15) (.tmp 37) rfl w3.heap.size (nums .u8 R).toArray rfl rfl 29 (nums .u8 (List.replicate 32 0)).toArray (blk_new _ _) (Tryd.infoD' R HRL.out) (size32 _ _ List.length_replicate HRL.out) (one32 R) ?_
       have hb4 := st32 w3 R
       have G15 := Aside0.mk (sb32 w3 R)
       have H15 : Aside0 (∀ k, S1 k → k ≠ w3.heap.size) := ⟨fun k hk e => by have := HL1.out.lt k hk; omega⟩
       replace BQ := Aside0.mk (BQ.out.trans (hb4.mono BQ.out.size))
       replace HL1 := Aside0.mk (HL1.out.below hb4)
       replace HXC := Aside0.mk (Kd.C_below HXC.out hb4)
       clear hb4
       obtain ⟨g15, hg15⟩ : ∃ bx, w3.heap.size = bx := ⟨_, rfl⟩
       rw [hg15] at G15 BQ HL1 HXC H15 ⊢
       clear hg15
       change wpList _ _ _ _ _ ((w3.alloc (.cells (nums .u8 (List.replicate 32 0)).toArray 29 (0, 0))).setRow g15 (nums .u8 R).toArray)
       generalize (w3.alloc (.cells (nums .u8 (List.replicate 32 0)).toArray 29 (0, 0))).setRow g15 (nums .u8 R).toArray = w4 at G15 BQ HL1 HXC ⊢
       have z0 : w4.cell? ⟨g11, 0, none⟩ = some (.int .i64 P) := (blk_cell (blk_below G11.out BQ.out) 0).trans rfl))
  -- CUT 1
  refine (thimbleref02_Pick.calls a2 P r2 _ HPK.out).mono ?_
  rintro e w5 ⟨rfl, nd, rfl⟩
  clear z0
  have hb5 := pw_below_drewN (Below.refl w4.heap.size w4) nd
  replace G15 := Aside0.mk (blk_below G15.out hb5)
  replace BQ := Aside0.mk (BQ.out.trans (hb5.mono BQ.out.size))
  replace HL1 := Aside0.mk (HL1.out.below hb5)
  replace HXC := Aside0.mk (Kd.C_below HXC.out hb5)
  clear hb5
  generalize w4.drewN nd = w5 at G15 BQ HL1 HXC ⊢
  obtain ⟨hs, hhs, hsl, hsb⟩ := heads_of (Kd.C_below HBC.out BQ.out)
  obtain ⟨ks, hks, ksl, ksb⟩ := heads_of HXC.out
  have HHS := Aside0.mk hhs
  have HHL := Aside0.mk hsl
  have HHB := Aside0.mk hsb
  have HKS := Aside0.mk hks
  have HKL := Aside0.mk ksl
  have HKB := Aside0.mk ksb
  clear hhs hsl hsb hks ksl ksb
  have HXL : Aside0 (X.length ≤ 20000) := ⟨by have := HHH.out; have := HSUM.out; have h1 := sum_le L0 (fun x hx => (HPL.out.chain.bound x (List.mem_cons_of_mem _ (List.mem_cons_of_mem _ hx))).2); have := HN.out; have := HPL.out.len; omega⟩
  go_wp2_with (first
    | (refine Kd.R_append_row hv h0 (w0 := w5) w5.heap.size rfl (.tmp 43) (.tmp 44) 26 22 (.slice none 0 0) 24 rfl Tryd.underlying26 Tryd.infoHB rfl (by decide) (.slice (some ⟨w5.heap.size, 0, none⟩) 0 0) [] hs (some ⟨og, 0, none⟩) ls.length cw (fun k => w5.heap.size ≤ k) rfl rfl (fun k hk => by simp at hk; omega) (Kd.R_of_own (World.ownsRow_made w5 #[] 0 (Nat.le_refl _) (by decide) rfl) (fun k hk => by simp [Value.ownBlock] at hk; omega)) (Kd.C_below HHS.out (below_alloc (Below.refl _ _) _)) (below_alloc (Below.refl _ _) _) (by simp) (by have := HLN.out; simp; omega) ?_
       intro v1 w6 ho1 hbx1 hg1 hat1
       simp only [List.nil_append] at ho1
       have HO1 := Aside0.mk ho1
       have BX1 := Aside0.mk hbx1
       clear ho1 hbx1 hg1 hat1)
    | (refine Kd.R_append_row hv h0 (w0 := w5) w5.heap.size rfl (.tmp 45) (.tmp 46) 26 22 (.slice none 0 0) 24 rfl Tryd.underlying26 Tryd.infoHB rfl (by decide) v1 hs ks RA X.length rc (fun k => w5.heap.size ≤ k) rfl rfl (fun k hk => by have := BX1.out.size; omega) HO1.out (Kd.C_below HKS.out BX1.out) BX1.out BX1.out.size (by rw [HHL.out]; have := HLN.out; have := HXL.out; omega) ?_
       intro v2 w7 ho2 hbx2 hg2 hat2
       obtain ⟨A17, c17, e17⟩ := Kd.R_slice ho2
       subst e17
       obtain ⟨-, hc17, hC17⟩ := Kd.R_reads' ho2
       have hal : (hs ++ ks).length = al.length := by rw [← HAL.out, List.length_append, List.length_append, HHL.out, HKL.out]
       rw [hal] at hC17 hc17 ⊢
       have HALL : Aside0 (BB.C w7 A17 al.length al) := ⟨C_of_heads hC17 hal (by rw [← HAL.out]; exact HB.append HHL.out (fun j hj => (HHB.out j hj).below hbx2) (fun j hj => (HKB.out j hj).below hbx2))⟩
       replace G15 := Aside0.mk (blk_below G15.out hbx2)
       replace BQ := Aside0.mk (BQ.out.trans (hbx2.mono BQ.out.size))
       replace HL1 := Aside0.mk (HL1.out.below hbx2)
       clear ho2 hbx2 hg2 hat2 hc17 hC17 hal
       have z4 : w7.cell? ⟨g11, 4, none⟩ = some (.int .i64 X.length) := (blk_cell (blk_below G11.out BQ.out) 4).trans rfl)
    | (refine wpList_load_row rfl 25 (.tmp 11) rfl g11 rfl 25 (planCells P 4 ls.length (.slice LA L0.length lc) X.length H 1 a7 a8 a9) _ _ (blk_below G11.out BQ.out) Tryd.underlying25 rfl Tryd.infoPlan ?_))
  -- CUT 2
  clear z4 HHS HHL HHB HKS HKL HKB HO1 BX1 HXC
  have HAF : Aside0 (∀ b ∈ al, Bytes b ∧ b.length = 256) := ⟨by rw [← HAL.out]; exact fun b hb => (List.mem_append.1 hb).elim (fun h => ⟨HLB.out b h, HLS.out b h⟩) (HXA.out b)⟩
  have HAN : Aside0 (P + al.length = H) := ⟨by rw [← HAL.out, List.length_append]; have := HSUM.out; push_cast; omega⟩
  -- CUT 3
  refine (path_calls P ls.length X.length H 1 a7 a8 a9 L0 LA lc r2 A17 c17 al w7 HPL.out (Kd.C_below HLV.out BQ.out) HLC.out HALL.out (fun b hb => (HAF.out b hb).2) HAN.out HPG.out.1 HPG.out.2 (by have := HPG.out; have := HPP.out; omega)).mono ?_
  rw [HBE.out]
  rintro e w8 ⟨RP, rp, gs, rfl, hGR, hgn, hb8⟩
  have HPB : Aside0 (∀ x ∈ pathOf al P bl, Bytes x ∧ x.length = 256) := ⟨pathOf_all HAF.out (fun z hz => by have := HUI.out z hz; have := HAN.out; omega)⟩
  have hpl := pathOf_len al P bl
  obtain ⟨px, hpx⟩ : ∃ px, pathOf al P bl = px := ⟨_, rfl⟩
  rw [hpx] at hGR HPB hpl
  have hgd := HGD.out
  rw [hpx] at hgd
  replace HGD := Aside0.mk hgd
  have hlen := hGR.len
  rw [← hlen] at hGR hgn ⊢
  have HPN : Aside0 (px.length = bl.length ∧ 1 ≤ px.length ∧ px.length ≤ 100) := ⟨by have := HUL.out; omega⟩
  have HN1 : Aside0 (∀ k, ghas (.slice RP px.length rp) gs k → ¬ S1 k) := ⟨fun k hk hs => by have := hgn k hk; have := HL1.out.lt k hs; omega⟩
  have GR := Aside0.mk hGR
  have HG15 : Aside0 (∀ k, ghas (.slice RP px.length rp) gs k → k ≠ g15) := ⟨fun k hk e => by have := hgn k hk; have := blk_lt G15.out; omega⟩
  have HGQ : Aside0 (∀ k, ghas (.slice RP px.length rp) gs k → wq.heap.size ≤ k) := ⟨fun k hk => Nat.le_trans BQ.out.size (hgn k hk)⟩
  replace G15 := Aside0.mk (blk_below G15.out hb8)
  replace BQ := Aside0.mk (BQ.out.trans (hb8.mono BQ.out.size))
  replace HL1 := Aside0.mk (HL1.out.below hb8)
  clear hGR hgn hb8 hlen hpl hgd hpx HALL
  go_wp2_with (first
    | (refine wpList_load_row rfl 25 (.tmp 11) rfl g11 rfl 25 (planCells P 4 ls.length (.slice LA L0.length lc) X.length H 1 a7 a8 a9) _ _ (blk_below G11.out BQ.out) Tryd.underlying25 rfl Tryd.infoPlan ?_)
    | (refine gate_load32 15 g15 R HRL.out rfl rfl rfl G15.out ?_))
  -- CUT 4
  have hcc := check_calls (some gl) S1 pq P ls.length X.length H 1 a7 a8 a9 L0 LA lc r2 RP rp px R w8 HL1.out (Tab.below HT.out (BEL.out.trans (BQ.out.mono BEL.out.size))) HPL.out (fun W' hk => low_C64 HLV.out (fun b hb => (hk.2 b (by have := BQ.out.size; omega) (fun h => by have := HS1.out b h; omega)).trans (BQ.out.block b hb))) HLC.out (RD.of_G GR.out HN1.out) (fun b hb => (HPB.out b hb).1) HRL.out (by have := HPN.out; omega) (by have := HPQ.out; omega) (by have := HPG.out; have := HPP.out; omega)
  rw [HBE.out, HGD.out] at hcc
  refine hcc.mono ?_
  clear hcc
  rintro e w9 ⟨rfl, m, ⟨S2, hL2, hS2, hO2⟩, hm⟩
  obtain rfl := hm rfl
  have HL2 := Aside0.mk hL2
  have HS2 : Aside0 (∀ k, S2 k → wq.heap.size ≤ k) := ⟨fun k hk => (hS2 k hk).elim (HS1.out k) (fun h => Nat.le_trans BQ.out.size h)⟩
  have HN2 : Aside0 (∀ k, ghas (.slice RP px.length rp) gs k → ¬ S2 k) := ⟨fun k hk hs => (hS2 k hs).elim (HN1.out k hk) (fun h => by have := GR.out.lt hk; omega)⟩
  have H152 : Aside0 (¬ S2 g15) := ⟨fun hs => (hS2 g15 hs).elim (fun h => H15.out g15 h rfl) (fun h => by have := blk_lt G15.out; omega)⟩
  replace G15 := Aside0.mk (hO2.blk G15.out (fun h => H15.out g15 h rfl))
  replace GR := Aside0.mk (GR.out.kept hO2.kept HN1.out)
  replace BQ := Aside0.mk (BQ.out.trans (hO2.to_below' (n := wq.heap.size) BQ.out.size HS1.out))
  clear hL2 hS2 hO2 hm HL1 HS1 HN1 H15
  -- CUT 5
  have h40 := H4.out.1
  have h41 := H4.out.2
  by_cases hz : a4 = 0
  · subst hz
    go_wp2_with fail
    refine (awake_calls _ (Tab.below HT.out (BEL.out.trans (BQ.out.mono BEL.out.size)))).mono ?_
    rintro e w10 ⟨rfl, hb10⟩
    have BE := Aside0.mk ((BEL.out.trans (BQ.out.mono BEL.out.size)).trans (hb10.mono (by have := BEL.out.size; have := BQ.out.size; omega)))
    clear hb10
    go_wp2
    go_ret
    exact ⟨rfl, BE.out⟩
  · have HZ := Aside0.mk hz
    have hp0 := HPN.out.2.1
    have hp1 := HPN.out.2.2
    have hz2 : (a4 == 0) = false := by simpa using hz
    obtain ⟨r3, hr3, r30, r31⟩ := pick_val a3 (256 * px.length) (by omega) (by omega) H3.out.1 H3.out.2
    have HPK3 := Aside0.mk hr3
    clear hr3
    go_wp2_with fail
    -- CUT 6
    refine (thimbleref02_Pick.calls a3 (256 * px.length) r3 _ HPK3.out).mono ?_
    rintro e w10 ⟨rfl, nd, rfl⟩
    clear hz2
    have hb5 := pw_below_drewN (Below.refl w9.heap.size w9) nd
    replace G15 := Aside0.mk (blk_below G15.out hb5)
    replace BQ := Aside0.mk (BQ.out.trans (hb5.mono BQ.out.size))
    replace HL2 := Aside0.mk (HL2.out.below hb5)
    replace GR := Aside0.mk (GR.out.below hb5)
    clear hb5
    generalize w9.drewN nd = w10 at G15 BQ HL2 GR ⊢
    obtain ⟨q, hq⟩ : ∃ q, r3 / 256 = q := ⟨_, rfl⟩
    obtain ⟨i, hi⟩ : ∃ i, r3 % 256 = i := ⟨_, rfl⟩
    have hq0 : 0 ≤ q := by omega
    have hq1 : q < px.length := by omega
    have hi0 : 0 ≤ i := by omega
    have hi1 : i < 256 := by omega
    have HGL := Aside0.mk GR.out.len
    obtain ⟨gq, hgq⟩ : ∃ g, gs[q.toNat]? = some g := ⟨_, List.getElem?_eq_getElem (by have := HGL.out; omega)⟩
    obtain ⟨ogp, eRP, hcl⟩ := GR.out.cell_ hgq
    subst eRP
    have HHD := Aside0.mk (hcl _ _ GR.out)
    have hxl := (GR.out.blk _ _ hgq).1
    have HCX := Aside0.mk ((GR.out.blk _ _ hgq).cell hi0 hi1)
    have HFZ := Aside0.mk (GR.out.blk _ _ hgq).2.2
    obtain ⟨xb, hxb⟩ : ∃ x, px.getD q.toNat [] = x := ⟨_, rfl⟩
    rw [hxb] at HCX hxl
    have HXB : Aside0 (Bytes xb) := ⟨by rw [← hxb, List.getD_eq_getElem?_getD, List.getElem?_eq_getElem (by omega)]; exact (HPB.out _ (List.getElem_mem (by omega))).1⟩
    obtain ⟨xi, hxi⟩ : ∃ x, xb.getD i.toNat 0 = x := ⟨_, rfl⟩
    rw [hxi] at HCX
    have HXI := Aside0.mk hxi
    have HXBE := Aside0.mk hxb
    have HXBL := Aside0.mk hxl
    have HGQ' := Aside0.mk hgq
    clear hcl hgq hxb hxi hxl
    have hx255 : 0 ≤ xi ∧ xi ≤ 255 := by rw [← HXI.out, List.getD_eq_getElem?_getD, List.getElem?_eq_getElem (by have := HXBL.out; omega)]; exact HXB.out _ (List.getElem_mem (by have := HXBL.out; omega))
    have hqt : IntKind.i64.wrap (r3.tdiv 256) = q := by rw [Int.tdiv_eq_ediv_of_nonneg r30, hq]; exact IntWalk.i64_in _ (by omega)
    have hit : r3.tmod 256 = i := by rw [Int.tmod_eq_emod_of_nonneg r30, hi]
    go_wp2_with fail
    -- CUT 7
    refine start_ (n := 20) (S := fun w' => Below w10.heap.size w10 w') (ds := [19]) #[false, false, false, false, false, false, false, false, false, false, false, false, false, false, false, false, false, false, false, false] (by kernel_rfl) rfl rfl (below_drew1 (Below.refl _ _)) (fun hHeld => ?_)
    have HH := Aside0.mk hHeld
    clear hHeld
    generalize w10.drew = w11 at HH ⊢
    refine pure_ (i := 0) (N := some 76) (v := ?_) (a' := ?_) #[true, false, false, false, false, false, false, false, false, false, false, false, false, false, false, false, false, false, false, false] rfl rfl (by kernel_rfl) (fun _ _ _ h => h) (Or.inl ⟨by rfl, ?_⟩) ?_ ?_
    rotate_left
    · intro w'
      go_simp
      with_reducible rfl
    rotate_left
    · simp only [Act.put, List.setIfInBounds_toArray, List.set_cons_zero, List.set_cons_succ, i64_w, i32_w]
      rfl
    refine pure_ (i := 1) (N := some 77) (v := ?_) (a' := ?_) #[true, true, false, false, false, false, false, false, false, false, false, false, false, false, false, false, false, false, false, false] rfl rfl (by kernel_rfl) (fun _ _ _ h => h) (Or.inl ⟨by rfl, ?_⟩) ?_ ?_
    rotate_left
    · intro w'
      go_simp
      with_reducible rfl
    rotate_left
    · simp only [Act.put, List.setIfInBounds_toArray, List.set_cons_zero, List.set_cons_succ, i64_w, i32_w]
      rfl
    refine pure_ (i := 2) (N := some 78) (v := ?_) (a' := ?_) #[true, true, true, false, false, false, false, false, false, false, false, false, false, false, false, false, false, false, false, false] rfl rfl (by kernel_rfl) (fun _ _ _ h => h) (Or.inl ⟨by rfl, ?_⟩) ?_ ?_
    rotate_left
    · intro w'
      go_simp
      with_reducible rfl
    rotate_left
    · simp only [Act.put, List.setIfInBounds_toArray, List.set_cons_zero, List.set_cons_succ, i64_w, i32_w]
      rfl
    refine pure_ (i := 3) (N := some 79) (v := ?_) (a' := ?_) #[true, true, true, true, false, false, false, false, false, false, false, false, false, false, false, false, false, false, false, false] rfl rfl (by kernel_rfl) (fun _ _ _ h => h) (Or.inl ⟨by rfl, ?_⟩) ?_ ?_
    rotate_left
    · intro w'
      go_simp
      with_reducible rfl
    rotate_left
    · simp only [Act.put, List.setIfInBounds_toArray, List.set_cons_zero, List.set_cons_succ, i64_w, i32_w]
      rfl
    refine take_ (i := 4) (N := some 80) (v := ?_) (a' := ?_) #[true, true, true, true, true, false, false, false, false, false, false, false, false, false, false, false, false, false, false, false] rfl rfl (by kernel_rfl) (fun _ _ _ h => h) (Or.inl ⟨by rfl, ?_⟩) HH.out ?_ ?_
    rotate_left
    · rintro w' s0
      have z0 : w'.cell? ⟨ogp, q.toNat, none⟩ = some (.slice (some ⟨gq.1, 0, none⟩) 256 gq.2) := cell_same HHD.out (s0.block _ (cell_lt HHD.out))
      clear s0
      go_simp
      with_reducible rfl
    rotate_left
    · simp only [Act.put, List.setIfInBounds_toArray, List.set_cons_zero, List.set_cons_succ, i64_w, i32_w]
      rfl
    refine pure_ (i := 5) (N := some 81) (v := ?_) (a' := ?_) #[true, true, true, true, true, true, false, false, false, false, false, false, false, false, false, false, false, false, false, false] rfl rfl (by kernel_rfl) (fun _ _ _ h => h) (Or.inl ⟨by rfl, ?_⟩) ?_ ?_
    rotate_left
    · intro w'
      go_simp
      with_reducible rfl
    rotate_left
    · simp only [Act.put, List.setIfInBounds_toArray, List.set_cons_zero, List.set_cons_succ, i64_w, i32_w]
      rfl
    refine pure_ (i := 6) (N := some 82) (v := ?_) (a' := ?_) #[true, true, true, true, true, true, true, false, false, false, false, false, false, false, false, false, false, false, false, false] rfl rfl (by kernel_rfl) (fun _ _ _ h => h) (Or.inl ⟨by rfl, ?_⟩) ?_ ?_
    rotate_left
    · intro w'
      go_simp
      with_reducible rfl
    rotate_left
    · simp only [Act.put, List.setIfInBounds_toArray, List.set_cons_zero, List.set_cons_succ, i64_w, i32_w]
      rfl
    refine pure_ (i := 7) (N := some 83) (v := ?_) (a' := ?_) #[true, true, true, true, true, true, true, true, false, false, false, false, false, false, false, false, false, false, false, false] rfl rfl (by kernel_rfl) (fun _ _ _ h => h) (Or.inl ⟨by rfl, ?_⟩) ?_ ?_
    rotate_left
    · intro w'
      go_simp
      with_reducible rfl
    rotate_left
    · simp only [Act.put, List.setIfInBounds_toArray, List.set_cons_zero, List.set_cons_succ, i64_w, i32_w]
      rfl
    refine pure_ (i := 8) (N := some 84) (v := ?_) (a' := ?_) #[true, true, true, true, true, true, true, true, true, false, false, false, false, false, false, false, false, false, false, false] rfl rfl (by kernel_rfl) (fun _ _ _ h => h) (Or.inl ⟨by rfl, ?_⟩) ?_ ?_
    rotate_left
    · intro w'
      go_simp
      with_reducible rfl
    rotate_left
    · simp only [Act.put, List.setIfInBounds_toArray, List.set_cons_zero, List.set_cons_succ, i64_w, i32_w]
      rfl
    refine pure_ (i := 9) (N := some 85) (v := ?_) (a' := ?_) #[true, true, true, true, true, true, true, true, true, true, false, false, false, false, false, false, false, false, false, false] rfl rfl (by kernel_rfl) (fun _ _ _ h => h) (Or.inl ⟨by rfl, ?_⟩) ?_ ?_
    rotate_left
    · intro w'
      go_simp
      with_reducible rfl
    rotate_left
    · simp only [Act.put, List.setIfInBounds_toArray, List.set_cons_zero, List.set_cons_succ, i64_w, i32_w]
      rfl
    refine pure_ (i := 10) (N := some 86) (v := ?_) (a' := ?_) #[true, true, true, true, true, true, true, true, true, true, true, false, false, false, false, false, false, false, false, false] rfl rfl (by kernel_rfl) (fun _ _ _ h => h) (Or.inl ⟨by rfl, ?_⟩) ?_ ?_
    rotate_left
    · intro w'
      go_simp
      with_reducible rfl
    rotate_left
    · simp only [Act.put, List.setIfInBounds_toArray, List.set_cons_zero, List.set_cons_succ, i64_w, i32_w]
      rfl
    refine take_ (i := 11) (N := some 87) (v := ?_) (a' := ?_) #[true, true, true, true, true, true, true, true, true, true, true, true, false, false, false, false, false, false, false, false] rfl rfl (by kernel_rfl) (fun _ _ _ h => h) (Or.inl ⟨by rfl, ?_⟩) HH.out ?_ ?_
    rotate_left
    · rintro w' s0
      have z0 : w'.cell? ⟨ogp, q.toNat, none⟩ = some (.slice (some ⟨gq.1, 0, none⟩) 256 gq.2) := cell_same HHD.out (s0.block _ (cell_lt HHD.out))
      clear s0
      go_simp
      with_reducible rfl
    rotate_left
    · simp only [Act.put, List.setIfInBounds_toArray, List.set_cons_zero, List.set_cons_succ, i64_w, i32_w]
      rfl
    refine pure_ (i := 12) (N := some 88) (v := ?_) (a' := ?_) #[true, true, true, true, true, true, true, true, true, true, true, true, true, false, false, false, false, false, false, false] rfl rfl (by kernel_rfl) (fun _ _ _ h => h) (Or.inl ⟨by rfl, ?_⟩) ?_ ?_
    rotate_left
    · intro w'
      go_simp
      with_reducible rfl
    rotate_left
    · simp only [Act.put, List.setIfInBounds_toArray, List.set_cons_zero, List.set_cons_succ, i64_w, i32_w]
      rfl
    refine pure_ (i := 13) (N := some 89) (v := ?_) (a' := ?_) #[true, true, true, true, true, true, true, true, true, true, true, true, true, true, false, false, false, false, false, false] rfl rfl (by kernel_rfl) (fun _ _ _ h => h) (Or.inl ⟨by rfl, ?_⟩) ?_ ?_
    rotate_left
    · intro w'
      go_simp
      with_reducible rfl
    rotate_left
    · simp only [Act.put, List.setIfInBounds_toArray, List.set_cons_zero, List.set_cons_succ, i64_w, i32_w]
      rfl
    refine pure_ (i := 14) (N := some 90) (v := ?_) (a' := ?_) #[true, true, true, true, true, true, true, true, true, true, true, true, true, true, true, false, false, false, false, false] rfl rfl (by kernel_rfl) (fun _ _ _ h => h) (Or.inl ⟨by rfl, ?_⟩) ?_ ?_
    rotate_left
    · intro w'
      go_simp
      with_reducible rfl
    rotate_left
    · simp only [Act.put, List.setIfInBounds_toArray, List.set_cons_zero, List.set_cons_succ, i64_w, i32_w]
      rfl
    refine take_ (i := 15) (N := some 91) (v := ?_) (a' := ?_) #[true, true, true, true, true, true, true, true, true, true, true, true, true, true, true, true, false, false, false, false] rfl rfl (by kernel_rfl) (fun _ _ _ h => h) (Or.inl ⟨by rfl, ?_⟩) HH.out ?_ ?_
    rotate_left
    · rintro w' s0
      have z0 : w'.cell? ⟨gq.1, i.toNat, none⟩ = some (.int .u8 xi) := cell_same HCX.out (s0.block _ (cell_lt HCX.out))
      clear s0
      go_simp
      with_reducible rfl
    rotate_left
    · simp only [Act.put, List.setIfInBounds_toArray, List.set_cons_zero, List.set_cons_succ, i64_w, i32_w]
      rfl
    refine pure_ (i := 16) (N := some 92) (v := ?_) (a' := ?_) #[true, true, true, true, true, true, true, true, true, true, true, true, true, true, true, true, true, false, false, false] rfl rfl (by kernel_rfl) (fun _ _ _ h => h) (Or.inl ⟨by rfl, ?_⟩) ?_ ?_
    rotate_left
    · intro w'
      go_simp
      with_reducible rfl
    rotate_left
    · simp only [Act.put, List.setIfInBounds_toArray, List.set_cons_zero, List.set_cons_succ, i64_w, i32_w]
      rfl
    refine pure_ (i := 17) (N := some 93) (v := ?_) (a' := ?_) #[true, true, true, true, true, true, true, true, true, true, true, true, true, true, true, true, true, true, false, false] rfl rfl (by kernel_rfl) (fun _ _ _ h => h) (Or.inl ⟨by rfl, ?_⟩) ?_ ?_
    rotate_left
    · intro w'
      go_simp
      with_reducible rfl
    rotate_left
    · simp only [Act.put, List.setIfInBounds_toArray, List.set_cons_zero, List.set_cons_succ, i64_w, i32_w]
      rfl
    refine pure_ (i := 18) (N := some 94) (v := ?_) (a' := ?_) #[true, true, true, true, true, true, true, true, true, true, true, true, true, true, true, true, true, true, true, false] rfl rfl (by kernel_rfl) (fun _ _ _ h => h) (Or.inl ⟨by rfl, ?_⟩) ?_ ?_
    rotate_left
    · intro w'
      go_simp
      with_reducible rfl
    rotate_left
    · simp only [Act.put, List.setIfInBounds_toArray, List.set_cons_zero, List.set_cons_succ, i64_w, i32_w]
      rfl
    refine last_ (i := 19) (N := none) #[true, true, true, true, true, true, true, true, true, true, true, true, true, true, true, true, true, true, true, true] rfl rfl (by kernel_rfl) (by decide) (fun K hK => ?_)
    have zf : w11.frozen? ⟨gq.1, i.toNat, none⟩ = false := (blk_below HFZ.out.choose_spec.1 HH.out |> fun h => blk_frozen h i.toNat)
    have zc : w11.cell? ⟨gq.1, i.toNat, none⟩ = some (.int .u8 xi) := cell_same HCX.out (HH.out.block _ (cell_lt HCX.out))
    refine skip_ (w1 := w11.setCell ⟨gq.1, i.toNat, none⟩ (.int .u8 (Go.bits .xor .u8 xi a4))) (by rfl) rfl (by go_simp) ?_
    refine hK.out _ _ ?_
    clear hK K zf zc
    refine norm_ (a' := ?_) ?_ ?_
    rotate_left
    · rfl
    refine done_ (by kernel_rfl) ?_
    obtain ⟨u, hu⟩ : ∃ u, Go.bits .xor .u8 xi a4 = u := ⟨_, rfl⟩
    have hune : u ≠ xi := by rw [← hu]; exact xor_ne hx255 H4.out HZ.out
    have hub := xor8 xi a4
    rw [hu] at hub ⊢
    have HGG : ghas (.slice (some ⟨ogp, 0, none⟩) px.length rp) gs gq.1 := .inr ⟨gq.2, List.mem_of_getElem? HGQ'.out⟩
    have hk11 : Kept w11 (w11.setCell ⟨gq.1, i.toNat, none⟩ (.int .u8 u)) (fun k => k = gq.1) := ⟨by simp [World.setCell], fun k _ hn => Below.heap_setCell w11 ⟨gq.1, i.toNat, none⟩ _ k hn⟩
    have hgs := (GR.out.below HH.out).set_ HGQ'.out (show i.toNat < 256 by omega) u
    rw [HXBE.out] at hgs
    obtain ⟨y, hy⟩ : ∃ y, xb.set i.toNat u = y := ⟨_, rfl⟩
    rw [hy] at hgs
    have HYY : Aside0 (Bytes y ∧ y.length = 256) := ⟨by
      rw [← hy, List.length_set]
      exact ⟨fun z hz => (List.mem_or_eq_of_mem_set hz).elim (HXB.out z) (fun e => by rw [e]; exact hub), HXBL.out⟩⟩
    have HYN : Aside0 (y ≠ px.getD q.toNat []) := ⟨by
      rw [HXBE.out, ← hy]
      exact set_ne (by rw [HXBL.out]; omega) (by rw [HXI.out]; exact hune)⟩
    have HYB : Aside0 (∀ x ∈ px.set q.toNat y, Bytes x) := ⟨fun x hx => (List.mem_or_eq_of_mem_set hx).elim (fun h => (HPB.out x h).1) (fun e => by rw [e]; exact HYY.out.1)⟩
    have HYL : Aside0 (∀ x ∈ px.set q.toNat y, x.length = 256) := ⟨fun x hx => (List.mem_or_eq_of_mem_set hx).elim (fun h => (HPB.out x h).2) (fun e => by rw [e]; exact HYY.out.2)⟩
    have HIN : Aside0 (Inp (pq ++ cps bl px px.length)) := ⟨inp_append HIP.out (cps_inp bl px (fun b hb => (HPB.out b hb).1) (fun b hb => (HPB.out b hb).2) _)⟩
    replace G15 := Aside0.mk (blk_kept (blk_below G15.out HH.out) hk11 (fun e => HG15.out _ HGG e.symm))
    replace HL2 := Aside0.mk ((HL2.out.below HH.out).kept hk11 (fun k hk e => HN2.out gq.1 HGG (by rw [← e]; exact hk)))
    replace BQ := Aside0.mk ((BQ.out.trans (HH.out.mono BQ.out.size)).setCell (p := ⟨gq.1, i.toNat, none⟩) (HGQ.out _ HGG) (.int .u8 u))
    replace GR := Aside0.mk hgs
    have ht := turned (P :: ls.length :: L0) P H r2 px R q.toNat y HGD.out (by omega) HYY.out.2
    clear HH hk11 hgs HGG HFZ HCX HHD hqt hit hune hu
    generalize w11.setCell ⟨gq.1, i.toNat, none⟩ (.int .u8 u) = w12 at G15 HL2 BQ GR ⊢
    rw [HBE.out] at ht
    -- CUT 8
    go_wp2_with (first
      | (refine wpList_load_row rfl 25 (.tmp 11) rfl g11 rfl 25 (planCells P 4 ls.length (.slice LA L0.length lc) X.length H 1 a7 a8 a9) _ _ (blk_below G11.out BQ.out) Tryd.underlying25 rfl Tryd.infoPlan ?_)
      | (refine gate_load32 15 g15 R HRL.out rfl rfl rfl G15.out ?_))
    have hcc := check_calls (some gl) S2 (pq ++ cps bl px px.length) P ls.length X.length H 1 a7 a8 a9 L0 LA lc r2 (some ⟨ogp, 0, none⟩) rp (px.set q.toNat y) R w12 HL2.out (Tab.below HT.out (BEL.out.trans (BQ.out.mono BEL.out.size))) HPL.out (fun W' hk => low_C64 HLV.out (fun b hb => (hk.2 b (by have := BQ.out.size; omega) (fun h => by have := HS2.out b h; omega)).trans (BQ.out.block b hb))) HLC.out (RD.of_G GR.out HN2.out) HYB.out HRL.out (by rw [List.length_set]; omega) (by rw [List.length_append, cps_length]; have := HPQ.out; omega) (by have := HPG.out; have := HPP.out; omega)
    rw [List.length_set, HBE.out] at hcc
    -- CUT 9
    rcases ht with hc | ⟨hc, hd⟩
    · rw [hc] at hcc
      refine hcc.mono ?_
      clear hcc
      rintro e w13 ⟨rfl, m, ⟨S3, hL3, hS3, hO3⟩, hm⟩
      have HL3 := Aside0.mk hL3
      have BE := Aside0.mk (BEL.out.trans ((BQ.out.trans (hO3.to_below' (n := wq.heap.size) BQ.out.size HS2.out)).mono BEL.out.size))
      clear hL3 hS3 hO3 hm hc
      go_wp2_with fail
      refine (clash_calls gl S3 _ w13 HL3.out (inp_ok (inp_append HIN.out (cps_inp bl _ HYB.out HYL.out _)))).mono ?_
      rintro e w14 ⟨va, vb, b, rfl, hcl, hb14⟩
      replace BE := Aside0.mk (BE.out.trans (hb14.mono BE.out.size))
      clear hb14 hcl
      go_wp2_with fail
      refine (awake_calls _ (Tab.below HT.out BE.out)).mono ?_
      rintro e w15 ⟨rfl, hb15⟩
      replace BE := Aside0.mk (BE.out.trans (hb15.mono BE.out.size))
      clear hb15
      go_wp2
      go_ret
      exact ⟨rfl, BE.out⟩
    · rw [hc] at hcc
      refine hcc.mono ?_
      clear hcc
      rintro e w13 ⟨rfl, m, ⟨S3, hL3, hS3, hO3⟩, hm⟩
      obtain rfl := hm rfl
      have HCL := Aside0.mk (clash_of bl px q.toNat y (by omega) HYN.out hd pq)
      have HL3 := Aside0.mk hL3
      have BE := Aside0.mk (BEL.out.trans ((BQ.out.trans (hO3.to_below' (n := wq.heap.size) BQ.out.size HS2.out)).mono BEL.out.size))
      clear hL3 hS3 hO3 hm hc
      go_wp2_with fail
      refine (clash_calls gl S3 _ w13 HL3.out (inp_ok (inp_append HIN.out (cps_inp bl _ HYB.out HYL.out _)))).mono ?_
      rintro e w14 ⟨va, vb, b, rfl, hcl, hb14⟩
      obtain rfl := hcl HCL.out
      replace BE := Aside0.mk (BE.out.trans (hb14.mono BE.out.size))
      clear hb14 hcl
      go_wp2_with fail
      refine (awake_calls _ (Tab.below HT.out BE.out)).mono ?_
      rintro e w15 ⟨rfl, hb15⟩
      replace BE := Aside0.mk (BE.out.trans (hb15.mono BE.out.size))
      clear hb15
      go_wp2
      go_ret
      exact ⟨rfl, BE.out⟩
end Go.Proofs.YtgmdgkanfhoahaaDoor.LawP
