/- The law TreeBuilds: true. -/
import Derived.Test.YtgmdgkanfhoahaaDoorAllP
import Derived.Test.YtgmdgkanfhoahaaDoorWGuard
namespace Go.Proofs.YtgmdgkanfhoahaaDoor.LawB
open Go.RowKit Go.Proofs.YtgmdgkanfhoahaaDoor.ShaPure Go.Proofs.YtgmdgkanfhoahaaDoor.ShaBlk Go.Proofs.YtgmdgkanfhoahaaDoor.ShaWrite Go.Proofs.YtgmdgkanfhoahaaDoor.ShaSum Go.Proofs.YtgmdgkanfhoahaaDoor.ShaEnd Go.Proofs.YtgmdgkanfhoahaaDoor.ShaOf Go.Proofs.YtgmdgkanfhoahaaDoor.BytesW Go.Proofs.YtgmdgkanfhoahaaDoor.Put Go.Proofs.YtgmdgkanfhoahaaDoor.LogW Go.Proofs.YtgmdgkanfhoahaaDoor.Dig Go.Proofs.YtgmdgkanfhoahaaDoor.Hdr Go.Proofs.YtgmdgkanfhoahaaDoor.Above Go.Proofs.YtgmdgkanfhoahaaDoor.Build Go.Proofs.YtgmdgkanfhoahaaDoor.BuildW Go.Proofs.YtgmdgkanfhoahaaDoor.BuildE Go.Proofs.YtgmdgkanfhoahaaDoor.Kid Go.Proofs.YtgmdgkanfhoahaaDoor.AwakeA Go.Proofs.YtgmdgkanfhoahaaDoor.Awake Go.Proofs.YtgmdgkanfhoahaaDoor.PlanP Go.Proofs.YtgmdgkanfhoahaaDoor.GRow Go.Proofs.YtgmdgkanfhoahaaDoor.Small Go.Proofs.YtgmdgkanfhoahaaDoor.All Go.Proofs.YtgmdgkanfhoahaaDoor.AllP Go.Proofs.YtgmdgkanfhoahaaDoor.CheckT Go.Proofs.YtgmdgkanfhoahaaDoor.PTreePaths Go.Proofs.YtgmdgkanfhoahaaDoorW.PrintWords Go.Proofs.YtgmdgkanfhoahaaDoorW.PrintLast Go.Proofs.YtgmdgkanfhoahaaDoorW.PrintMore
set_option linter.unusedVariables false
set_option linter.unusedSimpArgs false

/-- A row of blocks, whose headers stand at the head of block og. -/
def LR (w : World) (og : Nat) (bs : List (List Int)) : Prop :=
  bs.length ≤ 9223372036854775807 ∧ ∃ cur, w.heap[og]? = some (.cells cur 22 (0, 0)) ∧ ∀ i, i < bs.length → ∃ g, cur[i]? = some (ghd g) ∧ GB w g (bs.getD i []) ∧ g.1 ≠ og
theorem LR.below {w w' : World} {og : Nat} {bs : List (List Int)} (h : LR w og bs) (hb : Below w.heap.size w w') : LR w' og bs := by
  obtain ⟨hm, cur, hc, hi⟩ := h
  refine ⟨hm, cur, (hb.block _ (blk_lt hc)).trans hc, fun i h => ?_⟩
  obtain ⟨g, h1, h2, h3⟩ := hi i h
  exact ⟨g, h1, h2.same (hb.block _ h2.lt), h3⟩
theorem rows_of {w : World} {base : Nat} {ok : Nat → Prop} {v : Value} {bs : List (List Int)} (h : BB.R 22 w base ok v bs) (hp : 0 < bs.length) (hl : ∀ b ∈ bs, b.length = 256) :
    ∃ og c, v = .slice (some ⟨og, 0, none⟩) bs.length c ∧ bs.length ≤ c ∧ base ≤ og ∧ BB.C w (some ⟨og, 0, none⟩) bs.length bs ∧ LR w og bs := by
  obtain ⟨og, c, rfl, hbase, hlt, cur, hcur⟩ := Kd.R_form h hp
  obtain ⟨-, hc, hC⟩ := Kd.R_reads' h
  refine ⟨og, c, rfl, hc, hbase, hC, Kd.C_max hC, cur, hcur, fun i hi => ?_⟩
  obtain ⟨cs, -, ⟨v1, rfl, hR⟩, hcell, -⟩ := Kd.R_elem h [] (i : Int) (by omega) (by omega)
  obtain ⟨g, rfl, hg, -⟩ := GB_of_R hR (by
    rw [List.getD_eq_getElem?_getD, List.getElem?_eq_getElem (by omega)]
    exact hl _ (List.getElem_mem (by omega)))
  refine ⟨g, ?_, hg, (hR.1 g.1 rfl).2⟩
  have h1 := hcell 0 (ghd g) rfl
  rw [show ((i : Int).toNat * BB.sz + 0) = i from Nat.mul_one i, blk_cell hcur] at h1
  exact h1
theorem take_getD {n j : Nat} (x : List Int) (hj : j < n) : (x.take n).getD j 0 = x.getD j 0 := by
  rw [List.getD_eq_getElem?_getD, List.getD_eq_getElem?_getD, List.getElem?_take, if_pos hj]
/-- One header turned into one that is shorter. -/
theorem LR.cut {w : World} {og : Nat} {bs : List (List Int)} (h : LR w og bs) {k n : Nat} (hk : k < bs.length) (hn : n ≤ 256) :
    ∃ g : Nat × Nat, 256 ≤ g.2 ∧ w.cell? ⟨og, k, none⟩ = some (.slice (some ⟨g.1, 0, none⟩) 256 g.2) ∧ w.frozen? ⟨og, k, none⟩ = false ∧ RD (w.setCell ⟨og, k, none⟩ (.slice (some ⟨g.1, 0, none⟩) n g.2)) (fun _ => False) (some ⟨og, 0, none⟩) (bs.set k ((bs.getD k []).take n)) := by
  obtain ⟨hm, cur, hc, hi⟩ := h
  obtain ⟨g, hg1, hg2, hg3⟩ := hi k hk
  have hks : k < cur.size := (Array.getElem?_eq_some_iff.1 hg1).1
  refine ⟨g, hg2.2.1, (blk_cell hc k).trans hg1, blk_frozen hc k, by rw [List.length_set]; exact hm, fun i hi' => ?_⟩
  rw [List.length_set] at hi'
  obtain ⟨gi, h1, h2, h3⟩ := hi i hi'
  have hset := blk_set hc k (.slice (some ⟨g.1, 0, none⟩) n g.2)
  have hsz : ∀ (u : Value) (b : Nat), b < w.heap.size → b < (w.setCell ⟨og, k, none⟩ u).heap.size := fun u b hb => by
    have := ((Below.refl 0 w).setCell (p := ⟨og, k, none⟩) (Nat.zero_le _) u).size
    omega
  by_cases hik : i = k
  · subst hik
    obtain rfl : gi = g := by
      have := h1.symm.trans hg1
      simpa [ghd, Prod.ext_iff] using this
    have hx : (bs.set i ((bs.getD i []).take n)).getD i [] = (bs.getD i []).take n := by
      rw [List.getD_eq_getElem?_getD, List.getElem?_set_self hi', Option.getD_some]
    have hxl : ((bs.getD i []).take n).length = n := by rw [List.length_take, h2.1]; omega
    refine ⟨⟨og, 0, none⟩, some ⟨gi.1, 0, none⟩, gi.2, rfl, by rw [hx, hxl]; have := h2.2.1; omega, fun W' hk' => ?_⟩
    rw [hx, hxl]
    have hG : GB W' gi (bs.getD i []) := h2.same ((hk'.2 _ (hsz _ _ h2.lt) (fun hf => hf)).trans (Below.heap_setCell w _ _ _ h3))
    have hr := Kd.reads_of_C (enc := Value.int .u8) (d := (0 : Int)) (h1 := fun _ => rfl) hG.C
    refine ⟨Kd.C_of_reads (enc := Value.int .u8) (d := (0 : Int)) (h1 := fun _ => rfl) ⟨hxl, by omega, fun hn' => ?_⟩, ?_⟩
    · obtain ⟨ad, e, hcl⟩ := hr.2.2 (by omega)
      refine ⟨ad, e, fun j hj => ?_⟩
      rw [hcl j (by omega), take_getD _ hj]
    · rw [ShaWrite.add_at, blk_cell ((hk'.2 _ (hsz _ _ (blk_lt hc)) (fun hf => hf)).trans hset) i]
      rw [Array.getElem?_setIfInBounds, if_pos rfl, if_pos hks]
  · have hx : (bs.set k ((bs.getD k []).take n)).getD i [] = bs.getD i [] := by
      rw [List.getD_eq_getElem?_getD, List.getElem?_set_ne (fun e => hik e.symm), ← List.getD_eq_getElem?_getD]
    refine ⟨⟨og, 0, none⟩, some ⟨gi.1, 0, none⟩, gi.2, rfl, by rw [hx, h2.1]; exact h2.2.1, fun W' hk' => ?_⟩
    rw [hx, h2.1]
    have hG : GB W' gi (bs.getD i []) := h2.same ((hk'.2 _ (hsz _ _ h2.lt) (fun hf => hf)).trans (Below.heap_setCell w _ _ _ h3))
    refine ⟨hG.C, ?_⟩
    rw [ShaWrite.add_at, blk_cell ((hk'.2 _ (hsz _ _ (blk_lt hc)) (fun hf => hf)).trans hset) i]
    rw [Array.getElem?_setIfInBounds, if_neg (fun e => hik e.symm)]
    exact h1
theorem xor8 (a b : Int) : 0 ≤ Go.bits .xor .u8 a b ∧ Go.bits .xor .u8 a b ≤ 255 := by
  unfold Go.bits
  rw [IntKind.wrap_u8]
  omega
theorem ev_diff32 (a : List Int) (ha : a.length = 32) {o : Oper} {ev : Operand → Value} (w : World) (x y : Operand) (t : TypeId) (ho : o.op = .binOp .neq 29 x y t) (hx : ev x = .agg (nums .u8 a).toArray) (hy : ev y = .agg (nums .u8 a).toArray) :
    (execOp ev o).run Tryd.prog w = .ok (.value (.bool false)) w := by
  rw [ev_neq32 a a ha ha w x y t ho hx hy, beq_self_eq_true]
  rfl
section
variable {P : Program} {ops : Array Oper} {rest : List Oper} {o : Oper} {a : Act} {Q : Exit → Act → World → Prop} {W W1 : World}
theorem gate_val {v : Value} (hw : Region.wanted o (yielded ops a.tmps) = true) (hrun : (execOp a.eval o).run P W = .ok (.value v) W1) (h : wpList P ops Q rest (a.put o.dst v) W1) : wpList P ops Q (o :: rest) a W :=
  wpList_step (fun K hK => event_step hw hrun (hK _ _ h))
end
/-- Build with a new log. -/
theorem build_new (gl : Nat) (P N H a7 a8 a9 : Int) (nl : Nat) (LA : Option Addr) (lc : Nat) (A : Option Addr) (c : Nat) (bs X : List (List Int)) (R : List Int) (W : World) (B : Nat)
    (hL : Lg W (some gl) (fun k => k = gl) []) (hT : Tab W) (hC : RD W (fun k => k = gl) A bs) (hby : ∀ b ∈ bs, Bytes b) (hl : ∀ b ∈ bs, b.length = 256) (hbs : bs.length ≤ 1000) (hP0 : 0 ≤ P) (hP1 : P ≤ 100000) (hk0 : 0 < nl) (hk1 : nl ≤ 100)
    (h1 : (upN P bs nl).2.2.length = 1) (hX : (upN P bs nl).1 = X) (hR : dig (upN P bs nl).2.1 ((upN P bs nl).2.2.getD 0 []) = R) (hB : B ≤ W.heap.size) (hg : B ≤ gl) :
    Calls Tryd.prog 7 #[ptr (some gl), .agg (planCells P 4 bs.length (.slice LA nl lc) N H 1 a7 a8 a9), .slice A bs.length c] W fun e w' => ∃ RA rc gs, e = .returned (.tuple #[.slice RA X.length rc, .agg (nums .u8 R).toArray, .int .i64 0]) ∧ HRows w' (.slice RA X.length rc) gs X ∧ (∀ k, has (.slice RA X.length rc) gs k → W.heap.size ≤ k) ∧ Below B W w' ∧ Kept W w' (fun k => k = gl) := by
  refine (build_calls (some gl) (fun k => k = gl) [] P 4 N H 1 a7 a8 a9 LA nl lc A c bs W hL hT hC hby hl hbs (by decide) hP0 hP1 hk0 hk1 h1).mono ?_
  rintro e w' ⟨RA, rc, gs, S', rfl, hH, -, -, hO, hn⟩
  rw [hX] at hH
  rw [hR]
  have hlen := hH.len
  rw [← hlen] at hH hn ⊢
  exact ⟨RA, rc, gs, rfl, hH, fun k hk => (hn k hk).1, hO.to_below' hB (fun k hk => by rw [hk]; exact hg), hO.kept⟩
theorem sum_pos (l : List Int) (h : ∀ x ∈ l, 0 ≤ x) : 0 ≤ l.sum := by
  induction l with
  | nil => simp
  | cons y r ih =>
    have h1 := ih (fun x hx => h x (List.mem_cons_of_mem _ hx))
    have h2 := h y List.mem_cons_self
    rw [List.sum_cons]
    omega
theorem Tryd.infoD' (Z : List Int) (h : Z.length = 32) : (Tryd.prog.info? 29).map (·.size) = some (nums .u8 Z).toArray.size := by rw [Tryd.infoD, List.size_toArray, nums, List.length_map, h]
theorem one32 (Z : List Int) : (nums .u8 Z).toArray.all (·.oneCell') = true := by simp [nums, Value.oneCell']
theorem size32 (Y Z : List Int) (h : Y.length = 32) (h' : Z.length = 32) : (nums .u8 Y).toArray.size = (nums .u8 Z).toArray.size := by rw [List.size_toArray, List.size_toArray, nums, nums, List.length_map, List.length_map, h, h']
theorem st32 (W : World) (D : List Int) : Below W.heap.size W ((W.alloc (.cells (nums .u8 (List.replicate 32 0)).toArray 29 (0, 0))).setRow W.heap.size (nums .u8 D).toArray) := (below_alloc (Below.refl _ _) _).trans ⟨rfl, rfl, rfl, by rw [setRow_size]; exact Nat.le_refl _, fun k hk => setRow_other _ _ _ _ (by omega)⟩
theorem sb32 (W : World) (D : List Int) : ((W.alloc (.cells (nums .u8 (List.replicate 32 0)).toArray 29 (0, 0))).setRow W.heap.size (nums .u8 D).toArray).heap[W.heap.size]? = some (.cells (nums .u8 D).toArray 29 (0, 0)) := setRow_heap _ W.heap.size _ _ _ _ (blk_new W _)
theorem ev_zero32 (Z : List Int) (hZ : List.replicate 32 0 = Z) {o : Oper} {ev : Operand → Value} (w : World) (x y : Operand) (t : TypeId) (ho : o.op = .binOp .eql 29 x y t) (hx : ev x = .agg (nums .u8 Z).toArray) (hy : ev y = .agg (nums .u8 (List.replicate 32 0)).toArray) :
    (execOp ev o).run Tryd.prog w = .ok (.value (.bool true)) w := by
  subst hZ
  rw [ev_eql32 _ _ List.length_replicate List.length_replicate w x y t ho hx hy, beq_self_eq_true]
section
variable {ops : Array Oper} {rest : List Oper} {o : Oper} {a : Act} {Q : Exit → Act → World → Prop} {W : World} {ty : TypeId}
theorem gate_load32 (x g : Nat) (Z : List Int) (hZ : Z.length = 32) (hw : Region.wanted o (yielded ops a.tmps) = true) (ho : o.op = .load 29 (.tmp x)) (hx : a.eval (.tmp x) = .pointer (some ⟨g, 0, none⟩)) (hb : W.heap[g]? = some (.cells (nums .u8 Z).toArray 29 (0, 0)))
    (h : wpList Tryd.prog ops Q rest (a.put o.dst (.agg (nums .u8 Z).toArray)) W) : wpList Tryd.prog ops Q (o :: rest) a W :=
  gate_val hw (ev_load_row 29 (.tmp x) ho g hx 29 (nums .u8 Z).toArray (0, 0) _ hb Tryd.underlying29 rfl (Tryd.infoD' Z hZ)) h
theorem gate_zero32 (x y : Nat) (Z : List Int) (hZ : List.replicate 32 0 = Z) (hw : Region.wanted o (yielded ops a.tmps) = true) (ho : o.op = .binOp .eql 29 (.tmp x) (.tmp y) ty) (hx : a.eval (.tmp x) = .agg (nums .u8 Z).toArray) (hy : a.eval (.tmp y) = .agg (nums .u8 (List.replicate 32 0)).toArray)
    (h : wpList Tryd.prog ops Q rest (a.put o.dst (.bool true)) W) : wpList Tryd.prog ops Q (o :: rest) a W :=
  gate_val hw (ev_zero32 Z hZ W (.tmp x) (.tmp y) ty ho hx hy) h
end
set_option maxHeartbeats 8000000 in
set_option maxRecDepth 100000 in
theorem law_builds (a0 a2 : Int) (FA : Option Addr) (fc : Nat) (fill : List Int) (w : World) (hT : Tab w) (hC : Kd.C (Kd.int .u8) w FA fill.length fill) (hfc : fill.length ≤ fc) (hby : Bytes fill)
    (h00 : -9223372036854775808 ≤ a0) (h01 : a0 ≤ 9223372036854775807) (h20 : -9223372036854775808 ≤ a2) (h21 : a2 ≤ 9223372036854775807) :
    Calls Tryd.prog 3 #[.int .i64 a0, .slice FA fill.length fc, .int .i64 a2] w fun e w' => e = .returned (.bool true) ∧ Below w.heap.size w w' := by
  obtain ⟨k, P, ls, hmv, hP0, hP1, hll, hls⟩ := made_val a0 fill hby (Kd.C_max hC) xor8 h00 h01
  obtain ⟨C, hC1⟩ : ∃ C, (P + 15) / 16 = C := ⟨_, rfl⟩
  have hpl := plan_ok P hP0 hP1
  rw [hC1] at hmv hpl hll
  obtain ⟨L0, hL0⟩ : ∃ L, levels C = L := ⟨_, rfl⟩
  rw [hL0] at hmv hpl
  obtain ⟨N, hN⟩ : ∃ N, L0.sum = N := ⟨_, rfl⟩
  rw [hN] at hmv hpl
  obtain ⟨H, hH⟩ : ∃ H, P + C + N = H := ⟨_, rfl⟩
  rw [hH] at hmv hpl
  obtain ⟨a7, h7⟩ : ∃ x, H + 1 = x := ⟨_, rfl⟩
  obtain ⟨a8, h8⟩ : ∃ x, H + 5 = x := ⟨_, rfl⟩
  obtain ⟨a9, h9⟩ : ∃ x, H + 9 = x := ⟨_, rfl⟩
  rw [h7, h8, h9] at hmv
  obtain ⟨bl1, bl2, bl3, bl4, bl5⟩ := builds_law P ls hP0 hP1 C hC1 hll L0 hL0 N hN H hH hpl
  have HBL := Aside0.mk bl1
  obtain ⟨X, hX⟩ : ∃ X, (upN P ls L0.length).1 = X := ⟨_, rfl⟩
  obtain ⟨RB, hRB⟩ : ∃ RB, (upN P ls L0.length).2.2.getD 0 [] = RB := ⟨_, rfl⟩
  rw [hX] at bl2 bl4 bl5
  rw [hRB] at bl5
  obtain ⟨R, hR⟩ : ∃ R, dig (H - 1) RB = R := ⟨_, rfl⟩
  have HRL : Aside0 (R.length = 32) := ⟨by rw [← hR]; exact dig_length _ _⟩
  have HRD : Aside0 (dig (upN P ls L0.length).2.1 ((upN P ls L0.length).2.2.getD 0 []) = R) := ⟨by rw [bl3, hRB]; exact hR⟩
  have HRE : Aside0 (dig (H - 1) RB = R) := ⟨hR⟩
  have HX := Aside0.mk hX
  have HAB : Aside0 (∀ b ∈ ls ++ X, Bytes b) := ⟨by
    rw [← bl2]
    refine allN_bytes _ _ _ (fun x hx => ?_) _
    rcases List.mem_append.1 hx with h | h
    · exact (hls x h).2
    · rw [List.eq_of_mem_replicate h]
      exact z256_bytes⟩
  have HSUM := Aside0.mk hH
  have HAL := Aside0.mk bl2
  have HLAST := Aside0.mk bl5
  have HXN : Aside0 (X.length = N.toNat) := ⟨bl4⟩
  subst hll
  have hbd := hpl.chain.bound
  have hN0 : 1 ≤ N := by
    have h1 := hpl.len.2
    have h2 : ∀ x ∈ L0, 1 ≤ x := fun x hx => (hbd x (List.mem_cons_of_mem _ (List.mem_cons_of_mem _ hx))).1
    rw [← hN]
    cases L0 with
    | nil => simp at h1
    | cons y r =>
      have h3 := sum_pos r (fun x hx => by have := h2 x (List.mem_cons_of_mem _ hx); omega)
      have := h2 y List.mem_cons_self
      rw [List.sum_cons]
      omega
  have HN := Aside0.mk (And.intro hN0 hN)
  have HHH : Aside0 (1 ≤ H ∧ H ≤ 1000000) := by
    refine ⟨by omega, ?_⟩
    have h1 := hpl.len.1
    have h2 : ∀ x ∈ L0, x ≤ 4096 := fun x hx => (hbd x (List.mem_cons_of_mem _ (List.mem_cons_of_mem _ hx))).2
    have h3 : ∀ (l : List Int), (∀ x ∈ l, x ≤ 4096) → l.sum ≤ 4096 * l.length := by
      intro l
      induction l with
      | nil => intro _; simp
      | cons y r ih =>
        intro hy
        have h4 := ih (fun x hx => hy x (List.mem_cons_of_mem _ hx))
        have h5 := hy y List.mem_cons_self
        rw [List.sum_cons, List.length_cons]
        push_cast
        omega
    have h4 := h3 L0 h2
    have h5 : (ls.length : Int) ≤ 4096 := (hbd _ (List.mem_cons_of_mem _ List.mem_cons_self)).2
    omega
  have HLS : Aside0 (∀ b ∈ ls, b.length = 256) := ⟨fun b hb => (hls b hb).1⟩
  have HLB : Aside0 (∀ b ∈ ls, Bytes b) := ⟨fun b hb => (hls b hb).2⟩
  have hln : 1 ≤ ls.length ∧ ls.length ≤ 1000 := by omega
  have HLN := Aside0.mk hln
  have HPP : Aside0 (1 ≤ P ∧ P ≤ 300) := ⟨⟨hP0, hP1⟩⟩
  have HPL := Aside0.mk hpl
  have HMV := Aside0.mk hmv
  have HT := Aside0.mk hT
  have HC := Aside0.mk hC
  have HFC := Aside0.mk hfc
  obtain ⟨r, hr, hr0, hr1⟩ := pick_val a2 ls.length (by omega) (by omega) h20 h21
  have HPK := Aside0.mk hr
  have HR01 := Aside0.mk (And.intro hr0 hr1)
  clear hmv hP0 hP1 hls hC1 hL0 hN hH h7 h8 h9 bl1 bl2 bl3 bl4 bl5 hX hRB hR hbd hN0 hpl hT hC hfc hby h00 h01 h20 h21 hln hr hr0 hr1
  go_enter Tryd.func3, Tryd.ntmps3
  go_wp2_with fail
  refine (thimblelaw18_made.calls k a0 FA fc fill P 4 ls.length L0 N H 1 a7 a8 a9 ls _ HC.out HFC.out HMV.out).mono ?_
  rintro e w1 ⟨lv, v10, rfl, hlv, hS, hb1⟩
  obtain ⟨LA, lc, e3⟩ := Kd.R_slice hlv
  subst e3
  obtain ⟨-, hlc, hLC⟩ := Kd.R_reads' hlv
  obtain ⟨og, cw, e4, hcw, hog, hBC, hLR⟩ := rows_of (Kd.S_R hS) (by have := HLN.out; omega) HLS.out
  subst e4
  have HLC := Aside0.mk hlc
  have HLV := Aside0.mk hLC
  have HCW := Aside0.mk hcw
  have HOG := Aside0.mk hog
  have HBC := Aside0.mk hBC
  have HLR := Aside0.mk hLR
  have BEL := Aside0.mk hb1
  clear hlv hlc hLC hS hcw hog hBC hLR hb1 HMV HC HFC
  go_wp2_with fail
  change Code.wp _ _ _ _ (w1.alloc (.cells (planCells P 4 ls.length (.slice LA L0.length lc) N H 1 a7 a8 a9) 25 (0, 0)))
  have hb3 := below_alloc (Below.refl w1.heap.size w1) (.cells (planCells P 4 ls.length (.slice LA L0.length lc) N H 1 a7 a8 a9) 25 (0, 0))
  have G7 := Aside0.mk (blk_new w1 (.cells (planCells P 4 ls.length (.slice LA L0.length lc) N H 1 a7 a8 a9) 25 (0, 0)))
  replace BEL := Aside0.mk (BEL.out.trans (hb3.mono BEL.out.size))
  replace HLV := Aside0.mk (Kd.C_below HLV.out hb3)
  replace HBC := Aside0.mk (Kd.C_below HBC.out hb3)
  replace HLR := Aside0.mk (HLR.out.below hb3)
  clear hb3
  obtain ⟨g7, hg7⟩ : ∃ g, w1.heap.size = g := ⟨_, rfl⟩
  rw [hg7] at G7 ⊢
  clear hg7
  generalize w1.alloc _ = wq at G7 BEL HLV HBC HLR ⊢
  refine start_ (n := 12) (S := fun w' => Below wq.heap.size wq w') (ds := [10]) #[false, false, false, false, false, false, false, false, false, false, false, false] (by kernel_rfl) rfl rfl (below_drew1 (Below.refl _ _)) (fun hHeld => ?_)
  have HH := Aside0.mk hHeld
  clear hHeld
  generalize wq.drew = w2 at HH ⊢
  refine take_ (i := 1) (N := some 28) (v := ?_) (a' := ?_) #[false, true, false, false, false, false, false, false, false, false, false, false] rfl rfl (by kernel_rfl) (fun _ _ _ h => h) (Or.inl ⟨by rfl, ?_⟩) HH.out ?_ ?_
  rotate_left
  · rintro w' s0
    refine ev_load_row 25 (.tmp 7) ?_ g7 ?_ 25 (planCells P 4 ls.length (.slice LA L0.length lc) N H 1 a7 a8 a9) (0, 0) _ (blk_below G7.out s0) Tryd.underlying25 rfl Tryd.infoPlan <;> rfl
  rotate_left
  · simp only [Act.put, List.setIfInBounds_toArray, List.set_cons_zero, List.set_cons_succ, i64_w, i32_w]
    rfl
  refine pure_ (i := 2) (N := some 29) (v := ?_) (a' := ?_) #[false, true, true, false, false, false, false, false, false, false, false, false] rfl rfl (by kernel_rfl) (fun _ _ _ h => h) (Or.inl ⟨by rfl, ?_⟩) ?_ ?_
  rotate_left
  · intro w'
    go_simp
    with_reducible rfl
  rotate_left
  · simp only [Act.put, List.setIfInBounds_toArray, List.set_cons_zero, List.set_cons_succ, i64_w, i32_w]
    rfl
  refine join_ (σ := Nat × Nat × Option Addr × Nat × List Nat) 3 #[true, true, true, true, true, true, true, true, true, false, false, false] (fun s => [(27, .pointer (some ⟨s.1, 0, none⟩)), (30, .tuple #[.slice s.2.2.1 X.length s.2.2.2.1, .agg (nums .u8 R).toArray, .int .i64 0]), (26, .tuple #[.slice s.2.2.1 X.length s.2.2.2.1, .agg (nums .u8 R).toArray, .int .i64 0]), (31, .slice s.2.2.1 X.length s.2.2.2.1), (32, .agg (nums .u8 R).toArray), (33, .int .i64 0), (10, .pointer (some ⟨s.2.1, 0, none⟩))]) (fun s w' => w'.heap[s.2.1]? = some (.cells (nums .u8 (List.replicate 32 0)).toArray 29 (0, 0)) ∧ Below wq.heap.size wq w' ∧ wq.heap.size ≤ s.2.1 ∧ HRows w' (.slice s.2.2.1 X.length s.2.2.2.1) s.2.2.2.2 X ∧ ¬ has (.slice s.2.2.1 X.length s.2.2.2.1) s.2.2.2.2 s.2.1) ?_ ?_
  rotate_left
  · intro hj
    have HJ := Aside0.mk hj
    clear hj
    refine two_ (i := 0) (j := 8) (Ni := some 27) (Nj := some 10) #[true, true, true, false, false, false, false, false, false, false, false, false] #[false, true, true, false, false, false, false, false, true, false, false, false] rfl rfl rfl rfl (by kernel_rfl) (by decide) (by decide) (fun K hK => ?_) (fun K hK => ?_)
    · refine goes_ Tryd.func8 (by kernel_rfl) rfl #[] (by rfl) rfl rfl (by simp) ?_
      refine (Small.new_calls w2).mono ?_
      rintro e w3 ⟨gl, rfl, hgl, hgb, hb⟩
      refine ⟨_, rfl, ?_⟩
      have hlg := new_log hgl hgb (by have := HT.out.1; have := BEL.out.size; have := HH.out.size; omega)
      have hgq : wq.heap.size ≤ gl := by have := HH.out.size; omega
      have hb' := HH.out.trans (hb.mono HH.out.size)
      refine hK.out _ _ hb' (fun hHeld => ?_)
      clear hK K
      refine norm_ (a' := ?_) ?_ ?_
      rotate_left
      · show Act.put _ (some 27) _ = _
        simp only [Act.put, List.setIfInBounds_toArray, List.set_cons_zero, List.set_cons_succ, i64_w, i32_w]
        rfl
      have HLG := Aside0.mk hlg
      have HGQ := Aside0.mk hgq
      replace HH := Aside0.mk hHeld
      clear hHeld hb' hb hlg hgq hgb
      refine two_ (i := 3) (j := 8) (Ni := some 30) (Nj := some 10) #[true, true, true, true, false, false, false, false, false, false, false, false] #[true, true, true, false, false, false, false, false, true, false, false, false] rfl rfl rfl rfl (by kernel_rfl) (by decide) (by decide) (fun K hK => ?_) (fun K hK => ?_)
      · refine goes_ Tryd.func7 (by kernel_rfl) rfl #[ptr (some gl), .agg (planCells P 4 ls.length (.slice LA L0.length lc) N H 1 a7 a8 a9), .slice (some ⟨og, 0, none⟩) ls.length cw] (by rfl) rfl rfl (by simp only [List.map_toArray, List.map_cons, List.map_nil]; rfl) ?_
        refine (build_new gl P N H a7 a8 a9 L0.length LA lc (some ⟨og, 0, none⟩) cw ls X R w3 wq.heap.size HLG.out (Tab.below HT.out ((BEL.out.trans (HH.out.mono BEL.out.size)).mono (by have := HT.out.1; omega))) (RD.of_C HBC.out HH.out (fun k hk => by rw [hk]; exact HGQ.out)) HLB.out HLS.out (by have := HLN.out; omega) (by have := HPP.out; omega) (by have := HPP.out; omega) (by have := HPL.out.len; omega) (by have := HPL.out.len; omega) HBL.out HX.out HRD.out HH.out.size HGQ.out).mono ?_
        rintro e w4 ⟨RA, rc, gs, rfl, hHR, hhas, hb, hkp⟩
        refine ⟨_, rfl, ?_⟩
        have hb' := HH.out.trans hb
        refine hK.out _ _ hb' (fun hHeld => ?_)
        clear hK K
        refine norm_ (a' := ?_) ?_ ?_
        rotate_left
        · show Act.put _ (some 30) _ = _
          simp only [Act.put, List.setIfInBounds_toArray, List.set_cons_zero, List.set_cons_succ, i64_w, i32_w]
          rfl
        replace HH := Aside0.mk hHeld
        clear hHeld hb hb'
        refine pure_ (i := 4) (N := some 26) (v := ?_) (a' := ?_) #[true, true, true, true, true, false, false, false, false, false, false, false] rfl rfl (by kernel_rfl) (fun _ _ _ h => h) (Or.inl ⟨by rfl, ?_⟩) ?_ ?_
        rotate_left
        · intro w'
          go_simp
          with_reducible rfl
        rotate_left
        · simp only [Act.put, List.setIfInBounds_toArray, List.set_cons_zero, List.set_cons_succ, i64_w, i32_w]
          rfl
        refine pure_ (i := 5) (N := some 31) (v := ?_) (a' := ?_) #[true, true, true, true, true, true, false, false, false, false, false, false] rfl rfl (by kernel_rfl) (fun _ _ _ h => h) (Or.inl ⟨by rfl, ?_⟩) ?_ ?_
        rotate_left
        · intro w'
          go_simp
          with_reducible rfl
        rotate_left
        · simp only [Act.put, List.setIfInBounds_toArray, List.set_cons_zero, List.set_cons_succ, i64_w, i32_w]
          rfl
        refine pure_ (i := 6) (N := some 32) (v := ?_) (a' := ?_) #[true, true, true, true, true, true, true, false, false, false, false, false] rfl rfl (by kernel_rfl) (fun _ _ _ h => h) (Or.inl ⟨by rfl, ?_⟩) ?_ ?_
        rotate_left
        · intro w'
          go_simp
          with_reducible rfl
        rotate_left
        · simp only [Act.put, List.setIfInBounds_toArray, List.set_cons_zero, List.set_cons_succ, i64_w, i32_w]
          rfl
        refine pure_ (i := 7) (N := some 33) (v := ?_) (a' := ?_) #[true, true, true, true, true, true, true, true, false, false, false, false] rfl rfl (by kernel_rfl) (fun _ _ _ h => h) (Or.inl ⟨by rfl, ?_⟩) ?_ ?_
        rotate_left
        · intro w'
          go_simp
          with_reducible rfl
        rotate_left
        · simp only [Act.put, List.setIfInBounds_toArray, List.set_cons_zero, List.set_cons_succ, i64_w, i32_w]
          rfl
        refine one_ (i := 8) (N := some 10) #[true, true, true, true, true, true, true, true, true, false, false, false] rfl rfl (by kernel_rfl) (by decide) (fun K hK => ?_)
        refine value_ (w1 := w4.alloc (.cells (nums .u8 (List.replicate 32 0)).toArray 29 (0, 0))) (v := .pointer (some ⟨w4.heap.size, 0, none⟩)) (by rfl) rfl (by first | (go_simp; done) | (go_simp; rfl)) ?_
        have hn9 := blk_new w4 (.cells (nums .u8 (List.replicate 32 0)).toArray 29 (0, 0))
        have hb9 := below_alloc HH.out (.cells (nums .u8 (List.replicate 32 0)).toArray 29 (0, 0))
        have hba := below_alloc (Below.refl w4.heap.size w4) (.cells (nums .u8 (List.replicate 32 0)).toArray 29 (0, 0))
        have hs9 := HH.out.size
        refine hK.out _ _ hb9 (fun hHeld => ?_)
        clear hK K
        refine norm_ (a' := ?_) ?_ ?_
        rotate_left
        · show Act.put _ (some 10) _ = _
          simp only [Act.put, List.setIfInBounds_toArray, List.set_cons_zero, List.set_cons_succ, i64_w, i32_w]
          rfl
        exact HJ.out (gl, w4.heap.size, RA, rc, gs) _ ⟨hn9, hb9, hs9, hHR.below hba, fun hk => Nat.lt_irrefl _ (hHR.lt (k := w4.heap.size) hk)⟩
      · have hgs9 : gl < w3.heap.size := HLG.out.lt gl rfl
        refine value_ (w1 := w3.alloc (.cells (nums .u8 (List.replicate 32 0)).toArray 29 (0, 0))) (v := .pointer (some ⟨w3.heap.size, 0, none⟩)) (by rfl) rfl (by first | (go_simp; done) | (go_simp; rfl)) ?_
        have hn9 := blk_new w3 (.cells (nums .u8 (List.replicate 32 0)).toArray 29 (0, 0))
        have hb9 := below_alloc HH.out (.cells (nums .u8 (List.replicate 32 0)).toArray 29 (0, 0))
        have hba := below_alloc (Below.refl w3.heap.size w3) (.cells (nums .u8 (List.replicate 32 0)).toArray 29 (0, 0))
        have hs9 := HH.out.size
        refine hK.out _ _ hb9 (fun hHeld => ?_)
        clear hK K
        refine norm_ (a' := ?_) ?_ ?_
        rotate_left
        · show Act.put _ (some 10) _ = _
          simp only [Act.put, List.setIfInBounds_toArray, List.set_cons_zero, List.set_cons_succ, i64_w, i32_w]
          rfl
        clear hHeld
        replace HH := Aside0.mk hb9
        obtain ⟨s9, hq9⟩ : ∃ s9, w3.heap.size = s9 := ⟨_, rfl⟩
        have hlt9 : s9 < (w3.alloc (.cells (nums .u8 (List.replicate 32 0)).toArray 29 (0, 0))).heap.size := blk_lt (by rw [← hq9]; exact hn9)
        try rw [hq9] at hgs9
        rw [hq9] at hn9 hs9 ⊢
        generalize w3.alloc (.cells (nums .u8 (List.replicate 32 0)).toArray 29 (0, 0)) = w4 at HH hn9 hba hlt9 ⊢
        clear hb9
        replace HLG := Aside0.mk (HLG.out.below hba)
        clear hba hq9
        refine one_ (i := 3) (N := some 30) #[true, true, true, true, false, false, false, false, true, false, false, false] rfl rfl (by kernel_rfl) (by decide) (fun K hK => ?_)
        refine goes_ Tryd.func7 (by kernel_rfl) rfl #[ptr (some gl), .agg (planCells P 4 ls.length (.slice LA L0.length lc) N H 1 a7 a8 a9), .slice (some ⟨og, 0, none⟩) ls.length cw] (by rfl) rfl rfl (by simp only [List.map_toArray, List.map_cons, List.map_nil]; rfl) ?_
        refine (build_new gl P N H a7 a8 a9 L0.length LA lc (some ⟨og, 0, none⟩) cw ls X R w4 wq.heap.size HLG.out (Tab.below HT.out ((BEL.out.trans (HH.out.mono BEL.out.size)).mono (by have := HT.out.1; omega))) (RD.of_C HBC.out HH.out (fun k hk => by rw [hk]; exact HGQ.out)) HLB.out HLS.out (by have := HLN.out; omega) (by have := HPP.out; omega) (by have := HPP.out; omega) (by have := HPL.out.len; omega) (by have := HPL.out.len; omega) HBL.out HX.out HRD.out HH.out.size HGQ.out).mono ?_
        rintro e w5 ⟨RA, rc, gs, rfl, hHR, hhas, hb, hkp⟩
        refine ⟨_, rfl, ?_⟩
        have hb' := HH.out.trans hb
        have hn8 : w5.heap[s9]? = some (.cells (nums .u8 (List.replicate 32 0)).toArray 29 (0, 0)) := blk_kept hn9 hkp (by omega)
        refine hK.out _ _ hb' (fun hHeld => ?_)
        clear hK K
        refine norm_ (a' := ?_) ?_ ?_
        rotate_left
        · show Act.put _ (some 30) _ = _
          simp only [Act.put, List.setIfInBounds_toArray, List.set_cons_zero, List.set_cons_succ, i64_w, i32_w]
          rfl
        refine pure_ (i := 4) (N := some 26) (v := ?_) (a' := ?_) #[true, true, true, true, true, false, false, false, true, false, false, false] rfl rfl (by kernel_rfl) (fun _ _ _ h => h) (Or.inl ⟨by rfl, ?_⟩) ?_ ?_
        rotate_left
        · intro w'
          go_simp
          with_reducible rfl
        rotate_left
        · simp only [Act.put, List.setIfInBounds_toArray, List.set_cons_zero, List.set_cons_succ, i64_w, i32_w]
          rfl
        refine pure_ (i := 5) (N := some 31) (v := ?_) (a' := ?_) #[true, true, true, true, true, true, false, false, true, false, false, false] rfl rfl (by kernel_rfl) (fun _ _ _ h => h) (Or.inl ⟨by rfl, ?_⟩) ?_ ?_
        rotate_left
        · intro w'
          go_simp
          with_reducible rfl
        rotate_left
        · simp only [Act.put, List.setIfInBounds_toArray, List.set_cons_zero, List.set_cons_succ, i64_w, i32_w]
          rfl
        refine pure_ (i := 6) (N := some 32) (v := ?_) (a' := ?_) #[true, true, true, true, true, true, true, false, true, false, false, false] rfl rfl (by kernel_rfl) (fun _ _ _ h => h) (Or.inl ⟨by rfl, ?_⟩) ?_ ?_
        rotate_left
        · intro w'
          go_simp
          with_reducible rfl
        rotate_left
        · simp only [Act.put, List.setIfInBounds_toArray, List.set_cons_zero, List.set_cons_succ, i64_w, i32_w]
          rfl
        refine pure_ (i := 7) (N := some 33) (v := ?_) (a' := ?_) #[true, true, true, true, true, true, true, true, true, false, false, false] rfl rfl (by kernel_rfl) (fun _ _ _ h => h) (Or.inl ⟨by rfl, ?_⟩) ?_ ?_
        rotate_left
        · intro w'
          go_simp
          with_reducible rfl
        rotate_left
        · simp only [Act.put, List.setIfInBounds_toArray, List.set_cons_zero, List.set_cons_succ, i64_w, i32_w]
          rfl
        exact HJ.out (gl, s9, RA, rc, gs) _ ⟨hn8, hb', hs9, hHR, fun hk => absurd (hhas s9 hk) (by omega)⟩
    · refine value_ (w1 := w2.alloc (.cells (nums .u8 (List.replicate 32 0)).toArray 29 (0, 0))) (v := .pointer (some ⟨w2.heap.size, 0, none⟩)) (by rfl) rfl (by first | (go_simp; done) | (go_simp; rfl)) ?_
      have hn9 := blk_new w2 (.cells (nums .u8 (List.replicate 32 0)).toArray 29 (0, 0))
      have hb9 := below_alloc HH.out (.cells (nums .u8 (List.replicate 32 0)).toArray 29 (0, 0))
      have hba := below_alloc (Below.refl w2.heap.size w2) (.cells (nums .u8 (List.replicate 32 0)).toArray 29 (0, 0))
      have hs9 := HH.out.size
      refine hK.out _ _ hb9 (fun hHeld => ?_)
      clear hK K
      refine norm_ (a' := ?_) ?_ ?_
      rotate_left
      · show Act.put _ (some 10) _ = _
        simp only [Act.put, List.setIfInBounds_toArray, List.set_cons_zero, List.set_cons_succ, i64_w, i32_w]
        rfl
      clear hHeld
      replace HH := Aside0.mk hb9
      obtain ⟨s9, hq9⟩ : ∃ s9, w2.heap.size = s9 := ⟨_, rfl⟩
      have hlt9 : s9 < (w2.alloc (.cells (nums .u8 (List.replicate 32 0)).toArray 29 (0, 0))).heap.size := blk_lt (by rw [← hq9]; exact hn9)
      try rw [hq9] at hgs9
      rw [hq9] at hn9 hs9 ⊢
      generalize w2.alloc (.cells (nums .u8 (List.replicate 32 0)).toArray 29 (0, 0)) = w3 at HH hn9 hba hlt9 ⊢
      clear hb9
      clear hba hq9
      refine one_ (i := 0) (N := some 27) #[true, true, true, false, false, false, false, false, true, false, false, false] rfl rfl (by kernel_rfl) (by decide) (fun K hK => ?_)
      refine goes_ Tryd.func8 (by kernel_rfl) rfl #[] (by rfl) rfl rfl (by simp) ?_
      refine (Small.new_calls w3).mono ?_
      rintro e w4 ⟨gl, rfl, hgl, hgb, hb⟩
      refine ⟨_, rfl, ?_⟩
      have hlg := new_log hgl hgb (by have := HT.out.1; have := BEL.out.size; have := HH.out.size; omega)
      have hgq : wq.heap.size ≤ gl := by have := HH.out.size; omega
      have hb' := HH.out.trans (hb.mono HH.out.size)
      have hn8 := blk_below hn9 hb
      refine hK.out _ _ hb' (fun hHeld => ?_)
      clear hK K
      refine norm_ (a' := ?_) ?_ ?_
      rotate_left
      · show Act.put _ (some 27) _ = _
        simp only [Act.put, List.setIfInBounds_toArray, List.set_cons_zero, List.set_cons_succ, i64_w, i32_w]
        rfl
      have hlt8 : s9 < w4.heap.size := blk_lt hn8
      have HLG := Aside0.mk hlg
      have HGQ := Aside0.mk hgq
      replace HH := Aside0.mk hHeld
      clear hHeld hb' hb hlg hgq hgb
      refine one_ (i := 3) (N := some 30) #[true, true, true, true, false, false, false, false, true, false, false, false] rfl rfl (by kernel_rfl) (by decide) (fun K hK => ?_)
      refine goes_ Tryd.func7 (by kernel_rfl) rfl #[ptr (some gl), .agg (planCells P 4 ls.length (.slice LA L0.length lc) N H 1 a7 a8 a9), .slice (some ⟨og, 0, none⟩) ls.length cw] (by rfl) rfl rfl (by simp only [List.map_toArray, List.map_cons, List.map_nil]; rfl) ?_
      refine (build_new gl P N H a7 a8 a9 L0.length LA lc (some ⟨og, 0, none⟩) cw ls X R w4 wq.heap.size HLG.out (Tab.below HT.out ((BEL.out.trans (HH.out.mono BEL.out.size)).mono (by have := HT.out.1; omega))) (RD.of_C HBC.out HH.out (fun k hk => by rw [hk]; exact HGQ.out)) HLB.out HLS.out (by have := HLN.out; omega) (by have := HPP.out; omega) (by have := HPP.out; omega) (by have := HPL.out.len; omega) (by have := HPL.out.len; omega) HBL.out HX.out HRD.out HH.out.size HGQ.out).mono ?_
      rintro e w5 ⟨RA, rc, gs, rfl, hHR, hhas, hb, hkp⟩
      refine ⟨_, rfl, ?_⟩
      have hb' := HH.out.trans hb
      have hn7 : w5.heap[s9]? = some (.cells (nums .u8 (List.replicate 32 0)).toArray 29 (0, 0)) := blk_kept hn8 hkp (by omega)
      refine hK.out _ _ hb' (fun hHeld => ?_)
      clear hK K
      refine norm_ (a' := ?_) ?_ ?_
      rotate_left
      · show Act.put _ (some 30) _ = _
        simp only [Act.put, List.setIfInBounds_toArray, List.set_cons_zero, List.set_cons_succ, i64_w, i32_w]
        rfl
      refine pure_ (i := 4) (N := some 26) (v := ?_) (a' := ?_) #[true, true, true, true, true, false, false, false, true, false, false, false] rfl rfl (by kernel_rfl) (fun _ _ _ h => h) (Or.inl ⟨by rfl, ?_⟩) ?_ ?_
      rotate_left
      · intro w'
        go_simp
        with_reducible rfl
      rotate_left
      · simp only [Act.put, List.setIfInBounds_toArray, List.set_cons_zero, List.set_cons_succ, i64_w, i32_w]
        rfl
      refine pure_ (i := 5) (N := some 31) (v := ?_) (a' := ?_) #[true, true, true, true, true, true, false, false, true, false, false, false] rfl rfl (by kernel_rfl) (fun _ _ _ h => h) (Or.inl ⟨by rfl, ?_⟩) ?_ ?_
      rotate_left
      · intro w'
        go_simp
        with_reducible rfl
      rotate_left
      · simp only [Act.put, List.setIfInBounds_toArray, List.set_cons_zero, List.set_cons_succ, i64_w, i32_w]
        rfl
      refine pure_ (i := 6) (N := some 32) (v := ?_) (a' := ?_) #[true, true, true, true, true, true, true, false, true, false, false, false] rfl rfl (by kernel_rfl) (fun _ _ _ h => h) (Or.inl ⟨by rfl, ?_⟩) ?_ ?_
      rotate_left
      · intro w'
        go_simp
        with_reducible rfl
      rotate_left
      · simp only [Act.put, List.setIfInBounds_toArray, List.set_cons_zero, List.set_cons_succ, i64_w, i32_w]
        rfl
      refine pure_ (i := 7) (N := some 33) (v := ?_) (a' := ?_) #[true, true, true, true, true, true, true, true, true, false, false, false] rfl rfl (by kernel_rfl) (fun _ _ _ h => h) (Or.inl ⟨by rfl, ?_⟩) ?_ ?_
      rotate_left
      · intro w'
        go_simp
        with_reducible rfl
      rotate_left
      · simp only [Act.put, List.setIfInBounds_toArray, List.set_cons_zero, List.set_cons_succ, i64_w, i32_w]
        rfl
      exact HJ.out (gl, s9, RA, rc, gs) _ ⟨hn7, hb', hs9, hHR, fun hk => absurd (hhas s9 hk) (by omega)⟩
  rintro ⟨gl, s10, RA, rc, gs⟩ w5 ⟨hP5, hB5, hG5, hR5, hN5⟩
  dsimp only at hP5 hB5 hG5 hR5 hN5 ⊢
  refine norm_ (a' := ?_) ?_ ?_
  rotate_left
  · simp only [putAll, Act.put, List.setIfInBounds_toArray, List.set_cons_zero, List.set_cons_succ, i64_w, i32_w]
    rfl
  refine pure_ (i := 9) (N := some 9) (v := ?_) (a' := ?_) #[true, true, true, true, true, true, true, true, true, true, false, false] rfl rfl (by kernel_rfl) (fun _ _ _ h => h) (Or.inl ⟨by rfl, ?_⟩) ?_ ?_
  rotate_left
  · intro w'
    go_simp
    with_reducible rfl
  rotate_left
  · simp only [Act.put, List.setIfInBounds_toArray, List.set_cons_zero, List.set_cons_succ, i64_w, i32_w]
    rfl
  refine last_ (i := 10) (N := none) #[true, true, true, true, true, true, true, true, true, true, true, false] rfl rfl (by kernel_rfl) (by decide) (fun K hK => ?_)
  refine skip_ (w1 := w5.setRow s10 (nums .u8 R).toArray) (by rfl) rfl (by refine ev_store_row 29 (.tmp 10) (.tmp 32) ?_ s10 (nums .u8 R).toArray ?_ ?_ 29 (nums .u8 (List.replicate 32 0)).toArray hP5 (Tryd.infoD' R HRL.out) (size32 _ _ List.length_replicate HRL.out) (one32 R) <;> rfl) ?_
  refine hK.out _ _ ?_
  clear hK K
  refine norm_ (a' := ?_) ?_ ?_
  rotate_left
  · rfl
  refine pure_ (i := 11) (N := some 11) (v := ?_) (a' := ?_) #[true, true, true, true, true, true, true, true, true, true, true, true] rfl rfl (by kernel_rfl) (fun _ _ _ h => h) (Or.inl ⟨by rfl, ?_⟩) ?_ ?_
  rotate_left
  · intro w'
    go_simp
    with_reducible rfl
  rotate_left
  · simp only [Act.put, List.setIfInBounds_toArray, List.set_cons_zero, List.set_cons_succ, i64_w, i32_w]
    rfl
  refine done_ (by kernel_rfl) ?_
  have G10 := Aside0.mk (setRow_heap w5 s10 _ (nums .u8 R).toArray _ _ hP5)
  have hk5 : Kept w5 (w5.setRow s10 (nums .u8 R).toArray) (fun k => k = s10) := ⟨by rw [setRow_size]; exact Nat.le_refl _, fun i _ hn => setRow_other _ _ _ _ hn⟩
  obtain ⟨RX, rx, e9, hrx, hXC⟩ := (hR5.kept hk5 (fun k hk e => hN5 (e ▸ hk))).reads
  have e9' := Value.slice.inj e9
  have HXC : Aside0 (BB.C (w5.setRow s10 (nums .u8 R).toArray) RA X.length X) := ⟨by rw [e9'.1]; exact hXC⟩
  have HRC : Aside0 (X.length ≤ rc) := ⟨by rw [e9'.2.2]; exact hrx⟩
  have B6 : Aside0 (Below wq.heap.size wq (w5.setRow s10 (nums .u8 R).toArray)) := ⟨hB5.trans ⟨rfl, rfl, rfl, by rw [setRow_size]; exact Nat.le_refl _, fun k hk => setRow_other _ _ _ _ (by omega)⟩⟩
  have HGS := Aside0.mk hG5
  have HXF := Aside0.mk hR5.full
  clear hP5 hB5 hG5 hR5 hN5 hk5 e9 e9' hrx hXC HH
  generalize w5.setRow s10 (nums .u8 R).toArray = w6 at G10 B6 HXC ⊢
  go_wp2_with (refine wpList_load_row rfl 25 (.tmp 7) rfl g7 rfl 25 (planCells P 4 ls.length (.slice LA L0.length lc) N H 1 a7 a8 a9) _ _ (blk_below G7.out B6.out) Tryd.underlying25 rfl Tryd.infoPlan ?_)
  refine (all_calls P ls.length N H 1 a7 a8 a9 L0 LA lc (some ⟨og, 0, none⟩) cw ls w6 HPL.out HN.out.2.symm (Kd.C_below HLV.out B6.out) HLC.out (RD.of_C HBC.out B6.out (fun k h => h.elim)) HLB.out HLS.out rfl).mono ?_
  rw [HAL.out]
  rintro e w7 ⟨RA2, rc2, gs2, rfl, hGR, -, hb7⟩
  obtain ⟨AA, ac, e5, hac, hAC⟩ := hGR.reads
  have HAN : Aside0 ((ls ++ X).length = ls.length + X.length) := ⟨List.length_append⟩
  obtain ⟨na, hna⟩ : ∃ n, (ls ++ X).length = n := ⟨_, rfl⟩
  rw [hna] at HAN e5 hac hAC
  rw [e5]
  have HNA := Aside0.mk hna
  have HAF : Aside0 (∀ b ∈ ls ++ X, b.length = 256) := ⟨fun b hb => (List.mem_append.1 hb).elim (HLS.out b) (HXF.out b)⟩
  obtain ⟨ad, -, -, eA, -⟩ := BB_at hAC 0 (by have := HLN.out; have := HAN.out; omega)
  subst eA
  have hDX := C_dropBB (by rw [hna]; exact hAC) ls.length (by rw [hna]; have := HAN.out; omega)
  rw [List.drop_left, hna, show na - ls.length = X.length by have := HAN.out; omega] at hDX
  have HDX := Aside0.mk hDX
  have HAC := Aside0.mk hAC
  have hXC := Kd.C_below HXC.out hb7
  replace HXC := Aside0.mk hXC
  have HACC := Aside0.mk hac
  have G10' := Aside0.mk (blk_below G10.out hb7)
  have B7 := Aside0.mk (B6.out.trans (hb7.mono B6.out.size))
  clear hGR hb7 e5 hac hAC hna hXC hDX G10 B6
  go_wp2_with fail
  refine start_ (n := 18) (S := fun w' => Below w7.heap.size w7 w') (ds := []) #[false, false, false, false, false, false, false, false, false, false, false, false, false, false, false, false, false, false] (by kernel_rfl) rfl rfl (below_drew1 (Below.refl _ _)) (fun hHeld => ?_)
  have HH := Aside0.mk hHeld
  clear hHeld
  generalize w7.drew = w2 at HH ⊢
  refine pure_ (i := 0) (N := some 37) (v := ?_) (a' := ?_) #[true, false, false, false, false, false, false, false, false, false, false, false, false, false, false, false, false, false] rfl rfl (by kernel_rfl) (fun _ _ _ h => h) (Or.inl ⟨by rfl, ?_⟩) ?_ ?_
  rotate_left
  · intro w'
    go_simp
    with_reducible rfl
  rotate_left
  · simp only [Act.put, List.setIfInBounds_toArray, List.set_cons_zero, List.set_cons_succ, i64_w, i32_w]
    rfl
  refine pure_ (i := 1) (N := some 38) (v := ?_) (a' := ?_) #[true, true, false, false, false, false, false, false, false, false, false, false, false, false, false, false, false, false] rfl rfl (by kernel_rfl) (fun _ _ _ h => h) (Or.inl ⟨by rfl, ?_⟩) ?_ ?_
  rotate_left
  · intro w'
    go_simp
    with_reducible rfl
  rotate_left
  · simp only [Act.put, List.setIfInBounds_toArray, List.set_cons_zero, List.set_cons_succ, i64_w, i32_w]
    rfl
  refine pure_ (i := 2) (N := some 39) (v := ?_) (a' := ?_) #[true, true, true, false, false, false, false, false, false, false, false, false, false, false, false, false, false, false] rfl rfl (by kernel_rfl) (fun _ _ _ h => h) (Or.inl ⟨by rfl, ?_⟩) ?_ ?_
  rotate_left
  · intro w'
    go_simp
    with_reducible rfl
  rotate_left
  · simp only [Act.put, List.setIfInBounds_toArray, List.set_cons_zero, List.set_cons_succ, i64_w, i32_w]
    rfl
  refine pure_ (i := 3) (N := some 40) (v := ?_) (a' := ?_) #[true, true, true, true, false, false, false, false, false, false, false, false, false, false, false, false, false, false] rfl rfl (by kernel_rfl) (fun _ _ _ h => h) (Or.inl ⟨by rfl, ?_⟩) ?_ ?_
  rotate_left
  · intro w'
    go_simp
    with_reducible rfl
  rotate_left
  · simp only [Act.put, List.setIfInBounds_toArray, List.set_cons_zero, List.set_cons_succ, i64_w, i32_w]
    rfl
  refine pure_ (i := 4) (N := some 41) (v := ?_) (a' := ?_) #[true, true, true, true, true, false, false, false, false, false, false, false, false, false, false, false, false, false] rfl rfl (by kernel_rfl) (fun _ _ _ h => h) (Or.inl ⟨by rfl, ?_⟩) ?_ ?_
  rotate_left
  · intro w'
    go_simp
    with_reducible rfl
  rotate_left
  · simp only [Act.put, List.setIfInBounds_toArray, List.set_cons_zero, List.set_cons_succ, i64_w, i32_w]
    rfl
  refine pure_ (i := 5) (N := some 42) (v := ?_) (a' := ?_) #[true, true, true, true, true, true, false, false, false, false, false, false, false, false, false, false, false, false] rfl rfl (by kernel_rfl) (fun _ _ _ h => h) (Or.inl ⟨by rfl, ?_⟩) ?_ ?_
  rotate_left
  · intro w'
    go_simp
    with_reducible rfl
  rotate_left
  · simp only [Act.put, List.setIfInBounds_toArray, List.set_cons_zero, List.set_cons_succ, i64_w, i32_w]
    rfl
  refine take_ (i := 6) (N := some 43) (v := ?_) (a' := ?_) #[true, true, true, true, true, true, true, false, false, false, false, false, false, false, false, false, false, false] rfl rfl (by kernel_rfl) (fun _ _ _ h => h) (Or.inl ⟨by rfl, ?_⟩) HH.out ?_ ?_
  rotate_left
  · rintro w' s0
    have z0 : w'.cell? ⟨g7, 2, none⟩ = some (.int .i64 ls.length) := (blk_cell (blk_below G7.out (B7.out.trans (s0.mono B7.out.size))) 2).trans rfl
    clear s0
    go_simp
    with_reducible rfl
  rotate_left
  · simp only [Act.put, List.setIfInBounds_toArray, List.set_cons_zero, List.set_cons_succ, i64_w, i32_w]
    rfl
  have hA1 : ls.length ≤ na := by have := HAN.out; omega
  have hA2 := HACC.out
  refine pure_ (i := 7) (N := some 44) (v := ?_) (a' := ?_) #[true, true, true, true, true, true, true, true, false, false, false, false, false, false, false, false, false, false] rfl rfl (by kernel_rfl) (fun _ _ _ h => h) (Or.inl ⟨by rfl, ?_⟩) ?_ ?_
  rotate_left
  · intro w'
    go_simp
    with_reducible rfl
  rotate_left
  · simp only [Act.put, List.setIfInBounds_toArray, List.set_cons_zero, List.set_cons_succ, i64_w, i32_w]
    rfl
  rw [if_neg (show ¬ ac = ls.length by have := HAN.out; have := HXN.out; have := HN.out.1; omega), show na - ls.length = X.length by have := HAN.out; omega]
  clear hA1 hA2
  refine one_ (i := 8) (N := some 45) #[true, true, true, true, true, true, true, true, true, false, false, false, false, false, false, false, false, false] rfl rfl (by kernel_rfl) (by decide) (fun K hK => ?_)
  refine goes_ Tryd.func10 (by kernel_rfl) rfl #[.slice RA X.length rc, .slice (some (ad.add ls.length)) X.length (ac - ls.length)] (by rfl) rfl rfl (by simp only [List.map_toArray, List.map_cons, List.map_nil]; rfl) ?_
  refine (sameall_calls RA (some (ad.add ls.length)) rc (ac - ls.length) X X w2 (Kd.C_below HXC.out HH.out) (Kd.C_below HDX.out HH.out) rfl (fun x hx => by rw [HXF.out x hx]; decide) rfl).mono ?_
  rintro e w3 ⟨rfl, hb⟩
  refine ⟨_, rfl, ?_⟩
  have hb' := HH.out.trans (hb.mono HH.out.size)
  refine hK.out _ _ hb' (fun hHeld => ?_)
  clear hK K
  refine norm_ (a' := ?_) ?_ ?_
  rotate_left
  · show Act.put _ (some 45) _ = _
    simp only [Act.put, List.setIfInBounds_toArray, List.set_cons_zero, List.set_cons_succ, i64_w, i32_w]
    rfl
  replace HH := Aside0.mk hHeld
  clear hHeld hb hb'
  refine pure_ (i := 9) (N := some 46) (v := ?_) (a' := ?_) #[true, true, true, true, true, true, true, true, true, true, false, false, false, false, false, false, false, false] rfl rfl (by kernel_rfl) (fun _ _ _ h => h) (Or.inl ⟨by rfl, ?_⟩) ?_ ?_
  rotate_left
  · intro w'
    go_simp
    with_reducible rfl
  rotate_left
  · simp only [Act.put, List.setIfInBounds_toArray, List.set_cons_zero, List.set_cons_succ, i64_w, i32_w]
    rfl
  refine pure_ (i := 10) (N := some 47) (v := ?_) (a' := ?_) #[true, true, true, true, true, true, true, true, true, true, true, false, false, false, false, false, false, false] rfl rfl (by kernel_rfl) (fun _ _ _ h => h) (Or.inl ⟨by rfl, ?_⟩) ?_ ?_
  rotate_left
  · intro w'
    go_simp
    with_reducible rfl
  rotate_left
  · simp only [Act.put, List.setIfInBounds_toArray, List.set_cons_zero, List.set_cons_succ, i64_w, i32_w]
    rfl
  refine pure_ (i := 11) (N := some 48) (v := ?_) (a' := ?_) #[true, true, true, true, true, true, true, true, true, true, true, true, false, false, false, false, false, false] rfl rfl (by kernel_rfl) (fun _ _ _ h => h) (Or.inl ⟨by rfl, ?_⟩) ?_ ?_
  rotate_left
  · intro w'
    go_simp
    with_reducible rfl
  rotate_left
  · simp only [Act.put, List.setIfInBounds_toArray, List.set_cons_zero, List.set_cons_succ, i64_w, i32_w]
    rfl
  refine take_ (i := 12) (N := some 49) (v := ?_) (a' := ?_) #[true, true, true, true, true, true, true, true, true, true, true, true, true, false, false, false, false, false] rfl rfl (by kernel_rfl) (fun _ _ _ h => h) (Or.inl ⟨by rfl, ?_⟩) HH.out ?_ ?_
  rotate_left
  · rintro w' s0
    refine ev_load_row 29 (.tmp 10) ?_ s10 ?_ 29 (nums .u8 R).toArray (0, 0) _ (blk_below G10'.out s0) Tryd.underlying29 rfl (Tryd.infoD' R HRL.out) <;> rfl
  rotate_left
  · simp only [Act.put, List.setIfInBounds_toArray, List.set_cons_zero, List.set_cons_succ, i64_w, i32_w]
    rfl
  refine take_ (i := 13) (N := some 50) (v := ?_) (a' := ?_) #[true, true, true, true, true, true, true, true, true, true, true, true, true, true, false, false, false, false] rfl rfl (by kernel_rfl) (fun _ _ _ h => h) (Or.inl ⟨by rfl, ?_⟩) HH.out ?_ ?_
  rotate_left
  · rintro w' s0
    refine ev_load_row 25 (.tmp 7) ?_ g7 ?_ 25 (planCells P 4 ls.length (.slice LA L0.length lc) N H 1 a7 a8 a9) (0, 0) _ (blk_below G7.out (B7.out.trans (s0.mono B7.out.size))) Tryd.underlying25 rfl Tryd.infoPlan <;> rfl
  rotate_left
  · simp only [Act.put, List.setIfInBounds_toArray, List.set_cons_zero, List.set_cons_succ, i64_w, i32_w]
    rfl
  refine pure_ (i := 14) (N := some 51) (v := ?_) (a' := ?_) #[true, true, true, true, true, true, true, true, true, true, true, true, true, true, true, false, false, false] rfl rfl (by kernel_rfl) (fun _ _ _ h => h) (Or.inl ⟨by rfl, ?_⟩) ?_ ?_
  rotate_left
  · intro w'
    go_simp
    with_reducible rfl
  rotate_left
  · simp only [Act.put, List.setIfInBounds_toArray, List.set_cons_zero, List.set_cons_succ, i64_w, i32_w]
    rfl
  refine one_ (i := 15) (N := some 52) #[true, true, true, true, true, true, true, true, true, true, true, true, true, true, true, true, false, false] rfl rfl (by kernel_rfl) (by decide) (fun K hK => ?_)
  refine goes_ Tryd.func11 (by kernel_rfl) rfl #[.agg (planCells P 4 ls.length (.slice LA L0.length lc) N H 1 a7 a8 a9), .slice (some ad) na ac] (by rfl) rfl rfl (by simp only [List.map_toArray, List.map_cons, List.map_nil]; rfl) ?_
  have hrt := root_calls P 4 ls.length N H 1 a7 a8 a9 (.slice LA L0.length lc) (some ad) ac (ls ++ X) w3 (by rw [HNA.out]; exact Kd.C_below HAC.out HH.out) (by rw [HNA.out]; have := HAN.out; have := HLN.out; omega) HAB.out HAF.out HHH.out.1 HHH.out.2 (by rw [HNA.out]; have := HAN.out; have := HXN.out; have := HHH.out; have := HSUM.out; have := HPP.out; have := HN.out.1; omega)
  rw [HNA.out, show na - 1 = ls.length + N.toNat - 1 by rw [HAN.out, HXN.out], HLAST.out, HRE.out] at hrt
  refine hrt.mono ?_
  clear hrt
  rintro e w4 ⟨rfl, hb⟩
  refine ⟨_, rfl, ?_⟩
  have hb' := HH.out.trans (hb.mono HH.out.size)
  refine hK.out _ _ hb' (fun hHeld => ?_)
  clear hK K
  refine norm_ (a' := ?_) ?_ ?_
  rotate_left
  · show Act.put _ (some 52) _ = _
    simp only [Act.put, List.setIfInBounds_toArray, List.set_cons_zero, List.set_cons_succ, i64_w, i32_w]
    rfl
  have B8 := Aside0.mk (B7.out.trans (hb'.mono B7.out.size))
  clear hHeld hb hb' HH
  refine pure_ (i := 16) (N := some 53) (v := ?_) (a' := ?_) #[true, true, true, true, true, true, true, true, true, true, true, true, true, true, true, true, true, false] rfl rfl (by kernel_rfl) (fun _ _ _ h => h) (Or.inl ⟨by rfl, ?_⟩) ?_ ?_
  rotate_left
  · intro w'
    refine ev_diff32 R HRL.out w' (.tmp 49) (.tmp 52) 29 ?_ ?_ ?_ <;> rfl
  rotate_left
  · simp only [Act.put, List.setIfInBounds_toArray, List.set_cons_zero, List.set_cons_succ, i64_w, i32_w]
    rfl
  refine pure_ (i := 17) (N := some 54) (v := ?_) (a' := ?_) #[true, true, true, true, true, true, true, true, true, true, true, true, true, true, true, true, true, true] rfl rfl (by kernel_rfl) (fun _ _ _ h => h) (Or.inl ⟨by rfl, ?_⟩) ?_ ?_
  rotate_left
  · intro w'
    go_simp
    with_reducible rfl
  rotate_left
  · simp only [Act.put, List.setIfInBounds_toArray, List.set_cons_zero, List.set_cons_succ, i64_w, i32_w]
    rfl
  refine done_ (by kernel_rfl) ?_
  go_wp2_with fail
  refine (thimbleref02_Pick.calls a2 ls.length r _ HPK.out).mono ?_
  rintro e w9 ⟨rfl, nd, rfl⟩
  have B9 := Aside0.mk (B8.out.trans ((pw_below_drewN (Below.refl w4.heap.size w4) nd).mono B8.out.size))
  generalize w4.drewN nd = w9 at B9 ⊢
  have hr0 := HR01.out.1
  have hr1 := HR01.out.2
  obtain ⟨g, hg2, hcell, hfrz, hcut⟩ := (HLR.out.below B9.out).cut (k := r.toNat) (n := 255) (by omega) (by decide)
  have HCUT := Aside0.mk hcut
  have hne : g7 ≠ og := fun e => by
    obtain ⟨-, cur, hc, -⟩ := HLR.out
    rw [← e, G7.out] at hc
    exact absurd hc (by simp)
  have G7c : Aside0 (∀ u, (w9.setCell ⟨og, r.toNat, none⟩ u).heap[g7]? = some (.cells (planCells P 4 ls.length (.slice LA L0.length lc) N H 1 a7 a8 a9) 25 (0, 0))) := ⟨fun u => (Below.heap_setCell w9 _ u g7 hne).trans (blk_below G7.out B9.out)⟩
  clear hcut hne
  go_wp2_with (refine wpList_load_row rfl 25 (.tmp 7) rfl g7 rfl 25 (planCells P 4 ls.length (.slice LA L0.length lc) N H 1 a7 a8 a9) _ _ (G7c.out _) Tryd.underlying25 rfl Tryd.infoPlan ?_)
  have HK0 : Aside0 (0 < L0.length) := ⟨by have := HPL.out.len; omega⟩
  have hbf := build_form none P 4 N H 1 a7 a8 a9 LA L0.length lc (some ⟨og, 0, none⟩) cw (ls.set r.toNat ((ls.getD r.toNat []).take 255)) _ HCUT.out HK0.out ⟨(ls.getD r.toNat []).take 255, List.mem_of_getElem? (i := r.toNat) (List.getElem?_set_self (by omega)), by
    rw [List.length_take]
    omega⟩
  rw [List.length_set] at hbf
  refine hbf.mono ?_
  clear hbf
  rintro e w10 ⟨rfl, hb10⟩
  have BS := (BEL.out.trans (B9.out.mono BEL.out.size)).setCell (p := ⟨og, r.toNat, none⟩) HOG.out (.slice (some ⟨g.1, 0, none⟩) 255 g.2)
  have B10 := Aside0.mk (BS.trans (hb10.mono BS.size))
  have G710 := Aside0.mk (blk_below (G7c.out _) hb10)
  clear BS hb10 hcell hfrz hg2 HCUT G7c
  have HZL : Aside0 ((List.replicate 32 (0 : Int)).length = 32) := ⟨List.length_replicate⟩
  obtain ⟨Z, hZ⟩ : ∃ Z : List Int, List.replicate 32 0 = Z := ⟨_, rfl⟩
  rw [hZ] at HZL ⊢
  have HZ := Aside0.mk hZ
  clear hZ
  go_wp2_with (first
    | (refine wpList_store_row rfl 29 (.tmp 15) (.tmp 72) rfl w10.heap.size (nums .u8 Z).toArray rfl rfl 29 (nums .u8 (List.replicate 32 0)).toArray (blk_new _ _) (Tryd.infoD' Z HZL.out) (size32 _ _ List.length_replicate HZL.out) (one32 Z) ?_
       have hb11 := st32 w10 Z
       have G15 := Aside0.mk (sb32 w10 Z)
       replace B10 := Aside0.mk (B10.out.trans (hb11.mono B10.out.size))
       replace G710 := Aside0.mk (blk_below G710.out hb11)
       clear hb11
       obtain ⟨g15, hg15⟩ : ∃ bx, w10.heap.size = bx := ⟨_, rfl⟩
       rw [hg15] at G15 B10 G710 ⊢
       clear hg15
       change wpList _ _ _ _ _ ((w10.alloc (.cells (nums .u8 (List.replicate 32 0)).toArray 29 (0, 0))).setRow g15 (nums .u8 Z).toArray)
       generalize (w10.alloc (.cells (nums .u8 (List.replicate 32 0)).toArray 29 (0, 0))).setRow g15 (nums .u8 Z).toArray = w11 at G15 B10 G710 ⊢))
  refine start_ (n := 13) (S := fun w' => Below w11.heap.size w11 w') (ds := [11]) #[false, false, false, false, false, false, false, false, false, false, false, false, false] (by kernel_rfl) rfl rfl (below_drew1 (Below.refl _ _)) (fun hHeld => ?_)
  have HH := Aside0.mk hHeld
  clear hHeld
  generalize w11.drew = w2 at HH ⊢
  have hrc : r ≤ cw := by have := HCW.out; omega
  refine take_ (i := 0) (N := some 75) (v := ?_) (a' := ?_) #[true, false, false, false, false, false, false, false, false, false, false, false, false] rfl rfl (by kernel_rfl) (fun _ _ _ h => h) (Or.inl ⟨by rfl, ?_⟩) HH.out ?_ ?_
  rotate_left
  · rintro w' s0
    refine ev_load_row 25 (.tmp 7) ?_ g7 ?_ 25 (planCells P 4 ls.length (.slice LA L0.length lc) N H 1 a7 a8 a9) (0, 0) _ (blk_below G710.out s0) Tryd.underlying25 rfl Tryd.infoPlan <;> rfl
  rotate_left
  · simp only [Act.put, List.setIfInBounds_toArray, List.set_cons_zero, List.set_cons_succ, i64_w, i32_w]
    rfl
  refine pure_ (i := 1) (N := some 76) (v := ?_) (a' := ?_) #[true, true, false, false, false, false, false, false, false, false, false, false, false] rfl rfl (by kernel_rfl) (fun _ _ _ h => h) (Or.inl ⟨by rfl, ?_⟩) ?_ ?_
  rotate_left
  · intro w'
    go_simp
    with_reducible rfl
  rotate_left
  · simp only [Act.put, List.setIfInBounds_toArray, List.set_cons_zero, List.set_cons_succ, i64_w, i32_w]
    rfl
  refine pure_ (i := 2) (N := some 77) (v := ?_) (a' := ?_) #[true, true, true, false, false, false, false, false, false, false, false, false, false] rfl rfl (by kernel_rfl) (fun _ _ _ h => h) (Or.inl ⟨by rfl, ?_⟩) ?_ ?_
  rotate_left
  · intro w'
    go_simp
    with_reducible rfl
  rotate_left
  · simp only [Act.put, List.setIfInBounds_toArray, List.set_cons_zero, List.set_cons_succ, i64_w, i32_w]
    rfl
  refine pure_ (i := 3) (N := some 78) (v := ?_) (a' := ?_) #[true, true, true, true, false, false, false, false, false, false, false, false, false] rfl rfl (by kernel_rfl) (fun _ _ _ h => h) (Or.inl ⟨by rfl, ?_⟩) ?_ ?_
  rotate_left
  · intro w'
    go_simp
    with_reducible rfl
  rotate_left
  · simp only [Act.put, List.setIfInBounds_toArray, List.set_cons_zero, List.set_cons_succ, i64_w, i32_w]
    rfl
  refine join_ (σ := Nat) 3 #[true, true, true, true, true, true, true, true, true, true, false, false, false] (fun s => [(79, .tuple #[.slice none 0 0, .agg (nums .u8 Z).toArray, .int .i64 1]), (74, .tuple #[.slice none 0 0, .agg (nums .u8 Z).toArray, .int .i64 1]), (80, .slice none 0 0), (81, .agg (nums .u8 Z).toArray), (82, .int .i64 1), (18, .pointer (some ⟨s, 0, none⟩))]) (fun s w' => w'.heap[s]? = some (.cells (nums .u8 (List.replicate 32 0)).toArray 29 (0, 0)) ∧ Below w11.heap.size w11 w' ∧ w11.heap.size ≤ s) ?_ ?_
  rotate_left
  · intro hj
    have HJ := Aside0.mk hj
    clear hj
    refine two_ (i := 4) (j := 9) (Ni := some 79) (Nj := some 18) #[true, true, true, true, true, false, false, false, false, false, false, false, false] #[true, true, true, true, false, false, false, false, false, true, false, false, false] rfl rfl rfl rfl (by kernel_rfl) (by decide) (by decide) (fun K hK => ?_) (fun K hK => ?_)
    · refine goes_ Tryd.func7 (by kernel_rfl) rfl #[ptr none, .agg (planCells P 4 ls.length (.slice LA L0.length lc) N H 1 a7 a8 a9), .slice (some ⟨og, 0, none⟩) r.toNat cw] (by rfl) rfl rfl (by simp only [List.map_toArray, List.map_cons, List.map_nil]; rfl) ?_
      have hba := build_arg none P 4 ls.length N H 1 a7 a8 a9 LA L0.length lc (some ⟨og, 0, none⟩) r.toNat cw w2 (by have := HR01.out; omega)
      rw [HZ.out] at hba
      refine hba.mono ?_
      clear hba
      rintro e w3 ⟨rfl, hb⟩
      refine ⟨_, rfl, ?_⟩
      have hb' := HH.out.trans (hb.mono HH.out.size)
      refine hK.out _ _ hb' (fun hHeld => ?_)
      clear hK K
      refine norm_ (a' := ?_) ?_ ?_
      rotate_left
      · show Act.put _ (some 79) _ = _
        simp only [Act.put, List.setIfInBounds_toArray, List.set_cons_zero, List.set_cons_succ, i64_w, i32_w]
        rfl
      replace HH := Aside0.mk hHeld
      clear hHeld hb hb'
      refine pure_ (i := 5) (N := some 74) (v := ?_) (a' := ?_) #[true, true, true, true, true, true, false, false, false, false, false, false, false] rfl rfl (by kernel_rfl) (fun _ _ _ h => h) (Or.inl ⟨by rfl, ?_⟩) ?_ ?_
      rotate_left
      · intro w'
        go_simp
        with_reducible rfl
      rotate_left
      · simp only [Act.put, List.setIfInBounds_toArray, List.set_cons_zero, List.set_cons_succ, i64_w, i32_w]
        rfl
      refine pure_ (i := 6) (N := some 80) (v := ?_) (a' := ?_) #[true, true, true, true, true, true, true, false, false, false, false, false, false] rfl rfl (by kernel_rfl) (fun _ _ _ h => h) (Or.inl ⟨by rfl, ?_⟩) ?_ ?_
      rotate_left
      · intro w'
        go_simp
        with_reducible rfl
      rotate_left
      · simp only [Act.put, List.setIfInBounds_toArray, List.set_cons_zero, List.set_cons_succ, i64_w, i32_w]
        rfl
      refine pure_ (i := 7) (N := some 81) (v := ?_) (a' := ?_) #[true, true, true, true, true, true, true, true, false, false, false, false, false] rfl rfl (by kernel_rfl) (fun _ _ _ h => h) (Or.inl ⟨by rfl, ?_⟩) ?_ ?_
      rotate_left
      · intro w'
        go_simp
        with_reducible rfl
      rotate_left
      · simp only [Act.put, List.setIfInBounds_toArray, List.set_cons_zero, List.set_cons_succ, i64_w, i32_w]
        rfl
      refine pure_ (i := 8) (N := some 82) (v := ?_) (a' := ?_) #[true, true, true, true, true, true, true, true, true, false, false, false, false] rfl rfl (by kernel_rfl) (fun _ _ _ h => h) (Or.inl ⟨by rfl, ?_⟩) ?_ ?_
      rotate_left
      · intro w'
        go_simp
        with_reducible rfl
      rotate_left
      · simp only [Act.put, List.setIfInBounds_toArray, List.set_cons_zero, List.set_cons_succ, i64_w, i32_w]
        rfl
      refine one_ (i := 9) (N := some 18) #[true, true, true, true, true, true, true, true, true, true, false, false, false] rfl rfl (by kernel_rfl) (by decide) (fun K hK => ?_)
      refine value_ (w1 := w3.alloc (.cells (nums .u8 (List.replicate 32 0)).toArray 29 (0, 0))) (v := .pointer (some ⟨w3.heap.size, 0, none⟩)) (by rfl) rfl (by first | (go_simp; done) | (go_simp; rfl)) ?_
      have hn9 := blk_new w3 (.cells (nums .u8 (List.replicate 32 0)).toArray 29 (0, 0))
      have hb9 := below_alloc HH.out (.cells (nums .u8 (List.replicate 32 0)).toArray 29 (0, 0))
      have hba := below_alloc (Below.refl w3.heap.size w3) (.cells (nums .u8 (List.replicate 32 0)).toArray 29 (0, 0))
      have hs9 := HH.out.size
      refine hK.out _ _ hb9 (fun hHeld => ?_)
      clear hK K
      refine norm_ (a' := ?_) ?_ ?_
      rotate_left
      · show Act.put _ (some 18) _ = _
        simp only [Act.put, List.setIfInBounds_toArray, List.set_cons_zero, List.set_cons_succ, i64_w, i32_w]
        rfl
      exact HJ.out w3.heap.size _ ⟨hn9, hb9, hs9⟩
    · refine value_ (w1 := w2.alloc (.cells (nums .u8 (List.replicate 32 0)).toArray 29 (0, 0))) (v := .pointer (some ⟨w2.heap.size, 0, none⟩)) (by rfl) rfl (by first | (go_simp; done) | (go_simp; rfl)) ?_
      have hn9 := blk_new w2 (.cells (nums .u8 (List.replicate 32 0)).toArray 29 (0, 0))
      have hb9 := below_alloc HH.out (.cells (nums .u8 (List.replicate 32 0)).toArray 29 (0, 0))
      have hba := below_alloc (Below.refl w2.heap.size w2) (.cells (nums .u8 (List.replicate 32 0)).toArray 29 (0, 0))
      have hs9 := HH.out.size
      refine hK.out _ _ hb9 (fun hHeld => ?_)
      clear hK K
      refine norm_ (a' := ?_) ?_ ?_
      rotate_left
      · show Act.put _ (some 18) _ = _
        simp only [Act.put, List.setIfInBounds_toArray, List.set_cons_zero, List.set_cons_succ, i64_w, i32_w]
        rfl
      clear hHeld
      replace HH := Aside0.mk hb9
      obtain ⟨s9, hq9⟩ : ∃ s9, w2.heap.size = s9 := ⟨_, rfl⟩
      have hlt9 : s9 < (w2.alloc (.cells (nums .u8 (List.replicate 32 0)).toArray 29 (0, 0))).heap.size := blk_lt (by rw [← hq9]; exact hn9)
      try rw [hq9] at hgs9
      rw [hq9] at hn9 hs9 ⊢
      generalize w2.alloc (.cells (nums .u8 (List.replicate 32 0)).toArray 29 (0, 0)) = w3 at HH hn9 hba hlt9 ⊢
      clear hb9
      clear hba hq9 hlt9
      refine one_ (i := 4) (N := some 79) #[true, true, true, true, true, false, false, false, false, true, false, false, false] rfl rfl (by kernel_rfl) (by decide) (fun K hK => ?_)
      refine goes_ Tryd.func7 (by kernel_rfl) rfl #[ptr none, .agg (planCells P 4 ls.length (.slice LA L0.length lc) N H 1 a7 a8 a9), .slice (some ⟨og, 0, none⟩) r.toNat cw] (by rfl) rfl rfl (by simp only [List.map_toArray, List.map_cons, List.map_nil]; rfl) ?_
      have hba := build_arg none P 4 ls.length N H 1 a7 a8 a9 LA L0.length lc (some ⟨og, 0, none⟩) r.toNat cw w3 (by have := HR01.out; omega)
      rw [HZ.out] at hba
      refine hba.mono ?_
      clear hba
      rintro e w4 ⟨rfl, hb⟩
      refine ⟨_, rfl, ?_⟩
      have hb' := HH.out.trans (hb.mono HH.out.size)
      have hn8 := blk_below hn9 hb
      refine hK.out _ _ hb' (fun hHeld => ?_)
      clear hK K
      refine norm_ (a' := ?_) ?_ ?_
      rotate_left
      · show Act.put _ (some 79) _ = _
        simp only [Act.put, List.setIfInBounds_toArray, List.set_cons_zero, List.set_cons_succ, i64_w, i32_w]
        rfl
      clear hHeld
      refine pure_ (i := 5) (N := some 74) (v := ?_) (a' := ?_) #[true, true, true, true, true, true, false, false, false, true, false, false, false] rfl rfl (by kernel_rfl) (fun _ _ _ h => h) (Or.inl ⟨by rfl, ?_⟩) ?_ ?_
      rotate_left
      · intro w'
        go_simp
        with_reducible rfl
      rotate_left
      · simp only [Act.put, List.setIfInBounds_toArray, List.set_cons_zero, List.set_cons_succ, i64_w, i32_w]
        rfl
      refine pure_ (i := 6) (N := some 80) (v := ?_) (a' := ?_) #[true, true, true, true, true, true, true, false, false, true, false, false, false] rfl rfl (by kernel_rfl) (fun _ _ _ h => h) (Or.inl ⟨by rfl, ?_⟩) ?_ ?_
      rotate_left
      · intro w'
        go_simp
        with_reducible rfl
      rotate_left
      · simp only [Act.put, List.setIfInBounds_toArray, List.set_cons_zero, List.set_cons_succ, i64_w, i32_w]
        rfl
      refine pure_ (i := 7) (N := some 81) (v := ?_) (a' := ?_) #[true, true, true, true, true, true, true, true, false, true, false, false, false] rfl rfl (by kernel_rfl) (fun _ _ _ h => h) (Or.inl ⟨by rfl, ?_⟩) ?_ ?_
      rotate_left
      · intro w'
        go_simp
        with_reducible rfl
      rotate_left
      · simp only [Act.put, List.setIfInBounds_toArray, List.set_cons_zero, List.set_cons_succ, i64_w, i32_w]
        rfl
      refine pure_ (i := 8) (N := some 82) (v := ?_) (a' := ?_) #[true, true, true, true, true, true, true, true, true, true, false, false, false] rfl rfl (by kernel_rfl) (fun _ _ _ h => h) (Or.inl ⟨by rfl, ?_⟩) ?_ ?_
      rotate_left
      · intro w'
        go_simp
        with_reducible rfl
      rotate_left
      · simp only [Act.put, List.setIfInBounds_toArray, List.set_cons_zero, List.set_cons_succ, i64_w, i32_w]
        rfl
      exact HJ.out s9 _ ⟨hn8, hb', hs9⟩
  rintro s18 w5 ⟨hP5, hB5, hG5⟩
  refine norm_ (a' := ?_) ?_ ?_
  rotate_left
  · simp only [putAll, Act.put, List.setIfInBounds_toArray, List.set_cons_zero, List.set_cons_succ, i64_w, i32_w]
    rfl
  refine pure_ (i := 10) (N := some 17) (v := ?_) (a' := ?_) #[true, true, true, true, true, true, true, true, true, true, true, false, false] rfl rfl (by kernel_rfl) (fun _ _ _ h => h) (Or.inl ⟨by rfl, ?_⟩) ?_ ?_
  rotate_left
  · intro w'
    go_simp
    with_reducible rfl
  rotate_left
  · simp only [Act.put, List.setIfInBounds_toArray, List.set_cons_zero, List.set_cons_succ, i64_w, i32_w]
    rfl
  refine last_ (i := 11) (N := none) #[true, true, true, true, true, true, true, true, true, true, true, true, false] rfl rfl (by kernel_rfl) (by decide) (fun K hK => ?_)
  refine skip_ (w1 := w5.setRow s18 (nums .u8 Z).toArray) (by rfl) rfl (by refine ev_store_row 29 (.tmp 18) (.tmp 81) ?_ s18 (nums .u8 Z).toArray ?_ ?_ 29 (nums .u8 (List.replicate 32 0)).toArray hP5 (Tryd.infoD' Z HZL.out) (size32 _ _ List.length_replicate HZL.out) (one32 Z) <;> rfl) ?_
  refine hK.out _ _ ?_
  clear hK K
  refine norm_ (a' := ?_) ?_ ?_
  rotate_left
  · rfl
  refine pure_ (i := 12) (N := some 19) (v := ?_) (a' := ?_) #[true, true, true, true, true, true, true, true, true, true, true, true, true] rfl rfl (by kernel_rfl) (fun _ _ _ h => h) (Or.inl ⟨by rfl, ?_⟩) ?_ ?_
  rotate_left
  · intro w'
    go_simp
    with_reducible rfl
  rotate_left
  · simp only [Act.put, List.setIfInBounds_toArray, List.set_cons_zero, List.set_cons_succ, i64_w, i32_w]
    rfl
  refine done_ (by kernel_rfl) ?_
  have hb12 : Below w11.heap.size w11 (w5.setRow s18 (nums .u8 Z).toArray) := hB5.trans ⟨rfl, rfl, rfl, by rw [setRow_size]; exact Nat.le_refl _, fun k hk => setRow_other _ _ _ _ (by omega)⟩
  have G15z := Aside0.mk (blk_below G15.out hb12)
  have B12 := Aside0.mk (B10.out.trans (hb12.mono B10.out.size))
  clear hP5 hB5 hG5 hb12 HH
  generalize w5.setRow s18 (nums .u8 Z).toArray = w12 at G15z B12 ⊢
  go_wp2_with (first
    | (refine gate_load32 15 g15 Z HZL.out rfl rfl rfl G15z.out ?_)
    | (refine gate_zero32 91 92 Z HZ.out rfl rfl rfl rfl ?_))
  refine (awake_calls _ (Tab.below HT.out (B12.out.mono (by have := HT.out.1; omega)))).mono ?_
  rintro e w13 ⟨rfl, hb13⟩
  have BE := Aside0.mk (B12.out.trans (hb13.mono B12.out.size))
  clear hb13
  go_wp2
  go_ret
  exact ⟨rfl, BE.out⟩
end Go.Proofs.YtgmdgkanfhoahaaDoor.LawB
