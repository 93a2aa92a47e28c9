/- The plain law of Need: the count of different blocks by a map and the count by a row of marks are the same, for every plan that Of makes. No conditions beyond those typed. -/
import Derived.Test.YtgmdgkanfhoahaaHPure
import Derived.Test.YtgmdgkanfhoahaaHLawPn
namespace Go.Proofs.Ytgmdgkanfhoahaa.HPureN
set_option linter.unusedVariables false
set_option linter.unusedSimpArgs false
open Go.RowKit Go.Maps Go.Proofs.Ytgmdgkanfhoahaa.PPath Go.Proofs.Ytgmdgkanfhoahaa.PNeed Go.Proofs.Ytgmdgkanfhoahaa.PSameInts Go.Proofs.Ytgmdgkanfhoahaa.PPick Go.Proofs.Ytgmdgkanfhoahaa.Pparts Go.Proofs.Ytgmdgkanfhoahaa.HOf Go.Proofs.Ytgmdgkanfhoahaa.HNeed Go.Proofs.Ytgmdgkanfhoahaa.HMade Go.Proofs.Ytgmdgkanfhoahaa.HPure Go.Proofs.Ytgmdgkanfhoahaa.HLawPn Go.Proofs.YtgmdgkanfhoahaaW.PrintWords Go.Proofs.YtgmdgkanfhoahaaW.PrintLast Go.Proofs.YtgmdgkanfhoahaaW.PrintMore

def gath (P : Int) (xs : List Int) : List Int → List Int → List Int
  | [], acc => acc
  | p :: ps, acc => if p < 0 ∨ p ≥ P then gath P xs ps acc else gath P xs ps (acc ++ p :: up xs 0 16 p)
section
variable (P B C N a6 a7 a8 a9 : Int) (L : List Int)
theorem up_ok (H : Int) (hp : Plan P C L H) (p : Int) (h0 : 0 ≤ p) (h1 : p < P) : (up (P :: C :: L) 0 16 p).length ≤ 5 ∧ ∀ z ∈ up (P :: C :: L) 0 16 p, 0 ≤ z ∧ z < H := by
  have hl := hp.len
  refine ⟨by rw [up_len]; simp; omega, fun z hz => ?_⟩
  have := up_range (P :: C :: L) 0 16 p hp.chain (.inl rfl) h0 (by simpa using h1) z hz
  have := hp.head
  omega
theorem head_ok (H : Int) (hp : Plan P C L H) : 3 ≤ H ∧ H ≤ 100000 ∧ 1 ≤ P ∧ P ≤ 4096 ∧ P < H := by
  have hl := hp.len
  have hb := hp.chain.bound
  have hP := hb P (by simp)
  have hs := sum_bound hb
  have hs2 := sum_bound (l := C :: L) (fun z hz => hb z (by simp at hz ⊢; exact .inr hz))
  have hh := hp.head
  simp only [List.length_cons, List.sum_cons] at hs hh hs2
  omega
theorem wf_of {z : Int} (h0 : -9223372036854775808 ≤ z) (h1 : z ≤ 9223372036854775807) : (Lit.int .i64 z).wf = true := by
  simp [Lit.wf, IntKind.min, IntKind.max, IntKind.signed, IntKind.bits]
  omega
theorem go_val (H : Int) (hp : Plan P C L H) (k : Nat) (hk : 30 ≤ k) : ∀ (l acc : List Int), (∀ z ∈ l, (Lit.int .i64 z).wf = true) → acc.length + 6 * l.length < 1000000000 →
    plan_Need.go k P B C L N H a6 a7 a8 a9 l acc = some (gath P (P :: C :: L) l acc)
  | [], acc, _, _ => rfl
  | p :: ps, acc, hw, hl => by
    have hp1 := bounds_i64 (hw p List.mem_cons_self)
    have hh := head_ok P C L H hp
    simp only [List.length_cons] at hl
    unfold plan_Need.go gath
    rw [path_f P B C N a6 a7 a8 a9 L H hp k hk p (by omega), Option.bind_some]
    by_cases h : p < 0 ∨ p ≥ P
    · rw [if_pos h, if_pos h, if_neg (by decide)]
      exact go_val H hp k hk ps acc (fun z hz => hw z (List.mem_cons_of_mem _ hz)) (by omega)
    · rw [if_neg h, if_neg h]
      have hu := up_ok P C L H hp p (by omega) (by omega)
      dsimp only
      have hc : acc.length + (up (P :: C :: L) 0 16 p).length < 1000000000 ∧ ∀ z ∈ p :: up (P :: C :: L) 0 16 p, (Lit.int .i64 z).wf = true := by
        refine ⟨by omega, fun z hz => ?_⟩
        rcases List.mem_cons.1 hz with rfl | hz
        · exact hw _ List.mem_cons_self
        · have := hu.2 z hz
          exact wf_of (by omega) (by omega)
      rw [if_pos rfl, if_pos hc]
      exact go_val H hp k hk ps _ (fun z hz => hw z (List.mem_cons_of_mem _ hz)) (by simp; omega)
theorem need_val (H : Int) (hp : Plan P C L H) (k : Nat) (hk : 30 ≤ k) (l : List Int) (hw : ∀ z ∈ l, (Lit.int .i64 z).wf = true) (hl : l.length ≤ 300) :
    plan_Need.f k P B C L N H a6 a7 a8 a9 l = some ((dc (gath P (P :: C :: L) l []) : Nat) : Int) := by
  unfold plan_Need.f
  rw [go_val P B C N a6 a7 a8 a9 L H hp k hk l [] hw (by simp; omega), Option.bind_some]
  unfold cnt
  rw [cnt_dc]

/-! ### the row of marks -/
structure Mk (H : Int) (seen : List Bool) (acc : List Int) : Prop where
  len : (seen.length : Int) = H
  mark : ∀ b : Int, 0 ≤ b → b < H → (rdOf false seen b = true ↔ b ∈ acc)
theorem Mk.set {H : Int} {seen : List Bool} {acc : List Int} (h : Mk H seen acc) (b : Int) (h0 : 0 ≤ b) (h1 : b < H) : Mk H (seen.set b.toNat true) (acc ++ [b]) where
  len := by rw [List.length_set]; exact h.len
  mark := fun c c0 c1 => by
    have hlen := h.len
    have := h.mark c c0 c1
    unfold rdOf at this ⊢
    rw [List.getD_eq_getElem?_getD] at this ⊢
    rw [List.getElem?_set]
    by_cases e : b = c
    · subst e
      rw [if_pos rfl, if_pos (by omega)]
      simp
    · rw [if_neg (by omega)]
      simp only [List.mem_append, List.mem_singleton]
      rw [this]
      exact ⟨.inl, fun h => h.resolve_right (fun q => e q.symm)⟩
theorem Mk.same {H : Int} {seen : List Bool} {acc acc' : List Int} (h : Mk H seen acc) (hm : ∀ b, b ∈ acc ↔ b ∈ acc') : Mk H seen acc' :=
  ⟨h.len, fun b h0 h1 => (h.mark b h0 h1).trans (hm b)⟩
theorem inner (H : Int) (l : List Int) (i : Int) (hH : H ≤ 1000000) : ∀ (rest pre : List Int) (k : Nat) (seen : List Bool) (acc : List Int), (∀ z ∈ rest, 0 ≤ z ∧ z < H) → (pre ++ rest).length < 1000000 → acc.length + rest.length < 1000000000 → Mk H seen acc →
    ∃ seen', Mk H seen' (acc ++ rest) ∧ thimbleref16_Need.l1 (rest.length + 1 + k) l seen (dc acc : Nat) i (pre ++ rest) (pre.length : Int) P B C L N H a6 a7 a8 a9 = thimbleref16_Need.l0 k l seen' (dc (acc ++ rest) : Nat) (wrap64 (i + 1)) P B C L N H a6 a7 a8 a9
  | [], pre, k, seen, acc, hr, hl, ha, hm => by
    refine ⟨seen, by simpa using hm, ?_⟩
    rw [show ([] : List Int).length + 1 + k = k + 1 by simp; omega]
    simp only [thimbleref16_Need.l1]
    rw [if_neg (by simp), List.append_nil]
  | b :: r, pre, k, seen, acc, hr, hl, ha, hm => by
    have hb := hr b List.mem_cons_self
    have e1 : pre ++ b :: r = (pre ++ [b]) ++ r := by simp
    have hd : ∀ q : List Int, dc q ≤ q.length := by
      intro q
      induction q with
      | nil => exact Nat.le_refl _
      | cons x q ih => unfold dc; split <;> simp <;> omega
    have hda := hd acc
    simp at hl ha
    have hlen := hm.len
    rw [show (b :: r).length + 1 + k = (r.length + 1 + k) + 1 by simp; omega]
    simp only [thimbleref16_Need.l1]
    rw [if_pos (by simp; omega), if_pos (by omega), rd_mid, if_pos hb.1, if_pos (by omega), w64 (x := (pre.length : Int) + 1) (by omega) (by omega)]
    have hdc := dc_snoc acc b
    by_cases h : rdOf false seen b = true
    · have hin := (hm.mark b hb.1 hb.2).1 h
      rw [if_pos hin] at hdc
      obtain ⟨s2, hs2, e2⟩ := inner H l i hH r (pre ++ [b]) k seen (acc ++ [b]) (fun z hz => hr z (List.mem_cons_of_mem _ hz)) (by rw [← e1]; simp; omega) (by simp; omega)
        (hm.same (fun c => by simp only [List.mem_append, List.mem_singleton]; exact ⟨.inl, fun q => q.elim id (fun q => q ▸ hin)⟩))
      refine ⟨s2, by rw [List.append_assoc] at hs2; exact hs2, ?_⟩
      rw [if_pos h]
      rw [hdc, ← e1, List.append_assoc, show (((pre ++ [b]).length : Nat) : Int) = (pre.length : Int) + 1 by simp] at e2
      exact e2
    · have hin : b ∉ acc := fun q => h ((hm.mark b hb.1 hb.2).2 q)
      rw [if_neg hin] at hdc
      obtain ⟨s2, hs2, e2⟩ := inner H l i hH r (pre ++ [b]) k (seen.set b.toNat true) (acc ++ [b]) (fun z hz => hr z (List.mem_cons_of_mem _ hz)) (by rw [← e1]; simp; omega) (by simp; omega) (hm.set b hb.1 hb.2)
      refine ⟨s2, by rw [List.append_assoc] at hs2; exact hs2, ?_⟩
      rw [if_neg h, w64 (by omega) (by omega)]
      rw [hdc, ← e1, List.append_assoc, show (((pre ++ [b]).length : Nat) : Int) = (pre.length : Int) + 1 by simp] at e2
      exact e2
theorem ref_need_l0 (H : Int) (hp : Plan P C L H) : ∀ (rest pre : List Int) (k : Nat) (seen : List Bool) (acc : List Int), 10 * rest.length + 60 ≤ k → (∀ z ∈ rest, (Lit.int .i64 z).wf = true) → (pre ++ rest).length < 1000000 → acc.length + 6 * rest.length < 1000000 → Mk H seen acc →
    thimbleref16_Need.l0 k (pre ++ rest) seen (dc acc : Nat) (pre.length : Int) P B C L N H a6 a7 a8 a9 = some (dc (gath P (P :: C :: L) rest acc) : Nat)
  | [], pre, k, seen, acc, hk, hw, hl, ha, hm => by
    obtain ⟨k, rfl⟩ : ∃ m, k = m + 1 := ⟨k - 1, by omega⟩
    simp only [thimbleref16_Need.l0]
    rw [if_neg (by simp)]
    rfl
  | p :: r, pre, k, seen, acc, hk, hw, hl, ha, hm => by
    obtain ⟨k, rfl⟩ : ∃ m, k = m + 1 := ⟨k - 1, by omega⟩
    have e1 : pre ++ p :: r = (pre ++ [p]) ++ r := by simp
    have hp1 := bounds_i64 (hw p List.mem_cons_self)
    have hh := head_ok P C L H hp
    simp at hl ha hk
    simp only [thimbleref16_Need.l0]
    rw [if_pos (by simp; omega), if_pos (by omega), rd_mid, ref_path_f P B C N a6 a7 a8 a9 L H hp k (by omega) p (by omega), Option.bind_some]
    unfold gath
    by_cases h : p < 0 ∨ p ≥ P
    · rw [if_pos h, if_pos h, if_neg (by decide), w64 (by omega) (by omega)]
      have ih := ref_need_l0 H hp r (pre ++ [p]) k seen acc (by omega) (fun z hz => hw z (List.mem_cons_of_mem _ hz)) (by rw [← e1]; simp; omega) (by omega) hm
      rw [← e1, show (((pre ++ [p]).length : Nat) : Int) = (pre.length : Int) + 1 by simp] at ih
      exact ih
    · have hu := up_ok P C L H hp p (by omega) (by omega)
      rw [if_neg h, if_neg h]
      dsimp only
      rw [if_pos rfl, if_pos (by omega)]
      obtain ⟨k1, hk1⟩ : ∃ k1, k = (up (P :: C :: L) 0 16 p ++ [p]).length + 1 + k1 := ⟨k - (up (P :: C :: L) 0 16 p).length - 2, by simp; omega⟩
      obtain ⟨s2, hs2, e2⟩ := inner P B C N a6 a7 a8 a9 L H (pre ++ p :: r) (pre.length : Int) (by omega) (up (P :: C :: L) 0 16 p ++ [p]) [] k1 seen acc
        (fun z hz => by
          rcases List.mem_append.1 hz with hz | hz
          · exact hu.2 z hz
          · obtain rfl := List.mem_singleton.1 hz
            omega) (by simp; omega) (by simp; omega) hm
      have hmem : ∀ b, b ∈ acc ++ (up (P :: C :: L) 0 16 p ++ [p]) ↔ b ∈ acc ++ p :: up (P :: C :: L) 0 16 p := by
        intro b
        simp only [List.mem_append, List.mem_cons, List.not_mem_nil, or_false]
        constructor <;> (rintro (h | h | h) <;> simp [h])
      have hperm : (acc ++ (up (P :: C :: L) 0 16 p ++ [p])).Perm (acc ++ p :: up (P :: C :: L) 0 16 p) := List.Perm.append_left acc (List.perm_append_comm (l₂ := [p]))
      rw [dc_perm hperm, ← hk1] at e2
      have e3 : thimbleref16_Need.l1 k (pre ++ p :: r) seen (dc acc : Nat) (pre.length : Int) (up (P :: C :: L) 0 16 p ++ [p]) 0 P B C L N H a6 a7 a8 a9 = _ := e2
      rw [e3, w64 (by omega) (by omega)]
      have ih := ref_need_l0 H hp r (pre ++ [p]) k1 s2 (acc ++ p :: up (P :: C :: L) 0 16 p) (by simp at hk1; omega) (fun z hz => hw z (List.mem_cons_of_mem _ hz)) (by rw [← e1]; simp; omega) (by simp; omega) (hs2.same hmem)
      rw [← e1, show (((pre ++ [p]).length : Nat) : Int) = (pre.length : Int) + 1 by simp] at ih
      exact ih
theorem ref_need_val (H : Int) (hp : Plan P C L H) (k : Nat) (hk : 3100 ≤ k) (l : List Int) (hw : ∀ z ∈ l, (Lit.int .i64 z).wf = true) (hl : l.length ≤ 300) :
    thimbleref16_Need.f k P B C L N H a6 a7 a8 a9 l = some ((dc (gath P (P :: C :: L) l []) : Nat) : Int) := by
  have hh := head_ok P C L H hp
  unfold thimbleref16_Need.f
  rw [if_pos (by omega), if_pos (by omega)]
  exact ref_need_l0 P B C N a6 a7 a8 a9 L H hp l [] k (List.replicate H.toNat false) [] (by omega) hw (by simp; omega) (by simp; omega)
    ⟨by rw [List.length_replicate]; omega, fun b h0 h1 => by
      unfold rdOf
      rw [List.getD_eq_getElem?_getD, List.getElem?_replicate, if_pos (by omega)]
      simp⟩
theorem awake_at (k : Nat) (hk : 60 ≤ k) : thimblelaw16_awake.f k = some true := at_rounds (g := thimblelaw16_awake.f) (fun k => thimblelaw16_awake.mono k) hk awake_true
theorem law_l0 (H : Int) (hp : Plan P C L H) : ∀ (rest pre near : List Int) (k : Nat), rest.length + 3200 ≤ k → (∀ z ∈ pre ++ rest, (Lit.int .i64 z).wf = true) → (pre ++ rest).length ≤ 300 → near.length = pre.length → (∀ z ∈ near, (Lit.int .i64 z).wf = true) →
    thimblelaw16_PlanNeeds.l0 k (pre ++ rest) near (pre.length : Int) P B C L N H a6 a7 a8 a9 = some true
  | [], pre, near, k, hk, hw, hl, hn, hwn => by
    obtain ⟨k, rfl⟩ : ∃ m, k = m + 1 := ⟨k - 1, by omega⟩
    rw [List.append_nil] at hw hl
    simp only [thimblelaw16_PlanNeeds.l0, List.append_nil]
    rw [if_neg (by simp), need_val P B C N a6 a7 a8 a9 L H hp k (by omega) pre hw (by omega), Option.bind_some, ref_need_val P B C N a6 a7 a8 a9 L H hp k (by omega) pre hw (by omega), Option.bind_some, if_pos rfl,
      need_val P B C N a6 a7 a8 a9 L H hp k (by omega) near hwn (by omega), Option.bind_some, ref_need_val P B C N a6 a7 a8 a9 L H hp k (by omega) near hwn (by omega), Option.bind_some, if_pos rfl, awake_at k (by omega)]
    rfl
  | p :: r, pre, near, k, hk, hw, hl, hn, hwn => by
    obtain ⟨k, rfl⟩ : ∃ m, k = m + 1 := ⟨k - 1, by omega⟩
    have e1 : pre ++ p :: r = (pre ++ [p]) ++ r := by simp
    have hp1 := bounds_i64 (hw p (by simp))
    have hh := head_ok P C L H hp
    obtain ⟨b, hb, hb0, hb1⟩ := pick_val p P (by omega) (by omega) (by omega) (by omega)
    have hl2 := hl
    simp at hl2 hk
    simp only [thimblelaw16_PlanNeeds.l0]
    rw [if_pos (by simp; omega), if_pos (by omega), rd_mid, hb, Option.bind_some, if_pos (by omega), w64 (by omega) (by omega)]
    have ih := law_l0 H hp r (pre ++ [p]) (near ++ [b]) k (by omega) (by rw [← e1]; exact hw) (by rw [← e1]; exact hl) (by simp; omega)
      (fun z hz => by
        rcases List.mem_append.1 hz with hz | hz
        · exact hwn z hz
        · obtain rfl := List.mem_singleton.1 hz
          exact wf_of (by omega) (by omega))
    rw [← e1, show (((pre ++ [p]).length : Nat) : Int) = (pre.length : Int) + 1 by simp] at ih
    exact ih
end
theorem needs_true (a0 a1 : Int) (l : List Int) (w0 : (Lit.int .i64 a0).wf = true) (w1 : (Lit.int .i64 a1).wf = true) (hw : ∀ z ∈ l, (Lit.int .i64 z).wf = true) : thimblelaw16_PlanNeeds.f 5000 a0 a1 l = some true := by
  obtain ⟨P, B, C, L, N, H, a6, a7, a8, T, hm, hp, ht⟩ := made_val a0 a1 w0 w1 5000 (by omega)
  unfold thimblelaw16_PlanNeeds.f
  rw [hm, Option.bind_some]
  dsimp only
  rw [if_pos rfl]
  show thimblelaw16_PlanNeeds.j0 (4999 + 1) _ _ _ _ _ _ _ _ _ _ _ _ _ = _
  simp only [thimblelaw16_PlanNeeds.j0]
  by_cases h : (l.length : Int) > 300
  · rw [if_pos (by simp; omega), if_pos trivial, awake_at 4999 (by omega)]
    rfl
  · rw [if_neg (by simp; omega)]
    exact law_l0 P B C N a6 a7 a8 T L H hp l [] [] 4999 (by omega) hw (by simp; omega) rfl (by simp)
end Go.Proofs.Ytgmdgkanfhoahaa.HPureN
