/- Parent and Path in plain lists; the plan that ref16.Of makes. What a path's check answers, in plain lists. -/
import Derived.Test.YtgmdgkanfhoahaaDoorPP5
import Derived.Test.YtgmdgkanfhoahaaDoorMade
import Derived.Test.YtgmdgkanfhoahaaDoorTreeAwk
namespace Go.Proofs.YtgmdgkanfhoahaaDoor.PlanP
open Go.RowKit Go.Proofs.YtgmdgkanfhoahaaDoor.PTreePaths Go.Proofs.YtgmdgkanfhoahaaDoorW.PrintWords Go.Proofs.YtgmdgkanfhoahaaDoorW.PrintLast Go.Proofs.YtgmdgkanfhoahaaDoorW.PrintMore
set_option linter.unusedVariables false
set_option linter.unusedSimpArgs false

/-! ### numbers -/
theorem w64 {x : Int} (h0 : -9223372036854775808 ≤ x) (h1 : x ≤ 9223372036854775807) : wrap64 x = x := by unfold wrap64; omega
theorem pick_val (x n : Int) (hn : 1 ≤ n) (hn2 : n ≤ 9223372036854775807) (hx0 : -9223372036854775808 ≤ x) (hx1 : x ≤ 9223372036854775807) :
    ∃ r, thimbleref02_Pick.f x n = some r ∧ 0 ≤ r ∧ r < n := by
  unfold thimbleref02_Pick.f
  rw [if_neg (by omega), if_neg (by omega)]
  have ha := Int.tmod_lt_of_pos x (show 0 < n by omega)
  by_cases h : x.tmod n < 0
  · rw [if_pos h]
    have hb : -n < x.tmod n := by
      rcases Int.le_total 0 x with h0 | h0
      · have := Int.tmod_nonneg n h0; omega
      · have := Int.tmod_lt_of_pos (-x) (show 0 < n by omega)
        rw [Int.neg_tmod] at this
        omega
    rw [w64 (by omega) (by omega)]
    exact ⟨_, rfl, by omega, by omega⟩
  · rw [if_neg h]
    exact ⟨_, rfl, by omega, ha⟩

/-! ### what a plan is -/
/-- Levels, from the pages on: each fits above the one below it, and the last one has one place. -/
def Chain : Int → List Int → Prop
  | _, [] => False
  | _, [x] => x = 1
  | fan, x :: y :: r => 1 ≤ x ∧ x ≤ 4096 ∧ x ≤ fan * y ∧ Chain 8 (y :: r)
structure Plan (P C : Int) (L : List Int) (H : Int) : Prop where
  len : L.length ≤ 3 ∧ 1 ≤ L.length
  chain : Chain 16 (P :: C :: L)
  head : H = (P :: C :: L).sum
theorem Chain.bound : ∀ {rest : List Int} {fan : Int}, Chain fan rest → ∀ x ∈ rest, 1 ≤ x ∧ x ≤ 4096
  | [], _, h => by cases h
  | [x], _, h => by
    have h' : x = 1 := h
    intro y hy
    obtain rfl := List.mem_singleton.1 hy
    omega
  | x :: y :: r, _, h => by
    intro z hz
    obtain ⟨h1, h2, _, h4⟩ := h
    rcases List.mem_cons.1 hz with rfl | hz
    · exact ⟨h1, h2⟩
    · exact Chain.bound h4 z hz
theorem sum_bound : ∀ {l : List Int}, (∀ x ∈ l, 1 ≤ x ∧ x ≤ 4096) → (l.length : Int) ≤ l.sum ∧ l.sum ≤ 4096 * l.length
  | [], _ => by simp
  | x :: r, h => by
    have h1 := h x List.mem_cons_self
    have h2 := sum_bound (l := r) (fun y hy => h y (List.mem_cons_of_mem _ hy))
    simp only [List.sum_cons, List.length_cons]
    omega

/-! ### Parent, as the program looks for it -/
def find (top : Int) : List Int → Int → Int → Int → Int × Int × Int
  | [], _, _, _ => (0, 0, 1)
  | n :: r, fr, fan, b => if b - fr < n then (if b = top then (0, 0, 5) else (fr + n + (b - fr) / fan, (b - fr) % fan, 0)) else find top r (fr + n) 8 b
theorem rd_mid (pre : List Int) (n : Int) (r : List Int) : rd (pre ++ n :: r) (pre.length : Int) = n := by
  unfold rd
  simp
section
variable (P B C N a6 a7 a8 a9 : Int) (L : List Int)
theorem parent_l0 (H : Int) (hH : 1 ≤ H ∧ H ≤ 1000000) : ∀ (rest pre : List Int) (k : Nat) (fr fan b : Int), rest.length < k → (∀ x ∈ rest, 1 ≤ x ∧ x ≤ 4096) → (pre ++ rest).length ≤ 10 → 0 ≤ fr → fr ≤ 4096 * pre.length → fr ≤ b → b ≤ 9223372036854775807 → (fan = 16 ∨ fan = 8) →
    plan_Parent.l0 k b fr fan (pre ++ rest) ((pre ++ rest).length : Int) (pre.length : Int) P B C L N H a6 a7 a8 a9 = some (find (H - 1) rest fr fan b)
  | [], pre, k, fr, fan, b, hk, hr, hl, h0, h1, h2, h3, hf => by
    obtain ⟨k, rfl⟩ : ∃ m, k = m + 1 := ⟨k - 1, by simp at hk; omega⟩
    simp only [plan_Parent.l0]
    rw [if_neg (by simp)]
    rfl
  | n :: r, pre, k, fr, fan, b, hk, hr, hl, h0, h1, h2, h3, hf => by
    obtain ⟨k, rfl⟩ : ∃ m, k = m + 1 := ⟨k - 1, by simp at hk; omega⟩
    have hn := hr n List.mem_cons_self
    have hlen : (pre ++ n :: r).length = pre.length + 1 + r.length := by simp; omega
    simp only [plan_Parent.l0]
    rw [if_pos (by rw [hlen]; omega), if_pos (by omega), if_pos (by rw [hlen]; omega), rd_mid, w64 (x := b - fr) (by omega) (by omega)]
    unfold find
    by_cases h : b - fr < n
    · rw [if_pos h, if_pos h, if_neg (by omega)]
      unfold plan_Top.f
      rw [Option.bind_some, w64 (x := H - 1) (by omega) (by omega)]
      by_cases e : b = H - 1
      · rw [if_pos e, if_pos e]
      · rw [if_neg e, if_neg e, Int.tdiv_eq_ediv_of_nonneg (by omega), Int.tmod_eq_emod_of_nonneg (by omega)]
        have q0 : 0 ≤ (b - fr) / fan := Int.ediv_nonneg (by omega) (by omega)
        have q1 : (b - fr) / fan ≤ b - fr := Int.ediv_le_self _ (by omega)
        rw [w64 (x := fr + n) (by omega) (by omega), w64 (x := (b - fr) / fan) (by omega) (by omega), w64 (by omega) (by omega)]
    · rw [if_neg h, if_neg h]
      have e1 : pre ++ n :: r = (pre ++ [n]) ++ r := by simp
      have ih := parent_l0 H hH r (pre ++ [n]) k (fr + n) 8 b (by simp at hk; omega) (fun x hx => hr x (List.mem_cons_of_mem _ hx)) (by rw [← e1]; exact hl) (by omega) (by simp; omega) (by omega) h3 (.inr rfl)
      rw [← e1] at ih
      rw [w64 (x := fr + n) (by omega) (by omega), w64 (x := (pre.length : Int) + 1) (by omega) (by omega)]
      rw [show (((pre ++ [n]).length : Nat) : Int) = (pre.length : Int) + 1 by simp] at ih
      exact ih
theorem parent_f (H : Int) (hp : Plan P C L H) (k : Nat) (hk : 6 ≤ k) (b : Int) (hb : b ≤ 9223372036854775807) :
    plan_Parent.f k P B C L N H a6 a7 a8 a9 b = some (if b < 0 then (0, 0, 1) else find (H - 1) (P :: C :: L) 0 16 b) := by
  have hbd := hp.chain.bound
  have hs := sum_bound hbd
  have hl := hp.len
  have hh := hp.head
  simp only [List.length_cons] at hs
  unfold plan_Parent.f
  by_cases h : b < 0
  · rw [if_pos h, if_pos h]
  · rw [if_neg h, if_neg h, Option.bind_some, if_pos (by simp; omega), Option.bind_some]
    have := parent_l0 P B C N a6 a7 a8 a9 L H (by omega) (P :: C :: L) [] k 0 16 b (by simp; omega) hbd (by simp; omega) (by omega) (by simp) (by omega) hb (.inl rfl)
    exact this

/-! ### Parent, as the document defines it -/
def lev : List Int → Int → Int → Int × Int
  | [], _, _ => (-1, 0)
  | n :: r, i, a => if a < n then (i, a) else lev r (i + 1) (a - n)
theorem level_l0 : ∀ (rest pre : List Int) (k : Nat) (a : Int), 2 * rest.length + 2 ≤ k → (∀ x ∈ rest, 1 ≤ x ∧ x ≤ 4096) → (pre ++ rest).length ≤ 10 → 0 ≤ a → a ≤ 9223372036854775807 →
    thimbleref16_Level.l0 k a (pre ++ rest) (pre.length : Int) = some (lev rest pre.length a)
  | [], pre, k, a, hk, hr, hl, h0, h1 => by
    obtain ⟨k, rfl⟩ : ∃ m, k = m + 2 := ⟨k - 2, by simp at hk; omega⟩
    simp only [thimbleref16_Level.l0, thimbleref16_Level.j1]
    rw [if_neg (by simp)]
    rfl
  | n :: r, pre, k, a, hk, hr, hl, h0, h1 => by
    obtain ⟨k, rfl⟩ : ∃ m, k = m + 2 := ⟨k - 2, by simp at hk; omega⟩
    have hn := hr n List.mem_cons_self
    have hlen : (pre ++ n :: r).length = pre.length + 1 + r.length := by simp; omega
    simp only [thimbleref16_Level.l0, thimbleref16_Level.j1]
    rw [if_pos (by rw [hlen]; omega), if_pos (by simp; omega), if_pos (by omega), if_pos (by rw [hlen]; omega), rd_mid]
    unfold lev
    by_cases h : a < n
    · rw [if_pos h, if_pos h]
    · rw [if_neg h, if_neg h]
      have e1 : pre ++ n :: r = (pre ++ [n]) ++ r := by simp
      have ih := level_l0 r (pre ++ [n]) k (a - n) (by simp at hk; omega) (fun x hx => hr x (List.mem_cons_of_mem _ hx)) (by rw [← e1]; exact hl) (by omega) (by omega)
      rw [← e1] at ih
      rw [w64 (x := a - n) (by omega) (by omega), w64 (x := (pre.length : Int) + 1) (by omega) (by omega)]
      rw [show (((pre ++ [n]).length : Nat) : Int) = (pre.length : Int) + 1 by simp] at ih
      exact ih
theorem level_f (H : Int) (hp : Plan P C L H) (k : Nat) (hk : 14 ≤ k) (b : Int) (h0 : 0 ≤ b) (hb : b ≤ 9223372036854775807) :
    thimbleref16_Level.f k P B C L N H a6 a7 a8 a9 b = some (lev (P :: C :: L) 0 b) := by
  have hl := hp.len
  unfold thimbleref16_Level.f
  rw [Option.bind_some, if_pos (by simp), Option.bind_some, if_pos (by simp; omega)]
  exact level_l0 (P :: C :: L) [] k b (by simp; omega) hp.chain.bound (by simp; omega) h0 hb
theorem level_neg (H : Int) (hp : Plan P C L H) (k : Nat) (hk : 14 ≤ k) (b : Int) (h0 : b < 0) :
    thimbleref16_Level.f k P B C L N H a6 a7 a8 a9 b = some (-1, 0) := by
  have hl := hp.len
  unfold thimbleref16_Level.f
  rw [Option.bind_some, if_pos (by simp), Option.bind_some, if_pos (by simp; omega)]
  obtain ⟨k, rfl⟩ : ∃ m, k = m + 2 := ⟨k - 2, by omega⟩
  simp only [thimbleref16_Level.l0, thimbleref16_Level.j1]
  rw [if_pos (by simp; omega), if_neg (by simp; omega)]
theorem first_l0 (H : Int) : ∀ (rest pre : List Int) (k : Nat) (m at_ : Int), rest.length < k → (∀ x ∈ rest, 1 ≤ x ∧ x ≤ 4096) → L = pre ++ rest → L.length ≤ 10 → (pre.length : Int) + 2 ≤ m → m ≤ L.length + 2 → 0 ≤ at_ → at_ ≤ 4096 * (pre.length + 2) →
    thimbleref16_First.l0 k m at_ ((pre.length : Int) + 2) P B C L N H a6 a7 a8 a9 = some (at_ + (rest.take (m - pre.length - 2).toNat).sum)
  | [], pre, k, m, at_, hk, hr, hL, hl, h0, h1, h2, h3 => by
    obtain ⟨k, rfl⟩ : ∃ j, k = j + 1 := ⟨k - 1, by simp at hk; omega⟩
    have : L.length = pre.length := by rw [hL]; simp
    simp only [thimbleref16_First.l0]
    rw [if_neg (by omega)]
    simp
  | n :: r, pre, k, m, at_, hk, hr, hL, hl, h0, h1, h2, h3 => by
    obtain ⟨k, rfl⟩ : ∃ j, k = j + 1 := ⟨k - 1, by simp at hk; omega⟩
    have hn := hr n List.mem_cons_self
    have hlen : L.length = pre.length + 1 + r.length := by rw [hL]; simp; omega
    simp only [thimbleref16_First.l0]
    by_cases h : (pre.length : Int) + 2 < m
    · rw [if_pos h, show (pre.length : Int) + 2 - 2 = pre.length by omega, w64 (x := (pre.length : Int)) (by omega) (by omega), if_pos (by omega), if_pos (by omega), show rd L (pre.length : Int) = n by rw [hL]; exact rd_mid _ _ _]
      have e1 : L = (pre ++ [n]) ++ r := by rw [hL]; simp
      have ih := first_l0 H r (pre ++ [n]) k m (at_ + n) (by simp at hk; omega) (fun x hx => hr x (List.mem_cons_of_mem _ hx)) e1 hl (by simp; omega) h1 (by omega) (by simp; omega)
      rw [show (((pre ++ [n]).length : Nat) : Int) = (pre.length : Int) + 1 by simp] at ih
      rw [w64 (x := at_ + n) (by omega) (by omega), w64 (x := (pre.length : Int) + 2 + 1) (by omega) (by omega), show (pre.length : Int) + 2 + 1 = (pre.length : Int) + 1 + 2 by omega, ih]
      rw [show (m - (pre.length : Int) - 2).toNat = (m - ((pre.length : Int) + 1) - 2).toNat + 1 by omega, List.take_succ_cons, List.sum_cons]
      congr 1
      omega
    · rw [if_neg h, show (m - (pre.length : Int) - 2).toNat = 0 by omega]
      simp
theorem first_f (H : Int) (hp : Plan P C L H) (k : Nat) (hk : 14 ≤ k) (m : Nat) (h1 : 1 ≤ m) (h2 : m ≤ L.length + 2) :
    thimbleref16_First.f k P B C L N H a6 a7 a8 a9 (m : Int) = some (((P :: C :: L).take m).sum) := by
  have hl := hp.len
  have hbd := hp.chain.bound
  have hP := hbd P (by simp)
  have hC := hbd C (by simp)
  unfold thimbleref16_First.f
  rw [if_pos (by omega)]
  obtain ⟨k, rfl⟩ : ∃ j, k = j + 2 := ⟨k - 2, by omega⟩
  by_cases e : m = 1
  · subst e
    simp only [thimbleref16_First.j0, thimbleref16_First.j1]
    rw [if_neg (by omega)]
    obtain ⟨k, rfl⟩ : ∃ j, k = j + 1 := ⟨k - 1, by omega⟩
    simp only [thimbleref16_First.l0]
    rw [if_neg (by omega)]
    simp
  · simp only [thimbleref16_First.j0, thimbleref16_First.j1]
    rw [if_pos (by omega), w64 (x := P + C) (by omega) (by omega)]
    have := first_l0 P B C N a6 a7 a8 a9 L H L [] k m (P + C) (by omega) (fun x hx => hbd x (by simp [hx])) rfl (by omega) (by simp; omega) (by omega) (by omega) (by simp; omega)
    simp only [List.length_nil, Int.ofNat_zero, Int.zero_add, Int.sub_zero] at this
    rw [this]
    obtain ⟨j, rfl⟩ : ∃ j, m = j + 2 := ⟨m - 2, by omega⟩
    rw [List.take_succ_cons, List.take_succ_cons, List.sum_cons, List.sum_cons, show (((j + 2 : Nat) : Int) - 2).toNat = j by omega]
    congr 1
    omega
end

theorem lev_spec : ∀ (rest : List Int) (i : Int) (a : Int), (∀ x ∈ rest, 1 ≤ x) → 0 ≤ a → (lev rest i a = (-1, 0) ∧ rest.sum ≤ a) ∨ ∃ (pre : List Int) (x : Int) (post : List Int), rest = pre ++ x :: post ∧ lev rest i a = (i + pre.length, a - pre.sum) ∧ pre.sum ≤ a ∧ a - pre.sum < x
  | [], i, a, hr, h0 => .inl ⟨rfl, by simpa using h0⟩
  | n :: r, i, a, hr, h0 => by
    unfold lev
    by_cases h : a < n
    · rw [if_pos h]
      exact .inr ⟨[], n, r, rfl, by simp, by simpa using h0, by simpa using h⟩
    · rw [if_neg h]
      rcases lev_spec r (i + 1) (a - n) (fun x hx => hr x (List.mem_cons_of_mem _ hx)) (by omega) with ⟨h1, h2⟩ | ⟨pre, x, post, h1, h2, h3, h4⟩
      · exact .inl ⟨h1, by simp; omega⟩
      · refine .inr ⟨n :: pre, x, post, by rw [h1]; rfl, ?_, by simp; omega, by simp; omega⟩
        rw [h2]
        simp
        omega
/-- Going past whole levels. -/
theorem find_skip (top : Int) : ∀ (pre rest : List Int) (fr fan b : Int), (∀ x ∈ pre, 1 ≤ x) → fr + pre.sum ≤ b → find top (pre ++ rest) fr fan b = find top rest (fr + pre.sum) (if pre = [] then fan else 8) b
  | [], rest, fr, fan, b, _, _ => by simp
  | n :: r, rest, fr, fan, b, hr, h => by
    have hs : 0 ≤ r.sum := by
      have : ∀ (l : List Int), (∀ x ∈ l, 1 ≤ x) → 0 ≤ l.sum := by
        intro l
        induction l with
        | nil => simp
        | cons y l ih => intro h; have := h y List.mem_cons_self; have := ih (fun x hx => h x (List.mem_cons_of_mem _ hx)); simp; omega
      exact this r (fun x hx => hr x (List.mem_cons_of_mem _ hx))
    simp only [List.sum_cons] at h
    show find top (n :: (r ++ rest)) fr fan b = _
    rw [find, if_neg (by omega), find_skip top r rest (fr + n) 8 b (fun x hx => hr x (List.mem_cons_of_mem _ hx)) (by omega)]
    simp [Int.add_assoc]
theorem Chain.mid : ∀ {pre : List Int} {x : Int} {post : List Int} {fan : Int}, Chain fan (pre ++ x :: post) → Chain (if pre = [] then fan else 8) (x :: post)
  | [], x, post, fan, h => by simpa using h
  | [n], x, post, fan, h => by simpa using h.2.2.2
  | n :: m :: r, x, post, fan, h => by
    have := Chain.mid (pre := m :: r) h.2.2.2
    simpa using this
/-- The two ways to a block's place are one. -/
theorem find_at {pre : List Int} {x : Int} {post : List Int} {fan H : Int} (hc : Chain fan (pre ++ x :: post)) (hH : H = (pre ++ x :: post).sum) (j : Int) (h0 : 0 ≤ j) (h1 : j < x) :
    find (H - 1) (pre ++ x :: post) 0 fan (pre.sum + j) = if post = [] then (0, 0, 5) else (pre.sum + x + j / (if pre = [] then fan else 8), j % (if pre = [] then fan else 8), 0) := by
  have hb := hc.bound
  have hm := hc.mid
  rw [find_skip (H - 1) pre (x :: post) 0 fan _ (fun y hy => (hb y (by simp [hy])).1) (by omega), find, if_pos (by omega)]
  rw [List.sum_append, List.sum_cons] at hH
  cases post with
  | nil =>
    obtain rfl : x = 1 := hm
    simp only [List.sum_nil] at hH
    rw [if_pos (by omega), if_pos rfl]
  | cons y r =>
    have h2 := sum_bound (l := y :: r) (fun z hz => hb z (by simp at hz ⊢; exact .inr (.inr hz)))
    simp only [List.length_cons] at h2
    rw [if_neg (show ¬ (pre.sum + j = H - 1) by omega), if_neg (show ¬ (y :: r = []) by simp)]
    rw [show pre.sum + j - (0 + pre.sum) = j by omega, show (0 : Int) + pre.sum = pre.sum by omega]
theorem find_out {xs : List Int} {top fan b : Int} (hb : ∀ x ∈ xs, 1 ≤ x) (h : xs.sum ≤ b) : find top xs 0 fan b = (0, 0, 1) := by
  have := find_skip top xs [] 0 fan b hb (by omega)
  rw [List.append_nil] at this
  rw [this]
  rfl
section
variable (P B C N a6 a7 a8 a9 : Int) (L : List Int)
theorem ref_parent_f (H : Int) (hp : Plan P C L H) (k : Nat) (hk : 14 ≤ k) (b : Int) (hb : b ≤ 9223372036854775807) :
    thimbleref16_Parent.f k P B C L N H a6 a7 a8 a9 b = some (if b < 0 then (0, 0, 1) else find (H - 1) (P :: C :: L) 0 16 b) := by
  have hl := hp.len
  have hbd := hp.chain.bound
  unfold thimbleref16_Parent.f
  by_cases h : b < 0
  · rw [if_pos h, level_neg P B C N a6 a7 a8 a9 L H hp k hk b h, Option.bind_some, if_pos (by omega)]
  · rw [if_neg h, level_f P B C N a6 a7 a8 a9 L H hp k hk b (by omega) hb, Option.bind_some]
    rcases lev_spec (P :: C :: L) 0 b (fun x hx => (hbd x hx).1) (by omega) with ⟨e, hs⟩ | ⟨pre, x, post, e1, e2, hs, hx⟩
    · rw [e, if_pos (by omega), find_out (fun x hx => (hbd x hx).1) hs]
    · have hlen : L.length + 2 = pre.length + 1 + post.length := by
        have := congrArg List.length e1
        simp at this
        omega
      have hch := hp.chain
      have hhd := hp.head
      rw [e1] at hch hhd
      have hbx := hbd x (by rw [e1]; simp)
      have hpb := sum_bound (l := pre) (fun y hy => hbd y (by rw [e1]; simp [hy]))
      have hf := find_at hch hhd (b - pre.sum) (by omega) hx
      rw [show pre.sum + (b - pre.sum) = b by omega, ← e1] at hf
      rw [hf, e2]
      simp only [Int.zero_add]
      rw [if_neg (show ¬ ((pre.length : Int) < 0) by omega), w64 (x := (L.length : Int) + 1) (by omega) (by omega)]
      by_cases hpost : post = []
      · rw [if_pos hpost, if_pos (by subst hpost; simp at hlen; omega)]
      · have hpl : 1 ≤ post.length := by cases post <;> simp_all
        rw [if_neg hpost, if_neg (show ¬ ((pre.length : Int) = (L.length : Int) + 1) by omega)]
        have hT : ∀ m : Nat, m = pre.length + 1 → ((P :: C :: L).take m).sum = pre.sum + x := by
          intro m hm
          rw [e1, hm, show pre ++ x :: post = (pre ++ [x]) ++ post by simp, List.take_left' (by simp)]
          simp
        have h1 := first_f P B C N a6 a7 a8 a9 L H hp k hk (pre.length + 1) (by omega) (by omega)
        rw [hT _ rfl] at h1
        have d0 : ∀ f : Int, 1 ≤ f → 0 ≤ (b - pre.sum) / f ∧ (b - pre.sum) / f ≤ b - pre.sum := fun f hf => ⟨Int.ediv_nonneg (by omega) (by omega), Int.ediv_le_self _ (by omega)⟩
        by_cases hpre : pre = []
        · have d := d0 16 (by omega)
          have hz : (pre.length : Int) = 0 := by rw [hpre]; rfl
          rw [if_pos hz, if_pos hpre]
          rw [show ((pre.length + 1 : Nat) : Int) = 1 by omega] at h1
          rw [h1, Option.bind_some, Int.tdiv_eq_ediv_of_nonneg (by omega), Int.tmod_eq_emod_of_nonneg (by omega), w64 (x := (b - pre.sum) / 16) (by omega) (by omega), w64 (by omega) (by omega)]
        · have d := d0 8 (by omega)
          have hz : ¬ (pre.length : Int) = 0 := by
            intro h0
            exact hpre (List.length_eq_zero_iff.mp (by omega))
          rw [if_neg hz, if_neg hpre]
          rw [show ((pre.length + 1 : Nat) : Int) = (pre.length : Int) + 1 by omega] at h1
          rw [w64 (x := (pre.length : Int) + 1) (by omega) (by omega), h1, Option.bind_some, Int.tdiv_eq_ediv_of_nonneg (by omega), Int.tmod_eq_emod_of_nonneg (by omega), w64 (x := (b - pre.sum) / 8) (by omega) (by omega), w64 (by omega) (by omega)]
/-! ### Path -/
/-- The blocks from one of a level's up: 'fr': where the level begins. -/
def up : List Int → Int → Int → Int → List Int
  | x :: y :: r, fr, fan, j => (fr + x + j / fan) :: up (y :: r) (fr + x) 8 (j / fan)
  | _, _, _, _ => []
theorem fan_at (pre : List Int) : (if pre = [] then (16 : Int) else 8) = 16 ∨ (if pre = [] then (16 : Int) else 8) = 8 := by
  by_cases h : pre = [] <;> simp [h]
theorem up_next {x y fan j : Int} (hf : fan = 16 ∨ fan = 8) (hxy : x ≤ fan * y) (h0 : 0 ≤ j) (h1 : j < x) : 0 ≤ j / fan ∧ j / fan < y := by
  rcases hf with rfl | rfl <;> omega

theorem path_l0 (H : Int) (hp : Plan P C L H) : ∀ (rest pre : List Int) (k : Nat) (acc : List Int) (j : Int), rest.length + 14 ≤ k → P :: C :: L = pre ++ rest → rest ≠ [] → acc.length ≤ pre.length → 0 ≤ j → j < rest.headD 0 →
    plan_Path.l0 k acc (pre.sum + j) ((L.length : Int) + 1) (pre.length : Int) P B C L N H a6 a7 a8 a9 = some (acc ++ up rest pre.sum (if pre = [] then 16 else 8) j, 0)
  | [], pre, k, acc, j, hk, he, hne, ha, h0, h1 => absurd rfl hne
  | [x], pre, k, acc, j, hk, he, hne, ha, h0, h1 => by
    obtain ⟨k, rfl⟩ : ∃ m, k = m + 1 := ⟨k - 1, by simp at hk; omega⟩
    have hlen := congrArg List.length he
    simp at hlen
    simp only [plan_Path.l0]
    rw [if_neg (by omega)]
    simp [up]
  | x :: y :: r, pre, k, acc, j, hk, he, hne, ha, h0, h1 => by
    obtain ⟨k, rfl⟩ : ∃ m, k = m + 1 := ⟨k - 1, by simp at hk; omega⟩
    have hl := hp.len
    have hlen := congrArg List.length he
    simp at hlen
    have hbd := hp.chain.bound
    have hch := hp.chain
    have hhd := hp.head
    rw [he] at hch hhd hbd
    have hx := hbd x (by simp)
    have hj : j < x := by simpa using h1
    have hps := sum_bound (l := pre) (fun y hy => hbd y (by simp [hy]))
    have hm := hch.mid
    have hn := up_next (fan_at pre) hm.2.2.1 h0 hj
    have hf := find_at hch hhd j h0 hj
    rw [if_neg (by simp), ← he] at hf
    simp only [plan_Path.l0]
    rw [if_pos (by omega), parent_f P B C N a6 a7 a8 a9 L H hp k (by simp at hk; omega) _ (by omega), Option.bind_some, if_neg (show ¬ (pre.sum + j < 0) by omega), hf]
    dsimp only
    rw [if_pos rfl, if_pos (by omega), w64 (x := (pre.length : Int) + 1) (by omega) (by omega)]
    have e1 : P :: C :: L = (pre ++ [x]) ++ (y :: r) := by rw [he]; simp
    have ih := path_l0 H hp (y :: r) (pre ++ [x]) k (acc ++ [pre.sum + x + j / (if pre = [] then 16 else 8)]) (j / (if pre = [] then 16 else 8)) (by simp at hk ⊢; omega) e1 (by simp) (by simp; omega) hn.1 (by simpa using hn.2)
    rw [show ((pre ++ [x]).length : Int) = (pre.length : Int) + 1 by simp, List.sum_append, List.sum_cons, List.sum_nil, Int.add_zero, if_neg (show ¬ (pre ++ [x] = []) by simp)] at ih
    rw [ih]
    simp [up]
theorem path_f (H : Int) (hp : Plan P C L H) (k : Nat) (hk : 30 ≤ k) (b : Int) (hb : b ≤ 9223372036854775807) :
    plan_Path.f k P B C L N H a6 a7 a8 a9 b = some (if b < 0 ∨ b ≥ P then ([], 1) else (up (P :: C :: L) 0 16 b, 0)) := by
  obtain ⟨k, rfl⟩ : ∃ m, k = m + 1 := ⟨k - 1, by omega⟩
  have hl := hp.len
  unfold plan_Path.f
  by_cases h : b < 0
  · rw [if_pos h, if_pos (.inl h)]
    simp only [plan_Path.j0, if_true]
  · rw [if_neg h]
    by_cases h2 : b ≥ P
    · rw [if_pos (.inr h2)]
      simp only [plan_Path.j0, decide_eq_true h2, if_true]
    · rw [if_neg (by omega)]
      simp only [plan_Path.j0, decide_eq_false h2]
      rw [if_neg (by simp), w64 (x := (L.length : Int) + 1) (by omega) (by omega)]
      have := path_l0 P B C N a6 a7 a8 a9 L H hp (P :: C :: L) [] k [] b (by simp; omega) rfl (by simp) (by simp) (by omega) (by simpa using h2)
      simpa using this
theorem ref_path_l0 (H : Int) (hp : Plan P C L H) : ∀ (rest pre : List Int) (k : Nat) (acc : List Int) (j : Int), rest.length + 20 ≤ k → P :: C :: L = pre ++ rest → rest ≠ [] → acc.length ≤ pre.length → 0 ≤ j → j < rest.headD 0 →
    thimbleref16_Path.l0 k acc (find (H - 1) (P :: C :: L) 0 16 (pre.sum + j)).2.2 P B C L N H a6 a7 a8 a9 (find (H - 1) (P :: C :: L) 0 16 (pre.sum + j)).1 (find (H - 1) (P :: C :: L) 0 16 (pre.sum + j)).2.1 = some (acc ++ up rest pre.sum (if pre = [] then 16 else 8) j, 0)
  | [], pre, k, acc, j, hk, he, hne, ha, h0, h1 => absurd rfl hne
  | [x], pre, k, acc, j, hk, he, hne, ha, h0, h1 => by
    obtain ⟨k, rfl⟩ : ∃ m, k = m + 1 := ⟨k - 1, by simp at hk; omega⟩
    have hch := hp.chain
    have hhd := hp.head
    rw [he] at hch hhd
    have hf := find_at hch hhd j h0 (by simpa using h1)
    rw [if_pos rfl, ← he] at hf
    rw [hf]
    simp only [thimbleref16_Path.l0]
    rw [if_neg (by omega)]
    simp [up]
  | x :: y :: r, pre, k, acc, j, hk, he, hne, ha, h0, h1 => by
    obtain ⟨k, rfl⟩ : ∃ m, k = m + 1 := ⟨k - 1, by simp at hk; omega⟩
    have hl := hp.len
    have hlen := congrArg List.length he
    simp at hlen
    have hbd := hp.chain.bound
    have hch := hp.chain
    have hhd := hp.head
    rw [he] at hch hhd hbd
    have hx := hbd x (by simp)
    have hj : j < x := by simpa using h1
    have hps := sum_bound (l := pre) (fun y hy => hbd y (by simp [hy]))
    have hm := hch.mid
    have hn := up_next (fan_at pre) hm.2.2.1 h0 hj
    have hf := find_at hch hhd j h0 hj
    rw [if_neg (by simp), ← he] at hf
    have hy := hbd y (by simp)
    rw [hf]
    simp only [thimbleref16_Path.l0]
    have hq : 0 ≤ pre.sum + x + j / (if pre = [] then 16 else 8) ∧ pre.sum + x + j / (if pre = [] then 16 else 8) ≤ 100000 := by omega
    rw [if_pos trivial, if_pos (show acc.length < 17592186044416 by omega), ref_parent_f P B C N a6 a7 a8 a9 L H hp k (by simp at hk; omega) _ (by omega), Option.bind_some, if_neg (show ¬ (pre.sum + x + j / (if pre = [] then 16 else 8) < 0) by omega)]
    have e1 : P :: C :: L = (pre ++ [x]) ++ (y :: r) := by rw [he]; simp
    have ih := ref_path_l0 H hp (y :: r) (pre ++ [x]) k (acc ++ [pre.sum + x + j / (if pre = [] then 16 else 8)]) (j / (if pre = [] then 16 else 8)) (by simp at hk ⊢; omega) e1 (by simp) (by simp; omega) hn.1 (by simpa using hn.2)
    rw [List.sum_append, List.sum_cons, List.sum_nil, Int.add_zero, if_neg (show ¬ (pre ++ [x] = []) by simp)] at ih
    rw [ih]
    simp [up]
theorem ref_path_f (H : Int) (hp : Plan P C L H) (k : Nat) (hk : 40 ≤ k) (b : Int) (hb : b ≤ 9223372036854775807) :
    thimbleref16_Path.f k P B C L N H a6 a7 a8 a9 b = some (if b < 0 ∨ b ≥ P then ([], 1) else (up (P :: C :: L) 0 16 b, 0)) := by
  obtain ⟨k, rfl⟩ : ∃ m, k = m + 1 := ⟨k - 1, by omega⟩
  have hl := hp.len
  unfold thimbleref16_Path.f
  by_cases h : b < 0
  · rw [if_pos h, if_pos (.inl h)]
    simp only [thimbleref16_Path.j0, if_true]
  · rw [if_neg h]
    by_cases h2 : b ≥ P
    · rw [if_pos (.inr h2)]
      simp only [thimbleref16_Path.j0, decide_eq_true h2, if_true]
    · rw [if_neg (by omega)]
      simp only [thimbleref16_Path.j0, decide_eq_false h2]
      rw [if_neg (by simp), ref_parent_f P B C N a6 a7 a8 a9 L H hp k (by omega) b hb, Option.bind_some, if_neg h]
      have := ref_path_l0 P B C N a6 a7 a8 a9 L H hp (P :: C :: L) [] k [] b (by simp; omega) rfl (by simp) (by simp) (by omega) (by simpa using h2)
      simpa using this
end
/-! ### what a path is -/
theorem up_len : ∀ (rest : List Int) (fr fan j : Int), (up rest fr fan j).length = rest.length - 1
  | [], _, _, _ => rfl
  | [_], _, _, _ => rfl
  | x :: y :: r, fr, fan, j => by
    rw [up, List.length_cons, up_len (y :: r)]
    simp
theorem up_range : ∀ (rest : List Int) (fr fan j : Int), Chain fan rest → (fan = 16 ∨ fan = 8) → 0 ≤ j → j < rest.headD 0 → ∀ z ∈ up rest fr fan j, fr ≤ z ∧ z < fr + rest.sum
  | [], _, _, _, h, _, _, _ => by cases h
  | [_], _, _, _, _, _, _, _ => by simp [up]
  | x :: y :: r, fr, fan, j, hc, hf, h0, h1 => by
    have hj : j < x := by simpa using h1
    have hn := up_next hf hc.2.2.1 h0 hj
    have hb := hc.2.2.2.bound
    have hs := sum_bound hb
    have hy := hb y (by simp)
    have hr := sum_bound (l := r) (fun z hz => hb z (by simp [hz]))
    intro z hz
    rw [up] at hz
    simp only [List.sum_cons] at hs ⊢
    have hx := hc.1
    rcases List.mem_cons.1 hz with rfl | hz
    · omega
    · have := up_range (y :: r) (fr + x) 8 (j / fan) hc.2.2.2 (.inr rfl) hn.1 (by simpa using hn.2) z hz
      simp only [List.sum_cons] at this
      omega
/-! ### the plan that ref16.Of makes -/
theorem begun_l0 (n s : Int) (hs : 0 < s) (hs2 : s ≤ 1000) (h0 : 0 ≤ n) (hn : n ≤ 1000000) : ∀ (m : Nat) (i : Int), (n + s - 1) / s - i ≤ m → 0 ≤ i → i ≤ (n + s - 1) / s → thimbleref16_begun.l0 (m + 1) n s i = some ((n + s - 1) / s)
  | m, i, hm, hi, hi2 => by
    have hc : (n + s - 1) / s ≤ n + s - 1 := Int.ediv_le_self _ (by omega)
    have hmul : i * s ≤ 2000000000 := by
      have := Int.mul_le_mul (show i ≤ 1001000 by omega) hs2 (by omega) (by omega)
      omega
    have h00 : 0 ≤ i * s := Int.mul_nonneg hi (by omega)
    unfold thimbleref16_begun.l0
    rw [w64 (x := i * s) (by omega) (by omega)]
    by_cases h : i * s < n
    · rw [if_pos h]
      have hlt : i < (n + s - 1) / s := by
        have : i + 1 ≤ (n + s - 1) / s := (Int.le_ediv_iff_mul_le hs).2 (by rw [Int.add_mul]; omega)
        omega
      cases m with
      | zero => omega
      | succ m =>
        rw [w64 (x := i + 1) (by omega) (by omega)]
        exact begun_l0 n s hs hs2 h0 hn m (i + 1) (by omega) (by omega) (by omega)
    · rw [if_neg h]
      have : (n + s - 1) / s < i + 1 := (Int.ediv_lt_iff_lt_mul hs).2 (by rw [Int.add_mul]; omega)
      congr 1
      omega
theorem begun_f (n s : Int) (hs : 0 < s) (hs2 : s ≤ 1000) (h0 : 0 ≤ n) (hn : n ≤ 1000000) (k : Nat) (hk : (n + s - 1) / s < k) : thimbleref16_begun.f k n s = some ((n + s - 1) / s) := by
  obtain ⟨k, rfl⟩ : ∃ m, k = m + 1 := ⟨k - 1, by have : 0 ≤ (n + s - 1) / s := Int.ediv_nonneg (by omega) (by omega); omega⟩
  unfold thimbleref16_begun.f
  exact begun_l0 n s hs hs2 h0 hn k 0 (by omega) (by omega) (Int.ediv_nonneg (by omega) (by omega))
/-- The plan's levels. -/
def levels (C : Int) : List Int := if C ≤ 8 then [1] else [(C + 7) / 8, 1]
theorem of_val (P : Int) (hP : 1 ≤ P) (hP2 : P ≤ 300) (k : Nat) (hk : 400 ≤ k) :
    thimbleref16_Of.f k P 4 = some (P, 4, (P + 15) / 16, levels ((P + 15) / 16), (levels ((P + 15) / 16)).sum, P + (P + 15) / 16 + (levels ((P + 15) / 16)).sum, 1, P + (P + 15) / 16 + (levels ((P + 15) / 16)).sum + 1, P + (P + 15) / 16 + (levels ((P + 15) / 16)).sum + 5, P + (P + 15) / 16 + (levels ((P + 15) / 16)).sum + 9, 0) := by
  obtain ⟨k, rfl⟩ : ∃ m, k = m + 3 := ⟨k - 3, by omega⟩
  obtain ⟨C, hC⟩ : ∃ C, (P + 15) / 16 = C := ⟨_, rfl⟩
  rw [hC]
  have hC1 : 1 ≤ C := by omega
  have hC2 : C ≤ 19 := by omega
  have b1 : thimbleref16_begun.f (k + 2) P 16 = some C := by rw [begun_f P 16 (by omega) (by omega) (by omega) (by omega) _ (by omega), show (P + 16 - 1) / 16 = C by omega]
  have b2 : thimbleref16_begun.f (k + 2) C 8 = some ((C + 7) / 8) := by rw [begun_f C 8 (by omega) (by omega) (by omega) (by omega) _ (by omega), show (C + 8 - 1) / 8 = (C + 7) / 8 by omega]
  have b3 : ∀ m, m = k ∨ m = k + 1 → thimbleref16_begun.f m 28 256 = some 1 := fun m hm => by rw [begun_f 28 256 (by omega) (by omega) (by omega) (by omega) _ (by omega)]; rfl
  have hw : wrap64 (12 + wrap64 (4 * 4)) = 28 := by rw [w64 (x := 4 * 4) (by decide) (by decide), w64 (by decide) (by decide)]; rfl
  unfold thimbleref16_Of.f
  rw [if_neg (by omega), if_neg (by omega), if_neg (by omega)]
  simp only [show decide ((4 : Int) > 256) = false from rfl]
  rw [show k + 3 = (k + 2) + 1 from rfl, thimbleref16_Of.j0, if_neg (by simp), b1, Option.bind_some, b2, Option.bind_some]
  rw [show k + 2 = (k + 1) + 1 from rfl, thimbleref16_Of.l0]
  by_cases h8 : C ≤ 8
  · have e1 : (C + 7) / 8 = 1 := by omega
    rw [e1, if_pos rfl, hw, b3 _ (.inr rfl), Option.bind_some]
    unfold levels
    rw [if_pos h8]
    simp only [List.sum_cons, List.sum_nil, Int.add_zero]
    rw [w64 (x := P + C) (by omega) (by omega), w64 (x := P + C + 1) (by omega) (by omega), w64 (x := P + C + 1 + 1) (by omega) (by omega), w64 (x := P + C + 1 + 1 + 4) (by omega) (by omega), w64 (x := P + C + 1 + 1 + 4 + 4) (by omega) (by omega)]
    congr 1
    simp only [Prod.mk.injEq, true_and, and_true]
    omega
  · have e1 : ¬ ((C + 7) / 8 = 1) := by omega
    rw [if_neg e1, begun_f ((C + 7) / 8) 8 (by omega) (by omega) (by omega) (by omega) _ (by omega), Option.bind_some, show ((C + 7) / 8 + 8 - 1) / 8 = 1 by omega, if_pos (by show 1 < 17592186044416; decide)]
    rw [thimbleref16_Of.l0, if_pos rfl, hw, b3 _ (.inl rfl), Option.bind_some]
    unfold levels
    rw [if_neg h8, w64 (x := (C + 7) / 8 + 1) (by omega) (by omega)]
    simp only [List.sum_cons, List.sum_nil, Int.add_zero, List.singleton_append]
    rw [w64 (x := P + C) (by omega) (by omega), w64 (x := P + C + ((C + 7) / 8 + 1)) (by omega) (by omega), w64 (x := P + C + ((C + 7) / 8 + 1) + 1) (by omega) (by omega), w64 (x := P + C + ((C + 7) / 8 + 1) + 1 + 4) (by omega) (by omega), w64 (x := P + C + ((C + 7) / 8 + 1) + 1 + 4 + 4) (by omega) (by omega)]
    congr 1
    simp only [Prod.mk.injEq, true_and, and_true]
    omega
theorem plan_ok (P : Int) (hP : 1 ≤ P) (hP2 : P ≤ 300) : Plan P ((P + 15) / 16) (levels ((P + 15) / 16)) (P + (P + 15) / 16 + (levels ((P + 15) / 16)).sum) := by
  obtain ⟨C, hC⟩ : ∃ C, (P + 15) / 16 = C := ⟨_, rfl⟩
  rw [hC]
  unfold levels
  by_cases h8 : C ≤ 8
  · rw [if_pos h8]
    refine ⟨⟨by decide, by decide⟩, ⟨by omega, by omega, by omega, by omega, by omega, by omega, rfl⟩, ?_⟩
    simp only [List.sum_cons, List.sum_nil]
    omega
  · rw [if_neg h8]
    refine ⟨⟨by simp, by simp⟩, ⟨by omega, by omega, by omega, by omega, by omega, by omega, by omega, by omega, by omega, rfl⟩, ?_⟩
    simp only [List.sum_cons, List.sum_nil]
    omega
def B8 (l : List Int) : Prop := ∀ x ∈ l, 0 ≤ x ∧ x ≤ 255
theorem made_l (x1 : List Int) (hx : B8 x1) (hxl : x1.length ≤ 9223372036854775807) (P B C : Int) (L : List Int) (N H a6 a7 a8 a9 : Int) (hC : C ≤ 100) (xor8 : ∀ a b : Int, 0 ≤ Go.bits .xor .u8 a b ∧ Go.bits .xor .u8 a b ≤ 255) : ∀ (m : Nat) (i : Int) (x8 : List (List Int)), C - i ≤ m → 0 ≤ i → i ≤ C → (x8.length : Int) = i →
    ∃ k ls, thimblelaw18_made.l0 k x1 x8 i P B C L N H a6 a7 a8 a9 = some (P, B, C, L, N, H, a6, a7, a8, a9, x8 ++ ls) ∧ (ls.length : Int) = C - i ∧ ∀ b ∈ ls, b.length = 256 ∧ B8 b
  | m, i, x8, hm, h0, h1, hl => by
    by_cases h : i < C
    · cases m with
      | zero => omega
      | succ m =>
        have inner : ∀ (q : Nat) (j : Int) (x10 : List Int), 256 - j ≤ q → 0 ≤ j → j ≤ 256 → x10.length = 256 → B8 x10 → ∃ k ls, thimblelaw18_made.l1 k x1 x8 i x10 j P B C L N H a6 a7 a8 a9 = some (P, B, C, L, N, H, a6, a7, a8, a9, x8 ++ ls) ∧ (ls.length : Int) = C - i ∧ ∀ b ∈ ls, b.length = 256 ∧ B8 b := by
          have fin : ∀ x10 : List Int, x10.length = 256 → B8 x10 → ∃ k ls, thimblelaw18_made.l0 k x1 (x8 ++ [x10]) (wrap64 (i + 1)) P B C L N H a6 a7 a8 a9 = some (P, B, C, L, N, H, a6, a7, a8, a9, x8 ++ ls) ∧ (ls.length : Int) = C - i ∧ ∀ b ∈ ls, b.length = 256 ∧ B8 b := by
            intro x10 hx10 hb10
            obtain ⟨k, ls, hk, hll, hb⟩ := made_l x1 hx hxl P B C L N H a6 a7 a8 a9 hC xor8 m (i + 1) (x8 ++ [x10]) (by omega) (by omega) (by omega) (by rw [List.length_append]; simp; omega)
            refine ⟨k, x10 :: ls, ?_, by simp; omega, fun b hb' => ?_⟩
            · rw [w64 (by omega) (by omega), hk]
              simp
            · rcases List.mem_cons.1 hb' with rfl | h
              · exact ⟨hx10, hb10⟩
              · exact hb b h
          intro q
          induction q with
          | zero =>
            intro j x10 hq hj0 hj1 hx10 hb10
            obtain ⟨k, ls, hk, hr⟩ := fin x10 hx10 hb10
            refine ⟨k + 1, ls, ?_, hr⟩
            unfold thimblelaw18_made.l1
            rw [if_pos (show x8.length < 5864062014805 by omega)]
            by_cases hjl : j < (x1.length : Int)
            · rw [if_pos hjl, if_neg (by omega)]; exact hk
            · rw [if_neg hjl]; exact hk
          | succ q ih =>
            intro j x10 hq hj0 hj1 hx10 hb10
            obtain ⟨k, ls, hk, hr⟩ := fin x10 hx10 hb10
            by_cases hjl : j < (x1.length : Int)
            · by_cases hj256 : j < 256
              · obtain ⟨k2, ls2, hk2, hr2⟩ := ih (j + 1) (x10.set j.toNat (Go.bits .xor .u8 (rd x1 j) (i % 256))) (by omega) (by omega) (by omega) (by rw [List.length_set]; exact hx10) (fun y hy => by
                  rcases List.mem_or_eq_of_mem_set hy with h | h
                  · exact hb10 y h
                  · rw [h]; exact xor8 _ _)
                refine ⟨k2 + 1, ls2, ?_, hr2⟩
                unfold thimblelaw18_made.l1
                rw [if_pos hjl, if_pos hj256, if_pos hj0, if_pos (by omega), w64 (by omega) (by omega)]
                exact hk2
              · refine ⟨k + 1, ls, ?_, hr⟩
                unfold thimblelaw18_made.l1
                rw [if_pos hjl, if_neg hj256, if_pos (show x8.length < 5864062014805 by omega)]
                exact hk
            · refine ⟨k + 1, ls, ?_, hr⟩
              unfold thimblelaw18_made.l1
              rw [if_neg hjl, if_pos (show x8.length < 5864062014805 by omega)]
              exact hk
        obtain ⟨k, ls, hk, hr⟩ := inner 256 0 (List.replicate 256 0) (by omega) (by omega) (by omega) List.length_replicate (fun y hy => by rw [List.eq_of_mem_replicate hy]; omega)
        refine ⟨k + 1, ls, ?_, hr⟩
        unfold thimblelaw18_made.l0
        rw [if_pos h, if_pos (by decide)]
        exact hk
    · refine ⟨1, [], ?_, by simp; omega, fun b hb => by simp at hb⟩
      unfold thimblelaw18_made.l0
      rw [if_neg h]
      simp
theorem leO_up {α : Type} {f : Nat → Option α} (h : ∀ k, LeO (f k) (f (k + 1))) {k : Nat} {r : α} (hk : f k = some r) : ∀ m, k ≤ m → f m = some r := by
  intro m hm
  induction m with
  | zero =>
    obtain rfl : k = 0 := by omega
    exact hk
  | succ m ih =>
    by_cases e : k = m + 1
    · rw [← e]; exact hk
    · exact h m r (ih (by omega))
theorem made_val (a0 : Int) (fill : List Int) (hx : B8 fill) (hxl : fill.length ≤ 9223372036854775807) (xor8 : ∀ a b : Int, 0 ≤ Go.bits .xor .u8 a b ∧ Go.bits .xor .u8 a b ≤ 255) (h0 : -9223372036854775808 ≤ a0) (h1 : a0 ≤ 9223372036854775807) :
    ∃ k P ls, thimblelaw18_made.f k a0 fill = some (P, 4, (P + 15) / 16, levels ((P + 15) / 16), (levels ((P + 15) / 16)).sum, P + (P + 15) / 16 + (levels ((P + 15) / 16)).sum, 1, P + (P + 15) / 16 + (levels ((P + 15) / 16)).sum + 1, P + (P + 15) / 16 + (levels ((P + 15) / 16)).sum + 5, P + (P + 15) / 16 + (levels ((P + 15) / 16)).sum + 9, ls) ∧
      1 ≤ P ∧ P ≤ 300 ∧ (ls.length : Int) = (P + 15) / 16 ∧ ∀ b ∈ ls, b.length = 256 ∧ B8 b := by
  obtain ⟨r, hr, r0, r1⟩ := pick_val a0 300 (by decide) (by decide) h0 h1
  obtain ⟨P, hP⟩ : ∃ P, 1 + r = P := ⟨_, rfl⟩
  obtain ⟨k, ls, hk, hll, hb⟩ := made_l fill hx hxl P 4 ((P + 15) / 16) (levels ((P + 15) / 16)) (levels ((P + 15) / 16)).sum (P + (P + 15) / 16 + (levels ((P + 15) / 16)).sum) 1 (P + (P + 15) / 16 + (levels ((P + 15) / 16)).sum + 1) (P + (P + 15) / 16 + (levels ((P + 15) / 16)).sum + 5) (P + (P + 15) / 16 + (levels ((P + 15) / 16)).sum + 9) (by omega) xor8 100 0 [] (by omega) (by omega) (by omega) rfl
  refine ⟨k + 400, P, ls, ?_, by omega, by omega, by omega, hb⟩
  unfold thimblelaw18_made.f
  rw [hr, Option.bind_some, w64 (x := 1 + r) (by omega) (by omega), hP, of_val P (by omega) (by omega) _ (by omega), Option.bind_some]
  exact leO_up (f := fun k => thimblelaw18_made.l0 k fill [] 0 P 4 ((P + 15) / 16) (levels ((P + 15) / 16)) (levels ((P + 15) / 16)).sum (P + (P + 15) / 16 + (levels ((P + 15) / 16)).sum) 1 (P + (P + 15) / 16 + (levels ((P + 15) / 16)).sum + 1) (P + (P + 15) / 16 + (levels ((P + 15) / 16)).sum + 5) (P + (P + 15) / 16 + (levels ((P + 15) / 16)).sum + 9)) (fun k => (thimblelaw18_made.mono_l k).1 _ _ _ _ _ _ _ _ _ _ _ _ _) hk _ (by omega)
end Go.Proofs.YtgmdgkanfhoahaaDoor.PlanP
namespace Go.Proofs.YtgmdgkanfhoahaaDoor.Chk
open Go.RowKit Go.Proofs.YtgmdgkanfhoahaaDoor.ShaPure Go.Proofs.YtgmdgkanfhoahaaDoor.Dig Go.Proofs.YtgmdgkanfhoahaaDoor.Kid Go.Proofs.YtgmdgkanfhoahaaDoor.PlanP
set_option linter.unusedVariables false
set_option linter.unusedSimpArgs false

/-- At which number a block's digest stands in the node above it. -/
def slot (xs : List Int) (H b : Int) : Int := (find (H - 1) xs 0 16 b).2.1
def want (xs : List Int) (H : Int) (bl : List Int) (path : List (List Int)) (root : List Int) (i : Nat) : List Int :=
  if i + 1 < path.length then kid (slot xs H (bl.getD i 0)).toNat (path.getD (i + 1) []) else root
def good (xs : List Int) (H : Int) (bl : List Int) (path : List (List Int)) (root : List Int) (i : Nat) : Bool := dig (bl.getD i 0) (path.getD i []) == want xs H bl path root i
def chk (xs : List Int) (P H page : Int) (path : List (List Int)) (root : List Int) : Int :=
  if page < 0 ∨ page ≥ P then 1
  else if path.length ≠ (up xs 0 16 page).length then 3
  else if path.any (fun b => b.length != 256) then 3
  else if (List.range path.length).all (good xs H (up xs 0 16 page) path root) then 0 else 10
def cps (bl : List Int) (path : List (List Int)) : Nat → List (List Int × List Int)
  | 0 => []
  | i + 1 => cps bl path i ++ [(input (bl.getD i 0) (path.getD i []), dig (bl.getD i 0) (path.getD i []))]
theorem cps_length (bl : List Int) (path : List (List Int)) : ∀ i, (cps bl path i).length = i
  | 0 => rfl
  | i + 1 => by unfold cps; rw [List.length_append, cps_length bl path i]; rfl
/-- Each block of a path but the last one has its place in the next node. -/
theorem up_find {P C : Int} {L : List Int} {H : Int} (hp : Plan P C L H) : ∀ (rest pre : List Int) (j : Int), P :: C :: L = pre ++ rest → rest ≠ [] → 0 ≤ j → j < rest.headD 0 →
    ∀ i, i < (up rest pre.sum (if pre = [] then 16 else 8) j).length → 0 ≤ (up rest pre.sum (if pre = [] then 16 else 8) j).getD i 0 ∧ (up rest pre.sum (if pre = [] then 16 else 8) j).getD i 0 ≤ 100000 ∧
      if i + 1 < (up rest pre.sum (if pre = [] then 16 else 8) j).length then ∃ b a, find (H - 1) (P :: C :: L) 0 16 ((up rest pre.sum (if pre = [] then 16 else 8) j).getD i 0) = (b, a, 0) ∧ 0 ≤ a ∧ a < 8 else find (H - 1) (P :: C :: L) 0 16 ((up rest pre.sum (if pre = [] then 16 else 8) j).getD i 0) = (0, 0, 5)
  | [], pre, j, he, hne, h0, h1 => absurd rfl hne
  | [x], pre, j, he, hne, h0, h1 => by intro i hi; simp [up] at hi
  | x :: y :: r, pre, j, he, hne, h0, h1 => by
    have hch := hp.chain
    have hhd := hp.head
    have hbd := hp.chain.bound
    have hl := hp.len
    rw [he] at hch hhd hbd
    have hj : j < x := by simpa using h1
    have hm := hch.mid
    have hn := up_next (fan_at pre) hm.2.2.1 h0 hj
    have e1 : P :: C :: L = (pre ++ [x]) ++ (y :: r) := by rw [he]; simp
    have ih := up_find hp (y :: r) (pre ++ [x]) (j / (if pre = [] then 16 else 8)) e1 (by simp) hn.1 (by simpa using hn.2)
    rw [List.sum_append, List.sum_cons, List.sum_nil, Int.add_zero, if_neg (show ¬ (pre ++ [x] = []) by simp)] at ih
    intro i hi
    have hu : up (x :: y :: r) pre.sum (if pre = [] then 16 else 8) j = (pre.sum + x + j / (if pre = [] then 16 else 8)) :: up (y :: r) (pre.sum + x) 8 (j / (if pre = [] then 16 else 8)) := rfl
    rw [hu] at hi ⊢
    have hps := sum_bound (l := pre) (fun y hy => hbd y (by simp [hy]))
    have hlen := congrArg List.length he
    simp at hlen
    have hx := hbd x (by simp)
    have hy := hbd y (by simp)
    match i with
    | i + 1 =>
      have hi' : i < (up (y :: r) (pre.sum + x) 8 (j / (if pre = [] then 16 else 8))).length := by simpa using hi
      have := ih i hi'
      simpa using this
    | 0 =>
      have hch2 := hch
      rw [show pre ++ x :: y :: r = (pre ++ [x]) ++ y :: r by simp] at hch2 hhd
      have hf := find_at hch2 hhd (j / (if pre = [] then 16 else 8)) hn.1 hn.2
      rw [List.sum_append, List.sum_cons, List.sum_nil, Int.add_zero, if_neg (show ¬ (pre ++ [x] = []) by simp), ← e1] at hf
      simp only [List.getD_cons_zero, List.length_cons]
      refine ⟨by omega, by omega, ?_⟩
      rw [hf, up_len]
      simp only [List.length_cons]
      by_cases hr : r = []
      · subst hr
        simp
      · have : 0 < r.length := List.length_pos_iff.2 hr
        rw [if_pos (by omega), if_neg hr]
        exact ⟨_, _, rfl, by omega, by omega⟩
theorem up_find0 {P C : Int} {L : List Int} {H : Int} (hp : Plan P C L H) (page : Int) (h0 : 0 ≤ page) (h1 : page < P) (i : Nat) (hi : i < (up (P :: C :: L) 0 16 page).length) : 0 ≤ (up (P :: C :: L) 0 16 page).getD i 0 ∧ (up (P :: C :: L) 0 16 page).getD i 0 ≤ 100000 ∧
      if i + 1 < (up (P :: C :: L) 0 16 page).length then ∃ b a, find (H - 1) (P :: C :: L) 0 16 ((up (P :: C :: L) 0 16 page).getD i 0) = (b, a, 0) ∧ 0 ≤ a ∧ a < 8 else find (H - 1) (P :: C :: L) 0 16 ((up (P :: C :: L) 0 16 page).getD i 0) = (0, 0, 5) := by
  have := up_find hp (P :: C :: L) [] page rfl (by simp) h0 (by simpa using h1) i (by simpa using hi)
  simpa using this
end Go.Proofs.YtgmdgkanfhoahaaDoor.Chk
