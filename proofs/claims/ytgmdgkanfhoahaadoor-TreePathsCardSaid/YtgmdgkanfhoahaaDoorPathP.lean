/- A path in the tree that was built; a path with one byte turned. -/
import Derived.Test.YtgmdgkanfhoahaaDoorTreePla
import Derived.Test.YtgmdgkanfhoahaaDoorTreeBld
namespace Go.Proofs.YtgmdgkanfhoahaaDoor.PathP
open Go.RowKit Go.Proofs.YtgmdgkanfhoahaaDoor.ShaPure Go.Proofs.YtgmdgkanfhoahaaDoor.Dig Go.Proofs.YtgmdgkanfhoahaaDoor.Hdr Go.Proofs.YtgmdgkanfhoahaaDoor.Above Go.Proofs.YtgmdgkanfhoahaaDoor.Build Go.Proofs.YtgmdgkanfhoahaaDoor.Kid Go.Proofs.YtgmdgkanfhoahaaDoor.PlanP Go.Proofs.YtgmdgkanfhoahaaDoor.Chk
set_option linter.unusedVariables false
set_option linter.unusedSimpArgs false

theorem kid_same {x d : List Int} {a : Nat} (hx : x.length = 256) (hd : d.length = 32) (ha : a < 8) : kid a (splice x (32 * a) d) = d := by
  unfold kid splice
  rw [List.append_assoc, List.drop_append_of_le_length (by rw [List.length_take]; omega), List.drop_of_length_le (by rw [List.length_take]; omega), List.nil_append, List.take_append_of_le_length (by omega), List.take_of_length_le (by omega)]
theorem kid_other {x d : List Int} {a b : Nat} (hx : x.length = 256) (hd : d.length = 32) (ha : a < 8) (hb : b < 8) (hne : a ≠ b) : kid b (splice x (32 * a) d) = kid b x := by
  unfold kid splice
  apply List.ext_getElem?
  intro j
  rw [List.getElem?_take, List.getElem?_take]
  by_cases hj : j < 32
  · rw [if_pos hj, if_pos hj, List.getElem?_drop, List.getElem?_drop]
    have hl : (x.take (32 * a)).length = 32 * a := by rw [List.length_take]; omega
    by_cases hlt : b < a
    · rw [List.append_assoc, List.getElem?_append_left (by omega), List.getElem?_take, if_pos (by omega)]
    · rw [List.getElem?_append_right (by rw [List.length_append]; omega), List.getElem?_drop]
      congr 1
      rw [List.length_append]
      omega
  · rw [if_neg hj, if_neg hj]
theorem room_at (o : List (List Int)) (i j : Nat) (ho : o.length = (j + 7) / 8) (hi : i < j) : (room o j).getD (i / 8) [] = o.getD (i / 8) [] := by
  unfold room
  split
  · rw [List.getD_eq_getElem?_getD, List.getElem?_append_left (by omega), ← List.getD_eq_getElem?_getD]
  · rfl
/-- Behind j blocks each of them has its digest in its place. -/
theorem aft_kid (n : Int) (bs : List (List Int)) : ∀ (j i : Nat), i < j → kid (i % 8) ((aft n bs j).getD (i / 8) []) = dig (n + i) (bs.getD i [])
  | 0, i, h => by omega
  | j + 1, i, h => by
    have hl := aft_length n bs j
    have hr : j / 8 < (room (aft n bs j) j).length := by rw [room_length, hl]; split <;> omega
    have hmem : ∀ y ∈ room (aft n bs j) j, y.length = 256 := fun y hm => by
      unfold room at hm
      split at hm
      · rcases List.mem_append.1 hm with hm | hm
        · exact aft_full n bs j _ hm
        · rw [List.mem_singleton.1 hm]
          exact List.length_replicate
      · exact aft_full n bs j _ hm
    have hfull : ∀ k, k < (room (aft n bs j) j).length → ((room (aft n bs j) j).getD k []).length = 256 := fun k hk => by
      refine hmem _ ?_
      rw [List.getD_eq_getElem?_getD, List.getElem?_eq_getElem hk]
      exact List.getElem_mem hk
    rw [aft, put]
    by_cases hi : i = j
    · subst hi
      rw [List.getD_eq_getElem?_getD, List.getElem?_set_self hr, Option.getD_some]
      exact kid_same (hfull _ hr) (dig_length _ _) (by omega)
    · have ih := aft_kid n bs j i (by omega)
      by_cases he : i / 8 = j / 8
      · rw [he, List.getD_eq_getElem?_getD, List.getElem?_set_self hr, Option.getD_some, kid_other (hfull _ hr) (dig_length _ _) (by omega) (by omega) (by omega), ← he, room_at _ i j hl (by omega), ih]
      · rw [List.getD_eq_getElem?_getD, List.getElem?_set_ne (fun e => he e.symm), ← List.getD_eq_getElem?_getD, room_at _ i j hl (by omega), ih]
/-- What stands at the blocks bl behind the pages. -/
def pathOf (all : List (List Int)) (P : Int) (bl : List Int) : List (List Int) := bl.map fun b => all.getD (b - P).toNat []
/-- The path of each page of the tree that was built is good. -/
theorem built_good (P : Int) (bs : List (List Int)) (hP : 1 ≤ P) (hP2 : P ≤ 300) (hb256 : ∀ b ∈ bs, b.length = 256) (C : Int) (hC : (P + 15) / 16 = C) (hbs : (bs.length : Int) = C) (L : List Int) (hL : levels C = L) (N : Int) (hN : L.sum = N) (H : Int) (hH : P + C + N = H)
    (page : Int) (h0 : 0 ≤ page) (h1 : page < P) (hone : (upN P bs L.length).2.1 = H - 1) :
    chk (P :: C :: L) P H page (pathOf (bs ++ (upN P bs L.length).1) P (up (P :: C :: L) 0 16 page)) (dig (H - 1) ((upN P bs L.length).2.2.getD 0 [])) = 0 := by
  have hat : ∀ (X : List (List Int)) (k : Nat), k < bs.length → (bs ++ X).getD k [] = bs.getD k [] := fun X k hk => by
    rw [List.getD_eq_getElem?_getD, List.getElem?_append_left hk, ← List.getD_eq_getElem?_getD]
  have hat2 : ∀ (A B : List (List Int)) (k : Nat), A.length ≤ k → (A ++ B).getD k [] = B.getD (k - A.length) [] := fun A B k hk => by
    rw [List.getD_eq_getElem?_getD, List.getElem?_append_right hk, ← List.getD_eq_getElem?_getD]
  have hbl : ∀ k, k < bs.length → (bs.getD k []).length = 256 := fun k hk => by
    rw [List.getD_eq_getElem?_getD, List.getElem?_eq_getElem hk]
    exact hb256 _ (List.getElem_mem hk)
  have hal : ∀ n (l : List (List Int)) j k, k < (aft n l j).length → ((aft n l j).getD k []).length = 256 := fun n l j k hk => by
    rw [List.getD_eq_getElem?_getD, List.getElem?_eq_getElem hk]
    exact aft_full n l j _ (List.getElem_mem hk)
  obtain ⟨c, hc⟩ : ∃ c : Nat, page / 16 = c := ⟨(page / 16).toNat, by omega⟩
  have hcC : (c : Int) < C := by omega
  unfold levels at hL
  by_cases h8 : C ≤ 8
  · rw [if_pos h8] at hL
    subst hL
    have hN1 : N = 1 := by rw [← hN]; rfl
    subst hN1
    have hu : up (P :: C :: [1]) 0 16 page = [P + c, P + C] := by
      simp only [up, hc]
      have : (c : Int) / 8 = 0 := by omega
      rw [this]
      simp
    rw [hu]
    have hl1 := aft_length P bs bs.length
    obtain ⟨x1, hx1⟩ : ∃ x1, (aft P bs bs.length).getD 0 [] = x1 := ⟨_, rfl⟩
    have hk := aft_kid P bs bs.length c (by omega)
    rw [show c / 8 = 0 by omega, hx1] at hk
    have hp : pathOf (bs ++ aft P bs bs.length) P [P + c, P + C] = [bs.getD c [], x1] := by
      simp only [pathOf, List.map_cons, List.map_nil]
      rw [show (P + (c : Int) - P).toNat = c by omega, show (P + C - P).toNat = bs.length by omega, hat _ _ (by omega), hat2 _ _ _ (Nat.le_refl _), Nat.sub_self, hx1]
    show chk _ _ _ _ (pathOf (bs ++ aft P bs bs.length) P [P + c, P + C]) (dig (H - 1) ((aft P bs bs.length).getD 0 [])) = 0
    rw [hp, hx1]
    have hs : slot (P :: C :: [1]) H (P + c) = ((c % 8 : Nat) : Int) := by
      unfold slot
      simp only [find]
      rw [if_neg (by omega), if_pos (by omega), if_neg (by omega)]
      show (P + (c : Int) - (0 + P)) % 8 = _
      omega
    have l0 := hbl c (by omega)
    obtain ⟨x0, hx0⟩ : ∃ x, bs.getD c [] = x := ⟨_, rfl⟩
    rw [hx0] at l0 hk ⊢
    have l1 : x1.length = 256 := by rw [← hx1]; exact hal _ _ _ _ (by omega)
    unfold chk
    rw [if_neg (by omega), if_neg (by rw [hu]; simp), if_neg (by simp [l0, l1]), if_pos]
    rw [hu]
    simp only [List.all_eq_true, List.mem_range]
    intro i hi
    have hi2 : i < 2 := hi
    unfold good want
    rw [beq_iff_eq]
    match i with
    | 0 =>
      rw [if_pos (by simp)]
      simp only [List.getD_cons_zero, List.getD_cons_succ]
      rw [hs, Int.toNat_natCast]
      exact hk.symm
    | 1 =>
      rw [if_neg (by simp)]
      simp only [List.getD_cons_zero, List.getD_cons_succ]
      rw [show H - 1 = P + C by omega]
    | i + 2 => omega
  · rw [if_neg h8] at hL
    subst hL
    obtain ⟨M, hM⟩ : ∃ M, (C + 7) / 8 = M := ⟨_, rfl⟩
    rw [hM] at hN ⊢
    have hN1 : N = M + 1 := by rw [← hN]; simp
    subst hN1
    obtain ⟨lv, hlv⟩ : ∃ lv, aft P bs bs.length = lv := ⟨_, rfl⟩
    have hl1 : (lv.length : Int) = M := by rw [← hlv, aft_length]; omega
    obtain ⟨d, hd⟩ : ∃ d : Nat, c / 8 = d := ⟨_, rfl⟩
    have hu : up (P :: C :: [M, 1]) 0 16 page = [P + c, P + C + d, P + C + M] := by
      simp only [up, hc]
      have h3 : (c : Int) / 8 = d := by omega
      have h4 : (d : Int) / 8 = 0 := by omega
      rw [h3, h4]
      simp
    rw [hu]
    have hl2 := aft_length (P + bs.length) lv lv.length
    obtain ⟨x2, hx2⟩ : ∃ x2, (aft (P + bs.length) lv lv.length).getD 0 [] = x2 := ⟨_, rfl⟩
    have hk := aft_kid P bs bs.length c (by omega)
    rw [hd, hlv] at hk
    have hk2 := aft_kid (P + bs.length) lv lv.length d (by omega)
    rw [show d / 8 = 0 by omega, hx2] at hk2
    have hp : pathOf (bs ++ (lv ++ aft (P + bs.length) lv lv.length)) P [P + c, P + C + d, P + C + M] = [bs.getD c [], lv.getD d [], x2] := by
      simp only [pathOf, List.map_cons, List.map_nil]
      rw [show (P + (c : Int) - P).toNat = c by omega, show (P + C + (d : Int) - P).toNat = bs.length + d by omega, show (P + C + M - P).toNat = bs.length + lv.length by omega, hat _ _ (by omega), hat2 bs _ _ (by omega), hat2 bs _ _ (by omega),
        show bs.length + d - bs.length = d by omega, show bs.length + lv.length - bs.length = lv.length by omega, hat2 lv _ _ (Nat.le_refl _), Nat.sub_self, hx2]
      congr 2
      rw [List.getD_eq_getElem?_getD, List.getElem?_append_left (by omega), ← List.getD_eq_getElem?_getD]
    show chk _ _ _ _ (pathOf (bs ++ (aft P bs bs.length ++ aft (P + bs.length) (aft P bs bs.length) (aft P bs bs.length).length)) P [P + c, P + C + d, P + C + M]) (dig (H - 1) ((aft (P + bs.length) (aft P bs bs.length) (aft P bs bs.length).length).getD 0 [])) = 0
    rw [hlv]
    rw [hp, hx2]
    have hs : slot (P :: C :: [M, 1]) H (P + c) = ((c % 8 : Nat) : Int) := by
      unfold slot
      simp only [find]
      rw [if_neg (by omega), if_pos (by omega), if_neg (by omega)]
      show (P + (c : Int) - (0 + P)) % 8 = _
      omega
    have hs2 : slot (P :: C :: [M, 1]) H (P + C + d) = ((d % 8 : Nat) : Int) := by
      unfold slot
      simp only [find]
      rw [if_neg (by omega), if_neg (by omega), if_pos (by omega), if_neg (by omega)]
      show (P + C + (d : Int) - (0 + P + C)) % 8 = _
      omega
    have l0 := hbl c (by omega)
    obtain ⟨x0, hx0⟩ : ∃ x, bs.getD c [] = x := ⟨_, rfl⟩
    rw [hx0] at l0 hk ⊢
    have l1 : (lv.getD d []).length = 256 := by rw [← hlv]; exact hal _ _ _ _ (by rw [hlv]; omega)
    obtain ⟨x1, hx1⟩ : ∃ x, lv.getD d [] = x := ⟨_, rfl⟩
    rw [hx1] at l1 hk hk2 ⊢
    have l2 : x2.length = 256 := by rw [← hx2]; exact hal _ _ _ _ (by omega)
    unfold chk
    rw [if_neg (by omega), if_neg (by rw [hu]; simp), if_neg (by simp [l0, l1, l2]), if_pos]
    rw [hu]
    simp only [List.all_eq_true, List.mem_range]
    intro i hi
    have hi2 : i < 3 := hi
    unfold good want
    rw [beq_iff_eq]
    match i with
    | 0 =>
      rw [if_pos (by simp)]
      simp only [List.getD_cons_zero, List.getD_cons_succ]
      rw [hs, Int.toNat_natCast]
      exact hk.symm
    | 1 =>
      rw [if_pos (by simp)]
      simp only [List.getD_cons_zero, List.getD_cons_succ]
      rw [hs2, Int.toNat_natCast, hk2, hbs]
    | 2 =>
      rw [if_neg (by simp)]
      simp only [List.getD_cons_zero, List.getD_cons_succ]
      rw [show H - 1 = P + C + M by omega]
    | i + 3 => omega
/-- One block turned: refused, or two blocks with one digest. -/
theorem turned (xs : List Int) (P H page : Int) (path : List (List Int)) (root : List Int) (m : Nat) (y : List Int) (h0 : chk xs P H page path root = 0) (hm : m < path.length) (hy : y.length = 256) :
    chk xs P H page (path.set m y) root = 10 ∨ (chk xs P H page (path.set m y) root = 0 ∧ dig ((up xs 0 16 page).getD m 0) y = dig ((up xs 0 16 page).getD m 0) (path.getD m [])) := by
  unfold chk at h0 ⊢
  split at h0
  · omega
  rename_i c1
  split at h0
  · omega
  rename_i c2
  split at h0
  · omega
  rename_i c3
  split at h0
  · rename_i c4
    rw [if_neg c1, List.length_set, if_neg c2, if_neg (by
      simp only [List.any_eq_true, not_exists, not_and] at c3 ⊢
      intro b hb
      rcases List.mem_or_eq_of_mem_set hb with hb | hb
      · exact c3 b hb
      · rw [hb, hy]; decide)]
    by_cases c5 : ((List.range path.length).all (good xs H (up xs 0 16 page) (path.set m y) root)) = true
    · right
      rw [if_pos c5]
      refine ⟨rfl, ?_⟩
      have g1 := List.all_eq_true.1 c4 m (List.mem_range.2 hm)
      have g2 := List.all_eq_true.1 c5 m (List.mem_range.2 hm)
      unfold good at g1 g2
      rw [beq_iff_eq] at g1 g2
      have hw : want xs H (up xs 0 16 page) (path.set m y) root m = want xs H (up xs 0 16 page) path root m := by
        unfold want
        rw [List.length_set, List.getD_eq_getElem?_getD (l := path.set m y), List.getElem?_set_ne (by omega), ← List.getD_eq_getElem?_getD]
      have hg : (path.set m y).getD m [] = y := by rw [List.getD_eq_getElem?_getD, List.getElem?_set_self hm, Option.getD_some]
      rw [hw, hg] at g2
      rw [g1, g2]
    · left
      rw [if_neg c5]
  · omega
/-- Two inputs with one digest. -/
def Clash (ps : List (List Int × List Int)) : Prop := ∃ p ∈ ps, ∃ q ∈ ps, p.2 = q.2 ∧ p.1 ≠ q.1
theorem cps_mem (bl : List Int) (path : List (List Int)) : ∀ (n m : Nat), m < n → (input (bl.getD m 0) (path.getD m []), dig (bl.getD m 0) (path.getD m [])) ∈ cps bl path n
  | 0, m, h => by omega
  | n + 1, m, h => by
    unfold cps
    by_cases he : m = n
    · subst he
      exact List.mem_append_right _ (List.mem_singleton.2 rfl)
    · exact List.mem_append_left _ (cps_mem bl path n m (by omega))
theorem clash_of (bl : List Int) (path : List (List Int)) (m : Nat) (y : List Int) (hm : m < path.length) (hne : y ≠ path.getD m []) (hd : dig (bl.getD m 0) y = dig (bl.getD m 0) (path.getD m [])) (ps : List (List Int × List Int)) :
    Clash (ps ++ cps bl path path.length ++ cps bl (path.set m y) path.length) := by
  refine ⟨_, List.mem_append_left _ (List.mem_append_right _ (cps_mem bl path path.length m hm)), _, List.mem_append_right _ (cps_mem bl (path.set m y) path.length m hm), ?_, ?_⟩
  · simp only [List.getD_eq_getElem?_getD, List.getElem?_set_self hm, Option.getD_some] at hd ⊢
    exact hd.symm
  · simp only [List.getD_eq_getElem?_getD, List.getElem?_set_self hm, Option.getD_some] at hne ⊢
    intro e
    unfold input at e
    exact hne (List.append_cancel_left e).symm
end Go.Proofs.YtgmdgkanfhoahaaDoor.PathP
