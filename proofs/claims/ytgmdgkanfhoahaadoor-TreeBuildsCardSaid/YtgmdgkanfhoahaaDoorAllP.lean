/- The document's tree, built at one go, is the one that is built row by row. -/
import Derived.Test.YtgmdgkanfhoahaaDoorAll
namespace Go.Proofs.YtgmdgkanfhoahaaDoor.AllP
open Go.RowKit Go.Proofs.YtgmdgkanfhoahaaDoor.ShaPure Go.Proofs.YtgmdgkanfhoahaaDoor.Dig Go.Proofs.YtgmdgkanfhoahaaDoor.Above Go.Proofs.YtgmdgkanfhoahaaDoor.Build Go.Proofs.YtgmdgkanfhoahaaDoor.Awake Go.Proofs.YtgmdgkanfhoahaaDoor.PlanP Go.Proofs.YtgmdgkanfhoahaaDoor.All
set_option linter.unusedVariables false
set_option linter.unusedSimpArgs false

/-- With room for y. -/
def padd (o : List (List Int)) (y : Nat) : List (List Int) := o ++ List.replicate (y - o.length) z256
theorem padd_room (o : List (List Int)) (j y : Nat) (ho : o.length = (j + 7) / 8) (hy : j / 8 < y) : padd o y = room o j ++ List.replicate (y - (room o j).length) z256 := by
  unfold padd room
  by_cases h : j % 8 = 0
  · rw [if_pos h, List.length_append, List.append_assoc]
    congr 1
    have e : y - o.length = (y - (o.length + 1)) + 1 := by omega
    rw [e, List.replicate_succ]
    rfl
  · rw [if_neg h]
theorem padd_put (o : List (List Int)) (j y : Nat) (d : List Int) (ho : o.length = (j + 7) / 8) (hy : j / 8 < y) : padd (put (room o j) j d) y = (padd o y).set (j / 8) (splice ((padd o y).getD (j / 8) []) (32 * (j % 8)) d) := by
  have hr : j / 8 < (room o j).length := by rw [room_length, ho]; split <;> omega
  rw [padd_room o j y ho hy]
  unfold padd
  rw [put_length, List.set_append_left _ _ hr, List.getD_eq_getElem?_getD, List.getElem?_append_left hr, ← List.getD_eq_getElem?_getD]
  rfl
theorem padd_length (o : List (List Int)) (y : Nat) (h : o.length ≤ y) : (padd o y).length = y := by unfold padd; rw [List.length_append, List.length_replicate]; omega
/-- One row of blocks laid into the row above it. -/
theorem pass {P C : Int} {L : List Int} {H : Int} (hp : Plan P C L H) (pre : List Int) (x y : Int) (r : List Int) (he : P :: C :: L = pre ++ x :: y :: r) (hpre : pre ≠ []) (hy : y = (x + 7) / 8) (hx0 : 1 ≤ x) (off : Nat) (hoff : (off : Int) = pre.sum - P)
    (A lv Z st0 : List (List Int)) (hA : A.length = off) (hlv : (lv.length : Int) = x) (h0 : allN (P :: C :: L) H P st0 off = A ++ lv ++ List.replicate y.toNat z256 ++ Z) :
    ∀ j : Nat, (j : Int) ≤ x → allN (P :: C :: L) H P st0 (off + j) = A ++ lv ++ padd (aft (P + off) lv j) y.toNat ++ Z
  | 0, _ => by rw [Nat.add_zero, h0]; rfl
  | j + 1, hj => by
    have ih := pass hp pre x y r he hpre hy hx0 off hoff A lv Z st0 hA hlv h0 j (by omega)
    have hch := hp.chain
    have hhd := hp.head
    rw [he] at hch hhd
    have hf := find_at hch hhd j (by omega) (by omega)
    rw [← he, if_neg (by simp), if_neg hpre] at hf
    rw [show off + (j + 1) = (off + j) + 1 by omega]
    show allStep _ _ _ _ _ = _
    unfold allStep
    rw [ih, show P + ((off + j : Nat) : Int) = pre.sum + j by omega, hf, if_pos rfl]
    have hjl : j < lv.length := by omega
    have hg : (A ++ lv ++ padd (aft (P + off) lv j) y.toNat ++ Z).getD (off + j) [] = lv.getD j [] := by
      rw [List.append_assoc, List.append_assoc, List.getD_eq_getElem?_getD, List.getElem?_append_right (by omega), List.getElem?_append_left (by omega), show off + j - A.length = j by omega, ← List.getD_eq_getElem?_getD]
    have hpl := padd_length (aft (P + off) lv j) y.toNat (by rw [aft_length]; omega)
    have ht : (pre.sum + x + (j : Int) / 8 - P).toNat = (A ++ lv).length + j / 8 := by rw [List.length_append, hA]; omega
    have hg2 : (A ++ lv ++ padd (aft (P + off) lv j) y.toNat ++ Z).getD (pre.sum + x + (j : Int) / 8 - P).toNat [] = (padd (aft (P + off) lv j) y.toNat).getD (j / 8) [] := by
      rw [ht, List.append_assoc, List.getD_eq_getElem?_getD, List.getElem?_append_right (by omega), List.getElem?_append_left (by rw [hpl]; omega), show (A ++ lv).length + j / 8 - (A ++ lv).length = j / 8 by omega, ← List.getD_eq_getElem?_getD]
    rw [hg, hg2, ht, List.append_assoc (A ++ lv), List.set_append_right _ _ (by omega), show (A ++ lv).length + j / 8 - (A ++ lv).length = j / 8 by omega, List.set_append_left _ _ (by rw [hpl]; omega)]
    rw [aft, padd_put _ j y.toNat _ (aft_length _ _ _) (by omega), show P + (off : Int) + (j : Int) = pre.sum + j by omega, show ((j : Int) % 8).toNat = j % 8 by omega]
    simp only [List.append_assoc]
theorem padd_full (o : List (List Int)) (y : Nat) (h : o.length = y) : padd o y = o := by unfold padd; rw [h, Nat.sub_self, List.replicate_zero, List.append_nil]
theorem top_step {P C : Int} {L : List Int} {H : Int} (hp : Plan P C L H) (st : List (List Int)) (i : Nat) (hi : P + i = H - 1) : allStep (P :: C :: L) H P st i = st := by
  rcases find_in hp i (by omega) (by omega) with hf | ⟨b, a, hf, _, _, h1, h2⟩
  · unfold allStep; rw [hf, if_neg (by decide)]
  · omega
theorem builds_law (P : Int) (bs : List (List Int)) (hP : 1 ≤ P) (hP2 : P ≤ 300) (C : Int) (hC : (P + 15) / 16 = C) (hbs : (bs.length : Int) = C) (L : List Int) (hL : levels C = L) (N : Int) (hN : L.sum = N) (H : Int) (hH : P + C + N = H) (hp : Plan P C L H) :
    (upN P bs L.length).2.2.length = 1 ∧ allN (P :: C :: L) H P (bs ++ List.replicate N.toNat z256) (bs.length + N.toNat) = bs ++ (upN P bs L.length).1 ∧ (upN P bs L.length).2.1 = H - 1 ∧ (upN P bs L.length).1.length = N.toNat ∧ (bs ++ (upN P bs L.length).1).getD (bs.length + N.toNat - 1) [] = (upN P bs L.length).2.2.getD 0 [] := by
  unfold levels at hL
  by_cases h8 : C ≤ 8
  · rw [if_pos h8] at hL
    subst hL
    have hN1 : N = 1 := by rw [← hN]; rfl
    subst hN1
    have hal : (aft P bs bs.length).length = 1 := by rw [aft_length]; omega
    have hu : upN P bs [(1 : Int)].length = ([] ++ aft P bs bs.length, P + bs.length, aft P bs bs.length) := rfl
    rw [hu]
    have h1 := pass hp [P] C 1 [] rfl (by simp) (by omega) (by omega) 0 (by simp) [] bs [] (bs ++ List.replicate (1 : Int).toNat z256) rfl hbs (by simp [allN]) bs.length (by omega)
    rw [show P + ((0 : Nat) : Int) = P by omega, padd_full _ _ (by rw [hal]; rfl), Nat.zero_add] at h1
    refine ⟨hal, ?_, by show P + (bs.length : Int) = H - 1; omega, by simpa using hal, ?_⟩
    · show allStep _ _ _ (allN _ _ _ _ bs.length) bs.length = _
      rw [top_step hp _ _ (by omega), h1]
      simp
    · show (bs ++ aft P bs bs.length).getD (bs.length + 1 - 1) [] = _
      rw [List.getD_eq_getElem?_getD, List.getElem?_append_right (by omega), show bs.length + 1 - 1 - bs.length = 0 by omega, ← List.getD_eq_getElem?_getD]
  · rw [if_neg h8] at hL
    subst hL
    have hN1 : N = (C + 7) / 8 + 1 := by rw [← hN]; simp
    subst hN1
    obtain ⟨n1, hn1⟩ : ∃ n : Nat, n = (bs.length + 7) / 8 := ⟨_, rfl⟩
    have hal : (aft P bs bs.length).length = n1 := by rw [aft_length, hn1]
    obtain ⟨lv, hlv⟩ : ∃ l, aft P bs bs.length = l := ⟨_, rfl⟩
    rw [hlv] at hal
    have hal2 : (aft (P + bs.length) lv lv.length).length = 1 := by rw [aft_length]; omega
    have hu : upN P bs [((C + 7) / 8 : Int), 1].length = (([] ++ lv) ++ aft (P + bs.length) lv lv.length, P + bs.length + lv.length, aft (P + bs.length) lv lv.length) := by
      rw [← hlv]; rfl
    rw [hu]
    have hz : ((C + 7) / 8 + 1).toNat = n1 + 1 := by omega
    have h1 := pass hp [P] C ((C + 7) / 8) [1] rfl (by simp) rfl (by omega) 0 (by simp) [] bs [z256] (bs ++ List.replicate ((C + 7) / 8 + 1).toNat z256) rfl hbs (by
      rw [hz, List.replicate_succ', show ((C + 7) / 8).toNat = n1 by omega]
      simp [allN]) bs.length (by omega)
    rw [show P + ((0 : Nat) : Int) = P by omega, hlv, padd_full _ _ (by omega), Nat.zero_add] at h1
    have h2 := pass hp [P, C] ((C + 7) / 8) 1 [] rfl (by simp) (by omega) (by omega) bs.length (by simp; omega) bs lv [] (bs ++ List.replicate ((C + 7) / 8 + 1).toNat z256) rfl (by omega) (by rw [h1]; simp) lv.length (by omega)
    rw [padd_full _ _ (by rw [hal2]; rfl)] at h2
    refine ⟨hal2, ?_, by show P + (bs.length : Int) + lv.length = H - 1; omega, by rw [List.length_append, hal2]; simp; omega, ?_⟩
    · rw [hz, ← hal, show bs.length + (lv.length + 1) = (bs.length + lv.length) + 1 by omega]
      show allStep _ _ _ (allN _ _ _ _ (bs.length + lv.length)) (bs.length + lv.length) = _
      rw [top_step hp _ _ (by omega), hal, ← hz, ← hal, h2]
      simp
    · rw [hz, ← hal, List.getD_eq_getElem?_getD, List.nil_append, List.getElem?_append_right (by omega), List.getElem?_append_right (by omega), show bs.length + (lv.length + 1) - 1 - bs.length - lv.length = 0 by omega, ← List.getD_eq_getElem?_getD]
end Go.Proofs.YtgmdgkanfhoahaaDoor.AllP
