/- The library's bytes.Clone, bytes.Join of two parts, bytes.Equal, in the words of rows of whole numbers. -/
import Derived.Test.YtgmdgkanfhoahaaDoorShelf
import Derived.Test.YtgmdgkanfhoahaaDoorShaOf
import Derived.Lib.Bytes
namespace Go.Proofs.YtgmdgkanfhoahaaDoor.BytesW
open Go.RowKit Go.Proofs.YtgmdgkanfhoahaaDoor.ShaPure Go.Proofs.YtgmdgkanfhoahaaDoor.ShaSum Go.Proofs.YtgmdgkanfhoahaaDoor.ShaOf Go.Proofs.YtgmdgkanfhoahaaDoorW.PrintWords Go.Proofs.YtgmdgkanfhoahaaDoorW.PrintLast Go.Proofs.YtgmdgkanfhoahaaDoorW.PrintMore
set_option linter.unusedVariables false
set_option linter.unusedSimpArgs false

theorem u8_back (x : Int) (h : 0 ≤ x ∧ x ≤ 255) : ((UInt8.ofNat x.toNat).toNat : Int) = x := by
  rw [UInt8.toNat_ofNat']
  omega
theorem bytes_inj : ∀ {a b : List Int}, Bytes a → Bytes b → Lib.bytesOf a = Lib.bytesOf b → a = b
  | [], [], _, _, _ => rfl
  | [], _ :: _, _, _, h => by simp [Lib.bytesOf] at h
  | _ :: _, [], _, _, h => by simp [Lib.bytesOf] at h
  | x :: a, y :: b, ha, hb, h => by
    simp only [Lib.bytesOf, List.map_cons, List.cons.injEq] at h
    have h1 := u8_back x (ha x List.mem_cons_self)
    have h2 := u8_back y (hb y List.mem_cons_self)
    rw [h.1, h2] at h1
    rw [h1, bytes_inj (fun z hz => ha z (List.mem_cons_of_mem _ hz)) (fun z hz => hb z (List.mem_cons_of_mem _ hz)) h.2]
theorem bytesOf_len (l : List Int) : (Lib.bytesOf l).length = l.length := by simp [Lib.bytesOf]
theorem C_cell {w : World} {ad : Addr} {n : Nat} {l : List Int} (h : Kd.C (Kd.int .u8) w (some ad) n l) (i : Nat) (hi : i < l.length) : w.cell? (ad.add i) = some (.int .u8 (l.getD i 0)) := by
  have hl := h.1
  obtain ⟨ad', e, hc⟩ := Kd.at_int h (i : Int) (by omega) (by omega)
  injection e with e
  subst e
  simpa [rd] using hc
theorem holds_bytes {w : World} {A : Option Addr} {c : Nat} {l : List Int} (h : Kd.C (Kd.int .u8) w A l.length l) (hb : Bytes l) : Lib.HoldsBytes w (.slice A l.length c) (Lib.bytesOf l) := by
  refine ⟨A, c, by rw [bytesOf_len], fun hA => ?_, fun a ha i x hx => ?_⟩
  · by_cases hl : 0 < l.length
    · obtain ⟨ad, e, _⟩ := Kd.at_int h 0 (by omega) (by omega)
      rw [hA] at e
      simp at e
    · have : l = [] := List.eq_nil_of_length_eq_zero (by omega)
      rw [this]
      rfl
  · subst ha
    have hi : i < l.length := by
      have := (List.getElem?_eq_some_iff.1 hx).1
      rwa [bytesOf_len] at this
    rw [C_cell h i hi]
    unfold Lib.bytesOf at hx
    rw [List.getElem?_map, List.getElem?_eq_getElem hi] at hx
    simp only [Option.map_some, Option.some.injEq] at hx
    rw [← hx, u8_back _ (hb _ (List.getElem_mem hi)), List.getD_eq_getElem?_getD, List.getElem?_eq_getElem hi]
    rfl
theorem fresh_row {B : Nat} {w : World} {v : Value} {l : List Int} (h : Lib.FreshBytes B w v (Lib.bytesOf l)) (hb : Bytes l) :
    ∃ g cap, v = .slice (some ⟨g, 0, none⟩) l.length cap ∧ B ≤ g ∧ l.length ≤ cap ∧ Kd.C (Kd.int .u8) w (some ⟨g, 0, none⟩) l.length l := by
  obtain ⟨g, cap, zs, rfl, hB, hc, hm, hz, hr, he, hcell, _⟩ := h
  rw [bytesOf_len] at he hc ⊢
  have ht : zs.take l.length = l := bytes_inj (fun x hx => by have := hr x (List.mem_of_mem_take hx); omega) hb he
  refine ⟨g, cap, rfl, hB, hc, Kd.C_of_reads (enc := Value.int .u8) (d := (0 : Int)) (h1 := fun _ => rfl) ⟨rfl, by unfold maxLen at hm; omega, fun hn => ⟨_, rfl, fun j hj => ?_⟩⟩⟩
  rw [ShaWrite.add_at, hcell j (by omega)]
  conv => rhs; rw [← ht]
  rw [List.getD_eq_getElem?_getD, List.getD_eq_getElem?_getD, List.getElem?_take, if_pos hj]

theorem clone_calls (A : Option Addr) (c : Nat) (l : List Int) (w : World) (hC : Kd.C (Kd.int .u8) w A l.length l) (hl : l.length ≤ 100000000000000) :
    Calls Tryd.prog 31 #[.slice A l.length c] w fun e w' => ∃ v, e = .returned v ∧ Kd.R (Kd.int .u8) 5 w' w.heap.size (fun _ => True) v l ∧ Below w.heap.size w w' := by
  cases A with
  | none =>
    have hn : l = [] := by
      by_cases h0 : 0 < l.length
      · obtain ⟨ad, e, _⟩ := Kd.at_int hC 0 (by omega) (by omega)
        simp at e
      · exact List.eq_nil_of_length_eq_zero (by omega)
    subst hn
    refine (Tryd.bytes_Clone_nil 0 c w).mono ?_
    rintro e w' ⟨rfl, rfl⟩
    exact ⟨_, rfl, Kd.R_nil _ _ _ _ _, Below.refl _ _⟩
  | some ad =>
    refine (Tryd.bytes_Clone_at ad l.length c l w rfl (by omega) (fun i hi => C_cell hC i hi)).mono ?_
    rintro e w' ⟨v, rfl, ho, -, hb⟩
    exact ⟨v, rfl, Kd.R_of_own (enc := Value.int .u8) (h1 := fun _ => rfl) ho (fun _ _ => trivial), hb⟩

theorem join_calls (pb : Nat) (e : TypeId) (A1 A2 : Option Addr) (c1 c2 : Nat) (l1 l2 : List Int) (w : World) (hp : w.heap[pb]? = some (.cells #[.slice A1 l1.length c1, .slice A2 l2.length c2] e (0, 0)))
    (h1 : Kd.C (Kd.int .u8) w A1 l1.length l1) (h2 : Kd.C (Kd.int .u8) w A2 l2.length l2) (b1 : Bytes l1) (b2 : Bytes l2) (hl : l1.length + l2.length ≤ 100000000000000) :
    Calls Tryd.prog 41 #[.slice (some ⟨pb, 0, none⟩) 2 2, .slice none 0 0] w fun e w' => ∃ g cap, e = .returned (.slice (some ⟨g, 0, none⟩) (l1 ++ l2).length cap) ∧ w.heap.size ≤ g ∧ (l1 ++ l2).length ≤ cap ∧ Kd.C (Kd.int .u8) w' (some ⟨g, 0, none⟩) (l1 ++ l2).length (l1 ++ l2) ∧ Below w.heap.size w w' := by
  have hP : Lib.PartsAt w ⟨pb, 0, none⟩ [.slice A1 l1.length c1, .slice A2 l2.length c2] [Lib.bytesOf l1, Lib.bytesOf l2] := by
    refine ⟨rfl, fun i v hv => ?_, fun i v l hv hl => ?_⟩
    · rw [ShaWrite.add_at, blk_cell hp i]
      simpa using hv
    · match i with
      | 0 =>
        simp at hv hl
        subst hv
        subst hl
        exact holds_bytes h1 b1
      | 1 =>
        simp at hv hl
        subst hv
        subst hl
        exact holds_bytes h2 b2
      | n + 2 => simp at hv
  have hJ : Lib.join [Lib.bytesOf l1, Lib.bytesOf l2] [] = Lib.bytesOf (l1 ++ l2) := by simp [Lib.join, List.intercalate, Lib.bytesOf]
  refine (Tryd.bytes_Join_many pb 0 2 2 _ _ (.slice none 0 0) [] w rfl (Nat.le_refl _) hP (Nat.le_refl _) ⟨none, 0, rfl, fun _ => rfl, fun a h => by simp at h⟩ (by decide) (by simp [Lib.lens, bytesOf_len]; omega)).mono ?_
  rintro e w' ⟨v, rfl, hf, hb⟩
  rw [hJ] at hf
  obtain ⟨g, cap, rfl, hg, hc, hC⟩ := fresh_row hf (by intro x hx; rcases List.mem_append.1 hx with h | h; exact b1 x h; exact b2 x h)
  exact ⟨g, cap, rfl, hg, hc, hC, hb⟩
end Go.Proofs.YtgmdgkanfhoahaaDoor.BytesW
