/- The contracts of sha.New and Write in a call's own memory. -/
import Derived.Test.YtgmdgkanfhoahaaDoorShaWrite
namespace Go.Proofs.YtgmdgkanfhoahaaDoor.ShaSum
open Go.RowKit Go.Proofs.YtgmdgkanfhoahaaDoor.ShaRot Go.Proofs.YtgmdgkanfhoahaaDoor.ShaPure Go.Proofs.YtgmdgkanfhoahaaDoor.ShaBlk Go.Proofs.YtgmdgkanfhoahaaDoor.ShaWrite Go.Proofs.YtgmdgkanfhoahaaDoorW.PrintWords Go.Proofs.YtgmdgkanfhoahaaDoorW.PrintLast Go.Proofs.YtgmdgkanfhoahaaDoorW.PrintMore
set_option linter.unusedVariables false
set_option linter.unusedSimpArgs false

/-- The rounds' words lie in memory. -/
def Tab (w : World) : Prop := 1 < w.heap.size ∧ ∀ i : Int, 0 ≤ i → i < 64 → w.cell? ⟨1, i.toNat, none⟩ = some (.int .u32 (rd KT i))
theorem cell_same {w W : World} {a : Addr} {u : Value} (h : w.cell? a = some u) (hk : W.heap[a.block]? = w.heap[a.block]?) : W.cell? a = some u := (World.cell?_of_block hk).trans h
theorem cell_lt {w : World} {a : Addr} {u : Value} (h : w.cell? a = some u) : a.block < w.heap.size := by
  by_cases hb : a.block < w.heap.size
  · exact hb
  · rw [World.cell?, Array.getElem?_eq_none (by omega)] at h
    simp at h
theorem Tab.below {w w' : World} (h : Tab w) (hb : Below w.heap.size w w') : Tab w' :=
  ⟨by have := h.1; have := hb.size; omega, fun i h0 h1 => cell_same (h.2 i h0 h1) (hb.block _ h.1)⟩
theorem low_C {w0 W : World} {A : Option Addr} {n : Nat} {xs : List Int} (h : (Kd.int .u8).C w0 A n xs) (hk : ∀ b, b < w0.heap.size → W.heap[b]? = w0.heap[b]?) : (Kd.int .u8).C W A n xs := by
  have hr := Kd.reads_of_C (enc := Value.int .u8) (d := (0 : Int)) (h1 := fun _ => rfl) h
  refine Kd.C_of_reads (enc := Value.int .u8) (d := (0 : Int)) (h1 := fun _ => rfl) ⟨hr.1, hr.2.1, fun hn => ?_⟩
  obtain ⟨ad, e, hc⟩ := hr.2.2 hn
  exact ⟨ad, e, fun j hj => cell_same (hc j hj) (hk _ (cell_lt (hc j hj)))⟩
theorem keep_low {w0 w W : World} {gs : Nat} {own : Option Nat} (hB : Below w0.heap.size w0 w) (hk : KeepBut w W gs own) (hgs : w0.heap.size ≤ gs) (ho : ∀ k, own = some k → w0.heap.size ≤ k) :
    ∀ b, b < w0.heap.size → W.heap[b]? = w0.heap[b]? := fun b hb => (hk.2 b (by have := hB.size; omega) (by omega) (fun e => by have := ho b e.symm; omega)).trans (hB.block b hb)
theorem one_C {W : World} {g : Nat} {e : TypeId} {x : Int} (h : W.heap[g]? = some (.cells #[.int .u8 x] e (0, 0))) : (Kd.int .u8).C W (some ⟨g, 0, none⟩) 1 [x] := by
  refine Kd.C_of_reads (enc := Value.int .u8) (d := (0 : Int)) (h1 := fun _ => rfl) ⟨rfl, by decide, fun hn => ⟨_, rfl, fun j hj => ?_⟩⟩
  obtain rfl : j = 0 := by omega
  rw [ShaWrite.add_at]
  exact (blk_cell h 0).trans rfl

set_option maxHeartbeats 4000000 in
theorem new_calls (w : World) : Calls Tryd.prog 48 #[] w fun e w' => e = .returned (.pointer (some ⟨w.heap.size, 0, none⟩)) ∧ SumAt w' w.heap.size w.heap.size H0 [] 0 (.slice none 0 0) ∧ Below w.heap.size w w' ∧ w'.heap.size = w.heap.size + 1 := by
  go_enter Tryd.func48, Tryd.ntmps48
  go_wp2
  go_ret
  refine ⟨rfl, ⟨(blk_new _ _).trans ?_, Kd.R_nil _ _ _ _ _⟩, below_alloc (Below.refl _ _) _, by simp⟩
  rfl

theorem write_from (w0 : World) (gs : Nat) (v : V8) (r : List Int) (n : Int) (rv : Value) (A : Option Addr) (c : Nat) (l : List Int) (w : World) (hT : Tab w0)
    (hs : SumAt w gs w0.heap.size v r n rv) (hB : Below w0.heap.size w0 w) (hgs : w0.heap.size ≤ gs) (hr : r.length < 64) (hrb : Bytes r) (hlb : Bytes l) (hn : 0 ≤ n) (hnl : n + l.length ≤ 1000000000000000) (hc : l.length ≤ c)
    (hp : ∀ W', KeepBut w W' gs rv.ownBlock → Kd.C (Kd.int .u8) W' A l.length l) :
    Calls Tryd.prog 49 #[.pointer (some ⟨gs, 0, none⟩), .slice A l.length c] w fun e w' => e = .returned (.tuple #[]) ∧
      ∃ rv', SumAt w' gs w0.heap.size (absorb (v, r) l).1 (absorb (v, r) l).2 (n + l.length) rv' ∧ Below w0.heap.size w0 w' ∧ KeepBut w w' gs rv.ownBlock ∧ (rv'.ownBlock = rv.ownBlock ∨ ∃ b, rv'.ownBlock = some b ∧ w.heap.size ≤ b) := by
  have ho := Kd.R_base hs.2
  refine (write_calls gs w0.heap.size v r n rv A c l w hs (by have := hB.size; omega) hgs hr hrb hlb hn hnl hc hp ?_).mono ?_
  · intro W' hk i h0 h1
    exact cell_same (hT.2 i h0 h1) (keep_low hB hk hgs ho _ hT.1)
  · rintro e w' ⟨he, rv', hs', hb', hk', ho'⟩
    exact ⟨he, rv', hs', hB.trans hb', hk', ho'⟩
/-- An argument that lay there before. -/
theorem write_low (w0 : World) (gs : Nat) (v : V8) (r : List Int) (n : Int) (rv : Value) (A : Option Addr) (c : Nat) (l : List Int) (w : World) (hT : Tab w0)
    (hs : SumAt w gs w0.heap.size v r n rv) (hB : Below w0.heap.size w0 w) (hgs : w0.heap.size ≤ gs) (hr : r.length < 64) (hrb : Bytes r) (hlb : Bytes l) (hn : 0 ≤ n) (hnl : n + l.length ≤ 1000000000000000) (hc : l.length ≤ c)
    (hp : Kd.C (Kd.int .u8) w0 A l.length l) :
    Calls Tryd.prog 49 #[.pointer (some ⟨gs, 0, none⟩), .slice A l.length c] w fun e w' => e = .returned (.tuple #[]) ∧
      ∃ rv', SumAt w' gs w0.heap.size (absorb (v, r) l).1 (absorb (v, r) l).2 (n + l.length) rv' ∧ Below w0.heap.size w0 w' ∧ KeepBut w w' gs rv.ownBlock ∧ (rv'.ownBlock = rv.ownBlock ∨ ∃ b, rv'.ownBlock = some b ∧ w.heap.size ≤ b) :=
  write_from w0 gs v r n rv A c l w hT hs hB hgs hr hrb hlb hn hnl hc (fun W' hk => low_C hp (keep_low hB hk hgs (Kd.R_base hs.2)))
/-- One byte that has just been made. -/
theorem write_one (w0 : World) (gs : Nat) (v : V8) (r : List Int) (n : Int) (rv : Value) (x : Int) (w : World) (hT : Tab w0)
    (hs : SumAt w gs w0.heap.size v r n rv) (hB : Below w0.heap.size w0 w) (hgs : w0.heap.size ≤ gs) (hr : r.length < 64) (hrb : Bytes r) (hx : 0 ≤ x ∧ x ≤ 255) (hn : 0 ≤ n) (hnl : n ≤ 900000000000000) :
    Calls Tryd.prog 49 #[.pointer (some ⟨gs, 0, none⟩), .slice (some ⟨w.heap.size, 0, none⟩) 1 1] (w.alloc (.cells #[.int .u8 x] 5 (0, 0))) fun e w' => e = .returned (.tuple #[]) ∧
      ∃ rv', SumAt w' gs w0.heap.size (ShaPure.step (v, r) x).1 (ShaPure.step (v, r) x).2 (n + 1) rv' ∧ Below w0.heap.size w0 w' ∧ KeepBut w w' gs rv.ownBlock ∧ (rv'.ownBlock = rv.ownBlock ∨ ∃ b, rv'.ownBlock = some b ∧ w.heap.size ≤ b) := by
  have hlt := blk_lt hs.1
  have hol := Kd.R_lt hs.2
  refine (write_from w0 gs v r n rv (some ⟨w.heap.size, 0, none⟩) 1 [x] (w.alloc (.cells #[.int .u8 x] 5 (0, 0))) hT ⟨blk_alloc hs.1 _, Kd.R_below hs.2 (below_alloc (Below.refl _ _) _)⟩ (below_alloc hB _) hgs hr hrb (by intro y hy; simp at hy; subst hy; exact hx) hn (by simp; omega) (by simp) ?_).mono ?_
  · intro W' hk
    refine one_C (e := 5) ((hk.2 w.heap.size (by simp) (by omega) (fun e => ?_)).trans (blk_new _ _))
    have := hol _ e.symm
    omega
  · rintro e w' ⟨he, rv', hs', hb', hk', ho'⟩
    refine ⟨he, rv', hs', hb', ⟨by have := hk'.1; simp at this; omega, fun i hi h1 h2 => (hk'.2 i (by simp; omega) h1 h2).trans (heap_alloc_old w _ hi)⟩, ?_⟩
    rcases ho' with h | ⟨b, h1, h2⟩
    · exact .inl h
    · exact .inr ⟨b, h1, by simp at h2; omega⟩
end Go.Proofs.YtgmdgkanfhoahaaDoor.ShaSum
