/- The contracts of math/bits.RotateLeft32 and of sha.turn at a count from 1 to 31: a word turned about to the right. The world stays. -/
import Derived.Test.YtgmdgkanfhoahaaDoorProg
import Derived.WalkKit
import Derived.Lib.Hide
import Derived.Outline
import Derived.Laws.BitsLemmas
namespace Go.Proofs.YtgmdgkanfhoahaaDoor.ShaRot
open Go.RowKit
set_option linter.unusedVariables false
set_option linter.unusedSimpArgs false

/-- x turned about by n to the right, as the document's text has it. -/
def rotr (x : Int) (n : Nat) : Int := bits .or .u32 (x / 2 ^ n) (x * 2 ^ (32 - n) % 4294967296)
theorem or_comm (k : IntKind) (a b : Int) : bits .or k a b = bits .or k b a := by
  simp only [bits]
  rw [BitVec.or_comm]
theorem and31 : ∀ t : Fin 31, bits .and .u64 (IntKind.u64.wrap (-(1 + (t.val : Int)))) 31 = 31 - (t.val : Int) := by decide +kernel
theorem and31' (n : Nat) (h0 : 1 ≤ n) (h1 : n ≤ 31) : bits .and .u64 (IntKind.u64.wrap (-(n : Int))) 31 = ((32 - n : Nat) : Int) := by
  have := and31 ⟨n - 1, by omega⟩
  rw [show (1 + (((⟨n - 1, by omega⟩ : Fin 31).val : Nat) : Int)) = (n : Int) by simp; omega] at this
  rw [this]
  simp
  omega

set_option maxHeartbeats 1000000 in
set_option maxRecDepth 100000 in
theorem rot_calls (x : Int) (n : Nat) (s : Int) (w : World) (hs : s = -(n : Int)) (h0 : 1 ≤ n) (h1 : n ≤ 31) :
    Calls Tryd.prog 53 #[.int .u32 x, .int .i64 s] w fun e w' => e = .returned (.int .u32 (rotr x n)) ∧ w = w' := by
  obtain ⟨t, ht⟩ : ∃ t : Int, t = ((32 - n : Nat) : Int) := ⟨_, rfl⟩
  have hb : bits .and .u64 (IntKind.u64.wrap s) 31 = t := by rw [hs, and31' n h0 h1, ht]
  have g0 : 1 ≤ t := by omega
  have g1 : t ≤ 31 := by omega
  have hr : rotr x n = bits .or .u32 (x * 2 ^ t.toNat % 4294967296) (x / 2 ^ (32 - t).toNat) := by
    unfold rotr
    rw [or_comm, show t.toNat = 32 - n by omega, show (32 - t).toNat = n by omega]
  have HR := Lib.hid hr
  clear hr ht hs h0 h1
  go_enter Tryd.func53, Tryd.ntmps53
  go_wp2
  go_ret
  exact ⟨by rw [HR.out]; rfl, rfl⟩

set_option maxHeartbeats 1000000 in
set_option maxRecDepth 100000 in
theorem turn_calls (x : Int) (n : Nat) (c : Int) (w : World) (hc : c = (n : Int)) (h0 : 1 ≤ n) (h1 : n ≤ 31) :
    Calls Tryd.prog 52 #[.int .u32 x, .int .i64 c] w fun e w' => e = .returned (.int .u32 (rotr x n)) ∧ w = w' := by
  have c0 : 1 ≤ c := by omega
  have c1 : c ≤ 31 := by omega
  have hs : -c = -(n : Int) := by omega
  have HS := Lib.hid hs
  clear hs hc
  go_enter Tryd.func52, Tryd.ntmps52
  go_wp2_with (go_at_call 53; refine (rot_calls x n _ _ HS.out h0 h1).mono ?_; rintro e w' ⟨rfl, rfl⟩)
  go_ret
  exact ⟨rfl, rfl⟩

set_option maxHeartbeats 1000000 in
set_option maxRecDepth 100000 in
/-- The document's own turn. -/
theorem rotr_calls (x : Int) (n : Nat) (c : Int) (w : World) (hc : c = (n : Int)) (h0 : 1 ≤ n) (h1 : n ≤ 31) :
    Calls Tryd.prog 46 #[.int .u32 x, .int .u64 c] w fun e w' => e = .returned (.int .u32 (rotr x n)) ∧ w = w' := by
  have c0 : 1 ≤ c := by omega
  have c1 : c ≤ 31 := by omega
  have hr : rotr x n = bits .or .u32 (x / 2 ^ c.toNat) (x * 2 ^ (32 - c).toNat % 4294967296) := by
    unfold rotr
    rw [show c.toNat = n by omega, show (32 - c).toNat = 32 - n by omega]
  have HR := Lib.hid hr
  clear hr hc
  go_enter Tryd.func46, Tryd.ntmps46
  go_wp2
  go_ret
  exact ⟨by rw [HR.out]; rfl, rfl⟩
end Go.Proofs.YtgmdgkanfhoahaaDoor.ShaRot
