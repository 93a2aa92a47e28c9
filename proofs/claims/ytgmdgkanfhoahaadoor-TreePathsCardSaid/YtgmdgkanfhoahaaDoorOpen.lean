/- The arguments of the laws, opened; the table of the rounds, as the row lists it. -/
import Derived.Test.YtgmdgkanfhoahaaDoorRows
import Derived.Test.YtgmdgkanfhoahaaDoorTreeRow
import Derived.WalkKit
import Derived.ProofKit
import Derived.OpenShut
import Derived.Lib.LaidTab
namespace Go.Proofs.YtgmdgkanfhoahaaDoor.Open
open Go.ChangeShapes Go.WideShapes Go.ChangeAt
open Go.RowKit Go.Proofs.YtgmdgkanfhoahaaDoor.ShaPure Go.Proofs.YtgmdgkanfhoahaaDoor.ShaBlk Go.Proofs.YtgmdgkanfhoahaaDoor.ShaSum Go.Proofs.YtgmdgkanfhoahaaDoor.ShaOf Go.Proofs.YtgmdgkanfhoahaaDoor.Dig Go.Proofs.YtgmdgkanfhoahaaDoor.Hdr Go.Proofs.YtgmdgkanfhoahaaDoorW.PrintWords Go.Proofs.YtgmdgkanfhoahaaDoorW.PrintLast Go.Proofs.YtgmdgkanfhoahaaDoorW.PrintMore
set_option linter.unusedVariables false
set_option linter.unusedSimpArgs false

theorem bounds_u8 {n : Int} (h : (Lit.int .u8 n).wf = true) : 0 ≤ n ∧ n ≤ 255 := by
  simp [Lit.wf, IntKind.min, IntKind.max, IntKind.signed, IntKind.bits] at h
  omega
section
variable {H : Type} {enc : TypeId × Value → H} {w : World} {base : Nat} {sp : Nat → Bool} {held : Bool}
/-- A slice of bytes. -/
theorem open_b {fuel : Nat} {cs : List Value} {x : DataW H × List MemPlace} (h : DataW.trod enc Tryd.prog w base sp held fuel 22 cs = some x) :
    ∃ (A : Option Addr) (c : Nat) (l : List Int), cs = [.slice A l.length c] ∧ l.length ≤ c ∧ Kd.C (Kd.int .u8) w A l.length l ∧ Bytes l := by
  rcases open_ints Tryd.underlying22 Tryd.underlying5 (by kernel_rfl) h with ⟨hcs, _⟩ | ⟨a, len, cap, zs, hcs, _, hl, hm, hz, _, hcell, hwz⟩
  · exact ⟨none, 0, [], hcs, Nat.le_refl _, Kd.C_nil _ _, fun x hx => by simp at hx⟩
  · have hlz : len ≤ zs.length := by split at hz <;> omega
    have ht : (zs.take len).length = len := by rw [List.length_take]; omega
    refine ⟨some a, cap, zs.take len, by rw [ht]; exact hcs, by rw [ht]; exact hl, ?_, fun x hx => bounds_u8 (hwz x (List.mem_of_mem_take hx))⟩
    rw [ht]
    refine Kd.C_of_reads (enc := Value.int .u8) (d := (0 : Int)) (h1 := fun _ => rfl) ⟨ht, by unfold maxLen at hm; omega, fun hn => ⟨a, rfl, fun j hj => ?_⟩⟩
    rw [hcell j (by omega), List.getD_eq_getElem?_getD, List.getD_eq_getElem?_getD, List.getElem?_take, if_pos hj]
end
/-- The laid variable. -/
theorem Tryd.gRounds : Tryd.prog.globalNamed "thimble/sha.rounds" = some 1 := by kernel_rfl
theorem Tryd.gRoundsType : (Tryd.prog.globals[(1 : Nat)]?).map (·.type) = some 90 := by kernel_rfl
theorem table {W : World} (h : laidMetH Tryd.prog Rows.treeChecksRow.laid W) : Lib.TabIs Tryd.prog W "thimble/sha.rounds" .u32 KT :=
  Lib.tabIs_of_head (rest := []) Tryd.gRounds Tryd.gRoundsType Tryd.underlying90 Tryd.underlying79 (by kernel_rfl) (by kernel_rfl) h
theorem tab_of {W : World} (h : laidMetH Tryd.prog Rows.treeChecksRow.laid W) : Tab W := by
  have hc : ∀ i : Nat, i < 64 → W.cell? ⟨1, i, none⟩ = some (.int .u32 (KT.getD i 0)) := fun i hi => by
    have := (table h).cell Tryd.gRounds i (by show i < 64; exact hi)
    exact this
  refine ⟨World.block_lt_of_cell? W _ (hc 0 (by decide)), fun i h0 h1 => ?_⟩
  have := hc i.toNat (by omega)
  unfold rd
  exact this
end Go.Proofs.YtgmdgkanfhoahaaDoor.Open
