/- The arguments of the laws, opened; the table of the rounds, as the row lists it. -/
import Derived.Test.YtgmdgkanfhoahaaDoorRows
import Derived.Test.YtgmdgkanfhoahaaDoorTreeRow
import Derived.WalkKit
import Derived.ProofKit
import Derived.OpenShut
import Derived.Lib.LaidTab
namespace Go.Proofs.YtgmdgkanfhoahaaDoor.Open
open Go.ChangeShapes Go.WideShapes Go.ChangeAt
open Go.RowKit Go.Proofs.YtgmdgkanfhoahaaDoor.ShaPure Go.Proofs.YtgmdgkanfhoahaaDoor.ShaBlk Go.Proofs.YtgmdgkanfhoahaaDoor.ShaSum Go.Proofs.YtgmdgkanfhoahaaDoor.ShaOf Go.Proofs.YtgmdgkanfhoahaaDoor.Dig Go.Proofs.YtgmdgkanfhoahaaDoor.Hdr Go.Proofs.YtgmdgkanfhoahaaDoorW.PrintWords Go.Proofs.YtgmdgkanfhoahaaDoorW.PrintLast Go.Proofs.YtgmdgkanfhoahaaDoorW.PrintMore
set_option linter.unusedVariables false
set_option linter.unusedSimpArgs false

theorem bounds_u8 {n : Int} (h : (Lit.int .u8 n).wf = true) : 0 ≤ n ∧ n ≤ 255 := by
  simp [Lit.wf, IntKind.min, IntKind.max, IntKind.signed, IntKind.bits] at h
  omega
section
variable {H : Type} {enc : TypeId × Value → H} {w : World} {base : Nat} {sp : Nat → Bool} {held : Bool}
theorem cells_one {b : Nat} {a : Addr} {c1 : List Value} (h : w.cells? b a 1 = some c1) : ∃ c, c1 = [c] ∧ w.cell? a = some c := by
  have e0 : a.add 0 = a := by simp [Addr.add]
  unfold World.cells? at h
  split at h
  · simp only [List.range_succ, List.range_zero, List.nil_append, List.mapM_cons, List.mapM_nil, e0] at h
    cases hcc : w.cell? a with
    | none => simp [hcc] at h
    | some c =>
      simp [hcc] at h
      exact ⟨c, h.symm, rfl⟩
  · cases h
/-- A slice of bytes. -/
theorem open_b {fuel : Nat} {cs : List Value} {x : DataW H × List MemPlace} (h : DataW.trod enc Tryd.prog w base sp held fuel 22 cs = some x) :
    ∃ (A : Option Addr) (c : Nat) (l : List Int), cs = [.slice A l.length c] ∧ l.length ≤ c ∧ Kd.C (Kd.int .u8) w A l.length l ∧ Bytes l := by
  rcases open_ints Tryd.underlying22 Tryd.underlying5 (by kernel_rfl) h with ⟨hcs, _⟩ | ⟨a, len, cap, zs, hcs, _, hl, hm, hz, _, hcell, hwz⟩
  · exact ⟨none, 0, [], hcs, Nat.le_refl _, Kd.C_nil _ _, fun x hx => by simp at hx⟩
  · have hlz : len ≤ zs.length := by split at hz <;> omega
    have ht : (zs.take len).length = len := by rw [List.length_take]; omega
    refine ⟨some a, cap, zs.take len, by rw [ht]; exact hcs, by rw [ht]; exact hl, ?_, fun x hx => bounds_u8 (hwz x (List.mem_of_mem_take hx))⟩
    rw [ht]
    refine Kd.C_of_reads (enc := Value.int .u8) (d := (0 : Int)) (h1 := fun _ => rfl) ⟨ht, by unfold maxLen at hm; omega, fun hn => ⟨a, rfl, fun j hj => ?_⟩⟩
    rw [hcell j (by omega), List.getD_eq_getElem?_getD, List.getD_eq_getElem?_getD, List.getElem?_take, if_pos hj]
/-- A slice of slices of bytes. -/
theorem open_bb {fuel : Nat} {cs : List Value} {x : DataW H × List MemPlace} (h : DataW.trod enc Tryd.prog w base sp held fuel 26 cs = some x) :
    ∃ (A : Option Addr) (c : Nat) (path : List (List Int)), cs = [.slice A path.length c] ∧ path.length ≤ c ∧ BB.C w A path.length path ∧ ∀ b ∈ path, Bytes b := by
  rcases DataW.trod_slice Tryd.underlying26 h with ⟨hcs, _⟩ | ⟨a, len, cap, elems, rest, n, _, hcs, _, _, hl, hm, hlen, hel, _, _⟩
  · exact ⟨none, 0, [], hcs, Nat.le_refl _, Kd.C_nil _ _, fun x hx => by simp at hx⟩
  · have c22 : Tryd.prog.cellsOf 22 = 1 := by kernel_rfl
    rw [c22] at hel
    have each : ∀ i : Fin len, ∃ p : List Int, ∃ A1 c1, w.cell? (a.add i) = some (.slice A1 p.length c1) ∧ p.length ≤ c1 ∧ Kd.C (Kd.int .u8) w A1 p.length p ∧ Bytes p := by
      intro i
      have hi := hel i i.2
      rw [Nat.mul_one, List.getElem?_eq_getElem (by omega)] at hi
      obtain ⟨c1, h1, h2⟩ := Option.bind_eq_some_iff.1 hi
      obtain ⟨c, rfl, hc⟩ := cells_one h1
      obtain ⟨A1, cc, p, e, hp, hC, hb⟩ := open_b h2
      injection e with e
      exact ⟨p, A1, cc, by rw [hc, e], hp, hC, hb⟩
    refine ⟨some a, cap, List.ofFn fun i => Classical.choose (each i), by rw [List.length_ofFn]; exact hcs, by rw [List.length_ofFn]; exact hl, ?_, ?_⟩
    · refine ⟨rfl, by rw [List.length_ofFn]; unfold maxLen at hm; omega, fun hn => ⟨a, rfl, fun j p hj => ?_⟩⟩
      have hjl : j < len := by
        have := (List.getElem?_eq_some_iff.1 hj).1
        rwa [List.length_ofFn] at this
      rw [List.getElem?_ofFn, dif_pos hjl] at hj
      injection hj with hj
      obtain ⟨A1, c1, hcell, hp, hC, _⟩ := Classical.choose_spec (each ⟨j, hjl⟩)
      rw [hj] at hcell hp hC
      refine ⟨[.slice A1 p.length c1], rfl, ⟨A1, c1, rfl, hp, hC⟩, fun i u hu => ?_⟩
      cases i with
      | succ i => simp at hu
      | zero =>
        have hu' : (Value.slice A1 p.length c1) = u := by simpa using hu
        rw [← hu', show j * BB.sz + 0 = j from Nat.mul_one j]
        exact hcell
    · intro b hb
      obtain ⟨i, rfl⟩ := (List.mem_ofFn ..).1 hb
      obtain ⟨_, _, _, _, _, h⟩ := Classical.choose_spec (each i)
      exact h
/-- An array of 32 bytes. -/
theorem open_a32 {fuel : Nat} {cs : List Value} {x : DataW H × List MemPlace} (h : DataW.trod enc Tryd.prog w base sp held fuel 29 cs = some x) : ∃ l : List Int, cs = nums .u8 l ∧ l.length = 32 ∧ Bytes l := by
  obtain ⟨xs, m, -, -, hl, hx, hel⟩ := DataW.trod_array Tryd.underlying29 h
  have c5 : Tryd.prog.cellsOf 5 = 1 := by kernel_rfl
  have c29 : Tryd.prog.cellsOf 29 = 32 := by kernel_rfl
  rw [c29] at hl
  rw [c5] at hel
  have each : ∀ i : Fin 32, ∃ n : Int, cs[i.1]? = some (.int .u8 n) ∧ 0 ≤ n ∧ n ≤ 255 := by
    intro i
    have hi := hel i i.2
    rw [Nat.mul_one, List.getElem?_eq_getElem (by omega)] at hi
    obtain ⟨n, e, -, hw⟩ := DataW.trod_int Tryd.underlying5 hi
    refine ⟨n, ?_, bounds_u8 hw⟩
    have hc : i.1 < cs.length := by omega
    rw [List.drop_eq_getElem_cons hc] at e
    simp only [List.take_succ_cons, List.take_zero, List.cons.injEq, and_true] at e
    rw [List.getElem?_eq_getElem hc, e]
  refine ⟨List.ofFn fun i => Classical.choose (each i), ?_, List.length_ofFn, ?_⟩
  · apply List.ext_getElem?
    intro j
    by_cases hj : j < 32
    · have := (Classical.choose_spec (each ⟨j, hj⟩)).1
      rw [this, nums, List.getElem?_map, List.getElem?_ofFn, dif_pos hj]
      rfl
    · rw [List.getElem?_eq_none (by omega), List.getElem?_eq_none (by rw [nums, List.length_map, List.length_ofFn]; omega)]
  · intro y hy
    obtain ⟨i, rfl⟩ := (List.mem_ofFn ..).1 hy
    exact (Classical.choose_spec (each i)).2
end
/-- The laid variable. -/
theorem Tryd.gRounds : Tryd.prog.globalNamed "thimble/sha.rounds" = some 1 := by kernel_rfl
theorem Tryd.gRoundsType : (Tryd.prog.globals[(1 : Nat)]?).map (·.type) = some 90 := by kernel_rfl
theorem table {W : World} (h : laidMetH Tryd.prog Rows.treeChecksRow.laid W) : Lib.TabIs Tryd.prog W "thimble/sha.rounds" .u32 KT :=
  Lib.tabIs_of_head (rest := []) Tryd.gRounds Tryd.gRoundsType Tryd.underlying90 Tryd.underlying79 (by kernel_rfl) (by kernel_rfl) h
theorem tab_of {W : World} (h : laidMetH Tryd.prog Rows.treeChecksRow.laid W) : Tab W := by
  have hc : ∀ i : Nat, i < 64 → W.cell? ⟨1, i, none⟩ = some (.int .u32 (KT.getD i 0)) := fun i hi => by
    have := (table h).cell Tryd.gRounds i (by show i < 64; exact hi)
    exact this
  refine ⟨World.block_lt_of_cell? W _ (hc 0 (by decide)), fun i h0 h1 => ?_⟩
  have := hc i.toNat (by omega)
  unfold rd
  exact this
end Go.Proofs.YtgmdgkanfhoahaaDoor.Open
