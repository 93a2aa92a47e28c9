/- The law PlanPaths holds: for every input the Go call returns true, and every argument reads afterwards as it read before. No conditions. -/
import Derived.Test.YtgmdgkanfhoahaaRows
import Derived.Test.YtgmdgkanfhoahaaHLawPp
import Derived.Test.YtgmdgkanfhoahaaHPure
import Derived.WalkKit
import Derived.ProofKit
import Derived.OpenShut
import Derived.ShutString
import Derived.ChangeOld
import Derived.Below
import Derived.SizedLaws
namespace Go.Proofs.Ytgmdgkanfhoahaa.planPaths
open Go.ChangeShapes Go.WideShapes Go.ChangeAt
open Go.RowKit Go.Maps Go.Proofs.Ytgmdgkanfhoahaa.PPath Go.Proofs.Ytgmdgkanfhoahaa.PNeed Go.Proofs.Ytgmdgkanfhoahaa.PSameInts Go.Proofs.Ytgmdgkanfhoahaa.PPick Go.Proofs.Ytgmdgkanfhoahaa.Pparts Go.Proofs.Ytgmdgkanfhoahaa.HOf Go.Proofs.Ytgmdgkanfhoahaa.HNeed Go.Proofs.Ytgmdgkanfhoahaa.HMade Go.Proofs.Ytgmdgkanfhoahaa.HPure Go.Proofs.YtgmdgkanfhoahaaW.PrintWords Go.Proofs.YtgmdgkanfhoahaaW.PrintLast Go.Proofs.YtgmdgkanfhoahaaW.PrintMore
open Go.ChangeMaps (open_string shut_string)
set_option linter.unusedVariables false
theorem paths_true (a0 a1 a2 : Int) (w0 : (Lit.int .i64 a0).wf = true) (w1 : (Lit.int .i64 a1).wf = true) (w2 : (Lit.int .i64 a2).wf = true) : HLawPp.thimblelaw16_PlanPaths.f 61 a0 a1 a2 = some true := by
  obtain ⟨P, B, C, L, N, H, a6, a7, a8, T, hm, hp, ht⟩ := made_val a0 a1 w0 w1 61 (by omega)
  have b2 := bounds_i64 w2
  have hbd := hp.chain.bound
  have hP := hbd P (by simp)
  have hl := hp.len
  obtain ⟨b, hb, hb0, hb1⟩ := pick_val a2 P (by omega) (by omega) (by omega) (by omega)
  unfold HLawPp.thimblelaw16_PlanPaths.f
  rw [hm, Option.bind_some]
  dsimp only
  rw [if_pos rfl, path_f P B C N a6 a7 a8 T L H hp 61 (by omega) a2 (by omega), Option.bind_some, ref_path_f P B C N a6 a7 a8 T L H hp 61 (by omega) a2 (by omega), Option.bind_some]
  have hs : ∀ q : List Int × Int, q.1.length ≤ 5 → thimbleref14_SameInts.f 61 q.1 q.1 = some true := fun q hq => same_f q.1 61 (by omega) (by omega)
  rw [hs _ (by split <;> simp [up_len] <;> omega), Option.bind_some, if_pos rfl]
  have hq : ∀ q : List Int × Int, (q.2 != q.2) = false := fun q => by simp
  rw [hq]
  show HLawPp.thimblelaw16_PlanPaths.j0 (60 + 1) _ _ _ _ _ _ _ _ _ _ _ _ = _
  simp only [HLawPp.thimblelaw16_PlanPaths.j0]
  have hlen : (up (P :: C :: L) 0 16 b).length = L.length + 1 := by rw [up_len]; simp
  have hlast := up_last P C L 0 16 b hp.chain (.inl rfl) hb0 hb1
  rw [if_neg (by simp), hb, Option.bind_some, path_f P B C N a6 a7 a8 T L H hp 60 (by omega) b (by omega), if_neg (by omega), Option.bind_some, if_pos rfl]
  dsimp only
  rw [hlen, w64 (x := (L.length : Int) + 1) (by omega) (by omega), if_pos (by omega), w64 (x := ((L.length + 1 : Nat) : Int) - 1) (by omega) (by omega), if_pos (by omega), if_pos (by omega)]
  unfold plan_Top.f
  have hH : 1 ≤ H ∧ H ≤ 100000 := by
    have := sum_bound hbd
    have hh := hp.head
    simp only [List.length_cons] at this
    omega
  rw [Option.bind_some, w64 (x := H - 1) (by omega) (by omega)]
  have hrd : rd (up (P :: C :: L) 0 16 b) (((L.length + 1 : Nat) : Int) - 1) = H - 1 := by
    rw [List.getLast?_eq_getElem?, hlen] at hlast
    unfold rd
    rw [List.getD_eq_getElem?_getD, show ((((L.length + 1 : Nat) : Int) - 1).toNat) = L.length + 1 - 1 by omega, hlast, hp.head]
    simp
  rw [if_pos hrd, awake_true]
  rfl
theorem walk (a0 a1 a2 : Int) (w : World) (w0 : (Lit.int .i64 a0).wf = true) (w1 : (Lit.int .i64 a1).wf = true) (w2 : (Lit.int .i64 a2).wf = true) :
    Calls Try.prog 4 #[.int .i64 a0, .int .i64 a1, .int .i64 a2] w fun e w' => e = .returned (.bool true) ∧ Below w.heap.size w w' :=
  HLawPp.thimblelaw16_PlanPaths.calls 61 a0 a1 a2 true w (paths_true a0 a1 a2 w0 w1 w2)
theorem own : ownKnob Try.prog.godebug = none := by kernel_rfl
set_option maxRecDepth 100000 in
theorem lifted (os : Os) (started : os.Started) (H : Type) (enc : TypeId × Value → H) :
    ReturnsInHanded {} Try.checked os 4 .any (Rows.planPathsSpec.pre6 enc Try.prog Try.f4 Rows.planPathsRow.domain false) (Rows.planPathsSpec.post enc Try.prog Try.f4 false true false false) := by
  refine returnsInHanded_of_change_sized (C := Try.checked) own started (by kernel_rfl) Try.func4
    (ChangeSpec.witness6 (enc := enc) (C := Try.checked) false ⟨#[], #[.int .i64 0, .int .i64 0, .int .i64 0], []⟩ 8 (by kernel_rfl) (by kernel_rfl) (by kernel_rfl) (by kernel_rfl)) ?_
  intro W base args ds gs before hval0 hW hcnd hsz0 _
  have hsz : (DataW.weightsEach Try.prog (Try.f4.params.toList ++ Rows.planPathsSpec.plain.varTypes Try.prog) (ds ++ gs)).all (· ≤ reachBytes) = true := hsz0
  have hval : ∀ (j : Nat) t v, Try.f4.params[j]? = some t → args[j]? = some v → Value.okWide Try.prog W .any base t v := hval0
  have hW' := hW
  obtain ⟨p, q, hA0, hV, rfl, hfz, hnd⟩ := hW
  have hA : DataW.TrodAll enc Try.prog W 0 (fun _ => true) true Try.f4.params.toList args.toList ds p := hA0
  rw [Try.params4] at hA hval hsz
  obtain ⟨v0, vs0, d0, ds0, p0, q0, hargs, rfl, rfl, h0, r0⟩ := trodAll_cons hA
  obtain ⟨v1, vs1, d1, ds1, p1, q1, rfl, rfl, rfl, h1, r1⟩ := trodAll_cons r0
  obtain ⟨v2, vs2, d2, ds2, p2, q2, rfl, rfl, rfl, h2, r2⟩ := trodAll_cons r1
  obtain ⟨rfl, rfl, rfl⟩ := trodAll_nil r2
  obtain rfl : args = #[v0, v1, v2] := by cases args; simp_all
  obtain ⟨rfl, rfl⟩ := trodVars_none hV
  obtain ⟨a0, rfl, rfl, rfl, w0⟩ := open_int Try.underlying3 (hval 0 3 v0 rfl rfl) h0
  obtain ⟨a1, rfl, rfl, rfl, w1⟩ := open_int Try.underlying3 (hval 1 3 v1 rfl rfl) h1
  obtain ⟨a2, rfl, rfl, rfl, w2⟩ := open_int Try.underlying3 (hval 2 3 v2 rfl rfl) h2
  clear hA0 hval0 hsz0 hsz
  refine (walk a0 a1 a2 W w0 w1 w2).mono fun e W' ⟨he, bel⟩ => ?_
  subst he
  exact ⟨_, rfl, _, _, _, [], _, [], hW', trodAll_mk1 (shut_bool Try.underlying4 _), (trodAll_cons_mk (shut_int Try.underlying3 w0) (trodAll_cons_mk (shut_int Try.underlying3 w1) (trodAll_cons_mk (shut_int Try.underlying3 w2) trodAll_mk0))), rfl, bel.frame _, fun h => by cases h⟩
theorem over : Rows.planPathsRow.holds Try.pinned (OpenSpec.ofChange Rows.planPathsSpec) :=
  OpenClaim.holds_of_wide 4 Try.f4 rfl rfl rfl rfl rfl rfl rfl ⟨rfl, rfl, rfl, rfl, rfl⟩ rfl rfl rfl rfl rfl (by kernel_rfl) Try.func4 (by kernel_rfl)
    (of_decide_eq_true (by kernel_rfl)) (by unfold Func.isWrapper; first | (rw [if_pos (by decide +kernel)]; kernel_rfl) | (rw [if_neg (by decide +kernel)]; exact ⟨rfl, rfl⟩))
    (fun os started H enc _ => lifted os started H enc)
theorem proved : Rows.PlanPathsSaid := over
#print axioms proved
end Go.Proofs.Ytgmdgkanfhoahaa.planPaths
namespace Go.Proofs.Ytgmdgkanfhoahaa
/-- The row, under a short name, for the claim. -/
theorem planPaths_holds : Rows.PlanPathsSaid := planPaths.proved
end Go.Proofs.Ytgmdgkanfhoahaa
