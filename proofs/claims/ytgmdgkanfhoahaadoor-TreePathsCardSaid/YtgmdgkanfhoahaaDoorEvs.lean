/- Events of rows: store; the sizes of api.Place, api.Plan. -/
import Derived.Test.YtgmdgkanfhoahaaDoorTreePla
import Derived.Test.YtgmdgkanfhoahaaDoorTreeBld
namespace Go.Proofs.YtgmdgkanfhoahaaDoor.CheckT
open Go.RowKit Go.Proofs.YtgmdgkanfhoahaaDoor.ShaPure Go.Proofs.YtgmdgkanfhoahaaDoor.ShaBlk Go.Proofs.YtgmdgkanfhoahaaDoor.ShaWrite Go.Proofs.YtgmdgkanfhoahaaDoor.ShaSum Go.Proofs.YtgmdgkanfhoahaaDoor.ShaEnd Go.Proofs.YtgmdgkanfhoahaaDoor.ShaOf Go.Proofs.YtgmdgkanfhoahaaDoor.BytesW Go.Proofs.YtgmdgkanfhoahaaDoor.Put Go.Proofs.YtgmdgkanfhoahaaDoor.LogW Go.Proofs.YtgmdgkanfhoahaaDoor.Dig Go.Proofs.YtgmdgkanfhoahaaDoor.Hdr Go.Proofs.YtgmdgkanfhoahaaDoor.Above Go.Proofs.YtgmdgkanfhoahaaDoor.Build Go.Proofs.YtgmdgkanfhoahaaDoor.BuildW Go.Proofs.YtgmdgkanfhoahaaDoor.BuildE Go.Proofs.YtgmdgkanfhoahaaDoor.Kid Go.Proofs.YtgmdgkanfhoahaaDoor.AwakeA Go.Proofs.YtgmdgkanfhoahaaDoor.PlanP Go.Proofs.YtgmdgkanfhoahaaDoor.Chk Go.Proofs.YtgmdgkanfhoahaaDoor.PTreePaths Go.Proofs.YtgmdgkanfhoahaaDoorW.PrintWords Go.Proofs.YtgmdgkanfhoahaaDoorW.PrintLast Go.Proofs.YtgmdgkanfhoahaaDoorW.PrintMore
set_option linter.unusedVariables false
set_option linter.unusedSimpArgs false

theorem Tryd.infoPlace : (Tryd.prog.info? 58).map (·.size) = some 2 := by kernel_rfl
theorem Tryd.infoPlanC : (Tryd.prog.info? 25).map (·.size) = some 10 := by kernel_rfl
theorem add_block (ad : Addr) (k : Nat) : (ad.add k).block = ad.block := by
  unfold Addr.add
  split <;> rfl
theorem ev_store_row {P : Program} {o : Oper} {ev : Operand → Value} {w : World} (ty : TypeId) (x y : Operand) (ho : o.op = .store ty x y)
    (g : Nat) (cells : Array Value) (hx : ev x = .pointer (some ⟨g, 0, none⟩)) (hy : ev y = .agg cells)
    (t : TypeId) (old : Array Value) (hg : w.heap[g]? = some (.cells old t (0, 0))) (hi : (P.info? ty).map (·.size) = some cells.size)
    (hold : old.size = cells.size) (h1 : cells.all (·.oneCell') = true) : (execOp ev o).run P w = .ok .skip (w.setRow g cells) := by
  unfold execOp
  simp only [ho, hx, hy, Instr.storeAt, Instr.sureAddr, Sem.run_bind, Sem.run_pure, Result.andThen_ok, run_storeVar_row w g t ty old cells hg hi hold h1]

end Go.Proofs.YtgmdgkanfhoahaaDoor.CheckT
