import Derived.Test.YtlopjkfhkfbhlaaDoorDcE
import Derived.Tactics
import Derived.Tactics2
import Derived.Defers
import Derived.Recover
set_option linter.unusedVariables false
set_option linter.unusedSimpArgs false
namespace Go.Proofs.YtlopjkfhkfbhlaaDoor.Dec
open Go Go.RowKit Go.Proofs.YtlopjkfhkfbhlaaDoorW.PrintWords Go.Proofs.YtlopjkfhkfbhlaaDoorW.PrintLast Go.Proofs.YtlopjkfhkfbhlaaDoorW.PrintMore
theorem assert_wrong (v : Value) (s : TypeId) (w : World) : (Instr.typeAssert (.iface 63 v) s 63 true).run Tryd.prog w = .ok (.tuple #[v, .bool true]) w := by
  simp [Instr.typeAssert, run_underlying Tryd.underlying63]
set_option maxHeartbeats 400000 in
theorem catch_panicking (b : Nat) (x : Bool) (older : List PanicEntry) (w : World) (hb : w.heap[b]? = some (.cells #[.bool x] 4 (0, 0))) :
    CallsD Tryd.prog 31 #[.pointer (some ⟨b, 0, none⟩)] (.panicking ({ v := wrongV, recovered := false } :: older)) w fun e u' w' =>
      e = .returned (.tuple #[]) ∧ u' = .panicking ({ v := wrongV, recovered := true } :: older) ∧ w' = (w.alloc (.cells #[] 63)).setCell ⟨b, 0, none⟩ (.bool false) := by
  have hta := assert_wrong
  have hc : ∀ o, (w.alloc o).cell? ⟨b, 0, none⟩ = some (.bool x) := fun o => (blk_cell (blk_alloc hb o) 0).trans rfl
  have hz : ∀ o, (w.alloc o).frozen? ⟨b, 0, none⟩ = false := fun o => blk_frozen (blk_alloc hb o) 0
  clear hb
  refine callsD_of_wpS Tryd.func31 rfl fun c₀ cs hu => ?_
  apply wpS_seq
  apply wpS_region
  simp [wpOpsS, go_sem, recoverD, hu, Tryd.ntmps31, Exit.thenS, wrongV]
  change Code.wpS _ _ _ ⟨#[.pointer (some ⟨b, 0, none⟩), .iface 63 (.agg #[]), undef, undef, .iface 63 (.agg #[]), undef, undef, undef, undef, undef, undef, undef, undef, undef, undef], []⟩ _ _
  refine wpS_of_wp ?_
  go_wp2
  simp [bodyPostS, results, Tryd.results31]
theorem catch_idle (p : Addr) (w : World) :
    CallsD Tryd.prog 31 #[.pointer (some p)] .returning w fun e u' w' => e = .returned (.tuple #[]) ∧ u' = .returning ∧ w' = w := by
  refine callsD_of_wpS Tryd.func31 rfl fun c₀ cs hu => ?_
  apply wpS_seq
  apply wpS_region
  simp [wpOpsS, go_sem, recoverD, hu, Tryd.ntmps31, Exit.thenS]
  change Code.wpS _ _ _ ⟨#[.pointer (some p), .nilIface, undef, undef, .nilIface, undef, undef, undef, undef, undef, undef, undef, undef, undef, undef], []⟩ _ _
  refine wpS_of_wp ?_
  go_wp2
  cases c₀
  simp_all [bodyPostS, results, Tryd.results31]
end Go.Proofs.YtlopjkfhkfbhlaaDoor.Dec
