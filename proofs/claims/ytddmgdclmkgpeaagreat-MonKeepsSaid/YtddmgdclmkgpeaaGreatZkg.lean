/- Texts of this claim, laid together (part 7).
   Conditions: none. -/
import Derived.Tactics
import Derived.Tactics2
import Derived.Defers
import Derived.Recover
import Derived.Laws.Pointers
import Derived.Test.YtddmgdclmkgpeaaGreatZkf
set_option linter.unusedSimpArgs false
set_option linter.unusedVariables false
set_option linter.unusedSimpArgs false
set_option linter.unusedVariables false
namespace Go.Proofs.YtddmgdclmkgpeaaGreat
open Go.Eng Go.RowKit Go.ChangeShapes Go.WideShapes
set_option maxRecDepth 100000
theorem told_idle (p : Addr) (w : World) :
    CallsD Tryz.prog 162 #[.pointer (some p)] .returning w fun e u' w'=>e = .returned (.tuple #[])∧u' = .returning∧w'=w:=by
  refine callsD_of_wpS Tryz.func162 rfl fun c₀ cs hu=>?_
  apply wpS_seq
  apply wpS_region
  simp [wpOpsS,go_sem,recoverD,hu,Tryz.ntmps162,Exit.thenS]
  refine wpS_of_wp ?_
  go_wp2
  cases c₀
  simp_all [bodyPostS,results,Tryz.results162]
theorem get_walk (sv : Value) (k : Int) (w : World) (Q : Int → Value → World → Prop)
    (hN:Calls Tryz.prog 163 #[sv,.int .i64 (min (max k 0) 8)] (w.alloc (Obj.cells #[.int .i64 0] 54)) fun e w'=>∃ x rest,e = .returned (.tuple #[.int .u64 x,rest])∧Q x rest w'∧w'.cell? ⟨w.heap.size,0,none⟩=some (.int .i64 0)∧w'.frozen? ⟨w.heap.size,0,none⟩=false) :
    Calls Tryz.prog 101 #[sv,.int .i64 k] w fun e w2=>∃ x rest w',e = .returned (.tuple #[.int .u64 x,rest,.int .i64 0])∧Q x rest w'∧w2=w'.setCell ⟨w.heap.size,0,none⟩ (.int .i64 0):=by
  go_enter_defers Tryz.func101,Tryz.ntmps101
  go_wp2_with (first | (go_at_call 163; refine hN.mono ?_; rintro e w' ⟨x,rest,rfl,q,hc,hz⟩) | (go_at_call 103; go_in))
  go_wp2
  refine leaves_cons (f:=162) (args:=#[.pointer (some ⟨w.heap.size,0,none⟩)]) (by simp) (by simp [go_sem]) ?_
  refine (told_idle ⟨w.heap.size,0,none⟩ _).mono ?_
  rintro e u' w'' ⟨rfl,rfl,rfl⟩
  simp [Leaves,settle,results,Tryz.results101,go_sem,hc,hz]
  all_goals exact ⟨x,rest,⟨rfl,rfl⟩,w',q,rfl⟩
end Go.Proofs.YtddmgdclmkgpeaaGreat
