/- What the printed functions of this claim begin with: written by a program. No condition. -/
import Derived.Test.YtioimihminelaaaDoorProg
import Derived.Below
import Derived.Deep.Draws
import Derived.Deep.AppendLies
import Derived.Maps.AppendAt
import Derived.OwnWalk
import Derived.Laws.BytesArg
import Derived.Laws.MakeOwn
import Derived.Laws.OwnMore
import Derived.Deep.OwnRows
import Derived.Tactics
import Derived.Lib.ConvBytes
import Derived.Laws.Slices
import Derived.WalkKit
import Derived.KernelRfl
import Derived.RowKit3
import Derived.Deep.LoopGhost
import Derived.Deep.QuietTactic
import Derived.BigQuiet
import Derived.WideLaws
import Derived.Deep.DeepCutAuto
import Derived.Deep.CutBlock
import Derived.Deep.RegionHeld3
import Derived.Laws.Rows
import Derived.Lib.AppendStr
import Derived.ArgAppend
import Derived.Laws.IdiomCopy
import Derived.OrdersHeld
import Derived.Laws.BitsLemmas
import Derived.RowKit
import Derived.Test.YtioimihminelaaaDoorWholeRemaindersWPlus
import Derived.Test.YtioimihminelaaaDoorWholeRemaindersGiven
import Derived.Test.YtioimihminelaaaDoorWholeRemaindersWWords
import Derived.Test.YtioimihminelaaaDoorWholeRemaindersWLast
import Derived.Test.YtioimihminelaaaDoorWholeRemaindersWTab
import Derived.Test.YtioimihminelaaaDoorWholeRemaindersWFour
import Derived.Test.YtioimihminelaaaDoorWholeRemaindersWQPut
import Derived.Test.YtioimihminelaaaDoorWholeRemaindersWApart
import Derived.Test.YtioimihminelaaaDoorWholeRemaindersWArr
import Derived.Test.YtioimihminelaaaDoorWholeRemaindersWZeros
import Derived.Test.YtioimihminelaaaDoorWholeRemaindersWFoot
import Derived.Test.YtioimihminelaaaDoorWholeRemaindersWKept
import Derived.Test.YtioimihminelaaaDoorWholeRemaindersWShare
import Derived.Test.YtioimihminelaaaDoorWholeRemaindersWN
import Derived.Test.YtioimihminelaaaDoorWholeRemaindersWFootNe
import Derived.Test.YtioimihminelaaaDoorWholeRemaindersWAt
import Derived.Test.YtioimihminelaaaDoorWholeRemaindersWEqStruct
import Derived.Test.YtioimihminelaaaDoorWholeRemaindersWRepsOne
import Derived.Test.YtioimihminelaaaDoorWholeRemaindersWInv
import Derived.Test.YtioimihminelaaaDoorWholeRemaindersWInvWords
import Derived.Test.YtioimihminelaaaDoorWholeRemaindersWGuard
import Derived.Test.YtioimihminelaaaDoorWholeRemaindersWNEv
import Derived.Test.YtioimihminelaaaDoorWholeRemaindersWMore
namespace Go.Proofs.YtioimihminelaaaDoor.P
open Go.RowKit Go.Proofs.YtioimihminelaaaDoorW.PrintWords Go.Proofs.YtioimihminelaaaDoorW.PrintLast Go.Proofs.YtioimihminelaaaDoorW.PrintMore
attribute [local go_sem] gtr_text max2_int min2_int max_two min_two max_three min_three max_four min_four   -- for this text's walks alone
set_option linter.unusedVariables false
set_option linter.unusedSimpArgs false



def errW : Option Int → Value
  | none => .nilIface
  | some c => .iface 0 (.int .i64 c)
theorem errW_none : errW none = .nilIface := rfl
theorem errW_some (c : Int) : errW (some c) = .iface 0 (.int .i64 c) := rfl

theorem info5 : (Tryd.prog.info? 5).map (fun i => (i.zero, i.size, i.bytes)) = some (some (.int .u8 0), 1, 1) := by kernel_rfl
theorem info26 : (Tryd.prog.info? 26).map (fun i => (i.zero, i.size, i.bytes)) = some (some (.string ⟨#[]⟩), 1, 16) := by kernel_rfl
theorem info66 : (Tryd.prog.info? 66).map (fun i => (i.zero, i.size, i.bytes)) = some (some (.int .u64 0), 1, 8) := by kernel_rfl
-- the values' own types

theorem bq {P : Prop} (h : P := by repeat (first | (with_reducible first | exact HB.out | apply below_alloc | apply pw_below_drewN | apply below_drew1) | exact HB.out)) : P := h
theorem mq {P : Prop} (h : P := by (try simp only [List.map_toArray, List.map_cons, List.map_nil]); first | done | rfl | (simp only [List.length_drop, List.length_take]; rfl)) : P := h
theorem eq_ {P : Prop} (h : P := by first | rfl | (simp [errW_none, errW_some] <;> rfl) | (simp [*, errW_none, errW_some] <;> rfl)) : P := h
end Go.Proofs.YtioimihminelaaaDoor.P
