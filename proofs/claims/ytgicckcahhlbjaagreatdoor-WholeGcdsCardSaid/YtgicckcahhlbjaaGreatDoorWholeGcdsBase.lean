/- What the rows of this seat have in common: the listed variables give the walks' condition, and the door's own heap meets it. -/
import Derived.Test.YtgicckcahhlbjaaGreatDoorRows
import Derived.Test.YtgicckcahhlbjaaGreatDoorWholeGcdsGiven
import Derived.ProofKit
import Derived.LaidMore
import Derived.Lay
import Derived.OpenShut
import Derived.Stop.Joined
import Derived.Stop.LaidErr
import Derived.MakeChecks
namespace Go.Proofs.YtgicckcahhlbjaaGreatDoor
namespace Base
open Go.Lib Go.ChangeShapes Go.WideShapes Go.ChangeAt Go.RowKit Go.Stop
theorem own : ownKnob Tryz.prog.godebug = none := by kernel_rfl
theorem laidOut : laidOutB Tryz.prog = true := by kernel_rfl
def IsRow (k : IntKind) (w : World) (a : Option Addr) (len cap : Nat) (zs : List Int) : Prop :=
  (a = none ∧ len = 0 ∧ cap = 0 ∧ zs = []) ∨
  ∃ x, a = some x ∧ len ≤ cap ∧ cap ≤ maxLen ∧ zs.length = cap ∧ (∀ i, i < zs.length → w.cell? (x.add i) = some (.int k (zs.getD i 0))) ∧ ∀ n ∈ zs, (Lit.int k n).wf = true
abbrev laid : List (String × DataW Unit) := Rows.wholePowersRow.laid
theorem wit_met (os : Os) (args : Array Value) : laidMetH Tryz.prog laid ((World.laidAll Tryz.prog os laid).forCall (fun _ _ => 0) ⟨#[], args, []⟩).memory := by
  rw [MakeChecks.laidMetH_plain _ _ _ (by kernel_rfl)]
  exact laidMet_laidAll _ (by kernel_rfl) (by kernel_rfl)
theorem wit_shaped (os : Os) : World.Shaped Tryz.prog (World.laidAll Tryz.prog os laid) := World.shaped_of_ZipB (by kernel_rfl) (by kernel_rfl)
theorem star : "*" ++ "errors.errorString" = "*errors.errorString" := by decide
theorem rowErr (u : TypeId) (h : Tryz.prog.typeName? 3 u = some "*errors.errorString") : u = 149 :=
  typeName_ptr_named (nm := "errors.errorString") (by rw [star]; kernel_rfl) (by kernel_rfl) (by decide) u (by rw [star]; exact h)
theorem tab_of_laid {W : World} (h : laidMetH Tryz.prog laid W) : P.Tab W := by
  rw [MakeChecks.laidMetH_plain _ _ _ (by kernel_rfl)] at h
  have h2 := laidMet.tail (laidMet.tail h)
  have h3 := laidMet.tail (laidMet.tail h2)
  have e : Rows.laid_internal_strconv_uint64pow10 (H := Unit) = Lib.tabData .u64 Lib.pow10Tab := rfl
  refine ⟨Lib.tabIs_of_head (g := 4) (n := 20) (t := 143) (e := 70) (by kernel_rfl) (by kernel_rfl) Tryz.underlying143 Tryz.underlying70 (by kernel_rfl) (by kernel_rfl) h2, ?_⟩
  obtain ⟨a, s, hv, _⟩ := laid_sentinel (g := 1) h3 (by kernel_rfl) (by kernel_rfl) Tryz.underlying81 rowErr Tryz.underlying149 Tryz.underlying151 rfl rfl Tryz.underlying9 (by kernel_rfl) (by kernel_rfl)
  exact ⟨_, by simpa using World.var?_cell (by kernel_rfl) hv 0, .inr ⟨_, _, rfl⟩⟩
end Base
end Go.Proofs.YtgicckcahhlbjaaGreatDoor
