/- What the laws of this seat ask of the program alone. -/
import Derived.Test.YtnnkoeknejeieaaRows
import Derived.Test.YtnnkoeknejeieaaProg
import Derived.ProofKit
import Derived.OpenShut
namespace Go.Proofs.Ytnnkoeknejeieaa.Facts
open Go Go.RowKit
set_option maxRecDepth 100000 in
theorem laid : laidOutB Try.checked.prog = true := by kernel_rfl
set_option maxRecDepth 100000 in
theorem mapsRowed : mapsRowed Try.checked.prog = true := by kernel_rfl
set_option maxRecDepth 100000 in
theorem stops : (Try.checked.prog.stops == []) = true := by kernel_rfl
set_option maxRecDepth 100000 in
theorem stopKnobs : (Try.checked.prog.stopKnobs == []) = true := by kernel_rfl
set_option maxRecDepth 100000 in
theorem plainKeys : (Rows.fnExactDiagramOfRow.plainKeys == Try.checked.prog.plainKeys) = true := by kernel_rfl
set_option maxRecDepth 100000 in
theorem stopsHeard : Try.checked.prog.stopsHeard = true := by kernel_rfl
set_option maxRecDepth 100000 in
theorem mayEnter : Try.checked.prog.mayEnter = true := by kernel_rfl
set_option maxRecDepth 100000 in
theorem lifts : (Rows.fnExactDiagramOfRow.lifted == Try.checked.prog.liftsFinal) = true := by kernel_rfl
set_option maxRecDepth 100000 in
theorem make : (Try.checked.prog.make == some Rows.fnExactDiagramOfRow.make) = true := by kernel_rfl
theorem own : ownKnob Try.prog.godebug = none := by kernel_rfl
theorem laidOut : laidOutB Try.prog = true := by kernel_rfl
end Go.Proofs.Ytnnkoeknejeieaa.Facts
