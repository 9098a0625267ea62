-- cut down, by a program of this session (genv.py), from the words that print.sh writes beside a printed text; the last part is new
import Derived.Test.YtcfagmdopkginaaY
import Derived.Below
import Derived.Deep.Draws
import Derived.Deep.AppendLies
import Derived.Maps.AppendAt
import Derived.OwnWalk
import Derived.Laws.BytesArg
import Derived.Laws.MakeOwn
import Derived.Laws.OwnMore
import Derived.Deep.OwnRows
import Derived.Tactics
import Derived.Lib.ConvBytes
import Derived.Laws.Slices
import Derived.WalkKit
import Derived.KernelRfl
import Derived.RowKit3
import Derived.Deep.LoopGhost
import Derived.Deep.QuietTactic
import Derived.BigQuiet
import Derived.WideLaws
import Derived.Deep.DeepCutAuto
import Derived.Deep.CutBlock
import Derived.Deep.RegionHeld3
import Derived.Laws.Rows
import Derived.Lib.AppendStr
import Derived.ArgAppend
import Derived.Laws.IdiomCopy
import Derived.RowKit
import Derived.OrdersHeld
import Derived.Laws.BitsLemmas
import Derived.Laws.StructEq
import Derived.SizedLaws
import Derived.ChangeSlices
set_option linter.unusedVariables false
set_option linter.unusedSimpArgs false
namespace Go.Proofs.YtcfagmdopkginaaW.PrintWords
open Go.RowKit
section
variable {P : Program} {ops : Array Oper} {o : Oper} {a : Act} {Q : Exit → Act → World → Prop} {Kc : Act → World → Prop}
namespace Kd
variable {α : Type}
end Kd
end
end Go.Proofs.YtcfagmdopkginaaW.PrintWords
namespace Go.Proofs.YtcfagmdopkginaaW.PrintWords
open Go.RowKit
namespace Foot
variable {P Q : World → Prop} {W W1 : World} {ok ok' : Nat → Prop}
end Foot
end Go.Proofs.YtcfagmdopkginaaW.PrintWords
namespace Go.Proofs.YtcfagmdopkginaaW.PrintWords
open Go.ChangeShapes Go.WideShapes
end Go.Proofs.YtcfagmdopkginaaW.PrintWords
namespace Go.Proofs.YtcfagmdopkginaaW.PrintWords
open Go.RowKit
end Go.Proofs.YtcfagmdopkginaaW.PrintWords
