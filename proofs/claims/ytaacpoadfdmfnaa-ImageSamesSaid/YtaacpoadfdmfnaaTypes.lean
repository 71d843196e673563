/-
  The sizes of the types that the walks read and write as rows.
-/
import Derived.Test.YtaacpoadfdmfnaaBase
import Derived.Test.YtaacpoadfdmfnaaProg
import Derived.KernelRfl
namespace Go.Proofs.Ytaacpoadfdmfnaa
open Go Go.RowKit
namespace Aq
theorem size_Comp : (Try.prog.info? 63).map (·.size) = some 7 := by kernel_rfl
theorem size_Quant : (Try.prog.info? 39).map (·.size) = some 65 := by kernel_rfl
theorem size_Block : (Try.prog.info? 57).map (·.size) = some 64 := by kernel_rfl
theorem size_Tag : (Try.prog.info? 104).map (·.size) = some 2 := by kernel_rfl
theorem size_Part : (Try.prog.info? 154).map (·.size) = some 2 := by kernel_rfl
theorem size_Image : (Try.prog.info? 26).map (·.size) = some 5 := by kernel_rfl
end Aq
end Go.Proofs.Ytaacpoadfdmfnaa
