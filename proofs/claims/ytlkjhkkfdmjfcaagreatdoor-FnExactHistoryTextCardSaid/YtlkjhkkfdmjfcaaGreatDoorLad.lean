/- What the rows' list of library tables gives the walks. No walk. -/
import Derived.Test.YtlkjhkkfdmjfcaaGreatDoorTxf
import Derived.LaidMore
import Derived.MakeChecks
import Derived.Lib.LaidTab
namespace Go.Proofs.YtlkjhkkfdmjfcaaGreatDoor
open Go.RowKit
set_option linter.unusedVariables false
def laid3 : List (String × DataW Unit) := [("math/bits.deBruijn32tab", Rows.laid_math_bits_deBruijn32tab), ("math/bits.deBruijn64tab", Rows.laid_math_bits_deBruijn64tab), ("internal/strconv.uint64pow10", Rows.laid_internal_strconv_uint64pow10)]
theorem pow10_global : Tryz.prog.globalNamed "internal/strconv.uint64pow10" = some 0 := by kernel_rfl
theorem pow10_type : (Tryz.prog.globals[0]?).map (·.type) = some 189 := by kernel_rfl
theorem pow10_data : (Rows.laid_internal_strconv_uint64pow10 : DataW Unit) = Lib.tabData .u64 Lib.pow10Tab := by kernel_rfl
theorem tab10_of {W : World} (h : laidMetH Tryz.prog laid3 W) : Tab10 W := by
  rw [MakeChecks.laidMetH_plain _ _ _ (by kernel_rfl)] at h
  obtain ⟨ps, ⟨_, _, _, _, _, _, _, _, _, _, ⟨_, _, _, _, _, _, _, _, _, _, ⟨g, t, cs, fuel, p, q, hg, ht, hv, hd, _, _⟩, _⟩, _⟩, _⟩ := h
  obtain rfl := Option.some.inj (pow10_global.symm.trans hg)
  obtain rfl := Option.some.inj (pow10_type.symm.trans ht)
  unfold Tab10 Lib.TabIs
  rw [pow10_data] at hd
  rw [hv, ← Lib.cells_of_tab Tryz.underlying189 Tryz.underlying97 (by kernel_rfl) (by kernel_rfl) hd]
end Go.Proofs.YtlkjhkkfdmjfcaaGreatDoor
