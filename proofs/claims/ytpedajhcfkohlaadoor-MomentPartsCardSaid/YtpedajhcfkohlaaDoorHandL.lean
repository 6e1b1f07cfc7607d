import Derived.Test.YtpedajhcfkohlaaDoorHandM
import Derived.Lib.LaidTab
import Derived.Stop.Joined
/- Out of the rows' conditions on what is laid: the facts that the walks ask. -/
namespace Go.Proofs.YtpedajhcfkohlaaDoorHand
open Go.RowKit Go.Proofs.YtpedajhcfkohlaaDoorW.PrintWords
theorem ty_pow : (Tryd.prog.globals[1]?).map (·.type) = some 118 := by kernel_rfl
/-- Out of the row's condition: the table that stands third on the list. -/
theorem gw_of_laid {W : World} {x y : String × DataW Unit} {rest : List (String × DataW Unit)} (h : laidMet Tryd.prog (x :: y :: ("internal/strconv.uint64pow10", Lib.tabData .u64 Lib.pow10Tab) :: rest) W) : GW W := by
  obtain ⟨ps, ⟨_, _, _, _, _, _, _, _, _, _, ⟨_, _, _, _, _, _, _, _, _, _, ⟨g', t', cs, fuel, p, q, hg', ht', hvar, hd, _, _⟩, _⟩, _⟩, _⟩ := h
  obtain rfl := Option.some.inj (g_pow.symm.trans hg')
  obtain rfl := Option.some.inj (ty_pow.symm.trans ht')
  refine ⟨?_⟩
  unfold Lib.TabIs
  rw [hvar, ← Lib.cells_of_tab Tryd.underlying118 Tryd.underlying106 (by kernel_rfl) (by kernel_rfl) hd]
end Go.Proofs.YtpedajhcfkohlaaDoorHand
