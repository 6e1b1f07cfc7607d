import Derived.Test.YtpedajhcfkohlaaDoorHandV
/- Each language of the chain stands once, is there or the last one: for the row. -/
namespace Go.Proofs.YtpedajhcfkohlaaDoor.Pure
open Go.RowKit Go.Proofs.YtpedajhcfkohlaaDoor.PNeg Go.Proofs.YtpedajhcfkohlaaDoorHand
set_option linter.unusedVariables false
theorem NegoOnes.walk (a0 : Option Addr) (len0 cap0 : Nat) (z0 : List ByteArray) (a1 : Option Addr) (len1 cap1 : Nat) (z1 : List ByteArray) (a2 : ByteArray) (W : World) (w0 : IsStrs W a0 len0 cap0 z0) (w1 : IsStrs W a1 len1 cap1 z1) (w2 : a2.size ≤ 140737488351232) (hG : GW W) :
    Calls Tryd.prog 12 #[.slice a0 len0 cap0, .slice a1 len1 cap1, .string a2] W fun e W' => e = .returned (.bool true) ∧ Below W.heap.size W W' := by
  obtain ⟨l0, hl0, hc0, hm0, hr0⟩ := IsStrs.row w0
  subst hl0
  obtain ⟨l1, hl1, hc1, hm1, hr1⟩ := IsStrs.row w1
  subst hl1
  exact negoOnes_walk a0 cap0 l0 a1 cap1 l1 a2 W hr0 hc0 hr1 hc1 hm0 hm1 hG
end Go.Proofs.YtpedajhcfkohlaaDoor.Pure
