import Derived.Test.YtpedajhcfkohlaaDoorPNhex1
/- The document's example of the negotiation holds. -/
namespace Go.Proofs.YtpedajhcfkohlaaDoorHand
open Go.RowKit Go.Proofs.YtpedajhcfkohlaaDoor.PNhe Go.Proofs.YtpedajhcfkohlaaDoor.PNeg Go.Proofs.YtpedajhcfkohlaaDoor.Pure Go.Proofs.YtpedajhcfkohlaaDoorW.PrintWords Go.Proofs.YtpedajhcfkohlaaDoorW.PrintLast Go.Proofs.YtpedajhcfkohlaaDoorW.PrintMore
set_option linter.unusedVariables false
theorem head11_said : polyglotlaw11_head.f 3 = some true := by kernel_rfl
def law11_head.f : Option Bool := some true
theorem law11_head.calls (r : Bool) (w : World) (h : law11_head.f = some r) (hG : GW w := by first | exact hG | exact GW.drewN hG _ | exact GW.below hG (by first | exact HB.out | (with_reducible exact HB.out) | (repeat (first | (with_reducible first | exact HB.out | apply below_alloc | apply pw_below_drewN | apply below_drew1) | (refine below_setA ?_ (by assumption)) | exact HB.out)))) :
    Calls Tryd.prog 27 #[] w fun e w' => e = .returned (.bool r) ∧ Below w.heap.size w w' :=
  polyglotlaw11_head.calls 3 r w (head11_said.trans h) hG
end Go.Proofs.YtpedajhcfkohlaaDoorHand
