import Derived.Test.YtpedajhcfkohlaaDoorTagE
import Derived.Test.YtpedajhcfkohlaaDoorPTMorex2
/- A tag with a variant behind it fits the tag, and is that one with one part less; letters big or small make no difference. -/
namespace Go.Proofs.YtpedajhcfkohlaaDoor.Pure
open Go.RowKit Go.Proofs.YtpedajhcfkohlaaDoor.PTMore Go.Proofs.YtpedajhcfkohlaaDoorHand Go.Proofs.YtpedajhcfkohlaaDoorW.PrintWords Go.Proofs.YtpedajhcfkohlaaDoorW.PrintLast Go.Proofs.YtpedajhcfkohlaaDoorW.PrintMore
set_option linter.unusedSimpArgs false
set_option linter.unusedVariables false
theorem less_f (l s g : ByteArray) (vs : List ByteArray) (hv : vs.length ≤ 1000) : tag_Tag_Less.f l s g vs = some (lessT l s g vs) := by
  unfold tag_Tag_Less.f lessT
  by_cases h : 0 < vs.length
  · have e : wrap64 ((vs.length : Int) - 1) = ((vs.length - 1 : Nat) : Int) := by rw [wrap_id (by omega) (by omega)]; omega
    rw [if_pos (by omega), if_pos h, e, if_pos (by omega), if_pos (by omega), Int.toNat_natCast]
    have e2 : slices_Clone.f (vs.take (vs.length - 1)) = some vs.dropLast := by
      unfold slices_Clone.f
      rw [List.dropLast_eq_take]
      first | rfl | (rw [if_pos (by rw [List.length_take]; omega)])
    rw [e2, Option.bind_some]
  · rw [if_neg (by omega), if_neg h]
    by_cases a : g.toList = ([] : List UInt8)
    · rw [if_pos a, if_pos a]
      by_cases b : s.toList = ([] : List UInt8)
      · rw [if_pos b, if_pos b]; rfl
      · rw [if_neg b, if_neg b]
    · rw [if_neg a, if_neg a]
/-- A tag in its form, of a size at hand: of at most n variants. -/
def Fit (n : Nat) (lang scr reg : ByteArray) (vs : List ByteArray) : Prop := Norm lang scr reg vs ∧ GoodT 100 (lang, scr, reg, vs, true) ∧ vs.length ≤ n
theorem str_f (n : Nat) (hn : n ≤ 900) (l s g : ByteArray) (vs : List ByteArray) (h : Fit n l s g vs) : tag_Str.f l s g vs = some (textL (partsL l s g vs)) := by
  obtain ⟨_, ⟨h1, h2, h3, h4⟩, h5⟩ := h
  unfold tag_Str.f
  rw [if_pos]
  refine ⟨⟨?_, ?_, ?_, fun v hv => ?_⟩, by omega⟩
  · exact Nat.le_trans h1.2 (by omega)
  · exact Nat.le_trans h2.2 (by omega)
  · exact Nat.le_trans h3.2 (by omega)
  · exact Nat.le_trans (h4 v hv).2 (by omega)
def zV : ByteArray := ⟨#[122, 122, 122, 122, 122, 122, 122, 57]⟩
theorem zV_ok : varB zV = true ∧ foldS false zV = zV := by constructor <;> kernel_rfl
theorem zV_pcs : pcs zV = [zV] := by kernel_rfl
theorem beg_snoc (p : List ByteArray) (z : ByteArray) : begB (p ++ [z]) p = true ∧ begB p (p ++ [z]) = false := by
  constructor
  · unfold begB; simp
  · unfold begB
    rw [decide_eq_false (by simp)]; rfl
theorem pcs_two (s z : ByteArray) : pcs (s ++ (⟨(45 :: z.data.toList).toArray⟩ : ByteArray)) = pcs s ++ pcs z := by
  unfold pcs
  rw [ByteArray.data_append, Array.toList_append, cuts_two, List.map_append]
theorem more_f (s : ByteArray) (hs : s.size ≤ 80) (l c g : ByteArray) (vs : List ByteArray) (h : P0 (pcs s) = (l, c, g, vs, true)) (hz : hasS vs zV = false) :
    tag_Parse.f (s ++ (⟨#[45, 122, 122, 122, 122, 122, 122, 122, 57]⟩ : ByteArray)) = some (l, c, g, vs ++ [zV], true) := by
  rw [parse_eq2 _ (by rw [ByteArray.size_append]; have : (⟨#[45, 122, 122, 122, 122, 122, 122, 122, 57]⟩ : ByteArray).size = 9 := rfl; omega)]
  have e : (⟨#[45, 122, 122, 122, 122, 122, 122, 122, 57]⟩ : ByteArray) = (⟨(45 :: zV.data.toList).toArray⟩ : ByteArray) := rfl
  rw [e, pcs_two, zV_pcs, P0_snoc l c g zV vs zV_ok.1 zV_ok.2 _ h hz]
theorem less_snoc (l c g : ByteArray) (vs : List ByteArray) (z : ByteArray) : lessT l c g (vs ++ [z]) = (l, c, g, vs, true) := by
  unfold lessT
  rw [if_pos (by simp), List.dropLast_concat]
theorem more_end (k : Nat) (s : ByteArray) (hs : s.size ≤ 80) (l c g : ByteArray) (vs : List ByteArray) (h : P0 (pcs s) = (l, c, g, vs, true)) (hF : Fit 101 l c g vs) (hz : hasS vs zV = false) (X : List ByteArray) (n i : Int) (hn : ¬ i < n) :
    polyglotlaw03_TagMore.l0 (k + 1) s X n i l c g vs l c g vs l c g vs = some true := by
  rw [polyglotlaw03_TagMore.l0, if_neg hn, if_pos (by omega), Option.bind_some, more_f s hs l c g vs h hz, Option.bind_some]
  simp only []
  have ep : partsL l c g (vs ++ [zV]) = partsL l c g vs ++ [zV] := by rw [partsL_opt, partsL_opt]; simp [List.append_assoc]
  have ef1 : tag_Fit.f l c g (vs ++ [zV]) l c g vs = some true := by
    unfold tag_Fit.f
    have := hF.2.2
    rw [if_pos ⟨by simp; omega, by omega⟩, ep, (beg_snoc _ _).1]
  have ef2 : tag_Fit.f l c g vs l c g (vs ++ [zV]) = some false := by
    unfold tag_Fit.f
    have := hF.2.2
    rw [if_pos ⟨by omega, by simp; omega⟩, ep, (beg_snoc _ _).2]
  rw [less_f _ _ _ _ (by have := hF.2.2; simp; omega), less_snoc, Option.bind_some, str_f 101 (by omega) _ _ _ _ hF]
  simp only [Option.bind_some, if_true, ef1, ef2, Bool.false_eq_true, if_false]
  simp
theorem more_run (s : ByteArray) (hs : s.size ≤ 80) (l c g : ByteArray) (vs : List ByteArray) (h : P0 (pcs s) = (l, c, g, vs, true)) (hF : Fit 101 l c g vs) (n : Nat) : ∀ (k i : Nat), n < k → i + n = vs.length → hasS (vs.take i) zV = false →
    polyglotlaw03_TagMore.l0 k s vs (vs.length : Int) (i : Int) l c g vs l c g vs l c g vs = some true := by
  induction n with
  | zero =>
    intro k i hk hi hz
    obtain ⟨k, rfl⟩ : ∃ j, k = j + 1 := ⟨k - 1, by omega⟩
    rw [List.take_of_length_le (by omega)] at hz
    exact more_end k s hs l c g vs h hF hz _ _ _ (by omega)
  | succ n ih =>
    intro k i hk hi hz
    obtain ⟨k, rfl⟩ : ∃ j, k = j + 1 := ⟨k - 1, by omega⟩
    have hil : i < vs.length := by omega
    have hv := hF.2.2
    have e : rdOf ByteArray.empty vs (i : Int) = vs[i] := by
      unfold rdOf
      simp [List.getD_eq_getElem?_getD, List.getElem?_eq_getElem hil]
    rw [polyglotlaw03_TagMore.l0, if_pos (by omega), if_pos (by omega), if_pos (by omega), e]
    by_cases hq : vs[i].toList = ([122, 122, 122, 122, 122, 122, 122, 57] : List UInt8)
    · rw [if_pos hq]
    · rw [if_neg hq, wrap_id (x := (i : Int) + 1) (by omega) (by omega)]
      refine ih k (i + 1) (by omega) (by omega) ?_
      unfold hasS at hz ⊢
      rw [List.take_succ_eq_append_getElem hil, List.any_append, hz]
      have ez : zV.toList = ([122, 122, 122, 122, 122, 122, 122, 57] : List UInt8) := by rw [tl]; rfl
      have : decide (zV.toList = vs[i].toList) = false := by
        rw [decide_eq_false_iff_not, ez]
        exact fun k => hq k.symm
      simp [this]
theorem TagMore : polyglotlaw03_TagMore.Pure := by
  intro a0 _
  refine ⟨1000, ?_⟩
  unfold polyglotlaw03_TagMore.f law03_head.f
  rw [Option.bind_some, if_pos rfl]
  by_cases hs : (a0.size : Int) > 80
  · rw [if_pos hs]
  · have eb : law03_big.f a0 = some (foldS true a0) := by unfold law03_big.f; rw [if_pos (by omega)]
    have es : law03_small.f a0 = some (foldS false a0) := by unfold law03_small.f; rw [if_pos (by omega)]
    rw [if_neg hs, parse_eq2 _ (by omega), Option.bind_some, eb, Option.bind_some, parse_eq2 _ (by rw [foldS_size]; omega), Option.bind_some, es, Option.bind_some, parse_eq2 _ (by rw [foldS_size]; omega), Option.bind_some, told_fold, told_fold]
    have e1 : ∀ b : Bool, (b != b) = false := fun b => by cases b <;> rfl
    rw [e1, if_neg (by simp), polyglotlaw03_TagMore.j0, if_neg (by simp)]
    rcases fine_said a0 (by omega) with e | ⟨lang, s, g, vs, e, h⟩
    · rw [e]; unfold notTold; simp only []; rw [if_neg (by simp)]
    · rw [e]
      simp only [if_true]
      exact more_run a0 (by omega) lang s g vs e h vs.length 999 0 (by have := h.2.2; omega) (by omega) (by unfold hasS; simp)
end Go.Proofs.YtpedajhcfkohlaaDoor.Pure
