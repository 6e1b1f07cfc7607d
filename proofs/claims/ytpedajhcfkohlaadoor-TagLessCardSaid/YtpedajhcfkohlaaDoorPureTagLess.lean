import Derived.Test.YtpedajhcfkohlaaDoorTagE
import Derived.Test.YtpedajhcfkohlaaDoorPTLessx2
/- Part by part less: each tag is fitted by the one ahead, down to the language alone. -/
namespace Go.Proofs.YtpedajhcfkohlaaDoor.Pure
open Go.RowKit Go.Proofs.YtpedajhcfkohlaaDoor.PTLess Go.Proofs.YtpedajhcfkohlaaDoorHand Go.Proofs.YtpedajhcfkohlaaDoorW.PrintWords Go.Proofs.YtpedajhcfkohlaaDoorW.PrintLast Go.Proofs.YtpedajhcfkohlaaDoorW.PrintMore
set_option linter.unusedSimpArgs false
set_option linter.unusedVariables false
theorem less_f (l s g : ByteArray) (vs : List ByteArray) (hv : vs.length ≤ 1000) : tag_Tag_Less.f l s g vs = some (lessT l s g vs) := by
  unfold tag_Tag_Less.f lessT
  by_cases h : 0 < vs.length
  · have e : wrap64 ((vs.length : Int) - 1) = ((vs.length - 1 : Nat) : Int) := by rw [wrap_id (by omega) (by omega)]; omega
    rw [if_pos (by omega), if_pos h, e, if_pos (by omega), if_pos (by omega), Int.toNat_natCast]
    have e2 : slices_Clone.f (vs.take (vs.length - 1)) = some vs.dropLast := by
      unfold slices_Clone.f
      rw [List.dropLast_eq_take]
      first | rfl | (rw [if_pos (by rw [List.length_take]; omega)])
    rw [e2, Option.bind_some]
  · rw [if_neg (by omega), if_neg h]
    by_cases a : g.toList = ([] : List UInt8)
    · rw [if_pos a, if_pos a]
      by_cases b : s.toList = ([] : List UInt8)
      · rw [if_pos b, if_pos b]; rfl
      · rw [if_neg b, if_neg b]
    · rw [if_neg a, if_neg a]
theorem str_f (l s g : ByteArray) (vs : List ByteArray) (h : Fine l s g vs) : tag_Str.f l s g vs = some (textL (partsL l s g vs)) := by
  obtain ⟨_, ⟨h1, h2, h3, h4⟩, h5⟩ := h
  unfold tag_Str.f
  rw [if_pos]
  refine ⟨⟨?_, ?_, ?_, fun v hv => ?_⟩, by omega⟩
  · have := h1.2; show l.size ≤ 900; exact Nat.le_trans h1.2 (by omega)
  · exact Nat.le_trans h2.2 (by omega)
  · exact Nat.le_trans h3.2 (by omega)
  · exact Nat.le_trans (h4 v hv).2 (by omega)
theorem beg_drop (p : List ByteArray) : begB p p.dropLast = true := by
  unfold begB
  rw [List.dropLast_eq_take, List.length_take]
  have e : min (p.length - 1) p.length = p.length - 1 := by omega
  rw [e]
  simp
theorem less_fine (l s g : ByteArray) (vs : List ByteArray) (h : Fine l s g vs) (s' g' : ByteArray) (vs' : List ByteArray) (hn : Norm l s' g' vs') (e : lessT l s g vs = (l, s', g', vs', true)) (hl : vs'.length ≤ vs.length) : Fine l s' g' vs' := by
  refine ⟨hn, ?_, Nat.le_trans hl h.2.2⟩
  have := less_good 100 l s g vs h.2.1
  rw [e] at this
  exact this
theorem less_run (P : List ByteArray) (lang : ByteArray) (r : List ByteArray) (hP : P = lang :: r) (m : Nat) : ∀ (k : Nat) (s g : ByteArray) (vs : List ByteArray), Fine lang s g vs → (partsL lang s g vs).length = m → 2 * m < k → polyglotlaw03_TagLess.l0 k P (m : Int) lang s g vs = some true := by
  induction m with
  | zero => intro k s g vs h hm hk; have := (partsL_len lang s g vs).2; omega
  | succ m ih =>
    intro k s g vs h hm hk
    obtain ⟨k, rfl⟩ : ∃ j, k = j + 1 + 1 := ⟨k - 2, by omega⟩
    have hv : vs.length ≤ 1000 := by have := h.2.2; omega
    rw [polyglotlaw03_TagLess.l0, less_f _ _ _ _ hv]
    rcases less_said lang s g vs h.1 with ⟨e, es, eg, ev, ep⟩ | ⟨s', g', vs', e, hn, ep, h2, hl⟩
    · rw [ep] at hm
      have hm0 : m = 0 := by simp at hm; omega
      subst hm0
      rw [if_neg (by omega), e, Option.bind_some]
      have er : rdOf ByteArray.empty P 0 = lang := by rw [hP]; rfl
      unfold notTold
      simp only []
      rw [if_neg (by simp), if_pos (tl _), str_f _ _ _ _ h, Option.bind_some, ep, text_one, if_pos (by rw [hP]; simp), er, if_pos rfl]
      simp
    · have h' := less_fine lang s g vs h s' g' vs' hn e hl
      have hm' : (partsL lang s' g' vs').length = m := by rw [ep, List.length_dropLast, hm]; omega
      have hm1 : 1 ≤ m := by rw [hm] at h2; omega
      have hm2 : m ≤ 104 := by have := (partsL_len lang s' g' vs').1; have := h'.2.2; omega
      have ht := fine_text lang s' g' vs' h'
      have hlt := text_drop _ h2
      rw [← ep] at hlt
      rw [if_pos (by omega), e, Option.bind_some]
      simp only [if_true]
      have ef : tag_Fit.f lang s g vs lang s' g' vs' = some true := by
        unfold tag_Fit.f
        rw [if_pos ⟨by have := h.2.2; omega, by have := h'.2.2; omega⟩, ep, beg_drop]
      have esp : law03_split.f (textL (partsL lang s' g' vs')) = some (partsL lang s' g' vs') := by
        unfold law03_split.f
        rw [if_pos (by have := ht.2.1; omega), ht.1]
      rw [ef, Option.bind_some]
      simp only [if_true]
      rw [str_f _ _ _ _ h', Option.bind_some, str_f _ _ _ _ h, Option.bind_some, if_neg (by omega), Option.bind_some, esp, Option.bind_some, hm']
      have ew : wrap64 (((m + 1 : Nat) : Int) - 1) = (m : Int) := by rw [wrap_id (by omega) (by omega)]; omega
      rw [ew]
      have eb : ((m : Int) != (m : Int)) = false := by simp
      rw [eb, polyglotlaw03_TagLess.j1, if_neg (by simp), str_f _ _ _ _ h', Option.bind_some, parse_eq2 _ (by have := ht.2.1; omega), ht.2.2, Option.bind_some]
      simp only [if_true]
      rw [str_f _ _ _ _ h', Option.bind_some, Option.bind_some, if_pos rfl, ew]
      exact ih k s' g' vs' h' hm' (by omega)
theorem TagLess : polyglotlaw03_TagLess.Pure := by
  intro a0 _
  refine ⟨1000, ?_⟩
  unfold polyglotlaw03_TagLess.f law03_head.f
  rw [Option.bind_some, if_pos rfl]
  by_cases hs : (a0.size : Int) > 100
  · rw [if_pos hs]
  · rw [if_neg hs, parse_eq2 _ (by omega), Option.bind_some]
    rcases fine_said a0 (by omega) with e | ⟨lang, s, g, vs, e, h⟩
    · rw [e]; unfold notTold; simp only []; rw [if_neg (by simp)]
    · rw [e]
      simp only [if_true]
      have ht := fine_text lang s g vs h
      rw [str_f _ _ _ _ h, Option.bind_some]
      unfold law03_split.f
      rw [if_pos (by have := ht.2.1; omega), ht.1, Option.bind_some]
      have hl := (partsL_len lang s g vs).1
      exact less_run (partsL lang s g vs) lang _ (partsL_opt lang s g vs) _ 1000 s g vs h rfl (by have := h.2.2; omega)
end Go.Proofs.YtpedajhcfkohlaaDoor.Pure
