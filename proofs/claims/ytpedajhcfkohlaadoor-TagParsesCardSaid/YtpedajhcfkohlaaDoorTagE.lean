import Derived.Test.YtpedajhcfkohlaaDoorTagD
/- A tag with one part less, with one variant more, and with letters big or small: in plain lists. -/
namespace Go.Proofs.YtpedajhcfkohlaaDoor.Pure
open Go.RowKit Go.Proofs.YtpedajhcfkohlaaDoorHand Go.Proofs.YtpedajhcfkohlaaDoorW.PrintWords Go.Proofs.YtpedajhcfkohlaaDoorW.PrintLast Go.Proofs.YtpedajhcfkohlaaDoorW.PrintMore
set_option linter.unusedSimpArgs false
set_option linter.unusedVariables false
/-- A tag without its last part; the last word: there was more than one. -/
def lessT (lang scr reg : ByteArray) (vs : List ByteArray) : Go.Proofs.YtpedajhcfkohlaaDoorHand.Told :=
  if 0 < vs.length then (lang, scr, reg, vs.dropLast, true) else if reg.toList = ([] : List UInt8) then (if scr.toList = ([] : List UInt8) then notTold else (lang, (⟨#[]⟩ : ByteArray), reg, vs, true)) else (lang, scr, (⟨#[]⟩ : ByteArray), vs, true)
theorem NV_drop : ∀ (vs acc : List ByteArray), NV acc vs → NV acc vs.dropLast
  | [], _, _ => trivial
  | [v], _, _ => trivial
  | v :: q :: r, acc, h => by
    rw [List.dropLast_cons_cons]
    exact ⟨h.1, h.2.1, h.2.2.1, NV_drop (q :: r) _ h.2.2.2⟩
theorem ok_size {P : ByteArray → Prop} {s : ByteArray} (h : s.toList = ([] : List UInt8)) : s = (⟨#[]⟩ : ByteArray) := by
  apply ba_ext
  rw [← tl, h]
theorem less_said (lang scr reg : ByteArray) (vs : List ByteArray) (h : Norm lang scr reg vs) :
    (lessT lang scr reg vs = notTold ∧ scr = (⟨#[]⟩ : ByteArray) ∧ reg = (⟨#[]⟩ : ByteArray) ∧ vs = [] ∧ partsL lang scr reg vs = [lang]) ∨
    ∃ scr' reg' vs', lessT lang scr reg vs = (lang, scr', reg', vs', true) ∧ Norm lang scr' reg' vs' ∧ partsL lang scr' reg' vs' = (partsL lang scr reg vs).dropLast ∧ 2 ≤ (partsL lang scr reg vs).length ∧ vs'.length ≤ vs.length := by
  obtain ⟨h1, h2, h3, h4⟩ := h
  unfold lessT
  by_cases hv : 0 < vs.length
  · rw [if_pos hv]
    refine .inr ⟨scr, reg, vs.dropLast, rfl, ⟨h1, h2, h3, NV_drop vs [] h4⟩, ?_, ?_, by rw [List.length_dropLast]; omega⟩
    · have hne : vs ≠ [] := List.length_pos_iff.1 hv
      rw [partsL_opt, partsL_opt]
      have e : lang :: (optL scr ++ (optL reg ++ vs)) = (lang :: (optL scr ++ optL reg)) ++ vs := by simp [List.append_assoc]
      rw [e, List.dropLast_append_of_ne_nil hne]
      simp [List.append_assoc]
    · rw [partsL_opt]; simp; omega
  · have hv0 : vs = [] := List.eq_nil_of_length_eq_zero (by omega)
    subst hv0
    rw [if_neg hv]
    by_cases hr : reg.toList = ([] : List UInt8)
    · rw [if_pos hr]
      have er := ok_size (P := fun _ => True) hr
      by_cases hs : scr.toList = ([] : List UInt8)
      · rw [if_pos hs]
        have es := ok_size (P := fun _ => True) hs
        refine .inl ⟨rfl, es, er, rfl, ?_⟩
        rw [es, er, partsL_opt, optL_nil]; rfl
      · rw [if_neg hs]
        refine .inr ⟨_, reg, [], rfl, ⟨h1, .inl rfl, h3, h4⟩, ?_, ?_, Nat.le_refl _⟩
        · rw [er, partsL_opt, partsL_opt, optL_nil]
          unfold optL
          rw [if_neg hs]; rfl
        · rw [partsL_opt]
          unfold optL
          rw [if_neg hs]; simp
    · rw [if_neg hr]
      refine .inr ⟨scr, _, [], rfl, ⟨h1, h2, .inl rfl, h4⟩, ?_, ?_, Nat.le_refl _⟩
      · rw [partsL_opt, partsL_opt, optL_nil]
        have : optL reg = [reg] := by unfold optL; rw [if_neg hr]
        rw [this]
        have e : lang :: (optL scr ++ ([reg] ++ [])) = (lang :: optL scr) ++ [reg] := by simp
        rw [e, List.dropLast_concat]; simp
      · rw [partsL_opt]
        have : optL reg = [reg] := by unfold optL; rw [if_neg hr]
        rw [this]; simp
/-! Letters big or small. -/
theorem fc_hy (a : Bool) (c : UInt8) : fc a c = 45 ↔ c = 45 := by
  constructor
  · intro h
    have h1 : (fc a c).toNat = 45 := by rw [h]; rfl
    rw [fc_nat] at h1
    apply UInt8.toNat_inj.1
    show c.toNat = 45
    unfold fcN at h1
    cases a <;> simp only [if_true, if_false, Bool.false_eq_true] at h1 <;> split at h1 <;> omega
  · rintro rfl
    apply UInt8.toNat_inj.1
    rw [fc_nat]
    cases a <;> rfl
theorem cuts_map (a : Bool) : ∀ (l : List UInt8), cuts (l.map (fc a)) = (cuts l).map (fun p => p.map (fc a))
  | [] => rfl
  | c :: r => by
    have ih := cuts_map a r
    have hn := cuts_ne r
    rw [List.map_cons]
    unfold cuts
    rw [ih]
    by_cases hc : c = 45
    · rw [if_pos hc, if_pos ((fc_hy a c).2 hc)]; rfl
    · rw [if_neg hc, if_neg (fun e => hc ((fc_hy a c).1 e))]
      cases he : cuts r with
      | nil => exact absurd he hn
      | cons h t => rfl
theorem pcs_fold (a : Bool) (s : ByteArray) : pcs (foldS a s) = (pcs s).map (foldS a) := by
  unfold pcs
  rw [fold_data, cuts_map, List.map_map, List.map_map]
  rfl
theorem P3_fold (a : Bool) (lang scr reg : ByteArray) : ∀ (l acc : List ByteArray), P3 lang scr reg (l.map (foldS a)) acc = P3 lang scr reg l acc
  | [], acc => rfl
  | p :: ps, acc => by
    rw [List.map_cons, P3_cons, P3_cons, varB_fold, fold_fold, P3_fold a lang scr reg ps]
theorem P2_fold (a : Bool) (lang scr : ByteArray) (l : List ByteArray) : P2 lang scr (l.map (foldS a)) = P2 lang scr l := by
  cases l with
  | nil => rfl
  | cons p ps =>
    have h := P3_fold a lang scr (⟨#[]⟩ : ByteArray) (p :: ps) []
    rw [List.map_cons] at h ⊢
    rw [P2_cons, P2_cons, regB_fold, fold_fold, P3_fold, h]
theorem P1_fold (a : Bool) (lang : ByteArray) (l : List ByteArray) : P1 lang (l.map (foldS a)) = P1 lang l := by
  cases l with
  | nil => rfl
  | cons p ps =>
    have h := P2_fold a lang (⟨#[]⟩ : ByteArray) (p :: ps)
    rw [List.map_cons] at h ⊢
    rw [P1_cons, P1_cons, scrB_fold, scr_fold, P2_fold, h]
theorem P0_fold (a : Bool) (l : List ByteArray) : P0 (l.map (foldS a)) = P0 l := by
  cases l with
  | nil => rfl
  | cons p ps =>
    rw [List.map_cons, P0_cons, P0_cons, badB_fold, fold_fold, P1_fold]
theorem told_fold (a : Bool) (s : ByteArray) : P0 (pcs (foldS a s)) = P0 (pcs s) := by rw [pcs_fold, P0_fold]
/-! A variant behind it. -/
theorem cuts_two : ∀ (a r : List UInt8), cuts (a ++ 45 :: r) = cuts a ++ cuts r
  | [], r => cuts_app [] r (fun x hx => by cases hx)
  | c :: a, r => by
    have ih := cuts_two a r
    have hn := cuts_ne a
    rw [List.cons_append, cuts, cuts, ih]
    by_cases hc : c = 45
    · rw [if_pos hc, if_pos hc]; rfl
    · rw [if_neg hc, if_neg hc]
      cases he : cuts a with
      | nil => exact absurd he hn
      | cons h t => rfl
theorem P3_snoc (lang scr reg z : ByteArray) (hz : varB z = true) (hf : foldS false z = z) : ∀ (l acc ws : List ByteArray), P3 lang scr reg l acc = (lang, scr, reg, acc ++ ws, true) → hasS (acc ++ ws) z = false → P3 lang scr reg (l ++ [z]) acc = (lang, scr, reg, acc ++ ws ++ [z], true)
  | [], acc, ws, h, hh => by
    have e : acc = acc ++ ws := by
      have h2 : (lang, scr, reg, acc, true) = (lang, scr, reg, acc ++ ws, true) := h
      injection h2 with _ h2
      injection h2 with _ h2
      injection h2 with _ h2
      injection h2 with h2 _
    rw [List.nil_append, P3_cons, if_pos hz, hf, if_neg (by rw [← e] at hh; rw [hh]; simp), ← e]; rfl
  | p :: ps, acc, ws, h, hh => by
    rw [List.cons_append, P3_cons]
    rw [P3_cons] at h
    by_cases hv : varB p = true
    · rw [if_pos hv] at h ⊢
      by_cases ha : hasS acc (foldS false p) = true
      · rw [if_pos ha] at h
        unfold notTold at h
        injection h with _ h
        injection h with _ h
        injection h with _ h
        injection h with _ h
        cases h
      · rw [if_neg ha] at h ⊢
        obtain ⟨us, hus⟩ : ∃ us, acc ++ ws = acc ++ [foldS false p] ++ us := by
          rcases P3_said lang scr reg ps (acc ++ [foldS false p]) 3 ⟨#[]⟩ (.inl (by omega)) with k | ⟨us, k, _, _⟩
          · rw [k.1] at h
            unfold notTold at h
            injection h with _ h
            injection h with _ h
            injection h with _ h
            injection h with _ h
            cases h
          · rw [k] at h
            injection h with _ h
            injection h with _ h
            injection h with _ h
            injection h with h _
            exact ⟨us, h.symm⟩
        rw [hus] at h hh ⊢
        exact P3_snoc lang scr reg z hz hf ps _ us h hh
    · rw [if_neg hv] at h
      unfold notTold at h
      injection h with _ h
      injection h with _ h
      injection h with _ h
      injection h with _ h
      cases h
theorem P2_snoc (lang scr reg z : ByteArray) (vs : List ByteArray) (hz : varB z = true) (hf : foldS false z = z) (l : List ByteArray) (h : P2 lang scr l = (lang, scr, reg, vs, true)) (hh : hasS vs z = false) : P2 lang scr (l ++ [z]) = (lang, scr, reg, vs ++ [z], true) := by
  have key : ∀ m r, P3 lang scr r m [] = (lang, scr, reg, vs, true) → P3 lang scr r (m ++ [z]) [] = (lang, scr, reg, vs ++ [z], true) := by
    intro m r hm
    have er : r = reg := by
      rcases P3_said lang scr r m [] 3 ⟨#[]⟩ (.inl (by omega)) with k | ⟨us, k, _, _⟩
      · rw [k.1] at hm
        unfold notTold at hm
        injection hm with _ h
        injection h with _ h
        injection h with _ h
        injection h with _ h
        cases h
      · rw [k] at hm
        injection hm with _ h
        injection h with _ h
        injection h with h _
    subst er
    exact P3_snoc lang scr r z hz hf m [] vs hm hh
  cases l with
  | nil =>
    rw [List.nil_append, P2_cons, if_neg (by rw [var_reg hz]; simp)]
    exact key [] _ h
  | cons p ps =>
    rw [List.cons_append, P2_cons]
    rw [P2_cons] at h
    by_cases hr : regB p = true
    · rw [if_pos hr] at h ⊢
      exact key ps _ h
    · rw [if_neg hr] at h ⊢
      exact key (p :: ps) _ h
theorem P1_snoc (lang scr reg z : ByteArray) (vs : List ByteArray) (hz : varB z = true) (hf : foldS false z = z) (l : List ByteArray) (h : P1 lang l = (lang, scr, reg, vs, true)) (hh : hasS vs z = false) : P1 lang (l ++ [z]) = (lang, scr, reg, vs ++ [z], true) := by
  have key : ∀ m s st, (st = 1 ∨ st = 0 ∧ ∀ p ps, m = p :: ps → scrB p = false) → P2 lang s m = (lang, scr, reg, vs, true) → P2 lang s (m ++ [z]) = (lang, scr, reg, vs ++ [z], true) := by
    intro m s st hst hm
    have er : s = scr := by
      rcases P2_said lang s m st ⟨#[]⟩ (by omega) (by rcases hst with h | h; exact .inl h; exact .inr h.2) with k | ⟨rr, us, k, _⟩
      · rw [k.1] at hm
        unfold notTold at hm
        injection hm with _ h
        injection h with _ h
        injection h with _ h
        injection h with _ h
        cases h
      · rw [k] at hm
        injection hm with _ h
        injection h with h _
    subst er
    exact P2_snoc lang s reg z vs hz hf m hm hh
  cases l with
  | nil =>
    rw [List.nil_append, P1_cons, if_neg (by rw [var_scr hz]; simp)]
    exact key [] _ 0 (.inr ⟨rfl, fun p ps e => by cases e⟩) h
  | cons p ps =>
    rw [List.cons_append, P1_cons]
    rw [P1_cons] at h
    by_cases hr : scrB p = true
    · rw [if_pos hr] at h ⊢
      exact key ps _ 1 (.inl rfl) h
    · rw [if_neg hr] at h ⊢
      exact key (p :: ps) _ 0 (.inr ⟨rfl, fun q qs e => by injection e with e1 e2; subst e1; exact Bool.eq_false_iff.mpr hr⟩) h
theorem P0_snoc (lang scr reg z : ByteArray) (vs : List ByteArray) (hz : varB z = true) (hf : foldS false z = z) (l : List ByteArray) (h : P0 l = (lang, scr, reg, vs, true)) (hh : hasS vs z = false) : P0 (l ++ [z]) = (lang, scr, reg, vs ++ [z], true) := by
  cases l with
  | nil =>
    have h2 : notTold = (lang, scr, reg, vs, true) := h
    unfold notTold at h2
    injection h2 with _ h
    injection h with _ h
    injection h with _ h
    injection h with _ h
    cases h
  | cons p ps =>
    rw [List.cons_append, P0_cons]
    rw [P0_cons] at h
    by_cases hb : badB p = true
    · rw [if_pos hb] at h
      unfold notTold at h
      injection h with _ h
      injection h with _ h
      injection h with _ h
      injection h with _ h
      cases h
    · rw [if_neg hb] at h ⊢
      have el : foldS false p = lang := by
        rcases P1_said (foldS false p) ps ⟨#[]⟩ with k | ⟨sc, rr, us, k, _⟩
        · rw [k.1] at h
          unfold notTold at h
          injection h with _ h
          injection h with _ h
          injection h with _ h
          injection h with _ h
          cases h
        · rw [k] at h
          injection h with h _
      rw [el] at h ⊢
      exact P1_snoc lang scr reg z vs hz hf ps h hh
/-! Told again, at any size at hand. -/
theorem parse_eq2 (s : ByteArray) (h : s.size < 100000) : tag_Parse.f s = some (P0 (pcs s)) := by
  unfold tag_Parse.f
  rw [split_eq s h, Option.bind_some, if_pos]
  have := pcs_length s
  exact ⟨this.1, by omega, fun p hp => by have := (pcs_good s p hp).2; omega⟩
theorem less_good (n : Nat) (lang scr reg : ByteArray) (vs : List ByteArray) (h : GoodT n (lang, scr, reg, vs, true)) : GoodT n (lessT lang scr reg vs) := by
  obtain ⟨h1, h2, h3, h4⟩ := h
  unfold lessT
  split
  · exact ⟨h1, h2, h3, fun v hv => h4 v (List.dropLast_subset _ hv)⟩
  · split
    · split
      · exact good_not n
      · exact ⟨h1, good_nil n, h3, h4⟩
    · exact ⟨h1, h2, good_nil n, h4⟩
/-- A tag in its form, of a size at hand. -/
def Fine (lang scr reg : ByteArray) (vs : List ByteArray) : Prop := Norm lang scr reg vs ∧ GoodT 100 (lang, scr, reg, vs, true) ∧ vs.length ≤ 101
theorem fine_said (s : ByteArray) (h : s.size ≤ 100) : P0 (pcs s) = notTold ∨ ∃ lang scr reg vs, P0 (pcs s) = (lang, scr, reg, vs, true) ∧ Fine lang scr reg vs := by
  have hn : pcs s ≠ [] := List.length_pos_iff.1 (pcs_length s).1
  have hg := P0_good 100 (pcs s) (fun p hp => ⟨(pcs_good s p hp).1, Nat.le_trans (pcs_good s p hp).2 h⟩)
  have hl := (pcs_length s).2
  rcases P0_said (pcs s) hn with k | ⟨lang, scr, reg, vs, k, kn, _⟩
  · exact .inl k.1
  · rw [k] at hg
    exact .inr ⟨lang, scr, reg, vs, k, kn, hg.1, by have := hg.2; show vs.length ≤ 101; exact Nat.le_trans hg.2 (by omega)⟩
theorem fine_text (lang scr reg : ByteArray) (vs : List ByteArray) (h : Fine lang scr reg vs) : pcs (textL (partsL lang scr reg vs)) = partsL lang scr reg vs ∧ (textL (partsL lang scr reg vs)).size < 20000 ∧ P0 (pcs (textL (partsL lang scr reg vs))) = (lang, scr, reg, vs, true) := by
  obtain ⟨h1, h2, h3⟩ := h
  have hp := partsL_good 100 lang scr reg vs h2
  have e := text_pcs 100 _ (partsL_ne lang scr reg vs) hp
  have hs := text_size 100 _ hp
  have hl := (partsL_len lang scr reg vs).1
  refine ⟨e, ?_, by rw [e]; exact P0_again lang scr reg vs h1⟩
  have : (partsL lang scr reg vs).length * (100 + 1) ≤ 104 * (100 + 1) := Nat.mul_le_mul_right _ (by omega)
  omega
theorem text_drop (ps : List ByteArray) (h : 2 ≤ ps.length) : (textL ps.dropLast).size < (textL ps).size := by
  cases ps with
  | nil => simp at h
  | cons p r =>
    have hr : r ≠ [] := by
      intro e
      rw [e] at h; simp at h
    obtain ⟨q, z, rfl⟩ : ∃ q z, r = q ++ [z] := ⟨r.dropLast, r.getLast hr, (List.dropLast_concat_getLast hr).symm⟩
    have e : (p :: (q ++ [z])).dropLast = p :: q := by
      have : p :: (q ++ [z]) = (p :: q) ++ [z] := rfl
      rw [this, List.dropLast_concat]
    rw [e, textL_cons, textL_cons]
    unfold addL
    rw [List.foldl_append]
    show _ < (dash (q.foldl dash p) z).size
    unfold dash
    rw [ByteArray.size_append, ByteArray.size_append]
    have : (⟨#[45]⟩ : ByteArray).size = 1 := rfl
    omega
theorem text_one (p : ByteArray) : textL [p] = p := textL_cons p []
end Go.Proofs.YtpedajhcfkohlaaDoor.Pure
