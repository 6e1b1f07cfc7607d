import Derived.Test.YtpedajhcfkohlaaDoorTagB
/- What tag.Parse tells is in its form: its parts are told again as themselves; and the law's own reading of a text, part by part, tells the same. -/
namespace Go.Proofs.YtpedajhcfkohlaaDoor.Pure
open Go.RowKit Go.Proofs.YtpedajhcfkohlaaDoorHand Go.Proofs.YtpedajhcfkohlaaDoorW.PrintWords Go.Proofs.YtpedajhcfkohlaaDoorW.PrintLast Go.Proofs.YtpedajhcfkohlaaDoorW.PrintMore
set_option linter.unusedSimpArgs false
set_option linter.unusedVariables false
def fcN (up : Bool) (n : Nat) : Nat := if up = true then (if 97 ≤ n ∧ n ≤ 122 then n - 32 else n) else (if 65 ≤ n ∧ n ≤ 90 then n + 32 else n)
theorem fc_nat (up : Bool) (c : UInt8) : (fc up c).toNat = fcN up c.toNat := by
  have hb : c.toNat < 256 := c.toNat_lt
  unfold fc fcN
  cases up with
  | true =>
    simp only [if_true]
    split
    · rw [UInt8.toNat_ofNat']; omega
    · rfl
  | false =>
    simp only [if_false, Bool.false_eq_true]
    split
    · rw [UInt8.toNat_ofNat']; omega
    · rfl
theorem fcN_fcN (a b : Bool) (n : Nat) : fcN a (fcN b n) = fcN a n := by
  unfold fcN
  cases a <;> cases b <;> simp only [if_true, if_false, Bool.false_eq_true] <;> (repeat' split) <;> omega
theorem fc_fc (a b : Bool) (c : UInt8) : fc a (fc b c) = fc a c := UInt8.toNat_inj.1 (by rw [fc_nat, fc_nat, fcN_fcN, fc_nat])
theorem let_fc (a : Bool) (c : UInt8) : letB ((fc a c).toNat : Int) = letB (c.toNat : Int) := by
  rw [fc_nat]
  unfold letB fcN
  apply decide_eq_decide.2
  cases a <;> simp only [if_true, if_false, Bool.false_eq_true] <;> split <;> omega
theorem dig_fc (a : Bool) (c : UInt8) : digB ((fc a c).toNat : Int) = digB (c.toNat : Int) := by
  rw [fc_nat]
  unfold digB fcN
  apply decide_eq_decide.2
  cases a <;> simp only [if_true, if_false, Bool.false_eq_true] <;> split <;> omega
theorem eit_fc (a : Bool) (c : UInt8) : eitB ((fc a c).toNat : Int) = eitB (c.toNat : Int) := by
  unfold eitB
  rw [let_fc, dig_fc]
theorem fold_data (a : Bool) (s : ByteArray) : (foldS a s).data.toList = s.data.toList.map (fc a) := rfl
theorem fold_fold (a b : Bool) (s : ByteArray) : foldS a (foldS b s) = foldS a s := by
  apply ba_ext
  rw [fold_data, fold_data, fold_data, List.map_map]
  congr 1
  funext c
  exact fc_fc a b c
theorem scr_data (s : ByteArray) : (scrS s).data.toList = (s.data.toList.take 1).map (fc true) ++ (s.data.toList.drop 1).map (fc false) := by
  unfold scrS
  rw [ByteArray.data_append, Array.toList_append, fold_data, fold_data, extract_list, extract_list]
  congr 2
  have h := tl_len s
  rw [List.take_of_length_le]
  rw [List.length_drop]; omega
theorem scr_size (s : ByteArray) : (scrS s).size = s.size := by
  rw [← tl_len, scr_data, List.length_append, List.length_map, List.length_map, List.length_take, List.length_drop, tl_len]
  omega
/-- All bytes of a text, by its list. -/
theorem allB_data (P : Int → Bool) (s : ByteArray) : allB P s = (s.data.toList.all (fun c => P (c.toNat : Int)) && decide (s.size ≠ 0)) := by
  unfold allB bytesOf
  rw [List.all_map]
  congr 1
  rw [tl]
  cases h : s.data.toList with
  | nil => have := tl_len s; rw [h] at this; simp at this; simp [← this]
  | cons x r => have := tl_len s; rw [h] at this; simp at this; simp [← this]
theorem allB_fold (P : Int → Bool) (a : Bool) (hP : ∀ c : UInt8, P ((fc a c).toNat : Int) = P (c.toNat : Int)) (s : ByteArray) : allB P (foldS a s) = allB P s := by
  rw [allB_data, allB_data, fold_data, foldS_size, List.all_map]
  congr 2
  funext c
  exact hP c
theorem allB_scr (P : Int → Bool) (hP : ∀ (a : Bool) (c : UInt8), P ((fc a c).toNat : Int) = P (c.toNat : Int)) (s : ByteArray) : allB P (scrS s) = allB P s := by
  rw [allB_data, allB_data, scr_data, scr_size, List.all_append, List.all_map, List.all_map]
  congr 1
  have e1 : ((fun c : UInt8 => P (c.toNat : Int)) ∘ fc true) = fun c : UInt8 => P (c.toNat : Int) := by funext c; exact hP true c
  have e2 : ((fun c : UInt8 => P (c.toNat : Int)) ∘ fc false) = fun c : UInt8 => P (c.toNat : Int) := by funext c; exact hP false c
  rw [e1, e2, ← List.all_append, List.take_append_drop]
theorem scrB_scr (s : ByteArray) : scrB (scrS s) = scrB s := by
  unfold scrB
  rw [scr_size, allB_scr letB let_fc]
theorem regB_fold (a : Bool) (s : ByteArray) : regB (foldS a s) = regB s := by
  unfold regB
  rw [foldS_size, allB_fold letB a (let_fc a), allB_fold digB a (dig_fc a)]
theorem badB_fold (a : Bool) (s : ByteArray) : badB (foldS a s) = badB s := by
  unfold badB
  rw [foldS_size, allB_fold letB a (let_fc a)]
theorem bt_data (s : ByteArray) (x : UInt8) (r : List UInt8) (h : s.data.toList = x :: r) : bt s 0 = (x.toNat : Int) := by
  have hs : 0 < s.size := by rw [← tl_len, h]; simp
  unfold bt
  rw [dif_pos (by simpa using hs)]
  have : s[(0 : Int).toNat] = x := by
    show s.data[0] = x
    have h2 : s.data.toList[0]'(by rw [h]; simp) = x := by simp [h]
    rw [← h2, Array.getElem_toList]
  rw [this]
theorem dig_fold (a : Bool) (s : ByteArray) : digB (bt (foldS a s) 0) = digB (bt s 0) := by
  cases h : s.data.toList with
  | nil =>
    have hs : s.size = 0 := by rw [← tl_len, h]; rfl
    unfold bt
    rw [dif_neg (by rw [foldS_size, hs]; simp), dif_neg (by rw [hs]; simp)]
  | cons x r =>
    rw [bt_data s x r h, bt_data (foldS a s) (fc a x) (r.map (fc a)) (by rw [fold_data, h]; rfl), dig_fc]
theorem varB_fold (a : Bool) (s : ByteArray) : varB (foldS a s) = varB s := by
  unfold varB
  rw [foldS_size, allB_fold eitB a (eit_fc a), dig_fold]
theorem scr_scr (s : ByteArray) : scrS (scrS s) = scrS s := by
  apply ba_ext
  rw [scr_data (scrS s), scr_data s]
  cases s.data.toList with
  | nil => rfl
  | cons x r =>
    simp only [List.take_succ_cons, List.take_zero, List.drop_succ_cons, List.drop_zero, List.map_cons, List.map_nil, List.cons_append, List.nil_append, List.map_map]
    have e2 : fc false ∘ fc false = fc false := by funext c; exact fc_fc false false c
    rw [e2, fc_fc]
/-! What sort of part a text is. -/
theorem size_ne {s : ByteArray} (h : s.size ≠ 0) : s.toList ≠ ([] : List UInt8) := by
  intro e
  rw [tl] at e
  have := tl_len s
  rw [e] at this
  exact h this.symm
theorem scrB_size {s : ByteArray} (h : scrB s = true) : s.size = 4 := by unfold scrB at h; rw [Bool.and_eq_true, decide_eq_true_eq] at h; exact h.1
theorem regB_size {s : ByteArray} (h : regB s = true) : s.size = 2 ∨ s.size = 3 := by
  unfold regB at h
  rw [Bool.or_eq_true, Bool.and_eq_true, Bool.and_eq_true, decide_eq_true_eq, decide_eq_true_eq] at h
  rcases h with h | h
  · exact .inl h.1
  · exact .inr h.1
theorem varB_size {s : ByteArray} (h : varB s = true) : 4 ≤ s.size ∧ s.size ≤ 8 := by
  unfold varB at h
  rw [Bool.and_eq_true, Bool.or_eq_true, Bool.and_eq_true, decide_eq_true_eq, decide_eq_true_eq] at h
  omega
theorem reg_scr {s : ByteArray} (h : regB s = true) : scrB s = false := by
  have := regB_size h
  unfold scrB
  rw [decide_eq_false (by omega)]; rfl
theorem var_reg {s : ByteArray} (h : varB s = true) : regB s = false := by
  have := varB_size h
  unfold regB
  rw [decide_eq_false (by omega), decide_eq_false (by omega)]; rfl
theorem let_dig {c : Int} (h : letB c = true) : digB c = false := by
  unfold letB at h
  unfold digB
  rw [decide_eq_true_eq] at h
  rw [decide_eq_false_iff_not]
  omega
theorem var_scr {s : ByteArray} (h : varB s = true) : scrB s = false := by
  rw [← Bool.not_eq_true]
  intro hs
  have h4 := scrB_size hs
  unfold varB at h
  rw [Bool.and_eq_true, Bool.or_eq_true, Bool.and_eq_true, decide_eq_true_eq, decide_eq_true_eq] at h
  unfold scrB at hs
  rw [Bool.and_eq_true, allB_data, Bool.and_eq_true] at hs
  cases hd : s.data.toList with
  | nil => have := tl_len s; rw [hd] at this; simp at this; omega
  | cons x r =>
    have h1 := hs.2.1
    rw [hd, List.all_cons, Bool.and_eq_true] at h1
    have h2 := let_dig h1.1
    rw [bt_data s x r hd] at h
    rw [h2] at h
    simp at h
    omega
/-! Parts in their form. -/
def NV : List ByteArray → List ByteArray → Prop
  | _, [] => True
  | acc, v :: r => varB v = true ∧ foldS false v = v ∧ hasS acc v = false ∧ NV (acc ++ [v]) r
def LangOk (l : ByteArray) : Prop := badB l = false ∧ foldS false l = l
def ScrOk (s : ByteArray) : Prop := s = (⟨#[]⟩ : ByteArray) ∨ (scrB s = true ∧ scrS s = s)
def RegOk (s : ByteArray) : Prop := s = (⟨#[]⟩ : ByteArray) ∨ (regB s = true ∧ foldS true s = s)
def Norm (lang scr reg : ByteArray) (vs : List ByteArray) : Prop := LangOk lang ∧ ScrOk scr ∧ RegOk reg ∧ NV [] vs
def dash (out p : ByteArray) : ByteArray := out ++ (⟨#[45]⟩ : ByteArray) ++ p
def addL (out : ByteArray) (ws : List ByteArray) : ByteArray := ws.foldl dash out
/-- The law's own reading, behind the first part. -/
def LS : Nat → List ByteArray → ByteArray → List ByteArray → ByteArray × Bool
  | _, _, out, [] => (out, true)
  | st, seen, out, p :: ps => if st < 1 ∧ scrB p = true then LS 1 seen (dash out (scrS p)) ps else if st < 2 ∧ regB p = true then LS 2 seen (dash out (foldS true p)) ps else if varB p = true then (if hasS seen (foldS false p) = true then ((⟨#[]⟩ : ByteArray), false) else LS 3 (seen ++ [foldS false p]) (dash out (foldS false p)) ps) else ((⟨#[]⟩ : ByteArray), false)
theorem LS_cons (st : Nat) (seen : List ByteArray) (out p : ByteArray) (ps : List ByteArray) : LS st seen out (p :: ps) = if st < 1 ∧ scrB p = true then LS 1 seen (dash out (scrS p)) ps else if st < 2 ∧ regB p = true then LS 2 seen (dash out (foldS true p)) ps else if varB p = true then (if hasS seen (foldS false p) = true then ((⟨#[]⟩ : ByteArray), false) else LS 3 (seen ++ [foldS false p]) (dash out (foldS false p)) ps) else ((⟨#[]⟩ : ByteArray), false) := rfl
def LP : List ByteArray → ByteArray × Bool
  | [] => ((⟨#[]⟩ : ByteArray), true)
  | p :: ps => if badB p = true then ((⟨#[]⟩ : ByteArray), false) else LS 0 [] (foldS false p) ps
theorem P3_cons (lang scr reg p : ByteArray) (ps acc : List ByteArray) : P3 lang scr reg (p :: ps) acc = if varB p = true then (if hasS acc (foldS false p) = true then notTold else P3 lang scr reg ps (acc ++ [foldS false p])) else notTold := rfl
theorem P2_cons (lang scr p : ByteArray) (ps : List ByteArray) : P2 lang scr (p :: ps) = if regB p = true then P3 lang scr (foldS true p) ps [] else P3 lang scr (⟨#[]⟩ : ByteArray) (p :: ps) [] := rfl
theorem P1_cons (lang p : ByteArray) (ps : List ByteArray) : P1 lang (p :: ps) = if scrB p = true then P2 lang (scrS p) ps else P2 lang (⟨#[]⟩ : ByteArray) (p :: ps) := rfl
theorem P0_cons (p : ByteArray) (ps : List ByteArray) : P0 (p :: ps) = if badB p = true then notTold else P1 (foldS false p) ps := rfl
def noL : ByteArray × Bool := ((⟨#[]⟩ : ByteArray), false)
theorem P3_said (lang scr reg : ByteArray) : ∀ (l acc : List ByteArray) (st : Nat) (out : ByteArray), (2 ≤ st ∨ ∀ p ps, l = p :: ps → regB p = false ∧ (st < 1 → scrB p = false)) →
    (P3 lang scr reg l acc = notTold ∧ LS st acc out l = noL) ∨ ∃ ws, P3 lang scr reg l acc = (lang, scr, reg, acc ++ ws, true) ∧ NV acc ws ∧ LS st acc out l = (addL out ws, true)
  | [], acc, st, out, _ => .inr ⟨[], by rw [List.append_nil]; rfl, trivial, rfl⟩
  | p :: ps, acc, st, out, hst => by
    rw [P3_cons, LS_cons]
    have c1 : ¬ (st < 1 ∧ scrB p = true) := by
      rintro ⟨a, b⟩
      rcases hst with h | h
      · omega
      · rw [(h p ps rfl).2 a] at b; cases b
    have c2 : ¬ (st < 2 ∧ regB p = true) := by
      rintro ⟨a, b⟩
      rcases hst with h | h
      · omega
      · rw [(h p ps rfl).1] at b; cases b
    rw [if_neg c1, if_neg c2]
    by_cases hv : varB p = true
    · rw [if_pos hv, if_pos hv]
      by_cases hh : hasS acc (foldS false p) = true
      · rw [if_pos hh, if_pos hh]; exact .inl ⟨rfl, rfl⟩
      · rw [if_neg hh, if_neg hh]
        rcases P3_said lang scr reg ps (acc ++ [foldS false p]) 3 (dash out (foldS false p)) (.inl (by omega)) with h | ⟨ws, h1, h2, h3⟩
        · exact .inl h
        · refine .inr ⟨foldS false p :: ws, ?_, ⟨?_, fold_fold _ _ _, Bool.eq_false_iff.mpr hh, h2⟩, h3⟩
          · rw [h1, List.append_assoc]; rfl
          · rw [varB_fold]; exact hv
    · rw [if_neg hv, if_neg hv]; exact .inl ⟨rfl, rfl⟩
def optL (s : ByteArray) : List ByteArray := if s.toList = ([] : List UInt8) then [] else [s]
theorem optL_nil : optL (⟨#[]⟩ : ByteArray) = [] := by unfold optL; rw [if_pos (by rw [tl])]
theorem optL_some {s : ByteArray} (h : s.size ≠ 0) : optL s = [s] := by unfold optL; rw [if_neg (size_ne h)]
theorem P2_said (lang scr : ByteArray) (l : List ByteArray) (st : Nat) (out : ByteArray) (hst : st < 2) (hs : st = 1 ∨ ∀ p ps, l = p :: ps → scrB p = false) :
    (P2 lang scr l = notTold ∧ LS st [] out l = noL) ∨ ∃ reg vs, P2 lang scr l = (lang, scr, reg, vs, true) ∧ RegOk reg ∧ NV [] vs ∧ LS st [] out l = (addL out (optL reg ++ vs), true) := by
  cases l with
  | nil => exact .inr ⟨_, [], rfl, .inl rfl, trivial, by rw [optL_nil]; rfl⟩
  | cons p ps =>
    by_cases hr : regB p = true
    · rw [P2_cons, LS_cons, if_pos hr, if_neg (by rintro ⟨_, b⟩; rw [reg_scr hr] at b; cases b), if_pos ⟨hst, hr⟩]
      rcases P3_said lang scr (foldS true p) ps [] 2 (dash out (foldS true p)) (.inl (by omega)) with h | ⟨ws, h1, h2, h3⟩
      · exact .inl h
      · have h0 := regB_size hr
        refine .inr ⟨foldS true p, ws, h1, .inr ⟨by rw [regB_fold]; exact hr, fold_fold _ _ _⟩, h2, ?_⟩
        rw [h3, optL_some (by rw [foldS_size]; omega)]; rfl
    · have hr' := Bool.eq_false_iff.mpr hr
      rw [P2_cons, if_neg hr]
      rcases P3_said lang scr (⟨#[]⟩ : ByteArray) (p :: ps) [] st out (.inr fun q qs e => by
        injection e with e1 e2
        subst e1
        refine ⟨hr', fun hlt => ?_⟩
        rcases hs with hs | hs
        · omega
        · exact hs p ps rfl) with h | ⟨ws, h1, h2, h3⟩
      · exact .inl h
      · exact .inr ⟨_, ws, h1, .inl rfl, h2, by rw [h3, optL_nil]; rfl⟩
theorem P1_said (lang : ByteArray) (l : List ByteArray) (out : ByteArray) :
    (P1 lang l = notTold ∧ LS 0 [] out l = noL) ∨ ∃ scr reg vs, P1 lang l = (lang, scr, reg, vs, true) ∧ ScrOk scr ∧ RegOk reg ∧ NV [] vs ∧ LS 0 [] out l = (addL out (optL scr ++ (optL reg ++ vs)), true) := by
  cases l with
  | nil => exact .inr ⟨_, _, [], rfl, .inl rfl, .inl rfl, trivial, by rw [optL_nil]; rfl⟩
  | cons p ps =>
    by_cases hs : scrB p = true
    · rw [P1_cons, LS_cons, if_pos hs, if_pos ⟨by omega, hs⟩]
      rcases P2_said lang (scrS p) ps 1 (dash out (scrS p)) (by omega) (.inl rfl) with h | ⟨reg, vs, h1, h2, h3, h4⟩
      · exact .inl h
      · have h0 := scrB_size hs
        refine .inr ⟨scrS p, reg, vs, h1, .inr ⟨by rw [scrB_scr]; exact hs, scr_scr _⟩, h2, h3, ?_⟩
        rw [h4, optL_some (s := scrS p) (by rw [scr_size]; omega)]; rfl
    · rw [P1_cons, if_neg hs]
      rcases P2_said lang (⟨#[]⟩ : ByteArray) (p :: ps) 0 out (by omega) (.inr fun q qs e => by
        injection e with e1 e2
        subst e1
        exact Bool.eq_false_iff.mpr hs) with h | ⟨reg, vs, h1, h2, h3, h4⟩
      · exact .inl h
      · exact .inr ⟨_, reg, vs, h1, .inl rfl, h2, h3, by rw [h4, optL_nil]; rfl⟩
theorem partsL_opt (lang scr reg : ByteArray) (vs : List ByteArray) : partsL lang scr reg vs = lang :: (optL scr ++ (optL reg ++ vs)) := by
  unfold partsL optL
  simp [List.append_assoc]
theorem textL_cons (p : ByteArray) : ∀ (ws : List ByteArray), textL (p :: ws) = addL p ws := by
  have key : ∀ (ws : List ByteArray) (o : ByteArray), (addL o ws).data.toList = o.data.toList ++ (ws.map (fun w => (45 : UInt8) :: w.data.toList)).flatten := by
    intro ws
    induction ws with
    | nil => intro o; simp [addL]
    | cons w r ih =>
      intro o
      have e : addL o (w :: r) = addL (dash o w) r := rfl
      rw [e, ih]
      unfold dash
      rw [ByteArray.data_append, Array.toList_append, ByteArray.data_append, Array.toList_append]
      simp [List.append_assoc]
  have key2 : ∀ (ws : List (List UInt8)) (o : List UInt8), Lib.join (o :: ws) [45] = o ++ (ws.map (fun w => (45 : UInt8) :: w)).flatten := by
    intro ws
    induction ws with
    | nil => intro o; rw [Lib.join_one]; simp
    | cons w r ih =>
      intro o
      have e : Lib.join (o :: w :: r) [45] = o ++ 45 :: Lib.join (w :: r) [45] := by
        unfold Lib.join
        simp [List.intercalate, List.intersperse]
      rw [e, ih]; simp
  intro ws
  apply ba_ext
  rw [key]
  unfold textL
  rw [mkB_data, List.map_cons, key2, List.map_map]
  rfl
/-- Parse, and the law's own reading of the same pieces. -/
theorem P0_said (l : List ByteArray) (hl : l ≠ []) : (P0 l = notTold ∧ LP l = noL) ∨ ∃ lang scr reg vs, P0 l = (lang, scr, reg, vs, true) ∧ Norm lang scr reg vs ∧ LP l = (textL (partsL lang scr reg vs), true) := by
  cases l with
  | nil => exact absurd rfl hl
  | cons p ps =>
    have eL : LP (p :: ps) = if badB p = true then ((⟨#[]⟩ : ByteArray), false) else LS 0 [] (foldS false p) ps := rfl
    rw [P0_cons, eL]
    by_cases hb : badB p = true
    · rw [if_pos hb, if_pos hb]; exact .inl ⟨rfl, rfl⟩
    · rw [if_neg hb, if_neg hb]
      rcases P1_said (foldS false p) ps (foldS false p) with h | ⟨scr, reg, vs, h1, h2, h3, h4, h5⟩
      · exact .inl h
      · refine .inr ⟨foldS false p, scr, reg, vs, h1, ⟨⟨by rw [badB_fold]; exact Bool.eq_false_iff.mpr hb, fold_fold _ _ _⟩, h2, h3, h4⟩, ?_⟩
        rw [h5, partsL_opt, textL_cons]
/-! Told again. -/
theorem P3_again (lang scr reg : ByteArray) : ∀ (vs acc : List ByteArray), NV acc vs → P3 lang scr reg vs acc = (lang, scr, reg, acc ++ vs, true)
  | [], acc, _ => by rw [List.append_nil]; rfl
  | v :: r, acc, h => by
    obtain ⟨h1, h2, h3, h4⟩ := h
    rw [P3_cons, if_pos h1, h2, if_neg (by rw [h3]; simp), P3_again lang scr reg r _ h4, List.append_assoc]; rfl
theorem P2_again (lang scr reg : ByteArray) (vs : List ByteArray) (hr : RegOk reg) (hv : NV [] vs) : P2 lang scr (optL reg ++ vs) = (lang, scr, reg, vs, true) := by
  rcases hr with rfl | ⟨h1, h2⟩
  · rw [optL_nil]
    cases vs with
    | nil => rfl
    | cons v r =>
      show P2 lang scr (v :: r) = _
      rw [P2_cons, if_neg (by rw [var_reg hv.1]; simp), P3_again _ _ _ _ _ hv]; rfl
  · have h0 := regB_size h1
    rw [optL_some (by omega)]
    show P2 lang scr (reg :: vs) = _
    rw [P2_cons, if_pos h1, h2, P3_again _ _ _ _ _ hv]; rfl
theorem head_scr (reg : ByteArray) (vs : List ByteArray) (hr : RegOk reg) (hv : NV [] vs) (q : ByteArray) (qs : List ByteArray) (e : optL reg ++ vs = q :: qs) : scrB q = false := by
  rcases hr with rfl | ⟨h1, h2⟩
  · rw [optL_nil] at e
    cases vs with
    | nil => cases e
    | cons v r =>
      injection e with e1 e2
      subst e1
      exact var_scr hv.1
  · have h0 := regB_size h1
    rw [optL_some (by omega)] at e
    injection e with e1 e2
    subst e1
    exact reg_scr h1
theorem P1_again (lang scr reg : ByteArray) (vs : List ByteArray) (hs : ScrOk scr) (hr : RegOk reg) (hv : NV [] vs) : P1 lang (optL scr ++ (optL reg ++ vs)) = (lang, scr, reg, vs, true) := by
  rcases hs with rfl | ⟨h1, h2⟩
  · rw [optL_nil, List.nil_append]
    have h2 := P2_again lang (⟨#[]⟩ : ByteArray) reg vs hr hv
    have h3 := head_scr reg vs hr hv
    generalize optL reg ++ vs = m at h2 h3
    cases m with
    | nil => exact h2
    | cons q qs => rw [P1_cons, if_neg (by rw [h3 q qs rfl]; simp)]; exact h2
  · have h0 := scrB_size h1
    rw [optL_some (by omega)]
    show P1 lang (scr :: (optL reg ++ vs)) = _
    rw [P1_cons, if_pos h1, h2, P2_again _ _ _ _ hr hv]
theorem P0_again (lang scr reg : ByteArray) (vs : List ByteArray) (h : Norm lang scr reg vs) : P0 (partsL lang scr reg vs) = (lang, scr, reg, vs, true) := by
  obtain ⟨⟨h1, h2⟩, h3, h4, h5⟩ := h
  rw [partsL_opt, P0_cons, if_neg (by rw [h1]; simp), h2, P1_again _ _ _ _ h3 h4 h5]
end Go.Proofs.YtpedajhcfkohlaaDoor.Pure
