import Derived.Test.YtpedajhcfkohlaaDoorNegB
import Derived.Test.YtpedajhcfkohlaaDoorHandX
/- The chain of tags, as texts, is the law's own chain of texts. -/
namespace Go.Proofs.YtpedajhcfkohlaaDoor.Pure
open Go.RowKit Go.Proofs.YtpedajhcfkohlaaDoor.PNeg Go.Proofs.YtpedajhcfkohlaaDoorHand Go.Proofs.YtpedajhcfkohlaaDoorW.PrintWords Go.Proofs.YtpedajhcfkohlaaDoorW.PrintLast Go.Proofs.YtpedajhcfkohlaaDoorW.PrintMore
set_option linter.unusedSimpArgs false
set_option linter.unusedVariables false
/-- Parts without a hyphen, joined. -/
def J (P : List (List UInt8)) : List UInt8 := Lib.join P [45]
theorem J_one (p : List UInt8) : J [p] = p := Lib.join_one p [45]
theorem J_tail (p : List UInt8) (r : List (List UInt8)) : J (p :: r) = p ++ Lib.joinTail [45] r := Lib.join_cons p r [45]
theorem tail_app (a b : List (List UInt8)) : Lib.joinTail [45] (a ++ b) = Lib.joinTail [45] a ++ Lib.joinTail [45] b := by
  unfold Lib.joinTail; rw [List.map_append, List.flatten_append]
theorem tail_cons (y : List UInt8) (b : List (List UInt8)) : Lib.joinTail [45] (y :: b) = 45 :: J (y :: b) := by
  rw [J_tail]; unfold Lib.joinTail; rw [List.map_cons, List.flatten_cons]; rfl
theorem J_app (Q R : List (List UInt8)) (hQ : Q ≠ []) (hR : R ≠ []) : J (Q ++ R) = J Q ++ 45 :: J R := by
  cases Q with
  | nil => exact absurd rfl hQ
  | cons q Q =>
    cases R with
    | nil => exact absurd rfl hR
    | cons r R => rw [List.cons_append, J_tail, tail_app, tail_cons, J_tail q Q, List.append_assoc]
theorem cuts_J (P : List (List UInt8)) (h : P ≠ []) (hn : ∀ p ∈ P, noH p) : cuts (J P) = P := cuts_join P h hn
theorem beg_J (P Q : List (List UInt8)) (hP : P ≠ []) (hQ : Q ≠ []) (nP : ∀ p ∈ P, noH p) (nQ : ∀ p ∈ Q, noH p) : (∃ R, J P = J Q ++ R ∧ (R = [] ∨ ∃ S, R = 45 :: S)) ↔ Q <+: P := by
  constructor
  · rintro ⟨R, e, rfl | ⟨S, rfl⟩⟩
    · rw [List.append_nil] at e
      rw [← cuts_J P hP nP, e, cuts_J Q hQ nQ]
      exact List.prefix_refl _
    · have k := congrArg cuts e
      rw [cuts_two, cuts_J P hP nP, cuts_J Q hQ nQ] at k
      exact ⟨_, k.symm⟩
  · rintro ⟨R, rfl⟩
    cases R with
    | nil => exact ⟨[], by simp, .inl rfl⟩
    | cons r R => exact ⟨45 :: J (r :: R), J_app Q (r :: R) hQ (by simp), .inr ⟨_, rfl⟩⟩
theorem bt_list (S : List UInt8) (n : Nat) (h : n < S.length) : bt (mkB S) (n : Int) = (S[n].toNat : Int) := by
  have hs : n < (mkB S).size := by rw [mkB_size]; exact h
  rw [← bt_at (mkB S) (n : Int) hs]
  rfl
theorem u45 (b : UInt8) : (((b.toNat : Int)) == 45) = (b == 45) := by
  rw [Bool.eq_iff_iff, beq_iff_eq, beq_iff_eq]
  constructor
  · intro h
    exact UInt8.toNat_inj.mp (by show b.toNat = 45; omega)
  · intro h; subst h; rfl
theorem begP_list (S T : List UInt8) : begP (mkB S) (mkB T) = true ↔ ∃ R, S = T ++ R ∧ (R = [] ∨ ∃ U, R = 45 :: U) := by
  unfold begP
  rw [Bool.and_eq_true, Bool.and_eq_true, decide_eq_true_eq, Bool.or_eq_true, beq_iff_eq, beq_iff_eq, mkB_size, mkB_size, tl, tl, extract_list, mkB_data, mkB_data, List.drop_zero, Nat.sub_zero]
  constructor
  · rintro ⟨h1, h2, h3⟩
    refine ⟨S.drop T.length, by rw [← h2]; simp [Nat.min_eq_left h1], ?_⟩
    by_cases hl : S.length = T.length
    · exact .inl (List.drop_of_length_le (by omega))
    · have hlt : T.length < S.length := by omega
      right
      rw [List.drop_eq_getElem_cons hlt]
      rcases h3 with h3 | h3
      · exact absurd h3 hl
      · rw [bt_list S _ hlt, u45, beq_iff_eq] at h3
        exact ⟨_, by rw [h3]⟩
  · rintro ⟨R, rfl, h⟩
    refine ⟨by simp, by simp, ?_⟩
    rcases h with rfl | ⟨U, rfl⟩
    · left; simp
    · right
      rw [bt_list _ _ (by simp), u45]
      simp
/-- The texts' parts, as lists of bytes. -/
def PL (t : S25) : List (List UInt8) := (partsT t).map (·.data.toList)
theorem txt_J (t : S25) : txt t = mkB (J (PL t)) := rfl
def NoHT (t : S25) : Prop := (∀ p ∈ PL t, noH p) ∧ t.f0.data.toList ≠ []
theorem PL_ne (t : S25) : PL t ≠ [] := by
  unfold PL
  intro h
  exact partsL_ne _ _ _ _ (List.map_eq_nil_iff.1 h)
theorem data_inj : ∀ (a b : List ByteArray), a.map (·.data.toList) <+: b.map (·.data.toList) → a <+: b := by
  intro a
  induction a with
  | nil => intro b _; exact List.nil_prefix
  | cons x a ih =>
    intro b h
    cases b with
    | nil => simp at h
    | cons y b =>
      rw [List.map_cons, List.map_cons, List.cons_prefix_cons] at h
      rw [List.cons_prefix_cons]
      exact ⟨ba_ext h.1, ih b h.2⟩
theorem beg_txt (x w : S25) (hx : NoHT x) (hw : NoHT w) : begP (txt x) (txt w) = begB (partsT x) (partsT w) := by
  rw [Bool.eq_iff_iff, txt_J, txt_J, begP_list, beg_J _ _ (PL_ne x) (PL_ne w) hx.1 hw.1, beg_iff]
  constructor
  · exact data_inj _ _
  · rintro ⟨r, e⟩
    exact ⟨r.map (·.data.toList), by unfold PL; rw [← List.map_append, e]⟩
/-- What is cut off a text at its hyphens, the longest one first. -/
def cutsN (L : List UInt8) : Nat → List (List UInt8)
  | 0 => []
  | n + 1 => (if L[n + 1]? = some 45 then [L.take (n + 1)] else []) ++ cutsN L n
theorem cutsN_succ (L : List UInt8) (n : Nat) : cutsN L (n + 1) = (if L[n + 1]? = some 45 then [L.take (n + 1)] else []) ++ cutsN L n := rfl
theorem cutsL_N (S : List UInt8) : ∀ n, n < S.length → cutsL (mkB S) n = (cutsN S n).map mkB
  | 0, _ => rfl
  | n + 1, h => by
    have ih := cutsL_N S n (by omega)
    unfold cutsL cutsN
    rw [ih, List.map_append, bt_list S (n + 1) h, u45]
    congr 1
    rw [List.getElem?_eq_getElem h]
    by_cases e : S[n + 1] = 45
    · rw [if_pos (beq_iff_eq.mpr e), if_pos (by rw [e]), List.map_singleton]
      have : (mkB S).extract 0 (n + 1) = mkB (S.take (n + 1)) := ba_ext (by rw [extract_list]; rfl)
      rw [this]
    · rw [if_neg (by simpa using e), if_neg (by simpa using e)]
      rfl
theorem cutsN_head (A B : List UInt8) : ∀ n, n < A.length → cutsN (A ++ B) n = cutsN A n
  | 0, _ => rfl
  | n + 1, h => by
    unfold cutsN
    rw [cutsN_head A B n (by omega), List.getElem?_append_left h, List.take_append_of_le_length (by omega)]
theorem cutsN_skip (A p : List UInt8) (hp : noH p) : ∀ k, k ≤ p.length → cutsN (A ++ 45 :: p) (A.length + k) = cutsN (A ++ 45 :: p) A.length
  | 0, _ => rfl
  | k + 1, h => by
    have ih := cutsN_skip A p hp k (by omega)
    rw [← Nat.add_assoc]
    rw [← ih]
    have e : (A ++ 45 :: p)[A.length + k + 1]? = p[k]? := by
      rw [List.getElem?_append_right (by omega), show A.length + k + 1 - A.length = k + 1 by omega, List.getElem?_cons_succ]
    show (if (A ++ 45 :: p)[A.length + k + 1]? = some 45 then [(A ++ 45 :: p).take (A.length + k + 1)] else []) ++ cutsN (A ++ 45 :: p) (A.length + k) = _
    rw [e, if_neg (fun h2 => ?_)]
    · rfl
    · obtain ⟨h3, h4⟩ := List.getElem?_eq_some_iff.1 h2
      exact hp _ (List.getElem_mem h3) h4
theorem cutsN_step (A p : List UInt8) (hA : A ≠ []) (hp : noH p) : cutsN (A ++ 45 :: p) ((A ++ 45 :: p).length - 1) = A :: cutsN A (A.length - 1) := by
  have e : (A ++ 45 :: p).length - 1 = A.length + p.length := by simp
  have hl : 0 < A.length := List.length_pos_iff.2 hA
  obtain ⟨m, hm⟩ : ∃ m, A.length = m + 1 := ⟨A.length - 1, by omega⟩
  rw [e, cutsN_skip A p hp p.length (Nat.le_refl _)]
  rw [show A.length - 1 = m by omega]
  conv => lhs; arg 2; rw [hm]
  rw [cutsN_succ, cutsN_head A (45 :: p) m (by omega), ← hm, if_pos (by rw [List.getElem?_append_right (Nat.le_refl _), Nat.sub_self]; rfl), List.take_left']
  · rfl
  · rfl
theorem cutsN_none (p : List UInt8) (hp : noH p) : ∀ n, cutsN p n = []
  | 0 => rfl
  | n + 1 => by
    unfold cutsN
    rw [cutsN_none p hp n, if_neg (fun h2 => ?_)]
    · rfl
    · obtain ⟨h3, h4⟩ := List.getElem?_eq_some_iff.1 h2
      exact hp _ (List.getElem_mem h3) h4
theorem cuts_one' (t : S25) (h : NoHT t) (hl : (PL t).length = 1) : cutsL (txt t) ((txt t).size - 1) = [] := by
  obtain ⟨p, hp⟩ := List.length_eq_one_iff.1 hl
  have hn := h.1 p (by rw [hp]; simp)
  have hne : p ≠ [] := by
    have := h.2
    have e : PL t = t.f0.data.toList :: (PL t).tail := rfl
    rw [hp] at e
    injection e with e _
    rw [e]; exact this
  rw [txt_J, hp, J_one, mkB_size, cutsL_N p _ (by have := List.length_pos_iff.2 hne; omega), cutsN_none p hn]
  rfl
theorem J_ne (P : List (List UInt8)) (p : List UInt8) (r : List (List UInt8)) (h : P = p :: r) (hp : p ≠ []) : J P ≠ [] := by
  rw [h, J_tail]; simp [hp]
theorem less_f0 {y : S25} (h : (lessS y).2 = true) : (lessS y).1.f0 = y.f0 := by
  unfold lessS lessT at h ⊢
  by_cases hv : 0 < y.f3.length
  · rw [if_pos hv]
  · rw [if_neg hv] at h ⊢
    by_cases h1 : y.f2.toList = ([] : List UInt8)
    · rw [if_pos h1] at h ⊢
      by_cases h2 : y.f1.toList = ([] : List UInt8)
      · rw [if_pos h2] at h; cases h
      · rw [if_neg h2]
    · rw [if_neg h1]
theorem less_one {y : S25} (h : (lessS y).2 = false) : (PL y).length = 1 := by
  unfold PL partsT
  rw [List.length_map, partsL_opt]
  unfold lessS lessT at h
  by_cases hv : 0 < y.f3.length
  · rw [if_pos hv] at h; cases h
  · rw [if_neg hv] at h
    by_cases h1 : y.f2.toList = ([] : List UInt8)
    · rw [if_pos h1] at h
      by_cases h2 : y.f1.toList = ([] : List UInt8)
      · have hv0 : y.f3 = [] := List.eq_nil_of_length_eq_zero (by omega)
        unfold optL
        rw [if_pos h2, if_pos h1, hv0]
        rfl
      · rw [if_neg h2] at h; cases h
    · rw [if_neg h1] at h; cases h
theorem PL_less {y : S25} (h : (lessS y).2 = true) : PL (lessS y).1 = (PL y).dropLast := by
  unfold PL
  rw [less_parts h, List.map_dropLast]
theorem noh_less {y : S25} (hy : NoHT y) (h : (lessS y).2 = true) : NoHT (lessS y).1 := by
  refine ⟨fun p hp => ?_, by rw [less_f0 h]; exact hy.2⟩
  rw [PL_less h] at hp
  exact hy.1 p (List.dropLast_subset _ hp)
theorem PL_head (t : S25) : PL t = t.f0.data.toList :: (PL t).tail := rfl
theorem cuts_less (t : S25) (h : NoHT t) : cutsL (txt t) ((txt t).size - 1) = if (lessS t).2 = true then txt (lessS t).1 :: cutsL (txt (lessS t).1) ((txt (lessS t).1).size - 1) else [] := by
  by_cases hb : (lessS t).2 = true
  · rw [if_pos hb]
    have hd := PL_less hb
    have hne : (PL t).dropLast ≠ [] := by rw [← hd]; exact PL_ne _
    have hPne := PL_ne t
    have e := List.dropLast_concat_getLast hPne
    obtain ⟨p, hp⟩ : ∃ p, (PL t).getLast hPne = p := ⟨_, rfl⟩
    rw [hp] at e
    have hpn : noH p := h.1 p (by rw [← hp]; exact List.getLast_mem hPne)
    have eJ : J (PL t) = J (PL (lessS t).1) ++ 45 :: p := by
      rw [hd]
      exact (congrArg J e.symm).trans (by rw [J_app _ _ hne (by simp), J_one])
    have hA : J (PL (lessS t).1) ≠ [] := J_ne _ _ _ (PL_head _) (noh_less h hb).2
    have hAl := List.length_pos_iff.2 hA
    rw [txt_J t, txt_J (lessS t).1, mkB_size, mkB_size, cutsL_N _ _ (by rw [eJ]; simp), eJ, cutsN_step _ _ hA hpn, List.map_cons, cutsL_N _ _ (by omega)]
  · rw [if_neg hb]
    exact cuts_one' t h (less_one (Bool.eq_false_iff.mpr hb))
theorem has_map (l : List S25) (t : S25) : inL (l.map txt) (txt t) = hasT l t := by
  unfold inL hasT
  rw [List.any_map]
  rfl
theorem add_map (o : List S25) (t : S25) : (addT o t).map txt = if inL (o.map txt) (txt t) = true then o.map txt else o.map txt ++ [txt t] := by
  rw [has_map]
  unfold addT
  split
  · rfl
  · rw [List.map_append]; rfl
theorem keep_map (th o : List S25) (t : S25) : keepL (th.map txt) (o.map txt) (txt t) = (if hasT th t = true then addT o t else o).map txt := by
  unfold keepL
  rw [has_map]
  by_cases h : hasT th t = true
  · rw [if_pos h, h, add_map]
    cases inL (o.map txt) (txt t) <;> rfl
  · rw [if_neg h, Bool.eq_false_iff.mpr h]
    rfl
theorem fits_map (th : List S25) (x : S25) (hx : NoHT x) : ∀ (m : List S25) (o : List S25), (∀ t ∈ m, t ∈ th ∧ NoHT t) → ((m.map txt).filter (fun t => begP t (txt x))).foldl (keepL (th.map txt)) (o.map txt) = (m.foldl (fitS x) o).map txt
  | [], _, _ => rfl
  | t :: m, o, h => by
    have ht := h t (by simp)
    rw [List.map_cons, List.filter_cons, List.foldl_cons, beg_txt t x ht.2 hx]
    have e : (if begB (partsT t) (partsT x) = true then addT o t else o) = fitS x o t := rfl
    by_cases hb : begB (partsT t) (partsT x) = true
    · rw [if_pos hb, List.foldl_cons, keep_map, if_pos (has_self ht.1), fits_map th x hx m _ (fun y hy => h y (by simp [hy])), ← e, if_pos hb]
    · rw [if_neg hb, fits_map th x hx m _ (fun y hy => h y (by simp [hy])), ← e, if_neg hb]
theorem down_map (th : List S25) : ∀ (n : Nat) (o : List S25) (y : S25) (b : Bool), (b = true → NoHT y ∧ mT y < n) → (if b = true then txt y :: cutsL (txt y) ((txt y).size - 1) else []).foldl (keepL (th.map txt)) (o.map txt) = (downT n th o y b).map txt
  | 0, o, y, b, h => by
    cases b with
    | false => rfl
    | true => have := (h rfl).2; omega
  | n + 1, o, y, false, h => by rw [downT_false]; rfl
  | n + 1, o, y, true, h => by
    have hy := h rfl
    have e : downT (n + 1) th o y true = downT n th (if hasT th y = true then addT o y else o) (lessS y).1 (lessS y).2 := by
      show (if true = true then _ else o) = _
      rw [if_pos rfl]
    rw [if_pos rfl, List.foldl_cons, keep_map, cuts_less y hy.1, e]
    exact down_map th n _ _ _ (fun hb => ⟨noh_less hy.1 hb, by have := lessS_m hb; have := hy.2; omega⟩)
theorem wish_map (th : List S25) (hth : ∀ t ∈ th, NoHT t) (o : List S25) (x : S25) (hx : NoHT x) : (wishL (th.map txt) (txt x)).foldl (keepL (th.map txt)) (o.map txt) = (wishT th o x).map txt := by
  unfold wishL wishT fitT
  rw [List.foldl_cons, keep_map, List.foldl_append, fits_map th x hx th _ (fun t ht => ⟨ht, hth t ht⟩), cuts_less x hx]
  exact down_map th _ _ _ _ (fun hb => ⟨noh_less hx hb, by omega⟩)
theorem wishes_map (th : List S25) (hth : ∀ t ∈ th, NoHT t) : ∀ (ws o : List S25), (∀ x ∈ ws, NoHT x) → ((ws.map txt).flatMap (wishL (th.map txt))).foldl (keepL (th.map txt)) (o.map txt) = (ws.foldl (wishT th) o).map txt
  | [], _, _ => rfl
  | x :: ws, o, h => by
    rw [List.map_cons, List.flatMap_cons, List.foldl_append, wish_map th hth o x (h x (by simp)), List.foldl_cons]
    exact wishes_map th hth ws _ (fun y hy => h y (by simp [hy]))
/-- The law's chain of the texts is the chain's texts. -/
theorem chain_map (ws th : List S25) (z : S25) (hws : ∀ x ∈ ws, NoHT x) (hth : ∀ t ∈ th, NoHT t) : chainL (ws.map txt) (th.map txt) (txt z) = (chainT ws th z).map txt := by
  unfold chainL chainT
  have e := wishes_map th hth ws [] hws
  rw [List.map_nil] at e
  rw [List.foldl_append, e, List.foldl_cons, List.foldl_nil, keep_map]
  obtain ⟨o, ho⟩ : ∃ o, ws.foldl (wishT th) [] = o := ⟨_, rfl⟩
  rw [ho]
  unfold lastL
  by_cases h : hasT th z = true
  · rw [if_pos h, has_map, if_pos]
    unfold addT
    split
    · assumption
    · exact has_self (by simp)
  · rw [if_neg h, add_map]
theorem noh_said {s : ByteArray} {t : S25} (hs : s.size ≤ 100) (h : tagOf s = some t) : NoHT t ∧ formOf s = some (txt t) := by
  obtain ⟨h1, h2⟩ := tagOf_some h
  have hn : pcs s ≠ [] := List.length_pos_iff.1 (pcs_length s).1
  have hg := P0_good 100 (pcs s) (fun p hp => ⟨(pcs_good s p hp).1, Nat.le_trans (pcs_good s p hp).2 hs⟩)
  rcases P0_said (pcs s) hn with ⟨k, _⟩ | ⟨lang, scr, reg, vs, k, kn, kl⟩
  · rw [k] at h1; cases h1
  · rw [k] at h2 hg
    subst h2
    refine ⟨⟨fun p hp => ?_, ?_⟩, ?_⟩
    · obtain ⟨q, hq, rfl⟩ := List.mem_map.1 hp
      exact (partsL_good 100 lang scr reg vs hg.1 q hq).1
    · have hb := kn.1.1
      show lang.data.toList ≠ []
      intro e
      have : lang.size = 0 := by rw [← tl_len, e]; rfl
      unfold badB at hb
      rw [this] at hb
      simp at hb
    · unfold formOf
      rw [kl, if_pos rfl]
      rfl
theorem form_none {s : ByteArray} (h : tagOf s = none) : formOf s = none := by
  have hn : pcs s ≠ [] := List.length_pos_iff.1 (pcs_length s).1
  rcases P0_said (pcs s) hn with ⟨_, k⟩ | ⟨lang, scr, reg, vs, k, kn, kl⟩
  · unfold formOf
    rw [k]; rfl
  · unfold tagOf at h
    rw [k, if_pos rfl] at h
    cases h
theorem forms_tags : ∀ (l : List ByteArray), (∀ s ∈ l, s.size ≤ 100) → formsL l = (tagsL l).map txt ∧ ∀ t ∈ tagsL l, NoHT t
  | [], _ => ⟨rfl, fun t ht => by cases ht⟩
  | s :: l, h => by
    obtain ⟨i1, i2⟩ := forms_tags l (fun x hx => h x (by simp [hx]))
    unfold formsL tagsL at i1 ⊢
    unfold tagsL at i2
    rw [List.filterMap_cons, List.filterMap_cons]
    cases hs : tagOf s with
    | none => rw [form_none hs]; exact ⟨i1, i2⟩
    | some t =>
      obtain ⟨k1, k2⟩ := noh_said (h s (by simp)) hs
      rw [k2]
      refine ⟨by show txt t :: _ = txt t :: _; rw [i1], fun x hx => ?_⟩
      rcases List.mem_cons.1 hx with hx | hx
      · rw [hx]; exact k1
      · exact i2 x hx
end Go.Proofs.YtpedajhcfkohlaaDoor.Pure
