import Derived.Test.YtpedajhcfkohlaaDoorTagD
import Derived.Test.YtpedajhcfkohlaaDoorPCntx1
/- The law's own small functions (big, small, count) in plain words, for every text of any size at hand. -/
namespace Go.Proofs.YtpedajhcfkohlaaDoorHand
open Go.RowKit Go.Proofs.YtpedajhcfkohlaaDoor.PCnt Go.Proofs.YtpedajhcfkohlaaDoor.Pure Go.Proofs.YtpedajhcfkohlaaDoorW.PrintWords Go.Proofs.YtpedajhcfkohlaaDoorW.PrintLast Go.Proofs.YtpedajhcfkohlaaDoorW.PrintMore
set_option linter.unusedVariables false
set_option linter.unusedSimpArgs false
theorem str_one (x : Int) (c : UInt8) (h : x = (c.toNat : Int)) : strOfNums [x] = mkB [c] := by
  apply ba_ext
  rw [strOfNums_data, mkB_data]
  subst h
  rw [List.map_singleton, Int.toNat_natCast]
  congr 1
  apply UInt8.toNat_inj.1
  rw [UInt8.toNat_ofNat']
  exact Nat.mod_eq_of_lt c.toNat_lt
theorem bt_get (s : ByteArray) (i : Nat) (h : i < s.data.toList.length) : bt s (i : Int) = ((s.data.toList[i]).toNat : Int) := by
  have hs : i < s.size := by rw [← tl_len]; exact h
  unfold bt
  rw [dif_pos (by simpa using hs)]
  congr 2
theorem mk_app (o : ByteArray) (b c : List UInt8) : o ++ mkB b ++ mkB c = o ++ mkB (b ++ c) := by
  apply ba_ext
  simp only [ByteArray.data_append, Array.toList_append]
  rw [List.append_assoc]
  rfl
theorem mk_nil (o : ByteArray) : o ++ mkB [] = o := by
  apply ba_ext
  simp only [ByteArray.data_append, Array.toList_append]
  rw [mkB_data, List.append_nil]
theorem nil_app (o : ByteArray) : (⟨#[]⟩ : ByteArray) ++ o = o := by
  apply ba_ext
  rw [ByteArray.data_append, Array.toList_append]
  rfl
theorem big_run (s : ByteArray) (hs : s.size ≤ 1000000) (n : Nat) : ∀ (k i : Nat) (out : ByteArray), n < k → i + n = s.size → out.size ≤ i →
    polyglotlaw03_big.l0 k s out (i : Int) = some (out ++ mkB ((s.data.toList.drop i).map (fc true))) := by
  induction n with
  | zero =>
    intro k i out hk hi ho
    obtain ⟨k, rfl⟩ : ∃ j, k = j + 1 := ⟨k - 1, by omega⟩
    rw [polyglotlaw03_big.l0, if_neg (by omega), List.drop_of_length_le (by rw [tl_len]; omega), List.map_nil, mk_nil]
  | succ n ih =>
    intro k i out hk hi ho
    obtain ⟨k, rfl⟩ : ∃ j, k = j + 1 := ⟨k - 1, by omega⟩
    have hl : i < s.data.toList.length := by rw [tl_len]; omega
    have e := bt_get s i hl
    have hc : (s.data.toList[i]).toNat < 256 := (s.data.toList[i]).toNat_lt
    have step : ∀ x : Int, x = ((fc true (s.data.toList[i])).toNat : Int) → ((some (([x] : List Int) : List Int)).bind fun y => (if out.size + (strOfNums y).size ≤ 9223372036854775807 then ((some (out ++ (strOfNums y) : ByteArray)).bind fun z => (polyglotlaw03_big.l0 k s z (wrap64 ((i : Int) + 1)))) else (none))) = some (out ++ mkB ((s.data.toList.drop i).map (fc true))) := by
      intro x hx
      rw [Option.bind_some, strOfNums_size, if_pos (by simp; omega), Option.bind_some, wrap_id (by omega) (by omega), str_one x _ hx]
      have := ih k (i + 1) (out ++ mkB [fc true (s.data.toList[i])]) (by omega) (by omega) (by rw [ByteArray.size_append, mkB_size]; simp; omega)
      have e2 : out ++ mkB (fc true (s.data.toList[i]) :: (s.data.toList.drop (i + 1)).map (fc true)) = out ++ mkB [fc true (s.data.toList[i])] ++ mkB ((s.data.toList.drop (i + 1)).map (fc true)) := (mk_app out [_] _).symm
      rw [List.drop_eq_getElem_cons hl, List.map_cons, e2, ← this]
      rfl
    have hf := fc_nat true (s.data.toList[i])
    rw [polyglotlaw03_big.l0, if_pos (by omega), if_pos (by omega), e]
    by_cases a : ((s.data.toList[i]).toNat : Int) ≥ 97
    · rw [if_pos a]
      by_cases b : ((s.data.toList[i]).toNat : Int) ≤ 122
      · rw [if_pos b]
        refine step _ ?_
        rw [hf]; unfold fcN; rw [if_pos rfl, if_pos (by omega)]; omega
      · rw [if_neg b]
        refine step _ ?_
        rw [hf]; unfold fcN; rw [if_pos rfl, if_neg (by omega)]
    · rw [if_neg a]
      refine step _ ?_
      rw [hf]; unfold fcN; rw [if_pos rfl, if_neg (by omega)]
theorem small_run (s : ByteArray) (hs : s.size ≤ 1000000) (n : Nat) : ∀ (k i : Nat) (out : ByteArray), n < k → i + n = s.size → out.size ≤ i →
    polyglotlaw03_small.l0 k s out (i : Int) = some (out ++ mkB ((s.data.toList.drop i).map (fc false))) := by
  induction n with
  | zero =>
    intro k i out hk hi ho
    obtain ⟨k, rfl⟩ : ∃ j, k = j + 1 := ⟨k - 1, by omega⟩
    rw [polyglotlaw03_small.l0, if_neg (by omega), List.drop_of_length_le (by rw [tl_len]; omega), List.map_nil, mk_nil]
  | succ n ih =>
    intro k i out hk hi ho
    obtain ⟨k, rfl⟩ : ∃ j, k = j + 1 := ⟨k - 1, by omega⟩
    have hl : i < s.data.toList.length := by rw [tl_len]; omega
    have e := bt_get s i hl
    have hc : (s.data.toList[i]).toNat < 256 := (s.data.toList[i]).toNat_lt
    have step : ∀ x : Int, x = ((fc false (s.data.toList[i])).toNat : Int) → ((some (([x] : List Int) : List Int)).bind fun y => (if out.size + (strOfNums y).size ≤ 9223372036854775807 then ((some (out ++ (strOfNums y) : ByteArray)).bind fun z => (polyglotlaw03_small.l0 k s z (wrap64 ((i : Int) + 1)))) else (none))) = some (out ++ mkB ((s.data.toList.drop i).map (fc false))) := by
      intro x hx
      rw [Option.bind_some, strOfNums_size, if_pos (by simp; omega), Option.bind_some, wrap_id (by omega) (by omega), str_one x _ hx]
      have := ih k (i + 1) (out ++ mkB [fc false (s.data.toList[i])]) (by omega) (by omega) (by rw [ByteArray.size_append, mkB_size]; simp; omega)
      have e2 : out ++ mkB (fc false (s.data.toList[i]) :: (s.data.toList.drop (i + 1)).map (fc false)) = out ++ mkB [fc false (s.data.toList[i])] ++ mkB ((s.data.toList.drop (i + 1)).map (fc false)) := (mk_app out [_] _).symm
      rw [List.drop_eq_getElem_cons hl, List.map_cons, e2, ← this]
      rfl
    have hf := fc_nat false (s.data.toList[i])
    rw [polyglotlaw03_small.l0, if_pos (by omega), if_pos (by omega), e]
    by_cases a : ((s.data.toList[i]).toNat : Int) ≥ 65
    · rw [if_pos a]
      by_cases b : ((s.data.toList[i]).toNat : Int) ≤ 90
      · rw [if_pos b]
        refine step _ ?_
        rw [hf]; unfold fcN; rw [if_neg (by simp), if_pos (by omega)]; omega
      · rw [if_neg b]
        refine step _ ?_
        rw [hf]; unfold fcN; rw [if_neg (by simp), if_neg (by omega)]
    · rw [if_neg a]
      refine step _ ?_
      rw [hf]; unfold fcN; rw [if_neg (by simp), if_neg (by omega)]
theorem fold_mk (a : Bool) (s : ByteArray) : (⟨#[]⟩ : ByteArray) ++ mkB ((s.data.toList.drop 0).map (fc a)) = foldS a s := by
  rw [nil_app, List.drop_zero]
  rfl
theorem big_calls (s : ByteArray) (hs : s.size ≤ 1000000) (w : World) : Calls Tryd.prog 21 #[.string s] w fun e w' => e = .returned (.string (foldS true s)) ∧ Below w.heap.size w w' :=
  polyglotlaw03_big.calls (s.size + 1) s _ w (by
    have := big_run s hs s.size (s.size + 1) 0 ⟨#[]⟩ (by omega) (by omega) (Nat.le_refl _)
    rw [fold_mk] at this
    exact this)
theorem small_calls (s : ByteArray) (hs : s.size ≤ 1000000) (w : World) : Calls Tryd.prog 22 #[.string s] w fun e w' => e = .returned (.string (foldS false s)) ∧ Below w.heap.size w w' :=
  polyglotlaw03_small.calls (s.size + 1) s _ w (by
    have := small_run s hs s.size (s.size + 1) 0 ⟨#[]⟩ (by omega) (by omega) (Nat.le_refl _)
    rw [fold_mk] at this
    exact this)
/-! How many letters and digits. -/
def letN (l : List UInt8) : Nat := l.countP (fun c => letB (c.toNat : Int))
def digN (l : List UInt8) : Nat := l.countP (fun c => digB (c.toNat : Int))
def cntL (s : ByteArray) : Int × Int := if s.data.toList.all (fun c => eitB (c.toNat : Int)) = true then ((letN s.data.toList : Int), (digN s.data.toList : Int)) else (-1, -1)
theorem eit_cases (c : Int) : (letB c = true ∧ digB c = false ∧ eitB c = true) ∨ (letB c = false ∧ digB c = true ∧ eitB c = true) ∨ (letB c = false ∧ digB c = false ∧ eitB c = false) := by
  unfold eitB
  cases h : letB c with
  | true => exact .inl ⟨rfl, let_dig h, by rw [let_dig h]; rfl⟩
  | false =>
    cases digB c with
    | true => exact .inr (.inl ⟨rfl, rfl, rfl⟩)
    | false => exact .inr (.inr ⟨rfl, rfl, rfl⟩)
theorem count_run (s : ByteArray) (hs : s.size ≤ 1000000) (n : Nat) : ∀ (k i a b : Nat), 2 * n + 1 < k → i + n = s.size → a + b ≤ i →
    polyglotlaw03_count.l0 k s (a : Int) (b : Int) (i : Int) = some (if (s.data.toList.drop i).all (fun c => eitB (c.toNat : Int)) = true then (((a + letN (s.data.toList.drop i) : Nat) : Int), ((b + digN (s.data.toList.drop i) : Nat) : Int)) else (-1, -1)) := by
  induction n with
  | zero =>
    intro k i a b hk hi hab
    obtain ⟨k, rfl⟩ : ∃ j, k = j + 1 := ⟨k - 1, by omega⟩
    rw [polyglotlaw03_count.l0, if_neg (by omega), List.drop_of_length_le (by rw [tl_len]; omega)]
    rfl
  | succ n ih =>
    intro k i a b hk hi hab
    obtain ⟨k, rfl⟩ : ∃ j, k = j + 1 + 1 := ⟨k - 2, by omega⟩
    have hl : i < s.data.toList.length := by rw [tl_len]; omega
    have e := bt_get s i hl
    rw [polyglotlaw03_count.l0, if_pos (by omega), if_pos (by omega), e]
    have hj : ∀ q : Bool, q = letB ((s.data.toList[i]).toNat : Int) → polyglotlaw03_count.j1 (k + 1) s (a : Int) (b : Int) (i : Int) ((s.data.toList[i]).toNat : Int) q = some (if (s.data.toList.drop i).all (fun c => eitB (c.toNat : Int)) = true then (((a + letN (s.data.toList.drop i) : Nat) : Int), ((b + digN (s.data.toList.drop i) : Nat) : Int)) else (-1, -1)) := by
      intro q hq
      rw [polyglotlaw03_count.j1, List.drop_eq_getElem_cons hl, List.all_cons]
      unfold letN digN
      rw [List.countP_cons, List.countP_cons]
      rcases eit_cases ((s.data.toList[i]).toNat : Int) with ⟨h1, h2, h3⟩ | ⟨h1, h2, h3⟩ | ⟨h1, h2, h3⟩
      · rw [hq, h1, if_pos rfl, wrap_id (by omega) (by omega), wrap_id (by omega) (by omega)]
        have := ih k (i + 1) (a + 1) b (by omega) (by omega) (by omega)
        rw [show ((a : Int) + 1) = ((a + 1 : Nat) : Int) by omega, show ((i : Int) + 1) = ((i + 1 : Nat) : Int) by omega, this, h2, h3, Bool.true_and]
        unfold letN digN
        simp only [if_true, Bool.false_eq_true, if_false]
        congr 1
        split
        · rw [Prod.mk.injEq]; exact ⟨by omega, by omega⟩
        · rfl
      · have hd : 48 ≤ ((s.data.toList[i]).toNat : Int) ∧ ((s.data.toList[i]).toNat : Int) ≤ 57 := by unfold digB at h2; exact of_decide_eq_true h2
        rw [hq, h1, if_neg (by simp), if_pos hd.1, if_pos hd.2, wrap_id (by omega) (by omega), wrap_id (by omega) (by omega)]
        have := ih k (i + 1) a (b + 1) (by omega) (by omega) (by omega)
        rw [show ((b : Int) + 1) = ((b + 1 : Nat) : Int) by omega, show ((i : Int) + 1) = ((i + 1 : Nat) : Int) by omega, this, h2, h3, Bool.true_and]
        unfold letN digN
        simp only [if_true, Bool.false_eq_true, if_false]
        congr 1
        split
        · rw [Prod.mk.injEq]; exact ⟨by omega, by omega⟩
        · rfl
      · rw [hq, h1, h3, Bool.false_and]
        simp only [Bool.false_eq_true, if_false]
        unfold digB at h2
        rw [decide_eq_false_iff_not] at h2
        by_cases c1 : ((s.data.toList[i]).toNat : Int) ≥ 48
        · rw [if_pos c1, if_neg (by omega)]
        · rw [if_neg c1]
    unfold letB at hj
    by_cases c1 : ((s.data.toList[i]).toNat : Int) ≥ 97
    · rw [if_pos c1]
      by_cases c2 : ((s.data.toList[i]).toNat : Int) ≤ 122
      · rw [if_pos c2]
        exact hj true (by rw [eq_comm, decide_eq_true_eq]; omega)
      · rw [if_neg c2, if_pos (by omega)]
        exact hj _ (by apply decide_eq_decide.2; omega)
    · rw [if_neg c1]
      by_cases c2 : ((s.data.toList[i]).toNat : Int) ≥ 65
      · rw [if_pos c2]
        exact hj _ (by apply decide_eq_decide.2; omega)
      · rw [if_neg c2]
        exact hj false (by rw [eq_comm, decide_eq_false_iff_not]; omega)
theorem count_f (s : ByteArray) (hs : s.size ≤ 1000000) : polyglotlaw03_count.f (2 * s.size + 2) s = some (cntL s) := by
  have := count_run s hs s.size (2 * s.size + 2) 0 0 0 (by omega) (by omega) (Nat.le_refl _)
  rw [List.drop_zero, Nat.zero_add, Nat.zero_add] at this
  exact this
theorem count_calls (s : ByteArray) (hs : s.size ≤ 1000000) (w : World) : Calls Tryd.prog 43 #[.string s] w fun e w' => e = .returned (.tuple #[.int .i64 (cntL s).1, .int .i64 (cntL s).2]) ∧ Drawn0 w w' :=
  polyglotlaw03_count.calls (2 * s.size + 2) s _ _ w (count_f s hs)
theorem let_dig_n : ∀ l : List UInt8, l.all (fun c => eitB (c.toNat : Int)) = true → letN l + digN l = l.length
  | [], _ => rfl
  | c :: r, h => by
    rw [List.all_cons, Bool.and_eq_true] at h
    have ih := let_dig_n r h.2
    unfold letN digN at ih ⊢
    rw [List.countP_cons, List.countP_cons, List.length_cons]
    rcases eit_cases (c.toNat : Int) with ⟨h1, h2, h3⟩ | ⟨h1, h2, h3⟩ | ⟨h1, h2, h3⟩
    · rw [h1, h2]; simp only [if_true, Bool.false_eq_true, if_false]; omega
    · rw [h1, h2]; simp only [if_true, Bool.false_eq_true, if_false]; omega
    · rw [h3] at h; cases h.1
theorem all_let : ∀ l : List UInt8, (l.all (fun c => letB (c.toNat : Int)) = true ↔ l.all (fun c => eitB (c.toNat : Int)) = true ∧ digN l = 0)
  | [] => by simp [digN]
  | c :: r => by
    have ih := all_let r
    unfold digN at ih ⊢
    rw [List.all_cons, List.all_cons, List.countP_cons, Bool.and_eq_true, Bool.and_eq_true]
    rcases eit_cases (c.toNat : Int) with ⟨h1, h2, h3⟩ | ⟨h1, h2, h3⟩ | ⟨h1, h2, h3⟩
    · rw [h1, h2, h3, ih]; simp
    · rw [h1, h2, h3]; simp
    · rw [h1, h2, h3]; simp
theorem all_dig : ∀ l : List UInt8, (l.all (fun c => digB (c.toNat : Int)) = true ↔ l.all (fun c => eitB (c.toNat : Int)) = true ∧ letN l = 0)
  | [] => by simp [letN]
  | c :: r => by
    have ih := all_dig r
    unfold letN at ih ⊢
    rw [List.all_cons, List.all_cons, List.countP_cons, Bool.and_eq_true, Bool.and_eq_true]
    rcases eit_cases (c.toNat : Int) with ⟨h1, h2, h3⟩ | ⟨h1, h2, h3⟩ | ⟨h1, h2, h3⟩
    · rw [h1, h2, h3]; simp
    · rw [h1, h2, h3, ih]; simp
    · rw [h1, h2, h3]; simp
/-- What the counts say: the tests of the law are the tests of the tags. -/
theorem cnt_cases (s : ByteArray) : ((cntL s) = (-1, -1) ∧ allB letB s = false ∧ allB digB s = false ∧ allB eitB s = false) ∨
    ∃ a b : Nat, cntL s = ((a : Int), (b : Int)) ∧ a + b = s.size ∧ (allB letB s = true ↔ b = 0 ∧ s.size ≠ 0) ∧ (allB digB s = true ↔ a = 0 ∧ s.size ≠ 0) ∧ (allB eitB s = true ↔ s.size ≠ 0) ∧ (∀ x r, s.data.toList = x :: r → digB (x.toNat : Int) = true → 0 < b) ∧ (∀ x r, s.data.toList = x :: r → eitB (x.toNat : Int) = true) := by
  unfold cntL
  by_cases h : s.data.toList.all (fun c => eitB (c.toNat : Int)) = true
  · rw [if_pos h]
    refine .inr ⟨_, _, rfl, by rw [let_dig_n _ h, tl_len], ?_, ?_, ?_, ?_, ?_⟩
    · rw [allB_data, Bool.and_eq_true, all_let, decide_eq_true_eq]
      exact ⟨fun k => ⟨k.1.2, k.2⟩, fun k => ⟨⟨h, k.1⟩, k.2⟩⟩
    · rw [allB_data, Bool.and_eq_true, all_dig, decide_eq_true_eq]
      exact ⟨fun k => ⟨k.1.2, k.2⟩, fun k => ⟨⟨h, k.1⟩, k.2⟩⟩
    · rw [allB_data, Bool.and_eq_true, decide_eq_true_eq]
      exact ⟨fun k => k.2, fun k => ⟨h, k⟩⟩
    · intro x r e hd
      rw [e]
      unfold digN
      rw [List.countP_cons, hd]
      simp
    · intro x r e
      rw [e, List.all_cons, Bool.and_eq_true] at h
      exact h.1
  · rw [if_neg h]
    have h' := Bool.eq_false_iff.mpr h
    refine .inl ⟨rfl, ?_, ?_, ?_⟩
    · rw [allB_data]
      cases k : s.data.toList.all (fun c => letB (c.toNat : Int)) with
      | true => exact absurd ((all_let _).1 k).1 h
      | false => rfl
    · rw [allB_data]
      cases k : s.data.toList.all (fun c => digB (c.toNat : Int)) with
      | true => exact absurd ((all_dig _).1 k).1 h
      | false => rfl
    · rw [allB_data, h']; rfl
theorem cnt_bad (s : ByteArray) : badB s = (decide ((cntL s).2 ≠ 0) || decide ((cntL s).1 < 2) || decide ((cntL s).1 > 3)) := by
  rcases cnt_cases s with ⟨h, h1, h2, h3⟩ | ⟨a, b, h, hn, h1, h2, h3, _, _⟩
  · rw [h]; unfold badB; rw [h1]; simp
  · rw [h]
    unfold badB
    rw [Bool.eq_iff_iff]
    simp only [Bool.or_eq_true, decide_eq_true_eq, Bool.not_eq_true']
    simp only [← Bool.not_eq_true, h1]
    omega
theorem cnt_scr (s : ByteArray) : scrB s = (decide ((cntL s).1 = 4) && decide ((cntL s).2 = 0)) := by
  rcases cnt_cases s with ⟨h, h1, h2, h3⟩ | ⟨a, b, h, hn, h1, h2, h3, _, _⟩
  · rw [h]; unfold scrB; rw [h1]; simp
  · rw [h]
    unfold scrB
    rw [Bool.eq_iff_iff]
    simp only [Bool.and_eq_true, decide_eq_true_eq, h1]
    omega
theorem cnt_reg (s : ByteArray) : regB s = (decide ((cntL s).1 = 2) && decide ((cntL s).2 = 0) || decide ((cntL s).1 = 0) && decide ((cntL s).2 = 3)) := by
  rcases cnt_cases s with ⟨h, h1, h2, h3⟩ | ⟨a, b, h, hn, h1, h2, h3, _, _⟩
  · rw [h]; unfold regB; rw [h1, h2]; simp
  · rw [h]
    unfold regB
    rw [Bool.eq_iff_iff]
    simp only [Bool.or_eq_true, Bool.and_eq_true, decide_eq_true_eq, h1, h2]
    omega
theorem var_head (s : ByteArray) (x : UInt8) (r : List UInt8) (h : s.data.toList = x :: r) (he : eitB (x.toNat : Int) = true) : digB (bt s 0) = decide (bt s 0 ≤ 57) := by
  rw [bt_data s x r h]
  unfold eitB letB digB at he
  unfold digB
  rw [Bool.or_eq_true, decide_eq_true_eq, decide_eq_true_eq] at he
  apply decide_eq_decide.2
  omega
theorem cnt_var (s : ByteArray) : varB s = ((decide ((cntL s).1 + (cntL s).2 ≥ 5) && decide ((cntL s).1 + (cntL s).2 ≤ 8)) || (decide ((cntL s).1 + (cntL s).2 = 4) && decide ((cntL s).2 > 0) && decide (bt s 0 ≤ 57))) := by
  rcases cnt_cases s with ⟨h, h1, h2, h3⟩ | ⟨a, b, h, hn, h1, h2, h3, h4, h5⟩
  · rw [h]; unfold varB; rw [h3]; simp
  · rw [h]
    cases hd : s.data.toList with
    | nil =>
      have hs : s.size = 0 := by rw [← tl_len, hd]; rfl
      have e : allB eitB s = false := by
        rw [← Bool.not_eq_true]
        exact fun k => (h3.1 k) hs
      unfold varB
      rw [e]
      have e1 : a = 0 := by omega
      have e2 : b = 0 := by omega
      rw [e1, e2]; rfl
    | cons x r =>
      have hs : s.size ≠ 0 := by
        rw [← tl_len, hd]; simp
      unfold varB
      rw [h3.2 hs, var_head s x r hd (h5 x r hd)]
      have hx := var_head s x r hd (h5 x r hd)
      rw [Bool.eq_iff_iff]
      simp only [Bool.or_eq_true, Bool.and_eq_true, decide_eq_true_eq]
      have h6 : bt s 0 ≤ 57 → 0 < b := by
        intro hle
        rw [decide_eq_true hle, bt_data s x r hd] at hx
        exact h4 x r hd hx
      constructor
      · rintro ⟨_, k⟩
        rcases k with k | k
        · left; omega
        · right; have := h6 k.2; omega
      · intro k
        refine ⟨trivial, ?_⟩
        rcases k with k | k
        · left; omega
        · right; omega
end Go.Proofs.YtpedajhcfkohlaaDoorHand
