import Derived.Test.YtpedajhcfkohlaaDoorHandO
import Derived.Test.YtpedajhcfkohlaaDoorPNegx1
/- The law's functions over rows of texts and of tags, in plain words, each by its contract. -/
namespace Go.Proofs.YtpedajhcfkohlaaDoorHand
open Go.RowKit Go.Proofs.YtpedajhcfkohlaaDoor.PNeg Go.Proofs.YtpedajhcfkohlaaDoor.Pure Go.Proofs.YtpedajhcfkohlaaDoorW.PrintWords Go.Proofs.YtpedajhcfkohlaaDoorW.PrintLast Go.Proofs.YtpedajhcfkohlaaDoorW.PrintMore
set_option linter.unusedVariables false
set_option linter.unusedSimpArgs false
def tag_ParseV.f (s : ByteArray) : Option Told := if s.size ≤ 1000 then some (P0 (pcs s)) else none
theorem tag_ParseV.calls (a0 : ByteArray) (r1 : ByteArray) (r2 : ByteArray) (r3 : ByteArray) (r4 : List ByteArray) (r5 : Bool) (w : World) (h : tag_ParseV.f a0 = some (r1, r2, r3, r4, r5)) (hG : GW w := by first | exact hG | exact GW.drewN hG _ | exact GW.below hG (by first | exact HB.out | (with_reducible exact HB.out) | (repeat (first | (with_reducible first | exact HB.out | apply below_alloc | apply pw_below_drewN | apply below_drew1) | (refine below_setA ?_ (by assumption)) | exact HB.out)))) :
    Calls Tryd.prog 15 #[.string a0] w fun e w' => ∃ v3_ : Value, e = .returned (.tuple #[.agg #[.string r1, .string r2, .string r3, v3_], .bool r5]) ∧ Kd.V Kd.string 9 w' w.heap.size (fun k_ => (w.heap.size ≤ k_)) v3_ r4 ∧ Below w.heap.size w w' := by
  unfold tag_ParseV.f at h
  by_cases hb : a0.size ≤ 1000
  · rw [if_pos hb] at h
    refine (tag_Parse.calls a0 r1 r2 r3 r4 r5 w (by rw [parse_eq2 a0 (by omega)]; exact h) hG).mono ?_
    rintro e w' ⟨v, rfl, hv, hB⟩
    exact ⟨v, rfl, Kd.R_V (Kd.R_mono (Kd.R_bound hv) (fun k hk => hk.2.1)), hB⟩
  · rw [if_neg hb] at h; cases h
def tagOf (s : ByteArray) : Option S25 := if (P0 (pcs s)).2.2.2.2 = true then some ⟨(P0 (pcs s)).1, (P0 (pcs s)).2.1, (P0 (pcs s)).2.2.1, (P0 (pcs s)).2.2.2.1⟩ else none
def tagsL (l : List ByteArray) : List S25 := l.filterMap tagOf
def formOf (s : ByteArray) : Option ByteArray := if (LP (pcs s)).2 = true then some (LP (pcs s)).1 else none
def formsL (l : List ByteArray) : List ByteArray := l.filterMap formOf
theorem rd_str (l : List ByteArray) (i : Nat) (h : i < l.length) : rdOf ByteArray.empty l (i : Int) = l[i] := by
  unfold rdOf
  simp [List.getD_eq_getElem?_getD, List.getElem?_eq_getElem h]
theorem rd_tag (l : List S25) (i : Nat) (h : i < l.length) : rd_T25 l (i : Int) = l[i] := by
  unfold rd_T25
  simp [List.getD_eq_getElem?_getD, List.getElem?_eq_getElem h]
theorem tags_run (l : List ByteArray) (hl : l.length ≤ 1000) (hs : ∀ s ∈ l, s.size ≤ 1000) (n : Nat) : ∀ (k i : Nat) (out : List S25), n < k → i + n = l.length → out.length ≤ i → nego_Tags.l0 k out l (l.length : Int) (i : Int) = some (out ++ tagsL (l.drop i)) := by
  induction n with
  | zero =>
    intro k i out hk hi ho
    obtain ⟨k, rfl⟩ : ∃ j, k = j + 1 := ⟨k - 1, by omega⟩
    rw [nego_Tags.l0, if_neg (by omega), List.drop_of_length_le (by omega)]
    simp [tagsL]
  | succ n ih =>
    intro k i out hk hi ho
    obtain ⟨k, rfl⟩ : ∃ j, k = j + 1 := ⟨k - 1, by omega⟩
    have hil : i < l.length := by omega
    have hsz := hs l[i] (List.getElem_mem hil)
    rw [nego_Tags.l0, if_pos (by omega), if_pos (by omega), if_pos (by omega), rd_str l i hil, parse_eq2 _ (by omega), Option.bind_some, List.drop_eq_getElem_cons hil]
    unfold tagsL
    rw [List.filterMap_cons]
    unfold tagOf
    by_cases hb : (P0 (pcs l[i])).2.2.2.2 = true
    · rw [if_pos hb, if_pos hb, if_pos (by omega), wrap_id (x := (i : Int) + 1) (by omega) (by omega)]
      have := ih k (i + 1) (out ++ [(⟨(P0 (pcs l[i])).1, (P0 (pcs l[i])).2.1, (P0 (pcs l[i])).2.2.1, (P0 (pcs l[i])).2.2.2.1⟩ : S25)]) (by omega) (by omega) (by simp; omega)
      rw [List.append_assoc] at this
      exact this
    · rw [if_neg hb, if_neg hb, wrap_id (x := (i : Int) + 1) (by omega) (by omega)]
      exact ih k (i + 1) out (by omega) (by omega) (by omega)
def nego_TagsN.f (l : List ByteArray) : Option (List S25) := if l.length ≤ 1000 ∧ ∀ s ∈ l, s.size ≤ 1000 then some (tagsL l) else none
theorem nego_TagsN.calls (A0 : Option Addr) (c0 : Nat) (l0 : List ByteArray) (r : List (S25)) (w : World) (hr0 : Kd.C Kd.string w A0 l0.length l0) (hc0 : l0.length ≤ c0) (h : nego_TagsN.f l0 = some r) (hG : GW w := by first | exact hG | exact GW.drewN hG _ | exact GW.below hG (by first | exact HB.out | (with_reducible exact HB.out) | (repeat (first | (with_reducible first | exact HB.out | apply below_alloc | apply pw_below_drewN | apply below_drew1) | (refine below_setA ?_ (by assumption)) | exact HB.out)))) :
    Calls Tryd.prog 29 #[.slice A0 l0.length c0] w fun e w' => ∃ v0_ : Value, e = .returned (v0_) ∧ Kd.N k25 25 w' w.heap.size (fun k_ => (w.heap.size ≤ k_)) v0_ r ∧ Below w.heap.size w w' := by
  unfold nego_TagsN.f at h
  by_cases hb : l0.length ≤ 1000 ∧ ∀ s ∈ l0, s.size ≤ 1000
  · rw [if_pos hb] at h
    have e := tags_run l0 hb.1 hb.2 l0.length (l0.length + 1) 0 [] (by omega) (by omega) (Nat.le_refl _)
    refine (nego_Tags.calls (l0.length + 1) A0 c0 l0 r w hr0 hc0 (e.trans h) hG).mono ?_
    rintro e w' ⟨v, rfl, hv, hB⟩
    exact ⟨v, rfl, Kd.N_mono (Kd.R_N (Kd.R_bound (Kd.S_R hv))) (fun k hk => hk.2.1), hB⟩
  · rw [if_neg hb] at h; cases h
theorem texts_run (l : List S25) (hl : l.length ≤ 1000000) (hs : ∀ s ∈ l, SmallT s) (n : Nat) : ∀ (k i : Nat) (out : List ByteArray), n < k → i + n = l.length → out.length ≤ i → polyglotlaw11_Texts.l0 k out l (l.length : Int) (i : Int) = some (out ++ (l.drop i).map txt) := by
  induction n with
  | zero =>
    intro k i out hk hi ho
    obtain ⟨k, rfl⟩ : ∃ j, k = j + 1 := ⟨k - 1, by omega⟩
    rw [polyglotlaw11_Texts.l0, if_neg (by omega), List.drop_of_length_le (by omega)]
    simp
  | succ n ih =>
    intro k i out hk hi ho
    obtain ⟨k, rfl⟩ : ∃ j, k = j + 1 := ⟨k - 1, by omega⟩
    have hil : i < l.length := by omega
    have hsz := hs l[i] (List.getElem_mem hil)
    rw [polyglotlaw11_Texts.l0, if_pos (by omega), if_pos (by omega), if_pos (by omega), rd_tag l i hil, str_t _ hsz, Option.bind_some, if_pos (by omega), wrap_id (x := (i : Int) + 1) (by omega) (by omega), List.drop_eq_getElem_cons hil, List.map_cons]
    have := ih k (i + 1) (out ++ [txt l[i]]) (by omega) (by omega) (by simp; omega)
    rw [List.append_assoc] at this
    exact this
def law11_Texts.f (l : List S25) : Option (List ByteArray) := if l.length ≤ 1000000 ∧ ∀ s ∈ l, SmallT s then some (l.map txt) else none
theorem law11_Texts.calls (A0 : Option Addr) (c0 : Nat) (l0 : List (S25)) (r : List ByteArray) (w : World) (hr0 : Kd.C k25 w A0 l0.length l0) (hc0 : l0.length ≤ c0) (h : law11_Texts.f l0 = some r) :
    Calls Tryd.prog 31 #[.slice A0 l0.length c0] w fun e w' => ∃ v0_ : Value, e = .returned (v0_) ∧ Kd.R Kd.string 9 w' w.heap.size (fun _ => True) v0_ r ∧ Below w.heap.size w w' := by
  unfold law11_Texts.f at h
  by_cases hb : l0.length ≤ 1000000 ∧ ∀ s ∈ l0, SmallT s
  · rw [if_pos hb] at h
    exact polyglotlaw11_Texts.calls (l0.length + 1) A0 c0 l0 r w hr0 hc0 ((texts_run l0 hb.1 hb.2 l0.length (l0.length + 1) 0 [] (by omega) (by omega) (Nat.le_refl _)).trans h)
  · rw [if_neg hb] at h; cases h
theorem forms_run (l : List ByteArray) (hl : l.length ≤ 1000) (hs : ∀ s ∈ l, s.size ≤ 1000) (n : Nat) : ∀ (k i : Nat) (out : List ByteArray), n < k → i + n = l.length → out.length ≤ i → polyglotlaw11_Forms.l0 k out l (l.length : Int) (i : Int) = some (out ++ formsL (l.drop i)) := by
  induction n with
  | zero =>
    intro k i out hk hi ho
    obtain ⟨k, rfl⟩ : ∃ j, k = j + 1 := ⟨k - 1, by omega⟩
    rw [polyglotlaw11_Forms.l0, if_neg (by omega), List.drop_of_length_le (by omega)]
    simp [formsL]
  | succ n ih =>
    intro k i out hk hi ho
    obtain ⟨k, rfl⟩ : ∃ j, k = j + 1 := ⟨k - 1, by omega⟩
    have hil : i < l.length := by omega
    have hsz := hs l[i] (List.getElem_mem hil)
    have ep : law03_Parse.f l[i] = some (LP (pcs l[i])) := by unfold law03_Parse.f; rw [if_pos hsz]
    rw [polyglotlaw11_Forms.l0, if_pos (by omega), if_pos (by omega), if_pos (by omega), rd_str l i hil, ep, Option.bind_some, List.drop_eq_getElem_cons hil]
    unfold formsL
    rw [List.filterMap_cons]
    unfold formOf
    by_cases hb : (LP (pcs l[i])).2 = true
    · rw [if_pos hb, if_pos hb, if_pos (by omega), wrap_id (x := (i : Int) + 1) (by omega) (by omega)]
      have := ih k (i + 1) (out ++ [(LP (pcs l[i])).1]) (by omega) (by omega) (by simp; omega)
      rw [List.append_assoc] at this
      exact this
    · rw [if_neg hb, if_neg hb, wrap_id (x := (i : Int) + 1) (by omega) (by omega)]
      exact ih k (i + 1) out (by omega) (by omega) (by omega)
def law11_Forms.f (l : List ByteArray) : Option (List ByteArray) := if l.length ≤ 1000 ∧ ∀ s ∈ l, s.size ≤ 1000 then some (formsL l) else none
theorem law11_Forms.calls (A0 : Option Addr) (c0 : Nat) (l0 : List ByteArray) (r : List ByteArray) (w : World) (hr0 : Kd.C Kd.string w A0 l0.length l0) (hc0 : l0.length ≤ c0) (h : law11_Forms.f l0 = some r) :
    Calls Tryd.prog 32 #[.slice A0 l0.length c0] w fun e w' => ∃ v0_ : Value, e = .returned (v0_) ∧ Kd.R Kd.string 9 w' w.heap.size (fun _ => True) v0_ r ∧ Below w.heap.size w w' := by
  unfold law11_Forms.f at h
  by_cases hb : l0.length ≤ 1000 ∧ ∀ s ∈ l0, s.size ≤ 1000
  · rw [if_pos hb] at h
    exact polyglotlaw11_Forms.calls (l0.length + 1) A0 c0 l0 r w hr0 hc0 ((forms_run l0 hb.1 hb.2 l0.length (l0.length + 1) 0 [] (by omega) (by omega) (Nat.le_refl _)).trans h)
  · rw [if_neg hb] at h; cases h
theorem toList_inj {a b : ByteArray} (h : a.toList = b.toList) : a = b := by rw [tl, tl] at h; exact ba_ext h
theorem same_run (l m : List ByteArray) (hlm : l.length = m.length) (hl : l.length ≤ 1000000) (n : Nat) : ∀ (k i : Nat), n < k → i + n = l.length → polyglotlaw11_Same.l0 k l m (l.length : Int) (i : Int) = some (decide (l.drop i = m.drop i)) := by
  induction n with
  | zero =>
    intro k i hk hi
    obtain ⟨k, rfl⟩ : ∃ j, k = j + 1 := ⟨k - 1, by omega⟩
    rw [polyglotlaw11_Same.l0, if_neg (by omega), List.drop_of_length_le (by omega), List.drop_of_length_le (by omega)]
    rfl
  | succ n ih =>
    intro k i hk hi
    obtain ⟨k, rfl⟩ : ∃ j, k = j + 1 := ⟨k - 1, by omega⟩
    have hil : i < l.length := by omega
    have him : i < m.length := by omega
    rw [polyglotlaw11_Same.l0, if_pos (by omega), if_pos (by omega), if_pos (by omega), if_pos (by omega), rd_str l i hil, rd_str m i him, List.drop_eq_getElem_cons hil, List.drop_eq_getElem_cons him]
    by_cases he : l[i].toList = m[i].toList
    · rw [if_pos he, wrap_id (x := (i : Int) + 1) (by omega) (by omega)]
      have := ih k (i + 1) (by omega) (by omega)
      have he2 : l[i] = m[i] := toList_inj he
      refine Eq.trans this ?_
      have hh : (l.drop (i + 1) = m.drop (i + 1)) ↔ (l[i] :: l.drop (i + 1) = m[i] :: m.drop (i + 1)) := ⟨fun e => by rw [he2, e], fun e => (List.cons.inj e).2⟩
      exact congrArg some (decide_eq_decide.2 hh)
    · rw [if_neg he]
      congr 1
      rw [eq_comm, decide_eq_false_iff_not]
      intro e
      injection e with e _
      exact he (by rw [e])
def law11_Same.f (l m : List ByteArray) : Option Bool := if l.length ≤ 1000000 ∧ m.length ≤ 1000000 then some (decide (l = m)) else none
theorem law11_Same.calls (A0 : Option Addr) (c0 : Nat) (l0 : List ByteArray) (A1 : Option Addr) (c1 : Nat) (l1 : List ByteArray) (r : Bool) (w : World) (hr0 : Kd.C Kd.string w A0 l0.length l0) (hc0 : l0.length ≤ c0) (hr1 : Kd.C Kd.string w A1 l1.length l1) (hc1 : l1.length ≤ c1) (h : law11_Same.f l0 l1 = some r) :
    Calls Tryd.prog 30 #[.slice A0 l0.length c0, .slice A1 l1.length c1] w fun e w' => e = .returned (.bool r) ∧ Drawn0 w w' := by
  refine polyglotlaw11_Same.calls (l0.length + 1) A0 c0 l0 A1 c1 l1 r w hr0 hc0 hr1 hc1 ?_
  unfold law11_Same.f at h
  by_cases hb : l0.length ≤ 1000000 ∧ l1.length ≤ 1000000
  · rw [if_pos hb] at h
    unfold polyglotlaw11_Same.f
    by_cases he : l0.length = l1.length
    · rw [if_pos (by omega)]
      exact (same_run l0 l1 he hb.1 l0.length (l0.length + 1) 0 (by omega) (by omega)).trans h
    · rw [if_neg (by omega), ← h]
      congr 1
      rw [eq_comm, decide_eq_false_iff_not]
      intro e
      exact he (by rw [e])
  · rw [if_neg hb] at h; cases h
def shortB (l : List ByteArray) : Bool := l.all (fun s => decide (s.size ≤ 60)) && decide (l.length ≤ 20)
theorem short_run (l : List ByteArray) (hl : l.length ≤ 9223372036854775807) (n : Nat) : ∀ (k i : Nat), n < k → i + n = l.length → polyglotlaw11_short.l0 k l l (l.length : Int) (i : Int) = some ((l.drop i).all (fun s => decide (s.size ≤ 60)) && decide (l.length ≤ 20)) := by
  induction n with
  | zero =>
    intro k i hk hi
    obtain ⟨k, rfl⟩ : ∃ j, k = j + 1 := ⟨k - 1, by omega⟩
    rw [polyglotlaw11_short.l0, if_neg (by omega), List.drop_of_length_le (by omega), List.all_nil, Bool.true_and]
    congr 1
    apply decide_eq_decide.2
    omega
  | succ n ih =>
    intro k i hk hi
    obtain ⟨k, rfl⟩ : ∃ j, k = j + 1 := ⟨k - 1, by omega⟩
    have hil : i < l.length := by omega
    rw [polyglotlaw11_short.l0, if_pos (by omega), if_pos (by omega), if_pos (by omega), rd_str l i hil, List.drop_eq_getElem_cons hil, List.all_cons]
    by_cases he : (l[i].size : Int) > 60
    · rw [if_pos he, decide_eq_false (by omega), Bool.false_and, Bool.false_and]
    · rw [if_neg he, decide_eq_true (by omega), Bool.true_and, wrap_id (x := (i : Int) + 1) (by omega) (by omega)]
      exact ih k (i + 1) (by omega) (by omega)
def law11_short.f (l : List ByteArray) : Option Bool := if l.length ≤ 9223372036854775807 then some (shortB l) else none
theorem law11_short.calls (A0 : Option Addr) (c0 : Nat) (l0 : List ByteArray) (r : Bool) (w : World) (hr0 : Kd.C Kd.string w A0 l0.length l0) (hc0 : l0.length ≤ c0) (h : law11_short.f l0 = some r) :
    Calls Tryd.prog 28 #[.slice A0 l0.length c0] w fun e w' => e = .returned (.bool r) ∧ Drawn0 w w' := by
  refine polyglotlaw11_short.calls (l0.length + 1) A0 c0 l0 r w hr0 hc0 ?_
  unfold law11_short.f at h
  by_cases hb : l0.length ≤ 9223372036854775807
  · rw [if_pos hb] at h
    exact (short_run l0 hb l0.length (l0.length + 1) 0 (by omega) (by omega)).trans h
  · rw [if_neg hb] at h; cases h
/-- A row of texts that came in. -/
def IsStrs (W : World) (a : Option Addr) (len cap : Nat) (zs : List ByteArray) : Prop :=
  (a = none ∧ len = 0 ∧ cap = 0 ∧ zs = []) ∨ ∃ x, a = some x ∧ len ≤ cap ∧ cap ≤ maxLen ∧ zs.length = cap ∧ (∀ i, i < zs.length → W.cell? (x.add i) = some (.string (zs.getD i ByteArray.empty))) ∧ ∀ s ∈ zs, s.size ≤ maxLen
theorem IsStrs.row {W : World} {a : Option Addr} {len cap : Nat} {zs : List ByteArray} (h : IsStrs W a len cap zs) : ∃ l : List ByteArray, l.length = len ∧ len ≤ cap ∧ len ≤ 9223372036854775807 ∧ Kd.C Kd.string W a l.length l := by
  rcases h with ⟨rfl, rfl, rfl, rfl⟩ | ⟨x, rfl, h1, h2, h3, h4, h5⟩
  · exact ⟨[], rfl, Nat.le_refl _, Nat.zero_le _, Kd.C_nil _ _⟩
  · unfold maxLen at h2
    have e : (zs.take len).length = len := by rw [List.length_take]; omega
    refine ⟨zs.take len, e, h1, by omega, Kd.C_of_reads (enc := Value.string) (d := ByteArray.empty) (h1 := fun _ => rfl) ⟨rfl, by omega, fun hn => ⟨x, rfl, fun j hj => ?_⟩⟩⟩
    rw [h4 j (by omega)]
    congr 2
    rw [List.getD_eq_getElem?_getD, List.getD_eq_getElem?_getD, List.getElem?_take, if_pos (by omega)]
end Go.Proofs.YtpedajhcfkohlaaDoorHand
