/- The second reading of the model's code, part 10 of 13. -/
import Derived.Test.YtkmbkejmfffafaaGreatDoorM9
set_option linter.unusedSectionVars false
set_option linter.unusedVariables false
set_option linter.unusedSimpArgs false
/- The second reading: script.reader.text, by a run of its own. -/
namespace Go.Proofs.YtkmbkejmfffafaaGreatDoor.Refl
open Go Go.RowKit
set_option linter.unusedVariables false
set_option linter.unusedSimpArgs false
set_option maxRecDepth 100000

noncomputable def hOneP (o : AObj) (orc : List (Nat × Bool)) : AH := { t := (Tr.nil.set 2 (.cells p10 264 20 2)).set 12 o, n := 13, log := [], sym := true, cnt := 0, orc := orc, ob := [] }
/-- What is looked at of an answer. -/
noncomputable def look (b : Nat) (r : AR) : Option (Value × AObj × List Nat × List Bool) := match r with
  | some q => match q with
    | (v, h) => some (v, h.obj b, h.log, h.ob)
  | none => none
def bsT (x : Nat) : List Nat := [x,1,1,1,0,0,1,1,1,1,1,1,1,1,1,1,1,1,1,1,1,0,1,1,0,1,1,1,1,1,1,1,1,1,0,1,1,1,1,1,1,1,1,1,0,0]
noncomputable def ET (k n : Nat) : Env := envT [(18, xItoa), (181, xAtoiN n), (214, xIdxK k)]
noncomputable def wT (S : List UInt8) (at_ hi : Nat) : List UInt8 := List.take (hi.sub at_) (List.drop at_ S)
noncomputable def dT (k : Nat) (W : List UInt8) : List UInt8 := List.take k W
noncomputable def frT (at_ : Nat) (D : List UInt8) : Nat := (at_.add (len D)).add 1
noncomputable def obT (S W D : List UInt8) (at_ k n b hi F E : Nat) : List Bool :=
  [F.ble E,
   E.ble (len S),
   E.ble 9223372036854775807,
   (E.add 1).ble 9223372036854775807,
   E.ble 9223372036854775807,
   beqB (Nat.beq 0 1) !iEq (Int.ofNat (nthD S E).toNat) 44,
   beqB (Nat.beq 0 1) !iLt (Int.ofNat E) (Int.ofNat (len S)),
   beqB (Nat.beq 1 1) (beqB (!iLt (Int.ofNat E) (Int.ofNat (len S))) false),
   E.blt (len S),
   beqB (Nat.beq 1 1) (beqB (!iLt (Int.ofNat E) (Int.ofNat (len S))) false),
   E.ble 9223372036854775807,
   beqB (Nat.beq 1 1) (beqB (!iLt (Int.ofNat E) (Int.ofNat (len S))) false),
   beqB (Nat.beq 1 1) (beqB (!iLt (Int.ofNat E) (Int.ofNat (len S))) false),
   beqB (Nat.beq 1 1) (beqB (!iLt (Int.ofNat E) (Int.ofNat (len S))) false),
   beqB (Nat.beq 1 1) (beqB (!iLt (Int.ofNat E) (Int.ofNat (len S))) false),
   beqB (Nat.beq 1 1) (beqB (!iLt (Int.ofNat E) (Int.ofNat (len S))) false),
   beqB (Nat.beq 1 1) (beqB (!iLt (Int.ofNat E) (Int.ofNat (len S))) false),
   beqB (Nat.beq 1 1) (beqB (!iLt (Int.ofNat E) (Int.ofNat (len S))) false),
   beqB (Nat.beq 0 1) !bytesEq (itoaF n) D,
   beqB (Nat.beq 1 1) (beqB (!bytesEq (itoaF n) D) false),
   beqB (Nat.beq 1 1) (beqB (!bytesEq (itoaF n) D) false),
   beqB (Nat.beq 1 1) (beqB (!bytesEq (itoaF n) D) false),
   beqB (Nat.beq 1 1) (beqB (!bytesEq (itoaF n) D) false),
   beqB (Nat.beq 1 1) (beqB (!bytesEq (itoaF n) D) false),
   beqB (Nat.beq 1 1) (beqB (!bytesEq (itoaF n) D) false),
   E.ble 9223372036854775807,
   beqB (Nat.beq 1 1) (beqB (!bytesEq (itoaF n) D) false),
   beqB (Nat.beq 1 1) (beqB (!bytesEq (itoaF n) D) false),
   beqB (Nat.beq 1 1) (beqB (!bytesEq (itoaF n) D) false),
   true,
   true,
   true,
   true,
   true,
   true,
   F.ble 9223372036854775807,
   (at_.add (len D)).ble 9223372036854775807,
   beqB (Nat.beq 1 1) !iLt 262144 (Int.ofNat n),
   beqB (Nat.beq 1 1) (beqB (!iLt 262144 (Int.ofNat n)) true),
   beqB (Nat.beq 1 1) (beqB (!iLt 262144 (Int.ofNat n)) true),
   n.blt 400,
   beqB (Nat.beq 1 1) (beqB (!iLt 262144 (Int.ofNat n)) true),
   beqB (Nat.beq 1 1) (beqB (!iLt 262144 (Int.ofNat n)) true),
   true,
   true,
   true,
   true,
   true,
   true,
   n.blt 400,
   bytesEq D (itoaF n),
   (k.add (len [58])).ble (len W),
   (len W).ble (len W),
   (k.add (len [58])).ble 9223372036854775807,
   true,
   k.ble (len W),
   true,
   optBeq (findByte 58 W 0) k,
   true,
   true,
   beqB (Nat.beq 0 1) (bytesEq [58] W),
   true,
   true,
   true,
   true,
   at_.ble hi,
   hi.ble (len S),
   beqB (Nat.beq b 1) ((at_.add 8).blt (len S)),
   (at_.add 8).ble 9223372036854775807]
noncomputable def rdO (S : List UInt8) (a : Nat) : AObj := .cells [strV S, intV a, .bool false] 141 0 0
theorem textRun1 (S : List UInt8) (at_ k n : Nat) : look 12 (acall (ET k n) 200 97 [ptrV 12 0] (hOneP (rdO S at_) (bits (bsT 1) 0))) =
    some (strV (List.take (((frT at_ (dT k (wT S at_ (at_.add 8)))).add n).sub (frT at_ (dT k (wT S at_ (at_.add 8))))) (List.drop (frT at_ (dT k (wT S at_ (at_.add 8)))) S)),
      rdO S (((frT at_ (dT k (wT S at_ (at_.add 8)))).add n).add 1), [12],
      obT S (wT S at_ (at_.add 8)) (dT k (wT S at_ (at_.add 8))) at_ k n 1 (at_.add 8) (frT at_ (dT k (wT S at_ (at_.add 8)))) ((frT at_ (dT k (wT S at_ (at_.add 8)))).add n)) := by kernel_rfl
theorem textRun0 (S : List UInt8) (at_ k n : Nat) : look 12 (acall (ET k n) 200 97 [ptrV 12 0] (hOneP (rdO S at_) (bits (bsT 0) 0))) =
    some (strV (List.take (((frT at_ (dT k (wT S at_ (len S)))).add n).sub (frT at_ (dT k (wT S at_ (len S))))) (List.drop (frT at_ (dT k (wT S at_ (len S)))) S)),
      rdO S (((frT at_ (dT k (wT S at_ (len S)))).add n).add 1), [12],
      obT S (wT S at_ (len S)) (dT k (wT S at_ (len S))) at_ k n 0 (len S) (frT at_ (dT k (wT S at_ (len S)))) ((frT at_ (dT k (wT S at_ (len S)))).add n)) := by kernel_rfl
theorem obT_all {S W D : List UInt8} {at_ k n b hi F E : Nat} (a0 : Nat.ble (Nat.add at_ 8) 9223372036854775807 = true) (a1 : beqB (Nat.beq b 1) (Nat.blt (Nat.add at_ 8) (len S)) = true) (a2 : Nat.ble hi (len S) = true) (a3 : Nat.ble at_ hi = true)
    (a8 : bytesEq [58] W = false) (a11 : optBeq (findByte 58 W 0) k = true) (a13 : Nat.ble k (len W) = true) (a15 : Nat.ble (Nat.add k (len [58])) 9223372036854775807 = true) (a16 : Nat.ble (len W) (len W) = true) (a17 : Nat.ble (Nat.add k (len [58])) (len W) = true)
    (a18 : bytesEq D (itoaF n) = true) (a40 : bytesEq (itoaF n) D = true) (a19 : Nat.blt n 400 = true) (a26 : iLt 262144 (Int.ofNat n) = false) (a32 : Nat.ble (Nat.add at_ (len D)) 9223372036854775807 = true) (a33 : Nat.ble F 9223372036854775807 = true)
    (a43 : Nat.ble E 9223372036854775807 = true) (a51 : iLt (Int.ofNat E) (Int.ofNat (len S)) = true) (a60 : Nat.blt E (len S) = true) (a63 : iEq (Int.ofNat (nthD S E).toNat) 44 = true) (a65 : Nat.ble (Nat.add E 1) 9223372036854775807 = true)
    (a67 : Nat.ble E (len S) = true) (a68 : Nat.ble F E = true) : ∀ x ∈ obT S W D at_ k n b hi F E, x = true := by
  intro x hx
  unfold obT at hx
  simp only [List.mem_cons, List.not_mem_nil, or_false] at hx
  rcases hx with hx | hx | hx | hx | hx | hx | hx | hx | hx | hx | hx | hx | hx | hx | hx | hx | hx | hx | hx | hx | hx | hx | hx | hx | hx | hx | hx | hx | hx | hx | hx | hx | hx | hx | hx | hx | hx | hx | hx | hx | hx | hx | hx | hx | hx | hx | hx | hx | hx | hx | hx | hx | hx | hx | hx | hx | hx | hx | hx | hx | hx | hx | hx | hx | hx | hx | hx | hx | hx
  all_goals (subst hx; first | rfl | assumption | (rw [a8]; rfl) | (rw [a26]; rfl) | (rw [a40]; rfl) | (rw [a51]; rfl) | (rw [a63]; rfl))
end Go.Proofs.YtkmbkejmfffafaaGreatDoor.Refl
/- The second reading: script.reader.text as a plug-in. -/
namespace Go.Proofs.YtkmbkejmfffafaaGreatDoor.Refl
open Go Go.RowKit
set_option linter.unusedVariables false
set_option linter.unusedSimpArgs false
set_option maxRecDepth 100000

noncomputable def itoaNice (n : Nat) : Bool := match Nat.ble (len (itoaF n)) 3 with
  | false => false
  | true => match Nat.ble 1 (len (itoaF n)) with
    | false => false
    | true => allB (fun b => !Nat.beq b.toNat 58) (itoaF n)
theorem itoaNiceAll : allB itoaNice (upTo 400 []) = true := by kernel_rfl
theorem itoa_nice {n : Nat} (h : n < 400) : (itoaF n).length ≤ 3 ∧ 1 ≤ (itoaF n).length ∧ ∀ b ∈ itoaF n, b.toNat ≠ 58 := by
  have hk := (allB_eq _ _).1 itoaNiceAll n ((upTo_mem 400 [] n).2 (.inl h))
  unfold itoaNice at hk
  rw [len_eq] at hk
  cases h1 : Nat.ble (itoaF n).length 3 with
  | false => simp [h1] at hk
  | true =>
  simp only [h1] at hk
  cases h2 : Nat.ble 1 (itoaF n).length with
  | false => simp [h2] at hk
  | true =>
  simp only [h2] at hk
  refine ⟨Nat.le_of_ble_eq_true h1, Nat.le_of_ble_eq_true h2, fun b hb => ?_⟩
  have := (allB_eq _ _).1 hk b hb
  rw [bq] at this
  simpa using this
theorem findByte_at {c : UInt8} : ∀ (l r : List UInt8) (i : Nat), (∀ b ∈ l, b.toNat ≠ c.toNat) → findByte c (l ++ c :: r) i = some (i + l.length)
  | [], r, i, _ => by
    show (match Nat.beq c.toNat c.toNat with | true => some i | false => findByte c r (i + 1)) = _
    rw [bq]; simp
  | b :: l, r, i, h => by
    show (match Nat.beq b.toNat c.toNat with | true => some i | false => findByte c (l ++ c :: r) (i + 1)) = _
    rw [bq]
    have hb : b.toNat ≠ c.toNat := h b (by simp)
    simp only [hb, decide_false]
    rw [findByte_at l r (i + 1) fun x hx => h x (by simp [hx])]
    simp; omega
theorem partF_eq (p : List UInt8) : partF p = itoaF p.length ++ 58 :: (p ++ [44]) := by
  unfold partF
  simp [app_eq, len_eq]
theorem text_facts {S p R : List UInt8} {at_ hi b : Nat} (hD : S.drop at_ = partF p ++ R) (hp : p.length < 400) (hS : S.length ≤ 1099511627776)
    (hh : (hi = at_ + 8 ∧ b = 1 ∧ at_ + 8 < S.length) ∨ (hi = S.length ∧ b = 0 ∧ ¬ at_ + 8 < S.length)) :
    let k := (itoaF p.length).length
    let W := wT S at_ hi
    let D := dT k W
    let F := frT at_ D
    let E := F.add p.length
    (∀ x ∈ obT S W D at_ k p.length b hi F E, x = true) ∧ List.take (E.sub F) (List.drop F S) = p ∧ E.add 1 = at_ + (partF p).length := by
  intro k W D F E
  obtain ⟨n1, n2, n3⟩ := itoa_nice hp
  have hk : k = (itoaF p.length).length := rfl
  rw [← hk] at n1 n2
  have hP : S.drop at_ = itoaF p.length ++ 58 :: (p ++ 44 :: R) := by rw [hD, partF_eq]; simp
  have hlen : S.length - at_ = k + 1 + (p.length + (1 + R.length)) := by
    have := congrArg List.length hP
    simp at this
    omega
  have hpl : (partF p).length = k + 1 + (p.length + 1) := by rw [partF_eq]; simp; omega
  have hw : W = itoaF p.length ++ 58 :: List.take (hi - at_ - k - 1) (p ++ 44 :: R) := by
    show List.take (hi - at_) (S.drop at_) = _
    rw [hP, List.take_append, List.take_of_length_le (by omega)]
    congr 1
    have : hi - at_ - (itoaF p.length).length = (hi - at_ - k - 1) + 1 := by omega
    rw [this, List.take_succ_cons]
    first | done | (congr 1)
  have hd : D = itoaF p.length := by
    show List.take k W = _
    rw [hw, List.take_append, List.take_of_length_le (by omega)]
    simp [hk]
  have hWl : k + 1 ≤ W.length := by rw [hw]; simp; omega
  have hF : F = at_ + k + 1 := by show at_ + len D + 1 = _; rw [len_eq, hd]
  have hE : E = at_ + k + 1 + p.length := by show F + p.length = _; rw [hF]
  have hEl : E < S.length := by omega
  have hat : at_ ≤ S.length := by omega
  have hget : S[E]? = some 44 := by
    have e1 : S[E]? = (S.drop at_)[E - at_]? := by rw [List.getElem?_drop]; congr 1; omega
    rw [e1, hP, List.getElem?_append_right (by omega)]
    have e2 : E - at_ - (itoaF p.length).length = p.length + 1 := by omega
    rw [e2, List.getElem?_cons_succ, List.getElem?_append_right (by omega)]
    simp
  have hnth : nthD S E = 44 := by unfold nthD; rw [nth_eq, hget]
  refine ⟨obT_all ?_ ?_ ?_ ?_ ?_ ?_ ?_ ?_ ?_ ?_ ?_ ?_ ?_ ?_ ?_ ?_ ?_ ?_ ?_ ?_ ?_ ?_ ?_, ?_, ?_⟩
  · rw [ble_eq]; exact decide_eq_true (show at_ + 8 ≤ 9223372036854775807 by omega)
  · rw [blt_eq, len_eq]
    show beqB (Nat.beq b 1) (decide (at_ + 8 < S.length)) = true
    rcases hh with ⟨_, rfl, h3⟩ | ⟨_, rfl, h3⟩
    · simp [h3, beqB]
    · simp [h3, beqB]
  · rw [ble_eq, len_eq]; simp; omega
  · rw [ble_eq]; simp; omega
  · rw [bytesEq_eq]
    have : [58] ≠ W := fun e => by rw [← e] at hWl; simp at hWl; omega
    simp [this]
  · have : findByte 58 W 0 = some k := by
      rw [hw, findByte_at (c := 58) _ _ _ (fun b hb => n3 b hb)]
      simp [hk]
    rw [this]
    show Nat.beq k k = true
    rw [bq]; simp
  · rw [ble_eq, len_eq]; simp; omega
  · rw [ble_eq]; exact decide_eq_true (show k + 1 ≤ 9223372036854775807 by omega)
  · rw [ble_eq]; simp
  · rw [ble_eq, len_eq, len_eq]; exact decide_eq_true (show k + 1 ≤ W.length by omega)
  · rw [bytesEq_eq, hd]; simp
  · rw [bytesEq_eq, hd]; simp
  · rw [blt_eq]; simp [hp]
  · rw [iLt_eq]; simp; omega
  · rw [ble_eq, len_eq, hd]; exact decide_eq_true (show at_ + k ≤ 9223372036854775807 by omega)
  · rw [ble_eq]; simp; omega
  · rw [ble_eq]; simp; omega
  · rw [iLt_eq, len_eq]; simp; omega
  · rw [blt_eq, len_eq]; simp [hEl]
  · rw [hnth, iEq_eq]; rfl
  · rw [ble_eq]; exact decide_eq_true (show E + 1 ≤ 9223372036854775807 by omega)
  · rw [ble_eq, len_eq]; simp; omega
  · rw [ble_eq]; simp; omega
  · have e1 : E.sub F = p.length := by show E - F = _; omega
    have e2 : S.drop F = p ++ 44 :: R := by
      have : S.drop F = (S.drop at_).drop (k + 1) := by rw [List.drop_drop]; (congr 1 <;> omega)
      rw [this, hP, List.drop_append]
      have e3 : k + 1 - (itoaF p.length).length = 1 := by omega
      rw [e3, List.drop_of_length_le (by omega)]
      first | done | simp
    rw [e1, e2]; simp
  · show E + 1 = _; omega
/-! ### The plug-in -/
noncomputable def yText2 (p : List UInt8) (b : Nat) (s : List UInt8) (at_ : Nat) (nn : Bool) (h : AH) : AR :=
  some (strV p, (((((h.tick).owe (beqB nn false)).owe (bytesEq (List.take (len (partF p)) (List.drop at_ s)) (partF p))).owe (Nat.blt (len p) 400)).owe (Nat.ble (len s) 1099511627776)).write b (rdO s (Nat.add at_ (len (partF p)))))
noncomputable def yText1 (tab : List (Nat × List UInt8)) (b : Nat) (cs : List Value) (h : AH) : AR := match cs with
  | [x, y, z] => match asStr x with
    | none => none
    | some s => match asNat y with
      | none => none
      | some a => match kEq .i64 (match asInt y with | some i => i.k | none => .u8) with
        | false => none
        | true => match asBool z with
          | none => none
          | some nn => match assoc h.cnt tab with
            | none => none
            | some p => yText2 p b s a nn h
  | _ => none
noncomputable def yText3 (tab : List (Nat × List UInt8)) (b : Nat) (o : AObj) (h : AH) : AR := match o with
  | .cells cs e fz kd => match Nat.beq e 141 with
    | false => none
    | true => match Nat.beq fz 0 with
      | false => none
      | true => match Nat.beq kd 0 with
        | false => none
        | true => yText1 tab b cs h
  | _ => none
noncomputable def yText (tab : List (Nat × List UInt8)) : XF := x1 fun x h => match asPtr x with
  | none => none
  | some p => match p with
    | ⟨b, off⟩ => match Nat.beq off 0 with
      | false => none
      | true => match isTab p10 264 (h.obj 2) with
        | false => none
        | true => match Nat.ble 12 b with
          | false => none
          | true => yText3 tab b (h.obj b) h
theorem yText_some {tab : List (Nat × List UInt8)} {args : List Value} {h h1 : AH} {r : Value} (hx : yText tab args h = some (r, h1)) :
    ∃ b S a nn p, args = [ptrV b 0] ∧ 12 ≤ b ∧ isTab p10 264 (h.obj 2) = true ∧ h.obj b = .cells [strV S, intV a, .bool nn] 141 0 0 ∧ r = strV p ∧
      h1 = (((((h.tick).owe (beqB nn false)).owe (bytesEq (List.take (len (partF p)) (List.drop a S)) (partF p))).owe (Nat.blt (len p) 400)).owe (Nat.ble (len S) 1099511627776)).write b (rdO S (Nat.add a (len (partF p)))) := by
  obtain ⟨x, rfl, hx'⟩ := y1_some hx
  clear hx
  have hx := hx'
  clear hx'
  cases hp : asPtr x with
  | none => simp [hp] at hx
  | some q =>
  obtain ⟨b, off⟩ := q
  simp only [hp] at hx
  cases h0 : Nat.beq off 0 with
  | false => simp [h0] at hx
  | true =>
  simp only [h0] at hx
  obtain rfl := Nat.eq_of_beq_eq_true h0
  cases ht : isTab p10 264 (h.obj 2) with
  | false => simp [ht] at hx
  | true =>
  simp only [ht] at hx
  cases hbb : Nat.ble 12 b with
  | false => simp [hbb] at hx
  | true =>
  simp only [hbb] at hx
  unfold yText3 at hx
  cases ho : h.obj b with
  | cells cs e fz kd =>
    simp only [ho] at hx
    cases g1 : Nat.beq e 141 with
    | false => simp [g1] at hx
    | true =>
    simp only [g1] at hx
    cases g2 : Nat.beq fz 0 with
    | false => simp [g2] at hx
    | true =>
    simp only [g2] at hx
    cases g3 : Nat.beq kd 0 with
    | false => simp [g3] at hx
    | true =>
    simp only [g3] at hx
    obtain rfl := Nat.eq_of_beq_eq_true g1
    obtain rfl := Nat.eq_of_beq_eq_true g2
    obtain rfl := Nat.eq_of_beq_eq_true g3
    unfold yText1 at hx
    match cs, hx, ho with
    | [], hx, _ => simp at hx
    | [_], hx, _ => simp at hx
    | [_, _], hx, _ => simp at hx
    | _ :: _ :: _ :: _ :: _, hx, _ => simp at hx
    | [u, y, z], hx, ho =>
      simp only at hx
      cases hs : asStr u with
      | none => simp [hs] at hx
      | some S =>
      simp only [hs] at hx
      cases hn : asNat y with
      | none => simp [hn] at hx
      | some a =>
      simp only [hn] at hx
      obtain ⟨kk, rfl⟩ := asNat_some hn
      have hai : asInt (.int kk (a : Int)) = some ⟨kk, a⟩ := rfl
      rw [hai] at hx
      simp only at hx
      cases hk : kEq .i64 kk with
      | false => simp [hk] at hx
      | true =>
      simp only [hk] at hx
      obtain rfl := kEq_true hk
      cases hb : asBool z with
      | none => simp [hb] at hx
      | some nn =>
      simp only [hb] at hx
      cases hq : assoc h.cnt tab with
      | none => simp [hq] at hx
      | some p =>
      simp only [hq] at hx
      unfold yText2 at hx
      simp only [Option.some.injEq, Prod.mk.injEq] at hx
      have hz : z = .bool nn := by cases z <;> simp [asBool] at hb; rw [hb]
      have hxp : x = ptrV b 0 := asPtr_some hp
      exact ⟨b, S, a, nn, p, by rw [hxp], Nat.le_of_ble_eq_true hbb, rfl, by rw [ho, asStr_some hs, hz]; rfl, hx.1.symm, hx.2.symm⟩
  | _ => simp [ho] at hx
theorem Up.tick (h : AH) : Up h h.tick := by
  obtain ⟨t, n, log, sym, cnt, orc, ob⟩ := h
  exact ⟨rfl, rfl, rfl, rfl, id⟩
theorem look_some {b : Nat} {r : AR} {q : Value × AObj × List Nat × List Bool} (h : look b r = some q) : ∃ h1, r = some (q.1, h1) ∧ h1.obj b = q.2.1 ∧ h1.log = q.2.2.1 ∧ h1.ob = q.2.2.2 := by
  unfold look at h
  cases r with
  | none => simp at h
  | some p =>
    obtain ⟨v, h1⟩ := p
    simp at h
    subst h
    exact ⟨h1, rfl, rfl, rfl, rfl⟩
theorem hOneP_obj (o : AObj) (orc : List (Nat × Bool)) (x : Nat) : (hOneP o orc).obj x = if x = 12 then o else if x = 2 then .cells p10 264 20 2 else .dead := by
  rw [AH.obj_def]
  show (if x < 13 then objIn ((Tr.nil.set 2 (.cells p10 264 20 2)).set 12 o) x else .dead) = _
  rw [objIn_set, objIn_set]
  have : objIn (Tr.nil : Tr AObj) x = .dead := by unfold objIn; rw [Tr.get_nil]
  rw [this]
  by_cases h1 : x = 12
  · subst h1; simp
  · by_cases h2 : x = 2
    · subst h2; simp
    · simp [h1, h2]
def eOne (b x : Nat) : Option Nat := if x < 12 then some x else if x = 12 then some b else none
theorem eOne_some {b x c : Nat} (h : eOne b x = some c) : (x < 12 ∧ c = x) ∨ (x = 12 ∧ c = b) := by
  unfold eOne at h
  by_cases h1 : x < 12
  · rw [if_pos h1] at h; exact .inl ⟨h1, (Option.some.inj h).symm⟩
  · rw [if_neg h1] at h
    by_cases h2 : x = 12
    · rw [if_pos h2] at h; exact .inr ⟨h2, (Option.some.inj h).symm⟩
    · rw [if_neg h2] at h; cases h
theorem rdO_flat (S : List UInt8) (a : Nat) : flatO (rdO S a) := fun v hv => by
  simp [rdO] at hv
  rcases hv with rfl | rfl | rfl <;> rfl
/-- text(), at a reader that lies at a block of its own. -/
theorem text_ok {S p R : List UInt8} {at_ b : Nat} {h h' : AH} {ρ : Ren} {w : World} {args' : List Value} (hD : S.drop at_ = partF p ++ R) (hp : p.length < 400) (hS : S.length ≤ 1099511627776)
    (ht : isTab p10 264 (h.obj 2) = true) (ho : h.obj b = rdO S at_) (hb12 : 12 ≤ b) (hh : h' = h.write b (rdO S (at_ + (partF p).length))) (hg : GL 12 ρ) (hr : Rel Tryz.prog.cellsOf ρ h w) (hl : LR ρ [ptrV b 0] args') :
    Ans Tryz.prog 97 args'.toArray w fun v w' => v = strV p ∧ Step Tryz.prog.cellsOf ρ h w ρ h' w' := by
  have hE : EnvF Tryz.prog (ET (itoaF p.length).length p.length) 12 := envT_ok fun x hx => by
    simp at hx
    rcases hx with rfl | rfl | rfl
    · exact xItoa_ok
    · exact xAtoiN_ok _
    · exact xIdxK_ok _
  have hbn : b < h.n := lt_of_obj ho (by simp [rdO])
  have main : ∀ (bit hi : Nat) (hm1 : AH), ((hi = at_ + 8 ∧ bit = 1 ∧ at_ + 8 < S.length) ∨ (hi = S.length ∧ bit = 0 ∧ ¬ at_ + 8 < S.length)) →
      acall (ET (itoaF p.length).length p.length) 200 97 [ptrV 12 0] (hOneP (rdO S at_) (bits (bsT bit) 0)) = some (strV p, hm1) → hm1.obj 12 = rdO S (at_ + (partF p).length) → hm1.log = [12] → OB hm1 →
      Ans Tryz.prog 97 args'.toArray w fun v w' => v = strV p ∧ Step Tryz.prog.cellsOf ρ h w ρ h' w' := by
    intro bit hi hm1 hc hx h12 hlog hob
    have sub : Sub (eOne b) (hOneP (rdO S at_) (bits (bsT bit) 0)) h := by
      refine ⟨fun x c hx => ?_, fun x y c hx hy => ?_, fun x c hx => ?_, fun x hx => ?_⟩
      · show x < 13
        rcases eOne_some hx with ⟨h1, _⟩ | ⟨h1, _⟩ <;> omega
      · rcases eOne_some hx with ⟨h1, h2⟩ | ⟨h1, h2⟩ <;> rcases eOne_some hy with ⟨h3, h4⟩ | ⟨h3, h4⟩ <;> omega
      · rw [hOneP_obj]
        rcases eOne_some hx with ⟨h1, rfl⟩ | ⟨rfl, rfl⟩
        · rw [if_neg (by omega)]
          by_cases h2 : c = 2
          · subst h2
            rw [if_pos rfl]
            exact .inr ⟨lt_of_obj (isP10 ht) (by simp), isP10 ht⟩
          · rw [if_neg h2]; exact .inl rfl
        · rw [if_pos rfl]
          exact .inr ⟨hbn, ho⟩
      · rw [hOneP_obj]
        by_cases h1 : x = 12
        · rw [if_pos h1]; exact rdO_flat _ _
        · rw [if_neg h1]
          by_cases h2 : x = 2
          · rw [if_pos h2]; exact p10_flat
          · rw [if_neg h2]; trivial
    have hargs : LR (fun x => (eOne b x).bind ρ) [ptrV 12 0] args' := by
      cases hl with
      | cons h1 h2 =>
        cases h2
        refine .cons ?_ .nil
        cases h1 with
        | ptr ha =>
          obtain ⟨a1, a2, im, a3, a4, a5⟩ := ha
          exact .ptr ⟨rfl, a2, im, by simp [eOne]; exact a3, a4, a5⟩
    refine local_ok hE hx hob sub (fun g hlt => by unfold eOne; rw [if_pos hlt]) hg hr hargs (strV_flat _) ?_
    subst hh
    refine ⟨rfl, fun c hc hno => ?_, fun x c hx hex => ?_, fun c => ?_, rfl⟩
    · refine write_obj_other h _ fun e => ?_
      subst e
      exact hno 12 (by rw [hlog]; simp) (by simp [eOne])
    · rw [hlog] at hx
      simp at hx
      subst hx
      have : c = b := by simpa [eOne] using hex.symm
      subst this
      rw [write_obj_same h _ hbn, h12]
      exact ⟨rfl, rdO_flat _ _, by rw [hOneP_obj, if_pos rfl]; simp [rdO]⟩
    · rw [write_log, mem_addLog, hlog]
      constructor
      · rintro (rfl | hc)
        · exact .inr ⟨12, by simp, by simp [eOne]⟩
        · exact .inl hc
      · rintro (hc | ⟨x, hx, hex⟩)
        · exact .inr hc
        · simp at hx
          subst hx
          left
          simpa [eOne] using hex.symm
  by_cases hc : at_ + 8 < S.length
  · obtain ⟨k1, k2, k3⟩ := text_facts (hi := at_ + 8) (b := 1) hD hp hS (.inl ⟨rfl, rfl, hc⟩)
    obtain ⟨hm1, q1, q2, q3, q4⟩ := look_some (textRun1 S at_ (itoaF p.length).length p.length)
    refine main 1 (at_ + 8) hm1 (.inl ⟨rfl, rfl, hc⟩) ?_ ?_ q3 (fun x hx => k1 x (by rw [q4] at hx; exact hx))
    · rw [q1]; exact congrArg (fun l => some (strV l, hm1)) k2
    · rw [q2]; exact congrArg (rdO S) k3
  · obtain ⟨k1, k2, k3⟩ := text_facts (hi := S.length) (b := 0) hD hp hS (.inr ⟨rfl, rfl, hc⟩)
    obtain ⟨hm1, q1, q2, q3, q4⟩ := look_some (textRun0 S at_ (itoaF p.length).length p.length)
    rw [len_eq] at q1 q2 q4
    refine main 0 S.length hm1 (.inr ⟨rfl, rfl, hc⟩) ?_ ?_ q3 (fun x hx => k1 x (by rw [q4] at hx; exact hx))
    · rw [q1]; exact congrArg (fun l => some (strV l, hm1)) k2
    · rw [q2]; exact congrArg (rdO S) k3
theorem yText_ok (tab : List (Nat × List UInt8)) : ExtOK Tryz.prog 12 97 (yText tab) where
  fwd := fun args h r h1 hx => by
    obtain ⟨b, S, a, nn, p, _, _, _, _, _, rfl⟩ := yText_some hx
    exact (((((Up.tick h).trans (Up.owe _ _)).trans (Up.owe _ _)).trans (Up.owe _ _)).trans (Up.owe _ _)).fwd.trans (.write _ _ _)
  run := fun args h r h1 hx hob ρ w args' hg hr hf hl => by
    obtain ⟨b, S, a, nn, p, rfl, hb12, ht, ho, rfl, rfl⟩ := yText_some hx
    have u := ((((Up.tick h).trans (Up.owe _ (beqB nn false))).trans (Up.owe _ (bytesEq (List.take (len (partF p)) (List.drop a S)) (partF p)))).trans (Up.owe _ (Nat.blt (len p) 400))).trans (Up.owe _ (Nat.ble (len S) 1099511627776))
    have hob' : OB ((((h.tick.owe (beqB nn false)).owe (bytesEq (List.take (len (partF p)) (List.drop a S)) (partF p))).owe (Nat.blt (len p) 400)).owe (Nat.ble (len S) 1099511627776)) := hob
    obtain ⟨q1, b4⟩ := ob_owe hob'
    obtain ⟨q2, b3⟩ := ob_owe q1
    obtain ⟨q3, b2⟩ := ob_owe q2
    obtain ⟨q4, b1⟩ := ob_owe q3
    have hnn : nn = false := beqB_true b1
    subst hnn
    rw [ble_eq, len_eq] at b4
    rw [blt_eq, len_eq] at b3
    rw [bytesEq_eq, len_eq] at b2
    have b4 : S.length ≤ 1099511627776 := by simpa using b4
    have b3 : p.length < 400 := by simpa using b3
    have b2 : List.take (partF p).length (List.drop a S) = partF p := by simpa using b2
    have hD : S.drop a = partF p ++ (S.drop a).drop (partF p).length := by
      have := List.take_append_drop (partF p).length (S.drop a)
      rw [b2] at this; exact this.symm
    · refine Ans.mono (text_ok (h' := h.write b (rdO S (a + (partF p).length))) hD b3 b4 ht ho hb12 rfl hg hr hl) fun v w' hq => ?_
      obtain ⟨rfl, st⟩ := hq
      refine ⟨ρ, strV_flat _ |> flat_VR ρ 5 _, ?_⟩
      rw [len_eq]
      have hf2 : Fr ρ h.n ((((h.tick.owe (beqB false false)).owe (bytesEq (List.take (len (partF p)) (List.drop a S)) (partF p))).owe (Nat.blt (len p) 400)).owe (Nat.ble (len S) 1099511627776)).n := fun x h1 h2 => by rw [u.n] at h2; omega
      exact Step.trans hf st (.same st.rel (u.write _ _).t (u.write _ _).n (u.write _ _).log rfl (Str.refl _))
end Go.Proofs.YtkmbkejmfffafaaGreatDoor.Refl
/- The second reading: a script's parts, one behind the other. -/
namespace Go.Proofs.YtkmbkejmfffafaaGreatDoor.Refl
open Go Go.RowKit
set_option linter.unusedVariables false
set_option linter.unusedSimpArgs false
set_option maxRecDepth 100000

noncomputable def sP (l : List (List UInt8)) (k : Nat) : List UInt8 := List.foldl (fun a p => app a (partF p)) [] (List.take k l)
noncomputable def nP (l : List (List UInt8)) (k : Nat) : Nat := List.foldl (fun a p => Nat.add a (len (partF p))) 0 (List.take k l)
theorem foldS : ∀ (l : List (List UInt8)) (a : List UInt8), List.foldl (fun a p => app a (partF p)) a l = a ++ (l.map partF).flatten
  | [], a => by simp
  | p :: l, a => by rw [List.foldl_cons, foldS l, app_eq]; simp
theorem foldN : ∀ (l : List (List UInt8)) (a : Nat), List.foldl (fun a p => Nat.add a (len (partF p))) a l = a + ((l.map partF).flatten).length
  | [], a => by simp
  | p :: l, a => by
    rw [List.foldl_cons, foldN l, len_eq]
    show a + (partF p).length + _ = _
    simp; omega
theorem sP_eq (l : List (List UInt8)) (k : Nat) : sP l k = ((l.take k).map partF).flatten := by unfold sP; rw [foldS]; simp
theorem nP_eq (l : List (List UInt8)) (k : Nat) : nP l k = (sP l k).length := by unfold nP; rw [foldN, sP_eq]; simp
theorem partF_len {p : List UInt8} (h : p.length < 400) : 3 ≤ (partF p).length ∧ (partF p).length ≤ 404 := by
  obtain ⟨h1, h2, _⟩ := itoa_nice h
  rw [partF_eq]
  simp
  omega
theorem flat_len : ∀ (l : List (List UInt8)), (∀ p ∈ l, p.length < 400) → ((l.map partF).flatten).length ≤ 404 * l.length
  | [], _ => by simp
  | p :: l, h => by
    have h1 := flat_len l fun q hq => h q (by simp [hq])
    have h2 := (partF_len (h p (by simp))).2
    simp only [List.map_cons, List.flatten_cons, List.length_append, List.length_cons]
    omega
theorem nP_le {l : List (List UInt8)} (h : ∀ p ∈ l, p.length < 400) (k : Nat) : nP l k ≤ 404 * l.length := by
  rw [nP_eq, sP_eq]
  have := flat_len (l.take k) fun p hp => h p (List.mem_of_mem_take hp)
  have h2 : (l.take k).length ≤ l.length := by simp; omega
  omega
theorem nP_pos {l : List (List UInt8)} (h : ∀ p ∈ l, p.length < 400) {k : Nat} (hk : 0 < k) (hl : l ≠ []) : 0 < nP l k := by
  rw [nP_eq, sP_eq]
  cases l with
  | nil => exact absurd rfl hl
  | cons p l =>
    cases k with
    | zero => omega
    | succ k =>
      have := (partF_len (h p (by simp))).1
      simp only [List.take_succ_cons, List.map_cons, List.flatten_cons, List.length_append]
      omega
/-- A part stands where those ahead of it end. -/
theorem part_at {l : List (List UInt8)} {k n : Nat} {p : List UInt8} (hp : l[k]? = some p) (hn : l.length ≤ n) : List.take (len (partF p)) (List.drop (nP l k) (sP l n)) = partF p := by
  have hlt : k < l.length := (List.getElem?_eq_some_iff.1 hp).1
  have e : l = l.take k ++ p :: l.drop (k + 1) := by
    have := List.take_append_drop k l
    rw [List.drop_eq_getElem_cons hlt] at this
    rw [(List.getElem?_eq_some_iff.1 hp).2] at this
    exact this.symm
  have e2 : sP l n = ((l.take k).map partF).flatten ++ (partF p ++ ((l.drop (k + 1)).map partF).flatten) := by
    rw [sP_eq, List.take_of_length_le hn]
    conv => lhs; rw [e]
    simp
  rw [nP_eq, sP_eq l k, e2, len_eq, List.drop_left, List.take_left]
end Go.Proofs.YtkmbkejmfffafaaGreatDoor.Refl
