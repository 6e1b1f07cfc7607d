/- Texts joined by this session's own program, part 6. -/
import Derived.Test.YtkmbkejmfffafaaGreatDoorQ5
import Derived.Lib.LaidTab
import Derived.Stop.Joined
set_option linter.unusedSectionVars false
set_option linter.unusedVariables false
set_option linter.unusedSimpArgs false
namespace Go.Proofs.YtkmbkejmfffafaaGreatDoor.Refl
open Go Go.RowKit
set_option linter.unusedVariables false
set_option linter.unusedSimpArgs false
set_option maxRecDepth 100000
noncomputable def hOneP (o : AObj) (orc : List (Nat × Bool)) : AH := { t := (Tr.nil.set 2 (.cells p10 264 20 2)).set 12 o, n := 13, log := [], sym := true, cnt := 0, orc := orc, ob := [] }
noncomputable def look (b : Nat) (r : AR) : Option (Value × AObj × List Nat × List Bool) := match r with
  | some q => match q with
    | (v, h) => some (v, h.obj b, h.log, h.ob)
  | none => none
def bsT (x : Nat) : List Nat := [x,1,1,1,0,0,1,1,1,1,1,1,1,1,1,1,1,1,1,1,1,0,1,1,0,1,1,1,1,1,1,1,1,1,0,1,1,1,1,1,1,1,1,1,0,0]
noncomputable def ET (k n : Nat) : Env := envT [(18, xItoa), (181, xAtoiN n), (214, xIdxK k)]
noncomputable def wT (S : List UInt8) (at_ hi : Nat) : List UInt8 := List.take (hi.sub at_) (List.drop at_ S)
noncomputable def dT (k : Nat) (W : List UInt8) : List UInt8 := List.take k W
noncomputable def frT (at_ : Nat) (D : List UInt8) : Nat := (at_.add (len D)).add 1
noncomputable def obT (S W D : List UInt8) (at_ k n b hi F E : Nat) : List Bool :=
  [F.ble E,
   E.ble (len S),
   E.ble 9223372036854775807,
   (E.add 1).ble 9223372036854775807,
   E.ble 9223372036854775807,
   beqB (Nat.beq 0 1) !iEq (Int.ofNat (nthD S E).toNat) 44,
   beqB (Nat.beq 0 1) !iLt (Int.ofNat E) (Int.ofNat (len S)),
   beqB (Nat.beq 1 1) (beqB (!iLt (Int.ofNat E) (Int.ofNat (len S))) false),
   E.blt (len S),
   beqB (Nat.beq 1 1) (beqB (!iLt (Int.ofNat E) (Int.ofNat (len S))) false),
   E.ble 9223372036854775807,
   beqB (Nat.beq 1 1) (beqB (!iLt (Int.ofNat E) (Int.ofNat (len S))) false),
   beqB (Nat.beq 1 1) (beqB (!iLt (Int.ofNat E) (Int.ofNat (len S))) false),
   beqB (Nat.beq 1 1) (beqB (!iLt (Int.ofNat E) (Int.ofNat (len S))) false),
   beqB (Nat.beq 1 1) (beqB (!iLt (Int.ofNat E) (Int.ofNat (len S))) false),
   beqB (Nat.beq 1 1) (beqB (!iLt (Int.ofNat E) (Int.ofNat (len S))) false),
   beqB (Nat.beq 1 1) (beqB (!iLt (Int.ofNat E) (Int.ofNat (len S))) false),
   beqB (Nat.beq 1 1) (beqB (!iLt (Int.ofNat E) (Int.ofNat (len S))) false),
   beqB (Nat.beq 0 1) !bytesEq (itoaF n) D,
   beqB (Nat.beq 1 1) (beqB (!bytesEq (itoaF n) D) false),
   beqB (Nat.beq 1 1) (beqB (!bytesEq (itoaF n) D) false),
   beqB (Nat.beq 1 1) (beqB (!bytesEq (itoaF n) D) false),
   beqB (Nat.beq 1 1) (beqB (!bytesEq (itoaF n) D) false),
   beqB (Nat.beq 1 1) (beqB (!bytesEq (itoaF n) D) false),
   beqB (Nat.beq 1 1) (beqB (!bytesEq (itoaF n) D) false),
   E.ble 9223372036854775807,
   beqB (Nat.beq 1 1) (beqB (!bytesEq (itoaF n) D) false),
   beqB (Nat.beq 1 1) (beqB (!bytesEq (itoaF n) D) false),
   beqB (Nat.beq 1 1) (beqB (!bytesEq (itoaF n) D) false),
   true,
   true,
   true,
   true,
   true,
   true,
   F.ble 9223372036854775807,
   (at_.add (len D)).ble 9223372036854775807,
   beqB (Nat.beq 1 1) !iLt 262144 (Int.ofNat n),
   beqB (Nat.beq 1 1) (beqB (!iLt 262144 (Int.ofNat n)) true),
   beqB (Nat.beq 1 1) (beqB (!iLt 262144 (Int.ofNat n)) true),
   n.blt 400,
   beqB (Nat.beq 1 1) (beqB (!iLt 262144 (Int.ofNat n)) true),
   beqB (Nat.beq 1 1) (beqB (!iLt 262144 (Int.ofNat n)) true),
   true,
   true,
   true,
   true,
   true,
   true,
   n.blt 400,
   bytesEq D (itoaF n),
   (k.add (len [58])).ble (len W),
   (len W).ble (len W),
   (k.add (len [58])).ble 9223372036854775807,
   true,
   k.ble (len W),
   true,
   optBeq (findByte 58 W 0) k,
   true,
   true,
   beqB (Nat.beq 0 1) (bytesEq [58] W),
   true,
   true,
   true,
   true,
   at_.ble hi,
   hi.ble (len S),
   beqB (Nat.beq b 1) ((at_.add 8).blt (len S)),
   (at_.add 8).ble 9223372036854775807]
noncomputable def rdO (S : List UInt8) (a : Nat) : AObj := .cells [strV S, intV a, .bool false] 141 0 0
theorem textRun1 (S : List UInt8) (at_ k n : Nat) : look 12 (acall (ET k n) 200 97 [ptrV 12 0] (hOneP (rdO S at_) (bits (bsT 1) 0))) =
    some (strV (List.take (((frT at_ (dT k (wT S at_ (at_.add 8)))).add n).sub (frT at_ (dT k (wT S at_ (at_.add 8))))) (List.drop (frT at_ (dT k (wT S at_ (at_.add 8)))) S)),
      rdO S (((frT at_ (dT k (wT S at_ (at_.add 8)))).add n).add 1), [12],
      obT S (wT S at_ (at_.add 8)) (dT k (wT S at_ (at_.add 8))) at_ k n 1 (at_.add 8) (frT at_ (dT k (wT S at_ (at_.add 8)))) ((frT at_ (dT k (wT S at_ (at_.add 8)))).add n)) := by kernel_rfl
theorem textRun0 (S : List UInt8) (at_ k n : Nat) : look 12 (acall (ET k n) 200 97 [ptrV 12 0] (hOneP (rdO S at_) (bits (bsT 0) 0))) =
    some (strV (List.take (((frT at_ (dT k (wT S at_ (len S)))).add n).sub (frT at_ (dT k (wT S at_ (len S))))) (List.drop (frT at_ (dT k (wT S at_ (len S)))) S)),
      rdO S (((frT at_ (dT k (wT S at_ (len S)))).add n).add 1), [12],
      obT S (wT S at_ (len S)) (dT k (wT S at_ (len S))) at_ k n 0 (len S) (frT at_ (dT k (wT S at_ (len S)))) ((frT at_ (dT k (wT S at_ (len S)))).add n)) := by kernel_rfl
theorem obT_all {S W D : List UInt8} {at_ k n b hi F E : Nat} (a0 : Nat.ble (Nat.add at_ 8) 9223372036854775807 = true) (a1 : beqB (Nat.beq b 1) (Nat.blt (Nat.add at_ 8) (len S)) = true) (a2 : Nat.ble hi (len S) = true) (a3 : Nat.ble at_ hi = true)
    (a8 : bytesEq [58] W = false) (a11 : optBeq (findByte 58 W 0) k = true) (a13 : Nat.ble k (len W) = true) (a15 : Nat.ble (Nat.add k (len [58])) 9223372036854775807 = true) (a16 : Nat.ble (len W) (len W) = true) (a17 : Nat.ble (Nat.add k (len [58])) (len W) = true)
    (a18 : bytesEq D (itoaF n) = true) (a40 : bytesEq (itoaF n) D = true) (a19 : Nat.blt n 400 = true) (a26 : iLt 262144 (Int.ofNat n) = false) (a32 : Nat.ble (Nat.add at_ (len D)) 9223372036854775807 = true) (a33 : Nat.ble F 9223372036854775807 = true)
    (a43 : Nat.ble E 9223372036854775807 = true) (a51 : iLt (Int.ofNat E) (Int.ofNat (len S)) = true) (a60 : Nat.blt E (len S) = true) (a63 : iEq (Int.ofNat (nthD S E).toNat) 44 = true) (a65 : Nat.ble (Nat.add E 1) 9223372036854775807 = true)
    (a67 : Nat.ble E (len S) = true) (a68 : Nat.ble F E = true) : ∀ x ∈ obT S W D at_ k n b hi F E, x = true := by
  intro x hx
  unfold obT at hx
  simp only [List.mem_cons, List.not_mem_nil, or_false] at hx
  rcases hx with hx | hx | hx | hx | hx | hx | hx | hx | hx | hx | hx | hx | hx | hx | hx | hx | hx | hx | hx | hx | hx | hx | hx | hx | hx | hx | hx | hx | hx | hx | hx | hx | hx | hx | hx | hx | hx | hx | hx | hx | hx | hx | hx | hx | hx | hx | hx | hx | hx | hx | hx | hx | hx | hx | hx | hx | hx | hx | hx | hx | hx | hx | hx | hx | hx | hx | hx | hx | hx
  all_goals (subst hx; first | rfl | assumption | (rw [a8]; rfl) | (rw [a26]; rfl) | (rw [a40]; rfl) | (rw [a51]; rfl) | (rw [a63]; rfl))
end Go.Proofs.YtkmbkejmfffafaaGreatDoor.Refl
namespace Go.Proofs.YtkmbkejmfffafaaGreatDoor.Refl
open Go Go.RowKit
set_option linter.unusedVariables false
set_option linter.unusedSimpArgs false
set_option maxRecDepth 100000
noncomputable def itoaNice (n : Nat) : Bool := match Nat.ble (len (itoaF n)) 3 with
  | false => false
  | true => match Nat.ble 1 (len (itoaF n)) with
    | false => false
    | true => allB (fun b => !Nat.beq b.toNat 58) (itoaF n)
theorem itoaNiceAll : allB itoaNice (upTo 400 []) = true := by kernel_rfl
theorem itoa_nice {n : Nat} (h : n < 400) : (itoaF n).length ≤ 3 ∧ 1 ≤ (itoaF n).length ∧ ∀ b ∈ itoaF n, b.toNat ≠ 58 := by
  have hk := (allB_eq _ _).1 itoaNiceAll n ((upTo_mem 400 [] n).2 (.inl h))
  unfold itoaNice at hk
  rw [len_eq] at hk
  cases h1 : Nat.ble (itoaF n).length 3 with
  | false => simp [h1] at hk
  | true =>
  simp only [h1] at hk
  cases h2 : Nat.ble 1 (itoaF n).length with
  | false => simp [h2] at hk
  | true =>
  simp only [h2] at hk
  refine ⟨Nat.le_of_ble_eq_true h1, Nat.le_of_ble_eq_true h2, fun b hb => ?_⟩
  have := (allB_eq _ _).1 hk b hb
  rw [bq] at this
  simpa using this
theorem findByte_at {c : UInt8} : ∀ (l r : List UInt8) (i : Nat), (∀ b ∈ l, b.toNat ≠ c.toNat) → findByte c (l ++ c :: r) i = some (i + l.length)
  | [], r, i, _ => by
    show (match Nat.beq c.toNat c.toNat with | true => some i | false => findByte c r (i + 1)) = _
    rw [bq]; simp
  | b :: l, r, i, h => by
    show (match Nat.beq b.toNat c.toNat with | true => some i | false => findByte c (l ++ c :: r) (i + 1)) = _
    rw [bq]
    have hb : b.toNat ≠ c.toNat := h b (by simp)
    simp only [hb, decide_false]
    rw [findByte_at l r (i + 1) fun x hx => h x (by simp [hx])]
    simp; omega
theorem partF_eq (p : List UInt8) : partF p = itoaF p.length ++ 58 :: (p ++ [44]) := by
  unfold partF
  simp [app_eq, len_eq]
theorem text_facts {S p R : List UInt8} {at_ hi b : Nat} (hD : S.drop at_ = partF p ++ R) (hp : p.length < 400) (hS : S.length ≤ 1099511627776)
    (hh : (hi = at_ + 8 ∧ b = 1 ∧ at_ + 8 < S.length) ∨ (hi = S.length ∧ b = 0 ∧ ¬ at_ + 8 < S.length)) :
    let k := (itoaF p.length).length
    let W := wT S at_ hi
    let D := dT k W
    let F := frT at_ D
    let E := F.add p.length
    (∀ x ∈ obT S W D at_ k p.length b hi F E, x = true) ∧ List.take (E.sub F) (List.drop F S) = p ∧ E.add 1 = at_ + (partF p).length := by
  intro k W D F E
  obtain ⟨n1, n2, n3⟩ := itoa_nice hp
  have hk : k = (itoaF p.length).length := rfl
  rw [← hk] at n1 n2
  have hP : S.drop at_ = itoaF p.length ++ 58 :: (p ++ 44 :: R) := by rw [hD, partF_eq]; simp
  have hlen : S.length - at_ = k + 1 + (p.length + (1 + R.length)) := by
    have := congrArg List.length hP
    simp at this
    omega
  have hpl : (partF p).length = k + 1 + (p.length + 1) := by rw [partF_eq]; simp; omega
  have hw : W = itoaF p.length ++ 58 :: List.take (hi - at_ - k - 1) (p ++ 44 :: R) := by
    show List.take (hi - at_) (S.drop at_) = _
    rw [hP, List.take_append, List.take_of_length_le (by omega)]
    congr 1
    have : hi - at_ - (itoaF p.length).length = (hi - at_ - k - 1) + 1 := by omega
    rw [this, List.take_succ_cons]
    first | done | (congr 1)
  have hd : D = itoaF p.length := by
    show List.take k W = _
    rw [hw, List.take_append, List.take_of_length_le (by omega)]
    simp [hk]
  have hWl : k + 1 ≤ W.length := by rw [hw]; simp; omega
  have hF : F = at_ + k + 1 := by show at_ + len D + 1 = _; rw [len_eq, hd]
  have hE : E = at_ + k + 1 + p.length := by show F + p.length = _; rw [hF]
  have hEl : E < S.length := by omega
  have hat : at_ ≤ S.length := by omega
  have hget : S[E]? = some 44 := by
    have e1 : S[E]? = (S.drop at_)[E - at_]? := by rw [List.getElem?_drop]; congr 1; omega
    rw [e1, hP, List.getElem?_append_right (by omega)]
    have e2 : E - at_ - (itoaF p.length).length = p.length + 1 := by omega
    rw [e2, List.getElem?_cons_succ, List.getElem?_append_right (by omega)]
    simp
  have hnth : nthD S E = 44 := by unfold nthD; rw [nth_eq, hget]
  refine ⟨obT_all ?_ ?_ ?_ ?_ ?_ ?_ ?_ ?_ ?_ ?_ ?_ ?_ ?_ ?_ ?_ ?_ ?_ ?_ ?_ ?_ ?_ ?_ ?_, ?_, ?_⟩
  · rw [ble_eq]; exact decide_eq_true (show at_ + 8 ≤ 9223372036854775807 by omega)
  · rw [blt_eq, len_eq]
    show beqB (Nat.beq b 1) (decide (at_ + 8 < S.length)) = true
    rcases hh with ⟨_, rfl, h3⟩ | ⟨_, rfl, h3⟩
    · simp [h3, beqB]
    · simp [h3, beqB]
  · rw [ble_eq, len_eq]; simp; omega
  · rw [ble_eq]; simp; omega
  · rw [bytesEq_eq]
    have : [58] ≠ W := fun e => by rw [← e] at hWl; simp at hWl; omega
    simp [this]
  · have : findByte 58 W 0 = some k := by
      rw [hw, findByte_at (c := 58) _ _ _ (fun b hb => n3 b hb)]
      simp [hk]
    rw [this]
    show Nat.beq k k = true
    rw [bq]; simp
  · rw [ble_eq, len_eq]; simp; omega
  · rw [ble_eq]; exact decide_eq_true (show k + 1 ≤ 9223372036854775807 by omega)
  · rw [ble_eq]; simp
  · rw [ble_eq, len_eq, len_eq]; exact decide_eq_true (show k + 1 ≤ W.length by omega)
  · rw [bytesEq_eq, hd]; simp
  · rw [bytesEq_eq, hd]; simp
  · rw [blt_eq]; simp [hp]
  · rw [iLt_eq]; simp; omega
  · rw [ble_eq, len_eq, hd]; exact decide_eq_true (show at_ + k ≤ 9223372036854775807 by omega)
  · rw [ble_eq]; simp; omega
  · rw [ble_eq]; simp; omega
  · rw [iLt_eq, len_eq]; simp; omega
  · rw [blt_eq, len_eq]; simp [hEl]
  · rw [hnth, iEq_eq]; rfl
  · rw [ble_eq]; exact decide_eq_true (show E + 1 ≤ 9223372036854775807 by omega)
  · rw [ble_eq, len_eq]; simp; omega
  · rw [ble_eq]; simp; omega
  · have e1 : E.sub F = p.length := by show E - F = _; omega
    have e2 : S.drop F = p ++ 44 :: R := by
      have : S.drop F = (S.drop at_).drop (k + 1) := by rw [List.drop_drop]; (congr 1 <;> omega)
      rw [this, hP, List.drop_append]
      have e3 : k + 1 - (itoaF p.length).length = 1 := by omega
      rw [e3, List.drop_of_length_le (by omega)]
      first | done | simp
    rw [e1, e2]; simp
  · show E + 1 = _; omega
noncomputable def yText2 (p : List UInt8) (b : Nat) (s : List UInt8) (at_ : Nat) (nn : Bool) (h : AH) : AR :=
  some (strV p, (((((h.tick).owe (beqB nn false)).owe (bytesEq (List.take (len (partF p)) (List.drop at_ s)) (partF p))).owe (Nat.blt (len p) 400)).owe (Nat.ble (len s) 1099511627776)).write b (rdO s (Nat.add at_ (len (partF p)))))
noncomputable def yText1 (tab : List (Nat × List UInt8)) (b : Nat) (cs : List Value) (h : AH) : AR := match cs with
  | [x, y, z] => match asStr x with
    | none => none
    | some s => match asNat y with
      | none => none
      | some a => match kEq .i64 (match asInt y with | some i => i.k | none => .u8) with
        | false => none
        | true => match asBool z with
          | none => none
          | some nn => match assoc h.cnt tab with
            | none => none
            | some p => yText2 p b s a nn h
  | _ => none
noncomputable def yText3 (tab : List (Nat × List UInt8)) (b : Nat) (o : AObj) (h : AH) : AR := match o with
  | .cells cs e fz kd => match Nat.beq e 141 with
    | false => none
    | true => match Nat.beq fz 0 with
      | false => none
      | true => match Nat.beq kd 0 with
        | false => none
        | true => yText1 tab b cs h
  | _ => none
noncomputable def yText (tab : List (Nat × List UInt8)) : XF := x1 fun x h => match asPtr x with
  | none => none
  | some p => match p with
    | ⟨b, off⟩ => match Nat.beq off 0 with
      | false => none
      | true => match isTab p10 264 (h.obj 2) with
        | false => none
        | true => match Nat.ble 12 b with
          | false => none
          | true => yText3 tab b (h.obj b) h
theorem yText_some {tab : List (Nat × List UInt8)} {args : List Value} {h h1 : AH} {r : Value} (hx : yText tab args h = some (r, h1)) :
    ∃ b S a nn p, args = [ptrV b 0] ∧ 12 ≤ b ∧ isTab p10 264 (h.obj 2) = true ∧ h.obj b = .cells [strV S, intV a, .bool nn] 141 0 0 ∧ r = strV p ∧
      h1 = (((((h.tick).owe (beqB nn false)).owe (bytesEq (List.take (len (partF p)) (List.drop a S)) (partF p))).owe (Nat.blt (len p) 400)).owe (Nat.ble (len S) 1099511627776)).write b (rdO S (Nat.add a (len (partF p)))) := by
  obtain ⟨x, rfl, hx'⟩ := y1_some hx
  clear hx
  have hx := hx'
  clear hx'
  cases hp : asPtr x with
  | none => simp [hp] at hx
  | some q =>
  obtain ⟨b, off⟩ := q
  simp only [hp] at hx
  cases h0 : Nat.beq off 0 with
  | false => simp [h0] at hx
  | true =>
  simp only [h0] at hx
  obtain rfl := Nat.eq_of_beq_eq_true h0
  cases ht : isTab p10 264 (h.obj 2) with
  | false => simp [ht] at hx
  | true =>
  simp only [ht] at hx
  cases hbb : Nat.ble 12 b with
  | false => simp [hbb] at hx
  | true =>
  simp only [hbb] at hx
  unfold yText3 at hx
  cases ho : h.obj b with
  | cells cs e fz kd =>
    simp only [ho] at hx
    cases g1 : Nat.beq e 141 with
    | false => simp [g1] at hx
    | true =>
    simp only [g1] at hx
    cases g2 : Nat.beq fz 0 with
    | false => simp [g2] at hx
    | true =>
    simp only [g2] at hx
    cases g3 : Nat.beq kd 0 with
    | false => simp [g3] at hx
    | true =>
    simp only [g3] at hx
    obtain rfl := Nat.eq_of_beq_eq_true g1
    obtain rfl := Nat.eq_of_beq_eq_true g2
    obtain rfl := Nat.eq_of_beq_eq_true g3
    unfold yText1 at hx
    match cs, hx, ho with
    | [], hx, _ => simp at hx
    | [_], hx, _ => simp at hx
    | [_, _], hx, _ => simp at hx
    | _ :: _ :: _ :: _ :: _, hx, _ => simp at hx
    | [u, y, z], hx, ho =>
      simp only at hx
      cases hs : asStr u with
      | none => simp [hs] at hx
      | some S =>
      simp only [hs] at hx
      cases hn : asNat y with
      | none => simp [hn] at hx
      | some a =>
      simp only [hn] at hx
      obtain ⟨kk, rfl⟩ := asNat_some hn
      have hai : asInt (.int kk (a : Int)) = some ⟨kk, a⟩ := rfl
      rw [hai] at hx
      simp only at hx
      cases hk : kEq .i64 kk with
      | false => simp [hk] at hx
      | true =>
      simp only [hk] at hx
      obtain rfl := kEq_true hk
      cases hb : asBool z with
      | none => simp [hb] at hx
      | some nn =>
      simp only [hb] at hx
      cases hq : assoc h.cnt tab with
      | none => simp [hq] at hx
      | some p =>
      simp only [hq] at hx
      unfold yText2 at hx
      simp only [Option.some.injEq, Prod.mk.injEq] at hx
      have hz : z = .bool nn := by cases z <;> simp [asBool] at hb; rw [hb]
      have hxp : x = ptrV b 0 := asPtr_some hp
      exact ⟨b, S, a, nn, p, by rw [hxp], Nat.le_of_ble_eq_true hbb, rfl, by rw [ho, asStr_some hs, hz]; rfl, hx.1.symm, hx.2.symm⟩
  | _ => simp [ho] at hx
theorem Up.tick (h : AH) : Up h h.tick := by
  obtain ⟨t, n, log, sym, cnt, orc, ob⟩ := h
  exact ⟨rfl, rfl, rfl, rfl, id⟩
theorem look_some {b : Nat} {r : AR} {q : Value × AObj × List Nat × List Bool} (h : look b r = some q) : ∃ h1, r = some (q.1, h1) ∧ h1.obj b = q.2.1 ∧ h1.log = q.2.2.1 ∧ h1.ob = q.2.2.2 := by
  unfold look at h
  cases r with
  | none => simp at h
  | some p =>
    obtain ⟨v, h1⟩ := p
    simp at h
    subst h
    exact ⟨h1, rfl, rfl, rfl, rfl⟩
theorem hOneP_obj (o : AObj) (orc : List (Nat × Bool)) (x : Nat) : (hOneP o orc).obj x = if x = 12 then o else if x = 2 then .cells p10 264 20 2 else .dead := by
  rw [AH.obj_def]
  show (if x < 13 then objIn ((Tr.nil.set 2 (.cells p10 264 20 2)).set 12 o) x else .dead) = _
  rw [objIn_set, objIn_set]
  have : objIn (Tr.nil : Tr AObj) x = .dead := by unfold objIn; rw [Tr.get_nil]
  rw [this]
  by_cases h1 : x = 12
  · subst h1; simp
  · by_cases h2 : x = 2
    · subst h2; simp
    · simp [h1, h2]
def eOne (b x : Nat) : Option Nat := if x < 12 then some x else if x = 12 then some b else none
theorem eOne_some {b x c : Nat} (h : eOne b x = some c) : (x < 12 ∧ c = x) ∨ (x = 12 ∧ c = b) := by
  unfold eOne at h
  by_cases h1 : x < 12
  · rw [if_pos h1] at h; exact .inl ⟨h1, (Option.some.inj h).symm⟩
  · rw [if_neg h1] at h
    by_cases h2 : x = 12
    · rw [if_pos h2] at h; exact .inr ⟨h2, (Option.some.inj h).symm⟩
    · rw [if_neg h2] at h; cases h
theorem rdO_flat (S : List UInt8) (a : Nat) : flatO (rdO S a) := fun v hv => by
  simp [rdO] at hv
  rcases hv with rfl | rfl | rfl <;> rfl
theorem text_ok {S p R : List UInt8} {at_ b : Nat} {h h' : AH} {ρ : Ren} {w : World} {args' : List Value} (hD : S.drop at_ = partF p ++ R) (hp : p.length < 400) (hS : S.length ≤ 1099511627776)
    (ht : isTab p10 264 (h.obj 2) = true) (ho : h.obj b = rdO S at_) (hb12 : 12 ≤ b) (hh : h' = h.write b (rdO S (at_ + (partF p).length))) (hg : GL 12 ρ) (hr : Rel Tryz.prog.cellsOf ρ h w) (hl : LR ρ [ptrV b 0] args') :
    Ans Tryz.prog 97 args'.toArray w fun v w' => v = strV p ∧ Step Tryz.prog.cellsOf ρ h w ρ h' w' := by
  have hE : EnvF Tryz.prog (ET (itoaF p.length).length p.length) 12 := envT_ok fun x hx => by
    simp at hx
    rcases hx with rfl | rfl | rfl
    · exact xItoa_ok
    · exact xAtoiN_ok _
    · exact xIdxK_ok _
  have hbn : b < h.n := lt_of_obj ho (by simp [rdO])
  have main : ∀ (bit hi : Nat) (hm1 : AH), ((hi = at_ + 8 ∧ bit = 1 ∧ at_ + 8 < S.length) ∨ (hi = S.length ∧ bit = 0 ∧ ¬ at_ + 8 < S.length)) →
      acall (ET (itoaF p.length).length p.length) 200 97 [ptrV 12 0] (hOneP (rdO S at_) (bits (bsT bit) 0)) = some (strV p, hm1) → hm1.obj 12 = rdO S (at_ + (partF p).length) → hm1.log = [12] → OB hm1 →
      Ans Tryz.prog 97 args'.toArray w fun v w' => v = strV p ∧ Step Tryz.prog.cellsOf ρ h w ρ h' w' := by
    intro bit hi hm1 hc hx h12 hlog hob
    have sub : Sub (eOne b) (hOneP (rdO S at_) (bits (bsT bit) 0)) h := by
      refine ⟨fun x c hx => ?_, fun x y c hx hy => ?_, fun x c hx => ?_, fun x hx => ?_⟩
      · show x < 13
        rcases eOne_some hx with ⟨h1, _⟩ | ⟨h1, _⟩ <;> omega
      · rcases eOne_some hx with ⟨h1, h2⟩ | ⟨h1, h2⟩ <;> rcases eOne_some hy with ⟨h3, h4⟩ | ⟨h3, h4⟩ <;> omega
      · rw [hOneP_obj]
        rcases eOne_some hx with ⟨h1, rfl⟩ | ⟨rfl, rfl⟩
        · rw [if_neg (by omega)]
          by_cases h2 : c = 2
          · subst h2
            rw [if_pos rfl]
            exact .inr ⟨lt_of_obj (isP10 ht) (by simp), isP10 ht⟩
          · rw [if_neg h2]; exact .inl rfl
        · rw [if_pos rfl]
          exact .inr ⟨hbn, ho⟩
      · rw [hOneP_obj]
        by_cases h1 : x = 12
        · rw [if_pos h1]; exact rdO_flat _ _
        · rw [if_neg h1]
          by_cases h2 : x = 2
          · rw [if_pos h2]; exact p10_flat
          · rw [if_neg h2]; trivial
    have hargs : LR (fun x => (eOne b x).bind ρ) [ptrV 12 0] args' := by
      cases hl with
      | cons h1 h2 =>
        cases h2
        refine .cons ?_ .nil
        cases h1 with
        | ptr ha =>
          obtain ⟨a1, a2, im, a3, a4, a5⟩ := ha
          exact .ptr ⟨rfl, a2, im, by simp [eOne]; exact a3, a4, a5⟩
    refine local_ok hE hx hob sub (fun g hlt => by unfold eOne; rw [if_pos hlt]) hg hr hargs (strV_flat _) ?_
    subst hh
    refine ⟨rfl, fun c hc hno => ?_, fun x c hx hex => ?_, fun c => ?_, rfl⟩
    · refine write_obj_other h _ fun e => ?_
      subst e
      exact hno 12 (by rw [hlog]; simp) (by simp [eOne])
    · rw [hlog] at hx
      simp at hx
      subst hx
      have : c = b := by simpa [eOne] using hex.symm
      subst this
      rw [write_obj_same h _ hbn, h12]
      exact ⟨.inr ⟨rfl, rdO_flat _ _⟩, by rw [hOneP_obj, if_pos rfl]; simp [rdO]⟩
    · rw [write_log, mem_addLog, hlog]
      constructor
      · rintro (rfl | hc)
        · exact .inr ⟨12, by simp, by simp [eOne]⟩
        · exact .inl hc
      · rintro (hc | ⟨x, hx, hex⟩)
        · exact .inr hc
        · simp at hx
          subst hx
          left
          simpa [eOne] using hex.symm
  by_cases hc : at_ + 8 < S.length
  · obtain ⟨k1, k2, k3⟩ := text_facts (hi := at_ + 8) (b := 1) hD hp hS (.inl ⟨rfl, rfl, hc⟩)
    obtain ⟨hm1, q1, q2, q3, q4⟩ := look_some (textRun1 S at_ (itoaF p.length).length p.length)
    refine main 1 (at_ + 8) hm1 (.inl ⟨rfl, rfl, hc⟩) ?_ ?_ q3 (fun x hx => k1 x (by rw [q4] at hx; exact hx))
    · rw [q1]; exact congrArg (fun l => some (strV l, hm1)) k2
    · rw [q2]; exact congrArg (rdO S) k3
  · obtain ⟨k1, k2, k3⟩ := text_facts (hi := S.length) (b := 0) hD hp hS (.inr ⟨rfl, rfl, hc⟩)
    obtain ⟨hm1, q1, q2, q3, q4⟩ := look_some (textRun0 S at_ (itoaF p.length).length p.length)
    rw [len_eq] at q1 q2 q4
    refine main 0 S.length hm1 (.inr ⟨rfl, rfl, hc⟩) ?_ ?_ q3 (fun x hx => k1 x (by rw [q4] at hx; exact hx))
    · rw [q1]; exact congrArg (fun l => some (strV l, hm1)) k2
    · rw [q2]; exact congrArg (rdO S) k3
theorem yText_ok (tab : List (Nat × List UInt8)) : ExtOK Tryz.prog 12 97 (yText tab) where
  fwd := fun args h r h1 hx => by
    obtain ⟨b, S, a, nn, p, _, _, _, _, _, rfl⟩ := yText_some hx
    exact (((((Up.tick h).trans (Up.owe _ _)).trans (Up.owe _ _)).trans (Up.owe _ _)).trans (Up.owe _ _)).fwd.trans (.write _ _ _)
  run := fun args h r h1 hx hob ρ w args' hg hr hf hl => by
    obtain ⟨b, S, a, nn, p, rfl, hb12, ht, ho, rfl, rfl⟩ := yText_some hx
    have u := ((((Up.tick h).trans (Up.owe _ (beqB nn false))).trans (Up.owe _ (bytesEq (List.take (len (partF p)) (List.drop a S)) (partF p)))).trans (Up.owe _ (Nat.blt (len p) 400))).trans (Up.owe _ (Nat.ble (len S) 1099511627776))
    have hob' : OB ((((h.tick.owe (beqB nn false)).owe (bytesEq (List.take (len (partF p)) (List.drop a S)) (partF p))).owe (Nat.blt (len p) 400)).owe (Nat.ble (len S) 1099511627776)) := hob
    obtain ⟨q1, b4⟩ := ob_owe hob'
    obtain ⟨q2, b3⟩ := ob_owe q1
    obtain ⟨q3, b2⟩ := ob_owe q2
    obtain ⟨q4, b1⟩ := ob_owe q3
    have hnn : nn = false := beqB_true b1
    subst hnn
    rw [ble_eq, len_eq] at b4
    rw [blt_eq, len_eq] at b3
    rw [bytesEq_eq, len_eq] at b2
    have b4 : S.length ≤ 1099511627776 := by simpa using b4
    have b3 : p.length < 400 := by simpa using b3
    have b2 : List.take (partF p).length (List.drop a S) = partF p := by simpa using b2
    have hD : S.drop a = partF p ++ (S.drop a).drop (partF p).length := by
      have := List.take_append_drop (partF p).length (S.drop a)
      rw [b2] at this; exact this.symm
    · refine Ans.mono (text_ok (h' := h.write b (rdO S (a + (partF p).length))) hD b3 b4 ht ho hb12 rfl hg hr hl) fun v w' hq => ?_
      obtain ⟨rfl, st⟩ := hq
      refine ⟨ρ, strV_flat _ |> flat_VR ρ 5 _, ?_⟩
      rw [len_eq]
      have hf2 : Fr ρ h.n ((((h.tick.owe (beqB false false)).owe (bytesEq (List.take (len (partF p)) (List.drop a S)) (partF p))).owe (Nat.blt (len p) 400)).owe (Nat.ble (len S) 1099511627776)).n := fun x h1 h2 => by rw [u.n] at h2; omega
      exact Step.trans hf st (.same st.rel (u.write _ _).t (u.write _ _).n (u.write _ _).log rfl (Str.refl _))
end Go.Proofs.YtkmbkejmfffafaaGreatDoor.Refl
namespace Go.Proofs.YtkmbkejmfffafaaGreatDoor.Refl
open Go Go.RowKit
set_option linter.unusedVariables false
set_option linter.unusedSimpArgs false
set_option maxRecDepth 100000
noncomputable def sP (l : List (List UInt8)) (k : Nat) : List UInt8 := List.foldl (fun a p => app a (partF p)) [] (List.take k l)
noncomputable def nP (l : List (List UInt8)) (k : Nat) : Nat := List.foldl (fun a p => Nat.add a (len (partF p))) 0 (List.take k l)
theorem foldS : ∀ (l : List (List UInt8)) (a : List UInt8), List.foldl (fun a p => app a (partF p)) a l = a ++ (l.map partF).flatten
  | [], a => by simp
  | p :: l, a => by rw [List.foldl_cons, foldS l, app_eq]; simp
theorem foldN : ∀ (l : List (List UInt8)) (a : Nat), List.foldl (fun a p => Nat.add a (len (partF p))) a l = a + ((l.map partF).flatten).length
  | [], a => by simp
  | p :: l, a => by
    rw [List.foldl_cons, foldN l, len_eq]
    show a + (partF p).length + _ = _
    simp; omega
theorem sP_eq (l : List (List UInt8)) (k : Nat) : sP l k = ((l.take k).map partF).flatten := by unfold sP; rw [foldS]; simp
theorem nP_eq (l : List (List UInt8)) (k : Nat) : nP l k = (sP l k).length := by unfold nP; rw [foldN, sP_eq]; simp
theorem partF_len {p : List UInt8} (h : p.length < 400) : 3 ≤ (partF p).length ∧ (partF p).length ≤ 404 := by
  obtain ⟨h1, h2, _⟩ := itoa_nice h
  rw [partF_eq]
  simp
  omega
theorem flat_len : ∀ (l : List (List UInt8)), (∀ p ∈ l, p.length < 400) → ((l.map partF).flatten).length ≤ 404 * l.length
  | [], _ => by simp
  | p :: l, h => by
    have h1 := flat_len l fun q hq => h q (by simp [hq])
    have h2 := (partF_len (h p (by simp))).2
    simp only [List.map_cons, List.flatten_cons, List.length_append, List.length_cons]
    omega
theorem nP_le {l : List (List UInt8)} (h : ∀ p ∈ l, p.length < 400) (k : Nat) : nP l k ≤ 404 * l.length := by
  rw [nP_eq, sP_eq]
  have := flat_len (l.take k) fun p hp => h p (List.mem_of_mem_take hp)
  have h2 : (l.take k).length ≤ l.length := by simp; omega
  omega
theorem nP_pos {l : List (List UInt8)} (h : ∀ p ∈ l, p.length < 400) {k : Nat} (hk : 0 < k) (hl : l ≠ []) : 0 < nP l k := by
  rw [nP_eq, sP_eq]
  cases l with
  | nil => exact absurd rfl hl
  | cons p l =>
    cases k with
    | zero => omega
    | succ k =>
      have := (partF_len (h p (by simp))).1
      simp only [List.take_succ_cons, List.map_cons, List.flatten_cons, List.length_append]
      omega
theorem part_at {l : List (List UInt8)} {k n : Nat} {p : List UInt8} (hp : l[k]? = some p) (hn : l.length ≤ n) : List.take (len (partF p)) (List.drop (nP l k) (sP l n)) = partF p := by
  have hlt : k < l.length := (List.getElem?_eq_some_iff.1 hp).1
  have e : l = l.take k ++ p :: l.drop (k + 1) := by
    have := List.take_append_drop k l
    rw [List.drop_eq_getElem_cons hlt] at this
    rw [(List.getElem?_eq_some_iff.1 hp).2] at this
    exact this.symm
  have e2 : sP l n = ((l.take k).map partF).flatten ++ (partF p ++ ((l.drop (k + 1)).map partF).flatten) := by
    rw [sP_eq, List.take_of_length_le hn]
    conv => lhs; rw [e]
    simp
  rw [nP_eq, sP_eq l k, e2, len_eq, List.drop_left, List.take_left]
end Go.Proofs.YtkmbkejmfffafaaGreatDoor.Refl
namespace Go.Proofs.YtkmbkejmfffafaaGreatDoor.Refl
open Go Go.RowKit
set_option linter.unusedVariables false
set_option linter.unusedSimpArgs false
set_option maxRecDepth 1000000
noncomputable def srcA : List UInt8 := [97, 32, 61, 32, 60, 123, 32, 36, 120, 32, 125, 62]
def bsAA : List Nat := [0, 0, 0, 0, 1, 1]
noncomputable def tabAA (s t : List UInt8) : List (Nat × List UInt8) := []
noncomputable def EAA (s t : List UInt8) : Env := envT [(8, xAlive), (63, xClosed 200 63), (107, xClosed 200 107), (12, xClosed 200 12), (18, xItoa), (143, xRune), (97, yText (tabAA s t))]
def bsAB : List Nat := [0, 1, 1, 1, 0, 1]
noncomputable def tabAB (s t : List UInt8) : List (Nat × List UInt8) := []
noncomputable def EAB (s t : List UInt8) : Env := envT [(8, xAlive), (63, xClosed 200 63), (107, xClosed 200 107), (12, xClosed 200 12), (18, xItoa), (143, xRune), (97, yText (tabAB s t))]
def bsAC : List Nat := [0, 1, 1, 1, 0, 0, 1, 0, 0, 1, 1, 1, 1, 0, 1, 1, 1, 0, 0, 0, 0, 1, 0, 0, 1, 1, 0, 0, 0, 1, 0, 0, 1, 1, 1, 1, 1, 1, 1, 1, 1, 1, 0, 1, 1, 1, 1, 1, 1, 1, 1, 1, 1, 1, 0, 1, 1, 1, 1, 1, 1, 0, 1, 1, 0, 0, 0, 0, 1, 0, 1, 1, 0, 0, 1, 0, 0, 0, 1, 0, 0, 0, 1, 0, 0, 0, 0, 1, 1, 1, 1, 0, 1, 1, 1, 1, 1, 1, 1, 1, 1, 1, 0, 1, 1, 0, 1, 1, 1, 1, 1, 1, 1, 0, 1, 1, 1, 1, 1, 1, 1, 1, 1, 1, 0, 1, 1, 1, 0, 0, 0, 0, 0, 0, 0, 1, 0, 0, 0, 1, 1, 0, 1, 1, 0, 0, 0, 0, 0, 1, 1, 0, 1, 0, 0, 0, 1, 0, 0, 0, 1, 0, 0, 0, 1, 0, 0, 0, 1, 0, 0, 0, 1, 0, 0, 0, 1, 0, 0, 0, 1, 0, 0, 0, 1, 0, 0, 0, 1, 0, 0, 0, 0, 0, 0, 0, 0, 0, 1, 2, 1, 2, 2, 1, 1, 1, 0, 0, 1, 0, 0, 2, 1, 1, 1, 1, 1, 0, 1, 1, 1, 0, 0, 0, 0, 1, 0, 0, 1, 1, 0, 0, 0, 1, 0, 0, 1, 1, 1, 1, 1, 1, 1, 1, 1, 1, 0, 1, 1, 1, 1, 1, 1, 1, 1, 1, 1, 1, 0, 1, 1, 1, 1, 1, 1, 0, 1, 1, 0, 0, 0, 1, 0, 0, 0, 1, 2, 0, 0, 1, 2, 2, 2, 0, 0, 0, 0, 0, 1, 1, 1, 1, 1, 1, 1, 1, 1, 1, 0, 1, 1, 1, 1, 0, 0, 1, 0, 0, 0, 0, 1, 1, 1, 1, 1, 1, 1, 1, 1, 1, 1, 1, 1, 1, 1, 0, 0, 1, 1, 1, 1, 1, 1, 1, 2, 2, 1, 1, 1, 0, 0, 1, 2, 1, 1, 1, 0, 1, 1, 1, 1, 1, 1, 1, 1, 2, 2, 1, 1, 1, 0, 0, 1, 2, 1, 1, 1, 0, 1, 0, 0, 0, 0, 0, 0, 0, 1, 1, 1, 1, 1, 0, 1, 1, 1, 1, 1, 1, 1, 1, 1, 1, 0, 1, 1, 0, 1, 1, 1, 1, 1, 1, 1, 0, 1, 1, 1, 1, 1, 1, 1, 1, 1, 1, 0, 1, 1, 1, 0, 0, 0, 0, 0, 0, 0, 1, 0, 0, 0, 1, 1, 0, 1, 1, 0, 0, 1, 0, 0, 0, 0, 1, 1, 1, 1, 0, 1, 1, 1, 0, 0, 0, 0, 1, 0, 0, 1, 1, 0, 0, 0, 1, 0, 0, 1, 1, 1, 1, 1, 1, 1, 1, 1, 1, 0, 1, 1, 1, 1, 1, 1, 1, 1, 1, 1, 1, 0, 1, 1, 1, 1, 1, 1, 0, 1, 1, 0, 0, 0, 0, 1, 1, 1, 1, 1, 0, 1, 1, 1, 1, 1, 1, 1, 1, 1, 1, 0, 1, 1, 0, 1, 1, 1, 1, 1, 1, 1, 0, 1, 1, 1, 1, 1, 1, 1, 1, 1, 1, 0, 1, 1, 1, 0, 0, 0, 0, 0, 0, 0, 1, 0, 0, 0, 1, 1, 0, 1, 1, 0, 0, 0, 0, 0, 1, 1, 1, 1, 0, 1, 1, 0, 0, 0, 1, 0, 0, 0, 1, 1, 1, 1, 1, 0, 0, 1, 0, 1, 1, 0, 0, 1, 0, 0, 1, 1, 1, 0, 0, 0, 1, 1, 1, 0, 0, 1, 0, 1, 1, 1, 1, 0, 1, 1, 1, 1, 1, 0, 0, 1, 1, 1, 1, 1, 1, 1, 1, 1, 1, 1, 1, 1, 1, 1, 1, 1, 1]
noncomputable def tabAC (s t : List UInt8) : List (Nat × List UInt8) := [(199, [97]), (201, [101, 110]), (202, [48]), (211, srcA), (276, [113]), (280, [97]), (281, []), (282, [50]), (334, [120]), (335, [116]), (342, t), (355, [120]), (356, [116]), (363, [])]
noncomputable def EAC (s t : List UInt8) : Env := envT [(8, xAlive), (63, xClosed 200 63), (107, xClosed 200 107), (12, xClosed 200 12), (18, xItoa), (143, xRune), (97, yText (tabAC s t))]
def bsAD : List Nat := [0, 1, 1, 1, 0, 0, 1, 0, 0, 1, 1, 1, 1, 0, 1, 1, 1, 0, 0, 0, 0, 1, 0, 0, 1, 1, 0, 0, 0, 1, 0, 0, 1, 1, 1, 1, 1, 1, 1, 1, 1, 1, 0, 1, 1, 1, 1, 1, 1, 1, 1, 1, 1, 1, 0, 1, 1, 1, 1, 1, 1, 0, 1, 1, 0, 0, 0, 0, 1, 0, 1, 1, 0, 0, 1, 0, 0, 0, 1, 0, 0, 0, 1, 0, 0, 0, 0, 1, 1, 1, 1, 0, 1, 1, 1, 1, 1, 1, 1, 1, 1, 1, 0, 1, 1, 0, 1, 1, 1, 1, 1, 1, 1, 0, 1, 1, 1, 1, 1, 1, 1, 1, 1, 1, 0, 1, 1, 1, 0, 0, 0, 0, 0, 0, 0, 1, 0, 0, 0, 1, 1, 0, 1, 1, 0, 0, 0, 0, 0, 1, 1, 0, 1, 0, 0, 0, 1, 0, 0, 0, 1, 0, 0, 0, 1, 0, 0, 0, 1, 0, 0, 0, 1, 0, 0, 0, 1, 0, 0, 0, 1, 0, 0, 0, 1, 0, 0, 0, 1, 0, 0, 0, 0, 0, 0, 0, 0, 0, 1, 2, 1, 2, 2, 1, 1, 1, 0, 0, 1, 0, 0, 2, 1, 1, 1, 1, 1, 0, 1, 1, 1, 0, 0, 0, 0, 1, 0, 0, 1, 1, 0, 0, 0, 1, 0, 0, 1, 1, 1, 1, 1, 1, 1, 1, 1, 1, 0, 1, 1, 1, 1, 1, 1, 1, 1, 1, 1, 1, 0, 1, 1, 1, 1, 1, 1, 0, 1, 1, 0, 0, 0, 1, 0, 0, 0, 1, 2, 0, 0, 1, 2, 2, 2, 0, 0, 0, 0, 0, 1, 1, 1, 1, 1, 1, 1, 1, 1, 1, 0, 1, 1, 1, 1, 0, 0, 1, 0, 0, 0, 0, 1, 1, 1, 1, 1, 1, 1, 1, 1, 1, 1, 1, 1, 1, 1, 0, 0, 1, 1, 1, 1, 1, 1, 1, 2, 2, 1, 1, 1, 0, 0, 1, 2, 1, 1, 1, 0, 1, 1, 1, 1, 1, 1, 1, 1, 2, 2, 1, 1, 1, 0, 0, 1, 2, 1, 1, 1, 0, 1, 0, 0, 0, 0, 0, 0, 0, 1, 1, 1, 1, 1, 0, 1, 1, 1, 1, 1, 1, 1, 1, 1, 1, 0, 1, 1, 0, 1, 1, 1, 1, 1, 1, 1, 0, 1, 1, 1, 1, 1, 1, 1, 1, 1, 1, 0, 1, 1, 1, 0, 0, 0, 0, 0, 0, 0, 1, 0, 0, 0, 1, 1, 0, 1, 1, 0, 0, 1, 0, 0, 0, 0, 1, 1, 1, 1, 0, 1, 1, 1, 0, 0, 0, 0, 1, 0, 0, 1, 1, 0, 0, 0, 1, 0, 0, 1, 1, 1, 1, 1, 1, 1, 1, 1, 1, 0, 1, 1, 1, 1, 1, 1, 1, 1, 1, 1, 1, 0, 1, 1, 1, 1, 1, 1, 0, 1, 1, 0, 0, 0, 0, 1, 1, 1, 1, 1, 0, 1, 1, 1, 1, 1, 1, 1, 1, 1, 1, 0, 1, 1, 0, 1, 1, 1, 1, 1, 1, 1, 0, 1, 1, 1, 1, 1, 1, 1, 1, 1, 1, 0, 1, 1, 1, 0, 0, 0, 0, 0, 0, 0, 1, 0, 0, 0, 1, 1, 0, 1, 1, 0, 0, 0, 0, 0, 1, 1, 1, 1, 0, 1, 1, 0, 0, 0, 1, 0, 0, 0, 1, 1, 1, 1, 1, 0, 0, 1, 0, 1, 1, 0, 0, 1, 0, 0, 1, 1, 1, 0, 0, 0, 0, 1, 1, 0, 0, 1, 0, 1, 1, 1, 1, 0, 1, 1, 1, 1, 1, 0, 0, 1, 1, 1, 1, 1, 1, 1, 1, 1, 1, 1, 1, 1, 1, 1, 1, 1, 1]
noncomputable def tabAD (s t : List UInt8) : List (Nat × List UInt8) := [(199, [97]), (201, [101, 110]), (202, [48]), (211, srcA), (276, [113]), (280, [97]), (281, []), (282, [50]), (334, [120]), (335, [116]), (342, t), (355, [120]), (356, [116]), (363, s)]
noncomputable def EAD (s t : List UInt8) : Env := envT [(8, xAlive), (63, xClosed 200 63), (107, xClosed 200 107), (12, xClosed 200 12), (18, xItoa), (143, xRune), (97, yText (tabAD s t))]
noncomputable def pA (s t : List UInt8) : List (List UInt8) := [[97], [101, 110], [48], srcA, [113], [97], [], [50], [120], [116], t, [120], [116], s]
noncomputable def lookA (r : AR) : Option (Value × List Nat × Bool) := match r with
  | some q => match q with
    | (v, h) => some (v, h.log, allB (fun b => b) h.ob)
  | none => none
noncomputable def obAA (s t : List UInt8) : List Bool :=
  [beqB (Nat.beq 1 1) (iLt 300 (Int.ofNat (len s))),
   beqB (Nat.beq 0 1) (beqB (iLt 300 (Int.ofNat (len s))) false),
   beqB (Nat.beq 0 1) (beqB (iLt 300 (Int.ofNat (len s))) false),
   beqB (Nat.beq 0 1) (beqB (iLt 300 (Int.ofNat (len s))) false)]
theorem runAA (s t : List UInt8) : lookA (acall (EAA s t) 200 7 [strV s, strV t] (hSym (bits bsAA 0))) = some (.bool true, [], allB (fun b => b) (obAA s t)) := by kernel_rfl
noncomputable def obAB (s t : List UInt8) : List Bool :=
  [beqB (Nat.beq 1 1) (iLt 300 (Int.ofNat (len t))),
   beqB (Nat.beq 0 1) (iLt 300 (Int.ofNat (len s))),
   beqB (Nat.beq 1 1) (beqB (iLt 300 (Int.ofNat (len s))) false),
   beqB (Nat.beq 1 1) (beqB (iLt 300 (Int.ofNat (len s))) false),
   beqB (Nat.beq 1 1) (beqB (iLt 300 (Int.ofNat (len s))) false)]
theorem runAB (s t : List UInt8) : lookA (acall (EAB s t) 200 7 [strV s, strV t] (hSym (bits bsAB 0))) = some (.bool true, [], allB (fun b => b) (obAB s t)) := by kernel_rfl
noncomputable def obAC (s t : List UInt8) : List Bool :=
  [beqB (Nat.beq 0 1) !iEq (Int.ofNat (nP (pA [] t) 14)) (Int.ofNat (len (sP (pA [] t) 14))),
   beqB (Nat.beq 1 1) (beqB (!iEq (Int.ofNat (nP (pA [] t) 14)) (Int.ofNat (len (sP (pA [] t) 14)))) false),
   beqB (Nat.beq 1 1) (beqB (!iEq (Int.ofNat (nP (pA [] t) 14)) (Int.ofNat (len (sP (pA [] t) 14)))) false),
   beqB (Nat.beq 1 1) (beqB (!iEq (Int.ofNat (nP (pA [] t) 14)) (Int.ofNat (len (sP (pA [] t) 14)))) false),
   beqB (Nat.beq 1 1) (beqB (!iEq (Int.ofNat (nP (pA [] t) 14)) (Int.ofNat (len (sP (pA [] t) 14)))) false),
   beqB (Nat.beq 1 1) (beqB (!iEq (Int.ofNat (nP (pA [] t) 14)) (Int.ofNat (len (sP (pA [] t) 14)))) false),
   beqB (Nat.beq 0 1) (iLt (Int.ofNat (nP (pA [] t) 14)) (Int.ofNat (len (sP (pA [] t) 14)))),
   (len (sP (pA [] t) 14)).ble 1099511627776,
   bytesEq (List.take (len (partF [])) (List.drop (nP (pA [] t) 13) (sP (pA [] t) 14))) (partF []),
   (len (sP (pA [] t) 14)).ble 1099511627776,
   bytesEq (List.take (len (partF [116])) (List.drop (nP (pA [] t) 12) (sP (pA [] t) 14))) (partF [116]),
   (len (sP (pA [] t) 14)).ble 1099511627776,
   bytesEq (List.take (len (partF [120])) (List.drop (nP (pA [] t) 11) (sP (pA [] t) 14))) (partF [120]),
   (len (sP (pA [] t) 14)).ble 1099511627776,
   (len t).blt 400,
   bytesEq (List.take (len (partF t)) (List.drop (nP (pA [] t) 10) (sP (pA [] t) 14))) (partF t),
   (len (sP (pA [] t) 14)).ble 1099511627776,
   (len (sP (pA [] t) 14)).ble 1099511627776,
   (len (sP (pA [] t) 14)).ble 1099511627776,
   (len (sP (pA [] t) 14)).ble 1099511627776,
   (len (sP (pA [] t) 14)).ble 1099511627776,
   (len (sP (pA [] t) 14)).ble 1099511627776,
   (len (sP (pA [] t) 14)).ble 1099511627776,
   (len (sP (pA [] t) 14)).ble 1099511627776,
   (len (sP (pA [] t) 14)).ble 1099511627776,
   (len (sP (pA [] t) 14)).ble 1099511627776,
   (len (sP (pA [] t) 14)).beq (len (sP (pA [] t) 14)),
   beqB (Nat.beq 0 1) (iLt 262144 (Int.ofNat (len (sP (pA [] t) 14)))),
   (len (sP (pA [] t) 14)).beq (nP (pA [] t) 14),
   (nP (pA [] t) 14).ble 1099511627776,
   (len (sP (pA [] t) 13)).beq (nP (pA [] t) 13),
   (nP (pA [] t) 14).ble 4294967296,
   (len (sP (pA [] t) 12)).beq (nP (pA [] t) 12),
   (nP (pA [] t) 13).ble 4294967296,
   (len (sP (pA [] t) 11)).beq (nP (pA [] t) 11),
   (nP (pA [] t) 12).ble 4294967296,
   beqB (Nat.beq 0 1) ((len (partF t)).beq 0),
   (nP (pA [] t) 11).ble 4294967296,
   ((len (app (app (itoaF (len t)) [58]) t)).add (len [44])).ble 1099511627776,
   ((len (app (itoaF (len t)) [58])).add (len t)).ble 1099511627776,
   ((len (itoaF (len t))).add (len [58])).ble 1099511627776,
   (len t).blt 400,
   beqB (Nat.beq 0 1) (iLt 300 (Int.ofNat (len t)))]
theorem runAC (s t : List UInt8) : lookA (acall (EAC [] t) 200 7 [strV [], strV t] (hSym (bits bsAC 0))) = some (.bool true, [], allB (fun b => b) (obAC s t)) := by kernel_rfl
noncomputable def obAD (s t : List UInt8) : List Bool :=
  [beqB (Nat.beq 1 1) (bytesEq (app (app (app [] [60]) s) [62]) (app (app [60] s) [62])),
   beqB (Nat.beq 1 1) (beqB (bytesEq (app (app (app [] [60]) s) [62]) (app (app [60] s) [62])) true),
   beqB (Nat.beq 1 1) (beqB (bytesEq (app (app (app [] [60]) s) [62]) (app (app [60] s) [62])) true),
   beqB (Nat.beq 1 1) (beqB (bytesEq (app (app (app [] [60]) s) [62]) (app (app [60] s) [62])) true),
   beqB (Nat.beq 1 1) (beqB (bytesEq (app (app (app [] [60]) s) [62]) (app (app [60] s) [62])) true),
   beqB (Nat.beq 1 1) (beqB (bytesEq (app (app (app [] [60]) s) [62]) (app (app [60] s) [62])) true),
   ((len (app [60] s)).add (len [62])).ble 1099511627776,
   ((len [60]).add (len s)).ble 1099511627776,
   beqB (Nat.beq 0 1) !iEq (Int.ofNat (nP (pA s t) 14)) (Int.ofNat (len (sP (pA s t) 14))),
   beqB (Nat.beq 1 1) (beqB (!iEq (Int.ofNat (nP (pA s t) 14)) (Int.ofNat (len (sP (pA s t) 14)))) false),
   beqB (Nat.beq 1 1) (beqB (!iEq (Int.ofNat (nP (pA s t) 14)) (Int.ofNat (len (sP (pA s t) 14)))) false),
   beqB (Nat.beq 1 1) (beqB (!iEq (Int.ofNat (nP (pA s t) 14)) (Int.ofNat (len (sP (pA s t) 14)))) false),
   beqB (Nat.beq 1 1) (beqB (!iEq (Int.ofNat (nP (pA s t) 14)) (Int.ofNat (len (sP (pA s t) 14)))) false),
   beqB (Nat.beq 1 1) (beqB (!iEq (Int.ofNat (nP (pA s t) 14)) (Int.ofNat (len (sP (pA s t) 14)))) false),
   (len (app (app (app [] [60]) s) [62])).beq (((Nat.add 0 (len [60])).add (len s)).add (len [62])),
   (len (app (app [] [60]) s)).beq ((Nat.add 0 (len [60])).add (len s)),
   (((Nat.add 0 (len [60])).add (len s)).add (len [62])).ble 4294967296,
   beqB (Nat.beq 0 1) ((len s).beq 0),
   ((Nat.add 0 (len [60])).add (len s)).ble 4294967296,
   beqB (Nat.beq 0 1) (iLt 2500 (Int.ofNat (rcF s))),
   (len s).ble 1099511627776,
   beqB (Nat.beq 0 1) (iLt (Int.ofNat (nP (pA s t) 14)) (Int.ofNat (len (sP (pA s t) 14)))),
   (len (sP (pA s t) 14)).ble 1099511627776,
   (len s).blt 400,
   bytesEq (List.take (len (partF s)) (List.drop (nP (pA s t) 13) (sP (pA s t) 14))) (partF s),
   (len (sP (pA s t) 14)).ble 1099511627776,
   bytesEq (List.take (len (partF [116])) (List.drop (nP (pA s t) 12) (sP (pA s t) 14))) (partF [116]),
   (len (sP (pA s t) 14)).ble 1099511627776,
   bytesEq (List.take (len (partF [120])) (List.drop (nP (pA s t) 11) (sP (pA s t) 14))) (partF [120]),
   (len (sP (pA s t) 14)).ble 1099511627776,
   (len t).blt 400,
   bytesEq (List.take (len (partF t)) (List.drop (nP (pA s t) 10) (sP (pA s t) 14))) (partF t),
   (len (sP (pA s t) 14)).ble 1099511627776,
   (len (sP (pA s t) 14)).ble 1099511627776,
   (len (sP (pA s t) 14)).ble 1099511627776,
   (len (sP (pA s t) 14)).ble 1099511627776,
   (len (sP (pA s t) 14)).ble 1099511627776,
   (len (sP (pA s t) 14)).ble 1099511627776,
   (len (sP (pA s t) 14)).ble 1099511627776,
   (len (sP (pA s t) 14)).ble 1099511627776,
   (len (sP (pA s t) 14)).ble 1099511627776,
   (len (sP (pA s t) 14)).ble 1099511627776,
   (len (sP (pA s t) 14)).beq (len (sP (pA s t) 14)),
   beqB (Nat.beq 0 1) (iLt 262144 (Int.ofNat (len (sP (pA s t) 14)))),
   (len (sP (pA s t) 14)).beq (nP (pA s t) 14),
   (nP (pA s t) 14).ble 1099511627776,
   beqB (Nat.beq 0 1) ((nP (pA s t) 14).beq 0),
   beqB (Nat.beq 0 1) ((nP (pA s t) 14).beq 0),
   (len (sP (pA s t) 13)).beq (nP (pA s t) 13),
   beqB (Nat.beq 0 1) ((len (partF s)).beq 0),
   (nP (pA s t) 14).ble 4294967296,
   ((len (app (app (itoaF (len s)) [58]) s)).add (len [44])).ble 1099511627776,
   ((len (app (itoaF (len s)) [58])).add (len s)).ble 1099511627776,
   ((len (itoaF (len s))).add (len [58])).ble 1099511627776,
   (len s).blt 400,
   (len (sP (pA s t) 12)).beq (nP (pA s t) 12),
   (nP (pA s t) 13).ble 4294967296,
   (len (sP (pA s t) 11)).beq (nP (pA s t) 11),
   (nP (pA s t) 12).ble 4294967296,
   beqB (Nat.beq 0 1) ((len (partF t)).beq 0),
   (nP (pA s t) 11).ble 4294967296,
   ((len (app (app (itoaF (len t)) [58]) t)).add (len [44])).ble 1099511627776,
   ((len (app (itoaF (len t)) [58])).add (len t)).ble 1099511627776,
   ((len (itoaF (len t))).add (len [58])).ble 1099511627776,
   (len t).blt 400,
   beqB (Nat.beq 0 1) (iLt 300 (Int.ofNat (len t))),
   beqB (Nat.beq 0 1) (iLt 300 (Int.ofNat (len s))),
   beqB (Nat.beq 1 1) (beqB (iLt 300 (Int.ofNat (len s))) false),
   beqB (Nat.beq 1 1) (beqB (iLt 300 (Int.ofNat (len s))) false),
   beqB (Nat.beq 1 1) (beqB (iLt 300 (Int.ofNat (len s))) false)]
theorem runAD (s t : List UInt8) : lookA (acall (EAD s t) 200 7 [strV s, strV t] (hSym (bits bsAD 0))) = some (.bool true, [], allB (fun b => b) (obAD s t)) := by kernel_rfl
end Go.Proofs.YtkmbkejmfffafaaGreatDoor.Refl
namespace Go.Proofs.YtkmbkejmfffafaaGreatDoor.Refl
open Go Go.RowKit
set_option linter.unusedVariables false
set_option linter.unusedSimpArgs false
set_option maxRecDepth 100000
theorem pA_lt {s t : List UInt8} (hs : s.length ≤ 300) (ht : t.length ≤ 300) : ∀ p ∈ pA s t, p.length < 400 := by
  intro p hp
  simp only [pA, List.mem_cons, List.not_mem_nil, or_false] at hp
  rcases hp with rfl | rfl | rfl | rfl | rfl | rfl | rfl | rfl | rfl | rfl | rfl | rfl | rfl | rfl <;> first | omega | (simp [srcA]; done) | (simp [srcA]; omega)
theorem ble_of {a b : Nat} (h : a ≤ b) : Nat.ble a b = true := by rw [ble_eq]; exact decide_eq_true h
theorem blt_of {a b : Nat} (h : a < b) : Nat.blt a b = true := by rw [blt_eq]; exact decide_eq_true h
theorem beq_of {a b : Nat} (h : a = b) : Nat.beq a b = true := by rw [bq]; exact decide_eq_true h
theorem beq_no {a b : Nat} (h : a ≠ b) : Nat.beq a b = false := by rw [bq]; exact decide_eq_false h
theorem iLt_no {a b : Nat} (h : b ≤ a) : iLt (Int.ofNat a) (Int.ofNat b) = false := by rw [iLt_eq]; exact decide_eq_false (by simp; omega)
theorem iLt_of {a b : Nat} (h : a < b) : iLt (Int.ofNat a) (Int.ofNat b) = true := by rw [iLt_eq]; exact decide_eq_true (by simp; omega)
theorem iEq_of {a b : Nat} (h : a = b) : iEq (Int.ofNat a) (Int.ofNat b) = true := by rw [iEq_eq]; exact decide_eq_true (by rw [h])
theorem bytesEq_of {a b : List UInt8} (h : a = b) : bytesEq a b = true := by rw [bytesEq_eq]; exact decide_eq_true h
theorem sP_len (l : List (List UInt8)) (k : Nat) : len (sP l k) = nP l k := by rw [len_eq, nP_eq]
structure Part (t : List UInt8) : Prop where
  lt : Nat.blt (len t) 400 = true
  a : Nat.ble (Nat.add (len (itoaF (len t))) (len [58])) 1099511627776 = true
  b : Nat.ble (Nat.add (len (app (itoaF (len t)) [58])) (len t)) 1099511627776 = true
  c : Nat.ble (Nat.add (len (app (app (itoaF (len t)) [58]) t)) (len [44])) 1099511627776 = true
  d : Nat.beq (len (partF t)) 0 = false
  e : Nat.ble (len t) 1099511627776 = true
theorem part_of {t : List UInt8} (h : t.length < 400) : Part t := by
  obtain ⟨h1, h2, _⟩ := itoa_nice h
  have h3 := partF_len h
  refine ⟨?_, ?_, ?_, ?_, ?_, ?_⟩
  · rw [len_eq]; exact blt_of h
  · refine ble_of ?_; simp only [len_eq, Nat.add_eq, List.length_cons, List.length_nil]; omega
  · refine ble_of ?_; simp only [len_eq, app_eq, Nat.add_eq, List.length_append, List.length_cons, List.length_nil]; omega
  · refine ble_of ?_; simp only [len_eq, app_eq, Nat.add_eq, List.length_append, List.length_cons, List.length_nil]; omega
  · rw [len_eq]; exact beq_no (by omega)
  · rw [len_eq]; exact ble_of (by omega)
theorem obAA_all {s t : List UInt8} (hs : 300 < s.length) : ∀ x ∈ obAA s t, x = true := by
  have f : iLt 300 (Int.ofNat (len s)) = true := iLt_of (a := 300) (by rw [len_eq]; exact hs)
  intro x hx
  simp only [obAA, List.mem_cons, List.not_mem_nil, or_false] at hx
  rcases hx with hx | hx | hx | hx <;> subst hx <;> rw [f] <;> rfl
theorem obAB_all {s t : List UInt8} (hs : s.length ≤ 300) (ht : 300 < t.length) : ∀ x ∈ obAB s t, x = true := by
  have f : iLt 300 (Int.ofNat (len s)) = false := iLt_no (a := 300) (by rw [len_eq]; exact hs)
  have g : iLt 300 (Int.ofNat (len t)) = true := iLt_of (a := 300) (by rw [len_eq]; exact ht)
  intro x hx
  simp only [obAB, List.mem_cons, List.not_mem_nil, or_false] at hx
  rcases hx with hx | hx | hx | hx | hx <;> subst hx <;> first | (rw [f]; rfl) | (rw [g]; rfl)
structure Whole (s t : List UInt8) : Prop where
  n11 : Nat.ble (nP (pA s t) 11) 4294967296 = true
  n12 : Nat.ble (nP (pA s t) 12) 4294967296 = true
  n13 : Nat.ble (nP (pA s t) 13) 4294967296 = true
  n14 : Nat.ble (nP (pA s t) 14) 4294967296 = true
  m14 : Nat.ble (nP (pA s t) 14) 1099511627776 = true
  e11 : Nat.beq (len (sP (pA s t) 11)) (nP (pA s t) 11) = true
  e12 : Nat.beq (len (sP (pA s t) 12)) (nP (pA s t) 12) = true
  e13 : Nat.beq (len (sP (pA s t) 13)) (nP (pA s t) 13) = true
  e14 : Nat.beq (len (sP (pA s t) 14)) (nP (pA s t) 14) = true
  ee : Nat.beq (len (sP (pA s t) 14)) (len (sP (pA s t) 14)) = true
  z : Nat.beq (nP (pA s t) 14) 0 = false
  k : iLt 262144 (Int.ofNat (len (sP (pA s t) 14))) = false
  l : Nat.ble (len (sP (pA s t) 14)) 1099511627776 = true
  p10 : bytesEq (List.take (len (partF t)) (List.drop (nP (pA s t) 10) (sP (pA s t) 14))) (partF t) = true
  p11 : bytesEq (List.take (len (partF [120])) (List.drop (nP (pA s t) 11) (sP (pA s t) 14))) (partF [120]) = true
  p12 : bytesEq (List.take (len (partF [116])) (List.drop (nP (pA s t) 12) (sP (pA s t) 14))) (partF [116]) = true
  p13 : bytesEq (List.take (len (partF s)) (List.drop (nP (pA s t) 13) (sP (pA s t) 14))) (partF s) = true
  lt : iLt (Int.ofNat (nP (pA s t) 14)) (Int.ofNat (len (sP (pA s t) 14))) = false
  eq : iEq (Int.ofNat (nP (pA s t) 14)) (Int.ofNat (len (sP (pA s t) 14))) = true
theorem whole_of {s t : List UInt8} (hs : s.length ≤ 300) (ht : t.length ≤ 300) : Whole s t := by
  have hl := pA_lt hs ht
  have h14 : (pA s t).length = 14 := rfl
  have hn : ∀ k, nP (pA s t) k ≤ 5656 := fun k => by have := nP_le hl k; rw [h14] at this; omega
  have n11 := hn 11; have n12 := hn 12; have n13 := hn 13; have n14 := hn 14
  exact {
    n11 := ble_of (by omega), n12 := ble_of (by omega), n13 := ble_of (by omega), n14 := ble_of (by omega), m14 := ble_of (by omega)
    e11 := beq_of (sP_len _ _), e12 := beq_of (sP_len _ _), e13 := beq_of (sP_len _ _), e14 := beq_of (sP_len _ _), ee := beq_of rfl
    z := beq_no (by have := nP_pos hl (k := 14) (by omega) (by simp [pA]); omega)
    k := iLt_no (a := 262144) (by rw [sP_len]; omega)
    l := ble_of (by rw [sP_len]; omega)
    p10 := bytesEq_of (part_at rfl (by rw [h14]; exact Nat.le_refl _))
    p11 := bytesEq_of (part_at rfl (by rw [h14]; exact Nat.le_refl _))
    p12 := bytesEq_of (part_at rfl (by rw [h14]; exact Nat.le_refl _))
    p13 := bytesEq_of (part_at rfl (by rw [h14]; exact Nat.le_refl _))
    lt := iLt_no (by rw [sP_len]; exact Nat.le_refl _)
    eq := iEq_of (sP_len _ _).symm }
theorem obAC_all {t : List UInt8} (ht : t.length ≤ 300) : ∀ x ∈ obAC [] t, x = true := by
  have g : iLt 300 (Int.ofNat (len t)) = false := iLt_no (a := 300) (by rw [len_eq]; exact ht)
  have P := part_of (t := t) (by omega)
  obtain ⟨t1, t2, t3, t4, t5, t6⟩ := P
  obtain ⟨n11, n12, n13, n14, m14, e11, e12, e13, e14, ee, z, k, l, p10, p11, p12, p13, lt, eq⟩ := whole_of (s := []) (t := t) (by simp) ht
  intro x hx
  simp only [obAC, List.mem_cons, List.not_mem_nil, or_false] at hx
  rcases hx with hx | hx | hx | hx | hx | hx | hx | hx | hx | hx | hx | hx | hx | hx | hx | hx | hx | hx | hx | hx | hx | hx | hx | hx | hx | hx | hx | hx | hx | hx | hx | hx | hx | hx | hx | hx | hx | hx | hx | hx | hx | hx | hx
  all_goals (subst hx; first | with_reducible assumption | (rw [g]; rfl) | (rw [t5]; rfl) | (rw [z]; rfl) | (rw [k]; rfl) | (rw [lt]; rfl) | (rw [eq]; rfl))
theorem obAD_all {s t : List UInt8} (hs : s.length ≤ 300) (ht : t.length ≤ 300) (h0 : s ≠ []) : ∀ x ∈ obAD s t, x = true := by
  have f : iLt 300 (Int.ofNat (len s)) = false := iLt_no (a := 300) (by rw [len_eq]; exact hs)
  have g : iLt 300 (Int.ofNat (len t)) = false := iLt_no (a := 300) (by rw [len_eq]; exact ht)
  obtain ⟨t1, t2, t3, t4, t5, t6⟩ := part_of (t := t) (by omega)
  obtain ⟨s1, s2, s3, s4, s5, s6⟩ := part_of (t := s) (by omega)
  obtain ⟨n11, n12, n13, n14, m14, e11, e12, e13, e14, ee, z, k, l, p10, p11, p12, p13, lt, eq⟩ := whole_of (s := s) (t := t) hs ht
  have hrc : rcF s ≤ 300 := Nat.le_trans (Lib.runeCount_le ⟨⟨s⟩⟩) hs
  have r1 : iLt 2500 (Int.ofNat (rcF s)) = false := iLt_no (a := 2500) (by omega)
  have q0 : Nat.beq (len s) 0 = false := by rw [len_eq]; exact beq_no (by intro e; exact h0 (List.eq_nil_of_length_eq_zero e))
  have u1 : Nat.ble (Nat.add (Nat.add 0 (len [60])) (len s)) 4294967296 = true := ble_of (by simp only [len_eq, Nat.add_eq, List.length_cons, List.length_nil]; omega)
  have u2 : Nat.ble (Nat.add (Nat.add (Nat.add 0 (len [60])) (len s)) (len [62])) 4294967296 = true := ble_of (by simp only [len_eq, Nat.add_eq, List.length_cons, List.length_nil]; omega)
  have u3 : Nat.beq (len (app (app [] [60]) s)) (Nat.add (Nat.add 0 (len [60])) (len s)) = true := beq_of (by simp only [len_eq, app_eq, Nat.add_eq, List.length_append, List.length_cons, List.length_nil])
  have u4 : Nat.beq (len (app (app (app [] [60]) s) [62])) (Nat.add (Nat.add (Nat.add 0 (len [60])) (len s)) (len [62])) = true := beq_of (by simp only [len_eq, app_eq, Nat.add_eq, List.length_append, List.length_cons, List.length_nil])
  have u5 : Nat.ble (Nat.add (len [60]) (len s)) 1099511627776 = true := ble_of (by simp only [len_eq, Nat.add_eq, List.length_cons, List.length_nil]; omega)
  have u6 : Nat.ble (Nat.add (len (app [60] s)) (len [62])) 1099511627776 = true := ble_of (by simp only [len_eq, app_eq, Nat.add_eq, List.length_append, List.length_cons, List.length_nil]; omega)
  have u7 : bytesEq (app (app (app [] [60]) s) [62]) (app (app [60] s) [62]) = true := bytesEq_of rfl
  intro x hx
  simp only [obAD, List.mem_cons, List.not_mem_nil, or_false] at hx
  rcases hx with hx | hx | hx | hx | hx | hx | hx | hx | hx | hx | hx | hx | hx | hx | hx | hx | hx | hx | hx | hx | hx | hx | hx | hx | hx | hx | hx | hx | hx | hx | hx | hx | hx | hx | hx | hx | hx | hx | hx | hx | hx | hx | hx | hx | hx | hx | hx | hx | hx | hx | hx | hx | hx | hx | hx | hx | hx | hx | hx | hx | hx | hx | hx | hx | hx | hx | hx | hx | hx | hx
  all_goals (subst hx; first | with_reducible assumption | (rw [f]; rfl) | (rw [g]; rfl) | (rw [t5]; rfl) | (rw [s5]; rfl) | (rw [z]; rfl) | (rw [k]; rfl) | (rw [lt]; rfl) | (rw [eq]; rfl) | (rw [r1]; rfl) | (rw [q0]; rfl) | (rw [u7]; rfl))
theorem lookA_some {r : AR} {q : Value × List Nat × Bool} (h : lookA r = some q) (hq : q.2.2 = true) : ∃ h1, r = some (q.1, h1) ∧ h1.log = q.2.1 ∧ OB h1 := by
  unfold lookA at h
  cases r with
  | none => simp at h
  | some p =>
    obtain ⟨v, h1⟩ := p
    simp at h
    subst h
    exact ⟨h1, rfl, rfl, (allB_eq _ _).1 hq⟩
theorem envA_ok (tab : List (Nat × List UInt8)) : ∀ x ∈ [(8, xAlive), (63, xClosed 200 63), (107, xClosed 200 107), (12, xClosed 200 12), (18, xItoa), (143, xRune), (97, yText tab)], ExtOK Tryz.prog 12 x.1 x.2 := by
  intro x hx
  simp only [List.mem_cons, List.not_mem_nil, or_false] at hx
  rcases hx with rfl | rfl | rfl | rfl | rfl | rfl | rfl
  · exact xAlive_ok
  · exact xClosed_ok _ _
  · exact xClosed_ok _ _
  · exact xClosed_ok _ _
  · exact xItoa_ok
  · exact xRune_ok
  · exact yText_ok _
theorem args_run (s t : List UInt8) : ∃ plug orc h1, (∀ x ∈ plug, ExtOK Tryz.prog 12 x.1 x.2) ∧ acall (envT plug) 200 7 [strV s, strV t] (hSym orc) = some (.bool true, h1) ∧ OB h1 ∧ h1.log = [] := by
  by_cases hs : s.length ≤ 300
  · by_cases ht : t.length ≤ 300
    · by_cases h0 : s = []
      · subst h0
        obtain ⟨h1, k1, k2, k3⟩ := lookA_some (runAC [] t) ((allB_eq _ _).2 (obAC_all ht))
        exact ⟨_, _, h1, envA_ok _, k1, k3, k2⟩
      · obtain ⟨h1, k1, k2, k3⟩ := lookA_some (runAD s t) ((allB_eq _ _).2 (obAD_all hs ht h0))
        exact ⟨_, _, h1, envA_ok _, k1, k3, k2⟩
    · obtain ⟨h1, k1, k2, k3⟩ := lookA_some (runAB s t) ((allB_eq _ _).2 (obAB_all hs (by omega)))
      exact ⟨_, _, h1, envA_ok _, k1, k3, k2⟩
  · obtain ⟨h1, k1, k2, k3⟩ := lookA_some (runAA s t) ((allB_eq _ _).2 (obAA_all (t := t) (by omega)))
    exact ⟨_, _, h1, envA_ok _, k1, k3, k2⟩
end Go.Proofs.YtkmbkejmfffafaaGreatDoor.Refl
namespace Go.Proofs.YtkmbkejmfffafaaGreatDoor.Refl
open Go Go.RowKit
set_option linter.unusedVariables false
set_option linter.unusedSimpArgs false
set_option maxRecDepth 100000
structure Begins (W : World) : Prop where
  asc : ∃ cs fr, W.heap[0]? = some (.cells cs 166 fr) ∧ cs.toList = asc
  p10 : ∃ cs fr, W.heap[2]? = some (.cells cs 264 fr) ∧ cs.toList = p10
noncomputable def ρS : Ren := fun b => match Nat.blt b 12 with
  | true => some ⟨b, 0, 0, if b = 0 then Tryz.prog.cellsOf 166 else Tryz.prog.cellsOf 264⟩
  | false => none
theorem ρS_some {b : Nat} {im : Im} (h : ρS b = some im) : b < 12 ∧ im = ⟨b, 0, 0, if b = 0 then Tryz.prog.cellsOf 166 else Tryz.prog.cellsOf 264⟩ := by
  unfold ρS at h
  rw [blt_eq] at h
  by_cases hb : b < 12
  · simp only [hb, decide_true, Option.some.injEq] at h; exact ⟨hb, h.symm⟩
  · simp [hb] at h
theorem hSym_obj (orc : List (Nat × Bool)) (b : Nat) : (hSym orc).obj b = if b = 2 then .cells p10 264 20 2 else if b = 0 then .cells Refl.asc 166 256 2 else .dead := by
  rw [← hS_obj]
  exact AH.obj_eq rfl rfl b
theorem row_start {W : World} {b e n : Nat} {l : List Value} (hl : ∀ v ∈ l, flat 5 v = true) (hn : l.length = n) (hs : ∀ v ∈ l, scalar v = true) (h : ∃ cs fr, W.heap[b]? = some (.cells cs e fr) ∧ cs.toList = l) :
    OR Tryz.prog.cellsOf ρS W ⟨b, 0, 0, Tryz.prog.cellsOf e⟩ (.cells l e n 2) := by
  obtain ⟨cs, ⟨lo, hi⟩, h1, h2⟩ := h
  have hsz : cs.size = n := by rw [← Array.length_toList, h2, hn]
  refine ⟨cs, lo, hi, h1, fun i v hv => ?_, ⟨fun j h3 h4 h5 => ?_, fun h => absurd rfl h⟩, Nat.zero_le _, rfl, fun h => by cases h⟩
  · simp only [AObj.cell, nth_eq] at hv
    refine ⟨hs v (List.mem_of_getElem? hv), v, ?_, flat_VR _ 5 v (hl v (List.mem_of_getElem? hv))⟩
    rw [Nat.zero_add, ← Array.getElem?_toList, h2]; exact hv
  · show j < 0 + n
    omega
theorem p10_scalar : ∀ v ∈ p10, scalar v = true := (allB_eq _ _).1 (by rfl)
theorem asc_scalar : ∀ v ∈ asc, scalar v = true := (allB_eq _ _).1 (by kernel_rfl)
theorem rel_start {W : World} (h : Begins W) (orc : List (Nat × Bool)) : Rel Tryz.prog.cellsOf ρS (hSym orc) W where
  obj := fun b im hb hn => by
    obtain ⟨hb12, rfl⟩ := ρS_some hb
    rw [hSym_obj]
    by_cases hb2 : b = 2
    · subst hb2
      rw [if_pos rfl]
      exact row_start p10_flat p10_len p10_scalar h.p10
    · rw [if_neg hb2]
      by_cases hb0 : b = 0
      · subst hb0
        rw [if_pos rfl]
        exact row_start asc_flat asc_len asc_scalar h.asc
      · rw [show (if b = 0 then AObj.cells asc 166 256 2 else AObj.dead) = AObj.dead from if_neg hb0]; trivial
  inj := fun b b' im im' h1 h1' _ _ _ _ h6 => by
    obtain ⟨_, rfl⟩ := ρS_some h1
    obtain ⟨_, rfl⟩ := ρS_some h1'
    exact h6
  top := fun b hb => AH.obj_top _ hb
theorem gl_start : GL 12 ρS := fun g hg => ⟨⟨g, 0, 0, if g = 0 then Tryz.prog.cellsOf 166 else Tryz.prog.cellsOf 264⟩, by unfold ρS; rw [blt_eq]; simp [hg], rfl, rfl⟩
theorem fr_start (orc : List (Nat × Bool)) (n : Nat) : Fr ρS (hSym orc).n n := fun x hx _ => by
  have hx : 12 ≤ x := hx
  unfold ρS
  rw [blt_eq]
  have : ¬ x < 12 := by omega
  simp [this]
theorem calls_start {plug : List (Nat × XF)} (hp : ∀ x ∈ plug, ExtOK Tryz.prog 12 x.1 x.2) {n f : Nat} {args args' : List Value} {orc : List (Nat × Bool)} {h1 : AH} (hx : acall (envT plug) n f args (hSym orc) = some (.bool true, h1)) (hob : OB h1) (hlog : h1.log = [])
    (hl : LR ρS args args') (hen : ∀ (a : Array Value) (w : World), (callFunc f a).run Tryz.prog w = .ok (.enter f a) w) {W : World} (hW : Begins W) :
    Calls Tryz.prog f args'.toArray W (fun e W' => e = .returned (.bool true) ∧ Below W.heap.size W W') := by
  have ha := acall_ok (envT_ok hp) n f args (hSym orc) _ h1 hx hob ρS W args' gl_start (rel_start hW orc) (fr_start orc _) hl
  unfold Ans at ha
  rw [hen] at ha
  have hc : Calls Tryz.prog f args'.toArray W (Back _) := ha
  refine hc.mono fun e W' he => ?_
  cases e with
  | returned v =>
    obtain ⟨ρ', hv, st⟩ := he
    cases hv
    refine ⟨rfl, st.str.os, st.str.tape, st.str.output, st.size, fun k hk => ?_⟩
    rcases st.frame k hk with h | ⟨b, im, h2, _⟩
    · exact h
    · rw [hlog] at h2; simp at h2
  | panicked c => exact he.elim
  | outgrown => exact he.elim
theorem vars_tail {x : String × DataW Unit} {l : List (String × DataW Unit)} {W : World} {ps : List MemPlace} (h : DataW.LaidVars Tryz.prog W (x :: l) ps) : ∃ q, DataW.LaidVars Tryz.prog W l q := by
  obtain ⟨g', t', cs, fuel, p, q, hg', ht', hvar, hd, hr, _⟩ := h
  exact ⟨q, hr⟩
theorem vars_head {name : String} {k : IntKind} {zs : List Int} {l : List (String × DataW Unit)} {W : World} {ps : List MemPlace} {g : Nat} {t e : TypeId} {n : Nat} (h : DataW.LaidVars Tryz.prog W ((name, Lib.tabData k zs) :: l) ps)
    (hg : Tryz.prog.globalNamed name = some g) (hty : (Tryz.prog.globals[g]?).map (·.type) = some t) (ht : Tryz.prog.underlying t = some (.array n e)) (he : Tryz.prog.underlying e = some (.int k)) (hce : Tryz.prog.cellsOf e = 1) (hct : Tryz.prog.cellsOf t = n) : Lib.TabIs Tryz.prog W name k zs := by
  obtain ⟨g', t', cs, fuel, p, q, hg', ht', hvar, hd, _, _⟩ := h
  obtain rfl := Option.some.inj (hg.symm.trans hg')
  obtain rfl := Option.some.inj (hty.symm.trans ht')
  unfold Lib.TabIs
  rw [hvar, ← Lib.cells_of_tab ht he hce hct hd]
theorem tab_block {W : World} {name : String} {k : IntKind} {zs : List Int} {g : Nat} {t : TypeId} {zero : Array Value} (hT : Lib.TabIs Tryz.prog W name k zs) (hg : Tryz.prog.globalNamed name = some g) (hsh : W.ShapedOpen Tryz.prog) (hlt : g < Tryz.prog.globals.size)
    (h0 : ((begin Tryz.prog (fun _ _ => 0) default).world.heap[g]?).bind Obj.row? = some (zero, t)) : ∃ cs fr, W.heap[g]? = some (.cells cs t fr) ∧ cs.toList = zs.map fun z => Value.int k z := by
  obtain ⟨cs, hh, _, _⟩ := hsh.1 g zero t hlt h0
  refine ⟨cs, _, hh, ?_⟩
  unfold Lib.TabIs World.var? at hT
  rw [hg] at hT
  simp only [Option.bind_some, hh, Option.some.injEq] at hT
  rw [hT]
end Go.Proofs.YtkmbkejmfffafaaGreatDoor.Refl
