/- Texts joined by this session's own program, part 7. PLowx0, PLowx1: written by this session's driver over the kit's printer. -/
import Derived.Test.YtkmbkejmfffafaaGreatDoorQ6
import Derived.Shelf.Strings.Builder1
import Derived.Shelf.Strings.Builder2
import Derived.Shelf.Strings.OnBuilder
import Derived.Shelf.Strings.Trim
import Derived.Shelf.Small.Utf8
import Derived.Shelf.Small.Strs
import Derived.Shelf.Small.Wraps
import Derived.Shelf.Strings.BuilderF
import Derived.Shelf.Strings.BuilderK
import Derived.Shelf.Utf8.RuneCount
import Derived.Shelf.Strconv.Atoi
import Derived.Shelf.Strconv.Itoa0
import Derived.Shelf.Strconv.Itoa1
import Derived.Shelf.LaysM
import Derived.Shelf.Strconv.Itoa2
import Derived.Shelf.Strconv.Itoa3
import Derived.Shelf.Strings.Search1
import Derived.Shelf.Strings.Search2
import Derived.Shelf.Strings.Search3
import Derived.Shelf.Strings.Cut
import Derived.Shelf.Strings.Count
import Derived.Shelf.Strings.Shaped
import Derived.Shelf.Strings.Prefix
import Derived.Shelf.Strings.Split
import Derived.Shelf.Strings.Fields
import Derived.Shelf.Strings.SplitShaped
import Derived.Shelf.Unicode.Latin
import Derived.Shelf.Strings.Runes
import Derived.Shelf.Strings.AsciiSet
import Derived.Shelf.Bits.Mul64
import Derived.Shelf.Strings.Repeat
import Derived.Shelf.Unicode.DecodeSlow
import Derived.Shelf.Unicode.Is16White
import Derived.Shelf.Unicode.IsSpaceAny
import Derived.Shelf.Unicode.Is16Any
import Derived.Shelf.Unicode.Is32Any
import Derived.Shelf.Unicode.ExclAny
import Derived.Shelf.Slices.Turned
import Derived.Shelf.Slices.Equal
import Derived.Ground.Names2Prog
import Derived.Shelf.Slices.Clone
import Derived.Ground.SlgnProg
import Derived.Shelf.SlicesE.Clone
import Derived.Test.YtkmbkejmfffafaaGreatDoorProg
import Derived.Test.YtkmbkejmfffafaaGreatDoorQ0
import Derived.Lib.Hide
import Derived.Laws.IdiomStrings
import Derived.Below
import Derived.Deep.Draws
import Derived.Deep.AppendLies
import Derived.Maps.AppendAt
import Derived.OwnWalk
import Derived.Laws.BytesArg
import Derived.Laws.MakeOwn
import Derived.Laws.OwnMore
import Derived.Deep.OwnRows
import Derived.Tactics
import Derived.Lib.ConvBytes
import Derived.Laws.Slices
import Derived.WalkKit
import Derived.KernelRfl
import Derived.RowKit3
import Derived.Deep.LoopGhost
import Derived.Deep.QuietTactic
import Derived.BigQuiet
import Derived.WideLaws
import Derived.Deep.DeepCutAuto
import Derived.Deep.CutBlock
import Derived.Deep.RegionHeld3
import Derived.Laws.Rows
import Derived.Lib.AppendStr
import Derived.ArgAppend
import Derived.Laws.IdiomCopy
import Derived.OrdersHeld
import Derived.Laws.BitsLemmas
import Derived.RowKit
set_option linter.unusedSectionVars false
set_option linter.unusedVariables false
set_option linter.unusedSimpArgs false
namespace Go.Proofs.YtkmbkejmfffafaaGreatDoor.Refl
open Go Go.RowKit
set_option linter.unusedVariables false
set_option linter.unusedSimpArgs false
set_option maxRecDepth 100000
noncomputable def hOneP (o : AObj) (orc : List (Nat × Bool)) : AH := { t := (Tr.nil.set 2 (.cells p10 264 20 2)).set 12 o, n := 13, log := [], sym := true, cnt := 0, orc := orc, ob := [] }
noncomputable def look (b : Nat) (r : AR) : Option (Value × AObj × List Nat × List Bool) := match r with
  | some q => match q with
    | (v, h) => some (v, h.obj b, h.log, h.ob)
  | none => none
def bsT (x : Nat) : List Nat := [x,1,1,1,0,0,1,1,1,1,1,1,1,1,1,1,1,1,1,1,1,0,1,1,0,1,1,1,1,1,1,1,1,1,0,1,1,1,1,1,1,1,1,1,0,0]
noncomputable def ET (k n : Nat) : Env := envT [(18, xItoa), (181, xAtoiN n), (214, xIdxK k)]
noncomputable def wT (S : List UInt8) (at_ hi : Nat) : List UInt8 := List.take (hi.sub at_) (List.drop at_ S)
noncomputable def dT (k : Nat) (W : List UInt8) : List UInt8 := List.take k W
noncomputable def frT (at_ : Nat) (D : List UInt8) : Nat := (at_.add (len D)).add 1
noncomputable def obT (S W D : List UInt8) (at_ k n b hi F E : Nat) : List Bool :=
  [F.ble E,
   E.ble (len S),
   E.ble 9223372036854775807,
   (E.add 1).ble 9223372036854775807,
   E.ble 9223372036854775807,
   beqB (Nat.beq 0 1) !iEq (Int.ofNat (nthD S E).toNat) 44,
   beqB (Nat.beq 0 1) !iLt (Int.ofNat E) (Int.ofNat (len S)),
   beqB (Nat.beq 1 1) (beqB (!iLt (Int.ofNat E) (Int.ofNat (len S))) false),
   E.blt (len S),
   beqB (Nat.beq 1 1) (beqB (!iLt (Int.ofNat E) (Int.ofNat (len S))) false),
   E.ble 9223372036854775807,
   beqB (Nat.beq 1 1) (beqB (!iLt (Int.ofNat E) (Int.ofNat (len S))) false),
   beqB (Nat.beq 1 1) (beqB (!iLt (Int.ofNat E) (Int.ofNat (len S))) false),
   beqB (Nat.beq 1 1) (beqB (!iLt (Int.ofNat E) (Int.ofNat (len S))) false),
   beqB (Nat.beq 1 1) (beqB (!iLt (Int.ofNat E) (Int.ofNat (len S))) false),
   beqB (Nat.beq 1 1) (beqB (!iLt (Int.ofNat E) (Int.ofNat (len S))) false),
   beqB (Nat.beq 1 1) (beqB (!iLt (Int.ofNat E) (Int.ofNat (len S))) false),
   beqB (Nat.beq 1 1) (beqB (!iLt (Int.ofNat E) (Int.ofNat (len S))) false),
   beqB (Nat.beq 0 1) !bytesEq (itoaF n) D,
   beqB (Nat.beq 1 1) (beqB (!bytesEq (itoaF n) D) false),
   beqB (Nat.beq 1 1) (beqB (!bytesEq (itoaF n) D) false),
   beqB (Nat.beq 1 1) (beqB (!bytesEq (itoaF n) D) false),
   beqB (Nat.beq 1 1) (beqB (!bytesEq (itoaF n) D) false),
   beqB (Nat.beq 1 1) (beqB (!bytesEq (itoaF n) D) false),
   beqB (Nat.beq 1 1) (beqB (!bytesEq (itoaF n) D) false),
   E.ble 9223372036854775807,
   beqB (Nat.beq 1 1) (beqB (!bytesEq (itoaF n) D) false),
   beqB (Nat.beq 1 1) (beqB (!bytesEq (itoaF n) D) false),
   beqB (Nat.beq 1 1) (beqB (!bytesEq (itoaF n) D) false),
   true,
   true,
   true,
   true,
   true,
   true,
   F.ble 9223372036854775807,
   (at_.add (len D)).ble 9223372036854775807,
   beqB (Nat.beq 1 1) !iLt 262144 (Int.ofNat n),
   beqB (Nat.beq 1 1) (beqB (!iLt 262144 (Int.ofNat n)) true),
   beqB (Nat.beq 1 1) (beqB (!iLt 262144 (Int.ofNat n)) true),
   n.blt 400,
   beqB (Nat.beq 1 1) (beqB (!iLt 262144 (Int.ofNat n)) true),
   beqB (Nat.beq 1 1) (beqB (!iLt 262144 (Int.ofNat n)) true),
   true,
   true,
   true,
   true,
   true,
   true,
   n.blt 400,
   bytesEq D (itoaF n),
   (k.add (len [58])).ble (len W),
   (len W).ble (len W),
   (k.add (len [58])).ble 9223372036854775807,
   true,
   k.ble (len W),
   true,
   optBeq (findByte 58 W 0) k,
   true,
   true,
   beqB (Nat.beq 0 1) (bytesEq [58] W),
   true,
   true,
   true,
   true,
   at_.ble hi,
   hi.ble (len S),
   beqB (Nat.beq b 1) ((at_.add 8).blt (len S)),
   (at_.add 8).ble 9223372036854775807]
noncomputable def rdO (S : List UInt8) (a : Nat) : AObj := .cells [strV S, intV a, .bool false] 141 0 0
theorem textRun1 (S : List UInt8) (at_ k n : Nat) : look 12 (acall (ET k n) 200 97 [ptrV 12 0] (hOneP (rdO S at_) (bits (bsT 1) 0))) =
    some (strV (List.take (((frT at_ (dT k (wT S at_ (at_.add 8)))).add n).sub (frT at_ (dT k (wT S at_ (at_.add 8))))) (List.drop (frT at_ (dT k (wT S at_ (at_.add 8)))) S)),
      rdO S (((frT at_ (dT k (wT S at_ (at_.add 8)))).add n).add 1), [12],
      obT S (wT S at_ (at_.add 8)) (dT k (wT S at_ (at_.add 8))) at_ k n 1 (at_.add 8) (frT at_ (dT k (wT S at_ (at_.add 8)))) ((frT at_ (dT k (wT S at_ (at_.add 8)))).add n)) := by kernel_rfl
theorem textRun0 (S : List UInt8) (at_ k n : Nat) : look 12 (acall (ET k n) 200 97 [ptrV 12 0] (hOneP (rdO S at_) (bits (bsT 0) 0))) =
    some (strV (List.take (((frT at_ (dT k (wT S at_ (len S)))).add n).sub (frT at_ (dT k (wT S at_ (len S))))) (List.drop (frT at_ (dT k (wT S at_ (len S)))) S)),
      rdO S (((frT at_ (dT k (wT S at_ (len S)))).add n).add 1), [12],
      obT S (wT S at_ (len S)) (dT k (wT S at_ (len S))) at_ k n 0 (len S) (frT at_ (dT k (wT S at_ (len S)))) ((frT at_ (dT k (wT S at_ (len S)))).add n)) := by kernel_rfl
theorem obT_all {S W D : List UInt8} {at_ k n b hi F E : Nat} (a0 : Nat.ble (Nat.add at_ 8) 9223372036854775807 = true) (a1 : beqB (Nat.beq b 1) (Nat.blt (Nat.add at_ 8) (len S)) = true) (a2 : Nat.ble hi (len S) = true) (a3 : Nat.ble at_ hi = true)
    (a8 : bytesEq [58] W = false) (a11 : optBeq (findByte 58 W 0) k = true) (a13 : Nat.ble k (len W) = true) (a15 : Nat.ble (Nat.add k (len [58])) 9223372036854775807 = true) (a16 : Nat.ble (len W) (len W) = true) (a17 : Nat.ble (Nat.add k (len [58])) (len W) = true)
    (a18 : bytesEq D (itoaF n) = true) (a40 : bytesEq (itoaF n) D = true) (a19 : Nat.blt n 400 = true) (a26 : iLt 262144 (Int.ofNat n) = false) (a32 : Nat.ble (Nat.add at_ (len D)) 9223372036854775807 = true) (a33 : Nat.ble F 9223372036854775807 = true)
    (a43 : Nat.ble E 9223372036854775807 = true) (a51 : iLt (Int.ofNat E) (Int.ofNat (len S)) = true) (a60 : Nat.blt E (len S) = true) (a63 : iEq (Int.ofNat (nthD S E).toNat) 44 = true) (a65 : Nat.ble (Nat.add E 1) 9223372036854775807 = true)
    (a67 : Nat.ble E (len S) = true) (a68 : Nat.ble F E = true) : ∀ x ∈ obT S W D at_ k n b hi F E, x = true := by
  intro x hx
  unfold obT at hx
  simp only [List.mem_cons, List.not_mem_nil, or_false] at hx
  rcases hx with hx | hx | hx | hx | hx | hx | hx | hx | hx | hx | hx | hx | hx | hx | hx | hx | hx | hx | hx | hx | hx | hx | hx | hx | hx | hx | hx | hx | hx | hx | hx | hx | hx | hx | hx | hx | hx | hx | hx | hx | hx | hx | hx | hx | hx | hx | hx | hx | hx | hx | hx | hx | hx | hx | hx | hx | hx | hx | hx | hx | hx | hx | hx | hx | hx | hx | hx | hx | hx
  all_goals (subst hx; first | rfl | assumption | (rw [a8]; rfl) | (rw [a26]; rfl) | (rw [a40]; rfl) | (rw [a51]; rfl) | (rw [a63]; rfl))
end Go.Proofs.YtkmbkejmfffafaaGreatDoor.Refl
namespace Go.Proofs.YtkmbkejmfffafaaGreatDoor.Refl
open Go Go.RowKit
set_option linter.unusedVariables false
set_option linter.unusedSimpArgs false
set_option maxRecDepth 100000
noncomputable def itoaNice (n : Nat) : Bool := match Nat.ble (len (itoaF n)) 3 with
  | false => false
  | true => match Nat.ble 1 (len (itoaF n)) with
    | false => false
    | true => allB (fun b => !Nat.beq b.toNat 58) (itoaF n)
theorem itoaNiceAll : allB itoaNice (upTo 400 []) = true := by kernel_rfl
theorem itoa_nice {n : Nat} (h : n < 400) : (itoaF n).length ≤ 3 ∧ 1 ≤ (itoaF n).length ∧ ∀ b ∈ itoaF n, b.toNat ≠ 58 := by
  have hk := (allB_eq _ _).1 itoaNiceAll n ((upTo_mem 400 [] n).2 (.inl h))
  unfold itoaNice at hk
  rw [len_eq] at hk
  cases h1 : Nat.ble (itoaF n).length 3 with
  | false => simp [h1] at hk
  | true =>
  simp only [h1] at hk
  cases h2 : Nat.ble 1 (itoaF n).length with
  | false => simp [h2] at hk
  | true =>
  simp only [h2] at hk
  refine ⟨Nat.le_of_ble_eq_true h1, Nat.le_of_ble_eq_true h2, fun b hb => ?_⟩
  have := (allB_eq _ _).1 hk b hb
  rw [bq] at this
  simpa using this
theorem findByte_at {c : UInt8} : ∀ (l r : List UInt8) (i : Nat), (∀ b ∈ l, b.toNat ≠ c.toNat) → findByte c (l ++ c :: r) i = some (i + l.length)
  | [], r, i, _ => by
    show (match Nat.beq c.toNat c.toNat with | true => some i | false => findByte c r (i + 1)) = _
    rw [bq]; simp
  | b :: l, r, i, h => by
    show (match Nat.beq b.toNat c.toNat with | true => some i | false => findByte c (l ++ c :: r) (i + 1)) = _
    rw [bq]
    have hb : b.toNat ≠ c.toNat := h b (by simp)
    simp only [hb, decide_false]
    rw [findByte_at l r (i + 1) fun x hx => h x (by simp [hx])]
    simp; omega
theorem partF_eq (p : List UInt8) : partF p = itoaF p.length ++ 58 :: (p ++ [44]) := by
  unfold partF
  simp [app_eq, len_eq]
theorem text_facts {S p R : List UInt8} {at_ hi b : Nat} (hD : S.drop at_ = partF p ++ R) (hp : p.length < 400) (hS : S.length ≤ 1099511627776)
    (hh : (hi = at_ + 8 ∧ b = 1 ∧ at_ + 8 < S.length) ∨ (hi = S.length ∧ b = 0 ∧ ¬ at_ + 8 < S.length)) :
    let k := (itoaF p.length).length
    let W := wT S at_ hi
    let D := dT k W
    let F := frT at_ D
    let E := F.add p.length
    (∀ x ∈ obT S W D at_ k p.length b hi F E, x = true) ∧ List.take (E.sub F) (List.drop F S) = p ∧ E.add 1 = at_ + (partF p).length := by
  intro k W D F E
  obtain ⟨n1, n2, n3⟩ := itoa_nice hp
  have hk : k = (itoaF p.length).length := rfl
  rw [← hk] at n1 n2
  have hP : S.drop at_ = itoaF p.length ++ 58 :: (p ++ 44 :: R) := by rw [hD, partF_eq]; simp
  have hlen : S.length - at_ = k + 1 + (p.length + (1 + R.length)) := by
    have := congrArg List.length hP
    simp at this
    omega
  have hpl : (partF p).length = k + 1 + (p.length + 1) := by rw [partF_eq]; simp; omega
  have hw : W = itoaF p.length ++ 58 :: List.take (hi - at_ - k - 1) (p ++ 44 :: R) := by
    show List.take (hi - at_) (S.drop at_) = _
    rw [hP, List.take_append, List.take_of_length_le (by omega)]
    congr 1
    have : hi - at_ - (itoaF p.length).length = (hi - at_ - k - 1) + 1 := by omega
    rw [this, List.take_succ_cons]
    first | done | (congr 1)
  have hd : D = itoaF p.length := by
    show List.take k W = _
    rw [hw, List.take_append, List.take_of_length_le (by omega)]
    simp [hk]
  have hWl : k + 1 ≤ W.length := by rw [hw]; simp; omega
  have hF : F = at_ + k + 1 := by show at_ + len D + 1 = _; rw [len_eq, hd]
  have hE : E = at_ + k + 1 + p.length := by show F + p.length = _; rw [hF]
  have hEl : E < S.length := by omega
  have hat : at_ ≤ S.length := by omega
  have hget : S[E]? = some 44 := by
    have e1 : S[E]? = (S.drop at_)[E - at_]? := by rw [List.getElem?_drop]; congr 1; omega
    rw [e1, hP, List.getElem?_append_right (by omega)]
    have e2 : E - at_ - (itoaF p.length).length = p.length + 1 := by omega
    rw [e2, List.getElem?_cons_succ, List.getElem?_append_right (by omega)]
    simp
  have hnth : nthD S E = 44 := by unfold nthD; rw [nth_eq, hget]
  refine ⟨obT_all ?_ ?_ ?_ ?_ ?_ ?_ ?_ ?_ ?_ ?_ ?_ ?_ ?_ ?_ ?_ ?_ ?_ ?_ ?_ ?_ ?_ ?_ ?_, ?_, ?_⟩
  · rw [ble_eq]; exact decide_eq_true (show at_ + 8 ≤ 9223372036854775807 by omega)
  · rw [blt_eq, len_eq]
    show beqB (Nat.beq b 1) (decide (at_ + 8 < S.length)) = true
    rcases hh with ⟨_, rfl, h3⟩ | ⟨_, rfl, h3⟩
    · simp [h3, beqB]
    · simp [h3, beqB]
  · rw [ble_eq, len_eq]; simp; omega
  · rw [ble_eq]; simp; omega
  · rw [bytesEq_eq]
    have : [58] ≠ W := fun e => by rw [← e] at hWl; simp at hWl; omega
    simp [this]
  · have : findByte 58 W 0 = some k := by
      rw [hw, findByte_at (c := 58) _ _ _ (fun b hb => n3 b hb)]
      simp [hk]
    rw [this]
    show Nat.beq k k = true
    rw [bq]; simp
  · rw [ble_eq, len_eq]; simp; omega
  · rw [ble_eq]; exact decide_eq_true (show k + 1 ≤ 9223372036854775807 by omega)
  · rw [ble_eq]; simp
  · rw [ble_eq, len_eq, len_eq]; exact decide_eq_true (show k + 1 ≤ W.length by omega)
  · rw [bytesEq_eq, hd]; simp
  · rw [bytesEq_eq, hd]; simp
  · rw [blt_eq]; simp [hp]
  · rw [iLt_eq]; simp; omega
  · rw [ble_eq, len_eq, hd]; exact decide_eq_true (show at_ + k ≤ 9223372036854775807 by omega)
  · rw [ble_eq]; simp; omega
  · rw [ble_eq]; simp; omega
  · rw [iLt_eq, len_eq]; simp; omega
  · rw [blt_eq, len_eq]; simp [hEl]
  · rw [hnth, iEq_eq]; rfl
  · rw [ble_eq]; exact decide_eq_true (show E + 1 ≤ 9223372036854775807 by omega)
  · rw [ble_eq, len_eq]; simp; omega
  · rw [ble_eq]; simp; omega
  · have e1 : E.sub F = p.length := by show E - F = _; omega
    have e2 : S.drop F = p ++ 44 :: R := by
      have : S.drop F = (S.drop at_).drop (k + 1) := by rw [List.drop_drop]; (congr 1 <;> omega)
      rw [this, hP, List.drop_append]
      have e3 : k + 1 - (itoaF p.length).length = 1 := by omega
      rw [e3, List.drop_of_length_le (by omega)]
      first | done | simp
    rw [e1, e2]; simp
  · show E + 1 = _; omega
noncomputable def yText2 (p : List UInt8) (b : Nat) (s : List UInt8) (at_ : Nat) (nn : Bool) (h : AH) : AR :=
  some (strV p, (((((h.tick).owe (beqB nn false)).owe (bytesEq (List.take (len (partF p)) (List.drop at_ s)) (partF p))).owe (Nat.blt (len p) 400)).owe (Nat.ble (len s) 1099511627776)).write b (rdO s (Nat.add at_ (len (partF p)))))
noncomputable def yText1 (tab : List (Nat × List UInt8)) (b : Nat) (cs : List Value) (h : AH) : AR := match cs with
  | [x, y, z] => match asStr x with
    | none => none
    | some s => match asNat y with
      | none => none
      | some a => match kEq .i64 (match asInt y with | some i => i.k | none => .u8) with
        | false => none
        | true => match asBool z with
          | none => none
          | some nn => match assoc h.cnt tab with
            | none => none
            | some p => yText2 p b s a nn h
  | _ => none
noncomputable def yText3 (tab : List (Nat × List UInt8)) (b : Nat) (o : AObj) (h : AH) : AR := match o with
  | .cells cs e fz kd => match Nat.beq e 141 with
    | false => none
    | true => match Nat.beq fz 0 with
      | false => none
      | true => match Nat.beq kd 0 with
        | false => none
        | true => yText1 tab b cs h
  | _ => none
noncomputable def yText (tab : List (Nat × List UInt8)) : XF := x1 fun x h => match asPtr x with
  | none => none
  | some p => match p with
    | ⟨b, off⟩ => match Nat.beq off 0 with
      | false => none
      | true => match isTab p10 264 (h.obj 2) with
        | false => none
        | true => match Nat.ble 12 b with
          | false => none
          | true => yText3 tab b (h.obj b) h
theorem yText_some {tab : List (Nat × List UInt8)} {args : List Value} {h h1 : AH} {r : Value} (hx : yText tab args h = some (r, h1)) :
    ∃ b S a nn p, args = [ptrV b 0] ∧ 12 ≤ b ∧ isTab p10 264 (h.obj 2) = true ∧ h.obj b = .cells [strV S, intV a, .bool nn] 141 0 0 ∧ r = strV p ∧
      h1 = (((((h.tick).owe (beqB nn false)).owe (bytesEq (List.take (len (partF p)) (List.drop a S)) (partF p))).owe (Nat.blt (len p) 400)).owe (Nat.ble (len S) 1099511627776)).write b (rdO S (Nat.add a (len (partF p)))) := by
  obtain ⟨x, rfl, hx'⟩ := y1_some hx
  clear hx
  have hx := hx'
  clear hx'
  cases hp : asPtr x with
  | none => simp [hp] at hx
  | some q =>
  obtain ⟨b, off⟩ := q
  simp only [hp] at hx
  cases h0 : Nat.beq off 0 with
  | false => simp [h0] at hx
  | true =>
  simp only [h0] at hx
  obtain rfl := Nat.eq_of_beq_eq_true h0
  cases ht : isTab p10 264 (h.obj 2) with
  | false => simp [ht] at hx
  | true =>
  simp only [ht] at hx
  cases hbb : Nat.ble 12 b with
  | false => simp [hbb] at hx
  | true =>
  simp only [hbb] at hx
  unfold yText3 at hx
  cases ho : h.obj b with
  | cells cs e fz kd =>
    simp only [ho] at hx
    cases g1 : Nat.beq e 141 with
    | false => simp [g1] at hx
    | true =>
    simp only [g1] at hx
    cases g2 : Nat.beq fz 0 with
    | false => simp [g2] at hx
    | true =>
    simp only [g2] at hx
    cases g3 : Nat.beq kd 0 with
    | false => simp [g3] at hx
    | true =>
    simp only [g3] at hx
    obtain rfl := Nat.eq_of_beq_eq_true g1
    obtain rfl := Nat.eq_of_beq_eq_true g2
    obtain rfl := Nat.eq_of_beq_eq_true g3
    unfold yText1 at hx
    match cs, hx, ho with
    | [], hx, _ => simp at hx
    | [_], hx, _ => simp at hx
    | [_, _], hx, _ => simp at hx
    | _ :: _ :: _ :: _ :: _, hx, _ => simp at hx
    | [u, y, z], hx, ho =>
      simp only at hx
      cases hs : asStr u with
      | none => simp [hs] at hx
      | some S =>
      simp only [hs] at hx
      cases hn : asNat y with
      | none => simp [hn] at hx
      | some a =>
      simp only [hn] at hx
      obtain ⟨kk, rfl⟩ := asNat_some hn
      have hai : asInt (.int kk (a : Int)) = some ⟨kk, a⟩ := rfl
      rw [hai] at hx
      simp only at hx
      cases hk : kEq .i64 kk with
      | false => simp [hk] at hx
      | true =>
      simp only [hk] at hx
      obtain rfl := kEq_true hk
      cases hb : asBool z with
      | none => simp [hb] at hx
      | some nn =>
      simp only [hb] at hx
      cases hq : assoc h.cnt tab with
      | none => simp [hq] at hx
      | some p =>
      simp only [hq] at hx
      unfold yText2 at hx
      simp only [Option.some.injEq, Prod.mk.injEq] at hx
      have hz : z = .bool nn := by cases z <;> simp [asBool] at hb; rw [hb]
      have hxp : x = ptrV b 0 := asPtr_some hp
      exact ⟨b, S, a, nn, p, by rw [hxp], Nat.le_of_ble_eq_true hbb, rfl, by rw [ho, asStr_some hs, hz]; rfl, hx.1.symm, hx.2.symm⟩
  | _ => simp [ho] at hx
theorem Up.tick (h : AH) : Up h h.tick := by
  obtain ⟨t, n, log, sym, cnt, orc, ob⟩ := h
  exact ⟨rfl, rfl, rfl, rfl, id⟩
theorem look_some {b : Nat} {r : AR} {q : Value × AObj × List Nat × List Bool} (h : look b r = some q) : ∃ h1, r = some (q.1, h1) ∧ h1.obj b = q.2.1 ∧ h1.log = q.2.2.1 ∧ h1.ob = q.2.2.2 := by
  unfold look at h
  cases r with
  | none => simp at h
  | some p =>
    obtain ⟨v, h1⟩ := p
    simp at h
    subst h
    exact ⟨h1, rfl, rfl, rfl, rfl⟩
theorem hOneP_obj (o : AObj) (orc : List (Nat × Bool)) (x : Nat) : (hOneP o orc).obj x = if x = 12 then o else if x = 2 then .cells p10 264 20 2 else .dead := by
  rw [AH.obj_def]
  show (if x < 13 then objIn ((Tr.nil.set 2 (.cells p10 264 20 2)).set 12 o) x else .dead) = _
  rw [objIn_set, objIn_set]
  have : objIn (Tr.nil : Tr AObj) x = .dead := by unfold objIn; rw [Tr.get_nil]
  rw [this]
  by_cases h1 : x = 12
  · subst h1; simp
  · by_cases h2 : x = 2
    · subst h2; simp
    · simp [h1, h2]
def eOne (b x : Nat) : Option Nat := if x < 12 then some x else if x = 12 then some b else none
theorem eOne_some {b x c : Nat} (h : eOne b x = some c) : (x < 12 ∧ c = x) ∨ (x = 12 ∧ c = b) := by
  unfold eOne at h
  by_cases h1 : x < 12
  · rw [if_pos h1] at h; exact .inl ⟨h1, (Option.some.inj h).symm⟩
  · rw [if_neg h1] at h
    by_cases h2 : x = 12
    · rw [if_pos h2] at h; exact .inr ⟨h2, (Option.some.inj h).symm⟩
    · rw [if_neg h2] at h; cases h
theorem rdO_flat (S : List UInt8) (a : Nat) : flatO (rdO S a) := fun v hv => by
  simp [rdO] at hv
  rcases hv with rfl | rfl | rfl <;> rfl
theorem text_ok {S p R : List UInt8} {at_ b : Nat} {h h' : AH} {ρ : Ren} {w : World} {args' : List Value} (hD : S.drop at_ = partF p ++ R) (hp : p.length < 400) (hS : S.length ≤ 1099511627776)
    (ht : isTab p10 264 (h.obj 2) = true) (ho : h.obj b = rdO S at_) (hb12 : 12 ≤ b) (hh : h' = h.write b (rdO S (at_ + (partF p).length))) (hg : GL 12 ρ) (hr : Rel Tryz.prog.cellsOf ρ h w) (hl : LR ρ [ptrV b 0] args') :
    Ans Tryz.prog 97 args'.toArray w fun v w' => v = strV p ∧ Step Tryz.prog.cellsOf ρ h w ρ h' w' := by
  have hE : EnvF Tryz.prog (ET (itoaF p.length).length p.length) 12 := envT_ok fun x hx => by
    simp at hx
    rcases hx with rfl | rfl | rfl
    · exact xItoa_ok
    · exact xAtoiN_ok _
    · exact xIdxK_ok _
  have hbn : b < h.n := lt_of_obj ho (by simp [rdO])
  have main : ∀ (bit hi : Nat) (hm1 : AH), ((hi = at_ + 8 ∧ bit = 1 ∧ at_ + 8 < S.length) ∨ (hi = S.length ∧ bit = 0 ∧ ¬ at_ + 8 < S.length)) →
      acall (ET (itoaF p.length).length p.length) 200 97 [ptrV 12 0] (hOneP (rdO S at_) (bits (bsT bit) 0)) = some (strV p, hm1) → hm1.obj 12 = rdO S (at_ + (partF p).length) → hm1.log = [12] → OB hm1 →
      Ans Tryz.prog 97 args'.toArray w fun v w' => v = strV p ∧ Step Tryz.prog.cellsOf ρ h w ρ h' w' := by
    intro bit hi hm1 hc hx h12 hlog hob
    have sub : Sub (eOne b) (hOneP (rdO S at_) (bits (bsT bit) 0)) h := by
      refine ⟨fun x c hx => ?_, fun x y c hx hy => ?_, fun x c hx => ?_, fun x hx => ?_⟩
      · show x < 13
        rcases eOne_some hx with ⟨h1, _⟩ | ⟨h1, _⟩ <;> omega
      · rcases eOne_some hx with ⟨h1, h2⟩ | ⟨h1, h2⟩ <;> rcases eOne_some hy with ⟨h3, h4⟩ | ⟨h3, h4⟩ <;> omega
      · rw [hOneP_obj]
        rcases eOne_some hx with ⟨h1, rfl⟩ | ⟨rfl, rfl⟩
        · rw [if_neg (by omega)]
          by_cases h2 : c = 2
          · subst h2
            rw [if_pos rfl]
            exact .inr ⟨lt_of_obj (isP10 ht) (by simp), isP10 ht⟩
          · rw [if_neg h2]; exact .inl rfl
        · rw [if_pos rfl]
          exact .inr ⟨hbn, ho⟩
      · rw [hOneP_obj]
        by_cases h1 : x = 12
        · rw [if_pos h1]; exact rdO_flat _ _
        · rw [if_neg h1]
          by_cases h2 : x = 2
          · rw [if_pos h2]; exact p10_flat
          · rw [if_neg h2]; trivial
    have hargs : LR (fun x => (eOne b x).bind ρ) [ptrV 12 0] args' := by
      cases hl with
      | cons h1 h2 =>
        cases h2
        refine .cons ?_ .nil
        cases h1 with
        | ptr ha =>
          obtain ⟨a1, a2, im, a3, a4, a5⟩ := ha
          exact .ptr ⟨rfl, a2, im, by simp [eOne]; exact a3, a4, a5⟩
    refine local_ok hE hx hob sub (fun g hlt => by unfold eOne; rw [if_pos hlt]) hg hr hargs (strV_flat _) ?_
    subst hh
    refine ⟨rfl, fun c hc hno => ?_, fun x c hx hex => ?_, fun c => ?_, rfl⟩
    · refine write_obj_other h _ fun e => ?_
      subst e
      exact hno 12 (by rw [hlog]; simp) (by simp [eOne])
    · rw [hlog] at hx
      simp at hx
      subst hx
      have : c = b := by simpa [eOne] using hex.symm
      subst this
      rw [write_obj_same h _ hbn, h12]
      exact ⟨.inr ⟨rfl, rdO_flat _ _⟩, by rw [hOneP_obj, if_pos rfl]; simp [rdO]⟩
    · rw [write_log, mem_addLog, hlog]
      constructor
      · rintro (rfl | hc)
        · exact .inr ⟨12, by simp, by simp [eOne]⟩
        · exact .inl hc
      · rintro (hc | ⟨x, hx, hex⟩)
        · exact .inr hc
        · simp at hx
          subst hx
          left
          simpa [eOne] using hex.symm
  by_cases hc : at_ + 8 < S.length
  · obtain ⟨k1, k2, k3⟩ := text_facts (hi := at_ + 8) (b := 1) hD hp hS (.inl ⟨rfl, rfl, hc⟩)
    obtain ⟨hm1, q1, q2, q3, q4⟩ := look_some (textRun1 S at_ (itoaF p.length).length p.length)
    refine main 1 (at_ + 8) hm1 (.inl ⟨rfl, rfl, hc⟩) ?_ ?_ q3 (fun x hx => k1 x (by rw [q4] at hx; exact hx))
    · rw [q1]; exact congrArg (fun l => some (strV l, hm1)) k2
    · rw [q2]; exact congrArg (rdO S) k3
  · obtain ⟨k1, k2, k3⟩ := text_facts (hi := S.length) (b := 0) hD hp hS (.inr ⟨rfl, rfl, hc⟩)
    obtain ⟨hm1, q1, q2, q3, q4⟩ := look_some (textRun0 S at_ (itoaF p.length).length p.length)
    rw [len_eq] at q1 q2 q4
    refine main 0 S.length hm1 (.inr ⟨rfl, rfl, hc⟩) ?_ ?_ q3 (fun x hx => k1 x (by rw [q4] at hx; exact hx))
    · rw [q1]; exact congrArg (fun l => some (strV l, hm1)) k2
    · rw [q2]; exact congrArg (rdO S) k3
theorem yText_ok (tab : List (Nat × List UInt8)) : ExtOK Tryz.prog 12 97 (yText tab) where
  fwd := fun args h r h1 hx => by
    obtain ⟨b, S, a, nn, p, _, _, _, _, _, rfl⟩ := yText_some hx
    exact (((((Up.tick h).trans (Up.owe _ _)).trans (Up.owe _ _)).trans (Up.owe _ _)).trans (Up.owe _ _)).fwd.trans (.write _ _ _)
  run := fun args h r h1 hx hob ρ w args' hg hr hf hl => by
    obtain ⟨b, S, a, nn, p, rfl, hb12, ht, ho, rfl, rfl⟩ := yText_some hx
    have u := ((((Up.tick h).trans (Up.owe _ (beqB nn false))).trans (Up.owe _ (bytesEq (List.take (len (partF p)) (List.drop a S)) (partF p)))).trans (Up.owe _ (Nat.blt (len p) 400))).trans (Up.owe _ (Nat.ble (len S) 1099511627776))
    have hob' : OB ((((h.tick.owe (beqB nn false)).owe (bytesEq (List.take (len (partF p)) (List.drop a S)) (partF p))).owe (Nat.blt (len p) 400)).owe (Nat.ble (len S) 1099511627776)) := hob
    obtain ⟨q1, b4⟩ := ob_owe hob'
    obtain ⟨q2, b3⟩ := ob_owe q1
    obtain ⟨q3, b2⟩ := ob_owe q2
    obtain ⟨q4, b1⟩ := ob_owe q3
    have hnn : nn = false := beqB_true b1
    subst hnn
    rw [ble_eq, len_eq] at b4
    rw [blt_eq, len_eq] at b3
    rw [bytesEq_eq, len_eq] at b2
    have b4 : S.length ≤ 1099511627776 := by simpa using b4
    have b3 : p.length < 400 := by simpa using b3
    have b2 : List.take (partF p).length (List.drop a S) = partF p := by simpa using b2
    have hD : S.drop a = partF p ++ (S.drop a).drop (partF p).length := by
      have := List.take_append_drop (partF p).length (S.drop a)
      rw [b2] at this; exact this.symm
    · refine Ans.mono (text_ok (h' := h.write b (rdO S (a + (partF p).length))) hD b3 b4 ht ho hb12 rfl hg hr hl) fun v w' hq => ?_
      obtain ⟨rfl, st⟩ := hq
      refine ⟨ρ, strV_flat _ |> flat_VR ρ 5 _, ?_⟩
      rw [len_eq]
      have hf2 : Fr ρ h.n ((((h.tick.owe (beqB false false)).owe (bytesEq (List.take (len (partF p)) (List.drop a S)) (partF p))).owe (Nat.blt (len p) 400)).owe (Nat.ble (len S) 1099511627776)).n := fun x h1 h2 => by rw [u.n] at h2; omega
      exact Step.trans hf st (.same st.rel (u.write _ _).t (u.write _ _).n (u.write _ _).log rfl (Str.refl _))
end Go.Proofs.YtkmbkejmfffafaaGreatDoor.Refl
namespace Go.Proofs.YtkmbkejmfffafaaGreatDoor.Refl
open Go Go.RowKit
set_option linter.unusedVariables false
set_option linter.unusedSimpArgs false
set_option maxRecDepth 100000
noncomputable def sP (l : List (List UInt8)) (k : Nat) : List UInt8 := List.foldl (fun a p => app a (partF p)) [] (List.take k l)
noncomputable def nP (l : List (List UInt8)) (k : Nat) : Nat := List.foldl (fun a p => Nat.add a (len (partF p))) 0 (List.take k l)
theorem foldS : ∀ (l : List (List UInt8)) (a : List UInt8), List.foldl (fun a p => app a (partF p)) a l = a ++ (l.map partF).flatten
  | [], a => by simp
  | p :: l, a => by rw [List.foldl_cons, foldS l, app_eq]; simp
theorem foldN : ∀ (l : List (List UInt8)) (a : Nat), List.foldl (fun a p => Nat.add a (len (partF p))) a l = a + ((l.map partF).flatten).length
  | [], a => by simp
  | p :: l, a => by
    rw [List.foldl_cons, foldN l, len_eq]
    show a + (partF p).length + _ = _
    simp; omega
theorem sP_eq (l : List (List UInt8)) (k : Nat) : sP l k = ((l.take k).map partF).flatten := by unfold sP; rw [foldS]; simp
theorem nP_eq (l : List (List UInt8)) (k : Nat) : nP l k = (sP l k).length := by unfold nP; rw [foldN, sP_eq]; simp
theorem partF_len {p : List UInt8} (h : p.length < 400) : 3 ≤ (partF p).length ∧ (partF p).length ≤ 404 := by
  obtain ⟨h1, h2, _⟩ := itoa_nice h
  rw [partF_eq]
  simp
  omega
theorem flat_len : ∀ (l : List (List UInt8)), (∀ p ∈ l, p.length < 400) → ((l.map partF).flatten).length ≤ 404 * l.length
  | [], _ => by simp
  | p :: l, h => by
    have h1 := flat_len l fun q hq => h q (by simp [hq])
    have h2 := (partF_len (h p (by simp))).2
    simp only [List.map_cons, List.flatten_cons, List.length_append, List.length_cons]
    omega
theorem nP_le {l : List (List UInt8)} (h : ∀ p ∈ l, p.length < 400) (k : Nat) : nP l k ≤ 404 * l.length := by
  rw [nP_eq, sP_eq]
  have := flat_len (l.take k) fun p hp => h p (List.mem_of_mem_take hp)
  have h2 : (l.take k).length ≤ l.length := by simp; omega
  omega
theorem nP_pos {l : List (List UInt8)} (h : ∀ p ∈ l, p.length < 400) {k : Nat} (hk : 0 < k) (hl : l ≠ []) : 0 < nP l k := by
  rw [nP_eq, sP_eq]
  cases l with
  | nil => exact absurd rfl hl
  | cons p l =>
    cases k with
    | zero => omega
    | succ k =>
      have := (partF_len (h p (by simp))).1
      simp only [List.take_succ_cons, List.map_cons, List.flatten_cons, List.length_append]
      omega
theorem part_at {l : List (List UInt8)} {k n : Nat} {p : List UInt8} (hp : l[k]? = some p) (hn : l.length ≤ n) : List.take (len (partF p)) (List.drop (nP l k) (sP l n)) = partF p := by
  have hlt : k < l.length := (List.getElem?_eq_some_iff.1 hp).1
  have e : l = l.take k ++ p :: l.drop (k + 1) := by
    have := List.take_append_drop k l
    rw [List.drop_eq_getElem_cons hlt] at this
    rw [(List.getElem?_eq_some_iff.1 hp).2] at this
    exact this.symm
  have e2 : sP l n = ((l.take k).map partF).flatten ++ (partF p ++ ((l.drop (k + 1)).map partF).flatten) := by
    rw [sP_eq, List.take_of_length_le hn]
    conv => lhs; rw [e]
    simp
  rw [nP_eq, sP_eq l k, e2, len_eq, List.drop_left, List.take_left]
end Go.Proofs.YtkmbkejmfffafaaGreatDoor.Refl
namespace Go.Proofs.YtkmbkejmfffafaaGreatDoor.Refl
open Go Go.RowKit
set_option linter.unusedVariables false
set_option linter.unusedSimpArgs false
set_option maxRecDepth 100000
noncomputable def envS (plug : List (Nat × XF)) (told : Tr (List UInt8)) : Env := { envT plug with told := told }
theorem envS_ok {plug : List (Nat × XF)} {told : Tr (List UInt8)} (hp : ∀ x ∈ plug, ExtOK Tryz.prog 12 x.1 x.2) : EnvF Tryz.prog (envS plug told) 12 := by
  have h := envT_ok hp
  exact { ty := h.ty, types := h.types, zeros := h.zeros, sizes := h.sizes, eqs := h.eqs, meth := h.meth, fn := h.fn, ext := h.ext, mixed := h.mixed }
noncomputable def pB (p : Prop) : Bool := @decide p (Classical.propDecidable p)
theorem pB_of {p : Prop} (h : p) : pB p = true := @decide_eq_true p (Classical.propDecidable p) h
theorem of_pB {p : Prop} (h : pB p = true) : p := @of_decide_eq_true p (Classical.propDecidable p) h
noncomputable def isMax (o : AObj) : Bool := match o with
  | .cells cs e fz kd => match cs with
    | [v] => match asInt v with
      | some i => kEq .i64 i.k
      | none => false
    | _ => false
  | _ => false
noncomputable def tabsOK (h : AH) : Bool := match isTab p10 264 (h.obj 2) with
  | false => false
  | true => match isTab asc 166 (h.obj 0) with
    | false => false
    | true => isMax (h.obj 4)
theorem tabsOK_some {h : AH} (k : tabsOK h = true) : isTab p10 264 (h.obj 2) = true ∧ isTab asc 166 (h.obj 0) = true ∧ isMax (h.obj 4) = true := by
  unfold tabsOK at k
  cases h1 : isTab p10 264 (h.obj 2) with
  | false => simp [h1] at k
  | true =>
  simp only [h1] at k
  cases h2 : isTab asc 166 (h.obj 0) with
  | false => simp [h2] at k
  | true =>
  simp only [h2] at k
  exact ⟨rfl, rfl, k⟩
noncomputable def tbOK (tb : Bool) (h : AH) : Bool := match tb with
  | false => true
  | true => tabsOK h
def Pure (tb : Bool) (f : Nat) (av : List Value) (r : Value) : Prop :=
  ∀ (h : AH) (ρ : Ren) (w : World) (args' : List Value), tbOK tb h = true → GL 12 ρ → Rel Tryz.prog.cellsOf ρ h w → LR ρ av args' →
    Ans Tryz.prog f args'.toArray w fun v w' => v = r ∧ Step Tryz.prog.cellsOf ρ h w ρ h w'
noncomputable def headVL (l : List Value) : (α : Type) → (List Value → α) → α :=
  List.rec (motive := fun _ => (α : Type) → (List Value → α) → α) (fun _ k => k []) (fun v _ ih α k => headV v α fun v => ih α fun l => k (v :: l)) l
theorem headVL_eq : ∀ (l : List Value) (α : Type) (k : List Value → α), headVL l α k = k l
  | [], α, k => rfl
  | v :: l, α, k => by
    show headV v α (fun v => headVL l α fun l => k (v :: l)) = _
    rw [headV_eq, headVL_eq l]
noncomputable def xTold (tb : Bool) (f : Nat) (tab : List (Nat × (List Value × Value))) : XF := fun args h => match assoc h.cnt tab with
  | none => none
  | some q => match q with
    | (av, r) => match tbOK tb h with
      | false => none
      | true => match flat 5 r with
        | false => none
        | true => headVL args AR fun args => some (r, ((h.tick).owe (pB (args = av))).owe (pB (Pure tb f av r)))
theorem xTold_some {tb : Bool} {f : Nat} {tab : List (Nat × (List Value × Value))} {args : List Value} {h h1 : AH} {r : Value} (hx : xTold tb f tab args h = some (r, h1)) :
    ∃ av, tbOK tb h = true ∧ flat 5 r = true ∧ h1 = ((h.tick).owe (pB (args = av))).owe (pB (Pure tb f av r)) := by
  unfold xTold at hx
  cases ha : assoc h.cnt tab with
  | none => simp [ha] at hx
  | some q =>
  obtain ⟨av, r'⟩ := q
  simp only [ha] at hx
  cases ht : tbOK tb h with
  | false => simp [ht] at hx
  | true =>
  simp only [ht] at hx
  cases hf : flat 5 r' with
  | false => simp [hf] at hx
  | true =>
  simp only [hf, headVL_eq, Option.some.injEq, Prod.mk.injEq] at hx
  obtain ⟨rfl, rfl⟩ := hx
  exact ⟨av, rfl, hf, rfl⟩
theorem xTold_ok (tb : Bool) (f : Nat) (tab : List (Nat × (List Value × Value))) : ExtOK Tryz.prog 12 f (xTold tb f tab) where
  fwd := fun args h r h1 hx => by
    obtain ⟨av, _, _, e⟩ := xTold_some hx
    rw [e]
    exact (((Up.tick h).trans (Up.owe _ _)).trans (Up.owe _ _)).fwd
  run := fun args h r h1 hx hob ρ w args' hg hr hf hl => by
    obtain ⟨av, ht, hfl, e⟩ := xTold_some hx
    subst e
    obtain ⟨q1, q2⟩ := ob_owe hob
    obtain ⟨q3, q4⟩ := ob_owe q1
    have ha : args = av := of_pB q4
    have hP : Pure tb f av r := of_pB q2
    subst ha
    exact ans_up (((Up.tick h).trans (Up.owe _ _)).trans (Up.owe _ _)) hfl (hP h ρ w args' ht hg hr hl)
noncomputable def hM (m : Int) (orc : List (Nat × Bool)) : AH := { t := (tabs.set 4 (.cells [.int .i64 m] 3 1 2)), n := 12, log := [], sym := true, cnt := 0, orc := orc, ob := [] }
end Go.Proofs.YtkmbkejmfffafaaGreatDoor.Refl
section
namespace Go.Proofs
open Go.Shelf
def Tryz.lays146_ren : Go.Shelf.Ren := ⟨fun | 146 => 31 | 221 => 58 | 268 => 100 | 138 => 101 | 143 => 99 | 195 => 143 | 197 => 144 | 218 => 145 | 219 => 142 | 260 => 186 | 217 => 182 | 225 => 183 | 224 => 184 | 267 => 185 | 266 => 214 | 314 => 215 | n => n, fun | 9 => 9 | 31 => 23 | 3 => 3 | 4 => 4 | 0 => 0 | 105 => 234 | 21 => 21 | 5 => 5 | 46 => 70 | 119 => 166 | 139 => 320 | 138 => 319 | 146 => 284 | 51 => 78 | n => n, fun | 1 => 4 | 3 => 5 | 4 => 6 | n => n⟩
theorem Tryz.lays146 : Go.Proofs.Lays.n146 Tryz.prog Tryz.lays146_ren := {
  mixed := by kernel_rfl
  f138 := Tryz.func101.trans (congrArg some (by kernel_rfl))
  f143 := Tryz.func99.trans (congrArg some (by kernel_rfl))
  f146 := Tryz.func31.trans (congrArg some (by kernel_rfl))
  f195 := Tryz.func143.trans (congrArg some (by kernel_rfl))
  f197 := Tryz.func144.trans (congrArg some (by kernel_rfl))
  f217 := Tryz.func182.trans (congrArg some (by kernel_rfl))
  f218 := Tryz.func145.trans (congrArg some (by kernel_rfl))
  f219 := Tryz.func142.trans (congrArg some (by kernel_rfl))
  f221 := Tryz.func58.trans (congrArg some (by kernel_rfl))
  f224 := Tryz.func184.trans (congrArg some (by kernel_rfl))
  f225 := Tryz.func183.trans (congrArg some (by kernel_rfl))
  f260 := Tryz.func186.trans (congrArg some (by kernel_rfl))
  f266 := Tryz.func214.trans (congrArg some (by kernel_rfl))
  f267 := Tryz.func185.trans (congrArg some (by kernel_rfl))
  f268 := Tryz.func100.trans (congrArg some (by kernel_rfl))
  f314 := Tryz.func215.trans (congrArg some (by kernel_rfl))
  t0 := Tryz.underlying0
  a0 := Tryz.isAgg0
  z0 := Tryz.sizeOf0
  v0 := Tryz.zeroValue0
  t3 := Tryz.underlying3
  a3 := Tryz.isAgg3
  z3 := Tryz.sizeOf3
  v3 := Tryz.zeroValue3
  t4 := Tryz.underlying4
  a4 := Tryz.isAgg4
  z4 := Tryz.sizeOf4
  v4 := Tryz.zeroValue4
  t5 := Tryz.underlying5
  a5 := Tryz.isAgg5
  z5 := Tryz.sizeOf5
  v5 := Tryz.zeroValue5
  t9 := Tryz.underlying9
  a9 := Tryz.isAgg9
  z9 := Tryz.sizeOf9
  v9 := Tryz.zeroValue9
  t21 := Tryz.underlying21
  a21 := Tryz.isAgg21
  z21 := Tryz.sizeOf21
  v21 := Tryz.zeroValue21
  t31 := Tryz.underlying23
  a31 := Tryz.isAgg23
  z31 := Tryz.sizeOf23
  v31 := Tryz.zeroValue23
  t46 := Tryz.underlying70
  a46 := Tryz.isAgg70
  z46 := Tryz.sizeOf70
  v46 := Tryz.zeroValue70
  t51 := Tryz.underlying78
  a51 := Tryz.isAgg78
  z51 := Tryz.sizeOf78
  v51 := Tryz.zeroValue78
  t105 := Tryz.underlying234
  a105 := Tryz.isAgg234
  z105 := Tryz.sizeOf234
  v105 := Tryz.zeroValue234
  t119 := Tryz.underlying166
  a119 := Tryz.isAgg166
  z119 := Tryz.sizeOf166
  t138 := Tryz.underlying319
  a138 := Tryz.isAgg319
  z138 := Tryz.sizeOf319
  v138 := Tryz.zeroValue319
  t139 := Tryz.underlying320
  a139 := Tryz.isAgg320
  z139 := Tryz.sizeOf320
  v139 := Tryz.zeroValue320
  t146 := Tryz.underlying284
  a146 := Tryz.isAgg284
  z146 := Tryz.sizeOf284
  v146 := Tryz.zeroValue284
  g1 := by kernel_rfl
  g3 := by kernel_rfl
  g4 := by kernel_rfl }
open Go.RowKit Go.Lib in
theorem Tryz.strings_Split (s sep : ByteArray) (m : Int) (w : World) (hs : s.size < 4294967281) (hm : w.cell? ⟨4, 0, none⟩ = some (.int .i64 m)) (h1 : 1 ≤ sep.size) :
    Calls Tryz.prog 31 #[.string s, .string sep] w fun e w' =>
      e = .returned (.slice (some ⟨w.heap.size, 0, none⟩) (Lib.countB s sep + 1) (Lib.countB s sep + 1)) ∧ w' = w.alloc (.cells ((Lib.splitB sep 0 (Lib.countB s sep) s).map Value.string).toArray 9) := Any.strings_Split Tryz.lays146 (by kernel_rfl) s sep m w hs hm h1
def Tryz.lays156_ren : Go.Shelf.Ren := ⟨fun | 156 => 39 | 165 => 62 | 166 => 27 | 169 => 29 | 240 => 56 | 241 => 102 | 276 => 96 | 277 => 146 | n => n, fun | 31 => 23 | 9 => 9 | 3 => 3 | 4 => 4 | 0 => 0 | 20 => 20 | 72 => 99 | 76 => 103 | 70 => 97 | 37 => 27 | 75 => 102 | 127 => 138 | 164 => 179 | 5 => 5 | 80 => 51 | n => n, fun | n => n⟩
theorem Tryz.lays156 : Go.Proofs.Lays.n156 Tryz.prog Tryz.lays156_ren := {
  mixed := by kernel_rfl
  f156 := Tryz.func39.trans (congrArg some (by kernel_rfl))
  f165 := Tryz.func62.trans (congrArg some (by kernel_rfl))
  f166 := Tryz.func27.trans (congrArg some (by kernel_rfl))
  f169 := Tryz.func29.trans (congrArg some (by kernel_rfl))
  f240 := Tryz.func56.trans (congrArg some (by kernel_rfl))
  f241 := Tryz.func102.trans (congrArg some (by kernel_rfl))
  f276 := Tryz.func96.trans (congrArg some (by kernel_rfl))
  f277 := Tryz.func146.trans (congrArg some (by kernel_rfl))
  t0 := Tryz.underlying0
  a0 := Tryz.isAgg0
  z0 := Tryz.sizeOf0
  v0 := Tryz.zeroValue0
  t3 := Tryz.underlying3
  a3 := Tryz.isAgg3
  z3 := Tryz.sizeOf3
  v3 := Tryz.zeroValue3
  t4 := Tryz.underlying4
  a4 := Tryz.isAgg4
  z4 := Tryz.sizeOf4
  v4 := Tryz.zeroValue4
  t9 := Tryz.underlying9
  a9 := Tryz.isAgg9
  z9 := Tryz.sizeOf9
  v9 := Tryz.zeroValue9
  t20 := Tryz.underlying20
  a20 := Tryz.isAgg20
  z20 := Tryz.sizeOf20
  v20 := Tryz.zeroValue20
  t31 := Tryz.underlying23
  a31 := Tryz.isAgg23
  z31 := Tryz.sizeOf23
  v31 := Tryz.zeroValue23
  t37 := Tryz.underlying27
  a37 := Tryz.isAgg27
  z37 := Tryz.sizeOf27
  v37 := Tryz.zeroValue27
  t70 := Tryz.underlying97
  a70 := Tryz.isAgg97
  z70 := Tryz.sizeOf97
  v70 := Tryz.zeroValue97
  t72 := Tryz.underlying99
  a72 := Tryz.isAgg99
  z72 := Tryz.sizeOf99
  v72 := Tryz.zeroValue99
  t75 := Tryz.underlying102
  a75 := Tryz.isAgg102
  z75 := Tryz.sizeOf102
  v75 := Tryz.zeroValue102
  t76 := Tryz.underlying103
  a76 := Tryz.isAgg103
  z76 := Tryz.sizeOf103
  v76 := Tryz.zeroValue103
  t127 := Tryz.underlying138
  a127 := Tryz.isAgg138
  z127 := Tryz.sizeOf138
  v127 := Tryz.zeroValue138
  t164 := Tryz.underlying179
  a164 := Tryz.isAgg179
  z164 := Tryz.sizeOf179
  v164 := Tryz.zeroValue179 }
theorem Tryz.Builder_Extra_156 : Builder.Extra Tryz.prog Tryz.lays156_ren := {
  sizeBuilder := by kernel_rfl
  liesBuilder := by kernel_rfl
  t5 := Tryz.underlying5
  a5 := Tryz.isAgg5
  z5 := Tryz.sizeOf5
  v5 := Tryz.zeroValue5
  infoByte := by kernel_rfl
  cellsByte := by kernel_rfl
  sizeByte := by kernel_rfl
  neB5 := by decide }
open Go.RowKit in
theorem Tryz.strings_Join (bk o c : Nat) (xs : List ByteArray) (sep : ByteArray) (w : World) (hcells : ∀ (j : Nat) x, xs[j]? = some x → w.cell? ⟨bk, o + j, none⟩ = some (.string x)) (hbk : bk < w.heap.size) (hN : xs.length ≤ 140737488355328) (hcap : xs.length ≤ c) (hlen : (Lib.join (xs.map (·.data.toList)) sep.data.toList).length ≤ 140737488355328) :
    Calls Tryz.prog 39 #[.slice (some ⟨bk, o, none⟩) xs.length c, .string sep] w fun e w' => e = .returned (.string ⟨(Lib.join (xs.map (·.data.toList)) sep.data.toList).toArray⟩) ∧ Below w.heap.size w w' := Any.strings_Join Tryz.lays156 Tryz.Builder_Extra_156 bk o c xs sep w hcells hbk hN hcap hlen
open Go.RowKit in
theorem Tryz.strings_Join_none (a : Option Addr) (c : Nat) (sep : ByteArray) (w : World) :
    Calls Tryz.prog 39 #[.slice a 0 c, .string sep] w fun e w' => e = .returned (.string ⟨#[]⟩) ∧ w' = w := Any.strings_Join_none Tryz.lays156 Tryz.Builder_Extra_156 a c sep w
end Go.Proofs
end
section
namespace Go.Proofs.YtkmbkejmfffafaaGreatDoorHand
open Go.RowKit Go.Proofs.YtkmbkejmfffafaaGreatDoorW.PrintWords Go.Proofs.YtkmbkejmfffafaaGreatDoorW.PrintLast Go.Proofs.YtkmbkejmfffafaaGreatDoorW.PrintMore
set_option linter.unusedVariables false
set_option linter.unusedSimpArgs false
structure GW (w : World) : Prop where
  m : ∃ m, w.cell? ⟨4, 0, none⟩ = some (.int .i64 m)
theorem cell_below {w w' : World} {a : Addr} {v : Value} (hb : Below w.heap.size w w') (h : w.cell? a = some v) : w'.cell? a = some v := by
  have hl : a.block < w.heap.size := by
    rcases Nat.lt_or_ge a.block w.heap.size with h' | h'
    · exact h'
    · unfold World.cell? at h
      rw [Array.getElem?_eq_none h'] at h
      simp at h
  unfold World.cell? at h ⊢
  rw [hb.block _ hl]
  exact h
theorem GW.below {w w' : World} (h : GW w) (hb : Below w.heap.size w w') : GW w' := ⟨h.m.elim fun m hm => ⟨m, cell_below hb hm⟩⟩
def strings_Split.f (a0 a1 : ByteArray) : Option (List ByteArray) :=
  if a0.size < 2000000 ∧ 1 ≤ a1.size ∧ Lib.countB a0 a1 < 2000000 ∧ (Lib.splitB a1 0 (Lib.countB a0 a1) a0).length = Lib.countB a0 a1 + 1 then some (Lib.splitB a1 0 (Lib.countB a0 a1) a0) else none
theorem strings_Split.calls (a0 a1 : ByteArray) (r : List ByteArray) (w : World) (h : strings_Split.f a0 a1 = some r) (hG : GW w := by first | exact hG | exact GW.drewN hG _ | exact GW.below hG (by first | exact HB.out | (with_reducible exact HB.out) | (repeat (first | (with_reducible first | exact HB.out | apply below_alloc | apply pw_below_drewN | apply below_drew1) | (refine below_setA ?_ (by assumption)) | exact HB.out)))) :
    Calls Tryz.prog 31 #[.string a0, .string a1] w fun e w' => ∃ v0_ : Value, e = .returned (v0_) ∧ Kd.R Kd.string 9 w' w.heap.size (fun _ => True) v0_ r ∧ Below w.heap.size w w' := by
  unfold strings_Split.f at h
  by_cases hb : a0.size < 2000000 ∧ 1 ≤ a1.size ∧ Lib.countB a0 a1 < 2000000 ∧ (Lib.splitB a1 0 (Lib.countB a0 a1) a0).length = Lib.countB a0 a1 + 1
  · rw [if_pos hb] at h
    injection h with h
    subst h
    obtain ⟨m, hm⟩ := hG.m
    refine (Tryz.strings_Split a0 a1 m w (by omega) hm hb.2.1).mono (fun e w' ⟨he, hw⟩ => ⟨_, he, Kd.R_of_own ?_ (fun _ _ => trivial), ?_⟩)
    · subst hw
      refine ⟨by simp [encs], .inr ⟨w.heap.size, _, ((Lib.splitB a1 0 (Lib.countB a0 a1) a0).map Value.string).toArray, by rw [hb.2.2.2], Nat.le_refl _, ?_, by rw [hb.2.2.2]; exact Nat.le_refl _, by unfold maxLen; omega, ?_, ?_⟩⟩
      · show (w.heap.push _)[w.heap.size]? = _
        rw [Array.getElem?_push_size]
      · simp [hb.2.2.2]
      · rw [Nat.mul_one, List.toList_toArray]; exact List.take_of_length_le (by rw [List.length_map]; omega)
    · subst hw
      exact below_alloc (Below.refl _ _) _
  · rw [if_neg hb] at h
    cases h
def fc (up : Bool) (c : UInt8) : UInt8 := if up then (if 97 ≤ c.toNat ∧ c.toNat ≤ 122 then UInt8.ofNat (c.toNat - 32) else c) else (if 65 ≤ c.toNat ∧ c.toNat ≤ 90 then UInt8.ofNat (c.toNat + 32) else c)
def foldL (up : Bool) (l : List UInt8) : List UInt8 := l.map (fc up)
def tag_fold.f (a0 : ByteArray) (a1 : Bool) : Option ByteArray := if a0.size ≤ 2000000 then some ⟨(foldL a1 a0.data.toList).toArray⟩ else none
def cellAt (up : Bool) (l : List UInt8) (i j : Nat) : Int := if j < i then ((fc up (l.getD j 0)).toNat : Int) else ((l.getD j 0).toNat : Int)
theorem cellAt_ge (up : Bool) (l : List UInt8) (i j : Nat) (h : i ≤ j) : cellAt up l i j = ((l.getD j 0).toNat : Int) := by unfold cellAt; rw [if_neg (by omega)]
theorem cellAt_lt (up : Bool) (l : List UInt8) (i j : Nat) (h : j < i) : cellAt up l i j = ((fc up (l.getD j 0)).toNat : Int) := by unfold cellAt; rw [if_pos h]
theorem cellAt_ne (up : Bool) (l : List UInt8) (i j : Nat) (h : j ≠ i) : cellAt up l (i + 1) j = cellAt up l i j := by
  by_cases h2 : j < i
  · rw [cellAt_lt _ _ _ _ h2, cellAt_lt _ _ _ _ (by omega)]
  · rw [cellAt_ge _ _ _ _ (by omega), cellAt_ge _ _ _ _ (by omega)]
theorem bytes_frozen (w : World) (s : ByteArray) (j : Nat) (hj : j < s.size) : (Lib.bytesWorld w 5 s).frozen? ⟨w.heap.size, j, none⟩ = false := by
  have hs : s.size ≤ (Lib.bytesCells w 5 s).size := by
    unfold Lib.bytesCells
    rw [Array.size_append, Array.size_map]
    exact Nat.le_add_right _ _
  unfold World.frozen?
  rw [Lib.bytesWorld_at_new]
  show (decide ((Lib.bytesCells w 5 s).size ≤ j) && decide (j < (Lib.bytesCells w 5 s).size + 1)) = false
  rw [decide_eq_false (by omega)]; rfl
theorem fc_up (c : UInt8) (h1 : 97 ≤ (c.toNat : Int)) (h2 : (c.toNat : Int) ≤ 122) : ((fc true c).toNat : Int) = (c.toNat : Int) - 32 := by
  unfold fc
  rw [if_pos rfl, if_pos (by omega)]
  have : (UInt8.ofNat (c.toNat - 32)).toNat = c.toNat - 32 := by
    rw [UInt8.toNat_ofNat']; omega
  rw [this]; omega
theorem fc_low (c : UInt8) (h1 : 65 ≤ (c.toNat : Int)) (h2 : (c.toNat : Int) ≤ 90) : ((fc false c).toNat : Int) = (c.toNat : Int) + 32 := by
  unfold fc
  rw [if_neg (by simp), if_pos (by omega)]
  have : (UInt8.ofNat (c.toNat + 32)).toNat = c.toNat + 32 := by
    rw [UInt8.toNat_ofNat']; omega
  rw [this]; omega
theorem fc_up_out (c : UInt8) (h : ¬ (97 ≤ (c.toNat : Int) ∧ (c.toNat : Int) ≤ 122)) : fc true c = c := by
  unfold fc
  rw [if_pos rfl, if_neg (by omega)]
theorem fc_low_out (c : UInt8) (h : ¬ (65 ≤ (c.toNat : Int) ∧ (c.toNat : Int) ≤ 90)) : fc false c = c := by
  unfold fc
  rw [if_neg (by simp), if_neg (by omega)]
theorem step_same (W : World) (g n : Nat) (up : Bool) (l : List UInt8) (i : Nat) (c : UInt8) (hc : l.getD i 0 = c) (he : fc up c = c) (h : ∀ j, j < n → W.cell? ⟨g, j, none⟩ = some (.int .u8 (cellAt up l i j))) :
    ∀ j, j < n → W.cell? ⟨g, j, none⟩ = some (.int .u8 (cellAt up l (i + 1) j)) := by
  intro j hj
  by_cases e : j = i
  · subst e
    rw [h j hj, cellAt_ge _ _ _ _ (Nat.le_refl _), cellAt_lt _ _ _ _ (Nat.lt_succ_self _), hc, he]
  · rw [h j hj, cellAt_ne _ _ _ _ e]
theorem step_put (W : World) (g n : Nat) (up : Bool) (l : List UInt8) (i : Nat) (c : UInt8) (v : Int) (hi : i < n) (hc : l.getD i 0 = c) (he : ((fc up c).toNat : Int) = v) (h : ∀ j, j < n → W.cell? ⟨g, j, none⟩ = some (.int .u8 (cellAt up l i j))) :
    ∀ j, j < n → (W.setCell ⟨g, i, none⟩ (.int .u8 v)).cell? ⟨g, j, none⟩ = some (.int .u8 (cellAt up l (i + 1) j)) := by
  intro j hj
  by_cases e : j = i
  · subst e
    rw [World.cell?_setCell_same _ _ _ (h j hj), cellAt_lt _ _ _ _ (Nat.lt_succ_self _), hc, he]
  · rw [World.cell?_setCell_other _ _ _ _ (by intro h'; injection h' with _ h2; exact e h2.symm), h j hj, cellAt_ne _ _ _ _ e]
set_option maxHeartbeats 2000000 in
set_option maxRecDepth 100000 in
theorem tag_fold.calls (a0 : ByteArray) (a1 : Bool) (r : ByteArray) (w : World) (h : tag_fold.f a0 a1 = some r) :
    Calls Tryz.prog 34 #[.string a0, .bool a1] w fun e w' => e = .returned (.string r) ∧ Below w.heap.size w w' := by
  unfold tag_fold.f at h
  by_cases hn : a0.size ≤ 2000000
  · rw [if_pos hn] at h
    injection h with h
    subst h
    have kb := fun W => print_bytes (P := Tryz.prog) 9 27 5 Tryz.underlying9 Tryz.underlying27 Tryz.underlying5 a0 W
    have hb0 : Below w.heap.size w (Lib.bytesWorld w 5 a0) := bytes_below (Below.refl _ _) (Nat.le_refl _) 5 a0
    have hc0 : ∀ j, j < a0.size → (Lib.bytesWorld w 5 a0).cell? ⟨w.heap.size, j, none⟩ = some (.int .u8 (cellAt a1 a0.data.toList 0 j)) := fun j hj => by
      rw [Lib.bytesWorld_cell w 5 a0 j hj, cellAt_ge _ _ _ _ (Nat.zero_le _)]
    have hf0 := fun j hj => bytes_frozen w a0 j hj
    have hlen : a0.data.toList.length = a0.size := by rw [Array.length_toList]; rfl
    go_enter Tryz.func34, Tryz.ntmps34
    go_wp2
    generalize Lib.bytesWorld w 5 a0 = W at *
    generalize grownCap w a0.size 0 5 = cap at *
    clear kb
    go_loopg [12] (a0.size + 1) (fun kq v12 w' => ∃ i : Nat, v12 = .int .i64 (i : Int) ∧ Aside0 (i ≤ a0.size) ∧ Aside0 (kq = a0.size - i + 1) ∧ Aside0 (∀ j, j < a0.size → w'.cell? ⟨w.heap.size, j, none⟩ = some (.int .u8 (cellAt a1 a0.data.toList i j))) ∧ Aside0 (∀ j, j < a0.size → w'.frozen? ⟨w.heap.size, j, none⟩ = false) ∧ Aside0 (Below w.heap.size w w'))
    case atStart => exact ⟨0, rfl, ⟨Nat.zero_le _⟩, ⟨by omega⟩, ⟨hc0⟩, ⟨hf0⟩, ⟨hb0⟩⟩
    case round =>
      obtain ⟨i, rfl, HI, HK, HC, HF, HB⟩ := hrel
      by_cases hi : (i : Int) < (a0.size : Int)
      · have d1 : decide ((i : Int) < (a0.size : Int)) = true := decide_eq_true hi
        have hx := HC.out i (by omega)
        have hz := HF.out i (by omega)
        rw [cellAt_ge _ _ _ _ (Nat.le_refl _)] at hx
        obtain ⟨c, hc⟩ : ∃ c, a0.data.toList.getD i 0 = c := ⟨_, rfl⟩
        rw [hc] at hx
        have c256 : c.toNat < 256 := c.toNat_lt
        cases a1 with
        | true =>
          go_wp2
          all_goals go_roundg (a0.size - i)
          all_goals (try (have := HK.out; omega))
          all_goals refine ⟨i + 1, by simp, ⟨by omega⟩, ⟨by omega⟩, ⟨?_⟩, ⟨?_⟩, ⟨?_⟩⟩
          all_goals first | exact HB.out | exact HF.out | exact HB.out.setCell (Nat.le_refl _) _ | (intro j hj; rw [World.frozen?_setCell]; exact HF.out j hj) | exact step_same wr _ _ true _ i c hc (fc_up_out c (by omega)) HC.out | exact step_put wr _ _ true _ i c _ (by omega) hc (fc_up c (by omega) (by omega)) HC.out
        | false =>
          go_wp2
          all_goals go_roundg (a0.size - i)
          all_goals (try (have := HK.out; omega))
          all_goals refine ⟨i + 1, by simp, ⟨by omega⟩, ⟨by omega⟩, ⟨?_⟩, ⟨?_⟩, ⟨?_⟩⟩
          all_goals first | exact HB.out | exact HF.out | exact HB.out.setCell (Nat.le_refl _) _ | (intro j hj; rw [World.frozen?_setCell]; exact HF.out j hj) | exact step_same wr _ _ false _ i c hc (fc_low_out c (by omega)) HC.out | exact step_put wr _ _ false _ i c _ (by omega) hc (fc_low c (by omega) (by omega)) HC.out
      · have d1 : decide ((i : Int) < (a0.size : Int)) = false := decide_eq_false hi
        have hin : i = a0.size := by have := HI.out; omega
        have hl : (foldL a1 a0.data.toList).length = a0.size := by rw [foldL, List.length_map]; exact hlen
        have kb2 : (convert 27 9 (.slice (some ⟨w.heap.size, 0, none⟩) a0.size cap)).run Tryz.prog wr = .ok (.string ⟨(foldL a1 a0.data.toList).toArray⟩) wr := by
          have k := run_convert_bytes_back (P := Tryz.prog) wr 27 9 5 ⟨w.heap.size, 0, none⟩ cap (foldL a1 a0.data.toList) Tryz.underlying27 Tryz.underlying5 Tryz.underlying9 (fun j hj => by
            rw [hl] at hj
            rw [add_plain, HC.out j hj, cellAt_lt _ _ _ _ (by omega)]
            simp only [foldL, List.getElem_map]
            rw [List.getD_eq_getElem?_getD, List.getElem?_eq_getElem (by omega), Option.getD_some])
          rw [hl] at k
          exact k
        go_wp2
        go_ret
        exact ⟨rfl, HB.out⟩
  · rw [if_neg hn] at h
    cases h
theorem spot_of_cell {w : World} {a : Addr} {v : Value} (h : w.cell? a = some v) : a.spot = none := by
  unfold World.cell? at h
  split at h
  · cases hs : a.spot with
    | none => rfl
    | some x => simp [hs] at h
  · cases h
theorem C_cells {w : World} {ad : Addr} {l : List ByteArray} (h : Kd.C Kd.string w (some ad) l.length l) (hn : 0 < l.length) :
    ad.spot = none ∧ ad.block < w.heap.size ∧ ∀ (j : Nat) x, l[j]? = some x → w.cell? ⟨ad.block, ad.off + j, none⟩ = some (.string x) := by
  have h0 : ad.spot = none := by
    obtain ⟨ad', e, hc⟩ := Kd.at_string h 0 (Int.le_refl _) (by omega)
    cases e
    exact spot_of_cell hc
  refine ⟨h0, ?_, fun j x hx => ?_⟩
  · exact Kd.C_lt h hn (by decide)
  · obtain ⟨hj, hx⟩ := List.getElem?_eq_some_iff.1 hx
    obtain ⟨ad', e, hc⟩ := Kd.at_string h (j : Int) (by omega) (by omega)
    cases e
    have ea : (ad.add ((j : Int)).toNat) = ⟨ad.block, ad.off + j, none⟩ := by
      unfold Addr.add
      obtain ⟨b, o, sp⟩ := ad
      simp only at h0
      subst h0
      split
      · rename_i z
        have : j = 0 := by omega
        subst this; rfl
      · simp
    rw [ea] at hc
    rw [hc]
    unfold rdOf
    rw [List.getD_eq_getElem?_getD]
    simp [hj, hx]
def strings_Join.f (l : List ByteArray) (sep : ByteArray) : Option ByteArray := if l.length ≤ 2000000 ∧ (Lib.join (l.map (·.data.toList)) sep.data.toList).length ≤ 2000000 then some ⟨(Lib.join (l.map (·.data.toList)) sep.data.toList).toArray⟩ else none
theorem strings_Join.calls (A0 : Option Addr) (c0 : Nat) (l0 : List ByteArray) (a1 : ByteArray) (r : ByteArray) (w : World) (hr0 : Kd.C Kd.string w A0 l0.length l0) (hc0 : l0.length ≤ c0) (h : strings_Join.f l0 a1 = some r) :
    Calls Tryz.prog 39 #[.slice A0 l0.length c0, .string a1] w fun e w' => e = .returned (.string r) ∧ Below w.heap.size w w' := by
  unfold strings_Join.f at h
  by_cases hb : l0.length ≤ 2000000 ∧ (Lib.join (l0.map (·.data.toList)) a1.data.toList).length ≤ 2000000
  · rw [if_pos hb] at h
    injection h with h
    subst h
    by_cases hn : 0 < l0.length
    · obtain ⟨ad, e, hx⟩ := Kd.at_string hr0 0 (Int.le_refl _) (by omega)
      subst e
      obtain ⟨h0, h1, h2⟩ := C_cells hr0 hn
      have := Tryz.strings_Join ad.block ad.off c0 l0 a1 w h2 h1 (by omega) hc0 (by omega)
      have ea : ad = ⟨ad.block, ad.off, none⟩ := by
        obtain ⟨b, o, sp⟩ := ad
        simp only at h0
        subst h0
        rfl
      rw [ea]
      exact this
    · have e : l0 = [] := List.eq_nil_of_length_eq_zero (by omega)
      subst e
      exact (Tryz.strings_Join_none A0 c0 a1 w).mono (fun e w' ⟨he, hw⟩ => ⟨he, hw ▸ Below.refl _ _⟩)
  · rw [if_neg hb] at h
    cases h
end Go.Proofs.YtkmbkejmfffafaaGreatDoorHand
end
section
namespace Go.Proofs.YtkmbkejmfffafaaGreatDoor.PLow
open Go.RowKit Go.Proofs.YtkmbkejmfffafaaGreatDoorHand Go.Proofs.YtkmbkejmfffafaaGreatDoorW.PrintWords Go.Proofs.YtkmbkejmfffafaaGreatDoorW.PrintLast Go.Proofs.YtkmbkejmfffafaaGreatDoorW.PrintMore
attribute [local go_sem] max2_int min2_int max_two min_two max_three min_three max_four min_four   -- for this text's walks alone
set_option linter.unusedVariables false
set_option linter.unusedSimpArgs false
def errW : Option Int → Value
  | none => .nilIface
  | some c => .iface 0 (.int .i64 c)
theorem errW_none : errW none = .nilIface := rfl
theorem errW_some (c : Int) : errW (some c) = .iface 0 (.int .i64 c) := rfl
theorem info9 : (Tryz.prog.info? 9).map (fun i => (i.zero, i.size, i.bytes)) = some (some (.string ⟨#[]⟩), 1, 16) := by kernel_rfl
end Go.Proofs.YtkmbkejmfffafaaGreatDoor.PLow
end
section
namespace Go.Proofs.YtkmbkejmfffafaaGreatDoor.PLow
open Go.RowKit Go.Proofs.YtkmbkejmfffafaaGreatDoorHand Go.Proofs.YtkmbkejmfffafaaGreatDoorW.PrintWords Go.Proofs.YtkmbkejmfffafaaGreatDoorW.PrintLast Go.Proofs.YtkmbkejmfffafaaGreatDoorW.PrintMore
attribute [local go_sem] max2_int min2_int max_two min_two max_three min_three max_four min_four   -- for this text's walks alone
set_option linter.unusedVariables false
set_option linter.unusedSimpArgs false
def tag_letter.f (a0 : Int) : Option (Bool) := if a0 ≥ 97 then (if a0 ≤ 122 then (some true) else (if a0 ≥ 65 then (some (decide (a0 ≤ 90))) else (some false))) else (if a0 ≥ 65 then (some (decide (a0 ≤ 90))) else (some false))
set_option maxHeartbeats 8000000 in
set_option maxRecDepth 100000 in
theorem tag_letter.calls (a0 : Int) (r : Bool) (w : World) (h : tag_letter.f a0 = some r) :
    Calls Tryz.prog 33 #[.int .u8 a0] w fun e w' => e = .returned (.bool r) ∧ Drawn0 w w' := by
  have H : (if a0 ≥ 97 then (if a0 ≤ 122 then (some true) else (if a0 ≥ 65 then (some (decide (a0 ≤ 90))) else (some false))) else (if a0 ≥ 65 then (some (decide (a0 ≤ 90))) else (some false))) = some r := h
  clear h
  by_cases c2 : a0 ≥ 97
  · rw [if_pos c2] at H
    have c2b0 : decide (97 ≤ a0) = true := decide_eq_true c2
    clear c2
    by_cases c3 : a0 ≤ 122
    · rw [if_pos c3] at H
      have c3b0 : decide (a0 ≤ 122) = true := decide_eq_true c3
      clear c3
      obtain rfl := Option.some.inj H
      go_enter Tryz.func33, Tryz.ntmps33
      go_wp2
      go_ret
      exact ⟨by first | rfl | (simp; done) | (simp [*]; done), by repeat (first | exact Drawn0.refl _ | apply Drawn0.step)⟩
    · rw [if_neg c3] at H
      have c3b0 : decide (a0 ≤ 122) = false := decide_eq_false c3
      clear c3
      by_cases c4 : a0 ≥ 65
      · rw [if_pos c4] at H
        have c4b0 : decide (65 ≤ a0) = true := decide_eq_true c4
        clear c4
        obtain rfl := Option.some.inj H
        go_enter Tryz.func33, Tryz.ntmps33
        go_wp2
        go_ret
        exact ⟨by first | rfl | (simp; done) | (simp [*]; done), by repeat (first | exact Drawn0.refl _ | apply Drawn0.step)⟩
      · rw [if_neg c4] at H
        have c4b0 : decide (65 ≤ a0) = false := decide_eq_false c4
        clear c4
        obtain rfl := Option.some.inj H
        go_enter Tryz.func33, Tryz.ntmps33
        go_wp2
        go_ret
        exact ⟨by first | rfl | (simp; done) | (simp [*]; done), by repeat (first | exact Drawn0.refl _ | apply Drawn0.step)⟩
  · rw [if_neg c2] at H
    have c2b0 : decide (97 ≤ a0) = false := decide_eq_false c2
    clear c2
    by_cases c5 : a0 ≥ 65
    · rw [if_pos c5] at H
      have c5b0 : decide (65 ≤ a0) = true := decide_eq_true c5
      clear c5
      obtain rfl := Option.some.inj H
      go_enter Tryz.func33, Tryz.ntmps33
      go_wp2
      go_ret
      exact ⟨by first | rfl | (simp; done) | (simp [*]; done), by repeat (first | exact Drawn0.refl _ | apply Drawn0.step)⟩
    · rw [if_neg c5] at H
      have c5b0 : decide (65 ≤ a0) = false := decide_eq_false c5
      clear c5
      obtain rfl := Option.some.inj H
      go_enter Tryz.func33, Tryz.ntmps33
      go_wp2
      go_ret
      exact ⟨by first | rfl | (simp; done) | (simp [*]; done), by repeat (first | exact Drawn0.refl _ | apply Drawn0.step)⟩
def tag_all_33.l0 : Nat → ByteArray → Int → Int → Option (Bool)
  | 0, _, _, _ => none
  | k + 1, x0, x7, x8 => if x8 < x7 then (if 0 ≤ x8 then (if x8 < (x0.size : Int) then ((tag_letter.f (bt x0 x8)).bind fun t101 => (if t101 = true then (tag_all_33.l0 k x0 x7 (wrap64 (x8 + 1))) else (some false))) else (none)) else (none)) else (some (x0.toList != ([] : List UInt8)))
def tag_all_33.f (k : Nat) (a0 : ByteArray) (a1 : Nat) : Option (Bool) := tag_all_33.l0 k a0 (a0.size : Int) 0
set_option maxHeartbeats 8000000 in
set_option maxRecDepth 100000 in
theorem tag_all_33.calls (k : Nat) (a0 : ByteArray) (a1 : Nat) (r : Bool) (w : World) (h : tag_all_33.f k a0 a1 = some r) :
    Calls Tryz.prog 32 #[.string a0, .func (.func 33) #[] #[]] w fun e w' => e = .returned (.bool r) ∧ Drawn0 w w' := by
  have H : (tag_all_33.l0 k a0 (a0.size : Int) 0) = some r := h
  clear h
  have H' := Aside0.mk H
  clear H
  go_enter Tryz.func32, Tryz.ntmps32
  go_wp2
  go_loopg [8] k (fun kq v8 w' => ∃ (x8_l1 : Int), v8 = .int .i64 x8_l1 ∧ Aside0 (tag_all_33.l0 kq a0 (a0.size : Int) x8_l1 = some r) ∧ Aside0 (kq ≤ k) ∧ Drawn0 w w')
  case atStart => exact ⟨(0), (by first | rfl | (simp; done) | (simp [*]; done)), H', ⟨Nat.le_refl _⟩, by repeat (first | exact Drawn0.refl _ | apply Drawn0.step)⟩
  case round =>
    clear H'
    try clear p2
    obtain ⟨x8_l1, rfl, HA, HK1, ⟨m1, rfl⟩⟩ := hrel
    cases gk with
    | zero => exact absurd HA.out (by simp [tag_all_33.l0])
    | succ k1 =>
      have H := HA.out
      clear HA
      simp only [tag_all_33.l0] at H
      by_cases c3 : x8_l1 < (a0.size : Int)
      · rw [if_pos c3] at H
        have c3b0 : decide (x8_l1 < (a0.size : Int)) = true := decide_eq_true c3
        clear c3
        by_cases c4 : 0 ≤ x8_l1
        · rw [if_pos c4] at H
          have c4b0 : decide (0 ≤ x8_l1) = true := decide_eq_true c4
          clear c4
          by_cases c5 : x8_l1 < (a0.size : Int)
          · rw [if_pos c5] at H
            have c5b0 : decide (x8_l1 < (a0.size : Int)) = true := decide_eq_true c5
            clear c5
            replace H := Option.bind_eq_some_iff.mp H
            obtain ⟨t101, A70, H⟩ := H
            replace H : (if t101 = true then (tag_all_33.l0 k1 a0 (a0.size : Int) (wrap64 (x8_l1 + 1))) else (some false)) = some r := H
            have A7 := Aside0.mk A70
            clear A70
            by_cases c8 : t101 = true
            · subst c8
              have H1 : (tag_all_33.l0 k1 a0 (a0.size : Int) (wrap64 (x8_l1 + 1))) = some r := by rw [if_pos rfl] at H; exact H
              clear H
              have H := H1
              clear H1
              have H' := Aside0.mk H
              clear H
              have p6 : 0 ≤ (x8_l1 : Int) := of_decide_eq_true (by first | (with_reducible assumption) | assumption)
              have q6 : x8_l1 < (a0.size : Int) := of_decide_eq_true (by first | (with_reducible assumption) | assumption)
              have hx6 := bt_at a0 x8_l1
              replace p6 := eq_true p6
              replace q6 := eq_true q6
              go_wp2_with (first | (go_at_call 33; (with_reducible refine (tag_letter.calls (bt a0 x8_l1) true _ A7.out).mono ?_); rintro e w' ⟨rfl, ⟨nd, rfl⟩⟩))
              go_roundg k1
              case measure => have := HK1.out; omega
              case rel => exact ⟨(wrap64 (x8_l1 + 1)), (by first | rfl | (simp; done) | (simp [*]; done)), H', ⟨by have := HK1.out; omega⟩, by repeat (first | exact Drawn0.refl _ | apply Drawn0.step)⟩
            · replace c8 := Bool.eq_false_iff.mpr c8
              subst c8
              have H1 : (some false) = some r := by rw [if_neg (show ¬ (false = true) by decide)] at H; exact H
              clear H
              have H := H1
              clear H1
              obtain rfl := Option.some.inj H
              have p6 : 0 ≤ (x8_l1 : Int) := of_decide_eq_true (by first | (with_reducible assumption) | assumption)
              have q6 : x8_l1 < (a0.size : Int) := of_decide_eq_true (by first | (with_reducible assumption) | assumption)
              have hx6 := bt_at a0 x8_l1
              replace p6 := eq_true p6
              replace q6 := eq_true q6
              go_wp2_with (first | (go_at_call 33; (with_reducible refine (tag_letter.calls (bt a0 x8_l1) false _ A7.out).mono ?_); rintro e w' ⟨rfl, ⟨nd, rfl⟩⟩))
              go_ret
              exact ⟨by first | rfl | (simp; done) | (simp [*]; done), by repeat (first | exact Drawn0.refl _ | apply Drawn0.step)⟩
          · rw [if_neg c5] at H
            exact absurd H (by simp)
        · rw [if_neg c4] at H
          exact absurd H (by simp)
      · rw [if_neg c3] at H
        have c3b0 : decide (x8_l1 < (a0.size : Int)) = false := decide_eq_false c3
        clear c3
        obtain rfl := Option.some.inj H
        go_wp2
        go_ret
        exact ⟨by first | rfl | (simp; done) | (simp [*]; done) | (cases hl_ : a0.toList <;> simp [hl_]; done), by repeat (first | exact Drawn0.refl _ | apply Drawn0.step)⟩
def tag_isScript.f (k : Nat) (a0 : ByteArray) : Option (Bool) := if (a0.size : Int) = 4 then ((tag_all_33.f k a0 37).bind fun t102 => (some t102)) else (some false)
set_option maxHeartbeats 8000000 in
set_option maxRecDepth 100000 in
theorem tag_isScript.calls (k : Nat) (a0 : ByteArray) (r : Bool) (w : World) (h : tag_isScript.f k a0 = some r) :
    Calls Tryz.prog 35 #[.string a0] w fun e w' => e = .returned (.bool r) ∧ Drawn0 w w' := by
  have H : (if (a0.size : Int) = 4 then ((tag_all_33.f k a0 37).bind fun t102 => (some t102)) else (some false)) = some r := h
  clear h
  by_cases c2 : (a0.size : Int) = 4
  · rw [if_pos c2] at H
    have c2b0 : ((a0.size : Int) == 4) = true := beq_iff_eq.mpr c2
    have c2b1 : ((a0.size : Int) != 4) = false := bne_eq_false_iff_eq.mpr c2
    clear c2
    replace H := Option.bind_eq_some_iff.mp H
    obtain ⟨t102, A30, H⟩ := H
    replace H : (some t102) = some r := H
    have A3 := Aside0.mk A30
    clear A30
    obtain rfl := Option.some.inj H
    go_enter Tryz.func35, Tryz.ntmps35
    go_wp2_with (first | (go_at_call 32; (with_reducible refine (tag_all_33.calls k a0 37 t102 _ A3.out).mono ?_); rintro e w' ⟨rfl, ⟨nd, rfl⟩⟩))
    go_ret
    exact ⟨by first | rfl | (simp; done) | (simp [*]; done), by repeat (first | exact Drawn0.refl _ | apply Drawn0.step)⟩
  · rw [if_neg c2] at H
    have c2b0 : ((a0.size : Int) == 4) = false := beq_eq_false_iff_ne.mpr c2
    have c2b1 : ((a0.size : Int) != 4) = true := bne_iff_ne.mpr c2
    obtain rfl := Option.some.inj H
    go_enter Tryz.func35, Tryz.ntmps35
    go_wp2
    go_ret
    exact ⟨by first | rfl | (simp; done) | (simp [*]; done), by repeat (first | exact Drawn0.refl _ | apply Drawn0.step)⟩
def tag_digit.f (a0 : Int) : Option (Bool) := if a0 ≥ 48 then (some (decide (a0 ≤ 57))) else (some false)
set_option maxHeartbeats 8000000 in
set_option maxRecDepth 100000 in
theorem tag_digit.calls (a0 : Int) (r : Bool) (w : World) (h : tag_digit.f a0 = some r) :
    Calls Tryz.prog 59 #[.int .u8 a0] w fun e w' => e = .returned (.bool r) ∧ Drawn0 w w' := by
  have H : (if a0 ≥ 48 then (some (decide (a0 ≤ 57))) else (some false)) = some r := h
  clear h
  by_cases c2 : a0 ≥ 48
  · rw [if_pos c2] at H
    have c2b0 : decide (48 ≤ a0) = true := decide_eq_true c2
    clear c2
    obtain rfl := Option.some.inj H
    go_enter Tryz.func59, Tryz.ntmps59
    go_wp2
    go_ret
    exact ⟨by first | rfl | (simp; done) | (simp [*]; done), by repeat (first | exact Drawn0.refl _ | apply Drawn0.step)⟩
  · rw [if_neg c2] at H
    have c2b0 : decide (48 ≤ a0) = false := decide_eq_false c2
    clear c2
    obtain rfl := Option.some.inj H
    go_enter Tryz.func59, Tryz.ntmps59
    go_wp2
    go_ret
    exact ⟨by first | rfl | (simp; done) | (simp [*]; done), by repeat (first | exact Drawn0.refl _ | apply Drawn0.step)⟩
def tag_all_59.l0 : Nat → ByteArray → Int → Int → Option (Bool)
  | 0, _, _, _ => none
  | k + 1, x0, x7, x8 => if x8 < x7 then (if 0 ≤ x8 then (if x8 < (x0.size : Int) then ((tag_digit.f (bt x0 x8)).bind fun t103 => (if t103 = true then (tag_all_59.l0 k x0 x7 (wrap64 (x8 + 1))) else (some false))) else (none)) else (none)) else (some (x0.toList != ([] : List UInt8)))
def tag_all_59.f (k : Nat) (a0 : ByteArray) (a1 : Nat) : Option (Bool) := tag_all_59.l0 k a0 (a0.size : Int) 0
set_option maxHeartbeats 8000000 in
set_option maxRecDepth 100000 in
theorem tag_all_59.calls (k : Nat) (a0 : ByteArray) (a1 : Nat) (r : Bool) (w : World) (h : tag_all_59.f k a0 a1 = some r) :
    Calls Tryz.prog 32 #[.string a0, .func (.func 59) #[] #[]] w fun e w' => e = .returned (.bool r) ∧ Drawn0 w w' := by
  have H : (tag_all_59.l0 k a0 (a0.size : Int) 0) = some r := h
  clear h
  have H' := Aside0.mk H
  clear H
  go_enter Tryz.func32, Tryz.ntmps32
  go_wp2
  go_loopg [8] k (fun kq v8 w' => ∃ (x8_l1 : Int), v8 = .int .i64 x8_l1 ∧ Aside0 (tag_all_59.l0 kq a0 (a0.size : Int) x8_l1 = some r) ∧ Aside0 (kq ≤ k) ∧ Drawn0 w w')
  case atStart => exact ⟨(0), (by first | rfl | (simp; done) | (simp [*]; done)), H', ⟨Nat.le_refl _⟩, by repeat (first | exact Drawn0.refl _ | apply Drawn0.step)⟩
  case round =>
    clear H'
    try clear p2
    obtain ⟨x8_l1, rfl, HA, HK1, ⟨m1, rfl⟩⟩ := hrel
    cases gk with
    | zero => exact absurd HA.out (by simp [tag_all_59.l0])
    | succ k1 =>
      have H := HA.out
      clear HA
      simp only [tag_all_59.l0] at H
      by_cases c3 : x8_l1 < (a0.size : Int)
      · rw [if_pos c3] at H
        have c3b0 : decide (x8_l1 < (a0.size : Int)) = true := decide_eq_true c3
        clear c3
        by_cases c4 : 0 ≤ x8_l1
        · rw [if_pos c4] at H
          have c4b0 : decide (0 ≤ x8_l1) = true := decide_eq_true c4
          clear c4
          by_cases c5 : x8_l1 < (a0.size : Int)
          · rw [if_pos c5] at H
            have c5b0 : decide (x8_l1 < (a0.size : Int)) = true := decide_eq_true c5
            clear c5
            replace H := Option.bind_eq_some_iff.mp H
            obtain ⟨t103, A70, H⟩ := H
            replace H : (if t103 = true then (tag_all_59.l0 k1 a0 (a0.size : Int) (wrap64 (x8_l1 + 1))) else (some false)) = some r := H
            have A7 := Aside0.mk A70
            clear A70
            by_cases c8 : t103 = true
            · subst c8
              have H1 : (tag_all_59.l0 k1 a0 (a0.size : Int) (wrap64 (x8_l1 + 1))) = some r := by rw [if_pos rfl] at H; exact H
              clear H
              have H := H1
              clear H1
              have H' := Aside0.mk H
              clear H
              have p6 : 0 ≤ (x8_l1 : Int) := of_decide_eq_true (by first | (with_reducible assumption) | assumption)
              have q6 : x8_l1 < (a0.size : Int) := of_decide_eq_true (by first | (with_reducible assumption) | assumption)
              have hx6 := bt_at a0 x8_l1
              replace p6 := eq_true p6
              replace q6 := eq_true q6
              go_wp2_with (first | (go_at_call 59; (with_reducible refine (tag_digit.calls (bt a0 x8_l1) true _ A7.out).mono ?_); rintro e w' ⟨rfl, ⟨nd, rfl⟩⟩))
              go_roundg k1
              case measure => have := HK1.out; omega
              case rel => exact ⟨(wrap64 (x8_l1 + 1)), (by first | rfl | (simp; done) | (simp [*]; done)), H', ⟨by have := HK1.out; omega⟩, by repeat (first | exact Drawn0.refl _ | apply Drawn0.step)⟩
            · replace c8 := Bool.eq_false_iff.mpr c8
              subst c8
              have H1 : (some false) = some r := by rw [if_neg (show ¬ (false = true) by decide)] at H; exact H
              clear H
              have H := H1
              clear H1
              obtain rfl := Option.some.inj H
              have p6 : 0 ≤ (x8_l1 : Int) := of_decide_eq_true (by first | (with_reducible assumption) | assumption)
              have q6 : x8_l1 < (a0.size : Int) := of_decide_eq_true (by first | (with_reducible assumption) | assumption)
              have hx6 := bt_at a0 x8_l1
              replace p6 := eq_true p6
              replace q6 := eq_true q6
              go_wp2_with (first | (go_at_call 59; (with_reducible refine (tag_digit.calls (bt a0 x8_l1) false _ A7.out).mono ?_); rintro e w' ⟨rfl, ⟨nd, rfl⟩⟩))
              go_ret
              exact ⟨by first | rfl | (simp; done) | (simp [*]; done), by repeat (first | exact Drawn0.refl _ | apply Drawn0.step)⟩
          · rw [if_neg c5] at H
            exact absurd H (by simp)
        · rw [if_neg c4] at H
          exact absurd H (by simp)
      · rw [if_neg c3] at H
        have c3b0 : decide (x8_l1 < (a0.size : Int)) = false := decide_eq_false c3
        clear c3
        obtain rfl := Option.some.inj H
        go_wp2
        go_ret
        exact ⟨by first | rfl | (simp; done) | (simp [*]; done) | (cases hl_ : a0.toList <;> simp [hl_]; done), by repeat (first | exact Drawn0.refl _ | apply Drawn0.step)⟩
def tag_isRegion.f (k : Nat) (a0 : ByteArray) : Option (Bool) := if (a0.size : Int) = 2 then ((tag_all_33.f k a0 37).bind fun t104 => (if t104 = true then (some true) else (if (a0.size : Int) = 3 then ((tag_all_59.f k a0 60).bind fun t105 => (some t105)) else (some false)))) else (if (a0.size : Int) = 3 then ((tag_all_59.f k a0 60).bind fun t106 => (some t106)) else (some false))
set_option maxHeartbeats 8000000 in
set_option maxRecDepth 100000 in
theorem tag_isRegion.calls (k : Nat) (a0 : ByteArray) (r : Bool) (w : World) (h : tag_isRegion.f k a0 = some r) :
    Calls Tryz.prog 36 #[.string a0] w fun e w' => e = .returned (.bool r) ∧ Drawn0 w w' := by
  have H : (if (a0.size : Int) = 2 then ((tag_all_33.f k a0 37).bind fun t104 => (if t104 = true then (some true) else (if (a0.size : Int) = 3 then ((tag_all_59.f k a0 60).bind fun t105 => (some t105)) else (some false)))) else (if (a0.size : Int) = 3 then ((tag_all_59.f k a0 60).bind fun t106 => (some t106)) else (some false))) = some r := h
  clear h
  by_cases c2 : (a0.size : Int) = 2
  · rw [if_pos c2] at H
    have c2b0 : ((a0.size : Int) == 2) = true := beq_iff_eq.mpr c2
    have c2b1 : ((a0.size : Int) != 2) = false := bne_eq_false_iff_eq.mpr c2
    clear c2
    replace H := Option.bind_eq_some_iff.mp H
    obtain ⟨t104, A30, H⟩ := H
    replace H : (if t104 = true then (some true) else (if (a0.size : Int) = 3 then ((tag_all_59.f k a0 60).bind fun t105 => (some t105)) else (some false))) = some r := H
    have A3 := Aside0.mk A30
    clear A30
    by_cases c4 : t104 = true
    · subst c4
      have H1 : (some true) = some r := by rw [if_pos rfl] at H; exact H
      clear H
      have H := H1
      clear H1
      obtain rfl := Option.some.inj H
      go_enter Tryz.func36, Tryz.ntmps36
      go_wp2_with (first | (go_at_call 32; (with_reducible refine (tag_all_33.calls k a0 37 true _ A3.out).mono ?_); rintro e w' ⟨rfl, ⟨nd, rfl⟩⟩))
      go_ret
      exact ⟨by first | rfl | (simp; done) | (simp [*]; done), by repeat (first | exact Drawn0.refl _ | apply Drawn0.step)⟩
    · replace c4 := Bool.eq_false_iff.mpr c4
      subst c4
      have H1 : (if (a0.size : Int) = 3 then ((tag_all_59.f k a0 60).bind fun t105 => (some t105)) else (some false)) = some r := by rw [if_neg (show ¬ (false = true) by decide)] at H; exact H
      clear H
      have H := H1
      clear H1
      by_cases c5 : (a0.size : Int) = 3
      · rw [if_pos c5] at H
        have c5b0 : ((a0.size : Int) == 3) = true := beq_iff_eq.mpr c5
        have c5b1 : ((a0.size : Int) != 3) = false := bne_eq_false_iff_eq.mpr c5
        clear c5
        replace H := Option.bind_eq_some_iff.mp H
        obtain ⟨t105, A60, H⟩ := H
        replace H : (some t105) = some r := H
        have A6 := Aside0.mk A60
        clear A60
        obtain rfl := Option.some.inj H
        go_enter Tryz.func36, Tryz.ntmps36
        go_wp2_with (first | (go_at_call 32; (with_reducible refine (tag_all_33.calls k a0 37 false _ A3.out).mono ?_); rintro e w' ⟨rfl, ⟨nd, rfl⟩⟩) | (go_at_call 32; (with_reducible refine (tag_all_59.calls k a0 60 t105 _ A6.out).mono ?_); rintro e w' ⟨rfl, ⟨nd, rfl⟩⟩))
        go_ret
        exact ⟨by first | rfl | (simp; done) | (simp [*]; done), by repeat (first | exact Drawn0.refl _ | apply Drawn0.step)⟩
      · rw [if_neg c5] at H
        have c5b0 : ((a0.size : Int) == 3) = false := beq_eq_false_iff_ne.mpr c5
        have c5b1 : ((a0.size : Int) != 3) = true := bne_iff_ne.mpr c5
        obtain rfl := Option.some.inj H
        go_enter Tryz.func36, Tryz.ntmps36
        go_wp2_with (first | (go_at_call 32; (with_reducible refine (tag_all_33.calls k a0 37 false _ A3.out).mono ?_); rintro e w' ⟨rfl, ⟨nd, rfl⟩⟩))
        go_ret
        exact ⟨by first | rfl | (simp; done) | (simp [*]; done), by repeat (first | exact Drawn0.refl _ | apply Drawn0.step)⟩
  · rw [if_neg c2] at H
    have c2b0 : ((a0.size : Int) == 2) = false := beq_eq_false_iff_ne.mpr c2
    have c2b1 : ((a0.size : Int) != 2) = true := bne_iff_ne.mpr c2
    by_cases c7 : (a0.size : Int) = 3
    · rw [if_pos c7] at H
      have c7b0 : ((a0.size : Int) == 3) = true := beq_iff_eq.mpr c7
      have c7b1 : ((a0.size : Int) != 3) = false := bne_eq_false_iff_eq.mpr c7
      clear c7
      replace H := Option.bind_eq_some_iff.mp H
      obtain ⟨t106, A80, H⟩ := H
      replace H : (some t106) = some r := H
      have A8 := Aside0.mk A80
      clear A80
      obtain rfl := Option.some.inj H
      go_enter Tryz.func36, Tryz.ntmps36
      go_wp2_with (first | (go_at_call 32; (with_reducible refine (tag_all_59.calls k a0 60 t106 _ A8.out).mono ?_); rintro e w' ⟨rfl, ⟨nd, rfl⟩⟩))
      go_ret
      exact ⟨by first | rfl | (simp; done) | (simp [*]; done), by repeat (first | exact Drawn0.refl _ | apply Drawn0.step)⟩
    · rw [if_neg c7] at H
      have c7b0 : ((a0.size : Int) == 3) = false := beq_eq_false_iff_ne.mpr c7
      have c7b1 : ((a0.size : Int) != 3) = true := bne_iff_ne.mpr c7
      obtain rfl := Option.some.inj H
      go_enter Tryz.func36, Tryz.ntmps36
      go_wp2
      go_ret
      exact ⟨by first | rfl | (simp; done) | (simp [*]; done), by repeat (first | exact Drawn0.refl _ | apply Drawn0.step)⟩
def tag_either.f (a0 : Int) : Option (Bool) := (tag_letter.f a0).bind fun t107 => (if t107 = true then (some true) else ((tag_digit.f a0).bind fun t108 => (some t108)))
set_option maxHeartbeats 8000000 in
set_option maxRecDepth 100000 in
theorem tag_either.calls (a0 : Int) (r : Bool) (w : World) (h : tag_either.f a0 = some r) :
    Calls Tryz.prog 60 #[.int .u8 a0] w fun e w' => e = .returned (.bool r) ∧ Drawn0 w w' := by
  have H : ((tag_letter.f a0).bind fun t107 => (if t107 = true then (some true) else ((tag_digit.f a0).bind fun t108 => (some t108)))) = some r := h
  clear h
  replace H := Option.bind_eq_some_iff.mp H
  obtain ⟨t107, A20, H⟩ := H
  replace H : (if t107 = true then (some true) else ((tag_digit.f a0).bind fun t108 => (some t108))) = some r := H
  have A2 := Aside0.mk A20
  clear A20
  by_cases c3 : t107 = true
  · subst c3
    have H1 : (some true) = some r := by rw [if_pos rfl] at H; exact H
    clear H
    have H := H1
    clear H1
    obtain rfl := Option.some.inj H
    go_enter Tryz.func60, Tryz.ntmps60
    go_wp2_with (first | ((with_reducible refine gate_callee (f := 33) rfl ?_); refine goesL_ (some 4) rfl rfl Tryz.func33 (by kernel_rfl) rfl #[.int .u8 a0] rfl (by (try simp only [List.map_toArray, List.map_cons, List.map_nil]); first | done | rfl | (simp only [List.length_drop, List.length_take]; rfl)) ?_; (with_reducible refine (tag_letter.calls a0 true _ A2.out).mono ?_); rintro e w' ⟨rfl, ⟨nd, rfl⟩⟩; refine ⟨_, rfl, ?_⟩))
    go_ret
    exact ⟨by first | rfl | (simp; done) | (simp [*]; done), by repeat (first | exact Drawn0.refl _ | apply Drawn0.step)⟩
  · replace c3 := Bool.eq_false_iff.mpr c3
    subst c3
    have H1 : ((tag_digit.f a0).bind fun t108 => (some t108)) = some r := by rw [if_neg (show ¬ (false = true) by decide)] at H; exact H
    clear H
    have H := H1
    clear H1
    replace H := Option.bind_eq_some_iff.mp H
    obtain ⟨t108, A40, H⟩ := H
    replace H : (some t108) = some r := H
    have A4 := Aside0.mk A40
    clear A40
    obtain rfl := Option.some.inj H
    go_enter Tryz.func60, Tryz.ntmps60
    go_wp2_with (first | ((with_reducible refine gate_callee (f := 33) rfl ?_); refine goesL_ (some 4) rfl rfl Tryz.func33 (by kernel_rfl) rfl #[.int .u8 a0] rfl (by (try simp only [List.map_toArray, List.map_cons, List.map_nil]); first | done | rfl | (simp only [List.length_drop, List.length_take]; rfl)) ?_; (with_reducible refine (tag_letter.calls a0 false _ A2.out).mono ?_); rintro e w' ⟨rfl, ⟨nd, rfl⟩⟩; refine ⟨_, rfl, ?_⟩) | (go_at_call 59; (with_reducible refine (tag_digit.calls a0 t108 _ A4.out).mono ?_); rintro e w' ⟨rfl, ⟨nd, rfl⟩⟩))
    go_ret
    exact ⟨by first | rfl | (simp; done) | (simp [*]; done), by repeat (first | exact Drawn0.refl _ | apply Drawn0.step)⟩
def tag_all_60.l0 : Nat → ByteArray → Int → Int → Option (Bool)
  | 0, _, _, _ => none
  | k + 1, x0, x7, x8 => if x8 < x7 then (if 0 ≤ x8 then (if x8 < (x0.size : Int) then ((tag_either.f (bt x0 x8)).bind fun t109 => (if t109 = true then (tag_all_60.l0 k x0 x7 (wrap64 (x8 + 1))) else (some false))) else (none)) else (none)) else (some (x0.toList != ([] : List UInt8)))
def tag_all_60.f (k : Nat) (a0 : ByteArray) (a1 : Nat) : Option (Bool) := tag_all_60.l0 k a0 (a0.size : Int) 0
set_option maxHeartbeats 8000000 in
set_option maxRecDepth 100000 in
theorem tag_all_60.calls (k : Nat) (a0 : ByteArray) (a1 : Nat) (r : Bool) (w : World) (h : tag_all_60.f k a0 a1 = some r) :
    Calls Tryz.prog 32 #[.string a0, .func (.func 60) #[] #[]] w fun e w' => e = .returned (.bool r) ∧ Drawn0 w w' := by
  have H : (tag_all_60.l0 k a0 (a0.size : Int) 0) = some r := h
  clear h
  have H' := Aside0.mk H
  clear H
  go_enter Tryz.func32, Tryz.ntmps32
  go_wp2
  go_loopg [8] k (fun kq v8 w' => ∃ (x8_l1 : Int), v8 = .int .i64 x8_l1 ∧ Aside0 (tag_all_60.l0 kq a0 (a0.size : Int) x8_l1 = some r) ∧ Aside0 (kq ≤ k) ∧ Drawn0 w w')
  case atStart => exact ⟨(0), (by first | rfl | (simp; done) | (simp [*]; done)), H', ⟨Nat.le_refl _⟩, by repeat (first | exact Drawn0.refl _ | apply Drawn0.step)⟩
  case round =>
    clear H'
    try clear p2
    obtain ⟨x8_l1, rfl, HA, HK1, ⟨m1, rfl⟩⟩ := hrel
    cases gk with
    | zero => exact absurd HA.out (by simp [tag_all_60.l0])
    | succ k1 =>
      have H := HA.out
      clear HA
      simp only [tag_all_60.l0] at H
      by_cases c3 : x8_l1 < (a0.size : Int)
      · rw [if_pos c3] at H
        have c3b0 : decide (x8_l1 < (a0.size : Int)) = true := decide_eq_true c3
        clear c3
        by_cases c4 : 0 ≤ x8_l1
        · rw [if_pos c4] at H
          have c4b0 : decide (0 ≤ x8_l1) = true := decide_eq_true c4
          clear c4
          by_cases c5 : x8_l1 < (a0.size : Int)
          · rw [if_pos c5] at H
            have c5b0 : decide (x8_l1 < (a0.size : Int)) = true := decide_eq_true c5
            clear c5
            replace H := Option.bind_eq_some_iff.mp H
            obtain ⟨t109, A70, H⟩ := H
            replace H : (if t109 = true then (tag_all_60.l0 k1 a0 (a0.size : Int) (wrap64 (x8_l1 + 1))) else (some false)) = some r := H
            have A7 := Aside0.mk A70
            clear A70
            by_cases c8 : t109 = true
            · subst c8
              have H1 : (tag_all_60.l0 k1 a0 (a0.size : Int) (wrap64 (x8_l1 + 1))) = some r := by rw [if_pos rfl] at H; exact H
              clear H
              have H := H1
              clear H1
              have H' := Aside0.mk H
              clear H
              have p6 : 0 ≤ (x8_l1 : Int) := of_decide_eq_true (by first | (with_reducible assumption) | assumption)
              have q6 : x8_l1 < (a0.size : Int) := of_decide_eq_true (by first | (with_reducible assumption) | assumption)
              have hx6 := bt_at a0 x8_l1
              replace p6 := eq_true p6
              replace q6 := eq_true q6
              go_wp2_with (first | (go_at_call 60; (with_reducible refine (tag_either.calls (bt a0 x8_l1) true _ A7.out).mono ?_); rintro e w' ⟨rfl, ⟨nd, rfl⟩⟩))
              go_roundg k1
              case measure => have := HK1.out; omega
              case rel => exact ⟨(wrap64 (x8_l1 + 1)), (by first | rfl | (simp; done) | (simp [*]; done)), H', ⟨by have := HK1.out; omega⟩, by repeat (first | exact Drawn0.refl _ | apply Drawn0.step)⟩
            · replace c8 := Bool.eq_false_iff.mpr c8
              subst c8
              have H1 : (some false) = some r := by rw [if_neg (show ¬ (false = true) by decide)] at H; exact H
              clear H
              have H := H1
              clear H1
              obtain rfl := Option.some.inj H
              have p6 : 0 ≤ (x8_l1 : Int) := of_decide_eq_true (by first | (with_reducible assumption) | assumption)
              have q6 : x8_l1 < (a0.size : Int) := of_decide_eq_true (by first | (with_reducible assumption) | assumption)
              have hx6 := bt_at a0 x8_l1
              replace p6 := eq_true p6
              replace q6 := eq_true q6
              go_wp2_with (first | (go_at_call 60; (with_reducible refine (tag_either.calls (bt a0 x8_l1) false _ A7.out).mono ?_); rintro e w' ⟨rfl, ⟨nd, rfl⟩⟩))
              go_ret
              exact ⟨by first | rfl | (simp; done) | (simp [*]; done), by repeat (first | exact Drawn0.refl _ | apply Drawn0.step)⟩
          · rw [if_neg c5] at H
            exact absurd H (by simp)
        · rw [if_neg c4] at H
          exact absurd H (by simp)
      · rw [if_neg c3] at H
        have c3b0 : decide (x8_l1 < (a0.size : Int)) = false := decide_eq_false c3
        clear c3
        obtain rfl := Option.some.inj H
        go_wp2
        go_ret
        exact ⟨by first | rfl | (simp; done) | (simp [*]; done) | (cases hl_ : a0.toList <;> simp [hl_]; done), by repeat (first | exact Drawn0.refl _ | apply Drawn0.step)⟩
def tag_isVariant.f (k : Nat) (a0 : ByteArray) : Option (Bool) := (tag_all_60.f k a0 61).bind fun t110 => (if t110 = true then (if (a0.size : Int) ≥ 5 then (if (a0.size : Int) ≤ 8 then (some true) else (if (a0.size : Int) = 4 then (if 0 < (a0.size : Int) then ((tag_digit.f (bt a0 0)).bind fun t111 => (some t111)) else (none)) else (some false))) else (if (a0.size : Int) = 4 then (if 0 < (a0.size : Int) then ((tag_digit.f (bt a0 0)).bind fun t112 => (some t112)) else (none)) else (some false))) else (some false))
set_option maxHeartbeats 8000000 in
set_option maxRecDepth 100000 in
theorem tag_isVariant.calls (k : Nat) (a0 : ByteArray) (r : Bool) (w : World) (h : tag_isVariant.f k a0 = some r) :
    Calls Tryz.prog 37 #[.string a0] w fun e w' => e = .returned (.bool r) ∧ Drawn0 w w' := by
  have H : ((tag_all_60.f k a0 61).bind fun t110 => (if t110 = true then (if (a0.size : Int) ≥ 5 then (if (a0.size : Int) ≤ 8 then (some true) else (if (a0.size : Int) = 4 then (if 0 < (a0.size : Int) then ((tag_digit.f (bt a0 0)).bind fun t111 => (some t111)) else (none)) else (some false))) else (if (a0.size : Int) = 4 then (if 0 < (a0.size : Int) then ((tag_digit.f (bt a0 0)).bind fun t112 => (some t112)) else (none)) else (some false))) else (some false))) = some r := h
  clear h
  replace H := Option.bind_eq_some_iff.mp H
  obtain ⟨t110, A20, H⟩ := H
  replace H : (if t110 = true then (if (a0.size : Int) ≥ 5 then (if (a0.size : Int) ≤ 8 then (some true) else (if (a0.size : Int) = 4 then (if 0 < (a0.size : Int) then ((tag_digit.f (bt a0 0)).bind fun t111 => (some t111)) else (none)) else (some false))) else (if (a0.size : Int) = 4 then (if 0 < (a0.size : Int) then ((tag_digit.f (bt a0 0)).bind fun t112 => (some t112)) else (none)) else (some false))) else (some false)) = some r := H
  have A2 := Aside0.mk A20
  clear A20
  by_cases c3 : t110 = true
  · subst c3
    have H1 : (if (a0.size : Int) ≥ 5 then (if (a0.size : Int) ≤ 8 then (some true) else (if (a0.size : Int) = 4 then (if 0 < (a0.size : Int) then ((tag_digit.f (bt a0 0)).bind fun t111 => (some t111)) else (none)) else (some false))) else (if (a0.size : Int) = 4 then (if 0 < (a0.size : Int) then ((tag_digit.f (bt a0 0)).bind fun t112 => (some t112)) else (none)) else (some false))) = some r := by rw [if_pos rfl] at H; exact H
    clear H
    have H := H1
    clear H1
    by_cases c4 : (a0.size : Int) ≥ 5
    · rw [if_pos c4] at H
      have c4b0 : decide (5 ≤ (a0.size : Int)) = true := decide_eq_true c4
      have c4b1 : decide (5 ≤ a0.size) = true := decide_eq_true (by omega)
      clear c4
      by_cases c5 : (a0.size : Int) ≤ 8
      · rw [if_pos c5] at H
        have c5b0 : decide ((a0.size : Int) ≤ 8) = true := decide_eq_true c5
        have c5b1 : decide (a0.size ≤ 8) = true := decide_eq_true (by omega)
        clear c5
        obtain rfl := Option.some.inj H
        go_enter Tryz.func37, Tryz.ntmps37
        go_wp2_with (first | ((with_reducible refine gate_callee (f := 32) rfl ?_); refine goesL_ (some 4) rfl rfl Tryz.func32 (by kernel_rfl) rfl #[.string a0, .func (.func 60) #[] #[]] rfl (by (try simp only [List.map_toArray, List.map_cons, List.map_nil]); first | done | rfl | (simp only [List.length_drop, List.length_take]; rfl)) ?_; (with_reducible refine (tag_all_60.calls k a0 61 true _ A2.out).mono ?_); rintro e w' ⟨rfl, ⟨nd, rfl⟩⟩; refine ⟨_, rfl, ?_⟩))
        go_ret
        exact ⟨by first | rfl | (simp; done) | (simp [*]; done), by repeat (first | exact Drawn0.refl _ | apply Drawn0.step)⟩
      · rw [if_neg c5] at H
        have c5b0 : decide ((a0.size : Int) ≤ 8) = false := decide_eq_false c5
        have c5b1 : decide (a0.size ≤ 8) = false := decide_eq_false (by omega)
        clear c5
        by_cases c6 : (a0.size : Int) = 4
        · rw [if_pos c6] at H
          have c6b0 : ((a0.size : Int) == 4) = true := beq_iff_eq.mpr c6
          have c6b1 : ((a0.size : Int) != 4) = false := bne_eq_false_iff_eq.mpr c6
          clear c6
          by_cases c7 : 0 < (a0.size : Int)
          · rw [if_pos c7] at H
            have c7b0 : decide (0 < (a0.size : Int)) = true := decide_eq_true c7
            have c7b1 : decide (0 < a0.size) = true := decide_eq_true (by omega)
            clear c7
            replace H := Option.bind_eq_some_iff.mp H
            obtain ⟨t111, A90, H⟩ := H
            replace H : (some t111) = some r := H
            have A9 := Aside0.mk A90
            clear A90
            obtain rfl := Option.some.inj H
            go_enter Tryz.func37, Tryz.ntmps37
            go_wp2_with (first | ((with_reducible refine gate_callee (f := 32) rfl ?_); refine goesL_ (some 4) rfl rfl Tryz.func32 (by kernel_rfl) rfl #[.string a0, .func (.func 60) #[] #[]] rfl (by (try simp only [List.map_toArray, List.map_cons, List.map_nil]); first | done | rfl | (simp only [List.length_drop, List.length_take]; rfl)) ?_; (with_reducible refine (tag_all_60.calls k a0 61 true _ A2.out).mono ?_); rintro e w' ⟨rfl, ⟨nd, rfl⟩⟩; refine ⟨_, rfl, ?_⟩; have p8 : 0 ≤ (0 : Int) := (by omega); have q8 : 0 < a0.size := (by have : (0 : Int) < (a0.size : Int) := of_decide_eq_true (by first | (with_reducible assumption) | assumption); omega); have hx8 : ∀ h : 0 < a0.size, ((a0[0]'h).toNat : Int) = bt a0 0 := bt_at a0 0; clear p8; have qi8 : (0 < (a0.size : Int)) = True := eq_true (of_decide_eq_true (by first | (with_reducible assumption) | assumption)); replace q8 := eq_true q8) | (go_at_call 59; (with_reducible refine (tag_digit.calls (bt a0 0) t111 _ A9.out).mono ?_); rintro e w' ⟨rfl, ⟨nd, rfl⟩⟩))
            go_ret
            exact ⟨by first | rfl | (simp; done) | (simp [*]; done), by repeat (first | exact Drawn0.refl _ | apply Drawn0.step)⟩
          · rw [if_neg c7] at H
            exact absurd H (by simp)
        · rw [if_neg c6] at H
          have c6b0 : ((a0.size : Int) == 4) = false := beq_eq_false_iff_ne.mpr c6
          have c6b1 : ((a0.size : Int) != 4) = true := bne_iff_ne.mpr c6
          obtain rfl := Option.some.inj H
          go_enter Tryz.func37, Tryz.ntmps37
          go_wp2_with (first | ((with_reducible refine gate_callee (f := 32) rfl ?_); refine goesL_ (some 4) rfl rfl Tryz.func32 (by kernel_rfl) rfl #[.string a0, .func (.func 60) #[] #[]] rfl (by (try simp only [List.map_toArray, List.map_cons, List.map_nil]); first | done | rfl | (simp only [List.length_drop, List.length_take]; rfl)) ?_; (with_reducible refine (tag_all_60.calls k a0 61 true _ A2.out).mono ?_); rintro e w' ⟨rfl, ⟨nd, rfl⟩⟩; refine ⟨_, rfl, ?_⟩))
          go_ret
          exact ⟨by first | rfl | (simp; done) | (simp [*]; done), by repeat (first | exact Drawn0.refl _ | apply Drawn0.step)⟩
    · rw [if_neg c4] at H
      have c4b0 : decide (5 ≤ (a0.size : Int)) = false := decide_eq_false c4
      have c4b1 : decide (5 ≤ a0.size) = false := decide_eq_false (by omega)
      clear c4
      by_cases c10 : (a0.size : Int) = 4
      · rw [if_pos c10] at H
        have c10b0 : ((a0.size : Int) == 4) = true := beq_iff_eq.mpr c10
        have c10b1 : ((a0.size : Int) != 4) = false := bne_eq_false_iff_eq.mpr c10
        clear c10
        by_cases c11 : 0 < (a0.size : Int)
        · rw [if_pos c11] at H
          have c11b0 : decide (0 < (a0.size : Int)) = true := decide_eq_true c11
          have c11b1 : decide (0 < a0.size) = true := decide_eq_true (by omega)
          clear c11
          replace H := Option.bind_eq_some_iff.mp H
          obtain ⟨t112, A130, H⟩ := H
          replace H : (some t112) = some r := H
          have A13 := Aside0.mk A130
          clear A130
          obtain rfl := Option.some.inj H
          go_enter Tryz.func37, Tryz.ntmps37
          go_wp2_with (first | ((with_reducible refine gate_callee (f := 32) rfl ?_); refine goesL_ (some 4) rfl rfl Tryz.func32 (by kernel_rfl) rfl #[.string a0, .func (.func 60) #[] #[]] rfl (by (try simp only [List.map_toArray, List.map_cons, List.map_nil]); first | done | rfl | (simp only [List.length_drop, List.length_take]; rfl)) ?_; (with_reducible refine (tag_all_60.calls k a0 61 true _ A2.out).mono ?_); rintro e w' ⟨rfl, ⟨nd, rfl⟩⟩; refine ⟨_, rfl, ?_⟩; have p12 : 0 ≤ (0 : Int) := (by omega); have q12 : 0 < a0.size := (by have : (0 : Int) < (a0.size : Int) := of_decide_eq_true (by first | (with_reducible assumption) | assumption); omega); have hx12 : ∀ h : 0 < a0.size, ((a0[0]'h).toNat : Int) = bt a0 0 := bt_at a0 0; clear p12; have qi12 : (0 < (a0.size : Int)) = True := eq_true (of_decide_eq_true (by first | (with_reducible assumption) | assumption)); replace q12 := eq_true q12) | (go_at_call 59; (with_reducible refine (tag_digit.calls (bt a0 0) t112 _ A13.out).mono ?_); rintro e w' ⟨rfl, ⟨nd, rfl⟩⟩))
          go_ret
          exact ⟨by first | rfl | (simp; done) | (simp [*]; done), by repeat (first | exact Drawn0.refl _ | apply Drawn0.step)⟩
        · rw [if_neg c11] at H
          exact absurd H (by simp)
      · rw [if_neg c10] at H
        have c10b0 : ((a0.size : Int) == 4) = false := beq_eq_false_iff_ne.mpr c10
        have c10b1 : ((a0.size : Int) != 4) = true := bne_iff_ne.mpr c10
        obtain rfl := Option.some.inj H
        go_enter Tryz.func37, Tryz.ntmps37
        go_wp2_with (first | ((with_reducible refine gate_callee (f := 32) rfl ?_); refine goesL_ (some 4) rfl rfl Tryz.func32 (by kernel_rfl) rfl #[.string a0, .func (.func 60) #[] #[]] rfl (by (try simp only [List.map_toArray, List.map_cons, List.map_nil]); first | done | rfl | (simp only [List.length_drop, List.length_take]; rfl)) ?_; (with_reducible refine (tag_all_60.calls k a0 61 true _ A2.out).mono ?_); rintro e w' ⟨rfl, ⟨nd, rfl⟩⟩; refine ⟨_, rfl, ?_⟩))
        go_ret
        exact ⟨by first | rfl | (simp; done) | (simp [*]; done), by repeat (first | exact Drawn0.refl _ | apply Drawn0.step)⟩
  · replace c3 := Bool.eq_false_iff.mpr c3
    subst c3
    have H1 : (some false) = some r := by rw [if_neg (show ¬ (false = true) by decide)] at H; exact H
    clear H
    have H := H1
    clear H1
    obtain rfl := Option.some.inj H
    go_enter Tryz.func37, Tryz.ntmps37
    go_wp2_with (first | ((with_reducible refine gate_callee (f := 32) rfl ?_); refine goesL_ (some 4) rfl rfl Tryz.func32 (by kernel_rfl) rfl #[.string a0, .func (.func 60) #[] #[]] rfl (by (try simp only [List.map_toArray, List.map_cons, List.map_nil]); first | done | rfl | (simp only [List.length_drop, List.length_take]; rfl)) ?_; (with_reducible refine (tag_all_60.calls k a0 61 false _ A2.out).mono ?_); rintro e w' ⟨rfl, ⟨nd, rfl⟩⟩; refine ⟨_, rfl, ?_⟩))
    go_ret
    exact ⟨by first | rfl | (simp; done) | (simp [*]; done), by repeat (first | exact Drawn0.refl _ | apply Drawn0.step)⟩
def slices_Index_string_string.l0 : Nat → List ByteArray → ByteArray → Int → Int → Option (Int)
  | 0, _, _, _, _ => none
  | k + 1, x0, x1, x7, x8 => if x8 < x7 then (if 0 ≤ x8 then (if x8 < (x0.length : Int) then (if x1.toList = (rdOf ByteArray.empty x0 x8).toList then (some x8) else (slices_Index_string_string.l0 k x0 x1 x7 (wrap64 (x8 + 1)))) else (none)) else (none)) else (some (-1))
def slices_Index_string_string.f (k : Nat) (l0 : List ByteArray) (a1 : ByteArray) : Option (Int) := slices_Index_string_string.l0 k l0 a1 (l0.length : Int) 0
set_option maxHeartbeats 8000000 in
set_option maxRecDepth 100000 in
theorem slices_Index_string_string.calls (k : Nat) (A0 : Option Addr) (c0 : Nat) (l0 : List ByteArray) (a1 : ByteArray) (r : Int) (w : World) (hr0 : Kd.C Kd.string w A0 l0.length l0) (hc0 : l0.length ≤ c0) (h : slices_Index_string_string.f k l0 a1 = some r) :
    Calls Tryz.prog 61 #[.slice A0 l0.length c0, .string a1] w fun e w' => e = .returned (.int .i64 r) ∧ Drawn0 w w' := by
  have HR0 := Aside0.mk hr0
  have HC0 := Aside0.mk hc0
  clear hr0 hc0
  have H : (slices_Index_string_string.l0 k l0 a1 (l0.length : Int) 0) = some r := h
  clear h
  have H' := Aside0.mk H
  clear H
  go_enter Tryz.func61, Tryz.ntmps61
  go_wp2
  go_loopg [8] k (fun kq v8 w' => ∃ (x8_l1 : Int), v8 = .int .i64 x8_l1 ∧ Aside0 (slices_Index_string_string.l0 kq l0 a1 (l0.length : Int) x8_l1 = some r) ∧ Aside0 (kq ≤ k) ∧ Drawn0 w w')
  case atStart => exact ⟨(0), (by first | rfl | (simp; done) | (simp [*]; done)), H', ⟨Nat.le_refl _⟩, by repeat (first | exact Drawn0.refl _ | apply Drawn0.step)⟩
  case round =>
    clear H'
    try clear p2
    obtain ⟨x8_l1, rfl, HA, HK1, ⟨m1, rfl⟩⟩ := hrel
    cases gk with
    | zero => exact absurd HA.out (by simp [slices_Index_string_string.l0])
    | succ k1 =>
      have H := HA.out
      clear HA
      simp only [slices_Index_string_string.l0] at H
      by_cases c3 : x8_l1 < (l0.length : Int)
      · rw [if_pos c3] at H
        have c3b0 : decide (x8_l1 < (l0.length : Int)) = true := decide_eq_true c3
        clear c3
        by_cases c4 : 0 ≤ x8_l1
        · rw [if_pos c4] at H
          have c4b0 : decide (0 ≤ x8_l1) = true := decide_eq_true c4
          clear c4
          by_cases c5 : x8_l1 < (l0.length : Int)
          · rw [if_pos c5] at H
            have c5b0 : decide (x8_l1 < (l0.length : Int)) = true := decide_eq_true c5
            clear c5
            by_cases c6 : a1.toList = (rdOf ByteArray.empty l0 x8_l1).toList
            · rw [if_pos c6] at H
              have c6b0 : (a1.toList == (rdOf ByteArray.empty l0 x8_l1).toList) = true := beq_iff_eq.mpr c6
              have c6b1 : (a1.toList != (rdOf ByteArray.empty l0 x8_l1).toList) = false := bne_eq_false_iff_eq.mpr c6
              clear c6
              obtain rfl := Option.some.inj H
              have p113 : 0 ≤ (x8_l1 : Int) := of_decide_eq_true (by first | (with_reducible assumption) | assumption)
              have q113 : x8_l1 < (l0.length : Int) := of_decide_eq_true (by first | (with_reducible assumption) | assumption)
              obtain ⟨ad113, e113, hx113_0⟩ := Kd.at_string HR0.out x8_l1 p113 q113
              cases e113
              replace p113 := eq_true p113
              replace q113 := eq_true q113
              go_wp2
              go_ret
              exact ⟨by first | rfl | (simp; done) | (simp [*]; done), by repeat (first | exact Drawn0.refl _ | apply Drawn0.step)⟩
            · rw [if_neg c6] at H
              have c6b0 : (a1.toList == (rdOf ByteArray.empty l0 x8_l1).toList) = false := beq_eq_false_iff_ne.mpr c6
              have c6b1 : (a1.toList != (rdOf ByteArray.empty l0 x8_l1).toList) = true := bne_iff_ne.mpr c6
              have H' := Aside0.mk H
              clear H
              have p113 : 0 ≤ (x8_l1 : Int) := of_decide_eq_true (by first | (with_reducible assumption) | assumption)
              have q113 : x8_l1 < (l0.length : Int) := of_decide_eq_true (by first | (with_reducible assumption) | assumption)
              obtain ⟨ad113, e113, hx113_0⟩ := Kd.at_string HR0.out x8_l1 p113 q113
              cases e113
              replace p113 := eq_true p113
              replace q113 := eq_true q113
              go_wp2
              go_roundg k1
              case measure => have := HK1.out; omega
              case rel => exact ⟨(wrap64 (x8_l1 + 1)), (by first | rfl | (simp; done) | (simp [*]; done)), H', ⟨by have := HK1.out; omega⟩, by repeat (first | exact Drawn0.refl _ | apply Drawn0.step)⟩
          · rw [if_neg c5] at H
            exact absurd H (by simp)
        · rw [if_neg c4] at H
          exact absurd H (by simp)
      · rw [if_neg c3] at H
        have c3b0 : decide (x8_l1 < (l0.length : Int)) = false := decide_eq_false c3
        clear c3
        obtain rfl := Option.some.inj H
        go_wp2
        go_ret
        exact ⟨by first | rfl | (simp; done) | (simp [*]; done), by repeat (first | exact Drawn0.refl _ | apply Drawn0.step)⟩
def slices_Contains_string_string.f (k : Nat) (l0 : List ByteArray) (a1 : ByteArray) : Option (Bool) := (slices_Index_string_string.f k l0 a1).bind fun t114 => (some (decide (t114 ≥ 0)))
set_option maxHeartbeats 8000000 in
set_option maxRecDepth 100000 in
theorem slices_Contains_string_string.calls (k : Nat) (A0 : Option Addr) (c0 : Nat) (l0 : List ByteArray) (a1 : ByteArray) (r : Bool) (w : World) (hr0 : Kd.C Kd.string w A0 l0.length l0) (hc0 : l0.length ≤ c0) (h : slices_Contains_string_string.f k l0 a1 = some r) :
    Calls Tryz.prog 38 #[.slice A0 l0.length c0, .string a1] w fun e w' => e = .returned (.bool r) ∧ Drawn0 w w' := by
  have HR0 := Aside0.mk hr0
  have HC0 := Aside0.mk hc0
  clear hr0 hc0
  have H : ((slices_Index_string_string.f k l0 a1).bind fun t114 => (some (decide (t114 ≥ 0)))) = some r := h
  clear h
  replace H := Option.bind_eq_some_iff.mp H
  obtain ⟨t114, A30, H⟩ := H
  replace H : (some (decide (t114 ≥ 0))) = some r := H
  have A3 := Aside0.mk A30
  clear A30
  obtain rfl := Option.some.inj H
  go_enter Tryz.func38, Tryz.ntmps38
  go_wp2_with (first | ((with_reducible refine gate_callee (f := 61) rfl ?_); refine goesL_ (some 7) rfl rfl Tryz.func61 (by kernel_rfl) rfl #[.slice A0 l0.length c0, .string a1] rfl (by (try simp only [List.map_toArray, List.map_cons, List.map_nil]); first | done | rfl | (simp only [List.length_drop, List.length_take]; rfl)) ?_; (with_reducible refine (slices_Index_string_string.calls k _ _ l0 a1 t114 _ ?side1 ?side2 A3.out).mono ?_); (case side1 => repeat (first | exact HR0.out | (with_reducible refine Kd.C_alloc ?_ _) | (with_reducible refine Kd.C_drewN ?_ _) | (with_reducible refine Kd.C_drew ?_))); (case side2 => exact HC0.out); rintro e w' ⟨rfl, ⟨nd, rfl⟩⟩; refine ⟨_, rfl, ?_⟩))
  go_ret
  exact ⟨by first | rfl | (simp; done) | (simp [*]; done), by repeat (first | exact Drawn0.refl _ | apply Drawn0.step)⟩
end Go.Proofs.YtkmbkejmfffafaaGreatDoor.PLow
end
section
namespace Go.Proofs.YtkmbkejmfffafaaGreatDoorHand
open Go.RowKit Go.Proofs.YtkmbkejmfffafaaGreatDoor.PLow Go.Proofs.YtkmbkejmfffafaaGreatDoorW.PrintWords Go.Proofs.YtkmbkejmfffafaaGreatDoorW.PrintLast Go.Proofs.YtkmbkejmfffafaaGreatDoorW.PrintMore
set_option linter.unusedVariables false
set_option linter.unusedSimpArgs false
theorem wrap_id {x : Int} (h1 : -9223372036854775808 ≤ x) (h2 : x ≤ 9223372036854775807) : wrap64 x = x := by unfold wrap64; omega
def letB (c : Int) : Bool := decide ((97 ≤ c ∧ c ≤ 122) ∨ (65 ≤ c ∧ c ≤ 90))
def digB (c : Int) : Bool := decide (48 ≤ c ∧ c ≤ 57)
def eitB (c : Int) : Bool := letB c || digB c
theorem letter_eq (c : Int) : tag_letter.f c = some (letB c) := by
  unfold tag_letter.f letB
  by_cases a : c ≥ 97
  · rw [if_pos a]
    by_cases b : c ≤ 122
    · rw [if_pos b]; congr 1; rw [eq_comm, decide_eq_true_eq]; omega
    · rw [if_neg b, if_pos (by omega)]; congr 1; apply decide_eq_decide.2; omega
  · rw [if_neg a]
    by_cases b : c ≥ 65
    · rw [if_pos b]; congr 1; apply decide_eq_decide.2; omega
    · rw [if_neg b]; congr 1; rw [eq_comm, decide_eq_false_iff_not]; omega
theorem digit_eq (c : Int) : tag_digit.f c = some (digB c) := by
  unfold tag_digit.f digB
  by_cases a : c ≥ 48
  · rw [if_pos a]; congr 1; apply decide_eq_decide.2; omega
  · rw [if_neg a]; congr 1; rw [eq_comm, decide_eq_false_iff_not]; omega
theorem either_eq (c : Int) : tag_either.f c = some (eitB c) := by
  unfold tag_either.f eitB
  rw [letter_eq, digit_eq]
  simp only [Option.bind_some]
  cases letB c <;> simp
def allB (P : Int → Bool) (s : ByteArray) : Bool := (bytesOf s).all P && (s.toList != ([] : List UInt8))
theorem all_run (P : Int → Bool) (s : ByteArray) (hs : s.size ≤ 2000000) (L : Nat → Int → Option Bool)
    (hL : ∀ k x, L (k + 1) x = if x < (s.size : Int) then (if 0 ≤ x then (if x < (s.size : Int) then ((some (P (bt s x))).bind fun t => (if t = true then L k (wrap64 (x + 1)) else some false)) else none) else none) else some (s.toList != ([] : List UInt8))) (n : Nat) :
    ∀ (k i : Nat), n < k → i + n = s.size → L k (i : Int) = some (((bytesOf s).drop i).all P && (s.toList != ([] : List UInt8))) := by
  induction n with
  | zero =>
    intro k i hk hi
    obtain ⟨k, rfl⟩ : ∃ j, k = j + 1 := ⟨k - 1, by omega⟩
    rw [hL, if_neg (by omega), List.drop_of_length_le (by rw [bytesOf_length]; omega)]
    rfl
  | succ n ih =>
    intro k i hk hi
    obtain ⟨k, rfl⟩ : ∃ j, k = j + 1 := ⟨k - 1, by omega⟩
    rw [hL, if_pos (by omega), if_pos (by omega), if_pos (by omega), wrap_id (x := (i : Int) + 1) (by omega) (by omega)]
    have hl : i < (bytesOf s).length := by rw [bytesOf_length]; omega
    have e : (bytesOf s)[i] = bt s i := by
      have := rd_bytesOf s i
      rw [← this]
      unfold rd
      simp [List.getD_eq_getElem?_getD, List.getElem?_eq_getElem hl]
    rw [List.drop_eq_getElem_cons hl, List.all_cons, e]
    simp only [Option.bind_some]
    cases h : P (bt s i) with
    | true =>
      rw [if_pos rfl, Bool.true_and]
      have := ih k (i + 1) (by omega) (by omega)
      rw [← this]; rfl
    | false => rw [if_neg (by simp)]; rfl
theorem all33_eq (k : Nat) (s : ByteArray) (a : Nat) (hs : s.size ≤ 2000000) (hk : s.size < k) : tag_all_33.f k s a = some (allB letB s) := by
  have := all_run letB s hs (fun k x => tag_all_33.l0 k s (s.size : Int) x) (fun k x => by show tag_all_33.l0 (k + 1) s (s.size : Int) x = _; rw [tag_all_33.l0, letter_eq]) s.size k 0 hk (by omega)
  exact this
theorem all59_eq (k : Nat) (s : ByteArray) (a : Nat) (hs : s.size ≤ 2000000) (hk : s.size < k) : tag_all_59.f k s a = some (allB digB s) := by
  have := all_run digB s hs (fun k x => tag_all_59.l0 k s (s.size : Int) x) (fun k x => by show tag_all_59.l0 (k + 1) s (s.size : Int) x = _; rw [tag_all_59.l0, digit_eq]) s.size k 0 hk (by omega)
  exact this
theorem all60_eq (k : Nat) (s : ByteArray) (a : Nat) (hs : s.size ≤ 2000000) (hk : s.size < k) : tag_all_60.f k s a = some (allB eitB s) := by
  have := all_run eitB s hs (fun k x => tag_all_60.l0 k s (s.size : Int) x) (fun k x => by show tag_all_60.l0 (k + 1) s (s.size : Int) x = _; rw [tag_all_60.l0, either_eq]) s.size k 0 hk (by omega)
  exact this
def scrB (s : ByteArray) : Bool := decide (s.size = 4) && allB letB s
def regB (s : ByteArray) : Bool := decide (s.size = 2) && allB letB s || decide (s.size = 3) && allB digB s
def varB (s : ByteArray) : Bool := allB eitB s && (decide (5 ≤ s.size ∧ s.size ≤ 8) || decide (s.size = 4) && digB (bt s 0))
theorem script_eq (k : Nat) (s : ByteArray) (hs : s.size ≤ 2000000) (hk : s.size < k) : tag_isScript.f k s = some (scrB s) := by
  unfold tag_isScript.f scrB
  rw [all33_eq k s 37 hs hk]
  by_cases h : s.size = 4
  · rw [if_pos (by omega)]; simp [h]
  · rw [if_neg (by omega)]; simp [h]
theorem region_eq (k : Nat) (s : ByteArray) (hs : s.size ≤ 2000000) (hk : s.size < k) : tag_isRegion.f k s = some (regB s) := by
  unfold tag_isRegion.f regB
  rw [all33_eq k s 37 hs hk, all59_eq k s 60 hs hk]
  simp only [Option.bind_some]
  by_cases h : s.size = 2
  · rw [if_pos (by omega)]
    cases allB letB s with
    | true => rw [if_pos rfl]; simp [h]
    | false => rw [if_neg (by simp), if_neg (by omega)]; simp [h]
  · rw [if_neg (by omega)]
    by_cases h3 : s.size = 3
    · rw [if_pos (by omega)]; simp [h, h3]
    · rw [if_neg (by omega)]; simp [h, h3]
theorem variant_eq (k : Nat) (s : ByteArray) (hs : s.size ≤ 2000000) (hk : s.size < k) : tag_isVariant.f k s = some (varB s) := by
  unfold tag_isVariant.f varB
  rw [all60_eq k s 61 hs hk, digit_eq]
  simp only [Option.bind_some]
  cases allB eitB s with
  | false => simp
  | true =>
    rw [if_pos rfl]
    by_cases h4 : s.size = 4
    · rw [if_neg (by omega), if_pos (by omega), if_pos (by omega)]
      simp [h4]
    · by_cases h5 : (s.size : Int) ≥ 5
      · rw [if_pos h5]
        by_cases h8 : (s.size : Int) ≤ 8
        · rw [if_pos h8]; congr 1; have : 5 ≤ s.size ∧ s.size ≤ 8 := by omega
          simp [this]
        · rw [if_neg h8, if_neg (by omega)]; congr 1; have : ¬ (5 ≤ s.size ∧ s.size ≤ 8) := by omega
          simp [this, h4]
      · rw [if_neg h5, if_neg (by omega)]; congr 1; have : ¬ (5 ≤ s.size ∧ s.size ≤ 8) := by omega
        simp [this, h4]
def hasS (l : List ByteArray) (x : ByteArray) : Bool := l.any (fun y => decide (x.toList = y.toList))
theorem index_run (l : List ByteArray) (x : ByteArray) (hl : l.length ≤ 2000000) (n : Nat) : ∀ (k i : Nat), n < k → i + n = l.length →
    ∃ r, slices_Index_string_string.l0 k l x (l.length : Int) (i : Int) = some r ∧ (decide (r ≥ 0)) = hasS (l.drop i) x := by
  induction n with
  | zero =>
    intro k i hk hi
    obtain ⟨k, rfl⟩ : ∃ j, k = j + 1 := ⟨k - 1, by omega⟩
    refine ⟨-1, ?_, ?_⟩
    · rw [slices_Index_string_string.l0, if_neg (by omega)]
    · rw [List.drop_of_length_le (by omega)]; rfl
  | succ n ih =>
    intro k i hk hi
    obtain ⟨k, rfl⟩ : ∃ j, k = j + 1 := ⟨k - 1, by omega⟩
    have hil : i < l.length := by omega
    have e : rdOf ByteArray.empty l (i : Int) = l[i] := by
      unfold rdOf
      simp [List.getD_eq_getElem?_getD, List.getElem?_eq_getElem hil]
    rw [slices_Index_string_string.l0, if_pos (by omega), if_pos (by omega), if_pos (by omega), e, wrap_id (x := (i : Int) + 1) (by omega) (by omega), List.drop_eq_getElem_cons hil]
    by_cases h : x.toList = l[i].toList
    · refine ⟨i, if_pos h, ?_⟩
      unfold hasS
      rw [List.any_cons]
      simp [h]
    · obtain ⟨r, h1, h2⟩ := ih k (i + 1) (by omega) (by omega)
      refine ⟨r, ?_, ?_⟩
      · rw [if_neg h]; exact h1
      · rw [h2]; unfold hasS; rw [List.any_cons]; simp [h]
theorem contains_eq (k : Nat) (l : List ByteArray) (x : ByteArray) (hl : l.length ≤ 2000000) (hk : l.length < k) : slices_Contains_string_string.f k l x = some (hasS l x) := by
  obtain ⟨r, h1, h2⟩ := index_run l x hl l.length k 0 hk (by omega)
  unfold slices_Contains_string_string.f slices_Index_string_string.f
  have h1' : slices_Index_string_string.l0 k l x (l.length : Int) 0 = some r := h1
  rw [h1', Option.bind_some, h2]
  rfl
theorem script_calls (s : ByteArray) (hs : s.size ≤ 2000000) (w : World) : Calls Tryz.prog 35 #[.string s] w fun e w' => e = .returned (.bool (scrB s)) ∧ Drawn0 w w' := tag_isScript.calls (s.size + 1) s _ w (script_eq _ s hs (by omega))
theorem region_calls (s : ByteArray) (hs : s.size ≤ 2000000) (w : World) : Calls Tryz.prog 36 #[.string s] w fun e w' => e = .returned (.bool (regB s)) ∧ Drawn0 w w' := tag_isRegion.calls (s.size + 1) s _ w (region_eq _ s hs (by omega))
theorem variant_calls (s : ByteArray) (hs : s.size ≤ 2000000) (w : World) : Calls Tryz.prog 37 #[.string s] w fun e w' => e = .returned (.bool (varB s)) ∧ Drawn0 w w' := tag_isVariant.calls (s.size + 1) s _ w (variant_eq _ s hs (by omega))
theorem letters_calls (s : ByteArray) (hs : s.size ≤ 2000000) (w : World) : Calls Tryz.prog 32 #[.string s, .func (.func 33) #[] #[]] w fun e w' => e = .returned (.bool (allB letB s)) ∧ Drawn0 w w' := tag_all_33.calls (s.size + 1) s 37 _ w (all33_eq _ s 37 hs (by omega))
def foldS (up : Bool) (s : ByteArray) : ByteArray := ⟨(foldL up s.data.toList).toArray⟩
theorem foldS_size (up : Bool) (s : ByteArray) : (foldS up s).size = s.size := by
  show ((foldL up s.data.toList).toArray).size = s.size
  rw [List.size_toArray, foldL, List.length_map, Array.length_toList]; rfl
theorem fold_calls (s : ByteArray) (up : Bool) (hs : s.size ≤ 2000000) (w : World) : Calls Tryz.prog 34 #[.string s, .bool up] w fun e w' => e = .returned (.string (foldS up s)) ∧ Below w.heap.size w w' :=
  tag_fold.calls s up _ w (by unfold tag_fold.f; rw [if_pos hs]; rfl)
theorem contains_calls (A : Option Addr) (c : Nat) (l : List ByteArray) (x : ByteArray) (w : World) (hr : Kd.C Kd.string w A l.length l) (hc : l.length ≤ c) (hl : l.length ≤ 2000000) :
    Calls Tryz.prog 38 #[.slice A l.length c, .string x] w fun e w' => e = .returned (.bool (hasS l x)) ∧ Drawn0 w w' := slices_Contains_string_string.calls (l.length + 1) A c l x _ w hr hc (contains_eq _ l x hl (by omega))
end Go.Proofs.YtkmbkejmfffafaaGreatDoorHand
end
