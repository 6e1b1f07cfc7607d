/- Texts joined by this session's own program, part 13. -/
import Derived.Test.YtkmbkejmfffafaaGreatDoorQ12
set_option linter.unusedSectionVars false
set_option linter.unusedVariables false
set_option linter.unusedSimpArgs false
namespace Go.Proofs.YtkmbkejmfffafaaGreatDoor.Refl
open Go Go.RowKit
set_option linter.unusedVariables false
set_option linter.unusedSimpArgs false
set_option maxRecDepth 1000000
noncomputable def sameL (f : Value → Value → Bool) (a : List Value) : List Value → Bool := List.rec (motive := fun _ => List Value → Bool) (fun b => match b with
  | [] => true
  | _ :: _ => false) (fun x _ ih b => match b with
  | [] => false
  | y :: ys => match f x y with
    | true => ih ys
    | false => false) a
noncomputable def sameI (i : IV) (b : Value) : Bool := match asInt b with
  | none => false
  | some j => match kEq i.k j.k with
    | true => iEq i.n j.n
    | false => false
noncomputable def nilPtr (v : Value) : Bool := match v with
  | .pointer a => match a with
    | none => true
    | some _ => false
  | _ => false
noncomputable def nilSl (v : Value) : Bool := match v with
  | .slice a n c => match a with
    | none => match n with
      | 0 => match c with
        | 0 => true
        | _ => false
      | _ => false
    | some _ => false
  | _ => false
noncomputable def sameN (a b : Value) : Bool := match nilPtr a with
  | true => nilPtr b
  | false => match nilSl a with
    | true => nilSl b
    | false => false
theorem nilPtr_eq {v : Value} (h : nilPtr v = true) : v = .pointer none := by
  cases v <;> first | (cases h; done) | skip
  rename_i a
  cases a with
  | none => rfl
  | some _ => cases h
theorem nilSl_eq {v : Value} (h : nilSl v = true) : v = .slice none 0 0 := by
  cases v <;> first | (cases h; done) | skip
  rename_i a n c
  cases a with
  | some _ => cases h
  | none =>
    cases n with
    | succ _ => cases h
    | zero =>
      cases c with
      | succ _ => cases h
      | zero => rfl
theorem sameN_eq {a b : Value} (h : sameN a b = true) : a = b := by
  unfold sameN at h
  cases k : nilPtr a with
  | true => rw [k] at h; rw [nilPtr_eq k, nilPtr_eq h]
  | false =>
    rw [k] at h
    cases k2 : nilSl a with
    | true => rw [k2] at h; rw [nilSl_eq k2, nilSl_eq h]
    | false => rw [k2] at h; cases h
noncomputable def same (n : Nat) : Value → Value → Bool := Nat.rec (motive := fun _ => Value → Value → Bool) (fun _ _ => false) (fun _ ih a b => match asInt a with
  | some i => sameI i b
  | none => match asAgg a with
    | some xs => (match asAgg b with
      | some ys => sameL ih xs ys
      | none => false)
    | none => match asTup a with
      | some xs => (match asTup b with
        | some ys => sameL ih xs ys
        | none => false)
      | none => match asBool a with
        | some p => (match asBool b with
          | some q => beqB p q
          | none => false)
        | none => match asStr a with
          | some l => (match asStr b with
            | some m => bytesEq l m
            | none => false)
          | none => sameN a b) n
theorem sameL_eq {f : Value → Value → Bool} (hf : ∀ a b, f a b = true → a = b) : ∀ (l m : List Value), sameL f l m = true → l = m
  | [], [], _ => rfl
  | [], y :: ys, h => by cases h
  | x :: xs, [], h => by cases h
  | x :: xs, y :: ys, h => by
    change (match f x y with | true => sameL f xs ys | false => false) = true at h
    cases k : f x y with
    | false => rw [k] at h; cases h
    | true => rw [k] at h; rw [hf x y k, sameL_eq hf xs ys h]
theorem same_eq : ∀ (n : Nat) (a b : Value), same n a b = true → a = b
  | 0, a, b, h => by cases h
  | n+1, a, b, h => by
    have ih := sameL_eq (same_eq n)
    cases a <;> cases b <;> simp [same, sameI, asInt, asAgg, asTup, asBool, asStr] at h
    all_goals first | exact sameN_eq h | skip
    case bool.bool p q => exact congrArg _ (by cases p <;> cases q <;> first | rfl | cases h)
    case int.int k i l j =>
      cases e : kEq k l with
      | false => rw [e] at h; cases h
      | true =>
        rw [e] at h
        have h2 : i = j := by
          have h3 : iEq i j = true := h
          rw [iEq_eq] at h3; simpa using h3
        rw [kEq_true e, h2]
    case string.string s t =>
      rw [bytesEq_eq] at h
      have h2 : s.data.toList = t.data.toList := by simpa using h
      have h3 : s.data = t.data := Array.ext' (by simpa using h2)
      cases s; cases t; cases h3; rfl
    case agg.agg cs ds => exact congrArg _ (Array.ext' (ih _ _ h))
    case tuple.tuple cs ds => exact congrArg _ (Array.ext' (ih _ _ h))
noncomputable def ranTo (f : Nat) (args : List Value) (r : Value) : Bool := match acall (envT []) 60 f args hC0 with
  | none => false
  | some q => match q with
    | (v, h) => match same 6 v r with
      | true => clean h
      | false => false
theorem pure_of_ranTo {f : Nat} {args : List Value} {r : Value} (h : ranTo f args r = true) (ha : ∀ v ∈ args, flat 5 v = true) (hr : flat 5 r = true) : Pure false f args r := by
  unfold ranTo at h
  cases e : acall (envT []) 60 f args hC0 with
  | none => rw [e] at h; cases h
  | some q =>
    obtain ⟨v, h1⟩ := q
    rw [e] at h
    simp only at h
    cases k : same 6 v r with
    | false => rw [k] at h; cases h
    | true =>
      rw [k] at h
      obtain ⟨k3, k4⟩ := clean_some h
      rw [same_eq _ _ _ k] at e
      exact pure_of_run0 envT0 e k3 k4 ha hr
noncomputable def optV (mi mf xf : Nat) (pl rk : Bool) : Value := .agg ⟨[intV mi, intV mf, intV xf, .bool pl, .bool rk]⟩
def nmMin : List UInt8 := [109, 105, 110, 105, 109, 117, 109, 70, 114, 97, 99, 116, 105, 111, 110, 68, 105, 103, 105, 116, 115]
def nmMax : List UInt8 := [109, 97, 120, 105, 109, 117, 109, 70, 114, 97, 99, 116, 105, 111, 110, 68, 105, 103, 105, 116, 115]
def nmGrp : List UInt8 := [117, 115, 101, 71, 114, 111, 117, 112, 105, 110, 103]
def txFalse : List UInt8 := [102, 97, 108, 115, 101]
noncomputable def nMax (a b : Nat) : Nat := match Nat.blt a b with
  | true => b
  | false => a
noncomputable def nMin (a b : Nat) : Nat := match Nat.blt b a with
  | true => b
  | false => a
noncomputable def decN (l : Nat) : Value := .agg ⟨[.bool false, strV (itoaF l), intV 0]⟩
noncomputable def setA1 (l : Nat) : List Value := [optV 1 0 3 false false, strV nmMin, strV [], decN l, .bool false]
noncomputable def setR1 (l : Nat) : Value := .tuple ⟨[optV 1 l (nMax 3 l) false false, intV 0]⟩
noncomputable def setA2 (l m : Nat) : List Value := [optV 1 l (nMax 3 l) false false, strV nmMax, strV [], decN m, .bool false]
noncomputable def setR2 (l m : Nat) : Value := .tuple ⟨[optV 1 (nMin l m) m false false, intV 0]⟩
noncomputable def setA3 (l m : Nat) : List Value := [optV 1 (nMin l m) m false false, strV nmGrp, strV txFalse, .agg ⟨[.bool false, strV [], intV 0]⟩, .bool true]
noncomputable def setR3 (l m : Nat) : Value := .tuple ⟨[optV 1 (nMin l m) m true false, intV 0]⟩
theorem setAll1 : allB (fun l => ranTo 283 (setA1 l) (setR1 l)) (upTo 21 []) = true := by kernel_rfl
theorem setAll2 : allB (fun l => allB (fun m => ranTo 283 (setA2 l m) (setR2 l m)) (upTo 21 [])) (upTo 21 []) = true := by kernel_rfl
theorem setAll3 : allB (fun l => allB (fun m => ranTo 283 (setA3 l m) (setR3 l m)) (upTo 21 [])) (upTo 21 []) = true := by kernel_rfl
theorem set1_pure {l : Nat} (hl : l < 21) : Pure false 283 (setA1 l) (setR1 l) :=
  pure_of_ranTo ((allB_eq _ _).1 setAll1 l ((upTo_mem 21 [] l).2 (.inl hl))) (fun v hv => by
    simp only [setA1, List.mem_cons, List.not_mem_nil, or_false] at hv
    rcases hv with rfl | rfl | rfl | rfl | rfl <;> rfl) rfl
theorem set2_pure {l m : Nat} (hl : l < 21) (hm : m < 21) : Pure false 283 (setA2 l m) (setR2 l m) :=
  pure_of_ranTo ((allB_eq _ _).1 ((allB_eq _ _).1 setAll2 l ((upTo_mem 21 [] l).2 (.inl hl))) m ((upTo_mem 21 [] m).2 (.inl hm))) (fun v hv => by
    simp only [setA2, List.mem_cons, List.not_mem_nil, or_false] at hv
    rcases hv with rfl | rfl | rfl | rfl | rfl <;> rfl) rfl
theorem set3_pure {l m : Nat} (hl : l < 21) (hm : m < 21) : Pure false 283 (setA3 l m) (setR3 l m) :=
  pure_of_ranTo ((allB_eq _ _).1 ((allB_eq _ _).1 setAll3 l ((upTo_mem 21 [] l).2 (.inl hl))) m ((upTo_mem 21 [] m).2 (.inl hm))) (fun v hv => by
    simp only [setA3, List.mem_cons, List.not_mem_nil, or_false] at hv
    rcases hv with rfl | rfl | rfl | rfl | rfl <;> rfl) rfl
end Go.Proofs.YtkmbkejmfffafaaGreatDoor.Refl
