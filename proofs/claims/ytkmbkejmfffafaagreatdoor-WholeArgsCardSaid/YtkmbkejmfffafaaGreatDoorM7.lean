/- The second reading of the model's code, part 7 of 13. -/
import Derived.Test.YtkmbkejmfffafaaGreatDoorM6
import Derived.Test.YtkmbkejmfffafaaGreatDoorShelf
set_option linter.unusedSectionVars false
set_option linter.unusedVariables false
set_option linter.unusedSimpArgs false
/- The second reading: plug-ins for symbolic data (what they tell; that they are right is told elsewhere). -/
namespace Go.Proofs.YtkmbkejmfffafaaGreatDoor.Refl
open Go
set_option linter.unusedVariables false

/-- strings.asciiSpace; internal/strconv.uint64pow10. -/
def asc : List Value := (List.range 256).map fun i => .int .u8 (if [9, 10, 11, 12, 13, 32].contains i then 1 else 0)
def p10 : List Value := [.int .u64 1, .int .u64 10, .int .u64 100, .int .u64 1000, .int .u64 10000, .int .u64 100000, .int .u64 1000000, .int .u64 10000000, .int .u64 100000000, .int .u64 1000000000, .int .u64 10000000000, .int .u64 100000000000, .int .u64 1000000000000, .int .u64 10000000000000, .int .u64 100000000000000, .int .u64 1000000000000000, .int .u64 10000000000000000, .int .u64 100000000000000000, .int .u64 1000000000000000000, .int .u64 10000000000000000000]
noncomputable def tabs : Tr AObj := (Tr.nil.set 0 (.cells asc 166 256 2)).set 2 (.cells p10 264 20 2)
/-- A number's digits. -/
noncomputable def digF (f : Nat) : Nat → List UInt8 → List UInt8 := Nat.rec (motive := fun _ => Nat → List UInt8 → List UInt8) (fun _ l => l)
  (fun _ ih n l => match Nat.blt n 10 with
    | true => UInt8.ofNat (Nat.add 48 n) :: l
    | false => ih (Nat.div n 10) (UInt8.ofNat (Nat.add 48 (Nat.mod n 10)) :: l)) f
noncomputable def itoaF (n : Nat) : List UInt8 := digF 20 n []
noncomputable def partF (p : List UInt8) : List UInt8 := app (app (app (itoaF (len p)) [58]) p) [44]
noncomputable def valsEq (l : List Value) : List Value → Bool :=
  List.rec (motive := fun _ => List Value → Bool) (fun r => match r with | [] => true | _ :: _ => false)
    (fun a _ ih r => match r with
      | [] => false
      | b :: r => match asInt a with
        | none => false
        | some i => match asInt b with
          | none => false
          | some j => match kEq i.k j.k with
            | false => false
            | true => match iEq i.n j.n with
              | false => false
              | true => ih r) l
/-- A laid table stands as it was laid. -/
noncomputable def isTab (cs : List Value) (e : TypeId) (o : AObj) : Bool := match o with
  | .cells cs' e' fz kd => match Nat.beq e' e with
    | false => false
    | true => match Nat.beq fz (len cs) with
      | false => false
      | true => match Nat.beq kd 2 with
        | false => false
        | true => valsEq cs' cs
  | _ => false
/-- strconv.Itoa, of numbers below four hundred. -/
noncomputable def xItoa : XF := x1 fun x h => match asInt x with
  | none => none
  | some i => match kEq .i64 i.k with
    | false => none
    | true => match natI i.n with
      | none => none
      | some n => match isTab p10 264 (h.obj 2) with
        | false => none
        | true => some (strV (itoaF n), h.owe (Nat.blt n 400))
/-- utf8.RuneCountInString. -/
noncomputable def rcF (l : List UInt8) : Nat := Lib.runeCount ⟨⟨l⟩⟩
noncomputable def xRune : XF := x1 fun x h => match asStr x with
  | none => none
  | some l => some (intV (rcF l), h.owe (Nat.ble (len l) 1099511627776))
noncomputable def assoc {α : Type} (k : Nat) (l : List (Nat × α)) : Option α := List.rec (motive := fun _ => Option α) none (fun x _ ih => match Nat.beq x.1 k with
  | true => some x.2
  | false => ih) l
/-- script.reader.text: what stands next is told, and owed. -/
noncomputable def xText2 (p : List UInt8) (b : Nat) (s : List UInt8) (at_ : Nat) (nn : Bool) (e : TypeId) (h : AH) : AR :=
  some (strV p, ((((h.tick).owe (beqB nn false)).owe (bytesEq (List.take (len (partF p)) (List.drop at_ s)) (partF p))).owe (Nat.blt (len p) 400)).write b (.cells [strV s, intV (Nat.add at_ (len (partF p))), .bool false] e 0 0))
noncomputable def xText1 (tab : List (Nat × List UInt8)) (b : Nat) (cs : List Value) (e : TypeId) (h : AH) : AR := match cs with
  | [x, y, z] => match asStr x with
    | none => none
    | some s => match asNat y with
      | none => none
      | some a => match asBool z with
        | none => none
        | some nn => match assoc h.cnt tab with
          | none => none
          | some p => xText2 p b s a nn e h
  | _ => none
noncomputable def xText (tab : List (Nat × List UInt8)) : XF := x1 fun x h => match asPtr x with
  | none => none
  | some p => match Nat.beq p.off 0 with
    | false => none
    | true => match h.obj p.b with
      | .cells cs e fz kd => match Nat.beq fz 0 with
        | false => none
        | true => match Nat.beq kd 0 with
          | false => none
          | true => xText1 tab p.b cs e h
      | _ => none
/-- bytealg.IndexByteString: the place is told, and owed. -/
noncomputable def optBeq (o : Option Nat) (k : Nat) : Bool := match o with
  | some i => Nat.beq i k
  | none => false
noncomputable def xIdxK (k : Nat) : XF := x2 fun s c h => match asStr s with
  | none => none
  | some l => match u8of c with
    | none => none
    | some c => some (intV k, h.owe (optBeq (findByte c l 0) k))
/-- strconv.Atoi: the number is told, and owed; below four hundred. -/
noncomputable def xAtoiN (n : Nat) : XF := x1 fun s h => match asStr s with
  | none => none
  | some l => match isTab p10 264 (h.obj 2) with
    | false => none
    | true => some (.tuple ⟨[intV n, .nilIface]⟩, (h.owe (bytesEq l (itoaF n))).owe (Nat.blt n 400))
/-- alive(). -/
noncomputable def xAlive : XF := fun args h => match args with
  | [] => match isTab asc 166 (h.obj 0) with
    | false => none
    | true => match isTab p10 264 (h.obj 2) with
      | true => some (.bool true, h)
      | false => none
  | _ => none
/-- A function run with data at hand. -/
noncomputable def xClosed (n f : Nat) : XF := fun args h => match h with
  | ⟨t, n0, log, sym, cnt, orc, ob⟩ => match acall (envT []) n f args ⟨t, n0, log, false, cnt, [], ob⟩ with
    | none => none
    | some r => match r with
      | (v, ⟨t, n0, log, _, _, _, ob⟩) => some (v, ⟨t, n0, log, sym, cnt, orc, ob⟩)
/-- Decisions in a row; 2: none. -/
noncomputable def bits (l : List Nat) : Nat → List (Nat × Bool) := List.rec (motive := fun _ => Nat → List (Nat × Bool)) (fun _ => []) (fun x _ ih n => match Nat.beq x 2 with
  | true => ih (Nat.succ n)
  | false => (n, Nat.beq x 1) :: ih (Nat.succ n)) l
noncomputable def hSym (orc : List (Nat × Bool)) : AH := { t := tabs, n := 12, log := [], sym := true, cnt := 0, orc := orc, ob := [] }
/-- Memory with the table of powers alone. -/
noncomputable def hP : AH := { t := Tr.nil.set 2 (.cells p10 264 20 2), n := 12, log := [], sym := false, cnt := 0, orc := [], ob := [] }
noncomputable def hS : AH := { t := tabs, n := 12, log := [], sym := false, cnt := 0, orc := [], ob := [] }
noncomputable def clean (h : AH) : Bool := match h.ob with
  | [] => match h.log with
    | [] => true
    | _ :: _ => false
  | _ :: _ => false
/-- Memory with one block besides the globals. -/
noncomputable def hOne (o : AObj) (orc : List (Nat × Bool)) : AH := { t := tabs.set 12 o, n := 13, log := [], sym := true, cnt := 0, orc := orc, ob := [] }
end Go.Proofs.YtkmbkejmfffafaaGreatDoor.Refl
/- The second reading: what the plug-ins tell is right. -/
namespace Go.Proofs.YtkmbkejmfffafaaGreatDoor.Refl
open Go Go.RowKit
set_option linter.unusedVariables false
set_option linter.unusedSimpArgs false
set_option maxRecDepth 100000

theorem valsEq_eq : ∀ (l r : List Value), valsEq l r = true → l = r
  | [], [], _ => rfl
  | [], _ :: _, h => by cases h
  | _ :: _, [], h => by cases h
  | a :: l, b :: r, h => by
    have h : (match asInt a with
        | none => false
        | some i => match asInt b with
          | none => false
          | some j => match kEq i.k j.k with
            | false => false
            | true => match iEq i.n j.n with
              | false => false
              | true => valsEq l r) = true := h
    cases hi : asInt a with
    | none => simp [hi] at h
    | some i =>
    simp only [hi] at h
    cases hj : asInt b with
    | none => simp [hj] at h
    | some j =>
    simp only [hj] at h
    cases hk : kEq i.k j.k with
    | false => simp [hk] at h
    | true =>
    simp only [hk] at h
    cases hn : iEq i.n j.n with
    | false => simp [hn] at h
    | true =>
    simp only [hn] at h
    have hn2 : i.n = j.n := by rw [iEq_eq] at hn; simpa using hn
    rw [asInt_some hi, asInt_some hj, kEq_true hk, hn2, valsEq_eq l r h]
theorem isTab_eq {cs : List Value} {e : TypeId} {o : AObj} (h : isTab cs e o = true) : o = .cells cs e cs.length 2 := by
  unfold isTab at h
  cases o with
  | cells cs' e' fz kd =>
    simp only at h
    cases h1 : Nat.beq e' e with
    | false => simp [h1] at h
    | true =>
    simp only [h1] at h
    cases h2 : Nat.beq fz (len cs) with
    | false => simp [h2] at h
    | true =>
    simp only [h2] at h
    cases h3 : Nat.beq kd 2 with
    | false => simp [h3] at h
    | true =>
    simp only [h3] at h
    have e1 : e' = e := Nat.eq_of_beq_eq_true h1
    have e2 : fz = len cs := Nat.eq_of_beq_eq_true h2
    have e3 : kd = 2 := Nat.eq_of_beq_eq_true h3
    rw [valsEq_eq _ _ h, e1, e2, e3, len_eq]
  | _ => cases h
theorem p10_flat : ∀ v ∈ p10, flat 5 v = true := (allB_eq _ _).1 (by rfl)
theorem asc_flat : ∀ v ∈ asc, flat 5 v = true := (allB_eq _ _).1 (by kernel_rfl)
theorem p10_len : p10.length = 20 := rfl
theorem asc_len : asc.length = 256 := by simp [asc]
theorem isP10 {h : AH} (k : isTab p10 264 (h.obj 2) = true) : h.obj 2 = .cells p10 264 20 2 := isTab_eq k
theorem isAsc {h : AH} (k : isTab asc 166 (h.obj 0) = true) : h.obj 0 = .cells asc 166 256 2 := by rw [isTab_eq k, asc_len]
theorem hP_obj (b : Nat) : hP.obj b = if b = 2 then .cells p10 264 20 2 else .dead := by
  rw [AH.obj_def]
  show (if b < 12 then objIn (Tr.nil.set 2 (.cells p10 264 20 2)) b else .dead) = _
  rw [objIn_set]
  have : objIn (Tr.nil : Tr AObj) b = .dead := by unfold objIn; rw [Tr.get_nil]
  rw [this]
  by_cases hb : b = 2
  · subst hb; simp
  · simp [hb]
theorem hS_obj (b : Nat) : hS.obj b = if b = 2 then .cells p10 264 20 2 else if b = 0 then .cells asc 166 256 2 else .dead := by
  rw [AH.obj_def]
  show (if b < 12 then objIn ((Tr.nil.set 0 (.cells asc 166 256 2)).set 2 (.cells p10 264 20 2)) b else .dead) = _
  rw [objIn_set, objIn_set]
  have : objIn (Tr.nil : Tr AObj) b = .dead := by unfold objIn; rw [Tr.get_nil]
  rw [this]
  by_cases hb : b = 2
  · subst hb; simp
  · by_cases hb0 : b = 0
    · subst hb0; simp
    · simp [hb, hb0]
/-- The globals stand for themselves, nothing else. -/
def eG (x : Nat) : Option Nat := if x < 12 then some x else none
theorem eG_some {x b : Nat} (h : eG x = some b) : x < 12 ∧ b = x := by
  unfold eG at h
  by_cases hx : x < 12
  · rw [if_pos hx] at h; exact ⟨hx, (Option.some.inj h).symm⟩
  · rw [if_neg hx] at h; cases h
theorem lt_of_obj {h : AH} {b : Nat} {o : AObj} (k : h.obj b = o) (ho : o ≠ .dead) : b < h.n := by
  rcases Nat.lt_or_ge b h.n with h1 | h1
  · exact h1
  · rw [AH.obj_top _ h1] at k; exact absurd k.symm ho
theorem LR_flat {ρ ρ' : Ren} : ∀ {l l' : List Value}, (∀ v ∈ l, flat 5 v = true) → LR ρ l l' → LR ρ' l l'
  | [], _, _, h => by cases h; exact .nil
  | v :: l, _, hv, h => by
    cases h with
    | cons h1 h2 =>
      obtain rfl := flat_eq 5 v _ (hv v (by simp)) h1
      exact .cons (flat_VR ρ' 5 _ (hv _ (by simp))) (LR_flat (fun x hx => hv x (by simp [hx])) h2)
/-- A call without addresses, run over the globals alone. -/
theorem pure_ok {E : Env} (hE : EnvF Tryz.prog E 12) {n f : Nat} {args args' : List Value} {r : Value} {hm hm1 h : AH} (hx : acall E n f args hm = some (r, hm1)) (hob : OB hm1) (hlog : hm1.log = []) (hml : hm.log = []) (hmn : hm.n = 12)
    (hobj : ∀ x, x < 12 → hm.obj x = .dead ∨ (x < h.n ∧ h.obj x = hm.obj x)) (hfl : ∀ x, x < 12 → flatO (hm.obj x)) {ρ : Ren} {w : World} (hg : GL 12 ρ) (hr : Rel Tryz.prog.cellsOf ρ h w) (hargs : LR ρ args args') (hfa : ∀ v ∈ args, flat 5 v = true) (hfr : flat 5 r = true) :
    Ans Tryz.prog f args'.toArray w fun v w' => v = r ∧ Step Tryz.prog.cellsOf ρ h w ρ h w' := by
  have sub : Sub eG hm h := by
    refine ⟨fun x b hx => ?_, fun x y b hx hy => ?_, fun x b hx => ?_, fun x hx => hfl x (by omega)⟩
    · rw [hmn]; exact (eG_some hx).1
    · rw [← (eG_some hx).2, (eG_some hy).2]
    · obtain ⟨h1, rfl⟩ := eG_some hx
      exact hobj b h1
  refine local_ok hE hx hob sub (fun g hlt => by unfold eG; rw [if_pos hlt]) hg hr (LR_flat hfa hargs) hfr ?_
  refine ⟨rfl, fun _ _ _ => rfl, fun x b hx => by rw [hlog] at hx; simp at hx, fun b => ⟨.inl, fun k => ?_⟩, hml⟩
  rcases k with k | ⟨x, k, _⟩
  · exact k
  · rw [hlog] at k; simp at k
theorem clean_some {h : AH} (k : clean h = true) : OB h ∧ h.log = [] := by
  unfold clean at k
  cases ho : h.ob with
  | cons b l => simp [ho] at k
  | nil =>
    cases hl : h.log with
    | cons b l => simp [ho, hl] at k
    | nil => exact ⟨fun b hb => by rw [ho] at hb; simp at hb, rfl⟩
/-- An answer that was reckoned, more being owed. -/
theorem ans_up {f : Nat} {args : Array Value} {ρ : Ren} {h h1 : AH} {w : World} {r : Value} (u : Up h h1) (hfr : flat 5 r = true) (hA : Ans Tryz.prog f args w fun v w' => v = r ∧ Step Tryz.prog.cellsOf ρ h w ρ h w') :
    Ans Tryz.prog f args w fun v w' => ∃ ρ', VR ρ' r v ∧ Step Tryz.prog.cellsOf ρ h w ρ' h1 w' := by
  refine Ans.mono hA fun v w' hq => ?_
  obtain ⟨rfl, st⟩ := hq
  refine ⟨ρ, flat_VR ρ 5 _ hfr, ?_⟩
  have hf : Fr ρ h.n h1.n := fun x h2 h3 => by rw [u.n] at h3; omega
  exact Step.trans hf st (.same st.rel u.t u.n u.log rfl (Str.refl _))

end Go.Proofs.YtkmbkejmfffafaaGreatDoor.Refl
