/- Texts joined by this session's own program, part 16. -/
import Derived.Test.YtkmbkejmfffafaaGreatDoorQ15
set_option linter.unusedSectionVars false
set_option linter.unusedVariables false
set_option linter.unusedSimpArgs false
namespace Go.Proofs.YtkmbkejmfffafaaGreatDoor.Refl
open Go Go.RowKit
set_option linter.unusedVariables false
set_option linter.unusedSimpArgs false
set_option maxRecDepth 1000000
def Few (D : List UInt8) : Prop := (∃ a, D = [a]) ∨ ∃ a b, D = [a, b]
noncomputable def fewB (D : List UInt8) : Bool := match D with
  | [] => false
  | _ :: r => match r with
    | [] => true
    | _ :: q => match q with
      | [] => true
      | _ :: _ => false
theorem few_of {D : List UInt8} (h : fewB D = true) : Few D := by
  match D with
  | [] => cases h
  | [a] => exact .inl ⟨a, rfl⟩
  | [a, b] => exact .inr ⟨a, b, rfl⟩
  | _ :: _ :: _ :: _ => cases h
theorem fewAll : allB (fun l => fewB (itoaF l)) (upTo 21 []) = true := by kernel_rfl
theorem itoa_few {l : Nat} (hl : l < 21) : Few (itoaF l) := few_of ((allB_eq _ _).1 fewAll l ((upTo_mem 21 [] l).2 (.inl hl)))
theorem arg1_pure {D E : List UInt8} (hD : Few D) (hE : Few E) : Pure false 319 (argAt D E 14) argR1 := by
  obtain ⟨a, rfl⟩ | ⟨a, b, rfl⟩ := hD <;> obtain ⟨c, rfl⟩ | ⟨c, d, rfl⟩ := hE
  · exact pure_of_ranTo (runArg1_11 a c) (flat_argAt _ _ _) rfl
  · exact pure_of_ranTo (runArg1_12 a c d) (flat_argAt _ _ _) rfl
  · exact pure_of_ranTo (runArg1_21 a b c) (flat_argAt _ _ _) rfl
  · exact pure_of_ranTo (runArg1_22 a b c d) (flat_argAt _ _ _) rfl
theorem arg2_pure {l : Nat} (hl : l < 21) {E : List UInt8} (hE : Few E) : Pure false 319 (argAt (itoaF l) E 18) (argR2 (itoaF l)) := by
  have hm := (upTo_mem 21 [] l).2 (.inl hl)
  obtain ⟨c, rfl⟩ | ⟨c, d, rfl⟩ := hE
  · exact pure_of_ranTo ((allB_eq _ _).1 (runArg2_1 c) l hm) (flat_argAt _ _ _) rfl
  · exact pure_of_ranTo ((allB_eq _ _).1 (runArg2_2 c d) l hm) (flat_argAt _ _ _) rfl
theorem arg3_pure {m : Nat} (hl : m < 21) {D : List UInt8} (hD : Few D) : Pure false 319 (argAt D (itoaF m) (Nat.add 43 (len D))) (argR3 D (itoaF m)) := by
  have hm := (upTo_mem 21 [] m).2 (.inl hl)
  obtain ⟨c, rfl⟩ | ⟨c, d, rfl⟩ := hD
  · exact pure_of_ranTo ((allB_eq _ _).1 (runArg3_1 c) m hm) (flat_argAt _ _ _) rfl
  · exact pure_of_ranTo ((allB_eq _ _).1 (runArg3_2 c d) m hm) (flat_argAt _ _ _) rfl
theorem arg4_pure {D E : List UInt8} (hD : Few D) (hE : Few E) : Pure false 319 (argAt D E (Nat.add (Nat.add 68 (len D)) (len E))) (argR4 D E) := by
  obtain ⟨a, rfl⟩ | ⟨a, b, rfl⟩ := hD <;> obtain ⟨c, rfl⟩ | ⟨c, d, rfl⟩ := hE
  · exact pure_of_ranTo (runArg4_11 a c) (flat_argAt _ _ _) rfl
  · exact pure_of_ranTo (runArg4_12 a c d) (flat_argAt _ _ _) rfl
  · exact pure_of_ranTo (runArg4_21 a b c) (flat_argAt _ _ _) rfl
  · exact pure_of_ranTo (runArg4_22 a b c d) (flat_argAt _ _ _) rfl
end Go.Proofs.YtkmbkejmfffafaaGreatDoor.Refl
namespace Go.Proofs.YtkmbkejmfffafaaGreatDoor.Refl
open Go Go.RowKit
set_option linter.unusedVariables false
set_option maxRecDepth 100000
noncomputable def xOr (f g : XF) : XF := fun args h => match f args h with
  | none => g args h
  | some r => some r
theorem xOr_ok {n : Nat} {f g : XF} (hf : ExtOK Tryz.prog 12 n f) (hg : ExtOK Tryz.prog 12 n g) : ExtOK Tryz.prog 12 n (xOr f g) where
  fwd := fun args h r h1 hx => by
    unfold xOr at hx
    cases e : f args h with
    | none => rw [e] at hx; exact hg.fwd args h r h1 hx
    | some q => rw [e] at hx; exact hf.fwd args h r h1 (by rw [e]; exact hx)
  run := fun args h r h1 hx => by
    unfold xOr at hx
    cases e : f args h with
    | none => rw [e] at hx; exact hg.run args h r h1 hx
    | some q => rw [e] at hx; exact hf.run args h r h1 (by rw [e]; exact hx)
end Go.Proofs.YtkmbkejmfffafaaGreatDoor.Refl
namespace Go.Proofs.YtkmbkejmfffafaaGreatDoor.Refl
open Go Go.RowKit
set_option linter.unusedVariables false
set_option linter.unusedSimpArgs false
set_option maxRecDepth 100000
def AtW (f : Nat) (o : AObj) (av : List Value) (r : Value) : Prop :=
  ∀ (b : Nat) (h : AH) (ρ : Ren) (w : World) (args' : List Value), 12 ≤ b → h.obj b = o → GL 12 ρ → Rel Tryz.prog.cellsOf ρ h w → LR ρ (ptrV b 0 :: av) args' →
    Ans Tryz.prog f args'.toArray w fun v w' => v = r ∧ Step Tryz.prog.cellsOf ρ h w ρ (h.write b .dead) w'
noncomputable def xAtW2 (f b : Nat) (o : AObj) (av : List Value) (r : Value) (args : List Value) (q : AObj) (h : AH) : AR := match q with
  | .cells cs e fz kd => headVL args AR fun args => some (r, ((((h.tick).owe (pB (args = ptrV b 0 :: av))).owe (pB (AObj.cells cs e fz kd = o))).owe (pB (AtW f o av r))).write b .dead)
  | _ => none
noncomputable def xAtW (f : Nat) (tab : List (Nat × AtT)) : XF := fun args h => match assoc h.cnt tab with
  | none => none
  | some q => match q with
    | ⟨b, o, av, r⟩ => match flat 5 r with
      | false => none
      | true => match Nat.ble 12 b with
        | false => none
        | true => xAtW2 f b o av r args (h.obj b) h
theorem xAtW_some {f : Nat} {tab : List (Nat × AtT)} {args : List Value} {h h1 : AH} {r : Value} (hx : xAtW f tab args h = some (r, h1)) :
    ∃ b o av, flat 5 r = true ∧ 12 ≤ b ∧ h1 = ((((h.tick).owe (pB (args = ptrV b 0 :: av))).owe (pB (h.obj b = o))).owe (pB (AtW f o av r))).write b .dead := by
  unfold xAtW at hx
  cases ha : assoc h.cnt tab with
  | none => simp [ha] at hx
  | some q =>
  obtain ⟨b, o, av, r'⟩ := q
  simp only [ha] at hx
  cases hf : flat 5 r' with
  | false => simp [hf] at hx
  | true =>
  simp only [hf] at hx
  cases hb : Nat.ble 12 b with
  | false => simp [hb] at hx
  | true =>
  simp only [hb] at hx
  unfold xAtW2 at hx
  cases ho : h.obj b with
  | cells cs e fz kd =>
    simp only [ho, headVL_eq, Option.some.injEq, Prod.mk.injEq] at hx
    obtain ⟨rfl, rfl⟩ := hx
    exact ⟨b, o, av, hf, Nat.le_of_ble_eq_true hb, by rw [ho]⟩
  | _ => simp [ho] at hx
theorem ans_up2 {f : Nat} {args : Array Value} {ρ : Ren} {h h' h1 : AH} {w : World} {r : Value} (u : Up h' h1) (hn : h'.n = h.n) (hfr : flat 5 r = true) (hA : Ans Tryz.prog f args w fun v w' => v = r ∧ Step Tryz.prog.cellsOf ρ h w ρ h' w') :
    Ans Tryz.prog f args w fun v w' => ∃ ρ', VR ρ' r v ∧ Step Tryz.prog.cellsOf ρ h w ρ' h1 w' := by
  refine Ans.mono hA fun v w' hq => ?_
  obtain ⟨rfl, st⟩ := hq
  refine ⟨ρ, flat_VR ρ 5 _ hfr, ?_⟩
  have hf : Fr ρ h.n h1.n := fun x h2 h3 => by rw [u.n, hn] at h3; omega
  exact Step.trans hf st (.same st.rel u.t u.n u.log rfl (Str.refl _))
theorem xAtW_ok (f : Nat) (tab : List (Nat × AtT)) : ExtOK Tryz.prog 12 f (xAtW f tab) where
  fwd := fun args h r h1 hx => by
    obtain ⟨b, o, av, _, _, e⟩ := xAtW_some hx
    rw [e]
    exact ((((Up.tick h).trans (Up.owe _ _)).trans (Up.owe _ _)).trans (Up.owe _ _)).fwd.trans (Fwd.write _ _ _)
  run := fun args h r h1 hx hob ρ w args' hg hr hf hl => by
    obtain ⟨b, o, av, hfl, hb, e⟩ := xAtW_some hx
    subst e
    have hob : OB ((((h.tick).owe (pB (args = ptrV b 0 :: av))).owe (pB (h.obj b = o))).owe (pB (AtW f o av r))) := hob
    obtain ⟨hob, q1⟩ := ob_owe hob
    obtain ⟨hob, q2⟩ := ob_owe hob
    obtain ⟨hob, q3⟩ := ob_owe hob
    have q1 : AtW f o av r := of_pB q1
    have q2 : h.obj b = o := of_pB q2
    have q3 : args = ptrV b 0 :: av := of_pB q3
    subst q3
    exact ans_up2 (((((Up.tick h).trans (Up.owe _ _)).trans (Up.owe _ _)).trans (Up.owe _ _)).write b .dead) rfl hfl (q1 b h ρ w args' hb q2 hg hr hl)
theorem atW_ok {E : Env} (hE : EnvF Tryz.prog E 12) {n f : Nat} {o : AObj} {av : List Value} {orc : List (Nat × Bool)} {s : Bool} {r : Value} {h1 : AH} (hx : acall E n f (ptrV 12 0 :: av) (hAt s o orc) = some (r, h1)) (hob : OB h1) (hlog : h1.log = [12])
    (ho : flatO o) (hd : o ≠ .dead) (hfa : ∀ v ∈ av, flat 5 v = true) (hfr : flat 5 r = true) : AtW f o av r := by
  intro b h ρ w args' hb12 hb hg hr hl
  have hbn : b < h.n := lt_of_obj hb hd
  have sub : Sub (eOne b) (hAt s o orc) h := by
    refine ⟨fun x c hx => ?_, fun x y c hx hy => ?_, fun x c hx => ?_, fun x hx => ?_⟩
    · show x < 13
      rcases eOne_some hx with ⟨h1, _⟩ | ⟨h1, _⟩ <;> omega
    · rcases eOne_some hx with ⟨h1, h2⟩ | ⟨h1, h2⟩ <;> rcases eOne_some hy with ⟨h3, h4⟩ | ⟨h3, h4⟩ <;> omega
    · rw [hAt_obj]
      rcases eOne_some hx with ⟨h1, rfl⟩ | ⟨rfl, rfl⟩
      · rw [if_neg (by omega)]; exact .inl rfl
      · rw [if_pos rfl]
        exact .inr ⟨hbn, hb⟩
    · rw [hAt_obj]
      by_cases h1 : x = 12
      · rw [if_pos h1]; exact ho
      · rw [if_neg h1]; trivial
  have hargs : LR (fun x => (eOne b x).bind ρ) (ptrV 12 0 :: av) args' := by
    cases hl with
    | cons h1 h2 =>
      refine .cons ?_ (LR_flat hfa h2)
      cases h1 with
      | ptr ha =>
        obtain ⟨a1, a2, im, a3, a4, a5⟩ := ha
        exact .ptr ⟨rfl, a2, im, by simp [eOne]; exact a3, a4, a5⟩
  refine local_ok hE hx hob sub (fun g hlt => by unfold eOne; rw [if_pos hlt]) hg hr hargs hfr ?_
  have e12 : eOne b 12 = some b := rfl
  refine ⟨rfl, fun c hc hno => ?_, fun x c hx hc => ?_, fun c => ?_, rfl⟩
  · exact write_obj_other h _ fun e => hno 12 (by rw [hlog]; simp) (by rw [e12, e])
  · rw [hlog] at hx
    obtain rfl : x = 12 := by simpa using hx
    rw [e12] at hc
    obtain rfl := Option.some.inj hc
    exact ⟨.inl (write_obj_same h _ hbn), by rw [hAt_obj, if_pos rfl]; exact hd⟩
  · rw [write_log, mem_addLog, hlog]
    constructor
    · rintro (rfl | h2)
      · exact .inr ⟨12, by simp, e12⟩
      · exact .inl h2
    · rintro (h2 | ⟨x, h2, h3⟩)
      · exact .inr h2
      · obtain rfl : x = 12 := by simpa using h2
        rw [e12] at h3
        exact .inl (Option.some.inj h3).symm
end Go.Proofs.YtkmbkejmfffafaaGreatDoor.Refl
