/- Texts joined by this session's own program, part 17. -/
import Derived.Test.YtkmbkejmfffafaaGreatDoorQ16
import Derived.Test.YtkmbkejmfffafaaGreatDoorQ12
set_option linter.unusedSectionVars false
set_option linter.unusedVariables false
set_option linter.unusedSimpArgs false
namespace Go.Proofs.YtkmbkejmfffafaaGreatDoor.Refl
open Go Go.RowKit
set_option linter.unusedVariables false
set_option linter.unusedSimpArgs false
set_option maxRecDepth 1000000
theorem pureN {E : Env} (hE : EnvF Tryz.prog E 12) {n f : Nat} {av : List Value} {r : Value} {orc : List (Nat × Bool)} {ob : List Bool} (hr : lookB (acall E n f av (hN orc)) = some (r, [], allB (fun b => b) ob)) (ho : ∀ x ∈ ob, x = true)
    (hfa : ∀ v ∈ av, flat 5 v = true) (hfr : flat 5 r = true) : Pure false f av r := by
  obtain ⟨h1, k1, k2, k3⟩ := lookB_some hr ((allB_eq _ _).2 ho)
  exact pure_of_run hE k1 k3 k2 hfa hfr
theorem flat1 {a : Value} (ha : flat 5 a = true) : ∀ v ∈ [a], flat 5 v = true := fun v hv => by simp at hv; subst hv; exact ha
theorem flat2 {a b : Value} (ha : flat 5 a = true) (hb : flat 5 b = true) : ∀ v ∈ [a, b], flat 5 v = true := fun v hv => by
  simp only [List.mem_cons, List.not_mem_nil, or_false] at hv
  rcases hv with rfl | rfl <;> assumption
theorem flat3 {a b c : Value} (ha : flat 5 a = true) (hb : flat 5 b = true) (hc : flat 5 c = true) : ∀ v ∈ [a, b, c], flat 5 v = true := fun v hv => by
  simp only [List.mem_cons, List.not_mem_nil, or_false] at hv
  rcases hv with rfl | rfl | rfl <;> assumption
theorem runC0 (a b : List UInt8) : lookB (acall (envS [] .nil) 200 134 [strV a, strV b] (hN (bits [0, 0, 1] 0))) = some (.int .i64 (Int.negSucc 0), [], allB (fun b => b) [beqB (Nat.beq 1 1) (Op.bytesLess a b), beqB (Nat.beq 0 1) !bytesEq b b, beqB (Nat.beq 0 1) !bytesEq a a]) := by kernel_rfl
theorem runC1 (a b : List UInt8) : lookB (acall (envS [] .nil) 200 134 [strV a, strV b] (hN (bits [0, 0, 0, 1] 0))) = some (intV 1, [], allB (fun b => b) [beqB (Nat.beq 1 1) !(Op.bytesLess a b || bytesEq a b), beqB (Nat.beq 0 1) (Op.bytesLess a b), beqB (Nat.beq 0 1) !bytesEq b b, beqB (Nat.beq 0 1) !bytesEq a a]) := by kernel_rfl
theorem runC2 (a b : List UInt8) : lookB (acall (envS [] .nil) 200 134 [strV a, strV b] (hN (bits [0, 0, 0, 0] 0))) = some (intV 0, [], allB (fun b => b) [beqB (Nat.beq 0 1) !(Op.bytesLess a b || bytesEq a b), beqB (Nat.beq 0 1) (Op.bytesLess a b), beqB (Nat.beq 0 1) !bytesEq b b, beqB (Nat.beq 0 1) !bytesEq a a]) := by kernel_rfl
theorem bytesEq_self (a : List UInt8) : bytesEq a a = true := by rw [bytesEq_eq]; simp
theorem cmp_pure (a b : List UInt8) : ∃ c : Value, (c = .int .i64 (Int.negSucc 0) ∨ c = intV 0 ∨ c = intV 1) ∧ Pure false 134 [strV a, strV b] c := by
  have fl : ∀ v ∈ [strV a, strV b], flat 5 v = true := flat2 rfl rfl
  cases h1 : Op.bytesLess a b with
  | true =>
    refine ⟨_, .inl rfl, pureN (envS_ok none_ok) (runC0 a b) ?_ fl rfl⟩
    rw [h1, bytesEq_self, bytesEq_self]
    intro x hx
    simp only [List.mem_cons, List.not_mem_nil, or_false] at hx
    rcases hx with rfl | rfl | rfl <;> rfl
  | false =>
    cases h2 : bytesEq a b with
    | true =>
      refine ⟨_, .inr (.inl rfl), pureN (envS_ok none_ok) (runC2 a b) ?_ fl rfl⟩
      rw [h1, h2, bytesEq_self, bytesEq_self]
      intro x hx
      simp only [List.mem_cons, List.not_mem_nil, or_false] at hx
      rcases hx with rfl | rfl | rfl | rfl <;> rfl
    | false =>
      refine ⟨_, .inr (.inr rfl), pureN (envS_ok none_ok) (runC1 a b) ?_ fl rfl⟩
      rw [h1, h2, bytesEq_self, bytesEq_self]
      intro x hx
      simp only [List.mem_cons, List.not_mem_nil, or_false] at hx
      rcases hx with rfl | rfl | rfl | rfl <;> rfl
noncomputable def zM (T : List UInt8) (sc : Nat) : Nat := Nat.sub (Nat.add sc 1) (len T)
noncomputable def obM (D T : List UInt8) (sc : Nat) : List Bool := [((sc.add 1).add (len T)).ble 9223372036854775807, (sc.add 1).ble 9223372036854775807, pB (Pure false 84 [strV D, strV [48]] (strV T)), pB ([strV D, strV [48]] = [strV D, strV [48]])]
theorem runM0 (D T : List UInt8) (sc : Nat) (neg : Bool) : lookB (acall (envS [(84, xTold false 84 [(0, ([strV D, strV [48]], strV T))]), (92, xTold false 92 [(3, ([strV [48], intV (zM T sc)], strV (rep0 (zM T sc))))])] .nil) 200 112 [.bool neg, strV D, intV sc] (hN (bits [2, 1, 1] 0))) =
    some (decA neg (app (rep0 (zM T sc)) T) sc, [], allB (fun b => b) ([((len (rep0 (zM T sc))).add (len T)).ble 1099511627776, pB (Pure false 92 [strV [48], intV (zM T sc)] (strV (rep0 (zM T sc)))), pB ([strV [48], intV (zM T sc)] = [strV [48], intV (zM T sc)]), beqB (Nat.beq 1 1) (iLt 0 (Int.ofNat (zM T sc))), beqB (Nat.beq 1 1) ((len T).ble (sc.add 1))] ++ obM D T sc)) := by kernel_rfl
theorem runM1 (D T : List UInt8) (sc : Nat) (neg : Bool) : lookB (acall (envS [(84, xTold false 84 [(0, ([strV D, strV [48]], strV T))])] .nil) 200 112 [.bool neg, strV D, intV sc] (hN (bits [2, 1, 0] 0))) =
    some (decA neg T sc, [], allB (fun b => b) ([beqB (Nat.beq 0 1) (iLt 0 (Int.ofNat (zM T sc))), beqB (Nat.beq 1 1) ((len T).ble (sc.add 1))] ++ obM D T sc)) := by kernel_rfl
theorem runM2 (D T : List UInt8) (sc : Nat) (neg : Bool) : lookB (acall (envS [(84, xTold false 84 [(0, ([strV D, strV [48]], strV T))])] .nil) 200 112 [.bool neg, strV D, intV sc] (hN (bits [2, 0, 0] 0))) =
    some (decA neg T sc, [], allB (fun b => b) ([beqB (Nat.beq 0 1) ((len T).ble (sc.add 1))] ++ obM D T sc)) := by kernel_rfl
theorem told84_ok (a : List (Nat × (List Value × Value))) : ∀ x ∈ [(84, xTold false 84 a)], ExtOK Tryz.prog 12 x.1 x.2 := fun x hx => by simp at hx; subst hx; exact xTold_ok false 84 a
theorem told92_ok (a : List (Nat × (List Value × Value))) : ∀ x ∈ [(92, xTold false 92 a)], ExtOK Tryz.prog 12 x.1 x.2 := fun x hx => by simp at hx; subst hx; exact xTold_ok false 92 a
theorem told8492_ok (a b : List (Nat × (List Value × Value))) : ∀ x ∈ [(84, xTold false 84 a), (92, xTold false 92 b)], ExtOK Tryz.prog 12 x.1 x.2 := fun x hx => by
  simp only [List.mem_cons, List.not_mem_nil, or_false] at hx
  rcases hx with rfl | rfl
  · exact xTold_ok false 84 a
  · exact xTold_ok false 92 b
theorem rep0_len (z : Nat) : (rep0 z).length = z := List.length_replicate
theorem rep0_digs (z : Nat) : Digs (rep0 z) := fun b hb => by rw [List.eq_of_mem_replicate hb]; decide
theorem digs_app {a b : List UInt8} (ha : Digs a) (hb : Digs b) : Digs (app a b) := fun x hx => by
  rw [app_eq] at hx
  exact (List.mem_append.1 hx).elim (ha x) (hb x)
theorem make0_pure (neg : Bool) {D : List UInt8} {sc : Nat} (hs : sc ≤ 20) (hD : Digs D) (hl : D.length ≤ 40) :
    ∃ D1, Pure false 112 [.bool neg, strV D, intV sc] (decA neg D1 sc) ∧ Digs D1 ∧ sc < D1.length ∧ D1.length ≤ 40 := by
  have p84 := trimLeft_pure D 48 (by decide)
  have hT := trim_digs hD
  have hle := trim_le D
  have fl : ∀ v ∈ [Value.bool neg, strV D, intV sc], flat 5 v = true := flat3 rfl rfl rfl
  have om : ∀ x ∈ obM D (Lib.trimLeftB D 48) sc, x = true := fun x hx => by
    unfold obM at hx
    simp only [List.mem_cons, List.not_mem_nil, or_false] at hx
    rcases hx with hx | hx | hx | hx
    all_goals (subst hx; first | exact pB_of p84 | exact pB_of rfl | exact pB_of trivial | (simp [ble_eq, len_eq]; omega))
  rcases Nat.lt_trichotomy (Lib.trimLeftB D 48).length (sc + 1) with h | h | h
  · have hz : zM (Lib.trimLeftB D 48) sc = sc + 1 - (Lib.trimLeftB D 48).length := by unfold zM; rw [len_eq]; rfl
    have p92 := repeat_pure (z := zM (Lib.trimLeftB D 48) sc) (by rw [hz]; omega)
    refine ⟨_, pureN (envS_ok (told8492_ok _ _)) (runM0 D (Lib.trimLeftB D 48) sc neg) (all_app (fun x hx => ?_) om) fl rfl, digs_app (rep0_digs _) hT, ?_, ?_⟩
    · simp only [List.mem_cons, List.not_mem_nil, or_false] at hx
      rcases hx with hx | hx | hx | hx | hx
      all_goals (subst hx; first | exact pB_of p92 | exact pB_of rfl | exact pB_of trivial | (simp [ble_eq, iLt_eq, beqB_eq, bq, len_eq, hz, rep0_len]; done) | (simp [ble_eq, iLt_eq, beqB_eq, bq, len_eq, hz, rep0_len]; omega))
    · rw [app_eq, List.length_append, rep0_len, hz]; omega
    · rw [app_eq, List.length_append, rep0_len, hz]; omega
  · have hz : zM (Lib.trimLeftB D 48) sc = 0 := by unfold zM; rw [len_eq, h]; exact Nat.sub_self _
    refine ⟨_, pureN (envS_ok (told84_ok _)) (runM1 D (Lib.trimLeftB D 48) sc neg) (all_app (fun x hx => ?_) om) fl rfl, hT, by omega, by omega⟩
    simp only [List.mem_cons, List.not_mem_nil, or_false] at hx
    rcases hx with hx | hx
    all_goals (subst hx; first | (rw [hz]; rfl) | (simp [ble_eq, beqB_eq, bq, len_eq]; omega))
  · refine ⟨_, pureN (envS_ok (told84_ok _)) (runM2 D (Lib.trimLeftB D 48) sc neg) (all_app (fun x hx => ?_) om) fl rfl, hT, by omega, by omega⟩
    simp only [List.mem_cons, List.not_mem_nil, or_false] at hx
    subst hx
    rw [len_eq, ble_eq, decide_eq_false (show ¬ (Lib.trimLeftB D 48).length ≤ sc + 1 by omega)]; rfl
theorem runP0 (D : List UInt8) (sc lo : Nat) (neg : Bool) : lookB (acall (envS [(92, xTold false 92 [(3, ([strV [48], intV (Nat.sub lo sc)], strV (rep0 (Nat.sub lo sc))))])] .nil) 200 91 [decA neg D sc, intV lo] (hN (bits [0, 1, 1] 0))) =
    some (decA neg (app D (rep0 (Nat.sub lo sc))) (Nat.add sc (Nat.sub lo sc)), [], allB (fun b => b) [(sc.add (lo.sub sc)).ble 9223372036854775807, ((len D).add (len (rep0 (lo.sub sc)))).ble 1099511627776, pB (Pure false 92 [strV [48], intV (Nat.sub lo sc)] (strV (rep0 (Nat.sub lo sc)))), pB ([strV [48], intV (Nat.sub lo sc)] = [strV [48], intV (Nat.sub lo sc)]),
      beqB (Nat.beq 1 1) (iLt 0 (Int.ofNat (lo.sub sc))), beqB (Nat.beq 1 1) (sc.ble lo), (lo.add sc).ble 9223372036854775807, beqB (Nat.beq 0 1) (Nat.blt 40 lo)]) := by kernel_rfl
theorem runP1 (D : List UInt8) (sc lo : Nat) (neg : Bool) : lookB (acall (envS [] .nil) 200 91 [decA neg D sc, intV lo] (hN (bits [0, 1, 0] 0))) =
    some (decA neg D sc, [], allB (fun b => b) [beqB (Nat.beq 0 1) (iLt 0 (Int.ofNat (lo.sub sc))), beqB (Nat.beq 1 1) (sc.ble lo), (lo.add sc).ble 9223372036854775807, beqB (Nat.beq 0 1) (Nat.blt 40 lo)]) := by kernel_rfl
theorem runP2 (D : List UInt8) (sc lo : Nat) (neg : Bool) : lookB (acall (envS [] .nil) 200 91 [decA neg D sc, intV lo] (hN (bits [0, 0, 0] 0))) =
    some (decA neg D sc, [], allB (fun b => b) [beqB (Nat.beq 0 1) (sc.ble lo), (lo.add sc).ble 9223372036854775807, beqB (Nat.beq 0 1) (Nat.blt 40 lo)]) := by kernel_rfl
theorem pad_pure (neg : Bool) {D : List UInt8} {sc lo : Nat} (hlo : lo ≤ 20) (hD : Digs D) (hs : sc < D.length) (hl : D.length ≤ 40) :
    ∃ D1 s1, Pure false 91 [decA neg D sc, intV lo] (decA neg D1 s1) ∧ Digs D1 ∧ s1 < D1.length ∧ D1.length ≤ 60 := by
  have fl : ∀ v ∈ [decA neg D sc, intV lo], flat 5 v = true := flat2 rfl rfl
  rcases Nat.lt_trichotomy sc lo with h | h | h
  · have p92 := repeat_pure (z := Nat.sub lo sc) (show lo - sc ≤ 30 by omega)
    have hz : Nat.sub lo sc = lo - sc := rfl
    refine ⟨_, _, pureN (envS_ok (told92_ok _)) (runP0 D sc lo neg) (fun x hx => ?_) fl rfl, digs_app hD (rep0_digs _), ?_, ?_⟩
    · simp only [List.mem_cons, List.not_mem_nil, or_false] at hx
      rcases hx with hx | hx | hx | hx | hx | hx | hx | hx
      all_goals (subst hx; first | exact pB_of p92 | exact pB_of rfl | exact pB_of trivial | (simp [ble_eq, blt_eq, iLt_eq, beqB_eq, bq, len_eq, rep0_len]; done) | (simp [ble_eq, blt_eq, iLt_eq, beqB_eq, bq, len_eq, rep0_len]; omega))
    · rw [app_eq, List.length_append, rep0_len, hz]; show sc + (lo - sc) < _; omega
    · rw [app_eq, List.length_append, rep0_len, hz]; omega
  · subst h
    refine ⟨_, _, pureN (envS_ok none_ok) (runP1 D sc sc neg) (fun x hx => ?_) fl rfl, hD, hs, by omega⟩
    simp only [List.mem_cons, List.not_mem_nil, or_false] at hx
    rcases hx with hx | hx | hx | hx
    all_goals (subst hx; first | (simp [ble_eq, blt_eq, iLt_eq, beqB_eq, bq, len_eq]; done) | (simp [ble_eq, blt_eq, iLt_eq, beqB_eq, bq, len_eq]; omega))
  · refine ⟨_, _, pureN (envS_ok none_ok) (runP2 D sc lo neg) (fun x hx => ?_) fl rfl, hD, hs, by omega⟩
    simp only [List.mem_cons, List.not_mem_nil, or_false] at hx
    rcases hx with hx | hx | hx
    all_goals (subst hx; first | (simp [ble_eq, blt_eq, iLt_eq, beqB_eq, bq, len_eq]; done) | (simp [ble_eq, blt_eq, iLt_eq, beqB_eq, bq, len_eq]; omega))
theorem runZ (D T : List UInt8) (neg : Bool) (sc : Nat) : lookB (acall (envS [(85, xTold false 85 [(0, ([strV D, strV [48]], strV T))])] .nil) 200 55 [decA neg D sc] (hN (bits [2] 0))) =
    some (.bool (bytesEq T []), [], allB (fun b => b) [pB (Pure false 85 [strV D, strV [48]] (strV T)), pB ([strV D, strV [48]] = [strV D, strV [48]])]) := by kernel_rfl
theorem zero_pure (neg : Bool) (D : List UInt8) (sc : Nat) (hl : D.length ≤ 1000) : ∃ z, Pure false 55 [decA neg D sc] (.bool z) := by
  have p85 := trim_pure D 48 (by decide) (by omega)
  refine ⟨_, pureN (envS_ok fun x hx => ?_) (runZ D (Lib.trimB D 48) neg sc) (fun x hx => ?_) (flat1 rfl) rfl⟩
  · simp at hx; subst hx; exact xTold_ok false 85 _
  · simp only [List.mem_cons, List.not_mem_nil, or_false] at hx
    rcases hx with hx | hx
    all_goals (subst hx; first | exact pB_of p85 | exact pB_of rfl | exact pB_of trivial)
noncomputable def t1 (D : List UInt8) : List UInt8 := List.take ((len D).sub 1) D
noncomputable def obTI (lo : Nat) (D : List UInt8) (sc : Nat) : List Bool :=
  [beqB (Nat.beq 1 1) (Nat.ble 1 sc), (sc.add 1).ble 9223372036854775807, ((len D).sub 1).ble (len D), beqB (Nat.beq 1 1) (Nat.ble 1 (len D)), ((len D).add 1).ble 9223372036854775807, beqB (Nat.beq 1 1) (iEq (Int.ofNat (nthD D ((len D).sub 1)).toNat) 48),
   beqB (Nat.beq 1 1) (iLt (Int.ofNat lo) (Int.ofNat sc)), beqB (Nat.beq 1 1) (beqB (iLt (Int.ofNat lo) (Int.ofNat sc)) true), ((len D).sub 1).blt (len D), beqB (Nat.beq 1 1) (beqB (iLt (Int.ofNat lo) (Int.ofNat sc)) true),
   beqB (Nat.beq 1 1) (Nat.ble 1 (len D)), ((len D).add 1).ble 9223372036854775807,
   beqB (Nat.beq 1 1) (beqB (iLt (Int.ofNat lo) (Int.ofNat sc)) true), beqB (Nat.beq 1 1) (beqB (iLt (Int.ofNat lo) (Int.ofNat sc)) true), beqB (Nat.beq 1 1) (beqB (iLt (Int.ofNat lo) (Int.ofNat sc)) true),
   beqB (Nat.beq 1 1) (beqB (iLt (Int.ofNat lo) (Int.ofNat sc)) true), beqB (Nat.beq 1 1) (beqB (iLt (Int.ofNat lo) (Int.ofNat sc)) true), beqB (Nat.beq 1 1) (beqB (iLt (Int.ofNat lo) (Int.ofNat sc)) true)]
noncomputable def obTA (lo : Nat) (D : List UInt8) (sc : Nat) : List Bool := app [beqB (Nat.beq 0 1) (iLt (Int.ofNat lo) (Int.ofNat sc))] (rep [beqB (Nat.beq 0 1) (beqB (iLt (Int.ofNat lo) (Int.ofNat sc)) true)] 8)
noncomputable def obTB (lo : Nat) (D : List UInt8) (sc : Nat) : List Bool :=
  [beqB (Nat.beq 0 1) (iEq (Int.ofNat (nthD D ((len D).sub 1)).toNat) 48),
   beqB (Nat.beq 1 1) (iLt (Int.ofNat lo) (Int.ofNat sc)), beqB (Nat.beq 1 1) (beqB (iLt (Int.ofNat lo) (Int.ofNat sc)) true), ((len D).sub 1).blt (len D), beqB (Nat.beq 1 1) (beqB (iLt (Int.ofNat lo) (Int.ofNat sc)) true),
   beqB (Nat.beq 1 1) (Nat.ble 1 (len D)), ((len D).add 1).ble 9223372036854775807,
   beqB (Nat.beq 1 1) (beqB (iLt (Int.ofNat lo) (Int.ofNat sc)) true), beqB (Nat.beq 1 1) (beqB (iLt (Int.ofNat lo) (Int.ofNat sc)) true), beqB (Nat.beq 1 1) (beqB (iLt (Int.ofNat lo) (Int.ofNat sc)) true),
   beqB (Nat.beq 1 1) (beqB (iLt (Int.ofNat lo) (Int.ofNat sc)) true), beqB (Nat.beq 1 1) (beqB (iLt (Int.ofNat lo) (Int.ofNat sc)) true), beqB (Nat.beq 1 1) (beqB (iLt (Int.ofNat lo) (Int.ofNat sc)) true)]
noncomputable def obR (lo : Nat) (st : List UInt8 → Nat → List Bool) (k : Nat) : List UInt8 → Nat → List Bool :=
  Nat.rec (motive := fun _ => List UInt8 → Nat → List Bool) (fun D sc => st D sc) (fun _ ih D sc => app (ih (t1 D) (Nat.sub sc 1)) (obTI lo D sc)) k
noncomputable def trV (neg : Bool) (k : Nat) : List UInt8 → Nat → Value :=
  Nat.rec (motive := fun _ => List UInt8 → Nat → Value) (fun D sc => decA neg D sc) (fun _ ih D sc => ih (t1 D) (Nat.sub sc 1)) k
noncomputable def btR (st : List Nat) (k : Nat) : List Nat := app (rep [0, 1, 1, 1, 1, 1, 1, 1, 1, 1, 1, 1, 1, 1] k) st
noncomputable def btA : List Nat := [0, 0, 0, 0, 0, 0, 0, 0, 0, 0]
noncomputable def btB : List Nat := [0, 1, 1, 1, 1, 1, 1, 1, 1, 1, 1, 0]
def TrimRun (bt : List Nat) (ob : Nat → List UInt8 → Nat → List Bool) (k : Nat) : Prop := ∀ (D : List UInt8) (sc lo : Nat) (neg : Bool), lookB (acall (envS [] .nil) 200 90 [decA neg D sc, intV lo] (hN (bits (btR bt k) 0))) = some (trV neg k D sc, [], allB (fun b => b) (obR lo (ob lo) k D sc))
theorem trimA : ∀ k, k ≤ 20 → TrimRun btA obTA k
  | 0, _ => fun D sc lo neg => by kernel_rfl
  | 1, _ => fun D sc lo neg => by kernel_rfl
  | 2, _ => fun D sc lo neg => by kernel_rfl
  | 3, _ => fun D sc lo neg => by kernel_rfl
  | 4, _ => fun D sc lo neg => by kernel_rfl
  | 5, _ => fun D sc lo neg => by kernel_rfl
  | 6, _ => fun D sc lo neg => by kernel_rfl
  | 7, _ => fun D sc lo neg => by kernel_rfl
  | 8, _ => fun D sc lo neg => by kernel_rfl
  | 9, _ => fun D sc lo neg => by kernel_rfl
  | 10, _ => fun D sc lo neg => by kernel_rfl
  | 11, _ => fun D sc lo neg => by kernel_rfl
  | 12, _ => fun D sc lo neg => by kernel_rfl
  | 13, _ => fun D sc lo neg => by kernel_rfl
  | 14, _ => fun D sc lo neg => by kernel_rfl
  | 15, _ => fun D sc lo neg => by kernel_rfl
  | 16, _ => fun D sc lo neg => by kernel_rfl
  | 17, _ => fun D sc lo neg => by kernel_rfl
  | 18, _ => fun D sc lo neg => by kernel_rfl
  | 19, _ => fun D sc lo neg => by kernel_rfl
  | 20, _ => fun D sc lo neg => by kernel_rfl
  | _ + 21, h => absurd h (by omega)
theorem trimB : ∀ k, k ≤ 20 → TrimRun btB obTB k
  | 0, _ => fun D sc lo neg => by kernel_rfl
  | 1, _ => fun D sc lo neg => by kernel_rfl
  | 2, _ => fun D sc lo neg => by kernel_rfl
  | 3, _ => fun D sc lo neg => by kernel_rfl
  | 4, _ => fun D sc lo neg => by kernel_rfl
  | 5, _ => fun D sc lo neg => by kernel_rfl
  | 6, _ => fun D sc lo neg => by kernel_rfl
  | 7, _ => fun D sc lo neg => by kernel_rfl
  | 8, _ => fun D sc lo neg => by kernel_rfl
  | 9, _ => fun D sc lo neg => by kernel_rfl
  | 10, _ => fun D sc lo neg => by kernel_rfl
  | 11, _ => fun D sc lo neg => by kernel_rfl
  | 12, _ => fun D sc lo neg => by kernel_rfl
  | 13, _ => fun D sc lo neg => by kernel_rfl
  | 14, _ => fun D sc lo neg => by kernel_rfl
  | 15, _ => fun D sc lo neg => by kernel_rfl
  | 16, _ => fun D sc lo neg => by kernel_rfl
  | 17, _ => fun D sc lo neg => by kernel_rfl
  | 18, _ => fun D sc lo neg => by kernel_rfl
  | 19, _ => fun D sc lo neg => by kernel_rfl
  | 20, _ => fun D sc lo neg => by kernel_rfl
  | _ + 21, h => absurd h (by omega)
inductive Tm (lo : Nat) : Nat → List UInt8 → Nat → List UInt8 → Nat → Prop
  | z {D : List UInt8} {sc : Nat} : Tm lo 0 D sc D sc
  | s {k : Nat} {D D1 : List UInt8} {sc s1 : Nat} : lo < sc → (nthD D (D.length - 1)).toNat = 48 → Tm lo k (t1 D) (sc - 1) D1 s1 → Tm lo (k + 1) D sc D1 s1
theorem t1_eq (D : List UInt8) : t1 D = D.take (D.length - 1) := by unfold t1; rw [len_eq]; rfl
theorem t1_len (D : List UInt8) : (t1 D).length = D.length - 1 := by rw [t1_eq, List.length_take]; omega
theorem t1_digs {D : List UInt8} (h : Digs D) : Digs (t1 D) := fun b hb => h b (List.mem_of_mem_take (by rw [t1_eq] at hb; exact hb))
theorem iLt_yes {a b : Nat} (h : a < b) : iLt (Int.ofNat a) (Int.ofNat b) = true := by rw [iLt_eq]; exact decide_eq_true (by simp; omega)
theorem iLt_none {a b : Nat} (h : ¬ a < b) : iLt (Int.ofNat a) (Int.ofNat b) = false := by rw [iLt_eq]; exact decide_eq_false (by simp; omega)
theorem iEq48 {n : Nat} : iEq (Int.ofNat n) 48 = decide (n = 48) := by
  rw [iEq_eq]
  by_cases h : n = 48
  · subst h; rfl
  · rw [decide_eq_false h, decide_eq_false]
    intro e
    exact h (Int.ofNat.inj e)
theorem obTI_ok {lo sc : Nat} {D : List UInt8} (h1 : lo < sc) (h2 : (nthD D (D.length - 1)).toNat = 48) (h3 : sc < D.length) (h4 : D.length ≤ 1000) : ∀ x ∈ obTI lo D sc, x = true := by
  have e2 : (nthD D ((len D).sub 1)).toNat = 48 := by rw [len_eq]; exact h2
  intro x hx
  unfold obTI at hx
  rw [iLt_yes h1, iEq48, e2] at hx
  simp only [List.mem_cons, List.not_mem_nil, or_false] at hx
  rcases hx with hx | hx | hx | hx | hx | hx | hx | hx | hx | hx | hx | hx | hx | hx | hx | hx | hx | hx
  all_goals (subst hx; first | rfl | (simp [ble_eq, blt_eq, beqB_eq, bq, len_eq]; done) | (simp [ble_eq, blt_eq, beqB_eq, bq, len_eq]; omega))
theorem obTA_ok {lo sc : Nat} {D : List UInt8} (h1 : ¬ lo < sc) : ∀ x ∈ obTA lo D sc, x = true := by
  intro x hx
  unfold obTA at hx
  rw [iLt_none h1] at hx
  have hx : x ∈ [true, true, true, true, true, true, true, true, true] := hx
  simpa using hx
theorem obTB_ok {lo sc : Nat} {D : List UInt8} (h1 : lo < sc) (h2 : (nthD D (D.length - 1)).toNat ≠ 48) (h3 : sc < D.length) (h4 : D.length ≤ 1000) : ∀ x ∈ obTB lo D sc, x = true := by
  have e2 : (nthD D ((len D).sub 1)).toNat ≠ 48 := by rw [len_eq]; exact h2
  intro x hx
  unfold obTB at hx
  rw [iLt_yes h1, iEq48, decide_eq_false e2] at hx
  simp only [List.mem_cons, List.not_mem_nil, or_false] at hx
  rcases hx with hx | hx | hx | hx | hx | hx | hx | hx | hx | hx | hx | hx | hx
  all_goals (subst hx; first | rfl | (simp [ble_eq, blt_eq, beqB_eq, bq, len_eq]; done) | (simp [ble_eq, blt_eq, beqB_eq, bq, len_eq]; omega))
theorem tm_facts {lo k : Nat} {D D1 : List UInt8} {sc s1 : Nat} (t : Tm lo k D sc D1 s1) (hs : sc < D.length) (hl : D.length ≤ 1000) (hD : Digs D) :
    (∀ neg, trV neg k D sc = decA neg D1 s1) ∧ (∀ st : List UInt8 → Nat → List Bool, (∀ x ∈ st D1 s1, x = true) → ∀ x ∈ obR lo st k D sc, x = true) ∧ s1 < D1.length ∧ D1.length ≤ D.length ∧ Digs D1 ∧ s1 + k = sc := by
  induction t with
  | z => exact ⟨fun _ => rfl, fun st h => h, hs, Nat.le_refl _, hD, rfl⟩
  | @s k D D1 sc s1 h1 h2 t ih =>
    obtain ⟨e1, e2, e3, e4, e5, e6⟩ := ih (by rw [t1_len]; omega) (by rw [t1_len]; omega) (t1_digs hD)
    refine ⟨e1, fun st h => ?_, e3, by rw [t1_len] at e4; omega, e5, by omega⟩
    show ∀ x ∈ app (obR lo st k (t1 D) (sc - 1)) (obTI lo D sc), x = true
    rw [app_eq]
    exact all_app (e2 st h) (obTI_ok h1 h2 hs hl)
theorem tm_end (lo : Nat) : ∀ (sc : Nat) (D : List UInt8), sc < D.length → ∃ k D1 s1, Tm lo k D sc D1 s1 ∧ (¬ lo < s1 ∨ lo < s1 ∧ (nthD D1 (D1.length - 1)).toNat ≠ 48)
  | sc, D, h => by
    by_cases h1 : lo < sc
    · by_cases h2 : (nthD D (D.length - 1)).toNat = 48
      · obtain ⟨n, rfl⟩ : ∃ n, sc = n + 1 := ⟨sc - 1, by omega⟩
        obtain ⟨k, D1, s1, t, e⟩ := tm_end lo n (t1 D) (by rw [t1_len]; omega)
        exact ⟨k + 1, D1, s1, .s h1 h2 t, e⟩
      · exact ⟨0, D, sc, .z, .inr ⟨h1, h2⟩⟩
    · exact ⟨0, D, sc, .z, .inl h1⟩
theorem trim_tells (neg : Bool) {D : List UInt8} {sc lo : Nat} (hsc : sc ≤ 20) (hD : Digs D) (hs : sc < D.length) (hl : D.length ≤ 40) :
    ∃ D1 s1, Pure false 90 [decA neg D sc, intV lo] (decA neg D1 s1) ∧ Digs D1 ∧ s1 < D1.length ∧ D1.length ≤ 40 := by
  obtain ⟨k, D1, s1, t, e⟩ := tm_end lo sc D hs
  obtain ⟨e1, e2, e3, e4, e5, e6⟩ := tm_facts t hs (by omega) hD
  have hk : k ≤ 20 := by omega
  have fl : ∀ v ∈ [decA neg D sc, intV lo], flat 5 v = true := flat2 rfl rfl
  refine ⟨D1, s1, ?_, e5, e3, by omega⟩
  rcases e with e | ⟨e, f⟩
  · have r := trimA k hk D sc lo neg
    rw [e1] at r
    exact pureN (envS_ok none_ok) r (e2 _ (obTA_ok e)) fl rfl
  · have r := trimB k hk D sc lo neg
    rw [e1] at r
    exact pureN (envS_ok none_ok) r (e2 _ (obTB_ok e f e3 (by omega))) fl rfl
end Go.Proofs.YtkmbkejmfffafaaGreatDoor.Refl
