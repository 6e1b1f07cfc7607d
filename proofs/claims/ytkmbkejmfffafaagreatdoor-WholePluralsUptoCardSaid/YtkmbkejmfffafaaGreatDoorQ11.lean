/- Texts joined by this session's own program, part 11. -/
import Derived.Test.YtkmbkejmfffafaaGreatDoorQ10
set_option linter.unusedSectionVars false
set_option linter.unusedVariables false
set_option linter.unusedSimpArgs false
namespace Go.Proofs.YtkmbkejmfffafaaGreatDoor.Refl
open Go Go.RowKit
set_option linter.unusedVariables false
set_option linter.unusedSimpArgs false
set_option maxRecDepth 1000000
set_option maxHeartbeats 4000000
theorem hSymObj (orc : List (Nat × Bool)) (b : Nat) : (hSym orc).obj b = if b = 2 then .cells p10 264 20 2 else if b = 0 then .cells Refl.asc 166 256 2 else .dead := by
  rw [← hS_obj]
  exact AH.obj_eq rfl rfl b
theorem pure_of_runT {E : Env} (hE : EnvF Tryz.prog E 12) {n f : Nat} {av : List Value} {r : Value} {orc : List (Nat × Bool)} {h1 : AH} (hx : acall E n f av (hSym orc) = some (r, h1)) (hob : OB h1) (hlog : h1.log = [])
    (hfa : ∀ v ∈ av, flat 5 v = true) (hfr : flat 5 r = true) : Pure true f av r := fun h ρ w args' ht hg hr hl => by
  obtain ⟨t1, t2, _⟩ := tabsOK_some ht
  have t1 := isP10 t1
  have t2 := isAsc t2
  refine pure_ok hE hx hob hlog rfl rfl (fun x _ => ?_) (fun x _ => ?_) hg hr hl hfa hfr
  · rw [hSymObj]
    by_cases h2 : x = 2
    · subst h2; rw [if_pos rfl]; exact .inr ⟨lt_of_obj t1 (fun h => by cases h), t1⟩
    · rw [if_neg h2]
      by_cases h0 : x = 0
      · subst h0; rw [if_pos rfl]; exact .inr ⟨lt_of_obj t2 (fun h => by cases h), t2⟩
      · rw [if_neg h0]; exact .inl rfl
  · rw [hSymObj]
    by_cases h2 : x = 2
    · rw [if_pos h2]; exact p10_flat
    · rw [if_neg h2]
      by_cases h0 : x = 0
      · rw [if_pos h0]; exact asc_flat
      · rw [if_neg h0]; trivial
theorem told5_ok (a b c : List (Nat × (List Value × Value))) : ∀ x ∈ [(50, xClosed 200 50), (84, xTold false 84 a), (85, xTold false 85 b), (121, xTold false 121 c)], ExtOK Tryz.prog 12 x.1 x.2 := by
  intro x hx
  simp only [List.mem_cons, List.not_mem_nil, or_false] at hx
  rcases hx with rfl | rfl | rfl | rfl
  · exact xClosed_ok 200 50
  · exact xTold_ok false 84 a
  · exact xTold_ok false 85 b
  · exact xTold_ok false 121 c
theorem told1_ok : ∀ x ∈ [(50, xClosed 200 50)], ExtOK Tryz.prog 12 x.1 x.2 := by
  intro x hx
  simp only [List.mem_cons, List.not_mem_nil, or_false] at hx
  subst hx
  exact xClosed_ok 200 50
theorem t49 : Pure false 84 [strV [49], strV [48]] (strV [49]) := trimLeft_pure [49] 48 (by decide)
theorem t48 : Pure false 84 [strV [48], strV [48]] (strV []) := trimLeft_pure [48] 48 (by decide)
theorem t50 : Pure false 84 [strV [50], strV [48]] (strV [50]) := trimLeft_pure [50] 48 (by decide)
noncomputable def obC (D W P N Q : List UInt8) (sc : Nat) : List Bool :=
  [pB (Pure false 85 [strV P, strV [48]] (strV Q)),
   pB ([Value.string { data := { toList := P } }, Value.string { data := #[48] }] = [strV P, strV [48]]),
   bytesEq P (List.take ((len D).sub ((len D).sub sc)) (List.drop ((len D).sub sc) D)),
   ((len D).sub sc).ble (len D),
   (len D).ble (len D),
   beqB (Nat.beq 1 1) (sc.ble (len D)),
   ((len D).add sc).ble 9223372036854775807,
   pB (Pure false 84 [strV W, strV [48]] (strV N)),
   pB ([Value.string { data := { toList := W } }, Value.string { data := #[48] }] = [strV W, strV [48]]),
   bytesEq W (List.take (((len D).sub sc).sub 0) (List.drop 0 D)),
   ((len D).sub sc).ble (len D),
   beqB (Nat.beq 1 1) (sc.ble (len D)),
   ((len D).add sc).ble 9223372036854775807]
theorem obC_ok {D W P N Q : List UInt8} {sc : Nat} (l0 : sc < D.length) (l1 : D.length ≤ 1000) (hW : W = D.take (D.length - sc)) (hP : P = D.drop (D.length - sc)) (p84 : Pure false 84 [strV W, strV [48]] (strV N)) (p85 : Pure false 85 [strV P, strV [48]] (strV Q)) : ∀ x ∈ obC D W P N Q sc, x = true := by
  have q1 : bytesEq P (List.take ((len D).sub ((len D).sub sc)) (List.drop ((len D).sub sc) D)) = true := by
    rw [hP, bytesEq_eq, len_eq]
    show decide (D.drop (D.length - sc) = List.take (D.length - (D.length - sc)) (List.drop (D.length - sc) D)) = true
    rw [List.take_of_length_le (by simp)]; simp
  have q2 : bytesEq W (List.take (((len D).sub sc).sub 0) (List.drop 0 D)) = true := by
    rw [hW, bytesEq_eq, len_eq]
    exact decide_eq_true rfl
  intro x hx
  unfold obC at hx
  simp only [List.mem_cons, List.not_mem_nil, or_false] at hx
  rcases hx with hx | hx | hx | hx | hx | hx | hx | hx | hx | hx | hx | hx | hx
  all_goals (subst hx; first | assumption | exact pB_of (by assumption) | exact pB_of rfl | exact pB_of trivial | exact pB_of t49 | exact pB_of t48 | exact pB_of t50 | (simp_all [ble_eq, blt_eq, iLt_eq, iEq_eq, beqB_eq, bytesEq_eq, bq, len_eq]; done) | (simp [ble_eq, blt_eq, iLt_eq, iEq_eq, beqB_eq, bytesEq_eq, bq, len_eq]; omega))
structure OF (D W P N Q : List UInt8) (sc a b : Nat) : Prop where
  l0 : sc < D.length
  l1 : D.length ≤ 1000
  hW : W = D.take (D.length - sc)
  hP : P = D.drop (D.length - sc)
  p84 : Pure false 84 [strV W, strV [48]] (strV N)
  p85 : Pure false 85 [strV P, strV [48]] (strV Q)
  p1 : Pure false 121 [numA N sc (bytesEq Q []), intV 1] (intV a)
  p2 : Pure false 121 [numA N sc (bytesEq Q []), intV 2] (intV b)
noncomputable def eL (W P N Q : List UInt8) (i j : Nat) (t84 t121 : List (Nat × (List Value × Value))) : Env := envS [(50, xClosed 200 50), (84, xTold false 84 ((Nat.succ i, ([strV W, strV [48]], strV N)) :: t84)), (85, xTold false 85 [(Nat.succ j, ([strV P, strV [48]], strV Q))]), (121, xTold false 121 t121)] ((Tr.nil.set i W).set j P)
noncomputable def lL (E : Env) (g : List UInt8) (d : Value) (l : List Nat) : Option (Value × List Nat × Bool) := lookB (acall E 200 21 [strV g, d] (hSym (bits l 0)))
noncomputable def tL (c : Nat) (l : List Bool) : Option (Value × List Nat × Bool) := some (intV c, [], allB (fun b => b) l)
theorem of_lL {W P N Q D g : List UInt8} {neg : Bool} {sc a b i j c : Nat} {t84 t121 : List (Nat × (List Value × Value))} {l : List Nat} {ob : List Bool} (h : lL (eL W P N Q i j t84 t121) g (decA neg D sc) l = tL c (ob ++ obC D W P N Q sc)) (o : OF D W P N Q sc a b) (ho : ∀ x ∈ ob, x = true) : Pure true 21 [strV g, decA neg D sc] (intV c) := by
  obtain ⟨h1, k1, k2, k3⟩ := lookB_some h ((allB_eq _ _).2 (all_app ho (obC_ok o.l0 o.l1 o.hW o.hP o.p84 o.p85)))
  exact pure_of_runT (envS_ok (told5_ok _ _ _)) k1 k3 k2 (fun v hv => by simp at hv; rcases hv with rfl | rfl <;> rfl) rfl
section
variable (g D W P N Q : List UInt8) (neg : Bool) (sc a b : Nat)
theorem run_en_1p5 : lL (eL W P N Q 5 8 [] []) [101, 110] (decA neg D sc) [1,1,1,1,1,2,2,1,2,2,0,0,0,0] = tL 0 ([beqB (false) (iEq (Int.ofNat sc) 0), beqB (false) (beqB (iEq (Int.ofNat sc) 0) true), beqB (false) (beqB (iEq (Int.ofNat sc) 0) true)] ++ obC D W P N Q sc) := by kernel_rfl
theorem run_en_1 : lL (eL W P N Q 5 8 [(12, ([strV [49], strV [48]], strV [49]))] []) [101, 110] (decA neg D sc) [1,1,1,1,1,2,2,1,2,2,1,1,2,1,1] = tL 2 ([beqB (true) (bytesEq N [49]), beqB (true) (iEq (Int.ofNat sc) 0), pB (Pure false 84 [strV [49], strV [48]] (strV [49])), pB ([Value.string { data := #[49] }, Value.string { data := #[48] }] = [strV [49], strV [48]]), beqB (true) (beqB (iEq (Int.ofNat sc) 0) true), beqB (true) (beqB (iEq (Int.ofNat sc) 0) true)] ++ obC D W P N Q sc) := by kernel_rfl
theorem run_en_2 : lL (eL W P N Q 5 8 [(12, ([strV [49], strV [48]], strV [49]))] []) [101, 110] (decA neg D sc) [1,1,1,1,1,2,2,1,2,2,1,1,2,1,0] = tL 0 ([beqB (false) (bytesEq N [49]), beqB (true) (iEq (Int.ofNat sc) 0), pB (Pure false 84 [strV [49], strV [48]] (strV [49])), pB ([Value.string { data := #[49] }, Value.string { data := #[48] }] = [strV [49], strV [48]]), beqB (true) (beqB (iEq (Int.ofNat sc) 0) true), beqB (true) (beqB (iEq (Int.ofNat sc) 0) true)] ++ obC D W P N Q sc) := by kernel_rfl
theorem run_fr_0 : lL (eL W P N Q 16 19 [(21, ([strV [48], strV [48]], strV []))] []) [102, 114] (decA neg D sc) [1,1,0,1,0,1,0,1,0,0,0,1,1,1,1,1,2,2,1,2,2,2,0,0,1,1] = tL 2 ([beqB (true) (bytesEq N []), beqB (false) (beqB (bytesEq N []) false), beqB (false) (beqB (bytesEq N []) false), pB (Pure false 84 [strV [48], strV [48]] (strV [])), pB ([Value.string { data := #[48] }, Value.string { data := #[48] }] = [strV [48], strV [48]])] ++ obC D W P N Q sc) := by kernel_rfl
theorem run_fr_1 : lL (eL W P N Q 16 19 [(21, ([strV [48], strV [48]], strV [])), (24, ([strV [49], strV [48]], strV [49]))] []) [102, 114] (decA neg D sc) [1,1,0,1,0,1,0,1,0,0,0,1,1,1,1,1,2,2,1,2,2,2,1,1,2,0,1] = tL 2 ([beqB (true) (bytesEq N [49]), beqB (false) (bytesEq N []), pB (Pure false 84 [strV [49], strV [48]] (strV [49])), pB ([Value.string { data := #[49] }, Value.string { data := #[48] }] = [strV [49], strV [48]]), beqB (true) (beqB (bytesEq N []) false), beqB (true) (beqB (bytesEq N []) false), pB (Pure false 84 [strV [48], strV [48]] (strV [])), pB ([Value.string { data := #[48] }, Value.string { data := #[48] }] = [strV [48], strV [48]])] ++ obC D W P N Q sc) := by kernel_rfl
theorem run_fr_2 : lL (eL W P N Q 16 19 [(21, ([strV [48], strV [48]], strV [])), (24, ([strV [49], strV [48]], strV [49]))] []) [102, 114] (decA neg D sc) [1,1,0,1,0,1,0,1,0,0,0,1,1,1,1,1,2,2,1,2,2,2,1,1,2,0,0] = tL 0 ([beqB (false) (bytesEq N [49]), beqB (false) (bytesEq N []), pB (Pure false 84 [strV [49], strV [48]] (strV [49])), pB ([Value.string { data := #[49] }, Value.string { data := #[48] }] = [strV [49], strV [48]]), beqB (true) (beqB (bytesEq N []) false), beqB (true) (beqB (bytesEq N []) false), pB (Pure false 84 [strV [48], strV [48]] (strV [])), pB ([Value.string { data := #[48] }, Value.string { data := #[48] }] = [strV [48], strV [48]])] ++ obC D W P N Q sc) := by kernel_rfl
theorem run_es_1p5 : lL (eL W P N Q 21 24 [] []) [101, 115] (decA neg D sc) [1,1,0,1,0,1,0,1,0,0,0,1,1,0,0,0,1,1,1,1,1,2,2,1,2,2,0,0,0,0] = tL 0 ([beqB (false) (bytesEq Q []), beqB (false) (beqB (bytesEq Q []) true), beqB (false) (beqB (bytesEq Q []) true)] ++ obC D W P N Q sc) := by kernel_rfl
theorem run_es_1 : lL (eL W P N Q 21 24 [(28, ([strV [49], strV [48]], strV [49]))] []) [101, 115] (decA neg D sc) [1,1,0,1,0,1,0,1,0,0,0,1,1,0,0,0,1,1,1,1,1,2,2,1,2,2,1,1,2,1,1] = tL 2 ([beqB (true) (bytesEq N [49]), beqB (true) (bytesEq Q []), pB (Pure false 84 [strV [49], strV [48]] (strV [49])), pB ([Value.string { data := #[49] }, Value.string { data := #[48] }] = [strV [49], strV [48]]), beqB (true) (beqB (bytesEq Q []) true), beqB (true) (beqB (bytesEq Q []) true)] ++ obC D W P N Q sc) := by kernel_rfl
theorem run_es_2 : lL (eL W P N Q 21 24 [(28, ([strV [49], strV [48]], strV [49]))] []) [101, 115] (decA neg D sc) [1,1,0,1,0,1,0,1,0,0,0,1,1,0,0,0,1,1,1,1,1,2,2,1,2,2,1,1,2,1,0] = tL 0 ([beqB (false) (bytesEq N [49]), beqB (true) (bytesEq Q []), pB (Pure false 84 [strV [49], strV [48]] (strV [49])), pB ([Value.string { data := #[49] }, Value.string { data := #[48] }] = [strV [49], strV [48]]), beqB (true) (beqB (bytesEq Q []) true), beqB (true) (beqB (bytesEq Q []) true)] ++ obC D W P N Q sc) := by kernel_rfl
theorem run_pl_1p5 : lL (eL W P N Q 26 29 [] []) [112, 108] (decA neg D sc) [1,1,0,1,0,1,0,1,0,0,0,1,1,0,0,0,1,1,0,0,0,1,1,1,1,1,2,2,1,2,2,1] = tL 0 ([beqB (true) !iEq (Int.ofNat sc) 0] ++ obC D W P N Q sc) := by kernel_rfl
theorem run_pl_1 : lL (eL W P N Q 26 29 [(32, ([strV [49], strV [48]], strV [49]))] []) [112, 108] (decA neg D sc) [1,1,0,1,0,1,0,1,0,0,0,1,1,0,0,0,1,1,0,0,0,1,1,1,1,1,2,2,1,2,2,0,2,1] = tL 2 ([beqB (true) (bytesEq N [49]), pB (Pure false 84 [strV [49], strV [48]] (strV [49])), pB ([Value.string { data := #[49] }, Value.string { data := #[48] }] = [strV [49], strV [48]]), beqB (false) !iEq (Int.ofNat sc) 0] ++ obC D W P N Q sc) := by kernel_rfl
theorem run_pl_10 : lL (eL W P N Q 26 29 [(32, ([strV [49], strV [48]], strV [49]))] [(34, ([numA N sc (bytesEq Q []), intV 1], intV a))]) [112, 108] (decA neg D sc) [1,1,0,1,0,1,0,1,0,0,0,1,1,0,0,0,1,1,0,0,0,1,1,1,1,1,2,2,1,2,2,0,2,0,2,0,0,0,0,0,0,0,0,0,0] = tL 5 ([beqB (false) !iLt (Int.ofNat a) (Int.ofNat 2), beqB (false) (beqB (!iLt (Int.ofNat a) (Int.ofNat 2)) true), beqB (false) (beqB (!iLt (Int.ofNat a) (Int.ofNat 2)) true), beqB (false) (beqB (!iLt (Int.ofNat a) (Int.ofNat 2)) true), pB (Pure false 121 [numA N sc (bytesEq Q []), intV 1] (intV a)), pB ([Value.agg { toList := [Value.string { data := { toList := N } }, Value.int IntKind.i64 (Int.ofNat sc), Value.bool (bytesEq Q [])] }, Value.int IntKind.i64 (Int.ofNat 1)] = [numA N sc (bytesEq Q []), intV 1]), beqB (false) (bytesEq N [49]), pB (Pure false 84 [strV [49], strV [48]] (strV [49])), pB ([Value.string { data := #[49] }, Value.string { data := #[48] }] = [strV [49], strV [48]]), beqB (false) !iEq (Int.ofNat sc) 0] ++ obC D W P N Q sc) := by kernel_rfl
theorem run_pl_5 : lL (eL W P N Q 26 29 [(32, ([strV [49], strV [48]], strV [49]))] [(34, ([numA N sc (bytesEq Q []), intV 1], intV a))]) [112, 108] (decA neg D sc) [1,1,0,1,0,1,0,1,0,0,0,1,1,0,0,0,1,1,0,0,0,1,1,1,1,1,2,2,1,2,2,0,2,0,2,1,1,1,1,0,0,0,0,0,0] = tL 5 ([beqB (false) !iLt (Int.ofNat 4) (Int.ofNat a), beqB (false) (beqB (!iLt (Int.ofNat 4) (Int.ofNat a)) true), beqB (false) (beqB (!iLt (Int.ofNat 4) (Int.ofNat a)) true), beqB (false) (beqB (!iLt (Int.ofNat 4) (Int.ofNat a)) true), beqB (false) (beqB (!iLt (Int.ofNat 4) (Int.ofNat a)) true), beqB (true) !iLt (Int.ofNat a) (Int.ofNat 2), beqB (true) (beqB (!iLt (Int.ofNat a) (Int.ofNat 2)) true), beqB (true) (beqB (!iLt (Int.ofNat a) (Int.ofNat 2)) true), beqB (true) (beqB (!iLt (Int.ofNat a) (Int.ofNat 2)) true), pB (Pure false 121 [numA N sc (bytesEq Q []), intV 1] (intV a)), pB ([Value.agg { toList := [Value.string { data := { toList := N } }, Value.int IntKind.i64 (Int.ofNat sc), Value.bool (bytesEq Q [])] }, Value.int IntKind.i64 (Int.ofNat 1)] = [numA N sc (bytesEq Q []), intV 1]), beqB (false) (bytesEq N [49]), pB (Pure false 84 [strV [49], strV [48]] (strV [49])), pB ([Value.string { data := #[49] }, Value.string { data := #[48] }] = [strV [49], strV [48]]), beqB (false) !iEq (Int.ofNat sc) 0] ++ obC D W P N Q sc) := by kernel_rfl
theorem run_pl_2 : lL (eL W P N Q 26 29 [(32, ([strV [49], strV [48]], strV [49]))] [(34, ([numA N sc (bytesEq Q []), intV 1], intV a)), (41, ([numA N sc (bytesEq Q []), intV 2], intV b))]) [112, 108] (decA neg D sc) [1,1,0,1,0,1,0,1,0,0,0,1,1,0,0,0,1,1,0,0,0,1,1,1,1,1,2,2,1,2,2,0,2,0,2,1,1,1,1,1,1,2,1,0,0,0,0,1,1,1] = tL 4 ([beqB (true) !iLt (Int.ofNat 4) (Int.ofNat a), beqB (true) (beqB (!iLt (Int.ofNat 4) (Int.ofNat a)) true), beqB (false) !iLt (Int.ofNat b) (Int.ofNat 12), beqB (false) (beqB (!iLt (Int.ofNat b) (Int.ofNat 12)) true), beqB (false) (beqB (!iLt (Int.ofNat b) (Int.ofNat 12)) true), beqB (false) (beqB (!iLt (Int.ofNat b) (Int.ofNat 12)) true), beqB (true) (beqB (!iLt (Int.ofNat 4) (Int.ofNat a)) true), pB (Pure false 121 [numA N sc (bytesEq Q []), intV 2] (intV b)), pB ([Value.agg { toList := [Value.string { data := { toList := N } }, Value.int IntKind.i64 (Int.ofNat sc), Value.bool (bytesEq Q [])] }, Value.int IntKind.i64 (Int.ofNat 2)] = [numA N sc (bytesEq Q []), intV 2]), beqB (true) (beqB (!iLt (Int.ofNat 4) (Int.ofNat a)) true), beqB (true) (beqB (!iLt (Int.ofNat 4) (Int.ofNat a)) true), beqB (true) !iLt (Int.ofNat a) (Int.ofNat 2), beqB (true) (beqB (!iLt (Int.ofNat a) (Int.ofNat 2)) true), beqB (true) (beqB (!iLt (Int.ofNat a) (Int.ofNat 2)) true), beqB (true) (beqB (!iLt (Int.ofNat a) (Int.ofNat 2)) true), pB (Pure false 121 [numA N sc (bytesEq Q []), intV 1] (intV a)), pB ([Value.agg { toList := [Value.string { data := { toList := N } }, Value.int IntKind.i64 (Int.ofNat sc), Value.bool (bytesEq Q [])] }, Value.int IntKind.i64 (Int.ofNat 1)] = [numA N sc (bytesEq Q []), intV 1]), beqB (false) (bytesEq N [49]), pB (Pure false 84 [strV [49], strV [48]] (strV [49])), pB ([Value.string { data := #[49] }, Value.string { data := #[48] }] = [strV [49], strV [48]]), beqB (false) !iEq (Int.ofNat sc) 0] ++ obC D W P N Q sc) := by kernel_rfl
theorem run_pl_12 : lL (eL W P N Q 26 29 [(32, ([strV [49], strV [48]], strV [49]))] [(34, ([numA N sc (bytesEq Q []), intV 1], intV a)), (41, ([numA N sc (bytesEq Q []), intV 2], intV b))]) [112, 108] (decA neg D sc) [1,1,0,1,0,1,0,1,0,0,0,1,1,0,0,0,1,1,0,0,0,1,1,1,1,1,2,2,1,2,2,0,2,0,2,1,1,1,1,1,1,2,1,1,1,1,1,1,1,0] = tL 5 ([beqB (false) !!iLt (Int.ofNat 14) (Int.ofNat b), beqB (true) !iLt (Int.ofNat 4) (Int.ofNat a), beqB (true) (beqB (!iLt (Int.ofNat 4) (Int.ofNat a)) true), beqB (true) !iLt (Int.ofNat b) (Int.ofNat 12), beqB (true) (beqB (!iLt (Int.ofNat b) (Int.ofNat 12)) true), beqB (true) (beqB (!iLt (Int.ofNat b) (Int.ofNat 12)) true), beqB (true) (beqB (!iLt (Int.ofNat b) (Int.ofNat 12)) true), beqB (true) (beqB (!iLt (Int.ofNat 4) (Int.ofNat a)) true), pB (Pure false 121 [numA N sc (bytesEq Q []), intV 2] (intV b)), pB ([Value.agg { toList := [Value.string { data := { toList := N } }, Value.int IntKind.i64 (Int.ofNat sc), Value.bool (bytesEq Q [])] }, Value.int IntKind.i64 (Int.ofNat 2)] = [numA N sc (bytesEq Q []), intV 2]), beqB (true) (beqB (!iLt (Int.ofNat 4) (Int.ofNat a)) true), beqB (true) (beqB (!iLt (Int.ofNat 4) (Int.ofNat a)) true), beqB (true) !iLt (Int.ofNat a) (Int.ofNat 2), beqB (true) (beqB (!iLt (Int.ofNat a) (Int.ofNat 2)) true), beqB (true) (beqB (!iLt (Int.ofNat a) (Int.ofNat 2)) true), beqB (true) (beqB (!iLt (Int.ofNat a) (Int.ofNat 2)) true), pB (Pure false 121 [numA N sc (bytesEq Q []), intV 1] (intV a)), pB ([Value.agg { toList := [Value.string { data := { toList := N } }, Value.int IntKind.i64 (Int.ofNat sc), Value.bool (bytesEq Q [])] }, Value.int IntKind.i64 (Int.ofNat 1)] = [numA N sc (bytesEq Q []), intV 1]), beqB (false) (bytesEq N [49]), pB (Pure false 84 [strV [49], strV [48]] (strV [49])), pB ([Value.string { data := #[49] }, Value.string { data := #[48] }] = [strV [49], strV [48]]), beqB (false) !iEq (Int.ofNat sc) 0] ++ obC D W P N Q sc) := by kernel_rfl
theorem run_pl_22 : lL (eL W P N Q 26 29 [(32, ([strV [49], strV [48]], strV [49]))] [(34, ([numA N sc (bytesEq Q []), intV 1], intV a)), (41, ([numA N sc (bytesEq Q []), intV 2], intV b))]) [112, 108] (decA neg D sc) [1,1,0,1,0,1,0,1,0,0,0,1,1,0,0,0,1,1,0,0,0,1,1,1,1,1,2,2,1,2,2,0,2,0,2,1,1,1,1,1,1,2,1,1,1,1,1,1,1,1] = tL 4 ([beqB (true) !!iLt (Int.ofNat 14) (Int.ofNat b), beqB (true) !iLt (Int.ofNat 4) (Int.ofNat a), beqB (true) (beqB (!iLt (Int.ofNat 4) (Int.ofNat a)) true), beqB (true) !iLt (Int.ofNat b) (Int.ofNat 12), beqB (true) (beqB (!iLt (Int.ofNat b) (Int.ofNat 12)) true), beqB (true) (beqB (!iLt (Int.ofNat b) (Int.ofNat 12)) true), beqB (true) (beqB (!iLt (Int.ofNat b) (Int.ofNat 12)) true), beqB (true) (beqB (!iLt (Int.ofNat 4) (Int.ofNat a)) true), pB (Pure false 121 [numA N sc (bytesEq Q []), intV 2] (intV b)), pB ([Value.agg { toList := [Value.string { data := { toList := N } }, Value.int IntKind.i64 (Int.ofNat sc), Value.bool (bytesEq Q [])] }, Value.int IntKind.i64 (Int.ofNat 2)] = [numA N sc (bytesEq Q []), intV 2]), beqB (true) (beqB (!iLt (Int.ofNat 4) (Int.ofNat a)) true), beqB (true) (beqB (!iLt (Int.ofNat 4) (Int.ofNat a)) true), beqB (true) !iLt (Int.ofNat a) (Int.ofNat 2), beqB (true) (beqB (!iLt (Int.ofNat a) (Int.ofNat 2)) true), beqB (true) (beqB (!iLt (Int.ofNat a) (Int.ofNat 2)) true), beqB (true) (beqB (!iLt (Int.ofNat a) (Int.ofNat 2)) true), pB (Pure false 121 [numA N sc (bytesEq Q []), intV 1] (intV a)), pB ([Value.agg { toList := [Value.string { data := { toList := N } }, Value.int IntKind.i64 (Int.ofNat sc), Value.bool (bytesEq Q [])] }, Value.int IntKind.i64 (Int.ofNat 1)] = [numA N sc (bytesEq Q []), intV 1]), beqB (false) (bytesEq N [49]), pB (Pure false 84 [strV [49], strV [48]] (strV [49])), pB ([Value.string { data := #[49] }, Value.string { data := #[48] }] = [strV [49], strV [48]]), beqB (false) !iEq (Int.ofNat sc) 0] ++ obC D W P N Q sc) := by kernel_rfl
theorem run_ru_1p5 : lL (eL W P N Q 31 34 [] []) [114, 117] (decA neg D sc) [1,1,0,1,0,1,0,1,0,0,0,1,1,0,0,0,1,1,0,0,0,1,1,0,0,0,1,1,1,1,1,2,2,1,2,2,1] = tL 0 ([beqB (true) !iEq (Int.ofNat sc) 0] ++ obC D W P N Q sc) := by kernel_rfl
theorem run_ru_1 : lL (eL W P N Q 31 34 [] [(37, ([numA N sc (bytesEq Q []), intV 1], intV a)), (40, ([numA N sc (bytesEq Q []), intV 2], intV b))]) [114, 117] (decA neg D sc) [1,1,0,1,0,1,0,1,0,0,0,1,1,0,0,0,1,1,0,0,0,1,1,0,0,0,1,1,1,1,1,2,2,1,2,2,0,2,1,1,2,1,1,1] = tL 2 ([beqB (true) !iEq (Int.ofNat b) 11, beqB (true) (iEq (Int.ofNat a) 1), beqB (true) (beqB (iEq (Int.ofNat a) 1) true), pB (Pure false 121 [numA N sc (bytesEq Q []), intV 2] (intV b)), pB ([Value.agg { toList := [Value.string { data := { toList := N } }, Value.int IntKind.i64 (Int.ofNat sc), Value.bool (bytesEq Q [])] }, Value.int IntKind.i64 (Int.ofNat 2)] = [numA N sc (bytesEq Q []), intV 2]), beqB (true) (beqB (iEq (Int.ofNat a) 1) true), beqB (true) (beqB (iEq (Int.ofNat a) 1) true), pB (Pure false 121 [numA N sc (bytesEq Q []), intV 1] (intV a)), pB ([Value.agg { toList := [Value.string { data := { toList := N } }, Value.int IntKind.i64 (Int.ofNat sc), Value.bool (bytesEq Q [])] }, Value.int IntKind.i64 (Int.ofNat 1)] = [numA N sc (bytesEq Q []), intV 1]), beqB (false) !iEq (Int.ofNat sc) 0] ++ obC D W P N Q sc) := by kernel_rfl
theorem run_ru_11 : lL (eL W P N Q 31 34 [] [(37, ([numA N sc (bytesEq Q []), intV 1], intV a)), (40, ([numA N sc (bytesEq Q []), intV 2], intV b)), (44, ([numA N sc (bytesEq Q []), intV 1], intV a))]) [114, 117] (decA neg D sc) [1,1,0,1,0,1,0,1,0,0,0,1,1,0,0,0,1,1,0,0,0,1,1,0,0,0,1,1,1,1,1,2,2,1,2,2,0,2,1,1,2,1,1,0,2,0,0,0,0,0,0,0,0,0,0] = tL 5 ([beqB (false) !iLt (Int.ofNat a) (Int.ofNat 2), beqB (false) (beqB (!iLt (Int.ofNat a) (Int.ofNat 2)) true), beqB (false) (beqB (!iLt (Int.ofNat a) (Int.ofNat 2)) true), beqB (false) (beqB (!iLt (Int.ofNat a) (Int.ofNat 2)) true), pB (Pure false 121 [numA N sc (bytesEq Q []), intV 1] (intV a)), pB ([Value.agg { toList := [Value.string { data := { toList := N } }, Value.int IntKind.i64 (Int.ofNat sc), Value.bool (bytesEq Q [])] }, Value.int IntKind.i64 (Int.ofNat 1)] = [numA N sc (bytesEq Q []), intV 1]), beqB (false) !iEq (Int.ofNat b) 11, beqB (true) (iEq (Int.ofNat a) 1), beqB (true) (beqB (iEq (Int.ofNat a) 1) true), pB (Pure false 121 [numA N sc (bytesEq Q []), intV 2] (intV b)), pB ([Value.agg { toList := [Value.string { data := { toList := N } }, Value.int IntKind.i64 (Int.ofNat sc), Value.bool (bytesEq Q [])] }, Value.int IntKind.i64 (Int.ofNat 2)] = [numA N sc (bytesEq Q []), intV 2]), beqB (true) (beqB (iEq (Int.ofNat a) 1) true), beqB (true) (beqB (iEq (Int.ofNat a) 1) true), pB (Pure false 121 [numA N sc (bytesEq Q []), intV 1] (intV a)), pB ([Value.agg { toList := [Value.string { data := { toList := N } }, Value.int IntKind.i64 (Int.ofNat sc), Value.bool (bytesEq Q [])] }, Value.int IntKind.i64 (Int.ofNat 1)] = [numA N sc (bytesEq Q []), intV 1]), beqB (false) !iEq (Int.ofNat sc) 0] ++ obC D W P N Q sc) := by kernel_rfl
theorem run_ru_0 : lL (eL W P N Q 31 34 [] [(37, ([numA N sc (bytesEq Q []), intV 1], intV a)), (43, ([numA N sc (bytesEq Q []), intV 1], intV a))]) [114, 117] (decA neg D sc) [1,1,0,1,0,1,0,1,0,0,0,1,1,0,0,0,1,1,0,0,0,1,1,0,0,0,1,1,1,1,1,2,2,1,2,2,0,2,0,0,0,0,0,2,0,0,0,0,0,0,0,0,0,0] = tL 5 ([beqB (false) !iLt (Int.ofNat a) (Int.ofNat 2), beqB (false) (beqB (!iLt (Int.ofNat a) (Int.ofNat 2)) true), beqB (false) (beqB (!iLt (Int.ofNat a) (Int.ofNat 2)) true), beqB (false) (beqB (!iLt (Int.ofNat a) (Int.ofNat 2)) true), pB (Pure false 121 [numA N sc (bytesEq Q []), intV 1] (intV a)), pB ([Value.agg { toList := [Value.string { data := { toList := N } }, Value.int IntKind.i64 (Int.ofNat sc), Value.bool (bytesEq Q [])] }, Value.int IntKind.i64 (Int.ofNat 1)] = [numA N sc (bytesEq Q []), intV 1]), beqB (false) (iEq (Int.ofNat a) 1), beqB (false) (beqB (iEq (Int.ofNat a) 1) true), beqB (false) (beqB (iEq (Int.ofNat a) 1) true), beqB (false) (beqB (iEq (Int.ofNat a) 1) true), pB (Pure false 121 [numA N sc (bytesEq Q []), intV 1] (intV a)), pB ([Value.agg { toList := [Value.string { data := { toList := N } }, Value.int IntKind.i64 (Int.ofNat sc), Value.bool (bytesEq Q [])] }, Value.int IntKind.i64 (Int.ofNat 1)] = [numA N sc (bytesEq Q []), intV 1]), beqB (false) !iEq (Int.ofNat sc) 0] ++ obC D W P N Q sc) := by kernel_rfl
theorem run_ru_5 : lL (eL W P N Q 31 34 [] [(37, ([numA N sc (bytesEq Q []), intV 1], intV a)), (43, ([numA N sc (bytesEq Q []), intV 1], intV a))]) [114, 117] (decA neg D sc) [1,1,0,1,0,1,0,1,0,0,0,1,1,0,0,0,1,1,0,0,0,1,1,0,0,0,1,1,1,1,1,2,2,1,2,2,0,2,0,0,0,0,0,2,1,1,1,1,0,0,0,0,0,0] = tL 5 ([beqB (false) !iLt (Int.ofNat 4) (Int.ofNat a), beqB (false) (beqB (!iLt (Int.ofNat 4) (Int.ofNat a)) true), beqB (false) (beqB (!iLt (Int.ofNat 4) (Int.ofNat a)) true), beqB (false) (beqB (!iLt (Int.ofNat 4) (Int.ofNat a)) true), beqB (false) (beqB (!iLt (Int.ofNat 4) (Int.ofNat a)) true), beqB (true) !iLt (Int.ofNat a) (Int.ofNat 2), beqB (true) (beqB (!iLt (Int.ofNat a) (Int.ofNat 2)) true), beqB (true) (beqB (!iLt (Int.ofNat a) (Int.ofNat 2)) true), beqB (true) (beqB (!iLt (Int.ofNat a) (Int.ofNat 2)) true), pB (Pure false 121 [numA N sc (bytesEq Q []), intV 1] (intV a)), pB ([Value.agg { toList := [Value.string { data := { toList := N } }, Value.int IntKind.i64 (Int.ofNat sc), Value.bool (bytesEq Q [])] }, Value.int IntKind.i64 (Int.ofNat 1)] = [numA N sc (bytesEq Q []), intV 1]), beqB (false) (iEq (Int.ofNat a) 1), beqB (false) (beqB (iEq (Int.ofNat a) 1) true), beqB (false) (beqB (iEq (Int.ofNat a) 1) true), beqB (false) (beqB (iEq (Int.ofNat a) 1) true), pB (Pure false 121 [numA N sc (bytesEq Q []), intV 1] (intV a)), pB ([Value.agg { toList := [Value.string { data := { toList := N } }, Value.int IntKind.i64 (Int.ofNat sc), Value.bool (bytesEq Q [])] }, Value.int IntKind.i64 (Int.ofNat 1)] = [numA N sc (bytesEq Q []), intV 1]), beqB (false) !iEq (Int.ofNat sc) 0] ++ obC D W P N Q sc) := by kernel_rfl
theorem run_ru_2 : lL (eL W P N Q 31 34 [] [(37, ([numA N sc (bytesEq Q []), intV 1], intV a)), (43, ([numA N sc (bytesEq Q []), intV 1], intV a)), (50, ([numA N sc (bytesEq Q []), intV 2], intV b))]) [114, 117] (decA neg D sc) [1,1,0,1,0,1,0,1,0,0,0,1,1,0,0,0,1,1,0,0,0,1,1,0,0,0,1,1,1,1,1,2,2,1,2,2,0,2,0,0,0,0,0,2,1,1,1,1,1,1,2,1,0,0,0,0,1,1,1] = tL 4 ([beqB (true) !iLt (Int.ofNat 4) (Int.ofNat a), beqB (true) (beqB (!iLt (Int.ofNat 4) (Int.ofNat a)) true), beqB (false) !iLt (Int.ofNat b) (Int.ofNat 12), beqB (false) (beqB (!iLt (Int.ofNat b) (Int.ofNat 12)) true), beqB (false) (beqB (!iLt (Int.ofNat b) (Int.ofNat 12)) true), beqB (false) (beqB (!iLt (Int.ofNat b) (Int.ofNat 12)) true), beqB (true) (beqB (!iLt (Int.ofNat 4) (Int.ofNat a)) true), pB (Pure false 121 [numA N sc (bytesEq Q []), intV 2] (intV b)), pB ([Value.agg { toList := [Value.string { data := { toList := N } }, Value.int IntKind.i64 (Int.ofNat sc), Value.bool (bytesEq Q [])] }, Value.int IntKind.i64 (Int.ofNat 2)] = [numA N sc (bytesEq Q []), intV 2]), beqB (true) (beqB (!iLt (Int.ofNat 4) (Int.ofNat a)) true), beqB (true) (beqB (!iLt (Int.ofNat 4) (Int.ofNat a)) true), beqB (true) !iLt (Int.ofNat a) (Int.ofNat 2), beqB (true) (beqB (!iLt (Int.ofNat a) (Int.ofNat 2)) true), beqB (true) (beqB (!iLt (Int.ofNat a) (Int.ofNat 2)) true), beqB (true) (beqB (!iLt (Int.ofNat a) (Int.ofNat 2)) true), pB (Pure false 121 [numA N sc (bytesEq Q []), intV 1] (intV a)), pB ([Value.agg { toList := [Value.string { data := { toList := N } }, Value.int IntKind.i64 (Int.ofNat sc), Value.bool (bytesEq Q [])] }, Value.int IntKind.i64 (Int.ofNat 1)] = [numA N sc (bytesEq Q []), intV 1]), beqB (false) (iEq (Int.ofNat a) 1), beqB (false) (beqB (iEq (Int.ofNat a) 1) true), beqB (false) (beqB (iEq (Int.ofNat a) 1) true), beqB (false) (beqB (iEq (Int.ofNat a) 1) true), pB (Pure false 121 [numA N sc (bytesEq Q []), intV 1] (intV a)), pB ([Value.agg { toList := [Value.string { data := { toList := N } }, Value.int IntKind.i64 (Int.ofNat sc), Value.bool (bytesEq Q [])] }, Value.int IntKind.i64 (Int.ofNat 1)] = [numA N sc (bytesEq Q []), intV 1]), beqB (false) !iEq (Int.ofNat sc) 0] ++ obC D W P N Q sc) := by kernel_rfl
theorem run_ru_12 : lL (eL W P N Q 31 34 [] [(37, ([numA N sc (bytesEq Q []), intV 1], intV a)), (43, ([numA N sc (bytesEq Q []), intV 1], intV a)), (50, ([numA N sc (bytesEq Q []), intV 2], intV b))]) [114, 117] (decA neg D sc) [1,1,0,1,0,1,0,1,0,0,0,1,1,0,0,0,1,1,0,0,0,1,1,0,0,0,1,1,1,1,1,2,2,1,2,2,0,2,0,0,0,0,0,2,1,1,1,1,1,1,2,1,1,1,1,1,1,1,0] = tL 5 ([beqB (false) !!iLt (Int.ofNat 14) (Int.ofNat b), beqB (true) !iLt (Int.ofNat 4) (Int.ofNat a), beqB (true) (beqB (!iLt (Int.ofNat 4) (Int.ofNat a)) true), beqB (true) !iLt (Int.ofNat b) (Int.ofNat 12), beqB (true) (beqB (!iLt (Int.ofNat b) (Int.ofNat 12)) true), beqB (true) (beqB (!iLt (Int.ofNat b) (Int.ofNat 12)) true), beqB (true) (beqB (!iLt (Int.ofNat b) (Int.ofNat 12)) true), beqB (true) (beqB (!iLt (Int.ofNat 4) (Int.ofNat a)) true), pB (Pure false 121 [numA N sc (bytesEq Q []), intV 2] (intV b)), pB ([Value.agg { toList := [Value.string { data := { toList := N } }, Value.int IntKind.i64 (Int.ofNat sc), Value.bool (bytesEq Q [])] }, Value.int IntKind.i64 (Int.ofNat 2)] = [numA N sc (bytesEq Q []), intV 2]), beqB (true) (beqB (!iLt (Int.ofNat 4) (Int.ofNat a)) true), beqB (true) (beqB (!iLt (Int.ofNat 4) (Int.ofNat a)) true), beqB (true) !iLt (Int.ofNat a) (Int.ofNat 2), beqB (true) (beqB (!iLt (Int.ofNat a) (Int.ofNat 2)) true), beqB (true) (beqB (!iLt (Int.ofNat a) (Int.ofNat 2)) true), beqB (true) (beqB (!iLt (Int.ofNat a) (Int.ofNat 2)) true), pB (Pure false 121 [numA N sc (bytesEq Q []), intV 1] (intV a)), pB ([Value.agg { toList := [Value.string { data := { toList := N } }, Value.int IntKind.i64 (Int.ofNat sc), Value.bool (bytesEq Q [])] }, Value.int IntKind.i64 (Int.ofNat 1)] = [numA N sc (bytesEq Q []), intV 1]), beqB (false) (iEq (Int.ofNat a) 1), beqB (false) (beqB (iEq (Int.ofNat a) 1) true), beqB (false) (beqB (iEq (Int.ofNat a) 1) true), beqB (false) (beqB (iEq (Int.ofNat a) 1) true), pB (Pure false 121 [numA N sc (bytesEq Q []), intV 1] (intV a)), pB ([Value.agg { toList := [Value.string { data := { toList := N } }, Value.int IntKind.i64 (Int.ofNat sc), Value.bool (bytesEq Q [])] }, Value.int IntKind.i64 (Int.ofNat 1)] = [numA N sc (bytesEq Q []), intV 1]), beqB (false) !iEq (Int.ofNat sc) 0] ++ obC D W P N Q sc) := by kernel_rfl
theorem run_ru_22 : lL (eL W P N Q 31 34 [] [(37, ([numA N sc (bytesEq Q []), intV 1], intV a)), (43, ([numA N sc (bytesEq Q []), intV 1], intV a)), (50, ([numA N sc (bytesEq Q []), intV 2], intV b))]) [114, 117] (decA neg D sc) [1,1,0,1,0,1,0,1,0,0,0,1,1,0,0,0,1,1,0,0,0,1,1,0,0,0,1,1,1,1,1,2,2,1,2,2,0,2,0,0,0,0,0,2,1,1,1,1,1,1,2,1,1,1,1,1,1,1,1] = tL 4 ([beqB (true) !!iLt (Int.ofNat 14) (Int.ofNat b), beqB (true) !iLt (Int.ofNat 4) (Int.ofNat a), beqB (true) (beqB (!iLt (Int.ofNat 4) (Int.ofNat a)) true), beqB (true) !iLt (Int.ofNat b) (Int.ofNat 12), beqB (true) (beqB (!iLt (Int.ofNat b) (Int.ofNat 12)) true), beqB (true) (beqB (!iLt (Int.ofNat b) (Int.ofNat 12)) true), beqB (true) (beqB (!iLt (Int.ofNat b) (Int.ofNat 12)) true), beqB (true) (beqB (!iLt (Int.ofNat 4) (Int.ofNat a)) true), pB (Pure false 121 [numA N sc (bytesEq Q []), intV 2] (intV b)), pB ([Value.agg { toList := [Value.string { data := { toList := N } }, Value.int IntKind.i64 (Int.ofNat sc), Value.bool (bytesEq Q [])] }, Value.int IntKind.i64 (Int.ofNat 2)] = [numA N sc (bytesEq Q []), intV 2]), beqB (true) (beqB (!iLt (Int.ofNat 4) (Int.ofNat a)) true), beqB (true) (beqB (!iLt (Int.ofNat 4) (Int.ofNat a)) true), beqB (true) !iLt (Int.ofNat a) (Int.ofNat 2), beqB (true) (beqB (!iLt (Int.ofNat a) (Int.ofNat 2)) true), beqB (true) (beqB (!iLt (Int.ofNat a) (Int.ofNat 2)) true), beqB (true) (beqB (!iLt (Int.ofNat a) (Int.ofNat 2)) true), pB (Pure false 121 [numA N sc (bytesEq Q []), intV 1] (intV a)), pB ([Value.agg { toList := [Value.string { data := { toList := N } }, Value.int IntKind.i64 (Int.ofNat sc), Value.bool (bytesEq Q [])] }, Value.int IntKind.i64 (Int.ofNat 1)] = [numA N sc (bytesEq Q []), intV 1]), beqB (false) (iEq (Int.ofNat a) 1), beqB (false) (beqB (iEq (Int.ofNat a) 1) true), beqB (false) (beqB (iEq (Int.ofNat a) 1) true), beqB (false) (beqB (iEq (Int.ofNat a) 1) true), pB (Pure false 121 [numA N sc (bytesEq Q []), intV 1] (intV a)), pB ([Value.agg { toList := [Value.string { data := { toList := N } }, Value.int IntKind.i64 (Int.ofNat sc), Value.bool (bytesEq Q [])] }, Value.int IntKind.i64 (Int.ofNat 1)] = [numA N sc (bytesEq Q []), intV 1]), beqB (false) !iEq (Int.ofNat sc) 0] ++ obC D W P N Q sc) := by kernel_rfl
theorem run_cs_1p5 : lL (eL W P N Q 36 39 [] []) [99, 115] (decA neg D sc) [1,1,0,1,0,1,0,1,0,0,0,1,1,0,0,0,1,1,0,0,0,1,1,0,0,0,1,1,0,0,0,1,1,1,1,1,2,2,1,2,2,1] = tL 5 ([beqB (true) !iEq (Int.ofNat sc) 0] ++ obC D W P N Q sc) := by kernel_rfl
theorem run_cs_1 : lL (eL W P N Q 36 39 [(42, ([strV [49], strV [48]], strV [49]))] []) [99, 115] (decA neg D sc) [1,1,0,1,0,1,0,1,0,0,0,1,1,0,0,0,1,1,0,0,0,1,1,0,0,0,1,1,0,0,0,1,1,1,1,1,2,2,1,2,2,0,2,1] = tL 2 ([beqB (true) (bytesEq N [49]), pB (Pure false 84 [strV [49], strV [48]] (strV [49])), pB ([Value.string { data := #[49] }, Value.string { data := #[48] }] = [strV [49], strV [48]]), beqB (false) !iEq (Int.ofNat sc) 0] ++ obC D W P N Q sc) := by kernel_rfl
theorem run_cs_10 : lL (eL W P N Q 36 39 [(42, ([strV [49], strV [48]], strV [49]))] []) [99, 115] (decA neg D sc) [1,1,0,1,0,1,0,1,0,0,0,1,1,0,0,0,1,1,0,0,0,1,1,0,0,0,1,1,0,0,0,1,1,1,1,1,2,2,1,2,2,0,2,0,0,0,0,0,0] = tL 0 ([beqB (false) (iEq (Int.ofNat (len N)) 1), beqB (false) (beqB (iEq (Int.ofNat (len N)) 1) true), beqB (false) (beqB (iEq (Int.ofNat (len N)) 1) true), beqB (false) (beqB (iEq (Int.ofNat (len N)) 1) true), beqB (false) (bytesEq N [49]), pB (Pure false 84 [strV [49], strV [48]] (strV [49])), pB ([Value.string { data := #[49] }, Value.string { data := #[48] }] = [strV [49], strV [48]]), beqB (false) !iEq (Int.ofNat sc) 0] ++ obC D W P N Q sc) := by kernel_rfl
theorem run_cs_2 : lL (eL W P N Q 36 39 [(42, ([strV [49], strV [48]], strV [49]))] [(46, ([numA N sc (bytesEq Q []), intV 1], intV a))]) [99, 115] (decA neg D sc) [1,1,0,1,0,1,0,1,0,0,0,1,1,0,0,0,1,1,0,0,0,1,1,0,0,0,1,1,0,0,0,1,1,1,1,1,2,2,1,2,2,0,2,0,1,1,2,1,1,1,1,1,1,1] = tL 4 ([beqB (true) !iLt (Int.ofNat 4) (Int.ofNat a), beqB (true) (iEq (Int.ofNat (len N)) 1), beqB (true) !iLt (Int.ofNat a) (Int.ofNat 2), beqB (true) (beqB (!iLt (Int.ofNat a) (Int.ofNat 2)) true), beqB (true) (beqB (!iLt (Int.ofNat a) (Int.ofNat 2)) true), beqB (true) (beqB (!iLt (Int.ofNat a) (Int.ofNat 2)) true), beqB (true) (beqB (iEq (Int.ofNat (len N)) 1) true), pB (Pure false 121 [numA N sc (bytesEq Q []), intV 1] (intV a)), pB ([Value.agg { toList := [Value.string { data := { toList := N } }, Value.int IntKind.i64 (Int.ofNat sc), Value.bool (bytesEq Q [])] }, Value.int IntKind.i64 (Int.ofNat 1)] = [numA N sc (bytesEq Q []), intV 1]), beqB (true) (beqB (iEq (Int.ofNat (len N)) 1) true), beqB (true) (beqB (iEq (Int.ofNat (len N)) 1) true), beqB (false) (bytesEq N [49]), pB (Pure false 84 [strV [49], strV [48]] (strV [49])), pB ([Value.string { data := #[49] }, Value.string { data := #[48] }] = [strV [49], strV [48]]), beqB (false) !iEq (Int.ofNat sc) 0] ++ obC D W P N Q sc) := by kernel_rfl
theorem run_cs_5 : lL (eL W P N Q 36 39 [(42, ([strV [49], strV [48]], strV [49]))] [(46, ([numA N sc (bytesEq Q []), intV 1], intV a))]) [99, 115] (decA neg D sc) [1,1,0,1,0,1,0,1,0,0,0,1,1,0,0,0,1,1,0,0,0,1,1,0,0,0,1,1,0,0,0,1,1,1,1,1,2,2,1,2,2,0,2,0,1,1,2,1,1,1,1,1,1,0] = tL 0 ([beqB (false) !iLt (Int.ofNat 4) (Int.ofNat a), beqB (true) (iEq (Int.ofNat (len N)) 1), beqB (true) !iLt (Int.ofNat a) (Int.ofNat 2), beqB (true) (beqB (!iLt (Int.ofNat a) (Int.ofNat 2)) true), beqB (true) (beqB (!iLt (Int.ofNat a) (Int.ofNat 2)) true), beqB (true) (beqB (!iLt (Int.ofNat a) (Int.ofNat 2)) true), beqB (true) (beqB (iEq (Int.ofNat (len N)) 1) true), pB (Pure false 121 [numA N sc (bytesEq Q []), intV 1] (intV a)), pB ([Value.agg { toList := [Value.string { data := { toList := N } }, Value.int IntKind.i64 (Int.ofNat sc), Value.bool (bytesEq Q [])] }, Value.int IntKind.i64 (Int.ofNat 1)] = [numA N sc (bytesEq Q []), intV 1]), beqB (true) (beqB (iEq (Int.ofNat (len N)) 1) true), beqB (true) (beqB (iEq (Int.ofNat (len N)) 1) true), beqB (false) (bytesEq N [49]), pB (Pure false 84 [strV [49], strV [48]] (strV [49])), pB ([Value.string { data := #[49] }, Value.string { data := #[48] }] = [strV [49], strV [48]]), beqB (false) !iEq (Int.ofNat sc) 0] ++ obC D W P N Q sc) := by kernel_rfl
theorem run_ar_1p5 : lL (eL W P N Q 41 44 [] []) [97, 114] (decA neg D sc) [1,1,0,1,0,1,0,1,0,0,0,1,1,0,0,0,1,1,0,0,0,1,1,0,0,0,1,1,0,0,0,1,1,0,0,0,1,1,1,1,1,2,2,1,2,2,1] = tL 0 ([beqB (true) !bytesEq Q []] ++ obC D W P N Q sc) := by kernel_rfl
theorem run_ar_0 : lL (eL W P N Q 41 44 [(47, ([strV [48], strV [48]], strV []))] []) [97, 114] (decA neg D sc) [1,1,0,1,0,1,0,1,0,0,0,1,1,0,0,0,1,1,0,0,0,1,1,0,0,0,1,1,0,0,0,1,1,0,0,0,1,1,1,1,1,2,2,1,2,2,0,2,1] = tL 1 ([beqB (true) (bytesEq N []), pB (Pure false 84 [strV [48], strV [48]] (strV [])), pB ([Value.string { data := #[48] }, Value.string { data := #[48] }] = [strV [48], strV [48]]), beqB (false) !bytesEq Q []] ++ obC D W P N Q sc) := by kernel_rfl
theorem run_ar_1 : lL (eL W P N Q 41 44 [(47, ([strV [48], strV [48]], strV [])), (49, ([strV [49], strV [48]], strV [49]))] []) [97, 114] (decA neg D sc) [1,1,0,1,0,1,0,1,0,0,0,1,1,0,0,0,1,1,0,0,0,1,1,0,0,0,1,1,0,0,0,1,1,0,0,0,1,1,1,1,1,2,2,1,2,2,0,2,0,2,1] = tL 2 ([beqB (true) (bytesEq N [49]), pB (Pure false 84 [strV [49], strV [48]] (strV [49])), pB ([Value.string { data := #[49] }, Value.string { data := #[48] }] = [strV [49], strV [48]]), beqB (false) (bytesEq N []), pB (Pure false 84 [strV [48], strV [48]] (strV [])), pB ([Value.string { data := #[48] }, Value.string { data := #[48] }] = [strV [48], strV [48]]), beqB (false) !bytesEq Q []] ++ obC D W P N Q sc) := by kernel_rfl
theorem run_ar_2 : lL (eL W P N Q 41 44 [(47, ([strV [48], strV [48]], strV [])), (49, ([strV [49], strV [48]], strV [49])), (51, ([strV [50], strV [48]], strV [50]))] []) [97, 114] (decA neg D sc) [1,1,0,1,0,1,0,1,0,0,0,1,1,0,0,0,1,1,0,0,0,1,1,0,0,0,1,1,0,0,0,1,1,0,0,0,1,1,1,1,1,2,2,1,2,2,0,2,0,2,0,2,1] = tL 3 ([beqB (true) (bytesEq N [50]), pB (Pure false 84 [strV [50], strV [48]] (strV [50])), pB ([Value.string { data := #[50] }, Value.string { data := #[48] }] = [strV [50], strV [48]]), beqB (false) (bytesEq N [49]), pB (Pure false 84 [strV [49], strV [48]] (strV [49])), pB ([Value.string { data := #[49] }, Value.string { data := #[48] }] = [strV [49], strV [48]]), beqB (false) (bytesEq N []), pB (Pure false 84 [strV [48], strV [48]] (strV [])), pB ([Value.string { data := #[48] }, Value.string { data := #[48] }] = [strV [48], strV [48]]), beqB (false) !bytesEq Q []] ++ obC D W P N Q sc) := by kernel_rfl
theorem run_ar_101 : lL (eL W P N Q 41 44 [(47, ([strV [48], strV [48]], strV [])), (49, ([strV [49], strV [48]], strV [49])), (51, ([strV [50], strV [48]], strV [50]))] [(53, ([numA N sc (bytesEq Q []), intV 2], intV b)), (59, ([numA N sc (bytesEq Q []), intV 2], intV b))]) [97, 114] (decA neg D sc) [1,1,0,1,0,1,0,1,0,0,0,1,1,0,0,0,1,1,0,0,0,1,1,0,0,0,1,1,0,0,0,1,1,0,0,0,1,1,1,1,1,2,2,1,2,2,0,2,0,2,0,2,0,2,0,0,0,0,0,2,0,0,0,0,0] = tL 0 ([beqB (false) !iLt (Int.ofNat b) (Int.ofNat 11), beqB (false) (beqB (!iLt (Int.ofNat b) (Int.ofNat 11)) true), beqB (false) (beqB (!iLt (Int.ofNat b) (Int.ofNat 11)) true), beqB (false) (beqB (!iLt (Int.ofNat b) (Int.ofNat 11)) true), pB (Pure false 121 [numA N sc (bytesEq Q []), intV 2] (intV b)), pB ([Value.agg { toList := [Value.string { data := { toList := N } }, Value.int IntKind.i64 (Int.ofNat sc), Value.bool (bytesEq Q [])] }, Value.int IntKind.i64 (Int.ofNat 2)] = [numA N sc (bytesEq Q []), intV 2]), beqB (false) !iLt (Int.ofNat b) (Int.ofNat 3), beqB (false) (beqB (!iLt (Int.ofNat b) (Int.ofNat 3)) true), beqB (false) (beqB (!iLt (Int.ofNat b) (Int.ofNat 3)) true), beqB (false) (beqB (!iLt (Int.ofNat b) (Int.ofNat 3)) true), pB (Pure false 121 [numA N sc (bytesEq Q []), intV 2] (intV b)), pB ([Value.agg { toList := [Value.string { data := { toList := N } }, Value.int IntKind.i64 (Int.ofNat sc), Value.bool (bytesEq Q [])] }, Value.int IntKind.i64 (Int.ofNat 2)] = [numA N sc (bytesEq Q []), intV 2]), beqB (false) (bytesEq N [50]), pB (Pure false 84 [strV [50], strV [48]] (strV [50])), pB ([Value.string { data := #[50] }, Value.string { data := #[48] }] = [strV [50], strV [48]]), beqB (false) (bytesEq N [49]), pB (Pure false 84 [strV [49], strV [48]] (strV [49])), pB ([Value.string { data := #[49] }, Value.string { data := #[48] }] = [strV [49], strV [48]]), beqB (false) (bytesEq N []), pB (Pure false 84 [strV [48], strV [48]] (strV [])), pB ([Value.string { data := #[48] }, Value.string { data := #[48] }] = [strV [48], strV [48]]), beqB (false) !bytesEq Q []] ++ obC D W P N Q sc) := by kernel_rfl
theorem run_ar_3 : lL (eL W P N Q 41 44 [(47, ([strV [48], strV [48]], strV [])), (49, ([strV [49], strV [48]], strV [49])), (51, ([strV [50], strV [48]], strV [50]))] [(53, ([numA N sc (bytesEq Q []), intV 2], intV b))]) [97, 114] (decA neg D sc) [1,1,0,1,0,1,0,1,0,0,0,1,1,0,0,0,1,1,0,0,0,1,1,0,0,0,1,1,0,0,0,1,1,0,0,0,1,1,1,1,1,2,2,1,2,2,0,2,0,2,0,2,0,2,1,1,1,1,1] = tL 4 ([beqB (true) !iLt (Int.ofNat 10) (Int.ofNat b), beqB (true) !iLt (Int.ofNat b) (Int.ofNat 3), beqB (true) (beqB (!iLt (Int.ofNat b) (Int.ofNat 3)) true), beqB (true) (beqB (!iLt (Int.ofNat b) (Int.ofNat 3)) true), beqB (true) (beqB (!iLt (Int.ofNat b) (Int.ofNat 3)) true), pB (Pure false 121 [numA N sc (bytesEq Q []), intV 2] (intV b)), pB ([Value.agg { toList := [Value.string { data := { toList := N } }, Value.int IntKind.i64 (Int.ofNat sc), Value.bool (bytesEq Q [])] }, Value.int IntKind.i64 (Int.ofNat 2)] = [numA N sc (bytesEq Q []), intV 2]), beqB (false) (bytesEq N [50]), pB (Pure false 84 [strV [50], strV [48]] (strV [50])), pB ([Value.string { data := #[50] }, Value.string { data := #[48] }] = [strV [50], strV [48]]), beqB (false) (bytesEq N [49]), pB (Pure false 84 [strV [49], strV [48]] (strV [49])), pB ([Value.string { data := #[49] }, Value.string { data := #[48] }] = [strV [49], strV [48]]), beqB (false) (bytesEq N []), pB (Pure false 84 [strV [48], strV [48]] (strV [])), pB ([Value.string { data := #[48] }, Value.string { data := #[48] }] = [strV [48], strV [48]]), beqB (false) !bytesEq Q []] ++ obC D W P N Q sc) := by kernel_rfl
theorem run_ar_11 : lL (eL W P N Q 41 44 [(47, ([strV [48], strV [48]], strV [])), (49, ([strV [49], strV [48]], strV [49])), (51, ([strV [50], strV [48]], strV [50]))] [(53, ([numA N sc (bytesEq Q []), intV 2], intV b)), (59, ([numA N sc (bytesEq Q []), intV 2], intV b))]) [97, 114] (decA neg D sc) [1,1,0,1,0,1,0,1,0,0,0,1,1,0,0,0,1,1,0,0,0,1,1,0,0,0,1,1,0,0,0,1,1,0,0,0,1,1,1,1,1,2,2,1,2,2,0,2,0,2,0,2,0,2,1,1,1,1,0,2,1,1,1,1,1] = tL 5 ([beqB (true) !iLt (Int.ofNat 99) (Int.ofNat b), beqB (true) !iLt (Int.ofNat b) (Int.ofNat 11), beqB (true) (beqB (!iLt (Int.ofNat b) (Int.ofNat 11)) true), beqB (true) (beqB (!iLt (Int.ofNat b) (Int.ofNat 11)) true), beqB (true) (beqB (!iLt (Int.ofNat b) (Int.ofNat 11)) true), pB (Pure false 121 [numA N sc (bytesEq Q []), intV 2] (intV b)), pB ([Value.agg { toList := [Value.string { data := { toList := N } }, Value.int IntKind.i64 (Int.ofNat sc), Value.bool (bytesEq Q [])] }, Value.int IntKind.i64 (Int.ofNat 2)] = [numA N sc (bytesEq Q []), intV 2]), beqB (false) !iLt (Int.ofNat 10) (Int.ofNat b), beqB (true) !iLt (Int.ofNat b) (Int.ofNat 3), beqB (true) (beqB (!iLt (Int.ofNat b) (Int.ofNat 3)) true), beqB (true) (beqB (!iLt (Int.ofNat b) (Int.ofNat 3)) true), beqB (true) (beqB (!iLt (Int.ofNat b) (Int.ofNat 3)) true), pB (Pure false 121 [numA N sc (bytesEq Q []), intV 2] (intV b)), pB ([Value.agg { toList := [Value.string { data := { toList := N } }, Value.int IntKind.i64 (Int.ofNat sc), Value.bool (bytesEq Q [])] }, Value.int IntKind.i64 (Int.ofNat 2)] = [numA N sc (bytesEq Q []), intV 2]), beqB (false) (bytesEq N [50]), pB (Pure false 84 [strV [50], strV [48]] (strV [50])), pB ([Value.string { data := #[50] }, Value.string { data := #[48] }] = [strV [50], strV [48]]), beqB (false) (bytesEq N [49]), pB (Pure false 84 [strV [49], strV [48]] (strV [49])), pB ([Value.string { data := #[49] }, Value.string { data := #[48] }] = [strV [49], strV [48]]), beqB (false) (bytesEq N []), pB (Pure false 84 [strV [48], strV [48]] (strV [])), pB ([Value.string { data := #[48] }, Value.string { data := #[48] }] = [strV [48], strV [48]]), beqB (false) !bytesEq Q []] ++ obC D W P N Q sc) := by kernel_rfl
theorem run_de_1p5 : lL (eL W P N Q 7 10 [] []) [100, 101] (decA neg D sc) [1,1,0,1,1,1,1,2,2,1,2,2,0,0,0,0] = tL 0 ([beqB (false) (iEq (Int.ofNat sc) 0), beqB (false) (beqB (iEq (Int.ofNat sc) 0) true), beqB (false) (beqB (iEq (Int.ofNat sc) 0) true)] ++ obC D W P N Q sc) := by kernel_rfl
theorem run_de_1 : lL (eL W P N Q 7 10 [(14, ([strV [49], strV [48]], strV [49]))] []) [100, 101] (decA neg D sc) [1,1,0,1,1,1,1,2,2,1,2,2,1,1,2,1,1] = tL 2 ([beqB (true) (bytesEq N [49]), beqB (true) (iEq (Int.ofNat sc) 0), pB (Pure false 84 [strV [49], strV [48]] (strV [49])), pB ([Value.string { data := #[49] }, Value.string { data := #[48] }] = [strV [49], strV [48]]), beqB (true) (beqB (iEq (Int.ofNat sc) 0) true), beqB (true) (beqB (iEq (Int.ofNat sc) 0) true)] ++ obC D W P N Q sc) := by kernel_rfl
theorem run_de_2 : lL (eL W P N Q 7 10 [(14, ([strV [49], strV [48]], strV [49]))] []) [100, 101] (decA neg D sc) [1,1,0,1,1,1,1,2,2,1,2,2,1,1,2,1,0] = tL 0 ([beqB (false) (bytesEq N [49]), beqB (true) (iEq (Int.ofNat sc) 0), pB (Pure false 84 [strV [49], strV [48]] (strV [49])), pB ([Value.string { data := #[49] }, Value.string { data := #[48] }] = [strV [49], strV [48]]), beqB (true) (beqB (iEq (Int.ofNat sc) 0) true), beqB (true) (beqB (iEq (Int.ofNat sc) 0) true)] ++ obC D W P N Q sc) := by kernel_rfl
theorem run_nl_1p5 : lL (eL W P N Q 9 12 [] []) [110, 108] (decA neg D sc) [1,1,0,1,0,1,1,1,1,2,2,1,2,2,0,0,0,0] = tL 0 ([beqB (false) (iEq (Int.ofNat sc) 0), beqB (false) (beqB (iEq (Int.ofNat sc) 0) true), beqB (false) (beqB (iEq (Int.ofNat sc) 0) true)] ++ obC D W P N Q sc) := by kernel_rfl
theorem run_nl_1 : lL (eL W P N Q 9 12 [(16, ([strV [49], strV [48]], strV [49]))] []) [110, 108] (decA neg D sc) [1,1,0,1,0,1,1,1,1,2,2,1,2,2,1,1,2,1,1] = tL 2 ([beqB (true) (bytesEq N [49]), beqB (true) (iEq (Int.ofNat sc) 0), pB (Pure false 84 [strV [49], strV [48]] (strV [49])), pB ([Value.string { data := #[49] }, Value.string { data := #[48] }] = [strV [49], strV [48]]), beqB (true) (beqB (iEq (Int.ofNat sc) 0) true), beqB (true) (beqB (iEq (Int.ofNat sc) 0) true)] ++ obC D W P N Q sc) := by kernel_rfl
theorem run_nl_2 : lL (eL W P N Q 9 12 [(16, ([strV [49], strV [48]], strV [49]))] []) [110, 108] (decA neg D sc) [1,1,0,1,0,1,1,1,1,2,2,1,2,2,1,1,2,1,0] = tL 0 ([beqB (false) (bytesEq N [49]), beqB (true) (iEq (Int.ofNat sc) 0), pB (Pure false 84 [strV [49], strV [48]] (strV [49])), pB ([Value.string { data := #[49] }, Value.string { data := #[48] }] = [strV [49], strV [48]]), beqB (true) (beqB (iEq (Int.ofNat sc) 0) true), beqB (true) (beqB (iEq (Int.ofNat sc) 0) true)] ++ obC D W P N Q sc) := by kernel_rfl
theorem run_sv_1p5 : lL (eL W P N Q 11 14 [] []) [115, 118] (decA neg D sc) [1,1,0,1,0,1,0,1,1,1,1,2,2,1,2,2,0,0,0,0] = tL 0 ([beqB (false) (iEq (Int.ofNat sc) 0), beqB (false) (beqB (iEq (Int.ofNat sc) 0) true), beqB (false) (beqB (iEq (Int.ofNat sc) 0) true)] ++ obC D W P N Q sc) := by kernel_rfl
theorem run_sv_1 : lL (eL W P N Q 11 14 [(18, ([strV [49], strV [48]], strV [49]))] []) [115, 118] (decA neg D sc) [1,1,0,1,0,1,0,1,1,1,1,2,2,1,2,2,1,1,2,1,1] = tL 2 ([beqB (true) (bytesEq N [49]), beqB (true) (iEq (Int.ofNat sc) 0), pB (Pure false 84 [strV [49], strV [48]] (strV [49])), pB ([Value.string { data := #[49] }, Value.string { data := #[48] }] = [strV [49], strV [48]]), beqB (true) (beqB (iEq (Int.ofNat sc) 0) true), beqB (true) (beqB (iEq (Int.ofNat sc) 0) true)] ++ obC D W P N Q sc) := by kernel_rfl
theorem run_sv_2 : lL (eL W P N Q 11 14 [(18, ([strV [49], strV [48]], strV [49]))] []) [115, 118] (decA neg D sc) [1,1,0,1,0,1,0,1,1,1,1,2,2,1,2,2,1,1,2,1,0] = tL 0 ([beqB (false) (bytesEq N [49]), beqB (true) (iEq (Int.ofNat sc) 0), pB (Pure false 84 [strV [49], strV [48]] (strV [49])), pB ([Value.string { data := #[49] }, Value.string { data := #[48] }] = [strV [49], strV [48]]), beqB (true) (beqB (iEq (Int.ofNat sc) 0) true), beqB (true) (beqB (iEq (Int.ofNat sc) 0) true)] ++ obC D W P N Q sc) := by kernel_rfl
end
section
variable {g D W P N Q : List UInt8} {neg : Bool} {sc a b : Nat}
theorem of_en_1p5 (o : OF D W P N Q sc a b) (s0 : sc ≠ 0) : Pure true 21 [strV [101, 110], decA neg D sc] (intV 0) := by
  obtain ⟨l0, l1, hW, hP, p84, p85, p1, p2⟩ := o
  refine of_lL (run_en_1p5 D W P N Q neg sc) ⟨l0, l1, hW, hP, p84, p85, p1, p2⟩ fun x hx => ?_
  simp only [List.mem_cons, List.not_mem_nil, or_false] at hx
  rcases hx with hx | hx | hx
  all_goals (subst hx; first | assumption | exact pB_of (by first | assumption | rfl | exact t49 | exact t48 | exact t50 | trivial) | (simp_all [ble_eq, blt_eq, iLt_eq, iEq_eq, beqB_eq, bytesEq_eq, bq, len_eq] <;> omega))
theorem of_en_1 (o : OF D W P N Q sc a b) (s0 : sc = 0)(n1 : N = [49]) : Pure true 21 [strV [101, 110], decA neg D sc] (intV 2) := by
  obtain ⟨l0, l1, hW, hP, p84, p85, p1, p2⟩ := o
  refine of_lL (run_en_1 D W P N Q neg sc) ⟨l0, l1, hW, hP, p84, p85, p1, p2⟩ fun x hx => ?_
  simp only [List.mem_cons, List.not_mem_nil, or_false] at hx
  rcases hx with hx | hx | hx | hx | hx | hx
  all_goals (subst hx; first | assumption | exact pB_of (by first | assumption | rfl | exact t49 | exact t48 | exact t50 | trivial) | (simp_all [ble_eq, blt_eq, iLt_eq, iEq_eq, beqB_eq, bytesEq_eq, bq, len_eq] <;> omega))
theorem of_en_2 (o : OF D W P N Q sc a b) (s0 : sc = 0)(n1 : N ≠ [49]) : Pure true 21 [strV [101, 110], decA neg D sc] (intV 0) := by
  obtain ⟨l0, l1, hW, hP, p84, p85, p1, p2⟩ := o
  refine of_lL (run_en_2 D W P N Q neg sc) ⟨l0, l1, hW, hP, p84, p85, p1, p2⟩ fun x hx => ?_
  simp only [List.mem_cons, List.not_mem_nil, or_false] at hx
  rcases hx with hx | hx | hx | hx | hx | hx
  all_goals (subst hx; first | assumption | exact pB_of (by first | assumption | rfl | exact t49 | exact t48 | exact t50 | trivial) | (simp_all [ble_eq, blt_eq, iLt_eq, iEq_eq, beqB_eq, bytesEq_eq, bq, len_eq] <;> omega))
theorem of_fr_0 (o : OF D W P N Q sc a b) (n0 : N = []) : Pure true 21 [strV [102, 114], decA neg D sc] (intV 2) := by
  obtain ⟨l0, l1, hW, hP, p84, p85, p1, p2⟩ := o
  refine of_lL (run_fr_0 D W P N Q neg sc) ⟨l0, l1, hW, hP, p84, p85, p1, p2⟩ fun x hx => ?_
  simp only [List.mem_cons, List.not_mem_nil, or_false] at hx
  rcases hx with hx | hx | hx | hx | hx
  all_goals (subst hx; first | assumption | exact pB_of (by first | assumption | rfl | exact t49 | exact t48 | exact t50 | trivial) | (simp_all [ble_eq, blt_eq, iLt_eq, iEq_eq, beqB_eq, bytesEq_eq, bq, len_eq] <;> omega))
theorem of_fr_1 (o : OF D W P N Q sc a b) (n1 : N = [49]) : Pure true 21 [strV [102, 114], decA neg D sc] (intV 2) := by
  obtain ⟨l0, l1, hW, hP, p84, p85, p1, p2⟩ := o
  refine of_lL (run_fr_1 D W P N Q neg sc) ⟨l0, l1, hW, hP, p84, p85, p1, p2⟩ fun x hx => ?_
  simp only [List.mem_cons, List.not_mem_nil, or_false] at hx
  rcases hx with hx | hx | hx | hx | hx | hx | hx | hx
  all_goals (subst hx; first | assumption | exact pB_of (by first | assumption | rfl | exact t49 | exact t48 | exact t50 | trivial) | (simp_all [ble_eq, blt_eq, iLt_eq, iEq_eq, beqB_eq, bytesEq_eq, bq, len_eq] <;> omega))
theorem of_fr_2 (o : OF D W P N Q sc a b) (n0 : N ≠ [])(n1 : N ≠ [49]) : Pure true 21 [strV [102, 114], decA neg D sc] (intV 0) := by
  obtain ⟨l0, l1, hW, hP, p84, p85, p1, p2⟩ := o
  refine of_lL (run_fr_2 D W P N Q neg sc) ⟨l0, l1, hW, hP, p84, p85, p1, p2⟩ fun x hx => ?_
  simp only [List.mem_cons, List.not_mem_nil, or_false] at hx
  rcases hx with hx | hx | hx | hx | hx | hx | hx | hx
  all_goals (subst hx; first | assumption | exact pB_of (by first | assumption | rfl | exact t49 | exact t48 | exact t50 | trivial) | (simp_all [ble_eq, blt_eq, iLt_eq, iEq_eq, beqB_eq, bytesEq_eq, bq, len_eq] <;> omega))
theorem of_es_1p5 (o : OF D W P N Q sc a b) (q0 : Q ≠ []) : Pure true 21 [strV [101, 115], decA neg D sc] (intV 0) := by
  obtain ⟨l0, l1, hW, hP, p84, p85, p1, p2⟩ := o
  refine of_lL (run_es_1p5 D W P N Q neg sc) ⟨l0, l1, hW, hP, p84, p85, p1, p2⟩ fun x hx => ?_
  simp only [List.mem_cons, List.not_mem_nil, or_false] at hx
  rcases hx with hx | hx | hx
  all_goals (subst hx; first | assumption | exact pB_of (by first | assumption | rfl | exact t49 | exact t48 | exact t50 | trivial) | (simp_all [ble_eq, blt_eq, iLt_eq, iEq_eq, beqB_eq, bytesEq_eq, bq, len_eq] <;> omega))
theorem of_es_1 (o : OF D W P N Q sc a b) (q0 : Q = [])(n1 : N = [49]) : Pure true 21 [strV [101, 115], decA neg D sc] (intV 2) := by
  obtain ⟨l0, l1, hW, hP, p84, p85, p1, p2⟩ := o
  refine of_lL (run_es_1 D W P N Q neg sc) ⟨l0, l1, hW, hP, p84, p85, p1, p2⟩ fun x hx => ?_
  simp only [List.mem_cons, List.not_mem_nil, or_false] at hx
  rcases hx with hx | hx | hx | hx | hx | hx
  all_goals (subst hx; first | assumption | exact pB_of (by first | assumption | rfl | exact t49 | exact t48 | exact t50 | trivial) | (simp_all [ble_eq, blt_eq, iLt_eq, iEq_eq, beqB_eq, bytesEq_eq, bq, len_eq] <;> omega))
theorem of_es_2 (o : OF D W P N Q sc a b) (q0 : Q = [])(n1 : N ≠ [49]) : Pure true 21 [strV [101, 115], decA neg D sc] (intV 0) := by
  obtain ⟨l0, l1, hW, hP, p84, p85, p1, p2⟩ := o
  refine of_lL (run_es_2 D W P N Q neg sc) ⟨l0, l1, hW, hP, p84, p85, p1, p2⟩ fun x hx => ?_
  simp only [List.mem_cons, List.not_mem_nil, or_false] at hx
  rcases hx with hx | hx | hx | hx | hx | hx
  all_goals (subst hx; first | assumption | exact pB_of (by first | assumption | rfl | exact t49 | exact t48 | exact t50 | trivial) | (simp_all [ble_eq, blt_eq, iLt_eq, iEq_eq, beqB_eq, bytesEq_eq, bq, len_eq] <;> omega))
theorem of_pl_1p5 (o : OF D W P N Q sc a b) (s0 : sc ≠ 0) : Pure true 21 [strV [112, 108], decA neg D sc] (intV 0) := by
  obtain ⟨l0, l1, hW, hP, p84, p85, p1, p2⟩ := o
  refine of_lL (run_pl_1p5 D W P N Q neg sc) ⟨l0, l1, hW, hP, p84, p85, p1, p2⟩ fun x hx => ?_
  simp only [List.mem_cons, List.not_mem_nil, or_false] at hx
  all_goals (subst hx; first | assumption | exact pB_of (by first | assumption | rfl | exact t49 | exact t48 | exact t50 | trivial) | (simp_all [ble_eq, blt_eq, iLt_eq, iEq_eq, beqB_eq, bytesEq_eq, bq, len_eq] <;> omega))
theorem of_pl_1 (o : OF D W P N Q sc a b) (s0 : sc = 0)(n1 : N = [49]) : Pure true 21 [strV [112, 108], decA neg D sc] (intV 2) := by
  obtain ⟨l0, l1, hW, hP, p84, p85, p1, p2⟩ := o
  refine of_lL (run_pl_1 D W P N Q neg sc) ⟨l0, l1, hW, hP, p84, p85, p1, p2⟩ fun x hx => ?_
  simp only [List.mem_cons, List.not_mem_nil, or_false] at hx
  rcases hx with hx | hx | hx | hx
  all_goals (subst hx; first | assumption | exact pB_of (by first | assumption | rfl | exact t49 | exact t48 | exact t50 | trivial) | (simp_all [ble_eq, blt_eq, iLt_eq, iEq_eq, beqB_eq, bytesEq_eq, bq, len_eq] <;> omega))
theorem of_pl_10 (o : OF D W P N Q sc a b) (s0 : sc = 0)(n1 : N ≠ [49])(a0 : a < 2) : Pure true 21 [strV [112, 108], decA neg D sc] (intV 5) := by
  obtain ⟨l0, l1, hW, hP, p84, p85, p1, p2⟩ := o
  refine of_lL (run_pl_10 D W P N Q neg sc a) ⟨l0, l1, hW, hP, p84, p85, p1, p2⟩ fun x hx => ?_
  simp only [List.mem_cons, List.not_mem_nil, or_false] at hx
  rcases hx with hx | hx | hx | hx | hx | hx | hx | hx | hx | hx
  all_goals (subst hx; first | assumption | exact pB_of (by first | assumption | rfl | exact t49 | exact t48 | exact t50 | trivial) | (simp_all [ble_eq, blt_eq, iLt_eq, iEq_eq, beqB_eq, bytesEq_eq, bq, len_eq] <;> omega))
theorem of_pl_5 (o : OF D W P N Q sc a b) (s0 : sc = 0)(n1 : N ≠ [49])(a0 : 4 < a) : Pure true 21 [strV [112, 108], decA neg D sc] (intV 5) := by
  obtain ⟨l0, l1, hW, hP, p84, p85, p1, p2⟩ := o
  refine of_lL (run_pl_5 D W P N Q neg sc a) ⟨l0, l1, hW, hP, p84, p85, p1, p2⟩ fun x hx => ?_
  simp only [List.mem_cons, List.not_mem_nil, or_false] at hx
  rcases hx with hx | hx | hx | hx | hx | hx | hx | hx | hx | hx | hx | hx | hx | hx | hx
  all_goals (subst hx; first | assumption | exact pB_of (by first | assumption | rfl | exact t49 | exact t48 | exact t50 | trivial) | (simp_all [ble_eq, blt_eq, iLt_eq, iEq_eq, beqB_eq, bytesEq_eq, bq, len_eq] <;> omega))
theorem of_pl_2 (o : OF D W P N Q sc a b) (s0 : sc = 0)(n1 : N ≠ [49])(a0 : 2 ≤ a) (a1 : a ≤ 4)(b0 : b < 12) : Pure true 21 [strV [112, 108], decA neg D sc] (intV 4) := by
  obtain ⟨l0, l1, hW, hP, p84, p85, p1, p2⟩ := o
  refine of_lL (run_pl_2 D W P N Q neg sc a b) ⟨l0, l1, hW, hP, p84, p85, p1, p2⟩ fun x hx => ?_
  simp only [List.mem_cons, List.not_mem_nil, or_false] at hx
  rcases hx with hx | hx | hx | hx | hx | hx | hx | hx | hx | hx | hx | hx | hx | hx | hx | hx | hx | hx | hx | hx | hx
  all_goals (subst hx; first | assumption | exact pB_of (by first | assumption | rfl | exact t49 | exact t48 | exact t50 | trivial) | (simp_all [ble_eq, blt_eq, iLt_eq, iEq_eq, beqB_eq, bytesEq_eq, bq, len_eq] <;> omega))
theorem of_pl_12 (o : OF D W P N Q sc a b) (s0 : sc = 0)(n1 : N ≠ [49])(a0 : 2 ≤ a) (a1 : a ≤ 4)(b0 : 12 ≤ b) (b1 : b ≤ 14) : Pure true 21 [strV [112, 108], decA neg D sc] (intV 5) := by
  obtain ⟨l0, l1, hW, hP, p84, p85, p1, p2⟩ := o
  refine of_lL (run_pl_12 D W P N Q neg sc a b) ⟨l0, l1, hW, hP, p84, p85, p1, p2⟩ fun x hx => ?_
  simp only [List.mem_cons, List.not_mem_nil, or_false] at hx
  rcases hx with hx | hx | hx | hx | hx | hx | hx | hx | hx | hx | hx | hx | hx | hx | hx | hx | hx | hx | hx | hx | hx | hx
  all_goals (subst hx; first | assumption | exact pB_of (by first | assumption | rfl | exact t49 | exact t48 | exact t50 | trivial) | (simp_all [ble_eq, blt_eq, iLt_eq, iEq_eq, beqB_eq, bytesEq_eq, bq, len_eq] <;> omega))
theorem of_pl_22 (o : OF D W P N Q sc a b) (s0 : sc = 0)(n1 : N ≠ [49])(a0 : 2 ≤ a) (a1 : a ≤ 4)(b0 : 14 < b) : Pure true 21 [strV [112, 108], decA neg D sc] (intV 4) := by
  obtain ⟨l0, l1, hW, hP, p84, p85, p1, p2⟩ := o
  refine of_lL (run_pl_22 D W P N Q neg sc a b) ⟨l0, l1, hW, hP, p84, p85, p1, p2⟩ fun x hx => ?_
  simp only [List.mem_cons, List.not_mem_nil, or_false] at hx
  rcases hx with hx | hx | hx | hx | hx | hx | hx | hx | hx | hx | hx | hx | hx | hx | hx | hx | hx | hx | hx | hx | hx | hx
  all_goals (subst hx; first | assumption | exact pB_of (by first | assumption | rfl | exact t49 | exact t48 | exact t50 | trivial) | (simp_all [ble_eq, blt_eq, iLt_eq, iEq_eq, beqB_eq, bytesEq_eq, bq, len_eq] <;> omega))
theorem of_ru_1p5 (o : OF D W P N Q sc a b) (s0 : sc ≠ 0) : Pure true 21 [strV [114, 117], decA neg D sc] (intV 0) := by
  obtain ⟨l0, l1, hW, hP, p84, p85, p1, p2⟩ := o
  refine of_lL (run_ru_1p5 D W P N Q neg sc) ⟨l0, l1, hW, hP, p84, p85, p1, p2⟩ fun x hx => ?_
  simp only [List.mem_cons, List.not_mem_nil, or_false] at hx
  all_goals (subst hx; first | assumption | exact pB_of (by first | assumption | rfl | exact t49 | exact t48 | exact t50 | trivial) | (simp_all [ble_eq, blt_eq, iLt_eq, iEq_eq, beqB_eq, bytesEq_eq, bq, len_eq] <;> omega))
theorem of_ru_1 (o : OF D W P N Q sc a b) (s0 : sc = 0)(a0 : a = 1) (b0 : b ≠ 11) : Pure true 21 [strV [114, 117], decA neg D sc] (intV 2) := by
  obtain ⟨l0, l1, hW, hP, p84, p85, p1, p2⟩ := o
  refine of_lL (run_ru_1 D W P N Q neg sc a b) ⟨l0, l1, hW, hP, p84, p85, p1, p2⟩ fun x hx => ?_
  simp only [List.mem_cons, List.not_mem_nil, or_false] at hx
  rcases hx with hx | hx | hx | hx | hx | hx | hx | hx | hx | hx
  all_goals (subst hx; first | assumption | exact pB_of (by first | assumption | rfl | exact t49 | exact t48 | exact t50 | trivial) | (simp_all [ble_eq, blt_eq, iLt_eq, iEq_eq, beqB_eq, bytesEq_eq, bq, len_eq] <;> omega))
theorem of_ru_11 (o : OF D W P N Q sc a b) (s0 : sc = 0)(a0 : a = 1) (b0 : b = 11) : Pure true 21 [strV [114, 117], decA neg D sc] (intV 5) := by
  obtain ⟨l0, l1, hW, hP, p84, p85, p1, p2⟩ := o
  refine of_lL (run_ru_11 D W P N Q neg sc a b) ⟨l0, l1, hW, hP, p84, p85, p1, p2⟩ fun x hx => ?_
  simp only [List.mem_cons, List.not_mem_nil, or_false] at hx
  rcases hx with hx | hx | hx | hx | hx | hx | hx | hx | hx | hx | hx | hx | hx | hx | hx | hx
  all_goals (subst hx; first | assumption | exact pB_of (by first | assumption | rfl | exact t49 | exact t48 | exact t50 | trivial) | (simp_all [ble_eq, blt_eq, iLt_eq, iEq_eq, beqB_eq, bytesEq_eq, bq, len_eq] <;> omega))
theorem of_ru_0 (o : OF D W P N Q sc a b) (s0 : sc = 0)(a2 : a ≠ 1)(a0 : a < 2) : Pure true 21 [strV [114, 117], decA neg D sc] (intV 5) := by
  obtain ⟨l0, l1, hW, hP, p84, p85, p1, p2⟩ := o
  refine of_lL (run_ru_0 D W P N Q neg sc a) ⟨l0, l1, hW, hP, p84, p85, p1, p2⟩ fun x hx => ?_
  simp only [List.mem_cons, List.not_mem_nil, or_false] at hx
  rcases hx with hx | hx | hx | hx | hx | hx | hx | hx | hx | hx | hx | hx | hx
  all_goals (subst hx; first | assumption | exact pB_of (by first | assumption | rfl | exact t49 | exact t48 | exact t50 | trivial) | (simp_all [ble_eq, blt_eq, iLt_eq, iEq_eq, beqB_eq, bytesEq_eq, bq, len_eq] <;> omega))
theorem of_ru_5 (o : OF D W P N Q sc a b) (s0 : sc = 0)(a0 : 4 < a) : Pure true 21 [strV [114, 117], decA neg D sc] (intV 5) := by
  obtain ⟨l0, l1, hW, hP, p84, p85, p1, p2⟩ := o
  refine of_lL (run_ru_5 D W P N Q neg sc a) ⟨l0, l1, hW, hP, p84, p85, p1, p2⟩ fun x hx => ?_
  simp only [List.mem_cons, List.not_mem_nil, or_false] at hx
  rcases hx with hx | hx | hx | hx | hx | hx | hx | hx | hx | hx | hx | hx | hx | hx | hx | hx | hx | hx
  all_goals (subst hx; first | assumption | exact pB_of (by first | assumption | rfl | exact t49 | exact t48 | exact t50 | trivial) | (simp_all [ble_eq, blt_eq, iLt_eq, iEq_eq, beqB_eq, bytesEq_eq, bq, len_eq] <;> omega))
theorem of_ru_2 (o : OF D W P N Q sc a b) (s0 : sc = 0)(a0 : 2 ≤ a) (a1 : a ≤ 4)(b0 : b < 12) : Pure true 21 [strV [114, 117], decA neg D sc] (intV 4) := by
  obtain ⟨l0, l1, hW, hP, p84, p85, p1, p2⟩ := o
  refine of_lL (run_ru_2 D W P N Q neg sc a b) ⟨l0, l1, hW, hP, p84, p85, p1, p2⟩ fun x hx => ?_
  simp only [List.mem_cons, List.not_mem_nil, or_false] at hx
  rcases hx with hx | hx | hx | hx | hx | hx | hx | hx | hx | hx | hx | hx | hx | hx | hx | hx | hx | hx | hx | hx | hx | hx | hx | hx
  all_goals (subst hx; first | assumption | exact pB_of (by first | assumption | rfl | exact t49 | exact t48 | exact t50 | trivial) | (simp_all [ble_eq, blt_eq, iLt_eq, iEq_eq, beqB_eq, bytesEq_eq, bq, len_eq] <;> omega))
theorem of_ru_12 (o : OF D W P N Q sc a b) (s0 : sc = 0)(a0 : 2 ≤ a) (a1 : a ≤ 4)(b0 : 12 ≤ b) (b1 : b ≤ 14) : Pure true 21 [strV [114, 117], decA neg D sc] (intV 5) := by
  obtain ⟨l0, l1, hW, hP, p84, p85, p1, p2⟩ := o
  refine of_lL (run_ru_12 D W P N Q neg sc a b) ⟨l0, l1, hW, hP, p84, p85, p1, p2⟩ fun x hx => ?_
  simp only [List.mem_cons, List.not_mem_nil, or_false] at hx
  rcases hx with hx | hx | hx | hx | hx | hx | hx | hx | hx | hx | hx | hx | hx | hx | hx | hx | hx | hx | hx | hx | hx | hx | hx | hx | hx
  all_goals (subst hx; first | assumption | exact pB_of (by first | assumption | rfl | exact t49 | exact t48 | exact t50 | trivial) | (simp_all [ble_eq, blt_eq, iLt_eq, iEq_eq, beqB_eq, bytesEq_eq, bq, len_eq] <;> omega))
theorem of_ru_22 (o : OF D W P N Q sc a b) (s0 : sc = 0)(a0 : 2 ≤ a) (a1 : a ≤ 4)(b0 : 14 < b) : Pure true 21 [strV [114, 117], decA neg D sc] (intV 4) := by
  obtain ⟨l0, l1, hW, hP, p84, p85, p1, p2⟩ := o
  refine of_lL (run_ru_22 D W P N Q neg sc a b) ⟨l0, l1, hW, hP, p84, p85, p1, p2⟩ fun x hx => ?_
  simp only [List.mem_cons, List.not_mem_nil, or_false] at hx
  rcases hx with hx | hx | hx | hx | hx | hx | hx | hx | hx | hx | hx | hx | hx | hx | hx | hx | hx | hx | hx | hx | hx | hx | hx | hx | hx
  all_goals (subst hx; first | assumption | exact pB_of (by first | assumption | rfl | exact t49 | exact t48 | exact t50 | trivial) | (simp_all [ble_eq, blt_eq, iLt_eq, iEq_eq, beqB_eq, bytesEq_eq, bq, len_eq] <;> omega))
theorem of_cs_1p5 (o : OF D W P N Q sc a b) (s0 : sc ≠ 0) : Pure true 21 [strV [99, 115], decA neg D sc] (intV 5) := by
  obtain ⟨l0, l1, hW, hP, p84, p85, p1, p2⟩ := o
  refine of_lL (run_cs_1p5 D W P N Q neg sc) ⟨l0, l1, hW, hP, p84, p85, p1, p2⟩ fun x hx => ?_
  simp only [List.mem_cons, List.not_mem_nil, or_false] at hx
  all_goals (subst hx; first | assumption | exact pB_of (by first | assumption | rfl | exact t49 | exact t48 | exact t50 | trivial) | (simp_all [ble_eq, blt_eq, iLt_eq, iEq_eq, beqB_eq, bytesEq_eq, bq, len_eq] <;> omega))
theorem of_cs_1 (o : OF D W P N Q sc a b) (s0 : sc = 0)(n1 : N = [49]) : Pure true 21 [strV [99, 115], decA neg D sc] (intV 2) := by
  obtain ⟨l0, l1, hW, hP, p84, p85, p1, p2⟩ := o
  refine of_lL (run_cs_1 D W P N Q neg sc) ⟨l0, l1, hW, hP, p84, p85, p1, p2⟩ fun x hx => ?_
  simp only [List.mem_cons, List.not_mem_nil, or_false] at hx
  rcases hx with hx | hx | hx | hx
  all_goals (subst hx; first | assumption | exact pB_of (by first | assumption | rfl | exact t49 | exact t48 | exact t50 | trivial) | (simp_all [ble_eq, blt_eq, iLt_eq, iEq_eq, beqB_eq, bytesEq_eq, bq, len_eq] <;> omega))
theorem of_cs_10 (o : OF D W P N Q sc a b) (s0 : sc = 0)(n1 : N ≠ [49])(nl : N.length ≠ 1) : Pure true 21 [strV [99, 115], decA neg D sc] (intV 0) := by
  obtain ⟨l0, l1, hW, hP, p84, p85, p1, p2⟩ := o
  refine of_lL (run_cs_10 D W P N Q neg sc) ⟨l0, l1, hW, hP, p84, p85, p1, p2⟩ fun x hx => ?_
  simp only [List.mem_cons, List.not_mem_nil, or_false] at hx
  rcases hx with hx | hx | hx | hx | hx | hx | hx | hx
  all_goals (subst hx; first | assumption | exact pB_of (by first | assumption | rfl | exact t49 | exact t48 | exact t50 | trivial) | (simp_all [ble_eq, blt_eq, iLt_eq, iEq_eq, beqB_eq, bytesEq_eq, bq, len_eq] <;> omega))
theorem of_cs_2 (o : OF D W P N Q sc a b) (s0 : sc = 0)(n1 : N ≠ [49])(nl : N.length = 1)(a0 : 2 ≤ a) (a1 : a ≤ 4) : Pure true 21 [strV [99, 115], decA neg D sc] (intV 4) := by
  obtain ⟨l0, l1, hW, hP, p84, p85, p1, p2⟩ := o
  refine of_lL (run_cs_2 D W P N Q neg sc a) ⟨l0, l1, hW, hP, p84, p85, p1, p2⟩ fun x hx => ?_
  simp only [List.mem_cons, List.not_mem_nil, or_false] at hx
  rcases hx with hx | hx | hx | hx | hx | hx | hx | hx | hx | hx | hx | hx | hx | hx | hx
  all_goals (subst hx; first | assumption | exact pB_of (by first | assumption | rfl | exact t49 | exact t48 | exact t50 | trivial) | (simp_all [ble_eq, blt_eq, iLt_eq, iEq_eq, beqB_eq, bytesEq_eq, bq, len_eq] <;> omega))
theorem of_cs_5 (o : OF D W P N Q sc a b) (s0 : sc = 0)(n1 : N ≠ [49])(nl : N.length = 1)(a0 : 4 < a) : Pure true 21 [strV [99, 115], decA neg D sc] (intV 0) := by
  obtain ⟨l0, l1, hW, hP, p84, p85, p1, p2⟩ := o
  refine of_lL (run_cs_5 D W P N Q neg sc a) ⟨l0, l1, hW, hP, p84, p85, p1, p2⟩ fun x hx => ?_
  simp only [List.mem_cons, List.not_mem_nil, or_false] at hx
  rcases hx with hx | hx | hx | hx | hx | hx | hx | hx | hx | hx | hx | hx | hx | hx | hx
  all_goals (subst hx; first | assumption | exact pB_of (by first | assumption | rfl | exact t49 | exact t48 | exact t50 | trivial) | (simp_all [ble_eq, blt_eq, iLt_eq, iEq_eq, beqB_eq, bytesEq_eq, bq, len_eq] <;> omega))
theorem of_ar_1p5 (o : OF D W P N Q sc a b) (q0 : Q ≠ []) : Pure true 21 [strV [97, 114], decA neg D sc] (intV 0) := by
  obtain ⟨l0, l1, hW, hP, p84, p85, p1, p2⟩ := o
  refine of_lL (run_ar_1p5 D W P N Q neg sc) ⟨l0, l1, hW, hP, p84, p85, p1, p2⟩ fun x hx => ?_
  simp only [List.mem_cons, List.not_mem_nil, or_false] at hx
  all_goals (subst hx; first | assumption | exact pB_of (by first | assumption | rfl | exact t49 | exact t48 | exact t50 | trivial) | (simp_all [ble_eq, blt_eq, iLt_eq, iEq_eq, beqB_eq, bytesEq_eq, bq, len_eq] <;> omega))
theorem of_ar_0 (o : OF D W P N Q sc a b) (q0 : Q = [])(n0 : N = []) : Pure true 21 [strV [97, 114], decA neg D sc] (intV 1) := by
  obtain ⟨l0, l1, hW, hP, p84, p85, p1, p2⟩ := o
  refine of_lL (run_ar_0 D W P N Q neg sc) ⟨l0, l1, hW, hP, p84, p85, p1, p2⟩ fun x hx => ?_
  simp only [List.mem_cons, List.not_mem_nil, or_false] at hx
  rcases hx with hx | hx | hx | hx
  all_goals (subst hx; first | assumption | exact pB_of (by first | assumption | rfl | exact t49 | exact t48 | exact t50 | trivial) | (simp_all [ble_eq, blt_eq, iLt_eq, iEq_eq, beqB_eq, bytesEq_eq, bq, len_eq] <;> omega))
theorem of_ar_1 (o : OF D W P N Q sc a b) (q0 : Q = [])(n1 : N = [49]) : Pure true 21 [strV [97, 114], decA neg D sc] (intV 2) := by
  obtain ⟨l0, l1, hW, hP, p84, p85, p1, p2⟩ := o
  refine of_lL (run_ar_1 D W P N Q neg sc) ⟨l0, l1, hW, hP, p84, p85, p1, p2⟩ fun x hx => ?_
  simp only [List.mem_cons, List.not_mem_nil, or_false] at hx
  rcases hx with hx | hx | hx | hx | hx | hx | hx
  all_goals (subst hx; first | assumption | exact pB_of (by first | assumption | rfl | exact t49 | exact t48 | exact t50 | trivial) | (simp_all [ble_eq, blt_eq, iLt_eq, iEq_eq, beqB_eq, bytesEq_eq, bq, len_eq] <;> omega))
theorem of_ar_2 (o : OF D W P N Q sc a b) (q0 : Q = [])(n2 : N = [50]) : Pure true 21 [strV [97, 114], decA neg D sc] (intV 3) := by
  obtain ⟨l0, l1, hW, hP, p84, p85, p1, p2⟩ := o
  refine of_lL (run_ar_2 D W P N Q neg sc) ⟨l0, l1, hW, hP, p84, p85, p1, p2⟩ fun x hx => ?_
  simp only [List.mem_cons, List.not_mem_nil, or_false] at hx
  rcases hx with hx | hx | hx | hx | hx | hx | hx | hx | hx | hx
  all_goals (subst hx; first | assumption | exact pB_of (by first | assumption | rfl | exact t49 | exact t48 | exact t50 | trivial) | (simp_all [ble_eq, blt_eq, iLt_eq, iEq_eq, beqB_eq, bytesEq_eq, bq, len_eq] <;> omega))
theorem of_ar_101 (o : OF D W P N Q sc a b) (q0 : Q = [])(n0 : N ≠ [])(n1 : N ≠ [49])(n2 : N ≠ [50])(b0 : b < 3) : Pure true 21 [strV [97, 114], decA neg D sc] (intV 0) := by
  obtain ⟨l0, l1, hW, hP, p84, p85, p1, p2⟩ := o
  refine of_lL (run_ar_101 D W P N Q neg sc b) ⟨l0, l1, hW, hP, p84, p85, p1, p2⟩ fun x hx => ?_
  simp only [List.mem_cons, List.not_mem_nil, or_false] at hx
  rcases hx with hx | hx | hx | hx | hx | hx | hx | hx | hx | hx | hx | hx | hx | hx | hx | hx | hx | hx | hx | hx | hx | hx
  all_goals (subst hx; first | assumption | exact pB_of (by first | assumption | rfl | exact t49 | exact t48 | exact t50 | trivial) | (simp_all [ble_eq, blt_eq, iLt_eq, iEq_eq, beqB_eq, bytesEq_eq, bq, len_eq] <;> omega))
theorem of_ar_3 (o : OF D W P N Q sc a b) (q0 : Q = [])(n0 : N ≠ [])(n1 : N ≠ [49])(n2 : N ≠ [50])(b0 : 3 ≤ b) (b1 : b ≤ 10) : Pure true 21 [strV [97, 114], decA neg D sc] (intV 4) := by
  obtain ⟨l0, l1, hW, hP, p84, p85, p1, p2⟩ := o
  refine of_lL (run_ar_3 D W P N Q neg sc b) ⟨l0, l1, hW, hP, p84, p85, p1, p2⟩ fun x hx => ?_
  simp only [List.mem_cons, List.not_mem_nil, or_false] at hx
  rcases hx with hx | hx | hx | hx | hx | hx | hx | hx | hx | hx | hx | hx | hx | hx | hx | hx | hx
  all_goals (subst hx; first | assumption | exact pB_of (by first | assumption | rfl | exact t49 | exact t48 | exact t50 | trivial) | (simp_all [ble_eq, blt_eq, iLt_eq, iEq_eq, beqB_eq, bytesEq_eq, bq, len_eq] <;> omega))
theorem of_ar_11 (o : OF D W P N Q sc a b) (q0 : Q = [])(n0 : N ≠ [])(n1 : N ≠ [49])(n2 : N ≠ [50])(b0 : 11 ≤ b) (b1 : b ≤ 99) : Pure true 21 [strV [97, 114], decA neg D sc] (intV 5) := by
  obtain ⟨l0, l1, hW, hP, p84, p85, p1, p2⟩ := o
  refine of_lL (run_ar_11 D W P N Q neg sc b) ⟨l0, l1, hW, hP, p84, p85, p1, p2⟩ fun x hx => ?_
  simp only [List.mem_cons, List.not_mem_nil, or_false] at hx
  rcases hx with hx | hx | hx | hx | hx | hx | hx | hx | hx | hx | hx | hx | hx | hx | hx | hx | hx | hx | hx | hx | hx | hx | hx | hx
  all_goals (subst hx; first | assumption | exact pB_of (by first | assumption | rfl | exact t49 | exact t48 | exact t50 | trivial) | (simp_all [ble_eq, blt_eq, iLt_eq, iEq_eq, beqB_eq, bytesEq_eq, bq, len_eq] <;> omega))
theorem of_de_1p5 (o : OF D W P N Q sc a b) (s0 : sc ≠ 0) : Pure true 21 [strV [100, 101], decA neg D sc] (intV 0) := by
  obtain ⟨l0, l1, hW, hP, p84, p85, p1, p2⟩ := o
  refine of_lL (run_de_1p5 D W P N Q neg sc) ⟨l0, l1, hW, hP, p84, p85, p1, p2⟩ fun x hx => ?_
  simp only [List.mem_cons, List.not_mem_nil, or_false] at hx
  rcases hx with hx | hx | hx
  all_goals (subst hx; first | assumption | exact pB_of (by first | assumption | rfl | exact t49 | exact t48 | exact t50 | trivial) | (simp_all [ble_eq, blt_eq, iLt_eq, iEq_eq, beqB_eq, bytesEq_eq, bq, len_eq] <;> omega))
theorem of_de_1 (o : OF D W P N Q sc a b) (s0 : sc = 0)(n1 : N = [49]) : Pure true 21 [strV [100, 101], decA neg D sc] (intV 2) := by
  obtain ⟨l0, l1, hW, hP, p84, p85, p1, p2⟩ := o
  refine of_lL (run_de_1 D W P N Q neg sc) ⟨l0, l1, hW, hP, p84, p85, p1, p2⟩ fun x hx => ?_
  simp only [List.mem_cons, List.not_mem_nil, or_false] at hx
  rcases hx with hx | hx | hx | hx | hx | hx
  all_goals (subst hx; first | assumption | exact pB_of (by first | assumption | rfl | exact t49 | exact t48 | exact t50 | trivial) | (simp_all [ble_eq, blt_eq, iLt_eq, iEq_eq, beqB_eq, bytesEq_eq, bq, len_eq] <;> omega))
theorem of_de_2 (o : OF D W P N Q sc a b) (s0 : sc = 0)(n1 : N ≠ [49]) : Pure true 21 [strV [100, 101], decA neg D sc] (intV 0) := by
  obtain ⟨l0, l1, hW, hP, p84, p85, p1, p2⟩ := o
  refine of_lL (run_de_2 D W P N Q neg sc) ⟨l0, l1, hW, hP, p84, p85, p1, p2⟩ fun x hx => ?_
  simp only [List.mem_cons, List.not_mem_nil, or_false] at hx
  rcases hx with hx | hx | hx | hx | hx | hx
  all_goals (subst hx; first | assumption | exact pB_of (by first | assumption | rfl | exact t49 | exact t48 | exact t50 | trivial) | (simp_all [ble_eq, blt_eq, iLt_eq, iEq_eq, beqB_eq, bytesEq_eq, bq, len_eq] <;> omega))
theorem of_nl_1p5 (o : OF D W P N Q sc a b) (s0 : sc ≠ 0) : Pure true 21 [strV [110, 108], decA neg D sc] (intV 0) := by
  obtain ⟨l0, l1, hW, hP, p84, p85, p1, p2⟩ := o
  refine of_lL (run_nl_1p5 D W P N Q neg sc) ⟨l0, l1, hW, hP, p84, p85, p1, p2⟩ fun x hx => ?_
  simp only [List.mem_cons, List.not_mem_nil, or_false] at hx
  rcases hx with hx | hx | hx
  all_goals (subst hx; first | assumption | exact pB_of (by first | assumption | rfl | exact t49 | exact t48 | exact t50 | trivial) | (simp_all [ble_eq, blt_eq, iLt_eq, iEq_eq, beqB_eq, bytesEq_eq, bq, len_eq] <;> omega))
theorem of_nl_1 (o : OF D W P N Q sc a b) (s0 : sc = 0)(n1 : N = [49]) : Pure true 21 [strV [110, 108], decA neg D sc] (intV 2) := by
  obtain ⟨l0, l1, hW, hP, p84, p85, p1, p2⟩ := o
  refine of_lL (run_nl_1 D W P N Q neg sc) ⟨l0, l1, hW, hP, p84, p85, p1, p2⟩ fun x hx => ?_
  simp only [List.mem_cons, List.not_mem_nil, or_false] at hx
  rcases hx with hx | hx | hx | hx | hx | hx
  all_goals (subst hx; first | assumption | exact pB_of (by first | assumption | rfl | exact t49 | exact t48 | exact t50 | trivial) | (simp_all [ble_eq, blt_eq, iLt_eq, iEq_eq, beqB_eq, bytesEq_eq, bq, len_eq] <;> omega))
theorem of_nl_2 (o : OF D W P N Q sc a b) (s0 : sc = 0)(n1 : N ≠ [49]) : Pure true 21 [strV [110, 108], decA neg D sc] (intV 0) := by
  obtain ⟨l0, l1, hW, hP, p84, p85, p1, p2⟩ := o
  refine of_lL (run_nl_2 D W P N Q neg sc) ⟨l0, l1, hW, hP, p84, p85, p1, p2⟩ fun x hx => ?_
  simp only [List.mem_cons, List.not_mem_nil, or_false] at hx
  rcases hx with hx | hx | hx | hx | hx | hx
  all_goals (subst hx; first | assumption | exact pB_of (by first | assumption | rfl | exact t49 | exact t48 | exact t50 | trivial) | (simp_all [ble_eq, blt_eq, iLt_eq, iEq_eq, beqB_eq, bytesEq_eq, bq, len_eq] <;> omega))
theorem of_sv_1p5 (o : OF D W P N Q sc a b) (s0 : sc ≠ 0) : Pure true 21 [strV [115, 118], decA neg D sc] (intV 0) := by
  obtain ⟨l0, l1, hW, hP, p84, p85, p1, p2⟩ := o
  refine of_lL (run_sv_1p5 D W P N Q neg sc) ⟨l0, l1, hW, hP, p84, p85, p1, p2⟩ fun x hx => ?_
  simp only [List.mem_cons, List.not_mem_nil, or_false] at hx
  rcases hx with hx | hx | hx
  all_goals (subst hx; first | assumption | exact pB_of (by first | assumption | rfl | exact t49 | exact t48 | exact t50 | trivial) | (simp_all [ble_eq, blt_eq, iLt_eq, iEq_eq, beqB_eq, bytesEq_eq, bq, len_eq] <;> omega))
theorem of_sv_1 (o : OF D W P N Q sc a b) (s0 : sc = 0)(n1 : N = [49]) : Pure true 21 [strV [115, 118], decA neg D sc] (intV 2) := by
  obtain ⟨l0, l1, hW, hP, p84, p85, p1, p2⟩ := o
  refine of_lL (run_sv_1 D W P N Q neg sc) ⟨l0, l1, hW, hP, p84, p85, p1, p2⟩ fun x hx => ?_
  simp only [List.mem_cons, List.not_mem_nil, or_false] at hx
  rcases hx with hx | hx | hx | hx | hx | hx
  all_goals (subst hx; first | assumption | exact pB_of (by first | assumption | rfl | exact t49 | exact t48 | exact t50 | trivial) | (simp_all [ble_eq, blt_eq, iLt_eq, iEq_eq, beqB_eq, bytesEq_eq, bq, len_eq] <;> omega))
theorem of_sv_2 (o : OF D W P N Q sc a b) (s0 : sc = 0)(n1 : N ≠ [49]) : Pure true 21 [strV [115, 118], decA neg D sc] (intV 0) := by
  obtain ⟨l0, l1, hW, hP, p84, p85, p1, p2⟩ := o
  refine of_lL (run_sv_2 D W P N Q neg sc) ⟨l0, l1, hW, hP, p84, p85, p1, p2⟩ fun x hx => ?_
  simp only [List.mem_cons, List.not_mem_nil, or_false] at hx
  rcases hx with hx | hx | hx | hx | hx | hx
  all_goals (subst hx; first | assumption | exact pB_of (by first | assumption | rfl | exact t49 | exact t48 | exact t50 | trivial) | (simp_all [ble_eq, blt_eq, iLt_eq, iEq_eq, beqB_eq, bytesEq_eq, bq, len_eq] <;> omega))
end
noncomputable def ob_xx_1 (g D W P N Q : List UInt8) (neg : Bool) (sc a b : Nat) : List Bool :=
  [beqB (Nat.beq 0 1) (bytesEq g [97, 114]),
   beqB (Nat.beq 0 1) (bytesEq g [99, 115]),
   beqB (Nat.beq 0 1) (bytesEq g [114, 117]),
   beqB (Nat.beq 0 1) (bytesEq g [112, 108]),
   beqB (Nat.beq 0 1) (bytesEq g [101, 115]),
   beqB (Nat.beq 0 1) (bytesEq g [102, 114]),
   beqB (Nat.beq 0 1) (bytesEq g [115, 118]),
   beqB (Nat.beq 0 1) (bytesEq g [110, 108]),
   beqB (Nat.beq 0 1) (bytesEq g [100, 101]),
   beqB (Nat.beq 0 1) (bytesEq g [101, 110])]
theorem run_xx_1 (g D W P N Q : List UInt8) (neg : Bool) (sc a b : Nat) : lookB (acall (envS [(50, xClosed 200 50)] (Tr.nil.set 1000 [])) 200 21 [strV g, decA neg D sc] (hSym (bits [1, 1, 0, 1, 0, 1, 0, 1, 0, 0, 0, 1, 1, 0, 0, 0, 1, 1, 0, 0, 0, 1, 1, 0, 0, 0, 1, 1, 0, 0, 0, 1, 1, 0, 0, 0, 1, 1, 0, 0, 0, 0] 0))) = some (intV 0, [], allB (fun b => b) (ob_xx_1 g D W P N Q neg sc a b)) := by kernel_rfl
theorem of_xx_1 {g D W P N Q : List UInt8} {neg : Bool} {sc a b : Nat} (g0 : g ≠ [101, 110]) (g1 : g ≠ [100, 101]) (g2 : g ≠ [110, 108]) (g3 : g ≠ [115, 118]) (g4 : g ≠ [102, 114]) (g5 : g ≠ [101, 115]) (g6 : g ≠ [112, 108]) (g7 : g ≠ [114, 117]) (g8 : g ≠ [99, 115]) (g9 : g ≠ [97, 114]) : Pure true 21 [strV g, decA neg D sc] (intV 0) := by
  have ho : ∀ x ∈ ob_xx_1 g D W P N Q neg sc a b, x = true := by
    intro x hx
    unfold ob_xx_1 at hx
    simp only [List.mem_cons, List.not_mem_nil, or_false] at hx
    rcases hx with hx | hx | hx | hx | hx | hx | hx | hx | hx | hx
    all_goals (subst hx; first | assumption | exact pB_of (by assumption) | exact pB_of rfl | exact pB_of trivial | exact pB_of t49 | exact pB_of t48 | exact pB_of t50 | (simp_all [ble_eq, blt_eq, iLt_eq, iEq_eq, beqB_eq, bytesEq_eq, bq, len_eq]; done) | (simp [ble_eq, blt_eq, iLt_eq, iEq_eq, beqB_eq, bytesEq_eq, bq, len_eq]; omega))
  obtain ⟨h1, k1, k2, k3⟩ := lookB_some (run_xx_1 g D W P N Q neg sc a b) ((allB_eq _ _).2 ho)
  exact pure_of_runT (envS_ok told1_ok) k1 k3 k2 (fun v hv => by simp at hv; rcases hv with rfl | rfl <;> rfl) rfl
end Go.Proofs.YtkmbkejmfffafaaGreatDoor.Refl
