/- Texts joined by this session's own program, part 19. -/
import Derived.Test.YtkmbkejmfffafaaGreatDoorQ18
import Derived.Test.YtkmbkejmfffafaaGreatDoorQ12
set_option linter.unusedSectionVars false
set_option linter.unusedVariables false
set_option linter.unusedSimpArgs false
namespace Go.Proofs.YtkmbkejmfffafaaGreatDoor.Refl
open Go Go.RowKit
set_option linter.unusedVariables false
set_option linter.unusedSimpArgs false
set_option maxRecDepth 1000000
noncomputable def plS (neg : Bool) (D D1 D2 D3 : List UInt8) (sc s1 s2 s3 lo m : Nat) : List (Nat × XF) :=
  [(89, xTold false 89 [(0, ([decA neg D sc, intV m], decA neg D1 s1))]), (90, xTold false 90 [(1, ([decA neg D1 s1, intV lo], decA neg D2 s2))]), (91, xTold false 91 [(2, ([decA neg D2 s2, intV lo], decA neg D3 s3))])]
theorem plS_ok (neg : Bool) (D D1 D2 D3 : List UInt8) (sc s1 s2 s3 lo m : Nat) : ∀ x ∈ plS neg D D1 D2 D3 sc s1 s2 s3 lo m, ExtOK Tryz.prog 12 x.1 x.2 := by
  intro x hx
  simp only [plS, List.mem_cons, List.not_mem_nil, or_false] at hx
  rcases hx with rfl | rfl | rfl
  · exact xTold_ok false 89 _
  · exact xTold_ok false 90 _
  · exact xTold_ok false 91 _
noncomputable def wh (D : List UInt8) (s : Nat) : List UInt8 := List.take ((len D).sub s) D
noncomputable def pt (D : List UInt8) (s : Nat) : List UInt8 := List.drop ((len D).sub s) D
noncomputable def obSP (neg : Bool) (D D1 D2 D3 : List UInt8) (sc s1 s2 s3 lo m : Nat) : List Bool :=
  [(Nat.add 1 (len (wh D3 s3))).ble 9223372036854775807, ((len D3).sub s3).ble (len D3), beqB (Nat.beq 1 1) (s3.ble (len D3)), ((len D3).add s3).ble 9223372036854775807,
   pB (Pure false 91 [decA neg D2 s2, intV lo] (decA neg D3 s3)), pB ([decA neg D2 s2, intV lo] = [decA neg D2 s2, intV lo]), pB (Pure false 90 [decA neg D1 s1, intV lo] (decA neg D2 s2)), pB ([decA neg D1 s1, intV lo] = [decA neg D1 s1, intV lo]),
   pB (Pure false 89 [decA neg D sc, intV m] (decA neg D1 s1)), pB ([decA neg D sc, intV m] = [decA neg D sc, intV m])]
theorem runSP0 (neg : Bool) (D D1 D2 D3 : List UInt8) (sc s1 s2 s3 lo m : Nat) : lookB (acall (envL (plS neg D D1 D2 D3 sc s1 s2 s3 lo m) .nil .nil) 200 53 [optV 1 lo m true false, decA neg D sc] (hN (bitz [2, 2, 2, 1, 0]))) =
    some (decA neg D3 s3, [], allB (fun b => b) (app [beqB (Nat.beq 0 1) ((len (wh D3 s3)).ble 1)] (obSP neg D D1 D2 D3 sc s1 s2 s3 lo m))) := by kernel_rfl
theorem runSP1 (neg : Bool) (D D1 D2 D3 : List UInt8) (sc s1 s2 s3 lo m : Nat) : lookB (acall (envL (plS neg D D1 D2 D3 sc s1 s2 s3 lo m) .nil .nil) 200 53 [optV 1 lo m true false, decA neg D sc] (hN (bitz [2, 2, 2, 1, 1, 0]))) =
    some (decA neg D3 s3, [], allB (fun b => b) (app [beqB (Nat.beq 0 1) (iLt 0 (Int.ofNat (Nat.sub 1 (len (wh D3 s3))))), beqB (Nat.beq 1 1) ((len (wh D3 s3)).ble 1)] (obSP neg D D1 D2 D3 sc s1 s2 s3 lo m))) := by kernel_rfl
theorem wh_len {D : List UInt8} {s : Nat} (h : s < D.length) : (wh D s).length = D.length - s := by
  unfold wh; rw [len_eq, List.length_take]; show min (D.length - s) D.length = _; omega
theorem pt_len {D : List UInt8} {s : Nat} (h : s < D.length) : (pt D s).length = s := by
  unfold pt; rw [len_eq, List.length_drop]; show D.length - (D.length - s) = _; omega
theorem shape_tells (neg : Bool) {D : List UInt8} {sc lo m : Nat} (hlo : lo ≤ 20) (hm : m ≤ 20) (hD : Digs D) (hs : sc < D.length) (hl : D.length ≤ 30) :
    ∃ D1 s1, Pure false 53 [optV 1 lo m true false, decA neg D sc] (decA neg D1 s1) ∧ Digs D1 ∧ s1 < D1.length ∧ D1.length ≤ 60 := by
  obtain ⟨D1, s1, p1, d1, h1, l1, q1⟩ := round_tells neg hm hD hs hl
  obtain ⟨D2, s2, p2, d2, h2, l2⟩ := trim_tells neg (lo := lo) q1 d1 h1 l1
  obtain ⟨D3, s3, p3, d3, h3, l3⟩ := pad_pure neg hlo d2 h2 l2
  have fl : ∀ v ∈ [optV 1 lo m true false, decA neg D sc], flat 5 v = true := flat2 rfl rfl
  have ho : ∀ y ∈ obSP neg D D1 D2 D3 sc s1 s2 s3 lo m, y = true := by
    intro y hy
    unfold obSP at hy
    rw [len_eq (wh D3 s3), wh_len h3] at hy
    simp only [List.mem_cons, List.not_mem_nil, or_false] at hy
    rcases hy with hy | hy | hy | hy | hy | hy | hy | hy | hy | hy
    all_goals (subst hy; first | exact pB_of p1 | exact pB_of p2 | exact pB_of p3 | exact pB_of trivial | exact pB_of rfl | (simp [ble_eq, beqB_eq, bq, len_eq]; done) | (simp [ble_eq, beqB_eq, bq, len_eq]; omega))
  by_cases hw : D3.length - s3 = 1
  · refine ⟨D3, s3, pureN (envL_ok (plS_ok _ _ _ _ _ _ _ _ _ _ _)) (runSP1 neg D D1 D2 D3 sc s1 s2 s3 lo m) (app_all (fun y hy => ?_) ho) fl rfl, d3, h3, l3⟩
    rw [len_eq (wh D3 s3), wh_len h3, hw] at hy
    simp only [List.mem_cons, List.not_mem_nil, or_false] at hy
    rcases hy with rfl | rfl <;> rfl
  · refine ⟨D3, s3, pureN (envL_ok (plS_ok _ _ _ _ _ _ _ _ _ _ _)) (runSP0 neg D D1 D2 D3 sc s1 s2 s3 lo m) (app_all (fun y hy => ?_) ho) fl rfl, d3, h3, l3⟩
    rw [len_eq (wh D3 s3), wh_len h3] at hy
    simp only [List.mem_cons, List.not_mem_nil, or_false] at hy
    subst hy
    rw [ble_eq, decide_eq_false (show ¬ D3.length - s3 ≤ 1 by omega)]; rfl
noncomputable def marksO : AObj := .cells [.int .u32 0, .int .i32 0, .int .u32 0, .int .i64 0, .map none, .map none] 92 0 0
theorem marks_flat : flatO marksO := fun v hv => by
  simp only [List.mem_cons, List.not_mem_nil, or_false] at hv
  rcases hv with rfl | rfl | rfl | rfl | rfl | rfl <;> rfl
noncomputable def twoV (P G : List UInt8) : Value := .tuple ⟨[strV P, strV G]⟩
theorem plO_ok : ∀ x ∈ [(86, xClosed 200 86)], ExtOK Tryz.prog 12 x.1 x.2 := fun x hx => by
  simp only [List.mem_cons, List.not_mem_nil, or_false] at hx
  subst hx
  exact xClosed_ok 200 86
theorem atWN {E : Env} (hE : EnvF Tryz.prog E 12) {n f : Nat} {o : AObj} {av : List Value} {r : Value} {orc : List (Nat × Bool)} {ob : List Bool} (hr : lookB (acall E n f (ptrV 12 0 :: av) (hAt true o orc)) = some (r, [12], allB (fun b => b) ob)) (hb : ∀ x ∈ ob, x = true)
    (ho : flatO o) (hd : o ≠ .dead) (hfa : ∀ v ∈ av, flat 5 v = true) (hfr : flat 5 r = true) : AtW f o av r := by
  obtain ⟨h1, k1, k2, k3⟩ := lookB_some hr ((allB_eq _ _).2 hb)
  exact atW_ok hE k1 k3 k2 ho hd hfa hfr
theorem runOf_de : lookB (acall (envL [(86, xClosed 200 86)] .nil .nil) 200 52 [ptrV 12 0, strV [100, 101]] (hAt true marksO [])) = some (twoV [44] [46], [12], allB (fun b => b) []) := by kernel_rfl
theorem runOf_nl : lookB (acall (envL [(86, xClosed 200 86)] .nil .nil) 200 52 [ptrV 12 0, strV [110, 108]] (hAt true marksO [])) = some (twoV [44] [46], [12], allB (fun b => b) []) := by kernel_rfl
theorem runOf_es : lookB (acall (envL [(86, xClosed 200 86)] .nil .nil) 200 52 [ptrV 12 0, strV [101, 115]] (hAt true marksO [])) = some (twoV [44] [46], [12], allB (fun b => b) []) := by kernel_rfl
theorem runOf_fr : lookB (acall (envL [(86, xClosed 200 86)] .nil .nil) 200 52 [ptrV 12 0, strV [102, 114]] (hAt true marksO [])) = some (twoV [44] [226, 128, 175], [12], allB (fun b => b) []) := by kernel_rfl
theorem runOf_ru : lookB (acall (envL [(86, xClosed 200 86)] .nil .nil) 200 52 [ptrV 12 0, strV [114, 117]] (hAt true marksO [])) = some (twoV [44] [194, 160], [12], allB (fun b => b) []) := by kernel_rfl
theorem runOf_cs : lookB (acall (envL [(86, xClosed 200 86)] .nil .nil) 200 52 [ptrV 12 0, strV [99, 115]] (hAt true marksO [])) = some (twoV [44] [194, 160], [12], allB (fun b => b) []) := by kernel_rfl
theorem runOf_pl : lookB (acall (envL [(86, xClosed 200 86)] .nil .nil) 200 52 [ptrV 12 0, strV [112, 108]] (hAt true marksO [])) = some (twoV [44] [194, 160], [12], allB (fun b => b) []) := by kernel_rfl
theorem runOf_sv : lookB (acall (envL [(86, xClosed 200 86)] .nil .nil) 200 52 [ptrV 12 0, strV [115, 118]] (hAt true marksO [])) = some (twoV [44] [194, 160], [12], allB (fun b => b) []) := by kernel_rfl
theorem runOf_no (L : List UInt8) : lookB (acall (envL [(86, xClosed 200 86)] .nil .nil) 200 52 [ptrV 12 0, strV L] (hAt true marksO (bitz [0, 0, 0, 0, 0, 0, 0, 0]))) = some (twoV [46] [44], [12], allB (fun b => b) [beqB (Nat.beq 0 1) (bytesEq L [115, 118]), beqB (Nat.beq 0 1) (bytesEq L [112, 108]), beqB (Nat.beq 0 1) (bytesEq L [99, 115]), beqB (Nat.beq 0 1) (bytesEq L [114, 117]), beqB (Nat.beq 0 1) (bytesEq L [102, 114]), beqB (Nat.beq 0 1) (bytesEq L [101, 115]), beqB (Nat.beq 0 1) (bytesEq L [110, 108]), beqB (Nat.beq 0 1) (bytesEq L [100, 101])]) := by kernel_rfl
theorem of_tells (L : List UInt8) : ∃ P G, AtW 52 marksO [strV L] (twoV P G) ∧ P.length ≤ 10 := by
  have nd : marksO ≠ .dead := fun h => by cases h
  by_cases h_de : L = [100, 101]
  · subst h_de; exact ⟨_, _, atWN (envL_ok plO_ok) runOf_de (fun x hx => by cases hx) marks_flat nd (flat1 rfl) rfl, by decide⟩
  by_cases h_nl : L = [110, 108]
  · subst h_nl; exact ⟨_, _, atWN (envL_ok plO_ok) runOf_nl (fun x hx => by cases hx) marks_flat nd (flat1 rfl) rfl, by decide⟩
  by_cases h_es : L = [101, 115]
  · subst h_es; exact ⟨_, _, atWN (envL_ok plO_ok) runOf_es (fun x hx => by cases hx) marks_flat nd (flat1 rfl) rfl, by decide⟩
  by_cases h_fr : L = [102, 114]
  · subst h_fr; exact ⟨_, _, atWN (envL_ok plO_ok) runOf_fr (fun x hx => by cases hx) marks_flat nd (flat1 rfl) rfl, by decide⟩
  by_cases h_ru : L = [114, 117]
  · subst h_ru; exact ⟨_, _, atWN (envL_ok plO_ok) runOf_ru (fun x hx => by cases hx) marks_flat nd (flat1 rfl) rfl, by decide⟩
  by_cases h_cs : L = [99, 115]
  · subst h_cs; exact ⟨_, _, atWN (envL_ok plO_ok) runOf_cs (fun x hx => by cases hx) marks_flat nd (flat1 rfl) rfl, by decide⟩
  by_cases h_pl : L = [112, 108]
  · subst h_pl; exact ⟨_, _, atWN (envL_ok plO_ok) runOf_pl (fun x hx => by cases hx) marks_flat nd (flat1 rfl) rfl, by decide⟩
  by_cases h_sv : L = [115, 118]
  · subst h_sv; exact ⟨_, _, atWN (envL_ok plO_ok) runOf_sv (fun x hx => by cases hx) marks_flat nd (flat1 rfl) rfl, by decide⟩
  refine ⟨_, _, atWN (envL_ok plO_ok) (runOf_no L) (fun x hx => ?_) marks_flat nd (flat1 rfl) rfl, by decide⟩
  simp only [List.mem_cons, List.not_mem_nil, or_false] at hx
  rcases hx with hx | hx | hx | hx | hx | hx | hx | hx
  all_goals (subst hx; rw [bytesEq_eq, decide_eq_false (by assumption)]; rfl)
noncomputable def plF (neg : Bool) (L D D1 P G : List UInt8) (sc s1 lo m a : Nat) (z : Bool) : List (Nat × XF) :=
  [(52, xAtW 52 [(0, ⟨12, marksO, [strV L], twoV P G⟩)]), (53, xTold false 53 [(1, ([optV 1 lo m true false, decA neg D sc], decA neg D1 s1))]), (55, xTold false 55 [(a, ([decA neg D1 s1], .bool z))])]
theorem plF_ok (neg : Bool) (L D D1 P G : List UInt8) (sc s1 lo m a : Nat) (z : Bool) : ∀ x ∈ plF neg L D D1 P G sc s1 lo m a z, ExtOK Tryz.prog 12 x.1 x.2 := by
  intro x hx
  simp only [plF, List.mem_cons, List.not_mem_nil, or_false] at hx
  rcases hx with rfl | rfl | rfl
  · exact xAtW_ok 52 _
  · exact xTold_ok false 53 _
  · exact xTold_ok false 55 _
noncomputable def obF0 (neg : Bool) (L D D1 P G : List UInt8) (sc s1 lo m b : Nat) : List Bool :=
  [beqB (Nat.beq b 1) (iLt 0 (Int.ofNat s1)), ((len D1).sub s1).ble (len D1), beqB (Nat.beq 1 1) (s1.ble (len D1)), ((len D1).add s1).ble 9223372036854775807,
   pB (Pure false 53 [optV 1 lo m true false, decA neg D sc] (decA neg D1 s1)), pB ([optV 1 lo m true false, decA neg D sc] = [optV 1 lo m true false, decA neg D sc]),
   pB (AtW 52 marksO [strV L] (twoV P G)), pB (marksO = marksO), pB ([ptrV 12 0, strV L] = [ptrV 12 0, strV L])]
noncomputable def tF (D1 P : List UInt8) (s1 : Nat) : List UInt8 := app (wh D1 s1) (app P (pt D1 s1))
noncomputable def obF1 (D1 P : List UInt8) (s1 : Nat) : List Bool :=
  [((len (wh D1 s1)).add (len (app P (pt D1 s1)))).ble 1099511627776, ((len P).add (len (pt D1 s1))).ble 1099511627776, ((len D1).sub s1).ble (len D1), (len D1).ble (len D1), beqB (Nat.beq 1 1) (s1.ble (len D1)), ((len D1).add s1).ble 9223372036854775807]
noncomputable def obFZ (neg : Bool) (D1 : List UInt8) (s1 : Nat) (z : Bool) : List Bool := [pB (Pure false 55 [decA neg D1 s1] (.bool z)), pB ([decA neg D1 s1] = [decA neg D1 s1])]
noncomputable def obFM (X : List UInt8) : List Bool := [((len [45]).add (len X)).ble 1099511627776]
theorem runF_p0 (L D D1 P G : List UInt8) (sc s1 lo m : Nat) : lookB (acall (envL (plF false L D D1 P G sc s1 lo m 7 false) .nil .nil) 200 23 [ptrV 12 0, strV L, decA false D sc, optV 1 lo m true false] (hAt true marksO (bitz [2, 2, 1, 2, 0]))) = some (strV (wh D1 s1), [12], allB (fun b => b) ((obF0 false L D D1 P G sc s1 lo m 0))) := by kernel_rfl
theorem runF_p1 (L D D1 P G : List UInt8) (sc s1 lo m : Nat) : lookB (acall (envL (plF false L D D1 P G sc s1 lo m 8 false) .nil .nil) 200 23 [ptrV 12 0, strV L, decA false D sc, optV 1 lo m true false] (hAt true marksO (bitz [2, 2, 1, 2, 1, 1]))) = some (strV (tF D1 P s1), [12], allB (fun b => b) (app (obF1 D1 P s1) (obF0 false L D D1 P G sc s1 lo m 1))) := by kernel_rfl
theorem runF_z0 (L D D1 P G : List UInt8) (sc s1 lo m : Nat) : lookB (acall (envL (plF true L D D1 P G sc s1 lo m 7 true) .nil .nil) 200 23 [ptrV 12 0, strV L, decA true D sc, optV 1 lo m true false] (hAt true marksO (bitz [2, 2, 1, 2, 0]))) = some (strV (wh D1 s1), [12], allB (fun b => b) (app (obFZ true D1 s1 true) ((obF0 true L D D1 P G sc s1 lo m 0)))) := by kernel_rfl
theorem runF_z1 (L D D1 P G : List UInt8) (sc s1 lo m : Nat) : lookB (acall (envL (plF true L D D1 P G sc s1 lo m 8 true) .nil .nil) 200 23 [ptrV 12 0, strV L, decA true D sc, optV 1 lo m true false] (hAt true marksO (bitz [2, 2, 1, 2, 1, 1]))) = some (strV (tF D1 P s1), [12], allB (fun b => b) (app (obFZ true D1 s1 true) (app (obF1 D1 P s1) (obF0 true L D D1 P G sc s1 lo m 1)))) := by kernel_rfl
theorem runF_n0 (L D D1 P G : List UInt8) (sc s1 lo m : Nat) : lookB (acall (envL (plF true L D D1 P G sc s1 lo m 7 false) .nil .nil) 200 23 [ptrV 12 0, strV L, decA true D sc, optV 1 lo m true false] (hAt true marksO (bitz [2, 2, 1, 2, 0]))) = some (strV (app [45] (wh D1 s1)), [12], allB (fun b => b) (app (obFM (wh D1 s1)) (app (obFZ true D1 s1 false) ((obF0 true L D D1 P G sc s1 lo m 0))))) := by kernel_rfl
theorem runF_n1 (L D D1 P G : List UInt8) (sc s1 lo m : Nat) : lookB (acall (envL (plF true L D D1 P G sc s1 lo m 8 false) .nil .nil) 200 23 [ptrV 12 0, strV L, decA true D sc, optV 1 lo m true false] (hAt true marksO (bitz [2, 2, 1, 2, 1, 1]))) = some (strV (app [45] (tF D1 P s1)), [12], allB (fun b => b) (app (obFM (tF D1 P s1)) (app (obFZ true D1 s1 false) (app (obF1 D1 P s1) (obF0 true L D D1 P G sc s1 lo m 1))))) := by kernel_rfl
theorem tF_len {D1 P : List UInt8} {s1 : Nat} (h : s1 < D1.length) : (tF D1 P s1).length = D1.length + P.length := by
  unfold tF; rw [app_eq, app_eq, List.length_append, List.length_append, wh_len h, pt_len h]; omega
theorem format_tells (L : List UInt8) (neg : Bool) {D : List UInt8} {sc lo m : Nat} (hlo : lo ≤ 20) (hm : m ≤ 20) (hD : Digs D) (hs : sc < D.length) (hl : D.length ≤ 30) :
    ∃ F, AtW 23 marksO [strV L, decA neg D sc, optV 1 lo m true false] (strV F) ∧ F.length ≤ 100 ∧ 0 < F.length := by
  have nd : marksO ≠ .dead := fun h => by cases h
  obtain ⟨P, G, pO, lP⟩ := of_tells L
  obtain ⟨D1, s1, pS, d1, h1, l1⟩ := shape_tells neg hlo hm hD hs hl
  have fl : ∀ v ∈ [strV L, decA neg D sc, optV 1 lo m true false], flat 5 v = true := flat3 rfl rfl rfl
  have o0 : ∀ b, (b = 1 ∧ 0 < s1 ∨ b = 0 ∧ s1 = 0) → ∀ y ∈ obF0 neg L D D1 P G sc s1 lo m b, y = true := by
    intro b hb y hy
    have e : beqB (Nat.beq b 1) (iLt 0 (Int.ofNat s1)) = true := by
      rcases hb with ⟨rfl, hb⟩ | ⟨rfl, rfl⟩
      · rw [show (0 : Int) = Int.ofNat 0 from rfl, iLt_yes hb]; rfl
      · rfl
    unfold obF0 at hy
    rw [e] at hy
    rcases List.mem_cons.1 hy with rfl | hy
    · rfl
    rcases List.mem_cons.1 hy with rfl | hy
    · rw [ble_eq, len_eq]; exact decide_eq_true (Nat.sub_le _ _)
    rcases List.mem_cons.1 hy with rfl | hy
    · rw [ble_eq, len_eq, decide_eq_true (show s1 ≤ D1.length by omega)]; rfl
    rcases List.mem_cons.1 hy with rfl | hy
    · rw [ble_eq, len_eq]; exact decide_eq_true (show D1.length + s1 ≤ _ by omega)
    rcases List.mem_cons.1 hy with rfl | hy
    · exact pB_of pS
    rcases List.mem_cons.1 hy with rfl | hy
    · exact pB_of rfl
    rcases List.mem_cons.1 hy with rfl | hy
    · exact pB_of pO
    rcases List.mem_cons.1 hy with rfl | hy
    · exact pB_of rfl
    rcases List.mem_cons.1 hy with rfl | hy
    · exact pB_of rfl
    · cases hy
  have o1 : ∀ y ∈ obF1 D1 P s1, y = true := by
    intro y hy
    unfold obF1 at hy
    rw [len_eq (wh D1 s1), wh_len h1, len_eq (app P (pt D1 s1)), app_eq, List.length_append, len_eq (pt D1 s1), pt_len h1, len_eq P, len_eq D1] at hy
    simp only [List.mem_cons, List.not_mem_nil, or_false] at hy
    rcases hy with hy | hy | hy | hy | hy | hy
    all_goals (subst hy; first | (simp [ble_eq, beqB_eq, bq]; done) | (simp [ble_eq, beqB_eq, bq]; omega))
  have oM : ∀ X : List UInt8, X.length ≤ 100 → ∀ y ∈ obFM X, y = true := by
    intro X hX y hy
    unfold obFM at hy
    simp only [List.mem_cons, List.not_mem_nil, or_false] at hy
    subst hy
    rw [ble_eq, len_eq, len_eq]; exact decide_eq_true (show 1 + X.length ≤ _ by omega)
  have lw := wh_len h1
  have lt := tF_len (P := P) h1
  cases neg with
  | false =>
    by_cases h0 : 0 < s1
    · exact ⟨_, atWN (envL_ok (plF_ok _ _ _ _ _ _ _ _ _ _ _ _)) (runF_p1 L D D1 P G sc s1 lo m) (app_all o1 (o0 1 (.inl ⟨rfl, h0⟩))) marks_flat nd fl rfl, by omega, by omega⟩
    · exact ⟨_, atWN (envL_ok (plF_ok _ _ _ _ _ _ _ _ _ _ _ _)) (runF_p0 L D D1 P G sc s1 lo m) (o0 0 (.inr ⟨rfl, by omega⟩)) marks_flat nd fl rfl, by omega, by omega⟩
  | true =>
    obtain ⟨z, pz⟩ := zero_pure true D1 s1 (by omega)
    have oz : ∀ y ∈ obFZ true D1 s1 z, y = true := by
      intro y hy
      unfold obFZ at hy
      rcases List.mem_cons.1 hy with rfl | hy
      · exact pB_of pz
      rcases List.mem_cons.1 hy with rfl | hy
      · exact pB_of rfl
      · cases hy
    cases z with
    | true =>
      by_cases h0 : 0 < s1
      · exact ⟨_, atWN (envL_ok (plF_ok _ _ _ _ _ _ _ _ _ _ _ _)) (runF_z1 L D D1 P G sc s1 lo m) (app_all oz (app_all o1 (o0 1 (.inl ⟨rfl, h0⟩)))) marks_flat nd fl rfl, by omega, by omega⟩
      · exact ⟨_, atWN (envL_ok (plF_ok _ _ _ _ _ _ _ _ _ _ _ _)) (runF_z0 L D D1 P G sc s1 lo m) (app_all oz (o0 0 (.inr ⟨rfl, by omega⟩))) marks_flat nd fl rfl, by omega, by omega⟩
    | false =>
      by_cases h0 : 0 < s1
      · refine ⟨_, atWN (envL_ok (plF_ok _ _ _ _ _ _ _ _ _ _ _ _)) (runF_n1 L D D1 P G sc s1 lo m) (app_all (oM _ (by omega)) (app_all oz (app_all o1 (o0 1 (.inl ⟨rfl, h0⟩))))) marks_flat nd fl rfl, ?_, by rw [app_eq]; exact Nat.zero_lt_succ _⟩
        rw [app_eq, List.length_append]; show 1 + _ ≤ _; omega
      · refine ⟨_, atWN (envL_ok (plF_ok _ _ _ _ _ _ _ _ _ _ _ _)) (runF_n0 L D D1 P G sc s1 lo m) (app_all (oM _ (by omega)) (app_all oz (o0 0 (.inr ⟨rfl, by omega⟩)))) marks_flat nd fl rfl, ?_, by rw [app_eq]; exact Nat.zero_lt_succ _⟩
        rw [app_eq, List.length_append]; show 1 + _ ≤ _; omega
end Go.Proofs.YtkmbkejmfffafaaGreatDoor.Refl
namespace Go.Proofs.YtkmbkejmfffafaaGreatDoor.Refl
open Go Go.RowKit
set_option linter.unusedVariables false
set_option linter.unusedSimpArgs false
set_option maxRecDepth 1000000
noncomputable def pN (A B L S : List UInt8) : List (List UInt8) := [[97], L, [48], srcN A B, [113], [97], [], [49], [110], [110], S]
structure NL where
  p : PL
  A : List UInt8
  B : List UInt8
  F : List UInt8
  l : Nat
  m : Nat
  q : Nat
  u : Nat
  v : Nat
noncomputable def NL.ps (y : NL) : List (List UInt8) := pN y.A y.B y.p.L y.p.S
noncomputable def sA1 (y : NL) : List Value := [optV 1 0 3 false false, strV nmMin, strV [], decA false y.A 0, .bool false]
noncomputable def sA2 (y : NL) : List Value := [optV 1 y.l (nMax 3 y.l) false false, strV nmMax, strV [], decA false y.B 0, .bool false]
noncomputable def sR2 (q m : Nat) : Value := .tuple ⟨[optV 1 q m false false, intV 0]⟩
noncomputable def sA3 (q m : Nat) : List Value := [optV 1 q m false false, strV nmGrp, strV txFalse, .agg ⟨[.bool false, strV [], intV 0]⟩, .bool true]
noncomputable def sR3 (q m : Nat) : Value := .tuple ⟨[optV 1 q m true false, intV 0]⟩
noncomputable def fAv (y : NL) : List Value := [strV y.p.Lg, y.p.dec, optV 1 y.q y.m true false]
noncomputable def plBA (A B : List UInt8) : List (Nat × XF) := [(149, xDecode), (319, xTold false 319 [(0, (argAt A B 14, argR1)), (1, (argAt A B 18, argR2 A)), (2, (argAt A B (Nat.add 43 (len A)), argR3 A B)), (3, (argAt A B (Nat.add (Nat.add 68 (len A)) (len B)), argR4 A B))])]
noncomputable def plugN (y : NL) (b2 b3 m1 m2 : Nat) : List (Nat × XF) := [(8, xAlive), (105, xIn (plBA y.A y.B) 200 105), (18, xOr (xTold true 18 [(23, ([intV y.l], strV y.A)), (24, ([intV y.m], strV y.B))]) xItoa), (143, xRune),
  (97, yText [(203, [97]), (205, y.p.L), (206, [48]), (215, srcN y.A y.B), (280, [113]), (284, [97]), (285, []), (286, [49]), (338, [110]), (339, [110]), (346, y.p.S)]),
  (12, xTagP [(1, y.p.tP y.p.L), (481, y.p.tP y.p.L), (559, y.p.tP y.p.T)]), (13, xTagS [(552, y.p.tS b2), (553, y.p.tS b2), (556, y.p.tS b2), (561, y.p.tS b2), (562, y.p.tS b3)]),
  (17, xTold false 17 [(8, ([y.p.dec], .bool true))]), (20, xTold false 20 [(25, ([y.p.dec], strV y.p.S))]), (44, xTold false 44 [(160, t44 y.p), (413, t44 y.p), (538, t44 y.p), (545, t44 y.p)]),
  (68, xTold false 68 [(611, ([strV y.A], decV false y.A 0)), (620, ([strV y.B], decV false y.B 0))]),
  (283, xTold false 283 [(616, (sA1 y, setR1 y.l)), (625, (sA2 y, sR2 y.q y.m)), (630, (sA3 y.q y.m, sR3 y.q y.m))]),
  (23, xAtW 23 [(635, ⟨m1, marksO, fAv y, strV y.F⟩), (677, ⟨m2, marksO, fAv y, strV y.F⟩)])]
noncomputable def toldN (y : NL) : Tr Nat := ((((((Tr.nil.set 17 y.u).set 18 y.l).set 19 y.l).set 20 y.v).set 21 y.m).set 22 y.m).set 657 y.q
noncomputable def envN (y : NL) (b2 b3 m1 m2 : Nat) : Env := { envS (plugN y b2 b3 m1 m2) .nil with toldI := toldN y }
noncomputable def orcN : List (Nat × Bool) := [(6, true), (7, true), (9, true), (10, false), (16, false), (97, false), (195, false), (198, false), (199, false), (201, false), (279, true), (420, false), (554, true), (563, true), (636, false), (637, false),
  (649, true), (650, true), (651, true), (652, true), (653, true), (654, false), (1000000, false)]
noncomputable def nEnc (x : PL) (src : List UInt8) (l : List (List UInt8)) : List Bool :=
  app [oAll l, Nat.blt (len x.S) 400, oAt l 10 x.S, oAll l, oAt l 9 [110], oAll l, oAt l 8 [110], oAll l, oAt l 7 [49], oAll l, oAt l 6 [], oAll l, oAt l 5 [97], oAll l, oAt l 4 [113], beqB true (iLt (Int.ofNat (nP l 4)) (Int.ofNat (len (sP l 11)))),
    oAll l, oAt l 3 src, oAll l, oAt l 2 [48], oAll l, Nat.blt (len x.L) 400, oAt l 1 x.L, oAll l, Nat.beq (len (sP l 11)) (len (sP l 11)), beqB false (iLt 262144 (Int.ofNat (len (sP l 11)))), oSam l 11, Nat.ble (nP l 11) 1099511627776,
    beqB false (Nat.beq (nP l 11) 0), beqB false (Nat.beq (nP l 11) 0), oSam l 10, beqB false (Nat.beq (len (partF x.S)) 0), oLen l 11]
  (app (oPart x.S) (app [oSam l 9, oLen l 10, oSam l 8, oLen l 9, oSam l 7, oLen l 8, oSam l 6, oLen l 7, oSam l 5, oLen l 6, oSam l 4, oLen l 5]
  (app (o44 x) (app [oSam l 3, oLen l 4, oSam l 2, oLen l 3, beqB false (Nat.beq (len (partF x.L)) 0), oLen l 2] (oPart x.L)))))
noncomputable def nTold (y : NL) (z w : Int) : List Bool := [pB (Pure true 18 [intV y.m] (strV y.B)), pB ([intV y.m] = [intV y.m]), pB (Pure true 18 [intV y.l] (strV y.A)), pB ([intV y.l] = [intV y.l]),
  pI (IntKind.i64.wrap (Int.ofNat y.m)) y.m, pI ((Int.ofNat y.v).tmod 21) y.m, pI (IntKind.u64.wrap w) y.v, pI (IntKind.i64.wrap (Int.ofNat y.l)) y.l, pI ((Int.ofNat y.u).tmod 21) y.l, pI (IntKind.u64.wrap z) y.u]
noncomputable def nHead (y : NL) (z w : Int) : List Bool :=
  app [pB (Pure false 20 [y.p.dec] (strV y.p.S)), pB ([y.p.dec] = [y.p.dec])] (app (nTold y z w) (app [beqB false (iLt 30 (Int.ofNat (len y.p.D))), beqB false (iLt 60 (Int.ofNat (len y.p.L))), beqB true (beqB (iLt 60 (Int.ofNat (len y.p.L))) false), pB (Pure false 17 [y.p.dec] (.bool true)), pB ([y.p.dec] = [y.p.dec]),
    beqB true (beqB (iLt 60 (Int.ofNat (len y.p.L))) false), beqB true (beqB (iLt 60 (Int.ofNat (len y.p.L))) false)] (oTP y.p y.p.L)))
noncomputable def nBA (A B : List UInt8) : List Bool := [pB (Pure false 319 (argAt A B (Nat.add (Nat.add 68 (len A)) (len B))) (argR4 A B)), pB (argAt A B (Nat.add (Nat.add 68 (len A)) (len B)) = argAt A B (Nat.add (Nat.add 68 (len A)) (len B))),
  pB (Pure false 319 (argAt A B (Nat.add 43 (len A))) (argR3 A B)), pB (argAt A B (Nat.add 43 (len A)) = argAt A B (Nat.add 43 (len A))), pB (Pure false 319 (argAt A B 18) (argR2 A)), pB (argAt A B 18 = argAt A B 18), pB (Pure false 319 (argAt A B 14) argR1), pB (argAt A B 14 = argAt A B 14), pB (Ascii (srcN A B))]
noncomputable def nMid (y : NL) (b2 b3 : Nat) (l : List (List UInt8)) : List Bool :=
  app [beqB true (bytesEq y.p.T y.p.T)] (app (oTS y.p b3) (app (oTS y.p b2) (app (oTP y.p y.p.T) (app (oTS y.p b2) (app [beqB true (bytesEq y.p.T y.p.T)] (app (oTS y.p b2) (app (oTS y.p b2) (app (o44 y.p) (app (o44 y.p) (app (nBA y.A y.B) (app (oTP y.p y.p.L)
  (app [beqB false (iLt (Int.ofNat (nP l 11)) (Int.ofNat (len (sP l 11))))] (o44 y.p)))))))))))))
noncomputable def nSet (y : NL) : List Bool := [pB (Pure false 283 (sA3 y.q y.m) (sR3 y.q y.m)), pB (sA3 y.q y.m = sA3 y.q y.m), pB (Pure false 283 (sA2 y) (sR2 y.q y.m)), pB (sA2 y = sA2 y), pB (Pure false 68 [strV y.B] (decV false y.B 0)), pB ([strV y.B] = [strV y.B]),
  pB (Pure false 283 (sA1 y) (setR1 y.l)), pB (sA1 y = sA1 y), pB (Pure false 68 [strV y.A] (decV false y.A 0)), pB ([strV y.A] = [strV y.A])]
noncomputable def nFmt (y : NL) (b : Nat) : List Bool := [pB (AtW 23 marksO (fAv y) (strV y.F)), pB (marksO = marksO), pB (ptrV b 0 :: fAv y = ptrV b 0 :: fAv y)]
noncomputable def x1F (F : List UInt8) : List UInt8 := app (app [] [91]) F
noncomputable def x2F (F : List UInt8) : List UInt8 := app (x1F F) [93]
noncomputable def nPat (F : List UInt8) : List Bool := [(len (x2F F)).beq (((Nat.add 0 (len [91])).add (len F)).add (len [93])), (len (x1F F)).beq ((Nat.add 0 (len [91])).add (len F)), (((Nat.add 0 (len [91])).add (len F)).add (len [93])).ble 4294967296,
  beqB false ((len F).beq 0), ((Nat.add 0 (len [91])).add (len F)).ble 4294967296, beqB false (iLt 2500 (Int.ofNat (rcF F))), (len F).ble 1099511627776]
noncomputable def nEnd (y : NL) (m2 : Nat) : List Bool := app [((len (app [91] y.F)).add (len [93])).ble 1099511627776, ((len [91]).add (len y.F)).ble 1099511627776]
  (app (nFmt y m2) [pI (if Int.ofNat y.m < Int.ofNat y.l then Int.ofNat y.m else Int.ofNat y.l) y.q])
noncomputable def obN (y : NL) (z w : Int) (b2 b3 m1 m2 : Nat) : List Bool :=
  app (nEnd y m2) (app (oIt y.ps) (app (nPat y.F) (app (nFmt y m1) (app (nSet y) (app (nMid y b2 b3 y.ps) (app (nEnc y.p (srcN y.A y.B) y.ps) (nHead y z w)))))))
noncomputable def resN (F : List UInt8) : Bool := bytesEq (x2F F) (app (app [91] F) [93])
def NumRun (y : NL) (z w : Int) (b2 b3 m1 m2 : Nat) (M : Int) : Prop :=
  lookB (acall (envN y b2 b3 m1 m2) 200 6 [strV y.p.L, y.p.dec, .int .i64 z, .int .i64 w] (hM M orcN)) = some (.bool (resN y.F), [], allB (fun b => b) (obN y z w b2 b3 m1 m2))
end Go.Proofs.YtkmbkejmfffafaaGreatDoor.Refl
