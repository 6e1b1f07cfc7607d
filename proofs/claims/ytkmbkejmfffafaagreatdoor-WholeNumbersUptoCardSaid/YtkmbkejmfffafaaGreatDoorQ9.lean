/- Texts joined by this session's own program, part 9. -/
import Derived.Test.YtkmbkejmfffafaaGreatDoorQ8
set_option linter.unusedSectionVars false
set_option linter.unusedVariables false
set_option linter.unusedSimpArgs false
namespace Go.Proofs.YtkmbkejmfffafaaGreatDoor.Refl
open Go Go.RowKit
set_option linter.unusedVariables false
set_option linter.unusedSimpArgs false
set_option maxRecDepth 1000000
noncomputable def hN (orc : List (Nat × Bool)) : AH := { t := Tr.nil, n := 12, log := [], sym := true, cnt := 0, orc := orc, ob := [] }
theorem hN_obj (orc : List (Nat × Bool)) (x : Nat) : (hN orc).obj x = .dead := by
  rw [AH.obj_def]
  show (if x < 12 then objIn (Tr.nil : Tr AObj) x else .dead) = _
  have : objIn (Tr.nil : Tr AObj) x = .dead := by unfold objIn; rw [Tr.get_nil]
  rw [this]
  simp
theorem pure_of_run {E : Env} (hE : EnvF Tryz.prog E 12) {n f : Nat} {av : List Value} {r : Value} {orc : List (Nat × Bool)} {h1 : AH} (hx : acall E n f av (hN orc) = some (r, h1)) (hob : OB h1) (hlog : h1.log = [])
    (hfa : ∀ v ∈ av, flat 5 v = true) (hfr : flat 5 r = true) : Pure false f av r := fun h ρ w args' _ hg hr hl =>
  pure_ok hE hx hob hlog rfl rfl (fun x _ => .inl (hN_obj orc x)) (fun x _ => by rw [hN_obj]; trivial) hg hr hl hfa hfr
noncomputable def lookB (r : AR) : Option (Value × List Nat × Bool) := match r with
  | some q => match q with
    | (v, h) => some (v, h.log, allB (fun b => b) h.ob)
  | none => none
theorem lookB_some {r : AR} {v : Value} {l : List Nat} {b : Bool} (h : lookB r = some (v, l, b)) (hb : b = true) : ∃ h1, r = some (v, h1) ∧ h1.log = l ∧ OB h1 := by
  unfold lookB at h
  cases r with
  | none => simp at h
  | some p =>
    obtain ⟨v', h1⟩ := p
    simp at h
    obtain ⟨rfl, rfl, h3⟩ := h
    exact ⟨h1, rfl, rfl, (allB_eq _ _).1 (by rw [h3]; exact hb)⟩
noncomputable def obG (x y : List UInt8) : List Bool :=
  [bytesEq y (List.take (((len x).sub 1).sub 0) (List.drop 0 x)),
   ((len x).sub 1).ble (len x),
   beqB (Nat.beq 1 1) (Nat.ble 1 (len x)),
   ((len x).add 1).ble 9223372036854775807,
   (nthD x ((len x).sub 1)).toNat.ble 57,
   Nat.ble 48 (nthD x ((len x).sub 1)).toNat,
   ((len x).sub 1).blt (len x),
   beqB (Nat.beq 1 1) (Nat.ble 1 (len x)),
   ((len x).add 1).ble 9223372036854775807,
   beqB (Nat.beq 1 1) (iLt 0 (Int.ofNat (len x)))]
noncomputable def obE (s : List UInt8) : List Bool :=
  [beqB (Nat.beq 1 1) !bytesEq s [], beqB (Nat.beq 1 1) (beqB (!bytesEq s []) true)]
noncomputable def obA (s : List UInt8) : List Bool :=
  [beqB (Nat.beq 0 1) (bytesEq s []), beqB (Nat.beq 1 1) (beqB (bytesEq s []) false), beqB (Nat.beq 1 1) (beqB (bytesEq s []) false), beqB (Nat.beq 1 1) (beqB (!bytesEq s []) true), beqB (Nat.beq 1 1) (beqB (!bytesEq s []) true)]
def Digs (s : List UInt8) : Prop := ∀ b ∈ s, 48 ≤ b.toNat ∧ b.toNat ≤ 57
theorem all_app {a b : List Bool} (ha : ∀ x ∈ a, x = true) (hb : ∀ x ∈ b, x = true) : ∀ x ∈ a ++ b, x = true := fun x hx => (List.mem_append.1 hx).elim (ha x) (hb x)
theorem bytesEq_nil {s : List UInt8} (h : 1 ≤ s.length) : bytesEq s [] = false := by
  rw [bytesEq_eq]; cases s with
  | nil => simp at h
  | cons => simp
theorem obE_ok {s : List UInt8} (h : 1 ≤ s.length) : ∀ x ∈ obE s, x = true := by
  intro x hx
  unfold obE at hx
  rw [bytesEq_nil h] at hx
  simp only [List.mem_cons, List.not_mem_nil, or_false] at hx
  rcases hx with rfl | rfl <;> rfl
theorem obA_ok {s : List UInt8} (h : 1 ≤ s.length) : ∀ x ∈ obA s, x = true := by
  intro x hx
  unfold obA at hx
  rw [bytesEq_nil h] at hx
  simp only [List.mem_cons, List.not_mem_nil, or_false] at hx
  rcases hx with rfl | rfl | rfl | rfl | rfl <;> rfl
theorem obG_ok {s x y : List UInt8} {k : Nat} (h1 : 1 ≤ k) (h2 : k ≤ s.length) (h3 : k < 1000) (hd : Digs s) (hx : x = s.take k) (hy : y = s.take (k - 1)) : ∀ b ∈ obG x y, b = true := by
  have hl : x.length = k := by rw [hx]; simp; omega
  have ht : List.take (((len x).sub 1).sub 0) (List.drop 0 x) = y := by
    rw [len_eq, hl, hx, hy, List.drop_zero, List.take_take]
    congr 1
    show min (k - 1 - 0) k = k - 1
    omega
  have hn : 48 ≤ (nthD x (k - 1)).toNat ∧ (nthD x (k - 1)).toNat ≤ 57 := by
    have hk : k - 1 < x.length := by omega
    have e : nthD x (k - 1) = x[k - 1] := by unfold nthD; rw [nth_eq, List.getElem?_eq_getElem hk]
    rw [e]
    have hm : x[k - 1] ∈ s.take k := by rw [← hx]; exact List.getElem_mem hk
    exact hd _ (List.mem_of_mem_take hm)
  intro b hb
  unfold obG at hb
  rw [ht, len_eq, hl] at hb
  have e1 : k.sub 1 = k - 1 := rfl
  have e2 : k.add 1 = k + 1 := rfl
  rw [e1, e2] at hb
  have g1 : Nat.ble 1 k = true := Nat.ble_eq_true_of_le h1
  have g2 : (k - 1).ble k = true := Nat.ble_eq_true_of_le (by omega)
  have g3 : (k + 1).ble 9223372036854775807 = true := Nat.ble_eq_true_of_le (by omega)
  have g4 : (nthD x (k - 1)).toNat.ble 57 = true := Nat.ble_eq_true_of_le hn.2
  have g5 : Nat.ble 48 (nthD x (k - 1)).toNat = true := Nat.ble_eq_true_of_le hn.1
  have g6 : (k - 1).blt k = true := by rw [blt_eq]; simp; omega
  have g7 : iLt 0 (Int.ofNat k) = true := by rw [iLt_eq]; simp; omega
  have g8 : bytesEq y y = true := by rw [bytesEq_eq]; simp
  rw [g1, g2, g3, g4, g5, g6, g7, g8] at hb
  simp only [List.mem_cons, List.not_mem_nil, or_false] at hb
  rcases hb with rfl | rfl | rfl | rfl | rfl | rfl | rfl | rfl | rfl | rfl <;> rfl
theorem plug_ok : ∀ x ∈ [(125, xClosed 200 125), (167, xCon)], ExtOK Tryz.prog 12 x.1 x.2 := by
  intro x hx
  simp only [List.mem_cons, List.not_mem_nil, or_false] at hx
  rcases hx with rfl | rfl
  · exact xClosed_ok _ _
  · exact xCon_ok
theorem pd_of {told : Tr (List UInt8)} {s : List UInt8} {orc : List (Nat × Bool)} {ob : List Bool} (h : lookB (acall (envS [(125, xClosed 200 125), (167, xCon)] told) 200 111 [strV s] (hN orc)) = some (.bool true, [], allB (fun b => b) ob)) (ho : ∀ x ∈ ob, x = true) : Pure false 111 [strV s] (.bool true) := by
  obtain ⟨h1, k1, k2, k3⟩ := lookB_some h ((allB_eq _ _).2 ho)
  exact pure_of_run (envS_ok plug_ok) k1 k3 k2 (fun v hv => by simp at hv; subst hv; rfl) rfl
noncomputable def tDs (s : List UInt8) (m : Nat) : Nat → Tr (List UInt8) → Tr (List UInt8) := Nat.rec (motive := fun _ => Nat → Tr (List UInt8) → Tr (List UInt8)) (fun _ t => t) (fun m ih p t => ih (Nat.add p 5) (t.set p (List.take m s))) m
noncomputable def bD (n : Nat) : List Nat := app [1, 1, 1, 1, 0, 0, 0, 0, 0, 0, 0, 1, 1, 1, 0, 1, 2] (app (rep [1, 1, 0, 1, 2] (Nat.pred n)) [0, 0, 1, 1])
noncomputable def oG (s : List UInt8) (j : Nat) : List Bool := Nat.rec (motive := fun _ => List Bool) [] (fun j ih => app ih (obG (List.take (Nat.succ j) s) (List.take j s))) j
noncomputable def oD (n : Nat) (s : List UInt8) : List Bool := app (obE s) (app (oG s (Nat.pred n)) (app (obG s (List.take (Nat.pred n) s)) (obA s)))
noncomputable def lD (n : Nat) (s : List UInt8) : Option (Value × List Nat × Bool) := lookB (acall (envS [(125, xClosed 200 125), (167, xCon)] (tDs s n 16 .nil)) 200 111 [strV s] (hN (bits (bD n) 0)))
noncomputable def aD (n : Nat) (s : List UInt8) : Option (Value × List Nat × Bool) := some (.bool true, [], allB (fun b => b) (oD n s))
theorem rD1 (s : List UInt8) : lD 1 s = aD 1 s := by kernel_rfl
theorem rD2 (s : List UInt8) : lD 2 s = aD 2 s := by kernel_rfl
theorem rD3 (s : List UInt8) : lD 3 s = aD 3 s := by kernel_rfl
theorem rD4 (s : List UInt8) : lD 4 s = aD 4 s := by kernel_rfl
theorem rD5 (s : List UInt8) : lD 5 s = aD 5 s := by kernel_rfl
theorem rD6 (s : List UInt8) : lD 6 s = aD 6 s := by kernel_rfl
theorem rD7 (s : List UInt8) : lD 7 s = aD 7 s := by kernel_rfl
theorem rD8 (s : List UInt8) : lD 8 s = aD 8 s := by kernel_rfl
theorem rD9 (s : List UInt8) : lD 9 s = aD 9 s := by kernel_rfl
theorem rD10 (s : List UInt8) : lD 10 s = aD 10 s := by kernel_rfl
theorem rD11 (s : List UInt8) : lD 11 s = aD 11 s := by kernel_rfl
theorem rD12 (s : List UInt8) : lD 12 s = aD 12 s := by kernel_rfl
theorem rD13 (s : List UInt8) : lD 13 s = aD 13 s := by kernel_rfl
theorem rD14 (s : List UInt8) : lD 14 s = aD 14 s := by kernel_rfl
theorem rD15 (s : List UInt8) : lD 15 s = aD 15 s := by kernel_rfl
theorem rD16 (s : List UInt8) : lD 16 s = aD 16 s := by kernel_rfl
theorem rD17 (s : List UInt8) : lD 17 s = aD 17 s := by kernel_rfl
theorem rD18 (s : List UInt8) : lD 18 s = aD 18 s := by kernel_rfl
theorem rD19 (s : List UInt8) : lD 19 s = aD 19 s := by kernel_rfl
theorem rD20 (s : List UInt8) : lD 20 s = aD 20 s := by kernel_rfl
theorem rD21 (s : List UInt8) : lD 21 s = aD 21 s := by kernel_rfl
theorem rD22 (s : List UInt8) : lD 22 s = aD 22 s := by kernel_rfl
theorem rD23 (s : List UInt8) : lD 23 s = aD 23 s := by kernel_rfl
theorem rD24 (s : List UInt8) : lD 24 s = aD 24 s := by kernel_rfl
theorem rD25 (s : List UInt8) : lD 25 s = aD 25 s := by kernel_rfl
theorem rD26 (s : List UInt8) : lD 26 s = aD 26 s := by kernel_rfl
theorem rD27 (s : List UInt8) : lD 27 s = aD 27 s := by kernel_rfl
theorem rD28 (s : List UInt8) : lD 28 s = aD 28 s := by kernel_rfl
theorem rD29 (s : List UInt8) : lD 29 s = aD 29 s := by kernel_rfl
theorem rD30 (s : List UInt8) : lD 30 s = aD 30 s := by kernel_rfl
theorem rD (s : List UInt8) : ∀ n, 1 ≤ n → n ≤ 30 → lD n s = aD n s
  | 0, h, _ => absurd h (by omega)
  | 1, _, _ => rD1 s
  | 2, _, _ => rD2 s
  | 3, _, _ => rD3 s
  | 4, _, _ => rD4 s
  | 5, _, _ => rD5 s
  | 6, _, _ => rD6 s
  | 7, _, _ => rD7 s
  | 8, _, _ => rD8 s
  | 9, _, _ => rD9 s
  | 10, _, _ => rD10 s
  | 11, _, _ => rD11 s
  | 12, _, _ => rD12 s
  | 13, _, _ => rD13 s
  | 14, _, _ => rD14 s
  | 15, _, _ => rD15 s
  | 16, _, _ => rD16 s
  | 17, _, _ => rD17 s
  | 18, _, _ => rD18 s
  | 19, _, _ => rD19 s
  | 20, _, _ => rD20 s
  | 21, _, _ => rD21 s
  | 22, _, _ => rD22 s
  | 23, _, _ => rD23 s
  | 24, _, _ => rD24 s
  | 25, _, _ => rD25 s
  | 26, _, _ => rD26 s
  | 27, _, _ => rD27 s
  | 28, _, _ => rD28 s
  | 29, _, _ => rD29 s
  | 30, _, _ => rD30 s
  | n + 31, _, h => absurd h (by omega)
theorem oG_ok {s : List UInt8} (hl : s.length < 1000) (hd : Digs s) : ∀ j, j ≤ s.length → ∀ x ∈ oG s j, x = true
  | 0, _ => fun x hx => by cases hx
  | j + 1, h => by
    show ∀ x ∈ app (oG s j) (obG (List.take (j + 1) s) (List.take j s)), x = true
    rw [app_eq]
    exact all_app (oG_ok hl hd j (by omega)) (obG_ok (s := s) (k := j + 1) (by omega) h (by omega) hd rfl rfl)
theorem isDigits_pure (s : List UInt8) (h1 : 1 ≤ s.length) (h2 : s.length ≤ 30) (hd : Digs s) : Pure false 111 [strV s] (.bool true) := by
  refine pd_of (rD s s.length h1 h2) ?_
  unfold oD
  rw [app_eq, app_eq, app_eq]
  refine all_app (obE_ok h1) (all_app (oG_ok (by omega) hd _ (Nat.pred_le _)) (all_app ?_ (obA_ok h1)))
  exact obG_ok (s := s) (k := s.length) h1 (Nat.le_refl _) (by omega) hd (List.take_length).symm rfl
end Go.Proofs.YtkmbkejmfffafaaGreatDoor.Refl
