/- Texts joined by this session's own program, part 18. -/
import Derived.Test.YtkmbkejmfffafaaGreatDoorQ17
set_option linter.unusedSectionVars false
set_option linter.unusedVariables false
set_option linter.unusedSimpArgs false
namespace Go.Proofs.YtkmbkejmfffafaaGreatDoor.Refl
open Go Go.RowKit
set_option linter.unusedVariables false
set_option linter.unusedSimpArgs false
set_option maxRecDepth 1000000
noncomputable def envL (plug : List (Nat × XF)) (told : Tr (List UInt8)) (toldI : Tr Nat) : Env := { envS plug told with lk := true, toldI := toldI }
theorem envL_ok {plug : List (Nat × XF)} {told : Tr (List UInt8)} {toldI : Tr Nat} (hp : ∀ x ∈ plug, ExtOK Tryz.prog 12 x.1 x.2) : EnvF Tryz.prog (envL plug told toldI) 12 := by
  have h := envT_ok hp
  exact { ty := h.ty, types := h.types, zeros := h.zeros, sizes := h.sizes, eqs := h.eqs, meth := h.meth, fn := h.fn, ext := h.ext, mixed := h.mixed }
noncomputable def bitz (l : List Nat) : List (Nat × Bool) := app (bits l 0) [(1000000, false)]
noncomputable def ix (i : Nat) : Nat := Nat.add 0 (Nat.mul i 1)
noncomputable def setU (W : List UInt8) (i : Nat) : List UInt8 := setL W (ix i) (UInt8.ofNat (((nthD W (ix i)).toNat + 1) % 256))
noncomputable def setZ (W : List UInt8) (i : Nat) : List UInt8 := setL W (ix i) (UInt8.ofNat 48)
noncomputable def upS (k : Nat) : List UInt8 → Nat → List UInt8 := Nat.rec (motive := fun _ => List UInt8 → Nat → List UInt8) (fun W i => setU W i) (fun _ ih W i => ih (setZ W i) (Nat.sub i 1)) k
noncomputable def upZ (k : Nat) : List UInt8 → Nat → List UInt8 := Nat.rec (motive := fun _ => List UInt8 → Nat → List UInt8) (fun W i => setZ W i) (fun _ ih W i => ih (setZ W i) (Nat.sub i 1)) k
noncomputable def zR (R : List UInt8) : Nat := Nat.sub (len R) 1
noncomputable def hR (R : List UInt8) : List UInt8 := app [53] (rep0 (zR R))
noncomputable def obRH (D W R : List UInt8) (U sc m : Nat) (c : Value) : List Bool :=
  [pB (Pure false 134 [strV R, strV (hR R)] c), pB ([strV R, strV (hR R)] = [strV R, strV (hR R)]),
   pI (IntKind.u8.wrap (Int.ofNat (nthD W (ix ((len W).sub 1))).toNat - 48)) U, (ix ((len W).sub 1)).blt (len W), ((len W).sub 1).blt (len W), beqB (Nat.beq 1 1) (Nat.ble 1 (len W)), ((len W).add 1).ble 9223372036854775807,
   ((len [53]).add (len (rep0 (zR R)))).ble 1099511627776, pB (Pure false 92 [strV [48], intV (zR R)] (strV (rep0 (zR R)))), pB ([strV [48], intV (zR R)] = [strV [48], intV (zR R)]), beqB (Nat.beq 1 1) (Nat.ble 1 (len R)), ((len R).add 1).ble 9223372036854775807,
   bytesEq R (List.take ((len D).sub ((len D).sub (sc.sub m))) (List.drop ((len D).sub (sc.sub m)) D)), ((len D).sub (sc.sub m)).ble (len D), (len D).ble (len D),
   bytesEq W (List.take (((len D).sub (sc.sub m)).sub 0) (List.drop 0 D)), ((len D).sub (sc.sub m)).ble (len D), beqB (Nat.beq 1 1) ((sc.sub m).ble (len D)), ((len D).add (sc.sub m)).ble 9223372036854775807, beqB (Nat.beq 1 1) (m.ble sc), (sc.add m).ble 9223372036854775807,
   beqB (Nat.beq 0 1) !iLt (Int.ofNat m) (Int.ofNat sc)]
noncomputable def obRE (X : List UInt8) (n : Nat) (neg : Bool) (m : Nat) (K : List UInt8) : List Bool := [pB (Pure false 112 [.bool neg, strV X, intV m] (decA neg K m)), pB ([.bool neg, strV X, intV m] = [.bool neg, strV X, intV m]), (len X).beq n]
noncomputable def obRG (W : List UInt8) (i n : Nat) (b : Nat) : List Bool :=
  [beqB (Nat.beq b 1) (Nat.ble 1 i), (i.add 1).ble 9223372036854775807, (ix i).blt (len W), i.blt n, beqB (Nat.beq 0 1) (iLt (Int.ofNat (nthD W (ix i)).toNat) 57), (ix i).blt (len W), i.blt n]
noncomputable def obRT (W : List UInt8) (i n : Nat) : List Bool :=
  [(ix i).blt (len W), (((nthD W (ix i)).toNat + 1) % 256).ble 255, i.blt n, (ix i).blt (len W), i.blt n, beqB (Nat.beq 1 1) (iLt (Int.ofNat (nthD W (ix i)).toNat) 57), (ix i).blt (len W), i.blt n]
noncomputable def obRS (n : Nat) (k : Nat) : List UInt8 → Nat → List Bool := Nat.rec (motive := fun _ => List UInt8 → Nat → List Bool) (fun W i => obRT W i n) (fun _ ih W i => app (ih (setZ W i) (Nat.sub i 1)) (obRG W i n 1)) k
noncomputable def obRZ (n : Nat) (k : Nat) : List UInt8 → Nat → List Bool := Nat.rec (motive := fun _ => List UInt8 → Nat → List Bool) (fun W i => obRG W i n 0) (fun _ ih W i => app (ih (setZ W i) (Nat.sub i 1)) (obRG W i n 1)) k
noncomputable def obRU (W : List UInt8) : List Bool := [beqB (Nat.beq 1 1) (Nat.ble 1 (len W)), ((len W).add 1).ble 9223372036854775807]
noncomputable def obRA (X : List UInt8) (n : Nat) : List Bool := [(len X).beq n, beqB (Nat.beq 0 1) ((Nat.add 1 n).ble 1), beqB (Nat.beq 0 1) (n.beq 0), (Nat.add 1 n).ble 4294967296]
noncomputable def obRO (U b : Nat) : List Bool := [beqB (Nat.beq b 1) (iEq (Int.ofNat (U % 2)) 1)]
noncomputable def btH : List Nat := [0, 0, 1, 1, 2, 2, 1, 2, 1, 2, 2, 2, 2, 2, 2, 2, 2]
noncomputable def btS (k : Nat) : List Nat := app (rep [2, 0, 1] k) [2, 1]
noncomputable def btZ (k : Nat) : List Nat := app (rep [2, 0, 1] k) [2, 0, 0, 2, 0, 0]
noncomputable def plR (neg : Bool) (R : List UInt8) (m : Nat) (c : Value) (a : Nat) (X K : List UInt8) : List (Nat × XF) :=
  [(92, xTold false 92 [(7, ([strV [48], intV (zR R)], strV (rep0 (zR R))))]), (134, xTold false 134 [(10, ([strV R, strV (hR R)], c))]), (112, xTold false 112 [(a, ([.bool neg, strV X, intV m], decA neg K m))])]
noncomputable def enR (neg : Bool) (W R : List UInt8) (U m : Nat) (c : Value) (a : Nat) (X K : List UInt8) : Env := envL (plR neg R m c a X K) ((Tr.nil.set 4 W).set 5 R) (Tr.nil.set 9 U)
theorem plR_ok (neg : Bool) (R : List UInt8) (m : Nat) (c : Value) (a : Nat) (X K : List UInt8) : ∀ x ∈ plR neg R m c a X K, ExtOK Tryz.prog 12 x.1 x.2 := by
  intro x hx
  simp only [plR, List.mem_cons, List.not_mem_nil, or_false] at hx
  rcases hx with rfl | rfl | rfl
  · exact xTold_ok false 92 _
  · exact xTold_ok false 134 _
  · exact xTold_ok false 112 _
theorem runR0 (D : List UInt8) (neg : Bool) (sc m : Nat) : lookB (acall (envL [] .nil .nil) 200 89 [decA neg D sc, intV m] (hN (bitz [0, 1]))) = some (decA neg D sc, [], allB (fun b => b) [beqB (Nat.beq 1 1) !iLt (Int.ofNat m) (Int.ofNat sc)]) := by kernel_rfl
def RndRun (c : Value) (a : Nat) (bt : List Nat) (X : List UInt8 → Nat → List UInt8) (ob : List UInt8 → Nat → List Bool) : Prop :=
  ∀ (D W R K : List UInt8) (U sc m : Nat) (neg : Bool), lookB (acall (enR neg W R U m c a (X W (Nat.sub (len W) 1)) K) 200 89 [decA neg D sc, intV m] (hN (bitz (app btH bt)))) =
    some (decA neg K m, [], allB (fun b => b) (app (obRE (X W (Nat.sub (len W) 1)) (len W) neg m K) (app (ob W U) (obRH D W R U sc m c))))
def RndRunZ (c : Value) (a : Nat) (bt : List Nat) (X : List UInt8 → Nat → List UInt8) (ob : List UInt8 → Nat → List Bool) : Prop :=
  ∀ (D W R K : List UInt8) (U sc m : Nat) (neg : Bool), lookB (acall (enR neg W R U m c a (app [49] (X W (Nat.sub (len W) 1))) K) 200 89 [decA neg D sc, intV m] (hN (bitz (app btH bt)))) =
    some (decA neg K m, [], allB (fun b => b) (app (obRE (app [49] (X W (Nat.sub (len W) 1))) (Nat.add 1 (len W)) neg m K) (app (ob W U) (obRH D W R U sc m c))))
theorem runRN : RndRun (.int .i64 (Int.negSucc 0)) 19 [] (fun W _ => W) (fun _ _ => []) := fun D W R K U sc m neg => by kernel_rfl
theorem runRE : RndRun (intV 0) 19 [2, 0] (fun W _ => W) (fun _ U => obRO U 0) := fun D W R K U sc m neg => by kernel_rfl
def RndS (k : Nat) : Prop := RndRun (intV 1) (20 + 3 * k) (app [1] (btS k)) (upS k) (fun W _ => app (obRS (len W) k W (Nat.sub (len W) 1)) (obRU W))
theorem rndS : ∀ k, k ≤ 29 → RndS k
  | 0, _ => fun D W R K U sc m neg => by kernel_rfl
  | 1, _ => fun D W R K U sc m neg => by kernel_rfl
  | 2, _ => fun D W R K U sc m neg => by kernel_rfl
  | 3, _ => fun D W R K U sc m neg => by kernel_rfl
  | 4, _ => fun D W R K U sc m neg => by kernel_rfl
  | 5, _ => fun D W R K U sc m neg => by kernel_rfl
  | 6, _ => fun D W R K U sc m neg => by kernel_rfl
  | 7, _ => fun D W R K U sc m neg => by kernel_rfl
  | 8, _ => fun D W R K U sc m neg => by kernel_rfl
  | 9, _ => fun D W R K U sc m neg => by kernel_rfl
  | 10, _ => fun D W R K U sc m neg => by kernel_rfl
  | 11, _ => fun D W R K U sc m neg => by kernel_rfl
  | 12, _ => fun D W R K U sc m neg => by kernel_rfl
  | 13, _ => fun D W R K U sc m neg => by kernel_rfl
  | 14, _ => fun D W R K U sc m neg => by kernel_rfl
  | 15, _ => fun D W R K U sc m neg => by kernel_rfl
  | 16, _ => fun D W R K U sc m neg => by kernel_rfl
  | 17, _ => fun D W R K U sc m neg => by kernel_rfl
  | 18, _ => fun D W R K U sc m neg => by kernel_rfl
  | 19, _ => fun D W R K U sc m neg => by kernel_rfl
  | 20, _ => fun D W R K U sc m neg => by kernel_rfl
  | 21, _ => fun D W R K U sc m neg => by kernel_rfl
  | 22, _ => fun D W R K U sc m neg => by kernel_rfl
  | 23, _ => fun D W R K U sc m neg => by kernel_rfl
  | 24, _ => fun D W R K U sc m neg => by kernel_rfl
  | 25, _ => fun D W R K U sc m neg => by kernel_rfl
  | 26, _ => fun D W R K U sc m neg => by kernel_rfl
  | 27, _ => fun D W R K U sc m neg => by kernel_rfl
  | 28, _ => fun D W R K U sc m neg => by kernel_rfl
  | 29, _ => fun D W R K U sc m neg => by kernel_rfl
  | _ + 30, h => absurd h (by omega)
def RndT (k : Nat) : Prop := RndRun (intV 0) (22 + 3 * k) (app [2, 1, 1] (btS k)) (upS k) (fun W U => app (obRS (len W) k W (Nat.sub (len W) 1)) (app (obRU W) (obRO U 1)))
theorem rndT : ∀ k, k ≤ 29 → RndT k
  | 0, _ => fun D W R K U sc m neg => by kernel_rfl
  | 1, _ => fun D W R K U sc m neg => by kernel_rfl
  | 2, _ => fun D W R K U sc m neg => by kernel_rfl
  | 3, _ => fun D W R K U sc m neg => by kernel_rfl
  | 4, _ => fun D W R K U sc m neg => by kernel_rfl
  | 5, _ => fun D W R K U sc m neg => by kernel_rfl
  | 6, _ => fun D W R K U sc m neg => by kernel_rfl
  | 7, _ => fun D W R K U sc m neg => by kernel_rfl
  | 8, _ => fun D W R K U sc m neg => by kernel_rfl
  | 9, _ => fun D W R K U sc m neg => by kernel_rfl
  | 10, _ => fun D W R K U sc m neg => by kernel_rfl
  | 11, _ => fun D W R K U sc m neg => by kernel_rfl
  | 12, _ => fun D W R K U sc m neg => by kernel_rfl
  | 13, _ => fun D W R K U sc m neg => by kernel_rfl
  | 14, _ => fun D W R K U sc m neg => by kernel_rfl
  | 15, _ => fun D W R K U sc m neg => by kernel_rfl
  | 16, _ => fun D W R K U sc m neg => by kernel_rfl
  | 17, _ => fun D W R K U sc m neg => by kernel_rfl
  | 18, _ => fun D W R K U sc m neg => by kernel_rfl
  | 19, _ => fun D W R K U sc m neg => by kernel_rfl
  | 20, _ => fun D W R K U sc m neg => by kernel_rfl
  | 21, _ => fun D W R K U sc m neg => by kernel_rfl
  | 22, _ => fun D W R K U sc m neg => by kernel_rfl
  | 23, _ => fun D W R K U sc m neg => by kernel_rfl
  | 24, _ => fun D W R K U sc m neg => by kernel_rfl
  | 25, _ => fun D W R K U sc m neg => by kernel_rfl
  | 26, _ => fun D W R K U sc m neg => by kernel_rfl
  | 27, _ => fun D W R K U sc m neg => by kernel_rfl
  | 28, _ => fun D W R K U sc m neg => by kernel_rfl
  | 29, _ => fun D W R K U sc m neg => by kernel_rfl
  | _ + 30, h => absurd h (by omega)
def RndY (k : Nat) : Prop := RndRunZ (intV 1) (24 + 3 * k) (app [1] (btZ k)) (upZ k) (fun W _ => app (obRA (upZ k W (Nat.sub (len W) 1)) (len W)) (app (obRZ (len W) k W (Nat.sub (len W) 1)) (obRU W)))
theorem rndY : ∀ k, k ≤ 29 → RndY k
  | 0, _ => fun D W R K U sc m neg => by kernel_rfl
  | 1, _ => fun D W R K U sc m neg => by kernel_rfl
  | 2, _ => fun D W R K U sc m neg => by kernel_rfl
  | 3, _ => fun D W R K U sc m neg => by kernel_rfl
  | 4, _ => fun D W R K U sc m neg => by kernel_rfl
  | 5, _ => fun D W R K U sc m neg => by kernel_rfl
  | 6, _ => fun D W R K U sc m neg => by kernel_rfl
  | 7, _ => fun D W R K U sc m neg => by kernel_rfl
  | 8, _ => fun D W R K U sc m neg => by kernel_rfl
  | 9, _ => fun D W R K U sc m neg => by kernel_rfl
  | 10, _ => fun D W R K U sc m neg => by kernel_rfl
  | 11, _ => fun D W R K U sc m neg => by kernel_rfl
  | 12, _ => fun D W R K U sc m neg => by kernel_rfl
  | 13, _ => fun D W R K U sc m neg => by kernel_rfl
  | 14, _ => fun D W R K U sc m neg => by kernel_rfl
  | 15, _ => fun D W R K U sc m neg => by kernel_rfl
  | 16, _ => fun D W R K U sc m neg => by kernel_rfl
  | 17, _ => fun D W R K U sc m neg => by kernel_rfl
  | 18, _ => fun D W R K U sc m neg => by kernel_rfl
  | 19, _ => fun D W R K U sc m neg => by kernel_rfl
  | 20, _ => fun D W R K U sc m neg => by kernel_rfl
  | 21, _ => fun D W R K U sc m neg => by kernel_rfl
  | 22, _ => fun D W R K U sc m neg => by kernel_rfl
  | 23, _ => fun D W R K U sc m neg => by kernel_rfl
  | 24, _ => fun D W R K U sc m neg => by kernel_rfl
  | 25, _ => fun D W R K U sc m neg => by kernel_rfl
  | 26, _ => fun D W R K U sc m neg => by kernel_rfl
  | 27, _ => fun D W R K U sc m neg => by kernel_rfl
  | 28, _ => fun D W R K U sc m neg => by kernel_rfl
  | 29, _ => fun D W R K U sc m neg => by kernel_rfl
  | _ + 30, h => absurd h (by omega)
def RndX (k : Nat) : Prop := RndRunZ (intV 0) (26 + 3 * k) (app [2, 1, 1] (btZ k)) (upZ k) (fun W U => app (obRA (upZ k W (Nat.sub (len W) 1)) (len W)) (app (obRZ (len W) k W (Nat.sub (len W) 1)) (app (obRU W) (obRO U 1))))
theorem rndX : ∀ k, k ≤ 29 → RndX k
  | 0, _ => fun D W R K U sc m neg => by kernel_rfl
  | 1, _ => fun D W R K U sc m neg => by kernel_rfl
  | 2, _ => fun D W R K U sc m neg => by kernel_rfl
  | 3, _ => fun D W R K U sc m neg => by kernel_rfl
  | 4, _ => fun D W R K U sc m neg => by kernel_rfl
  | 5, _ => fun D W R K U sc m neg => by kernel_rfl
  | 6, _ => fun D W R K U sc m neg => by kernel_rfl
  | 7, _ => fun D W R K U sc m neg => by kernel_rfl
  | 8, _ => fun D W R K U sc m neg => by kernel_rfl
  | 9, _ => fun D W R K U sc m neg => by kernel_rfl
  | 10, _ => fun D W R K U sc m neg => by kernel_rfl
  | 11, _ => fun D W R K U sc m neg => by kernel_rfl
  | 12, _ => fun D W R K U sc m neg => by kernel_rfl
  | 13, _ => fun D W R K U sc m neg => by kernel_rfl
  | 14, _ => fun D W R K U sc m neg => by kernel_rfl
  | 15, _ => fun D W R K U sc m neg => by kernel_rfl
  | 16, _ => fun D W R K U sc m neg => by kernel_rfl
  | 17, _ => fun D W R K U sc m neg => by kernel_rfl
  | 18, _ => fun D W R K U sc m neg => by kernel_rfl
  | 19, _ => fun D W R K U sc m neg => by kernel_rfl
  | 20, _ => fun D W R K U sc m neg => by kernel_rfl
  | 21, _ => fun D W R K U sc m neg => by kernel_rfl
  | 22, _ => fun D W R K U sc m neg => by kernel_rfl
  | 23, _ => fun D W R K U sc m neg => by kernel_rfl
  | 24, _ => fun D W R K U sc m neg => by kernel_rfl
  | 25, _ => fun D W R K U sc m neg => by kernel_rfl
  | 26, _ => fun D W R K U sc m neg => by kernel_rfl
  | 27, _ => fun D W R K U sc m neg => by kernel_rfl
  | 28, _ => fun D W R K U sc m neg => by kernel_rfl
  | 29, _ => fun D W R K U sc m neg => by kernel_rfl
  | _ + 30, h => absurd h (by omega)
theorem ix_eq (i : Nat) : ix i = i := by show 0 + i * 1 = i; omega
theorem setL_len {x : UInt8} : ∀ (l : List UInt8) (i : Nat), (setL l i x).length = l.length
  | [], _ => rfl
  | _ :: _, 0 => rfl
  | _ :: l, i + 1 => congrArg Nat.succ (setL_len l i)
theorem setL_digs {x : UInt8} (h1 : 48 ≤ x.toNat) (h2 : x.toNat ≤ 57) : ∀ (l : List UInt8) (i : Nat), Digs l → Digs (setL l i x)
  | [], _, h => h
  | a :: l, 0, h => fun b hb => by
    rcases List.mem_cons.1 (show b ∈ x :: l from hb) with rfl | hb
    · exact ⟨h1, h2⟩
    · exact h b (List.mem_cons_of_mem _ hb)
  | a :: l, i + 1, h => fun b hb => by
    rcases List.mem_cons.1 (show b ∈ a :: setL l i x from hb) with rfl | hb
    · exact h b (List.mem_cons_self ..)
    · exact setL_digs h1 h2 l i (fun y hy => h y (List.mem_cons_of_mem _ hy)) b hb
theorem nthD_digs {l : List UInt8} {i : Nat} (h : Digs l) (hi : i < l.length) : 48 ≤ (nthD l i).toNat ∧ (nthD l i).toNat ≤ 57 := by
  have e := nthD_eq hi
  rw [nth_eq] at e
  exact h _ (List.mem_of_getElem? e)
theorem setU_digs {W : List UInt8} {i : Nat} (h : Digs W) (hi : i < W.length) (h57 : (nthD W i).toNat < 57) : Digs (setU W i) := by
  obtain ⟨a, b⟩ := nthD_digs h hi
  unfold setU
  rw [ix_eq]
  have e : (UInt8.ofNat (((nthD W i).toNat + 1) % 256)).toNat = (nthD W i).toNat + 1 := by simp; omega
  exact setL_digs (by rw [e]; omega) (by rw [e]; omega) W i h
theorem setZ_digs {W : List UInt8} {i : Nat} (h : Digs W) : Digs (setZ W i) := setL_digs (by decide) (by decide) W _ h
theorem setU_len (W : List UInt8) (i : Nat) : (setU W i).length = W.length := setL_len _ _
theorem setZ_len (W : List UInt8) (i : Nat) : (setZ W i).length = W.length := setL_len _ _
inductive Um : Nat → List UInt8 → Nat → List UInt8 → Prop
  | z {W : List UInt8} {i : Nat} : (nthD W i).toNat < 57 → Um 0 W i (setU W i)
  | s {k i : Nat} {W X : List UInt8} : (nthD W i).toNat = 57 → 1 ≤ i → Um k (setZ W i) (i - 1) X → Um (k + 1) W i X
inductive Un : Nat → List UInt8 → Nat → List UInt8 → Prop
  | z {W : List UInt8} : (nthD W 0).toNat = 57 → Un 0 W 0 (setZ W 0)
  | s {k i : Nat} {W X : List UInt8} : (nthD W i).toNat = 57 → 1 ≤ i → Un k (setZ W i) (i - 1) X → Un (k + 1) W i X
theorem um_end : ∀ (i : Nat) (W : List UInt8), i < W.length → Digs W → (∃ k X, Um k W i X) ∨ ∃ k X, Un k W i X
  | i, W, hi, hD => by
    obtain ⟨a, b⟩ := nthD_digs hD hi
    by_cases h : (nthD W i).toNat < 57
    · exact .inl ⟨0, _, .z h⟩
    · have h : (nthD W i).toNat = 57 := by omega
      match i, hi, h with
      | 0, _, h => exact .inr ⟨0, _, .z h⟩
      | i + 1, hi, h =>
        rcases um_end i (setZ W (i + 1)) (by rw [setZ_len]; omega) (setZ_digs hD) with ⟨k, X, t⟩ | ⟨k, X, t⟩
        · exact .inl ⟨k + 1, X, .s h (by omega) t⟩
        · exact .inr ⟨k + 1, X, .s h (by omega) t⟩
theorem iLt57 {a : Nat} : iLt (Int.ofNat a) 57 = decide (a < 57) := by
  rw [iLt_eq]
  by_cases h : a < 57
  · rw [decide_eq_true h, decide_eq_true]; simp; omega
  · rw [decide_eq_false h, decide_eq_false]; simp; omega
theorem obRG_ok {W : List UInt8} {i n b : Nat} (hi : i < W.length) (hn : n = W.length) (hl : W.length ≤ 1000) (h : (nthD W i).toNat = 57) (hb : b = 1 ∧ 1 ≤ i ∨ b = 0 ∧ i = 0) : ∀ y ∈ obRG W i n b, y = true := by
  intro y hy
  unfold obRG at hy
  rw [ix_eq, iLt57, h] at hy
  simp only [List.mem_cons, List.not_mem_nil, or_false] at hy
  rcases hb with ⟨rfl, h1⟩ | ⟨rfl, rfl⟩
  all_goals
    rcases hy with hy | hy | hy | hy | hy | hy | hy
    all_goals (subst hy; first | rfl | (simp [ble_eq, blt_eq, beqB_eq, bq, len_eq]; done) | (simp [ble_eq, blt_eq, beqB_eq, bq, len_eq]; omega))
theorem obRT_ok {W : List UInt8} {i n : Nat} (hi : i < W.length) (hn : n = W.length) (h : (nthD W i).toNat < 57) : ∀ y ∈ obRT W i n, y = true := by
  intro y hy
  unfold obRT at hy
  rw [ix_eq, iLt57, decide_eq_true h] at hy
  simp only [List.mem_cons, List.not_mem_nil, or_false] at hy
  rcases hy with hy | hy | hy | hy | hy | hy | hy | hy
  all_goals (subst hy; first | rfl | (simp [ble_eq, blt_eq, beqB_eq, bq, len_eq]; done) | (simp [ble_eq, blt_eq, beqB_eq, bq, len_eq]; omega))
theorem um_facts {k i : Nat} {W X : List UInt8} (t : Um k W i X) (hi : i < W.length) (hl : W.length ≤ 1000) (hD : Digs W) :
    upS k W i = X ∧ (∀ n, n = W.length → ∀ y ∈ obRS n k W i, y = true) ∧ X.length = W.length ∧ Digs X ∧ k ≤ i := by
  induction t with
  | z h => exact ⟨rfl, fun n hn => obRT_ok hi hn h, setU_len _ _, setU_digs hD hi h, Nat.zero_le _⟩
  | @s k i W X h h1 t ih =>
    obtain ⟨e1, e2, e3, e4, e5⟩ := ih (by rw [setZ_len]; omega) (by rw [setZ_len]; omega) (setZ_digs hD)
    rw [setZ_len] at e3
    refine ⟨e1, fun n hn => ?_, e3, e4, by omega⟩
    show ∀ y ∈ app (obRS n k (setZ W i) (i - 1)) (obRG W i n 1), y = true
    rw [app_eq]
    exact all_app (e2 n (by rw [setZ_len]; exact hn)) (obRG_ok hi hn hl h (.inl ⟨rfl, h1⟩))
theorem un_facts {k i : Nat} {W X : List UInt8} (t : Un k W i X) (hi : i < W.length) (hl : W.length ≤ 1000) (hD : Digs W) :
    upZ k W i = X ∧ (∀ n, n = W.length → ∀ y ∈ obRZ n k W i, y = true) ∧ X.length = W.length ∧ Digs X ∧ k ≤ i := by
  induction t with
  | z h => exact ⟨rfl, fun n hn => obRG_ok hi hn hl h (.inr ⟨rfl, rfl⟩), setZ_len _ _, setZ_digs hD, Nat.zero_le _⟩
  | @s k i W X h h1 t ih =>
    obtain ⟨e1, e2, e3, e4, e5⟩ := ih (by rw [setZ_len]; omega) (by rw [setZ_len]; omega) (setZ_digs hD)
    rw [setZ_len] at e3
    refine ⟨e1, fun n hn => ?_, e3, e4, by omega⟩
    show ∀ y ∈ app (obRZ n k (setZ W i) (i - 1)) (obRG W i n 1), y = true
    rw [app_eq]
    exact all_app (e2 n (by rw [setZ_len]; exact hn)) (obRG_ok hi hn hl h (.inl ⟨rfl, h1⟩))
theorem pI_of {a : Int} {n : Nat} (h : a = Int.ofNat n) : pI a n = true := @decide_eq_true _ (Classical.propDecidable _) h
theorem wrap48 {x : Nat} (h1 : 48 ≤ x) (h2 : x ≤ 57) : pI (IntKind.u8.wrap (Int.ofNat x - 48)) (x - 48) = true := by
  refine pI_of ?_
  have h : x = 48 ∨ x = 49 ∨ x = 50 ∨ x = 51 ∨ x = 52 ∨ x = 53 ∨ x = 54 ∨ x = 55 ∨ x = 56 ∨ x = 57 := by omega
  rcases h with rfl | rfl | rfl | rfl | rfl | rfl | rfl | rfl | rfl | rfl <;> rfl
theorem obRU_ok {W : List UInt8} (h : 1 ≤ W.length) (hl : W.length ≤ 1000) : ∀ y ∈ obRU W, y = true := by
  intro y hy
  unfold obRU at hy
  simp only [List.mem_cons, List.not_mem_nil, or_false] at hy
  rcases hy with hy | hy
  all_goals (subst hy; first | (simp [ble_eq, beqB_eq, bq, len_eq]; done) | (simp [ble_eq, beqB_eq, bq, len_eq]; omega))
theorem obRA_ok {X : List UInt8} {n : Nat} (h : X.length = n) (h1 : 1 ≤ n) (hl : n ≤ 1000) : ∀ y ∈ obRA X n, y = true := by
  intro y hy
  unfold obRA at hy
  simp only [List.mem_cons, List.not_mem_nil, or_false] at hy
  rcases hy with hy | hy | hy | hy
  all_goals (subst hy; first | (simp [ble_eq, beqB_eq, bq, len_eq]; done) | (simp [ble_eq, beqB_eq, bq, len_eq]; omega))
theorem obRO_ok {U b : Nat} (h : b = 1 ∧ U % 2 = 1 ∨ b = 0 ∧ U % 2 ≠ 1) : ∀ y ∈ obRO U b, y = true := by
  have e : iEq (Int.ofNat (U % 2)) 1 = decide (U % 2 = 1) := by
    rw [iEq_eq]
    by_cases h : U % 2 = 1
    · rw [h]; rfl
    · rw [decide_eq_false h, decide_eq_false]
      intro e
      exact h (Int.ofNat.inj e)
  intro y hy
  unfold obRO at hy
  rw [e] at hy
  rcases h with ⟨rfl, h⟩ | ⟨rfl, h⟩
  · rw [decide_eq_true h] at hy; simp only [List.mem_cons, List.not_mem_nil, or_false] at hy; subst hy; rfl
  · rw [decide_eq_false h] at hy; simp only [List.mem_cons, List.not_mem_nil, or_false] at hy; subst hy; rfl
theorem obRH_ok {D W R : List UInt8} {sc m : Nat} {c : Value} (hD : Digs D) (hs : sc < D.length) (hl : D.length ≤ 30) (hm : m < sc) (eW : W = D.take (D.length - (sc - m))) (eR : R = D.drop (D.length - (sc - m)))
    (p92 : Pure false 92 [strV [48], intV (zR R)] (strV (rep0 (zR R)))) (pc : Pure false 134 [strV R, strV (hR R)] c) : ∀ y ∈ obRH D W R ((nthD W (W.length - 1)).toNat - 48) sc m c, y = true := by
  have lW : W.length = D.length - (sc - m) := by rw [eW, List.length_take]; omega
  have lR : R.length = sc - m := by rw [eR, List.length_drop]; omega
  have dW : Digs W := fun b hb => hD b (List.mem_of_mem_take (by rw [eW] at hb; exact hb))
  obtain ⟨a1, a2⟩ := nthD_digs dW (show W.length - 1 < W.length by omega)
  have w := wrap48 a1 a2
  have q1 : bytesEq R (List.take ((len D).sub ((len D).sub (sc.sub m))) (List.drop ((len D).sub (sc.sub m)) D)) = true := by
    rw [bytesEq_eq, eR, len_eq]
    show decide (D.drop (D.length - (sc - m)) = List.take (D.length - (D.length - (sc - m))) (D.drop (D.length - (sc - m)))) = true
    rw [List.take_of_length_le (by simp)]; simp
  have q2 : bytesEq W (List.take (((len D).sub (sc.sub m)).sub 0) (List.drop 0 D)) = true := by
    rw [bytesEq_eq, eW, len_eq]; exact decide_eq_true rfl
  have hle : iLt (Int.ofNat m) (Int.ofNat sc) = true := iLt_yes hm
  have e1 : zR R = sc - m - 1 := by unfold zR; rw [len_eq, lR]; rfl
  intro y hy
  unfold obRH at hy
  rw [ix_eq, len_eq W, show Nat.sub W.length 1 = W.length - 1 from rfl, w, q1, q2, hle, len_eq R, len_eq D, len_eq (rep0 (zR R)), rep0_len, lW, lR, e1] at hy
  rw [e1] at p92
  simp only [List.mem_cons, List.not_mem_nil, or_false] at hy
  rcases hy with hy | hy | hy | hy | hy | hy | hy | hy | hy | hy | hy | hy | hy | hy | hy | hy | hy | hy | hy | hy | hy | hy
  all_goals (subst hy; first | rfl | exact pB_of pc | exact pB_of p92 | exact pB_of trivial | exact pB_of rfl | (simp [ble_eq, blt_eq, beqB_eq, bq, len_eq]; done) | (simp [ble_eq, blt_eq, beqB_eq, bq, len_eq]; omega))
theorem obRE_ok {X K : List UInt8} {n m : Nat} {neg : Bool} (h : X.length = n) (p : Pure false 112 [.bool neg, strV X, intV m] (decA neg K m)) : ∀ y ∈ obRE X n neg m K, y = true := by
  intro y hy
  unfold obRE at hy
  rcases List.mem_cons.1 hy with rfl | hy
  · exact pB_of p
  rcases List.mem_cons.1 hy with rfl | hy
  · exact pB_of rfl
  rcases List.mem_cons.1 hy with rfl | hy
  · rw [bq, len_eq, h]; exact decide_eq_true rfl
  · cases hy
theorem app_all {l r : List Bool} (h : ∀ x ∈ l, x = true) (k : ∀ x ∈ r, x = true) : ∀ x ∈ app l r, x = true := by rw [app_eq]; exact all_app h k
theorem round_tells (neg : Bool) {D : List UInt8} {sc m : Nat} (hm : m ≤ 20) (hD : Digs D) (hs : sc < D.length) (hl : D.length ≤ 30) :
    ∃ D1 s1, Pure false 89 [decA neg D sc, intV m] (decA neg D1 s1) ∧ Digs D1 ∧ s1 < D1.length ∧ D1.length ≤ 40 ∧ s1 ≤ 20 := by
  have fl : ∀ v ∈ [decA neg D sc, intV m], flat 5 v = true := flat2 rfl rfl
  by_cases hsm : m < sc
  · obtain ⟨W, eW⟩ : ∃ W, W = D.take (D.length - (sc - m)) := ⟨_, rfl⟩
    obtain ⟨R, eR⟩ : ∃ R, R = D.drop (D.length - (sc - m)) := ⟨_, rfl⟩
    have lW : W.length = D.length - (sc - m) := by rw [eW, List.length_take]; omega
    have lR : R.length = sc - m := by rw [eR, List.length_drop]; omega
    have dW : Digs W := fun b hb => hD b (List.mem_of_mem_take (by rw [eW] at hb; exact hb))
    have e1 : zR R = sc - m - 1 := by unfold zR; rw [len_eq, lR]; rfl
    have p92 := repeat_pure (z := zR R) (by rw [e1]; omega)
    have i0 : Nat.sub (len W) 1 = W.length - 1 := by rw [len_eq]; rfl
    have fin : ∀ {c : Value} {a : Nat} {bt : List Nat} {X : List UInt8 → Nat → List UInt8} {ob : List UInt8 → Nat → List Bool}, RndRun c a bt X ob → Pure false 134 [strV R, strV (hR R)] c → Digs (X W (Nat.sub (len W) 1)) → (X W (Nat.sub (len W) 1)).length = W.length → (∀ y ∈ ob W ((nthD W (W.length - 1)).toNat - 48), y = true) →
        ∃ D1 s1, Pure false 89 [decA neg D sc, intV m] (decA neg D1 s1) ∧ Digs D1 ∧ s1 < D1.length ∧ D1.length ≤ 40 ∧ s1 ≤ 20 := by
      intro c a bt X ob run pc hX lX ho
      obtain ⟨K, k1, k2, k3, k4⟩ := make0_pure neg hm hX (by rw [lX]; omega)
      refine ⟨K, m, pureN (envL_ok (plR_ok _ _ _ _ _ _ _)) (run D W R K ((nthD W (W.length - 1)).toNat - 48) sc m neg) ?_ fl rfl, k2, k3, k4, hm⟩
      exact app_all (obRE_ok (by rw [lX, len_eq]) k1) (app_all ho (obRH_ok hD hs hl hsm eW eR p92 pc))
    have finZ : ∀ {c : Value} {a : Nat} {bt : List Nat} {X : List UInt8 → Nat → List UInt8} {ob : List UInt8 → Nat → List Bool}, RndRunZ c a bt X ob → Pure false 134 [strV R, strV (hR R)] c → Digs (X W (Nat.sub (len W) 1)) → (X W (Nat.sub (len W) 1)).length = W.length → (∀ y ∈ ob W ((nthD W (W.length - 1)).toNat - 48), y = true) →
        ∃ D1 s1, Pure false 89 [decA neg D sc, intV m] (decA neg D1 s1) ∧ Digs D1 ∧ s1 < D1.length ∧ D1.length ≤ 40 ∧ s1 ≤ 20 := by
      intro c a bt X ob run pc hX lX ho
      have dX : Digs (app [49] (X W (Nat.sub (len W) 1))) := digs_app (fun b hb => by simp at hb; subst hb; decide) hX
      have lX1 : (app [49] (X W (Nat.sub (len W) 1))).length = 1 + W.length := by rw [app_eq, List.length_append, lX]; rfl
      obtain ⟨K, k1, k2, k3, k4⟩ := make0_pure neg hm dX (by rw [lX1]; omega)
      refine ⟨K, m, pureN (envL_ok (plR_ok _ _ _ _ _ _ _)) (run D W R K ((nthD W (W.length - 1)).toNat - 48) sc m neg) ?_ fl rfl, k2, k3, k4, hm⟩
      exact app_all (obRE_ok (by rw [lX1, len_eq]; rfl) k1) (app_all ho (obRH_ok hD hs hl hsm eW eR p92 pc))
    have oU := obRU_ok (W := W) (by omega) (by omega)
    obtain ⟨c, hc, pc⟩ := cmp_pure R (hR R)
    rcases hc with rfl | rfl | rfl
    · exact fin runRN pc dW rfl (fun y hy => by cases hy)
    · by_cases hodd : ((nthD W (W.length - 1)).toNat - 48) % 2 = 1
      · have oO := obRO_ok (U := (nthD W (W.length - 1)).toNat - 48) (.inl ⟨rfl, hodd⟩)
        rcases um_end (W.length - 1) W (by omega) dW with ⟨k, X, t⟩ | ⟨k, X, t⟩
        · obtain ⟨u1, u2, u3, u4, u5⟩ := um_facts t (by omega) (by omega) dW
          refine fin (rndT k (by omega)) pc (by rw [i0, u1]; exact u4) (by rw [i0, u1]; exact u3) ?_
          rw [i0]
          exact app_all (u2 _ (len_eq W)) (app_all oU oO)
        · obtain ⟨u1, u2, u3, u4, u5⟩ := un_facts t (by omega) (by omega) dW
          refine finZ (rndX k (by omega)) pc (by rw [i0, u1]; exact u4) (by rw [i0, u1]; exact u3) ?_
          rw [i0, u1]
          exact app_all (obRA_ok (by rw [u3, len_eq]) (by rw [len_eq]; omega) (by rw [len_eq]; omega)) (app_all (u2 _ (len_eq W)) (app_all oU oO))
      · exact fin runRE pc dW rfl (obRO_ok (.inr ⟨rfl, hodd⟩))
    · rcases um_end (W.length - 1) W (by omega) dW with ⟨k, X, t⟩ | ⟨k, X, t⟩
      · obtain ⟨u1, u2, u3, u4, u5⟩ := um_facts t (by omega) (by omega) dW
        refine fin (rndS k (by omega)) pc (by rw [i0, u1]; exact u4) (by rw [i0, u1]; exact u3) ?_
        rw [i0]
        exact app_all (u2 _ (len_eq W)) oU
      · obtain ⟨u1, u2, u3, u4, u5⟩ := un_facts t (by omega) (by omega) dW
        refine finZ (rndY k (by omega)) pc (by rw [i0, u1]; exact u4) (by rw [i0, u1]; exact u3) ?_
        rw [i0, u1]
        exact app_all (obRA_ok (by rw [u3, len_eq]) (by rw [len_eq]; omega) (by rw [len_eq]; omega)) (app_all (u2 _ (len_eq W)) oU)
  · refine ⟨D, sc, pureN (envL_ok none_ok) (runR0 D neg sc m) (fun y hy => ?_) fl rfl, hD, hs, by omega, by omega⟩
    simp only [List.mem_cons, List.not_mem_nil, or_false] at hy
    subst hy
    rw [iLt_none hsm]; rfl
end Go.Proofs.YtkmbkejmfffafaaGreatDoor.Refl
