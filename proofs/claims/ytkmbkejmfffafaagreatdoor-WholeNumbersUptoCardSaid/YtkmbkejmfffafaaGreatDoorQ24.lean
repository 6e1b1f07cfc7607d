/- Texts joined by this session's own program, part 24. -/
import Derived.Test.YtkmbkejmfffafaaGreatDoorQ8
import Derived.Lib.SplitLaws
import Derived.Test.YtkmbkejmfffafaaGreatDoorQ20
import Derived.Test.YtkmbkejmfffafaaGreatDoorQ21
import Derived.Test.YtkmbkejmfffafaaGreatDoorQ22
import Derived.Test.YtkmbkejmfffafaaGreatDoorQ23
import Derived.Test.YtkmbkejmfffafaaGreatDoorRows
import Derived.Deep.Strs
import Derived.RowKit
import Derived.OpenShut
import Derived.ShutString
import Derived.ProofKit
set_option linter.unusedSectionVars false
set_option linter.unusedVariables false
set_option linter.unusedSimpArgs false
section
namespace Go.Proofs.YtkmbkejmfffafaaGreatDoor.Pure
open Go.RowKit Go.Proofs.YtkmbkejmfffafaaGreatDoorHand Go.Proofs.YtkmbkejmfffafaaGreatDoorW.PrintWords Go.Proofs.YtkmbkejmfffafaaGreatDoorW.PrintLast Go.Proofs.YtkmbkejmfffafaaGreatDoorW.PrintMore
set_option linter.unusedSimpArgs false
theorem tl (s : ByteArray) : s.toList = s.data.toList := Lib.toList_data s
theorem tl_len (s : ByteArray) : s.data.toList.length = s.size := by rw [Array.length_toList]; rfl
theorem ba_ext {a b : ByteArray} (h : a.data.toList = b.data.toList) : a = b := by
  apply ByteArray.ext
  exact Array.ext' h
def noH (l : List UInt8) : Prop := ∀ x ∈ l, x ≠ 45
def cuts : List UInt8 → List (List UInt8)
  | [] => [[]]
  | c :: r => if c = 45 then [] :: cuts r else match cuts r with
    | [] => [[c]]
    | h :: t => (c :: h) :: t
theorem cuts_ne : ∀ l, cuts l ≠ []
  | [] => by simp [cuts]
  | c :: r => by
    unfold cuts
    split
    · simp
    · split <;> simp
theorem cuts_noH : ∀ (l : List UInt8) (p : List UInt8), p ∈ cuts l → noH p
  | [], p, h => by
    simp only [cuts, List.mem_singleton] at h
    subst h
    intro x hx; simp at hx
  | c :: r, p, h => by
    unfold cuts at h
    split at h
    · simp only [List.mem_cons] at h
      rcases h with rfl | h
      · intro x hx; simp at hx
      · exact cuts_noH r p h
    · rename_i hc
      split at h
      · rename_i hn; exact absurd hn (cuts_ne r)
      · rename_i h0 t0 he
        simp only [List.mem_cons] at h
        rcases h with rfl | h
        · intro x hx
          simp only [List.mem_cons] at hx
          rcases hx with rfl | hx
          · exact hc
          · exact cuts_noH r h0 (by rw [he]; simp) x hx
        · exact cuts_noH r p (by rw [he]; simp [h])
theorem cuts_app : ∀ (a : List UInt8) (r : List UInt8), noH a → cuts (a ++ 45 :: r) = a :: cuts r
  | [], r, _ => by simp [cuts]
  | c :: a, r, h => by
    have hc : c ≠ 45 := h c (by simp)
    have ih := cuts_app a r (fun x hx => h x (by simp [hx]))
    rw [List.cons_append]
    show (if c = 45 then [] :: cuts (a ++ 45 :: r) else match cuts (a ++ 45 :: r) with | [] => [[c]] | h :: t => (c :: h) :: t) = _
    rw [if_neg hc, ih]
theorem cuts_one : ∀ (a : List UInt8), noH a → cuts a = [a]
  | [], _ => rfl
  | c :: a, h => by
    have hc : c ≠ 45 := h c (by simp)
    have ih := cuts_one a (fun x hx => h x (by simp [hx]))
    show (if c = 45 then [] :: cuts a else match cuts a with | [] => [[c]] | h :: t => (c :: h) :: t) = _
    rw [if_neg hc, ih]
theorem cuts_join : ∀ (ps : List (List UInt8)), ps ≠ [] → (∀ p ∈ ps, noH p) → cuts (Lib.join ps [45]) = ps
  | [], h, _ => absurd rfl h
  | [p], _, h => by rw [Lib.join_one]; exact cuts_one p (h p (by simp))
  | p :: q :: r, _, h => by
    have e : Lib.join (p :: q :: r) [45] = p ++ 45 :: Lib.join (q :: r) [45] := by
      unfold Lib.join
      simp [List.intercalate, List.intersperse]
    rw [e, cuts_app p _ (h p (by simp)), cuts_join (q :: r) (by simp) (fun x hx => h x (by simp [List.mem_cons] at hx ⊢; exact .inr hx))]
theorem index_miss : ∀ (l : List UInt8), Lib.indexByte l 45 = -1 → noH l
  | [], _ => by intro x hx; simp at hx
  | c :: r, h => by
    unfold Lib.indexByte at h
    split at h
    · cases h
    · rename_i hc
      split at h
      · rename_i he
        intro x hx
        simp only [List.mem_cons] at hx
        rcases hx with rfl | hx
        · intro e; subst e; simp at hc
        · exact index_miss r (beq_iff_eq.1 he) x hx
      · rename_i he
        have := Lib.indexByte_ge r 45
        have hne : Lib.indexByte r 45 ≠ -1 := fun e => he (beq_iff_eq.2 e)
        omega
theorem index_hit : ∀ (l : List UInt8) (i : Nat), Lib.indexByte l 45 = i → ∃ a r, l = a ++ 45 :: r ∧ a.length = i ∧ noH a
  | [], i, h => by
    have h' : (-1 : Int) = i := h
    omega
  | c :: r, i, h => by
    unfold Lib.indexByte at h
    split at h
    · rename_i hc
      have hc' : c = 45 := beq_iff_eq.1 hc
      subst hc'
      have : i = 0 := by omega
      subst this
      exact ⟨[], r, rfl, rfl, by intro x hx; simp at hx⟩
    · rename_i hc
      split at h
      · omega
      · rename_i he
        have hg := Lib.indexByte_ge r 45
        have hne : Lib.indexByte r 45 ≠ -1 := fun e => he (beq_iff_eq.2 e)
        obtain ⟨a, r', h1, h2, h3⟩ := index_hit r (i - 1) (by omega)
        refine ⟨c :: a, r', by rw [h1]; rfl, by simp [h2]; omega, ?_⟩
        intro x hx
        simp only [List.mem_cons] at hx
        rcases hx with rfl | hx
        · intro e; subst e; simp at hc
        · exact h3 x hx
theorem splitK_cuts : ∀ (k : Nat) (s : List UInt8), s.count 45 = k → Lib.splitK [45] 0 k s = cuts s
  | 0, s, h => by
    have hn : noH s := fun x hx e => by
      subst e
      have := List.count_pos_iff.2 hx
      omega
    rw [cuts_one s hn]
    rfl
  | k + 1, s, h => by
    unfold Lib.splitK
    rw [Lib.index_one]
    have hg := Lib.indexByte_ge s 45
    by_cases hm : Lib.indexByte s 45 = -1
    · have hn := index_miss s hm
      have : s.count 45 = 0 := List.count_eq_zero.2 (fun hx => hn 45 hx rfl)
      omega
    · rw [if_neg (by rw [beq_iff_eq]; exact hm)]
      obtain ⟨a, r, h1, h2, h3⟩ := index_hit s (Lib.indexByte s 45).toNat (by omega)
      have hc : r.count 45 = k := by
        have ha : a.count 45 = 0 := List.count_eq_zero.2 (fun hx => h3 45 hx rfl)
        rw [h1, List.count_append, ha] at h
        simp at h
        omega
      have e1 : s.take ((Lib.indexByte s 45).toNat + 0) = a := by
        rw [Nat.add_zero]
        generalize (Lib.indexByte s 45).toNat = i at *
        subst h2; rw [h1]; simp
      have e2 : s.drop ((Lib.indexByte s 45).toNat + ([45] : List UInt8).length) = r := by
        generalize (Lib.indexByte s 45).toNat = i at *
        subst h2; rw [h1]; simp
      rw [e1, e2, splitK_cuts k r hc, h1, cuts_app a r h3]
end Go.Proofs.YtkmbkejmfffafaaGreatDoor.Pure
end
section
namespace Go.Proofs.YtkmbkejmfffafaaGreatDoor.Pure
open Go.RowKit Go.Proofs.YtkmbkejmfffafaaGreatDoorHand Go.Proofs.YtkmbkejmfffafaaGreatDoorW.PrintWords Go.Proofs.YtkmbkejmfffafaaGreatDoorW.PrintLast Go.Proofs.YtkmbkejmfffafaaGreatDoorW.PrintMore
set_option linter.unusedSimpArgs false
def mkB (l : List UInt8) : ByteArray := ⟨l.toArray⟩
theorem mkB_data (l : List UInt8) : (mkB l).data.toList = l := rfl
theorem mkB_back (s : ByteArray) : mkB s.data.toList = s := ba_ext rfl
theorem mkB_size (l : List UInt8) : (mkB l).size = l.length := by rw [← tl_len, mkB_data]
def pcs (s : ByteArray) : List ByteArray := (cuts s.data.toList).map mkB
theorem cuts_len : ∀ (l : List UInt8), (∀ p ∈ cuts l, p.length ≤ l.length) ∧ (cuts l).length ≤ l.length + 1
  | [] => by simp [cuts]
  | c :: r => by
    obtain ⟨h1, h2⟩ := cuts_len r
    unfold cuts
    split
    · refine ⟨fun p hp => ?_, by simp; omega⟩
      simp only [List.mem_cons] at hp
      rcases hp with rfl | hp
      · simp
      · have := h1 p hp; simp; omega
    · split
      · rename_i hn; exact absurd hn (cuts_ne r)
      · rename_i h0 t0 he
        rw [he] at h1 h2
        refine ⟨fun p hp => ?_, by simp at h2 ⊢; omega⟩
        simp only [List.mem_cons] at hp
        rcases hp with rfl | hp
        · have := h1 h0 (by simp); simp; omega
        · have := h1 p (by simp [hp]); simp; omega
def Good (n : Nat) (p : ByteArray) : Prop := noH p.data.toList ∧ p.size ≤ n
theorem pcs_good (s : ByteArray) : ∀ p ∈ pcs s, Good s.size p := by
  intro p hp
  unfold pcs at hp
  obtain ⟨l, hl, rfl⟩ := List.mem_map.1 hp
  refine ⟨cuts_noH _ l hl, ?_⟩
  rw [mkB_size, ← tl_len]
  exact (cuts_len _).1 l hl
theorem pcs_length (s : ByteArray) : 0 < (pcs s).length ∧ (pcs s).length ≤ s.size + 1 := by
  have h := (cuts_len s.data.toList).2
  have hn := cuts_ne s.data.toList
  unfold pcs
  rw [List.length_map, ← tl_len]
  exact ⟨List.length_pos_iff.2 hn, h⟩
theorem fc_noH (up : Bool) (c : UInt8) (h : c ≠ 45) : fc up c ≠ 45 := by
  have hb : c.toNat < 256 := c.toNat_lt
  unfold fc
  cases up with
  | true =>
    rw [if_pos rfl]
    split
    · intro e
      have := congrArg UInt8.toNat e
      rw [UInt8.toNat_ofNat'] at this
      have h45 : (45 : UInt8).toNat = 45 := rfl
      omega
    · exact h
  | false =>
    rw [if_neg (by simp)]
    split
    · intro e
      have := congrArg UInt8.toNat e
      rw [UInt8.toNat_ofNat'] at this
      have h45 : (45 : UInt8).toNat = 45 := rfl
      omega
    · exact h
theorem fold_good (n : Nat) (up : Bool) (p : ByteArray) (h : Good n p) : Good n (foldS up p) := by
  refine ⟨?_, by rw [foldS_size]; exact h.2⟩
  intro x hx
  have hx' : x ∈ p.data.toList.map (fc up) := hx
  obtain ⟨c, hc, rfl⟩ := List.mem_map.1 hx'
  exact fc_noH up c (h.1 c hc)
theorem extract_list (p : ByteArray) (a b : Nat) : (p.extract a b).data.toList = (p.data.toList.drop a).take (b - a) := by
  rw [Lib.extract_data]
theorem extract_good (n : Nat) (p : ByteArray) (a b : Nat) (h : Good n p) : Good n (p.extract a b) := by
  refine ⟨?_, by have := h.2; rw [ByteArray.size_extract]; omega⟩
  intro x hx
  rw [extract_list] at hx
  exact h.1 x (List.mem_of_mem_drop (List.mem_of_mem_take hx))
theorem scr_good (n : Nat) (p : ByteArray) (h : Good n p) : Good n (scrS p) := by
  have h1 := fold_good n true _ (extract_good n p 0 1 h)
  have h2 := fold_good n false _ (extract_good n p 1 p.size h)
  refine ⟨?_, ?_⟩
  · intro x hx
    have hx' : x ∈ (foldS true (p.extract 0 1)).data.toList ++ (foldS false (p.extract 1 p.size)).data.toList := by
      unfold scrS at hx
      rw [ByteArray.data_append, Array.toList_append] at hx
      exact hx
    rcases List.mem_append.1 hx' with hx | hx
    · exact h1.1 x hx
    · exact h2.1 x hx
  · unfold scrS
    have := h.2
    rw [ByteArray.size_append, foldS_size, foldS_size, ByteArray.size_extract, ByteArray.size_extract]
    omega
def GoodT (n : Nat) (t : ByteArray × ByteArray × ByteArray × List ByteArray × Bool) : Prop := Good n t.1 ∧ Good n t.2.1 ∧ Good n t.2.2.1 ∧ (∀ v ∈ t.2.2.2.1, Good n v)
theorem good_nil (n : Nat) : Good n (⟨#[]⟩ : ByteArray) := ⟨(fun x hx => by cases hx), Nat.zero_le _⟩
theorem good_not (n : Nat) : GoodT n notTold := ⟨good_nil n, good_nil n, good_nil n, (fun v hv => by cases hv)⟩
theorem P3_good (n : Nat) (lang scr reg : ByteArray) (h1 : Good n lang) (h2 : Good n scr) (h3 : Good n reg) : ∀ (l acc : List ByteArray), (∀ p ∈ l, Good n p) → (∀ p ∈ acc, Good n p) →
    GoodT n (P3 lang scr reg l acc) ∧ (P3 lang scr reg l acc).2.2.2.1.length ≤ acc.length + l.length
  | [], acc, _, ha => ⟨⟨h1, h2, h3, ha⟩, by simp [P3]⟩
  | p :: ps, acc, hl, ha => by
    have e : P3 lang scr reg (p :: ps) acc = if varB p = true then (if hasS acc (foldS false p) = true then notTold else P3 lang scr reg ps (acc ++ [foldS false p])) else notTold := rfl
    rw [e]
    by_cases hv : varB p = true
    · rw [if_pos hv]
      by_cases hh : hasS acc (foldS false p) = true
      · rw [if_pos hh]
        exact ⟨good_not n, Nat.zero_le _⟩
      · rw [if_neg hh]
        have ih := P3_good n lang scr reg h1 h2 h3 ps (acc ++ [foldS false p]) (fun q hq => hl q (by simp [hq])) (fun q hq => by
          rcases List.mem_append.1 hq with hq | hq
          · exact ha q hq
          · simp only [List.mem_singleton] at hq
            subst hq
            exact fold_good n false p (hl p (by simp)))
        refine ⟨ih.1, ?_⟩
        have := ih.2
        rw [List.length_append, List.length_singleton] at this
        rw [List.length_cons]
        omega
    · rw [if_neg hv]
      exact ⟨good_not n, Nat.zero_le _⟩
theorem P2_good (n : Nat) (lang scr : ByteArray) (h1 : Good n lang) (h2 : Good n scr) (l : List ByteArray) (hl : ∀ p ∈ l, Good n p) : GoodT n (P2 lang scr l) ∧ (P2 lang scr l).2.2.2.1.length ≤ l.length := by
  cases l with
  | nil => exact P3_good n lang scr _ h1 h2 (good_nil n) [] [] hl (by intro v hv; cases hv)
  | cons p ps =>
    have e : P2 lang scr (p :: ps) = if regB p = true then P3 lang scr (foldS true p) ps [] else P3 lang scr (⟨#[]⟩ : ByteArray) (p :: ps) [] := rfl
    rw [e]
    by_cases hv : regB p = true
    · rw [if_pos hv]
      have := P3_good n lang scr (foldS true p) h1 h2 (fold_good n true p (hl p (by simp))) ps [] (fun q hq => hl q (by simp [hq])) (by intro v hv; cases hv)
      refine ⟨this.1, ?_⟩
      have h := this.2
      rw [List.length_nil] at h
      rw [List.length_cons]
      omega
    · rw [if_neg hv]
      have := P3_good n lang scr _ h1 h2 (good_nil n) (p :: ps) [] hl (by intro v hv; cases hv)
      refine ⟨this.1, ?_⟩
      have h := this.2
      rw [List.length_nil] at h
      omega
theorem P1_good (n : Nat) (lang : ByteArray) (h1 : Good n lang) (l : List ByteArray) (hl : ∀ p ∈ l, Good n p) : GoodT n (P1 lang l) ∧ (P1 lang l).2.2.2.1.length ≤ l.length := by
  cases l with
  | nil => exact P2_good n lang _ h1 (good_nil n) [] hl
  | cons p ps =>
    have e : P1 lang (p :: ps) = if scrB p = true then P2 lang (scrS p) ps else P2 lang (⟨#[]⟩ : ByteArray) (p :: ps) := rfl
    rw [e]
    by_cases hv : scrB p = true
    · rw [if_pos hv]
      have := P2_good n lang (scrS p) h1 (scr_good n p (hl p (by simp))) ps (fun q hq => hl q (by simp [hq]))
      exact ⟨this.1, by have := this.2; rw [List.length_cons]; omega⟩
    · rw [if_neg hv]
      exact P2_good n lang _ h1 (good_nil n) (p :: ps) hl
theorem P0_good (n : Nat) (l : List ByteArray) (hl : ∀ p ∈ l, Good n p) : GoodT n (P0 l) ∧ (P0 l).2.2.2.1.length ≤ l.length := by
  cases l with
  | nil => exact ⟨good_not n, Nat.zero_le _⟩
  | cons p ps =>
    have e : P0 (p :: ps) = if badB p = true then notTold else P1 (foldS false p) ps := rfl
    rw [e]
    by_cases hv : badB p = true
    · rw [if_pos hv]
      exact ⟨good_not n, Nat.zero_le _⟩
    · rw [if_neg hv]
      have := P1_good n (foldS false p) (fold_good n false p (hl p (by simp))) ps (fun q hq => hl q (by simp [hq]))
      exact ⟨this.1, by have := this.2; rw [List.length_cons]; omega⟩
def partsL (lang scr reg : ByteArray) (vs : List ByteArray) : List ByteArray := [lang] ++ (if scr.toList = ([] : List UInt8) then [] else [scr]) ++ (if reg.toList = ([] : List UInt8) then [] else [reg]) ++ vs
theorem partsL_good (n : Nat) (lang scr reg : ByteArray) (vs : List ByteArray) (h : GoodT n (lang, scr, reg, vs, true)) : ∀ p ∈ partsL lang scr reg vs, Good n p := by
  intro p hp
  obtain ⟨h1, h2, h3, h4⟩ := h
  unfold partsL at hp
  rcases List.mem_append.1 hp with hp | hp
  · rcases List.mem_append.1 hp with hp | hp
    · rcases List.mem_append.1 hp with hp | hp
      · simp only [List.mem_singleton] at hp
        subst hp; exact h1
      · split at hp
        · cases hp
        · simp only [List.mem_singleton] at hp
          subst hp; exact h2
    · split at hp
      · cases hp
      · simp only [List.mem_singleton] at hp
        subst hp; exact h3
  · exact h4 p hp
theorem partsL_ne (lang scr reg : ByteArray) (vs : List ByteArray) : partsL lang scr reg vs ≠ [] := by unfold partsL; simp
theorem partsL_len (lang scr reg : ByteArray) (vs : List ByteArray) : (partsL lang scr reg vs).length ≤ vs.length + 3 ∧ 1 ≤ (partsL lang scr reg vs).length := by
  unfold partsL
  split <;> split <;> simp <;> omega
def textL (ps : List ByteArray) : ByteArray := mkB (Lib.join (ps.map (·.data.toList)) [45])
theorem join_len (n : Nat) : ∀ (ps : List (List UInt8)), (∀ p ∈ ps, p.length ≤ n) → (Lib.join ps [45]).length ≤ ps.length * (n + 1)
  | [], _ => by simp [Lib.join]
  | [p], h => by rw [Lib.join_one]; have := h p (by simp); simp; omega
  | p :: q :: r, h => by
    have e : Lib.join (p :: q :: r) [45] = p ++ 45 :: Lib.join (q :: r) [45] := by
      unfold Lib.join
      simp [List.intercalate, List.intersperse]
    have ih := join_len n (q :: r) (fun x hx => h x (by simp [List.mem_cons] at hx ⊢; exact .inr hx))
    have := h p (by simp)
    rw [e, List.length_append, List.length_cons, List.length_cons, Nat.succ_mul]
    omega
theorem text_pcs (n : Nat) (ps : List ByteArray) (h0 : ps ≠ []) (h : ∀ p ∈ ps, Good n p) : pcs (textL ps) = ps := by
  unfold pcs textL
  rw [mkB_data, cuts_join]
  · rw [List.map_map]
    have : (mkB ∘ fun x : ByteArray => x.data.toList) = id := by funext x; exact mkB_back x
    rw [this, List.map_id]
  · intro e
    exact h0 (List.map_eq_nil_iff.1 e)
  · intro p hp
    obtain ⟨q, hq, rfl⟩ := List.mem_map.1 hp
    exact (h q hq).1
theorem text_size (n : Nat) (ps : List ByteArray) (h : ∀ p ∈ ps, Good n p) : (textL ps).size ≤ ps.length * (n + 1) := by
  unfold textL
  rw [mkB_size]
  have := join_len n (ps.map (·.data.toList)) (fun p hp => by
    obtain ⟨q, hq, rfl⟩ := List.mem_map.1 hp
    rw [tl_len]; exact (h q hq).2)
  rw [List.length_map] at this
  exact this
theorem join_eq (ps : List ByteArray) (n : Nat) (h : ∀ p ∈ ps, Good n p) (hl : ps.length ≤ 1000) (hn : n ≤ 900) : strings_Join.f ps (⟨#[45]⟩ : ByteArray) = some (textL ps) := by
  have hs := text_size n ps h
  unfold textL at hs
  rw [mkB_size] at hs
  have hm : ps.length * (n + 1) ≤ 1000 * (n + 1) := Nat.mul_le_mul_right _ hl
  unfold strings_Join.f
  rw [if_pos]
  · rfl
  · exact ⟨by omega, by
      show (Lib.join (ps.map (·.data.toList)) [45]).length ≤ 2000000
      omega⟩
end Go.Proofs.YtkmbkejmfffafaaGreatDoor.Pure
end
section
namespace Go.Proofs.YtkmbkejmfffafaaGreatDoor.Pure
open Go.RowKit Go.Proofs.YtkmbkejmfffafaaGreatDoorHand Go.Proofs.YtkmbkejmfffafaaGreatDoorW.PrintWords Go.Proofs.YtkmbkejmfffafaaGreatDoorW.PrintLast Go.Proofs.YtkmbkejmfffafaaGreatDoorW.PrintMore
set_option linter.unusedSimpArgs false
set_option linter.unusedVariables false
def fcN (up : Bool) (n : Nat) : Nat := if up = true then (if 97 ≤ n ∧ n ≤ 122 then n - 32 else n) else (if 65 ≤ n ∧ n ≤ 90 then n + 32 else n)
theorem fc_nat (up : Bool) (c : UInt8) : (fc up c).toNat = fcN up c.toNat := by
  have hb : c.toNat < 256 := c.toNat_lt
  unfold fc fcN
  cases up with
  | true =>
    simp only [if_true]
    split
    · rw [UInt8.toNat_ofNat']; omega
    · rfl
  | false =>
    simp only [if_false, Bool.false_eq_true]
    split
    · rw [UInt8.toNat_ofNat']; omega
    · rfl
theorem fcN_fcN (a b : Bool) (n : Nat) : fcN a (fcN b n) = fcN a n := by
  unfold fcN
  cases a <;> cases b <;> simp only [if_true, if_false, Bool.false_eq_true] <;> (repeat' split) <;> omega
theorem fc_fc (a b : Bool) (c : UInt8) : fc a (fc b c) = fc a c := UInt8.toNat_inj.1 (by rw [fc_nat, fc_nat, fcN_fcN, fc_nat])
theorem let_fc (a : Bool) (c : UInt8) : letB ((fc a c).toNat : Int) = letB (c.toNat : Int) := by
  rw [fc_nat]
  unfold letB fcN
  apply decide_eq_decide.2
  cases a <;> simp only [if_true, if_false, Bool.false_eq_true] <;> split <;> omega
theorem dig_fc (a : Bool) (c : UInt8) : digB ((fc a c).toNat : Int) = digB (c.toNat : Int) := by
  rw [fc_nat]
  unfold digB fcN
  apply decide_eq_decide.2
  cases a <;> simp only [if_true, if_false, Bool.false_eq_true] <;> split <;> omega
theorem eit_fc (a : Bool) (c : UInt8) : eitB ((fc a c).toNat : Int) = eitB (c.toNat : Int) := by
  unfold eitB
  rw [let_fc, dig_fc]
theorem fold_data (a : Bool) (s : ByteArray) : (foldS a s).data.toList = s.data.toList.map (fc a) := rfl
theorem fold_fold (a b : Bool) (s : ByteArray) : foldS a (foldS b s) = foldS a s := by
  apply ba_ext
  rw [fold_data, fold_data, fold_data, List.map_map]
  congr 1
  funext c
  exact fc_fc a b c
theorem scr_data (s : ByteArray) : (scrS s).data.toList = (s.data.toList.take 1).map (fc true) ++ (s.data.toList.drop 1).map (fc false) := by
  unfold scrS
  rw [ByteArray.data_append, Array.toList_append, fold_data, fold_data, extract_list, extract_list]
  congr 2
  have h := tl_len s
  rw [List.take_of_length_le]
  rw [List.length_drop]; omega
theorem scr_size (s : ByteArray) : (scrS s).size = s.size := by
  rw [← tl_len, scr_data, List.length_append, List.length_map, List.length_map, List.length_take, List.length_drop, tl_len]
  omega
theorem allB_data (P : Int → Bool) (s : ByteArray) : allB P s = (s.data.toList.all (fun c => P (c.toNat : Int)) && decide (s.size ≠ 0)) := by
  unfold allB bytesOf
  rw [List.all_map]
  congr 1
  rw [tl]
  cases h : s.data.toList with
  | nil => have := tl_len s; rw [h] at this; simp at this; simp [← this]
  | cons x r => have := tl_len s; rw [h] at this; simp at this; simp [← this]
theorem allB_fold (P : Int → Bool) (a : Bool) (hP : ∀ c : UInt8, P ((fc a c).toNat : Int) = P (c.toNat : Int)) (s : ByteArray) : allB P (foldS a s) = allB P s := by
  rw [allB_data, allB_data, fold_data, foldS_size, List.all_map]
  congr 2
  funext c
  exact hP c
theorem allB_scr (P : Int → Bool) (hP : ∀ (a : Bool) (c : UInt8), P ((fc a c).toNat : Int) = P (c.toNat : Int)) (s : ByteArray) : allB P (scrS s) = allB P s := by
  rw [allB_data, allB_data, scr_data, scr_size, List.all_append, List.all_map, List.all_map]
  congr 1
  have e1 : ((fun c : UInt8 => P (c.toNat : Int)) ∘ fc true) = fun c : UInt8 => P (c.toNat : Int) := by funext c; exact hP true c
  have e2 : ((fun c : UInt8 => P (c.toNat : Int)) ∘ fc false) = fun c : UInt8 => P (c.toNat : Int) := by funext c; exact hP false c
  rw [e1, e2, ← List.all_append, List.take_append_drop]
theorem scrB_scr (s : ByteArray) : scrB (scrS s) = scrB s := by
  unfold scrB
  rw [scr_size, allB_scr letB let_fc]
theorem regB_fold (a : Bool) (s : ByteArray) : regB (foldS a s) = regB s := by
  unfold regB
  rw [foldS_size, allB_fold letB a (let_fc a), allB_fold digB a (dig_fc a)]
theorem badB_fold (a : Bool) (s : ByteArray) : badB (foldS a s) = badB s := by
  unfold badB
  rw [foldS_size, allB_fold letB a (let_fc a)]
theorem bt_data (s : ByteArray) (x : UInt8) (r : List UInt8) (h : s.data.toList = x :: r) : bt s 0 = (x.toNat : Int) := by
  have hs : 0 < s.size := by rw [← tl_len, h]; simp
  unfold bt
  rw [dif_pos (by simpa using hs)]
  have : s[(0 : Int).toNat] = x := by
    show s.data[0] = x
    have h2 : s.data.toList[0]'(by rw [h]; simp) = x := by simp [h]
    rw [← h2, Array.getElem_toList]
  rw [this]
theorem dig_fold (a : Bool) (s : ByteArray) : digB (bt (foldS a s) 0) = digB (bt s 0) := by
  cases h : s.data.toList with
  | nil =>
    have hs : s.size = 0 := by rw [← tl_len, h]; rfl
    unfold bt
    rw [dif_neg (by rw [foldS_size, hs]; simp), dif_neg (by rw [hs]; simp)]
  | cons x r =>
    rw [bt_data s x r h, bt_data (foldS a s) (fc a x) (r.map (fc a)) (by rw [fold_data, h]; rfl), dig_fc]
theorem varB_fold (a : Bool) (s : ByteArray) : varB (foldS a s) = varB s := by
  unfold varB
  rw [foldS_size, allB_fold eitB a (eit_fc a), dig_fold]
theorem scr_scr (s : ByteArray) : scrS (scrS s) = scrS s := by
  apply ba_ext
  rw [scr_data (scrS s), scr_data s]
  cases s.data.toList with
  | nil => rfl
  | cons x r =>
    simp only [List.take_succ_cons, List.take_zero, List.drop_succ_cons, List.drop_zero, List.map_cons, List.map_nil, List.cons_append, List.nil_append, List.map_map]
    have e2 : fc false ∘ fc false = fc false := by funext c; exact fc_fc false false c
    rw [e2, fc_fc]
theorem size_ne {s : ByteArray} (h : s.size ≠ 0) : s.toList ≠ ([] : List UInt8) := by
  intro e
  rw [tl] at e
  have := tl_len s
  rw [e] at this
  exact h this.symm
theorem scrB_size {s : ByteArray} (h : scrB s = true) : s.size = 4 := by unfold scrB at h; rw [Bool.and_eq_true, decide_eq_true_eq] at h; exact h.1
theorem regB_size {s : ByteArray} (h : regB s = true) : s.size = 2 ∨ s.size = 3 := by
  unfold regB at h
  rw [Bool.or_eq_true, Bool.and_eq_true, Bool.and_eq_true, decide_eq_true_eq, decide_eq_true_eq] at h
  rcases h with h | h
  · exact .inl h.1
  · exact .inr h.1
theorem varB_size {s : ByteArray} (h : varB s = true) : 4 ≤ s.size ∧ s.size ≤ 8 := by
  unfold varB at h
  rw [Bool.and_eq_true, Bool.or_eq_true, Bool.and_eq_true, decide_eq_true_eq, decide_eq_true_eq] at h
  omega
theorem reg_scr {s : ByteArray} (h : regB s = true) : scrB s = false := by
  have := regB_size h
  unfold scrB
  rw [decide_eq_false (by omega)]; rfl
theorem var_reg {s : ByteArray} (h : varB s = true) : regB s = false := by
  have := varB_size h
  unfold regB
  rw [decide_eq_false (by omega), decide_eq_false (by omega)]; rfl
theorem let_dig {c : Int} (h : letB c = true) : digB c = false := by
  unfold letB at h
  unfold digB
  rw [decide_eq_true_eq] at h
  rw [decide_eq_false_iff_not]
  omega
theorem var_scr {s : ByteArray} (h : varB s = true) : scrB s = false := by
  rw [← Bool.not_eq_true]
  intro hs
  have h4 := scrB_size hs
  unfold varB at h
  rw [Bool.and_eq_true, Bool.or_eq_true, Bool.and_eq_true, decide_eq_true_eq, decide_eq_true_eq] at h
  unfold scrB at hs
  rw [Bool.and_eq_true, allB_data, Bool.and_eq_true] at hs
  cases hd : s.data.toList with
  | nil => have := tl_len s; rw [hd] at this; simp at this; omega
  | cons x r =>
    have h1 := hs.2.1
    rw [hd, List.all_cons, Bool.and_eq_true] at h1
    have h2 := let_dig h1.1
    rw [bt_data s x r hd] at h
    rw [h2] at h
    simp at h
    omega
def NV : List ByteArray → List ByteArray → Prop
  | _, [] => True
  | acc, v :: r => varB v = true ∧ foldS false v = v ∧ hasS acc v = false ∧ NV (acc ++ [v]) r
def LangOk (l : ByteArray) : Prop := badB l = false ∧ foldS false l = l
def ScrOk (s : ByteArray) : Prop := s = (⟨#[]⟩ : ByteArray) ∨ (scrB s = true ∧ scrS s = s)
def RegOk (s : ByteArray) : Prop := s = (⟨#[]⟩ : ByteArray) ∨ (regB s = true ∧ foldS true s = s)
def Norm (lang scr reg : ByteArray) (vs : List ByteArray) : Prop := LangOk lang ∧ ScrOk scr ∧ RegOk reg ∧ NV [] vs
def dash (out p : ByteArray) : ByteArray := out ++ (⟨#[45]⟩ : ByteArray) ++ p
def addL (out : ByteArray) (ws : List ByteArray) : ByteArray := ws.foldl dash out
def LS : Nat → List ByteArray → ByteArray → List ByteArray → ByteArray × Bool
  | _, _, out, [] => (out, true)
  | st, seen, out, p :: ps => if st < 1 ∧ scrB p = true then LS 1 seen (dash out (scrS p)) ps else if st < 2 ∧ regB p = true then LS 2 seen (dash out (foldS true p)) ps else if varB p = true then (if hasS seen (foldS false p) = true then ((⟨#[]⟩ : ByteArray), false) else LS 3 (seen ++ [foldS false p]) (dash out (foldS false p)) ps) else ((⟨#[]⟩ : ByteArray), false)
theorem LS_cons (st : Nat) (seen : List ByteArray) (out p : ByteArray) (ps : List ByteArray) : LS st seen out (p :: ps) = if st < 1 ∧ scrB p = true then LS 1 seen (dash out (scrS p)) ps else if st < 2 ∧ regB p = true then LS 2 seen (dash out (foldS true p)) ps else if varB p = true then (if hasS seen (foldS false p) = true then ((⟨#[]⟩ : ByteArray), false) else LS 3 (seen ++ [foldS false p]) (dash out (foldS false p)) ps) else ((⟨#[]⟩ : ByteArray), false) := rfl
def LP : List ByteArray → ByteArray × Bool
  | [] => ((⟨#[]⟩ : ByteArray), true)
  | p :: ps => if badB p = true then ((⟨#[]⟩ : ByteArray), false) else LS 0 [] (foldS false p) ps
theorem P3_cons (lang scr reg p : ByteArray) (ps acc : List ByteArray) : P3 lang scr reg (p :: ps) acc = if varB p = true then (if hasS acc (foldS false p) = true then notTold else P3 lang scr reg ps (acc ++ [foldS false p])) else notTold := rfl
theorem P2_cons (lang scr p : ByteArray) (ps : List ByteArray) : P2 lang scr (p :: ps) = if regB p = true then P3 lang scr (foldS true p) ps [] else P3 lang scr (⟨#[]⟩ : ByteArray) (p :: ps) [] := rfl
theorem P1_cons (lang p : ByteArray) (ps : List ByteArray) : P1 lang (p :: ps) = if scrB p = true then P2 lang (scrS p) ps else P2 lang (⟨#[]⟩ : ByteArray) (p :: ps) := rfl
theorem P0_cons (p : ByteArray) (ps : List ByteArray) : P0 (p :: ps) = if badB p = true then notTold else P1 (foldS false p) ps := rfl
def noL : ByteArray × Bool := ((⟨#[]⟩ : ByteArray), false)
theorem P3_said (lang scr reg : ByteArray) : ∀ (l acc : List ByteArray) (st : Nat) (out : ByteArray), (2 ≤ st ∨ ∀ p ps, l = p :: ps → regB p = false ∧ (st < 1 → scrB p = false)) →
    (P3 lang scr reg l acc = notTold ∧ LS st acc out l = noL) ∨ ∃ ws, P3 lang scr reg l acc = (lang, scr, reg, acc ++ ws, true) ∧ NV acc ws ∧ LS st acc out l = (addL out ws, true)
  | [], acc, st, out, _ => .inr ⟨[], by rw [List.append_nil]; rfl, trivial, rfl⟩
  | p :: ps, acc, st, out, hst => by
    rw [P3_cons, LS_cons]
    have c1 : ¬ (st < 1 ∧ scrB p = true) := by
      rintro ⟨a, b⟩
      rcases hst with h | h
      · omega
      · rw [(h p ps rfl).2 a] at b; cases b
    have c2 : ¬ (st < 2 ∧ regB p = true) := by
      rintro ⟨a, b⟩
      rcases hst with h | h
      · omega
      · rw [(h p ps rfl).1] at b; cases b
    rw [if_neg c1, if_neg c2]
    by_cases hv : varB p = true
    · rw [if_pos hv, if_pos hv]
      by_cases hh : hasS acc (foldS false p) = true
      · rw [if_pos hh, if_pos hh]; exact .inl ⟨rfl, rfl⟩
      · rw [if_neg hh, if_neg hh]
        rcases P3_said lang scr reg ps (acc ++ [foldS false p]) 3 (dash out (foldS false p)) (.inl (by omega)) with h | ⟨ws, h1, h2, h3⟩
        · exact .inl h
        · refine .inr ⟨foldS false p :: ws, ?_, ⟨?_, fold_fold _ _ _, Bool.eq_false_iff.mpr hh, h2⟩, h3⟩
          · rw [h1, List.append_assoc]; rfl
          · rw [varB_fold]; exact hv
    · rw [if_neg hv, if_neg hv]; exact .inl ⟨rfl, rfl⟩
def optL (s : ByteArray) : List ByteArray := if s.toList = ([] : List UInt8) then [] else [s]
theorem optL_nil : optL (⟨#[]⟩ : ByteArray) = [] := by unfold optL; rw [if_pos (by rw [tl])]
theorem optL_some {s : ByteArray} (h : s.size ≠ 0) : optL s = [s] := by unfold optL; rw [if_neg (size_ne h)]
theorem P2_said (lang scr : ByteArray) (l : List ByteArray) (st : Nat) (out : ByteArray) (hst : st < 2) (hs : st = 1 ∨ ∀ p ps, l = p :: ps → scrB p = false) :
    (P2 lang scr l = notTold ∧ LS st [] out l = noL) ∨ ∃ reg vs, P2 lang scr l = (lang, scr, reg, vs, true) ∧ RegOk reg ∧ NV [] vs ∧ LS st [] out l = (addL out (optL reg ++ vs), true) := by
  cases l with
  | nil => exact .inr ⟨_, [], rfl, .inl rfl, trivial, by rw [optL_nil]; rfl⟩
  | cons p ps =>
    by_cases hr : regB p = true
    · rw [P2_cons, LS_cons, if_pos hr, if_neg (by rintro ⟨_, b⟩; rw [reg_scr hr] at b; cases b), if_pos ⟨hst, hr⟩]
      rcases P3_said lang scr (foldS true p) ps [] 2 (dash out (foldS true p)) (.inl (by omega)) with h | ⟨ws, h1, h2, h3⟩
      · exact .inl h
      · have h0 := regB_size hr
        refine .inr ⟨foldS true p, ws, h1, .inr ⟨by rw [regB_fold]; exact hr, fold_fold _ _ _⟩, h2, ?_⟩
        rw [h3, optL_some (by rw [foldS_size]; omega)]; rfl
    · have hr' := Bool.eq_false_iff.mpr hr
      rw [P2_cons, if_neg hr]
      rcases P3_said lang scr (⟨#[]⟩ : ByteArray) (p :: ps) [] st out (.inr fun q qs e => by
        injection e with e1 e2
        subst e1
        refine ⟨hr', fun hlt => ?_⟩
        rcases hs with hs | hs
        · omega
        · exact hs p ps rfl) with h | ⟨ws, h1, h2, h3⟩
      · exact .inl h
      · exact .inr ⟨_, ws, h1, .inl rfl, h2, by rw [h3, optL_nil]; rfl⟩
theorem P1_said (lang : ByteArray) (l : List ByteArray) (out : ByteArray) :
    (P1 lang l = notTold ∧ LS 0 [] out l = noL) ∨ ∃ scr reg vs, P1 lang l = (lang, scr, reg, vs, true) ∧ ScrOk scr ∧ RegOk reg ∧ NV [] vs ∧ LS 0 [] out l = (addL out (optL scr ++ (optL reg ++ vs)), true) := by
  cases l with
  | nil => exact .inr ⟨_, _, [], rfl, .inl rfl, .inl rfl, trivial, by rw [optL_nil]; rfl⟩
  | cons p ps =>
    by_cases hs : scrB p = true
    · rw [P1_cons, LS_cons, if_pos hs, if_pos ⟨by omega, hs⟩]
      rcases P2_said lang (scrS p) ps 1 (dash out (scrS p)) (by omega) (.inl rfl) with h | ⟨reg, vs, h1, h2, h3, h4⟩
      · exact .inl h
      · have h0 := scrB_size hs
        refine .inr ⟨scrS p, reg, vs, h1, .inr ⟨by rw [scrB_scr]; exact hs, scr_scr _⟩, h2, h3, ?_⟩
        rw [h4, optL_some (s := scrS p) (by rw [scr_size]; omega)]; rfl
    · rw [P1_cons, if_neg hs]
      rcases P2_said lang (⟨#[]⟩ : ByteArray) (p :: ps) 0 out (by omega) (.inr fun q qs e => by
        injection e with e1 e2
        subst e1
        exact Bool.eq_false_iff.mpr hs) with h | ⟨reg, vs, h1, h2, h3, h4⟩
      · exact .inl h
      · exact .inr ⟨_, reg, vs, h1, .inl rfl, h2, h3, by rw [h4, optL_nil]; rfl⟩
theorem partsL_opt (lang scr reg : ByteArray) (vs : List ByteArray) : partsL lang scr reg vs = lang :: (optL scr ++ (optL reg ++ vs)) := by
  unfold partsL optL
  simp [List.append_assoc]
theorem textL_cons (p : ByteArray) : ∀ (ws : List ByteArray), textL (p :: ws) = addL p ws := by
  have key : ∀ (ws : List ByteArray) (o : ByteArray), (addL o ws).data.toList = o.data.toList ++ (ws.map (fun w => (45 : UInt8) :: w.data.toList)).flatten := by
    intro ws
    induction ws with
    | nil => intro o; simp [addL]
    | cons w r ih =>
      intro o
      have e : addL o (w :: r) = addL (dash o w) r := rfl
      rw [e, ih]
      unfold dash
      rw [ByteArray.data_append, Array.toList_append, ByteArray.data_append, Array.toList_append]
      simp [List.append_assoc]
  have key2 : ∀ (ws : List (List UInt8)) (o : List UInt8), Lib.join (o :: ws) [45] = o ++ (ws.map (fun w => (45 : UInt8) :: w)).flatten := by
    intro ws
    induction ws with
    | nil => intro o; rw [Lib.join_one]; simp
    | cons w r ih =>
      intro o
      have e : Lib.join (o :: w :: r) [45] = o ++ 45 :: Lib.join (w :: r) [45] := by
        unfold Lib.join
        simp [List.intercalate, List.intersperse]
      rw [e, ih]; simp
  intro ws
  apply ba_ext
  rw [key]
  unfold textL
  rw [mkB_data, List.map_cons, key2, List.map_map]
  rfl
theorem P0_said (l : List ByteArray) (hl : l ≠ []) : (P0 l = notTold ∧ LP l = noL) ∨ ∃ lang scr reg vs, P0 l = (lang, scr, reg, vs, true) ∧ Norm lang scr reg vs ∧ LP l = (textL (partsL lang scr reg vs), true) := by
  cases l with
  | nil => exact absurd rfl hl
  | cons p ps =>
    have eL : LP (p :: ps) = if badB p = true then ((⟨#[]⟩ : ByteArray), false) else LS 0 [] (foldS false p) ps := rfl
    rw [P0_cons, eL]
    by_cases hb : badB p = true
    · rw [if_pos hb, if_pos hb]; exact .inl ⟨rfl, rfl⟩
    · rw [if_neg hb, if_neg hb]
      rcases P1_said (foldS false p) ps (foldS false p) with h | ⟨scr, reg, vs, h1, h2, h3, h4, h5⟩
      · exact .inl h
      · refine .inr ⟨foldS false p, scr, reg, vs, h1, ⟨⟨by rw [badB_fold]; exact Bool.eq_false_iff.mpr hb, fold_fold _ _ _⟩, h2, h3, h4⟩, ?_⟩
        rw [h5, partsL_opt, textL_cons]
theorem P3_again (lang scr reg : ByteArray) : ∀ (vs acc : List ByteArray), NV acc vs → P3 lang scr reg vs acc = (lang, scr, reg, acc ++ vs, true)
  | [], acc, _ => by rw [List.append_nil]; rfl
  | v :: r, acc, h => by
    obtain ⟨h1, h2, h3, h4⟩ := h
    rw [P3_cons, if_pos h1, h2, if_neg (by rw [h3]; simp), P3_again lang scr reg r _ h4, List.append_assoc]; rfl
theorem P2_again (lang scr reg : ByteArray) (vs : List ByteArray) (hr : RegOk reg) (hv : NV [] vs) : P2 lang scr (optL reg ++ vs) = (lang, scr, reg, vs, true) := by
  rcases hr with rfl | ⟨h1, h2⟩
  · rw [optL_nil]
    cases vs with
    | nil => rfl
    | cons v r =>
      show P2 lang scr (v :: r) = _
      rw [P2_cons, if_neg (by rw [var_reg hv.1]; simp), P3_again _ _ _ _ _ hv]; rfl
  · have h0 := regB_size h1
    rw [optL_some (by omega)]
    show P2 lang scr (reg :: vs) = _
    rw [P2_cons, if_pos h1, h2, P3_again _ _ _ _ _ hv]; rfl
theorem head_scr (reg : ByteArray) (vs : List ByteArray) (hr : RegOk reg) (hv : NV [] vs) (q : ByteArray) (qs : List ByteArray) (e : optL reg ++ vs = q :: qs) : scrB q = false := by
  rcases hr with rfl | ⟨h1, h2⟩
  · rw [optL_nil] at e
    cases vs with
    | nil => cases e
    | cons v r =>
      injection e with e1 e2
      subst e1
      exact var_scr hv.1
  · have h0 := regB_size h1
    rw [optL_some (by omega)] at e
    injection e with e1 e2
    subst e1
    exact reg_scr h1
theorem P1_again (lang scr reg : ByteArray) (vs : List ByteArray) (hs : ScrOk scr) (hr : RegOk reg) (hv : NV [] vs) : P1 lang (optL scr ++ (optL reg ++ vs)) = (lang, scr, reg, vs, true) := by
  rcases hs with rfl | ⟨h1, h2⟩
  · rw [optL_nil, List.nil_append]
    have h2 := P2_again lang (⟨#[]⟩ : ByteArray) reg vs hr hv
    have h3 := head_scr reg vs hr hv
    generalize optL reg ++ vs = m at h2 h3
    cases m with
    | nil => exact h2
    | cons q qs => rw [P1_cons, if_neg (by rw [h3 q qs rfl]; simp)]; exact h2
  · have h0 := scrB_size h1
    rw [optL_some (by omega)]
    show P1 lang (scr :: (optL reg ++ vs)) = _
    rw [P1_cons, if_pos h1, h2, P2_again _ _ _ _ hr hv]
theorem P0_again (lang scr reg : ByteArray) (vs : List ByteArray) (h : Norm lang scr reg vs) : P0 (partsL lang scr reg vs) = (lang, scr, reg, vs, true) := by
  obtain ⟨⟨h1, h2⟩, h3, h4, h5⟩ := h
  rw [partsL_opt, P0_cons, if_neg (by rw [h1]; simp), h2, P1_again _ _ _ _ h3 h4 h5]
end Go.Proofs.YtkmbkejmfffafaaGreatDoor.Pure
end
namespace Go.Proofs.YtkmbkejmfffafaaGreatDoor.Refl
open Go Go.RowKit
set_option linter.unusedVariables false
set_option linter.unusedSimpArgs false
set_option maxRecDepth 1000000
noncomputable def pl0 (L Lg Sc Re : List UInt8) (vs : Option (List (List UInt8))) : PL := ⟨0, 0, L, Lg, Sc, Re, [], vs, false, [], []⟩
noncomputable def decI (neg : Bool) (D : List UInt8) (z : Int) : Value := .agg ⟨[.bool neg, strV D, .int .i64 z]⟩
noncomputable def plugA (L : List UInt8) : List (Nat × XF) := [(8, xAlive), (12, xTagP [(1, ⟨L, [], [], [], none, false⟩)])]
noncomputable def plugB (x : PL) : List (Nat × XF) := [(8, xAlive), (12, xTagP [(1, x.tP x.L)])]
noncomputable def plugC (x : PL) (d : Value) (r : Bool) : List (Nat × XF) := [(8, xAlive), (12, xTagP [(1, x.tP x.L)]), (17, xTold false 17 [(8, ([d], .bool r))])]
noncomputable def oA (L : List UInt8) : List Bool := [pB (YtkmbkejmfffafaaGreatDoorHand.tag_Parse.f (bA L) = some (bA [], bA [], bA [], List.map bA [], false)), pB ([strV L] = [strV L])]
noncomputable def oB (x : PL) : List Bool := app [beqB true (iLt 60 (Int.ofNat (len x.L))), beqB false (beqB (iLt 60 (Int.ofNat (len x.L))) false), beqB false (beqB (iLt 60 (Int.ofNat (len x.L))) false), beqB false (beqB (iLt 60 (Int.ofNat (len x.L))) false)] (oTP x x.L)
noncomputable def oC (x : PL) (d : Value) (r : Bool) : List Bool := app [beqB false (iLt 60 (Int.ofNat (len x.L))), beqB true (beqB (iLt 60 (Int.ofNat (len x.L))) false), pB (Pure false 17 [d] (.bool r)), pB ([d] = [d]), beqB true (beqB (iLt 60 (Int.ofNat (len x.L))) false), beqB true (beqB (iLt 60 (Int.ofNat (len x.L))) false)] (oTP x x.L)
noncomputable def oE (x : PL) (d : Value) (D : List UInt8) : List Bool := app [beqB true (iLt 30 (Int.ofNat (len D)))] (oC x d true)
theorem runXA0 (L D : List UInt8) (neg : Bool) (m : Int) (sc z w : Int) : lookB (acall (envS (plugA L) .nil) 200 6 [strV L, (decI neg D sc), .int .i64 z, .int .i64 w] (hM m [(1000000, false)])) = some (.bool true, [], allB (fun b => b) (oA L)) := by kernel_rfl
theorem runXB0 (L Lg Sc Re D : List UInt8) (neg : Bool) (m : Int) (sc z w : Int) : lookB (acall (envS (plugB (pl0 L Lg Sc Re none)) .nil) 200 6 [strV L, (decI neg D sc), .int .i64 z, .int .i64 w] (hM m [(6, false), (7, false), (8, false), (9, true), (1000000, false)])) = some (.bool true, [], allB (fun b => b) (oB (pl0 L Lg Sc Re none))) := by kernel_rfl
theorem runXB1 (L Lg Sc Re D : List UInt8) (vs : List (List UInt8)) (neg : Bool) (m : Int) (sc z w : Int) : lookB (acall (envS (plugB (pl0 L Lg Sc Re (some vs))) .nil) 200 6 [strV L, (decI neg D sc), .int .i64 z, .int .i64 w] (hM m [(6, false), (7, false), (8, false), (9, true), (1000000, false)])) = some (.bool true, [], allB (fun b => b) (oB (pl0 L Lg Sc Re (some vs)))) := by kernel_rfl
theorem runXC0 (L Lg Sc Re D : List UInt8) (neg : Bool) (m : Int) (sc z w : Int) : lookB (acall (envS (plugC (pl0 L Lg Sc Re none) (decI neg D sc) false) .nil) 200 6 [strV L, (decI neg D sc), .int .i64 z, .int .i64 w] (hM m [(6, true), (7, true), (9, true), (10, false), (1000000, false)])) = some (.bool true, [], allB (fun b => b) (oC (pl0 L Lg Sc Re none) (decI neg D sc) false)) := by kernel_rfl
theorem runXC1 (L Lg Sc Re D : List UInt8) (vs : List (List UInt8)) (neg : Bool) (m : Int) (sc z w : Int) : lookB (acall (envS (plugC (pl0 L Lg Sc Re (some vs)) (decI neg D sc) false) .nil) 200 6 [strV L, (decI neg D sc), .int .i64 z, .int .i64 w] (hM m [(6, true), (7, true), (9, true), (10, false), (1000000, false)])) = some (.bool true, [], allB (fun b => b) (oC (pl0 L Lg Sc Re (some vs)) (decI neg D sc) false)) := by kernel_rfl
theorem runXE0 (L Lg Sc Re D : List UInt8) (neg : Bool) (m : Int) (sc z w : Int) : lookB (acall (envS (plugC (pl0 L Lg Sc Re none) (decI neg D sc) true) .nil) 200 6 [strV L, (decI neg D sc), .int .i64 z, .int .i64 w] (hM m [(6, true), (7, true), (9, true), (10, false), (16, true), (1000000, false)])) = some (.bool true, [], allB (fun b => b) (oE (pl0 L Lg Sc Re none) (decI neg D sc) D)) := by kernel_rfl
theorem runXE1 (L Lg Sc Re D : List UInt8) (vs : List (List UInt8)) (neg : Bool) (m : Int) (sc z w : Int) : lookB (acall (envS (plugC (pl0 L Lg Sc Re (some vs)) (decI neg D sc) true) .nil) 200 6 [strV L, (decI neg D sc), .int .i64 z, .int .i64 w] (hM m [(6, true), (7, true), (9, true), (10, false), (16, true), (1000000, false)])) = some (.bool true, [], allB (fun b => b) (oE (pl0 L Lg Sc Re (some vs)) (decI neg D sc) D)) := by kernel_rfl
theorem al_nil : ∀ x ∈ ([] : List Bool), x = true := fun x hx => by cases hx
theorem al_cons {b : Bool} {l : List Bool} (h : b = true) (k : ∀ x ∈ l, x = true) : ∀ x ∈ b :: l, x = true := fun x hx => (List.mem_cons.1 hx).elim (fun e => by rw [e]; exact h) (k x)
theorem al_app {l r : List Bool} (h : ∀ x ∈ l, x = true) (k : ∀ x ∈ r, x = true) : ∀ x ∈ app l r, x = true := by rw [app_eq]; exact all_app h k
theorem ble_of {a b : Nat} (h : a ≤ b) : Nat.ble a b = true := by rw [ble_eq]; exact decide_eq_true h
theorem blt_of {a b : Nat} (h : a < b) : Nat.blt a b = true := by rw [blt_eq]; exact decide_eq_true h
theorem beq_of {a b : Nat} (h : a = b) : Nat.beq a b = true := by rw [bq]; exact decide_eq_true h
theorem beq_no {a b : Nat} (h : a ≠ b) : Nat.beq a b = false := by rw [bq]; exact decide_eq_false h
theorem iLt_no {a b : Nat} (h : b ≤ a) : iLt (Int.ofNat a) (Int.ofNat b) = false := by rw [iLt_eq]; exact decide_eq_false (by simp; omega)
theorem iLt_of {a b : Nat} (h : a < b) : iLt (Int.ofNat a) (Int.ofNat b) = true := by rw [iLt_eq]; exact decide_eq_true (by simp; omega)
theorem iEq_of {a b : Nat} (h : a = b) : iEq (Int.ofNat a) (Int.ofNat b) = true := by rw [iEq_eq]; exact decide_eq_true (by rw [h])
theorem bytesEq_of {a b : List UInt8} (h : a = b) : bytesEq a b = true := by rw [bytesEq_eq]; exact decide_eq_true h
theorem sP_len (l : List (List UInt8)) (k : Nat) : len (sP l k) = nP l k := by rw [len_eq, nP_eq]
structure TagF (x : PL) : Prop where
  p1 : YtkmbkejmfffafaaGreatDoorHand.tag_Parse.f (bA x.L) = some (bA x.Lg, bA x.Sc, bA x.Re, List.map bA (x.vs.getD []), true)
  p2 : YtkmbkejmfffafaaGreatDoorHand.tag_Parse.f (bA x.T) = some (bA x.Lg, bA x.Sc, bA x.Re, List.map bA (x.vs.getD []), true)
  s1 : PFit.tag_Tag_String.f (bA x.Lg) (bA x.Sc) (bA x.Re) (List.map bA (x.vs.getD [])) = some (bA x.T)
  ne : ∀ vs, x.vs = some vs → vs ≠ [] ∧ vs.length ≤ 9223372036854775807
theorem oTP_ok {x : PL} {s : List UInt8} (hne : ∀ vs, x.vs = some vs → vs ≠ [] ∧ vs.length ≤ 9223372036854775807) (hp : YtkmbkejmfffafaaGreatDoorHand.tag_Parse.f (bA s) = some (bA x.Lg, bA x.Sc, bA x.Re, List.map bA (x.vs.getD []), true)) : ∀ y ∈ oTP x s, y = true := by
  unfold oTP
  cases hv : x.vs with
  | none => rw [hv] at hp; exact al_cons (pB_of hp) (al_cons (pB_of rfl) al_nil)
  | some vs => rw [hv] at hp; exact al_cons (pB_of (hne vs hv).1) (al_cons (pB_of hp) (al_cons (pB_of rfl) al_nil))
theorem oTS_ok {x : PL} (h : TagF x) (b : Nat) : ∀ y ∈ oTS x b, y = true := by
  have hs := h.s1
  unfold oTS
  cases hv : x.vs with
  | none => rw [hv] at hs; exact al_cons (pB_of hs) (al_cons (pB_of rfl) al_nil)
  | some vs =>
    rw [hv] at hs
    obtain ⟨h1, h2⟩ := h.ne vs hv
    exact al_cons (ble_of (by rw [len_eq]; exact h2)) (al_cons (pB_of h1) (al_cons (pB_of rfl) (al_cons (pB_of hs) (al_cons (pB_of rfl) al_nil))))
theorem oPart_ok {t : List UInt8} (h : t.length < 400) : ∀ y ∈ oPart t, y = true := by
  obtain ⟨h1, h2, _⟩ := itoa_nice h
  refine al_cons (ble_of ?_) (al_cons (ble_of ?_) (al_cons (ble_of ?_) (al_cons (blt_of ?_) al_nil)))
  · simp only [len_eq, app_eq, Nat.add_eq, List.length_append, List.length_cons, List.length_nil]; omega
  · simp only [len_eq, app_eq, Nat.add_eq, List.length_append, List.length_cons, List.length_nil]; omega
  · simp only [len_eq, Nat.add_eq, List.length_cons, List.length_nil]; omega
  · rw [len_eq]; exact h
structure NLF (y : NL) (z w : Int) : Prop where
  tag : TagF y.p
  hL : y.p.L.length ≤ 60
  hS : y.p.S.length < 400
  hD : y.p.D.length ≤ 30
  p17 : Pure false 17 [y.p.dec] (.bool true)
  p20 : Pure false 20 [y.p.dec] (strV y.p.S)
  p44 : Pure false 44 [argS y.p.S] (valT y.p.neg y.p.D y.p.k)
  hl : y.l < 21
  hm : y.m < 21
  eA : y.A = itoaF y.l
  eB : y.B = itoaF y.m
  eq : y.q = nMin y.l y.m
  eu : IntKind.u64.wrap z = Int.ofNat y.u
  ev : IntKind.u64.wrap w = Int.ofNat y.v
  el : y.u % 21 = y.l
  em : y.v % 21 = y.m
  f : AtW 23 marksO (fAv y) (strV y.F)
  f1 : y.F.length ≤ 100
  f0 : 0 < y.F.length
noncomputable def smallB (D : List UInt8) : Bool := match allB (fun b => match Nat.ble 48 b.toNat with | true => Nat.ble b.toNat 57 | false => false) D with
  | false => false
  | true => match D with
    | [] => false
    | c :: r => match r with
      | [] => true
      | _ :: r => match r with
        | [] => !Nat.beq c.toNat 48
        | _ :: _ => false
theorem smallAll : allB (fun l => smallB (itoaF l)) (upTo 21 []) = true := by kernel_rfl
theorem small_right {D : List UInt8} (h : smallB D = true) : RightD D 0 := by
  unfold smallB at h
  cases e : allB (fun b : UInt8 => match Nat.ble 48 b.toNat with | true => Nat.ble b.toNat 57 | false => false) D with
  | false => rw [e] at h; cases h
  | true =>
  rw [e] at h
  have dg : Digs D := fun b hb => by
    have := (allB_eq _ _).1 e b hb
    cases k : Nat.ble 48 b.toNat with
    | false => rw [k] at this; cases this
    | true => rw [k] at this; exact ⟨Nat.le_of_ble_eq_true k, Nat.le_of_ble_eq_true this⟩
  match D, h, dg with
  | [c], _, dg => exact ⟨dg, by simp, .inl rfl⟩
  | [c, d], h, dg =>
    refine ⟨dg, by simp, .inr fun e => ?_⟩
    have e : c = 48 := by simpa using e
    subst e
    cases h
theorem itoa_right {l : Nat} (hl : l < 21) : RightD (itoaF l) 0 := small_right ((allB_eq _ _).1 smallAll l ((upTo_mem 21 [] l).2 (.inl hl)))
theorem few_len {D : List UInt8} (h : Few D) : D.length ≤ 2 := by
  obtain ⟨a, rfl⟩ | ⟨a, b, rfl⟩ := h <;> simp
theorem srcN_len (A B : List UInt8) : (srcN A B).length = 41 + (A.length + (25 + (B.length + 26))) := by
  unfold srcN
  simp only [app_eq, List.length_append]
  rfl
theorem pN_lt {A B L S : List UInt8} (hA : A.length ≤ 2) (hB : B.length ≤ 2) (hL : L.length < 400) (hS : S.length < 400) : ∀ p ∈ pN A B L S, p.length < 400 := by
  have := srcN_len A B
  intro p hp
  simp only [pN, List.mem_cons, List.not_mem_nil, or_false] at hp
  rcases hp with rfl | rfl | rfl | rfl | rfl | rfl | rfl | rfl | rfl | rfl | rfl <;> first | omega | (simp; done) | (simp; omega)
theorem nP_4 {A B L S : List UInt8} (hS : S.length < 400) : nP (pN A B L S) 4 < nP (pN A B L S) 11 := by
  have e5 : nP (pN A B L S) 5 = nP (pN A B L S) 4 + len (partF [113]) := rfl
  have e6 : nP (pN A B L S) 6 = nP (pN A B L S) 5 + len (partF [97]) := rfl
  have e7 : nP (pN A B L S) 7 = nP (pN A B L S) 6 + len (partF []) := rfl
  have e8 : nP (pN A B L S) 8 = nP (pN A B L S) 7 + len (partF [49]) := rfl
  have e9 : nP (pN A B L S) 9 = nP (pN A B L S) 8 + len (partF [110]) := rfl
  have e10 : nP (pN A B L S) 10 = nP (pN A B L S) 9 + len (partF [110]) := rfl
  have e11 : nP (pN A B L S) 11 = nP (pN A B L S) 10 + len (partF S) := rfl
  have h := (partF_len (p := S) hS).1
  rw [len_eq] at e11
  omega
theorem o44_ok {y : NL} {z w : Int} (h : NLF y z w) : ∀ x ∈ o44 y.p, x = true := al_cons (pB_of h.p44) (al_cons (pB_of rfl) al_nil)
theorem oEq_ok (l : List (List UInt8)) : oEq l = true := iEq_of (sP_len l 11).symm
theorem oIt_ok (l : List (List UInt8)) : ∀ y ∈ oIt l, y = true := by
  unfold oIt
  rw [oEq_ok]
  exact al_cons rfl (al_cons rfl (al_cons rfl (al_cons rfl (al_cons rfl (al_cons rfl al_nil)))))
theorem not60 {L : List UInt8} (h : L.length ≤ 60) : iLt 60 (Int.ofNat (len L)) = false := iLt_no (a := 60) (by rw [len_eq]; exact h)
theorem not30 {L : List UInt8} (h : L.length ≤ 30) : iLt 30 (Int.ofNat (len L)) = false := iLt_no (a := 30) (by rw [len_eq]; exact h)
theorem nTold_ok {y : NL} {z w : Int} (h : NLF y z w) : ∀ x ∈ nTold y z w, x = true := by
  have i1 := itoa_pure (n := y.m) (by have := h.hm; omega)
  have i2 := itoa_pure (n := y.l) (by have := h.hl; omega)
  rw [← h.eB] at i1
  rw [← h.eA] at i2
  have hl := h.hl
  have hm := h.hm
  refine al_cons (pB_of i1) (al_cons (pB_of rfl) (al_cons (pB_of i2) (al_cons (pB_of rfl) (al_cons (pI_of ?_) (al_cons (pI_of ?_) (al_cons (pI_of h.ev) (al_cons (pI_of ?_) (al_cons (pI_of ?_) (al_cons (pI_of h.eu) al_nil)))))))))
  · exact wrap64 (by first | (simp; done) | (simp; omega)) (by first | (simp; done) | (simp; omega))
  · have := h.em
    show Int.ofNat (y.v % 21) = _
    rw [this]
  · exact wrap64 (by first | (simp; done) | (simp; omega)) (by first | (simp; done) | (simp; omega))
  · have := h.el
    show Int.ofNat (y.u % 21) = _
    rw [this]
theorem nHead_ok {y : NL} {z w : Int} (h : NLF y z w) : ∀ x ∈ nHead y z w, x = true := by
  unfold nHead
  rw [not60 h.hL, not30 h.hD]
  exact al_app (al_cons (pB_of h.p20) (al_cons (pB_of rfl) al_nil)) (al_app (nTold_ok h) (al_app (al_cons rfl (al_cons rfl (al_cons rfl (al_cons (pB_of h.p17) (al_cons (pB_of rfl) (al_cons rfl (al_cons rfl al_nil))))))) (oTP_ok h.tag.ne h.tag.p1)))
theorem ascii_app {a b : List UInt8} (ha : Ascii a) (hb : Ascii b) : Ascii (app a b) := fun x hx => by
  rw [app_eq] at hx
  exact (List.mem_append.1 hx).elim (ha x) (hb x)
theorem ascii_digs {a : List UInt8} (h : Digs a) : Ascii a := fun b hb => by have := h b hb; omega
noncomputable def ascB (l : List UInt8) : Bool := allB (fun b : UInt8 => match Nat.blt b.toNat 128 with | true => !Nat.beq b.toNat 13 | false => false) l
theorem ascii_of {l : List UInt8} (h : ascB l = true) : Ascii l := fun b hb => by
  have k := (allB_eq _ _).1 h b hb
  rw [blt_eq, bq] at k
  by_cases h1 : b.toNat < 128
  · rw [decide_eq_true h1] at k
    exact ⟨h1, by simpa using k⟩
  · rw [decide_eq_false h1] at k; cases k
theorem ascA : ascB srcNA = true := by kernel_rfl
theorem ascBB : ascB srcNB = true := by kernel_rfl
theorem ascC : ascB srcNC = true := by kernel_rfl
theorem ascii_src {A B : List UInt8} (hA : Digs A) (hB : Digs B) : Ascii (srcN A B) := ascii_app (ascii_of ascA) (ascii_app (ascii_digs hA) (ascii_app (ascii_of ascBB) (ascii_app (ascii_digs hB) (ascii_of ascC))))
theorem nBA_ok {y : NL} {z w : Int} (h : NLF y z w) : ∀ x ∈ nBA y.A y.B, x = true := by
  rw [h.eA, h.eB]
  have fa := itoa_few h.hl
  have fb := itoa_few h.hm
  exact al_cons (pB_of (arg4_pure fa fb)) (al_cons (pB_of rfl) (al_cons (pB_of (arg3_pure h.hm fa)) (al_cons (pB_of rfl) (al_cons (pB_of (arg2_pure h.hl fb)) (al_cons (pB_of rfl) (al_cons (pB_of (arg1_pure fa fb)) (al_cons (pB_of rfl)
    (al_cons (pB_of (ascii_src (itoa_right h.hl).digs (itoa_right h.hm).digs)) al_nil))))))))
theorem nMid_ok {y : NL} {z w : Int} (h : NLF y z w) (b2 b3 : Nat) (l : List (List UInt8)) : ∀ x ∈ nMid y b2 b3 l, x = true := by
  have hT : bytesEq y.p.T y.p.T = true := bytesEq_of rfl
  have hN : iLt (Int.ofNat (nP l 11)) (Int.ofNat (len (sP l 11))) = false := iLt_no (by rw [sP_len]; exact Nat.le_refl _)
  unfold nMid
  rw [hT, hN]
  exact al_app (al_cons rfl al_nil) (al_app (oTS_ok h.tag _) (al_app (oTS_ok h.tag _) (al_app (oTP_ok h.tag.ne h.tag.p2) (al_app (oTS_ok h.tag _) (al_app (al_cons rfl al_nil) (al_app (oTS_ok h.tag _) (al_app (oTS_ok h.tag _)
    (al_app (o44_ok h) (al_app (o44_ok h) (al_app (nBA_ok h) (al_app (oTP_ok h.tag.ne h.tag.p1) (al_app (al_cons rfl al_nil) (o44_ok h)))))))))))))
theorem nEnc_ok {y : NL} {z w : Int} (h : NLF y z w) : ∀ x ∈ nEnc y.p (srcN y.A y.B) y.ps, x = true := by
  obtain ⟨x, A, B, F, cl, cm, cq, cu, cv⟩ := y
  have lA : A.length ≤ 2 := by have := few_len (itoa_few h.hl); rw [← h.eA] at this; exact this
  have lB : B.length ≤ 2 := by have := few_len (itoa_few h.hm); rw [← h.eB] at this; exact this
  have hL60 : x.L.length ≤ 60 := h.hL
  have hS : x.S.length < 400 := h.hS
  have h44 := o44_ok h
  have h44 : ∀ q ∈ o44 x, q = true := h44
  show ∀ q ∈ nEnc x (srcN A B) (pN A B x.L x.S), q = true
  have hL : x.L.length < 400 := by omega
  have hl := pN_lt lA lB hL hS
  have h4 := nP_4 (A := A) (B := B) (L := x.L) hS
  have hlen : (pN A B x.L x.S).length = 11 := rfl
  have hn : ∀ k, nP (pN A B x.L x.S) k ≤ 4444 := fun k => by have := nP_le hl k; rw [hlen] at this; omega
  have hpos : 0 < nP (pN A B x.L x.S) 11 := nP_pos hl (by omega) (by simp [pN])
  have at_ : ∀ (n : Nat) (p : List UInt8), (pN A B x.L x.S)[n]? = some p → oAt (pN A B x.L x.S) n p = true := fun n p hp => bytesEq_of (part_at hp (by rw [hlen]; exact Nat.le_refl _))
  have a1 := at_ 1 x.L rfl; have a2 := at_ 2 [48] rfl; have a3 := at_ 3 (srcN A B) rfl; have a4 := at_ 4 [113] rfl; have a5 := at_ 5 [97] rfl
  have a6 := at_ 6 [] rfl; have a7 := at_ 7 [49] rfl; have a8 := at_ 8 [110] rfl; have a9 := at_ 9 [110] rfl; have a10 := at_ 10 x.S rfl
  have pS := (partF_len (p := x.S) hS).1
  have pL := (partF_len (p := x.L) hL).1
  generalize pN A B x.L x.S = l at *
  have all_ : oAll l = true := ble_of (by rw [sP_len]; have := hn 11; omega)
  have sam : ∀ n, oSam l n = true := fun n => beq_of (sP_len l n)
  have len_ : ∀ n, oLen l n = true := fun n => ble_of (by have := hn n; omega)
  have bS : Nat.blt (len x.S) 400 = true := blt_of (by rw [len_eq]; exact hS)
  have bL : Nat.blt (len x.L) 400 = true := blt_of (by rw [len_eq]; exact hL)
  have i4 : iLt (Int.ofNat (nP l 4)) (Int.ofNat (len (sP l 11))) = true := iLt_of (by rw [sP_len]; exact h4)
  have big : iLt 262144 (Int.ofNat (len (sP l 11))) = false := iLt_no (a := 262144) (by rw [sP_len]; have := hn 11; omega)
  have z0 : Nat.beq (nP l 11) 0 = false := beq_no (by omega)
  have zS : Nat.beq (len (partF x.S)) 0 = false := beq_no (by rw [len_eq]; omega)
  have zL : Nat.beq (len (partF x.L)) 0 = false := beq_no (by rw [len_eq]; omega)
  have n11 : Nat.ble (nP l 11) 1099511627776 = true := ble_of (by have := hn 11; omega)
  unfold nEnc
  rw [i4, big, z0, zS, zL]
  refine al_app ?_ (al_app (oPart_ok hS) (al_app ?_ (al_app h44 (al_app ?_ (oPart_ok hL)))))
  · exact al_cons all_ (al_cons bS (al_cons a10 (al_cons all_ (al_cons a9 (al_cons all_ (al_cons a8 (al_cons all_ (al_cons a7 (al_cons all_ (al_cons a6 (al_cons all_ (al_cons a5 (al_cons all_ (al_cons a4 (al_cons rfl
      (al_cons all_ (al_cons a3 (al_cons all_ (al_cons a2 (al_cons all_ (al_cons bL (al_cons a1 (al_cons all_ (al_cons (beq_of rfl) (al_cons rfl (al_cons (sam 11) (al_cons n11 (al_cons rfl (al_cons rfl (al_cons (sam 10) (al_cons rfl (al_cons (len_ 11) al_nil))))))))))))))))))))))))))))))))
  · exact al_cons (sam 9) (al_cons (len_ 10) (al_cons (sam 8) (al_cons (len_ 9) (al_cons (sam 7) (al_cons (len_ 8) (al_cons (sam 6) (al_cons (len_ 7) (al_cons (sam 5) (al_cons (len_ 6) (al_cons (sam 4) (al_cons (len_ 5) al_nil)))))))))))
  · exact al_cons (sam 3) (al_cons (len_ 4) (al_cons (sam 2) (al_cons (len_ 3) (al_cons rfl (al_cons (len_ 2) al_nil)))))
theorem nSet_ok {y : NL} {z w : Int} (h : NLF y z w) : ∀ x ∈ nSet y, x = true := by
  have s1 : Pure false 283 (sA1 y) (setR1 y.l) := by
    have := set1_pure h.hl
    unfold sA1
    rw [h.eA]; exact this
  have s2 : Pure false 283 (sA2 y) (sR2 y.q y.m) := by
    have := set2_pure h.hl h.hm
    unfold sA2 sR2
    rw [h.eB, h.eq]; exact this
  have s3 : Pure false 283 (sA3 y.q y.m) (sR3 y.q y.m) := by
    have := set3_pure h.hl h.hm
    unfold sA3 sR3
    rw [h.eq]; exact this
  have d1 : Pure false 68 [strV y.A] (decV false y.A 0) := by
    have := decParse_pure false (itoa_right h.hl) (by have := few_len (itoa_few h.hl); omega)
    rw [h.eA]; exact this
  have d2 : Pure false 68 [strV y.B] (decV false y.B 0) := by
    have := decParse_pure false (itoa_right h.hm) (by have := few_len (itoa_few h.hm); omega)
    rw [h.eB]; exact this
  exact al_cons (pB_of s3) (al_cons (pB_of rfl) (al_cons (pB_of s2) (al_cons (pB_of rfl) (al_cons (pB_of d2) (al_cons (pB_of rfl) (al_cons (pB_of s1) (al_cons (pB_of rfl) (al_cons (pB_of d1) (al_cons (pB_of rfl) al_nil)))))))))
theorem nFmt_ok {y : NL} {z w : Int} (h : NLF y z w) (b : Nat) : ∀ x ∈ nFmt y b, x = true := al_cons (pB_of h.f) (al_cons (pB_of rfl) (al_cons (pB_of rfl) al_nil))
theorem nPat_ok {F : List UInt8} (h1 : F.length ≤ 100) (h0 : 0 < F.length) : ∀ x ∈ nPat F, x = true := by
  have hr : rcF F ≤ 100 := Nat.le_trans (Lib.runeCount_le ⟨⟨F⟩⟩) h1
  have e1 : len (x1F F) = 1 + F.length := by rw [len_eq]; unfold x1F; rw [app_eq, app_eq]; simp; omega
  have e2 : len (x2F F) = 1 + F.length + 1 := by rw [len_eq]; unfold x2F x1F; rw [app_eq, app_eq, app_eq]; simp; omega
  have r1 : iLt 2500 (Int.ofNat (rcF F)) = false := iLt_no (a := 2500) (by omega)
  unfold nPat
  rw [e1, e2, r1, len_eq F]
  refine al_cons (beq_of ?_) (al_cons (beq_of ?_) (al_cons (ble_of ?_) (al_cons ?_ (al_cons (ble_of ?_) (al_cons rfl (al_cons (ble_of ?_) al_nil))))))
  · show 1 + F.length + 1 = 0 + 1 + F.length + 1; omega
  · show 1 + F.length = 0 + 1 + F.length; omega
  · show 0 + 1 + F.length + 1 ≤ _; omega
  · rw [beq_no (by omega)]; rfl
  · show 0 + 1 + F.length ≤ _; omega
  · omega
theorem nEnd_ok {y : NL} {z w : Int} (h : NLF y z w) (m2 : Nat) : ∀ x ∈ nEnd y m2, x = true := by
  have f1 := h.f1
  have e : len (app [91] y.F) = 1 + y.F.length := by rw [len_eq, app_eq]; simp; omega
  unfold nEnd
  rw [e, len_eq y.F]
  refine al_app (al_cons (ble_of ?_) (al_cons (ble_of ?_) al_nil)) (al_app (nFmt_ok h m2) (al_cons (pI_of ?_) al_nil))
  · show 1 + y.F.length + 1 ≤ _; omega
  · show 1 + y.F.length ≤ _; omega
  · rw [h.eq]
    unfold nMin
    rw [blt_eq]
    by_cases hc : y.m < y.l
    · rw [if_pos (by simp; omega), decide_eq_true hc]
    · rw [if_neg (by simp; omega), decide_eq_false hc]
theorem obN_ok {y : NL} {z w : Int} (h : NLF y z w) (b2 b3 m1 m2 : Nat) : ∀ x ∈ obN y z w b2 b3 m1 m2, x = true :=
  al_app (nEnd_ok h m2) (al_app (oIt_ok _) (al_app (nPat_ok h.f1 h.f0) (al_app (nFmt_ok h m1) (al_app (nSet_ok h) (al_app (nMid_ok h b2 b3 _) (al_app (nEnc_ok h) (nHead_ok h)))))))
theorem resN_true (F : List UInt8) : resN F = true := by
  unfold resN x2F x1F
  rw [bytesEq_eq, app_eq, app_eq, app_eq, app_eq, app_eq]; simp
theorem oA_ok {L : List UInt8} (h : YtkmbkejmfffafaaGreatDoorHand.tag_Parse.f (bA L) = some (bA [], bA [], bA [], List.map bA [], false)) : ∀ y ∈ oA L, y = true := al_cons (pB_of h) (al_cons (pB_of rfl) al_nil)
theorem oB_okT {x : PL} (h1 : YtkmbkejmfffafaaGreatDoorHand.tag_Parse.f (bA x.L) = some (bA x.Lg, bA x.Sc, bA x.Re, List.map bA (x.vs.getD []), true)) (h2 : ∀ vs, x.vs = some vs → vs ≠ [] ∧ vs.length ≤ 9223372036854775807) (hL : 60 < x.L.length) : ∀ y ∈ oB x, y = true := by
  have e : iLt 60 (Int.ofNat (len x.L)) = true := iLt_of (a := 60) (by rw [len_eq]; exact hL)
  unfold oB
  rw [e]
  exact al_app (al_cons rfl (al_cons rfl (al_cons rfl (al_cons rfl al_nil)))) (oTP_ok h2 h1)
theorem oC_okT {x : PL} (h1 : YtkmbkejmfffafaaGreatDoorHand.tag_Parse.f (bA x.L) = some (bA x.Lg, bA x.Sc, bA x.Re, List.map bA (x.vs.getD []), true)) (h2 : ∀ vs, x.vs = some vs → vs ≠ [] ∧ vs.length ≤ 9223372036854775807) (hL : x.L.length ≤ 60) {d : Value} {r : Bool} (p17 : Pure false 17 [d] (.bool r)) : ∀ y ∈ oC x d r, y = true := by
  unfold oC
  rw [not60 hL]
  exact al_app (al_cons rfl (al_cons rfl (al_cons (pB_of p17) (al_cons (pB_of rfl) (al_cons rfl (al_cons rfl al_nil)))))) (oTP_ok h2 h1)
theorem oE_okT {x : PL} (h1 : YtkmbkejmfffafaaGreatDoorHand.tag_Parse.f (bA x.L) = some (bA x.Lg, bA x.Sc, bA x.Re, List.map bA (x.vs.getD []), true)) (h2 : ∀ vs, x.vs = some vs → vs ≠ [] ∧ vs.length ≤ 9223372036854775807) (hL : x.L.length ≤ 60) {d : Value} (p17 : Pure false 17 [d] (.bool true)) {D : List UInt8} (hD : 30 < D.length) : ∀ y ∈ oE x d D, y = true := by
  have e : iLt 30 (Int.ofNat (len D)) = true := iLt_of (a := 30) (by rw [len_eq]; exact hD)
  unfold oE
  rw [e]
  exact al_app (al_cons rfl al_nil) (oC_okT h1 h2 hL p17)
theorem plBA_ok (A B : List UInt8) : ∀ y ∈ plBA A B, ExtOK Tryz.prog 12 y.1 y.2 := by
  intro y hy
  simp only [plBA, List.mem_cons, List.not_mem_nil, or_false] at hy
  rcases hy with rfl | rfl
  · exact xDecode_ok
  · exact xTold_ok false 319 _
theorem plugN_ok (x : NL) (b2 b3 m1 m2 : Nat) : ∀ y ∈ plugN x b2 b3 m1 m2, ExtOK Tryz.prog 12 y.1 y.2 := by
  intro y hy
  simp only [plugN, List.mem_cons, List.not_mem_nil, or_false] at hy
  rcases hy with rfl | rfl | rfl | rfl | rfl | rfl | rfl | rfl | rfl | rfl | rfl | rfl | rfl
  · exact xAlive_ok
  · exact xIn_ok (plBA_ok _ _) 200 105
  · exact xOr_ok (xTold_ok true 18 _) xItoa_ok
  · exact xRune_ok
  · exact yText_ok _
  · exact xTagP_ok _
  · exact xTagS_ok _
  · exact xTold_ok false 17 _
  · exact xTold_ok false 20 _
  · exact xTold_ok false 44 _
  · exact xTold_ok false 68 _
  · exact xTold_ok false 283 _
  · exact xAtW_ok 23 _
theorem envN_ok (x : NL) (b2 b3 m1 m2 : Nat) : EnvF Tryz.prog (envN x b2 b3 m1 m2) 12 := by
  have h := envT_ok (plugN_ok x b2 b3 m1 m2)
  exact { ty := h.ty, types := h.types, zeros := h.zeros, sizes := h.sizes, eqs := h.eqs, meth := h.meth, fn := h.fn, ext := h.ext, mixed := h.mixed }
theorem plugA_ok (L : List UInt8) : ∀ y ∈ plugA L, ExtOK Tryz.prog 12 y.1 y.2 := by
  intro y hy
  simp only [plugA, List.mem_cons, List.not_mem_nil, or_false] at hy
  rcases hy with rfl | rfl
  · exact xAlive_ok
  · exact xTagP_ok _
theorem plugB_ok (x : PL) : ∀ y ∈ plugB x, ExtOK Tryz.prog 12 y.1 y.2 := by
  intro y hy
  simp only [plugB, List.mem_cons, List.not_mem_nil, or_false] at hy
  rcases hy with rfl | rfl
  · exact xAlive_ok
  · exact xTagP_ok _
theorem plugC_ok (x : PL) (d : Value) (r : Bool) : ∀ y ∈ plugC x d r, ExtOK Tryz.prog 12 y.1 y.2 := by
  intro y hy
  simp only [plugC, List.mem_cons, List.not_mem_nil, or_false] at hy
  rcases hy with rfl | rfl | rfl
  · exact xAlive_ok
  · exact xTagP_ok _
  · exact xTold_ok false 17 _
section
open Go.Proofs.YtkmbkejmfffafaaGreatDoor.Pure Go.Proofs.YtkmbkejmfffafaaGreatDoor.PFit Go.Proofs.YtkmbkejmfffafaaGreatDoorHand Go.Proofs.YtkmbkejmfffafaaGreatDoorW.PrintWords
theorem split_big (s : ByteArray) (h : s.size ≤ 1500000) : strings_Split.f s (⟨#[45]⟩ : ByteArray) = some (pcs s) := by
  have hd := Lib.splitB_data (⟨#[45]⟩ : ByteArray) 0 (Lib.countB s (⟨#[45]⟩ : ByteArray)) s
  have hc : Lib.countB s (⟨#[45]⟩ : ByteArray) = s.data.toList.count 45 := Lib.count_one 45 s.data.toList
  have hl := Lib.splitB_all (⟨#[45]⟩ : ByteArray) (Nat.le_refl 1) 0 _ s rfl
  have hle := Lib.countB_le (⟨#[45]⟩ : ByteArray) (Nat.le_refl 1) s.size s (Nat.le_refl _)
  have e : Lib.splitB (⟨#[45]⟩ : ByteArray) 0 (Lib.countB s (⟨#[45]⟩ : ByteArray)) s = pcs s := by
    have h2 : Lib.splitK (⟨#[45]⟩ : ByteArray).data.toList 0 (Lib.countB s (⟨#[45]⟩ : ByteArray)) s.data.toList = cuts s.data.toList := splitK_cuts _ _ hc.symm
    rw [h2] at hd
    unfold pcs
    rw [← hd, List.map_map]
    have : (mkB ∘ fun x : ByteArray => x.data.toList) = id := by funext x; exact mkB_back x
    rw [this, List.map_id]
  unfold strings_Split.f
  rw [if_pos ⟨by omega, Nat.le_refl 1, by omega, hl⟩, e]
theorem parse_big (s : ByteArray) (h : s.size ≤ 1500000) : tag_Parse.f s = some (P0 (pcs s)) := by
  unfold tag_Parse.f
  rw [split_big s h, Option.bind_some, if_pos]
  have := pcs_length s
  exact ⟨this.1, by omega, fun p hp => by have := (pcs_good s p hp).2; omega⟩
theorem parts_f (lang scr reg : ByteArray) (vs : List ByteArray) (h : vs.length ≤ 1500000) : tag_Tag_parts.f lang scr reg vs = some (partsL lang scr reg vs) := by
  unfold tag_Tag_parts.f partsL
  simp only [Option.bind_some, List.length_append, List.length_cons, List.length_nil]
  by_cases a : scr.toList = ([] : List UInt8)
  · simp only [if_pos a]
    by_cases b : reg.toList = ([] : List UInt8)
    · simp only [if_pos b]
      rw [if_pos (by omega)]; simp
    · simp only [if_neg b]
      rw [if_pos (by omega), if_pos (by omega)]; simp
  · simp only [if_neg a]
    rw [if_pos (by omega)]
    by_cases b : reg.toList = ([] : List UInt8)
    · simp only [if_pos b]
      rw [if_pos (by omega)]; simp
    · simp only [if_neg b]
      rw [if_pos (by omega), if_pos (by omega)]
theorem string_f (lang scr reg : ByteArray) (vs : List ByteArray) (n : Nat) (hn : n ≤ 900) (hv : vs.length ≤ 900) (h : GoodT n (lang, scr, reg, vs, true)) : tag_Tag_String.f lang scr reg vs = some (textL (partsL lang scr reg vs)) := by
  unfold tag_Tag_String.f
  rw [parts_f lang scr reg vs (by omega)]
  have := partsL_len lang scr reg vs
  simp only [Option.bind_some]
  rw [join_eq _ n (partsL_good n lang scr reg vs h) (by omega) hn]
  rfl
end
theorem bA_data (b : ByteArray) : bA b.data.toList = b := by cases b; rfl
theorem map_bA_data (l : List ByteArray) : List.map bA (l.map (·.data.toList)) = l := by
  rw [List.map_map]
  have : (bA ∘ fun b : ByteArray => b.data.toList) = id := by funext b; exact bA_data b
  rw [this, List.map_id]
theorem bA_size (L : List UInt8) : (bA L).size = L.length := rfl
theorem tag_cases (L : List UInt8) (hL : L.length ≤ 1500000) : YtkmbkejmfffafaaGreatDoorHand.tag_Parse.f (bA L) = some (bA [], bA [], bA [], List.map bA [], false) ∨
    ∃ Lg Sc Re vs, YtkmbkejmfffafaaGreatDoorHand.tag_Parse.f (bA L) = some (bA Lg, bA Sc, bA Re, List.map bA (vs.getD []), true) ∧ (∀ l, vs = some l → l ≠ [] ∧ l.length ≤ 9223372036854775807) ∧
      (L.length ≤ 60 → ∃ T, YtkmbkejmfffafaaGreatDoorHand.tag_Parse.f (bA T) = some (bA Lg, bA Sc, bA Re, List.map bA (vs.getD []), true) ∧ PFit.tag_Tag_String.f (bA Lg) (bA Sc) (bA Re) (List.map bA (vs.getD [])) = some (bA T)) := by
  rw [parse_big (bA L) (by rw [bA_size]; exact hL)]
  have hn : Pure.pcs (bA L) ≠ [] := List.length_pos_iff.1 (Pure.pcs_length _).1
  rcases Pure.P0_said (Pure.pcs (bA L)) hn with ⟨k, _⟩ | ⟨lang, scr, reg, l, k, kn, _⟩
  · left; rw [k]; rfl
  · right
    have hg := Pure.P0_good (bA L).size (Pure.pcs (bA L)) (Pure.pcs_good _)
    have hpl := (Pure.pcs_length (bA L)).2
    rw [k] at hg
    rw [bA_size] at hg hpl
    have hl : l.length ≤ (Pure.pcs (bA L)).length := hg.2
    refine ⟨lang.data.toList, scr.data.toList, reg.data.toList, if l = [] then none else some (l.map (·.data.toList)), ?_, ?_, ?_⟩
    · rw [k, bA_data, bA_data, bA_data]
      by_cases h0 : l = []
      · subst h0; rfl
      · rw [if_neg h0]
        show _ = some (lang, scr, reg, List.map bA (l.map (·.data.toList)), true)
        rw [map_bA_data]
    · intro q hq
      by_cases h0 : l = []
      · rw [if_pos h0] at hq; cases hq
      · rw [if_neg h0] at hq
        obtain rfl := Option.some.inj hq
        exact ⟨by simpa using h0, by rw [List.length_map]; omega⟩
    · intro h60
      have hm : List.map bA ((if l = [] then none else some (l.map (·.data.toList)) : Option (List (List UInt8))).getD []) = l := by
        by_cases h0 : l = []
        · rw [if_pos h0, h0]; rfl
        · rw [if_neg h0]; exact map_bA_data l
      rw [hm, bA_data, bA_data, bA_data]
      have hg60 : Pure.GoodT 60 (lang, scr, reg, l, true) := by
        have := (Pure.P0_good 60 (Pure.pcs (bA L)) (fun p hp => ⟨(Pure.pcs_good _ p hp).1, Nat.le_trans (Pure.pcs_good _ p hp).2 (by rw [bA_size]; exact h60)⟩)).1
        rw [k] at this; exact this
      have hp := Pure.partsL_good 60 lang scr reg l hg60
      have e := Pure.text_pcs 60 _ (Pure.partsL_ne lang scr reg l) hp
      have hs := Pure.text_size 60 _ hp
      have hpl2 := (Pure.partsL_len lang scr reg l).1
      refine ⟨(Pure.textL (Pure.partsL lang scr reg l)).data.toList, ?_, ?_⟩
      · rw [bA_data, parse_big _ (by
          have : (Pure.partsL lang scr reg l).length * (60 + 1) ≤ 100 * (60 + 1) := Nat.mul_le_mul_right _ (by omega)
          omega), e, Pure.P0_again lang scr reg l kn]
      · rw [bA_data]
        exact string_f lang scr reg l 60 (by omega) (by omega) hg60
theorem decS_len (neg : Bool) {D : List UInt8} {k : Nat} (h : D.length ≤ 30) : (decS neg D k).length < 400 := by
  cases neg <;> cases k <;> simp [decS] <;> omega
theorem comes {E : Env} {m : Int} {args : List Value} {orc : List (Nat × Bool)} {ob : List Bool} (hE : EnvF Tryz.prog E 12) (h : lookB (acall E 200 6 args (hM m orc)) = some (.bool true, [], allB (fun b => b) ob)) (ho : ∀ y ∈ ob, y = true) :
    ∃ E orc h1, EnvF Tryz.prog E 12 ∧ acall E 200 6 args (hM m orc) = some (.bool true, h1) ∧ OB h1 ∧ h1.log = [] := by
  obtain ⟨h1, k1, k2, k3⟩ := lookB_some h ((allB_eq _ _).2 ho)
  exact ⟨E, orc, h1, hE, k1, k3, k2⟩
theorem comesN {y : NL} {z w : Int} {b2 b3 m1 m2 : Nat} {M : Int} (h : NumRun y z w b2 b3 m1 m2 M) (k : NLF y z w) :
    ∃ E orc h1, EnvF Tryz.prog E 12 ∧ acall E 200 6 [strV y.p.L, y.p.dec, .int .i64 z, .int .i64 w] (hM M orc) = some (.bool true, h1) ∧ OB h1 ∧ h1.log = [] := by
  unfold NumRun at h
  rw [resN_true] at h
  exact comes (envN_ok _ _ _ _ _) h (obN_ok k _ _ _ _)
theorem mainN (L Lg Sc Re T D S F : List UInt8) (vs : Option (List (List UInt8))) (neg : Bool) (k : Nat) (M : Int) (A B : List UInt8) (l m q u v : Nat) (z w : Int) (hA : Few A) (hB : Few B) (h : NLF ⟨⟨k, 0, L, Lg, Sc, Re, T, vs, neg, D, S⟩, A, B, F, l, m, q, u, v⟩ z w) :
    ∃ E orc h1, EnvF Tryz.prog E 12 ∧ acall E 200 6 [strV L, decA neg D k, .int .i64 z, .int .i64 w] (hM M orc) = some (.bool true, h1) ∧ OB h1 ∧ h1.log = [] := by
  obtain ⟨a, rfl⟩ | ⟨a, a2, rfl⟩ := hA <;> obtain ⟨b, rfl⟩ | ⟨b, b2, rfl⟩ := hB <;> cases vs
  · exact comesN (runN110 L Lg Sc Re T D S F neg M k l m q u v z w a b) h
  · exact comesN (runN111 L Lg Sc Re T D S F _ neg M k l m q u v z w a b) h
  · exact comesN (runN120 L Lg Sc Re T D S F neg M k l m q u v z w a b b2) h
  · exact comesN (runN121 L Lg Sc Re T D S F _ neg M k l m q u v z w a b b2) h
  · exact comesN (runN210 L Lg Sc Re T D S F neg M k l m q u v z w a a2 b) h
  · exact comesN (runN211 L Lg Sc Re T D S F _ neg M k l m q u v z w a a2 b) h
  · exact comesN (runN220 L Lg Sc Re T D S F neg M k l m q u v z w a a2 b b2) h
  · exact comesN (runN221 L Lg Sc Re T D S F _ neg M k l m q u v z w a a2 b b2) h
theorem wrapU (z : Int) : ∃ u : Nat, IntKind.u64.wrap z = Int.ofNat u := by
  have h : IntKind.u64.wrap z = z % 18446744073709551616 := rfl
  have h0 : 0 ≤ z % 18446744073709551616 := Int.emod_nonneg _ (by decide)
  exact ⟨(z % 18446744073709551616).toNat, by rw [h]; exact (Int.toNat_of_nonneg h0).symm⟩
theorem nMin_le {l m : Nat} (hl : l < 21) (hm : m < 21) : nMin l m ≤ 20 := by
  unfold nMin
  cases Nat.blt m l <;> simp <;> omega
theorem numbers_run (L : List UInt8) (neg : Bool) (D : List UInt8) (sc z w : Int) (m : Int) (hL : L.length ≤ 1500000) :
    ∃ E orc h1, EnvF Tryz.prog E 12 ∧ acall E 200 6 [strV L, .agg ⟨[.bool neg, strV D, .int .i64 sc]⟩, .int .i64 z, .int .i64 w] (hM m orc) = some (.bool true, h1) ∧ OB h1 ∧ h1.log = [] := by
  rcases tag_cases L hL with h | ⟨Lg, Sc, Re, vs, h1, h2, h3⟩
  · exact comes (envS_ok (plugA_ok L)) (runXA0 L D neg m sc z w) (oA_ok h)
  · by_cases h60 : L.length ≤ 60
    · obtain ⟨T, hT, hS⟩ := h3 h60
      obtain ⟨r, hr, hr2⟩ := RightLaw.right_law neg D sc
      have p17 := right_pure 100 neg D sc r hr
      have tf0 : ∀ x : PL, x.L = L → x.Lg = Lg → x.Sc = Sc → x.Re = Re → x.vs = vs → x.T = T → TagF x := fun x e1 e2 e3 e4 e5 e6 => ⟨by rw [e1, e2, e3, e4, e5]; exact h1, by rw [e6, e2, e3, e4, e5]; exact hT, by rw [e2, e3, e4, e5, e6]; exact hS, fun v hv => h2 v (by rw [← e5]; exact hv)⟩
      cases r with
      | false =>
        cases vs with
        | none => exact comes (envS_ok (plugC_ok _ _ _)) (runXC0 L Lg Sc Re D neg m sc z w) (oC_okT h1 h2 h60 p17)
        | some vs => exact comes (envS_ok (plugC_ok _ _ _)) (runXC1 L Lg Sc Re D vs neg m sc z w) (oC_okT h1 h2 h60 p17)
      | true =>
        obtain ⟨k, hk, hD60, hR⟩ := hr2 rfl
        subst hk
        by_cases hD : D.length ≤ 30
        · obtain ⟨u, hu⟩ := wrapU z
          obtain ⟨v, hv⟩ := wrapU w
          have l21 : u % 21 < 21 := Nat.mod_lt _ (by omega)
          have m21 : v % 21 < 21 := Nat.mod_lt _ (by omega)
          obtain ⟨F, f, f1, f0⟩ := format_tells Lg neg (nMin_le l21 m21) (show v % 21 ≤ 20 by omega) hR.digs hR.lt hD
          have hD1 : D.length ≤ 1000 := by omega
          exact mainN L Lg Sc Re T D (decS neg D k) F vs neg k m (itoaF (u % 21)) (itoaF (v % 21)) (u % 21) (v % 21) (nMin (u % 21) (v % 21)) u v z w (itoa_few l21) (itoa_few m21)
            ⟨tf0 _ rfl rfl rfl rfl rfl rfl, h60, decS_len neg hD, hD, p17, decString_pure neg hD1 hR.lt, value_pure [110] neg hR hD, l21, m21, rfl, rfl, rfl, hu, hv, rfl, rfl, f, f1, f0⟩
        · cases vs with
          | none => exact comes (envS_ok (plugC_ok _ _ _)) (runXE0 L Lg Sc Re D neg m _ z w) (oE_okT h1 h2 h60 p17 (Nat.lt_of_not_le hD))
          | some vs => exact comes (envS_ok (plugC_ok _ _ _)) (runXE1 L Lg Sc Re D vs neg m _ z w) (oE_okT h1 h2 h60 p17 (Nat.lt_of_not_le hD))
    · cases vs with
      | none => exact comes (envS_ok (plugB_ok _)) (runXB0 L Lg Sc Re D neg m sc z w) (oB_okT h1 h2 (Nat.lt_of_not_le h60))
      | some vs => exact comes (envS_ok (plugB_ok _)) (runXB1 L Lg Sc Re D vs neg m sc z w) (oB_okT h1 h2 (Nat.lt_of_not_le h60))
end Go.Proofs.YtkmbkejmfffafaaGreatDoor.Refl
namespace Go.Proofs.YtkmbkejmfffafaaGreatDoor.Refl
open Go Go.RowKit Go.ChangeShapes Go.ChangeAt Go.WideShapes Go.Deep
set_option linter.unusedVariables false
set_option maxRecDepth 100000
theorem cells58 : Tryz.prog.cellsOf 58 = 3 := by kernel_rfl
theorem cells4 : Tryz.prog.cellsOf 4 = 1 := by kernel_rfl
theorem cells9s : Tryz.prog.cellsOf 9 = 1 := by kernel_rfl
theorem cells3i : Tryz.prog.cellsOf 3 = 1 := by kernel_rfl
section
variable {H : Type} {enc : TypeId × Value → H}
theorem open_dec {w : World} {r : Reach} {b0 base : Nat} {spare : Nat → Bool} {held : Bool} {v : Value} {d : DataW H} {ps : List MemPlace} (hval : Value.okWide Tryz.prog w r b0 58 v) (hd : DataW.Trod enc Tryz.prog w base spare held 58 v d ps) :
    ∃ (neg : Bool) (D : ByteArray) (z : Int), v = .agg #[.bool neg, .string D, .int .i64 z] ∧ d = .agg [.lit (.bool neg), .lit (.string D.data.toList), .lit (.int .i64 z)] ∧ ps = [] ∧ D.size ≤ maxLen ∧ (Lit.int .i64 z).wf = true := by
  obtain ⟨cs, rfl, hsz⟩ := okWide_struct Tryz.underlying58 hval
  rw [cells58] at hsz
  obtain ⟨l⟩ := cs
  match l, hsz with
  | [c0, c1, c2], _ =>
  obtain ⟨fuel, hf⟩ := hd
  obtain ⟨y0, y1, y2, m, hx, _, hy0, hy1, hy2⟩ := trod_struct3 Tryz.underlying58 hf
  obtain ⟨neg, e0, rfl⟩ := DataW.trod_bool Tryz.underlying4 hy0
  obtain ⟨D, e1, rfl, hD⟩ := DataW.trod_string Tryz.underlying9 hy1
  obtain ⟨z, e2, rfl, wz⟩ := DataW.trod_int Tryz.underlying3 hy2
  simp [Value.cells, cells4, cells9s, cells3i] at e0 e1 e2
  subst e0 e1 e2
  simp only [Prod.mk.injEq] at hx
  obtain ⟨rfl, rfl⟩ := hx
  exact ⟨neg, D, z, rfl, rfl, rfl, hD, wz⟩
theorem shut_dec {w : World} {base : Nat} {spare : Nat → Bool} {held : Bool} {neg : Bool} {D : ByteArray} {z : Int} (hD : D.size ≤ maxLen) (wz : (Lit.int .i64 z).wf = true) :
    DataW.Trod enc Tryz.prog w base spare held 58 (.agg #[.bool neg, .string D, .int .i64 z]) (.agg [.lit (.bool neg), .lit (.string D.data.toList), .lit (.int .i64 z)]) [] := ⟨2, by
  have f0 : DataW.trod enc Tryz.prog w base spare held 1 4 [.bool neg] = some (.lit (.bool neg), []) := by simp [DataW.trod, Tryz.underlying4]
  have f1 : DataW.trod enc Tryz.prog w base spare held 1 9 [.string D] = some (.lit (.string D.data.toList), []) := by simp [DataW.trod, Tryz.underlying9, hD]
  have f2 : DataW.trod enc Tryz.prog w base spare held 1 3 [.int .i64 z] = some (.lit (.int .i64 z), []) := by simp [DataW.trod, Tryz.underlying3, wz]
  have := trod_struct3_mk (enc := enc) (w := w) (base := base) (spare := spare) (held := held) (n := 1) (cs := [.bool neg, .string D, .int .i64 z]) Tryz.underlying58 (by simp [cells58]) (by simpa [cells4] using f0) (by simpa [cells9s] using f1) (by simpa [cells3i] using f2)
  simpa [Value.cells] using this⟩
end
end Go.Proofs.YtkmbkejmfffafaaGreatDoor.Refl
