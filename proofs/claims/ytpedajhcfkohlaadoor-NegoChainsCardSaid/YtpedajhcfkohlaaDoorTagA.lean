import Derived.Test.YtpedajhcfkohlaaDoorHandP
import Derived.Lib.SplitLaws
/- Tags in plain lists: the pieces of a text between hyphens, the parts of a tag, and how the one comes out of the other. -/
namespace Go.Proofs.YtpedajhcfkohlaaDoor.Pure
open Go.RowKit Go.Proofs.YtpedajhcfkohlaaDoorHand Go.Proofs.YtpedajhcfkohlaaDoorW.PrintWords Go.Proofs.YtpedajhcfkohlaaDoorW.PrintLast Go.Proofs.YtpedajhcfkohlaaDoorW.PrintMore
set_option linter.unusedSimpArgs false
theorem tl (s : ByteArray) : s.toList = s.data.toList := Lib.toList_data s
theorem tl_len (s : ByteArray) : s.data.toList.length = s.size := by rw [Array.length_toList]; rfl
theorem ba_ext {a b : ByteArray} (h : a.data.toList = b.data.toList) : a = b := by
  apply ByteArray.ext
  exact Array.ext' h
/-- No hyphen. -/
def noH (l : List UInt8) : Prop := ∀ x ∈ l, x ≠ 45
/-- The pieces between hyphens. -/
def cuts : List UInt8 → List (List UInt8)
  | [] => [[]]
  | c :: r => if c = 45 then [] :: cuts r else match cuts r with
    | [] => [[c]]
    | h :: t => (c :: h) :: t
theorem cuts_ne : ∀ l, cuts l ≠ []
  | [] => by simp [cuts]
  | c :: r => by
    unfold cuts
    split
    · simp
    · split <;> simp
theorem cuts_noH : ∀ (l : List UInt8) (p : List UInt8), p ∈ cuts l → noH p
  | [], p, h => by
    simp only [cuts, List.mem_singleton] at h
    subst h
    intro x hx; simp at hx
  | c :: r, p, h => by
    unfold cuts at h
    split at h
    · simp only [List.mem_cons] at h
      rcases h with rfl | h
      · intro x hx; simp at hx
      · exact cuts_noH r p h
    · rename_i hc
      split at h
      · rename_i hn; exact absurd hn (cuts_ne r)
      · rename_i h0 t0 he
        simp only [List.mem_cons] at h
        rcases h with rfl | h
        · intro x hx
          simp only [List.mem_cons] at hx
          rcases hx with rfl | hx
          · exact hc
          · exact cuts_noH r h0 (by rw [he]; simp) x hx
        · exact cuts_noH r p (by rw [he]; simp [h])
theorem cuts_app : ∀ (a : List UInt8) (r : List UInt8), noH a → cuts (a ++ 45 :: r) = a :: cuts r
  | [], r, _ => by simp [cuts]
  | c :: a, r, h => by
    have hc : c ≠ 45 := h c (by simp)
    have ih := cuts_app a r (fun x hx => h x (by simp [hx]))
    rw [List.cons_append]
    show (if c = 45 then [] :: cuts (a ++ 45 :: r) else match cuts (a ++ 45 :: r) with | [] => [[c]] | h :: t => (c :: h) :: t) = _
    rw [if_neg hc, ih]
theorem cuts_one : ∀ (a : List UInt8), noH a → cuts a = [a]
  | [], _ => rfl
  | c :: a, h => by
    have hc : c ≠ 45 := h c (by simp)
    have ih := cuts_one a (fun x hx => h x (by simp [hx]))
    show (if c = 45 then [] :: cuts a else match cuts a with | [] => [[c]] | h :: t => (c :: h) :: t) = _
    rw [if_neg hc, ih]
/-- Joined with hyphens and cut at them again: the same. -/
theorem cuts_join : ∀ (ps : List (List UInt8)), ps ≠ [] → (∀ p ∈ ps, noH p) → cuts (Lib.join ps [45]) = ps
  | [], h, _ => absurd rfl h
  | [p], _, h => by rw [Lib.join_one]; exact cuts_one p (h p (by simp))
  | p :: q :: r, _, h => by
    have e : Lib.join (p :: q :: r) [45] = p ++ 45 :: Lib.join (q :: r) [45] := by
      unfold Lib.join
      simp [List.intercalate, List.intersperse]
    rw [e, cuts_app p _ (h p (by simp)), cuts_join (q :: r) (by simp) (fun x hx => h x (by simp [List.mem_cons] at hx ⊢; exact .inr hx))]
theorem index_miss : ∀ (l : List UInt8), Lib.indexByte l 45 = -1 → noH l
  | [], _ => by intro x hx; simp at hx
  | c :: r, h => by
    unfold Lib.indexByte at h
    split at h
    · cases h
    · rename_i hc
      split at h
      · rename_i he
        intro x hx
        simp only [List.mem_cons] at hx
        rcases hx with rfl | hx
        · intro e; subst e; simp at hc
        · exact index_miss r (beq_iff_eq.1 he) x hx
      · rename_i he
        have := Lib.indexByte_ge r 45
        have hne : Lib.indexByte r 45 ≠ -1 := fun e => he (beq_iff_eq.2 e)
        omega
theorem index_hit : ∀ (l : List UInt8) (i : Nat), Lib.indexByte l 45 = i → ∃ a r, l = a ++ 45 :: r ∧ a.length = i ∧ noH a
  | [], i, h => by
    have h' : (-1 : Int) = i := h
    omega
  | c :: r, i, h => by
    unfold Lib.indexByte at h
    split at h
    · rename_i hc
      have hc' : c = 45 := beq_iff_eq.1 hc
      subst hc'
      have : i = 0 := by omega
      subst this
      exact ⟨[], r, rfl, rfl, by intro x hx; simp at hx⟩
    · rename_i hc
      split at h
      · omega
      · rename_i he
        have hg := Lib.indexByte_ge r 45
        have hne : Lib.indexByte r 45 ≠ -1 := fun e => he (beq_iff_eq.2 e)
        obtain ⟨a, r', h1, h2, h3⟩ := index_hit r (i - 1) (by omega)
        refine ⟨c :: a, r', by rw [h1]; rfl, by simp [h2]; omega, ?_⟩
        intro x hx
        simp only [List.mem_cons] at hx
        rcases hx with rfl | hx
        · intro e; subst e; simp at hc
        · exact h3 x hx
theorem splitK_cuts : ∀ (k : Nat) (s : List UInt8), s.count 45 = k → Lib.splitK [45] 0 k s = cuts s
  | 0, s, h => by
    have hn : noH s := fun x hx e => by
      subst e
      have := List.count_pos_iff.2 hx
      omega
    rw [cuts_one s hn]
    rfl
  | k + 1, s, h => by
    unfold Lib.splitK
    rw [Lib.index_one]
    have hg := Lib.indexByte_ge s 45
    by_cases hm : Lib.indexByte s 45 = -1
    · have hn := index_miss s hm
      have : s.count 45 = 0 := List.count_eq_zero.2 (fun hx => hn 45 hx rfl)
      omega
    · rw [if_neg (by rw [beq_iff_eq]; exact hm)]
      obtain ⟨a, r, h1, h2, h3⟩ := index_hit s (Lib.indexByte s 45).toNat (by omega)
      have hc : r.count 45 = k := by
        have ha : a.count 45 = 0 := List.count_eq_zero.2 (fun hx => h3 45 hx rfl)
        rw [h1, List.count_append, ha] at h
        simp at h
        omega
      have e1 : s.take ((Lib.indexByte s 45).toNat + 0) = a := by
        rw [Nat.add_zero]
        generalize (Lib.indexByte s 45).toNat = i at *
        subst h2; rw [h1]; simp
      have e2 : s.drop ((Lib.indexByte s 45).toNat + ([45] : List UInt8).length) = r := by
        generalize (Lib.indexByte s 45).toNat = i at *
        subst h2; rw [h1]; simp
      rw [e1, e2, splitK_cuts k r hc, h1, cuts_app a r h3]
end Go.Proofs.YtpedajhcfkohlaaDoor.Pure
