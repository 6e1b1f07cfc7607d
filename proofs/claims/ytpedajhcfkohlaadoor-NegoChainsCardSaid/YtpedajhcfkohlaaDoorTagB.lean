import Derived.Test.YtpedajhcfkohlaaDoorTagA
/- What tag.Parse hands back: all parts are short and without a hyphen. -/
namespace Go.Proofs.YtpedajhcfkohlaaDoor.Pure
open Go.RowKit Go.Proofs.YtpedajhcfkohlaaDoorHand Go.Proofs.YtpedajhcfkohlaaDoorW.PrintWords Go.Proofs.YtpedajhcfkohlaaDoorW.PrintLast Go.Proofs.YtpedajhcfkohlaaDoorW.PrintMore
set_option linter.unusedSimpArgs false
def mkB (l : List UInt8) : ByteArray := ⟨l.toArray⟩
theorem mkB_data (l : List UInt8) : (mkB l).data.toList = l := rfl
theorem mkB_back (s : ByteArray) : mkB s.data.toList = s := ba_ext rfl
theorem mkB_size (l : List UInt8) : (mkB l).size = l.length := by rw [← tl_len, mkB_data]
def pcs (s : ByteArray) : List ByteArray := (cuts s.data.toList).map mkB
theorem cuts_len : ∀ (l : List UInt8), (∀ p ∈ cuts l, p.length ≤ l.length) ∧ (cuts l).length ≤ l.length + 1
  | [] => by simp [cuts]
  | c :: r => by
    obtain ⟨h1, h2⟩ := cuts_len r
    unfold cuts
    split
    · refine ⟨fun p hp => ?_, by simp; omega⟩
      simp only [List.mem_cons] at hp
      rcases hp with rfl | hp
      · simp
      · have := h1 p hp; simp; omega
    · split
      · rename_i hn; exact absurd hn (cuts_ne r)
      · rename_i h0 t0 he
        rw [he] at h1 h2
        refine ⟨fun p hp => ?_, by simp at h2 ⊢; omega⟩
        simp only [List.mem_cons] at hp
        rcases hp with rfl | hp
        · have := h1 h0 (by simp); simp; omega
        · have := h1 p (by simp [hp]); simp; omega
def Good (n : Nat) (p : ByteArray) : Prop := noH p.data.toList ∧ p.size ≤ n
theorem pcs_good (s : ByteArray) : ∀ p ∈ pcs s, Good s.size p := by
  intro p hp
  unfold pcs at hp
  obtain ⟨l, hl, rfl⟩ := List.mem_map.1 hp
  refine ⟨cuts_noH _ l hl, ?_⟩
  rw [mkB_size, ← tl_len]
  exact (cuts_len _).1 l hl
theorem pcs_length (s : ByteArray) : 0 < (pcs s).length ∧ (pcs s).length ≤ s.size + 1 := by
  have h := (cuts_len s.data.toList).2
  have hn := cuts_ne s.data.toList
  unfold pcs
  rw [List.length_map, ← tl_len]
  exact ⟨List.length_pos_iff.2 hn, h⟩
theorem split_eq (s : ByteArray) (h : s.size < 100000) : strings_Split.f s (⟨#[45]⟩ : ByteArray) = some (pcs s) := by
  have hd := Lib.splitB_data (⟨#[45]⟩ : ByteArray) 0 (Lib.countB s (⟨#[45]⟩ : ByteArray)) s
  have hc : Lib.countB s (⟨#[45]⟩ : ByteArray) = s.data.toList.count 45 := Lib.count_one 45 s.data.toList
  have hl := Lib.splitB_all (⟨#[45]⟩ : ByteArray) (Nat.le_refl 1) 0 _ s rfl
  have hle := Lib.countB_le (⟨#[45]⟩ : ByteArray) (Nat.le_refl 1) s.size s (Nat.le_refl _)
  have e : Lib.splitB (⟨#[45]⟩ : ByteArray) 0 (Lib.countB s (⟨#[45]⟩ : ByteArray)) s = pcs s := by
    have h2 : Lib.splitK (⟨#[45]⟩ : ByteArray).data.toList 0 (Lib.countB s (⟨#[45]⟩ : ByteArray)) s.data.toList = cuts s.data.toList := splitK_cuts _ _ hc.symm
    rw [h2] at hd
    unfold pcs
    rw [← hd, List.map_map]
    have : (mkB ∘ fun x : ByteArray => x.data.toList) = id := by funext x; exact mkB_back x
    rw [this, List.map_id]
  unfold strings_Split.f
  rw [if_pos ⟨by omega, Nat.le_refl 1, by omega, hl⟩, e]
theorem parse_eq (s : ByteArray) (h : s.size ≤ 1000) : tag_Parse.f s = some (P0 (pcs s)) := by
  unfold tag_Parse.f
  rw [split_eq s (by omega), Option.bind_some, if_pos]
  have := pcs_length s
  exact ⟨this.1, by omega, fun p hp => by have := (pcs_good s p hp).2; omega⟩
theorem fc_noH (up : Bool) (c : UInt8) (h : c ≠ 45) : fc up c ≠ 45 := by
  have hb : c.toNat < 256 := c.toNat_lt
  unfold fc
  cases up with
  | true =>
    rw [if_pos rfl]
    split
    · intro e
      have := congrArg UInt8.toNat e
      rw [UInt8.toNat_ofNat'] at this
      have h45 : (45 : UInt8).toNat = 45 := rfl
      omega
    · exact h
  | false =>
    rw [if_neg (by simp)]
    split
    · intro e
      have := congrArg UInt8.toNat e
      rw [UInt8.toNat_ofNat'] at this
      have h45 : (45 : UInt8).toNat = 45 := rfl
      omega
    · exact h
theorem fold_good (n : Nat) (up : Bool) (p : ByteArray) (h : Good n p) : Good n (foldS up p) := by
  refine ⟨?_, by rw [foldS_size]; exact h.2⟩
  intro x hx
  have hx' : x ∈ p.data.toList.map (fc up) := hx
  obtain ⟨c, hc, rfl⟩ := List.mem_map.1 hx'
  exact fc_noH up c (h.1 c hc)
theorem extract_list (p : ByteArray) (a b : Nat) : (p.extract a b).data.toList = (p.data.toList.drop a).take (b - a) := by
  rw [Lib.extract_data]
theorem extract_good (n : Nat) (p : ByteArray) (a b : Nat) (h : Good n p) : Good n (p.extract a b) := by
  refine ⟨?_, by have := h.2; rw [ByteArray.size_extract]; omega⟩
  intro x hx
  rw [extract_list] at hx
  exact h.1 x (List.mem_of_mem_drop (List.mem_of_mem_take hx))
theorem scr_good (n : Nat) (p : ByteArray) (h : Good n p) : Good n (scrS p) := by
  have h1 := fold_good n true _ (extract_good n p 0 1 h)
  have h2 := fold_good n false _ (extract_good n p 1 p.size h)
  refine ⟨?_, ?_⟩
  · intro x hx
    have hx' : x ∈ (foldS true (p.extract 0 1)).data.toList ++ (foldS false (p.extract 1 p.size)).data.toList := by
      unfold scrS at hx
      rw [ByteArray.data_append, Array.toList_append] at hx
      exact hx
    rcases List.mem_append.1 hx' with hx | hx
    · exact h1.1 x hx
    · exact h2.1 x hx
  · unfold scrS
    have := h.2
    rw [ByteArray.size_append, foldS_size, foldS_size, ByteArray.size_extract, ByteArray.size_extract]
    omega
def GoodT (n : Nat) (t : ByteArray × ByteArray × ByteArray × List ByteArray × Bool) : Prop := Good n t.1 ∧ Good n t.2.1 ∧ Good n t.2.2.1 ∧ (∀ v ∈ t.2.2.2.1, Good n v)
theorem good_nil (n : Nat) : Good n (⟨#[]⟩ : ByteArray) := ⟨(fun x hx => by cases hx), Nat.zero_le _⟩
theorem good_not (n : Nat) : GoodT n notTold := ⟨good_nil n, good_nil n, good_nil n, (fun v hv => by cases hv)⟩
theorem P3_good (n : Nat) (lang scr reg : ByteArray) (h1 : Good n lang) (h2 : Good n scr) (h3 : Good n reg) : ∀ (l acc : List ByteArray), (∀ p ∈ l, Good n p) → (∀ p ∈ acc, Good n p) →
    GoodT n (P3 lang scr reg l acc) ∧ (P3 lang scr reg l acc).2.2.2.1.length ≤ acc.length + l.length
  | [], acc, _, ha => ⟨⟨h1, h2, h3, ha⟩, by simp [P3]⟩
  | p :: ps, acc, hl, ha => by
    have e : P3 lang scr reg (p :: ps) acc = if varB p = true then (if hasS acc (foldS false p) = true then notTold else P3 lang scr reg ps (acc ++ [foldS false p])) else notTold := rfl
    rw [e]
    by_cases hv : varB p = true
    · rw [if_pos hv]
      by_cases hh : hasS acc (foldS false p) = true
      · rw [if_pos hh]
        exact ⟨good_not n, Nat.zero_le _⟩
      · rw [if_neg hh]
        have ih := P3_good n lang scr reg h1 h2 h3 ps (acc ++ [foldS false p]) (fun q hq => hl q (by simp [hq])) (fun q hq => by
          rcases List.mem_append.1 hq with hq | hq
          · exact ha q hq
          · simp only [List.mem_singleton] at hq
            subst hq
            exact fold_good n false p (hl p (by simp)))
        refine ⟨ih.1, ?_⟩
        have := ih.2
        rw [List.length_append, List.length_singleton] at this
        rw [List.length_cons]
        omega
    · rw [if_neg hv]
      exact ⟨good_not n, Nat.zero_le _⟩
theorem P2_good (n : Nat) (lang scr : ByteArray) (h1 : Good n lang) (h2 : Good n scr) (l : List ByteArray) (hl : ∀ p ∈ l, Good n p) : GoodT n (P2 lang scr l) ∧ (P2 lang scr l).2.2.2.1.length ≤ l.length := by
  cases l with
  | nil => exact P3_good n lang scr _ h1 h2 (good_nil n) [] [] hl (by intro v hv; cases hv)
  | cons p ps =>
    have e : P2 lang scr (p :: ps) = if regB p = true then P3 lang scr (foldS true p) ps [] else P3 lang scr (⟨#[]⟩ : ByteArray) (p :: ps) [] := rfl
    rw [e]
    by_cases hv : regB p = true
    · rw [if_pos hv]
      have := P3_good n lang scr (foldS true p) h1 h2 (fold_good n true p (hl p (by simp))) ps [] (fun q hq => hl q (by simp [hq])) (by intro v hv; cases hv)
      refine ⟨this.1, ?_⟩
      have h := this.2
      rw [List.length_nil] at h
      rw [List.length_cons]
      omega
    · rw [if_neg hv]
      have := P3_good n lang scr _ h1 h2 (good_nil n) (p :: ps) [] hl (by intro v hv; cases hv)
      refine ⟨this.1, ?_⟩
      have h := this.2
      rw [List.length_nil] at h
      omega
theorem P1_good (n : Nat) (lang : ByteArray) (h1 : Good n lang) (l : List ByteArray) (hl : ∀ p ∈ l, Good n p) : GoodT n (P1 lang l) ∧ (P1 lang l).2.2.2.1.length ≤ l.length := by
  cases l with
  | nil => exact P2_good n lang _ h1 (good_nil n) [] hl
  | cons p ps =>
    have e : P1 lang (p :: ps) = if scrB p = true then P2 lang (scrS p) ps else P2 lang (⟨#[]⟩ : ByteArray) (p :: ps) := rfl
    rw [e]
    by_cases hv : scrB p = true
    · rw [if_pos hv]
      have := P2_good n lang (scrS p) h1 (scr_good n p (hl p (by simp))) ps (fun q hq => hl q (by simp [hq]))
      exact ⟨this.1, by have := this.2; rw [List.length_cons]; omega⟩
    · rw [if_neg hv]
      exact P2_good n lang _ h1 (good_nil n) (p :: ps) hl
theorem P0_good (n : Nat) (l : List ByteArray) (hl : ∀ p ∈ l, Good n p) : GoodT n (P0 l) ∧ (P0 l).2.2.2.1.length ≤ l.length := by
  cases l with
  | nil => exact ⟨good_not n, Nat.zero_le _⟩
  | cons p ps =>
    have e : P0 (p :: ps) = if badB p = true then notTold else P1 (foldS false p) ps := rfl
    rw [e]
    by_cases hv : badB p = true
    · rw [if_pos hv]
      exact ⟨good_not n, Nat.zero_le _⟩
    · rw [if_neg hv]
      have := P1_good n (foldS false p) (fold_good n false p (hl p (by simp))) ps (fun q hq => hl q (by simp [hq]))
      exact ⟨this.1, by have := this.2; rw [List.length_cons]; omega⟩
/-- The parts of a tag, in order. -/
def partsL (lang scr reg : ByteArray) (vs : List ByteArray) : List ByteArray := [lang] ++ (if scr.toList = ([] : List UInt8) then [] else [scr]) ++ (if reg.toList = ([] : List UInt8) then [] else [reg]) ++ vs
theorem partsL_good (n : Nat) (lang scr reg : ByteArray) (vs : List ByteArray) (h : GoodT n (lang, scr, reg, vs, true)) : ∀ p ∈ partsL lang scr reg vs, Good n p := by
  intro p hp
  obtain ⟨h1, h2, h3, h4⟩ := h
  unfold partsL at hp
  rcases List.mem_append.1 hp with hp | hp
  · rcases List.mem_append.1 hp with hp | hp
    · rcases List.mem_append.1 hp with hp | hp
      · simp only [List.mem_singleton] at hp
        subst hp; exact h1
      · split at hp
        · cases hp
        · simp only [List.mem_singleton] at hp
          subst hp; exact h2
    · split at hp
      · cases hp
      · simp only [List.mem_singleton] at hp
        subst hp; exact h3
  · exact h4 p hp
theorem partsL_ne (lang scr reg : ByteArray) (vs : List ByteArray) : partsL lang scr reg vs ≠ [] := by unfold partsL; simp
theorem partsL_len (lang scr reg : ByteArray) (vs : List ByteArray) : (partsL lang scr reg vs).length ≤ vs.length + 3 ∧ 1 ≤ (partsL lang scr reg vs).length := by
  unfold partsL
  split <;> split <;> simp <;> omega
/-- A tag's text. -/
def textL (ps : List ByteArray) : ByteArray := mkB (Lib.join (ps.map (·.data.toList)) [45])
theorem join_len (n : Nat) : ∀ (ps : List (List UInt8)), (∀ p ∈ ps, p.length ≤ n) → (Lib.join ps [45]).length ≤ ps.length * (n + 1)
  | [], _ => by simp [Lib.join]
  | [p], h => by rw [Lib.join_one]; have := h p (by simp); simp; omega
  | p :: q :: r, h => by
    have e : Lib.join (p :: q :: r) [45] = p ++ 45 :: Lib.join (q :: r) [45] := by
      unfold Lib.join
      simp [List.intercalate, List.intersperse]
    have ih := join_len n (q :: r) (fun x hx => h x (by simp [List.mem_cons] at hx ⊢; exact .inr hx))
    have := h p (by simp)
    rw [e, List.length_append, List.length_cons, List.length_cons, Nat.succ_mul]
    omega
theorem text_pcs (n : Nat) (ps : List ByteArray) (h0 : ps ≠ []) (h : ∀ p ∈ ps, Good n p) : pcs (textL ps) = ps := by
  unfold pcs textL
  rw [mkB_data, cuts_join]
  · rw [List.map_map]
    have : (mkB ∘ fun x : ByteArray => x.data.toList) = id := by funext x; exact mkB_back x
    rw [this, List.map_id]
  · intro e
    exact h0 (List.map_eq_nil_iff.1 e)
  · intro p hp
    obtain ⟨q, hq, rfl⟩ := List.mem_map.1 hp
    exact (h q hq).1
theorem text_size (n : Nat) (ps : List ByteArray) (h : ∀ p ∈ ps, Good n p) : (textL ps).size ≤ ps.length * (n + 1) := by
  unfold textL
  rw [mkB_size]
  have := join_len n (ps.map (·.data.toList)) (fun p hp => by
    obtain ⟨q, hq, rfl⟩ := List.mem_map.1 hp
    rw [tl_len]; exact (h q hq).2)
  rw [List.length_map] at this
  exact this
theorem join_eq (ps : List ByteArray) (n : Nat) (h : ∀ p ∈ ps, Good n p) (hl : ps.length ≤ 1000) (hn : n ≤ 900) : strings_Join.f ps (⟨#[45]⟩ : ByteArray) = some (textL ps) := by
  have hs := text_size n ps h
  unfold textL at hs
  rw [mkB_size] at hs
  have hm : ps.length * (n + 1) ≤ 1000 * (n + 1) := Nat.mul_le_mul_right _ hl
  unfold strings_Join.f
  rw [if_pos]
  · rfl
  · exact ⟨by omega, by
      show (Lib.join (ps.map (·.data.toList)) [45]).length ≤ 1000000
      omega⟩
end Go.Proofs.YtpedajhcfkohlaaDoor.Pure
