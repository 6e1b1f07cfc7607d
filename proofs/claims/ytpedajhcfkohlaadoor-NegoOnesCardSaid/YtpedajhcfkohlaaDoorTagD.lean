import Derived.Test.YtpedajhcfkohlaaDoorTagB
/- What tag.Parse tells is in its form: its parts are told again as themselves; and the law's own reading of a text, part by part, tells the same. -/
namespace Go.Proofs.YtpedajhcfkohlaaDoor.Pure
open Go.RowKit Go.Proofs.YtpedajhcfkohlaaDoorHand Go.Proofs.YtpedajhcfkohlaaDoorW.PrintWords Go.Proofs.YtpedajhcfkohlaaDoorW.PrintLast Go.Proofs.YtpedajhcfkohlaaDoorW.PrintMore
set_option linter.unusedSimpArgs false
set_option linter.unusedVariables false
def fcN (up : Bool) (n : Nat) : Nat := if up = true then (if 97 ≤ n ∧ n ≤ 122 then n - 32 else n) else (if 65 ≤ n ∧ n ≤ 90 then n + 32 else n)
theorem fc_nat (up : Bool) (c : UInt8) : (fc up c).toNat = fcN up c.toNat := by
  have hb : c.toNat < 256 := c.toNat_lt
  unfold fc fcN
  cases up with
  | true =>
    simp only [if_true]
    split
    · rw [UInt8.toNat_ofNat']; omega
    · rfl
  | false =>
    simp only [if_false, Bool.false_eq_true]
    split
    · rw [UInt8.toNat_ofNat']; omega
    · rfl
/-- All bytes of a text, by its list. -/
theorem allB_data (P : Int → Bool) (s : ByteArray) : allB P s = (s.data.toList.all (fun c => P (c.toNat : Int)) && decide (s.size ≠ 0)) := by
  unfold allB bytesOf
  rw [List.all_map]
  congr 1
  rw [tl]
  cases h : s.data.toList with
  | nil => have := tl_len s; rw [h] at this; simp at this; simp [← this]
  | cons x r => have := tl_len s; rw [h] at this; simp at this; simp [← this]
theorem bt_data (s : ByteArray) (x : UInt8) (r : List UInt8) (h : s.data.toList = x :: r) : bt s 0 = (x.toNat : Int) := by
  have hs : 0 < s.size := by rw [← tl_len, h]; simp
  unfold bt
  rw [dif_pos (by simpa using hs)]
  have : s[(0 : Int).toNat] = x := by
    show s.data[0] = x
    have h2 : s.data.toList[0]'(by rw [h]; simp) = x := by simp [h]
    rw [← h2, Array.getElem_toList]
  rw [this]
/-! What sort of part a text is. -/
theorem scrB_size {s : ByteArray} (h : scrB s = true) : s.size = 4 := by unfold scrB at h; rw [Bool.and_eq_true, decide_eq_true_eq] at h; exact h.1
theorem let_dig {c : Int} (h : letB c = true) : digB c = false := by
  unfold letB at h
  unfold digB
  rw [decide_eq_true_eq] at h
  rw [decide_eq_false_iff_not]
  omega
/-! Parts in their form. -/
def dash (out p : ByteArray) : ByteArray := out ++ (⟨#[45]⟩ : ByteArray) ++ p
/-- The law's own reading, behind the first part. -/
def LS : Nat → List ByteArray → ByteArray → List ByteArray → ByteArray × Bool
  | _, _, out, [] => (out, true)
  | st, seen, out, p :: ps => if st < 1 ∧ scrB p = true then LS 1 seen (dash out (scrS p)) ps else if st < 2 ∧ regB p = true then LS 2 seen (dash out (foldS true p)) ps else if varB p = true then (if hasS seen (foldS false p) = true then ((⟨#[]⟩ : ByteArray), false) else LS 3 (seen ++ [foldS false p]) (dash out (foldS false p)) ps) else ((⟨#[]⟩ : ByteArray), false)
theorem LS_cons (st : Nat) (seen : List ByteArray) (out p : ByteArray) (ps : List ByteArray) : LS st seen out (p :: ps) = if st < 1 ∧ scrB p = true then LS 1 seen (dash out (scrS p)) ps else if st < 2 ∧ regB p = true then LS 2 seen (dash out (foldS true p)) ps else if varB p = true then (if hasS seen (foldS false p) = true then ((⟨#[]⟩ : ByteArray), false) else LS 3 (seen ++ [foldS false p]) (dash out (foldS false p)) ps) else ((⟨#[]⟩ : ByteArray), false) := rfl
def LP : List ByteArray → ByteArray × Bool
  | [] => ((⟨#[]⟩ : ByteArray), true)
  | p :: ps => if badB p = true then ((⟨#[]⟩ : ByteArray), false) else LS 0 [] (foldS false p) ps
def optL (s : ByteArray) : List ByteArray := if s.toList = ([] : List UInt8) then [] else [s]
theorem optL_nil : optL (⟨#[]⟩ : ByteArray) = [] := by unfold optL; rw [if_pos (by rw [tl])]
theorem partsL_opt (lang scr reg : ByteArray) (vs : List ByteArray) : partsL lang scr reg vs = lang :: (optL scr ++ (optL reg ++ vs)) := by
  unfold partsL optL
  simp [List.append_assoc]
/-! Told again. -/
end Go.Proofs.YtpedajhcfkohlaaDoor.Pure
