-- Written by this session's own program (wip/drive.py) over the kit's printer: not the printer's own text.
import Derived.Test.YtpedajhcfkohlaaDoorPMomx0
import Derived.Test.YtpedajhcfkohlaaDoorPMomx4
namespace Go.Proofs.YtpedajhcfkohlaaDoor.PMom
open Go.RowKit Go.Proofs.YtpedajhcfkohlaaDoorHand Go.Proofs.YtpedajhcfkohlaaDoorW.PrintWords Go.Proofs.YtpedajhcfkohlaaDoorW.PrintLast Go.Proofs.YtpedajhcfkohlaaDoorW.PrintMore
attribute [local go_sem] max2_int min2_int max_two min_two max_three min_three max_four min_four   -- for this text's walks alone
set_option linter.unusedVariables false
set_option linter.unusedSimpArgs false

/-! ### polyglotlaw13_Format: function 25 -/
mutual
def polyglotlaw13_Format.j3 : Nat → Int → ByteArray → ByteArray → ByteArray → Option (ByteArray)
  | 0, _, _, _, _ => none
  | k + 1, x2, x8, x9, x10 => if x2 = 1 then (some x9) else (if x2 = 2 then (if x8.size + x10.size ≤ 9223372036854775807 then ((some (x8 ++ x10 : ByteArray)).bind fun y238 => (if y238.size + x9.size ≤ 9223372036854775807 then ((some (y238 ++ x9 : ByteArray)).bind fun y239 => (some y239)) else (none))) else (none)) else (some x8))
def polyglotlaw13_Format.j0 : Nat → Int → ByteArray → Int → ByteArray → Int → Int → Int → Int → Int → Int → Int → Option (ByteArray)
  | 0, _, _, _, _, _, _, _, _, _, _, _ => none
  | k + 1, x2, x8, x11, x12, x196000, x196001, x196002, x196003, x196004, x196005, x196006 => if x11 = 0 then ((strconv_Itoa.f 12).bind fun t214 => (if t214.size + 1 ≤ 9223372036854775807 then ((some (t214 ++ (⟨#[58]⟩ : ByteArray) : ByteArray)).bind fun y215 => ((polyglotlaw13_two.f x196004).bind fun t216 => (if y215.size + t216.size ≤ 9223372036854775807 then ((some (y215 ++ t216 : ByteArray)).bind fun y217 => (if y217.size + x12.size ≤ 9223372036854775807 then ((some (y217 ++ x12 : ByteArray)).bind fun y218 => (polyglotlaw13_Format.j3 k x2 x8 y218 (⟨#[44, 32]⟩ : ByteArray))) else (none))) else (none)))) else (none))) else ((strconv_Itoa.f x11).bind fun t219 => (if t219.size + 1 ≤ 9223372036854775807 then ((some (t219 ++ (⟨#[58]⟩ : ByteArray) : ByteArray)).bind fun y220 => ((polyglotlaw13_two.f x196004).bind fun t221 => (if y220.size + t221.size ≤ 9223372036854775807 then ((some (y220 ++ t221 : ByteArray)).bind fun y222 => (if y222.size + x12.size ≤ 9223372036854775807 then ((some (y222 ++ x12 : ByteArray)).bind fun y223 => (polyglotlaw13_Format.j3 k x2 x8 y223 (⟨#[44, 32]⟩ : ByteArray))) else (none))) else (none)))) else (none)))
def polyglotlaw13_Format.j1 : Nat → Int → ByteArray → ByteArray → ByteArray → ByteArray → Bool → Int → Int → Int → Int → Int → Int → Int → Option (ByteArray)
  | 0, _, _, _, _, _, _, _, _, _, _, _, _, _ => none
  | k + 1, x2, x8, x9, x10, x36, x69, x196000, x196001, x196002, x196003, x196004, x196005, x196006 => if x69 = true then ((polyglotlaw13_two.f x196002).bind fun t224 => (if t224.size + 1 ≤ 9223372036854775807 then ((some (t224 ++ (⟨#[46]⟩ : ByteArray) : ByteArray)).bind fun y225 => ((polyglotlaw13_two.f x196001).bind fun t226 => (if y225.size + t226.size ≤ 9223372036854775807 then ((some (y225 ++ t226 : ByteArray)).bind fun y227 => (if y227.size + 1 ≤ 9223372036854775807 then ((some (y227 ++ (⟨#[46]⟩ : ByteArray) : ByteArray)).bind fun y228 => ((polyglotlaw13_four.f k x196000).bind fun t229 => (if y228.size + t229.size ≤ 9223372036854775807 then ((some (y228 ++ t229 : ByteArray)).bind fun y230 => (polyglotlaw13_Format.j3 k x2 y230 x9 x10)) else (none)))) else (none))) else (none)))) else (none))) else (if x36.toList = ([102, 114] : List UInt8) then (polyglotlaw13_Format.j2 k x2 x8 x9 x10 (x36.toList == ([102, 114] : List UInt8)) x196000 x196001 x196002 x196003 x196004 x196005 x196006) else (polyglotlaw13_Format.j2 k x2 x8 x9 x10 (x36.toList == ([101, 115] : List UInt8)) x196000 x196001 x196002 x196003 x196004 x196005 x196006))
def polyglotlaw13_Format.j2 : Nat → Int → ByteArray → ByteArray → ByteArray → Bool → Int → Int → Int → Int → Int → Int → Int → Option (ByteArray)
  | 0, _, _, _, _, _, _, _, _, _, _, _, _ => none
  | k + 1, x2, x8, x9, x10, x87, x196000, x196001, x196002, x196003, x196004, x196005, x196006 => if x87 = true then ((polyglotlaw13_two.f x196002).bind fun t231 => (if t231.size + 1 ≤ 9223372036854775807 then ((some (t231 ++ (⟨#[47]⟩ : ByteArray) : ByteArray)).bind fun y232 => ((polyglotlaw13_two.f x196001).bind fun t233 => (if y232.size + t233.size ≤ 9223372036854775807 then ((some (y232 ++ t233 : ByteArray)).bind fun y234 => (if y234.size + 1 ≤ 9223372036854775807 then ((some (y234 ++ (⟨#[47]⟩ : ByteArray) : ByteArray)).bind fun y235 => ((polyglotlaw13_four.f k x196000).bind fun t236 => (if y235.size + t236.size ≤ 9223372036854775807 then ((some (y235 ++ t236 : ByteArray)).bind fun y237 => (polyglotlaw13_Format.j3 k x2 y237 x9 x10)) else (none)))) else (none))) else (none)))) else (none))) else (polyglotlaw13_Format.j3 k x2 x8 x9 x10)
end
def polyglotlaw13_Format.f (k : Nat) (a0 : ByteArray) (a1 : Int) (a2 : Int) : Option (ByteArray) := (polyglotlaw05_From.f k a1).bind fun bt188 => ((polyglotlaw13_four.f k bt188.1).bind fun t196 => (if t196.size + 1 ≤ 9223372036854775807 then ((some (t196 ++ (⟨#[45]⟩ : ByteArray) : ByteArray)).bind fun y197 => ((polyglotlaw13_two.f bt188.2.1).bind fun t198 => (if y197.size + t198.size ≤ 9223372036854775807 then ((some (y197 ++ t198 : ByteArray)).bind fun y199 => (if y199.size + 1 ≤ 9223372036854775807 then ((some (y199 ++ (⟨#[45]⟩ : ByteArray) : ByteArray)).bind fun y200 => ((polyglotlaw13_two.f bt188.2.2.1).bind fun t201 => (if y200.size + t201.size ≤ 9223372036854775807 then ((some (y200 ++ t201 : ByteArray)).bind fun y202 => ((polyglotlaw13_two.f bt188.2.2.2.1).bind fun t203 => (if t203.size + 1 ≤ 9223372036854775807 then ((some (t203 ++ (⟨#[58]⟩ : ByteArray) : ByteArray)).bind fun y204 => ((polyglotlaw13_two.f bt188.2.2.2.2.1).bind fun t205 => (if y204.size + t205.size ≤ 9223372036854775807 then ((some (y204 ++ t205 : ByteArray)).bind fun y206 => (if a0.toList = ([101, 110] : List UInt8) then ((strconv_Itoa.f bt188.2.1).bind fun t207 => (if t207.size + 1 ≤ 9223372036854775807 then ((some (t207 ++ (⟨#[47]⟩ : ByteArray) : ByteArray)).bind fun y208 => ((strconv_Itoa.f bt188.2.2.1).bind fun t209 => (if y208.size + t209.size ≤ 9223372036854775807 then ((some (y208 ++ t209 : ByteArray)).bind fun y210 => (if y210.size + 1 ≤ 9223372036854775807 then ((some (y210 ++ (⟨#[47]⟩ : ByteArray) : ByteArray)).bind fun y211 => ((polyglotlaw13_four.f k bt188.1).bind fun t212 => (if y211.size + t212.size ≤ 9223372036854775807 then ((some (y211 ++ t212 : ByteArray)).bind fun y213 => (if bt188.2.2.2.1 ≥ 12 then (polyglotlaw13_Format.j0 k a2 y213 (wrap64 (bt188.2.2.2.1 - 12)) (⟨#[32, 80, 77]⟩ : ByteArray) bt188.1 bt188.2.1 bt188.2.2.1 bt188.2.2.2.1 bt188.2.2.2.2.1 bt188.2.2.2.2.2.1 bt188.2.2.2.2.2.2) else (polyglotlaw13_Format.j0 k a2 y213 bt188.2.2.2.1 (⟨#[32, 65, 77]⟩ : ByteArray) bt188.1 bt188.2.1 bt188.2.2.1 bt188.2.2.2.1 bt188.2.2.2.2.1 bt188.2.2.2.2.2.1 bt188.2.2.2.2.2.2))) else (none)))) else (none))) else (none)))) else (none))) else (if a0.toList = ([100, 101] : List UInt8) then (polyglotlaw13_Format.j1 k a2 y202 y206 (⟨#[32]⟩ : ByteArray) a0 (a0.toList == ([100, 101] : List UInt8)) bt188.1 bt188.2.1 bt188.2.2.1 bt188.2.2.2.1 bt188.2.2.2.2.1 bt188.2.2.2.2.2.1 bt188.2.2.2.2.2.2) else (if a0.toList = ([99, 115] : List UInt8) then (polyglotlaw13_Format.j1 k a2 y202 y206 (⟨#[32]⟩ : ByteArray) a0 (a0.toList == ([99, 115] : List UInt8)) bt188.1 bt188.2.1 bt188.2.2.1 bt188.2.2.2.1 bt188.2.2.2.2.1 bt188.2.2.2.2.2.1 bt188.2.2.2.2.2.2) else (if a0.toList = ([112, 108] : List UInt8) then (polyglotlaw13_Format.j1 k a2 y202 y206 (⟨#[32]⟩ : ByteArray) a0 (a0.toList == ([112, 108] : List UInt8)) bt188.1 bt188.2.1 bt188.2.2.1 bt188.2.2.2.1 bt188.2.2.2.2.1 bt188.2.2.2.2.2.1 bt188.2.2.2.2.2.2) else (polyglotlaw13_Format.j1 k a2 y202 y206 (⟨#[32]⟩ : ByteArray) a0 (a0.toList == ([114, 117] : List UInt8)) bt188.1 bt188.2.1 bt188.2.2.1 bt188.2.2.2.1 bt188.2.2.2.2.1 bt188.2.2.2.2.2.1 bt188.2.2.2.2.2.2)))))) else (none)))) else (none)))) else (none)))) else (none))) else (none)))) else (none)))
theorem polyglotlaw13_Format.mono_l : ∀ k, (∀ y0 y1 y2 y3, LeO (polyglotlaw13_Format.j3 k y0 y1 y2 y3) (polyglotlaw13_Format.j3 (k + 1) y0 y1 y2 y3)) ∧ (∀ y0 y1 y2 y3 y4 y5 y6 y7 y8 y9 y10, LeO (polyglotlaw13_Format.j0 k y0 y1 y2 y3 y4 y5 y6 y7 y8 y9 y10) (polyglotlaw13_Format.j0 (k + 1) y0 y1 y2 y3 y4 y5 y6 y7 y8 y9 y10)) ∧ (∀ y0 y1 y2 y3 y4 y5 y6 y7 y8 y9 y10 y11 y12, LeO (polyglotlaw13_Format.j1 k y0 y1 y2 y3 y4 y5 y6 y7 y8 y9 y10 y11 y12) (polyglotlaw13_Format.j1 (k + 1) y0 y1 y2 y3 y4 y5 y6 y7 y8 y9 y10 y11 y12)) ∧ (∀ y0 y1 y2 y3 y4 y5 y6 y7 y8 y9 y10 y11, LeO (polyglotlaw13_Format.j2 k y0 y1 y2 y3 y4 y5 y6 y7 y8 y9 y10 y11) (polyglotlaw13_Format.j2 (k + 1) y0 y1 y2 y3 y4 y5 y6 y7 y8 y9 y10 y11))
  | 0 => ⟨fun _ _ _ _ r h => by simp [polyglotlaw13_Format.j3] at h, fun _ _ _ _ _ _ _ _ _ _ _ r h => by simp [polyglotlaw13_Format.j0] at h, fun _ _ _ _ _ _ _ _ _ _ _ _ _ r h => by simp [polyglotlaw13_Format.j1] at h, fun _ _ _ _ _ _ _ _ _ _ _ _ r h => by simp [polyglotlaw13_Format.j2] at h⟩
  | k + 1 => by
    obtain ⟨ih0, ih1, ih2, ih3⟩ := polyglotlaw13_Format.mono_l k
    refine ⟨?_, ?_, ?_, ?_⟩
    · intro y0 y1 y2 y3
      unfold polyglotlaw13_Format.j3
      repeat' first
      | (with_reducible exact ih0 _ _ _ _)
      | (with_reducible exact ih1 _ _ _ _ _ _ _ _ _ _ _)
      | (with_reducible exact ih2 _ _ _ _ _ _ _ _ _ _ _ _ _)
      | (with_reducible exact ih3 _ _ _ _ _ _ _ _ _ _ _ _)
      | (with_reducible exact polyglotlaw05_From.mono _ _)
      | (with_reducible exact polyglotlaw13_four.mono _ _)
      | (with_reducible exact LeO.refl _)
      | (with_reducible exact LeO.none _)
      | (with_reducible refine LeO.ite ?_ ?_)
      | (with_reducible refine LeO.bind ?_ (fun _ => ?_))
      | exact ih0 _ _ _ _
      | exact ih1 _ _ _ _ _ _ _ _ _ _ _
      | exact ih2 _ _ _ _ _ _ _ _ _ _ _ _ _
      | exact ih3 _ _ _ _ _ _ _ _ _ _ _ _
      | exact polyglotlaw05_From.mono _ _
      | exact polyglotlaw13_four.mono _ _
      | exact LeO.none _
      | refine LeO.ite ?_ ?_
      | refine LeO.bind ?_ (fun _ => ?_)
    · intro y0 y1 y2 y3 y4 y5 y6 y7 y8 y9 y10
      unfold polyglotlaw13_Format.j0
      repeat' first
      | (with_reducible exact ih0 _ _ _ _)
      | (with_reducible exact ih1 _ _ _ _ _ _ _ _ _ _ _)
      | (with_reducible exact ih2 _ _ _ _ _ _ _ _ _ _ _ _ _)
      | (with_reducible exact ih3 _ _ _ _ _ _ _ _ _ _ _ _)
      | (with_reducible exact polyglotlaw05_From.mono _ _)
      | (with_reducible exact polyglotlaw13_four.mono _ _)
      | (with_reducible exact LeO.refl _)
      | (with_reducible exact LeO.none _)
      | (with_reducible refine LeO.ite ?_ ?_)
      | (with_reducible refine LeO.bind ?_ (fun _ => ?_))
      | exact ih0 _ _ _ _
      | exact ih1 _ _ _ _ _ _ _ _ _ _ _
      | exact ih2 _ _ _ _ _ _ _ _ _ _ _ _ _
      | exact ih3 _ _ _ _ _ _ _ _ _ _ _ _
      | exact polyglotlaw05_From.mono _ _
      | exact polyglotlaw13_four.mono _ _
      | exact LeO.none _
      | refine LeO.ite ?_ ?_
      | refine LeO.bind ?_ (fun _ => ?_)
    · intro y0 y1 y2 y3 y4 y5 y6 y7 y8 y9 y10 y11 y12
      unfold polyglotlaw13_Format.j1
      repeat' first
      | (with_reducible exact ih0 _ _ _ _)
      | (with_reducible exact ih1 _ _ _ _ _ _ _ _ _ _ _)
      | (with_reducible exact ih2 _ _ _ _ _ _ _ _ _ _ _ _ _)
      | (with_reducible exact ih3 _ _ _ _ _ _ _ _ _ _ _ _)
      | (with_reducible exact polyglotlaw05_From.mono _ _)
      | (with_reducible exact polyglotlaw13_four.mono _ _)
      | (with_reducible exact LeO.refl _)
      | (with_reducible exact LeO.none _)
      | (with_reducible refine LeO.ite ?_ ?_)
      | (with_reducible refine LeO.bind ?_ (fun _ => ?_))
      | exact ih0 _ _ _ _
      | exact ih1 _ _ _ _ _ _ _ _ _ _ _
      | exact ih2 _ _ _ _ _ _ _ _ _ _ _ _ _
      | exact ih3 _ _ _ _ _ _ _ _ _ _ _ _
      | exact polyglotlaw05_From.mono _ _
      | exact polyglotlaw13_four.mono _ _
      | exact LeO.none _
      | refine LeO.ite ?_ ?_
      | refine LeO.bind ?_ (fun _ => ?_)
    · intro y0 y1 y2 y3 y4 y5 y6 y7 y8 y9 y10 y11
      unfold polyglotlaw13_Format.j2
      repeat' first
      | (with_reducible exact ih0 _ _ _ _)
      | (with_reducible exact ih1 _ _ _ _ _ _ _ _ _ _ _)
      | (with_reducible exact ih2 _ _ _ _ _ _ _ _ _ _ _ _ _)
      | (with_reducible exact ih3 _ _ _ _ _ _ _ _ _ _ _ _)
      | (with_reducible exact polyglotlaw05_From.mono _ _)
      | (with_reducible exact polyglotlaw13_four.mono _ _)
      | (with_reducible exact LeO.refl _)
      | (with_reducible exact LeO.none _)
      | (with_reducible refine LeO.ite ?_ ?_)
      | (with_reducible refine LeO.bind ?_ (fun _ => ?_))
      | exact ih0 _ _ _ _
      | exact ih1 _ _ _ _ _ _ _ _ _ _ _
      | exact ih2 _ _ _ _ _ _ _ _ _ _ _ _ _
      | exact ih3 _ _ _ _ _ _ _ _ _ _ _ _
      | exact polyglotlaw05_From.mono _ _
      | exact polyglotlaw13_four.mono _ _
      | exact LeO.none _
      | refine LeO.ite ?_ ?_
      | refine LeO.bind ?_ (fun _ => ?_)
theorem polyglotlaw13_Format.mono : ∀ a0 a1 a2 k, LeO (polyglotlaw13_Format.f k a0 a1 a2) (polyglotlaw13_Format.f (k + 1) a0 a1 a2) := by
  intro a0 a1 a2 k
  obtain ⟨ih0, ih1, ih2, ih3⟩ := polyglotlaw13_Format.mono_l k
  unfold polyglotlaw13_Format.f
  repeat' first
      | (with_reducible exact ih0 _ _ _ _)
      | (with_reducible exact ih1 _ _ _ _ _ _ _ _ _ _ _)
      | (with_reducible exact ih2 _ _ _ _ _ _ _ _ _ _ _ _ _)
      | (with_reducible exact ih3 _ _ _ _ _ _ _ _ _ _ _ _)
      | (with_reducible exact polyglotlaw05_From.mono _ _)
      | (with_reducible exact polyglotlaw13_four.mono _ _)
      | (with_reducible exact LeO.refl _)
      | (with_reducible exact LeO.none _)
      | (with_reducible refine LeO.ite ?_ ?_)
      | (with_reducible refine LeO.bind ?_ (fun _ => ?_))
      | exact ih0 _ _ _ _
      | exact ih1 _ _ _ _ _ _ _ _ _ _ _
      | exact ih2 _ _ _ _ _ _ _ _ _ _ _ _ _
      | exact ih3 _ _ _ _ _ _ _ _ _ _ _ _
      | exact polyglotlaw05_From.mono _ _
      | exact polyglotlaw13_four.mono _ _
      | exact LeO.none _
      | refine LeO.ite ?_ ?_
      | refine LeO.bind ?_ (fun _ => ?_)
def polyglotlaw13_Format.T2 : Bool × List (List Nat × List Nat) := (true, [([], []), ([0], [0]), ([1], [1]), ([2], [2]), ([], []), ([4], [4]), ([5, 2], [5]), ([3, 6], [3, 6]), ([7], [7]), ([], []), ([9], [9]), ([10, 6], [10]), ([8, 11], [8, 11]), ([12, 11, 0, 1, 2, 3, 4, 5, 6, 7, 8, 9, 10, 11, 12], [12])])
def polyglotlaw13_Format.B2 : List Nat := [0, 1, 3, 7, 0, 16, 55, 127, 255, 0, 512, 1655, 4095, 8191]
theorem polyglotlaw13_Format.tab2 : rtab .any (opsOf Tryd.f25 2) = polyglotlaw13_Format.T2 := by kernel_rfl
theorem polyglotlaw13_Format.bits2 : waitsOk polyglotlaw13_Format.T2.2 polyglotlaw13_Format.B2 = true := by kernel_rfl
def polyglotlaw13_Format.T3 : Bool × List (List Nat × List Nat) := (true, [([], []), ([0], [0]), ([1], [1]), ([2], [2]), ([], []), ([4], [4]), ([5, 2], [5]), ([3, 6], [3, 6]), ([7, 6, 0, 1, 2, 3, 4, 5, 6, 7], [7])])
def polyglotlaw13_Format.B3 : List Nat := [0, 1, 3, 7, 0, 16, 55, 127, 255]
theorem polyglotlaw13_Format.tab3 : rtab .any (opsOf Tryd.f25 3) = polyglotlaw13_Format.T3 := by kernel_rfl
theorem polyglotlaw13_Format.bits3 : waitsOk polyglotlaw13_Format.T3.2 polyglotlaw13_Format.B3 = true := by kernel_rfl
def polyglotlaw13_Format.T7 : Bool × List (List Nat × List Nat) := (true, [([], []), ([0], [0]), ([1], [1]), ([2], [2]), ([], []), ([4], [4]), ([5, 2], [5]), ([3, 6], [3, 6]), ([7], [7]), ([], []), ([9], [9]), ([10, 6], [10]), ([8, 11], [8, 11]), ([12, 11, 0, 1, 2, 3, 4, 5, 6, 7, 8, 9, 10, 11, 12], [12])])
def polyglotlaw13_Format.B7 : List Nat := [0, 1, 3, 7, 0, 16, 55, 127, 255, 0, 512, 1655, 4095, 8191]
theorem polyglotlaw13_Format.tab7 : rtab .any (opsOf Tryd.f25 7) = polyglotlaw13_Format.T7 := by kernel_rfl
theorem polyglotlaw13_Format.bits7 : waitsOk polyglotlaw13_Format.T7.2 polyglotlaw13_Format.B7 = true := by kernel_rfl
def polyglotlaw13_Format.T15 : Bool × List (List Nat × List Nat) := (true, [([], []), ([0], [0]), ([1], [1]), ([], []), ([3], [3]), ([4, 1], [4]), ([2, 5], [2, 5]), ([], []), ([6, 7], [6, 7]), ([8, 5, 0, 1, 2, 3, 4, 5, 6, 7, 8], [8])])
def polyglotlaw13_Format.B15 : List Nat := [0, 1, 3, 0, 8, 27, 63, 0, 255, 511]
theorem polyglotlaw13_Format.tab15 : rtab .any (opsOf Tryd.f25 15) = polyglotlaw13_Format.T15 := by kernel_rfl
theorem polyglotlaw13_Format.bits15 : waitsOk polyglotlaw13_Format.T15.2 polyglotlaw13_Format.B15 = true := by kernel_rfl
def polyglotlaw13_Format.T21 : Bool × List (List Nat × List Nat) := (true, [([], []), ([0], [0]), ([1], [1]), ([2], [2]), ([], []), ([4], [4]), ([5, 2], [5]), ([3, 6], [3, 6]), ([7], [7]), ([], []), ([9], [9]), ([10, 6], [10]), ([8, 11], [8, 11]), ([12, 11, 0, 1, 2, 3, 4, 5, 6, 7, 8, 9, 10, 11, 12], [12])])
def polyglotlaw13_Format.B21 : List Nat := [0, 1, 3, 7, 0, 16, 55, 127, 255, 0, 512, 1655, 4095, 8191]
theorem polyglotlaw13_Format.tab21 : rtab .any (opsOf Tryd.f25 21) = polyglotlaw13_Format.T21 := by kernel_rfl
theorem polyglotlaw13_Format.bits21 : waitsOk polyglotlaw13_Format.T21.2 polyglotlaw13_Format.B21 = true := by kernel_rfl
def polyglotlaw13_Format.T24 : Bool × List (List Nat × List Nat) := (true, [([], []), ([0], [0]), ([1], [1]), ([2], [2]), ([], []), ([4], [4]), ([5, 2], [5]), ([3, 6], [3, 6]), ([7], [7]), ([], []), ([9], [9]), ([10, 6], [10]), ([8, 11], [8, 11]), ([12, 11, 0, 1, 2, 3, 4, 5, 6, 7, 8, 9, 10, 11, 12], [12])])
def polyglotlaw13_Format.B24 : List Nat := [0, 1, 3, 7, 0, 16, 55, 127, 255, 0, 512, 1655, 4095, 8191]
theorem polyglotlaw13_Format.tab24 : rtab .any (opsOf Tryd.f25 24) = polyglotlaw13_Format.T24 := by kernel_rfl
theorem polyglotlaw13_Format.bits24 : waitsOk polyglotlaw13_Format.T24.2 polyglotlaw13_Format.B24 = true := by kernel_rfl
set_option maxHeartbeats 8000000 in
set_option maxRecDepth 100000 in
theorem polyglotlaw13_Format.calls (k : Nat) (a0 : ByteArray) (a1 : Int) (a2 : Int) (r : ByteArray) (w : World) (h : polyglotlaw13_Format.f k a0 a1 a2 = some r) (hG : GW w := by first | exact hG | exact GW.drewN hG _ | exact GW.below hG (by first | exact HB.out | (with_reducible exact HB.out) | (repeat (first | (with_reducible first | exact HB.out | apply below_alloc | apply pw_below_drewN | apply below_drew1) | (refine below_setA ?_ (by assumption)) | exact HB.out)))) :
    Calls Tryd.prog 25 #[.string a0, .int .i64 a1, .int .i64 a2] w fun e w' => e = .returned (.string r) ∧ Below w.heap.size w w' := by
  have hu66 := Tryd.underlying66
  have HB := Aside0.mk (Below.refl w.heap.size w)
  have H : ((polyglotlaw05_From.f k a1).bind fun bt188 => ((polyglotlaw13_four.f k bt188.1).bind fun t196 => (if t196.size + 1 ≤ 9223372036854775807 then ((some (t196 ++ (⟨#[45]⟩ : ByteArray) : ByteArray)).bind fun y197 => ((polyglotlaw13_two.f bt188.2.1).bind fun t198 => (if y197.size + t198.size ≤ 9223372036854775807 then ((some (y197 ++ t198 : ByteArray)).bind fun y199 => (if y199.size + 1 ≤ 9223372036854775807 then ((some (y199 ++ (⟨#[45]⟩ : ByteArray) : ByteArray)).bind fun y200 => ((polyglotlaw13_two.f bt188.2.2.1).bind fun t201 => (if y200.size + t201.size ≤ 9223372036854775807 then ((some (y200 ++ t201 : ByteArray)).bind fun y202 => ((polyglotlaw13_two.f bt188.2.2.2.1).bind fun t203 => (if t203.size + 1 ≤ 9223372036854775807 then ((some (t203 ++ (⟨#[58]⟩ : ByteArray) : ByteArray)).bind fun y204 => ((polyglotlaw13_two.f bt188.2.2.2.2.1).bind fun t205 => (if y204.size + t205.size ≤ 9223372036854775807 then ((some (y204 ++ t205 : ByteArray)).bind fun y206 => (if a0.toList = ([101, 110] : List UInt8) then ((strconv_Itoa.f bt188.2.1).bind fun t207 => (if t207.size + 1 ≤ 9223372036854775807 then ((some (t207 ++ (⟨#[47]⟩ : ByteArray) : ByteArray)).bind fun y208 => ((strconv_Itoa.f bt188.2.2.1).bind fun t209 => (if y208.size + t209.size ≤ 9223372036854775807 then ((some (y208 ++ t209 : ByteArray)).bind fun y210 => (if y210.size + 1 ≤ 9223372036854775807 then ((some (y210 ++ (⟨#[47]⟩ : ByteArray) : ByteArray)).bind fun y211 => ((polyglotlaw13_four.f k bt188.1).bind fun t212 => (if y211.size + t212.size ≤ 9223372036854775807 then ((some (y211 ++ t212 : ByteArray)).bind fun y213 => (if bt188.2.2.2.1 ≥ 12 then (polyglotlaw13_Format.j0 k a2 y213 (wrap64 (bt188.2.2.2.1 - 12)) (⟨#[32, 80, 77]⟩ : ByteArray) bt188.1 bt188.2.1 bt188.2.2.1 bt188.2.2.2.1 bt188.2.2.2.2.1 bt188.2.2.2.2.2.1 bt188.2.2.2.2.2.2) else (polyglotlaw13_Format.j0 k a2 y213 bt188.2.2.2.1 (⟨#[32, 65, 77]⟩ : ByteArray) bt188.1 bt188.2.1 bt188.2.2.1 bt188.2.2.2.1 bt188.2.2.2.2.1 bt188.2.2.2.2.2.1 bt188.2.2.2.2.2.2))) else (none)))) else (none))) else (none)))) else (none))) else (if a0.toList = ([100, 101] : List UInt8) then (polyglotlaw13_Format.j1 k a2 y202 y206 (⟨#[32]⟩ : ByteArray) a0 (a0.toList == ([100, 101] : List UInt8)) bt188.1 bt188.2.1 bt188.2.2.1 bt188.2.2.2.1 bt188.2.2.2.2.1 bt188.2.2.2.2.2.1 bt188.2.2.2.2.2.2) else (if a0.toList = ([99, 115] : List UInt8) then (polyglotlaw13_Format.j1 k a2 y202 y206 (⟨#[32]⟩ : ByteArray) a0 (a0.toList == ([99, 115] : List UInt8)) bt188.1 bt188.2.1 bt188.2.2.1 bt188.2.2.2.1 bt188.2.2.2.2.1 bt188.2.2.2.2.2.1 bt188.2.2.2.2.2.2) else (if a0.toList = ([112, 108] : List UInt8) then (polyglotlaw13_Format.j1 k a2 y202 y206 (⟨#[32]⟩ : ByteArray) a0 (a0.toList == ([112, 108] : List UInt8)) bt188.1 bt188.2.1 bt188.2.2.1 bt188.2.2.2.1 bt188.2.2.2.2.1 bt188.2.2.2.2.2.1 bt188.2.2.2.2.2.2) else (polyglotlaw13_Format.j1 k a2 y202 y206 (⟨#[32]⟩ : ByteArray) a0 (a0.toList == ([114, 117] : List UInt8)) bt188.1 bt188.2.1 bt188.2.2.1 bt188.2.2.2.1 bt188.2.2.2.2.1 bt188.2.2.2.2.2.1 bt188.2.2.2.2.2.2)))))) else (none)))) else (none)))) else (none)))) else (none))) else (none)))) else (none)))) = some r := h
  clear h
  replace H := Option.bind_eq_some_iff.mp H
  obtain ⟨⟨t188, t189, t190, t191, t192, t193, t194⟩, A40, H⟩ := H
  replace H : ((polyglotlaw13_four.f k t188).bind fun t196 => (if t196.size + 1 ≤ 9223372036854775807 then ((some (t196 ++ (⟨#[45]⟩ : ByteArray) : ByteArray)).bind fun y197 => ((polyglotlaw13_two.f t189).bind fun t198 => (if y197.size + t198.size ≤ 9223372036854775807 then ((some (y197 ++ t198 : ByteArray)).bind fun y199 => (if y199.size + 1 ≤ 9223372036854775807 then ((some (y199 ++ (⟨#[45]⟩ : ByteArray) : ByteArray)).bind fun y200 => ((polyglotlaw13_two.f t190).bind fun t201 => (if y200.size + t201.size ≤ 9223372036854775807 then ((some (y200 ++ t201 : ByteArray)).bind fun y202 => ((polyglotlaw13_two.f t191).bind fun t203 => (if t203.size + 1 ≤ 9223372036854775807 then ((some (t203 ++ (⟨#[58]⟩ : ByteArray) : ByteArray)).bind fun y204 => ((polyglotlaw13_two.f t192).bind fun t205 => (if y204.size + t205.size ≤ 9223372036854775807 then ((some (y204 ++ t205 : ByteArray)).bind fun y206 => (if a0.toList = ([101, 110] : List UInt8) then ((strconv_Itoa.f t189).bind fun t207 => (if t207.size + 1 ≤ 9223372036854775807 then ((some (t207 ++ (⟨#[47]⟩ : ByteArray) : ByteArray)).bind fun y208 => ((strconv_Itoa.f t190).bind fun t209 => (if y208.size + t209.size ≤ 9223372036854775807 then ((some (y208 ++ t209 : ByteArray)).bind fun y210 => (if y210.size + 1 ≤ 9223372036854775807 then ((some (y210 ++ (⟨#[47]⟩ : ByteArray) : ByteArray)).bind fun y211 => ((polyglotlaw13_four.f k t188).bind fun t212 => (if y211.size + t212.size ≤ 9223372036854775807 then ((some (y211 ++ t212 : ByteArray)).bind fun y213 => (if t191 ≥ 12 then (polyglotlaw13_Format.j0 k a2 y213 (wrap64 (t191 - 12)) (⟨#[32, 80, 77]⟩ : ByteArray) t188 t189 t190 t191 t192 t193 t194) else (polyglotlaw13_Format.j0 k a2 y213 t191 (⟨#[32, 65, 77]⟩ : ByteArray) t188 t189 t190 t191 t192 t193 t194))) else (none)))) else (none))) else (none)))) else (none))) else (if a0.toList = ([100, 101] : List UInt8) then (polyglotlaw13_Format.j1 k a2 y202 y206 (⟨#[32]⟩ : ByteArray) a0 (a0.toList == ([100, 101] : List UInt8)) t188 t189 t190 t191 t192 t193 t194) else (if a0.toList = ([99, 115] : List UInt8) then (polyglotlaw13_Format.j1 k a2 y202 y206 (⟨#[32]⟩ : ByteArray) a0 (a0.toList == ([99, 115] : List UInt8)) t188 t189 t190 t191 t192 t193 t194) else (if a0.toList = ([112, 108] : List UInt8) then (polyglotlaw13_Format.j1 k a2 y202 y206 (⟨#[32]⟩ : ByteArray) a0 (a0.toList == ([112, 108] : List UInt8)) t188 t189 t190 t191 t192 t193 t194) else (polyglotlaw13_Format.j1 k a2 y202 y206 (⟨#[32]⟩ : ByteArray) a0 (a0.toList == ([114, 117] : List UInt8)) t188 t189 t190 t191 t192 t193 t194)))))) else (none)))) else (none)))) else (none)))) else (none))) else (none)))) else (none))) = some r := H
  have A4 := Aside0.mk A40
  clear A40
  replace H := Option.bind_eq_some_iff.mp H
  obtain ⟨t196, A50, H⟩ := H
  replace H : (if t196.size + 1 ≤ 9223372036854775807 then ((some (t196 ++ (⟨#[45]⟩ : ByteArray) : ByteArray)).bind fun y197 => ((polyglotlaw13_two.f t189).bind fun t198 => (if y197.size + t198.size ≤ 9223372036854775807 then ((some (y197 ++ t198 : ByteArray)).bind fun y199 => (if y199.size + 1 ≤ 9223372036854775807 then ((some (y199 ++ (⟨#[45]⟩ : ByteArray) : ByteArray)).bind fun y200 => ((polyglotlaw13_two.f t190).bind fun t201 => (if y200.size + t201.size ≤ 9223372036854775807 then ((some (y200 ++ t201 : ByteArray)).bind fun y202 => ((polyglotlaw13_two.f t191).bind fun t203 => (if t203.size + 1 ≤ 9223372036854775807 then ((some (t203 ++ (⟨#[58]⟩ : ByteArray) : ByteArray)).bind fun y204 => ((polyglotlaw13_two.f t192).bind fun t205 => (if y204.size + t205.size ≤ 9223372036854775807 then ((some (y204 ++ t205 : ByteArray)).bind fun y206 => (if a0.toList = ([101, 110] : List UInt8) then ((strconv_Itoa.f t189).bind fun t207 => (if t207.size + 1 ≤ 9223372036854775807 then ((some (t207 ++ (⟨#[47]⟩ : ByteArray) : ByteArray)).bind fun y208 => ((strconv_Itoa.f t190).bind fun t209 => (if y208.size + t209.size ≤ 9223372036854775807 then ((some (y208 ++ t209 : ByteArray)).bind fun y210 => (if y210.size + 1 ≤ 9223372036854775807 then ((some (y210 ++ (⟨#[47]⟩ : ByteArray) : ByteArray)).bind fun y211 => ((polyglotlaw13_four.f k t188).bind fun t212 => (if y211.size + t212.size ≤ 9223372036854775807 then ((some (y211 ++ t212 : ByteArray)).bind fun y213 => (if t191 ≥ 12 then (polyglotlaw13_Format.j0 k a2 y213 (wrap64 (t191 - 12)) (⟨#[32, 80, 77]⟩ : ByteArray) t188 t189 t190 t191 t192 t193 t194) else (polyglotlaw13_Format.j0 k a2 y213 t191 (⟨#[32, 65, 77]⟩ : ByteArray) t188 t189 t190 t191 t192 t193 t194))) else (none)))) else (none))) else (none)))) else (none))) else (if a0.toList = ([100, 101] : List UInt8) then (polyglotlaw13_Format.j1 k a2 y202 y206 (⟨#[32]⟩ : ByteArray) a0 (a0.toList == ([100, 101] : List UInt8)) t188 t189 t190 t191 t192 t193 t194) else (if a0.toList = ([99, 115] : List UInt8) then (polyglotlaw13_Format.j1 k a2 y202 y206 (⟨#[32]⟩ : ByteArray) a0 (a0.toList == ([99, 115] : List UInt8)) t188 t189 t190 t191 t192 t193 t194) else (if a0.toList = ([112, 108] : List UInt8) then (polyglotlaw13_Format.j1 k a2 y202 y206 (⟨#[32]⟩ : ByteArray) a0 (a0.toList == ([112, 108] : List UInt8)) t188 t189 t190 t191 t192 t193 t194) else (polyglotlaw13_Format.j1 k a2 y202 y206 (⟨#[32]⟩ : ByteArray) a0 (a0.toList == ([114, 117] : List UInt8)) t188 t189 t190 t191 t192 t193 t194)))))) else (none)))) else (none)))) else (none)))) else (none))) else (none)))) else (none)) = some r := H
  have A5 := Aside0.mk A50
  clear A50
  by_cases c6 : t196.size + 1 ≤ 9223372036854775807
  · rw [if_pos c6] at H
    have c6b0 := eq_true c6
    have c6b1 : decide (t196.size + 1 ≤ 9223372036854775807) = true := decide_eq_true c6
    try have c6b2 : (9223372036854775807 < t196.size + 1) = False := eq_false (Nat.not_lt.2 c6)
    replace H := Option.bind_eq_some_iff.mp H
    obtain ⟨y197, hy1970, H⟩ := H
    replace H : ((polyglotlaw13_two.f t189).bind fun t198 => (if y197.size + t198.size ≤ 9223372036854775807 then ((some (y197 ++ t198 : ByteArray)).bind fun y199 => (if y199.size + 1 ≤ 9223372036854775807 then ((some (y199 ++ (⟨#[45]⟩ : ByteArray) : ByteArray)).bind fun y200 => ((polyglotlaw13_two.f t190).bind fun t201 => (if y200.size + t201.size ≤ 9223372036854775807 then ((some (y200 ++ t201 : ByteArray)).bind fun y202 => ((polyglotlaw13_two.f t191).bind fun t203 => (if t203.size + 1 ≤ 9223372036854775807 then ((some (t203 ++ (⟨#[58]⟩ : ByteArray) : ByteArray)).bind fun y204 => ((polyglotlaw13_two.f t192).bind fun t205 => (if y204.size + t205.size ≤ 9223372036854775807 then ((some (y204 ++ t205 : ByteArray)).bind fun y206 => (if a0.toList = ([101, 110] : List UInt8) then ((strconv_Itoa.f t189).bind fun t207 => (if t207.size + 1 ≤ 9223372036854775807 then ((some (t207 ++ (⟨#[47]⟩ : ByteArray) : ByteArray)).bind fun y208 => ((strconv_Itoa.f t190).bind fun t209 => (if y208.size + t209.size ≤ 9223372036854775807 then ((some (y208 ++ t209 : ByteArray)).bind fun y210 => (if y210.size + 1 ≤ 9223372036854775807 then ((some (y210 ++ (⟨#[47]⟩ : ByteArray) : ByteArray)).bind fun y211 => ((polyglotlaw13_four.f k t188).bind fun t212 => (if y211.size + t212.size ≤ 9223372036854775807 then ((some (y211 ++ t212 : ByteArray)).bind fun y213 => (if t191 ≥ 12 then (polyglotlaw13_Format.j0 k a2 y213 (wrap64 (t191 - 12)) (⟨#[32, 80, 77]⟩ : ByteArray) t188 t189 t190 t191 t192 t193 t194) else (polyglotlaw13_Format.j0 k a2 y213 t191 (⟨#[32, 65, 77]⟩ : ByteArray) t188 t189 t190 t191 t192 t193 t194))) else (none)))) else (none))) else (none)))) else (none))) else (if a0.toList = ([100, 101] : List UInt8) then (polyglotlaw13_Format.j1 k a2 y202 y206 (⟨#[32]⟩ : ByteArray) a0 (a0.toList == ([100, 101] : List UInt8)) t188 t189 t190 t191 t192 t193 t194) else (if a0.toList = ([99, 115] : List UInt8) then (polyglotlaw13_Format.j1 k a2 y202 y206 (⟨#[32]⟩ : ByteArray) a0 (a0.toList == ([99, 115] : List UInt8)) t188 t189 t190 t191 t192 t193 t194) else (if a0.toList = ([112, 108] : List UInt8) then (polyglotlaw13_Format.j1 k a2 y202 y206 (⟨#[32]⟩ : ByteArray) a0 (a0.toList == ([112, 108] : List UInt8)) t188 t189 t190 t191 t192 t193 t194) else (polyglotlaw13_Format.j1 k a2 y202 y206 (⟨#[32]⟩ : ByteArray) a0 (a0.toList == ([114, 117] : List UInt8)) t188 t189 t190 t191 t192 t193 t194)))))) else (none)))) else (none)))) else (none)))) else (none))) else (none))) = some r := H
    have hy197 : t196 ++ (⟨#[45]⟩ : ByteArray) = y197 := Option.some.inj hy1970
    clear hy1970
    replace H := Option.bind_eq_some_iff.mp H
    obtain ⟨t198, A70, H⟩ := H
    replace H : (if y197.size + t198.size ≤ 9223372036854775807 then ((some (y197 ++ t198 : ByteArray)).bind fun y199 => (if y199.size + 1 ≤ 9223372036854775807 then ((some (y199 ++ (⟨#[45]⟩ : ByteArray) : ByteArray)).bind fun y200 => ((polyglotlaw13_two.f t190).bind fun t201 => (if y200.size + t201.size ≤ 9223372036854775807 then ((some (y200 ++ t201 : ByteArray)).bind fun y202 => ((polyglotlaw13_two.f t191).bind fun t203 => (if t203.size + 1 ≤ 9223372036854775807 then ((some (t203 ++ (⟨#[58]⟩ : ByteArray) : ByteArray)).bind fun y204 => ((polyglotlaw13_two.f t192).bind fun t205 => (if y204.size + t205.size ≤ 9223372036854775807 then ((some (y204 ++ t205 : ByteArray)).bind fun y206 => (if a0.toList = ([101, 110] : List UInt8) then ((strconv_Itoa.f t189).bind fun t207 => (if t207.size + 1 ≤ 9223372036854775807 then ((some (t207 ++ (⟨#[47]⟩ : ByteArray) : ByteArray)).bind fun y208 => ((strconv_Itoa.f t190).bind fun t209 => (if y208.size + t209.size ≤ 9223372036854775807 then ((some (y208 ++ t209 : ByteArray)).bind fun y210 => (if y210.size + 1 ≤ 9223372036854775807 then ((some (y210 ++ (⟨#[47]⟩ : ByteArray) : ByteArray)).bind fun y211 => ((polyglotlaw13_four.f k t188).bind fun t212 => (if y211.size + t212.size ≤ 9223372036854775807 then ((some (y211 ++ t212 : ByteArray)).bind fun y213 => (if t191 ≥ 12 then (polyglotlaw13_Format.j0 k a2 y213 (wrap64 (t191 - 12)) (⟨#[32, 80, 77]⟩ : ByteArray) t188 t189 t190 t191 t192 t193 t194) else (polyglotlaw13_Format.j0 k a2 y213 t191 (⟨#[32, 65, 77]⟩ : ByteArray) t188 t189 t190 t191 t192 t193 t194))) else (none)))) else (none))) else (none)))) else (none))) else (if a0.toList = ([100, 101] : List UInt8) then (polyglotlaw13_Format.j1 k a2 y202 y206 (⟨#[32]⟩ : ByteArray) a0 (a0.toList == ([100, 101] : List UInt8)) t188 t189 t190 t191 t192 t193 t194) else (if a0.toList = ([99, 115] : List UInt8) then (polyglotlaw13_Format.j1 k a2 y202 y206 (⟨#[32]⟩ : ByteArray) a0 (a0.toList == ([99, 115] : List UInt8)) t188 t189 t190 t191 t192 t193 t194) else (if a0.toList = ([112, 108] : List UInt8) then (polyglotlaw13_Format.j1 k a2 y202 y206 (⟨#[32]⟩ : ByteArray) a0 (a0.toList == ([112, 108] : List UInt8)) t188 t189 t190 t191 t192 t193 t194) else (polyglotlaw13_Format.j1 k a2 y202 y206 (⟨#[32]⟩ : ByteArray) a0 (a0.toList == ([114, 117] : List UInt8)) t188 t189 t190 t191 t192 t193 t194)))))) else (none)))) else (none)))) else (none)))) else (none))) else (none)) = some r := H
    have A7 := Aside0.mk A70
    clear A70
    by_cases c8 : y197.size + t198.size ≤ 9223372036854775807
    · rw [if_pos c8] at H
      have c8b0 := eq_true c8
      have c8b1 : decide (y197.size + t198.size ≤ 9223372036854775807) = true := decide_eq_true c8
      try have c8b2 : (9223372036854775807 < y197.size + t198.size) = False := eq_false (Nat.not_lt.2 c8)
      replace H := Option.bind_eq_some_iff.mp H
      obtain ⟨y199, hy1990, H⟩ := H
      replace H : (if y199.size + 1 ≤ 9223372036854775807 then ((some (y199 ++ (⟨#[45]⟩ : ByteArray) : ByteArray)).bind fun y200 => ((polyglotlaw13_two.f t190).bind fun t201 => (if y200.size + t201.size ≤ 9223372036854775807 then ((some (y200 ++ t201 : ByteArray)).bind fun y202 => ((polyglotlaw13_two.f t191).bind fun t203 => (if t203.size + 1 ≤ 9223372036854775807 then ((some (t203 ++ (⟨#[58]⟩ : ByteArray) : ByteArray)).bind fun y204 => ((polyglotlaw13_two.f t192).bind fun t205 => (if y204.size + t205.size ≤ 9223372036854775807 then ((some (y204 ++ t205 : ByteArray)).bind fun y206 => (if a0.toList = ([101, 110] : List UInt8) then ((strconv_Itoa.f t189).bind fun t207 => (if t207.size + 1 ≤ 9223372036854775807 then ((some (t207 ++ (⟨#[47]⟩ : ByteArray) : ByteArray)).bind fun y208 => ((strconv_Itoa.f t190).bind fun t209 => (if y208.size + t209.size ≤ 9223372036854775807 then ((some (y208 ++ t209 : ByteArray)).bind fun y210 => (if y210.size + 1 ≤ 9223372036854775807 then ((some (y210 ++ (⟨#[47]⟩ : ByteArray) : ByteArray)).bind fun y211 => ((polyglotlaw13_four.f k t188).bind fun t212 => (if y211.size + t212.size ≤ 9223372036854775807 then ((some (y211 ++ t212 : ByteArray)).bind fun y213 => (if t191 ≥ 12 then (polyglotlaw13_Format.j0 k a2 y213 (wrap64 (t191 - 12)) (⟨#[32, 80, 77]⟩ : ByteArray) t188 t189 t190 t191 t192 t193 t194) else (polyglotlaw13_Format.j0 k a2 y213 t191 (⟨#[32, 65, 77]⟩ : ByteArray) t188 t189 t190 t191 t192 t193 t194))) else (none)))) else (none))) else (none)))) else (none))) else (if a0.toList = ([100, 101] : List UInt8) then (polyglotlaw13_Format.j1 k a2 y202 y206 (⟨#[32]⟩ : ByteArray) a0 (a0.toList == ([100, 101] : List UInt8)) t188 t189 t190 t191 t192 t193 t194) else (if a0.toList = ([99, 115] : List UInt8) then (polyglotlaw13_Format.j1 k a2 y202 y206 (⟨#[32]⟩ : ByteArray) a0 (a0.toList == ([99, 115] : List UInt8)) t188 t189 t190 t191 t192 t193 t194) else (if a0.toList = ([112, 108] : List UInt8) then (polyglotlaw13_Format.j1 k a2 y202 y206 (⟨#[32]⟩ : ByteArray) a0 (a0.toList == ([112, 108] : List UInt8)) t188 t189 t190 t191 t192 t193 t194) else (polyglotlaw13_Format.j1 k a2 y202 y206 (⟨#[32]⟩ : ByteArray) a0 (a0.toList == ([114, 117] : List UInt8)) t188 t189 t190 t191 t192 t193 t194)))))) else (none)))) else (none)))) else (none)))) else (none)) = some r := H
      have hy199 : y197 ++ t198 = y199 := Option.some.inj hy1990
      clear hy1990
      by_cases c9 : y199.size + 1 ≤ 9223372036854775807
      · rw [if_pos c9] at H
        have c9b0 := eq_true c9
        have c9b1 : decide (y199.size + 1 ≤ 9223372036854775807) = true := decide_eq_true c9
        try have c9b2 : (9223372036854775807 < y199.size + 1) = False := eq_false (Nat.not_lt.2 c9)
        replace H := Option.bind_eq_some_iff.mp H
        obtain ⟨y200, hy2000, H⟩ := H
        replace H : ((polyglotlaw13_two.f t190).bind fun t201 => (if y200.size + t201.size ≤ 9223372036854775807 then ((some (y200 ++ t201 : ByteArray)).bind fun y202 => ((polyglotlaw13_two.f t191).bind fun t203 => (if t203.size + 1 ≤ 9223372036854775807 then ((some (t203 ++ (⟨#[58]⟩ : ByteArray) : ByteArray)).bind fun y204 => ((polyglotlaw13_two.f t192).bind fun t205 => (if y204.size + t205.size ≤ 9223372036854775807 then ((some (y204 ++ t205 : ByteArray)).bind fun y206 => (if a0.toList = ([101, 110] : List UInt8) then ((strconv_Itoa.f t189).bind fun t207 => (if t207.size + 1 ≤ 9223372036854775807 then ((some (t207 ++ (⟨#[47]⟩ : ByteArray) : ByteArray)).bind fun y208 => ((strconv_Itoa.f t190).bind fun t209 => (if y208.size + t209.size ≤ 9223372036854775807 then ((some (y208 ++ t209 : ByteArray)).bind fun y210 => (if y210.size + 1 ≤ 9223372036854775807 then ((some (y210 ++ (⟨#[47]⟩ : ByteArray) : ByteArray)).bind fun y211 => ((polyglotlaw13_four.f k t188).bind fun t212 => (if y211.size + t212.size ≤ 9223372036854775807 then ((some (y211 ++ t212 : ByteArray)).bind fun y213 => (if t191 ≥ 12 then (polyglotlaw13_Format.j0 k a2 y213 (wrap64 (t191 - 12)) (⟨#[32, 80, 77]⟩ : ByteArray) t188 t189 t190 t191 t192 t193 t194) else (polyglotlaw13_Format.j0 k a2 y213 t191 (⟨#[32, 65, 77]⟩ : ByteArray) t188 t189 t190 t191 t192 t193 t194))) else (none)))) else (none))) else (none)))) else (none))) else (if a0.toList = ([100, 101] : List UInt8) then (polyglotlaw13_Format.j1 k a2 y202 y206 (⟨#[32]⟩ : ByteArray) a0 (a0.toList == ([100, 101] : List UInt8)) t188 t189 t190 t191 t192 t193 t194) else (if a0.toList = ([99, 115] : List UInt8) then (polyglotlaw13_Format.j1 k a2 y202 y206 (⟨#[32]⟩ : ByteArray) a0 (a0.toList == ([99, 115] : List UInt8)) t188 t189 t190 t191 t192 t193 t194) else (if a0.toList = ([112, 108] : List UInt8) then (polyglotlaw13_Format.j1 k a2 y202 y206 (⟨#[32]⟩ : ByteArray) a0 (a0.toList == ([112, 108] : List UInt8)) t188 t189 t190 t191 t192 t193 t194) else (polyglotlaw13_Format.j1 k a2 y202 y206 (⟨#[32]⟩ : ByteArray) a0 (a0.toList == ([114, 117] : List UInt8)) t188 t189 t190 t191 t192 t193 t194)))))) else (none)))) else (none)))) else (none))) = some r := H
        have hy200 : y199 ++ (⟨#[45]⟩ : ByteArray) = y200 := Option.some.inj hy2000
        clear hy2000
        replace H := Option.bind_eq_some_iff.mp H
        obtain ⟨t201, A100, H⟩ := H
        replace H : (if y200.size + t201.size ≤ 9223372036854775807 then ((some (y200 ++ t201 : ByteArray)).bind fun y202 => ((polyglotlaw13_two.f t191).bind fun t203 => (if t203.size + 1 ≤ 9223372036854775807 then ((some (t203 ++ (⟨#[58]⟩ : ByteArray) : ByteArray)).bind fun y204 => ((polyglotlaw13_two.f t192).bind fun t205 => (if y204.size + t205.size ≤ 9223372036854775807 then ((some (y204 ++ t205 : ByteArray)).bind fun y206 => (if a0.toList = ([101, 110] : List UInt8) then ((strconv_Itoa.f t189).bind fun t207 => (if t207.size + 1 ≤ 9223372036854775807 then ((some (t207 ++ (⟨#[47]⟩ : ByteArray) : ByteArray)).bind fun y208 => ((strconv_Itoa.f t190).bind fun t209 => (if y208.size + t209.size ≤ 9223372036854775807 then ((some (y208 ++ t209 : ByteArray)).bind fun y210 => (if y210.size + 1 ≤ 9223372036854775807 then ((some (y210 ++ (⟨#[47]⟩ : ByteArray) : ByteArray)).bind fun y211 => ((polyglotlaw13_four.f k t188).bind fun t212 => (if y211.size + t212.size ≤ 9223372036854775807 then ((some (y211 ++ t212 : ByteArray)).bind fun y213 => (if t191 ≥ 12 then (polyglotlaw13_Format.j0 k a2 y213 (wrap64 (t191 - 12)) (⟨#[32, 80, 77]⟩ : ByteArray) t188 t189 t190 t191 t192 t193 t194) else (polyglotlaw13_Format.j0 k a2 y213 t191 (⟨#[32, 65, 77]⟩ : ByteArray) t188 t189 t190 t191 t192 t193 t194))) else (none)))) else (none))) else (none)))) else (none))) else (if a0.toList = ([100, 101] : List UInt8) then (polyglotlaw13_Format.j1 k a2 y202 y206 (⟨#[32]⟩ : ByteArray) a0 (a0.toList == ([100, 101] : List UInt8)) t188 t189 t190 t191 t192 t193 t194) else (if a0.toList = ([99, 115] : List UInt8) then (polyglotlaw13_Format.j1 k a2 y202 y206 (⟨#[32]⟩ : ByteArray) a0 (a0.toList == ([99, 115] : List UInt8)) t188 t189 t190 t191 t192 t193 t194) else (if a0.toList = ([112, 108] : List UInt8) then (polyglotlaw13_Format.j1 k a2 y202 y206 (⟨#[32]⟩ : ByteArray) a0 (a0.toList == ([112, 108] : List UInt8)) t188 t189 t190 t191 t192 t193 t194) else (polyglotlaw13_Format.j1 k a2 y202 y206 (⟨#[32]⟩ : ByteArray) a0 (a0.toList == ([114, 117] : List UInt8)) t188 t189 t190 t191 t192 t193 t194)))))) else (none)))) else (none)))) else (none)) = some r := H
        have A10 := Aside0.mk A100
        clear A100
        by_cases c11 : y200.size + t201.size ≤ 9223372036854775807
        · rw [if_pos c11] at H
          have c11b0 := eq_true c11
          have c11b1 : decide (y200.size + t201.size ≤ 9223372036854775807) = true := decide_eq_true c11
          try have c11b2 : (9223372036854775807 < y200.size + t201.size) = False := eq_false (Nat.not_lt.2 c11)
          replace H := Option.bind_eq_some_iff.mp H
          obtain ⟨y202, hy2020, H⟩ := H
          replace H : ((polyglotlaw13_two.f t191).bind fun t203 => (if t203.size + 1 ≤ 9223372036854775807 then ((some (t203 ++ (⟨#[58]⟩ : ByteArray) : ByteArray)).bind fun y204 => ((polyglotlaw13_two.f t192).bind fun t205 => (if y204.size + t205.size ≤ 9223372036854775807 then ((some (y204 ++ t205 : ByteArray)).bind fun y206 => (if a0.toList = ([101, 110] : List UInt8) then ((strconv_Itoa.f t189).bind fun t207 => (if t207.size + 1 ≤ 9223372036854775807 then ((some (t207 ++ (⟨#[47]⟩ : ByteArray) : ByteArray)).bind fun y208 => ((strconv_Itoa.f t190).bind fun t209 => (if y208.size + t209.size ≤ 9223372036854775807 then ((some (y208 ++ t209 : ByteArray)).bind fun y210 => (if y210.size + 1 ≤ 9223372036854775807 then ((some (y210 ++ (⟨#[47]⟩ : ByteArray) : ByteArray)).bind fun y211 => ((polyglotlaw13_four.f k t188).bind fun t212 => (if y211.size + t212.size ≤ 9223372036854775807 then ((some (y211 ++ t212 : ByteArray)).bind fun y213 => (if t191 ≥ 12 then (polyglotlaw13_Format.j0 k a2 y213 (wrap64 (t191 - 12)) (⟨#[32, 80, 77]⟩ : ByteArray) t188 t189 t190 t191 t192 t193 t194) else (polyglotlaw13_Format.j0 k a2 y213 t191 (⟨#[32, 65, 77]⟩ : ByteArray) t188 t189 t190 t191 t192 t193 t194))) else (none)))) else (none))) else (none)))) else (none))) else (if a0.toList = ([100, 101] : List UInt8) then (polyglotlaw13_Format.j1 k a2 y202 y206 (⟨#[32]⟩ : ByteArray) a0 (a0.toList == ([100, 101] : List UInt8)) t188 t189 t190 t191 t192 t193 t194) else (if a0.toList = ([99, 115] : List UInt8) then (polyglotlaw13_Format.j1 k a2 y202 y206 (⟨#[32]⟩ : ByteArray) a0 (a0.toList == ([99, 115] : List UInt8)) t188 t189 t190 t191 t192 t193 t194) else (if a0.toList = ([112, 108] : List UInt8) then (polyglotlaw13_Format.j1 k a2 y202 y206 (⟨#[32]⟩ : ByteArray) a0 (a0.toList == ([112, 108] : List UInt8)) t188 t189 t190 t191 t192 t193 t194) else (polyglotlaw13_Format.j1 k a2 y202 y206 (⟨#[32]⟩ : ByteArray) a0 (a0.toList == ([114, 117] : List UInt8)) t188 t189 t190 t191 t192 t193 t194)))))) else (none)))) else (none))) = some r := H
          have hy202 : y200 ++ t201 = y202 := Option.some.inj hy2020
          clear hy2020
          replace H := Option.bind_eq_some_iff.mp H
          obtain ⟨t203, A120, H⟩ := H
          replace H : (if t203.size + 1 ≤ 9223372036854775807 then ((some (t203 ++ (⟨#[58]⟩ : ByteArray) : ByteArray)).bind fun y204 => ((polyglotlaw13_two.f t192).bind fun t205 => (if y204.size + t205.size ≤ 9223372036854775807 then ((some (y204 ++ t205 : ByteArray)).bind fun y206 => (if a0.toList = ([101, 110] : List UInt8) then ((strconv_Itoa.f t189).bind fun t207 => (if t207.size + 1 ≤ 9223372036854775807 then ((some (t207 ++ (⟨#[47]⟩ : ByteArray) : ByteArray)).bind fun y208 => ((strconv_Itoa.f t190).bind fun t209 => (if y208.size + t209.size ≤ 9223372036854775807 then ((some (y208 ++ t209 : ByteArray)).bind fun y210 => (if y210.size + 1 ≤ 9223372036854775807 then ((some (y210 ++ (⟨#[47]⟩ : ByteArray) : ByteArray)).bind fun y211 => ((polyglotlaw13_four.f k t188).bind fun t212 => (if y211.size + t212.size ≤ 9223372036854775807 then ((some (y211 ++ t212 : ByteArray)).bind fun y213 => (if t191 ≥ 12 then (polyglotlaw13_Format.j0 k a2 y213 (wrap64 (t191 - 12)) (⟨#[32, 80, 77]⟩ : ByteArray) t188 t189 t190 t191 t192 t193 t194) else (polyglotlaw13_Format.j0 k a2 y213 t191 (⟨#[32, 65, 77]⟩ : ByteArray) t188 t189 t190 t191 t192 t193 t194))) else (none)))) else (none))) else (none)))) else (none))) else (if a0.toList = ([100, 101] : List UInt8) then (polyglotlaw13_Format.j1 k a2 y202 y206 (⟨#[32]⟩ : ByteArray) a0 (a0.toList == ([100, 101] : List UInt8)) t188 t189 t190 t191 t192 t193 t194) else (if a0.toList = ([99, 115] : List UInt8) then (polyglotlaw13_Format.j1 k a2 y202 y206 (⟨#[32]⟩ : ByteArray) a0 (a0.toList == ([99, 115] : List UInt8)) t188 t189 t190 t191 t192 t193 t194) else (if a0.toList = ([112, 108] : List UInt8) then (polyglotlaw13_Format.j1 k a2 y202 y206 (⟨#[32]⟩ : ByteArray) a0 (a0.toList == ([112, 108] : List UInt8)) t188 t189 t190 t191 t192 t193 t194) else (polyglotlaw13_Format.j1 k a2 y202 y206 (⟨#[32]⟩ : ByteArray) a0 (a0.toList == ([114, 117] : List UInt8)) t188 t189 t190 t191 t192 t193 t194)))))) else (none)))) else (none)) = some r := H
          have A12 := Aside0.mk A120
          clear A120
          by_cases c13 : t203.size + 1 ≤ 9223372036854775807
          · rw [if_pos c13] at H
            have c13b0 := eq_true c13
            have c13b1 : decide (t203.size + 1 ≤ 9223372036854775807) = true := decide_eq_true c13
            try have c13b2 : (9223372036854775807 < t203.size + 1) = False := eq_false (Nat.not_lt.2 c13)
            replace H := Option.bind_eq_some_iff.mp H
            obtain ⟨y204, hy2040, H⟩ := H
            replace H : ((polyglotlaw13_two.f t192).bind fun t205 => (if y204.size + t205.size ≤ 9223372036854775807 then ((some (y204 ++ t205 : ByteArray)).bind fun y206 => (if a0.toList = ([101, 110] : List UInt8) then ((strconv_Itoa.f t189).bind fun t207 => (if t207.size + 1 ≤ 9223372036854775807 then ((some (t207 ++ (⟨#[47]⟩ : ByteArray) : ByteArray)).bind fun y208 => ((strconv_Itoa.f t190).bind fun t209 => (if y208.size + t209.size ≤ 9223372036854775807 then ((some (y208 ++ t209 : ByteArray)).bind fun y210 => (if y210.size + 1 ≤ 9223372036854775807 then ((some (y210 ++ (⟨#[47]⟩ : ByteArray) : ByteArray)).bind fun y211 => ((polyglotlaw13_four.f k t188).bind fun t212 => (if y211.size + t212.size ≤ 9223372036854775807 then ((some (y211 ++ t212 : ByteArray)).bind fun y213 => (if t191 ≥ 12 then (polyglotlaw13_Format.j0 k a2 y213 (wrap64 (t191 - 12)) (⟨#[32, 80, 77]⟩ : ByteArray) t188 t189 t190 t191 t192 t193 t194) else (polyglotlaw13_Format.j0 k a2 y213 t191 (⟨#[32, 65, 77]⟩ : ByteArray) t188 t189 t190 t191 t192 t193 t194))) else (none)))) else (none))) else (none)))) else (none))) else (if a0.toList = ([100, 101] : List UInt8) then (polyglotlaw13_Format.j1 k a2 y202 y206 (⟨#[32]⟩ : ByteArray) a0 (a0.toList == ([100, 101] : List UInt8)) t188 t189 t190 t191 t192 t193 t194) else (if a0.toList = ([99, 115] : List UInt8) then (polyglotlaw13_Format.j1 k a2 y202 y206 (⟨#[32]⟩ : ByteArray) a0 (a0.toList == ([99, 115] : List UInt8)) t188 t189 t190 t191 t192 t193 t194) else (if a0.toList = ([112, 108] : List UInt8) then (polyglotlaw13_Format.j1 k a2 y202 y206 (⟨#[32]⟩ : ByteArray) a0 (a0.toList == ([112, 108] : List UInt8)) t188 t189 t190 t191 t192 t193 t194) else (polyglotlaw13_Format.j1 k a2 y202 y206 (⟨#[32]⟩ : ByteArray) a0 (a0.toList == ([114, 117] : List UInt8)) t188 t189 t190 t191 t192 t193 t194)))))) else (none))) = some r := H
            have hy204 : t203 ++ (⟨#[58]⟩ : ByteArray) = y204 := Option.some.inj hy2040
            clear hy2040
            replace H := Option.bind_eq_some_iff.mp H
            obtain ⟨t205, A140, H⟩ := H
            replace H : (if y204.size + t205.size ≤ 9223372036854775807 then ((some (y204 ++ t205 : ByteArray)).bind fun y206 => (if a0.toList = ([101, 110] : List UInt8) then ((strconv_Itoa.f t189).bind fun t207 => (if t207.size + 1 ≤ 9223372036854775807 then ((some (t207 ++ (⟨#[47]⟩ : ByteArray) : ByteArray)).bind fun y208 => ((strconv_Itoa.f t190).bind fun t209 => (if y208.size + t209.size ≤ 9223372036854775807 then ((some (y208 ++ t209 : ByteArray)).bind fun y210 => (if y210.size + 1 ≤ 9223372036854775807 then ((some (y210 ++ (⟨#[47]⟩ : ByteArray) : ByteArray)).bind fun y211 => ((polyglotlaw13_four.f k t188).bind fun t212 => (if y211.size + t212.size ≤ 9223372036854775807 then ((some (y211 ++ t212 : ByteArray)).bind fun y213 => (if t191 ≥ 12 then (polyglotlaw13_Format.j0 k a2 y213 (wrap64 (t191 - 12)) (⟨#[32, 80, 77]⟩ : ByteArray) t188 t189 t190 t191 t192 t193 t194) else (polyglotlaw13_Format.j0 k a2 y213 t191 (⟨#[32, 65, 77]⟩ : ByteArray) t188 t189 t190 t191 t192 t193 t194))) else (none)))) else (none))) else (none)))) else (none))) else (if a0.toList = ([100, 101] : List UInt8) then (polyglotlaw13_Format.j1 k a2 y202 y206 (⟨#[32]⟩ : ByteArray) a0 (a0.toList == ([100, 101] : List UInt8)) t188 t189 t190 t191 t192 t193 t194) else (if a0.toList = ([99, 115] : List UInt8) then (polyglotlaw13_Format.j1 k a2 y202 y206 (⟨#[32]⟩ : ByteArray) a0 (a0.toList == ([99, 115] : List UInt8)) t188 t189 t190 t191 t192 t193 t194) else (if a0.toList = ([112, 108] : List UInt8) then (polyglotlaw13_Format.j1 k a2 y202 y206 (⟨#[32]⟩ : ByteArray) a0 (a0.toList == ([112, 108] : List UInt8)) t188 t189 t190 t191 t192 t193 t194) else (polyglotlaw13_Format.j1 k a2 y202 y206 (⟨#[32]⟩ : ByteArray) a0 (a0.toList == ([114, 117] : List UInt8)) t188 t189 t190 t191 t192 t193 t194)))))) else (none)) = some r := H
            have A14 := Aside0.mk A140
            clear A140
            by_cases c15 : y204.size + t205.size ≤ 9223372036854775807
            · rw [if_pos c15] at H
              have c15b0 := eq_true c15
              have c15b1 : decide (y204.size + t205.size ≤ 9223372036854775807) = true := decide_eq_true c15
              try have c15b2 : (9223372036854775807 < y204.size + t205.size) = False := eq_false (Nat.not_lt.2 c15)
              replace H := Option.bind_eq_some_iff.mp H
              obtain ⟨y206, hy2060, H⟩ := H
              replace H : (if a0.toList = ([101, 110] : List UInt8) then ((strconv_Itoa.f t189).bind fun t207 => (if t207.size + 1 ≤ 9223372036854775807 then ((some (t207 ++ (⟨#[47]⟩ : ByteArray) : ByteArray)).bind fun y208 => ((strconv_Itoa.f t190).bind fun t209 => (if y208.size + t209.size ≤ 9223372036854775807 then ((some (y208 ++ t209 : ByteArray)).bind fun y210 => (if y210.size + 1 ≤ 9223372036854775807 then ((some (y210 ++ (⟨#[47]⟩ : ByteArray) : ByteArray)).bind fun y211 => ((polyglotlaw13_four.f k t188).bind fun t212 => (if y211.size + t212.size ≤ 9223372036854775807 then ((some (y211 ++ t212 : ByteArray)).bind fun y213 => (if t191 ≥ 12 then (polyglotlaw13_Format.j0 k a2 y213 (wrap64 (t191 - 12)) (⟨#[32, 80, 77]⟩ : ByteArray) t188 t189 t190 t191 t192 t193 t194) else (polyglotlaw13_Format.j0 k a2 y213 t191 (⟨#[32, 65, 77]⟩ : ByteArray) t188 t189 t190 t191 t192 t193 t194))) else (none)))) else (none))) else (none)))) else (none))) else (if a0.toList = ([100, 101] : List UInt8) then (polyglotlaw13_Format.j1 k a2 y202 y206 (⟨#[32]⟩ : ByteArray) a0 (a0.toList == ([100, 101] : List UInt8)) t188 t189 t190 t191 t192 t193 t194) else (if a0.toList = ([99, 115] : List UInt8) then (polyglotlaw13_Format.j1 k a2 y202 y206 (⟨#[32]⟩ : ByteArray) a0 (a0.toList == ([99, 115] : List UInt8)) t188 t189 t190 t191 t192 t193 t194) else (if a0.toList = ([112, 108] : List UInt8) then (polyglotlaw13_Format.j1 k a2 y202 y206 (⟨#[32]⟩ : ByteArray) a0 (a0.toList == ([112, 108] : List UInt8)) t188 t189 t190 t191 t192 t193 t194) else (polyglotlaw13_Format.j1 k a2 y202 y206 (⟨#[32]⟩ : ByteArray) a0 (a0.toList == ([114, 117] : List UInt8)) t188 t189 t190 t191 t192 t193 t194))))) = some r := H
              have hy206 : y204 ++ t205 = y206 := Option.some.inj hy2060
              clear hy2060
              have HC16 := Aside0.mk H
              clear H
              go_enter Tryd.func25, Tryd.ntmps25
              try go_wp2_with (first | ((with_reducible refine gate_callee (f := 51) rfl ?_); refine goesL_ (some 14) rfl rfl Tryd.func51 (by kernel_rfl) rfl #[.int .i64 a1] rfl (by (try simp only [List.map_toArray, List.map_cons, List.map_nil]); first | done | rfl | (simp only [List.length_drop, List.length_take]; rfl)) ?_; (with_reducible refine (polyglotlaw05_From.calls k a1 t188 t189 t190 t191 t192 t193 t194 _ A4.out).mono ?_); rintro e w17 ⟨rfl, hb⟩; refine ⟨_, rfl, ?_⟩; have n0_ := Aside0.mk (below_step (by repeat (first | (with_reducible first | exact HB.out | apply below_alloc | apply pw_below_drewN | apply below_drew1) | exact HB.out)) hb); clear HB; have HB := n0_; clear n0_; (try clear hb); (try clear hb2); (try clear hk); (try clear hi)) | ((with_reducible refine gate_dst (N := 7) rfl ?_); refine box_event ?hg (N := 7) ?hd (cs := #[.int .i64 0, .int .i64 0, .int .i64 0, .int .i64 0, .int .i64 0, .int .i64 0, .int .i64 0]) (t := 66) ?hr ?_; (case hd => rfl); (case hg => rfl); (case hr => first | (go_simp; done) | (go_simp; rfl)); intro gb195 hg w18 hbox hb; have n0_ := Aside0.mk (below_step (by repeat (first | (with_reducible first | exact HB.out | apply below_alloc | apply pw_below_drewN | apply below_drew1) | exact HB.out)) hb); have n1_ := Aside0.mk (hbox); have n2_ := Aside0.mk ((by rw [hg]; exact (below_size (by repeat (first | (with_reducible first | exact HB.out | apply below_alloc | apply pw_below_drewN | apply below_drew1) | exact HB.out))) : w.heap.size ≤ gb195)); have n3_ := Aside0.mk ((by rw [hg]; exact (below_size (by repeat (first | (with_reducible first | exact HB.out | apply below_alloc | apply pw_below_drewN | apply below_drew1) | exact HB.out))) : w.heap.size ≤ gb195)); clear HB; have HB := n0_; have BK195 := n1_; have GW195 := n2_; have GE195 := n3_; clear n0_ n1_ n2_ n3_; clear hb hbox hg; have hcz19_0 : w18.cell? ⟨gb195, 0, none⟩ = some (.int .i64 0) := (blk_cell BK195.out 0).trans rfl; have hcz19_1 : w18.cell? ⟨gb195, 1, none⟩ = some (.int .i64 0) := (blk_cell BK195.out 1).trans rfl; have hcz19_2 : w18.cell? ⟨gb195, 2, none⟩ = some (.int .i64 0) := (blk_cell BK195.out 2).trans rfl; have hcz19_3 : w18.cell? ⟨gb195, 3, none⟩ = some (.int .i64 0) := (blk_cell BK195.out 3).trans rfl; have hcz19_4 : w18.cell? ⟨gb195, 4, none⟩ = some (.int .i64 0) := (blk_cell BK195.out 4).trans rfl; have hcz19_5 : w18.cell? ⟨gb195, 5, none⟩ = some (.int .i64 0) := (blk_cell BK195.out 5).trans rfl; have hcz19_6 : w18.cell? ⟨gb195, 6, none⟩ = some (.int .i64 0) := (blk_cell BK195.out 6).trans rfl; have hfz19_0 := blk_frozen BK195.out 0; have hfz19_1 := blk_frozen BK195.out 1; have hfz19_2 := blk_frozen BK195.out 2; have hfz19_3 := blk_frozen BK195.out 3; have hfz19_4 := blk_frozen BK195.out 4; have hfz19_5 := blk_frozen BK195.out 5; have hfz19_6 := blk_frozen BK195.out 6))
              have n0_ : Aside0 ((((((((w18.setCell ⟨gb195, 0, none⟩ (.int .i64 t188)).setCell ⟨gb195, 1, none⟩ (.int .i64 t189)).setCell ⟨gb195, 2, none⟩ (.int .i64 t190)).setCell ⟨gb195, 3, none⟩ (.int .i64 t191)).setCell ⟨gb195, 4, none⟩ (.int .i64 t192)).setCell ⟨gb195, 5, none⟩ (.int .i64 t193)).setCell ⟨gb195, 6, none⟩ (.int .i64 t194)).heap[gb195]? = some (.cells #[.int .i64 t188, .int .i64 t189, .int .i64 t190, .int .i64 t191, .int .i64 t192, .int .i64 t193, .int .i64 t194] 66 (0, 0))) := ⟨by (with_reducible repeat (first | refine blk_drewN ?_ _ | refine blk_drew ?_ | refine blk_alloc ?_ _)); refine blk_put (cs := #[.int .i64 t188, .int .i64 t189, .int .i64 t190, .int .i64 t191, .int .i64 t192, .int .i64 t193, .int .i64 0]) ?_ 6 _ rfl; (with_reducible repeat (first | refine blk_drewN ?_ _ | refine blk_drew ?_ | refine blk_alloc ?_ _)); refine blk_put (cs := #[.int .i64 t188, .int .i64 t189, .int .i64 t190, .int .i64 t191, .int .i64 t192, .int .i64 0, .int .i64 0]) ?_ 5 _ rfl; (with_reducible repeat (first | refine blk_drewN ?_ _ | refine blk_drew ?_ | refine blk_alloc ?_ _)); refine blk_put (cs := #[.int .i64 t188, .int .i64 t189, .int .i64 t190, .int .i64 t191, .int .i64 0, .int .i64 0, .int .i64 0]) ?_ 4 _ rfl; (with_reducible repeat (first | refine blk_drewN ?_ _ | refine blk_drew ?_ | refine blk_alloc ?_ _)); refine blk_put (cs := #[.int .i64 t188, .int .i64 t189, .int .i64 t190, .int .i64 0, .int .i64 0, .int .i64 0, .int .i64 0]) ?_ 3 _ rfl; (with_reducible repeat (first | refine blk_drewN ?_ _ | refine blk_drew ?_ | refine blk_alloc ?_ _)); refine blk_put (cs := #[.int .i64 t188, .int .i64 t189, .int .i64 0, .int .i64 0, .int .i64 0, .int .i64 0, .int .i64 0]) ?_ 2 _ rfl; (with_reducible repeat (first | refine blk_drewN ?_ _ | refine blk_drew ?_ | refine blk_alloc ?_ _)); refine blk_put (cs := #[.int .i64 t188, .int .i64 0, .int .i64 0, .int .i64 0, .int .i64 0, .int .i64 0, .int .i64 0]) ?_ 1 _ rfl; (with_reducible repeat (first | refine blk_drewN ?_ _ | refine blk_drew ?_ | refine blk_alloc ?_ _)); refine blk_put (cs := #[.int .i64 0, .int .i64 0, .int .i64 0, .int .i64 0, .int .i64 0, .int .i64 0, .int .i64 0]) ?_ 0 _ rfl; (with_reducible repeat (first | refine blk_drewN ?_ _ | refine blk_drew ?_ | refine blk_alloc ?_ _)); exact BK195.out⟩
              have n1_ : Aside0 (Below w.heap.size w (((((((w18.setCell ⟨gb195, 0, none⟩ (.int .i64 t188)).setCell ⟨gb195, 1, none⟩ (.int .i64 t189)).setCell ⟨gb195, 2, none⟩ (.int .i64 t190)).setCell ⟨gb195, 3, none⟩ (.int .i64 t191)).setCell ⟨gb195, 4, none⟩ (.int .i64 t192)).setCell ⟨gb195, 5, none⟩ (.int .i64 t193)).setCell ⟨gb195, 6, none⟩ (.int .i64 t194))) := ⟨by repeat (first | (with_reducible first | exact HB.out | apply below_alloc | apply pw_below_drewN | apply below_drew1 | refine below_set ?_ GE195.out) | exact HB.out)⟩
              (try clear BK195)
              (try clear HB)
              generalize (((((((w18.setCell ⟨gb195, 0, none⟩ (.int .i64 t188)).setCell ⟨gb195, 1, none⟩ (.int .i64 t189)).setCell ⟨gb195, 2, none⟩ (.int .i64 t190)).setCell ⟨gb195, 3, none⟩ (.int .i64 t191)).setCell ⟨gb195, 4, none⟩ (.int .i64 t192)).setCell ⟨gb195, 5, none⟩ (.int .i64 t193)).setCell ⟨gb195, 6, none⟩ (.int .i64 t194)) = w20 at n0_ n1_ ⊢
              have BK195 := n0_
              have HB := n1_
              clear n0_ n1_
              have n0_ := Aside0.mk (blk_drew BK195.out)
              have n1_ := Aside0.mk (below_drew1 HB.out)
              clear BK195
              clear HB
              have BK195 := n0_
              have HB := n1_
              clear n0_ n1_
              refine start_ (n := 14) (S := fun w' => w'.cell? ⟨gb195, 0, none⟩ = some (.int .i64 t188) ∧ w'.cell? ⟨gb195, 1, none⟩ = some (.int .i64 t189) ∧ w'.cell? ⟨gb195, 2, none⟩ = some (.int .i64 t190) ∧ w'.cell? ⟨gb195, 3, none⟩ = some (.int .i64 t191) ∧ w'.cell? ⟨gb195, 4, none⟩ = some (.int .i64 t192) ∧ w'.cell? ⟨gb195, 5, none⟩ = some (.int .i64 t193) ∧ w'.cell? ⟨gb195, 6, none⟩ = some (.int .i64 t194)) (ds := []) #[false, false, false, false, false, false, false, false, false, false, false, false, false, false] (by kernel_rfl) rfl rfl ⟨(blk_cell BK195.out 0).trans rfl, (blk_cell BK195.out 1).trans rfl, (blk_cell BK195.out 2).trans rfl, (blk_cell BK195.out 3).trans rfl, (blk_cell BK195.out 4).trans rfl, (blk_cell BK195.out 5).trans rfl, (blk_cell BK195.out 6).trans rfl⟩ (fun hHeld => ?_); refine with_tabW polyglotlaw13_Format.tab2 polyglotlaw13_Format.bits2 (fun HT_ HW_ => ?_)
              generalize w20.drew = w21 at BK195 HB hHeld ⊢
              refine pure_ (i := 0) (N := some 15) (v := ?_) (a' := ?_) #[true, false, false, false, false, false, false, false, false, false, false, false, false, false] rfl rfl (any_of HT_.out (by kernel_rfl)) (fun _ _ _ h => h) (Or.inl ⟨by rfl, ?_⟩) ?_ ?_
              rotate_left
              · intro w'
                go_simp
                with_reducible rfl
              rotate_left
              · simp only [Act.put, List.setIfInBounds_toArray, List.set_cons_zero, List.set_cons_succ, i64_w, i32_w]
                rfl
              refine pure_ (i := 4) (N := some 19) (v := ?_) (a' := ?_) #[true, false, false, false, true, false, false, false, false, false, false, false, false, false] rfl rfl (any_of HT_.out (by kernel_rfl)) (fun _ _ _ h => h) (Or.inl ⟨by rfl, ?_⟩) ?_ ?_
              rotate_left
              · intro w'
                go_simp
                with_reducible rfl
              rotate_left
              · simp only [Act.put, List.setIfInBounds_toArray, List.set_cons_zero, List.set_cons_succ, i64_w, i32_w]
                rfl
              refine pure_ (i := 9) (N := some 24) (v := ?_) (a' := ?_) #[true, false, false, false, true, false, false, false, false, true, false, false, false, false] rfl rfl (any_of HT_.out (by kernel_rfl)) (fun _ _ _ h => h) (Or.inl ⟨by rfl, ?_⟩) ?_ ?_
              rotate_left
              · intro w'
                go_simp
                with_reducible rfl
              rotate_left
              · simp only [Act.put, List.setIfInBounds_toArray, List.set_cons_zero, List.set_cons_succ, i64_w, i32_w]
                rfl
              refine take_ (i := 1) (N := some 16) (v := ?_) (a' := ?_) #[true, true, false, false, true, false, false, false, false, true, false, false, false, false] rfl rfl (take_ofW HT_.out HW_.out (by kernel_rfl)) (fun _ _ _ h => h) (Or.inl ⟨by rfl, ?_⟩) hHeld ?_ ?_
              rotate_left
              · rintro w' ⟨s0, s1, s2, s3, s4, s5, s6⟩
                go_simp
                with_reducible rfl
              rotate_left
              · simp only [Act.put, List.setIfInBounds_toArray, List.set_cons_zero, List.set_cons_succ, i64_w, i32_w]
                rfl
              refine take_ (i := 5) (N := some 20) (v := ?_) (a' := ?_) #[true, true, false, false, true, true, false, false, false, true, false, false, false, false] rfl rfl (take_ofW HT_.out HW_.out (by kernel_rfl)) (fun _ _ _ h => h) (Or.inl ⟨by rfl, ?_⟩) hHeld ?_ ?_
              rotate_left
              · rintro w' ⟨s0, s1, s2, s3, s4, s5, s6⟩
                go_simp
                with_reducible rfl
              rotate_left
              · simp only [Act.put, List.setIfInBounds_toArray, List.set_cons_zero, List.set_cons_succ, i64_w, i32_w]
                rfl
              refine take_ (i := 10) (N := some 25) (v := ?_) (a' := ?_) #[true, true, false, false, true, true, false, false, false, true, true, false, false, false] rfl rfl (take_ofW HT_.out HW_.out (by kernel_rfl)) (fun _ _ _ h => h) (Or.inl ⟨by rfl, ?_⟩) hHeld ?_ ?_
              rotate_left
              · rintro w' ⟨s0, s1, s2, s3, s4, s5, s6⟩
                go_simp
                with_reducible rfl
              rotate_left
              · simp only [Act.put, List.setIfInBounds_toArray, List.set_cons_zero, List.set_cons_succ, i64_w, i32_w]
                rfl
              refine one_ (i := 2) (N := some 17) #[true, true, true, false, true, true, false, false, false, true, true, false, false, false] rfl rfl (one_of HT_.out (by kernel_rfl)) (by decide) (fun K hK => ?_)
              refine goes_ Tryd.func52 (by kernel_rfl) rfl #[.int .i64 t188] (by rfl) rfl rfl (by (try simp only [List.map_toArray, List.map_cons, List.map_nil]); first | done | rfl | (simp only [List.length_drop, List.length_take]; rfl)) ?_
              with_reducible refine (polyglotlaw13_four.calls k t188 t196 _ A5.out).mono ?_
              rintro e w22 ⟨rfl, hb⟩
              refine ⟨_, rfl, ?_⟩
              have n0_ := Aside0.mk (blk_below (g := gb195) (o := .cells #[.int .i64 t188, .int .i64 t189, .int .i64 t190, .int .i64 t191, .int .i64 t192, .int .i64 t193, .int .i64 t194] 66 (0, 0)) (by (with_reducible repeat (first | refine blk_drewN ?_ _ | refine blk_drew ?_ | refine blk_alloc ?_ _)); exact BK195.out) hb)
              have n1_ := Aside0.mk (below_step (by repeat (first | (with_reducible first | exact HB.out | apply below_alloc | apply pw_below_drewN | apply below_drew1 | refine below_set ?_ GE195.out) | exact HB.out)) hb)
              clear BK195
              clear HB
              have BK195 := n0_
              have HB := n1_
              clear n0_ n1_
              (try clear hb)
              (try clear hb2)
              (try clear hk)
              (try clear hi)
              refine hK.out _ _ ⟨(blk_cell BK195.out 0).trans rfl, (blk_cell BK195.out 1).trans rfl, (blk_cell BK195.out 2).trans rfl, (blk_cell BK195.out 3).trans rfl, (blk_cell BK195.out 4).trans rfl, (blk_cell BK195.out 5).trans rfl, (blk_cell BK195.out 6).trans rfl⟩ (fun hHeld => ?_)
              clear hK K
              refine norm_ (a' := ?_) ?_ ?_
              rotate_left
              · show Act.put _ (some 17) _ = _
                simp only [Act.put, List.setIfInBounds_toArray, List.set_cons_zero, List.set_cons_succ, i64_w, i32_w]
                rfl
              refine pure_ (i := 3) (N := some 18) (v := ?_) (a' := ?_) #[true, true, true, true, true, true, false, false, false, true, true, false, false, false] rfl rfl (any_of HT_.out (by kernel_rfl)) (fun _ _ _ h => h) (Or.inl ⟨by rfl, ?_⟩) ?_ ?_
              rotate_left
              · intro w'
                go_simp
                with_reducible rfl
              rotate_left
              · simp only [Act.put, List.setIfInBounds_toArray, List.set_cons_zero, List.set_cons_succ, i64_w, i32_w]
                rfl
              refine one_ (i := 6) (N := some 21) #[true, true, true, true, true, true, true, false, false, true, true, false, false, false] rfl rfl (one_of HT_.out (by kernel_rfl)) (by decide) (fun K hK => ?_)
              refine goes_ Tryd.func53 (by kernel_rfl) rfl #[.int .i64 t189] (by rfl) rfl rfl (by (try simp only [List.map_toArray, List.map_cons, List.map_nil]); first | done | rfl | (simp only [List.length_drop, List.length_take]; rfl)) ?_
              with_reducible refine (polyglotlaw13_two.calls t189 t198 _ A7.out).mono ?_
              rintro e w23 ⟨rfl, hb⟩
              refine ⟨_, rfl, ?_⟩
              have n0_ := Aside0.mk (blk_below (g := gb195) (o := .cells #[.int .i64 t188, .int .i64 t189, .int .i64 t190, .int .i64 t191, .int .i64 t192, .int .i64 t193, .int .i64 t194] 66 (0, 0)) (by (with_reducible repeat (first | refine blk_drewN ?_ _ | refine blk_drew ?_ | refine blk_alloc ?_ _)); exact BK195.out) hb)
              have n1_ := Aside0.mk (below_step (by repeat (first | (with_reducible first | exact HB.out | apply below_alloc | apply pw_below_drewN | apply below_drew1 | refine below_set ?_ GE195.out) | exact HB.out)) hb)
              clear BK195
              clear HB
              have BK195 := n0_
              have HB := n1_
              clear n0_ n1_
              (try clear hb)
              (try clear hb2)
              (try clear hk)
              (try clear hi)
              refine hK.out _ _ ⟨(blk_cell BK195.out 0).trans rfl, (blk_cell BK195.out 1).trans rfl, (blk_cell BK195.out 2).trans rfl, (blk_cell BK195.out 3).trans rfl, (blk_cell BK195.out 4).trans rfl, (blk_cell BK195.out 5).trans rfl, (blk_cell BK195.out 6).trans rfl⟩ (fun hHeld => ?_)
              clear hK K
              refine norm_ (a' := ?_) ?_ ?_
              rotate_left
              · show Act.put _ (some 21) _ = _
                simp only [Act.put, List.setIfInBounds_toArray, List.set_cons_zero, List.set_cons_succ, i64_w, i32_w]
                rfl
              refine pure_ (i := 7) (N := some 22) (v := ?_) (a' := ?_) #[true, true, true, true, true, true, true, true, false, true, true, false, false, false] rfl rfl (any_of HT_.out (by kernel_rfl)) (fun _ _ _ h => h) (Or.inl ⟨by rfl, ?_⟩) ?_ ?_
              rotate_left
              · intro w'
                go_simp
                with_reducible rfl
              rotate_left
              · simp only [Act.put, List.setIfInBounds_toArray, List.set_cons_zero, List.set_cons_succ, i64_w, i32_w]
                rfl
              refine pure_ (i := 8) (N := some 23) (v := ?_) (a' := ?_) #[true, true, true, true, true, true, true, true, true, true, true, false, false, false] rfl rfl (any_of HT_.out (by kernel_rfl)) (fun _ _ _ h => h) (Or.inl ⟨by rfl, ?_⟩) ?_ ?_
              rotate_left
              · intro w'
                go_simp
                with_reducible rfl
              rotate_left
              · simp only [Act.put, List.setIfInBounds_toArray, List.set_cons_zero, List.set_cons_succ, i64_w, i32_w]
                rfl
              refine one_ (i := 11) (N := some 26) #[true, true, true, true, true, true, true, true, true, true, true, true, false, false] rfl rfl (one_of HT_.out (by kernel_rfl)) (by decide) (fun K hK => ?_)
              refine goes_ Tryd.func53 (by kernel_rfl) rfl #[.int .i64 t190] (by rfl) rfl rfl (by (try simp only [List.map_toArray, List.map_cons, List.map_nil]); first | done | rfl | (simp only [List.length_drop, List.length_take]; rfl)) ?_
              with_reducible refine (polyglotlaw13_two.calls t190 t201 _ A10.out).mono ?_
              rintro e w24 ⟨rfl, hb⟩
              refine ⟨_, rfl, ?_⟩
              have n0_ := Aside0.mk (blk_below (g := gb195) (o := .cells #[.int .i64 t188, .int .i64 t189, .int .i64 t190, .int .i64 t191, .int .i64 t192, .int .i64 t193, .int .i64 t194] 66 (0, 0)) (by (with_reducible repeat (first | refine blk_drewN ?_ _ | refine blk_drew ?_ | refine blk_alloc ?_ _)); exact BK195.out) hb)
              have n1_ := Aside0.mk (below_step (by repeat (first | (with_reducible first | exact HB.out | apply below_alloc | apply pw_below_drewN | apply below_drew1 | refine below_set ?_ GE195.out) | exact HB.out)) hb)
              clear BK195
              clear HB
              have BK195 := n0_
              have HB := n1_
              clear n0_ n1_
              (try clear hb)
              (try clear hb2)
              (try clear hk)
              (try clear hi)
              refine hK.out _ _ ⟨(blk_cell BK195.out 0).trans rfl, (blk_cell BK195.out 1).trans rfl, (blk_cell BK195.out 2).trans rfl, (blk_cell BK195.out 3).trans rfl, (blk_cell BK195.out 4).trans rfl, (blk_cell BK195.out 5).trans rfl, (blk_cell BK195.out 6).trans rfl⟩ (fun hHeld => ?_)
              clear hK K
              refine norm_ (a' := ?_) ?_ ?_
              rotate_left
              · show Act.put _ (some 26) _ = _
                simp only [Act.put, List.setIfInBounds_toArray, List.set_cons_zero, List.set_cons_succ, i64_w, i32_w]
                rfl
              refine pure_ (i := 12) (N := some 27) (v := ?_) (a' := ?_) #[true, true, true, true, true, true, true, true, true, true, true, true, true, false] rfl rfl (any_of HT_.out (by kernel_rfl)) (fun _ _ _ h => h) (Or.inl ⟨by rfl, ?_⟩) ?_ ?_
              rotate_left
              · intro w'
                go_simp
                with_reducible rfl
              rotate_left
              · simp only [Act.put, List.setIfInBounds_toArray, List.set_cons_zero, List.set_cons_succ, i64_w, i32_w]
                rfl
              refine pure_ (i := 13) (N := some 8) (v := ?_) (a' := ?_) #[true, true, true, true, true, true, true, true, true, true, true, true, true, true] rfl rfl (any_of HT_.out (by kernel_rfl)) (fun _ _ _ h => h) (Or.inl ⟨by rfl, ?_⟩) ?_ ?_
              rotate_left
              · intro w'
                go_simp
                with_reducible rfl
              rotate_left
              · simp only [Act.put, List.setIfInBounds_toArray, List.set_cons_zero, List.set_cons_succ, i64_w, i32_w]
                rfl
              refine done_ (done_of HT_.out (by kernel_rfl)) ?_
              try go_wp2
              have n0_ := Aside0.mk (blk_drew BK195.out)
              have n1_ := Aside0.mk (below_drew1 HB.out)
              clear BK195
              clear HB
              have BK195 := n0_
              have HB := n1_
              clear n0_ n1_
              refine start_ (n := 9) (S := fun w' => w'.cell? ⟨gb195, 0, none⟩ = some (.int .i64 t188) ∧ w'.cell? ⟨gb195, 1, none⟩ = some (.int .i64 t189) ∧ w'.cell? ⟨gb195, 2, none⟩ = some (.int .i64 t190) ∧ w'.cell? ⟨gb195, 3, none⟩ = some (.int .i64 t191) ∧ w'.cell? ⟨gb195, 4, none⟩ = some (.int .i64 t192) ∧ w'.cell? ⟨gb195, 5, none⟩ = some (.int .i64 t193) ∧ w'.cell? ⟨gb195, 6, none⟩ = some (.int .i64 t194)) (ds := []) #[false, false, false, false, false, false, false, false, false] (by kernel_rfl) rfl rfl ⟨(blk_cell BK195.out 0).trans rfl, (blk_cell BK195.out 1).trans rfl, (blk_cell BK195.out 2).trans rfl, (blk_cell BK195.out 3).trans rfl, (blk_cell BK195.out 4).trans rfl, (blk_cell BK195.out 5).trans rfl, (blk_cell BK195.out 6).trans rfl⟩ (fun hHeld => ?_); refine with_tabW polyglotlaw13_Format.tab3 polyglotlaw13_Format.bits3 (fun HT_ HW_ => ?_)
              generalize w24.drew = w25 at BK195 HB hHeld ⊢
              refine pure_ (i := 0) (N := some 28) (v := ?_) (a' := ?_) #[true, false, false, false, false, false, false, false, false] rfl rfl (any_of HT_.out (by kernel_rfl)) (fun _ _ _ h => h) (Or.inl ⟨by rfl, ?_⟩) ?_ ?_
              rotate_left
              · intro w'
                go_simp
                with_reducible rfl
              rotate_left
              · simp only [Act.put, List.setIfInBounds_toArray, List.set_cons_zero, List.set_cons_succ, i64_w, i32_w]
                rfl
              refine pure_ (i := 4) (N := some 32) (v := ?_) (a' := ?_) #[true, false, false, false, true, false, false, false, false] rfl rfl (any_of HT_.out (by kernel_rfl)) (fun _ _ _ h => h) (Or.inl ⟨by rfl, ?_⟩) ?_ ?_
              rotate_left
              · intro w'
                go_simp
                with_reducible rfl
              rotate_left
              · simp only [Act.put, List.setIfInBounds_toArray, List.set_cons_zero, List.set_cons_succ, i64_w, i32_w]
                rfl
              refine take_ (i := 1) (N := some 29) (v := ?_) (a' := ?_) #[true, true, false, false, true, false, false, false, false] rfl rfl (take_ofW HT_.out HW_.out (by kernel_rfl)) (fun _ _ _ h => h) (Or.inl ⟨by rfl, ?_⟩) hHeld ?_ ?_
              rotate_left
              · rintro w' ⟨s0, s1, s2, s3, s4, s5, s6⟩
                go_simp
                with_reducible rfl
              rotate_left
              · simp only [Act.put, List.setIfInBounds_toArray, List.set_cons_zero, List.set_cons_succ, i64_w, i32_w]
                rfl
              refine take_ (i := 5) (N := some 33) (v := ?_) (a' := ?_) #[true, true, false, false, true, true, false, false, false] rfl rfl (take_ofW HT_.out HW_.out (by kernel_rfl)) (fun _ _ _ h => h) (Or.inl ⟨by rfl, ?_⟩) hHeld ?_ ?_
              rotate_left
              · rintro w' ⟨s0, s1, s2, s3, s4, s5, s6⟩
                go_simp
                with_reducible rfl
              rotate_left
              · simp only [Act.put, List.setIfInBounds_toArray, List.set_cons_zero, List.set_cons_succ, i64_w, i32_w]
                rfl
              refine one_ (i := 2) (N := some 30) #[true, true, true, false, true, true, false, false, false] rfl rfl (one_of HT_.out (by kernel_rfl)) (by decide) (fun K hK => ?_)
              refine goes_ Tryd.func53 (by kernel_rfl) rfl #[.int .i64 t191] (by rfl) rfl rfl (by (try simp only [List.map_toArray, List.map_cons, List.map_nil]); first | done | rfl | (simp only [List.length_drop, List.length_take]; rfl)) ?_
              with_reducible refine (polyglotlaw13_two.calls t191 t203 _ A12.out).mono ?_
              rintro e w26 ⟨rfl, hb⟩
              refine ⟨_, rfl, ?_⟩
              have n0_ := Aside0.mk (blk_below (g := gb195) (o := .cells #[.int .i64 t188, .int .i64 t189, .int .i64 t190, .int .i64 t191, .int .i64 t192, .int .i64 t193, .int .i64 t194] 66 (0, 0)) (by (with_reducible repeat (first | refine blk_drewN ?_ _ | refine blk_drew ?_ | refine blk_alloc ?_ _)); exact BK195.out) hb)
              have n1_ := Aside0.mk (below_step (by repeat (first | (with_reducible first | exact HB.out | apply below_alloc | apply pw_below_drewN | apply below_drew1 | refine below_set ?_ GE195.out) | exact HB.out)) hb)
              clear BK195
              clear HB
              have BK195 := n0_
              have HB := n1_
              clear n0_ n1_
              (try clear hb)
              (try clear hb2)
              (try clear hk)
              (try clear hi)
              refine hK.out _ _ ⟨(blk_cell BK195.out 0).trans rfl, (blk_cell BK195.out 1).trans rfl, (blk_cell BK195.out 2).trans rfl, (blk_cell BK195.out 3).trans rfl, (blk_cell BK195.out 4).trans rfl, (blk_cell BK195.out 5).trans rfl, (blk_cell BK195.out 6).trans rfl⟩ (fun hHeld => ?_)
              clear hK K
              refine norm_ (a' := ?_) ?_ ?_
              rotate_left
              · show Act.put _ (some 30) _ = _
                simp only [Act.put, List.setIfInBounds_toArray, List.set_cons_zero, List.set_cons_succ, i64_w, i32_w]
                rfl
              refine pure_ (i := 3) (N := some 31) (v := ?_) (a' := ?_) #[true, true, true, true, true, true, false, false, false] rfl rfl (any_of HT_.out (by kernel_rfl)) (fun _ _ _ h => h) (Or.inl ⟨by rfl, ?_⟩) ?_ ?_
              rotate_left
              · intro w'
                go_simp
                with_reducible rfl
              rotate_left
              · simp only [Act.put, List.setIfInBounds_toArray, List.set_cons_zero, List.set_cons_succ, i64_w, i32_w]
                rfl
              refine one_ (i := 6) (N := some 34) #[true, true, true, true, true, true, true, false, false] rfl rfl (one_of HT_.out (by kernel_rfl)) (by decide) (fun K hK => ?_)
              refine goes_ Tryd.func53 (by kernel_rfl) rfl #[.int .i64 t192] (by rfl) rfl rfl (by (try simp only [List.map_toArray, List.map_cons, List.map_nil]); first | done | rfl | (simp only [List.length_drop, List.length_take]; rfl)) ?_
              with_reducible refine (polyglotlaw13_two.calls t192 t205 _ A14.out).mono ?_
              rintro e w27 ⟨rfl, hb⟩
              refine ⟨_, rfl, ?_⟩
              have n0_ := Aside0.mk (blk_below (g := gb195) (o := .cells #[.int .i64 t188, .int .i64 t189, .int .i64 t190, .int .i64 t191, .int .i64 t192, .int .i64 t193, .int .i64 t194] 66 (0, 0)) (by (with_reducible repeat (first | refine blk_drewN ?_ _ | refine blk_drew ?_ | refine blk_alloc ?_ _)); exact BK195.out) hb)
              have n1_ := Aside0.mk (below_step (by repeat (first | (with_reducible first | exact HB.out | apply below_alloc | apply pw_below_drewN | apply below_drew1 | refine below_set ?_ GE195.out) | exact HB.out)) hb)
              clear BK195
              clear HB
              have BK195 := n0_
              have HB := n1_
              clear n0_ n1_
              (try clear hb)
              (try clear hb2)
              (try clear hk)
              (try clear hi)
              refine hK.out _ _ ⟨(blk_cell BK195.out 0).trans rfl, (blk_cell BK195.out 1).trans rfl, (blk_cell BK195.out 2).trans rfl, (blk_cell BK195.out 3).trans rfl, (blk_cell BK195.out 4).trans rfl, (blk_cell BK195.out 5).trans rfl, (blk_cell BK195.out 6).trans rfl⟩ (fun hHeld => ?_)
              clear hK K
              refine norm_ (a' := ?_) ?_ ?_
              rotate_left
              · show Act.put _ (some 34) _ = _
                simp only [Act.put, List.setIfInBounds_toArray, List.set_cons_zero, List.set_cons_succ, i64_w, i32_w]
                rfl
              refine pure_ (i := 7) (N := some 35) (v := ?_) (a' := ?_) #[true, true, true, true, true, true, true, true, false] rfl rfl (any_of HT_.out (by kernel_rfl)) (fun _ _ _ h => h) (Or.inl ⟨by rfl, ?_⟩) ?_ ?_
              rotate_left
              · intro w'
                go_simp
                with_reducible rfl
              rotate_left
              · simp only [Act.put, List.setIfInBounds_toArray, List.set_cons_zero, List.set_cons_succ, i64_w, i32_w]
                rfl
              refine pure_ (i := 8) (N := some 9) (v := ?_) (a' := ?_) #[true, true, true, true, true, true, true, true, true] rfl rfl (any_of HT_.out (by kernel_rfl)) (fun _ _ _ h => h) (Or.inl ⟨by rfl, ?_⟩) ?_ ?_
              rotate_left
              · intro w'
                go_simp
                with_reducible rfl
              rotate_left
              · simp only [Act.put, List.setIfInBounds_toArray, List.set_cons_zero, List.set_cons_succ, i64_w, i32_w]
                rfl
              refine done_ (done_of HT_.out (by kernel_rfl)) ?_
              go_upto_block 0 with (fail)
              go_cut [8, 9, 10] (fun v8 v9 v10 wc => ∃ (kq : Nat) (x8_15 : ByteArray) (x9_15 : ByteArray) (x10_15 : ByteArray), v8 = .string x8_15 ∧ v9 = .string x9_15 ∧ v10 = .string x10_15 ∧ Aside0 (polyglotlaw13_Format.j3 kq a2 x8_15 x9_15 x10_15 = some r) ∧ Aside0 (kq ≤ k) ∧ Aside0 (wc.heap[gb195]? = some (.cells #[.int .i64 t188, .int .i64 t189, .int .i64 t190, .int .i64 t191, .int .i64 t192, .int .i64 t193, .int .i64 t194] 66 (0, 0))) ∧ Aside0 (Below w.heap.size w wc))
              case first =>
                have H := HC16.out
                clear HC16
                by_cases c28 : a0.toList = ([101, 110] : List UInt8)
                · rw [if_pos c28] at H
                  have c28b0 : (a0.toList == ([101, 110] : List UInt8)) = true := beq_iff_eq.mpr c28
                  have c28b1 : (a0.toList != ([101, 110] : List UInt8)) = false := bne_eq_false_iff_eq.mpr c28
                  clear c28
                  (first | rw [c28b0] | (simp only [i64_w, i32_w]; rw [c28b0]) | skip)
                  replace H := Option.bind_eq_some_iff.mp H
                  obtain ⟨t207, A290, H⟩ := H
                  replace H : (if t207.size + 1 ≤ 9223372036854775807 then ((some (t207 ++ (⟨#[47]⟩ : ByteArray) : ByteArray)).bind fun y208 => ((strconv_Itoa.f t190).bind fun t209 => (if y208.size + t209.size ≤ 9223372036854775807 then ((some (y208 ++ t209 : ByteArray)).bind fun y210 => (if y210.size + 1 ≤ 9223372036854775807 then ((some (y210 ++ (⟨#[47]⟩ : ByteArray) : ByteArray)).bind fun y211 => ((polyglotlaw13_four.f k t188).bind fun t212 => (if y211.size + t212.size ≤ 9223372036854775807 then ((some (y211 ++ t212 : ByteArray)).bind fun y213 => (if t191 ≥ 12 then (polyglotlaw13_Format.j0 k a2 y213 (wrap64 (t191 - 12)) (⟨#[32, 80, 77]⟩ : ByteArray) t188 t189 t190 t191 t192 t193 t194) else (polyglotlaw13_Format.j0 k a2 y213 t191 (⟨#[32, 65, 77]⟩ : ByteArray) t188 t189 t190 t191 t192 t193 t194))) else (none)))) else (none))) else (none)))) else (none)) = some r := H
                  have A29 := Aside0.mk A290
                  clear A290
                  by_cases c30 : t207.size + 1 ≤ 9223372036854775807
                  · rw [if_pos c30] at H
                    have c30b0 := eq_true c30
                    have c30b1 : decide (t207.size + 1 ≤ 9223372036854775807) = true := decide_eq_true c30
                    try have c30b2 : (9223372036854775807 < t207.size + 1) = False := eq_false (Nat.not_lt.2 c30)
                    replace H := Option.bind_eq_some_iff.mp H
                    obtain ⟨y208, hy2080, H⟩ := H
                    replace H : ((strconv_Itoa.f t190).bind fun t209 => (if y208.size + t209.size ≤ 9223372036854775807 then ((some (y208 ++ t209 : ByteArray)).bind fun y210 => (if y210.size + 1 ≤ 9223372036854775807 then ((some (y210 ++ (⟨#[47]⟩ : ByteArray) : ByteArray)).bind fun y211 => ((polyglotlaw13_four.f k t188).bind fun t212 => (if y211.size + t212.size ≤ 9223372036854775807 then ((some (y211 ++ t212 : ByteArray)).bind fun y213 => (if t191 ≥ 12 then (polyglotlaw13_Format.j0 k a2 y213 (wrap64 (t191 - 12)) (⟨#[32, 80, 77]⟩ : ByteArray) t188 t189 t190 t191 t192 t193 t194) else (polyglotlaw13_Format.j0 k a2 y213 t191 (⟨#[32, 65, 77]⟩ : ByteArray) t188 t189 t190 t191 t192 t193 t194))) else (none)))) else (none))) else (none))) = some r := H
                    have hy208 : t207 ++ (⟨#[47]⟩ : ByteArray) = y208 := Option.some.inj hy2080
                    clear hy2080
                    replace H := Option.bind_eq_some_iff.mp H
                    obtain ⟨t209, A310, H⟩ := H
                    replace H : (if y208.size + t209.size ≤ 9223372036854775807 then ((some (y208 ++ t209 : ByteArray)).bind fun y210 => (if y210.size + 1 ≤ 9223372036854775807 then ((some (y210 ++ (⟨#[47]⟩ : ByteArray) : ByteArray)).bind fun y211 => ((polyglotlaw13_four.f k t188).bind fun t212 => (if y211.size + t212.size ≤ 9223372036854775807 then ((some (y211 ++ t212 : ByteArray)).bind fun y213 => (if t191 ≥ 12 then (polyglotlaw13_Format.j0 k a2 y213 (wrap64 (t191 - 12)) (⟨#[32, 80, 77]⟩ : ByteArray) t188 t189 t190 t191 t192 t193 t194) else (polyglotlaw13_Format.j0 k a2 y213 t191 (⟨#[32, 65, 77]⟩ : ByteArray) t188 t189 t190 t191 t192 t193 t194))) else (none)))) else (none))) else (none)) = some r := H
                    have A31 := Aside0.mk A310
                    clear A310
                    by_cases c32 : y208.size + t209.size ≤ 9223372036854775807
                    · rw [if_pos c32] at H
                      have c32b0 := eq_true c32
                      have c32b1 : decide (y208.size + t209.size ≤ 9223372036854775807) = true := decide_eq_true c32
                      try have c32b2 : (9223372036854775807 < y208.size + t209.size) = False := eq_false (Nat.not_lt.2 c32)
                      replace H := Option.bind_eq_some_iff.mp H
                      obtain ⟨y210, hy2100, H⟩ := H
                      replace H : (if y210.size + 1 ≤ 9223372036854775807 then ((some (y210 ++ (⟨#[47]⟩ : ByteArray) : ByteArray)).bind fun y211 => ((polyglotlaw13_four.f k t188).bind fun t212 => (if y211.size + t212.size ≤ 9223372036854775807 then ((some (y211 ++ t212 : ByteArray)).bind fun y213 => (if t191 ≥ 12 then (polyglotlaw13_Format.j0 k a2 y213 (wrap64 (t191 - 12)) (⟨#[32, 80, 77]⟩ : ByteArray) t188 t189 t190 t191 t192 t193 t194) else (polyglotlaw13_Format.j0 k a2 y213 t191 (⟨#[32, 65, 77]⟩ : ByteArray) t188 t189 t190 t191 t192 t193 t194))) else (none)))) else (none)) = some r := H
                      have hy210 : y208 ++ t209 = y210 := Option.some.inj hy2100
                      clear hy2100
                      by_cases c33 : y210.size + 1 ≤ 9223372036854775807
                      · rw [if_pos c33] at H
                        have c33b0 := eq_true c33
                        have c33b1 : decide (y210.size + 1 ≤ 9223372036854775807) = true := decide_eq_true c33
                        try have c33b2 : (9223372036854775807 < y210.size + 1) = False := eq_false (Nat.not_lt.2 c33)
                        replace H := Option.bind_eq_some_iff.mp H
                        obtain ⟨y211, hy2110, H⟩ := H
                        replace H : ((polyglotlaw13_four.f k t188).bind fun t212 => (if y211.size + t212.size ≤ 9223372036854775807 then ((some (y211 ++ t212 : ByteArray)).bind fun y213 => (if t191 ≥ 12 then (polyglotlaw13_Format.j0 k a2 y213 (wrap64 (t191 - 12)) (⟨#[32, 80, 77]⟩ : ByteArray) t188 t189 t190 t191 t192 t193 t194) else (polyglotlaw13_Format.j0 k a2 y213 t191 (⟨#[32, 65, 77]⟩ : ByteArray) t188 t189 t190 t191 t192 t193 t194))) else (none))) = some r := H
                        have hy211 : y210 ++ (⟨#[47]⟩ : ByteArray) = y211 := Option.some.inj hy2110
                        clear hy2110
                        replace H := Option.bind_eq_some_iff.mp H
                        obtain ⟨t212, A340, H⟩ := H
                        replace H : (if y211.size + t212.size ≤ 9223372036854775807 then ((some (y211 ++ t212 : ByteArray)).bind fun y213 => (if t191 ≥ 12 then (polyglotlaw13_Format.j0 k a2 y213 (wrap64 (t191 - 12)) (⟨#[32, 80, 77]⟩ : ByteArray) t188 t189 t190 t191 t192 t193 t194) else (polyglotlaw13_Format.j0 k a2 y213 t191 (⟨#[32, 65, 77]⟩ : ByteArray) t188 t189 t190 t191 t192 t193 t194))) else (none)) = some r := H
                        have A34 := Aside0.mk A340
                        clear A340
                        by_cases c35 : y211.size + t212.size ≤ 9223372036854775807
                        · rw [if_pos c35] at H
                          have c35b0 := eq_true c35
                          have c35b1 : decide (y211.size + t212.size ≤ 9223372036854775807) = true := decide_eq_true c35
                          try have c35b2 : (9223372036854775807 < y211.size + t212.size) = False := eq_false (Nat.not_lt.2 c35)
                          replace H := Option.bind_eq_some_iff.mp H
                          obtain ⟨y213, hy2130, H⟩ := H
                          replace H : (if t191 ≥ 12 then (polyglotlaw13_Format.j0 k a2 y213 (wrap64 (t191 - 12)) (⟨#[32, 80, 77]⟩ : ByteArray) t188 t189 t190 t191 t192 t193 t194) else (polyglotlaw13_Format.j0 k a2 y213 t191 (⟨#[32, 65, 77]⟩ : ByteArray) t188 t189 t190 t191 t192 t193 t194)) = some r := H
                          have hy213 : y211 ++ t212 = y213 := Option.some.inj hy2130
                          clear hy2130
                          have HC36 := Aside0.mk H
                          clear H
                          try go_wp2
                          have n0_ := Aside0.mk (blk_drew BK195.out)
                          have n1_ := Aside0.mk (below_drew1 HB.out)
                          clear BK195
                          clear HB
                          have BK195 := n0_
                          have HB := n1_
                          clear n0_ n1_
                          refine start_ (n := 14) (S := fun w' => w'.cell? ⟨gb195, 0, none⟩ = some (.int .i64 t188) ∧ w'.cell? ⟨gb195, 1, none⟩ = some (.int .i64 t189) ∧ w'.cell? ⟨gb195, 2, none⟩ = some (.int .i64 t190) ∧ w'.cell? ⟨gb195, 3, none⟩ = some (.int .i64 t191) ∧ w'.cell? ⟨gb195, 4, none⟩ = some (.int .i64 t192) ∧ w'.cell? ⟨gb195, 5, none⟩ = some (.int .i64 t193) ∧ w'.cell? ⟨gb195, 6, none⟩ = some (.int .i64 t194)) (ds := []) #[false, false, false, false, false, false, false, false, false, false, false, false, false, false] (by kernel_rfl) rfl rfl ⟨(blk_cell BK195.out 0).trans rfl, (blk_cell BK195.out 1).trans rfl, (blk_cell BK195.out 2).trans rfl, (blk_cell BK195.out 3).trans rfl, (blk_cell BK195.out 4).trans rfl, (blk_cell BK195.out 5).trans rfl, (blk_cell BK195.out 6).trans rfl⟩ (fun hHeld => ?_); refine with_tabW polyglotlaw13_Format.tab7 polyglotlaw13_Format.bits7 (fun HT_ HW_ => ?_)
                          generalize w27.drew = w37 at BK195 HB hHeld ⊢
                          refine pure_ (i := 0) (N := some 39) (v := ?_) (a' := ?_) #[true, false, false, false, false, false, false, false, false, false, false, false, false, false] rfl rfl (any_of HT_.out (by kernel_rfl)) (fun _ _ _ h => h) (Or.inl ⟨by rfl, ?_⟩) ?_ ?_
                          rotate_left
                          · intro w'
                            go_simp
                            with_reducible rfl
                          rotate_left
                          · simp only [Act.put, List.setIfInBounds_toArray, List.set_cons_zero, List.set_cons_succ, i64_w, i32_w]
                            rfl
                          refine pure_ (i := 4) (N := some 43) (v := ?_) (a' := ?_) #[true, false, false, false, true, false, false, false, false, false, false, false, false, false] rfl rfl (any_of HT_.out (by kernel_rfl)) (fun _ _ _ h => h) (Or.inl ⟨by rfl, ?_⟩) ?_ ?_
                          rotate_left
                          · intro w'
                            go_simp
                            with_reducible rfl
                          rotate_left
                          · simp only [Act.put, List.setIfInBounds_toArray, List.set_cons_zero, List.set_cons_succ, i64_w, i32_w]
                            rfl
                          refine pure_ (i := 9) (N := some 48) (v := ?_) (a' := ?_) #[true, false, false, false, true, false, false, false, false, true, false, false, false, false] rfl rfl (any_of HT_.out (by kernel_rfl)) (fun _ _ _ h => h) (Or.inl ⟨by rfl, ?_⟩) ?_ ?_
                          rotate_left
                          · intro w'
                            go_simp
                            with_reducible rfl
                          rotate_left
                          · simp only [Act.put, List.setIfInBounds_toArray, List.set_cons_zero, List.set_cons_succ, i64_w, i32_w]
                            rfl
                          refine take_ (i := 1) (N := some 40) (v := ?_) (a' := ?_) #[true, true, false, false, true, false, false, false, false, true, false, false, false, false] rfl rfl (take_ofW HT_.out HW_.out (by kernel_rfl)) (fun _ _ _ h => h) (Or.inl ⟨by rfl, ?_⟩) hHeld ?_ ?_
                          rotate_left
                          · rintro w' ⟨s0, s1, s2, s3, s4, s5, s6⟩
                            go_simp
                            with_reducible rfl
                          rotate_left
                          · simp only [Act.put, List.setIfInBounds_toArray, List.set_cons_zero, List.set_cons_succ, i64_w, i32_w]
                            rfl
                          refine take_ (i := 5) (N := some 44) (v := ?_) (a' := ?_) #[true, true, false, false, true, true, false, false, false, true, false, false, false, false] rfl rfl (take_ofW HT_.out HW_.out (by kernel_rfl)) (fun _ _ _ h => h) (Or.inl ⟨by rfl, ?_⟩) hHeld ?_ ?_
                          rotate_left
                          · rintro w' ⟨s0, s1, s2, s3, s4, s5, s6⟩
                            go_simp
                            with_reducible rfl
                          rotate_left
                          · simp only [Act.put, List.setIfInBounds_toArray, List.set_cons_zero, List.set_cons_succ, i64_w, i32_w]
                            rfl
                          refine take_ (i := 10) (N := some 49) (v := ?_) (a' := ?_) #[true, true, false, false, true, true, false, false, false, true, true, false, false, false] rfl rfl (take_ofW HT_.out HW_.out (by kernel_rfl)) (fun _ _ _ h => h) (Or.inl ⟨by rfl, ?_⟩) hHeld ?_ ?_
                          rotate_left
                          · rintro w' ⟨s0, s1, s2, s3, s4, s5, s6⟩
                            go_simp
                            with_reducible rfl
                          rotate_left
                          · simp only [Act.put, List.setIfInBounds_toArray, List.set_cons_zero, List.set_cons_succ, i64_w, i32_w]
                            rfl
                          refine one_ (i := 2) (N := some 41) #[true, true, true, false, true, true, false, false, false, true, true, false, false, false] rfl rfl (one_of HT_.out (by kernel_rfl)) (by decide) (fun K hK => ?_)
                          refine goes_ Tryd.func54 (by kernel_rfl) rfl #[.int .i64 t189] (by rfl) rfl rfl (by (try simp only [List.map_toArray, List.map_cons, List.map_nil]); first | done | rfl | (simp only [List.length_drop, List.length_take]; rfl)) ?_
                          with_reducible refine (strconv_Itoa.calls t189 t207 _ A29.out).mono ?_
                          rintro e w38 ⟨rfl, hb⟩
                          refine ⟨_, rfl, ?_⟩
                          have n0_ := Aside0.mk (blk_below (g := gb195) (o := .cells #[.int .i64 t188, .int .i64 t189, .int .i64 t190, .int .i64 t191, .int .i64 t192, .int .i64 t193, .int .i64 t194] 66 (0, 0)) (by (with_reducible repeat (first | refine blk_drewN ?_ _ | refine blk_drew ?_ | refine blk_alloc ?_ _)); exact BK195.out) hb)
                          have n1_ := Aside0.mk (below_step (by repeat (first | (with_reducible first | exact HB.out | apply below_alloc | apply pw_below_drewN | apply below_drew1 | refine below_set ?_ GE195.out) | exact HB.out)) hb)
                          clear BK195
                          clear HB
                          have BK195 := n0_
                          have HB := n1_
                          clear n0_ n1_
                          (try clear hb)
                          (try clear hb2)
                          (try clear hk)
                          (try clear hi)
                          refine hK.out _ _ ⟨(blk_cell BK195.out 0).trans rfl, (blk_cell BK195.out 1).trans rfl, (blk_cell BK195.out 2).trans rfl, (blk_cell BK195.out 3).trans rfl, (blk_cell BK195.out 4).trans rfl, (blk_cell BK195.out 5).trans rfl, (blk_cell BK195.out 6).trans rfl⟩ (fun hHeld => ?_)
                          clear hK K
                          refine norm_ (a' := ?_) ?_ ?_
                          rotate_left
                          · show Act.put _ (some 41) _ = _
                            simp only [Act.put, List.setIfInBounds_toArray, List.set_cons_zero, List.set_cons_succ, i64_w, i32_w]
                            rfl
                          refine pure_ (i := 3) (N := some 42) (v := ?_) (a' := ?_) #[true, true, true, true, true, true, false, false, false, true, true, false, false, false] rfl rfl (any_of HT_.out (by kernel_rfl)) (fun _ _ _ h => h) (Or.inl ⟨by rfl, ?_⟩) ?_ ?_
                          rotate_left
                          · intro w'
                            go_simp
                            with_reducible rfl
                          rotate_left
                          · simp only [Act.put, List.setIfInBounds_toArray, List.set_cons_zero, List.set_cons_succ, i64_w, i32_w]
                            rfl
                          refine one_ (i := 6) (N := some 45) #[true, true, true, true, true, true, true, false, false, true, true, false, false, false] rfl rfl (one_of HT_.out (by kernel_rfl)) (by decide) (fun K hK => ?_)
                          refine goes_ Tryd.func54 (by kernel_rfl) rfl #[.int .i64 t190] (by rfl) rfl rfl (by (try simp only [List.map_toArray, List.map_cons, List.map_nil]); first | done | rfl | (simp only [List.length_drop, List.length_take]; rfl)) ?_
                          with_reducible refine (strconv_Itoa.calls t190 t209 _ A31.out).mono ?_
                          rintro e w39 ⟨rfl, hb⟩
                          refine ⟨_, rfl, ?_⟩
                          have n0_ := Aside0.mk (blk_below (g := gb195) (o := .cells #[.int .i64 t188, .int .i64 t189, .int .i64 t190, .int .i64 t191, .int .i64 t192, .int .i64 t193, .int .i64 t194] 66 (0, 0)) (by (with_reducible repeat (first | refine blk_drewN ?_ _ | refine blk_drew ?_ | refine blk_alloc ?_ _)); exact BK195.out) hb)
                          have n1_ := Aside0.mk (below_step (by repeat (first | (with_reducible first | exact HB.out | apply below_alloc | apply pw_below_drewN | apply below_drew1 | refine below_set ?_ GE195.out) | exact HB.out)) hb)
                          clear BK195
                          clear HB
                          have BK195 := n0_
                          have HB := n1_
                          clear n0_ n1_
                          (try clear hb)
                          (try clear hb2)
                          (try clear hk)
                          (try clear hi)
                          refine hK.out _ _ ⟨(blk_cell BK195.out 0).trans rfl, (blk_cell BK195.out 1).trans rfl, (blk_cell BK195.out 2).trans rfl, (blk_cell BK195.out 3).trans rfl, (blk_cell BK195.out 4).trans rfl, (blk_cell BK195.out 5).trans rfl, (blk_cell BK195.out 6).trans rfl⟩ (fun hHeld => ?_)
                          clear hK K
                          refine norm_ (a' := ?_) ?_ ?_
                          rotate_left
                          · show Act.put _ (some 45) _ = _
                            simp only [Act.put, List.setIfInBounds_toArray, List.set_cons_zero, List.set_cons_succ, i64_w, i32_w]
                            rfl
                          refine pure_ (i := 7) (N := some 46) (v := ?_) (a' := ?_) #[true, true, true, true, true, true, true, true, false, true, true, false, false, false] rfl rfl (any_of HT_.out (by kernel_rfl)) (fun _ _ _ h => h) (Or.inl ⟨by rfl, ?_⟩) ?_ ?_
                          rotate_left
                          · intro w'
                            go_simp
                            with_reducible rfl
                          rotate_left
                          · simp only [Act.put, List.setIfInBounds_toArray, List.set_cons_zero, List.set_cons_succ, i64_w, i32_w]
                            rfl
                          refine pure_ (i := 8) (N := some 47) (v := ?_) (a' := ?_) #[true, true, true, true, true, true, true, true, true, true, true, false, false, false] rfl rfl (any_of HT_.out (by kernel_rfl)) (fun _ _ _ h => h) (Or.inl ⟨by rfl, ?_⟩) ?_ ?_
                          rotate_left
                          · intro w'
                            go_simp
                            with_reducible rfl
                          rotate_left
                          · simp only [Act.put, List.setIfInBounds_toArray, List.set_cons_zero, List.set_cons_succ, i64_w, i32_w]
                            rfl
                          refine one_ (i := 11) (N := some 50) #[true, true, true, true, true, true, true, true, true, true, true, true, false, false] rfl rfl (one_of HT_.out (by kernel_rfl)) (by decide) (fun K hK => ?_)
                          refine goes_ Tryd.func52 (by kernel_rfl) rfl #[.int .i64 t188] (by rfl) rfl rfl (by (try simp only [List.map_toArray, List.map_cons, List.map_nil]); first | done | rfl | (simp only [List.length_drop, List.length_take]; rfl)) ?_
                          with_reducible refine (polyglotlaw13_four.calls k t188 t212 _ A34.out).mono ?_
                          rintro e w40 ⟨rfl, hb⟩
                          refine ⟨_, rfl, ?_⟩
                          have n0_ := Aside0.mk (blk_below (g := gb195) (o := .cells #[.int .i64 t188, .int .i64 t189, .int .i64 t190, .int .i64 t191, .int .i64 t192, .int .i64 t193, .int .i64 t194] 66 (0, 0)) (by (with_reducible repeat (first | refine blk_drewN ?_ _ | refine blk_drew ?_ | refine blk_alloc ?_ _)); exact BK195.out) hb)
                          have n1_ := Aside0.mk (below_step (by repeat (first | (with_reducible first | exact HB.out | apply below_alloc | apply pw_below_drewN | apply below_drew1 | refine below_set ?_ GE195.out) | exact HB.out)) hb)
                          clear BK195
                          clear HB
                          have BK195 := n0_
                          have HB := n1_
                          clear n0_ n1_
                          (try clear hb)
                          (try clear hb2)
                          (try clear hk)
                          (try clear hi)
                          refine hK.out _ _ ⟨(blk_cell BK195.out 0).trans rfl, (blk_cell BK195.out 1).trans rfl, (blk_cell BK195.out 2).trans rfl, (blk_cell BK195.out 3).trans rfl, (blk_cell BK195.out 4).trans rfl, (blk_cell BK195.out 5).trans rfl, (blk_cell BK195.out 6).trans rfl⟩ (fun hHeld => ?_)
                          clear hK K
                          refine norm_ (a' := ?_) ?_ ?_
                          rotate_left
                          · show Act.put _ (some 50) _ = _
                            simp only [Act.put, List.setIfInBounds_toArray, List.set_cons_zero, List.set_cons_succ, i64_w, i32_w]
                            rfl
                          refine pure_ (i := 12) (N := some 51) (v := ?_) (a' := ?_) #[true, true, true, true, true, true, true, true, true, true, true, true, true, false] rfl rfl (any_of HT_.out (by kernel_rfl)) (fun _ _ _ h => h) (Or.inl ⟨by rfl, ?_⟩) ?_ ?_
                          rotate_left
                          · intro w'
                            go_simp
                            with_reducible rfl
                          rotate_left
                          · simp only [Act.put, List.setIfInBounds_toArray, List.set_cons_zero, List.set_cons_succ, i64_w, i32_w]
                            rfl
                          refine pure_ (i := 13) (N := some 8) (v := ?_) (a' := ?_) #[true, true, true, true, true, true, true, true, true, true, true, true, true, true] rfl rfl (any_of HT_.out (by kernel_rfl)) (fun _ _ _ h => h) (Or.inl ⟨by rfl, ?_⟩) ?_ ?_
                          rotate_left
                          · intro w'
                            go_simp
                            with_reducible rfl
                          rotate_left
                          · simp only [Act.put, List.setIfInBounds_toArray, List.set_cons_zero, List.set_cons_succ, i64_w, i32_w]
                            rfl
                          refine done_ (done_of HT_.out (by kernel_rfl)) ?_
                          have hcz41_0 : w40.cell? ⟨gb195, 0, none⟩ = some (.int .i64 t188) := (blk_cell BK195.out 0).trans rfl
                          have hcz41_1 : w40.cell? ⟨gb195, 1, none⟩ = some (.int .i64 t189) := (blk_cell BK195.out 1).trans rfl
                          have hcz41_2 : w40.cell? ⟨gb195, 2, none⟩ = some (.int .i64 t190) := (blk_cell BK195.out 2).trans rfl
                          have hcz41_3 : w40.cell? ⟨gb195, 3, none⟩ = some (.int .i64 t191) := (blk_cell BK195.out 3).trans rfl
                          have hcz41_4 : w40.cell? ⟨gb195, 4, none⟩ = some (.int .i64 t192) := (blk_cell BK195.out 4).trans rfl
                          have hcz41_5 : w40.cell? ⟨gb195, 5, none⟩ = some (.int .i64 t193) := (blk_cell BK195.out 5).trans rfl
                          have hcz41_6 : w40.cell? ⟨gb195, 6, none⟩ = some (.int .i64 t194) := (blk_cell BK195.out 6).trans rfl
                          have hfz41_0 := blk_frozen BK195.out 0
                          have hfz41_1 := blk_frozen BK195.out 1
                          have hfz41_2 := blk_frozen BK195.out 2
                          have hfz41_3 := blk_frozen BK195.out 3
                          have hfz41_4 := blk_frozen BK195.out 4
                          have hfz41_5 := blk_frozen BK195.out 5
                          have hfz41_6 := blk_frozen BK195.out 6
                          go_upto_if 55 with (fail)
                          go_cut [11, 12] (fun v11 v12 wc => ∃ (kq : Nat) (x11_35 : Int) (x12_35 : ByteArray), v11 = .int .i64 x11_35 ∧ v12 = .string x12_35 ∧ Aside0 (polyglotlaw13_Format.j0 kq a2 y213 x11_35 x12_35 t188 t189 t190 t191 t192 t193 t194 = some r) ∧ Aside0 (kq ≤ k) ∧ Aside0 (wc.heap[gb195]? = some (.cells #[.int .i64 t188, .int .i64 t189, .int .i64 t190, .int .i64 t191, .int .i64 t192, .int .i64 t193, .int .i64 t194] 66 (0, 0))) ∧ Aside0 (Below w.heap.size w wc))
                          case first =>
                            have H := HC36.out
                            clear HC36
                            by_cases c42 : t191 ≥ 12
                            · rw [if_pos c42] at H
                              have c42b0 : decide (12 ≤ t191) = true := decide_eq_true c42
                              clear c42
                              (first | rw [c42b0] | (simp only [i64_w, i32_w]; rw [c42b0]) | skip)
                              have H' := Aside0.mk H
                              clear H
                              go_wp2
                              go_meet
                              case rel => exact ⟨_, (wrap64 (t191 - 12)), ((⟨#[32, 80, 77]⟩ : ByteArray)), (by first | rfl | (simp; done) | (simp [*]; done)), (by first | rfl | (simp; done) | (simp [*]; done)), H', ⟨by first | omega | exact Nat.le_refl _⟩, ⟨by (with_reducible repeat (first | refine blk_drewN ?_ _ | refine blk_drew ?_ | refine blk_alloc ?_ _)); exact BK195.out⟩, ⟨by repeat (first | (with_reducible first | exact HB.out | apply below_alloc | apply pw_below_drewN | apply below_drew1 | refine below_set ?_ GE195.out) | exact HB.out)⟩⟩
                            · rw [if_neg c42] at H
                              have c42b0 : decide (12 ≤ t191) = false := decide_eq_false c42
                              clear c42
                              (first | rw [c42b0] | (simp only [i64_w, i32_w]; rw [c42b0]) | skip)
                              have H' := Aside0.mk H
                              clear H
                              go_wp2
                              go_meet
                              case rel => exact ⟨_, (t191), ((⟨#[32, 65, 77]⟩ : ByteArray)), (by first | rfl | (simp; done) | (simp [*]; done)), (by first | rfl | (simp; done) | (simp [*]; done)), H', ⟨by first | omega | exact Nat.le_refl _⟩, ⟨by (with_reducible repeat (first | refine blk_drewN ?_ _ | refine blk_drew ?_ | refine blk_alloc ?_ _)); exact BK195.out⟩, ⟨by repeat (first | (with_reducible first | exact HB.out | apply below_alloc | apply pw_below_drewN | apply below_drew1 | refine below_set ?_ GE195.out) | exact HB.out)⟩⟩
                          case rest =>
                            clear HC36
                            try clear c1
                            try clear c2
                            try clear p2
                            try clear c3
                            try clear c4
                            try clear c5
                            try clear p6
                            try clear c13
                            try clear c13b0
                            try clear c13b1
                            try clear c13b2
                            try clear c15
                            try clear c15b0
                            try clear c15b1
                            try clear c15b2
                            try clear c25
                            try clear c28
                            try clear c28b0
                            try clear c28b1
                            try clear c30
                            try clear c30b0
                            try clear c30b1
                            try clear c30b2
                            try clear c32
                            try clear c32b0
                            try clear c32b1
                            try clear c32b2
                            try clear c33
                            try clear c33b0
                            try clear c33b1
                            try clear c33b2
                            try clear c35
                            try clear c35b0
                            try clear c35b1
                            try clear c35b2
                            try clear c42
                            try clear c42b0
                            try clear hcz19_0
                            try clear hcz19_1
                            try clear hcz19_2
                            try clear hcz19_3
                            try clear hcz19_4
                            try clear hcz19_5
                            try clear hcz19_6
                            try clear hcz41_0
                            try clear hcz41_1
                            try clear hcz41_2
                            try clear hcz41_3
                            try clear hcz41_4
                            try clear hcz41_5
                            try clear hcz41_6
                            try clear hfz19_0
                            try clear hfz19_1
                            try clear hfz19_2
                            try clear hfz19_3
                            try clear hfz19_4
                            try clear hfz19_5
                            try clear hfz19_6
                            try clear hfz41_0
                            try clear hfz41_1
                            try clear hfz41_2
                            try clear hfz41_3
                            try clear hfz41_4
                            try clear hfz41_5
                            try clear hfz41_6
                            obtain ⟨kq, x11_35, x12_35, rfl, rfl, HA, HJ35, BK195, HB⟩ := hcut
                            cases kq with
                            | zero => exact absurd HA.out (by simp [polyglotlaw13_Format.j0])
                            | succ kj35 =>
                              have H := HA.out
                              clear HA
                              simp only [polyglotlaw13_Format.j0] at H
                              by_cases c43 : x11_35 = 0
                              · rw [if_pos c43] at H
                                have c43b0 : (x11_35 == 0) = true := beq_iff_eq.mpr c43
                                have c43b1 : (x11_35 != 0) = false := bne_eq_false_iff_eq.mpr c43
                                clear c43
                                replace H := Option.bind_eq_some_iff.mp H
                                obtain ⟨t214, A440, H⟩ := H
                                replace H : (if t214.size + 1 ≤ 9223372036854775807 then ((some (t214 ++ (⟨#[58]⟩ : ByteArray) : ByteArray)).bind fun y215 => ((polyglotlaw13_two.f t192).bind fun t216 => (if y215.size + t216.size ≤ 9223372036854775807 then ((some (y215 ++ t216 : ByteArray)).bind fun y217 => (if y217.size + x12_35.size ≤ 9223372036854775807 then ((some (y217 ++ x12_35 : ByteArray)).bind fun y218 => (polyglotlaw13_Format.j3 kj35 a2 y213 y218 (⟨#[44, 32]⟩ : ByteArray))) else (none))) else (none)))) else (none)) = some r := H
                                have A44 := Aside0.mk A440
                                clear A440
                                by_cases c45 : t214.size + 1 ≤ 9223372036854775807
                                · rw [if_pos c45] at H
                                  have c45b0 := eq_true c45
                                  have c45b1 : decide (t214.size + 1 ≤ 9223372036854775807) = true := decide_eq_true c45
                                  try have c45b2 : (9223372036854775807 < t214.size + 1) = False := eq_false (Nat.not_lt.2 c45)
                                  replace H := Option.bind_eq_some_iff.mp H
                                  obtain ⟨y215, hy2150, H⟩ := H
                                  replace H : ((polyglotlaw13_two.f t192).bind fun t216 => (if y215.size + t216.size ≤ 9223372036854775807 then ((some (y215 ++ t216 : ByteArray)).bind fun y217 => (if y217.size + x12_35.size ≤ 9223372036854775807 then ((some (y217 ++ x12_35 : ByteArray)).bind fun y218 => (polyglotlaw13_Format.j3 kj35 a2 y213 y218 (⟨#[44, 32]⟩ : ByteArray))) else (none))) else (none))) = some r := H
                                  have hy215 : t214 ++ (⟨#[58]⟩ : ByteArray) = y215 := Option.some.inj hy2150
                                  clear hy2150
                                  replace H := Option.bind_eq_some_iff.mp H
                                  obtain ⟨t216, A460, H⟩ := H
                                  replace H : (if y215.size + t216.size ≤ 9223372036854775807 then ((some (y215 ++ t216 : ByteArray)).bind fun y217 => (if y217.size + x12_35.size ≤ 9223372036854775807 then ((some (y217 ++ x12_35 : ByteArray)).bind fun y218 => (polyglotlaw13_Format.j3 kj35 a2 y213 y218 (⟨#[44, 32]⟩ : ByteArray))) else (none))) else (none)) = some r := H
                                  have A46 := Aside0.mk A460
                                  clear A460
                                  by_cases c47 : y215.size + t216.size ≤ 9223372036854775807
                                  · rw [if_pos c47] at H
                                    have c47b0 := eq_true c47
                                    have c47b1 : decide (y215.size + t216.size ≤ 9223372036854775807) = true := decide_eq_true c47
                                    try have c47b2 : (9223372036854775807 < y215.size + t216.size) = False := eq_false (Nat.not_lt.2 c47)
                                    replace H := Option.bind_eq_some_iff.mp H
                                    obtain ⟨y217, hy2170, H⟩ := H
                                    replace H : (if y217.size + x12_35.size ≤ 9223372036854775807 then ((some (y217 ++ x12_35 : ByteArray)).bind fun y218 => (polyglotlaw13_Format.j3 kj35 a2 y213 y218 (⟨#[44, 32]⟩ : ByteArray))) else (none)) = some r := H
                                    have hy217 : y215 ++ t216 = y217 := Option.some.inj hy2170
                                    clear hy2170
                                    by_cases c48 : y217.size + x12_35.size ≤ 9223372036854775807
                                    · rw [if_pos c48] at H
                                      have c48b0 := eq_true c48
                                      have c48b1 : decide (y217.size + x12_35.size ≤ 9223372036854775807) = true := decide_eq_true c48
                                      try have c48b2 : (9223372036854775807 < y217.size + x12_35.size) = False := eq_false (Nat.not_lt.2 c48)
                                      replace H := Option.bind_eq_some_iff.mp H
                                      obtain ⟨y218, hy2180, H⟩ := H
                                      replace H : (polyglotlaw13_Format.j3 kj35 a2 y213 y218 (⟨#[44, 32]⟩ : ByteArray)) = some r := H
                                      have hy218 : y217 ++ x12_35 = y218 := Option.some.inj hy2180
                                      clear hy2180
                                      have H' := Aside0.mk H
                                      clear H
                                      try go_wp2
                                      have n0_ := Aside0.mk (blk_drew BK195.out)
                                      have n1_ := Aside0.mk (below_drew1 HB.out)
                                      clear BK195
                                      clear HB
                                      have BK195 := n0_
                                      have HB := n1_
                                      clear n0_ n1_
                                      refine start_ (n := 10) (S := fun w' => w'.cell? ⟨gb195, 0, none⟩ = some (.int .i64 t188) ∧ w'.cell? ⟨gb195, 1, none⟩ = some (.int .i64 t189) ∧ w'.cell? ⟨gb195, 2, none⟩ = some (.int .i64 t190) ∧ w'.cell? ⟨gb195, 3, none⟩ = some (.int .i64 t191) ∧ w'.cell? ⟨gb195, 4, none⟩ = some (.int .i64 t192) ∧ w'.cell? ⟨gb195, 5, none⟩ = some (.int .i64 t193) ∧ w'.cell? ⟨gb195, 6, none⟩ = some (.int .i64 t194)) (ds := []) #[false, false, false, false, false, false, false, false, false, false] (by kernel_rfl) rfl rfl ⟨(blk_cell BK195.out 0).trans rfl, (blk_cell BK195.out 1).trans rfl, (blk_cell BK195.out 2).trans rfl, (blk_cell BK195.out 3).trans rfl, (blk_cell BK195.out 4).trans rfl, (blk_cell BK195.out 5).trans rfl, (blk_cell BK195.out 6).trans rfl⟩ (fun hHeld => ?_); refine with_tabW polyglotlaw13_Format.tab15 polyglotlaw13_Format.bits15 (fun HT_ HW_ => ?_)
                                      generalize wc.drew = w49 at BK195 HB hHeld ⊢
                                      refine pure_ (i := 0) (N := some 60) (v := ?_) (a' := ?_) #[true, false, false, false, false, false, false, false, false, false] rfl rfl (any_of HT_.out (by kernel_rfl)) (fun _ _ _ h => h) (Or.inl ⟨by rfl, ?_⟩) ?_ ?_
                                      rotate_left
                                      · intro w'
                                        go_simp
                                        with_reducible rfl
                                      rotate_left
                                      · simp only [Act.put, List.setIfInBounds_toArray, List.set_cons_zero, List.set_cons_succ, i64_w, i32_w]
                                        rfl
                                      refine pure_ (i := 3) (N := some 63) (v := ?_) (a' := ?_) #[true, false, false, true, false, false, false, false, false, false] rfl rfl (any_of HT_.out (by kernel_rfl)) (fun _ _ _ h => h) (Or.inl ⟨by rfl, ?_⟩) ?_ ?_
                                      rotate_left
                                      · intro w'
                                        go_simp
                                        with_reducible rfl
                                      rotate_left
                                      · simp only [Act.put, List.setIfInBounds_toArray, List.set_cons_zero, List.set_cons_succ, i64_w, i32_w]
                                        rfl
                                      refine pure_ (i := 7) (N := some 67) (v := ?_) (a' := ?_) #[true, false, false, true, false, false, false, true, false, false] rfl rfl (any_of HT_.out (by kernel_rfl)) (fun _ _ _ h => h) (Or.inl ⟨by rfl, ?_⟩) ?_ ?_
                                      rotate_left
                                      · intro w'
                                        go_simp
                                        with_reducible rfl
                                      rotate_left
                                      · simp only [Act.put, List.setIfInBounds_toArray, List.set_cons_zero, List.set_cons_succ, i64_w, i32_w]
                                        rfl
                                      refine take_ (i := 4) (N := some 64) (v := ?_) (a' := ?_) #[true, false, false, true, true, false, false, true, false, false] rfl rfl (take_ofW HT_.out HW_.out (by kernel_rfl)) (fun _ _ _ h => h) (Or.inl ⟨by rfl, ?_⟩) hHeld ?_ ?_
                                      rotate_left
                                      · rintro w' ⟨s0, s1, s2, s3, s4, s5, s6⟩
                                        go_simp
                                        with_reducible rfl
                                      rotate_left
                                      · simp only [Act.put, List.setIfInBounds_toArray, List.set_cons_zero, List.set_cons_succ, i64_w, i32_w]
                                        rfl
                                      refine one_ (i := 1) (N := some 61) #[true, true, false, true, true, false, false, true, false, false] rfl rfl (one_of HT_.out (by kernel_rfl)) (by decide) (fun K hK => ?_)
                                      refine goes_ Tryd.func54 (by kernel_rfl) rfl #[.int .i64 12] (by rfl) rfl rfl (by (try simp only [List.map_toArray, List.map_cons, List.map_nil]); first | done | rfl | (simp only [List.length_drop, List.length_take]; rfl)) ?_
                                      with_reducible refine (strconv_Itoa.calls 12 t214 _ A44.out).mono ?_
                                      rintro e w50 ⟨rfl, hb⟩
                                      refine ⟨_, rfl, ?_⟩
                                      have n0_ := Aside0.mk (blk_below (g := gb195) (o := .cells #[.int .i64 t188, .int .i64 t189, .int .i64 t190, .int .i64 t191, .int .i64 t192, .int .i64 t193, .int .i64 t194] 66 (0, 0)) (by (with_reducible repeat (first | refine blk_drewN ?_ _ | refine blk_drew ?_ | refine blk_alloc ?_ _)); exact BK195.out) hb)
                                      have n1_ := Aside0.mk (below_step (by repeat (first | (with_reducible first | exact HB.out | apply below_alloc | apply pw_below_drewN | apply below_drew1 | refine below_set ?_ GE195.out) | exact HB.out)) hb)
                                      clear BK195
                                      clear HB
                                      have BK195 := n0_
                                      have HB := n1_
                                      clear n0_ n1_
                                      (try clear hb)
                                      (try clear hb2)
                                      (try clear hk)
                                      (try clear hi)
                                      refine hK.out _ _ ⟨(blk_cell BK195.out 0).trans rfl, (blk_cell BK195.out 1).trans rfl, (blk_cell BK195.out 2).trans rfl, (blk_cell BK195.out 3).trans rfl, (blk_cell BK195.out 4).trans rfl, (blk_cell BK195.out 5).trans rfl, (blk_cell BK195.out 6).trans rfl⟩ (fun hHeld => ?_)
                                      clear hK K
                                      refine norm_ (a' := ?_) ?_ ?_
                                      rotate_left
                                      · show Act.put _ (some 61) _ = _
                                        simp only [Act.put, List.setIfInBounds_toArray, List.set_cons_zero, List.set_cons_succ, i64_w, i32_w]
                                        rfl
                                      refine pure_ (i := 2) (N := some 62) (v := ?_) (a' := ?_) #[true, true, true, true, true, false, false, true, false, false] rfl rfl (any_of HT_.out (by kernel_rfl)) (fun _ _ _ h => h) (Or.inl ⟨by rfl, ?_⟩) ?_ ?_
                                      rotate_left
                                      · intro w'
                                        go_simp
                                        with_reducible rfl
                                      rotate_left
                                      · simp only [Act.put, List.setIfInBounds_toArray, List.set_cons_zero, List.set_cons_succ, i64_w, i32_w]
                                        rfl
                                      refine one_ (i := 5) (N := some 65) #[true, true, true, true, true, true, false, true, false, false] rfl rfl (one_of HT_.out (by kernel_rfl)) (by decide) (fun K hK => ?_)
                                      refine goes_ Tryd.func53 (by kernel_rfl) rfl #[.int .i64 t192] (by rfl) rfl rfl (by (try simp only [List.map_toArray, List.map_cons, List.map_nil]); first | done | rfl | (simp only [List.length_drop, List.length_take]; rfl)) ?_
                                      with_reducible refine (polyglotlaw13_two.calls t192 t216 _ A46.out).mono ?_
                                      rintro e w51 ⟨rfl, hb⟩
                                      refine ⟨_, rfl, ?_⟩
                                      have n0_ := Aside0.mk (blk_below (g := gb195) (o := .cells #[.int .i64 t188, .int .i64 t189, .int .i64 t190, .int .i64 t191, .int .i64 t192, .int .i64 t193, .int .i64 t194] 66 (0, 0)) (by (with_reducible repeat (first | refine blk_drewN ?_ _ | refine blk_drew ?_ | refine blk_alloc ?_ _)); exact BK195.out) hb)
                                      have n1_ := Aside0.mk (below_step (by repeat (first | (with_reducible first | exact HB.out | apply below_alloc | apply pw_below_drewN | apply below_drew1 | refine below_set ?_ GE195.out) | exact HB.out)) hb)
                                      clear BK195
                                      clear HB
                                      have BK195 := n0_
                                      have HB := n1_
                                      clear n0_ n1_
                                      (try clear hb)
                                      (try clear hb2)
                                      (try clear hk)
                                      (try clear hi)
                                      refine hK.out _ _ ⟨(blk_cell BK195.out 0).trans rfl, (blk_cell BK195.out 1).trans rfl, (blk_cell BK195.out 2).trans rfl, (blk_cell BK195.out 3).trans rfl, (blk_cell BK195.out 4).trans rfl, (blk_cell BK195.out 5).trans rfl, (blk_cell BK195.out 6).trans rfl⟩ (fun hHeld => ?_)
                                      clear hK K
                                      refine norm_ (a' := ?_) ?_ ?_
                                      rotate_left
                                      · show Act.put _ (some 65) _ = _
                                        simp only [Act.put, List.setIfInBounds_toArray, List.set_cons_zero, List.set_cons_succ, i64_w, i32_w]
                                        rfl
                                      refine pure_ (i := 6) (N := some 66) (v := ?_) (a' := ?_) #[true, true, true, true, true, true, true, true, false, false] rfl rfl (any_of HT_.out (by kernel_rfl)) (fun _ _ _ h => h) (Or.inl ⟨by rfl, ?_⟩) ?_ ?_
                                      rotate_left
                                      · intro w'
                                        go_simp
                                        with_reducible rfl
                                      rotate_left
                                      · simp only [Act.put, List.setIfInBounds_toArray, List.set_cons_zero, List.set_cons_succ, i64_w, i32_w]
                                        rfl
                                      refine pure_ (i := 8) (N := some 68) (v := ?_) (a' := ?_) #[true, true, true, true, true, true, true, true, true, false] rfl rfl (any_of HT_.out (by kernel_rfl)) (fun _ _ _ h => h) (Or.inl ⟨by rfl, ?_⟩) ?_ ?_
                                      rotate_left
                                      · intro w'
                                        go_simp
                                        with_reducible rfl
                                      rotate_left
                                      · simp only [Act.put, List.setIfInBounds_toArray, List.set_cons_zero, List.set_cons_succ, i64_w, i32_w]
                                        rfl
                                      refine pure_ (i := 9) (N := some 9) (v := ?_) (a' := ?_) #[true, true, true, true, true, true, true, true, true, true] rfl rfl (any_of HT_.out (by kernel_rfl)) (fun _ _ _ h => h) (Or.inl ⟨by rfl, ?_⟩) ?_ ?_
                                      rotate_left
                                      · intro w'
                                        go_simp
                                        with_reducible rfl
                                      rotate_left
                                      · simp only [Act.put, List.setIfInBounds_toArray, List.set_cons_zero, List.set_cons_succ, i64_w, i32_w]
                                        rfl
                                      refine done_ (done_of HT_.out (by kernel_rfl)) ?_
                                      try go_wp2
                                      go_meet
                                      case rel => exact ⟨_, (y213), (y218), ((⟨#[44, 32]⟩ : ByteArray)), (by first | rfl | (simp; done) | (simp [*]; done)), (by first | rfl | (simp; done) | (simp [*]; done)), (by first | rfl | (simp; done) | (simp [*]; done)), H', ⟨by have := HJ35.out; first | omega | exact Nat.le_refl _⟩, ⟨by (with_reducible repeat (first | refine blk_drewN ?_ _ | refine blk_drew ?_ | refine blk_alloc ?_ _)); exact BK195.out⟩, ⟨by repeat (first | (with_reducible first | exact HB.out | apply below_alloc | apply pw_below_drewN | apply below_drew1 | refine below_set ?_ GE195.out) | exact HB.out)⟩⟩
                                    · rw [if_neg c48] at H
                                      exact absurd H (by simp)
                                  · rw [if_neg c47] at H
                                    exact absurd H (by simp)
                                · rw [if_neg c45] at H
                                  exact absurd H (by simp)
                              · rw [if_neg c43] at H
                                have c43b0 : (x11_35 == 0) = false := beq_eq_false_iff_ne.mpr c43
                                have c43b1 : (x11_35 != 0) = true := bne_iff_ne.mpr c43
                                replace H := Option.bind_eq_some_iff.mp H
                                obtain ⟨t219, A520, H⟩ := H
                                replace H : (if t219.size + 1 ≤ 9223372036854775807 then ((some (t219 ++ (⟨#[58]⟩ : ByteArray) : ByteArray)).bind fun y220 => ((polyglotlaw13_two.f t192).bind fun t221 => (if y220.size + t221.size ≤ 9223372036854775807 then ((some (y220 ++ t221 : ByteArray)).bind fun y222 => (if y222.size + x12_35.size ≤ 9223372036854775807 then ((some (y222 ++ x12_35 : ByteArray)).bind fun y223 => (polyglotlaw13_Format.j3 kj35 a2 y213 y223 (⟨#[44, 32]⟩ : ByteArray))) else (none))) else (none)))) else (none)) = some r := H
                                have A52 := Aside0.mk A520
                                clear A520
                                by_cases c53 : t219.size + 1 ≤ 9223372036854775807
                                · rw [if_pos c53] at H
                                  have c53b0 := eq_true c53
                                  have c53b1 : decide (t219.size + 1 ≤ 9223372036854775807) = true := decide_eq_true c53
                                  try have c53b2 : (9223372036854775807 < t219.size + 1) = False := eq_false (Nat.not_lt.2 c53)
                                  replace H := Option.bind_eq_some_iff.mp H
                                  obtain ⟨y220, hy2200, H⟩ := H
                                  replace H : ((polyglotlaw13_two.f t192).bind fun t221 => (if y220.size + t221.size ≤ 9223372036854775807 then ((some (y220 ++ t221 : ByteArray)).bind fun y222 => (if y222.size + x12_35.size ≤ 9223372036854775807 then ((some (y222 ++ x12_35 : ByteArray)).bind fun y223 => (polyglotlaw13_Format.j3 kj35 a2 y213 y223 (⟨#[44, 32]⟩ : ByteArray))) else (none))) else (none))) = some r := H
                                  have hy220 : t219 ++ (⟨#[58]⟩ : ByteArray) = y220 := Option.some.inj hy2200
                                  clear hy2200
                                  replace H := Option.bind_eq_some_iff.mp H
                                  obtain ⟨t221, A540, H⟩ := H
                                  replace H : (if y220.size + t221.size ≤ 9223372036854775807 then ((some (y220 ++ t221 : ByteArray)).bind fun y222 => (if y222.size + x12_35.size ≤ 9223372036854775807 then ((some (y222 ++ x12_35 : ByteArray)).bind fun y223 => (polyglotlaw13_Format.j3 kj35 a2 y213 y223 (⟨#[44, 32]⟩ : ByteArray))) else (none))) else (none)) = some r := H
                                  have A54 := Aside0.mk A540
                                  clear A540
                                  by_cases c55 : y220.size + t221.size ≤ 9223372036854775807
                                  · rw [if_pos c55] at H
                                    have c55b0 := eq_true c55
                                    have c55b1 : decide (y220.size + t221.size ≤ 9223372036854775807) = true := decide_eq_true c55
                                    try have c55b2 : (9223372036854775807 < y220.size + t221.size) = False := eq_false (Nat.not_lt.2 c55)
                                    replace H := Option.bind_eq_some_iff.mp H
                                    obtain ⟨y222, hy2220, H⟩ := H
                                    replace H : (if y222.size + x12_35.size ≤ 9223372036854775807 then ((some (y222 ++ x12_35 : ByteArray)).bind fun y223 => (polyglotlaw13_Format.j3 kj35 a2 y213 y223 (⟨#[44, 32]⟩ : ByteArray))) else (none)) = some r := H
                                    have hy222 : y220 ++ t221 = y222 := Option.some.inj hy2220
                                    clear hy2220
                                    by_cases c56 : y222.size + x12_35.size ≤ 9223372036854775807
                                    · rw [if_pos c56] at H
                                      have c56b0 := eq_true c56
                                      have c56b1 : decide (y222.size + x12_35.size ≤ 9223372036854775807) = true := decide_eq_true c56
                                      try have c56b2 : (9223372036854775807 < y222.size + x12_35.size) = False := eq_false (Nat.not_lt.2 c56)
                                      replace H := Option.bind_eq_some_iff.mp H
                                      obtain ⟨y223, hy2230, H⟩ := H
                                      replace H : (polyglotlaw13_Format.j3 kj35 a2 y213 y223 (⟨#[44, 32]⟩ : ByteArray)) = some r := H
                                      have hy223 : y222 ++ x12_35 = y223 := Option.some.inj hy2230
                                      clear hy2230
                                      have H' := Aside0.mk H
                                      clear H
                                      try go_wp2
                                      have n0_ := Aside0.mk (blk_drew BK195.out)
                                      have n1_ := Aside0.mk (below_drew1 HB.out)
                                      clear BK195
                                      clear HB
                                      have BK195 := n0_
                                      have HB := n1_
                                      clear n0_ n1_
                                      refine start_ (n := 10) (S := fun w' => w'.cell? ⟨gb195, 0, none⟩ = some (.int .i64 t188) ∧ w'.cell? ⟨gb195, 1, none⟩ = some (.int .i64 t189) ∧ w'.cell? ⟨gb195, 2, none⟩ = some (.int .i64 t190) ∧ w'.cell? ⟨gb195, 3, none⟩ = some (.int .i64 t191) ∧ w'.cell? ⟨gb195, 4, none⟩ = some (.int .i64 t192) ∧ w'.cell? ⟨gb195, 5, none⟩ = some (.int .i64 t193) ∧ w'.cell? ⟨gb195, 6, none⟩ = some (.int .i64 t194)) (ds := []) #[false, false, false, false, false, false, false, false, false, false] (by kernel_rfl) rfl rfl ⟨(blk_cell BK195.out 0).trans rfl, (blk_cell BK195.out 1).trans rfl, (blk_cell BK195.out 2).trans rfl, (blk_cell BK195.out 3).trans rfl, (blk_cell BK195.out 4).trans rfl, (blk_cell BK195.out 5).trans rfl, (blk_cell BK195.out 6).trans rfl⟩ (fun hHeld => ?_); refine with_tabW polyglotlaw13_Format.tab15 polyglotlaw13_Format.bits15 (fun HT_ HW_ => ?_)
                                      generalize wc.drew = w57 at BK195 HB hHeld ⊢
                                      refine pure_ (i := 0) (N := some 60) (v := ?_) (a' := ?_) #[true, false, false, false, false, false, false, false, false, false] rfl rfl (any_of HT_.out (by kernel_rfl)) (fun _ _ _ h => h) (Or.inl ⟨by rfl, ?_⟩) ?_ ?_
                                      rotate_left
                                      · intro w'
                                        go_simp
                                        with_reducible rfl
                                      rotate_left
                                      · simp only [Act.put, List.setIfInBounds_toArray, List.set_cons_zero, List.set_cons_succ, i64_w, i32_w]
                                        rfl
                                      refine pure_ (i := 3) (N := some 63) (v := ?_) (a' := ?_) #[true, false, false, true, false, false, false, false, false, false] rfl rfl (any_of HT_.out (by kernel_rfl)) (fun _ _ _ h => h) (Or.inl ⟨by rfl, ?_⟩) ?_ ?_
                                      rotate_left
                                      · intro w'
                                        go_simp
                                        with_reducible rfl
                                      rotate_left
                                      · simp only [Act.put, List.setIfInBounds_toArray, List.set_cons_zero, List.set_cons_succ, i64_w, i32_w]
                                        rfl
                                      refine pure_ (i := 7) (N := some 67) (v := ?_) (a' := ?_) #[true, false, false, true, false, false, false, true, false, false] rfl rfl (any_of HT_.out (by kernel_rfl)) (fun _ _ _ h => h) (Or.inl ⟨by rfl, ?_⟩) ?_ ?_
                                      rotate_left
                                      · intro w'
                                        go_simp
                                        with_reducible rfl
                                      rotate_left
                                      · simp only [Act.put, List.setIfInBounds_toArray, List.set_cons_zero, List.set_cons_succ, i64_w, i32_w]
                                        rfl
                                      refine take_ (i := 4) (N := some 64) (v := ?_) (a' := ?_) #[true, false, false, true, true, false, false, true, false, false] rfl rfl (take_ofW HT_.out HW_.out (by kernel_rfl)) (fun _ _ _ h => h) (Or.inl ⟨by rfl, ?_⟩) hHeld ?_ ?_
                                      rotate_left
                                      · rintro w' ⟨s0, s1, s2, s3, s4, s5, s6⟩
                                        go_simp
                                        with_reducible rfl
                                      rotate_left
                                      · simp only [Act.put, List.setIfInBounds_toArray, List.set_cons_zero, List.set_cons_succ, i64_w, i32_w]
                                        rfl
                                      refine one_ (i := 1) (N := some 61) #[true, true, false, true, true, false, false, true, false, false] rfl rfl (one_of HT_.out (by kernel_rfl)) (by decide) (fun K hK => ?_)
                                      refine goes_ Tryd.func54 (by kernel_rfl) rfl #[.int .i64 x11_35] (by rfl) rfl rfl (by (try simp only [List.map_toArray, List.map_cons, List.map_nil]); first | done | rfl | (simp only [List.length_drop, List.length_take]; rfl)) ?_
                                      with_reducible refine (strconv_Itoa.calls x11_35 t219 _ A52.out).mono ?_
                                      rintro e w58 ⟨rfl, hb⟩
                                      refine ⟨_, rfl, ?_⟩
                                      have n0_ := Aside0.mk (blk_below (g := gb195) (o := .cells #[.int .i64 t188, .int .i64 t189, .int .i64 t190, .int .i64 t191, .int .i64 t192, .int .i64 t193, .int .i64 t194] 66 (0, 0)) (by (with_reducible repeat (first | refine blk_drewN ?_ _ | refine blk_drew ?_ | refine blk_alloc ?_ _)); exact BK195.out) hb)
                                      have n1_ := Aside0.mk (below_step (by repeat (first | (with_reducible first | exact HB.out | apply below_alloc | apply pw_below_drewN | apply below_drew1 | refine below_set ?_ GE195.out) | exact HB.out)) hb)
                                      clear BK195
                                      clear HB
                                      have BK195 := n0_
                                      have HB := n1_
                                      clear n0_ n1_
                                      (try clear hb)
                                      (try clear hb2)
                                      (try clear hk)
                                      (try clear hi)
                                      refine hK.out _ _ ⟨(blk_cell BK195.out 0).trans rfl, (blk_cell BK195.out 1).trans rfl, (blk_cell BK195.out 2).trans rfl, (blk_cell BK195.out 3).trans rfl, (blk_cell BK195.out 4).trans rfl, (blk_cell BK195.out 5).trans rfl, (blk_cell BK195.out 6).trans rfl⟩ (fun hHeld => ?_)
                                      clear hK K
                                      refine norm_ (a' := ?_) ?_ ?_
                                      rotate_left
                                      · show Act.put _ (some 61) _ = _
                                        simp only [Act.put, List.setIfInBounds_toArray, List.set_cons_zero, List.set_cons_succ, i64_w, i32_w]
                                        rfl
                                      refine pure_ (i := 2) (N := some 62) (v := ?_) (a' := ?_) #[true, true, true, true, true, false, false, true, false, false] rfl rfl (any_of HT_.out (by kernel_rfl)) (fun _ _ _ h => h) (Or.inl ⟨by rfl, ?_⟩) ?_ ?_
                                      rotate_left
                                      · intro w'
                                        go_simp
                                        with_reducible rfl
                                      rotate_left
                                      · simp only [Act.put, List.setIfInBounds_toArray, List.set_cons_zero, List.set_cons_succ, i64_w, i32_w]
                                        rfl
                                      refine one_ (i := 5) (N := some 65) #[true, true, true, true, true, true, false, true, false, false] rfl rfl (one_of HT_.out (by kernel_rfl)) (by decide) (fun K hK => ?_)
                                      refine goes_ Tryd.func53 (by kernel_rfl) rfl #[.int .i64 t192] (by rfl) rfl rfl (by (try simp only [List.map_toArray, List.map_cons, List.map_nil]); first | done | rfl | (simp only [List.length_drop, List.length_take]; rfl)) ?_
                                      with_reducible refine (polyglotlaw13_two.calls t192 t221 _ A54.out).mono ?_
                                      rintro e w59 ⟨rfl, hb⟩
                                      refine ⟨_, rfl, ?_⟩
                                      have n0_ := Aside0.mk (blk_below (g := gb195) (o := .cells #[.int .i64 t188, .int .i64 t189, .int .i64 t190, .int .i64 t191, .int .i64 t192, .int .i64 t193, .int .i64 t194] 66 (0, 0)) (by (with_reducible repeat (first | refine blk_drewN ?_ _ | refine blk_drew ?_ | refine blk_alloc ?_ _)); exact BK195.out) hb)
                                      have n1_ := Aside0.mk (below_step (by repeat (first | (with_reducible first | exact HB.out | apply below_alloc | apply pw_below_drewN | apply below_drew1 | refine below_set ?_ GE195.out) | exact HB.out)) hb)
                                      clear BK195
                                      clear HB
                                      have BK195 := n0_
                                      have HB := n1_
                                      clear n0_ n1_
                                      (try clear hb)
                                      (try clear hb2)
                                      (try clear hk)
                                      (try clear hi)
                                      refine hK.out _ _ ⟨(blk_cell BK195.out 0).trans rfl, (blk_cell BK195.out 1).trans rfl, (blk_cell BK195.out 2).trans rfl, (blk_cell BK195.out 3).trans rfl, (blk_cell BK195.out 4).trans rfl, (blk_cell BK195.out 5).trans rfl, (blk_cell BK195.out 6).trans rfl⟩ (fun hHeld => ?_)
                                      clear hK K
                                      refine norm_ (a' := ?_) ?_ ?_
                                      rotate_left
                                      · show Act.put _ (some 65) _ = _
                                        simp only [Act.put, List.setIfInBounds_toArray, List.set_cons_zero, List.set_cons_succ, i64_w, i32_w]
                                        rfl
                                      refine pure_ (i := 6) (N := some 66) (v := ?_) (a' := ?_) #[true, true, true, true, true, true, true, true, false, false] rfl rfl (any_of HT_.out (by kernel_rfl)) (fun _ _ _ h => h) (Or.inl ⟨by rfl, ?_⟩) ?_ ?_
                                      rotate_left
                                      · intro w'
                                        go_simp
                                        with_reducible rfl
                                      rotate_left
                                      · simp only [Act.put, List.setIfInBounds_toArray, List.set_cons_zero, List.set_cons_succ, i64_w, i32_w]
                                        rfl
                                      refine pure_ (i := 8) (N := some 68) (v := ?_) (a' := ?_) #[true, true, true, true, true, true, true, true, true, false] rfl rfl (any_of HT_.out (by kernel_rfl)) (fun _ _ _ h => h) (Or.inl ⟨by rfl, ?_⟩) ?_ ?_
                                      rotate_left
                                      · intro w'
                                        go_simp
                                        with_reducible rfl
                                      rotate_left
                                      · simp only [Act.put, List.setIfInBounds_toArray, List.set_cons_zero, List.set_cons_succ, i64_w, i32_w]
                                        rfl
                                      refine pure_ (i := 9) (N := some 9) (v := ?_) (a' := ?_) #[true, true, true, true, true, true, true, true, true, true] rfl rfl (any_of HT_.out (by kernel_rfl)) (fun _ _ _ h => h) (Or.inl ⟨by rfl, ?_⟩) ?_ ?_
                                      rotate_left
                                      · intro w'
                                        go_simp
                                        with_reducible rfl
                                      rotate_left
                                      · simp only [Act.put, List.setIfInBounds_toArray, List.set_cons_zero, List.set_cons_succ, i64_w, i32_w]
                                        rfl
                                      refine done_ (done_of HT_.out (by kernel_rfl)) ?_
                                      try go_wp2
                                      go_meet
                                      case rel => exact ⟨_, (y213), (y223), ((⟨#[44, 32]⟩ : ByteArray)), (by first | rfl | (simp; done) | (simp [*]; done)), (by first | rfl | (simp; done) | (simp [*]; done)), (by first | rfl | (simp; done) | (simp [*]; done)), H', ⟨by have := HJ35.out; first | omega | exact Nat.le_refl _⟩, ⟨by (with_reducible repeat (first | refine blk_drewN ?_ _ | refine blk_drew ?_ | refine blk_alloc ?_ _)); exact BK195.out⟩, ⟨by repeat (first | (with_reducible first | exact HB.out | apply below_alloc | apply pw_below_drewN | apply below_drew1 | refine below_set ?_ GE195.out) | exact HB.out)⟩⟩
                                    · rw [if_neg c56] at H
                                      exact absurd H (by simp)
                                  · rw [if_neg c55] at H
                                    exact absurd H (by simp)
                                · rw [if_neg c53] at H
                                  exact absurd H (by simp)
                        · rw [if_neg c35] at H
                          exact absurd H (by simp)
                      · rw [if_neg c33] at H
                        exact absurd H (by simp)
                    · rw [if_neg c32] at H
                      exact absurd H (by simp)
                  · rw [if_neg c30] at H
                    exact absurd H (by simp)
                · rw [if_neg c28] at H
                  have c28b0 : (a0.toList == ([101, 110] : List UInt8)) = false := beq_eq_false_iff_ne.mpr c28
                  have c28b1 : (a0.toList != ([101, 110] : List UInt8)) = true := bne_iff_ne.mpr c28
                  (first | rw [c28b0] | (simp only [i64_w, i32_w]; rw [c28b0]) | skip)
                  have HC60 := Aside0.mk H
                  clear H
                  go_upto_if 69 with (fail)
                  go_cut [69] (fun v69 wc => ∃ (kq : Nat) (x69_59 : Bool), v69 = .bool x69_59 ∧ Aside0 (polyglotlaw13_Format.j1 kq a2 y202 y206 (⟨#[32]⟩ : ByteArray) a0 x69_59 t188 t189 t190 t191 t192 t193 t194 = some r) ∧ Aside0 (kq ≤ k) ∧ Aside0 (wc.heap[gb195]? = some (.cells #[.int .i64 t188, .int .i64 t189, .int .i64 t190, .int .i64 t191, .int .i64 t192, .int .i64 t193, .int .i64 t194] 66 (0, 0))) ∧ Aside0 (Below w.heap.size w wc))
                  case first =>
                    have H := HC60.out
                    clear HC60
                    by_cases c61 : a0.toList = ([100, 101] : List UInt8)
                    · rw [if_pos c61] at H
                      have c61b0 : (a0.toList == ([100, 101] : List UInt8)) = true := beq_iff_eq.mpr c61
                      have c61b1 : (a0.toList != ([100, 101] : List UInt8)) = false := bne_eq_false_iff_eq.mpr c61
                      clear c61
                      (first | rw [c61b0] | (simp only [i64_w, i32_w]; rw [c61b0]) | skip)
                      have H' := Aside0.mk H
                      clear H
                      go_wp2
                      go_meet
                      case rel => exact ⟨_, ((a0.toList == ([100, 101] : List UInt8))), (by first | rfl | (simp; done) | (simp [*]; done)), H', ⟨by first | omega | exact Nat.le_refl _⟩, ⟨by (with_reducible repeat (first | refine blk_drewN ?_ _ | refine blk_drew ?_ | refine blk_alloc ?_ _)); exact BK195.out⟩, ⟨by repeat (first | (with_reducible first | exact HB.out | apply below_alloc | apply pw_below_drewN | apply below_drew1 | refine below_set ?_ GE195.out) | exact HB.out)⟩⟩
                    · rw [if_neg c61] at H
                      have c61b0 : (a0.toList == ([100, 101] : List UInt8)) = false := beq_eq_false_iff_ne.mpr c61
                      have c61b1 : (a0.toList != ([100, 101] : List UInt8)) = true := bne_iff_ne.mpr c61
                      (first | rw [c61b0] | (simp only [i64_w, i32_w]; rw [c61b0]) | skip)
                      by_cases c62 : a0.toList = ([99, 115] : List UInt8)
                      · rw [if_pos c62] at H
                        have c62b0 : (a0.toList == ([99, 115] : List UInt8)) = true := beq_iff_eq.mpr c62
                        have c62b1 : (a0.toList != ([99, 115] : List UInt8)) = false := bne_eq_false_iff_eq.mpr c62
                        clear c62
                        have H' := Aside0.mk H
                        clear H
                        go_wp2
                        go_meet
                        case rel => exact ⟨_, ((a0.toList == ([99, 115] : List UInt8))), (by first | rfl | (simp; done) | (simp [*]; done)), H', ⟨by first | omega | exact Nat.le_refl _⟩, ⟨by (with_reducible repeat (first | refine blk_drewN ?_ _ | refine blk_drew ?_ | refine blk_alloc ?_ _)); exact BK195.out⟩, ⟨by repeat (first | (with_reducible first | exact HB.out | apply below_alloc | apply pw_below_drewN | apply below_drew1 | refine below_set ?_ GE195.out) | exact HB.out)⟩⟩
                      · rw [if_neg c62] at H
                        have c62b0 : (a0.toList == ([99, 115] : List UInt8)) = false := beq_eq_false_iff_ne.mpr c62
                        have c62b1 : (a0.toList != ([99, 115] : List UInt8)) = true := bne_iff_ne.mpr c62
                        by_cases c63 : a0.toList = ([112, 108] : List UInt8)
                        · rw [if_pos c63] at H
                          have c63b0 : (a0.toList == ([112, 108] : List UInt8)) = true := beq_iff_eq.mpr c63
                          have c63b1 : (a0.toList != ([112, 108] : List UInt8)) = false := bne_eq_false_iff_eq.mpr c63
                          clear c63
                          have H' := Aside0.mk H
                          clear H
                          go_wp2
                          go_meet
                          case rel => exact ⟨_, ((a0.toList == ([112, 108] : List UInt8))), (by first | rfl | (simp; done) | (simp [*]; done)), H', ⟨by first | omega | exact Nat.le_refl _⟩, ⟨by (with_reducible repeat (first | refine blk_drewN ?_ _ | refine blk_drew ?_ | refine blk_alloc ?_ _)); exact BK195.out⟩, ⟨by repeat (first | (with_reducible first | exact HB.out | apply below_alloc | apply pw_below_drewN | apply below_drew1 | refine below_set ?_ GE195.out) | exact HB.out)⟩⟩
                        · rw [if_neg c63] at H
                          have c63b0 : (a0.toList == ([112, 108] : List UInt8)) = false := beq_eq_false_iff_ne.mpr c63
                          have c63b1 : (a0.toList != ([112, 108] : List UInt8)) = true := bne_iff_ne.mpr c63
                          have H' := Aside0.mk H
                          clear H
                          go_wp2
                          go_meet
                          case rel => exact ⟨_, ((a0.toList == ([114, 117] : List UInt8))), (by first | rfl | (simp; done) | (simp [*]; done)), H', ⟨by first | omega | exact Nat.le_refl _⟩, ⟨by (with_reducible repeat (first | refine blk_drewN ?_ _ | refine blk_drew ?_ | refine blk_alloc ?_ _)); exact BK195.out⟩, ⟨by repeat (first | (with_reducible first | exact HB.out | apply below_alloc | apply pw_below_drewN | apply below_drew1 | refine below_set ?_ GE195.out) | exact HB.out)⟩⟩
                  case rest =>
                    clear HC60
                    try clear c1
                    try clear c2
                    try clear p2
                    try clear c3
                    try clear c4
                    try clear c5
                    try clear c6
                    try clear p6
                    try clear c13
                    try clear c13b0
                    try clear c13b1
                    try clear c13b2
                    try clear c15
                    try clear c15b0
                    try clear c15b1
                    try clear c15b2
                    try clear c25
                    try clear c28
                    try clear c28b0
                    try clear c28b1
                    try clear c30
                    try clear c30b0
                    try clear c30b1
                    try clear c30b2
                    try clear c32
                    try clear c32b0
                    try clear c32b1
                    try clear c32b2
                    try clear c33
                    try clear c33b0
                    try clear c33b1
                    try clear c33b2
                    try clear c35
                    try clear c35b0
                    try clear c35b1
                    try clear c35b2
                    try clear c42
                    try clear c42b0
                    try clear c43
                    try clear c43b0
                    try clear c43b1
                    try clear c45
                    try clear c45b0
                    try clear c45b1
                    try clear c45b2
                    try clear c47
                    try clear c47b0
                    try clear c47b1
                    try clear c47b2
                    try clear c48
                    try clear c48b0
                    try clear c48b1
                    try clear c48b2
                    try clear c52
                    try clear c53
                    try clear c53b0
                    try clear c53b1
                    try clear c53b2
                    try clear c54
                    try clear c55
                    try clear c55b0
                    try clear c55b1
                    try clear c55b2
                    try clear c56
                    try clear c56b0
                    try clear c56b1
                    try clear c56b2
                    try clear c61
                    try clear c61b0
                    try clear c61b1
                    try clear c62
                    try clear c62b0
                    try clear c62b1
                    try clear c63
                    try clear c63b0
                    try clear c63b1
                    try clear hcz19_0
                    try clear hcz19_1
                    try clear hcz19_2
                    try clear hcz19_3
                    try clear hcz19_4
                    try clear hcz19_5
                    try clear hcz19_6
                    try clear hcz41_0
                    try clear hcz41_1
                    try clear hcz41_2
                    try clear hcz41_3
                    try clear hcz41_4
                    try clear hcz41_5
                    try clear hcz41_6
                    try clear hfz19_0
                    try clear hfz19_1
                    try clear hfz19_2
                    try clear hfz19_3
                    try clear hfz19_4
                    try clear hfz19_5
                    try clear hfz19_6
                    try clear hfz41_0
                    try clear hfz41_1
                    try clear hfz41_2
                    try clear hfz41_3
                    try clear hfz41_4
                    try clear hfz41_5
                    try clear hfz41_6
                    try clear p2
                    try clear p6
                    obtain ⟨kq, x69_59, rfl, HA, HJ59, BK195, HB⟩ := hcut
                    cases kq with
                    | zero => exact absurd HA.out (by simp [polyglotlaw13_Format.j1])
                    | succ kj59 =>
                      have H := HA.out
                      clear HA
                      simp only [polyglotlaw13_Format.j1] at H
                      by_cases c64 : x69_59 = true
                      · subst c64
                        have H1 : ((polyglotlaw13_two.f t190).bind fun t224 => (if t224.size + 1 ≤ 9223372036854775807 then ((some (t224 ++ (⟨#[46]⟩ : ByteArray) : ByteArray)).bind fun y225 => ((polyglotlaw13_two.f t189).bind fun t226 => (if y225.size + t226.size ≤ 9223372036854775807 then ((some (y225 ++ t226 : ByteArray)).bind fun y227 => (if y227.size + 1 ≤ 9223372036854775807 then ((some (y227 ++ (⟨#[46]⟩ : ByteArray) : ByteArray)).bind fun y228 => ((polyglotlaw13_four.f kj59 t188).bind fun t229 => (if y228.size + t229.size ≤ 9223372036854775807 then ((some (y228 ++ t229 : ByteArray)).bind fun y230 => (polyglotlaw13_Format.j3 kj59 a2 y230 y206 (⟨#[32]⟩ : ByteArray))) else (none)))) else (none))) else (none)))) else (none))) = some r := by rw [if_pos rfl] at H; exact H
                        clear H
                        have H := H1
                        clear H1
                        replace H := Option.bind_eq_some_iff.mp H
                        obtain ⟨t224, A650, H⟩ := H
                        replace H : (if t224.size + 1 ≤ 9223372036854775807 then ((some (t224 ++ (⟨#[46]⟩ : ByteArray) : ByteArray)).bind fun y225 => ((polyglotlaw13_two.f t189).bind fun t226 => (if y225.size + t226.size ≤ 9223372036854775807 then ((some (y225 ++ t226 : ByteArray)).bind fun y227 => (if y227.size + 1 ≤ 9223372036854775807 then ((some (y227 ++ (⟨#[46]⟩ : ByteArray) : ByteArray)).bind fun y228 => ((polyglotlaw13_four.f kj59 t188).bind fun t229 => (if y228.size + t229.size ≤ 9223372036854775807 then ((some (y228 ++ t229 : ByteArray)).bind fun y230 => (polyglotlaw13_Format.j3 kj59 a2 y230 y206 (⟨#[32]⟩ : ByteArray))) else (none)))) else (none))) else (none)))) else (none)) = some r := H
                        have A65 := Aside0.mk A650
                        clear A650
                        by_cases c66 : t224.size + 1 ≤ 9223372036854775807
                        · rw [if_pos c66] at H
                          have c66b0 := eq_true c66
                          have c66b1 : decide (t224.size + 1 ≤ 9223372036854775807) = true := decide_eq_true c66
                          try have c66b2 : (9223372036854775807 < t224.size + 1) = False := eq_false (Nat.not_lt.2 c66)
                          replace H := Option.bind_eq_some_iff.mp H
                          obtain ⟨y225, hy2250, H⟩ := H
                          replace H : ((polyglotlaw13_two.f t189).bind fun t226 => (if y225.size + t226.size ≤ 9223372036854775807 then ((some (y225 ++ t226 : ByteArray)).bind fun y227 => (if y227.size + 1 ≤ 9223372036854775807 then ((some (y227 ++ (⟨#[46]⟩ : ByteArray) : ByteArray)).bind fun y228 => ((polyglotlaw13_four.f kj59 t188).bind fun t229 => (if y228.size + t229.size ≤ 9223372036854775807 then ((some (y228 ++ t229 : ByteArray)).bind fun y230 => (polyglotlaw13_Format.j3 kj59 a2 y230 y206 (⟨#[32]⟩ : ByteArray))) else (none)))) else (none))) else (none))) = some r := H
                          have hy225 : t224 ++ (⟨#[46]⟩ : ByteArray) = y225 := Option.some.inj hy2250
                          clear hy2250
                          replace H := Option.bind_eq_some_iff.mp H
                          obtain ⟨t226, A670, H⟩ := H
                          replace H : (if y225.size + t226.size ≤ 9223372036854775807 then ((some (y225 ++ t226 : ByteArray)).bind fun y227 => (if y227.size + 1 ≤ 9223372036854775807 then ((some (y227 ++ (⟨#[46]⟩ : ByteArray) : ByteArray)).bind fun y228 => ((polyglotlaw13_four.f kj59 t188).bind fun t229 => (if y228.size + t229.size ≤ 9223372036854775807 then ((some (y228 ++ t229 : ByteArray)).bind fun y230 => (polyglotlaw13_Format.j3 kj59 a2 y230 y206 (⟨#[32]⟩ : ByteArray))) else (none)))) else (none))) else (none)) = some r := H
                          have A67 := Aside0.mk A670
                          clear A670
                          by_cases c68 : y225.size + t226.size ≤ 9223372036854775807
                          · rw [if_pos c68] at H
                            have c68b0 := eq_true c68
                            have c68b1 : decide (y225.size + t226.size ≤ 9223372036854775807) = true := decide_eq_true c68
                            try have c68b2 : (9223372036854775807 < y225.size + t226.size) = False := eq_false (Nat.not_lt.2 c68)
                            replace H := Option.bind_eq_some_iff.mp H
                            obtain ⟨y227, hy2270, H⟩ := H
                            replace H : (if y227.size + 1 ≤ 9223372036854775807 then ((some (y227 ++ (⟨#[46]⟩ : ByteArray) : ByteArray)).bind fun y228 => ((polyglotlaw13_four.f kj59 t188).bind fun t229 => (if y228.size + t229.size ≤ 9223372036854775807 then ((some (y228 ++ t229 : ByteArray)).bind fun y230 => (polyglotlaw13_Format.j3 kj59 a2 y230 y206 (⟨#[32]⟩ : ByteArray))) else (none)))) else (none)) = some r := H
                            have hy227 : y225 ++ t226 = y227 := Option.some.inj hy2270
                            clear hy2270
                            by_cases c69 : y227.size + 1 ≤ 9223372036854775807
                            · rw [if_pos c69] at H
                              have c69b0 := eq_true c69
                              have c69b1 : decide (y227.size + 1 ≤ 9223372036854775807) = true := decide_eq_true c69
                              try have c69b2 : (9223372036854775807 < y227.size + 1) = False := eq_false (Nat.not_lt.2 c69)
                              replace H := Option.bind_eq_some_iff.mp H
                              obtain ⟨y228, hy2280, H⟩ := H
                              replace H : ((polyglotlaw13_four.f kj59 t188).bind fun t229 => (if y228.size + t229.size ≤ 9223372036854775807 then ((some (y228 ++ t229 : ByteArray)).bind fun y230 => (polyglotlaw13_Format.j3 kj59 a2 y230 y206 (⟨#[32]⟩ : ByteArray))) else (none))) = some r := H
                              have hy228 : y227 ++ (⟨#[46]⟩ : ByteArray) = y228 := Option.some.inj hy2280
                              clear hy2280
                              replace H := Option.bind_eq_some_iff.mp H
                              obtain ⟨t229, A700, H⟩ := H
                              replace H : (if y228.size + t229.size ≤ 9223372036854775807 then ((some (y228 ++ t229 : ByteArray)).bind fun y230 => (polyglotlaw13_Format.j3 kj59 a2 y230 y206 (⟨#[32]⟩ : ByteArray))) else (none)) = some r := H
                              have A70 := Aside0.mk A700
                              clear A700
                              by_cases c71 : y228.size + t229.size ≤ 9223372036854775807
                              · rw [if_pos c71] at H
                                have c71b0 := eq_true c71
                                have c71b1 : decide (y228.size + t229.size ≤ 9223372036854775807) = true := decide_eq_true c71
                                try have c71b2 : (9223372036854775807 < y228.size + t229.size) = False := eq_false (Nat.not_lt.2 c71)
                                replace H := Option.bind_eq_some_iff.mp H
                                obtain ⟨y230, hy2300, H⟩ := H
                                replace H : (polyglotlaw13_Format.j3 kj59 a2 y230 y206 (⟨#[32]⟩ : ByteArray)) = some r := H
                                have hy230 : y228 ++ t229 = y230 := Option.some.inj hy2300
                                clear hy2300
                                have H' := Aside0.mk H
                                clear H
                                try go_wp2
                                have n0_ := Aside0.mk (blk_drew BK195.out)
                                have n1_ := Aside0.mk (below_drew1 HB.out)
                                clear BK195
                                clear HB
                                have BK195 := n0_
                                have HB := n1_
                                clear n0_ n1_
                                refine start_ (n := 14) (S := fun w' => w'.cell? ⟨gb195, 0, none⟩ = some (.int .i64 t188) ∧ w'.cell? ⟨gb195, 1, none⟩ = some (.int .i64 t189) ∧ w'.cell? ⟨gb195, 2, none⟩ = some (.int .i64 t190) ∧ w'.cell? ⟨gb195, 3, none⟩ = some (.int .i64 t191) ∧ w'.cell? ⟨gb195, 4, none⟩ = some (.int .i64 t192) ∧ w'.cell? ⟨gb195, 5, none⟩ = some (.int .i64 t193) ∧ w'.cell? ⟨gb195, 6, none⟩ = some (.int .i64 t194)) (ds := []) #[false, false, false, false, false, false, false, false, false, false, false, false, false, false] (by kernel_rfl) rfl rfl ⟨(blk_cell BK195.out 0).trans rfl, (blk_cell BK195.out 1).trans rfl, (blk_cell BK195.out 2).trans rfl, (blk_cell BK195.out 3).trans rfl, (blk_cell BK195.out 4).trans rfl, (blk_cell BK195.out 5).trans rfl, (blk_cell BK195.out 6).trans rfl⟩ (fun hHeld => ?_); refine with_tabW polyglotlaw13_Format.tab21 polyglotlaw13_Format.bits21 (fun HT_ HW_ => ?_)
                                generalize wc.drew = w72 at BK195 HB hHeld ⊢
                                refine pure_ (i := 0) (N := some 74) (v := ?_) (a' := ?_) #[true, false, false, false, false, false, false, false, false, false, false, false, false, false] rfl rfl (any_of HT_.out (by kernel_rfl)) (fun _ _ _ h => h) (Or.inl ⟨by rfl, ?_⟩) ?_ ?_
                                rotate_left
                                · intro w'
                                  go_simp
                                  with_reducible rfl
                                rotate_left
                                · simp only [Act.put, List.setIfInBounds_toArray, List.set_cons_zero, List.set_cons_succ, i64_w, i32_w]
                                  rfl
                                refine pure_ (i := 4) (N := some 78) (v := ?_) (a' := ?_) #[true, false, false, false, true, false, false, false, false, false, false, false, false, false] rfl rfl (any_of HT_.out (by kernel_rfl)) (fun _ _ _ h => h) (Or.inl ⟨by rfl, ?_⟩) ?_ ?_
                                rotate_left
                                · intro w'
                                  go_simp
                                  with_reducible rfl
                                rotate_left
                                · simp only [Act.put, List.setIfInBounds_toArray, List.set_cons_zero, List.set_cons_succ, i64_w, i32_w]
                                  rfl
                                refine pure_ (i := 9) (N := some 83) (v := ?_) (a' := ?_) #[true, false, false, false, true, false, false, false, false, true, false, false, false, false] rfl rfl (any_of HT_.out (by kernel_rfl)) (fun _ _ _ h => h) (Or.inl ⟨by rfl, ?_⟩) ?_ ?_
                                rotate_left
                                · intro w'
                                  go_simp
                                  with_reducible rfl
                                rotate_left
                                · simp only [Act.put, List.setIfInBounds_toArray, List.set_cons_zero, List.set_cons_succ, i64_w, i32_w]
                                  rfl
                                refine take_ (i := 1) (N := some 75) (v := ?_) (a' := ?_) #[true, true, false, false, true, false, false, false, false, true, false, false, false, false] rfl rfl (take_ofW HT_.out HW_.out (by kernel_rfl)) (fun _ _ _ h => h) (Or.inl ⟨by rfl, ?_⟩) hHeld ?_ ?_
                                rotate_left
                                · rintro w' ⟨s0, s1, s2, s3, s4, s5, s6⟩
                                  go_simp
                                  with_reducible rfl
                                rotate_left
                                · simp only [Act.put, List.setIfInBounds_toArray, List.set_cons_zero, List.set_cons_succ, i64_w, i32_w]
                                  rfl
                                refine take_ (i := 5) (N := some 79) (v := ?_) (a' := ?_) #[true, true, false, false, true, true, false, false, false, true, false, false, false, false] rfl rfl (take_ofW HT_.out HW_.out (by kernel_rfl)) (fun _ _ _ h => h) (Or.inl ⟨by rfl, ?_⟩) hHeld ?_ ?_
                                rotate_left
                                · rintro w' ⟨s0, s1, s2, s3, s4, s5, s6⟩
                                  go_simp
                                  with_reducible rfl
                                rotate_left
                                · simp only [Act.put, List.setIfInBounds_toArray, List.set_cons_zero, List.set_cons_succ, i64_w, i32_w]
                                  rfl
                                refine take_ (i := 10) (N := some 84) (v := ?_) (a' := ?_) #[true, true, false, false, true, true, false, false, false, true, true, false, false, false] rfl rfl (take_ofW HT_.out HW_.out (by kernel_rfl)) (fun _ _ _ h => h) (Or.inl ⟨by rfl, ?_⟩) hHeld ?_ ?_
                                rotate_left
                                · rintro w' ⟨s0, s1, s2, s3, s4, s5, s6⟩
                                  go_simp
                                  with_reducible rfl
                                rotate_left
                                · simp only [Act.put, List.setIfInBounds_toArray, List.set_cons_zero, List.set_cons_succ, i64_w, i32_w]
                                  rfl
                                refine one_ (i := 2) (N := some 76) #[true, true, true, false, true, true, false, false, false, true, true, false, false, false] rfl rfl (one_of HT_.out (by kernel_rfl)) (by decide) (fun K hK => ?_)
                                refine goes_ Tryd.func53 (by kernel_rfl) rfl #[.int .i64 t190] (by rfl) rfl rfl (by (try simp only [List.map_toArray, List.map_cons, List.map_nil]); first | done | rfl | (simp only [List.length_drop, List.length_take]; rfl)) ?_
                                with_reducible refine (polyglotlaw13_two.calls t190 t224 _ A65.out).mono ?_
                                rintro e w73 ⟨rfl, hb⟩
                                refine ⟨_, rfl, ?_⟩
                                have n0_ := Aside0.mk (blk_below (g := gb195) (o := .cells #[.int .i64 t188, .int .i64 t189, .int .i64 t190, .int .i64 t191, .int .i64 t192, .int .i64 t193, .int .i64 t194] 66 (0, 0)) (by (with_reducible repeat (first | refine blk_drewN ?_ _ | refine blk_drew ?_ | refine blk_alloc ?_ _)); exact BK195.out) hb)
                                have n1_ := Aside0.mk (below_step (by repeat (first | (with_reducible first | exact HB.out | apply below_alloc | apply pw_below_drewN | apply below_drew1 | refine below_set ?_ GE195.out) | exact HB.out)) hb)
                                clear BK195
                                clear HB
                                have BK195 := n0_
                                have HB := n1_
                                clear n0_ n1_
                                (try clear hb)
                                (try clear hb2)
                                (try clear hk)
                                (try clear hi)
                                refine hK.out _ _ ⟨(blk_cell BK195.out 0).trans rfl, (blk_cell BK195.out 1).trans rfl, (blk_cell BK195.out 2).trans rfl, (blk_cell BK195.out 3).trans rfl, (blk_cell BK195.out 4).trans rfl, (blk_cell BK195.out 5).trans rfl, (blk_cell BK195.out 6).trans rfl⟩ (fun hHeld => ?_)
                                clear hK K
                                refine norm_ (a' := ?_) ?_ ?_
                                rotate_left
                                · show Act.put _ (some 76) _ = _
                                  simp only [Act.put, List.setIfInBounds_toArray, List.set_cons_zero, List.set_cons_succ, i64_w, i32_w]
                                  rfl
                                refine pure_ (i := 3) (N := some 77) (v := ?_) (a' := ?_) #[true, true, true, true, true, true, false, false, false, true, true, false, false, false] rfl rfl (any_of HT_.out (by kernel_rfl)) (fun _ _ _ h => h) (Or.inl ⟨by rfl, ?_⟩) ?_ ?_
                                rotate_left
                                · intro w'
                                  go_simp
                                  with_reducible rfl
                                rotate_left
                                · simp only [Act.put, List.setIfInBounds_toArray, List.set_cons_zero, List.set_cons_succ, i64_w, i32_w]
                                  rfl
                                refine one_ (i := 6) (N := some 80) #[true, true, true, true, true, true, true, false, false, true, true, false, false, false] rfl rfl (one_of HT_.out (by kernel_rfl)) (by decide) (fun K hK => ?_)
                                refine goes_ Tryd.func53 (by kernel_rfl) rfl #[.int .i64 t189] (by rfl) rfl rfl (by (try simp only [List.map_toArray, List.map_cons, List.map_nil]); first | done | rfl | (simp only [List.length_drop, List.length_take]; rfl)) ?_
                                with_reducible refine (polyglotlaw13_two.calls t189 t226 _ A67.out).mono ?_
                                rintro e w74 ⟨rfl, hb⟩
                                refine ⟨_, rfl, ?_⟩
                                have n0_ := Aside0.mk (blk_below (g := gb195) (o := .cells #[.int .i64 t188, .int .i64 t189, .int .i64 t190, .int .i64 t191, .int .i64 t192, .int .i64 t193, .int .i64 t194] 66 (0, 0)) (by (with_reducible repeat (first | refine blk_drewN ?_ _ | refine blk_drew ?_ | refine blk_alloc ?_ _)); exact BK195.out) hb)
                                have n1_ := Aside0.mk (below_step (by repeat (first | (with_reducible first | exact HB.out | apply below_alloc | apply pw_below_drewN | apply below_drew1 | refine below_set ?_ GE195.out) | exact HB.out)) hb)
                                clear BK195
                                clear HB
                                have BK195 := n0_
                                have HB := n1_
                                clear n0_ n1_
                                (try clear hb)
                                (try clear hb2)
                                (try clear hk)
                                (try clear hi)
                                refine hK.out _ _ ⟨(blk_cell BK195.out 0).trans rfl, (blk_cell BK195.out 1).trans rfl, (blk_cell BK195.out 2).trans rfl, (blk_cell BK195.out 3).trans rfl, (blk_cell BK195.out 4).trans rfl, (blk_cell BK195.out 5).trans rfl, (blk_cell BK195.out 6).trans rfl⟩ (fun hHeld => ?_)
                                clear hK K
                                refine norm_ (a' := ?_) ?_ ?_
                                rotate_left
                                · show Act.put _ (some 80) _ = _
                                  simp only [Act.put, List.setIfInBounds_toArray, List.set_cons_zero, List.set_cons_succ, i64_w, i32_w]
                                  rfl
                                refine pure_ (i := 7) (N := some 81) (v := ?_) (a' := ?_) #[true, true, true, true, true, true, true, true, false, true, true, false, false, false] rfl rfl (any_of HT_.out (by kernel_rfl)) (fun _ _ _ h => h) (Or.inl ⟨by rfl, ?_⟩) ?_ ?_
                                rotate_left
                                · intro w'
                                  go_simp
                                  with_reducible rfl
                                rotate_left
                                · simp only [Act.put, List.setIfInBounds_toArray, List.set_cons_zero, List.set_cons_succ, i64_w, i32_w]
                                  rfl
                                refine pure_ (i := 8) (N := some 82) (v := ?_) (a' := ?_) #[true, true, true, true, true, true, true, true, true, true, true, false, false, false] rfl rfl (any_of HT_.out (by kernel_rfl)) (fun _ _ _ h => h) (Or.inl ⟨by rfl, ?_⟩) ?_ ?_
                                rotate_left
                                · intro w'
                                  go_simp
                                  with_reducible rfl
                                rotate_left
                                · simp only [Act.put, List.setIfInBounds_toArray, List.set_cons_zero, List.set_cons_succ, i64_w, i32_w]
                                  rfl
                                refine one_ (i := 11) (N := some 85) #[true, true, true, true, true, true, true, true, true, true, true, true, false, false] rfl rfl (one_of HT_.out (by kernel_rfl)) (by decide) (fun K hK => ?_)
                                refine goes_ Tryd.func52 (by kernel_rfl) rfl #[.int .i64 t188] (by rfl) rfl rfl (by (try simp only [List.map_toArray, List.map_cons, List.map_nil]); first | done | rfl | (simp only [List.length_drop, List.length_take]; rfl)) ?_
                                with_reducible refine (polyglotlaw13_four.calls kj59 t188 t229 _ A70.out).mono ?_
                                rintro e w75 ⟨rfl, hb⟩
                                refine ⟨_, rfl, ?_⟩
                                have n0_ := Aside0.mk (blk_below (g := gb195) (o := .cells #[.int .i64 t188, .int .i64 t189, .int .i64 t190, .int .i64 t191, .int .i64 t192, .int .i64 t193, .int .i64 t194] 66 (0, 0)) (by (with_reducible repeat (first | refine blk_drewN ?_ _ | refine blk_drew ?_ | refine blk_alloc ?_ _)); exact BK195.out) hb)
                                have n1_ := Aside0.mk (below_step (by repeat (first | (with_reducible first | exact HB.out | apply below_alloc | apply pw_below_drewN | apply below_drew1 | refine below_set ?_ GE195.out) | exact HB.out)) hb)
                                clear BK195
                                clear HB
                                have BK195 := n0_
                                have HB := n1_
                                clear n0_ n1_
                                (try clear hb)
                                (try clear hb2)
                                (try clear hk)
                                (try clear hi)
                                refine hK.out _ _ ⟨(blk_cell BK195.out 0).trans rfl, (blk_cell BK195.out 1).trans rfl, (blk_cell BK195.out 2).trans rfl, (blk_cell BK195.out 3).trans rfl, (blk_cell BK195.out 4).trans rfl, (blk_cell BK195.out 5).trans rfl, (blk_cell BK195.out 6).trans rfl⟩ (fun hHeld => ?_)
                                clear hK K
                                refine norm_ (a' := ?_) ?_ ?_
                                rotate_left
                                · show Act.put _ (some 85) _ = _
                                  simp only [Act.put, List.setIfInBounds_toArray, List.set_cons_zero, List.set_cons_succ, i64_w, i32_w]
                                  rfl
                                refine pure_ (i := 12) (N := some 86) (v := ?_) (a' := ?_) #[true, true, true, true, true, true, true, true, true, true, true, true, true, false] rfl rfl (any_of HT_.out (by kernel_rfl)) (fun _ _ _ h => h) (Or.inl ⟨by rfl, ?_⟩) ?_ ?_
                                rotate_left
                                · intro w'
                                  go_simp
                                  with_reducible rfl
                                rotate_left
                                · simp only [Act.put, List.setIfInBounds_toArray, List.set_cons_zero, List.set_cons_succ, i64_w, i32_w]
                                  rfl
                                refine pure_ (i := 13) (N := some 8) (v := ?_) (a' := ?_) #[true, true, true, true, true, true, true, true, true, true, true, true, true, true] rfl rfl (any_of HT_.out (by kernel_rfl)) (fun _ _ _ h => h) (Or.inl ⟨by rfl, ?_⟩) ?_ ?_
                                rotate_left
                                · intro w'
                                  go_simp
                                  with_reducible rfl
                                rotate_left
                                · simp only [Act.put, List.setIfInBounds_toArray, List.set_cons_zero, List.set_cons_succ, i64_w, i32_w]
                                  rfl
                                refine done_ (done_of HT_.out (by kernel_rfl)) ?_
                                try go_wp2
                                go_meet
                                case rel => exact ⟨_, (y230), (y206), ((⟨#[32]⟩ : ByteArray)), (by first | rfl | (simp; done) | (simp [*]; done)), (by first | rfl | (simp; done) | (simp [*]; done)), (by first | rfl | (simp; done) | (simp [*]; done)), H', ⟨by have := HJ59.out; first | omega | exact Nat.le_refl _⟩, ⟨by (with_reducible repeat (first | refine blk_drewN ?_ _ | refine blk_drew ?_ | refine blk_alloc ?_ _)); exact BK195.out⟩, ⟨by repeat (first | (with_reducible first | exact HB.out | apply below_alloc | apply pw_below_drewN | apply below_drew1 | refine below_set ?_ GE195.out) | exact HB.out)⟩⟩
                              · rw [if_neg c71] at H
                                exact absurd H (by simp)
                            · rw [if_neg c69] at H
                              exact absurd H (by simp)
                          · rw [if_neg c68] at H
                            exact absurd H (by simp)
                        · rw [if_neg c66] at H
                          exact absurd H (by simp)
                      · replace c64 := Bool.eq_false_iff.mpr c64
                        subst c64
                        have H1 : (if a0.toList = ([102, 114] : List UInt8) then (polyglotlaw13_Format.j2 kj59 a2 y202 y206 (⟨#[32]⟩ : ByteArray) (a0.toList == ([102, 114] : List UInt8)) t188 t189 t190 t191 t192 t193 t194) else (polyglotlaw13_Format.j2 kj59 a2 y202 y206 (⟨#[32]⟩ : ByteArray) (a0.toList == ([101, 115] : List UInt8)) t188 t189 t190 t191 t192 t193 t194)) = some r := by rw [if_neg (show ¬ (false = true) by decide)] at H; exact H
                        clear H
                        have H := H1
                        clear H1
                        have HC76 := Aside0.mk H
                        clear H
                        go_upto_if 87 with (fail)
                        go_cut [87] (fun v87 wc => ∃ (kq : Nat) (x87_75 : Bool), v87 = .bool x87_75 ∧ Aside0 (polyglotlaw13_Format.j2 kq a2 y202 y206 (⟨#[32]⟩ : ByteArray) x87_75 t188 t189 t190 t191 t192 t193 t194 = some r) ∧ Aside0 (kq ≤ kj59) ∧ Aside0 (wc.heap[gb195]? = some (.cells #[.int .i64 t188, .int .i64 t189, .int .i64 t190, .int .i64 t191, .int .i64 t192, .int .i64 t193, .int .i64 t194] 66 (0, 0))) ∧ Aside0 (Below w.heap.size w wc))
                        case first =>
                          have H := HC76.out
                          clear HC76
                          by_cases c77 : a0.toList = ([102, 114] : List UInt8)
                          · rw [if_pos c77] at H
                            have c77b0 : (a0.toList == ([102, 114] : List UInt8)) = true := beq_iff_eq.mpr c77
                            have c77b1 : (a0.toList != ([102, 114] : List UInt8)) = false := bne_eq_false_iff_eq.mpr c77
                            clear c77
                            (first | rw [c77b0] | (simp only [i64_w, i32_w]; rw [c77b0]) | skip)
                            have H' := Aside0.mk H
                            clear H
                            go_wp2
                            go_meet
                            case rel => exact ⟨_, ((a0.toList == ([102, 114] : List UInt8))), (by first | rfl | (simp; done) | (simp [*]; done)), H', ⟨by have := HJ59.out; first | omega | exact Nat.le_refl _⟩, ⟨by (with_reducible repeat (first | refine blk_drewN ?_ _ | refine blk_drew ?_ | refine blk_alloc ?_ _)); exact BK195.out⟩, ⟨by repeat (first | (with_reducible first | exact HB.out | apply below_alloc | apply pw_below_drewN | apply below_drew1 | refine below_set ?_ GE195.out) | exact HB.out)⟩⟩
                          · rw [if_neg c77] at H
                            have c77b0 : (a0.toList == ([102, 114] : List UInt8)) = false := beq_eq_false_iff_ne.mpr c77
                            have c77b1 : (a0.toList != ([102, 114] : List UInt8)) = true := bne_iff_ne.mpr c77
                            (first | rw [c77b0] | (simp only [i64_w, i32_w]; rw [c77b0]) | skip)
                            have H' := Aside0.mk H
                            clear H
                            go_wp2
                            go_meet
                            case rel => exact ⟨_, ((a0.toList == ([101, 115] : List UInt8))), (by first | rfl | (simp; done) | (simp [*]; done)), H', ⟨by have := HJ59.out; first | omega | exact Nat.le_refl _⟩, ⟨by (with_reducible repeat (first | refine blk_drewN ?_ _ | refine blk_drew ?_ | refine blk_alloc ?_ _)); exact BK195.out⟩, ⟨by repeat (first | (with_reducible first | exact HB.out | apply below_alloc | apply pw_below_drewN | apply below_drew1 | refine below_set ?_ GE195.out) | exact HB.out)⟩⟩
                        case rest =>
                          clear HC76
                          try clear c1
                          try clear c2
                          try clear p2
                          try clear c3
                          try clear c4
                          try clear c5
                          try clear c6
                          try clear p6
                          try clear c7
                          try clear c13
                          try clear c13b0
                          try clear c13b1
                          try clear c13b2
                          try clear c15
                          try clear c15b0
                          try clear c15b1
                          try clear c15b2
                          try clear c25
                          try clear c28
                          try clear c28b0
                          try clear c28b1
                          try clear c30
                          try clear c30b0
                          try clear c30b1
                          try clear c30b2
                          try clear c32
                          try clear c32b0
                          try clear c32b1
                          try clear c32b2
                          try clear c33
                          try clear c33b0
                          try clear c33b1
                          try clear c33b2
                          try clear c35
                          try clear c35b0
                          try clear c35b1
                          try clear c35b2
                          try clear c42
                          try clear c42b0
                          try clear c43
                          try clear c43b0
                          try clear c43b1
                          try clear c45
                          try clear c45b0
                          try clear c45b1
                          try clear c45b2
                          try clear c47
                          try clear c47b0
                          try clear c47b1
                          try clear c47b2
                          try clear c48
                          try clear c48b0
                          try clear c48b1
                          try clear c48b2
                          try clear c52
                          try clear c53
                          try clear c53b0
                          try clear c53b1
                          try clear c53b2
                          try clear c54
                          try clear c55
                          try clear c55b0
                          try clear c55b1
                          try clear c55b2
                          try clear c56
                          try clear c56b0
                          try clear c56b1
                          try clear c56b2
                          try clear c61
                          try clear c61b0
                          try clear c61b1
                          try clear c62
                          try clear c62b0
                          try clear c62b1
                          try clear c63
                          try clear c63b0
                          try clear c63b1
                          try clear c64
                          try clear c66
                          try clear c66b0
                          try clear c66b1
                          try clear c66b2
                          try clear c68
                          try clear c68b0
                          try clear c68b1
                          try clear c68b2
                          try clear c69
                          try clear c69b0
                          try clear c69b1
                          try clear c69b2
                          try clear c71
                          try clear c71b0
                          try clear c71b1
                          try clear c71b2
                          try clear c77
                          try clear c77b0
                          try clear c77b1
                          try clear hcz19_0
                          try clear hcz19_1
                          try clear hcz19_2
                          try clear hcz19_3
                          try clear hcz19_4
                          try clear hcz19_5
                          try clear hcz19_6
                          try clear hcz41_0
                          try clear hcz41_1
                          try clear hcz41_2
                          try clear hcz41_3
                          try clear hcz41_4
                          try clear hcz41_5
                          try clear hcz41_6
                          try clear hfz19_0
                          try clear hfz19_1
                          try clear hfz19_2
                          try clear hfz19_3
                          try clear hfz19_4
                          try clear hfz19_5
                          try clear hfz19_6
                          try clear hfz41_0
                          try clear hfz41_1
                          try clear hfz41_2
                          try clear hfz41_3
                          try clear hfz41_4
                          try clear hfz41_5
                          try clear hfz41_6
                          try clear p2
                          try clear p6
                          obtain ⟨kq, x87_75, rfl, HA, HJ75, BK195, HB⟩ := hcut
                          cases kq with
                          | zero => exact absurd HA.out (by simp [polyglotlaw13_Format.j2])
                          | succ kj75 =>
                            have H := HA.out
                            clear HA
                            simp only [polyglotlaw13_Format.j2] at H
                            by_cases c78 : x87_75 = true
                            · subst c78
                              have H1 : ((polyglotlaw13_two.f t190).bind fun t231 => (if t231.size + 1 ≤ 9223372036854775807 then ((some (t231 ++ (⟨#[47]⟩ : ByteArray) : ByteArray)).bind fun y232 => ((polyglotlaw13_two.f t189).bind fun t233 => (if y232.size + t233.size ≤ 9223372036854775807 then ((some (y232 ++ t233 : ByteArray)).bind fun y234 => (if y234.size + 1 ≤ 9223372036854775807 then ((some (y234 ++ (⟨#[47]⟩ : ByteArray) : ByteArray)).bind fun y235 => ((polyglotlaw13_four.f kj75 t188).bind fun t236 => (if y235.size + t236.size ≤ 9223372036854775807 then ((some (y235 ++ t236 : ByteArray)).bind fun y237 => (polyglotlaw13_Format.j3 kj75 a2 y237 y206 (⟨#[32]⟩ : ByteArray))) else (none)))) else (none))) else (none)))) else (none))) = some r := by rw [if_pos rfl] at H; exact H
                              clear H
                              have H := H1
                              clear H1
                              replace H := Option.bind_eq_some_iff.mp H
                              obtain ⟨t231, A790, H⟩ := H
                              replace H : (if t231.size + 1 ≤ 9223372036854775807 then ((some (t231 ++ (⟨#[47]⟩ : ByteArray) : ByteArray)).bind fun y232 => ((polyglotlaw13_two.f t189).bind fun t233 => (if y232.size + t233.size ≤ 9223372036854775807 then ((some (y232 ++ t233 : ByteArray)).bind fun y234 => (if y234.size + 1 ≤ 9223372036854775807 then ((some (y234 ++ (⟨#[47]⟩ : ByteArray) : ByteArray)).bind fun y235 => ((polyglotlaw13_four.f kj75 t188).bind fun t236 => (if y235.size + t236.size ≤ 9223372036854775807 then ((some (y235 ++ t236 : ByteArray)).bind fun y237 => (polyglotlaw13_Format.j3 kj75 a2 y237 y206 (⟨#[32]⟩ : ByteArray))) else (none)))) else (none))) else (none)))) else (none)) = some r := H
                              have A79 := Aside0.mk A790
                              clear A790
                              by_cases c80 : t231.size + 1 ≤ 9223372036854775807
                              · rw [if_pos c80] at H
                                have c80b0 := eq_true c80
                                have c80b1 : decide (t231.size + 1 ≤ 9223372036854775807) = true := decide_eq_true c80
                                try have c80b2 : (9223372036854775807 < t231.size + 1) = False := eq_false (Nat.not_lt.2 c80)
                                replace H := Option.bind_eq_some_iff.mp H
                                obtain ⟨y232, hy2320, H⟩ := H
                                replace H : ((polyglotlaw13_two.f t189).bind fun t233 => (if y232.size + t233.size ≤ 9223372036854775807 then ((some (y232 ++ t233 : ByteArray)).bind fun y234 => (if y234.size + 1 ≤ 9223372036854775807 then ((some (y234 ++ (⟨#[47]⟩ : ByteArray) : ByteArray)).bind fun y235 => ((polyglotlaw13_four.f kj75 t188).bind fun t236 => (if y235.size + t236.size ≤ 9223372036854775807 then ((some (y235 ++ t236 : ByteArray)).bind fun y237 => (polyglotlaw13_Format.j3 kj75 a2 y237 y206 (⟨#[32]⟩ : ByteArray))) else (none)))) else (none))) else (none))) = some r := H
                                have hy232 : t231 ++ (⟨#[47]⟩ : ByteArray) = y232 := Option.some.inj hy2320
                                clear hy2320
                                replace H := Option.bind_eq_some_iff.mp H
                                obtain ⟨t233, A810, H⟩ := H
                                replace H : (if y232.size + t233.size ≤ 9223372036854775807 then ((some (y232 ++ t233 : ByteArray)).bind fun y234 => (if y234.size + 1 ≤ 9223372036854775807 then ((some (y234 ++ (⟨#[47]⟩ : ByteArray) : ByteArray)).bind fun y235 => ((polyglotlaw13_four.f kj75 t188).bind fun t236 => (if y235.size + t236.size ≤ 9223372036854775807 then ((some (y235 ++ t236 : ByteArray)).bind fun y237 => (polyglotlaw13_Format.j3 kj75 a2 y237 y206 (⟨#[32]⟩ : ByteArray))) else (none)))) else (none))) else (none)) = some r := H
                                have A81 := Aside0.mk A810
                                clear A810
                                by_cases c82 : y232.size + t233.size ≤ 9223372036854775807
                                · rw [if_pos c82] at H
                                  have c82b0 := eq_true c82
                                  have c82b1 : decide (y232.size + t233.size ≤ 9223372036854775807) = true := decide_eq_true c82
                                  try have c82b2 : (9223372036854775807 < y232.size + t233.size) = False := eq_false (Nat.not_lt.2 c82)
                                  replace H := Option.bind_eq_some_iff.mp H
                                  obtain ⟨y234, hy2340, H⟩ := H
                                  replace H : (if y234.size + 1 ≤ 9223372036854775807 then ((some (y234 ++ (⟨#[47]⟩ : ByteArray) : ByteArray)).bind fun y235 => ((polyglotlaw13_four.f kj75 t188).bind fun t236 => (if y235.size + t236.size ≤ 9223372036854775807 then ((some (y235 ++ t236 : ByteArray)).bind fun y237 => (polyglotlaw13_Format.j3 kj75 a2 y237 y206 (⟨#[32]⟩ : ByteArray))) else (none)))) else (none)) = some r := H
                                  have hy234 : y232 ++ t233 = y234 := Option.some.inj hy2340
                                  clear hy2340
                                  by_cases c83 : y234.size + 1 ≤ 9223372036854775807
                                  · rw [if_pos c83] at H
                                    have c83b0 := eq_true c83
                                    have c83b1 : decide (y234.size + 1 ≤ 9223372036854775807) = true := decide_eq_true c83
                                    try have c83b2 : (9223372036854775807 < y234.size + 1) = False := eq_false (Nat.not_lt.2 c83)
                                    replace H := Option.bind_eq_some_iff.mp H
                                    obtain ⟨y235, hy2350, H⟩ := H
                                    replace H : ((polyglotlaw13_four.f kj75 t188).bind fun t236 => (if y235.size + t236.size ≤ 9223372036854775807 then ((some (y235 ++ t236 : ByteArray)).bind fun y237 => (polyglotlaw13_Format.j3 kj75 a2 y237 y206 (⟨#[32]⟩ : ByteArray))) else (none))) = some r := H
                                    have hy235 : y234 ++ (⟨#[47]⟩ : ByteArray) = y235 := Option.some.inj hy2350
                                    clear hy2350
                                    replace H := Option.bind_eq_some_iff.mp H
                                    obtain ⟨t236, A840, H⟩ := H
                                    replace H : (if y235.size + t236.size ≤ 9223372036854775807 then ((some (y235 ++ t236 : ByteArray)).bind fun y237 => (polyglotlaw13_Format.j3 kj75 a2 y237 y206 (⟨#[32]⟩ : ByteArray))) else (none)) = some r := H
                                    have A84 := Aside0.mk A840
                                    clear A840
                                    by_cases c85 : y235.size + t236.size ≤ 9223372036854775807
                                    · rw [if_pos c85] at H
                                      have c85b0 := eq_true c85
                                      have c85b1 : decide (y235.size + t236.size ≤ 9223372036854775807) = true := decide_eq_true c85
                                      try have c85b2 : (9223372036854775807 < y235.size + t236.size) = False := eq_false (Nat.not_lt.2 c85)
                                      replace H := Option.bind_eq_some_iff.mp H
                                      obtain ⟨y237, hy2370, H⟩ := H
                                      replace H : (polyglotlaw13_Format.j3 kj75 a2 y237 y206 (⟨#[32]⟩ : ByteArray)) = some r := H
                                      have hy237 : y235 ++ t236 = y237 := Option.some.inj hy2370
                                      clear hy2370
                                      have H' := Aside0.mk H
                                      clear H
                                      try go_wp2
                                      have n0_ := Aside0.mk (blk_drew BK195.out)
                                      have n1_ := Aside0.mk (below_drew1 HB.out)
                                      clear BK195
                                      clear HB
                                      have BK195 := n0_
                                      have HB := n1_
                                      clear n0_ n1_
                                      refine start_ (n := 14) (S := fun w' => w'.cell? ⟨gb195, 0, none⟩ = some (.int .i64 t188) ∧ w'.cell? ⟨gb195, 1, none⟩ = some (.int .i64 t189) ∧ w'.cell? ⟨gb195, 2, none⟩ = some (.int .i64 t190) ∧ w'.cell? ⟨gb195, 3, none⟩ = some (.int .i64 t191) ∧ w'.cell? ⟨gb195, 4, none⟩ = some (.int .i64 t192) ∧ w'.cell? ⟨gb195, 5, none⟩ = some (.int .i64 t193) ∧ w'.cell? ⟨gb195, 6, none⟩ = some (.int .i64 t194)) (ds := []) #[false, false, false, false, false, false, false, false, false, false, false, false, false, false] (by kernel_rfl) rfl rfl ⟨(blk_cell BK195.out 0).trans rfl, (blk_cell BK195.out 1).trans rfl, (blk_cell BK195.out 2).trans rfl, (blk_cell BK195.out 3).trans rfl, (blk_cell BK195.out 4).trans rfl, (blk_cell BK195.out 5).trans rfl, (blk_cell BK195.out 6).trans rfl⟩ (fun hHeld => ?_); refine with_tabW polyglotlaw13_Format.tab24 polyglotlaw13_Format.bits24 (fun HT_ HW_ => ?_)
                                      generalize wc.drew = w86 at BK195 HB hHeld ⊢
                                      refine pure_ (i := 0) (N := some 90) (v := ?_) (a' := ?_) #[true, false, false, false, false, false, false, false, false, false, false, false, false, false] rfl rfl (any_of HT_.out (by kernel_rfl)) (fun _ _ _ h => h) (Or.inl ⟨by rfl, ?_⟩) ?_ ?_
                                      rotate_left
                                      · intro w'
                                        go_simp
                                        with_reducible rfl
                                      rotate_left
                                      · simp only [Act.put, List.setIfInBounds_toArray, List.set_cons_zero, List.set_cons_succ, i64_w, i32_w]
                                        rfl
                                      refine pure_ (i := 4) (N := some 94) (v := ?_) (a' := ?_) #[true, false, false, false, true, false, false, false, false, false, false, false, false, false] rfl rfl (any_of HT_.out (by kernel_rfl)) (fun _ _ _ h => h) (Or.inl ⟨by rfl, ?_⟩) ?_ ?_
                                      rotate_left
                                      · intro w'
                                        go_simp
                                        with_reducible rfl
                                      rotate_left
                                      · simp only [Act.put, List.setIfInBounds_toArray, List.set_cons_zero, List.set_cons_succ, i64_w, i32_w]
                                        rfl
                                      refine pure_ (i := 9) (N := some 99) (v := ?_) (a' := ?_) #[true, false, false, false, true, false, false, false, false, true, false, false, false, false] rfl rfl (any_of HT_.out (by kernel_rfl)) (fun _ _ _ h => h) (Or.inl ⟨by rfl, ?_⟩) ?_ ?_
                                      rotate_left
                                      · intro w'
                                        go_simp
                                        with_reducible rfl
                                      rotate_left
                                      · simp only [Act.put, List.setIfInBounds_toArray, List.set_cons_zero, List.set_cons_succ, i64_w, i32_w]
                                        rfl
                                      refine take_ (i := 1) (N := some 91) (v := ?_) (a' := ?_) #[true, true, false, false, true, false, false, false, false, true, false, false, false, false] rfl rfl (take_ofW HT_.out HW_.out (by kernel_rfl)) (fun _ _ _ h => h) (Or.inl ⟨by rfl, ?_⟩) hHeld ?_ ?_
                                      rotate_left
                                      · rintro w' ⟨s0, s1, s2, s3, s4, s5, s6⟩
                                        go_simp
                                        with_reducible rfl
                                      rotate_left
                                      · simp only [Act.put, List.setIfInBounds_toArray, List.set_cons_zero, List.set_cons_succ, i64_w, i32_w]
                                        rfl
                                      refine take_ (i := 5) (N := some 95) (v := ?_) (a' := ?_) #[true, true, false, false, true, true, false, false, false, true, false, false, false, false] rfl rfl (take_ofW HT_.out HW_.out (by kernel_rfl)) (fun _ _ _ h => h) (Or.inl ⟨by rfl, ?_⟩) hHeld ?_ ?_
                                      rotate_left
                                      · rintro w' ⟨s0, s1, s2, s3, s4, s5, s6⟩
                                        go_simp
                                        with_reducible rfl
                                      rotate_left
                                      · simp only [Act.put, List.setIfInBounds_toArray, List.set_cons_zero, List.set_cons_succ, i64_w, i32_w]
                                        rfl
                                      refine take_ (i := 10) (N := some 100) (v := ?_) (a' := ?_) #[true, true, false, false, true, true, false, false, false, true, true, false, false, false] rfl rfl (take_ofW HT_.out HW_.out (by kernel_rfl)) (fun _ _ _ h => h) (Or.inl ⟨by rfl, ?_⟩) hHeld ?_ ?_
                                      rotate_left
                                      · rintro w' ⟨s0, s1, s2, s3, s4, s5, s6⟩
                                        go_simp
                                        with_reducible rfl
                                      rotate_left
                                      · simp only [Act.put, List.setIfInBounds_toArray, List.set_cons_zero, List.set_cons_succ, i64_w, i32_w]
                                        rfl
                                      refine one_ (i := 2) (N := some 92) #[true, true, true, false, true, true, false, false, false, true, true, false, false, false] rfl rfl (one_of HT_.out (by kernel_rfl)) (by decide) (fun K hK => ?_)
                                      refine goes_ Tryd.func53 (by kernel_rfl) rfl #[.int .i64 t190] (by rfl) rfl rfl (by (try simp only [List.map_toArray, List.map_cons, List.map_nil]); first | done | rfl | (simp only [List.length_drop, List.length_take]; rfl)) ?_
                                      with_reducible refine (polyglotlaw13_two.calls t190 t231 _ A79.out).mono ?_
                                      rintro e w87 ⟨rfl, hb⟩
                                      refine ⟨_, rfl, ?_⟩
                                      have n0_ := Aside0.mk (blk_below (g := gb195) (o := .cells #[.int .i64 t188, .int .i64 t189, .int .i64 t190, .int .i64 t191, .int .i64 t192, .int .i64 t193, .int .i64 t194] 66 (0, 0)) (by (with_reducible repeat (first | refine blk_drewN ?_ _ | refine blk_drew ?_ | refine blk_alloc ?_ _)); exact BK195.out) hb)
                                      have n1_ := Aside0.mk (below_step (by repeat (first | (with_reducible first | exact HB.out | apply below_alloc | apply pw_below_drewN | apply below_drew1 | refine below_set ?_ GE195.out) | exact HB.out)) hb)
                                      clear BK195
                                      clear HB
                                      have BK195 := n0_
                                      have HB := n1_
                                      clear n0_ n1_
                                      (try clear hb)
                                      (try clear hb2)
                                      (try clear hk)
                                      (try clear hi)
                                      refine hK.out _ _ ⟨(blk_cell BK195.out 0).trans rfl, (blk_cell BK195.out 1).trans rfl, (blk_cell BK195.out 2).trans rfl, (blk_cell BK195.out 3).trans rfl, (blk_cell BK195.out 4).trans rfl, (blk_cell BK195.out 5).trans rfl, (blk_cell BK195.out 6).trans rfl⟩ (fun hHeld => ?_)
                                      clear hK K
                                      refine norm_ (a' := ?_) ?_ ?_
                                      rotate_left
                                      · show Act.put _ (some 92) _ = _
                                        simp only [Act.put, List.setIfInBounds_toArray, List.set_cons_zero, List.set_cons_succ, i64_w, i32_w]
                                        rfl
                                      refine pure_ (i := 3) (N := some 93) (v := ?_) (a' := ?_) #[true, true, true, true, true, true, false, false, false, true, true, false, false, false] rfl rfl (any_of HT_.out (by kernel_rfl)) (fun _ _ _ h => h) (Or.inl ⟨by rfl, ?_⟩) ?_ ?_
                                      rotate_left
                                      · intro w'
                                        go_simp
                                        with_reducible rfl
                                      rotate_left
                                      · simp only [Act.put, List.setIfInBounds_toArray, List.set_cons_zero, List.set_cons_succ, i64_w, i32_w]
                                        rfl
                                      refine one_ (i := 6) (N := some 96) #[true, true, true, true, true, true, true, false, false, true, true, false, false, false] rfl rfl (one_of HT_.out (by kernel_rfl)) (by decide) (fun K hK => ?_)
                                      refine goes_ Tryd.func53 (by kernel_rfl) rfl #[.int .i64 t189] (by rfl) rfl rfl (by (try simp only [List.map_toArray, List.map_cons, List.map_nil]); first | done | rfl | (simp only [List.length_drop, List.length_take]; rfl)) ?_
                                      with_reducible refine (polyglotlaw13_two.calls t189 t233 _ A81.out).mono ?_
                                      rintro e w88 ⟨rfl, hb⟩
                                      refine ⟨_, rfl, ?_⟩
                                      have n0_ := Aside0.mk (blk_below (g := gb195) (o := .cells #[.int .i64 t188, .int .i64 t189, .int .i64 t190, .int .i64 t191, .int .i64 t192, .int .i64 t193, .int .i64 t194] 66 (0, 0)) (by (with_reducible repeat (first | refine blk_drewN ?_ _ | refine blk_drew ?_ | refine blk_alloc ?_ _)); exact BK195.out) hb)
                                      have n1_ := Aside0.mk (below_step (by repeat (first | (with_reducible first | exact HB.out | apply below_alloc | apply pw_below_drewN | apply below_drew1 | refine below_set ?_ GE195.out) | exact HB.out)) hb)
                                      clear BK195
                                      clear HB
                                      have BK195 := n0_
                                      have HB := n1_
                                      clear n0_ n1_
                                      (try clear hb)
                                      (try clear hb2)
                                      (try clear hk)
                                      (try clear hi)
                                      refine hK.out _ _ ⟨(blk_cell BK195.out 0).trans rfl, (blk_cell BK195.out 1).trans rfl, (blk_cell BK195.out 2).trans rfl, (blk_cell BK195.out 3).trans rfl, (blk_cell BK195.out 4).trans rfl, (blk_cell BK195.out 5).trans rfl, (blk_cell BK195.out 6).trans rfl⟩ (fun hHeld => ?_)
                                      clear hK K
                                      refine norm_ (a' := ?_) ?_ ?_
                                      rotate_left
                                      · show Act.put _ (some 96) _ = _
                                        simp only [Act.put, List.setIfInBounds_toArray, List.set_cons_zero, List.set_cons_succ, i64_w, i32_w]
                                        rfl
                                      refine pure_ (i := 7) (N := some 97) (v := ?_) (a' := ?_) #[true, true, true, true, true, true, true, true, false, true, true, false, false, false] rfl rfl (any_of HT_.out (by kernel_rfl)) (fun _ _ _ h => h) (Or.inl ⟨by rfl, ?_⟩) ?_ ?_
                                      rotate_left
                                      · intro w'
                                        go_simp
                                        with_reducible rfl
                                      rotate_left
                                      · simp only [Act.put, List.setIfInBounds_toArray, List.set_cons_zero, List.set_cons_succ, i64_w, i32_w]
                                        rfl
                                      refine pure_ (i := 8) (N := some 98) (v := ?_) (a' := ?_) #[true, true, true, true, true, true, true, true, true, true, true, false, false, false] rfl rfl (any_of HT_.out (by kernel_rfl)) (fun _ _ _ h => h) (Or.inl ⟨by rfl, ?_⟩) ?_ ?_
                                      rotate_left
                                      · intro w'
                                        go_simp
                                        with_reducible rfl
                                      rotate_left
                                      · simp only [Act.put, List.setIfInBounds_toArray, List.set_cons_zero, List.set_cons_succ, i64_w, i32_w]
                                        rfl
                                      refine one_ (i := 11) (N := some 101) #[true, true, true, true, true, true, true, true, true, true, true, true, false, false] rfl rfl (one_of HT_.out (by kernel_rfl)) (by decide) (fun K hK => ?_)
                                      refine goes_ Tryd.func52 (by kernel_rfl) rfl #[.int .i64 t188] (by rfl) rfl rfl (by (try simp only [List.map_toArray, List.map_cons, List.map_nil]); first | done | rfl | (simp only [List.length_drop, List.length_take]; rfl)) ?_
                                      with_reducible refine (polyglotlaw13_four.calls kj75 t188 t236 _ A84.out).mono ?_
                                      rintro e w89 ⟨rfl, hb⟩
                                      refine ⟨_, rfl, ?_⟩
                                      have n0_ := Aside0.mk (blk_below (g := gb195) (o := .cells #[.int .i64 t188, .int .i64 t189, .int .i64 t190, .int .i64 t191, .int .i64 t192, .int .i64 t193, .int .i64 t194] 66 (0, 0)) (by (with_reducible repeat (first | refine blk_drewN ?_ _ | refine blk_drew ?_ | refine blk_alloc ?_ _)); exact BK195.out) hb)
                                      have n1_ := Aside0.mk (below_step (by repeat (first | (with_reducible first | exact HB.out | apply below_alloc | apply pw_below_drewN | apply below_drew1 | refine below_set ?_ GE195.out) | exact HB.out)) hb)
                                      clear BK195
                                      clear HB
                                      have BK195 := n0_
                                      have HB := n1_
                                      clear n0_ n1_
                                      (try clear hb)
                                      (try clear hb2)
                                      (try clear hk)
                                      (try clear hi)
                                      refine hK.out _ _ ⟨(blk_cell BK195.out 0).trans rfl, (blk_cell BK195.out 1).trans rfl, (blk_cell BK195.out 2).trans rfl, (blk_cell BK195.out 3).trans rfl, (blk_cell BK195.out 4).trans rfl, (blk_cell BK195.out 5).trans rfl, (blk_cell BK195.out 6).trans rfl⟩ (fun hHeld => ?_)
                                      clear hK K
                                      refine norm_ (a' := ?_) ?_ ?_
                                      rotate_left
                                      · show Act.put _ (some 101) _ = _
                                        simp only [Act.put, List.setIfInBounds_toArray, List.set_cons_zero, List.set_cons_succ, i64_w, i32_w]
                                        rfl
                                      refine pure_ (i := 12) (N := some 102) (v := ?_) (a' := ?_) #[true, true, true, true, true, true, true, true, true, true, true, true, true, false] rfl rfl (any_of HT_.out (by kernel_rfl)) (fun _ _ _ h => h) (Or.inl ⟨by rfl, ?_⟩) ?_ ?_
                                      rotate_left
                                      · intro w'
                                        go_simp
                                        with_reducible rfl
                                      rotate_left
                                      · simp only [Act.put, List.setIfInBounds_toArray, List.set_cons_zero, List.set_cons_succ, i64_w, i32_w]
                                        rfl
                                      refine pure_ (i := 13) (N := some 8) (v := ?_) (a' := ?_) #[true, true, true, true, true, true, true, true, true, true, true, true, true, true] rfl rfl (any_of HT_.out (by kernel_rfl)) (fun _ _ _ h => h) (Or.inl ⟨by rfl, ?_⟩) ?_ ?_
                                      rotate_left
                                      · intro w'
                                        go_simp
                                        with_reducible rfl
                                      rotate_left
                                      · simp only [Act.put, List.setIfInBounds_toArray, List.set_cons_zero, List.set_cons_succ, i64_w, i32_w]
                                        rfl
                                      refine done_ (done_of HT_.out (by kernel_rfl)) ?_
                                      try go_wp2
                                      go_meet
                                      case rel => exact ⟨_, (y237), (y206), ((⟨#[32]⟩ : ByteArray)), (by first | rfl | (simp; done) | (simp [*]; done)), (by first | rfl | (simp; done) | (simp [*]; done)), (by first | rfl | (simp; done) | (simp [*]; done)), H', ⟨by have := HJ59.out; have := HJ75.out; first | omega | exact Nat.le_refl _⟩, ⟨by (with_reducible repeat (first | refine blk_drewN ?_ _ | refine blk_drew ?_ | refine blk_alloc ?_ _)); exact BK195.out⟩, ⟨by repeat (first | (with_reducible first | exact HB.out | apply below_alloc | apply pw_below_drewN | apply below_drew1 | refine below_set ?_ GE195.out) | exact HB.out)⟩⟩
                                    · rw [if_neg c85] at H
                                      exact absurd H (by simp)
                                  · rw [if_neg c83] at H
                                    exact absurd H (by simp)
                                · rw [if_neg c82] at H
                                  exact absurd H (by simp)
                              · rw [if_neg c80] at H
                                exact absurd H (by simp)
                            · replace c78 := Bool.eq_false_iff.mpr c78
                              subst c78
                              have H1 : (polyglotlaw13_Format.j3 kj75 a2 y202 y206 (⟨#[32]⟩ : ByteArray)) = some r := by rw [if_neg (show ¬ (false = true) by decide)] at H; exact H
                              clear H
                              have H := H1
                              clear H1
                              have H' := Aside0.mk H
                              clear H
                              go_wp2
                              go_meet
                              case rel => exact ⟨_, (y202), (y206), ((⟨#[32]⟩ : ByteArray)), (by first | rfl | (simp; done) | (simp [*]; done)), (by first | rfl | (simp; done) | (simp [*]; done)), (by first | rfl | (simp; done) | (simp [*]; done)), H', ⟨by have := HJ59.out; have := HJ75.out; first | omega | exact Nat.le_refl _⟩, ⟨by (with_reducible repeat (first | refine blk_drewN ?_ _ | refine blk_drew ?_ | refine blk_alloc ?_ _)); exact BK195.out⟩, ⟨by repeat (first | (with_reducible first | exact HB.out | apply below_alloc | apply pw_below_drewN | apply below_drew1 | refine below_set ?_ GE195.out) | exact HB.out)⟩⟩
              case rest =>
                clear HC16
                try clear c1
                try clear c2
                try clear p2
                try clear c3
                try clear c4
                try clear c5
                try clear c6
                try clear p6
                try clear c7
                try clear c8
                try clear c13
                try clear c13b0
                try clear c13b1
                try clear c13b2
                try clear c15
                try clear c15b0
                try clear c15b1
                try clear c15b2
                try clear c25
                try clear c28
                try clear c28b0
                try clear c28b1
                try clear c30
                try clear c30b0
                try clear c30b1
                try clear c30b2
                try clear c32
                try clear c32b0
                try clear c32b1
                try clear c32b2
                try clear c33
                try clear c33b0
                try clear c33b1
                try clear c33b2
                try clear c35
                try clear c35b0
                try clear c35b1
                try clear c35b2
                try clear c42
                try clear c42b0
                try clear c43
                try clear c43b0
                try clear c43b1
                try clear c45
                try clear c45b0
                try clear c45b1
                try clear c45b2
                try clear c47
                try clear c47b0
                try clear c47b1
                try clear c47b2
                try clear c48
                try clear c48b0
                try clear c48b1
                try clear c48b2
                try clear c52
                try clear c53
                try clear c53b0
                try clear c53b1
                try clear c53b2
                try clear c54
                try clear c55
                try clear c55b0
                try clear c55b1
                try clear c55b2
                try clear c56
                try clear c56b0
                try clear c56b1
                try clear c56b2
                try clear c61
                try clear c61b0
                try clear c61b1
                try clear c62
                try clear c62b0
                try clear c62b1
                try clear c63
                try clear c63b0
                try clear c63b1
                try clear c64
                try clear c66
                try clear c66b0
                try clear c66b1
                try clear c66b2
                try clear c68
                try clear c68b0
                try clear c68b1
                try clear c68b2
                try clear c69
                try clear c69b0
                try clear c69b1
                try clear c69b2
                try clear c71
                try clear c71b0
                try clear c71b1
                try clear c71b2
                try clear c77
                try clear c77b0
                try clear c77b1
                try clear c78
                try clear c80
                try clear c80b0
                try clear c80b1
                try clear c80b2
                try clear c82
                try clear c82b0
                try clear c82b1
                try clear c82b2
                try clear c83
                try clear c83b0
                try clear c83b1
                try clear c83b2
                try clear c85
                try clear c85b0
                try clear c85b1
                try clear c85b2
                try clear hcz19_0
                try clear hcz19_1
                try clear hcz19_2
                try clear hcz19_3
                try clear hcz19_4
                try clear hcz19_5
                try clear hcz19_6
                try clear hcz41_0
                try clear hcz41_1
                try clear hcz41_2
                try clear hcz41_3
                try clear hcz41_4
                try clear hcz41_5
                try clear hcz41_6
                try clear hfz19_0
                try clear hfz19_1
                try clear hfz19_2
                try clear hfz19_3
                try clear hfz19_4
                try clear hfz19_5
                try clear hfz19_6
                try clear hfz41_0
                try clear hfz41_1
                try clear hfz41_2
                try clear hfz41_3
                try clear hfz41_4
                try clear hfz41_5
                try clear hfz41_6
                try clear p2
                try clear p6
                obtain ⟨kq, x8_15, x9_15, x10_15, rfl, rfl, rfl, HA, HJ15, BK195, HB⟩ := hcut
                cases kq with
                | zero => exact absurd HA.out (by simp [polyglotlaw13_Format.j3])
                | succ kj15 =>
                  have H := HA.out
                  clear HA
                  simp only [polyglotlaw13_Format.j3] at H
                  by_cases c90 : a2 = 1
                  · rw [if_pos c90] at H
                    have c90b0 : (a2 == 1) = true := beq_iff_eq.mpr c90
                    have c90b1 : (a2 != 1) = false := bne_eq_false_iff_eq.mpr c90
                    clear c90
                    obtain rfl := Option.some.inj H
                    go_wp2
                    go_ret
                    exact ⟨by first | rfl | (simp [errW_none, errW_some] <;> rfl) | (simp [*, errW_none, errW_some] <;> rfl), by repeat (first | (with_reducible first | exact HB.out | apply below_alloc | apply pw_below_drewN | apply below_drew1 | refine below_set ?_ GE195.out) | exact HB.out)⟩
                  · rw [if_neg c90] at H
                    have c90b0 : (a2 == 1) = false := beq_eq_false_iff_ne.mpr c90
                    have c90b1 : (a2 != 1) = true := bne_iff_ne.mpr c90
                    by_cases c91 : a2 = 2
                    · rw [if_pos c91] at H
                      have c91b0 : (a2 == 2) = true := beq_iff_eq.mpr c91
                      have c91b1 : (a2 != 2) = false := bne_eq_false_iff_eq.mpr c91
                      clear c91
                      by_cases c92 : x8_15.size + x10_15.size ≤ 9223372036854775807
                      · rw [if_pos c92] at H
                        have c92b0 := eq_true c92
                        have c92b1 : decide (x8_15.size + x10_15.size ≤ 9223372036854775807) = true := decide_eq_true c92
                        try have c92b2 : (9223372036854775807 < x8_15.size + x10_15.size) = False := eq_false (Nat.not_lt.2 c92)
                        replace H := Option.bind_eq_some_iff.mp H
                        obtain ⟨y238, hy2380, H⟩ := H
                        replace H : (if y238.size + x9_15.size ≤ 9223372036854775807 then ((some (y238 ++ x9_15 : ByteArray)).bind fun y239 => (some y239)) else (none)) = some r := H
                        have hy238 : x8_15 ++ x10_15 = y238 := Option.some.inj hy2380
                        clear hy2380
                        by_cases c93 : y238.size + x9_15.size ≤ 9223372036854775807
                        · rw [if_pos c93] at H
                          have c93b0 := eq_true c93
                          have c93b1 : decide (y238.size + x9_15.size ≤ 9223372036854775807) = true := decide_eq_true c93
                          try have c93b2 : (9223372036854775807 < y238.size + x9_15.size) = False := eq_false (Nat.not_lt.2 c93)
                          replace H := Option.bind_eq_some_iff.mp H
                          obtain ⟨y239, hy2390, H⟩ := H
                          replace H : (some y239) = some r := H
                          have hy239 : y238 ++ x9_15 = y239 := Option.some.inj hy2390
                          clear hy2390
                          obtain rfl := Option.some.inj H
                          go_wp2
                          go_ret
                          exact ⟨by first | rfl | (simp [errW_none, errW_some] <;> rfl) | (simp [*, errW_none, errW_some] <;> rfl), by repeat (first | (with_reducible first | exact HB.out | apply below_alloc | apply pw_below_drewN | apply below_drew1 | refine below_set ?_ GE195.out) | exact HB.out)⟩
                        · rw [if_neg c93] at H
                          exact absurd H (by simp)
                      · rw [if_neg c92] at H
                        exact absurd H (by simp)
                    · rw [if_neg c91] at H
                      have c91b0 : (a2 == 2) = false := beq_eq_false_iff_ne.mpr c91
                      have c91b1 : (a2 != 2) = true := bne_iff_ne.mpr c91
                      obtain rfl := Option.some.inj H
                      go_wp2
                      go_ret
                      exact ⟨by first | rfl | (simp [errW_none, errW_some] <;> rfl) | (simp [*, errW_none, errW_some] <;> rfl), by repeat (first | (with_reducible first | exact HB.out | apply below_alloc | apply pw_below_drewN | apply below_drew1 | refine below_set ?_ GE195.out) | exact HB.out)⟩
            · rw [if_neg c15] at H
              exact absurd H (by simp)
          · rw [if_neg c13] at H
            exact absurd H (by simp)
        · rw [if_neg c11] at H
          exact absurd H (by simp)
      · rw [if_neg c9] at H
        exact absurd H (by simp)
    · rw [if_neg c8] at H
      exact absurd H (by simp)
  · rw [if_neg c6] at H
    exact absurd H (by simp)

end Go.Proofs.YtpedajhcfkohlaaDoor.PMom
