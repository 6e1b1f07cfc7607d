import Derived.Test.YtpedajhcfkohlaaDoorMomR
/- The three words of the styles. -/
namespace Go.Proofs.YtpedajhcfkohlaaDoor.Pure
open Go.RowKit Go.Proofs.YtpedajhcfkohlaaDoor.PMom Go.Proofs.YtpedajhcfkohlaaDoorHand Go.Proofs.YtpedajhcfkohlaaDoorW.PrintWords Go.Proofs.YtpedajhcfkohlaaDoorW.PrintLast Go.Proofs.YtpedajhcfkohlaaDoorW.PrintMore
theorem parse_eq (w : ByteArray) : moment_Parse.f 5 w = some (if w.toList = [100, 97, 116, 101] then (0, true) else if w.toList = [116, 105, 109, 101] then (1, true) else if w.toList = [102, 117, 108, 108] then (2, true) else (0, false)) := by
  unfold moment_Parse.f
  simp only [Option.bind_some]
  have r0 : (rdOf ByteArray.empty [(⟨#[100, 97, 116, 101]⟩ : ByteArray), (⟨#[116, 105, 109, 101]⟩ : ByteArray), (⟨#[102, 117, 108, 108]⟩ : ByteArray)] 0).toList = ([100, 97, 116, 101] : List UInt8) := by decide +kernel
  have r1 : (rdOf ByteArray.empty [(⟨#[100, 97, 116, 101]⟩ : ByteArray), (⟨#[116, 105, 109, 101]⟩ : ByteArray), (⟨#[102, 117, 108, 108]⟩ : ByteArray)] 1).toList = ([116, 105, 109, 101] : List UInt8) := by decide +kernel
  have r2 : (rdOf ByteArray.empty [(⟨#[100, 97, 116, 101]⟩ : ByteArray), (⟨#[116, 105, 109, 101]⟩ : ByteArray), (⟨#[102, 117, 108, 108]⟩ : ByteArray)] 2).toList = ([102, 117, 108, 108] : List UInt8) := by decide +kernel
  rw [moment_Parse.l0, if_pos (by decide), if_pos (by decide), if_pos (by decide), r0, wrap_id (x := 0 + 1) (by decide) (by decide)]
  by_cases a : w.toList = ([100, 97, 116, 101] : List UInt8)
  · rw [if_pos a.symm, if_pos a]
  · rw [if_neg (fun h => a h.symm), if_neg a]
    rw [moment_Parse.l0, if_pos (by decide), if_pos (by decide), if_pos (by decide), show (0 + 1 : Int) = 1 from rfl, r1, wrap_id (x := 1 + 1) (by decide) (by decide)]
    by_cases b : w.toList = ([116, 105, 109, 101] : List UInt8)
    · rw [if_pos b.symm, if_pos b]
    · rw [if_neg (fun h => b h.symm), if_neg b]
      rw [moment_Parse.l0, if_pos (by decide), if_pos (by decide), if_pos (by decide), show (1 + 1 : Int) = 2 from rfl, r2, wrap_id (x := 2 + 1) (by decide) (by decide)]
      by_cases c : w.toList = ([102, 117, 108, 108] : List UInt8)
      · rw [if_pos c.symm, if_pos c]
      · rw [if_neg (fun h => c h.symm), if_neg c]
        rw [moment_Parse.l0, if_neg (by decide)]
theorem MomentWords : polyglotlaw13_MomentWords.Pure := by
  intro w _
  refine ⟨5, ?_⟩
  unfold polyglotlaw13_MomentWords.f
  rw [head_true 5 (by decide), parse_eq]
  simp only [Option.bind_some, if_true]
  by_cases a : w.toList = ([100, 97, 116, 101] : List UInt8)
  · simp only [if_pos a]; rfl
  · simp only [if_neg a]
    by_cases b : w.toList = ([116, 105, 109, 101] : List UInt8)
    · simp only [if_pos b]; rfl
    · simp only [if_neg b]
      by_cases c : w.toList = ([102, 117, 108, 108] : List UInt8)
      · simp only [if_pos c]; rfl
      · simp only [if_neg c]; rfl
end Go.Proofs.YtpedajhcfkohlaaDoor.Pure
