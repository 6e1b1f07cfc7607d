import Derived.Test.YtpedajhcfkohlaaDoorPMomx2
import Derived.Lib.ItoaLen
/- What the program's writing of moments comes to, as lists of bytes. -/
namespace Go.Proofs.YtpedajhcfkohlaaDoor.Pure
open Go.RowKit Go.Proofs.YtpedajhcfkohlaaDoor.PMom Go.Proofs.YtpedajhcfkohlaaDoorHand Go.Proofs.YtpedajhcfkohlaaDoorW.PrintWords Go.Proofs.YtpedajhcfkohlaaDoorW.PrintLast Go.Proofs.YtpedajhcfkohlaaDoorW.PrintMore
set_option linter.unusedSimpArgs false
theorem mk_app (a b : List UInt8) : (⟨a.toArray⟩ : ByteArray) ++ ⟨b.toArray⟩ = ⟨(a ++ b).toArray⟩ := by
  apply ByteArray.ext
  simp [ByteArray.data_append]
theorem mk_size (l : List UInt8) : (⟨l.toArray⟩ : ByteArray).size = l.length := by simp [ByteArray.size]
theorem mk_list (l : List UInt8) : (⟨l.toArray⟩ : ByteArray).toList = l := by rw [Lib.toList_data]
theorem catS {α : Type} (a b : List UInt8) (x y : Nat) (f : ByteArray → Option α) (hx : x + y ≤ 9223372036854775807) :
    (if x + y ≤ 9223372036854775807 then (some ((⟨a.toArray⟩ : ByteArray) ++ ⟨b.toArray⟩)).bind f else none) = f ⟨(a ++ b).toArray⟩ := by
  rw [if_pos hx, Option.bind_some, mk_app]
theorem itoa_f (n : Int) (h1 : -9223372036854775808 ≤ n) (h2 : n ≤ 9223372036854775807) : strconv_Itoa.f n = some ⟨(Lib.itoa n).toArray⟩ := by
  unfold strconv_Itoa.f; rw [if_pos ⟨h1, h2⟩]
def padL (n L : Int) : List UInt8 := (if n < 0 then [45] else []) ++ Lib.repeatL [48] (L - (Lib.itoa (if n < 0 then -n else n)).length).toNat ++ Lib.itoa (if n < 0 then -n else n)
theorem padL_len (n L : Int) (h1 : -1000000000 ≤ n) (h2 : n ≤ 1000000000) (h3 : L ≤ 4) : (padL n L).length ≤ 30 := by
  unfold padL
  by_cases h : n < 0
  · have l := Lib.itoa_length_le (-n) (by omega) (by omega)
    simp only [if_pos h, List.length_append, Lib.repeatL_length, List.length_cons, List.length_nil]; omega
  · have l := Lib.itoa_length_le n (by omega) (by omega)
    simp only [if_neg h, List.length_append, Lib.repeatL_length, List.length_cons, List.length_nil]; omega
theorem pad_eq (n L : Int) (h1 : -1000000000 ≤ n) (h2 : n ≤ 1000000000) (h3 : 0 ≤ L) (h4 : L ≤ 4) : moment_pad.f n L = some ⟨(padL n L).toArray⟩ := by
  have key : ∀ m : Int, 0 ≤ m → m ≤ 1000000000 → strings_Repeat.f (⟨#[48]⟩ : ByteArray) (mx 0 (wrap64 (L - ((⟨(Lib.itoa m).toArray⟩ : ByteArray).size : Int)))) = some ⟨(Lib.repeatL [48] (L - (Lib.itoa m).length).toNat).toArray⟩ := by
    intro m m1 m2
    have l := Lib.itoa_length_le m (by omega) (by omega)
    rw [mk_size]
    have w : wrap64 (L - ((Lib.itoa m).length : Int)) = L - (Lib.itoa m).length := wrap_id (by omega) (by omega)
    rw [w]
    unfold strings_Repeat.f mx
    rw [if_pos ⟨by split <;> omega, by split <;> omega, by decide⟩]
    congr 2
    have e : (if 0 < L - ((Lib.itoa m).length : Int) then L - ((Lib.itoa m).length : Int) else 0).toNat = (L - ((Lib.itoa m).length : Int)).toNat := by split <;> omega
    rw [e]
  have rl : ∀ m : Int, 0 ≤ m → m ≤ 1000000000 → (Lib.repeatL [48] (L - (Lib.itoa m).length).toNat).length ≤ 4 := by
    intro m _ _
    rw [Lib.repeatL_length]; simp; omega
  unfold moment_pad.f padL
  by_cases h : n < 0
  · have l := Lib.itoa_length_le (-n) (by omega) (by omega)
    have r := rl (-n) (by omega) (by omega)
    simp only [if_pos h]
    rw [wrap_id (x := -n) (by omega) (by omega), itoa_f _ (by omega) (by omega)]
    simp only [Option.bind_some]
    rw [key (-n) (by omega) (by omega)]
    simp only [Option.bind_some]
    (simp only [Option.bind_some, mk_app, mk_size, List.length_append, List.length_cons, List.length_nil]; (repeat rw [if_pos (by omega)]); (try simp only [List.append_assoc, List.cons_append, List.nil_append]))
  · have l := Lib.itoa_length_le n (by omega) (by omega)
    have r := rl n (by omega) (by omega)
    simp only [if_neg h]
    rw [itoa_f _ (by omega) (by omega)]
    simp only [Option.bind_some]
    rw [key n (by omega) (by omega)]
    simp only [Option.bind_some]
    (simp only [Option.bind_some, mk_app, mk_size, List.length_append, List.length_cons, List.length_nil]; (repeat rw [if_pos (by omega)]); (try simp only [List.append_assoc, List.cons_append, List.nil_append]))
def clockL (lang : ByteArray) (h m : Int) : List UInt8 :=
  if lang.toList = [101, 110] then padL ((h + 11) % 12 + 1) 1 ++ [58] ++ padL m 2 ++ [32] ++ (if h ≥ 12 then [80, 77] else [65, 77]) else padL h 2 ++ [58] ++ padL m 2
theorem clock_eq (lang : ByteArray) (y mo d h m s wk : Int) (h1 : 0 ≤ h) (h2 : h ≤ 23) (m1 : 0 ≤ m) (m2 : m ≤ 59) : moment_clock.f lang y mo d h m s wk = some ⟨(clockL lang h m).toArray⟩ := by
  have p1 := padL_len ((h + 11) % 12 + 1) 1 (by omega) (by omega) (by omega)
  have p2 := padL_len m 2 (by omega) (by omega) (by omega)
  have p3 := padL_len h 2 (by omega) (by omega) (by omega)
  have w : wrap64 ((Int.tmod (wrap64 (h + 11)) 12) + 1) = (h + 11) % 12 + 1 := by
    rw [wrap_id (x := h + 11) (by omega) (by omega), tmod_pos (by omega), wrap_id (by omega) (by omega)]
  have q1 := pad_eq ((h + 11) % 12 + 1) 1 (by omega) (by omega) (by omega) (by omega)
  have q2 := pad_eq m 2 (by omega) (by omega) (by omega) (by omega)
  have q3 := pad_eq h 2 (by omega) (by omega) (by omega) (by omega)
  unfold moment_clock.f clockL
  by_cases hl : lang.toList = ([101, 110] : List UInt8)
  · rw [if_pos hl, if_pos hl, w]
    by_cases h12 : h ≥ 12
    · rw [if_pos h12, if_pos h12, q1]
      simp only [Option.bind_some, q2]
      (simp only [Option.bind_some, mk_app, mk_size, List.length_append, List.length_cons, List.length_nil]; (repeat rw [if_pos (by omega)]); (try simp only [List.append_assoc, List.cons_append, List.nil_append]))
    · rw [if_neg h12, if_neg h12, q1]
      simp only [Option.bind_some, q2]
      (simp only [Option.bind_some, mk_app, mk_size, List.length_append, List.length_cons, List.length_nil]; (repeat rw [if_pos (by omega)]); (try simp only [List.append_assoc, List.cons_append, List.nil_append]))
  · rw [if_neg hl, if_neg hl, q3]
    simp only [Option.bind_some, q2]
    (simp only [Option.bind_some, mk_app, mk_size, List.length_append, List.length_cons, List.length_nil]; (repeat rw [if_pos (by omega)]); (try simp only [List.append_assoc, List.cons_append, List.nil_append]))
def dayL (lang : ByteArray) (y m d : Int) : List UInt8 :=
  if lang.toList = [101, 110] then padL m 1 ++ [47] ++ padL d 1 ++ [47] ++ padL y 4
  else if lang.toList = [100, 101] ∨ lang.toList = [99, 115] ∨ lang.toList = [112, 108] ∨ lang.toList = [114, 117] then padL d 2 ++ [46] ++ padL m 2 ++ [46] ++ padL y 4
  else if lang.toList = [102, 114] ∨ lang.toList = [101, 115] then padL d 2 ++ [47] ++ padL m 2 ++ [47] ++ padL y 4
  else padL y 4 ++ [45] ++ padL m 2 ++ [45] ++ padL d 2
theorem day_eq (k : Nat) (lang : ByteArray) (y m d h mi s wk : Int) (hk : 0 < k) (y1 : -1000000000 ≤ y) (y2 : y ≤ 1000000000) (m1 : 1 ≤ m) (m2 : m ≤ 12) (d1 : 1 ≤ d) (d2 : d ≤ 31) :
    moment_day.f k lang y m d h mi s wk = some ⟨(dayL lang y m d).toArray⟩ := by
  obtain ⟨k, rfl⟩ : ∃ j, k = j + 1 := ⟨k - 1, by omega⟩
  have p1 := padL_len y 4 (by omega) (by omega) (by omega)
  have p2 := padL_len m 2 (by omega) (by omega) (by omega)
  have p3 := padL_len d 2 (by omega) (by omega) (by omega)
  have p4 := padL_len m 1 (by omega) (by omega) (by omega)
  have p5 := padL_len d 1 (by omega) (by omega) (by omega)
  unfold moment_day.f dayL
  rw [pad_eq y 4 (by omega) (by omega) (by omega) (by omega), pad_eq m 2 (by omega) (by omega) (by omega) (by omega), pad_eq d 2 (by omega) (by omega) (by omega) (by omega), pad_eq m 1 (by omega) (by omega) (by omega) (by omega), pad_eq d 1 (by omega) (by omega) (by omega) (by omega)]
  simp only [Option.bind_some]
  have jt : ∀ b : Bool, b = true → moment_day.j0 (k + 1) ⟨(padL y 4).toArray⟩ ⟨(padL m 2).toArray⟩ ⟨(padL d 2).toArray⟩ lang b = some ⟨(padL d 2 ++ [46] ++ padL m 2 ++ [46] ++ padL y 4).toArray⟩ := by
    intro b hb
    rw [moment_day.j0, if_pos hb]
    (simp only [Option.bind_some, mk_app, mk_size, List.length_append, List.length_cons, List.length_nil]; (repeat rw [if_pos (by omega)]); (try simp only [List.append_assoc, List.cons_append, List.nil_append]))
  have jf : moment_day.j0 (k + 1) ⟨(padL y 4).toArray⟩ ⟨(padL m 2).toArray⟩ ⟨(padL d 2).toArray⟩ lang false = some ⟨(if lang.toList = [102, 114] ∨ lang.toList = [101, 115] then padL d 2 ++ [47] ++ padL m 2 ++ [47] ++ padL y 4 else padL y 4 ++ [45] ++ padL m 2 ++ [45] ++ padL d 2).toArray⟩ := by
    rw [moment_day.j0, if_neg (by simp)]
    by_cases a : lang.toList = ([102, 114] : List UInt8)
    · rw [if_pos a, if_pos (Or.inl a)]
      (simp only [Option.bind_some, mk_app, mk_size, List.length_append, List.length_cons, List.length_nil]; (repeat rw [if_pos (by omega)]); (try simp only [List.append_assoc, List.cons_append, List.nil_append]))
    · rw [if_neg a]
      by_cases b : lang.toList = ([101, 115] : List UInt8)
      · rw [if_pos b, if_pos (Or.inr b)]
        (simp only [Option.bind_some, mk_app, mk_size, List.length_append, List.length_cons, List.length_nil]; (repeat rw [if_pos (by omega)]); (try simp only [List.append_assoc, List.cons_append, List.nil_append]))
      · rw [if_neg b, if_neg (c := lang.toList = ([102, 114] : List UInt8) ∨ lang.toList = ([101, 115] : List UInt8)) (fun h => h.elim a b)]
        (simp only [Option.bind_some, mk_app, mk_size, List.length_append, List.length_cons, List.length_nil]; (repeat rw [if_pos (by omega)]); (try simp only [List.append_assoc, List.cons_append, List.nil_append]))
  by_cases a : lang.toList = ([101, 110] : List UInt8)
  · rw [if_pos a, if_pos a]
    (simp only [Option.bind_some, mk_app, mk_size, List.length_append, List.length_cons, List.length_nil]; (repeat rw [if_pos (by omega)]); (try simp only [List.append_assoc, List.cons_append, List.nil_append]))
  · rw [if_neg a, if_neg a]
    by_cases b : lang.toList = ([100, 101] : List UInt8)
    · rw [if_pos b, if_pos (Or.inl b), jt _ (by rw [b]; rfl)]
    · rw [if_neg b]
      by_cases c : lang.toList = ([99, 115] : List UInt8)
      · rw [if_pos c, if_pos (Or.inr (Or.inl c)), jt _ (by rw [c]; rfl)]
      · rw [if_neg c]
        by_cases e : lang.toList = ([112, 108] : List UInt8)
        · rw [if_pos e, if_pos (Or.inr (Or.inr (Or.inl e))), jt _ (by rw [e]; rfl)]
        · rw [if_neg e]
          by_cases g : lang.toList = ([114, 117] : List UInt8)
          · rw [if_pos (Or.inr (Or.inr (Or.inr g))), jt _ (by rw [g]; rfl)]
          · have gf : (lang.toList == ([114, 117] : List UInt8)) = false := by simpa using g
            rw [gf, jf]
            rw [if_neg (c := lang.toList = ([100, 101] : List UInt8) ∨ lang.toList = ([99, 115] : List UInt8) ∨ lang.toList = ([112, 108] : List UInt8) ∨ lang.toList = ([114, 117] : List UInt8)) (fun h => h.elim b (fun h => h.elim c (fun h => h.elim e g)))]
end Go.Proofs.YtpedajhcfkohlaaDoor.Pure
