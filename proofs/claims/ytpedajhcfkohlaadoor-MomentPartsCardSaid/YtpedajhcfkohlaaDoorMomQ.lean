import Derived.Test.YtpedajhcfkohlaaDoorMomF
/- The whole text of a moment, the program's and the statement's own, as one list of bytes. -/
namespace Go.Proofs.YtpedajhcfkohlaaDoor.Pure
open Go.RowKit Go.Proofs.YtpedajhcfkohlaaDoor.PMom Go.Proofs.YtpedajhcfkohlaaDoorHand Go.Proofs.YtpedajhcfkohlaaDoorW.PrintWords Go.Proofs.YtpedajhcfkohlaaDoorW.PrintLast Go.Proofs.YtpedajhcfkohlaaDoorW.PrintMore
set_option linter.unusedSimpArgs false
def yS (s : Int) : Int := cyear (clamp s / 86400)
def moS (s : Int) : Int := cmon (clamp s / 86400)
def dS (s : Int) : Int := cday (clamp s / 86400)
def hS (s : Int) : Int := clamp s % 86400 / 3600
def mS (s : Int) : Int := clamp s % 86400 / 60 % 60
theorem year_rng (n : Int) (h1 : -104249991375 ≤ n) (h2 : n ≤ 104249991375) : -1000000000 ≤ cyear n ∧ cyear n ≤ 1000000000 := by
  have := yo_rng (cD n) (cD_rng n).1 (cD_rng n).2
  unfold cyear; split <;> omega
theorem yS_rng (s : Int) : -1000000000 ≤ yS s ∧ yS s ≤ 1000000000 := by
  have := clamp_rng s
  exact year_rng _ (by omega) (by omega)
theorem moS_rng (s : Int) : 1 ≤ moS s ∧ moS s ≤ 12 := mon_rng _
theorem dS_rng (s : Int) : 1 ≤ dS s ∧ dS s ≤ 31 := by
  have a := day_rng (clamp s / 86400)
  have b := dim_rng (cyear (clamp s / 86400)) (cmon (clamp s / 86400))
  unfold dS; omega
theorem hS_rng (s : Int) : 0 ≤ hS s ∧ hS s ≤ 23 := by unfold hS; omega
theorem mS_rng (s : Int) : 0 ≤ mS s ∧ mS s ≤ 59 := by unfold mS; omega
def btw (lang : ByteArray) : List UInt8 := if lang.toList = [101, 110] then [44, 32] else [32]
def fmtL (lang : ByteArray) (y mo d h mi style : Int) : List UInt8 :=
  if style = 1 then clockL lang h mi else if style = 2 then dayL lang y mo d ++ btw lang ++ clockL lang h mi else dayL lang y mo d
theorem dayL_len (lang : ByteArray) (y m d : Int) (y1 : -1000000000 ≤ y) (y2 : y ≤ 1000000000) (m1 : 1 ≤ m) (m2 : m ≤ 12) (d1 : 1 ≤ d) (d2 : d ≤ 31) : (dayL lang y m d).length ≤ 200 := by
  have p1 := padL_len y 4 (by omega) (by omega) (by omega)
  have p2 := padL_len m 2 (by omega) (by omega) (by omega)
  have p3 := padL_len d 2 (by omega) (by omega) (by omega)
  have p4 := padL_len m 1 (by omega) (by omega) (by omega)
  have p5 := padL_len d 1 (by omega) (by omega) (by omega)
  unfold dayL
  split
  · simp only [List.length_append, List.length_cons, List.length_nil]; omega
  · split
    · simp only [List.length_append, List.length_cons, List.length_nil]; omega
    · split <;> (simp only [List.length_append, List.length_cons, List.length_nil]; omega)
theorem clockL_len (lang : ByteArray) (h m : Int) (h1 : 0 ≤ h) (h2 : h ≤ 23) (m1 : 0 ≤ m) (m2 : m ≤ 59) : (clockL lang h m).length ≤ 200 := by
  have p1 := padL_len ((h + 11) % 12 + 1) 1 (by omega) (by omega) (by omega)
  have p2 := padL_len m 2 (by omega) (by omega) (by omega)
  have p3 := padL_len h 2 (by omega) (by omega) (by omega)
  unfold clockL
  split
  · split <;> (simp only [List.length_append, List.length_cons, List.length_nil]; omega)
  · simp only [List.length_append, List.length_cons, List.length_nil]; omega
theorem fmt_eq (k : Nat) (lang : ByteArray) (s style : Int) (hk : 0 < k) :
    moment_Format.f k lang s style = some ⟨(fmtL lang (yS s) (moS s) (dS s) (hS s) (mS s) style).toArray⟩ := by
  have y := yS_rng s
  have mo := moS_rng s
  have d := dS_rng s
  have h := hS_rng s
  have mi := mS_rng s
  have e : date_From.f s = some (yS s, moS s, dS s, hS s, mS s, clamp s % 60, (clamp s / 86400 + 4) % 7) := rfl
  unfold moment_Format.f
  rw [e]
  generalize yS s = Y at *
  generalize moS s = M at *
  generalize dS s = D at *
  generalize hS s = H at *
  generalize mS s = I at *
  have l1 := dayL_len lang Y M D y.1 y.2 mo.1 mo.2 d.1 d.2
  have l2 := clockL_len lang H I h.1 h.2 mi.1 mi.2
  simp only [Option.bind_some]
  rw [clock_eq lang Y M D H I _ _ h.1 h.2 mi.1 mi.2, day_eq k lang Y M D H I _ _ hk y.1 y.2 mo.1 mo.2 d.1 d.2]
  unfold fmtL btw
  by_cases s1 : style = 1
  · rw [if_pos s1, if_pos s1]; rfl
  · rw [if_neg s1, if_neg s1]
    by_cases s2 : style = 2
    · rw [if_pos s2, if_pos s2]
      by_cases hl : lang.toList = ([101, 110] : List UInt8)
      · rw [if_pos hl, if_pos hl]
        (simp only [Option.bind_some, mk_app, mk_size, List.length_append, List.length_cons, List.length_nil]; (repeat rw [if_pos (by omega)]); (try simp only [List.append_assoc, List.cons_append, List.nil_append]))
      · rw [if_neg hl, if_neg hl]
        (simp only [Option.bind_some, mk_app, mk_size, List.length_append, List.length_cons, List.length_nil]; (repeat rw [if_pos (by omega)]); (try simp only [List.append_assoc, List.cons_append, List.nil_append]))
    · rw [if_neg s2, if_neg s2]; rfl
theorem itoa_len1 (n : Int) (h : 0 ≤ n) : 1 ≤ (Lib.itoa n).length := by
  obtain ⟨u, rfl⟩ : ∃ u : Nat, n = u := ⟨n.toNat, by omega⟩
  rw [Lib.itoa_nonneg]
  rw [Lib.decDigits]; split <;> simp
theorem pad1 (n : Int) (h : 0 ≤ n) : padL n 1 = Lib.itoa n := by
  have := itoa_len1 n h
  unfold padL
  simp only [if_neg (show ¬ n < 0 by omega), List.nil_append]
  have e : (1 - ((Lib.itoa n).length : Int)).toNat = 0 := by omega
  rw [e]; rfl
theorem itoa_pad (n : Int) (h : 0 ≤ n) (h2 : n ≤ 1000000000) : strconv_Itoa.f n = some ⟨(padL n 1).toArray⟩ := by
  rw [itoa_f n (by omega) (by omega), pad1 n h]
theorem two_eq (n : Int) (h : 0 ≤ n) (h2 : n < 100) : polyglotlaw13_two.f n = some ⟨(padL n 2).toArray⟩ := by
  unfold polyglotlaw13_two.f
  obtain ⟨u, rfl⟩ : ∃ u : Nat, n = u := ⟨n.toNat, by omega⟩
  have l := Lib.itoa_length_le u (by omega) (by omega)
  rw [itoa_f u (by omega) (by omega)]
  unfold padL
  simp only [if_neg (show ¬ (u : Int) < 0 by omega), List.nil_append]
  by_cases h3 : (u : Int) < 10
  · rw [if_pos h3]
    have e : Lib.itoa (u : Int) = [UInt8.ofNat (48 + u)] := by rw [Lib.itoa_nonneg, Lib.decDigits_one (by omega)]
    rw [e]
    (simp only [Option.bind_some, mk_app, mk_size, List.length_append, List.length_cons, List.length_nil]; (repeat rw [if_pos (by omega)]); (try simp only [List.append_assoc, List.cons_append, List.nil_append]))
    rfl
  · rw [if_neg h3]
    have e : Lib.itoa (u : Int) = [UInt8.ofNat (48 + u / 10), UInt8.ofNat (48 + u % 10)] := by rw [Lib.itoa_nonneg, Lib.decDigits_two (by omega) (by omega)]
    rw [e]
    rfl
theorem rep_snoc (n : Nat) (l : List UInt8) : Lib.repeatL [48] n ++ 48 :: l = Lib.repeatL [48] (n + 1) ++ l := by
  rw [Lib.repeatL_add, Lib.repeatL_one]; simp
theorem four_l0 (n : Nat) : ∀ (k : Nat) (l : List UInt8), n < k → (4 - (l.length : Int)).toNat = n → l.length ≤ 30 → polyglotlaw13_four.l0 k ⟨l.toArray⟩ = some ⟨(Lib.repeatL [48] n ++ l).toArray⟩ := by
  induction n with
  | zero =>
    intro k l hk hl h30
    obtain ⟨k, rfl⟩ : ∃ j, k = j + 1 := ⟨k - 1, by omega⟩
    rw [polyglotlaw13_four.l0, if_neg (by rw [mk_size]; omega)]; rfl
  | succ n ih =>
    intro k l hk hl h30
    obtain ⟨k, rfl⟩ : ∃ j, k = j + 1 := ⟨k - 1, by omega⟩
    rw [polyglotlaw13_four.l0, if_pos (by rw [mk_size]; omega)]
    (simp only [Option.bind_some, mk_app, mk_size, List.length_append, List.length_cons, List.length_nil]; (repeat rw [if_pos (by omega)]); (try simp only [List.append_assoc, List.cons_append, List.nil_append]))
    rw [ih k (48 :: l) (by omega) (by simp; omega) (by simp; omega), rep_snoc]
theorem four_pos (k : Nat) (n : Int) (hk : 6 ≤ k) (h1 : 0 ≤ n) (h2 : n ≤ 1000000000) : polyglotlaw13_four.f k n = some ⟨(padL n 4).toArray⟩ := by
  obtain ⟨k, rfl⟩ : ∃ j, k = j + 1 := ⟨k - 1, by omega⟩
  have l := Lib.itoa_length_le n (by omega) (by omega)
  rw [polyglotlaw13_four.f, if_neg (by omega), itoa_f n (by omega) (by omega)]
  simp only [Option.bind_some]
  rw [four_l0 (4 - ((Lib.itoa n).length : Int)).toNat k _ (by omega) rfl (by omega)]
  unfold padL
  simp only [if_neg (show ¬ n < 0 by omega), List.nil_append]
theorem four_eq (k : Nat) (n : Int) (hk : 7 ≤ k) (h1 : -1000000000 ≤ n) (h2 : n ≤ 1000000000) : polyglotlaw13_four.f k n = some ⟨(padL n 4).toArray⟩ := by
  by_cases h : n < 0
  · obtain ⟨k, rfl⟩ : ∃ j, k = j + 1 := ⟨k - 1, by omega⟩
    have p := padL_len (-n) 4 (by omega) (by omega) (by omega)
    rw [polyglotlaw13_four.f, if_pos h, wrap_id (x := -n) (by omega) (by omega), four_pos k (-n) (by omega) (by omega) (by omega)]
    (simp only [Option.bind_some, mk_app, mk_size, List.length_append, List.length_cons, List.length_nil]; (repeat rw [if_pos (by omega)]); (try simp only [List.append_assoc, List.cons_append, List.nil_append]))
    unfold padL
    simp only [if_pos h, if_neg (show ¬ -n < 0 by omega), List.nil_append, List.cons_append]
  · exact four_pos k n (by omega) (by omega) h2
theorem j3_fmt (k : Nat) (style : Int) (d c b : List UInt8) (h1 : d.length ≤ 200) (h2 : c.length ≤ 200) (h3 : b.length ≤ 200) :
    polyglotlaw13_Format.j3 (k + 1) style ⟨d.toArray⟩ ⟨c.toArray⟩ ⟨b.toArray⟩ = some ⟨(if style = 1 then c else if style = 2 then d ++ b ++ c else d).toArray⟩ := by
  rw [polyglotlaw13_Format.j3]
  by_cases s1 : style = 1
  · rw [if_pos s1, if_pos s1]
  · rw [if_neg s1, if_neg s1]
    by_cases s2 : style = 2
    · rw [if_pos s2, if_pos s2]
      (simp only [Option.bind_some, mk_app, mk_size, List.length_append, List.length_cons, List.length_nil]; (repeat rw [if_pos (by omega)]); (try simp only [List.append_assoc, List.cons_append, List.nil_append]))
    · rw [if_neg s2, if_neg s2]
theorem lfmt_eq (k : Nat) (lang : ByteArray) (s style : Int) (hk : 700 ≤ k) :
    polyglotlaw13_Format.f k lang s style = some ⟨(fmtL lang (yS s) (moS s) (dS s) (hS s) (mS s) style).toArray⟩ := by
  have y := yS_rng s
  have mo := moS_rng s
  have d := dS_rng s
  have h := hS_rng s
  have mi := mS_rng s
  have e : polyglotlaw05_From.f k s = some (yS s, moS s, dS s, hS s, mS s, clamp s % 60, (clamp s / 86400 + 4) % 7) := lawFrom_eq s k (by omega)
  unfold polyglotlaw13_Format.f
  rw [e]
  generalize yS s = Y at *
  generalize moS s = M at *
  generalize dS s = D at *
  generalize hS s = H at *
  generalize mS s = I at *
  generalize clamp s % 60 = SE
  generalize (clamp s / 86400 + 4) % 7 = WK
  clear e
  have p1 := padL_len Y 4 (by omega) (by omega) (by omega)
  have p2 := padL_len M 2 (by omega) (by omega) (by omega)
  have p3 := padL_len D 2 (by omega) (by omega) (by omega)
  have p4 := padL_len M 1 (by omega) (by omega) (by omega)
  have p5 := padL_len D 1 (by omega) (by omega) (by omega)
  have p6 := padL_len H 2 (by omega) (by omega) (by omega)
  have p7 := padL_len I 2 (by omega) (by omega) (by omega)
  have fY : ∀ K, 7 ≤ K → polyglotlaw13_four.f K Y = some ⟨(padL Y 4).toArray⟩ := fun K hK => four_eq K Y hK (by omega) (by omega)
  have tM := two_eq M (by omega) (by omega)
  have tD := two_eq D (by omega) (by omega)
  have tH := two_eq H (by omega) (by omega)
  have tI := two_eq I (by omega) (by omega)
  have iM := itoa_pad M (by omega) (by omega)
  have iD := itoa_pad D (by omega) (by omega)
  obtain ⟨k, rfl⟩ : ∃ j, k = j + 1 + 1 + 1 := ⟨k - 3, by omega⟩
  simp only [Option.bind_some, fY (k + 1 + 1 + 1) (by omega), tM, tD, tH, tI, iM, iD, mk_app, mk_size, List.length_append, List.length_cons, List.length_nil]
  rw [if_pos (by omega), if_pos (by omega), if_pos (by omega), if_pos (by omega), if_pos (by omega), if_pos (by omega)]
  have j2 : ∀ K b, 7 ≤ K → (b = true ↔ (lang.toList = [102, 114] ∨ lang.toList = [101, 115])) → polyglotlaw13_Format.j2 (K + 1 + 1) style ⟨(padL Y 4 ++ [45] ++ padL M 2 ++ [45] ++ padL D 2).toArray⟩ ⟨(padL H 2 ++ [58] ++ padL I 2).toArray⟩ ⟨#[32]⟩ b Y M D H I SE WK
      = some ⟨(if style = 1 then padL H 2 ++ [58] ++ padL I 2 else if style = 2 then (if lang.toList = [102, 114] ∨ lang.toList = [101, 115] then padL D 2 ++ [47] ++ padL M 2 ++ [47] ++ padL Y 4 else padL Y 4 ++ [45] ++ padL M 2 ++ [45] ++ padL D 2) ++ [32] ++ (padL H 2 ++ [58] ++ padL I 2) else (if lang.toList = [102, 114] ∨ lang.toList = [101, 115] then padL D 2 ++ [47] ++ padL M 2 ++ [47] ++ padL Y 4 else padL Y 4 ++ [45] ++ padL M 2 ++ [45] ++ padL D 2)).toArray⟩ := by
    intro K b hK hb
    rw [polyglotlaw13_Format.j2]
    by_cases hb2 : b = true
    · rw [if_pos hb2]
      simp only [if_pos (hb.1 hb2)]
      simp only [Option.bind_some, fY (K + 1) (by omega), tM, tD, mk_app, mk_size, List.length_append, List.length_cons, List.length_nil]
      rw [if_pos (by omega), if_pos (by omega), if_pos (by omega), if_pos (by omega)]
      exact j3_fmt K style _ _ [32] (by simp only [List.length_append, List.length_cons, List.length_nil]; omega) (by simp only [List.length_append, List.length_cons, List.length_nil]; omega) (by decide)
    · rw [if_neg hb2]
      simp only [if_neg (fun h => hb2 (hb.2 h))]
      exact j3_fmt K style _ _ [32] (by simp only [List.length_append, List.length_cons, List.length_nil]; omega) (by simp only [List.length_append, List.length_cons, List.length_nil]; omega) (by decide)
  have big : ∀ l : List UInt8, l.length ≤ 200 → l.length ≤ 200 := fun _ h => h
  by_cases a : lang.toList = ([101, 110] : List UInt8)
  · unfold fmtL dayL btw clockL
    simp only [if_pos a]
    rw [if_pos (by omega), if_pos (by omega), if_pos (by omega), if_pos (by omega)]
    have fin : ∀ x ap : Int → List UInt8, True := fun _ _ => trivial
    have j0 : ∀ (K : Nat) (x : Int) (ap : List UInt8), ap.length = 3 → 0 ≤ x → x < 12 → (H + 11) % 12 + 1 = (if x = 0 then 12 else x) →
        polyglotlaw13_Format.j0 (K + 1 + 1) style ⟨(padL M 1 ++ [47] ++ padL D 1 ++ [47] ++ padL Y 4).toArray⟩ x ⟨ap.toArray⟩ Y M D H I SE WK
        = some ⟨(if style = 1 then padL ((H + 11) % 12 + 1) 1 ++ [58] ++ padL I 2 ++ ap else if style = 2 then padL M 1 ++ [47] ++ padL D 1 ++ [47] ++ padL Y 4 ++ [44, 32] ++ (padL ((H + 11) % 12 + 1) 1 ++ [58] ++ padL I 2 ++ ap) else padL M 1 ++ [47] ++ padL D 1 ++ [47] ++ padL Y 4).toArray⟩ := by
      intro K x ap hap x0 x12 hx
      have q := padL_len ((H + 11) % 12 + 1) 1 (by omega) (by omega) (by omega)
      rw [polyglotlaw13_Format.j0]
      by_cases z : x = 0
      · rw [if_pos z] at hx ⊢
        rw [hx] at q ⊢
        rw [itoa_pad 12 (by omega) (by omega), tI]
        simp only [Option.bind_some, mk_app, mk_size, List.length_append, List.length_cons, List.length_nil, hap]
        rw [if_pos (by omega), if_pos (by omega), if_pos (by omega)]
        exact j3_fmt K style _ _ [44, 32] (by simp only [List.length_append, List.length_cons, List.length_nil]; omega) (by simp only [List.length_append, List.length_cons, List.length_nil]; omega) (by decide)
      · rw [if_neg z] at hx ⊢
        rw [hx] at q ⊢
        rw [itoa_pad x (by omega) (by omega), tI]
        simp only [Option.bind_some, mk_app, mk_size, List.length_append, List.length_cons, List.length_nil, hap]
        rw [if_pos (by omega), if_pos (by omega), if_pos (by omega)]
        exact j3_fmt K style _ _ [44, 32] (by simp only [List.length_append, List.length_cons, List.length_nil]; omega) (by simp only [List.length_append, List.length_cons, List.length_nil]; omega) (by decide)
    by_cases h12 : H ≥ 12
    · simp only [if_pos h12]
      rw [wrap_id (x := H - 12) (by omega) (by omega), j0 (k + 1) (H - 12) [32, 80, 77] rfl (by omega) (by omega) (by split <;> omega)]
      simp only [List.append_assoc, List.cons_append, List.nil_append]
    · simp only [if_neg h12]
      rw [j0 (k + 1) H [32, 65, 77] rfl (by omega) (by omega) (by split <;> omega)]
      simp only [List.append_assoc, List.cons_append, List.nil_append]
  · simp only [if_neg a]
    have j1 : ∀ b, (b = true ↔ (lang.toList = [100, 101] ∨ lang.toList = [99, 115] ∨ lang.toList = [112, 108] ∨ lang.toList = [114, 117])) → polyglotlaw13_Format.j1 (k + 1 + 1 + 1) style ⟨(padL Y 4 ++ [45] ++ padL M 2 ++ [45] ++ padL D 2).toArray⟩ ⟨(padL H 2 ++ [58] ++ padL I 2).toArray⟩ ⟨#[32]⟩ lang b Y M D H I SE WK
        = some ⟨(fmtL lang Y M D H I style).toArray⟩ := by
      intro b hb
      unfold fmtL dayL btw clockL
      simp only [if_neg a]
      rw [polyglotlaw13_Format.j1]
      by_cases hb2 : b = true
      · rw [if_pos hb2]
        simp only [if_pos (hb.1 hb2)]
        simp only [Option.bind_some, fY (k + 1 + 1) (by omega), tM, tD, mk_app, mk_size, List.length_append, List.length_cons, List.length_nil]
        rw [if_pos (by omega), if_pos (by omega), if_pos (by omega), if_pos (by omega)]
        exact j3_fmt (k + 1) style _ _ [32] (by simp only [List.length_append, List.length_cons, List.length_nil]; omega) (by simp only [List.length_append, List.length_cons, List.length_nil]; omega) (by decide)
      · rw [if_neg hb2]
        simp only [if_neg (fun h => hb2 (hb.2 h))]
        by_cases f : lang.toList = ([102, 114] : List UInt8)
        · rw [if_pos f, j2 k _ (by omega) (by rw [f]; decide)]
        · rw [if_neg f, j2 k _ (by omega) (by rw [beq_iff_eq]; exact ⟨Or.inr, fun h => h.elim (fun h => absurd h f) id⟩)]
    by_cases b : lang.toList = ([100, 101] : List UInt8)
    · rw [if_pos b]
      exact j1 _ (by rw [b]; decide)
    · rw [if_neg b]
      by_cases c : lang.toList = ([99, 115] : List UInt8)
      · rw [if_pos c]
        exact j1 _ (by rw [c]; decide)
      · rw [if_neg c]
        by_cases e : lang.toList = ([112, 108] : List UInt8)
        · rw [if_pos e]
          exact j1 _ (by rw [e]; decide)
        · rw [if_neg e]
          exact j1 _ (by rw [beq_iff_eq]; exact ⟨fun h => .inr (.inr (.inr h)), fun h => h.elim (fun h => absurd h b) (fun h => h.elim (fun h => absurd h c) (fun h => h.elim (fun h => absurd h e) id))⟩)
end Go.Proofs.YtpedajhcfkohlaaDoor.Pure
