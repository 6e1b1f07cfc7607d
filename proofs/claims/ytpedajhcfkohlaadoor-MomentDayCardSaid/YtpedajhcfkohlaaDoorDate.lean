import Derived.RowKit
/- The calendar in plain numbers: a day's number, and its year, month and day. -/
namespace Go.Proofs.YtpedajhcfkohlaaDoorHand
open Go.RowKit
theorem wrap_id {x : Int} (h1 : -9223372036854775808 ≤ x) (h2 : x ≤ 9223372036854775807) : wrap64 x = x := by unfold wrap64; omega
theorem tdivmod (a b : Int) (hb : 0 < b) : (a.tmod b < 0 → a / b = a.tdiv b - 1 ∧ a % b = a.tmod b + b) ∧ (¬ a.tmod b < 0 → a / b = a.tdiv b ∧ a % b = a.tmod b) := by
  have hd := Int.mul_tdiv_add_tmod a b
  have hl : a.tmod b < b := Int.tmod_lt_of_pos a hb
  constructor
  · intro h
    have hg : -b < a.tmod b := by
      by_cases h0 : 0 ≤ a
      · have := Int.tmod_nonneg b h0; omega
      · have e : (-a).tmod b = -(a.tmod b) := Int.neg_tmod a b
        have := Int.tmod_lt_of_pos (-a) hb
        omega
    have e : b * (a.tdiv b - 1) + (a.tmod b + b) = a := by rw [Int.mul_sub]; omega
    have k : a / b = a.tdiv b - 1 ∧ a % b = a.tmod b + b := (Int.ediv_emod_unique hb).2 ⟨by omega, by omega, by omega⟩
    exact k
  · intro h
    exact (Int.ediv_emod_unique hb).2 ⟨by omega, by omega, by omega⟩
theorem tdiv_pos {a b : Int} (h : 0 ≤ a) : a.tdiv b = a / b := Int.tdiv_eq_ediv_of_nonneg h
theorem tmod_pos {a b : Int} (h : 0 ≤ a) : a.tmod b = a % b := Int.tmod_eq_emod_of_nonneg h
def yo (D : Int) : Int := (D - D / 1460 + D / 36524 - D / 146096) / 365
def tt (y : Int) : Int := 365 * y + y / 4 - y / 100

theorem yo_step (D : Int) (h0 : 0 ≤ D) (h1 : D < 146096) : yo D ≤ yo (D + 1) := by
  unfold yo; omega
theorem yo_mono (n : Nat) : ∀ (D : Int), 0 ≤ D → D + n < 146097 → yo D ≤ yo (D + n) := by
  induction n with
  | zero => intro D h0 h1; simp
  | succ n ih =>
    intro D h0 h1
    have a := ih D h0 (by omega)
    have b := yo_step (D + n) (by omega) (by omega)
    have e : D + ((n + 1 : Nat) : Int) = D + n + 1 := by omega
    rw [e]; omega
theorem yo_le (D E : Int) (h0 : 0 ≤ D) (h : D ≤ E) (h1 : E < 146097) : yo D ≤ yo E := by
  have := yo_mono (E - D).toNat D h0 (by omega)
  have e : D + ((E - D).toNat : Int) = E := by omega
  rwa [e] at this
theorem yo_all : ∀ y : Fin 400, yo (tt (y.val : Int)) = (y.val : Int) ∧ (0 < y.val → yo (tt (y.val : Int) - 1) = (y.val : Int) - 1) := by decide +kernel
theorem yo_rng (D : Int) (h0 : 0 ≤ D) (h1 : D < 146097) : 0 ≤ yo D ∧ yo D ≤ 399 := by
  unfold yo; omega
theorem yo_at (y : Int) (h0 : 0 ≤ y) (h1 : y < 400) : yo (tt y) = y := by
  have := (yo_all ⟨y.toNat, by omega⟩).1
  have e : ((y.toNat : Nat) : Int) = y := by omega
  simp only [e] at this; exact this
theorem yo_pre (y : Int) (h0 : 0 < y) (h1 : y < 400) : yo (tt y - 1) = y - 1 := by
  have := (yo_all ⟨y.toNat, by omega⟩).2 (by simp; omega)
  have e : ((y.toNat : Nat) : Int) = y := by omega
  simp only [e] at this; exact this
theorem tt_rng (y : Int) (h0 : 0 ≤ y) (h1 : y < 400) : 0 ≤ tt y ∧ tt y < 146097 := by unfold tt; omega
theorem yo_lo (D : Int) (h0 : 0 ≤ D) (h1 : D < 146097) : tt (yo D) ≤ D := by
  obtain ⟨a, b⟩ := yo_rng D h0 h1
  have r := tt_rng (yo D) a (by omega)
  by_cases h : tt (yo D) ≤ D
  · exact h
  · exfalso
    by_cases hz : yo D = 0
    · rw [hz] at h; unfold tt at h; omega
    · have m := yo_le D (tt (yo D) - 1) h0 (by omega) (by omega)
      have p := yo_pre (yo D) (by omega) (by omega)
      omega
theorem yo_hi (D : Int) (h0 : 0 ≤ D) (h1 : D < 146097) : D < tt (yo D + 1) ∨ yo D = 399 := by
  obtain ⟨a, b⟩ := yo_rng D h0 h1
  by_cases h9 : yo D = 399
  · exact .inr h9
  · refine .inl ?_
    by_cases h : D < tt (yo D + 1)
    · exact h
    · exfalso
      have r := tt_rng (yo D + 1) (by omega) (by omega)
      have m := yo_le (tt (yo D + 1)) D r.1 (by omega) h1
      have p := yo_at (yo D + 1) (by omega) (by omega)
      omega

def lp (y : Int) : Bool := decide (y % 4 = 0 ∧ (y % 100 ≠ 0 ∨ y % 400 = 0))

theorem dec4 (y : Int) : ∃ q a b c : Int, y = 400 * q + 100 * a + 4 * b + c ∧ 0 ≤ a ∧ a ≤ 3 ∧ 0 ≤ b ∧ b ≤ 24 ∧ 0 ≤ c ∧ c ≤ 3 :=
  ⟨y / 400, y % 400 / 100, y % 100 / 4, y % 4, by omega, by omega, by omega, by omega, by omega, by omega, by omega⟩
theorem lp_y (q a b c : Int) (_ha : 0 ≤ a ∧ a ≤ 3) (_hb : 0 ≤ b ∧ b ≤ 24) (_hc : 0 ≤ c ∧ c ≤ 3) : lp (400 * q + 100 * a + 4 * b + c) = decide (c = 0 ∧ (b ≠ 0 ∨ a = 0)) := by
  unfold lp
  have e1 : (400 * q + 100 * a + 4 * b + c) % 4 = c := by omega
  have e2 : (400 * q + 100 * a + 4 * b + c) % 100 = 4 * b + c := by omega
  have e3 : (400 * q + 100 * a + 4 * b + c) % 400 = 100 * a + 4 * b + c := by omega
  rw [e1, e2, e3]
  rw [decide_eq_decide]
  omega
theorem lp_cases (y : Int) : (lp y = true ∧ y / 4 - (y - 1) / 4 - (y / 100 - (y - 1) / 100) + (y / 400 - (y - 1) / 400) = 1) ∨ (lp y = false ∧ y / 4 - (y - 1) / 4 - (y / 100 - (y - 1) / 100) + (y / 400 - (y - 1) / 400) = 0) := by
  obtain ⟨q, a, b, c, rfl, a0, a1, b0, b1, c0, c1⟩ := dec4 y
  rw [lp_y q a b c ⟨a0, a1⟩ ⟨b0, b1⟩ ⟨c0, c1⟩]
  have e1 : (400 * q + 100 * a + 4 * b + c) / 4 = 100 * q + 25 * a + b := by omega
  have e2 : (400 * q + 100 * a + 4 * b + c) / 100 = 4 * q + a := by omega
  have e3 : (400 * q + 100 * a + 4 * b + c) / 400 = q := by omega
  rw [e1, e2, e3]
  by_cases hc : c = 0
  · subst hc
    have f1 : (400 * q + 100 * a + 4 * b + 0 - 1) / 4 = 100 * q + 25 * a + b - 1 := by omega
    by_cases hb : b = 0
    · subst hb
      have f2 : (400 * q + 100 * a + 4 * 0 + 0 - 1) / 100 = 4 * q + a - 1 := by omega
      by_cases ha : a = 0
      · subst ha
        have f3 : (400 * q + 100 * 0 + 4 * 0 + 0 - 1) / 400 = q - 1 := by omega
        rw [f1, f2, f3]; simp; omega
      · have f3 : (400 * q + 100 * a + 4 * 0 + 0 - 1) / 400 = q := by omega
        rw [f1, f2, f3]; simp [ha]; omega
    · have f2 : (400 * q + 100 * a + 4 * b + 0 - 1) / 100 = 4 * q + a := by omega
      have f3 : (400 * q + 100 * a + 4 * b + 0 - 1) / 400 = q := by omega
      rw [f1, f2, f3]; simp [hb]; omega
  · have f1 : (400 * q + 100 * a + 4 * b + c - 1) / 4 = 100 * q + 25 * a + b := by omega
    have f2 : (400 * q + 100 * a + 4 * b + c - 1) / 100 = 4 * q + a := by omega
    have f3 : (400 * q + 100 * a + 4 * b + c - 1) / 400 = q := by omega
    rw [f1, f2, f3]; simp [hc]
theorem shift4 (y : Int) : y / 400 * 146097 + y % 400 * 365 + y % 400 / 4 - y % 400 / 100 = 365 * y + y / 4 - y / 100 + y / 400 := by
  obtain ⟨q, a, b, c, rfl, a0, a1, b0, b1, c0, c1⟩ := dec4 y
  have e1 : (400 * q + 100 * a + 4 * b + c) / 4 = 100 * q + 25 * a + b := by omega
  have e2 : (400 * q + 100 * a + 4 * b + c) / 100 = 4 * q + a := by omega
  have e3 : (400 * q + 100 * a + 4 * b + c) / 400 = q := by omega
  have e4 : (400 * q + 100 * a + 4 * b + c) % 400 = 100 * a + 4 * b + c := by omega
  have e5 : (100 * a + 4 * b + c) / 4 = 25 * a + b := by omega
  have e6 : (100 * a + 4 * b + c) / 100 = a := by omega
  rw [e1, e2, e3, e4, e5, e6]; omega
def dim (y m : Int) : Int := if m = 2 then (if lp y then 29 else 28) else if m = 4 ∨ m = 6 ∨ m = 9 ∨ m = 11 then 30 else 31
/-- Days of a year ahead of a month. -/
def cum (y m : Int) : Int := (if m ≤ 2 then 31 * (m - 1) else (153 * (m - 3) + 2) / 5 + 59 + (if lp y then 1 else 0))
/-- Days from 1970 to a year's first day. -/
def jan (y : Int) : Int := 365 * (y - 1) + (y - 1) / 4 - (y - 1) / 100 + (y - 1) / 400 - 719162
def num (y m d : Int) : Int := if m ≤ 2 then (y - 1) / 400 * 146097 + (y - 1) % 400 * 365 + (y - 1) % 400 / 4 - (y - 1) % 400 / 100 + (153 * (m + 12 - 3) + 2) / 5 + d - 1 - 719468
  else y / 400 * 146097 + y % 400 * 365 + y % 400 / 4 - y % 400 / 100 + (153 * (m - 3) + 2) / 5 + d - 1 - 719468
theorem num_eq (y m d : Int) (h1 : 1 ≤ m) (h2 : m ≤ 12) : num y m d = jan y + cum y m + d - 1 := by
  unfold num jan cum
  by_cases h : m ≤ 2
  · rw [if_pos h, if_pos h]
    have e := shift4 (y - 1)
    have : m = 1 ∨ m = 2 := by omega
    rcases this with rfl | rfl <;> omega
  · rw [if_neg h, if_neg h]
    have e := shift4 y
    rcases lp_cases y with ⟨l, k⟩ | ⟨l, k⟩ <;> rw [l] <;> simp <;> omega
theorem jan_succ (y : Int) : jan (y + 1) = jan y + 365 + (if lp y then 1 else 0) := by
  unfold jan
  have e : y + 1 - 1 = y := by omega
  rw [e]
  rcases lp_cases y with ⟨l, k⟩ | ⟨l, k⟩ <;> rw [l] <;> simp <;> omega
theorem jan_mono (a b : Int) (h : a ≤ b) : jan a ≤ jan b := by
  have st : ∀ n : Nat, jan a ≤ jan (a + n) := by
    intro n
    induction n with
    | zero => simp
    | succ n ih =>
      have := jan_succ (a + n)
      have e : a + ((n + 1 : Nat) : Int) = a + n + 1 := by omega
      rw [e, this]
      cases lp (a + n) <;> simp <;> omega
  have := st (b - a).toNat
  have e : a + ((b - a).toNat : Int) = b := by omega
  rwa [e] at this
def cD (n : Int) : Int := (n + 719468) % 146097
def cdoy (n : Int) : Int := cD n - tt (yo (cD n))
def cmp (n : Int) : Int := (5 * cdoy n + 2) / 153
def cday (n : Int) : Int := cdoy n - (153 * cmp n + 2) / 5 + 1
def cmon (n : Int) : Int := if cmp n + 3 > 12 then cmp n + 3 - 12 else cmp n + 3
def cyear (n : Int) : Int := if cmp n + 3 > 12 then (n + 719468) / 146097 * 400 + yo (cD n) + 1 else (n + 719468) / 146097 * 400 + yo (cD n)
theorem cD_rng (n : Int) : 0 ≤ cD n ∧ cD n < 146097 := by unfold cD; omega
theorem doy_rng (n : Int) : 0 ≤ cdoy n ∧ cdoy n ≤ 365 ∧ (cdoy n = 365 → lp ((n + 719468) / 146097 * 400 + yo (cD n) + 1) = true) := by
  obtain ⟨a, b⟩ := cD_rng n
  have y := yo_rng (cD n) a b
  have l := yo_lo (cD n) a b
  have h := yo_hi (cD n) a b
  unfold cdoy
  generalize (n + 719468) / 146097 = e
  generalize cD n = D at *
  generalize yo D = z at *
  unfold tt at *
  refine ⟨by omega, by omega, fun k => ?_⟩
  by_cases h9 : z = 399
  · subst h9
    have q := lp_y (e + 1) 0 0 0 (by omega) (by omega) (by omega)
    have w : e * 400 + 399 + 1 = 400 * (e + 1) + 100 * 0 + 4 * 0 + 0 := by omega
    rw [w, q]; rfl
  · have g : z % 4 = 3 ∧ z % 100 ≠ 99 := by
      rcases h with h | h
      · obtain ⟨q, a, b, c, rfl, a0, a1, b0, b1, c0, c1⟩ := dec4 z
        have e1 : (400 * q + 100 * a + 4 * b + c) / 4 = 100 * q + 25 * a + b := by omega
        have e2 : (400 * q + 100 * a + 4 * b + c) / 100 = 4 * q + a := by omega
        rw [e1, e2] at k
        by_cases hc : c = 3
        · subst hc
          have e3 : (400 * q + 100 * a + 4 * b + 3 + 1) / 4 = 100 * q + 25 * a + b + 1 := by omega
          by_cases hb : b = 24
          · subst hb
            have e4 : (400 * q + 100 * a + 4 * 24 + 3 + 1) / 100 = 4 * q + a + 1 := by omega
            omega
          · omega
        · have e3 : (400 * q + 100 * a + 4 * b + c + 1) / 4 = 100 * q + 25 * a + b := by omega
          have e4 : (400 * q + 100 * a + 4 * b + c + 1) / 100 = 4 * q + a := by omega
          omega
      · omega
    unfold lp
    simp only [decide_eq_true_eq]
    omega
theorem mp_rng (n : Int) : 0 ≤ cmp n ∧ cmp n ≤ 11 := by
  have := doy_rng n
  unfold cmp; omega
theorem mon_rng (n : Int) : 1 ≤ cmon n ∧ cmon n ≤ 12 := by
  have := mp_rng n
  unfold cmon; omega
theorem day_rng (n : Int) : 1 ≤ cday n ∧ cday n ≤ dim (cyear n) (cmon n) := by
  obtain ⟨a, b, c⟩ := doy_rng n
  have m := mp_rng n
  unfold cday cyear cmon cmp at *
  generalize (n + 719468) / 146097 * 400 + yo (cD n) = y at *
  generalize cdoy n = d at *
  refine ⟨by omega, ?_⟩
  have h : (5 * d + 2) / 153 = 0 ∨ (5 * d + 2) / 153 = 1 ∨ (5 * d + 2) / 153 = 2 ∨ (5 * d + 2) / 153 = 3 ∨ (5 * d + 2) / 153 = 4 ∨ (5 * d + 2) / 153 = 5 ∨ (5 * d + 2) / 153 = 6 ∨ (5 * d + 2) / 153 = 7 ∨ (5 * d + 2) / 153 = 8 ∨ (5 * d + 2) / 153 = 9 ∨ (5 * d + 2) / 153 = 10 ∨ (5 * d + 2) / 153 = 11 := by omega
  unfold dim
  by_cases hl : lp (y + 1) = true
  · rcases h with h | h | h | h | h | h | h | h | h | h | h | h <;> rw [h] <;> simp [hl] <;> omega
  · have hd : d ≠ 365 := fun e => hl (c e)
    rcases h with h | h | h | h | h | h | h | h | h | h | h | h <;> rw [h] <;> simp [hl] <;> omega
theorem num_civil (n : Int) : num (cyear n) (cmon n) (cday n) = n := by
  have m := mp_rng n
  have dd := cD_rng n
  have z := yo_rng (cD n) dd.1 dd.2
  have e : cday n = cdoy n - (153 * cmp n + 2) / 5 + 1 := rfl
  have f : cdoy n = cD n - tt (yo (cD n)) := rfl
  have g : cD n = (n + 719468) % 146097 := rfl
  unfold cyear cmon num
  rw [e]
  generalize cmp n = p at *
  rw [f]
  generalize cdoy n = dy at *
  generalize yo (cD n) = y at *
  generalize hq : (n + 719468) / 146097 = q at *
  generalize cD n = D at *
  have hn : n + 719468 = 146097 * q + D := by omega
  unfold tt at *
  by_cases h : p + 3 > 12
  · rw [if_pos h, if_pos h, if_pos (by omega)]; omega
  · rw [if_neg h, if_neg h, if_neg (by omega)]; omega
/-- Whoever is a day's year, month and day is what is told. -/
theorem civil_num (y m d : Int) (h1 : 1 ≤ m) (h2 : m ≤ 12) (h3 : 1 ≤ d) (h4 : d ≤ dim y m) : cyear (num y m d) = y ∧ cmon (num y m d) = m ∧ cday (num y m d) = d := by
  have A := num_civil (num y m d)
  have B := mon_rng (num y m d)
  have C := day_rng (num y m d)
  generalize cyear (num y m d) = Y at *
  generalize cmon (num y m d) = M at *
  generalize cday (num y m d) = D at *
  rw [num_eq _ _ _ B.1 B.2, num_eq _ _ _ h1 h2] at A
  have key : ∀ y m d : Int, 1 ≤ m → m ≤ 12 → 1 ≤ d → d ≤ dim y m → 0 ≤ cum y m + d - 1 ∧ cum y m + d - 1 < 365 + (if lp y then 1 else 0) := by
    intro y m d h1 h2 h3 h4
    unfold cum; unfold dim at h4
    have h : m = 1 ∨ m = 2 ∨ m = 3 ∨ m = 4 ∨ m = 5 ∨ m = 6 ∨ m = 7 ∨ m = 8 ∨ m = 9 ∨ m = 10 ∨ m = 11 ∨ m = 12 := by omega
    cases hl : lp y <;> simp only [hl] at h4 ⊢ <;> rcases h with rfl | rfl | rfl | rfl | rfl | rfl | rfl | rfl | rfl | rfl | rfl | rfl <;> simp at h4 ⊢ <;> omega
  have k1 := key Y M D B.1 B.2 C.1 C.2
  have k2 := key y m d h1 h2 h3 h4
  have jl := jan_succ
  have jm := jan_mono
  have hy : Y = y := by
    rcases Int.lt_trichotomy Y y with h | h | h
    · have := jm (Y + 1) y (by omega); have := jl Y; omega
    · exact h
    · have := jm (y + 1) Y (by omega); have := jl y; omega
  subst hy
  have cl : ∀ m : Int, 1 ≤ m → m < 12 → cum Y (m + 1) = cum Y m + dim Y m := by
    intro m h1 h2
    have h : m = 1 ∨ m = 2 ∨ m = 3 ∨ m = 4 ∨ m = 5 ∨ m = 6 ∨ m = 7 ∨ m = 8 ∨ m = 9 ∨ m = 10 ∨ m = 11 := by omega
    unfold cum dim
    cases hl : lp Y <;> rcases h with rfl | rfl | rfl | rfl | rfl | rfl | rfl | rfl | rfl | rfl | rfl <;> simp
  have cmn : ∀ a b : Int, 1 ≤ a → a ≤ b → b ≤ 12 → cum Y a ≤ cum Y b := by
    intro a b h1 h2 h3
    unfold cum
    cases hl : lp Y <;> simp only [Bool.false_eq_true, if_false, if_true] <;> split <;> split <;> omega
  have hm : M = m := by
    rcases Int.lt_trichotomy M m with h | h | h
    · have := cmn (M + 1) m (by omega) (by omega) h2; have := cl M B.1 (by omega); omega
    · exact h
    · have := cmn (m + 1) M (by omega) (by omega) B.2; have := cl m h1 (by omega); omega
  subst hm
  exact ⟨rfl, rfl, by omega⟩

def clamp (s : Int) : Int := if s > 9007199254740992 then 9007199254740992 else if s < -9007199254740992 then -9007199254740992 else s
theorem clamp_rng (s : Int) : -9007199254740992 ≤ clamp s ∧ clamp s ≤ 9007199254740992 := by unfold clamp; omega
def civil (s : Int) : Int × Int × Int × Int × Int × Int × Int :=
  (cyear (s / 86400), cmon (s / 86400), cday (s / 86400), s % 86400 / 3600, s % 86400 / 60 % 60, s % 60, (s / 86400 + 4) % 7)
end Go.Proofs.YtpedajhcfkohlaaDoorHand
