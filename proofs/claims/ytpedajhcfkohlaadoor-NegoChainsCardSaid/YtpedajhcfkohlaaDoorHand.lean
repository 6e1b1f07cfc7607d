import Derived.Test.YtpedajhcfkohlaaDoorShelf
import Derived.Test.YtpedajhcfkohlaaDoorWMore
import Derived.Lib.Hide
import Derived.Test.YtpedajhcfkohlaaDoorWFootNe
import Derived.Laws.IdiomStrings
/- What is given to the printer for the tags' statements: contracts of the session's own. -/
namespace Go.Proofs.YtpedajhcfkohlaaDoorHand
open Go.RowKit Go.Proofs.YtpedajhcfkohlaaDoorW.PrintWords Go.Proofs.YtpedajhcfkohlaaDoorW.PrintLast Go.Proofs.YtpedajhcfkohlaaDoorW.PrintMore
set_option linter.unusedVariables false
set_option linter.unusedSimpArgs false
/-- What the walks ask of the world: the library's own variable (internal/bytealg.MaxLen) holds some number. -/
structure GW (w : World) : Prop where
  m : ∃ m, w.cell? ⟨0, 0, none⟩ = some (.int .i64 m)
theorem cell_below {w w' : World} {a : Addr} {v : Value} (hb : Below w.heap.size w w') (h : w.cell? a = some v) : w'.cell? a = some v := by
  have hl : a.block < w.heap.size := by
    rcases Nat.lt_or_ge a.block w.heap.size with h' | h'
    · exact h'
    · unfold World.cell? at h
      rw [Array.getElem?_eq_none h'] at h
      simp at h
  unfold World.cell? at h ⊢
  rw [hb.block _ hl]
  exact h
theorem GW.below {w w' : World} (h : GW w) (hb : Below w.heap.size w w') : GW w' := ⟨h.m.elim fun m hm => ⟨m, cell_below hb hm⟩⟩
theorem GW.drewN {w : World} (h : GW w) (n : Nat) : GW (w.drewN n) := ⟨h.m⟩
theorem below_setA {w W : World} {g j : Nat} {v : Value} (h : Below w.heap.size w W) (hg : Aside0 (w.heap.size ≤ g)) : Below w.heap.size w (W.setCell ⟨g, j, none⟩ v) := below_set h hg.out
def strings_Split.f (a0 a1 : ByteArray) : Option (List ByteArray) :=
  if a0.size < 1000000 ∧ 1 ≤ a1.size ∧ Lib.countB a0 a1 < 1000000 ∧ (Lib.splitB a1 0 (Lib.countB a0 a1) a0).length = Lib.countB a0 a1 + 1 then some (Lib.splitB a1 0 (Lib.countB a0 a1) a0) else none
theorem strings_Split.calls (a0 a1 : ByteArray) (r : List ByteArray) (w : World) (h : strings_Split.f a0 a1 = some r) (hG : GW w := by first | exact hG | exact GW.drewN hG _ | exact GW.below hG (by first | exact HB.out | (with_reducible exact HB.out) | (repeat (first | (with_reducible first | exact HB.out | apply below_alloc | apply pw_below_drewN | apply below_drew1) | (refine below_setA ?_ (by assumption)) | exact HB.out)))) :
    Calls Tryd.prog 35 #[.string a0, .string a1] w fun e w' => ∃ v0_ : Value, e = .returned (v0_) ∧ Kd.R Kd.string 9 w' w.heap.size (fun _ => True) v0_ r ∧ Below w.heap.size w w' := by
  unfold strings_Split.f at h
  by_cases hb : a0.size < 1000000 ∧ 1 ≤ a1.size ∧ Lib.countB a0 a1 < 1000000 ∧ (Lib.splitB a1 0 (Lib.countB a0 a1) a0).length = Lib.countB a0 a1 + 1
  · rw [if_pos hb] at h
    injection h with h
    subst h
    obtain ⟨m, hm⟩ := hG.m
    refine (Tryd.strings_Split a0 a1 m w (by omega) hm hb.2.1).mono (fun e w' ⟨he, hw⟩ => ⟨_, he, Kd.R_of_own ?_ (fun _ _ => trivial), ?_⟩)
    · subst hw
      refine ⟨by simp [encs], .inr ⟨w.heap.size, _, ((Lib.splitB a1 0 (Lib.countB a0 a1) a0).map Value.string).toArray, by rw [hb.2.2.2], Nat.le_refl _, ?_, by rw [hb.2.2.2]; exact Nat.le_refl _, by unfold maxLen; omega, ?_, ?_⟩⟩
      · show (w.heap.push _)[w.heap.size]? = _
        rw [Array.getElem?_push_size]
      · simp [hb.2.2.2]
      · rw [Nat.mul_one, List.toList_toArray]; exact List.take_of_length_le (by rw [List.length_map]; omega)
    · subst hw
      exact below_alloc (Below.refl _ _) _
  · rw [if_neg hb] at h
    cases h
def fc (up : Bool) (c : UInt8) : UInt8 := if up then (if 97 ≤ c.toNat ∧ c.toNat ≤ 122 then UInt8.ofNat (c.toNat - 32) else c) else (if 65 ≤ c.toNat ∧ c.toNat ≤ 90 then UInt8.ofNat (c.toNat + 32) else c)
def foldL (up : Bool) (l : List UInt8) : List UInt8 := l.map (fc up)
def tag_fold.f (a0 : ByteArray) (a1 : Bool) : Option ByteArray := if a0.size ≤ 1000000 then some ⟨(foldL a1 a0.data.toList).toArray⟩ else none
def cellAt (up : Bool) (l : List UInt8) (i j : Nat) : Int := if j < i then ((fc up (l.getD j 0)).toNat : Int) else ((l.getD j 0).toNat : Int)
theorem cellAt_ge (up : Bool) (l : List UInt8) (i j : Nat) (h : i ≤ j) : cellAt up l i j = ((l.getD j 0).toNat : Int) := by unfold cellAt; rw [if_neg (by omega)]
theorem cellAt_lt (up : Bool) (l : List UInt8) (i j : Nat) (h : j < i) : cellAt up l i j = ((fc up (l.getD j 0)).toNat : Int) := by unfold cellAt; rw [if_pos h]
theorem cellAt_ne (up : Bool) (l : List UInt8) (i j : Nat) (h : j ≠ i) : cellAt up l (i + 1) j = cellAt up l i j := by
  by_cases h2 : j < i
  · rw [cellAt_lt _ _ _ _ h2, cellAt_lt _ _ _ _ (by omega)]
  · rw [cellAt_ge _ _ _ _ (by omega), cellAt_ge _ _ _ _ (by omega)]
theorem bytes_frozen (w : World) (s : ByteArray) (j : Nat) (hj : j < s.size) : (Lib.bytesWorld w 5 s).frozen? ⟨w.heap.size, j, none⟩ = false := by
  have hs : s.size ≤ (Lib.bytesCells w 5 s).size := by
    unfold Lib.bytesCells
    rw [Array.size_append, Array.size_map]
    exact Nat.le_add_right _ _
  unfold World.frozen?
  rw [Lib.bytesWorld_at_new]
  show (decide ((Lib.bytesCells w 5 s).size ≤ j) && decide (j < (Lib.bytesCells w 5 s).size + 1)) = false
  rw [decide_eq_false (by omega)]; rfl
theorem fc_up (c : UInt8) (h1 : 97 ≤ (c.toNat : Int)) (h2 : (c.toNat : Int) ≤ 122) : ((fc true c).toNat : Int) = (c.toNat : Int) - 32 := by
  unfold fc
  rw [if_pos rfl, if_pos (by omega)]
  have : (UInt8.ofNat (c.toNat - 32)).toNat = c.toNat - 32 := by
    rw [UInt8.toNat_ofNat']; omega
  rw [this]; omega
theorem fc_low (c : UInt8) (h1 : 65 ≤ (c.toNat : Int)) (h2 : (c.toNat : Int) ≤ 90) : ((fc false c).toNat : Int) = (c.toNat : Int) + 32 := by
  unfold fc
  rw [if_neg (by simp), if_pos (by omega)]
  have : (UInt8.ofNat (c.toNat + 32)).toNat = c.toNat + 32 := by
    rw [UInt8.toNat_ofNat']; omega
  rw [this]; omega
theorem fc_up_out (c : UInt8) (h : ¬ (97 ≤ (c.toNat : Int) ∧ (c.toNat : Int) ≤ 122)) : fc true c = c := by
  unfold fc
  rw [if_pos rfl, if_neg (by omega)]
theorem fc_low_out (c : UInt8) (h : ¬ (65 ≤ (c.toNat : Int) ∧ (c.toNat : Int) ≤ 90)) : fc false c = c := by
  unfold fc
  rw [if_neg (by simp), if_neg (by omega)]
theorem step_same (W : World) (g n : Nat) (up : Bool) (l : List UInt8) (i : Nat) (c : UInt8) (hc : l.getD i 0 = c) (he : fc up c = c) (h : ∀ j, j < n → W.cell? ⟨g, j, none⟩ = some (.int .u8 (cellAt up l i j))) :
    ∀ j, j < n → W.cell? ⟨g, j, none⟩ = some (.int .u8 (cellAt up l (i + 1) j)) := by
  intro j hj
  by_cases e : j = i
  · subst e
    rw [h j hj, cellAt_ge _ _ _ _ (Nat.le_refl _), cellAt_lt _ _ _ _ (Nat.lt_succ_self _), hc, he]
  · rw [h j hj, cellAt_ne _ _ _ _ e]
theorem step_put (W : World) (g n : Nat) (up : Bool) (l : List UInt8) (i : Nat) (c : UInt8) (v : Int) (hi : i < n) (hc : l.getD i 0 = c) (he : ((fc up c).toNat : Int) = v) (h : ∀ j, j < n → W.cell? ⟨g, j, none⟩ = some (.int .u8 (cellAt up l i j))) :
    ∀ j, j < n → (W.setCell ⟨g, i, none⟩ (.int .u8 v)).cell? ⟨g, j, none⟩ = some (.int .u8 (cellAt up l (i + 1) j)) := by
  intro j hj
  by_cases e : j = i
  · subst e
    rw [World.cell?_setCell_same _ _ _ (h j hj), cellAt_lt _ _ _ _ (Nat.lt_succ_self _), hc, he]
  · rw [World.cell?_setCell_other _ _ _ _ (by intro h'; injection h' with _ h2; exact e h2.symm), h j hj, cellAt_ne _ _ _ _ e]
set_option maxHeartbeats 1000000 in
set_option maxRecDepth 100000 in
theorem tag_fold.calls (a0 : ByteArray) (a1 : Bool) (r : ByteArray) (w : World) (h : tag_fold.f a0 a1 = some r) :
    Calls Tryd.prog 38 #[.string a0, .bool a1] w fun e w' => e = .returned (.string r) ∧ Below w.heap.size w w' := by
  unfold tag_fold.f at h
  by_cases hn : a0.size ≤ 1000000
  · rw [if_pos hn] at h
    injection h with h
    subst h
    have kb := fun W => print_bytes (P := Tryd.prog) 9 64 5 Tryd.underlying9 Tryd.underlying64 Tryd.underlying5 a0 W
    have hb0 : Below w.heap.size w (Lib.bytesWorld w 5 a0) := bytes_below (Below.refl _ _) (Nat.le_refl _) 5 a0
    have hc0 : ∀ j, j < a0.size → (Lib.bytesWorld w 5 a0).cell? ⟨w.heap.size, j, none⟩ = some (.int .u8 (cellAt a1 a0.data.toList 0 j)) := fun j hj => by
      rw [Lib.bytesWorld_cell w 5 a0 j hj, cellAt_ge _ _ _ _ (Nat.zero_le _)]
    have hf0 := fun j hj => bytes_frozen w a0 j hj
    have hlen : a0.data.toList.length = a0.size := by rw [Array.length_toList]; rfl
    go_enter Tryd.func38, Tryd.ntmps38
    go_wp2
    generalize Lib.bytesWorld w 5 a0 = W at *
    generalize grownCap w a0.size 0 5 = cap at *
    clear kb
    go_loopg [12] (a0.size + 1) (fun kq v12 w' => ∃ i : Nat, v12 = .int .i64 (i : Int) ∧ Aside0 (i ≤ a0.size) ∧ Aside0 (kq = a0.size - i + 1) ∧ Aside0 (∀ j, j < a0.size → w'.cell? ⟨w.heap.size, j, none⟩ = some (.int .u8 (cellAt a1 a0.data.toList i j))) ∧ Aside0 (∀ j, j < a0.size → w'.frozen? ⟨w.heap.size, j, none⟩ = false) ∧ Aside0 (Below w.heap.size w w'))
    case atStart => exact ⟨0, rfl, ⟨Nat.zero_le _⟩, ⟨by omega⟩, ⟨hc0⟩, ⟨hf0⟩, ⟨hb0⟩⟩
    case round =>
      obtain ⟨i, rfl, HI, HK, HC, HF, HB⟩ := hrel
      by_cases hi : (i : Int) < (a0.size : Int)
      · have d1 : decide ((i : Int) < (a0.size : Int)) = true := decide_eq_true hi
        have hx := HC.out i (by omega)
        have hz := HF.out i (by omega)
        rw [cellAt_ge _ _ _ _ (Nat.le_refl _)] at hx
        obtain ⟨c, hc⟩ : ∃ c, a0.data.toList.getD i 0 = c := ⟨_, rfl⟩
        rw [hc] at hx
        have c256 : c.toNat < 256 := c.toNat_lt
        cases a1 with
        | true =>
          go_wp2
          all_goals go_roundg (a0.size - i)
          all_goals (try (have := HK.out; omega))
          all_goals refine ⟨i + 1, by simp, ⟨by omega⟩, ⟨by omega⟩, ⟨?_⟩, ⟨?_⟩, ⟨?_⟩⟩
          all_goals first | exact HB.out | exact HF.out | exact HB.out.setCell (Nat.le_refl _) _ | (intro j hj; rw [World.frozen?_setCell]; exact HF.out j hj) | exact step_same wr _ _ true _ i c hc (fc_up_out c (by omega)) HC.out | exact step_put wr _ _ true _ i c _ (by omega) hc (fc_up c (by omega) (by omega)) HC.out
        | false =>
          go_wp2
          all_goals go_roundg (a0.size - i)
          all_goals (try (have := HK.out; omega))
          all_goals refine ⟨i + 1, by simp, ⟨by omega⟩, ⟨by omega⟩, ⟨?_⟩, ⟨?_⟩, ⟨?_⟩⟩
          all_goals first | exact HB.out | exact HF.out | exact HB.out.setCell (Nat.le_refl _) _ | (intro j hj; rw [World.frozen?_setCell]; exact HF.out j hj) | exact step_same wr _ _ false _ i c hc (fc_low_out c (by omega)) HC.out | exact step_put wr _ _ false _ i c _ (by omega) hc (fc_low c (by omega) (by omega)) HC.out
      · have d1 : decide ((i : Int) < (a0.size : Int)) = false := decide_eq_false hi
        have hin : i = a0.size := by have := HI.out; omega
        have hl : (foldL a1 a0.data.toList).length = a0.size := by rw [foldL, List.length_map]; exact hlen
        have kb2 : (convert 64 9 (.slice (some ⟨w.heap.size, 0, none⟩) a0.size cap)).run Tryd.prog wr = .ok (.string ⟨(foldL a1 a0.data.toList).toArray⟩) wr := by
          have k := run_convert_bytes_back (P := Tryd.prog) wr 64 9 5 ⟨w.heap.size, 0, none⟩ cap (foldL a1 a0.data.toList) Tryd.underlying64 Tryd.underlying5 Tryd.underlying9 (fun j hj => by
            rw [hl] at hj
            rw [add_plain, HC.out j hj, cellAt_lt _ _ _ _ (by omega)]
            simp only [foldL, List.getElem_map]
            rw [List.getD_eq_getElem?_getD, List.getElem?_eq_getElem (by omega), Option.getD_some])
          rw [hl] at k
          exact k
        go_wp2
        go_ret
        exact ⟨rfl, HB.out⟩
  · rw [if_neg hn] at h
    cases h
theorem spot_of_cell {w : World} {a : Addr} {v : Value} (h : w.cell? a = some v) : a.spot = none := by
  unfold World.cell? at h
  split at h
  · cases hs : a.spot with
    | none => rfl
    | some x => simp [hs] at h
  · cases h
theorem C_cells {w : World} {ad : Addr} {l : List ByteArray} (h : Kd.C Kd.string w (some ad) l.length l) (hn : 0 < l.length) :
    ad.spot = none ∧ ad.block < w.heap.size ∧ ∀ (j : Nat) x, l[j]? = some x → w.cell? ⟨ad.block, ad.off + j, none⟩ = some (.string x) := by
  have h0 : ad.spot = none := by
    obtain ⟨ad', e, hc⟩ := Kd.at_string h 0 (Int.le_refl _) (by omega)
    cases e
    exact spot_of_cell hc
  refine ⟨h0, ?_, fun j x hx => ?_⟩
  · exact Kd.C_lt h hn (by decide)
  · obtain ⟨hj, hx⟩ := List.getElem?_eq_some_iff.1 hx
    obtain ⟨ad', e, hc⟩ := Kd.at_string h (j : Int) (by omega) (by omega)
    cases e
    have ea : (ad.add ((j : Int)).toNat) = ⟨ad.block, ad.off + j, none⟩ := by
      unfold Addr.add
      obtain ⟨b, o, sp⟩ := ad
      simp only at h0
      subst h0
      split
      · rename_i z
        have : j = 0 := by omega
        subst this; rfl
      · simp
    rw [ea] at hc
    rw [hc]
    unfold rdOf
    rw [List.getD_eq_getElem?_getD]
    simp [hj, hx]
def strings_Join.f (l : List ByteArray) (sep : ByteArray) : Option ByteArray := if l.length ≤ 1000000 ∧ (Lib.join (l.map (·.data.toList)) sep.data.toList).length ≤ 1000000 then some ⟨(Lib.join (l.map (·.data.toList)) sep.data.toList).toArray⟩ else none
theorem strings_Join.calls (A0 : Option Addr) (c0 : Nat) (l0 : List ByteArray) (a1 : ByteArray) (r : ByteArray) (w : World) (hr0 : Kd.C Kd.string w A0 l0.length l0) (hc0 : l0.length ≤ c0) (h : strings_Join.f l0 a1 = some r) :
    Calls Tryd.prog 44 #[.slice A0 l0.length c0, .string a1] w fun e w' => e = .returned (.string r) ∧ Below w.heap.size w w' := by
  unfold strings_Join.f at h
  by_cases hb : l0.length ≤ 1000000 ∧ (Lib.join (l0.map (·.data.toList)) a1.data.toList).length ≤ 1000000
  · rw [if_pos hb] at h
    injection h with h
    subst h
    by_cases hn : 0 < l0.length
    · obtain ⟨ad, e, hx⟩ := Kd.at_string hr0 0 (Int.le_refl _) (by omega)
      subst e
      obtain ⟨h0, h1, h2⟩ := C_cells hr0 hn
      have := Tryd.strings_Join ad.block ad.off c0 l0 a1 w h2 h1 (by omega) hc0 (by omega)
      have ea : ad = ⟨ad.block, ad.off, none⟩ := by
        obtain ⟨b, o, sp⟩ := ad
        simp only at h0
        subst h0
        rfl
      rw [ea]
      exact this
    · have e : l0 = [] := List.eq_nil_of_length_eq_zero (by omega)
      subst e
      exact (Tryd.strings_Join_none A0 c0 a1 w).mono (fun e w' ⟨he, hw⟩ => ⟨he, hw ▸ Below.refl _ _⟩)
  · rw [if_neg hb] at h
    cases h
def slices_Clone.f (l : List ByteArray) : Option (List ByteArray) := if l.length ≤ 1000000 then some l else none
theorem slices_Clone.calls (A0 : Option Addr) (c0 : Nat) (l0 : List ByteArray) (r : List ByteArray) (w : World) (hr0 : Kd.C Kd.string w A0 l0.length l0) (hc0 : l0.length ≤ c0) (h : slices_Clone.f l0 = some r) :
    Calls Tryd.prog 47 #[.slice A0 l0.length c0] w fun e w' => ∃ v0_ : Value, e = .returned (v0_) ∧ Kd.R Kd.string 9 w' w.heap.size (fun _ => True) v0_ r ∧ Below w.heap.size w w' := by
  unfold slices_Clone.f at h
  by_cases hb : l0.length ≤ 1000000
  · rw [if_pos hb] at h
    injection h with h
    subst h
    by_cases hn : 0 < l0.length
    · obtain ⟨ad, e, hx⟩ := Kd.at_string hr0 0 (Int.le_refl _) (by omega)
      subst e
      obtain ⟨h0, h1, h2⟩ := C_cells hr0 hn
      have k := Tryd.slices_Clone_string ad.block ad.off l0.length c0 l0 w (Nat.le_refl _) (by omega) (fun j hj => by
        rw [h2 j l0[j] (List.getElem?_eq_getElem hj), List.getD_eq_getElem?_getD, List.getElem?_eq_getElem hj, Option.getD_some])
      have ea : ad = ⟨ad.block, ad.off, none⟩ := by
        obtain ⟨b, o, sp⟩ := ad
        simp only at h0
        subst h0
        rfl
      rw [ea]
      refine k.mono (fun e w' ⟨v', he, ho, _, hb⟩ => ⟨v', he, Kd.R_of_own ?_ (fun _ _ => trivial), hb⟩)
      rw [List.take_length] at ho
      exact ho
    · have e : l0 = [] := List.eq_nil_of_length_eq_zero (by omega)
      subst e
      cases A0 with
      | none => exact (Tryd.slices_Clone_string_nil 0 c0 w).mono (fun e w' ⟨he, hw⟩ => ⟨_, he, Kd.R_nil _ _ _ _ _, hw ▸ Below.refl _ _⟩)
      | some a => exact (Tryd.slices_Clone_string_zero a c0 w).mono (fun e w' ⟨v', he, ho, _, hb⟩ => ⟨v', he, Kd.R_of_own ho (fun _ _ => trivial), hb⟩)
  · rw [if_neg hb] at h
    cases h
end Go.Proofs.YtpedajhcfkohlaaDoorHand
