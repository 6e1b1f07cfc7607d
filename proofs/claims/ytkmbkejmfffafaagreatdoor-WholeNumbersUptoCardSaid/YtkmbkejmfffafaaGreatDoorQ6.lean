/- Texts joined by this session's own program, part 6. -/
import Derived.Test.YtkmbkejmfffafaaGreatDoorQ5
set_option linter.unusedSectionVars false
set_option linter.unusedVariables false
set_option linter.unusedSimpArgs false
namespace Go.Proofs.YtkmbkejmfffafaaGreatDoor.Refl
open Go Go.RowKit
set_option linter.unusedVariables false
set_option linter.unusedSimpArgs false
set_option maxRecDepth 100000
theorem envT0 : EnvF Tryz.prog (envT []) 12 := envT_ok (plug := []) fun x hx => absurd hx List.not_mem_nil
theorem hP_in {h : AH} (k : isTab p10 264 (h.obj 2) = true) : ∀ x, x < 12 → hP.obj x = .dead ∨ (x < h.n ∧ h.obj x = hP.obj x) := fun x hx => by
  rw [hP_obj]
  by_cases h2 : x = 2
  · subst h2
    rw [if_pos rfl]
    exact .inr ⟨lt_of_obj (isP10 k) (by simp), isP10 k⟩
  · rw [if_neg h2]; exact .inl rfl
theorem hP_flat : ∀ x, x < 12 → flatO (hP.obj x) := fun x hx => by
  rw [hP_obj]
  by_cases h2 : x = 2
  · rw [if_pos h2]; exact p10_flat
  · rw [if_neg h2]; trivial
theorem strV_flat (l : List UInt8) : flat 5 (strV l) = true := rfl
theorem intV_flat (n : Nat) : flat 5 (intV n) = true := rfl
theorem y1_some {f : Value → AH → AR} {args : List Value} {h h1 : AH} {r : Value} (hx : x1 f args h = some (r, h1)) : ∃ a, args = [a] ∧ f a h = some (r, h1) := by
  unfold x1 at hx
  match args, hx with
  | [], hx => simp at hx
  | [a], hx => exact ⟨a, rfl, hx⟩
  | _ :: _ :: _, hx => simp at hx
theorem y2_some {f : Value → Value → AH → AR} {args : List Value} {h h1 : AH} {r : Value} (hx : x2 f args h = some (r, h1)) : ∃ a b, args = [a, b] ∧ f a b h = some (r, h1) := by
  unfold x2 at hx
  match args, hx with
  | [], hx => simp at hx
  | [_], hx => simp at hx
  | [a, b], hx => exact ⟨a, b, rfl, hx⟩
  | _ :: _ :: _ :: _, hx => simp at hx
theorem asStr_some {v : Value} {l : List UInt8} (h : asStr v = some l) : v = strV l := by
  cases v <;> simp [asStr] at h
  rename_i s
  subst h
  rfl
theorem itoa_run {n : Nat} (h : n < 400) : ∃ h1, acall (envT []) 60 18 [intV n] hP = some (strV (itoaF n), h1) ∧ clean h1 = true := by
  have hg := itoaAll h
  unfold itoaGood at hg
  cases ha : acall (envT []) 60 18 [intV n] hP with
  | none => simp [ha] at hg
  | some q =>
    obtain ⟨v, h1⟩ := q
    simp only [ha] at hg
    cases hs : asStr v with
    | none => simp [hs] at hg
    | some l =>
      simp only [hs] at hg
      cases hb : bytesEq l (itoaF n) with
      | false => simp [hb] at hg
      | true =>
        simp only [hb] at hg
        rw [bytesEq_eq] at hb
        have hb : l = itoaF n := by simpa using hb
        exact ⟨h1, by rw [asStr_some hs, hb], hg⟩
theorem xItoa_some {args : List Value} {h h1 : AH} {r : Value} (hx : xItoa args h = some (r, h1)) : ∃ n : Nat, args = [intV n] ∧ isTab p10 264 (h.obj 2) = true ∧ r = strV (itoaF n) ∧ h1 = h.owe (Nat.blt n 400) := by
  obtain ⟨a, rfl, hx'⟩ := y1_some hx
  clear hx
  have hx := hx'
  clear hx'
  cases hi : asInt a with
  | none => simp [hi] at hx
  | some i =>
  simp only [hi] at hx
  cases hk : kEq .i64 i.k with
  | false => simp [hk] at hx
  | true =>
  simp only [hk] at hx
  obtain ⟨ik, inn⟩ := i
  cases inn with
  | negSucc z => simp [natI] at hx
  | ofNat n =>
  simp only [natI] at hx
  cases ht : isTab p10 264 (h.obj 2) with
  | false => simp [ht] at hx
  | true =>
  simp only [ht, Option.some.injEq, Prod.mk.injEq] at hx
  have e1 := asInt_some hi
  have e3 : IntKind.i64 = ik := kEq_true hk
  subst e3
  exact ⟨n, by rw [e1]; rfl, rfl, hx.1.symm, hx.2.symm⟩
theorem xItoa_ok : ExtOK Tryz.prog 12 18 xItoa where
  fwd := fun args h r h1 hx => by
    obtain ⟨n, _, _, _, rfl⟩ := xItoa_some hx
    exact (Up.owe _ _).fwd
  run := fun args h r h1 hx hob ρ w args' hg hr hf hl => by
    obtain ⟨n, rfl, ht, rfl, rfl⟩ := xItoa_some hx
    have hn : n < 400 := by have := (ob_owe hob).2; rw [blt_eq] at this; simpa using this
    obtain ⟨h2, k1, k2⟩ := itoa_run hn
    obtain ⟨k3, k4⟩ := clean_some k2
    exact ans_up (Up.owe _ _) (strV_flat _) (pure_ok envT0 k1 k3 k4 rfl rfl (hP_in ht) hP_flat hg hr hl (fun v hv => by simp at hv; subst hv; rfl) (strV_flat _))
theorem atoi_run {n : Nat} (h : n < 400) : ∃ h1, acall (envT []) 60 181 [strV (itoaF n)] hP = some (.tuple ⟨[intV n, .nilIface]⟩, h1) ∧ clean h1 = true := by
  have hg := atoiAll h
  unfold atoiGood at hg
  cases ha : acall (envT []) 60 181 [strV (itoaF n)] hP with
  | none => simp [ha] at hg
  | some q =>
    obtain ⟨v, h1⟩ := q
    simp only [ha] at hg
    cases hs : asTup v with
    | none => simp [hs] at hg
    | some l =>
      simp only [hs] at hg
      have hv : v = .tuple ⟨l⟩ := by
        cases v <;> simp [asTup] at hs
        subst hs; rfl
      match l, hg, hv with
      | [], hg, _ => simp at hg
      | [_], hg, _ => simp at hg
      | _ :: _ :: _ :: _, hg, _ => simp at hg
      | [a, b], hg, hv =>
        simp only at hg
        cases hi : asInt a with
        | none => simp [hi] at hg
        | some i =>
        simp only [hi] at hg
        cases hk : kEq .i64 i.k with
        | false => simp [hk] at hg
        | true =>
        simp only [hk] at hg
        cases hn : iEq i.n (Int.ofNat n) with
        | false => rw [hn] at hg; cases hg
        | true =>
        rw [hn] at hg
        simp only at hg
        cases hb : isNilI b with
        | false => simp [hb] at hg
        | true =>
        simp only [hb] at hg
        rw [iEq_eq] at hn
        have hn : i.n = Int.ofNat n := by simpa using hn
        have e1 := asInt_some hi
        rw [hn, ← kEq_true hk] at e1
        have e2 : b = .nilIface := by cases b <;> simp [isNilI] at hb; rfl
        exact ⟨h1, by rw [hv, e1, e2]; rfl, hg⟩
theorem xAtoiN_some {m : Nat} {args : List Value} {h h1 : AH} {r : Value} (hx : xAtoiN m args h = some (r, h1)) : ∃ l, args = [strV l] ∧ isTab p10 264 (h.obj 2) = true ∧ r = .tuple ⟨[intV m, .nilIface]⟩ ∧ h1 = (h.owe (bytesEq l (itoaF m))).owe (Nat.blt m 400) := by
  obtain ⟨a, rfl, hx'⟩ := y1_some hx
  clear hx
  have hx := hx'
  clear hx'
  cases hs : asStr a with
  | none => simp [hs] at hx
  | some l =>
    simp only [hs] at hx
    cases ht : isTab p10 264 (h.obj 2) with
    | false => simp [ht] at hx
    | true =>
    simp only [ht, Option.some.injEq, Prod.mk.injEq] at hx
    exact ⟨l, by rw [asStr_some hs], rfl, hx.1.symm, hx.2.symm⟩
theorem xAtoiN_ok (m : Nat) : ExtOK Tryz.prog 12 181 (xAtoiN m) where
  fwd := fun args h r h1 hx => by
    obtain ⟨l, _, _, _, rfl⟩ := xAtoiN_some hx
    exact ((Up.owe _ _).trans (Up.owe _ _)).fwd
  run := fun args h r h1 hx hob ρ w args' hg hr hf hl => by
    obtain ⟨l, rfl, ht, rfl, rfl⟩ := xAtoiN_some hx
    obtain ⟨q1, q2⟩ := ob_owe hob
    have hn : m < 400 := by rw [blt_eq] at q2; simpa using q2
    have hb := (ob_owe q1).2
    rw [bytesEq_eq] at hb
    have hb : l = itoaF m := by simpa using hb
    subst hb
    obtain ⟨h2, k1, k2⟩ := atoi_run hn
    obtain ⟨k3, k4⟩ := clean_some k2
    exact ans_up ((Up.owe _ _).trans (Up.owe _ _)) rfl (pure_ok envT0 k1 k3 k4 rfl rfl (hP_in ht) hP_flat hg hr hl (fun v hv => by simp at hv; subst hv; rfl) rfl)
theorem xIdxK_some {k : Nat} {args : List Value} {h h1 : AH} {r : Value} (hx : xIdxK k args h = some (r, h1)) : ∃ b, r = intV k ∧ h1 = h.owe b ∧ (b = true → xIndexByte args h = some (intV k, h)) := by
  obtain ⟨s, c, rfl, hx'⟩ := y2_some hx
  clear hx
  have hx := hx'
  clear hx'
  cases hs : asStr s with
  | none => simp [hs] at hx
  | some l =>
  simp only [hs] at hx
  cases hc : u8of c with
  | none => simp [hc] at hx
  | some c' =>
  simp only [hc, Option.some.injEq, Prod.mk.injEq] at hx
  refine ⟨_, hx.1.symm, hx.2.symm, fun hb => ?_⟩
  unfold optBeq at hb
  cases hf : findByte c' l 0 with
  | none => simp [hf] at hb
  | some i =>
    simp only [hf] at hb
    have : i = k := Nat.eq_of_beq_eq_true hb
    subst this
    unfold xIndexByte x2
    dsimp only
    rw [hs]
    dsimp only
    rw [hc]
    dsimp only
    rw [hf]
theorem x214_ok : ExtOK Tryz.prog 12 214 xIndexByte := xIndexByte_ok x214.choose_spec
set_option maxHeartbeats 2000000 in
theorem xIdxK_run {k : Nat} {args : List Value} {h h1 : AH} {r : Value} (hx : xIdxK k args h = some (r, h1)) (hob : OB h1) {ρ : Ren} {w : World} {args' : List Value} (hg : GL 12 ρ) (hr : Rel Tryz.prog.cellsOf ρ h w) (hf : Fr ρ h.n h1.n) (hl : LR ρ args args') :
    Ans Tryz.prog 214 args'.toArray w fun v w' => ∃ ρ', VR ρ' r v ∧ Step Tryz.prog.cellsOf ρ h w ρ' h1 w' := by
  obtain ⟨b, e1, e2, hk⟩ := xIdxK_some hx
  have u : Up h h1 := e2 ▸ Up.owe h b
  have hb : b = true := by rw [e2] at hob; exact (ob_owe hob).2
  have hf0 : Fr ρ h.n h.n := fun x h1 h2 => by omega
  have hA := x214_ok.run args h (intV k) h (hk hb) (u.ob hob) ρ w args' hg hr hf0 hl
  refine Ans.mono hA fun v w' hq => ?_
  obtain ⟨ρ', k1, st⟩ := hq
  subst e1
  refine ⟨ρ', k1, ?_⟩
  have st2 : Step Tryz.prog.cellsOf ρ' h w' ρ' h1 w' := Step.same st.rel u.t u.n u.log rfl (Str.refl _)
  exact Step.trans hf st st2
theorem xIdxK_ok (k : Nat) : ExtOK Tryz.prog 12 214 (xIdxK k) where
  fwd := fun args h r h1 hx => by
    obtain ⟨b, _, e, _⟩ := xIdxK_some hx
    rw [e]
    exact (Up.owe _ _).fwd
  run := fun args h r h1 hx hob ρ w args' hg hr hf hl => xIdxK_run hx hob hg hr hf hl
theorem Step.grown {S : Nat → Nat} {ρ : Ren} {h : AH} {w w' : World} (r : Rel S ρ h w) (hb : Below w.heap.size w w') : Step S ρ h w ρ h w' where
  ext := Ext.refl _
  dom := fun b im h1 h2 => by rw [h1] at h2; cases h2
  rel := ⟨fun b im h1 h2 => by
      by_cases hd : h.obj b = .dead
      · rw [hd]; trivial
      · exact (r.obj b im h1 h2).mono (Ext.refl _) (hb.block _ ((r.obj b im h1 h2).lt hd)), r.inj, r.top⟩
  size := hb.size
  n_le := Nat.le_refl _
  str := ⟨hb.os, hb.tape, hb.output⟩
  frame := fun c hc => .inl (hb.block c hc)
  fresh := fun b im h1 h2 => by rw [h1] at h2; cases h2
  keep := fun _ _ _ => rfl
  logm := fun _ hb => hb
  wrote := fun _ hb => .inl hb
theorem enter_of {f : Nat} (h : (Tryz.prog.funcs[f]?).map (fun fn => (fn.name == "runtime.NumGoroutine", fn.body.isSome)) = some (false, true)) (args : Array Value) (w : World) : (callFunc f args).run Tryz.prog w = .ok (.enter f args) w := by
  cases hf : Tryz.prog.funcs[f]? with
  | none => rw [hf] at h; cases h
  | some fn =>
    rw [hf] at h
    simp only [Option.map_some, Option.some.injEq, Prod.mk.injEq] at h
    obtain ⟨h1, h2⟩ := h
    have h1' : fn.name ≠ "runtime.NumGoroutine" := by simpa using h1
    obtain ⟨c, hc⟩ := Option.isSome_iff_exists.1 h2
    simp [callFunc, hf, h1', hc]
theorem en143 : (Tryz.prog.funcs[143]?).map (fun fn => (fn.name == "runtime.NumGoroutine", fn.body.isSome)) = some (false, true) := by kernel_rfl
theorem xRune_some {args : List Value} {h h1 : AH} {r : Value} (hx : xRune args h = some (r, h1)) : ∃ l, args = [strV l] ∧ r = intV (rcF l) ∧ h1 = h.owe (Nat.ble (len l) 1099511627776) := by
  obtain ⟨a, rfl, hx'⟩ := y1_some hx
  clear hx
  have hx := hx'
  clear hx'
  cases hs : asStr a with
  | none => simp [hs] at hx
  | some l =>
    simp only [hs, Option.some.injEq, Prod.mk.injEq] at hx
    exact ⟨l, by rw [asStr_some hs], hx.1.symm, hx.2.symm⟩
theorem xRune_ok : ExtOK Tryz.prog 12 143 xRune where
  fwd := fun args h r h1 hx => by
    obtain ⟨l, _, _, rfl⟩ := xRune_some hx
    exact (Up.owe _ _).fwd
  run := fun args h r h1 hx hob ρ w args' hg hr hf hl => by
    obtain ⟨l, rfl, rfl, rfl⟩ := xRune_some hx
    have hb := (ob_owe hob).2
    rw [ble_eq, len_eq] at hb
    have hb : l.length ≤ 1099511627776 := by simpa using hb
    have e : args' = [strV l] := by
      cases hl with
      | cons h1 h2 => cases h2; cases h1; rfl
    subst e
    have hsz : (⟨⟨l⟩⟩ : ByteArray).size = l.length := rfl
    refine ans_up (Up.owe _ _) (intV_flat _) ?_
    unfold Ans
    rw [enter_of en143]
    show Calls Tryz.prog 143 #[.string ⟨⟨l⟩⟩] w (Back _)
    refine (Tryz.utf8_RuneCountInString ⟨⟨l⟩⟩ w (by rw [hsz]; omega)).mono fun e w' he => ?_
    obtain ⟨rfl, pos, rfl⟩ := he
    exact ⟨rfl, Step.grown hr ((Below.refl _ _).alloc (Nat.le_refl _) _)⟩
theorem alive_run : (match acall (envT []) 200 8 [] hS with
  | some q => match q with
    | (v, h) => match asBool v with
      | some b => match b with
        | true => clean h
        | false => false
      | none => false
  | none => false) = true := by kernel_rfl
theorem alive_some : ∃ h1, acall (envT []) 200 8 [] hS = some (.bool true, h1) ∧ clean h1 = true := by
  have hg := alive_run
  cases ha : acall (envT []) 200 8 [] hS with
  | none => simp [ha] at hg
  | some q =>
    obtain ⟨v, h1⟩ := q
    simp only [ha] at hg
    cases hb : asBool v with
    | none => simp [hb] at hg
    | some b =>
      cases b with
      | false => simp [hb] at hg
      | true =>
        simp only [hb] at hg
        have hv : v = .bool true := by cases v <;> simp [asBool] at hb; rw [hb]
        exact ⟨h1, by rw [hv], hg⟩
theorem hS_in {h : AH} (k : isTab p10 264 (h.obj 2) = true) (k' : isTab asc 166 (h.obj 0) = true) : ∀ x, x < 12 → hS.obj x = .dead ∨ (x < h.n ∧ h.obj x = hS.obj x) := fun x hx => by
  rw [hS_obj]
  by_cases h2 : x = 2
  · subst h2
    rw [if_pos rfl]
    exact .inr ⟨lt_of_obj (isP10 k) (by simp), isP10 k⟩
  · rw [if_neg h2]
    by_cases h0 : x = 0
    · subst h0
      rw [if_pos rfl]
      exact .inr ⟨lt_of_obj (isAsc k') (by simp), isAsc k'⟩
    · rw [if_neg h0]; exact .inl rfl
theorem hS_flat : ∀ x, x < 12 → flatO (hS.obj x) := fun x hx => by
  rw [hS_obj]
  by_cases h2 : x = 2
  · rw [if_pos h2]; exact p10_flat
  · rw [if_neg h2]
    by_cases h0 : x = 0
    · rw [if_pos h0]; exact asc_flat
    · rw [if_neg h0]; trivial
theorem xAlive_some {args : List Value} {h h1 : AH} {r : Value} (hx : xAlive args h = some (r, h1)) : args = [] ∧ isTab asc 166 (h.obj 0) = true ∧ isTab p10 264 (h.obj 2) = true ∧ r = .bool true ∧ h1 = h := by
  unfold xAlive at hx
  match args, hx with
  | _ :: _, hx => simp at hx
  | [], hx =>
    simp only at hx
    cases ht : isTab asc 166 (h.obj 0) with
    | false => simp [ht] at hx
    | true =>
    simp only [ht] at hx
    cases ht2 : isTab p10 264 (h.obj 2) with
    | false => simp [ht2] at hx
    | true =>
    simp only [ht2, Option.some.injEq, Prod.mk.injEq] at hx
    exact ⟨rfl, rfl, rfl, hx.1.symm, hx.2.symm⟩
theorem xAlive_ok : ExtOK Tryz.prog 12 8 xAlive where
  fwd := fun args h r h1 hx => by
    obtain ⟨_, _, _, _, rfl⟩ := xAlive_some hx
    exact .refl _
  run := fun args h r h1 hx hob ρ w args' hg hr hf hl => by
    obtain ⟨rfl, ht, ht2, rfl, rfl⟩ := xAlive_some hx
    obtain ⟨h2, k1, k2⟩ := alive_some
    obtain ⟨k3, k4⟩ := clean_some k2
    exact ans_up (Up.refl _) rfl (pure_ok envT0 k1 k3 k4 rfl rfl (hS_in ht2 ht) hS_flat hg hr hl (fun v hv => by simp at hv) rfl)
theorem xClosed_some {n f : Nat} {args : List Value} {h h1 : AH} {r : Value} (hx : xClosed n f args h = some (r, h1)) :
    ∃ h2 h3, h2.t = h.t ∧ h2.n = h.n ∧ h2.log = h.log ∧ h2.ob = h.ob ∧ acall (envT []) n f args h2 = some (r, h3) ∧ h1.t = h3.t ∧ h1.n = h3.n ∧ h1.log = h3.log ∧ h1.ob = h3.ob := by
  obtain ⟨t, n0, log, sym, cnt, orc, ob⟩ := h
  unfold xClosed at hx
  simp only at hx
  cases ha : acall (envT []) n f args ⟨t, n0, log, false, cnt, [], ob⟩ with
  | none => simp [ha] at hx
  | some q =>
    obtain ⟨v, t', n', log', sym', cnt', orc', ob'⟩ := q
    simp only [ha, Option.some.injEq, Prod.mk.injEq] at hx
    obtain ⟨rfl, rfl⟩ := hx
    exact ⟨⟨t, n0, log, false, cnt, [], ob⟩, ⟨t', n', log', sym', cnt', orc', ob'⟩, rfl, rfl, rfl, rfl, ha, rfl, rfl, rfl, rfl⟩
theorem xClosed_ok (n f : Nat) : ExtOK Tryz.prog 12 f (xClosed n f) where
  fwd := fun args h r h1 hx => by
    obtain ⟨h2, h3, a1, a2, a3, a4, k, b1, b2, b3, b4⟩ := xClosed_some hx
    have f1 : Fwd h h2 := .same a1 a2 a3 fun q b hb => q b (by rw [a4]; exact hb)
    have f2 : Fwd h3 h1 := .same b1 b2 b3 fun q b hb => q b (by rw [b4]; exact hb)
    exact (f1.trans (acall_fwd envT0 n f args h2 r h3 k)).trans f2
  run := fun args h r h1 hx hob ρ w args' hg hr hf hl => by
    obtain ⟨h2, h3, a1, a2, a3, a4, k, b1, b2, b3, b4⟩ := xClosed_some hx
    have hr2 : Rel Tryz.prog.cellsOf ρ h2 w := hr.congr a1 a2 rfl
    have hf2 : Fr ρ h2.n h3.n := by rw [a2, ← b2]; exact hf
    have hob2 : OB h3 := fun b hb => hob b (by rw [b4]; exact hb)
    refine Ans.mono (acall_ok envT0 n f args h2 r h3 k hob2 ρ w args' hg hr2 hf2 hl) fun v w' hq => ?_
    obtain ⟨ρ', hv, st⟩ := hq
    refine ⟨ρ', hv, ?_⟩
    have s1 : Step Tryz.prog.cellsOf ρ h w ρ h2 w := .same hr a1 a2 a3 rfl (Str.refl _)
    have s2 : Step Tryz.prog.cellsOf ρ' h3 w' ρ' h1 w' := .same st.rel b1 b2 b3 rfl (Str.refl _)
    have hf3 : Fr ρ h.n h3.n := by rw [← a2]; exact hf2
    exact Step.trans hf (Step.trans hf3 s1 st) s2
end Go.Proofs.YtkmbkejmfffafaaGreatDoor.Refl
