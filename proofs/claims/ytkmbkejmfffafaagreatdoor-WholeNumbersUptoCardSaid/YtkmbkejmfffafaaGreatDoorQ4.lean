/- Texts joined by this session's own program, part 4. -/
import Derived.Test.YtkmbkejmfffafaaGreatDoorQ3
import Derived.Lib.MakeNoZero
import Derived.Lib.Bytealg
import Derived.Test.YtkmbkejmfffafaaGreatDoorProg
import Derived.KernelRfl
import Derived.Shelf.LaysM
import Derived.Shelf.Utf8.RuneCount
import Derived.Shelf.Strconv.Atoi
import Derived.Shelf.Strconv.Itoa3
set_option linter.unusedSectionVars false
set_option linter.unusedVariables false
set_option linter.unusedSimpArgs false
namespace Go.Proofs.YtkmbkejmfffafaaGreatDoor.Refl
open Go
set_option linter.unusedVariables false
set_option linter.unusedSimpArgs false
structure ExtOK (P : Program) (G : Nat) (f : Nat) (g : List Value → AH → AR) : Prop where
  fwd : ∀ args h r h1, g args h = some (r, h1) → Fwd h h1
  run : ∀ args h r h1, g args h = some (r, h1) → OB h1 → ∀ (ρ : Ren) (w : World) (args' : List Value), GL G ρ → Rel P.cellsOf ρ h w → Fr ρ h.n h1.n → LR ρ args args' →
    Ans P f args'.toArray w fun v w' => ∃ ρ', VR ρ' r v ∧ Step P.cellsOf ρ h w ρ' h1 w'
structure EnvF (P : Program) (E : Env) (G : Nat) : Prop extends EnvM P E where
  fn : ∀ f fn, E.fn.get f = some fn → P.funcs[f]? = some fn ∧ ∀ c, fn.body = some c → (fn.name == "runtime.NumGoroutine") = false ∧ okCode G fn.ntmps c = true
  ext : ∀ f g, E.ext.get f = some g → ExtOK P G f g
  mixed : P.follows .mixedOrders = true
theorem mem_below (n : Nat) : ∀ (l log : List Nat) (c : Nat), c ∈ below n l log ↔ (c ∈ l ∧ c < n) ∨ c ∈ log
  | [], log, c => by show c ∈ log ↔ _; simp
  | b :: l, log, c => by
    show c ∈ (match Nat.blt b n with | true => below n l (addLog b log) | false => below n l log) ↔ _
    rw [blt_eq]
    by_cases hb : b < n
    · simp only [hb, decide_true]
      rw [mem_below n l, mem_addLog, List.mem_cons]
      constructor
      · rintro (h | h | h)
        · exact .inl ⟨.inr h.1, h.2⟩
        · exact .inl ⟨.inl h, by omega⟩
        · exact .inr h
      · rintro (⟨h | h, h'⟩ | h)
        · exact .inr (.inl h)
        · exact .inl ⟨h, h'⟩
        · exact .inr (.inr h)
    · simp only [hb, decide_false]
      rw [mem_below n l, List.mem_cons]
      constructor
      · rintro (h | h)
        · exact .inl ⟨.inr h.1, h.2⟩
        · exact .inr h
      · rintro (⟨h | h, h'⟩ | h)
        · omega
        · exact .inl ⟨h, h'⟩
        · exact .inr h
theorem tmpsOf_get : ∀ (l : List Value) (i : Nat) (t : Tr Value) (x : Nat), (tmpsOf l i t).get x = if i ≤ x ∧ x < i + l.length then l[x - i]? else t.get x
  | [], i, t, x => by
    show t.get x = _
    rw [if_neg (by simp)]
  | v :: l, i, t, x => by
    show (tmpsOf l (i + 1) (t.set i v)).get x = _
    rw [tmpsOf_get l, Tr.get_set, List.length_cons]
    by_cases h1 : i + 1 ≤ x ∧ x < i + 1 + l.length
    · rw [if_pos h1, if_pos (by omega), show x - i = (x - (i + 1)) + 1 by omega, List.getElem?_cons_succ]
    · rw [if_neg h1]
      by_cases h2 : x = i
      · subst h2; rw [if_pos rfl, if_pos (by omega)]; simp
      · rw [if_neg h2, if_neg (by omega)]
section
variable {P : Program} {E : Env} {C : CallF} {G : Nat} {h h1 : AH} {ρ ρ' : Ren} {w w' : World} {r : Value}
theorem tmps_start {args args' : List Value} {n : Nat} (hl : LR ρ args args') (hn : args.length ≤ n) : TR n ρ (tmpsOf args 0 .nil) (args'.toArray ++ Array.replicate (n - args'.toArray.size) undef) := by
  have hlen := hl.length
  refine ⟨by simp; omega, fun i => ?_⟩
  rw [tmpsOf_get]
  by_cases hi : i < args.length
  · rw [if_pos (by omega), Nat.sub_zero]
    have hv := List.getElem?_eq_getElem hi
    obtain ⟨v', h1, h2⟩ := hl.get hv
    rw [hv, Array.getD_eq_getD_getElem?, Array.getElem?_append_left (by simp; omega)]
    simp only [List.getElem?_toArray, h1]
    exact h2
  · rw [if_neg (by omega), Tr.get_nil, Array.getD_eq_getD_getElem?, Array.getElem?_append_right (by simp; omega), Array.getElem?_replicate]
    have : (if i - args'.toArray.size < n - args'.toArray.size then some undef else none).getD undef = undef := by split <;> rfl
    rw [this]
    exact .tuple .nil
noncomputable def told (h1 : AH) (n : Nat) (log : List Nat) : AH := ⟨h1.t, h1.n, below n h1.log log, h1.sym, h1.cnt, h1.orc, h1.ob⟩
noncomputable def fresh0 (h : AH) : AH := ⟨h.t, h.n, [], h.sym, h.cnt, h.orc, h.ob⟩
theorem fwd_told (hf : Fwd (fresh0 h) h1) : Fwd h (told h1 h.n h.log) where
  n := hf.n
  ob := fun q => hf.ob q
  keep := fun b hb hl => by
    have h2 : b ∉ h1.log := fun hm => hl ((mem_below _ _ _ _).2 (.inl ⟨hm, hb⟩))
    have h3 := hf.keep b hb h2
    rw [AH.obj_eq (h := h) (h' := fresh0 h) rfl rfl] at h3
    rw [AH.obj_eq (h := h1) (h' := told h1 h.n h.log) rfl rfl]; exact h3
  logm := fun b hb => (mem_below _ _ _ _).2 (.inr hb)
theorem step_told (st : Step P.cellsOf ρ (fresh0 h) w ρ' h1 w') : Step P.cellsOf ρ h w ρ' (told h1 h.n h.log) w' where
  ext := st.ext
  dom := st.dom
  rel := st.rel.congr rfl rfl rfl
  size := st.size
  n_le := st.n_le
  str := st.str
  frame := fun c hc => (st.frame c hc).imp id fun ⟨b, im, h2, h3, h4⟩ => ⟨b, im, (mem_below _ _ _ _).2 (.inl ⟨h2, h3⟩), h3, h4⟩
  fresh := fun b im h2 h3 => (st.fresh b im h2 h3).imp id fun ⟨b0, im0, h4, h5, h6⟩ => ⟨b0, im0, (mem_below _ _ _ _).2 (.inl ⟨h4, h5⟩), h5, h6⟩
  keep := fun b hb hl => by
    have h2 : b ∉ h1.log := fun hm => hl ((mem_below _ _ _ _).2 (.inl ⟨hm, hb⟩))
    have h3 := st.keep b hb h2
    rw [AH.obj_eq (h := h) (h' := fresh0 h) rfl rfl] at h3
    rw [AH.obj_eq (h := h1) (h' := told h1 h.n h.log) rfl rfl]; exact h3
  logm := fun b hb => (mem_below _ _ _ _).2 (.inr hb)
  wrote := fun b hb => by
    rcases (mem_below _ _ _ _).1 hb with ⟨h2, h3⟩ | h2
    · rcases st.wrote b h2 with h4 | h4 | ⟨h4, h5⟩
      · simp [fresh0] at h4
      · exact .inr (.inl h4)
      · exact .inr (.inr ⟨h4, by rw [AH.obj_eq (h := h) (h' := fresh0 h) rfl rfl] at h5; exact h5⟩)
    · exact .inl h2
theorem abody_some {fn : Func} {c : Code} {args : List Value} (hx : abody E C fn c args h = some (r, h1)) :
    ∃ s hd, acode c E C FUEL (tmpsOf args 0 .nil) [] (fresh0 h) = some s ∧ (s.e = .normal ∨ s.e = .ret) ∧ adefers E C s.d s.h = some hd ∧ aresult E fn s.t hd = some r ∧ h1 = told hd h.n h.log := by
  obtain ⟨ht, n, log, sym, cnt, orc, ob⟩ := h
  have hx : aout E C fn n log (acode c E C FUEL (tmpsOf args 0 .nil) [] (fresh0 ⟨ht, n, log, sym, cnt, orc, ob⟩)) = some (r, h1) := hx
  cases ha : acode c E C FUEL (tmpsOf args 0 .nil) [] (fresh0 ⟨ht, n, log, sym, cnt, orc, ob⟩) with
  | none => rw [ha] at hx; simp [aout] at hx
  | some s =>
    rw [ha] at hx
    obtain ⟨e, t, d, hs⟩ := s
    have go : aend E C fn n log t (adefers E C d hs) = some (r, h1) → ∃ hd, adefers E C d hs = some hd ∧ aresult E fn t hd = some r ∧ h1 = told hd n log := by
      intro hx
      cases hd : adefers E C d hs with
      | none => rw [hd] at hx; simp [aend] at hx
      | some hd2 =>
        rw [hd] at hx
        simp only [aend] at hx
        cases hr : aresult E fn t hd2 with
        | none => rw [hr] at hx; simp at hx
        | some v =>
          rw [hr] at hx
          obtain ⟨a1, a2, a3, a4, a5, a6, a7⟩ := hd2
          simp at hx
          obtain ⟨rfl, rfl⟩ := hx
          exact ⟨_, rfl, hr, rfl⟩
    cases e with
    | exit id => simp [aout] at hx
    | normal =>
      obtain ⟨hd, k1, k2, k3⟩ := go hx
      exact ⟨_, hd, rfl, .inl rfl, k1, k2, k3⟩
    | ret =>
      obtain ⟨hd, k1, k2, k3⟩ := go hx
      exact ⟨_, hd, rfl, .inr rfl, k1, k2, k3⟩
theorem acall_succ {n f : Nat} {args : List Value} (hx : acall E (n + 1) f args h = some (r, h1)) :
    (∃ g, E.ext.get f = some g ∧ g args h = some (r, h1)) ∨ ∃ fn c, E.fn.get f = some fn ∧ fn.body = some c ∧ args.length ≤ fn.ntmps ∧ abody E (acall E n) fn c args h = some (r, h1) := by
  have hx : acall1 E (acall E n) f args h = some (r, h1) := hx
  unfold acall1 at hx
  cases he : E.ext.get f with
  | some g => rw [he] at hx; exact .inl ⟨g, rfl, hx⟩
  | none =>
    rw [he] at hx
    simp only at hx
    cases hf : E.fn.get f with
    | none => rw [hf] at hx; simp [acallO] at hx
    | some fn =>
      rw [hf] at hx
      simp only [acallO, acallF] at hx
      cases hb : fn.body with
      | none => simp [hb] at hx
      | some c =>
        simp only [hb, ble_eq, len_eq] at hx
        by_cases hl : args.length ≤ fn.ntmps
        · simp only [hl, decide_true] at hx
          exact .inr ⟨fn, c, rfl, hb, hl, hx⟩
        · simp [hl] at hx
theorem acall_fwd (hE : EnvF P E G) : ∀ n, CFwd (acall E n)
  | 0 => fun f args h r h1 hx => by cases hx
  | n + 1 => fun f args h r h1 hx => by
    have ih := acall_fwd hE n
    rcases acall_succ hx with ⟨g, h2, h3⟩ | ⟨fn, c, h2, h3, h4, h5⟩
    · exact (hE.ext f g h2).fwd _ _ _ _ h3
    · obtain ⟨s, hd, k1, k2, k3, k4, rfl⟩ := abody_some h5
      obtain ⟨_, g3⟩ := hE.fn f fn h2
      exact fwd_told ((acode_fwd ih c (g3 c h3).2 _ _ _ _ _ k1).trans (adefers_fwd ih _ _ k3))
theorem abody_ok (hE : EnvF P E G) {n f : Nat} {args : List Value} {fn : Func} {c : Code} (ih : CallOK P G (acall E n)) (ihD : DefOK P G E (acall E n)) (h2 : E.fn.get f = some fn) (h3 : fn.body = some c) (h4 : args.length ≤ fn.ntmps)
    (h5 : abody E (acall E n) fn c args h = some (r, h1)) (hob : OB h1) {ρ : Ren} {w : World} {args' : List Value} (hg : GL G ρ) (hr : Rel P.cellsOf ρ h w) (hf : Fr ρ h.n h1.n) (hl : LR ρ args args') :
    (Ans P f args'.toArray w fun v w' => ∃ ρ', VR ρ' r v ∧ Step P.cellsOf ρ h w ρ' h1 w') ∧ (AnsD P f args'.toArray w fun v w' => ∃ ρ', VR ρ' r v ∧ Step P.cellsOf ρ h w ρ' h1 w') := by
  have ihF := acall_fwd hE n
  obtain ⟨s, hd, k1, k2, k3, k4, rfl⟩ := abody_some h5
  obtain ⟨g1, g3⟩ := hE.fn f fn h2
  obtain ⟨g2, hok⟩ := g3 c h3
  have hobd : OB hd := hob
  have hfd := adefers_fwd ihF _ _ k3
  have hobs : OB s.h := hfd.ob hobd
  have hr0 : Rel P.cellsOf ρ (fresh0 h) w := hr.congr rfl rfl rfl
  have hf0 : Fr ρ (fresh0 h).n hd.n := hf
  have hfc := acode_fwd ihF c hok _ _ _ _ _ k1
  have hcall : (callFunc f args'.toArray).run P w = .ok (.enter f args'.toArray) w := by
    have hname : fn.name ≠ "runtime.NumGoroutine" := by simpa using g2
    simp [callFunc, g1, hname, h3]
  have hwp := acode_ok hE.toEnvM ih ihF hE.mixed c hok FUEL _ _ _ s k1 hobs ρ w { tmps := args'.toArray ++ Array.replicate (fn.ntmps - args'.toArray.size) undef, defers := [] } hg hr0
    (hf0.sub (Nat.le_refl _) hfd.n) (tmps_start hl h4) .nil
  have hB := body_ok (R := fun v w' => ∃ ρ', VR ρ' r v ∧ Step P.cellsOf ρ h w ρ' (told hd h.n h.log) w') g1 h3 hwp fun e a w1 hq => by
    obtain ⟨he, ρ1, p1, p2, p3⟩ := hq
    refine ⟨?_, fun fr cs hm hds => ?_⟩
    · rcases k2 with k2 | k2 <;> rw [k2] at he
      · exact .inl he
      · exact .inr he
    · obtain ⟨ρ2, w2, q1, q2⟩ := adefers_ok hE.toEnvM ihD ihF s.d a.defers s.h ρ1 w1 k3 hobd (hg.mono p3.ext) p3.rel (Fr.next hf0 p3) p2 fr cs hm hds
      obtain ⟨v, q3, q4⟩ := aresult_ok hE.toEnvT k4 q1.rel (p1.mono q1.ext)
      exact ⟨v, w2, q2, q3, ρ2, q4, step_told (Step.trans hf0 p3 q1)⟩
  unfold Ans AnsD
  rw [hcall]
  exact hB
theorem acall_both (hE : EnvF P E G) : ∀ n, CallOK P G (acall E n) ∧ DefOK P G E (acall E n)
  | 0 => ⟨fun f args h r h1 hx => (by cases hx), fun f args h r h1 _ hx => (by cases hx)⟩
  | n + 1 => by
    obtain ⟨ih, ihD⟩ := acall_both hE n
    refine ⟨fun f args h r h1 hx hob ρ w args' hg hr hf hl => ?_, fun f args h r h1 he hx hob ρ w args' hg hr hf hl => ?_⟩
    · rcases acall_succ hx with ⟨g, h2, h3⟩ | ⟨fn, c, h2, h3, h4, h5⟩
      · exact (hE.ext f g h2).run _ _ _ _ h3 hob ρ w args' hg hr hf hl
      · exact (abody_ok hE ih ihD h2 h3 h4 h5 hob hg hr hf hl).1
    · rcases acall_succ hx with ⟨g, h2, h3⟩ | ⟨fn, c, h2, h3, h4, h5⟩
      · rw [he] at h2; cases h2
      · exact (abody_ok hE ih ihD h2 h3 h4 h5 hob hg hr hf hl).2
theorem acall_ok (hE : EnvF P E G) (n : Nat) : CallOK P G (acall E n) := (acall_both hE n).1
end
end Go.Proofs.YtkmbkejmfffafaaGreatDoor.Refl
namespace Go.Proofs.YtkmbkejmfffafaaGreatDoor.Refl
open Go
set_option linter.unusedVariables false
set_option linter.unusedSimpArgs false
structure XFact (P : Program) (f : Nat) (fn : Func) (e : Array Value → Sem Value) : Prop where
  hf : P.funcs[f]? = some fn
  name : (fn.name == "runtime.NumGoroutine") = false
  body : fn.body.isNone = true
  next : Extern.findNext fn = none
  find : Extern.find fn = some e
section
variable {P : Program} {G f : Nat} {fn : Func} {e : Array Value → Sem Value} {h h1 : AH} {ρ : Ren} {w : World} {k : IntKind}
theorem Ans.of {args : Array Value} {v : Value} {w' : World} {R : Value → World → Prop} (hc : (callFunc f args).run P w = .ok (.value v) w') (hR : R v w') : Ans P f args w R := by
  unfold Ans; rw [hc]; exact hR
theorem XFact.ans (X : XFact P f fn e) {args : Array Value} {v : Value} {w' : World} {R : Value → World → Prop} (hc : (e args).run P w = .ok v w') (hR : R v w') : Ans P f args w R :=
  .of (by rw [run_callFunc_extern X.hf X.name X.body X.next X.find, hc]; rfl) hR
theorem x1_some {g : Value → AH → AR} {l : List Value} {r : Value} (hx : x1 g l h = some (r, h1)) : ∃ x, l = [x] ∧ g x h = some (r, h1) := by
  unfold x1 at hx
  split at hx
  · exact ⟨_, rfl, hx⟩
  · simp at hx
theorem x2_some {g : Value → Value → AH → AR} {l : List Value} {r : Value} (hx : x2 g l h = some (r, h1)) : ∃ x y, l = [x, y] ∧ g x y h = some (r, h1) := by
  unfold x2 at hx
  split at hx
  · exact ⟨_, _, rfl, hx⟩
  · simp at hx
theorem x3_some {g : Value → Value → Value → AH → AR} {l : List Value} {r : Value} (hx : x3 g l h = some (r, h1)) : ∃ x y z, l = [x, y, z] ∧ g x y z h = some (r, h1) := by
  unfold x3 at hx
  split at hx
  · exact ⟨_, _, _, rfl, hx⟩
  · simp at hx
theorem LR.three {x y z : Value} {args' : List Value} (hl : LR ρ [x, y, z] args') : ∃ x' y' z', args' = [x', y', z'] ∧ VR ρ x x' ∧ VR ρ y y' ∧ VR ρ z z' := by
  cases hl with | cons hx hl => obtain ⟨y', z', rfl, hy, hz⟩ := hl.two; exact ⟨_, _, _, rfl, hx, hy, hz⟩
theorem xNoEscape_ok (X : XFact P f fn Extern.AbiNoEscape.same) : ExtOK P G f xNoEscape where
  fwd := fun args h r h1 hx => by unfold xNoEscape at hx; obtain ⟨x, rfl, hq⟩ := x1_some hx; cases hq; exact .refl _
  run := fun args h r h1 hx hob ρ w args' hg hr hf hl => by
    unfold xNoEscape at hx
    obtain ⟨x, rfl, hq⟩ := x1_some hx
    replace hx := hq
    cases hx
    obtain ⟨x', rfl, hv⟩ := hl.one
    exact X.ans (v := x') (w' := w) rfl ⟨ρ, hv, .refl hr⟩
theorem xNone_ok {m : Mark} (X : XFact P f fn (fun _ => do mark m; pure Extern.Race.none_)) : ExtOK P G f xNone where
  fwd := fun args h r h1 hx => by have hx : some (Value.tuple ⟨[]⟩, h) = some (r, h1) := hx; cases hx; exact .refl _
  run := fun args h r h1 hx hob ρ w args' hg hr hf hl => by
    have hx : some (Value.tuple ⟨[]⟩, h) = some (r, h1) := hx
    cases hx
    exact X.ans (v := .tuple #[]) (w' := w) rfl ⟨ρ, .tuple .nil, .refl hr⟩
theorem xMark_ok {m : Addr → Mark} (X : XFact P f fn (Extern.Race.marked m)) : ExtOK P G f xMark where
  fwd := fun args h r h1 hx => by
    unfold xMark at hx
    obtain ⟨x, rfl, hq⟩ := x1_some hx
    replace hx := hq
    try simp only at hx
    split at hx
    · cases hx; exact .refl _
    · simp at hx
  run := fun args h r h1 hx hob ρ w args' hg hr hf hl => by
    unfold xMark at hx
    obtain ⟨x, rfl, hq⟩ := x1_some hx
    replace hx := hq
    obtain ⟨x', rfl, hv⟩ := hl.one
    cases hp : asPtr x with
    | none => simp [hp] at hx
    | some p =>
      simp [hp] at hx
      obtain ⟨rfl, rfl⟩ := hx
      obtain ⟨im, hb, rfl⟩ := asPtr_VR hp hv
      exact .of (run_call_marked X.hf X.name X.body X.next m X.find _ w) ⟨ρ, .tuple .nil, .refl hr⟩
theorem intAt_ok {p : PA} {n : Int} {im : Im} (hx : intAt k h p = some n) (hr : Rel P.cellsOf ρ h w) (hb : ρ p.b = some im) : w.cell? ⟨im.blk, im.sh + p.off, none⟩ = some (.int k n) := by
  unfold intAt at hx
  cases hc : (h.obj p.b).cell p.off with
  | none => simp [hc] at hx
  | some v =>
    simp only [hc] at hx
    cases hi : asInt v with
    | none => simp [hi] at hx
    | some i =>
      simp only [hi] at hx
      cases hk : kEq k i.k with
      | false => simp [hk] at hx
      | true =>
        simp [hk] at hx
        obtain ⟨v', h2, h3, _⟩ := hr.cell hb hc
        obtain ⟨rfl, rfl⟩ := asInt_VR hi h3
        rw [h2, ← kEq_true hk, hx]
theorem storeAt_place {b off : Nat} {v : Value} (hx : storeAt h b off [v] = some h1) : (∃ u, (h.obj b).cell off = some u) ∧ fzOf (h.obj b) ≤ off := by
  unfold storeAt at hx
  cases ho : h.obj b with
  | dead => rw [ho] at hx; simp at hx
  | map es clock => rw [ho] at hx; simp at hx
  | siter s pos => rw [ho] at hx; simp at hx
  | cells cs e fz kd =>
    rw [ho] at hx
    simp only [stCells, ble_eq] at hx
    by_cases hf : fz ≤ off
    · simp only [hf, decide_true] at hx
      cases hov : over cs off [v] with
      | none => rw [hov] at hx; simp at hx
      | some cs2 =>
        obtain ⟨hle, _⟩ := over_some _ _ _ _ hov
        simp at hle
        exact ⟨⟨cs[off], by simp [AObj.cell, nth_eq]⟩, hf⟩
    · simp [hf] at hx
  | bytes l e fz kd =>
    rw [ho] at hx
    simp only [stBytes, ble_eq] at hx
    by_cases hf : fz ≤ off
    · simp only [hf, decide_true] at hx
      cases hu : u8sOf [v] with
      | none => rw [hu] at hx; simp at hx
      | some bs =>
        rw [hu] at hx
        try simp only at hx
        cases hov : over l off bs with
        | none => rw [hov] at hx; simp at hx
        | some l2 =>
          obtain ⟨hle, _⟩ := over_some _ _ _ _ hov
          have hbl : bs.length = 1 := by
            have := u8sOf_some _ _ hu
            have := congrArg List.length this
            simpa using this.symm
          rw [hbl] at hle
          refine ⟨⟨u8v l[off], ?_⟩, hf⟩
          rw [bytesOf_cell (l := l) rfl, List.getElem?_eq_getElem (by omega)]; rfl
    · simp [hf] at hx
theorem place_free {b off : Nat} {im : Im} {u : Value} (hr : Rel P.cellsOf ρ h w) (hb : ρ b = some im) (hc : (h.obj b).cell off = some u) (hfz : fzOf (h.obj b) ≤ off) : w.frozen? ⟨im.blk, im.sh + off, none⟩ = false := by
  have hd : h.obj b ≠ .dead := fun e => by rw [e] at hc; simp [AObj.cell] at hc
  obtain ⟨e, fz, kd, n, ⟨cs', lo, hi, h1, h2, h3, _⟩, _, h5⟩ := cell_row hc (hr.obj b im hb (hr.lt hd))
  obtain ⟨_, u', h6, _⟩ := h2 off u hc
  have hlt := (Array.getElem?_eq_some_iff.1 h6).1
  have hfr := h3.1 (im.sh + off) hlt
  simp only [World.frozen?, h1, Bool.and_eq_false_iff, decide_eq_false_iff_not]
  by_cases ha : lo ≤ im.sh + off
  · by_cases hb : im.sh + off < hi
    · have := hfr ha hb; omega
    · exact .inr (by simpa using hb)
  · exact .inl (by simpa using ha)
theorem store1 {b off : Nat} {im : Im} {kk : IntKind} {n : Int} (hx : storeAt h b off [.int kk n] = some h1) (hr : Rel P.cellsOf ρ h w) (hb : ρ b = some im) :
    (∃ u, w.cell? ⟨im.blk, im.sh + off, none⟩ = some u) ∧ w.frozen? ⟨im.blk, im.sh + off, none⟩ = false ∧ Step P.cellsOf ρ h w ρ h1 (w.setCell ⟨im.blk, im.sh + off, none⟩ (.int kk n)) := by
  obtain ⟨⟨u, hc⟩, hfz⟩ := storeAt_place hx
  obtain ⟨u', h2, _, _⟩ := hr.cell hb hc
  obtain ⟨_, k2, _, _⟩ := storeAt_ok (P := P) (vs := [.int kk n]) (vs' := [.int kk n]) hx hr hb (LR.single (.int kk n)) (fun v hv => by simp at hv; subst hv; rfl)
  exact ⟨⟨u', h2⟩, place_free hr hb hc hfz, k2⟩
theorem retV_some {v r : Value} {o : Option AH} (hx : retV v o = some (r, h1)) : o = some h1 ∧ r = v := by
  cases o <;> simp [retV] at hx
  exact ⟨by rw [hx.2], hx.1.symm⟩
theorem xLoad_ok (X : XFact P f fn (Extern.Atomic.loadT (.int k))) : ExtOK P G f (xLoad k) where
  fwd := fun args h r h1 hx => by
    unfold xLoad at hx
    obtain ⟨x, rfl, hq⟩ := x1_some hx
    replace hx := hq
    try simp only at hx
    repeat' split at hx
    all_goals first | (cases hx; exact .refl _) | (simp at hx; done)
  run := fun args h r h1 hx hob ρ w args' hg hr hf hl => by
    unfold xLoad at hx
    obtain ⟨x, rfl, hq⟩ := x1_some hx
    replace hx := hq
    obtain ⟨x', rfl, hv⟩ := hl.one
    cases hp : asPtr x with
    | none => simp [hp] at hx
    | some p =>
      obtain ⟨im, hb, rfl⟩ := asPtr_VR hp hv
      simp only [hp] at hx
      cases hn : intAt k h p with
      | none => simp [hn] at hx
      | some n =>
        simp [hn] at hx
        obtain ⟨rfl, rfl⟩ := hx
        exact .of (run_call_load X.hf X.name X.body X.next k X.find (intAt_ok hn hr hb)) ⟨ρ, .int _ _, .refl hr⟩
theorem xStore_ok (X : XFact P f fn Extern.Atomic.storeT) : ExtOK P G f xStore where
  fwd := fun args h r h1 hx => by
    unfold xStore at hx
    obtain ⟨x, y, rfl, hq⟩ := x2_some hx
    replace hx := hq
    try simp only at hx
    repeat' split at hx
    all_goals first | (simp at hx; done) | exact storeAt_fwd (unit_some hx).1
  run := fun args h r h1 hx hob ρ w args' hg hr hf hl => by
    unfold xStore at hx
    obtain ⟨x, y, rfl, hq⟩ := x2_some hx
    replace hx := hq
    obtain ⟨x', y', rfl, hv, hv2⟩ := hl.two
    cases hp : asPtr x with
    | none => simp [hp] at hx
    | some p =>
      obtain ⟨im, hb, rfl⟩ := asPtr_VR hp hv
      simp only [hp] at hx
      cases hi : asInt y with
      | none => simp [hi] at hx
      | some i =>
        obtain ⟨rfl, rfl⟩ := asInt_VR hi hv2
        simp only [hi] at hx
        obtain ⟨h2, rfl⟩ := unit_some hx
        obtain ⟨⟨u, k1⟩, k2, k3⟩ := store1 h2 hr hb
        exact .of (run_call_store X.hf X.name X.body X.next X.find k1 k2) ⟨ρ, .tuple .nil, k3⟩
theorem xAdd_ok (X : XFact P f fn (Extern.Atomic.update (Op.intArith .add) k true)) : ExtOK P G f (xAdd k) where
  fwd := fun args h r h1 hx => by
    unfold xAdd at hx
    obtain ⟨x, y, rfl, hq⟩ := x2_some hx
    replace hx := hq
    try simp only at hx
    repeat' split at hx
    all_goals first | (simp at hx; done) | exact storeAt_fwd (retV_some hx).1
  run := fun args h r h1 hx hob ρ w args' hg hr hf hl => by
    unfold xAdd at hx
    obtain ⟨x, y, rfl, hq⟩ := x2_some hx
    replace hx := hq
    obtain ⟨x', y', rfl, hv, hv2⟩ := hl.two
    cases hp : asPtr x with
    | none => simp [hp] at hx
    | some p =>
      obtain ⟨im, hb, rfl⟩ := asPtr_VR hp hv
      simp only [hp] at hx
      cases hi : asInt y with
      | none => simp [hi] at hx
      | some i =>
        obtain ⟨rfl, rfl⟩ := asInt_VR hi hv2
        simp only [hi] at hx
        cases hk : kEq k i.k with
        | false => simp [hk] at hx
        | true =>
          simp only [hk] at hx
          cases hn : intAt k h p with
          | none => simp [hn] at hx
          | some n =>
            simp only [hn] at hx
            obtain ⟨h2, rfl⟩ := retV_some hx
            obtain ⟨⟨u, k1⟩, k2, k3⟩ := store1 h2 hr hb
            have hk' := kEq_true hk
            rw [← hk']
            exact .of (run_call_add X.hf X.name X.body X.next k X.find (intAt_ok hn hr hb) k2 (by simp [Op.intArith])) ⟨ρ, .int _ _, k3⟩
theorem xCas_ok (X : XFact P f fn (Extern.Atomic.casT (.int k))) : ExtOK P G f (xCas k) where
  fwd := fun args h r h1 hx => by
    unfold xCas at hx
    obtain ⟨x, y, z, rfl, hq⟩ := x3_some hx
    replace hx := hq
    simp only [xCas1] at hx
    repeat' split at hx
    all_goals first | (simp at hx; done) | exact storeAt_fwd (retV_some hx).1 | (cases hx; exact .refl _)
  run := fun args h r h1 hx hob ρ w args' hg hr hf hl => by
    unfold xCas at hx
    obtain ⟨x, y, z, rfl, hq⟩ := x3_some hx
    replace hx := hq
    obtain ⟨x', y', z', rfl, hv, hv2, hv3⟩ := hl.three
    cases hp : asPtr x with
    | none => simp [hp] at hx
    | some p =>
      obtain ⟨im, hb, rfl⟩ := asPtr_VR hp hv
      simp only [hp] at hx
      cases hj : asInt y with
      | none => simp [hj] at hx
      | some j =>
        obtain ⟨rfl, rfl⟩ := asInt_VR hj hv2
        simp only [hj] at hx
        cases hi : asInt z with
        | none => simp [hi] at hx
        | some i =>
          obtain ⟨rfl, rfl⟩ := asInt_VR hi hv3
          simp only [hi] at hx
          cases hk : kEq k j.k with
          | false => simp [hk] at hx
          | true =>
            simp only [hk] at hx
            cases hk2 : kEq k i.k with
            | false => simp [hk2] at hx
            | true =>
              simp only [hk2, xCas1] at hx
              have e1 := kEq_true hk
              have e2 := kEq_true hk2
              rw [← e1, ← e2]
              cases hn : intAt k h p with
              | none => simp [hn] at hx
              | some n =>
                simp only [hn, ble_eq] at hx
                by_cases hfz : fzOf (h.obj p.b) ≤ p.off
                · simp only [hfz, decide_true, iEq_eq] at hx
                  have hc := intAt_ok hn hr hb
                  have hcell : ∃ u, (h.obj p.b).cell p.off = some u := by
                    unfold intAt at hn
                    cases hcc : (h.obj p.b).cell p.off with
                    | none => simp [hcc] at hn
                    | some u => exact ⟨u, rfl⟩
                  obtain ⟨u, hcell⟩ := hcell
                  have hfree := place_free hr hb hcell hfz
                  by_cases hno : n = j.n
                  · simp only [hno, decide_true] at hx
                    obtain ⟨h2, rfl⟩ := retV_some hx
                    obtain ⟨_, k2, k3⟩ := store1 h2 hr hb
                    rw [hno] at hc
                    exact .of (run_call_cas_hit X.hf X.name X.body X.next k X.find hc k2) ⟨ρ, .bool _, k3⟩
                  · simp [hno] at hx
                    obtain ⟨rfl, rfl⟩ := hx
                    exact .of (run_call_cas_miss X.hf X.name X.body X.next k X.find hc hfree hno) ⟨ρ, .bool _, .refl hr⟩
                · simp [hfz] at hx
theorem xMakeNoZero_ok {ps : Array TypeId} {t u : TypeId} (ht : P.underlying t = some (.slice u)) (hu : P.cellsOf u = 1) (X : XFact P f fn (Extern.BytealgMakeNoZero.makeNoZero ps #[t])) : ExtOK P G f (xMakeNoZero u) where
  fwd := fun args h r h1 hx => by
    unfold xMakeNoZero at hx
    obtain ⟨x, rfl, hq⟩ := x1_some hx
    replace hx := hq
    try simp only at hx
    repeat' split at hx
    all_goals first | (cases hx; exact .alloc _ _) | (simp at hx; done)
  run := fun args h r h1 hx hob ρ w args' hg hr hf hl => by
    unfold xMakeNoZero at hx
    obtain ⟨x, rfl, hq⟩ := x1_some hx
    replace hx := hq
    obtain ⟨x', rfl, hv⟩ := hl.one
    cases hi : asInt x with
    | none => simp [hi] at hx
    | some i =>
      obtain ⟨rfl, rfl⟩ := asInt_VR hi hv
      simp only [hi] at hx
      cases hk : kEq .i64 i.k with
      | false => simp [hk] at hx
      | true =>
        simp only [hk] at hx
        have hk' := kEq_true hk
        cases hn : natI i.n with
        | none => simp [hn] at hx
        | some n =>
          have hin : i.n = (n : Int) := by
            cases hh : i.n with
            | ofNat m => rw [hh] at hn; simp [natI] at hn; rw [hn]; rfl
            | negSucc m => rw [hh] at hn; simp [natI] at hn
          simp only [hn, ble_eq] at hx
          by_cases hle : n ≤ 1099511627776
          · simp [hle] at hx
            obtain ⟨rfl, rfl⟩ := hx
            obtain ⟨cs, k1, k2, _⟩ := Lib.run_makeNoZero (P := P) w ps t u ht n (by omega)
            have h0 : ρ h.n = none := hf h.n (Nat.le_refl _) (by rw [alloc_n]; omega)
            rw [hin, ← hk']
            refine X.ans k1 ⟨upd ρ h.n ⟨w.heap.size, 0, cs.size, 1⟩, ?_, ?_⟩
            · exact .slLoose (im := ⟨w.heap.size, 0, cs.size, 1⟩) rfl (upd_same _ _ _) k2 (.inl ⟨⟨rfl, rfl, _, upd_same _ _ _, rfl, rfl⟩, by simp⟩)
            · refine .alloc (x := .cells cs u) hr h0 rfl ⟨rfl, rfl, rfl⟩ rfl ?_
              exact ⟨cs, 0, 0, heap_alloc_new w.drew.drew _, fun i v hiv => by rw [bytesOf_cell (l := []) rfl] at hiv; simp at hiv, fz_new _ _ _, Nat.le_refl _, hu.symm, fun e => by cases e⟩
          · simp [hle] at hx
theorem findByte_eq (c : UInt8) : ∀ (l : List UInt8) (i : Nat), (findByte c l i = none ∧ Lib.indexByte l c = -1) ∨ ∃ n : Nat, findByte c l i = some (i + n) ∧ Lib.indexByte l c = (n : Int)
  | [], i => .inl ⟨rfl, rfl⟩
  | b :: l, i => by
    have h0 : findByte c (b :: l) i = (match Nat.beq b.toNat c.toNat with | true => some i | false => findByte c l (i + 1)) := rfl
    rw [h0, bq]
    by_cases hb : b = c
    · subst hb; exact .inr ⟨0, by simp, by simp [Lib.indexByte]⟩
    · have h1 : b.toNat ≠ c.toNat := fun e => hb (UInt8.toNat_inj.1 e)
      have h2 : (b == c) = false := by simp [hb]
      simp only [h1, decide_false]
      rcases findByte_eq c l (i + 1) with ⟨h3, h4⟩ | ⟨n, h3, h4⟩
      · exact .inl ⟨h3, by simp [Lib.indexByte, h2, h4]⟩
      · refine .inr ⟨n + 1, by rw [h3]; congr 1; omega, ?_⟩
        have h5 : ¬ ((n : Int) = -1) := by omega
        simp [Lib.indexByte, h2, h4, h5]
theorem countByte_eq (c : UInt8) : ∀ (l : List UInt8) (n : Nat), countByte c l n = n + Lib.countByte l c
  | [], n => rfl
  | b :: l, n => by
    have h0 : countByte c (b :: l) n = (match Nat.beq b.toNat c.toNat with | true => countByte c l (n + 1) | false => countByte c l n) := rfl
    rw [h0, bq]
    unfold Lib.countByte
    rw [List.count_cons]
    by_cases hb : b = c
    · subst hb
      simp only [decide_true]
      rw [countByte_eq b l]
      unfold Lib.countByte
      simp; omega
    · have h1 : b.toNat ≠ c.toNat := fun e => hb (UInt8.toNat_inj.1 e)
      have h2 : (b == c) = false := by simp [hb]
      simp only [h1, decide_false]
      rw [countByte_eq c l]
      unfold Lib.countByte
      simp [h2]
theorem xIndexByte_ok (X : XFact P f fn Extern.BytealgIndexByte.indexByte) : ExtOK P G f xIndexByte where
  fwd := fun args h r h1 hx => by
    unfold xIndexByte at hx
    obtain ⟨x, y, rfl, hq⟩ := x2_some hx
    replace hx := hq
    try simp only at hx
    repeat' split at hx
    all_goals first | (cases hx; exact .refl _) | (simp at hx; done)
  run := fun args h r h1 hx hob ρ w args' hg hr hf hl => by
    unfold xIndexByte at hx
    obtain ⟨x, y, rfl, hq⟩ := x2_some hx
    replace hx := hq
    obtain ⟨x', y', rfl, hv, hv2⟩ := hl.two
    cases hs : asStr x with
    | none => simp [hs] at hx
    | some l =>
      obtain ⟨s, rfl, rfl, rfl⟩ := asStr_VR hs hv
      simp only [hs] at hx
      cases hc : u8of y with
      | none => simp [hc] at hx
      | some c =>
        simp only [hc] at hx
        have hy := u8of_some hc
        subst hy
        have hy' := u8v_VR hv2
        subst hy'
        have hrun := Lib.run_indexByteString (P := P) s (c.toNat : Int) w
        have hcc : ((c.toNat : Int).toNat).toUInt8 = c := by simp
        rw [hcc] at hrun
        rcases findByte_eq c s.data.toList 0 with ⟨h3, h4⟩ | ⟨n, h3, h4⟩
        · rw [h3] at hx
          rw [h4] at hrun
          cases hx
          exact X.ans hrun ⟨ρ, .int _ _, .refl hr⟩
        · rw [h3] at hx
          rw [h4] at hrun
          cases hx
          rw [Nat.zero_add]
          exact X.ans hrun ⟨ρ, .int _ _, .refl hr⟩
theorem xCount_ok (X : XFact P f fn Extern.BytealgCount.count) : ExtOK P G f xCount where
  fwd := fun args h r h1 hx => by
    unfold xCount at hx
    obtain ⟨x, y, rfl, hq⟩ := x2_some hx
    replace hx := hq
    repeat' split at hx
    all_goals first | (cases hx; exact .refl _) | (simp at hx; done)
  run := fun args h r h1 hx hob ρ w args' hg hr hf hl => by
    unfold xCount at hx
    obtain ⟨x, y, rfl, hq⟩ := x2_some hx
    replace hx := hq
    obtain ⟨x', y', rfl, hv, hv2⟩ := hl.two
    cases hs : asStr x with
    | none => simp [hs] at hx
    | some l =>
      obtain ⟨s, rfl, rfl, rfl⟩ := asStr_VR hs hv
      simp only [hs] at hx
      cases hc : u8of y with
      | none => simp [hc] at hx
      | some c =>
        simp only [hc] at hx
        have hy := u8of_some hc
        subst hy
        have hy' := u8v_VR hv2
        subst hy'
        have hrun := Lib.run_countString (P := P) s (c.toNat : Int) w
        have hcc : ((c.toNat : Int).toNat).toUInt8 = c := by simp
        rw [hcc] at hrun
        cases hx
        rw [countByte_eq, Nat.zero_add]
        exact X.ans hrun ⟨ρ, .int _ _, .refl hr⟩
end
end Go.Proofs.YtkmbkejmfffafaaGreatDoor.Refl
namespace Go.Proofs.YtkmbkejmfffafaaGreatDoor.Refl
open Go
set_option linter.unusedVariables false
set_option linter.unusedSimpArgs false
set_option maxRecDepth 100000
theorem mkX {P : Program} {f : Nat} {e : Array Value → Sem Value} (h1 : (P.funcs[f]?).bind Extern.find = some e) (h2 : (P.funcs[f]?).bind Extern.findNext = none)
    (h3 : (P.funcs[f]?).map (fun fn => fn.name == "runtime.NumGoroutine") = some false) (h4 : (P.funcs[f]?).map (fun fn => fn.body.isNone) = some true) : ∃ fn, XFact P f fn e := by
  cases hf : P.funcs[f]? with
  | none => rw [hf] at h3; cases h3
  | some fn =>
    rw [hf] at h1 h2 h3 h4
    exact ⟨fn, hf, by simpa using h3, by simpa using h4, h2, h1⟩
theorem x96 : ∃ fn, XFact Tryz.prog 96 fn Extern.AbiNoEscape.same := mkX (by kernel_rfl) (by kernel_rfl) (by kernel_rfl) (by kernel_rfl)
theorem x133 : ∃ fn, XFact Tryz.prog 133 fn (Extern.Atomic.update (Op.intArith .add) .i64 true) := mkX (by kernel_rfl) (by kernel_rfl) (by kernel_rfl) (by kernel_rfl)
theorem x145 : ∃ fn, XFact Tryz.prog 145 fn Extern.BytealgCount.count := mkX (by kernel_rfl) (by kernel_rfl) (by kernel_rfl) (by kernel_rfl)
theorem x146 : ∃ fn, XFact Tryz.prog 146 fn (Extern.BytealgMakeNoZero.makeNoZero #[3] #[27]) := mkX (by kernel_rfl) (by kernel_rfl) (by kernel_rfl) (by kernel_rfl)
theorem x170 : ∃ fn, XFact Tryz.prog 170 fn (Extern.Atomic.loadT (.int .u32)) := mkX (by kernel_rfl) (by kernel_rfl) (by kernel_rfl) (by kernel_rfl)
theorem x210 : ∃ fn, XFact Tryz.prog 210 fn Extern.Atomic.storeT := mkX (by kernel_rfl) (by kernel_rfl) (by kernel_rfl) (by kernel_rfl)
theorem x214 : ∃ fn, XFact Tryz.prog 214 fn Extern.BytealgIndexByte.indexByte := mkX (by kernel_rfl) (by kernel_rfl) (by kernel_rfl) (by kernel_rfl)
theorem x235 : ∃ fn, XFact Tryz.prog 235 fn (Extern.Atomic.casT (.int .i32)) := mkX (by kernel_rfl) (by kernel_rfl) (by kernel_rfl) (by kernel_rfl)
theorem x240 : ∃ fn, XFact Tryz.prog 240 fn (Extern.Atomic.update (Op.intArith .add) .i32 true) := mkX (by kernel_rfl) (by kernel_rfl) (by kernel_rfl) (by kernel_rfl)
theorem x234 : ∃ fn, XFact Tryz.prog 234 fn (fun _ => do mark .disable; pure Extern.Race.none_) := mkX (by kernel_rfl) (by kernel_rfl) (by kernel_rfl) (by kernel_rfl)
theorem x236 : ∃ fn, XFact Tryz.prog 236 fn (fun _ => do mark .enable; pure Extern.Race.none_) := mkX (by kernel_rfl) (by kernel_rfl) (by kernel_rfl) (by kernel_rfl)
theorem x237 : ∃ fn, XFact Tryz.prog 237 fn (Extern.Race.marked .acquire) := mkX (by kernel_rfl) (by kernel_rfl) (by kernel_rfl) (by kernel_rfl)
theorem x239 : ∃ fn, XFact Tryz.prog 239 fn (Extern.Race.marked .releaseMerge) := mkX (by kernel_rfl) (by kernel_rfl) (by kernel_rfl) (by kernel_rfl)
theorem u27 : Tryz.prog.underlying 27 = some (.slice 5) := by kernel_rfl
theorem c5 : Tryz.prog.cellsOf 5 = 1 := by kernel_rfl
theorem okT : okTypes Tryz.prog = true := by kernel_rfl
theorem okZ : okZeros Tryz.prog = true := by kernel_rfl
theorem okS : okSizes Tryz.prog = true := by kernel_rfl
theorem mixed : Tryz.prog.follows .mixedOrders = true := by kernel_rfl
noncomputable def okFn (fn : Func) : Bool := match fn.body with
  | none => true
  | some c => match okCode 12 fn.ntmps c with
    | false => false
    | true => !(fn.name == "runtime.NumGoroutine")
theorem okF : allB okFn Tryz.prog.funcs.toList = true := by kernel_rfl
theorem eq193a : Tryz.prog.eqGuardType Tryz.prog.depth 193 = false := by kernel_rfl
theorem eq193b : Tryz.prog.stoodInHeld 193 = false := by kernel_rfl
theorem eq193c : (match Tryz.prog.underlying 193 with | some (.struct fs) => fs.toList.all fun f => f.name != "_" | _ => true) = true := by kernel_rfl
end Go.Proofs.YtkmbkejmfffafaaGreatDoor.Refl
namespace Go.Proofs.YtkmbkejmfffafaaGreatDoor.Refl
open Go
set_option linter.unusedVariables false
set_option linter.unusedSimpArgs false
set_option maxRecDepth 100000
theorem trOf_get {α : Type} : ∀ (l : List α) (i : Nat) (t : Tr α) (x : Nat), (trOf l i t).get x = if i ≤ x ∧ x < i + l.length then l[x - i]? else t.get x
  | [], i, t, x => by
    show t.get x = _
    rw [if_neg (by simp)]
  | v :: l, i, t, x => by
    show (trOf l (i + 1) (t.set i v)).get x = _
    rw [trOf_get l, Tr.get_set, List.length_cons]
    by_cases h1 : i + 1 ≤ x ∧ x < i + 1 + l.length
    · rw [if_pos h1, if_pos (by omega), show x - i = (x - (i + 1)) + 1 by omega, List.getElem?_cons_succ]
    · rw [if_neg h1]
      by_cases h2 : x = i
      · subst h2; rw [if_pos rfl, if_pos (by omega)]; simp
      · rw [if_neg h2, if_neg (by omega)]
theorem trOf_some {α : Type} {l : List α} {x : Nat} {a : α} (h : (trOf l 0 .nil).get x = some a) : l[x]? = some a := by
  rw [trOf_get] at h
  by_cases h1 : 0 ≤ x ∧ x < 0 + l.length
  · rw [if_pos h1] at h; simpa using h
  · rw [if_neg h1, Tr.get_nil] at h; cases h
theorem extsOf_some : ∀ (l : List (Nat × XF)) (t : Tr XF) (x : Nat) (g : XF), (extsOf l t).get x = some g → (x, g) ∈ l ∨ t.get x = some g
  | [], t, x, g, h => .inr h
  | p :: l, t, x, g, h => by
    have h : (extsOf l (t.set p.1 p.2)).get x = some g := h
    rcases extsOf_some l _ x g h with h1 | h1
    · exact .inl (List.mem_cons_of_mem _ h1)
    · rw [Tr.get_set] at h1
      by_cases hx : x = p.1
      · rw [if_pos hx] at h1; cases h1; left; subst hx; exact List.mem_cons_self ..
      · rw [if_neg hx] at h1; exact .inr h1
theorem mapL_map {α β : Type} (f : α → β) : ∀ l : List α, mapL f l = l.map f
  | [] => rfl
  | a :: l => by
    show f a :: mapL f l = _
    rw [mapL_map f l]; rfl
noncomputable def envT (plug : List (Nat × XF)) : Env := envOf Tryz.prog (extT ++ plug) [(48, "String", 13)] [193]
theorem m48 : (Tryz.prog.info? 48).map (fun i => (i.methods.find? (·.name == "String")).map fun m => (m.path.isEmpty, m.func)) = some (some (true, some (13, false))) := by kernel_rfl
theorem u48 : (match Tryz.prog.underlying 48 with | some (.struct _) => true | _ => false) = true := by kernel_rfl
theorem method48 (fuel : Nat) (v : Value) (w : World) : (method (fuel + 1) 48 v "String").run Tryz.prog w = .ok (13, v) w := by
  have h1 := m48
  have h2 := u48
  cases hi : Tryz.prog.info? 48 with
  | none => rw [hi] at h1; cases h1
  | some i =>
    rw [hi] at h1
    simp only [Option.map_some, Option.some.injEq] at h1
    cases hm : i.methods.find? (·.name == "String") with
    | none => rw [hm] at h1; cases h1
    | some m =>
      rw [hm] at h1
      simp only [Option.map_some, Option.some.injEq, Prod.mk.injEq] at h1
      obtain ⟨hp, hf⟩ := h1
      have hpath : m.path.toList = [] := by simpa using hp
      cases hu : Tryz.prog.underlying 48 with
      | none => rw [hu] at h2; cases h2
      | some d =>
        rw [hu] at h2
        cases d with
        | struct fs => simp [method, typeInfo, hi, hm, hpath, follow, hf, receiverAt, run_underlying hu, Place.get]
        | _ => cases h2
theorem envT_ok {plug : List (Nat × XF)} (hp : ∀ x ∈ plug, ExtOK Tryz.prog 12 x.1 x.2) : EnvF Tryz.prog (envT plug) 12 where
  ty := fun t ti h => by
    have h : (trOf (mapL (tiOf Tryz.prog) Tryz.prog.types.toList) 0 .nil).get t = some ti := h
    have h := trOf_some h
    rw [mapL_map, List.getElem?_map] at h
    cases hi : Tryz.prog.types.toList[t]? with
    | none => rw [hi] at h; cases h
    | some info =>
      rw [hi] at h
      exact ⟨info, by rw [← Array.getElem?_toList]; exact hi, (Option.some.inj h).symm⟩
  types := okT
  zeros := okZ
  sizes := okS
  eqs := fun t ht => by
    have ht : t ∈ [193] := ht
    simp at ht
    subst ht
    refine ⟨eq193a, eq193b, fun fs hfs f hf => ?_⟩
    have h := eq193c
    rw [hfs] at h
    simp only at h
    have := List.all_eq_true.1 h f hf
    simpa using this
  meth := fun t name g h fuel v w => by
    have h : findM [(48, "String", 13)] t name = some g := h
    have h : (match Nat.beq 48 t with
      | true => match decide ("String" = name) with
        | true => some 13
        | false => none
      | false => none) = some g := h
    rw [bq] at h
    by_cases ht : 48 = t
    · by_cases hn : "String" = name
      · subst ht; subst hn
        simp at h
        subst h
        exact method48 fuel v w
      · simp [ht, hn] at h
    · simp [ht] at h
  fn := fun f fn h => by
    have h : (trOf Tryz.prog.funcs.toList 0 .nil).get f = some fn := h
    have h := trOf_some h
    have hm : fn ∈ Tryz.prog.funcs.toList := List.mem_of_getElem? h
    have hk := (allB_eq _ _).1 okF fn hm
    refine ⟨by rw [← Array.getElem?_toList]; exact h, fun c hc => ?_⟩
    unfold okFn at hk
    rw [hc] at hk
    simp only at hk
    cases hq : okCode 12 fn.ntmps c with
    | true => rw [hq] at hk; exact ⟨by simpa using hk, rfl⟩
    | false => rw [hq] at hk; cases hk
  ext := fun f g h => by
    have h : (extsOf (extT ++ plug) .nil).get f = some g := h
    rcases extsOf_some (extT ++ plug) .nil f g h with h1 | h1
    · rcases List.mem_append.1 h1 with h1 | h1
      · simp [extT] at h1
        rcases h1 with ⟨rfl, rfl⟩ | ⟨rfl, rfl⟩ | ⟨rfl, rfl⟩ | ⟨rfl, rfl⟩ | ⟨rfl, rfl⟩ | ⟨rfl, rfl⟩ | ⟨rfl, rfl⟩ | ⟨rfl, rfl⟩ | ⟨rfl, rfl⟩ | ⟨rfl, rfl⟩ | ⟨rfl, rfl⟩ | ⟨rfl, rfl⟩ | ⟨rfl, rfl⟩
        · exact xNoEscape_ok x96.choose_spec
        · exact xAdd_ok x133.choose_spec
        · exact xCount_ok x145.choose_spec
        · exact xMakeNoZero_ok u27 c5 x146.choose_spec
        · exact xLoad_ok x170.choose_spec
        · exact xStore_ok x210.choose_spec
        · exact xIndexByte_ok x214.choose_spec
        · exact xCas_ok x235.choose_spec
        · exact xAdd_ok x240.choose_spec
        · exact xNone_ok x234.choose_spec
        · exact xNone_ok x236.choose_spec
        · exact xMark_ok x237.choose_spec
        · exact xMark_ok x239.choose_spec
      · exact hp _ h1
    · rw [Tr.get_nil] at h1; cases h1
  mixed := mixed
end Go.Proofs.YtkmbkejmfffafaaGreatDoor.Refl
namespace Go.Proofs.YtkmbkejmfffafaaGreatDoor.Refl
open Go
set_option linter.unusedVariables false
set_option linter.unusedSimpArgs false
theorem Ans.mono {P : Program} {f : Nat} {args : Array Value} {w : World} {R R' : Value → World → Prop} (h : Ans P f args w R) (hr : ∀ v w', R v w' → R' v w') : Ans P f args w R' := by
  have hb : ∀ e w', Back R e w' → Back R' e w' := fun e w' he => by
    cases e with
    | returned v => exact hr v w' he
    | panicked c => exact he
    | outgrown => exact he
  unfold Ans at h ⊢
  cases hc : (callFunc f args).run P w with
  | halt x w' => rw [hc] at h; exact h
  | ok x w' =>
    rw [hc] at h
    cases x with
    | value v => exact hr v w' h
    | enter f2 a2 => exact Calls.mono h hb
    | _ => exact h
theorem LR_eq_of {ρ : Ren} : ∀ {l l' : List Value}, (∀ v ∈ l, ∀ v', VR ρ v v' → v' = v) → LR ρ l l' → l' = l
  | [], _, _, h => by cases h; rfl
  | v :: l, _, hv, h => by
    cases h with
    | cons h1 h2 => rw [hv v (by simp) _ h1, LR_eq_of (fun x hx => hv x (by simp [hx])) h2]
theorem flat_eq {ρ : Ren} : ∀ (n : Nat) (v v' : Value), flat n v = true → VR ρ v v' → v' = v
  | 0, v, v', h, _ => by cases h
  | n + 1, v, v', h, hv => by
    cases hv with
    | bool b => rfl
    | int k i => rfl
    | string s => rfl
    | ptrNil => rfl
    | ptr h1 => cases h
    | slNil => rfl
    | slTight h1 _ _ => cases h
    | slLoose h1 _ _ _ => cases h
    | mapNil => rfl
    | map _ _ => cases h
    | func _ _ => cases h
    | nilFunc => rfl
    | nilIface => rfl
    | iface h1 =>
      have h : flat n _ = true := h
      rw [flat_eq n _ _ h h1]
    | agg h1 =>
      rename_i cs cs'
      have h : allB (flat n) cs.toList = true := h
      have := LR_eq_of (fun x hx x' hx' => flat_eq n x x' ((allB_eq _ _).1 h x hx) hx') h1
      rw [Array.toList_inj.1 this]
    | tuple h1 =>
      rename_i cs cs'
      have h : allB (flat n) cs.toList = true := h
      have := LR_eq_of (fun x hx x' hx' => flat_eq n x x' ((allB_eq _ _).1 h x hx) hx') h1
      rw [Array.toList_inj.1 this]
def flatO : AObj → Prop
  | .dead => True
  | .cells cs _ _ _ => ∀ v ∈ cs, flat 5 v = true
  | .bytes _ _ _ _ => True
  | _ => False
theorem RowR.flat {S : Nat → Nat} {ρ ρ' : Ren} {w : World} {im : Im} {o : AObj} {e fz kd n : Nat} (ho : ∀ i v, o.cell i = some v → flat 5 v = true) (h : RowR S ρ w im o e fz kd n) : RowR S ρ' w im o e fz kd n := by
  obtain ⟨cs', lo, hi, h1, h2, h3⟩ := h
  refine ⟨cs', lo, hi, h1, fun i v hv => ?_, h3⟩
  obtain ⟨k1, v', k2, k3⟩ := h2 i v hv
  have hf := ho i v hv
  obtain rfl := flat_eq 5 v v' hf k3
  exact ⟨k1, _, k2, flat_VR ρ' 5 _ hf⟩
theorem OR.flat {S : Nat → Nat} {ρ ρ' : Ren} {w : World} {im : Im} {o : AObj} (ho : flatO o) (h : OR S ρ w im o) : OR S ρ' w im o := by
  cases o with
  | dead => trivial
  | cells cs e fz kd =>
    refine RowR.flat (fun i v hv => ?_) h
    simp only [AObj.cell, nth_eq] at hv
    exact ho v (List.mem_of_getElem? hv)
  | bytes l e fz kd =>
    refine RowR.flat (fun i v hv => ?_) h
    simp only [AObj.cell, nth_eq] at hv
    cases hl : l[i]? with
    | none => simp [hl, optMap] at hv
    | some b => simp [hl, optMap] at hv; subst hv; rfl
  | map es clock => exact ho.elim
  | siter s pos => exact ho.elim
structure Sub (e : Nat → Option Nat) (hm h : AH) : Prop where
  dom : ∀ x b, e x = some b → x < hm.n
  inj : ∀ x y b, e x = some b → e y = some b → x = y
  obj : ∀ x b, e x = some b → hm.obj x = .dead ∨ (b < h.n ∧ h.obj b = hm.obj x)
  flat : ∀ x, x < hm.n → flatO (hm.obj x)
structure BackTo (e : Nat → Option Nat) (hm hm1 h h' : AH) : Prop where
  n : h'.n = h.n
  old : ∀ b, b < h.n → (∀ x, x ∈ hm1.log → e x ≠ some b) → h'.obj b = h.obj b
  new : ∀ x b, x ∈ hm1.log → e x = some b → (h'.obj b = .dead ∨ (h'.obj b = hm1.obj x ∧ flatO (hm1.obj x))) ∧ hm.obj x ≠ .dead
  log : ∀ b, b ∈ h'.log ↔ b ∈ h.log ∨ ∃ x, x ∈ hm1.log ∧ e x = some b
  own : hm.log = []
theorem local_ok {P : Program} {E : Env} (hE : EnvF P E 12) {n f : Nat} {args args' : List Value} {r : Value} {hm hm1 h h' : AH} (hx : acall E n f args hm = some (r, hm1)) (hob : OB hm1)
    {e : Nat → Option Nat} (sub : Sub e hm h) (he : ∀ g, g < 12 → e g = some g) {ρ : Ren} {w : World} (hg : GL 12 ρ) (hr : Rel P.cellsOf ρ h w)
    (hargs : LR (fun x => (e x).bind ρ) args args') (hfr : flat 5 r = true) (hb : BackTo e hm hm1 h h') :
    Ans P f args'.toArray w fun v w' => v = r ∧ Step P.cellsOf ρ h w ρ h' w' := by
  have hgm : GL 12 (fun x => (e x).bind ρ) := fun g hlt => by
    obtain ⟨im, k1, k2⟩ := hg g hlt
    exact ⟨im, by simp [he g hlt, k1], k2⟩
  have some_of : ∀ {x im}, ((e x).bind ρ) = some im → ∃ b, e x = some b ∧ ρ b = some im := fun {x im} k => by
    cases hex : e x with
    | none => rw [hex] at k; cases k
    | some b => rw [hex] at k; exact ⟨b, rfl, k⟩
  have hrm : Rel P.cellsOf (fun x => (e x).bind ρ) hm w := by
    refine ⟨fun x im hx hn => ?_, fun x y im im' hx hy hnx hny hdx hdy hbk => ?_, fun b hb => AH.obj_top _ hb⟩
    · obtain ⟨b, k1, k2⟩ := some_of hx
      rcases sub.obj x b k1 with k3 | ⟨k3, k4⟩
      · rw [k3]; trivial
      · have := hr.obj b im k2 k3
        rw [k4] at this
        exact this.flat (sub.flat x hn)
    · obtain ⟨b, k1, k2⟩ := some_of hx
      obtain ⟨b', k1', k2'⟩ := some_of hy
      rcases sub.obj x b k1 with k3 | ⟨k3, k4⟩
      · exact absurd k3 hdx
      · rcases sub.obj y b' k1' with k3' | ⟨k3', k4'⟩
        · exact absurd k3' hdy
        · obtain rfl := hr.inj b b' im im' k2 k2' k3 k3' (by rw [k4]; exact hdx) (by rw [k4']; exact hdy) hbk
          exact sub.inj x y b k1 k1'
  have hfm : Fr (fun x => (e x).bind ρ) hm.n hm1.n := fun x hx _ => by
    cases hex : e x with
    | none => simp [hex]
    | some b => have := sub.dom x b hex; omega
  refine Ans.mono (acall_ok hE n f args hm r hm1 hx hob _ w args' hgm hrm hfm hargs) fun v w' hq => ?_
  obtain ⟨ρ', hv, st⟩ := hq
  refine ⟨flat_eq 5 r v hfr hv, ?_⟩
  -- a block that the call has not written stands as it stood
  have keep : ∀ b im, ρ b = some im → b < h.n → h.obj b ≠ .dead → (∀ x, x ∈ hm1.log → e x ≠ some b) → w'.heap[im.blk]? = w.heap[im.blk]? := fun b im hb1 hlt hd hno => by
    have hlt2 := (hr.obj b im hb1 hlt).lt hd
    rcases st.frame im.blk hlt2 with k | ⟨x, im', k1, k2, k3, k4⟩
    · exact k
    · obtain ⟨b', k5, k6⟩ := some_of k3
      rcases sub.obj x b' k5 with k7 | ⟨k7, k8⟩
      · exact absurd k7 (hb.new x b' k1 k5).2
      · have : b' = b := hr.inj b' b im' im k6 hb1 k7 hlt (by rw [k8]; exact (hb.new x b' k1 k5).2) hd k4
        subst this
        exact absurd k5 (hno x k1)
  exact
  { ext := Ext.refl _
    dom := fun b im h1 h2 => by rw [h1] at h2; cases h2
    rel := by
      refine ⟨fun b im hb1 hn => ?_, fun b b' im im' hb1 hb2 hn1 hn2 hd1 hd2 hbk => ?_, fun b hb1 => AH.obj_top _ hb1⟩
      · rw [hb.n] at hn
        by_cases hw : ∃ x, x ∈ hm1.log ∧ e x = some b
        · obtain ⟨x, k1, k2⟩ := hw
          obtain ⟨k34, k5⟩ := hb.new x b k1 k2
          rcases k34 with k3 | ⟨k3, k4⟩
          · rw [k3]; trivial
          rw [k3]
          have h1 : (fun x => (e x).bind ρ) x = some im := by simp [k2, hb1]
          exact (st.rel.obj x im (st.ext _ _ h1) (Nat.lt_of_lt_of_le (sub.dom x b k2) st.n_le)).flat k4
        · have hno : ∀ x, x ∈ hm1.log → e x ≠ some b := fun x hx hex => hw ⟨x, hx, hex⟩
          rw [hb.old b hn hno]
          by_cases hd : h.obj b = .dead
          · rw [hd]; trivial
          · exact (hr.obj b im hb1 hn).mono (Ext.refl _) (keep b im hb1 hn hd hno)
      · rw [hb.n] at hn1 hn2
        have nd : ∀ b, b < h.n → h'.obj b ≠ .dead → h.obj b ≠ .dead := fun b hlt hd => by
          by_cases hw : ∃ x, x ∈ hm1.log ∧ e x = some b
          · obtain ⟨x, k1, k2⟩ := hw
            rcases sub.obj x b k2 with k7 | ⟨k7, k8⟩
            · exact absurd k7 (hb.new x b k1 k2).2
            · rw [k8]; exact (hb.new x b k1 k2).2
          · rw [← hb.old b hlt fun x hx hex => hw ⟨x, hx, hex⟩]; exact hd
        exact hr.inj b b' im im' hb1 hb2 hn1 hn2 (nd b hn1 hd1) (nd b' hn2 hd2) hbk
    size := st.size
    n_le := by rw [hb.n]; exact Nat.le_refl _
    str := st.str
    frame := fun c hc => by
      rcases st.frame c hc with k | ⟨x, im', k1, k2, k3, k4⟩
      · exact .inl k
      · obtain ⟨b', k5, k6⟩ := some_of k3
        rcases sub.obj x b' k5 with k7 | ⟨k7, _⟩
        · exact absurd k7 (hb.new x b' k1 k5).2
        · exact .inr ⟨b', im', (hb.log b').2 (.inr ⟨x, k1, k5⟩), k7, k6, k4⟩
    fresh := fun b im h1 h2 => by rw [h1] at h2; cases h2
    keep := fun b hlt hl => hb.old b hlt fun x hx hex => hl ((hb.log b).2 (.inr ⟨x, hx, hex⟩))
    logm := fun b hm => (hb.log b).2 (.inl hm)
    wrote := fun b hm => by
      rcases (hb.log b).1 hm with k | ⟨x, k1, k2⟩
      · exact .inl k
      · have hlt := sub.dom x b k2
        rcases st.wrote x k1 with k3 | k3 | ⟨⟨im, k3⟩, k4⟩
        · rw [hb.own] at k3; cases k3
        · omega
        · obtain ⟨b', k5, k6⟩ := some_of k3
          rw [k2] at k5
          obtain rfl := Option.some.inj k5
          rcases sub.obj x b k2 with k7 | ⟨k7, k8⟩
          · exact absurd k7 k4
          · exact .inr (.inr ⟨⟨im, k6⟩, by rw [k8]; exact k4⟩) }
end Go.Proofs.YtkmbkejmfffafaaGreatDoor.Refl
section
namespace Go.Proofs
open Go.Shelf
def Tryz.lays195_ren : Go.Shelf.Ren := ⟨fun | 195 => 143 | n => n, fun | 9 => 9 | 3 => 3 | 0 => 0 | 4 => 4 | n => n, fun | n => n⟩
theorem Tryz.lays195 : Go.Proofs.Lays.n195 Tryz.prog Tryz.lays195_ren := {
  mixed := by kernel_rfl
  f195 := Tryz.func143.trans (congrArg some (by kernel_rfl))
  t0 := Tryz.underlying0
  a0 := Tryz.isAgg0
  z0 := Tryz.sizeOf0
  v0 := Tryz.zeroValue0
  t3 := Tryz.underlying3
  a3 := Tryz.isAgg3
  z3 := Tryz.sizeOf3
  v3 := Tryz.zeroValue3
  t4 := Tryz.underlying4
  a4 := Tryz.isAgg4
  z4 := Tryz.sizeOf4
  v4 := Tryz.zeroValue4
  t9 := Tryz.underlying9
  a9 := Tryz.isAgg9
  z9 := Tryz.sizeOf9
  v9 := Tryz.zeroValue9 }
open Go.RowKit in
theorem Tryz.utf8_RuneCountInString (s : ByteArray) (w : World) (hs : s.size < 9223372036854775807) :
    Calls Tryz.prog 143 #[.string s] w fun e w' => e = .returned (.int .i64 (Lib.runeCount s)) ∧ ∃ pos, w' = w.iter s pos := Any.utf8_RuneCountInString Tryz.lays195 s w hs
end Go.Proofs
end
namespace Go.Proofs.YtkmbkejmfffafaaGreatDoor.Refl
open Go
set_option linter.unusedVariables false
def asc : List Value := (List.range 256).map fun i => .int .u8 (if [9, 10, 11, 12, 13, 32].contains i then 1 else 0)
def p10 : List Value := [.int .u64 1, .int .u64 10, .int .u64 100, .int .u64 1000, .int .u64 10000, .int .u64 100000, .int .u64 1000000, .int .u64 10000000, .int .u64 100000000, .int .u64 1000000000, .int .u64 10000000000, .int .u64 100000000000, .int .u64 1000000000000, .int .u64 10000000000000, .int .u64 100000000000000, .int .u64 1000000000000000, .int .u64 10000000000000000, .int .u64 100000000000000000, .int .u64 1000000000000000000, .int .u64 10000000000000000000]
noncomputable def tabs : Tr AObj := (Tr.nil.set 0 (.cells asc 166 256 2)).set 2 (.cells p10 264 20 2)
noncomputable def digF (f : Nat) : Nat → List UInt8 → List UInt8 := Nat.rec (motive := fun _ => Nat → List UInt8 → List UInt8) (fun _ l => l)
  (fun _ ih n l => match Nat.blt n 10 with
    | true => UInt8.ofNat (Nat.add 48 n) :: l
    | false => ih (Nat.div n 10) (UInt8.ofNat (Nat.add 48 (Nat.mod n 10)) :: l)) f
noncomputable def itoaF (n : Nat) : List UInt8 := digF 20 n []
noncomputable def partF (p : List UInt8) : List UInt8 := app (app (app (itoaF (len p)) [58]) p) [44]
noncomputable def valsEq (l : List Value) : List Value → Bool :=
  List.rec (motive := fun _ => List Value → Bool) (fun r => match r with | [] => true | _ :: _ => false)
    (fun a _ ih r => match r with
      | [] => false
      | b :: r => match asInt a with
        | none => false
        | some i => match asInt b with
          | none => false
          | some j => match kEq i.k j.k with
            | false => false
            | true => match iEq i.n j.n with
              | false => false
              | true => ih r) l
noncomputable def isTab (cs : List Value) (e : TypeId) (o : AObj) : Bool := match o with
  | .cells cs' e' fz kd => match Nat.beq e' e with
    | false => false
    | true => match Nat.beq fz (len cs) with
      | false => false
      | true => match Nat.beq kd 2 with
        | false => false
        | true => valsEq cs' cs
  | _ => false
noncomputable def xItoa : XF := x1 fun x h => match asInt x with
  | none => none
  | some i => match kEq .i64 i.k with
    | false => none
    | true => match natI i.n with
      | none => none
      | some n => match isTab p10 264 (h.obj 2) with
        | false => none
        | true => some (strV (itoaF n), h.owe (Nat.blt n 400))
noncomputable def rcF (l : List UInt8) : Nat := Lib.runeCount ⟨⟨l⟩⟩
noncomputable def xRune : XF := x1 fun x h => match asStr x with
  | none => none
  | some l => some (intV (rcF l), h.owe (Nat.ble (len l) 1099511627776))
noncomputable def assoc {α : Type} (k : Nat) (l : List (Nat × α)) : Option α := List.rec (motive := fun _ => Option α) none (fun x _ ih => match Nat.beq x.1 k with
  | true => some x.2
  | false => ih) l
noncomputable def optBeq (o : Option Nat) (k : Nat) : Bool := match o with
  | some i => Nat.beq i k
  | none => false
noncomputable def xIdxK (k : Nat) : XF := x2 fun s c h => match asStr s with
  | none => none
  | some l => match u8of c with
    | none => none
    | some c => some (intV k, h.owe (optBeq (findByte c l 0) k))
noncomputable def xAtoiN (n : Nat) : XF := x1 fun s h => match asStr s with
  | none => none
  | some l => match isTab p10 264 (h.obj 2) with
    | false => none
    | true => some (.tuple ⟨[intV n, .nilIface]⟩, (h.owe (bytesEq l (itoaF n))).owe (Nat.blt n 400))
noncomputable def xAlive : XF := fun args h => match args with
  | [] => match isTab asc 166 (h.obj 0) with
    | false => none
    | true => match isTab p10 264 (h.obj 2) with
      | true => some (.bool true, h)
      | false => none
  | _ => none
noncomputable def xClosed (n f : Nat) : XF := fun args h => match h with
  | ⟨t, n0, log, sym, cnt, orc, ob⟩ => match acall (envT []) n f args ⟨t, n0, log, false, cnt, [], ob⟩ with
    | none => none
    | some r => match r with
      | (v, ⟨t, n0, log, _, _, _, ob⟩) => some (v, ⟨t, n0, log, sym, cnt, orc, ob⟩)
noncomputable def bits (l : List Nat) : Nat → List (Nat × Bool) := List.rec (motive := fun _ => Nat → List (Nat × Bool)) (fun _ => []) (fun x _ ih n => match Nat.beq x 2 with
  | true => ih (Nat.succ n)
  | false => (n, Nat.beq x 1) :: ih (Nat.succ n)) l
noncomputable def hP : AH := { t := Tr.nil.set 2 (.cells p10 264 20 2), n := 12, log := [], sym := false, cnt := 0, orc := [], ob := [] }
noncomputable def hS : AH := { t := tabs, n := 12, log := [], sym := false, cnt := 0, orc := [], ob := [] }
noncomputable def clean (h : AH) : Bool := match h.ob with
  | [] => match h.log with
    | [] => true
    | _ :: _ => false
  | _ :: _ => false
end Go.Proofs.YtkmbkejmfffafaaGreatDoor.Refl
namespace Go.Proofs.YtkmbkejmfffafaaGreatDoor.Refl
open Go Go.RowKit
set_option linter.unusedVariables false
set_option linter.unusedSimpArgs false
set_option maxRecDepth 100000
theorem valsEq_eq : ∀ (l r : List Value), valsEq l r = true → l = r
  | [], [], _ => rfl
  | [], _ :: _, h => by cases h
  | _ :: _, [], h => by cases h
  | a :: l, b :: r, h => by
    have h : (match asInt a with
        | none => false
        | some i => match asInt b with
          | none => false
          | some j => match kEq i.k j.k with
            | false => false
            | true => match iEq i.n j.n with
              | false => false
              | true => valsEq l r) = true := h
    cases hi : asInt a with
    | none => simp [hi] at h
    | some i =>
    simp only [hi] at h
    cases hj : asInt b with
    | none => simp [hj] at h
    | some j =>
    simp only [hj] at h
    cases hk : kEq i.k j.k with
    | false => simp [hk] at h
    | true =>
    simp only [hk] at h
    cases hn : iEq i.n j.n with
    | false => simp [hn] at h
    | true =>
    simp only [hn] at h
    have hn2 : i.n = j.n := by rw [iEq_eq] at hn; simpa using hn
    rw [asInt_some hi, asInt_some hj, kEq_true hk, hn2, valsEq_eq l r h]
theorem isTab_eq {cs : List Value} {e : TypeId} {o : AObj} (h : isTab cs e o = true) : o = .cells cs e cs.length 2 := by
  unfold isTab at h
  cases o with
  | cells cs' e' fz kd =>
    simp only at h
    cases h1 : Nat.beq e' e with
    | false => simp [h1] at h
    | true =>
    simp only [h1] at h
    cases h2 : Nat.beq fz (len cs) with
    | false => simp [h2] at h
    | true =>
    simp only [h2] at h
    cases h3 : Nat.beq kd 2 with
    | false => simp [h3] at h
    | true =>
    simp only [h3] at h
    have e1 : e' = e := Nat.eq_of_beq_eq_true h1
    have e2 : fz = len cs := Nat.eq_of_beq_eq_true h2
    have e3 : kd = 2 := Nat.eq_of_beq_eq_true h3
    rw [valsEq_eq _ _ h, e1, e2, e3, len_eq]
  | _ => cases h
theorem p10_flat : ∀ v ∈ p10, flat 5 v = true := (allB_eq _ _).1 (by rfl)
theorem asc_flat : ∀ v ∈ asc, flat 5 v = true := (allB_eq _ _).1 (by kernel_rfl)
theorem p10_len : p10.length = 20 := rfl
theorem asc_len : asc.length = 256 := by simp [asc]
theorem isP10 {h : AH} (k : isTab p10 264 (h.obj 2) = true) : h.obj 2 = .cells p10 264 20 2 := isTab_eq k
theorem isAsc {h : AH} (k : isTab asc 166 (h.obj 0) = true) : h.obj 0 = .cells asc 166 256 2 := by rw [isTab_eq k, asc_len]
theorem hP_obj (b : Nat) : hP.obj b = if b = 2 then .cells p10 264 20 2 else .dead := by
  rw [AH.obj_def]
  show (if b < 12 then objIn (Tr.nil.set 2 (.cells p10 264 20 2)) b else .dead) = _
  rw [objIn_set]
  have : objIn (Tr.nil : Tr AObj) b = .dead := by unfold objIn; rw [Tr.get_nil]
  rw [this]
  by_cases hb : b = 2
  · subst hb; simp
  · simp [hb]
theorem hS_obj (b : Nat) : hS.obj b = if b = 2 then .cells p10 264 20 2 else if b = 0 then .cells asc 166 256 2 else .dead := by
  rw [AH.obj_def]
  show (if b < 12 then objIn ((Tr.nil.set 0 (.cells asc 166 256 2)).set 2 (.cells p10 264 20 2)) b else .dead) = _
  rw [objIn_set, objIn_set]
  have : objIn (Tr.nil : Tr AObj) b = .dead := by unfold objIn; rw [Tr.get_nil]
  rw [this]
  by_cases hb : b = 2
  · subst hb; simp
  · by_cases hb0 : b = 0
    · subst hb0; simp
    · simp [hb, hb0]
def eG (x : Nat) : Option Nat := if x < 12 then some x else none
theorem eG_some {x b : Nat} (h : eG x = some b) : x < 12 ∧ b = x := by
  unfold eG at h
  by_cases hx : x < 12
  · rw [if_pos hx] at h; exact ⟨hx, (Option.some.inj h).symm⟩
  · rw [if_neg hx] at h; cases h
theorem lt_of_obj {h : AH} {b : Nat} {o : AObj} (k : h.obj b = o) (ho : o ≠ .dead) : b < h.n := by
  rcases Nat.lt_or_ge b h.n with h1 | h1
  · exact h1
  · rw [AH.obj_top _ h1] at k; exact absurd k.symm ho
theorem LR_flat {ρ ρ' : Ren} : ∀ {l l' : List Value}, (∀ v ∈ l, flat 5 v = true) → LR ρ l l' → LR ρ' l l'
  | [], _, _, h => by cases h; exact .nil
  | v :: l, _, hv, h => by
    cases h with
    | cons h1 h2 =>
      obtain rfl := flat_eq 5 v _ (hv v (by simp)) h1
      exact .cons (flat_VR ρ' 5 _ (hv _ (by simp))) (LR_flat (fun x hx => hv x (by simp [hx])) h2)
theorem pure_ok {E : Env} (hE : EnvF Tryz.prog E 12) {n f : Nat} {args args' : List Value} {r : Value} {hm hm1 h : AH} (hx : acall E n f args hm = some (r, hm1)) (hob : OB hm1) (hlog : hm1.log = []) (hml : hm.log = []) (hmn : hm.n = 12)
    (hobj : ∀ x, x < 12 → hm.obj x = .dead ∨ (x < h.n ∧ h.obj x = hm.obj x)) (hfl : ∀ x, x < 12 → flatO (hm.obj x)) {ρ : Ren} {w : World} (hg : GL 12 ρ) (hr : Rel Tryz.prog.cellsOf ρ h w) (hargs : LR ρ args args') (hfa : ∀ v ∈ args, flat 5 v = true) (hfr : flat 5 r = true) :
    Ans Tryz.prog f args'.toArray w fun v w' => v = r ∧ Step Tryz.prog.cellsOf ρ h w ρ h w' := by
  have sub : Sub eG hm h := by
    refine ⟨fun x b hx => ?_, fun x y b hx hy => ?_, fun x b hx => ?_, fun x hx => hfl x (by omega)⟩
    · rw [hmn]; exact (eG_some hx).1
    · rw [← (eG_some hx).2, (eG_some hy).2]
    · obtain ⟨h1, rfl⟩ := eG_some hx
      exact hobj b h1
  refine local_ok hE hx hob sub (fun g hlt => by unfold eG; rw [if_pos hlt]) hg hr (LR_flat hfa hargs) hfr ?_
  refine ⟨rfl, fun _ _ _ => rfl, fun x b hx => by rw [hlog] at hx; simp at hx, fun b => ⟨.inl, fun k => ?_⟩, hml⟩
  rcases k with k | ⟨x, k, _⟩
  · exact k
  · rw [hlog] at k; simp at k
theorem clean_some {h : AH} (k : clean h = true) : OB h ∧ h.log = [] := by
  unfold clean at k
  cases ho : h.ob with
  | cons b l => simp [ho] at k
  | nil =>
    cases hl : h.log with
    | cons b l => simp [ho, hl] at k
    | nil => exact ⟨fun b hb => by rw [ho] at hb; simp at hb, rfl⟩
theorem ans_up {f : Nat} {args : Array Value} {ρ : Ren} {h h1 : AH} {w : World} {r : Value} (u : Up h h1) (hfr : flat 5 r = true) (hA : Ans Tryz.prog f args w fun v w' => v = r ∧ Step Tryz.prog.cellsOf ρ h w ρ h w') :
    Ans Tryz.prog f args w fun v w' => ∃ ρ', VR ρ' r v ∧ Step Tryz.prog.cellsOf ρ h w ρ' h1 w' := by
  refine Ans.mono hA fun v w' hq => ?_
  obtain ⟨rfl, st⟩ := hq
  refine ⟨ρ, flat_VR ρ 5 _ hfr, ?_⟩
  have hf : Fr ρ h.n h1.n := fun x h2 h3 => by rw [u.n] at h3; omega
  exact Step.trans hf st (.same st.rel u.t u.n u.log rfl (Str.refl _))
end Go.Proofs.YtkmbkejmfffafaaGreatDoor.Refl
