/- The second reading of the model's code, part 12 of 13. -/
import Derived.Test.YtkmbkejmfffafaaGreatDoorM9
import Derived.Lib.LaidTab
import Derived.Stop.Joined
set_option linter.unusedSectionVars false
set_option linter.unusedVariables false
set_option linter.unusedSimpArgs false
/- The second reading: the start in the model's memory. -/
namespace Go.Proofs.YtkmbkejmfffafaaGreatDoor.Refl
open Go Go.RowKit
set_option linter.unusedVariables false
set_option linter.unusedSimpArgs false
set_option maxRecDepth 100000

/-- What a walk of this program asks of the world in which it begins: two tables stand as they are laid. -/
structure Begins (W : World) : Prop where
  asc : ∃ cs fr, W.heap[0]? = some (.cells cs 166 fr) ∧ cs.toList = asc
  p10 : ∃ cs fr, W.heap[2]? = some (.cells cs 264 fr) ∧ cs.toList = p10
noncomputable def ρS : Ren := fun b => match Nat.blt b 12 with
  | true => some ⟨b, 0, 0, if b = 0 then Tryz.prog.cellsOf 166 else Tryz.prog.cellsOf 264⟩
  | false => none
theorem ρS_some {b : Nat} {im : Im} (h : ρS b = some im) : b < 12 ∧ im = ⟨b, 0, 0, if b = 0 then Tryz.prog.cellsOf 166 else Tryz.prog.cellsOf 264⟩ := by
  unfold ρS at h
  rw [blt_eq] at h
  by_cases hb : b < 12
  · simp only [hb, decide_true, Option.some.injEq] at h; exact ⟨hb, h.symm⟩
  · simp [hb] at h
theorem hSym_obj (orc : List (Nat × Bool)) (b : Nat) : (hSym orc).obj b = if b = 2 then .cells p10 264 20 2 else if b = 0 then .cells Refl.asc 166 256 2 else .dead := by
  rw [← hS_obj]
  exact AH.obj_eq rfl rfl b
theorem row_start {W : World} {b e n : Nat} {l : List Value} (hl : ∀ v ∈ l, flat 5 v = true) (hn : l.length = n) (hs : ∀ v ∈ l, scalar v = true) (h : ∃ cs fr, W.heap[b]? = some (.cells cs e fr) ∧ cs.toList = l) :
    OR Tryz.prog.cellsOf ρS W ⟨b, 0, 0, Tryz.prog.cellsOf e⟩ (.cells l e n 2) := by
  obtain ⟨cs, ⟨lo, hi⟩, h1, h2⟩ := h
  have hsz : cs.size = n := by rw [← Array.length_toList, h2, hn]
  refine ⟨cs, lo, hi, h1, fun i v hv => ?_, ⟨fun j h3 h4 h5 => ?_, fun h => absurd rfl h⟩, Nat.zero_le _, rfl, fun h => by cases h⟩
  · simp only [AObj.cell, nth_eq] at hv
    refine ⟨hs v (List.mem_of_getElem? hv), v, ?_, flat_VR _ 5 v (hl v (List.mem_of_getElem? hv))⟩
    rw [Nat.zero_add, ← Array.getElem?_toList, h2]; exact hv
  · show j < 0 + n
    omega
theorem p10_scalar : ∀ v ∈ p10, scalar v = true := (allB_eq _ _).1 (by rfl)
theorem asc_scalar : ∀ v ∈ asc, scalar v = true := (allB_eq _ _).1 (by kernel_rfl)
theorem rel_start {W : World} (h : Begins W) (orc : List (Nat × Bool)) : Rel Tryz.prog.cellsOf ρS (hSym orc) W where
  obj := fun b im hb hn => by
    obtain ⟨hb12, rfl⟩ := ρS_some hb
    rw [hSym_obj]
    by_cases hb2 : b = 2
    · subst hb2
      rw [if_pos rfl]
      exact row_start p10_flat p10_len p10_scalar h.p10
    · rw [if_neg hb2]
      by_cases hb0 : b = 0
      · subst hb0
        rw [if_pos rfl]
        exact row_start asc_flat asc_len asc_scalar h.asc
      · rw [show (if b = 0 then AObj.cells asc 166 256 2 else AObj.dead) = AObj.dead from if_neg hb0]; trivial
  inj := fun b b' im im' h1 h1' _ _ _ _ h6 => by
    obtain ⟨_, rfl⟩ := ρS_some h1
    obtain ⟨_, rfl⟩ := ρS_some h1'
    exact h6
  top := fun b hb => AH.obj_top _ hb
theorem gl_start : GL 12 ρS := fun g hg => ⟨⟨g, 0, 0, if g = 0 then Tryz.prog.cellsOf 166 else Tryz.prog.cellsOf 264⟩, by unfold ρS; rw [blt_eq]; simp [hg], rfl, rfl⟩
theorem fr_start (orc : List (Nat × Bool)) (n : Nat) : Fr ρS (hSym orc).n n := fun x hx _ => by
  have hx : 12 ≤ x := hx
  unfold ρS
  rw [blt_eq]
  have : ¬ x < 12 := by omega
  simp [this]
/-- A run of the second reading from the start that comes to true, and writes no global: the model's call. -/
theorem calls_start {plug : List (Nat × XF)} (hp : ∀ x ∈ plug, ExtOK Tryz.prog 12 x.1 x.2) {n f : Nat} {args args' : List Value} {orc : List (Nat × Bool)} {h1 : AH} (hx : acall (envT plug) n f args (hSym orc) = some (.bool true, h1)) (hob : OB h1) (hlog : h1.log = [])
    (hl : LR ρS args args') (hen : ∀ (a : Array Value) (w : World), (callFunc f a).run Tryz.prog w = .ok (.enter f a) w) {W : World} (hW : Begins W) :
    Calls Tryz.prog f args'.toArray W (fun e W' => e = .returned (.bool true) ∧ Below W.heap.size W W') := by
  have ha := acall_ok (envT_ok hp) n f args (hSym orc) _ h1 hx hob ρS W args' gl_start (rel_start hW orc) (fr_start orc _) hl
  unfold Ans at ha
  rw [hen] at ha
  have hc : Calls Tryz.prog f args'.toArray W (Back _) := ha
  refine hc.mono fun e W' he => ?_
  cases e with
  | returned v =>
    obtain ⟨ρ', hv, st⟩ := he
    cases hv
    refine ⟨rfl, st.str.os, st.str.tape, st.str.output, st.size, fun k hk => ?_⟩
    rcases st.frame k hk with h | ⟨b, im, h2, _⟩
    · exact h
    · rw [hlog] at h2; simp at h2
  | panicked c => exact he.elim
  | outgrown => exact he.elim
/-! ### Out of the row's condition on what is laid -/
theorem vars_tail {x : String × DataW Unit} {l : List (String × DataW Unit)} {W : World} {ps : List MemPlace} (h : DataW.LaidVars Tryz.prog W (x :: l) ps) : ∃ q, DataW.LaidVars Tryz.prog W l q := by
  obtain ⟨g', t', cs, fuel, p, q, hg', ht', hvar, hd, hr, _⟩ := h
  exact ⟨q, hr⟩
theorem vars_head {name : String} {k : IntKind} {zs : List Int} {l : List (String × DataW Unit)} {W : World} {ps : List MemPlace} {g : Nat} {t e : TypeId} {n : Nat} (h : DataW.LaidVars Tryz.prog W ((name, Lib.tabData k zs) :: l) ps)
    (hg : Tryz.prog.globalNamed name = some g) (hty : (Tryz.prog.globals[g]?).map (·.type) = some t) (ht : Tryz.prog.underlying t = some (.array n e)) (he : Tryz.prog.underlying e = some (.int k)) (hce : Tryz.prog.cellsOf e = 1) (hct : Tryz.prog.cellsOf t = n) : Lib.TabIs Tryz.prog W name k zs := by
  obtain ⟨g', t', cs, fuel, p, q, hg', ht', hvar, hd, _, _⟩ := h
  obtain rfl := Option.some.inj (hg.symm.trans hg')
  obtain rfl := Option.some.inj (hty.symm.trans ht')
  unfold Lib.TabIs
  rw [hvar, ← Lib.cells_of_tab ht he hce hct hd]
theorem tab_block {W : World} {name : String} {k : IntKind} {zs : List Int} {g : Nat} {t : TypeId} {zero : Array Value} (hT : Lib.TabIs Tryz.prog W name k zs) (hg : Tryz.prog.globalNamed name = some g) (hsh : W.ShapedOpen Tryz.prog) (hlt : g < Tryz.prog.globals.size)
    (h0 : ((begin Tryz.prog (fun _ _ => 0) default).world.heap[g]?).bind Obj.row? = some (zero, t)) : ∃ cs fr, W.heap[g]? = some (.cells cs t fr) ∧ cs.toList = zs.map fun z => Value.int k z := by
  obtain ⟨cs, hh, _, _⟩ := hsh.1 g zero t hlt h0
  refine ⟨cs, _, hh, ?_⟩
  unfold Lib.TabIs World.var? at hT
  rw [hg] at hT
  simp only [Option.bind_some, hh, Option.some.injEq] at hT
  rw [hT]
end Go.Proofs.YtkmbkejmfffafaaGreatDoor.Refl
