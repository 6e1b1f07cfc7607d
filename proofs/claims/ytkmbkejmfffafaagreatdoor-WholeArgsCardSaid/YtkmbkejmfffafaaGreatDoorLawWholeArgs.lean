/- The statement 'WholeArgs' of the seat: its row, by a run of the second reading that the kernel has made with whatever texts, and its card: what is listed is tied to the program's text. No condition. -/
import Derived.Test.YtkmbkejmfffafaaGreatDoorRows
import Derived.Test.YtkmbkejmfffafaaGreatDoorCards
import Derived.Test.YtkmbkejmfffafaaGreatDoorTie
import Derived.Test.YtkmbkejmfffafaaGreatDoorQ6
import Derived.Test.YtkmbkejmfffafaaGreatDoorFactsWholeArgs
import Derived.Test.YtkmbkejmfffafaaGreatDoorWitWholeArgs
import Derived.Lay
import Derived.WalkKit
import Derived.ProofKit
import Derived.OpenShut
import Derived.ShutString
import Derived.ChangeOld
import Derived.Below
import Derived.SizedLaws
import Derived.LaidMore
import Derived.Stop.Joined
import Derived.SevenTiedAt
import Derived.Lib.LaidTab
set_option linter.unusedSectionVars false
set_option linter.unusedVariables false
set_option linter.unusedSimpArgs false
namespace Go.Proofs.YtkmbkejmfffafaaGreatDoor.wholeArgs
open Go.ChangeShapes Go.WideShapes Go.ChangeAt Go.RowKit
open Go.ChangeMaps (open_string shut_string)
set_option linter.unusedVariables false
set_option maxRecDepth 100000
theorem gAsc : Tryz.prog.globalNamed "strings.asciiSpace" = some 0 := by kernel_rfl
theorem gPow : Tryz.prog.globalNamed "internal/strconv.uint64pow10" = some 2 := by kernel_rfl
/-- What the conditions give: the two tables as they are laid. -/
theorem begins_of {W : World} (h : laidMetH Tryz.prog laidL W) (hsh : W.ShapedOpen Tryz.prog) : Refl.Begins W := by
  rw [MakeChecks.laidMetH_plain _ _ _ laid_plain] at h
  obtain ⟨ps, hv, _⟩ := h
  obtain ⟨_, h1⟩ := Refl.vars_tail hv
  obtain ⟨_, h2⟩ := Refl.vars_tail h1
  obtain ⟨_, h3⟩ := Refl.vars_tail h2
  obtain ⟨_, h4⟩ := Refl.vars_tail h3
  obtain ⟨_, h5⟩ := Refl.vars_tail h4
  obtain ⟨_, h6⟩ := Refl.vars_tail h5
  obtain ⟨_, h7⟩ := Refl.vars_tail h6
  obtain ⟨_, h8⟩ := Refl.vars_tail h7
  have t2 : Lib.TabIs Tryz.prog W "internal/strconv.uint64pow10" .u64 (Refl.p10.map Lib.intOf) := Refl.vars_head (t := 264) (e := 202) (n := 20) h2 gPow (by kernel_rfl) (by kernel_rfl) (by kernel_rfl) (by kernel_rfl) (by kernel_rfl)
  have t0 : Lib.TabIs Tryz.prog W "strings.asciiSpace" .u8 (Refl.asc.map Lib.intOf) := Refl.vars_head (t := 166) (e := 5) (n := 256) h8 gAsc (by kernel_rfl) (by kernel_rfl) (by kernel_rfl) (by kernel_rfl) (by kernel_rfl)
  refine ⟨?_, ?_⟩
  · obtain ⟨cs, fr, k1, k2⟩ := Refl.tab_block t0 gAsc hsh (of_decide_eq_true (by kernel_rfl)) begin0
    exact ⟨cs, fr, k1, by rw [k2]; kernel_rfl⟩
  · obtain ⟨cs, fr, k1, k2⟩ := Refl.tab_block t2 gPow hsh (of_decide_eq_true (by kernel_rfl)) begin2
    exact ⟨cs, fr, k1, by rw [k2]; kernel_rfl⟩
theorem en7 : (Tryz.prog.funcs[7]?).map (fun fn => (fn.name == "runtime.NumGoroutine", fn.body.isSome)) = some (false, true) := by kernel_rfl
theorem walk (a0 a1 : ByteArray) (W : World) (hG : Refl.Begins W) : Calls Tryz.prog 7 #[.string a0, .string a1] W (fun e W' => e = .returned (.bool true) ∧ Below W.heap.size W W') := by
  obtain ⟨plug, orc, h1, k1, k2, k3, k4⟩ := Refl.args_run a0.data.toList a1.data.toList
  exact Refl.calls_start k1 k2 k3 k4 (args' := [.string a0, .string a1]) (.cons (.string _) (.cons (.string _) .nil)) (Refl.enter_of en7) hG
set_option maxRecDepth 100000 in
theorem lifted (os : Os) (started : os.Started) (H : Type) (enc : TypeId × Value → H) :
    ReturnsInHanded {} Tryz.checked os 7 .any (fun w args => (Rows.wholeArgsSpec.pre enc Tryz.prog Tryz.f7 [] false w args ∧ laidMetH Tryz.prog laidL w) ∧ sizedMet enc Tryz.prog Tryz.f7 (OpenSpec.ofChange Rows.wholeArgsSpec) false w args)
      (Rows.wholeArgsSpec.post enc Tryz.prog Tryz.f7 false true false false) := by
  refine returnsInHanded_of_calls (C := Tryz.checked) own started noInit
    (ChangeSpec.witness_shaped (enc := enc) (C := Tryz.checked) (os := os) (X := fun w _ => laidMetH Tryz.prog laidL w) false (World.laidAll Tryz.prog os laidL) wargs 8 (World.laidAll_os _ _ _) (World.shaped_of_ZipB (zip1 os) (zip2 os)) (wit1 os) (wit2 os H enc) (wit3 os H enc)
      (by rw [MakeChecks.laidMetH_plain _ _ _ laid_plain]; exact laidMet_laidAll _ (lay_fits os) (lay_ifaces os))) ?_
  intro w_ tape i_ _ hsh _ hok hpre _
  obtain ⟨_, _, _, fn', hfn', _, _, _, _, hval0⟩ := hok
  obtain rfl : fn' = Tryz.f7 := Option.some.inj (hfn'.symm.trans Tryz.func7)
  obtain ⟨⟨⟨ds, gs, before, hW0, hcnd⟩, hL0⟩, hz⟩ := hpre
  have hW := DataW.Whole.of_heap (w' := w_.forCall tape i_) (by rfl) hW0
  have hL : laidMetH Tryz.prog laidL (w_.forCall tape i_) := hL0.of_heap (by rfl)
  refine Calls.mono (R := fun e W' => ∃ v, e = .returned v ∧ Rows.wholeArgsSpec.post enc Tryz.prog Tryz.f7 false true false false (w_.forCall tape i_) i_.args v W') ?_ (fun e W' ⟨v, he, hp⟩ => by subst he; exact ChangeSpec.post_blind hp)
  have hG : Refl.Begins (w_.forCall tape i_) := begins_of hL hsh
  clear hsh hz hL0 hL hW0
  obtain ⟨base, hbase⟩ : ∃ base, w_.heap.size = base := ⟨_, rfl⟩
  rw [hbase] at hval0
  generalize w_.forCall tape i_ = W at *
  generalize i_.args = args at *
  have hval : ∀ (j : Nat) t v, Tryz.f7.params[j]? = some t → args[j]? = some v → Value.okWide Tryz.prog W .any base t v := hval0
  have hW' := hW
  obtain ⟨p, q, hA0, hV, rfl, hfz, hnd⟩ := hW
  have hA : DataW.TrodAll enc Tryz.prog W 0 (fun _ => true) true Tryz.f7.params.toList args.toList ds p := hA0
  rw [Tryz.params7] at hA hval
  obtain ⟨v0, vs0, d0, ds0, p0, q0, hargs, rfl, rfl, h0, r0⟩ := trodAll_cons hA
  obtain ⟨v1, vs1, d1, ds1, p1, q1, rfl, rfl, rfl, h1, r1⟩ := trodAll_cons r0
  obtain ⟨rfl, rfl, rfl⟩ := trodAll_nil r1
  obtain rfl : args = #[v0, v1] := by cases args; simp_all
  obtain ⟨rfl, rfl⟩ := trodVars_none hV
  obtain ⟨a0, rfl, rfl, rfl, y0⟩ := open_string Tryz.underlying9 (hval 0 9 v0 rfl rfl) h0
  obtain ⟨a1, rfl, rfl, rfl, y1⟩ := open_string Tryz.underlying9 (hval 1 9 v1 rfl rfl) h1
  refine (walk a0 a1 W hG).mono fun e W' ⟨he, bel⟩ => ?_
  subst he
  exact ⟨_, rfl, _, _, _, [], _, [], hW', trodAll_mk1 (shut_bool Tryz.underlying4 _), (trodAll_cons_mk (shut_string Tryz.underlying9 y0) (trodAll_cons_mk (shut_string Tryz.underlying9 y1) trodAll_mk0)), rfl, bel.frame _, fun h => by cases h⟩
theorem over : Rows.wholeArgsRow.holds Tryz.pinned (OpenSpec.ofChange Rows.wholeArgsSpec) :=
  OpenClaim.holds_of_wide 7 Tryz.f7 rfl rfl rfl rfl rfl rfl rfl ⟨rfl, rfl, rfl, rfl, rfl⟩ rfl rfl rfl rfl rfl named Tryz.func7 closed inst wrap
    (fun os started H enc _ => lifted os started H enc)
theorem proved : Rows.WholeArgsSaid := over
end Go.Proofs.YtkmbkejmfffafaaGreatDoor.wholeArgs
namespace Go.Proofs.YtkmbkejmfffafaaGreatDoor
/-- The card, for the claim. -/
theorem wholeArgs_holds : Rows.WholeArgsCardSaid :=
  Claim7.holds_tied_plain_at .later [] [.data, .data, .data, .data, .sentinel, .sentinel, .listed, .sentinel, .data, .pinned] true (true, "6f4ee9d34a9af7c04cca0bf8be3cd9375ee8ce42f3290383531d59abe8e3f9f7") true
    wholeArgs.proved (fun _ h => by cases h) wholeArgs.byText (fun _ h => by cases h) wholeArgs_row_tie rfl ⟨rfl, rfl⟩ wholeArgs.mainIs rfl
    (fun f fn hf hfn => by
      obtain rfl : f = 7 := Option.some.inj (wholeArgs.named.symm.trans hf) |>.symm
      obtain rfl : fn = Tryz.f7 := (Option.some.inj (Tryz.func7.symm.trans hfn)).symm
      exact ⟨wholeArgs.looks, fun j t ht => by
        rw [Tryz.params7] at ht
        have hm : t ∈ [9, 9] := by simpa using Array.mem_of_getElem? ht
        have hall : ([9, 9].all fun u => !Tryz.prog.wantsStandIn u) = true := by kernel_rfl
        exact (show Tryz.prog.wantsStandIn t = false by simpa using List.all_eq_true.1 hall t hm)⟩)
    wholeArgs.goesBy
#print axioms wholeArgs_holds
end Go.Proofs.YtkmbkejmfffafaaGreatDoor
