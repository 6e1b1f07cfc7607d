/- The statement 'WholeNumbers' of the seat, second form: its row, by a run of the second reading that the kernel has made with whatever text and number, and its card: what is listed is tied to the program's text. What it reads is of bulk at most 1048576: the statement's own condition; no other. -/
import Derived.Test.YtkmbkejmfffafaaGreatDoorRows
import Derived.Test.YtkmbkejmfffafaaGreatDoorCards
import Derived.Test.YtkmbkejmfffafaaGreatDoorTie
import Derived.Test.YtkmbkejmfffafaaGreatDoorQ24
import Derived.Test.YtkmbkejmfffafaaGreatDoorFactsWholeNumbers
import Derived.Test.YtkmbkejmfffafaaGreatDoorWitWholeNumbers
import Derived.Lay
import Derived.WalkKit
import Derived.ProofKit
import Derived.OpenShut
import Derived.ShutString
import Derived.ChangeOld
import Derived.Below
import Derived.SizedLaws
import Derived.LaidMore
import Derived.Deep.DeepHandedRow
import Derived.Stop.Joined
import Derived.SevenTiedAt
import Derived.Lib.LaidTab
import Derived.Shelf.Vars
set_option linter.unusedSectionVars false
set_option linter.unusedVariables false
set_option linter.unusedSimpArgs false
namespace Go.Proofs.YtkmbkejmfffafaaGreatDoor.wholeNumbers
open Go.ChangeShapes Go.WideShapes Go.ChangeAt Go.RowKit
open Go.ChangeMaps (open_string shut_string)
set_option linter.unusedVariables false
set_option maxRecDepth 100000
theorem gAsc : Tryz.prog.globalNamed "strings.asciiSpace" = some 0 := by kernel_rfl
theorem gPow : Tryz.prog.globalNamed "internal/strconv.uint64pow10" = some 2 := by kernel_rfl
/-- What the conditions give: the two tables as they are laid, and some number in MaxLen's cell. -/
theorem begins_of {W : World} (h : laidMetH Tryz.prog laidL W) (hsh : W.ShapedOpen Tryz.prog) : ∃ m, Refl.BeginsM W m := by
  obtain ⟨m, hm⟩ := Go.Proofs.cell_of_shapedOpen_int (P := Tryz.prog) (g := 4) (t := 3) (zero := #[.int .i64 0]) hsh (of_decide_eq_true (by kernel_rfl)) begin4 rfl (by kernel_rfl) (by kernel_rfl) Tryz.underlying3
  obtain ⟨cs4, hh4, hs4, _⟩ := hsh.1 4 #[.int .i64 0] 3 (of_decide_eq_true (by kernel_rfl)) begin4
  rw [MakeChecks.laidMetH_plain _ _ _ laid_plain] at h
  obtain ⟨ps, hv, _⟩ := h
  obtain ⟨_, h1⟩ := Refl.vars_tail hv
  obtain ⟨_, h2⟩ := Refl.vars_tail h1
  obtain ⟨_, h3⟩ := Refl.vars_tail h2
  obtain ⟨_, h4⟩ := Refl.vars_tail h3
  obtain ⟨_, h5⟩ := Refl.vars_tail h4
  obtain ⟨_, h6⟩ := Refl.vars_tail h5
  obtain ⟨_, h7⟩ := Refl.vars_tail h6
  obtain ⟨_, h8⟩ := Refl.vars_tail h7
  have t2 : Lib.TabIs Tryz.prog W "internal/strconv.uint64pow10" .u64 (Refl.p10.map Lib.intOf) := Refl.vars_head (t := 264) (e := 202) (n := 20) h2 gPow (by kernel_rfl) (by kernel_rfl) (by kernel_rfl) (by kernel_rfl) (by kernel_rfl)
  have t0 : Lib.TabIs Tryz.prog W "strings.asciiSpace" .u8 (Refl.asc.map Lib.intOf) := Refl.vars_head (t := 166) (e := 5) (n := 256) h8 gAsc (by kernel_rfl) (by kernel_rfl) (by kernel_rfl) (by kernel_rfl) (by kernel_rfl)
  refine ⟨m, ⟨⟨?_, ?_⟩, ?_⟩⟩
  · obtain ⟨cs, fr, k1, k2⟩ := Refl.tab_block t0 gAsc hsh (of_decide_eq_true (by kernel_rfl)) begin0
    exact ⟨cs, fr, k1, by rw [k2]; kernel_rfl⟩
  · obtain ⟨cs, fr, k1, k2⟩ := Refl.tab_block t2 gPow hsh (of_decide_eq_true (by kernel_rfl)) begin2
    exact ⟨cs, fr, k1, by rw [k2]; kernel_rfl⟩
  · refine ⟨cs4, _, hh4, ?_⟩
    obtain ⟨l⟩ := cs4
    match l, hs4 with
    | [c], _ =>
      unfold World.cell? at hm
      simp [hh4] at hm
      rw [hm]
theorem en6 : (Tryz.prog.funcs[6]?).map (fun fn => (fn.name == "runtime.NumGoroutine", fn.body.isSome)) = some (false, true) := by kernel_rfl
theorem walk (a0 D : ByteArray) (neg : Bool) (z x y : Int) (W : World) (hG : ∃ m, Refl.BeginsM W m) (h0 : a0.data.toList.length ≤ 1500000) : Calls Tryz.prog 6 #[.string a0, .agg #[.bool neg, .string D, .int .i64 z], .int .i64 x, .int .i64 y] W (fun e W' => e = .returned (.bool true) ∧ Below W.heap.size W W') := by
  obtain ⟨m, hm⟩ := hG
  obtain ⟨E, orc, h1, k1, k2, k3, k4⟩ := Refl.numbers_run a0.data.toList neg D.data.toList z x y m h0
  exact Refl.calls_startM k1 k2 k3 k4 (args' := [.string a0, .agg #[.bool neg, .string D, .int .i64 z], .int .i64 x, .int .i64 y]) (.cons (.string _) (.cons (.agg (.cons (.bool _) (.cons (.string _) (.cons (.int _ _) .nil)))) (.cons (.int _ _) (.cons (.int _ _) .nil)))) (Refl.enter_of en6) hm
set_option maxRecDepth 100000 in
theorem lifted (os : Os) (started : os.Started) (H : Type) (enc : TypeId × Value → H) (F : Stop.Interp) :
    ReturnsInHanded {} Tryz.checked os 6 .any ((Rows.OpenSpec.upto Rows.wholeNumbersSpec).preRow enc Tryz.prog Tryz.f6 Rows.wholeNumbersUptoRow.domain false laidL) (((Rows.OpenSpec.upto Rows.wholeNumbersSpec).at F).post enc Tryz.prog Tryz.f6 false true false false) := by
  refine returnsInHanded_of_row (C := Tryz.checked) (s := Rows.OpenSpec.upto Rows.wholeNumbersSpec) own started noInit Tryz.func6
    ⟨World.laidAll Tryz.prog os laidL, fun _ _ => 0, ⟨#[], wargs, []⟩, World.laidAll_os _ _ _, World.shaped_of_ZipB (zip1 os) (zip2 os), (Input.okWide_of_okWideB (base := 0) (wit1 os)).1, (Input.okWide_of_okWideB (wit1 os)).2,
      OpenSpec.preRow_of_cond 8 (reads os H enc) rfl (fun k hk => by cases hk; kernel_rfl) (wit3 os H enc) (by rw [MakeChecks.laidMetH_plain _ _ _ laid_plain]; exact laidMet_laidAll _ (lay_fits os) (lay_ifaces os)),
      by simp only [Assume.holds]; exact ⟨by simp, by simp, fun _ => Modest.zero, by simp, by simp⟩⟩ ?_
  intro W base args ds gs before hval0 hW _ hcond _ hL hsh _
  have hG : ∃ m, Refl.BeginsM W m := begins_of hL hsh
  clear hsh hL
  have hc : Rows.uptoSmall H (ds ++ gs) = true := hcond _ rfl
  have hval : ∀ (j : Nat) t v, Tryz.f6.params[j]? = some t → args[j]? = some v → Value.okWide Tryz.prog W .any base t v := hval0
  have hW' := hW
  obtain ⟨p, q, hA0, hV, rfl, hfz, hnd⟩ := hW
  have hA : DataW.TrodAll enc Tryz.prog W 0 (fun _ => true) true Tryz.f6.params.toList args.toList ds p := hA0
  rw [Tryz.params6] at hA hval
  obtain ⟨v0, vs0, d0, ds0, p0, q0, hargs, rfl, rfl, h0, r0⟩ := trodAll_cons hA
  obtain ⟨v1, vs1, d1, ds1, p1, q1, rfl, rfl, rfl, h1, r1⟩ := trodAll_cons r0
  obtain ⟨v2, vs2, d2, ds2, p2, q2, rfl, rfl, rfl, h2, r2⟩ := trodAll_cons r1
  obtain ⟨v3, vs3, d3, ds3, p3, q3, rfl, rfl, rfl, h3, r3⟩ := trodAll_cons r2
  obtain ⟨rfl, rfl, rfl⟩ := trodAll_nil r3
  obtain rfl : args = #[v0, v1, v2, v3] := by cases args; simp_all
  obtain ⟨rfl, rfl⟩ := trodVars_none hV
  obtain ⟨a0, rfl, rfl, rfl, y0⟩ := open_string Tryz.underlying9 (hval 0 9 v0 rfl rfl) h0
  obtain ⟨neg, D, z, rfl, rfl, rfl, yD, wz⟩ := Refl.open_dec (hval 1 58 v1 rfl rfl) h1
  obtain ⟨x, rfl, rfl, rfl, wx⟩ := open_int Tryz.underlying3 (hval 2 3 v2 rfl rfl) h2
  obtain ⟨y, rfl, rfl, rfl, wy⟩ := open_int Tryz.underlying3 (hval 3 3 v3 rfl rfl) h3
  have hlen : a0.data.toList.length ≤ 1500000 := by
    have hb := of_decide_eq_true hc
    simp only [List.cons_append, List.nil_append, Rows.uptoBulkAll, Rows.uptoBulk] at hb
    omega
  refine (walk a0 D neg z x y W hG hlen).mono fun e W' ⟨he, bel⟩ => ?_
  subst he
  exact ⟨_, rfl, _, _, _, [], _, [], hW', trodAll_mk1 (shut_bool Tryz.underlying4 _), (trodAll_cons_mk (shut_string Tryz.underlying9 y0) (trodAll_cons_mk (Refl.shut_dec yD wz) (trodAll_cons_mk (shut_int Tryz.underlying3 wx) (trodAll_cons_mk (shut_int Tryz.underlying3 wy) trodAll_mk0)))), rfl, bel.frame _, fun h => by cases h⟩
theorem proved : Rows.WholeNumbersUptoSaid :=
  OpenClaim.holds_of_cond 6 Tryz.f6 rfl rfl rfl rfl rfl rfl rfl ⟨rfl, rfl, rfl, rfl, rfl⟩ rfl rfl rfl rfl rfl named Tryz.func6 closed inst wrap
    (fun os started H enc _ F => by rw [OpenClaim.pre_eq_preRow]; exact lifted os started H enc F)
end Go.Proofs.YtkmbkejmfffafaaGreatDoor.wholeNumbers
namespace Go.Proofs.YtkmbkejmfffafaaGreatDoor
/-- The card, for the claim. -/
theorem wholeNumbers_holds : Rows.WholeNumbersUptoCardSaid :=
  Claim7.holds_tied_plain_at .later [] [.data, .data, .data, .data, .sentinel, .sentinel, .listed, .sentinel, .data, .pinned] true (true, "6f4ee9d34a9af7c04cca0bf8be3cd9375ee8ce42f3290383531d59abe8e3f9f7") true
    wholeNumbers.proved (fun _ h => by cases h) wholeNumbers.byText (fun _ h => by cases h) wholeNumbersUpto_row_tie rfl ⟨rfl, rfl⟩ wholeNumbers.mainIs rfl
    (fun f fn hf hfn => by
      obtain rfl : f = 6 := Option.some.inj (wholeNumbers.named.symm.trans hf) |>.symm
      obtain rfl : fn = Tryz.f6 := (Option.some.inj (Tryz.func6.symm.trans hfn)).symm
      exact ⟨wholeNumbers.looks, fun j t ht => by
        rw [Tryz.params6] at ht
        have hm : t ∈ [9, 58, 3, 3] := by simpa using Array.mem_of_getElem? ht
        have hall : ([9, 58, 3, 3].all fun u => !Tryz.prog.wantsStandIn u) = true := by kernel_rfl
        exact (show Tryz.prog.wantsStandIn t = false by simpa using List.all_eq_true.1 hall t hm)⟩)
    wholeNumbers.goesBy
#print axioms wholeNumbers_holds
end Go.Proofs.YtkmbkejmfffafaaGreatDoor
