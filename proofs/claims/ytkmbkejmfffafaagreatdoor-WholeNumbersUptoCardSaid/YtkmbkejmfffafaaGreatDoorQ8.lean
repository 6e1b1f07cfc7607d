/- Texts joined by this session's own program, part 8. PFitx0, PFitx1: written by this session's driver over the kit's printer. -/
import Derived.Test.YtkmbkejmfffafaaGreatDoorQ7
import Derived.Test.YtkmbkejmfffafaaGreatDoorProg
import Derived.Below
import Derived.Deep.Draws
import Derived.Deep.AppendLies
import Derived.Maps.AppendAt
import Derived.OwnWalk
import Derived.Laws.BytesArg
import Derived.Laws.MakeOwn
import Derived.Laws.OwnMore
import Derived.Deep.OwnRows
import Derived.Tactics
import Derived.Lib.ConvBytes
import Derived.Laws.Slices
import Derived.WalkKit
import Derived.KernelRfl
import Derived.RowKit3
import Derived.Deep.LoopGhost
import Derived.Deep.QuietTactic
import Derived.BigQuiet
import Derived.WideLaws
import Derived.Deep.DeepCutAuto
import Derived.Deep.CutBlock
import Derived.Deep.RegionHeld3
import Derived.Laws.Rows
import Derived.Lib.AppendStr
import Derived.ArgAppend
import Derived.Laws.IdiomCopy
import Derived.OrdersHeld
import Derived.Laws.BitsLemmas
import Derived.RowKit
import Derived.Test.YtkmbkejmfffafaaGreatDoorQ0
set_option linter.unusedSectionVars false
set_option linter.unusedVariables false
set_option linter.unusedSimpArgs false
section
namespace Go.Proofs.YtkmbkejmfffafaaGreatDoorHand
open Go.RowKit Go.Proofs.YtkmbkejmfffafaaGreatDoor.PLow Go.Proofs.YtkmbkejmfffafaaGreatDoorW.PrintWords Go.Proofs.YtkmbkejmfffafaaGreatDoorW.PrintLast Go.Proofs.YtkmbkejmfffafaaGreatDoorW.PrintMore
attribute [local go_sem] max2_int min2_int max_two min_two max_three min_three max_four min_four
set_option linter.unusedVariables false
set_option linter.unusedSimpArgs false
abbrev Told := ByteArray × ByteArray × ByteArray × List ByteArray × Bool
def notTold : Told := ((⟨#[]⟩ : ByteArray), (⟨#[]⟩ : ByteArray), (⟨#[]⟩ : ByteArray), ([] : List ByteArray), false)
def P3 (lang scr reg : ByteArray) : List ByteArray → List ByteArray → Told
  | [], acc => (lang, scr, reg, acc, true)
  | p :: ps, acc => if varB p = true then (if hasS acc (foldS false p) = true then notTold else P3 lang scr reg ps (acc ++ [foldS false p])) else notTold
def P2 (lang scr : ByteArray) : List ByteArray → Told
  | [] => P3 lang scr (⟨#[]⟩ : ByteArray) [] []
  | p :: ps => if regB p = true then P3 lang scr (foldS true p) ps [] else P3 lang scr (⟨#[]⟩ : ByteArray) (p :: ps) []
def scrS (p : ByteArray) : ByteArray := foldS true (p.extract 0 1) ++ foldS false (p.extract 1 p.size)
def P1 (lang : ByteArray) : List ByteArray → Told
  | [] => P2 lang (⟨#[]⟩ : ByteArray) []
  | p :: ps => if scrB p = true then P2 lang (scrS p) ps else P2 lang (⟨#[]⟩ : ByteArray) (p :: ps)
def headIs (P : ByteArray → Bool) : List ByteArray → Bool
  | [] => false
  | q :: _ => P q
def badB (p : ByteArray) : Bool := decide (p.size < 2) || decide (p.size > 3) || !(allB letB p)
def P0 : List ByteArray → Told
  | [] => notTold
  | p :: ps => if badB p = true then notTold else P1 (foldS false p) ps
def tag_Parse.f (s : ByteArray) : Option Told := (strings_Split.f s (⟨#[45]⟩ : ByteArray)).bind fun l => if 0 < l.length ∧ l.length < 2000000 ∧ (∀ p ∈ l, p.size < 2000000) then some (P0 l) else none
def tag_Parse.T8 : Bool × List (List Nat × List Nat) := (true, [([], []), ([0], [0]), ([1], [1]), ([2], [2]), ([3], [3]), ([], []), ([5], [5]), ([6], [6]), ([7], [7]), ([8, 4], [8]), ([4, 9], [4, 9]), ([0, 1, 2, 3, 4, 5, 6, 7, 8, 9, 10], []), ([11, 10, 9, 0, 1, 2, 3, 4, 5, 6, 7, 8, 9, 10], [10, 11])])
def tag_Parse.B8 : List Nat := [0, 1, 3, 7, 15, 0, 32, 96, 224, 511, 1023, 2047, 4095]
theorem tag_Parse.tab8 : rtab .any (opsOf Tryz.f12 8) = tag_Parse.T8 := by kernel_rfl
theorem tag_Parse.bits8 : waitsOk tag_Parse.T8.2 tag_Parse.B8 = true := by kernel_rfl
theorem read_ne {W : World} {gP g : Nat} {cellsP : Array Value} {ad : Addr} {xs : List ByteArray} (hCP : ∀ W : World, W.heap[gP]? = some (.cells cellsP 9 (0, 0)) → Kd.C Kd.string W (some ad) xs.length xs) (hb : W.heap[gP]? = some (.cells cellsP 9 (0, 0))) (hne : gP ≠ g) (hn : 0 < xs.length) : ad.block ≠ g :=
  Kd.foot_ne (W := W) (fun W' hk => hCP W' ((hk.2 gP (blk_lt hb) hne (by simp)).trans hb)) hn (by decide)
theorem row_block {w : World} {base : Nat} {ok : Nat → Prop} {ad : Addr} {c : Nat} {l : List ByteArray} (h : Kd.R Kd.string 9 w base ok (.slice (some ad) l.length c) l) (hn : 0 < l.length) :
    ∃ cellsP : Array Value, w.heap[ad.block]? = some (.cells cellsP 9 (0, 0)) ∧ l.length ≤ c ∧ base ≤ ad.block ∧ ∀ W : World, W.heap[ad.block]? = some (.cells cellsP 9 (0, 0)) → Kd.C Kd.string W (some ad) l.length l := by
  have hr := Kd.R_reads' h
  have hF := Kd.R_F (Kd.R_tight (d := Kd.string) rfl h)
  obtain ⟨hb1, hb2, q, hq, cells, hcells⟩ := (Kd.R_bound (Kd.R_tight (d := Kd.string) rfl h)).1 ad.block rfl |>.2
  have hq9 : q = 9 := by
    have h2 : q ∈ ([9] : List Nat) := hq
    simpa using h2
  subst hq9
  refine ⟨_, hcells, hr.2.1, hb1, fun W hW => hF W (fun k hk _ => ?_)⟩
  have e : k = ad.block := Option.some.inj hk
  rw [e, hW, hcells]
theorem cut_one {g : Nat} {oP : Obj} (A : Option Addr) (l : List ByteArray) (c : Nat) (p : ByteArray) (ps : List ByteArray) (hl : l = p :: ps) (hc : l.length ≤ c) (hCP : ∀ W : World, W.heap[g]? = some oP → Kd.C Kd.string W A l.length l) :
    ∃ A' c', (∀ W : World, (Instr.slice 23 (.slice A l.length c) (some (.int .i64 1)) none none).run Tryz.prog W = .ok (.slice A' ps.length c') W) ∧ ps.length ≤ c' ∧ ∀ W : World, W.heap[g]? = some oP → Kd.C Kd.string W A' ps.length ps := by
  have hlen : l.length = ps.length + 1 := by rw [hl]; rfl
  obtain ⟨i0, hi0, _, hsz, _⟩ := info_parts info9
  have h := cut_from (P := Tryz.prog) 23 9 .i64 Tryz.underlying23 hi0 1 hsz A l.length c 1 (by omega) (by omega)
  refine ⟨(if c = 1 then A else A.map (·.add (1 * 1))), c - 1, fun W => (h W).trans ?_, ?_, fun W hW => ?_⟩
  · have e : l.length - (1 : Int).toNat = ps.length := by rw [hlen]; rfl
    rw [e]; rfl
  · omega
  · have k := Kd.C_drop (m := 1) (c := c) (hCP W hW) (by omega) hc
    have e : l.drop 1 = ps := by rw [hl]; rfl
    rw [e] at k
    exact k
set_option maxHeartbeats 8000000 in
set_option maxRecDepth 100000 in
theorem tag_Parse.calls (a0 : ByteArray) (r1 : ByteArray) (r2 : ByteArray) (r3 : ByteArray) (r4 : List ByteArray) (r5 : Bool) (w : World) (h : tag_Parse.f a0 = some (r1, r2, r3, r4, r5)) (hG : GW w := by first | exact hG | exact GW.drewN hG _ | exact GW.below hG (by first | exact HB.out | (with_reducible exact HB.out) | (repeat (first | (with_reducible first | exact HB.out | apply below_alloc | apply pw_below_drewN | apply below_drew1) | (refine below_setA ?_ (by assumption)) | exact HB.out)))) :
    Calls Tryz.prog 12 #[.string a0] w fun e w' => ∃ v3_ : Value, e = .returned (.tuple #[.agg #[.string r1, .string r2, .string r3, v3_], .bool r5]) ∧ Kd.R Kd.string 9 w' w.heap.size (fun _ => True) v3_ r4 ∧ Below w.heap.size w w' ∧ (r4 = [] → v3_ = .slice none 0 0) := by
  have hu25 := Tryz.underlying48
  have HB := Aside0.mk (Below.refl w.heap.size w)
  unfold tag_Parse.f at h
  obtain ⟨l, A20, h⟩ := Option.bind_eq_some_iff.mp h
  by_cases hall : 0 < l.length ∧ l.length < 2000000 ∧ (∀ p ∈ l, p.size < 2000000)
  case neg => rw [if_neg hall] at h; cases h
  rw [if_pos hall] at h
  obtain ⟨hl0, hl1, hsz⟩ := hall
  have H := Aside0.mk (Option.some.inj h)
  clear h
  have A2 := Aside0.mk A20
  clear A20
  obtain ⟨p0, ps, hlp⟩ : ∃ p0 ps, l = p0 :: ps := by
    cases l with
    | nil => simp at hl0
    | cons p ps => exact ⟨p, ps, rfl⟩
  have e0 : rdOf ByteArray.empty l 0 = p0 := by rw [hlp]; rfl
  have HL := Aside0.mk hlp
  have hp0 : p0.size < 2000000 := hsz p0 (by rw [hlp]; simp)
  have HSZ := Aside0.mk hsz
  clear hlp hsz
  have c3b0 : decide (0 < (l.length : Int)) = true := decide_eq_true (by omega)
  have c3b1 : decide (0 < l.length) = true := decide_eq_true hl0
  go_enter Tryz.func12, Tryz.ntmps12
  go_upto_region 3 with (first | ((with_reducible refine gate_dst (N := 2) rfl ?_); refine box_event ?hg (N := 2) ?hd (cs := #[.string (⟨#[]⟩ : ByteArray), .string (⟨#[]⟩ : ByteArray), .string (⟨#[]⟩ : ByteArray), .slice none 0 0]) (t := 48) ?hr ?_; (case hd => rfl); (case hg => rfl); (case hr => first | (go_simp; done) | (go_simp; rfl)); intro gb115 hg w5 hbox hb; have n0_ := Aside0.mk (below_step (by repeat (first | (with_reducible first | exact HB.out | apply below_alloc | apply pw_below_drewN | apply below_drew1) | exact HB.out)) hb); have n1_ := Aside0.mk (hbox); have n2_ := Aside0.mk ((by rw [hg]; exact (below_size (by repeat (first | (with_reducible first | exact HB.out | apply below_alloc | apply pw_below_drewN | apply below_drew1) | exact HB.out))) : w.heap.size ≤ gb115)); have n3_ := Aside0.mk ((by rw [hg]; exact (below_size (by repeat (first | (with_reducible first | exact HB.out | apply below_alloc | apply pw_below_drewN | apply below_drew1) | exact HB.out))) : w.heap.size ≤ gb115)); clear HB; have HB := n0_; have BK115 := n1_; have GW115 := n2_; have GE115 := n3_; clear n0_ n1_ n2_ n3_; clear hb hbox hg) | ((with_reducible refine gate_callee (f := 31) rfl ?_); refine goesL_ (some 12) rfl rfl Tryz.func31 (by kernel_rfl) rfl #[.string a0, .string (⟨#[45]⟩ : ByteArray)] rfl (by (try simp only [List.map_toArray, List.map_cons, List.map_nil]); first | done | rfl | (simp only [List.length_drop, List.length_take]; rfl)) ?_; (with_reducible refine (strings_Split.calls a0 (⟨#[45]⟩ : ByteArray) l _ A2.out).mono ?_); rintro e w6 ⟨v117, rfl, ho0, hb⟩; refine ⟨_, rfl, ?_⟩; have n0_ := Aside0.mk (Kd.R_lower ho0 (below_size (by repeat (first | (with_reducible first | exact HB.out | apply below_alloc | apply pw_below_drewN | apply below_drew1 | refine below_set ?_ GE115.out) | exact HB.out)))); have n1_ := Aside0.mk (blk_below (g := gb115) (o := .cells #[.string (⟨#[]⟩ : ByteArray), .string (⟨#[]⟩ : ByteArray), .string (⟨#[]⟩ : ByteArray), .slice none 0 0] 48 (0, 0)) (by (with_reducible repeat (first | refine blk_drewN ?_ _ | refine blk_drew ?_ | refine blk_alloc ?_ _)); exact BK115.out) hb); have n2_ := Aside0.mk (below_step (by repeat (first | (with_reducible first | exact HB.out | apply below_alloc | apply pw_below_drewN | apply below_drew1 | refine below_set ?_ GE115.out) | exact HB.out)) hb); clear BK115; clear HB; have HO118 := n0_; have BK115 := n1_; have HB := n2_; clear n0_ n1_ n2_; (try clear hb); (try clear hb2); (try clear hk); (try clear hi); (try clear ho0); obtain ⟨Ao7, co7, eo7⟩ := Kd.R_slice HO118.out; subst eo7; have p119 : 0 ≤ (0 : Int) := (by omega); have q119 : 0 < (l.length : Int) := of_decide_eq_true (by first | (with_reducible assumption) | assumption); obtain ⟨ad119, e119, hx119_0⟩ := Kd.at_string (Kd.R_reads' HO118.out).2.2 0 p119 q119; cases e119; have qi119 : (0 < l.length) = True := eq_true (by omega); (try rw [show ((0 : Int)).toNat = 0 from rfl] at hx119_0); (try rw [Addr.add_zero'] at hx119_0); replace p119 := eq_true p119; replace q119 := eq_true q119))
  (try simp only [Act.put, List.setIfInBounds_toArray, List.set_cons_zero, List.set_cons_succ])
  rw [e0] at hx119_0
  obtain ⟨cellsP, hoP, hcl, hbP, hCP⟩ := row_block HO118.out hl0
  have BKP := Aside0.mk hoP
  have HCP := Aside0.mk hCP
  have HCL := Aside0.mk hcl
  have HBP := Aside0.mk hbP
  have NB := Aside0.mk (show gb115 ≠ ad119.block from fun e => by rw [← e, BK115.out] at hoP; injection hoP with h1; injection h1 with _ h2; cases h2)
  clear hoP hCP hcl hbP HO118 A2 h
  go_cut [29] (fun v29 wc => v29 = .bool (badB p0) ∧ Aside0 (wc.heap[ad119.block]? = some (.cells cellsP 9 (0, 0))) ∧ Aside0 (wc.heap[gb115]? = some (.cells #[.string (⟨#[]⟩ : ByteArray), .string (⟨#[]⟩ : ByteArray), .string (⟨#[]⟩ : ByteArray), (.slice none 0 0)] 48 (0, 0))) ∧ Aside0 (Below w.heap.size w wc))
  case first =>
    by_cases c8 : (p0.size : Int) < 2
    · have c8b0 : decide ((p0.size : Int) < 2) = true := decide_eq_true c8
      have cb : badB p0 = true := by unfold badB; rw [decide_eq_true (by omega)]; rfl
      go_wp2
      go_meet
      case rel => exact ⟨by rw [cb], BKP, BK115, HB⟩
    · have c8b0 : decide ((p0.size : Int) < 2) = false := decide_eq_false c8
      by_cases c9 : (p0.size : Int) > 3
      · have c9b0 : decide (3 < (p0.size : Int)) = true := decide_eq_true c9
        have cb : badB p0 = true := by unfold badB; rw [decide_eq_true (p := p0.size > 3) (by omega), Bool.or_true]; rfl
        go_wp2
        go_meet
        case rel => exact ⟨by rw [cb], BKP, BK115, HB⟩
      · have c9b0 : decide (3 < (p0.size : Int)) = false := decide_eq_false c9
        have cb : badB p0 = !(allB letB p0) := by unfold badB; rw [decide_eq_false (by omega), decide_eq_false (by omega)]; rfl
        go_wp2_with (first | (go_at_call 32; (with_reducible refine (letters_calls p0 (by omega) _).mono ?_); rintro e w' ⟨rfl, ⟨nd, rfl⟩⟩))
        go_meet
        case rel => exact ⟨by rw [cb], BKP, BK115, ⟨pw_below_drewN HB.out _⟩⟩
  case rest =>
    obtain ⟨rfl, BKP, BK115, HB⟩ := hcut
    by_cases c11 : badB p0 = true
    · have hu25' := hu25
      have e1 : notTold = (r1, r2, r3, r4, r5) := by rw [← H.out, HL.out]; simp only [P0]; rw [if_pos c11]
      simp only [notTold, Prod.mk.injEq] at e1
      obtain ⟨rfl, rfl, rfl, rfl, rfl⟩ := e1
      clear H
      rw [c11]
      have hcz0 : wc.cell? ⟨gb115, 0, none⟩ = some (.string (⟨#[]⟩ : ByteArray)) := (blk_cell BK115.out 0).trans rfl
      have hfz0 := blk_frozen BK115.out 0
      have hcz1 : wc.cell? ⟨gb115, 1, none⟩ = some (.string (⟨#[]⟩ : ByteArray)) := (blk_cell BK115.out 1).trans rfl
      have hfz1 := blk_frozen BK115.out 1
      have hcz2 : wc.cell? ⟨gb115, 2, none⟩ = some (.string (⟨#[]⟩ : ByteArray)) := (blk_cell BK115.out 2).trans rfl
      have hfz2 := blk_frozen BK115.out 2
      have hcz3 : wc.cell? ⟨gb115, 3, none⟩ = some (.slice none 0 0) := (blk_cell BK115.out 3).trans rfl
      have hfz3 := blk_frozen BK115.out 3
      go_wp2
      refine bodyPost_ret (results_ct rfl _ _ gb115 48 #[.string (⟨#[]⟩ : ByteArray), .string (⟨#[]⟩ : ByteArray), .string (⟨#[]⟩ : ByteArray), .slice none 0 0] (0, 0) _ rfl (by (with_reducible repeat (first | refine blk_drewN ?_ _ | refine blk_drew ?_ | refine blk_alloc ?_ _)); refine blk_put (cs := #[.string (⟨#[]⟩ : ByteArray), .string (⟨#[]⟩ : ByteArray), .string (⟨#[]⟩ : ByteArray), .slice none 0 0]) ?_ 3 _ rfl; (with_reducible repeat (first | refine blk_drewN ?_ _ | refine blk_drew ?_ | refine blk_alloc ?_ _)); refine blk_put (cs := #[.string (⟨#[]⟩ : ByteArray), .string (⟨#[]⟩ : ByteArray), .string (⟨#[]⟩ : ByteArray), .slice none 0 0]) ?_ 2 _ rfl; (with_reducible repeat (first | refine blk_drewN ?_ _ | refine blk_drew ?_ | refine blk_alloc ?_ _)); refine blk_put (cs := #[.string (⟨#[]⟩ : ByteArray), .string (⟨#[]⟩ : ByteArray), .string (⟨#[]⟩ : ByteArray), .slice none 0 0]) ?_ 1 _ rfl; (with_reducible repeat (first | refine blk_drewN ?_ _ | refine blk_drew ?_ | refine blk_alloc ?_ _)); refine blk_put (cs := #[.string (⟨#[]⟩ : ByteArray), .string (⟨#[]⟩ : ByteArray), .string (⟨#[]⟩ : ByteArray), .slice none 0 0]) ?_ 0 _ rfl; (with_reducible repeat (first | refine blk_drewN ?_ _ | refine blk_drew ?_ | refine blk_alloc ?_ _)); exact BK115.out) Tryz.underlying48 rfl (by kernel_rfl)) rfl ?_
      exact ⟨_, by first | rfl | (simp [errW_none, errW_some] <;> rfl) | (simp [*, errW_none, errW_some] <;> rfl), Kd.R_nil _ _ _ _ _, (by repeat (first | (with_reducible first | exact HB.out | apply below_alloc | apply pw_below_drewN | apply below_drew1 | refine below_set ?_ GE115.out) | exact HB.out)), by simp⟩
    · have hu25' := hu25
      replace c11 : badB p0 = false := Bool.eq_false_iff.mpr c11
      have H1 := Aside0.mk (show P1 (foldS false p0) ps = (r1, r2, r3, r4, r5) by rw [← H.out, HL.out]; simp only [P0]; rw [if_neg (by rw [c11]; simp)])
      clear H
      rw [c11]
      obtain ⟨A1, c1, hcut1, hc1, hC1⟩ := cut_one (some ad119) l co7 p0 ps HL.out HCL.out HCP.out
      have HC1 := Aside0.mk hc1
      have HCP1 := Aside0.mk hC1
      clear hc1 hC1
      have hx := (HCP.out wc BKP.out)
      obtain ⟨ad2, e2, hx0⟩ := Kd.at_string hx 0 (Int.le_refl _) (by omega)
      cases e2
      rw [e0] at hx0
      (try rw [show ((0 : Int)).toNat = 0 from rfl] at hx0)
      (try rw [Addr.add_zero'] at hx0)
      clear hx
      have c119 : (0 < (l.length : Int)) = True := eq_true (by omega)
      have c1l : ((1 : Int) ≤ (l.length : Int)) = True := eq_true (by omega)
      go_upto_region 7 with (first | ((with_reducible refine gate_callee (f := 34) rfl ?_); refine goesL_ (some 34) rfl rfl Tryz.func34 (by kernel_rfl) rfl #[.string p0, .bool false] rfl (by (try simp only [List.map_toArray, List.map_cons, List.map_nil]); first | done | rfl | (simp only [List.length_drop, List.length_take]; rfl)) ?_; (with_reducible refine (fold_calls p0 false (by omega) _).mono ?_); rintro e w7 ⟨rfl, hb⟩; refine ⟨_, rfl, ?_⟩; have n0_ := Aside0.mk (blk_below (g := ad119.block) (by (with_reducible repeat (first | refine blk_drewN ?_ _ | refine blk_drew ?_ | refine blk_alloc ?_ _)); exact BKP.out) hb); have n1_ := Aside0.mk (blk_below (g := gb115) (o := .cells #[.string (⟨#[]⟩ : ByteArray), .string (⟨#[]⟩ : ByteArray), .string (⟨#[]⟩ : ByteArray), .slice none 0 0] 48 (0, 0)) (by (with_reducible repeat (first | refine blk_drewN ?_ _ | refine blk_drew ?_ | refine blk_alloc ?_ _)); exact BK115.out) hb); have n2_ := Aside0.mk (below_step (by repeat (first | (with_reducible first | exact HB.out | apply below_alloc | apply pw_below_drewN | apply below_drew1 | refine below_set ?_ GE115.out) | exact HB.out)) hb); clear BKP BK115 HB; have BKP := n0_; have BK115 := n1_; have HB := n2_; clear n0_ n1_ n2_ hb) | ((with_reducible refine gate_dst (N := 6) rfl ?_); refine box_event ?hg (N := 6) ?hd (cs := #[.string (⟨#[]⟩ : ByteArray), .string (⟨#[]⟩ : ByteArray), .string (⟨#[]⟩ : ByteArray), .slice none 0 0]) (t := 48) ?hr ?_; (case hd => rfl); (case hg => rfl); (case hr => first | (go_simp; done) | (go_simp; rfl)); intro gb124 hg w8 hbox hb; have n0_ := Aside0.mk (blk_below (g := ad119.block) (by (with_reducible repeat (first | refine blk_drewN ?_ _ | refine blk_drew ?_ | refine blk_alloc ?_ _)); exact BKP.out) hb); have n1_ := Aside0.mk (blk_below (g := gb115) (o := .cells #[.string (⟨#[]⟩ : ByteArray), .string (⟨#[]⟩ : ByteArray), .string (⟨#[]⟩ : ByteArray), .slice none 0 0] 48 (0, 0)) (by (with_reducible repeat (first | refine blk_drewN ?_ _ | refine blk_drew ?_ | refine blk_alloc ?_ _)); exact BK115.out) hb); have n2_ := Aside0.mk (below_step (by repeat (first | (with_reducible first | exact HB.out | apply below_alloc | apply pw_below_drewN | apply below_drew1 | refine below_set ?_ GE115.out) | exact HB.out)) hb); have n3_ := Aside0.mk (hbox); have GE124 := Aside0.mk ((by rw [hg]; exact (below_size (by repeat (first | (with_reducible first | exact HB.out | apply below_alloc | apply pw_below_drewN | apply below_drew1 | refine below_set ?_ GE115.out) | exact HB.out))) : w.heap.size ≤ gb124)); have NBP := Aside0.mk ((by rw [hg]; exact Nat.ne_of_lt (blk_lt (g := ad119.block) (by (with_reducible repeat (first | refine blk_drewN ?_ _ | refine blk_drew ?_ | refine blk_alloc ?_ _)); exact BKP.out)) : ad119.block ≠ gb124)); have NB0 := Aside0.mk ((by rw [hg]; exact Nat.ne_of_lt (blk_lt (g := gb115) (o := .cells #[.string (⟨#[]⟩ : ByteArray), .string (⟨#[]⟩ : ByteArray), .string (⟨#[]⟩ : ByteArray), .slice none 0 0] 48 (0, 0)) (by (with_reducible repeat (first | refine blk_drewN ?_ _ | refine blk_drew ?_ | refine blk_alloc ?_ _)); exact BK115.out)) : gb115 ≠ gb124)); clear BKP BK115 HB; have BKP := n0_; have BK115 := n1_; have HB := n2_; have BK124 := n3_; clear n0_ n1_ n2_ n3_ hb hbox hg; have hcz0 : w8.cell? ⟨gb124, 0, none⟩ = some (.string (⟨#[]⟩ : ByteArray)) := (blk_cell BK124.out 0).trans rfl; have hfz0 := blk_frozen BK124.out 0; have hcz1 : w8.cell? ⟨gb124, 1, none⟩ = some (.string (⟨#[]⟩ : ByteArray)) := (blk_cell BK124.out 1).trans rfl; have hfz1 := blk_frozen BK124.out 1; have hcz2 : w8.cell? ⟨gb124, 2, none⟩ = some (.string (⟨#[]⟩ : ByteArray)) := (blk_cell BK124.out 2).trans rfl; have hfz2 := blk_frozen BK124.out 2; have hcz3 : w8.cell? ⟨gb124, 3, none⟩ = some (.slice none 0 0) := (blk_cell BK124.out 3).trans rfl; have hfz3 := blk_frozen BK124.out 3))
      (try simp only [Act.put, List.setIfInBounds_toArray, List.set_cons_zero, List.set_cons_succ])
      obtain ⟨w9, hw⟩ : ∃ w9 : World, w9 = ((((w8.setCell ⟨gb124, 0, none⟩ (.string (foldS false p0))).setCell ⟨gb124, 1, none⟩ (.string (⟨#[]⟩ : ByteArray))).setCell ⟨gb124, 2, none⟩ (.string (⟨#[]⟩ : ByteArray))).setCell ⟨gb124, 3, none⟩ (.slice none 0 0)) := ⟨_, rfl⟩
      rw [← hw]
      have n0_ : Aside0 (w9.heap[ad119.block]? = some (.cells cellsP 9 (0, 0))) := ⟨(by rw [hw]; exact blk_far (p := ⟨gb124, 3, none⟩) (blk_far (p := ⟨gb124, 2, none⟩) (blk_far (p := ⟨gb124, 1, none⟩) (blk_far (p := ⟨gb124, 0, none⟩) BKP.out NBP.out _) NBP.out _) NBP.out _) NBP.out _)⟩
      have n1_ : Aside0 (w9.heap[gb115]? = some (.cells #[.string (⟨#[]⟩ : ByteArray), .string (⟨#[]⟩ : ByteArray), .string (⟨#[]⟩ : ByteArray), .slice none 0 0] 48 (0, 0))) := ⟨(by rw [hw]; exact (by refine blk_far ?_ NB0.out _; refine blk_far ?_ NB0.out _; refine blk_far ?_ NB0.out _; refine blk_far ?_ NB0.out _; exact BK115.out))⟩
      have n2_ : Aside0 (w9.heap[gb124]? = some (.cells #[.string (foldS false p0), .string (⟨#[]⟩ : ByteArray), .string (⟨#[]⟩ : ByteArray), .slice none 0 0] 48 (0, 0))) := ⟨(by rw [hw]; exact (by (with_reducible repeat (first | refine blk_drewN ?_ _ | refine blk_drew ?_ | refine blk_alloc ?_ _)); refine blk_put (cs := #[.string (foldS false p0), .string (⟨#[]⟩ : ByteArray), .string (⟨#[]⟩ : ByteArray), .slice none 0 0]) ?_ 3 _ rfl; (with_reducible repeat (first | refine blk_drewN ?_ _ | refine blk_drew ?_ | refine blk_alloc ?_ _)); refine blk_put (cs := #[.string (foldS false p0), .string (⟨#[]⟩ : ByteArray), .string (⟨#[]⟩ : ByteArray), .slice none 0 0]) ?_ 2 _ rfl; (with_reducible repeat (first | refine blk_drewN ?_ _ | refine blk_drew ?_ | refine blk_alloc ?_ _)); refine blk_put (cs := #[.string (foldS false p0), .string (⟨#[]⟩ : ByteArray), .string (⟨#[]⟩ : ByteArray), .slice none 0 0]) ?_ 1 _ rfl; (with_reducible repeat (first | refine blk_drewN ?_ _ | refine blk_drew ?_ | refine blk_alloc ?_ _)); refine blk_put (cs := #[.string (⟨#[]⟩ : ByteArray), .string (⟨#[]⟩ : ByteArray), .string (⟨#[]⟩ : ByteArray), .slice none 0 0]) ?_ 0 _ rfl; (with_reducible repeat (first | refine blk_drewN ?_ _ | refine blk_drew ?_ | refine blk_alloc ?_ _)); exact BK124.out))⟩
      have n3_ : Aside0 (Below w.heap.size w w9) := ⟨(by rw [hw]; exact (by repeat (first | (with_reducible first | exact HB.out | apply below_alloc | apply pw_below_drewN | apply below_drew1 | refine below_set ?_ GE115.out | refine below_set ?_ GE124.out) | exact HB.out)))⟩
      clear hw BKP BK115 BK124 HB
      have BKP := n0_
      have BK115 := n1_
      have BK124 := n2_
      have HB := n3_
      clear n0_ n1_ n2_ n3_
      (try simp only [Act.put, List.setIfInBounds_toArray, List.set_cons_zero, List.set_cons_succ])
      have hlen1 : l.length = ps.length + 1 := by rw [HL.out]; rfl
      have HS1 := Aside0.mk (show (∀ p ∈ ps, p.size < 2000000) ∧ ps.length < 2000000 from ⟨fun p hp => HSZ.out p (by rw [HL.out]; exact List.mem_cons_of_mem _ hp), by omega⟩)
      clear hlen1
      go_cut [46] (fun v46 wc => v46 = .bool (headIs scrB ps) ∧ Aside0 (wc.heap[ad119.block]? = some (.cells cellsP 9 (0, 0))) ∧ Aside0 (wc.heap[gb115]? = some (.cells #[.string (⟨#[]⟩ : ByteArray), .string (⟨#[]⟩ : ByteArray), .string (⟨#[]⟩ : ByteArray), .slice none 0 0] 48 (0, 0))) ∧ Aside0 (wc.heap[gb124]? = some (.cells #[.string (foldS false p0), .string (⟨#[]⟩ : ByteArray), .string (⟨#[]⟩ : ByteArray), .slice none 0 0] 48 (0, 0))) ∧ Aside0 (Below w.heap.size w wc))
      case first =>
        have hcs : ps = [] ∨ ∃ q qs, ps = q :: qs := by
          cases ps with
          | nil => exact .inl rfl
          | cons q qs => exact .inr ⟨q, qs, rfl⟩
        rcases hcs with hps | ⟨q, qs, hps⟩
        · have cl : decide (0 < (ps.length : Int)) = false := decide_eq_false (by rw [hps]; simp)
          have cl2 : decide (0 < ps.length) = false := decide_eq_false (by rw [hps]; simp)
          have ch : headIs scrB ps = false := by rw [hps]; rfl
          clear hps
          go_wp2
          go_meet
          case rel => exact ⟨by rw [ch], BKP, BK115, BK124, HB⟩
        · have cl : decide (0 < (ps.length : Int)) = true := decide_eq_true (by rw [hps, List.length_cons]; omega)
          have cl2 : decide (0 < ps.length) = true := decide_eq_true (by rw [hps, List.length_cons]; omega)
          have cl0 : 0 < ps.length := by rw [hps]; simp
          have cl1 : (0 < (ps.length : Int)) = True := eq_true (by omega)
          have hq : q.size < 2000000 := HS1.out.1 q (by rw [hps]; simp)
          obtain ⟨ad3, e3, hx3⟩ := Kd.at_string (HCP1.out _ BKP.out) 0 (Int.le_refl _) (by omega)
          subst e3
          rw [show rdOf ByteArray.empty ps 0 = q by rw [hps]; rfl] at hx3
          (try rw [show ((0 : Int)).toNat = 0 from rfl] at hx3)
          (try rw [Addr.add_zero'] at hx3)
          have ch : headIs scrB ps = scrB q := by rw [hps]; rfl
          have HPS := Aside0.mk hps
          clear hps
          go_wp2_with (first | (go_at_call 35; (with_reducible refine (script_calls q (by omega) _).mono ?_); rintro e w' ⟨rfl, ⟨nd, rfl⟩⟩))
          go_meet
          case rel => exact ⟨by rw [ch], BKP, BK115, BK124, ⟨pw_below_drewN HB.out _⟩⟩
      case rest =>
        clear BKP BK115 BK124 HB
        obtain ⟨rfl, BKP, BK115, BK124, HB⟩ := hcut
        go_upto_if 46 with (fail)
        go_cut [7] (fun v7 wc => ∃ (scr : ByteArray) (rest : List ByteArray) (A : Option Addr) (c : Nat), v7 = .slice A rest.length c ∧ Aside0 (P2 (foldS false p0) scr rest = (r1, r2, r3, r4, r5)) ∧ Aside0 (rest.length ≤ c) ∧ Aside0 (∀ W : World, W.heap[ad119.block]? = some (.cells cellsP 9 (0, 0)) → Kd.C Kd.string W A rest.length rest) ∧ Aside0 ((∀ p ∈ rest, p.size < 2000000) ∧ rest.length < 2000000) ∧ Aside0 (wc.heap[ad119.block]? = some (.cells cellsP 9 (0, 0))) ∧ Aside0 (wc.heap[gb115]? = some (.cells #[.string (⟨#[]⟩ : ByteArray), .string (⟨#[]⟩ : ByteArray), .string (⟨#[]⟩ : ByteArray), .slice none 0 0] 48 (0, 0))) ∧ Aside0 (wc.heap[gb124]? = some (.cells #[.string (foldS false p0), .string scr, .string (⟨#[]⟩ : ByteArray), .slice none 0 0] 48 (0, 0))) ∧ Aside0 (Below w.heap.size w wc))
        case first =>
          by_cases cs : headIs scrB ps = true
          · obtain ⟨q, qs, hps⟩ : ∃ q qs, ps = q :: qs := by
              cases ps with
              | nil => cases cs
              | cons q qs => exact ⟨q, qs, rfl⟩
            have csq : scrB q = true := by rw [hps] at cs; exact cs
            have cq4 : q.size = 4 := by unfold scrB at csq; rw [Bool.and_eq_true, decide_eq_true_eq] at csq; exact csq.1
            rw [cs]
            have H2 := Aside0.mk (show P2 (foldS false p0) (scrS q) qs = (r1, r2, r3, r4, r5) by rw [← H1.out, hps]; simp only [P1]; rw [if_pos csq])
            have HPS := Aside0.mk hps
            have cl0 : 0 < ps.length := by rw [hps]; simp
            clear hps cs csq
            obtain ⟨A2, c2, hcut2, hc2, hC2⟩ := cut_one A1 ps c1 q qs HPS.out HC1.out HCP1.out
            have HC2 := Aside0.mk hc2
            have HCP2 := Aside0.mk hC2
            clear hc2 hC2
            have cl1 : (0 < (ps.length : Int)) = True := eq_true (by omega)
            have cl3 : ((1 : Int) ≤ (ps.length : Int)) = True := eq_true (by omega)
            obtain ⟨ad3, e3, hx3⟩ := Kd.at_string (HCP1.out _ BKP.out) 0 (Int.le_refl _) (by omega)
            subst e3
            rw [show rdOf ByteArray.empty ps 0 = q by rw [HPS.out]; rfl] at hx3
            (try rw [show ((0 : Int)).toNat = 0 from rfl] at hx3)
            (try rw [Addr.add_zero'] at hx3)
            have NA3 := Aside0.mk (read_ne HCP1.out BKP.out NBP.out cl0)
            have c20b0 : (1 ≤ (q.size : Int)) = True := eq_true (by omega)
            have c20b1 : decide (1 ≤ (q.size : Int)) = true := decide_eq_true (by omega)
            obtain ⟨y1, hy1⟩ : ∃ y, q.extract 0 1 = y := ⟨_, rfl⟩
            obtain ⟨y2, hy2⟩ : ∃ y, q.extract 1 q.size = y := ⟨_, rfl⟩
            have b1 : y1.size ≤ 4 := by rw [← hy1, ByteArray.size_extract]; omega
            have b2 : y2.size ≤ 4 := by rw [← hy2, ByteArray.size_extract]; omega
            have c25 : (foldS true y1).size + (foldS false y2).size ≤ 9223372036854775807 := by rw [foldS_size, foldS_size]; omega
            have c25b0 := eq_true c25
            have c25b1 : decide ((foldS true y1).size + (foldS false y2).size ≤ 9223372036854775807) = true := decide_eq_true c25
            have c25b2 : (9223372036854775807 < (foldS true y1).size + (foldS false y2).size) = False := eq_false (Nat.not_lt.2 c25)
            obtain ⟨y3, hy3⟩ : ∃ y, foldS true y1 ++ foldS false y2 = y := ⟨_, rfl⟩
            have HY := Aside0.mk (show scrS q = y3 by unfold scrS; rw [hy1, hy2, hy3])
            clear cq4
            go_upto_region 8 with (fail)
            (try simp only [Act.put, List.setIfInBounds_toArray, List.set_cons_zero, List.set_cons_succ])
            refine start_ (n := 13) (S := fun w' => w'.cell? ad3 = some (.string q) ∧ w'.cell? ad3 = some (.string q)) (ds := []) #[false, false, false, false, false, false, false, false, false, false, false, false, false] (by kernel_rfl) rfl rfl ⟨hx3, hx3⟩ (fun hHeld => ?_)
            refine with_tabW tag_Parse.tab8 tag_Parse.bits8 (fun HT_ HW_ => ?_)
            have n0_ := Aside0.mk (blk_drew BKP.out)
            have n1_ := Aside0.mk (blk_drew BK115.out)
            have n2_ := Aside0.mk (blk_drew BK124.out)
            have n3_ := Aside0.mk (below_drew1 HB.out)
            clear BKP BK115 BK124 HB hx3
            have BKP := n0_
            have BK115 := n1_
            have BK124 := n2_
            have HB := n3_
            clear n0_ n1_ n2_ n3_
            generalize wc.drew = w39 at BKP BK115 BK124 HB hHeld ⊢
            refine pure_ (i := 0) (N := some 47) (v := ?_) (a' := ?_) #[true, false, false, false, false, false, false, false, false, false, false, false, false] rfl rfl (any_of HT_.out (by kernel_rfl)) (fun _ _ _ h => h) (Or.inl ⟨by rfl, ?_⟩) ?_ ?_
            rotate_left
            · intro w'
              go_simp
              with_reducible rfl
            rotate_left
            · simp only [Act.put, List.setIfInBounds_toArray, List.set_cons_zero, List.set_cons_succ, i64_w, i32_w]
              rfl
            refine pure_ (i := 1) (N := some 48) (v := ?_) (a' := ?_) #[true, true, false, false, false, false, false, false, false, false, false, false, false] rfl rfl (any_of HT_.out (by kernel_rfl)) (fun _ _ _ h => h) (Or.inl ⟨by rfl, ?_⟩) ?_ ?_
            rotate_left
            · intro w'
              go_simp
              with_reducible rfl
            rotate_left
            · simp only [Act.put, List.setIfInBounds_toArray, List.set_cons_zero, List.set_cons_succ, i64_w, i32_w]
              rfl
            refine pure_ (i := 5) (N := some 52) (v := ?_) (a' := ?_) #[true, true, false, false, false, true, false, false, false, false, false, false, false] rfl rfl (any_of HT_.out (by kernel_rfl)) (fun _ _ _ h => h) (Or.inl ⟨by rfl, ?_⟩) ?_ ?_
            rotate_left
            · intro w'
              go_simp
              with_reducible rfl
            rotate_left
            · simp only [Act.put, List.setIfInBounds_toArray, List.set_cons_zero, List.set_cons_succ, i64_w, i32_w]
              rfl
            refine pure_ (i := 6) (N := some 53) (v := ?_) (a' := ?_) #[true, true, false, false, false, true, true, false, false, false, false, false, false] rfl rfl (any_of HT_.out (by kernel_rfl)) (fun _ _ _ h => h) (Or.inl ⟨by rfl, ?_⟩) ?_ ?_
            rotate_left
            · intro w'
              go_simp
              with_reducible rfl
            rotate_left
            · simp only [Act.put, List.setIfInBounds_toArray, List.set_cons_zero, List.set_cons_succ, i64_w, i32_w]
              rfl
            refine take_ (i := 2) (N := some 49) (v := ?_) (a' := ?_) #[true, true, true, false, false, true, true, false, false, false, false, false, false] rfl rfl (take_ofW HT_.out HW_.out (by kernel_rfl)) (fun _ _ _ h => h) (Or.inl ⟨by rfl, ?_⟩) hHeld ?_ ?_
            rotate_left
            · rintro w' ⟨s0, s1⟩
              go_simp
              with_reducible rfl
            rotate_left
            · simp only [Act.put, List.setIfInBounds_toArray, List.set_cons_zero, List.set_cons_succ, i64_w, i32_w]
              rfl
            refine pure_ (i := 3) (N := some 50) (v := ?_) (a' := ?_) #[true, true, true, true, false, true, true, false, false, false, false, false, false] rfl rfl (any_of HT_.out (by kernel_rfl)) (fun _ _ _ h => h) (Or.inl ⟨by rfl, ?_⟩) ?_ ?_
            rotate_left
            · intro w'
              go_simp
              with_reducible rfl
            rotate_left
            · simp only [Act.put, List.setIfInBounds_toArray, List.set_cons_zero, List.set_cons_succ, i64_w, i32_w]
              rfl
            refine take_ (i := 7) (N := some 54) (v := ?_) (a' := ?_) #[true, true, true, true, false, true, true, true, false, false, false, false, false] rfl rfl (take_ofW HT_.out HW_.out (by kernel_rfl)) (fun _ _ _ h => h) (Or.inl ⟨by rfl, ?_⟩) hHeld ?_ ?_
            rotate_left
            · rintro w' ⟨s0, s1⟩
              go_simp
              with_reducible rfl
            rotate_left
            · simp only [Act.put, List.setIfInBounds_toArray, List.set_cons_zero, List.set_cons_succ, i64_w, i32_w]
              rfl
            refine pure_ (i := 8) (N := some 55) (v := ?_) (a' := ?_) #[true, true, true, true, false, true, true, true, true, false, false, false, false] rfl rfl (any_of HT_.out (by kernel_rfl)) (fun _ _ _ h => h) (Or.inl ⟨by rfl, ?_⟩) ?_ ?_
            rotate_left
            · intro w'
              go_simp
              with_reducible rfl
            rotate_left
            · simp only [Act.put, List.setIfInBounds_toArray, List.set_cons_zero, List.set_cons_succ, i64_w, i32_w]
              rfl
            refine one_ (i := 4) (N := some 51) #[true, true, true, true, true, true, true, true, true, false, false, false, false] rfl rfl (one_of HT_.out (by kernel_rfl)) (by decide) (fun K hK => ?_)
            refine goes_ Tryz.func34 (by kernel_rfl) rfl #[.string y1, .bool true] (by rfl) rfl rfl (by (try simp only [List.map_toArray, List.map_cons, List.map_nil]); first | done | rfl | (simp only [List.length_drop, List.length_take]; rfl)) ?_
            with_reducible refine (fold_calls y1 true (by omega) _).mono ?_
            rintro e w40 ⟨rfl, hb⟩
            have HS0_ := (hb.cell (World.block_lt_of_cell? _ _ (hHeld.1))).trans (hHeld.1)
            have HS1_ := (hb.cell (World.block_lt_of_cell? _ _ (hHeld.2))).trans (hHeld.2)
            refine ⟨_, rfl, ?_⟩
            have n0_ := Aside0.mk (blk_below (g := ad119.block) (o := .cells cellsP 9 (0, 0)) (by (with_reducible repeat (first | refine blk_drewN ?_ _ | refine blk_drew ?_ | refine blk_alloc ?_ _)); exact BKP.out) hb)
            have n1_ := Aside0.mk (blk_below (g := gb115) (o := .cells #[.string (⟨#[]⟩ : ByteArray), .string (⟨#[]⟩ : ByteArray), .string (⟨#[]⟩ : ByteArray), .slice none 0 0] 48 (0, 0)) (by (with_reducible repeat (first | refine blk_drewN ?_ _ | refine blk_drew ?_ | refine blk_alloc ?_ _)); exact BK115.out) hb)
            have n2_ := Aside0.mk (blk_below (g := gb124) (o := .cells #[.string (foldS false p0), .string (⟨#[]⟩ : ByteArray), .string (⟨#[]⟩ : ByteArray), .slice none 0 0] 48 (0, 0)) (by (with_reducible repeat (first | refine blk_drewN ?_ _ | refine blk_drew ?_ | refine blk_alloc ?_ _)); exact BK124.out) hb)
            have n3_ := Aside0.mk (below_step (by repeat (first | (with_reducible first | exact HB.out | apply below_alloc | apply pw_below_drewN | apply below_drew1 | refine below_set ?_ GE115.out | refine below_set ?_ GE124.out) | exact HB.out)) hb)
            clear BKP BK115 BK124 HB hb
            have BKP := n0_
            have BK115 := n1_
            have BK124 := n2_
            have HB := n3_
            clear n0_ n1_ n2_ n3_
            refine hK.out _ _ ⟨HS0_, HS1_⟩ (fun hHeld => ?_)
            refine norm_ (a' := ?_) ?_ ?_
            rotate_left
            · show Act.put _ (some 51) _ = _
              simp only [Act.put, List.setIfInBounds_toArray, List.set_cons_zero, List.set_cons_succ, i64_w, i32_w]
              rfl
            refine one_ (i := 9) (N := some 56) #[true, true, true, true, true, true, true, true, true, true, false, false, false] rfl rfl (one_of HT_.out (by kernel_rfl)) (by decide) (fun K hK => ?_)
            refine goes_ Tryz.func34 (by kernel_rfl) rfl #[.string y2, .bool false] (by rfl) rfl rfl (by (try simp only [List.map_toArray, List.map_cons, List.map_nil]); first | done | rfl | (simp only [List.length_drop, List.length_take]; rfl)) ?_
            with_reducible refine (fold_calls y2 false (by omega) _).mono ?_
            rintro e w41 ⟨rfl, hb⟩
            have HS0_ := (hb.cell (World.block_lt_of_cell? _ _ (hHeld.1))).trans (hHeld.1)
            have HS1_ := (hb.cell (World.block_lt_of_cell? _ _ (hHeld.2))).trans (hHeld.2)
            refine ⟨_, rfl, ?_⟩
            have n0_ := Aside0.mk (blk_below (g := ad119.block) (o := .cells cellsP 9 (0, 0)) (by (with_reducible repeat (first | refine blk_drewN ?_ _ | refine blk_drew ?_ | refine blk_alloc ?_ _)); exact BKP.out) hb)
            have n1_ := Aside0.mk (blk_below (g := gb115) (o := .cells #[.string (⟨#[]⟩ : ByteArray), .string (⟨#[]⟩ : ByteArray), .string (⟨#[]⟩ : ByteArray), .slice none 0 0] 48 (0, 0)) (by (with_reducible repeat (first | refine blk_drewN ?_ _ | refine blk_drew ?_ | refine blk_alloc ?_ _)); exact BK115.out) hb)
            have n2_ := Aside0.mk (blk_below (g := gb124) (o := .cells #[.string (foldS false p0), .string (⟨#[]⟩ : ByteArray), .string (⟨#[]⟩ : ByteArray), .slice none 0 0] 48 (0, 0)) (by (with_reducible repeat (first | refine blk_drewN ?_ _ | refine blk_drew ?_ | refine blk_alloc ?_ _)); exact BK124.out) hb)
            have n3_ := Aside0.mk (below_step (by repeat (first | (with_reducible first | exact HB.out | apply below_alloc | apply pw_below_drewN | apply below_drew1 | refine below_set ?_ GE115.out | refine below_set ?_ GE124.out) | exact HB.out)) hb)
            clear BKP BK115 BK124 HB hb
            have BKP := n0_
            have BK115 := n1_
            have BK124 := n2_
            have HB := n3_
            clear n0_ n1_ n2_ n3_
            refine hK.out _ _ ⟨HS0_, HS1_⟩ (fun hHeld => ?_)
            refine norm_ (a' := ?_) ?_ ?_
            rotate_left
            · show Act.put _ (some 56) _ = _
              simp only [Act.put, List.setIfInBounds_toArray, List.set_cons_zero, List.set_cons_succ, i64_w, i32_w]
              rfl
            refine pure_ (i := 10) (N := some 57) (v := ?_) (a' := ?_) #[true, true, true, true, true, true, true, true, true, true, true, false, false] rfl rfl (any_of HT_.out (by kernel_rfl)) (fun _ _ _ h => h) (Or.inl ⟨by rfl, ?_⟩) ?_ ?_
            rotate_left
            · intro w'
              go_simp
              with_reducible rfl
            rotate_left
            · simp only [Act.put, List.setIfInBounds_toArray, List.set_cons_zero, List.set_cons_succ, i64_w, i32_w]
              rfl
            refine pure_ (i := 11) (N := some 58) (v := ?_) (a' := ?_) #[true, true, true, true, true, true, true, true, true, true, true, true, false] rfl rfl (any_of HT_.out (by kernel_rfl)) (fun _ _ _ h => h) (Or.inl ⟨by rfl, ?_⟩) ?_ ?_
            rotate_left
            · intro w'
              go_simp
              with_reducible rfl
            rotate_left
            · simp only [Act.put, List.setIfInBounds_toArray, List.set_cons_zero, List.set_cons_succ, i64_w, i32_w]
              rfl
            refine one_ (i := 12) (N := none) #[true, true, true, true, true, true, true, true, true, true, true, true, true] rfl rfl (one_of HT_.out (by kernel_rfl)) (by decide) (fun K hK => ?_)
            have hs42 : w41.cell? ⟨gb124, 1, none⟩ = some (.string (⟨#[]⟩ : ByteArray)) := (blk_cell BK124.out 1).trans rfl
            have hfs42 := blk_frozen BK124.out 1
            refine skip_ (w1 := ?_) (by rfl) rfl ?_ ?_
            rotate_left
            · go_simp
              rfl
            refine hK.out _ _ ⟨(cell_far (p := ⟨gb124, _, none⟩) NA3.out _).trans (hHeld.1), (cell_far (p := ⟨gb124, _, none⟩) NA3.out _).trans (hHeld.2)⟩ (fun hHeld => ?_)
            refine done_ (done_of HT_.out (by kernel_rfl)) ?_
            obtain ⟨w42, hw⟩ : ∃ w42 : World, w42 = w41.setCell ⟨gb124, 1, none⟩ (.string y3) := ⟨_, rfl⟩
            rw [← hw]
            have n0_ : Aside0 (w42.heap[ad119.block]? = some (.cells cellsP 9 (0, 0))) := ⟨by rw [hw]; exact blk_far (p := ⟨gb124, 1, none⟩) BKP.out NBP.out _⟩
            have n1_ : Aside0 (w42.heap[gb115]? = some (.cells #[.string (⟨#[]⟩ : ByteArray), .string (⟨#[]⟩ : ByteArray), .string (⟨#[]⟩ : ByteArray), .slice none 0 0] 48 (0, 0))) := ⟨by rw [hw]; exact blk_far (p := ⟨gb124, 1, none⟩) BK115.out NB0.out _⟩
            have n2_ : Aside0 (w42.heap[gb124]? = some (.cells #[.string (foldS false p0), .string y3, .string (⟨#[]⟩ : ByteArray), .slice none 0 0] 48 (0, 0))) := ⟨by rw [hw]; refine blk_put (cs := #[.string (foldS false p0), .string (⟨#[]⟩ : ByteArray), .string (⟨#[]⟩ : ByteArray), .slice none 0 0]) ?_ 1 _ rfl; exact BK124.out⟩
            have n3_ : Aside0 (Below w.heap.size w w42) := ⟨by rw [hw]; exact (by repeat (first | (with_reducible first | exact HB.out | apply below_alloc | apply pw_below_drewN | apply below_drew1 | refine below_set ?_ GE115.out | refine below_set ?_ GE124.out) | exact HB.out))⟩
            clear hw BKP BK115 BK124 HB
            have BKP := n0_
            have BK115 := n1_
            have BK124 := n2_
            have HB := n3_
            clear n0_ n1_ n2_ n3_
            have hlen2 : ps.length = qs.length + 1 := by rw [HPS.out]; rfl
            have HS2 := Aside0.mk (show (∀ p ∈ qs, p.size < 2000000) ∧ qs.length < 2000000 from ⟨fun p hp => HS1.out.1 p (by rw [HPS.out]; exact List.mem_cons_of_mem _ hp), by have := HS1.out.2; omega⟩)
            clear hlen2
            go_wp2
            go_meet
            case rel => exact ⟨y3, qs, A2, c2, rfl, ⟨by rw [← HY.out]; exact H2.out⟩, HC2, HCP2, HS2, BKP, BK115, BK124, HB⟩
          · have cs' : headIs scrB ps = false := Bool.eq_false_iff.mpr cs
            rw [cs']
            have H2 := Aside0.mk (show P2 (foldS false p0) (⟨#[]⟩ : ByteArray) ps = (r1, r2, r3, r4, r5) by
              rw [← H1.out]
              cases ps with
              | nil => rfl
              | cons q qs => simp only [P1]; rw [if_neg (by intro h; rw [show headIs scrB (q :: qs) = scrB q from rfl] at cs; exact cs h)])
            clear cs cs'
            go_wp2
            go_meet
            case rel => exact ⟨_, ps, A1, c1, rfl, H2, HC1, HCP1, HS1, BKP, BK115, BK124, HB⟩
        case rest =>
          clear BKP BK115 BK124 HB
          obtain ⟨scr, rest, A3, c3, rfl, H3, HC3, HCP3, HS3, BKP, BK115, BK124, HB⟩ := hcut
          clear hcut1 HC1 HCP1 HS1 H1 HL HSZ HCP HCL
          go_upto_region 10 with (fail)
          (try simp only [Act.put, List.setIfInBounds_toArray, List.set_cons_zero, List.set_cons_succ])
          go_cut [69] (fun v69 wc => v69 = .bool (headIs regB rest) ∧ Aside0 (wc.heap[ad119.block]? = some (.cells cellsP 9 (0, 0))) ∧ Aside0 (wc.heap[gb115]? = some (.cells #[.string (⟨#[]⟩ : ByteArray), .string (⟨#[]⟩ : ByteArray), .string (⟨#[]⟩ : ByteArray), .slice none 0 0] 48 (0, 0))) ∧ Aside0 (wc.heap[gb124]? = some (.cells #[.string (foldS false p0), .string scr, .string (⟨#[]⟩ : ByteArray), .slice none 0 0] 48 (0, 0))) ∧ Aside0 (Below w.heap.size w wc))
          case first =>
            have hcs : rest = [] ∨ ∃ q qs, rest = q :: qs := by
              cases rest with
              | nil => exact .inl rfl
              | cons q qs => exact .inr ⟨q, qs, rfl⟩
            rcases hcs with hps | ⟨q, qs, hps⟩
            · have cl : decide (0 < (rest.length : Int)) = false := decide_eq_false (by rw [hps]; simp)
              have cl2 : decide (0 < rest.length) = false := decide_eq_false (by rw [hps]; simp)
              have ch : headIs regB rest = false := by rw [hps]; rfl
              clear hps
              go_wp2
              go_meet
              case rel => exact ⟨by rw [ch], BKP, BK115, BK124, HB⟩
            · have cl : decide (0 < (rest.length : Int)) = true := decide_eq_true (by rw [hps, List.length_cons]; omega)
              have cl2 : decide (0 < rest.length) = true := decide_eq_true (by rw [hps, List.length_cons]; omega)
              have cl0 : 0 < rest.length := by rw [hps]; simp
              have cl1 : (0 < (rest.length : Int)) = True := eq_true (by omega)
              have hq : q.size < 2000000 := HS3.out.1 q (by rw [hps]; simp)
              obtain ⟨ad3, e3, hx3⟩ := Kd.at_string (HCP3.out _ BKP.out) 0 (Int.le_refl _) (by omega)
              subst e3
              rw [show rdOf ByteArray.empty rest 0 = q by rw [hps]; rfl] at hx3
              (try rw [show ((0 : Int)).toNat = 0 from rfl] at hx3)
              (try rw [Addr.add_zero'] at hx3)
              have ch : headIs regB rest = regB q := by rw [hps]; rfl
              clear hps
              go_wp2_with (first | (go_at_call 36; (with_reducible refine (region_calls q (by omega) _).mono ?_); rintro e w' ⟨rfl, ⟨nd, rfl⟩⟩))
              go_meet
              case rel => exact ⟨by rw [ch], BKP, BK115, BK124, ⟨pw_below_drewN HB.out _⟩⟩
          case rest =>
            clear BKP BK115 BK124 HB
            obtain ⟨rfl, BKP, BK115, BK124, HB⟩ := hcut
            go_upto_if 69 with (fail)
            go_cut [7] (fun v7 wc => ∃ (reg : ByteArray) (last : List ByteArray) (A : Option Addr) (c : Nat), v7 = .slice A last.length c ∧ Aside0 (P3 (foldS false p0) scr reg last [] = (r1, r2, r3, r4, r5)) ∧ Aside0 (last.length ≤ c) ∧ Aside0 (∀ W : World, W.heap[ad119.block]? = some (.cells cellsP 9 (0, 0)) → Kd.C Kd.string W A last.length last) ∧ Aside0 ((∀ p ∈ last, p.size < 2000000) ∧ last.length < 2000000) ∧ Aside0 (wc.heap[ad119.block]? = some (.cells cellsP 9 (0, 0))) ∧ Aside0 (wc.heap[gb115]? = some (.cells #[.string (⟨#[]⟩ : ByteArray), .string (⟨#[]⟩ : ByteArray), .string (⟨#[]⟩ : ByteArray), .slice none 0 0] 48 (0, 0))) ∧ Aside0 (wc.heap[gb124]? = some (.cells #[.string (foldS false p0), .string scr, .string reg, .slice none 0 0] 48 (0, 0))) ∧ Aside0 (Below w.heap.size w wc))
            case first =>
              by_cases cs : headIs regB rest = true
              · obtain ⟨q, qs, hps⟩ : ∃ q qs, rest = q :: qs := by
                  cases rest with
                  | nil => cases cs
                  | cons q qs => exact ⟨q, qs, rfl⟩
                have csq : regB q = true := by rw [hps] at cs; exact cs
                rw [cs]
                have H4 := Aside0.mk (show P3 (foldS false p0) scr (foldS true q) qs [] = (r1, r2, r3, r4, r5) by rw [← H3.out, hps]; simp only [P2]; rw [if_pos csq])
                have HPS := Aside0.mk hps
                have cl0 : 0 < rest.length := by rw [hps]; simp
                have hq : q.size < 2000000 := HS3.out.1 q (by rw [hps]; simp)
                clear hps cs csq
                obtain ⟨A2, c2, hcut2, hc2, hC2⟩ := cut_one A3 rest c3 q qs HPS.out HC3.out HCP3.out
                have HC2 := Aside0.mk hc2
                have HCP2 := Aside0.mk hC2
                clear hc2 hC2
                have cl1 : (0 < (rest.length : Int)) = True := eq_true (by omega)
                have cl3 : ((1 : Int) ≤ (rest.length : Int)) = True := eq_true (by omega)
                obtain ⟨ad3, e3, hx3⟩ := Kd.at_string (HCP3.out _ BKP.out) 0 (Int.le_refl _) (by omega)
                subst e3
                rw [show rdOf ByteArray.empty rest 0 = q by rw [HPS.out]; rfl] at hx3
                (try rw [show ((0 : Int)).toNat = 0 from rfl] at hx3)
                (try rw [Addr.add_zero'] at hx3)
                have hlen2 : rest.length = qs.length + 1 := by rw [HPS.out]; rfl
                have HS2 := Aside0.mk (show (∀ p ∈ qs, p.size < 2000000) ∧ qs.length < 2000000 from ⟨fun p hp => HS3.out.1 p (by rw [HPS.out]; exact List.mem_cons_of_mem _ hp), by have := HS3.out.2; omega⟩)
                clear hlen2
                go_upto_region 12 with (first | ((with_reducible refine gate_callee (f := 34) rfl ?_); refine goesL_ (some 73) rfl rfl Tryz.func34 (by kernel_rfl) rfl #[.string q, .bool true] rfl (by (try simp only [List.map_toArray, List.map_cons, List.map_nil]); first | done | rfl | (simp only [List.length_drop, List.length_take]; rfl)) ?_; (with_reducible refine (fold_calls q true (by omega) _).mono ?_); rintro e w40 ⟨rfl, hb⟩; refine ⟨_, rfl, ?_⟩; have n0_ := Aside0.mk (blk_below (g := ad119.block) (o := .cells cellsP 9 (0, 0)) (by (with_reducible repeat (first | refine blk_drewN ?_ _ | refine blk_drew ?_ | refine blk_alloc ?_ _)); exact BKP.out) hb); have n1_ := Aside0.mk (blk_below (g := gb115) (o := .cells #[.string (⟨#[]⟩ : ByteArray), .string (⟨#[]⟩ : ByteArray), .string (⟨#[]⟩ : ByteArray), .slice none 0 0] 48 (0, 0)) (by (with_reducible repeat (first | refine blk_drewN ?_ _ | refine blk_drew ?_ | refine blk_alloc ?_ _)); exact BK115.out) hb); have n2_ := Aside0.mk (blk_below (g := gb124) (o := .cells #[.string (foldS false p0), .string scr, .string (⟨#[]⟩ : ByteArray), .slice none 0 0] 48 (0, 0)) (by (with_reducible repeat (first | refine blk_drewN ?_ _ | refine blk_drew ?_ | refine blk_alloc ?_ _)); exact BK124.out) hb); have n3_ := Aside0.mk (below_step (by repeat (first | (with_reducible first | exact HB.out | apply below_alloc | apply pw_below_drewN | apply below_drew1 | refine below_set ?_ GE115.out | refine below_set ?_ GE124.out) | exact HB.out)) hb); clear BKP BK115 BK124 HB hb; have BKP := n0_; have BK115 := n1_; have BK124 := n2_; have HB := n3_; clear n0_ n1_ n2_ n3_; have hs42 : w40.cell? ⟨gb124, 2, none⟩ = some (.string (⟨#[]⟩ : ByteArray)) := (blk_cell BK124.out 2).trans rfl; have hfs42 := blk_frozen BK124.out 2))
                obtain ⟨w42, hw⟩ : ∃ w42 : World, w42 = w40.setCell ⟨gb124, 2, none⟩ (.string (foldS true q)) := ⟨_, rfl⟩
                rw [← hw]
                have n0_ : Aside0 (w42.heap[ad119.block]? = some (.cells cellsP 9 (0, 0))) := ⟨by rw [hw]; exact blk_far (p := ⟨gb124, 2, none⟩) BKP.out NBP.out _⟩
                have n1_ : Aside0 (w42.heap[gb115]? = some (.cells #[.string (⟨#[]⟩ : ByteArray), .string (⟨#[]⟩ : ByteArray), .string (⟨#[]⟩ : ByteArray), .slice none 0 0] 48 (0, 0))) := ⟨by rw [hw]; exact blk_far (p := ⟨gb124, 2, none⟩) BK115.out NB0.out _⟩
                have n2_ : Aside0 (w42.heap[gb124]? = some (.cells #[.string (foldS false p0), .string scr, .string (foldS true q), .slice none 0 0] 48 (0, 0))) := ⟨by rw [hw]; refine blk_put (cs := #[.string (foldS false p0), .string scr, .string (⟨#[]⟩ : ByteArray), .slice none 0 0]) ?_ 2 _ rfl; exact BK124.out⟩
                have n3_ : Aside0 (Below w.heap.size w w42) := ⟨by rw [hw]; exact (by repeat (first | (with_reducible first | exact HB.out | apply below_alloc | apply pw_below_drewN | apply below_drew1 | refine below_set ?_ GE115.out | refine below_set ?_ GE124.out) | exact HB.out))⟩
                clear hw BKP BK115 BK124 HB
                have BKP := n0_
                have BK115 := n1_
                have BK124 := n2_
                have HB := n3_
                clear n0_ n1_ n2_ n3_
                go_wp2
                go_meet
                case rel => exact ⟨_, qs, A2, c2, rfl, H4, HC2, HCP2, HS2, BKP, BK115, BK124, HB⟩
              · have cs' : headIs regB rest = false := Bool.eq_false_iff.mpr cs
                rw [cs']
                have H4 := Aside0.mk (show P3 (foldS false p0) scr (⟨#[]⟩ : ByteArray) rest [] = (r1, r2, r3, r4, r5) by
                  rw [← H3.out]
                  cases rest with
                  | nil => rfl
                  | cons q qs => simp only [P2]; rw [if_neg (by intro h; rw [show headIs regB (q :: qs) = regB q from rfl] at cs; exact cs h)])
                clear cs cs'
                go_wp2
                go_meet
                case rel => exact ⟨_, rest, A3, c3, rfl, H4, HC3, HCP3, HS3, BKP, BK115, BK124, HB⟩
            case rest =>
              clear BKP BK115 BK124 HB
              obtain ⟨reg, last, A4, c4, rfl, H5, HC4, HCP4, HS4, BKP, BK115, BK124, HB⟩ := hcut
              clear HC3 HCP3 HS3 H3
              go_wp2
              go_loopg [79] (last.length + 1) (fun kq v79 w' => ∃ (i : Nat) (acc : List ByteArray) (u : Value), v79 = .int .i64 (i : Int) ∧ Aside0 (i ≤ last.length) ∧ Aside0 (kq = last.length - i + 1) ∧ Aside0 (P3 (foldS false p0) scr reg (last.drop i) acc = (r1, r2, r3, r4, r5)) ∧ Aside0 (acc.length ≤ i) ∧ Aside0 (Kd.R Kd.string 9 w' w.heap.size (fun k => k ≠ ad119.block) u acc) ∧ Aside0 (w'.heap[ad119.block]? = some (.cells cellsP 9 (0, 0))) ∧ Aside0 (w'.heap[gb115]? = some (.cells #[.string (⟨#[]⟩ : ByteArray), .string (⟨#[]⟩ : ByteArray), .string (⟨#[]⟩ : ByteArray), .slice none 0 0] 48 (0, 0))) ∧ Aside0 (w'.heap[gb124]? = some (.cells #[.string (foldS false p0), .string scr, .string reg, u] 48 (0, 0))) ∧ Aside0 (Below w.heap.size w w') ∧ Aside0 (acc = [] → u = .slice none 0 0))
              case atStart => exact ⟨0, [], .slice none 0 0, rfl, ⟨Nat.zero_le _⟩, ⟨by omega⟩, H5, ⟨Nat.zero_le _⟩, ⟨Kd.R_nil _ _ _ _ _⟩, BKP, BK115, BK124, HB, ⟨fun _ => rfl⟩⟩
              case round =>
                clear BKP BK115 BK124 HB H5
                obtain ⟨i, acc, u, rfl, HI, HK, HP, HAL, HO, BKP, BK115, BK124, HB, HN⟩ := hrel
                by_cases hi : (i : Int) < (last.length : Int)
                · have d1 : decide ((i : Int) < (last.length : Int)) = true := decide_eq_true hi
                  have hin : i < last.length := by omega
                  obtain ⟨q, hq⟩ : ∃ q, last[i] = q := ⟨_, rfl⟩
                  have hqs : q.size < 2000000 := HS4.out.1 q (by rw [← hq]; exact List.getElem_mem hin)
                  replace HP := Aside0.mk (show P3 (foldS false p0) scr reg (q :: last.drop (i + 1)) acc = (r1, r2, r3, r4, r5) by rw [← hq, ← List.drop_eq_getElem_cons hin]; exact HP.out)
                  obtain ⟨ad4, e4, hx4⟩ := Kd.at_string (HCP4.out _ BKP.out) (i : Int) (by omega) hi
                  subst e4
                  rw [show rdOf ByteArray.empty last (i : Int) = q by unfold rdOf; rw [← hq]; simp [List.getD_eq_getElem?_getD, List.getElem?_eq_getElem hin]] at hx4
                  rw [Int.toNat_natCast] at hx4
                  have pi : (0 ≤ (i : Int)) = True := eq_true (by omega)
                  have pl : ((i : Int) < (last.length : Int)) = True := eq_true hi
                  clear hq
                  by_cases cv : varB q = true
                  · by_cases ch : hasS acc (foldS false q) = true
                    · have e1 : notTold = (r1, r2, r3, r4, r5) := by rw [← HP.out]; simp only [P3]; rw [if_pos cv, if_pos ch]
                      simp only [notTold, Prod.mk.injEq] at e1
                      obtain ⟨rfl, rfl, rfl, rfl, rfl⟩ := e1
                      clear HP
                      go_wp2_with (first | ((with_reducible refine gate_callee (f := 34) rfl ?_); refine goesL_ (some 84) rfl rfl Tryz.func34 (by kernel_rfl) rfl #[.string q, .bool false] rfl (by (try simp only [List.map_toArray, List.map_cons, List.map_nil]); first | done | rfl | (simp only [List.length_drop, List.length_take]; rfl)) ?_; (with_reducible refine (fold_calls q false (by omega) _).mono ?_); rintro e w40 ⟨rfl, hb⟩; refine ⟨_, rfl, ?_⟩; have n0_ := Aside0.mk (blk_below (g := ad119.block) (o := .cells cellsP 9 (0, 0)) (by (with_reducible repeat (first | refine blk_drewN ?_ _ | refine blk_drew ?_ | refine blk_alloc ?_ _)); exact BKP.out) hb); have n1_ := Aside0.mk (blk_below (g := gb115) (o := .cells #[.string (⟨#[]⟩ : ByteArray), .string (⟨#[]⟩ : ByteArray), .string (⟨#[]⟩ : ByteArray), .slice none 0 0] 48 (0, 0)) (by (with_reducible repeat (first | refine blk_drewN ?_ _ | refine blk_drew ?_ | refine blk_alloc ?_ _)); exact BK115.out) hb); have n2_ := Aside0.mk (blk_below (g := gb124) (o := .cells #[.string (foldS false p0), .string scr, .string reg, u] 48 (0, 0)) (by (with_reducible repeat (first | refine blk_drewN ?_ _ | refine blk_drew ?_ | refine blk_alloc ?_ _)); exact BK124.out) hb); have n3_ := Aside0.mk (below_step (by repeat (first | (with_reducible first | exact HB.out | apply below_alloc | apply pw_below_drewN | apply below_drew1 | refine below_set ?_ GE115.out | refine below_set ?_ GE124.out) | exact HB.out)) hb); have n4_ := Aside0.mk (Kd.R_below (by (with_reducible repeat (first | apply Kd.R_alloc | apply Kd.R_drewN | apply Kd.R_drew)); exact HO.out) hb); clear BKP BK115 BK124 HB HO hb; have BKP := n0_; have BK115 := n1_; have BK124 := n2_; have HB := n3_; have HO := n4_; clear n0_ n1_ n2_ n3_ n4_) | ((with_reducible refine gate_callee (f := 37) rfl ?_); refine goesL_ (some 86) rfl rfl Tryz.func37 (by kernel_rfl) rfl #[.string q] rfl (by (try simp only [List.map_toArray, List.map_cons, List.map_nil]); first | done | rfl | (simp only [List.length_drop, List.length_take]; rfl)) ?_; (with_reducible refine (variant_calls q (by omega) _).mono ?_); rintro e w' ⟨rfl, ⟨nd, rfl⟩⟩; refine ⟨_, rfl, ?_⟩; rw [cv]; (try (rw [drewN_self w40]; generalize hq_ : World.drewN w40 _ = w40; have n0_ : Aside0 (w40.heap[ad119.block]? = some (.cells cellsP 9 (0, 0))) := ⟨by rw [← hq_]; exact (by (with_reducible repeat (first | refine blk_drewN ?_ _ | refine blk_drew ?_ | refine blk_alloc ?_ _)); exact BKP.out)⟩; have n1_ : Aside0 (w40.heap[gb115]? = some (.cells #[.string (⟨#[]⟩ : ByteArray), .string (⟨#[]⟩ : ByteArray), .string (⟨#[]⟩ : ByteArray), .slice none 0 0] 48 (0, 0))) := ⟨by rw [← hq_]; exact (by (with_reducible repeat (first | refine blk_drewN ?_ _ | refine blk_drew ?_ | refine blk_alloc ?_ _)); exact BK115.out)⟩; have n2_ : Aside0 (w40.heap[gb124]? = some (.cells #[.string (foldS false p0), .string scr, .string reg, u] 48 (0, 0))) := ⟨by rw [← hq_]; exact (by (with_reducible repeat (first | refine blk_drewN ?_ _ | refine blk_drew ?_ | refine blk_alloc ?_ _)); exact BK124.out)⟩; have n3_ : Aside0 (Below w.heap.size w w40) := ⟨by rw [← hq_]; exact (by repeat (first | (with_reducible first | exact HB.out | apply below_alloc | apply pw_below_drewN | apply below_drew1 | refine below_set ?_ GE115.out | refine below_set ?_ GE124.out) | exact HB.out))⟩; have n4_ : Aside0 (Kd.R Kd.string 9 w40 w.heap.size (fun k => k ≠ ad119.block) (u) acc) := ⟨by rw [← hq_]; exact (by (with_reducible repeat (first | apply Kd.R_alloc | apply Kd.R_drewN | apply Kd.R_drew)); exact HO.out)⟩; clear BKP BK115 BK124 HB HO hq_; have BKP := n0_; have BK115 := n1_; have BK124 := n2_; have HB := n3_; have HO := n4_; clear n0_ n1_ n2_ n3_ n4_)); have hcz57_0 : w40.cell? ⟨gb124, 0, none⟩ = some (.string (foldS false p0)) := (blk_cell BK124.out 0).trans rfl; have hfz57_0 := blk_frozen BK124.out 0; have hcz57_1 : w40.cell? ⟨gb124, 1, none⟩ = some (.string scr) := (blk_cell BK124.out 1).trans rfl; have hfz57_1 := blk_frozen BK124.out 1; have hcz57_2 : w40.cell? ⟨gb124, 2, none⟩ = some (.string reg) := (blk_cell BK124.out 2).trans rfl; have hfz57_2 := blk_frozen BK124.out 2; have hcz57_3 : w40.cell? ⟨gb124, 3, none⟩ = some (u) := (blk_cell BK124.out 3).trans rfl; have hfz57_3 := blk_frozen BK124.out 3; obtain ⟨Ao, co, eo⟩ := Kd.R_slice HO.out; subst eo) | (go_at_call 38; (with_reducible refine (contains_calls _ _ acc (foldS false q) _ ?side1 ?side2 (by have := HAL.out; have := HI.out; have := HS4.out.2; omega)).mono ?_); (case side1 => repeat (first | exact (Kd.R_reads' HO.out).2.2 | (with_reducible refine Kd.C_alloc ?_ _) | (with_reducible refine Kd.C_drewN ?_ _) | (with_reducible refine Kd.C_drew ?_))); (case side2 => exact (Kd.R_reads' HO.out).2.1); rintro e w' ⟨rfl, ⟨nd, rfl⟩⟩; rw [ch]; (try (rw [drewN_self w40]; generalize hq_ : World.drewN w40 _ = w40; have n0_ : Aside0 (w40.heap[ad119.block]? = some (.cells cellsP 9 (0, 0))) := ⟨by rw [← hq_]; exact (by (with_reducible repeat (first | refine blk_drewN ?_ _ | refine blk_drew ?_ | refine blk_alloc ?_ _)); exact BKP.out)⟩; have n1_ : Aside0 (w40.heap[gb115]? = some (.cells #[.string (⟨#[]⟩ : ByteArray), .string (⟨#[]⟩ : ByteArray), .string (⟨#[]⟩ : ByteArray), .slice none 0 0] 48 (0, 0))) := ⟨by rw [← hq_]; exact (by (with_reducible repeat (first | refine blk_drewN ?_ _ | refine blk_drew ?_ | refine blk_alloc ?_ _)); exact BK115.out)⟩; have n2_ : Aside0 (w40.heap[gb124]? = some (.cells #[.string (foldS false p0), .string scr, .string reg, .slice Ao acc.length co] 48 (0, 0))) := ⟨by rw [← hq_]; exact (by (with_reducible repeat (first | refine blk_drewN ?_ _ | refine blk_drew ?_ | refine blk_alloc ?_ _)); exact BK124.out)⟩; have n3_ : Aside0 (Below w.heap.size w w40) := ⟨by rw [← hq_]; exact (by repeat (first | (with_reducible first | exact HB.out | apply below_alloc | apply pw_below_drewN | apply below_drew1 | refine below_set ?_ GE115.out | refine below_set ?_ GE124.out) | exact HB.out))⟩; have n4_ : Aside0 (Kd.R Kd.string 9 w40 w.heap.size (fun k => k ≠ ad119.block) (.slice Ao acc.length co) acc) := ⟨by rw [← hq_]; exact (by (with_reducible repeat (first | apply Kd.R_alloc | apply Kd.R_drewN | apply Kd.R_drew)); exact HO.out)⟩; clear BKP BK115 BK124 HB HO hq_; have BKP := n0_; have BK115 := n1_; have BK124 := n2_; have HB := n3_; have HO := n4_; clear n0_ n1_ n2_ n3_ n4_)); have hcz59_0 : w40.cell? ⟨gb115, 0, none⟩ = some (.string (⟨#[]⟩ : ByteArray)) := (blk_cell BK115.out 0).trans rfl; have hfz59_0 := blk_frozen BK115.out 0; have hcz59_1 : w40.cell? ⟨gb115, 1, none⟩ = some (.string (⟨#[]⟩ : ByteArray)) := (blk_cell BK115.out 1).trans rfl; have hfz59_1 := blk_frozen BK115.out 1; have hcz59_2 : w40.cell? ⟨gb115, 2, none⟩ = some (.string (⟨#[]⟩ : ByteArray)) := (blk_cell BK115.out 2).trans rfl; have hfz59_2 := blk_frozen BK115.out 2; have hcz59_3 : w40.cell? ⟨gb115, 3, none⟩ = some (.slice none 0 0) := (blk_cell BK115.out 3).trans rfl; have hfz59_3 := blk_frozen BK115.out 3))
                      refine bodyPost_ret (results_ct rfl _ _ gb115 48 #[.string (⟨#[]⟩ : ByteArray), .string (⟨#[]⟩ : ByteArray), .string (⟨#[]⟩ : ByteArray), .slice none 0 0] (0, 0) _ rfl (by (with_reducible repeat (first | refine blk_drewN ?_ _ | refine blk_drew ?_ | refine blk_alloc ?_ _)); refine blk_put (cs := #[.string (⟨#[]⟩ : ByteArray), .string (⟨#[]⟩ : ByteArray), .string (⟨#[]⟩ : ByteArray), .slice none 0 0]) ?_ 3 _ rfl; (with_reducible repeat (first | refine blk_drewN ?_ _ | refine blk_drew ?_ | refine blk_alloc ?_ _)); refine blk_put (cs := #[.string (⟨#[]⟩ : ByteArray), .string (⟨#[]⟩ : ByteArray), .string (⟨#[]⟩ : ByteArray), .slice none 0 0]) ?_ 2 _ rfl; (with_reducible repeat (first | refine blk_drewN ?_ _ | refine blk_drew ?_ | refine blk_alloc ?_ _)); refine blk_put (cs := #[.string (⟨#[]⟩ : ByteArray), .string (⟨#[]⟩ : ByteArray), .string (⟨#[]⟩ : ByteArray), .slice none 0 0]) ?_ 1 _ rfl; (with_reducible repeat (first | refine blk_drewN ?_ _ | refine blk_drew ?_ | refine blk_alloc ?_ _)); refine blk_put (cs := #[.string (⟨#[]⟩ : ByteArray), .string (⟨#[]⟩ : ByteArray), .string (⟨#[]⟩ : ByteArray), .slice none 0 0]) ?_ 0 _ rfl; (with_reducible repeat (first | refine blk_drewN ?_ _ | refine blk_drew ?_ | refine blk_alloc ?_ _)); exact BK115.out) Tryz.underlying48 rfl (by kernel_rfl)) rfl ?_
                      exact ⟨_, by first | rfl | (simp [errW_none, errW_some] <;> rfl) | (simp [*, errW_none, errW_some] <;> rfl), Kd.R_nil _ _ _ _ _, (by repeat (first | (with_reducible first | exact HB.out | apply below_alloc | apply pw_below_drewN | apply below_drew1 | refine below_set ?_ GE115.out | refine below_set ?_ GE124.out) | exact HB.out)), by simp⟩
                    · replace ch : hasS acc (foldS false q) = false := Bool.eq_false_iff.mpr ch
                      replace HP := Aside0.mk (show P3 (foldS false p0) scr reg (last.drop (i + 1)) (acc ++ [foldS false q]) = (r1, r2, r3, r4, r5) by rw [← HP.out]; simp only [P3]; rw [if_pos cv, if_neg (by rw [ch]; simp)])
                      obtain ⟨acc2, hacc2⟩ : ∃ y, y = acc ++ [foldS false q] := ⟨_, rfl⟩
                      have NA := Aside0.mk hacc2
                      clear hacc2
                      go_wp2_with (first | ((with_reducible refine gate_callee (f := 34) rfl ?_); refine goesL_ (some 84) rfl rfl Tryz.func34 (by kernel_rfl) rfl #[.string q, .bool false] rfl (by (try simp only [List.map_toArray, List.map_cons, List.map_nil]); first | done | rfl | (simp only [List.length_drop, List.length_take]; rfl)) ?_; (with_reducible refine (fold_calls q false (by omega) _).mono ?_); rintro e w40 ⟨rfl, hb⟩; refine ⟨_, rfl, ?_⟩; have n0_ := Aside0.mk (blk_below (g := ad119.block) (o := .cells cellsP 9 (0, 0)) (by (with_reducible repeat (first | refine blk_drewN ?_ _ | refine blk_drew ?_ | refine blk_alloc ?_ _)); exact BKP.out) hb); have n1_ := Aside0.mk (blk_below (g := gb115) (o := .cells #[.string (⟨#[]⟩ : ByteArray), .string (⟨#[]⟩ : ByteArray), .string (⟨#[]⟩ : ByteArray), .slice none 0 0] 48 (0, 0)) (by (with_reducible repeat (first | refine blk_drewN ?_ _ | refine blk_drew ?_ | refine blk_alloc ?_ _)); exact BK115.out) hb); have n2_ := Aside0.mk (blk_below (g := gb124) (o := .cells #[.string (foldS false p0), .string scr, .string reg, u] 48 (0, 0)) (by (with_reducible repeat (first | refine blk_drewN ?_ _ | refine blk_drew ?_ | refine blk_alloc ?_ _)); exact BK124.out) hb); have n3_ := Aside0.mk (below_step (by repeat (first | (with_reducible first | exact HB.out | apply below_alloc | apply pw_below_drewN | apply below_drew1 | refine below_set ?_ GE115.out | refine below_set ?_ GE124.out) | exact HB.out)) hb); have n4_ := Aside0.mk (Kd.R_below (by (with_reducible repeat (first | apply Kd.R_alloc | apply Kd.R_drewN | apply Kd.R_drew)); exact HO.out) hb); clear BKP BK115 BK124 HB HO hb; have BKP := n0_; have BK115 := n1_; have BK124 := n2_; have HB := n3_; have HO := n4_; clear n0_ n1_ n2_ n3_ n4_) | ((with_reducible refine gate_callee (f := 37) rfl ?_); refine goesL_ (some 86) rfl rfl Tryz.func37 (by kernel_rfl) rfl #[.string q] rfl (by (try simp only [List.map_toArray, List.map_cons, List.map_nil]); first | done | rfl | (simp only [List.length_drop, List.length_take]; rfl)) ?_; (with_reducible refine (variant_calls q (by omega) _).mono ?_); rintro e w' ⟨rfl, ⟨nd, rfl⟩⟩; refine ⟨_, rfl, ?_⟩; rw [cv]; (try (rw [drewN_self w40]; generalize hq_ : World.drewN w40 _ = w40; have n0_ : Aside0 (w40.heap[ad119.block]? = some (.cells cellsP 9 (0, 0))) := ⟨by rw [← hq_]; exact (by (with_reducible repeat (first | refine blk_drewN ?_ _ | refine blk_drew ?_ | refine blk_alloc ?_ _)); exact BKP.out)⟩; have n1_ : Aside0 (w40.heap[gb115]? = some (.cells #[.string (⟨#[]⟩ : ByteArray), .string (⟨#[]⟩ : ByteArray), .string (⟨#[]⟩ : ByteArray), .slice none 0 0] 48 (0, 0))) := ⟨by rw [← hq_]; exact (by (with_reducible repeat (first | refine blk_drewN ?_ _ | refine blk_drew ?_ | refine blk_alloc ?_ _)); exact BK115.out)⟩; have n2_ : Aside0 (w40.heap[gb124]? = some (.cells #[.string (foldS false p0), .string scr, .string reg, u] 48 (0, 0))) := ⟨by rw [← hq_]; exact (by (with_reducible repeat (first | refine blk_drewN ?_ _ | refine blk_drew ?_ | refine blk_alloc ?_ _)); exact BK124.out)⟩; have n3_ : Aside0 (Below w.heap.size w w40) := ⟨by rw [← hq_]; exact (by repeat (first | (with_reducible first | exact HB.out | apply below_alloc | apply pw_below_drewN | apply below_drew1 | refine below_set ?_ GE115.out | refine below_set ?_ GE124.out) | exact HB.out))⟩; have n4_ : Aside0 (Kd.R Kd.string 9 w40 w.heap.size (fun k => k ≠ ad119.block) (u) acc) := ⟨by rw [← hq_]; exact (by (with_reducible repeat (first | apply Kd.R_alloc | apply Kd.R_drewN | apply Kd.R_drew)); exact HO.out)⟩; clear BKP BK115 BK124 HB HO hq_; have BKP := n0_; have BK115 := n1_; have BK124 := n2_; have HB := n3_; have HO := n4_; clear n0_ n1_ n2_ n3_ n4_)); have hcz57_0 : w40.cell? ⟨gb124, 0, none⟩ = some (.string (foldS false p0)) := (blk_cell BK124.out 0).trans rfl; have hfz57_0 := blk_frozen BK124.out 0; have hcz57_1 : w40.cell? ⟨gb124, 1, none⟩ = some (.string scr) := (blk_cell BK124.out 1).trans rfl; have hfz57_1 := blk_frozen BK124.out 1; have hcz57_2 : w40.cell? ⟨gb124, 2, none⟩ = some (.string reg) := (blk_cell BK124.out 2).trans rfl; have hfz57_2 := blk_frozen BK124.out 2; have hcz57_3 : w40.cell? ⟨gb124, 3, none⟩ = some (u) := (blk_cell BK124.out 3).trans rfl; have hfz57_3 := blk_frozen BK124.out 3; obtain ⟨Ao, co, eo⟩ := Kd.R_slice HO.out; subst eo) | (go_at_call 38; (with_reducible refine (contains_calls _ _ acc (foldS false q) _ ?side1 ?side2 (by have := HAL.out; have := HI.out; have := HS4.out.2; omega)).mono ?_); (case side1 => repeat (first | exact (Kd.R_reads' HO.out).2.2 | (with_reducible refine Kd.C_alloc ?_ _) | (with_reducible refine Kd.C_drewN ?_ _) | (with_reducible refine Kd.C_drew ?_))); (case side2 => exact (Kd.R_reads' HO.out).2.1); rintro e w' ⟨rfl, ⟨nd, rfl⟩⟩; rw [ch]; (try (rw [drewN_self w40]; generalize hq_ : World.drewN w40 _ = w40; have n0_ : Aside0 (w40.heap[ad119.block]? = some (.cells cellsP 9 (0, 0))) := ⟨by rw [← hq_]; exact (by (with_reducible repeat (first | refine blk_drewN ?_ _ | refine blk_drew ?_ | refine blk_alloc ?_ _)); exact BKP.out)⟩; have n1_ : Aside0 (w40.heap[gb115]? = some (.cells #[.string (⟨#[]⟩ : ByteArray), .string (⟨#[]⟩ : ByteArray), .string (⟨#[]⟩ : ByteArray), .slice none 0 0] 48 (0, 0))) := ⟨by rw [← hq_]; exact (by (with_reducible repeat (first | refine blk_drewN ?_ _ | refine blk_drew ?_ | refine blk_alloc ?_ _)); exact BK115.out)⟩; have n2_ : Aside0 (w40.heap[gb124]? = some (.cells #[.string (foldS false p0), .string scr, .string reg, .slice Ao acc.length co] 48 (0, 0))) := ⟨by rw [← hq_]; exact (by (with_reducible repeat (first | refine blk_drewN ?_ _ | refine blk_drew ?_ | refine blk_alloc ?_ _)); exact BK124.out)⟩; have n3_ : Aside0 (Below w.heap.size w w40) := ⟨by rw [← hq_]; exact (by repeat (first | (with_reducible first | exact HB.out | apply below_alloc | apply pw_below_drewN | apply below_drew1 | refine below_set ?_ GE115.out | refine below_set ?_ GE124.out) | exact HB.out))⟩; have n4_ : Aside0 (Kd.R Kd.string 9 w40 w.heap.size (fun k => k ≠ ad119.block) (.slice Ao acc.length co) acc) := ⟨by rw [← hq_]; exact (by (with_reducible repeat (first | apply Kd.R_alloc | apply Kd.R_drewN | apply Kd.R_drew)); exact HO.out)⟩; clear BKP BK115 BK124 HB HO hq_; have BKP := n0_; have BK115 := n1_; have BK124 := n2_; have HB := n3_; have HO := n4_; clear n0_ n1_ n2_ n3_ n4_)); have hcz58_0 : w40.cell? ⟨gb124, 0, none⟩ = some (.string (foldS false p0)) := (blk_cell BK124.out 0).trans rfl; have hfz58_0 := blk_frozen BK124.out 0; have hcz58_1 : w40.cell? ⟨gb124, 1, none⟩ = some (.string scr) := (blk_cell BK124.out 1).trans rfl; have hfz58_1 := blk_frozen BK124.out 1; have hcz58_2 : w40.cell? ⟨gb124, 2, none⟩ = some (.string reg) := (blk_cell BK124.out 2).trans rfl; have hfz58_2 := blk_frozen BK124.out 2; have hcz58_3 : w40.cell? ⟨gb124, 3, none⟩ = some (.slice Ao acc.length co) := (blk_cell BK124.out 3).trans rfl; have hfz58_3 := blk_frozen BK124.out 3) | ((with_reducible refine gate_builtin (b := .append) (xs := #[.tmp 96, .tmp 98]) rfl ?_); at_builtin; refine Kd.R_append Kd.string (w0 := w) w.heap.size rfl (.tmp 96) (.tmp 98) 23 9 (.string ⟨#[]⟩) 16 rfl Tryz.underlying23 info9 rfl (by decide) (by omega) (.slice Ao acc.length co) acc (foldS false q) [.string (foldS false q)] (fun k => k ≠ ad119.block) (fun _ => False) rfl rfl ?aP (fun _ hk => hk.elim) ?aF ?aO ?aB ?aS ?aL ?_; (case aP => exact rfl); (case aB => exact (by repeat (first | (with_reducible first | exact HB.out | apply below_alloc | apply pw_below_drewN | apply below_drew1 | refine below_set ?_ GE115.out | refine below_set ?_ GE124.out) | exact HB.out))); (case aF => exact (fun k hk => Nat.ne_of_gt (Nat.lt_of_lt_of_le (blk_lt (g := ad119.block) (by (with_reducible repeat (first | refine blk_drewN ?_ _ | refine blk_drew ?_ | refine blk_alloc ?_ _)); exact BKP.out)) hk))); (case aO => exact (by (with_reducible repeat (first | apply Kd.R_alloc | apply Kd.R_drewN | apply Kd.R_drew)); exact HO.out)); (case aS => exact (below_size (by repeat (first | (with_reducible first | exact HB.out | apply below_alloc | apply pw_below_drewN | apply below_drew1 | refine below_set ?_ GE115.out | refine below_set ?_ GE124.out) | exact HB.out)))); (case aL => have := HAL.out; have := HI.out; have := HS4.out.2; omega); intro v155 w65 ho hb hg hat; rw [← NA.out] at ho; have n0_ := Aside0.mk (blk_grown (g := gb115) (o := .cells #[.string (⟨#[]⟩ : ByteArray), .string (⟨#[]⟩ : ByteArray), .string (⟨#[]⟩ : ByteArray), .slice none 0 0] 48 (0, 0)) (by (with_reducible repeat (first | refine blk_drewN ?_ _ | refine blk_drew ?_ | refine blk_alloc ?_ _)); exact BK115.out) hg (Kd.R_ne HO.out BK115.out (by decide))); have n1_ := Aside0.mk (blk_grown (g := gb124) (o := .cells #[.string (foldS false p0), .string scr, .string reg, .slice Ao acc.length co] 48 (0, 0)) (by (with_reducible repeat (first | refine blk_drewN ?_ _ | refine blk_drew ?_ | refine blk_alloc ?_ _)); exact BK124.out) hg (Kd.R_ne HO.out BK124.out (by decide))); have n2_ := Aside0.mk (blk_grown (g := ad119.block) (o := .cells cellsP 9 (0, 0)) (by (with_reducible repeat (first | refine blk_drewN ?_ _ | refine blk_drew ?_ | refine blk_alloc ?_ _)); exact BKP.out) hg (fun e => HO.out.1 _ e.symm rfl)); have n3_ := Aside0.mk (hb); have n4_ := Aside0.mk (ho); clear BK115 BK124 BKP HB HO; have BK115 := n0_; have BK124 := n1_; have BKP := n2_; have HB := n3_; have HO := n4_; clear n0_ n1_ n2_ n3_ n4_; clear ho hb hg hat; obtain ⟨Ao66, co66, eo66⟩ := Kd.R_slice HO.out; subst eo66; have hcz65_0 : w65.cell? ⟨gb124, 0, none⟩ = some (.string (foldS false p0)) := (blk_cell BK124.out 0).trans rfl; have hfz65_0 := blk_frozen BK124.out 0; have hcz65_1 : w65.cell? ⟨gb124, 1, none⟩ = some (.string scr) := (blk_cell BK124.out 1).trans rfl; have hfz65_1 := blk_frozen BK124.out 1; have hcz65_2 : w65.cell? ⟨gb124, 2, none⟩ = some (.string reg) := (blk_cell BK124.out 2).trans rfl; have hfz65_2 := blk_frozen BK124.out 2; have hcz65_3 : w65.cell? ⟨gb124, 3, none⟩ = some (.slice Ao acc.length co) := (blk_cell BK124.out 3).trans rfl; have hfz65_3 := blk_frozen BK124.out 3))
                      go_roundg (last.length - i)
                      case measure => have := HK.out; omega
                      case rel =>
                        have hl2 : acc2.length = acc.length + 1 := by rw [NA.out]; simp
                        refine ⟨i + 1, acc2, .slice Ao66 acc2.length co66, by simp; exact wrap_id (by omega) (by have := HS4.out.2; omega), ⟨by omega⟩, ⟨by omega⟩, ⟨by rw [NA.out]; exact HP.out⟩, ⟨by have := HAL.out; omega⟩, ⟨?_⟩, ⟨?_⟩, ⟨?_⟩, ⟨?_⟩, ⟨?_⟩, ⟨fun e => by rw [e] at hl2; simp at hl2⟩⟩
                        · exact Kd.R_mono (Kd.R_far (p := ⟨gb124, 3, none⟩) (Kd.R_types HO.out BK124.out (by decide)) (fun _ hk => hk.2) _) (fun _ hk => hk.1)
                        · exact blk_far (p := ⟨gb124, 3, none⟩) BKP.out NBP.out _
                        · exact blk_far (p := ⟨gb124, 3, none⟩) BK115.out NB0.out _
                        · refine blk_put (cs := #[.string (foldS false p0), .string scr, .string reg, .slice Ao acc.length co]) ?_ 3 _ rfl; exact BK124.out
                        · exact (by repeat (first | (with_reducible first | exact HB.out | apply below_alloc | apply pw_below_drewN | apply below_drew1 | refine below_set ?_ GE115.out | refine below_set ?_ GE124.out) | exact HB.out))
                  · replace cv : varB q = false := Bool.eq_false_iff.mpr cv
                    have e1 : notTold = (r1, r2, r3, r4, r5) := by rw [← HP.out]; simp only [P3]; rw [if_neg (by rw [cv]; simp)]
                    simp only [notTold, Prod.mk.injEq] at e1
                    obtain ⟨rfl, rfl, rfl, rfl, rfl⟩ := e1
                    clear HP
                    go_wp2_with (first | ((with_reducible refine gate_callee (f := 34) rfl ?_); refine goesL_ (some 84) rfl rfl Tryz.func34 (by kernel_rfl) rfl #[.string q, .bool false] rfl (by (try simp only [List.map_toArray, List.map_cons, List.map_nil]); first | done | rfl | (simp only [List.length_drop, List.length_take]; rfl)) ?_; (with_reducible refine (fold_calls q false (by omega) _).mono ?_); rintro e w40 ⟨rfl, hb⟩; refine ⟨_, rfl, ?_⟩; have n0_ := Aside0.mk (blk_below (g := ad119.block) (o := .cells cellsP 9 (0, 0)) (by (with_reducible repeat (first | refine blk_drewN ?_ _ | refine blk_drew ?_ | refine blk_alloc ?_ _)); exact BKP.out) hb); have n1_ := Aside0.mk (blk_below (g := gb115) (o := .cells #[.string (⟨#[]⟩ : ByteArray), .string (⟨#[]⟩ : ByteArray), .string (⟨#[]⟩ : ByteArray), .slice none 0 0] 48 (0, 0)) (by (with_reducible repeat (first | refine blk_drewN ?_ _ | refine blk_drew ?_ | refine blk_alloc ?_ _)); exact BK115.out) hb); have n2_ := Aside0.mk (blk_below (g := gb124) (o := .cells #[.string (foldS false p0), .string scr, .string reg, u] 48 (0, 0)) (by (with_reducible repeat (first | refine blk_drewN ?_ _ | refine blk_drew ?_ | refine blk_alloc ?_ _)); exact BK124.out) hb); have n3_ := Aside0.mk (below_step (by repeat (first | (with_reducible first | exact HB.out | apply below_alloc | apply pw_below_drewN | apply below_drew1 | refine below_set ?_ GE115.out | refine below_set ?_ GE124.out) | exact HB.out)) hb); have n4_ := Aside0.mk (Kd.R_below (by (with_reducible repeat (first | apply Kd.R_alloc | apply Kd.R_drewN | apply Kd.R_drew)); exact HO.out) hb); clear BKP BK115 BK124 HB HO hb; have BKP := n0_; have BK115 := n1_; have BK124 := n2_; have HB := n3_; have HO := n4_; clear n0_ n1_ n2_ n3_ n4_) | ((with_reducible refine gate_callee (f := 37) rfl ?_); refine goesL_ (some 86) rfl rfl Tryz.func37 (by kernel_rfl) rfl #[.string q] rfl (by (try simp only [List.map_toArray, List.map_cons, List.map_nil]); first | done | rfl | (simp only [List.length_drop, List.length_take]; rfl)) ?_; (with_reducible refine (variant_calls q (by omega) _).mono ?_); rintro e w' ⟨rfl, ⟨nd, rfl⟩⟩; refine ⟨_, rfl, ?_⟩; rw [cv]; (try (rw [drewN_self w40]; generalize hq_ : World.drewN w40 _ = w40; have n0_ : Aside0 (w40.heap[ad119.block]? = some (.cells cellsP 9 (0, 0))) := ⟨by rw [← hq_]; exact (by (with_reducible repeat (first | refine blk_drewN ?_ _ | refine blk_drew ?_ | refine blk_alloc ?_ _)); exact BKP.out)⟩; have n1_ : Aside0 (w40.heap[gb115]? = some (.cells #[.string (⟨#[]⟩ : ByteArray), .string (⟨#[]⟩ : ByteArray), .string (⟨#[]⟩ : ByteArray), .slice none 0 0] 48 (0, 0))) := ⟨by rw [← hq_]; exact (by (with_reducible repeat (first | refine blk_drewN ?_ _ | refine blk_drew ?_ | refine blk_alloc ?_ _)); exact BK115.out)⟩; have n2_ : Aside0 (w40.heap[gb124]? = some (.cells #[.string (foldS false p0), .string scr, .string reg, u] 48 (0, 0))) := ⟨by rw [← hq_]; exact (by (with_reducible repeat (first | refine blk_drewN ?_ _ | refine blk_drew ?_ | refine blk_alloc ?_ _)); exact BK124.out)⟩; have n3_ : Aside0 (Below w.heap.size w w40) := ⟨by rw [← hq_]; exact (by repeat (first | (with_reducible first | exact HB.out | apply below_alloc | apply pw_below_drewN | apply below_drew1 | refine below_set ?_ GE115.out | refine below_set ?_ GE124.out) | exact HB.out))⟩; have n4_ : Aside0 (Kd.R Kd.string 9 w40 w.heap.size (fun k => k ≠ ad119.block) (u) acc) := ⟨by rw [← hq_]; exact (by (with_reducible repeat (first | apply Kd.R_alloc | apply Kd.R_drewN | apply Kd.R_drew)); exact HO.out)⟩; clear BKP BK115 BK124 HB HO hq_; have BKP := n0_; have BK115 := n1_; have BK124 := n2_; have HB := n3_; have HO := n4_; clear n0_ n1_ n2_ n3_ n4_)); have hcz59_0 : w40.cell? ⟨gb115, 0, none⟩ = some (.string (⟨#[]⟩ : ByteArray)) := (blk_cell BK115.out 0).trans rfl; have hfz59_0 := blk_frozen BK115.out 0; have hcz59_1 : w40.cell? ⟨gb115, 1, none⟩ = some (.string (⟨#[]⟩ : ByteArray)) := (blk_cell BK115.out 1).trans rfl; have hfz59_1 := blk_frozen BK115.out 1; have hcz59_2 : w40.cell? ⟨gb115, 2, none⟩ = some (.string (⟨#[]⟩ : ByteArray)) := (blk_cell BK115.out 2).trans rfl; have hfz59_2 := blk_frozen BK115.out 2; have hcz59_3 : w40.cell? ⟨gb115, 3, none⟩ = some (.slice none 0 0) := (blk_cell BK115.out 3).trans rfl; have hfz59_3 := blk_frozen BK115.out 3))
                    refine bodyPost_ret (results_ct rfl _ _ gb115 48 #[.string (⟨#[]⟩ : ByteArray), .string (⟨#[]⟩ : ByteArray), .string (⟨#[]⟩ : ByteArray), .slice none 0 0] (0, 0) _ rfl (by (with_reducible repeat (first | refine blk_drewN ?_ _ | refine blk_drew ?_ | refine blk_alloc ?_ _)); refine blk_put (cs := #[.string (⟨#[]⟩ : ByteArray), .string (⟨#[]⟩ : ByteArray), .string (⟨#[]⟩ : ByteArray), .slice none 0 0]) ?_ 3 _ rfl; (with_reducible repeat (first | refine blk_drewN ?_ _ | refine blk_drew ?_ | refine blk_alloc ?_ _)); refine blk_put (cs := #[.string (⟨#[]⟩ : ByteArray), .string (⟨#[]⟩ : ByteArray), .string (⟨#[]⟩ : ByteArray), .slice none 0 0]) ?_ 2 _ rfl; (with_reducible repeat (first | refine blk_drewN ?_ _ | refine blk_drew ?_ | refine blk_alloc ?_ _)); refine blk_put (cs := #[.string (⟨#[]⟩ : ByteArray), .string (⟨#[]⟩ : ByteArray), .string (⟨#[]⟩ : ByteArray), .slice none 0 0]) ?_ 1 _ rfl; (with_reducible repeat (first | refine blk_drewN ?_ _ | refine blk_drew ?_ | refine blk_alloc ?_ _)); refine blk_put (cs := #[.string (⟨#[]⟩ : ByteArray), .string (⟨#[]⟩ : ByteArray), .string (⟨#[]⟩ : ByteArray), .slice none 0 0]) ?_ 0 _ rfl; (with_reducible repeat (first | refine blk_drewN ?_ _ | refine blk_drew ?_ | refine blk_alloc ?_ _)); exact BK115.out) Tryz.underlying48 rfl (by kernel_rfl)) rfl ?_
                    exact ⟨_, by first | rfl | (simp [errW_none, errW_some] <;> rfl) | (simp [*, errW_none, errW_some] <;> rfl), Kd.R_nil _ _ _ _ _, (by repeat (first | (with_reducible first | exact HB.out | apply below_alloc | apply pw_below_drewN | apply below_drew1 | refine below_set ?_ GE115.out | refine below_set ?_ GE124.out) | exact HB.out)), by simp⟩
                · have d1 : decide ((i : Int) < (last.length : Int)) = false := decide_eq_false hi
                  have hin : i = last.length := by have := HI.out; omega
                  obtain ⟨Ao, co, eo⟩ := Kd.R_slice HO.out
                  subst eo
                  have e1 : ((foldS false p0), scr, reg, acc, true) = (r1, r2, r3, r4, r5) := by rw [← HP.out, hin, List.drop_length]; rfl
                  simp only [Prod.mk.injEq] at e1
                  obtain ⟨rfl, rfl, rfl, rfl, rfl⟩ := e1
                  clear HP
                  have hcz71_0 : wr.cell? ⟨gb124, 0, none⟩ = some (.string (foldS false p0)) := (blk_cell BK124.out 0).trans rfl
                  have hfz71_0 := blk_frozen BK124.out 0
                  have hcz71_1 : wr.cell? ⟨gb124, 1, none⟩ = some (.string scr) := (blk_cell BK124.out 1).trans rfl
                  have hfz71_1 := blk_frozen BK124.out 1
                  have hcz71_2 : wr.cell? ⟨gb124, 2, none⟩ = some (.string reg) := (blk_cell BK124.out 2).trans rfl
                  have hfz71_2 := blk_frozen BK124.out 2
                  have hcz71_3 : wr.cell? ⟨gb124, 3, none⟩ = some (.slice Ao acc.length co) := (blk_cell BK124.out 3).trans rfl
                  have hfz71_3 := blk_frozen BK124.out 3
                  have hcz72_0 : wr.cell? ⟨gb115, 0, none⟩ = some (.string (⟨#[]⟩ : ByteArray)) := (blk_cell BK115.out 0).trans rfl
                  have hfz72_0 := blk_frozen BK115.out 0
                  have hcz72_1 : wr.cell? ⟨gb115, 1, none⟩ = some (.string (⟨#[]⟩ : ByteArray)) := (blk_cell BK115.out 1).trans rfl
                  have hfz72_1 := blk_frozen BK115.out 1
                  have hcz72_2 : wr.cell? ⟨gb115, 2, none⟩ = some (.string (⟨#[]⟩ : ByteArray)) := (blk_cell BK115.out 2).trans rfl
                  have hfz72_2 := blk_frozen BK115.out 2
                  have hcz72_3 : wr.cell? ⟨gb115, 3, none⟩ = some (.slice none 0 0) := (blk_cell BK115.out 3).trans rfl
                  have hfz72_3 := blk_frozen BK115.out 3
                  go_wp2
                  refine bodyPost_ret (results_ct rfl _ _ gb115 48 #[.string (foldS false p0), .string scr, .string reg, .slice Ao acc.length co] (0, 0) _ rfl (by refine blk_put (cs := #[.string (foldS false p0), .string scr, .string reg, .slice none 0 0]) ?_ 3 _ rfl; (with_reducible repeat (first | refine blk_drewN ?_ _ | refine blk_drew ?_ | refine blk_alloc ?_ _)); refine blk_put (cs := #[.string (foldS false p0), .string scr, .string (⟨#[]⟩ : ByteArray), .slice none 0 0]) ?_ 2 _ rfl; (with_reducible repeat (first | refine blk_drewN ?_ _ | refine blk_drew ?_ | refine blk_alloc ?_ _)); refine blk_put (cs := #[.string (foldS false p0), .string (⟨#[]⟩ : ByteArray), .string (⟨#[]⟩ : ByteArray), .slice none 0 0]) ?_ 1 _ rfl; (with_reducible repeat (first | refine blk_drewN ?_ _ | refine blk_drew ?_ | refine blk_alloc ?_ _)); refine blk_put (cs := #[.string (⟨#[]⟩ : ByteArray), .string (⟨#[]⟩ : ByteArray), .string (⟨#[]⟩ : ByteArray), .slice none 0 0]) ?_ 0 _ rfl; (with_reducible repeat (first | refine blk_drewN ?_ _ | refine blk_drew ?_ | refine blk_alloc ?_ _)); exact BK115.out) Tryz.underlying48 rfl (by kernel_rfl)) rfl ?_
                  exact ⟨_, by first | rfl | (simp [errW_none, errW_some] <;> rfl) | (simp [*, errW_none, errW_some] <;> rfl), Kd.R_mono (Kd.R_far (p := ⟨gb115, 3, none⟩) (Kd.R_far (p := ⟨gb115, 2, none⟩) (Kd.R_far (p := ⟨gb115, 1, none⟩) (Kd.R_far (p := ⟨gb115, 0, none⟩) (Kd.R_types HO.out BK115.out (by decide)) (fun _ hk => hk.2) _) (fun _ hk => hk.2) _) (fun _ hk => hk.2) _) (fun _ hk => hk.2) _) (fun _ _ => trivial), (by repeat (first | (with_reducible first | exact HB.out | apply below_alloc | apply pw_below_drewN | apply below_drew1 | refine below_set ?_ GE115.out | refine below_set ?_ GE124.out) | exact HB.out)), fun e => HN.out e⟩
end Go.Proofs.YtkmbkejmfffafaaGreatDoorHand
end
section
namespace Go.Proofs.YtkmbkejmfffafaaGreatDoor.PFit
open Go.RowKit Go.Proofs.YtkmbkejmfffafaaGreatDoorHand Go.Proofs.YtkmbkejmfffafaaGreatDoorW.PrintWords Go.Proofs.YtkmbkejmfffafaaGreatDoorW.PrintLast Go.Proofs.YtkmbkejmfffafaaGreatDoorW.PrintMore
attribute [local go_sem] max2_int min2_int max_two min_two max_three min_three max_four min_four   -- for this text's walks alone
set_option linter.unusedVariables false
set_option linter.unusedSimpArgs false
def errW : Option Int → Value
  | none => .nilIface
  | some c => .iface 0 (.int .i64 c)
theorem errW_none : errW none = .nilIface := rfl
theorem errW_some (c : Int) : errW (some c) = .iface 0 (.int .i64 c) := rfl
theorem info9 : (Tryz.prog.info? 9).map (fun i => (i.zero, i.size, i.bytes)) = some (some (.string ⟨#[]⟩), 1, 16) := by kernel_rfl
end Go.Proofs.YtkmbkejmfffafaaGreatDoor.PFit
end
section
namespace Go.Proofs.YtkmbkejmfffafaaGreatDoor.PFit
open Go.RowKit Go.Proofs.YtkmbkejmfffafaaGreatDoorHand Go.Proofs.YtkmbkejmfffafaaGreatDoorW.PrintWords Go.Proofs.YtkmbkejmfffafaaGreatDoorW.PrintLast Go.Proofs.YtkmbkejmfffafaaGreatDoorW.PrintMore
attribute [local go_sem] max2_int min2_int max_two min_two max_three min_three max_four min_four   -- for this text's walks alone
set_option linter.unusedVariables false
set_option linter.unusedSimpArgs false
def tag_Tag_parts.f (a0_0 : ByteArray) (a0_1 : ByteArray) (a0_2 : ByteArray) (l0_3 : List ByteArray) : Option (List ByteArray) := (some (([a0_0] : List ByteArray) : List ByteArray)).bind fun y102 => (if a0_1.toList = ([] : List UInt8) then (if a0_2.toList = ([] : List UInt8) then (if y102.length + l0_3.length < 8796093022208 then (some (y102 ++ l0_3)) else (none)) else (if y102.length < 8796093022208 then ((some (y102 ++ [a0_2] : List ByteArray)).bind fun y108 => (if y108.length + l0_3.length < 8796093022208 then (some (y108 ++ l0_3)) else (none))) else (none))) else (if y102.length < 8796093022208 then ((some (y102 ++ [a0_1] : List ByteArray)).bind fun y114 => (if a0_2.toList = ([] : List UInt8) then (if y114.length + l0_3.length < 8796093022208 then (some (y114 ++ l0_3)) else (none)) else (if y114.length < 8796093022208 then ((some (y114 ++ [a0_2] : List ByteArray)).bind fun y120 => (if y120.length + l0_3.length < 8796093022208 then (some (y120 ++ l0_3)) else (none))) else (none)))) else (none)))
set_option maxHeartbeats 8000000 in
set_option maxRecDepth 100000 in
theorem tag_Tag_parts.calls (a0_0 : ByteArray) (a0_1 : ByteArray) (a0_2 : ByteArray) (A0_3 : Option Addr) (c0_3 : Nat) (l0_3 : List ByteArray) (r : List ByteArray) (w : World) (hr0_3 : Kd.C Kd.string w A0_3 l0_3.length l0_3) (hc0_3 : l0_3.length ≤ c0_3) (h : tag_Tag_parts.f a0_0 a0_1 a0_2 l0_3 = some r) :
    Calls Tryz.prog 40 #[.agg #[.string a0_0, .string a0_1, .string a0_2, .slice A0_3 l0_3.length c0_3]] w fun e w' => ∃ v0_ : Value, e = .returned (v0_) ∧ Kd.R Kd.string 9 w' w.heap.size (fun _ => True) v0_ r ∧ Below w.heap.size w w' := by
  have hu25 := Tryz.underlying48
  have HR0_3 := Aside0.mk hr0_3
  have HC0_3 := Aside0.mk hc0_3
  clear hr0_3 hc0_3
  have HB := Aside0.mk (Below.refl w.heap.size w)
  have H : ((some (([a0_0] : List ByteArray) : List ByteArray)).bind fun y102 => (if a0_1.toList = ([] : List UInt8) then (if a0_2.toList = ([] : List UInt8) then (if y102.length + l0_3.length < 8796093022208 then (some (y102 ++ l0_3)) else (none)) else (if y102.length < 8796093022208 then ((some (y102 ++ [a0_2] : List ByteArray)).bind fun y108 => (if y108.length + l0_3.length < 8796093022208 then (some (y108 ++ l0_3)) else (none))) else (none))) else (if y102.length < 8796093022208 then ((some (y102 ++ [a0_1] : List ByteArray)).bind fun y114 => (if a0_2.toList = ([] : List UInt8) then (if y114.length + l0_3.length < 8796093022208 then (some (y114 ++ l0_3)) else (none)) else (if y114.length < 8796093022208 then ((some (y114 ++ [a0_2] : List ByteArray)).bind fun y120 => (if y120.length + l0_3.length < 8796093022208 then (some (y120 ++ l0_3)) else (none))) else (none)))) else (none)))) = some r := h
  clear h
  obtain ⟨y102, hy102⟩ : ∃ y_ : List ByteArray, y_ = (([a0_0] : List ByteArray)) := ⟨_, rfl⟩
  replace H : (if a0_1.toList = ([] : List UInt8) then (if a0_2.toList = ([] : List UInt8) then (if y102.length + l0_3.length < 8796093022208 then (some (y102 ++ l0_3)) else (none)) else (if y102.length < 8796093022208 then ((some (y102 ++ [a0_2] : List ByteArray)).bind fun y108 => (if y108.length + l0_3.length < 8796093022208 then (some (y108 ++ l0_3)) else (none))) else (none))) else (if y102.length < 8796093022208 then ((some (y102 ++ [a0_1] : List ByteArray)).bind fun y114 => (if a0_2.toList = ([] : List UInt8) then (if y114.length + l0_3.length < 8796093022208 then (some (y114 ++ l0_3)) else (none)) else (if y114.length < 8796093022208 then ((some (y114 ++ [a0_2] : List ByteArray)).bind fun y120 => (if y120.length + l0_3.length < 8796093022208 then (some (y120 ++ l0_3)) else (none))) else (none)))) else (none))) = some r := by first | (rw [hy102]; with_reducible exact H) | (have H2_ := (Option.bind_some _ _).symm.trans H; rw [hy102]; with_reducible exact H2_) | (have H2_ := (Option.bind_some _ _).symm.trans H; with_reducible exact H2_) | with_reducible exact H | (rw [hy102]; exact H) | exact H
  have Ny102 := Aside0.mk hy102
  clear hy102
  by_cases c2 : a0_1.toList = ([] : List UInt8)
  · rw [if_pos c2] at H
    have c2b0 : (a0_1.toList == ([] : List UInt8)) = true := beq_iff_eq.mpr c2
    have c2b1 : (a0_1.toList != ([] : List UInt8)) = false := bne_eq_false_iff_eq.mpr c2
    clear c2
    by_cases c3 : a0_2.toList = ([] : List UInt8)
    · rw [if_pos c3] at H
      have c3b0 : (a0_2.toList == ([] : List UInt8)) = true := beq_iff_eq.mpr c3
      have c3b1 : (a0_2.toList != ([] : List UInt8)) = false := bne_eq_false_iff_eq.mpr c3
      clear c3
      by_cases c4 : y102.length + l0_3.length < 8796093022208
      · rw [if_pos c4] at H
        have LMc4 := Aside0.mk c4
        clear c4
        obtain ⟨y105, hy105⟩ : ∃ y_ : List ByteArray, y_ = (y102 ++ l0_3) := ⟨_, rfl⟩
        replace H : (some y105) = some r := by first | (rw [hy105]; with_reducible exact H) | (have H2_ := (Option.bind_some _ _).symm.trans H; rw [hy105]; with_reducible exact H2_) | (have H2_ := (Option.bind_some _ _).symm.trans H; with_reducible exact H2_) | with_reducible exact H | (rw [hy105]; exact H) | exact H
        have Ny105 := Aside0.mk hy105
        clear hy105
        obtain rfl := Option.some.inj H
        go_enter Tryz.func40, Tryz.ntmps40
        go_wp2_with (first | ((with_reducible refine gate_dst (N := 1) rfl ?_); refine box_event ?hg (N := 1) ?hd (cs := #[.string a0_0, .string a0_1, .string a0_2, .slice A0_3 l0_3.length c0_3]) (t := 48) ?hr ?_; (case hd => rfl); (case hg => rfl); (case hr => first | (go_simp; done) | (go_simp; rfl)); intro gb101 hg w5 hbox hb; have n0_ := Aside0.mk (below_step (by repeat (first | (with_reducible first | exact HB.out | apply below_alloc | apply pw_below_drewN | apply below_drew1) | exact HB.out)) hb); have n1_ := Aside0.mk (hbox); have n2_ := Aside0.mk ((by rw [hg]; exact (below_size (by repeat (first | (with_reducible first | exact HB.out | apply below_alloc | apply pw_below_drewN | apply below_drew1) | exact HB.out))) : w.heap.size ≤ gb101)); have n3_ := Aside0.mk ((by rw [hg]; exact (below_size (by repeat (first | (with_reducible first | exact HB.out | apply below_alloc | apply pw_below_drewN | apply below_drew1) | exact HB.out))) : w.heap.size ≤ gb101)); clear HB; have HB := n0_; have BK101 := n1_; have GW101 := n2_; have GE101 := n3_; clear n0_ n1_ n2_ n3_; clear hb hbox hg; have hcz6_0 : w5.cell? ⟨gb101, 0, none⟩ = some (.string a0_0) := (blk_cell BK101.out 0).trans rfl; have hcz6_1 : w5.cell? ⟨gb101, 1, none⟩ = some (.string a0_1) := (blk_cell BK101.out 1).trans rfl; have hcz6_2 : w5.cell? ⟨gb101, 2, none⟩ = some (.string a0_2) := (blk_cell BK101.out 2).trans rfl; have hcz6_3 : w5.cell? ⟨gb101, 3, none⟩ = some (.slice A0_3 l0_3.length c0_3) := (blk_cell BK101.out 3).trans rfl; have hfz6_0 := blk_frozen BK101.out 0; have hfz6_1 := blk_frozen BK101.out 1; have hfz6_2 := blk_frozen BK101.out 2; have hfz6_3 := blk_frozen BK101.out 3) | ((with_reducible refine gate_dst (N := 6) rfl ?_); refine Kd.R_lit Kd.string _ 9 ?hg (N := 6) ?hd (xs := ([a0_0] : List ByteArray)) (inner := [.string a0_0]) (ok := fun _ => True) (okp := fun _ => True) ?hr ?hp (fun _ hk => hk) trivial (Below.refl _ _) (Nat.le_refl _) (by simp) ?_; (case hd => rfl); (case hg => rfl); (case hr => first | (go_simp; done) | (go_simp; rfl)); (case hp => exact (Reps.one (show Kd.M Kd.string _ _ _ a0_0 [.string a0_0] from rfl) (Reps.none _ _))); intro v103 w7 ho8 hb hg_ hnew_; clear hg_ hnew_; (first | rw [← Ny102.out] at ho8 | (simp only [Int.reduceToNat] at ho8; rw [← Ny102.out] at ho8)); have n0_ := Aside0.mk (Kd.R_lower ho8 (below_size (by repeat (first | (with_reducible first | exact HB.out | apply below_alloc | apply pw_below_drewN | apply below_drew1 | refine below_set ?_ GE101.out) | exact HB.out)))); have n1_ := Aside0.mk (blk_below (g := gb101) (o := .cells #[.string a0_0, .string a0_1, .string a0_2, .slice A0_3 l0_3.length c0_3] 48 (0, 0)) (by (with_reducible repeat (first | refine blk_drewN ?_ _ | refine blk_drew ?_ | refine blk_alloc ?_ _)); exact BK101.out) hb); have n2_ := Aside0.mk (below_step (by repeat (first | (with_reducible first | exact HB.out | apply below_alloc | apply pw_below_drewN | apply below_drew1 | refine below_set ?_ GE101.out) | exact HB.out)) hb); clear BK101; clear HB; have HO104 := n0_; have BK101 := n1_; have HB := n2_; clear n0_ n1_ n2_; clear hb ho8; have hcz9_0 : w7.cell? ⟨gb101, 0, none⟩ = some (.string a0_0) := (blk_cell BK101.out 0).trans rfl; have hcz9_1 : w7.cell? ⟨gb101, 1, none⟩ = some (.string a0_1) := (blk_cell BK101.out 1).trans rfl; have hcz9_2 : w7.cell? ⟨gb101, 2, none⟩ = some (.string a0_2) := (blk_cell BK101.out 2).trans rfl; have hcz9_3 : w7.cell? ⟨gb101, 3, none⟩ = some (.slice A0_3 l0_3.length c0_3) := (blk_cell BK101.out 3).trans rfl; have hfz9_0 := blk_frozen BK101.out 0; have hfz9_1 := blk_frozen BK101.out 1; have hfz9_2 := blk_frozen BK101.out 2; have hfz9_3 := blk_frozen BK101.out 3) | ((with_reducible refine gate_builtin (b := .append) (xs := #[.tmp 23, .tmp 25]) rfl ?_); at_builtin; refine Kd.R_append_rows Kd.string (w0 := w) w.heap.size rfl (.tmp 23) (.tmp 25) 23 9 (.string ⟨#[]⟩) 16 rfl Tryz.underlying23 info9 rfl (by decide) (by omega) v103 y102 l0_3 _ _ _ (fun _ => True) (fun _ => False) rfl rfl ?aO ?aR (fun _ _ h => h) (fun _ h => h.elim) ?aF ?aB ?aS ?aL ?_; (case aR => repeat (first | exact (Kd.C_below HR0_3.out HB.out) | (with_reducible refine Kd.C_alloc ?_ _) | (with_reducible refine Kd.C_drewN ?_ _) | (with_reducible refine Kd.C_drew ?_))); (case aB => exact (by repeat (first | (with_reducible first | exact HB.out | apply below_alloc | apply pw_below_drewN | apply below_drew1 | refine below_set ?_ GE101.out) | exact HB.out))); (case aF => exact (fun _ _ => trivial)); (case aO => exact (by (with_reducible repeat (first | apply Kd.R_alloc | apply Kd.R_drewN | apply Kd.R_drew)); exact HO104.out)); (case aS => exact (below_size (by repeat (first | (with_reducible first | exact HB.out | apply below_alloc | apply pw_below_drewN | apply below_drew1 | refine below_set ?_ GE101.out) | exact HB.out)))); (case aL => have := LMc4.out; omega); intro v106 w10 ho hb hg hat; rw [← Ny105.out] at ho; have n0_ := Aside0.mk (blk_grown (g := gb101) (o := .cells #[.string a0_0, .string a0_1, .string a0_2, .slice A0_3 l0_3.length c0_3] 48 (0, 0)) (by (with_reducible repeat (first | refine blk_drewN ?_ _ | refine blk_drew ?_ | refine blk_alloc ?_ _)); exact BK101.out) hg (Kd.R_ne HO104.out BK101.out (by decide))); have n1_ := Aside0.mk (hb); have n2_ := Aside0.mk (ho); clear BK101; clear HB; clear HO104; have BK101 := n0_; have HB := n1_; have HO107 := n2_; clear n0_ n1_ n2_; clear ho hb hg hat))
        go_ret
        exact ⟨_, by first | rfl | (simp [errW_none, errW_some] <;> rfl) | (simp [*, errW_none, errW_some] <;> rfl), by (with_reducible repeat (first | apply Kd.R_alloc | apply Kd.R_drewN | apply Kd.R_drew)); exact HO107.out, by repeat (first | (with_reducible first | exact HB.out | apply below_alloc | apply pw_below_drewN | apply below_drew1 | refine below_set ?_ GE101.out) | exact HB.out)⟩
      · rw [if_neg c4] at H
        exact absurd H (by simp)
    · rw [if_neg c3] at H
      have c3b0 : (a0_2.toList == ([] : List UInt8)) = false := beq_eq_false_iff_ne.mpr c3
      have c3b1 : (a0_2.toList != ([] : List UInt8)) = true := bne_iff_ne.mpr c3
      by_cases c11 : y102.length < 8796093022208
      · rw [if_pos c11] at H
        have LMc11 := Aside0.mk c11
        clear c11
        obtain ⟨y108, hy108⟩ : ∃ y_ : List ByteArray, y_ = (y102 ++ [a0_2]) := ⟨_, rfl⟩
        replace H : (if y108.length + l0_3.length < 8796093022208 then (some (y108 ++ l0_3)) else (none)) = some r := by first | (rw [hy108]; with_reducible exact H) | (have H2_ := (Option.bind_some _ _).symm.trans H; rw [hy108]; with_reducible exact H2_) | (have H2_ := (Option.bind_some _ _).symm.trans H; with_reducible exact H2_) | with_reducible exact H | (rw [hy108]; exact H) | exact H
        have Ny108 := Aside0.mk hy108
        clear hy108
        by_cases c12 : y108.length + l0_3.length < 8796093022208
        · rw [if_pos c12] at H
          have LMc12 := Aside0.mk c12
          clear c12
          obtain ⟨y111, hy111⟩ : ∃ y_ : List ByteArray, y_ = (y108 ++ l0_3) := ⟨_, rfl⟩
          replace H : (some y111) = some r := by first | (rw [hy111]; with_reducible exact H) | (have H2_ := (Option.bind_some _ _).symm.trans H; rw [hy111]; with_reducible exact H2_) | (have H2_ := (Option.bind_some _ _).symm.trans H; with_reducible exact H2_) | with_reducible exact H | (rw [hy111]; exact H) | exact H
          have Ny111 := Aside0.mk hy111
          clear hy111
          obtain rfl := Option.some.inj H
          go_enter Tryz.func40, Tryz.ntmps40
          go_wp2_with (first | ((with_reducible refine gate_dst (N := 1) rfl ?_); refine box_event ?hg (N := 1) ?hd (cs := #[.string a0_0, .string a0_1, .string a0_2, .slice A0_3 l0_3.length c0_3]) (t := 48) ?hr ?_; (case hd => rfl); (case hg => rfl); (case hr => first | (go_simp; done) | (go_simp; rfl)); intro gb101 hg w13 hbox hb; have n0_ := Aside0.mk (below_step (by repeat (first | (with_reducible first | exact HB.out | apply below_alloc | apply pw_below_drewN | apply below_drew1) | exact HB.out)) hb); have n1_ := Aside0.mk (hbox); have n2_ := Aside0.mk ((by rw [hg]; exact (below_size (by repeat (first | (with_reducible first | exact HB.out | apply below_alloc | apply pw_below_drewN | apply below_drew1) | exact HB.out))) : w.heap.size ≤ gb101)); have n3_ := Aside0.mk ((by rw [hg]; exact (below_size (by repeat (first | (with_reducible first | exact HB.out | apply below_alloc | apply pw_below_drewN | apply below_drew1) | exact HB.out))) : w.heap.size ≤ gb101)); clear HB; have HB := n0_; have BK101 := n1_; have GW101 := n2_; have GE101 := n3_; clear n0_ n1_ n2_ n3_; clear hb hbox hg; have hcz14_0 : w13.cell? ⟨gb101, 0, none⟩ = some (.string a0_0) := (blk_cell BK101.out 0).trans rfl; have hcz14_1 : w13.cell? ⟨gb101, 1, none⟩ = some (.string a0_1) := (blk_cell BK101.out 1).trans rfl; have hcz14_2 : w13.cell? ⟨gb101, 2, none⟩ = some (.string a0_2) := (blk_cell BK101.out 2).trans rfl; have hcz14_3 : w13.cell? ⟨gb101, 3, none⟩ = some (.slice A0_3 l0_3.length c0_3) := (blk_cell BK101.out 3).trans rfl; have hfz14_0 := blk_frozen BK101.out 0; have hfz14_1 := blk_frozen BK101.out 1; have hfz14_2 := blk_frozen BK101.out 2; have hfz14_3 := blk_frozen BK101.out 3) | ((with_reducible refine gate_dst (N := 6) rfl ?_); refine Kd.R_lit Kd.string _ 9 ?hg (N := 6) ?hd (xs := ([a0_0] : List ByteArray)) (inner := [.string a0_0]) (ok := fun _ => True) (okp := fun _ => True) ?hr ?hp (fun _ hk => hk) trivial (Below.refl _ _) (Nat.le_refl _) (by simp) ?_; (case hd => rfl); (case hg => rfl); (case hr => first | (go_simp; done) | (go_simp; rfl)); (case hp => exact (Reps.one (show Kd.M Kd.string _ _ _ a0_0 [.string a0_0] from rfl) (Reps.none _ _))); intro v103 w15 ho16 hb hg_ hnew_; clear hg_ hnew_; (first | rw [← Ny102.out] at ho16 | (simp only [Int.reduceToNat] at ho16; rw [← Ny102.out] at ho16)); have n0_ := Aside0.mk (Kd.R_lower ho16 (below_size (by repeat (first | (with_reducible first | exact HB.out | apply below_alloc | apply pw_below_drewN | apply below_drew1 | refine below_set ?_ GE101.out) | exact HB.out)))); have n1_ := Aside0.mk (blk_below (g := gb101) (o := .cells #[.string a0_0, .string a0_1, .string a0_2, .slice A0_3 l0_3.length c0_3] 48 (0, 0)) (by (with_reducible repeat (first | refine blk_drewN ?_ _ | refine blk_drew ?_ | refine blk_alloc ?_ _)); exact BK101.out) hb); have n2_ := Aside0.mk (below_step (by repeat (first | (with_reducible first | exact HB.out | apply below_alloc | apply pw_below_drewN | apply below_drew1 | refine below_set ?_ GE101.out) | exact HB.out)) hb); clear BK101; clear HB; have HO104 := n0_; have BK101 := n1_; have HB := n2_; clear n0_ n1_ n2_; clear hb ho16; have hcz17_0 : w15.cell? ⟨gb101, 0, none⟩ = some (.string a0_0) := (blk_cell BK101.out 0).trans rfl; have hcz17_1 : w15.cell? ⟨gb101, 1, none⟩ = some (.string a0_1) := (blk_cell BK101.out 1).trans rfl; have hcz17_2 : w15.cell? ⟨gb101, 2, none⟩ = some (.string a0_2) := (blk_cell BK101.out 2).trans rfl; have hcz17_3 : w15.cell? ⟨gb101, 3, none⟩ = some (.slice A0_3 l0_3.length c0_3) := (blk_cell BK101.out 3).trans rfl; have hfz17_0 := blk_frozen BK101.out 0; have hfz17_1 := blk_frozen BK101.out 1; have hfz17_2 := blk_frozen BK101.out 2; have hfz17_3 := blk_frozen BK101.out 3) | ((with_reducible refine gate_builtin (b := .append) (xs := #[.tmp 18, .tmp 21]) rfl ?_); at_builtin; refine Kd.R_append Kd.string (w0 := w) w.heap.size rfl (.tmp 18) (.tmp 21) 23 9 (.string ⟨#[]⟩) 16 rfl Tryz.underlying23 info9 rfl (by decide) (by omega) v103 y102 a0_2 [.string a0_2] (fun _ => True) (fun _ => False) rfl rfl ?aP (fun _ hk => hk.elim) ?aF ?aO ?aB ?aS ?aL ?_; (case aP => exact rfl); (case aB => exact (by repeat (first | (with_reducible first | exact HB.out | apply below_alloc | apply pw_below_drewN | apply below_drew1 | refine below_set ?_ GE101.out) | exact HB.out))); (case aF => exact (fun _ _ => trivial)); (case aO => exact (by (with_reducible repeat (first | apply Kd.R_alloc | apply Kd.R_drewN | apply Kd.R_drew)); exact HO104.out)); (case aS => exact (below_size (by repeat (first | (with_reducible first | exact HB.out | apply below_alloc | apply pw_below_drewN | apply below_drew1 | refine below_set ?_ GE101.out) | exact HB.out)))); (case aL => have := LMc11.out; omega); intro v109 w18 ho hb hg hat; rw [← Ny108.out] at ho; have n0_ := Aside0.mk (blk_grown (g := gb101) (o := .cells #[.string a0_0, .string a0_1, .string a0_2, .slice A0_3 l0_3.length c0_3] 48 (0, 0)) (by (with_reducible repeat (first | refine blk_drewN ?_ _ | refine blk_drew ?_ | refine blk_alloc ?_ _)); exact BK101.out) hg (Kd.R_ne HO104.out BK101.out (by decide))); have n1_ := Aside0.mk (hb); have n2_ := Aside0.mk (ho); clear BK101; clear HB; clear HO104; have BK101 := n0_; have HB := n1_; have HO110 := n2_; clear n0_ n1_ n2_; clear ho hb hg hat; have hcz19_0 : w18.cell? ⟨gb101, 0, none⟩ = some (.string a0_0) := (blk_cell BK101.out 0).trans rfl; have hcz19_1 : w18.cell? ⟨gb101, 1, none⟩ = some (.string a0_1) := (blk_cell BK101.out 1).trans rfl; have hcz19_2 : w18.cell? ⟨gb101, 2, none⟩ = some (.string a0_2) := (blk_cell BK101.out 2).trans rfl; have hcz19_3 : w18.cell? ⟨gb101, 3, none⟩ = some (.slice A0_3 l0_3.length c0_3) := (blk_cell BK101.out 3).trans rfl; have hfz19_0 := blk_frozen BK101.out 0; have hfz19_1 := blk_frozen BK101.out 1; have hfz19_2 := blk_frozen BK101.out 2; have hfz19_3 := blk_frozen BK101.out 3) | ((with_reducible refine gate_builtin (b := .append) (xs := #[.tmp 23, .tmp 25]) rfl ?_); at_builtin; refine Kd.R_append_rows Kd.string (w0 := w) w.heap.size rfl (.tmp 23) (.tmp 25) 23 9 (.string ⟨#[]⟩) 16 rfl Tryz.underlying23 info9 rfl (by decide) (by omega) v109 y108 l0_3 _ _ _ (fun _ => True) (fun _ => False) rfl rfl ?aO ?aR (fun _ _ h => h) (fun _ h => h.elim) ?aF ?aB ?aS ?aL ?_; (case aR => repeat (first | exact (Kd.C_below HR0_3.out HB.out) | (with_reducible refine Kd.C_alloc ?_ _) | (with_reducible refine Kd.C_drewN ?_ _) | (with_reducible refine Kd.C_drew ?_))); (case aB => exact (by repeat (first | (with_reducible first | exact HB.out | apply below_alloc | apply pw_below_drewN | apply below_drew1 | refine below_set ?_ GE101.out) | exact HB.out))); (case aF => exact (fun _ _ => trivial)); (case aO => exact (by (with_reducible repeat (first | apply Kd.R_alloc | apply Kd.R_drewN | apply Kd.R_drew)); exact HO110.out)); (case aS => exact (below_size (by repeat (first | (with_reducible first | exact HB.out | apply below_alloc | apply pw_below_drewN | apply below_drew1 | refine below_set ?_ GE101.out) | exact HB.out)))); (case aL => have := LMc12.out; omega); intro v112 w20 ho hb hg hat; rw [← Ny111.out] at ho; have n0_ := Aside0.mk (blk_grown (g := gb101) (o := .cells #[.string a0_0, .string a0_1, .string a0_2, .slice A0_3 l0_3.length c0_3] 48 (0, 0)) (by (with_reducible repeat (first | refine blk_drewN ?_ _ | refine blk_drew ?_ | refine blk_alloc ?_ _)); exact BK101.out) hg (Kd.R_ne HO110.out BK101.out (by decide))); have n1_ := Aside0.mk (hb); have n2_ := Aside0.mk (ho); clear BK101; clear HB; clear HO110; have BK101 := n0_; have HB := n1_; have HO113 := n2_; clear n0_ n1_ n2_; clear ho hb hg hat))
          go_ret
          exact ⟨_, by first | rfl | (simp [errW_none, errW_some] <;> rfl) | (simp [*, errW_none, errW_some] <;> rfl), by (with_reducible repeat (first | apply Kd.R_alloc | apply Kd.R_drewN | apply Kd.R_drew)); exact HO113.out, by repeat (first | (with_reducible first | exact HB.out | apply below_alloc | apply pw_below_drewN | apply below_drew1 | refine below_set ?_ GE101.out) | exact HB.out)⟩
        · rw [if_neg c12] at H
          exact absurd H (by simp)
      · rw [if_neg c11] at H
        exact absurd H (by simp)
  · rw [if_neg c2] at H
    have c2b0 : (a0_1.toList == ([] : List UInt8)) = false := beq_eq_false_iff_ne.mpr c2
    have c2b1 : (a0_1.toList != ([] : List UInt8)) = true := bne_iff_ne.mpr c2
    by_cases c21 : y102.length < 8796093022208
    · rw [if_pos c21] at H
      have LMc21 := Aside0.mk c21
      clear c21
      obtain ⟨y114, hy114⟩ : ∃ y_ : List ByteArray, y_ = (y102 ++ [a0_1]) := ⟨_, rfl⟩
      replace H : (if a0_2.toList = ([] : List UInt8) then (if y114.length + l0_3.length < 8796093022208 then (some (y114 ++ l0_3)) else (none)) else (if y114.length < 8796093022208 then ((some (y114 ++ [a0_2] : List ByteArray)).bind fun y120 => (if y120.length + l0_3.length < 8796093022208 then (some (y120 ++ l0_3)) else (none))) else (none))) = some r := by first | (rw [hy114]; with_reducible exact H) | (have H2_ := (Option.bind_some _ _).symm.trans H; rw [hy114]; with_reducible exact H2_) | (have H2_ := (Option.bind_some _ _).symm.trans H; with_reducible exact H2_) | with_reducible exact H | (rw [hy114]; exact H) | exact H
      have Ny114 := Aside0.mk hy114
      clear hy114
      by_cases c22 : a0_2.toList = ([] : List UInt8)
      · rw [if_pos c22] at H
        have c22b0 : (a0_2.toList == ([] : List UInt8)) = true := beq_iff_eq.mpr c22
        have c22b1 : (a0_2.toList != ([] : List UInt8)) = false := bne_eq_false_iff_eq.mpr c22
        clear c22
        by_cases c23 : y114.length + l0_3.length < 8796093022208
        · rw [if_pos c23] at H
          have LMc23 := Aside0.mk c23
          clear c23
          obtain ⟨y117, hy117⟩ : ∃ y_ : List ByteArray, y_ = (y114 ++ l0_3) := ⟨_, rfl⟩
          replace H : (some y117) = some r := by first | (rw [hy117]; with_reducible exact H) | (have H2_ := (Option.bind_some _ _).symm.trans H; rw [hy117]; with_reducible exact H2_) | (have H2_ := (Option.bind_some _ _).symm.trans H; with_reducible exact H2_) | with_reducible exact H | (rw [hy117]; exact H) | exact H
          have Ny117 := Aside0.mk hy117
          clear hy117
          obtain rfl := Option.some.inj H
          go_enter Tryz.func40, Tryz.ntmps40
          go_wp2_with (first | ((with_reducible refine gate_dst (N := 1) rfl ?_); refine box_event ?hg (N := 1) ?hd (cs := #[.string a0_0, .string a0_1, .string a0_2, .slice A0_3 l0_3.length c0_3]) (t := 48) ?hr ?_; (case hd => rfl); (case hg => rfl); (case hr => first | (go_simp; done) | (go_simp; rfl)); intro gb101 hg w24 hbox hb; have n0_ := Aside0.mk (below_step (by repeat (first | (with_reducible first | exact HB.out | apply below_alloc | apply pw_below_drewN | apply below_drew1) | exact HB.out)) hb); have n1_ := Aside0.mk (hbox); have n2_ := Aside0.mk ((by rw [hg]; exact (below_size (by repeat (first | (with_reducible first | exact HB.out | apply below_alloc | apply pw_below_drewN | apply below_drew1) | exact HB.out))) : w.heap.size ≤ gb101)); have n3_ := Aside0.mk ((by rw [hg]; exact (below_size (by repeat (first | (with_reducible first | exact HB.out | apply below_alloc | apply pw_below_drewN | apply below_drew1) | exact HB.out))) : w.heap.size ≤ gb101)); clear HB; have HB := n0_; have BK101 := n1_; have GW101 := n2_; have GE101 := n3_; clear n0_ n1_ n2_ n3_; clear hb hbox hg; have hcz25_0 : w24.cell? ⟨gb101, 0, none⟩ = some (.string a0_0) := (blk_cell BK101.out 0).trans rfl; have hcz25_1 : w24.cell? ⟨gb101, 1, none⟩ = some (.string a0_1) := (blk_cell BK101.out 1).trans rfl; have hcz25_2 : w24.cell? ⟨gb101, 2, none⟩ = some (.string a0_2) := (blk_cell BK101.out 2).trans rfl; have hcz25_3 : w24.cell? ⟨gb101, 3, none⟩ = some (.slice A0_3 l0_3.length c0_3) := (blk_cell BK101.out 3).trans rfl; have hfz25_0 := blk_frozen BK101.out 0; have hfz25_1 := blk_frozen BK101.out 1; have hfz25_2 := blk_frozen BK101.out 2; have hfz25_3 := blk_frozen BK101.out 3) | ((with_reducible refine gate_dst (N := 6) rfl ?_); refine Kd.R_lit Kd.string _ 9 ?hg (N := 6) ?hd (xs := ([a0_0] : List ByteArray)) (inner := [.string a0_0]) (ok := fun _ => True) (okp := fun _ => True) ?hr ?hp (fun _ hk => hk) trivial (Below.refl _ _) (Nat.le_refl _) (by simp) ?_; (case hd => rfl); (case hg => rfl); (case hr => first | (go_simp; done) | (go_simp; rfl)); (case hp => exact (Reps.one (show Kd.M Kd.string _ _ _ a0_0 [.string a0_0] from rfl) (Reps.none _ _))); intro v103 w26 ho27 hb hg_ hnew_; clear hg_ hnew_; (first | rw [← Ny102.out] at ho27 | (simp only [Int.reduceToNat] at ho27; rw [← Ny102.out] at ho27)); have n0_ := Aside0.mk (Kd.R_lower ho27 (below_size (by repeat (first | (with_reducible first | exact HB.out | apply below_alloc | apply pw_below_drewN | apply below_drew1 | refine below_set ?_ GE101.out) | exact HB.out)))); have n1_ := Aside0.mk (blk_below (g := gb101) (o := .cells #[.string a0_0, .string a0_1, .string a0_2, .slice A0_3 l0_3.length c0_3] 48 (0, 0)) (by (with_reducible repeat (first | refine blk_drewN ?_ _ | refine blk_drew ?_ | refine blk_alloc ?_ _)); exact BK101.out) hb); have n2_ := Aside0.mk (below_step (by repeat (first | (with_reducible first | exact HB.out | apply below_alloc | apply pw_below_drewN | apply below_drew1 | refine below_set ?_ GE101.out) | exact HB.out)) hb); clear BK101; clear HB; have HO104 := n0_; have BK101 := n1_; have HB := n2_; clear n0_ n1_ n2_; clear hb ho27; have hcz28_0 : w26.cell? ⟨gb101, 0, none⟩ = some (.string a0_0) := (blk_cell BK101.out 0).trans rfl; have hcz28_1 : w26.cell? ⟨gb101, 1, none⟩ = some (.string a0_1) := (blk_cell BK101.out 1).trans rfl; have hcz28_2 : w26.cell? ⟨gb101, 2, none⟩ = some (.string a0_2) := (blk_cell BK101.out 2).trans rfl; have hcz28_3 : w26.cell? ⟨gb101, 3, none⟩ = some (.slice A0_3 l0_3.length c0_3) := (blk_cell BK101.out 3).trans rfl; have hfz28_0 := blk_frozen BK101.out 0; have hfz28_1 := blk_frozen BK101.out 1; have hfz28_2 := blk_frozen BK101.out 2; have hfz28_3 := blk_frozen BK101.out 3) | ((with_reducible refine gate_builtin (b := .append) (xs := #[.tmp 10, .tmp 13]) rfl ?_); at_builtin; refine Kd.R_append Kd.string (w0 := w) w.heap.size rfl (.tmp 10) (.tmp 13) 23 9 (.string ⟨#[]⟩) 16 rfl Tryz.underlying23 info9 rfl (by decide) (by omega) v103 y102 a0_1 [.string a0_1] (fun _ => True) (fun _ => False) rfl rfl ?aP (fun _ hk => hk.elim) ?aF ?aO ?aB ?aS ?aL ?_; (case aP => exact rfl); (case aB => exact (by repeat (first | (with_reducible first | exact HB.out | apply below_alloc | apply pw_below_drewN | apply below_drew1 | refine below_set ?_ GE101.out) | exact HB.out))); (case aF => exact (fun _ _ => trivial)); (case aO => exact (by (with_reducible repeat (first | apply Kd.R_alloc | apply Kd.R_drewN | apply Kd.R_drew)); exact HO104.out)); (case aS => exact (below_size (by repeat (first | (with_reducible first | exact HB.out | apply below_alloc | apply pw_below_drewN | apply below_drew1 | refine below_set ?_ GE101.out) | exact HB.out)))); (case aL => have := LMc21.out; omega); intro v115 w29 ho hb hg hat; rw [← Ny114.out] at ho; have n0_ := Aside0.mk (blk_grown (g := gb101) (o := .cells #[.string a0_0, .string a0_1, .string a0_2, .slice A0_3 l0_3.length c0_3] 48 (0, 0)) (by (with_reducible repeat (first | refine blk_drewN ?_ _ | refine blk_drew ?_ | refine blk_alloc ?_ _)); exact BK101.out) hg (Kd.R_ne HO104.out BK101.out (by decide))); have n1_ := Aside0.mk (hb); have n2_ := Aside0.mk (ho); clear BK101; clear HB; clear HO104; have BK101 := n0_; have HB := n1_; have HO116 := n2_; clear n0_ n1_ n2_; clear ho hb hg hat; have hcz30_0 : w29.cell? ⟨gb101, 0, none⟩ = some (.string a0_0) := (blk_cell BK101.out 0).trans rfl; have hcz30_1 : w29.cell? ⟨gb101, 1, none⟩ = some (.string a0_1) := (blk_cell BK101.out 1).trans rfl; have hcz30_2 : w29.cell? ⟨gb101, 2, none⟩ = some (.string a0_2) := (blk_cell BK101.out 2).trans rfl; have hcz30_3 : w29.cell? ⟨gb101, 3, none⟩ = some (.slice A0_3 l0_3.length c0_3) := (blk_cell BK101.out 3).trans rfl; have hfz30_0 := blk_frozen BK101.out 0; have hfz30_1 := blk_frozen BK101.out 1; have hfz30_2 := blk_frozen BK101.out 2; have hfz30_3 := blk_frozen BK101.out 3) | ((with_reducible refine gate_builtin (b := .append) (xs := #[.tmp 23, .tmp 25]) rfl ?_); at_builtin; refine Kd.R_append_rows Kd.string (w0 := w) w.heap.size rfl (.tmp 23) (.tmp 25) 23 9 (.string ⟨#[]⟩) 16 rfl Tryz.underlying23 info9 rfl (by decide) (by omega) v115 y114 l0_3 _ _ _ (fun _ => True) (fun _ => False) rfl rfl ?aO ?aR (fun _ _ h => h) (fun _ h => h.elim) ?aF ?aB ?aS ?aL ?_; (case aR => repeat (first | exact (Kd.C_below HR0_3.out HB.out) | (with_reducible refine Kd.C_alloc ?_ _) | (with_reducible refine Kd.C_drewN ?_ _) | (with_reducible refine Kd.C_drew ?_))); (case aB => exact (by repeat (first | (with_reducible first | exact HB.out | apply below_alloc | apply pw_below_drewN | apply below_drew1 | refine below_set ?_ GE101.out) | exact HB.out))); (case aF => exact (fun _ _ => trivial)); (case aO => exact (by (with_reducible repeat (first | apply Kd.R_alloc | apply Kd.R_drewN | apply Kd.R_drew)); exact HO116.out)); (case aS => exact (below_size (by repeat (first | (with_reducible first | exact HB.out | apply below_alloc | apply pw_below_drewN | apply below_drew1 | refine below_set ?_ GE101.out) | exact HB.out)))); (case aL => have := LMc23.out; omega); intro v118 w31 ho hb hg hat; rw [← Ny117.out] at ho; have n0_ := Aside0.mk (blk_grown (g := gb101) (o := .cells #[.string a0_0, .string a0_1, .string a0_2, .slice A0_3 l0_3.length c0_3] 48 (0, 0)) (by (with_reducible repeat (first | refine blk_drewN ?_ _ | refine blk_drew ?_ | refine blk_alloc ?_ _)); exact BK101.out) hg (Kd.R_ne HO116.out BK101.out (by decide))); have n1_ := Aside0.mk (hb); have n2_ := Aside0.mk (ho); clear BK101; clear HB; clear HO116; have BK101 := n0_; have HB := n1_; have HO119 := n2_; clear n0_ n1_ n2_; clear ho hb hg hat))
          go_ret
          exact ⟨_, by first | rfl | (simp [errW_none, errW_some] <;> rfl) | (simp [*, errW_none, errW_some] <;> rfl), by (with_reducible repeat (first | apply Kd.R_alloc | apply Kd.R_drewN | apply Kd.R_drew)); exact HO119.out, by repeat (first | (with_reducible first | exact HB.out | apply below_alloc | apply pw_below_drewN | apply below_drew1 | refine below_set ?_ GE101.out) | exact HB.out)⟩
        · rw [if_neg c23] at H
          exact absurd H (by simp)
      · rw [if_neg c22] at H
        have c22b0 : (a0_2.toList == ([] : List UInt8)) = false := beq_eq_false_iff_ne.mpr c22
        have c22b1 : (a0_2.toList != ([] : List UInt8)) = true := bne_iff_ne.mpr c22
        by_cases c32 : y114.length < 8796093022208
        · rw [if_pos c32] at H
          have LMc32 := Aside0.mk c32
          clear c32
          obtain ⟨y120, hy120⟩ : ∃ y_ : List ByteArray, y_ = (y114 ++ [a0_2]) := ⟨_, rfl⟩
          replace H : (if y120.length + l0_3.length < 8796093022208 then (some (y120 ++ l0_3)) else (none)) = some r := by first | (rw [hy120]; with_reducible exact H) | (have H2_ := (Option.bind_some _ _).symm.trans H; rw [hy120]; with_reducible exact H2_) | (have H2_ := (Option.bind_some _ _).symm.trans H; with_reducible exact H2_) | with_reducible exact H | (rw [hy120]; exact H) | exact H
          have Ny120 := Aside0.mk hy120
          clear hy120
          by_cases c33 : y120.length + l0_3.length < 8796093022208
          · rw [if_pos c33] at H
            have LMc33 := Aside0.mk c33
            clear c33
            obtain ⟨y123, hy123⟩ : ∃ y_ : List ByteArray, y_ = (y120 ++ l0_3) := ⟨_, rfl⟩
            replace H : (some y123) = some r := by first | (rw [hy123]; with_reducible exact H) | (have H2_ := (Option.bind_some _ _).symm.trans H; rw [hy123]; with_reducible exact H2_) | (have H2_ := (Option.bind_some _ _).symm.trans H; with_reducible exact H2_) | with_reducible exact H | (rw [hy123]; exact H) | exact H
            have Ny123 := Aside0.mk hy123
            clear hy123
            obtain rfl := Option.some.inj H
            go_enter Tryz.func40, Tryz.ntmps40
            go_wp2_with (first | ((with_reducible refine gate_dst (N := 1) rfl ?_); refine box_event ?hg (N := 1) ?hd (cs := #[.string a0_0, .string a0_1, .string a0_2, .slice A0_3 l0_3.length c0_3]) (t := 48) ?hr ?_; (case hd => rfl); (case hg => rfl); (case hr => first | (go_simp; done) | (go_simp; rfl)); intro gb101 hg w34 hbox hb; have n0_ := Aside0.mk (below_step (by repeat (first | (with_reducible first | exact HB.out | apply below_alloc | apply pw_below_drewN | apply below_drew1) | exact HB.out)) hb); have n1_ := Aside0.mk (hbox); have n2_ := Aside0.mk ((by rw [hg]; exact (below_size (by repeat (first | (with_reducible first | exact HB.out | apply below_alloc | apply pw_below_drewN | apply below_drew1) | exact HB.out))) : w.heap.size ≤ gb101)); have n3_ := Aside0.mk ((by rw [hg]; exact (below_size (by repeat (first | (with_reducible first | exact HB.out | apply below_alloc | apply pw_below_drewN | apply below_drew1) | exact HB.out))) : w.heap.size ≤ gb101)); clear HB; have HB := n0_; have BK101 := n1_; have GW101 := n2_; have GE101 := n3_; clear n0_ n1_ n2_ n3_; clear hb hbox hg; have hcz35_0 : w34.cell? ⟨gb101, 0, none⟩ = some (.string a0_0) := (blk_cell BK101.out 0).trans rfl; have hcz35_1 : w34.cell? ⟨gb101, 1, none⟩ = some (.string a0_1) := (blk_cell BK101.out 1).trans rfl; have hcz35_2 : w34.cell? ⟨gb101, 2, none⟩ = some (.string a0_2) := (blk_cell BK101.out 2).trans rfl; have hcz35_3 : w34.cell? ⟨gb101, 3, none⟩ = some (.slice A0_3 l0_3.length c0_3) := (blk_cell BK101.out 3).trans rfl; have hfz35_0 := blk_frozen BK101.out 0; have hfz35_1 := blk_frozen BK101.out 1; have hfz35_2 := blk_frozen BK101.out 2; have hfz35_3 := blk_frozen BK101.out 3) | ((with_reducible refine gate_dst (N := 6) rfl ?_); refine Kd.R_lit Kd.string _ 9 ?hg (N := 6) ?hd (xs := ([a0_0] : List ByteArray)) (inner := [.string a0_0]) (ok := fun _ => True) (okp := fun _ => True) ?hr ?hp (fun _ hk => hk) trivial (Below.refl _ _) (Nat.le_refl _) (by simp) ?_; (case hd => rfl); (case hg => rfl); (case hr => first | (go_simp; done) | (go_simp; rfl)); (case hp => exact (Reps.one (show Kd.M Kd.string _ _ _ a0_0 [.string a0_0] from rfl) (Reps.none _ _))); intro v103 w36 ho37 hb hg_ hnew_; clear hg_ hnew_; (first | rw [← Ny102.out] at ho37 | (simp only [Int.reduceToNat] at ho37; rw [← Ny102.out] at ho37)); have n0_ := Aside0.mk (Kd.R_lower ho37 (below_size (by repeat (first | (with_reducible first | exact HB.out | apply below_alloc | apply pw_below_drewN | apply below_drew1 | refine below_set ?_ GE101.out) | exact HB.out)))); have n1_ := Aside0.mk (blk_below (g := gb101) (o := .cells #[.string a0_0, .string a0_1, .string a0_2, .slice A0_3 l0_3.length c0_3] 48 (0, 0)) (by (with_reducible repeat (first | refine blk_drewN ?_ _ | refine blk_drew ?_ | refine blk_alloc ?_ _)); exact BK101.out) hb); have n2_ := Aside0.mk (below_step (by repeat (first | (with_reducible first | exact HB.out | apply below_alloc | apply pw_below_drewN | apply below_drew1 | refine below_set ?_ GE101.out) | exact HB.out)) hb); clear BK101; clear HB; have HO104 := n0_; have BK101 := n1_; have HB := n2_; clear n0_ n1_ n2_; clear hb ho37; have hcz38_0 : w36.cell? ⟨gb101, 0, none⟩ = some (.string a0_0) := (blk_cell BK101.out 0).trans rfl; have hcz38_1 : w36.cell? ⟨gb101, 1, none⟩ = some (.string a0_1) := (blk_cell BK101.out 1).trans rfl; have hcz38_2 : w36.cell? ⟨gb101, 2, none⟩ = some (.string a0_2) := (blk_cell BK101.out 2).trans rfl; have hcz38_3 : w36.cell? ⟨gb101, 3, none⟩ = some (.slice A0_3 l0_3.length c0_3) := (blk_cell BK101.out 3).trans rfl; have hfz38_0 := blk_frozen BK101.out 0; have hfz38_1 := blk_frozen BK101.out 1; have hfz38_2 := blk_frozen BK101.out 2; have hfz38_3 := blk_frozen BK101.out 3) | ((with_reducible refine gate_builtin (b := .append) (xs := #[.tmp 10, .tmp 13]) rfl ?_); at_builtin; refine Kd.R_append Kd.string (w0 := w) w.heap.size rfl (.tmp 10) (.tmp 13) 23 9 (.string ⟨#[]⟩) 16 rfl Tryz.underlying23 info9 rfl (by decide) (by omega) v103 y102 a0_1 [.string a0_1] (fun _ => True) (fun _ => False) rfl rfl ?aP (fun _ hk => hk.elim) ?aF ?aO ?aB ?aS ?aL ?_; (case aP => exact rfl); (case aB => exact (by repeat (first | (with_reducible first | exact HB.out | apply below_alloc | apply pw_below_drewN | apply below_drew1 | refine below_set ?_ GE101.out) | exact HB.out))); (case aF => exact (fun _ _ => trivial)); (case aO => exact (by (with_reducible repeat (first | apply Kd.R_alloc | apply Kd.R_drewN | apply Kd.R_drew)); exact HO104.out)); (case aS => exact (below_size (by repeat (first | (with_reducible first | exact HB.out | apply below_alloc | apply pw_below_drewN | apply below_drew1 | refine below_set ?_ GE101.out) | exact HB.out)))); (case aL => have := LMc21.out; omega); intro v115 w39 ho hb hg hat; rw [← Ny114.out] at ho; have n0_ := Aside0.mk (blk_grown (g := gb101) (o := .cells #[.string a0_0, .string a0_1, .string a0_2, .slice A0_3 l0_3.length c0_3] 48 (0, 0)) (by (with_reducible repeat (first | refine blk_drewN ?_ _ | refine blk_drew ?_ | refine blk_alloc ?_ _)); exact BK101.out) hg (Kd.R_ne HO104.out BK101.out (by decide))); have n1_ := Aside0.mk (hb); have n2_ := Aside0.mk (ho); clear BK101; clear HB; clear HO104; have BK101 := n0_; have HB := n1_; have HO116 := n2_; clear n0_ n1_ n2_; clear ho hb hg hat; have hcz40_0 : w39.cell? ⟨gb101, 0, none⟩ = some (.string a0_0) := (blk_cell BK101.out 0).trans rfl; have hcz40_1 : w39.cell? ⟨gb101, 1, none⟩ = some (.string a0_1) := (blk_cell BK101.out 1).trans rfl; have hcz40_2 : w39.cell? ⟨gb101, 2, none⟩ = some (.string a0_2) := (blk_cell BK101.out 2).trans rfl; have hcz40_3 : w39.cell? ⟨gb101, 3, none⟩ = some (.slice A0_3 l0_3.length c0_3) := (blk_cell BK101.out 3).trans rfl; have hfz40_0 := blk_frozen BK101.out 0; have hfz40_1 := blk_frozen BK101.out 1; have hfz40_2 := blk_frozen BK101.out 2; have hfz40_3 := blk_frozen BK101.out 3) | ((with_reducible refine gate_builtin (b := .append) (xs := #[.tmp 18, .tmp 21]) rfl ?_); at_builtin; refine Kd.R_append Kd.string (w0 := w) w.heap.size rfl (.tmp 18) (.tmp 21) 23 9 (.string ⟨#[]⟩) 16 rfl Tryz.underlying23 info9 rfl (by decide) (by omega) v115 y114 a0_2 [.string a0_2] (fun _ => True) (fun _ => False) rfl rfl ?aP (fun _ hk => hk.elim) ?aF ?aO ?aB ?aS ?aL ?_; (case aP => exact rfl); (case aB => exact (by repeat (first | (with_reducible first | exact HB.out | apply below_alloc | apply pw_below_drewN | apply below_drew1 | refine below_set ?_ GE101.out) | exact HB.out))); (case aF => exact (fun _ _ => trivial)); (case aO => exact (by (with_reducible repeat (first | apply Kd.R_alloc | apply Kd.R_drewN | apply Kd.R_drew)); exact HO116.out)); (case aS => exact (below_size (by repeat (first | (with_reducible first | exact HB.out | apply below_alloc | apply pw_below_drewN | apply below_drew1 | refine below_set ?_ GE101.out) | exact HB.out)))); (case aL => have := LMc32.out; omega); intro v121 w41 ho hb hg hat; rw [← Ny120.out] at ho; have n0_ := Aside0.mk (blk_grown (g := gb101) (o := .cells #[.string a0_0, .string a0_1, .string a0_2, .slice A0_3 l0_3.length c0_3] 48 (0, 0)) (by (with_reducible repeat (first | refine blk_drewN ?_ _ | refine blk_drew ?_ | refine blk_alloc ?_ _)); exact BK101.out) hg (Kd.R_ne HO116.out BK101.out (by decide))); have n1_ := Aside0.mk (hb); have n2_ := Aside0.mk (ho); clear BK101; clear HB; clear HO116; have BK101 := n0_; have HB := n1_; have HO122 := n2_; clear n0_ n1_ n2_; clear ho hb hg hat; have hcz42_0 : w41.cell? ⟨gb101, 0, none⟩ = some (.string a0_0) := (blk_cell BK101.out 0).trans rfl; have hcz42_1 : w41.cell? ⟨gb101, 1, none⟩ = some (.string a0_1) := (blk_cell BK101.out 1).trans rfl; have hcz42_2 : w41.cell? ⟨gb101, 2, none⟩ = some (.string a0_2) := (blk_cell BK101.out 2).trans rfl; have hcz42_3 : w41.cell? ⟨gb101, 3, none⟩ = some (.slice A0_3 l0_3.length c0_3) := (blk_cell BK101.out 3).trans rfl; have hfz42_0 := blk_frozen BK101.out 0; have hfz42_1 := blk_frozen BK101.out 1; have hfz42_2 := blk_frozen BK101.out 2; have hfz42_3 := blk_frozen BK101.out 3) | ((with_reducible refine gate_builtin (b := .append) (xs := #[.tmp 23, .tmp 25]) rfl ?_); at_builtin; refine Kd.R_append_rows Kd.string (w0 := w) w.heap.size rfl (.tmp 23) (.tmp 25) 23 9 (.string ⟨#[]⟩) 16 rfl Tryz.underlying23 info9 rfl (by decide) (by omega) v121 y120 l0_3 _ _ _ (fun _ => True) (fun _ => False) rfl rfl ?aO ?aR (fun _ _ h => h) (fun _ h => h.elim) ?aF ?aB ?aS ?aL ?_; (case aR => repeat (first | exact (Kd.C_below HR0_3.out HB.out) | (with_reducible refine Kd.C_alloc ?_ _) | (with_reducible refine Kd.C_drewN ?_ _) | (with_reducible refine Kd.C_drew ?_))); (case aB => exact (by repeat (first | (with_reducible first | exact HB.out | apply below_alloc | apply pw_below_drewN | apply below_drew1 | refine below_set ?_ GE101.out) | exact HB.out))); (case aF => exact (fun _ _ => trivial)); (case aO => exact (by (with_reducible repeat (first | apply Kd.R_alloc | apply Kd.R_drewN | apply Kd.R_drew)); exact HO122.out)); (case aS => exact (below_size (by repeat (first | (with_reducible first | exact HB.out | apply below_alloc | apply pw_below_drewN | apply below_drew1 | refine below_set ?_ GE101.out) | exact HB.out)))); (case aL => have := LMc33.out; omega); intro v124 w43 ho hb hg hat; rw [← Ny123.out] at ho; have n0_ := Aside0.mk (blk_grown (g := gb101) (o := .cells #[.string a0_0, .string a0_1, .string a0_2, .slice A0_3 l0_3.length c0_3] 48 (0, 0)) (by (with_reducible repeat (first | refine blk_drewN ?_ _ | refine blk_drew ?_ | refine blk_alloc ?_ _)); exact BK101.out) hg (Kd.R_ne HO122.out BK101.out (by decide))); have n1_ := Aside0.mk (hb); have n2_ := Aside0.mk (ho); clear BK101; clear HB; clear HO122; have BK101 := n0_; have HB := n1_; have HO125 := n2_; clear n0_ n1_ n2_; clear ho hb hg hat))
            go_ret
            exact ⟨_, by first | rfl | (simp [errW_none, errW_some] <;> rfl) | (simp [*, errW_none, errW_some] <;> rfl), by (with_reducible repeat (first | apply Kd.R_alloc | apply Kd.R_drewN | apply Kd.R_drew)); exact HO125.out, by repeat (first | (with_reducible first | exact HB.out | apply below_alloc | apply pw_below_drewN | apply below_drew1 | refine below_set ?_ GE101.out) | exact HB.out)⟩
          · rw [if_neg c33] at H
            exact absurd H (by simp)
        · rw [if_neg c32] at H
          exact absurd H (by simp)
    · rw [if_neg c21] at H
      exact absurd H (by simp)
def tag_Tag_String.f (a0_0 : ByteArray) (a0_1 : ByteArray) (a0_2 : ByteArray) (l0_3 : List ByteArray) : Option (ByteArray) := (tag_Tag_parts.f a0_0 a0_1 a0_2 l0_3).bind fun t127 => ((strings_Join.f t127 (⟨#[45]⟩ : ByteArray)).bind fun t130 => (some t130))
set_option maxHeartbeats 8000000 in
set_option maxRecDepth 100000 in
theorem tag_Tag_String.calls (a0_0 : ByteArray) (a0_1 : ByteArray) (a0_2 : ByteArray) (A0_3 : Option Addr) (c0_3 : Nat) (l0_3 : List ByteArray) (r : ByteArray) (w : World) (hr0_3 : Kd.C Kd.string w A0_3 l0_3.length l0_3) (hc0_3 : l0_3.length ≤ c0_3) (h : tag_Tag_String.f a0_0 a0_1 a0_2 l0_3 = some r) :
    Calls Tryz.prog 13 #[.agg #[.string a0_0, .string a0_1, .string a0_2, .slice A0_3 l0_3.length c0_3]] w fun e w' => e = .returned (.string r) ∧ Below w.heap.size w w' := by
  have hu25 := Tryz.underlying48
  have HR0_3 := Aside0.mk hr0_3
  have HC0_3 := Aside0.mk hc0_3
  clear hr0_3 hc0_3
  have HB := Aside0.mk (Below.refl w.heap.size w)
  have H : ((tag_Tag_parts.f a0_0 a0_1 a0_2 l0_3).bind fun t127 => ((strings_Join.f t127 (⟨#[45]⟩ : ByteArray)).bind fun t130 => (some t130))) = some r := h
  clear h
  replace H := Option.bind_eq_some_iff.mp H
  obtain ⟨t127, A20, H⟩ := H
  replace H : ((strings_Join.f t127 (⟨#[45]⟩ : ByteArray)).bind fun t130 => (some t130)) = some r := H
  have A2 := Aside0.mk A20
  clear A20
  replace H := Option.bind_eq_some_iff.mp H
  obtain ⟨t130, A30, H⟩ := H
  replace H : (some t130) = some r := H
  have A3 := Aside0.mk A30
  clear A30
  obtain rfl := Option.some.inj H
  go_enter Tryz.func13, Tryz.ntmps13
  go_wp2_with (first | ((with_reducible refine gate_dst (N := 1) rfl ?_); refine box_event ?hg (N := 1) ?hd (cs := #[.string a0_0, .string a0_1, .string a0_2, .slice A0_3 l0_3.length c0_3]) (t := 48) ?hr ?_; (case hd => rfl); (case hg => rfl); (case hr => first | (go_simp; done) | (go_simp; rfl)); intro gb126 hg w4 hbox hb; have n0_ := Aside0.mk (below_step (by repeat (first | (with_reducible first | exact HB.out | apply below_alloc | apply pw_below_drewN | apply below_drew1) | exact HB.out)) hb); have n1_ := Aside0.mk (hbox); have n2_ := Aside0.mk ((by rw [hg]; exact (below_size (by repeat (first | (with_reducible first | exact HB.out | apply below_alloc | apply pw_below_drewN | apply below_drew1) | exact HB.out))) : w.heap.size ≤ gb126)); have n3_ := Aside0.mk ((by rw [hg]; exact (below_size (by repeat (first | (with_reducible first | exact HB.out | apply below_alloc | apply pw_below_drewN | apply below_drew1) | exact HB.out))) : w.heap.size ≤ gb126)); clear HB; have HB := n0_; have BK126 := n1_; have GW126 := n2_; have GE126 := n3_; clear n0_ n1_ n2_ n3_; clear hb hbox hg; have hcz5_0 : w4.cell? ⟨gb126, 0, none⟩ = some (.string a0_0) := (blk_cell BK126.out 0).trans rfl; have hcz5_1 : w4.cell? ⟨gb126, 1, none⟩ = some (.string a0_1) := (blk_cell BK126.out 1).trans rfl; have hcz5_2 : w4.cell? ⟨gb126, 2, none⟩ = some (.string a0_2) := (blk_cell BK126.out 2).trans rfl; have hcz5_3 : w4.cell? ⟨gb126, 3, none⟩ = some (.slice A0_3 l0_3.length c0_3) := (blk_cell BK126.out 3).trans rfl; have hfz5_0 := blk_frozen BK126.out 0; have hfz5_1 := blk_frozen BK126.out 1; have hfz5_2 := blk_frozen BK126.out 2; have hfz5_3 := blk_frozen BK126.out 3) | ((with_reducible refine gate_callee (f := 40) rfl ?_); refine goesL_ (some 4) rfl rfl Tryz.func40 (by kernel_rfl) rfl #[.agg #[.string a0_0, .string a0_1, .string a0_2, .slice A0_3 l0_3.length c0_3]] rfl (by (try simp only [List.map_toArray, List.map_cons, List.map_nil]); first | done | rfl | (simp only [List.length_drop, List.length_take]; rfl)) ?_; (with_reducible refine (tag_Tag_parts.calls a0_0 a0_1 a0_2 _ _ l0_3 t127 _ ?side1 ?side2 A2.out).mono ?_); (case side1 => repeat (first | exact (Kd.C_below HR0_3.out HB.out) | (with_reducible refine Kd.C_alloc ?_ _) | (with_reducible refine Kd.C_drewN ?_ _) | (with_reducible refine Kd.C_drew ?_))); (case side2 => exact HC0_3.out); rintro e w6 ⟨v128, rfl, ho0, hb⟩; refine ⟨_, rfl, ?_⟩; have n0_ := Aside0.mk (Kd.R_lower ho0 (below_size (by repeat (first | (with_reducible first | exact HB.out | apply below_alloc | apply pw_below_drewN | apply below_drew1 | refine below_set ?_ GE126.out) | exact HB.out)))); have n1_ := Aside0.mk (blk_below (g := gb126) (o := .cells #[.string a0_0, .string a0_1, .string a0_2, .slice A0_3 l0_3.length c0_3] 48 (0, 0)) (by (with_reducible repeat (first | refine blk_drewN ?_ _ | refine blk_drew ?_ | refine blk_alloc ?_ _)); exact BK126.out) hb); have n2_ := Aside0.mk (below_step (by repeat (first | (with_reducible first | exact HB.out | apply below_alloc | apply pw_below_drewN | apply below_drew1 | refine below_set ?_ GE126.out) | exact HB.out)) hb); clear BK126; clear HB; have HO129 := n0_; have BK126 := n1_; have HB := n2_; clear n0_ n1_ n2_; (try clear hb); (try clear hb2); (try clear hk); (try clear hi); (try clear ho0); obtain ⟨Ao7, co7, eo7⟩ := Kd.R_slice HO129.out; subst eo7) | ((with_reducible refine gate_callee (f := 39) rfl ?_); refine goesL_ (some 5) rfl rfl Tryz.func39 (by kernel_rfl) rfl #[.slice Ao7 t127.length co7, .string (⟨#[45]⟩ : ByteArray)] rfl (by (try simp only [List.map_toArray, List.map_cons, List.map_nil]); first | done | rfl | (simp only [List.length_drop, List.length_take]; rfl)) ?_; (with_reducible refine (strings_Join.calls _ _ t127 (⟨#[45]⟩ : ByteArray) t130 _ ?side1 ?side2 A3.out).mono ?_); (case side1 => repeat (first | exact (Kd.R_reads' HO129.out).2.2 | (with_reducible refine Kd.C_alloc ?_ _) | (with_reducible refine Kd.C_drewN ?_ _) | (with_reducible refine Kd.C_drew ?_))); (case side2 => exact (Kd.R_reads' HO129.out).2.1); rintro e w8 ⟨rfl, hb⟩; refine ⟨_, rfl, ?_⟩; have n0_ := Aside0.mk (Kd.R_below (by (with_reducible repeat (first | apply Kd.R_alloc | apply Kd.R_drewN | apply Kd.R_drew)); exact HO129.out) hb); have n1_ := Aside0.mk (blk_below (g := gb126) (o := .cells #[.string a0_0, .string a0_1, .string a0_2, .slice A0_3 l0_3.length c0_3] 48 (0, 0)) (by (with_reducible repeat (first | refine blk_drewN ?_ _ | refine blk_drew ?_ | refine blk_alloc ?_ _)); exact BK126.out) hb); have n2_ := Aside0.mk (below_step (by repeat (first | (with_reducible first | exact HB.out | apply below_alloc | apply pw_below_drewN | apply below_drew1 | refine below_set ?_ GE126.out) | exact HB.out)) hb); clear HO129; clear BK126; clear HB; have HO129 := n0_; have BK126 := n1_; have HB := n2_; clear n0_ n1_ n2_; (try clear hb); (try clear hb2); (try clear hk); (try clear hi)))
  go_ret
  exact ⟨by first | rfl | (simp [errW_none, errW_some] <;> rfl) | (simp [*, errW_none, errW_some] <;> rfl), by repeat (first | (with_reducible first | exact HB.out | apply below_alloc | apply pw_below_drewN | apply below_drew1 | refine below_set ?_ GE126.out) | exact HB.out)⟩
end Go.Proofs.YtkmbkejmfffafaaGreatDoor.PFit
end
namespace Go.Proofs.YtkmbkejmfffafaaGreatDoor.Refl
open Go Go.RowKit Go.Proofs.YtkmbkejmfffafaaGreatDoorHand Go.Proofs.YtkmbkejmfffafaaGreatDoorW.PrintWords
set_option linter.unusedVariables false
set_option linter.unusedSimpArgs false
set_option maxRecDepth 100000
def bA (l : List UInt8) : ByteArray := ⟨⟨l⟩⟩
structure TagT where
  s : List UInt8
  L : List UInt8
  Sc : List UInt8
  Re : List UInt8
  vs : Option (List (List UInt8))
  ok : Bool
noncomputable def tagV (L Sc Re : List UInt8) (v : Value) (ok : Bool) : Value := .tuple #[.agg #[strV L, strV Sc, strV Re, v], .bool ok]
noncomputable def oweP (args : List Value) (s L Sc Re : List UInt8) (vs : List (List UInt8)) (ok : Bool) (h : AH) : AH :=
  ((h.tick).owe (pB (args = [strV s]))).owe (pB (tag_Parse.f (bA s) = some (bA L, bA Sc, bA Re, vs.map bA, ok)))
noncomputable def xTagP (tab : List (Nat × TagT)) : XF := fun args h => match assoc h.cnt tab with
  | none => none
  | some q => match q with
    | ⟨s, L, Sc, Re, ov, ok⟩ => match isMax (h.obj 4) with
      | false => none
      | true => headVL args AR fun args => match ov with
        | none => some (tagV L Sc Re (.slice none 0 0) ok, oweP args s L Sc Re [] ok h)
        | some vs => some (tagV L Sc Re (slV h.n 0 (len vs) LOOSE) ok, ((oweP args s L Sc Re vs ok h).owe (pB (vs ≠ []))).alloc (.cells (vs.map strV) 9 0 1))
theorem xTagP_some {tab : List (Nat × TagT)} {args : List Value} {h h1 : AH} {r : Value} (hx : xTagP tab args h = some (r, h1)) :
    ∃ s L Sc Re ov ok, isMax (h.obj 4) = true ∧ ((ov = none ∧ r = tagV L Sc Re (.slice none 0 0) ok ∧ h1 = oweP args s L Sc Re [] ok h) ∨
      ∃ vs, ov = some vs ∧ r = tagV L Sc Re (slV h.n 0 vs.length LOOSE) ok ∧ h1 = ((oweP args s L Sc Re vs ok h).owe (pB (vs ≠ []))).alloc (.cells (vs.map strV) 9 0 1)) := by
  unfold xTagP at hx
  cases ha : assoc h.cnt tab with
  | none => simp [ha] at hx
  | some q =>
  obtain ⟨s, L, Sc, Re, ov, ok⟩ := q
  simp only [ha] at hx
  cases ht : isMax (h.obj 4) with
  | false => simp [ht] at hx
  | true =>
  simp only [ht, headVL_eq] at hx
  cases ov with
  | none =>
    simp only [Option.some.injEq, Prod.mk.injEq] at hx
    exact ⟨s, L, Sc, Re, none, ok, rfl, .inl ⟨rfl, hx.1.symm, hx.2.symm⟩⟩
  | some vs =>
    simp only [Option.some.injEq, Prod.mk.injEq, len_eq] at hx
    exact ⟨s, L, Sc, Re, some vs, ok, rfl, .inr ⟨vs, rfl, hx.1.symm, hx.2.symm⟩⟩
theorem oweP_up (args : List Value) (s L Sc Re : List UInt8) (vs : List (List UInt8)) (ok : Bool) (h : AH) : Up h (oweP args s L Sc Re vs ok h) := ((Up.tick h).trans (Up.owe _ _)).trans (Up.owe _ _)
theorem oweP_ob {args : List Value} {s L Sc Re : List UInt8} {vs : List (List UInt8)} {ok : Bool} {h : AH} (k : OB (oweP args s L Sc Re vs ok h)) :
    args = [strV s] ∧ tag_Parse.f (bA s) = some (bA L, bA Sc, bA Re, vs.map bA, ok) := by
  obtain ⟨q1, q2⟩ := ob_owe k
  obtain ⟨q3, q4⟩ := ob_owe q1
  exact ⟨of_pB q4, of_pB q2⟩
theorem gw_of_rel {ρ : Ren} {h : AH} {w : World} (hg : GL 12 ρ) (hr : Rel Tryz.prog.cellsOf ρ h w) (hm : isMax (h.obj 4) = true) : GW w := by
  obtain ⟨im, h1, h2, h3⟩ := hg 4 (by omega)
  have hd : h.obj 4 ≠ .dead := fun e => by rw [e] at hm; cases hm
  have ho := hr.obj 4 im h1 (lt_of_obj rfl hd)
  unfold isMax at hm
  cases hc : h.obj 4 with
  | cells cs e fz kd =>
    simp only [hc] at hm
    match cs, hm, hc with
    | [v], hm, hc =>
      simp only at hm
      cases hi : asInt v with
      | none => simp [hi] at hm
      | some i =>
      simp only [hi] at hm
      rw [hc] at ho
      obtain ⟨cs', lo, hi', e1, e2, _⟩ := ho
      obtain ⟨_, v', e3, e4⟩ := e2 0 v (by simp [AObj.cell, nth_eq])
      have hv := asInt_some hi
      rw [← kEq_true hm] at hv
      rw [hv] at e4
      cases e4
      rw [h3] at e3
      rw [h2] at e1
      refine ⟨i.n, ?_⟩
      have e1' : w.heap[4]? = some (.cells cs' e (lo, hi')) := e1
      have e3' : cs'[0]? = some (.int .i64 i.n) := e3
      unfold World.cell?
      simp [e1', e3']
    | [], hm, hc => cases hm
    | _ :: _ :: _, hm, hc => cases hm
  | _ => simp [hc] at hm
theorem en12 : (Tryz.prog.funcs[12]?).map (fun fn => (fn.name == "runtime.NumGoroutine", fn.body.isSome)) = some (false, true) := by kernel_rfl
theorem en13 : (Tryz.prog.funcs[13]?).map (fun fn => (fn.name == "runtime.NumGoroutine", fn.body.isSome)) = some (false, true) := by kernel_rfl
theorem cells9 : Tryz.prog.cellsOf 9 = 1 := by kernel_rfl
theorem row_texts {w : World} {base : Nat} {ok : Nat → Prop} {v : Value} {vs : List (List UInt8)} (hv : vs ≠ []) (h : Kd.R Kd.string 9 w base ok v (vs.map bA)) :
    ∃ g cap cur, v = .slice (some ⟨g, 0, none⟩) vs.length cap ∧ base ≤ g ∧ w.heap[g]? = some (.cells cur 9 (0, 0)) ∧ vs.length ≤ cap ∧ cur.size = cap ∧ cur.toList.take vs.length = vs.map strV := by
  obtain ⟨_, inner, ⟨hl, hc⟩, hr⟩ := h
  rcases hc with ⟨_, h0⟩ | ⟨g, cap, cur, rfl, hg, hh, hn, _, hs, ht⟩
  · simp at h0; exact absurd h0 hv
  · have s1 : Kd.string.sz = 1 := rfl
    rw [s1, Nat.mul_one] at hs ht
    simp only [List.length_map] at ht hn ⊢
    refine ⟨g, cap, cur, rfl, hg, hh, hn, hs, ?_⟩
    rw [ht]
    obtain ⟨hr1, hr2⟩ := hr
    rw [s1] at hr1 hr2
    simp only [Nat.mul_one, List.length_map] at hr1 hr2
    apply List.ext_getElem?
    intro j
    rcases Nat.lt_or_ge j vs.length with hj | hj
    · have hj2 := hr2 j (bA vs[j]) (by simp [hj])
      have hj2 : (inner.drop j).take 1 = [.string (bA vs[j])] := hj2
      have hg2 : ((inner.drop j).take 1)[0]? = some (.string (bA vs[j])) := by rw [hj2]; rfl
      rw [List.getElem?_take_of_lt (by omega), List.getElem?_drop, Nat.add_zero] at hg2
      rw [hg2, List.getElem?_map, List.getElem?_eq_getElem hj]
      rfl
    · rw [List.getElem?_eq_none (by omega), List.getElem?_eq_none (by simpa using hj)]
theorem Step.grownAlloc {S : Nat → Nat} {ρ : Ren} {h : AH} {w w' : World} {o : AObj} {im : Im} (r : Rel S ρ h w) (h0 : ρ h.n = none) (hb : Below w.heap.size w w') (hm : w.heap.size ≤ im.blk)
    (ho : OR S (upd ρ h.n im) w' im o) : Step S ρ h w (upd ρ h.n im) (h.alloc o) w' where
  ext := Ext.upd h0
  dom := fun b i h1 h2 => by
    by_cases hx : b = h.n
    · subst hx; rw [alloc_n]; omega
    · rw [upd_other hx, h2] at h1; cases h1
  rel := {
    obj := fun b i h1 h2 => by
      by_cases hx : b = h.n
      · subst hx; rw [upd_same] at h1; cases h1; rw [alloc_obj_new]; exact ho
      · rw [upd_other hx] at h1
        have hl : b < h.n := by rw [alloc_n] at h2; omega
        rw [alloc_obj_old h o hx]
        by_cases hd : h.obj b = .dead
        · rw [hd]; trivial
        · exact (r.obj b i h1 hl).mono (Ext.upd h0) (hb.block _ ((r.obj b i h1 hl).lt hd))
    inj := fun b b' i i' h1 h2 h3 h4 h5 h6 h7 => by
      rw [alloc_n] at h3 h4
      by_cases hx : b = h.n <;> by_cases hx' : b' = h.n
      · rw [hx, hx']
      · subst hx
        rw [upd_same] at h1; cases h1
        rw [upd_other hx'] at h2; rw [alloc_obj_old h o hx'] at h6
        have := (r.obj b' i' h2 (by omega)).lt h6
        omega
      · subst hx'
        rw [upd_same] at h2; cases h2
        rw [upd_other hx] at h1; rw [alloc_obj_old h o hx] at h5
        have := (r.obj b i h1 (by omega)).lt h5
        omega
      · rw [upd_other hx] at h1; rw [upd_other hx'] at h2; rw [alloc_obj_old h o hx] at h5; rw [alloc_obj_old h o hx'] at h6
        exact r.inj b b' i i' h1 h2 (by omega) (by omega) h5 h6 h7
    top := fun b hb => by rw [alloc_n] at hb; rw [alloc_obj_old h o (by omega)]; exact r.top b (by omega) }
  size := hb.size
  n_le := by rw [alloc_n]; omega
  str := ⟨hb.os, hb.tape, hb.output⟩
  frame := fun c hc => .inl (hb.block c hc)
  fresh := fun b i h1 h2 => by
    by_cases hx : b = h.n
    · subst hx; rw [upd_same] at h1; cases h1; exact .inl hm
    · rw [upd_other hx, h2] at h1; cases h1
  keep := fun b hb _ => alloc_obj_old h o (by omega)
  logm := fun b hb => hb
  wrote := fun b hb => .inl hb
theorem LR_one {ρ : Ren} {v : Value} {l : List Value} (hf : flat 5 v = true) (h : LR ρ [v] l) : l = [v] := by
  cases h with
  | cons h1 h2 => cases h2; rw [flat_eq 5 _ _ hf h1]
theorem tagV_LR {ρ : Ren} {L Sc Re : List UInt8} {v v' : Value} {ok : Bool} (h : VR ρ v v') : VR ρ (tagV L Sc Re v ok) (tagV L Sc Re v' ok) :=
  .tuple (.cons (.agg (.cons (.string _) (.cons (.string _) (.cons (.string _) (.cons h .nil))))) (.cons (.bool _) .nil))
theorem tagP_ans {s L Sc Re : List UInt8} {vs : List (List UInt8)} {ok : Bool} {w : World} (hf : tag_Parse.f (bA s) = some (bA L, bA Sc, bA Re, vs.map bA, ok)) (hG : GW w) :
    Ans Tryz.prog 12 [strV s].toArray w fun v w' => ∃ v3, v = tagV L Sc Re v3 ok ∧ Kd.R Kd.string 9 w' w.heap.size (fun _ => True) v3 (vs.map bA) ∧ Below w.heap.size w w' ∧ (vs = [] → v3 = .slice none 0 0) := by
  unfold Ans
  rw [enter_of en12]
  show Calls Tryz.prog 12 #[.string (bA s)] w (Back _)
  refine (tag_Parse.calls _ _ _ _ _ _ w hf hG).mono fun e w' he => ?_
  obtain ⟨v3, rfl, h1, h2, h3⟩ := he
  exact ⟨v3, rfl, h1, h2, fun hv => h3 (by rw [hv]; rfl)⟩
theorem xTagP_ok (tab : List (Nat × TagT)) : ExtOK Tryz.prog 12 12 (xTagP tab) where
  fwd := fun args h r h1 hx => by
    obtain ⟨s, L, Sc, Re, ov, ok, _, h1 | h1⟩ := xTagP_some hx
    · rw [h1.2.2]; exact (oweP_up _ _ _ _ _ _ _ _).fwd
    · obtain ⟨vs, _, _, e⟩ := h1
      rw [e]
      exact ((oweP_up _ _ _ _ _ _ _ _).trans (Up.owe _ _)).fwd.trans (Fwd.alloc _ _)
  run := fun args h r h1 hx hob ρ w args' hg hr hf hl => by
    obtain ⟨s, L, Sc, Re, ov, ok, hm, h1 | h1⟩ := xTagP_some hx
    · obtain ⟨_, rfl, rfl⟩ := h1
      obtain ⟨rfl, hq⟩ := oweP_ob hob
      obtain rfl := LR_one rfl hl
      refine Ans.mono (tagP_ans hq (gw_of_rel hg hr hm)) fun v w' he => ?_
      obtain ⟨v3, rfl, _, hb, hv⟩ := he
      rw [hv rfl]
      have u := oweP_up [strV s] s L Sc Re [] ok h
      exact ⟨ρ, tagV_LR .slNil, Step.trans hf (Step.grown hr hb) (.same (Step.grown hr hb).rel u.t u.n u.log rfl (Str.refl _))⟩
    · obtain ⟨vs, _, rfl, rfl⟩ := h1
      have hob' : OB ((oweP args s L Sc Re vs ok h).owe (pB (vs ≠ []))) := hob
      obtain ⟨hob1, hne⟩ := ob_owe hob'
      have hne : vs ≠ [] := of_pB hne
      obtain ⟨rfl, hq⟩ := oweP_ob hob1
      obtain rfl := LR_one rfl hl
      refine Ans.mono (tagP_ans hq (gw_of_rel hg hr hm)) fun v w' he => ?_
      obtain ⟨v3, rfl, hR, hb, _⟩ := he
      obtain ⟨g, cap, cur, rfl, hgb, hh, hn, hs, ht⟩ := row_texts hne hR
      have u := (oweP_up [strV s] s L Sc Re vs ok h).trans (Up.owe _ (pB (vs ≠ [])))
      have h0 : ρ h.n = none := hf h.n (Nat.le_refl _) (by rw [alloc_n, u.n]; omega)
      have hO : OR Tryz.prog.cellsOf (upd ρ h.n ⟨g, 0, cap, 1⟩) w' ⟨g, 0, cap, 1⟩ (.cells (vs.map strV) 9 0 1) := by
        refine ⟨cur, 0, 0, hh, fun i v hv => ?_, ⟨fun j _ _ h5 => by omega, fun _ => .inl rfl⟩, by show cap ≤ cur.size; omega, cells9.symm, fun h => by cases h⟩
        simp only [AObj.cell, nth_eq] at hv
        have hi : i < vs.length := by
          rcases Nat.lt_or_ge i vs.length with h | h
          · exact h
          · rw [List.getElem?_eq_none (by simpa using h)] at hv; cases hv
        have hv' := hv
        rw [List.getElem?_map, List.getElem?_eq_getElem hi] at hv'
        obtain rfl := Option.some.inj hv'
        refine ⟨rfl, _, ?_, .string _⟩
        rw [← ht, List.getElem?_take_of_lt hi, Array.getElem?_toList] at hv
        rw [Nat.zero_add]; exact hv
      have st := Step.grownAlloc hr h0 hb hgb hO
      refine ⟨upd ρ h.n ⟨g, 0, cap, 1⟩, tagV_LR (.slLoose rfl (upd_same _ _ _) hn (.inl ⟨⟨rfl, rfl, _, upd_same _ _ _, rfl, rfl⟩, by show 0 + cap * 1 ≤ cap; omega⟩)), ?_⟩
      have uu := Up.alloc u (.cells (vs.map strV) 9 0 1)
      have hf' : Fr ρ h.n (((oweP [strV s] s L Sc Re vs ok h).owe (pB (vs ≠ []))).alloc (.cells (vs.map strV) 9 0 1)).n := hf
      exact Step.trans hf' st (.same st.rel uu.t uu.n uu.log rfl (Str.refl _))
structure TagU where
  L : List UInt8
  Sc : List UInt8
  Re : List UInt8
  vs : Option (Nat × List (List UInt8))
  r : List UInt8
noncomputable def tagA (L Sc Re : List UInt8) (v : Value) : Value := .agg #[strV L, strV Sc, strV Re, v]
noncomputable def oweS (args : List Value) (L Sc Re : List UInt8) (v : Value) (vs : List (List UInt8)) (r : List UInt8) (h : AH) : AH :=
  ((h.tick).owe (pB (args = [tagA L Sc Re v]))).owe (pB (PFit.tag_Tag_String.f (bA L) (bA Sc) (bA Re) (vs.map bA) = some (bA r)))
noncomputable def xTagS2 (args : List Value) (L Sc Re : List UInt8) (b : Nat) (vs : List (List UInt8)) (r : List UInt8) (o : AObj) (h : AH) : AR := match o with
  | .cells cs e fz kd => headVL args AR fun args => some (strV r, (((oweS args L Sc Re (slV b 0 (len vs) LOOSE) vs r h).owe (pB (cs = vs.map strV))).owe (pB (vs ≠ []))).owe (Nat.ble (len vs) 9223372036854775807))
  | _ => none
noncomputable def xTagS (tab : List (Nat × TagU)) : XF := fun args h => match assoc h.cnt tab with
  | none => none
  | some q => match q with
    | ⟨L, Sc, Re, ov, r⟩ => match ov with
      | none => headVL args AR fun args => some (strV r, oweS args L Sc Re (.slice none 0 0) [] r h)
      | some bv => match bv with
        | (b, vs) => xTagS2 args L Sc Re b vs r (h.obj b) h
theorem xTagS_some {tab : List (Nat × TagU)} {args : List Value} {h h1 : AH} {r : Value} (hx : xTagS tab args h = some (r, h1)) :
    ∃ L Sc Re t, r = strV t ∧ (h1 = oweS args L Sc Re (.slice none 0 0) [] t h ∨
      ∃ b vs cs e fz kd, h.obj b = .cells cs e fz kd ∧ h1 = (((oweS args L Sc Re (slV b 0 vs.length LOOSE) vs t h).owe (pB (cs = vs.map strV))).owe (pB (vs ≠ []))).owe (Nat.ble vs.length 9223372036854775807)) := by
  unfold xTagS at hx
  cases ha : assoc h.cnt tab with
  | none => simp [ha] at hx
  | some q =>
  obtain ⟨L, Sc, Re, ov, t⟩ := q
  simp only [ha] at hx
  cases ov with
  | none =>
    simp only [headVL_eq, Option.some.injEq, Prod.mk.injEq] at hx
    exact ⟨L, Sc, Re, t, hx.1.symm, .inl hx.2.symm⟩
  | some bv =>
    obtain ⟨b, vs⟩ := bv
    simp only at hx
    unfold xTagS2 at hx
    cases ho : h.obj b with
    | cells cs e fz kd =>
      simp only [ho, headVL_eq, len_eq, Option.some.injEq, Prod.mk.injEq] at hx
      exact ⟨L, Sc, Re, t, hx.1.symm, .inr ⟨b, vs, cs, e, fz, kd, ho, hx.2.symm⟩⟩
    | _ => simp [ho] at hx
theorem oweS_up (args : List Value) (L Sc Re : List UInt8) (v : Value) (vs : List (List UInt8)) (r : List UInt8) (h : AH) : Up h (oweS args L Sc Re v vs r h) := ((Up.tick h).trans (Up.owe _ _)).trans (Up.owe _ _)
theorem oweS_ob {args : List Value} {L Sc Re : List UInt8} {v : Value} {vs : List (List UInt8)} {r : List UInt8} {h : AH} (k : OB (oweS args L Sc Re v vs r h)) :
    args = [tagA L Sc Re v] ∧ PFit.tag_Tag_String.f (bA L) (bA Sc) (bA Re) (vs.map bA) = some (bA r) := by
  obtain ⟨q1, q2⟩ := ob_owe k
  obtain ⟨q3, q4⟩ := ob_owe q1
  exact ⟨of_pB q4, of_pB q2⟩
theorem tagA_LR {ρ : Ren} {L Sc Re : List UInt8} {v : Value} {l : List Value} (h : LR ρ [tagA L Sc Re v] l) : ∃ v', l = [tagA L Sc Re v'] ∧ VR ρ v v' := by
  cases h with
  | cons h1 h2 =>
    cases h2
    cases h1 with
    | @agg cs cs' h1 =>
    obtain ⟨cs'⟩ := cs'
    cases h1 with
    | cons a1 h1 =>
    cases h1 with
    | cons a2 h1 =>
    cases h1 with
    | cons a3 h1 =>
    cases h1 with
    | cons a4 h1 =>
    cases h1
    cases a1; cases a2; cases a3
    exact ⟨_, rfl, a4⟩
theorem tagS_ans {L Sc Re r : List UInt8} {vs : List (List UInt8)} {A : Option Addr} {c : Nat} {w : World} (hf : PFit.tag_Tag_String.f (bA L) (bA Sc) (bA Re) (vs.map bA) = some (bA r)) (hC : Kd.C Kd.string w A vs.length (vs.map bA)) (hc : vs.length ≤ c) :
    Ans Tryz.prog 13 [tagA L Sc Re (.slice A vs.length c)].toArray w fun v w' => v = strV r ∧ Below w.heap.size w w' := by
  unfold Ans
  rw [enter_of en13]
  have hk := PFit.tag_Tag_String.calls (bA L) (bA Sc) (bA Re) A c (vs.map bA) (bA r) w (by rw [List.length_map]; exact hC) (by rw [List.length_map]; exact hc) hf
  rw [List.length_map] at hk
  show Calls Tryz.prog 13 #[tagA L Sc Re (.slice A vs.length c)] w (Back _)
  refine Calls.mono hk fun e w' he => ?_
  obtain ⟨rfl, hb⟩ := he
  exact ⟨rfl, hb⟩
theorem row_read {ρ : Ren} {h : AH} {w : World} {b e fz kd : Nat} {im : Im} {vs : List (List UInt8)} (hr : Rel Tryz.prog.cellsOf ρ h w) (hi : ρ b = some im) (ho : h.obj b = .cells (vs.map strV) e fz kd) (hn : vs.length ≤ 9223372036854775807) :
    Kd.C Kd.string w (some ⟨im.blk, im.sh + 0, none⟩) vs.length (vs.map bA) := by
  have hd : h.obj b ≠ .dead := by rw [ho]; exact fun h => by cases h
  have hO := hr.obj b im hi (lt_of_obj rfl hd)
  rw [ho] at hO
  obtain ⟨cs', lo, hi', e1, e2, _⟩ := hO
  refine ⟨by simp, hn, fun _ => ⟨_, rfl, fun j p hp => ?_⟩⟩
  have hj : j < vs.length := by
    rcases Nat.lt_or_ge j vs.length with h | h
    · exact h
    · rw [List.getElem?_eq_none (by simpa using h)] at hp; cases hp
  rw [List.getElem?_map, List.getElem?_eq_getElem hj] at hp
  obtain rfl := Option.some.inj hp
  refine ⟨[.string (bA vs[j])], rfl, rfl, fun i u hu => ?_⟩
  have hi0 : i = 0 := by
    rcases i with _ | i
    · rfl
    · simp at hu
  subst hi0
  obtain rfl : Value.string (bA vs[j]) = u := by simpa using hu
  obtain ⟨_, v', e3, e4⟩ := e2 j (.string (bA vs[j])) (by simp only [AObj.cell, nth_eq]; rw [List.getElem?_map, List.getElem?_eq_getElem hj]; rfl)
  cases e4
  unfold World.cell? Addr.add
  have s1 : Kd.string.sz = 1 := rfl
  rw [s1]
  by_cases hj0 : j = 0
  · subst hj0; simp [e1]; simpa using e3
  · simp [e1, hj0]; exact e3
theorem xTagS_ok (tab : List (Nat × TagU)) : ExtOK Tryz.prog 12 13 (xTagS tab) where
  fwd := fun args h r h1 hx => by
    obtain ⟨L, Sc, Re, t, _, h1 | ⟨b, vs, cs, e, fz, kd, _, h1⟩⟩ := xTagS_some hx
    · rw [h1]; exact (oweS_up _ _ _ _ _ _ _ _).fwd
    · rw [h1]; exact ((((oweS_up _ _ _ _ _ _ _ _).trans (Up.owe _ _)).trans (Up.owe _ _)).trans (Up.owe _ _)).fwd
  run := fun args h r h1 hx hob ρ w args' hg hr hf hl => by
    obtain ⟨L, Sc, Re, t, rfl, rfl | ⟨b, vs, cs, e, fz, kd, ho, rfl⟩⟩ := xTagS_some hx
    · obtain ⟨rfl, hq⟩ := oweS_ob hob
      obtain ⟨v', rfl, hv⟩ := tagA_LR hl
      cases hv
      refine ans_up (oweS_up _ _ _ _ _ _ _ _) rfl ?_
      refine Ans.mono (tagS_ans (vs := []) (c := 0) hq ⟨rfl, Nat.zero_le _, fun h => absurd h (by simp)⟩ (Nat.le_refl _)) fun v w' he => ?_
      exact ⟨he.1, Step.grown hr he.2⟩
    · obtain ⟨hob, q1⟩ := ob_owe hob
      obtain ⟨hob, q2⟩ := ob_owe hob
      obtain ⟨hob, q3⟩ := ob_owe hob
      obtain ⟨rfl, hq⟩ := oweS_ob hob
      have q2 : vs ≠ [] := of_pB q2
      have q3 : cs = vs.map strV := of_pB q3
      subst q3
      have q1 : vs.length ≤ 9223372036854775807 := Nat.le_of_ble_eq_true q1
      have hpos : 0 < vs.length := by cases vs with | nil => exact absurd rfl q2 | cons => simp
      obtain ⟨v', rfl, hv⟩ := tagA_LR hl
      refine ans_up ((((oweS_up _ _ _ _ _ _ _ _).trans (Up.owe _ _)).trans (Up.owe _ _)).trans (Up.owe _ _)) rfl ?_
      cases hv with
      | slTight _ hc _ => exact absurd hc (Nat.lt_irrefl _)
      | @slLoose a a' n c' im hs hi hn hd =>
        rcases hd with ⟨hd, _⟩ | hd
        · obtain ⟨im2, h2, rfl⟩ := hd.eq
          refine Ans.mono (tagS_ans hq (row_read hr h2 ho q1) hn) fun v w' he => ?_
          exact ⟨he.1, Step.grown hr he.2⟩
        · omega
end Go.Proofs.YtkmbkejmfffafaaGreatDoor.Refl
namespace Go.Proofs.YtkmbkejmfffafaaGreatDoor.Refl
open Go Go.RowKit
set_option linter.unusedVariables false
set_option linter.unusedSimpArgs false
set_option maxRecDepth 100000
def PureAt (f : Nat) (o : AObj) (av : List Value) (r : Value) : Prop :=
  ∀ (b : Nat) (h : AH) (ρ : Ren) (w : World) (args' : List Value), 12 ≤ b → h.obj b = o → GL 12 ρ → Rel Tryz.prog.cellsOf ρ h w → LR ρ (ptrV b 0 :: av) args' →
    Ans Tryz.prog f args'.toArray w fun v w' => v = r ∧ Step Tryz.prog.cellsOf ρ h w ρ h w'
structure AtT where
  b : Nat
  o : AObj
  av : List Value
  r : Value
noncomputable def hAt (s : Bool) (o : AObj) (orc : List (Nat × Bool)) : AH := { t := (Tr.nil.set 12 o), n := 13, log := [], sym := s, cnt := 0, orc := orc, ob := [] }
theorem hAt_obj (s : Bool) (o : AObj) (orc : List (Nat × Bool)) (x : Nat) : (hAt s o orc).obj x = if x = 12 then o else .dead := by
  rw [AH.obj_def]
  show (if x < 13 then objIn (Tr.nil.set 12 o) x else .dead) = _
  rw [objIn_set]
  have : objIn (Tr.nil : Tr AObj) x = .dead := by unfold objIn; rw [Tr.get_nil]
  rw [this]
  by_cases hx : x = 12
  · subst hx; simp
  · simp [hx]
theorem at_ok {E : Env} (hE : EnvF Tryz.prog E 12) {n f : Nat} {o : AObj} {av : List Value} {orc : List (Nat × Bool)} {s : Bool} {r : Value} {h1 : AH} (hx : acall E n f (ptrV 12 0 :: av) (hAt s o orc) = some (r, h1)) (hob : OB h1) (hlog : h1.log = [])
    (ho : flatO o) (hd : o ≠ .dead) (hfa : ∀ v ∈ av, flat 5 v = true) (hfr : flat 5 r = true) : PureAt f o av r := by
  intro b h ρ w args' hb12 hb hg hr hl
  have hbn : b < h.n := lt_of_obj hb hd
  have sub : Sub (eOne b) (hAt s o orc) h := by
    refine ⟨fun x c hx => ?_, fun x y c hx hy => ?_, fun x c hx => ?_, fun x hx => ?_⟩
    · show x < 13
      rcases eOne_some hx with ⟨h1, _⟩ | ⟨h1, _⟩ <;> omega
    · rcases eOne_some hx with ⟨h1, h2⟩ | ⟨h1, h2⟩ <;> rcases eOne_some hy with ⟨h3, h4⟩ | ⟨h3, h4⟩ <;> omega
    · rw [hAt_obj]
      rcases eOne_some hx with ⟨h1, rfl⟩ | ⟨rfl, rfl⟩
      · rw [if_neg (by omega)]; exact .inl rfl
      · rw [if_pos rfl]
        exact .inr ⟨hbn, hb⟩
    · rw [hAt_obj]
      by_cases h1 : x = 12
      · rw [if_pos h1]; exact ho
      · rw [if_neg h1]; trivial
  have hargs : LR (fun x => (eOne b x).bind ρ) (ptrV 12 0 :: av) args' := by
    cases hl with
    | cons h1 h2 =>
      refine .cons ?_ (LR_flat hfa h2)
      cases h1 with
      | ptr ha =>
        obtain ⟨a1, a2, im, a3, a4, a5⟩ := ha
        exact .ptr ⟨rfl, a2, im, by simp [eOne]; exact a3, a4, a5⟩
  refine local_ok hE hx hob sub (fun g hlt => by unfold eOne; rw [if_pos hlt]) hg hr hargs hfr ?_
  refine ⟨rfl, fun _ _ _ => rfl, fun x b hx => by rw [hlog] at hx; simp at hx, fun b => ⟨.inl, fun k => ?_⟩, rfl⟩
  rcases k with k | ⟨x, k, _⟩
  · exact k
  · rw [hlog] at k; simp at k
end Go.Proofs.YtkmbkejmfffafaaGreatDoor.Refl
namespace Go.Proofs.YtkmbkejmfffafaaGreatDoor.Refl
open Go Go.RowKit
set_option linter.unusedVariables false
set_option linter.unusedSimpArgs false
set_option maxRecDepth 100000
noncomputable def digB (i : Nat) : Bool := match Nat.ble 48 i with
  | false => false
  | true => Nat.ble i 57
noncomputable def chkB : List Value → Nat → Bool
  | [], i => Nat.beq i 256
  | v :: l, i => match asBool v with
    | none => false
    | some b => match beqB b (digB i) with
      | false => false
      | true => chkB l (Nat.succ i)
noncomputable def rowF : Nat → Nat → List Value
  | 0, _ => []
  | n + 1, i => .bool (digB i) :: rowF n (i + 1)
theorem chkB_eq : ∀ (l : List Value) (i : Nat), chkB l i = true → l = rowF l.length i ∧ i + l.length = 256
  | [], i, h => ⟨rfl, by have := Nat.eq_of_beq_eq_true h; simpa using this⟩
  | v :: l, i, h => by
    unfold chkB at h
    cases hb : asBool v with
    | none => simp [hb] at h
    | some b =>
    simp only [hb] at h
    cases hd : beqB b (digB i) with
    | false => simp [hd] at h
    | true =>
    simp only [hd] at h
    obtain ⟨h1, h2⟩ := chkB_eq l (i + 1) h
    have hv : v = .bool b := by cases v <;> simp [asBool] at hb; rw [hb]
    have hbd : b = digB i := by rw [beqB_eq] at hd; simpa using hd
    refine ⟨?_, by simp; omega⟩
    show v :: l = .bool (digB i) :: rowF l.length (i + 1)
    rw [hv, hbd, ← h1]
noncomputable def digO : AObj := .cells (rowF 256 0) 217 0 0
theorem rowF_flat : ∀ (n i : Nat), ∀ v ∈ rowF n i, flat 5 v = true
  | 0, _, v, h => by cases h
  | n + 1, i, v, h => by
    rcases List.mem_cons.1 h with rfl | h
    · rfl
    · exact rowF_flat n (i + 1) v h
noncomputable def isDigO (o : AObj) : Bool := match o with
  | .cells cs e fz kd => match Nat.beq e 217 with
    | false => false
    | true => match Nat.beq fz 0 with
      | false => false
      | true => match Nat.beq kd 0 with
        | false => false
        | true => chkB cs 0
  | _ => false
theorem isDigO_eq {o : AObj} (h : isDigO o = true) : o = digO := by
  unfold isDigO at h
  cases o with
  | cells cs e fz kd =>
    simp only at h
    cases h1 : Nat.beq e 217 with
    | false => simp [h1] at h
    | true =>
    simp only [h1] at h
    cases h2 : Nat.beq fz 0 with
    | false => simp [h2] at h
    | true =>
    simp only [h2] at h
    cases h3 : Nat.beq kd 0 with
    | false => simp [h3] at h
    | true =>
    simp only [h3] at h
    obtain ⟨k1, k2⟩ := chkB_eq cs 0 h
    have k2 : cs.length = 256 := by omega
    rw [k2] at k1
    rw [Nat.eq_of_beq_eq_true h1, Nat.eq_of_beq_eq_true h2, Nat.eq_of_beq_eq_true h3, k1]; rfl
  | _ => cases h
noncomputable def conGood (m : Nat) : Bool := match acall (envT []) 60 167 [ptrV 12 0, .int .u8 (Int.ofNat m)] (hAt false digO []) with
  | some q => match q with
    | (v, h) => match asBool v with
      | some b => match b with
        | true => clean h
        | false => false
      | none => false
  | none => false
theorem conAll : allB conGood [48, 49, 50, 51, 52, 53, 54, 55, 56, 57] = true := by kernel_rfl
theorem con_at {m : Nat} (h1 : 48 ≤ m) (h2 : m ≤ 57) : PureAt 167 digO [.int .u8 (Int.ofNat m)] (.bool true) := by
  have hg : conGood m = true := (allB_eq _ _).1 conAll m (by simp; omega)
  unfold conGood at hg
  cases ha : acall (envT []) 60 167 [ptrV 12 0, .int .u8 (Int.ofNat m)] (hAt false digO []) with
  | none => rw [ha] at hg; cases hg
  | some q =>
  obtain ⟨v, h1⟩ := q
  rw [ha] at hg
  simp only at hg
  cases hb : asBool v with
  | none => simp [hb] at hg
  | some b =>
  simp only [hb] at hg
  cases b with
  | false => simp at hg
  | true =>
  simp only at hg
  obtain ⟨c1, c2⟩ := clean_some hg
  have hv : v = .bool true := by cases v <;> simp [asBool] at hb; rw [hb]
  subst hv
  exact at_ok envT0 ha c1 c2 (rowF_flat _ _) (fun h => by cases h) (fun v hv => by simp at hv; subst hv; rfl) rfl
noncomputable def xCon2 (b : Nat) (y : Value) (h : AH) : AR := match asInt y with
  | none => none
  | some i => match kEq .u8 i.k with
    | false => none
    | true => match natI i.n with
      | none => none
      | some m => match isDigO (h.obj b) with
        | false => none
        | true => some (.bool true, (h.owe (Nat.ble 48 m)).owe (Nat.ble m 57))
noncomputable def xCon : XF := x2 fun x y h => match asPtr x with
  | none => none
  | some p => match p with
    | ⟨b, off⟩ => match Nat.beq off 0 with
      | false => none
      | true => match Nat.ble 12 b with
        | false => none
        | true => xCon2 b y h
theorem xCon_some {args : List Value} {h h1 : AH} {r : Value} (hx : xCon args h = some (r, h1)) :
    ∃ b m, args = [ptrV b 0, .int .u8 (Int.ofNat m)] ∧ 12 ≤ b ∧ h.obj b = digO ∧ r = .bool true ∧ h1 = (h.owe (Nat.ble 48 m)).owe (Nat.ble m 57) := by
  obtain ⟨x, y, rfl, hx'⟩ := y2_some hx
  clear hx
  have hx := hx'
  clear hx'
  cases hp : asPtr x with
  | none => simp [hp] at hx
  | some q =>
  obtain ⟨b, off⟩ := q
  simp only [hp] at hx
  cases h0 : Nat.beq off 0 with
  | false => simp [h0] at hx
  | true =>
  simp only [h0] at hx
  obtain rfl := Nat.eq_of_beq_eq_true h0
  cases hbb : Nat.ble 12 b with
  | false => simp [hbb] at hx
  | true =>
  simp only [hbb] at hx
  unfold xCon2 at hx
  cases hi : asInt y with
  | none => simp [hi] at hx
  | some i =>
  simp only [hi] at hx
  cases hk : kEq .u8 i.k with
  | false => simp [hk] at hx
  | true =>
  simp only [hk] at hx
  cases hn : natI i.n with
  | none => simp [hn] at hx
  | some m =>
  simp only [hn] at hx
  cases hd : isDigO (h.obj b) with
  | false => simp [hd] at hx
  | true =>
  simp only [hd, Option.some.injEq, Prod.mk.injEq] at hx
  have hm : i.n = Int.ofNat m := by
    cases hin : i.n with
    | ofNat k => rw [hin] at hn; have : some k = some m := hn; cases this; rfl
    | negSucc k => rw [hin] at hn; cases hn
  refine ⟨b, m, ?_, Nat.le_of_ble_eq_true hbb, isDigO_eq hd, hx.1.symm, hx.2.symm⟩
  have e1 := asInt_some hi
  rw [hm, ← kEq_true hk] at e1
  rw [e1, asPtr_some hp]; rfl
theorem xCon_ok : ExtOK Tryz.prog 12 167 xCon where
  fwd := fun args h r h1 hx => by
    obtain ⟨b, m, _, _, _, _, rfl⟩ := xCon_some hx
    exact ((Up.owe _ _).trans (Up.owe _ _)).fwd
  run := fun args h r h1 hx hob ρ w args' hg hr hf hl => by
    obtain ⟨b, m, rfl, hb, ho, rfl, rfl⟩ := xCon_some hx
    obtain ⟨hob, q1⟩ := ob_owe hob
    obtain ⟨hob, q2⟩ := ob_owe hob
    exact ans_up ((Up.owe _ _).trans (Up.owe _ _)) rfl (con_at (Nat.le_of_ble_eq_true q2) (Nat.le_of_ble_eq_true q1) b h ρ w args' hb ho hg hr hl)
end Go.Proofs.YtkmbkejmfffafaaGreatDoor.Refl
