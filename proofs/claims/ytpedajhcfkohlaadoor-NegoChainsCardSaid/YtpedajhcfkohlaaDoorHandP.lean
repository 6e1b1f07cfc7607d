import Derived.Test.YtpedajhcfkohlaaDoorHandT
/- The walk of tag.Parse. -/
namespace Go.Proofs.YtpedajhcfkohlaaDoorHand
open Go.RowKit Go.Proofs.YtpedajhcfkohlaaDoor.PLow Go.Proofs.YtpedajhcfkohlaaDoorW.PrintWords Go.Proofs.YtpedajhcfkohlaaDoorW.PrintLast Go.Proofs.YtpedajhcfkohlaaDoorW.PrintMore
attribute [local go_sem] max2_int min2_int max_two min_two max_three min_three max_four min_four
set_option linter.unusedVariables false
set_option linter.unusedSimpArgs false
abbrev Told := ByteArray × ByteArray × ByteArray × List ByteArray × Bool
def notTold : Told := ((⟨#[]⟩ : ByteArray), (⟨#[]⟩ : ByteArray), (⟨#[]⟩ : ByteArray), ([] : List ByteArray), false)
def P3 (lang scr reg : ByteArray) : List ByteArray → List ByteArray → Told
  | [], acc => (lang, scr, reg, acc, true)
  | p :: ps, acc => if varB p = true then (if hasS acc (foldS false p) = true then notTold else P3 lang scr reg ps (acc ++ [foldS false p])) else notTold
def P2 (lang scr : ByteArray) : List ByteArray → Told
  | [] => P3 lang scr (⟨#[]⟩ : ByteArray) [] []
  | p :: ps => if regB p = true then P3 lang scr (foldS true p) ps [] else P3 lang scr (⟨#[]⟩ : ByteArray) (p :: ps) []
def scrS (p : ByteArray) : ByteArray := foldS true (p.extract 0 1) ++ foldS false (p.extract 1 p.size)
def P1 (lang : ByteArray) : List ByteArray → Told
  | [] => P2 lang (⟨#[]⟩ : ByteArray) []
  | p :: ps => if scrB p = true then P2 lang (scrS p) ps else P2 lang (⟨#[]⟩ : ByteArray) (p :: ps)
def headIs (P : ByteArray → Bool) : List ByteArray → Bool
  | [] => false
  | q :: _ => P q
def badB (p : ByteArray) : Bool := decide (p.size < 2) || decide (p.size > 3) || !(allB letB p)
def P0 : List ByteArray → Told
  | [] => notTold
  | p :: ps => if badB p = true then notTold else P1 (foldS false p) ps
def tag_Parse.f (s : ByteArray) : Option Told := (strings_Split.f s (⟨#[45]⟩ : ByteArray)).bind fun l => if 0 < l.length ∧ l.length < 1000000 ∧ (∀ p ∈ l, p.size < 1000000) then some (P0 l) else none
def tag_Parse.T8 : Bool × List (List Nat × List Nat) := (true, [([], []), ([0], [0]), ([1], [1]), ([2], [2]), ([3], [3]), ([], []), ([5], [5]), ([6], [6]), ([7], [7]), ([8, 4], [8]), ([4, 9], [4, 9]), ([0, 1, 2, 3, 4, 5, 6, 7, 8, 9, 10], []), ([11, 10, 9, 0, 1, 2, 3, 4, 5, 6, 7, 8, 9, 10], [10, 11])])
def tag_Parse.B8 : List Nat := [0, 1, 3, 7, 15, 0, 32, 96, 224, 511, 1023, 2047, 4095]
theorem tag_Parse.tab8 : rtab .any (opsOf Tryd.f15 8) = tag_Parse.T8 := by kernel_rfl
theorem tag_Parse.bits8 : waitsOk tag_Parse.T8.2 tag_Parse.B8 = true := by kernel_rfl
/-- What is read out of a block's row doesn't lie in another block. -/
theorem read_ne {W : World} {gP g : Nat} {cellsP : Array Value} {ad : Addr} {xs : List ByteArray} (hCP : ∀ W : World, W.heap[gP]? = some (.cells cellsP 9 (0, 0)) → Kd.C Kd.string W (some ad) xs.length xs) (hb : W.heap[gP]? = some (.cells cellsP 9 (0, 0))) (hne : gP ≠ g) (hn : 0 < xs.length) : ad.block ≠ g :=
  Kd.foot_ne (W := W) (fun W' hk => hCP W' ((hk.2 gP (blk_lt hb) hne (by simp)).trans hb)) hn (by decide)
/-- The block of a row that is not empty: while it stands, the row is read as it is. -/
theorem row_block {w : World} {base : Nat} {ok : Nat → Prop} {ad : Addr} {c : Nat} {l : List ByteArray} (h : Kd.R Kd.string 9 w base ok (.slice (some ad) l.length c) l) (hn : 0 < l.length) :
    ∃ cellsP : Array Value, w.heap[ad.block]? = some (.cells cellsP 9 (0, 0)) ∧ l.length ≤ c ∧ base ≤ ad.block ∧ ∀ W : World, W.heap[ad.block]? = some (.cells cellsP 9 (0, 0)) → Kd.C Kd.string W (some ad) l.length l := by
  have hr := Kd.R_reads' h
  have hF := Kd.R_F (Kd.R_tight (d := Kd.string) rfl h)
  obtain ⟨hb1, hb2, q, hq, cells, hcells⟩ := (Kd.R_bound (Kd.R_tight (d := Kd.string) rfl h)).1 ad.block rfl |>.2
  have hq9 : q = 9 := by
    have h2 : q ∈ ([9] : List Nat) := hq
    simpa using h2
  subst hq9
  refine ⟨_, hcells, hr.2.1, hb1, fun W hW => hF W (fun k hk _ => ?_)⟩
  have e : k = ad.block := Option.some.inj hk
  rw [e, hW, hcells]
/-- A row that is read, without its first element. -/
theorem cut_one {g : Nat} {oP : Obj} (A : Option Addr) (l : List ByteArray) (c : Nat) (p : ByteArray) (ps : List ByteArray) (hl : l = p :: ps) (hc : l.length ≤ c) (hCP : ∀ W : World, W.heap[g]? = some oP → Kd.C Kd.string W A l.length l) :
    ∃ A' c', (∀ W : World, (Instr.slice 23 (.slice A l.length c) (some (.int .i64 1)) none none).run Tryd.prog W = .ok (.slice A' ps.length c') W) ∧ ps.length ≤ c' ∧ ∀ W : World, W.heap[g]? = some oP → Kd.C Kd.string W A' ps.length ps := by
  have hlen : l.length = ps.length + 1 := by rw [hl]; rfl
  obtain ⟨i0, hi0, _, hsz, _⟩ := info_parts info9
  have h := cut_from (P := Tryd.prog) 23 9 .i64 Tryd.underlying23 hi0 1 hsz A l.length c 1 (by omega) (by omega)
  refine ⟨(if c = 1 then A else A.map (·.add (1 * 1))), c - 1, fun W => (h W).trans ?_, ?_, fun W hW => ?_⟩
  · have e : l.length - (1 : Int).toNat = ps.length := by rw [hlen]; rfl
    rw [e]; rfl
  · omega
  · have k := Kd.C_drop (m := 1) (c := c) (hCP W hW) (by omega) hc
    have e : l.drop 1 = ps := by rw [hl]; rfl
    rw [e] at k
    exact k
set_option maxHeartbeats 8000000 in
set_option maxRecDepth 100000 in
theorem tag_Parse.calls (a0 : ByteArray) (r1 : ByteArray) (r2 : ByteArray) (r3 : ByteArray) (r4 : List ByteArray) (r5 : Bool) (w : World) (h : tag_Parse.f a0 = some (r1, r2, r3, r4, r5)) (hG : GW w := by first | exact hG | exact GW.drewN hG _ | exact GW.below hG (by first | exact HB.out | (with_reducible exact HB.out) | (repeat (first | (with_reducible first | exact HB.out | apply below_alloc | apply pw_below_drewN | apply below_drew1) | (refine below_setA ?_ (by assumption)) | exact HB.out)))) :
    Calls Tryd.prog 15 #[.string a0] w fun e w' => ∃ v3_ : Value, e = .returned (.tuple #[.agg #[.string r1, .string r2, .string r3, v3_], .bool r5]) ∧ Kd.R Kd.string 9 w' w.heap.size (fun _ => True) v3_ r4 ∧ Below w.heap.size w w' := by
  have hu25 := Tryd.underlying25
  have HB := Aside0.mk (Below.refl w.heap.size w)
  unfold tag_Parse.f at h
  obtain ⟨l, A20, h⟩ := Option.bind_eq_some_iff.mp h
  by_cases hall : 0 < l.length ∧ l.length < 1000000 ∧ (∀ p ∈ l, p.size < 1000000)
  case neg => rw [if_neg hall] at h; cases h
  rw [if_pos hall] at h
  obtain ⟨hl0, hl1, hsz⟩ := hall
  have H := Aside0.mk (Option.some.inj h)
  clear h
  have A2 := Aside0.mk A20
  clear A20
  obtain ⟨p0, ps, hlp⟩ : ∃ p0 ps, l = p0 :: ps := by
    cases l with
    | nil => simp at hl0
    | cons p ps => exact ⟨p, ps, rfl⟩
  have e0 : rdOf ByteArray.empty l 0 = p0 := by rw [hlp]; rfl
  have HL := Aside0.mk hlp
  have hp0 : p0.size < 1000000 := hsz p0 (by rw [hlp]; simp)
  have HSZ := Aside0.mk hsz
  clear hlp hsz
  have c3b0 : decide (0 < (l.length : Int)) = true := decide_eq_true (by omega)
  have c3b1 : decide (0 < l.length) = true := decide_eq_true hl0
  go_enter Tryd.func15, Tryd.ntmps15
  go_upto_region 3 with (first | ((with_reducible refine gate_dst (N := 2) rfl ?_); refine box_event ?hg (N := 2) ?hd (cs := #[.string (⟨#[]⟩ : ByteArray), .string (⟨#[]⟩ : ByteArray), .string (⟨#[]⟩ : ByteArray), .slice none 0 0]) (t := 25) ?hr ?_; (case hd => rfl); (case hg => rfl); (case hr => first | (go_simp; done) | (go_simp; rfl)); intro gb115 hg w5 hbox hb; have n0_ := Aside0.mk (below_step (by repeat (first | (with_reducible first | exact HB.out | apply below_alloc | apply pw_below_drewN | apply below_drew1) | exact HB.out)) hb); have n1_ := Aside0.mk (hbox); have n2_ := Aside0.mk ((by rw [hg]; exact (below_size (by repeat (first | (with_reducible first | exact HB.out | apply below_alloc | apply pw_below_drewN | apply below_drew1) | exact HB.out))) : w.heap.size ≤ gb115)); have n3_ := Aside0.mk ((by rw [hg]; exact (below_size (by repeat (first | (with_reducible first | exact HB.out | apply below_alloc | apply pw_below_drewN | apply below_drew1) | exact HB.out))) : w.heap.size ≤ gb115)); clear HB; have HB := n0_; have BK115 := n1_; have GW115 := n2_; have GE115 := n3_; clear n0_ n1_ n2_ n3_; clear hb hbox hg) | ((with_reducible refine gate_callee (f := 35) rfl ?_); refine goesL_ (some 12) rfl rfl Tryd.func35 (by kernel_rfl) rfl #[.string a0, .string (⟨#[45]⟩ : ByteArray)] rfl (by (try simp only [List.map_toArray, List.map_cons, List.map_nil]); first | done | rfl | (simp only [List.length_drop, List.length_take]; rfl)) ?_; (with_reducible refine (strings_Split.calls a0 (⟨#[45]⟩ : ByteArray) l _ A2.out).mono ?_); rintro e w6 ⟨v117, rfl, ho0, hb⟩; refine ⟨_, rfl, ?_⟩; have n0_ := Aside0.mk (Kd.R_lower ho0 (below_size (by repeat (first | (with_reducible first | exact HB.out | apply below_alloc | apply pw_below_drewN | apply below_drew1 | refine below_set ?_ GE115.out) | exact HB.out)))); have n1_ := Aside0.mk (blk_below (g := gb115) (o := .cells #[.string (⟨#[]⟩ : ByteArray), .string (⟨#[]⟩ : ByteArray), .string (⟨#[]⟩ : ByteArray), .slice none 0 0] 25 (0, 0)) (by (with_reducible repeat (first | refine blk_drewN ?_ _ | refine blk_drew ?_ | refine blk_alloc ?_ _)); exact BK115.out) hb); have n2_ := Aside0.mk (below_step (by repeat (first | (with_reducible first | exact HB.out | apply below_alloc | apply pw_below_drewN | apply below_drew1 | refine below_set ?_ GE115.out) | exact HB.out)) hb); clear BK115; clear HB; have HO118 := n0_; have BK115 := n1_; have HB := n2_; clear n0_ n1_ n2_; (try clear hb); (try clear hb2); (try clear hk); (try clear hi); (try clear ho0); obtain ⟨Ao7, co7, eo7⟩ := Kd.R_slice HO118.out; subst eo7; have p119 : 0 ≤ (0 : Int) := (by omega); have q119 : 0 < (l.length : Int) := of_decide_eq_true (by first | (with_reducible assumption) | assumption); obtain ⟨ad119, e119, hx119_0⟩ := Kd.at_string (Kd.R_reads' HO118.out).2.2 0 p119 q119; cases e119; have qi119 : (0 < l.length) = True := eq_true (by omega); (try rw [show ((0 : Int)).toNat = 0 from rfl] at hx119_0); (try rw [Addr.add_zero'] at hx119_0); replace p119 := eq_true p119; replace q119 := eq_true q119))
  (try simp only [Act.put, List.setIfInBounds_toArray, List.set_cons_zero, List.set_cons_succ])
  rw [e0] at hx119_0
  obtain ⟨cellsP, hoP, hcl, hbP, hCP⟩ := row_block HO118.out hl0
  have BKP := Aside0.mk hoP
  have HCP := Aside0.mk hCP
  have HCL := Aside0.mk hcl
  have HBP := Aside0.mk hbP
  have NB := Aside0.mk (show gb115 ≠ ad119.block from fun e => by rw [← e, BK115.out] at hoP; injection hoP with h1; injection h1 with _ h2; cases h2)
  clear hoP hCP hcl hbP HO118 A2 h
  go_cut [29] (fun v29 wc => v29 = .bool (badB p0) ∧ Aside0 (wc.heap[ad119.block]? = some (.cells cellsP 9 (0, 0))) ∧ Aside0 (wc.heap[gb115]? = some (.cells #[.string (⟨#[]⟩ : ByteArray), .string (⟨#[]⟩ : ByteArray), .string (⟨#[]⟩ : ByteArray), (.slice none 0 0)] 25 (0, 0))) ∧ Aside0 (Below w.heap.size w wc))
  case first =>
    by_cases c8 : (p0.size : Int) < 2
    · have c8b0 : decide ((p0.size : Int) < 2) = true := decide_eq_true c8
      have cb : badB p0 = true := by unfold badB; rw [decide_eq_true (by omega)]; rfl
      go_wp2
      go_meet
      case rel => exact ⟨by rw [cb], BKP, BK115, HB⟩
    · have c8b0 : decide ((p0.size : Int) < 2) = false := decide_eq_false c8
      by_cases c9 : (p0.size : Int) > 3
      · have c9b0 : decide (3 < (p0.size : Int)) = true := decide_eq_true c9
        have cb : badB p0 = true := by unfold badB; rw [decide_eq_true (p := p0.size > 3) (by omega), Bool.or_true]; rfl
        go_wp2
        go_meet
        case rel => exact ⟨by rw [cb], BKP, BK115, HB⟩
      · have c9b0 : decide (3 < (p0.size : Int)) = false := decide_eq_false c9
        have cb : badB p0 = !(allB letB p0) := by unfold badB; rw [decide_eq_false (by omega), decide_eq_false (by omega)]; rfl
        go_wp2_with (first | (go_at_call 36; (with_reducible refine (letters_calls p0 (by omega) _).mono ?_); rintro e w' ⟨rfl, ⟨nd, rfl⟩⟩))
        go_meet
        case rel => exact ⟨by rw [cb], BKP, BK115, ⟨pw_below_drewN HB.out _⟩⟩
  case rest =>
    obtain ⟨rfl, BKP, BK115, HB⟩ := hcut
    by_cases c11 : badB p0 = true
    · have hu25' := hu25
      have e1 : notTold = (r1, r2, r3, r4, r5) := by rw [← H.out, HL.out]; simp only [P0]; rw [if_pos c11]
      simp only [notTold, Prod.mk.injEq] at e1
      obtain ⟨rfl, rfl, rfl, rfl, rfl⟩ := e1
      clear H
      rw [c11]
      have hcz0 : wc.cell? ⟨gb115, 0, none⟩ = some (.string (⟨#[]⟩ : ByteArray)) := (blk_cell BK115.out 0).trans rfl
      have hfz0 := blk_frozen BK115.out 0
      have hcz1 : wc.cell? ⟨gb115, 1, none⟩ = some (.string (⟨#[]⟩ : ByteArray)) := (blk_cell BK115.out 1).trans rfl
      have hfz1 := blk_frozen BK115.out 1
      have hcz2 : wc.cell? ⟨gb115, 2, none⟩ = some (.string (⟨#[]⟩ : ByteArray)) := (blk_cell BK115.out 2).trans rfl
      have hfz2 := blk_frozen BK115.out 2
      have hcz3 : wc.cell? ⟨gb115, 3, none⟩ = some (.slice none 0 0) := (blk_cell BK115.out 3).trans rfl
      have hfz3 := blk_frozen BK115.out 3
      go_wp2
      refine bodyPost_ret (results_ct rfl _ _ gb115 25 #[.string (⟨#[]⟩ : ByteArray), .string (⟨#[]⟩ : ByteArray), .string (⟨#[]⟩ : ByteArray), .slice none 0 0] (0, 0) _ rfl (by (with_reducible repeat (first | refine blk_drewN ?_ _ | refine blk_drew ?_ | refine blk_alloc ?_ _)); refine blk_put (cs := #[.string (⟨#[]⟩ : ByteArray), .string (⟨#[]⟩ : ByteArray), .string (⟨#[]⟩ : ByteArray), .slice none 0 0]) ?_ 3 _ rfl; (with_reducible repeat (first | refine blk_drewN ?_ _ | refine blk_drew ?_ | refine blk_alloc ?_ _)); refine blk_put (cs := #[.string (⟨#[]⟩ : ByteArray), .string (⟨#[]⟩ : ByteArray), .string (⟨#[]⟩ : ByteArray), .slice none 0 0]) ?_ 2 _ rfl; (with_reducible repeat (first | refine blk_drewN ?_ _ | refine blk_drew ?_ | refine blk_alloc ?_ _)); refine blk_put (cs := #[.string (⟨#[]⟩ : ByteArray), .string (⟨#[]⟩ : ByteArray), .string (⟨#[]⟩ : ByteArray), .slice none 0 0]) ?_ 1 _ rfl; (with_reducible repeat (first | refine blk_drewN ?_ _ | refine blk_drew ?_ | refine blk_alloc ?_ _)); refine blk_put (cs := #[.string (⟨#[]⟩ : ByteArray), .string (⟨#[]⟩ : ByteArray), .string (⟨#[]⟩ : ByteArray), .slice none 0 0]) ?_ 0 _ rfl; (with_reducible repeat (first | refine blk_drewN ?_ _ | refine blk_drew ?_ | refine blk_alloc ?_ _)); exact BK115.out) Tryd.underlying25 rfl (by kernel_rfl)) rfl ?_
      exact ⟨_, by first | rfl | (simp [errW_none, errW_some] <;> rfl) | (simp [*, errW_none, errW_some] <;> rfl), Kd.R_nil _ _ _ _ _, (by repeat (first | (with_reducible first | exact HB.out | apply below_alloc | apply pw_below_drewN | apply below_drew1 | refine below_set ?_ GE115.out) | exact HB.out))⟩
    · have hu25' := hu25
      replace c11 : badB p0 = false := Bool.eq_false_iff.mpr c11
      have H1 := Aside0.mk (show P1 (foldS false p0) ps = (r1, r2, r3, r4, r5) by rw [← H.out, HL.out]; simp only [P0]; rw [if_neg (by rw [c11]; simp)])
      clear H
      rw [c11]
      obtain ⟨A1, c1, hcut1, hc1, hC1⟩ := cut_one (some ad119) l co7 p0 ps HL.out HCL.out HCP.out
      have HC1 := Aside0.mk hc1
      have HCP1 := Aside0.mk hC1
      clear hc1 hC1
      have hx := (HCP.out wc BKP.out)
      obtain ⟨ad2, e2, hx0⟩ := Kd.at_string hx 0 (Int.le_refl _) (by omega)
      cases e2
      rw [e0] at hx0
      (try rw [show ((0 : Int)).toNat = 0 from rfl] at hx0)
      (try rw [Addr.add_zero'] at hx0)
      clear hx
      have c119 : (0 < (l.length : Int)) = True := eq_true (by omega)
      have c1l : ((1 : Int) ≤ (l.length : Int)) = True := eq_true (by omega)
      go_upto_region 7 with (first | ((with_reducible refine gate_callee (f := 38) rfl ?_); refine goesL_ (some 34) rfl rfl Tryd.func38 (by kernel_rfl) rfl #[.string p0, .bool false] rfl (by (try simp only [List.map_toArray, List.map_cons, List.map_nil]); first | done | rfl | (simp only [List.length_drop, List.length_take]; rfl)) ?_; (with_reducible refine (fold_calls p0 false (by omega) _).mono ?_); rintro e w7 ⟨rfl, hb⟩; refine ⟨_, rfl, ?_⟩; have n0_ := Aside0.mk (blk_below (g := ad119.block) (by (with_reducible repeat (first | refine blk_drewN ?_ _ | refine blk_drew ?_ | refine blk_alloc ?_ _)); exact BKP.out) hb); have n1_ := Aside0.mk (blk_below (g := gb115) (o := .cells #[.string (⟨#[]⟩ : ByteArray), .string (⟨#[]⟩ : ByteArray), .string (⟨#[]⟩ : ByteArray), .slice none 0 0] 25 (0, 0)) (by (with_reducible repeat (first | refine blk_drewN ?_ _ | refine blk_drew ?_ | refine blk_alloc ?_ _)); exact BK115.out) hb); have n2_ := Aside0.mk (below_step (by repeat (first | (with_reducible first | exact HB.out | apply below_alloc | apply pw_below_drewN | apply below_drew1 | refine below_set ?_ GE115.out) | exact HB.out)) hb); clear BKP BK115 HB; have BKP := n0_; have BK115 := n1_; have HB := n2_; clear n0_ n1_ n2_ hb) | ((with_reducible refine gate_dst (N := 6) rfl ?_); refine box_event ?hg (N := 6) ?hd (cs := #[.string (⟨#[]⟩ : ByteArray), .string (⟨#[]⟩ : ByteArray), .string (⟨#[]⟩ : ByteArray), .slice none 0 0]) (t := 25) ?hr ?_; (case hd => rfl); (case hg => rfl); (case hr => first | (go_simp; done) | (go_simp; rfl)); intro gb124 hg w8 hbox hb; have n0_ := Aside0.mk (blk_below (g := ad119.block) (by (with_reducible repeat (first | refine blk_drewN ?_ _ | refine blk_drew ?_ | refine blk_alloc ?_ _)); exact BKP.out) hb); have n1_ := Aside0.mk (blk_below (g := gb115) (o := .cells #[.string (⟨#[]⟩ : ByteArray), .string (⟨#[]⟩ : ByteArray), .string (⟨#[]⟩ : ByteArray), .slice none 0 0] 25 (0, 0)) (by (with_reducible repeat (first | refine blk_drewN ?_ _ | refine blk_drew ?_ | refine blk_alloc ?_ _)); exact BK115.out) hb); have n2_ := Aside0.mk (below_step (by repeat (first | (with_reducible first | exact HB.out | apply below_alloc | apply pw_below_drewN | apply below_drew1 | refine below_set ?_ GE115.out) | exact HB.out)) hb); have n3_ := Aside0.mk (hbox); have GE124 := Aside0.mk ((by rw [hg]; exact (below_size (by repeat (first | (with_reducible first | exact HB.out | apply below_alloc | apply pw_below_drewN | apply below_drew1 | refine below_set ?_ GE115.out) | exact HB.out))) : w.heap.size ≤ gb124)); have NBP := Aside0.mk ((by rw [hg]; exact Nat.ne_of_lt (blk_lt (g := ad119.block) (by (with_reducible repeat (first | refine blk_drewN ?_ _ | refine blk_drew ?_ | refine blk_alloc ?_ _)); exact BKP.out)) : ad119.block ≠ gb124)); have NB0 := Aside0.mk ((by rw [hg]; exact Nat.ne_of_lt (blk_lt (g := gb115) (o := .cells #[.string (⟨#[]⟩ : ByteArray), .string (⟨#[]⟩ : ByteArray), .string (⟨#[]⟩ : ByteArray), .slice none 0 0] 25 (0, 0)) (by (with_reducible repeat (first | refine blk_drewN ?_ _ | refine blk_drew ?_ | refine blk_alloc ?_ _)); exact BK115.out)) : gb115 ≠ gb124)); clear BKP BK115 HB; have BKP := n0_; have BK115 := n1_; have HB := n2_; have BK124 := n3_; clear n0_ n1_ n2_ n3_ hb hbox hg; have hcz0 : w8.cell? ⟨gb124, 0, none⟩ = some (.string (⟨#[]⟩ : ByteArray)) := (blk_cell BK124.out 0).trans rfl; have hfz0 := blk_frozen BK124.out 0; have hcz1 : w8.cell? ⟨gb124, 1, none⟩ = some (.string (⟨#[]⟩ : ByteArray)) := (blk_cell BK124.out 1).trans rfl; have hfz1 := blk_frozen BK124.out 1; have hcz2 : w8.cell? ⟨gb124, 2, none⟩ = some (.string (⟨#[]⟩ : ByteArray)) := (blk_cell BK124.out 2).trans rfl; have hfz2 := blk_frozen BK124.out 2; have hcz3 : w8.cell? ⟨gb124, 3, none⟩ = some (.slice none 0 0) := (blk_cell BK124.out 3).trans rfl; have hfz3 := blk_frozen BK124.out 3))
      (try simp only [Act.put, List.setIfInBounds_toArray, List.set_cons_zero, List.set_cons_succ])
      obtain ⟨w9, hw⟩ : ∃ w9 : World, w9 = ((((w8.setCell ⟨gb124, 0, none⟩ (.string (foldS false p0))).setCell ⟨gb124, 1, none⟩ (.string (⟨#[]⟩ : ByteArray))).setCell ⟨gb124, 2, none⟩ (.string (⟨#[]⟩ : ByteArray))).setCell ⟨gb124, 3, none⟩ (.slice none 0 0)) := ⟨_, rfl⟩
      rw [← hw]
      have n0_ : Aside0 (w9.heap[ad119.block]? = some (.cells cellsP 9 (0, 0))) := ⟨(by rw [hw]; exact blk_far (p := ⟨gb124, 3, none⟩) (blk_far (p := ⟨gb124, 2, none⟩) (blk_far (p := ⟨gb124, 1, none⟩) (blk_far (p := ⟨gb124, 0, none⟩) BKP.out NBP.out _) NBP.out _) NBP.out _) NBP.out _)⟩
      have n1_ : Aside0 (w9.heap[gb115]? = some (.cells #[.string (⟨#[]⟩ : ByteArray), .string (⟨#[]⟩ : ByteArray), .string (⟨#[]⟩ : ByteArray), .slice none 0 0] 25 (0, 0))) := ⟨(by rw [hw]; exact (by refine blk_far ?_ NB0.out _; refine blk_far ?_ NB0.out _; refine blk_far ?_ NB0.out _; refine blk_far ?_ NB0.out _; exact BK115.out))⟩
      have n2_ : Aside0 (w9.heap[gb124]? = some (.cells #[.string (foldS false p0), .string (⟨#[]⟩ : ByteArray), .string (⟨#[]⟩ : ByteArray), .slice none 0 0] 25 (0, 0))) := ⟨(by rw [hw]; exact (by (with_reducible repeat (first | refine blk_drewN ?_ _ | refine blk_drew ?_ | refine blk_alloc ?_ _)); refine blk_put (cs := #[.string (foldS false p0), .string (⟨#[]⟩ : ByteArray), .string (⟨#[]⟩ : ByteArray), .slice none 0 0]) ?_ 3 _ rfl; (with_reducible repeat (first | refine blk_drewN ?_ _ | refine blk_drew ?_ | refine blk_alloc ?_ _)); refine blk_put (cs := #[.string (foldS false p0), .string (⟨#[]⟩ : ByteArray), .string (⟨#[]⟩ : ByteArray), .slice none 0 0]) ?_ 2 _ rfl; (with_reducible repeat (first | refine blk_drewN ?_ _ | refine blk_drew ?_ | refine blk_alloc ?_ _)); refine blk_put (cs := #[.string (foldS false p0), .string (⟨#[]⟩ : ByteArray), .string (⟨#[]⟩ : ByteArray), .slice none 0 0]) ?_ 1 _ rfl; (with_reducible repeat (first | refine blk_drewN ?_ _ | refine blk_drew ?_ | refine blk_alloc ?_ _)); refine blk_put (cs := #[.string (⟨#[]⟩ : ByteArray), .string (⟨#[]⟩ : ByteArray), .string (⟨#[]⟩ : ByteArray), .slice none 0 0]) ?_ 0 _ rfl; (with_reducible repeat (first | refine blk_drewN ?_ _ | refine blk_drew ?_ | refine blk_alloc ?_ _)); exact BK124.out))⟩
      have n3_ : Aside0 (Below w.heap.size w w9) := ⟨(by rw [hw]; exact (by repeat (first | (with_reducible first | exact HB.out | apply below_alloc | apply pw_below_drewN | apply below_drew1 | refine below_set ?_ GE115.out | refine below_set ?_ GE124.out) | exact HB.out)))⟩
      clear hw BKP BK115 BK124 HB
      have BKP := n0_
      have BK115 := n1_
      have BK124 := n2_
      have HB := n3_
      clear n0_ n1_ n2_ n3_
      (try simp only [Act.put, List.setIfInBounds_toArray, List.set_cons_zero, List.set_cons_succ])
      have hlen1 : l.length = ps.length + 1 := by rw [HL.out]; rfl
      have HS1 := Aside0.mk (show (∀ p ∈ ps, p.size < 1000000) ∧ ps.length < 1000000 from ⟨fun p hp => HSZ.out p (by rw [HL.out]; exact List.mem_cons_of_mem _ hp), by omega⟩)
      clear hlen1
      go_cut [46] (fun v46 wc => v46 = .bool (headIs scrB ps) ∧ Aside0 (wc.heap[ad119.block]? = some (.cells cellsP 9 (0, 0))) ∧ Aside0 (wc.heap[gb115]? = some (.cells #[.string (⟨#[]⟩ : ByteArray), .string (⟨#[]⟩ : ByteArray), .string (⟨#[]⟩ : ByteArray), .slice none 0 0] 25 (0, 0))) ∧ Aside0 (wc.heap[gb124]? = some (.cells #[.string (foldS false p0), .string (⟨#[]⟩ : ByteArray), .string (⟨#[]⟩ : ByteArray), .slice none 0 0] 25 (0, 0))) ∧ Aside0 (Below w.heap.size w wc))
      case first =>
        have hcs : ps = [] ∨ ∃ q qs, ps = q :: qs := by
          cases ps with
          | nil => exact .inl rfl
          | cons q qs => exact .inr ⟨q, qs, rfl⟩
        rcases hcs with hps | ⟨q, qs, hps⟩
        · have cl : decide (0 < (ps.length : Int)) = false := decide_eq_false (by rw [hps]; simp)
          have cl2 : decide (0 < ps.length) = false := decide_eq_false (by rw [hps]; simp)
          have ch : headIs scrB ps = false := by rw [hps]; rfl
          clear hps
          go_wp2
          go_meet
          case rel => exact ⟨by rw [ch], BKP, BK115, BK124, HB⟩
        · have cl : decide (0 < (ps.length : Int)) = true := decide_eq_true (by rw [hps, List.length_cons]; omega)
          have cl2 : decide (0 < ps.length) = true := decide_eq_true (by rw [hps, List.length_cons]; omega)
          have cl0 : 0 < ps.length := by rw [hps]; simp
          have cl1 : (0 < (ps.length : Int)) = True := eq_true (by omega)
          have hq : q.size < 1000000 := HS1.out.1 q (by rw [hps]; simp)
          obtain ⟨ad3, e3, hx3⟩ := Kd.at_string (HCP1.out _ BKP.out) 0 (Int.le_refl _) (by omega)
          subst e3
          rw [show rdOf ByteArray.empty ps 0 = q by rw [hps]; rfl] at hx3
          (try rw [show ((0 : Int)).toNat = 0 from rfl] at hx3)
          (try rw [Addr.add_zero'] at hx3)
          have ch : headIs scrB ps = scrB q := by rw [hps]; rfl
          have HPS := Aside0.mk hps
          clear hps
          go_wp2_with (first | (go_at_call 39; (with_reducible refine (script_calls q (by omega) _).mono ?_); rintro e w' ⟨rfl, ⟨nd, rfl⟩⟩))
          go_meet
          case rel => exact ⟨by rw [ch], BKP, BK115, BK124, ⟨pw_below_drewN HB.out _⟩⟩
      case rest =>
        clear BKP BK115 BK124 HB
        obtain ⟨rfl, BKP, BK115, BK124, HB⟩ := hcut
        go_upto_if 46 with (fail)
        go_cut [7] (fun v7 wc => ∃ (scr : ByteArray) (rest : List ByteArray) (A : Option Addr) (c : Nat), v7 = .slice A rest.length c ∧ Aside0 (P2 (foldS false p0) scr rest = (r1, r2, r3, r4, r5)) ∧ Aside0 (rest.length ≤ c) ∧ Aside0 (∀ W : World, W.heap[ad119.block]? = some (.cells cellsP 9 (0, 0)) → Kd.C Kd.string W A rest.length rest) ∧ Aside0 ((∀ p ∈ rest, p.size < 1000000) ∧ rest.length < 1000000) ∧ Aside0 (wc.heap[ad119.block]? = some (.cells cellsP 9 (0, 0))) ∧ Aside0 (wc.heap[gb115]? = some (.cells #[.string (⟨#[]⟩ : ByteArray), .string (⟨#[]⟩ : ByteArray), .string (⟨#[]⟩ : ByteArray), .slice none 0 0] 25 (0, 0))) ∧ Aside0 (wc.heap[gb124]? = some (.cells #[.string (foldS false p0), .string scr, .string (⟨#[]⟩ : ByteArray), .slice none 0 0] 25 (0, 0))) ∧ Aside0 (Below w.heap.size w wc))
        case first =>
          by_cases cs : headIs scrB ps = true
          · obtain ⟨q, qs, hps⟩ : ∃ q qs, ps = q :: qs := by
              cases ps with
              | nil => cases cs
              | cons q qs => exact ⟨q, qs, rfl⟩
            have csq : scrB q = true := by rw [hps] at cs; exact cs
            have cq4 : q.size = 4 := by unfold scrB at csq; rw [Bool.and_eq_true, decide_eq_true_eq] at csq; exact csq.1
            rw [cs]
            have H2 := Aside0.mk (show P2 (foldS false p0) (scrS q) qs = (r1, r2, r3, r4, r5) by rw [← H1.out, hps]; simp only [P1]; rw [if_pos csq])
            have HPS := Aside0.mk hps
            have cl0 : 0 < ps.length := by rw [hps]; simp
            clear hps cs csq
            obtain ⟨A2, c2, hcut2, hc2, hC2⟩ := cut_one A1 ps c1 q qs HPS.out HC1.out HCP1.out
            have HC2 := Aside0.mk hc2
            have HCP2 := Aside0.mk hC2
            clear hc2 hC2
            have cl1 : (0 < (ps.length : Int)) = True := eq_true (by omega)
            have cl3 : ((1 : Int) ≤ (ps.length : Int)) = True := eq_true (by omega)
            obtain ⟨ad3, e3, hx3⟩ := Kd.at_string (HCP1.out _ BKP.out) 0 (Int.le_refl _) (by omega)
            subst e3
            rw [show rdOf ByteArray.empty ps 0 = q by rw [HPS.out]; rfl] at hx3
            (try rw [show ((0 : Int)).toNat = 0 from rfl] at hx3)
            (try rw [Addr.add_zero'] at hx3)
            have NA3 := Aside0.mk (read_ne HCP1.out BKP.out NBP.out cl0)
            have c20b0 : (1 ≤ (q.size : Int)) = True := eq_true (by omega)
            have c20b1 : decide (1 ≤ (q.size : Int)) = true := decide_eq_true (by omega)
            obtain ⟨y1, hy1⟩ : ∃ y, q.extract 0 1 = y := ⟨_, rfl⟩
            obtain ⟨y2, hy2⟩ : ∃ y, q.extract 1 q.size = y := ⟨_, rfl⟩
            have b1 : y1.size ≤ 4 := by rw [← hy1, ByteArray.size_extract]; omega
            have b2 : y2.size ≤ 4 := by rw [← hy2, ByteArray.size_extract]; omega
            have c25 : (foldS true y1).size + (foldS false y2).size ≤ 9223372036854775807 := by rw [foldS_size, foldS_size]; omega
            have c25b0 := eq_true c25
            have c25b1 : decide ((foldS true y1).size + (foldS false y2).size ≤ 9223372036854775807) = true := decide_eq_true c25
            have c25b2 : (9223372036854775807 < (foldS true y1).size + (foldS false y2).size) = False := eq_false (Nat.not_lt.2 c25)
            obtain ⟨y3, hy3⟩ : ∃ y, foldS true y1 ++ foldS false y2 = y := ⟨_, rfl⟩
            have HY := Aside0.mk (show scrS q = y3 by unfold scrS; rw [hy1, hy2, hy3])
            clear cq4
            go_upto_region 8 with (fail)
            (try simp only [Act.put, List.setIfInBounds_toArray, List.set_cons_zero, List.set_cons_succ])
            refine start_ (n := 13) (S := fun w' => w'.cell? ad3 = some (.string q) ∧ w'.cell? ad3 = some (.string q)) (ds := []) #[false, false, false, false, false, false, false, false, false, false, false, false, false] (by kernel_rfl) rfl rfl ⟨hx3, hx3⟩ (fun hHeld => ?_)
            refine with_tabW tag_Parse.tab8 tag_Parse.bits8 (fun HT_ HW_ => ?_)
            have n0_ := Aside0.mk (blk_drew BKP.out)
            have n1_ := Aside0.mk (blk_drew BK115.out)
            have n2_ := Aside0.mk (blk_drew BK124.out)
            have n3_ := Aside0.mk (below_drew1 HB.out)
            clear BKP BK115 BK124 HB hx3
            have BKP := n0_
            have BK115 := n1_
            have BK124 := n2_
            have HB := n3_
            clear n0_ n1_ n2_ n3_
            generalize wc.drew = w39 at BKP BK115 BK124 HB hHeld ⊢
            refine pure_ (i := 0) (N := some 47) (v := ?_) (a' := ?_) #[true, false, false, false, false, false, false, false, false, false, false, false, false] rfl rfl (any_of HT_.out (by kernel_rfl)) (fun _ _ _ h => h) (Or.inl ⟨by rfl, ?_⟩) ?_ ?_
            rotate_left
            · intro w'
              go_simp
              with_reducible rfl
            rotate_left
            · simp only [Act.put, List.setIfInBounds_toArray, List.set_cons_zero, List.set_cons_succ, i64_w, i32_w]
              rfl
            refine pure_ (i := 1) (N := some 48) (v := ?_) (a' := ?_) #[true, true, false, false, false, false, false, false, false, false, false, false, false] rfl rfl (any_of HT_.out (by kernel_rfl)) (fun _ _ _ h => h) (Or.inl ⟨by rfl, ?_⟩) ?_ ?_
            rotate_left
            · intro w'
              go_simp
              with_reducible rfl
            rotate_left
            · simp only [Act.put, List.setIfInBounds_toArray, List.set_cons_zero, List.set_cons_succ, i64_w, i32_w]
              rfl
            refine pure_ (i := 5) (N := some 52) (v := ?_) (a' := ?_) #[true, true, false, false, false, true, false, false, false, false, false, false, false] rfl rfl (any_of HT_.out (by kernel_rfl)) (fun _ _ _ h => h) (Or.inl ⟨by rfl, ?_⟩) ?_ ?_
            rotate_left
            · intro w'
              go_simp
              with_reducible rfl
            rotate_left
            · simp only [Act.put, List.setIfInBounds_toArray, List.set_cons_zero, List.set_cons_succ, i64_w, i32_w]
              rfl
            refine pure_ (i := 6) (N := some 53) (v := ?_) (a' := ?_) #[true, true, false, false, false, true, true, false, false, false, false, false, false] rfl rfl (any_of HT_.out (by kernel_rfl)) (fun _ _ _ h => h) (Or.inl ⟨by rfl, ?_⟩) ?_ ?_
            rotate_left
            · intro w'
              go_simp
              with_reducible rfl
            rotate_left
            · simp only [Act.put, List.setIfInBounds_toArray, List.set_cons_zero, List.set_cons_succ, i64_w, i32_w]
              rfl
            refine take_ (i := 2) (N := some 49) (v := ?_) (a' := ?_) #[true, true, true, false, false, true, true, false, false, false, false, false, false] rfl rfl (take_ofW HT_.out HW_.out (by kernel_rfl)) (fun _ _ _ h => h) (Or.inl ⟨by rfl, ?_⟩) hHeld ?_ ?_
            rotate_left
            · rintro w' ⟨s0, s1⟩
              go_simp
              with_reducible rfl
            rotate_left
            · simp only [Act.put, List.setIfInBounds_toArray, List.set_cons_zero, List.set_cons_succ, i64_w, i32_w]
              rfl
            refine pure_ (i := 3) (N := some 50) (v := ?_) (a' := ?_) #[true, true, true, true, false, true, true, false, false, false, false, false, false] rfl rfl (any_of HT_.out (by kernel_rfl)) (fun _ _ _ h => h) (Or.inl ⟨by rfl, ?_⟩) ?_ ?_
            rotate_left
            · intro w'
              go_simp
              with_reducible rfl
            rotate_left
            · simp only [Act.put, List.setIfInBounds_toArray, List.set_cons_zero, List.set_cons_succ, i64_w, i32_w]
              rfl
            refine take_ (i := 7) (N := some 54) (v := ?_) (a' := ?_) #[true, true, true, true, false, true, true, true, false, false, false, false, false] rfl rfl (take_ofW HT_.out HW_.out (by kernel_rfl)) (fun _ _ _ h => h) (Or.inl ⟨by rfl, ?_⟩) hHeld ?_ ?_
            rotate_left
            · rintro w' ⟨s0, s1⟩
              go_simp
              with_reducible rfl
            rotate_left
            · simp only [Act.put, List.setIfInBounds_toArray, List.set_cons_zero, List.set_cons_succ, i64_w, i32_w]
              rfl
            refine pure_ (i := 8) (N := some 55) (v := ?_) (a' := ?_) #[true, true, true, true, false, true, true, true, true, false, false, false, false] rfl rfl (any_of HT_.out (by kernel_rfl)) (fun _ _ _ h => h) (Or.inl ⟨by rfl, ?_⟩) ?_ ?_
            rotate_left
            · intro w'
              go_simp
              with_reducible rfl
            rotate_left
            · simp only [Act.put, List.setIfInBounds_toArray, List.set_cons_zero, List.set_cons_succ, i64_w, i32_w]
              rfl
            refine one_ (i := 4) (N := some 51) #[true, true, true, true, true, true, true, true, true, false, false, false, false] rfl rfl (one_of HT_.out (by kernel_rfl)) (by decide) (fun K hK => ?_)
            refine goes_ Tryd.func38 (by kernel_rfl) rfl #[.string y1, .bool true] (by rfl) rfl rfl (by (try simp only [List.map_toArray, List.map_cons, List.map_nil]); first | done | rfl | (simp only [List.length_drop, List.length_take]; rfl)) ?_
            with_reducible refine (fold_calls y1 true (by omega) _).mono ?_
            rintro e w40 ⟨rfl, hb⟩
            have HS0_ := (hb.cell (World.block_lt_of_cell? _ _ (hHeld.1))).trans (hHeld.1)
            have HS1_ := (hb.cell (World.block_lt_of_cell? _ _ (hHeld.2))).trans (hHeld.2)
            refine ⟨_, rfl, ?_⟩
            have n0_ := Aside0.mk (blk_below (g := ad119.block) (o := .cells cellsP 9 (0, 0)) (by (with_reducible repeat (first | refine blk_drewN ?_ _ | refine blk_drew ?_ | refine blk_alloc ?_ _)); exact BKP.out) hb)
            have n1_ := Aside0.mk (blk_below (g := gb115) (o := .cells #[.string (⟨#[]⟩ : ByteArray), .string (⟨#[]⟩ : ByteArray), .string (⟨#[]⟩ : ByteArray), .slice none 0 0] 25 (0, 0)) (by (with_reducible repeat (first | refine blk_drewN ?_ _ | refine blk_drew ?_ | refine blk_alloc ?_ _)); exact BK115.out) hb)
            have n2_ := Aside0.mk (blk_below (g := gb124) (o := .cells #[.string (foldS false p0), .string (⟨#[]⟩ : ByteArray), .string (⟨#[]⟩ : ByteArray), .slice none 0 0] 25 (0, 0)) (by (with_reducible repeat (first | refine blk_drewN ?_ _ | refine blk_drew ?_ | refine blk_alloc ?_ _)); exact BK124.out) hb)
            have n3_ := Aside0.mk (below_step (by repeat (first | (with_reducible first | exact HB.out | apply below_alloc | apply pw_below_drewN | apply below_drew1 | refine below_set ?_ GE115.out | refine below_set ?_ GE124.out) | exact HB.out)) hb)
            clear BKP BK115 BK124 HB hb
            have BKP := n0_
            have BK115 := n1_
            have BK124 := n2_
            have HB := n3_
            clear n0_ n1_ n2_ n3_
            refine hK.out _ _ ⟨HS0_, HS1_⟩ (fun hHeld => ?_)
            refine norm_ (a' := ?_) ?_ ?_
            rotate_left
            · show Act.put _ (some 51) _ = _
              simp only [Act.put, List.setIfInBounds_toArray, List.set_cons_zero, List.set_cons_succ, i64_w, i32_w]
              rfl
            refine one_ (i := 9) (N := some 56) #[true, true, true, true, true, true, true, true, true, true, false, false, false] rfl rfl (one_of HT_.out (by kernel_rfl)) (by decide) (fun K hK => ?_)
            refine goes_ Tryd.func38 (by kernel_rfl) rfl #[.string y2, .bool false] (by rfl) rfl rfl (by (try simp only [List.map_toArray, List.map_cons, List.map_nil]); first | done | rfl | (simp only [List.length_drop, List.length_take]; rfl)) ?_
            with_reducible refine (fold_calls y2 false (by omega) _).mono ?_
            rintro e w41 ⟨rfl, hb⟩
            have HS0_ := (hb.cell (World.block_lt_of_cell? _ _ (hHeld.1))).trans (hHeld.1)
            have HS1_ := (hb.cell (World.block_lt_of_cell? _ _ (hHeld.2))).trans (hHeld.2)
            refine ⟨_, rfl, ?_⟩
            have n0_ := Aside0.mk (blk_below (g := ad119.block) (o := .cells cellsP 9 (0, 0)) (by (with_reducible repeat (first | refine blk_drewN ?_ _ | refine blk_drew ?_ | refine blk_alloc ?_ _)); exact BKP.out) hb)
            have n1_ := Aside0.mk (blk_below (g := gb115) (o := .cells #[.string (⟨#[]⟩ : ByteArray), .string (⟨#[]⟩ : ByteArray), .string (⟨#[]⟩ : ByteArray), .slice none 0 0] 25 (0, 0)) (by (with_reducible repeat (first | refine blk_drewN ?_ _ | refine blk_drew ?_ | refine blk_alloc ?_ _)); exact BK115.out) hb)
            have n2_ := Aside0.mk (blk_below (g := gb124) (o := .cells #[.string (foldS false p0), .string (⟨#[]⟩ : ByteArray), .string (⟨#[]⟩ : ByteArray), .slice none 0 0] 25 (0, 0)) (by (with_reducible repeat (first | refine blk_drewN ?_ _ | refine blk_drew ?_ | refine blk_alloc ?_ _)); exact BK124.out) hb)
            have n3_ := Aside0.mk (below_step (by repeat (first | (with_reducible first | exact HB.out | apply below_alloc | apply pw_below_drewN | apply below_drew1 | refine below_set ?_ GE115.out | refine below_set ?_ GE124.out) | exact HB.out)) hb)
            clear BKP BK115 BK124 HB hb
            have BKP := n0_
            have BK115 := n1_
            have BK124 := n2_
            have HB := n3_
            clear n0_ n1_ n2_ n3_
            refine hK.out _ _ ⟨HS0_, HS1_⟩ (fun hHeld => ?_)
            refine norm_ (a' := ?_) ?_ ?_
            rotate_left
            · show Act.put _ (some 56) _ = _
              simp only [Act.put, List.setIfInBounds_toArray, List.set_cons_zero, List.set_cons_succ, i64_w, i32_w]
              rfl
            refine pure_ (i := 10) (N := some 57) (v := ?_) (a' := ?_) #[true, true, true, true, true, true, true, true, true, true, true, false, false] rfl rfl (any_of HT_.out (by kernel_rfl)) (fun _ _ _ h => h) (Or.inl ⟨by rfl, ?_⟩) ?_ ?_
            rotate_left
            · intro w'
              go_simp
              with_reducible rfl
            rotate_left
            · simp only [Act.put, List.setIfInBounds_toArray, List.set_cons_zero, List.set_cons_succ, i64_w, i32_w]
              rfl
            refine pure_ (i := 11) (N := some 58) (v := ?_) (a' := ?_) #[true, true, true, true, true, true, true, true, true, true, true, true, false] rfl rfl (any_of HT_.out (by kernel_rfl)) (fun _ _ _ h => h) (Or.inl ⟨by rfl, ?_⟩) ?_ ?_
            rotate_left
            · intro w'
              go_simp
              with_reducible rfl
            rotate_left
            · simp only [Act.put, List.setIfInBounds_toArray, List.set_cons_zero, List.set_cons_succ, i64_w, i32_w]
              rfl
            refine one_ (i := 12) (N := none) #[true, true, true, true, true, true, true, true, true, true, true, true, true] rfl rfl (one_of HT_.out (by kernel_rfl)) (by decide) (fun K hK => ?_)
            have hs42 : w41.cell? ⟨gb124, 1, none⟩ = some (.string (⟨#[]⟩ : ByteArray)) := (blk_cell BK124.out 1).trans rfl
            have hfs42 := blk_frozen BK124.out 1
            refine skip_ (w1 := ?_) (by rfl) rfl ?_ ?_
            rotate_left
            · go_simp
              rfl
            refine hK.out _ _ ⟨(cell_far (p := ⟨gb124, _, none⟩) NA3.out _).trans (hHeld.1), (cell_far (p := ⟨gb124, _, none⟩) NA3.out _).trans (hHeld.2)⟩ (fun hHeld => ?_)
            refine done_ (done_of HT_.out (by kernel_rfl)) ?_
            obtain ⟨w42, hw⟩ : ∃ w42 : World, w42 = w41.setCell ⟨gb124, 1, none⟩ (.string y3) := ⟨_, rfl⟩
            rw [← hw]
            have n0_ : Aside0 (w42.heap[ad119.block]? = some (.cells cellsP 9 (0, 0))) := ⟨by rw [hw]; exact blk_far (p := ⟨gb124, 1, none⟩) BKP.out NBP.out _⟩
            have n1_ : Aside0 (w42.heap[gb115]? = some (.cells #[.string (⟨#[]⟩ : ByteArray), .string (⟨#[]⟩ : ByteArray), .string (⟨#[]⟩ : ByteArray), .slice none 0 0] 25 (0, 0))) := ⟨by rw [hw]; exact blk_far (p := ⟨gb124, 1, none⟩) BK115.out NB0.out _⟩
            have n2_ : Aside0 (w42.heap[gb124]? = some (.cells #[.string (foldS false p0), .string y3, .string (⟨#[]⟩ : ByteArray), .slice none 0 0] 25 (0, 0))) := ⟨by rw [hw]; refine blk_put (cs := #[.string (foldS false p0), .string (⟨#[]⟩ : ByteArray), .string (⟨#[]⟩ : ByteArray), .slice none 0 0]) ?_ 1 _ rfl; exact BK124.out⟩
            have n3_ : Aside0 (Below w.heap.size w w42) := ⟨by rw [hw]; exact (by repeat (first | (with_reducible first | exact HB.out | apply below_alloc | apply pw_below_drewN | apply below_drew1 | refine below_set ?_ GE115.out | refine below_set ?_ GE124.out) | exact HB.out))⟩
            clear hw BKP BK115 BK124 HB
            have BKP := n0_
            have BK115 := n1_
            have BK124 := n2_
            have HB := n3_
            clear n0_ n1_ n2_ n3_
            have hlen2 : ps.length = qs.length + 1 := by rw [HPS.out]; rfl
            have HS2 := Aside0.mk (show (∀ p ∈ qs, p.size < 1000000) ∧ qs.length < 1000000 from ⟨fun p hp => HS1.out.1 p (by rw [HPS.out]; exact List.mem_cons_of_mem _ hp), by have := HS1.out.2; omega⟩)
            clear hlen2
            go_wp2
            go_meet
            case rel => exact ⟨y3, qs, A2, c2, rfl, ⟨by rw [← HY.out]; exact H2.out⟩, HC2, HCP2, HS2, BKP, BK115, BK124, HB⟩
          · have cs' : headIs scrB ps = false := Bool.eq_false_iff.mpr cs
            rw [cs']
            have H2 := Aside0.mk (show P2 (foldS false p0) (⟨#[]⟩ : ByteArray) ps = (r1, r2, r3, r4, r5) by
              rw [← H1.out]
              cases ps with
              | nil => rfl
              | cons q qs => simp only [P1]; rw [if_neg (by intro h; rw [show headIs scrB (q :: qs) = scrB q from rfl] at cs; exact cs h)])
            clear cs cs'
            go_wp2
            go_meet
            case rel => exact ⟨_, ps, A1, c1, rfl, H2, HC1, HCP1, HS1, BKP, BK115, BK124, HB⟩
        case rest =>
          clear BKP BK115 BK124 HB
          obtain ⟨scr, rest, A3, c3, rfl, H3, HC3, HCP3, HS3, BKP, BK115, BK124, HB⟩ := hcut
          clear hcut1 HC1 HCP1 HS1 H1 HL HSZ HCP HCL
          go_upto_region 10 with (fail)
          (try simp only [Act.put, List.setIfInBounds_toArray, List.set_cons_zero, List.set_cons_succ])
          go_cut [69] (fun v69 wc => v69 = .bool (headIs regB rest) ∧ Aside0 (wc.heap[ad119.block]? = some (.cells cellsP 9 (0, 0))) ∧ Aside0 (wc.heap[gb115]? = some (.cells #[.string (⟨#[]⟩ : ByteArray), .string (⟨#[]⟩ : ByteArray), .string (⟨#[]⟩ : ByteArray), .slice none 0 0] 25 (0, 0))) ∧ Aside0 (wc.heap[gb124]? = some (.cells #[.string (foldS false p0), .string scr, .string (⟨#[]⟩ : ByteArray), .slice none 0 0] 25 (0, 0))) ∧ Aside0 (Below w.heap.size w wc))
          case first =>
            have hcs : rest = [] ∨ ∃ q qs, rest = q :: qs := by
              cases rest with
              | nil => exact .inl rfl
              | cons q qs => exact .inr ⟨q, qs, rfl⟩
            rcases hcs with hps | ⟨q, qs, hps⟩
            · have cl : decide (0 < (rest.length : Int)) = false := decide_eq_false (by rw [hps]; simp)
              have cl2 : decide (0 < rest.length) = false := decide_eq_false (by rw [hps]; simp)
              have ch : headIs regB rest = false := by rw [hps]; rfl
              clear hps
              go_wp2
              go_meet
              case rel => exact ⟨by rw [ch], BKP, BK115, BK124, HB⟩
            · have cl : decide (0 < (rest.length : Int)) = true := decide_eq_true (by rw [hps, List.length_cons]; omega)
              have cl2 : decide (0 < rest.length) = true := decide_eq_true (by rw [hps, List.length_cons]; omega)
              have cl0 : 0 < rest.length := by rw [hps]; simp
              have cl1 : (0 < (rest.length : Int)) = True := eq_true (by omega)
              have hq : q.size < 1000000 := HS3.out.1 q (by rw [hps]; simp)
              obtain ⟨ad3, e3, hx3⟩ := Kd.at_string (HCP3.out _ BKP.out) 0 (Int.le_refl _) (by omega)
              subst e3
              rw [show rdOf ByteArray.empty rest 0 = q by rw [hps]; rfl] at hx3
              (try rw [show ((0 : Int)).toNat = 0 from rfl] at hx3)
              (try rw [Addr.add_zero'] at hx3)
              have ch : headIs regB rest = regB q := by rw [hps]; rfl
              clear hps
              go_wp2_with (first | (go_at_call 40; (with_reducible refine (region_calls q (by omega) _).mono ?_); rintro e w' ⟨rfl, ⟨nd, rfl⟩⟩))
              go_meet
              case rel => exact ⟨by rw [ch], BKP, BK115, BK124, ⟨pw_below_drewN HB.out _⟩⟩
          case rest =>
            clear BKP BK115 BK124 HB
            obtain ⟨rfl, BKP, BK115, BK124, HB⟩ := hcut
            go_upto_if 69 with (fail)
            go_cut [7] (fun v7 wc => ∃ (reg : ByteArray) (last : List ByteArray) (A : Option Addr) (c : Nat), v7 = .slice A last.length c ∧ Aside0 (P3 (foldS false p0) scr reg last [] = (r1, r2, r3, r4, r5)) ∧ Aside0 (last.length ≤ c) ∧ Aside0 (∀ W : World, W.heap[ad119.block]? = some (.cells cellsP 9 (0, 0)) → Kd.C Kd.string W A last.length last) ∧ Aside0 ((∀ p ∈ last, p.size < 1000000) ∧ last.length < 1000000) ∧ Aside0 (wc.heap[ad119.block]? = some (.cells cellsP 9 (0, 0))) ∧ Aside0 (wc.heap[gb115]? = some (.cells #[.string (⟨#[]⟩ : ByteArray), .string (⟨#[]⟩ : ByteArray), .string (⟨#[]⟩ : ByteArray), .slice none 0 0] 25 (0, 0))) ∧ Aside0 (wc.heap[gb124]? = some (.cells #[.string (foldS false p0), .string scr, .string reg, .slice none 0 0] 25 (0, 0))) ∧ Aside0 (Below w.heap.size w wc))
            case first =>
              by_cases cs : headIs regB rest = true
              · obtain ⟨q, qs, hps⟩ : ∃ q qs, rest = q :: qs := by
                  cases rest with
                  | nil => cases cs
                  | cons q qs => exact ⟨q, qs, rfl⟩
                have csq : regB q = true := by rw [hps] at cs; exact cs
                rw [cs]
                have H4 := Aside0.mk (show P3 (foldS false p0) scr (foldS true q) qs [] = (r1, r2, r3, r4, r5) by rw [← H3.out, hps]; simp only [P2]; rw [if_pos csq])
                have HPS := Aside0.mk hps
                have cl0 : 0 < rest.length := by rw [hps]; simp
                have hq : q.size < 1000000 := HS3.out.1 q (by rw [hps]; simp)
                clear hps cs csq
                obtain ⟨A2, c2, hcut2, hc2, hC2⟩ := cut_one A3 rest c3 q qs HPS.out HC3.out HCP3.out
                have HC2 := Aside0.mk hc2
                have HCP2 := Aside0.mk hC2
                clear hc2 hC2
                have cl1 : (0 < (rest.length : Int)) = True := eq_true (by omega)
                have cl3 : ((1 : Int) ≤ (rest.length : Int)) = True := eq_true (by omega)
                obtain ⟨ad3, e3, hx3⟩ := Kd.at_string (HCP3.out _ BKP.out) 0 (Int.le_refl _) (by omega)
                subst e3
                rw [show rdOf ByteArray.empty rest 0 = q by rw [HPS.out]; rfl] at hx3
                (try rw [show ((0 : Int)).toNat = 0 from rfl] at hx3)
                (try rw [Addr.add_zero'] at hx3)
                have hlen2 : rest.length = qs.length + 1 := by rw [HPS.out]; rfl
                have HS2 := Aside0.mk (show (∀ p ∈ qs, p.size < 1000000) ∧ qs.length < 1000000 from ⟨fun p hp => HS3.out.1 p (by rw [HPS.out]; exact List.mem_cons_of_mem _ hp), by have := HS3.out.2; omega⟩)
                clear hlen2
                go_upto_region 12 with (first | ((with_reducible refine gate_callee (f := 38) rfl ?_); refine goesL_ (some 73) rfl rfl Tryd.func38 (by kernel_rfl) rfl #[.string q, .bool true] rfl (by (try simp only [List.map_toArray, List.map_cons, List.map_nil]); first | done | rfl | (simp only [List.length_drop, List.length_take]; rfl)) ?_; (with_reducible refine (fold_calls q true (by omega) _).mono ?_); rintro e w40 ⟨rfl, hb⟩; refine ⟨_, rfl, ?_⟩; have n0_ := Aside0.mk (blk_below (g := ad119.block) (o := .cells cellsP 9 (0, 0)) (by (with_reducible repeat (first | refine blk_drewN ?_ _ | refine blk_drew ?_ | refine blk_alloc ?_ _)); exact BKP.out) hb); have n1_ := Aside0.mk (blk_below (g := gb115) (o := .cells #[.string (⟨#[]⟩ : ByteArray), .string (⟨#[]⟩ : ByteArray), .string (⟨#[]⟩ : ByteArray), .slice none 0 0] 25 (0, 0)) (by (with_reducible repeat (first | refine blk_drewN ?_ _ | refine blk_drew ?_ | refine blk_alloc ?_ _)); exact BK115.out) hb); have n2_ := Aside0.mk (blk_below (g := gb124) (o := .cells #[.string (foldS false p0), .string scr, .string (⟨#[]⟩ : ByteArray), .slice none 0 0] 25 (0, 0)) (by (with_reducible repeat (first | refine blk_drewN ?_ _ | refine blk_drew ?_ | refine blk_alloc ?_ _)); exact BK124.out) hb); have n3_ := Aside0.mk (below_step (by repeat (first | (with_reducible first | exact HB.out | apply below_alloc | apply pw_below_drewN | apply below_drew1 | refine below_set ?_ GE115.out | refine below_set ?_ GE124.out) | exact HB.out)) hb); clear BKP BK115 BK124 HB hb; have BKP := n0_; have BK115 := n1_; have BK124 := n2_; have HB := n3_; clear n0_ n1_ n2_ n3_; have hs42 : w40.cell? ⟨gb124, 2, none⟩ = some (.string (⟨#[]⟩ : ByteArray)) := (blk_cell BK124.out 2).trans rfl; have hfs42 := blk_frozen BK124.out 2))
                obtain ⟨w42, hw⟩ : ∃ w42 : World, w42 = w40.setCell ⟨gb124, 2, none⟩ (.string (foldS true q)) := ⟨_, rfl⟩
                rw [← hw]
                have n0_ : Aside0 (w42.heap[ad119.block]? = some (.cells cellsP 9 (0, 0))) := ⟨by rw [hw]; exact blk_far (p := ⟨gb124, 2, none⟩) BKP.out NBP.out _⟩
                have n1_ : Aside0 (w42.heap[gb115]? = some (.cells #[.string (⟨#[]⟩ : ByteArray), .string (⟨#[]⟩ : ByteArray), .string (⟨#[]⟩ : ByteArray), .slice none 0 0] 25 (0, 0))) := ⟨by rw [hw]; exact blk_far (p := ⟨gb124, 2, none⟩) BK115.out NB0.out _⟩
                have n2_ : Aside0 (w42.heap[gb124]? = some (.cells #[.string (foldS false p0), .string scr, .string (foldS true q), .slice none 0 0] 25 (0, 0))) := ⟨by rw [hw]; refine blk_put (cs := #[.string (foldS false p0), .string scr, .string (⟨#[]⟩ : ByteArray), .slice none 0 0]) ?_ 2 _ rfl; exact BK124.out⟩
                have n3_ : Aside0 (Below w.heap.size w w42) := ⟨by rw [hw]; exact (by repeat (first | (with_reducible first | exact HB.out | apply below_alloc | apply pw_below_drewN | apply below_drew1 | refine below_set ?_ GE115.out | refine below_set ?_ GE124.out) | exact HB.out))⟩
                clear hw BKP BK115 BK124 HB
                have BKP := n0_
                have BK115 := n1_
                have BK124 := n2_
                have HB := n3_
                clear n0_ n1_ n2_ n3_
                go_wp2
                go_meet
                case rel => exact ⟨_, qs, A2, c2, rfl, H4, HC2, HCP2, HS2, BKP, BK115, BK124, HB⟩
              · have cs' : headIs regB rest = false := Bool.eq_false_iff.mpr cs
                rw [cs']
                have H4 := Aside0.mk (show P3 (foldS false p0) scr (⟨#[]⟩ : ByteArray) rest [] = (r1, r2, r3, r4, r5) by
                  rw [← H3.out]
                  cases rest with
                  | nil => rfl
                  | cons q qs => simp only [P2]; rw [if_neg (by intro h; rw [show headIs regB (q :: qs) = regB q from rfl] at cs; exact cs h)])
                clear cs cs'
                go_wp2
                go_meet
                case rel => exact ⟨_, rest, A3, c3, rfl, H4, HC3, HCP3, HS3, BKP, BK115, BK124, HB⟩
            case rest =>
              clear BKP BK115 BK124 HB
              obtain ⟨reg, last, A4, c4, rfl, H5, HC4, HCP4, HS4, BKP, BK115, BK124, HB⟩ := hcut
              clear HC3 HCP3 HS3 H3
              go_wp2
              go_loopg [79] (last.length + 1) (fun kq v79 w' => ∃ (i : Nat) (acc : List ByteArray) (u : Value), v79 = .int .i64 (i : Int) ∧ Aside0 (i ≤ last.length) ∧ Aside0 (kq = last.length - i + 1) ∧ Aside0 (P3 (foldS false p0) scr reg (last.drop i) acc = (r1, r2, r3, r4, r5)) ∧ Aside0 (acc.length ≤ i) ∧ Aside0 (Kd.R Kd.string 9 w' w.heap.size (fun k => k ≠ ad119.block) u acc) ∧ Aside0 (w'.heap[ad119.block]? = some (.cells cellsP 9 (0, 0))) ∧ Aside0 (w'.heap[gb115]? = some (.cells #[.string (⟨#[]⟩ : ByteArray), .string (⟨#[]⟩ : ByteArray), .string (⟨#[]⟩ : ByteArray), .slice none 0 0] 25 (0, 0))) ∧ Aside0 (w'.heap[gb124]? = some (.cells #[.string (foldS false p0), .string scr, .string reg, u] 25 (0, 0))) ∧ Aside0 (Below w.heap.size w w'))
              case atStart => exact ⟨0, [], .slice none 0 0, rfl, ⟨Nat.zero_le _⟩, ⟨by omega⟩, H5, ⟨Nat.zero_le _⟩, ⟨Kd.R_nil _ _ _ _ _⟩, BKP, BK115, BK124, HB⟩
              case round =>
                clear BKP BK115 BK124 HB H5
                obtain ⟨i, acc, u, rfl, HI, HK, HP, HAL, HO, BKP, BK115, BK124, HB⟩ := hrel
                by_cases hi : (i : Int) < (last.length : Int)
                · have d1 : decide ((i : Int) < (last.length : Int)) = true := decide_eq_true hi
                  have hin : i < last.length := by omega
                  obtain ⟨q, hq⟩ : ∃ q, last[i] = q := ⟨_, rfl⟩
                  have hqs : q.size < 1000000 := HS4.out.1 q (by rw [← hq]; exact List.getElem_mem hin)
                  replace HP := Aside0.mk (show P3 (foldS false p0) scr reg (q :: last.drop (i + 1)) acc = (r1, r2, r3, r4, r5) by rw [← hq, ← List.drop_eq_getElem_cons hin]; exact HP.out)
                  obtain ⟨ad4, e4, hx4⟩ := Kd.at_string (HCP4.out _ BKP.out) (i : Int) (by omega) hi
                  subst e4
                  rw [show rdOf ByteArray.empty last (i : Int) = q by unfold rdOf; rw [← hq]; simp [List.getD_eq_getElem?_getD, List.getElem?_eq_getElem hin]] at hx4
                  rw [Int.toNat_natCast] at hx4
                  have pi : (0 ≤ (i : Int)) = True := eq_true (by omega)
                  have pl : ((i : Int) < (last.length : Int)) = True := eq_true hi
                  clear hq
                  by_cases cv : varB q = true
                  · by_cases ch : hasS acc (foldS false q) = true
                    · have e1 : notTold = (r1, r2, r3, r4, r5) := by rw [← HP.out]; simp only [P3]; rw [if_pos cv, if_pos ch]
                      simp only [notTold, Prod.mk.injEq] at e1
                      obtain ⟨rfl, rfl, rfl, rfl, rfl⟩ := e1
                      clear HP
                      go_wp2_with (first | ((with_reducible refine gate_callee (f := 38) rfl ?_); refine goesL_ (some 84) rfl rfl Tryd.func38 (by kernel_rfl) rfl #[.string q, .bool false] rfl (by (try simp only [List.map_toArray, List.map_cons, List.map_nil]); first | done | rfl | (simp only [List.length_drop, List.length_take]; rfl)) ?_; (with_reducible refine (fold_calls q false (by omega) _).mono ?_); rintro e w40 ⟨rfl, hb⟩; refine ⟨_, rfl, ?_⟩; have n0_ := Aside0.mk (blk_below (g := ad119.block) (o := .cells cellsP 9 (0, 0)) (by (with_reducible repeat (first | refine blk_drewN ?_ _ | refine blk_drew ?_ | refine blk_alloc ?_ _)); exact BKP.out) hb); have n1_ := Aside0.mk (blk_below (g := gb115) (o := .cells #[.string (⟨#[]⟩ : ByteArray), .string (⟨#[]⟩ : ByteArray), .string (⟨#[]⟩ : ByteArray), .slice none 0 0] 25 (0, 0)) (by (with_reducible repeat (first | refine blk_drewN ?_ _ | refine blk_drew ?_ | refine blk_alloc ?_ _)); exact BK115.out) hb); have n2_ := Aside0.mk (blk_below (g := gb124) (o := .cells #[.string (foldS false p0), .string scr, .string reg, u] 25 (0, 0)) (by (with_reducible repeat (first | refine blk_drewN ?_ _ | refine blk_drew ?_ | refine blk_alloc ?_ _)); exact BK124.out) hb); have n3_ := Aside0.mk (below_step (by repeat (first | (with_reducible first | exact HB.out | apply below_alloc | apply pw_below_drewN | apply below_drew1 | refine below_set ?_ GE115.out | refine below_set ?_ GE124.out) | exact HB.out)) hb); have n4_ := Aside0.mk (Kd.R_below (by (with_reducible repeat (first | apply Kd.R_alloc | apply Kd.R_drewN | apply Kd.R_drew)); exact HO.out) hb); clear BKP BK115 BK124 HB HO hb; have BKP := n0_; have BK115 := n1_; have BK124 := n2_; have HB := n3_; have HO := n4_; clear n0_ n1_ n2_ n3_ n4_) | ((with_reducible refine gate_callee (f := 41) rfl ?_); refine goesL_ (some 86) rfl rfl Tryd.func41 (by kernel_rfl) rfl #[.string q] rfl (by (try simp only [List.map_toArray, List.map_cons, List.map_nil]); first | done | rfl | (simp only [List.length_drop, List.length_take]; rfl)) ?_; (with_reducible refine (variant_calls q (by omega) _).mono ?_); rintro e w' ⟨rfl, ⟨nd, rfl⟩⟩; refine ⟨_, rfl, ?_⟩; rw [cv]; (try (rw [drewN_self w40]; generalize hq_ : World.drewN w40 _ = w40; have n0_ : Aside0 (w40.heap[ad119.block]? = some (.cells cellsP 9 (0, 0))) := ⟨by rw [← hq_]; exact (by (with_reducible repeat (first | refine blk_drewN ?_ _ | refine blk_drew ?_ | refine blk_alloc ?_ _)); exact BKP.out)⟩; have n1_ : Aside0 (w40.heap[gb115]? = some (.cells #[.string (⟨#[]⟩ : ByteArray), .string (⟨#[]⟩ : ByteArray), .string (⟨#[]⟩ : ByteArray), .slice none 0 0] 25 (0, 0))) := ⟨by rw [← hq_]; exact (by (with_reducible repeat (first | refine blk_drewN ?_ _ | refine blk_drew ?_ | refine blk_alloc ?_ _)); exact BK115.out)⟩; have n2_ : Aside0 (w40.heap[gb124]? = some (.cells #[.string (foldS false p0), .string scr, .string reg, u] 25 (0, 0))) := ⟨by rw [← hq_]; exact (by (with_reducible repeat (first | refine blk_drewN ?_ _ | refine blk_drew ?_ | refine blk_alloc ?_ _)); exact BK124.out)⟩; have n3_ : Aside0 (Below w.heap.size w w40) := ⟨by rw [← hq_]; exact (by repeat (first | (with_reducible first | exact HB.out | apply below_alloc | apply pw_below_drewN | apply below_drew1 | refine below_set ?_ GE115.out | refine below_set ?_ GE124.out) | exact HB.out))⟩; have n4_ : Aside0 (Kd.R Kd.string 9 w40 w.heap.size (fun k => k ≠ ad119.block) (u) acc) := ⟨by rw [← hq_]; exact (by (with_reducible repeat (first | apply Kd.R_alloc | apply Kd.R_drewN | apply Kd.R_drew)); exact HO.out)⟩; clear BKP BK115 BK124 HB HO hq_; have BKP := n0_; have BK115 := n1_; have BK124 := n2_; have HB := n3_; have HO := n4_; clear n0_ n1_ n2_ n3_ n4_)); have hcz57_0 : w40.cell? ⟨gb124, 0, none⟩ = some (.string (foldS false p0)) := (blk_cell BK124.out 0).trans rfl; have hfz57_0 := blk_frozen BK124.out 0; have hcz57_1 : w40.cell? ⟨gb124, 1, none⟩ = some (.string scr) := (blk_cell BK124.out 1).trans rfl; have hfz57_1 := blk_frozen BK124.out 1; have hcz57_2 : w40.cell? ⟨gb124, 2, none⟩ = some (.string reg) := (blk_cell BK124.out 2).trans rfl; have hfz57_2 := blk_frozen BK124.out 2; have hcz57_3 : w40.cell? ⟨gb124, 3, none⟩ = some (u) := (blk_cell BK124.out 3).trans rfl; have hfz57_3 := blk_frozen BK124.out 3; obtain ⟨Ao, co, eo⟩ := Kd.R_slice HO.out; subst eo) | (go_at_call 42; (with_reducible refine (contains_calls _ _ acc (foldS false q) _ ?side1 ?side2 (by have := HAL.out; have := HI.out; have := HS4.out.2; omega)).mono ?_); (case side1 => repeat (first | exact (Kd.R_reads' HO.out).2.2 | (with_reducible refine Kd.C_alloc ?_ _) | (with_reducible refine Kd.C_drewN ?_ _) | (with_reducible refine Kd.C_drew ?_))); (case side2 => exact (Kd.R_reads' HO.out).2.1); rintro e w' ⟨rfl, ⟨nd, rfl⟩⟩; rw [ch]; (try (rw [drewN_self w40]; generalize hq_ : World.drewN w40 _ = w40; have n0_ : Aside0 (w40.heap[ad119.block]? = some (.cells cellsP 9 (0, 0))) := ⟨by rw [← hq_]; exact (by (with_reducible repeat (first | refine blk_drewN ?_ _ | refine blk_drew ?_ | refine blk_alloc ?_ _)); exact BKP.out)⟩; have n1_ : Aside0 (w40.heap[gb115]? = some (.cells #[.string (⟨#[]⟩ : ByteArray), .string (⟨#[]⟩ : ByteArray), .string (⟨#[]⟩ : ByteArray), .slice none 0 0] 25 (0, 0))) := ⟨by rw [← hq_]; exact (by (with_reducible repeat (first | refine blk_drewN ?_ _ | refine blk_drew ?_ | refine blk_alloc ?_ _)); exact BK115.out)⟩; have n2_ : Aside0 (w40.heap[gb124]? = some (.cells #[.string (foldS false p0), .string scr, .string reg, .slice Ao acc.length co] 25 (0, 0))) := ⟨by rw [← hq_]; exact (by (with_reducible repeat (first | refine blk_drewN ?_ _ | refine blk_drew ?_ | refine blk_alloc ?_ _)); exact BK124.out)⟩; have n3_ : Aside0 (Below w.heap.size w w40) := ⟨by rw [← hq_]; exact (by repeat (first | (with_reducible first | exact HB.out | apply below_alloc | apply pw_below_drewN | apply below_drew1 | refine below_set ?_ GE115.out | refine below_set ?_ GE124.out) | exact HB.out))⟩; have n4_ : Aside0 (Kd.R Kd.string 9 w40 w.heap.size (fun k => k ≠ ad119.block) (.slice Ao acc.length co) acc) := ⟨by rw [← hq_]; exact (by (with_reducible repeat (first | apply Kd.R_alloc | apply Kd.R_drewN | apply Kd.R_drew)); exact HO.out)⟩; clear BKP BK115 BK124 HB HO hq_; have BKP := n0_; have BK115 := n1_; have BK124 := n2_; have HB := n3_; have HO := n4_; clear n0_ n1_ n2_ n3_ n4_)); have hcz59_0 : w40.cell? ⟨gb115, 0, none⟩ = some (.string (⟨#[]⟩ : ByteArray)) := (blk_cell BK115.out 0).trans rfl; have hfz59_0 := blk_frozen BK115.out 0; have hcz59_1 : w40.cell? ⟨gb115, 1, none⟩ = some (.string (⟨#[]⟩ : ByteArray)) := (blk_cell BK115.out 1).trans rfl; have hfz59_1 := blk_frozen BK115.out 1; have hcz59_2 : w40.cell? ⟨gb115, 2, none⟩ = some (.string (⟨#[]⟩ : ByteArray)) := (blk_cell BK115.out 2).trans rfl; have hfz59_2 := blk_frozen BK115.out 2; have hcz59_3 : w40.cell? ⟨gb115, 3, none⟩ = some (.slice none 0 0) := (blk_cell BK115.out 3).trans rfl; have hfz59_3 := blk_frozen BK115.out 3))
                      refine bodyPost_ret (results_ct rfl _ _ gb115 25 #[.string (⟨#[]⟩ : ByteArray), .string (⟨#[]⟩ : ByteArray), .string (⟨#[]⟩ : ByteArray), .slice none 0 0] (0, 0) _ rfl (by (with_reducible repeat (first | refine blk_drewN ?_ _ | refine blk_drew ?_ | refine blk_alloc ?_ _)); refine blk_put (cs := #[.string (⟨#[]⟩ : ByteArray), .string (⟨#[]⟩ : ByteArray), .string (⟨#[]⟩ : ByteArray), .slice none 0 0]) ?_ 3 _ rfl; (with_reducible repeat (first | refine blk_drewN ?_ _ | refine blk_drew ?_ | refine blk_alloc ?_ _)); refine blk_put (cs := #[.string (⟨#[]⟩ : ByteArray), .string (⟨#[]⟩ : ByteArray), .string (⟨#[]⟩ : ByteArray), .slice none 0 0]) ?_ 2 _ rfl; (with_reducible repeat (first | refine blk_drewN ?_ _ | refine blk_drew ?_ | refine blk_alloc ?_ _)); refine blk_put (cs := #[.string (⟨#[]⟩ : ByteArray), .string (⟨#[]⟩ : ByteArray), .string (⟨#[]⟩ : ByteArray), .slice none 0 0]) ?_ 1 _ rfl; (with_reducible repeat (first | refine blk_drewN ?_ _ | refine blk_drew ?_ | refine blk_alloc ?_ _)); refine blk_put (cs := #[.string (⟨#[]⟩ : ByteArray), .string (⟨#[]⟩ : ByteArray), .string (⟨#[]⟩ : ByteArray), .slice none 0 0]) ?_ 0 _ rfl; (with_reducible repeat (first | refine blk_drewN ?_ _ | refine blk_drew ?_ | refine blk_alloc ?_ _)); exact BK115.out) Tryd.underlying25 rfl (by kernel_rfl)) rfl ?_
                      exact ⟨_, by first | rfl | (simp [errW_none, errW_some] <;> rfl) | (simp [*, errW_none, errW_some] <;> rfl), Kd.R_nil _ _ _ _ _, (by repeat (first | (with_reducible first | exact HB.out | apply below_alloc | apply pw_below_drewN | apply below_drew1 | refine below_set ?_ GE115.out | refine below_set ?_ GE124.out) | exact HB.out))⟩
                    · replace ch : hasS acc (foldS false q) = false := Bool.eq_false_iff.mpr ch
                      replace HP := Aside0.mk (show P3 (foldS false p0) scr reg (last.drop (i + 1)) (acc ++ [foldS false q]) = (r1, r2, r3, r4, r5) by rw [← HP.out]; simp only [P3]; rw [if_pos cv, if_neg (by rw [ch]; simp)])
                      obtain ⟨acc2, hacc2⟩ : ∃ y, y = acc ++ [foldS false q] := ⟨_, rfl⟩
                      have NA := Aside0.mk hacc2
                      clear hacc2
                      go_wp2_with (first | ((with_reducible refine gate_callee (f := 38) rfl ?_); refine goesL_ (some 84) rfl rfl Tryd.func38 (by kernel_rfl) rfl #[.string q, .bool false] rfl (by (try simp only [List.map_toArray, List.map_cons, List.map_nil]); first | done | rfl | (simp only [List.length_drop, List.length_take]; rfl)) ?_; (with_reducible refine (fold_calls q false (by omega) _).mono ?_); rintro e w40 ⟨rfl, hb⟩; refine ⟨_, rfl, ?_⟩; have n0_ := Aside0.mk (blk_below (g := ad119.block) (o := .cells cellsP 9 (0, 0)) (by (with_reducible repeat (first | refine blk_drewN ?_ _ | refine blk_drew ?_ | refine blk_alloc ?_ _)); exact BKP.out) hb); have n1_ := Aside0.mk (blk_below (g := gb115) (o := .cells #[.string (⟨#[]⟩ : ByteArray), .string (⟨#[]⟩ : ByteArray), .string (⟨#[]⟩ : ByteArray), .slice none 0 0] 25 (0, 0)) (by (with_reducible repeat (first | refine blk_drewN ?_ _ | refine blk_drew ?_ | refine blk_alloc ?_ _)); exact BK115.out) hb); have n2_ := Aside0.mk (blk_below (g := gb124) (o := .cells #[.string (foldS false p0), .string scr, .string reg, u] 25 (0, 0)) (by (with_reducible repeat (first | refine blk_drewN ?_ _ | refine blk_drew ?_ | refine blk_alloc ?_ _)); exact BK124.out) hb); have n3_ := Aside0.mk (below_step (by repeat (first | (with_reducible first | exact HB.out | apply below_alloc | apply pw_below_drewN | apply below_drew1 | refine below_set ?_ GE115.out | refine below_set ?_ GE124.out) | exact HB.out)) hb); have n4_ := Aside0.mk (Kd.R_below (by (with_reducible repeat (first | apply Kd.R_alloc | apply Kd.R_drewN | apply Kd.R_drew)); exact HO.out) hb); clear BKP BK115 BK124 HB HO hb; have BKP := n0_; have BK115 := n1_; have BK124 := n2_; have HB := n3_; have HO := n4_; clear n0_ n1_ n2_ n3_ n4_) | ((with_reducible refine gate_callee (f := 41) rfl ?_); refine goesL_ (some 86) rfl rfl Tryd.func41 (by kernel_rfl) rfl #[.string q] rfl (by (try simp only [List.map_toArray, List.map_cons, List.map_nil]); first | done | rfl | (simp only [List.length_drop, List.length_take]; rfl)) ?_; (with_reducible refine (variant_calls q (by omega) _).mono ?_); rintro e w' ⟨rfl, ⟨nd, rfl⟩⟩; refine ⟨_, rfl, ?_⟩; rw [cv]; (try (rw [drewN_self w40]; generalize hq_ : World.drewN w40 _ = w40; have n0_ : Aside0 (w40.heap[ad119.block]? = some (.cells cellsP 9 (0, 0))) := ⟨by rw [← hq_]; exact (by (with_reducible repeat (first | refine blk_drewN ?_ _ | refine blk_drew ?_ | refine blk_alloc ?_ _)); exact BKP.out)⟩; have n1_ : Aside0 (w40.heap[gb115]? = some (.cells #[.string (⟨#[]⟩ : ByteArray), .string (⟨#[]⟩ : ByteArray), .string (⟨#[]⟩ : ByteArray), .slice none 0 0] 25 (0, 0))) := ⟨by rw [← hq_]; exact (by (with_reducible repeat (first | refine blk_drewN ?_ _ | refine blk_drew ?_ | refine blk_alloc ?_ _)); exact BK115.out)⟩; have n2_ : Aside0 (w40.heap[gb124]? = some (.cells #[.string (foldS false p0), .string scr, .string reg, u] 25 (0, 0))) := ⟨by rw [← hq_]; exact (by (with_reducible repeat (first | refine blk_drewN ?_ _ | refine blk_drew ?_ | refine blk_alloc ?_ _)); exact BK124.out)⟩; have n3_ : Aside0 (Below w.heap.size w w40) := ⟨by rw [← hq_]; exact (by repeat (first | (with_reducible first | exact HB.out | apply below_alloc | apply pw_below_drewN | apply below_drew1 | refine below_set ?_ GE115.out | refine below_set ?_ GE124.out) | exact HB.out))⟩; have n4_ : Aside0 (Kd.R Kd.string 9 w40 w.heap.size (fun k => k ≠ ad119.block) (u) acc) := ⟨by rw [← hq_]; exact (by (with_reducible repeat (first | apply Kd.R_alloc | apply Kd.R_drewN | apply Kd.R_drew)); exact HO.out)⟩; clear BKP BK115 BK124 HB HO hq_; have BKP := n0_; have BK115 := n1_; have BK124 := n2_; have HB := n3_; have HO := n4_; clear n0_ n1_ n2_ n3_ n4_)); have hcz57_0 : w40.cell? ⟨gb124, 0, none⟩ = some (.string (foldS false p0)) := (blk_cell BK124.out 0).trans rfl; have hfz57_0 := blk_frozen BK124.out 0; have hcz57_1 : w40.cell? ⟨gb124, 1, none⟩ = some (.string scr) := (blk_cell BK124.out 1).trans rfl; have hfz57_1 := blk_frozen BK124.out 1; have hcz57_2 : w40.cell? ⟨gb124, 2, none⟩ = some (.string reg) := (blk_cell BK124.out 2).trans rfl; have hfz57_2 := blk_frozen BK124.out 2; have hcz57_3 : w40.cell? ⟨gb124, 3, none⟩ = some (u) := (blk_cell BK124.out 3).trans rfl; have hfz57_3 := blk_frozen BK124.out 3; obtain ⟨Ao, co, eo⟩ := Kd.R_slice HO.out; subst eo) | (go_at_call 42; (with_reducible refine (contains_calls _ _ acc (foldS false q) _ ?side1 ?side2 (by have := HAL.out; have := HI.out; have := HS4.out.2; omega)).mono ?_); (case side1 => repeat (first | exact (Kd.R_reads' HO.out).2.2 | (with_reducible refine Kd.C_alloc ?_ _) | (with_reducible refine Kd.C_drewN ?_ _) | (with_reducible refine Kd.C_drew ?_))); (case side2 => exact (Kd.R_reads' HO.out).2.1); rintro e w' ⟨rfl, ⟨nd, rfl⟩⟩; rw [ch]; (try (rw [drewN_self w40]; generalize hq_ : World.drewN w40 _ = w40; have n0_ : Aside0 (w40.heap[ad119.block]? = some (.cells cellsP 9 (0, 0))) := ⟨by rw [← hq_]; exact (by (with_reducible repeat (first | refine blk_drewN ?_ _ | refine blk_drew ?_ | refine blk_alloc ?_ _)); exact BKP.out)⟩; have n1_ : Aside0 (w40.heap[gb115]? = some (.cells #[.string (⟨#[]⟩ : ByteArray), .string (⟨#[]⟩ : ByteArray), .string (⟨#[]⟩ : ByteArray), .slice none 0 0] 25 (0, 0))) := ⟨by rw [← hq_]; exact (by (with_reducible repeat (first | refine blk_drewN ?_ _ | refine blk_drew ?_ | refine blk_alloc ?_ _)); exact BK115.out)⟩; have n2_ : Aside0 (w40.heap[gb124]? = some (.cells #[.string (foldS false p0), .string scr, .string reg, .slice Ao acc.length co] 25 (0, 0))) := ⟨by rw [← hq_]; exact (by (with_reducible repeat (first | refine blk_drewN ?_ _ | refine blk_drew ?_ | refine blk_alloc ?_ _)); exact BK124.out)⟩; have n3_ : Aside0 (Below w.heap.size w w40) := ⟨by rw [← hq_]; exact (by repeat (first | (with_reducible first | exact HB.out | apply below_alloc | apply pw_below_drewN | apply below_drew1 | refine below_set ?_ GE115.out | refine below_set ?_ GE124.out) | exact HB.out))⟩; have n4_ : Aside0 (Kd.R Kd.string 9 w40 w.heap.size (fun k => k ≠ ad119.block) (.slice Ao acc.length co) acc) := ⟨by rw [← hq_]; exact (by (with_reducible repeat (first | apply Kd.R_alloc | apply Kd.R_drewN | apply Kd.R_drew)); exact HO.out)⟩; clear BKP BK115 BK124 HB HO hq_; have BKP := n0_; have BK115 := n1_; have BK124 := n2_; have HB := n3_; have HO := n4_; clear n0_ n1_ n2_ n3_ n4_)); have hcz58_0 : w40.cell? ⟨gb124, 0, none⟩ = some (.string (foldS false p0)) := (blk_cell BK124.out 0).trans rfl; have hfz58_0 := blk_frozen BK124.out 0; have hcz58_1 : w40.cell? ⟨gb124, 1, none⟩ = some (.string scr) := (blk_cell BK124.out 1).trans rfl; have hfz58_1 := blk_frozen BK124.out 1; have hcz58_2 : w40.cell? ⟨gb124, 2, none⟩ = some (.string reg) := (blk_cell BK124.out 2).trans rfl; have hfz58_2 := blk_frozen BK124.out 2; have hcz58_3 : w40.cell? ⟨gb124, 3, none⟩ = some (.slice Ao acc.length co) := (blk_cell BK124.out 3).trans rfl; have hfz58_3 := blk_frozen BK124.out 3) | ((with_reducible refine gate_builtin (b := .append) (xs := #[.tmp 96, .tmp 98]) rfl ?_); at_builtin; refine Kd.R_append Kd.string (w0 := w) w.heap.size rfl (.tmp 96) (.tmp 98) 23 9 (.string ⟨#[]⟩) 16 rfl Tryd.underlying23 info9 rfl (by decide) (by omega) (.slice Ao acc.length co) acc (foldS false q) [.string (foldS false q)] (fun k => k ≠ ad119.block) (fun _ => False) rfl rfl ?aP (fun _ hk => hk.elim) ?aF ?aO ?aB ?aS ?aL ?_; (case aP => exact rfl); (case aB => exact (by repeat (first | (with_reducible first | exact HB.out | apply below_alloc | apply pw_below_drewN | apply below_drew1 | refine below_set ?_ GE115.out | refine below_set ?_ GE124.out) | exact HB.out))); (case aF => exact (fun k hk => Nat.ne_of_gt (Nat.lt_of_lt_of_le (blk_lt (g := ad119.block) (by (with_reducible repeat (first | refine blk_drewN ?_ _ | refine blk_drew ?_ | refine blk_alloc ?_ _)); exact BKP.out)) hk))); (case aO => exact (by (with_reducible repeat (first | apply Kd.R_alloc | apply Kd.R_drewN | apply Kd.R_drew)); exact HO.out)); (case aS => exact (below_size (by repeat (first | (with_reducible first | exact HB.out | apply below_alloc | apply pw_below_drewN | apply below_drew1 | refine below_set ?_ GE115.out | refine below_set ?_ GE124.out) | exact HB.out)))); (case aL => have := HAL.out; have := HI.out; have := HS4.out.2; omega); intro v155 w65 ho hb hg hat; rw [← NA.out] at ho; have n0_ := Aside0.mk (blk_grown (g := gb115) (o := .cells #[.string (⟨#[]⟩ : ByteArray), .string (⟨#[]⟩ : ByteArray), .string (⟨#[]⟩ : ByteArray), .slice none 0 0] 25 (0, 0)) (by (with_reducible repeat (first | refine blk_drewN ?_ _ | refine blk_drew ?_ | refine blk_alloc ?_ _)); exact BK115.out) hg (Kd.R_ne HO.out BK115.out (by decide))); have n1_ := Aside0.mk (blk_grown (g := gb124) (o := .cells #[.string (foldS false p0), .string scr, .string reg, .slice Ao acc.length co] 25 (0, 0)) (by (with_reducible repeat (first | refine blk_drewN ?_ _ | refine blk_drew ?_ | refine blk_alloc ?_ _)); exact BK124.out) hg (Kd.R_ne HO.out BK124.out (by decide))); have n2_ := Aside0.mk (blk_grown (g := ad119.block) (o := .cells cellsP 9 (0, 0)) (by (with_reducible repeat (first | refine blk_drewN ?_ _ | refine blk_drew ?_ | refine blk_alloc ?_ _)); exact BKP.out) hg (fun e => HO.out.1 _ e.symm rfl)); have n3_ := Aside0.mk (hb); have n4_ := Aside0.mk (ho); clear BK115 BK124 BKP HB HO; have BK115 := n0_; have BK124 := n1_; have BKP := n2_; have HB := n3_; have HO := n4_; clear n0_ n1_ n2_ n3_ n4_; clear ho hb hg hat; obtain ⟨Ao66, co66, eo66⟩ := Kd.R_slice HO.out; subst eo66; have hcz65_0 : w65.cell? ⟨gb124, 0, none⟩ = some (.string (foldS false p0)) := (blk_cell BK124.out 0).trans rfl; have hfz65_0 := blk_frozen BK124.out 0; have hcz65_1 : w65.cell? ⟨gb124, 1, none⟩ = some (.string scr) := (blk_cell BK124.out 1).trans rfl; have hfz65_1 := blk_frozen BK124.out 1; have hcz65_2 : w65.cell? ⟨gb124, 2, none⟩ = some (.string reg) := (blk_cell BK124.out 2).trans rfl; have hfz65_2 := blk_frozen BK124.out 2; have hcz65_3 : w65.cell? ⟨gb124, 3, none⟩ = some (.slice Ao acc.length co) := (blk_cell BK124.out 3).trans rfl; have hfz65_3 := blk_frozen BK124.out 3))
                      go_roundg (last.length - i)
                      case measure => have := HK.out; omega
                      case rel =>
                        have hl2 : acc2.length = acc.length + 1 := by rw [NA.out]; simp
                        refine ⟨i + 1, acc2, .slice Ao66 acc2.length co66, by simp; exact wrap_id (by omega) (by have := HS4.out.2; omega), ⟨by omega⟩, ⟨by omega⟩, ⟨by rw [NA.out]; exact HP.out⟩, ⟨by have := HAL.out; omega⟩, ⟨?_⟩, ⟨?_⟩, ⟨?_⟩, ⟨?_⟩, ⟨?_⟩⟩
                        · exact Kd.R_mono (Kd.R_far (p := ⟨gb124, 3, none⟩) (Kd.R_types HO.out BK124.out (by decide)) (fun _ hk => hk.2) _) (fun _ hk => hk.1)
                        · exact blk_far (p := ⟨gb124, 3, none⟩) BKP.out NBP.out _
                        · exact blk_far (p := ⟨gb124, 3, none⟩) BK115.out NB0.out _
                        · refine blk_put (cs := #[.string (foldS false p0), .string scr, .string reg, .slice Ao acc.length co]) ?_ 3 _ rfl; exact BK124.out
                        · exact (by repeat (first | (with_reducible first | exact HB.out | apply below_alloc | apply pw_below_drewN | apply below_drew1 | refine below_set ?_ GE115.out | refine below_set ?_ GE124.out) | exact HB.out))
                  · replace cv : varB q = false := Bool.eq_false_iff.mpr cv
                    have e1 : notTold = (r1, r2, r3, r4, r5) := by rw [← HP.out]; simp only [P3]; rw [if_neg (by rw [cv]; simp)]
                    simp only [notTold, Prod.mk.injEq] at e1
                    obtain ⟨rfl, rfl, rfl, rfl, rfl⟩ := e1
                    clear HP
                    go_wp2_with (first | ((with_reducible refine gate_callee (f := 38) rfl ?_); refine goesL_ (some 84) rfl rfl Tryd.func38 (by kernel_rfl) rfl #[.string q, .bool false] rfl (by (try simp only [List.map_toArray, List.map_cons, List.map_nil]); first | done | rfl | (simp only [List.length_drop, List.length_take]; rfl)) ?_; (with_reducible refine (fold_calls q false (by omega) _).mono ?_); rintro e w40 ⟨rfl, hb⟩; refine ⟨_, rfl, ?_⟩; have n0_ := Aside0.mk (blk_below (g := ad119.block) (o := .cells cellsP 9 (0, 0)) (by (with_reducible repeat (first | refine blk_drewN ?_ _ | refine blk_drew ?_ | refine blk_alloc ?_ _)); exact BKP.out) hb); have n1_ := Aside0.mk (blk_below (g := gb115) (o := .cells #[.string (⟨#[]⟩ : ByteArray), .string (⟨#[]⟩ : ByteArray), .string (⟨#[]⟩ : ByteArray), .slice none 0 0] 25 (0, 0)) (by (with_reducible repeat (first | refine blk_drewN ?_ _ | refine blk_drew ?_ | refine blk_alloc ?_ _)); exact BK115.out) hb); have n2_ := Aside0.mk (blk_below (g := gb124) (o := .cells #[.string (foldS false p0), .string scr, .string reg, u] 25 (0, 0)) (by (with_reducible repeat (first | refine blk_drewN ?_ _ | refine blk_drew ?_ | refine blk_alloc ?_ _)); exact BK124.out) hb); have n3_ := Aside0.mk (below_step (by repeat (first | (with_reducible first | exact HB.out | apply below_alloc | apply pw_below_drewN | apply below_drew1 | refine below_set ?_ GE115.out | refine below_set ?_ GE124.out) | exact HB.out)) hb); have n4_ := Aside0.mk (Kd.R_below (by (with_reducible repeat (first | apply Kd.R_alloc | apply Kd.R_drewN | apply Kd.R_drew)); exact HO.out) hb); clear BKP BK115 BK124 HB HO hb; have BKP := n0_; have BK115 := n1_; have BK124 := n2_; have HB := n3_; have HO := n4_; clear n0_ n1_ n2_ n3_ n4_) | ((with_reducible refine gate_callee (f := 41) rfl ?_); refine goesL_ (some 86) rfl rfl Tryd.func41 (by kernel_rfl) rfl #[.string q] rfl (by (try simp only [List.map_toArray, List.map_cons, List.map_nil]); first | done | rfl | (simp only [List.length_drop, List.length_take]; rfl)) ?_; (with_reducible refine (variant_calls q (by omega) _).mono ?_); rintro e w' ⟨rfl, ⟨nd, rfl⟩⟩; refine ⟨_, rfl, ?_⟩; rw [cv]; (try (rw [drewN_self w40]; generalize hq_ : World.drewN w40 _ = w40; have n0_ : Aside0 (w40.heap[ad119.block]? = some (.cells cellsP 9 (0, 0))) := ⟨by rw [← hq_]; exact (by (with_reducible repeat (first | refine blk_drewN ?_ _ | refine blk_drew ?_ | refine blk_alloc ?_ _)); exact BKP.out)⟩; have n1_ : Aside0 (w40.heap[gb115]? = some (.cells #[.string (⟨#[]⟩ : ByteArray), .string (⟨#[]⟩ : ByteArray), .string (⟨#[]⟩ : ByteArray), .slice none 0 0] 25 (0, 0))) := ⟨by rw [← hq_]; exact (by (with_reducible repeat (first | refine blk_drewN ?_ _ | refine blk_drew ?_ | refine blk_alloc ?_ _)); exact BK115.out)⟩; have n2_ : Aside0 (w40.heap[gb124]? = some (.cells #[.string (foldS false p0), .string scr, .string reg, u] 25 (0, 0))) := ⟨by rw [← hq_]; exact (by (with_reducible repeat (first | refine blk_drewN ?_ _ | refine blk_drew ?_ | refine blk_alloc ?_ _)); exact BK124.out)⟩; have n3_ : Aside0 (Below w.heap.size w w40) := ⟨by rw [← hq_]; exact (by repeat (first | (with_reducible first | exact HB.out | apply below_alloc | apply pw_below_drewN | apply below_drew1 | refine below_set ?_ GE115.out | refine below_set ?_ GE124.out) | exact HB.out))⟩; have n4_ : Aside0 (Kd.R Kd.string 9 w40 w.heap.size (fun k => k ≠ ad119.block) (u) acc) := ⟨by rw [← hq_]; exact (by (with_reducible repeat (first | apply Kd.R_alloc | apply Kd.R_drewN | apply Kd.R_drew)); exact HO.out)⟩; clear BKP BK115 BK124 HB HO hq_; have BKP := n0_; have BK115 := n1_; have BK124 := n2_; have HB := n3_; have HO := n4_; clear n0_ n1_ n2_ n3_ n4_)); have hcz59_0 : w40.cell? ⟨gb115, 0, none⟩ = some (.string (⟨#[]⟩ : ByteArray)) := (blk_cell BK115.out 0).trans rfl; have hfz59_0 := blk_frozen BK115.out 0; have hcz59_1 : w40.cell? ⟨gb115, 1, none⟩ = some (.string (⟨#[]⟩ : ByteArray)) := (blk_cell BK115.out 1).trans rfl; have hfz59_1 := blk_frozen BK115.out 1; have hcz59_2 : w40.cell? ⟨gb115, 2, none⟩ = some (.string (⟨#[]⟩ : ByteArray)) := (blk_cell BK115.out 2).trans rfl; have hfz59_2 := blk_frozen BK115.out 2; have hcz59_3 : w40.cell? ⟨gb115, 3, none⟩ = some (.slice none 0 0) := (blk_cell BK115.out 3).trans rfl; have hfz59_3 := blk_frozen BK115.out 3))
                    refine bodyPost_ret (results_ct rfl _ _ gb115 25 #[.string (⟨#[]⟩ : ByteArray), .string (⟨#[]⟩ : ByteArray), .string (⟨#[]⟩ : ByteArray), .slice none 0 0] (0, 0) _ rfl (by (with_reducible repeat (first | refine blk_drewN ?_ _ | refine blk_drew ?_ | refine blk_alloc ?_ _)); refine blk_put (cs := #[.string (⟨#[]⟩ : ByteArray), .string (⟨#[]⟩ : ByteArray), .string (⟨#[]⟩ : ByteArray), .slice none 0 0]) ?_ 3 _ rfl; (with_reducible repeat (first | refine blk_drewN ?_ _ | refine blk_drew ?_ | refine blk_alloc ?_ _)); refine blk_put (cs := #[.string (⟨#[]⟩ : ByteArray), .string (⟨#[]⟩ : ByteArray), .string (⟨#[]⟩ : ByteArray), .slice none 0 0]) ?_ 2 _ rfl; (with_reducible repeat (first | refine blk_drewN ?_ _ | refine blk_drew ?_ | refine blk_alloc ?_ _)); refine blk_put (cs := #[.string (⟨#[]⟩ : ByteArray), .string (⟨#[]⟩ : ByteArray), .string (⟨#[]⟩ : ByteArray), .slice none 0 0]) ?_ 1 _ rfl; (with_reducible repeat (first | refine blk_drewN ?_ _ | refine blk_drew ?_ | refine blk_alloc ?_ _)); refine blk_put (cs := #[.string (⟨#[]⟩ : ByteArray), .string (⟨#[]⟩ : ByteArray), .string (⟨#[]⟩ : ByteArray), .slice none 0 0]) ?_ 0 _ rfl; (with_reducible repeat (first | refine blk_drewN ?_ _ | refine blk_drew ?_ | refine blk_alloc ?_ _)); exact BK115.out) Tryd.underlying25 rfl (by kernel_rfl)) rfl ?_
                    exact ⟨_, by first | rfl | (simp [errW_none, errW_some] <;> rfl) | (simp [*, errW_none, errW_some] <;> rfl), Kd.R_nil _ _ _ _ _, (by repeat (first | (with_reducible first | exact HB.out | apply below_alloc | apply pw_below_drewN | apply below_drew1 | refine below_set ?_ GE115.out | refine below_set ?_ GE124.out) | exact HB.out))⟩
                · have d1 : decide ((i : Int) < (last.length : Int)) = false := decide_eq_false hi
                  have hin : i = last.length := by have := HI.out; omega
                  obtain ⟨Ao, co, eo⟩ := Kd.R_slice HO.out
                  subst eo
                  have e1 : ((foldS false p0), scr, reg, acc, true) = (r1, r2, r3, r4, r5) := by rw [← HP.out, hin, List.drop_length]; rfl
                  simp only [Prod.mk.injEq] at e1
                  obtain ⟨rfl, rfl, rfl, rfl, rfl⟩ := e1
                  clear HP
                  have hcz71_0 : wr.cell? ⟨gb124, 0, none⟩ = some (.string (foldS false p0)) := (blk_cell BK124.out 0).trans rfl
                  have hfz71_0 := blk_frozen BK124.out 0
                  have hcz71_1 : wr.cell? ⟨gb124, 1, none⟩ = some (.string scr) := (blk_cell BK124.out 1).trans rfl
                  have hfz71_1 := blk_frozen BK124.out 1
                  have hcz71_2 : wr.cell? ⟨gb124, 2, none⟩ = some (.string reg) := (blk_cell BK124.out 2).trans rfl
                  have hfz71_2 := blk_frozen BK124.out 2
                  have hcz71_3 : wr.cell? ⟨gb124, 3, none⟩ = some (.slice Ao acc.length co) := (blk_cell BK124.out 3).trans rfl
                  have hfz71_3 := blk_frozen BK124.out 3
                  have hcz72_0 : wr.cell? ⟨gb115, 0, none⟩ = some (.string (⟨#[]⟩ : ByteArray)) := (blk_cell BK115.out 0).trans rfl
                  have hfz72_0 := blk_frozen BK115.out 0
                  have hcz72_1 : wr.cell? ⟨gb115, 1, none⟩ = some (.string (⟨#[]⟩ : ByteArray)) := (blk_cell BK115.out 1).trans rfl
                  have hfz72_1 := blk_frozen BK115.out 1
                  have hcz72_2 : wr.cell? ⟨gb115, 2, none⟩ = some (.string (⟨#[]⟩ : ByteArray)) := (blk_cell BK115.out 2).trans rfl
                  have hfz72_2 := blk_frozen BK115.out 2
                  have hcz72_3 : wr.cell? ⟨gb115, 3, none⟩ = some (.slice none 0 0) := (blk_cell BK115.out 3).trans rfl
                  have hfz72_3 := blk_frozen BK115.out 3
                  go_wp2
                  refine bodyPost_ret (results_ct rfl _ _ gb115 25 #[.string (foldS false p0), .string scr, .string reg, .slice Ao acc.length co] (0, 0) _ rfl (by refine blk_put (cs := #[.string (foldS false p0), .string scr, .string reg, .slice none 0 0]) ?_ 3 _ rfl; (with_reducible repeat (first | refine blk_drewN ?_ _ | refine blk_drew ?_ | refine blk_alloc ?_ _)); refine blk_put (cs := #[.string (foldS false p0), .string scr, .string (⟨#[]⟩ : ByteArray), .slice none 0 0]) ?_ 2 _ rfl; (with_reducible repeat (first | refine blk_drewN ?_ _ | refine blk_drew ?_ | refine blk_alloc ?_ _)); refine blk_put (cs := #[.string (foldS false p0), .string (⟨#[]⟩ : ByteArray), .string (⟨#[]⟩ : ByteArray), .slice none 0 0]) ?_ 1 _ rfl; (with_reducible repeat (first | refine blk_drewN ?_ _ | refine blk_drew ?_ | refine blk_alloc ?_ _)); refine blk_put (cs := #[.string (⟨#[]⟩ : ByteArray), .string (⟨#[]⟩ : ByteArray), .string (⟨#[]⟩ : ByteArray), .slice none 0 0]) ?_ 0 _ rfl; (with_reducible repeat (first | refine blk_drewN ?_ _ | refine blk_drew ?_ | refine blk_alloc ?_ _)); exact BK115.out) Tryd.underlying25 rfl (by kernel_rfl)) rfl ?_
                  exact ⟨_, by first | rfl | (simp [errW_none, errW_some] <;> rfl) | (simp [*, errW_none, errW_some] <;> rfl), Kd.R_mono (Kd.R_far (p := ⟨gb115, 3, none⟩) (Kd.R_far (p := ⟨gb115, 2, none⟩) (Kd.R_far (p := ⟨gb115, 1, none⟩) (Kd.R_far (p := ⟨gb115, 0, none⟩) (Kd.R_types HO.out BK115.out (by decide)) (fun _ hk => hk.2) _) (fun _ hk => hk.2) _) (fun _ hk => hk.2) _) (fun _ hk => hk.2) _) (fun _ _ => trivial), (by repeat (first | (with_reducible first | exact HB.out | apply below_alloc | apply pw_below_drewN | apply below_drew1 | refine below_set ?_ GE115.out | refine below_set ?_ GE124.out) | exact HB.out))⟩
end Go.Proofs.YtpedajhcfkohlaaDoorHand
