/- Texts joined by this session's own program, part 10. -/
import Derived.Shelf.Strings.Builder1
import Derived.Shelf.Strings.Builder2
import Derived.Shelf.Strings.OnBuilder
import Derived.Shelf.Strings.Trim
import Derived.Shelf.Small.Utf8
import Derived.Shelf.Small.Strs
import Derived.Shelf.Small.Wraps
import Derived.Shelf.Strings.BuilderF
import Derived.Shelf.Utf8.RuneCount
import Derived.Shelf.Strconv.Atoi
import Derived.Shelf.Strconv.Itoa0
import Derived.Shelf.Strconv.Itoa1
import Derived.Shelf.LaysM
import Derived.Shelf.Strconv.Itoa2
import Derived.Shelf.Strconv.Itoa3
import Derived.Shelf.Strings.Search1
import Derived.Shelf.Strings.Search2
import Derived.Shelf.Strings.Search3
import Derived.Shelf.Strings.Cut
import Derived.Shelf.Strings.Count
import Derived.Shelf.Strings.Shaped
import Derived.Shelf.Strings.Prefix
import Derived.Shelf.Strings.Split
import Derived.Shelf.Strings.Fields
import Derived.Shelf.Strings.SplitShaped
import Derived.Shelf.Unicode.Latin
import Derived.Shelf.Strings.Runes
import Derived.Shelf.Strings.AsciiSet
import Derived.Shelf.Bits.Mul64
import Derived.Shelf.Unicode.DecodeSlow
import Derived.Shelf.Unicode.Is16White
import Derived.Shelf.Unicode.IsSpaceAny
import Derived.Shelf.Unicode.Is16Any
import Derived.Shelf.Unicode.Is32Any
import Derived.Shelf.Unicode.ExclAny
import Derived.Shelf.Slices.Turned
import Derived.Shelf.Slices.Equal
import Derived.Ground.Names2Prog
import Derived.Shelf.Slices.Clone
import Derived.Ground.SlgnProg
import Derived.Shelf.SlicesE.Clone
import Derived.Test.YtkmbkejmfffafaaGreatDoorProg
import Derived.Test.YtkmbkejmfffafaaGreatDoorQ9
set_option linter.unusedSectionVars false
set_option linter.unusedVariables false
set_option linter.unusedSimpArgs false
section
namespace Go.Proofs
open Go.Shelf
def Tryz.lays161_ren : Go.Shelf.Ren := ⟨fun | 161 => 84 | 231 => 124 | 227 => 125 | 233 => 126 | 235 => 127 | 228 => 167 | 197 => 144 | 151 => 168 | 260 => 186 | 152 => 206 | 137 => 232 | 119 => 233 | 224 => 184 | 225 => 183 | 217 => 182 | 266 => 214 | n => n, fun | 9 => 9 | 4 => 4 | 3 => 3 | 5 => 5 | 117 => 218 | 116 => 217 | 0 => 0 | 124 => 221 | 105 => 234 | 21 => 21 | 119 => 166 | 46 => 70 | 139 => 320 | 138 => 319 | n => n, fun | 3 => 5 | 4 => 6 | n => n⟩
theorem Tryz.lays161 : Go.Proofs.Lays.n161 Tryz.prog Tryz.lays161_ren := {
  mixed := by kernel_rfl
  f119 := Tryz.func233.trans (congrArg some (by kernel_rfl))
  f137 := Tryz.func232.trans (congrArg some (by kernel_rfl))
  f151 := Tryz.func168.trans (congrArg some (by kernel_rfl))
  f152 := Tryz.func206.trans (congrArg some (by kernel_rfl))
  f161 := Tryz.func84.trans (congrArg some (by kernel_rfl))
  f197 := Tryz.func144.trans (congrArg some (by kernel_rfl))
  f217 := Tryz.func182.trans (congrArg some (by kernel_rfl))
  f224 := Tryz.func184.trans (congrArg some (by kernel_rfl))
  f225 := Tryz.func183.trans (congrArg some (by kernel_rfl))
  f227 := Tryz.func125.trans (congrArg some (by kernel_rfl))
  f228 := Tryz.func167.trans (congrArg some (by kernel_rfl))
  f231 := Tryz.func124.trans (congrArg some (by kernel_rfl))
  f233 := Tryz.func126.trans (congrArg some (by kernel_rfl))
  f235 := Tryz.func127.trans (congrArg some (by kernel_rfl))
  f260 := Tryz.func186.trans (congrArg some (by kernel_rfl))
  f266 := Tryz.func214.trans (congrArg some (by kernel_rfl))
  t0 := Tryz.underlying0
  a0 := Tryz.isAgg0
  z0 := Tryz.sizeOf0
  v0 := Tryz.zeroValue0
  t3 := Tryz.underlying3
  a3 := Tryz.isAgg3
  z3 := Tryz.sizeOf3
  v3 := Tryz.zeroValue3
  t4 := Tryz.underlying4
  a4 := Tryz.isAgg4
  z4 := Tryz.sizeOf4
  v4 := Tryz.zeroValue4
  t5 := Tryz.underlying5
  a5 := Tryz.isAgg5
  z5 := Tryz.sizeOf5
  v5 := Tryz.zeroValue5
  t9 := Tryz.underlying9
  a9 := Tryz.isAgg9
  z9 := Tryz.sizeOf9
  v9 := Tryz.zeroValue9
  t21 := Tryz.underlying21
  a21 := Tryz.isAgg21
  z21 := Tryz.sizeOf21
  v21 := Tryz.zeroValue21
  t46 := Tryz.underlying70
  a46 := Tryz.isAgg70
  z46 := Tryz.sizeOf70
  v46 := Tryz.zeroValue70
  t105 := Tryz.underlying234
  a105 := Tryz.isAgg234
  z105 := Tryz.sizeOf234
  v105 := Tryz.zeroValue234
  t116 := Tryz.underlying217
  a116 := Tryz.isAgg217
  z116 := Tryz.sizeOf217
  t117 := Tryz.underlying218
  a117 := Tryz.isAgg218
  z117 := Tryz.sizeOf218
  v117 := Tryz.zeroValue218
  t119 := Tryz.underlying166
  a119 := Tryz.isAgg166
  z119 := Tryz.sizeOf166
  t124 := Tryz.underlying221
  a124 := Tryz.isAgg221
  z124 := Tryz.sizeOf221
  v124 := Tryz.zeroValue221
  t138 := Tryz.underlying319
  a138 := Tryz.isAgg319
  z138 := Tryz.sizeOf319
  v138 := Tryz.zeroValue319
  t139 := Tryz.underlying320
  a139 := Tryz.isAgg320
  z139 := Tryz.sizeOf320
  v139 := Tryz.zeroValue320
  g3 := by kernel_rfl
  g4 := by kernel_rfl }
open Go.RowKit in
theorem Tryz.strings_TrimLeft_one (s : ByteArray) (c : UInt8) (hc : c.toNat < 128) (w : World) :
    Calls Tryz.prog 84 #[.string s, .string ⟨#[c]⟩] w fun e w' => e = .returned (.string ⟨(Lib.trimLeftB s.data.toList c).toArray⟩) ∧ w' = w := Any.strings_TrimLeft_one Tryz.lays161 s c hc w
def Tryz.lays160_ren : Go.Shelf.Ren := ⟨fun | 160 => 85 | 232 => 128 | 231 => 124 | 227 => 125 | 234 => 129 | 233 => 126 | 236 => 130 | 235 => 127 | 228 => 167 | 271 => 169 | 151 => 168 | 197 => 144 | 120 => 207 | 152 => 206 | 260 => 186 | 137 => 232 | 119 => 233 | 224 => 184 | 225 => 183 | 217 => 182 | 266 => 214 | n => n, fun | 9 => 9 | 4 => 4 | 3 => 3 | 5 => 5 | 117 => 218 | 116 => 217 | 0 => 0 | 124 => 221 | 21 => 21 | 105 => 234 | 46 => 70 | 119 => 166 | 139 => 320 | 138 => 319 | n => n, fun | 3 => 5 | 4 => 6 | n => n⟩
theorem Tryz.lays160 : Go.Proofs.Lays.n160 Tryz.prog Tryz.lays160_ren := {
  mixed := by kernel_rfl
  f119 := Tryz.func233.trans (congrArg some (by kernel_rfl))
  f120 := Tryz.func207.trans (congrArg some (by kernel_rfl))
  f137 := Tryz.func232.trans (congrArg some (by kernel_rfl))
  f151 := Tryz.func168.trans (congrArg some (by kernel_rfl))
  f152 := Tryz.func206.trans (congrArg some (by kernel_rfl))
  f160 := Tryz.func85.trans (congrArg some (by kernel_rfl))
  f197 := Tryz.func144.trans (congrArg some (by kernel_rfl))
  f217 := Tryz.func182.trans (congrArg some (by kernel_rfl))
  f224 := Tryz.func184.trans (congrArg some (by kernel_rfl))
  f225 := Tryz.func183.trans (congrArg some (by kernel_rfl))
  f227 := Tryz.func125.trans (congrArg some (by kernel_rfl))
  f228 := Tryz.func167.trans (congrArg some (by kernel_rfl))
  f231 := Tryz.func124.trans (congrArg some (by kernel_rfl))
  f232 := Tryz.func128.trans (congrArg some (by kernel_rfl))
  f233 := Tryz.func126.trans (congrArg some (by kernel_rfl))
  f234 := Tryz.func129.trans (congrArg some (by kernel_rfl))
  f235 := Tryz.func127.trans (congrArg some (by kernel_rfl))
  f236 := Tryz.func130.trans (congrArg some (by kernel_rfl))
  f260 := Tryz.func186.trans (congrArg some (by kernel_rfl))
  f266 := Tryz.func214.trans (congrArg some (by kernel_rfl))
  f271 := Tryz.func169.trans (congrArg some (by kernel_rfl))
  t0 := Tryz.underlying0
  a0 := Tryz.isAgg0
  z0 := Tryz.sizeOf0
  v0 := Tryz.zeroValue0
  t3 := Tryz.underlying3
  a3 := Tryz.isAgg3
  z3 := Tryz.sizeOf3
  v3 := Tryz.zeroValue3
  t4 := Tryz.underlying4
  a4 := Tryz.isAgg4
  z4 := Tryz.sizeOf4
  v4 := Tryz.zeroValue4
  t5 := Tryz.underlying5
  a5 := Tryz.isAgg5
  z5 := Tryz.sizeOf5
  v5 := Tryz.zeroValue5
  t9 := Tryz.underlying9
  a9 := Tryz.isAgg9
  z9 := Tryz.sizeOf9
  v9 := Tryz.zeroValue9
  t21 := Tryz.underlying21
  a21 := Tryz.isAgg21
  z21 := Tryz.sizeOf21
  v21 := Tryz.zeroValue21
  t46 := Tryz.underlying70
  a46 := Tryz.isAgg70
  z46 := Tryz.sizeOf70
  v46 := Tryz.zeroValue70
  t105 := Tryz.underlying234
  a105 := Tryz.isAgg234
  z105 := Tryz.sizeOf234
  v105 := Tryz.zeroValue234
  t116 := Tryz.underlying217
  a116 := Tryz.isAgg217
  z116 := Tryz.sizeOf217
  t117 := Tryz.underlying218
  a117 := Tryz.isAgg218
  z117 := Tryz.sizeOf218
  v117 := Tryz.zeroValue218
  t119 := Tryz.underlying166
  a119 := Tryz.isAgg166
  z119 := Tryz.sizeOf166
  t124 := Tryz.underlying221
  a124 := Tryz.isAgg221
  z124 := Tryz.sizeOf221
  v124 := Tryz.zeroValue221
  t138 := Tryz.underlying319
  a138 := Tryz.isAgg319
  z138 := Tryz.sizeOf319
  v138 := Tryz.zeroValue319
  t139 := Tryz.underlying320
  a139 := Tryz.isAgg320
  z139 := Tryz.sizeOf320
  v139 := Tryz.zeroValue320
  g3 := by kernel_rfl
  g4 := by kernel_rfl }
open Go.RowKit in
theorem Tryz.strings_Trim_one (s : ByteArray) (c : UInt8) (hc : c.toNat < 128) (w : World) (hs : s.size ≤ 9223372036854775807) :
    Calls Tryz.prog 85 #[.string s, .string ⟨#[c]⟩] w fun e w' => e = .returned (.string ⟨(Lib.trimB s.data.toList c).toArray⟩) ∧ (w' = w ∨ w' = w.drew) := Any.strings_Trim_one Tryz.lays160 s c hc w hs
end Go.Proofs
end
namespace Go.Proofs.YtkmbkejmfffafaaGreatDoor.Refl
open Go Go.RowKit
set_option linter.unusedVariables false
set_option linter.unusedSimpArgs false
set_option maxRecDepth 1000000
noncomputable def hQ : AH := { t := Tr.nil, n := 12, log := [], sym := false, cnt := 0, orc := [], ob := [] }
theorem hQ_obj (x : Nat) : hQ.obj x = .dead := (AH.obj_eq rfl rfl x : hQ.obj x = (hN []).obj x).trans (hN_obj [] x)
noncomputable def rep0 (z : Nat) : List UInt8 := List.replicate z 48
noncomputable def repGood (z : Nat) : Bool := match acall (envT []) 200 92 [strV [48], intV z] hQ with
  | some q => match q with
    | (v, h) => match asStr v with
      | some l => match bytesEq l (rep0 z) with
        | true => clean h
        | false => false
      | none => false
  | none => false
theorem repAll : allB repGood (upTo 31 []) = true := by kernel_rfl
theorem repeat_pure {z : Nat} (h : z ≤ 30) : Pure false 92 [strV [48], intV z] (strV (rep0 z)) := by
  have hg : repGood z = true := (allB_eq _ _).1 repAll z ((upTo_mem 31 [] z).2 (.inl (by omega)))
  unfold repGood at hg
  cases ha : acall (envT []) 200 92 [strV [48], intV z] hQ with
  | none => rw [ha] at hg; cases hg
  | some q =>
  obtain ⟨v, h1⟩ := q
  rw [ha] at hg
  simp only at hg
  cases hb : asStr v with
  | none => simp [hb] at hg
  | some l =>
  simp only [hb] at hg
  cases he : bytesEq l (rep0 z) with
  | false => simp [he] at hg
  | true =>
  simp only [he] at hg
  rw [bytesEq_eq] at he
  have he : l = rep0 z := by simpa using he
  obtain ⟨c1, c2⟩ := clean_some hg
  have hv := asStr_some hb
  rw [he] at hv
  subst hv
  exact fun h ρ w args' _ hgl hr hl => pure_ok envT0 ha c1 c2 rfl rfl (fun x _ => .inl (hQ_obj x)) (fun x _ => by rw [hQ_obj]; trivial) hgl hr hl (fun v hv => by simp at hv; rcases hv with rfl | rfl <;> rfl) rfl
theorem en84 : (Tryz.prog.funcs[84]?).map (fun fn => (fn.name == "runtime.NumGoroutine", fn.body.isSome)) = some (false, true) := by kernel_rfl
theorem en85 : (Tryz.prog.funcs[85]?).map (fun fn => (fn.name == "runtime.NumGoroutine", fn.body.isSome)) = some (false, true) := by kernel_rfl
theorem LR_two {ρ : Ren} {a b : Value} {l : List Value} (ha : flat 5 a = true) (hb : flat 5 b = true) (h : LR ρ [a, b] l) : l = [a, b] := by
  cases h with
  | cons h1 h2 =>
    cases h2 with
    | cons h3 h4 => cases h4; rw [flat_eq 5 _ _ ha h1, flat_eq 5 _ _ hb h3]
theorem trimLeft_pure (s : List UInt8) (c : UInt8) (hc : c.toNat < 128) : Pure false 84 [strV s, strV [c]] (strV (Lib.trimLeftB s c)) := by
  intro h ρ w args' _ hg hr hl
  obtain rfl := LR_two rfl rfl hl
  unfold Ans
  rw [enter_of en84]
  show Calls Tryz.prog 84 #[.string (bA s), .string ⟨#[c]⟩] w (Back _)
  refine (Tryz.strings_TrimLeft_one (bA s) c hc w).mono fun e w' he => ?_
  obtain ⟨rfl, rfl⟩ := he
  exact ⟨rfl, Step.refl hr⟩
theorem trim_pure (s : List UInt8) (c : UInt8) (hc : c.toNat < 128) (hs : s.length ≤ 9223372036854775807) : Pure false 85 [strV s, strV [c]] (strV (Lib.trimB s c)) := by
  intro h ρ w args' _ hg hr hl
  obtain rfl := LR_two rfl rfl hl
  unfold Ans
  rw [enter_of en85]
  show Calls Tryz.prog 85 #[.string (bA s), .string ⟨#[c]⟩] w (Back _)
  refine (Tryz.strings_Trim_one (bA s) c hc w (by show s.length ≤ _; exact hs)).mono fun e w' he => ?_
  obtain ⟨rfl, rfl | rfl⟩ := he
  · exact ⟨rfl, Step.refl hr⟩
  · exact ⟨rfl, Step.grown hr ⟨rfl, rfl, rfl, Nat.le_refl _, fun _ _ => rfl⟩⟩
theorem index_run (l : List UInt8) : acall (envT []) 2 214 [strV l, .int .u8 46] hQ = (match findByte 46 l 0 with
  | some i => some (intV i, hQ)
  | none => some (.int .i64 (Int.negSucc 0), hQ)) := by kernel_rfl
theorem indexNo_pure {l : List UInt8} (hf : findByte 46 l 0 = none) : Pure false 214 [strV l, .int .u8 46] (.int .i64 (Int.negSucc 0)) := by
  have hx := index_run l
  rw [hf] at hx
  exact fun h ρ w args' _ hgl hr hl => pure_ok envT0 hx (fun b hb => by cases hb) rfl rfl rfl (fun x _ => .inl (hQ_obj x)) (fun x _ => by rw [hQ_obj]; trivial) hgl hr hl (fun v hv => by simp at hv; rcases hv with rfl | rfl <;> rfl) rfl
theorem index_pure {l : List UInt8} {k : Nat} (hf : findByte 46 l 0 = some k) : Pure false 214 [strV l, .int .u8 46] (intV k) := by
  have hx := index_run l
  rw [hf] at hx
  exact fun h ρ w args' _ hgl hr hl => pure_ok envT0 hx (fun b hb => by cases hb) rfl rfl rfl (fun x _ => .inl (hQ_obj x)) (fun x _ => by rw [hQ_obj]; trivial) hgl hr hl (fun v hv => by simp at hv; rcases hv with rfl | rfl <;> rfl) rfl
end Go.Proofs.YtkmbkejmfffafaaGreatDoor.Refl
namespace Go.Proofs.YtkmbkejmfffafaaGreatDoor.Refl
open Go Go.RowKit
set_option linter.unusedVariables false
set_option linter.unusedSimpArgs false
set_option maxRecDepth 1000000
noncomputable def EPA (s R W P T : List UInt8) (z : Nat) : Env := envS [(214, xTold false 214 [(15, ([strV s, .int .u8 46], .int .i64 (Int.negSucc 0)))]), (111, xTold false 111 [(17, ([strV s], .bool true))]), (84, xTold false 84 [(34, ([strV (app s []), strV [48]], strV T))])] (Tr.nil.set 1000 [])
noncomputable def obPA (s R W P T : List UInt8) (z : Nat) : List Bool :=
  [beqB (Nat.beq 0 1) ((len T).ble ((len ([] : List UInt8)).add 1)),
   (((len ([] : List UInt8)).add 1).add (len T)).ble 9223372036854775807,
   pB (Pure false 84 [strV (app s []), strV [48]] (strV T)),
   pB ([Value.string { data := { toList := app s [] } }, Value.string { data := #[48] }] = [strV (app s []), strV [48]]),
   ((len s).add (len ([] : List UInt8))).ble 1099511627776,
   beqB (Nat.beq 0 1) (iLt 40 (Int.ofNat ((len s).add (len ([] : List UInt8))))),
   ((len s).add (len ([] : List UInt8))).ble 9223372036854775807,
   pB (Pure false 111 [strV s] (Value.bool true)),
   pB ([Value.string { data := { toList := s } }] = [strV s]),
   pB (Pure false 214 [strV s, Value.int IntKind.u8 46] (Value.int IntKind.i64 (Int.negSucc 0))),
   pB ([Value.string { data := { toList := s } }, Value.int IntKind.u8 (Int.ofNat (nthD [46] 0).toNat)] = [strV s, Value.int IntKind.u8 46]),
   beqB (Nat.beq 0 1) (bytesEq [46] s),
   beqB (Nat.beq 1 1) !bytesEq (List.take (len [45]) s) [45],
   beqB (Nat.beq 1 1) !iLt (Int.ofNat (len s)) (Int.ofNat (len [45])),
   beqB (Nat.beq 1 1) (beqB (!iLt (Int.ofNat (len s)) (Int.ofNat (len [45]))) true),
   beqB (Nat.beq 1 1) (beqB (!iLt (Int.ofNat (len s)) (Int.ofNat (len [45]))) true),
   (len [45]).ble (len s),
   beqB (Nat.beq 1 1) (beqB (!iLt (Int.ofNat (len s)) (Int.ofNat (len [45]))) true),
   beqB (Nat.beq 1 1) (beqB (!iLt (Int.ofNat (len s)) (Int.ofNat (len [45]))) true),
   beqB (Nat.beq 1 1) (beqB (!iLt (Int.ofNat (len s)) (Int.ofNat (len [45]))) true),
   beqB (Nat.beq 1 1) (beqB (!iLt (Int.ofNat (len s)) (Int.ofNat (len [45]))) true)]
theorem runPA (s R W P T : List UInt8) (z : Nat) : lookB (acall (EPA s R W P T z) 200 68 [strV s] (hN (bits [1, 1, 1, 1, 2, 1, 1, 1, 1, 1, 1, 1, 0, 0, 1, 2, 0, 2, 1, 1, 0, 0, 0, 1, 0, 0, 1, 1, 1, 1, 1, 1, 0, 0, 2, 0, 0] 0))) = some (.tuple ⟨[.agg ⟨[.bool false, strV (T), intV (len ([] : List UInt8))]⟩, .bool true]⟩, [], allB (fun b => b) (obPA s R W P T z)) := by kernel_rfl
noncomputable def EPB (s R W P T : List UInt8) (z : Nat) : Env := envS [(214, xTold false 214 [(16, ([strV R, .int .u8 46], .int .i64 (Int.negSucc 0)))]), (111, xTold false 111 [(18, ([strV R], .bool true))]), (84, xTold false 84 [(35, ([strV (app R []), strV [48]], strV T))])] (((Tr.nil.set 4 [45]).set 9 R))
noncomputable def obPB (s R W P T : List UInt8) (z : Nat) : List Bool :=
  [beqB (Nat.beq 0 1) ((len T).ble ((len ([] : List UInt8)).add 1)),
   (((len ([] : List UInt8)).add 1).add (len T)).ble 9223372036854775807,
   pB (Pure false 84 [strV (app R []), strV [48]] (strV T)),
   pB ([Value.string { data := { toList := app R [] } }, Value.string { data := #[48] }] = [strV (app R []), strV [48]]),
   ((len R).add (len ([] : List UInt8))).ble 1099511627776,
   beqB (Nat.beq 0 1) (iLt 40 (Int.ofNat ((len R).add (len ([] : List UInt8))))),
   ((len R).add (len ([] : List UInt8))).ble 9223372036854775807,
   pB (Pure false 111 [strV R] (Value.bool true)),
   pB ([Value.string { data := { toList := R } }] = [strV R]),
   pB (Pure false 214 [strV R, Value.int IntKind.u8 46] (Value.int IntKind.i64 (Int.negSucc 0))),
   pB ([Value.string { data := { toList := R } }, Value.int IntKind.u8 (Int.ofNat (nthD [46] 0).toNat)] = [strV R, Value.int IntKind.u8 46]),
   beqB (Nat.beq 0 1) (bytesEq [46] R),
   bytesEq R (List.take ((len s).sub (len [45])) (List.drop (len [45]) s)),
   (len [45]).ble (len s),
   (len s).ble (len s),
   beqB (Nat.beq 1 1) !iLt (Int.ofNat (len s)) (Int.ofNat (len [45])),
   beqB (Nat.beq 1 1) (beqB (!iLt (Int.ofNat (len s)) (Int.ofNat (len [45]))) true),
   beqB (Nat.beq 1 1) (beqB (!iLt (Int.ofNat (len s)) (Int.ofNat (len [45]))) true),
   bytesEq [45] (List.take ((len [45]).sub 0) (List.drop 0 s)),
   (len [45]).ble (len s),
   beqB (Nat.beq 1 1) (beqB (!iLt (Int.ofNat (len s)) (Int.ofNat (len [45]))) true),
   beqB (Nat.beq 1 1) (beqB (!iLt (Int.ofNat (len s)) (Int.ofNat (len [45]))) true),
   beqB (Nat.beq 1 1) (beqB (!iLt (Int.ofNat (len s)) (Int.ofNat (len [45]))) true),
   beqB (Nat.beq 1 1) (beqB (!iLt (Int.ofNat (len s)) (Int.ofNat (len [45]))) true)]
theorem runPB (s R W P T : List UInt8) (z : Nat) : lookB (acall (EPB s R W P T z) 200 68 [strV s] (hN (bits [1, 1, 1, 1, 2, 1, 1, 1, 0, 2, 1, 1, 1, 0, 0, 1, 2, 0, 2, 1, 1, 0, 0, 0, 1, 0, 0, 1, 1, 1, 1, 1, 1, 0, 0, 2, 0, 0] 0))) = some (.tuple ⟨[.agg ⟨[.bool true, strV (T), intV (len ([] : List UInt8))]⟩, .bool true]⟩, [], allB (fun b => b) (obPB s R W P T z)) := by kernel_rfl
noncomputable def EPC (s R W P T : List UInt8) (z : Nat) : Env := envS [(214, xTold false 214 [(15, ([strV s, .int .u8 46], intV (len W)))]), (111, xTold false 111 [(19, ([strV W], .bool true)), (24, ([strV P], .bool true))]), (84, xTold false 84 [(37, ([strV (app W P), strV [48]], strV T))])] (((Tr.nil.set 17 W).set 18 P))
noncomputable def obPC (s R W P T : List UInt8) (z : Nat) : List Bool :=
  [beqB (Nat.beq 0 1) (iLt 0 (Int.ofNat (((len P).add 1).sub (len T)))),
   beqB (Nat.beq 1 1) ((len T).ble ((len P).add 1)),
   (((len P).add 1).add (len T)).ble 9223372036854775807,
   ((len P).add 1).ble 9223372036854775807,
   pB (Pure false 84 [strV (app W P), strV [48]] (strV T)),
   pB ([Value.string { data := { toList := app W P } }, Value.string { data := #[48] }] = [strV (app W P), strV [48]]),
   ((len W).add (len P)).ble 1099511627776,
   beqB (Nat.beq 0 1) (iLt 40 (Int.ofNat ((len W).add (len P)))),
   ((len W).add (len P)).ble 9223372036854775807,
   pB (Pure false 111 [strV P] (Value.bool true)),
   pB ([Value.string { data := { toList := P } }] = [strV P]),
   pB (Pure false 111 [strV W] (Value.bool true)),
   pB ([Value.string { data := { toList := W } }] = [strV W]),
   bytesEq P (List.take ((len s).sub ((len W).add (len [46]))) (List.drop ((len W).add (len [46])) s)),
   ((len W).add (len [46])).ble (len s),
   (len s).ble (len s),
   ((len W).add (len [46])).ble 9223372036854775807,
   bytesEq W (List.take ((len W).sub 0) (List.drop 0 s)),
   (len W).ble (len s),
   pB (Pure false 214 [strV s, Value.int IntKind.u8 46] (intV (len W))),
   pB ([Value.string { data := { toList := s } }, Value.int IntKind.u8 (Int.ofNat (nthD [46] 0).toNat)] = [strV s, Value.int IntKind.u8 46]),
   beqB (Nat.beq 0 1) (bytesEq [46] s),
   beqB (Nat.beq 1 1) !bytesEq (List.take (len [45]) s) [45],
   beqB (Nat.beq 1 1) !iLt (Int.ofNat (len s)) (Int.ofNat (len [45])),
   beqB (Nat.beq 1 1) (beqB (!iLt (Int.ofNat (len s)) (Int.ofNat (len [45]))) true),
   beqB (Nat.beq 1 1) (beqB (!iLt (Int.ofNat (len s)) (Int.ofNat (len [45]))) true),
   (len [45]).ble (len s),
   beqB (Nat.beq 1 1) (beqB (!iLt (Int.ofNat (len s)) (Int.ofNat (len [45]))) true),
   beqB (Nat.beq 1 1) (beqB (!iLt (Int.ofNat (len s)) (Int.ofNat (len [45]))) true),
   beqB (Nat.beq 1 1) (beqB (!iLt (Int.ofNat (len s)) (Int.ofNat (len [45]))) true),
   beqB (Nat.beq 1 1) (beqB (!iLt (Int.ofNat (len s)) (Int.ofNat (len [45]))) true)]
theorem runPC (s R W P T : List UInt8) (z : Nat) : lookB (acall (EPC s R W P T z) 200 68 [strV s] (hN (bits [1, 1, 1, 1, 2, 1, 1, 1, 1, 1, 1, 1, 0, 0, 1, 2, 1, 2, 2, 2, 1, 1, 1, 1, 2, 1, 1, 1, 0, 1, 1, 1, 1, 1, 1, 0, 0, 2, 1, 0] 0))) = some (.tuple ⟨[.agg ⟨[.bool false, strV (T), intV (len P)]⟩, .bool true]⟩, [], allB (fun b => b) (obPC s R W P T z)) := by kernel_rfl
noncomputable def EPD (s R W P T : List UInt8) (z : Nat) : Env := envS [(214, xTold false 214 [(16, ([strV R, .int .u8 46], intV (len W)))]), (111, xTold false 111 [(20, ([strV W], .bool true)), (25, ([strV P], .bool true))]), (84, xTold false 84 [(38, ([strV (app W P), strV [48]], strV T))])] (((((Tr.nil.set 4 [45]).set 9 R).set 18 W).set 19 P))
noncomputable def obPD (s R W P T : List UInt8) (z : Nat) : List Bool :=
  [beqB (Nat.beq 0 1) (iLt 0 (Int.ofNat (((len P).add 1).sub (len T)))),
   beqB (Nat.beq 1 1) ((len T).ble ((len P).add 1)),
   (((len P).add 1).add (len T)).ble 9223372036854775807,
   ((len P).add 1).ble 9223372036854775807,
   pB (Pure false 84 [strV (app W P), strV [48]] (strV T)),
   pB ([Value.string { data := { toList := app W P } }, Value.string { data := #[48] }] = [strV (app W P), strV [48]]),
   ((len W).add (len P)).ble 1099511627776,
   beqB (Nat.beq 0 1) (iLt 40 (Int.ofNat ((len W).add (len P)))),
   ((len W).add (len P)).ble 9223372036854775807,
   pB (Pure false 111 [strV P] (Value.bool true)),
   pB ([Value.string { data := { toList := P } }] = [strV P]),
   pB (Pure false 111 [strV W] (Value.bool true)),
   pB ([Value.string { data := { toList := W } }] = [strV W]),
   bytesEq P (List.take ((len R).sub ((len W).add (len [46]))) (List.drop ((len W).add (len [46])) R)),
   ((len W).add (len [46])).ble (len R),
   (len R).ble (len R),
   ((len W).add (len [46])).ble 9223372036854775807,
   bytesEq W (List.take ((len W).sub 0) (List.drop 0 R)),
   (len W).ble (len R),
   pB (Pure false 214 [strV R, Value.int IntKind.u8 46] (intV (len W))),
   pB ([Value.string { data := { toList := R } }, Value.int IntKind.u8 (Int.ofNat (nthD [46] 0).toNat)] = [strV R, Value.int IntKind.u8 46]),
   beqB (Nat.beq 0 1) (bytesEq [46] R),
   bytesEq R (List.take ((len s).sub (len [45])) (List.drop (len [45]) s)),
   (len [45]).ble (len s),
   (len s).ble (len s),
   beqB (Nat.beq 1 1) !iLt (Int.ofNat (len s)) (Int.ofNat (len [45])),
   beqB (Nat.beq 1 1) (beqB (!iLt (Int.ofNat (len s)) (Int.ofNat (len [45]))) true),
   beqB (Nat.beq 1 1) (beqB (!iLt (Int.ofNat (len s)) (Int.ofNat (len [45]))) true),
   bytesEq [45] (List.take ((len [45]).sub 0) (List.drop 0 s)),
   (len [45]).ble (len s),
   beqB (Nat.beq 1 1) (beqB (!iLt (Int.ofNat (len s)) (Int.ofNat (len [45]))) true),
   beqB (Nat.beq 1 1) (beqB (!iLt (Int.ofNat (len s)) (Int.ofNat (len [45]))) true),
   beqB (Nat.beq 1 1) (beqB (!iLt (Int.ofNat (len s)) (Int.ofNat (len [45]))) true),
   beqB (Nat.beq 1 1) (beqB (!iLt (Int.ofNat (len s)) (Int.ofNat (len [45]))) true)]
theorem runPD (s R W P T : List UInt8) (z : Nat) : lookB (acall (EPD s R W P T z) 200 68 [strV s] (hN (bits [1, 1, 1, 1, 2, 1, 1, 1, 0, 2, 1, 1, 1, 0, 0, 1, 2, 1, 2, 2, 2, 1, 1, 1, 1, 2, 1, 1, 1, 0, 1, 1, 1, 1, 1, 1, 0, 0, 2, 1, 0] 0))) = some (.tuple ⟨[.agg ⟨[.bool true, strV (T), intV (len P)]⟩, .bool true]⟩, [], allB (fun b => b) (obPD s R W P T z)) := by kernel_rfl
noncomputable def EPE (s R W P T : List UInt8) (z : Nat) : Env := envS [(214, xTold false 214 [(15, ([strV s, .int .u8 46], .int .i64 (Int.negSucc 0)))]), (111, xTold false 111 [(17, ([strV s], .bool true))]), (84, xTold false 84 [(34, ([strV (app s []), strV [48]], strV T))]), (92, xTold false 92 [(37, ([strV [48], intV z], strV (rep0 z)))])] (Tr.nil.set 1000 [])
noncomputable def obPE (s R W P T : List UInt8) (z : Nat) : List Bool :=
  [((len (rep0 z)).add (len T)).ble 1099511627776,
   pB (Pure false 92 [strV [48], intV z] (strV (rep0 z))),
   pB ([Value.string { data := #[48] }, Value.int IntKind.i64 (Int.ofNat (((len ([] : List UInt8)).add 1).sub (len T)))] = [strV [48], intV z]),
   beqB (Nat.beq 1 1) (iLt 0 (Int.ofNat (((len ([] : List UInt8)).add 1).sub (len T)))),
   beqB (Nat.beq 1 1) ((len T).ble ((len ([] : List UInt8)).add 1)),
   (((len ([] : List UInt8)).add 1).add (len T)).ble 9223372036854775807,
   pB (Pure false 84 [strV (app s []), strV [48]] (strV T)),
   pB ([Value.string { data := { toList := app s [] } }, Value.string { data := #[48] }] = [strV (app s []), strV [48]]),
   ((len s).add (len ([] : List UInt8))).ble 1099511627776,
   beqB (Nat.beq 0 1) (iLt 40 (Int.ofNat ((len s).add (len ([] : List UInt8))))),
   ((len s).add (len ([] : List UInt8))).ble 9223372036854775807,
   pB (Pure false 111 [strV s] (Value.bool true)),
   pB ([Value.string { data := { toList := s } }] = [strV s]),
   pB (Pure false 214 [strV s, Value.int IntKind.u8 46] (Value.int IntKind.i64 (Int.negSucc 0))),
   pB ([Value.string { data := { toList := s } }, Value.int IntKind.u8 (Int.ofNat (nthD [46] 0).toNat)] = [strV s, Value.int IntKind.u8 46]),
   beqB (Nat.beq 0 1) (bytesEq [46] s),
   beqB (Nat.beq 1 1) !bytesEq (List.take (len [45]) s) [45],
   beqB (Nat.beq 1 1) !iLt (Int.ofNat (len s)) (Int.ofNat (len [45])),
   beqB (Nat.beq 1 1) (beqB (!iLt (Int.ofNat (len s)) (Int.ofNat (len [45]))) true),
   beqB (Nat.beq 1 1) (beqB (!iLt (Int.ofNat (len s)) (Int.ofNat (len [45]))) true),
   (len [45]).ble (len s),
   beqB (Nat.beq 1 1) (beqB (!iLt (Int.ofNat (len s)) (Int.ofNat (len [45]))) true),
   beqB (Nat.beq 1 1) (beqB (!iLt (Int.ofNat (len s)) (Int.ofNat (len [45]))) true),
   beqB (Nat.beq 1 1) (beqB (!iLt (Int.ofNat (len s)) (Int.ofNat (len [45]))) true),
   beqB (Nat.beq 1 1) (beqB (!iLt (Int.ofNat (len s)) (Int.ofNat (len [45]))) true)]
theorem runPE (s R W P T : List UInt8) (z : Nat) : lookB (acall (EPE s R W P T z) 200 68 [strV s] (hN (bits [1, 1, 1, 1, 2, 1, 1, 1, 1, 1, 1, 1, 0, 0, 1, 2, 0, 2, 1, 1, 0, 0, 0, 1, 0, 0, 1, 1, 1, 1, 1, 1, 0, 0, 2, 1, 1, 2] 0))) = some (.tuple ⟨[.agg ⟨[.bool false, strV (app (rep0 z) T), intV (len ([] : List UInt8))]⟩, .bool true]⟩, [], allB (fun b => b) (obPE s R W P T z)) := by kernel_rfl
noncomputable def EPF (s R W P T : List UInt8) (z : Nat) : Env := envS [(214, xTold false 214 [(16, ([strV R, .int .u8 46], .int .i64 (Int.negSucc 0)))]), (111, xTold false 111 [(18, ([strV R], .bool true))]), (84, xTold false 84 [(35, ([strV (app R []), strV [48]], strV T))]), (92, xTold false 92 [(38, ([strV [48], intV z], strV (rep0 z)))])] (((Tr.nil.set 4 [45]).set 9 R))
noncomputable def obPF (s R W P T : List UInt8) (z : Nat) : List Bool :=
  [((len (rep0 z)).add (len T)).ble 1099511627776,
   pB (Pure false 92 [strV [48], intV z] (strV (rep0 z))),
   pB ([Value.string { data := #[48] }, Value.int IntKind.i64 (Int.ofNat (((len ([] : List UInt8)).add 1).sub (len T)))] = [strV [48], intV z]),
   beqB (Nat.beq 1 1) (iLt 0 (Int.ofNat (((len ([] : List UInt8)).add 1).sub (len T)))),
   beqB (Nat.beq 1 1) ((len T).ble ((len ([] : List UInt8)).add 1)),
   (((len ([] : List UInt8)).add 1).add (len T)).ble 9223372036854775807,
   pB (Pure false 84 [strV (app R []), strV [48]] (strV T)),
   pB ([Value.string { data := { toList := app R [] } }, Value.string { data := #[48] }] = [strV (app R []), strV [48]]),
   ((len R).add (len ([] : List UInt8))).ble 1099511627776,
   beqB (Nat.beq 0 1) (iLt 40 (Int.ofNat ((len R).add (len ([] : List UInt8))))),
   ((len R).add (len ([] : List UInt8))).ble 9223372036854775807,
   pB (Pure false 111 [strV R] (Value.bool true)),
   pB ([Value.string { data := { toList := R } }] = [strV R]),
   pB (Pure false 214 [strV R, Value.int IntKind.u8 46] (Value.int IntKind.i64 (Int.negSucc 0))),
   pB ([Value.string { data := { toList := R } }, Value.int IntKind.u8 (Int.ofNat (nthD [46] 0).toNat)] = [strV R, Value.int IntKind.u8 46]),
   beqB (Nat.beq 0 1) (bytesEq [46] R),
   bytesEq R (List.take ((len s).sub (len [45])) (List.drop (len [45]) s)),
   (len [45]).ble (len s),
   (len s).ble (len s),
   beqB (Nat.beq 1 1) !iLt (Int.ofNat (len s)) (Int.ofNat (len [45])),
   beqB (Nat.beq 1 1) (beqB (!iLt (Int.ofNat (len s)) (Int.ofNat (len [45]))) true),
   beqB (Nat.beq 1 1) (beqB (!iLt (Int.ofNat (len s)) (Int.ofNat (len [45]))) true),
   bytesEq [45] (List.take ((len [45]).sub 0) (List.drop 0 s)),
   (len [45]).ble (len s),
   beqB (Nat.beq 1 1) (beqB (!iLt (Int.ofNat (len s)) (Int.ofNat (len [45]))) true),
   beqB (Nat.beq 1 1) (beqB (!iLt (Int.ofNat (len s)) (Int.ofNat (len [45]))) true),
   beqB (Nat.beq 1 1) (beqB (!iLt (Int.ofNat (len s)) (Int.ofNat (len [45]))) true),
   beqB (Nat.beq 1 1) (beqB (!iLt (Int.ofNat (len s)) (Int.ofNat (len [45]))) true)]
theorem runPF (s R W P T : List UInt8) (z : Nat) : lookB (acall (EPF s R W P T z) 200 68 [strV s] (hN (bits [1, 1, 1, 1, 2, 1, 1, 1, 0, 2, 1, 1, 1, 0, 0, 1, 2, 0, 2, 1, 1, 0, 0, 0, 1, 0, 0, 1, 1, 1, 1, 1, 1, 0, 0, 2, 1, 1, 2] 0))) = some (.tuple ⟨[.agg ⟨[.bool true, strV (app (rep0 z) T), intV (len ([] : List UInt8))]⟩, .bool true]⟩, [], allB (fun b => b) (obPF s R W P T z)) := by kernel_rfl
noncomputable def EPG (s R W P T : List UInt8) (z : Nat) : Env := envS [(214, xTold false 214 [(15, ([strV s, .int .u8 46], intV (len W)))]), (111, xTold false 111 [(19, ([strV W], .bool true)), (24, ([strV P], .bool true))]), (84, xTold false 84 [(37, ([strV (app W P), strV [48]], strV T))]), (92, xTold false 92 [(40, ([strV [48], intV z], strV (rep0 z)))])] (((Tr.nil.set 17 W).set 18 P))
noncomputable def obPG (s R W P T : List UInt8) (z : Nat) : List Bool :=
  [((len (rep0 z)).add (len T)).ble 1099511627776,
   pB (Pure false 92 [strV [48], intV z] (strV (rep0 z))),
   pB ([Value.string { data := #[48] }, Value.int IntKind.i64 (Int.ofNat (((len P).add 1).sub (len T)))] = [strV [48], intV z]),
   beqB (Nat.beq 1 1) (iLt 0 (Int.ofNat (((len P).add 1).sub (len T)))),
   beqB (Nat.beq 1 1) ((len T).ble ((len P).add 1)),
   (((len P).add 1).add (len T)).ble 9223372036854775807,
   ((len P).add 1).ble 9223372036854775807,
   pB (Pure false 84 [strV (app W P), strV [48]] (strV T)),
   pB ([Value.string { data := { toList := app W P } }, Value.string { data := #[48] }] = [strV (app W P), strV [48]]),
   ((len W).add (len P)).ble 1099511627776,
   beqB (Nat.beq 0 1) (iLt 40 (Int.ofNat ((len W).add (len P)))),
   ((len W).add (len P)).ble 9223372036854775807,
   pB (Pure false 111 [strV P] (Value.bool true)),
   pB ([Value.string { data := { toList := P } }] = [strV P]),
   pB (Pure false 111 [strV W] (Value.bool true)),
   pB ([Value.string { data := { toList := W } }] = [strV W]),
   bytesEq P (List.take ((len s).sub ((len W).add (len [46]))) (List.drop ((len W).add (len [46])) s)),
   ((len W).add (len [46])).ble (len s),
   (len s).ble (len s),
   ((len W).add (len [46])).ble 9223372036854775807,
   bytesEq W (List.take ((len W).sub 0) (List.drop 0 s)),
   (len W).ble (len s),
   pB (Pure false 214 [strV s, Value.int IntKind.u8 46] (intV (len W))),
   pB ([Value.string { data := { toList := s } }, Value.int IntKind.u8 (Int.ofNat (nthD [46] 0).toNat)] = [strV s, Value.int IntKind.u8 46]),
   beqB (Nat.beq 0 1) (bytesEq [46] s),
   beqB (Nat.beq 1 1) !bytesEq (List.take (len [45]) s) [45],
   beqB (Nat.beq 1 1) !iLt (Int.ofNat (len s)) (Int.ofNat (len [45])),
   beqB (Nat.beq 1 1) (beqB (!iLt (Int.ofNat (len s)) (Int.ofNat (len [45]))) true),
   beqB (Nat.beq 1 1) (beqB (!iLt (Int.ofNat (len s)) (Int.ofNat (len [45]))) true),
   (len [45]).ble (len s),
   beqB (Nat.beq 1 1) (beqB (!iLt (Int.ofNat (len s)) (Int.ofNat (len [45]))) true),
   beqB (Nat.beq 1 1) (beqB (!iLt (Int.ofNat (len s)) (Int.ofNat (len [45]))) true),
   beqB (Nat.beq 1 1) (beqB (!iLt (Int.ofNat (len s)) (Int.ofNat (len [45]))) true),
   beqB (Nat.beq 1 1) (beqB (!iLt (Int.ofNat (len s)) (Int.ofNat (len [45]))) true)]
theorem runPG (s R W P T : List UInt8) (z : Nat) : lookB (acall (EPG s R W P T z) 200 68 [strV s] (hN (bits [1, 1, 1, 1, 2, 1, 1, 1, 1, 1, 1, 1, 0, 0, 1, 2, 1, 2, 2, 2, 1, 1, 1, 1, 2, 1, 1, 1, 0, 1, 1, 1, 1, 1, 1, 0, 0, 2, 1, 1, 2] 0))) = some (.tuple ⟨[.agg ⟨[.bool false, strV (app (rep0 z) T), intV (len P)]⟩, .bool true]⟩, [], allB (fun b => b) (obPG s R W P T z)) := by kernel_rfl
noncomputable def EPH (s R W P T : List UInt8) (z : Nat) : Env := envS [(214, xTold false 214 [(16, ([strV R, .int .u8 46], intV (len W)))]), (111, xTold false 111 [(20, ([strV W], .bool true)), (25, ([strV P], .bool true))]), (84, xTold false 84 [(38, ([strV (app W P), strV [48]], strV T))]), (92, xTold false 92 [(41, ([strV [48], intV z], strV (rep0 z)))])] (((((Tr.nil.set 4 [45]).set 9 R).set 18 W).set 19 P))
noncomputable def obPH (s R W P T : List UInt8) (z : Nat) : List Bool :=
  [((len (rep0 z)).add (len T)).ble 1099511627776,
   pB (Pure false 92 [strV [48], intV z] (strV (rep0 z))),
   pB ([Value.string { data := #[48] }, Value.int IntKind.i64 (Int.ofNat (((len P).add 1).sub (len T)))] = [strV [48], intV z]),
   beqB (Nat.beq 1 1) (iLt 0 (Int.ofNat (((len P).add 1).sub (len T)))),
   beqB (Nat.beq 1 1) ((len T).ble ((len P).add 1)),
   (((len P).add 1).add (len T)).ble 9223372036854775807,
   ((len P).add 1).ble 9223372036854775807,
   pB (Pure false 84 [strV (app W P), strV [48]] (strV T)),
   pB ([Value.string { data := { toList := app W P } }, Value.string { data := #[48] }] = [strV (app W P), strV [48]]),
   ((len W).add (len P)).ble 1099511627776,
   beqB (Nat.beq 0 1) (iLt 40 (Int.ofNat ((len W).add (len P)))),
   ((len W).add (len P)).ble 9223372036854775807,
   pB (Pure false 111 [strV P] (Value.bool true)),
   pB ([Value.string { data := { toList := P } }] = [strV P]),
   pB (Pure false 111 [strV W] (Value.bool true)),
   pB ([Value.string { data := { toList := W } }] = [strV W]),
   bytesEq P (List.take ((len R).sub ((len W).add (len [46]))) (List.drop ((len W).add (len [46])) R)),
   ((len W).add (len [46])).ble (len R),
   (len R).ble (len R),
   ((len W).add (len [46])).ble 9223372036854775807,
   bytesEq W (List.take ((len W).sub 0) (List.drop 0 R)),
   (len W).ble (len R),
   pB (Pure false 214 [strV R, Value.int IntKind.u8 46] (intV (len W))),
   pB ([Value.string { data := { toList := R } }, Value.int IntKind.u8 (Int.ofNat (nthD [46] 0).toNat)] = [strV R, Value.int IntKind.u8 46]),
   beqB (Nat.beq 0 1) (bytesEq [46] R),
   bytesEq R (List.take ((len s).sub (len [45])) (List.drop (len [45]) s)),
   (len [45]).ble (len s),
   (len s).ble (len s),
   beqB (Nat.beq 1 1) !iLt (Int.ofNat (len s)) (Int.ofNat (len [45])),
   beqB (Nat.beq 1 1) (beqB (!iLt (Int.ofNat (len s)) (Int.ofNat (len [45]))) true),
   beqB (Nat.beq 1 1) (beqB (!iLt (Int.ofNat (len s)) (Int.ofNat (len [45]))) true),
   bytesEq [45] (List.take ((len [45]).sub 0) (List.drop 0 s)),
   (len [45]).ble (len s),
   beqB (Nat.beq 1 1) (beqB (!iLt (Int.ofNat (len s)) (Int.ofNat (len [45]))) true),
   beqB (Nat.beq 1 1) (beqB (!iLt (Int.ofNat (len s)) (Int.ofNat (len [45]))) true),
   beqB (Nat.beq 1 1) (beqB (!iLt (Int.ofNat (len s)) (Int.ofNat (len [45]))) true),
   beqB (Nat.beq 1 1) (beqB (!iLt (Int.ofNat (len s)) (Int.ofNat (len [45]))) true)]
theorem runPH (s R W P T : List UInt8) (z : Nat) : lookB (acall (EPH s R W P T z) 200 68 [strV s] (hN (bits [1, 1, 1, 1, 2, 1, 1, 1, 0, 2, 1, 1, 1, 0, 0, 1, 2, 1, 2, 2, 2, 1, 1, 1, 1, 2, 1, 1, 1, 0, 1, 1, 1, 1, 1, 1, 0, 0, 2, 1, 1, 2] 0))) = some (.tuple ⟨[.agg ⟨[.bool true, strV (app (rep0 z) T), intV (len P)]⟩, .bool true]⟩, [], allB (fun b => b) (obPH s R W P T z)) := by kernel_rfl
noncomputable def EPI (s R W P T : List UInt8) (z : Nat) : Env := envS [(214, xTold false 214 [(15, ([strV s, .int .u8 46], .int .i64 (Int.negSucc 0)))]), (111, xTold false 111 [(17, ([strV s], .bool true))]), (84, xTold false 84 [(34, ([strV (app s []), strV [48]], strV T))])] (Tr.nil.set 1000 [])
noncomputable def obPI (s R W P T : List UInt8) (z : Nat) : List Bool :=
  [beqB (Nat.beq 0 1) (iLt 0 (Int.ofNat (((len ([] : List UInt8)).add 1).sub (len T)))),
   beqB (Nat.beq 1 1) ((len T).ble ((len ([] : List UInt8)).add 1)),
   (((len ([] : List UInt8)).add 1).add (len T)).ble 9223372036854775807,
   pB (Pure false 84 [strV (app s []), strV [48]] (strV T)),
   pB ([Value.string { data := { toList := app s [] } }, Value.string { data := #[48] }] = [strV (app s []), strV [48]]),
   ((len s).add (len ([] : List UInt8))).ble 1099511627776,
   beqB (Nat.beq 0 1) (iLt 40 (Int.ofNat ((len s).add (len ([] : List UInt8))))),
   ((len s).add (len ([] : List UInt8))).ble 9223372036854775807,
   pB (Pure false 111 [strV s] (Value.bool true)),
   pB ([Value.string { data := { toList := s } }] = [strV s]),
   pB (Pure false 214 [strV s, Value.int IntKind.u8 46] (Value.int IntKind.i64 (Int.negSucc 0))),
   pB ([Value.string { data := { toList := s } }, Value.int IntKind.u8 (Int.ofNat (nthD [46] 0).toNat)] = [strV s, Value.int IntKind.u8 46]),
   beqB (Nat.beq 0 1) (bytesEq [46] s),
   beqB (Nat.beq 1 1) !bytesEq (List.take (len [45]) s) [45],
   beqB (Nat.beq 1 1) !iLt (Int.ofNat (len s)) (Int.ofNat (len [45])),
   beqB (Nat.beq 1 1) (beqB (!iLt (Int.ofNat (len s)) (Int.ofNat (len [45]))) true),
   beqB (Nat.beq 1 1) (beqB (!iLt (Int.ofNat (len s)) (Int.ofNat (len [45]))) true),
   (len [45]).ble (len s),
   beqB (Nat.beq 1 1) (beqB (!iLt (Int.ofNat (len s)) (Int.ofNat (len [45]))) true),
   beqB (Nat.beq 1 1) (beqB (!iLt (Int.ofNat (len s)) (Int.ofNat (len [45]))) true),
   beqB (Nat.beq 1 1) (beqB (!iLt (Int.ofNat (len s)) (Int.ofNat (len [45]))) true),
   beqB (Nat.beq 1 1) (beqB (!iLt (Int.ofNat (len s)) (Int.ofNat (len [45]))) true)]
theorem runPI (s R W P T : List UInt8) (z : Nat) : lookB (acall (EPI s R W P T z) 200 68 [strV s] (hN (bits [1, 1, 1, 1, 2, 1, 1, 1, 1, 1, 1, 1, 0, 0, 1, 2, 0, 2, 1, 1, 0, 0, 0, 1, 0, 0, 1, 1, 1, 1, 1, 1, 0, 0, 2, 1, 0] 0))) = some (.tuple ⟨[.agg ⟨[.bool false, strV (T), intV (len ([] : List UInt8))]⟩, .bool true]⟩, [], allB (fun b => b) (obPI s R W P T z)) := by kernel_rfl
noncomputable def EPJ (s R W P T : List UInt8) (z : Nat) : Env := envS [(214, xTold false 214 [(16, ([strV R, .int .u8 46], .int .i64 (Int.negSucc 0)))]), (111, xTold false 111 [(18, ([strV R], .bool true))]), (84, xTold false 84 [(35, ([strV (app R []), strV [48]], strV T))])] (((Tr.nil.set 4 [45]).set 9 R))
noncomputable def obPJ (s R W P T : List UInt8) (z : Nat) : List Bool :=
  [beqB (Nat.beq 0 1) (iLt 0 (Int.ofNat (((len ([] : List UInt8)).add 1).sub (len T)))),
   beqB (Nat.beq 1 1) ((len T).ble ((len ([] : List UInt8)).add 1)),
   (((len ([] : List UInt8)).add 1).add (len T)).ble 9223372036854775807,
   pB (Pure false 84 [strV (app R []), strV [48]] (strV T)),
   pB ([Value.string { data := { toList := app R [] } }, Value.string { data := #[48] }] = [strV (app R []), strV [48]]),
   ((len R).add (len ([] : List UInt8))).ble 1099511627776,
   beqB (Nat.beq 0 1) (iLt 40 (Int.ofNat ((len R).add (len ([] : List UInt8))))),
   ((len R).add (len ([] : List UInt8))).ble 9223372036854775807,
   pB (Pure false 111 [strV R] (Value.bool true)),
   pB ([Value.string { data := { toList := R } }] = [strV R]),
   pB (Pure false 214 [strV R, Value.int IntKind.u8 46] (Value.int IntKind.i64 (Int.negSucc 0))),
   pB ([Value.string { data := { toList := R } }, Value.int IntKind.u8 (Int.ofNat (nthD [46] 0).toNat)] = [strV R, Value.int IntKind.u8 46]),
   beqB (Nat.beq 0 1) (bytesEq [46] R),
   bytesEq R (List.take ((len s).sub (len [45])) (List.drop (len [45]) s)),
   (len [45]).ble (len s),
   (len s).ble (len s),
   beqB (Nat.beq 1 1) !iLt (Int.ofNat (len s)) (Int.ofNat (len [45])),
   beqB (Nat.beq 1 1) (beqB (!iLt (Int.ofNat (len s)) (Int.ofNat (len [45]))) true),
   beqB (Nat.beq 1 1) (beqB (!iLt (Int.ofNat (len s)) (Int.ofNat (len [45]))) true),
   bytesEq [45] (List.take ((len [45]).sub 0) (List.drop 0 s)),
   (len [45]).ble (len s),
   beqB (Nat.beq 1 1) (beqB (!iLt (Int.ofNat (len s)) (Int.ofNat (len [45]))) true),
   beqB (Nat.beq 1 1) (beqB (!iLt (Int.ofNat (len s)) (Int.ofNat (len [45]))) true),
   beqB (Nat.beq 1 1) (beqB (!iLt (Int.ofNat (len s)) (Int.ofNat (len [45]))) true),
   beqB (Nat.beq 1 1) (beqB (!iLt (Int.ofNat (len s)) (Int.ofNat (len [45]))) true)]
theorem runPJ (s R W P T : List UInt8) (z : Nat) : lookB (acall (EPJ s R W P T z) 200 68 [strV s] (hN (bits [1, 1, 1, 1, 2, 1, 1, 1, 0, 2, 1, 1, 1, 0, 0, 1, 2, 0, 2, 1, 1, 0, 0, 0, 1, 0, 0, 1, 1, 1, 1, 1, 1, 0, 0, 2, 1, 0] 0))) = some (.tuple ⟨[.agg ⟨[.bool true, strV (T), intV (len ([] : List UInt8))]⟩, .bool true]⟩, [], allB (fun b => b) (obPJ s R W P T z)) := by kernel_rfl
noncomputable def EPK (s R W P T : List UInt8) (z : Nat) : Env := envS [(214, xTold false 214 [(15, ([strV s, .int .u8 46], intV (len W)))]), (111, xTold false 111 [(19, ([strV W], .bool true)), (24, ([strV P], .bool true))]), (84, xTold false 84 [(37, ([strV (app W P), strV [48]], strV T))])] (((Tr.nil.set 17 W).set 18 P))
noncomputable def obPK (s R W P T : List UInt8) (z : Nat) : List Bool :=
  [beqB (Nat.beq 0 1) ((len T).ble ((len P).add 1)),
   (((len P).add 1).add (len T)).ble 9223372036854775807,
   ((len P).add 1).ble 9223372036854775807,
   pB (Pure false 84 [strV (app W P), strV [48]] (strV T)),
   pB ([Value.string { data := { toList := app W P } }, Value.string { data := #[48] }] = [strV (app W P), strV [48]]),
   ((len W).add (len P)).ble 1099511627776,
   beqB (Nat.beq 0 1) (iLt 40 (Int.ofNat ((len W).add (len P)))),
   ((len W).add (len P)).ble 9223372036854775807,
   pB (Pure false 111 [strV P] (Value.bool true)),
   pB ([Value.string { data := { toList := P } }] = [strV P]),
   pB (Pure false 111 [strV W] (Value.bool true)),
   pB ([Value.string { data := { toList := W } }] = [strV W]),
   bytesEq P (List.take ((len s).sub ((len W).add (len [46]))) (List.drop ((len W).add (len [46])) s)),
   ((len W).add (len [46])).ble (len s),
   (len s).ble (len s),
   ((len W).add (len [46])).ble 9223372036854775807,
   bytesEq W (List.take ((len W).sub 0) (List.drop 0 s)),
   (len W).ble (len s),
   pB (Pure false 214 [strV s, Value.int IntKind.u8 46] (intV (len W))),
   pB ([Value.string { data := { toList := s } }, Value.int IntKind.u8 (Int.ofNat (nthD [46] 0).toNat)] = [strV s, Value.int IntKind.u8 46]),
   beqB (Nat.beq 0 1) (bytesEq [46] s),
   beqB (Nat.beq 1 1) !bytesEq (List.take (len [45]) s) [45],
   beqB (Nat.beq 1 1) !iLt (Int.ofNat (len s)) (Int.ofNat (len [45])),
   beqB (Nat.beq 1 1) (beqB (!iLt (Int.ofNat (len s)) (Int.ofNat (len [45]))) true),
   beqB (Nat.beq 1 1) (beqB (!iLt (Int.ofNat (len s)) (Int.ofNat (len [45]))) true),
   (len [45]).ble (len s),
   beqB (Nat.beq 1 1) (beqB (!iLt (Int.ofNat (len s)) (Int.ofNat (len [45]))) true),
   beqB (Nat.beq 1 1) (beqB (!iLt (Int.ofNat (len s)) (Int.ofNat (len [45]))) true),
   beqB (Nat.beq 1 1) (beqB (!iLt (Int.ofNat (len s)) (Int.ofNat (len [45]))) true),
   beqB (Nat.beq 1 1) (beqB (!iLt (Int.ofNat (len s)) (Int.ofNat (len [45]))) true)]
theorem runPK (s R W P T : List UInt8) (z : Nat) : lookB (acall (EPK s R W P T z) 200 68 [strV s] (hN (bits [1, 1, 1, 1, 2, 1, 1, 1, 1, 1, 1, 1, 0, 0, 1, 2, 1, 2, 2, 2, 1, 1, 1, 1, 2, 1, 1, 1, 0, 1, 1, 1, 1, 1, 1, 0, 0, 2, 0, 0] 0))) = some (.tuple ⟨[.agg ⟨[.bool false, strV (T), intV (len P)]⟩, .bool true]⟩, [], allB (fun b => b) (obPK s R W P T z)) := by kernel_rfl
noncomputable def EPL (s R W P T : List UInt8) (z : Nat) : Env := envS [(214, xTold false 214 [(16, ([strV R, .int .u8 46], intV (len W)))]), (111, xTold false 111 [(20, ([strV W], .bool true)), (25, ([strV P], .bool true))]), (84, xTold false 84 [(38, ([strV (app W P), strV [48]], strV T))])] (((((Tr.nil.set 4 [45]).set 9 R).set 18 W).set 19 P))
noncomputable def obPL (s R W P T : List UInt8) (z : Nat) : List Bool :=
  [beqB (Nat.beq 0 1) ((len T).ble ((len P).add 1)),
   (((len P).add 1).add (len T)).ble 9223372036854775807,
   ((len P).add 1).ble 9223372036854775807,
   pB (Pure false 84 [strV (app W P), strV [48]] (strV T)),
   pB ([Value.string { data := { toList := app W P } }, Value.string { data := #[48] }] = [strV (app W P), strV [48]]),
   ((len W).add (len P)).ble 1099511627776,
   beqB (Nat.beq 0 1) (iLt 40 (Int.ofNat ((len W).add (len P)))),
   ((len W).add (len P)).ble 9223372036854775807,
   pB (Pure false 111 [strV P] (Value.bool true)),
   pB ([Value.string { data := { toList := P } }] = [strV P]),
   pB (Pure false 111 [strV W] (Value.bool true)),
   pB ([Value.string { data := { toList := W } }] = [strV W]),
   bytesEq P (List.take ((len R).sub ((len W).add (len [46]))) (List.drop ((len W).add (len [46])) R)),
   ((len W).add (len [46])).ble (len R),
   (len R).ble (len R),
   ((len W).add (len [46])).ble 9223372036854775807,
   bytesEq W (List.take ((len W).sub 0) (List.drop 0 R)),
   (len W).ble (len R),
   pB (Pure false 214 [strV R, Value.int IntKind.u8 46] (intV (len W))),
   pB ([Value.string { data := { toList := R } }, Value.int IntKind.u8 (Int.ofNat (nthD [46] 0).toNat)] = [strV R, Value.int IntKind.u8 46]),
   beqB (Nat.beq 0 1) (bytesEq [46] R),
   bytesEq R (List.take ((len s).sub (len [45])) (List.drop (len [45]) s)),
   (len [45]).ble (len s),
   (len s).ble (len s),
   beqB (Nat.beq 1 1) !iLt (Int.ofNat (len s)) (Int.ofNat (len [45])),
   beqB (Nat.beq 1 1) (beqB (!iLt (Int.ofNat (len s)) (Int.ofNat (len [45]))) true),
   beqB (Nat.beq 1 1) (beqB (!iLt (Int.ofNat (len s)) (Int.ofNat (len [45]))) true),
   bytesEq [45] (List.take ((len [45]).sub 0) (List.drop 0 s)),
   (len [45]).ble (len s),
   beqB (Nat.beq 1 1) (beqB (!iLt (Int.ofNat (len s)) (Int.ofNat (len [45]))) true),
   beqB (Nat.beq 1 1) (beqB (!iLt (Int.ofNat (len s)) (Int.ofNat (len [45]))) true),
   beqB (Nat.beq 1 1) (beqB (!iLt (Int.ofNat (len s)) (Int.ofNat (len [45]))) true),
   beqB (Nat.beq 1 1) (beqB (!iLt (Int.ofNat (len s)) (Int.ofNat (len [45]))) true)]
theorem runPL (s R W P T : List UInt8) (z : Nat) : lookB (acall (EPL s R W P T z) 200 68 [strV s] (hN (bits [1, 1, 1, 1, 2, 1, 1, 1, 0, 2, 1, 1, 1, 0, 0, 1, 2, 1, 2, 2, 2, 1, 1, 1, 1, 2, 1, 1, 1, 0, 1, 1, 1, 1, 1, 1, 0, 0, 2, 0, 0] 0))) = some (.tuple ⟨[.agg ⟨[.bool true, strV (T), intV (len P)]⟩, .bool true]⟩, [], allB (fun b => b) (obPL s R W P T z)) := by kernel_rfl
end Go.Proofs.YtkmbkejmfffafaaGreatDoor.Refl
namespace Go.Proofs.YtkmbkejmfffafaaGreatDoor.Refl
open Go Go.RowKit
set_option linter.unusedVariables false
set_option linter.unusedSimpArgs false
set_option maxRecDepth 1000000
set_option maxHeartbeats 4000000
theorem obPA_ok {s R W P T : List UInt8} {z : Nat} (c1 : s.take 1 ≠ [45]) (c0 : [46] ≠ s) (p214 : Pure false 214 [strV s, .int .u8 46] (.int .i64 (Int.negSucc 0))) (p111 : Pure false 111 [strV s] (.bool true)) (l1 : 1 ≤ s.length) (l2 : s.length ≤ 30) (p84 : Pure false 84 [strV (app s []), strV [48]] (strV T)) (lT : 0 + 1 < T.length) (lU : T.length ≤ 30) : ∀ x ∈ obPA s R W P T z, x = true := by
  have q0 : beqB (Nat.beq 0 1) (bytesEq [46] s) = true := by rw [bytesEq_eq, decide_eq_false c0]; rfl
  have q1 : beqB (Nat.beq 1 1) (!bytesEq (List.take (len [45]) s) [45]) = true := by rw [bytesEq_eq, decide_eq_false (show ¬ List.take (len [45]) s = [45] from c1)]; rfl
  intro x hx
  unfold obPA at hx
  simp only [List.mem_cons, List.not_mem_nil, or_false] at hx
  rcases hx with hx | hx | hx | hx | hx | hx | hx | hx | hx | hx | hx | hx | hx | hx | hx | hx | hx | hx | hx | hx | hx
  all_goals (subst hx; first
    | rfl
    | assumption
    | exact pB_of rfl
    | exact pB_of (by assumption)
    | (simp [ble_eq, blt_eq, iLt_eq, beqB_eq, bytesEq_eq, len_eq, app_eq, rep0, bq]; done)
    | (simp [ble_eq, blt_eq, iLt_eq, beqB_eq, bytesEq_eq, len_eq, app_eq, rep0, bq]; omega))
theorem obPB_ok {s R W P T : List UInt8} {z : Nat} (c1 : s.take 1 = [45]) (c2 : s.drop 1 = R) (lS : s.length = R.length + 1) (c0 : [46] ≠ R) (p214 : Pure false 214 [strV R, .int .u8 46] (.int .i64 (Int.negSucc 0))) (p111 : Pure false 111 [strV R] (.bool true)) (l1 : 1 ≤ R.length) (l2 : R.length ≤ 30) (p84 : Pure false 84 [strV (app R []), strV [48]] (strV T)) (lT : 0 + 1 < T.length) (lU : T.length ≤ 30) : ∀ x ∈ obPB s R W P T z, x = true := by
  have q0 : beqB (Nat.beq 0 1) (bytesEq [46] R) = true := by rw [bytesEq_eq, decide_eq_false c0]; rfl
  have q1 : bytesEq [45] (List.take ((len [45]).sub 0) (List.drop 0 s)) = true := by rw [bytesEq_eq]; exact decide_eq_true (show [45] = List.take 1 (List.drop 0 s) from c1.symm)
  have q2 : bytesEq R (List.take ((len s).sub (len [45])) (List.drop (len [45]) s)) = true := by
    rw [bytesEq_eq, len_eq s]
    show decide (R = List.take (s.length - 1) (List.drop 1 s)) = true
    rw [c2, lS]; simp
  intro x hx
  unfold obPB at hx
  simp only [List.mem_cons, List.not_mem_nil, or_false] at hx
  rcases hx with hx | hx | hx | hx | hx | hx | hx | hx | hx | hx | hx | hx | hx | hx | hx | hx | hx | hx | hx | hx | hx | hx | hx | hx
  all_goals (subst hx; first
    | rfl
    | assumption
    | exact pB_of rfl
    | exact pB_of (by assumption)
    | (simp [ble_eq, blt_eq, iLt_eq, beqB_eq, bytesEq_eq, len_eq, app_eq, rep0, bq]; done)
    | (simp [ble_eq, blt_eq, iLt_eq, beqB_eq, bytesEq_eq, len_eq, app_eq, rep0, bq]; omega))
theorem obPC_ok {s R W P T : List UInt8} {z : Nat} (c1 : s.take 1 ≠ [45]) (c0 : [46] ≠ s) (p214 : Pure false 214 [strV s, .int .u8 46] (intV (len W))) (p111 : Pure false 111 [strV W] (.bool true)) (p111b : Pure false 111 [strV P] (.bool true)) (c3 : s.take W.length = W) (c4 : s.drop (W.length + 1) = P) (lR : s.length = W.length + 1 + P.length) (l1 : 1 ≤ W.length) (l2 : W.length + P.length ≤ 30) (p84 : Pure false 84 [strV (app W P), strV [48]] (strV T)) (lT : T.length = P.length + 1) : ∀ x ∈ obPC s R W P T z, x = true := by
  have q0 : beqB (Nat.beq 0 1) (bytesEq [46] s) = true := by rw [bytesEq_eq, decide_eq_false c0]; rfl
  have q1 : beqB (Nat.beq 1 1) (!bytesEq (List.take (len [45]) s) [45]) = true := by rw [bytesEq_eq, decide_eq_false (show ¬ List.take (len [45]) s = [45] from c1)]; rfl
  have q3 : bytesEq W (List.take ((len W).sub 0) (List.drop 0 s)) = true := by rw [bytesEq_eq, len_eq]; exact decide_eq_true c3.symm
  have q4 : bytesEq P (List.take ((len s).sub ((len W).add (len [46]))) (List.drop ((len W).add (len [46])) s)) = true := by
    rw [bytesEq_eq, len_eq W, len_eq s]
    show decide (P = List.take (s.length - (W.length + 1)) (List.drop (W.length + 1) s)) = true
    rw [c4, lR]; simp
  intro x hx
  unfold obPC at hx
  simp only [List.mem_cons, List.not_mem_nil, or_false] at hx
  rcases hx with hx | hx | hx | hx | hx | hx | hx | hx | hx | hx | hx | hx | hx | hx | hx | hx | hx | hx | hx | hx | hx | hx | hx | hx | hx | hx | hx | hx | hx | hx | hx
  all_goals (subst hx; first
    | rfl
    | assumption
    | exact pB_of rfl
    | exact pB_of (by assumption)
    | (simp [ble_eq, blt_eq, iLt_eq, beqB_eq, bytesEq_eq, len_eq, app_eq, rep0, bq]; done)
    | (simp [ble_eq, blt_eq, iLt_eq, beqB_eq, bytesEq_eq, len_eq, app_eq, rep0, bq]; omega))
theorem obPD_ok {s R W P T : List UInt8} {z : Nat} (c1 : s.take 1 = [45]) (c2 : s.drop 1 = R) (lS : s.length = R.length + 1) (c0 : [46] ≠ R) (p214 : Pure false 214 [strV R, .int .u8 46] (intV (len W))) (p111 : Pure false 111 [strV W] (.bool true)) (p111b : Pure false 111 [strV P] (.bool true)) (c3 : R.take W.length = W) (c4 : R.drop (W.length + 1) = P) (lR : R.length = W.length + 1 + P.length) (l1 : 1 ≤ W.length) (l2 : W.length + P.length ≤ 30) (p84 : Pure false 84 [strV (app W P), strV [48]] (strV T)) (lT : T.length = P.length + 1) : ∀ x ∈ obPD s R W P T z, x = true := by
  have q0 : beqB (Nat.beq 0 1) (bytesEq [46] R) = true := by rw [bytesEq_eq, decide_eq_false c0]; rfl
  have q1 : bytesEq [45] (List.take ((len [45]).sub 0) (List.drop 0 s)) = true := by rw [bytesEq_eq]; exact decide_eq_true (show [45] = List.take 1 (List.drop 0 s) from c1.symm)
  have q2 : bytesEq R (List.take ((len s).sub (len [45])) (List.drop (len [45]) s)) = true := by
    rw [bytesEq_eq, len_eq s]
    show decide (R = List.take (s.length - 1) (List.drop 1 s)) = true
    rw [c2, lS]; simp
  have q3 : bytesEq W (List.take ((len W).sub 0) (List.drop 0 R)) = true := by rw [bytesEq_eq, len_eq]; exact decide_eq_true c3.symm
  have q4 : bytesEq P (List.take ((len R).sub ((len W).add (len [46]))) (List.drop ((len W).add (len [46])) R)) = true := by
    rw [bytesEq_eq, len_eq W, len_eq R]
    show decide (P = List.take (R.length - (W.length + 1)) (List.drop (W.length + 1) R)) = true
    rw [c4, lR]; simp
  intro x hx
  unfold obPD at hx
  simp only [List.mem_cons, List.not_mem_nil, or_false] at hx
  rcases hx with hx | hx | hx | hx | hx | hx | hx | hx | hx | hx | hx | hx | hx | hx | hx | hx | hx | hx | hx | hx | hx | hx | hx | hx | hx | hx | hx | hx | hx | hx | hx | hx | hx | hx
  all_goals (subst hx; first
    | rfl
    | assumption
    | exact pB_of rfl
    | exact pB_of (by assumption)
    | (simp [ble_eq, blt_eq, iLt_eq, beqB_eq, bytesEq_eq, len_eq, app_eq, rep0, bq]; done)
    | (simp [ble_eq, blt_eq, iLt_eq, beqB_eq, bytesEq_eq, len_eq, app_eq, rep0, bq]; omega))
theorem obPE_ok {s R W P T : List UInt8} {z : Nat} (c1 : s.take 1 ≠ [45]) (c0 : [46] ≠ s) (p214 : Pure false 214 [strV s, .int .u8 46] (.int .i64 (Int.negSucc 0))) (p111 : Pure false 111 [strV s] (.bool true)) (l1 : 1 ≤ s.length) (l2 : s.length ≤ 30) (p84 : Pure false 84 [strV (app s []), strV [48]] (strV T)) (lz : z = 0 + 1 - T.length) (lT : T.length < 0 + 1) (p92 : Pure false 92 [strV [48], intV z] (strV (rep0 z))) : ∀ x ∈ obPE s R W P T z, x = true := by
  have q0 : beqB (Nat.beq 0 1) (bytesEq [46] s) = true := by rw [bytesEq_eq, decide_eq_false c0]; rfl
  have q1 : beqB (Nat.beq 1 1) (!bytesEq (List.take (len [45]) s) [45]) = true := by rw [bytesEq_eq, decide_eq_false (show ¬ List.take (len [45]) s = [45] from c1)]; rfl
  have q5 : pB ([Value.string { data := #[48] }, Value.int IntKind.i64 (Int.ofNat (((len ([] : List UInt8)).add 1).sub (len T)))] = [strV [48], intV z]) = true := pB_of (by rw [lz, len_eq T]; rfl)
  intro x hx
  unfold obPE at hx
  simp only [List.mem_cons, List.not_mem_nil, or_false] at hx
  rcases hx with hx | hx | hx | hx | hx | hx | hx | hx | hx | hx | hx | hx | hx | hx | hx | hx | hx | hx | hx | hx | hx | hx | hx | hx | hx
  all_goals (subst hx; first
    | rfl
    | assumption
    | exact pB_of rfl
    | exact pB_of (by assumption)
    | (simp [ble_eq, blt_eq, iLt_eq, beqB_eq, bytesEq_eq, len_eq, app_eq, rep0, bq]; done)
    | (simp [ble_eq, blt_eq, iLt_eq, beqB_eq, bytesEq_eq, len_eq, app_eq, rep0, bq]; omega))
theorem obPF_ok {s R W P T : List UInt8} {z : Nat} (c1 : s.take 1 = [45]) (c2 : s.drop 1 = R) (lS : s.length = R.length + 1) (c0 : [46] ≠ R) (p214 : Pure false 214 [strV R, .int .u8 46] (.int .i64 (Int.negSucc 0))) (p111 : Pure false 111 [strV R] (.bool true)) (l1 : 1 ≤ R.length) (l2 : R.length ≤ 30) (p84 : Pure false 84 [strV (app R []), strV [48]] (strV T)) (lz : z = 0 + 1 - T.length) (lT : T.length < 0 + 1) (p92 : Pure false 92 [strV [48], intV z] (strV (rep0 z))) : ∀ x ∈ obPF s R W P T z, x = true := by
  have q0 : beqB (Nat.beq 0 1) (bytesEq [46] R) = true := by rw [bytesEq_eq, decide_eq_false c0]; rfl
  have q1 : bytesEq [45] (List.take ((len [45]).sub 0) (List.drop 0 s)) = true := by rw [bytesEq_eq]; exact decide_eq_true (show [45] = List.take 1 (List.drop 0 s) from c1.symm)
  have q2 : bytesEq R (List.take ((len s).sub (len [45])) (List.drop (len [45]) s)) = true := by
    rw [bytesEq_eq, len_eq s]
    show decide (R = List.take (s.length - 1) (List.drop 1 s)) = true
    rw [c2, lS]; simp
  have q5 : pB ([Value.string { data := #[48] }, Value.int IntKind.i64 (Int.ofNat (((len ([] : List UInt8)).add 1).sub (len T)))] = [strV [48], intV z]) = true := pB_of (by rw [lz, len_eq T]; rfl)
  intro x hx
  unfold obPF at hx
  simp only [List.mem_cons, List.not_mem_nil, or_false] at hx
  rcases hx with hx | hx | hx | hx | hx | hx | hx | hx | hx | hx | hx | hx | hx | hx | hx | hx | hx | hx | hx | hx | hx | hx | hx | hx | hx | hx | hx | hx
  all_goals (subst hx; first
    | rfl
    | assumption
    | exact pB_of rfl
    | exact pB_of (by assumption)
    | (simp [ble_eq, blt_eq, iLt_eq, beqB_eq, bytesEq_eq, len_eq, app_eq, rep0, bq]; done)
    | (simp [ble_eq, blt_eq, iLt_eq, beqB_eq, bytesEq_eq, len_eq, app_eq, rep0, bq]; omega))
theorem obPG_ok {s R W P T : List UInt8} {z : Nat} (c1 : s.take 1 ≠ [45]) (c0 : [46] ≠ s) (p214 : Pure false 214 [strV s, .int .u8 46] (intV (len W))) (p111 : Pure false 111 [strV W] (.bool true)) (p111b : Pure false 111 [strV P] (.bool true)) (c3 : s.take W.length = W) (c4 : s.drop (W.length + 1) = P) (lR : s.length = W.length + 1 + P.length) (l1 : 1 ≤ W.length) (l2 : W.length + P.length ≤ 30) (p84 : Pure false 84 [strV (app W P), strV [48]] (strV T)) (lz : z = P.length + 1 - T.length) (lT : T.length < P.length + 1) (p92 : Pure false 92 [strV [48], intV z] (strV (rep0 z))) : ∀ x ∈ obPG s R W P T z, x = true := by
  have q0 : beqB (Nat.beq 0 1) (bytesEq [46] s) = true := by rw [bytesEq_eq, decide_eq_false c0]; rfl
  have q1 : beqB (Nat.beq 1 1) (!bytesEq (List.take (len [45]) s) [45]) = true := by rw [bytesEq_eq, decide_eq_false (show ¬ List.take (len [45]) s = [45] from c1)]; rfl
  have q3 : bytesEq W (List.take ((len W).sub 0) (List.drop 0 s)) = true := by rw [bytesEq_eq, len_eq]; exact decide_eq_true c3.symm
  have q4 : bytesEq P (List.take ((len s).sub ((len W).add (len [46]))) (List.drop ((len W).add (len [46])) s)) = true := by
    rw [bytesEq_eq, len_eq W, len_eq s]
    show decide (P = List.take (s.length - (W.length + 1)) (List.drop (W.length + 1) s)) = true
    rw [c4, lR]; simp
  have q5 : pB ([Value.string { data := #[48] }, Value.int IntKind.i64 (Int.ofNat (((len P).add 1).sub (len T)))] = [strV [48], intV z]) = true := pB_of (by rw [lz, len_eq T, len_eq P]; rfl)
  intro x hx
  unfold obPG at hx
  simp only [List.mem_cons, List.not_mem_nil, or_false] at hx
  rcases hx with hx | hx | hx | hx | hx | hx | hx | hx | hx | hx | hx | hx | hx | hx | hx | hx | hx | hx | hx | hx | hx | hx | hx | hx | hx | hx | hx | hx | hx | hx | hx | hx | hx | hx
  all_goals (subst hx; first
    | rfl
    | assumption
    | exact pB_of rfl
    | exact pB_of (by assumption)
    | (simp [ble_eq, blt_eq, iLt_eq, beqB_eq, bytesEq_eq, len_eq, app_eq, rep0, bq]; done)
    | (simp [ble_eq, blt_eq, iLt_eq, beqB_eq, bytesEq_eq, len_eq, app_eq, rep0, bq]; omega))
theorem obPH_ok {s R W P T : List UInt8} {z : Nat} (c1 : s.take 1 = [45]) (c2 : s.drop 1 = R) (lS : s.length = R.length + 1) (c0 : [46] ≠ R) (p214 : Pure false 214 [strV R, .int .u8 46] (intV (len W))) (p111 : Pure false 111 [strV W] (.bool true)) (p111b : Pure false 111 [strV P] (.bool true)) (c3 : R.take W.length = W) (c4 : R.drop (W.length + 1) = P) (lR : R.length = W.length + 1 + P.length) (l1 : 1 ≤ W.length) (l2 : W.length + P.length ≤ 30) (p84 : Pure false 84 [strV (app W P), strV [48]] (strV T)) (lz : z = P.length + 1 - T.length) (lT : T.length < P.length + 1) (p92 : Pure false 92 [strV [48], intV z] (strV (rep0 z))) : ∀ x ∈ obPH s R W P T z, x = true := by
  have q0 : beqB (Nat.beq 0 1) (bytesEq [46] R) = true := by rw [bytesEq_eq, decide_eq_false c0]; rfl
  have q1 : bytesEq [45] (List.take ((len [45]).sub 0) (List.drop 0 s)) = true := by rw [bytesEq_eq]; exact decide_eq_true (show [45] = List.take 1 (List.drop 0 s) from c1.symm)
  have q2 : bytesEq R (List.take ((len s).sub (len [45])) (List.drop (len [45]) s)) = true := by
    rw [bytesEq_eq, len_eq s]
    show decide (R = List.take (s.length - 1) (List.drop 1 s)) = true
    rw [c2, lS]; simp
  have q3 : bytesEq W (List.take ((len W).sub 0) (List.drop 0 R)) = true := by rw [bytesEq_eq, len_eq]; exact decide_eq_true c3.symm
  have q4 : bytesEq P (List.take ((len R).sub ((len W).add (len [46]))) (List.drop ((len W).add (len [46])) R)) = true := by
    rw [bytesEq_eq, len_eq W, len_eq R]
    show decide (P = List.take (R.length - (W.length + 1)) (List.drop (W.length + 1) R)) = true
    rw [c4, lR]; simp
  have q5 : pB ([Value.string { data := #[48] }, Value.int IntKind.i64 (Int.ofNat (((len P).add 1).sub (len T)))] = [strV [48], intV z]) = true := pB_of (by rw [lz, len_eq T, len_eq P]; rfl)
  intro x hx
  unfold obPH at hx
  simp only [List.mem_cons, List.not_mem_nil, or_false] at hx
  rcases hx with hx | hx | hx | hx | hx | hx | hx | hx | hx | hx | hx | hx | hx | hx | hx | hx | hx | hx | hx | hx | hx | hx | hx | hx | hx | hx | hx | hx | hx | hx | hx | hx | hx | hx | hx | hx | hx
  all_goals (subst hx; first
    | rfl
    | assumption
    | exact pB_of rfl
    | exact pB_of (by assumption)
    | (simp [ble_eq, blt_eq, iLt_eq, beqB_eq, bytesEq_eq, len_eq, app_eq, rep0, bq]; done)
    | (simp [ble_eq, blt_eq, iLt_eq, beqB_eq, bytesEq_eq, len_eq, app_eq, rep0, bq]; omega))
theorem obPI_ok {s R W P T : List UInt8} {z : Nat} (c1 : s.take 1 ≠ [45]) (c0 : [46] ≠ s) (p214 : Pure false 214 [strV s, .int .u8 46] (.int .i64 (Int.negSucc 0))) (p111 : Pure false 111 [strV s] (.bool true)) (l1 : 1 ≤ s.length) (l2 : s.length ≤ 30) (p84 : Pure false 84 [strV (app s []), strV [48]] (strV T)) (lT : T.length = 0 + 1) : ∀ x ∈ obPI s R W P T z, x = true := by
  have q0 : beqB (Nat.beq 0 1) (bytesEq [46] s) = true := by rw [bytesEq_eq, decide_eq_false c0]; rfl
  have q1 : beqB (Nat.beq 1 1) (!bytesEq (List.take (len [45]) s) [45]) = true := by rw [bytesEq_eq, decide_eq_false (show ¬ List.take (len [45]) s = [45] from c1)]; rfl
  intro x hx
  unfold obPI at hx
  simp only [List.mem_cons, List.not_mem_nil, or_false] at hx
  rcases hx with hx | hx | hx | hx | hx | hx | hx | hx | hx | hx | hx | hx | hx | hx | hx | hx | hx | hx | hx | hx | hx | hx
  all_goals (subst hx; first
    | rfl
    | assumption
    | exact pB_of rfl
    | exact pB_of (by assumption)
    | (simp [ble_eq, blt_eq, iLt_eq, beqB_eq, bytesEq_eq, len_eq, app_eq, rep0, bq]; done)
    | (simp [ble_eq, blt_eq, iLt_eq, beqB_eq, bytesEq_eq, len_eq, app_eq, rep0, bq]; omega))
theorem obPJ_ok {s R W P T : List UInt8} {z : Nat} (c1 : s.take 1 = [45]) (c2 : s.drop 1 = R) (lS : s.length = R.length + 1) (c0 : [46] ≠ R) (p214 : Pure false 214 [strV R, .int .u8 46] (.int .i64 (Int.negSucc 0))) (p111 : Pure false 111 [strV R] (.bool true)) (l1 : 1 ≤ R.length) (l2 : R.length ≤ 30) (p84 : Pure false 84 [strV (app R []), strV [48]] (strV T)) (lT : T.length = 0 + 1) : ∀ x ∈ obPJ s R W P T z, x = true := by
  have q0 : beqB (Nat.beq 0 1) (bytesEq [46] R) = true := by rw [bytesEq_eq, decide_eq_false c0]; rfl
  have q1 : bytesEq [45] (List.take ((len [45]).sub 0) (List.drop 0 s)) = true := by rw [bytesEq_eq]; exact decide_eq_true (show [45] = List.take 1 (List.drop 0 s) from c1.symm)
  have q2 : bytesEq R (List.take ((len s).sub (len [45])) (List.drop (len [45]) s)) = true := by
    rw [bytesEq_eq, len_eq s]
    show decide (R = List.take (s.length - 1) (List.drop 1 s)) = true
    rw [c2, lS]; simp
  intro x hx
  unfold obPJ at hx
  simp only [List.mem_cons, List.not_mem_nil, or_false] at hx
  rcases hx with hx | hx | hx | hx | hx | hx | hx | hx | hx | hx | hx | hx | hx | hx | hx | hx | hx | hx | hx | hx | hx | hx | hx | hx | hx
  all_goals (subst hx; first
    | rfl
    | assumption
    | exact pB_of rfl
    | exact pB_of (by assumption)
    | (simp [ble_eq, blt_eq, iLt_eq, beqB_eq, bytesEq_eq, len_eq, app_eq, rep0, bq]; done)
    | (simp [ble_eq, blt_eq, iLt_eq, beqB_eq, bytesEq_eq, len_eq, app_eq, rep0, bq]; omega))
theorem obPK_ok {s R W P T : List UInt8} {z : Nat} (c1 : s.take 1 ≠ [45]) (c0 : [46] ≠ s) (p214 : Pure false 214 [strV s, .int .u8 46] (intV (len W))) (p111 : Pure false 111 [strV W] (.bool true)) (p111b : Pure false 111 [strV P] (.bool true)) (c3 : s.take W.length = W) (c4 : s.drop (W.length + 1) = P) (lR : s.length = W.length + 1 + P.length) (l1 : 1 ≤ W.length) (l2 : W.length + P.length ≤ 30) (p84 : Pure false 84 [strV (app W P), strV [48]] (strV T)) (lT : P.length + 1 < T.length) (lU : T.length ≤ 30) : ∀ x ∈ obPK s R W P T z, x = true := by
  have q0 : beqB (Nat.beq 0 1) (bytesEq [46] s) = true := by rw [bytesEq_eq, decide_eq_false c0]; rfl
  have q1 : beqB (Nat.beq 1 1) (!bytesEq (List.take (len [45]) s) [45]) = true := by rw [bytesEq_eq, decide_eq_false (show ¬ List.take (len [45]) s = [45] from c1)]; rfl
  have q3 : bytesEq W (List.take ((len W).sub 0) (List.drop 0 s)) = true := by rw [bytesEq_eq, len_eq]; exact decide_eq_true c3.symm
  have q4 : bytesEq P (List.take ((len s).sub ((len W).add (len [46]))) (List.drop ((len W).add (len [46])) s)) = true := by
    rw [bytesEq_eq, len_eq W, len_eq s]
    show decide (P = List.take (s.length - (W.length + 1)) (List.drop (W.length + 1) s)) = true
    rw [c4, lR]; simp
  intro x hx
  unfold obPK at hx
  simp only [List.mem_cons, List.not_mem_nil, or_false] at hx
  rcases hx with hx | hx | hx | hx | hx | hx | hx | hx | hx | hx | hx | hx | hx | hx | hx | hx | hx | hx | hx | hx | hx | hx | hx | hx | hx | hx | hx | hx | hx | hx
  all_goals (subst hx; first
    | rfl
    | assumption
    | exact pB_of rfl
    | exact pB_of (by assumption)
    | (simp [ble_eq, blt_eq, iLt_eq, beqB_eq, bytesEq_eq, len_eq, app_eq, rep0, bq]; done)
    | (simp [ble_eq, blt_eq, iLt_eq, beqB_eq, bytesEq_eq, len_eq, app_eq, rep0, bq]; omega))
theorem obPL_ok {s R W P T : List UInt8} {z : Nat} (c1 : s.take 1 = [45]) (c2 : s.drop 1 = R) (lS : s.length = R.length + 1) (c0 : [46] ≠ R) (p214 : Pure false 214 [strV R, .int .u8 46] (intV (len W))) (p111 : Pure false 111 [strV W] (.bool true)) (p111b : Pure false 111 [strV P] (.bool true)) (c3 : R.take W.length = W) (c4 : R.drop (W.length + 1) = P) (lR : R.length = W.length + 1 + P.length) (l1 : 1 ≤ W.length) (l2 : W.length + P.length ≤ 30) (p84 : Pure false 84 [strV (app W P), strV [48]] (strV T)) (lT : P.length + 1 < T.length) (lU : T.length ≤ 30) : ∀ x ∈ obPL s R W P T z, x = true := by
  have q0 : beqB (Nat.beq 0 1) (bytesEq [46] R) = true := by rw [bytesEq_eq, decide_eq_false c0]; rfl
  have q1 : bytesEq [45] (List.take ((len [45]).sub 0) (List.drop 0 s)) = true := by rw [bytesEq_eq]; exact decide_eq_true (show [45] = List.take 1 (List.drop 0 s) from c1.symm)
  have q2 : bytesEq R (List.take ((len s).sub (len [45])) (List.drop (len [45]) s)) = true := by
    rw [bytesEq_eq, len_eq s]
    show decide (R = List.take (s.length - 1) (List.drop 1 s)) = true
    rw [c2, lS]; simp
  have q3 : bytesEq W (List.take ((len W).sub 0) (List.drop 0 R)) = true := by rw [bytesEq_eq, len_eq]; exact decide_eq_true c3.symm
  have q4 : bytesEq P (List.take ((len R).sub ((len W).add (len [46]))) (List.drop ((len W).add (len [46])) R)) = true := by
    rw [bytesEq_eq, len_eq W, len_eq R]
    show decide (P = List.take (R.length - (W.length + 1)) (List.drop (W.length + 1) R)) = true
    rw [c4, lR]; simp
  intro x hx
  unfold obPL at hx
  simp only [List.mem_cons, List.not_mem_nil, or_false] at hx
  rcases hx with hx | hx | hx | hx | hx | hx | hx | hx | hx | hx | hx | hx | hx | hx | hx | hx | hx | hx | hx | hx | hx | hx | hx | hx | hx | hx | hx | hx | hx | hx | hx | hx | hx
  all_goals (subst hx; first
    | rfl
    | assumption
    | exact pB_of rfl
    | exact pB_of (by assumption)
    | (simp [ble_eq, blt_eq, iLt_eq, beqB_eq, bytesEq_eq, len_eq, app_eq, rep0, bq]; done)
    | (simp [ble_eq, blt_eq, iLt_eq, beqB_eq, bytesEq_eq, len_eq, app_eq, rep0, bq]; omega))
end Go.Proofs.YtkmbkejmfffafaaGreatDoor.Refl
namespace Go.Proofs.YtkmbkejmfffafaaGreatDoor.Refl
open Go Go.RowKit
set_option linter.unusedVariables false
set_option linter.unusedSimpArgs false
set_option maxRecDepth 1000000
theorem trim_le : ∀ l : List UInt8, (Lib.trimLeftB l 48).length ≤ l.length
  | [] => Nat.le_refl _
  | b :: l => by
    by_cases hb : b = 48
    · subst hb
      have e : Lib.trimLeftB (48 :: l) 48 = Lib.trimLeftB l 48 := rfl
      rw [e]; have := trim_le l; simp; omega
    · have e : Lib.trimLeftB (b :: l) 48 = b :: l := by unfold Lib.trimLeftB; rw [List.dropWhile_cons_of_neg (by simpa using hb)]
      rw [e]; exact Nat.le_refl _
theorem trim_rep : ∀ l : List UInt8, rep0 (l.length - (Lib.trimLeftB l 48).length) ++ Lib.trimLeftB l 48 = l
  | [] => rfl
  | b :: l => by
    by_cases hb : b = 48
    · subst hb
      have e : Lib.trimLeftB (48 :: l) 48 = Lib.trimLeftB l 48 := rfl
      have hl := trim_le l
      rw [e]
      have e2 : (48 :: l).length - (Lib.trimLeftB l 48).length = (l.length - (Lib.trimLeftB l 48).length) + 1 := by simp; omega
      rw [e2]
      show 48 :: (rep0 (l.length - (Lib.trimLeftB l 48).length) ++ Lib.trimLeftB l 48) = _
      rw [trim_rep l]
    · have e : Lib.trimLeftB (b :: l) 48 = b :: l := by unfold Lib.trimLeftB; rw [List.dropWhile_cons_of_neg (by simpa using hb)]
      rw [e]; simp [rep0]
theorem trim_same {l : List UInt8} (h : (Lib.trimLeftB l 48).length = l.length) : Lib.trimLeftB l 48 = l := by
  have := trim_rep l
  rw [h, Nat.sub_self] at this
  simpa [rep0] using this
theorem trim_head {l : List UInt8} (h : l.head? ≠ some 48) : Lib.trimLeftB l 48 = l := by
  cases l with
  | nil => rfl
  | cons b l =>
    have hb : b ≠ 48 := fun e => h (by rw [e]; rfl)
    unfold Lib.trimLeftB; rw [List.dropWhile_cons_of_neg (by simpa using hb)]
theorem findByte_none {c : UInt8} : ∀ (l : List UInt8) (i : Nat), (∀ b ∈ l, b.toNat ≠ c.toNat) → findByte c l i = none
  | [], i, _ => rfl
  | b :: l, i, h => by
    show (match Nat.beq b.toNat c.toNat with | true => some i | false => findByte c l (i + 1)) = _
    rw [bq]
    have hb : b.toNat ≠ c.toNat := h b (by simp)
    simp only [hb, decide_false]
    exact findByte_none l (i + 1) fun x hx => h x (by simp [hx])
theorem no46 {l : List UInt8} (h : Digs l) : ∀ b ∈ l, b.toNat ≠ (46 : UInt8).toNat := fun b hb => by have := h b hb; show b.toNat ≠ 46; omega
theorem ne46 {l r : List UInt8} (h : Digs l) (h1 : 1 ≤ l.length) : [46] ≠ l ++ r := fun e => by
  cases l with
  | nil => simp at h1
  | cons b l =>
    have := h b (by simp)
    simp only [List.cons_append, List.cons.injEq] at e
    rw [← e.1] at this; revert this; decide
theorem ne45 {l r : List UInt8} (h : Digs l) (h1 : 1 ≤ l.length) : (l ++ r).take 1 ≠ [45] := fun e => by
  cases l with
  | nil => simp at h1
  | cons b l =>
    have := h b (by simp)
    simp at e
    rw [e] at this; revert this; decide
theorem told3_ok (a b c : List (Nat × (List Value × Value))) : ∀ x ∈ [(214, xTold false 214 a), (111, xTold false 111 b), (84, xTold false 84 c)], ExtOK Tryz.prog 12 x.1 x.2 := by
  intro x hx
  simp only [List.mem_cons, List.not_mem_nil, or_false] at hx
  rcases hx with rfl | rfl | rfl
  · exact xTold_ok false 214 a
  · exact xTold_ok false 111 b
  · exact xTold_ok false 84 c
theorem told4_ok (a b c d : List (Nat × (List Value × Value))) : ∀ x ∈ [(214, xTold false 214 a), (111, xTold false 111 b), (84, xTold false 84 c), (92, xTold false 92 d)], ExtOK Tryz.prog 12 x.1 x.2 := by
  intro x hx
  simp only [List.mem_cons, List.not_mem_nil, or_false] at hx
  rcases hx with rfl | rfl | rfl | rfl
  · exact xTold_ok false 214 a
  · exact xTold_ok false 111 b
  · exact xTold_ok false 84 c
  · exact xTold_ok false 92 d
theorem pure_of_look {E : Env} (hE : EnvF Tryz.prog E 12) {n f : Nat} {s : List UInt8} {r : Value} {orc : List (Nat × Bool)} {ob : List Bool} (h : lookB (acall E n f [strV s] (hN orc)) = some (r, [], allB (fun b => b) ob)) (ho : ∀ x ∈ ob, x = true) (hf : flat 5 r = true) : Pure false f [strV s] r := by
  obtain ⟨h1, k1, k2, k3⟩ := lookB_some h ((allB_eq _ _).2 ho)
  exact pure_of_run hE k1 k3 k2 (fun v hv => by simp at hv; subst hv; rfl) hf
noncomputable def decV (neg : Bool) (D : List UInt8) (sc : Nat) : Value := .tuple ⟨[.agg ⟨[.bool neg, strV D, intV sc]⟩, .bool true]⟩
theorem dpN (neg : Bool) {D : List UInt8} (hD : Digs D) (h1 : 1 ≤ D.length) (h2 : D.length ≤ 30) (hT : D.length = 1 ∨ D.head? ≠ some 48) : Pure false 68 [strV (match neg with | true => 45 :: D | false => D)] (decV neg D 0) := by
  have p214 : Pure false 214 [strV D, .int .u8 46] (.int .i64 (Int.negSucc 0)) := indexNo_pure (findByte_none D 0 (no46 hD))
  have p111 := isDigits_pure D h1 h2 hD
  have p84 : Pure false 84 [strV (app D []), strV [48]] (strV (Lib.trimLeftB D 48)) := by rw [app_eq, List.append_nil]; exact trimLeft_pure D 48 (by decide)
  have c0 : [46] ≠ D := by have := ne46 (r := []) hD h1; rwa [List.append_nil] at this
  have c1 : D.take 1 ≠ [45] := by have := ne45 (r := []) hD h1; rwa [List.append_nil] at this
  have hle := trim_le D
  rcases Nat.lt_trichotomy (Lib.trimLeftB D 48).length 1 with hl | hl | hl
  · have hlen : D.length = 1 := by
      rcases hT with h | h
      · exact h
      · rw [trim_head h] at hl; omega
    have p92 := repeat_pure (z := 0 + 1 - (Lib.trimLeftB D 48).length) (by omega)
    have hv : app (rep0 (0 + 1 - (Lib.trimLeftB D 48).length)) (Lib.trimLeftB D 48) = D := by
      rw [app_eq]; have := trim_rep D; rw [hlen] at this; exact this
    cases neg with
    | false =>
      have := pure_of_look (envS_ok (told4_ok _ _ _ _)) (runPE D D D D (Lib.trimLeftB D 48) (0 + 1 - (Lib.trimLeftB D 48).length)) (obPE_ok c1 c0 p214 p111 h1 h2 p84 rfl (by omega) p92) rfl
      rw [hv] at this; exact this
    | true =>
      have := pure_of_look (envS_ok (told4_ok _ _ _ _)) (runPF (45 :: D) D D D (Lib.trimLeftB D 48) (0 + 1 - (Lib.trimLeftB D 48).length)) (obPF_ok rfl rfl rfl c0 p214 p111 h1 h2 p84 rfl (by omega) p92) rfl
      rw [hv] at this; exact this
  · have hv : Lib.trimLeftB D 48 = D := by
      rcases hT with h | h
      · exact trim_same (by omega)
      · exact trim_head h
    rw [hv] at p84 hl
    cases neg with
    | false => exact pure_of_look (envS_ok (told3_ok _ _ _)) (runPI D D D D D 0) (obPI_ok c1 c0 p214 p111 h1 h2 p84 (by omega)) rfl
    | true => exact pure_of_look (envS_ok (told3_ok _ _ _)) (runPJ (45 :: D) D D D D 0) (obPJ_ok rfl rfl rfl c0 p214 p111 h1 h2 p84 (by omega)) rfl
  · have hv : Lib.trimLeftB D 48 = D := by
      rcases hT with h | h
      · omega
      · exact trim_head h
    rw [hv] at p84 hl
    cases neg with
    | false => exact pure_of_look (envS_ok (told3_ok _ _ _)) (runPA D D D D D 0) (obPA_ok c1 c0 p214 p111 h1 h2 p84 (by omega) h2) rfl
    | true => exact pure_of_look (envS_ok (told3_ok _ _ _)) (runPB (45 :: D) D D D D 0) (obPB_ok rfl rfl rfl c0 p214 p111 h1 h2 p84 (by omega) h2) rfl
theorem dpP (neg : Bool) {W P : List UInt8} (hW : Digs W) (hP : Digs P) (l1 : 1 ≤ W.length) (l3 : 1 ≤ P.length) (l2 : W.length + P.length ≤ 30) (hT : W.length = 1 ∨ (W ++ P).head? ≠ some 48) :
    Pure false 68 [strV (match neg with | true => 45 :: (W ++ 46 :: P) | false => W ++ 46 :: P)] (decV neg (W ++ P) P.length) := by
  have p214 : Pure false 214 [strV (W ++ 46 :: P), .int .u8 46] (intV (len W)) := index_pure (by rw [findByte_at W P 0 (no46 hW), Nat.zero_add, len_eq])
  have p111 := isDigits_pure W l1 (by omega) hW
  have p111b := isDigits_pure P l3 (by omega) hP
  have p84 : Pure false 84 [strV (app W P), strV [48]] (strV (Lib.trimLeftB (W ++ P) 48)) := by rw [app_eq]; exact trimLeft_pure (W ++ P) 48 (by decide)
  have c0 : [46] ≠ W ++ 46 :: P := ne46 hW l1
  have c1 : (W ++ 46 :: P).take 1 ≠ [45] := ne45 hW l1
  have c3 : (W ++ 46 :: P).take W.length = W := by simp
  have c4 : (W ++ 46 :: P).drop (W.length + 1) = P := by
    rw [← List.drop_drop]; simp
  have lR : (W ++ 46 :: P).length = W.length + 1 + P.length := by simp; omega
  have hle := trim_le (W ++ P)
  have hDl : (W ++ P).length = W.length + P.length := by simp
  rcases Nat.lt_trichotomy (Lib.trimLeftB (W ++ P) 48).length (P.length + 1) with hl | hl | hl
  · have hlen : (W ++ P).length = P.length + 1 := by
      rcases hT with h | h
      · omega
      · rw [trim_head h] at hl; omega
    have p92 := repeat_pure (z := P.length + 1 - (Lib.trimLeftB (W ++ P) 48).length) (by omega)
    have hv : app (rep0 (P.length + 1 - (Lib.trimLeftB (W ++ P) 48).length)) (Lib.trimLeftB (W ++ P) 48) = W ++ P := by
      rw [app_eq]; have := trim_rep (W ++ P); rw [hlen] at this; exact this
    cases neg with
    | false =>
      have := pure_of_look (envS_ok (told4_ok _ _ _ _)) (runPG (W ++ 46 :: P) (W ++ 46 :: P) W P (Lib.trimLeftB (W ++ P) 48) (P.length + 1 - (Lib.trimLeftB (W ++ P) 48).length)) (obPG_ok c1 c0 p214 p111 p111b c3 c4 lR l1 l2 p84 rfl (by omega) p92) rfl
      rw [hv, len_eq] at this; exact this
    | true =>
      have := pure_of_look (envS_ok (told4_ok _ _ _ _)) (runPH (45 :: (W ++ 46 :: P)) (W ++ 46 :: P) W P (Lib.trimLeftB (W ++ P) 48) (P.length + 1 - (Lib.trimLeftB (W ++ P) 48).length)) (obPH_ok rfl rfl rfl c0 p214 p111 p111b c3 c4 lR l1 l2 p84 rfl (by omega) p92) rfl
      rw [hv, len_eq] at this; exact this
  · have hv : Lib.trimLeftB (W ++ P) 48 = W ++ P := by
      rcases hT with h | h
      · exact trim_same (by omega)
      · exact trim_head h
    rw [hv] at p84 hl
    cases neg with
    | false =>
      have := pure_of_look (envS_ok (told3_ok _ _ _)) (runPC (W ++ 46 :: P) (W ++ 46 :: P) W P (W ++ P) 0) (obPC_ok c1 c0 p214 p111 p111b c3 c4 lR l1 l2 p84 hl) rfl
      rw [len_eq] at this; exact this
    | true =>
      have := pure_of_look (envS_ok (told3_ok _ _ _)) (runPD (45 :: (W ++ 46 :: P)) (W ++ 46 :: P) W P (W ++ P) 0) (obPD_ok rfl rfl rfl c0 p214 p111 p111b c3 c4 lR l1 l2 p84 hl) rfl
      rw [len_eq] at this; exact this
  · have hv : Lib.trimLeftB (W ++ P) 48 = W ++ P := by
      rcases hT with h | h
      · omega
      · exact trim_head h
    rw [hv] at p84 hl
    cases neg with
    | false =>
      have := pure_of_look (envS_ok (told3_ok _ _ _)) (runPK (W ++ 46 :: P) (W ++ 46 :: P) W P (W ++ P) 0) (obPK_ok c1 c0 p214 p111 p111b c3 c4 lR l1 l2 p84 hl (by omega)) rfl
      rw [len_eq] at this; exact this
    | true =>
      have := pure_of_look (envS_ok (told3_ok _ _ _)) (runPL (45 :: (W ++ 46 :: P)) (W ++ 46 :: P) W P (W ++ P) 0) (obPL_ok rfl rfl rfl c0 p214 p111 p111b c3 c4 lR l1 l2 p84 hl (by omega)) rfl
      rw [len_eq] at this; exact this
noncomputable def decS (neg : Bool) (D : List UInt8) (sc : Nat) : List UInt8 := match neg, sc with
  | true, 0 => 45 :: D
  | false, 0 => D
  | true, sc + 1 => 45 :: (D.take (D.length - (sc + 1)) ++ 46 :: D.drop (D.length - (sc + 1)))
  | false, sc + 1 => D.take (D.length - (sc + 1)) ++ 46 :: D.drop (D.length - (sc + 1))
structure RightD (D : List UInt8) (sc : Nat) : Prop where
  digs : Digs D
  lt : sc < D.length
  head : D.length = sc + 1 ∨ D.head? ≠ some 48
theorem decParse_pure (neg : Bool) {D : List UInt8} {sc : Nat} (h : RightD D sc) (h2 : D.length ≤ 30) : Pure false 68 [strV (decS neg D sc)] (decV neg D sc) := by
  cases sc with
  | zero =>
    have := dpN neg h.digs (by have := h.lt; omega) h2 (h.head.imp (fun h => by omega) id)
    cases neg <;> exact this
  | succ sc =>
    have hs := h.lt
    have e : D.take (D.length - (sc + 1)) ++ D.drop (D.length - (sc + 1)) = D := List.take_append_drop _ _
    have hW : Digs (D.take (D.length - (sc + 1))) := fun b hb => h.digs b (List.mem_of_mem_take hb)
    have hP : Digs (D.drop (D.length - (sc + 1))) := fun b hb => h.digs b (List.mem_of_mem_drop hb)
    have lW : (D.take (D.length - (sc + 1))).length = D.length - (sc + 1) := by simp
    have lP : (D.drop (D.length - (sc + 1))).length = sc + 1 := by simp; omega
    have := dpP neg hW hP (by rw [lW]; omega) (by rw [lP]; omega) (by rw [lW, lP]; omega) (by rw [e, lW]; exact h.head.imp (fun h => by omega) id)
    rw [e, lP] at this
    cases neg <;> exact this
end Go.Proofs.YtkmbkejmfffafaaGreatDoor.Refl
namespace Go.Proofs.YtkmbkejmfffafaaGreatDoor.Refl
open Go Go.RowKit
set_option linter.unusedVariables false
set_option linter.unusedSimpArgs false
set_option maxRecDepth 1000000
noncomputable def decA (neg : Bool) (D : List UInt8) (sc : Nat) : Value := .agg ⟨[.bool neg, strV D, intV sc]⟩
noncomputable def obS0 (D : List UInt8) : List Bool :=
  [bytesEq D (List.take (((len D).sub 0).sub 0) (List.drop 0 D)), ((len D).sub 0).ble (len D), ((len D).add 0).ble 9223372036854775807]
noncomputable def obS1 (D W P : List UInt8) (sc : Nat) : List Bool :=
  [((len W).add (len (app [46] P))).ble 1099511627776,
   ((len [46]).add (len P)).ble 1099511627776,
   bytesEq P (List.take ((len D).sub ((len D).sub sc)) (List.drop ((len D).sub sc) D)),
   ((len D).sub sc).ble (len D),
   (len D).ble (len D),
   beqB (Nat.beq 1 1) (sc.ble (len D)),
   ((len D).add sc).ble 9223372036854775807,
   beqB (Nat.beq 1 1) (iLt 0 (Int.ofNat sc)),
   bytesEq W (List.take (((len D).sub sc).sub 0) (List.drop 0 D)),
   ((len D).sub sc).ble (len D),
   beqB (Nat.beq 1 1) (sc.ble (len D)),
   ((len D).add sc).ble 9223372036854775807]
theorem runSA (D : List UInt8) : lookB (acall (envS [] (Tr.nil.set 1 D)) 200 20 [decA false D 0] (hN (bits [1,2,0,0] 0))) = some (strV D, [], allB (fun b => b) (obS0 D)) := by kernel_rfl
theorem runSB (D : List UInt8) : lookB (acall (envS [] (Tr.nil.set 1 D)) 200 20 [decA true D 0] (hN (bits [1,2,0,1] 0))) = some (strV (app [45] D), [], allB (fun b => b) (((len [45]).add (len D)).ble 1099511627776 :: obS0 D)) := by kernel_rfl
theorem runSC (D W P : List UInt8) (sc : Nat) : lookB (acall (envS [] ((Tr.nil.set 1 W).set 4 P)) 200 20 [decA false D sc] (hN (bits [1,2,1,1,2,0] 0))) = some (strV (app W (app [46] P)), [], allB (fun b => b) (obS1 D W P sc)) := by kernel_rfl
theorem runSD (D W P : List UInt8) (sc : Nat) : lookB (acall (envS [] ((Tr.nil.set 1 W).set 4 P)) 200 20 [decA true D sc] (hN (bits [1,2,1,1,2,1] 0))) = some (strV (app [45] (app W (app [46] P))), [], allB (fun b => b) (((len [45]).add (len (app W (app [46] P)))).ble 1099511627776 :: obS1 D W P sc)) := by kernel_rfl
theorem pure_of_look1 {E : Env} (hE : EnvF Tryz.prog E 12) {n f : Nat} {a r : Value} {orc : List (Nat × Bool)} {ob : List Bool} (h : lookB (acall E n f [a] (hN orc)) = some (r, [], allB (fun b => b) ob)) (ho : ∀ x ∈ ob, x = true) (hfa : flat 5 a = true) (hf : flat 5 r = true) : Pure false f [a] r := by
  obtain ⟨h1, k1, k2, k3⟩ := lookB_some h ((allB_eq _ _).2 ho)
  exact pure_of_run hE k1 k3 k2 (fun v hv => by simp at hv; subst hv; exact hfa) hf
theorem none_ok : ∀ x ∈ ([] : List (Nat × XF)), ExtOK Tryz.prog 12 x.1 x.2 := fun x hx => by cases hx
theorem obS0_ok {D : List UInt8} (h : D.length ≤ 1000) : ∀ x ∈ obS0 D, x = true := by
  have q : bytesEq D (List.take (((len D).sub 0).sub 0) (List.drop 0 D)) = true := by
    rw [bytesEq_eq, len_eq]
    show decide (D = List.take D.length D) = true
    simp
  intro x hx
  unfold obS0 at hx
  simp only [List.mem_cons, List.not_mem_nil, or_false] at hx
  rcases hx with hx | hx | hx
  all_goals (subst hx; first | assumption | (simp [ble_eq, len_eq]; done) | (simp [ble_eq, len_eq]; omega))
theorem obS1_ok {D : List UInt8} {sc : Nat} (h : D.length ≤ 1000) (h0 : 0 < sc) (h1 : sc < D.length) : ∀ x ∈ obS1 D (D.take (D.length - sc)) (D.drop (D.length - sc)) sc, x = true := by
  have q1 : bytesEq (D.drop (D.length - sc)) (List.take ((len D).sub ((len D).sub sc)) (List.drop ((len D).sub sc) D)) = true := by
    rw [bytesEq_eq, len_eq]
    show decide (D.drop (D.length - sc) = List.take (D.length - (D.length - sc)) (List.drop (D.length - sc) D)) = true
    rw [List.take_of_length_le (by simp)]; simp
  have q2 : bytesEq (D.take (D.length - sc)) (List.take (((len D).sub sc).sub 0) (List.drop 0 D)) = true := by
    rw [bytesEq_eq, len_eq]
    exact decide_eq_true rfl
  intro x hx
  unfold obS1 at hx
  simp only [List.mem_cons, List.not_mem_nil, or_false] at hx
  rcases hx with hx | hx | hx | hx | hx | hx | hx | hx | hx | hx | hx | hx
  all_goals (subst hx; first | assumption | (simp [ble_eq, iLt_eq, beqB_eq, bq, len_eq, app_eq]; done) | (simp [ble_eq, iLt_eq, beqB_eq, bq, len_eq, app_eq]; omega))
theorem decString_pure (neg : Bool) {D : List UInt8} {sc : Nat} (h : D.length ≤ 1000) (h1 : sc < D.length) : Pure false 20 [decA neg D sc] (strV (decS neg D sc)) := by
  cases sc with
  | zero =>
    cases neg with
    | false => exact pure_of_look1 (envS_ok none_ok) (runSA D) (obS0_ok h) rfl rfl
    | true =>
      refine pure_of_look1 (envS_ok none_ok) (runSB D) (fun x hx => ?_) rfl rfl
      rcases List.mem_cons.1 hx with rfl | hx
      · simp [ble_eq, len_eq]; omega
      · exact obS0_ok h x hx
  | succ sc =>
    have hs : app (D.take (D.length - (sc + 1))) (app [46] (D.drop (D.length - (sc + 1)))) = D.take (D.length - (sc + 1)) ++ 46 :: D.drop (D.length - (sc + 1)) := by rw [app_eq, app_eq]; rfl
    cases neg with
    | false =>
      have := pure_of_look1 (envS_ok none_ok) (runSC D _ _ (sc + 1)) (obS1_ok h (by omega) h1) rfl rfl
      rw [hs] at this; exact this
    | true =>
      have := pure_of_look1 (envS_ok none_ok) (runSD D (D.take (D.length - (sc + 1))) (D.drop (D.length - (sc + 1))) (sc + 1)) (fun x hx => by
        rcases List.mem_cons.1 hx with rfl | hx
        · simp [ble_eq, len_eq, app_eq]; omega
        · exact obS1_ok h (by omega) h1 x hx) rfl rfl
      rw [hs] at this; exact this
noncomputable def valV (neg : Bool) (D : List UInt8) (sc : Nat) : Value :=
  .agg ⟨[intV 1, strV [], .bool neg, strV D, intV sc, intV 1, intV 0, intV 3, .bool false, .bool false, intV 0, intV 0]⟩
theorem runV (N s D : List UInt8) (neg : Bool) (sc : Nat) : lookB (acall (envS [(68, xTold false 68 [(2, ([strV s], decV neg D sc))])] (Tr.nil.set 1000 [])) 200 44 [.agg ⟨[strV N, intV 1, strV s]⟩] (hN (bits [0,1,2,0] 0))) =
    some (.tuple ⟨[valV neg D sc, .bool true]⟩, [], allB (fun b => b) [pB (Pure false 68 [strV s] (decV neg D sc)), pB ([strV s] = [strV s])]) := by kernel_rfl
theorem value_pure (N : List UInt8) (neg : Bool) {D : List UInt8} {sc : Nat} (h : RightD D sc) (h2 : D.length ≤ 30) : Pure false 44 [.agg ⟨[strV N, intV 1, strV (decS neg D sc)]⟩] (.tuple ⟨[valV neg D sc, .bool true]⟩) := by
  refine pure_of_look1 (envS_ok fun x hx => ?_) (runV N (decS neg D sc) D neg sc) (fun x hx => ?_) rfl rfl
  · simp only [List.mem_cons, List.not_mem_nil, or_false] at hx
    subst hx
    exact xTold_ok false 68 _
  · rcases List.mem_cons.1 hx with rfl | hx
    · exact pB_of (decParse_pure neg h h2)
    · rcases List.mem_cons.1 hx with rfl | hx
      · exact pB_of rfl
      · cases hx
end Go.Proofs.YtkmbkejmfffafaaGreatDoor.Refl
namespace Go.Proofs.YtkmbkejmfffafaaGreatDoor.Refl
open Go Go.RowKit
set_option linter.unusedVariables false
set_option linter.unusedSimpArgs false
set_option maxRecDepth 1000000
noncomputable def numA (D : List UInt8) (v : Nat) (wh : Bool) : Value := .agg ⟨[strV D, intV v, .bool wh]⟩
end Go.Proofs.YtkmbkejmfffafaaGreatDoor.Refl
