/- The second reading of the model's code, part 1 of 13. -/
import Derived.Test.YtkmbkejmfffafaaGreatDoorM0
import Derived.Below
import Derived.Laws.IdiomCopy
import Derived.Laws.LoneSync
set_option linter.unusedSectionVars false
set_option linter.unusedVariables false
set_option linter.unusedSimpArgs false
/- The second reading against the model: how values and memory answer each other. -/
namespace Go.Proofs.YtkmbkejmfffafaaGreatDoor.Refl
open Go
set_option linter.unusedVariables false

/-- Where a block of the second reading lies in the model's memory: its block, the place of its first cell, how many cells the block has, how many an element. -/
structure Im where
  blk : Nat
  sh : Nat
  lim : Nat
  es : Nat
abbrev Ren := Nat → Option Im
def AdR (ρ : Ren) (a a' : Addr) : Prop := a.spot = none ∧ a'.spot = none ∧ ∃ im, ρ a.block = some im ∧ a'.block = im.blk ∧ a'.off = im.sh + a.off

mutual
inductive VR (ρ : Ren) : Value → Value → Prop where
  | bool (b : Bool) : VR ρ (.bool b) (.bool b)
  | int (k : IntKind) (n : Int) : VR ρ (.int k n) (.int k n)
  | string (s : ByteArray) : VR ρ (.string s) (.string s)
  | ptrNil : VR ρ (.pointer none) (.pointer none)
  | ptr {a a' : Addr} (h : AdR ρ a a') : VR ρ (.pointer (some a)) (.pointer (some a'))
  | slNil : VR ρ (.slice none 0 0) (.slice none 0 0)
  | slTight {a a' : Addr} {n c : Nat} (h : AdR ρ a a') (hc : c < LOOSE) (hn : n ≤ c) : VR ρ (.slice (some a) n c) (.slice (some a') n c)
  | slLoose {a a' : Addr} {n c' : Nat} {im : Im} (hs : a.spot = none) (hi : ρ a.block = some im) (hn : n ≤ c')
      (h : (AdR ρ a a' ∧ a'.off + c' * im.es ≤ im.lim) ∨ (n = 0 ∧ c' = 0)) : VR ρ (.slice (some a) n LOOSE) (.slice (some a') n c')
  | mapNil : VR ρ (.map none) (.map none)
  | map {r r' : Nat} {im : Im} (hi : ρ r = some im) (hb : r' = im.blk) : VR ρ (.map (some r)) (.map (some r'))
  | func {f : Nat} {a a' b b' : Array Value} (h1 : LR ρ a.toList a'.toList) (h2 : LR ρ b.toList b'.toList) : VR ρ (.func (.func f) a b) (.func (.func f) a' b')
  | nilFunc : VR ρ .nilFunc .nilFunc
  | iface {t : TypeId} {v v' : Value} (h : VR ρ v v') : VR ρ (.iface t v) (.iface t v')
  | nilIface : VR ρ .nilIface .nilIface
  | agg {cs cs' : Array Value} (h : LR ρ cs.toList cs'.toList) : VR ρ (.agg cs) (.agg cs')
  | tuple {cs cs' : Array Value} (h : LR ρ cs.toList cs'.toList) : VR ρ (.tuple cs) (.tuple cs')
inductive LR (ρ : Ren) : List Value → List Value → Prop where
  | nil : LR ρ [] []
  | cons {v v' : Value} {l l' : List Value} (h : VR ρ v v') (hl : LR ρ l l') : LR ρ (v :: l) (v' :: l')
end

def Ext (ρ ρ' : Ren) : Prop := ∀ b im, ρ b = some im → ρ' b = some im
theorem Ext.refl (ρ : Ren) : Ext ρ ρ := fun _ _ h => h
theorem Ext.trans {a b c : Ren} (h : Ext a b) (k : Ext b c) : Ext a c := fun x im hx => k x im (h x im hx)
theorem AdR.mono {ρ ρ' : Ren} (he : Ext ρ ρ') {a a' : Addr} (h : AdR ρ a a') : AdR ρ' a a' := by
  obtain ⟨h1, h2, im, h3, h4⟩ := h
  exact ⟨h1, h2, im, he _ _ h3, h4⟩
theorem AdR.eq {ρ : Ren} {a a' : Addr} (h : AdR ρ a a') : ∃ im, ρ a.block = some im ∧ a' = ⟨im.blk, im.sh + a.off, none⟩ := by
  obtain ⟨h1, h2, im, h3, h4, h5⟩ := h
  obtain ⟨b, o, s⟩ := a'
  simp at h2 h4 h5
  subst h2; subst h4; subst h5
  exact ⟨im, h3, rfl⟩
mutual
theorem VR.mono {ρ ρ' : Ren} (he : Ext ρ ρ') {v v' : Value} (h : VR ρ v v') : VR ρ' v v' := by
  cases h with
  | bool b => exact .bool b
  | int k n => exact .int k n
  | string s => exact .string s
  | ptrNil => exact .ptrNil
  | ptr h => exact .ptr (h.mono he)
  | slNil => exact .slNil
  | slTight h hc hn => exact .slTight (h.mono he) hc hn
  | slLoose hs hi hn h => exact .slLoose hs (he _ _ hi) hn (h.imp (fun h => ⟨h.1.mono he, h.2⟩) id)
  | mapNil => exact .mapNil
  | map hi hb => exact .map (he _ _ hi) hb
  | func h1 h2 => exact .func (LR.mono he h1) (LR.mono he h2)
  | nilFunc => exact .nilFunc
  | iface h => exact .iface (VR.mono he h)
  | nilIface => exact .nilIface
  | agg h => exact .agg (LR.mono he h)
  | tuple h => exact .tuple (LR.mono he h)
theorem LR.mono {ρ ρ' : Ren} (he : Ext ρ ρ') {l l' : List Value} (h : LR ρ l l') : LR ρ' l l' := by
  cases h with
  | nil => exact .nil
  | cons h hl => exact .cons (VR.mono he h) (LR.mono he hl)
end

section lists
variable {ρ : Ren}
theorem LR.length {l l' : List Value} (h : LR ρ l l') : l.length = l'.length := by
  induction l generalizing l' with
  | nil => cases h; rfl
  | cons v l ih => cases h with | cons h hl => simp [ih hl]
theorem LR.get {l l' : List Value} (h : LR ρ l l') {i : Nat} {v : Value} (hi : l[i]? = some v) : ∃ v', l'[i]? = some v' ∧ VR ρ v v' := by
  induction l generalizing l' i with
  | nil => simp at hi
  | cons x l ih =>
    cases h with
    | cons h hl =>
      cases i with
      | zero => simp at hi; subst hi; exact ⟨_, rfl, h⟩
      | succ i => simpa using ih hl (by simpa using hi)
theorem LR.of_get : ∀ {l l' : List Value}, l.length = l'.length → (∀ (i : Nat) (v : Value), l[i]? = some v → ∃ v', l'[i]? = some v' ∧ VR ρ v v') → LR ρ l l'
  | [], [], _, _ => .nil
  | [], _ :: _, h, _ => by simp at h
  | _ :: _, [], h, _ => by simp at h
  | v :: l, v' :: l', hl, h => by
    refine .cons ?_ (LR.of_get (by simpa using hl) fun i x hx => by simpa using h (i + 1) x (by simpa using hx))
    obtain ⟨y, hy, hr⟩ := h 0 v rfl
    simp at hy; subst hy; exact hr
theorem LR.append {a a' b b' : List Value} (h : LR ρ a a') (k : LR ρ b b') : LR ρ (a ++ b) (a' ++ b') := by
  induction a generalizing a' with
  | nil => cases h; simpa using k
  | cons v l ih => cases h with | cons h hl => exact .cons h (ih hl)
theorem LR.take {a a' : List Value} (h : LR ρ a a') (n : Nat) : LR ρ (a.take n) (a'.take n) := by
  induction a generalizing a' n with
  | nil => cases h; simpa using LR.nil
  | cons v l ih =>
    cases h with
    | cons h hl => cases n with
      | zero => exact .nil
      | succ n => exact .cons h (ih hl n)
theorem LR.drop {a a' : List Value} (h : LR ρ a a') (n : Nat) : LR ρ (a.drop n) (a'.drop n) := by
  induction a generalizing a' n with
  | nil => cases h; simpa using LR.nil
  | cons v l ih =>
    cases h with
    | cons h hl => cases n with
      | zero => exact .cons h hl
      | succ n => exact ih hl n
theorem LR.single {v v' : Value} (h : VR ρ v v') : LR ρ [v] [v'] := .cons h .nil
end lists

/- Values that hold no address. -/
theorem flat_VR (ρ : Ren) : ∀ (n : Nat) (v : Value), flat n v = true → VR ρ v v := by
  intro n
  induction n with
  | zero => intro v h; simp [flat] at h
  | succ n ih =>
    have hl : ∀ (l : List Value), allB (flat n) l = true → LR ρ l l := by
      intro l h
      have := (allB_eq _ _).1 h
      induction l with
      | nil => exact .nil
      | cons v l ih' => exact .cons (ih v (this v (by simp))) (ih' ((allB_eq _ _).2 fun x hx => this x (by simp [hx])) fun x hx => this x (by simp [hx]))
    intro v h
    cases v with
    | bool b => exact .bool b
    | int k m => exact .int k m
    | string s => exact .string s
    | pointer a => cases a with
      | none => exact .ptrNil
      | some a => simp [flat] at h
    | slice a m c => cases a with
      | none =>
        have h' : (match Nat.beq m 0 with | true => Nat.beq c 0 | false => false) = true := h
        rw [bq, bq] at h'
        by_cases hm : m = 0 <;> by_cases hc : c = 0 <;> simp [hm, hc] at h'
        subst hm; subst hc; exact .slNil
      | some a => simp [flat] at h
    | map r => cases r with
      | none => exact .mapNil
      | some r => simp [flat] at h
    | nilFunc => exact .nilFunc
    | nilIface => exact .nilIface
    | iface t v => exact .iface (ih v h)
    | agg cs => exact .agg (hl _ h)
    | tuple cs => exact .tuple (hl _ h)
    | float k b => simp [flat] at h
    | complex k a b => simp [flat] at h
    | chan r => simp [flat] at h
    | func fn a b => simp [flat] at h

/- What the parts of a value tell of its fellow. -/
section parts
variable {ρ : Ren} {v v' : Value}
theorem asPA_some {a : Addr} {p : PA} (h : asPA a = some p) : a = ⟨p.b, p.off, none⟩ := by
  obtain ⟨b, off, s⟩ := a
  cases s <;> simp [asPA] at h
  subst h; rfl
theorem asPtr_some {p : PA} (h : asPtr v = some p) : v = .pointer (some ⟨p.b, p.off, none⟩) := by
  cases v <;> simp [asPtr] at h
  rename_i a
  cases a with
  | none => simp [ptrA] at h
  | some a =>
    have : asPA a = some p := h
    rw [asPA_some this]
theorem asPtr_VR {p : PA} (h : asPtr v = some p) (hr : VR ρ v v') : ∃ im, ρ p.b = some im ∧ v' = .pointer (some ⟨im.blk, im.sh + p.off, none⟩) := by
  rw [asPtr_some h] at hr
  cases hr with
  | ptr h =>
    obtain ⟨im, h3, rfl⟩ := h.eq
    exact ⟨im, h3, rfl⟩
theorem VR.ptr_mk {b off : Nat} {im : Im} (h : ρ b = some im) : VR ρ (ptrV b off) (.pointer (some ⟨im.blk, im.sh + off, none⟩)) := .ptr ⟨rfl, rfl, im, h, rfl, rfl⟩
theorem asInt_some {i : IV} (h : asInt v = some i) : v = .int i.k i.n := by
  cases v <;> simp [asInt] at h
  subst h; rfl
theorem asInt_VR {i : IV} (h : asInt v = some i) (hr : VR ρ v v') : v = .int i.k i.n ∧ v' = .int i.k i.n := by
  have := asInt_some h; subst this
  cases hr; exact ⟨rfl, rfl⟩
theorem asNat_some {n : Nat} (h : asNat v = some n) : ∃ k, v = .int k (n : Int) := by
  cases v <;> simp [asNat] at h
  rename_i k i
  cases i <;> simp [natI] at h
  subst h; exact ⟨k, rfl⟩
theorem asNat_VR {n : Nat} (h : asNat v = some n) (hr : VR ρ v v') : ∃ k, v = .int k (n : Int) ∧ v' = .int k (n : Int) := by
  obtain ⟨k, rfl⟩ := asNat_some h
  cases hr; exact ⟨k, rfl, rfl⟩
theorem asStr_VR {l : List UInt8} (h : asStr v = some l) (hr : VR ρ v v') : ∃ s : ByteArray, v = .string s ∧ v' = .string s ∧ s.data.toList = l := by
  cases v <;> simp [asStr] at h
  cases hr; exact ⟨_, rfl, rfl, h⟩
theorem asBool_VR {b : Bool} (h : asBool v = some b) (hr : VR ρ v v') : v = .bool b ∧ v' = .bool b := by
  cases v <;> simp [asBool] at h
  subst h; cases hr; exact ⟨rfl, rfl⟩
theorem asAgg_VR {l : List Value} (h : asAgg v = some l) (hr : VR ρ v v') : ∃ cs', v' = .agg cs' ∧ LR ρ l cs'.toList := by
  cases v <;> simp [asAgg] at h
  subst h; cases hr with | agg h => exact ⟨_, rfl, h⟩
theorem asTup_VR {l : List Value} (h : asTup v = some l) (hr : VR ρ v v') : ∃ cs', v' = .tuple cs' ∧ LR ρ l cs'.toList := by
  cases v <;> simp [asTup] at h
  subst h; cases hr with | tuple h => exact ⟨_, rfl, h⟩
theorem asMap_VR {r : Option Nat} (h : asMap v = some r) (hr : VR ρ v v') :
    (r = none ∧ v' = .map none) ∨ ∃ b im, r = some b ∧ ρ b = some im ∧ v' = .map (some im.blk) := by
  cases v <;> simp [asMap] at h
  subst h
  cases hr with
  | mapNil => exact .inl ⟨rfl, rfl⟩
  | map hi hb => subst hb; exact .inr ⟨_, _, rfl, hi, rfl⟩
theorem asFunc_VR {q : FV} (h : asFunc v = some q) (hr : VR ρ v v') :
    ∃ a' b' : Array Value, v' = .func (.func q.f) a' b' ∧ LR ρ q.first a'.toList ∧ LR ρ q.captured b'.toList := by
  cases v <;> simp [asFunc] at h
  rename_i fn a b
  cases fn <;> simp [fnFV] at h
  subst h
  cases hr with | func h1 h2 => exact ⟨_, _, rfl, h1, h2⟩
theorem asIface_VR {q : IF} (h : asIface v = some q) (hr : VR ρ v v') : ∃ u', v' = .iface q.t u' ∧ VR ρ q.v u' := by
  cases v <;> simp [asIface] at h
  subst h
  cases hr with | iface h => exact ⟨_, rfl, h⟩
/-- A slice: none; one whose capacity is known; one whose capacity is not. -/
theorem asSl_VR {s : SL} (h : asSl v = some s) (hr : VR ρ v v') :
    (s = ⟨none, 0, 0⟩ ∧ v' = .slice none 0 0) ∨
    (∃ p im, s.a = some p ∧ ρ p.b = some im ∧ s.c < LOOSE ∧ s.n ≤ s.c ∧ v' = .slice (some ⟨im.blk, im.sh + p.off, none⟩) s.n s.c) ∨
    (∃ p im a' c', s.a = some p ∧ ρ p.b = some im ∧ s.c = LOOSE ∧ s.n ≤ c' ∧ v' = .slice (some a') s.n c' ∧ ((a' = ⟨im.blk, im.sh + p.off, none⟩ ∧ im.sh + p.off + c' * im.es ≤ im.lim) ∨ (s.n = 0 ∧ c' = 0))) := by
  cases v <;> simp [asSl] at h
  rename_i a n c
  cases hr with
  | slNil => simp [asSlA] at h; subst h; exact .inl ⟨rfl, rfl⟩
  | slTight h1 hc hn =>
    rename_i a a'
    simp only [asSlA] at h
    cases ha : asPA a with
    | none => rw [ha] at h; simp at h
    | some p =>
      rw [ha] at h; simp at h; subst h
      have := asPA_some ha; subst this
      obtain ⟨_, h2, im, h3, h4, h5⟩ := h1
      obtain ⟨b, o, s⟩ := a'
      simp at h2 h4 h5 h3
      subst h2; subst h4; subst h5
      exact .inr (.inl ⟨p, im, rfl, h3, hc, hn, rfl⟩)
  | slLoose hs hi hn h1 =>
    rename_i a a' c' im
    simp only [asSlA] at h
    cases ha : asPA a with
    | none => rw [ha] at h; simp at h
    | some p =>
      rw [ha] at h; simp at h; subst h
      have := asPA_some ha; subst this
      refine .inr (.inr ⟨p, im, a', c', rfl, hi, rfl, hn, rfl, ?_⟩)
      rcases h1 with ⟨⟨_, h2, im', h3, h4, h5⟩, h6⟩ | h1
      · simp at h3 hi
        rw [hi] at h3
        obtain rfl := Option.some.inj h3
        obtain ⟨b, o, s⟩ := a'
        simp at h2 h4 h5 h6
        subst h2; subst h4; subst h5
        exact .inl ⟨rfl, h6⟩
      · exact .inr h1
theorem scalar_VR (hr : VR ρ v v') (h : scalar v = true) : scalar v' = true := by
  cases hr <;> first | rfl | (simp [scalar] at h)
theorem scalar_oneCell (h : scalar v = true) : v.oneCell' = true := by
  cases v <;> first | rfl | (simp [scalar] at h)
theorem vcells_VR (hr : VR ρ v v') : LR ρ (vcells v) v'.cells.toList := by
  cases hr with
  | agg h => simpa [vcells, asAgg, Value.cells] using h
  | ptr h => simpa [vcells, asAgg, Value.cells] using LR.single (VR.ptr h)
  | slTight h hc hn => simpa [vcells, asAgg, Value.cells] using LR.single (VR.slTight h hc hn)
  | slLoose hs hi hn h => simpa [vcells, asAgg, Value.cells] using LR.single (VR.slLoose hs hi hn h)
  | map hi hb => simpa [vcells, asAgg, Value.cells] using LR.single (VR.map hi hb)
  | func h1 h2 => simpa [vcells, asAgg, Value.cells] using LR.single (VR.func h1 h2)
  | iface h => simpa [vcells, asAgg, Value.cells] using LR.single (VR.iface h)
  | tuple h => simpa [vcells, asAgg, Value.cells] using LR.single (VR.tuple h)
  | bool b => simpa [vcells, asAgg, Value.cells] using LR.single (VR.bool b)
  | int k n => simpa [vcells, asAgg, Value.cells] using LR.single (VR.int k n)
  | string s => simpa [vcells, asAgg, Value.cells] using LR.single (VR.string s)
  | ptrNil => simpa [vcells, asAgg, Value.cells] using LR.single VR.ptrNil
  | slNil => simpa [vcells, asAgg, Value.cells] using LR.single VR.slNil
  | mapNil => simpa [vcells, asAgg, Value.cells] using LR.single VR.mapNil
  | nilFunc => simpa [vcells, asAgg, Value.cells] using LR.single VR.nilFunc
  | nilIface => simpa [vcells, asAgg, Value.cells] using LR.single VR.nilIface
end parts
end Go.Proofs.YtkmbkejmfffafaaGreatDoor.Refl
/- The second reading against the model: memory. -/
namespace Go.Proofs.YtkmbkejmfffafaaGreatDoor.Refl
open Go
set_option linter.unusedVariables false

def FzOK (n lo hi top kd : Nat) : Prop := (∀ j, j < n → lo ≤ j → j < hi → j < top) ∧ (kd ≠ 2 → lo = hi ∨ hi ≤ top)
structure MER (ρ : Ren) (e e' : MapEntry) : Prop where
  key : VR ρ e.key e'.key
  val : VR ρ e.val e'.val
  born : e'.born = e.born
inductive MR (ρ : Ren) : List MapEntry → List MapEntry → Prop where
  | nil : MR ρ [] []
  | cons {e e' : MapEntry} {l l' : List MapEntry} (h : MER ρ e e') (hl : MR ρ l l') : MR ρ (e :: l) (e' :: l')
theorem MR.mono {ρ ρ' : Ren} (he : Ext ρ ρ') {l l' : List MapEntry} (h : MR ρ l l') : MR ρ' l l' := by
  induction h with
  | nil => exact .nil
  | cons h _ ih => exact .cons ⟨h.key.mono he, h.val.mono he, h.born⟩ ih

def RowR (S : Nat → Nat) (ρ : Ren) (w : World) (im : Im) (o : AObj) (e fz kd n : Nat) : Prop :=
  ∃ (cs' : Array Value) (lo hi : Nat), w.heap[im.blk]? = some (.cells cs' e (lo, hi)) ∧
    (∀ (i : Nat) (v : Value), o.cell i = some v → scalar v = true ∧ ∃ v', cs'[im.sh + i]? = some v' ∧ VR ρ v v') ∧
    FzOK cs'.size lo hi (im.sh + fz) kd ∧ im.lim ≤ cs'.size ∧ im.es = S e ∧ (kd = 0 → im.sh = 0 ∧ cs'.size = n ∧ (fz = 0 → lo = hi))
/-- A block of the second reading answers a block of the model's memory. -/
def OR (S : Nat → Nat) (ρ : Ren) (w : World) (im : Im) : AObj → Prop
  | .dead => True
  | .cells cs e fz kd => RowR S ρ w im (.cells cs e fz kd) e fz kd cs.length
  | .bytes l e fz kd => RowR S ρ w im (.bytes l e fz kd) e fz kd l.length
  | .map es clock => ∃ es' : Array MapEntry, w.heap[im.blk]? = some (.map es' clock) ∧ MR ρ es es'.toList
  | .siter s pos => im.sh = 0 ∧ w.heap[im.blk]? = some (.stringIter s pos)

section
variable {S : Nat → Nat} {ρ ρ' : Ren} {w w' : World} {im : Im} {o : AObj}
theorem RowR.mono {e fz kd n : Nat} (he : Ext ρ ρ') (hw : w'.heap[im.blk]? = w.heap[im.blk]?) (h : RowR S ρ w im o e fz kd n) : RowR S ρ' w' im o e fz kd n := by
  obtain ⟨cs', lo, hi, h1, h2, h3⟩ := h
  exact ⟨cs', lo, hi, hw.trans h1, fun i v hv => let ⟨a, v', b, c⟩ := h2 i v hv; ⟨a, v', b, c.mono he⟩, h3⟩
theorem OR.mono (he : Ext ρ ρ') (hw : w'.heap[im.blk]? = w.heap[im.blk]?) (h : OR S ρ w im o) : OR S ρ' w' im o := by
  cases o with
  | dead => trivial
  | cells cs e fz kd => exact RowR.mono he hw h
  | bytes l e fz kd => exact RowR.mono he hw h
  | map es clock => obtain ⟨es', h1, h2⟩ := h; exact ⟨es', hw.trans h1, h2.mono he⟩
  | siter s pos => exact ⟨h.1, hw.trans h.2⟩
theorem OR.lt (h : OR S ρ w im o) (hd : o ≠ .dead) : im.blk < w.heap.size := by
  have : ∃ x, w.heap[im.blk]? = some x := by
    cases o with
    | dead => exact absurd rfl hd
    | cells cs e fz kd => obtain ⟨cs', lo, hi, h1, _⟩ := h; exact ⟨_, h1⟩
    | bytes l e fz kd => obtain ⟨cs', lo, hi, h1, _⟩ := h; exact ⟨_, h1⟩
    | map es clock => obtain ⟨es', h1, h2⟩ := h; exact ⟨_, h1⟩
    | siter s pos => exact ⟨_, h.2⟩
  obtain ⟨x, hx⟩ := this
  exact (Array.getElem?_eq_some_iff.1 hx).1
end

structure Rel (S : Nat → Nat) (ρ : Ren) (h : AH) (w : World) : Prop where
  obj : ∀ b im, ρ b = some im → b < h.n → OR S ρ w im (h.obj b)
  inj : ∀ b b' im im', ρ b = some im → ρ b' = some im' → b < h.n → b' < h.n → h.obj b ≠ .dead → h.obj b' ≠ .dead → im.blk = im'.blk → b = b'
  top : ∀ b, h.n ≤ b → h.obj b = .dead
def Fr (ρ : Ren) (a b : Nat) : Prop := ∀ x, a ≤ x → x < b → ρ x = none
structure Str (w w' : World) : Prop where
  os : w'.os = w.os
  tape : w'.tape = w.tape
  output : w'.output = w.output
theorem Str.refl (w : World) : Str w w := ⟨rfl, rfl, rfl⟩
theorem Str.trans {a b c : World} (h : Str a b) (k : Str b c) : Str a c := ⟨k.os.trans h.os, k.tape.trans h.tape, k.output.trans h.output⟩

structure Step (S : Nat → Nat) (ρ : Ren) (h : AH) (w : World) (ρ' : Ren) (h' : AH) (w' : World) : Prop where
  ext : Ext ρ ρ'
  dom : ∀ b im, ρ' b = some im → ρ b = none → h.n ≤ b ∧ b < h'.n
  rel : Rel S ρ' h' w'
  size : w.heap.size ≤ w'.heap.size
  n_le : h.n ≤ h'.n
  str : Str w w'
  frame : ∀ c, c < w.heap.size → w'.heap[c]? = w.heap[c]? ∨ ∃ b im, b ∈ h'.log ∧ b < h.n ∧ ρ b = some im ∧ im.blk = c
  fresh : ∀ b im, ρ' b = some im → ρ b = none → w.heap.size ≤ im.blk ∨ ∃ b0 im0, b0 ∈ h'.log ∧ b0 < h.n ∧ ρ b0 = some im0 ∧ im0.blk = im.blk
  keep : ∀ b, b < h.n → b ∉ h'.log → h'.obj b = h.obj b
  logm : ∀ b, b ∈ h.log → b ∈ h'.log
  wrote : ∀ b, b ∈ h'.log → b ∈ h.log ∨ h.n ≤ b ∨ ((∃ im, ρ b = some im) ∧ h.obj b ≠ .dead)

section
variable {S : Nat → Nat} {ρ ρ' ρ'' : Ren} {h h' h'' : AH} {w w' w'' : World}
theorem Fr.next (hf : Fr ρ h.n h''.n) (s : Step S ρ h w ρ' h' w') : Fr ρ' h'.n h''.n := by
  intro x hx hx'
  cases hr : ρ' x with
  | none => rfl
  | some im =>
    have h0 := hf x (Nat.le_trans s.n_le hx) hx'
    have := s.dom x im hr h0
    omega
theorem Fr.sub {a b c d : Nat} (hf : Fr ρ a d) (hb : a ≤ b) (hc : c ≤ d) : Fr ρ b c := fun x h1 h2 => hf x (by omega) (by omega)
theorem Step.trans (hf : Fr ρ h.n h''.n) (s : Step S ρ h w ρ' h' w') (k : Step S ρ' h' w' ρ'' h'' w'') : Step S ρ h w ρ'' h'' w'' where
  ext := s.ext.trans k.ext
  dom := fun b im hb h0 => by
    cases h1 : ρ' b with
    | none => have := k.dom b im hb h1; have := s.n_le; omega
    | some im1 => have := s.dom b im1 h1 h0; have := k.n_le; omega
  rel := k.rel
  size := Nat.le_trans s.size k.size
  n_le := Nat.le_trans s.n_le k.n_le
  str := s.str.trans k.str
  frame := fun c hc => by
    rcases s.frame c hc with h1 | ⟨b, im, hb, hr⟩
    · rcases k.frame c (Nat.lt_of_lt_of_le hc s.size) with h2 | ⟨b, im, hb, hn, hr, hi⟩
      · exact .inl (h2.trans h1)
      · cases h0 : ρ b with
        | some im0 =>
          obtain rfl := Option.some.inj ((s.ext _ _ h0).symm.trans hr)
          refine .inr ⟨b, im0, hb, ?_, h0, hi⟩
          rcases Nat.lt_or_ge b h.n with h3 | h3
          · exact h3
          · have := hf b h3 (Nat.lt_of_lt_of_le hn k.n_le); rw [h0] at this; cases this
        | none =>
          rcases s.fresh b im hr h0 with h3 | ⟨b0, im0, h3, h4, h5, h6⟩
          · omega
          · exact .inr ⟨b0, im0, k.logm _ h3, h4, h5, h6.trans hi⟩
    · exact .inr ⟨b, im, k.logm _ hb, hr⟩
  fresh := fun b im hb h0 => by
    cases h1 : ρ' b with
    | some im1 =>
      obtain rfl := Option.some.inj ((k.ext _ _ h1).symm.trans hb)
      rcases s.fresh b im1 h1 h0 with h3 | ⟨b0, im0, h3, h4⟩
      · exact .inl h3
      · exact .inr ⟨b0, im0, k.logm _ h3, h4⟩
    | none =>
      rcases k.fresh b im hb h1 with h3 | ⟨b0, im0, h3, h4, h5, h6⟩
      · exact .inl (Nat.le_trans s.size h3)
      · cases h7 : ρ b0 with
        | some im1 =>
          obtain rfl := Option.some.inj ((s.ext _ _ h7).symm.trans h5)
          refine .inr ⟨b0, im1, h3, ?_, h7, h6⟩
          rcases Nat.lt_or_ge b0 h.n with h8 | h8
          · exact h8
          · have := hf b0 h8 (Nat.lt_of_lt_of_le h4 k.n_le); rw [h7] at this; cases this
        | none =>
          rcases s.fresh b0 im0 h5 h7 with h8 | ⟨b1, im1, h8, h9, h10, h11⟩
          · exact .inl (h6 ▸ h8)
          · exact .inr ⟨b1, im1, k.logm _ h8, h9, h10, h11.trans h6⟩
  keep := fun b hb hl => (k.keep b (Nat.lt_of_lt_of_le hb s.n_le) hl).trans (s.keep b hb fun hx => hl (k.logm _ hx))
  logm := fun b hb => k.logm _ (s.logm _ hb)
  wrote := fun b hb => by
    by_cases hl : b ∈ h'.log
    · exact s.wrote b hl
    · rcases k.wrote b hb with h1 | h1 | ⟨⟨im, h1⟩, h2⟩
      · exact absurd h1 hl
      · exact .inr (.inl (Nat.le_trans s.n_le h1))
      · cases h0 : ρ b with
        | none => exact .inr (.inl (s.dom b im h1 h0).1)
        | some im0 =>
          rcases Nat.lt_or_ge b h.n with h3 | h3
          · exact .inr (.inr ⟨⟨im0, rfl⟩, by rw [← s.keep b h3 hl]; exact h2⟩)
          · exact .inr (.inl h3)

theorem AH.obj_def (h : AH) (b : Nat) : h.obj b = if b < h.n then objIn h.t b else .dead := by
  obtain ⟨t, n, log, sym, cnt, orc, ob⟩ := h
  show (match Nat.blt b n with | true => objIn t b | false => AObj.dead) = _
  rw [blt_eq]
  by_cases hb : b < n <;> simp [hb]
theorem AH.obj_top (h : AH) {b : Nat} (hb : h.n ≤ b) : h.obj b = .dead := by rw [AH.obj_def, if_neg (by omega)]
theorem AH.obj_eq (ht : h'.t = h.t) (hn : h'.n = h.n) (b : Nat) : h'.obj b = h.obj b := by rw [AH.obj_def, AH.obj_def, ht, hn]
theorem objIn_set (t : Tr AObj) (k b : Nat) (o : AObj) : objIn (t.set k o) b = if b = k then o else objIn t b := by
  unfold objIn
  rw [Tr.get_set]
  by_cases h : b = k <;> simp [h]
theorem Rel.congr (r : Rel S ρ h w) (ht : h'.t = h.t) (hn : h'.n = h.n) (hw : w'.heap = w.heap) : Rel S ρ h' w' where
  obj := fun b im hb hl => by rw [AH.obj_eq ht hn]; exact (r.obj b im hb (hn ▸ hl)).mono (Ext.refl _) (by rw [hw])
  inj := fun b b' im im' h1 h2 h3 h4 h5 h6 => by rw [AH.obj_eq ht hn] at h5 h6; exact r.inj b b' im im' h1 h2 (hn ▸ h3) (hn ▸ h4) h5 h6
  top := fun b hb => by rw [AH.obj_eq ht hn]; exact r.top b (hn ▸ hb)
/-- Nothing but draws, and what is owed. -/
theorem Step.same (r : Rel S ρ h w) (ht : h'.t = h.t) (hn : h'.n = h.n) (hl : h'.log = h.log) (hw : w'.heap = w.heap) (hs : Str w w') : Step S ρ h w ρ h' w' where
  ext := Ext.refl _
  dom := fun b im h1 h2 => by rw [h1] at h2; cases h2
  rel := r.congr ht hn hw
  size := by rw [hw]; exact Nat.le_refl _
  n_le := by rw [hn]; exact Nat.le_refl _
  str := hs
  frame := fun c _ => .inl (by rw [hw])
  fresh := fun b im h1 h2 => by rw [h1] at h2; cases h2
  keep := fun b _ _ => AH.obj_eq ht hn b
  logm := fun b hb => by rw [hl]; exact hb
  wrote := fun b hb => .inl (by rw [← hl]; exact hb)
theorem Step.refl (r : Rel S ρ h w) : Step S ρ h w ρ h w := .same r rfl rfl rfl rfl (Str.refl _)

def upd (ρ : Ren) (b : Nat) (im : Im) : Ren := fun x => if x = b then some im else ρ x
theorem upd_same (ρ : Ren) (b : Nat) (im : Im) : upd ρ b im b = some im := by simp [upd]
theorem upd_other {b x : Nat} {im : Im} (hx : x ≠ b) : upd ρ b im x = ρ x := by simp [upd, hx]
theorem Ext.upd {b : Nat} {im : Im} (h0 : ρ b = none) : Ext ρ (upd ρ b im) := fun x i hx => by
  have : x ≠ b := fun e => by rw [e, h0] at hx; cases hx
  rw [upd_other this]; exact hx

theorem alloc_n (h : AH) (o : AObj) : (h.alloc o).n = h.n + 1 := rfl
theorem alloc_log (h : AH) (o : AObj) : (h.alloc o).log = h.log := rfl
theorem alloc_t (h : AH) (o : AObj) : (h.alloc o).t = h.t.set h.n o := rfl
theorem alloc_obj_new (h : AH) (o : AObj) : (h.alloc o).obj h.n = o := by simp [AH.obj_def, alloc_t, alloc_n, objIn_set]
theorem alloc_obj_old (h : AH) (o : AObj) {b : Nat} (hb : b ≠ h.n) : (h.alloc o).obj b = h.obj b := by
  rw [AH.obj_def, AH.obj_def, alloc_t, alloc_n, objIn_set, if_neg hb]
  by_cases h1 : b < h.n
  · rw [if_pos h1, if_pos (by omega)]
  · rw [if_neg h1, if_neg (by omega)]
theorem write_n (h : AH) (b : Nat) (o : AObj) : (h.write b o).n = h.n := rfl
theorem write_t (h : AH) (b : Nat) (o : AObj) : (h.write b o).t = h.t.set b o := rfl
theorem write_log (h : AH) (b : Nat) (o : AObj) : (h.write b o).log = addLog b h.log := rfl
theorem write_obj_same (h : AH) (o : AObj) {b : Nat} (hb : b < h.n) : (h.write b o).obj b = o := by simp [AH.obj_def, write_t, write_n, objIn_set, hb]
theorem write_dead (h : AH) (b : Nat) : (h.write b .dead).obj b = .dead := by
  rw [AH.obj_def, write_t, objIn_set]
  simp
theorem write_obj_other (h : AH) (o : AObj) {b x : Nat} (hx : x ≠ b) : (h.write b o).obj x = h.obj x := by simp [AH.obj_def, write_t, write_n, objIn_set, hx]

theorem heap_push_old {w : World} {x : Obj} {c : Nat} (hw : w'.heap = w.heap.push x) (hc : c < w.heap.size) : w'.heap[c]? = w.heap[c]? := by
  rw [hw, Array.getElem?_push, if_neg (by omega)]
/-- A new block. -/
theorem Step.alloc {o : AObj} {x : Obj} {im : Im} (r : Rel S ρ h w) (h0 : ρ h.n = none) (hw : w'.heap = w.heap.push x) (hs : Str w w') (hb : im.blk = w.heap.size)
    (ho : OR S (upd ρ h.n im) w' im o) : Step S ρ h w (upd ρ h.n im) (h.alloc o) w' where
  ext := Ext.upd h0
  dom := fun b i h1 h2 => by
    by_cases hx : b = h.n
    · subst hx; rw [alloc_n]; omega
    · rw [upd_other hx, h2] at h1; cases h1
  rel := {
    obj := fun b i h1 h2 => by
      by_cases hx : b = h.n
      · subst hx; rw [upd_same] at h1; cases h1; rw [alloc_obj_new]; exact ho
      · rw [upd_other hx] at h1
        have hl : b < h.n := by rw [alloc_n] at h2; omega
        rw [alloc_obj_old h o hx]
        by_cases hd : h.obj b = .dead
        · rw [hd]; trivial
        · exact (r.obj b i h1 hl).mono (Ext.upd h0) (heap_push_old hw ((r.obj b i h1 hl).lt hd))
    inj := fun b b' i i' h1 h2 h3 h4 h5 h6 h7 => by
      rw [alloc_n] at h3 h4
      by_cases hx : b = h.n <;> by_cases hx' : b' = h.n
      · rw [hx, hx']
      · subst hx
        rw [upd_same] at h1; cases h1
        rw [upd_other hx'] at h2; rw [alloc_obj_old h o hx'] at h6
        have := (r.obj b' i' h2 (by omega)).lt h6
        omega
      · subst hx'
        rw [upd_same] at h2; cases h2
        rw [upd_other hx] at h1; rw [alloc_obj_old h o hx] at h5
        have := (r.obj b i h1 (by omega)).lt h5
        omega
      · rw [upd_other hx] at h1; rw [upd_other hx'] at h2; rw [alloc_obj_old h o hx] at h5; rw [alloc_obj_old h o hx'] at h6
        exact r.inj b b' i i' h1 h2 (by omega) (by omega) h5 h6 h7
    top := fun b hb => by rw [alloc_n] at hb; rw [alloc_obj_old h o (by omega)]; exact r.top b (by omega) }
  size := by rw [hw]; simp
  n_le := by rw [alloc_n]; omega
  str := hs
  frame := fun c hc => .inl (heap_push_old hw hc)
  fresh := fun b i h1 h2 => by
    by_cases hx : b = h.n
    · subst hx; rw [upd_same] at h1; cases h1; exact .inl (by omega)
    · rw [upd_other hx, h2] at h1; cases h1
  keep := fun b hb _ => alloc_obj_old h o (by omega)
  logm := fun b hb => hb
  wrote := fun b hb => .inl hb
/-- A block is written. -/
theorem Step.write {b : Nat} {o : AObj} {im : Im} (r : Rel S ρ h w) (hb : ρ b = some im) (hn : b < h.n) (hl : h.obj b ≠ .dead) (hz : w'.heap.size = w.heap.size)
    (hw : ∀ c, c ≠ im.blk → w'.heap[c]? = w.heap[c]?) (hs : Str w w') (ho : OR S ρ w' im o) : Step S ρ h w ρ (h.write b o) w' where
  ext := Ext.refl _
  dom := fun b im h1 h2 => by rw [h1] at h2; cases h2
  rel := {
    obj := fun x i h1 h2 => by
      rw [write_n] at h2
      by_cases hx : x = b
      · subst hx; rw [hb] at h1; cases h1; rw [write_obj_same h o hn]; exact ho
      · rw [write_obj_other h o hx]
        by_cases hd : h.obj x = .dead
        · rw [hd]; trivial
        · exact (r.obj x i h1 h2).mono (Ext.refl _) (hw _ fun e => hx (r.inj x b i im h1 hb h2 hn hd hl e))
    inj := fun x y i j h1 h2 h3 h4 h5 h6 h7 => by
      rw [write_n] at h3 h4
      by_cases hx : x = b <;> by_cases hy : y = b
      · rw [hx, hy]
      · subst hx; rw [write_obj_other h o hy] at h6; exact r.inj x y i j h1 h2 h3 h4 hl h6 h7
      · subst hy; rw [write_obj_other h o hx] at h5; exact r.inj x y i j h1 h2 h3 h4 h5 hl h7
      · rw [write_obj_other h o hx] at h5; rw [write_obj_other h o hy] at h6; exact r.inj x y i j h1 h2 h3 h4 h5 h6 h7
    top := fun x hx => by rw [write_n] at hx; rw [write_obj_other h o (by omega)]; exact r.top x hx }
  size := by rw [hz]; exact Nat.le_refl _
  n_le := Nat.le_refl _
  str := hs
  frame := fun c _ => by
    by_cases hc : c = im.blk
    · exact .inr ⟨b, im, by rw [write_log, mem_addLog]; exact .inl rfl, hn, hb, hc.symm⟩
    · exact .inl (hw c hc)
  fresh := fun b im h1 h2 => by rw [h1] at h2; cases h2
  keep := fun x hx hxl => by
    rw [write_log, mem_addLog] at hxl
    exact write_obj_other h o fun e => hxl (.inl e)
  logm := fun x hx => by rw [write_log, mem_addLog]; exact .inr hx
  wrote := fun x hx => by
    rw [write_log, mem_addLog] at hx
    rcases hx with rfl | hx
    · exact .inr (.inr ⟨⟨im, hb⟩, hl⟩)
    · exact .inl hx
/-- A block's row goes on under a new name: the old name is dead. -/
theorem Step.moved {b : Nat} {o : AObj} {im im' : Im} (r : Rel S ρ h w) (hb : ρ b = some im) (hn : b < h.n) (hl : h.obj b ≠ .dead) (h0 : ρ h.n = none) (hz : w'.heap.size = w.heap.size)
    (hw : ∀ c, c ≠ im.blk → w'.heap[c]? = w.heap[c]?) (hs : Str w w') (he : im'.blk = im.blk) (ho : OR S (upd ρ h.n im') w' im' o) : Step S ρ h w (upd ρ h.n im') ((h.write b .dead).alloc o) w' where
  ext := Ext.upd h0
  dom := fun x i h1 h2 => by
    by_cases hx : x = h.n
    · subst hx; rw [alloc_n, write_n]; omega
    · rw [upd_other hx, h2] at h1; cases h1
  rel := {
    obj := fun x i h1 h2 => by
      rw [alloc_n, write_n] at h2
      by_cases hx : x = h.n
      · subst hx; rw [upd_same] at h1; cases h1
        rw [show ((h.write b .dead).alloc o).obj h.n = o from alloc_obj_new (h.write b .dead) o]; exact ho
      · rw [upd_other hx] at h1
        rw [alloc_obj_old (h.write b .dead) o hx]
        by_cases hxb : x = b
        · subst hxb; rw [write_dead]; trivial
        · rw [write_obj_other h _ hxb]
          by_cases hd : h.obj x = .dead
          · rw [hd]; trivial
          · exact (r.obj x i h1 (by omega)).mono (Ext.upd h0) (hw _ fun e => hxb (r.inj x b i im h1 hb (by omega) hn hd hl e))
    inj := fun x y i j h1 h2 h3 h4 h5 h6 h7 => by
      rw [alloc_n, write_n] at h3 h4
      have key : ∀ (z : Nat) (k : Im), ρ z = some k → z ≠ h.n → z < h.n + 1 → ((h.write b .dead).alloc o).obj z ≠ .dead → z ≠ b ∧ h.obj z ≠ .dead := by
        intro z k hk hz' hlt hd
        rw [alloc_obj_old (h.write b .dead) o hz'] at hd
        have hzb : z ≠ b := fun e => hd (by rw [e, write_dead])
        rw [write_obj_other h _ hzb] at hd
        exact ⟨hzb, hd⟩
      by_cases hx : x = h.n <;> by_cases hy : y = h.n
      · rw [hx, hy]
      · subst hx
        rw [upd_same] at h1; cases h1
        rw [upd_other hy] at h2
        obtain ⟨k1, k2⟩ := key y j h2 hy h4 h6
        exact absurd (r.inj y b j im h2 hb (by omega) hn k2 hl (by omega)) k1
      · subst hy
        rw [upd_same] at h2; cases h2
        rw [upd_other hx] at h1
        obtain ⟨k1, k2⟩ := key x i h1 hx h3 h5
        exact absurd (r.inj x b i im h1 hb (by omega) hn k2 hl (by omega)) k1
      · rw [upd_other hx] at h1; rw [upd_other hy] at h2
        exact r.inj x y i j h1 h2 (by omega) (by omega) (key x i h1 hx h3 h5).2 (key y j h2 hy h4 h6).2 h7
    top := fun x hx => by rw [alloc_n, write_n] at hx; rw [alloc_obj_old (h.write b .dead) o (by rw [write_n]; omega), write_obj_other h _ (by omega)]; exact r.top x (by omega) }
  size := by rw [hz]; exact Nat.le_refl _
  n_le := by rw [alloc_n, write_n]; omega
  str := hs
  frame := fun c _ => by
    by_cases hc : c = im.blk
    · exact .inr ⟨b, im, by rw [alloc_log, write_log, mem_addLog]; exact .inl rfl, hn, hb, hc.symm⟩
    · exact .inl (hw c hc)
  fresh := fun x i h1 h2 => by
    by_cases hx : x = h.n
    · subst hx; rw [upd_same] at h1; cases h1
      exact .inr ⟨b, im, by rw [alloc_log, write_log, mem_addLog]; exact .inl rfl, hn, hb, he.symm⟩
    · rw [upd_other hx, h2] at h1; cases h1
  keep := fun x hx hxl => by
    rw [alloc_log, write_log, mem_addLog] at hxl
    rw [alloc_obj_old (h.write b .dead) o (by rw [write_n]; omega), write_obj_other h _ fun e => hxl (.inl e)]
  logm := fun x hx => by rw [alloc_log, write_log, mem_addLog]; exact .inr hx
  wrote := fun x hx => by
    rw [alloc_log, write_log, mem_addLog] at hx
    rcases hx with rfl | hx
    · exact .inr (.inr ⟨⟨im, hb⟩, hl⟩)
    · exact .inl hx
/-- A name dies. -/
theorem Step.kill {b : Nat} {im : Im} (r : Rel S ρ h w) (hb : ρ b = some im) (hn : b < h.n) (hl : h.obj b ≠ .dead) : Step S ρ h w ρ (h.write b .dead) w :=
  .write r hb hn hl rfl (fun _ _ => rfl) (Str.refl _) trivial
end
end Go.Proofs.YtkmbkejmfffafaaGreatDoor.Refl
/- The second reading against the model: types, cells, loads and stores. -/
namespace Go.Proofs.YtkmbkejmfffafaaGreatDoor.Refl
open Go
set_option linter.unusedVariables false

def OB (h : AH) : Prop := ∀ b ∈ h.ob, b = true
/-- The model's reckoning comes to a value that answers. -/
def Did (P : Program) (s : Sem Value) (ρ : Ren) (h : AH) (w : World) (r : Value) (h1 : AH) : Prop :=
  ∃ ρ' r' w', s.run P w = .ok r' w' ∧ VR ρ' r r' ∧ Step P.cellsOf ρ h w ρ' h1 w'
theorem Did.same {P : Program} {s : Sem Value} {ρ : Ren} {h : AH} {w : World} {r r' : Value} (hr : Rel P.cellsOf ρ h w) (hs : s.run P w = .ok r' w) (hv : VR ρ r r') : Did P s ρ h w r h :=
  ⟨ρ, r', w, hs, hv, .refl hr⟩

/-- Each byte type has one cell. -/
noncomputable def okSizes (P : Program) : Bool := allB (fun (i : TypeInfo) => match u8Of (descOf P i) with
  | true => Nat.beq i.size 1
  | false => true) P.types.toList
structure EnvT (P : Program) (E : Env) : Prop where
  ty : ∀ t ti, E.ty.get t = some ti → ∃ info, P.types[t]? = some info ∧ ti = tiOf P info
  types : okTypes P = true
  zeros : okZeros P = true
  sizes : okSizes P = true

/-- What is known of a type that the table has. -/
structure TA (P : Program) (t : TypeId) (ti : TI) (info : TypeInfo) : Prop where
  hi : P.info? t = some info
  hu : P.underlying t = some (descOf P info)
  hd : okDesc P.types.size (descOf P info) = true
  e : ti = tiOf P info
  hz : ∀ z, info.zero = some z → flat 5 z = true ∧ (vcells z).length = info.size
  u8 : u8Of (descOf P info) = true → info.size = 1
theorem info_of_lt {P : Program} {t : TypeId} {info : TypeInfo} (h : P.types[t]? = some info) : P.info? t = some info := by
  have hl : t < P.types.size := (Array.getElem?_eq_some_iff.1 h).1
  unfold Tables.info?
  rw [if_pos hl]; exact h
theorem okType_at {P : Program} (ht : okTypes P = true) {t : TypeId} {info : TypeInfo} (h : P.types[t]? = some info) :
    P.underlying t = some (descOf P info) ∧ okDesc P.types.size (descOf P info) = true := by
  have hi := info_of_lt h
  have hm : info ∈ P.types.toList := by
    obtain ⟨hl, rfl⟩ := Array.getElem?_eq_some_iff.1 h
    exact Array.getElem_mem_toList hl
  have := (allB_eq _ _).1 ht info hm
  cases hd : okDesc P.types.size info.desc with
  | false => simp [hd] at this
  | true =>
    simp only [hd] at this
    unfold Program.underlying descOf
    rw [hi]
    obtain ⟨desc, str, size, bytes, hp, al, fa, zero, cmp, ms⟩ := info
    cases desc with
    | named n v =>
      simp only at this ⊢
      cases hv : P.info? v with
      | none => rw [hv] at this; simp at this
      | some j =>
        rw [hv] at this
        simp only at this ⊢
        obtain ⟨desc2, r⟩ := j
        cases desc2 <;> first | (simp at this; done) | exact ⟨rfl, this⟩
    | _ => exact ⟨rfl, hd⟩
theorem EnvT.at {P : Program} {E : Env} (hE : EnvT P E) {t : TypeId} {ti : TI} (h : E.ty.get t = some ti) : ∃ info, TA P t ti info := by
  obtain ⟨info, h1, h2⟩ := hE.ty t ti h
  obtain ⟨h3, h4⟩ := okType_at hE.types h1
  have hm : info ∈ P.types.toList := by
    obtain ⟨hl, rfl⟩ := Array.getElem?_eq_some_iff.1 h1
    exact Array.getElem_mem_toList hl
  refine ⟨info, info_of_lt h1, h3, h4, h2, fun z hz => ?_, fun hu => ?_⟩
  rotate_left
  · have := (allB_eq _ _).1 hE.sizes info hm
    simpa [hu, bq] using this
  have := (allB_eq _ _).1 hE.zeros info hm
  simp only [hz] at this
  cases hf : flat 5 z with
  | false => rw [hf] at this; simp at this
  | true =>
    rw [hf] at this
    simp only [bq, decide_eq_true_eq, len_eq] at this
    exact ⟨rfl, this⟩

section ta
variable {P : Program} {t : TypeId} {ti : TI} {info : TypeInfo} (T : TA P t ti info) (w : World)
include T
theorem TA.run_u : (underlying t).run P w = .ok (descOf P info) w := run_underlying T.hu w
theorem TA.run_ti : (typeInfo t).run P w = .ok info w := by simp [typeInfo, T.hi]
theorem TA.size : ti.size = info.size := by rw [T.e]; rfl
theorem TA.bytes : ti.bytes = info.bytes := by rw [T.e]; rfl
theorem TA.zero : ti.zero = info.zero := by rw [T.e]; rfl
theorem TA.run_size : (sizeOf t).run P w = .ok ti.size w := by simp [sizeOf, T.run_ti, T.size]
theorem TA.cells : P.cellsOf t = ti.size := by simp [Program.cellsOf, T.hi, T.size]
theorem TA.run_agg : (isAgg t).run P w = .ok ti.agg w := by
  rw [T.e]
  simp only [isAgg, Sem.run_bind, T.run_u, Result.andThen_ok]
  show _ = Result.ok (aggOf (descOf P info)) w
  cases descOf P info <;> rfl
theorem TA.run_zero {z : Value} (hz : ti.zero = some z) : (zeroValue t).run P w = .ok z w := by
  rw [T.zero] at hz
  simp [zeroValue, T.run_ti, hz]
theorem TA.flat {z : Value} (hz : ti.zero = some z) : Refl.flat 5 z = true := (T.hz z (T.zero ▸ hz)).1
theorem TA.zlen {z : Value} (hz : ti.zero = some z) : (vcells z).length = ti.size := by rw [T.size]; exact (T.hz z (T.zero ▸ hz)).2
theorem TA.kd : ti.kd = kdOf (descOf P info) := by rw [T.e]; rfl
theorem TA.el : ti.el = elOf (descOf P info) := by rw [T.e]; rfl
theorem TA.ln : ti.ln = lnOf (descOf P info) := by rw [T.e]; rfl
theorem TA.ky : ti.ky = kyOf (descOf P info) := by rw [T.e]; rfl
theorem TA.isSlice (h : Nat.beq ti.kd 5 = true) : descOf P info = .slice ti.el := by
  rw [bq, decide_eq_true_eq, T.kd] at h; rw [T.el]
  cases hd : descOf P info <;> rw [hd] at h <;> simp [kdOf] at h <;> rfl
theorem TA.isString (h : Nat.beq ti.kd 3 = true) : descOf P info = .string := by
  rw [bq, decide_eq_true_eq, T.kd] at h
  cases hd : descOf P info <;> rw [hd] at h <;> simp [kdOf] at h <;> rfl
theorem TA.isBool (h : Nat.beq ti.kd 1 = true) : descOf P info = .bool := by
  rw [bq, decide_eq_true_eq, T.kd] at h
  cases hd : descOf P info <;> rw [hd] at h <;> simp [kdOf] at h <;> rfl
theorem TA.isInt (h : Nat.beq ti.kd 2 = true) : descOf P info = .int ti.ik := by
  have hk : ti.ik = ikOf (descOf P info) := by rw [T.e]; rfl
  rw [bq, decide_eq_true_eq, T.kd] at h; rw [hk]
  cases hd : descOf P info <;> rw [hd] at h <;> simp [kdOf] at h <;> rfl
theorem TA.isPointer (h : Nat.beq ti.kd 4 = true) : descOf P info = .pointer ti.el := by
  rw [bq, decide_eq_true_eq, T.kd] at h; rw [T.el]
  cases hd : descOf P info <;> rw [hd] at h <;> simp [kdOf] at h <;> rfl
theorem TA.isArray (h : Nat.beq ti.kd 6 = true) : descOf P info = .array ti.ln ti.el := by
  rw [bq, decide_eq_true_eq, T.kd] at h; rw [T.el, T.ln]
  cases hd : descOf P info <;> rw [hd] at h <;> simp [kdOf] at h <;> rfl
theorem TA.isMap (h : Nat.beq ti.kd 7 = true) : descOf P info = .map ti.ky ti.el := by
  rw [bq, decide_eq_true_eq, T.kd] at h; rw [T.el, T.ky]
  cases hd : descOf P info <;> rw [hd] at h <;> simp [kdOf] at h <;> rfl
theorem TA.isStruct (h : Nat.beq ti.kd 8 = true) : ∃ fs, descOf P info = .struct fs := by
  rw [bq, decide_eq_true_eq, T.kd] at h
  cases hd : descOf P info <;> rw [hd] at h <;> simp [kdOf] at h <;> exact ⟨_, rfl⟩
theorem TA.isFunc (h : Nat.beq ti.kd 9 = true) : ∃ a b c, descOf P info = .func a b c := by
  rw [bq, decide_eq_true_eq, T.kd] at h
  cases hd : descOf P info <;> rw [hd] at h <;> simp [kdOf] at h <;> exact ⟨_, _, _, rfl⟩
theorem TA.isIface (h : Nat.beq ti.kd 10 = true) : ∃ a, descOf P info = .interface a := by
  rw [bq, decide_eq_true_eq, T.kd] at h
  cases hd : descOf P info <;> rw [hd] at h <;> simp [kdOf] at h <;> exact ⟨_, rfl⟩
theorem TA.isUnsafe (h : Nat.beq ti.kd 11 = true) : descOf P info = .unsafePointer := by
  rw [bq, decide_eq_true_eq, T.kd] at h
  cases hd : descOf P info <;> rw [hd] at h <;> simp [kdOf] at h <;> rfl
theorem TA.isU8 (h : ti.u8 = true) : descOf P info = .int .u8 := by
  have hk : ti.u8 = u8Of (descOf P info) := by rw [T.e]; rfl
  rw [hk] at h
  cases hd : descOf P info <;> rw [hd] at h <;> simp [u8Of] at h
  rename_i k
  cases k <;> simp [kEq] at h <;> rfl
/-- A field of a struct. -/
theorem TA.field {i : Nat} {f : FI} (h : nth ti.fs i = some f) : ∃ (fs : Array Field) (fd : Field), descOf P info = .struct fs ∧ fs[i]? = some fd ∧ f = fiOf P fd ∧ fd.type < P.types.size := by
  have hk : ti.fs = fisOf P (descOf P info) := by rw [T.e]; rfl
  rw [hk, nth_eq] at h
  have hd := T.hd
  cases hds : descOf P info <;> rw [hds] at h hd <;> simp [fisOf] at h
  rename_i fs
  have hmap : ∀ l : List Field, mapL (fiOf P) l = l.map (fiOf P) := fun l => by induction l with
    | nil => rfl
    | cons a l ih => simp [mapL] at ih ⊢; exact ih
  rw [hmap, List.getElem?_map] at h
  cases hf : fs.toList[i]? with
  | none => rw [hf] at h; simp at h
  | some fd =>
    rw [hf] at h; simp at h
    refine ⟨fs, fd, rfl, by simpa using hf, h.symm, ?_⟩
    have := (allB_eq _ _).1 hd fd (List.mem_of_getElem? hf)
    simpa [blt_eq] using this
end ta
/-- A type below the table's size is as a field tells. -/
theorem field_type {P : Program} (ht : okTypes P = true) {fd : Field} (hl : fd.type < P.types.size) (w : World) :
    (sizeOf fd.type).run P w = .ok (fiOf P fd).size w ∧ (isAgg fd.type).run P w = .ok (fiOf P fd).agg w := by
  have h : P.types[fd.type]? = some P.types[fd.type] := Array.getElem?_eq_getElem hl
  have hi := info_of_lt h
  obtain ⟨hu, _⟩ := okType_at ht h
  constructor
  · simp [sizeOf, typeInfo, hi, fiOf, sizeIn]
  · simp only [isAgg, Sem.run_bind, run_underlying hu, Result.andThen_ok, fiOf, aggIn, hi]
    cases descOf P P.types[fd.type] <;> rfl

/- Cells. -/
section cells
variable {P : Program} {S : Nat → Nat} {ρ : Ren} {h : AH} {w : World} {b : Nat} {im : Im}
theorem Rel.lt (r : Rel S ρ h w) {b : Nat} (hd : h.obj b ≠ .dead) : b < h.n := by
  rcases Nat.lt_or_ge b h.n with h1 | h1
  · exact h1
  · exact absurd (r.top b h1) hd
theorem cell_row {o : AObj} {i : Nat} {v : Value} (hc : o.cell i = some v) (ho : OR S ρ w im o) :
    ∃ e fz kd n, RowR S ρ w im o e fz kd n ∧ elemOf o = some e ∧ fzOf o = fz := by
  cases o with
  | dead => simp [AObj.cell] at hc
  | cells cs e fz kd => exact ⟨e, fz, kd, _, ho, rfl, rfl⟩
  | bytes l e fz kd => exact ⟨e, fz, kd, _, ho, rfl, rfl⟩
  | map es clock => simp [AObj.cell] at hc
  | siter s pos => simp [AObj.cell] at hc
theorem Rel.cell (r : Rel S ρ h w) (hb : ρ b = some im) {i : Nat} {v : Value} (hc : (h.obj b).cell i = some v) :
    ∃ v', w.cell? ⟨im.blk, im.sh + i, none⟩ = some v' ∧ VR ρ v v' ∧ scalar v = true := by
  have hd : h.obj b ≠ .dead := fun e => by rw [e] at hc; simp [AObj.cell] at hc
  obtain ⟨e, fz, kd, n, ⟨cs', lo, hi, h1, h2, _⟩, _⟩ := cell_row hc (r.obj b im hb (r.lt hd))
  obtain ⟨h3, v', h4, h5⟩ := h2 i v hc
  exact ⟨v', by simp [World.cell?, h1, h4], h5, h3⟩
/-- Cells in a row, one after another. -/
theorem Rel.row (r : Rel S ρ h w) (hb : ρ b = some im) : ∀ (l : List Value) (off : Nat), (∀ (j : Nat) (v : Value), l[j]? = some v → (h.obj b).cell (off + j) = some v) →
    ∃ l', LR ρ l l' ∧ ∀ (j : Nat) (v' : Value), l'[j]? = some v' → w.cell? ((⟨im.blk, im.sh + off, none⟩ : Addr).add j) = some v' := by
  intro l
  induction l with
  | nil => exact fun off _ => ⟨[], .nil, by simp⟩
  | cons v l ih =>
    intro off hl
    obtain ⟨v', h1, h2, _⟩ := r.cell hb (hl 0 v rfl)
    obtain ⟨l', h3, h4⟩ := ih (off + 1) (fun j x hx => by have := hl (j + 1) x (by simpa using hx); rwa [show off + (j + 1) = off + 1 + j by omega] at this)
    refine ⟨v' :: l', .cons h2 h3, fun j x hx => ?_⟩
    cases j with
    | zero => simp at hx; subst hx; simpa [Addr.add_lit] using h1
    | succ j =>
      have := h4 j x (by simpa using hx)
      rw [Addr.add_lit] at this ⊢
      rwa [show im.sh + off + (j + 1) = im.sh + (off + 1) + j by omega]
theorem cellsOf_cell {o : AObj} {cs : List Value} (hc : cellsOf o = some cs) (i : Nat) : o.cell i = cs[i]? := by
  cases o <;> simp [cellsOf] at hc
  subst hc; simp [AObj.cell, nth_eq]
theorem u8of_some {v : Value} {b : UInt8} (h : u8of v = some b) : v = u8v b := by
  unfold u8of at h
  cases hi : asInt v with
  | none => rw [hi] at h; simp at h
  | some i =>
    rw [hi] at h
    have := asInt_some hi; subst this
    simp only at h
    obtain ⟨k, n⟩ := i
    cases k <;> simp [kEq] at h
    cases n with
    | negSucc m => simp [natI] at h
    | ofNat m =>
      simp only [natI, ble_eq] at h
      by_cases hm : m ≤ 255
      · simp [hm] at h
        subst h
        simp [u8v, UInt8.toNat_ofNat']
        omega
      · simp [hm] at h
theorem u8sOf_some : ∀ (l : List Value) (bs : List UInt8), u8sOf l = some bs → l = bs.map u8v
  | [], bs, h => by simp [u8sOf] at h; subst h; rfl
  | v :: l, bs, h => by
    have h' : (match u8of v with | none => none | some b => match u8sOf l with | none => none | some r => some (b :: r)) = some bs := h
    cases hv : u8of v with
    | none => rw [hv] at h'; simp at h'
    | some b =>
      rw [hv] at h'
      cases hl : u8sOf l with
      | none => rw [hl] at h'; simp at h'
      | some r =>
        rw [hl] at h'
        simp at h'
        subst h'
        rw [u8of_some hv, u8sOf_some l r hl]; rfl
theorem bytesOf_cell {o : AObj} {l : List UInt8} (hc : bytesOf o = some l) (i : Nat) : o.cell i = (l[i]?).map u8v := by
  cases o with
  | bytes l' e fz kd =>
    simp [bytesOf] at hc
    subst hc
    simp only [AObj.cell, nth_eq]
    cases (_ : List UInt8)[i]? <;> rfl
  | cells cs e fz kd =>
    have hc : u8sOf cs = some l := hc
    have := u8sOf_some cs l hc
    subst this
    simp only [AObj.cell, nth_eq, List.getElem?_map]
  | _ => simp [bytesOf] at hc
theorem tkdrp {α : Type} {n off : Nat} {l r : List α} (h : tk n (drp off l) = some r) : r.length = n ∧ ∀ j, j < n → r[j]? = l[off + j]? := by
  rw [drp_eq] at h
  obtain ⟨rfl, h2⟩ := tk_some _ _ _ h
  refine ⟨by simp at h2 ⊢; omega, fun j hj => ?_⟩
  rw [List.getElem?_take_of_lt hj, List.getElem?_drop]
end cells

/- Load. -/
theorem aload_ok {P : Program} {E : Env} (hE : EnvT P E) {t : TypeId} {v v' r : Value} {h h1 : AH} (hx : aload E t v h = some (r, h1)) {ρ : Ren} {w : World}
    (hr : Rel P.cellsOf ρ h w) (hv : VR ρ v v') : h1 = h ∧ Did P (Instr.loadAt t v') ρ h w r h1 ∧ (∀ a, v' = .pointer (some a) → ∃ r', (loadVar t a).run P w = .ok r' w ∧ VR ρ r r') ∧ ∃ a, v' = .pointer (some a) := by
  unfold aload at hx
  cases hp : asPtr v with
  | none => rw [hp] at hx; simp at hx
  | some p =>
    rw [hp] at hx
    obtain ⟨im, hb, rfl⟩ := asPtr_VR hp hv
    cases ht : E.ty.get t with
    | none => rw [ht] at hx; simp at hx
    | some ti =>
      rw [ht] at hx
      obtain ⟨info, T⟩ := hE.at ht
      have key : h1 = h ∧ ∃ r', (loadVar t ⟨im.blk, im.sh + p.off, none⟩).run P w = .ok r' w ∧ VR ρ r r' := by
        simp only at hx
        cases ha : ti.agg with
        | true =>
          rw [ha] at hx
          simp only at hx
          cases hc : cellsOf (h.obj p.b) with
          | none => rw [hc] at hx; simp at hx
          | some cs =>
            rw [hc] at hx
            simp only [aggAt] at hx
            cases htk : tk ti.size (drp p.off cs) with
            | none => rw [htk] at hx; simp at hx
            | some l =>
              rw [htk] at hx
              simp at hx
              obtain ⟨rfl, rfl⟩ := hx
              obtain ⟨hl, hg⟩ := tkdrp htk
              obtain ⟨l', h3, h4⟩ := hr.row hb l p.off (fun j x hx => by
                have hj : j < ti.size := by rw [← hl]; exact (List.getElem?_eq_some_iff.1 hx).1
                rw [cellsOf_cell hc, ← hg j hj]; exact hx)
              have hload := run_loadCells_list (P := P) w ⟨im.blk, im.sh + p.off, none⟩ l' h4
              rw [← h3.length, hl] at hload
              exact ⟨rfl, .agg l'.toArray, by simp [loadVar, T.run_agg, T.run_size, ha, hload], .agg (by simpa using h3)⟩
        | false =>
          rw [ha] at hx
          simp only [retO] at hx
          cases hc : (h.obj p.b).cell p.off with
          | none => rw [hc] at hx; simp at hx
          | some x =>
            rw [hc] at hx
            simp at hx
            obtain ⟨rfl, rfl⟩ := hx
            obtain ⟨x', h3, h4, _⟩ := hr.cell hb hc
            exact ⟨rfl, x', by simp [loadVar, T.run_agg, ha, h3], h4⟩
      obtain ⟨rfl, r', h3, h4⟩ := key
      refine ⟨rfl, Did.same hr (by simp [Instr.loadAt, Instr.sureAddr, h3]) h4, fun a ha => ?_, _, rfl⟩
      cases ha
      exact ⟨r', h3, h4⟩
end Go.Proofs.YtkmbkejmfffafaaGreatDoor.Refl
/- The second reading against the model: stores, new memory, struct and array values. -/
namespace Go.Proofs.YtkmbkejmfffafaaGreatDoor.Refl
open Go
set_option linter.unusedVariables false

theorem heap_setCells (b : Nat) : ∀ (vs : List Value) (o : Nat) (w : World) (cs : Array Value) (e : TypeId) (fr : Nat × Nat), w.heap[b]? = some (.cells cs e fr) →
    ∃ cs2 : Array Value, (w.setCells b o vs).heap[b]? = some (.cells cs2 e fr) ∧ cs2.size = cs.size ∧
      (∀ j : Nat, cs2[j]? = if o ≤ j ∧ j < o + vs.length ∧ j < cs.size then vs[j - o]? else cs[j]?) ∧
      (w.setCells b o vs).heap.size = w.heap.size ∧ (∀ c, c ≠ b → (w.setCells b o vs).heap[c]? = w.heap[c]?) ∧ Str w (w.setCells b o vs) := by
  intro vs
  induction vs with
  | nil => exact fun o w cs e fr h => ⟨cs, h, rfl, fun j => by rw [if_neg (by simp; omega)], rfl, fun _ _ => rfl, Str.refl _⟩
  | cons v vs ih =>
    intro o w cs e fr h
    have h1 : (w.setCell ⟨b, o, none⟩ v).heap[b]? = some (.cells (cs.setIfInBounds o v) e fr) := by
      simp [World.setCell, Array.getElem?_modify, h]
    obtain ⟨cs2, k1, k2, k3, k4, k5, k6⟩ := ih (o + 1) _ _ e fr h1
    refine ⟨cs2, k1, by simpa using k2, fun j => ?_, by rw [World.setCells, k4]; simp, fun c hc => by rw [World.setCells, k5 c hc, Below.heap_setCell' w b o v c hc], ?_⟩
    · rw [k3 j, Array.size_setIfInBounds, List.length_cons]
      by_cases hj : o + 1 ≤ j ∧ j < o + 1 + vs.length ∧ j < cs.size
      · rw [if_pos hj, if_pos (by omega)]
        have : j - o = j - (o + 1) + 1 := by omega
        rw [this, List.getElem?_cons_succ]
      · rw [if_neg hj, Array.getElem?_setIfInBounds]
        by_cases hjo : o = j
        · subst hjo
          by_cases hs : o < cs.size
          · have : o ≤ o ∧ o < o + (vs.length + 1) ∧ o < cs.size := ⟨Nat.le_refl _, by omega, hs⟩
            simp only [this, if_true, hs]
            simp
          · have : ¬ (o ≤ o ∧ o < o + (vs.length + 1) ∧ o < cs.size) := by omega
            simp only [this, if_false, hs, if_true]
            rw [Array.getElem?_eq_none (by omega)]
            simp
        · have : ¬ (o ≤ j ∧ j < o + (vs.length + 1) ∧ j < cs.size) := by omega
          simp only [this, if_false, hjo]
    · rw [World.setCells]
      have h0 : Str w (w.setCell ⟨b, o, none⟩ v) := ⟨rfl, rfl, rfl⟩
      exact h0.trans k6
where
  Below.heap_setCell' (w : World) (b o : Nat) (v : Value) (c : Nat) (hc : c ≠ b) : (w.setCell ⟨b, o, none⟩ v).heap[c]? = w.heap[c]? := by
    simp only [World.setCell, Array.getElem?_modify]
    rw [if_neg (by omega)]

section
variable {P : Program} {ρ : Ren} {h h1 : AH} {w : World}
theorem u8v_VR {b : UInt8} {v' : Value} (h : VR ρ (u8v b) v') : v' = u8v b := by
  unfold u8v at h ⊢
  cases h; rfl
theorem scalar_u8v (b : UInt8) : scalar (u8v b) = true := rfl

/-- A row is written over, from a place on: the model's row, too. -/
theorem row_over {o o2 : AObj} {im : Im} {e fz kd n : Nat} {off : Nat} {vs vs' : List Value} (hrow : RowR P.cellsOf ρ w im o e fz kd n) (hv : LR ρ vs vs') (hs : ∀ v ∈ vs, scalar v = true)
    (hfz : fz ≤ off) (hin : ∀ j, off ≤ j → j < off + vs.length → (o.cell j).isSome = true)
    (hc : ∀ (i : Nat) (v : Value), o2.cell i = some v → if off ≤ i ∧ i < off + vs.length then vs[i - off]? = some v else o.cell i = some v) :
    (storeCells ⟨im.blk, im.sh + off, none⟩ vs').run P w = .ok () (w.setCells im.blk (im.sh + off) vs') ∧
    RowR P.cellsOf ρ (w.setCells im.blk (im.sh + off) vs') im o2 e fz kd n ∧ (w.setCells im.blk (im.sh + off) vs').heap.size = w.heap.size ∧
    (∀ c, c ≠ im.blk → (w.setCells im.blk (im.sh + off) vs').heap[c]? = w.heap[c]?) ∧ Str w (w.setCells im.blk (im.sh + off) vs') := by
  obtain ⟨cs', lo, hi, h1, h2, h3, h4⟩ := hrow
  have hex : ∀ j, j < vs'.length → ∃ u, cs'[im.sh + off + j]? = some u := fun j hj => by
    rw [← hv.length] at hj
    obtain ⟨u, hu⟩ := Option.isSome_iff_exists.1 (hin (off + j) (by omega) (by omega))
    obtain ⟨_, u', h5, _⟩ := h2 _ u hu
    exact ⟨u', by rw [show im.sh + off + j = im.sh + (off + j) by omega]; exact h5⟩
  have hrun := run_storeCells_cells (P := P) im.blk (im.sh + off) vs' 0 w
    (fun j hj => by obtain ⟨u, hu⟩ := hex j hj; simp [World.cell?, h1, hu])
    (fun j hj => by
      obtain ⟨u, hu⟩ := hex j hj
      have hlt : im.sh + off + j < cs'.size := (Array.getElem?_eq_some_iff.1 hu).1
      have hfr := h3.1 (im.sh + off + j) hlt
      simp only [World.frozen?, h1, Bool.and_eq_false_iff, decide_eq_false_iff_not]
      by_cases ha : lo ≤ im.sh + off + j
      · by_cases hb : im.sh + off + j < hi
        · have := hfr ha hb; omega
        · exact .inr (by simpa using hb)
      · exact .inl (by simpa using ha))
    (fun v' hv' => by
      obtain ⟨j, hj⟩ := List.mem_iff_getElem?.1 hv'
      have hjl : j < vs.length := by rw [hv.length]; exact (List.getElem?_eq_some_iff.1 hj).1
      obtain ⟨u', h5, h6⟩ := hv.get (List.getElem?_eq_getElem hjl)
      rw [hj] at h5; cases h5
      exact scalar_oneCell (scalar_VR h6 (hs _ (List.getElem_mem hjl))))
  simp only [Nat.add_zero] at hrun
  obtain ⟨cs2, k1, k2, k3, k4, k5, k6⟩ := heap_setCells im.blk vs' (im.sh + off) w cs' e (lo, hi) h1
  refine ⟨hrun, ⟨cs2, lo, hi, k1, fun i v hi' => ?_, by rw [k2]; exact h3, by rw [k2]; exact h4⟩, k4, k5, k6⟩
  have hci := hc i v hi'
  by_cases hio : off ≤ i ∧ i < off + vs.length
  · rw [if_pos hio] at hci
    obtain ⟨v', h5, h6⟩ := hv.get hci
    refine ⟨hs v (List.mem_of_getElem? hci), v', ?_, h6⟩
    obtain ⟨u, hu⟩ := hex (i - off) (by rw [← hv.length]; omega)
    have hlt : im.sh + off + (i - off) < cs'.size := (Array.getElem?_eq_some_iff.1 hu).1
    rw [k3, if_pos (by rw [← hv.length]; omega), show im.sh + i - (im.sh + off) = i - off by omega]
    exact h5
  · rw [if_neg hio] at hci
    obtain ⟨h5, v', h6, h7⟩ := h2 i v hci
    refine ⟨h5, v', ?_, h7⟩
    rw [k3, if_neg (by rw [← hv.length]; omega)]
    exact h6

theorem storeAt_ok {b off : Nat} {vs vs' : List Value} {im : Im} (hx : storeAt h b off vs = some h1) (hr : Rel P.cellsOf ρ h w) (hb : ρ b = some im) (hv : LR ρ vs vs') (hs : ∀ v ∈ vs, scalar v = true) :
    (storeCells ⟨im.blk, im.sh + off, none⟩ vs').run P w = .ok () (w.setCells im.blk (im.sh + off) vs') ∧ Step P.cellsOf ρ h w ρ h1 (w.setCells im.blk (im.sh + off) vs') ∧ h1.ob = h.ob ∧ h1.n = h.n := by
  unfold storeAt at hx
  cases ho : h.obj b with
  | dead => rw [ho] at hx; simp at hx
  | map es clock => rw [ho] at hx; simp at hx
  | siter s pos => rw [ho] at hx; simp at hx
  | cells cs e fz kd =>
    rw [ho] at hx
    simp only [stCells, ble_eq] at hx
    by_cases hf : fz ≤ off
    · simp only [hf, decide_true] at hx
      cases hov : over cs off vs with
      | none => rw [hov] at hx; simp at hx
      | some cs2 =>
        rw [hov] at hx
        simp at hx
        subst hx
        have hd : h.obj b ≠ .dead := by rw [ho]; simp
        have hlen := over_len hov
        obtain ⟨hle, _⟩ := over_some _ _ _ _ hov
        have hrow : RowR P.cellsOf ρ w im (.cells cs e fz kd) e fz kd cs.length := by have := hr.obj b im hb (hr.lt hd); rw [ho] at this; exact this
        obtain ⟨k1, k2, k3, k4, k5⟩ := row_over (o2 := .cells cs2 e fz kd) hrow hv hs hf
          (fun j h1 h2 => by simp only [AObj.cell, nth_eq]; rw [List.getElem?_eq_getElem (by omega)]; rfl)
          (fun i v hi => by
            simp only [AObj.cell, nth_eq] at hi ⊢
            rw [over_get hov] at hi
            split at hi
            · rename_i hc; rw [if_pos hc]; exact hi
            · rename_i hc; rw [if_neg hc]; exact hi)
        exact ⟨k1, .write hr hb (hr.lt hd) hd k3 k4 k5 (by rw [← hlen] at k2; exact k2), rfl, rfl⟩
    · simp [hf] at hx
  | bytes l e fz kd =>
    rw [ho] at hx
    simp only [stBytes, ble_eq] at hx
    by_cases hf : fz ≤ off
    · simp only [hf, decide_true] at hx
      cases hu : u8sOf vs with
      | none => rw [hu] at hx; simp at hx
      | some bs =>
        rw [hu] at hx
        simp only at hx
        cases hov : over l off bs with
        | none => rw [hov] at hx; simp at hx
        | some l2 =>
          rw [hov] at hx
          simp at hx
          subst hx
          have hvs := u8sOf_some _ _ hu
          have hbl : bs.length = vs.length := by rw [hvs]; simp
          have hd : h.obj b ≠ .dead := by rw [ho]; simp
          have hlen := over_len hov
          obtain ⟨hle, _⟩ := over_some _ _ _ _ hov
          have hrow : RowR P.cellsOf ρ w im (.bytes l e fz kd) e fz kd l.length := by have := hr.obj b im hb (hr.lt hd); rw [ho] at this; exact this
          obtain ⟨k1, k2, k3, k4, k5⟩ := row_over (o2 := .bytes l2 e fz kd) hrow hv hs hf
            (fun j h1 h2 => by rw [bytesOf_cell (l := l) rfl, List.getElem?_eq_getElem (by omega)]; rfl)
            (fun i v hi => by
              rw [bytesOf_cell (l := l2) rfl, over_get hov] at hi
              rw [bytesOf_cell (l := l) rfl, ← hbl]
              split at hi
              · rename_i hc; rw [if_pos hc, hvs, List.getElem?_map]; exact hi
              · rename_i hc; rw [if_neg hc]; exact hi)
          exact ⟨k1, .write hr hb (hr.lt hd) hd k3 k4 k5 (by rw [← hlen] at k2; exact k2), rfl, rfl⟩
    · simp [hf] at hx
end

theorem astore_ok {P : Program} {E : Env} (hE : EnvT P E) {t : TypeId} {a a' v v' : Value} {h h1 : AH} (hx : astore E t a v h = some h1) {ρ : Ren} {w : World}
    (hr : Rel P.cellsOf ρ h w) (ha : VR ρ a a') (hv : VR ρ v v') : ∃ w', (Instr.storeAt t a' v').run P w = .ok () w' ∧ Step P.cellsOf ρ h w ρ h1 w' ∧ h1.ob = h.ob := by
  unfold astore at hx
  cases hp : asPtr a with
  | none => rw [hp] at hx; simp at hx
  | some p =>
    rw [hp] at hx
    obtain ⟨im, hb, rfl⟩ := asPtr_VR hp ha
    cases ht : E.ty.get t with
    | none => rw [ht] at hx; simp at hx
    | some ti =>
      rw [ht] at hx
      obtain ⟨info, T⟩ := hE.at ht
      have hc := vcells_VR hv
      have hlc : v'.cells.size = (vcells v).length := by rw [hc.length]; simp
      simp only [bq, len_eq] at hx
      by_cases hsz : (vcells v).length = ti.size
      · simp only [hsz, decide_true] at hx
        cases hsc : allB scalar (vcells v) with
        | false => rw [hsc] at hx; simp at hx
        | true =>
          rw [hsc] at hx
          simp only at hx
          by_cases h0 : ti.size = 0
          · simp only [h0, decide_true] at hx
            simp at hx; subst hx
            refine ⟨w, ?_, .refl hr, rfl⟩
            have hnil : v'.cells.toList = [] := by
              apply List.eq_nil_of_length_eq_zero
              rw [Array.length_toList, hlc, hsz, h0]
            simp [Instr.storeAt, Instr.sureAddr, storeVar, T.run_size, hlc, hsz, hnil, storeCells]
          · simp only [h0, decide_false] at hx
            obtain ⟨k1, k2, k3, _⟩ := storeAt_ok (P := P) hx hr hb hc ((allB_eq _ _).1 hsc)
            refine ⟨_, ?_, k2, k3⟩
            simp [Instr.storeAt, Instr.sureAddr, storeVar, T.run_size, hlc, hsz, k1]
      · simp [hsz] at hx
end Go.Proofs.YtkmbkejmfffafaaGreatDoor.Refl
/- The second reading against the model: new memory, struct and array values, places, slices. -/
namespace Go.Proofs.YtkmbkejmfffafaaGreatDoor.Refl
open Go
set_option linter.unusedVariables false

section
variable {P : Program} {ρ : Ren} {h h1 : AH} {w : World}
theorem fz_new (n k kd : Nat) : FzOK n 0 0 k kd := ⟨fun j _ _ h => by omega, fun _ => .inl rfl⟩
/-- A new row of cells. -/
theorem alloc_cells {cs : List Value} {cs' : Array Value} {e : TypeId} (hr : Rel P.cellsOf ρ h w) (h0 : ρ h.n = none) (hv : LR ρ cs cs'.toList) (hs : ∀ v ∈ cs, scalar v = true) :
    Step P.cellsOf ρ h w (upd ρ h.n ⟨w.heap.size, 0, cs'.size, P.cellsOf e⟩) (h.alloc (.cells cs e 0 0)) (w.alloc (.cells cs' e)) := by
  refine .alloc (x := .cells cs' e) hr h0 rfl ⟨rfl, rfl, rfl⟩ rfl ?_
  have hw : (w.alloc (.cells cs' e)).heap[w.heap.size]? = some (.cells cs' e (0, 0)) := heap_alloc_new w _
  refine ⟨cs', 0, 0, hw, fun i v hi => ?_, fz_new _ _ _, Nat.le_refl _, rfl, fun _ => ⟨rfl, by rw [hv.length, Array.length_toList], fun _ => rfl⟩⟩
  simp only [AObj.cell, nth_eq] at hi
  obtain ⟨v', h1, h2⟩ := hv.get hi
  exact ⟨hs v (List.mem_of_getElem? hi), v', by simpa using h1, h2.mono (Ext.upd h0)⟩
/-- The same, where the row may be bytes. -/
theorem alloc_rowObj {ei : TI} {cs : List Value} {cs' : Array Value} {e : TypeId} {o : AObj} (ho : rowObj ei e cs = some o) (hr : Rel P.cellsOf ρ h w) (h0 : ρ h.n = none) (hv : LR ρ cs cs'.toList) :
    Step P.cellsOf ρ h w (upd ρ h.n ⟨w.heap.size, 0, cs'.size, P.cellsOf e⟩) (h.alloc o) (w.alloc (.cells cs' e)) := by
  unfold rowObj at ho
  cases hu : ei.u8 with
  | false =>
    rw [hu] at ho
    simp only at ho
    cases hs : allB scalar cs with
    | false => rw [hs] at ho; simp at ho
    | true => rw [hs] at ho; simp at ho; subst ho; exact alloc_cells hr h0 hv ((allB_eq _ _).1 hs)
  | true =>
    rw [hu] at ho
    simp only at ho
    cases hb : u8sOf cs with
    | none => rw [hb] at ho; simp at ho
    | some l =>
      rw [hb] at ho; simp at ho; subst ho
      have hcs := u8sOf_some _ _ hb
      refine .alloc (x := .cells cs' e) hr h0 rfl ⟨rfl, rfl, rfl⟩ rfl ?_
      have hw : (w.alloc (.cells cs' e)).heap[w.heap.size]? = some (.cells cs' e (0, 0)) := heap_alloc_new w _
      refine ⟨cs', 0, 0, hw, fun i v hi => ?_, fz_new _ _ _, Nat.le_refl _, rfl, fun _ => ⟨rfl, by rw [← Array.length_toList, ← hv.length, hcs]; simp⟩⟩
      rw [bytesOf_cell (l := l) rfl, ← List.getElem?_map, ← hcs] at hi
      obtain ⟨v', h1, h2⟩ := hv.get hi
      have hsc : scalar v = true := by
        have hm := List.mem_of_getElem? hi
        rw [hcs] at hm
        obtain ⟨b, _, rfl⟩ := List.mem_map.1 hm
        rfl
      exact ⟨hsc, v', by simpa using h1, h2.mono (Ext.upd h0)⟩

theorem aalloc_ok {elem : TypeId} {v v' r : Value} (hx : aalloc elem v h = some (r, h1)) (hr : Rel P.cellsOf ρ h w) (hf : Fr ρ h.n h1.n) (hv : VR ρ v v') :
    h1.ob = h.ob ∧ Did P (do pure (.pointer (some (← newVar elem v')))) ρ h w r h1 := by
  unfold aalloc at hx
  cases hs : allB scalar (vcells v) with
  | false => rw [hs] at hx; simp at hx
  | true =>
    rw [hs] at hx
    simp at hx
    obtain ⟨rfl, rfl⟩ := hx
    have h0 : ρ h.n = none := hf h.n (Nat.le_refl _) (by rw [alloc_n]; omega)
    have st := alloc_cells (e := elem) hr h0 (vcells_VR hv) ((allB_eq _ _).1 hs)
    refine ⟨rfl, _, .pointer (some ⟨w.heap.size, 0, none⟩), _, by simp [newVar, newRow], ?_, st⟩
    exact VR.ptr_mk (im := ⟨w.heap.size, 0, v'.cells.size, P.cellsOf elem⟩) (off := 0) (upd_same _ _ _)
end

/- Parts laid over cells. -/
theorem foldl_set (off : Nat) : ∀ (l : List Value) (k : Nat) (cs : Array Value), k + off + l.length ≤ cs.size →
    ∀ j : Nat, ((l.zipIdx k).foldl (fun (cs : Array Value) (x : Value × Nat) => cs.setIfInBounds (off + x.2) x.1) cs)[j]? = if off + k ≤ j ∧ j < off + k + l.length then l[j - (off + k)]? else cs[j]? := by
  intro l
  induction l with
  | nil => intro k cs h j; rw [if_neg (by simp only [List.length_nil]; omega)]; rfl
  | cons v l ih =>
    intro k cs h j
    simp only [List.length_cons] at h
    rw [List.zipIdx_cons, List.foldl_cons, ih (k + 1) _ (by simp only [Array.size_setIfInBounds]; omega) j]
    by_cases hj : off + (k + 1) ≤ j ∧ j < off + (k + 1) + l.length
    · rw [if_pos hj, if_pos (by rw [List.length_cons]; omega), show j - (off + k) = j - (off + (k + 1)) + 1 by omega, List.getElem?_cons_succ]
    · rw [if_neg hj, Array.getElem?_setIfInBounds]
      by_cases hjo : off + k = j
      · subst hjo
        have h1 : off + k < cs.size := by omega
        rw [if_pos rfl, if_pos h1, if_pos ⟨Nat.le_refl _, by simp only [List.length_cons]; omega⟩]
        simp
      · rw [if_neg hjo, if_neg (by rw [List.length_cons]; omega)]
theorem size_foldl_set (off : Nat) : ∀ (l : List (Value × Nat)) (cs : Array Value), (l.foldl (fun (cs : Array Value) (x : Value × Nat) => cs.setIfInBounds (off + x.2) x.1) cs).size = cs.size
  | [], _ => rfl
  | x :: l, cs => by rw [List.foldl_cons, size_foldl_set off l]; simp

/-- Parts that answer each other. -/
inductive PR (ρ : Ren) : List (Nat × Value) → List (Nat × Value) → Prop where
  | nil : PR ρ [] []
  | cons {i : Nat} {v v' : Value} {l l' : List (Nat × Value)} (h : VR ρ v v') (hl : PR ρ l l') : PR ρ ((i, v) :: l) ((i, v') :: l')
theorem fill_ok {ρ : Ren} {pl pl' : Nat → Option (Nat × Nat)} (hpl : ∀ i x, pl i = some x → pl' i = some x) : ∀ (ps ps' : List (Nat × Value)) (cs r : List Value) (cs' : Array Value), PR ρ ps ps' →
    LR ρ cs cs'.toList → fillL pl ps cs = some r → ∃ r' : Array Value, Instr.fill pl' cs' ps' = some r' ∧ LR ρ r r'.toList := by
  intro ps
  induction ps with
  | nil =>
    intro ps' cs r cs' hp hc hx
    cases hp
    simp [fillL] at hx
    subst hx
    exact ⟨cs', rfl, hc⟩
  | cons x ps ih =>
    intro ps' cs r cs' hp hc hx
    obtain ⟨i, v⟩ := x
    cases hp with
    | cons hv hp =>
      rename_i v' ps'
      have hx' : (match pl i with | none => none | some p => match Nat.beq (len (vcells v)) p.2 with | false => none | true => match over cs p.1 (vcells v) with | some cs => fillL pl ps cs | none => none) = some r := hx
      cases hpi : pl i with
      | none => rw [hpi] at hx'; simp at hx'
      | some q =>
        obtain ⟨off, size⟩ := q
        rw [hpi] at hx'
        simp only [bq, len_eq] at hx'
        have hvc := vcells_VR hv
        have hl' : v'.cells.size = (vcells v).length := by rw [hvc.length]; simp
        by_cases hsz : (vcells v).length = size
        · simp only [hsz, decide_true] at hx'
          cases ho : over cs off (vcells v) with
          | none => rw [ho] at hx'; simp at hx'
          | some cs2 =>
            rw [ho] at hx'
            simp only at hx'
            obtain ⟨hle, _⟩ := over_some _ _ _ _ ho
            have hcl : cs'.size = cs.length := by rw [hc.length]; simp
            have hz : v'.cells.zipIdx.foldl (fun (cs : Array Value) (x : Value × Nat) => cs.setIfInBounds (off + x.2) x.1) cs' = (v'.cells.toList.zipIdx).foldl (fun (cs : Array Value) (x : Value × Nat) => cs.setIfInBounds (off + x.2) x.1) cs' := by
              rw [← Array.foldl_toList, Array.toList_zipIdx]
            have hnew : LR ρ cs2 ((v'.cells.toList.zipIdx).foldl (fun (cs : Array Value) (x : Value × Nat) => cs.setIfInBounds (off + x.2) x.1) cs').toList := by
              have e1 := size_foldl_set off (v'.cells.toList.zipIdx) cs'
              refine LR.of_get (by rw [over_len ho]; exact hcl.symm.trans e1.symm) fun j u hj => ?_
              rw [Array.getElem?_toList, foldl_set off _ 0 cs' (by rw [Array.length_toList, hl', hcl]; omega)]
              rw [over_get ho] at hj
              simp only [Nat.add_zero, Array.length_toList, hl']
              by_cases hb : off ≤ j ∧ j < off + (vcells v).length
              · rw [if_pos hb] at hj ⊢
                exact hvc.get hj
              · rw [if_neg hb] at hj ⊢
                simpa using hc.get hj
            obtain ⟨r', k1, k2⟩ := ih ps' cs2 r _ hp hnew hx'
            refine ⟨r', ?_, k2⟩
            unfold Instr.fill
            rw [hpl i _ hpi]
            simp only
            rw [if_neg (by simp [hl', hsz, hcl]; omega), hz]
            exact k1
        · simp [hsz] at hx'
end Go.Proofs.YtkmbkejmfffafaaGreatDoor.Refl
/- The second reading against the model: struct and array values, places. -/
namespace Go.Proofs.YtkmbkejmfffafaaGreatDoor.Refl
open Go
set_option linter.unusedVariables false

theorem fin_eq {α β : Type} (h : AH) (f : α → (α → β) → β) (a : α) (k : α → β) (hf : f a k = k a) : fin h f a k = k a := by
  unfold fin; cases h.sym <;> simp [hf]
theorem forceN_eq {α : Type} (n : Nat) (k : Nat → α) : forceN n k = k n := by cases n <;> rfl
theorem forceL_eq {α : Type} : ∀ (l : List UInt8) (k : List UInt8 → α), forceL l k = k l
  | [], k => rfl
  | a :: l, k => by
    show forceL l (fun l => k (a :: l)) = _
    rw [forceL_eq l]
theorem force1_eq {α : Type} (v : Value) (k : Value → α) : force1 v α k = k v := by
  cases v with
  | int kd n => cases n with
    | ofNat m => exact forceN_eq m fun m => k (.int kd (.ofNat m))
    | negSucc m => exact forceN_eq m fun m => k (.int kd (.negSucc m))
  | bool b => cases b <;> rfl
  | pointer a => cases a with
    | none => rfl
    | some a =>
      obtain ⟨b, off, s⟩ := a
      cases s with
      | none => show forceN b (fun b => forceN off fun off => k (ptrV b off)) = _; rw [forceN_eq, forceN_eq]; rfl
      | some s => show forceN b (fun b => forceN off fun off => k (.pointer (some ⟨b, off, some s⟩))) = _; rw [forceN_eq, forceN_eq]
  | slice a n c =>
    show fSl a n c α k = _
    unfold fSl
    rw [forceN_eq, forceN_eq]
    cases a with
    | none => rfl
    | some a =>
      obtain ⟨b, off, s⟩ := a
      cases s with
      | none => show forceN b (fun b => forceN off fun off => k (slV b off n c)) = _; rw [forceN_eq, forceN_eq]; rfl
      | some s => show forceN b (fun b => forceN off fun off => k (.slice (some ⟨b, off, some s⟩) n c)) = _; rw [forceN_eq, forceN_eq]
  | _ => rfl
theorem forceVs_eq {α : Type} : ∀ (l : List Value) (k : List Value → α), forceVs l α k = k l
  | [], k => rfl
  | a :: l, k => by
    show force1 a α (fun v => forceVs l α fun l => k (v :: l)) = _
    rw [force1_eq, forceVs_eq l]
theorem forceV_eq {α : Type} (v : Value) (k : Value → α) : forceV v α k = k v := by
  cases v with
  | tuple cs => show forceVs cs.toList α _ = _; rw [forceVs_eq]
  | int kd n => exact force1_eq (.int kd n) k
  | bool b => exact force1_eq (.bool b) k
  | pointer a => exact force1_eq (.pointer a) k
  | slice a n c => exact force1_eq (.slice a n c) k
  | _ => rfl

theorem head1_eq {α : Type} (v : Value) (k : Value → α) : head1 v α k = k v := by
  cases v with
  | int kd n => cases n <;> rfl
  | bool b => rfl
  | pointer a => exact force1_eq (.pointer a) k
  | slice a n c =>
    cases a with
    | none => rfl
    | some a =>
      obtain ⟨b, off, s⟩ := a
      cases s with
      | none => show forceN b (fun b => forceN off fun off => k (slV b off n c)) = _; rw [forceN_eq, forceN_eq]; rfl
      | some s => show forceN b (fun b => forceN off fun off => k (.slice (some ⟨b, off, some s⟩) n c)) = _; rw [forceN_eq, forceN_eq]
  | _ => rfl
theorem headVs_eq {α : Type} : ∀ (l : List Value) (k : List Value → α), headVs l α k = k l
  | [], k => rfl
  | a :: l, k => by
    show head1 a α (fun v => headVs l α fun l => k (v :: l)) = _
    rw [head1_eq, headVs_eq l]
theorem headV_eq {α : Type} (v : Value) (k : Value → α) : headV v α k = k v := by
  cases v with
  | tuple cs => show headVs cs.toList α _ = _; rw [headVs_eq]
  | agg cs => show headVs cs.toList α _ = _; rw [headVs_eq]
  | int kd n => exact head1_eq (.int kd n) k
  | bool b => rfl
  | pointer a => exact head1_eq (.pointer a) k
  | slice a n c => exact head1_eq (.slice a n c) k
  | _ => rfl
theorem retAgg_some {h h1 : AH} {o : Option (List Value)} {r : Value} (hx : retAgg h o = some (r, h1)) : ∃ l, o = some l ∧ r = .agg ⟨l⟩ ∧ h1 = h := by
  cases o with
  | none => simp [retAgg] at hx
  | some l =>
    simp only [retAgg] at hx
    rw [fin_eq _ _ _ _ (forceVs_eq _ _)] at hx
    simp at hx
    exact ⟨l, rfl, hx.1.symm, hx.2.symm⟩
theorem retStr_some {h h1 : AH} {o : Option (List UInt8)} {r : Value} (hx : retStr h o = some (r, h1)) : ∃ l, o = some l ∧ r = strV l ∧ h1 = h := by
  cases o with
  | none => simp [retStr] at hx
  | some l =>
    simp only [retStr] at hx
    rw [fin_eq _ _ _ _ (forceL_eq _ _)] at hx
    simp at hx
    exact ⟨l, rfl, hx.1.symm, hx.2.symm⟩
theorem retO_some {h h1 : AH} {o : Option Value} {r : Value} (hx : retO h o = some (r, h1)) : o = some r ∧ h1 = h := by
  cases o with
  | none => simp [retO] at hx
  | some v => simp [retO] at hx; exact ⟨by rw [hx.1], hx.2.symm⟩

section
variable {P : Program} {E : Env} (hE : EnvT P E) {t : TypeId} {h h1 : AH} {ρ : Ren} {w : World} {r : Value}
include hE
theorem mapM_places (w : World) : ∀ (l : List Field), (∀ f ∈ l, f.type < P.types.size) →
    (l.mapM fun f => Prod.mk f.offset <$> sizeOf f.type).run P w = .ok (l.map fun f => (f.offset, (fiOf P f).size)) w
  | [], _ => by simp
  | f :: l, hl => by
    simp [List.mapM_cons, (field_type hE.types (hl f (by simp)) w).1, mapM_places w l fun x hx => hl x (by simp [hx])]
theorem abuild_ok {ps ps' : List (Nat × Value)} (hx : abuild E t ps h = some (r, h1)) (hr : Rel P.cellsOf ρ h w) (hp : PR ρ ps ps') :
    h1 = h ∧ Did P (Instr.build t ps'.toArray) ρ h w r h1 := by
  unfold abuild at hx
  cases ht : E.ty.get t with
  | none => rw [ht] at hx; simp at hx
  | some ti =>
    rw [ht] at hx
    obtain ⟨info, T⟩ := hE.at ht
    simp only at hx
    cases hz : ti.zero with
    | none => rw [hz] at hx; simp at hx
    | some z =>
      rw [hz] at hx
      simp only at hx
      have hzv := vcells_VR (flat_VR ρ 5 z (T.flat hz))
      cases h8 : Nat.beq ti.kd 8 with
      | true =>
        rw [h8] at hx
        obtain ⟨l, hl, rfl, rfl⟩ := retAgg_some hx
        obtain ⟨fs, hfs⟩ := T.isStruct h8
        have hty : ∀ f ∈ fs.toList, f.type < P.types.size := fun f hf => by
          have := T.hd; rw [hfs] at this
          simpa [blt_eq] using (allB_eq _ _).1 this f hf
        obtain ⟨r', k1, k2⟩ := fill_ok (ρ := ρ) (pl := placeF ti.fs) (pl' := fun i => (fs.toList.map fun f => (f.offset, (fiOf P f).size))[i]?) (fun i x hi => by
          unfold placeF at hi
          cases hf : nth ti.fs i with
          | none => rw [hf] at hi; simp at hi
          | some f =>
            rw [hf] at hi
            simp at hi
            obtain ⟨fs', fd, g1, g2, g3, g4⟩ := T.field hf
            rw [hfs] at g1; cases g1
            rw [List.getElem?_map, Array.getElem?_toList, g2, ← hi, g3]; rfl) ps ps' _ l z.cells hp hzv hl
        refine ⟨rfl, Did.same hr ?_ (VR.agg (cs' := r') (by simpa using k2))⟩
        have hm := mapM_places hE w fs.toList hty
        have hk : Instr.fill (fun x => Option.map (fun f : Field => (f.offset, (fiOf P f).size)) fs[x]?) z.cells ps' = some r' := by
          rw [← k1]; congr 1; funext i; rw [List.getElem?_map, Array.getElem?_toList]
        simp [Instr.build, T.run_zero _ hz, T.run_u, hfs, Array.mapM_eq_mapM_toList, hm, hk]
      | false =>
        rw [h8] at hx
        simp only at hx
        cases h6 : Nat.beq ti.kd 6 with
        | false => rw [h6] at hx; simp at hx
        | true =>
          rw [h6] at hx
          simp only at hx
          cases hte : E.ty.get ti.el with
          | none => rw [hte] at hx; simp at hx
          | some ei =>
            rw [hte] at hx
            obtain ⟨einfo, TE⟩ := hE.at hte
            obtain ⟨l, hl, rfl, rfl⟩ := retAgg_some hx
            obtain ⟨r', k1, k2⟩ := fill_ok (ρ := ρ) (pl := placeA ei.size) (pl' := fun i => some (i * ei.size, ei.size)) (fun i x hi => by simpa [placeA] using hi) ps ps' _ l z.cells hp hzv hl
            refine ⟨rfl, Did.same hr ?_ (VR.agg (cs' := r') (by simpa using k2))⟩
            simp [Instr.build, T.run_zero _ hz, T.run_u, T.isArray h6, TE.run_size, k1]
end
end Go.Proofs.YtkmbkejmfffafaaGreatDoor.Refl
/- The second reading against the model: rows made, places, parts, slices. -/
namespace Go.Proofs.YtkmbkejmfffafaaGreatDoor.Refl
open Go
set_option linter.unusedVariables false

theorem rep_get {α : Type} : ∀ (n : Nat) (l : List α), (rep l n).length = n * l.length ∧ ∀ j, j < n * l.length → (rep l n)[j]? = l[j % l.length]?
  | 0, l => ⟨by rw [Nat.zero_mul]; rfl, fun j hj => by omega⟩
  | n + 1, l => by
    have e : rep l (n + 1) = l ++ rep l n := by show app l (rep l n) = _; rw [app_eq]
    obtain ⟨h1, h2⟩ := rep_get n l
    rw [e]
    refine ⟨by rw [List.length_append, h1, Nat.add_mul, Nat.one_mul, Nat.add_comm], fun j hj => ?_⟩
    by_cases hj1 : j < l.length
    · rw [List.getElem?_append_left hj1, Nat.mod_eq_of_lt hj1]
    · rw [List.getElem?_append_right (by omega), h2 (j - l.length) (by rw [Nat.add_mul, Nat.one_mul] at hj; omega)]
      congr 1
      have : j = (j - l.length) + l.length := by omega
      rw [this, Nat.add_mod_right, Nat.add_sub_cancel]
theorem rep_LR {ρ : Ren} {l : List Value} {z : Array Value} (h : LR ρ l z.toList) (n : Nat) : LR ρ (rep l n) (madeCells z (n * l.length)).toList := by
  obtain ⟨h1, h2⟩ := rep_get n l
  have hz : z.size = l.length := by rw [h.length]; simp
  refine LR.of_get (by rw [h1]; exact (size_madeCells z _).symm) fun j v hj => ?_
  have hjl : j < n * l.length := by rw [← h1]; exact (List.getElem?_eq_some_iff.1 hj).1
  rw [h2 j hjl] at hj
  obtain ⟨v', h3, h4⟩ := h.get hj
  refine ⟨v', ?_, h4⟩
  rw [Array.getElem?_toList]
  simp only [madeCells, Array.getElem?_map, Array.getElem?_range, hjl, if_true, Option.map_some, hz]
  rw [Array.getElem?_toList] at h3
  rw [getElem!_def, h3]

section
variable {P : Program} {E : Env} (hE : EnvT P E) {t : TypeId} {h h1 : AH} {ρ : Ren} {w : World} {r : Value}
include hE
theorem abuildSlice_ok {n : Nat} {ps ps' : List (Nat × Value)} (hx : abuildSlice E t n ps h = some (r, h1)) (hr : Rel P.cellsOf ρ h w) (hf : Fr ρ h.n h1.n) (hp : PR ρ ps ps') :
    h1.ob = h.ob ∧ Did P (Instr.buildSlice t n ps'.toArray) ρ h w r h1 := by
  unfold abuildSlice at hx
  cases ht : E.ty.get t with
  | none => rw [ht] at hx; simp at hx
  | some ti =>
    rw [ht] at hx
    obtain ⟨info, T⟩ := hE.at ht
    simp only at hx
    cases h5 : Nat.beq ti.kd 5 with
    | false => rw [h5] at hx; simp at hx
    | true =>
      rw [h5] at hx
      simp only at hx
      cases hte : E.ty.get ti.el with
      | none => rw [hte] at hx; simp at hx
      | some ei =>
        rw [hte] at hx
        obtain ⟨einfo, TE⟩ := hE.at hte
        simp only [ble_eq] at hx
        by_cases hle0 : n ≤ 16777216 ∧ Nat.mul n ei.size ≤ 16777216
        · obtain ⟨hln, hle⟩ := hle0
          simp only [hle, hln, decide_true, Bool.and_self] at hx
          cases hz : ei.zero with
          | none => rw [hz] at hx; simp at hx
          | some z =>
            rw [hz] at hx
            simp only [bq, len_eq, TE.zlen hz, decide_true] at hx
            cases hfl : fillL (placeA ei.size) ps (rep (vcells z) n) with
            | none => rw [hfl] at hx; simp at hx
            | some cs =>
              rw [hfl] at hx
              simp only at hx
              cases ho : rowObj ei ti.el cs with
              | none => rw [ho] at hx; simp at hx
              | some o =>
                rw [ho] at hx
                simp at hx
                obtain ⟨rfl, rfl⟩ := hx
                have hzv := vcells_VR (flat_VR ρ 5 z (TE.flat hz))
                have hrep := rep_LR hzv n
                rw [TE.zlen hz] at hrep
                obtain ⟨r', k1, k2⟩ := fill_ok (ρ := ρ) (pl := placeA ei.size) (pl' := fun i => some (i * ei.size, ei.size)) (fun i x hi => by simpa [placeA] using hi) ps ps' _ cs _ hp hrep hfl
                have h0 : ρ h.n = none := hf h.n (Nat.le_refl _) (by rw [alloc_n]; omega)
                have st := alloc_rowObj (e := ti.el) ho hr h0 k2
                have hle' : ¬ 16777216 < n * ei.size := by have : Nat.mul n ei.size = n * ei.size := rfl; omega
                refine ⟨rfl, _, .slice (some ⟨w.heap.size, 0, none⟩) n n, _, ?_, ?_, st⟩
                · have hm : Instr.fill (fun i => some (i * ei.size, ei.size)) (Array.map (fun x => z.cells[x % z.cells.size]!) (Array.range (n * ei.size))) ps' = some r' := k1
                  by_cases h00 : n = 0 ∨ ei.size = 0
                  · have h01 : n * ei.size = 0 := by rcases h00 with rfl | h00 <;> simp [*]
                    rw [h01, Array.range_zero'] at hm
                    have hm' : Instr.fill (fun i => some (i * ei.size, ei.size)) #[] ps' = some r' := by simpa using hm
                    simp [Instr.buildSlice, T.run_u, T.isSlice h5, TE.run_size, h01, h00, newRow, Array.range_zero', hm']
                  · have h02 : (n * ei.size = 0) = False := eq_false fun e => h00 (Nat.mul_eq_zero.1 e)
                    simp [Instr.buildSlice, T.run_u, T.isSlice h5, TE.run_size, TE.run_zero _ hz, hle', h02, newRow, hm]
                · exact .slTight ⟨rfl, rfl, ⟨w.heap.size, 0, r'.size, P.cellsOf ti.el⟩, upd_same _ _ _, rfl, rfl⟩ (by unfold LOOSE; omega) (Nat.le_refl _)
        · have : (decide (n ≤ 16777216) && decide (Nat.mul n ei.size ≤ 16777216)) = false := by
            rw [← Bool.decide_and]; simpa using hle0
          rw [this] at hx
          simp at hx
theorem amakeSlice_ok {l l' c c' : Value} (hx : amakeSlice E t l c h = some (r, h1)) (hr : Rel P.cellsOf ρ h w) (hf : Fr ρ h.n h1.n) (hl : VR ρ l l') (hc : VR ρ c c') :
    h1.ob = h.ob ∧ Did P (Instr.makeSlice t l' c') ρ h w r h1 := by
  unfold amakeSlice at hx
  cases hln : asNat l with
  | none => rw [hln] at hx; simp at hx
  | some ln =>
    rw [hln] at hx
    simp only at hx
    cases hcn : asNat c with
    | none => rw [hcn] at hx; simp at hx
    | some cn =>
      rw [hcn] at hx
      simp only at hx
      obtain ⟨kl, _, rfl⟩ := asNat_VR hln hl
      obtain ⟨kc, _, rfl⟩ := asNat_VR hcn hc
      cases ht : E.ty.get t with
      | none => rw [ht] at hx; simp at hx
      | some ti =>
        rw [ht] at hx
        obtain ⟨info, T⟩ := hE.at ht
        simp only at hx
        cases h5 : Nat.beq ti.kd 5 with
        | false => rw [h5] at hx; simp at hx
        | true =>
          rw [h5] at hx
          simp only at hx
          cases hte : E.ty.get ti.el with
          | none => rw [hte] at hx; simp at hx
          | some ei =>
            rw [hte] at hx
            obtain ⟨einfo, TE⟩ := hE.at hte
            simp only [ble_eq, bq, len_eq] at hx
            cases hz : ei.zero with
            | none => rw [hz] at hx; simp at hx
            | some z =>
              rw [hz] at hx
              simp only at hx
              by_cases h1' : ln ≤ cn
              · by_cases h2' : cn ≤ 1099511627776
                · by_cases h3' : ei.bytes ≤ 256
                  · simp only [h1', h2', h3', TE.zlen hz, decide_true] at hx
                    cases ho : rowObj ei ti.el (rep (vcells z) cn) with
                    | none => rw [ho] at hx; simp at hx
                    | some o =>
                      rw [ho] at hx
                      simp at hx
                      obtain ⟨rfl, rfl⟩ := hx
                      have hzv := vcells_VR (flat_VR ρ 5 z (TE.flat hz))
                      have hrep := rep_LR hzv cn
                      rw [TE.zlen hz] at hrep
                      have h0 : ρ h.n = none := hf h.n (Nat.le_refl _) (by rw [alloc_n]; omega)
                      have st := alloc_rowObj (e := ti.el) ho hr h0 hrep
                      have hb : (einfo.bytes : Int) * (cn : Int) ≤ 281474976710656 := by
                        have h4 : einfo.bytes * cn ≤ 256 * 1099511627776 := Nat.mul_le_mul (TE.bytes ▸ h3') h2'
                        have : ((einfo.bytes * cn : Nat) : Int) ≤ 281474976710656 := by omega
                        rwa [Int.natCast_mul] at this
                      have hrun := run_make (P := P) w t ti.el einfo z (T.isSlice h5 ▸ T.hu) TE.hi (TE.zero ▸ hz) kl kc (ln : Int) (cn : Int) (by omega) (by omega) hb (by omega)
                      simp only [Int.toNat_natCast] at hrun
                      rw [← TE.size] at hrun
                      refine ⟨rfl, _, _, _, hrun, ?_, st⟩
                      exact .slTight ⟨rfl, rfl, ⟨w.heap.size, 0, _, P.cellsOf ti.el⟩, upd_same _ _ _, rfl, rfl⟩ (by unfold LOOSE; omega) h1'
                  · simp [h1', h2', h3'] at hx
                · simp [h1', h2'] at hx
              · simp [h1'] at hx

theorem afieldAddr_ok {x x' : Value} {i : Nat} (hx : afieldAddr E t x i h = some (r, h1)) (hr : Rel P.cellsOf ρ h w) (hv : VR ρ x x') : h1 = h ∧ Did P (Instr.fieldAt t x' i) ρ h w r h1 := by
  unfold afieldAddr at hx
  cases hp : asPtr x with
  | none => rw [hp] at hx; simp at hx
  | some p =>
    rw [hp] at hx
    obtain ⟨im, hb, rfl⟩ := asPtr_VR hp hv
    cases ht : E.ty.get t with
    | none => rw [ht] at hx; simp at hx
    | some ti =>
      rw [ht] at hx
      obtain ⟨info, T⟩ := hE.at ht
      simp only at hx
      cases hf : nth ti.fs i with
      | none => rw [hf] at hx; simp at hx
      | some f =>
        rw [hf] at hx
        obtain ⟨fs, fd, g1, g2, g3, g4⟩ := T.field hf
        simp only [bq] at hx
        by_cases h0 : f.size = 0
        · simp [h0] at hx
        · simp [h0] at hx
          obtain ⟨rfl, rfl⟩ := hx
          have hsz := (field_type hE.types g4 w).1
          rw [← g3] at hsz
          refine ⟨rfl, Did.same hr ?_ (VR.ptr_mk hb)⟩
          have hoff : f.off = fd.offset := by rw [g3]; rfl
          have e : im.sh + p.off + fd.offset = im.sh + Nat.add p.off f.off := by rw [hoff]; show _ = im.sh + (p.off + fd.offset); omega
          simp [Instr.fieldAt, T.run_u, g1, g2, Instr.sureAddr, fieldPlace, hsz, h0, Addr.add_lit, e]

theorem aggAt_some {off n : Nat} {l : List Value} (hx : aggAt off n l h = some (r, h1)) : ∃ q, tk n (drp off l) = some q ∧ r = .agg ⟨q⟩ ∧ h1 = h := by
  unfold aggAt at hx
  cases hq : tk n (drp off l) with
  | none => rw [hq] at hx; simp at hx
  | some q => rw [hq] at hx; simp at hx; exact ⟨q, rfl, hx.1.symm, hx.2.symm⟩
theorem agg_LR {off n : Nat} {l q : List Value} {cs' : Array Value} (hq : tk n (drp off l) = some q) (hl : LR ρ l cs'.toList) : LR ρ q (cs'.extract off (off + n)).toList := by
  rw [drp_eq] at hq
  obtain ⟨rfl, _⟩ := tk_some _ _ _ hq
  rw [Array.toList_extract, List.extract_eq_take_drop, Nat.add_sub_cancel_left]
  exact (hl.drop off).take n

theorem afield_ok {x x' : Value} {i : Nat} (hx : afield E t x i h = some (r, h1)) (hr : Rel P.cellsOf ρ h w) (hv : VR ρ x x') : h1 = h ∧ Did P (Instr.field t x' i) ρ h w r h1 := by
  unfold afield at hx
  cases hp : asAgg x with
  | none => rw [hp] at hx; simp at hx
  | some cs =>
    rw [hp] at hx
    obtain ⟨cs', rfl, hl⟩ := asAgg_VR hp hv
    cases ht : E.ty.get t with
    | none => rw [ht] at hx; simp at hx
    | some ti =>
      rw [ht] at hx
      obtain ⟨info, T⟩ := hE.at ht
      simp only at hx
      cases hf : nth ti.fs i with
      | none => rw [hf] at hx; simp at hx
      | some f =>
        rw [hf] at hx
        obtain ⟨fs, fd, g1, g2, g3, g4⟩ := T.field hf
        obtain ⟨hsz, hag⟩ := field_type hE.types g4 w
        rw [← g3] at hsz hag
        have hoff : fd.offset = f.off := by rw [g3]; rfl
        simp only [bq] at hx
        by_cases h0 : f.size = 0
        · simp [h0] at hx
        · simp only [h0, decide_false] at hx
          cases ha : f.agg with
          | true =>
            rw [ha] at hx
            obtain ⟨q, hq, rfl, rfl⟩ := aggAt_some hE hx
            refine ⟨rfl, Did.same hr ?_ (.agg (cs' := cs'.extract f.off (f.off + f.size)) (agg_LR hE hq hl))⟩
            simp [Instr.field, T.run_u, g1, g2, Go.asAgg, part, hag, ha, hsz, hoff]
          | false =>
            rw [ha] at hx
            obtain ⟨hq, rfl⟩ := retO_some hx
            rw [nth_eq] at hq
            obtain ⟨v', k1, k2⟩ := hl.get hq
            refine ⟨rfl, Did.same hr ?_ k2⟩
            rw [Array.getElem?_toList] at k1
            simp [Instr.field, T.run_u, g1, g2, Go.asAgg, part, hag, ha, hoff, k1]

theorem elAddr_ok {el i n : Nat} {p : PA} {im : Im} (hx : elAddr E el p i n h = some (r, h1)) (hb : ρ p.b = some im) : h1 = h ∧ i < n ∧ ∃ ei info, TA P el ei info ∧ r = ptrV p.b (p.off + i * ei.size) := by
  unfold elAddr at hx
  cases hte : E.ty.get el with
  | none => rw [hte] at hx; simp at hx
  | some ei =>
    rw [hte] at hx
    obtain ⟨info, TE⟩ := hE.at hte
    simp only [blt_eq] at hx
    by_cases hi : i < n
    · simp [hi] at hx
      exact ⟨hx.2.symm, hi, ei, info, TE, hx.1.symm⟩
    · simp [hi] at hx
theorem aindexAddr_ok {x x' i i' : Value} (hx : aindexAddr E t x i h = some (r, h1)) (hr : Rel P.cellsOf ρ h w) (hv : VR ρ x x') (hi : VR ρ i i') : h1 = h ∧ Did P (Instr.indexAt t x' i') ρ h w r h1 := by
  unfold aindexAddr at hx
  cases hin : asNat i with
  | none => rw [hin] at hx; simp at hx
  | some n =>
    rw [hin] at hx
    obtain ⟨k, _, rfl⟩ := asNat_VR hin hi
    simp only at hx
    cases ht : E.ty.get t with
    | none => rw [ht] at hx; simp at hx
    | some ti =>
      rw [ht] at hx
      obtain ⟨info, T⟩ := hE.at ht
      simp only at hx
      cases h5 : Nat.beq ti.kd 5 with
      | true =>
        rw [h5] at hx
        simp only at hx
        cases hs : asSl x with
        | none => rw [hs] at hx; simp at hx
        | some s =>
          rw [hs] at hx
          simp only at hx
          cases hsa : s.a with
          | none => rw [hsa] at hx; simp at hx
          | some p =>
            rw [hsa] at hx
            simp only at hx
            rcases asSl_VR hs hv with ⟨rfl, _⟩ | ⟨q, im, g1, g2, g3, g4, rfl⟩ | ⟨q, im, a', c', g1, g2, g3, g4, rfl, g5⟩
            · simp at hsa
            · rw [g1] at hsa; cases hsa
              obtain ⟨rfl, hlt, ei, einfo, TE, rfl⟩ := elAddr_ok hE hx g2
              refine ⟨rfl, Did.same hr ?_ (VR.ptr_mk g2)⟩
              have e : im.sh + p.off + n * ei.size = im.sh + (p.off + n * ei.size) := by omega
              have hlt' : (n : Int) < (s.n : Int) := by omega
              simp [Instr.indexAt, asIntOf, T.run_u, T.isSlice h5, TE.run_size, hlt, Addr.add_lit, e]
            · rw [g1] at hsa; cases hsa
              obtain ⟨rfl, hlt, ei, einfo, TE, rfl⟩ := elAddr_ok hE hx g2
              rcases g5 with ⟨rfl, _⟩ | ⟨h0, _⟩
              · refine ⟨rfl, Did.same hr ?_ (VR.ptr_mk g2)⟩
                have e : im.sh + p.off + n * ei.size = im.sh + (p.off + n * ei.size) := by omega
                simp [Instr.indexAt, asIntOf, T.run_u, T.isSlice h5, TE.run_size, hlt, Addr.add_lit, e]
              · omega
      | false =>
        rw [h5] at hx
        simp only at hx
        cases h6 : Nat.beq ti.kd 6 with
        | false => rw [h6] at hx; simp at hx
        | true =>
          rw [h6] at hx
          simp only at hx
          cases hp : asPtr x with
          | none => rw [hp] at hx; simp at hx
          | some p =>
            rw [hp] at hx
            obtain ⟨im, hb, rfl⟩ := asPtr_VR hp hv
            obtain ⟨rfl, hlt, ei, einfo, TE, rfl⟩ := elAddr_ok hE hx hb
            refine ⟨rfl, Did.same hr ?_ (VR.ptr_mk hb)⟩
            have e : im.sh + p.off + n * ei.size = im.sh + (p.off + n * ei.size) := by omega
            simp [Instr.indexAt, asIntOf, T.run_u, T.isArray h6, Instr.sureAddr, TE.run_size, hlt, Addr.add_lit, e]

theorem aindex_ok {x x' i i' : Value} (hx : aindex E t x i h = some (r, h1)) (hr : Rel P.cellsOf ρ h w) (hv : VR ρ x x') (hi : VR ρ i i') : h1 = h ∧ Did P (Instr.index t x' i') ρ h w r h1 := by
  unfold aindex at hx
  cases hin : asNat i with
  | none => rw [hin] at hx; simp at hx
  | some n =>
    rw [hin] at hx
    obtain ⟨k, _, rfl⟩ := asNat_VR hin hi
    simp only at hx
    cases ht : E.ty.get t with
    | none => rw [ht] at hx; simp at hx
    | some ti =>
      rw [ht] at hx
      obtain ⟨info, T⟩ := hE.at ht
      simp only at hx
      cases h3 : Nat.beq ti.kd 3 with
      | true =>
        rw [h3] at hx
        simp only at hx
        cases hs : asStr x with
        | none => rw [hs] at hx; simp at hx
        | some l =>
          rw [hs] at hx
          obtain ⟨s, rfl, rfl, rfl⟩ := asStr_VR hs hv
          obtain ⟨hq, rfl⟩ := retO_some hx
          rw [nth_eq] at hq
          cases hb : s.data.toList[n]? with
          | none => rw [hb] at hq; simp [optMap] at hq
          | some b =>
            rw [hb] at hq; simp [optMap] at hq; subst hq
            refine ⟨rfl, Did.same hr ?_ (by unfold u8v; exact .int _ _)⟩
            have hb' : s[n]? = some b := by
              have : s.data[n]? = some b := by simpa using hb
              obtain ⟨hlt, hg⟩ := Array.getElem?_eq_some_iff.1 this
              rw [getElem?_pos s n hlt]
              exact congrArg some hg
            simp [Instr.index, asIntOf, T.run_u, T.isString h3, hb']
      | false =>
        rw [h3] at hx
        simp only at hx
        cases h6 : Nat.beq ti.kd 6 with
        | false => rw [h6] at hx; simp at hx
        | true =>
          rw [h6] at hx
          simp only at hx
          cases hp : asAgg x with
          | none => rw [hp] at hx; simp at hx
          | some cs =>
            rw [hp] at hx
            obtain ⟨cs', rfl, hl⟩ := asAgg_VR hp hv
            simp only at hx
            cases hte : E.ty.get ti.el with
            | none => rw [hte] at hx; simp at hx
            | some ei =>
              rw [hte] at hx
              obtain ⟨einfo, TE⟩ := hE.at hte
              simp only [blt_eq] at hx
              by_cases hlt : n < ti.ln
              · simp only [hlt, decide_true] at hx
                cases ha : ei.agg with
                | true =>
                  rw [ha] at hx
                  obtain ⟨q, hq, rfl, rfl⟩ := aggAt_some hE hx
                  have hq' : tk ei.size (drp (n * ei.size) cs) = some q := hq
                  refine ⟨rfl, Did.same hr ?_ (.agg (cs' := cs'.extract (n * ei.size) (n * ei.size + ei.size)) (agg_LR hE hq' hl))⟩
                  simp [Instr.index, asIntOf, T.run_u, T.isArray h6, hlt, part, TE.run_agg, TE.run_size, ha]
                | false =>
                  rw [ha] at hx
                  obtain ⟨hq, rfl⟩ := retO_some hx
                  rw [nth_eq] at hq
                  obtain ⟨v', k1, k2⟩ := hl.get hq
                  refine ⟨rfl, Did.same hr ?_ k2⟩
                  rw [Array.getElem?_toList] at k1
                  have k1' : cs'[n * ei.size]? = some v' := k1
                  simp [Instr.index, asIntOf, T.run_u, T.isArray h6, hlt, part, TE.run_agg, TE.run_size, ha, k1']
              · simp [hlt] at hx
end
end Go.Proofs.YtkmbkejmfffafaaGreatDoor.Refl
