/- The second reading of the model's code, part 4 of 13. -/
import Derived.Test.YtkmbkejmfffafaaGreatDoorM3
set_option linter.unusedSectionVars false
set_option linter.unusedVariables false
set_option linter.unusedSimpArgs false
/- The second reading: memory grows, what is owed stays owed. -/
namespace Go.Proofs.YtkmbkejmfffafaaGreatDoor.Refl
open Go
set_option linter.unusedVariables false
set_option linter.unusedSimpArgs false

structure Fwd (h h1 : AH) : Prop where
  n : h.n ≤ h1.n
  ob : OB h1 → OB h
  keep : ∀ b, b < h.n → b ∉ h1.log → h1.obj b = h.obj b
  logm : ∀ b, b ∈ h.log → b ∈ h1.log
theorem Fwd.refl (h : AH) : Fwd h h := ⟨Nat.le_refl _, id, fun _ _ _ => rfl, fun _ h => h⟩
theorem Fwd.trans {a b c : AH} (h : Fwd a b) (k : Fwd b c) : Fwd a c := ⟨Nat.le_trans h.n k.n, fun q => h.ob (k.ob q),
  fun x hx hl => (k.keep x (Nat.lt_of_lt_of_le hx h.n) hl).trans (h.keep x hx fun hm => hl (k.logm _ hm)), fun x hx => k.logm _ (h.logm _ hx)⟩
theorem Fwd.alloc (h : AH) (o : AObj) : Fwd h (h.alloc o) := ⟨Nat.le_succ _, id, fun b hb _ => alloc_obj_old h o (by omega), fun _ h => h⟩
theorem Fwd.write (h : AH) (b : Nat) (o : AObj) : Fwd h (h.write b o) := ⟨Nat.le_refl _, id,
  fun x hx hl => write_obj_other h o fun e => hl (by rw [write_log, mem_addLog]; exact .inl e), fun x hx => by rw [write_log, mem_addLog]; exact .inr hx⟩
theorem Fwd.of_eq {h h1 : AH} (e : h1 = h) : Fwd h h1 := e ▸ Fwd.refl h
/-- Nothing but what is owed. -/
theorem Fwd.same {h h1 : AH} (ht : h1.t = h.t) (hn : h1.n = h.n) (hl : h1.log = h.log) (ho : OB h1 → OB h) : Fwd h h1 :=
  ⟨Nat.le_of_eq hn.symm, ho, fun b _ _ => AH.obj_eq ht hn b, fun b hb => by rw [hl]; exact hb⟩
section
variable {h h1 : AH} {r : Value} {E : Env} {t : TypeId}
theorem Fwd.req {c : Bool} (hx : h.req c = some h1) : Fwd h h1 := by
  obtain ⟨k1, k2, k3, k4⟩ := req_some hx
  exact .same k1 k2 k3 fun q => (k4 q).1
theorem beqB_true {a b : Bool} (h : beqB a b = true) : a = b := by cases a <;> cases b <;> simp [beqB] at h <;> rfl
theorem dec_some {b d : Bool} (hx : h.dec b = (d, h1)) : h1.t = h.t ∧ h1.n = h.n ∧ h1.log = h.log ∧ (OB h1 → OB h ∧ d = b) := by
  unfold AH.dec at hx
  cases ho : h.orc with
  | nil =>
    simp only [ho] at hx
    obtain ⟨rfl, rfl⟩ := Prod.mk.inj hx
    exact ⟨rfl, rfl, rfl, fun q => ⟨q, rfl⟩⟩
  | cons kd rest =>
    simp only [ho] at hx
    cases hk : Nat.beq kd.1 h.cnt with
    | true =>
      simp only [hk] at hx
      obtain ⟨rfl, rfl⟩ := Prod.mk.inj hx
      exact ⟨rfl, rfl, rfl, fun q => ⟨fun b hb => q b (List.mem_cons_of_mem _ hb), beqB_true (q _ (List.mem_cons_self ..))⟩⟩
    | false =>
      simp only [hk] at hx
      obtain ⟨rfl, rfl⟩ := Prod.mk.inj hx
      exact ⟨rfl, rfl, rfl, fun q => ⟨fun b hb => q b hb, rfl⟩⟩
theorem Fwd.dec {b d : Bool} (hx : h.dec b = (d, h1)) : Fwd h h1 := by
  obtain ⟨k1, k2, k3, k4⟩ := dec_some hx
  exact .same k1 k2 k3 fun q => (k4 q).1
theorem retStr_fwd {o : Option (List UInt8)} (hx : retStr h o = some (r, h1)) : Fwd h h1 := by
  obtain ⟨_, _, _, e⟩ := retStr_some hx; exact .of_eq e
theorem retAgg_fwd {o : Option (List Value)} (hx : retAgg h o = some (r, h1)) : Fwd h h1 := by
  obtain ⟨_, _, _, e⟩ := retAgg_some hx; exact .of_eq e
theorem retO_fwd {o : Option Value} (hx : retO h o = some (r, h1)) : Fwd h h1 := .of_eq (retO_some hx).2
theorem aggAt_fwd {off n : Nat} {l : List Value} (hx : aggAt off n l h = some (r, h1)) : Fwd h h1 := by
  unfold aggAt at hx
  split at hx
  · cases hx; exact .refl _
  · simp at hx
theorem storeAt_fwd {b off : Nat} {vs : List Value} (hx : storeAt h b off vs = some h1) : Fwd h h1 := by
  unfold storeAt at hx
  cases ho : h.obj b <;> rw [ho] at hx <;> simp only [stCells, stBytes] at hx
  all_goals (repeat' split at hx)
  all_goals first | (cases hx; exact .write _ _ _) | (simp at hx; done)
theorem unit_fwd {o : Option AH} (ho : ∀ h1, o = some h1 → Fwd h h1) (hx : unit o = some (r, h1)) : Fwd h h1 := ho _ (unit_some hx).1
theorem aload_fwd {v : Value} (hx : aload E t v h = some (r, h1)) : Fwd h h1 := by
  unfold aload at hx
  repeat' split at hx
  all_goals first | exact aggAt_fwd hx | exact retO_fwd hx | (simp at hx; done)
theorem astore_fwd {a v : Value} (hx : astore E t a v h = some h1) : Fwd h h1 := by
  unfold astore at hx
  repeat' split at hx
  all_goals first | exact storeAt_fwd hx | (cases hx; exact .refl _) | (simp at hx; done)
theorem aalloc_fwd {v : Value} (hx : aalloc t v h = some (r, h1)) : Fwd h h1 := by
  unfold aalloc at hx
  repeat' split at hx
  all_goals first | (cases hx; exact .alloc _ _) | (simp at hx; done)
theorem abuild_fwd {ps : List (Nat × Value)} (hx : abuild E t ps h = some (r, h1)) : Fwd h h1 := by
  unfold abuild at hx
  repeat' split at hx
  all_goals first | exact retAgg_fwd hx | (simp at hx; done)
theorem abuildSlice_fwd {n : Nat} {ps : List (Nat × Value)} (hx : abuildSlice E t n ps h = some (r, h1)) : Fwd h h1 := by
  unfold abuildSlice at hx
  repeat' split at hx
  all_goals first | (cases hx; exact .alloc _ _) | (simp at hx; done)
theorem amakeSlice_fwd {l c : Value} (hx : amakeSlice E t l c h = some (r, h1)) : Fwd h h1 := by
  unfold amakeSlice at hx
  repeat' split at hx
  all_goals first | (cases hx; exact .alloc _ _) | (simp at hx; done)
theorem aslice_fwd {x : Value} {lo hi mx : Option Value} (hx : aslice E t x lo hi mx h = some (r, h1)) : Fwd h h1 := by
  unfold aslice sliceStr sliceSl sliceArr sliceTight sliceLoose sliceTight1 at hx
  repeat' split at hx
  all_goals first | exact retStr_fwd hx | exact retO_fwd hx | (cases hx; exact .refl _) | (simp at hx; done)
theorem afieldAddr_fwd {x : Value} {i : Nat} (hx : afieldAddr E t x i h = some (r, h1)) : Fwd h h1 := by
  unfold afieldAddr at hx
  repeat' split at hx
  all_goals first | (cases hx; exact .refl _) | (simp at hx; done)
theorem afield_fwd {x : Value} {i : Nat} (hx : afield E t x i h = some (r, h1)) : Fwd h h1 := by
  unfold afield at hx
  repeat' split at hx
  all_goals first | exact aggAt_fwd hx | exact retO_fwd hx | (simp at hx; done)
theorem aindexAddr_fwd {x i : Value} (hx : aindexAddr E t x i h = some (r, h1)) : Fwd h h1 := by
  unfold aindexAddr elAddr at hx
  repeat' split at hx
  all_goals first | (cases hx; exact .refl _) | (simp at hx; done)
theorem aindex_fwd {x i : Value} (hx : aindex E t x i h = some (r, h1)) : Fwd h h1 := by
  unfold aindex at hx
  repeat' split at hx
  all_goals first | exact aggAt_fwd hx | exact retO_fwd hx | (simp at hx; done)
theorem alookup_fwd {x k : Value} {ok : Bool} (hx : alookup E t x k ok h = some (r, h1)) : Fwd h h1 := by
  unfold alookup lookIn lookRet at hx
  repeat' split at hx
  all_goals first | (cases hx; exact .refl _) | (simp at hx; done)
theorem amapUpdate_fwd {x k v : Value} (hx : amapUpdate E t x k v h = some h1) : Fwd h h1 := by
  unfold amapUpdate mapPut at hx
  repeat' split at hx
  all_goals first | (cases hx; exact .write _ _ _) | (simp at hx; done) | (cases hx; split <;> exact .write _ _ _)
theorem amapEntry_fwd {x k : Value} (hx : amapEntry E t x k h = some (r, h1)) : Fwd h h1 := by
  unfold amapEntry at hx
  repeat' split at hx
  all_goals first | (cases hx; exact .write _ _ _) | (simp at hx; done)
theorem aentryStore_fwd {x k v : Value} (hx : aentryStore x k v h = some h1) : Fwd h h1 := by
  unfold aentryStore at hx
  repeat' split at hx
  all_goals first | (cases hx; exact .write _ _ _) | (simp at hx; done)
theorem adelete_fwd {x k : Value} (hx : adelete E t x k h = some h1) : Fwd h h1 := by
  unfold adelete at hx
  repeat' split at hx
  all_goals first | (cases hx; exact .write _ _ _) | (simp at hx; done)
theorem arange_fwd {x : Value} (hx : arange E t x h = some (r, h1)) : Fwd h h1 := by
  unfold arange at hx
  repeat' split at hx
  all_goals first | (cases hx; exact .alloc _ _) | (simp at hx; done)
theorem anext_fwd {x : Value} (hx : anext x h = some (r, h1)) : Fwd h h1 := by
  unfold anext nextAt at hx
  repeat' split at hx
  all_goals first | (cases hx; exact .write _ _ _) | (cases hx; exact .refl _) | (simp at hx; done)
theorem unF_fwd {op : UnOp} {x : Value} (hx : unF op x h = some (r, h1)) : Fwd h h1 := by
  cases op <;> simp only [unF, negI, notI] at hx <;> (repeat' split at hx)
  all_goals first | (cases hx; exact .refl _) | (simp at hx; done)
theorem ints_fwd {f : IntKind → Int → Int → Value} {a b : Value} (hx : ints f a b h = some (r, h1)) : Fwd h h1 := by
  unfold ints two at hx
  repeat' split at hx
  all_goals first | (cases hx; exact .refl _) | (simp at hx; done)
theorem addS_fwd {a b : List UInt8} (hx : addS a b h = some (r, h1)) : Fwd h h1 := by
  unfold addS at hx
  split at hx
  · simp at hx
  · rename_i h2 hq
    rw [fin_eq _ _ _ _ (forceL_eq _ _)] at hx
    cases hx; exact .req hq
theorem either_fwd {f : IntKind → Int → Int → Value} {g : List UInt8 → List UInt8 → AH → AR} {a b : Value} (hg : ∀ a b, g a b h = some (r, h1) → Fwd h h1) (hx : either f g a b h = some (r, h1)) : Fwd h h1 := by
  unfold either strs two at hx
  repeat' split at hx
  all_goals first | exact hg _ _ hx | (cases hx; exact .refl _) | (simp at hx; done)
theorem shft_fwd {f : IntKind → Int → Nat → Value} {a b : Value} (hx : shft f a b h = some (r, h1)) : Fwd h h1 := by
  unfold shft at hx
  repeat' split at hx
  all_goals first | (cases hx; exact .refl _) | (simp at hx; done)
theorem binF_fwd {op : BinOp} {x y : Operand} {a b : Value} (hx : binF op E t x y a b h = some (r, h1)) : Fwd h h1 := by
  have hs : ∀ {c : List UInt8 → List UInt8 → Bool} {a b}, (some (Value.bool (c a b), h) : AR) = some (r, h1) → Fwd h h1 := fun hq => by cases hq; exact .refl _
  cases op with
  | add => exact either_fwd (f := addI) (g := addS) (fun _ _ => addS_fwd) hx
  | sub => exact ints_fwd (f := subI) hx
  | mul => exact ints_fwd (f := mulI) hx
  | quo =>
    have hx : (match notZero b with | true => ints quoI a b h | false => none) = some (r, h1) := hx
    split at hx
    · exact ints_fwd hx
    · simp at hx
  | rem =>
    have hx : (match notZero b with | true => ints remI a b h | false => none) = some (r, h1) := hx
    split at hx
    · exact ints_fwd hx
    · simp at hx
  | and => exact ints_fwd (f := andI) hx
  | or => exact ints_fwd (f := orI) hx
  | xor => exact ints_fwd (f := xorI) hx
  | andNot => exact ints_fwd (f := andNotI) hx
  | shl => exact shft_fwd (f := shlI) hx
  | shr => exact shft_fwd (f := shrI) hx
  | lss => exact either_fwd (f := ltI) (g := ltS) (fun _ _ => hs (c := fun a b => Op.bytesLess a b)) hx
  | leq => exact either_fwd (f := leI) (g := leS) (fun _ _ => hs (c := fun a b => Op.bytesLess a b || bytesEq a b)) hx
  | gtr => exact either_fwd (f := gtI) (g := gtS) (fun _ _ => hs (c := fun a b => !(Op.bytesLess a b || bytesEq a b))) hx
  | geq => exact either_fwd (f := geI) (g := geS) (fun _ _ => hs (c := fun a b => !Op.bytesLess a b)) hx
  | eql =>
    have hx : bEql E t x y a b h = some (r, h1) := hx
    unfold bEql two eqS retB at hx
    repeat' split at hx
    all_goals first | (cases hx; exact .refl _) | (simp at hx; done)
  | neq =>
    have hx : bNeq E t x y a b h = some (r, h1) := hx
    unfold bNeq two neS retNB at hx
    repeat' split at hx
    all_goals first | (cases hx; exact .refl _) | (simp at hx; done)
theorem aconvert_fwd {s d : TypeId} {x : Value} (hx : aconvert E s d x h = some (r, h1)) : Fwd h h1 := by
  unfold aconvert cInt cStr cSl cSame cSame1 cUns cPtr at hx
  repeat' split at hx
  all_goals first | (cases hx; exact .refl _) | (cases hx; exact .alloc _ _) | (cases hx; exact .write _ _ _) | exact retStr_fwd hx | (simp at hx; done) | (rw [fin_eq _ _ _ _ (forceL_eq _ _)] at hx; cases hx; exact .refl _)
theorem amakeIface_fwd {x : Value} (hx : amakeIface E t x h = some (r, h1)) : Fwd h h1 := by
  unfold amakeIface at hx
  repeat' split at hx
  all_goals first | (cases hx; exact .refl _) | (simp at hx; done)
theorem anilCheck_fwd {x : Value} (hx : anilCheck x h = some (r, h1)) : Fwd h h1 := by
  unfold anilCheck at hx
  repeat' split at hx
  all_goals first | (cases hx; exact .refl _) | (simp at hx; done)
theorem app2_fwd {ei : TI} {e : TypeId} {s x : Value} {sl : SL} {m : Nat} (hx : app2 ei e s x sl m h = some (r, h1)) : Fwd h h1 := by
  unfold app2 appLoose appLoose1 appIn appNew retSl at hx
  repeat' split at hx
  all_goals first | (cases hx; exact .refl _) | (cases hx; exact .alloc _ _) | (cases hx; exact (Fwd.write _ _ _).trans (.alloc _ _)) | (simp at hx; done) | (cases hx; rename_i hst; exact storeAt_fwd hst)
theorem aappend_fwd {s x : Value} (hx : aappend E t s x h = some (r, h1)) : Fwd h h1 := by
  unfold aappend app1 at hx
  repeat' split at hx
  all_goals first | (simp at hx; done) | (rename_i hq; exact (Fwd.req hq).trans (app2_fwd hx))
theorem acopy_fwd {s x : Value} (hx : acopy E t s x h = some (r, h1)) : Fwd h h1 := by
  unfold acopy copyN at hx
  repeat' split at hx
  all_goals first | (cases hx; exact .refl _) | (simp at hx; done) | (cases hx; rename_i hst; exact storeAt_fwd hst)
theorem alen_fwd {x : Value} (hx : alen E t x h = some (r, h1)) : Fwd h h1 := by
  unfold alen lenMap at hx
  repeat' split at hx
  all_goals first | (cases hx; exact .refl _) | (simp at hx; done)
theorem acap_fwd {x : Value} (hx : acap E t x h = some (r, h1)) : Fwd h h1 := by
  unfold acap at hx
  repeat' split at hx
  all_goals first | (cases hx; exact .refl _) | (simp at hx; done)
theorem mm_fwd {f : IV → IV → Value} {x y : Value} (hx : mm f x y h = some (r, h1)) : Fwd h h1 := by
  unfold mm at hx
  repeat' split at hx
  all_goals first | (cases hx; exact .refl _) | (simp at hx; done)
theorem asliceData_fwd {x : Value} (hx : asliceData x h = some (r, h1)) : Fwd h h1 := by
  unfold asliceData at hx
  repeat' split at hx
  all_goals first | (cases hx; exact .refl _) | (simp at hx; done)
theorem aunsafeString_fwd {x y : Value} (hx : aunsafeString E t x y h = some (r, h1)) : Fwd h h1 := by
  unfold aunsafeString unsStr at hx
  repeat' split at hx
  all_goals first | (cases hx; exact .refl _) | (simp at hx; done) | (rw [fin_eq _ _ _ _ (forceL_eq _ _)] at hx; cases hx; exact .write _ _ _)
theorem one_fwd {f : Env → TypeId → Value → AH → AR} {ts : List TypeId} {args : List Value} (hf : ∀ t x, f E t x h = some (r, h1) → Fwd h h1) (hx : one f E ts args h = some (r, h1)) : Fwd h h1 := by
  unfold one at hx
  repeat' split at hx
  all_goals first | exact hf _ _ hx | (simp at hx; done)
theorem pair_fwd {f : Env → TypeId → Value → Value → AH → AR} {ts : List TypeId} {args : List Value} (hf : ∀ t x y, f E t x y h = some (r, h1) → Fwd h h1) (hx : pair f E ts args h = some (r, h1)) : Fwd h h1 := by
  unfold pair at hx
  repeat' split at hx
  all_goals first | exact hf _ _ _ hx | (simp at hx; done)
theorem builtinF_fwd {b : Builtin} {ts : List TypeId} {args : List Value} (hx : builtinF b E ts args h = some (r, h1)) : Fwd h h1 := by
  cases b with
  | append =>
    have hx : bfAppend E ts args h = some (r, h1) := hx
    unfold bfAppend at hx
    repeat' split at hx
    all_goals first | exact pair_fwd (fun _ _ _ => aappend_fwd) hx | (simp at hx; done)
  | copy => exact pair_fwd (f := acopy) (fun _ _ _ => acopy_fwd) hx
  | len => exact one_fwd (f := alen) (fun _ _ => alen_fwd) hx
  | cap => exact one_fwd (f := acap) (fun _ _ => acap_fwd) hx
  | delete => exact pair_fwd (f := fun E t m k h => unit (adelete E t m k h)) (fun _ _ _ => unit_fwd fun _ => adelete_fwd) hx
  | unsafeString => exact pair_fwd (f := aunsafeString) (fun _ _ _ => aunsafeString_fwd) hx
  | unsafeSliceData =>
    have hx : bfData E ts args h = some (r, h1) := hx
    unfold bfData at hx
    repeat' split at hx
    all_goals first | exact asliceData_fwd hx | (simp at hx; done)
  | max =>
    have hx : bfMax E ts args h = some (r, h1) := hx
    unfold bfMax at hx
    repeat' split at hx
    all_goals first | exact mm_fwd hx | (simp at hx; done)
  | min =>
    have hx : bfMin E ts args h = some (r, h1) := hx
    unfold bfMin at hx
    repeat' split at hx
    all_goals first | exact mm_fwd hx | (simp at hx; done)
  | _ => simp [builtinF, bfNone] at hx
/-- Calls go forward. -/
def CFwd (C : CallF) : Prop := ∀ f args h r h1, C f args h = some (r, h1) → Fwd h h1
theorem callF_fwd {C : CallF} (hC : CFwd C) {c : Call} {tm : Tr Value} (hx : callF c E C tm h = some (r, h1)) : Fwd h h1 := by
  unfold callF at hx
  cases hc : c.callee with
  | builtin b => rw [hc] at hx; exact builtinF_fwd (b := b) hx
  | value f =>
    rw [hc] at hx
    have hx : callV c f E C tm h = some (r, h1) := hx
    unfold callV at hx
    repeat' split at hx
    all_goals first | exact hC _ _ _ _ _ hx | (simp at hx; done)
  | invoke q name =>
    rw [hc] at hx
    have hx : callI c q name E C tm h = some (r, h1) := hx
    unfold callI at hx
    repeat' split at hx
    all_goals first | exact hC _ _ _ _ _ hx | (simp at hx; done)
theorem aop0_fwd {C : CallF} (hC : CFwd C) {o : Op} {tm : Tr Value} (hx : aop0 o E C tm h = some (r, h1)) : Fwd h h1 := by
  cases o with
  | move x => cases hx; exact .refl _
  | assign x => cases hx; exact .refl _
  | pick c a b =>
    have hx : oPick c a b E C tm h = some (r, h1) := hx
    unfold oPick at hx
    split at hx
    · rename_i d _
      cases hd : h.dec d with
      | mk d2 h2 =>
        rw [hd] at hx
        simp only [pick2] at hx
        split at hx <;> (cases hx; exact .dec hd)
    · simp at hx
  | alloc e =>
    have hx : oAlloc e E C tm h = some (r, h1) := hx
    unfold oAlloc at hx
    repeat' split at hx
    all_goals first | exact aalloc_fwd hx | (simp at hx; done)
  | box e v => exact aalloc_fwd (t := e) (v := aeval tm v) hx
  | build ty ps => exact abuild_fwd (t := ty) (ps := partsOf tm ps.toList) hx
  | buildSlice ty n ps => exact abuildSlice_fwd (t := ty) (n := n) (ps := partsOf tm ps.toList) hx
  | load ty a => exact aload_fwd (t := ty) (v := aeval tm a) hx
  | store ty a v => exact unit_fwd (o := astore E ty (aeval tm a) (aeval tm v) h) (fun _ => astore_fwd) hx
  | nilCheck x => exact anilCheck_fwd (x := aeval tm x) hx
  | binOp op ty x y z => exact binF_fwd (op := op) (t := ty) (x := x) (y := y) (a := aeval tm x) (b := aeval tm y) hx
  | unOp op z x => exact unF_fwd (op := op) (x := aeval tm x) hx
  | convert s d x => exact aconvert_fwd (s := s) (d := d) (x := aeval tm x) hx
  | makeInterface ty x => exact amakeIface_fwd (t := ty) (x := aeval tm x) hx
  | makeFunc fn a b =>
    have hx : oFunc fn a b E C tm h = some (r, h1) := hx
    unfold oFunc at hx
    split at hx
    · cases hx; exact .refl _
    · simp at hx
  | makeMap ty q =>
    have hx : oMap q E C tm h = some (r, h1) := hx
    unfold oMap at hx
    split at hx
    · cases hx; exact .alloc _ _
    · simp at hx
  | makeSlice ty l c => exact amakeSlice_fwd (t := ty) (l := aeval tm l) (c := aeval tm c) hx
  | slice ty x lo hi mx => exact aslice_fwd (t := ty) (x := aeval tm x) (lo := aevalO tm lo) (hi := aevalO tm hi) (mx := aevalO tm mx) hx
  | fieldAddr ty x f => exact afieldAddr_fwd (t := ty) (x := aeval tm x) (i := f) hx
  | field ty x f => exact afield_fwd (t := ty) (x := aeval tm x) (i := f) hx
  | indexAddr ty x i => exact aindexAddr_fwd (t := ty) (x := aeval tm x) (i := aeval tm i) hx
  | index ty x i => exact aindex_fwd (t := ty) (x := aeval tm x) (i := aeval tm i) hx
  | lookup ty x k ok => exact alookup_fwd (t := ty) (x := aeval tm x) (k := aeval tm k) (ok := ok) hx
  | mapUpdate ty m k v => exact unit_fwd (o := amapUpdate E ty (aeval tm m) (aeval tm k) (aeval tm v) h) (fun _ => amapUpdate_fwd) hx
  | insert ty m k v => exact unit_fwd (o := amapUpdate E ty (aeval tm m) (aeval tm k) (aeval tm v) h) (fun _ => amapUpdate_fwd) hx
  | mapEntry ty m k => exact amapEntry_fwd (t := ty) (x := aeval tm m) (k := aeval tm k) hx
  | entryStore ty m s v => exact unit_fwd (o := aentryStore (aeval tm m) (aeval tm s) (aeval tm v) h) (fun _ => aentryStore_fwd) hx
  | range ty x => exact arange_fwd (t := ty) (x := aeval tm x) hx
  | next it b =>
    have hx : oNext it b E C tm h = some (r, h1) := hx
    unfold oNext at hx
    split at hx
    · exact anext_fwd hx
    · simp at hx
  | extract x i =>
    have hx : oExtract x i E C tm h = some (r, h1) := hx
    unfold oExtract at hx
    split at hx
    · exact retO_fwd hx
    · simp at hx
  | call c => exact callF_fwd hC (c := c) (tm := tm) hx
  | _ => simp [aop0, oNone] at hx
end
end Go.Proofs.YtkmbkejmfffafaaGreatDoor.Refl
/- The second reading against the model: each operation. -/
namespace Go.Proofs.YtkmbkejmfffafaaGreatDoor.Refl
open Go
set_option linter.unusedVariables false
set_option linter.unusedSimpArgs false

/-- A call that returns. -/
def Back (R : Value → World → Prop) : Ending → World → Prop
  | .returned v, w => R v w
  | _, _ => False
/-- The model's call comes to a value, by an entry of its own or by a body. -/
def Ans (P : Program) (f : Nat) (args : Array Value) (w : World) (R : Value → World → Prop) : Prop :=
  match (callFunc f args).run P w with
  | .ok (.value v) w' => R v w'
  | .ok (.enter f2 a2) w' => Calls P f2 a2 w' (Back R)
  | _ => False
/-- The same, as a deferred call. -/
def AnsD (P : Program) (f : Nat) (args : Array Value) (w : World) (R : Value → World → Prop) : Prop :=
  match (callFunc f args).run P w with
  | .ok (.value v) w' => R v w'
  | .ok (.enter f2 a2) w' => CallsD P f2 a2 .returning w' (fun e u w'' => u = .returning ∧ Back R e w'')
  | _ => False
/-- The globals stand where they stand. -/
def GL (G : Nat) (ρ : Ren) : Prop := ∀ g, g < G → ∃ im, ρ g = some im ∧ im.blk = g ∧ im.sh = 0
theorem GL.mono {G : Nat} {ρ ρ' : Ren} (h : GL G ρ) (he : Ext ρ ρ') : GL G ρ' := fun g hg => let ⟨im, a, b⟩ := h g hg; ⟨im, he _ _ a, b⟩
/-- The slots. -/
structure TR (N : Nat) (ρ : Ren) (t : Tr Value) (tmps : Array Value) : Prop where
  size : tmps.size = N
  val : ∀ i, VR ρ (unset (t.get i)) (tmps.getD i undef)
theorem TR.mono {N : Nat} {ρ ρ' : Ren} {t : Tr Value} {tmps : Array Value} (h : TR N ρ t tmps) (he : Ext ρ ρ') : TR N ρ' t tmps := ⟨h.size, fun i => (h.val i).mono he⟩
theorem TR.set {N : Nat} {ρ : Ren} {t : Tr Value} {tmps : Array Value} {d : Nat} {v v' : Value} (h : TR N ρ t tmps) (hd : d < N) (hv : VR ρ v v') : TR N ρ (t.set d v) (tmps.setIfInBounds d v') := by
  refine ⟨by simp [h.size], fun i => ?_⟩
  rw [Tr.get_set, Array.getD_eq_getD_getElem?, Array.getElem?_setIfInBounds, h.size]
  by_cases hi : i = d
  · subst hi; simp [hd, unset]; exact hv
  · rw [if_neg hi, if_neg (by omega), ← Array.getD_eq_getD_getElem?]; exact h.val i
def CallOK (P : Program) (G : Nat) (C : CallF) : Prop := ∀ f args h r h1, C f args h = some (r, h1) → OB h1 → ∀ (ρ : Ren) (w : World) (args' : List Value), GL G ρ → Rel P.cellsOf ρ h w → Fr ρ h.n h1.n → LR ρ args args' →
  Ans P f args'.toArray w fun v w' => ∃ ρ', VR ρ' r v ∧ Step P.cellsOf ρ h w ρ' h1 w'
def DefOK (P : Program) (G : Nat) (E : Env) (C : CallF) : Prop := ∀ f args h r h1, E.ext.get f = none → C f args h = some (r, h1) → OB h1 → ∀ (ρ : Ren) (w : World) (args' : List Value), GL G ρ → Rel P.cellsOf ρ h w → Fr ρ h.n h1.n → LR ρ args args' →
  AnsD P f args'.toArray w fun v w' => ∃ ρ', VR ρ' r v ∧ Step P.cellsOf ρ h w ρ' h1 w'
structure EnvM (P : Program) (E : Env) : Prop extends EnvQ P E where
  meth : ∀ t name g, findM E.meth t name = some g → ∀ fuel v w, (method (fuel + 1) t v name).run P w = .ok (g, v) w

section
variable {P : Program} {E : Env} {C : CallF} {G N : Nat} {t : Tr Value} {a : Act} {h h1 : AH} {ρ : Ren} {w : World} {r : Value} {o : Oper}
theorem aeval_ok (hg : GL G ρ) (ht : TR N ρ t a.tmps) {x : Operand} (hx : okOpd G x = true) : VR ρ (aeval t x) (a.eval x) := by
  cases x with
  | tmp i => exact ht.val i
  | const v => exact flat_VR ρ 5 v hx
  | global g =>
    have hlt : g < G := by simpa [okOpd, blt_eq] using hx
    obtain ⟨im, h1, h2, h3⟩ := hg g hlt
    have := VR.ptr_mk (ρ := ρ) (b := g) (off := 0) h1
    rw [h2, h3] at this
    exact this
  | func f => exact .func .nil .nil
theorem vals_ok : ∀ (l : List Operand), (∀ x ∈ l, VR ρ (aeval t x) (a.eval x)) → LR ρ (vals t l) (l.map a.eval)
  | [], _ => .nil
  | x :: l, hl => .cons (hl x (by simp)) (vals_ok l fun y hy => hl y (by simp [hy]))
theorem parts_ok : ∀ (l : List (Nat × Operand)), (∀ x ∈ l, VR ρ (aeval t x.2) (a.eval x.2)) → PR ρ (partsOf t l) (l.map fun (i, x) => (i, a.eval x))
  | [], _ => .nil
  | x :: l, hl => .cons (hl x (by simp)) (parts_ok l fun y hy => hl y (by simp [hy]))
theorem aevalO_ok {x : Option Operand} (hx : ∀ y ∈ x, VR ρ (aeval t y) (a.eval y)) : OV ρ (aevalO t x) (x.map a.eval) := by
  cases x with
  | none => exact .none
  | some x => exact .some (hx x rfl)
/-- What an operation comes to. -/
def Goes (P : Program) (o : Oper) (a : Act) (ρ : Ren) (h : AH) (w : World) (r : Value) (h1 : AH) : Prop :=
  ∀ (next : Act → World → Prop) (Q : Exit → Act → World → Prop), (∀ ρ' r' w', VR ρ' r r' → Step P.cellsOf ρ h w ρ' h1 w' → next (a.put o.dst r') w') → o.wp P a w next Q
theorem Goes.value {s : Sem Value} (he : execOp a.eval o = (do pure (.value (← s)))) (hd : Did P s ρ h w r h1) : Goes P o a ρ h w r h1 := by
  obtain ⟨ρ', r', w', k1, k2, k3⟩ := hd
  intro next Q hn
  unfold Oper.wp
  rw [he]
  simp only [Sem.run_bind, k1, Result.andThen_ok, Sem.run_pure, Oper.upon]
  exact hn ρ' r' w' k2 k3
theorem Goes.unit {s : Sem Unit} (he : execOp a.eval o = (do s; pure .skip)) (hr : r = .tuple ⟨[]⟩) (hd : ∃ w', s.run P w = .ok () w' ∧ Step P.cellsOf ρ h w ρ h1 w') : Goes P o a ρ h w r h1 := by
  obtain ⟨w', k1, k2⟩ := hd
  intro next Q hn
  unfold Oper.wp
  rw [he]
  simp only [Sem.run_bind, k1, Result.andThen_ok, Sem.run_pure, Oper.upon]
  subst hr
  exact hn ρ undef w' (.tuple .nil) k2
theorem Goes.next {s : Sem Next} (he : (execOp a.eval o).run P w = s.run P w) (hd : DidN P s ρ h w r h1) : Goes P o a ρ h w r h1 := by
  obtain ⟨ρ', r', w', k1, k2, k3⟩ := hd
  intro next Q hn
  unfold Oper.wp
  rw [he]
  simp only [k1, Oper.upon]
  exact hn ρ' r' w' k2 k3
theorem Goes.ans {f : Nat} {args : Array Value} (he : (execOp a.eval o).run P w = (callFunc f args).run P w) (hd : Ans P f args w fun v w' => ∃ ρ', VR ρ' r v ∧ Step P.cellsOf ρ h w ρ' h1 w') : Goes P o a ρ h w r h1 := by
  intro next Q hn
  unfold Oper.wp
  rw [he]
  unfold Ans at hd
  cases hc : (callFunc f args).run P w with
  | halt x w' => simp [hc] at hd
  | ok x w' =>
    rw [hc] at hd
    cases x with
    | value v =>
      obtain ⟨ρ', k1, k2⟩ := hd
      exact hn ρ' v w' k1 k2
    | enter f2 a2 =>
      have hd : Calls P f2 a2 w' (Back _) := hd
      show Calls P f2 a2 w' _
      refine hd.mono fun e w'' he => ?_
      cases e with
      | returned v => obtain ⟨ρ', k1, k2⟩ := he; exact hn ρ' v w'' k1 k2
      | panicked c => exact he.elim
      | outgrown => exact he.elim
    | _ => exact hd.elim
end
end Go.Proofs.YtkmbkejmfffafaaGreatDoor.Refl
/- The second reading against the model: each operation, at last. -/
namespace Go.Proofs.YtkmbkejmfffafaaGreatDoor.Refl
open Go
set_option linter.unusedVariables false
set_option linter.unusedSimpArgs false

section
variable {P : Program} {E : Env} {C : CallF} {G N : Nat} {t : Tr Value} {a : Act} {h h1 : AH} {ρ : Ren} {w : World} {r : Value} {o : Oper}
theorem okOper_some (hok : okOper G N o = true) : (∀ d, o.dst = some d → d < N) ∧ ∀ x ∈ o.op.operands.toList, okOpd G x = true := by
  unfold okOper at hok
  cases hd : okDst N o.dst with
  | false => simp [hd] at hok
  | true =>
    simp only [hd] at hok
    refine ⟨fun d h => ?_, (allB_eq _ _).1 hok⟩
    rw [h] at hd
    simpa [okDst, blt_eq] using hd
theorem LR.map {f g : Operand → Value} : ∀ {l : List Operand}, (∀ x ∈ l, VR ρ (f x) (g x)) → LR ρ (l.map f) (l.map g)
  | [], _ => .nil
  | x :: l, h => .cons (h x (by simp)) (LR.map fun y hy => h y (by simp [hy]))
theorem callDeferred_ok (hE : EnvM P E) (hC : CallOK P G C) {c : Call} {ty : TypeId} (hop : ∀ x ∈ c.operands.toList, VR ρ (aeval t x) (a.eval x)) (hx : callF c E C t h = some (r, h1)) (hob : OB h1) (hg : GL G ρ) (hr : Rel P.cellsOf ρ h w) (hf : Fr ρ h.n h1.n) :
    (∃ s, (do let d ← resolve a.eval c ty; invoke d.target d.args : Sem Next).run P w = s.run P w ∧ DidN P s ρ h w r h1) ∨
    (∃ f args, (do let d ← resolve a.eval c ty; invoke d.target d.args : Sem Next).run P w = (callFunc f args).run P w ∧ Ans P f args w fun v w' => ∃ ρ', VR ρ' r v ∧ Step P.cellsOf ρ h w ρ' h1 w') := by
  obtain ⟨callee, args, argTypes⟩ := c
  have hargs : LR ρ (vals t args.toList) (args.toList.map a.eval) := vals_ok _ fun x hm => hop x (by
    have hm2 : x ∈ args := by simpa using hm
    cases callee <;> simp [Call.operands, hm2])
  cases callee with
  | builtin b =>
    have hx : builtinF b E argTypes.toList (vals t args.toList) h = some (r, h1) := hx
    left
    refine ⟨_, rfl, ?_⟩
    show DidN P (Go.builtin b argTypes ty _ (args.map a.eval)) ρ h w r h1
    have e1 : args.map a.eval = (args.toList.map a.eval).toArray := by apply Array.ext'; simp
    rw [e1]
    exact (builtinF_ok hE.toEnvT hx hob hr hf hargs).2
  | value f =>
    have hx : callV _ f E C t h = some (r, h1) := hx
    unfold callV at hx
    cases hfn : asFunc (aeval t f) with
    | none => simp [hfn] at hx
    | some q =>
      simp only [hfn] at hx
      have hfv : VR ρ (aeval t f) (a.eval f) := hop f (by simp [Call.operands])
      obtain ⟨a', b', k1, k2, k3⟩ := asFunc_VR hfn hfv
      right
      have hl : LR ρ (app q.first (app (vals t args.toList) q.captured)) (a'.toList ++ (args.toList.map a.eval ++ b'.toList)) := by
        rw [app_eq, app_eq]; exact k2.append (hargs.append k3)
      refine ⟨q.f, (a'.toList ++ (args.toList.map a.eval ++ b'.toList)).toArray, ?_, hC _ _ _ _ _ hx hob ρ w _ hg hr hf hl⟩
      have e1 : (a'.toList ++ (args.toList.map a.eval ++ b'.toList)).toArray = a' ++ args.map a.eval ++ b' := by
        apply Array.ext'; simp
      rw [e1]
      simp [resolve, invoke, k1, Deferred.ofValue]
  | invoke q name =>
    have hx : callI _ q name E C t h = some (r, h1) := hx
    unfold callI at hx
    cases hi : asIface (aeval t q) with
    | none => simp [hi] at hx
    | some i =>
      simp only [hi] at hx
      cases hm : findM E.meth i.t name with
      | none => simp [hm] at hx
      | some g =>
        simp only [hm] at hx
        have hqv : VR ρ (aeval t q) (a.eval q) := hop q (by simp [Call.operands])
        obtain ⟨u', k1, k2⟩ := asIface_VR hi hqv
        right
        refine ⟨g, (u' :: args.toList.map a.eval).toArray, ?_, hC _ _ _ _ _ hx hob ρ w _ hg hr hf (.cons k2 hargs)⟩
        have e1 : (u' :: args.toList.map a.eval).toArray = #[u'] ++ args.map a.eval := by
          apply Array.ext'; simp
        have hmeth : (method (P.types.size + Made.depth) i.t u' name).run P w = .ok (g, u') w := hE.meth _ _ _ hm (P.types.size + 99) u' w
        rw [e1]
        have e2 : (#[Value.iface i.t u'] ++ args.map a.eval)[0]? = some (.iface i.t u') := by rw [Array.getElem?_append_left (by simp)]; rfl
        have e3 : (args.map a.eval).extract 0 args.size = args.map a.eval := by apply Array.ext'; simp [List.take_of_length_le]
        simp [resolve, invoke, k1, e2, e3, callMethod, hmeth]
set_option maxHeartbeats 4000000 in
theorem aop0_ok (hE : EnvM P E) (hC : CallOK P G C) (hop : ∀ x ∈ o.op.operands.toList, VR ρ (aeval t x) (a.eval x)) (hx : aop0 o.op E C t h = some (r, h1)) (hob : OB h1) (hg : GL G ρ) (hr : Rel P.cellsOf ρ h w) (hf : Fr ρ h.n h1.n) : Goes P o a ρ h w r h1 := by
  obtain ⟨dst, op, type, pos, after, guard⟩ := o
  have hev : ∀ {x}, x ∈ op.operands.toList → VR ρ (aeval t x) (a.eval x) := fun hx => hop _ hx
  have same : ∀ {v' : Value}, VR ρ r v' → h1 = h → (execOp a.eval ⟨dst, op, type, pos, after, guard⟩ = pure (.value v')) → Goes P ⟨dst, op, type, pos, after, guard⟩ a ρ h w r h1 := fun hv he hq =>
    Goes.next (s := pure (.value _)) (by rw [hq]) ⟨ρ, _, w, rfl, hv, by subst he; exact .refl hr⟩
  cases op with
  | move x =>
    have hx : some (aeval t x, h) = some (r, h1) := hx
    cases hx
    exact same (hev (by simp [Op.operands])) rfl rfl
  | assign x =>
    have hx : some (aeval t x, h) = some (r, h1) := hx
    cases hx
    exact same (hev (by simp [Op.operands])) rfl rfl
  | pick c x y =>
    have hx : oPick c x y E C t h = some (r, h1) := hx
    unfold oPick at hx
    cases hb : asBool (aeval t c) with
    | none => simp [hb] at hx
    | some d =>
      simp only [hb] at hx
      obtain ⟨k1, k2⟩ := asBool_VR hb (hev (x := c) (by simp [Op.operands]))
      cases hd : h.dec d with
      | mk d2 h2 =>
        rw [hd] at hx
        obtain ⟨g1, g2, g3, g4⟩ := dec_some hd
        simp only [pick2] at hx
        have hst : OB h2 → h1 = h2 → Step P.cellsOf ρ h w ρ h1 w := fun _ e => e ▸ .same hr g1 g2 g3 rfl (Str.refl _)
        cases d2 with
        | true =>
          simp at hx
          obtain ⟨rfl, rfl⟩ := hx
          obtain ⟨_, rfl⟩ := g4 hob
          exact Goes.next (s := pure (.value (a.eval x))) (by simp [execOp, k2, Go.asBool]) ⟨ρ, _, w, rfl, hev (by simp [Op.operands]), hst hob rfl⟩
        | false =>
          simp at hx
          obtain ⟨rfl, rfl⟩ := hx
          obtain ⟨_, rfl⟩ := g4 hob
          exact Goes.next (s := pure (.value (a.eval y))) (by simp [execOp, k2, Go.asBool]) ⟨ρ, _, w, rfl, hev (by simp [Op.operands]), hst hob rfl⟩
  | alloc e =>
    have hx : oAlloc e E C t h = some (r, h1) := hx
    unfold oAlloc at hx
    cases hte : E.ty.get e with
    | none => simp [hte] at hx
    | some ti =>
      obtain ⟨info, T⟩ := hE.at hte
      simp only [hte] at hx
      cases hz : ti.zero with
      | none => simp [hz] at hx
      | some z =>
        simp only [hz] at hx
        obtain ⟨_, ρ', r', w', k1, k2, k3⟩ := aalloc_ok hx hr hf (flat_VR ρ 5 z (T.flat hz))
        refine Goes.value rfl ⟨ρ', r', w', ?_, k2, k3⟩
        rw [← k1]
        simp [Instr.alloc, T.run_zero _ hz]
  | box e x => exact Goes.value rfl (aalloc_ok (elem := e) (v := aeval t x) hx hr hf (hev (by simp [Op.operands]))).2
  | build ty ps =>
    have hps := parts_ok ps.toList (fun x hx => hop x.2 (by simp [Op.operands]; exact ⟨x.1, by simpa using hx⟩))
    refine Goes.value (s := Instr.build ty (ps.map fun (i, x) => (i, a.eval x))) rfl ?_
    have := (abuild_ok hE.toEnvT (t := ty) (ps := partsOf t ps.toList) hx hr hps).2
    have e1 : (ps.map fun (i, x) => (i, a.eval x)) = (ps.toList.map fun (i, x) => (i, a.eval x)).toArray := by apply Array.ext'; simp
    rw [e1]; exact this
  | buildSlice ty n ps =>
    have hps := parts_ok ps.toList (fun x hx => hop x.2 (by simp [Op.operands]; exact ⟨x.1, by simpa using hx⟩))
    refine Goes.value (s := Instr.buildSlice ty n (ps.map fun (i, x) => (i, a.eval x))) rfl ?_
    have := (abuildSlice_ok hE.toEnvT (t := ty) (n := n) (ps := partsOf t ps.toList) hx hr hf hps).2
    have e1 : (ps.map fun (i, x) => (i, a.eval x)) = (ps.toList.map fun (i, x) => (i, a.eval x)).toArray := by apply Array.ext'; simp
    rw [e1]; exact this
  | load ty x => exact Goes.value rfl (aload_ok hE.toEnvT (t := ty) (v := aeval t x) hx hr (hev (by simp [Op.operands]))).2.1
  | store ty x v =>
    obtain ⟨k1, k2⟩ := unit_some (o := astore E ty (aeval t x) (aeval t v) h) hx
    obtain ⟨w', k3, k4, _⟩ := astore_ok hE.toEnvT k1 hr (hev (x := x) (by simp [Op.operands])) (hev (x := v) (by simp [Op.operands]))
    exact Goes.unit rfl k2 ⟨w', k3, k4⟩
  | nilCheck x =>
    have hv := hev (x := x) (by simp [Op.operands])
    obtain ⟨rfl, rfl, k⟩ := anilCheck_ok (a := aeval t x) hx hv
    refine same hv rfl ?_
    rcases k with ⟨q, e⟩ | ⟨f, u, v, e⟩ <;> simp [execOp, e]
  | binOp op ty x y z => exact Goes.value rfl (binF_ok hE.toEnvQ (op := op) (t := ty) (x := x) (y := y) (a := aeval t x) (b := aeval t y) hx hob hr (hev (by simp [Op.operands])) (hev (by simp [Op.operands]))).2
  | unOp op z x => exact Goes.value rfl (unF_ok (op := op) (a := aeval t x) hx hr (hev (by simp [Op.operands]))).2
  | convert s d x => exact Goes.value rfl (aconvert_ok hE.toEnvT (src := s) (dst := d) (a := aeval t x) hx hr hf (hev (by simp [Op.operands]))).2
  | makeInterface ty x => exact Goes.value rfl (amakeIface_ok hE.toEnvT (t := ty) (a := aeval t x) hx hr (hev (by simp [Op.operands]))).2
  | makeFunc fn u v =>
    have hx : oFunc fn u v E C t h = some (r, h1) := hx
    unfold oFunc at hx
    cases fn with
    | func f =>
      simp at hx
      obtain ⟨rfl, rfl⟩ := hx
      refine same (v' := .func (.func f) (u.map a.eval) (v.map a.eval)) (.func ?_ ?_) rfl rfl
      · have := vals_ok u.toList (fun x hx => hop x (by simp [Op.operands]; simp at hx; exact .inl hx))
        simpa using this
      · have := vals_ok v.toList (fun x hx => hop x (by simp [Op.operands]; simp at hx; exact .inr hx))
        simpa using this
    | _ => simp at hx
  | makeMap ty q =>
    have hx : oMap q E C t h = some (r, h1) := hx
    unfold oMap at hx
    cases q with
    | none =>
      simp at hx
      obtain ⟨rfl, rfl⟩ := hx
      exact Goes.value (s := Instr.makeMap ty none) rfl (amakeMap_ok hr hf)
    | some q => simp at hx
  | makeSlice ty l c => exact Goes.value rfl (amakeSlice_ok hE.toEnvT (t := ty) (l := aeval t l) (c := aeval t c) hx hr hf (hev (by simp [Op.operands])) (hev (by simp [Op.operands]))).2
  | slice ty x lo hi mx =>
    refine Goes.value rfl (aslice_ok hE.toEnvT (t := ty) (x := aeval t x) (lo := aevalO t lo) (hi := aevalO t hi) (mx := aevalO t mx) hx hr (hev (by simp [Op.operands])) ?_ ?_ ?_).2
    · exact aevalO_ok fun y hy => hop y (by simp [Op.operands]; simp at hy; simp [hy])
    · exact aevalO_ok fun y hy => hop y (by simp [Op.operands]; simp at hy; simp [hy])
    · exact aevalO_ok fun y hy => hop y (by simp [Op.operands]; simp at hy; simp [hy])
  | fieldAddr ty x f => exact Goes.value rfl (afieldAddr_ok hE.toEnvT (t := ty) (x := aeval t x) (i := f) hx hr (hev (by simp [Op.operands]))).2
  | field ty x f => exact Goes.value rfl (afield_ok hE.toEnvT (t := ty) (x := aeval t x) (i := f) hx hr (hev (by simp [Op.operands]))).2
  | indexAddr ty x i => exact Goes.value rfl (aindexAddr_ok hE.toEnvT (t := ty) (x := aeval t x) (i := aeval t i) hx hr (hev (by simp [Op.operands])) (hev (by simp [Op.operands]))).2
  | index ty x i => exact Goes.value rfl (aindex_ok hE.toEnvT (t := ty) (x := aeval t x) (i := aeval t i) hx hr (hev (by simp [Op.operands])) (hev (by simp [Op.operands]))).2
  | lookup ty x k ok => exact Goes.value rfl (alookup_ok hE.toEnvT (t := ty) (a := aeval t x) (k := aeval t k) (ok := ok) hx hr (hev (by simp [Op.operands])) (hev (by simp [Op.operands]))).2
  | mapUpdate ty m k v =>
    obtain ⟨k1, k2⟩ := unit_some (o := amapUpdate E ty (aeval t m) (aeval t k) (aeval t v) h) hx
    obtain ⟨w', k3, k4, _⟩ := amapUpdate_ok hE.toEnvT k1 hr (hev (x := m) (by simp [Op.operands])) (hev (x := k) (by simp [Op.operands])) (hev (x := v) (by simp [Op.operands]))
    exact Goes.unit rfl k2 ⟨w', k3, k4⟩
  | insert ty m k v =>
    obtain ⟨k1, k2⟩ := unit_some (o := amapUpdate E ty (aeval t m) (aeval t k) (aeval t v) h) hx
    obtain ⟨w', k3, k4, _⟩ := amapUpdate_ok hE.toEnvT k1 hr (hev (x := m) (by simp [Op.operands])) (hev (x := k) (by simp [Op.operands])) (hev (x := v) (by simp [Op.operands]))
    exact Goes.unit rfl k2 ⟨w', k3, k4⟩
  | mapEntry ty m k => exact Goes.value rfl (amapEntry_ok hE.toEnvT (t := ty) (a := aeval t m) (k := aeval t k) hx hr (hev (by simp [Op.operands])) (hev (by simp [Op.operands]))).2
  | entryStore ty m s v =>
    obtain ⟨k1, k2⟩ := unit_some (o := aentryStore (aeval t m) (aeval t s) (aeval t v) h) hx
    obtain ⟨w', k3, k4, _⟩ := aentryStore_ok (ty := ty) k1 hr (hev (x := m) (by simp [Op.operands])) (hev (x := s) (by simp [Op.operands])) (hev (x := v) (by simp [Op.operands]))
    exact Goes.unit rfl k2 ⟨w', k3, k4⟩
  | range ty x => exact Goes.value rfl (arange_ok hE.toEnvT (t := ty) (a := aeval t x) hx hr hf (hev (by simp [Op.operands]))).2
  | next it b =>
    have hx : oNext it b E C t h = some (r, h1) := hx
    unfold oNext at hx
    cases b with
    | false => simp at hx
    | true => exact Goes.value rfl (anext_ok (a := aeval t it) hx hr (hev (by simp [Op.operands]))).2
  | extract x i => exact Goes.value rfl (aextract_ok (a := aeval t x) (i := i) hx hr (hev (by simp [Op.operands]))).2
  | call c =>
    rcases callDeferred_ok (ty := type) hE hC (c := c) (fun x hx => hop x hx) hx hob hg hr hf with ⟨s, k1, k2⟩ | ⟨f, args, k1, k2⟩
    · exact Goes.next k1 k2
    · exact Goes.ans k1 k2
  | _ => simp [aop0, oNone] at hx
end
end Go.Proofs.YtkmbkejmfffafaaGreatDoor.Refl
/- The second reading in symbolic data: with what is owed and told it is the same. -/
namespace Go.Proofs.YtkmbkejmfffafaaGreatDoor.Refl
open Go
set_option linter.unusedVariables false
set_option linter.unusedSimpArgs false

/-- More is owed, nothing else. -/
structure Up (a b : AH) : Prop where
  t : b.t = a.t
  n : b.n = a.n
  log : b.log = a.log
  sym : b.sym = a.sym
  ob : OB b → OB a
section
variable {a b c h h1 h2 : AH} {r : Value} {E : Env} {C : CallF} {ty : TypeId}
theorem Up.refl (a : AH) : Up a a := ⟨rfl, rfl, rfl, rfl, id⟩
theorem Up.trans (h : Up a b) (k : Up b c) : Up a c := ⟨k.t.trans h.t, k.n.trans h.n, k.log.trans h.log, k.sym.trans h.sym, fun q => h.ob (k.ob q)⟩
theorem Up.owe (h : AH) (q : Bool) : Up h (h.owe q) := by
  obtain ⟨t, n, log, sym, cnt, orc, ob⟩ := h
  exact ⟨rfl, rfl, rfl, rfl, fun k b hb => k b (List.mem_cons_of_mem _ hb)⟩
theorem ob_owe {q : Bool} (k : OB (h.owe q)) : OB h ∧ q = true := by
  obtain ⟨t, n, log, sym, cnt, orc, ob⟩ := h
  exact ⟨fun b hb => k b (List.mem_cons_of_mem _ hb), k q (List.mem_cons_self ..)⟩
theorem dec_sym {x d : Bool} (hx : h.dec x = (d, h1)) : h1.sym = h.sym := by
  obtain ⟨t, n, log, sym, cnt, orc, ob⟩ := h
  unfold AH.dec at hx
  cases orc with
  | nil => obtain ⟨rfl, rfl⟩ := Prod.mk.inj hx; rfl
  | cons kd rest =>
    simp only at hx
    cases hk : Nat.beq kd.1 cnt with
    | true => simp only [hk] at hx; obtain ⟨rfl, rfl⟩ := Prod.mk.inj hx; rfl
    | false => simp only [hk] at hx; obtain ⟨rfl, rfl⟩ := Prod.mk.inj hx; rfl
theorem Up.dec {x d : Bool} (hx : h.dec x = (d, h1)) : Up h h1 := by
  obtain ⟨k1, k2, k3, k4⟩ := dec_some hx
  exact ⟨k1, k2, k3, dec_sym hx, fun q => (k4 q).1⟩
theorem dec_told {x d : Bool} (hx : h.dec x = (d, h1)) (q : OB h1) : d = x := ((dec_some hx).2.2.2 q).2
theorem Up.obj (u : Up a b) (x : Nat) : b.obj x = a.obj x := AH.obj_eq u.t u.n x
theorem Up.alloc (u : Up a b) (o : AObj) : Up (a.alloc o) (b.alloc o) := by
  obtain ⟨t, n, log, sym, cnt, orc, ob⟩ := a
  obtain ⟨t', n', log', sym', cnt', orc', ob'⟩ := b
  obtain ⟨rfl, rfl, rfl, rfl, u5⟩ := u
  exact ⟨rfl, rfl, rfl, rfl, u5⟩
theorem Up.write (u : Up a b) (x : Nat) (o : AObj) : Up (a.write x o) (b.write x o) := by
  obtain ⟨t, n, log, sym, cnt, orc, ob⟩ := a
  obtain ⟨t', n', log', sym', cnt', orc', ob'⟩ := b
  obtain ⟨rfl, rfl, rfl, rfl, u5⟩ := u
  exact ⟨rfl, rfl, rfl, rfl, u5⟩
theorem Up.fwd (u : Up a b) : Fwd a b := .same u.t u.n u.log u.ob
theorem req_sym (hs : h.sym = true) (q : Bool) : h.req q = some (h.owe q) := by
  unfold AH.req; rw [hs]
/-- Done as without symbolic data, once all that is owed holds. -/
def SD (std : AR) (h : AH) (r : Value) (h1 : AH) : Prop := Fwd h h1 ∧ (OB h1 → ∃ h2, std = some (r, h2) ∧ Up h2 h1)
theorem SD.same {std : AR} (hx : std = some (r, h1)) (hf : Fwd h h1) : SD std h r h1 := ⟨hf, fun _ => ⟨h1, hx, .refl _⟩⟩

theorem bound_of {d top n : Nat} {v : Option Value} (h : sBound d v = some n) (hb : n ≤ top) : bound d top v = some n := by
  cases v with
  | none => exact h
  | some q =>
    have h : asNat q = some n := h
    unfold bound
    simp [h, ble_eq, hb]
theorem sBound_none {d n : Nat} (h : sBound d none = some n) : n = d := by
  have h : some d = some n := h
  simpa using h.symm
theorem sSub_eq {l : List UInt8} {lo hi : Option Value} {x y : Nat} (h1' : sBound l.length hi = some y) (h2 : sBound 0 lo = some x) (hx : sSubR l lo hi x y h = some (r, h1)) : r = strV ((l.drop x).take (y - x)) ∧ h1 = h := by
  unfold sSubR at hx
  cases lo with
  | none =>
    obtain rfl := sBound_none h2
    cases hi with
    | none => obtain rfl := sBound_none h1'; simp at hx; exact ⟨by rw [← hx.1]; simp, hx.2.symm⟩
    | some q => simp at hx; exact ⟨by rw [← hx.1]; simp, hx.2.symm⟩
  | some p =>
    cases hi with
    | none =>
      obtain rfl := sBound_none h1'
      simp at hx
      exact ⟨by rw [← hx.1, List.take_of_length_le (by simp)], hx.2.symm⟩
    | some q => simp at hx; exact ⟨hx.1.symm, hx.2.symm⟩
theorem retStr_sym (hs : h.sym = true) (l : List UInt8) : retStr h (some l) = some (strV l, h) := by
  unfold retStr fin; rw [hs]
theorem sSlice_std {x : Value} {l : List UInt8} {lo hi mx : Option Value} (hs : h.sym = true) (hl : asStr x = some l) (hx : sSlice1 E ty l lo hi mx h = some (r, h1)) : SD (aslice E ty x lo hi mx h) h r h1 := by
  unfold sSlice1 at hx
  cases mx with
  | some q => simp at hx
  | none =>
  simp only at hx
  cases ht : E.ty.get ty with
  | none => simp [ht] at hx
  | some ti =>
  simp only [ht] at hx
  cases hk : Nat.beq ti.kd 3 with
  | false => simp [hk] at hx
  | true =>
  simp only [hk] at hx
  unfold sSliceStr at hx
  rw [len_eq] at hx
  cases h1' : sBound l.length hi with
  | none => simp [h1'] at hx
  | some y =>
  simp only [h1'] at hx
  cases h2' : sBound 0 lo with
  | none => simp [h2'] at hx
  | some x' =>
  simp only [h2'] at hx
  obtain ⟨rfl, rfl⟩ := sSub_eq h1' h2' hx
  have u := (Up.owe h (Nat.ble y l.length)).trans (Up.owe _ (Nat.ble x' y))
  refine ⟨u.fwd, fun q => ⟨h, ?_, u⟩⟩
  obtain ⟨q1, q2⟩ := ob_owe q
  obtain ⟨q0, q3⟩ := ob_owe q1
  have g1 : y ≤ l.length := Nat.le_of_ble_eq_true q3
  have g2 : x' ≤ y := Nat.le_of_ble_eq_true q2
  unfold aslice
  simp only [ht, hk, hl]
  unfold sliceStr
  simp only [len_eq]
  rw [bound_of h1' g1]
  simp only
  rw [bound_of h2' g2]
  simp only
  unfold sub8
  rw [drp_eq, show Nat.sub y x' = y - x' from rfl, tk_le _ _ (by simp; omega), retStr_sym hs]
theorem nthD_eq {l : List UInt8} {i : Nat} (h : i < l.length) : nth l i = some (nthD l i) := by
  rw [nth_eq]
  unfold nthD
  rw [nth_eq]
  simp [h]
theorem sIndex_std {x i : Value} {l : List UInt8} (hl : asStr x = some l) (hx : sIndex1 E ty l i h = some (r, h1)) : SD (aindex E ty x i h) h r h1 := by
  unfold sIndex1 at hx
  cases hi : asNat i with
  | none => simp [hi] at hx
  | some i' =>
  simp only [hi] at hx
  cases ht : E.ty.get ty with
  | none => simp [ht] at hx
  | some ti =>
  simp only [ht] at hx
  cases hk : Nat.beq ti.kd 3 with
  | false => simp [hk] at hx
  | true =>
  simp only [hk, Option.some.injEq, Prod.mk.injEq] at hx
  obtain ⟨rfl, rfl⟩ := hx
  have u := Up.owe h (Nat.blt i' (len l))
  refine ⟨u.fwd, fun q => ⟨h, ?_, u⟩⟩
  obtain ⟨q1, q2⟩ := ob_owe q
  rw [blt_eq, len_eq] at q2
  have g1 : i' < l.length := by simpa using q2
  unfold aindex
  simp only [hi, ht, hk, hl]
  rw [nthD_eq g1]
  rfl
theorem asSl_str {x : Value} {y : SL} (h : asSl x = some y) : asStr x = none ∧ asInt x = none := by
  cases x <;> first | (simp [asSl] at h; done) | exact ⟨rfl, rfl⟩
theorem sConv_std {s d : TypeId} {x : Value} {y : SL} (hs : h.sym = true) (hl : asSl x = some y) (hx : sConv1 E s d x y h = some (r, h1)) (hf : aconvert E s d x h = some (r, h1) → Fwd h h1) : SD (aconvert E s d x h) h r h1 := by
  unfold sConv1 at hx
  obtain ⟨ya, yn, yc⟩ := y
  cases ya with
  | none => exact .same hx (hf hx)
  | some p =>
  obtain ⟨pb, poff⟩ := p
  simp only at hx
  cases hd : E.ty.get d with
  | none => simp [hd] at hx
  | some di =>
  simp only [hd] at hx
  cases hk : Nat.beq di.kd 3 with
  | false => simp only [hk] at hx; exact .same hx (hf hx)
  | true =>
  simp only [hk] at hx
  cases hss : E.ty.get s with
  | none => simp [hss] at hx
  | some si =>
  simp only [hss] at hx
  cases hb : isBytesT E si with
  | false => simp [hb] at hx
  | true =>
  simp only [hb] at hx
  unfold sConv4 sConv3 at hx
  cases ho : bytesOf (h.obj pb) with
  | none => simp [ho] at hx
  | some l =>
  simp only [ho] at hx
  unfold sConv2 at hx
  simp only [Option.some.injEq, Prod.mk.injEq] at hx
  obtain ⟨rfl, rfl⟩ := hx
  have u := Up.owe h (Nat.beq (len (drp poff l)) yn)
  refine ⟨u.fwd, fun q => ⟨h, ?_, u⟩⟩
  obtain ⟨q1, q2⟩ := ob_owe q
  rw [len_eq, drp_eq] at q2
  have g : (l.drop poff).length = yn := Nat.eq_of_beq_eq_true q2
  obtain ⟨e1, e2⟩ := asSl_str hl
  have hk2 : Nat.beq di.kd 2 = false := by
    have : di.kd = 3 := Nat.eq_of_beq_eq_true hk
    rw [this]; rfl
  unfold aconvert
  simp only [hd, hss, hk2, hk]
  unfold cStr
  simp only [e1, e2, hb, hl]
  have hba : bytesAt ⟨some ⟨pb, poff⟩, yn, yc⟩ h = some (l.drop poff) := by
    unfold bytesAt
    cases hn : Nat.beq yn 0 with
    | true =>
      have : yn = 0 := Nat.eq_of_beq_eq_true hn
      rw [this] at g
      simp only
      rw [List.eq_nil_of_length_eq_zero g]
    | false =>
      simp only [ho, drp_eq]
      rw [← g, tk_le _ _ (Nat.le_refl _), List.take_of_length_le (Nat.le_refl _)]
  rw [hba, retStr_sym hs, drp_eq]
theorem twoNat_some {x y : Value} {m n : Nat} (h : twoNat x y = some (m, n)) : x = .int .i64 (m : Int) ∧ y = .int .i64 (n : Int) := by
  unfold twoNat at h
  cases hi : asInt x with
  | none => simp [hi] at h
  | some i =>
  simp only [hi] at h
  cases hj : asInt y with
  | none => simp [hj] at h
  | some j =>
  simp only [hj] at h
  cases k1 : kEq .i64 i.k with
  | false => simp [k1] at h
  | true =>
  simp only [k1] at h
  cases k2 : kEq .i64 j.k with
  | false => simp [k2] at h
  | true =>
  simp only [k2] at h
  obtain ⟨ik, inn⟩ := i
  obtain ⟨jk, jn⟩ := j
  cases inn with
  | negSucc z => simp [natI] at h
  | ofNat m' =>
  cases jn with
  | negSucc z => simp [natI] at h
  | ofNat n' =>
  simp [natI] at h
  obtain ⟨rfl, rfl⟩ := h
  have e1 := asInt_some hi
  have e2 := asInt_some hj
  have e3 := kEq_true k1
  have e4 := kEq_true k2
  simp only at e1 e2 e3 e4
  subst e3; subst e4
  exact ⟨e1, e2⟩
theorem wrap64 {x : Int} (h1 : -9223372036854775808 ≤ x) (h2 : x ≤ 9223372036854775807) : IntKind.wrap .i64 x = x := by
  show (if (true && decide (x % (2 ^ 64 : Int) ≥ (2 ^ (64 - 1) : Int))) = true then x % (2 ^ 64 : Int) - (2 ^ 64 : Int) else x % (2 ^ 64 : Int)) = x
  have e1 : (2 ^ 64 : Int) = 18446744073709551616 := by decide
  have e2 : (2 ^ (64 - 1) : Int) = 9223372036854775808 := by decide
  rw [e1, e2]
  simp only [Bool.true_and, decide_eq_true_eq]
  split <;> omega
theorem sDec_some {q : Bool} {f : Bool → AH → AR} (hx : sDec h q f = some (r, h1)) : ∃ d h', h.dec q = (d, h') ∧ f d h' = some (r, h1) := by
  unfold sDec at hx
  cases hd : h.dec q with
  | mk d h' => rw [hd] at hx; exact ⟨d, h', rfl, hx⟩
theorem SD.up {std : AR} {h' : AH} (u : Up h h') (hf : Fwd h' h1) (q : OB h1 → std = some (r, h)) (e : h1 = h') : SD std h r h1 := by
  subst e
  exact ⟨u.fwd, fun k => ⟨h, q k, u⟩⟩
theorem sAdd_std {x y : Operand} {a b : Value} {m n : Nat} (h2 : twoNat a b = some (m, n)) (hx : sAdd2 m n h = some (r, h1)) : SD (binF .add E ty x y a b h) h r h1 := by
  obtain ⟨rfl, rfl⟩ := twoNat_some h2
  unfold sAdd2 at hx
  simp only [Option.some.injEq, Prod.mk.injEq] at hx
  obtain ⟨rfl, rfl⟩ := hx
  refine .up (Up.owe h _) (.refl _) (fun q => ?_) rfl
  obtain ⟨q1, q2⟩ := ob_owe q
  have g : m + n ≤ 9223372036854775807 := Nat.le_of_ble_eq_true q2
  show some (Value.int .i64 (IntKind.wrap .i64 ((m : Int) + (n : Int))), h) = _
  rw [wrap64 (by omega) (by omega)]
  rfl
theorem sSub_std {x y : Operand} {a b : Value} {m n : Nat} (h2 : twoNat a b = some (m, n)) (hx : sSub2 m n h = some (r, h1)) : SD (binF .sub E ty x y a b h) h r h1 := by
  obtain ⟨rfl, rfl⟩ := twoNat_some h2
  unfold sSub2 at hx
  obtain ⟨d, h', k1, k2⟩ := sDec_some hx
  have u := (Up.owe h _).trans (Up.dec k1)
  have fin : OB h' → d = Nat.ble n m ∧ m + n ≤ 9223372036854775807 := fun q => by
    have q1 := dec_told k1 q
    obtain ⟨_, q3⟩ := ob_owe ((Up.dec k1).ob q)
    exact ⟨q1, Nat.le_of_ble_eq_true q3⟩
  have goal : ∀ z : Int, Value.int .i64 z = r → h1 = h' → (OB h' → z = (m : Int) - (n : Int)) → SD (binF .sub E ty x y (.int .i64 m) (.int .i64 n) h) h r h1 := fun z hz e hq => by
    refine .up u (by rw [e]; exact .refl _) (fun q => ?_) e
    rw [e] at q
    have g := (fin q).2
    show some (Value.int .i64 (IntKind.wrap .i64 ((m : Int) - (n : Int))), h) = _
    rw [wrap64 (by omega) (by omega), ← hz, hq q]
  cases d with
  | true =>
    simp only [Option.some.injEq, Prod.mk.injEq] at k2
    refine goal _ k2.1 k2.2.symm fun q => ?_
    have := (fin q).1
    have : n ≤ m := Nat.le_of_ble_eq_true this.symm
    show ((m - n : Nat) : Int) = _
    omega
  | false =>
    simp only [Option.some.injEq, Prod.mk.injEq] at k2
    refine goal _ k2.1 k2.2.symm fun q => ?_
    have h3 := (fin q).1
    rw [ble_eq] at h3
    have : ¬ n ≤ m := by simpa using h3.symm
    show Int.negSucc (n - (m + 1)) = _
    omega
/-- The bytes of what is appended. -/
theorem sSrc_some {x : Value} {l : List UInt8} {h' : AH} (hx : sSrc x h = some (l, h')) : Up h h' ∧ (OB h' → ∀ n, srcLen x = some n → srcBytes x n h = some l ∧ l.length = n) := by
  unfold sSrc at hx
  cases hs : asStr x with
  | some q =>
    simp only [hs, Option.some.injEq, Prod.mk.injEq] at hx
    obtain ⟨rfl, rfl⟩ := hx
    refine ⟨.refl _, fun _ n hn => ?_⟩
    unfold srcLen at hn
    simp only [hs, Option.some.injEq, len_eq] at hn
    subst hn
    refine ⟨?_, rfl⟩
    unfold srcBytes
    cases hb : Nat.beq q.length 0 with
    | true => rw [List.eq_nil_of_length_eq_zero (Nat.eq_of_beq_eq_true hb)]
    | false => simp only [hs]; rw [tk_le _ _ (Nat.le_refl _), List.take_of_length_le (Nat.le_refl _)]
  | none =>
    simp only [hs] at hx
    cases hy : asSl x with
    | none => simp [hy] at hx
    | some y =>
    simp only [hy] at hx
    have hlen : ∀ n, srcLen x = some n → n = y.n := fun n hn => by
      unfold srcLen at hn
      simp only [hs, hy, Option.some.injEq] at hn
      exact hn.symm
    obtain ⟨ya, yn, yc⟩ := y
    simp only at hlen
    cases ya with
    | none =>
      simp only [Option.some.injEq, Prod.mk.injEq] at hx
      obtain ⟨rfl, rfl⟩ := hx
      refine ⟨Up.owe _ _, fun q n hn => ?_⟩
      have hn' := hlen n hn
      subst hn'
      have g := (ob_owe q).2
      have g' : n = 0 := Nat.eq_of_beq_eq_true g
      refine ⟨?_, by simp [g']⟩
      unfold srcBytes
      simp only [g]
    | some p =>
      obtain ⟨pb, poff⟩ := p
      simp only [sSrc1, sSrc2] at hx
      cases hb : bytesOf (h.obj pb) with
      | none => simp [hb] at hx
      | some l' =>
      simp only [hb, Option.some.injEq, Prod.mk.injEq] at hx
      obtain ⟨rfl, rfl⟩ := hx
      refine ⟨Up.owe _ _, fun q n hn => ?_⟩
      have hn' := hlen n hn
      subst hn'
      have g := (ob_owe q).2
      rw [len_eq, drp_eq] at g
      have g' : (l'.drop poff).length = n := Nat.eq_of_beq_eq_true g
      rw [drp_eq]
      refine ⟨?_, g'⟩
      unfold srcBytes
      cases hn0 : Nat.beq n 0 with
      | true =>
        have : n = 0 := Nat.eq_of_beq_eq_true hn0
        rw [this] at g'
        simp only
        rw [List.eq_nil_of_length_eq_zero g']
      | false =>
        simp only [hs, hy, hb, drp_eq]
        rw [← g', tk_le _ _ (Nat.le_refl _), List.take_of_length_le (Nat.le_refl _)]
theorem srcBytes_up {x : Value} {n : Nat} (u : Up a b) : srcBytes x n b = srcBytes x n a := by
  unfold srcBytes
  cases Nat.beq n 0 <;> cases asStr x <;> cases asSl x <;> simp only [u.obj]
theorem sJoin_some {e : TypeId} {s x : Value} {sl : SL} {fz kd m : Nat} {o : AObj} {ei : TI} {h' : AH} (hs : asSl s = some sl) (hm : srcLen x = some m) (h8 : ei.u8 = true) (hx : sJoin e s x fz kd h = some (o, h')) :
    Up h h' ∧ (OB h' → joinObj ei e s x sl.n m fz kd h = some o) := by
  unfold sJoin at hx
  cases ha : sSrc s h with
  | none => simp [ha] at hx
  | some p =>
  obtain ⟨l, h2⟩ := p
  simp only [ha] at hx
  cases hb : sSrc x h2 with
  | none => simp [hb] at hx
  | some q =>
  obtain ⟨l', h3⟩ := q
  simp only [hb, Option.some.injEq, Prod.mk.injEq] at hx
  obtain ⟨rfl, rfl⟩ := hx
  obtain ⟨u1, k1⟩ := sSrc_some ha
  obtain ⟨u2, k2⟩ := sSrc_some hb
  refine ⟨u1.trans u2, fun q => ?_⟩
  obtain ⟨e1, e2⟩ := asSl_str hs
  have hsl : srcLen s = some sl.n := by unfold srcLen; simp only [e1, hs]
  obtain ⟨g1, _⟩ := k1 (u2.ob q) _ hsl
  obtain ⟨g2, _⟩ := k2 q _ hm
  rw [srcBytes_up u1] at g2
  unfold joinObj
  simp only [h8, g1, g2]
theorem appNew_std {e : TypeId} {s x : Value} {sl : SL} {m : Nat} {ei : TI} (hs : asSl s = some sl) (hm : srcLen x = some m) (h8 : ei.u8 = true) (hx : sAppNew e s x sl.n m h = some (r, h1)) : SD (appNew ei e s x sl.n m h) h r h1 := by
  unfold sAppNew at hx
  cases hj : sJoin e s x 0 1 h with
  | none => rw [hj] at hx; cases hx
  | some p =>
  obtain ⟨o, h'⟩ := p
  simp only [hj, Option.some.injEq, Prod.mk.injEq] at hx
  obtain ⟨rfl, rfl⟩ := hx
  obtain ⟨u, k⟩ := sJoin_some hs hm h8 hj
  refine ⟨u.fwd.trans (.alloc _ _), fun q => ⟨h.alloc o, ?_, u.alloc o⟩⟩
  unfold appNew
  rw [k q, u.n]
theorem appLoose_std {e : TypeId} {s x : Value} {sl : SL} {m : Nat} {ei : TI} (hs : asSl s = some sl) (hm : srcLen x = some m) (h8 : ei.u8 = true) (h1z : ei.size = 1) (hx : sAppLoose e s x sl.a sl.n m h = some (r, h1)) : SD (appLoose ei e s x sl m h) h r h1 := by
  unfold sAppLoose at hx
  cases ha : sl.a with
  | none => simp [ha] at hx
  | some p =>
  simp only [ha] at hx
  unfold sAppLoose1 at hx
  cases hob : h.obj p.b with
  | bytes l e' fz kd =>
    simp only [hob] at hx
    cases hee : Nat.beq e' e with
    | false => simp [hee] at hx
    | true =>
    simp only [hee] at hx
    have he : isElem e (h.obj p.b) = true := by rw [hob]; exact hee
    have u0 := Up.owe h (Nat.ble fz (Nat.add p.off (Nat.mul sl.n 1)))
    unfold sAppLoose2 at hx
    cases hj : sJoin e s x (Nat.sub fz p.off) (marks (.bytes l e' fz kd)) (h.owe (Nat.ble fz (Nat.add p.off (Nat.mul sl.n 1)))) with
    | none => rw [hj] at hx; cases hx
    | some q =>
    obtain ⟨o, h'⟩ := q
    rw [hj] at hx
    simp only [Option.some.injEq, Prod.mk.injEq] at hx
    obtain ⟨rfl, rfl⟩ := hx
    obtain ⟨u, k⟩ := sJoin_some hs hm h8 hj
    have uu := u0.trans u
    refine ⟨uu.fwd.trans ((Fwd.write _ _ _).trans (.alloc _ _)), fun q => ⟨(h.write p.b .dead).alloc o, ?_, (uu.write p.b .dead).alloc o⟩⟩
    have q1 : OB h' := q
    have g1 := k q1
    have g2 := (ob_owe (u.ob q1)).2
    have g3 : joinObj ei e s x sl.n m (Nat.sub fz p.off) (marks (.bytes l e' fz kd)) h = some o := by
      rw [← g1]
      unfold joinObj
      simp only [h8, srcBytes_up u0]
    unfold appLoose
    simp only [ha, he]
    unfold appLoose1
    rw [h1z, hob]
    show (match Nat.ble fz (Nat.add p.off (Nat.mul sl.n 1)) with
      | false => none
      | true => match joinObj ei e s x sl.n m (Nat.sub fz p.off) (marks (.bytes l e' fz kd)) h with
        | none => none
        | some o => some (slV h.n 0 (Nat.add sl.n m) LOOSE, (h.write p.b .dead).alloc o)) = _
    rw [g2, g3, uu.n]
  | _ => simp [hob] at hx
theorem app2_std {e : TypeId} {s x : Value} {sl : SL} {m : Nat} {ei : TI} (hs : asSl s = some sl) (hm : srcLen x = some m) (h8 : ei.u8 = true) (h1z : ei.size = 1) (hx : sApp2 ei e s x sl.a sl.n sl.c m h = some (r, h1)) : SD (app2 ei e s x sl m h) h r h1 := by
  unfold sApp2 at hx
  obtain ⟨d, h', k1, k2⟩ := sDec_some hx
  have u := Up.dec k1
  cases d with
  | true =>
    simp only [Option.some.injEq, Prod.mk.injEq] at k2
    obtain ⟨rfl, rfl⟩ := k2
    refine .up u (.refl _) (fun q => ?_) rfl
    have := dec_told k1 q
    unfold app2
    rw [← this]
  | false =>
    simp only at k2
    have lift : ∀ {f : AH → AR}, SD (f h') h' r h1 → (∀ a b, Up a b → ∀ r1 b1, f b = some (r1, b1) → ∃ a1, f a = some (r1, a1) ∧ Up a1 b1) → (OB h1 → app2 ei e s x sl m h = f h) → SD (app2 ei e s x sl m h) h r h1 := fun {f} hS hm hq => by
      refine ⟨u.fwd.trans hS.1, fun q => ?_⟩
      obtain ⟨h2, g1, g2⟩ := hS.2 q
      obtain ⟨a1, g3, g4⟩ := hm h h' u _ _ g1
      exact ⟨a1, by rw [hq q]; exact g3, g4.trans g2⟩
    unfold sApp3 at k2
    have hjup : ∀ (fz kd : Nat) (a b : AH), Up a b → joinObj ei e s x sl.n m fz kd b = joinObj ei e s x sl.n m fz kd a := fun fz kd a b v => by
      unfold joinObj
      simp only [h8, srcBytes_up v]
    cases hl : loose sl.c with
    | true =>
      simp only [hl] at k2
      have hS := appLoose_std hs hm h8 h1z k2
      refine lift (f := appLoose ei e s x sl m) hS (fun a b v r1 b1 hb => ?_) fun q => ?_
      · unfold appLoose at hb ⊢
        cases ha : sl.a with
        | none => simp [ha] at hb
        | some p =>
        simp only [ha, v.obj] at hb ⊢
        cases he : isElem e (a.obj p.b) with
        | false => simp [he] at hb
        | true =>
        simp only [he] at hb ⊢
        unfold appLoose1 at hb ⊢
        rw [hjup _ _ a b v] at hb
        cases hz : Nat.ble (fzOf (a.obj p.b)) (Nat.add p.off (Nat.mul sl.n ei.size)) with
        | false => rw [hz] at hb; cases hb
        | true =>
        simp only [hz] at hb ⊢
        cases hj : joinObj ei e s x sl.n m (Nat.sub (fzOf (a.obj p.b)) p.off) (marks (a.obj p.b)) a with
        | none => rw [hj] at hb; cases hb
        | some o =>
        simp only [hj, Option.some.injEq, Prod.mk.injEq] at hb ⊢
        obtain ⟨rfl, rfl⟩ := hb
        exact ⟨_, ⟨by rw [v.n], rfl⟩, (v.write p.b .dead).alloc o⟩
      · have hd := dec_told k1 (hS.1.ob q)
        unfold app2
        rw [← hd]
        simp only [hl]
    | false =>
      simp only [hl] at k2
      obtain ⟨d2, h'', k3, k4⟩ := sDec_some k2
      have u2 := Up.dec k3
      cases d2 with
      | true => simp at k4
      | false =>
        simp only at k4
        have hS := appNew_std hs hm h8 k4
        have hmono : ∀ a b, Up a b → ∀ r1 b1, appNew ei e s x sl.n m b = some (r1, b1) → ∃ a1, appNew ei e s x sl.n m a = some (r1, a1) ∧ Up a1 b1 := fun a b v r1 b1 hb => by
          unfold appNew at hb ⊢
          rw [hjup _ _ a b v] at hb
          cases hj : joinObj ei e s x sl.n m 0 1 a with
          | none => rw [hj] at hb; cases hb
          | some o =>
          simp only [hj, Option.some.injEq, Prod.mk.injEq] at hb ⊢
          obtain ⟨rfl, rfl⟩ := hb
          exact ⟨_, ⟨by rw [v.n], rfl⟩, v.alloc o⟩
        have hS2 : SD (appNew ei e s x sl.n m h') h' r h1 := by
          refine ⟨u2.fwd.trans hS.1, fun q => ?_⟩
          obtain ⟨h2, g1, g2⟩ := hS.2 q
          obtain ⟨a1, g3, g4⟩ := hmono h' h'' u2 _ _ g1
          exact ⟨a1, g3, g4.trans g2⟩
        refine lift (f := appNew ei e s x sl.n m) hS2 hmono fun q => ?_
        have hd2 := dec_told k3 (hS.1.ob q)
        have hd := dec_told k1 (u2.ob (hS.1.ob q))
        unfold app2
        rw [← hd]
        simp only [hl]
        rw [← hd2]
theorem append_std {s x : Value} (hs' : h.sym = true) (hx : sappend E ty s x h = some (r, h1)) (hf : aappend E ty s x h = some (r, h1) → Fwd h h1) : SD (aappend E ty s x h) h r h1 := by
  unfold sappend at hx
  cases hs : asSl s with
  | none => simp [hs] at hx
  | some sl =>
  simp only [hs] at hx
  cases hm : srcLen x with
  | none => simp [hm] at hx
  | some m =>
  simp only [hm] at hx
  cases ht : E.ty.get ty with
  | none => simp [ht] at hx
  | some ti =>
  simp only [ht] at hx
  cases hk : Nat.beq ti.kd 5 with
  | false => simp [hk] at hx
  | true =>
  simp only [hk] at hx
  cases he : E.ty.get ti.el with
  | none => simp [he] at hx
  | some ei =>
  simp only [he] at hx
  cases h8 : ei.u8 with
  | false => simp only [h8] at hx; exact .same hx (hf hx)
  | true =>
  simp only [h8] at hx
  unfold sApp1 at hx
  cases hb : Nat.ble ei.bytes 256 with
  | false => simp [hb] at hx
  | true =>
  simp only [hb] at hx
  cases hz : ei.zero with
  | none => simp [hz] at hx
  | some z =>
  simp only [hz] at hx
  cases h1z : Nat.beq ei.size 1 with
  | false => simp [h1z] at hx
  | true =>
  simp only [h1z] at hx
  have u := Up.owe h (Nat.ble (Nat.add sl.n m) 4294967296)
  have hS := app2_std hs hm h8 (Nat.eq_of_beq_eq_true h1z) hx
  refine ⟨u.fwd.trans hS.1, fun q => ?_⟩
  obtain ⟨h2, g1, g2⟩ := hS.2 q
  refine ⟨h2, ?_, g2⟩
  unfold aappend
  simp only [hs, hm, ht, hk, he]
  unfold app1
  simp only [hb, hz]
  rw [req_sym hs']
  exact g1
theorem unsStr_std {p l : Value} (hs : h.sym = true) (hx : sunsafeString E ty p l h = some (r, h1)) : SD (aunsafeString E ty p l h) h r h1 := by
  unfold sunsafeString at hx
  cases hn : asNat l with
  | none => simp [hn] at hx
  | some n =>
  simp only [hn] at hx
  cases ht : E.ty.get ty with
  | none => simp [ht] at hx
  | some ti =>
  simp only [ht] at hx
  cases hk : Nat.beq ti.kd 4 with
  | false => simp [hk] at hx
  | true =>
  simp only [hk] at hx
  cases he : E.ty.get ti.el with
  | none => simp [he] at hx
  | some ui =>
  simp only [he] at hx
  cases h8 : ui.u8 with
  | false => simp [h8] at hx
  | true =>
  simp only [h8] at hx
  obtain ⟨d, h', k1, k2⟩ := sDec_some hx
  have u := Up.dec k1
  have hst : ∀ d, d = Nat.beq n 0 → aunsafeString E ty p l h = (match d with
      | true => match isNilP p with
        | true => some (strV [], h)
        | false => none
      | false => match asPtr p with
        | none => none
        | some p => match bytesO (h.obj p.b) with
          | some y => unsStr ti p n h y
          | none => none) := fun d e => by
    unfold aunsafeString
    simp only [hn, ht, hk, he, h8, ← e]
    first | done | rfl
  cases d with
  | true =>
    simp only at k2
    cases hp : isNilP p with
    | false => simp [hp] at k2
    | true =>
      simp only [hp, Option.some.injEq, Prod.mk.injEq] at k2
      obtain ⟨rfl, rfl⟩ := k2
      refine .up u (.refl _) (fun q => ?_) rfl
      rw [hst true (dec_told k1 q)]
      simp only [hp]
  | false =>
    simp only at k2
    cases hp : asPtr p with
    | none => simp [hp] at k2
    | some q =>
    simp only [hp] at k2
    unfold sUnsStr2 at k2
    obtain ⟨qb, qoff⟩ := q
    simp only [u.obj] at k2
    cases hb : bytesO (h.obj qb) with
    | none => simp [hb] at k2
    | some y =>
    simp only [hb] at k2
    unfold sUnsStr1 at k2
    obtain ⟨yl, ye, yfz, ykd⟩ := y
    simp only at k2
    cases h2 : Nat.beq ykd 2 with
    | true => simp [h2] at k2
    | false =>
    simp only [h2] at k2
    cases h3 : Nat.beq ye ti.el with
    | false => simp [h3] at k2
    | true =>
    simp only [h3, Option.some.injEq, Prod.mk.injEq] at k2
    obtain ⟨rfl, rfl⟩ := k2
    have u1 := Up.owe h' (Nat.ble n 1099511627776)
    have u2 := Up.owe (h'.owe (Nat.ble n 1099511627776)) (Nat.beq (len (drp qoff yl)) n)
    have uu := (u.trans u1).trans u2
    refine ⟨uu.fwd.trans (.write _ _ _), fun k => ⟨h.write qb (.bytes yl ye (Nat.max yfz (Nat.add qoff n)) ykd), ?_, uu.write _ _⟩⟩
    have k' : OB ((h'.owe (Nat.ble n 1099511627776)).owe (Nat.beq (len (drp qoff yl)) n)) := k
    obtain ⟨g1, g2⟩ := ob_owe k'
    obtain ⟨g3, g4⟩ := ob_owe g1
    rw [hst false (dec_told k1 g3)]
    simp only [hp, hb]
    unfold unsStr
    simp only [h2, h3, g4]
    rw [len_eq, drp_eq] at g2
    have g5 : (yl.drop qoff).length = n := Nat.eq_of_beq_eq_true g2
    rw [drp_eq, tk_le n _ (by omega), List.take_of_length_le (by omega)]
    unfold fin
    rw [hs]
theorem data_std {x : Value} (hx : sData x h = some (r, h1)) : SD (asliceData x h) h r h1 := by
  unfold sData at hx
  cases hs : asSl x with
  | none => simp [hs] at hx
  | some s =>
  simp only [hs] at hx
  cases ha : s.a with
  | none =>
    simp only [ha] at hx
    have e : h1 = h := by simp at hx; exact hx.2.symm
    refine .same ?_ (.of_eq e)
    unfold asliceData
    simp only [hs, ha]; exact hx
  | some p =>
    simp only [ha] at hx
    obtain ⟨d, h', k1, k2⟩ := sDec_some hx
    cases d with
    | true => simp [sData1] at k2
    | false =>
      simp only [sData1, Option.some.injEq, Prod.mk.injEq] at k2
      obtain ⟨rfl, rfl⟩ := k2
      refine .up (Up.dec k1) (.refl _) (fun q => ?_) rfl
      unfold asliceData
      simp only [hs, ha]
      rw [← dec_told k1 q]
theorem sMax_std {x y : Value} {m n : Nat} (h2 : twoNat x y = some (m, n)) (hx : sMax2 m n h = some (r, h1)) : SD (mm maxI x y h) h r h1 := by
  obtain ⟨rfl, rfl⟩ := twoNat_some h2
  unfold sMax2 at hx
  obtain ⟨d, h', k1, k2⟩ := sDec_some hx
  have hst : mm maxI (.int .i64 m) (.int .i64 n) h = some (.int .i64 (if (n : Int) > (m : Int) then (n : Int) else (m : Int)), h) := rfl
  cases d with
  | true =>
    simp only [Option.some.injEq, Prod.mk.injEq] at k2
    obtain ⟨rfl, rfl⟩ := k2
    refine .up (Up.dec k1) (.refl _) (fun q => ?_) rfl
    have g := dec_told k1 q
    rw [blt_eq] at g
    have g : m < n := by simpa using g.symm
    rw [hst, if_pos (by omega)]; rfl
  | false =>
    simp only [Option.some.injEq, Prod.mk.injEq] at k2
    obtain ⟨rfl, rfl⟩ := k2
    refine .up (Up.dec k1) (.refl _) (fun q => ?_) rfl
    have g := dec_told k1 q
    rw [blt_eq] at g
    have g : ¬ m < n := by simpa using g.symm
    rw [hst, if_neg (by omega)]; rfl
theorem sMin_std {x y : Value} {m n : Nat} (h2 : twoNat x y = some (m, n)) (hx : sMin2 m n h = some (r, h1)) : SD (mm minI x y h) h r h1 := by
  obtain ⟨rfl, rfl⟩ := twoNat_some h2
  unfold sMin2 at hx
  obtain ⟨d, h', k1, k2⟩ := sDec_some hx
  have hst : mm minI (.int .i64 m) (.int .i64 n) h = some (.int .i64 (if (n : Int) < (m : Int) then (n : Int) else (m : Int)), h) := rfl
  cases d with
  | true =>
    simp only [Option.some.injEq, Prod.mk.injEq] at k2
    obtain ⟨rfl, rfl⟩ := k2
    refine .up (Up.dec k1) (.refl _) (fun q => ?_) rfl
    have g := dec_told k1 q
    rw [blt_eq] at g
    have g : n < m := by simpa using g.symm
    rw [hst, if_pos (by omega)]; rfl
  | false =>
    simp only [Option.some.injEq, Prod.mk.injEq] at k2
    obtain ⟨rfl, rfl⟩ := k2
    refine .up (Up.dec k1) (.refl _) (fun q => ?_) rfl
    have g := dec_told k1 q
    rw [blt_eq] at g
    have g : ¬ n < m := by simpa using g.symm
    rw [hst, if_neg (by omega)]; rfl
theorem sInts_some {f : Nat → Nat → AH → AR} {g : AR} {x y : Value} (hx : sInts f g x y h = some (r, h1)) : g = some (r, h1) ∨ ∃ m n, twoNat x y = some (m, n) ∧ f m n h = some (r, h1) := by
  unfold sInts at hx
  cases h2 : twoNat x y with
  | none => rw [h2] at hx; exact .inl hx
  | some p => obtain ⟨m, n⟩ := p; rw [h2] at hx; exact .inr ⟨m, n, rfl, hx⟩
/-- A builtin. -/
theorem builtinS_std {bi : Builtin} {ts : List TypeId} {args : List Value} (hs : h.sym = true) (hx : sbuiltinF bi E ts args h = some (r, h1)) : SD (builtinF bi E ts args h) h r h1 := by
  have std : builtinF bi E ts args h = some (r, h1) → SD (builtinF bi E ts args h) h r h1 := fun k => .same k (builtinF_fwd k)
  cases bi with
  | append =>
    have hx : sfAppend E ts args h = some (r, h1) := hx
    show SD (bfAppend E ts args h) h r h1
    unfold sfAppend at hx
    unfold bfAppend
    match ts, hx with
    | [], hx => simp at hx
    | [_], hx => simp at hx
    | t0 :: xt :: ts', hx =>
      simp only at hx ⊢
      cases ht : E.ty.get xt with
      | none => simp [ht] at hx
      | some xi =>
      simp only [ht] at hx ⊢
      have go : pair sappend E (t0 :: xt :: ts') args h = some (r, h1) → SD (pair aappend E (t0 :: xt :: ts') args h) h r h1 := fun k => by
        unfold pair at k ⊢
        match args, k with
        | [], k => simp at k
        | [_], k => simp at k
        | [x, y], k => exact append_std hs k fun k2 => aappend_fwd k2
        | _ :: _ :: _ :: _, k => simp at k
      cases h5 : Nat.beq xi.kd 5 with
      | true => simp only [h5] at hx ⊢; exact go hx
      | false =>
        simp only [h5] at hx ⊢
        cases h3 : Nat.beq xi.kd 3 with
        | true => simp only [h3] at hx ⊢; exact go hx
        | false => simp [h3] at hx
  | max =>
    have hx : s2 (fun x y h => sInts sMax2 (bfMax E ts args h) x y h) args h = some (r, h1) := hx
    unfold s2 at hx
    match args, hx, std with
    | [], hx, _ => simp at hx
    | [_], hx, _ => simp at hx
    | [x, y], hx, std =>
      rcases sInts_some hx with k | ⟨m, n, k1, k2⟩
      · exact std k
      · exact sMax_std k1 k2
    | _ :: _ :: _ :: _, hx, _ => simp at hx
  | min =>
    have hx : s2 (fun x y h => sInts sMin2 (bfMin E ts args h) x y h) args h = some (r, h1) := hx
    unfold s2 at hx
    match args, hx, std with
    | [], hx, _ => simp at hx
    | [_], hx, _ => simp at hx
    | [x, y], hx, std =>
      rcases sInts_some hx with k | ⟨m, n, k1, k2⟩
      · exact std k
      · exact sMin_std k1 k2
    | _ :: _ :: _ :: _, hx, _ => simp at hx
  | unsafeSliceData =>
    have hx : s1 sData args h = some (r, h1) := hx
    unfold s1 at hx
    match args, hx with
    | [], hx => simp at hx
    | [x], hx => exact data_std hx
    | _ :: _ :: _, hx => simp at hx
  | unsafeString =>
    have hx : pair sunsafeString E ts args h = some (r, h1) := hx
    show SD (pair aunsafeString E ts args h) h r h1
    unfold pair at hx ⊢
    match ts, args, hx with
    | [], _, hx => simp at hx
    | t0 :: _, [], hx => simp at hx
    | t0 :: _, [_], hx => simp at hx
    | t0 :: _, [x, y], hx => exact unsStr_std hs hx
    | t0 :: _, _ :: _ :: _ :: _, hx => simp at hx
  | _ => exact std hx
theorem aopS_std (hC : CFwd C) {o : Op} {t : Tr Value} (hs : h.sym = true) (hx : aopS o E C t h = some (r, h1)) : SD (aop0 o E C t h) h r h1 := by
  have std : aop0 o E C t h = some (r, h1) → SD (aop0 o E C t h) h r h1 := fun k => .same k (aop0_fwd hC k)
  cases o with
  | binOp op ty x y z =>
    have hx : oBinS op ty x y E C t h = some (r, h1) := hx
    unfold oBinS at hx
    cases op with
    | add =>
      rcases sInts_some hx with k | ⟨m, n, k1, k2⟩
      · exact std k
      · exact sAdd_std (E := E) (ty := ty) (x := x) (y := y) k1 k2
    | sub =>
      rcases sInts_some hx with k | ⟨m, n, k1, k2⟩
      · exact std k
      · exact sSub_std (E := E) (ty := ty) (x := x) (y := y) k1 k2
    | _ => exact std hx
  | convert s d x =>
    have hx : oConvS s d x E C t h = some (r, h1) := hx
    unfold oConvS at hx
    cases hy : asSl (aeval t x) with
    | none => simp only [hy] at hx; exact std hx
    | some y =>
      simp only [hy] at hx
      exact sConv_std hs hy hx fun k => aop0_fwd hC (o := .convert s d x) (tm := t) k
  | slice ty x lo hi mx =>
    have hx : oSliceS ty x lo hi mx E C t h = some (r, h1) := hx
    unfold oSliceS at hx
    cases hy : asStr (aeval t x) with
    | none => simp only [hy] at hx; exact std hx
    | some l => simp only [hy] at hx; exact sSlice_std hs hy hx
  | index ty x i =>
    have hx : oIndexS ty x i E C t h = some (r, h1) := hx
    unfold oIndexS at hx
    cases hy : asStr (aeval t x) with
    | none => simp only [hy] at hx; exact std hx
    | some l => simp only [hy] at hx; exact sIndex_std hy hx
  | call c =>
    obtain ⟨callee, args, argTypes⟩ := c
    cases callee with
    | builtin b => exact builtinS_std hs hx
    | _ => exact std hx
  | _ => exact std hx
theorem aop_some {o : Op} {t : Tr Value} (hC : CFwd C) (hx : aop o E C t h = some (r, h1)) : SD (aop0 o E C t h) h r h1 := by
  unfold aop symC at hx
  cases hs : h.sym with
  | true => simp only [hs] at hx; exact aopS_std hC hs hx
  | false => simp only [hs] at hx; exact .same hx (aop0_fwd hC hx)
theorem aop_fwd (hC : CFwd C) {o : Op} {tm : Tr Value} (hx : aop o E C tm h = some (r, h1)) : Fwd h h1 := (aop_some hC hx).1
theorem aop_ok {P : Program} {G : Nat} {ρ : Ren} {w : World} {a : Act} {t : Tr Value} {o : Oper} (hE : EnvM P E) (hC : CallOK P G C) (hCF : CFwd C) (hop : ∀ x ∈ o.op.operands.toList, VR ρ (aeval t x) (a.eval x)) (hx : aop o.op E C t h = some (r, h1)) (hob : OB h1) (hg : GL G ρ) (hr : Rel P.cellsOf ρ h w) (hf : Fr ρ h.n h1.n) : Goes P o a ρ h w r h1 := by
  obtain ⟨h2, k1, u⟩ := (aop_some hCF hx).2 hob
  have hf2 : Fr ρ h.n h2.n := by rw [← u.n]; exact hf
  have hG := aop0_ok hE hC hop k1 (u.ob hob) hg hr hf2
  intro next Q hn
  exact hG next Q fun ρ' r' w' hv hst => hn ρ' r' w' hv (Step.trans hf hst (.same hst.rel u.t u.n u.log rfl (Str.refl _)))
end
end Go.Proofs.YtkmbkejmfffafaaGreatDoor.Refl
/- The second reading against the model: deferred calls, the end of a body. -/
namespace Go.Proofs.YtkmbkejmfffafaaGreatDoor.Refl
open Go
set_option linter.unusedVariables false
set_option linter.unusedSimpArgs false

inductive DfR (ρ : Ren) : ADef → Deferred → Prop where
  | fn {f : Nat} {args : List Value} {cap dargs : Array Value} (h : LR ρ args (dargs ++ cap).toList) : DfR ρ (.fn f args) ⟨.fn (.func f) cap, dargs⟩
  | builtin {b : Builtin} {ts : List TypeId} {args args' : List Value} {ty : TypeId} {cs : Array Bool} (h : LR ρ args args') : DfR ρ (.builtin b ts args) ⟨.builtin b ts.toArray ty cs, args'.toArray⟩
inductive DsR (ρ : Ren) : List ADef → List Deferred → Prop where
  | nil : DsR ρ [] []
  | cons {x : ADef} {d : Deferred} {l : List ADef} {ds : List Deferred} (h : DfR ρ x d) (hl : DsR ρ l ds) : DsR ρ (x :: l) (d :: ds)
theorem DfR.mono {ρ ρ' : Ren} (he : Ext ρ ρ') {x : ADef} {d : Deferred} (h : DfR ρ x d) : DfR ρ' x d := by
  cases h with
  | fn h => exact .fn (h.mono he)
  | builtin h => exact .builtin (h.mono he)
theorem DsR.mono {ρ ρ' : Ren} (he : Ext ρ ρ') {l : List ADef} {ds : List Deferred} (h : DsR ρ l ds) : DsR ρ' l ds := by
  induction h with
  | nil => exact .nil
  | cons h _ ih => exact .cons (h.mono he) ih
theorem forceT_eq {α β : Type} (t : Tr α) (k : Tr α → β) : forceT t β k = k t := by cases t <;> rfl
theorem forceG_eq {α : Type} (l : List Nat) (k : List Nat → α) : forceG l α k = k l := by cases l <;> rfl
theorem forceH_eq {α : Type} (h : AH) (k : AH → α) : forceH h α k = k h := by
  obtain ⟨t, n, log, sym, cnt, orc, ob⟩ := h
  show forceT t α (fun t => forceN n fun n => forceG log α fun log => k ⟨t, n, log, sym, cnt, orc, ob⟩) = _
  rw [forceT_eq, forceN_eq, forceG_eq]
theorem forceAll_eq {α : Type} (v : Value) (h : AH) (k : Value → AH → α) : forceAll v h α k = k v h := by
  unfold forceAll
  cases h.sym with
  | true => show headV v α (fun v => forceH h α fun h => k v h) = _; rw [headV_eq, forceH_eq]
  | false => show forceV v α (fun v => forceH h α fun h => k v h) = _; rw [forceV_eq, forceH_eq]

section
variable {P : Program} {E : Env} {C : CallF} {G N : Nat} {h h1 : AH} {ρ : Ren} {w : World}
theorem adefers_cons {x : ADef} {l : List ADef} (hx : adefers E C (x :: l) h = some h1) : ∃ r h2, adef1 E C x h = some (r, h2) ∧ adefers E C l h2 = some h1 := by
  have hx' : (match adef1 E C x h with
    | some r => match r with
      | (_, h) => forceH h (Option AH) (adefers E C l)
    | none => none) = some h1 := hx
  cases ha : adef1 E C x h with
  | none => simp [ha] at hx'
  | some p =>
    obtain ⟨r, h2⟩ := p
    simp only [ha] at hx'
    rw [forceH_eq] at hx'
    exact ⟨r, h2, rfl, hx'⟩
theorem adef1_fwd (hC : CFwd C) {x : ADef} {r : Value} (hx : adef1 E C x h = some (r, h1)) : Fwd h h1 := by
  cases x with
  | fn f args =>
    have hx : (match E.ext.get f with | some _ => none | none => C f args h) = some (r, h1) := hx
    cases he : E.ext.get f with
    | some g => rw [he] at hx; cases hx
    | none => rw [he] at hx; exact hC _ _ _ _ _ hx
  | builtin b ts args => exact builtinF_fwd hx
theorem adefers_fwd (hC : CFwd C) : ∀ (l : List ADef) (h : AH), adefers E C l h = some h1 → Fwd h h1
  | [], h, hx => by have : some h = some h1 := hx; cases this; exact .refl _
  | x :: l, h, hx => by
    obtain ⟨r, h2, k1, k2⟩ := adefers_cons hx
    exact (adef1_fwd hC k1).trans (adefers_fwd hC l h2 k2)
theorem step_defer_value {fr : Frame} {cs : List Frame} {w w' : World} {d : Deferred} {ds : List Deferred} {v : Value} (hm : fr.mode = .returning) (hd : fr.defers = d :: ds) (hnc : ∀ b, d.target ≠ .collected b)
    (hi : (invoke d.target d.args).run P w = .ok (.value v) w') : step P (lone fr cs w) = .next (lone { fr with defers := ds } cs w') := by
  obtain ⟨t, a⟩ := d
  refine step_lone_go ?_
  cases t with
  | collected b => exact absurd rfl (hnc b)
  | _ => simp only at hi; simp [stepG, unwind, callDeferred, hm, hd, hi]
theorem step_defer_back {fr : Frame} {cs : List Frame} {w w' : World} {d : Deferred} {ds : List Deferred} {fv : Fn} {cap : Array Value} {f : FuncId}
    {args : Array Value} (hm : fr.mode ≠ .run) (hd : fr.defers = d :: ds) (ht : d.target = .fn fv cap)
    (hi : (invoke d.target d.args).run P w = .ok (.enter f args) w') :
    step P (lone fr cs w) = .next (lone (Frame.enter P f args .deferred) ({ fr with defers := ds } :: cs) w') := by
  obtain ⟨t, a⟩ := d
  simp only at ht hi
  subst ht
  refine step_lone_go ?_
  cases hmode : fr.mode with
  | run => exact absurd hmode hm
  | returning => simp [stepG, unwind, callDeferred, hmode, hd, hi]
  | panicking chain => simp [stepG, unwind, callDeferred, hmode, hd, hi]
/-- One deferred call. -/
theorem defer_ok (hE : EnvM P E) (hC : DefOK P G E C) {x : ADef} {d : Deferred} {r : Value} (hx : adef1 E C x h = some (r, h1)) (hob : OB h1) (hg : GL G ρ) (hr : Rel P.cellsOf ρ h w) (hf : Fr ρ h.n h1.n) (hd : DfR ρ x d) :
    ∃ (R : World → Prop), (∀ w', R w' → ∃ ρ', Step P.cellsOf ρ h w ρ' h1 w') ∧ ∀ (fr : Frame) (cs : List Frame) (ds : List Deferred), fr.mode = .returning → fr.defers = d :: ds →
      ∃ w', R w' ∧ Steps P (lone fr cs w) (lone { fr with defers := ds } cs w') := by
  refine ⟨fun w' => ∃ ρ', Step P.cellsOf ρ h w ρ' h1 w', fun w' h => h, fun fr cs ds hm hds => ?_⟩
  obtain ⟨ffn, ftmps, ftodo, fdefers, fmode, fkind, fround⟩ := fr
  simp only at hm hds
  subst hm
  subst hds
  cases hd with
  | @builtin b ts args args' ty cbs hl =>
    obtain ⟨ρ', r', w', k1, k2, k3⟩ := (builtinF_ok (cs := cbs) (ty := ty) hE.toEnvT (b := b) (ts := ts) (args := args) hx hob hr hf hl).2
    refine ⟨w', ⟨ρ', k3⟩, .one (step_defer_value rfl rfl (by simp) (v := r') ?_)⟩
    simpa [invoke] using k1
  | @fn f args cap dargs hl =>
    have hx : (match E.ext.get f with | some _ => none | none => C f args h) = some (r, h1) := hx
    cases hee : E.ext.get f with
    | some g => rw [hee] at hx; cases hx
    | none =>
    rw [hee] at hx
    have ha := hC f args h r h1 hee hx hob ρ w _ hg hr hf hl
    have hinv : (invoke (.fn (.func f) cap) dargs).run P w = (callFunc f (dargs ++ cap).toList.toArray).run P w := by
      show (callFunc f (dargs ++ cap)).run P w = _
      rw [Array.toArray_toList]
    unfold AnsD at ha
    cases hc : (callFunc f (dargs ++ cap).toList.toArray).run P w with
    | halt q w' => rw [hc] at ha; exact ha.elim
    | ok q w' =>
      rw [hc] at ha hinv
      cases q with
      | value v =>
        obtain ⟨ρ', k1, k2⟩ := ha
        exact ⟨w', ⟨ρ', k2⟩, .one (step_defer_value rfl rfl (by simp) (v := v) hinv)⟩
      | enter f2 a2 =>
        have hcd := ha
        have h1 := step_defer_back (d := ⟨.fn (.func f) cap, dargs⟩) (ds := ds) (fr := ⟨ffn, ftmps, ftodo, ⟨.fn (.func f) cap, dargs⟩ :: ds, .returning, fkind, fround⟩) (cs := cs) (by simp) rfl rfl hinv
        obtain ⟨e, u', w'', frX, hR, hsteps, hkX, hgo⟩ := hcd ⟨ffn, ftmps, ftodo, ds, .returning, fkind, fround⟩ cs rfl
        obtain ⟨rfl, hR⟩ := hR
        cases e with
        | returned v =>
          obtain ⟨ρ', k1, k2⟩ := hR
          have h2 := step_going_returned (c := ⟨ffn, ftmps, ftodo, ds, .returning, fkind, fround⟩) (cs := cs) hkX hgo
          exact ⟨w'', ⟨ρ', k2⟩, .head h1 (Steps.trans hsteps (.one h2))⟩
        | panicked c => exact hR.elim
        | outgrown => exact hR.elim
      | _ => exact ha.elim
/-- All deferred calls of a frame. -/
theorem adefers_ok (hE : EnvM P E) (hC : DefOK P G E C) (hCF : CFwd C) : ∀ (l : List ADef) (ds : List Deferred) (h : AH) (ρ : Ren) (w : World), adefers E C l h = some h1 → OB h1 → GL G ρ → Rel P.cellsOf ρ h w → Fr ρ h.n h1.n → DsR ρ l ds →
    ∀ (fr : Frame) (cs : List Frame), fr.mode = .returning → fr.defers = ds → ∃ ρ' w', Step P.cellsOf ρ h w ρ' h1 w' ∧ Steps P (lone fr cs w) (lone { fr with defers := [] } cs w') := by
  intro l
  induction l with
  | nil =>
    intro ds h ρ w hx hob hg hr hf hd fr cs hm hds
    have hx : some h = some h1 := hx
    cases hx
    cases hd
    refine ⟨ρ, w, .refl hr, ?_⟩
    have : ({ fr with defers := [] } : Frame) = fr := by rw [← hds]
    rw [this]; exact Steps.refl P _
  | cons x l ih =>
    intro ds h ρ w hx hob hg hr hf hd fr cs hm hds
    obtain ⟨r, h2, k1, k2⟩ := adefers_cons hx
    have hf2 := adefers_fwd hCF l h2 k2
    have hf1 := adef1_fwd hCF k1
    cases hd with
    | @cons _ d _ ds h hl =>
      obtain ⟨R, hR, hrun⟩ := defer_ok hE hC k1 (hf2.ob hob) hg hr (hf.sub (Nat.le_refl _) hf2.n) h
      obtain ⟨w', hw', hs⟩ := hrun fr cs ds hm hds
      obtain ⟨ρ', hst⟩ := hR w' hw'
      obtain ⟨ρ2, w2, hst2, hs2⟩ := ih ds h2 ρ' w' k2 hob (hg.mono hst.ext) hst.rel (Fr.next hf hst) (hl.mono hst.ext) { fr with defers := ds } cs hm rfl
      exact ⟨ρ2, w2, Step.trans hf hst hst2, Steps.trans hs hs2⟩
/-- A body that ends, its deferred calls made, its results read. -/
theorem body_ok {f : FuncId} {fn : Func} {c : Code} {args : Array Value} {R : Value → World → Prop} {Q : Exit → Act → World → Prop} (hf : P.funcs[f]? = some fn) (hb : fn.body = some c)
    (h : c.wp P Q { tmps := args ++ Array.replicate (fn.ntmps - args.size) undef, defers := [] } w)
    (hQ : ∀ e a w, Q e a w → (e = .normal ∨ e = .ret) ∧ ∀ (fr : Frame) (cs : List Frame), fr.mode = .returning → fr.defers = a.defers → ∃ v w', Steps P (lone fr cs w) (lone { fr with defers := [] } cs w') ∧ (results fn a.tmps).run P w' = .ok v w' ∧ R v w') :
    Calls P f args w (Back R) ∧ CallsD P f args .returning w (fun e u w'' => u = .returning ∧ Back R e w'') := by
  constructor
  · intro cs
    let b : Frame := { (default : Frame) with fn := f, kind := .normal }
    have henter : Frame.enter P f args .normal = b.at { tmps := args ++ Array.replicate (fn.ntmps - args.size) undef, defers := [] } [.code c] := by
      simp [Frame.enter, Frame.at, hf, hb, b]
    obtain ⟨e, a', w', hq, harr⟩ := h b [] cs
    rw [← henter] at harr
    obtain ⟨he, hfin⟩ := hQ e a' w' hq
    rcases he with rfl | rfl
    · obtain ⟨v, w'', hs, hr, hv⟩ := hfin { b.at a' [] with mode := .returning } cs rfl rfl
      exact ⟨.returned v, w'', _, hv, Steps.trans harr (Steps.trans (.one step_end) hs), rfl, rfl, rfl, rfl, fn, hf, hr⟩
    · obtain ⟨todo, hs₀⟩ := harr
      obtain ⟨v, w'', hs, hr, hv⟩ := hfin { b.at a' todo with mode := .returning } cs rfl rfl
      exact ⟨.returned v, w'', _, hv, Steps.trans hs₀ hs, rfl, rfl, rfl, rfl, fn, hf, hr⟩
  · intro c₀ cs hu
    let b : Frame := { (default : Frame) with fn := f, kind := .deferred }
    have henter : Frame.enter P f args .deferred = b.at { tmps := args ++ Array.replicate (fn.ntmps - args.size) undef, defers := [] } [.code c] := by
      simp [Frame.enter, Frame.at, hf, hb, b]
    have hc : ({ c₀ with mode := .returning } : Frame) = c₀ := by rw [← hu]
    obtain ⟨e, a', w', hq, harr⟩ := h b [] (c₀ :: cs)
    rw [← henter] at harr
    obtain ⟨he, hfin⟩ := hQ e a' w' hq
    rcases he with rfl | rfl
    · obtain ⟨v, w'', hs, hr, hv⟩ := hfin { b.at a' [] with mode := .returning } (c₀ :: cs) rfl rfl
      exact ⟨.returned v, .returning, w'', _, ⟨rfl, hv⟩, (by rw [hc]; exact Steps.trans harr (Steps.trans (.one step_end) hs)), rfl, rfl, rfl, fn, hf, hr⟩
    · obtain ⟨todo, hs₀⟩ := harr
      obtain ⟨v, w'', hs, hr, hv⟩ := hfin { b.at a' todo with mode := .returning } (c₀ :: cs) rfl rfl
      exact ⟨.returned v, .returning, w'', _, ⟨rfl, hv⟩, (by rw [hc]; exact Steps.trans hs₀ hs), rfl, rfl, rfl, fn, hf, hr⟩
end
end Go.Proofs.YtkmbkejmfffafaaGreatDoor.Refl
