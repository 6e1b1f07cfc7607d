/- Texts joined by this session's own program, part 3. -/
import Derived.Test.YtkmbkejmfffafaaGreatDoorQ2
set_option linter.unusedSectionVars false
set_option linter.unusedVariables false
set_option linter.unusedSimpArgs false
namespace Go.Proofs.YtkmbkejmfffafaaGreatDoor.Refl
open Go
set_option linter.unusedVariables false
set_option linter.unusedSimpArgs false
structure Fwd (h h1 : AH) : Prop where
  n : h.n ≤ h1.n
  ob : OB h1 → OB h
  keep : ∀ b, b < h.n → b ∉ h1.log → h1.obj b = h.obj b
  logm : ∀ b, b ∈ h.log → b ∈ h1.log
theorem Fwd.refl (h : AH) : Fwd h h := ⟨Nat.le_refl _, id, fun _ _ _ => rfl, fun _ h => h⟩
theorem Fwd.trans {a b c : AH} (h : Fwd a b) (k : Fwd b c) : Fwd a c := ⟨Nat.le_trans h.n k.n, fun q => h.ob (k.ob q),
  fun x hx hl => (k.keep x (Nat.lt_of_lt_of_le hx h.n) hl).trans (h.keep x hx fun hm => hl (k.logm _ hm)), fun x hx => k.logm _ (h.logm _ hx)⟩
theorem Fwd.alloc (h : AH) (o : AObj) : Fwd h (h.alloc o) := ⟨Nat.le_succ _, id, fun b hb _ => alloc_obj_old h o (by omega), fun _ h => h⟩
theorem Fwd.write (h : AH) (b : Nat) (o : AObj) : Fwd h (h.write b o) := ⟨Nat.le_refl _, id,
  fun x hx hl => write_obj_other h o fun e => hl (by rw [write_log, mem_addLog]; exact .inl e), fun x hx => by rw [write_log, mem_addLog]; exact .inr hx⟩
theorem Fwd.of_eq {h h1 : AH} (e : h1 = h) : Fwd h h1 := e ▸ Fwd.refl h
theorem Fwd.same {h h1 : AH} (ht : h1.t = h.t) (hn : h1.n = h.n) (hl : h1.log = h.log) (ho : OB h1 → OB h) : Fwd h h1 :=
  ⟨Nat.le_of_eq hn.symm, ho, fun b _ _ => AH.obj_eq ht hn b, fun b hb => by rw [hl]; exact hb⟩
section
variable {h h1 : AH} {r : Value} {E : Env} {t : TypeId}
theorem Fwd.req {c : Bool} (hx : h.req c = some h1) : Fwd h h1 := by
  obtain ⟨k1, k2, k3, k4⟩ := req_some hx
  exact .same k1 k2 k3 fun q => (k4 q).1
theorem beqB_true {a b : Bool} (h : beqB a b = true) : a = b := by cases a <;> cases b <;> simp [beqB] at h <;> rfl
theorem dec_some {b d : Bool} (hx : h.dec b = (d, h1)) : h1.t = h.t ∧ h1.n = h.n ∧ h1.log = h.log ∧ (OB h1 → OB h ∧ d = b) := by
  unfold AH.dec at hx
  cases ho : h.orc with
  | nil =>
    simp only [ho] at hx
    obtain ⟨rfl, rfl⟩ := Prod.mk.inj hx
    exact ⟨rfl, rfl, rfl, fun q => ⟨q, rfl⟩⟩
  | cons kd rest =>
    simp only [ho] at hx
    cases hk : Nat.beq kd.1 h.cnt with
    | true =>
      simp only [hk] at hx
      obtain ⟨rfl, rfl⟩ := Prod.mk.inj hx
      exact ⟨rfl, rfl, rfl, fun q => ⟨fun b hb => q b (List.mem_cons_of_mem _ hb), beqB_true (q _ (List.mem_cons_self ..))⟩⟩
    | false =>
      simp only [hk] at hx
      obtain ⟨rfl, rfl⟩ := Prod.mk.inj hx
      exact ⟨rfl, rfl, rfl, fun q => ⟨fun b hb => q b hb, rfl⟩⟩
theorem Fwd.dec {b d : Bool} (hx : h.dec b = (d, h1)) : Fwd h h1 := by
  obtain ⟨k1, k2, k3, k4⟩ := dec_some hx
  exact .same k1 k2 k3 fun q => (k4 q).1
theorem retStr_fwd {o : Option (List UInt8)} (hx : retStr h o = some (r, h1)) : Fwd h h1 := by
  obtain ⟨_, _, _, e⟩ := retStr_some hx; exact .of_eq e
theorem retAgg_fwd {o : Option (List Value)} (hx : retAgg h o = some (r, h1)) : Fwd h h1 := by
  obtain ⟨_, _, _, e⟩ := retAgg_some hx; exact .of_eq e
theorem retO_fwd {o : Option Value} (hx : retO h o = some (r, h1)) : Fwd h h1 := .of_eq (retO_some hx).2
theorem aggAt_fwd {off n : Nat} {l : List Value} (hx : aggAt off n l h = some (r, h1)) : Fwd h h1 := by
  unfold aggAt at hx
  split at hx
  · cases hx; exact .refl _
  · simp at hx
theorem storeAt_fwd {b off : Nat} {vs : List Value} (hx : storeAt h b off vs = some h1) : Fwd h h1 := by
  unfold storeAt at hx
  cases ho : h.obj b <;> rw [ho] at hx <;> simp only [stCells, stBytes] at hx
  all_goals (repeat' split at hx)
  all_goals first | (cases hx; exact .write _ _ _) | (simp at hx; done)
theorem unit_fwd {o : Option AH} (ho : ∀ h1, o = some h1 → Fwd h h1) (hx : unit o = some (r, h1)) : Fwd h h1 := ho _ (unit_some hx).1
theorem aload_fwd {v : Value} (hx : aload E t v h = some (r, h1)) : Fwd h h1 := by
  unfold aload at hx
  repeat' split at hx
  all_goals first | exact aggAt_fwd hx | exact retO_fwd hx | (simp at hx; done)
theorem astore_fwd {a v : Value} (hx : astore E t a v h = some h1) : Fwd h h1 := by
  unfold astore at hx
  repeat' split at hx
  all_goals first | exact storeAt_fwd hx | (cases hx; exact .refl _) | (simp at hx; done)
theorem aalloc_fwd {v : Value} (hx : aalloc t v h = some (r, h1)) : Fwd h h1 := by
  unfold aalloc at hx
  repeat' split at hx
  all_goals first | (cases hx; exact .alloc _ _) | (simp at hx; done)
theorem abuild_fwd {ps : List (Nat × Value)} (hx : abuild E t ps h = some (r, h1)) : Fwd h h1 := by
  unfold abuild at hx
  repeat' split at hx
  all_goals first | exact retAgg_fwd hx | (simp at hx; done)
theorem abuildSlice_fwd {n : Nat} {ps : List (Nat × Value)} (hx : abuildSlice E t n ps h = some (r, h1)) : Fwd h h1 := by
  unfold abuildSlice at hx
  repeat' split at hx
  all_goals first | (cases hx; exact .alloc _ _) | (simp at hx; done)
theorem amakeSlice_fwd {l c : Value} (hx : amakeSlice E t l c h = some (r, h1)) : Fwd h h1 := by
  unfold amakeSlice at hx
  repeat' split at hx
  all_goals first | (cases hx; exact .alloc _ _) | (simp at hx; done)
theorem aslice_fwd {x : Value} {lo hi mx : Option Value} (hx : aslice E t x lo hi mx h = some (r, h1)) : Fwd h h1 := by
  unfold aslice sliceStr sliceSl sliceArr sliceTight sliceLoose sliceTight1 at hx
  repeat' split at hx
  all_goals first | exact retStr_fwd hx | exact retO_fwd hx | (cases hx; exact .refl _) | (simp at hx; done)
theorem afieldAddr_fwd {x : Value} {i : Nat} (hx : afieldAddr E t x i h = some (r, h1)) : Fwd h h1 := by
  unfold afieldAddr at hx
  repeat' split at hx
  all_goals first | (cases hx; exact .refl _) | (simp at hx; done)
theorem afield_fwd {x : Value} {i : Nat} (hx : afield E t x i h = some (r, h1)) : Fwd h h1 := by
  unfold afield at hx
  repeat' split at hx
  all_goals first | exact aggAt_fwd hx | exact retO_fwd hx | (simp at hx; done)
theorem aindexAddr_fwd {x i : Value} (hx : aindexAddr E t x i h = some (r, h1)) : Fwd h h1 := by
  unfold aindexAddr elAddr at hx
  repeat' split at hx
  all_goals first | (cases hx; exact .refl _) | (simp at hx; done)
theorem aindex_fwd {x i : Value} (hx : aindex E t x i h = some (r, h1)) : Fwd h h1 := by
  unfold aindex at hx
  repeat' split at hx
  all_goals first | exact aggAt_fwd hx | exact retO_fwd hx | (simp at hx; done)
theorem alookup_fwd {x k : Value} {ok : Bool} (hx : alookup E t x k ok h = some (r, h1)) : Fwd h h1 := by
  unfold alookup lookIn lookRet at hx
  repeat' split at hx
  all_goals first | (cases hx; exact .refl _) | (simp at hx; done)
theorem amapUpdate_fwd {x k v : Value} (hx : amapUpdate E t x k v h = some h1) : Fwd h h1 := by
  unfold amapUpdate mapPut at hx
  repeat' split at hx
  all_goals first | (cases hx; exact .write _ _ _) | (simp at hx; done) | (cases hx; split <;> exact .write _ _ _)
theorem amapEntry_fwd {x k : Value} (hx : amapEntry E t x k h = some (r, h1)) : Fwd h h1 := by
  unfold amapEntry at hx
  repeat' split at hx
  all_goals first | (cases hx; exact .write _ _ _) | (simp at hx; done)
theorem aentryStore_fwd {x k v : Value} (hx : aentryStore x k v h = some h1) : Fwd h h1 := by
  unfold aentryStore at hx
  repeat' split at hx
  all_goals first | (cases hx; exact .write _ _ _) | (simp at hx; done)
theorem adelete_fwd {x k : Value} (hx : adelete E t x k h = some h1) : Fwd h h1 := by
  unfold adelete at hx
  repeat' split at hx
  all_goals first | (cases hx; exact .write _ _ _) | (simp at hx; done)
theorem arange_fwd {x : Value} (hx : arange E t x h = some (r, h1)) : Fwd h h1 := by
  unfold arange at hx
  repeat' split at hx
  all_goals first | (cases hx; exact .alloc _ _) | (simp at hx; done)
theorem anext_fwd {x : Value} (hx : anext x h = some (r, h1)) : Fwd h h1 := by
  unfold anext nextAt at hx
  repeat' split at hx
  all_goals first | (cases hx; exact .write _ _ _) | (cases hx; exact .refl _) | (simp at hx; done)
theorem unF_fwd {op : UnOp} {x : Value} (hx : unF op x h = some (r, h1)) : Fwd h h1 := by
  cases op <;> simp only [unF, negI, notI] at hx <;> (repeat' split at hx)
  all_goals first | (cases hx; exact .refl _) | (simp at hx; done)
theorem ints_fwd {f : IntKind → Int → Int → Value} {a b : Value} (hx : ints f a b h = some (r, h1)) : Fwd h h1 := by
  unfold ints two at hx
  repeat' split at hx
  all_goals first | (cases hx; exact .refl _) | (simp at hx; done)
theorem addS_fwd {a b : List UInt8} (hx : addS a b h = some (r, h1)) : Fwd h h1 := by
  unfold addS at hx
  split at hx
  · simp at hx
  · rename_i h2 hq
    rw [fin_eq _ _ _ _ (forceL_eq _ _)] at hx
    cases hx; exact .req hq
theorem either_fwd {f : IntKind → Int → Int → Value} {g : List UInt8 → List UInt8 → AH → AR} {a b : Value} (hg : ∀ a b, g a b h = some (r, h1) → Fwd h h1) (hx : either f g a b h = some (r, h1)) : Fwd h h1 := by
  unfold either strs two at hx
  repeat' split at hx
  all_goals first | exact hg _ _ hx | (cases hx; exact .refl _) | (simp at hx; done)
theorem shft_fwd {f : IntKind → Int → Nat → Value} {a b : Value} (hx : shft f a b h = some (r, h1)) : Fwd h h1 := by
  unfold shft at hx
  repeat' split at hx
  all_goals first | (cases hx; exact .refl _) | (simp at hx; done)
theorem binF_fwd {op : BinOp} {x y : Operand} {a b : Value} (hx : binF op E t x y a b h = some (r, h1)) : Fwd h h1 := by
  have hs : ∀ {c : List UInt8 → List UInt8 → Bool} {a b}, (some (Value.bool (c a b), h) : AR) = some (r, h1) → Fwd h h1 := fun hq => by cases hq; exact .refl _
  cases op with
  | add => exact either_fwd (f := addI) (g := addS) (fun _ _ => addS_fwd) hx
  | sub => exact ints_fwd (f := subI) hx
  | mul => exact ints_fwd (f := mulI) hx
  | quo =>
    have hx : (match notZero b with | true => ints quoI a b h | false => none) = some (r, h1) := hx
    split at hx
    · exact ints_fwd hx
    · simp at hx
  | rem =>
    have hx : (match notZero b with | true => ints remI a b h | false => none) = some (r, h1) := hx
    split at hx
    · exact ints_fwd hx
    · simp at hx
  | and => exact ints_fwd (f := andI) hx
  | or => exact ints_fwd (f := orI) hx
  | xor => exact ints_fwd (f := xorI) hx
  | andNot => exact ints_fwd (f := andNotI) hx
  | shl => exact shft_fwd (f := shlI) hx
  | shr => exact shft_fwd (f := shrI) hx
  | lss => exact either_fwd (f := ltI) (g := ltS) (fun _ _ => hs (c := fun a b => Op.bytesLess a b)) hx
  | leq => exact either_fwd (f := leI) (g := leS) (fun _ _ => hs (c := fun a b => Op.bytesLess a b || bytesEq a b)) hx
  | gtr => exact either_fwd (f := gtI) (g := gtS) (fun _ _ => hs (c := fun a b => !(Op.bytesLess a b || bytesEq a b))) hx
  | geq => exact either_fwd (f := geI) (g := geS) (fun _ _ => hs (c := fun a b => !Op.bytesLess a b)) hx
  | eql =>
    have hx : bEql E t x y a b h = some (r, h1) := hx
    unfold bEql two eqS retB at hx
    repeat' split at hx
    all_goals first | (cases hx; exact .refl _) | (simp at hx; done)
  | neq =>
    have hx : bNeq E t x y a b h = some (r, h1) := hx
    unfold bNeq two neS retNB at hx
    repeat' split at hx
    all_goals first | (cases hx; exact .refl _) | (simp at hx; done)
theorem aconvert_fwd {s d : TypeId} {x : Value} (hx : aconvert E s d x h = some (r, h1)) : Fwd h h1 := by
  unfold aconvert cInt cStr cSl cSame cSame1 cUns cPtr at hx
  repeat' split at hx
  all_goals first | (cases hx; exact .refl _) | (cases hx; exact .alloc _ _) | (cases hx; exact .write _ _ _) | exact retStr_fwd hx | (simp at hx; done) | (rw [fin_eq _ _ _ _ (forceL_eq _ _)] at hx; cases hx; exact .refl _)
theorem amakeIface_fwd {x : Value} (hx : amakeIface E t x h = some (r, h1)) : Fwd h h1 := by
  unfold amakeIface at hx
  repeat' split at hx
  all_goals first | (cases hx; exact .refl _) | (simp at hx; done)
theorem anilCheck_fwd {x : Value} (hx : anilCheck x h = some (r, h1)) : Fwd h h1 := by
  unfold anilCheck at hx
  repeat' split at hx
  all_goals first | (cases hx; exact .refl _) | (simp at hx; done)
theorem app2_fwd {ei : TI} {e : TypeId} {s x : Value} {sl : SL} {m : Nat} (hx : app2 ei e s x sl m h = some (r, h1)) : Fwd h h1 := by
  unfold app2 appLoose appLoose1 appIn appNew retSl at hx
  repeat' split at hx
  all_goals first | (cases hx; exact .refl _) | (cases hx; exact .alloc _ _) | (cases hx; exact (Fwd.write _ _ _).trans (.alloc _ _)) | (simp at hx; done) | (cases hx; rename_i hst; exact storeAt_fwd hst)
theorem aappend_fwd {s x : Value} (hx : aappend E t s x h = some (r, h1)) : Fwd h h1 := by
  unfold aappend app1 at hx
  repeat' split at hx
  all_goals first | (simp at hx; done) | (rename_i hq; exact (Fwd.req hq).trans (app2_fwd hx))
theorem acopy_fwd {s x : Value} (hx : acopy E t s x h = some (r, h1)) : Fwd h h1 := by
  unfold acopy copyN at hx
  repeat' split at hx
  all_goals first | (cases hx; exact .refl _) | (simp at hx; done) | (cases hx; rename_i hst; exact storeAt_fwd hst)
theorem alen_fwd {x : Value} (hx : alen E t x h = some (r, h1)) : Fwd h h1 := by
  unfold alen lenMap at hx
  repeat' split at hx
  all_goals first | (cases hx; exact .refl _) | (simp at hx; done)
theorem acap_fwd {x : Value} (hx : acap E t x h = some (r, h1)) : Fwd h h1 := by
  unfold acap at hx
  repeat' split at hx
  all_goals first | (cases hx; exact .refl _) | (simp at hx; done)
theorem mm_fwd {f : IV → IV → Value} {x y : Value} (hx : mm f x y h = some (r, h1)) : Fwd h h1 := by
  unfold mm at hx
  repeat' split at hx
  all_goals first | (cases hx; exact .refl _) | (simp at hx; done)
theorem asliceData_fwd {x : Value} (hx : asliceData x h = some (r, h1)) : Fwd h h1 := by
  unfold asliceData at hx
  repeat' split at hx
  all_goals first | (cases hx; exact .refl _) | (simp at hx; done)
theorem aunsafeString_fwd {x y : Value} (hx : aunsafeString E t x y h = some (r, h1)) : Fwd h h1 := by
  unfold aunsafeString unsStr at hx
  repeat' split at hx
  all_goals first | (cases hx; exact .refl _) | (simp at hx; done) | (rw [fin_eq _ _ _ _ (forceL_eq _ _)] at hx; cases hx; exact .write _ _ _)
theorem one_fwd {f : Env → TypeId → Value → AH → AR} {ts : List TypeId} {args : List Value} (hf : ∀ t x, f E t x h = some (r, h1) → Fwd h h1) (hx : one f E ts args h = some (r, h1)) : Fwd h h1 := by
  unfold one at hx
  repeat' split at hx
  all_goals first | exact hf _ _ hx | (simp at hx; done)
theorem pair_fwd {f : Env → TypeId → Value → Value → AH → AR} {ts : List TypeId} {args : List Value} (hf : ∀ t x y, f E t x y h = some (r, h1) → Fwd h h1) (hx : pair f E ts args h = some (r, h1)) : Fwd h h1 := by
  unfold pair at hx
  repeat' split at hx
  all_goals first | exact hf _ _ _ hx | (simp at hx; done)
theorem builtinF_fwd {b : Builtin} {ts : List TypeId} {args : List Value} (hx : builtinF b E ts args h = some (r, h1)) : Fwd h h1 := by
  cases b with
  | append =>
    have hx : bfAppend E ts args h = some (r, h1) := hx
    unfold bfAppend at hx
    repeat' split at hx
    all_goals first | exact pair_fwd (fun _ _ _ => aappend_fwd) hx | (simp at hx; done)
  | copy => exact pair_fwd (f := acopy) (fun _ _ _ => acopy_fwd) hx
  | len => exact one_fwd (f := alen) (fun _ _ => alen_fwd) hx
  | cap => exact one_fwd (f := acap) (fun _ _ => acap_fwd) hx
  | delete => exact pair_fwd (f := fun E t m k h => unit (adelete E t m k h)) (fun _ _ _ => unit_fwd fun _ => adelete_fwd) hx
  | unsafeString => exact pair_fwd (f := aunsafeString) (fun _ _ _ => aunsafeString_fwd) hx
  | unsafeSliceData =>
    have hx : bfData E ts args h = some (r, h1) := hx
    unfold bfData at hx
    repeat' split at hx
    all_goals first | exact asliceData_fwd hx | (simp at hx; done)
  | max =>
    have hx : bfMax E ts args h = some (r, h1) := hx
    unfold bfMax at hx
    repeat' split at hx
    all_goals first | exact mm_fwd hx | (simp at hx; done)
  | min =>
    have hx : bfMin E ts args h = some (r, h1) := hx
    unfold bfMin at hx
    repeat' split at hx
    all_goals first | exact mm_fwd hx | (simp at hx; done)
  | _ => simp [builtinF, bfNone] at hx
def CFwd (C : CallF) : Prop := ∀ f args h r h1, C f args h = some (r, h1) → Fwd h h1
theorem callF_fwd {C : CallF} (hC : CFwd C) {c : Call} {tm : Tr Value} (hx : callF c E C tm h = some (r, h1)) : Fwd h h1 := by
  unfold callF at hx
  cases hc : c.callee with
  | builtin b => rw [hc] at hx; exact builtinF_fwd (b := b) hx
  | value f =>
    rw [hc] at hx
    have hx : callV c f E C tm h = some (r, h1) := hx
    unfold callV at hx
    repeat' split at hx
    all_goals first | exact hC _ _ _ _ _ hx | (simp at hx; done)
  | invoke q name =>
    rw [hc] at hx
    have hx : callI c q name E C tm h = some (r, h1) := hx
    unfold callI at hx
    repeat' split at hx
    all_goals first | exact hC _ _ _ _ _ hx | (simp at hx; done)
theorem aop0_fwd {C : CallF} (hC : CFwd C) {o : Op} {tm : Tr Value} (hx : aop0 o E C tm h = some (r, h1)) : Fwd h h1 := by
  cases o with
  | move x => cases hx; exact .refl _
  | assign x => cases hx; exact .refl _
  | pick c a b =>
    have hx : oPick c a b E C tm h = some (r, h1) := hx
    unfold oPick at hx
    split at hx
    · rename_i d _
      cases hd : h.dec d with
      | mk d2 h2 =>
        rw [hd] at hx
        simp only [pick2] at hx
        split at hx <;> (cases hx; exact .dec hd)
    · simp at hx
  | alloc e =>
    have hx : oAlloc e E C tm h = some (r, h1) := hx
    unfold oAlloc at hx
    repeat' split at hx
    all_goals first | exact aalloc_fwd hx | (simp at hx; done)
  | box e v => exact aalloc_fwd (t := e) (v := aeval tm v) hx
  | build ty ps => exact abuild_fwd (t := ty) (ps := partsOf tm ps.toList) hx
  | buildSlice ty n ps => exact abuildSlice_fwd (t := ty) (n := n) (ps := partsOf tm ps.toList) hx
  | load ty a => exact aload_fwd (t := ty) (v := aeval tm a) hx
  | store ty a v => exact unit_fwd (o := astore E ty (aeval tm a) (aeval tm v) h) (fun _ => astore_fwd) hx
  | nilCheck x => exact anilCheck_fwd (x := aeval tm x) hx
  | binOp op ty x y z => exact binF_fwd (op := op) (t := ty) (x := x) (y := y) (a := aeval tm x) (b := aeval tm y) hx
  | unOp op z x => exact unF_fwd (op := op) (x := aeval tm x) hx
  | convert s d x => exact aconvert_fwd (s := s) (d := d) (x := aeval tm x) hx
  | makeInterface ty x => exact amakeIface_fwd (t := ty) (x := aeval tm x) hx
  | makeFunc fn a b =>
    have hx : oFunc fn a b E C tm h = some (r, h1) := hx
    unfold oFunc at hx
    split at hx
    · cases hx; exact .refl _
    · simp at hx
  | makeMap ty q =>
    have hx : oMap q E C tm h = some (r, h1) := hx
    unfold oMap at hx
    split at hx
    · cases hx; exact .alloc _ _
    · simp at hx
  | makeSlice ty l c => exact amakeSlice_fwd (t := ty) (l := aeval tm l) (c := aeval tm c) hx
  | slice ty x lo hi mx => exact aslice_fwd (t := ty) (x := aeval tm x) (lo := aevalO tm lo) (hi := aevalO tm hi) (mx := aevalO tm mx) hx
  | fieldAddr ty x f => exact afieldAddr_fwd (t := ty) (x := aeval tm x) (i := f) hx
  | field ty x f => exact afield_fwd (t := ty) (x := aeval tm x) (i := f) hx
  | indexAddr ty x i => exact aindexAddr_fwd (t := ty) (x := aeval tm x) (i := aeval tm i) hx
  | index ty x i => exact aindex_fwd (t := ty) (x := aeval tm x) (i := aeval tm i) hx
  | lookup ty x k ok => exact alookup_fwd (t := ty) (x := aeval tm x) (k := aeval tm k) (ok := ok) hx
  | mapUpdate ty m k v => exact unit_fwd (o := amapUpdate E ty (aeval tm m) (aeval tm k) (aeval tm v) h) (fun _ => amapUpdate_fwd) hx
  | insert ty m k v => exact unit_fwd (o := amapUpdate E ty (aeval tm m) (aeval tm k) (aeval tm v) h) (fun _ => amapUpdate_fwd) hx
  | mapEntry ty m k => exact amapEntry_fwd (t := ty) (x := aeval tm m) (k := aeval tm k) hx
  | entryStore ty m s v => exact unit_fwd (o := aentryStore (aeval tm m) (aeval tm s) (aeval tm v) h) (fun _ => aentryStore_fwd) hx
  | range ty x => exact arange_fwd (t := ty) (x := aeval tm x) hx
  | next it b =>
    have hx : oNext it b E C tm h = some (r, h1) := hx
    unfold oNext at hx
    split at hx
    · exact anext_fwd hx
    · simp at hx
  | extract x i =>
    have hx : oExtract x i E C tm h = some (r, h1) := hx
    unfold oExtract at hx
    split at hx
    · exact retO_fwd hx
    · simp at hx
  | call c => exact callF_fwd hC (c := c) (tm := tm) hx
  | _ => simp [aop0, oNone] at hx
end
end Go.Proofs.YtkmbkejmfffafaaGreatDoor.Refl
namespace Go.Proofs.YtkmbkejmfffafaaGreatDoor.Refl
open Go
set_option linter.unusedVariables false
set_option linter.unusedSimpArgs false
def Back (R : Value → World → Prop) : Ending → World → Prop
  | .returned v, w => R v w
  | _, _ => False
def Ans (P : Program) (f : Nat) (args : Array Value) (w : World) (R : Value → World → Prop) : Prop :=
  match (callFunc f args).run P w with
  | .ok (.value v) w' => R v w'
  | .ok (.enter f2 a2) w' => Calls P f2 a2 w' (Back R)
  | _ => False
def AnsD (P : Program) (f : Nat) (args : Array Value) (w : World) (R : Value → World → Prop) : Prop :=
  match (callFunc f args).run P w with
  | .ok (.value v) w' => R v w'
  | .ok (.enter f2 a2) w' => CallsD P f2 a2 .returning w' (fun e u w'' => u = .returning ∧ Back R e w'')
  | _ => False
def GL (G : Nat) (ρ : Ren) : Prop := ∀ g, g < G → ∃ im, ρ g = some im ∧ im.blk = g ∧ im.sh = 0
theorem GL.mono {G : Nat} {ρ ρ' : Ren} (h : GL G ρ) (he : Ext ρ ρ') : GL G ρ' := fun g hg => let ⟨im, a, b⟩ := h g hg; ⟨im, he _ _ a, b⟩
structure TR (N : Nat) (ρ : Ren) (t : Tr Value) (tmps : Array Value) : Prop where
  size : tmps.size = N
  val : ∀ i, VR ρ (unset (t.get i)) (tmps.getD i undef)
theorem TR.mono {N : Nat} {ρ ρ' : Ren} {t : Tr Value} {tmps : Array Value} (h : TR N ρ t tmps) (he : Ext ρ ρ') : TR N ρ' t tmps := ⟨h.size, fun i => (h.val i).mono he⟩
theorem TR.set {N : Nat} {ρ : Ren} {t : Tr Value} {tmps : Array Value} {d : Nat} {v v' : Value} (h : TR N ρ t tmps) (hd : d < N) (hv : VR ρ v v') : TR N ρ (t.set d v) (tmps.setIfInBounds d v') := by
  refine ⟨by simp [h.size], fun i => ?_⟩
  rw [Tr.get_set, Array.getD_eq_getD_getElem?, Array.getElem?_setIfInBounds, h.size]
  by_cases hi : i = d
  · subst hi; simp [hd, unset]; exact hv
  · rw [if_neg hi, if_neg (by omega), ← Array.getD_eq_getD_getElem?]; exact h.val i
def CallOK (P : Program) (G : Nat) (C : CallF) : Prop := ∀ f args h r h1, C f args h = some (r, h1) → OB h1 → ∀ (ρ : Ren) (w : World) (args' : List Value), GL G ρ → Rel P.cellsOf ρ h w → Fr ρ h.n h1.n → LR ρ args args' →
  Ans P f args'.toArray w fun v w' => ∃ ρ', VR ρ' r v ∧ Step P.cellsOf ρ h w ρ' h1 w'
def DefOK (P : Program) (G : Nat) (E : Env) (C : CallF) : Prop := ∀ f args h r h1, E.ext.get f = none → C f args h = some (r, h1) → OB h1 → ∀ (ρ : Ren) (w : World) (args' : List Value), GL G ρ → Rel P.cellsOf ρ h w → Fr ρ h.n h1.n → LR ρ args args' →
  AnsD P f args'.toArray w fun v w' => ∃ ρ', VR ρ' r v ∧ Step P.cellsOf ρ h w ρ' h1 w'
structure EnvM (P : Program) (E : Env) : Prop extends EnvQ P E where
  meth : ∀ t name g, findM E.meth t name = some g → ∀ fuel v w, (method (fuel + 1) t v name).run P w = .ok (g, v) w
section
variable {P : Program} {E : Env} {C : CallF} {G N : Nat} {t : Tr Value} {a : Act} {h h1 : AH} {ρ : Ren} {w : World} {r : Value} {o : Oper}
theorem aeval_ok (hg : GL G ρ) (ht : TR N ρ t a.tmps) {x : Operand} (hx : okOpd G x = true) : VR ρ (aeval t x) (a.eval x) := by
  cases x with
  | tmp i => exact ht.val i
  | const v => exact flat_VR ρ 5 v hx
  | global g =>
    have hlt : g < G := by simpa [okOpd, blt_eq] using hx
    obtain ⟨im, h1, h2, h3⟩ := hg g hlt
    have := VR.ptr_mk (ρ := ρ) (b := g) (off := 0) h1
    rw [h2, h3] at this
    exact this
  | func f => exact .func .nil .nil
theorem vals_ok : ∀ (l : List Operand), (∀ x ∈ l, VR ρ (aeval t x) (a.eval x)) → LR ρ (vals t l) (l.map a.eval)
  | [], _ => .nil
  | x :: l, hl => .cons (hl x (by simp)) (vals_ok l fun y hy => hl y (by simp [hy]))
theorem parts_ok : ∀ (l : List (Nat × Operand)), (∀ x ∈ l, VR ρ (aeval t x.2) (a.eval x.2)) → PR ρ (partsOf t l) (l.map fun (i, x) => (i, a.eval x))
  | [], _ => .nil
  | x :: l, hl => .cons (hl x (by simp)) (parts_ok l fun y hy => hl y (by simp [hy]))
theorem aevalO_ok {x : Option Operand} (hx : ∀ y ∈ x, VR ρ (aeval t y) (a.eval y)) : OV ρ (aevalO t x) (x.map a.eval) := by
  cases x with
  | none => exact .none
  | some x => exact .some (hx x rfl)
def Goes (P : Program) (o : Oper) (a : Act) (ρ : Ren) (h : AH) (w : World) (r : Value) (h1 : AH) : Prop :=
  ∀ (next : Act → World → Prop) (Q : Exit → Act → World → Prop), (∀ ρ' r' w', VR ρ' r r' → Step P.cellsOf ρ h w ρ' h1 w' → next (a.put o.dst r') w') → o.wp P a w next Q
theorem Goes.value {s : Sem Value} (he : execOp a.eval o = (do pure (.value (← s)))) (hd : Did P s ρ h w r h1) : Goes P o a ρ h w r h1 := by
  obtain ⟨ρ', r', w', k1, k2, k3⟩ := hd
  intro next Q hn
  unfold Oper.wp
  rw [he]
  simp only [Sem.run_bind, k1, Result.andThen_ok, Sem.run_pure, Oper.upon]
  exact hn ρ' r' w' k2 k3
theorem Goes.unit {s : Sem Unit} (he : execOp a.eval o = (do s; pure .skip)) (hr : r = .tuple ⟨[]⟩) (hd : ∃ w', s.run P w = .ok () w' ∧ Step P.cellsOf ρ h w ρ h1 w') : Goes P o a ρ h w r h1 := by
  obtain ⟨w', k1, k2⟩ := hd
  intro next Q hn
  unfold Oper.wp
  rw [he]
  simp only [Sem.run_bind, k1, Result.andThen_ok, Sem.run_pure, Oper.upon]
  subst hr
  exact hn ρ undef w' (.tuple .nil) k2
theorem Goes.next {s : Sem Next} (he : (execOp a.eval o).run P w = s.run P w) (hd : DidN P s ρ h w r h1) : Goes P o a ρ h w r h1 := by
  obtain ⟨ρ', r', w', k1, k2, k3⟩ := hd
  intro next Q hn
  unfold Oper.wp
  rw [he]
  simp only [k1, Oper.upon]
  exact hn ρ' r' w' k2 k3
theorem Goes.ans {f : Nat} {args : Array Value} (he : (execOp a.eval o).run P w = (callFunc f args).run P w) (hd : Ans P f args w fun v w' => ∃ ρ', VR ρ' r v ∧ Step P.cellsOf ρ h w ρ' h1 w') : Goes P o a ρ h w r h1 := by
  intro next Q hn
  unfold Oper.wp
  rw [he]
  unfold Ans at hd
  cases hc : (callFunc f args).run P w with
  | halt x w' => simp [hc] at hd
  | ok x w' =>
    rw [hc] at hd
    cases x with
    | value v =>
      obtain ⟨ρ', k1, k2⟩ := hd
      exact hn ρ' v w' k1 k2
    | enter f2 a2 =>
      have hd : Calls P f2 a2 w' (Back _) := hd
      show Calls P f2 a2 w' _
      refine hd.mono fun e w'' he => ?_
      cases e with
      | returned v => obtain ⟨ρ', k1, k2⟩ := he; exact hn ρ' v w'' k1 k2
      | panicked c => exact he.elim
      | outgrown => exact he.elim
    | _ => exact hd.elim
end
end Go.Proofs.YtkmbkejmfffafaaGreatDoor.Refl
namespace Go.Proofs.YtkmbkejmfffafaaGreatDoor.Refl
open Go
set_option linter.unusedVariables false
set_option linter.unusedSimpArgs false
section
variable {P : Program} {E : Env} {C : CallF} {G N : Nat} {t : Tr Value} {a : Act} {h h1 : AH} {ρ : Ren} {w : World} {r : Value} {o : Oper}
theorem okOper_some (hok : okOper G N o = true) : (∀ d, o.dst = some d → d < N) ∧ ∀ x ∈ o.op.operands.toList, okOpd G x = true := by
  unfold okOper at hok
  cases hd : okDst N o.dst with
  | false => simp [hd] at hok
  | true =>
    simp only [hd] at hok
    refine ⟨fun d h => ?_, (allB_eq _ _).1 hok⟩
    rw [h] at hd
    simpa [okDst, blt_eq] using hd
theorem callDeferred_ok (hE : EnvM P E) (hC : CallOK P G C) {c : Call} {ty : TypeId} (hop : ∀ x ∈ c.operands.toList, VR ρ (aeval t x) (a.eval x)) (hx : callF c E C t h = some (r, h1)) (hob : OB h1) (hg : GL G ρ) (hr : Rel P.cellsOf ρ h w) (hf : Fr ρ h.n h1.n) :
    (∃ s, (do let d ← resolve a.eval c ty; invoke d.target d.args : Sem Next).run P w = s.run P w ∧ DidN P s ρ h w r h1) ∨
    (∃ f args, (do let d ← resolve a.eval c ty; invoke d.target d.args : Sem Next).run P w = (callFunc f args).run P w ∧ Ans P f args w fun v w' => ∃ ρ', VR ρ' r v ∧ Step P.cellsOf ρ h w ρ' h1 w') := by
  obtain ⟨callee, args, argTypes⟩ := c
  have hargs : LR ρ (vals t args.toList) (args.toList.map a.eval) := vals_ok _ fun x hm => hop x (by
    have hm2 : x ∈ args := by simpa using hm
    cases callee <;> simp [Call.operands, hm2])
  cases callee with
  | builtin b =>
    have hx : builtinF b E argTypes.toList (vals t args.toList) h = some (r, h1) := hx
    left
    refine ⟨_, rfl, ?_⟩
    show DidN P (Go.builtin b argTypes ty _ (args.map a.eval)) ρ h w r h1
    have e1 : args.map a.eval = (args.toList.map a.eval).toArray := by apply Array.ext'; simp
    rw [e1]
    exact (builtinF_ok hE.toEnvT hx hob hr hf hargs).2
  | value f =>
    have hx : callV _ f E C t h = some (r, h1) := hx
    unfold callV at hx
    cases hfn : asFunc (aeval t f) with
    | none => simp [hfn] at hx
    | some q =>
      simp only [hfn] at hx
      have hfv : VR ρ (aeval t f) (a.eval f) := hop f (by simp [Call.operands])
      obtain ⟨a', b', k1, k2, k3⟩ := asFunc_VR hfn hfv
      right
      have hl : LR ρ (app q.first (app (vals t args.toList) q.captured)) (a'.toList ++ (args.toList.map a.eval ++ b'.toList)) := by
        rw [app_eq, app_eq]; exact k2.append (hargs.append k3)
      refine ⟨q.f, (a'.toList ++ (args.toList.map a.eval ++ b'.toList)).toArray, ?_, hC _ _ _ _ _ hx hob ρ w _ hg hr hf hl⟩
      have e1 : (a'.toList ++ (args.toList.map a.eval ++ b'.toList)).toArray = a' ++ args.map a.eval ++ b' := by
        apply Array.ext'; simp
      rw [e1]
      simp [resolve, invoke, k1, Deferred.ofValue]
  | invoke q name =>
    have hx : callI _ q name E C t h = some (r, h1) := hx
    unfold callI at hx
    cases hi : asIface (aeval t q) with
    | none => simp [hi] at hx
    | some i =>
      simp only [hi] at hx
      cases hm : findM E.meth i.t name with
      | none => simp [hm] at hx
      | some g =>
        simp only [hm] at hx
        have hqv : VR ρ (aeval t q) (a.eval q) := hop q (by simp [Call.operands])
        obtain ⟨u', k1, k2⟩ := asIface_VR hi hqv
        right
        refine ⟨g, (u' :: args.toList.map a.eval).toArray, ?_, hC _ _ _ _ _ hx hob ρ w _ hg hr hf (.cons k2 hargs)⟩
        have e1 : (u' :: args.toList.map a.eval).toArray = #[u'] ++ args.map a.eval := by
          apply Array.ext'; simp
        have hmeth : (method (P.types.size + Made.depth) i.t u' name).run P w = .ok (g, u') w := hE.meth _ _ _ hm (P.types.size + 99) u' w
        rw [e1]
        have e2 : (#[Value.iface i.t u'] ++ args.map a.eval)[0]? = some (.iface i.t u') := by rw [Array.getElem?_append_left (by simp)]; rfl
        have e3 : (args.map a.eval).extract 0 args.size = args.map a.eval := by apply Array.ext'; simp [List.take_of_length_le]
        simp [resolve, invoke, k1, e2, e3, callMethod, hmeth]
set_option maxHeartbeats 4000000 in
theorem aop0_ok (hE : EnvM P E) (hC : CallOK P G C) (hop : ∀ x ∈ o.op.operands.toList, VR ρ (aeval t x) (a.eval x)) (hx : aop0 o.op E C t h = some (r, h1)) (hob : OB h1) (hg : GL G ρ) (hr : Rel P.cellsOf ρ h w) (hf : Fr ρ h.n h1.n) : Goes P o a ρ h w r h1 := by
  obtain ⟨dst, op, type, pos, after, guard⟩ := o
  have hev : ∀ {x}, x ∈ op.operands.toList → VR ρ (aeval t x) (a.eval x) := fun hx => hop _ hx
  have same : ∀ {v' : Value}, VR ρ r v' → h1 = h → (execOp a.eval ⟨dst, op, type, pos, after, guard⟩ = pure (.value v')) → Goes P ⟨dst, op, type, pos, after, guard⟩ a ρ h w r h1 := fun hv he hq =>
    Goes.next (s := pure (.value _)) (by rw [hq]) ⟨ρ, _, w, rfl, hv, by subst he; exact .refl hr⟩
  cases op with
  | move x =>
    have hx : some (aeval t x, h) = some (r, h1) := hx
    cases hx
    exact same (hev (by simp [Op.operands])) rfl rfl
  | assign x =>
    have hx : some (aeval t x, h) = some (r, h1) := hx
    cases hx
    exact same (hev (by simp [Op.operands])) rfl rfl
  | pick c x y =>
    have hx : oPick c x y E C t h = some (r, h1) := hx
    unfold oPick at hx
    cases hb : asBool (aeval t c) with
    | none => simp [hb] at hx
    | some d =>
      simp only [hb] at hx
      obtain ⟨k1, k2⟩ := asBool_VR hb (hev (x := c) (by simp [Op.operands]))
      cases hd : h.dec d with
      | mk d2 h2 =>
        rw [hd] at hx
        obtain ⟨g1, g2, g3, g4⟩ := dec_some hd
        simp only [pick2] at hx
        have hst : OB h2 → h1 = h2 → Step P.cellsOf ρ h w ρ h1 w := fun _ e => e ▸ .same hr g1 g2 g3 rfl (Str.refl _)
        cases d2 with
        | true =>
          simp at hx
          obtain ⟨rfl, rfl⟩ := hx
          obtain ⟨_, rfl⟩ := g4 hob
          exact Goes.next (s := pure (.value (a.eval x))) (by simp [execOp, k2, Go.asBool]) ⟨ρ, _, w, rfl, hev (by simp [Op.operands]), hst hob rfl⟩
        | false =>
          simp at hx
          obtain ⟨rfl, rfl⟩ := hx
          obtain ⟨_, rfl⟩ := g4 hob
          exact Goes.next (s := pure (.value (a.eval y))) (by simp [execOp, k2, Go.asBool]) ⟨ρ, _, w, rfl, hev (by simp [Op.operands]), hst hob rfl⟩
  | alloc e =>
    have hx : oAlloc e E C t h = some (r, h1) := hx
    unfold oAlloc at hx
    cases hte : E.ty.get e with
    | none => simp [hte] at hx
    | some ti =>
      obtain ⟨info, T⟩ := hE.at hte
      simp only [hte] at hx
      cases hz : ti.zero with
      | none => simp [hz] at hx
      | some z =>
        simp only [hz] at hx
        obtain ⟨_, ρ', r', w', k1, k2, k3⟩ := aalloc_ok hx hr hf (flat_VR ρ 5 z (T.flat hz))
        refine Goes.value rfl ⟨ρ', r', w', ?_, k2, k3⟩
        rw [← k1]
        simp [Instr.alloc, T.run_zero _ hz]
  | box e x => exact Goes.value rfl (aalloc_ok (elem := e) (v := aeval t x) hx hr hf (hev (by simp [Op.operands]))).2
  | build ty ps =>
    have hps := parts_ok ps.toList (fun x hx => hop x.2 (by simp [Op.operands]; exact ⟨x.1, by simpa using hx⟩))
    refine Goes.value (s := Instr.build ty (ps.map fun (i, x) => (i, a.eval x))) rfl ?_
    have := (abuild_ok hE.toEnvT (t := ty) (ps := partsOf t ps.toList) hx hr hps).2
    have e1 : (ps.map fun (i, x) => (i, a.eval x)) = (ps.toList.map fun (i, x) => (i, a.eval x)).toArray := by apply Array.ext'; simp
    rw [e1]; exact this
  | buildSlice ty n ps =>
    have hps := parts_ok ps.toList (fun x hx => hop x.2 (by simp [Op.operands]; exact ⟨x.1, by simpa using hx⟩))
    refine Goes.value (s := Instr.buildSlice ty n (ps.map fun (i, x) => (i, a.eval x))) rfl ?_
    have := (abuildSlice_ok hE.toEnvT (t := ty) (n := n) (ps := partsOf t ps.toList) hx hr hf hps).2
    have e1 : (ps.map fun (i, x) => (i, a.eval x)) = (ps.toList.map fun (i, x) => (i, a.eval x)).toArray := by apply Array.ext'; simp
    rw [e1]; exact this
  | load ty x => exact Goes.value rfl (aload_ok hE.toEnvT (t := ty) (v := aeval t x) hx hr (hev (by simp [Op.operands]))).2.1
  | store ty x v =>
    obtain ⟨k1, k2⟩ := unit_some (o := astore E ty (aeval t x) (aeval t v) h) hx
    obtain ⟨w', k3, k4, _⟩ := astore_ok hE.toEnvT k1 hr (hev (x := x) (by simp [Op.operands])) (hev (x := v) (by simp [Op.operands]))
    exact Goes.unit rfl k2 ⟨w', k3, k4⟩
  | nilCheck x =>
    have hv := hev (x := x) (by simp [Op.operands])
    obtain ⟨rfl, rfl, k⟩ := anilCheck_ok (a := aeval t x) hx hv
    refine same hv rfl ?_
    rcases k with ⟨q, e⟩ | ⟨f, u, v, e⟩ <;> simp [execOp, e]
  | binOp op ty x y z => exact Goes.value rfl (binF_ok hE.toEnvQ (op := op) (t := ty) (x := x) (y := y) (a := aeval t x) (b := aeval t y) hx hob hr (hev (by simp [Op.operands])) (hev (by simp [Op.operands]))).2
  | unOp op z x => exact Goes.value rfl (unF_ok (op := op) (a := aeval t x) hx hr (hev (by simp [Op.operands]))).2
  | convert s d x => exact Goes.value rfl (aconvert_ok hE.toEnvT (src := s) (dst := d) (a := aeval t x) hx hr hf (hev (by simp [Op.operands]))).2
  | makeInterface ty x => exact Goes.value rfl (amakeIface_ok hE.toEnvT (t := ty) (a := aeval t x) hx hr (hev (by simp [Op.operands]))).2
  | makeFunc fn u v =>
    have hx : oFunc fn u v E C t h = some (r, h1) := hx
    unfold oFunc at hx
    cases fn with
    | func f =>
      simp at hx
      obtain ⟨rfl, rfl⟩ := hx
      refine same (v' := .func (.func f) (u.map a.eval) (v.map a.eval)) (.func ?_ ?_) rfl rfl
      · have := vals_ok u.toList (fun x hx => hop x (by simp [Op.operands]; simp at hx; exact .inl hx))
        simpa using this
      · have := vals_ok v.toList (fun x hx => hop x (by simp [Op.operands]; simp at hx; exact .inr hx))
        simpa using this
    | _ => simp at hx
  | makeMap ty q =>
    have hx : oMap q E C t h = some (r, h1) := hx
    unfold oMap at hx
    cases q with
    | none =>
      simp at hx
      obtain ⟨rfl, rfl⟩ := hx
      exact Goes.value (s := Instr.makeMap ty none) rfl (amakeMap_ok hr hf)
    | some q => simp at hx
  | makeSlice ty l c => exact Goes.value rfl (amakeSlice_ok hE.toEnvT (t := ty) (l := aeval t l) (c := aeval t c) hx hr hf (hev (by simp [Op.operands])) (hev (by simp [Op.operands]))).2
  | slice ty x lo hi mx =>
    refine Goes.value rfl (aslice_ok hE.toEnvT (t := ty) (x := aeval t x) (lo := aevalO t lo) (hi := aevalO t hi) (mx := aevalO t mx) hx hr (hev (by simp [Op.operands])) ?_ ?_ ?_).2
    · exact aevalO_ok fun y hy => hop y (by simp [Op.operands]; simp at hy; simp [hy])
    · exact aevalO_ok fun y hy => hop y (by simp [Op.operands]; simp at hy; simp [hy])
    · exact aevalO_ok fun y hy => hop y (by simp [Op.operands]; simp at hy; simp [hy])
  | fieldAddr ty x f => exact Goes.value rfl (afieldAddr_ok hE.toEnvT (t := ty) (x := aeval t x) (i := f) hx hr (hev (by simp [Op.operands]))).2
  | field ty x f => exact Goes.value rfl (afield_ok hE.toEnvT (t := ty) (x := aeval t x) (i := f) hx hr (hev (by simp [Op.operands]))).2
  | indexAddr ty x i => exact Goes.value rfl (aindexAddr_ok hE.toEnvT (t := ty) (x := aeval t x) (i := aeval t i) hx hr (hev (by simp [Op.operands])) (hev (by simp [Op.operands]))).2
  | index ty x i => exact Goes.value rfl (aindex_ok hE.toEnvT (t := ty) (x := aeval t x) (i := aeval t i) hx hr (hev (by simp [Op.operands])) (hev (by simp [Op.operands]))).2
  | lookup ty x k ok => exact Goes.value rfl (alookup_ok hE.toEnvT (t := ty) (a := aeval t x) (k := aeval t k) (ok := ok) hx hr (hev (by simp [Op.operands])) (hev (by simp [Op.operands]))).2
  | mapUpdate ty m k v =>
    obtain ⟨k1, k2⟩ := unit_some (o := amapUpdate E ty (aeval t m) (aeval t k) (aeval t v) h) hx
    obtain ⟨w', k3, k4, _⟩ := amapUpdate_ok hE.toEnvT k1 hr (hev (x := m) (by simp [Op.operands])) (hev (x := k) (by simp [Op.operands])) (hev (x := v) (by simp [Op.operands]))
    exact Goes.unit rfl k2 ⟨w', k3, k4⟩
  | insert ty m k v =>
    obtain ⟨k1, k2⟩ := unit_some (o := amapUpdate E ty (aeval t m) (aeval t k) (aeval t v) h) hx
    obtain ⟨w', k3, k4, _⟩ := amapUpdate_ok hE.toEnvT k1 hr (hev (x := m) (by simp [Op.operands])) (hev (x := k) (by simp [Op.operands])) (hev (x := v) (by simp [Op.operands]))
    exact Goes.unit rfl k2 ⟨w', k3, k4⟩
  | mapEntry ty m k => exact Goes.value rfl (amapEntry_ok hE.toEnvT (t := ty) (a := aeval t m) (k := aeval t k) hx hr (hev (by simp [Op.operands])) (hev (by simp [Op.operands]))).2
  | entryStore ty m s v =>
    obtain ⟨k1, k2⟩ := unit_some (o := aentryStore (aeval t m) (aeval t s) (aeval t v) h) hx
    obtain ⟨w', k3, k4, _⟩ := aentryStore_ok (ty := ty) k1 hr (hev (x := m) (by simp [Op.operands])) (hev (x := s) (by simp [Op.operands])) (hev (x := v) (by simp [Op.operands]))
    exact Goes.unit rfl k2 ⟨w', k3, k4⟩
  | range ty x => exact Goes.value rfl (arange_ok hE.toEnvT (t := ty) (a := aeval t x) hx hr hf (hev (by simp [Op.operands]))).2
  | next it b =>
    have hx : oNext it b E C t h = some (r, h1) := hx
    unfold oNext at hx
    cases b with
    | false => simp at hx
    | true => exact Goes.value rfl (anext_ok (a := aeval t it) hx hr (hev (by simp [Op.operands]))).2
  | extract x i => exact Goes.value rfl (aextract_ok (a := aeval t x) (i := i) hx hr (hev (by simp [Op.operands]))).2
  | call c =>
    rcases callDeferred_ok (ty := type) hE hC (c := c) (fun x hx => hop x hx) hx hob hg hr hf with ⟨s, k1, k2⟩ | ⟨f, args, k1, k2⟩
    · exact Goes.next k1 k2
    · exact Goes.ans k1 k2
  | _ => simp [aop0, oNone] at hx
end
end Go.Proofs.YtkmbkejmfffafaaGreatDoor.Refl
namespace Go.Proofs.YtkmbkejmfffafaaGreatDoor.Refl
open Go
set_option linter.unusedVariables false
set_option linter.unusedSimpArgs false
structure Up (a b : AH) : Prop where
  t : b.t = a.t
  n : b.n = a.n
  log : b.log = a.log
  sym : b.sym = a.sym
  ob : OB b → OB a
section
variable {a b c h h1 h2 : AH} {r : Value} {E : Env} {C : CallF} {ty : TypeId}
theorem Up.refl (a : AH) : Up a a := ⟨rfl, rfl, rfl, rfl, id⟩
theorem Up.trans (h : Up a b) (k : Up b c) : Up a c := ⟨k.t.trans h.t, k.n.trans h.n, k.log.trans h.log, k.sym.trans h.sym, fun q => h.ob (k.ob q)⟩
theorem Up.owe (h : AH) (q : Bool) : Up h (h.owe q) := by
  obtain ⟨t, n, log, sym, cnt, orc, ob⟩ := h
  exact ⟨rfl, rfl, rfl, rfl, fun k b hb => k b (List.mem_cons_of_mem _ hb)⟩
theorem ob_owe {q : Bool} (k : OB (h.owe q)) : OB h ∧ q = true := by
  obtain ⟨t, n, log, sym, cnt, orc, ob⟩ := h
  exact ⟨fun b hb => k b (List.mem_cons_of_mem _ hb), k q (List.mem_cons_self ..)⟩
theorem dec_sym {x d : Bool} (hx : h.dec x = (d, h1)) : h1.sym = h.sym := by
  obtain ⟨t, n, log, sym, cnt, orc, ob⟩ := h
  unfold AH.dec at hx
  cases orc with
  | nil => obtain ⟨rfl, rfl⟩ := Prod.mk.inj hx; rfl
  | cons kd rest =>
    simp only at hx
    cases hk : Nat.beq kd.1 cnt with
    | true => simp only [hk] at hx; obtain ⟨rfl, rfl⟩ := Prod.mk.inj hx; rfl
    | false => simp only [hk] at hx; obtain ⟨rfl, rfl⟩ := Prod.mk.inj hx; rfl
theorem Up.dec {x d : Bool} (hx : h.dec x = (d, h1)) : Up h h1 := by
  obtain ⟨k1, k2, k3, k4⟩ := dec_some hx
  exact ⟨k1, k2, k3, dec_sym hx, fun q => (k4 q).1⟩
theorem dec_told {x d : Bool} (hx : h.dec x = (d, h1)) (q : OB h1) : d = x := ((dec_some hx).2.2.2 q).2
theorem Up.obj (u : Up a b) (x : Nat) : b.obj x = a.obj x := AH.obj_eq u.t u.n x
theorem Up.alloc (u : Up a b) (o : AObj) : Up (a.alloc o) (b.alloc o) := by
  obtain ⟨t, n, log, sym, cnt, orc, ob⟩ := a
  obtain ⟨t', n', log', sym', cnt', orc', ob'⟩ := b
  obtain ⟨rfl, rfl, rfl, rfl, u5⟩ := u
  exact ⟨rfl, rfl, rfl, rfl, u5⟩
theorem Up.write (u : Up a b) (x : Nat) (o : AObj) : Up (a.write x o) (b.write x o) := by
  obtain ⟨t, n, log, sym, cnt, orc, ob⟩ := a
  obtain ⟨t', n', log', sym', cnt', orc', ob'⟩ := b
  obtain ⟨rfl, rfl, rfl, rfl, u5⟩ := u
  exact ⟨rfl, rfl, rfl, rfl, u5⟩
theorem Up.fwd (u : Up a b) : Fwd a b := .same u.t u.n u.log u.ob
theorem req_sym (hs : h.sym = true) (q : Bool) : h.req q = some (h.owe q) := by
  unfold AH.req; rw [hs]
def SD (std : AR) (h : AH) (r : Value) (h1 : AH) : Prop := Fwd h h1 ∧ (OB h1 → ∃ h2, std = some (r, h2) ∧ Up h2 h1)
theorem SD.same {std : AR} (hx : std = some (r, h1)) (hf : Fwd h h1) : SD std h r h1 := ⟨hf, fun _ => ⟨h1, hx, .refl _⟩⟩
theorem bound_of {d top n : Nat} {v : Option Value} (h : sBound d v = some n) (hb : n ≤ top) : bound d top v = some n := by
  cases v with
  | none => exact h
  | some q =>
    have h : asNat q = some n := h
    unfold bound
    simp [h, ble_eq, hb]
theorem sBound_none {d n : Nat} (h : sBound d none = some n) : n = d := by
  have h : some d = some n := h
  simpa using h.symm
theorem sSub_eq {l : List UInt8} {lo hi : Option Value} {x y : Nat} (h1' : sBound l.length hi = some y) (h2 : sBound 0 lo = some x) (hx : sSubR l lo hi x y h = some (r, h1)) : r = strV ((l.drop x).take (y - x)) ∧ h1 = h := by
  unfold sSubR at hx
  cases lo with
  | none =>
    obtain rfl := sBound_none h2
    cases hi with
    | none => obtain rfl := sBound_none h1'; simp at hx; exact ⟨by rw [← hx.1]; simp, hx.2.symm⟩
    | some q => simp at hx; exact ⟨by rw [← hx.1]; simp, hx.2.symm⟩
  | some p =>
    cases hi with
    | none =>
      obtain rfl := sBound_none h1'
      simp at hx
      exact ⟨by rw [← hx.1, List.take_of_length_le (by simp)], hx.2.symm⟩
    | some q => simp at hx; exact ⟨hx.1.symm, hx.2.symm⟩
theorem retStr_sym (hs : h.sym = true) (l : List UInt8) : retStr h (some l) = some (strV l, h) := by
  unfold retStr fin; rw [hs]
theorem sSlice_std {x : Value} {l : List UInt8} {lo hi mx : Option Value} (hs : h.sym = true) (hl : asStr x = some l) (hx : sSlice1 E ty l lo hi mx h = some (r, h1)) : SD (aslice E ty x lo hi mx h) h r h1 := by
  unfold sSlice1 at hx
  cases mx with
  | some q => simp at hx
  | none =>
  simp only at hx
  cases ht : E.ty.get ty with
  | none => simp [ht] at hx
  | some ti =>
  simp only [ht] at hx
  cases hk : Nat.beq ti.kd 3 with
  | false => simp [hk] at hx
  | true =>
  simp only [hk] at hx
  unfold sSliceStr at hx
  rw [len_eq] at hx
  cases h1' : sBound l.length hi with
  | none => simp [h1'] at hx
  | some y =>
  simp only [h1'] at hx
  cases h2' : sBound 0 lo with
  | none => simp [h2'] at hx
  | some x' =>
  simp only [h2'] at hx
  cases htl : E.told with
  | nil =>
    rw [htl] at hx
    simp only at hx
    obtain ⟨rfl, rfl⟩ := sSub_eq h1' h2' hx
    have u := (Up.owe h (Nat.ble y l.length)).trans (Up.owe _ (Nat.ble x' y))
    refine ⟨u.fwd, fun q => ⟨h, ?_, u⟩⟩
    obtain ⟨q1, q2⟩ := ob_owe q
    obtain ⟨q0, q3⟩ := ob_owe q1
    have g1 : y ≤ l.length := Nat.le_of_ble_eq_true q3
    have g2 : x' ≤ y := Nat.le_of_ble_eq_true q2
    unfold aslice
    simp only [ht, hk, hl]
    unfold sliceStr
    simp only [len_eq]
    rw [bound_of h1' g1]
    simp only
    rw [bound_of h2' g2]
    simp only
    unfold sub8
    rw [drp_eq, show Nat.sub y x' = y - x' from rfl, tk_le _ _ (by simp; omega), retStr_sym hs]
  | node tl tv tr =>
  rw [htl] at hx
  simp only at hx
  cases hd : h.dec true with
  | mk d h' =>
  rw [hd] at hx
  simp only at hx
  have u := ((Up.dec hd).trans (Up.owe h' (Nat.ble y l.length))).trans (Up.owe _ (Nat.ble x' y))
  have hfin : ∀ q : OB ((h'.owe (Nat.ble y l.length)).owe (Nat.ble x' y)), aslice E ty x lo hi none h = some (strV ((l.drop x').take (y - x')), h) := fun q => by
    obtain ⟨q1, q2⟩ := ob_owe q
    obtain ⟨q0, q3⟩ := ob_owe q1
    have g1 : y ≤ l.length := Nat.le_of_ble_eq_true q3
    have g2 : x' ≤ y := Nat.le_of_ble_eq_true q2
    unfold aslice
    simp only [ht, hk, hl]
    unfold sliceStr
    simp only [len_eq]
    rw [bound_of h1' g1]
    simp only
    rw [bound_of h2' g2]
    simp only
    unfold sub8
    rw [drp_eq, show Nat.sub y x' = y - x' from rfl, tk_le _ _ (by simp; omega), retStr_sym hs]
  unfold sSliceT at hx
  cases hto : E.told.get h.cnt with
  | none =>
    rw [hto] at hx
    simp only at hx
    obtain ⟨rfl, rfl⟩ := sSub_eq h1' h2' hx
    exact ⟨u.fwd, fun q => ⟨h, hfin q, u⟩⟩
  | some rr =>
    rw [hto] at hx
    simp only [Option.some.injEq, Prod.mk.injEq] at hx
    obtain ⟨rfl, rfl⟩ := hx
    have u2 := u.trans (Up.owe _ (bytesEq rr (List.take (Nat.sub y x') (List.drop x' l))))
    refine ⟨u2.fwd, fun q => ⟨h, ?_, u2⟩⟩
    obtain ⟨q1, q2⟩ := ob_owe q
    rw [bytesEq_eq] at q2
    have q2 : rr = List.take (y - x') (List.drop x' l) := by simpa using q2
    rw [hfin q1, q2]
theorem nthD_eq {l : List UInt8} {i : Nat} (h : i < l.length) : nth l i = some (nthD l i) := by
  rw [nth_eq]
  unfold nthD
  rw [nth_eq]
  simp [h]
theorem sIndex_std {x i : Value} {l : List UInt8} (hl : asStr x = some l) (hx : sIndex1 E ty l i h = some (r, h1)) : SD (aindex E ty x i h) h r h1 := by
  unfold sIndex1 at hx
  cases hi : asNat i with
  | none => simp [hi] at hx
  | some i' =>
  simp only [hi] at hx
  cases ht : E.ty.get ty with
  | none => simp [ht] at hx
  | some ti =>
  simp only [ht] at hx
  cases hk : Nat.beq ti.kd 3 with
  | false => simp [hk] at hx
  | true =>
  simp only [hk, Option.some.injEq, Prod.mk.injEq] at hx
  obtain ⟨rfl, rfl⟩ := hx
  have u := Up.owe h (Nat.blt i' (len l))
  refine ⟨u.fwd, fun q => ⟨h, ?_, u⟩⟩
  obtain ⟨q1, q2⟩ := ob_owe q
  rw [blt_eq, len_eq] at q2
  have g1 : i' < l.length := by simpa using q2
  unfold aindex
  simp only [hi, ht, hk, hl]
  rw [nthD_eq g1]
  rfl
theorem asSl_str {x : Value} {y : SL} (h : asSl x = some y) : asStr x = none ∧ asInt x = none := by
  cases x <;> first | (simp [asSl] at h; done) | exact ⟨rfl, rfl⟩
theorem sConv_std {s d : TypeId} {x : Value} {y : SL} (hs : h.sym = true) (hl : asSl x = some y) (hx : sConv1 E s d x y h = some (r, h1)) (hf : aconvert E s d x h = some (r, h1) → Fwd h h1) : SD (aconvert E s d x h) h r h1 := by
  unfold sConv1 at hx
  obtain ⟨ya, yn, yc⟩ := y
  cases ya with
  | none => exact .same hx (hf hx)
  | some p =>
  obtain ⟨pb, poff⟩ := p
  simp only at hx
  cases hd : E.ty.get d with
  | none => simp [hd] at hx
  | some di =>
  simp only [hd] at hx
  cases hk : Nat.beq di.kd 3 with
  | false => simp only [hk] at hx; exact .same hx (hf hx)
  | true =>
  simp only [hk] at hx
  cases hss : E.ty.get s with
  | none => simp [hss] at hx
  | some si =>
  simp only [hss] at hx
  cases hb : isBytesT E si with
  | false => simp [hb] at hx
  | true =>
  simp only [hb] at hx
  unfold sConv4 sConv3 at hx
  cases ho : bytesOf (h.obj pb) with
  | none => simp [ho] at hx
  | some l =>
  simp only [ho] at hx
  unfold sConv2 at hx
  simp only [Option.some.injEq, Prod.mk.injEq] at hx
  obtain ⟨rfl, rfl⟩ := hx
  have u := Up.owe h (Nat.beq (len (drp poff l)) yn)
  refine ⟨u.fwd, fun q => ⟨h, ?_, u⟩⟩
  obtain ⟨q1, q2⟩ := ob_owe q
  rw [len_eq, drp_eq] at q2
  have g : (l.drop poff).length = yn := Nat.eq_of_beq_eq_true q2
  obtain ⟨e1, e2⟩ := asSl_str hl
  have hk2 : Nat.beq di.kd 2 = false := by
    have : di.kd = 3 := Nat.eq_of_beq_eq_true hk
    rw [this]; rfl
  unfold aconvert
  simp only [hd, hss, hk2, hk]
  unfold cStr
  simp only [e1, e2, hb, hl]
  have hba : bytesAt ⟨some ⟨pb, poff⟩, yn, yc⟩ h = some (l.drop poff) := by
    unfold bytesAt
    cases hn : Nat.beq yn 0 with
    | true =>
      have : yn = 0 := Nat.eq_of_beq_eq_true hn
      rw [this] at g
      simp only
      rw [List.eq_nil_of_length_eq_zero g]
    | false =>
      simp only [ho, drp_eq]
      rw [← g, tk_le _ _ (Nat.le_refl _), List.take_of_length_le (Nat.le_refl _)]
  rw [hba, retStr_sym hs, drp_eq]
theorem twoNat_some {x y : Value} {m n : Nat} (h : twoNat x y = some (m, n)) : x = .int .i64 (m : Int) ∧ y = .int .i64 (n : Int) := by
  unfold twoNat at h
  cases hi : asInt x with
  | none => simp [hi] at h
  | some i =>
  simp only [hi] at h
  cases hj : asInt y with
  | none => simp [hj] at h
  | some j =>
  simp only [hj] at h
  cases k1 : kEq .i64 i.k with
  | false => simp [k1] at h
  | true =>
  simp only [k1] at h
  cases k2 : kEq .i64 j.k with
  | false => simp [k2] at h
  | true =>
  simp only [k2] at h
  obtain ⟨ik, inn⟩ := i
  obtain ⟨jk, jn⟩ := j
  cases inn with
  | negSucc z => simp [natI] at h
  | ofNat m' =>
  cases jn with
  | negSucc z => simp [natI] at h
  | ofNat n' =>
  simp [natI] at h
  obtain ⟨rfl, rfl⟩ := h
  have e1 := asInt_some hi
  have e2 := asInt_some hj
  have e3 := kEq_true k1
  have e4 := kEq_true k2
  simp only at e1 e2 e3 e4
  subst e3; subst e4
  exact ⟨e1, e2⟩
theorem wrap64 {x : Int} (h1 : -9223372036854775808 ≤ x) (h2 : x ≤ 9223372036854775807) : IntKind.wrap .i64 x = x := by
  show (if (true && decide (x % (2 ^ 64 : Int) ≥ (2 ^ (64 - 1) : Int))) = true then x % (2 ^ 64 : Int) - (2 ^ 64 : Int) else x % (2 ^ 64 : Int)) = x
  have e1 : (2 ^ 64 : Int) = 18446744073709551616 := by decide
  have e2 : (2 ^ (64 - 1) : Int) = 9223372036854775808 := by decide
  rw [e1, e2]
  simp only [Bool.true_and, decide_eq_true_eq]
  split <;> omega
theorem sDec_some {q : Bool} {f : Bool → AH → AR} (hx : sDec h q f = some (r, h1)) : ∃ d h', h.dec q = (d, h') ∧ f d h' = some (r, h1) := by
  unfold sDec at hx
  cases hd : h.dec q with
  | mk d h' => rw [hd] at hx; exact ⟨d, h', rfl, hx⟩
theorem SD.up {std : AR} {h' : AH} (u : Up h h') (hf : Fwd h' h1) (q : OB h1 → std = some (r, h)) (e : h1 = h') : SD std h r h1 := by
  subst e
  exact ⟨u.fwd, fun k => ⟨h, q k, u⟩⟩
theorem sAdd_std {x y : Operand} {a b : Value} {m n : Nat} (h2 : twoNat a b = some (m, n)) (hx : sAdd2 m n h = some (r, h1)) : SD (binF .add E ty x y a b h) h r h1 := by
  obtain ⟨rfl, rfl⟩ := twoNat_some h2
  unfold sAdd2 at hx
  simp only [Option.some.injEq, Prod.mk.injEq] at hx
  obtain ⟨rfl, rfl⟩ := hx
  refine .up (Up.owe h _) (.refl _) (fun q => ?_) rfl
  obtain ⟨q1, q2⟩ := ob_owe q
  have g : m + n ≤ 9223372036854775807 := Nat.le_of_ble_eq_true q2
  show some (Value.int .i64 (IntKind.wrap .i64 ((m : Int) + (n : Int))), h) = _
  rw [wrap64 (by omega) (by omega)]
  rfl
theorem sSub_std {x y : Operand} {a b : Value} {m n : Nat} (h2 : twoNat a b = some (m, n)) (hx : sSub2 m n h = some (r, h1)) : SD (binF .sub E ty x y a b h) h r h1 := by
  obtain ⟨rfl, rfl⟩ := twoNat_some h2
  unfold sSub2 at hx
  obtain ⟨d, h', k1, k2⟩ := sDec_some hx
  have u := (Up.owe h _).trans (Up.dec k1)
  have fin : OB h' → d = Nat.ble n m ∧ m + n ≤ 9223372036854775807 := fun q => by
    have q1 := dec_told k1 q
    obtain ⟨_, q3⟩ := ob_owe ((Up.dec k1).ob q)
    exact ⟨q1, Nat.le_of_ble_eq_true q3⟩
  have goal : ∀ z : Int, Value.int .i64 z = r → h1 = h' → (OB h' → z = (m : Int) - (n : Int)) → SD (binF .sub E ty x y (.int .i64 m) (.int .i64 n) h) h r h1 := fun z hz e hq => by
    refine .up u (by rw [e]; exact .refl _) (fun q => ?_) e
    rw [e] at q
    have g := (fin q).2
    show some (Value.int .i64 (IntKind.wrap .i64 ((m : Int) - (n : Int))), h) = _
    rw [wrap64 (by omega) (by omega), ← hz, hq q]
  cases d with
  | true =>
    simp only [Option.some.injEq, Prod.mk.injEq] at k2
    refine goal _ k2.1 k2.2.symm fun q => ?_
    have := (fin q).1
    have : n ≤ m := Nat.le_of_ble_eq_true this.symm
    show ((m - n : Nat) : Int) = _
    omega
  | false =>
    simp only [Option.some.injEq, Prod.mk.injEq] at k2
    refine goal _ k2.1 k2.2.symm fun q => ?_
    have h3 := (fin q).1
    rw [ble_eq] at h3
    have : ¬ n ≤ m := by simpa using h3.symm
    show Int.negSucc (n - (m + 1)) = _
    omega
theorem sSrc_some {x : Value} {l : List UInt8} {h' : AH} (hx : sSrc x h = some (l, h')) : Up h h' ∧ (OB h' → ∀ n, srcLen x = some n → srcBytes x n h = some l ∧ l.length = n) := by
  unfold sSrc at hx
  cases hs : asStr x with
  | some q =>
    simp only [hs, Option.some.injEq, Prod.mk.injEq] at hx
    obtain ⟨rfl, rfl⟩ := hx
    refine ⟨.refl _, fun _ n hn => ?_⟩
    unfold srcLen at hn
    simp only [hs, Option.some.injEq, len_eq] at hn
    subst hn
    refine ⟨?_, rfl⟩
    unfold srcBytes
    cases hb : Nat.beq q.length 0 with
    | true => rw [List.eq_nil_of_length_eq_zero (Nat.eq_of_beq_eq_true hb)]
    | false => simp only [hs]; rw [tk_le _ _ (Nat.le_refl _), List.take_of_length_le (Nat.le_refl _)]
  | none =>
    simp only [hs] at hx
    cases hy : asSl x with
    | none => simp [hy] at hx
    | some y =>
    simp only [hy] at hx
    have hlen : ∀ n, srcLen x = some n → n = y.n := fun n hn => by
      unfold srcLen at hn
      simp only [hs, hy, Option.some.injEq] at hn
      exact hn.symm
    obtain ⟨ya, yn, yc⟩ := y
    simp only at hlen
    cases ya with
    | none =>
      simp only [Option.some.injEq, Prod.mk.injEq] at hx
      obtain ⟨rfl, rfl⟩ := hx
      refine ⟨Up.owe _ _, fun q n hn => ?_⟩
      have hn' := hlen n hn
      subst hn'
      have g := (ob_owe q).2
      have g' : n = 0 := Nat.eq_of_beq_eq_true g
      refine ⟨?_, by simp [g']⟩
      unfold srcBytes
      simp only [g]
    | some p =>
      obtain ⟨pb, poff⟩ := p
      simp only [sSrc1, sSrc2] at hx
      cases hb : bytesOf (h.obj pb) with
      | none => simp [hb] at hx
      | some l' =>
      simp only [hb, Option.some.injEq, Prod.mk.injEq] at hx
      obtain ⟨rfl, rfl⟩ := hx
      refine ⟨Up.owe _ _, fun q n hn => ?_⟩
      have hn' := hlen n hn
      subst hn'
      have g := (ob_owe q).2
      rw [len_eq, drp_eq] at g
      have g' : (l'.drop poff).length = n := Nat.eq_of_beq_eq_true g
      rw [drp_eq]
      refine ⟨?_, g'⟩
      unfold srcBytes
      cases hn0 : Nat.beq n 0 with
      | true =>
        have : n = 0 := Nat.eq_of_beq_eq_true hn0
        rw [this] at g'
        simp only
        rw [List.eq_nil_of_length_eq_zero g']
      | false =>
        simp only [hs, hy, hb, drp_eq]
        rw [← g', tk_le _ _ (Nat.le_refl _), List.take_of_length_le (Nat.le_refl _)]
theorem srcBytes_up {x : Value} {n : Nat} (u : Up a b) : srcBytes x n b = srcBytes x n a := by
  unfold srcBytes
  cases Nat.beq n 0 <;> cases asStr x <;> cases asSl x <;> simp only [u.obj]
theorem sJoin_some {e : TypeId} {s x : Value} {sl : SL} {fz kd m : Nat} {o : AObj} {ei : TI} {h' : AH} (hs : asSl s = some sl) (hm : srcLen x = some m) (h8 : ei.u8 = true) (hx : sJoin e s x fz kd h = some (o, h')) :
    Up h h' ∧ (OB h' → joinObj ei e s x sl.n m fz kd h = some o) := by
  unfold sJoin at hx
  cases ha : sSrc s h with
  | none => simp [ha] at hx
  | some p =>
  obtain ⟨l, h2⟩ := p
  simp only [ha] at hx
  cases hb : sSrc x h2 with
  | none => simp [hb] at hx
  | some q =>
  obtain ⟨l', h3⟩ := q
  simp only [hb, Option.some.injEq, Prod.mk.injEq] at hx
  obtain ⟨rfl, rfl⟩ := hx
  obtain ⟨u1, k1⟩ := sSrc_some ha
  obtain ⟨u2, k2⟩ := sSrc_some hb
  refine ⟨u1.trans u2, fun q => ?_⟩
  obtain ⟨e1, e2⟩ := asSl_str hs
  have hsl : srcLen s = some sl.n := by unfold srcLen; simp only [e1, hs]
  obtain ⟨g1, _⟩ := k1 (u2.ob q) _ hsl
  obtain ⟨g2, _⟩ := k2 q _ hm
  rw [srcBytes_up u1] at g2
  unfold joinObj
  simp only [h8, g1, g2]
theorem appNew_std {e : TypeId} {s x : Value} {sl : SL} {m : Nat} {ei : TI} (hs : asSl s = some sl) (hm : srcLen x = some m) (h8 : ei.u8 = true) (hx : sAppNew e s x sl.n m h = some (r, h1)) : SD (appNew ei e s x sl.n m h) h r h1 := by
  unfold sAppNew at hx
  cases hj : sJoin e s x 0 1 h with
  | none => rw [hj] at hx; cases hx
  | some p =>
  obtain ⟨o, h'⟩ := p
  simp only [hj, Option.some.injEq, Prod.mk.injEq] at hx
  obtain ⟨rfl, rfl⟩ := hx
  obtain ⟨u, k⟩ := sJoin_some hs hm h8 hj
  refine ⟨u.fwd.trans (.alloc _ _), fun q => ⟨h.alloc o, ?_, u.alloc o⟩⟩
  unfold appNew
  rw [k q, u.n]
theorem appLoose_std {e : TypeId} {s x : Value} {sl : SL} {m : Nat} {ei : TI} (hs : asSl s = some sl) (hm : srcLen x = some m) (h8 : ei.u8 = true) (h1z : ei.size = 1) (hx : sAppLoose e s x sl.a sl.n m h = some (r, h1)) : SD (appLoose ei e s x sl m h) h r h1 := by
  unfold sAppLoose at hx
  cases ha : sl.a with
  | none => simp [ha] at hx
  | some p =>
  simp only [ha] at hx
  unfold sAppLoose1 at hx
  cases hob : h.obj p.b with
  | bytes l e' fz kd =>
    simp only [hob] at hx
    cases hee : Nat.beq e' e with
    | false => simp [hee] at hx
    | true =>
    simp only [hee] at hx
    have he : isElem e (h.obj p.b) = true := by rw [hob]; exact hee
    have u0 := Up.owe h (Nat.ble fz (Nat.add p.off (Nat.mul sl.n 1)))
    unfold sAppLoose2 at hx
    cases hj : sJoin e s x (Nat.sub fz p.off) (marks (.bytes l e' fz kd)) (h.owe (Nat.ble fz (Nat.add p.off (Nat.mul sl.n 1)))) with
    | none => rw [hj] at hx; cases hx
    | some q =>
    obtain ⟨o, h'⟩ := q
    rw [hj] at hx
    simp only [Option.some.injEq, Prod.mk.injEq] at hx
    obtain ⟨rfl, rfl⟩ := hx
    obtain ⟨u, k⟩ := sJoin_some hs hm h8 hj
    have uu := u0.trans u
    refine ⟨uu.fwd.trans ((Fwd.write _ _ _).trans (.alloc _ _)), fun q => ⟨(h.write p.b .dead).alloc o, ?_, (uu.write p.b .dead).alloc o⟩⟩
    have q1 : OB h' := q
    have g1 := k q1
    have g2 := (ob_owe (u.ob q1)).2
    have g3 : joinObj ei e s x sl.n m (Nat.sub fz p.off) (marks (.bytes l e' fz kd)) h = some o := by
      rw [← g1]
      unfold joinObj
      simp only [h8, srcBytes_up u0]
    unfold appLoose
    simp only [ha, he]
    unfold appLoose1
    rw [h1z, hob]
    show (match Nat.ble fz (Nat.add p.off (Nat.mul sl.n 1)) with
      | false => none
      | true => match joinObj ei e s x sl.n m (Nat.sub fz p.off) (marks (.bytes l e' fz kd)) h with
        | none => none
        | some o => some (slV h.n 0 (Nat.add sl.n m) LOOSE, (h.write p.b .dead).alloc o)) = _
    rw [g2, g3, uu.n]
  | _ => simp [hob] at hx
theorem app2_std {e : TypeId} {s x : Value} {sl : SL} {m : Nat} {ei : TI} (hs : asSl s = some sl) (hm : srcLen x = some m) (h8 : ei.u8 = true) (h1z : ei.size = 1) (hx : sApp2 ei e s x sl.a sl.n sl.c m h = some (r, h1)) : SD (app2 ei e s x sl m h) h r h1 := by
  unfold sApp2 at hx
  obtain ⟨d, h', k1, k2⟩ := sDec_some hx
  have u := Up.dec k1
  cases d with
  | true =>
    simp only [Option.some.injEq, Prod.mk.injEq] at k2
    obtain ⟨rfl, rfl⟩ := k2
    refine .up u (.refl _) (fun q => ?_) rfl
    have := dec_told k1 q
    unfold app2
    rw [← this]
  | false =>
    simp only at k2
    have lift : ∀ {f : AH → AR}, SD (f h') h' r h1 → (∀ a b, Up a b → ∀ r1 b1, f b = some (r1, b1) → ∃ a1, f a = some (r1, a1) ∧ Up a1 b1) → (OB h1 → app2 ei e s x sl m h = f h) → SD (app2 ei e s x sl m h) h r h1 := fun {f} hS hm hq => by
      refine ⟨u.fwd.trans hS.1, fun q => ?_⟩
      obtain ⟨h2, g1, g2⟩ := hS.2 q
      obtain ⟨a1, g3, g4⟩ := hm h h' u _ _ g1
      exact ⟨a1, by rw [hq q]; exact g3, g4.trans g2⟩
    unfold sApp3 at k2
    have hjup : ∀ (fz kd : Nat) (a b : AH), Up a b → joinObj ei e s x sl.n m fz kd b = joinObj ei e s x sl.n m fz kd a := fun fz kd a b v => by
      unfold joinObj
      simp only [h8, srcBytes_up v]
    cases hl : loose sl.c with
    | true =>
      simp only [hl] at k2
      have hS := appLoose_std hs hm h8 h1z k2
      refine lift (f := appLoose ei e s x sl m) hS (fun a b v r1 b1 hb => ?_) fun q => ?_
      · unfold appLoose at hb ⊢
        cases ha : sl.a with
        | none => simp [ha] at hb
        | some p =>
        simp only [ha, v.obj] at hb ⊢
        cases he : isElem e (a.obj p.b) with
        | false => simp [he] at hb
        | true =>
        simp only [he] at hb ⊢
        unfold appLoose1 at hb ⊢
        rw [hjup _ _ a b v] at hb
        cases hz : Nat.ble (fzOf (a.obj p.b)) (Nat.add p.off (Nat.mul sl.n ei.size)) with
        | false => rw [hz] at hb; cases hb
        | true =>
        simp only [hz] at hb ⊢
        cases hj : joinObj ei e s x sl.n m (Nat.sub (fzOf (a.obj p.b)) p.off) (marks (a.obj p.b)) a with
        | none => rw [hj] at hb; cases hb
        | some o =>
        simp only [hj, Option.some.injEq, Prod.mk.injEq] at hb ⊢
        obtain ⟨rfl, rfl⟩ := hb
        exact ⟨_, ⟨by rw [v.n], rfl⟩, (v.write p.b .dead).alloc o⟩
      · have hd := dec_told k1 (hS.1.ob q)
        unfold app2
        rw [← hd]
        simp only [hl]
    | false =>
      simp only [hl] at k2
      obtain ⟨d2, h'', k3, k4⟩ := sDec_some k2
      have u2 := Up.dec k3
      cases d2 with
      | true => simp at k4
      | false =>
        simp only at k4
        have hS := appNew_std hs hm h8 k4
        have hmono : ∀ a b, Up a b → ∀ r1 b1, appNew ei e s x sl.n m b = some (r1, b1) → ∃ a1, appNew ei e s x sl.n m a = some (r1, a1) ∧ Up a1 b1 := fun a b v r1 b1 hb => by
          unfold appNew at hb ⊢
          rw [hjup _ _ a b v] at hb
          cases hj : joinObj ei e s x sl.n m 0 1 a with
          | none => rw [hj] at hb; cases hb
          | some o =>
          simp only [hj, Option.some.injEq, Prod.mk.injEq] at hb ⊢
          obtain ⟨rfl, rfl⟩ := hb
          exact ⟨_, ⟨by rw [v.n], rfl⟩, v.alloc o⟩
        have hS2 : SD (appNew ei e s x sl.n m h') h' r h1 := by
          refine ⟨u2.fwd.trans hS.1, fun q => ?_⟩
          obtain ⟨h2, g1, g2⟩ := hS.2 q
          obtain ⟨a1, g3, g4⟩ := hmono h' h'' u2 _ _ g1
          exact ⟨a1, g3, g4.trans g2⟩
        refine lift (f := appNew ei e s x sl.n m) hS2 hmono fun q => ?_
        have hd2 := dec_told k3 (hS.1.ob q)
        have hd := dec_told k1 (u2.ob (hS.1.ob q))
        unfold app2
        rw [← hd]
        simp only [hl]
        rw [← hd2]
theorem append_std {s x : Value} (hs' : h.sym = true) (hx : sappend E ty s x h = some (r, h1)) (hf : aappend E ty s x h = some (r, h1) → Fwd h h1) : SD (aappend E ty s x h) h r h1 := by
  unfold sappend at hx
  cases hs : asSl s with
  | none => simp [hs] at hx
  | some sl =>
  simp only [hs] at hx
  cases hm : srcLen x with
  | none => simp [hm] at hx
  | some m =>
  simp only [hm] at hx
  cases ht : E.ty.get ty with
  | none => simp [ht] at hx
  | some ti =>
  simp only [ht] at hx
  cases hk : Nat.beq ti.kd 5 with
  | false => simp [hk] at hx
  | true =>
  simp only [hk] at hx
  cases he : E.ty.get ti.el with
  | none => simp [he] at hx
  | some ei =>
  simp only [he] at hx
  cases h8 : ei.u8 with
  | false => simp only [h8] at hx; exact .same hx (hf hx)
  | true =>
  simp only [h8] at hx
  unfold sApp1 at hx
  cases hb : Nat.ble ei.bytes 256 with
  | false => simp [hb] at hx
  | true =>
  simp only [hb] at hx
  cases hz : ei.zero with
  | none => simp [hz] at hx
  | some z =>
  simp only [hz] at hx
  cases h1z : Nat.beq ei.size 1 with
  | false => simp [h1z] at hx
  | true =>
  simp only [h1z] at hx
  have u := Up.owe h (Nat.ble (Nat.add sl.n m) 4294967296)
  have hS := app2_std hs hm h8 (Nat.eq_of_beq_eq_true h1z) hx
  refine ⟨u.fwd.trans hS.1, fun q => ?_⟩
  obtain ⟨h2, g1, g2⟩ := hS.2 q
  refine ⟨h2, ?_, g2⟩
  unfold aappend
  simp only [hs, hm, ht, hk, he]
  unfold app1
  simp only [hb, hz]
  rw [req_sym hs']
  exact g1
theorem unsStr_std {p l : Value} (hs : h.sym = true) (hx : sunsafeString E ty p l h = some (r, h1)) : SD (aunsafeString E ty p l h) h r h1 := by
  unfold sunsafeString at hx
  cases hn : asNat l with
  | none => simp [hn] at hx
  | some n =>
  simp only [hn] at hx
  cases ht : E.ty.get ty with
  | none => simp [ht] at hx
  | some ti =>
  simp only [ht] at hx
  cases hk : Nat.beq ti.kd 4 with
  | false => simp [hk] at hx
  | true =>
  simp only [hk] at hx
  cases he : E.ty.get ti.el with
  | none => simp [he] at hx
  | some ui =>
  simp only [he] at hx
  cases h8 : ui.u8 with
  | false => simp [h8] at hx
  | true =>
  simp only [h8] at hx
  obtain ⟨d, h', k1, k2⟩ := sDec_some hx
  have u := Up.dec k1
  have hst : ∀ d, d = Nat.beq n 0 → aunsafeString E ty p l h = (match d with
      | true => match isNilP p with
        | true => some (strV [], h)
        | false => none
      | false => match asPtr p with
        | none => none
        | some p => match bytesO (h.obj p.b) with
          | some y => unsStr ti p n h y
          | none => none) := fun d e => by
    unfold aunsafeString
    simp only [hn, ht, hk, he, h8, ← e]
    first | done | rfl
  cases d with
  | true =>
    simp only at k2
    cases hp : isNilP p with
    | false => simp [hp] at k2
    | true =>
      simp only [hp, Option.some.injEq, Prod.mk.injEq] at k2
      obtain ⟨rfl, rfl⟩ := k2
      refine .up u (.refl _) (fun q => ?_) rfl
      rw [hst true (dec_told k1 q)]
      simp only [hp]
  | false =>
    simp only at k2
    cases hp : asPtr p with
    | none => simp [hp] at k2
    | some q =>
    simp only [hp] at k2
    unfold sUnsStr2 at k2
    obtain ⟨qb, qoff⟩ := q
    simp only [u.obj] at k2
    cases hb : bytesO (h.obj qb) with
    | none => simp [hb] at k2
    | some y =>
    simp only [hb] at k2
    unfold sUnsStr1 at k2
    obtain ⟨yl, ye, yfz, ykd⟩ := y
    simp only at k2
    cases h2 : Nat.beq ykd 2 with
    | true => simp [h2] at k2
    | false =>
    simp only [h2] at k2
    cases h3 : Nat.beq ye ti.el with
    | false => simp [h3] at k2
    | true =>
    simp only [h3, Option.some.injEq, Prod.mk.injEq] at k2
    obtain ⟨rfl, rfl⟩ := k2
    have u1 := Up.owe h' (Nat.ble n 1099511627776)
    have u2 := Up.owe (h'.owe (Nat.ble n 1099511627776)) (Nat.beq (len (drp qoff yl)) n)
    have uu := (u.trans u1).trans u2
    refine ⟨uu.fwd.trans (.write _ _ _), fun k => ⟨h.write qb (.bytes yl ye (Nat.max yfz (Nat.add qoff n)) ykd), ?_, uu.write _ _⟩⟩
    have k' : OB ((h'.owe (Nat.ble n 1099511627776)).owe (Nat.beq (len (drp qoff yl)) n)) := k
    obtain ⟨g1, g2⟩ := ob_owe k'
    obtain ⟨g3, g4⟩ := ob_owe g1
    rw [hst false (dec_told k1 g3)]
    simp only [hp, hb]
    unfold unsStr
    simp only [h2, h3, g4]
    rw [len_eq, drp_eq] at g2
    have g5 : (yl.drop qoff).length = n := Nat.eq_of_beq_eq_true g2
    rw [drp_eq, tk_le n _ (by omega), List.take_of_length_le (by omega)]
    unfold fin
    rw [hs]
theorem data_std {x : Value} (hx : sData x h = some (r, h1)) : SD (asliceData x h) h r h1 := by
  unfold sData at hx
  cases hs : asSl x with
  | none => simp [hs] at hx
  | some s =>
  simp only [hs] at hx
  cases ha : s.a with
  | none =>
    simp only [ha] at hx
    have e : h1 = h := by simp at hx; exact hx.2.symm
    refine .same ?_ (.of_eq e)
    unfold asliceData
    simp only [hs, ha]; exact hx
  | some p =>
    simp only [ha] at hx
    obtain ⟨d, h', k1, k2⟩ := sDec_some hx
    cases d with
    | true => simp [sData1] at k2
    | false =>
      simp only [sData1, Option.some.injEq, Prod.mk.injEq] at k2
      obtain ⟨rfl, rfl⟩ := k2
      refine .up (Up.dec k1) (.refl _) (fun q => ?_) rfl
      unfold asliceData
      simp only [hs, ha]
      rw [← dec_told k1 q]
theorem sMax_std {x y : Value} {m n : Nat} (h2 : twoNat x y = some (m, n)) (hx : sMax2 m n h = some (r, h1)) : SD (mm maxI x y h) h r h1 := by
  obtain ⟨rfl, rfl⟩ := twoNat_some h2
  unfold sMax2 at hx
  obtain ⟨d, h', k1, k2⟩ := sDec_some hx
  have hst : mm maxI (.int .i64 m) (.int .i64 n) h = some (.int .i64 (if (n : Int) > (m : Int) then (n : Int) else (m : Int)), h) := rfl
  cases d with
  | true =>
    simp only [Option.some.injEq, Prod.mk.injEq] at k2
    obtain ⟨rfl, rfl⟩ := k2
    refine .up (Up.dec k1) (.refl _) (fun q => ?_) rfl
    have g := dec_told k1 q
    rw [blt_eq] at g
    have g : m < n := by simpa using g.symm
    rw [hst, if_pos (by omega)]; rfl
  | false =>
    simp only [Option.some.injEq, Prod.mk.injEq] at k2
    obtain ⟨rfl, rfl⟩ := k2
    refine .up (Up.dec k1) (.refl _) (fun q => ?_) rfl
    have g := dec_told k1 q
    rw [blt_eq] at g
    have g : ¬ m < n := by simpa using g.symm
    rw [hst, if_neg (by omega)]; rfl
theorem sMin_std {x y : Value} {m n : Nat} (h2 : twoNat x y = some (m, n)) (hx : sMin2 m n h = some (r, h1)) : SD (mm minI x y h) h r h1 := by
  obtain ⟨rfl, rfl⟩ := twoNat_some h2
  unfold sMin2 at hx
  obtain ⟨d, h', k1, k2⟩ := sDec_some hx
  have hst : mm minI (.int .i64 m) (.int .i64 n) h = some (.int .i64 (if (n : Int) < (m : Int) then (n : Int) else (m : Int)), h) := rfl
  cases d with
  | true =>
    simp only [Option.some.injEq, Prod.mk.injEq] at k2
    obtain ⟨rfl, rfl⟩ := k2
    refine .up (Up.dec k1) (.refl _) (fun q => ?_) rfl
    have g := dec_told k1 q
    rw [blt_eq] at g
    have g : n < m := by simpa using g.symm
    rw [hst, if_pos (by omega)]; rfl
  | false =>
    simp only [Option.some.injEq, Prod.mk.injEq] at k2
    obtain ⟨rfl, rfl⟩ := k2
    refine .up (Up.dec k1) (.refl _) (fun q => ?_) rfl
    have g := dec_told k1 q
    rw [blt_eq] at g
    have g : ¬ n < m := by simpa using g.symm
    rw [hst, if_neg (by omega)]; rfl
theorem sInts_some {f : Nat → Nat → AH → AR} {g : AR} {x y : Value} (hx : sInts f g x y h = some (r, h1)) : g = some (r, h1) ∨ ∃ m n, twoNat x y = some (m, n) ∧ f m n h = some (r, h1) := by
  unfold sInts at hx
  cases h2 : twoNat x y with
  | none => rw [h2] at hx; exact .inl hx
  | some p => obtain ⟨m, n⟩ := p; rw [h2] at hx; exact .inr ⟨m, n, rfl, hx⟩
theorem builtinS_std {bi : Builtin} {ts : List TypeId} {args : List Value} (hs : h.sym = true) (hx : sbuiltinF bi E ts args h = some (r, h1)) : SD (builtinF bi E ts args h) h r h1 := by
  have std : builtinF bi E ts args h = some (r, h1) → SD (builtinF bi E ts args h) h r h1 := fun k => .same k (builtinF_fwd k)
  cases bi with
  | append =>
    have hx : sfAppend E ts args h = some (r, h1) := hx
    show SD (bfAppend E ts args h) h r h1
    unfold sfAppend at hx
    unfold bfAppend
    match ts, hx with
    | [], hx => simp at hx
    | [_], hx => simp at hx
    | t0 :: xt :: ts', hx =>
      simp only at hx ⊢
      cases ht : E.ty.get xt with
      | none => simp [ht] at hx
      | some xi =>
      simp only [ht] at hx ⊢
      have go : pair sappend E (t0 :: xt :: ts') args h = some (r, h1) → SD (pair aappend E (t0 :: xt :: ts') args h) h r h1 := fun k => by
        unfold pair at k ⊢
        match args, k with
        | [], k => simp at k
        | [_], k => simp at k
        | [x, y], k => exact append_std hs k fun k2 => aappend_fwd k2
        | _ :: _ :: _ :: _, k => simp at k
      cases h5 : Nat.beq xi.kd 5 with
      | true => simp only [h5] at hx ⊢; exact go hx
      | false =>
        simp only [h5] at hx ⊢
        cases h3 : Nat.beq xi.kd 3 with
        | true => simp only [h3] at hx ⊢; exact go hx
        | false => simp [h3] at hx
  | max =>
    have hx : s2 (fun x y h => sInts sMax2 (bfMax E ts args h) x y h) args h = some (r, h1) := hx
    unfold s2 at hx
    match args, hx, std with
    | [], hx, _ => simp at hx
    | [_], hx, _ => simp at hx
    | [x, y], hx, std =>
      rcases sInts_some hx with k | ⟨m, n, k1, k2⟩
      · exact std k
      · exact sMax_std k1 k2
    | _ :: _ :: _ :: _, hx, _ => simp at hx
  | min =>
    have hx : s2 (fun x y h => sInts sMin2 (bfMin E ts args h) x y h) args h = some (r, h1) := hx
    unfold s2 at hx
    match args, hx, std with
    | [], hx, _ => simp at hx
    | [_], hx, _ => simp at hx
    | [x, y], hx, std =>
      rcases sInts_some hx with k | ⟨m, n, k1, k2⟩
      · exact std k
      · exact sMin_std k1 k2
    | _ :: _ :: _ :: _, hx, _ => simp at hx
  | unsafeSliceData =>
    have hx : s1 sData args h = some (r, h1) := hx
    unfold s1 at hx
    match args, hx with
    | [], hx => simp at hx
    | [x], hx => exact data_std hx
    | _ :: _ :: _, hx => simp at hx
  | unsafeString =>
    have hx : pair sunsafeString E ts args h = some (r, h1) := hx
    show SD (pair aunsafeString E ts args h) h r h1
    unfold pair at hx ⊢
    match ts, args, hx with
    | [], _, hx => simp at hx
    | t0 :: _, [], hx => simp at hx
    | t0 :: _, [_], hx => simp at hx
    | t0 :: _, [x, y], hx => exact unsStr_std hs hx
    | t0 :: _, _ :: _ :: _ :: _, hx => simp at hx
  | _ => exact std hx
theorem sIndexAddr_std {t : TypeId} {x i : Value} (hx : sIndexAddr E t x i h = some (r, h1)) : SD (aindexAddr E t x i h) h r h1 := by
  unfold sIndexAddr at hx
  unfold aindexAddr
  cases hi : asNat i with
  | none => simp [hi] at hx
  | some i =>
  simp only [hi] at hx ⊢
  cases ht : E.ty.get t with
  | none => simp [ht] at hx
  | some ti =>
  simp only [ht] at hx ⊢
  cases h5 : Nat.beq ti.kd 5 with
  | false => simp [h5] at hx
  | true =>
  simp only [h5] at hx ⊢
  unfold sIndexAddr2 at hx
  cases hs : asSl x with
  | none => simp [hs] at hx
  | some s =>
  obtain ⟨a, n, c⟩ := s
  simp only [hs] at hx ⊢
  cases a with
  | none => simp at hx
  | some p =>
  simp only at hx ⊢
  unfold sElAddr at hx
  unfold elAddr
  cases he : E.ty.get ti.el with
  | none => simp [he] at hx
  | some ei =>
  obtain ⟨b, off⟩ := p
  simp only [he, Option.some.injEq, Prod.mk.injEq] at hx ⊢
  obtain ⟨rfl, rfl⟩ := hx
  refine ⟨(Up.owe h _).fwd, fun q => ⟨h, ?_, Up.owe h _⟩⟩
  rw [(ob_owe q).2]
theorem over_setL : ∀ (l : List UInt8) (i : Nat) (c : UInt8), i < l.length → over l i [c] = some (setL l i c)
  | [], i, c, h => by simp at h
  | a :: l, 0, c, h => by
    show over0 [c] (a :: l) = _
    rfl
  | a :: l, i + 1, c, h => by
    have ih := over_setL l i c (by simpa using h)
    show Option.rec (motive := fun _ => Option (List UInt8)) none (fun r => some (a :: r)) (over l i [c]) = some (a :: setL l i c)
    rw [ih]
theorem sStore_std {t : TypeId} {a v : Value} (hx : sStore E t a v h = some (r, h1)) (hf : unit (astore E t a v h) = some (r, h1) → Fwd h h1) : SD (unit (astore E t a v h)) h r h1 := by
  unfold sStore at hx
  cases hp : asPtr a with
  | none => simp [hp] at hx
  | some p =>
  obtain ⟨b, off⟩ := p
  simp only [hp] at hx
  unfold sStoreB at hx
  cases ho : h.obj b with
  | bytes l e fz kd =>
    simp only [ho] at hx
    cases ht : E.ty.get t with
    | none => simp [ht] at hx
    | some ti =>
    simp only [ht] at hx
    cases hs : Nat.beq ti.size 1 with
    | false => simp [hs] at hx
    | true =>
    simp only [hs] at hx
    have hs1 := Nat.eq_of_beq_eq_true hs
    cases hi : asInt v with
    | none => simp [hi] at hx
    | some i =>
    obtain ⟨k, n⟩ := i
    simp only [hi] at hx
    cases hk : kEq .u8 k with
    | false => simp [hk] at hx
    | true =>
    simp only [hk] at hx
    cases hn : natI n with
    | none => simp [hn] at hx
    | some c =>
    simp only [hn] at hx
    unfold sStoreC at hx
    simp only [Option.some.injEq, Prod.mk.injEq] at hx
    obtain ⟨rfl, rfl⟩ := hx
    have u := ((Up.owe h (Nat.ble c 255)).trans (Up.owe _ (Nat.ble fz off))).trans (Up.owe _ (Nat.blt off (len l)))
    have uw := u.write b (.bytes (setL l off (UInt8.ofNat c)) e fz kd)
    have hv := asInt_some hi
    obtain rfl := kEq_true hk
    have hstd : ∀ (_ : c ≤ 255) (_ : fz ≤ off) (_ : off < l.length), unit (astore E t a v h) = some (.tuple ⟨[]⟩, h.write b (.bytes (setL l off (UInt8.ofNat c)) e fz kd)) := fun q1 q2 q3 => by
      have e1 : vcells v = [v] := by rw [hv]; rfl
      have e2 : allB scalar [v] = true := by rw [hv]; rfl
      have e3 : u8sOf [v] = some [UInt8.ofNat c] := by
        have : u8of v = some (UInt8.ofNat c) := by
          unfold u8of
          rw [hi]
          simp only [hk, hn]
          rw [Nat.ble_eq_true_of_le q1]
        show (match u8of v with
          | none => none
          | some b => match (some [] : Option (List UInt8)) with
            | none => none
            | some r => some (b :: r)) = _
        rw [this]
      unfold astore
      simp only [hp, ht, e1, e2, hs1]
      show unit (storeAt h b off [v]) = _
      unfold storeAt
      rw [ho]
      show unit (stBytes h b off [v] l e fz kd) = _
      unfold stBytes
      rw [Nat.ble_eq_true_of_le q2]
      simp only [e3, over_setL l off _ q3]
      rfl
    refine ⟨?_, fun q => ?_⟩
    · exact (u.fwd).trans (.write _ _ _)
    · have q' : OB (((h.owe (Nat.ble c 255)).owe (Nat.ble fz off)).owe (Nat.blt off (len l))) := q
      obtain ⟨q1, g3⟩ := ob_owe q'
      obtain ⟨q2, g2⟩ := ob_owe q1
      obtain ⟨q3, g1⟩ := ob_owe q2
      rw [blt_eq, len_eq] at g3
      exact ⟨_, hstd (Nat.le_of_ble_eq_true g1) (Nat.le_of_ble_eq_true g2) (by simpa using g3), uw⟩
  | dead => simp only [ho] at hx; exact .same hx (hf hx)
  | cells cs e fz kd => simp only [ho] at hx; exact .same hx (hf hx)
  | map es c => simp only [ho] at hx; exact .same hx (hf hx)
  | siter s pos => simp only [ho] at hx; exact .same hx (hf hx)
theorem sLoad_std {t : TypeId} {v : Value} (hx : sLoad E t v h = some (r, h1)) (hf : aload E t v h = some (r, h1) → Fwd h h1) : SD (aload E t v h) h r h1 := by
  unfold sLoad at hx
  cases hp : asPtr v with
  | none => simp [hp] at hx
  | some p =>
  obtain ⟨b, off⟩ := p
  simp only [hp] at hx
  unfold sLoadB at hx
  cases ho : h.obj b with
  | bytes l e fz kd =>
    simp only [ho] at hx
    cases ht : E.ty.get t with
    | none => simp [ht] at hx
    | some ti =>
    simp only [ht] at hx
    cases hg : ti.agg with
    | true => simp [hg] at hx
    | false =>
    simp only [hg, Option.some.injEq, Prod.mk.injEq] at hx
    obtain ⟨rfl, rfl⟩ := hx
    refine ⟨(Up.owe h _).fwd, fun q => ⟨h, ?_, Up.owe h _⟩⟩
    have hq := (ob_owe q).2
    rw [blt_eq, len_eq] at hq
    have hq : off < l.length := by simpa using hq
    unfold aload
    simp only [hp, ht, hg, ho]
    show retO h (optMap u8v (nth l off)) = _
    rw [nthD_eq hq]
    rfl
  | dead => simp only [ho] at hx; exact .same hx (hf hx)
  | cells cs e fz kd => simp only [ho] at hx; exact .same hx (hf hx)
  | map es c => simp only [ho] at hx; exact .same hx (hf hx)
  | siter s pos => simp only [ho] at hx; exact .same hx (hf hx)
theorem sFindK_some {kd : Nat} {k : Value} : ∀ {l : List MapEntry} {i : Nat} {h : AH} {o : Option FE} {h' : AH}, sFindK kd k l i h = some (o, h') → Up h h' ∧ (OB h' → findK kd k l i = some o)
  | [], i, h, o, h', hx => by
    have hx : some (none, h) = some (o, h') := hx
    injection hx with hx
    injection hx with e1 e2
    subst e1 e2
    exact ⟨.refl _, fun _ => rfl⟩
  | e :: l, i, h, o, h', hx => by
    have hx : (match keyEq kd k e.key with
      | none => none
      | some b => match h.dec b with
        | (d, h) => match d with
          | true => some (some ⟨i, e⟩, h)
          | false => sFindK kd k l (i + 1) h) = some (o, h') := hx
    have hstd : findK kd k (e :: l) i = (match keyEq kd k e.key with
      | none => none
      | some b => match b with
        | true => some (some ⟨i, e⟩)
        | false => findK kd k l (i + 1)) := rfl
    rw [hstd]
    cases hk : keyEq kd k e.key with
    | none => simp [hk] at hx
    | some b =>
    simp only [hk] at hx ⊢
    obtain ⟨d, h2, hd⟩ : ∃ d h2, h.dec b = (d, h2) := ⟨_, _, rfl⟩
    rw [hd] at hx
    have u := Up.dec hd
    cases d with
    | true =>
      simp only [Option.some.injEq, Prod.mk.injEq] at hx
      obtain ⟨rfl, rfl⟩ := hx
      refine ⟨u, fun q => ?_⟩
      have := dec_told hd q
      subst this
      rfl
    | false =>
      simp only at hx
      obtain ⟨u2, k2⟩ := sFindK_some hx
      refine ⟨u.trans u2, fun q => ?_⟩
      have := dec_told hd (u2.ob q)
      subst this
      exact k2 q
theorem sLookup_std {t : TypeId} {x k : Value} {ok : Bool} (hx : sLookup E t x k ok h = some (r, h1)) : SD (alookup E t x k ok h) h r h1 := by
  unfold sLookup at hx
  unfold alookup
  cases hm : asMap x with
  | none => simp [hm] at hx
  | some q =>
  simp only [hm] at hx ⊢
  cases ht : E.ty.get t with
  | none => simp [ht] at hx
  | some ti =>
  simp only [ht] at hx ⊢
  cases h7 : Nat.beq ti.kd 7 with
  | false => simp [h7] at hx
  | true =>
  simp only [h7] at hx ⊢
  cases hk : E.ty.get ti.ky with
  | none => simp [hk] at hx
  | some ki =>
  simp only [hk] at hx ⊢
  cases hky : keyable ki.kd k with
  | false => simp [hky] at hx
  | true =>
  simp only [hky] at hx ⊢
  have ret : ∀ {v : Value} {b : Bool} {a a' : AH} {u : Value}, lookRet ok v b a = some (u, a') → a' = a ∧ ∀ c, lookRet ok v b c = some (u, c) := fun {v b a a' u} hl => by
    unfold lookRet at hl ⊢
    cases ok <;> simp at hl ⊢ <;> exact ⟨hl.2.symm, fun _ => hl.1⟩
  cases q with
  | none =>
    simp only at hx ⊢
    have e : h1 = h := by
      unfold lookIn at hx
      have : findK ki.kd k [] 0 = some none := rfl
      rw [this] at hx
      simp only at hx
      cases he : E.ty.get ti.el with
      | none => simp [he] at hx
      | some ei =>
      simp only [he] at hx
      cases hz : ei.zero with
      | none => simp [hz] at hx
      | some z => simp only [hz] at hx; exact (ret hx).1
    exact .same hx (e ▸ (Up.refl h).fwd)
  | some b =>
    simp only at hx ⊢
    cases hmo : mapOf (h.obj b) with
    | none => simp [hmo] at hx
    | some m =>
    simp only [hmo] at hx ⊢
    cases hf : sFindK ki.kd k m.es 0 h with
    | none => rw [hf] at hx; cases hx
    | some p =>
    obtain ⟨o, h2⟩ := p
    rw [hf] at hx
    obtain ⟨u, kf⟩ := sFindK_some hf
    unfold sLook2 at hx
    cases o with
    | some f =>
      simp only at hx
      obtain ⟨e1, e2⟩ := ret hx
      subst e1
      refine ⟨u.fwd, fun qo => ⟨h, ?_, u⟩⟩
      unfold lookIn
      rw [kf qo]
      exact e2 h
    | none =>
      simp only at hx
      cases he : E.ty.get ti.el with
      | none => simp [he] at hx
      | some ei =>
      simp only [he] at hx
      cases hz : ei.zero with
      | none => simp [hz] at hx
      | some z =>
        simp only [hz] at hx
        obtain ⟨e1, e2⟩ := ret hx
        subst e1
        refine ⟨u.fwd, fun qo => ⟨h, ?_, u⟩⟩
        unfold lookIn
        rw [kf qo]
        simp only [he, hz]
        exact e2 h
theorem aopS_std (hC : CFwd C) {o : Op} {t : Tr Value} (hs : h.sym = true) (hx : aopS o E C t h = some (r, h1)) : SD (aop0 o E C t h) h r h1 := by
  have std : aop0 o E C t h = some (r, h1) → SD (aop0 o E C t h) h r h1 := fun k => .same k (aop0_fwd hC k)
  cases o with
  | binOp op ty x y z =>
    have hx : oBinS op ty x y E C t h = some (r, h1) := hx
    unfold oBinS at hx
    cases op with
    | add =>
      rcases sInts_some hx with k | ⟨m, n, k1, k2⟩
      · exact std k
      · exact sAdd_std (E := E) (ty := ty) (x := x) (y := y) k1 k2
    | sub =>
      rcases sInts_some hx with k | ⟨m, n, k1, k2⟩
      · exact std k
      · exact sSub_std (E := E) (ty := ty) (x := x) (y := y) k1 k2
    | _ => exact std hx
  | convert s d x =>
    have hx : oConvS s d x E C t h = some (r, h1) := hx
    unfold oConvS at hx
    cases hy : asSl (aeval t x) with
    | none => simp only [hy] at hx; exact std hx
    | some y =>
      simp only [hy] at hx
      exact sConv_std hs hy hx fun k => aop0_fwd hC (o := .convert s d x) (tm := t) k
  | slice ty x lo hi mx =>
    have hx : oSliceS ty x lo hi mx E C t h = some (r, h1) := hx
    unfold oSliceS at hx
    cases hy : asStr (aeval t x) with
    | none => simp only [hy] at hx; exact std hx
    | some l => simp only [hy] at hx; exact sSlice_std hs hy hx
  | index ty x i =>
    have hx : oIndexS ty x i E C t h = some (r, h1) := hx
    unfold oIndexS at hx
    cases hy : asStr (aeval t x) with
    | none => simp only [hy] at hx; exact std hx
    | some l => simp only [hy] at hx; exact sIndex_std hy hx
  | store ty a v =>
    have hx : oStoreS ty a v E C t h = some (r, h1) := hx
    unfold oStoreS at hx
    cases hl : E.lk with
    | false => simp only [hl] at hx; exact std hx
    | true => simp only [hl] at hx; exact sStore_std hx fun k => aop0_fwd hC (o := .store ty a v) (tm := t) k
  | load ty a =>
    have hx : oLoadS ty a E C t h = some (r, h1) := hx
    unfold oLoadS at hx
    cases hl : E.lk with
    | false => simp only [hl] at hx; exact std hx
    | true => simp only [hl] at hx; exact sLoad_std hx fun k => aop0_fwd hC (o := .load ty a) (tm := t) k
  | indexAddr ty x i =>
    have hx : oIndexAddrS ty x i E C t h = some (r, h1) := hx
    unfold oIndexAddrS at hx
    cases hl : E.lk with
    | false => simp only [hl] at hx; exact std hx
    | true =>
      simp only [hl] at hx
      cases ha : asSl (aeval t x) with
      | none => simp only [ha] at hx; exact std hx
      | some y => simp only [ha] at hx; exact sIndexAddr_std hx
  | lookup ty x k ok =>
    have hx : oLookupS ty x k ok E C t h = some (r, h1) := hx
    unfold oLookupS at hx
    cases hl : E.lk with
    | false => simp only [hl] at hx; exact std hx
    | true => simp only [hl] at hx; exact sLookup_std hx
  | call c =>
    obtain ⟨callee, args, argTypes⟩ := c
    cases callee with
    | builtin b => exact builtinS_std hs hx
    | _ => exact std hx
  | _ => exact std hx
theorem sTold_std (hC : CFwd C) {o : Op} {t : Tr Value} {n : Nat} (hx : sTold1 n (aop0 o E C t h) = some (r, h1)) : SD (aop0 o E C t h) h r h1 := by
  unfold sTold1 at hx
  cases hq : aop0 o E C t h with
  | none => simp [hq] at hx
  | some p =>
  obtain ⟨v, h'⟩ := p
  simp only [hq] at hx
  cases hi : asInt v with
  | none => simp [hi] at hx
  | some i =>
  obtain ⟨k, a⟩ := i
  simp only [hi, Option.some.injEq, Prod.mk.injEq] at hx
  obtain ⟨rfl, rfl⟩ := hx
  have u : Up h' ((h'.tick).owe (pI a n)) := by
    have u1 : Up h' h'.tick := by
      obtain ⟨t, n, log, sym, cnt, orc, ob⟩ := h'
      exact ⟨rfl, rfl, rfl, rfl, id⟩
    exact u1.trans (Up.owe _ _)
  refine ⟨(aop0_fwd hC hq).trans u.fwd, fun q => ⟨h', ?_, u⟩⟩
  have e : a = Int.ofNat n := @of_decide_eq_true _ (Classical.propDecidable _) (ob_owe q).2
  rw [asInt_some hi, e]
theorem aopT_std (hC : CFwd C) {o : Op} {t : Tr Value} (hs : h.sym = true) (hx : aopT o E C t h = some (r, h1)) : SD (aop0 o E C t h) h r h1 := by
  unfold aopT at hx
  cases ht : E.toldI with
  | nil => simp only [ht] at hx; exact aopS_std hC hs hx
  | node a b c =>
    rw [ht] at hx
    simp only at hx
    cases hw : tellable o with
    | false => simp only [hw] at hx; exact aopS_std hC hs hx
    | true =>
      simp only [hw] at hx
      cases hg : (Tr.node a b c).get h.cnt with
      | none => rw [hg] at hx; exact aopS_std hC hs hx
      | some n => rw [hg] at hx; exact sTold_std hC hx
theorem aop_some {o : Op} {t : Tr Value} (hC : CFwd C) (hx : aop o E C t h = some (r, h1)) : SD (aop0 o E C t h) h r h1 := by
  unfold aop symC at hx
  cases hs : h.sym with
  | true => simp only [hs] at hx; exact aopT_std hC hs hx
  | false => simp only [hs] at hx; exact .same hx (aop0_fwd hC hx)
theorem aop_fwd (hC : CFwd C) {o : Op} {tm : Tr Value} (hx : aop o E C tm h = some (r, h1)) : Fwd h h1 := (aop_some hC hx).1
theorem aop_ok {P : Program} {G : Nat} {ρ : Ren} {w : World} {a : Act} {t : Tr Value} {o : Oper} (hE : EnvM P E) (hC : CallOK P G C) (hCF : CFwd C) (hop : ∀ x ∈ o.op.operands.toList, VR ρ (aeval t x) (a.eval x)) (hx : aop o.op E C t h = some (r, h1)) (hob : OB h1) (hg : GL G ρ) (hr : Rel P.cellsOf ρ h w) (hf : Fr ρ h.n h1.n) : Goes P o a ρ h w r h1 := by
  obtain ⟨h2, k1, u⟩ := (aop_some hCF hx).2 hob
  have hf2 : Fr ρ h.n h2.n := by rw [← u.n]; exact hf
  have hG := aop0_ok hE hC hop k1 (u.ob hob) hg hr hf2
  intro next Q hn
  exact hG next Q fun ρ' r' w' hv hst => hn ρ' r' w' hv (Step.trans hf hst (.same hst.rel u.t u.n u.log rfl (Str.refl _)))
end
end Go.Proofs.YtkmbkejmfffafaaGreatDoor.Refl
namespace Go.Proofs.YtkmbkejmfffafaaGreatDoor.Refl
open Go
set_option linter.unusedVariables false
set_option linter.unusedSimpArgs false
inductive DfR (ρ : Ren) : ADef → Deferred → Prop where
  | fn {f : Nat} {args : List Value} {cap dargs : Array Value} (h : LR ρ args (dargs ++ cap).toList) : DfR ρ (.fn f args) ⟨.fn (.func f) cap, dargs⟩
  | builtin {b : Builtin} {ts : List TypeId} {args args' : List Value} {ty : TypeId} {cs : Array Bool} (h : LR ρ args args') : DfR ρ (.builtin b ts args) ⟨.builtin b ts.toArray ty cs, args'.toArray⟩
inductive DsR (ρ : Ren) : List ADef → List Deferred → Prop where
  | nil : DsR ρ [] []
  | cons {x : ADef} {d : Deferred} {l : List ADef} {ds : List Deferred} (h : DfR ρ x d) (hl : DsR ρ l ds) : DsR ρ (x :: l) (d :: ds)
theorem DfR.mono {ρ ρ' : Ren} (he : Ext ρ ρ') {x : ADef} {d : Deferred} (h : DfR ρ x d) : DfR ρ' x d := by
  cases h with
  | fn h => exact .fn (h.mono he)
  | builtin h => exact .builtin (h.mono he)
theorem DsR.mono {ρ ρ' : Ren} (he : Ext ρ ρ') {l : List ADef} {ds : List Deferred} (h : DsR ρ l ds) : DsR ρ' l ds := by
  induction h with
  | nil => exact .nil
  | cons h _ ih => exact .cons (h.mono he) ih
theorem forceT_eq {α β : Type} (t : Tr α) (k : Tr α → β) : forceT t β k = k t := by cases t <;> rfl
theorem forceG_eq {α : Type} (l : List Nat) (k : List Nat → α) : forceG l α k = k l := by cases l <;> rfl
theorem forceH_eq {α : Type} (h : AH) (k : AH → α) : forceH h α k = k h := by
  obtain ⟨t, n, log, sym, cnt, orc, ob⟩ := h
  show forceT t α (fun t => forceN n fun n => forceG log α fun log => k ⟨t, n, log, sym, cnt, orc, ob⟩) = _
  rw [forceT_eq, forceN_eq, forceG_eq]
theorem forceAll_eq {α : Type} (lk : Bool) (v : Value) (h : AH) (k : Value → AH → α) : forceAll lk v h α k = k v h := by
  unfold forceAll
  cases h.sym with
  | true => cases lk with
    | false => show headV v α (fun v => forceH h α fun h => k v h) = _; rw [headV_eq, forceH_eq]
    | true => show headL v α (fun v => forceH h α fun h => k v h) = _; rw [headL_eq, forceH_eq]
  | false => show forceV v α (fun v => forceH h α fun h => k v h) = _; rw [forceV_eq, forceH_eq]
section
variable {P : Program} {E : Env} {C : CallF} {G N : Nat} {h h1 : AH} {ρ : Ren} {w : World}
theorem adefers_cons {x : ADef} {l : List ADef} (hx : adefers E C (x :: l) h = some h1) : ∃ r h2, adef1 E C x h = some (r, h2) ∧ adefers E C l h2 = some h1 := by
  have hx' : (match adef1 E C x h with
    | some r => match r with
      | (_, h) => forceH h (Option AH) (adefers E C l)
    | none => none) = some h1 := hx
  cases ha : adef1 E C x h with
  | none => simp [ha] at hx'
  | some p =>
    obtain ⟨r, h2⟩ := p
    simp only [ha] at hx'
    rw [forceH_eq] at hx'
    exact ⟨r, h2, rfl, hx'⟩
theorem adef1_fwd (hC : CFwd C) {x : ADef} {r : Value} (hx : adef1 E C x h = some (r, h1)) : Fwd h h1 := by
  cases x with
  | fn f args =>
    have hx : (match E.ext.get f with | some _ => none | none => C f args h) = some (r, h1) := hx
    cases he : E.ext.get f with
    | some g => rw [he] at hx; cases hx
    | none => rw [he] at hx; exact hC _ _ _ _ _ hx
  | builtin b ts args => exact builtinF_fwd hx
theorem adefers_fwd (hC : CFwd C) : ∀ (l : List ADef) (h : AH), adefers E C l h = some h1 → Fwd h h1
  | [], h, hx => by have : some h = some h1 := hx; cases this; exact .refl _
  | x :: l, h, hx => by
    obtain ⟨r, h2, k1, k2⟩ := adefers_cons hx
    exact (adef1_fwd hC k1).trans (adefers_fwd hC l h2 k2)
theorem step_defer_value {fr : Frame} {cs : List Frame} {w w' : World} {d : Deferred} {ds : List Deferred} {v : Value} (hm : fr.mode = .returning) (hd : fr.defers = d :: ds) (hnc : ∀ b, d.target ≠ .collected b)
    (hi : (invoke d.target d.args).run P w = .ok (.value v) w') : step P (lone fr cs w) = .next (lone { fr with defers := ds } cs w') := by
  obtain ⟨t, a⟩ := d
  refine step_lone_go ?_
  cases t with
  | collected b => exact absurd rfl (hnc b)
  | _ => simp only at hi; simp [stepG, unwind, callDeferred, hm, hd, hi]
theorem step_defer_back {fr : Frame} {cs : List Frame} {w w' : World} {d : Deferred} {ds : List Deferred} {fv : Fn} {cap : Array Value} {f : FuncId}
    {args : Array Value} (hm : fr.mode ≠ .run) (hd : fr.defers = d :: ds) (ht : d.target = .fn fv cap)
    (hi : (invoke d.target d.args).run P w = .ok (.enter f args) w') :
    step P (lone fr cs w) = .next (lone (Frame.enter P f args .deferred) ({ fr with defers := ds } :: cs) w') := by
  obtain ⟨t, a⟩ := d
  simp only at ht hi
  subst ht
  refine step_lone_go ?_
  cases hmode : fr.mode with
  | run => exact absurd hmode hm
  | returning => simp [stepG, unwind, callDeferred, hmode, hd, hi]
  | panicking chain => simp [stepG, unwind, callDeferred, hmode, hd, hi]
theorem defer_ok (hE : EnvM P E) (hC : DefOK P G E C) {x : ADef} {d : Deferred} {r : Value} (hx : adef1 E C x h = some (r, h1)) (hob : OB h1) (hg : GL G ρ) (hr : Rel P.cellsOf ρ h w) (hf : Fr ρ h.n h1.n) (hd : DfR ρ x d) :
    ∃ (R : World → Prop), (∀ w', R w' → ∃ ρ', Step P.cellsOf ρ h w ρ' h1 w') ∧ ∀ (fr : Frame) (cs : List Frame) (ds : List Deferred), fr.mode = .returning → fr.defers = d :: ds →
      ∃ w', R w' ∧ Steps P (lone fr cs w) (lone { fr with defers := ds } cs w') := by
  refine ⟨fun w' => ∃ ρ', Step P.cellsOf ρ h w ρ' h1 w', fun w' h => h, fun fr cs ds hm hds => ?_⟩
  obtain ⟨ffn, ftmps, ftodo, fdefers, fmode, fkind, fround⟩ := fr
  simp only at hm hds
  subst hm
  subst hds
  cases hd with
  | @builtin b ts args args' ty cbs hl =>
    obtain ⟨ρ', r', w', k1, k2, k3⟩ := (builtinF_ok (cs := cbs) (ty := ty) hE.toEnvT (b := b) (ts := ts) (args := args) hx hob hr hf hl).2
    refine ⟨w', ⟨ρ', k3⟩, .one (step_defer_value rfl rfl (by simp) (v := r') ?_)⟩
    simpa [invoke] using k1
  | @fn f args cap dargs hl =>
    have hx : (match E.ext.get f with | some _ => none | none => C f args h) = some (r, h1) := hx
    cases hee : E.ext.get f with
    | some g => rw [hee] at hx; cases hx
    | none =>
    rw [hee] at hx
    have ha := hC f args h r h1 hee hx hob ρ w _ hg hr hf hl
    have hinv : (invoke (.fn (.func f) cap) dargs).run P w = (callFunc f (dargs ++ cap).toList.toArray).run P w := by
      show (callFunc f (dargs ++ cap)).run P w = _
      rw [Array.toArray_toList]
    unfold AnsD at ha
    cases hc : (callFunc f (dargs ++ cap).toList.toArray).run P w with
    | halt q w' => rw [hc] at ha; exact ha.elim
    | ok q w' =>
      rw [hc] at ha hinv
      cases q with
      | value v =>
        obtain ⟨ρ', k1, k2⟩ := ha
        exact ⟨w', ⟨ρ', k2⟩, .one (step_defer_value rfl rfl (by simp) (v := v) hinv)⟩
      | enter f2 a2 =>
        have hcd := ha
        have h1 := step_defer_back (d := ⟨.fn (.func f) cap, dargs⟩) (ds := ds) (fr := ⟨ffn, ftmps, ftodo, ⟨.fn (.func f) cap, dargs⟩ :: ds, .returning, fkind, fround⟩) (cs := cs) (by simp) rfl rfl hinv
        obtain ⟨e, u', w'', frX, hR, hsteps, hkX, hgo⟩ := hcd ⟨ffn, ftmps, ftodo, ds, .returning, fkind, fround⟩ cs rfl
        obtain ⟨rfl, hR⟩ := hR
        cases e with
        | returned v =>
          obtain ⟨ρ', k1, k2⟩ := hR
          have h2 := step_going_returned (c := ⟨ffn, ftmps, ftodo, ds, .returning, fkind, fround⟩) (cs := cs) hkX hgo
          exact ⟨w'', ⟨ρ', k2⟩, .head h1 (Steps.trans hsteps (.one h2))⟩
        | panicked c => exact hR.elim
        | outgrown => exact hR.elim
      | _ => exact ha.elim
theorem adefers_ok (hE : EnvM P E) (hC : DefOK P G E C) (hCF : CFwd C) : ∀ (l : List ADef) (ds : List Deferred) (h : AH) (ρ : Ren) (w : World), adefers E C l h = some h1 → OB h1 → GL G ρ → Rel P.cellsOf ρ h w → Fr ρ h.n h1.n → DsR ρ l ds →
    ∀ (fr : Frame) (cs : List Frame), fr.mode = .returning → fr.defers = ds → ∃ ρ' w', Step P.cellsOf ρ h w ρ' h1 w' ∧ Steps P (lone fr cs w) (lone { fr with defers := [] } cs w') := by
  intro l
  induction l with
  | nil =>
    intro ds h ρ w hx hob hg hr hf hd fr cs hm hds
    have hx : some h = some h1 := hx
    cases hx
    cases hd
    refine ⟨ρ, w, .refl hr, ?_⟩
    have : ({ fr with defers := [] } : Frame) = fr := by rw [← hds]
    rw [this]; exact Steps.refl P _
  | cons x l ih =>
    intro ds h ρ w hx hob hg hr hf hd fr cs hm hds
    obtain ⟨r, h2, k1, k2⟩ := adefers_cons hx
    have hf2 := adefers_fwd hCF l h2 k2
    have hf1 := adef1_fwd hCF k1
    cases hd with
    | @cons _ d _ ds h hl =>
      obtain ⟨R, hR, hrun⟩ := defer_ok hE hC k1 (hf2.ob hob) hg hr (hf.sub (Nat.le_refl _) hf2.n) h
      obtain ⟨w', hw', hs⟩ := hrun fr cs ds hm hds
      obtain ⟨ρ', hst⟩ := hR w' hw'
      obtain ⟨ρ2, w2, hst2, hs2⟩ := ih ds h2 ρ' w' k2 hob (hg.mono hst.ext) hst.rel (Fr.next hf hst) (hl.mono hst.ext) { fr with defers := ds } cs hm rfl
      exact ⟨ρ2, w2, Step.trans hf hst hst2, Steps.trans hs hs2⟩
theorem body_ok {f : FuncId} {fn : Func} {c : Code} {args : Array Value} {R : Value → World → Prop} {Q : Exit → Act → World → Prop} (hf : P.funcs[f]? = some fn) (hb : fn.body = some c)
    (h : c.wp P Q { tmps := args ++ Array.replicate (fn.ntmps - args.size) undef, defers := [] } w)
    (hQ : ∀ e a w, Q e a w → (e = .normal ∨ e = .ret) ∧ ∀ (fr : Frame) (cs : List Frame), fr.mode = .returning → fr.defers = a.defers → ∃ v w', Steps P (lone fr cs w) (lone { fr with defers := [] } cs w') ∧ (results fn a.tmps).run P w' = .ok v w' ∧ R v w') :
    Calls P f args w (Back R) ∧ CallsD P f args .returning w (fun e u w'' => u = .returning ∧ Back R e w'') := by
  constructor
  · intro cs
    let b : Frame := { (default : Frame) with fn := f, kind := .normal }
    have henter : Frame.enter P f args .normal = b.at { tmps := args ++ Array.replicate (fn.ntmps - args.size) undef, defers := [] } [.code c] := by
      simp [Frame.enter, Frame.at, hf, hb, b]
    obtain ⟨e, a', w', hq, harr⟩ := h b [] cs
    rw [← henter] at harr
    obtain ⟨he, hfin⟩ := hQ e a' w' hq
    rcases he with rfl | rfl
    · obtain ⟨v, w'', hs, hr, hv⟩ := hfin { b.at a' [] with mode := .returning } cs rfl rfl
      exact ⟨.returned v, w'', _, hv, Steps.trans harr (Steps.trans (.one step_end) hs), rfl, rfl, rfl, rfl, fn, hf, hr⟩
    · obtain ⟨todo, hs₀⟩ := harr
      obtain ⟨v, w'', hs, hr, hv⟩ := hfin { b.at a' todo with mode := .returning } cs rfl rfl
      exact ⟨.returned v, w'', _, hv, Steps.trans hs₀ hs, rfl, rfl, rfl, rfl, fn, hf, hr⟩
  · intro c₀ cs hu
    let b : Frame := { (default : Frame) with fn := f, kind := .deferred }
    have henter : Frame.enter P f args .deferred = b.at { tmps := args ++ Array.replicate (fn.ntmps - args.size) undef, defers := [] } [.code c] := by
      simp [Frame.enter, Frame.at, hf, hb, b]
    have hc : ({ c₀ with mode := .returning } : Frame) = c₀ := by rw [← hu]
    obtain ⟨e, a', w', hq, harr⟩ := h b [] (c₀ :: cs)
    rw [← henter] at harr
    obtain ⟨he, hfin⟩ := hQ e a' w' hq
    rcases he with rfl | rfl
    · obtain ⟨v, w'', hs, hr, hv⟩ := hfin { b.at a' [] with mode := .returning } (c₀ :: cs) rfl rfl
      exact ⟨.returned v, .returning, w'', _, ⟨rfl, hv⟩, (by rw [hc]; exact Steps.trans harr (Steps.trans (.one step_end) hs)), rfl, rfl, rfl, fn, hf, hr⟩
    · obtain ⟨todo, hs₀⟩ := harr
      obtain ⟨v, w'', hs, hr, hv⟩ := hfin { b.at a' todo with mode := .returning } (c₀ :: cs) rfl rfl
      exact ⟨.returned v, .returning, w'', _, ⟨rfl, hv⟩, (by rw [hc]; exact Steps.trans hs₀ hs), rfl, rfl, rfl, fn, hf, hr⟩
end
end Go.Proofs.YtkmbkejmfffafaaGreatDoor.Refl
namespace Go.Proofs.YtkmbkejmfffafaaGreatDoor.Refl
open Go
set_option linter.unusedVariables false
set_option linter.unusedSimpArgs false
section
variable {P : Program} {E : Env} {C : CallF} {G N : Nat} {t : Tr Value} {a : Act} {h h1 h2 : AH} {ρ : Ren} {w : World} {r : Value} {o : Oper} {d : List ADef} {s : St}
def resOf (tmps : Array Value) : ResultVar → Sem Value
  | .tmp i => pure (tmps.getD i undef)
  | .cell b ty => do loadVar ty (← asAddr (tmps.getD b undef))
theorem results_eq (fn : Func) (tmps : Array Value) : results fn tmps = (do
    let vs ← fn.results.mapM (resOf tmps)
    pure (if h : vs.size = 1 then vs[0] else .tuple vs)) := by
  unfold results
  congr 2
theorem aress_ok (hE : EnvT P E) (hr : Rel P.cellsOf ρ h w) (ht : TR N ρ t a.tmps) : ∀ (l : List ResultVar) (vs : List Value), aress E t h l = some vs →
    ∃ vs', (l.mapM (resOf a.tmps)).run P w = .ok vs' w ∧ LR ρ vs vs' := by
  intro l
  induction l with
  | nil => intro vs hx; have hx : some [] = some vs := hx; cases hx; exact ⟨[], by simp, .nil⟩
  | cons x l ih =>
    intro vs hx
    have hx : ares1 E t h x (aress E t h l) = some vs := hx
    cases x with
    | tmp i =>
      simp only [ares1, consO] at hx
      cases hl : aress E t h l with
      | none => simp [hl] at hx
      | some l' =>
        simp [hl] at hx
        subst hx
        obtain ⟨vs', k1, k2⟩ := ih l' hl
        exact ⟨_ :: vs', by simp [List.mapM_cons, resOf, k1], .cons (ht.val i) k2⟩
    | cell b ty =>
      simp only [ares1] at hx
      cases hld : aload E ty (aeval t (.tmp b)) h with
      | none => simp [hld] at hx
      | some q =>
        obtain ⟨v, h2⟩ := q
        simp only [hld, consO] at hx
        cases hl : aress E t h l with
        | none => simp [hl] at hx
        | some l' =>
          simp [hl] at hx
          subst hx
          obtain ⟨vs', k1, k2⟩ := ih l' hl
          obtain ⟨_, _, k3, k4⟩ := aload_ok hE hld hr (ht.val b)
          obtain ⟨ad, hv⟩ := k4
          obtain ⟨r', k5, k6⟩ := k3 ad hv
          have hv' : a.tmps.getD b undef = .pointer (some ad) := hv
          exact ⟨r' :: vs', by simp only [List.mapM_cons, Sem.run_bind, resOf, hv']; simp [asAddr, k5, k1], .cons k6 k2⟩
theorem aresult_ok (hE : EnvT P E) {fn : Func} (hx : aresult E fn t h = some r) (hr : Rel P.cellsOf ρ h w) (ht : TR N ρ t a.tmps) : ∃ r', (results fn a.tmps).run P w = .ok r' w ∧ VR ρ r r' := by
  unfold aresult at hx
  cases hl : aress E t h fn.results.toList with
  | none => simp [hl] at hx
  | some l =>
    simp [hl] at hx
    obtain ⟨vs', k1, k2⟩ := aress_ok hE hr ht _ _ hl
    have hrun : (results fn a.tmps).run P w = .ok (if hs : vs'.toArray.size = 1 then vs'.toArray[0] else .tuple vs'.toArray) w := by
      rw [results_eq, Array.mapM_eq_mapM_toList]
      simp [k1]
    refine ⟨_, hrun, ?_⟩
    rw [← hx]
    clear hl hx hrun k1
    cases k2 with
    | nil => exact .tuple .nil
    | cons h1 hl =>
      cases hl with
      | nil => exact h1
      | cons h2 hl =>
        rw [dif_neg (by simp)]
        exact .tuple (.cons h1 (.cons h2 hl))
theorem awanted_ok {ops : Array Oper} {b : Bool} (hx : awanted ops.toList o t h = (b, h2)) (ht : ∀ g want p i, o.guard = some (g, want) → ops[g]? = some p → p.dst = some i → VR ρ (unset (t.get i)) (a.tmps.getD i undef)) :
    h2.t = h.t ∧ h2.n = h.n ∧ h2.log = h.log ∧ (OB h2 → OB h ∧ Region.wanted o (yielded ops a.tmps) = b) := by
  unfold awanted at hx
  unfold Region.wanted
  cases hg : o.guard with
  | none =>
    simp only [hg] at hx
    cases hx
    exact ⟨rfl, rfl, rfl, fun q => ⟨q, rfl⟩⟩
  | some g =>
    obtain ⟨j, want⟩ := g
    simp only [hg, nth_eq] at hx
    have hj : ops.toList[j]? = ops[j]? := Array.getElem?_toList
    rw [hj] at hx
    simp only [yielded]
    cases ho : ops[j]? with
    | none => rw [ho] at hx; simp only at hx; cases hx; exact ⟨rfl, rfl, rfl, fun q => ⟨q, by simp⟩⟩
    | some p =>
      rw [ho] at hx
      simp only [wantOf] at hx
      cases hd : p.dst with
      | none => simp only [hd] at hx; cases hx; exact ⟨rfl, rfl, rfl, fun q => ⟨q, by simp [hd]⟩⟩
      | some i =>
        simp only [hd, wantBy] at hx
        have hv := ht j want p i hg ho hd
        rw [Array.getD_eq_getD_getElem?] at hv
        cases hti : t.get i with
        | none =>
          simp only [hti] at hx; cases hx
          refine ⟨rfl, rfl, rfl, fun q => ⟨q, ?_⟩⟩
          rw [hti] at hv
          have hv : VR ρ (.tuple #[]) (a.tmps[i]?.getD undef) := hv
          cases hai : a.tmps[i]? with
          | none => simp [hd, hai]
          | some v =>
            rw [hai] at hv
            simp only [Option.getD_some] at hv
            cases hv
            simp [hd, hai]
        | some v =>
          simp only [hti] at hx
          rw [hti] at hv
          have hv : VR ρ v (a.tmps[i]?.getD undef) := hv
          cases hb : asBool v with
          | none =>
            simp only [hb] at hx; cases hx
            refine ⟨rfl, rfl, rfl, fun q => ⟨q, ?_⟩⟩
            cases hai : a.tmps[i]? with
            | none => simp [hd, hai]
            | some v' =>
              rw [hai] at hv
              simp only [Option.getD_some] at hv
              cases hv <;> first | (simp [asBool] at hb; done) | simp [hd, hai]
          | some c =>
            simp only [hb] at hx
            obtain ⟨k1, k2⟩ := asBool_VR hb hv
            obtain ⟨g1, g2, g3, g4⟩ := dec_some hx
            refine ⟨g1, g2, g3, fun q => ⟨(g4 q).1, ?_⟩⟩
            rw [(g4 q).2, beqB_eq]
            cases hai : a.tmps[i]? with
            | none => rw [hai] at k2; simp [undef] at k2
            | some v' =>
              rw [hai] at k2
              simp only [Option.getD_some] at k2
              subst k2
              cases c <;> cases want <;> simp [hd, hai]
theorem awanted_fwd {ops : List Oper} {b : Bool} (hx : awanted ops o t h = (b, h2)) : Fwd h h2 := by
  unfold awanted wantOf wantBy at hx
  repeat' split at hx
  all_goals first | (cases hx; exact .refl _) | exact .dec hx
theorem setDst_ok {v v' : Value} (hd : ∀ i, o.dst = some i → i < N) (ht : TR N ρ t a.tmps) (hv : VR ρ v v') : TR N ρ (setDst t o.dst v) (a.put o.dst v').tmps := by
  cases hdst : o.dst with
  | none => simpa [setDst, Act.put] using ht
  | some i => simpa [setDst, Act.put] using ht.set (hd i hdst) hv
theorem put_defers (a : Act) (dst : Option Tmp) (v : Value) : (a.put dst v).defers = a.defers := by cases dst <;> rfl
theorem adefer_ok {c : Call} {df : ADef} (hop : ∀ x ∈ c.operands.toList, okOpd G x = true) (hx : adefer c t = some df) (hg : GL G ρ) (ht : TR N ρ t a.tmps) (ty : TypeId) (w : World) :
    ∃ dd, (resolve a.eval c ty).run P w = .ok dd w ∧ DfR ρ df dd := by
  obtain ⟨callee, args, argTypes⟩ := c
  have hargs : LR ρ (vals t args.toList) (args.toList.map a.eval) := vals_ok _ fun x hm => aeval_ok hg ht (hop x (by
    have hm2 : x ∈ args := by simpa using hm
    cases callee <;> simp [Call.operands, hm2]))
  have e1 : args.map a.eval = (args.toList.map a.eval).toArray := by apply Array.ext'; simp
  cases callee with
  | builtin b =>
    have hx : some (ADef.builtin b argTypes.toList (vals t args.toList)) = some df := hx
    cases hx
    refine ⟨_, rfl, ?_⟩
    show DfR ρ _ ⟨.builtin b argTypes ty _, args.map a.eval⟩
    rw [e1]
    exact .builtin (ts := argTypes.toList) hargs
  | value f =>
    have hx : (match asFunc (aeval t f) with
      | some q => some (ADef.fn q.f (app q.first (app (vals t args.toList) q.captured)))
      | none => none) = some df := hx
    cases hfn : asFunc (aeval t f) with
    | none => simp [hfn] at hx
    | some q =>
      simp [hfn] at hx
      subst hx
      have hfv : VR ρ (aeval t f) (a.eval f) := aeval_ok hg ht (hop f (by simp [Call.operands]))
      obtain ⟨a', b', k1, k2, k3⟩ := asFunc_VR hfn hfv
      refine ⟨⟨.fn (.func q.f) b', a' ++ args.map a.eval⟩, by simp [resolve, k1, Deferred.ofValue], .fn ?_⟩
      rw [app_eq, app_eq]
      have : (a' ++ args.map a.eval ++ b').toList = a'.toList ++ (args.toList.map a.eval ++ b'.toList) := by simp
      rw [this]
      exact k2.append (hargs.append k3)
  | invoke q name =>
    have hx : (none : Option ADef) = some df := hx
    cases hx
end
end Go.Proofs.YtkmbkejmfffafaaGreatDoor.Refl
namespace Go.Proofs.YtkmbkejmfffafaaGreatDoor.Refl
open Go
set_option linter.unusedVariables false
set_option linter.unusedSimpArgs false
def Post (P : Program) (N : Nat) (s : St) (ρ : Ren) (h : AH) (w : World) (a : Act) (w' : World) : Prop :=
  ∃ ρ', TR N ρ' s.t a.tmps ∧ DsR ρ' s.d a.defers ∧ Step P.cellsOf ρ h w ρ' s.h w'
section
variable {P : Program} {E : Env} {C : CallF} {G N : Nat} {t : Tr Value} {a : Act} {h h1 h2 : AH} {ρ ρ' : Ren} {w w' : World} {r : Value} {o : Oper} {d : List ADef} {s : St}
theorem Post.of_step {a' : Act} (hf : Fr ρ h.n s.h.n) (hs : Step P.cellsOf ρ h w ρ' h1 w') {w'' : World} (hp : Post P N s ρ' h1 w' a' w'') : Post P N s ρ h w a' w'' := by
  obtain ⟨ρ2, k1, k2, k3⟩ := hp
  exact ⟨ρ2, k1, k2, Step.trans hf hs k3⟩
theorem aops1_some {ih : Tr Value → List ADef → AH → Res} (hx : aops1 E C o ih t d h = some s) :
    (∃ c df, o.op = .defer c ∧ adefer c t = some df ∧ ih (setDst t o.dst (.tuple ⟨[]⟩)) (df :: d) h = some s) ∨
    (∃ r h1, aop o.op E C t h = some (r, h1) ∧ ih (setDst t o.dst r) d h1 = some s) := by
  unfold aops1 at hx
  cases hd : deferOf o.op with
  | some c =>
    simp only [hd] at hx
    have hc : o.op = .defer c := by
      cases ho : o.op <;> rw [ho] at hd <;> simp [deferOf] at hd
      rw [hd]
    cases hdf : adefer c t with
    | none => simp [hdf] at hx
    | some df => simp only [hdf] at hx; exact .inl ⟨c, df, hc, hdf, hx⟩
  | none =>
    simp only [hd] at hx
    cases ha : aop o.op E C t h with
    | none => simp [ha] at hx
    | some q =>
      obtain ⟨r, h1⟩ := q
      simp only [ha] at hx
      rw [forceAll_eq, forceT_eq] at hx
      exact .inr ⟨r, h1, rfl, hx⟩
theorem aops_cons {ops l : List Oper} (hx : aops E C ops (o :: l) t d h = some s) :
    ∃ b h2, awanted ops o t h = (b, h2) ∧ ((b = true ∧ aops1 E C o (aops E C ops l) t d h2 = some s) ∨ (b = false ∧ aops E C ops l (setDst t o.dst (.tuple ⟨[]⟩)) d h2 = some s)) := by
  have hx : aops2 E C o (aops E C ops l) t d (awanted ops o t h) = some s := hx
  cases hw : awanted ops o t h with
  | mk b h2 =>
    rw [hw] at hx
    refine ⟨b, h2, rfl, ?_⟩
    cases b with
    | true => exact .inl ⟨rfl, hx⟩
    | false =>
      have hx : forceT (setDst t o.dst (.tuple ⟨[]⟩)) Res (fun t => aops E C ops l t d h2) = some s := hx
      rw [forceT_eq] at hx
      exact .inr ⟨rfl, hx⟩
theorem aops_fwd (hC : CFwd C) {ops : List Oper} : ∀ (l : List Oper) (t : Tr Value) (d : List ADef) (h : AH), aops E C ops l t d h = some s → Fwd h s.h ∧ s.e = .normal
  | [], t, d, h, hx => by have hx : some (St.mk .normal t d h) = some s := hx; cases hx; exact ⟨.refl _, rfl⟩
  | o :: l, t, d, h, hx => by
    obtain ⟨b, h2, k1, k2⟩ := aops_cons hx
    have hw := awanted_fwd k1
    rcases k2 with ⟨_, k2⟩ | ⟨_, k2⟩
    · rcases aops1_some k2 with ⟨c, df, _, _, k3⟩ | ⟨r, h1, k3, k4⟩
      · obtain ⟨q1, q2⟩ := aops_fwd hC l _ _ _ k3; exact ⟨hw.trans q1, q2⟩
      · obtain ⟨q1, q2⟩ := aops_fwd hC l _ _ _ k4; exact ⟨hw.trans ((aop_fwd hC k3).trans q1), q2⟩
    · obtain ⟨q1, q2⟩ := aops_fwd hC l _ _ _ k2; exact ⟨hw.trans q1, q2⟩
theorem aops_ok (hE : EnvM P E) (hC : CallOK P G C) (hCF : CFwd C) {ops : Array Oper} (hok : ∀ o ∈ ops.toList, okOper G N o = true) {Q : Exit → Act → World → Prop} :
    ∀ (l : List Oper) (k : Nat), ops.toList.drop k = l → ∀ (t : Tr Value) (d : List ADef) (h : AH), aops E C ops.toList l t d h = some s → OB s.h → ∀ (ρ : Ren) (w : World) (a : Act), GL G ρ → Rel P.cellsOf ρ h w → Fr ρ h.n s.h.n → TR N ρ t a.tmps → DsR ρ d a.defers →
      (∀ a' w', Post P N s ρ h w a' w' → Q .normal a' w') → wpOps P ops Q (List.range' k l.length) a w := by
  intro l
  induction l with
  | nil =>
    intro k hk t d h hx hob ρ w a hg hr hf ht hd hQ
    have hx : some (St.mk .normal t d h) = some s := hx
    cases hx
    exact hQ a w ⟨ρ, ht, hd, .refl hr⟩
  | cons o l ih =>
    intro k hk t d h hx hob ρ w a hg hr hf ht hd hQ
    have hko : ops[k]? = some o := by
      rw [← Array.getElem?_toList]
      have := congrArg (fun q => q[0]?) hk
      simpa using this
    have hom : o ∈ ops.toList := List.mem_of_getElem? (by rw [Array.getElem?_toList]; exact hko)
    have hkl : ops.toList.drop (k + 1) = l := by
      have := congrArg (List.drop 1) hk
      simpa [List.drop_drop] using this
    have hoo := hok o hom
    obtain ⟨hdst, hops⟩ := okOper_some hoo
    obtain ⟨b, h2, k1, k2⟩ := aops_cons hx
    obtain ⟨g1, g2, g3, g4⟩ := awanted_ok (ops := ops) k1 fun _ _ _ i _ _ _ => ht.val i
    have hr2 : Rel P.cellsOf ρ h2 w := hr.congr g1 g2 rfl
    have hf2 : Fr ρ h2.n s.h.n := by rw [g2]; exact hf
    have hpre : Step P.cellsOf ρ h w ρ h2 w := .same hr g1 g2 g3 rfl (Str.refl _)
    rw [List.length_cons, List.range'_succ]
    simp only [wpOps, hko]
    rcases k2 with ⟨rfl, k2⟩ | ⟨rfl, k2⟩
    · rcases aops1_some k2 with ⟨c, df, hc, hdf, k3⟩ | ⟨r, h1, k3, k4⟩
      · obtain ⟨_, g5⟩ := g4 ((aops_fwd hCF l _ _ _ k3).1.ob hob)
        rw [if_pos g5]
        left
        obtain ⟨dd, hres, hdr⟩ := adefer_ok (P := P) (fun x hx => hops x (by rw [hc]; exact hx)) hdf hg ht o.type w
        unfold Oper.wp
        have he : (execOp a.eval o).run P w = .ok (.defer dd) w := by
          obtain ⟨dst, op, type, pos, after, guard⟩ := o
          simp only at hc hres
          subst hc
          simp [execOp, hres]
        rw [he, Oper.upon_defer]
        refine ih (k + 1) hkl _ _ h2 k3 hob ρ w _ hg hr2 hf2 ?_ ?_ fun a' w' hp => hQ a' w' (hp.of_step hf hpre)
        · exact setDst_ok (a := { a with defers := dd :: a.defers }) hdst ht (.tuple .nil)
        · rw [put_defers]; exact .cons hdr hd
      · have hrest := (aops_fwd hCF l _ _ _ k4).1
        have hthis := aop_fwd hCF k3
        obtain ⟨_, g5⟩ := g4 (hthis.ob (hrest.ob hob))
        rw [if_pos g5]
        left
        refine aop_ok hE hC hCF (fun x hx => aeval_ok hg ht (hops x hx)) k3 (hrest.ob hob) hg hr2 (hf2.sub (Nat.le_refl _) hrest.n) _ _ fun ρ' r' w' hv hst => ?_
        refine ih (k + 1) hkl _ _ h1 k4 hob ρ' w' _ (hg.mono hst.ext) hst.rel (Fr.next hf2 hst) ?_ ?_ fun a' w'' hp => hQ a' w'' ((hp.of_step hf2 hst).of_step hf hpre)
        · exact setDst_ok hdst (ht.mono hst.ext) hv
        · rw [put_defers]; exact hd.mono hst.ext
    · obtain ⟨_, g5⟩ := g4 ((aops_fwd hCF l _ _ _ k2).1.ob hob)
      rw [if_neg (by rw [g5]; simp)]
      refine ih (k + 1) hkl _ _ h2 k2 hob ρ w _ hg hr2 hf2 ?_ ?_ fun a' w' hp => hQ a' w' (hp.of_step hf hpre)
      · exact setDst_ok hdst ht (.tuple .nil)
      · rw [put_defers]; exact hd
end
end Go.Proofs.YtkmbkejmfffafaaGreatDoor.Refl
namespace Go.Proofs.YtkmbkejmfffafaaGreatDoor.Refl
open Go
set_option linter.unusedVariables false
set_option linter.unusedSimpArgs false
theorem upTo_mem : ∀ (n : Nat) (l : List Nat) (i : Nat), i ∈ upTo n l ↔ i < n ∨ i ∈ l
  | 0, l, i => by show i ∈ l ↔ _; simp
  | n + 1, l, i => by
    show i ∈ upTo n (n :: l) ↔ _
    rw [upTo_mem n, List.mem_cons]
    by_cases hl : i ∈ l
    · simp [hl]
    · simp [hl]; omega
theorem mem_addAll : ∀ (l log : List Nat) (c : Nat), c ∈ addAll l log ↔ c ∈ l ∨ c ∈ log
  | [], log, c => by show c ∈ log ↔ _; simp
  | b :: l, log, c => by
    show c ∈ addAll l (addLog b log) ↔ _
    rw [mem_addAll l, mem_addLog, List.mem_cons]
    constructor <;> rintro (h | h) <;> first | exact .inl (.inr h) | (rcases h with h | h <;> first | exact .inl (.inl h) | exact .inr h | exact .inl (.inr h) | exact .inr (.inl h) | exact .inl h | exact .inr (.inr h)) | exact .inr (.inr h)
theorem mask_obj : ∀ (m : List Nat) (t : Tr AObj) (b : Nat), objIn (mask m t) b = if b ∈ m then .dead else objIn t b
  | [], t, b => by show objIn t b = _; simp
  | x :: m, t, b => by
    show objIn (mask m (t.set x .dead)) b = _
    rw [mask_obj m, objIn_set]
    by_cases h1 : b ∈ m <;> by_cases h2 : b = x <;> simp [h1, h2]
theorem unmask_obj (old : AH) : ∀ (m : List Nat) (t : Tr AObj) (b : Nat), objIn (unmask m old t) b = if b ∈ m then old.obj b else objIn t b
  | [], t, b => by show objIn t b = _; simp
  | x :: m, t, b => by
    show objIn (unmask m old (t.set x (old.obj x))) b = _
    rw [unmask_obj old m, objIn_set]
    by_cases h1 : b ∈ m
    · simp [h1]
    · by_cases h2 : b = x
      · subst h2; simp [h1]
      · simp [h1, h2]
noncomputable def maskH (m : List Nat) (h : AH) : AH := ⟨mask m h.t, h.n, [], h.sym, h.cnt, h.orc, h.ob⟩
theorem maskH_obj (m : List Nat) (h : AH) (b : Nat) : (maskH m h).obj b = if b ∈ m then .dead else h.obj b := by
  rw [AH.obj_def, AH.obj_def]
  show (if b < h.n then objIn (mask m h.t) b else .dead) = _
  rw [mask_obj]
  by_cases h1 : b < h.n <;> by_cases h2 : b ∈ m <;> simp [h1, h2]
section order
variable {ops : Array Oper}
def Back2 (ops : Array Oper) : Prop := ∀ i o, ops[i]? = some o → ∀ e ∈ o.after.toList, Region.binds .any e = true → e.on < i
def Down (ops : Array Oper) (L : Nat → Prop) : Prop := ∀ i o, L i → ops[i]? = some o → ∀ e ∈ o.after.toList, Region.binds .any e = true → L e.on
theorem okRank_back (h : okRank .any ops.toList (upTo (len ops.toList) []) = true) : Back2 ops := by
  intro i o ho e he hb
  have hup : ∀ n k, nth (upTo n []) k = if k < n then some k else none := by
    have gen : ∀ n l k, nth (upTo n l) k = if k < n then some k else nth l (k - n) := by
      intro n
      induction n with
      | zero => intro l k; show nth l k = _; simp
      | succ n ih =>
        intro l k
        show nth (upTo n (n :: l)) k = _
        rw [ih, nth_eq, nth_eq]
        by_cases h1 : k < n
        · rw [if_pos h1, if_pos (by omega)]
        · rw [if_neg h1]
          by_cases h2 : k = n
          · subst h2; simp
          · rw [if_neg (by omega), show k - n = (k - (n + 1)) + 1 by omega, List.getElem?_cons_succ]
    intro n k
    rw [gen]
    by_cases h : k < n <;> simp [h, nth_eq]
  have hi : i < ops.toList.length := by
    have := (Array.getElem?_eq_some_iff.1 ho).1; simpa using this
  have h1 := (allB_eq _ _).1 h i ((upTo_mem _ _ _).2 (.inl (by rw [len_eq]; exact hi)))
  rw [nth_eq, Array.getElem?_toList, ho] at h1
  have h2 := (allB_eq _ _).1 h1 e he
  simp only [okEdge, hb, hup, len_eq] at h2
  by_cases h3 : e.on < ops.toList.length
  · simp only [h3, hi, if_true, blt_eq] at h2
    simpa using h2
  · have h3' : ¬ e.on < ops.size := by simpa using h3
    simp [h3'] at h2
theorem fold_bit (acc : Array Nat) (i : Nat) : ∀ (l : List Edge) (s : Nat), (l.foldl (fun s e => if Region.binds .any e then s ||| 2 ^ e.on ||| acc.getD e.on 0 else s) s).testBit i = true →
    s.testBit i = true ∨ ∃ e ∈ l, Region.binds .any e = true ∧ (e.on = i ∨ (acc.getD e.on 0).testBit i = true)
  | [], s, h => .inl h
  | e :: l, s, h => by
    rw [List.foldl_cons] at h
    rcases fold_bit acc i l _ h with h1 | ⟨e', h1, h2⟩
    · by_cases hb : Region.binds .any e = true
      · rw [if_pos hb, Nat.testBit_or, Nat.testBit_or, Bool.or_eq_true, Bool.or_eq_true, Nat.testBit_two_pow] at h1
        rcases h1 with (h1 | h1) | h1
        · exact .inl h1
        · exact .inr ⟨e, by simp, hb, .inl (by simpa using h1)⟩
        · exact .inr ⟨e, by simp, hb, .inr h1⟩
      · rw [if_neg hb] at h1; exact .inl h1
    · exact .inr ⟨e', by simp [h1], h2⟩
def PB (ops : Array Oper) (acc : Array Nat) : Prop := ∀ (j m : Nat), acc[j]? = some m → ∀ i, m.testBit i = true →
  ∃ o : Oper, ops[j]? = some o ∧ ∃ e ∈ o.after.toList, Region.binds .any e = true ∧ (e.on = i ∨ ∃ m', acc[e.on]? = some m' ∧ m'.testBit i = true)
theorem before_PB : ∀ (l pre : List Oper) (acc : Array Nat), ops.toList = pre ++ l → acc.size = pre.length → PB ops acc →
    PB ops (l.foldl (init := acc) fun acc o => acc.push (o.after.foldl (fun s e => if Region.binds .any e then s ||| 2 ^ e.on ||| acc.getD e.on 0 else s) 0))
  | [], pre, acc, _, _, h => h
  | o :: l, pre, acc, hl, hs, h => by
    rw [List.foldl_cons]
    refine before_PB l (pre ++ [o]) _ (by simp [hl]) (by simp [hs]) fun j m hj i hi => ?_
    have ho : ops[acc.size]? = some o := by rw [← Array.getElem?_toList, hl, hs]; simp
    rw [Array.getElem?_push] at hj
    by_cases hja : j = acc.size
    · rw [if_pos hja] at hj
      subst hja
      cases hj
      rw [← Array.foldl_toList] at hi
      rcases fold_bit acc i _ _ hi with h1 | ⟨e, h1, h2, h3⟩
      · simp at h1
      · refine ⟨o, ho, e, h1, h2, h3.imp id fun h4 => ?_⟩
        rw [Array.getD_eq_getD_getElem?] at h4
        cases hm : acc[e.on]? with
        | none => rw [hm] at h4; simp at h4
        | some m' =>
          rw [hm] at h4
          have hlt := (Array.getElem?_eq_some_iff.1 hm).1
          refine ⟨m', ?_, h4⟩
          rw [Array.getElem?_push, if_neg (by omega)]; exact hm
    · rw [if_neg hja] at hj
      obtain ⟨o2, h1, e, h2, h3, h4⟩ := h j m hj i hi
      refine ⟨o2, h1, e, h2, h3, h4.imp id fun ⟨m', h5, h6⟩ => ⟨m', ?_, h6⟩⟩
      have hlt := (Array.getElem?_eq_some_iff.1 h5).1
      rw [Array.getElem?_push, if_neg (by omega)]; exact h5
theorem bef_bit {bs : List Nat} {i j : Nat} : bef bs i j = true ↔ ∃ m, bs[j]? = some m ∧ m.testBit i = true := by
  unfold bef
  rw [nth_eq]
  cases bs[j]? with
  | none => simp
  | some m =>
    have : Nat.beq (Nat.land (Nat.shiftRight m i) 1) 1 = m.testBit i := by
      rw [bq, Nat.testBit_eq_decide_div_mod_eq]
      have h1 : Nat.land (Nat.shiftRight m i) 1 = (m >>> i) &&& 1 := rfl
      rw [h1, Nat.and_one_is_mod, Nat.shiftRight_eq_div_pow]
    simp only [this]
    simp
theorem bef_step {i j : Nat} (h : bef (Region.before ops).toList i j = true) :
    ∃ o, ops[j]? = some o ∧ ∃ e ∈ o.after.toList, Region.binds .any e = true ∧ (e.on = i ∨ bef (Region.before ops).toList i e.on = true) := by
  obtain ⟨m, h1, h2⟩ := bef_bit.1 h
  rw [Array.getElem?_toList] at h1
  have hpb : PB ops (Region.before ops) := by
    unfold Region.before
    rw [← Array.foldl_toList]
    exact before_PB ops.toList [] #[] rfl rfl fun j m hj => by simp at hj
  obtain ⟨o, h3, e, h4, h5, h6⟩ := hpb j m h1 i h2
  exact ⟨o, h3, e, h4, h5, h6.imp id fun ⟨m', h7, h8⟩ => bef_bit.2 ⟨m', by rw [Array.getElem?_toList]; exact h7, h8⟩⟩
theorem bef_lt (hback : Back2 ops) {i : Nat} : ∀ (j : Nat), bef (Region.before ops).toList i j = true → i < j := by
  intro j
  induction j using Nat.strongRecOn with
  | _ j ih =>
    intro h
    obtain ⟨o, h1, e, h2, h3, h4⟩ := bef_step h
    have h5 := hback j o h1 e h2 h3
    rcases h4 with h4 | h4
    · omega
    · have := ih e.on h5 h4; omega
theorem bef_down (hback : Back2 ops) {L : Nat → Prop} (hL : Down ops L) {i : Nat} : ∀ (j : Nat), L j → bef (Region.before ops).toList i j = true → L i := by
  intro j
  induction j using Nat.strongRecOn with
  | _ j ih =>
    intro hj h
    obtain ⟨o, h1, e, h2, h3, h4⟩ := bef_step h
    have h5 := hL j o hj h1 e h2 h3
    rcases h4 with h4 | h4
    · rw [← h4]; exact h5
    · exact ih e.on (hback j o h1 e h2 h3) h5 h4
theorem ord_iff (hback : Back2 ops) {L : Nat → Prop} (hL : Down ops L) {i j : Nat} {o : Oper} (ho : ops[i]? = some o) (hi : ¬ L i) (hready : ∀ e ∈ o.after.toList, Region.binds .any e = true → L e.on)
    (h : ordd (Region.before ops).toList i j = true) : j < i ↔ L j := by
  have h' : bef (Region.before ops).toList i j = true ∨ bef (Region.before ops).toList j i = true := by
    unfold ordd at h
    cases hb : bef (Region.before ops).toList i j with
    | true => exact .inl rfl
    | false => rw [hb] at h; exact .inr h
  rcases h' with h1 | h1
  · have := bef_lt hback j h1
    constructor
    · intro h2; omega
    · intro h2; exact absurd (bef_down hback hL j h2 h1) hi
  · have := bef_lt hback i h1
    obtain ⟨o2, h2, e, h3, h4, h5⟩ := bef_step h1
    rw [ho] at h2; cases h2
    have h6 := hready e h3 h4
    constructor
    · intro _
      rcases h5 with h5 | h5
      · rw [← h5]; exact h6
      · exact bef_down hback hL e.on h6 h5
    · intro _; exact this
end order
end Go.Proofs.YtkmbkejmfffafaaGreatDoor.Refl
namespace Go.Proofs.YtkmbkejmfffafaaGreatDoor.Refl
open Go
set_option linter.unusedVariables false
set_option linter.unusedSimpArgs false
noncomputable def mkM (M : List (List Nat)) (i : Nat) : List Nat := (M[i]?).getD []
theorem mk_hd (M : List (List Nat)) : hd M = mkM M 0 := by cases M <;> rfl
theorem mk_tl (M : List (List Nat)) (i : Nat) : mkM (tl M) i = mkM M (i + 1) := by cases M <;> simp [tl, mkM]
structure CS (E : Env) (C : CallF) (ops : List Oper) (m : List Nat) (t : Tr Value) (h : AH) (t' : Tr Value) (h' : AH) (wl : List Nat) (o : Oper) (b : Bool) (h2 : AH) (r : Value) (hm1 : AH) : Prop where
  want : awanted ops o t h = (b, h2)
  run : (b = true ∧ aop o.op E C t (maskH m h2) = some (r, hm1)) ∨ (b = false ∧ r = .tuple ⟨[]⟩ ∧ hm1 = maskH m h2)
  slot : ∀ x, t'.get x = (setDst t o.dst r).get x
  n : h'.n = hm1.n
  obj : ∀ b, b < hm1.n → h'.obj b = if b ∈ m then h2.obj b else hm1.obj b
  wls : wl = hm1.log
  log : ∀ c, c ∈ h'.log ↔ c ∈ wl ∨ c ∈ h2.log
  ob : OB h' → OB hm1
section
variable {E : Env} {C : CallF} {t : Tr Value} {h : AH}
theorem forceSp_eq {α : Type} (s : Sp) (d : Option Tmp) (k : Tr Value → AH → List Nat → α) : ∃ t', (∀ x, t'.get x = s.t.get x) ∧ forceSp s d α k = k t' s.h s.w := by
  obtain ⟨t, h, w⟩ := s
  show ∃ t' : Tr Value, (∀ x, t'.get x = t.get x) ∧ (match h.sym with
    | true => forceT t α fun t => forceH h α fun h => forceG w α fun w => headD t d α fun t => k t h w
    | false => forceT t α fun t => forceH h α fun h => forceG w α fun w => forceD t d α fun t => k t h w) = k t' h w
  have same : ∀ i v, t.get i = some v → ∀ x, (t.set i v).get x = t.get x := fun i v hi x => by
    rw [Tr.get_set]
    by_cases hx : x = i
    · subst hx; rw [if_pos rfl, hi]
    · rw [if_neg hx]
  cases h.sym with
  | true =>
    simp only [forceT_eq, forceH_eq, forceG_eq]
    cases d with
    | none => exact ⟨t, fun _ => rfl, rfl⟩
    | some i =>
      simp only [headD]
      cases hi : t.get i with
      | none => exact ⟨t, fun _ => rfl, rfl⟩
      | some v =>
        simp only [headV_eq, forceT_eq]
        exact ⟨t.set i v, same i v hi, rfl⟩
  | false =>
    simp only [forceT_eq, forceH_eq, forceG_eq]
    cases d with
    | none => exact ⟨t, fun _ => rfl, rfl⟩
    | some i =>
      simp only [forceD]
      cases hi : t.get i with
      | none => exact ⟨t, fun _ => rfl, rfl⟩
      | some v =>
        simp only [forceV_eq, forceT_eq]
        exact ⟨t.set i v, same i v hi, rfl⟩
theorem arecs_cons {ops l : List Oper} {o : Oper} {M : List (List Nat)} {rs : List Rc} {R : Rs} (hx : arecs E C ops (o :: l) M t h rs = some R) :
    ∃ t' h' wl b h2 r hm1, CS E C ops (hd M) t h t' h' wl o b h2 r hm1 ∧ arecs E C ops l (tl M) t' h' (⟨h.n, wl⟩ :: rs) = some R := by
  have hx : arecs1 o h.n M rs (arecs E C ops l) (astep2 E C o (hd M) t (awanted ops o t h)) = some R := hx
  cases hw : awanted ops o t h with
  | mk b h2 =>
    rw [hw] at hx
    cases b with
    | false =>
      have hx : forceSp ⟨setDst t o.dst (.tuple ⟨[]⟩), h2, []⟩ o.dst (Option Rs) (fun t h' w => arecs E C ops l (tl M) t h' (⟨h.n, w⟩ :: rs)) = some R := hx
      obtain ⟨t', k1, k2⟩ := forceSp_eq (α := Option Rs) ⟨setDst t o.dst (.tuple ⟨[]⟩), h2, []⟩ o.dst (fun t h' w => arecs E C ops l (tl M) t h' (⟨h.n, w⟩ :: rs))
      rw [k2] at hx
      refine ⟨t', h2, [], false, h2, _, maskH (hd M) h2, ⟨hw, .inr ⟨rfl, rfl, rfl⟩, k1, rfl, fun b hb => ?_, rfl, fun c => by simp, fun q => q⟩, hx⟩
      rw [maskH_obj]
      by_cases hm : b ∈ hd M <;> simp [hm]
    | true =>
      obtain ⟨ht, n, log, sym, cnt, orc, ob⟩ := h2
      have hx : arecs1 o h.n M rs (arecs E C ops l) (match aop o.op E C t ⟨mask (hd M) ht, n, [], sym, cnt, orc, ob⟩ with
        | none => none
        | some r => match r with
          | (v, ⟨ht1, n1, log1, sym1, cnt1, orc1, ob1⟩) => some ⟨setDst t o.dst v, ⟨unmask (hd M) ⟨ht, n, log, sym, cnt, orc, ob⟩ ht1, n1, addAll log1 log, sym1, cnt1, orc1, ob1⟩, log1⟩) = some R := hx
      cases ha : aop o.op E C t ⟨mask (hd M) ht, n, [], sym, cnt, orc, ob⟩ with
      | none => rw [ha] at hx; simp [arecs1] at hx
      | some q =>
        obtain ⟨v, ht1, n1, log1, sym1, cnt1, orc1, ob1⟩ := q
        rw [ha] at hx
        have hx : forceSp ⟨setDst t o.dst v, ⟨unmask (hd M) ⟨ht, n, log, sym, cnt, orc, ob⟩ ht1, n1, addAll log1 log, sym1, cnt1, orc1, ob1⟩, log1⟩ o.dst (Option Rs) (fun t h' w => arecs E C ops l (tl M) t h' (⟨h.n, w⟩ :: rs)) = some R := hx
        obtain ⟨t', k1, k2⟩ := forceSp_eq (α := Option Rs) ⟨setDst t o.dst v, ⟨unmask (hd M) ⟨ht, n, log, sym, cnt, orc, ob⟩ ht1, n1, addAll log1 log, sym1, cnt1, orc1, ob1⟩, log1⟩ o.dst (fun t h' w => arecs E C ops l (tl M) t h' (⟨h.n, w⟩ :: rs))
        rw [k2] at hx
        refine ⟨t', ⟨unmask (hd M) ⟨ht, n, log, sym, cnt, orc, ob⟩ ht1, n1, addAll log1 log, sym1, cnt1, orc1, ob1⟩, log1, true, ⟨ht, n, log, sym, cnt, orc, ob⟩, v, ⟨ht1, n1, log1, sym1, cnt1, orc1, ob1⟩, ⟨hw, .inl ⟨rfl, ha⟩, k1, rfl, fun b hb => ?_, rfl, fun c => mem_addAll _ _ _, fun q => q⟩, hx⟩
        have hb' : b < n1 := hb
        rw [AH.obj_def]
        show (if b < n1 then objIn (unmask (hd M) ⟨ht, n, log, sym, cnt, orc, ob⟩ ht1) b else .dead) = _
        rw [if_pos hb', unmask_obj, AH.obj_def ⟨ht1, n1, log1, sym1, cnt1, orc1, ob1⟩, if_pos hb]
theorem revR_eq : ∀ (l r : List Rc), revR l r = l.reverse ++ r
  | [], r => rfl
  | x :: l, r => by
    show revR l (x :: r) = _
    rw [revR_eq l]; simp
structure CSeq (E : Env) (C : CallF) (ops l : List Oper) (M : List (List Nat)) (T : Nat → Tr Value) (H : Nat → AH) (W : Nat → List Nat) : Prop where
  at_ : ∀ i o, l[i]? = some o → ∃ b h2 r hm1, CS E C ops (mkM M i) (T i) (H i) (T (i + 1)) (H (i + 1)) (W i) o b h2 r hm1
theorem arecs_seq {ops : List Oper} : ∀ (l : List Oper) (M : List (List Nat)) (t : Tr Value) (h : AH) (rs : List Rc) (R : Rs), arecs E C ops l M t h rs = some R →
    ∃ T H W, CSeq E C ops l M T H W ∧ T 0 = t ∧ H 0 = h ∧ T l.length = R.t ∧ H l.length = R.h ∧ R.rs = rs.reverse ++ (List.range l.length).map fun i => ⟨(H i).n, W i⟩
  | [], M, t, h, rs, R, hx => by
    have hx : some (Rs.mk t h (revR rs [])) = some R := hx
    cases hx
    exact ⟨fun _ => t, fun _ => h, fun _ => [], ⟨fun i o hi => by simp at hi⟩, rfl, rfl, rfl, rfl, by simp [revR_eq]⟩
  | o :: l, M, t, h, rs, R, hx => by
    obtain ⟨t', h', wl, b, h2, r, hm1, k1, k2⟩ := arecs_cons hx
    obtain ⟨T, H, W, k3, rfl, rfl, k6, k7, k8⟩ := arecs_seq l _ _ _ _ R k2
    refine ⟨fun i => match i with | 0 => t | i + 1 => T i, fun i => match i with | 0 => h | i + 1 => H i, fun i => match i with | 0 => wl | i + 1 => W i, ⟨fun i o2 hi => ?_⟩, rfl, rfl, k6, k7, ?_⟩
    · cases i with
      | zero => simp at hi; subst hi; exact ⟨b, h2, r, hm1, by rw [← mk_hd]; exact k1⟩
      | succ i =>
        obtain ⟨b, h2, r, hm1, k9⟩ := k3.at_ i o2 (by simpa using hi)
        exact ⟨b, h2, r, hm1, by rw [← mk_tl]; exact k9⟩
    · rw [k8, List.length_cons, List.range_succ_eq_map]
      simp [Function.comp_def]
theorem adrawn_some {ops : Array Oper} {d : List ADef} {s : St} (hx : adrawn E C ops t d h = some s) :
    ∃ M R, arecs E C ops.toList ops.toList M t h [] = some R ∧ okW (Region.before ops).toList M R.rs = true ∧ s = ⟨.normal, R.t, d, R.h⟩ := by
  unfold adrawn at hx
  cases ha : arecs E C ops.toList ops.toList [] t h [] with
  | none => rw [ha] at hx; simp [adrawn1] at hx
  | some R =>
    rw [ha] at hx
    obtain ⟨t1, h1, rs⟩ := R
    simp only [adrawn1] at hx
    cases hk : okW (Region.before ops).toList [] rs with
    | true => simp [hk] at hx; exact ⟨[], _, ha, hk, hx.symm⟩
    | false =>
      simp only [hk] at hx
      cases ha2 : arecs E C ops.toList ops.toList (masks (Region.before ops).toList rs) t h [] with
      | none => rw [ha2] at hx; simp [adrawn2] at hx
      | some R2 =>
        rw [ha2] at hx
        obtain ⟨t2, h2, rs2⟩ := R2
        simp only [adrawn2] at hx
        cases hk2 : okW (Region.before ops).toList (masks (Region.before ops).toList rs) rs2 with
        | false => simp [hk2] at hx
        | true => simp [hk2] at hx; exact ⟨_, _, ha2, hk2, hx.symm⟩
theorem okW_some {bs : List Nat} {M : List (List Nat)} {N : Nat} {H : Nat → AH} {W : Nat → List Nat} (h : okW bs M ((List.range N).map fun i => ⟨(H i).n, W i⟩) = true) :
    ∀ j, j < N → ∀ b ∈ W j, b < (H j).n ∧ ∀ i, i < N → i ≠ j → ordd bs i j = true ∨ (H i).n ≤ b ∨ b ∈ mkM M i := by
  intro j hj b hb
  have hlen : len ((List.range N).map fun i => (⟨(H i).n, W i⟩ : Rc)) = N := by rw [len_eq]; simp
  have hat : ∀ i, i < N → nth ((List.range N).map fun i => (⟨(H i).n, W i⟩ : Rc)) i = some ⟨(H i).n, W i⟩ := fun i hi => by
    rw [nth_eq]; simp [hi]
  have h1 := (allB_eq _ _).1 h j ((upTo_mem _ _ _).2 (.inl (by rw [hlen]; exact hj)))
  unfold okW1 at h1
  rw [hat j hj] at h1
  simp only at h1
  cases hw : W j with
  | nil => rw [hw] at hb; simp at hb
  | cons c l =>
    rw [hw] at h1
    simp only at h1
    rw [← hw] at h1
    cases h2 : allB (fun b => Nat.blt b (H j).n) (W j) with
    | false => simp [h2] at h1
    | true =>
      simp only [h2] at h1
      refine ⟨by have := (allB_eq _ _).1 h2 b hb; simpa [blt_eq] using this, fun i hi hij => ?_⟩
      have h3 := (allB_eq _ _).1 h1 i ((upTo_mem _ _ _).2 (.inl (by rw [hlen]; exact hi)))
      unfold okW2 at h3
      rw [bq] at h3
      simp only [hij, decide_false] at h3
      cases h4 : ordd bs i j with
      | true => exact .inl rfl
      | false =>
        simp only [h4] at h3
        rw [hat i hi] at h3
        have h5 := (allB_eq _ _).1 h3 b hb
        unfold hid at h5
        rw [ble_eq, nth_eq] at h5
        by_cases h6 : (H i).n ≤ b
        · exact .inr (.inl h6)
        · simp only [h6, decide_false] at h5
          refine .inr (.inr ?_)
          unfold mkM
          cases hm : M[i]? with
          | none => rw [hm] at h5; simp at h5
          | some m => rw [hm] at h5; simpa [mem_eq] using h5
end
end Go.Proofs.YtkmbkejmfffafaaGreatDoor.Refl
namespace Go.Proofs.YtkmbkejmfffafaaGreatDoor.Refl
open Go
set_option linter.unusedVariables false
set_option linter.unusedSimpArgs false
theorem awanted_same {ops : List Oper} {o : Oper} {t : Tr Value} {h h2 : AH} {b : Bool} (hx : awanted ops o t h = (b, h2)) : h2.t = h.t ∧ h2.n = h.n ∧ h2.log = h.log := by
  unfold awanted wantOf wantBy at hx
  repeat' split at hx
  all_goals first | (cases hx; exact ⟨rfl, rfl, rfl⟩) | (obtain ⟨a, b, c, _⟩ := dec_some hx; exact ⟨a, b, c⟩)
theorem okTmps_some {ops : List Oper} {bs : List Nat} (h : okTmps ops bs = true) {i j d : Nat} {o p : Oper} (hi : ops[i]? = some o) (hj : ops[j]? = some p) (hd : p.dst = some d) (hm : d ∈ tmpsIn ops o) (hij : i ≠ j) : ordd bs i j = true := by
  have hlt : ∀ {k q}, ops[k]? = some q → k ∈ upTo (len ops) [] := fun hk => (upTo_mem _ _ _).2 (.inl (by rw [len_eq]; exact (List.getElem?_eq_some_iff.1 hk).1))
  have h1 := (allB_eq _ _).1 h j (hlt hj)
  unfold okTmp at h1
  rw [nth_eq, hj] at h1
  simp only [hd] at h1
  have h2 := (allB_eq _ _).1 h1 i (hlt hi)
  unfold okPair at h2
  rw [bq] at h2
  simp only [hij, decide_false] at h2
  rw [nth_eq, hi] at h2
  simp only [mem_eq, hm, decide_true] at h2
  exact h2
theorem tmpsOfL_mem {x : Nat} : ∀ (l : List Operand), Operand.tmp x ∈ l → x ∈ tmpsOfL l
  | [], h => by simp at h
  | y :: l, h => by
    show x ∈ app (opdTmp y) (tmpsOfL l)
    rw [app_eq, List.mem_append]
    rcases List.mem_cons.1 h with h | h
    · subst h; left; simp [opdTmp]
    · exact .inr (tmpsOfL_mem l h)
theorem opd_in {ops : List Oper} {o : Oper} {x : Nat} (h : Operand.tmp x ∈ o.op.operands.toList) : x ∈ tmpsIn ops o := by
  unfold tmpsIn; rw [app_eq, List.mem_append]; exact .inl (tmpsOfL_mem _ h)
theorem dst_in {ops : List Oper} {o : Oper} {x : Nat} (h : o.dst = some x) : x ∈ tmpsIn ops o := by
  unfold tmpsIn; rw [app_eq, app_eq, List.mem_append, List.mem_append]; exact .inr (.inr (by rw [h]; simp [optL]))
theorem guard_in {ops : List Oper} {o p : Oper} {g : Nat} {want : Bool} {x : Nat} (hg : o.guard = some (g, want)) (hp : ops[g]? = some p) (hd : p.dst = some x) : x ∈ tmpsIn ops o := by
  unfold tmpsIn
  rw [app_eq, app_eq, List.mem_append, List.mem_append]
  refine .inr (.inl ?_)
  unfold guardTmp
  rw [hg]
  simp only [nth_eq, hp, hd, optL]
  simp
structure DC (E : Env) (C : CallF) (ops : Array Oper) (M : List (List Nat)) (T : Nat → Tr Value) (H : Nat → AH) (W : Nat → List Nat) (G Nt : Nat) : Prop where
  seq : CSeq E C ops.toList ops.toList M T H W
  back : Back2 ops
  tmps : okTmps ops.toList (Region.before ops).toList = true
  wok : ∀ j, j < ops.size → ∀ b ∈ W j, b < (H j).n ∧ ∀ i, i < ops.size → i ≠ j → ordd (Region.before ops).toList i j = true ∨ (H i).n ≤ b ∨ b ∈ mkM M i
  opers : ∀ o ∈ ops.toList, okOper G Nt o = true
  fwd : CFwd C
section
variable {E : Env} {C : CallF} {ops : Array Oper} {M : List (List Nat)} {T : Nat → Tr Value} {H : Nat → AH} {W : Nat → List Nat} {G Nt : Nat} (D : DC E C ops M T H W G Nt)
include D
theorem DC.at_ {i : Nat} {o : Oper} (ho : ops[i]? = some o) : ∃ b h2 r hm1, CS E C ops.toList (mkM M i) (T i) (H i) (T (i + 1)) (H (i + 1)) (W i) o b h2 r hm1 :=
  D.seq.at_ i o (by rw [Array.getElem?_toList]; exact ho)
theorem CSfwd {o : Oper} {i : Nat} {b : Bool} {h2 hm1 : AH} {r : Value} (k : CS E C ops.toList (mkM M i) (T i) (H i) (T (i + 1)) (H (i + 1)) (W i) o b h2 r hm1) : Fwd (maskH (mkM M i) h2) hm1 := by
  rcases k.run with ⟨_, h⟩ | ⟨_, _, h⟩
  · exact aop_fwd D.fwd h
  · exact .of_eq h
theorem DC.get {i : Nat} (hi : i < ops.size) : ∃ o, ops[i]? = some o := ⟨_, Array.getElem?_eq_getElem hi⟩
theorem DC.n1 {i : Nat} (hi : i < ops.size) : (H i).n ≤ (H (i + 1)).n := by
  obtain ⟨o, ho⟩ := D.get hi
  obtain ⟨b, h2, r, hm1, k⟩ := D.at_ ho
  have := (CSfwd D k).n
  rw [k.n, ← (awanted_same k.want).2.1]
  exact this
theorem DC.nle {i : Nat} : ∀ (d : Nat), i + d ≤ ops.size → (H i).n ≤ (H (i + d)).n
  | 0, _ => Nat.le_refl _
  | d + 1, h => Nat.le_trans (DC.nle d (by omega)) (D.n1 (by omega))
theorem DC.nmono {i j : Nat} (hij : i ≤ j) (hj : j ≤ ops.size) : (H i).n ≤ (H j).n := by
  have := D.nle (i := i) (j - i) (by omega)
  rwa [show i + (j - i) = j by omega] at this
theorem DC.obj1 {i b : Nat} (hi : i < ops.size) (hb : b < (H i).n) (hw : b ∉ W i) : (H (i + 1)).obj b = (H i).obj b := by
  obtain ⟨o, ho⟩ := D.get hi
  obtain ⟨c, h2, r, hm1, k⟩ := D.at_ ho
  obtain ⟨q1, q2, q3⟩ := awanted_same k.want
  have hf := CSfwd D k
  have hb2 : b < h2.n := by rw [q2]; exact hb
  rw [k.obj b (Nat.lt_of_lt_of_le hb2 hf.n), ← AH.obj_eq q1 q2]
  by_cases hm : b ∈ mkM M i
  · rw [if_pos hm]
  · rw [if_neg hm, hf.keep b hb2 (by rw [← k.wls]; exact hw), maskH_obj, if_neg hm]
theorem DC.objc {k1 b : Nat} (hb : b < (H k1).n) : ∀ (d : Nat), k1 + d ≤ ops.size → (∀ j, k1 ≤ j → j < k1 + d → b ∉ W j) → (H (k1 + d)).obj b = (H k1).obj b
  | 0, _, _ => rfl
  | d + 1, h, hw => by
    rw [← Nat.add_assoc, D.obj1 (by omega) (Nat.lt_of_lt_of_le hb (D.nle d (by omega))) (hw _ (by omega) (by omega))]
    exact DC.objc hb d (by omega) fun j h1 h2 => hw j h1 (by omega)
theorem DC.const {k1 k2 b : Nat} (hk : k1 ≤ k2) (hk2 : k2 ≤ ops.size) (hb : b < (H k1).n) (hw : ∀ j, k1 ≤ j → j < k2 → b ∉ W j) : (H k2).obj b = (H k1).obj b := by
  have := D.objc hb (k2 - k1) (by omega) fun j h1 h2 => hw j h1 (by omega)
  rwa [show k1 + (k2 - k1) = k2 by omega] at this
theorem DC.slot1 {i x : Nat} (hi : i < ops.size) (hd : ∀ o, ops[i]? = some o → o.dst ≠ some x) : (T (i + 1)).get x = (T i).get x := by
  obtain ⟨o, ho⟩ := D.get hi
  obtain ⟨c, h2, r, hm1, k⟩ := D.at_ ho
  rw [k.slot]
  have := hd o ho
  cases hdst : o.dst with
  | none => rfl
  | some y =>
    rw [hdst] at this
    show ((T i).set y r).get x = _
    rw [Tr.get_set, if_neg (fun e => this (by rw [e]))]
theorem DC.slotc {k1 x : Nat} : ∀ (d : Nat), k1 + d ≤ ops.size → (∀ j o, k1 ≤ j → j < k1 + d → ops[j]? = some o → o.dst ≠ some x) → (T (k1 + d)).get x = (T k1).get x
  | 0, _, _ => rfl
  | d + 1, h, hw => by
    rw [← Nat.add_assoc, D.slot1 (by omega) fun o ho => hw _ o (by omega) (by omega) ho]
    exact DC.slotc d (by omega) fun j o h1 h2 => hw j o h1 (by omega)
theorem DC.slots {k1 k2 x : Nat} (hk : k1 ≤ k2) (hk2 : k2 ≤ ops.size) (hw : ∀ j o, k1 ≤ j → j < k2 → ops[j]? = some o → o.dst ≠ some x) : (T k2).get x = (T k1).get x := by
  have := D.slotc (x := x) (k2 - k1) (by omega) fun j o h1 h2 => hw j o h1 (by omega)
  rwa [show k1 + (k2 - k1) = k2 by omega] at this
theorem DC.ob {i : Nat} (hi : i < ops.size) (h : OB (H (i + 1))) : OB (H i) := by
  obtain ⟨o, ho⟩ := D.get hi
  obtain ⟨c, h2, r, hm1, k⟩ := D.at_ ho
  exact (awanted_fwd k.want).ob ((CSfwd D k).ob (k.ob h))
theorem DC.obs (h : OB (H ops.size)) : ∀ (d i : Nat), i + d = ops.size → OB (H i)
  | 0, i, e => by rw [Nat.add_zero] at e; rw [e]; exact h
  | d + 1, i, e => D.ob (by omega) (DC.obs h d (i + 1) (by omega))
theorem DC.logs {c : Nat} : ∀ (i : Nat), i ≤ ops.size → (c ∈ (H i).log ↔ (∃ j, j < i ∧ c ∈ W j) ∨ c ∈ (H 0).log)
  | 0, _ => by constructor
               · exact .inr
               · rintro (⟨j, h, _⟩ | h)
                 · omega
                 · exact h
  | i + 1, hi => by
    obtain ⟨o, ho⟩ := D.get (i := i) (by omega)
    obtain ⟨b, h2, r, hm1, k⟩ := D.at_ ho
    rw [k.log, (awanted_same k.want).2.2, DC.logs i (by omega)]
    constructor
    · rintro (h | ⟨j, h, h'⟩ | h)
      · exact .inl ⟨i, by omega, h⟩
      · exact .inl ⟨j, by omega, h'⟩
      · exact .inr h
    · rintro (⟨j, h, h'⟩ | h)
      · by_cases hj : j = i
        · subst hj; exact .inl h'
        · exact .inr (.inl ⟨j, by omega, h'⟩)
      · exact .inr (.inr h)
end
end Go.Proofs.YtkmbkejmfffafaaGreatDoor.Refl
namespace Go.Proofs.YtkmbkejmfffafaaGreatDoor.Refl
open Go
set_option linter.unusedVariables false
set_option linter.unusedSimpArgs false
def Mt (W : Nat → List Nat) (n b : Nat) (L : Nat → Prop) (k : Nat) : Prop := ∀ j, j < n → b ∈ W j → (j < k ↔ L j)
def MtT (ops : Array Oper) (x : Nat) (L : Nat → Prop) (k : Nat) : Prop := ∀ j o, ops[j]? = some o → o.dst = some x → (j < k ↔ L j)
structure Inv (P : Program) (ops : Array Oper) (T : Nat → Tr Value) (H : Nat → AH) (W : Nat → List Nat) (Nt : Nat) (ρ0 : Ren) (w0 : World) (ds : List Deferred) (L : Nat → Prop) (ρ : Ren) (w : World) (a : Act) : Prop where
  ext : Ext ρ0 ρ
  dom : ∀ b im, ρ b = some im → ρ0 b = none → ∃ j, j < ops.size ∧ L j ∧ (H j).n ≤ b ∧ b < (H (j + 1)).n
  cont : ∀ b im k, ρ b = some im → k ≤ ops.size → b < (H k).n → Mt W ops.size b L k → OR P.cellsOf ρ w im ((H k).obj b)
  inj : ∀ b b' im im' k k', ρ b = some im → ρ b' = some im' → k ≤ ops.size → k' ≤ ops.size → b < (H k).n → b' < (H k').n → Mt W ops.size b L k → Mt W ops.size b' L k' →
    (H k).obj b ≠ .dead → (H k').obj b' ≠ .dead → im.blk = im'.blk → b = b'
  wrt : ∀ j, j < ops.size → L j → ∀ b ∈ W j, (∃ im, ρ b = some im) ∧ (H j).obj b ≠ .dead
  slots : ∀ x k, k ≤ ops.size → MtT ops x L k → VR ρ (unset ((T k).get x)) (a.tmps.getD x undef)
  size : a.tmps.size = Nt
  defs : a.defers = ds
  str : Str w0 w
  hsize : w0.heap.size ≤ w.heap.size
  frame : ∀ c, c < w0.heap.size → w.heap[c]? = w0.heap[c]? ∨ ∃ j, j < ops.size ∧ L j ∧ ∃ b ∈ W j, b < (H 0).n ∧ ∃ im, ρ0 b = some im ∧ im.blk = c
  fresh : ∀ b im, ρ b = some im → ρ0 b = none → w0.heap.size ≤ im.blk ∨ ∃ j, j < ops.size ∧ L j ∧ ∃ b0 ∈ W j, b0 < (H 0).n ∧ ∃ im0, ρ0 b0 = some im0 ∧ im0.blk = im.blk
section
variable {P : Program} {E : Env} {C : CallF} {ops : Array Oper} {M : List (List Nat)} {T : Nat → Tr Value} {H : Nat → AH} {W : Nat → List Nat} {G Nt : Nat} (D : DC E C ops M T H W G Nt)
  {ρ0 : Ren} {w0 : World} {ds : List Deferred} {L : Nat → Prop} {ρ : Ren} {w : World} {a : Act} (I : Inv P ops T H W Nt ρ0 w0 ds L ρ w a) (hf0 : Fr ρ0 (H 0).n (H ops.size).n)
include D in
theorem inv_start (hr : Rel P.cellsOf ρ0 (H 0) w0) (ht : TR Nt ρ0 (T 0) a.tmps) (hd : a.defers = ds) (hf0 : Fr ρ0 (H 0).n (H ops.size).n) (hw : w.heap = w0.heap) (hs : Str w0 w) : Inv P ops T H W Nt ρ0 w0 ds (fun _ => False) ρ0 w a where
  ext := .refl _
  dom := fun b im h1 h2 => by rw [h1] at h2; cases h2
  cont := fun b im k h1 h2 h3 h4 => by
    have hb : b < (H 0).n := by
      rcases Nat.lt_or_ge b (H 0).n with h | h
      · exact h
      · have := hf0 b h (Nat.lt_of_lt_of_le h3 (D.nmono h2 (Nat.le_refl _))); rw [h1] at this; cases this
    rw [D.const (Nat.zero_le k) h2 hb fun j _ hj hm => ((h4 j (by omega) hm).1 hj).elim]
    exact (hr.obj b im h1 hb).mono (.refl _) (by rw [hw])
  inj := fun b b' im im' k k' h1 h1' h2 h2' h3 h3' h4 h4' h5 h5' h6 => by
    have low : ∀ {b im k}, ρ0 b = some im → k ≤ ops.size → b < (H k).n → b < (H 0).n := fun {b im k} h1 h2 h3 => by
      rcases Nat.lt_or_ge b (H 0).n with h | h
      · exact h
      · have := hf0 b h (Nat.lt_of_lt_of_le h3 (D.nmono h2 (Nat.le_refl _))); rw [h1] at this; cases this
    have hb := low h1 h2 h3
    have hb' := low h1' h2' h3'
    rw [D.const (Nat.zero_le k) h2 hb fun j _ hj hm => ((h4 j (by omega) hm).1 hj).elim] at h5
    rw [D.const (Nat.zero_le k') h2' hb' fun j _ hj hm => ((h4' j (by omega) hm).1 hj).elim] at h5'
    exact hr.inj b b' im im' h1 h1' hb hb' h5 h5' h6
  wrt := fun j _ h => h.elim
  slots := fun x k hk hm => by
    rw [D.slots (Nat.zero_le k) hk fun j o _ hj ho hd => (hm j o ho hd).1 hj]
    exact ht.val x
  size := ht.size
  defs := hd
  str := hs
  hsize := by rw [hw]; exact Nat.le_refl _
  frame := fun c _ => .inl (by rw [hw])
  fresh := fun b im h1 h2 => by rw [h1] at h2; cases h2
section one
variable {i : Nat} {o : Oper} (ho : ops[i]? = some o) (hL : Down ops L) (hi : ¬ L i) (hready : ∀ e ∈ o.after.toList, Region.binds .any e = true → L e.on)
include D ho hL hi hready
theorem vis {b : Nat} (hb : b < (H i).n) (hm : b ∉ mkM M i) : Mt W ops.size b L i := by
  intro j hj hbj
  by_cases hij : j = i
  · subst hij; constructor
    · intro h; omega
    · intro h; exact absurd h hi
  · have hio := (Array.getElem?_eq_some_iff.1 ho).1
    rcases (D.wok j hj b hbj).2 i hio (fun e => hij e.symm) with h | h | h
    · exact ord_iff D.back hL ho hi hready h
    · omega
    · exact absurd h hm
theorem visT {x : Nat} (hx : x ∈ tmpsIn ops.toList o) : MtT ops x L i := by
  intro j p hp hd
  by_cases hij : j = i
  · subst hij; constructor
    · intro h; omega
    · intro h; exact absurd h hi
  · refine ord_iff D.back hL ho hi hready (okTmps_some D.tmps (d := x) ?_ ?_ hd hx fun e => hij e.symm)
    · rw [Array.getElem?_toList]; exact ho
    · rw [Array.getElem?_toList]; exact hp
include I
theorem relIn {h2 : AH} (ht : h2.t = (H i).t) (hn : h2.n = (H i).n) : Rel P.cellsOf ρ (maskH (mkM M i) h2) w where
  obj := fun b im h1 h3 => by
    rw [maskH_obj]
    by_cases hm : b ∈ mkM M i
    · rw [if_pos hm]; trivial
    · have hb : b < (H i).n := by rw [← hn]; exact h3
      rw [if_neg hm, AH.obj_eq ht hn]
      exact I.cont b im i h1 (Nat.le_of_lt (Array.getElem?_eq_some_iff.1 ho).1) hb (vis D ho hL hi hready hb hm)
  inj := fun b b' im im' h1 h1' h3 h3' h5 h5' h6 => by
    rw [maskH_obj] at h5 h5'
    by_cases hm : b ∈ mkM M i
    · rw [if_pos hm] at h5; exact absurd rfl h5
    · by_cases hm' : b' ∈ mkM M i
      · rw [if_pos hm'] at h5'; exact absurd rfl h5'
      · have hb : b < (H i).n := by rw [← hn]; exact h3
        have hb' : b' < (H i).n := by rw [← hn]; exact h3'
        rw [if_neg hm, AH.obj_eq ht hn] at h5
        rw [if_neg hm', AH.obj_eq ht hn] at h5'
        have hio := Nat.le_of_lt (Array.getElem?_eq_some_iff.1 ho).1
        exact I.inj b b' im im' i i h1 h1' hio hio hb hb' (vis D ho hL hi hready hb hm) (vis D ho hL hi hready hb' hm') h5 h5' h6
  top := fun b hb => AH.obj_top _ hb
include hf0
theorem frIn : Fr ρ (H i).n (H (i + 1)).n := by
  have hio := (Array.getElem?_eq_some_iff.1 ho).1
  intro x h1 h2
  cases hx : ρ x with
  | none => rfl
  | some im =>
    cases h0 : ρ0 x with
    | some im0 =>
      have := hf0 x (Nat.le_trans (D.nmono (Nat.zero_le i) (by omega)) h1) (Nat.lt_of_lt_of_le h2 (D.nmono (by omega) (Nat.le_refl _)))
      rw [h0] at this; cases this
    | none =>
      obtain ⟨j, hj, hlj, h3, h4⟩ := I.dom x im hx h0
      rcases Nat.lt_trichotomy j i with h | h | h
      · have := D.nmono (i := j + 1) (j := i) (by omega) (by omega); omega
      · subst h; exact absurd hlj hi
      · have := D.nmono (i := i + 1) (j := j) (by omega) (by omega); omega
end one
end
end Go.Proofs.YtkmbkejmfffafaaGreatDoor.Refl
namespace Go.Proofs.YtkmbkejmfffafaaGreatDoor.Refl
open Go
set_option linter.unusedVariables false
set_option linter.unusedSimpArgs false
section
variable {P : Program} {E : Env} {C : CallF} {ops : Array Oper} {M : List (List Nat)} {T : Nat → Tr Value} {H : Nat → AH} {W : Nat → List Nat} {G Nt : Nat} (D : DC E C ops M T H W G Nt)
  {ρ0 : Ren} {w0 : World} {ds : List Deferred} {L : Nat → Prop} {ρ : Ren} {w : World} {a : Act} (I : Inv P ops T H W Nt ρ0 w0 ds L ρ w a) (hf0 : Fr ρ0 (H 0).n (H ops.size).n)
  {i : Nat} {o : Oper} (ho : ops[i]? = some o) (hL : Down ops L) (hi : ¬ L i) (hready : ∀ e ∈ o.after.toList, Region.binds .any e = true → L e.on)
  {b0 : Bool} {h2 hm1 : AH} {r r' : Value} (k : CS E C ops.toList (mkM M i) (T i) (H i) (T (i + 1)) (H (i + 1)) (W i) o b0 h2 r hm1)
  {ρ' : Ren} {w' : World} (st : Step P.cellsOf ρ (maskH (mkM M i) h2) w ρ' hm1 w') (hv : VR ρ' r r')
include D I ho hL hi hready k st
theorem cls {b k' : Nat} {im : Im} (hb : ρ' b = some im) (hk : k' ≤ ops.size) (hn : b < (H k').n) (hm : Mt W ops.size b (fun j => L j ∨ j = i) k') :
    (b ∈ W i ∧ b ∉ mkM M i ∧ b < (H i).n ∧ (H i).obj b ≠ .dead ∧ ρ b = some im ∧ (H k').obj b = hm1.obj b ∧ b < hm1.n) ∨
    (ρ b = none ∧ ((H k').obj b = .dead ∨ (H k').obj b = hm1.obj b) ∧ b < hm1.n) ∨
    (b ∉ W i ∧ ρ b = some im ∧ Mt W ops.size b L k') := by
  have hio := (Array.getElem?_eq_some_iff.1 ho).1
  obtain ⟨q1, q2, q3⟩ := awanted_same k.want
  have hn1 : hm1.n = (H (i + 1)).n := k.n.symm
  have hn0 : (maskH (mkM M i) h2).n = (H i).n := q2
  have hnn := D.n1 hio
  by_cases hw : b ∈ W i
  · left
    have hbn := (D.wok i hio b hw).1
    have hlog : b ∈ hm1.log := by rw [← k.wls]; exact hw
    rcases st.wrote b hlog with h | h | ⟨⟨im2, h⟩, h'⟩
    · simp [maskH] at h
    · omega
    · have hbm : b ∉ mkM M i := fun hbm => h' (by rw [maskH_obj, if_pos hbm])
      rw [maskH_obj, if_neg hbm, AH.obj_eq q1 q2] at h'
      have him : im2 = im := Option.some.inj ((st.ext _ _ h).symm.trans hb)
      subst him
      have hik : i < k' := (hm i hio hw).2 (.inr rfl)
      refine ⟨hw, hbm, hbn, h', h, ?_, by omega⟩
      rw [D.const (k1 := i + 1) (by omega) hk (by omega) fun j hj1 hj2 hbj => ?_, k.obj b (by omega), if_neg hbm]
      have hjn : j < ops.size := by omega
      rcases (hm j hjn hbj).1 hj2 with h3 | h3
      · have := (vis D ho hL hi hready hbn hbm j hjn hbj).2 h3; omega
      · omega
  · right
    cases h0 : ρ b with
    | some im2 =>
      right
      have him : im2 = im := Option.some.inj ((st.ext _ _ h0).symm.trans hb)
      subst him
      refine ⟨hw, rfl, fun j hj hbj => ?_⟩
      rw [hm j hj hbj]
      constructor
      · rintro (h | h)
        · exact h
        · subst h; exact absurd hbj hw
      · exact .inl
    | none =>
      left
      obtain ⟨g1, g2⟩ := st.dom b im hb h0
      have hik : i + 1 ≤ k' := by
        rcases Nat.lt_or_ge i k' with h | h
        · omega
        · have := D.nmono (i := k') (j := i) h (by omega); omega
      refine ⟨rfl, ?_, g2⟩
      rw [D.const (k1 := i + 1) hik hk (by omega) fun j hj1 hj2 hbj => ?_, k.obj b g2]
      · by_cases hbm : b ∈ mkM M i
        · rw [if_pos hbm]; left; exact AH.obj_top _ g1
        · rw [if_neg hbm]; exact .inr rfl
      · have hjn : j < ops.size := by omega
        rcases (hm j hjn hbj).1 hj2 with h3 | h3
        · obtain ⟨⟨im3, h4⟩, _⟩ := I.wrt j hjn h3 b hbj
          rw [h0] at h4; cases h4
        · omega
include hf0 hv in
theorem inv_step : Inv P ops T H W Nt ρ0 w0 ds (fun j => L j ∨ j = i) ρ' w' (a.put o.dst r') := by
  have hio := (Array.getElem?_eq_some_iff.1 ho).1
  obtain ⟨q1, q2, q3⟩ := awanted_same k.want
  have hn1 : hm1.n = (H (i + 1)).n := k.n.symm
  have hn0 : (maskH (mkM M i) h2).n = (H i).n := q2
  have hnn := D.n1 hio
  have hlow : ∀ {b im}, ρ0 b = some im → b < (H i).n → b < (H 0).n := fun {b im} h1 h2 => by
    rcases Nat.lt_or_ge b (H 0).n with h | h
    · exact h
    · have := hf0 b h (Nat.lt_of_lt_of_le h2 (D.nmono (by omega) (Nat.le_refl _))); rw [h1] at this; cases this
  -- a block that is not written stands, or is dead
  have stands : ∀ {b k' im}, ρ b = some im → k' ≤ ops.size → b < (H k').n → b ∉ W i → Mt W ops.size b L k' → (H k').obj b ≠ .dead → w'.heap[im.blk]? = w.heap[im.blk]? ∧ im.blk < w.heap.size := by
    intro b k' im hb hk hn hw hm hd
    have hor := I.cont b im k' hb hk hn hm
    have hlt := hor.lt hd
    refine ⟨?_, hlt⟩
    rcases st.frame im.blk hlt with h | ⟨b1, im1, h1, h2', h3, h4⟩
    · exact h
    · exfalso
      have hb1w : b1 ∈ W i := by rw [k.wls]; exact h1
      have hb1n : b1 < (H i).n := by rw [← hn0]; exact h2'
      rcases st.wrote b1 h1 with h | h | ⟨_, h'⟩
      · simp [maskH] at h
      · omega
      · have hbm : b1 ∉ mkM M i := fun hbm => h' (by rw [maskH_obj, if_pos hbm])
        rw [maskH_obj, if_neg hbm, AH.obj_eq q1 q2] at h'
        have := I.inj b b1 im im1 k' i hb h3 hk (by omega) hn hb1n hm (vis D ho hL hi hready hb1n hbm) hd h' h4.symm
        exact hw (this ▸ hb1w)
  refine ⟨I.ext.trans st.ext, fun b im h1 h2' => ?_, fun b im k' h1 h2' h3 h4 => ?_, fun b b' im im' k1 k1' h1 h1' h2' h2'' h3 h3' h4 h4' h5 h5' h6 => ?_, fun j hj hLj b hbj => ?_, fun x k' hk hm => ?_, ?_, ?_,
    I.str.trans st.str, Nat.le_trans I.hsize st.size, fun c hc => ?_, fun b im h1 h2' => ?_⟩
  · -- dom
    cases h0 : ρ b with
    | some im2 =>
      obtain ⟨j, hj, hLj, h3⟩ := I.dom b im2 h0 h2'
      exact ⟨j, hj, .inl hLj, h3⟩
    | none =>
      obtain ⟨g1, g2⟩ := st.dom b im h1 h0
      exact ⟨i, hio, .inr rfl, by omega, by omega⟩
  · -- cont
    rcases cls D I ho hL hi hready k st h1 h2' h3 h4 with ⟨_, _, _, _, _, c6, c7⟩ | ⟨_, c2, c3⟩ | ⟨c1, c2, c3⟩
    · rw [c6]; exact st.rel.obj b im h1 c7
    · rcases c2 with c2 | c2
      · rw [c2]; trivial
      · rw [c2]; exact st.rel.obj b im h1 c3
    · by_cases hd : (H k').obj b = .dead
      · rw [hd]; trivial
      · exact (I.cont b im k' c2 h2' h3 c3).mono st.ext (stands c2 h2' h3 c1 c3 hd).1
  · -- inj
    have mixed : ∀ {b b' im im' k1}, b ∉ W i → ρ b = some im → Mt W ops.size b L k1 → k1 ≤ ops.size → b < (H k1).n → (H k1).obj b ≠ .dead → ρ' b' = some im' →
        ((b' ∈ W i ∧ b' ∉ mkM M i ∧ b' < (H i).n ∧ (H i).obj b' ≠ .dead ∧ ρ b' = some im') ∨ ρ b' = none) → im.blk = im'.blk → b = b' := by
      intro b b' im im' k1 c1 c2 c3 c4 c5 c6 e1 e2 e3
      rcases e2 with ⟨e4, e5, e6, e7, e8⟩ | e4
      · exact I.inj b b' im im' k1 i c2 e8 c4 (by omega) c5 e6 c3 (vis D ho hL hi hready e6 e5) c6 e7 e3
      · obtain ⟨_, hlt⟩ := stands c2 c4 c5 c1 c3 c6
        rcases st.fresh b' im' e1 e4 with h | ⟨b1, im1, g1, g2, g3, g4⟩
        · omega
        · exfalso
          have hb1w : b1 ∈ W i := by rw [k.wls]; exact g1
          have hb1n : b1 < (H i).n := by rw [← hn0]; exact g2
          rcases st.wrote b1 g1 with h | h | ⟨_, h'⟩
          · simp [maskH] at h
          · omega
          · have hbm : b1 ∉ mkM M i := fun hbm => h' (by rw [maskH_obj, if_pos hbm])
            rw [maskH_obj, if_neg hbm, AH.obj_eq q1 q2] at h'
            have := I.inj b b1 im im1 k1 i c2 g3 c4 (by omega) c5 hb1n c3 (vis D ho hL hi hready hb1n hbm) c6 h' (by rw [e3, g4])
            exact c1 (this ▸ hb1w)
    have hm1o : ∀ {b k'}, ((H k').obj b = .dead ∨ (H k').obj b = hm1.obj b) → (H k').obj b ≠ .dead → hm1.obj b ≠ .dead := fun h hd => by
      rcases h with h | h
      · exact absurd h hd
      · rw [← h]; exact hd
    rcases cls D I ho hL hi hready k st h1 h2' h3 h4 with ⟨c1, c2, c3, c4, c5, c6, c7⟩ | ⟨c1, c2, c3⟩ | ⟨c1, c2, c3⟩ <;>
      rcases cls D I ho hL hi hready k st h1' h2'' h3' h4' with ⟨e1, e2, e3, e4, e5, e6, e7⟩ | ⟨e1, e2, e3⟩ | ⟨e1, e2, e3⟩
    · exact st.rel.inj b b' im im' h1 h1' c7 e7 (hm1o (.inr c6) h5) (hm1o (.inr e6) h5') h6
    · exact st.rel.inj b b' im im' h1 h1' c7 e3 (hm1o (.inr c6) h5) (hm1o e2 h5') h6
    · exact (mixed e1 e2 e3 h2'' h3' h5' h1 (.inl ⟨c1, c2, c3, c4, c5⟩) h6.symm).symm
    · exact st.rel.inj b b' im im' h1 h1' c3 e7 (hm1o c2 h5) (hm1o (.inr e6) h5') h6
    · exact st.rel.inj b b' im im' h1 h1' c3 e3 (hm1o c2 h5) (hm1o e2 h5') h6
    · exact (mixed e1 e2 e3 h2'' h3' h5' h1 (.inr c1) h6.symm).symm
    · exact mixed c1 c2 c3 h2' h3 h5 h1' (.inl ⟨e1, e2, e3, e4, e5⟩) h6
    · exact mixed c1 c2 c3 h2' h3 h5 h1' (.inr e1) h6
    · exact I.inj b b' im im' k1 k1' c2 e2 h2' h2'' h3 h3' c3 e3 h5 h5' h6
  · -- wrt
    rcases hLj with hLj | rfl
    · obtain ⟨⟨im, h1⟩, h2'⟩ := I.wrt j hj hLj b hbj
      exact ⟨⟨im, st.ext _ _ h1⟩, h2'⟩
    · have hlog : b ∈ hm1.log := by rw [← k.wls]; exact hbj
      have hbn := (D.wok j hio b hbj).1
      rcases st.wrote b hlog with h | h | ⟨⟨im2, h⟩, h'⟩
      · simp [maskH] at h
      · omega
      · have hbm : b ∉ mkM M j := fun hbm => h' (by rw [maskH_obj, if_pos hbm])
        rw [maskH_obj, if_neg hbm, AH.obj_eq q1 q2] at h'
        exact ⟨⟨im2, st.ext _ _ h⟩, h'⟩
  · -- slots
    by_cases hd : o.dst = some x
    · have hik : i < k' := (hm i o ho hd).2 (.inr rfl)
      have hT : (T k').get x = some r := by
        rw [D.slots (k1 := i + 1) (by omega) hk fun j p hj1 hj2 hp hpd => ?_, k.slot, hd]
        · show ((T i).set x r).get x = _
          rw [Tr.get_set, if_pos rfl]
        · rcases (hm j p hp hpd).1 hj2 with h3 | h3
          · have := (visT D ho hL hi hready (dst_in hd) j p hp hpd).2 h3; omega
          · omega
      have hxN : x < Nt := (okOper_some (D.opers o (List.mem_of_getElem? (by rw [Array.getElem?_toList]; exact ho)))).1 x hd
      rw [hT, hd]
      show VR ρ' r ((a.tmps.setIfInBounds x r').getD x undef)
      rw [Array.getD_eq_getD_getElem?, Array.getElem?_setIfInBounds, I.size]
      simpa [hxN] using hv
    · have hmL : MtT ops x L k' := fun j p hp hpd => by
        rw [hm j p hp hpd]
        constructor
        · rintro (h | h)
          · exact h
          · subst h; rw [ho] at hp; cases hp; exact absurd hpd hd
        · exact .inl
      have := (I.slots x k' hk hmL).mono st.ext
      cases hdst : o.dst with
      | none => exact this
      | some y =>
        show VR ρ' _ ((a.tmps.setIfInBounds y r').getD x undef)
        have hxy : x ≠ y := fun e => hd (by rw [hdst, e])
        rw [Array.getD_eq_getD_getElem?, Array.getElem?_setIfInBounds, if_neg (by omega), ← Array.getD_eq_getD_getElem?]
        exact this
  · cases hdst : o.dst with
    | none => exact I.size
    | some y => simpa [Act.put] using I.size
  · rw [put_defers]; exact I.defs
  · -- frame
    rcases st.frame c (Nat.lt_of_lt_of_le hc I.hsize) with h | ⟨b1, im1, g1, g2, g3, g4⟩
    · rcases I.frame c hc with h' | ⟨j, hj, hLj, h'⟩
      · exact .inl (h.trans h')
      · exact .inr ⟨j, hj, .inl hLj, h'⟩
    · right
      have hb1w : b1 ∈ W i := by rw [k.wls]; exact g1
      have hb1n : b1 < (H i).n := by rw [← hn0]; exact g2
      cases h0 : ρ0 b1 with
      | some im0 =>
        obtain rfl := Option.some.inj ((I.ext _ _ h0).symm.trans g3)
        exact ⟨i, hio, .inr rfl, b1, hb1w, hlow h0 hb1n, im0, h0, g4⟩
      | none =>
        rcases I.fresh b1 im1 g3 h0 with h | ⟨j, hj, hLj, b2, hb2, hb2n, im2, h3, h4⟩
        · omega
        · exact ⟨j, hj, .inl hLj, b2, hb2, hb2n, im2, h3, h4.trans g4⟩
  · -- fresh
    cases hρ : ρ b with
    | some im2 =>
      obtain rfl := Option.some.inj ((st.ext _ _ hρ).symm.trans h1)
      rcases I.fresh b im2 hρ h2' with h | ⟨j, hj, hLj, h⟩
      · exact .inl h
      · exact .inr ⟨j, hj, .inl hLj, h⟩
    | none =>
      rcases st.fresh b im h1 hρ with h | ⟨b1, im1, g1, g2, g3, g4⟩
      · exact .inl (Nat.le_trans I.hsize h)
      · have hb1w : b1 ∈ W i := by rw [k.wls]; exact g1
        have hb1n : b1 < (H i).n := by rw [← hn0]; exact g2
        cases h0 : ρ0 b1 with
        | some im0 =>
          obtain rfl := Option.some.inj ((I.ext _ _ h0).symm.trans g3)
          exact .inr ⟨i, hio, .inr rfl, b1, hb1w, hlow h0 hb1n, im0, h0, g4⟩
        | none =>
          rcases I.fresh b1 im1 g3 h0 with h | ⟨j, hj, hLj, b2, hb2, hb2n, im2, h3, h4⟩
          · left; omega
          · exact .inr ⟨j, hj, .inl hLj, b2, hb2, hb2n, im2, h3, h4.trans g4⟩
end
end Go.Proofs.YtkmbkejmfffafaaGreatDoor.Refl
namespace Go.Proofs.YtkmbkejmfffafaaGreatDoor.Refl
open Go
set_option linter.unusedVariables false
set_option linter.unusedSimpArgs false
section
variable {P : Program} {E : Env} {C : CallF} {ops : Array Oper} {M : List (List Nat)} {T : Nat → Tr Value} {H : Nat → AH} {W : Nat → List Nat} {G Nt : Nat} (D : DC E C ops M T H W G Nt)
  {ρ0 : Ren} {w0 : World} {ds : List Deferred} {ρ : Ren} {w : World} {a : Act}
include D in
theorem inv_end {L : Nat → Prop} (I : Inv P ops T H W Nt ρ0 w0 ds L ρ w a) (hall : ∀ j, j < ops.size → L j) (hf0 : Fr ρ0 (H 0).n (H ops.size).n) (hr0 : Rel P.cellsOf ρ0 (H 0) w0) :
    TR Nt ρ (T ops.size) a.tmps ∧ a.defers = ds ∧ Step P.cellsOf ρ0 (H 0) w0 ρ (H ops.size) w := by
  have hM : ∀ b, Mt W ops.size b L ops.size := fun b j hj _ => ⟨fun _ => hall j hj, fun _ => hj⟩
  have hMT : ∀ x, MtT ops x L ops.size := fun x j o ho _ => by
    have hj := (Array.getElem?_eq_some_iff.1 ho).1
    exact ⟨fun _ => hall j hj, fun _ => hj⟩
  refine ⟨⟨I.size, fun x => I.slots x _ (Nat.le_refl _) (hMT x)⟩, I.defs, ?_⟩
  exact {
    ext := I.ext
    dom := fun b im h1 h2 => by
      obtain ⟨j, hj, _, h3, h4⟩ := I.dom b im h1 h2
      have := D.nmono (i := 0) (j := j) (by omega) (by omega)
      have := D.nmono (i := j + 1) (j := ops.size) (by omega) (by omega)
      omega
    rel := {
      obj := fun b im h1 h2 => I.cont b im _ h1 (Nat.le_refl _) h2 (hM b)
      inj := fun b b' im im' h1 h1' h2 h2' h3 h3' h4 => I.inj b b' im im' _ _ h1 h1' (Nat.le_refl _) (Nat.le_refl _) h2 h2' (hM b) (hM b') h3 h3' h4
      top := fun b hb => AH.obj_top _ hb }
    size := I.hsize
    n_le := D.nmono (Nat.zero_le _) (Nat.le_refl _)
    str := I.str
    frame := fun c hc => by
      rcases I.frame c hc with h | ⟨j, hj, _, b, hb, hbn, im, h1, h2⟩
      · exact .inl h
      · exact .inr ⟨b, im, (D.logs _ (Nat.le_refl _)).2 (.inl ⟨j, hj, hb⟩), hbn, h1, h2⟩
    fresh := fun b im h1 h2 => by
      rcases I.fresh b im h1 h2 with h | ⟨j, hj, _, b0, hb, hbn, im0, h3, h4⟩
      · exact .inl h
      · exact .inr ⟨b0, im0, (D.logs _ (Nat.le_refl _)).2 (.inl ⟨j, hj, hb⟩), hbn, h3, h4⟩
    keep := fun b hb hl => D.const (Nat.zero_le _) (Nat.le_refl _) hb fun j _ hj hw => hl ((D.logs _ (Nat.le_refl _)).2 (.inl ⟨j, hj, hw⟩))
    logm := fun b hb => (D.logs _ (Nat.le_refl _)).2 (.inr hb)
    wrote := fun b hb => by
      rcases (D.logs _ (Nat.le_refl _)).1 hb with ⟨j, hj, hw⟩ | h
      · right
        rcases Nat.lt_or_ge b (H 0).n with hbn | hbn
        · right
          obtain ⟨⟨im, h1⟩, h2⟩ := I.wrt j hj (hall j hj) b hw
          refine ⟨?_, ?_⟩
          · cases h0 : ρ0 b with
            | some im0 => exact ⟨im0, rfl⟩
            | none =>
              obtain ⟨j2, _, _, h3, _⟩ := I.dom b im h1 h0
              have := D.nmono (i := 0) (j := j2) (by omega) (by omega)
              omega
          · have least : ∀ n, n < ops.size → b ∈ W n → (H 0).obj b ≠ .dead := by
              intro n
              induction n using Nat.strongRecOn with
              | _ n ih =>
                intro hn hbn2
                by_cases hex : ∃ m, m < n ∧ b ∈ W m
                · obtain ⟨m, hm, hbm⟩ := hex
                  exact ih m hm (by omega) hbm
                · have := (I.wrt n hn (hall n hn) b hbn2).2
                  rwa [D.const (Nat.zero_le n) (by omega) hbn fun q _ hq hbq => hex ⟨q, hq, hbq⟩] at this
            exact least j hj hw
        · exact .inl hbn
      · exact .inl h }
def left (ops : Array Oper) (listed : Array Bool) : Nat := ((List.range ops.size).filter fun i => !listed.getD i false).length
theorem filter_lt {p q : Nat → Bool} : ∀ (l : List Nat), (∀ x, q x = true → p x = true) → (∃ x ∈ l, p x = true ∧ q x = false) → (l.filter q).length < (l.filter p).length
  | [], _, h => by obtain ⟨x, hx, _⟩ := h; simp at hx
  | y :: l, hpq, h => by
    have hle : ∀ (l : List Nat), (l.filter q).length ≤ (l.filter p).length := by
      intro l
      induction l with
      | nil => simp
      | cons z l ih =>
        by_cases hq : q z = true
        · simp [List.filter_cons, hq, hpq z hq]; exact ih
        · have hq' : q z = false := by simpa using hq
          by_cases hp : p z = true
          · simp [List.filter_cons, hq', hp]; omega
          · have hp' : p z = false := by simpa using hp
            simp [List.filter_cons, hq', hp']; exact ih
    obtain ⟨x, hx, h1, h2⟩ := h
    rcases List.mem_cons.1 hx with rfl | hx
    · simp [List.filter_cons, h1, h2]; have := hle l; omega
    · have ih := filter_lt l hpq ⟨x, hx, h1, h2⟩
      by_cases hq : q y = true
      · simp [List.filter_cons, hq, hpq y hq]; exact ih
      · have hq' : q y = false := by simpa using hq
        by_cases hp : p y = true
        · simp [List.filter_cons, hq', hp]; omega
        · have hp' : p y = false := by simpa using hp
          simp [List.filter_cons, hq', hp']; exact ih
theorem set_getD {listed : Array Bool} {i j : Nat} (hi : i < listed.size) : (listed.setIfInBounds i true).getD j false = true ↔ listed.getD j false = true ∨ j = i := by
  rw [Array.getD_eq_getD_getElem?, Array.getD_eq_getD_getElem?, Array.getElem?_setIfInBounds]
  by_cases h : i = j
  · subst h; simp [hi]
  · rw [if_neg h]
    constructor
    · exact .inl
    · rintro (h1 | h1)
      · exact h1
      · exact absurd h1.symm h
theorem getD_any {listed : Array Bool} {i : Nat} (hi : i < listed.size) : listed.getD i true = listed.getD i false := by
  rw [Array.getD_eq_getD_getElem?, Array.getD_eq_getD_getElem?, Array.getElem?_eq_getElem hi]; rfl
theorem ready_mem {listed : Array Bool} {i : Nat} (hs : listed.size = ops.size) (h : i ∈ Region.ready .any ops listed) : ∃ o, ops[i]? = some o ∧ ¬ (listed.getD i false = true) ∧ ∀ e ∈ o.after.toList, Region.binds .any e = true → listed.getD e.on false = true := by
  unfold Region.ready at h
  rw [List.mem_filter] at h
  obtain ⟨h1, h2⟩ := h
  rw [Bool.and_eq_true] at h2
  obtain ⟨h2, h3⟩ := h2
  cases ho : ops[i]? with
  | none => rw [ho] at h3; simp at h3
  | some o =>
    rw [ho] at h3
    simp only [Option.map_some, Option.getD_some] at h3
    have hlt : i < listed.size := by rw [hs]; exact List.mem_range.1 h1
    rw [getD_any hlt] at h2
    refine ⟨o, rfl, by simpa using h2, fun e he hb => ?_⟩
    rw [← Array.all_toList] at h3
    have := List.all_eq_true.1 h3 e he
    rw [hb] at this
    simpa using this
theorem ready_nil (hback : Back2 ops) {listed : Array Bool} (hs : listed.size = ops.size) (h : Region.ready .any ops listed = []) : ∀ j, j < ops.size → listed.getD j false = true := by
  intro j
  induction j using Nat.strongRecOn with
  | _ j ih =>
    intro hj
    by_cases hl : listed.getD j false = true
    · exact hl
    · exfalso
      have ho : ops[j]? = some ops[j] := Array.getElem?_eq_getElem hj
      have : j ∈ Region.ready .any ops listed := by
        unfold Region.ready
        rw [List.mem_filter]
        refine ⟨List.mem_range.2 hj, ?_⟩
        rw [Bool.and_eq_true]
        refine ⟨by rw [getD_any (by omega)]; simpa using hl, ?_⟩
        rw [ho]
        simp only [Option.map_some, Option.getD_some]
        rw [← Array.all_toList]
        refine List.all_eq_true.2 fun e he => ?_
        cases hb : Region.binds .any e with
        | false => rfl
        | true =>
          have hlt := hback j _ ho e he hb
          have := ih e.on hlt (by omega)
          simp only [Bool.not_true, Bool.false_or]
          exact this
      rw [h] at this
      simp at this
theorem aeval_ok' {N : Nat} {t : Tr Value} (hg : GL G ρ) {x : Operand} (hx : okOpd G x = true) (ht : ∀ j, x = .tmp j → VR ρ (unset (t.get j)) (a.tmps.getD j undef)) : VR ρ (aeval t x) (a.eval x) := by
  cases x with
  | tmp i => exact ht i rfl
  | const v => exact flat_VR ρ 5 v hx
  | global g =>
    have hlt : g < G := by simpa [okOpd, blt_eq] using hx
    obtain ⟨im, h1, h2, h3⟩ := hg g hlt
    have := VR.ptr_mk (ρ := ρ) (b := g) (off := 0) h1
    rw [h2, h3] at this
    exact this
  | func f => exact .func .nil .nil
include D in
theorem any_ok (hE : EnvM P E) (hC : CallOK P G C) (hobN : OB (H ops.size)) (hg0 : GL G ρ0) (hf0 : Fr ρ0 (H 0).n (H ops.size).n) {Q : Exit → Act → World → Prop}
    (hfin : ∀ L ρ w a, Inv P ops T H W Nt ρ0 w0 ds L ρ w a → (∀ j, j < ops.size → L j) → Q .normal a w) :
    ∀ (fuel : Nat) (listed : Array Bool) (ρ : Ren) (w : World) (a : Act), left ops listed ≤ fuel → listed.size = ops.size → Down ops (fun i => listed.getD i false = true) →
      Inv P ops T H W Nt ρ0 w0 ds (fun i => listed.getD i false = true) ρ w a → wpAny P .any ops Q fuel listed a w := by
  intro fuel
  induction fuel with
  | zero =>
    intro listed ρ w a hc hs hL I
    have hall : ∀ j, j < ops.size → listed.getD j false = true := fun j hj => by
      by_cases hl : listed.getD j false = true
      · exact hl
      · exfalso
        have hm : j ∈ (List.range ops.size).filter fun i => !listed.getD i false := List.mem_filter.2 ⟨List.mem_range.2 hj, by simpa using hl⟩
        have : 0 < ((List.range ops.size).filter fun i => !listed.getD i false).length := List.length_pos_of_mem hm
        unfold left at hc
        omega
    refine ⟨?_, hfin _ _ _ _ I hall⟩
    cases hr : Region.ready .any ops listed with
    | nil => rfl
    | cons i l =>
      obtain ⟨o, ho, hn, _⟩ := ready_mem (ops := ops) (listed := listed) (i := i) hs (by rw [hr]; simp)
      exact absurd (hall i (Array.getElem?_eq_some_iff.1 ho).1) hn
  | succ fuel ih =>
    intro listed ρ w a hc hs hL I
    refine ⟨fun hr => hfin _ _ _ _ I (ready_nil D.back hs hr), fun i him => ?_⟩
    obtain ⟨o, ho, hi, hready⟩ := ready_mem hs him
    have hio := (Array.getElem?_eq_some_iff.1 ho).1
    obtain ⟨b0, h2, r, hm1, k⟩ := D.at_ ho
    obtain ⟨q1, q2, q3⟩ := awanted_same k.want
    have hrel := relIn D I ho hL hi hready q1 q2
    have hfr := frIn D I hf0 ho hL hi hready
    have hob1 : OB hm1 := k.ob (D.obs hobN (ops.size - (i + 1)) (i + 1) (by omega))
    have hob2 : OB h2 := (CSfwd D k).ob hob1
    have hgood := D.opers o (List.mem_of_getElem? (by rw [Array.getElem?_toList]; exact ho))
    -- what comes after
    have next : ∀ ρ' r' w', VR ρ' r r' → Step P.cellsOf ρ (maskH (mkM M i) h2) w ρ' hm1 w' → wpAny P .any ops Q fuel (listed.setIfInBounds i true) (a.put o.dst r') w' := by
      intro ρ' r' w' hv st
      have hset : (fun j => (listed.setIfInBounds i true).getD j false = true) = (fun j => listed.getD j false = true ∨ j = i) := by
        funext j; exact propext (set_getD (by omega))
      refine ih (listed.setIfInBounds i true) ρ' w' (a.put o.dst r') ?_ (by simpa using hs) ?_ ?_
      · have : left ops (listed.setIfInBounds i true) < left ops listed := by
          refine filter_lt _ (fun x hx => ?_) ⟨i, List.mem_range.2 hio, by simpa using hi, ?_⟩
          · have hx' : ¬ ((listed.setIfInBounds i true).getD x false = true) := by simpa using hx
            rw [set_getD (by omega)] at hx'
            have : ¬ listed.getD x false = true := fun h => hx' (.inl h)
            simpa using this
          · have : (listed.setIfInBounds i true).getD i false = true := (set_getD (by omega)).2 (.inr rfl)
            rw [this]; rfl
        omega
      · rw [hset]
        rintro j p (hj | rfl) hp e he hb
        · exact .inl (hL j p hj hp e he hb)
        · rw [ho] at hp; cases hp
          exact .inl (hready e he hb)
      · rw [hset]
        exact inv_step D I hf0 ho hL hi hready k st hv
    unfold wpOp
    rw [ho]
    simp only
    obtain ⟨_, _, _, g4⟩ := awanted_ok (ops := ops) (a := a) (ρ := ρ) k.want fun g want p x hgd hp hd =>
      I.slots x i (by omega) (visT D ho hL hi hready (guard_in (ops := ops.toList) hgd (by rw [Array.getElem?_toList]; exact hp) hd))
    obtain ⟨_, hwant⟩ := g4 hob2
    rw [hwant]
    rcases k.run with ⟨rfl, ha⟩ | ⟨rfl, rfl, rfl⟩
    · rw [if_pos rfl]
      left
      refine aop_ok hE hC D.fwd (fun x hx => ?_) ha hob1 (hg0.mono I.ext) hrel ?_ _ _ next
      · exact aeval_ok' (N := Nt) (hg0.mono I.ext) ((okOper_some hgood).2 x hx) fun j hj => I.slots j i (by omega) (visT D ho hL hi hready (opd_in (by rw [← hj]; exact hx)))
      · have e1 : (maskH (mkM M i) h2).n = (H i).n := q2
        rw [e1, ← k.n]; exact hfr
    · rw [if_neg (by simp)]
      exact next ρ undef w (.tuple .nil) (.refl hrel)
end
end Go.Proofs.YtkmbkejmfffafaaGreatDoor.Refl
namespace Go.Proofs.YtkmbkejmfffafaaGreatDoor.Refl
open Go
set_option linter.unusedVariables false
set_option linter.unusedSimpArgs false
def exOf : AEx → Exit
  | .normal => .normal
  | .exit id => .exit id
  | .ret => .ret
def CPost (P : Program) (N : Nat) (s : St) (ρ : Ren) (h : AH) (w : World) (e : Exit) (a : Act) (w' : World) : Prop := e = exOf s.e ∧ Post P N s ρ h w a w'
section
variable {P : Program} {E : Env} {C : CallF} {G N : Nat} {t : Tr Value} {a : Act} {h h1 h2 : AH} {ρ ρ' : Ren} {w w' : World} {d : List ADef} {s : St}
theorem rep_false (n i : Nat) : (Array.replicate n false).getD i false = false := by
  rw [Array.getD_eq_getD_getElem?, Array.getElem?_replicate]
  by_cases h : i < n <;> simp [h]
theorem okReg_some {ops : Array Oper} {draw : Bool} (h : okReg G N ops draw = true) : (∀ o ∈ ops.toList, okOper G N o = true) ∧ (draw = true → Back2 ops ∧ okTmps ops.toList (Region.before ops).toList = true) := by
  unfold okReg at h
  cases h1 : allB (okOper G N) ops.toList with
  | false => simp [h1] at h
  | true =>
    simp only [h1] at h
    refine ⟨(allB_eq _ _).1 h1, fun hd => ?_⟩
    subst hd
    simp only [okDrawn] at h
    cases h2 : okRank .any ops.toList (upTo (len ops.toList) []) with
    | false => simp [h2] at h
    | true =>
      simp only [h2] at h
      cases h3 : okTmps ops.toList (Region.before ops).toList with
      | false => simp [h3] at h
      | true => exact ⟨okRank_back h2, rfl⟩
theorem mkDC {ops : Array Oper} (hx : adrawn E C ops t d h = some s) (hok : okReg G N ops true = true) (hCF : CFwd C) :
    ∃ M T H W, DC E C ops M T H W G N ∧ T 0 = t ∧ H 0 = h ∧ T ops.size = s.t ∧ H ops.size = s.h ∧ s.d = d ∧ s.e = .normal := by
  obtain ⟨M, R, h1, h2, rfl⟩ := adrawn_some hx
  obtain ⟨T, H, W, k1, k2, k3, k4, k5, k6⟩ := arecs_seq _ _ _ _ _ _ h1
  obtain ⟨g1, g2⟩ := okReg_some hok
  obtain ⟨g3, g4⟩ := g2 rfl
  rw [k6] at h2
  have h2 : okW (Region.before ops).toList M ((List.range ops.size).map fun i => ⟨(H i).n, W i⟩) = true := by simpa using h2
  exact ⟨M, T, H, W, ⟨k1, g3, g4, okW_some h2, g1, hCF⟩, k2, k3, by simpa using k4, by simpa using k5, rfl, rfl⟩
theorem drawn_fwd {ops : Array Oper} (hx : adrawn E C ops t d h = some s) (hok : okReg G N ops true = true) (hCF : CFwd C) : Fwd h s.h := by
  obtain ⟨M, T, H, W, D, _, rfl, _, k4, _, _⟩ := mkDC hx hok hCF
  rw [← k4]
  exact ⟨D.nmono (Nat.zero_le _) (Nat.le_refl _), fun ho => D.obs ho ops.size 0 (by omega),
    fun b hb hl => D.const (Nat.zero_le _) (Nat.le_refl _) hb fun j _ hj hw => hl ((D.logs _ (Nat.le_refl _)).2 (.inl ⟨j, hj, hw⟩)), fun b hb => (D.logs _ (Nat.le_refl _)).2 (.inr hb)⟩
theorem drawn_ok (hE : EnvM P E) (hC : CallOK P G C) (hCF : CFwd C) {id : Nat} {ops : Array Oper} (hm : P.follows .mixedOrders = true) (hx : adrawn E C ops t d h = some s) (hok : okReg G N ops true = true) (hob : OB s.h)
    (hg : GL G ρ) (hr : Rel P.cellsOf ρ h w) (hf : Fr ρ h.n s.h.n) (ht : TR N ρ t a.tmps) (hd : DsR ρ d a.defers) : (Code.region id ops true).wp P (CPost P N s ρ h w) a w := by
  obtain ⟨M, T, H, W, D, rfl, rfl, k3, k4, k5, k6⟩ := mkDC hx hok hCF
  refine wp_region_any hm ?_
  have hf' : Fr ρ (H 0).n (H ops.size).n := by rw [k4]; exact hf
  refine any_ok D (ρ0 := ρ) (w0 := w) (ds := a.defers) hE hC (by rw [k4]; exact hob) hg hf' (fun L ρ2 w2 a2 I hall => ?_) ops.size _ ρ _ a ?_ (by simp) (fun i o hi => ?_) ?_
  · obtain ⟨q1, q2, q3⟩ := inv_end D I hall hf' hr
    refine ⟨by rw [k6]; rfl, ρ2, by rw [← k3]; exact q1, ?_, by rw [← k4]; exact q3⟩
    rw [q2, k5]; exact hd.mono q3.ext
  · have := List.length_filter_le (fun i => !(Array.replicate ops.size false).getD i false) (List.range ops.size)
    simpa [left] using this
  · have hi : (Array.replicate ops.size false).getD i false = true := hi
    rw [rep_false] at hi; cases hi
  · have hfalse : (fun i => (Array.replicate ops.size false).getD i false = true) = fun _ => False := by
      funext i
      rw [rep_false]; simp
    rw [hfalse]
    exact inv_start D hr ht rfl hf' rfl ⟨rfl, rfl, rfl⟩
theorem thenC_some {k : Tr Value → List ADef → AH → Res} {r : Res} (hx : thenC k r = some s) : ∃ s1, r = some s1 ∧ ((s1.e = .normal ∧ k s1.t s1.d s1.h = some s) ∨ (s1.e ≠ .normal ∧ s = s1)) := by
  cases r with
  | none => cases hx
  | some s1 =>
    refine ⟨s1, rfl, ?_⟩
    obtain ⟨e, t, d, h⟩ := s1
    cases e with
    | normal => exact .inl ⟨rfl, hx⟩
    | exit id => right; refine ⟨by simp, ?_⟩; have hx : some (St.mk (.exit id) t d h) = some s := hx; cases hx; rfl
    | ret => right; refine ⟨by simp, ?_⟩; have hx : some (St.mk .ret t d h) = some s := hx; cases hx; rfl
theorem outOf_some {id : Nat} {r : Res} (hx : outOf id r = some s) : ∃ s1, r = some s1 ∧ s.t = s1.t ∧ s.d = s1.d ∧ s.h = s1.h ∧ s.e = (match s1.e with | .exit j => if j = id then .normal else .exit j | e => e) := by
  cases r with
  | none => cases hx
  | some s1 =>
    refine ⟨s1, rfl, ?_⟩
    obtain ⟨e, t, d, h⟩ := s1
    cases e with
    | normal => have hx : some (St.mk .normal t d h) = some s := hx; cases hx; exact ⟨rfl, rfl, rfl, rfl⟩
    | ret => have hx : some (St.mk .ret t d h) = some s := hx; cases hx; exact ⟨rfl, rfl, rfl, rfl⟩
    | exit j =>
      have hx : Bool.rec (motive := fun _ => Res) (some ⟨.exit j, t, d, h⟩) (some ⟨.normal, t, d, h⟩) (Nat.beq j id) = some s := hx
      rw [bq] at hx
      by_cases hj : j = id
      · simp only [hj, decide_true] at hx; cases hx; exact ⟨rfl, rfl, rfl, by simp [hj]⟩
      · simp only [hj, decide_false] at hx; cases hx; exact ⟨rfl, rfl, rfl, by simp [hj]⟩
theorem loop_fwd {f : Tr Value → List ADef → AH → Res} (hf : ∀ t d h s, f t d h = some s → Fwd h s.h) : ∀ (n : Nat) (t : Tr Value) (d : List ADef) (h : AH) (s : St), loopN f n t d h = some s → Fwd h s.h
  | 0, t, d, h, s, hx => by cases hx
  | n + 1, t, d, h, s, hx => by
    have hx : thenC (loopN f n) (f t d h) = some s := hx
    obtain ⟨s1, h1, h2 | h2⟩ := thenC_some hx
    · exact (hf _ _ _ _ h1).trans (loop_fwd hf n _ _ _ _ h2.2)
    · rw [h2.2]; exact hf _ _ _ _ h1
theorem acode_fwd (hCF : CFwd C) : ∀ (c : Code), okCode G N c = true → ∀ (n : Nat) (t : Tr Value) (d : List ADef) (h : AH) (s : St), acode c E C n t d h = some s → Fwd h s.h := by
  intro c
  induction c with
  | skip => intro _ n t d h s hx; have hx : some (St.mk .normal t d h) = some s := hx; cases hx; exact .refl _
  | label l => intro _ n t d h s hx; have hx : some (St.mk .normal t d h) = some s := hx; cases hx; exact .refl _
  | region id ops draw =>
    intro hok n t d h s hx
    cases draw with
    | false => exact (aops_fwd hCF (ops := ops.toList) ops.toList t d h hx).1
    | true => exact drawn_fwd (ops := ops) hx hok hCF
  | seq x y ihx ihy =>
    intro hok n t d h s hx
    have hok : (match okCode G N x with | true => okCode G N y | false => false) = true := hok
    cases hxo : okCode G N x with
    | false => simp [hxo] at hok
    | true =>
      simp only [hxo] at hok
      have hx : thenC (acode y E C n) (acode x E C n t d h) = some s := hx
      obtain ⟨s1, h1, h2 | h2⟩ := thenC_some hx
      · exact (ihx hxo _ _ _ _ _ h1).trans (ihy hok _ _ _ _ _ h2.2)
      · rw [h2.2]; exact ihx hxo _ _ _ _ _ h1
  | cond c x y ihx ihy =>
    intro hok n t d h s hx
    have hok : (match okOpd G c with | false => false | true => match okCode G N x with | true => okCode G N y | false => false) = true := hok
    cases hco : okOpd G c with
    | false => simp [hco] at hok
    | true =>
      simp only [hco] at hok
      cases hxo : okCode G N x with
      | false => simp [hxo] at hok
      | true =>
        simp only [hxo] at hok
        have hx : (match asBool (aeval t c) with | some q => condC (acode x E C n) (acode y E C n) t d (h.dec q) | none => none) = some s := hx
        cases hb : asBool (aeval t c) with
        | none => simp [hb] at hx
        | some q =>
          simp only [hb] at hx
          cases hdec : h.dec q with
          | mk v h2 =>
            rw [hdec] at hx
            cases v with
            | true => exact (Fwd.dec hdec).trans (ihx hxo _ _ _ _ _ hx)
            | false => exact (Fwd.dec hdec).trans (ihy hok _ _ _ _ _ hx)
  | block id x ih =>
    intro hok n t d h s hx
    have hx : outOf id (acode x E C n t d h) = some s := hx
    obtain ⟨s1, h1, _, _, h4, _⟩ := outOf_some hx
    rw [h4]; exact ih hok _ _ _ _ _ h1
  | loop x ih =>
    intro hok n t d h s hx
    exact loop_fwd (fun t d h s => ih hok n t d h s) n t d h s hx
  | exit id => intro _ n t d h s hx; have hx : some (St.mk (.exit id) t d h) = some s := hx; cases hx; exact .refl _
  | ret => intro _ n t d h s hx; have hx : some (St.mk .ret t d h) = some s := hx; cases hx; exact .refl _
  | rangeFunc => intro _ n t d h s hx; cases hx
  | scope => intro _ n t d h s hx; cases hx
  | goto => intro _ n t d h s hx; cases hx
  | refuse => intro _ n t d h s hx; cases hx
end
end Go.Proofs.YtkmbkejmfffafaaGreatDoor.Refl
namespace Go.Proofs.YtkmbkejmfffafaaGreatDoor.Refl
open Go
set_option linter.unusedVariables false
set_option linter.unusedSimpArgs false
section
variable {P : Program} {E : Env} {C : CallF} {G N : Nat}
def LJ (P : Program) (G N : Nat) (f : Tr Value → List ADef → AH → Res) (s : St) (ρ0 : Ren) (h0 : AH) (w0 : World) (k : Nat) (a : Act) (w : World) : Prop :=
  ∃ t d h ρ, loopN f k t d h = some s ∧ GL G ρ ∧ Fr ρ h.n s.h.n ∧ TR N ρ t a.tmps ∧ DsR ρ d a.defers ∧ Step P.cellsOf ρ0 h0 w0 ρ h w
theorem exists_least {p : Nat → Prop} : ∀ n, p n → ∃ m, p m ∧ ∀ k, p k → m ≤ k := by
  intro n
  induction n using Nat.strongRecOn with
  | _ n ih =>
    intro hn
    by_cases h : ∃ k, k < n ∧ p k
    · obtain ⟨k, hk, hp⟩ := h
      exact ih k hk hp
    · exact ⟨n, hn, fun k hk => Nat.le_of_not_lt fun hlt => h ⟨k, hlt, hk⟩⟩
open Classical in
noncomputable def least (p : Nat → Prop) : Nat := if h : ∃ n, p n then Classical.choose (exists_least h.choose h.choose_spec) else 0
theorem least_both {p : Nat → Prop} (h : ∃ n, p n) : p (least p) ∧ ∀ k, p k → least p ≤ k := by
  unfold least; rw [dif_pos h]; exact Classical.choose_spec (exists_least h.choose h.choose_spec)
theorem least_spec {p : Nat → Prop} (h : ∃ n, p n) : p (least p) := (least_both h).1
theorem least_le {p : Nat → Prop} {n : Nat} (h : p n) : least p ≤ n := (least_both ⟨n, h⟩).2 n h
theorem acode_ok (hE : EnvM P E) (hC : CallOK P G C) (hCF : CFwd C) (hm : P.follows .mixedOrders = true) : ∀ (c : Code), okCode G N c = true → ∀ (n : Nat) (t : Tr Value) (d : List ADef) (h : AH) (s : St), acode c E C n t d h = some s → OB s.h →
    ∀ (ρ : Ren) (w : World) (a : Act), GL G ρ → Rel P.cellsOf ρ h w → Fr ρ h.n s.h.n → TR N ρ t a.tmps → DsR ρ d a.defers → c.wp P (CPost P N s ρ h w) a w := by
  intro c
  induction c with
  | skip =>
    intro _ n t d h s hx hob ρ w a hg hr hf ht hd
    have hx : some (St.mk .normal t d h) = some s := hx
    cases hx
    exact wp_skip ⟨rfl, ρ, ht, hd, .refl hr⟩
  | label l =>
    intro _ n t d h s hx hob ρ w a hg hr hf ht hd
    have hx : some (St.mk .normal t d h) = some s := hx
    cases hx
    exact wp_label ⟨rfl, ρ, ht, hd, .refl hr⟩
  | exit id =>
    intro _ n t d h s hx hob ρ w a hg hr hf ht hd
    have hx : some (St.mk (.exit id) t d h) = some s := hx
    cases hx
    exact wp_exit ⟨rfl, ρ, ht, hd, .refl hr⟩
  | ret =>
    intro _ n t d h s hx hob ρ w a hg hr hf ht hd
    have hx : some (St.mk .ret t d h) = some s := hx
    cases hx
    exact wp_ret ⟨rfl, ρ, ht, hd, .refl hr⟩
  | region id ops draw =>
    intro hok n t d h s hx hob ρ w a hg hr hf ht hd
    cases draw with
    | true => exact drawn_ok hE hC hCF hm (ops := ops) hx hok hob hg hr hf ht hd
    | false =>
      have hx : aops E C ops.toList ops.toList t d h = some s := hx
      have hok : okReg G N ops false = true := hok
      refine wp_region ?_
      have := aops_ok hE hC hCF (okReg_some hok).1 (Q := CPost P N s ρ h w) ops.toList 0 (by simp) t d h hx hob ρ w a hg hr hf ht hd fun a' w' hp => ⟨by rw [(aops_fwd hCF _ _ _ _ hx).2]; rfl, hp⟩
      rw [List.range_eq_range']
      simpa using this
  | seq x y ihx ihy =>
    intro hok n t d h s hx hob ρ w a hg hr hf ht hd
    have hok : (match okCode G N x with | true => okCode G N y | false => false) = true := hok
    cases hxo : okCode G N x with
    | false => simp [hxo] at hok
    | true =>
      simp only [hxo] at hok
      have hx : thenC (acode y E C n) (acode x E C n t d h) = some s := hx
      obtain ⟨s1, h1, h2⟩ := thenC_some hx
      refine wp_seq ?_
      rcases h2 with ⟨h2, h3⟩ | ⟨h2, rfl⟩
      · have hfy := acode_fwd hCF y hok _ _ _ _ _ h3
        refine wp_mono (ihx hxo n t d h s1 h1 (hfy.ob hob) ρ w a hg hr (hf.sub (Nat.le_refl _) hfy.n) ht hd) fun e a' w' hp => ?_
        obtain ⟨he, ρ', p1, p2, p3⟩ := hp
        rw [h2] at he
        subst he
        refine wp_mono (ihy hok n _ _ _ s h3 hob ρ' w' a' (hg.mono p3.ext) p3.rel (Fr.next hf p3) p1 p2) fun e a2 w2 hq => ?_
        exact ⟨hq.1, hq.2.of_step hf p3⟩
      · refine wp_mono (ihx hxo n t d h s h1 hob ρ w a hg hr hf ht hd) fun e a' w' hp => ?_
        obtain ⟨he, hp⟩ := hp
        obtain ⟨e1, t1, d1, hh1⟩ := s
        cases e1 with
        | normal => exact absurd rfl h2
        | exit id => subst he; exact ⟨rfl, hp⟩
        | ret => subst he; exact ⟨rfl, hp⟩
  | cond c x y ihx ihy =>
    intro hok n t d h s hx hob ρ w a hg hr hf ht hd
    have hok : (match okOpd G c with | false => false | true => match okCode G N x with | true => okCode G N y | false => false) = true := hok
    cases hco : okOpd G c with
    | false => simp [hco] at hok
    | true =>
      simp only [hco] at hok
      cases hxo : okCode G N x with
      | false => simp [hxo] at hok
      | true =>
        simp only [hxo] at hok
        have hx : (match asBool (aeval t c) with | some q => condC (acode x E C n) (acode y E C n) t d (h.dec q) | none => none) = some s := hx
        cases hb : asBool (aeval t c) with
        | none => simp [hb] at hx
        | some q =>
          simp only [hb] at hx
          obtain ⟨_, k2⟩ := asBool_VR hb (aeval_ok hg ht hco)
          cases hdec : h.dec q with
          | mk v h2 =>
            rw [hdec] at hx
            obtain ⟨g1, g2, g3, g4⟩ := dec_some hdec
            have hr2 : Rel P.cellsOf ρ h2 w := hr.congr g1 g2 rfl
            have hf2 : Fr ρ h2.n s.h.n := by rw [g2]; exact hf
            have hpre : Step P.cellsOf ρ h w ρ h2 w := .same hr g1 g2 g3 rfl (Str.refl _)
            cases v with
            | true =>
              obtain ⟨_, hq⟩ := g4 ((acode_fwd hCF x hxo _ _ _ _ _ hx).ob hob)
              subst hq
              exact wp_cond_true k2 (wp_mono (ihx hxo n t d h2 s hx hob ρ w a hg hr2 hf2 ht hd) fun e a' w' hp => ⟨hp.1, hp.2.of_step hf hpre⟩)
            | false =>
              obtain ⟨_, hq⟩ := g4 ((acode_fwd hCF y hok _ _ _ _ _ hx).ob hob)
              subst hq
              exact wp_cond_false k2 (wp_mono (ihy hok n t d h2 s hx hob ρ w a hg hr2 hf2 ht hd) fun e a' w' hp => ⟨hp.1, hp.2.of_step hf hpre⟩)
  | block id x ih =>
    intro hok n t d h s hx hob ρ w a hg hr hf ht hd
    have hx : outOf id (acode x E C n t d h) = some s := hx
    obtain ⟨s1, h1, h2, h3, h4, h5⟩ := outOf_some hx
    refine wp_block (wp_mono (ih hok n t d h s1 h1 (by rw [← h4]; exact hob) ρ w a hg hr (by rw [← h4]; exact hf) ht hd) fun e a' w' hp => ?_)
    obtain ⟨he, hp⟩ := hp
    have hp : Post P N s ρ h w a' w' := by
      obtain ⟨ρ', p1, p2, p3⟩ := hp
      exact ⟨ρ', by rw [h2]; exact p1, by rw [h3]; exact p2, by rw [h4]; exact p3⟩
    cases hs : s1.e with
    | normal => rw [hs] at he h5; subst he; exact ⟨congrArg exOf h5.symm, hp⟩
    | ret => rw [hs] at he h5; subst he; exact ⟨congrArg exOf h5.symm, hp⟩
    | exit j =>
      rw [hs] at he h5
      subst he
      show if j = id then _ else _
      by_cases hj : j = id
      · rw [if_pos hj]
        have h5 : s.e = if j = id then .normal else .exit j := h5
        rw [if_pos hj] at h5
        exact ⟨congrArg exOf h5.symm, hp⟩
      · rw [if_neg hj]
        have h5 : s.e = if j = id then .normal else .exit j := h5
        rw [if_neg hj] at h5
        exact ⟨congrArg exOf h5.symm, hp⟩
  | loop x ih =>
    intro hok n t d h s hx hob ρ w a hg hr hf ht hd
    have hx : loopN (acode x E C n) n t d h = some s := hx
    have hok : okCode G N x = true := hok
    refine wp_loop (fun a' w' => ∃ k, LJ P G N (acode x E C n) s ρ h w k a' w') (fun a' w' => least fun k => LJ P G N (acode x E C n) s ρ h w k a' w') ⟨n, t, d, h, ρ, hx, hg, hf, ht, hd, .refl hr⟩ fun a1 w1 hI => ?_
    have hJ := least_spec hI
    generalize hk : (least fun k => LJ P G N (acode x E C n) s ρ h w k a1 w1) = k at hJ
    obtain ⟨t1, d1, h1, ρ1, l1, l2, l3, l4, l5, l6⟩ := hJ
    cases k with
    | zero => cases l1
    | succ k =>
      have l1 : thenC (loopN (acode x E C n) k) (acode x E C n t1 d1 h1) = some s := l1
      obtain ⟨s1, m1, m2⟩ := thenC_some l1
      rcases m2 with ⟨m2, m3⟩ | ⟨m2, rfl⟩
      · have hfy := loop_fwd (fun t d h s => acode_fwd hCF x hok n t d h s) k _ _ _ _ m3
        refine wp_mono (ih hok n t1 d1 h1 s1 m1 (hfy.ob hob) ρ1 w1 a1 l2 l6.rel (l3.sub (Nat.le_refl _) hfy.n) l4 l5) fun e a' w' hp => ?_
        obtain ⟨he, ρ', p1, p2, p3⟩ := hp
        rw [m2] at he
        subst he
        have hnew : LJ P G N (acode x E C n) s ρ h w k a' w' := by
          refine ⟨s1.t, s1.d, s1.h, ρ', m3, l2.mono p3.ext, Fr.next l3 p3, p1, p2, Step.trans (hf.sub (Nat.le_refl _) ?_) l6 p3⟩
          exact hfy.n
        exact ⟨⟨k, hnew⟩, Nat.lt_succ_of_le (least_le hnew)⟩
      · refine wp_mono (ih hok n t1 d1 h1 s m1 hob ρ1 w1 a1 l2 l6.rel l3 l4 l5) fun e a' w' hp => ?_
        obtain ⟨he, hp⟩ := hp
        have hp := hp.of_step hf l6
        obtain ⟨e1, t2, d2, hh2⟩ := s
        cases e1 with
        | normal => exact absurd rfl m2
        | exit id => subst he; exact ⟨rfl, hp⟩
        | ret => subst he; exact ⟨rfl, hp⟩
  | rangeFunc => intro _ n t d h s hx; cases hx
  | scope => intro _ n t d h s hx; cases hx
  | goto => intro _ n t d h s hx; cases hx
  | refuse => intro _ n t d h s hx; cases hx
end
end Go.Proofs.YtkmbkejmfffafaaGreatDoor.Refl
