/- The second reading of the model's code, part 5 of 13. -/
import Derived.Test.YtkmbkejmfffafaaGreatDoorM4
set_option linter.unusedSectionVars false
set_option linter.unusedVariables false
set_option linter.unusedSimpArgs false
/- The second reading against the model: regions in the text's order, results. -/
namespace Go.Proofs.YtkmbkejmfffafaaGreatDoor.Refl
open Go
set_option linter.unusedVariables false
set_option linter.unusedSimpArgs false

section
variable {P : Program} {E : Env} {C : CallF} {G N : Nat} {t : Tr Value} {a : Act} {h h1 h2 : AH} {ρ : Ren} {w : World} {r : Value} {o : Oper} {d : List ADef} {s : St}
/-- Results. -/
def resOf (tmps : Array Value) : ResultVar → Sem Value
  | .tmp i => pure (tmps.getD i undef)
  | .cell b ty => do loadVar ty (← asAddr (tmps.getD b undef))
theorem results_eq (fn : Func) (tmps : Array Value) : results fn tmps = (do
    let vs ← fn.results.mapM (resOf tmps)
    pure (if h : vs.size = 1 then vs[0] else .tuple vs)) := by
  unfold results
  congr 2
theorem aress_ok (hE : EnvT P E) (hr : Rel P.cellsOf ρ h w) (ht : TR N ρ t a.tmps) : ∀ (l : List ResultVar) (vs : List Value), aress E t h l = some vs →
    ∃ vs', (l.mapM (resOf a.tmps)).run P w = .ok vs' w ∧ LR ρ vs vs' := by
  intro l
  induction l with
  | nil => intro vs hx; have hx : some [] = some vs := hx; cases hx; exact ⟨[], by simp, .nil⟩
  | cons x l ih =>
    intro vs hx
    have hx : ares1 E t h x (aress E t h l) = some vs := hx
    cases x with
    | tmp i =>
      simp only [ares1, consO] at hx
      cases hl : aress E t h l with
      | none => simp [hl] at hx
      | some l' =>
        simp [hl] at hx
        subst hx
        obtain ⟨vs', k1, k2⟩ := ih l' hl
        exact ⟨_ :: vs', by simp [List.mapM_cons, resOf, k1], .cons (ht.val i) k2⟩
    | cell b ty =>
      simp only [ares1] at hx
      cases hld : aload E ty (aeval t (.tmp b)) h with
      | none => simp [hld] at hx
      | some q =>
        obtain ⟨v, h2⟩ := q
        simp only [hld, consO] at hx
        cases hl : aress E t h l with
        | none => simp [hl] at hx
        | some l' =>
          simp [hl] at hx
          subst hx
          obtain ⟨vs', k1, k2⟩ := ih l' hl
          obtain ⟨_, _, k3, k4⟩ := aload_ok hE hld hr (ht.val b)
          obtain ⟨ad, hv⟩ := k4
          obtain ⟨r', k5, k6⟩ := k3 ad hv
          have hv' : a.tmps.getD b undef = .pointer (some ad) := hv
          exact ⟨r' :: vs', by simp only [List.mapM_cons, Sem.run_bind, resOf, hv']; simp [asAddr, k5, k1], .cons k6 k2⟩
theorem aresult_ok (hE : EnvT P E) {fn : Func} (hx : aresult E fn t h = some r) (hr : Rel P.cellsOf ρ h w) (ht : TR N ρ t a.tmps) : ∃ r', (results fn a.tmps).run P w = .ok r' w ∧ VR ρ r r' := by
  unfold aresult at hx
  cases hl : aress E t h fn.results.toList with
  | none => simp [hl] at hx
  | some l =>
    simp [hl] at hx
    obtain ⟨vs', k1, k2⟩ := aress_ok hE hr ht _ _ hl
    have hrun : (results fn a.tmps).run P w = .ok (if hs : vs'.toArray.size = 1 then vs'.toArray[0] else .tuple vs'.toArray) w := by
      rw [results_eq, Array.mapM_eq_mapM_toList]
      simp [k1]
    refine ⟨_, hrun, ?_⟩
    rw [← hx]
    clear hl hx hrun k1
    cases k2 with
    | nil => exact .tuple .nil
    | cons h1 hl =>
      cases hl with
      | nil => exact h1
      | cons h2 hl =>
        rw [dif_neg (by simp)]
        exact .tuple (.cons h1 (.cons h2 hl))
/-- Is the operation wanted? -/
theorem awanted_ok {ops : Array Oper} {b : Bool} (hx : awanted ops.toList o t h = (b, h2)) (ht : ∀ g want p i, o.guard = some (g, want) → ops[g]? = some p → p.dst = some i → VR ρ (unset (t.get i)) (a.tmps.getD i undef)) :
    h2.t = h.t ∧ h2.n = h.n ∧ h2.log = h.log ∧ (OB h2 → OB h ∧ Region.wanted o (yielded ops a.tmps) = b) := by
  unfold awanted at hx
  unfold Region.wanted
  cases hg : o.guard with
  | none =>
    simp only [hg] at hx
    cases hx
    exact ⟨rfl, rfl, rfl, fun q => ⟨q, rfl⟩⟩
  | some g =>
    obtain ⟨j, want⟩ := g
    simp only [hg, nth_eq] at hx
    have hj : ops.toList[j]? = ops[j]? := Array.getElem?_toList
    rw [hj] at hx
    simp only [yielded]
    cases ho : ops[j]? with
    | none => rw [ho] at hx; simp only at hx; cases hx; exact ⟨rfl, rfl, rfl, fun q => ⟨q, by simp⟩⟩
    | some p =>
      rw [ho] at hx
      simp only [wantOf] at hx
      cases hd : p.dst with
      | none => simp only [hd] at hx; cases hx; exact ⟨rfl, rfl, rfl, fun q => ⟨q, by simp [hd]⟩⟩
      | some i =>
        simp only [hd, wantBy] at hx
        have hv := ht j want p i hg ho hd
        rw [Array.getD_eq_getD_getElem?] at hv
        cases hti : t.get i with
        | none =>
          simp only [hti] at hx; cases hx
          refine ⟨rfl, rfl, rfl, fun q => ⟨q, ?_⟩⟩
          rw [hti] at hv
          have hv : VR ρ (.tuple #[]) (a.tmps[i]?.getD undef) := hv
          cases hai : a.tmps[i]? with
          | none => simp [hd, hai]
          | some v =>
            rw [hai] at hv
            simp only [Option.getD_some] at hv
            cases hv
            simp [hd, hai]
        | some v =>
          simp only [hti] at hx
          rw [hti] at hv
          have hv : VR ρ v (a.tmps[i]?.getD undef) := hv
          cases hb : asBool v with
          | none =>
            simp only [hb] at hx; cases hx
            refine ⟨rfl, rfl, rfl, fun q => ⟨q, ?_⟩⟩
            cases hai : a.tmps[i]? with
            | none => simp [hd, hai]
            | some v' =>
              rw [hai] at hv
              simp only [Option.getD_some] at hv
              cases hv <;> first | (simp [asBool] at hb; done) | simp [hd, hai]
          | some c =>
            simp only [hb] at hx
            obtain ⟨k1, k2⟩ := asBool_VR hb hv
            obtain ⟨g1, g2, g3, g4⟩ := dec_some hx
            refine ⟨g1, g2, g3, fun q => ⟨(g4 q).1, ?_⟩⟩
            rw [(g4 q).2, beqB_eq]
            cases hai : a.tmps[i]? with
            | none => rw [hai] at k2; simp [undef] at k2
            | some v' =>
              rw [hai] at k2
              simp only [Option.getD_some] at k2
              subst k2
              cases c <;> cases want <;> simp [hd, hai]
theorem awanted_fwd {ops : List Oper} {b : Bool} (hx : awanted ops o t h = (b, h2)) : Fwd h h2 := by
  unfold awanted wantOf wantBy at hx
  repeat' split at hx
  all_goals first | (cases hx; exact .refl _) | exact .dec hx
theorem setDst_ok {v v' : Value} (hd : ∀ i, o.dst = some i → i < N) (ht : TR N ρ t a.tmps) (hv : VR ρ v v') : TR N ρ (setDst t o.dst v) (a.put o.dst v').tmps := by
  cases hdst : o.dst with
  | none => simpa [setDst, Act.put] using ht
  | some i => simpa [setDst, Act.put] using ht.set (hd i hdst) hv
theorem put_defers (a : Act) (dst : Option Tmp) (v : Value) : (a.put dst v).defers = a.defers := by cases dst <;> rfl
theorem adefer_ok {c : Call} {df : ADef} (hop : ∀ x ∈ c.operands.toList, okOpd G x = true) (hx : adefer c t = some df) (hg : GL G ρ) (ht : TR N ρ t a.tmps) (ty : TypeId) (w : World) :
    ∃ dd, (resolve a.eval c ty).run P w = .ok dd w ∧ DfR ρ df dd := by
  obtain ⟨callee, args, argTypes⟩ := c
  have hargs : LR ρ (vals t args.toList) (args.toList.map a.eval) := vals_ok _ fun x hm => aeval_ok hg ht (hop x (by
    have hm2 : x ∈ args := by simpa using hm
    cases callee <;> simp [Call.operands, hm2]))
  have e1 : args.map a.eval = (args.toList.map a.eval).toArray := by apply Array.ext'; simp
  cases callee with
  | builtin b =>
    have hx : some (ADef.builtin b argTypes.toList (vals t args.toList)) = some df := hx
    cases hx
    refine ⟨_, rfl, ?_⟩
    show DfR ρ _ ⟨.builtin b argTypes ty _, args.map a.eval⟩
    rw [e1]
    exact .builtin (ts := argTypes.toList) hargs
  | value f =>
    have hx : (match asFunc (aeval t f) with
      | some q => some (ADef.fn q.f (app q.first (app (vals t args.toList) q.captured)))
      | none => none) = some df := hx
    cases hfn : asFunc (aeval t f) with
    | none => simp [hfn] at hx
    | some q =>
      simp [hfn] at hx
      subst hx
      have hfv : VR ρ (aeval t f) (a.eval f) := aeval_ok hg ht (hop f (by simp [Call.operands]))
      obtain ⟨a', b', k1, k2, k3⟩ := asFunc_VR hfn hfv
      refine ⟨⟨.fn (.func q.f) b', a' ++ args.map a.eval⟩, by simp [resolve, k1, Deferred.ofValue], .fn ?_⟩
      rw [app_eq, app_eq]
      have : (a' ++ args.map a.eval ++ b').toList = a'.toList ++ (args.toList.map a.eval ++ b'.toList) := by simp
      rw [this]
      exact k2.append (hargs.append k3)
  | invoke q name =>
    have hx : (none : Option ADef) = some df := hx
    cases hx
end
end Go.Proofs.YtkmbkejmfffafaaGreatDoor.Refl
/- The second reading against the model: a region in the text's order. -/
namespace Go.Proofs.YtkmbkejmfffafaaGreatDoor.Refl
open Go
set_option linter.unusedVariables false
set_option linter.unusedSimpArgs false

/-- Where a stretch of code comes to. -/
def Post (P : Program) (N : Nat) (s : St) (ρ : Ren) (h : AH) (w : World) (a : Act) (w' : World) : Prop :=
  ∃ ρ', TR N ρ' s.t a.tmps ∧ DsR ρ' s.d a.defers ∧ Step P.cellsOf ρ h w ρ' s.h w'
section
variable {P : Program} {E : Env} {C : CallF} {G N : Nat} {t : Tr Value} {a : Act} {h h1 h2 : AH} {ρ ρ' : Ren} {w w' : World} {r : Value} {o : Oper} {d : List ADef} {s : St}
theorem Post.of_step {a' : Act} (hf : Fr ρ h.n s.h.n) (hs : Step P.cellsOf ρ h w ρ' h1 w') {w'' : World} (hp : Post P N s ρ' h1 w' a' w'') : Post P N s ρ h w a' w'' := by
  obtain ⟨ρ2, k1, k2, k3⟩ := hp
  exact ⟨ρ2, k1, k2, Step.trans hf hs k3⟩
/-- What one operation, wanted, does. -/
theorem aops1_some {ih : Tr Value → List ADef → AH → Res} (hx : aops1 E C o ih t d h = some s) :
    (∃ c df, o.op = .defer c ∧ adefer c t = some df ∧ ih (setDst t o.dst (.tuple ⟨[]⟩)) (df :: d) h = some s) ∨
    (∃ r h1, aop o.op E C t h = some (r, h1) ∧ ih (setDst t o.dst r) d h1 = some s) := by
  unfold aops1 at hx
  cases hd : deferOf o.op with
  | some c =>
    simp only [hd] at hx
    have hc : o.op = .defer c := by
      cases ho : o.op <;> rw [ho] at hd <;> simp [deferOf] at hd
      rw [hd]
    cases hdf : adefer c t with
    | none => simp [hdf] at hx
    | some df => simp only [hdf] at hx; exact .inl ⟨c, df, hc, hdf, hx⟩
  | none =>
    simp only [hd] at hx
    cases ha : aop o.op E C t h with
    | none => simp [ha] at hx
    | some q =>
      obtain ⟨r, h1⟩ := q
      simp only [ha] at hx
      rw [forceAll_eq, forceT_eq] at hx
      exact .inr ⟨r, h1, rfl, hx⟩
theorem aops_cons {ops l : List Oper} (hx : aops E C ops (o :: l) t d h = some s) :
    ∃ b h2, awanted ops o t h = (b, h2) ∧ ((b = true ∧ aops1 E C o (aops E C ops l) t d h2 = some s) ∨ (b = false ∧ aops E C ops l (setDst t o.dst (.tuple ⟨[]⟩)) d h2 = some s)) := by
  have hx : aops2 E C o (aops E C ops l) t d (awanted ops o t h) = some s := hx
  cases hw : awanted ops o t h with
  | mk b h2 =>
    rw [hw] at hx
    refine ⟨b, h2, rfl, ?_⟩
    cases b with
    | true => exact .inl ⟨rfl, hx⟩
    | false =>
      have hx : forceT (setDst t o.dst (.tuple ⟨[]⟩)) Res (fun t => aops E C ops l t d h2) = some s := hx
      rw [forceT_eq] at hx
      exact .inr ⟨rfl, hx⟩
theorem aops_fwd (hC : CFwd C) {ops : List Oper} : ∀ (l : List Oper) (t : Tr Value) (d : List ADef) (h : AH), aops E C ops l t d h = some s → Fwd h s.h ∧ s.e = .normal
  | [], t, d, h, hx => by have hx : some (St.mk .normal t d h) = some s := hx; cases hx; exact ⟨.refl _, rfl⟩
  | o :: l, t, d, h, hx => by
    obtain ⟨b, h2, k1, k2⟩ := aops_cons hx
    have hw := awanted_fwd k1
    rcases k2 with ⟨_, k2⟩ | ⟨_, k2⟩
    · rcases aops1_some k2 with ⟨c, df, _, _, k3⟩ | ⟨r, h1, k3, k4⟩
      · obtain ⟨q1, q2⟩ := aops_fwd hC l _ _ _ k3; exact ⟨hw.trans q1, q2⟩
      · obtain ⟨q1, q2⟩ := aops_fwd hC l _ _ _ k4; exact ⟨hw.trans ((aop_fwd hC k3).trans q1), q2⟩
    · obtain ⟨q1, q2⟩ := aops_fwd hC l _ _ _ k2; exact ⟨hw.trans q1, q2⟩
theorem aops_ok (hE : EnvM P E) (hC : CallOK P G C) (hCF : CFwd C) {ops : Array Oper} (hok : ∀ o ∈ ops.toList, okOper G N o = true) {Q : Exit → Act → World → Prop} :
    ∀ (l : List Oper) (k : Nat), ops.toList.drop k = l → ∀ (t : Tr Value) (d : List ADef) (h : AH), aops E C ops.toList l t d h = some s → OB s.h → ∀ (ρ : Ren) (w : World) (a : Act), GL G ρ → Rel P.cellsOf ρ h w → Fr ρ h.n s.h.n → TR N ρ t a.tmps → DsR ρ d a.defers →
      (∀ a' w', Post P N s ρ h w a' w' → Q .normal a' w') → wpOps P ops Q (List.range' k l.length) a w := by
  intro l
  induction l with
  | nil =>
    intro k hk t d h hx hob ρ w a hg hr hf ht hd hQ
    have hx : some (St.mk .normal t d h) = some s := hx
    cases hx
    exact hQ a w ⟨ρ, ht, hd, .refl hr⟩
  | cons o l ih =>
    intro k hk t d h hx hob ρ w a hg hr hf ht hd hQ
    have hko : ops[k]? = some o := by
      rw [← Array.getElem?_toList]
      have := congrArg (fun q => q[0]?) hk
      simpa using this
    have hom : o ∈ ops.toList := List.mem_of_getElem? (by rw [Array.getElem?_toList]; exact hko)
    have hkl : ops.toList.drop (k + 1) = l := by
      have := congrArg (List.drop 1) hk
      simpa [List.drop_drop] using this
    have hoo := hok o hom
    obtain ⟨hdst, hops⟩ := okOper_some hoo
    obtain ⟨b, h2, k1, k2⟩ := aops_cons hx
    obtain ⟨g1, g2, g3, g4⟩ := awanted_ok (ops := ops) k1 fun _ _ _ i _ _ _ => ht.val i
    have hr2 : Rel P.cellsOf ρ h2 w := hr.congr g1 g2 rfl
    have hf2 : Fr ρ h2.n s.h.n := by rw [g2]; exact hf
    have hpre : Step P.cellsOf ρ h w ρ h2 w := .same hr g1 g2 g3 rfl (Str.refl _)
    rw [List.length_cons, List.range'_succ]
    simp only [wpOps, hko]
    rcases k2 with ⟨rfl, k2⟩ | ⟨rfl, k2⟩
    · rcases aops1_some k2 with ⟨c, df, hc, hdf, k3⟩ | ⟨r, h1, k3, k4⟩
      · obtain ⟨_, g5⟩ := g4 ((aops_fwd hCF l _ _ _ k3).1.ob hob)
        rw [if_pos g5]
        left
        obtain ⟨dd, hres, hdr⟩ := adefer_ok (P := P) (fun x hx => hops x (by rw [hc]; exact hx)) hdf hg ht o.type w
        unfold Oper.wp
        have he : (execOp a.eval o).run P w = .ok (.defer dd) w := by
          obtain ⟨dst, op, type, pos, after, guard⟩ := o
          simp only at hc hres
          subst hc
          simp [execOp, hres]
        rw [he, Oper.upon_defer]
        refine ih (k + 1) hkl _ _ h2 k3 hob ρ w _ hg hr2 hf2 ?_ ?_ fun a' w' hp => hQ a' w' (hp.of_step hf hpre)
        · exact setDst_ok (a := { a with defers := dd :: a.defers }) hdst ht (.tuple .nil)
        · rw [put_defers]; exact .cons hdr hd
      · have hrest := (aops_fwd hCF l _ _ _ k4).1
        have hthis := aop_fwd hCF k3
        obtain ⟨_, g5⟩ := g4 (hthis.ob (hrest.ob hob))
        rw [if_pos g5]
        left
        refine aop_ok hE hC hCF (fun x hx => aeval_ok hg ht (hops x hx)) k3 (hrest.ob hob) hg hr2 (hf2.sub (Nat.le_refl _) hrest.n) _ _ fun ρ' r' w' hv hst => ?_
        refine ih (k + 1) hkl _ _ h1 k4 hob ρ' w' _ (hg.mono hst.ext) hst.rel (Fr.next hf2 hst) ?_ ?_ fun a' w'' hp => hQ a' w'' ((hp.of_step hf2 hst).of_step hf hpre)
        · exact setDst_ok hdst (ht.mono hst.ext) hv
        · rw [put_defers]; exact hd.mono hst.ext
    · obtain ⟨_, g5⟩ := g4 ((aops_fwd hCF l _ _ _ k2).1.ob hob)
      rw [if_neg (by rw [g5]; simp)]
      refine ih (k + 1) hkl _ _ h2 k2 hob ρ w _ hg hr2 hf2 ?_ ?_ fun a' w' hp => hQ a' w' (hp.of_step hf hpre)
      · exact setDst_ok hdst ht (.tuple .nil)
      · rw [put_defers]; exact hd
end
end Go.Proofs.YtkmbkejmfffafaaGreatDoor.Refl
/- The second reading: what stands in order; a drawn region as the text has it. -/
namespace Go.Proofs.YtkmbkejmfffafaaGreatDoor.Refl
open Go
set_option linter.unusedVariables false
set_option linter.unusedSimpArgs false

/- Lists of numbers. -/
theorem upTo_mem : ∀ (n : Nat) (l : List Nat) (i : Nat), i ∈ upTo n l ↔ i < n ∨ i ∈ l
  | 0, l, i => by show i ∈ l ↔ _; simp
  | n + 1, l, i => by
    show i ∈ upTo n (n :: l) ↔ _
    rw [upTo_mem n, List.mem_cons]
    by_cases hl : i ∈ l
    · simp [hl]
    · simp [hl]; omega
theorem mem_addAll : ∀ (l log : List Nat) (c : Nat), c ∈ addAll l log ↔ c ∈ l ∨ c ∈ log
  | [], log, c => by show c ∈ log ↔ _; simp
  | b :: l, log, c => by
    show c ∈ addAll l (addLog b log) ↔ _
    rw [mem_addAll l, mem_addLog, List.mem_cons]
    constructor <;> rintro (h | h) <;> first | exact .inl (.inr h) | (rcases h with h | h <;> first | exact .inl (.inl h) | exact .inr h | exact .inl (.inr h) | exact .inr (.inl h) | exact .inl h | exact .inr (.inr h)) | exact .inr (.inr h)
theorem mask_obj : ∀ (m : List Nat) (t : Tr AObj) (b : Nat), objIn (mask m t) b = if b ∈ m then .dead else objIn t b
  | [], t, b => by show objIn t b = _; simp
  | x :: m, t, b => by
    show objIn (mask m (t.set x .dead)) b = _
    rw [mask_obj m, objIn_set]
    by_cases h1 : b ∈ m <;> by_cases h2 : b = x <;> simp [h1, h2]
theorem unmask_obj (old : AH) : ∀ (m : List Nat) (t : Tr AObj) (b : Nat), objIn (unmask m old t) b = if b ∈ m then old.obj b else objIn t b
  | [], t, b => by show objIn t b = _; simp
  | x :: m, t, b => by
    show objIn (unmask m old (t.set x (old.obj x))) b = _
    rw [unmask_obj old m, objIn_set]
    by_cases h1 : b ∈ m
    · simp [h1]
    · by_cases h2 : b = x
      · subst h2; simp [h1]
      · simp [h1, h2]
noncomputable def maskH (m : List Nat) (h : AH) : AH := ⟨mask m h.t, h.n, [], h.sym, h.cnt, h.orc, h.ob⟩
theorem maskH_obj (m : List Nat) (h : AH) (b : Nat) : (maskH m h).obj b = if b ∈ m then .dead else h.obj b := by
  rw [AH.obj_def, AH.obj_def]
  show (if b < h.n then objIn (mask m h.t) b else .dead) = _
  rw [mask_obj]
  by_cases h1 : b < h.n <;> by_cases h2 : b ∈ m <;> simp [h1, h2]

/- What stands ahead of what. -/
section order
variable {ops : Array Oper}
/-- All edges point back. -/
def Back2 (ops : Array Oper) : Prop := ∀ i o, ops[i]? = some o → ∀ e ∈ o.after.toList, Region.binds .any e = true → e.on < i
/-- A set that holds all that its members wait for. -/
def Down (ops : Array Oper) (L : Nat → Prop) : Prop := ∀ i o, L i → ops[i]? = some o → ∀ e ∈ o.after.toList, Region.binds .any e = true → L e.on
theorem okRank_back (h : okRank .any ops.toList (upTo (len ops.toList) []) = true) : Back2 ops := by
  intro i o ho e he hb
  have hup : ∀ n k, nth (upTo n []) k = if k < n then some k else none := by
    have gen : ∀ n l k, nth (upTo n l) k = if k < n then some k else nth l (k - n) := by
      intro n
      induction n with
      | zero => intro l k; show nth l k = _; simp
      | succ n ih =>
        intro l k
        show nth (upTo n (n :: l)) k = _
        rw [ih, nth_eq, nth_eq]
        by_cases h1 : k < n
        · rw [if_pos h1, if_pos (by omega)]
        · rw [if_neg h1]
          by_cases h2 : k = n
          · subst h2; simp
          · rw [if_neg (by omega), show k - n = (k - (n + 1)) + 1 by omega, List.getElem?_cons_succ]
    intro n k
    rw [gen]
    by_cases h : k < n <;> simp [h, nth_eq]
  have hi : i < ops.toList.length := by
    have := (Array.getElem?_eq_some_iff.1 ho).1; simpa using this
  have h1 := (allB_eq _ _).1 h i ((upTo_mem _ _ _).2 (.inl (by rw [len_eq]; exact hi)))
  rw [nth_eq, Array.getElem?_toList, ho] at h1
  have h2 := (allB_eq _ _).1 h1 e he
  simp only [okEdge, hb, hup, len_eq] at h2
  by_cases h3 : e.on < ops.toList.length
  · simp only [h3, hi, if_true, blt_eq] at h2
    simpa using h2
  · have h3' : ¬ e.on < ops.size := by simpa using h3
    simp [h3'] at h2
theorem fold_bit (acc : Array Nat) (i : Nat) : ∀ (l : List Edge) (s : Nat), (l.foldl (fun s e => if Region.binds .any e then s ||| 2 ^ e.on ||| acc.getD e.on 0 else s) s).testBit i = true →
    s.testBit i = true ∨ ∃ e ∈ l, Region.binds .any e = true ∧ (e.on = i ∨ (acc.getD e.on 0).testBit i = true)
  | [], s, h => .inl h
  | e :: l, s, h => by
    rw [List.foldl_cons] at h
    rcases fold_bit acc i l _ h with h1 | ⟨e', h1, h2⟩
    · by_cases hb : Region.binds .any e = true
      · rw [if_pos hb, Nat.testBit_or, Nat.testBit_or, Bool.or_eq_true, Bool.or_eq_true, Nat.testBit_two_pow] at h1
        rcases h1 with (h1 | h1) | h1
        · exact .inl h1
        · exact .inr ⟨e, by simp, hb, .inl (by simpa using h1)⟩
        · exact .inr ⟨e, by simp, hb, .inr h1⟩
      · rw [if_neg hb] at h1; exact .inl h1
    · exact .inr ⟨e', by simp [h1], h2⟩
def PB (ops : Array Oper) (acc : Array Nat) : Prop := ∀ (j m : Nat), acc[j]? = some m → ∀ i, m.testBit i = true →
  ∃ o : Oper, ops[j]? = some o ∧ ∃ e ∈ o.after.toList, Region.binds .any e = true ∧ (e.on = i ∨ ∃ m', acc[e.on]? = some m' ∧ m'.testBit i = true)
theorem before_PB : ∀ (l pre : List Oper) (acc : Array Nat), ops.toList = pre ++ l → acc.size = pre.length → PB ops acc →
    PB ops (l.foldl (init := acc) fun acc o => acc.push (o.after.foldl (fun s e => if Region.binds .any e then s ||| 2 ^ e.on ||| acc.getD e.on 0 else s) 0))
  | [], pre, acc, _, _, h => h
  | o :: l, pre, acc, hl, hs, h => by
    rw [List.foldl_cons]
    refine before_PB l (pre ++ [o]) _ (by simp [hl]) (by simp [hs]) fun j m hj i hi => ?_
    have ho : ops[acc.size]? = some o := by rw [← Array.getElem?_toList, hl, hs]; simp
    rw [Array.getElem?_push] at hj
    by_cases hja : j = acc.size
    · rw [if_pos hja] at hj
      subst hja
      cases hj
      rw [← Array.foldl_toList] at hi
      rcases fold_bit acc i _ _ hi with h1 | ⟨e, h1, h2, h3⟩
      · simp at h1
      · refine ⟨o, ho, e, h1, h2, h3.imp id fun h4 => ?_⟩
        rw [Array.getD_eq_getD_getElem?] at h4
        cases hm : acc[e.on]? with
        | none => rw [hm] at h4; simp at h4
        | some m' =>
          rw [hm] at h4
          have hlt := (Array.getElem?_eq_some_iff.1 hm).1
          refine ⟨m', ?_, h4⟩
          rw [Array.getElem?_push, if_neg (by omega)]; exact hm
    · rw [if_neg hja] at hj
      obtain ⟨o2, h1, e, h2, h3, h4⟩ := h j m hj i hi
      refine ⟨o2, h1, e, h2, h3, h4.imp id fun ⟨m', h5, h6⟩ => ⟨m', ?_, h6⟩⟩
      have hlt := (Array.getElem?_eq_some_iff.1 h5).1
      rw [Array.getElem?_push, if_neg (by omega)]; exact h5
theorem bef_bit {bs : List Nat} {i j : Nat} : bef bs i j = true ↔ ∃ m, bs[j]? = some m ∧ m.testBit i = true := by
  unfold bef
  rw [nth_eq]
  cases bs[j]? with
  | none => simp
  | some m =>
    have : Nat.beq (Nat.land (Nat.shiftRight m i) 1) 1 = m.testBit i := by
      rw [bq, Nat.testBit_eq_decide_div_mod_eq]
      have h1 : Nat.land (Nat.shiftRight m i) 1 = (m >>> i) &&& 1 := rfl
      rw [h1, Nat.and_one_is_mod, Nat.shiftRight_eq_div_pow]
    simp only [this]
    simp
/-- One step back. -/
theorem bef_step {i j : Nat} (h : bef (Region.before ops).toList i j = true) :
    ∃ o, ops[j]? = some o ∧ ∃ e ∈ o.after.toList, Region.binds .any e = true ∧ (e.on = i ∨ bef (Region.before ops).toList i e.on = true) := by
  obtain ⟨m, h1, h2⟩ := bef_bit.1 h
  rw [Array.getElem?_toList] at h1
  have hpb : PB ops (Region.before ops) := by
    unfold Region.before
    rw [← Array.foldl_toList]
    exact before_PB ops.toList [] #[] rfl rfl fun j m hj => by simp at hj
  obtain ⟨o, h3, e, h4, h5, h6⟩ := hpb j m h1 i h2
  exact ⟨o, h3, e, h4, h5, h6.imp id fun ⟨m', h7, h8⟩ => bef_bit.2 ⟨m', by rw [Array.getElem?_toList]; exact h7, h8⟩⟩
theorem bef_lt (hback : Back2 ops) {i : Nat} : ∀ (j : Nat), bef (Region.before ops).toList i j = true → i < j := by
  intro j
  induction j using Nat.strongRecOn with
  | _ j ih =>
    intro h
    obtain ⟨o, h1, e, h2, h3, h4⟩ := bef_step h
    have h5 := hback j o h1 e h2 h3
    rcases h4 with h4 | h4
    · omega
    · have := ih e.on h5 h4; omega
theorem bef_down (hback : Back2 ops) {L : Nat → Prop} (hL : Down ops L) {i : Nat} : ∀ (j : Nat), L j → bef (Region.before ops).toList i j = true → L i := by
  intro j
  induction j using Nat.strongRecOn with
  | _ j ih =>
    intro hj h
    obtain ⟨o, h1, e, h2, h3, h4⟩ := bef_step h
    have h5 := hL j o hj h1 e h2 h3
    rcases h4 with h4 | h4
    · rw [← h4]; exact h5
    · exact ih e.on (hback j o h1 e h2 h3) h5 h4
/-- What stands in order with one that is to come now. -/
theorem ord_iff (hback : Back2 ops) {L : Nat → Prop} (hL : Down ops L) {i j : Nat} {o : Oper} (ho : ops[i]? = some o) (hi : ¬ L i) (hready : ∀ e ∈ o.after.toList, Region.binds .any e = true → L e.on)
    (h : ordd (Region.before ops).toList i j = true) : j < i ↔ L j := by
  have h' : bef (Region.before ops).toList i j = true ∨ bef (Region.before ops).toList j i = true := by
    unfold ordd at h
    cases hb : bef (Region.before ops).toList i j with
    | true => exact .inl rfl
    | false => rw [hb] at h; exact .inr h
  rcases h' with h1 | h1
  · have := bef_lt hback j h1
    constructor
    · intro h2; omega
    · intro h2; exact absurd (bef_down hback hL j h2 h1) hi
  · have := bef_lt hback i h1
    obtain ⟨o2, h2, e, h3, h4, h5⟩ := bef_step h1
    rw [ho] at h2; cases h2
    have h6 := hready e h3 h4
    constructor
    · intro _
      rcases h5 with h5 | h5
      · rw [← h5]; exact h6
      · exact bef_down hback hL e.on h6 h5
    · intro _; exact this
end order
end Go.Proofs.YtkmbkejmfffafaaGreatDoor.Refl
/- The second reading: a drawn region as the text has it. -/
namespace Go.Proofs.YtkmbkejmfffafaaGreatDoor.Refl
open Go
set_option linter.unusedVariables false
set_option linter.unusedSimpArgs false

noncomputable def mkM (M : List (List Nat)) (i : Nat) : List Nat := (M[i]?).getD []
theorem mk_hd (M : List (List Nat)) : hd M = mkM M 0 := by cases M <;> rfl
theorem mk_tl (M : List (List Nat)) (i : Nat) : mkM (tl M) i = mkM M (i + 1) := by cases M <;> simp [tl, mkM]
/-- One operation of the canonical run. -/
structure CS (E : Env) (C : CallF) (ops : List Oper) (m : List Nat) (t : Tr Value) (h : AH) (t' : Tr Value) (h' : AH) (wl : List Nat) (o : Oper) (b : Bool) (h2 : AH) (r : Value) (hm1 : AH) : Prop where
  want : awanted ops o t h = (b, h2)
  run : (b = true ∧ aop o.op E C t (maskH m h2) = some (r, hm1)) ∨ (b = false ∧ r = .tuple ⟨[]⟩ ∧ hm1 = maskH m h2)
  slot : ∀ x, t'.get x = (setDst t o.dst r).get x
  n : h'.n = hm1.n
  obj : ∀ b, b < hm1.n → h'.obj b = if b ∈ m then h2.obj b else hm1.obj b
  wls : wl = hm1.log
  log : ∀ c, c ∈ h'.log ↔ c ∈ wl ∨ c ∈ h2.log
  ob : OB h' → OB hm1
section
variable {E : Env} {C : CallF} {t : Tr Value} {h : AH}
theorem forceSp_eq {α : Type} (s : Sp) (d : Option Tmp) (k : Tr Value → AH → List Nat → α) : ∃ t', (∀ x, t'.get x = s.t.get x) ∧ forceSp s d α k = k t' s.h s.w := by
  obtain ⟨t, h, w⟩ := s
  show ∃ t' : Tr Value, (∀ x, t'.get x = t.get x) ∧ (match h.sym with
    | true => forceT t α fun t => forceH h α fun h => forceG w α fun w => headD t d α fun t => k t h w
    | false => forceT t α fun t => forceH h α fun h => forceG w α fun w => forceD t d α fun t => k t h w) = k t' h w
  have same : ∀ i v, t.get i = some v → ∀ x, (t.set i v).get x = t.get x := fun i v hi x => by
    rw [Tr.get_set]
    by_cases hx : x = i
    · subst hx; rw [if_pos rfl, hi]
    · rw [if_neg hx]
  cases h.sym with
  | true =>
    simp only [forceT_eq, forceH_eq, forceG_eq]
    cases d with
    | none => exact ⟨t, fun _ => rfl, rfl⟩
    | some i =>
      simp only [headD]
      cases hi : t.get i with
      | none => exact ⟨t, fun _ => rfl, rfl⟩
      | some v =>
        simp only [headV_eq, forceT_eq]
        exact ⟨t.set i v, same i v hi, rfl⟩
  | false =>
    simp only [forceT_eq, forceH_eq, forceG_eq]
    cases d with
    | none => exact ⟨t, fun _ => rfl, rfl⟩
    | some i =>
      simp only [forceD]
      cases hi : t.get i with
      | none => exact ⟨t, fun _ => rfl, rfl⟩
      | some v =>
        simp only [forceV_eq, forceT_eq]
        exact ⟨t.set i v, same i v hi, rfl⟩
theorem arecs_cons {ops l : List Oper} {o : Oper} {M : List (List Nat)} {rs : List Rc} {R : Rs} (hx : arecs E C ops (o :: l) M t h rs = some R) :
    ∃ t' h' wl b h2 r hm1, CS E C ops (hd M) t h t' h' wl o b h2 r hm1 ∧ arecs E C ops l (tl M) t' h' (⟨h.n, wl⟩ :: rs) = some R := by
  have hx : arecs1 o h.n M rs (arecs E C ops l) (astep2 E C o (hd M) t (awanted ops o t h)) = some R := hx
  cases hw : awanted ops o t h with
  | mk b h2 =>
    rw [hw] at hx
    cases b with
    | false =>
      have hx : forceSp ⟨setDst t o.dst (.tuple ⟨[]⟩), h2, []⟩ o.dst (Option Rs) (fun t h' w => arecs E C ops l (tl M) t h' (⟨h.n, w⟩ :: rs)) = some R := hx
      obtain ⟨t', k1, k2⟩ := forceSp_eq (α := Option Rs) ⟨setDst t o.dst (.tuple ⟨[]⟩), h2, []⟩ o.dst (fun t h' w => arecs E C ops l (tl M) t h' (⟨h.n, w⟩ :: rs))
      rw [k2] at hx
      refine ⟨t', h2, [], false, h2, _, maskH (hd M) h2, ⟨hw, .inr ⟨rfl, rfl, rfl⟩, k1, rfl, fun b hb => ?_, rfl, fun c => by simp, fun q => q⟩, hx⟩
      rw [maskH_obj]
      by_cases hm : b ∈ hd M <;> simp [hm]
    | true =>
      obtain ⟨ht, n, log, sym, cnt, orc, ob⟩ := h2
      have hx : arecs1 o h.n M rs (arecs E C ops l) (match aop o.op E C t ⟨mask (hd M) ht, n, [], sym, cnt, orc, ob⟩ with
        | none => none
        | some r => match r with
          | (v, ⟨ht1, n1, log1, sym1, cnt1, orc1, ob1⟩) => some ⟨setDst t o.dst v, ⟨unmask (hd M) ⟨ht, n, log, sym, cnt, orc, ob⟩ ht1, n1, addAll log1 log, sym1, cnt1, orc1, ob1⟩, log1⟩) = some R := hx
      cases ha : aop o.op E C t ⟨mask (hd M) ht, n, [], sym, cnt, orc, ob⟩ with
      | none => rw [ha] at hx; simp [arecs1] at hx
      | some q =>
        obtain ⟨v, ht1, n1, log1, sym1, cnt1, orc1, ob1⟩ := q
        rw [ha] at hx
        have hx : forceSp ⟨setDst t o.dst v, ⟨unmask (hd M) ⟨ht, n, log, sym, cnt, orc, ob⟩ ht1, n1, addAll log1 log, sym1, cnt1, orc1, ob1⟩, log1⟩ o.dst (Option Rs) (fun t h' w => arecs E C ops l (tl M) t h' (⟨h.n, w⟩ :: rs)) = some R := hx
        obtain ⟨t', k1, k2⟩ := forceSp_eq (α := Option Rs) ⟨setDst t o.dst v, ⟨unmask (hd M) ⟨ht, n, log, sym, cnt, orc, ob⟩ ht1, n1, addAll log1 log, sym1, cnt1, orc1, ob1⟩, log1⟩ o.dst (fun t h' w => arecs E C ops l (tl M) t h' (⟨h.n, w⟩ :: rs))
        rw [k2] at hx
        refine ⟨t', ⟨unmask (hd M) ⟨ht, n, log, sym, cnt, orc, ob⟩ ht1, n1, addAll log1 log, sym1, cnt1, orc1, ob1⟩, log1, true, ⟨ht, n, log, sym, cnt, orc, ob⟩, v, ⟨ht1, n1, log1, sym1, cnt1, orc1, ob1⟩, ⟨hw, .inl ⟨rfl, ha⟩, k1, rfl, fun b hb => ?_, rfl, fun c => mem_addAll _ _ _, fun q => q⟩, hx⟩
        have hb' : b < n1 := hb
        rw [AH.obj_def]
        show (if b < n1 then objIn (unmask (hd M) ⟨ht, n, log, sym, cnt, orc, ob⟩ ht1) b else .dead) = _
        rw [if_pos hb', unmask_obj, AH.obj_def ⟨ht1, n1, log1, sym1, cnt1, orc1, ob1⟩, if_pos hb]
theorem revR_eq : ∀ (l r : List Rc), revR l r = l.reverse ++ r
  | [], r => rfl
  | x :: l, r => by
    show revR l (x :: r) = _
    rw [revR_eq l]; simp
/-- The canonical run, place by place. -/
structure CSeq (E : Env) (C : CallF) (ops l : List Oper) (M : List (List Nat)) (T : Nat → Tr Value) (H : Nat → AH) (W : Nat → List Nat) : Prop where
  at_ : ∀ i o, l[i]? = some o → ∃ b h2 r hm1, CS E C ops (mkM M i) (T i) (H i) (T (i + 1)) (H (i + 1)) (W i) o b h2 r hm1
theorem arecs_seq {ops : List Oper} : ∀ (l : List Oper) (M : List (List Nat)) (t : Tr Value) (h : AH) (rs : List Rc) (R : Rs), arecs E C ops l M t h rs = some R →
    ∃ T H W, CSeq E C ops l M T H W ∧ T 0 = t ∧ H 0 = h ∧ T l.length = R.t ∧ H l.length = R.h ∧ R.rs = rs.reverse ++ (List.range l.length).map fun i => ⟨(H i).n, W i⟩
  | [], M, t, h, rs, R, hx => by
    have hx : some (Rs.mk t h (revR rs [])) = some R := hx
    cases hx
    exact ⟨fun _ => t, fun _ => h, fun _ => [], ⟨fun i o hi => by simp at hi⟩, rfl, rfl, rfl, rfl, by simp [revR_eq]⟩
  | o :: l, M, t, h, rs, R, hx => by
    obtain ⟨t', h', wl, b, h2, r, hm1, k1, k2⟩ := arecs_cons hx
    obtain ⟨T, H, W, k3, rfl, rfl, k6, k7, k8⟩ := arecs_seq l _ _ _ _ R k2
    refine ⟨fun i => match i with | 0 => t | i + 1 => T i, fun i => match i with | 0 => h | i + 1 => H i, fun i => match i with | 0 => wl | i + 1 => W i, ⟨fun i o2 hi => ?_⟩, rfl, rfl, k6, k7, ?_⟩
    · cases i with
      | zero => simp at hi; subst hi; exact ⟨b, h2, r, hm1, by rw [← mk_hd]; exact k1⟩
      | succ i =>
        obtain ⟨b, h2, r, hm1, k9⟩ := k3.at_ i o2 (by simpa using hi)
        exact ⟨b, h2, r, hm1, by rw [← mk_tl]; exact k9⟩
    · rw [k8, List.length_cons, List.range_succ_eq_map]
      simp [Function.comp_def]
theorem adrawn_some {ops : Array Oper} {d : List ADef} {s : St} (hx : adrawn E C ops t d h = some s) :
    ∃ M R, arecs E C ops.toList ops.toList M t h [] = some R ∧ okW (Region.before ops).toList M R.rs = true ∧ s = ⟨.normal, R.t, d, R.h⟩ := by
  unfold adrawn at hx
  cases ha : arecs E C ops.toList ops.toList [] t h [] with
  | none => rw [ha] at hx; simp [adrawn1] at hx
  | some R =>
    rw [ha] at hx
    obtain ⟨t1, h1, rs⟩ := R
    simp only [adrawn1] at hx
    cases hk : okW (Region.before ops).toList [] rs with
    | true => simp [hk] at hx; exact ⟨[], _, ha, hk, hx.symm⟩
    | false =>
      simp only [hk] at hx
      cases ha2 : arecs E C ops.toList ops.toList (masks (Region.before ops).toList rs) t h [] with
      | none => rw [ha2] at hx; simp [adrawn2] at hx
      | some R2 =>
        rw [ha2] at hx
        obtain ⟨t2, h2, rs2⟩ := R2
        simp only [adrawn2] at hx
        cases hk2 : okW (Region.before ops).toList (masks (Region.before ops).toList rs) rs2 with
        | false => simp [hk2] at hx
        | true => simp [hk2] at hx; exact ⟨_, _, ha2, hk2, hx.symm⟩
/-- What is written stands in order with all that sees it. -/
theorem okW_some {bs : List Nat} {M : List (List Nat)} {N : Nat} {H : Nat → AH} {W : Nat → List Nat} (h : okW bs M ((List.range N).map fun i => ⟨(H i).n, W i⟩) = true) :
    ∀ j, j < N → ∀ b ∈ W j, b < (H j).n ∧ ∀ i, i < N → i ≠ j → ordd bs i j = true ∨ (H i).n ≤ b ∨ b ∈ mkM M i := by
  intro j hj b hb
  have hlen : len ((List.range N).map fun i => (⟨(H i).n, W i⟩ : Rc)) = N := by rw [len_eq]; simp
  have hat : ∀ i, i < N → nth ((List.range N).map fun i => (⟨(H i).n, W i⟩ : Rc)) i = some ⟨(H i).n, W i⟩ := fun i hi => by
    rw [nth_eq]; simp [hi]
  have h1 := (allB_eq _ _).1 h j ((upTo_mem _ _ _).2 (.inl (by rw [hlen]; exact hj)))
  unfold okW1 at h1
  rw [hat j hj] at h1
  simp only at h1
  cases hw : W j with
  | nil => rw [hw] at hb; simp at hb
  | cons c l =>
    rw [hw] at h1
    simp only at h1
    rw [← hw] at h1
    cases h2 : allB (fun b => Nat.blt b (H j).n) (W j) with
    | false => simp [h2] at h1
    | true =>
      simp only [h2] at h1
      refine ⟨by have := (allB_eq _ _).1 h2 b hb; simpa [blt_eq] using this, fun i hi hij => ?_⟩
      have h3 := (allB_eq _ _).1 h1 i ((upTo_mem _ _ _).2 (.inl (by rw [hlen]; exact hi)))
      unfold okW2 at h3
      rw [bq] at h3
      simp only [hij, decide_false] at h3
      cases h4 : ordd bs i j with
      | true => exact .inl rfl
      | false =>
        simp only [h4] at h3
        rw [hat i hi] at h3
        have h5 := (allB_eq _ _).1 h3 b hb
        unfold hid at h5
        rw [ble_eq, nth_eq] at h5
        by_cases h6 : (H i).n ≤ b
        · exact .inr (.inl h6)
        · simp only [h6, decide_false] at h5
          refine .inr (.inr ?_)
          unfold mkM
          cases hm : M[i]? with
          | none => rw [hm] at h5; simp at h5
          | some m => rw [hm] at h5; simpa [mem_eq] using h5
end
end Go.Proofs.YtkmbkejmfffafaaGreatDoor.Refl
/- The second reading against the model: a drawn region, in whatever order. -/
namespace Go.Proofs.YtkmbkejmfffafaaGreatDoor.Refl
open Go
set_option linter.unusedVariables false
set_option linter.unusedSimpArgs false

theorem awanted_same {ops : List Oper} {o : Oper} {t : Tr Value} {h h2 : AH} {b : Bool} (hx : awanted ops o t h = (b, h2)) : h2.t = h.t ∧ h2.n = h.n ∧ h2.log = h.log := by
  unfold awanted wantOf wantBy at hx
  repeat' split at hx
  all_goals first | (cases hx; exact ⟨rfl, rfl, rfl⟩) | (obtain ⟨a, b, c, _⟩ := dec_some hx; exact ⟨a, b, c⟩)
theorem okTmps_some {ops : List Oper} {bs : List Nat} (h : okTmps ops bs = true) {i j d : Nat} {o p : Oper} (hi : ops[i]? = some o) (hj : ops[j]? = some p) (hd : p.dst = some d) (hm : d ∈ tmpsIn ops o) (hij : i ≠ j) : ordd bs i j = true := by
  have hlt : ∀ {k q}, ops[k]? = some q → k ∈ upTo (len ops) [] := fun hk => (upTo_mem _ _ _).2 (.inl (by rw [len_eq]; exact (List.getElem?_eq_some_iff.1 hk).1))
  have h1 := (allB_eq _ _).1 h j (hlt hj)
  unfold okTmp at h1
  rw [nth_eq, hj] at h1
  simp only [hd] at h1
  have h2 := (allB_eq _ _).1 h1 i (hlt hi)
  unfold okPair at h2
  rw [bq] at h2
  simp only [hij, decide_false] at h2
  rw [nth_eq, hi] at h2
  simp only [mem_eq, hm, decide_true] at h2
  exact h2
theorem tmpsOfL_mem {x : Nat} : ∀ (l : List Operand), Operand.tmp x ∈ l → x ∈ tmpsOfL l
  | [], h => by simp at h
  | y :: l, h => by
    show x ∈ app (opdTmp y) (tmpsOfL l)
    rw [app_eq, List.mem_append]
    rcases List.mem_cons.1 h with h | h
    · subst h; left; simp [opdTmp]
    · exact .inr (tmpsOfL_mem l h)
theorem opd_in {ops : List Oper} {o : Oper} {x : Nat} (h : Operand.tmp x ∈ o.op.operands.toList) : x ∈ tmpsIn ops o := by
  unfold tmpsIn; rw [app_eq, List.mem_append]; exact .inl (tmpsOfL_mem _ h)
theorem dst_in {ops : List Oper} {o : Oper} {x : Nat} (h : o.dst = some x) : x ∈ tmpsIn ops o := by
  unfold tmpsIn; rw [app_eq, app_eq, List.mem_append, List.mem_append]; exact .inr (.inr (by rw [h]; simp [optL]))
theorem guard_in {ops : List Oper} {o p : Oper} {g : Nat} {want : Bool} {x : Nat} (hg : o.guard = some (g, want)) (hp : ops[g]? = some p) (hd : p.dst = some x) : x ∈ tmpsIn ops o := by
  unfold tmpsIn
  rw [app_eq, app_eq, List.mem_append, List.mem_append]
  refine .inr (.inl ?_)
  unfold guardTmp
  rw [hg]
  simp only [nth_eq, hp, hd, optL]
  simp

/-- What is known of the canonical run. -/
structure DC (E : Env) (C : CallF) (ops : Array Oper) (M : List (List Nat)) (T : Nat → Tr Value) (H : Nat → AH) (W : Nat → List Nat) (G Nt : Nat) : Prop where
  seq : CSeq E C ops.toList ops.toList M T H W
  back : Back2 ops
  tmps : okTmps ops.toList (Region.before ops).toList = true
  wok : ∀ j, j < ops.size → ∀ b ∈ W j, b < (H j).n ∧ ∀ i, i < ops.size → i ≠ j → ordd (Region.before ops).toList i j = true ∨ (H i).n ≤ b ∨ b ∈ mkM M i
  opers : ∀ o ∈ ops.toList, okOper G Nt o = true
  fwd : CFwd C
section
variable {E : Env} {C : CallF} {ops : Array Oper} {M : List (List Nat)} {T : Nat → Tr Value} {H : Nat → AH} {W : Nat → List Nat} {G Nt : Nat} (D : DC E C ops M T H W G Nt)
include D
theorem DC.at_ {i : Nat} {o : Oper} (ho : ops[i]? = some o) : ∃ b h2 r hm1, CS E C ops.toList (mkM M i) (T i) (H i) (T (i + 1)) (H (i + 1)) (W i) o b h2 r hm1 :=
  D.seq.at_ i o (by rw [Array.getElem?_toList]; exact ho)
theorem CSfwd {o : Oper} {i : Nat} {b : Bool} {h2 hm1 : AH} {r : Value} (k : CS E C ops.toList (mkM M i) (T i) (H i) (T (i + 1)) (H (i + 1)) (W i) o b h2 r hm1) : Fwd (maskH (mkM M i) h2) hm1 := by
  rcases k.run with ⟨_, h⟩ | ⟨_, _, h⟩
  · exact aop_fwd D.fwd h
  · exact .of_eq h
theorem DC.get {i : Nat} (hi : i < ops.size) : ∃ o, ops[i]? = some o := ⟨_, Array.getElem?_eq_getElem hi⟩
theorem DC.n1 {i : Nat} (hi : i < ops.size) : (H i).n ≤ (H (i + 1)).n := by
  obtain ⟨o, ho⟩ := D.get hi
  obtain ⟨b, h2, r, hm1, k⟩ := D.at_ ho
  have := (CSfwd D k).n
  rw [k.n, ← (awanted_same k.want).2.1]
  exact this
theorem DC.nle {i : Nat} : ∀ (d : Nat), i + d ≤ ops.size → (H i).n ≤ (H (i + d)).n
  | 0, _ => Nat.le_refl _
  | d + 1, h => Nat.le_trans (DC.nle d (by omega)) (D.n1 (by omega))
theorem DC.nmono {i j : Nat} (hij : i ≤ j) (hj : j ≤ ops.size) : (H i).n ≤ (H j).n := by
  have := D.nle (i := i) (j - i) (by omega)
  rwa [show i + (j - i) = j by omega] at this
theorem DC.obj1 {i b : Nat} (hi : i < ops.size) (hb : b < (H i).n) (hw : b ∉ W i) : (H (i + 1)).obj b = (H i).obj b := by
  obtain ⟨o, ho⟩ := D.get hi
  obtain ⟨c, h2, r, hm1, k⟩ := D.at_ ho
  obtain ⟨q1, q2, q3⟩ := awanted_same k.want
  have hf := CSfwd D k
  have hb2 : b < h2.n := by rw [q2]; exact hb
  rw [k.obj b (Nat.lt_of_lt_of_le hb2 hf.n), ← AH.obj_eq q1 q2]
  by_cases hm : b ∈ mkM M i
  · rw [if_pos hm]
  · rw [if_neg hm, hf.keep b hb2 (by rw [← k.wls]; exact hw), maskH_obj, if_neg hm]
theorem DC.objc {k1 b : Nat} (hb : b < (H k1).n) : ∀ (d : Nat), k1 + d ≤ ops.size → (∀ j, k1 ≤ j → j < k1 + d → b ∉ W j) → (H (k1 + d)).obj b = (H k1).obj b
  | 0, _, _ => rfl
  | d + 1, h, hw => by
    rw [← Nat.add_assoc, D.obj1 (by omega) (Nat.lt_of_lt_of_le hb (D.nle d (by omega))) (hw _ (by omega) (by omega))]
    exact DC.objc hb d (by omega) fun j h1 h2 => hw j h1 (by omega)
theorem DC.const {k1 k2 b : Nat} (hk : k1 ≤ k2) (hk2 : k2 ≤ ops.size) (hb : b < (H k1).n) (hw : ∀ j, k1 ≤ j → j < k2 → b ∉ W j) : (H k2).obj b = (H k1).obj b := by
  have := D.objc hb (k2 - k1) (by omega) fun j h1 h2 => hw j h1 (by omega)
  rwa [show k1 + (k2 - k1) = k2 by omega] at this
theorem DC.slot1 {i x : Nat} (hi : i < ops.size) (hd : ∀ o, ops[i]? = some o → o.dst ≠ some x) : (T (i + 1)).get x = (T i).get x := by
  obtain ⟨o, ho⟩ := D.get hi
  obtain ⟨c, h2, r, hm1, k⟩ := D.at_ ho
  rw [k.slot]
  have := hd o ho
  cases hdst : o.dst with
  | none => rfl
  | some y =>
    rw [hdst] at this
    show ((T i).set y r).get x = _
    rw [Tr.get_set, if_neg (fun e => this (by rw [e]))]
theorem DC.slotc {k1 x : Nat} : ∀ (d : Nat), k1 + d ≤ ops.size → (∀ j o, k1 ≤ j → j < k1 + d → ops[j]? = some o → o.dst ≠ some x) → (T (k1 + d)).get x = (T k1).get x
  | 0, _, _ => rfl
  | d + 1, h, hw => by
    rw [← Nat.add_assoc, D.slot1 (by omega) fun o ho => hw _ o (by omega) (by omega) ho]
    exact DC.slotc d (by omega) fun j o h1 h2 => hw j o h1 (by omega)
theorem DC.slots {k1 k2 x : Nat} (hk : k1 ≤ k2) (hk2 : k2 ≤ ops.size) (hw : ∀ j o, k1 ≤ j → j < k2 → ops[j]? = some o → o.dst ≠ some x) : (T k2).get x = (T k1).get x := by
  have := D.slotc (x := x) (k2 - k1) (by omega) fun j o h1 h2 => hw j o h1 (by omega)
  rwa [show k1 + (k2 - k1) = k2 by omega] at this
theorem DC.ob {i : Nat} (hi : i < ops.size) (h : OB (H (i + 1))) : OB (H i) := by
  obtain ⟨o, ho⟩ := D.get hi
  obtain ⟨c, h2, r, hm1, k⟩ := D.at_ ho
  exact (awanted_fwd k.want).ob ((CSfwd D k).ob (k.ob h))
theorem DC.obs (h : OB (H ops.size)) : ∀ (d i : Nat), i + d = ops.size → OB (H i)
  | 0, i, e => by rw [Nat.add_zero] at e; rw [e]; exact h
  | d + 1, i, e => D.ob (by omega) (DC.obs h d (i + 1) (by omega))
theorem DC.logs {c : Nat} : ∀ (i : Nat), i ≤ ops.size → (c ∈ (H i).log ↔ (∃ j, j < i ∧ c ∈ W j) ∨ c ∈ (H 0).log)
  | 0, _ => by constructor
               · exact .inr
               · rintro (⟨j, h, _⟩ | h)
                 · omega
                 · exact h
  | i + 1, hi => by
    obtain ⟨o, ho⟩ := D.get (i := i) (by omega)
    obtain ⟨b, h2, r, hm1, k⟩ := D.at_ ho
    rw [k.log, (awanted_same k.want).2.2, DC.logs i (by omega)]
    constructor
    · rintro (h | ⟨j, h, h'⟩ | h)
      · exact .inl ⟨i, by omega, h⟩
      · exact .inl ⟨j, by omega, h'⟩
      · exact .inr h
    · rintro (⟨j, h, h'⟩ | h)
      · by_cases hj : j = i
        · subst hj; exact .inl h'
        · exact .inr (.inl ⟨j, by omega, h'⟩)
      · exact .inr (.inr h)
end
end Go.Proofs.YtkmbkejmfffafaaGreatDoor.Refl
/- The second reading against the model: what holds between the operations of a drawn region. -/
namespace Go.Proofs.YtkmbkejmfffafaaGreatDoor.Refl
open Go
set_option linter.unusedVariables false
set_option linter.unusedSimpArgs false

/-- A time that tells which writers of a block are done. -/
def Mt (W : Nat → List Nat) (n b : Nat) (L : Nat → Prop) (k : Nat) : Prop := ∀ j, j < n → b ∈ W j → (j < k ↔ L j)
def MtT (ops : Array Oper) (x : Nat) (L : Nat → Prop) (k : Nat) : Prop := ∀ j o, ops[j]? = some o → o.dst = some x → (j < k ↔ L j)
structure Inv (P : Program) (ops : Array Oper) (T : Nat → Tr Value) (H : Nat → AH) (W : Nat → List Nat) (Nt : Nat) (ρ0 : Ren) (w0 : World) (ds : List Deferred) (L : Nat → Prop) (ρ : Ren) (w : World) (a : Act) : Prop where
  ext : Ext ρ0 ρ
  dom : ∀ b im, ρ b = some im → ρ0 b = none → ∃ j, j < ops.size ∧ L j ∧ (H j).n ≤ b ∧ b < (H (j + 1)).n
  cont : ∀ b im k, ρ b = some im → k ≤ ops.size → b < (H k).n → Mt W ops.size b L k → OR P.cellsOf ρ w im ((H k).obj b)
  inj : ∀ b b' im im' k k', ρ b = some im → ρ b' = some im' → k ≤ ops.size → k' ≤ ops.size → b < (H k).n → b' < (H k').n → Mt W ops.size b L k → Mt W ops.size b' L k' →
    (H k).obj b ≠ .dead → (H k').obj b' ≠ .dead → im.blk = im'.blk → b = b'
  wrt : ∀ j, j < ops.size → L j → ∀ b ∈ W j, (∃ im, ρ b = some im) ∧ (H j).obj b ≠ .dead
  slots : ∀ x k, k ≤ ops.size → MtT ops x L k → VR ρ (unset ((T k).get x)) (a.tmps.getD x undef)
  size : a.tmps.size = Nt
  defs : a.defers = ds
  str : Str w0 w
  hsize : w0.heap.size ≤ w.heap.size
  frame : ∀ c, c < w0.heap.size → w.heap[c]? = w0.heap[c]? ∨ ∃ j, j < ops.size ∧ L j ∧ ∃ b ∈ W j, b < (H 0).n ∧ ∃ im, ρ0 b = some im ∧ im.blk = c
  fresh : ∀ b im, ρ b = some im → ρ0 b = none → w0.heap.size ≤ im.blk ∨ ∃ j, j < ops.size ∧ L j ∧ ∃ b0 ∈ W j, b0 < (H 0).n ∧ ∃ im0, ρ0 b0 = some im0 ∧ im0.blk = im.blk
section
variable {P : Program} {E : Env} {C : CallF} {ops : Array Oper} {M : List (List Nat)} {T : Nat → Tr Value} {H : Nat → AH} {W : Nat → List Nat} {G Nt : Nat} (D : DC E C ops M T H W G Nt)
  {ρ0 : Ren} {w0 : World} {ds : List Deferred} {L : Nat → Prop} {ρ : Ren} {w : World} {a : Act} (I : Inv P ops T H W Nt ρ0 w0 ds L ρ w a) (hf0 : Fr ρ0 (H 0).n (H ops.size).n)
include D in
/-- At the start. -/
theorem inv_start (hr : Rel P.cellsOf ρ0 (H 0) w0) (ht : TR Nt ρ0 (T 0) a.tmps) (hd : a.defers = ds) (hf0 : Fr ρ0 (H 0).n (H ops.size).n) (hw : w.heap = w0.heap) (hs : Str w0 w) : Inv P ops T H W Nt ρ0 w0 ds (fun _ => False) ρ0 w a where
  ext := .refl _
  dom := fun b im h1 h2 => by rw [h1] at h2; cases h2
  cont := fun b im k h1 h2 h3 h4 => by
    have hb : b < (H 0).n := by
      rcases Nat.lt_or_ge b (H 0).n with h | h
      · exact h
      · have := hf0 b h (Nat.lt_of_lt_of_le h3 (D.nmono h2 (Nat.le_refl _))); rw [h1] at this; cases this
    rw [D.const (Nat.zero_le k) h2 hb fun j _ hj hm => ((h4 j (by omega) hm).1 hj).elim]
    exact (hr.obj b im h1 hb).mono (.refl _) (by rw [hw])
  inj := fun b b' im im' k k' h1 h1' h2 h2' h3 h3' h4 h4' h5 h5' h6 => by
    have low : ∀ {b im k}, ρ0 b = some im → k ≤ ops.size → b < (H k).n → b < (H 0).n := fun {b im k} h1 h2 h3 => by
      rcases Nat.lt_or_ge b (H 0).n with h | h
      · exact h
      · have := hf0 b h (Nat.lt_of_lt_of_le h3 (D.nmono h2 (Nat.le_refl _))); rw [h1] at this; cases this
    have hb := low h1 h2 h3
    have hb' := low h1' h2' h3'
    rw [D.const (Nat.zero_le k) h2 hb fun j _ hj hm => ((h4 j (by omega) hm).1 hj).elim] at h5
    rw [D.const (Nat.zero_le k') h2' hb' fun j _ hj hm => ((h4' j (by omega) hm).1 hj).elim] at h5'
    exact hr.inj b b' im im' h1 h1' hb hb' h5 h5' h6
  wrt := fun j _ h => h.elim
  slots := fun x k hk hm => by
    rw [D.slots (Nat.zero_le k) hk fun j o _ hj ho hd => (hm j o ho hd).1 hj]
    exact ht.val x
  size := ht.size
  defs := hd
  str := hs
  hsize := by rw [hw]; exact Nat.le_refl _
  frame := fun c _ => .inl (by rw [hw])
  fresh := fun b im h1 h2 => by rw [h1] at h2; cases h2

section one
variable {i : Nat} {o : Oper} (ho : ops[i]? = some o) (hL : Down ops L) (hi : ¬ L i) (hready : ∀ e ∈ o.after.toList, Region.binds .any e = true → L e.on)
include D ho hL hi hready
theorem vis {b : Nat} (hb : b < (H i).n) (hm : b ∉ mkM M i) : Mt W ops.size b L i := by
  intro j hj hbj
  by_cases hij : j = i
  · subst hij; constructor
    · intro h; omega
    · intro h; exact absurd h hi
  · have hio := (Array.getElem?_eq_some_iff.1 ho).1
    rcases (D.wok j hj b hbj).2 i hio (fun e => hij e.symm) with h | h | h
    · exact ord_iff D.back hL ho hi hready h
    · omega
    · exact absurd h hm
theorem visT {x : Nat} (hx : x ∈ tmpsIn ops.toList o) : MtT ops x L i := by
  intro j p hp hd
  by_cases hij : j = i
  · subst hij; constructor
    · intro h; omega
    · intro h; exact absurd h hi
  · refine ord_iff D.back hL ho hi hready (okTmps_some D.tmps (d := x) ?_ ?_ hd hx fun e => hij e.symm)
    · rw [Array.getElem?_toList]; exact ho
    · rw [Array.getElem?_toList]; exact hp
include I
theorem relIn {h2 : AH} (ht : h2.t = (H i).t) (hn : h2.n = (H i).n) : Rel P.cellsOf ρ (maskH (mkM M i) h2) w where
  obj := fun b im h1 h3 => by
    rw [maskH_obj]
    by_cases hm : b ∈ mkM M i
    · rw [if_pos hm]; trivial
    · have hb : b < (H i).n := by rw [← hn]; exact h3
      rw [if_neg hm, AH.obj_eq ht hn]
      exact I.cont b im i h1 (Nat.le_of_lt (Array.getElem?_eq_some_iff.1 ho).1) hb (vis D ho hL hi hready hb hm)
  inj := fun b b' im im' h1 h1' h3 h3' h5 h5' h6 => by
    rw [maskH_obj] at h5 h5'
    by_cases hm : b ∈ mkM M i
    · rw [if_pos hm] at h5; exact absurd rfl h5
    · by_cases hm' : b' ∈ mkM M i
      · rw [if_pos hm'] at h5'; exact absurd rfl h5'
      · have hb : b < (H i).n := by rw [← hn]; exact h3
        have hb' : b' < (H i).n := by rw [← hn]; exact h3'
        rw [if_neg hm, AH.obj_eq ht hn] at h5
        rw [if_neg hm', AH.obj_eq ht hn] at h5'
        have hio := Nat.le_of_lt (Array.getElem?_eq_some_iff.1 ho).1
        exact I.inj b b' im im' i i h1 h1' hio hio hb hb' (vis D ho hL hi hready hb hm) (vis D ho hL hi hready hb' hm') h5 h5' h6
  top := fun b hb => AH.obj_top _ hb
include hf0
theorem frIn : Fr ρ (H i).n (H (i + 1)).n := by
  have hio := (Array.getElem?_eq_some_iff.1 ho).1
  intro x h1 h2
  cases hx : ρ x with
  | none => rfl
  | some im =>
    cases h0 : ρ0 x with
    | some im0 =>
      have := hf0 x (Nat.le_trans (D.nmono (Nat.zero_le i) (by omega)) h1) (Nat.lt_of_lt_of_le h2 (D.nmono (by omega) (Nat.le_refl _)))
      rw [h0] at this; cases this
    | none =>
      obtain ⟨j, hj, hlj, h3, h4⟩ := I.dom x im hx h0
      rcases Nat.lt_trichotomy j i with h | h | h
      · have := D.nmono (i := j + 1) (j := i) (by omega) (by omega); omega
      · subst h; exact absurd hlj hi
      · have := D.nmono (i := i + 1) (j := j) (by omega) (by omega); omega
end one
end
end Go.Proofs.YtkmbkejmfffafaaGreatDoor.Refl
/- The second reading against the model: one operation of a drawn region. -/
namespace Go.Proofs.YtkmbkejmfffafaaGreatDoor.Refl
open Go
set_option linter.unusedVariables false
set_option linter.unusedSimpArgs false

section
variable {P : Program} {E : Env} {C : CallF} {ops : Array Oper} {M : List (List Nat)} {T : Nat → Tr Value} {H : Nat → AH} {W : Nat → List Nat} {G Nt : Nat} (D : DC E C ops M T H W G Nt)
  {ρ0 : Ren} {w0 : World} {ds : List Deferred} {L : Nat → Prop} {ρ : Ren} {w : World} {a : Act} (I : Inv P ops T H W Nt ρ0 w0 ds L ρ w a) (hf0 : Fr ρ0 (H 0).n (H ops.size).n)
  {i : Nat} {o : Oper} (ho : ops[i]? = some o) (hL : Down ops L) (hi : ¬ L i) (hready : ∀ e ∈ o.after.toList, Region.binds .any e = true → L e.on)
  {b0 : Bool} {h2 hm1 : AH} {r r' : Value} (k : CS E C ops.toList (mkM M i) (T i) (H i) (T (i + 1)) (H (i + 1)) (W i) o b0 h2 r hm1)
  {ρ' : Ren} {w' : World} (st : Step P.cellsOf ρ (maskH (mkM M i) h2) w ρ' hm1 w') (hv : VR ρ' r r')
include D I ho hL hi hready k st
theorem cls {b k' : Nat} {im : Im} (hb : ρ' b = some im) (hk : k' ≤ ops.size) (hn : b < (H k').n) (hm : Mt W ops.size b (fun j => L j ∨ j = i) k') :
    (b ∈ W i ∧ b ∉ mkM M i ∧ b < (H i).n ∧ (H i).obj b ≠ .dead ∧ ρ b = some im ∧ (H k').obj b = hm1.obj b ∧ b < hm1.n) ∨
    (ρ b = none ∧ ((H k').obj b = .dead ∨ (H k').obj b = hm1.obj b) ∧ b < hm1.n) ∨
    (b ∉ W i ∧ ρ b = some im ∧ Mt W ops.size b L k') := by
  have hio := (Array.getElem?_eq_some_iff.1 ho).1
  obtain ⟨q1, q2, q3⟩ := awanted_same k.want
  have hn1 : hm1.n = (H (i + 1)).n := k.n.symm
  have hn0 : (maskH (mkM M i) h2).n = (H i).n := q2
  have hnn := D.n1 hio
  by_cases hw : b ∈ W i
  · left
    have hbn := (D.wok i hio b hw).1
    have hlog : b ∈ hm1.log := by rw [← k.wls]; exact hw
    rcases st.wrote b hlog with h | h | ⟨⟨im2, h⟩, h'⟩
    · simp [maskH] at h
    · omega
    · have hbm : b ∉ mkM M i := fun hbm => h' (by rw [maskH_obj, if_pos hbm])
      rw [maskH_obj, if_neg hbm, AH.obj_eq q1 q2] at h'
      have him : im2 = im := Option.some.inj ((st.ext _ _ h).symm.trans hb)
      subst him
      have hik : i < k' := (hm i hio hw).2 (.inr rfl)
      refine ⟨hw, hbm, hbn, h', h, ?_, by omega⟩
      rw [D.const (k1 := i + 1) (by omega) hk (by omega) fun j hj1 hj2 hbj => ?_, k.obj b (by omega), if_neg hbm]
      have hjn : j < ops.size := by omega
      rcases (hm j hjn hbj).1 hj2 with h3 | h3
      · have := (vis D ho hL hi hready hbn hbm j hjn hbj).2 h3; omega
      · omega
  · right
    cases h0 : ρ b with
    | some im2 =>
      right
      have him : im2 = im := Option.some.inj ((st.ext _ _ h0).symm.trans hb)
      subst him
      refine ⟨hw, rfl, fun j hj hbj => ?_⟩
      rw [hm j hj hbj]
      constructor
      · rintro (h | h)
        · exact h
        · subst h; exact absurd hbj hw
      · exact .inl
    | none =>
      left
      obtain ⟨g1, g2⟩ := st.dom b im hb h0
      have hik : i + 1 ≤ k' := by
        rcases Nat.lt_or_ge i k' with h | h
        · omega
        · have := D.nmono (i := k') (j := i) h (by omega); omega
      refine ⟨rfl, ?_, g2⟩
      rw [D.const (k1 := i + 1) hik hk (by omega) fun j hj1 hj2 hbj => ?_, k.obj b g2]
      · by_cases hbm : b ∈ mkM M i
        · rw [if_pos hbm]; left; exact AH.obj_top _ g1
        · rw [if_neg hbm]; exact .inr rfl
      · have hjn : j < ops.size := by omega
        rcases (hm j hjn hbj).1 hj2 with h3 | h3
        · obtain ⟨⟨im3, h4⟩, _⟩ := I.wrt j hjn h3 b hbj
          rw [h0] at h4; cases h4
        · omega
include hf0 hv in
theorem inv_step : Inv P ops T H W Nt ρ0 w0 ds (fun j => L j ∨ j = i) ρ' w' (a.put o.dst r') := by
  have hio := (Array.getElem?_eq_some_iff.1 ho).1
  obtain ⟨q1, q2, q3⟩ := awanted_same k.want
  have hn1 : hm1.n = (H (i + 1)).n := k.n.symm
  have hn0 : (maskH (mkM M i) h2).n = (H i).n := q2
  have hnn := D.n1 hio
  have hlow : ∀ {b im}, ρ0 b = some im → b < (H i).n → b < (H 0).n := fun {b im} h1 h2 => by
    rcases Nat.lt_or_ge b (H 0).n with h | h
    · exact h
    · have := hf0 b h (Nat.lt_of_lt_of_le h2 (D.nmono (by omega) (Nat.le_refl _))); rw [h1] at this; cases this
  -- a block that is not written stands, or is dead
  have stands : ∀ {b k' im}, ρ b = some im → k' ≤ ops.size → b < (H k').n → b ∉ W i → Mt W ops.size b L k' → (H k').obj b ≠ .dead → w'.heap[im.blk]? = w.heap[im.blk]? ∧ im.blk < w.heap.size := by
    intro b k' im hb hk hn hw hm hd
    have hor := I.cont b im k' hb hk hn hm
    have hlt := hor.lt hd
    refine ⟨?_, hlt⟩
    rcases st.frame im.blk hlt with h | ⟨b1, im1, h1, h2', h3, h4⟩
    · exact h
    · exfalso
      have hb1w : b1 ∈ W i := by rw [k.wls]; exact h1
      have hb1n : b1 < (H i).n := by rw [← hn0]; exact h2'
      rcases st.wrote b1 h1 with h | h | ⟨_, h'⟩
      · simp [maskH] at h
      · omega
      · have hbm : b1 ∉ mkM M i := fun hbm => h' (by rw [maskH_obj, if_pos hbm])
        rw [maskH_obj, if_neg hbm, AH.obj_eq q1 q2] at h'
        have := I.inj b b1 im im1 k' i hb h3 hk (by omega) hn hb1n hm (vis D ho hL hi hready hb1n hbm) hd h' h4.symm
        exact hw (this ▸ hb1w)
  refine ⟨I.ext.trans st.ext, fun b im h1 h2' => ?_, fun b im k' h1 h2' h3 h4 => ?_, fun b b' im im' k1 k1' h1 h1' h2' h2'' h3 h3' h4 h4' h5 h5' h6 => ?_, fun j hj hLj b hbj => ?_, fun x k' hk hm => ?_, ?_, ?_,
    I.str.trans st.str, Nat.le_trans I.hsize st.size, fun c hc => ?_, fun b im h1 h2' => ?_⟩
  · -- dom
    cases h0 : ρ b with
    | some im2 =>
      obtain ⟨j, hj, hLj, h3⟩ := I.dom b im2 h0 h2'
      exact ⟨j, hj, .inl hLj, h3⟩
    | none =>
      obtain ⟨g1, g2⟩ := st.dom b im h1 h0
      exact ⟨i, hio, .inr rfl, by omega, by omega⟩
  · -- cont
    rcases cls D I ho hL hi hready k st h1 h2' h3 h4 with ⟨_, _, _, _, _, c6, c7⟩ | ⟨_, c2, c3⟩ | ⟨c1, c2, c3⟩
    · rw [c6]; exact st.rel.obj b im h1 c7
    · rcases c2 with c2 | c2
      · rw [c2]; trivial
      · rw [c2]; exact st.rel.obj b im h1 c3
    · by_cases hd : (H k').obj b = .dead
      · rw [hd]; trivial
      · exact (I.cont b im k' c2 h2' h3 c3).mono st.ext (stands c2 h2' h3 c1 c3 hd).1
  · -- inj
    have mixed : ∀ {b b' im im' k1}, b ∉ W i → ρ b = some im → Mt W ops.size b L k1 → k1 ≤ ops.size → b < (H k1).n → (H k1).obj b ≠ .dead → ρ' b' = some im' →
        ((b' ∈ W i ∧ b' ∉ mkM M i ∧ b' < (H i).n ∧ (H i).obj b' ≠ .dead ∧ ρ b' = some im') ∨ ρ b' = none) → im.blk = im'.blk → b = b' := by
      intro b b' im im' k1 c1 c2 c3 c4 c5 c6 e1 e2 e3
      rcases e2 with ⟨e4, e5, e6, e7, e8⟩ | e4
      · exact I.inj b b' im im' k1 i c2 e8 c4 (by omega) c5 e6 c3 (vis D ho hL hi hready e6 e5) c6 e7 e3
      · obtain ⟨_, hlt⟩ := stands c2 c4 c5 c1 c3 c6
        rcases st.fresh b' im' e1 e4 with h | ⟨b1, im1, g1, g2, g3, g4⟩
        · omega
        · exfalso
          have hb1w : b1 ∈ W i := by rw [k.wls]; exact g1
          have hb1n : b1 < (H i).n := by rw [← hn0]; exact g2
          rcases st.wrote b1 g1 with h | h | ⟨_, h'⟩
          · simp [maskH] at h
          · omega
          · have hbm : b1 ∉ mkM M i := fun hbm => h' (by rw [maskH_obj, if_pos hbm])
            rw [maskH_obj, if_neg hbm, AH.obj_eq q1 q2] at h'
            have := I.inj b b1 im im1 k1 i c2 g3 c4 (by omega) c5 hb1n c3 (vis D ho hL hi hready hb1n hbm) c6 h' (by rw [e3, g4])
            exact c1 (this ▸ hb1w)
    have hm1o : ∀ {b k'}, ((H k').obj b = .dead ∨ (H k').obj b = hm1.obj b) → (H k').obj b ≠ .dead → hm1.obj b ≠ .dead := fun h hd => by
      rcases h with h | h
      · exact absurd h hd
      · rw [← h]; exact hd
    rcases cls D I ho hL hi hready k st h1 h2' h3 h4 with ⟨c1, c2, c3, c4, c5, c6, c7⟩ | ⟨c1, c2, c3⟩ | ⟨c1, c2, c3⟩ <;>
      rcases cls D I ho hL hi hready k st h1' h2'' h3' h4' with ⟨e1, e2, e3, e4, e5, e6, e7⟩ | ⟨e1, e2, e3⟩ | ⟨e1, e2, e3⟩
    · exact st.rel.inj b b' im im' h1 h1' c7 e7 (hm1o (.inr c6) h5) (hm1o (.inr e6) h5') h6
    · exact st.rel.inj b b' im im' h1 h1' c7 e3 (hm1o (.inr c6) h5) (hm1o e2 h5') h6
    · exact (mixed e1 e2 e3 h2'' h3' h5' h1 (.inl ⟨c1, c2, c3, c4, c5⟩) h6.symm).symm
    · exact st.rel.inj b b' im im' h1 h1' c3 e7 (hm1o c2 h5) (hm1o (.inr e6) h5') h6
    · exact st.rel.inj b b' im im' h1 h1' c3 e3 (hm1o c2 h5) (hm1o e2 h5') h6
    · exact (mixed e1 e2 e3 h2'' h3' h5' h1 (.inr c1) h6.symm).symm
    · exact mixed c1 c2 c3 h2' h3 h5 h1' (.inl ⟨e1, e2, e3, e4, e5⟩) h6
    · exact mixed c1 c2 c3 h2' h3 h5 h1' (.inr e1) h6
    · exact I.inj b b' im im' k1 k1' c2 e2 h2' h2'' h3 h3' c3 e3 h5 h5' h6
  · -- wrt
    rcases hLj with hLj | rfl
    · obtain ⟨⟨im, h1⟩, h2'⟩ := I.wrt j hj hLj b hbj
      exact ⟨⟨im, st.ext _ _ h1⟩, h2'⟩
    · have hlog : b ∈ hm1.log := by rw [← k.wls]; exact hbj
      have hbn := (D.wok j hio b hbj).1
      rcases st.wrote b hlog with h | h | ⟨⟨im2, h⟩, h'⟩
      · simp [maskH] at h
      · omega
      · have hbm : b ∉ mkM M j := fun hbm => h' (by rw [maskH_obj, if_pos hbm])
        rw [maskH_obj, if_neg hbm, AH.obj_eq q1 q2] at h'
        exact ⟨⟨im2, st.ext _ _ h⟩, h'⟩
  · -- slots
    by_cases hd : o.dst = some x
    · have hik : i < k' := (hm i o ho hd).2 (.inr rfl)
      have hT : (T k').get x = some r := by
        rw [D.slots (k1 := i + 1) (by omega) hk fun j p hj1 hj2 hp hpd => ?_, k.slot, hd]
        · show ((T i).set x r).get x = _
          rw [Tr.get_set, if_pos rfl]
        · rcases (hm j p hp hpd).1 hj2 with h3 | h3
          · have := (visT D ho hL hi hready (dst_in hd) j p hp hpd).2 h3; omega
          · omega
      have hxN : x < Nt := (okOper_some (D.opers o (List.mem_of_getElem? (by rw [Array.getElem?_toList]; exact ho)))).1 x hd
      rw [hT, hd]
      show VR ρ' r ((a.tmps.setIfInBounds x r').getD x undef)
      rw [Array.getD_eq_getD_getElem?, Array.getElem?_setIfInBounds, I.size]
      simpa [hxN] using hv
    · have hmL : MtT ops x L k' := fun j p hp hpd => by
        rw [hm j p hp hpd]
        constructor
        · rintro (h | h)
          · exact h
          · subst h; rw [ho] at hp; cases hp; exact absurd hpd hd
        · exact .inl
      have := (I.slots x k' hk hmL).mono st.ext
      cases hdst : o.dst with
      | none => exact this
      | some y =>
        show VR ρ' _ ((a.tmps.setIfInBounds y r').getD x undef)
        have hxy : x ≠ y := fun e => hd (by rw [hdst, e])
        rw [Array.getD_eq_getD_getElem?, Array.getElem?_setIfInBounds, if_neg (by omega), ← Array.getD_eq_getD_getElem?]
        exact this
  · cases hdst : o.dst with
    | none => exact I.size
    | some y => simpa [Act.put] using I.size
  · rw [put_defers]; exact I.defs
  · -- frame
    rcases st.frame c (Nat.lt_of_lt_of_le hc I.hsize) with h | ⟨b1, im1, g1, g2, g3, g4⟩
    · rcases I.frame c hc with h' | ⟨j, hj, hLj, h'⟩
      · exact .inl (h.trans h')
      · exact .inr ⟨j, hj, .inl hLj, h'⟩
    · right
      have hb1w : b1 ∈ W i := by rw [k.wls]; exact g1
      have hb1n : b1 < (H i).n := by rw [← hn0]; exact g2
      cases h0 : ρ0 b1 with
      | some im0 =>
        obtain rfl := Option.some.inj ((I.ext _ _ h0).symm.trans g3)
        exact ⟨i, hio, .inr rfl, b1, hb1w, hlow h0 hb1n, im0, h0, g4⟩
      | none =>
        rcases I.fresh b1 im1 g3 h0 with h | ⟨j, hj, hLj, b2, hb2, hb2n, im2, h3, h4⟩
        · omega
        · exact ⟨j, hj, .inl hLj, b2, hb2, hb2n, im2, h3, h4.trans g4⟩
  · -- fresh
    cases hρ : ρ b with
    | some im2 =>
      obtain rfl := Option.some.inj ((st.ext _ _ hρ).symm.trans h1)
      rcases I.fresh b im2 hρ h2' with h | ⟨j, hj, hLj, h⟩
      · exact .inl h
      · exact .inr ⟨j, hj, .inl hLj, h⟩
    | none =>
      rcases st.fresh b im h1 hρ with h | ⟨b1, im1, g1, g2, g3, g4⟩
      · exact .inl (Nat.le_trans I.hsize h)
      · have hb1w : b1 ∈ W i := by rw [k.wls]; exact g1
        have hb1n : b1 < (H i).n := by rw [← hn0]; exact g2
        cases h0 : ρ0 b1 with
        | some im0 =>
          obtain rfl := Option.some.inj ((I.ext _ _ h0).symm.trans g3)
          exact .inr ⟨i, hio, .inr rfl, b1, hb1w, hlow h0 hb1n, im0, h0, g4⟩
        | none =>
          rcases I.fresh b1 im1 g3 h0 with h | ⟨j, hj, hLj, b2, hb2, hb2n, im2, h3, h4⟩
          · left; omega
          · exact .inr ⟨j, hj, .inl hLj, b2, hb2, hb2n, im2, h3, h4.trans g4⟩
end
end Go.Proofs.YtkmbkejmfffafaaGreatDoor.Refl
/- The second reading against the model: a drawn region, whole. -/
namespace Go.Proofs.YtkmbkejmfffafaaGreatDoor.Refl
open Go
set_option linter.unusedVariables false
set_option linter.unusedSimpArgs false

section
variable {P : Program} {E : Env} {C : CallF} {ops : Array Oper} {M : List (List Nat)} {T : Nat → Tr Value} {H : Nat → AH} {W : Nat → List Nat} {G Nt : Nat} (D : DC E C ops M T H W G Nt)
  {ρ0 : Ren} {w0 : World} {ds : List Deferred} {ρ : Ren} {w : World} {a : Act}
include D in
/-- All done: what the region comes to. -/
theorem inv_end {L : Nat → Prop} (I : Inv P ops T H W Nt ρ0 w0 ds L ρ w a) (hall : ∀ j, j < ops.size → L j) (hf0 : Fr ρ0 (H 0).n (H ops.size).n) (hr0 : Rel P.cellsOf ρ0 (H 0) w0) :
    TR Nt ρ (T ops.size) a.tmps ∧ a.defers = ds ∧ Step P.cellsOf ρ0 (H 0) w0 ρ (H ops.size) w := by
  have hM : ∀ b, Mt W ops.size b L ops.size := fun b j hj _ => ⟨fun _ => hall j hj, fun _ => hj⟩
  have hMT : ∀ x, MtT ops x L ops.size := fun x j o ho _ => by
    have hj := (Array.getElem?_eq_some_iff.1 ho).1
    exact ⟨fun _ => hall j hj, fun _ => hj⟩
  refine ⟨⟨I.size, fun x => I.slots x _ (Nat.le_refl _) (hMT x)⟩, I.defs, ?_⟩
  exact {
    ext := I.ext
    dom := fun b im h1 h2 => by
      obtain ⟨j, hj, _, h3, h4⟩ := I.dom b im h1 h2
      have := D.nmono (i := 0) (j := j) (by omega) (by omega)
      have := D.nmono (i := j + 1) (j := ops.size) (by omega) (by omega)
      omega
    rel := {
      obj := fun b im h1 h2 => I.cont b im _ h1 (Nat.le_refl _) h2 (hM b)
      inj := fun b b' im im' h1 h1' h2 h2' h3 h3' h4 => I.inj b b' im im' _ _ h1 h1' (Nat.le_refl _) (Nat.le_refl _) h2 h2' (hM b) (hM b') h3 h3' h4
      top := fun b hb => AH.obj_top _ hb }
    size := I.hsize
    n_le := D.nmono (Nat.zero_le _) (Nat.le_refl _)
    str := I.str
    frame := fun c hc => by
      rcases I.frame c hc with h | ⟨j, hj, _, b, hb, hbn, im, h1, h2⟩
      · exact .inl h
      · exact .inr ⟨b, im, (D.logs _ (Nat.le_refl _)).2 (.inl ⟨j, hj, hb⟩), hbn, h1, h2⟩
    fresh := fun b im h1 h2 => by
      rcases I.fresh b im h1 h2 with h | ⟨j, hj, _, b0, hb, hbn, im0, h3, h4⟩
      · exact .inl h
      · exact .inr ⟨b0, im0, (D.logs _ (Nat.le_refl _)).2 (.inl ⟨j, hj, hb⟩), hbn, h3, h4⟩
    keep := fun b hb hl => D.const (Nat.zero_le _) (Nat.le_refl _) hb fun j _ hj hw => hl ((D.logs _ (Nat.le_refl _)).2 (.inl ⟨j, hj, hw⟩))
    logm := fun b hb => (D.logs _ (Nat.le_refl _)).2 (.inr hb)
    wrote := fun b hb => by
      rcases (D.logs _ (Nat.le_refl _)).1 hb with ⟨j, hj, hw⟩ | h
      · right
        rcases Nat.lt_or_ge b (H 0).n with hbn | hbn
        · right
          obtain ⟨⟨im, h1⟩, h2⟩ := I.wrt j hj (hall j hj) b hw
          refine ⟨?_, ?_⟩
          · cases h0 : ρ0 b with
            | some im0 => exact ⟨im0, rfl⟩
            | none =>
              obtain ⟨j2, _, _, h3, _⟩ := I.dom b im h1 h0
              have := D.nmono (i := 0) (j := j2) (by omega) (by omega)
              omega
          · have least : ∀ n, n < ops.size → b ∈ W n → (H 0).obj b ≠ .dead := by
              intro n
              induction n using Nat.strongRecOn with
              | _ n ih =>
                intro hn hbn2
                by_cases hex : ∃ m, m < n ∧ b ∈ W m
                · obtain ⟨m, hm, hbm⟩ := hex
                  exact ih m hm (by omega) hbm
                · have := (I.wrt n hn (hall n hn) b hbn2).2
                  rwa [D.const (Nat.zero_le n) (by omega) hbn fun q _ hq hbq => hex ⟨q, hq, hbq⟩] at this
            exact least j hj hw
        · exact .inl hbn
      · exact .inl h }
/-- How many are still to come. -/
def left (ops : Array Oper) (listed : Array Bool) : Nat := ((List.range ops.size).filter fun i => !listed.getD i false).length
theorem filter_lt {p q : Nat → Bool} : ∀ (l : List Nat), (∀ x, q x = true → p x = true) → (∃ x ∈ l, p x = true ∧ q x = false) → (l.filter q).length < (l.filter p).length
  | [], _, h => by obtain ⟨x, hx, _⟩ := h; simp at hx
  | y :: l, hpq, h => by
    have hle : ∀ (l : List Nat), (l.filter q).length ≤ (l.filter p).length := by
      intro l
      induction l with
      | nil => simp
      | cons z l ih =>
        by_cases hq : q z = true
        · simp [List.filter_cons, hq, hpq z hq]; exact ih
        · have hq' : q z = false := by simpa using hq
          by_cases hp : p z = true
          · simp [List.filter_cons, hq', hp]; omega
          · have hp' : p z = false := by simpa using hp
            simp [List.filter_cons, hq', hp']; exact ih
    obtain ⟨x, hx, h1, h2⟩ := h
    rcases List.mem_cons.1 hx with rfl | hx
    · simp [List.filter_cons, h1, h2]; have := hle l; omega
    · have ih := filter_lt l hpq ⟨x, hx, h1, h2⟩
      by_cases hq : q y = true
      · simp [List.filter_cons, hq, hpq y hq]; exact ih
      · have hq' : q y = false := by simpa using hq
        by_cases hp : p y = true
        · simp [List.filter_cons, hq', hp]; omega
        · have hp' : p y = false := by simpa using hp
          simp [List.filter_cons, hq', hp']; exact ih
theorem set_getD {listed : Array Bool} {i j : Nat} (hi : i < listed.size) : (listed.setIfInBounds i true).getD j false = true ↔ listed.getD j false = true ∨ j = i := by
  rw [Array.getD_eq_getD_getElem?, Array.getD_eq_getD_getElem?, Array.getElem?_setIfInBounds]
  by_cases h : i = j
  · subst h; simp [hi]
  · rw [if_neg h]
    constructor
    · exact .inl
    · rintro (h1 | h1)
      · exact h1
      · exact absurd h1.symm h
theorem getD_any {listed : Array Bool} {i : Nat} (hi : i < listed.size) : listed.getD i true = listed.getD i false := by
  rw [Array.getD_eq_getD_getElem?, Array.getD_eq_getD_getElem?, Array.getElem?_eq_getElem hi]; rfl
theorem ready_mem {listed : Array Bool} {i : Nat} (hs : listed.size = ops.size) (h : i ∈ Region.ready .any ops listed) : ∃ o, ops[i]? = some o ∧ ¬ (listed.getD i false = true) ∧ ∀ e ∈ o.after.toList, Region.binds .any e = true → listed.getD e.on false = true := by
  unfold Region.ready at h
  rw [List.mem_filter] at h
  obtain ⟨h1, h2⟩ := h
  rw [Bool.and_eq_true] at h2
  obtain ⟨h2, h3⟩ := h2
  cases ho : ops[i]? with
  | none => rw [ho] at h3; simp at h3
  | some o =>
    rw [ho] at h3
    simp only [Option.map_some, Option.getD_some] at h3
    have hlt : i < listed.size := by rw [hs]; exact List.mem_range.1 h1
    rw [getD_any hlt] at h2
    refine ⟨o, rfl, by simpa using h2, fun e he hb => ?_⟩
    rw [← Array.all_toList] at h3
    have := List.all_eq_true.1 h3 e he
    rw [hb] at this
    simpa using this
theorem ready_nil (hback : Back2 ops) {listed : Array Bool} (hs : listed.size = ops.size) (h : Region.ready .any ops listed = []) : ∀ j, j < ops.size → listed.getD j false = true := by
  intro j
  induction j using Nat.strongRecOn with
  | _ j ih =>
    intro hj
    by_cases hl : listed.getD j false = true
    · exact hl
    · exfalso
      have ho : ops[j]? = some ops[j] := Array.getElem?_eq_getElem hj
      have : j ∈ Region.ready .any ops listed := by
        unfold Region.ready
        rw [List.mem_filter]
        refine ⟨List.mem_range.2 hj, ?_⟩
        rw [Bool.and_eq_true]
        refine ⟨by rw [getD_any (by omega)]; simpa using hl, ?_⟩
        rw [ho]
        simp only [Option.map_some, Option.getD_some]
        rw [← Array.all_toList]
        refine List.all_eq_true.2 fun e he => ?_
        cases hb : Region.binds .any e with
        | false => rfl
        | true =>
          have hlt := hback j _ ho e he hb
          have := ih e.on hlt (by omega)
          simp only [Bool.not_true, Bool.false_or]
          exact this
      rw [h] at this
      simp at this
theorem aeval_ok' {N : Nat} {t : Tr Value} (hg : GL G ρ) {x : Operand} (hx : okOpd G x = true) (ht : ∀ j, x = .tmp j → VR ρ (unset (t.get j)) (a.tmps.getD j undef)) : VR ρ (aeval t x) (a.eval x) := by
  cases x with
  | tmp i => exact ht i rfl
  | const v => exact flat_VR ρ 5 v hx
  | global g =>
    have hlt : g < G := by simpa [okOpd, blt_eq] using hx
    obtain ⟨im, h1, h2, h3⟩ := hg g hlt
    have := VR.ptr_mk (ρ := ρ) (b := g) (off := 0) h1
    rw [h2, h3] at this
    exact this
  | func f => exact .func .nil .nil
include D in
theorem any_ok (hE : EnvM P E) (hC : CallOK P G C) (hobN : OB (H ops.size)) (hg0 : GL G ρ0) (hf0 : Fr ρ0 (H 0).n (H ops.size).n) {Q : Exit → Act → World → Prop}
    (hfin : ∀ L ρ w a, Inv P ops T H W Nt ρ0 w0 ds L ρ w a → (∀ j, j < ops.size → L j) → Q .normal a w) :
    ∀ (fuel : Nat) (listed : Array Bool) (ρ : Ren) (w : World) (a : Act), left ops listed ≤ fuel → listed.size = ops.size → Down ops (fun i => listed.getD i false = true) →
      Inv P ops T H W Nt ρ0 w0 ds (fun i => listed.getD i false = true) ρ w a → wpAny P .any ops Q fuel listed a w := by
  intro fuel
  induction fuel with
  | zero =>
    intro listed ρ w a hc hs hL I
    have hall : ∀ j, j < ops.size → listed.getD j false = true := fun j hj => by
      by_cases hl : listed.getD j false = true
      · exact hl
      · exfalso
        have hm : j ∈ (List.range ops.size).filter fun i => !listed.getD i false := List.mem_filter.2 ⟨List.mem_range.2 hj, by simpa using hl⟩
        have : 0 < ((List.range ops.size).filter fun i => !listed.getD i false).length := List.length_pos_of_mem hm
        unfold left at hc
        omega
    refine ⟨?_, hfin _ _ _ _ I hall⟩
    cases hr : Region.ready .any ops listed with
    | nil => rfl
    | cons i l =>
      obtain ⟨o, ho, hn, _⟩ := ready_mem (ops := ops) (listed := listed) (i := i) hs (by rw [hr]; simp)
      exact absurd (hall i (Array.getElem?_eq_some_iff.1 ho).1) hn
  | succ fuel ih =>
    intro listed ρ w a hc hs hL I
    refine ⟨fun hr => hfin _ _ _ _ I (ready_nil D.back hs hr), fun i him => ?_⟩
    obtain ⟨o, ho, hi, hready⟩ := ready_mem hs him
    have hio := (Array.getElem?_eq_some_iff.1 ho).1
    obtain ⟨b0, h2, r, hm1, k⟩ := D.at_ ho
    obtain ⟨q1, q2, q3⟩ := awanted_same k.want
    have hrel := relIn D I ho hL hi hready q1 q2
    have hfr := frIn D I hf0 ho hL hi hready
    have hob1 : OB hm1 := k.ob (D.obs hobN (ops.size - (i + 1)) (i + 1) (by omega))
    have hob2 : OB h2 := (CSfwd D k).ob hob1
    have hgood := D.opers o (List.mem_of_getElem? (by rw [Array.getElem?_toList]; exact ho))
    -- what comes after
    have next : ∀ ρ' r' w', VR ρ' r r' → Step P.cellsOf ρ (maskH (mkM M i) h2) w ρ' hm1 w' → wpAny P .any ops Q fuel (listed.setIfInBounds i true) (a.put o.dst r') w' := by
      intro ρ' r' w' hv st
      have hset : (fun j => (listed.setIfInBounds i true).getD j false = true) = (fun j => listed.getD j false = true ∨ j = i) := by
        funext j; exact propext (set_getD (by omega))
      refine ih (listed.setIfInBounds i true) ρ' w' (a.put o.dst r') ?_ (by simpa using hs) ?_ ?_
      · have : left ops (listed.setIfInBounds i true) < left ops listed := by
          refine filter_lt _ (fun x hx => ?_) ⟨i, List.mem_range.2 hio, by simpa using hi, ?_⟩
          · have hx' : ¬ ((listed.setIfInBounds i true).getD x false = true) := by simpa using hx
            rw [set_getD (by omega)] at hx'
            have : ¬ listed.getD x false = true := fun h => hx' (.inl h)
            simpa using this
          · have : (listed.setIfInBounds i true).getD i false = true := (set_getD (by omega)).2 (.inr rfl)
            rw [this]; rfl
        omega
      · rw [hset]
        rintro j p (hj | rfl) hp e he hb
        · exact .inl (hL j p hj hp e he hb)
        · rw [ho] at hp; cases hp
          exact .inl (hready e he hb)
      · rw [hset]
        exact inv_step D I hf0 ho hL hi hready k st hv
    unfold wpOp
    rw [ho]
    simp only
    obtain ⟨_, _, _, g4⟩ := awanted_ok (ops := ops) (a := a) (ρ := ρ) k.want fun g want p x hgd hp hd =>
      I.slots x i (by omega) (visT D ho hL hi hready (guard_in (ops := ops.toList) hgd (by rw [Array.getElem?_toList]; exact hp) hd))
    obtain ⟨_, hwant⟩ := g4 hob2
    rw [hwant]
    rcases k.run with ⟨rfl, ha⟩ | ⟨rfl, rfl, rfl⟩
    · rw [if_pos rfl]
      left
      refine aop_ok hE hC D.fwd (fun x hx => ?_) ha hob1 (hg0.mono I.ext) hrel ?_ _ _ next
      · exact aeval_ok' (N := Nt) (hg0.mono I.ext) ((okOper_some hgood).2 x hx) fun j hj => I.slots j i (by omega) (visT D ho hL hi hready (opd_in (by rw [← hj]; exact hx)))
      · have e1 : (maskH (mkM M i) h2).n = (H i).n := q2
        rw [e1, ← k.n]; exact hfr
    · rw [if_neg (by simp)]
      exact next ρ undef w (.tuple .nil) (.refl hrel)
end
end Go.Proofs.YtkmbkejmfffafaaGreatDoor.Refl
/- The second reading against the model: code. -/
namespace Go.Proofs.YtkmbkejmfffafaaGreatDoor.Refl
open Go
set_option linter.unusedVariables false
set_option linter.unusedSimpArgs false

def exOf : AEx → Exit
  | .normal => .normal
  | .exit id => .exit id
  | .ret => .ret
def CPost (P : Program) (N : Nat) (s : St) (ρ : Ren) (h : AH) (w : World) (e : Exit) (a : Act) (w' : World) : Prop := e = exOf s.e ∧ Post P N s ρ h w a w'
section
variable {P : Program} {E : Env} {C : CallF} {G N : Nat} {t : Tr Value} {a : Act} {h h1 h2 : AH} {ρ ρ' : Ren} {w w' : World} {d : List ADef} {s : St}
theorem rep_false (n i : Nat) : (Array.replicate n false).getD i false = false := by
  rw [Array.getD_eq_getD_getElem?, Array.getElem?_replicate]
  by_cases h : i < n <;> simp [h]
theorem okReg_some {ops : Array Oper} {draw : Bool} (h : okReg G N ops draw = true) : (∀ o ∈ ops.toList, okOper G N o = true) ∧ (draw = true → Back2 ops ∧ okTmps ops.toList (Region.before ops).toList = true) := by
  unfold okReg at h
  cases h1 : allB (okOper G N) ops.toList with
  | false => simp [h1] at h
  | true =>
    simp only [h1] at h
    refine ⟨(allB_eq _ _).1 h1, fun hd => ?_⟩
    subst hd
    simp only [okDrawn] at h
    cases h2 : okRank .any ops.toList (upTo (len ops.toList) []) with
    | false => simp [h2] at h
    | true =>
      simp only [h2] at h
      cases h3 : okTmps ops.toList (Region.before ops).toList with
      | false => simp [h3] at h
      | true => exact ⟨okRank_back h2, rfl⟩
theorem mkDC {ops : Array Oper} (hx : adrawn E C ops t d h = some s) (hok : okReg G N ops true = true) (hCF : CFwd C) :
    ∃ M T H W, DC E C ops M T H W G N ∧ T 0 = t ∧ H 0 = h ∧ T ops.size = s.t ∧ H ops.size = s.h ∧ s.d = d ∧ s.e = .normal := by
  obtain ⟨M, R, h1, h2, rfl⟩ := adrawn_some hx
  obtain ⟨T, H, W, k1, k2, k3, k4, k5, k6⟩ := arecs_seq _ _ _ _ _ _ h1
  obtain ⟨g1, g2⟩ := okReg_some hok
  obtain ⟨g3, g4⟩ := g2 rfl
  rw [k6] at h2
  have h2 : okW (Region.before ops).toList M ((List.range ops.size).map fun i => ⟨(H i).n, W i⟩) = true := by simpa using h2
  exact ⟨M, T, H, W, ⟨k1, g3, g4, okW_some h2, g1, hCF⟩, k2, k3, by simpa using k4, by simpa using k5, rfl, rfl⟩
theorem drawn_fwd {ops : Array Oper} (hx : adrawn E C ops t d h = some s) (hok : okReg G N ops true = true) (hCF : CFwd C) : Fwd h s.h := by
  obtain ⟨M, T, H, W, D, _, rfl, _, k4, _, _⟩ := mkDC hx hok hCF
  rw [← k4]
  exact ⟨D.nmono (Nat.zero_le _) (Nat.le_refl _), fun ho => D.obs ho ops.size 0 (by omega),
    fun b hb hl => D.const (Nat.zero_le _) (Nat.le_refl _) hb fun j _ hj hw => hl ((D.logs _ (Nat.le_refl _)).2 (.inl ⟨j, hj, hw⟩)), fun b hb => (D.logs _ (Nat.le_refl _)).2 (.inr hb)⟩
theorem drawn_ok (hE : EnvM P E) (hC : CallOK P G C) (hCF : CFwd C) {id : Nat} {ops : Array Oper} (hm : P.follows .mixedOrders = true) (hx : adrawn E C ops t d h = some s) (hok : okReg G N ops true = true) (hob : OB s.h)
    (hg : GL G ρ) (hr : Rel P.cellsOf ρ h w) (hf : Fr ρ h.n s.h.n) (ht : TR N ρ t a.tmps) (hd : DsR ρ d a.defers) : (Code.region id ops true).wp P (CPost P N s ρ h w) a w := by
  obtain ⟨M, T, H, W, D, rfl, rfl, k3, k4, k5, k6⟩ := mkDC hx hok hCF
  refine wp_region_any hm ?_
  have hf' : Fr ρ (H 0).n (H ops.size).n := by rw [k4]; exact hf
  refine any_ok D (ρ0 := ρ) (w0 := w) (ds := a.defers) hE hC (by rw [k4]; exact hob) hg hf' (fun L ρ2 w2 a2 I hall => ?_) ops.size _ ρ _ a ?_ (by simp) (fun i o hi => ?_) ?_
  · obtain ⟨q1, q2, q3⟩ := inv_end D I hall hf' hr
    refine ⟨by rw [k6]; rfl, ρ2, by rw [← k3]; exact q1, ?_, by rw [← k4]; exact q3⟩
    rw [q2, k5]; exact hd.mono q3.ext
  · have := List.length_filter_le (fun i => !(Array.replicate ops.size false).getD i false) (List.range ops.size)
    simpa [left] using this
  · have hi : (Array.replicate ops.size false).getD i false = true := hi
    rw [rep_false] at hi; cases hi
  · have hfalse : (fun i => (Array.replicate ops.size false).getD i false = true) = fun _ => False := by
      funext i
      rw [rep_false]; simp
    rw [hfalse]
    exact inv_start D hr ht rfl hf' rfl ⟨rfl, rfl, rfl⟩
theorem thenC_some {k : Tr Value → List ADef → AH → Res} {r : Res} (hx : thenC k r = some s) : ∃ s1, r = some s1 ∧ ((s1.e = .normal ∧ k s1.t s1.d s1.h = some s) ∨ (s1.e ≠ .normal ∧ s = s1)) := by
  cases r with
  | none => cases hx
  | some s1 =>
    refine ⟨s1, rfl, ?_⟩
    obtain ⟨e, t, d, h⟩ := s1
    cases e with
    | normal => exact .inl ⟨rfl, hx⟩
    | exit id => right; refine ⟨by simp, ?_⟩; have hx : some (St.mk (.exit id) t d h) = some s := hx; cases hx; rfl
    | ret => right; refine ⟨by simp, ?_⟩; have hx : some (St.mk .ret t d h) = some s := hx; cases hx; rfl
theorem outOf_some {id : Nat} {r : Res} (hx : outOf id r = some s) : ∃ s1, r = some s1 ∧ s.t = s1.t ∧ s.d = s1.d ∧ s.h = s1.h ∧ s.e = (match s1.e with | .exit j => if j = id then .normal else .exit j | e => e) := by
  cases r with
  | none => cases hx
  | some s1 =>
    refine ⟨s1, rfl, ?_⟩
    obtain ⟨e, t, d, h⟩ := s1
    cases e with
    | normal => have hx : some (St.mk .normal t d h) = some s := hx; cases hx; exact ⟨rfl, rfl, rfl, rfl⟩
    | ret => have hx : some (St.mk .ret t d h) = some s := hx; cases hx; exact ⟨rfl, rfl, rfl, rfl⟩
    | exit j =>
      have hx : Bool.rec (motive := fun _ => Res) (some ⟨.exit j, t, d, h⟩) (some ⟨.normal, t, d, h⟩) (Nat.beq j id) = some s := hx
      rw [bq] at hx
      by_cases hj : j = id
      · simp only [hj, decide_true] at hx; cases hx; exact ⟨rfl, rfl, rfl, by simp [hj]⟩
      · simp only [hj, decide_false] at hx; cases hx; exact ⟨rfl, rfl, rfl, by simp [hj]⟩
theorem loop_fwd {f : Tr Value → List ADef → AH → Res} (hf : ∀ t d h s, f t d h = some s → Fwd h s.h) : ∀ (n : Nat) (t : Tr Value) (d : List ADef) (h : AH) (s : St), loopN f n t d h = some s → Fwd h s.h
  | 0, t, d, h, s, hx => by cases hx
  | n + 1, t, d, h, s, hx => by
    have hx : thenC (loopN f n) (f t d h) = some s := hx
    obtain ⟨s1, h1, h2 | h2⟩ := thenC_some hx
    · exact (hf _ _ _ _ h1).trans (loop_fwd hf n _ _ _ _ h2.2)
    · rw [h2.2]; exact hf _ _ _ _ h1
theorem acode_fwd (hCF : CFwd C) : ∀ (c : Code), okCode G N c = true → ∀ (n : Nat) (t : Tr Value) (d : List ADef) (h : AH) (s : St), acode c E C n t d h = some s → Fwd h s.h := by
  intro c
  induction c with
  | skip => intro _ n t d h s hx; have hx : some (St.mk .normal t d h) = some s := hx; cases hx; exact .refl _
  | label l => intro _ n t d h s hx; have hx : some (St.mk .normal t d h) = some s := hx; cases hx; exact .refl _
  | region id ops draw =>
    intro hok n t d h s hx
    cases draw with
    | false => exact (aops_fwd hCF (ops := ops.toList) ops.toList t d h hx).1
    | true => exact drawn_fwd (ops := ops) hx hok hCF
  | seq x y ihx ihy =>
    intro hok n t d h s hx
    have hok : (match okCode G N x with | true => okCode G N y | false => false) = true := hok
    cases hxo : okCode G N x with
    | false => simp [hxo] at hok
    | true =>
      simp only [hxo] at hok
      have hx : thenC (acode y E C n) (acode x E C n t d h) = some s := hx
      obtain ⟨s1, h1, h2 | h2⟩ := thenC_some hx
      · exact (ihx hxo _ _ _ _ _ h1).trans (ihy hok _ _ _ _ _ h2.2)
      · rw [h2.2]; exact ihx hxo _ _ _ _ _ h1
  | cond c x y ihx ihy =>
    intro hok n t d h s hx
    have hok : (match okOpd G c with | false => false | true => match okCode G N x with | true => okCode G N y | false => false) = true := hok
    cases hco : okOpd G c with
    | false => simp [hco] at hok
    | true =>
      simp only [hco] at hok
      cases hxo : okCode G N x with
      | false => simp [hxo] at hok
      | true =>
        simp only [hxo] at hok
        have hx : (match asBool (aeval t c) with | some q => condC (acode x E C n) (acode y E C n) t d (h.dec q) | none => none) = some s := hx
        cases hb : asBool (aeval t c) with
        | none => simp [hb] at hx
        | some q =>
          simp only [hb] at hx
          cases hdec : h.dec q with
          | mk v h2 =>
            rw [hdec] at hx
            cases v with
            | true => exact (Fwd.dec hdec).trans (ihx hxo _ _ _ _ _ hx)
            | false => exact (Fwd.dec hdec).trans (ihy hok _ _ _ _ _ hx)
  | block id x ih =>
    intro hok n t d h s hx
    have hx : outOf id (acode x E C n t d h) = some s := hx
    obtain ⟨s1, h1, _, _, h4, _⟩ := outOf_some hx
    rw [h4]; exact ih hok _ _ _ _ _ h1
  | loop x ih =>
    intro hok n t d h s hx
    exact loop_fwd (fun t d h s => ih hok n t d h s) n t d h s hx
  | exit id => intro _ n t d h s hx; have hx : some (St.mk (.exit id) t d h) = some s := hx; cases hx; exact .refl _
  | ret => intro _ n t d h s hx; have hx : some (St.mk .ret t d h) = some s := hx; cases hx; exact .refl _
  | rangeFunc => intro _ n t d h s hx; cases hx
  | scope => intro _ n t d h s hx; cases hx
  | goto => intro _ n t d h s hx; cases hx
  | refuse => intro _ n t d h s hx; cases hx
end
end Go.Proofs.YtkmbkejmfffafaaGreatDoor.Refl
/- The second reading against the model: code, calls. -/
namespace Go.Proofs.YtkmbkejmfffafaaGreatDoor.Refl
open Go
set_option linter.unusedVariables false
set_option linter.unusedSimpArgs false

section
variable {P : Program} {E : Env} {C : CallF} {G N : Nat}
/-- Where the walk stands within a loop, k rounds at most to come. -/
def LJ (P : Program) (G N : Nat) (f : Tr Value → List ADef → AH → Res) (s : St) (ρ0 : Ren) (h0 : AH) (w0 : World) (k : Nat) (a : Act) (w : World) : Prop :=
  ∃ t d h ρ, loopN f k t d h = some s ∧ GL G ρ ∧ Fr ρ h.n s.h.n ∧ TR N ρ t a.tmps ∧ DsR ρ d a.defers ∧ Step P.cellsOf ρ0 h0 w0 ρ h w
theorem exists_least {p : Nat → Prop} : ∀ n, p n → ∃ m, p m ∧ ∀ k, p k → m ≤ k := by
  intro n
  induction n using Nat.strongRecOn with
  | _ n ih =>
    intro hn
    by_cases h : ∃ k, k < n ∧ p k
    · obtain ⟨k, hk, hp⟩ := h
      exact ih k hk hp
    · exact ⟨n, hn, fun k hk => Nat.le_of_not_lt fun hlt => h ⟨k, hlt, hk⟩⟩
open Classical in
noncomputable def least (p : Nat → Prop) : Nat := if h : ∃ n, p n then Classical.choose (exists_least h.choose h.choose_spec) else 0
theorem least_both {p : Nat → Prop} (h : ∃ n, p n) : p (least p) ∧ ∀ k, p k → least p ≤ k := by
  unfold least; rw [dif_pos h]; exact Classical.choose_spec (exists_least h.choose h.choose_spec)
theorem least_spec {p : Nat → Prop} (h : ∃ n, p n) : p (least p) := (least_both h).1
theorem least_le {p : Nat → Prop} {n : Nat} (h : p n) : least p ≤ n := (least_both ⟨n, h⟩).2 n h
theorem acode_ok (hE : EnvM P E) (hC : CallOK P G C) (hCF : CFwd C) (hm : P.follows .mixedOrders = true) : ∀ (c : Code), okCode G N c = true → ∀ (n : Nat) (t : Tr Value) (d : List ADef) (h : AH) (s : St), acode c E C n t d h = some s → OB s.h →
    ∀ (ρ : Ren) (w : World) (a : Act), GL G ρ → Rel P.cellsOf ρ h w → Fr ρ h.n s.h.n → TR N ρ t a.tmps → DsR ρ d a.defers → c.wp P (CPost P N s ρ h w) a w := by
  intro c
  induction c with
  | skip =>
    intro _ n t d h s hx hob ρ w a hg hr hf ht hd
    have hx : some (St.mk .normal t d h) = some s := hx
    cases hx
    exact wp_skip ⟨rfl, ρ, ht, hd, .refl hr⟩
  | label l =>
    intro _ n t d h s hx hob ρ w a hg hr hf ht hd
    have hx : some (St.mk .normal t d h) = some s := hx
    cases hx
    exact wp_label ⟨rfl, ρ, ht, hd, .refl hr⟩
  | exit id =>
    intro _ n t d h s hx hob ρ w a hg hr hf ht hd
    have hx : some (St.mk (.exit id) t d h) = some s := hx
    cases hx
    exact wp_exit ⟨rfl, ρ, ht, hd, .refl hr⟩
  | ret =>
    intro _ n t d h s hx hob ρ w a hg hr hf ht hd
    have hx : some (St.mk .ret t d h) = some s := hx
    cases hx
    exact wp_ret ⟨rfl, ρ, ht, hd, .refl hr⟩
  | region id ops draw =>
    intro hok n t d h s hx hob ρ w a hg hr hf ht hd
    cases draw with
    | true => exact drawn_ok hE hC hCF hm (ops := ops) hx hok hob hg hr hf ht hd
    | false =>
      have hx : aops E C ops.toList ops.toList t d h = some s := hx
      have hok : okReg G N ops false = true := hok
      refine wp_region ?_
      have := aops_ok hE hC hCF (okReg_some hok).1 (Q := CPost P N s ρ h w) ops.toList 0 (by simp) t d h hx hob ρ w a hg hr hf ht hd fun a' w' hp => ⟨by rw [(aops_fwd hCF _ _ _ _ hx).2]; rfl, hp⟩
      rw [List.range_eq_range']
      simpa using this
  | seq x y ihx ihy =>
    intro hok n t d h s hx hob ρ w a hg hr hf ht hd
    have hok : (match okCode G N x with | true => okCode G N y | false => false) = true := hok
    cases hxo : okCode G N x with
    | false => simp [hxo] at hok
    | true =>
      simp only [hxo] at hok
      have hx : thenC (acode y E C n) (acode x E C n t d h) = some s := hx
      obtain ⟨s1, h1, h2⟩ := thenC_some hx
      refine wp_seq ?_
      rcases h2 with ⟨h2, h3⟩ | ⟨h2, rfl⟩
      · have hfy := acode_fwd hCF y hok _ _ _ _ _ h3
        refine wp_mono (ihx hxo n t d h s1 h1 (hfy.ob hob) ρ w a hg hr (hf.sub (Nat.le_refl _) hfy.n) ht hd) fun e a' w' hp => ?_
        obtain ⟨he, ρ', p1, p2, p3⟩ := hp
        rw [h2] at he
        subst he
        refine wp_mono (ihy hok n _ _ _ s h3 hob ρ' w' a' (hg.mono p3.ext) p3.rel (Fr.next hf p3) p1 p2) fun e a2 w2 hq => ?_
        exact ⟨hq.1, hq.2.of_step hf p3⟩
      · refine wp_mono (ihx hxo n t d h s h1 hob ρ w a hg hr hf ht hd) fun e a' w' hp => ?_
        obtain ⟨he, hp⟩ := hp
        obtain ⟨e1, t1, d1, hh1⟩ := s
        cases e1 with
        | normal => exact absurd rfl h2
        | exit id => subst he; exact ⟨rfl, hp⟩
        | ret => subst he; exact ⟨rfl, hp⟩
  | cond c x y ihx ihy =>
    intro hok n t d h s hx hob ρ w a hg hr hf ht hd
    have hok : (match okOpd G c with | false => false | true => match okCode G N x with | true => okCode G N y | false => false) = true := hok
    cases hco : okOpd G c with
    | false => simp [hco] at hok
    | true =>
      simp only [hco] at hok
      cases hxo : okCode G N x with
      | false => simp [hxo] at hok
      | true =>
        simp only [hxo] at hok
        have hx : (match asBool (aeval t c) with | some q => condC (acode x E C n) (acode y E C n) t d (h.dec q) | none => none) = some s := hx
        cases hb : asBool (aeval t c) with
        | none => simp [hb] at hx
        | some q =>
          simp only [hb] at hx
          obtain ⟨_, k2⟩ := asBool_VR hb (aeval_ok hg ht hco)
          cases hdec : h.dec q with
          | mk v h2 =>
            rw [hdec] at hx
            obtain ⟨g1, g2, g3, g4⟩ := dec_some hdec
            have hr2 : Rel P.cellsOf ρ h2 w := hr.congr g1 g2 rfl
            have hf2 : Fr ρ h2.n s.h.n := by rw [g2]; exact hf
            have hpre : Step P.cellsOf ρ h w ρ h2 w := .same hr g1 g2 g3 rfl (Str.refl _)
            cases v with
            | true =>
              obtain ⟨_, hq⟩ := g4 ((acode_fwd hCF x hxo _ _ _ _ _ hx).ob hob)
              subst hq
              exact wp_cond_true k2 (wp_mono (ihx hxo n t d h2 s hx hob ρ w a hg hr2 hf2 ht hd) fun e a' w' hp => ⟨hp.1, hp.2.of_step hf hpre⟩)
            | false =>
              obtain ⟨_, hq⟩ := g4 ((acode_fwd hCF y hok _ _ _ _ _ hx).ob hob)
              subst hq
              exact wp_cond_false k2 (wp_mono (ihy hok n t d h2 s hx hob ρ w a hg hr2 hf2 ht hd) fun e a' w' hp => ⟨hp.1, hp.2.of_step hf hpre⟩)
  | block id x ih =>
    intro hok n t d h s hx hob ρ w a hg hr hf ht hd
    have hx : outOf id (acode x E C n t d h) = some s := hx
    obtain ⟨s1, h1, h2, h3, h4, h5⟩ := outOf_some hx
    refine wp_block (wp_mono (ih hok n t d h s1 h1 (by rw [← h4]; exact hob) ρ w a hg hr (by rw [← h4]; exact hf) ht hd) fun e a' w' hp => ?_)
    obtain ⟨he, hp⟩ := hp
    have hp : Post P N s ρ h w a' w' := by
      obtain ⟨ρ', p1, p2, p3⟩ := hp
      exact ⟨ρ', by rw [h2]; exact p1, by rw [h3]; exact p2, by rw [h4]; exact p3⟩
    cases hs : s1.e with
    | normal => rw [hs] at he h5; subst he; exact ⟨congrArg exOf h5.symm, hp⟩
    | ret => rw [hs] at he h5; subst he; exact ⟨congrArg exOf h5.symm, hp⟩
    | exit j =>
      rw [hs] at he h5
      subst he
      show if j = id then _ else _
      by_cases hj : j = id
      · rw [if_pos hj]
        have h5 : s.e = if j = id then .normal else .exit j := h5
        rw [if_pos hj] at h5
        exact ⟨congrArg exOf h5.symm, hp⟩
      · rw [if_neg hj]
        have h5 : s.e = if j = id then .normal else .exit j := h5
        rw [if_neg hj] at h5
        exact ⟨congrArg exOf h5.symm, hp⟩
  | loop x ih =>
    intro hok n t d h s hx hob ρ w a hg hr hf ht hd
    have hx : loopN (acode x E C n) n t d h = some s := hx
    have hok : okCode G N x = true := hok
    refine wp_loop (fun a' w' => ∃ k, LJ P G N (acode x E C n) s ρ h w k a' w') (fun a' w' => least fun k => LJ P G N (acode x E C n) s ρ h w k a' w') ⟨n, t, d, h, ρ, hx, hg, hf, ht, hd, .refl hr⟩ fun a1 w1 hI => ?_
    have hJ := least_spec hI
    generalize hk : (least fun k => LJ P G N (acode x E C n) s ρ h w k a1 w1) = k at hJ
    obtain ⟨t1, d1, h1, ρ1, l1, l2, l3, l4, l5, l6⟩ := hJ
    cases k with
    | zero => cases l1
    | succ k =>
      have l1 : thenC (loopN (acode x E C n) k) (acode x E C n t1 d1 h1) = some s := l1
      obtain ⟨s1, m1, m2⟩ := thenC_some l1
      rcases m2 with ⟨m2, m3⟩ | ⟨m2, rfl⟩
      · have hfy := loop_fwd (fun t d h s => acode_fwd hCF x hok n t d h s) k _ _ _ _ m3
        refine wp_mono (ih hok n t1 d1 h1 s1 m1 (hfy.ob hob) ρ1 w1 a1 l2 l6.rel (l3.sub (Nat.le_refl _) hfy.n) l4 l5) fun e a' w' hp => ?_
        obtain ⟨he, ρ', p1, p2, p3⟩ := hp
        rw [m2] at he
        subst he
        have hnew : LJ P G N (acode x E C n) s ρ h w k a' w' := by
          refine ⟨s1.t, s1.d, s1.h, ρ', m3, l2.mono p3.ext, Fr.next l3 p3, p1, p2, Step.trans (hf.sub (Nat.le_refl _) ?_) l6 p3⟩
          exact hfy.n
        exact ⟨⟨k, hnew⟩, Nat.lt_succ_of_le (least_le hnew)⟩
      · refine wp_mono (ih hok n t1 d1 h1 s m1 hob ρ1 w1 a1 l2 l6.rel l3 l4 l5) fun e a' w' hp => ?_
        obtain ⟨he, hp⟩ := hp
        have hp := hp.of_step hf l6
        obtain ⟨e1, t2, d2, hh2⟩ := s
        cases e1 with
        | normal => exact absurd rfl m2
        | exit id => subst he; exact ⟨rfl, hp⟩
        | ret => subst he; exact ⟨rfl, hp⟩
  | rangeFunc => intro _ n t d h s hx; cases hx
  | scope => intro _ n t d h s hx; cases hx
  | goto => intro _ n t d h s hx; cases hx
  | refuse => intro _ n t d h s hx; cases hx
end
end Go.Proofs.YtkmbkejmfffafaaGreatDoor.Refl
/- The second reading against the model: calls. -/
namespace Go.Proofs.YtkmbkejmfffafaaGreatDoor.Refl
open Go
set_option linter.unusedVariables false
set_option linter.unusedSimpArgs false

/-- A function without a text of its own, as the second reading has it. -/
structure ExtOK (P : Program) (G : Nat) (f : Nat) (g : List Value → AH → AR) : Prop where
  fwd : ∀ args h r h1, g args h = some (r, h1) → Fwd h h1
  run : ∀ args h r h1, g args h = some (r, h1) → OB h1 → ∀ (ρ : Ren) (w : World) (args' : List Value), GL G ρ → Rel P.cellsOf ρ h w → Fr ρ h.n h1.n → LR ρ args args' →
    Ans P f args'.toArray w fun v w' => ∃ ρ', VR ρ' r v ∧ Step P.cellsOf ρ h w ρ' h1 w'
structure EnvF (P : Program) (E : Env) (G : Nat) : Prop extends EnvM P E where
  fn : ∀ f fn, E.fn.get f = some fn → P.funcs[f]? = some fn ∧ ∀ c, fn.body = some c → (fn.name == "runtime.NumGoroutine") = false ∧ okCode G fn.ntmps c = true
  ext : ∀ f g, E.ext.get f = some g → ExtOK P G f g
  mixed : P.follows .mixedOrders = true
theorem mem_below (n : Nat) : ∀ (l log : List Nat) (c : Nat), c ∈ below n l log ↔ (c ∈ l ∧ c < n) ∨ c ∈ log
  | [], log, c => by show c ∈ log ↔ _; simp
  | b :: l, log, c => by
    show c ∈ (match Nat.blt b n with | true => below n l (addLog b log) | false => below n l log) ↔ _
    rw [blt_eq]
    by_cases hb : b < n
    · simp only [hb, decide_true]
      rw [mem_below n l, mem_addLog, List.mem_cons]
      constructor
      · rintro (h | h | h)
        · exact .inl ⟨.inr h.1, h.2⟩
        · exact .inl ⟨.inl h, by omega⟩
        · exact .inr h
      · rintro (⟨h | h, h'⟩ | h)
        · exact .inr (.inl h)
        · exact .inl ⟨h, h'⟩
        · exact .inr (.inr h)
    · simp only [hb, decide_false]
      rw [mem_below n l, List.mem_cons]
      constructor
      · rintro (h | h)
        · exact .inl ⟨.inr h.1, h.2⟩
        · exact .inr h
      · rintro (⟨h | h, h'⟩ | h)
        · omega
        · exact .inl ⟨h, h'⟩
        · exact .inr h
theorem tmpsOf_get : ∀ (l : List Value) (i : Nat) (t : Tr Value) (x : Nat), (tmpsOf l i t).get x = if i ≤ x ∧ x < i + l.length then l[x - i]? else t.get x
  | [], i, t, x => by
    show t.get x = _
    rw [if_neg (by simp)]
  | v :: l, i, t, x => by
    show (tmpsOf l (i + 1) (t.set i v)).get x = _
    rw [tmpsOf_get l, Tr.get_set, List.length_cons]
    by_cases h1 : i + 1 ≤ x ∧ x < i + 1 + l.length
    · rw [if_pos h1, if_pos (by omega), show x - i = (x - (i + 1)) + 1 by omega, List.getElem?_cons_succ]
    · rw [if_neg h1]
      by_cases h2 : x = i
      · subst h2; rw [if_pos rfl, if_pos (by omega)]; simp
      · rw [if_neg h2, if_neg (by omega)]
section
variable {P : Program} {E : Env} {C : CallF} {G : Nat} {h h1 : AH} {ρ ρ' : Ren} {w w' : World} {r : Value}
theorem tmps_start {args args' : List Value} {n : Nat} (hl : LR ρ args args') (hn : args.length ≤ n) : TR n ρ (tmpsOf args 0 .nil) (args'.toArray ++ Array.replicate (n - args'.toArray.size) undef) := by
  have hlen := hl.length
  refine ⟨by simp; omega, fun i => ?_⟩
  rw [tmpsOf_get]
  by_cases hi : i < args.length
  · rw [if_pos (by omega), Nat.sub_zero]
    have hv := List.getElem?_eq_getElem hi
    obtain ⟨v', h1, h2⟩ := hl.get hv
    rw [hv, Array.getD_eq_getD_getElem?, Array.getElem?_append_left (by simp; omega)]
    simp only [List.getElem?_toArray, h1]
    exact h2
  · rw [if_neg (by omega), Tr.get_nil, Array.getD_eq_getD_getElem?, Array.getElem?_append_right (by simp; omega), Array.getElem?_replicate]
    have : (if i - args'.toArray.size < n - args'.toArray.size then some undef else none).getD undef = undef := by split <;> rfl
    rw [this]
    exact .tuple .nil
/-- A body's ledger, told to its caller. -/
noncomputable def told (h1 : AH) (n : Nat) (log : List Nat) : AH := ⟨h1.t, h1.n, below n h1.log log, h1.sym, h1.cnt, h1.orc, h1.ob⟩
noncomputable def fresh0 (h : AH) : AH := ⟨h.t, h.n, [], h.sym, h.cnt, h.orc, h.ob⟩
theorem fwd_told (hf : Fwd (fresh0 h) h1) : Fwd h (told h1 h.n h.log) where
  n := hf.n
  ob := fun q => hf.ob q
  keep := fun b hb hl => by
    have h2 : b ∉ h1.log := fun hm => hl ((mem_below _ _ _ _).2 (.inl ⟨hm, hb⟩))
    have h3 := hf.keep b hb h2
    rw [AH.obj_eq (h := h) (h' := fresh0 h) rfl rfl] at h3
    rw [AH.obj_eq (h := h1) (h' := told h1 h.n h.log) rfl rfl]; exact h3
  logm := fun b hb => (mem_below _ _ _ _).2 (.inr hb)
theorem step_told (st : Step P.cellsOf ρ (fresh0 h) w ρ' h1 w') : Step P.cellsOf ρ h w ρ' (told h1 h.n h.log) w' where
  ext := st.ext
  dom := st.dom
  rel := st.rel.congr rfl rfl rfl
  size := st.size
  n_le := st.n_le
  str := st.str
  frame := fun c hc => (st.frame c hc).imp id fun ⟨b, im, h2, h3, h4⟩ => ⟨b, im, (mem_below _ _ _ _).2 (.inl ⟨h2, h3⟩), h3, h4⟩
  fresh := fun b im h2 h3 => (st.fresh b im h2 h3).imp id fun ⟨b0, im0, h4, h5, h6⟩ => ⟨b0, im0, (mem_below _ _ _ _).2 (.inl ⟨h4, h5⟩), h5, h6⟩
  keep := fun b hb hl => by
    have h2 : b ∉ h1.log := fun hm => hl ((mem_below _ _ _ _).2 (.inl ⟨hm, hb⟩))
    have h3 := st.keep b hb h2
    rw [AH.obj_eq (h := h) (h' := fresh0 h) rfl rfl] at h3
    rw [AH.obj_eq (h := h1) (h' := told h1 h.n h.log) rfl rfl]; exact h3
  logm := fun b hb => (mem_below _ _ _ _).2 (.inr hb)
  wrote := fun b hb => by
    rcases (mem_below _ _ _ _).1 hb with ⟨h2, h3⟩ | h2
    · rcases st.wrote b h2 with h4 | h4 | ⟨h4, h5⟩
      · simp [fresh0] at h4
      · exact .inr (.inl h4)
      · exact .inr (.inr ⟨h4, by rw [AH.obj_eq (h := h) (h' := fresh0 h) rfl rfl] at h5; exact h5⟩)
    · exact .inl h2
/-- What a body comes to. -/
theorem abody_some {fn : Func} {c : Code} {args : List Value} (hx : abody E C fn c args h = some (r, h1)) :
    ∃ s hd, acode c E C FUEL (tmpsOf args 0 .nil) [] (fresh0 h) = some s ∧ (s.e = .normal ∨ s.e = .ret) ∧ adefers E C s.d s.h = some hd ∧ aresult E fn s.t hd = some r ∧ h1 = told hd h.n h.log := by
  obtain ⟨ht, n, log, sym, cnt, orc, ob⟩ := h
  have hx : aout E C fn n log (acode c E C FUEL (tmpsOf args 0 .nil) [] (fresh0 ⟨ht, n, log, sym, cnt, orc, ob⟩)) = some (r, h1) := hx
  cases ha : acode c E C FUEL (tmpsOf args 0 .nil) [] (fresh0 ⟨ht, n, log, sym, cnt, orc, ob⟩) with
  | none => rw [ha] at hx; simp [aout] at hx
  | some s =>
    rw [ha] at hx
    obtain ⟨e, t, d, hs⟩ := s
    have go : aend E C fn n log t (adefers E C d hs) = some (r, h1) → ∃ hd, adefers E C d hs = some hd ∧ aresult E fn t hd = some r ∧ h1 = told hd n log := by
      intro hx
      cases hd : adefers E C d hs with
      | none => rw [hd] at hx; simp [aend] at hx
      | some hd2 =>
        rw [hd] at hx
        simp only [aend] at hx
        cases hr : aresult E fn t hd2 with
        | none => rw [hr] at hx; simp at hx
        | some v =>
          rw [hr] at hx
          obtain ⟨a1, a2, a3, a4, a5, a6, a7⟩ := hd2
          simp at hx
          obtain ⟨rfl, rfl⟩ := hx
          exact ⟨_, rfl, hr, rfl⟩
    cases e with
    | exit id => simp [aout] at hx
    | normal =>
      obtain ⟨hd, k1, k2, k3⟩ := go hx
      exact ⟨_, hd, rfl, .inl rfl, k1, k2, k3⟩
    | ret =>
      obtain ⟨hd, k1, k2, k3⟩ := go hx
      exact ⟨_, hd, rfl, .inr rfl, k1, k2, k3⟩
theorem acall_succ {n f : Nat} {args : List Value} (hx : acall E (n + 1) f args h = some (r, h1)) :
    (∃ g, E.ext.get f = some g ∧ g args h = some (r, h1)) ∨ ∃ fn c, E.fn.get f = some fn ∧ fn.body = some c ∧ args.length ≤ fn.ntmps ∧ abody E (acall E n) fn c args h = some (r, h1) := by
  have hx : acall1 E (acall E n) f args h = some (r, h1) := hx
  unfold acall1 at hx
  cases he : E.ext.get f with
  | some g => rw [he] at hx; exact .inl ⟨g, rfl, hx⟩
  | none =>
    rw [he] at hx
    simp only at hx
    cases hf : E.fn.get f with
    | none => rw [hf] at hx; simp [acallO] at hx
    | some fn =>
      rw [hf] at hx
      simp only [acallO, acallF] at hx
      cases hb : fn.body with
      | none => simp [hb] at hx
      | some c =>
        simp only [hb, ble_eq, len_eq] at hx
        by_cases hl : args.length ≤ fn.ntmps
        · simp only [hl, decide_true] at hx
          exact .inr ⟨fn, c, rfl, hb, hl, hx⟩
        · simp [hl] at hx
theorem acall_fwd (hE : EnvF P E G) : ∀ n, CFwd (acall E n)
  | 0 => fun f args h r h1 hx => by cases hx
  | n + 1 => fun f args h r h1 hx => by
    have ih := acall_fwd hE n
    rcases acall_succ hx with ⟨g, h2, h3⟩ | ⟨fn, c, h2, h3, h4, h5⟩
    · exact (hE.ext f g h2).fwd _ _ _ _ h3
    · obtain ⟨s, hd, k1, k2, k3, k4, rfl⟩ := abody_some h5
      obtain ⟨_, g3⟩ := hE.fn f fn h2
      exact fwd_told ((acode_fwd ih c (g3 c h3).2 _ _ _ _ _ k1).trans (adefers_fwd ih _ _ k3))
/-- A body of the second reading is a call of the model, a deferred one, too. -/
theorem abody_ok (hE : EnvF P E G) {n f : Nat} {args : List Value} {fn : Func} {c : Code} (ih : CallOK P G (acall E n)) (ihD : DefOK P G E (acall E n)) (h2 : E.fn.get f = some fn) (h3 : fn.body = some c) (h4 : args.length ≤ fn.ntmps)
    (h5 : abody E (acall E n) fn c args h = some (r, h1)) (hob : OB h1) {ρ : Ren} {w : World} {args' : List Value} (hg : GL G ρ) (hr : Rel P.cellsOf ρ h w) (hf : Fr ρ h.n h1.n) (hl : LR ρ args args') :
    (Ans P f args'.toArray w fun v w' => ∃ ρ', VR ρ' r v ∧ Step P.cellsOf ρ h w ρ' h1 w') ∧ (AnsD P f args'.toArray w fun v w' => ∃ ρ', VR ρ' r v ∧ Step P.cellsOf ρ h w ρ' h1 w') := by
  have ihF := acall_fwd hE n
  obtain ⟨s, hd, k1, k2, k3, k4, rfl⟩ := abody_some h5
  obtain ⟨g1, g3⟩ := hE.fn f fn h2
  obtain ⟨g2, hok⟩ := g3 c h3
  have hobd : OB hd := hob
  have hfd := adefers_fwd ihF _ _ k3
  have hobs : OB s.h := hfd.ob hobd
  have hr0 : Rel P.cellsOf ρ (fresh0 h) w := hr.congr rfl rfl rfl
  have hf0 : Fr ρ (fresh0 h).n hd.n := hf
  have hfc := acode_fwd ihF c hok _ _ _ _ _ k1
  have hcall : (callFunc f args'.toArray).run P w = .ok (.enter f args'.toArray) w := by
    have hname : fn.name ≠ "runtime.NumGoroutine" := by simpa using g2
    simp [callFunc, g1, hname, h3]
  have hwp := acode_ok hE.toEnvM ih ihF hE.mixed c hok FUEL _ _ _ s k1 hobs ρ w { tmps := args'.toArray ++ Array.replicate (fn.ntmps - args'.toArray.size) undef, defers := [] } hg hr0
    (hf0.sub (Nat.le_refl _) hfd.n) (tmps_start hl h4) .nil
  have hB := body_ok (R := fun v w' => ∃ ρ', VR ρ' r v ∧ Step P.cellsOf ρ h w ρ' (told hd h.n h.log) w') g1 h3 hwp fun e a w1 hq => by
    obtain ⟨he, ρ1, p1, p2, p3⟩ := hq
    refine ⟨?_, fun fr cs hm hds => ?_⟩
    · rcases k2 with k2 | k2 <;> rw [k2] at he
      · exact .inl he
      · exact .inr he
    · obtain ⟨ρ2, w2, q1, q2⟩ := adefers_ok hE.toEnvM ihD ihF s.d a.defers s.h ρ1 w1 k3 hobd (hg.mono p3.ext) p3.rel (Fr.next hf0 p3) p2 fr cs hm hds
      obtain ⟨v, q3, q4⟩ := aresult_ok hE.toEnvT k4 q1.rel (p1.mono q1.ext)
      exact ⟨v, w2, q2, q3, ρ2, q4, step_told (Step.trans hf0 p3 q1)⟩
  unfold Ans AnsD
  rw [hcall]
  exact hB
theorem acall_both (hE : EnvF P E G) : ∀ n, CallOK P G (acall E n) ∧ DefOK P G E (acall E n)
  | 0 => ⟨fun f args h r h1 hx => (by cases hx), fun f args h r h1 _ hx => (by cases hx)⟩
  | n + 1 => by
    obtain ⟨ih, ihD⟩ := acall_both hE n
    refine ⟨fun f args h r h1 hx hob ρ w args' hg hr hf hl => ?_, fun f args h r h1 he hx hob ρ w args' hg hr hf hl => ?_⟩
    · rcases acall_succ hx with ⟨g, h2, h3⟩ | ⟨fn, c, h2, h3, h4, h5⟩
      · exact (hE.ext f g h2).run _ _ _ _ h3 hob ρ w args' hg hr hf hl
      · exact (abody_ok hE ih ihD h2 h3 h4 h5 hob hg hr hf hl).1
    · rcases acall_succ hx with ⟨g, h2, h3⟩ | ⟨fn, c, h2, h3, h4, h5⟩
      · rw [he] at h2; cases h2
      · exact (abody_ok hE ih ihD h2 h3 h4 h5 hob hg hr hf hl).2
/-- A call of the second reading is a call of the model. -/
theorem acall_ok (hE : EnvF P E G) (n : Nat) : CallOK P G (acall E n) := (acall_both hE n).1
end
end Go.Proofs.YtkmbkejmfffafaaGreatDoor.Refl
