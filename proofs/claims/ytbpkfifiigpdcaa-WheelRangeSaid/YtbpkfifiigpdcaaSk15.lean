import Derived.Test.YtbpkfifiigpdcaaSk14
import Derived.Laws.StructEq
import Derived.ChangeKeysEq
/-! Sk, part fifteen: keys that are structs of numbers and texts. -/
namespace Go.Proofs.Ytbpkfifiigpdcaa.Sk
open Go Go.RowKit
set_option linter.unusedVariables false
set_option linter.unusedSimpArgs false

/-- A value of one scalar: a number (of kind k) or a text. -/
inductive Sc where
  | num (k : IntKind) (n : Int)
  | txt (s : ByteArray)
  deriving DecidableEq
def Sc.val : Sc → Value | .num k n => .int k n | .txt s => .string s
/-- The same shape: numbers of one kind, texts. -/
def Sc.like : Sc → Sc → Bool | .num k _, .num k' _ => k == k' | .txt _, .txt _ => true | _, _ => false
def fit1 (P : Program) (t : TypeId) (s : Sc) : Bool := match P.underlying t, s with | some (.int k), .num k' _ => k == k' | some .string, .txt _ => true | _, _ => false
/-- The fields fit the shape, from offset o on. -/
def fitB (P : Program) : List Field → List Sc → Nat → Bool
  | [], [], _ => true
  | f :: fs, s :: ss, o => (f.name != "_") && (f.offset == o) && fit1 P f.type s && fitB P fs ss (o + 1)
  | _, _, _ => false
def likeAll : List Sc → List Sc → Bool
  | [], [] => true
  | a :: as, b :: bs => a.like b && likeAll as bs
  | _, _ => false
section
variable {P : Program} {w : World}
theorem part_plain {f : Field} {s : Sc} {xs : Array Value} {o : Nat} (hf : fit1 P f.type s = true) (hx : xs[o]? = some s.val) : (part f.type xs o).run P w = .ok s.val w := by
  unfold fit1 at hf
  cases hu : P.underlying f.type with
  | none => rw [hu] at hf; cases s <;> simp at hf
  | some d =>
    rw [hu] at hf
    cases s <;> cases d <;> simp at hf <;> simp [part, isAgg, run_underlying hu, hx]
theorem eq_fields (d : Nat) : ∀ (fs : List Field) (as bs : List Sc) (xs ys : Array Value) (o : Nat), fitB P fs as o = true → likeAll as bs = true →
    (∀ i s, as[i]? = some s → xs[o + i]? = some s.val) → (∀ i s, bs[i]? = some s → ys[o + i]? = some s.val) → (Op.eqFields (d + 1) xs ys fs).run P w = .ok (decide (as = bs)) w
  | [], [], [], xs, ys, o, _, _, _, _ => by simp [Op.eqFields]
  | [], [], _ :: _, _, _, _, _, h, _, _ => by simp [likeAll] at h
  | [], _ :: _, _, _, _, _, h, _, _, _ => by simp [fitB] at h
  | _ :: _, [], _, _, _, _, h, _, _, _ => by simp [fitB] at h
  | _ :: _, _ :: _, [], _, _, _, _, h, _, _ => by simp [likeAll] at h
  | f :: fs, a :: as, b :: bs, xs, ys, o, hfit, hlike, hx, hy => by
    simp only [fitB, Bool.and_eq_true, bne_iff_ne, ne_eq, beq_iff_eq] at hfit
    obtain ⟨⟨⟨hn, ho⟩, hk⟩, hrest⟩ := hfit
    simp only [likeAll, Bool.and_eq_true] at hlike
    have ha := hx 0 a rfl
    have hb := hy 0 b rfl
    rw [Nat.add_zero] at ha hb
    have pa := part_plain (w := w) hk ha
    have hk' : fit1 P f.type b = true := by
      unfold fit1 at hk ⊢
      cases hu : P.underlying f.type with
      | none => rw [hu] at hk; cases a <;> simp at hk
      | some dd =>
        rw [hu] at hk
        have hl := hlike.1
        cases a <;> cases b <;> cases dd <;> simp [Sc.like] at hk hl ⊢
        rw [hk]; exact hl
    have pb := part_plain (w := w) hk' hb
    have ih := eq_fields d fs as bs xs ys (o + 1) hrest hlike.2 (fun i s h => by have := hx (i + 1) s h; rwa [show o + (i + 1) = o + 1 + i by omega] at this) (fun i s h => by have := hy (i + 1) s h; rwa [show o + (i + 1) = o + 1 + i by omega] at this)
    have heq : (Op.equalIn (d + 1) f.type a.val b.val).run P w = .ok (decide (a = b)) w := by
      unfold fit1 at hk
      cases hu : P.underlying f.type with
      | none => rw [hu] at hk; cases a <;> simp at hk
      | some dd =>
        rw [hu] at hk
        have hl := hlike.1
        cases a <;> cases b <;> cases dd <;> simp [Sc.like] at hk hl
        · subst hl
          rw [Sc.val, Sc.val, run_equalIn_int _ _ _ _ _ _ _ hu]
          congr 1
          rw [Bool.eq_iff_iff]
          simp
        · rw [Sc.val, Sc.val, run_equalIn_string _ _ _ _ _ hu, ← beq_toListBytes]
          rw [ba_beq]
          simp
    have hn' : f.name ≠ "_" := hn
    rw [Op.eqFields]
    simp only [if_pos hn', Sem.run_bind, ho, pa, pb, heq, Result.andThen_ok]
    by_cases hab : a = b
    · subst hab
      simpa using ih
    · simp [hab]
theorem check_fields (e : Bool) (d : Nat) (xs : Array Value) : ∀ (fs : List Field) (as : List Sc) (o : Nat), fitB P fs as o = true → (∀ i s, as[i]? = some s → xs[o + i]? = some s.val) →
    (forIn fs PUnit.unit fun f _ => (if f.name ≠ "_" then (part f.type xs f.offset >>= fun v => Instr.checkKey e (d + 1) f.type v >>= fun _ => pure (ForInStep.yield PUnit.unit)) else pure (ForInStep.yield PUnit.unit) : Sem (ForInStep PUnit))).run P w = .ok PUnit.unit w
  | [], as, o, _, _ => by simp
  | f :: fs, [], o, h, _ => by simp [fitB] at h
  | f :: fs, a :: as, o, hfit, hx => by
    simp only [fitB, Bool.and_eq_true, bne_iff_ne, ne_eq, beq_iff_eq] at hfit
    obtain ⟨⟨⟨hn, ho⟩, hk⟩, hrest⟩ := hfit
    have ha := hx 0 a rfl
    rw [Nat.add_zero] at ha
    have pa := part_plain (w := w) hk ha
    have ih := check_fields e d xs fs as (o + 1) hrest (fun i s h => by have := hx (i + 1) s h; rwa [show o + (i + 1) = o + 1 + i by omega] at this)
    have hc : (Instr.checkKey e (d + 1) f.type a.val).run P w = .ok () w := by
      unfold fit1 at hk
      rw [Instr.checkKey]
      cases hu : P.underlying f.type with
      | none => rw [hu] at hk; cases a <;> simp at hk
      | some dd =>
        rw [hu] at hk
        simp only [Sem.run_bind, run_underlying hu, Result.andThen_ok]
        cases a <;> cases dd <;> simp [Sc.val] at hk ⊢
    simp only [List.forIn_cons, Sem.run_bind, hn, ne_eq, not_false_eq_true, if_true, ho, pa, hc, Result.andThen_ok, Sem.run_pure]
    exact ih
theorem struct_keys {K : Type} [DecidableEq K] {kt : TypeId} {fs : Array Field} (sc : K → List Sc) (hu : P.underlying kt = some (.struct fs)) (hp : P.stoodInHeld kt = false) (hfit : ∀ x, fitB P fs.toList (sc x) 0 = true) (hlike : ∀ x y, likeAll (sc x) (sc y) = true)
    (hinj : ∀ x y, sc x = sc y → x = y) : Keys P kt (fun x => .agg ((sc x).map Sc.val).toArray) where
  check e x w := by
    rw [show (10000 : Nat) = 9999 + 1 from rfl, Instr.checkKey]
    simp only [Sem.run_bind, run_underlying hu, Result.andThen_ok]
    rw [← Array.forIn_toList]
    have := check_fields (w := w) e 9998 ((sc x).map Sc.val).toArray fs.toList (sc x) 0 (hfit x) (fun i s h => by simp [h])
    rw [this]
    rfl
  find x es ks w h := by
    have heq : ∀ y, (Op.equal kt (.agg ((sc x).map Sc.val).toArray) (.agg ((sc y).map Sc.val).toArray)).run P w = .ok (decide (x = y)) w := fun y => by
      have hf : P.fieldsOf kt = fs := by simp [Program.fieldsOf, hu]
      have h1 := eq_fields (P := P) (w := w) 9998 fs.toList (sc x) (sc y) ((sc x).map Sc.val).toArray ((sc y).map Sc.val).toArray 0 (hfit x) (hlike x y) (fun i s h => by simp [h]) (fun i s h => by simp [h])
      unfold Op.equal Op.maxDepth
      rw [show (10000 : Nat) = 9999 + 1 from rfl, run_equalIn_struct (P := P) w 9999 kt _ _ (by rw [hf]; exact hu) hp, hf, h1]
      congr 1
      by_cases hxy : x = y
      · subst hxy; simp
      · rw [decide_eq_false hxy, decide_eq_false (fun e => hxy (hinj x y e))]
    have ask : ∀ (es : List MapEntry) (ks : List K) (i : Nat), es.map (·.key) = ks.map (fun x => Value.agg ((sc x).map Sc.val).toArray) →
        (Instr.findAsking kt (.agg ((sc x).map Sc.val).toArray) es i).run P w = .ok ((mIdx (ks.map fun k => (k, ())) x i).bind fun j => (es[j - i]?).map fun e => (j, e.val)) w := by
      intro es
      induction es with
      | nil => intro ks i h; cases ks <;> simp at h; simp [Instr.findAsking, mIdx]
      | cons e r ih =>
        intro ks i h
        cases ks with
        | nil => simp at h
        | cons y ys =>
          simp only [List.map_cons, List.cons.injEq] at h
          simp only [Instr.findAsking, Sem.run_bind, h.1, heq, Result.andThen_ok, List.map_cons, mIdx]
          by_cases hxy : x = y
          · subst hxy; simp
          · have : ¬ y = x := fun e => hxy e.symm
            simp only [hxy, decide_false, Bool.false_eq_true, if_false, this, ih ys (i + 1) h.2]
            congr 1
            cases hi : mIdx (ys.map fun k => (k, ())) x (i + 1) with
            | none => rfl
            | some j =>
              obtain ⟨hle, _⟩ := mIdx_some hi
              simp only [Option.bind_some]
              rw [show j - i = (j - (i + 1)) + 1 by omega]
              rfl
    unfold Instr.findKey
    simp only [Sem.run_bind, run_underlying hu, Result.andThen_ok]
    cases es with
    | nil => cases ks <;> simp at h; simp [Instr.findNow, mIdx]
    | cons e r =>
      have hn : Instr.findNow (.struct fs) (.agg ((sc x).map Sc.val).toArray) (e :: r) 0 = none := by simp [Instr.findNow, Instr.sameNow]
      rw [hn]
      have := ask (e :: r) ks 0 h
      simpa using this
  bits x := by
    rw [show (10000 : Nat) = 9999 + 1 from rfl]
    simp only [Instr.sameBits, BEq.rfl, Bool.true_and]
    rw [List.all_eq_true]
    intro p hp
    have : p.1 = p.2 ∧ ∃ s, p.1 = Sc.val s := by
      have h1 := List.of_mem_zip hp
      have : ∀ (l : List Value) (p : Value × Value), p ∈ l.zip l → p.1 = p.2 := by
        intro l
        induction l with
        | nil => intro p h; simp at h
        | cons a r ih =>
          intro p h
          simp only [List.zip_cons_cons, List.mem_cons] at h
          rcases h with rfl | h
          · rfl
          · exact ih p h
      refine ⟨this _ p hp, ?_⟩
      have := h1.1
      simp at this
      obtain ⟨s, _, e⟩ := this
      exact ⟨s, e.symm⟩
    obtain ⟨e1, s, e2⟩ := this
    rw [← e1, e2]
    cases s <;> simp [Sc.val, Instr.sameBits, ba_beq]
end
end Go.Proofs.Ytbpkfifiigpdcaa.Sk
