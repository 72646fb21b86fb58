import Derived.Test.YtbpkfifiigpdcaaSk27
/-! Sk, part twenty-eight: the range over a function. -/
namespace Go.Proofs.Ytbpkfifiigpdcaa.Sk
open Go Go.RowKit
set_option linter.unusedVariables false
set_option linter.unusedSimpArgs false

/-- What each round of loop l does: the i-th one, handed enc i, turns D s into D s'; or it says 'no more', and leaves X t. -/
structure Rounds {σ τ : Type} (w0 : World) (P : Program) (l N : Nat) (enc : Nat → List Value) (φ : Nat → σ → Prop) (D : σ → Chunk) (ψ : τ → Prop) (X : τ → Chunk) : Prop where
  run : ∀ i s F w, i < N → φ i s → Sat w0 w (D s :: F) → YieldAt (wf none) 0 P l (enc i).toArray w fun e w' =>
    (e = .returned (.bool true) ∧ ∃ s', φ (i + 1) s' ∧ Sat w0 w' (D s' :: F)) ∨ (e = .returned (.bool false) ∧ ∃ t, ψ t ∧ Sat w0 w' (X t :: F))
/-- What is behind the iterator's call. -/
def Ranged {σ τ : Type} (w0 : World) (N : Nat) (φ : Nat → σ → Prop) (D : σ → Chunk) (ψ : τ → Prop) (X : τ → Chunk) (e : Ending) (w : World) : Prop :=
  (∃ v, e = .returned v) ∧ ((∃ s, φ N s ∧ Sat w0 w [D s]) ∨ (∃ t, ψ t ∧ Sat w0 w [X t]))
section
variable {a : Act} {n : Shape} {L : List (Nat × Value)}
theorem fr_fold0 {s : Nat} : ∀ (ps : List (Nat × Value)) (t : Array Value) (L : List (Nat × Value)), Fr { tmps := t, defers := [] } ⟨s, []⟩ L → (ps.all fun p => Nat.blt p.1 s) = true → Fr { tmps := ps.foldl (fun t p => t.setIfInBounds p.1 p.2) t, defers := [] } ⟨s, []⟩ (ps.reverse ++ L)
  | [], t, L, h, _ => h
  | p :: ps, t, L, h, hb => by
    simp only [List.all_cons, Bool.and_eq_true] at hb
    have h1 : Fr { tmps := t.setIfInBounds p.1 p.2, defers := [] } ⟨s, []⟩ (p :: L) := h.put (d := p.1) hb.1 p.2
    have := fr_fold0 ps _ _ h1 hb.2
    simpa using this
theorem fr_fold {ps : List Nat} {vs : List Value} (hF : Fr a n L) (hb : (ps.all fun p => Nat.blt p n.size) = true) : Fr { tmps := (ps.toArray.zip vs.toArray).foldl (fun t (p, v) => t.setIfInBounds p v) a.tmps, defers := [] } ⟨n.size, []⟩ ((ps.zip vs).reverse ++ L) := by
  have h0 : Fr { tmps := a.tmps, defers := [] } ⟨n.size, []⟩ L := ⟨hF.size, rfl, hF.get⟩
  have h1 := fr_fold0 (ps.zip vs) _ _ h0 (by
    rw [List.all_eq_true] at hb ⊢
    intro p hp
    exact hb p.1 (List.of_mem_zip hp).1)
  have e : (ps.toArray.zip vs.toArray).foldl (fun t (x : Nat × Value) => match x with | (p, v) => t.setIfInBounds p v) a.tmps = (ps.zip vs).foldl (fun t p => t.setIfInBounds p.1 p.2) a.tmps := by
    rw [← Array.foldl_toList]
    simp
  rw [e]
  exact h1
end
/-- How a round is left. -/
def rpost {σ τ : Type} (w0 : World) (l : Nat) (rec : Loop) (ds : List Nat) (i : Nat) (φ : Nat → σ → Prop) (U : σ → List Chunk) (ψ : τ → Prop) (ex : τ → Exit) (X : τ → List Chunk) (F : List Chunk) : Exit → Act → World → Prop
  | .normal, _, w => ∃ s, φ (i + 1) s ∧ Sat w0 w (.obj l (.loop { rec with state := .busy }) :: (ds.map dfC ++ (U s ++ F)))
  | e, _, w => ∃ t, ψ t ∧ ex t = e ∧ Sat w0 w (.obj l (.loop { rec with state := .busy }) :: (ds.map dfC ++ (X t ++ F)))
section
variable {P : Program} {g : Operand} {ps : List Nat} {assign body : Code} {gf : FuncId} {lb : List Value} {w w0 : World} {a : Act} {n : Shape} {L : List (Nat × Value)} {C : List Chunk} {Q : Exit → Act → World → Prop} {σ τ : Type}
theorem range_core {r : Option Nat} {ds : List Nat} (N : Nat) (enc : Nat → List Value) (φ : Nat → σ → Prop) (U : σ → List Chunk) (ψ : τ → Prop) (ex : τ → Exit) (X : τ → List Chunk)
    (henter : ∀ fn, ∃ (l dfr : Nat) (W1 : World), (Instr.enterLoop fn a.tmps ps.toArray assign body r).run P w = .ok (l, ds.map markD) W1 ∧ Sat w0 W1 (.obj l (.loop { state := .ready, pending := none, fn, tmps := a.tmps, params := ps.toArray, assign, body, defers := dfr }) :: (ds.map dfC ++ C)))
    (hF : Fr a n L) (hg : a.eval g = .func (.func gf) #[] lb.toArray) (hfn : FnB P gf) (hb : (ps.all fun p => Nat.blt p n.size) = true) (hsz : ∀ i, i < N → (enc i).length = ps.length) (hex : ∀ t, ψ t → ex t = .ret ∨ ∃ id, ex t = .exit id)
    (hit : ∀ (l : Nat) (rec : Loop) (D : σ → Chunk) (X' : τ → Chunk) (w : World), Sat w0 w (.obj l (.loop rec) :: (ds.map dfC ++ C)) → (D = fun s => star (.obj l (.loop rec) :: (ds.map dfC ++ U s))) → Rounds w0 P l N enc φ D ψ X' →
      Calls P gf (.func (.yield l) #[] #[] :: lb).toArray w (Ranged w0 N φ D ψ X'))
    (hround : ∀ (l : Nat) (rec : Loop) (F : List Chunk) (i : Nat) (s : σ) (a' : Act) (w : World), i < N → φ i s → Fr a' ⟨n.size, []⟩ ((ps.zip (enc i)).reverse ++ L) → Sat w0 w (.obj l (.loop rec) :: (ds.map dfC ++ (U s ++ F))) →
      ∀ K : Act → World → Prop, (∀ a1 w1 C1, Sat w0 w1 (.obj l (.loop rec) :: C1) → (∀ w2, Sat w0 w2 (.obj l (.loop { rec with state := .busy }) :: C1) → body.wpIn (wf (some l)) 0 P (rpost w0 l rec ds i φ U ψ ex X F) a1 w2) → K a1 w1) →
      assign.wpIn (wf (some l)) 0 P (Exit.then K (fun _ _ _ => False)) a' w)
    (hdone : ∀ a' w s, φ N s → Fr a' ⟨n.size, ds ++ n.marks⟩ L → Sat w0 w (ds.map dfC ++ U s) → Q .normal a' w)
    (hstop : ∀ a' w t, ψ t → Fr a' ⟨n.size, ds ++ n.marks⟩ L → Sat w0 w (ds.map dfC ++ X t) → Q (ex t) a' w) :
    (Code.rangeFunc g ps.toArray assign body).wpIn (wf r) 0 P Q a w := by
  refine wpIn_rangeFunc fun fn _ => ?_
  obtain ⟨l, dfr, W1, he, hS⟩ := henter fn
  obtain ⟨rec, hrec⟩ : ∃ rec : Loop, rec = { state := .ready, pending := none, fn, tmps := a.tmps, params := ps.toArray, assign, body, defers := dfr } := ⟨_, rfl⟩
  rw [← hrec] at hS
  obtain ⟨fnn, hf1, hf2, hf3⟩ := hfn
  refine ⟨l, ds.map markD, W1, { target := .fn (.func gf) lb.toArray, args := #[.func (.yield l) #[] #[]] }, W1, gf, #[.func (.yield l) #[] #[]] ++ lb.toArray, W1, he, ?_, fun _ _ => trivial, ?_, fun e => (by cases e), ?_⟩
  · simp only [resolve, hg]
    simp [go_sem]
  · have e : (program).run P W1 = .ok P W1 := rfl
    simp only [invoke, callFunc, Sem.run_bind, e, Sem.run_pure, Result.andThen_ok, hf1, hf2, hf3, Bool.false_eq_true, if_false]
  have ea : (#[.func (.yield l) #[] #[]] ++ lb.toArray : Array Value) = (.func (.yield l) #[] #[] :: lb).toArray := by apply Array.ext'; simp
  rw [ea]
  have hFd : Fr { a with defers := ds.map markD ++ a.defers } ⟨n.size, ds ++ n.marks⟩ L := ⟨hF.size, by show _ = List.map markD (ds ++ n.marks); rw [List.map_append, hF.defers], hF.get⟩
  have code : ∀ t, ψ t → ∃ c : Code, (c = .ret ∧ ex t = .ret) ∨ ∃ id, c = .exit id ∧ ex t = .exit id := fun t ht => by
    rcases hex t ht with h | ⟨id, h⟩
    · exact ⟨_, .inl ⟨rfl, h⟩⟩
    · exact ⟨_, .inr ⟨id, rfl, h⟩⟩
  refine calls_wf ((hit l rec (fun s => star (.obj l (.loop rec) :: (ds.map dfC ++ U s)))
    (fun t => exC fun c : Code => pureC ((c = .ret ∧ ex t = .ret) ∨ ∃ id, c = .exit id ∧ ex t = .exit id) (star (.obj l (.loop { rec with state := .done, pending := some c }) :: (ds.map dfC ++ X t)))) W1 hS rfl ⟨?_⟩).mono ?_)
  · -- one round
    intro i s F w1 hi hφ hS1
    rw [sat_star, List.cons_append, List.append_assoc] at hS1
    have hy := run_yield (P := P) (args := (enc i).toArray) hS1.obj (by rw [hrec]; simpa using hsz i hi)
    refine ⟨rec.fn, _, rec.assign, rec.body, hy, roundIn_of_wpIn (n := 0) trivial ?_⟩
    have e1 : rec.assign = assign := by rw [hrec]
    have e2 : rec.body = body := by rw [hrec]
    have e3 : rec.tmps = a.tmps := by rw [hrec]
    have e4 : rec.params = ps.toArray := by rw [hrec]
    have e5 : rec.state = .ready := by rw [hrec]
    rw [e1, e2, e3, e4]
    refine hround l rec F i s _ w1 hi hφ (fr_fold hF hb) hS1 _ ?_
    intro a1 w2 C1 hS2 hbody
    refine ⟨_, run_beginRound hS2.obj e5, wpIn_mono (hbody _ (Sat.putObj hS2)) ?_⟩
    intro e a3 w3 hp
    cases e with
    | normal =>
      obtain ⟨s', hs', hS3⟩ := hp
      refine ⟨_, _, run_endRound none hS3.obj, .inl ⟨rfl, s', hs', ?_⟩⟩
      have h4 := Sat.putObj (o' := .loop rec) hS3
      rw [sat_star, List.cons_append, List.append_assoc]
      have e6 : ({ { rec with state := LoopState.busy } with state := if (none : Option Code).isNone then .ready else .done, pending := none } : Loop) = rec := by rw [hrec]; rfl
      rw [e6]
      exact h4
    | ret =>
      obtain ⟨t, ht, hxt, hS3⟩ := hp
      refine ⟨_, _, run_endRound (some .ret) hS3.obj, .inr ⟨rfl, t, ht, sat_ex.2 ⟨.ret, sat_pure.2 ⟨.inl ⟨rfl, hxt⟩, ?_⟩⟩⟩⟩
      rw [sat_star, List.cons_append, List.append_assoc]
      have h4 := Sat.putObj (o' := .loop { rec with state := .done, pending := some .ret }) hS3
      simpa only [e1, e2, e3, e4, Option.isNone_some, Bool.false_eq_true, if_false] using h4
    | exit id =>
      obtain ⟨t, ht, hxt, hS3⟩ := hp
      refine ⟨_, _, run_endRound (some (.exit id)) hS3.obj, .inr ⟨rfl, t, ht, sat_ex.2 ⟨.exit id, sat_pure.2 ⟨.inr ⟨id, rfl, hxt⟩, ?_⟩⟩⟩⟩
      rw [sat_star, List.cons_append, List.append_assoc]
      have h4 := Sat.putObj (o' := .loop { rec with state := .done, pending := some (.exit id) }) hS3
      simpa only [e1, e2, e3, e4, Option.isNone_some, Bool.false_eq_true, if_false] using h4
    | goto q => obtain ⟨t, ht, hxt, _⟩ := hp; rcases hex t ht with h | ⟨id, h⟩ <;> rw [h] at hxt <;> cases hxt
    | panic ch => obtain ⟨t, ht, hxt, _⟩ := hp; rcases hex t ht with h | ⟨id, h⟩ <;> rw [h] at hxt <;> cases hxt
    | outgrown => obtain ⟨t, ht, hxt, _⟩ := hp; rcases hex t ht with h | ⟨id, h⟩ <;> rw [h] at hxt <;> cases hxt
  · -- behind the iterator
    rintro e w3 ⟨⟨v, rfl⟩, (⟨s, hs, h3⟩ | ⟨t, ht, h3⟩)⟩
    · rw [sat_star, List.append_nil] at h3
      exact ⟨rec.pending, _, run_endLoop h3.obj (by rw [hrec]; simp), by
        have e6 : rec.pending = none := by rw [hrec]
        rw [e6]
        exact hdone _ _ s hs hFd (Sat.putObj h3).tail⟩
    · obtain ⟨c, h3⟩ := sat_ex.1 h3
      obtain ⟨hc, h3⟩ := sat_pure.1 h3
      rw [sat_star, List.append_nil] at h3
      refine ⟨some c, _, run_endLoop h3.obj (by simp), ?_⟩
      have hq := hstop _ _ t ht hFd (Sat.putObj (o' := .loop { { rec with state := LoopState.done, pending := some c } with state := .exhausted }) h3).tail
      rcases hc with ⟨rfl, hc⟩ | ⟨id, rfl, hc⟩
      · rw [hc] at hq
        exact wpIn_ret hq
      · rw [hc] at hq
        exact wpIn_exit hq
/-- An outermost range. -/
theorem range_out (N : Nat) (enc : Nat → List Value) (φ : Nat → σ → Prop) (U : σ → List Chunk) (ψ : τ → Prop) (ex : τ → Exit) (X : τ → List Chunk)
    (hF : Fr a n L) (hS : Sat w0 w C) (hg : a.eval g = .func (.func gf) #[] lb.toArray) (hfn : FnB P gf) (hb : (ps.all fun p => Nat.blt p n.size) = true) (hsz : ∀ i, i < N → (enc i).length = ps.length) (hex : ∀ t, ψ t → ex t = .ret ∨ ∃ id, ex t = .exit id)
    (hit : ∀ (d l : Nat) (rec : Loop) (D : σ → Chunk) (X' : τ → Chunk) (w : World), Sat w0 w (.obj l (.loop rec) :: dfC d :: C) → (D = fun s => star (.obj l (.loop rec) :: dfC d :: U s)) → Rounds w0 P l N enc φ D ψ X' →
      Calls P gf (.func (.yield l) #[] #[] :: lb).toArray w (Ranged w0 N φ D ψ X'))
    (hround : ∀ (d l : Nat) (rec : Loop) (F : List Chunk) (i : Nat) (s : σ) (a' : Act) (w : World), i < N → φ i s → Fr a' ⟨n.size, []⟩ ((ps.zip (enc i)).reverse ++ L) → Sat w0 w (.obj l (.loop rec) :: dfC d :: (U s ++ F)) →
      ∀ K : Act → World → Prop, (∀ a1 w1 C1, Sat w0 w1 (.obj l (.loop rec) :: C1) → (∀ w2, Sat w0 w2 (.obj l (.loop { rec with state := .busy }) :: C1) → body.wpIn (wf (some l)) 0 P (rpost w0 l rec [d] i φ U ψ ex X F) a1 w2) → K a1 w1) →
      assign.wpIn (wf (some l)) 0 P (Exit.then K (fun _ _ _ => False)) a' w)
    (hdone : ∀ d a' w s, φ N s → Fr a' ⟨n.size, d :: n.marks⟩ L → Sat w0 w (dfC d :: U s) → Q .normal a' w)
    (hstop : ∀ d a' w t, ψ t → Fr a' ⟨n.size, d :: n.marks⟩ L → Sat w0 w (dfC d :: X t) → Q (ex t) a' w) :
    (Code.rangeFunc g ps.toArray assign body).wpIn (wf none) 0 P Q a w :=
  range_core (ds := [w.heap.size]) N enc φ U ψ ex X
    (fun fn => ⟨_, _, _, run_enterLoop_outer _ _ _ _ _, by
      have h := (hS.new (o := .deferred (some []))).new (o := .loop { state := .ready, pending := none, fn, tmps := a.tmps, params := ps.toArray, assign, body, defers := w.heap.size })
      rwa [World.size_alloc] at h⟩) hF hg hfn hb hsz hex (hit w.heap.size) (hround w.heap.size) (hdone w.heap.size) (hstop w.heap.size)
theorem run_enterLoop_in {l : Nat} {r : Loop} (h : w.heap[l]? = some (.loop r)) (fn : FuncId) (tmps : Array Value) (ps : Array Tmp) (assign body : Code) :
    (Instr.enterLoop fn tmps ps assign body (some l)).run P w = .ok (w.heap.size, []) (w.alloc (.loop { state := .ready, pending := none, fn, tmps, params := ps, assign, body, defers := r.defers })) := by
  unfold Instr.enterLoop
  simp only [Sem.run_bind, run_getLoop h, run_newObj_alloc, Result.andThen, Sem.run_pure]
/-- A range in a round of loop l0. -/
theorem range_in {l0 : Nat} {r0 : Loop} (j : Nat) (N : Nat) (enc : Nat → List Value) (φ : Nat → σ → Prop) (U : σ → List Chunk) (ψ : τ → Prop) (ex : τ → Exit) (X : τ → List Chunk)
    (hF : Fr a n L) (hS : Sat w0 w C) (hj : nth C j = some (.obj l0 (.loop r0))) (hg : a.eval g = .func (.func gf) #[] lb.toArray) (hfn : FnB P gf) (hb : (ps.all fun p => Nat.blt p n.size) = true) (hsz : ∀ i, i < N → (enc i).length = ps.length) (hex : ∀ t, ψ t → ex t = .ret ∨ ∃ id, ex t = .exit id)
    (hit : ∀ (l : Nat) (rec : Loop) (D : σ → Chunk) (X' : τ → Chunk) (w : World), Sat w0 w (.obj l (.loop rec) :: C) → (D = fun s => star (.obj l (.loop rec) :: U s)) → Rounds w0 P l N enc φ D ψ X' →
      Calls P gf (.func (.yield l) #[] #[] :: lb).toArray w (Ranged w0 N φ D ψ X'))
    (hround : ∀ (l : Nat) (rec : Loop) (F : List Chunk) (i : Nat) (s : σ) (a' : Act) (w : World), i < N → φ i s → Fr a' ⟨n.size, []⟩ ((ps.zip (enc i)).reverse ++ L) → Sat w0 w (.obj l (.loop rec) :: (U s ++ F)) →
      ∀ K : Act → World → Prop, (∀ a1 w1 C1, Sat w0 w1 (.obj l (.loop rec) :: C1) → (∀ w2, Sat w0 w2 (.obj l (.loop { rec with state := .busy }) :: C1) → body.wpIn (wf (some l)) 0 P (rpost w0 l rec [] i φ U ψ ex X F) a1 w2) → K a1 w1) →
      assign.wpIn (wf (some l)) 0 P (Exit.then K (fun _ _ _ => False)) a' w)
    (hdone : ∀ a' w s, φ N s → Fr a' n L → Sat w0 w (U s) → Q .normal a' w)
    (hstop : ∀ a' w t, ψ t → Fr a' n L → Sat w0 w (X t) → Q (ex t) a' w) :
    (Code.rangeFunc g ps.toArray assign body).wpIn (wf (some l0)) 0 P Q a w :=
  range_core (ds := []) N enc φ U ψ ex X
    (fun fn => ⟨_, _, _, run_enterLoop_in (hS.obj_at hj) _ _ _ _ _, hS.new⟩) hF hg hfn hb hsz hex hit hround hdone hstop
end
end Go.Proofs.Ytbpkfifiigpdcaa.Sk
