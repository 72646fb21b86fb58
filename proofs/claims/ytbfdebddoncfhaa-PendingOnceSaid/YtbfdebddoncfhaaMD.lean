import Derived.Test.YtbfdebddoncfhaaMC
import Derived.Lib.QuietBelow
import Derived.Shelf.GgSortFunc.RowK
/-! Sk, part twenty-eight: the range over a function. -/
namespace Go.Proofs.Ytbfdebddoncfhaa.Sk
open Go Go.RowKit
set_option linter.unusedVariables false
set_option linter.unusedSimpArgs false

/-- What each round of loop l does: the i-th one, handed enc i, turns D s into D s'; or it says 'no more', and leaves X t. -/
structure Rounds {σ τ : Type} (w0 : World) (P : Program) (l N : Nat) (enc : Nat → List Value) (φ : Nat → σ → Prop) (D : σ → Chunk) (ψ : τ → Prop) (X : τ → Chunk) : Prop where
  run : ∀ i s F w, i < N → φ i s → Sat w0 w (D s :: F) → YieldAt (wf none) 0 P l (enc i).toArray w fun e w' =>
    (e = .returned (.bool true) ∧ ∃ s', φ (i + 1) s' ∧ Sat w0 w' (D s' :: F)) ∨ (e = .returned (.bool false) ∧ ∃ t, ψ t ∧ Sat w0 w' (X t :: F))
/-- What is behind the iterator's call. -/
def Ranged {σ τ : Type} (w0 : World) (N : Nat) (φ : Nat → σ → Prop) (D : σ → Chunk) (ψ : τ → Prop) (X : τ → Chunk) (e : Ending) (w : World) : Prop :=
  (∃ v, e = .returned v) ∧ ((∃ s, φ N s ∧ Sat w0 w [D s]) ∨ (∃ t, ψ t ∧ Sat w0 w [X t]))
section
variable {a : Act} {n : Shape} {L : List (Nat × Value)}
theorem fr_fold0 {s : Nat} : ∀ (ps : List (Nat × Value)) (t : Array Value) (L : List (Nat × Value)), Fr { tmps := t, defers := [] } ⟨s, []⟩ L → (ps.all fun p => Nat.blt p.1 s) = true → Fr { tmps := ps.foldl (fun t p => t.setIfInBounds p.1 p.2) t, defers := [] } ⟨s, []⟩ (ps.reverse ++ L)
  | [], t, L, h, _ => h
  | p :: ps, t, L, h, hb => by
    simp only [List.all_cons, Bool.and_eq_true] at hb
    have h1 : Fr { tmps := t.setIfInBounds p.1 p.2, defers := [] } ⟨s, []⟩ (p :: L) := h.put (d := p.1) hb.1 p.2
    have := fr_fold0 ps _ _ h1 hb.2
    simpa using this
theorem fr_fold {ps : List Nat} {vs : List Value} (hF : Fr a n L) (hb : (ps.all fun p => Nat.blt p n.size) = true) : Fr { tmps := (ps.toArray.zip vs.toArray).foldl (fun t (p, v) => t.setIfInBounds p v) a.tmps, defers := [] } ⟨n.size, []⟩ ((ps.zip vs).reverse ++ L) := by
  have h0 : Fr { tmps := a.tmps, defers := [] } ⟨n.size, []⟩ L := ⟨hF.size, rfl, hF.get⟩
  have h1 := fr_fold0 (ps.zip vs) _ _ h0 (by
    rw [List.all_eq_true] at hb ⊢
    intro p hp
    exact hb p.1 (List.of_mem_zip hp).1)
  have e : (ps.toArray.zip vs.toArray).foldl (fun t (x : Nat × Value) => match x with | (p, v) => t.setIfInBounds p v) a.tmps = (ps.zip vs).foldl (fun t p => t.setIfInBounds p.1 p.2) a.tmps := by
    rw [← Array.foldl_toList]
    simp
  rw [e]
  exact h1
end
/-- How a round is left. -/
def rpost {σ τ : Type} (w0 : World) (l : Nat) (rec : Loop) (ds : List Nat) (i : Nat) (φ : Nat → σ → Prop) (U : σ → List Chunk) (ψ : τ → Prop) (ex : τ → Exit) (X : τ → List Chunk) (F : List Chunk) : Exit → Act → World → Prop
  | .normal, _, w => ∃ s, φ (i + 1) s ∧ Sat w0 w (.obj l (.loop { rec with state := .busy }) :: (ds.map dfC ++ (U s ++ F)))
  | e, _, w => ∃ t, ψ t ∧ ex t = e ∧ Sat w0 w (.obj l (.loop { rec with state := .busy }) :: (ds.map dfC ++ (X t ++ F)))
section
variable {P : Program} {g : Operand} {ps : List Nat} {assign body : Code} {gf : FuncId} {lb : List Value} {w w0 : World} {a : Act} {n : Shape} {L : List (Nat × Value)} {C : List Chunk} {Q : Exit → Act → World → Prop} {σ τ : Type}
theorem range_core {r : Option Nat} {ds : List Nat} (N : Nat) (enc : Nat → List Value) (φ : Nat → σ → Prop) (U : σ → List Chunk) (ψ : τ → Prop) (ex : τ → Exit) (X : τ → List Chunk)
    (henter : ∀ fn, ∃ (l dfr : Nat) (W1 : World), (Instr.enterLoop fn a.tmps ps.toArray assign body r).run P w = .ok (l, ds.map markD) W1 ∧ Sat w0 W1 (.obj l (.loop { state := .ready, pending := none, fn, tmps := a.tmps, params := ps.toArray, assign, body, defers := dfr }) :: (ds.map dfC ++ C)))
    (hF : Fr a n L) (hg : a.eval g = .func (.func gf) #[] lb.toArray) (hfn : FnB P gf) (hb : (ps.all fun p => Nat.blt p n.size) = true) (hsz : ∀ i, i < N → (enc i).length = ps.length) (hex : ∀ t, ψ t → ex t = .ret ∨ ∃ id, ex t = .exit id)
    (hit : ∀ (l : Nat) (rec : Loop) (D : σ → Chunk) (X' : τ → Chunk) (w : World), Sat w0 w (.obj l (.loop rec) :: (ds.map dfC ++ C)) → (D = fun s => star (.obj l (.loop rec) :: (ds.map dfC ++ U s))) → Rounds w0 P l N enc φ D ψ X' →
      Calls P gf (.func (.yield l) #[] #[] :: lb).toArray w (Ranged w0 N φ D ψ X'))
    (hround : ∀ (l : Nat) (rec : Loop) (F : List Chunk) (i : Nat) (s : σ) (a' : Act) (w : World), i < N → φ i s → Fr a' ⟨n.size, []⟩ ((ps.zip (enc i)).reverse ++ L) → Sat w0 w (.obj l (.loop rec) :: (ds.map dfC ++ (U s ++ F))) →
      ∀ K : Act → World → Prop, (∀ a1 w1 C1, Sat w0 w1 (.obj l (.loop rec) :: C1) → (∀ w2, Sat w0 w2 (.obj l (.loop { rec with state := .busy }) :: C1) → body.wpIn (wf (some l)) 0 P (rpost w0 l rec ds i φ U ψ ex X F) a1 w2) → K a1 w1) →
      assign.wpIn (wf (some l)) 0 P (Exit.then K (fun _ _ _ => False)) a' w)
    (hdone : ∀ a' w s, φ N s → Fr a' ⟨n.size, ds ++ n.marks⟩ L → Sat w0 w (ds.map dfC ++ U s) → Q .normal a' w)
    (hstop : ∀ a' w t, ψ t → Fr a' ⟨n.size, ds ++ n.marks⟩ L → Sat w0 w (ds.map dfC ++ X t) → Q (ex t) a' w) :
    (Code.rangeFunc g ps.toArray assign body).wpIn (wf r) 0 P Q a w := by
  refine wpIn_rangeFunc fun fn _ => ?_
  obtain ⟨l, dfr, W1, he, hS⟩ := henter fn
  obtain ⟨rec, hrec⟩ : ∃ rec : Loop, rec = { state := .ready, pending := none, fn, tmps := a.tmps, params := ps.toArray, assign, body, defers := dfr } := ⟨_, rfl⟩
  rw [← hrec] at hS
  obtain ⟨fnn, hf1, hf2, hf3⟩ := hfn
  refine ⟨l, ds.map markD, W1, { target := .fn (.func gf) lb.toArray, args := #[.func (.yield l) #[] #[]] }, W1, gf, #[.func (.yield l) #[] #[]] ++ lb.toArray, W1, he, ?_, fun _ _ => trivial, ?_, fun e => (by cases e), ?_⟩
  · simp only [resolve, hg]
    simp [go_sem]
  · have e : (program).run P W1 = .ok P W1 := rfl
    simp only [invoke, callFunc, Sem.run_bind, e, Sem.run_pure, Result.andThen_ok, hf1, hf2, hf3, Bool.false_eq_true, if_false]
  have ea : (#[.func (.yield l) #[] #[]] ++ lb.toArray : Array Value) = (.func (.yield l) #[] #[] :: lb).toArray := by apply Array.ext'; simp
  rw [ea]
  have hFd : Fr { a with defers := ds.map markD ++ a.defers } ⟨n.size, ds ++ n.marks⟩ L := ⟨hF.size, by show _ = List.map markD (ds ++ n.marks); rw [List.map_append, hF.defers], hF.get⟩
  have code : ∀ t, ψ t → ∃ c : Code, (c = .ret ∧ ex t = .ret) ∨ ∃ id, c = .exit id ∧ ex t = .exit id := fun t ht => by
    rcases hex t ht with h | ⟨id, h⟩
    · exact ⟨_, .inl ⟨rfl, h⟩⟩
    · exact ⟨_, .inr ⟨id, rfl, h⟩⟩
  refine calls_wf ((hit l rec (fun s => star (.obj l (.loop rec) :: (ds.map dfC ++ U s)))
    (fun t => exC fun c : Code => pureC ((c = .ret ∧ ex t = .ret) ∨ ∃ id, c = .exit id ∧ ex t = .exit id) (star (.obj l (.loop { rec with state := .done, pending := some c }) :: (ds.map dfC ++ X t)))) W1 hS rfl ⟨?_⟩).mono ?_)
  · -- one round
    intro i s F w1 hi hφ hS1
    rw [sat_star, List.cons_append, List.append_assoc] at hS1
    have hy := run_yield (P := P) (args := (enc i).toArray) hS1.obj (by rw [hrec]; simpa using hsz i hi)
    refine ⟨rec.fn, _, rec.assign, rec.body, hy, roundIn_of_wpIn (n := 0) trivial ?_⟩
    have e1 : rec.assign = assign := by rw [hrec]
    have e2 : rec.body = body := by rw [hrec]
    have e3 : rec.tmps = a.tmps := by rw [hrec]
    have e4 : rec.params = ps.toArray := by rw [hrec]
    have e5 : rec.state = .ready := by rw [hrec]
    rw [e1, e2, e3, e4]
    refine hround l rec F i s _ w1 hi hφ (fr_fold hF hb) hS1 _ ?_
    intro a1 w2 C1 hS2 hbody
    refine ⟨_, run_beginRound hS2.obj e5, wpIn_mono (hbody _ (Sat.putObj hS2)) ?_⟩
    intro e a3 w3 hp
    cases e with
    | normal =>
      obtain ⟨s', hs', hS3⟩ := hp
      refine ⟨_, _, run_endRound none hS3.obj, .inl ⟨rfl, s', hs', ?_⟩⟩
      have h4 := Sat.putObj (o' := .loop rec) hS3
      rw [sat_star, List.cons_append, List.append_assoc]
      have e6 : ({ { rec with state := LoopState.busy } with state := if (none : Option Code).isNone then .ready else .done, pending := none } : Loop) = rec := by rw [hrec]; rfl
      rw [e6]
      exact h4
    | ret =>
      obtain ⟨t, ht, hxt, hS3⟩ := hp
      refine ⟨_, _, run_endRound (some .ret) hS3.obj, .inr ⟨rfl, t, ht, sat_ex.2 ⟨.ret, sat_pure.2 ⟨.inl ⟨rfl, hxt⟩, ?_⟩⟩⟩⟩
      rw [sat_star, List.cons_append, List.append_assoc]
      have h4 := Sat.putObj (o' := .loop { rec with state := .done, pending := some .ret }) hS3
      simpa only [e1, e2, e3, e4, Option.isNone_some, Bool.false_eq_true, if_false] using h4
    | exit id =>
      obtain ⟨t, ht, hxt, hS3⟩ := hp
      refine ⟨_, _, run_endRound (some (.exit id)) hS3.obj, .inr ⟨rfl, t, ht, sat_ex.2 ⟨.exit id, sat_pure.2 ⟨.inr ⟨id, rfl, hxt⟩, ?_⟩⟩⟩⟩
      rw [sat_star, List.cons_append, List.append_assoc]
      have h4 := Sat.putObj (o' := .loop { rec with state := .done, pending := some (.exit id) }) hS3
      simpa only [e1, e2, e3, e4, Option.isNone_some, Bool.false_eq_true, if_false] using h4
    | goto q => obtain ⟨t, ht, hxt, _⟩ := hp; rcases hex t ht with h | ⟨id, h⟩ <;> rw [h] at hxt <;> cases hxt
    | panic ch => obtain ⟨t, ht, hxt, _⟩ := hp; rcases hex t ht with h | ⟨id, h⟩ <;> rw [h] at hxt <;> cases hxt
    | outgrown => obtain ⟨t, ht, hxt, _⟩ := hp; rcases hex t ht with h | ⟨id, h⟩ <;> rw [h] at hxt <;> cases hxt
  · -- behind the iterator
    rintro e w3 ⟨⟨v, rfl⟩, (⟨s, hs, h3⟩ | ⟨t, ht, h3⟩)⟩
    · rw [sat_star, List.append_nil] at h3
      exact ⟨rec.pending, _, run_endLoop h3.obj (by rw [hrec]; simp), by
        have e6 : rec.pending = none := by rw [hrec]
        rw [e6]
        exact hdone _ _ s hs hFd (Sat.putObj h3).tail⟩
    · obtain ⟨c, h3⟩ := sat_ex.1 h3
      obtain ⟨hc, h3⟩ := sat_pure.1 h3
      rw [sat_star, List.append_nil] at h3
      refine ⟨some c, _, run_endLoop h3.obj (by simp), ?_⟩
      have hq := hstop _ _ t ht hFd (Sat.putObj (o' := .loop { { rec with state := LoopState.done, pending := some c } with state := .exhausted }) h3).tail
      rcases hc with ⟨rfl, hc⟩ | ⟨id, rfl, hc⟩
      · rw [hc] at hq
        exact wpIn_ret hq
      · rw [hc] at hq
        exact wpIn_exit hq
/-- An outermost range. -/
theorem range_out (N : Nat) (enc : Nat → List Value) (φ : Nat → σ → Prop) (U : σ → List Chunk) (ψ : τ → Prop) (ex : τ → Exit) (X : τ → List Chunk)
    (hF : Fr a n L) (hS : Sat w0 w C) (hg : a.eval g = .func (.func gf) #[] lb.toArray) (hfn : FnB P gf) (hb : (ps.all fun p => Nat.blt p n.size) = true) (hsz : ∀ i, i < N → (enc i).length = ps.length) (hex : ∀ t, ψ t → ex t = .ret ∨ ∃ id, ex t = .exit id)
    (hit : ∀ (d l : Nat) (rec : Loop) (D : σ → Chunk) (X' : τ → Chunk) (w : World), Sat w0 w (.obj l (.loop rec) :: dfC d :: C) → (D = fun s => star (.obj l (.loop rec) :: dfC d :: U s)) → Rounds w0 P l N enc φ D ψ X' →
      Calls P gf (.func (.yield l) #[] #[] :: lb).toArray w (Ranged w0 N φ D ψ X'))
    (hround : ∀ (d l : Nat) (rec : Loop) (F : List Chunk) (i : Nat) (s : σ) (a' : Act) (w : World), i < N → φ i s → Fr a' ⟨n.size, []⟩ ((ps.zip (enc i)).reverse ++ L) → Sat w0 w (.obj l (.loop rec) :: dfC d :: (U s ++ F)) →
      ∀ K : Act → World → Prop, (∀ a1 w1 C1, Sat w0 w1 (.obj l (.loop rec) :: C1) → (∀ w2, Sat w0 w2 (.obj l (.loop { rec with state := .busy }) :: C1) → body.wpIn (wf (some l)) 0 P (rpost w0 l rec [d] i φ U ψ ex X F) a1 w2) → K a1 w1) →
      assign.wpIn (wf (some l)) 0 P (Exit.then K (fun _ _ _ => False)) a' w)
    (hdone : ∀ d a' w s, φ N s → Fr a' ⟨n.size, d :: n.marks⟩ L → Sat w0 w (dfC d :: U s) → Q .normal a' w)
    (hstop : ∀ d a' w t, ψ t → Fr a' ⟨n.size, d :: n.marks⟩ L → Sat w0 w (dfC d :: X t) → Q (ex t) a' w) :
    (Code.rangeFunc g ps.toArray assign body).wpIn (wf none) 0 P Q a w :=
  range_core (ds := [w.heap.size]) N enc φ U ψ ex X
    (fun fn => ⟨_, _, _, run_enterLoop_outer _ _ _ _ _, by
      have h := (hS.new (o := .deferred (some []))).new (o := .loop { state := .ready, pending := none, fn, tmps := a.tmps, params := ps.toArray, assign, body, defers := w.heap.size })
      rwa [World.size_alloc] at h⟩) hF hg hfn hb hsz hex (hit w.heap.size) (hround w.heap.size) (hdone w.heap.size) (hstop w.heap.size)
theorem run_enterLoop_in {l : Nat} {r : Loop} (h : w.heap[l]? = some (.loop r)) (fn : FuncId) (tmps : Array Value) (ps : Array Tmp) (assign body : Code) :
    (Instr.enterLoop fn tmps ps assign body (some l)).run P w = .ok (w.heap.size, []) (w.alloc (.loop { state := .ready, pending := none, fn, tmps, params := ps, assign, body, defers := r.defers })) := by
  unfold Instr.enterLoop
  simp only [Sem.run_bind, run_getLoop h, run_newObj_alloc, Result.andThen, Sem.run_pure]
/-- A range in a round of loop l0. -/
theorem range_in {l0 : Nat} {r0 : Loop} (j : Nat) (N : Nat) (enc : Nat → List Value) (φ : Nat → σ → Prop) (U : σ → List Chunk) (ψ : τ → Prop) (ex : τ → Exit) (X : τ → List Chunk)
    (hF : Fr a n L) (hS : Sat w0 w C) (hj : nth C j = some (.obj l0 (.loop r0))) (hg : a.eval g = .func (.func gf) #[] lb.toArray) (hfn : FnB P gf) (hb : (ps.all fun p => Nat.blt p n.size) = true) (hsz : ∀ i, i < N → (enc i).length = ps.length) (hex : ∀ t, ψ t → ex t = .ret ∨ ∃ id, ex t = .exit id)
    (hit : ∀ (l : Nat) (rec : Loop) (D : σ → Chunk) (X' : τ → Chunk) (w : World), Sat w0 w (.obj l (.loop rec) :: C) → (D = fun s => star (.obj l (.loop rec) :: U s)) → Rounds w0 P l N enc φ D ψ X' →
      Calls P gf (.func (.yield l) #[] #[] :: lb).toArray w (Ranged w0 N φ D ψ X'))
    (hround : ∀ (l : Nat) (rec : Loop) (F : List Chunk) (i : Nat) (s : σ) (a' : Act) (w : World), i < N → φ i s → Fr a' ⟨n.size, []⟩ ((ps.zip (enc i)).reverse ++ L) → Sat w0 w (.obj l (.loop rec) :: (U s ++ F)) →
      ∀ K : Act → World → Prop, (∀ a1 w1 C1, Sat w0 w1 (.obj l (.loop rec) :: C1) → (∀ w2, Sat w0 w2 (.obj l (.loop { rec with state := .busy }) :: C1) → body.wpIn (wf (some l)) 0 P (rpost w0 l rec [] i φ U ψ ex X F) a1 w2) → K a1 w1) →
      assign.wpIn (wf (some l)) 0 P (Exit.then K (fun _ _ _ => False)) a' w)
    (hdone : ∀ a' w s, φ N s → Fr a' n L → Sat w0 w (U s) → Q .normal a' w)
    (hstop : ∀ a' w t, ψ t → Fr a' n L → Sat w0 w (X t) → Q (ex t) a' w) :
    (Code.rangeFunc g ps.toArray assign body).wpIn (wf (some l0)) 0 P Q a w :=
  range_core (ds := []) N enc φ U ψ ex X
    (fun fn => ⟨_, _, _, run_enterLoop_in (hS.obj_at hj) _ _ _ _ _, hS.new⟩) hF hg hfn hb hsz hex hit hround hdone hstop
end
end Go.Proofs.Ytbfdebddoncfhaa.Sk
/-! Sk, part twenty-nine: rows in the sort's worlds. -/
namespace Go.Proofs.Ytbfdebddoncfhaa.Sk
open Go Go.RowKit Go.Sort
set_option linter.unusedVariables false
set_option linter.unusedSimpArgs false
section
variable {w0 w W : World} {C : List Chunk} {blk : Nat} {E k : Nat}
theorem Sat.grown (h : Sat W w [whole W]) : ∃ q os, w = grow (W.drewN q) os := by
  obtain ⟨⟨d, os⟩, hp⟩ := regrown_of_below h.below
  have hd := h.output.2
  subst hp
  have hd' : W.drawn ≤ d := hd
  refine ⟨d - W.drawn, os, ?_⟩
  unfold redrawn World.drewN grow
  simp only
  congr 1
  omega
theorem Sat.grow (h : Sat w0 w C) (os : Array Obj) : Sat w0 (Go.Sort.grow w os) C := by
  obtain ⟨f, hf, hs⟩ := h.own
  refine ⟨h.os, h.tape, h.output, Nat.le_trans h.size (by simp), f, hf, fun i o hi => ?_⟩
  have := hs i o hi
  have hlt := (Array.getElem?_eq_some_iff.1 this).1
  rw [heap_grow_old _ _ hlt]
  exact this
theorem Sat.ahead (h : Sat w0 w C) (n : Nat) : Sat w0 (Go.Sort.ahead w n) C := h.same rfl rfl rfl rfl (by simp)
theorem Sat.mapBlock {cur : Array Value} {fz : Nat × Nat} (h : Sat w0 w (.obj blk (.cells cur E fz) :: C)) (f : Array Value → Array Value) : Sat w0 (Go.Sort.mapBlock w blk f) (.obj blk (.cells (f cur) E fz) :: C) := by
  refine h.set rfl rfl rfl (by simp [Go.Sort.mapBlock]) ?_ ?_
  · simp only [Go.Sort.mapBlock, Array.getElem?_modify, if_true, h.obj, Option.map_some, onCells]
  · intro i hi
    simp only [Go.Sort.mapBlock, Array.getElem?_modify, if_neg (Ne.symm hi)]
variable {α : Type} [Inhabited α] {enc : α → List Value} {d d' : Array α} {c n : Nat}
theorem flat_list (hk : ∀ x, (enc x).length = k) : ∀ l : List α, (List.range (l.length * k)).map (fun t => (enc l.toArray[t / k]!)[t % k]!) = l.flatMap enc
  | [] => by simp
  | a :: l => by
    have ih := flat_list hk l
    rw [List.length_cons, Nat.add_mul, Nat.one_mul, Nat.add_comm, List.range_add, List.map_append, List.flatMap_cons]
    congr 1
    · apply List.ext_getElem
      · simp [hk]
      · intro i h1 h2
        have hi : i < k := by simpa using h1
        rw [List.getElem_map, List.getElem_range, Nat.div_eq_of_lt hi, Nat.mod_eq_of_lt hi]
        simp [h2]
    · rw [List.map_map, ← ih]
      apply List.map_congr_left
      intro t ht
      have ht' : t < l.length * k := by simpa using ht
      have hk0 : 0 < k := by
        rcases Nat.eq_zero_or_pos k with h | h
        · subst h; simp at ht'
        · exact h
      simp only [Function.comp]
      rw [Nat.add_div_left _ hk0, Nat.add_mod_left]
      simp
theorem flatK_list (hk : ∀ x, (enc x).length = k) : (flatK enc k d).toList = d.toList.flatMap enc := by
  rw [← flat_list hk]
  unfold flatK
  simp [Array.toList_range]
theorem row_holds (hk : ∀ x, (enc x).length = k) (h : Sat w0 w (rowC E k (.slice (some ⟨blk, 0, none⟩) d.size c) d.size (d.toList.flatMap enc) :: C)) : HoldsK enc k w blk 0 d ∧ blk < w.heap.size := by
  rcases (row_open h).2 with ⟨e, _⟩ | ⟨g, cap, cur, e, h1, h2, h3, h4, hC⟩
  · cases e
  · injection e with e1 e2 e3
    injection e1 with e1
    injection e1 with e1
    subst e1
    refine ⟨fun j hj => ⟨?_, ?_⟩, (Array.getElem?_eq_some_iff.1 hC.obj).1⟩
    · have hj' : j < d.size * k := by simpa using hj
      have h5 : cur[j]? = some ((flatK enc k d)[j]!) := by
        have h6 : (cur.toList.take (d.size * k))[j]? = (flatK enc k d).toList[j]? := by rw [h4, flatK_list hk]
        rw [List.getElem?_take, if_pos hj'] at h6
        have h7 : (flatK enc k d).toList[j]? = some ((flatK enc k d)[j]!) := by
          rw [Array.getElem?_toList, Array.getElem?_eq_getElem hj, getElem!_pos _ j hj]
        rw [h7] at h6
        simpa using h6
      rw [Nat.zero_add]
      exact hC.cell (i := 0) rfl h5
    · exact sat_frozen (i := 0) hC rfl
theorem row_sorted (hk : ∀ x, (enc x).length = k) (h : Sat w0 w (rowC E k (.slice (some ⟨blk, 0, none⟩) d.size c) d.size (d.toList.flatMap enc) :: C)) (hd : d'.size = d.size) (m : Nat) (os : Array Obj) :
    Sat w0 (grow (putRowK enc k (Go.Sort.ahead w m) blk 0 d') os) (rowC E k (.slice (some ⟨blk, 0, none⟩) d.size c) d.size (d'.toList.flatMap enc) :: C) := by
  refine Sat.grow ?_ os
  rcases (row_open h).2 with ⟨e, _⟩ | ⟨g, cap, cur, e, h1, h2, h3, h4, hC⟩
  · cases e
  · injection e with e1 e2 e3
    injection e1 with e1
    injection e1 with e1
    subst e1
    subst e3
    have hS := Sat.mapBlock (hC.ahead m) (putCells id 0 (flatK enc k d'))
    refine row_shut hS h1 h2 (by simp [putCells, h3]) ?_
    rw [← flatK_list hk]
    apply List.ext_getElem?
    intro j
    rw [List.getElem?_take]
    split
    · rename_i hj
      have hj2 : j < c * k := Nat.lt_of_lt_of_le hj (Nat.mul_le_mul_right _ h1)
      have hjc : j < cur.size := by rw [h3]; exact hj2
      have hjf : j < (flatK enc k d').size := by simpa [hd] using hj
      simp [putCells, hjc, hjf, hd, hj]
    · rename_i hj
      rw [List.getElem?_eq_none]
      simpa [hd] using hj
end
end Go.Proofs.Ytbfdebddoncfhaa.Sk
/-! Sk, part thirty: append of a part of another row. -/
namespace Go.Proofs.Ytbfdebddoncfhaa.Sk
open Go Go.RowKit
set_option linter.unusedVariables false
set_option linter.unusedSimpArgs false
section
variable {w0 w : World} {C : List Chunk} {E sz : Nat} {v : Value} {n m c : Nat} {xs ys news : List Value} {A B : Option Addr}
/-- What these places hold: nothing at all, or these cells. -/
def Win (w : World) (B : Option Addr) (m : Nat) (news : List Value) : Prop := m = 0 ∨ ∃ A, B = some A ∧ ∀ q u, news[q]? = some u → w.cell? (A.add q) = some u
theorem win_row {jj : Nat} (hS : Sat w0 w C) (hj : nth C jj = some (rowC E sz (.slice A n c) n ys)) : Win w A n ys := by
  rcases Nat.eq_zero_or_pos n with h | h
  · exact .inl h
  · obtain ⟨g, c', e, _, hc⟩ := row_cell (hS.front jj hj) h
    injection e with e1 e2 e3
    subst e1
    exact .inr ⟨_, rfl, fun q u hu => by rw [addr_add, Nat.zero_add]; exact hc q u hu⟩
theorem win_pre {jj : Nat} (hS : Sat w0 w C) (hj : nth C jj = some (rowC E sz (.slice A n c) n ys)) (hm : m ≤ n) : Win w A m (ys.take (m * sz)) := by
  rcases Nat.eq_zero_or_pos m with h | h
  · exact .inl h
  · rcases win_row hS hj with h0 | ⟨A', e, hc⟩
    · omega
    · refine .inr ⟨A', e, fun q u hu => hc q u ?_⟩
      rw [List.getElem?_take] at hu
      split at hu
      · exact hu
      · cases hu
theorem win_post {jj o : Nat} (hS : Sat w0 w C) (hj : nth C jj = some (rowC E sz (.slice A n c) n ys)) (hc : n ≤ c) : Win w (if c = o then A else A.map (·.add (o * sz))) (n - o) (ys.drop (o * sz)) := by
  rcases Nat.eq_zero_or_pos (n - o) with h | h
  · exact .inl h
  · rw [if_neg (by omega)]
    obtain ⟨g, c', e, _, hcc⟩ := row_cell (hS.front jj hj) (by omega)
    injection e with e1 e2 e3
    subst e1
    refine .inr ⟨_, rfl, fun q u hu => ?_⟩
    rw [List.getElem?_drop] at hu
    show w.cell? (((⟨g, 0, none⟩ : Addr).add (o * sz)).add q) = some u
    rw [addr_add, addr_add, Nat.zero_add]
    exact hcc _ _ hu
theorem run_appendW {P : Program} {t ty by_ : Nat} (ht : sliceB P t E sz = true) (he : elemB P E sz by_ = true) (h : Sat w0 w (rowC E sz v n xs :: C)) (hl : news.length = m * sz) (hB : Win w B m news) (h1 : ∀ u ∈ news, u.oneCell' = true) (h63 : n + m ≤ maxLen) (hby : (n + m) * by_ ≤ 140737488355328) :
    ∃ A' q w', (Builtin.append_ #[t, t] ty #[v, .slice B m c]).run P w = .ok (.slice A' (n + m) q) w' ∧ Sat w0 w' (rowC E sz (.slice A' (n + m) q) (n + m) (xs ++ news) :: C) := by
  rcases Nat.eq_zero_or_pos m with h0 | h0
  · subst h0
    have hn : news = [] := List.eq_nil_of_length_eq_zero (by simpa using hl)
    subst hn
    obtain ⟨A', q, rfl, _⟩ := row_val h
    exact ⟨A', q, w, run_append_none ht h, by simpa using h⟩
  · rcases hB with hB | ⟨A, rfl, hc⟩
    · omega
    · obtain ⟨v', w', hr, hS⟩ := run_append_row (ty := ty) (c := c) ht he h hl hc h1 h63 hby
      obtain ⟨A', q, rfl, _⟩ := row_val hS
      exact ⟨A', q, w', hr, hS⟩
end
section
variable {P : Program} {ops : Array Oper} {Q : Exit → Act → World → Prop} {rest : List Oper} {a : Act} {w0 w : World} {n : Shape} {d : Nat} {L : List (Nat × Value)} {C : List Chunk} {S : World → Prop} {ds : List Nat} {ord : List (Nat × How)} {p j : Nat} {v : Value}
theorem s_appendV {E sz t by_ nn m c : Nat} {B : Option Addr} (i : Nat) {x y : Operand} {ty : TypeId} {pos : String} {af : Array Edge} {gd : Option (Nat × Bool)} {xs news : List Value} (hF : Fr a n L)
    (hg : wantedB ops L ⟨some d, .call { callee := .builtin .append, args := #[x, y], argTypes := #[t, t] }, ty, pos, af, gd⟩ = some true) (hn : Nat.blt d n.size = true) (ht : sliceB P t E sz = true) (he : elemB P E sz by_ = true) (hx : a.eval x = v)
    (hy : a.eval y = .slice B m c) (hS : Sat w0 w C) (hi : nth C i = some (rowC E sz v nn xs)) (hl : news.length = m * sz) (hB : Win w B m news) (h1 : ∀ u ∈ news, u.oneCell' = true) (h63 : nn + m ≤ maxLen) (hby : (nn + m) * by_ ≤ 140737488355328)
    (k : ∀ A q w', Sat w0 w' (rowC E sz (.slice A (nn + m) q) (nn + m) (xs ++ news) :: del C i) → ∀ a', Fr a' n ((d, .slice A (nn + m) q) :: L) → wpList P ops Q rest a' w') :
    wpList P ops Q (⟨some d, .call { callee := .builtin .append, args := #[x, y], argTypes := #[t, t] }, ty, pos, af, gd⟩ :: rest) a w := by
  obtain ⟨A', q, w', hr, hS'⟩ := run_appendW (ty := ty) (c := c) ht he (hS.front i hi) hl hB h1 h63 hby
  refine s_ev hF hg rfl hn ?_ (k _ _ _ hS')
  simp only [execOp, resolve, invoke, builtin, Sem.run_bind, Sem.run_pure, Result.andThen_ok, List.map_toArray, List.map_cons, List.map_nil, hx, hy, hr]
theorem d_appendV {E sz t by_ nn m c : Nat} {B : Option Addr} (i : Nat) {x y : Operand} {ty : TypeId} {pos : String} {af : Array Edge} {gd : Option (Nat × Bool)} {xs news : List Value} (hD : Drawn P ops Q S ds ord) (hF : Fr a n L) (hp : ord[p]? = some (j, .on))
    (ho : ops[j]? = some ⟨some d, .call { callee := .builtin .append, args := #[x, y], argTypes := #[t, t] }, ty, pos, af, gd⟩)
    (hg : wantedB ops L ⟨some d, .call { callee := .builtin .append, args := #[x, y], argTypes := #[t, t] }, ty, pos, af, gd⟩ = some true) (hn : Nat.blt d n.size = true) (ht : sliceB P t E sz = true) (he : elemB P E sz by_ = true) (hx : a.eval x = v)
    (hy : a.eval y = .slice B m c) (hS : Sat w0 w C) (hi : nth C i = some (rowC E sz v nn xs)) (hl : news.length = m * sz) (hB : Win w B m news) (h1 : ∀ u ∈ news, u.oneCell' = true) (h63 : nn + m ≤ maxLen) (hby : (nn + m) * by_ ≤ 140737488355328)
    (hc : ∀ v' w', Sat w0 w' (rowC E sz v' (nn + m) (xs ++ news) :: del C i) → S w')
    (k : ∀ A q w', Sat w0 w' (rowC E sz (.slice A (nn + m) q) (nn + m) (xs ++ news) :: del C i) → ∀ a', Fr a' n ((d, .slice A (nn + m) q) :: L) → wpD P ops Q S ds ord (p + 1) a' w') : wpD P ops Q S ds ord p a w := by
  obtain ⟨A', q, w', hr, hS'⟩ := run_appendW (ty := ty) (c := c) ht he (hS.front i hi) hl hB h1 h63 hby
  refine d_ev hD hF hp ho hg rfl hn ?_ (hc _ _ hS') (k _ _ _ hS')
  simp only [execOp, resolve, invoke, builtin, Sem.run_bind, Sem.run_pure, Result.andThen_ok, List.map_toArray, List.map_cons, List.map_nil, hx, hy, hr]
end
end Go.Proofs.Ytbfdebddoncfhaa.Sk
/-! Sk, part thirty-one: books of lists: rows of one's own, and lists full of marks. -/
namespace Go.Proofs.Ytbfdebddoncfhaa.Sk
open Go Go.RowKit
set_option linter.unusedVariables false
set_option linter.unusedSimpArgs false

theorem perm_out {α : Type} : ∀ {l : List α} {i : Nat} {x : α}, l[i]? = some x → l.Perm (x :: l.eraseIdx i)
  | [], i, x, h => by simp at h
  | y :: r, 0, x, h => by simp at h; subst h; exact List.Perm.refl _
  | y :: r, i + 1, x, h => ((perm_out (l := r) (i := i) (by simpa using h)).cons y).trans (List.Perm.swap _ _ _)
theorem perm_in {α : Type} : ∀ {l : List α} {i : Nat} {x : α}, i < l.length → (x :: l.eraseIdx i).Perm (l.set i x)
  | [], i, x, h => by simp at h
  | y :: r, 0, x, h => List.Perm.refl _
  | y :: r, i + 1, x, h => (List.Perm.swap _ _ _).trans ((perm_in (l := r) (i := i) (by simpa using h)).cons y)
/-- A list that came out: its value, how many elements, their cells. -/
structure Lst where
  v : Value
  n : Nat
  xs : List Value
def lRow (E sz : Nat) (p : Lst) : Chunk := rowC E sz p.v p.n p.xs
def LR (E sz : Nat) (fs : List Lst) : Chunk := star (fs.map (lRow E sz))
section
variable {w0 w : World} {C : List Chunk} {fs gs : List Lst} {p : Lst} {E sz : Nat}
theorem lr_perm (hp : fs.Perm gs) (h : Sat w0 w (LR E sz fs :: C)) : Sat w0 w (LR E sz gs :: C) :=
  sat_star.2 ((sat_star.1 h).perm ((hp.map (lRow E sz)).append_right C))
theorem lr_cons : Sat w0 w (LR E sz (p :: fs) :: C) ↔ Sat w0 w (lRow E sz p :: LR E sz fs :: C) := by
  unfold LR
  rw [sat_star]
  constructor
  · intro h
    have h2 : Sat w0 w (List.map (lRow E sz) fs ++ (lRow E sz p :: C)) := h.perm (by
      simp only [List.map_cons, List.cons_append]
      exact (List.perm_middle).symm)
    exact (sat_star.2 h2).perm (List.Perm.swap _ _ _)
  · intro h
    have h2 := sat_star.1 (h.perm (List.Perm.swap _ _ _))
    exact h2.perm (by
      simp only [List.map_cons, List.cons_append]
      exact List.perm_middle)
theorem lr_out {i : Nat} (h : Sat w0 w (LR E sz fs :: C)) (hi : fs[i]? = some p) : Sat w0 w (lRow E sz p :: LR E sz (fs.eraseIdx i) :: C) := lr_cons.1 (lr_perm (perm_out hi) h)
theorem lr_in {i : Nat} (h : Sat w0 w (lRow E sz p :: LR E sz (fs.eraseIdx i) :: C)) (hi : i < fs.length) : Sat w0 w (LR E sz (fs.set i p) :: C) := lr_perm (perm_in hi) (lr_cons.2 h)
theorem lr_back {i : Nat} (h : Sat w0 w (lRow E sz p :: LR E sz (fs.eraseIdx i) :: C)) (hi : fs[i]? = some p) : Sat w0 w (LR E sz fs :: C) := lr_perm (perm_out hi).symm (lr_cons.2 h)
theorem lr_snoc (h : Sat w0 w (lRow E sz p :: LR E sz fs :: C)) : Sat w0 w (LR E sz (fs ++ [p]) :: C) := lr_perm (List.perm_append_singleton _ _).symm (lr_cons.2 h)
theorem lr_nil (h : Sat w0 w C) : Sat w0 w (LR E sz [] :: C) := sat_star.2 h
theorem lr_val {i j : Nat} {F : List Chunk} (hS : Sat w0 w F) (hi : nth F i = some (LR E sz fs)) (hj : fs[j]? = some p) : ∃ A c, p.v = .slice A p.n c ∧ p.n ≤ c := by
  obtain ⟨A, c, e, h, _⟩ := row_val (lr_out (hS.front i hi) hj)
  exact ⟨A, c, e, h⟩
/-! ### marks -/
def rep (k : Nat) (m : List Value) : List Value := (List.replicate k m).flatten
theorem rep_len {k : Nat} {m : List Value} (h : m.length = sz) : (rep k m).length = k * sz := by
  induction k with
  | zero => simp [rep]
  | succ k ih =>
    simp only [rep, List.replicate_succ, List.flatten_cons, List.length_append] at ih ⊢
    rw [ih, h, Nat.add_mul, Nat.one_mul, Nat.add_comm]
theorem rep_snoc {k : Nat} {m : List Value} : rep (k + 1) m = rep k m ++ m := by
  unfold rep
  rw [List.replicate_succ', List.flatten_append]
  simp
theorem rep_at {k i j : Nat} {m : List Value} {u : Value} (h : m.length = sz) (hi : i < k) (hu : m[j]? = some u) : (rep k m)[i * sz + j]? = some u := by
  have hj : j < sz := by rw [← h]; exact (List.getElem?_eq_some_iff.1 hu).1
  induction k generalizing i with
  | zero => omega
  | succ k ih =>
    unfold rep at ih ⊢
    rw [List.replicate_succ, List.flatten_cons]
    cases i with
    | zero =>
      rw [Nat.zero_mul, Nat.zero_add, List.getElem?_append_left (by omega)]
      exact hu
    | succ i =>
      rw [List.getElem?_append_right (by rw [h, Nat.add_mul]; omega), h, show (i + 1) * sz + j - sz = i * sz + j by rw [Nat.add_mul]; omega]
      exact ih (by omega)
theorem rep_fill {k n : Nat} {m zs : List Value} (h : m.length = sz) (hz : zs.length = n * sz) (hk : k < n) :
    (rep k m ++ zs.drop (k * sz)).take (k * sz) ++ m ++ (rep k m ++ zs.drop (k * sz)).drop (k * sz + sz) = rep (k + 1) m ++ zs.drop ((k + 1) * sz) := by
  have hl := rep_len (k := k) h
  rw [List.take_append_of_le_length (by omega), List.take_of_length_le (by omega), ← rep_snoc]
  congr 1
  rw [List.drop_append, List.drop_of_length_le (by omega), hl, List.nil_append, List.drop_drop]
  congr 1
  rw [Nat.add_mul]
  omega
/-- v is a list of which each element's cells are m. -/
def Marked (E sz : Nat) (f : Frag) (m : List Value) (v : Value) : Prop := ∃ A n c, v = .slice A n c ∧ n ≤ 17592186044415 ∧ ∀ k, k < n → ∃ g cs, A = some ⟨g, 0, none⟩ ∧ f g = some (.cells cs E (0, 0)) ∧ ∀ j u, m[j]? = some u → cs[k * sz + j]? = some u
def marksC (E sz : Nat) (mk : Nat → List Value) (L : List Value) : Chunk := .pr fun f => ∀ i v, L[i]? = some v → Marked E sz f (mk i) v
variable {mk : Nat → List Value}
theorem marks_nil (h : Sat w0 w C) : Sat w0 w (marksC E sz mk [] :: C) := by
  obtain ⟨f, hf, hs⟩ := h.own
  have e : join (fun _ => none) f = f := by funext i; rfl
  exact ⟨h.os, h.tape, h.output, h.size, join (fun _ => none) f, .cons (by intro i v hv; simp at hv) hf (fun _ => .inl rfl), by rw [e]; exact hs⟩
theorem marks_read {L : List Value} {i : Nat} {v : Value} (h : Sat w0 w (marksC E sz mk L :: C)) (hi : L[i]? = some v) : ∃ A n c, v = .slice A n c ∧ n ≤ 17592186044415 ∧ ∀ k, k < n → ∃ g, A = some ⟨g, 0, none⟩ ∧ ∀ j u, (mk i)[j]? = some u → w.cell? ⟨g, 0 + (k : Int).toNat * sz + j, none⟩ = some u := by
  obtain ⟨f, hf, hs⟩ := h.own
  obtain ⟨g1, h1, hg, hk, ha, rfl⟩ := made_cons.1 hf
  obtain ⟨A, n, c, e, hn, hr⟩ := hg i v hi
  refine ⟨A, n, c, e, hn, fun k hk => ?_⟩
  obtain ⟨g, cs, e, h2, h3⟩ := hr k hk
  refine ⟨g, e, fun j u hu => ?_⟩
  have := hs g _ (join_some h2)
  simp [World.cell?, this, h3 j u hu]
theorem Marked.join {f g : Frag} {m : List Value} {v : Value} (h : Marked E sz f m v) : Marked E sz (join f g) m v := by
  obtain ⟨A, n, c, e, hn, hr⟩ := h
  refine ⟨A, n, c, e, hn, fun k hk => ?_⟩
  obtain ⟨b, cs, e, h2, h3⟩ := hr k hk
  exact ⟨b, cs, e, join_some h2, h3⟩
/-- A row that is full of one mark: what was seen of it is marked, for good. -/
theorem marks_retire {L news : List Value} {A : Option Addr} {n c : Nat} {m : List Value} (h : Sat w0 w (rowC E sz (.slice A n c) n (rep n m) :: marksC E sz mk L :: C)) (hm : m.length = sz) (hn : n ≤ 17592186044415)
    (hnew : ∀ j v, news[j]? = some v → mk (L.length + j) = m ∧ ∃ n' c', v = .slice A n' c' ∧ n' ≤ n) : Sat w0 w (marksC E sz mk (L ++ news) :: C) := by
  obtain ⟨f, hf, hs⟩ := h.own
  obtain ⟨g1, h1, hg, hk, ha, rfl⟩ := made_cons.1 hf
  obtain ⟨g2, h2, hg2, hk2, ha2, rfl⟩ := made_cons.1 hk
  refine ⟨h.os, h.tape, h.output, h.size, Sk.join (Sk.join g2 g1) h2, .cons ?_ hk2 ?_, ?_⟩
  · intro i v hv
    by_cases hi : i < L.length
    · rw [List.getElem?_append_left hi] at hv
      exact (hg2 i v hv).join
    · rw [List.getElem?_append_right (by omega)] at hv
      obtain ⟨e1, n', c', rfl, hn'⟩ := hnew _ _ hv
      rw [show L.length + (i - L.length) = i by omega] at e1
      refine ⟨A, n', c', rfl, by omega, fun k hk => ?_⟩
      obtain ⟨_, hr⟩ := hg
      rcases hr with ⟨e2, hn0, _⟩ | ⟨g, cap, cur, e2, h3, h4, h5, h6, h7⟩
      · omega
      · injection e2 with e2 e3 e4
        refine ⟨g, cur, e2, ?_, fun j u hu => ?_⟩
        · rw [or_comm (apart_or.1 ha).1.symm]
          have h8 : g1 = _ := h7
          subst h8
          exact join_some (by simp)
        · rw [e1] at hu
          have h9 : (cur.toList.take (n * sz))[k * sz + j]? = some u := by
            rw [h6]
            exact rep_at hm (by omega) hu
          rw [List.getElem?_take] at h9
          split at h9
          · simpa using h9
          · cases h9
  · have := apart_or.1 ha
    exact apart_or'.2 ⟨ha2, this.2⟩
  · have e : Sk.join (Sk.join g2 g1) h2 = Sk.join g1 (Sk.join g2 h2) := by
      rw [or_comm (apart_or.1 ha).1.symm, Sk.or_assoc]
    rw [e]
    exact hs
/-- Of the marked lists, far of them bear each mark. -/
theorem marks_split {far : Nat} {mq : Nat → List Value} (hmk : ∀ i, mk i = mq (i / far)) {l : List Value} {A : Option Addr} {n c j0 q : Nat} (h : Sat w0 w (rowC E sz (.slice A n c) n (rep n (mq q)) :: marksC E sz mk (l.take j0) :: C)) (hm : (mq q).length = sz) (hn : n ≤ 17592186044415) (hfar : 0 < far) (hj : j0 ≤ l.length) (hq : far * q ≤ j0) (hl : l.length ≤ far * q + far)
    (hnew : ∀ j v, j0 ≤ j → l[j]? = some v → ∃ n' c', v = .slice A n' c' ∧ n' ≤ n) : Sat w0 w (marksC E sz mk l :: C) := by
  have h1 := marks_retire (news := l.drop j0) h hm hn (fun j v hv => by
    rw [List.getElem?_drop] at hv
    have hlt := (List.getElem?_eq_some_iff.1 hv).1
    refine ⟨?_, hnew _ v (by omega) hv⟩
    rw [List.length_take, Nat.min_eq_left hj, hmk]
    rw [show (j0 + j) / far = q from Nat.div_eq_of_lt_le (by rw [Nat.mul_comm]; omega) (by rw [Nat.mul_comm, Nat.mul_add, Nat.mul_one]; omega)])
  rwa [List.take_append_drop] at h1
/-- The first i of the rows are full of their marks. -/
structure Filled (mq : Nat → List Value) (fs gs : List Lst) (i : Nat) : Prop where
  len : gs.length = fs.length
  val : gs.map Lst.v = fs.map Lst.v
  cnt : ∀ (j : Nat) (p p' : Lst), fs[j]? = some p → gs[j]? = some p' → p'.n = p.n
  full : ∀ (j : Nat) (p : Lst), j < i → gs[j]? = some p → p.xs = rep p.n (mq j)
theorem Filled.none {mq : Nat → List Value} : Filled mq fs fs 0 := ⟨rfl, rfl, fun j p p' h h' => by rw [h] at h'; cases h'; rfl, fun j p h => by omega⟩
theorem Filled.step {mq : Nat → List Value} {i : Nat} (h : Filled mq fs gs i) (hp : gs[i]? = some p) : Filled mq fs (gs.set i ⟨p.v, p.n, rep p.n (mq i)⟩) (i + 1) := by
  have hi := (List.getElem?_eq_some_iff.1 hp).1
  refine ⟨by rw [List.length_set, h.len], ?_, ?_, ?_⟩
  · rw [← h.val, List.map_set]
    apply List.ext_getElem?
    intro j
    rw [List.getElem?_set]
    split
    · rename_i e; subst e; simp [hi, (List.getElem?_eq_some_iff.1 hp).2]
    · rfl
  · intro j a b ha hb
    rw [List.getElem?_set] at hb
    split at hb
    · rename_i e
      subst e
      cases hb
      have := h.cnt _ _ _ ha hp
      exact this
    · exact h.cnt _ _ _ ha hb
  · intro j a hj ha
    rw [List.getElem?_set] at ha
    split at ha
    · rename_i e
      subst e
      cases ha
      rfl
    · rename_i e
      exact h.full j a (by omega) ha
end
end Go.Proofs.Ytbfdebddoncfhaa.Sk
/-! Sk, part thirty-two: a struct loaded from wherever it lies; slices of structs that came in; calls on a chunk in its place. -/
namespace Go.Proofs.Ytbfdebddoncfhaa.Sk
open Go Go.RowKit
set_option linter.unusedVariables false
set_option linter.unusedSimpArgs false
section
variable {P : Program} {ρ : Operand → Value} {dst : Option Tmp} {ty : TypeId} {pos : String} {af : Array Edge} {g : Option (Nat × Bool)} {w : World}
/-- Element i of a slice that came in holds the cells f i. -/
def CellsIn (W : World) (a : Option Addr) (len sz : Nat) (f : Nat → List Value) : Prop := ∀ i, i < len → ∃ x, a = some x ∧ ∀ j v, (f i)[j]? = some v → W.cell? ((x.add (i * sz)).add j) = some v
theorem CellsIn.at_ {W w0 w : World} {a : Option Addr} {len sz i k : Nat} {f : Nat → List Value} {C : List Chunk} (h : CellsIn W a len sz f) (hi : i < len) (hS : Sat w0 w C) (hk : nth C k = some (whole W)) : ∃ x, a = some x ∧ ∀ j v, (f i)[j]? = some v → w.cell? ((x.add ((i : Int).toNat * sz)).add j) = some v := by
  obtain ⟨x, rfl, hc⟩ := h i hi
  exact ⟨x, rfl, fun j v hj => by rw [Int.toNat_natCast]; exact hS.whole_at hk (hc j v hj)⟩
end
section
variable {P : Program} {f : FuncId} {args : Array Value} {w w0 : World} {C : List Chunk} {c : Chunk} {v : Value}
theorem at_keep (i : Nat) (hS : Sat w0 w C) (hi : nth C i = some c) (h : Sat w0 w (c :: del C i) → Calls P f args w (fun e w' => e = .returned v ∧ Sat w0 w' (c :: del C i))) : Calls P f args w (fun e w' => e = .returned v ∧ Sat w0 w' C) :=
  (h (hS.front i hi)).mono fun _ _ ⟨h1, h2⟩ => ⟨h1, same_place i h2 hi⟩
end
end Go.Proofs.Ytbfdebddoncfhaa.Sk
/-! Sk, part thirty-three: a store to one cell of an element of several. -/
namespace Go.Proofs.Ytbfdebddoncfhaa.Sk
open Go Go.RowKit
set_option linter.unusedVariables false
set_option linter.unusedSimpArgs false
theorem set_cut {α : Type} : ∀ (l : List α) (i : Nat) (x : α), i < l.length → l.take i ++ [x] ++ l.drop (i + 1) = l.set i x
  | [], i, x, h => by simp at h
  | y :: l, 0, x, _ => by simp
  | y :: l, i + 1, x, h => by
    have := set_cut l i x (by simpa using h)
    simpa using this
section
variable {P : Program} {ops : Array Oper} {Q : Exit → Act → World → Prop} {rest : List Oper} {a : Act} {w0 w : World} {n : Shape} {L : List (Nat × Value)} {C : List Chunk} {S : World → Prop} {ds : List Nat} {ord : List (Nat × How)} {p j : Nat} {v : Value}
theorem s_rstoreF {t g E sz nn c k f : Nat} {x y : Operand} {ty : TypeId} {pos : String} {af : Array Edge} {gd : Option (Nat × Bool)} (i : Nat) {xs : List Value} (hF : Fr a n L) (hg : wantedB ops L ⟨none, .store t x y, ty, pos, af, gd⟩ = some true)
    (hx : a.eval x = .pointer (some ⟨g, 0 + (k : Int).toNat * sz + f, none⟩)) (hy : a.eval y = v) (hS : Sat w0 w C) (hi : nth C i = some (rowC E sz (.slice (some ⟨g, 0, none⟩) nn c) nn xs)) (hv : v.cells.toList = [v]) (hz : sizeB P t 1 = true) (h1 : v.oneCell' = true) (hf : f < sz) (hk : k < nn) (hxl : xs.length = nn * sz)
    (kk : ∀ w', Sat w0 w' (upd C i (rowC E sz (.slice (some ⟨g, 0, none⟩) nn c) nn (xs.set (k * sz + f) v))) → wpList P ops Q rest a w') : wpList P ops Q (⟨none, .store t x y, ty, pos, af, gd⟩ :: rest) a w := by
  have hb : k * sz + f + [v].length ≤ nn * sz := by
    have := Nat.mul_le_mul_right sz (show k + 1 ≤ nn by omega)
    rw [Nat.add_mul, Nat.one_mul] at this
    show k * sz + f + 1 ≤ nn * sz
    omega
  obtain ⟨cs, hg', hfit, hS'⟩ := row_write (o := k * sz + f) (vs := [v]) hS hi hb
  rw [Int.toNat_natCast, Nat.zero_add] at hx
  have hb' : k * sz + f < xs.length := by rw [hxl]; exact hb
  rw [show k * sz + f + [v].length = k * sz + f + 1 from rfl, set_cut _ _ _ hb'] at hS'
  exact s_sk hF hg rfl (run_store_row hx hy hv hz (fun u hu => by simp at hu; subst hu; exact h1) hg' hfit) (kk _ hS')
theorem l_rstoreF {t g E sz nn c k f : Nat} {x y : Operand} {ty : TypeId} {pos : String} {af : Array Edge} {gd : Option (Nat × Bool)} (i : Nat) {xs : List Value} (hD : Drawn P ops Q S ds ord) (hF : Fr a n L) (hp : ord[p]? = some (j, .ls)) (ho : ops[j]? = some ⟨none, .store t x y, ty, pos, af, gd⟩)
    (hg : wantedB ops L ⟨none, .store t x y, ty, pos, af, gd⟩ = some true)
    (hx : a.eval x = .pointer (some ⟨g, 0 + (k : Int).toNat * sz + f, none⟩)) (hy : a.eval y = v) (hS : Sat w0 w C) (hi : nth C i = some (rowC E sz (.slice (some ⟨g, 0, none⟩) nn c) nn xs)) (hv : v.cells.toList = [v]) (hz : sizeB P t 1 = true) (h1 : v.oneCell' = true) (hf : f < sz) (hk : k < nn) (hxl : xs.length = nn * sz)
    (kk : ∀ w', Sat w0 w' (upd C i (rowC E sz (.slice (some ⟨g, 0, none⟩) nn c) nn (xs.set (k * sz + f) v))) → wpD P ops Q S ds ord (p + 1) a w') : wpD P ops Q S ds ord p a w := by
  have hb : k * sz + f + [v].length ≤ nn * sz := by
    have := Nat.mul_le_mul_right sz (show k + 1 ≤ nn by omega)
    rw [Nat.add_mul, Nat.one_mul] at this
    show k * sz + f + 1 ≤ nn * sz
    omega
  obtain ⟨cs, hg', hfit, hS'⟩ := row_write (o := k * sz + f) (vs := [v]) hS hi hb
  rw [Int.toNat_natCast, Nat.zero_add] at hx
  have hb' : k * sz + f < xs.length := by rw [hxl]; exact hb
  rw [show k * sz + f + [v].length = k * sz + f + 1 from rfl, set_cut _ _ _ hb'] at hS'
  exact l_sk hD hF hp ho hg rfl (run_store_row hx hy hv hz (fun u hu => by simp at hu; subst hu; exact h1) hg' hfit) (kk _ hS')
end
/-- Field i of the struct type s, off cells in: one cell (none), or so many (some). -/
def fvB (P : Program) (s i off : Nat) (sz : Option Nat) : Bool := match P.underlying s with
  | some (.struct fs) => match fs[i]? with
    | some f => f.offset == off && (match P.underlying f.type with
      | some (.struct _) => (match P.info? f.type with | some j => sz == some j.size | none => false)
      | some (.array _ _) => false
      | some _ => sz == none
      | none => false)
    | none => false
  | _ => false
section
variable {P : Program} {ρ : Operand → Value} {dst : Option Tmp} {ty : TypeId} {pos : String} {af : Array Edge} {g : Option (Nat × Bool)}
theorem pu_fval {s i off : Nat} {x : Operand} {cs : Array Value} {v : Value} (hf : fvB P s i off none = true) (hx : ρ x = .agg cs) (hc : cs[off]? = some v) : Pu P ρ ⟨dst, .field s x i, ty, pos, af, g⟩ v := fun w => by
  unfold fvB at hf
  split at hf
  · rename_i fs hu
    split at hf
    · rename_i f hi
      simp only [Bool.and_eq_true, beq_iff_eq] at hf
      obtain ⟨rfl, hf⟩ := hf
      split at hf
      · split at hf <;> simp at hf
      · simp at hf
      · rename_i u h1 h2 h3
        cases u <;> simp [execOp, hx, Instr.field, run_underlying hu, hi, asAgg, part, isAgg, run_underlying h3, hc] at * <;> simp_all
      · simp at hf
    · simp at hf
  · simp at hf
theorem pu_fagg {s i off sz : Nat} {x : Operand} {cs r : Array Value} (hf : fvB P s i off (some sz) = true) (hx : ρ x = .agg cs) (hr : cs.extract off (off + sz) = r) : Pu P ρ ⟨dst, .field s x i, ty, pos, af, g⟩ (.agg r) := fun w => by
  unfold fvB at hf
  split at hf
  · rename_i fs hu
    split at hf
    · rename_i f hi
      simp only [Bool.and_eq_true, beq_iff_eq] at hf
      obtain ⟨rfl, hf⟩ := hf
      split at hf
      · rename_i gs h3
        split at hf
        · rename_i j hj
          simp at hf
          subst hf
          subst hr
          simp [execOp, hx, Instr.field, run_underlying hu, hi, asAgg, part, isAgg, run_underlying h3, sizeOf, typeInfo, hj]
        · simp at hf
      · simp at hf
      · simp at hf
      · simp at hf
    · simp at hf
  · simp at hf
end
section
variable {P : Program} {ops : Array Oper} {Q : Exit → Act → World → Prop} {a : Act} {w : World} {n : Shape} {d : Nat} {L : List (Nat × Value)} {S : World → Prop} {ds : List Nat} {ord : List (Nat × How)} {i j : Nat} {o : Oper}
theorem f_en {f : FuncId} {args : Array Value} {R : Ending → World → Prop} (hD : Drawn P ops Q S ds ord) (hF : Fr a n L) (hp : ord[i]? = some (j, .fk)) (ho : ops[j]? = some o) (hg : wantedB ops L o = some true) (hd : o.dst = some d) (hn : Nat.blt d n.size = true)
    (h : (execOp a.eval o).run P w = .ok (.enter f args) w) (hc : Calls P f args w R) (k : ∀ e w', R e w' → ∃ v, e = .returned v ∧ S w' ∧ ∀ a', Fr a' n ((d, v) :: L) → wpD P ops Q S ds ord (i + 1) a' w') : Fk P ops Q S ds ord i j a w := by
  intro o' ho' K hK
  rw [ho] at ho'
  injection ho' with ho'
  subst ho'
  rw [wanted_of hF hg, if_pos rfl]
  unfold Oper.wp
  rw [h, Oper.upon_enter, hd]
  refine hc.mono fun e w' hR => ?_
  obtain ⟨v, rfl, hS, k'⟩ := k e w' hR
  exact hK _ _ hS fun _ => k' _ (hF.put hn v)
end
end Go.Proofs.Ytbfdebddoncfhaa.Sk
