import Derived.Test.YtbpkfifiigpdcaaSk26
import Derived.RangeFuncRecord
import Derived.RangeFuncSeq
import Derived.OrdersIn
import Derived.LoopIn
/-! Sk, part twenty-seven: inside a fence without walls: code in a round of a range over a function; the range itself. -/
namespace Go.Proofs.Ytbpkfifiigpdcaa.Sk
open Go Go.RowKit
open Go.Proofs.YtbpkfifiigpdcaaW.PrintLast
set_option linter.unusedVariables false
set_option linter.unusedSimpArgs false

/-- The wide fence, in a round of loop l (r = some l), or in no round. -/
abbrev wf (r : Option Nat) : Fence := { Fence.wide with round := r }
section
variable {P : Program} {r : Option Nat} {f : FuncId} {args : Array Value} {w : World} {R : Ending → World → Prop}
theorem calls_wf : Calls P f args w R → CallsIn (wf r) 0 P f args w R := fun h => (callsIn_wide (n := 0)).2 h
theorem wf_calls : CallsIn (wf r) 0 P f args w R → Calls P f args w R := fun h => (callsIn_wide (n := 0)).1 h
end
def noDef (l : List Oper) : Bool := l.all fun o => match o.op with | .defer _ => false | _ => true
theorem noDef_at {l : List Oper} (h : noDef l = true) {o : Oper} (ho : o ∈ l) : ∀ c, o.op ≠ .defer c := by
  intro c hc
  have := List.all_eq_true.1 h o ho
  rw [hc] at this
  cases this
section
variable {P : Program} {r : Option Nat} {o : Oper} {a : Act} {w : World} {K : Act → World → Prop} {Q : Exit → Act → World → Prop} {ops : Array Oper}
theorem rows_wf {row : String} {args : Array Value} {R : Value → World → Prop} (h : Rows P row args w R) : RowsIn (wf r) 0 P row args w R := by
  intro c cs _
  obtain ⟨v, w', hr, hs⟩ := h c cs
  exact ⟨v, w', hr, stepsIn_wide.2 hs⟩
theorem oper_wf (hd : ∀ c, o.op ≠ .defer c) (h : o.wp P a w K Q) : o.wpIn (wf r) 0 P a w K Q := by
  refine ⟨fun _ _ => trivial, ?_⟩
  unfold Oper.wp at h
  rw [Oper.semAt_eq _ _ _ hd]
  generalize (execOp a.eval o).run P w = z at h
  cases z with
  | ok x w' =>
    cases x with
    | value v => exact h
    | skip => exact h
    | defer d => exact h
    | enter f args => exact ⟨fun e => (by cases e), calls_wf (r := r) h⟩
    | row row args => exact ⟨fun e => (by cases e), rows_wf (r := r) h⟩
    | _ => exact h.elim
  | halt x w' =>
    cases x <;> exact h
/-- It ends, and goes on. -/
def sure (Q : Exit → Act → World → Prop) : Exit → Act → World → Prop
  | .normal, a, w => Q .normal a w
  | _, _, _ => False
theorem sure_in {Q : Exit → Act → World → Prop} {a : Act} {w : World} (h : Q .normal a w) : sure Q .normal a w := h
theorem sure_out {Q : Exit → Act → World → Prop} : ¬ LetsOut (sure Q) := fun ⟨_, _, h⟩ => h
theorem sure_mono : ∀ e a w, sure Q e a w → Q e a w := fun e a w h => by cases e <;> first | exact h | exact h.elim
theorem wpList_wf : ∀ {rest : List Oper} {a : Act} {w : World}, (∀ o ∈ rest, ∀ c, o.op ≠ .defer c) → wpList P ops (sure Q) rest a w → wpListIn (wf r) 0 P ops (sure Q) rest a w
  | [], _, _, _, h => h
  | o :: rest, a, w, hd, h => by
    unfold wpList at h
    unfold wpListIn
    split at h
    · rename_i hw
      rw [if_pos hw]
      exact Oper.wpIn_mono (fun a w h => wpList_wf (fun o ho => hd o (by simp [ho])) h) (oper_wf (hd o (by simp)) (h.resolve_right fun h => sure_out h.2))
    · rename_i hw
      rw [if_neg hw]
      exact ⟨fun _ _ => trivial, wpList_wf (fun o ho => hd o (by simp [ho])) h⟩
theorem wpOp_wf {i : Nat} (hd : ∀ o ∈ ops.toList, ∀ c, o.op ≠ .defer c) (h : wpOp P ops (sure Q) i K a w) : wpOpIn (wf r) 0 P ops (sure Q) i K a w := by
  unfold wpOp at h
  unfold wpOpIn
  cases ho : ops[i]? with
  | none => rw [ho] at h; exact h
  | some o =>
    rw [ho] at h
    have hm : o ∈ ops.toList := by
      have := Array.mem_of_getElem? ho
      simpa using this
    simp only at h ⊢
    split at h
    · rename_i hw
      rw [if_pos hw]
      exact oper_wf (hd o hm) (h.resolve_right fun h => sure_out h.2)
    · rename_i hw
      rw [if_neg hw]
      exact ⟨fun _ _ => trivial, h⟩
theorem wpAny_wf {md : Region.Mode} (hd : ∀ o ∈ ops.toList, ∀ c, o.op ≠ .defer c) : ∀ {fuel : Nat} {l : Array Bool} {a : Act} {w : World}, wpAny P md ops (sure Q) fuel l a w → wpAnyIn (wf r) 0 P md ops (sure Q) fuel l a w
  | 0, _, _, _, h => h
  | fuel + 1, _, _, _, h => ⟨h.1, fun i hi => wpOpIn_mono (fun a w h => wpAny_wf hd h) (wpOp_wf hd (h.2 i hi))⟩
/-- A region in the order of its text. -/
theorem wr_region {id : Nat} {l : List Oper} (hd : noDef l = true) (h : wpList P l.toArray (sure Q) l a w) : (Code.region id l.toArray false).wpIn (wf r) 0 P Q a w :=
  wpIn_mono (wpIn_region_lit (wpList_wf (fun o ho => noDef_at hd ho) h)) sure_mono
/-- A region that draws its order. -/
theorem wr_start {id : Nat} {l : List Oper} {S : World → Prop} {ds : List Nat} {ord : List (Nat × How)} (hd : noDef l = true) (hm : P.follows .mixedOrders = true) (hD : Drawn P l.toArray (sure Q) S ds ord) (hS : S w.drew)
    (k : Drawn P l.toArray (sure Q) S ds ord → wpD P l.toArray (sure Q) S ds ord 0 a w.drew) : (Code.region id l.toArray true).wpIn (wf r) 0 P Q a w := by
  refine wpIn_mono (wpIn_region_any hm (wpAny_wf (fun o ho => noDef_at hd (by simpa using ho)) (wpAny_of_last (S := S) (ds := ds) _ _ _ _ ?_))) sure_mono
  have h := k hD
  unfold wpD at h
  simpa [lst] using h
theorem wr_ind {c : Code} (I : Nat → Act → World → Prop) (k0 : Nat) (h0 : I k0 a w) (hs : ∀ k a w, I k a w → c.wpIn (wf r) 0 P (Exit.then (fun a' w' => ∃ k', k' < k ∧ I k' a' w') Q) a w) : (Code.loop c).wpIn (wf r) 0 P Q a w := by
  classical
  refine wpIn_loop (fun a w => ∃ k, I k a w) (fun a w => if h : ∃ k, I k a w then Classical.choose (least h) else 0) ⟨k0, h0⟩ fun a w hI => ?_
  have hk := Classical.choose_spec (least hI)
  refine wpIn_mono (hs _ a w hk.1) fun e a' w' hq => ?_
  cases e with
  | normal =>
    obtain ⟨k', hlt, hI'⟩ := hq
    refine ⟨⟨k', hI'⟩, ?_⟩
    rw [dif_pos ⟨k', hI'⟩, dif_pos hI]
    exact Nat.lt_of_le_of_lt ((Classical.choose_spec (least ⟨k', hI'⟩)).2 k' hI') hlt
  | _ => exact hq
theorem wr_seq_j {x y : Code} (J : Act → World → Prop) (h2 : x.wpIn (wf r) 0 P (Exit.then J Q) a w) (h1 : ∀ a w, J a w → y.wpIn (wf r) 0 P Q a w) : (Code.seq x y).wpIn (wf r) 0 P Q a w :=
  wpIn_seq_k fun K hK => wpIn_mono h2 fun e a w h => by
    cases e with
    | normal => exact hK _ _ (h1 _ _ h)
    | _ => exact h
end
/-! ### ways in and out of a function that ranges over a function, or calls yield -/
section
variable {P : Program} {f : FuncId} {fn : Func} {c : Code} {args : Array Value} {w w0 : World} {R : Ending → World → Prop} {a : Act} {L : List (Nat × Value)} {C : List Chunk}
theorem enterY {n : Nat} (hf : P.funcs[f]? = some fn) (hb : fn.body = some c) (hn : fn.ntmps = n) (hs : args.size ≤ n) (h : ∀ a, Fr a ⟨n, []⟩ (enumL 0 args.toList) → c.wpIn (wf none) 0 P (bodyPost P fn R) a w) : Calls P f args w R :=
  wf_calls (r := none) (callsIn_of_wp hf hb trivial (h _ (by subst hn; exact fr_start hs)))
theorem enterM {n : Nat} (hf : P.funcs[f]? = some fn) (hb : fn.body = some c) (hn : fn.ntmps = n) (hs : args.size ≤ n) (h : ∀ a, Fr a ⟨n, []⟩ (enumL 0 args.toList) → c.wpIn (wf none) 0 P (bodyPostM (wf none) 0 P fn R) a w) : Calls P f args w R :=
  wf_calls (r := none) (callsIn_of_wp_marks hf hb trivial (h _ (by subst hn; exact fr_start hs)))
/-- The block for the deferred calls of a range's rounds: none came. -/
def dfC (d : Nat) : Chunk := .obj d (.deferred (some []))
theorem Sat.putObj {l : Nat} {o o' : Obj} (h : Sat w0 w (.obj l o :: C)) : Sat w0 (w.putObj l o') (.obj l o' :: C) := by
  have hl := (Array.getElem?_eq_some_iff.1 h.obj).1
  exact h.set rfl rfl rfl (by simp) (World.putObj_heap_same hl) (fun i hi => World.putObj_heap_other hi)
theorem leaves_marks {tmps : Array Value} {C : List Chunk} (h : ∀ w, Sat w0 w C → ∃ v, (results fn tmps).run P w = .ok v w ∧ R (.returned v) w) : ∀ (ds : List Nat) (w : World), Sat w0 w (ds.map dfC ++ C) → LeavesInM (wf none) 0 P fn tmps R (ds.map markD) .returning w
  | [], w, hS => h w hS
  | d :: ds, w, hS => ⟨by simp, .inl ⟨d, _, rfl, run_takeDeferred hS.obj, leaves_marks h ds _ (Sat.putObj (o' := .deferred none) hS).tail⟩⟩
theorem finM_ret {n : Nat} {ds : List Nat} (hF : Fr a ⟨n, ds⟩ L) (hS : Sat w0 w (ds.map dfC ++ C)) (h : ∀ w, Sat w0 w C → ∃ v, (results fn a.tmps).run P w = .ok v w ∧ R (.returned v) w) : bodyPostM (wf none) 0 P fn R .ret a w := by
  show LeavesInM _ _ _ _ _ _ _ _ _
  rw [hF.defers]
  exact leaves_marks h ds w hS
theorem finM_end {n : Nat} {ds : List Nat} (hF : Fr a ⟨n, ds⟩ L) (hS : Sat w0 w (ds.map dfC ++ C)) (h : ∀ w, Sat w0 w C → ∃ v, (results fn a.tmps).run P w = .ok v w ∧ R (.returned v) w) : bodyPostM (wf none) 0 P fn R .normal a w := by
  show LeavesInM _ _ _ _ _ _ _ _ _
  rw [hF.defers]
  exact leaves_marks h ds w hS
theorem res0 (hr : fn.results = #[]) : (results fn a.tmps).run P w = .ok (.tuple #[]) w := results_none hr _ _ _
theorem res1 {n : Shape} {t : Nat} {v : Value} (hr : fn.results = #[.tmp t]) (hF : Fr a n L) (hv : look L t = some v) : (results fn a.tmps).run P w = .ok v w := by
  rw [results_tmp hr, hF.get _ _ hv]
theorem resc1 {n : Shape} {t : Nat} {ty : TypeId} {A : Addr} {v : Value} (hr : fn.results = #[.cell t ty]) (hF : Fr a n L) (hp : look L t = some (.pointer (some A))) (hl : Holds P w ty A v) : (results fn a.tmps).run P w = .ok v w := by
  have h1 := hF.get _ _ hp
  simp only [Array.getD_eq_getD_getElem?] at h1
  unfold Holds at hl
  simp [results, hr, h1, asAddr, hl]
theorem resc3 {n : Shape} {t s q : Nat} {ty1 ty2 ty3 : TypeId} {A B D : Addr} {u v x : Value} (hr : fn.results = #[.cell t ty1, .cell s ty2, .cell q ty3]) (hF : Fr a n L) (hp : look L t = some (.pointer (some A))) (hp2 : look L s = some (.pointer (some B))) (hp3 : look L q = some (.pointer (some D)))
    (hl : Holds P w ty1 A u) (hl2 : Holds P w ty2 B v) (hl3 : Holds P w ty3 D x) : (results fn a.tmps).run P w = .ok (.tuple #[u, v, x]) w := by
  have h1 := hF.get _ _ hp
  have h2 := hF.get _ _ hp2
  have h3 := hF.get _ _ hp3
  simp only [Array.getD_eq_getD_getElem?] at h1 h2 h3
  unfold Holds at hl hl2 hl3
  simp [results, hr, h1, h2, h3, asAddr, hl, hl2, hl3]
/-- A variable of one cell. -/
theorem holds_cell {t b off : Nat} {v : Value} (ht : plainB P t = true) (hv : w.cell? ⟨b, off, none⟩ = some v) : Holds P w t ⟨b, off, none⟩ v := by
  unfold Holds
  simp [loadVar, run_isAgg ht, hv]
end
/-! ### a call of yield -/
section
variable {P : Program} {ops : Array Oper} {Q : Exit → Act → World → Prop} {rest : List Oper} {o : Oper} {a : Act} {w w' : World} {n : Shape} {d : Nat} {L : List (Nat × Value)} {v : Value}
theorem y_pu (hF : Fr a n L) (hg : wantedB ops L o = some true) (hd : o.dst = some d) (hn : Nat.blt d n.size = true) (h : Pu P a.eval o v) (k : ∀ a', Fr a' n ((d, v) :: L) → wpListIn (wf none) 0 P ops Q rest a' w) : wpListIn (wf none) 0 P ops Q (o :: rest) a w := by
  unfold wpListIn
  rw [wanted_of hF hg, if_pos rfl]
  refine ⟨fun _ _ => trivial, ?_⟩
  show o.uponIn _ _ _ _ _ _ ((execOp a.eval o).run P w)
  rw [h w, Oper.uponIn_value, hd]
  exact k _ (hF.put hn v)
theorem y_rd (hF : Fr a n L) (hg : wantedB ops L o = some true) (hd : o.dst = some d) (hn : Nat.blt d n.size = true) (h : Rd P a.eval w o v) (k : ∀ a', Fr a' n ((d, v) :: L) → wpListIn (wf none) 0 P ops Q rest a' w) : wpListIn (wf none) 0 P ops Q (o :: rest) a w := by
  unfold wpListIn
  rw [wanted_of hF hg, if_pos rfl]
  refine ⟨fun _ _ => trivial, ?_⟩
  show o.uponIn _ _ _ _ _ _ ((execOp a.eval o).run P w)
  rw [h, Oper.uponIn_value, hd]
  exact k _ (hF.put hn v)
theorem y_no (hF : Fr a n L) (hg : wantedB ops L o = some false) (hd : o.dst = some d) (hn : Nat.blt d n.size = true) (k : ∀ a', Fr a' n ((d, undef) :: L) → wpListIn (wf none) 0 P ops Q rest a' w) : wpListIn (wf none) 0 P ops Q (o :: rest) a w := by
  unfold wpListIn
  rw [wanted_of hF hg, if_neg (by simp), hd]
  exact ⟨fun _ _ => trivial, k _ (hF.put hn _)⟩
theorem y_done (h : Q .normal a w) : wpListIn (wf none) 0 P ops Q [] a w := h
theorem run_yield_call {l : Nat} {ρ : Operand → Value} {xs : Array Operand} {ts : Array TypeId} {vs : List Value} {x : Operand} {dst : Option Tmp} {ty : TypeId} {pos : String} {af : Array Edge} {g : Option (Nat × Bool)}
    (hx : ρ x = .func (.yield l) #[] #[]) (hv : xs.toList.map ρ = vs) :
    (execOp ρ ⟨dst, .call { callee := .value x, args := xs, argTypes := ts }, ty, pos, af, g⟩).run P w = (Instr.yield l vs.toArray).run P w := by
  have hv' : xs.map ρ = vs.toArray := by apply Array.ext'; simpa using hv
  simp only [execOp, resolve, hx, Deferred.ofValue, Sem.run_bind, hv', Array.empty_append]
  simp only [Sem.run_pure, Result.andThen_ok, invoke, Array.append_empty]
theorem y_yield {l : Nat} {xs : Array Operand} {ts : Array TypeId} {vs : List Value} {x : Operand} {ty : TypeId} {pos : String} {af : Array Edge} {g : Option (Nat × Bool)} {R : Ending → World → Prop} (hF : Fr a n L)
    (hg : wantedB ops L ⟨some d, .call { callee := .value x, args := xs, argTypes := ts }, ty, pos, af, g⟩ = some true) (hn : Nat.blt d n.size = true)
    (hx : a.eval x = .func (.yield l) #[] #[]) (hv : xs.toList.map a.eval = vs) (hY : YieldAt (wf none) 0 P l vs.toArray w R)
    (k : ∀ e w', R e w' → ∃ v, e = .returned v ∧ ∀ a', Fr a' n ((d, v) :: L) → wpListIn (wf none) 0 P ops Q rest a' w') : wpListIn (wf none) 0 P ops Q (⟨some d, .call { callee := .value x, args := xs, argTypes := ts }, ty, pos, af, g⟩ :: rest) a w := by
  unfold wpListIn
  rw [wanted_of hF hg, if_pos rfl]
  refine ⟨fun _ _ => trivial, ?_⟩
  rw [show (wf none).round = none from rfl, Oper.semAt_none, run_yield_call hx hv]
  obtain ⟨fn, tmps, as, bd, hy, hR⟩ := hY
  rw [hy, Oper.uponIn_round]
  refine ⟨fun e => (by cases e), hR.mono fun e w' he => ?_⟩
  obtain ⟨v, rfl, k'⟩ := k e w' he
  exact k' _ (hF.put hn v)
end
end Go.Proofs.Ytbpkfifiigpdcaa.Sk
