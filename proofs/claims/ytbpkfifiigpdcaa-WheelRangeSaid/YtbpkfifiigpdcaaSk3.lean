import Derived.Test.YtbpkfifiigpdcaaSk2
import Derived.Test.YtbpkfifiigpdcaaWLast
/-! Sk, part three: loads, stores, new memory; the steps of a region; ways in and out. -/
namespace Go.Proofs.Ytbpkfifiigpdcaa.Sk
open Go Go.RowKit
open Go.Proofs.YtbpkfifiigpdcaaW.PrintLast
set_option linter.unusedVariables false
set_option linter.unusedSimpArgs false

/-! ### parts put together -/
def putL (zs : List Value) (off : Nat) (cs : List Value) : List Value := zs.take off ++ cs ++ zs.drop (off + cs.length)
def fillL (pl : List (Nat × Nat)) : List Value → List (Nat × List Value) → Option (List Value)
  | zs, [] => some zs
  | zs, (i, cs) :: r => match pl[i]? with
    | some (off, sz) => bif (cs.length == sz) && Nat.ble (off + cs.length) zs.length then fillL pl (putL zs off cs) r else none
    | none => none

theorem foldl_put (cs : List Value) : ∀ (k off : Nat) (zs : List Value), off + k + cs.length ≤ zs.length →
    (cs.zipIdx k).foldl (fun (acc : Array Value) (p : Value × Nat) => acc.setIfInBounds (off + p.2) p.1) zs.toArray = (putL zs (off + k) cs).toArray := by
  induction cs with
  | nil => intro k off zs h; simp [putL]
  | cons c cs ih =>
    intro k off zs h
    simp only [List.zipIdx_cons, List.foldl_cons, List.setIfInBounds_toArray]
    rw [ih (k + 1) off (zs.set (off + k) c) (by simp at h ⊢; omega)]
    congr 1
    have := list_seg_step zs (off + k) c cs (by simp at h; omega)
    simpa [putL, Nat.add_assoc, Nat.add_comm, Nat.add_left_comm] using this

theorem fill_eq {place : Nat → Option (Nat × Nat)} {pl : List (Nat × Nat)} (hp : ∀ i, place i = pl[i]?) : ∀ (vs : List (Nat × Value)) (zs res : List Value),
    fillL pl zs (vs.map fun p => (p.1, p.2.cells.toList)) = some res → Instr.fill place zs.toArray vs = some res.toArray := by
  intro vs
  induction vs with
  | nil => intro zs res h; simp [fillL] at h; simp [Instr.fill, h]
  | cons p r ih =>
    intro zs res h
    obtain ⟨i, v⟩ := p
    simp only [List.map_cons, fillL] at h
    simp only [Instr.fill, hp]
    cases hq : pl[i]? with
    | none => rw [hq] at h; cases h
    | some q =>
      obtain ⟨off, sz⟩ := q
      rw [hq] at h
      simp only at h ⊢
      cases hc : ((v.cells.toList.length == sz) && Nat.ble (off + v.cells.toList.length) zs.length) with
      | false => rw [hc] at h; simp at h
      | true =>
        rw [hc] at h
        simp only [cond_true] at h
        simp only [Bool.and_eq_true, beq_iff_eq, Array.length_toList] at hc
        have h2 : off + v.cells.size ≤ zs.length := Nat.le_of_ble_eq_true hc.2
        have hb : (decide (v.cells.size ≠ sz) || decide (off + v.cells.size > zs.toArray.size)) = false := by
          simp [hc.1]; omega
        simp only [hb]
        have := foldl_put v.cells.toList 0 off zs (by simpa using h2)
        simp only [Nat.add_zero] at this
        have e : (v.cells.zipIdx).foldl (fun (cs : Array Value) (x : Value × Nat) => match x with | (c, j) => cs.setIfInBounds (off + j) c) zs.toArray = (putL zs off v.cells.toList).toArray := by
          rw [← this, ← Array.foldl_toList]
          simp
        simp only [Bool.false_eq_true, if_false]
        rw [e]
        exact ih _ _ h

def structO (P : Program) (t : Nat) : Option (List (Nat × Nat) × List Value) := match P.info? t, P.underlying t with
  | some i, some (.struct fs) => match i.zero, fs.toList.mapM (fun f => (P.info? f.type).map fun i => (f.offset, i.size)) with
    | some z, some pl => some (pl, z.cells.toList)
    | _, _ => none
  | _, _ => none
section ops
variable {P : Program} {ρ : Operand → Value} {dst : Option Tmp} {ty : TypeId} {pos : String} {af : Array Edge} {g : Option (Nat × Bool)} {w0 w : World} {C : List Chunk}

theorem built_of {t : Nat} {pl : List (Nat × Nat)} {zs res : List Value} {vs : List (Nat × Value)} (hb : structO P t = some (pl, zs)) (hf : fillL pl zs (vs.map fun p => (p.1, p.2.cells.toList)) = some res) : P.built t vs = some res.toArray := by
  unfold structO at hb
  unfold Program.built
  cases hi : P.info? t with
  | none => rw [hi] at hb; cases hb
  | some i =>
    cases hu : P.underlying t with
    | none => rw [hi, hu] at hb; cases hb
    | some d =>
      cases d with
      | struct fs =>
        rw [hi, hu] at hb
        simp only at hb ⊢
        cases hz : i.zero with
        | none => rw [hz] at hb; cases hb
        | some z =>
          cases hm : fs.toList.mapM (fun f => (P.info? f.type).map fun i => (f.offset, i.size)) with
          | none => rw [hz, hm] at hb; cases hb
          | some q =>
            rw [hz, hm] at hb
            simp only [Option.some.injEq, Prod.mk.injEq] at hb ⊢
            obtain ⟨rfl, rfl⟩ := hb
            have := fill_eq (place := fun i => q.toArray[i]?) (pl := q) (fun i => by simp) vs z.cells.toList res hf
            simpa using this
      | _ => rw [hi, hu] at hb; cases hb

theorem pu_build {t : Nat} {parts : Array (Nat × Operand)} {vs : List (Nat × Value)} {cs : List (Nat × List Value)} {pl : List (Nat × Nat)} {zs res : List Value} (hb : structO P t = some (pl, zs))
    (hp : parts.toList.map (fun p => (p.1, ρ p.2)) = vs) (hc : (vs.map fun p => (p.1, p.2.cells.toList)) = cs) (hf : fillL pl zs cs = some res) : Pu P ρ ⟨dst, .build t parts, ty, pos, af, g⟩ (.agg res.toArray) := fun w => by
  subst hc
  have h1 := built_of hb hf
  have h2 : (parts.map fun (x : Nat × Operand) => match x with | (i, x) => (i, ρ x)).toList = vs := by rw [← hp]; simp
  have := run_build w t (parts.map fun (x : Nat × Operand) => match x with | (i, x) => (i, ρ x)) res.toArray (by rw [h2]; exact h1)
  simp only [execOp, Sem.run_bind, this, Result.andThen_ok]
  rfl

/-! ### loads -/
def plainB (P : Program) (t : Nat) : Bool := match P.underlying t with
  | some (.struct _) | some (.array _ _) | none => false
  | some _ => true
theorem run_isAgg {t : Nat} (ht : plainB P t = true) (w : World) : (isAgg t).run P w = .ok false w := by
  unfold plainB at ht
  cases hu : P.underlying t with
  | none => rw [hu] at ht; cases ht
  | some d =>
    rw [hu] at ht
    simp only [isAgg, Sem.run_bind, run_underlying hu, Result.andThen_ok]
    cases d <;> simp_all
theorem rd_load {t : Nat} {x : Operand} {p : Addr} {v : Value} (ht : plainB P t = true) (hx : ρ x = .pointer (some p)) (hc : w.cell? p = some v) : Rd P ρ w ⟨dst, .load t x, ty, pos, af, g⟩ v := by
  unfold Rd
  simp [execOp, hx, Instr.loadAt, Instr.sureAddr, loadVar, run_isAgg ht, hc]
def aggB (P : Program) (t n : Nat) : Bool := sizeB P t n && match P.underlying t with
  | some (.struct _) | some (.array _ _) => true
  | _ => false
theorem sizeB_run {t n : Nat} (h : sizeB P t n = true) (w : World) : (sizeOf t).run P w = .ok n w := by
  unfold sizeB at h
  split at h
  · rename_i i hi
    simp at h
    simp [sizeOf, typeInfo, hi, h]
  · cases h
theorem aggB_run {t n : Nat} (h : aggB P t n = true) (w : World) : (isAgg t).run P w = .ok true w := by
  unfold aggB at h
  simp only [Bool.and_eq_true] at h
  obtain ⟨_, h⟩ := h
  split at h
  · rename_i fs hu; simp only [isAgg, Sem.run_bind, run_underlying hu, Result.andThen_ok]; rfl
  · rename_i fs hu; simp only [isAgg, Sem.run_bind, run_underlying hu, Result.andThen_ok]; rfl
  · cases h
theorem addr_add (b o j : Nat) : (⟨b, o, none⟩ : Addr).add j = ⟨b, o + j, none⟩ := by
  unfold Addr.add
  split
  · subst_vars; rfl
  · rfl
theorem rd_loadN {t n b o : Nat} {x : Operand} {vs : List Value} (ht : aggB P t n = true) (hx : ρ x = .pointer (some ⟨b, o, none⟩)) (hl : vs.length = n) (hc : ∀ j v, vs[j]? = some v → w.cell? ⟨b, o + j, none⟩ = some v) :
    Rd P ρ w ⟨dst, .load t x, ty, pos, af, g⟩ (.agg vs.toArray) := by
  have hz : sizeB P t n = true := by simp only [aggB, Bool.and_eq_true] at ht; exact ht.1
  have := run_loadCells_list (P := P) (w := w) ⟨b, o, none⟩ vs (fun j v h => by rw [addr_add]; exact hc j v h)
  unfold Rd
  subst hl
  simp [execOp, hx, Instr.loadAt, Instr.sureAddr, loadVar, aggB_run ht, sizeB_run hz, this]

/-! ### new memory -/
def zeroO (P : Program) (t : Nat) : Option Value := (P.info? t).bind (·.zero)
theorem zeroO_run {t : Nat} {z : Value} (h : zeroO P t = some z) (w : World) : (zeroValue t).run P w = .ok z w := by
  unfold zeroO at h
  cases hi : P.info? t with
  | none => rw [hi] at h; cases h
  | some i =>
    rw [hi] at h
    have h' : i.zero = some z := h
    simp [zeroValue, typeInfo, hi, h']
theorem ef_alloc {t : Nat} {z : Value} {cs : Array Value} (hz : zeroO P t = some z) (hc : z.cells = cs) : (execOp ρ ⟨dst, .alloc t, ty, pos, af, g⟩).run P w = .ok (.value (.pointer (some ⟨w.heap.size, 0, none⟩))) (w.alloc (.cells cs t)) := by
  subst hc
  simp [execOp, Instr.alloc, zeroO_run hz, newVar, newRow]
theorem ef_box {t : Nat} {x : Operand} {v : Value} {cs : Array Value} (hx : ρ x = v) (hc : v.cells = cs) : (execOp ρ ⟨dst, .box t x, ty, pos, af, g⟩).run P w = .ok (.value (.pointer (some ⟨w.heap.size, 0, none⟩))) (w.alloc (.cells cs t)) := by
  subst hc; subst hx
  simp [execOp, Instr.box, newVar, newRow]
theorem ef_map {t : Nat} : (execOp ρ ⟨dst, .makeMap t none, ty, pos, af, g⟩).run P w = .ok (.value (.map (some w.heap.size))) (w.alloc (.map #[] 0)) := by
  simp [execOp, Instr.makeMap]

/-! ### stores -/
theorem sat_setRow {i b : Nat} {cs cs' : Array Value} {t : TypeId} {fz : Nat × Nat} (h : Sat w0 w C) (hi : nth C i = some (.obj b (.cells cs t fz))) : Sat w0 (w.setRow b cs') (upd C i (.obj b (.cells cs' t fz))) :=
  (Sat.set (w' := w.setRow b cs') (h.front i hi) rfl rfl rfl (by simp) (setRow_heap w b cs cs' t fz (h.obj_at hi)) (fun k hk => setRow_other w b k cs' hk)).back hi
theorem sat_frozen {i b off : Nat} {cs : Array Value} {t : TypeId} (h : Sat w0 w C) (hi : nth C i = some (.obj b (.cells cs t (0, 0)))) : w.frozen? ⟨b, off, none⟩ = false := by
  simp [World.frozen?, h.obj_at hi]
def storeA (cs : Array Value) (off : Nat) (vs : List Value) : Array Value := (putL cs.toList off vs).toArray
theorem run_store_row {t b off : Nat} {x y : Operand} {cs : Array Value} {e : TypeId} {v : Value} {vs : List Value} (hx : ρ x = .pointer (some ⟨b, off, none⟩)) (hy : ρ y = v) (hv : v.cells.toList = vs) (hz : sizeB P t vs.length = true)
    (h1 : ∀ u ∈ vs, u.oneCell' = true) (hw : w.heap[b]? = some (.cells cs e (0, 0))) (hfit : off + vs.length ≤ cs.size) :
    (execOp ρ ⟨dst, .store t x y, ty, pos, af, g⟩).run P w = .ok .skip (w.setRow b (storeA cs off vs)) := by
  have h2 := run_storeCells_at P b off e vs 0 cs w hw (by simpa using hfit) h1
  simp only [Nat.add_zero] at h2
  have h3 : v.cells.size = vs.length := by rw [← hv]; simp
  simp [execOp, hx, hy, Instr.storeAt, Instr.sureAddr, storeVar, sizeB_run hz, h3, hv, h2, storeA, putL]
end ops

/-! ### the steps of a region in the order of its text -/
def wantedB (ops : Array Oper) (L : List (Nat × Value)) (o : Oper) : Option Bool := match o.guard with
  | none => some true
  | some (j, want) => match (ops[j]?).bind (·.dst) with
    | some t => match look L t with
      | some (.bool b) => some (b == want)
      | some (.tuple _) => some false
      | _ => none
    | none => none

section steps
variable {P : Program} {ops : Array Oper} {Q : Exit → Act → World → Prop} {rest : List Oper} {o : Oper} {a : Act} {w w' : World} {n : Shape} {d : Nat} {L : List (Nat × Value)} {v : Value}

theorem wanted_of {b : Bool} (hF : Fr a n L) (h : wantedB ops L o = some b) : Region.wanted o (yielded ops a.tmps) = b := by
  unfold wantedB at h
  unfold Region.wanted
  cases hg : o.guard with
  | none => rw [hg] at h; simpa using h
  | some jw =>
    obtain ⟨j, want⟩ := jw
    rw [hg] at h
    simp only at h ⊢
    cases hd : (ops[j]?).bind (·.dst) with
    | none => rw [hd] at h; cases h
    | some t =>
      rw [hd] at h
      simp only at h
      cases hl : look L t with
      | none => rw [hl] at h; cases h
      | some u =>
        rw [hl] at h
        cases u with
        | bool c =>
          simp only [Option.some.injEq] at h
          have hv := hF.get t _ hl
          have ht : a.tmps[t]? = some (.bool c) := by
            rw [Array.getD_eq_getD_getElem?] at hv
            cases hq : a.tmps[t]? with
            | none => rw [hq] at hv; simp [undef] at hv
            | some q => rw [hq] at hv; simpa using hv
          unfold yielded
          rw [hd]
          simp only [Option.bind_some, ht]
          rw [← h]
          cases c <;> cases want <;> rfl
        | tuple c =>
          simp only [Option.some.injEq] at h
          have hv := hF.get t _ hl
          have ht : a.tmps[t]? = some (.tuple c) ∨ a.tmps[t]? = none := by
            rw [Array.getD_eq_getD_getElem?] at hv
            cases hq : a.tmps[t]? with
            | none => exact .inr rfl
            | some q => rw [hq] at hv; left; simpa using hv
          unfold yielded
          rw [hd]
          rcases ht with ht | ht <;> simp only [Option.bind_some, ht] <;> rw [← h] <;> rfl
        | _ => cases h

theorem s_pu (hF : Fr a n L) (hg : wantedB ops L o = some true) (hd : o.dst = some d) (hn : Nat.blt d n.size = true) (h : Pu P a.eval o v) (k : ∀ a', Fr a' n ((d, v) :: L) → wpList P ops Q rest a' w) : wpList P ops Q (o :: rest) a w :=
  wpList_step fun K hK => by
    rw [wanted_of hF hg, if_pos rfl]
    unfold Oper.wp
    rw [h w, Oper.upon_value, hd]
    exact hK _ _ (k _ (hF.put hn v))
theorem s_rd (hF : Fr a n L) (hg : wantedB ops L o = some true) (hd : o.dst = some d) (hn : Nat.blt d n.size = true) (h : Rd P a.eval w o v) (k : ∀ a', Fr a' n ((d, v) :: L) → wpList P ops Q rest a' w) : wpList P ops Q (o :: rest) a w :=
  wpList_step fun K hK => by
    rw [wanted_of hF hg, if_pos rfl]
    unfold Oper.wp
    rw [h, Oper.upon_value, hd]
    exact hK _ _ (k _ (hF.put hn v))
/-- A value, and another world. -/
theorem s_ev (hF : Fr a n L) (hg : wantedB ops L o = some true) (hd : o.dst = some d) (hn : Nat.blt d n.size = true) (h : (execOp a.eval o).run P w = .ok (.value v) w') (k : ∀ a', Fr a' n ((d, v) :: L) → wpList P ops Q rest a' w') : wpList P ops Q (o :: rest) a w :=
  wpList_step fun K hK => by
    rw [wanted_of hF hg, if_pos rfl]
    unfold Oper.wp
    rw [h, Oper.upon_value, hd]
    exact hK _ _ (k _ (hF.put hn v))
theorem s_ev0 (hF : Fr a n L) (hg : wantedB ops L o = some true) (hd : o.dst = none) (h : (execOp a.eval o).run P w = .ok (.value v) w') (k : wpList P ops Q rest a w') : wpList P ops Q (o :: rest) a w :=
  wpList_step fun K hK => by
    rw [wanted_of hF hg, if_pos rfl]
    unfold Oper.wp
    rw [h, Oper.upon_value, hd]
    exact hK _ _ k
theorem s_sk (hF : Fr a n L) (hg : wantedB ops L o = some true) (hd : o.dst = none) (h : (execOp a.eval o).run P w = .ok .skip w') (k : wpList P ops Q rest a w') : wpList P ops Q (o :: rest) a w :=
  wpList_step fun K hK => by
    rw [wanted_of hF hg, if_pos rfl]
    unfold Oper.wp
    rw [h, Oper.upon_skip, hd]
    exact hK _ _ k
/-- A call. -/
theorem s_en {f : FuncId} {args : Array Value} {R : Ending → World → Prop} (hF : Fr a n L) (hg : wantedB ops L o = some true) (hd : o.dst = some d) (hn : Nat.blt d n.size = true) (h : (execOp a.eval o).run P w = .ok (.enter f args) w)
    (hc : Calls P f args w R) (k : ∀ e w', R e w' → ∃ v, e = .returned v ∧ ∀ a', Fr a' n ((d, v) :: L) → wpList P ops Q rest a' w') : wpList P ops Q (o :: rest) a w :=
  wpList_step fun K hK => by
    rw [wanted_of hF hg, if_pos rfl]
    unfold Oper.wp
    rw [h, Oper.upon_enter, hd]
    refine hc.mono fun e w' hR => ?_
    obtain ⟨v, rfl, k'⟩ := k e w' hR
    exact hK _ _ (k' _ (hF.put hn v))
theorem s_en0 {f : FuncId} {args : Array Value} {R : Ending → World → Prop} (hF : Fr a n L) (hg : wantedB ops L o = some true) (hd : o.dst = none) (h : (execOp a.eval o).run P w = .ok (.enter f args) w)
    (hc : Calls P f args w R) (k : ∀ e w', R e w' → ∃ v, e = .returned v ∧ wpList P ops Q rest a w') : wpList P ops Q (o :: rest) a w :=
  wpList_step fun K hK => by
    rw [wanted_of hF hg, if_pos rfl]
    unfold Oper.wp
    rw [h, Oper.upon_enter, hd]
    refine hc.mono fun e w' hR => ?_
    obtain ⟨v, rfl, k'⟩ := k e w' hR
    exact hK _ _ k'
/-- Passed by: its guard says no. -/
theorem s_no (hF : Fr a n L) (hg : wantedB ops L o = some false) (hd : o.dst = some d) (hn : Nat.blt d n.size = true) (k : ∀ a', Fr a' n ((d, undef) :: L) → wpList P ops Q rest a' w) : wpList P ops Q (o :: rest) a w :=
  wpList_step fun K hK => by
    rw [wanted_of hF hg, if_neg (by simp), hd]
    exact hK _ _ (k _ (hF.put hn _))
theorem s_no0 (hF : Fr a n L) (hg : wantedB ops L o = some false) (hd : o.dst = none) (k : wpList P ops Q rest a w) : wpList P ops Q (o :: rest) a w :=
  wpList_step fun K hK => by
    rw [wanted_of hF hg, if_neg (by simp), hd]
    exact hK _ _ k
/-- The value of a truth is looked at: slot t. -/
theorem fr_bool {t : Nat} {b c : Bool} (hF : Fr a n L) (hl : look L t = some (.bool b)) (h : b = c) : Fr a n ((t, .bool c) :: L) := by
  subst h
  refine ⟨hF.size, hF.defers, fun s u hu => ?_⟩
  by_cases e : t = s
  · subst e
    rw [look_cons_eq] at hu
    exact hF.get _ _ (hl.trans hu)
  · rw [look_cons_ne e] at hu
    exact hF.get _ _ hu
theorem s_done (h : Q .normal a w) : wpList P ops Q [] a w := h

theorem run_call {f : FuncId} {fn : Func} {ρ : Operand → Value} {xs : Array Operand} {ts : Array TypeId} {vs : List Value} {x : Operand} {caps : Array Value} {dst : Option Tmp} {ty : TypeId} {pos : String} {af : Array Edge} {g : Option (Nat × Bool)}
    (hf : P.funcs[f]? = some fn) (hb : fn.body.isNone = false) (hm : (fn.name == "runtime.NumGoroutine") = false) (hx : ρ x = .func (.func f) #[] caps) (hv : xs.toList.map ρ = vs) :
    (execOp ρ ⟨dst, .call { callee := .value x, args := xs, argTypes := ts }, ty, pos, af, g⟩).run P w = .ok (.enter f (vs.toArray ++ caps)) w := by
  have hv' : xs.map ρ = vs.toArray := by apply Array.ext'; simpa using hv
  simp only [execOp, resolve, hx, Deferred.ofValue, Sem.run_bind, hv', Array.empty_append]
  have e : (program).run P w = .ok P w := rfl
  simp only [Sem.run_pure, Result.andThen_ok, invoke, callFunc, Sem.run_bind, e, hf, hm, hb, Bool.false_eq_true, if_false]
/-- A function with a body. -/
def FnB (P : Program) (f : FuncId) : Prop := ∃ fn, P.funcs[f]? = some fn ∧ fn.body.isNone = false ∧ (fn.name == "runtime.NumGoroutine") = false
theorem run_fn {f : FuncId} {ρ : Operand → Value} {xs : Array Operand} {ts : Array TypeId} {vs : List Value} {x : Operand} {caps : Array Value} {dst : Option Tmp} {ty : TypeId} {pos : String} {af : Array Edge} {g : Option (Nat × Bool)}
    (hf : FnB P f) (hx : ρ x = .func (.func f) #[] caps) (hv : xs.toList.map ρ = vs) :
    (execOp ρ ⟨dst, .call { callee := .value x, args := xs, argTypes := ts }, ty, pos, af, g⟩).run P w = .ok (.enter f (vs ++ caps.toList).toArray) w := by
  obtain ⟨_, h1, h2, h3⟩ := hf
  have e : vs.toArray ++ caps = (vs ++ caps.toList).toArray := by apply Array.ext'; simp
  rw [← e]
  exact run_call h1 h2 h3 hx hv
end steps

/-! ### a region that draws its order: its operations in an order of ours -/
inductive How where
  | pu | tk | on | ls | fk
  deriving DecidableEq
def lst (n : Nat) (ord : List (Nat × How)) (i : Nat) : Array Bool := (ord.take i).foldl (fun acc p => acc.setIfInBounds p.1 true) (Array.replicate n false)
def chk1 (ops : Array Oper) (ds : List Nat) (l l' : Array Bool) : Nat × How → Bool
  | (j, .pu) => anyB .any ops l l' j
  | (j, .tk) => takeB .any ops ds l l' j
  | (j, .on) => readyB .any ops l l' j && !ds.contains j
  | (j, .ls) => readyB .any ops l l' j && ds.contains j
  | (j, .fk) => l.setIfInBounds j true == l'
def chk (ops : Array Oper) (ds : List Nat) (ord : List (Nat × How)) : Bool :=
  (ord.length == ops.size) && ((List.range ord.length).all fun i => match ord[i]? with | some p => chk1 ops ds (lst ops.size ord i) (lst ops.size ord (i + 1)) p | none => false) && (Region.ready .any ops (lst ops.size ord ops.size) == [])

structure Drawn (P : Program) (ops : Array Oper) (Q : Exit → Act → World → Prop) (S : World → Prop) (ds : List Nat) (ord : List (Nat × How)) : Prop where
  ok : chk ops ds ord = true
  quit : ∀ c d v a w, Q (.panic c) (a.put d v) w → Q (.panic c) a w
def wpD (P : Program) (ops : Array Oper) (Q : Exit → Act → World → Prop) (S : World → Prop) (ds : List Nat) (ord : List (Nat × How)) (i : Nat) (a : Act) (w : World) : Prop :=
  wpAnyLast P .any ops Q S ds (ops.size - i) (lst ops.size ord i) a w

section drawn
variable {P : Program} {ops : Array Oper} {Q : Exit → Act → World → Prop} {S : World → Prop} {ds : List Nat} {ord : List (Nat × How)} {i j : Nat} {o : Oper} {a : Act} {w w' : World} {n : Shape} {d : Nat} {L : List (Nat × Value)} {v : Value}

theorem chk_at {p : Nat × How} (h : chk ops ds ord = true) (hp : ord[i]? = some p) : chk1 ops ds (lst ops.size ord i) (lst ops.size ord (i + 1)) p = true ∧ i < ops.size := by
  simp only [chk, Bool.and_eq_true, beq_iff_eq] at h
  have hi : i < ord.length := (List.getElem?_eq_some_iff.1 hp).1
  have := List.all_eq_true.1 h.1.2 i (List.mem_range.2 hi)
  rw [hp] at this
  exact ⟨this, by rw [← h.1.1]; exact hi⟩

theorem d_start {id : Nat} (hm : P.follows .mixedOrders = true) (hD : Drawn P ops Q S ds ord) (hS : S w.drew) (k : Drawn P ops Q S ds ord → wpD P ops Q S ds ord 0 a w.drew) : (Code.region id ops true).wp P Q a w :=
  start_ (n := ops.size) (lst ops.size ord 0) hm rfl (by simp [lst]) hS (fun _ => by simpa [wpD] using k hD)
theorem d_pu (hD : Drawn P ops Q S ds ord) (hF : Fr a n L) (hp : ord[i]? = some (j, .pu)) (ho : ops[j]? = some o) (hg : wantedB ops L o = some true) (hd : o.dst = some d) (hn : Nat.blt d n.size = true) (h : Pu P a.eval o v)
    (k : ∀ a', Fr a' n ((d, v) :: L) → wpD P ops Q S ds ord (i + 1) a' w) : wpD P ops Q S ds ord i a w := by
  obtain ⟨hc, hi⟩ := chk_at hD.ok hp
  unfold wpD
  rw [show ops.size - i = (ops.size - (i + 1)) + 1 by omega]
  exact pure_ (lst ops.size ord (i + 1)) ho hd hc (fun c a w h => hD.quit c _ _ a w h) (Or.inl ⟨wanted_of hF hg, h⟩) rfl (k _ (hF.put hn v))
/-- Passed by. -/
theorem d_no (hD : Drawn P ops Q S ds ord) (hF : Fr a n L) (hp : ord[i]? = some (j, .pu)) (ho : ops[j]? = some o) (hg : wantedB ops L o = some false) (hd : o.dst = some d) (hn : Nat.blt d n.size = true)
    (k : ∀ a', Fr a' n ((d, undef) :: L) → wpD P ops Q S ds ord (i + 1) a' w) : wpD P ops Q S ds ord i a w := by
  obtain ⟨hc, hi⟩ := chk_at hD.ok hp
  unfold wpD
  rw [show ops.size - i = (ops.size - (i + 1)) + 1 by omega]
  exact pure_ (lst ops.size ord (i + 1)) ho hd hc (fun c a w h => hD.quit c _ _ a w h) (Or.inr ⟨wanted_of hF hg, rfl⟩) rfl (k _ (hF.put hn _))
theorem d_rd (hD : Drawn P ops Q S ds ord) (hF : Fr a n L) (hp : ord[i]? = some (j, .tk)) (ho : ops[j]? = some o) (hg : wantedB ops L o = some true) (hd : o.dst = some d) (hn : Nat.blt d n.size = true) (hS : S w) (h : ∀ w, S w → Rd P a.eval w o v)
    (k : ∀ a', Fr a' n ((d, v) :: L) → wpD P ops Q S ds ord (i + 1) a' w) : wpD P ops Q S ds ord i a w := by
  obtain ⟨hc, hi⟩ := chk_at hD.ok hp
  unfold wpD
  rw [show ops.size - i = (ops.size - (i + 1)) + 1 by omega]
  exact take_ (lst ops.size ord (i + 1)) ho hd hc (fun c a w h => hD.quit c _ _ a w h) (Or.inl ⟨wanted_of hF hg, h⟩) hS rfl (k _ (hF.put hn v))
/-- Passed by (an operation that would read). -/
theorem d_nord (hD : Drawn P ops Q S ds ord) (hF : Fr a n L) (hp : ord[i]? = some (j, .tk)) (ho : ops[j]? = some o) (hg : wantedB ops L o = some false) (hd : o.dst = some d) (hn : Nat.blt d n.size = true) (hS : S w)
    (k : ∀ a', Fr a' n ((d, undef) :: L) → wpD P ops Q S ds ord (i + 1) a' w) : wpD P ops Q S ds ord i a w := by
  obtain ⟨hc, hi⟩ := chk_at hD.ok hp
  unfold wpD
  rw [show ops.size - i = (ops.size - (i + 1)) + 1 by omega]
  exact take_ (lst ops.size ord (i + 1)) ho hd hc (fun c a w h => hD.quit c _ _ a w h) (Or.inr ⟨wanted_of hF hg, rfl⟩) hS rfl (k _ (hF.put hn _))
/-- A value and another world, in which S holds still. -/
theorem d_ev (hD : Drawn P ops Q S ds ord) (hF : Fr a n L) (hp : ord[i]? = some (j, .on)) (ho : ops[j]? = some o) (hg : wantedB ops L o = some true) (hd : o.dst = some d) (hn : Nat.blt d n.size = true) (h : (execOp a.eval o).run P w = .ok (.value v) w')
    (hS : S w') (k : ∀ a', Fr a' n ((d, v) :: L) → wpD P ops Q S ds ord (i + 1) a' w') : wpD P ops Q S ds ord i a w := by
  obtain ⟨hc, hi⟩ := chk_at hD.ok hp
  simp only [chk1, Bool.and_eq_true] at hc
  unfold wpD
  rw [show ops.size - i = (ops.size - (i + 1)) + 1 by omega]
  refine one_ (lst ops.size ord (i + 1)) ho hd hc.1 (by simpa using hc.2) fun K hK => ?_
  rw [wanted_of hF hg, if_pos rfl]
  unfold Oper.wp
  rw [h, Oper.upon_value, hd]
  exact hK _ _ hS fun _ => k _ (hF.put hn v)
theorem d_sk (hD : Drawn P ops Q S ds ord) (hF : Fr a n L) (hp : ord[i]? = some (j, .on)) (ho : ops[j]? = some o) (hg : wantedB ops L o = some true) (hd : o.dst = none) (h : (execOp a.eval o).run P w = .ok .skip w')
    (hS : S w') (k : wpD P ops Q S ds ord (i + 1) a w') : wpD P ops Q S ds ord i a w := by
  obtain ⟨hc, hi⟩ := chk_at hD.ok hp
  simp only [chk1, Bool.and_eq_true] at hc
  unfold wpD
  rw [show ops.size - i = (ops.size - (i + 1)) + 1 by omega]
  refine one_ (lst ops.size ord (i + 1)) ho hd hc.1 (by simpa using hc.2) fun K hK => ?_
  rw [wanted_of hF hg, if_pos rfl]
  unfold Oper.wp
  rw [h, Oper.upon_skip, hd]
  exact hK _ _ hS fun _ => k
theorem d_en {f : FuncId} {args : Array Value} {R : Ending → World → Prop} (hD : Drawn P ops Q S ds ord) (hF : Fr a n L) (hp : ord[i]? = some (j, .on)) (ho : ops[j]? = some o) (hg : wantedB ops L o = some true) (hd : o.dst = some d) (hn : Nat.blt d n.size = true)
    (h : (execOp a.eval o).run P w = .ok (.enter f args) w) (hc : Calls P f args w R) (k : ∀ e w', R e w' → ∃ v, e = .returned v ∧ S w' ∧ ∀ a', Fr a' n ((d, v) :: L) → wpD P ops Q S ds ord (i + 1) a' w') : wpD P ops Q S ds ord i a w := by
  obtain ⟨hk, hi⟩ := chk_at hD.ok hp
  simp only [chk1, Bool.and_eq_true] at hk
  unfold wpD
  rw [show ops.size - i = (ops.size - (i + 1)) + 1 by omega]
  refine one_ (lst ops.size ord (i + 1)) ho hd hk.1 (by simpa using hk.2) fun K hK => ?_
  rw [wanted_of hF hg, if_pos rfl]
  unfold Oper.wp
  rw [h, Oper.upon_enter, hd]
  refine hc.mono fun e w' hR => ?_
  obtain ⟨v, rfl, hS, k'⟩ := k e w' hR
  exact hK _ _ hS fun _ => k' _ (hF.put hn v)
/-- The last ones: S is shown no more. -/
theorem l_ev (hD : Drawn P ops Q S ds ord) (hF : Fr a n L) (hp : ord[i]? = some (j, .ls)) (ho : ops[j]? = some o) (hg : wantedB ops L o = some true) (hd : o.dst = some d) (hn : Nat.blt d n.size = true) (h : (execOp a.eval o).run P w = .ok (.value v) w')
    (k : ∀ a', Fr a' n ((d, v) :: L) → wpD P ops Q S ds ord (i + 1) a' w') : wpD P ops Q S ds ord i a w := by
  obtain ⟨hc, hi⟩ := chk_at hD.ok hp
  simp only [chk1, Bool.and_eq_true] at hc
  unfold wpD
  rw [show ops.size - i = (ops.size - (i + 1)) + 1 by omega]
  refine last_ (lst ops.size ord (i + 1)) ho hd hc.1 (by simpa using hc.2) fun K hK => ?_
  rw [wanted_of hF hg, if_pos rfl]
  unfold Oper.wp
  rw [h, Oper.upon_value, hd]
  exact hK _ _ (k _ (hF.put hn v))
theorem l_ev0 (hD : Drawn P ops Q S ds ord) (hF : Fr a n L) (hp : ord[i]? = some (j, .ls)) (ho : ops[j]? = some o) (hg : wantedB ops L o = some true) (hd : o.dst = none) (h : (execOp a.eval o).run P w = .ok (.value v) w')
    (k : wpD P ops Q S ds ord (i + 1) a w') : wpD P ops Q S ds ord i a w := by
  obtain ⟨hc, hi⟩ := chk_at hD.ok hp
  simp only [chk1, Bool.and_eq_true] at hc
  unfold wpD
  rw [show ops.size - i = (ops.size - (i + 1)) + 1 by omega]
  refine last_ (lst ops.size ord (i + 1)) ho hd hc.1 (by simpa using hc.2) fun K hK => ?_
  rw [wanted_of hF hg, if_pos rfl]
  unfold Oper.wp
  rw [h, Oper.upon_value, hd]
  exact hK _ _ k
theorem l_sk (hD : Drawn P ops Q S ds ord) (hF : Fr a n L) (hp : ord[i]? = some (j, .ls)) (ho : ops[j]? = some o) (hg : wantedB ops L o = some true) (hd : o.dst = none) (h : (execOp a.eval o).run P w = .ok .skip w')
    (k : wpD P ops Q S ds ord (i + 1) a w') : wpD P ops Q S ds ord i a w := by
  obtain ⟨hc, hi⟩ := chk_at hD.ok hp
  simp only [chk1, Bool.and_eq_true] at hc
  unfold wpD
  rw [show ops.size - i = (ops.size - (i + 1)) + 1 by omega]
  refine last_ (lst ops.size ord (i + 1)) ho hd hc.1 (by simpa using hc.2) fun K hK => ?_
  rw [wanted_of hF hg, if_pos rfl]
  unfold Oper.wp
  rw [h, Oper.upon_skip, hd]
  exact hK _ _ k
theorem l_en {f : FuncId} {args : Array Value} {R : Ending → World → Prop} (hD : Drawn P ops Q S ds ord) (hF : Fr a n L) (hp : ord[i]? = some (j, .ls)) (ho : ops[j]? = some o) (hg : wantedB ops L o = some true) (hd : o.dst = some d) (hn : Nat.blt d n.size = true)
    (h : (execOp a.eval o).run P w = .ok (.enter f args) w) (hc : Calls P f args w R) (k : ∀ e w', R e w' → ∃ v, e = .returned v ∧ ∀ a', Fr a' n ((d, v) :: L) → wpD P ops Q S ds ord (i + 1) a' w') : wpD P ops Q S ds ord i a w := by
  obtain ⟨hk, hi⟩ := chk_at hD.ok hp
  simp only [chk1, Bool.and_eq_true] at hk
  unfold wpD
  rw [show ops.size - i = (ops.size - (i + 1)) + 1 by omega]
  refine last_ (lst ops.size ord (i + 1)) ho hd hk.1 (by simpa using hk.2) fun K hK => ?_
  rw [wanted_of hF hg, if_pos rfl]
  unfold Oper.wp
  rw [h, Oper.upon_enter, hd]
  refine hc.mono fun e w' hR => ?_
  obtain ⟨v, rfl, k'⟩ := k e w' hR
  exact hK _ _ (k' _ (hF.put hn v))
theorem d_done (hD : Drawn P ops Q S ds ord) (hi : ops.size = i) (h : Q .normal a w) : wpD P ops Q S ds ord i a w := by
  subst hi
  have := hD.ok
  simp only [chk, Bool.and_eq_true] at this
  exact done_ this.2 h
end drawn

/-! ### ways in, ways out, rounds -/
section ways
variable {P : Program} {f : FuncId} {fn : Func} {c : Code} {args : Array Value} {w : World} {R : Ending → World → Prop} {n : Shape} {a : Act} {L : List (Nat × Value)} {Q : Exit → Act → World → Prop}

theorem enter {n : Nat} (hf : P.funcs[f]? = some fn) (hb : fn.body = some c) (hn : fn.ntmps = n) (hs : args.size ≤ n) (h : ∀ a, Fr a ⟨n, []⟩ (enumL 0 args.toList) → c.wp P (bodyPost P fn R) a w) : Calls P f args w R :=
  calls_of_wp hf hb (h _ (by subst hn; exact fr_start hs))
theorem fin0 (hr : fn.results = #[]) (hF : Fr a n L) (hR : R (.returned (.tuple #[])) w) (hm : n.marks = [] := by rfl) : bodyPost P fn R .normal a w := bodyPost_end (results_none hr _ _ _) (hF.done hm) hR
theorem fin0r (hr : fn.results = #[]) (hF : Fr a n L) (hR : R (.returned (.tuple #[])) w) (hm : n.marks = [] := by rfl) : bodyPost P fn R .ret a w := bodyPost_ret (results_none hr _ _ _) (hF.done hm) hR
theorem fin1 {t : Nat} {v : Value} (hr : fn.results = #[.tmp t]) (hF : Fr a n L) (hv : look L t = some v) (hR : R (.returned v) w) (hm : n.marks = [] := by rfl) : bodyPost P fn R .ret a w :=
  bodyPost_ret (results_tmp hr _ _ _) (hF.done hm) (by rw [hF.get _ _ hv]; exact hR)
theorem fin2 {t s : Nat} {u v : Value} (hr : fn.results = #[.tmp t, .tmp s]) (hF : Fr a n L) (hu : look L t = some u) (hv : look L s = some v) (hR : R (.returned (.tuple #[u, v])) w) (hm : n.marks = [] := by rfl) : bodyPost P fn R .ret a w :=
  bodyPost_ret (results_tmp2 hr _ _ _) (hF.done hm) (by rw [hF.get _ _ hv, hF.get _ _ hu]; exact hR)
theorem fin3 {t s r : Nat} {u v x : Value} (hr : fn.results = #[.tmp t, .tmp s, .tmp r]) (hF : Fr a n L) (hu : look L t = some u) (hv : look L s = some v) (hx : look L r = some x) (hR : R (.returned (.tuple #[u, v, x])) w) (hm : n.marks = [] := by rfl) : bodyPost P fn R .ret a w :=
  bodyPost_ret (v := .tuple #[u, v, x]) (by
    have h1 := hF.get _ _ hu
    have h2 := hF.get _ _ hv
    have h3 := hF.get _ _ hx
    simp only [Array.getD_eq_getD_getElem?] at h1 h2 h3
    simp [results, hr, h1, h2, h3]) (hF.done hm) hR

theorem least {p : Nat → Prop} (h : ∃ k, p k) : ∃ k, p k ∧ ∀ j, p j → k ≤ j := by
  obtain ⟨k, hk⟩ := h
  induction k using Nat.strongRecOn with
  | _ k ih =>
    by_cases h : ∃ j, j < k ∧ p j
    · obtain ⟨j, hj, hp⟩ := h
      exact ih j hj hp
    · exact ⟨k, hk, fun j hj => Nat.le_of_not_lt fun hlt => h ⟨j, hlt, hj⟩⟩
theorem wp_ind (I : Nat → Act → World → Prop) (k0 : Nat) (h0 : I k0 a w) (hs : ∀ k a w, I k a w → c.wp P (Exit.then (fun a' w' => ∃ k', k' < k ∧ I k' a' w') Q) a w) : (Code.loop c).wp P Q a w := by
  classical
  refine wp_loop (fun a w => ∃ k, I k a w) (fun a w => if h : ∃ k, I k a w then Classical.choose (least h) else 0) ⟨k0, h0⟩ fun a w hI => ?_
  have hk := Classical.choose_spec (least hI)
  refine wp_mono (hs _ a w hk.1) fun e a' w' hq => ?_
  cases e with
  | normal =>
    obtain ⟨k', hlt, hI'⟩ := hq
    refine ⟨⟨k', hI'⟩, ?_⟩
    rw [dif_pos ⟨k', hI'⟩, dif_pos hI]
    exact Nat.lt_of_le_of_lt ((Classical.choose_spec (least ⟨k', hI'⟩)).2 k' hI') hlt
  | _ => exact hq
end ways
end Go.Proofs.Ytbpkfifiigpdcaa.Sk
