import Derived.Test.YtbpkfifiigpdcaaSk5
/-! Sk, part six: steps that change the heap, with what the heap holds told again behind them. -/
namespace Go.Proofs.Ytbpkfifiigpdcaa.Sk
open Go Go.RowKit
set_option linter.unusedVariables false
set_option linter.unusedSimpArgs false

section lit
variable {P : Program} {ρ : Operand → Value} {dst : Option Tmp} {ty : TypeId} {pos : String} {af : Array Edge} {gd : Option (Nat × Bool)} {w : World} {E sz : Nat}
/-- A slice literal of one element. -/
theorem ef_lit1 {t : Nat} {x : Operand} {v z : Value} {cs : List Value} (ht : sliceB P t E sz = true) (hz : zeroO P E = some z) (hzs : z.cells.size = sz) (hx : ρ x = v) (hv : v.cells.toList = cs) (hs : cs.length = sz) (h0 : 0 < sz) (hle : sz ≤ 16777216) :
    (execOp ρ ⟨dst, .buildSlice t 1 #[(0, x)], ty, pos, af, gd⟩).run P w = .ok (.value (.slice (some ⟨w.heap.size, 0, none⟩) 1 1)) (w.alloc (.cells cs.toArray E)) := by
  refine ef_lit (vs := [(0, v)]) (res := cs) ht hz (by simp [hx]) (by omega) (by omega) ?_ (by simp)
  have e : ((List.range 1).map fun i => (i * sz, sz))[0]? = some (0, sz) := by simp
  simp only [List.map_cons, List.map_nil, hv, fillL, e]
  have h2 : (cs.length == sz) = true := by simp [hs]
  have h3 : Nat.ble (0 + cs.length) ((List.range (1 * sz)).map fun i => z.cells[i % z.cells.size]!).length = true := by
    simp [hs]
  simp only [h2, h3, Bool.and_self, cond_true, putL, List.take_zero, List.nil_append, Nat.zero_add]
  rw [List.drop_eq_nil_of_le (by simp; omega)]
  simp
  have h4 : Nat.ble cs.length sz = true := by rw [hs]; exact Nat.ble_eq_true_of_le (Nat.le_refl _)
  simp [h4]
theorem ef_lit0 {t : Nat} (ht : sliceB P t E sz = true) : (execOp ρ ⟨dst, .buildSlice t 0 #[], ty, pos, af, gd⟩).run P w = .ok (.value (.slice (some ⟨w.heap.size, 0, none⟩) 0 0)) (w.alloc (.cells #[] E)) := by
  obtain ⟨hu, i, hi, hs⟩ := sliceB_spec ht
  subst hs
  simp only [execOp, Instr.buildSlice, Sem.run_bind, run_underlying hu, Result.andThen_ok, sizeB_run (show sizeB P E i.size = true by simp [sizeB, hi])]
  simp [Instr.fill, newRow]
  have e : (Array.range 0).map (fun (_ : Nat) => (default : Value)) = #[] := by simp [Array.range]
  rw [e]
end lit

section steps
variable {P : Program} {ops : Array Oper} {Q : Exit → Act → World → Prop} {rest : List Oper} {o : Oper} {a : Act} {w0 w w' : World} {n : Shape} {d : Nat} {L : List (Nat × Value)} {v : Value} {C : List Chunk}
variable {S : World → Prop} {ds : List Nat} {ord : List (Nat × How)} {k j : Nat}

/-! ### new blocks -/
theorem s_newp {ob : Obj} (hF : Fr a n L) (hg : wantedB ops L o = some true) (hd : o.dst = some d) (hn : Nat.blt d n.size = true) (h : (execOp a.eval o).run P w = .ok (.value (.pointer (some ⟨w.heap.size, 0, none⟩))) (w.alloc ob)) (hS : Sat w0 w C)
    (k : ∀ b w', Sat w0 w' (.obj b ob :: C) → ∀ a', Fr a' n ((d, .pointer (some ⟨b, 0, none⟩)) :: L) → wpList P ops Q rest a' w') : wpList P ops Q (o :: rest) a w :=
  s_ev hF hg hd hn h fun a' hF' => k _ _ hS.new a' hF'
theorem s_news {ob : Obj} {l c : Nat} (hF : Fr a n L) (hg : wantedB ops L o = some true) (hd : o.dst = some d) (hn : Nat.blt d n.size = true) (h : (execOp a.eval o).run P w = .ok (.value (.slice (some ⟨w.heap.size, 0, none⟩) l c)) (w.alloc ob)) (hS : Sat w0 w C)
    (k : ∀ b w', Sat w0 w' (.obj b ob :: C) → ∀ a', Fr a' n ((d, .slice (some ⟨b, 0, none⟩) l c) :: L) → wpList P ops Q rest a' w') : wpList P ops Q (o :: rest) a w :=
  s_ev hF hg hd hn h fun a' hF' => k _ _ hS.new a' hF'
theorem s_newm {K V : Type} [DecidableEq K] (κ : K → Value) (ν : V → Value) (hF : Fr a n L) (hg : wantedB ops L o = some true) (hd : o.dst = some d) (hn : Nat.blt d n.size = true) (h : (execOp a.eval o).run P w = .ok (.value (.map (some w.heap.size))) (w.alloc (.map #[] 0))) (hS : Sat w0 w C)
    (k : ∀ b w', Sat w0 w' (mapC κ ν b [] :: C) → ∀ a', Fr a' n ((d, .map (some b)) :: L) → wpList P ops Q rest a' w') : wpList P ops Q (o :: rest) a w :=
  s_ev hF hg hd hn h fun a' hF' => k _ _ (map_new hS) a' hF'
theorem d_newp {i : Nat} {ob : Obj} (hD : Drawn P ops Q S ds ord) (hF : Fr a n L) (hp : ord[i]? = some (j, .on)) (ho : ops[j]? = some o) (hg : wantedB ops L o = some true) (hd : o.dst = some d) (hn : Nat.blt d n.size = true)
    (h : (execOp a.eval o).run P w = .ok (.value (.pointer (some ⟨w.heap.size, 0, none⟩))) (w.alloc ob)) (hS : Sat w0 w C) (hc : ∀ b w', Sat w0 w' (.obj b ob :: C) → S w')
    (k : ∀ b w', Sat w0 w' (.obj b ob :: C) → ∀ a', Fr a' n ((d, .pointer (some ⟨b, 0, none⟩)) :: L) → wpD P ops Q S ds ord (i + 1) a' w') : wpD P ops Q S ds ord i a w :=
  d_ev hD hF hp ho hg hd hn h (hc _ _ hS.new) fun a' hF' => k _ _ hS.new a' hF'
theorem d_news {i : Nat} {ob : Obj} {l c : Nat} (hD : Drawn P ops Q S ds ord) (hF : Fr a n L) (hp : ord[i]? = some (j, .on)) (ho : ops[j]? = some o) (hg : wantedB ops L o = some true) (hd : o.dst = some d) (hn : Nat.blt d n.size = true)
    (h : (execOp a.eval o).run P w = .ok (.value (.slice (some ⟨w.heap.size, 0, none⟩) l c)) (w.alloc ob)) (hS : Sat w0 w C) (hc : ∀ b w', Sat w0 w' (.obj b ob :: C) → S w')
    (k : ∀ b w', Sat w0 w' (.obj b ob :: C) → ∀ a', Fr a' n ((d, .slice (some ⟨b, 0, none⟩) l c) :: L) → wpD P ops Q S ds ord (i + 1) a' w') : wpD P ops Q S ds ord i a w :=
  d_ev hD hF hp ho hg hd hn h (hc _ _ hS.new) fun a' hF' => k _ _ hS.new a' hF'

/-! ### stores into a block that is told -/
theorem store_run {dst : Option Tmp} {ty : TypeId} {pos : String} {af : Array Edge} {gd : Option (Nat × Bool)} {t b off i : Nat} {x y : Operand} {cs : Array Value} {e : TypeId} {vs : List Value} (hx : a.eval x = .pointer (some ⟨b, off, none⟩)) (hy : a.eval y = v) (hv : v.cells.toList = vs) (hz : sizeB P t vs.length = true)
    (h1 : vs.all (fun u => u.oneCell') = true) (hS : Sat w0 w C) (hi : nth C i = some (.obj b (.cells cs e (0, 0)))) (hfit : off + vs.length ≤ cs.size) :
    (execOp a.eval ⟨dst, .store t x y, ty, pos, af, gd⟩).run P w = .ok .skip (w.setRow b (storeA cs off vs)) ∧ Sat w0 (w.setRow b (storeA cs off vs)) (upd C i (.obj b (.cells (storeA cs off vs) e (0, 0)))) :=
  ⟨run_store_row hx hy hv hz (fun u hu => List.all_eq_true.1 h1 u hu) (hS.obj_at hi) hfit, sat_setRow hS hi⟩
theorem s_store {t b off : Nat} {x y : Operand} {ty : TypeId} {pos : String} {af : Array Edge} {gd : Option (Nat × Bool)} (i : Nat) {cs cs' : Array Value} {e : TypeId} {vs : List Value} (hF : Fr a n L) (hg : wantedB ops L ⟨none, .store t x y, ty, pos, af, gd⟩ = some true)
    (hx : a.eval x = .pointer (some ⟨b, off, none⟩)) (hy : a.eval y = v) (hS : Sat w0 w C) (hi : nth C i = some (.obj b (.cells cs e (0, 0)))) (hv : v.cells.toList = vs) (hz : sizeB P t vs.length = true)
    (h1 : vs.all (fun u => u.oneCell') = true) (hfit : off + vs.length ≤ cs.size) (hcs : storeA cs off vs = cs')
    (k : ∀ w', Sat w0 w' (upd C i (.obj b (.cells cs' e (0, 0)))) → wpList P ops Q rest a w') : wpList P ops Q (⟨none, .store t x y, ty, pos, af, gd⟩ :: rest) a w :=
  by
  subst hcs
  exact let ⟨hr, hS'⟩ := store_run hx hy hv hz h1 hS hi hfit
  s_sk hF hg rfl hr (k _ hS')
theorem d_store {p t b off : Nat} {x y : Operand} {ty : TypeId} {pos : String} {af : Array Edge} {gd : Option (Nat × Bool)} (i : Nat) {cs cs' : Array Value} {e : TypeId} {vs : List Value} (hD : Drawn P ops Q S ds ord) (hF : Fr a n L) (hp : ord[p]? = some (j, .on))
    (ho : ops[j]? = some ⟨none, .store t x y, ty, pos, af, gd⟩) (hg : wantedB ops L ⟨none, .store t x y, ty, pos, af, gd⟩ = some true)
    (hx : a.eval x = .pointer (some ⟨b, off, none⟩)) (hy : a.eval y = v) (hS : Sat w0 w C) (hi : nth C i = some (.obj b (.cells cs e (0, 0)))) (hv : v.cells.toList = vs) (hz : sizeB P t vs.length = true)
    (h1 : vs.all (fun u => u.oneCell') = true) (hfit : off + vs.length ≤ cs.size) (hcs : storeA cs off vs = cs') (hc : ∀ w', Sat w0 w' (upd C i (.obj b (.cells cs' e (0, 0)))) → S w')
    (k : ∀ w', Sat w0 w' (upd C i (.obj b (.cells cs' e (0, 0)))) → wpD P ops Q S ds ord (p + 1) a w') : wpD P ops Q S ds ord p a w :=
  by
  subst hcs
  exact let ⟨hr, hS'⟩ := store_run hx hy hv hz h1 hS hi hfit
  d_sk hD hF hp ho hg rfl hr (hc _ hS') (k _ hS')
theorem l_store {p t b off : Nat} {x y : Operand} {ty : TypeId} {pos : String} {af : Array Edge} {gd : Option (Nat × Bool)} (i : Nat) {cs cs' : Array Value} {e : TypeId} {vs : List Value} (hD : Drawn P ops Q S ds ord) (hF : Fr a n L) (hp : ord[p]? = some (j, .ls))
    (ho : ops[j]? = some ⟨none, .store t x y, ty, pos, af, gd⟩) (hg : wantedB ops L ⟨none, .store t x y, ty, pos, af, gd⟩ = some true)
    (hx : a.eval x = .pointer (some ⟨b, off, none⟩)) (hy : a.eval y = v) (hS : Sat w0 w C) (hi : nth C i = some (.obj b (.cells cs e (0, 0)))) (hv : v.cells.toList = vs) (hz : sizeB P t vs.length = true)
    (h1 : vs.all (fun u => u.oneCell') = true) (hfit : off + vs.length ≤ cs.size) (hcs : storeA cs off vs = cs')
    (k : ∀ w', Sat w0 w' (upd C i (.obj b (.cells cs' e (0, 0)))) → wpD P ops Q S ds ord (p + 1) a w') : wpD P ops Q S ds ord p a w :=
  by
  subst hcs
  exact let ⟨hr, hS'⟩ := store_run hx hy hv hz h1 hS hi hfit
  l_sk hD hF hp ho hg rfl hr (k _ hS')

/-! ### append -/
theorem append_run {E sz t by_ nn m c bb i j : Nat} {x y : Operand} {dst : Option Tmp} {ty : TypeId} {pos : String} {af : Array Edge} {gd : Option (Nat × Bool)} {xs news : List Value} (ht : sliceB P t E sz = true) (he : elemB P E sz by_ = true) (hx : a.eval x = v)
    (hy : a.eval y = .slice (some ⟨bb, 0, none⟩) m c) (hS : Sat w0 w C) (hi : nth C i = some (rowC E sz v nn xs)) (hj : nth C j = some (.obj bb (.cells news.toArray E (0, 0)))) (hl : news.length = m * sz) (h1 : news.all (fun u => u.oneCell') = true)
    (h63 : nn + m ≤ maxLen) (hby : (nn + m) * by_ ≤ 140737488355328) :
    ∃ A q w', (execOp a.eval ⟨dst, .call { callee := .builtin .append, args := #[x, y], argTypes := #[t, t] }, ty, pos, af, gd⟩).run P w = .ok (.value (.slice A (nn + m) q)) w' ∧ Sat w0 w' (rowC E sz (.slice A (nn + m) q) (nn + m) (xs ++ news) :: del C i) := by
  obtain ⟨v', w', hr, hS'⟩ := ef_append (dst := dst) (ty := ty) (pos := pos) (af := af) (gd := gd) ht he hx hy (hS.front i hi) hl (fun k u hu => by rw [addr_add]; exact hS.cell hj (by simpa using hu)) (fun u hu => List.all_eq_true.1 h1 u hu) h63 hby
  obtain ⟨A, q, rfl, _⟩ := row_val hS'
  exact ⟨A, q, w', hr, hS'⟩
theorem s_append {E sz t by_ nn m c bb : Nat} (i j : Nat) {x y : Operand} {ty : TypeId} {pos : String} {af : Array Edge} {gd : Option (Nat × Bool)} {xs news : List Value} (hF : Fr a n L)
    (hg : wantedB ops L ⟨some d, .call { callee := .builtin .append, args := #[x, y], argTypes := #[t, t] }, ty, pos, af, gd⟩ = some true) (hn : Nat.blt d n.size = true) (ht : sliceB P t E sz = true) (he : elemB P E sz by_ = true) (hx : a.eval x = v)
    (hy : a.eval y = .slice (some ⟨bb, 0, none⟩) m c) (hS : Sat w0 w C) (hi : nth C i = some (rowC E sz v nn xs)) (hj : nth C j = some (.obj bb (.cells news.toArray E (0, 0)))) (hl : news.length = m * sz) (h1 : news.all (fun u => u.oneCell') = true)
    (h63 : nn + m ≤ maxLen) (hby : (nn + m) * by_ ≤ 140737488355328)
    (k : ∀ A q w', Sat w0 w' (rowC E sz (.slice A (nn + m) q) (nn + m) (xs ++ news) :: del C i) → ∀ a', Fr a' n ((d, .slice A (nn + m) q) :: L) → wpList P ops Q rest a' w') :
    wpList P ops Q (⟨some d, .call { callee := .builtin .append, args := #[x, y], argTypes := #[t, t] }, ty, pos, af, gd⟩ :: rest) a w :=
  let ⟨_, _, _, hr, hS'⟩ := append_run (dst := some d) (ty := ty) (pos := pos) (af := af) (gd := gd) ht he hx hy hS hi hj hl h1 h63 hby
  s_ev hF hg rfl hn hr (k _ _ _ hS')
theorem d_append {p E sz t by_ nn m c bb : Nat} (i jj : Nat) {x y : Operand} {ty : TypeId} {pos : String} {af : Array Edge} {gd : Option (Nat × Bool)} {xs news : List Value} (hD : Drawn P ops Q S ds ord) (hF : Fr a n L) (hp : ord[p]? = some (j, .on))
    (ho : ops[j]? = some ⟨some d, .call { callee := .builtin .append, args := #[x, y], argTypes := #[t, t] }, ty, pos, af, gd⟩)
    (hg : wantedB ops L ⟨some d, .call { callee := .builtin .append, args := #[x, y], argTypes := #[t, t] }, ty, pos, af, gd⟩ = some true) (hn : Nat.blt d n.size = true) (ht : sliceB P t E sz = true) (he : elemB P E sz by_ = true) (hx : a.eval x = v)
    (hy : a.eval y = .slice (some ⟨bb, 0, none⟩) m c) (hS : Sat w0 w C) (hi : nth C i = some (rowC E sz v nn xs)) (hj : nth C jj = some (.obj bb (.cells news.toArray E (0, 0)))) (hl : news.length = m * sz) (h1 : news.all (fun u => u.oneCell') = true)
    (h63 : nn + m ≤ maxLen) (hby : (nn + m) * by_ ≤ 140737488355328) (hc : ∀ v' w', Sat w0 w' (rowC E sz v' (nn + m) (xs ++ news) :: del C i) → S w')
    (k : ∀ A q w', Sat w0 w' (rowC E sz (.slice A (nn + m) q) (nn + m) (xs ++ news) :: del C i) → ∀ a', Fr a' n ((d, .slice A (nn + m) q) :: L) → wpD P ops Q S ds ord (p + 1) a' w') : wpD P ops Q S ds ord p a w :=
  let ⟨_, _, _, hr, hS'⟩ := append_run (dst := some d) (ty := ty) (pos := pos) (af := af) (gd := gd) ht he hx hy hS hi hj hl h1 h63 hby
  d_ev hD hF hp ho hg rfl hn hr (hc _ _ hS') (k _ _ _ hS')

/-! ### maps -/
section maps0
variable {K V : Type} {kt et : TypeId} {κ : K → Value} {ν : V → Value} {b : Nat} {m : List (K × V)} {x : K} {X Y Z : Operand} {t : TypeId} {ty : TypeId} {pos : String} {af : Array Edge} {gd : Option (Nat × Bool)} {dst : Option Tmp}
theorem rd_maplen (i : Nat) (ht : P.underlying t = some (.map kt et)) (hX : a.eval X = .map (some b)) (hS : Sat w0 w C) (hi : nth C i = some (mapC κ ν b m)) :
    Rd P a.eval w ⟨dst, .call { callee := .builtin .len, args := #[X], argTypes := #[t] }, ty, pos, af, gd⟩ (.int .i64 m.length) := by
  have := run_maplen ht (hS.front i hi) ty
  unfold Rd
  simp only [execOp, resolve, invoke, builtin, Sem.run_bind, Sem.run_pure, Result.andThen_ok, List.map_toArray, List.map_cons, List.map_nil, hX, this]
end maps0
section maps
variable {K V : Type} [DecidableEq K] {kt et : TypeId} {κ : K → Value} {ν : V → Value} {b : Nat} {m : List (K × V)} {x : K} {X Y Z : Operand} {t : TypeId} {ty : TypeId} {pos : String} {af : Array Edge} {gd : Option (Nat × Bool)} {dst : Option Tmp}
theorem rd_look {z : Value} (i : Nat) (hK : Keys P kt κ) (ht : P.underlying t = some (.map kt et)) (hz : zeroO P et = some z) (hX : a.eval X = .map (some b)) (hY : a.eval Y = κ x) (hS : Sat w0 w C) (hi : nth C i = some (mapC κ ν b m)) :
    Rd P a.eval w ⟨dst, .lookup t X Y true, ty, pos, af, gd⟩ (match mGet m x with | some v => .tuple #[ν v, .bool true] | none => .tuple #[z, .bool false]) := by
  have := run_look hK ht hz (hS.front i hi) x true
  unfold Rd
  simp only [execOp, hX, hY, Sem.run_bind, this, Result.andThen_ok]
  cases mGet m x <;> rfl
theorem rd_look1 {z : Value} (i : Nat) (hK : Keys P kt κ) (ht : P.underlying t = some (.map kt et)) (hz : zeroO P et = some z) (hX : a.eval X = .map (some b)) (hY : a.eval Y = κ x) (hS : Sat w0 w C) (hi : nth C i = some (mapC κ ν b m)) :
    Rd P a.eval w ⟨dst, .lookup t X Y false, ty, pos, af, gd⟩ (match mGet m x with | some v => ν v | none => z) := by
  have := run_look hK ht hz (hS.front i hi) x false
  unfold Rd
  simp only [execOp, hX, hY, Sem.run_bind, this, Result.andThen_ok]
  cases mGet m x <;> rfl
theorem put_run {v : V} (i : Nat) (hK : Keys P kt κ) (ht : P.underlying t = some (.map kt et)) (hX : a.eval X = .map (some b)) (hY : a.eval Y = κ x) (hZ : a.eval Z = ν v) (hS : Sat w0 w C) (hi : nth C i = some (mapC κ ν b m)) :
    ∃ w', (execOp a.eval ⟨dst, .mapUpdate t X Y Z, ty, pos, af, gd⟩).run P w = .ok .skip w' ∧ Sat w0 w' (upd C i (mapC κ ν b (mPut m x v))) := by
  obtain ⟨w', hr, hS'⟩ := run_put hK ht (hS.front i hi) x v
  exact ⟨w', by simp only [execOp, hX, hY, hZ, Sem.run_bind, hr, Result.andThen_ok, Sem.run_pure], hS'.back hi⟩
theorem del_run (i : Nat) (hK : Keys P kt κ) (ht : P.underlying t = some (.map kt et)) (hX : a.eval X = .map (some b)) (hY : a.eval Y = κ x) (hS : Sat w0 w C) (hi : nth C i = some (mapC κ ν b m)) :
    ∃ w', (execOp a.eval ⟨dst, .call { callee := .builtin .delete, args := #[X, Y], argTypes := #[t, kt] }, ty, pos, af, gd⟩).run P w = .ok (.value (.tuple #[])) w' ∧ Sat w0 w' (upd C i (mapC κ ν b (mDel m x))) := by
  obtain ⟨w', hr, hS'⟩ := run_del (ty := ty) hK ht (hS.front i hi) x
  refine ⟨w', ?_, hS'.back hi⟩
  simp only [execOp, resolve, invoke, builtin, Sem.run_bind, Sem.run_pure, Result.andThen_ok, List.map_toArray, List.map_cons, List.map_nil, hX, hY, hr]
theorem s_put {v : V} (i : Nat) (hF : Fr a n L) (hg : wantedB ops L ⟨none, .mapUpdate t X Y Z, ty, pos, af, gd⟩ = some true) (hK : Keys P kt κ) (ht : P.underlying t = some (.map kt et)) (hX : a.eval X = .map (some b)) (hY : a.eval Y = κ x) (hZ : a.eval Z = ν v)
    (hS : Sat w0 w C) (hi : nth C i = some (mapC κ ν b m)) (k : ∀ w', Sat w0 w' (upd C i (mapC κ ν b (mPut m x v))) → wpList P ops Q rest a w') : wpList P ops Q (⟨none, .mapUpdate t X Y Z, ty, pos, af, gd⟩ :: rest) a w :=
  let ⟨_, hr, hS'⟩ := put_run i hK ht hX hY hZ hS hi
  s_sk hF hg rfl hr (k _ hS')
theorem l_put {p : Nat} {v : V} (i : Nat) (hD : Drawn P ops Q S ds ord) (hF : Fr a n L) (hp : ord[p]? = some (j, .ls)) (ho : ops[j]? = some ⟨none, .mapUpdate t X Y Z, ty, pos, af, gd⟩) (hg : wantedB ops L ⟨none, .mapUpdate t X Y Z, ty, pos, af, gd⟩ = some true) (hK : Keys P kt κ)
    (ht : P.underlying t = some (.map kt et)) (hX : a.eval X = .map (some b)) (hY : a.eval Y = κ x) (hZ : a.eval Z = ν v) (hS : Sat w0 w C) (hi : nth C i = some (mapC κ ν b m)) (k : ∀ w', Sat w0 w' (upd C i (mapC κ ν b (mPut m x v))) → wpD P ops Q S ds ord (p + 1) a w') : wpD P ops Q S ds ord p a w :=
  let ⟨_, hr, hS'⟩ := put_run i hK ht hX hY hZ hS hi
  l_sk hD hF hp ho hg rfl hr (k _ hS')
theorem d_put {p : Nat} {v : V} (i : Nat) (hD : Drawn P ops Q S ds ord) (hF : Fr a n L) (hp : ord[p]? = some (j, .on)) (ho : ops[j]? = some ⟨none, .mapUpdate t X Y Z, ty, pos, af, gd⟩) (hg : wantedB ops L ⟨none, .mapUpdate t X Y Z, ty, pos, af, gd⟩ = some true) (hK : Keys P kt κ)
    (ht : P.underlying t = some (.map kt et)) (hX : a.eval X = .map (some b)) (hY : a.eval Y = κ x) (hZ : a.eval Z = ν v) (hS : Sat w0 w C) (hi : nth C i = some (mapC κ ν b m)) (hc : ∀ w', Sat w0 w' (upd C i (mapC κ ν b (mPut m x v))) → S w')
    (k : ∀ w', Sat w0 w' (upd C i (mapC κ ν b (mPut m x v))) → wpD P ops Q S ds ord (p + 1) a w') : wpD P ops Q S ds ord p a w :=
  let ⟨_, hr, hS'⟩ := put_run i hK ht hX hY hZ hS hi
  d_sk hD hF hp ho hg rfl hr (hc _ hS') (k _ hS')
theorem s_del (i : Nat) (hF : Fr a n L) (hg : wantedB ops L ⟨none, .call { callee := .builtin .delete, args := #[X, Y], argTypes := #[t, kt] }, ty, pos, af, gd⟩ = some true) (hK : Keys P kt κ) (ht : P.underlying t = some (.map kt et)) (hX : a.eval X = .map (some b)) (hY : a.eval Y = κ x)
    (hS : Sat w0 w C) (hi : nth C i = some (mapC κ ν b m)) (k : ∀ w', Sat w0 w' (upd C i (mapC κ ν b (mDel m x))) → wpList P ops Q rest a w') : wpList P ops Q (⟨none, .call { callee := .builtin .delete, args := #[X, Y], argTypes := #[t, kt] }, ty, pos, af, gd⟩ :: rest) a w :=
  let ⟨_, hr, hS'⟩ := del_run i hK ht hX hY hS hi
  s_ev0 hF hg rfl hr (k _ hS')
theorem l_del {p : Nat} (i : Nat) (hD : Drawn P ops Q S ds ord) (hF : Fr a n L) (hp : ord[p]? = some (j, .ls)) (ho : ops[j]? = some ⟨none, .call { callee := .builtin .delete, args := #[X, Y], argTypes := #[t, kt] }, ty, pos, af, gd⟩)
    (hg : wantedB ops L ⟨none, .call { callee := .builtin .delete, args := #[X, Y], argTypes := #[t, kt] }, ty, pos, af, gd⟩ = some true) (hK : Keys P kt κ) (ht : P.underlying t = some (.map kt et)) (hX : a.eval X = .map (some b)) (hY : a.eval Y = κ x)
    (hS : Sat w0 w C) (hi : nth C i = some (mapC κ ν b m)) (k : ∀ w', Sat w0 w' (upd C i (mapC κ ν b (mDel m x))) → wpD P ops Q S ds ord (p + 1) a w') : wpD P ops Q S ds ord p a w :=
  let ⟨_, hr, hS'⟩ := del_run i hK ht hX hY hS hi
  l_ev0 hD hF hp ho hg rfl hr (k _ hS')
end maps
end steps
/-- A truth in slot t: both ways. -/
theorem fr_split {G : Prop} {a : Act} {n : Shape} {t : Nat} {L : List (Nat × Value)} {b : Bool} (hF : Fr a n L) (hl : look L t = some (.bool b)) (ht : b = true → Fr a n ((t, .bool true) :: L) → G) (hf : b = false → Fr a n ((t, .bool false) :: L) → G) : G := by
  cases b with
  | true => exact ht rfl (fr_bool hF hl rfl)
  | false => exact hf rfl (fr_bool hF hl rfl)
/-- The cells of a part of a block. -/
theorem cells_of {w : World} {b off n : Nat} {cs : Array Value} {e : TypeId} {fz : Nat × Nat} (h : w.heap[b]? = some (.cells cs e fz)) (hl : off + n ≤ cs.size) :
    ∀ j v, ((cs.toList.drop off).take n)[j]? = some v → w.cell? ⟨b, off + j, none⟩ = some v := by
  intro j v hj
  rw [List.getElem?_take] at hj
  split at hj
  · rw [List.getElem?_drop] at hj
    simpa [World.cell?, h] using hj
  · cases hj
def lgetN : List Value → Nat → Nat → Option (List Value)
  | _, 0, 0 => some []
  | v :: r, 0, n + 1 => match lgetN r 0 n with
    | some l => some (v :: l)
    | none => none
  | _ :: r, o + 1, n => lgetN r o n
  | [], _, _ => none
theorem lgetN_at : ∀ (l : List Value) (o n : Nat) (vs : List Value), lgetN l o n = some vs → vs.length = n ∧ ∀ j v, vs[j]? = some v → l[o + j]? = some v
  | l, 0, 0, vs, h => by
    cases l <;> simp [lgetN] at h <;> subst h <;> simp
  | v :: r, 0, n + 1, vs, h => by
    simp only [lgetN] at h
    split at h
    · rename_i l hl
      injection h with h
      subst h
      obtain ⟨h1, h2⟩ := lgetN_at r 0 n l hl
      refine ⟨by simp [h1], fun j u hj => ?_⟩
      cases j with
      | zero => simpa using hj
      | succ j => simpa using h2 j u (by simpa using hj)
    · cases h
  | _ :: r, o + 1, n, vs, h => by
    simp only [lgetN] at h
    obtain ⟨h1, h2⟩ := lgetN_at r o n vs h
    refine ⟨h1, fun j u hj => ?_⟩
    rw [show o + 1 + j = (o + j) + 1 by omega]
    simpa using h2 j u hj
  | [], 0, n + 1, vs, h => by simp [lgetN] at h
  | [], o + 1, n, vs, h => by simp [lgetN] at h
/-- A struct out of a block that is told. -/
theorem rd_loadB {P : Program} {a : Act} {w0 w : World} {C : List Chunk} {i t n b off : Nat} {x : Operand} {cs : Array Value} {e : TypeId} {fz : Nat × Nat} {vs : List Value} {dst : Option Tmp} {ty : TypeId} {pos : String} {af : Array Edge} {gd : Option (Nat × Bool)}
    (ht : aggB P t n = true) (hx : a.eval x = .pointer (some ⟨b, off, none⟩)) (hS : Sat w0 w C) (hi : nth C i = some (.obj b (.cells cs e fz))) (hv : lgetN cs.toList off n = some vs) : Rd P a.eval w ⟨dst, .load t x, ty, pos, af, gd⟩ (.agg vs.toArray) := by
  obtain ⟨h1, h2⟩ := lgetN_at _ _ _ _ hv
  exact rd_loadN ht hx h1 (fun j v hj => hS.cell hi (by simpa using h2 j v hj))
theorem cells_one {v : Value} (h : v.oneCell' = true) : v.cells.toList = [v] := by
  cases v <;> first | rfl | (simp [Value.oneCell'] at h)
section look2
variable {P : Program} {a : Act} {w0 w : World} {C : List Chunk} {K V : Type} [DecidableEq K] {kt et : TypeId} {κ : K → Value} {ν : V → Value} {b : Nat} {m : List (K × V)} {x : K} {X Y : Operand} {t : TypeId} {ty : TypeId} {pos : String} {af : Array Edge} {gd : Option (Nat × Bool)} {dst : Option Tmp}
theorem rd_look_s {z : Value} {v : V} (i : Nat) (hK : Keys P kt κ) (ht : P.underlying t = some (.map kt et)) (hz : zeroO P et = some z) (hX : a.eval X = .map (some b)) (hY : a.eval Y = κ x) (hS : Sat w0 w C) (hi : nth C i = some (mapC κ ν b m)) (hm : mGet m x = some v) :
    Rd P a.eval w ⟨dst, .lookup t X Y true, ty, pos, af, gd⟩ (.tuple #[ν v, .bool true]) := by
  have := rd_look (dst := dst) (ty := ty) (pos := pos) (af := af) (gd := gd) i hK ht hz hX hY hS hi
  rw [hm] at this
  exact this
theorem rd_look_n {z : Value} (i : Nat) (hK : Keys P kt κ) (ht : P.underlying t = some (.map kt et)) (hz : zeroO P et = some z) (hX : a.eval X = .map (some b)) (hY : a.eval Y = κ x) (hS : Sat w0 w C) (hi : nth C i = some (mapC κ ν b m)) (hm : mGet m x = none) :
    Rd P a.eval w ⟨dst, .lookup t X Y true, ty, pos, af, gd⟩ (.tuple #[z, .bool false]) := by
  have := rd_look (dst := dst) (ty := ty) (pos := pos) (af := af) (gd := gd) i hK ht hz hX hY hS hi
  rw [hm] at this
  exact this
end look2
theorem storeA_one {l : List Value} {off : Nat} {v : Value} (h : off < l.length) : storeA l.toArray off [v] = (l.set off v).toArray := by
  unfold storeA putL
  congr 1
  rw [List.set_eq_take_append_cons_drop, if_pos h]
  simp
section exits
variable {K : Act → World → Prop} {Q : Exit → Act → World → Prop} {a : Act} {w : World} {i j : Nat}
theorem then_ret (h : Q .ret a w) : Exit.then K Q .ret a w := h
theorem blk_ret (h : Q .ret a w) : Exit.inBlock i Q .ret a w := h
theorem then_exit (h : Q (.exit i) a w) : Exit.then K Q (.exit i) a w := h
theorem blk_exit (h : Q .normal a w) : Exit.inBlock i Q (.exit i) a w := by unfold Exit.inBlock; simpa using h
theorem blk_other (hne : Nat.beq j i = false) (h : Q (.exit j) a w) : Exit.inBlock i Q (.exit j) a w := by
  have : j ≠ i := by intro e; subst e; simp at hne
  unfold Exit.inBlock
  simpa [this] using h
theorem blk_normal (h : Q .normal a w) : Exit.inBlock i Q .normal a w := h
end exits
end Go.Proofs.Ytbpkfifiigpdcaa.Sk
