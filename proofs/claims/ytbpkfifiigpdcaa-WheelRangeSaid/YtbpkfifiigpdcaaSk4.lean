import Derived.Test.YtbpkfifiigpdcaaSk3
/-! Sk, part four: rows of one's own: append, elements, made rows. -/
namespace Go.Proofs.Ytbpkfifiigpdcaa.Sk
open Go Go.RowKit
set_option linter.unusedVariables false
set_option linter.unusedSimpArgs false

/-- The slice value v of n elements (type E, sz cells each) has a block to itself; xs: the elements' cells. -/
def rowC (E sz : Nat) (v : Value) (n : Nat) (xs : List Value) : Chunk := .pr fun f => xs.length = n * sz ∧
  ((v = .slice none 0 0 ∧ n = 0 ∧ f = fun _ => none) ∨
   ∃ g cap cur, v = .slice (some ⟨g, 0, none⟩) n cap ∧ n ≤ cap ∧ cap ≤ maxLen ∧ cur.size = cap * sz ∧ cur.toList.take (n * sz) = xs ∧ (Chunk.obj g (.cells cur E (0, 0))).holds f)

section rows
variable {w0 w : World} {C : List Chunk} {E sz : Nat} {v : Value} {n : Nat} {xs : List Value}

theorem row_open (h : Sat w0 w (rowC E sz v n xs :: C)) : xs.length = n * sz ∧
    ((v = .slice none 0 0 ∧ n = 0 ∧ Sat w0 w C) ∨
     ∃ g cap cur, v = .slice (some ⟨g, 0, none⟩) n cap ∧ n ≤ cap ∧ cap ≤ maxLen ∧ cur.size = cap * sz ∧ cur.toList.take (n * sz) = xs ∧ Sat w0 w (.obj g (.cells cur E (0, 0)) :: C)) := by
  have ht := h.tail
  obtain ⟨f, hf, hs⟩ := h.own
  obtain ⟨g1, k, hg, hk, ha, rfl⟩ := made_cons.1 hf
  obtain ⟨hl, hg⟩ := hg
  refine ⟨hl, ?_⟩
  rcases hg with ⟨hv, hn, _⟩ | ⟨g, cap, cur, hv, h1, h2, h3, h4, h5⟩
  · exact .inl ⟨hv, hn, ht⟩
  · exact .inr ⟨g, cap, cur, hv, h1, h2, h3, h4, h.os, h.tape, h.output, h.size, _, .cons h5 hk ha, hs⟩
theorem row_nil (h : Sat w0 w C) : Sat w0 w (rowC E sz (.slice none 0 0) 0 [] :: C) := by
  obtain ⟨f, hf, hs⟩ := h.own
  have e : join (fun _ => none) f = f := by funext i; rfl
  exact ⟨h.os, h.tape, h.output, h.size, join (fun _ => none) f, .cons ⟨by simp, .inl ⟨rfl, rfl, rfl⟩⟩ hf (fun _ => .inl rfl), by rw [e]; exact hs⟩
theorem row_shut {g cap : Nat} {cur : Array Value} (h : Sat w0 w (.obj g (.cells cur E (0, 0)) :: C)) (h1 : n ≤ cap) (h2 : cap ≤ maxLen) (h3 : cur.size = cap * sz) (h4 : cur.toList.take (n * sz) = xs) :
    Sat w0 w (rowC E sz (.slice (some ⟨g, 0, none⟩) n cap) n xs :: C) := by
  obtain ⟨f, hf, hs⟩ := h.own
  obtain ⟨g1, k, hg, hk, ha, rfl⟩ := made_cons.1 hf
  refine ⟨h.os, h.tape, h.output, h.size, _, .cons ⟨?_, .inr ⟨g, cap, cur, rfl, h1, h2, h3, h4, hg⟩⟩ hk ha, hs⟩
  rw [← h4, List.length_take]
  have : n * sz ≤ cap * sz := Nat.mul_le_mul_right _ h1
  simp; omega
theorem row_len (h : Sat w0 w (rowC E sz v n xs :: C)) : xs.length = n * sz := (row_open h).1
/-- What a slice of one's own looks like. -/
theorem row_val (h : Sat w0 w (rowC E sz v n xs :: C)) : ∃ A c, v = .slice A n c ∧ n ≤ c ∧ (A = none → n = 0 ∧ c = 0) := by
  rcases (row_open h).2 with ⟨rfl, rfl, _⟩ | ⟨g, cap, cur, rfl, h1, _⟩
  · exact ⟨none, 0, rfl, Nat.le_refl _, fun _ => ⟨rfl, rfl⟩⟩
  · exact ⟨_, cap, rfl, h1, fun h => by cases h⟩
/-- An element's address and its cells. -/
theorem row_cell (h : Sat w0 w (rowC E sz v n xs :: C)) (hn : 0 < n) : ∃ g c, v = .slice (some ⟨g, 0, none⟩) n c ∧ n ≤ c ∧ ∀ j u, xs[j]? = some u → w.cell? ⟨g, j, none⟩ = some u := by
  rcases (row_open h).2 with ⟨_, rfl, _⟩ | ⟨g, cap, cur, rfl, h1, _, h3, h4, h5⟩
  · omega
  · refine ⟨g, cap, rfl, h1, fun j u hj => ?_⟩
    have h6 := h5.obj
    rw [← h4, List.getElem?_take] at hj
    split at hj
    · simp [World.cell?, h6]
      simpa using hj
    · cases hj

/-- Element k's cells, of a row that is told at place i. -/
theorem row_load {i g c k : Nat} {cs : List Value} (h : Sat w0 w C) (hi : nth C i = some (rowC E sz (.slice (some ⟨g, 0, none⟩) n c) n xs)) (hn : 0 < n) (hc : ∀ j v, cs[j]? = some v → xs[k * sz + j]? = some v) :
    ∀ j v, cs[j]? = some v → w.cell? ⟨g, 0 + (k : Int).toNat * sz + j, none⟩ = some v := by
  intro j v hj
  obtain ⟨g', c', e, _, hh⟩ := row_cell (h.front i hi) hn
  injection e with e _ _
  injection e with e
  injection e with e
  subst e
  have := hh _ _ (hc j v hj)
  rw [Int.toNat_natCast, Nat.zero_add]
  exact this

def elemB (P : Program) (E sz by_ : Nat) : Bool := match P.info? E with
  | some i => i.size == sz && i.bytes == by_ && (match i.zero with | some z => z.cells.size == sz | none => false)
  | none => false
theorem elemB_spec {P : Program} {E sz by_ : Nat} (h : elemB P E sz by_ = true) : ∃ i z, P.info? E = some i ∧ i.size = sz ∧ i.bytes = by_ ∧ i.zero = some z ∧ z.cells.size = sz := by
  unfold elemB at h
  split at h
  · rename_i i hi
    simp only [Bool.and_eq_true, beq_iff_eq] at h
    obtain ⟨⟨h1, h2⟩, h3⟩ := h
    split at h3
    · rename_i z hz
      exact ⟨i, z, hi, h1, h2, hz, by simpa using h3⟩
    · cases h3
  · cases h

theorem size_zeroC (z : Array Value) (n : Nat) : (Builtin.zeroCells z n).size = n * z.size := by simp [Builtin.zeroCells]

/-- append: the row grows by m elements, whose cells are 'news'. -/
theorem run_append_row {P : Program} {t ty by_ : Nat} {A : Addr} {m c : Nat} {news : List Value} (ht : sliceB P t E sz = true) (he : elemB P E sz by_ = true) (h : Sat w0 w (rowC E sz v n xs :: C))
    (hl : news.length = m * sz) (hnews : ∀ j u, news[j]? = some u → w.cell? (A.add j) = some u) (h1 : ∀ u ∈ news, u.oneCell' = true) (h63 : n + m ≤ maxLen) (hby : (n + m) * by_ ≤ 140737488355328) :
    ∃ v' w', (Builtin.append_ #[t, t] ty #[v, .slice (some A) m c]).run P w = .ok v' w' ∧ Sat w0 w' (rowC E sz v' (n + m) (xs ++ news) :: C) := by
  obtain ⟨hu, _⟩ := sliceB_spec ht
  obtain ⟨i, z, hi, hs, hb, hz, hzs⟩ := elemB_spec he
  subst hs
  subst hb
  obtain ⟨hx, hcase⟩ := row_open h
  have h63' : n + m ≤ 9223372036854775807 := by simp only [maxLen] at h63; omega
  have fresh : ∀ (old : Nat) (W : World), old < n + m → Sat w0 W C → Sat w0 (W.alloc (.cells (xs.toArray ++ news.toArray ++ Builtin.zeroCells z.cells (grownCap w (n + m) old E - (n + m))) E))
      (rowC E i.size (.slice (some ⟨W.heap.size, 0, none⟩) (n + m) (grownCap w (n + m) old E)) (n + m) (xs ++ news) :: C) := by
    intro old W ho hW
    have hge := grownCap_ge w (n + m) old E
    refine row_shut (hW.new (o := .cells (xs.toArray ++ news.toArray ++ Builtin.zeroCells z.cells (grownCap w (n + m) old E - (n + m))) E)) hge (grownCap_le_maxLen w (n + m) old E h63) ?_ ?_
    · simp only [Array.size_append, List.size_toArray, size_zeroC, hzs, hx, hl, ← Nat.add_mul]
      congr 1; omega
    · simp only [Array.toList_append, List.append_assoc]
      have : (xs ++ news).length = (n + m) * i.size := by rw [List.length_append, hx, hl, Nat.add_mul]
      rw [← List.append_assoc, ← this]
      exact List.take_left
  rcases hcase with ⟨rfl, rfl, hC⟩ | ⟨g, cap, cur, rfl, hnc, hcm, hcs, htake, hC⟩
  · have hx0 : xs = [] := List.eq_nil_of_length_eq_zero (by simpa using hx)
    subst hx0
    by_cases hm : m = 0
    · subst hm
      have hn : news = [] := List.eq_nil_of_length_eq_zero (by simpa using hl)
      subst hn
      refine ⟨.slice none 0 0, w, ?_, row_nil hC⟩
      simp [Builtin.append_, run_underlying hu, sizeOf, typeInfo, hi, Builtin.lenOf, Builtin.firstCells, loadCells, loadCellsFrom]
    · have hr := run_append_nil (P := P) w t ty E i z hu hi hz A m c news hl hnews (by omega) (by omega) (by have hb := hby; simp only [Nat.zero_add] at hb; omega)
      have hf := fresh 0 w.drew (by omega) hC.drew
      simp only [Nat.zero_add, List.nil_append, Array.empty_append] at hf ⊢
      exact ⟨_, _, hr, hf⟩
  · by_cases hroom : n + m ≤ cap
    · have hfit : n * i.size + news.length ≤ cur.size := by rw [hl, hcs, ← Nat.add_mul]; exact Nat.mul_le_mul_right _ hroom
      have hr := run_append_room (P := P) w t ty E i hu hi g n cap cur hC.obj A m c news hl hnews h1 hroom hfit
      refine ⟨_, _, hr, row_shut (sat_setRow (i := 0) hC rfl) hroom hcm ?_ ?_⟩
      · simp only [List.size_toArray, List.length_append, List.length_take, List.length_drop, Array.length_toList]
        omega
      · have : (xs ++ news).length = (n + m) * i.size := by rw [List.length_append, hx, hl, Nat.add_mul]
        rw [htake, ← this]
        simp only [List.append_assoc]
        rw [← List.append_assoc]
        exact List.take_left
    · have holds : ∀ j u, xs[j]? = some u → w.cell? ((⟨g, 0, none⟩ : Addr).add j) = some u := by
        intro j u hj
        rw [addr_add, Nat.zero_add]
        rw [← htake, List.getElem?_take] at hj
        split at hj
        · simp [World.cell?, hC.obj]
          simpa using hj
        · cases hj
      have hr := run_append_grow (P := P) w t ty E i z hu hi hz ⟨g, 0, none⟩ n cap xs hx holds A m c news hl hnews (by omega) (by omega) (growslice_fits (by omega) hby)
      exact ⟨_, _, hr, fresh cap w.drew (by omega) hC.tail.drew⟩
/-- append of a row to nothing at all that is read. -/
theorem run_append_none {P : Program} {t ty : Nat} {B : Option Addr} {c : Nat} (ht : sliceB P t E sz = true) (h : Sat w0 w (rowC E sz v n xs :: C)) :
    (Builtin.append_ #[t, t] ty #[v, .slice B 0 c]).run P w = .ok v w := by
  obtain ⟨hu, i, hi, hs⟩ := sliceB_spec ht
  rcases (row_open h).2 with ⟨rfl, rfl, _⟩ | ⟨g, cap, cur, rfl, h1, h2, h3, h4, hC⟩
  · cases B <;> simp [Builtin.append_, run_underlying hu, sizeOf, typeInfo, hi, Builtin.lenOf, Builtin.firstCells, loadCells, loadCellsFrom]
  · cases B <;> simp [Builtin.append_, run_underlying hu, sizeOf, typeInfo, hi, Builtin.lenOf, Builtin.firstCells, loadCells, loadCellsFrom, h1, storeCells]

section ops
variable {P : Program} {ρ : Operand → Value} {dst : Option Tmp} {ty : TypeId} {pos : String} {af : Array Edge} {gd : Option (Nat × Bool)}
theorem ef_append {t by_ : Nat} {x y : Operand} {A : Addr} {m c : Nat} {news : List Value} (ht : sliceB P t E sz = true) (he : elemB P E sz by_ = true) (hx : ρ x = v) (hy : ρ y = .slice (some A) m c) (h : Sat w0 w (rowC E sz v n xs :: C))
    (hl : news.length = m * sz) (hnews : ∀ j u, news[j]? = some u → w.cell? (A.add j) = some u) (h1 : ∀ u ∈ news, u.oneCell' = true) (h63 : n + m ≤ maxLen) (hby : (n + m) * by_ ≤ 140737488355328) :
    ∃ v' w', (execOp ρ ⟨dst, .call { callee := .builtin .append, args := #[x, y], argTypes := #[t, t] }, ty, pos, af, gd⟩).run P w = .ok (.value v') w' ∧ Sat w0 w' (rowC E sz v' (n + m) (xs ++ news) :: C) := by
  obtain ⟨v', w', hr, hS⟩ := run_append_row (ty := ty) (c := c) ht he h hl hnews h1 h63 hby
  refine ⟨v', w', ?_, hS⟩
  simp only [execOp, resolve, invoke, builtin, Sem.run_bind, Sem.run_pure, Result.andThen_ok, List.map_toArray, List.map_cons, List.map_nil, hx, hy, hr]

/-- A slice literal. -/
theorem ef_lit {t len : Nat} {parts : Array (Nat × Operand)} {vs : List (Nat × Value)} {z : Value} {res : List Value} (ht : sliceB P t E sz = true) (hz : zeroO P E = some z)
    (hp : parts.toList.map (fun p => (p.1, ρ p.2)) = vs) (hlen : len * sz ≤ 16777216) (h0 : len * sz ≠ 0)
    (hf : fillL ((List.range len).map fun i => (i * sz, sz)) ((List.range (len * sz)).map fun i => z.cells[i % z.cells.size]!) (vs.map fun p => (p.1, p.2.cells.toList)) = some res) (hi : ∀ p ∈ vs, p.1 < len) :
    (execOp ρ ⟨dst, .buildSlice t len parts, ty, pos, af, gd⟩).run P w = .ok (.value (.slice (some ⟨w.heap.size, 0, none⟩) len len)) (w.alloc (.cells res.toArray E)) := by
  obtain ⟨hu, i, hi', hs⟩ := sliceB_spec ht
  subst hs
  have h2 : (parts.map fun (x : Nat × Operand) => match x with | (i, x) => (i, ρ x)).toList = vs := by rw [← hp]; simp
  have hfill : Instr.fill (fun j => some (j * i.size, i.size)) ((List.range (len * i.size)).map fun i => z.cells[i % z.cells.size]!).toArray vs = some res.toArray := by
    have key : ∀ (vs : List (Nat × Value)) (cs : Array Value), (∀ p ∈ vs, p.1 < len) → Instr.fill (fun j => some (j * i.size, i.size)) cs vs = Instr.fill (fun j => (((List.range len).map fun i_1 => (i_1 * i.size, i.size)))[j]?) cs vs := by
      intro vs
      induction vs with
      | nil => intros; rfl
      | cons p r ih =>
        intro cs hp
        have hlt := hp p (by simp)
        simp only [Instr.fill]
        have e : (((List.range len).map fun i_1 => (i_1 * i.size, i.size)))[p.1]? = some (p.1 * i.size, i.size) := by simp [hlt]
        rw [e]
        simp only
        split
        · rfl
        · exact ih _ (fun q hq => hp q (by simp [hq]))
    rw [key vs _ hi]
    exact fill_eq (fun _ => rfl) vs _ res hf
  have hle : ¬ (16777216 < len * i.size) := by omega
  have e3 : (Array.range (len * i.size)).map (fun j => z.cells[j % z.cells.size]!) = ((List.range (len * i.size)).map fun j => z.cells[j % z.cells.size]!).toArray := by
    apply Array.ext'
    simp [Array.toList_range]
  simp only [execOp, Instr.buildSlice, Sem.run_bind, run_underlying hu, Result.andThen_ok, sizeB_run (show sizeB P E i.size = true by simp [sizeB, hi']), hle, if_false, h0]
  simp only [zeroO_run hz, Sem.run_bind, Result.andThen_ok, Sem.run_pure, e3, h2, hfill]
  simp [newRow, h0, zeroO_run hz, e3, hfill, hle]
/-- make([]T, n), of elements of one cell. -/
theorem ef_make1 {t by_ : Nat} {x y : Operand} {z : Value} {k k' : IntKind} {m : Nat} (ht : sliceB P t E 1 = true) (he : elemB P E 1 by_ = true) (hz : zeroO P E = some z) (hz1 : z.cells = #[z]) (hx : ρ x = .int k m) (hy : ρ y = .int k' m) (hb : by_ * m ≤ 281474976710656) (h63 : m ≤ 9223372036854775807) :
    (execOp ρ ⟨dst, .makeSlice t x y, ty, pos, af, gd⟩).run P w = .ok (.value (.slice (some ⟨w.heap.size, 0, none⟩) m m)) (w.alloc (.cells (List.replicate m z).toArray E)) := by
  obtain ⟨hu, _⟩ := sliceB_spec ht
  obtain ⟨i, z', hi, hs, hby, hz', _⟩ := elemB_spec he
  have ez : z' = z := by
    unfold zeroO at hz
    rw [hi] at hz
    have : i.zero = some z := hz
    rw [hz'] at this
    injection this
  subst ez
  subst hby
  have hr := run_make (P := P) w t E i z' hu hi hz' k k' m m (by omega) (by omega) (by
    have : ((i.bytes * m : Nat) : Int) ≤ 281474976710656 := by omega
    rwa [Int.natCast_mul] at this) (by omega)
  simp only [Int.toNat_natCast, hs, Nat.mul_one] at hr
  have e : madeCells z'.cells m = (List.replicate m z').toArray := by
    apply Array.ext'
    apply List.ext_getElem?
    intro j
    rw [hz1]
    simp only [madeCells, Array.toList_map, Array.toList_range, List.getElem?_map, List.getElem?_range', List.getElem?_replicate]
    by_cases hj : j < m
    · simp [hj, Nat.mod_one]
    · simp [hj]
  rw [e] at hr
  simp only [execOp, hx, hy, Sem.run_bind, hr, Result.andThen_ok]
  rfl
end ops
end rows
end Go.Proofs.Ytbpkfifiigpdcaa.Sk
