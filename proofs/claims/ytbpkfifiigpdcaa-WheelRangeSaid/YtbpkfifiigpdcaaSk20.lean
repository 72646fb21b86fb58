import Derived.Test.YtbpkfifiigpdcaaSk19
/-! Sk, part twenty: append of what is read elsewhere (a window of a row). -/
namespace Go.Proofs.Ytbpkfifiigpdcaa.Sk
open Go Go.RowKit
open Go.Proofs.YtbpkfifiigpdcaaW.PrintLast
set_option linter.unusedVariables false
set_option linter.unusedSimpArgs false
section
variable {P : Program} {ops : Array Oper} {Q : Exit → Act → World → Prop} {rest : List Oper} {a : Act} {w0 w : World} {n : Shape} {d : Nat} {L : List (Nat × Value)} {C : List Chunk} {S : World → Prop} {ds : List Nat} {ord : List (Nat × How)} {p j : Nat} {v : Value}
theorem row_win {E nn c o m jj : Nat} {g : Nat} {xs : List Value} (hS : Sat w0 w C) (hi : nth C jj = some (rowC E 1 (.slice (some ⟨g, 0, none⟩) nn c) nn xs)) : ∀ q u, ((xs.drop o).take m)[q]? = some u → w.cell? ((⟨g, o, none⟩ : Addr).add q) = some u := by
  intro q u hu
  have hu2 : xs[o + q]? = some u := by
    rw [List.getElem?_take] at hu
    split at hu
    · rwa [List.getElem?_drop] at hu
    · cases hu
  have h := hS.front jj hi
  have hlen := row_len h
  have hlt := (List.getElem?_eq_some_iff.1 hu2).1
  obtain ⟨g', c', e, _, hc⟩ := row_cell h (by omega)
  injection e with e _ _
  injection e with e
  injection e with e
  subst e
  rw [addr_add]
  exact hc _ _ hu2
theorem d_appendW {E sz t by_ nn m c : Nat} {A : Addr} (i : Nat) {x y : Operand} {ty : TypeId} {pos : String} {af : Array Edge} {gd : Option (Nat × Bool)} {xs news : List Value} (hD : Drawn P ops Q S ds ord) (hF : Fr a n L) (hp : ord[p]? = some (j, .on))
    (ho : ops[j]? = some ⟨some d, .call { callee := .builtin .append, args := #[x, y], argTypes := #[t, t] }, ty, pos, af, gd⟩)
    (hg : wantedB ops L ⟨some d, .call { callee := .builtin .append, args := #[x, y], argTypes := #[t, t] }, ty, pos, af, gd⟩ = some true) (hn : Nat.blt d n.size = true) (ht : sliceB P t E sz = true) (he : elemB P E sz by_ = true) (hx : a.eval x = v)
    (hy : a.eval y = .slice (some A) m c) (hS : Sat w0 w C) (hi : nth C i = some (rowC E sz v nn xs)) (hnews : ∀ q u, news[q]? = some u → w.cell? (A.add q) = some u) (hl : news.length = m * sz) (h1 : ∀ u ∈ news, u.oneCell' = true)
    (h63 : nn + m ≤ maxLen) (hby : (nn + m) * by_ ≤ 140737488355328) (hc : ∀ v' w', Sat w0 w' (rowC E sz v' (nn + m) (xs ++ news) :: del C i) → S w')
    (k : ∀ A q w', Sat w0 w' (rowC E sz (.slice A (nn + m) q) (nn + m) (xs ++ news) :: del C i) → ∀ a', Fr a' n ((d, .slice A (nn + m) q) :: L) → wpD P ops Q S ds ord (p + 1) a' w') : wpD P ops Q S ds ord p a w := by
  obtain ⟨v', w', hr, hS'⟩ := ef_append (dst := some d) (ty := ty) (pos := pos) (af := af) (gd := gd) (ρ := a.eval) ht he hx hy (hS.front i hi) hl hnews h1 h63 hby
  obtain ⟨A', q, rfl, _, _⟩ := row_val hS'
  exact d_ev hD hF hp ho hg rfl hn hr (hc _ _ hS') (k _ _ _ hS')
end
/-! ### two operations that write may come up: each order is walked -/
/-- Operation j comes up at place i of the order. -/
def Fk (P : Program) (ops : Array Oper) (Q : Exit → Act → World → Prop) (S : World → Prop) (ds : List Nat) (ord : List (Nat × How)) (i j : Nat) (a : Act) (w : World) : Prop :=
  ∀ o, ops[j]? = some o → ∀ K : Act → World → Prop, Shut (∀ a' w', S w' → (S w' → wpD P ops Q S ds ord (i + 1) a' w') → K a' w') → if Region.wanted o (yielded ops a.tmps) = true then Oper.wp P o a w K Q else K (a.put o.dst undef) w
section
variable {P : Program} {ops : Array Oper} {Q : Exit → Act → World → Prop} {rest : List Oper} {a : Act} {w0 w w' : World} {n : Shape} {d : Nat} {L : List (Nat × Value)} {C : List Chunk} {S : World → Prop} {ds : List Nat} {ord ord1 ord2 : List (Nat × How)} {i j : Nat} {v : Value} {o : Oper}
theorem d_fork2 {j1 j2 : Nat} (hi : Nat.blt i ops.size = true) (h1 : (ops[j1]?).isSome = true) (h2 : (ops[j2]?).isSome = true)
    (hc : (Region.ready .any ops (lst ops.size ord i) == [j1, j2] && (lst ops.size ord i).setIfInBounds j1 true == lst ops.size ord1 (i + 1) && (lst ops.size ord i).setIfInBounds j2 true == lst ops.size ord2 (i + 1)) = true)
    (hd1 : ds.contains j1 = false) (hd2 : ds.contains j2 = false) (hD1 : Drawn P ops Q S ds ord1) (hD2 : Drawn P ops Q S ds ord2)
    (k1 : Drawn P ops Q S ds ord1 → Fk P ops Q S ds ord1 i j1 a w) (k2 : Drawn P ops Q S ds ord2 → Fk P ops Q S ds ord2 i j2 a w) : wpD P ops Q S ds ord i a w := by
  obtain ⟨o1, ho1⟩ := Option.isSome_iff_exists.1 h1
  obtain ⟨o2, ho2⟩ := Option.isSome_iff_exists.1 h2
  have hi' : i < ops.size := Nat.le_of_ble_eq_true hi
  unfold wpD
  rw [show ops.size - i = (ops.size - (i + 1)) + 1 by omega]
  exact two_ (lst ops.size ord1 (i + 1)) (lst ops.size ord2 (i + 1)) ho1 ho2 rfl rfl hc (by simpa using hd1) (by simpa using hd2) (fun K hK => k1 hD1 o1 ho1 K hK) (fun K hK => k2 hD2 o2 ho2 K hK)
theorem f_ev (hD : Drawn P ops Q S ds ord) (hF : Fr a n L) (hp : ord[i]? = some (j, .fk)) (ho : ops[j]? = some o) (hg : wantedB ops L o = some true) (hd : o.dst = some d) (hn : Nat.blt d n.size = true) (h : (execOp a.eval o).run P w = .ok (.value v) w')
    (hS : S w') (k : ∀ a', Fr a' n ((d, v) :: L) → wpD P ops Q S ds ord (i + 1) a' w') : Fk P ops Q S ds ord i j a w := by
  intro o' ho' K hK
  rw [ho] at ho'
  injection ho' with ho'
  subst ho'
  rw [wanted_of hF hg, if_pos rfl]
  unfold Oper.wp
  rw [h, Oper.upon_value, hd]
  exact hK _ _ hS fun _ => k _ (hF.put hn v)
theorem f_newp {ob : Obj} (hD : Drawn P ops Q S ds ord) (hF : Fr a n L) (hp : ord[i]? = some (j, .fk)) (ho : ops[j]? = some o) (hg : wantedB ops L o = some true) (hd : o.dst = some d) (hn : Nat.blt d n.size = true)
    (h : (execOp a.eval o).run P w = .ok (.value (.pointer (some ⟨w.heap.size, 0, none⟩))) (w.alloc ob)) (hS : Sat w0 w C) (hc : ∀ b w', Sat w0 w' (.obj b ob :: C) → S w')
    (k : ∀ b w', Sat w0 w' (.obj b ob :: C) → ∀ a', Fr a' n ((d, .pointer (some ⟨b, 0, none⟩)) :: L) → wpD P ops Q S ds ord (i + 1) a' w') : Fk P ops Q S ds ord i j a w :=
  f_ev hD hF hp ho hg hd hn h (hc _ _ hS.new) fun a' hF' => k _ _ hS.new a' hF'
theorem f_news {ob : Obj} {l c : Nat} (hD : Drawn P ops Q S ds ord) (hF : Fr a n L) (hp : ord[i]? = some (j, .fk)) (ho : ops[j]? = some o) (hg : wantedB ops L o = some true) (hd : o.dst = some d) (hn : Nat.blt d n.size = true)
    (h : (execOp a.eval o).run P w = .ok (.value (.slice (some ⟨w.heap.size, 0, none⟩) l c)) (w.alloc ob)) (hS : Sat w0 w C) (hc : ∀ b w', Sat w0 w' (.obj b ob :: C) → S w')
    (k : ∀ b w', Sat w0 w' (.obj b ob :: C) → ∀ a', Fr a' n ((d, .slice (some ⟨b, 0, none⟩) l c) :: L) → wpD P ops Q S ds ord (i + 1) a' w') : Fk P ops Q S ds ord i j a w :=
  f_ev hD hF hp ho hg hd hn h (hc _ _ hS.new) fun a' hF' => k _ _ hS.new a' hF'
theorem f_appendW {E sz t by_ nn m c : Nat} {A : Addr} (q : Nat) {x y : Operand} {ty : TypeId} {pos : String} {af : Array Edge} {gd : Option (Nat × Bool)} {xs news : List Value} (hD : Drawn P ops Q S ds ord) (hF : Fr a n L) (hp : ord[i]? = some (j, .fk))
    (ho : ops[j]? = some ⟨some d, .call { callee := .builtin .append, args := #[x, y], argTypes := #[t, t] }, ty, pos, af, gd⟩)
    (hg : wantedB ops L ⟨some d, .call { callee := .builtin .append, args := #[x, y], argTypes := #[t, t] }, ty, pos, af, gd⟩ = some true) (hn : Nat.blt d n.size = true) (ht : sliceB P t E sz = true) (he : elemB P E sz by_ = true) (hx : a.eval x = v)
    (hy : a.eval y = .slice (some A) m c) (hS : Sat w0 w C) (hi : nth C q = some (rowC E sz v nn xs)) (hnews : ∀ q u, news[q]? = some u → w.cell? (A.add q) = some u) (hl : news.length = m * sz) (h1 : ∀ u ∈ news, u.oneCell' = true)
    (h63 : nn + m ≤ maxLen) (hby : (nn + m) * by_ ≤ 140737488355328) (hc : ∀ v' w', Sat w0 w' (rowC E sz v' (nn + m) (xs ++ news) :: del C q) → S w')
    (k : ∀ A q' w', Sat w0 w' (rowC E sz (.slice A (nn + m) q') (nn + m) (xs ++ news) :: del C q) → ∀ a', Fr a' n ((d, .slice A (nn + m) q') :: L) → wpD P ops Q S ds ord (i + 1) a' w') : Fk P ops Q S ds ord i j a w := by
  obtain ⟨v', w', hr, hS'⟩ := ef_append (dst := some d) (ty := ty) (pos := pos) (af := af) (gd := gd) (ρ := a.eval) ht he hx hy (hS.front q hi) hl hnews h1 h63 hby
  obtain ⟨A', q', rfl, _, _⟩ := row_val hS'
  exact f_ev hD hF hp ho hg rfl hn hr (hc _ _ hS') (k _ _ _ hS')
end
end Go.Proofs.Ytbpkfifiigpdcaa.Sk
