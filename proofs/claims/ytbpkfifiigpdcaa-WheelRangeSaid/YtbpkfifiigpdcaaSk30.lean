import Derived.Test.YtbpkfifiigpdcaaSk29
/-! Sk, part thirty: append of a part of another row. -/
namespace Go.Proofs.Ytbpkfifiigpdcaa.Sk
open Go Go.RowKit
set_option linter.unusedVariables false
set_option linter.unusedSimpArgs false
section
variable {w0 w : World} {C : List Chunk} {E sz : Nat} {v : Value} {n m c : Nat} {xs ys news : List Value} {A B : Option Addr}
/-- What these places hold: nothing at all, or these cells. -/
def Win (w : World) (B : Option Addr) (m : Nat) (news : List Value) : Prop := m = 0 ∨ ∃ A, B = some A ∧ ∀ q u, news[q]? = some u → w.cell? (A.add q) = some u
theorem win_row {jj : Nat} (hS : Sat w0 w C) (hj : nth C jj = some (rowC E sz (.slice A n c) n ys)) : Win w A n ys := by
  rcases Nat.eq_zero_or_pos n with h | h
  · exact .inl h
  · obtain ⟨g, c', e, _, hc⟩ := row_cell (hS.front jj hj) h
    injection e with e1 e2 e3
    subst e1
    exact .inr ⟨_, rfl, fun q u hu => by rw [addr_add, Nat.zero_add]; exact hc q u hu⟩
theorem win_pre {jj : Nat} (hS : Sat w0 w C) (hj : nth C jj = some (rowC E sz (.slice A n c) n ys)) (hm : m ≤ n) : Win w A m (ys.take (m * sz)) := by
  rcases Nat.eq_zero_or_pos m with h | h
  · exact .inl h
  · rcases win_row hS hj with h0 | ⟨A', e, hc⟩
    · omega
    · refine .inr ⟨A', e, fun q u hu => hc q u ?_⟩
      rw [List.getElem?_take] at hu
      split at hu
      · exact hu
      · cases hu
theorem win_post {jj o : Nat} (hS : Sat w0 w C) (hj : nth C jj = some (rowC E sz (.slice A n c) n ys)) (hc : n ≤ c) : Win w (if c = o then A else A.map (·.add (o * sz))) (n - o) (ys.drop (o * sz)) := by
  rcases Nat.eq_zero_or_pos (n - o) with h | h
  · exact .inl h
  · rw [if_neg (by omega)]
    obtain ⟨g, c', e, _, hcc⟩ := row_cell (hS.front jj hj) (by omega)
    injection e with e1 e2 e3
    subst e1
    refine .inr ⟨_, rfl, fun q u hu => ?_⟩
    rw [List.getElem?_drop] at hu
    show w.cell? (((⟨g, 0, none⟩ : Addr).add (o * sz)).add q) = some u
    rw [addr_add, addr_add, Nat.zero_add]
    exact hcc _ _ hu
theorem run_appendW {P : Program} {t ty by_ : Nat} (ht : sliceB P t E sz = true) (he : elemB P E sz by_ = true) (h : Sat w0 w (rowC E sz v n xs :: C)) (hl : news.length = m * sz) (hB : Win w B m news) (h1 : ∀ u ∈ news, u.oneCell' = true) (h63 : n + m ≤ maxLen) (hby : (n + m) * by_ ≤ 140737488355328) :
    ∃ A' q w', (Builtin.append_ #[t, t] ty #[v, .slice B m c]).run P w = .ok (.slice A' (n + m) q) w' ∧ Sat w0 w' (rowC E sz (.slice A' (n + m) q) (n + m) (xs ++ news) :: C) := by
  rcases Nat.eq_zero_or_pos m with h0 | h0
  · subst h0
    have hn : news = [] := List.eq_nil_of_length_eq_zero (by simpa using hl)
    subst hn
    obtain ⟨A', q, rfl, _⟩ := row_val h
    exact ⟨A', q, w, run_append_none ht h, by simpa using h⟩
  · rcases hB with hB | ⟨A, rfl, hc⟩
    · omega
    · obtain ⟨v', w', hr, hS⟩ := run_append_row (ty := ty) (c := c) ht he h hl hc h1 h63 hby
      obtain ⟨A', q, rfl, _⟩ := row_val hS
      exact ⟨A', q, w', hr, hS⟩
end
section
variable {P : Program} {ops : Array Oper} {Q : Exit → Act → World → Prop} {rest : List Oper} {a : Act} {w0 w : World} {n : Shape} {d : Nat} {L : List (Nat × Value)} {C : List Chunk} {S : World → Prop} {ds : List Nat} {ord : List (Nat × How)} {p j : Nat} {v : Value}
theorem s_appendV {E sz t by_ nn m c : Nat} {B : Option Addr} (i : Nat) {x y : Operand} {ty : TypeId} {pos : String} {af : Array Edge} {gd : Option (Nat × Bool)} {xs news : List Value} (hF : Fr a n L)
    (hg : wantedB ops L ⟨some d, .call { callee := .builtin .append, args := #[x, y], argTypes := #[t, t] }, ty, pos, af, gd⟩ = some true) (hn : Nat.blt d n.size = true) (ht : sliceB P t E sz = true) (he : elemB P E sz by_ = true) (hx : a.eval x = v)
    (hy : a.eval y = .slice B m c) (hS : Sat w0 w C) (hi : nth C i = some (rowC E sz v nn xs)) (hl : news.length = m * sz) (hB : Win w B m news) (h1 : ∀ u ∈ news, u.oneCell' = true) (h63 : nn + m ≤ maxLen) (hby : (nn + m) * by_ ≤ 140737488355328)
    (k : ∀ A q w', Sat w0 w' (rowC E sz (.slice A (nn + m) q) (nn + m) (xs ++ news) :: del C i) → ∀ a', Fr a' n ((d, .slice A (nn + m) q) :: L) → wpList P ops Q rest a' w') :
    wpList P ops Q (⟨some d, .call { callee := .builtin .append, args := #[x, y], argTypes := #[t, t] }, ty, pos, af, gd⟩ :: rest) a w := by
  obtain ⟨A', q, w', hr, hS'⟩ := run_appendW (ty := ty) (c := c) ht he (hS.front i hi) hl hB h1 h63 hby
  refine s_ev hF hg rfl hn ?_ (k _ _ _ hS')
  simp only [execOp, resolve, invoke, builtin, Sem.run_bind, Sem.run_pure, Result.andThen_ok, List.map_toArray, List.map_cons, List.map_nil, hx, hy, hr]
theorem d_appendV {E sz t by_ nn m c : Nat} {B : Option Addr} (i : Nat) {x y : Operand} {ty : TypeId} {pos : String} {af : Array Edge} {gd : Option (Nat × Bool)} {xs news : List Value} (hD : Drawn P ops Q S ds ord) (hF : Fr a n L) (hp : ord[p]? = some (j, .on))
    (ho : ops[j]? = some ⟨some d, .call { callee := .builtin .append, args := #[x, y], argTypes := #[t, t] }, ty, pos, af, gd⟩)
    (hg : wantedB ops L ⟨some d, .call { callee := .builtin .append, args := #[x, y], argTypes := #[t, t] }, ty, pos, af, gd⟩ = some true) (hn : Nat.blt d n.size = true) (ht : sliceB P t E sz = true) (he : elemB P E sz by_ = true) (hx : a.eval x = v)
    (hy : a.eval y = .slice B m c) (hS : Sat w0 w C) (hi : nth C i = some (rowC E sz v nn xs)) (hl : news.length = m * sz) (hB : Win w B m news) (h1 : ∀ u ∈ news, u.oneCell' = true) (h63 : nn + m ≤ maxLen) (hby : (nn + m) * by_ ≤ 140737488355328)
    (hc : ∀ v' w', Sat w0 w' (rowC E sz v' (nn + m) (xs ++ news) :: del C i) → S w')
    (k : ∀ A q w', Sat w0 w' (rowC E sz (.slice A (nn + m) q) (nn + m) (xs ++ news) :: del C i) → ∀ a', Fr a' n ((d, .slice A (nn + m) q) :: L) → wpD P ops Q S ds ord (p + 1) a' w') : wpD P ops Q S ds ord p a w := by
  obtain ⟨A', q, w', hr, hS'⟩ := run_appendW (ty := ty) (c := c) ht he (hS.front i hi) hl hB h1 h63 hby
  refine d_ev hD hF hp ho hg rfl hn ?_ (hc _ _ hS') (k _ _ _ hS')
  simp only [execOp, resolve, invoke, builtin, Sem.run_bind, Sem.run_pure, Result.andThen_ok, List.map_toArray, List.map_cons, List.map_nil, hx, hy, hr]
end
end Go.Proofs.Ytbpkfifiigpdcaa.Sk
