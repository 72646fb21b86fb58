import Derived.Test.YtbpkfifiigpdcaaSk25
/-! Sk, part twenty-six: append of a literal, and whether it was in place. -/
namespace Go.Proofs.Ytbpkfifiigpdcaa.Sk
open Go Go.RowKit
set_option linter.unusedVariables false
set_option linter.unusedSimpArgs false
section
variable {w0 w : World} {C : List Chunk} {E sz : Nat} {n : Nat} {xs : List Value}
theorem run_append_row3 {P : Program} {t ty by_ : Nat} {A : Addr} {A0 : Option Addr} {m c c0 : Nat} {news : List Value} (ht : sliceB P t E sz = true) (he : elemB P E sz by_ = true) (h : Sat w0 w (rowC E sz (.slice A0 n c0) n xs :: C))
    (hl : news.length = m * sz) (hnews : ∀ j u, news[j]? = some u → w.cell? (A.add j) = some u) (h1 : ∀ u ∈ news, u.oneCell' = true) (h63 : n + m ≤ maxLen) (hby : (n + m) * by_ ≤ 140737488355328) :
    ∃ A' q w' C1, (Builtin.append_ #[t, t] ty #[.slice A0 n c0, .slice (some A) m c]).run P w = .ok (.slice A' (n + m) q) w' ∧ (A' = A0 ∧ C1 = C ∨ C1 = rowC E sz (.slice A0 n c0) n xs :: C) ∧ Sat w0 w' (rowC E sz (.slice A' (n + m) q) (n + m) (xs ++ news) :: C1) := by
  obtain ⟨hu, _⟩ := sliceB_spec ht
  obtain ⟨i, z, hi, hs, hb, hz, hzs⟩ := elemB_spec he
  obtain ⟨hx, hcase⟩ := row_open h
  have hlen : (xs ++ news).length = (n + m) * sz := by rw [List.length_append, hx, hl, Nat.add_mul]
  have h63' : n + m ≤ 9223372036854775807 := by simp only [maxLen] at h63; omega
  rcases hcase with ⟨e, hn, hC⟩ | ⟨g, cap, cur, e, hnc, hcm, hcs, htake, hC⟩
  · injection e with e1 e2 e3
    subst e1
    subst e2
    subst e3
    have hx0 : xs = [] := List.eq_nil_of_length_eq_zero (by simpa using hx)
    subst hx0
    obtain ⟨v', w', hr, hS⟩ := run_append_row (ty := ty) (c := c) ht he h hl hnews h1 h63 hby
    obtain ⟨A', q, rfl, _⟩ := row_val hS
    exact ⟨A', q, w', _, hr, .inr rfl, (row_nil hS).perm (List.Perm.swap _ _ _)⟩
  · injection e with e1 e2 e3
    subst e1
    subst e3
    subst hs
    subst hb
    by_cases hroom : n + m ≤ c0
    · have hfit : n * i.size + news.length ≤ cur.size := by rw [hl, hcs, ← Nat.add_mul]; exact Nat.mul_le_mul_right _ hroom
      have hr := run_append_room (P := P) w t ty E i hu hi g n c0 cur hC.obj A m c news hl hnews h1 hroom hfit
      refine ⟨_, _, _, C, hr, .inl ⟨rfl, rfl⟩, row_shut (sat_setRow (i := 0) hC rfl) hroom hcm ?_ ?_⟩
      · simp only [List.size_toArray, List.length_append, List.length_take, List.length_drop, Array.length_toList]
        omega
      · rw [htake, ← hlen]
        simp only [List.append_assoc]
        rw [← List.append_assoc]
        exact List.take_left
    · have holds : ∀ j u, xs[j]? = some u → w.cell? ((⟨g, 0, none⟩ : Addr).add j) = some u := by
        intro j u hj
        rw [addr_add, Nat.zero_add]
        rw [← htake, List.getElem?_take] at hj
        split at hj
        · simp [World.cell?, hC.obj]
          simpa using hj
        · cases hj
      have hr := run_append_grow (P := P) w t ty E i z hu hi hz ⟨g, 0, none⟩ n c0 xs hx holds A m c news hl hnews (by omega) (by omega) (growslice_fits (by omega) hby)
      refine ⟨_, _, _, rowC E i.size (.slice (some ⟨g, 0, none⟩) n c0) n xs :: C, hr, .inr rfl, ?_⟩
      have hge := grownCap_ge w (n + m) c0 E
      refine row_shut (h.drew.new (o := .cells (xs.toArray ++ news.toArray ++ Builtin.zeroCells z.cells (grownCap w (n + m) c0 E - (n + m))) E)) hge (grownCap_le_maxLen w (n + m) c0 E h63) ?_ ?_
      · simp only [Array.size_append, List.size_toArray, size_zeroC, hzs, hx, hl, ← Nat.add_mul]
        congr 1; omega
      · simp only [Array.toList_append, List.append_assoc]
        rw [← List.append_assoc, ← hlen]
        exact List.take_left
end
section
variable {P : Program} {ops : Array Oper} {Q : Exit → Act → World → Prop} {rest : List Oper} {a : Act} {w0 w : World} {n : Shape} {d : Nat} {L : List (Nat × Value)} {C : List Chunk}
/-- append of a literal: in place (the same address), or the old row stays behind. -/
theorem s_append3 {E sz t by_ nn m c c0 bb : Nat} {A0 : Option Addr} (i j : Nat) {x y : Operand} {ty : TypeId} {pos : String} {af : Array Edge} {gd : Option (Nat × Bool)} {xs news : List Value} (hF : Fr a n L)
    (hg : wantedB ops L ⟨some d, .call { callee := .builtin .append, args := #[x, y], argTypes := #[t, t] }, ty, pos, af, gd⟩ = some true) (hn : Nat.blt d n.size = true) (ht : sliceB P t E sz = true) (he : elemB P E sz by_ = true) (hx : a.eval x = .slice A0 nn c0)
    (hy : a.eval y = .slice (some ⟨bb, 0, none⟩) m c) (hS : Sat w0 w C) (hi : nth C i = some (rowC E sz (.slice A0 nn c0) nn xs)) (hj : nth C j = some (.obj bb (.cells news.toArray E (0, 0)))) (hl : news.length = m * sz) (h1 : news.all (fun u => u.oneCell') = true)
    (h63 : nn + m ≤ maxLen) (hby : (nn + m) * by_ ≤ 140737488355328)
    (k : ∀ A q w' C1, (A = A0 ∧ C1 = del C i ∨ C1 = rowC E sz (.slice A0 nn c0) nn xs :: del C i) → Sat w0 w' (rowC E sz (.slice A (nn + m) q) (nn + m) (xs ++ news) :: C1) → ∀ a', Fr a' n ((d, .slice A (nn + m) q) :: L) → wpList P ops Q rest a' w') :
    wpList P ops Q (⟨some d, .call { callee := .builtin .append, args := #[x, y], argTypes := #[t, t] }, ty, pos, af, gd⟩ :: rest) a w := by
  obtain ⟨A, q, w', C1, hr, hcs, hS1⟩ := run_append_row3 (ty := ty) (A := ⟨bb, 0, none⟩) (c := c) ht he (hS.front i hi) hl (fun k u hu => by rw [addr_add]; exact hS.cell hj (by simpa using hu)) (fun u hu => List.all_eq_true.1 h1 u hu) h63 hby
  refine s_ev hF hg rfl hn ?_ (k A q w' C1 hcs hS1)
  simp only [execOp, resolve, invoke, builtin, Sem.run_bind, Sem.run_pure, Result.andThen_ok, List.map_toArray, List.map_cons, List.map_nil, hx, hy, hr]
end
end Go.Proofs.Ytbpkfifiigpdcaa.Sk
