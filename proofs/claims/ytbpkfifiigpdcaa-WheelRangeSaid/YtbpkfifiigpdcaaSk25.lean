import Derived.Test.YtbpkfifiigpdcaaSk20
/-! Sk, part twenty-five: append that leaves the old row to be used again; parts of a row that may be nil. -/
namespace Go.Proofs.Ytbpkfifiigpdcaa.Sk
open Go Go.RowKit
set_option linter.unusedVariables false
set_option linter.unusedSimpArgs false
section
variable {w0 w : World} {C : List Chunk} {E sz : Nat} {v : Value} {n : Nat} {xs : List Value}
theorem row_back {g cap m : Nat} {ys : List Value} (h : Sat w0 w (rowC E sz (.slice (some ⟨g, 0, none⟩) (n + m) cap) (n + m) ys :: C)) (hx : xs.length = n * sz) (hy : ys.take (n * sz) = xs) : Sat w0 w (rowC E sz (.slice (some ⟨g, 0, none⟩) n cap) n xs :: C) := by
  rcases (row_open h).2 with ⟨e, _⟩ | ⟨g2, cap2, cur, e, h1, h2, h3, h4, hC⟩
  · cases e
  · injection e with e1 e2 e3
    injection e1 with e1
    injection e1 with e1
    subst e1
    subst e3
    refine row_shut hC (by omega) h2 h3 ?_
    rw [← hy, ← h4, List.take_take]
    congr 1
    have : n * sz ≤ (n + m) * sz := Nat.mul_le_mul_right _ (by omega)
    omega
theorem run_append_row2 {P : Program} {t ty by_ : Nat} {A : Addr} {m c : Nat} {news : List Value} (ht : sliceB P t E sz = true) (he : elemB P E sz by_ = true) (h : Sat w0 w (rowC E sz v n xs :: C))
    (hl : news.length = m * sz) (hnews : ∀ j u, news[j]? = some u → w.cell? (A.add j) = some u) (h1 : ∀ u ∈ news, u.oneCell' = true) (h63 : n + m ≤ maxLen) (hby : (n + m) * by_ ≤ 140737488355328) :
    ∃ v' w' C1, (Builtin.append_ #[t, t] ty #[v, .slice (some A) m c]).run P w = .ok v' w' ∧ Sat w0 w' (rowC E sz v' (n + m) (xs ++ news) :: C1) ∧ ∀ w'', Sat w0 w'' (rowC E sz v' (n + m) (xs ++ news) :: C1) → Sat w0 w'' (rowC E sz v n xs :: C) := by
  obtain ⟨hu, _⟩ := sliceB_spec ht
  obtain ⟨i, z, hi, hs, hb, hz, hzs⟩ := elemB_spec he
  obtain ⟨hx, hcase⟩ := row_open h
  have hlen : (xs ++ news).length = (n + m) * sz := by rw [List.length_append, hx, hl, Nat.add_mul]
  have htk : (xs ++ news).take (n * sz) = xs := by rw [← hx]; exact List.take_left
  have h63' : n + m ≤ 9223372036854775807 := by simp only [maxLen] at h63; omega
  rcases hcase with ⟨rfl, rfl, hC⟩ | ⟨g, cap, cur, rfl, hnc, hcm, hcs, htake, hC⟩
  · obtain ⟨v', w', hr, hS⟩ := run_append_row (ty := ty) (c := c) ht he h hl hnews h1 h63 hby
    refine ⟨v', w', C, hr, hS, fun w'' h2 => ?_⟩
    have hx0 : xs = [] := List.eq_nil_of_length_eq_zero (by simpa using hx)
    subst hx0
    exact row_nil h2.tail
  · subst hs
    subst hb
    by_cases hroom : n + m ≤ cap
    · have hfit : n * i.size + news.length ≤ cur.size := by rw [hl, hcs, ← Nat.add_mul]; exact Nat.mul_le_mul_right _ hroom
      have hr := run_append_room (P := P) w t ty E i hu hi g n cap cur hC.obj A m c news hl hnews h1 hroom hfit
      refine ⟨_, _, C, hr, row_shut (sat_setRow (i := 0) hC rfl) hroom hcm ?_ ?_, fun w'' h2 => row_back h2 hx htk⟩
      · simp only [List.size_toArray, List.length_append, List.length_take, List.length_drop, Array.length_toList]
        omega
      · rw [htake, ← hlen]
        simp only [List.append_assoc]
        rw [← List.append_assoc]
        exact List.take_left
    · have holds : ∀ j u, xs[j]? = some u → w.cell? ((⟨g, 0, none⟩ : Addr).add j) = some u := by
        intro j u hj
        rw [addr_add, Nat.zero_add]
        rw [← htake, List.getElem?_take] at hj
        split at hj
        · simp [World.cell?, hC.obj]
          simpa using hj
        · cases hj
      have hr := run_append_grow (P := P) w t ty E i z hu hi hz ⟨g, 0, none⟩ n cap xs hx holds A m c news hl hnews (by omega) (by omega) (growslice_fits (by omega) hby)
      refine ⟨_, _, rowC E i.size (.slice (some ⟨g, 0, none⟩) n cap) n xs :: C, hr, ?_, fun w'' h2 => h2.tail⟩
      have hge := grownCap_ge w (n + m) cap E
      refine row_shut (h.drew.new (o := .cells (xs.toArray ++ news.toArray ++ Builtin.zeroCells z.cells (grownCap w (n + m) cap E - (n + m))) E)) hge (grownCap_le_maxLen w (n + m) cap E h63) ?_ ?_
      · simp only [Array.size_append, List.size_toArray, size_zeroC, hzs, hx, hl, ← Nat.add_mul]
        congr 1; omega
      · simp only [Array.toList_append, List.append_assoc]
        rw [← List.append_assoc, ← hlen]
        exact List.take_left
end
section
variable {P : Program} {ops : Array Oper} {Q : Exit → Act → World → Prop} {rest : List Oper} {a : Act} {w0 w : World} {n : Shape} {d : Nat} {L : List (Nat × Value)} {C : List Chunk} {v : Value}
/-- append of a literal, the old row kept. -/
theorem s_append2 {E sz t by_ nn m c bb : Nat} (i j : Nat) {x y : Operand} {ty : TypeId} {pos : String} {af : Array Edge} {gd : Option (Nat × Bool)} {xs news : List Value} (hF : Fr a n L)
    (hg : wantedB ops L ⟨some d, .call { callee := .builtin .append, args := #[x, y], argTypes := #[t, t] }, ty, pos, af, gd⟩ = some true) (hn : Nat.blt d n.size = true) (ht : sliceB P t E sz = true) (he : elemB P E sz by_ = true) (hx : a.eval x = v)
    (hy : a.eval y = .slice (some ⟨bb, 0, none⟩) m c) (hS : Sat w0 w C) (hi : nth C i = some (rowC E sz v nn xs)) (hj : nth C j = some (.obj bb (.cells news.toArray E (0, 0)))) (hl : news.length = m * sz) (h1 : news.all (fun u => u.oneCell') = true)
    (h63 : nn + m ≤ maxLen) (hby : (nn + m) * by_ ≤ 140737488355328)
    (k : ∀ A q w' C1, Sat w0 w' (rowC E sz (.slice A (nn + m) q) (nn + m) (xs ++ news) :: C1) → (∀ w'', Sat w0 w'' (rowC E sz (.slice A (nn + m) q) (nn + m) (xs ++ news) :: C1) → Sat w0 w'' C) → ∀ a', Fr a' n ((d, .slice A (nn + m) q) :: L) → wpList P ops Q rest a' w') :
    wpList P ops Q (⟨some d, .call { callee := .builtin .append, args := #[x, y], argTypes := #[t, t] }, ty, pos, af, gd⟩ :: rest) a w := by
  obtain ⟨v', w', C1, hr, hS1, hS2⟩ := run_append_row2 (ty := ty) (A := ⟨bb, 0, none⟩) (c := c) ht he (hS.front i hi) hl (fun k u hu => by rw [addr_add]; exact hS.cell hj (by simpa using hu)) (fun u hu => List.all_eq_true.1 h1 u hu) h63 hby
  obtain ⟨A, q, rfl, _⟩ := row_val hS1
  refine s_ev hF hg rfl hn ?_ (k A q w' C1 hS1 (fun w'' h => same_place i (hS2 w'' h) hi))
  simp only [execOp, resolve, invoke, builtin, Sem.run_bind, Sem.run_pure, Result.andThen_ok, List.map_toArray, List.map_cons, List.map_nil, hx, hy, hr]
end
section
variable {P : Program} {ρ : Operand → Value} {dst : Option Tmp} {ty : TypeId} {pos : String} {af : Array Edge} {gd : Option (Nat × Bool)}
theorem pu_cutHiO {t e' n : Nat} {x hi : Operand} {A : Option Addr} {len cap : Nat} {j : Int} (ht : sliceB P t e' n = true) (hx : ρ x = .slice A len cap) (hh : ρ hi = .int .i64 j) (h1 : 0 ≤ j) (h2 : j ≤ cap) :
    Pu P ρ ⟨dst, .slice t x none (some hi) none, ty, pos, af, gd⟩ (.slice A j.toNat cap) := fun w => by
  obtain ⟨hu, q, hq, hn⟩ := sliceB_spec ht
  have h4 : 0 ≤ max j 0 := by omega
  have h5 : ¬ max j 0 < 0 := by omega
  have hz : (sizeOf e').run P w = .ok n w := by simp [sizeOf, typeInfo, program, hq, hn, Sem.run, Sem.bind, bind, pure]
  have e : ∀ A : Addr, A.add 0 = A := fun A => by simp [Addr.add]
  cases A <;> simp [execOp, hx, hh, Instr.sliceAt, Instr.slice, Instr.sliceBounds, Instr.sliceBound, asIntOf, run_underlying hu, h1, h2, h4, h5, hz, e]
theorem pu_cutLoO {t e' n : Nat} {x lo : Operand} {A : Option Addr} {len cap : Nat} {i : Int} (ht : sliceB P t e' n = true) (hx : ρ x = .slice A len cap) (hl : ρ lo = .int .i64 i) (h0 : 0 ≤ i) (h1 : i ≤ len) :
    Pu P ρ ⟨dst, .slice t x (some lo) none none, ty, pos, af, gd⟩ (.slice (if cap = i.toNat then A else A.map (·.add (i.toNat * n))) (len - i.toNat) (cap - i.toNat)) := fun w => by
  obtain ⟨hu, q, hq, hn⟩ := sliceB_spec ht
  have hz : (sizeOf e').run P w = .ok n w := by simp [sizeOf, typeInfo, program, hq, hn, Sem.run, Sem.bind, bind, pure]
  simp [execOp, hx, hl, Instr.sliceAt, Instr.slice, Instr.sliceBounds, Instr.sliceBound, asIntOf, run_underlying hu, h0, h1, hz]
/-- The end of a row of one's own. -/
theorem Reads.of_drop {w0 : World} {C : List Chunk} {E n c o : Nat} {A : Option Addr} {zs : List Int} (i : Nat) (hi : nth C i = some (rowC E 1 (.slice A n c) n (ints zs))) (hm : zs.length = n) (hc : n ≤ c) (hA : n ≠ 0 → ∃ g, A = some ⟨g, 0, none⟩) :
    Reads w0 C (if c = o then A else A.map (·.add (o * 1))) (n - o) (zs.drop o) := by
  refine ⟨by simp [hm], fun k hk => ?_⟩
  obtain ⟨g, rfl⟩ := hA (by omega)
  rw [if_neg (by omega)]
  refine ⟨_, rfl, fun w hS => ?_⟩
  have hko : o + k < zs.length := by omega
  have hv : (ints zs)[o + k]? = some (.int .i64 ((zs.drop o).getD k 0)) := by
    simp [ints, List.getD_eq_getElem?_getD, hko]
  have := row_at (k := o + k) hS hi hv
  rw [← this]
  show w.cell? (((⟨g, 0, none⟩ : Addr).add (o * 1)).add ((k : Int).toNat * 1)) = _
  rw [addr_add, addr_add, show 0 + o * 1 + (k : Int).toNat * 1 = 0 + ((o + k : Nat) : Int).toNat * 1 by omega]
end
end Go.Proofs.Ytbpkfifiigpdcaa.Sk
