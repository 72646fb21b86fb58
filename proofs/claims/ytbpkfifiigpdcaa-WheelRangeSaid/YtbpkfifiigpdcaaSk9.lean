import Derived.Test.YtbpkfifiigpdcaaSk8
/-! Sk, part nine: rows of whole numbers that are read, wherever they lie. -/
namespace Go.Proofs.Ytbpkfifiigpdcaa.Sk
open Go Go.RowKit
set_option linter.unusedVariables false
set_option linter.unusedSimpArgs false

section ops
variable {P : Program} {ρ : Operand → Value} {dst : Option Tmp} {ty : TypeId} {pos : String} {af : Array Edge} {g : Option (Nat × Bool)}
theorem pu_cutHi {t e' n : Nat} {x hi : Operand} {b o len cap : Nat} {j : Int} (ht : sliceB P t e' n = true) (hx : ρ x = .slice (some ⟨b, o, none⟩) len cap) (hh : ρ hi = .int .i64 j) (h1 : 0 ≤ j) (h2 : j ≤ cap) :
    Pu P ρ ⟨dst, .slice t x none (some hi) none, ty, pos, af, g⟩ (.slice (some ⟨b, o, none⟩) j.toNat cap) := fun w => by
  obtain ⟨hu, q, hq, hn⟩ := sliceB_spec ht
  have h4 : 0 ≤ max j 0 := by omega
  have h5 : ¬ max j 0 < 0 := by omega
  have hz : (sizeOf e').run P w = .ok n w := by simp [sizeOf, typeInfo, program, hq, hn, Sem.run, Sem.bind, bind, pure]
  have e : ∀ A : Addr, A.add 0 = A := fun A => by simp [Addr.add]
  simp [execOp, hx, hh, Instr.sliceAt, Instr.slice, Instr.sliceBounds, Instr.sliceBound, asIntOf, run_underlying hu, h1, h2, h4, h5, hz, e]
end ops

/-- What these places hold, in every world of the form C. -/
structure Reads (w0 : World) (C : List Chunk) (a : Option Addr) (len : Nat) (zs : List Int) : Prop where
  long : zs.length = len
  at_ : ∀ i, i < len → ∃ x, a = some x ∧ ∀ w, Sat w0 w C → w.cell? (x.add ((i : Int).toNat * 1)) = some (.int .i64 (zs.getD i 0))
def ints (zs : List Int) : List Value := zs.map (.int .i64)
theorem Reads.of_in {w0 W : World} {C : List Chunk} {a : Option Addr} {len : Nat} {zs : List Int} (i : Nat) (h : IntsIn W a len zs) (hi : nth C i = some (whole W)) : Reads w0 C a len (zs.take len) := by
  refine ⟨by have := h.len; simp; omega, fun j hj => ?_⟩
  obtain ⟨x, rfl, hv, _⟩ := h.at_ j hj
  refine ⟨x, rfl, fun w hS => ?_⟩
  have hv' := hS.whole_at hi hv
  rw [Int.toNat_natCast, Nat.mul_one, hv']
  simp [List.getD_eq_getElem?_getD, hj]
/-- A row of my own (or its begin). -/
theorem Reads.of_row {w0 : World} {C : List Chunk} {E n c m : Nat} {A : Option Addr} {zs : List Int} {xs : List Value} (i : Nat) (hi : nth C i = some (rowC E 1 (.slice A n c) n xs)) (hz : ∀ k, k < m → xs[k]? = some (.int .i64 (zs.getD k 0))) (hm : zs.length = m) (hA : m ≠ 0 → ∃ g, A = some ⟨g, 0, none⟩) : Reads w0 C A m zs := by
  refine ⟨hm, fun k hk => ?_⟩
  obtain ⟨g, rfl⟩ := hA (by omega)
  refine ⟨_, rfl, fun w hS => ?_⟩
  have := row_at (k := k) hS hi (hz k hk)
  rw [← this]
  congr 1
  unfold Addr.add
  split
  · rename_i h; rw [h]
  · rfl
theorem Reads.cells {w0 w : World} {C : List Chunk} {A : Addr} {len : Nat} {zs : List Int} (h : Reads w0 C (some A) len zs) (hS : Sat w0 w C) : ∀ j u, (ints zs)[j]? = some u → w.cell? (A.add j) = some u := by
  intro j u hu
  unfold ints at hu
  rw [List.getElem?_map] at hu
  cases hz : zs[j]? with
  | none => rw [hz] at hu; cases hu
  | some z =>
    rw [hz] at hu
    injection hu with hu
    subst hu
    have hj := (List.getElem?_eq_some_iff.1 hz).1
    obtain ⟨x, e, hv⟩ := h.at_ j (by rw [← h.long]; exact hj)
    injection e with e
    subst e
    have := hv w hS
    rw [Int.toNat_natCast, Nat.mul_one] at this
    rw [this, List.getD_eq_getElem?_getD, hz]
    rfl
theorem ints_one {zs : List Int} : ∀ u ∈ ints zs, u.oneCell' = true := by
  intro u hu
  obtain ⟨z, _, rfl⟩ := List.mem_map.1 hu
  rfl
section steps
variable {P : Program} {ops : Array Oper} {Q : Exit → Act → World → Prop} {rest : List Oper} {a : Act} {w0 w : World} {n : Shape} {d : Nat} {L : List (Nat × Value)} {C : List Chunk}
/-- append([]int(nil), r...): a row of one's own. -/
theorem s_appendR {t E by_ m c : Nat} {A : Addr} {x y : Operand} {zs : List Int} {ty : TypeId} {pos : String} {af : Array Edge} {gd : Option (Nat × Bool)} (hF : Fr a n L)
    (hg : wantedB ops L ⟨some d, .call { callee := .builtin .append, args := #[x, y], argTypes := #[t, t] }, ty, pos, af, gd⟩ = some true) (hn : Nat.blt d n.size = true) (ht : sliceB P t E 1 = true) (he : elemB P E 1 by_ = true)
    (hx : a.eval x = .slice none 0 0) (hy : a.eval y = .slice (some A) m c) (hS : Sat w0 w C) (hR : Reads w0 C (some A) m zs) (h63 : m ≤ maxLen) (hby : m * by_ ≤ 140737488355328)
    (k : ∀ A' q w', Sat w0 w' (rowC E 1 (.slice A' m q) m (ints zs) :: C) → ∀ a', Fr a' n ((d, .slice A' m q) :: L) → wpList P ops Q rest a' w') :
    wpList P ops Q (⟨some d, .call { callee := .builtin .append, args := #[x, y], argTypes := #[t, t] }, ty, pos, af, gd⟩ :: rest) a w := by
  obtain ⟨v', w', hr, hS'⟩ := ef_append (dst := some d) (ty := ty) (pos := pos) (af := af) (gd := gd) (ρ := a.eval) ht he hx hy (row_nil (E := E) (sz := 1) hS) (news := ints zs) (by rw [ints, List.length_map, hR.long]; omega) (hR.cells hS) ints_one (by omega) (by rw [Nat.zero_add]; exact hby)
  rw [Nat.zero_add, List.nil_append] at hS'
  obtain ⟨A', q, rfl, _, _⟩ := row_val hS'
  exact s_ev hF hg rfl hn hr (k _ _ _ hS')
end steps
end Go.Proofs.Ytbpkfifiigpdcaa.Sk
