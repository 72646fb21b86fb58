import Derived.Test.YtbpkfifiigpdcaaSk21
/-! Sk, part twenty-two: stores of elements of several cells; halves. -/
namespace Go.Proofs.Ytbpkfifiigpdcaa.Sk
open Go Go.RowKit
set_option linter.unusedVariables false
set_option linter.unusedSimpArgs false
section
variable {P : Program} {ops : Array Oper} {Q : Exit → Act → World → Prop} {rest : List Oper} {a : Act} {w0 w : World} {n : Shape} {L : List (Nat × Value)} {C : List Chunk} {S : World → Prop} {ds : List Nat} {ord : List (Nat × How)} {p j : Nat} {v : Value}
theorem s_rstoreN {t g E sz nn c k : Nat} {x y : Operand} {ty : TypeId} {pos : String} {af : Array Edge} {gd : Option (Nat × Bool)} {vs : List Value} (i : Nat) {xs : List Value} (hF : Fr a n L) (hg : wantedB ops L ⟨none, .store t x y, ty, pos, af, gd⟩ = some true)
    (hx : a.eval x = .pointer (some ⟨g, 0 + (k : Int).toNat * sz, none⟩)) (hy : a.eval y = v) (hS : Sat w0 w C) (hi : nth C i = some (rowC E sz (.slice (some ⟨g, 0, none⟩) nn c) nn xs)) (hv : v.cells.toList = vs) (hz : sizeB P t vs.length = true) (h1 : vs.all (fun u => u.oneCell') = true) (hsz : vs.length = sz) (hk : k < nn)
    (kk : ∀ w', Sat w0 w' (upd C i (rowC E sz (.slice (some ⟨g, 0, none⟩) nn c) nn (xs.take (k * sz) ++ vs ++ xs.drop (k * sz + sz)))) → wpList P ops Q rest a w') : wpList P ops Q (⟨none, .store t x y, ty, pos, af, gd⟩ :: rest) a w := by
  subst hsz
  have hb : k * vs.length + vs.length ≤ nn * vs.length := by
    have := Nat.mul_le_mul_right vs.length (show k + 1 ≤ nn by omega)
    rw [Nat.add_mul, Nat.one_mul] at this
    exact this
  obtain ⟨cs, hg', hfit, hS'⟩ := row_write (o := k * vs.length) (vs := vs) hS hi hb
  rw [Int.toNat_natCast, Nat.zero_add] at hx
  exact s_sk hF hg rfl (run_store_row hx hy hv hz (fun u hu => List.all_eq_true.1 h1 u hu) hg' hfit) (kk _ hS')
theorem l_rstoreN {t g E sz nn c k : Nat} {x y : Operand} {ty : TypeId} {pos : String} {af : Array Edge} {gd : Option (Nat × Bool)} {vs : List Value} (i : Nat) {xs : List Value} (hD : Drawn P ops Q S ds ord) (hF : Fr a n L) (hp : ord[p]? = some (j, .ls)) (ho : ops[j]? = some ⟨none, .store t x y, ty, pos, af, gd⟩)
    (hg : wantedB ops L ⟨none, .store t x y, ty, pos, af, gd⟩ = some true)
    (hx : a.eval x = .pointer (some ⟨g, 0 + (k : Int).toNat * sz, none⟩)) (hy : a.eval y = v) (hS : Sat w0 w C) (hi : nth C i = some (rowC E sz (.slice (some ⟨g, 0, none⟩) nn c) nn xs)) (hv : v.cells.toList = vs) (hz : sizeB P t vs.length = true) (h1 : vs.all (fun u => u.oneCell') = true) (hsz : vs.length = sz) (hk : k < nn)
    (kk : ∀ w', Sat w0 w' (upd C i (rowC E sz (.slice (some ⟨g, 0, none⟩) nn c) nn (xs.take (k * sz) ++ vs ++ xs.drop (k * sz + sz)))) → wpD P ops Q S ds ord (p + 1) a w') : wpD P ops Q S ds ord p a w := by
  subst hsz
  have hb : k * vs.length + vs.length ≤ nn * vs.length := by
    have := Nat.mul_le_mul_right vs.length (show k + 1 ≤ nn by omega)
    rw [Nat.add_mul, Nat.one_mul] at this
    exact this
  obtain ⟨cs, hg', hfit, hS'⟩ := row_write (o := k * vs.length) (vs := vs) hS hi hb
  rw [Int.toNat_natCast, Nat.zero_add] at hx
  exact l_sk hD hF hp ho hg rfl (run_store_row hx hy hv hz (fun u hu => List.all_eq_true.1 h1 u hu) hg' hfit) (kk _ hS')
end
section
variable {P : Program} {ρ : Operand → Value} {dst : Option Tmp} {ty : TypeId} {pos : String} {af : Array Edge} {g : Option (Nat × Bool)}
theorem wrap_pos {k : IntKind} {m : Int} (hk : k.bits = 64) (h0 : 0 ≤ m) (h1 : m ≤ 9223372036854775807) : k.wrap m = m := by
  unfold IntKind.wrap
  rw [hk]
  have e : m % (2 ^ 64 : Int) = m := by omega
  simp only [e]
  rw [if_neg]
  simp
  omega
theorem pu_convP {s t : Nat} {x : Operand} {k k' : IntKind} {m : Int} (hs : intB P s k = true) (ht : intB P t k' = true) (hx : ρ x = .int k m) (hk : k'.bits = 64) (h0 : 0 ≤ m) (h1 : m ≤ 9223372036854775807) : Pu P ρ ⟨dst, .convert s t x, ty, pos, af, g⟩ (.int k' m) := by
  have := pu_conv_int (P := P) (ρ := ρ) (dst := dst) (ty := ty) (pos := pos) (af := af) (g := g) hs ht hx
  rw [wrap_pos hk h0 h1] at this
  exact this
theorem pu_half {t u : Nat} {x y : Operand} {k k' : IntKind} {m : Int} (hx : ρ x = .int k m) (hy : ρ y = .int k' 1) (h : k.bits = 64) : Pu P ρ ⟨dst, .binOp .shr t x y u, ty, pos, af, g⟩ (.int k (m / 2)) := fun w => by
  have e2 : m.fdiv 2 = m / 2 := Int.fdiv_eq_ediv_of_nonneg _ (by decide)
  simp [execOp, hx, hy, eqGuard, binOp, Op.shift, Sem.run, Sem.bind, bind, pure, h, e2]
end
end Go.Proofs.Ytbpkfifiigpdcaa.Sk
