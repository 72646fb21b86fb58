import Derived.Test.YtbfdebddoncfhaaMB
import Derived.Test.YtbfdebddoncfhaaMA
import Derived.RangeFuncRecord
import Derived.RangeFuncSeq
import Derived.OrdersIn
import Derived.LoopIn
/-! Sk, part nineteen: structs of numbers and texts compared; exclusive or. -/
namespace Go.Proofs.Ytbfdebddoncfhaa.Sk
open Go Go.RowKit
set_option linter.unusedVariables false
set_option linter.unusedSimpArgs false
section
variable {P : Program} {ρ : Operand → Value} {dst : Option Tmp} {ty : TypeId} {pos : String} {af : Array Edge} {g : Option (Nat × Bool)}
theorem struct_eq {K : Type} [DecidableEq K] {kt : TypeId} {fs : Array Field} (sc : K → List Sc) (hu : P.underlying kt = some (.struct fs)) (hp : P.stoodInHeld kt = false) (hfit : ∀ x, fitB P fs.toList (sc x) 0 = true) (hlike : ∀ x y, likeAll (sc x) (sc y) = true)
    (hinj : ∀ x y, sc x = sc y → x = y) (x y : K) (w : World) : (Op.equal kt (.agg ((sc x).map Sc.val).toArray) (.agg ((sc y).map Sc.val).toArray)).run P w = .ok (decide (x = y)) w := by
  have hf : P.fieldsOf kt = fs := by simp [Program.fieldsOf, hu]
  have h1 := eq_fields (P := P) (w := w) 9998 fs.toList (sc x) (sc y) ((sc x).map Sc.val).toArray ((sc y).map Sc.val).toArray 0 (hfit x) (hlike x y) (fun i s h => by simp [h]) (fun i s h => by simp [h])
  unfold Op.equal Op.maxDepth
  rw [show (10000 : Nat) = 9999 + 1 from rfl, run_equalIn_struct (P := P) w 9999 kt _ _ (by rw [hf]; exact hu) hp, hf, h1]
  congr 1
  by_cases hxy : x = y
  · subst hxy; simp
  · rw [decide_eq_false hxy, decide_eq_false (fun e => hxy (hinj x y e))]
theorem pu_aeq {t u : Nat} {x y : Operand} {xs ys : Array Value} {r : Bool} (hg : P.eqGuardType P.depth t = false) (hx : ρ x = .agg xs) (hy : ρ y = .agg ys) (he : ∀ w, (Op.equal t (.agg xs) (.agg ys)).run P w = .ok r w) : Pu P ρ ⟨dst, .binOp .eql t x y u, ty, pos, af, g⟩ (.bool r) :=
  pu_eq_of hx hy (fun w => run_eql_of rfl (he w)) (fun w => by
    have e : (program).run P w = .ok P w := rfl
    unfold eqGuard
    simp [Sem.run_bind, e, Result.andThen_ok, hg])
end
end Go.Proofs.Ytbfdebddoncfhaa.Sk
/-! Sk, part twenty: append of what is read elsewhere (a window of a row). -/
namespace Go.Proofs.Ytbfdebddoncfhaa.Sk
open Go Go.RowKit
open Go.Proofs.YtbfdebddoncfhaaW.PrintLast
set_option linter.unusedVariables false
set_option linter.unusedSimpArgs false
section
variable {P : Program} {ops : Array Oper} {Q : Exit → Act → World → Prop} {rest : List Oper} {a : Act} {w0 w : World} {n : Shape} {d : Nat} {L : List (Nat × Value)} {C : List Chunk} {S : World → Prop} {ds : List Nat} {ord : List (Nat × How)} {p j : Nat} {v : Value}
theorem row_win {E nn c o m jj : Nat} {g : Nat} {xs : List Value} (hS : Sat w0 w C) (hi : nth C jj = some (rowC E 1 (.slice (some ⟨g, 0, none⟩) nn c) nn xs)) : ∀ q u, ((xs.drop o).take m)[q]? = some u → w.cell? ((⟨g, o, none⟩ : Addr).add q) = some u := by
  intro q u hu
  have hu2 : xs[o + q]? = some u := by
    rw [List.getElem?_take] at hu
    split at hu
    · rwa [List.getElem?_drop] at hu
    · cases hu
  have h := hS.front jj hi
  have hlen := row_len h
  have hlt := (List.getElem?_eq_some_iff.1 hu2).1
  obtain ⟨g', c', e, _, hc⟩ := row_cell h (by omega)
  injection e with e _ _
  injection e with e
  injection e with e
  subst e
  rw [addr_add]
  exact hc _ _ hu2
theorem d_appendW {E sz t by_ nn m c : Nat} {A : Addr} (i : Nat) {x y : Operand} {ty : TypeId} {pos : String} {af : Array Edge} {gd : Option (Nat × Bool)} {xs news : List Value} (hD : Drawn P ops Q S ds ord) (hF : Fr a n L) (hp : ord[p]? = some (j, .on))
    (ho : ops[j]? = some ⟨some d, .call { callee := .builtin .append, args := #[x, y], argTypes := #[t, t] }, ty, pos, af, gd⟩)
    (hg : wantedB ops L ⟨some d, .call { callee := .builtin .append, args := #[x, y], argTypes := #[t, t] }, ty, pos, af, gd⟩ = some true) (hn : Nat.blt d n.size = true) (ht : sliceB P t E sz = true) (he : elemB P E sz by_ = true) (hx : a.eval x = v)
    (hy : a.eval y = .slice (some A) m c) (hS : Sat w0 w C) (hi : nth C i = some (rowC E sz v nn xs)) (hnews : ∀ q u, news[q]? = some u → w.cell? (A.add q) = some u) (hl : news.length = m * sz) (h1 : ∀ u ∈ news, u.oneCell' = true)
    (h63 : nn + m ≤ maxLen) (hby : (nn + m) * by_ ≤ 140737488355328) (hc : ∀ v' w', Sat w0 w' (rowC E sz v' (nn + m) (xs ++ news) :: del C i) → S w')
    (k : ∀ A q w', Sat w0 w' (rowC E sz (.slice A (nn + m) q) (nn + m) (xs ++ news) :: del C i) → ∀ a', Fr a' n ((d, .slice A (nn + m) q) :: L) → wpD P ops Q S ds ord (p + 1) a' w') : wpD P ops Q S ds ord p a w := by
  obtain ⟨v', w', hr, hS'⟩ := ef_append (dst := some d) (ty := ty) (pos := pos) (af := af) (gd := gd) (ρ := a.eval) ht he hx hy (hS.front i hi) hl hnews h1 h63 hby
  obtain ⟨A', q, rfl, _, _⟩ := row_val hS'
  exact d_ev hD hF hp ho hg rfl hn hr (hc _ _ hS') (k _ _ _ hS')
end
/-! ### two operations that write may come up: each order is walked -/
/-- Operation j comes up at place i of the order. -/
def Fk (P : Program) (ops : Array Oper) (Q : Exit → Act → World → Prop) (S : World → Prop) (ds : List Nat) (ord : List (Nat × How)) (i j : Nat) (a : Act) (w : World) : Prop :=
  ∀ o, ops[j]? = some o → ∀ K : Act → World → Prop, Shut (∀ a' w', S w' → (S w' → wpD P ops Q S ds ord (i + 1) a' w') → K a' w') → if Region.wanted o (yielded ops a.tmps) = true then Oper.wp P o a w K Q else K (a.put o.dst undef) w
section
variable {P : Program} {ops : Array Oper} {Q : Exit → Act → World → Prop} {rest : List Oper} {a : Act} {w0 w w' : World} {n : Shape} {d : Nat} {L : List (Nat × Value)} {C : List Chunk} {S : World → Prop} {ds : List Nat} {ord ord1 ord2 : List (Nat × How)} {i j : Nat} {v : Value} {o : Oper}
theorem d_fork2 {j1 j2 : Nat} (hi : Nat.blt i ops.size = true) (h1 : (ops[j1]?).isSome = true) (h2 : (ops[j2]?).isSome = true)
    (hc : (Region.ready .any ops (lst ops.size ord i) == [j1, j2] && (lst ops.size ord i).setIfInBounds j1 true == lst ops.size ord1 (i + 1) && (lst ops.size ord i).setIfInBounds j2 true == lst ops.size ord2 (i + 1)) = true)
    (hd1 : ds.contains j1 = false) (hd2 : ds.contains j2 = false) (hD1 : Drawn P ops Q S ds ord1) (hD2 : Drawn P ops Q S ds ord2)
    (k1 : Drawn P ops Q S ds ord1 → Fk P ops Q S ds ord1 i j1 a w) (k2 : Drawn P ops Q S ds ord2 → Fk P ops Q S ds ord2 i j2 a w) : wpD P ops Q S ds ord i a w := by
  obtain ⟨o1, ho1⟩ := Option.isSome_iff_exists.1 h1
  obtain ⟨o2, ho2⟩ := Option.isSome_iff_exists.1 h2
  have hi' : i < ops.size := Nat.le_of_ble_eq_true hi
  unfold wpD
  rw [show ops.size - i = (ops.size - (i + 1)) + 1 by omega]
  exact two_ (lst ops.size ord1 (i + 1)) (lst ops.size ord2 (i + 1)) ho1 ho2 rfl rfl hc (by simpa using hd1) (by simpa using hd2) (fun K hK => k1 hD1 o1 ho1 K hK) (fun K hK => k2 hD2 o2 ho2 K hK)
theorem f_ev (hD : Drawn P ops Q S ds ord) (hF : Fr a n L) (hp : ord[i]? = some (j, .fk)) (ho : ops[j]? = some o) (hg : wantedB ops L o = some true) (hd : o.dst = some d) (hn : Nat.blt d n.size = true) (h : (execOp a.eval o).run P w = .ok (.value v) w')
    (hS : S w') (k : ∀ a', Fr a' n ((d, v) :: L) → wpD P ops Q S ds ord (i + 1) a' w') : Fk P ops Q S ds ord i j a w := by
  intro o' ho' K hK
  rw [ho] at ho'
  injection ho' with ho'
  subst ho'
  rw [wanted_of hF hg, if_pos rfl]
  unfold Oper.wp
  rw [h, Oper.upon_value, hd]
  exact hK _ _ hS fun _ => k _ (hF.put hn v)
theorem f_newp {ob : Obj} (hD : Drawn P ops Q S ds ord) (hF : Fr a n L) (hp : ord[i]? = some (j, .fk)) (ho : ops[j]? = some o) (hg : wantedB ops L o = some true) (hd : o.dst = some d) (hn : Nat.blt d n.size = true)
    (h : (execOp a.eval o).run P w = .ok (.value (.pointer (some ⟨w.heap.size, 0, none⟩))) (w.alloc ob)) (hS : Sat w0 w C) (hc : ∀ b w', Sat w0 w' (.obj b ob :: C) → S w')
    (k : ∀ b w', Sat w0 w' (.obj b ob :: C) → ∀ a', Fr a' n ((d, .pointer (some ⟨b, 0, none⟩)) :: L) → wpD P ops Q S ds ord (i + 1) a' w') : Fk P ops Q S ds ord i j a w :=
  f_ev hD hF hp ho hg hd hn h (hc _ _ hS.new) fun a' hF' => k _ _ hS.new a' hF'
theorem f_news {ob : Obj} {l c : Nat} (hD : Drawn P ops Q S ds ord) (hF : Fr a n L) (hp : ord[i]? = some (j, .fk)) (ho : ops[j]? = some o) (hg : wantedB ops L o = some true) (hd : o.dst = some d) (hn : Nat.blt d n.size = true)
    (h : (execOp a.eval o).run P w = .ok (.value (.slice (some ⟨w.heap.size, 0, none⟩) l c)) (w.alloc ob)) (hS : Sat w0 w C) (hc : ∀ b w', Sat w0 w' (.obj b ob :: C) → S w')
    (k : ∀ b w', Sat w0 w' (.obj b ob :: C) → ∀ a', Fr a' n ((d, .slice (some ⟨b, 0, none⟩) l c) :: L) → wpD P ops Q S ds ord (i + 1) a' w') : Fk P ops Q S ds ord i j a w :=
  f_ev hD hF hp ho hg hd hn h (hc _ _ hS.new) fun a' hF' => k _ _ hS.new a' hF'
theorem f_appendW {E sz t by_ nn m c : Nat} {A : Addr} (q : Nat) {x y : Operand} {ty : TypeId} {pos : String} {af : Array Edge} {gd : Option (Nat × Bool)} {xs news : List Value} (hD : Drawn P ops Q S ds ord) (hF : Fr a n L) (hp : ord[i]? = some (j, .fk))
    (ho : ops[j]? = some ⟨some d, .call { callee := .builtin .append, args := #[x, y], argTypes := #[t, t] }, ty, pos, af, gd⟩)
    (hg : wantedB ops L ⟨some d, .call { callee := .builtin .append, args := #[x, y], argTypes := #[t, t] }, ty, pos, af, gd⟩ = some true) (hn : Nat.blt d n.size = true) (ht : sliceB P t E sz = true) (he : elemB P E sz by_ = true) (hx : a.eval x = v)
    (hy : a.eval y = .slice (some A) m c) (hS : Sat w0 w C) (hi : nth C q = some (rowC E sz v nn xs)) (hnews : ∀ q u, news[q]? = some u → w.cell? (A.add q) = some u) (hl : news.length = m * sz) (h1 : ∀ u ∈ news, u.oneCell' = true)
    (h63 : nn + m ≤ maxLen) (hby : (nn + m) * by_ ≤ 140737488355328) (hc : ∀ v' w', Sat w0 w' (rowC E sz v' (nn + m) (xs ++ news) :: del C q) → S w')
    (k : ∀ A q' w', Sat w0 w' (rowC E sz (.slice A (nn + m) q') (nn + m) (xs ++ news) :: del C q) → ∀ a', Fr a' n ((d, .slice A (nn + m) q') :: L) → wpD P ops Q S ds ord (i + 1) a' w') : Fk P ops Q S ds ord i j a w := by
  obtain ⟨v', w', hr, hS'⟩ := ef_append (dst := some d) (ty := ty) (pos := pos) (af := af) (gd := gd) (ρ := a.eval) ht he hx hy (hS.front q hi) hl hnews h1 h63 hby
  obtain ⟨A', q', rfl, _, _⟩ := row_val hS'
  exact f_ev hD hF hp ho hg rfl hn hr (hc _ _ hS') (k _ _ _ hS')
end
end Go.Proofs.Ytbfdebddoncfhaa.Sk
/-! Sk, part twenty-one: exclusive or. -/
namespace Go.Proofs.Ytbfdebddoncfhaa.Sk
open Go Go.RowKit
set_option linter.unusedVariables false
set_option linter.unusedSimpArgs false
section
variable {P : Program} {ρ : Operand → Value} {dst : Option Tmp} {ty : TypeId} {pos : String} {af : Array Edge} {g : Option (Nat × Bool)}
def xorI (m n : Int) : Int := IntKind.i64.wrap (BitVec.ofInt 64 m ^^^ BitVec.ofInt 64 n).toNat
theorem pu_xor {t u : Nat} {x y : Operand} {m n : Int} (hx : ρ x = .int .i64 m) (hy : ρ y = .int .i64 n) : Pu P ρ ⟨dst, .binOp .xor t x y u, ty, pos, af, g⟩ (.int .i64 (xorI m n)) := fun w => by
  simp [execOp, hx, hy, eqGuard, binOp, Op.intBits, Sem.run, Sem.bind, bind, pure, xorI]
  rfl
theorem xor_ne {m : Int} : xorI m 1 ≠ m := by
  intro h
  have h1 : BitVec.ofInt 64 (xorI m 1) = BitVec.ofInt 64 m ^^^ BitVec.ofInt 64 1 := by
    unfold xorI
    generalize BitVec.ofInt 64 m ^^^ BitVec.ofInt 64 1 = r
    apply BitVec.eq_of_toNat_eq
    rw [BitVec.toNat_ofInt]
    have hr := r.isLt
    simp [IntKind.wrap, IntKind.bits, IntKind.signed]
    split <;> omega
  rw [h] at h1
  have h2 : BitVec.ofInt 64 m ^^^ BitVec.ofInt 64 m = BitVec.ofInt 64 m ^^^ (BitVec.ofInt 64 m ^^^ BitVec.ofInt 64 1) := by rw [← h1]
  rw [← BitVec.xor_assoc, BitVec.xor_self, BitVec.zero_xor] at h2
  exact absurd h2 (by decide)
theorem xor_wf {m : Int} : -9223372036854775808 ≤ xorI m 1 ∧ xorI m 1 ≤ 9223372036854775807 := by
  unfold xorI
  generalize BitVec.ofInt 64 m ^^^ BitVec.ofInt 64 1 = r
  have hr := r.isLt
  simp [IntKind.wrap, IntKind.bits, IntKind.signed]
  split <;> omega
end
end Go.Proofs.Ytbfdebddoncfhaa.Sk
/-! Sk, part twenty-two: stores of elements of several cells; halves. -/
namespace Go.Proofs.Ytbfdebddoncfhaa.Sk
open Go Go.RowKit
set_option linter.unusedVariables false
set_option linter.unusedSimpArgs false
section
variable {P : Program} {ops : Array Oper} {Q : Exit → Act → World → Prop} {rest : List Oper} {a : Act} {w0 w : World} {n : Shape} {L : List (Nat × Value)} {C : List Chunk} {S : World → Prop} {ds : List Nat} {ord : List (Nat × How)} {p j : Nat} {v : Value}
theorem s_rstoreN {t g E sz nn c k : Nat} {x y : Operand} {ty : TypeId} {pos : String} {af : Array Edge} {gd : Option (Nat × Bool)} {vs : List Value} (i : Nat) {xs : List Value} (hF : Fr a n L) (hg : wantedB ops L ⟨none, .store t x y, ty, pos, af, gd⟩ = some true)
    (hx : a.eval x = .pointer (some ⟨g, 0 + (k : Int).toNat * sz, none⟩)) (hy : a.eval y = v) (hS : Sat w0 w C) (hi : nth C i = some (rowC E sz (.slice (some ⟨g, 0, none⟩) nn c) nn xs)) (hv : v.cells.toList = vs) (hz : sizeB P t vs.length = true) (h1 : vs.all (fun u => u.oneCell') = true) (hsz : vs.length = sz) (hk : k < nn)
    (kk : ∀ w', Sat w0 w' (upd C i (rowC E sz (.slice (some ⟨g, 0, none⟩) nn c) nn (xs.take (k * sz) ++ vs ++ xs.drop (k * sz + sz)))) → wpList P ops Q rest a w') : wpList P ops Q (⟨none, .store t x y, ty, pos, af, gd⟩ :: rest) a w := by
  subst hsz
  have hb : k * vs.length + vs.length ≤ nn * vs.length := by
    have := Nat.mul_le_mul_right vs.length (show k + 1 ≤ nn by omega)
    rw [Nat.add_mul, Nat.one_mul] at this
    exact this
  obtain ⟨cs, hg', hfit, hS'⟩ := row_write (o := k * vs.length) (vs := vs) hS hi hb
  rw [Int.toNat_natCast, Nat.zero_add] at hx
  exact s_sk hF hg rfl (run_store_row hx hy hv hz (fun u hu => List.all_eq_true.1 h1 u hu) hg' hfit) (kk _ hS')
theorem l_rstoreN {t g E sz nn c k : Nat} {x y : Operand} {ty : TypeId} {pos : String} {af : Array Edge} {gd : Option (Nat × Bool)} {vs : List Value} (i : Nat) {xs : List Value} (hD : Drawn P ops Q S ds ord) (hF : Fr a n L) (hp : ord[p]? = some (j, .ls)) (ho : ops[j]? = some ⟨none, .store t x y, ty, pos, af, gd⟩)
    (hg : wantedB ops L ⟨none, .store t x y, ty, pos, af, gd⟩ = some true)
    (hx : a.eval x = .pointer (some ⟨g, 0 + (k : Int).toNat * sz, none⟩)) (hy : a.eval y = v) (hS : Sat w0 w C) (hi : nth C i = some (rowC E sz (.slice (some ⟨g, 0, none⟩) nn c) nn xs)) (hv : v.cells.toList = vs) (hz : sizeB P t vs.length = true) (h1 : vs.all (fun u => u.oneCell') = true) (hsz : vs.length = sz) (hk : k < nn)
    (kk : ∀ w', Sat w0 w' (upd C i (rowC E sz (.slice (some ⟨g, 0, none⟩) nn c) nn (xs.take (k * sz) ++ vs ++ xs.drop (k * sz + sz)))) → wpD P ops Q S ds ord (p + 1) a w') : wpD P ops Q S ds ord p a w := by
  subst hsz
  have hb : k * vs.length + vs.length ≤ nn * vs.length := by
    have := Nat.mul_le_mul_right vs.length (show k + 1 ≤ nn by omega)
    rw [Nat.add_mul, Nat.one_mul] at this
    exact this
  obtain ⟨cs, hg', hfit, hS'⟩ := row_write (o := k * vs.length) (vs := vs) hS hi hb
  rw [Int.toNat_natCast, Nat.zero_add] at hx
  exact l_sk hD hF hp ho hg rfl (run_store_row hx hy hv hz (fun u hu => List.all_eq_true.1 h1 u hu) hg' hfit) (kk _ hS')
end
section
variable {P : Program} {ρ : Operand → Value} {dst : Option Tmp} {ty : TypeId} {pos : String} {af : Array Edge} {g : Option (Nat × Bool)}
theorem wrap_pos {k : IntKind} {m : Int} (hk : k.bits = 64) (h0 : 0 ≤ m) (h1 : m ≤ 9223372036854775807) : k.wrap m = m := by
  unfold IntKind.wrap
  rw [hk]
  have e : m % (2 ^ 64 : Int) = m := by omega
  simp only [e]
  rw [if_neg]
  simp
  omega
theorem pu_convP {s t : Nat} {x : Operand} {k k' : IntKind} {m : Int} (hs : intB P s k = true) (ht : intB P t k' = true) (hx : ρ x = .int k m) (hk : k'.bits = 64) (h0 : 0 ≤ m) (h1 : m ≤ 9223372036854775807) : Pu P ρ ⟨dst, .convert s t x, ty, pos, af, g⟩ (.int k' m) := by
  have := pu_conv_int (P := P) (ρ := ρ) (dst := dst) (ty := ty) (pos := pos) (af := af) (g := g) hs ht hx
  rw [wrap_pos hk h0 h1] at this
  exact this
theorem pu_half {t u : Nat} {x y : Operand} {k k' : IntKind} {m : Int} (hx : ρ x = .int k m) (hy : ρ y = .int k' 1) (h : k.bits = 64) : Pu P ρ ⟨dst, .binOp .shr t x y u, ty, pos, af, g⟩ (.int k (m / 2)) := fun w => by
  have e2 : m.fdiv 2 = m / 2 := Int.fdiv_eq_ediv_of_nonneg _ (by decide)
  simp [execOp, hx, hy, eqGuard, binOp, Op.shift, Sem.run, Sem.bind, bind, pure, h, e2]
end
end Go.Proofs.Ytbfdebddoncfhaa.Sk
/-! Sk, part twenty-three: make of elements of two like cells. -/
namespace Go.Proofs.Ytbfdebddoncfhaa.Sk
open Go Go.RowKit
set_option linter.unusedVariables false
set_option linter.unusedSimpArgs false
section
variable {P : Program} {ρ : Operand → Value} {dst : Option Tmp} {ty : TypeId} {pos : String} {af : Array Edge} {gd : Option (Nat × Bool)} {w : World} {E : Nat}
theorem ef_make2 {t by_ : Nat} {x y : Operand} {z v : Value} {k k' : IntKind} {m : Nat} (ht : sliceB P t E 2 = true) (he : elemB P E 2 by_ = true) (hz : zeroO P E = some z) (hz1 : z.cells = #[v, v]) (hx : ρ x = .int k m) (hy : ρ y = .int k' m) (hb : by_ * m ≤ 281474976710656) (h63 : m ≤ 9223372036854775807) :
    (execOp ρ ⟨dst, .makeSlice t x y, ty, pos, af, gd⟩).run P w = .ok (.value (.slice (some ⟨w.heap.size, 0, none⟩) m m)) (w.alloc (.cells (List.replicate (m * 2) v).toArray E)) := by
  obtain ⟨hu, _⟩ := sliceB_spec ht
  obtain ⟨i, z', hi, hs, hby, hz', _⟩ := elemB_spec he
  have ez : z' = z := by
    unfold zeroO at hz
    rw [hi] at hz
    have : i.zero = some z := hz
    rw [hz'] at this
    injection this
  subst ez
  subst hby
  have hr := run_make (P := P) w t E i z' hu hi hz' k k' m m (by omega) (by omega) (by
    have : ((i.bytes * m : Nat) : Int) ≤ 281474976710656 := by omega
    rwa [Int.natCast_mul] at this) (by omega)
  simp only [Int.toNat_natCast, hs] at hr
  have e : madeCells z'.cells (m * 2) = (List.replicate (m * 2) v).toArray := by
    apply Array.ext'
    apply List.ext_getElem?
    intro j
    rw [hz1]
    simp only [madeCells, Array.toList_map, Array.toList_range, List.getElem?_map, List.getElem?_range', List.getElem?_replicate]
    by_cases hj : j < m * 2
    · have h2 : j % 2 = 0 ∨ j % 2 = 1 := by omega
      rcases h2 with h2 | h2 <;> simp [hj, h2]
    · simp [hj]
  rw [e] at hr
  simp only [execOp, hx, hy, Sem.run_bind, hr, Result.andThen_ok]
  rfl
end
end Go.Proofs.Ytbfdebddoncfhaa.Sk
/-! A quick check of a drawn region's order (no operation kept last): what an operation waits for, looks at and fills as masks of bits. -/
namespace Go.Proofs.Ytbfdebddoncfhaa.Sk
open Go Go.RowKit Go.Proofs.YtbfdebddoncfhaaW.PrintLast
set_option linter.unusedVariables false
set_option linter.unusedSimpArgs false

/-- The numbers of a list as bits. -/
def bits (l : List Nat) : Nat := l.foldr (fun t m => (1 <<< t) ||| m) 0
theorem bits_test {l : List Nat} {k : Nat} : (bits l).testBit k = l.contains k := by
  induction l with
  | nil => simp [bits]
  | cons x r ih =>
    show ((1 <<< x) ||| bits r).testBit k = _
    rw [Nat.testBit_or, ih, Nat.one_shiftLeft, Nat.testBit_two_pow, List.contains_cons]
    congr 1
    by_cases h : x = k
    · subst h; simp
    · have h2 : ¬ k = x := fun e => h e.symm
      simp [h, h2]
def opA (o : Oper) : Nat := bits (o.after.toList.filterMap fun e => if Region.binds .any e then some e.on else none)
def opL (ops : Array Oper) (o : Oper) : Nat := bits (o.looksAt ops)
def opD (o : Oper) : Nat := match o.dst with | some d => 1 <<< d | none => 0
theorem opA_test {o : Oper} {k : Nat} : (opA o).testBit k = o.after.any (fun e => Region.binds .any e && e.on == k) := by
  rw [opA, bits_test]
  apply Bool.eq_iff_iff.2
  simp only [List.contains_iff_mem, List.mem_filterMap, Array.any_eq_true', Bool.and_eq_true, beq_iff_eq, Array.mem_toList_iff]
  constructor
  · rintro ⟨e, he, h⟩
    by_cases hb : Region.binds .any e = true
    · rw [if_pos hb] at h
      exact ⟨e, he, hb, by simpa using h⟩
    · rw [if_neg hb] at h; cases h
  · rintro ⟨e, he, hb, hk⟩
    exact ⟨e, he, by rw [if_pos hb, hk]⟩
theorem and_test {a b : Nat} (h : (a &&& b == a) = true) {k : Nat} (hk : a.testBit k = true) : b.testBit k = true := by
  have h1 : a &&& b = a := by simpa using h
  have h2 : (a &&& b).testBit k = true := by rw [h1]; exact hk
  rw [Nat.testBit_and, Bool.and_eq_true] at h2
  exact h2.2
theorem and_zero {a b : Nat} (h : (a &&& b == 0) = true) {k : Nat} (hk : a.testBit k = true) : b.testBit k = false := by
  have h1 : a &&& b = 0 := by simpa using h
  have h2 : (a &&& b).testBit k = false := by rw [h1]; exact Nat.zero_testBit k
  rw [Nat.testBit_and, hk, Bool.true_and] at h2
  exact h2
theorem and_all {a b : Nat} (h : ∀ k, a.testBit k = true → b.testBit k = true) : (a &&& b == a) = true := by
  rw [beq_iff_eq]
  apply Nat.eq_of_testBit_eq
  intro k
  rw [Nat.testBit_and]
  cases hk : a.testBit k with
  | false => rfl
  | true => rw [h k hk]; rfl
theorem opD_test {o : Oper} {d : Nat} (h : o.dst = some d) : (opD o).testBit d = true := by
  simp [opD, h, Nat.one_shiftLeft]

structure Bt where
  a : Nat
  l : Nat
  d : Nat
def btOf (ops : Array Oper) (o : Oper) : Bt := ⟨opA o, opL ops o, opD o⟩
def IsBt (l : Array Bool) (L : Nat) (n : Nat) : Prop := l.size = n ∧ ∀ k, l.getD k false = L.testBit k
def rdyN (b : Bt) (L : Nat) : Bool := b.a &&& L == b.a
def freeN (L : Nat) (j : Nat) (b : Bt) : Nat → List Bt → Bool
  | _, [] => true
  | k, c :: r => (k == j || L.testBit k || c.a.testBit j || (b.d &&& c.l == 0 && (b.d &&& c.d == 0) && (c.d &&& b.l == 0))) && freeN L j b (k + 1) r
def closedN (L : Nat) : Nat → List Bt → Bool
  | _, [] => true
  | k, c :: r => (!L.testBit k || rdyN c L) && closedN L (k + 1) r
def onlyN (L : Nat) (j : Nat) : Nat → List Bt → Bool
  | _, [] => true
  | k, c :: r => (k == j || L.testBit k || !rdyN c L) && onlyN L j (k + 1) r
def stepN (T : List Bt) (L : Nat) : Nat × How → Bool
  | (j, .pu) => match T[j]? with | some b => !L.testBit j && rdyN b L && freeN L j b 0 T | none => false
  | (j, .tk) => match T[j]? with | some b => !L.testBit j && rdyN b L && freeN L j b 0 T && closedN L 0 T | none => false
  | (j, .on) => match T[j]? with | some b => !L.testBit j && rdyN b L && onlyN L j 0 T | none => false
  | (_, .ls) => false
  | (j, .fk) => match T[j]? with | some _ => true | none => false
/-- A number made out before it is used. -/
def frc (e : Nat) (g : Nat → Bool) : Bool := match e + 1 with | 0 => false | n + 1 => g n
theorem frc_eq {e : Nat} {g : Nat → Bool} : frc e g = g e := rfl
def runN (T : List Bt) : Nat → List (Nat × How) → Bool
  | L, [] => onlyN L T.length 0 T
  | L, p :: r => stepN T L p && frc (L ||| (1 <<< p.1)) fun L' => runN T L' r
def mkN (ops : Array Oper) : List Oper → (List Bt → Bool) → Bool
  | [], k => k []
  | o :: r, k => frc (opA o) fun a => frc (opL ops o) fun l => frc (opD o) fun d => mkN ops r fun T => k (⟨a, l, d⟩ :: T)
theorem mkN_eq {ops : Array Oper} {l : List Oper} {k : List Bt → Bool} : mkN ops l k = k (l.map (btOf ops)) := by
  induction l generalizing k with
  | nil => rfl
  | cons o r ih =>
    show frc _ _ = _
    rw [frc_eq, frc_eq, frc_eq, ih]
    rfl
def chkN (ops : Array Oper) (ord : List (Nat × How)) : Bool :=
  (ord.length == ops.size) && Region.noSelect ops && mkN ops ops.toList fun T => runN T 0 ord

section
variable {ops : Array Oper} {l : Array Bool} {L : Nat}
def tabN (ops : Array Oper) : List Bt := ops.toList.map (btOf ops)
theorem tabN_len : (tabN ops).length = ops.size := by simp [tabN]
theorem tabN_at {j : Nat} {b : Bt} (h : (tabN ops)[j]? = some b) : ∃ o, ops[j]? = some o ∧ b = btOf ops o := by
  rw [tabN, List.getElem?_map] at h
  cases ho : ops.toList[j]? with
  | none => rw [ho] at h; cases h
  | some o =>
    rw [ho] at h
    exact ⟨o, by rw [← ho]; simp, by simpa using h.symm⟩
theorem tabN_of {j : Nat} {o : Oper} (h : ops[j]? = some o) : (tabN ops)[j]? = some (btOf ops o) := by
  rw [tabN, List.getElem?_map, show ops.toList[j]? = some o by simpa using h]
  rfl
theorem all_at {f : Nat → Bt → Bool} {g : Nat → List Bt → Bool} (hg : ∀ k c r, g k (c :: r) = (f k c && g (k + 1) r)) : ∀ (T : List Bt) (k : Nat), g k T = true → ∀ i c, T[i]? = some c → f (k + i) c = true
  | [], _, _, i, c, h => by simp at h
  | c :: r, k, h, i, c', hi => by
    rw [hg, Bool.and_eq_true] at h
    cases i with
    | zero => simp at hi; subst hi; exact h.1
    | succ i =>
      have := all_at hg r (k + 1) h.2 i c' (by simpa using hi)
      rw [show k + 1 + i = k + (i + 1) by omega] at this
      exact this
theorem getD_tf {k : Nat} (hl : l.size = ops.size) (hk : k < ops.size) : l.getD k true = l.getD k false := by
  simp [hl, hk]
theorem rdy_of {o : Oper} (hL : IsBt l L ops.size) : rdyN (btOf ops o) L = o.after.all (fun e => !Region.binds .any e || l.getD e.on false) := by
  apply Bool.eq_iff_iff.2
  show ((opA o &&& L == opA o) = true) ↔ _
  rw [Array.all_eq_true_iff_forall_mem]
  constructor
  · intro h e he
    by_cases hb : Region.binds .any e = true
    · rw [hL.2]
      have : L.testBit e.on = true := and_test h (by rw [opA_test, Array.any_eq_true']; exact ⟨e, he, by simp [hb]⟩)
      rw [this]; simp
    · simp [hb]
  · intro h
    apply and_all
    intro k hk
    rw [opA_test, Array.any_eq_true'] at hk
    obtain ⟨e, he, hb⟩ := hk
    simp only [Bool.and_eq_true, beq_iff_eq] at hb
    have := h e he
    rw [hb.1, hb.2] at this
    simpa [hL.2] using this
theorem mem_rdy {i : Nat} (hL : IsBt l L ops.size) : i ∈ Region.ready .any ops l ↔ ∃ o, ops[i]? = some o ∧ L.testBit i = false ∧ rdyN (btOf ops o) L = true := by
  unfold Region.ready
  rw [List.mem_filter, List.mem_range]
  constructor
  · rintro ⟨hi, h⟩
    obtain ⟨o, ho⟩ : ∃ o, ops[i]? = some o := ⟨ops[i], Array.getElem?_eq_some_iff.2 ⟨hi, rfl⟩⟩
    refine ⟨o, ho, ?_⟩
    rw [ho, getD_tf hL.1 hi, hL.2] at h
    simp only [Option.map_some, Option.getD_some, Bool.and_eq_true, Bool.not_eq_true'] at h
    exact ⟨h.1, by rw [rdy_of hL]; exact h.2⟩
  · rintro ⟨o, ho, h1, h2⟩
    have hi := (Array.getElem?_eq_some_iff.1 ho).1
    refine ⟨hi, ?_⟩
    rw [ho, getD_tf hL.1 hi, hL.2, h1]
    rw [rdy_of hL] at h2
    simpa using h2
theorem free_of {j : Nat} {o : Oper} (hL : IsBt l L ops.size) (ho : ops[j]? = some o) (h : freeN L j (btOf ops o) 0 (tabN ops) = true) : Region.free .any ops l j = true := by
  unfold Region.free
  rw [ho]
  simp only [List.all_eq_true, List.mem_range]
  intro k hk
  obtain ⟨ok, hok⟩ : ∃ o, ops[k]? = some o := ⟨ops[k], Array.getElem?_eq_some_iff.2 ⟨hk, rfl⟩⟩
  have h1 := all_at (f := fun k c => (k == j || L.testBit k || c.a.testBit j || ((btOf ops o).d &&& c.l == 0 && ((btOf ops o).d &&& c.d == 0) && (c.d &&& (btOf ops o).l == 0)))) (g := freeN L j (btOf ops o)) (fun _ _ _ => rfl) _ 0 h k _ (tabN_of hok)
  rw [Nat.zero_add] at h1
  rw [hok, getD_tf hL.1 hk, hL.2]
  simp only [Bool.or_eq_true] at h1 ⊢
  rcases h1 with ((h1 | h1) | h1) | h1
  · exact .inl (.inl h1)
  · exact .inl (.inr h1)
  · refine .inr (.inl ?_)
    rw [show (btOf ops ok).a = opA ok from rfl, opA_test] at h1
    exact h1
  · refine .inr (.inr ?_)
    simp only [Bool.and_eq_true] at h1
    obtain ⟨⟨h1, h2⟩, h3⟩ := h1
    unfold Oper.apart
    rw [Bool.and_eq_true]
    constructor
    · cases hd : o.dst with
      | none => rfl
      | some d =>
        have hb := opD_test hd
        have e1 := and_zero h1 hb
        have e2 := and_zero h2 hb
        rw [show (btOf ops ok).l = bits (ok.looksAt ops) from rfl, bits_test] at e1
        simp only [e1, Bool.not_false, Bool.true_and, bne_iff_ne, ne_eq]
        intro hd2
        rw [show (btOf ops ok).d = opD ok from rfl, opD_test hd2] at e2
        cases e2
    · cases hd : ok.dst with
      | none => rfl
      | some d =>
        have e1 := and_zero h3 (opD_test hd)
        rw [show (btOf ops o).l = bits (o.looksAt ops) from rfl, bits_test] at e1
        show (!(Oper.looksAt ops o).contains d) = true; rw [e1]; rfl
theorem closed_of (hL : IsBt l L ops.size) (h : closedN L 0 (tabN ops) = true) : Region.closedB .any ops l = true := by
  unfold Region.closedB
  simp only [List.all_eq_true, List.mem_range]
  intro k hk
  obtain ⟨ok, hok⟩ : ∃ o, ops[k]? = some o := ⟨ops[k], Array.getElem?_eq_some_iff.2 ⟨hk, rfl⟩⟩
  have h1 := all_at (f := fun k c => (!L.testBit k || rdyN c L)) (g := closedN L) (fun _ _ _ => rfl) _ 0 h k _ (tabN_of hok)
  rw [Nat.zero_add, rdy_of hL] at h1
  rw [hok, hL.2]
  exact h1
theorem only_of {j : Nat} (hL : IsBt l L ops.size) (h : onlyN L j 0 (tabN ops) = true) {k : Nat} (hk : k ∈ Region.ready .any ops l) : k = j := by
  obtain ⟨o, ho, h1, h2⟩ := (mem_rdy hL).1 hk
  have h3 := all_at (f := fun k c => (k == j || L.testBit k || !rdyN c L)) (g := onlyN L j) (fun _ _ _ => rfl) _ 0 h k _ (tabN_of ho)
  rw [Nat.zero_add, h1, h2] at h3
  simpa using h3
theorem ready_nodup : (Region.ready .any ops l).Nodup := by
  unfold Region.ready
  exact List.Pairwise.filter _ List.nodup_range
theorem single_of {j : Nat} {r : List Nat} (hn : r.Nodup) (hj : j ∈ r) (h : ∀ k ∈ r, k = j) : r = [j] := by
  match r, hn, hj, h with
  | [], _, hj, _ => cases hj
  | [x], _, _, h => rw [h x (by simp)]
  | x :: y :: r, hn, _, h =>
    exfalso
    have h1 := h x (by simp)
    have h2 := h y (by simp)
    simp [h1, h2] at hn
theorem lst_succ {n i : Nat} {ord : List (Nat × How)} {p : Nat × How} (hp : ord[i]? = some p) : lst n ord (i + 1) = (lst n ord i).setIfInBounds p.1 true := by
  unfold lst
  rw [List.take_add_one, hp, List.foldl_append]
  rfl
theorem step_of {p : Nat × How} (hL : IsBt l L ops.size) (hs : Region.noSelect ops = true) (h : stepN (tabN ops) L p = true) :
    chk1 ops [] l (l.setIfInBounds p.1 true) p = true ∧ IsBt (l.setIfInBounds p.1 true) (L ||| (1 <<< p.1)) ops.size := by
  have key : ∀ o, ops[p.1]? = some o → IsBt (l.setIfInBounds p.1 true) (L ||| (1 <<< p.1)) ops.size := by
    intro o ho
    have hi := (Array.getElem?_eq_some_iff.1 ho).1
    refine ⟨by simp [hL.1], fun k => ?_⟩
    rw [Nat.testBit_or, ← hL.2 k, Nat.one_shiftLeft, Nat.testBit_two_pow]
    by_cases e : p.1 = k
    · subst e
      simp [hL.1, hi]
    · simp [Array.getElem?_setIfInBounds_ne e, e, Array.getD_eq_getD_getElem?]
  obtain ⟨j, h0⟩ := p
  cases h0 with
  | pu =>
    simp only [stepN] at h
    split at h
    · rename_i b hb
      obtain ⟨o, ho, rfl⟩ := tabN_at hb
      simp only [Bool.and_eq_true, Bool.not_eq_true'] at h
      refine ⟨?_, key o ho⟩
      simp only [chk1, anyB, Bool.and_eq_true]
      exact ⟨⟨⟨hs, free_of hL ho h.2⟩, by simpa using (mem_rdy hL).2 ⟨o, ho, h.1.1, h.1.2⟩⟩, by simp⟩
    · cases h
  | tk =>
    simp only [stepN] at h
    split at h
    · rename_i b hb
      obtain ⟨o, ho, rfl⟩ := tabN_at hb
      simp only [Bool.and_eq_true, Bool.not_eq_true'] at h
      refine ⟨?_, key o ho⟩
      simp only [chk1, takeB, Bool.and_eq_true]
      exact ⟨⟨⟨⟨⟨hs, free_of hL ho h.1.2⟩, by simpa using (mem_rdy hL).2 ⟨o, ho, h.1.1.1, h.1.1.2⟩⟩, closed_of hL h.2⟩, rfl⟩, by simp⟩
    · cases h
  | on =>
    simp only [stepN] at h
    split at h
    · rename_i b hb
      obtain ⟨o, ho, rfl⟩ := tabN_at hb
      simp only [Bool.and_eq_true, Bool.not_eq_true'] at h
      refine ⟨?_, key o ho⟩
      have hr := single_of ready_nodup ((mem_rdy hL).2 ⟨o, ho, h.1.1, h.1.2⟩) (fun k hk => only_of hL h.2 hk)
      simp [chk1, readyB, hr]
    · cases h
  | ls => cases h
  | fk =>
    simp only [stepN] at h
    split at h
    · rename_i b hb
      obtain ⟨o, ho, rfl⟩ := tabN_at hb
      exact ⟨by simp [chk1], key o ho⟩
    · cases h
theorem run_of {ord : List (Nat × How)} (hs : Region.noSelect ops = true) : ∀ (r : List (Nat × How)) (i : Nat) (L : Nat), r = ord.drop i → IsBt (lst ops.size ord i) L ops.size → runN (tabN ops) L r = true →
    (∀ k p, ord[k]? = some p → i ≤ k → chk1 ops [] (lst ops.size ord k) (lst ops.size ord (k + 1)) p = true) ∧ (ord.length ≤ i ∨ ∃ L', IsBt (lst ops.size ord ord.length) L' ops.size ∧ onlyN L' ops.size 0 (tabN ops) = true) ∧ (ord.length = i → onlyN L ops.size 0 (tabN ops) = true)
  | [], i, L, hr, hL, h => by
    have hle : ord.length ≤ i := by
      have := congrArg List.length hr
      rw [List.length_drop] at this
      simp at this
      omega
    refine ⟨fun k p hp hk => ?_, .inl hle, fun _ => ?_⟩
    · have := (List.getElem?_eq_some_iff.1 hp).1
      omega
    · rw [runN, tabN_len] at h
      exact h
  | p :: r, i, L, hr, hL, h => by
    have hp : ord[i]? = some p := by
      have := congrArg (fun l => l[0]?) hr
      simp [List.getElem?_drop] at this
      exact this.symm
    have hr' : r = ord.drop (i + 1) := by
      have := congrArg List.tail hr
      simpa [List.tail_drop] using this
    have hi := (List.getElem?_eq_some_iff.1 hp).1
    rw [runN, Bool.and_eq_true, frc_eq] at h
    obtain ⟨h1, h2⟩ := step_of hL hs h.1
    rw [← lst_succ hp] at h1 h2
    obtain ⟨k1, k2, k3⟩ := run_of hs r (i + 1) _ hr' h2 h.2
    refine ⟨fun k q hq hk => ?_, .inr ?_, fun e => by omega⟩
    · by_cases e : k = i
      · subst e
        rw [hp] at hq
        cases hq
        exact h1
      · exact k1 k q hq (by omega)
    · rcases k2 with k2 | k2
      · have e : ord.length = i + 1 := by omega
        refine ⟨_, ?_, k3 e⟩
        rw [e]
        exact h2
      · exact k2
theorem chk_fast {ord : List (Nat × How)} (h : chkN ops ord = true) : chk ops [] ord = true := by
  rw [chkN, Bool.and_eq_true, Bool.and_eq_true, mkN_eq] at h
  obtain ⟨⟨h1, h2⟩, h3⟩ := h
  have hb0 : IsBt (lst ops.size ord 0) 0 ops.size := ⟨by simp [lst], fun k => by
    rw [Nat.zero_testBit]
    simp only [lst, List.take_zero, List.foldl_nil, Array.getD_eq_getD_getElem?]
    by_cases hk : k < ops.size
    · simp [hk]
    · simp [hk]⟩
  obtain ⟨k1, k2, k3⟩ := run_of h2 ord 0 0 rfl hb0 h3
  have hfin : ∃ L', IsBt (lst ops.size ord ord.length) L' ops.size ∧ onlyN L' ops.size 0 (tabN ops) = true := by
    rcases k2 with k2 | k2
    · have e : ord.length = 0 := by omega
      exact ⟨0, by rw [e]; exact hb0, k3 e⟩
    · exact k2
  obtain ⟨L', hL', ho⟩ := hfin
  have hlen : ord.length = ops.size := by simpa using h1
  unfold chk
  rw [Bool.and_eq_true, Bool.and_eq_true]
  refine ⟨⟨h1, ?_⟩, ?_⟩
  · rw [List.all_eq_true]
    intro i hi
    rw [List.mem_range] at hi
    rw [show ord[i]? = some ord[i] from List.getElem?_eq_some_iff.2 ⟨hi, rfl⟩]
    exact k1 i _ (List.getElem?_eq_some_iff.2 ⟨hi, rfl⟩) (Nat.zero_le _)
  · rw [beq_iff_eq]
    rw [hlen] at hL'
    rw [List.eq_nil_iff_forall_not_mem]
    intro k hk
    have e := only_of hL' ho hk
    have := (List.mem_filter.1 hk).1
    rw [List.mem_range] at this
    omega
end
end Go.Proofs.Ytbfdebddoncfhaa.Sk
/-! Sk, part twenty-five: append that leaves the old row to be used again; parts of a row that may be nil. -/
namespace Go.Proofs.Ytbfdebddoncfhaa.Sk
open Go Go.RowKit
set_option linter.unusedVariables false
set_option linter.unusedSimpArgs false
section
variable {w0 w : World} {C : List Chunk} {E sz : Nat} {v : Value} {n : Nat} {xs : List Value}
theorem row_back {g cap m : Nat} {ys : List Value} (h : Sat w0 w (rowC E sz (.slice (some ⟨g, 0, none⟩) (n + m) cap) (n + m) ys :: C)) (hx : xs.length = n * sz) (hy : ys.take (n * sz) = xs) : Sat w0 w (rowC E sz (.slice (some ⟨g, 0, none⟩) n cap) n xs :: C) := by
  rcases (row_open h).2 with ⟨e, _⟩ | ⟨g2, cap2, cur, e, h1, h2, h3, h4, hC⟩
  · cases e
  · injection e with e1 e2 e3
    injection e1 with e1
    injection e1 with e1
    subst e1
    subst e3
    refine row_shut hC (by omega) h2 h3 ?_
    rw [← hy, ← h4, List.take_take]
    congr 1
    have : n * sz ≤ (n + m) * sz := Nat.mul_le_mul_right _ (by omega)
    omega
theorem run_append_row2 {P : Program} {t ty by_ : Nat} {A : Addr} {m c : Nat} {news : List Value} (ht : sliceB P t E sz = true) (he : elemB P E sz by_ = true) (h : Sat w0 w (rowC E sz v n xs :: C))
    (hl : news.length = m * sz) (hnews : ∀ j u, news[j]? = some u → w.cell? (A.add j) = some u) (h1 : ∀ u ∈ news, u.oneCell' = true) (h63 : n + m ≤ maxLen) (hby : (n + m) * by_ ≤ 140737488355328) :
    ∃ v' w' C1, (Builtin.append_ #[t, t] ty #[v, .slice (some A) m c]).run P w = .ok v' w' ∧ Sat w0 w' (rowC E sz v' (n + m) (xs ++ news) :: C1) ∧ ∀ w'', Sat w0 w'' (rowC E sz v' (n + m) (xs ++ news) :: C1) → Sat w0 w'' (rowC E sz v n xs :: C) := by
  obtain ⟨hu, _⟩ := sliceB_spec ht
  obtain ⟨i, z, hi, hs, hb, hz, hzs⟩ := elemB_spec he
  obtain ⟨hx, hcase⟩ := row_open h
  have hlen : (xs ++ news).length = (n + m) * sz := by rw [List.length_append, hx, hl, Nat.add_mul]
  have htk : (xs ++ news).take (n * sz) = xs := by rw [← hx]; exact List.take_left
  have h63' : n + m ≤ 9223372036854775807 := by simp only [maxLen] at h63; omega
  rcases hcase with ⟨rfl, rfl, hC⟩ | ⟨g, cap, cur, rfl, hnc, hcm, hcs, htake, hC⟩
  · obtain ⟨v', w', hr, hS⟩ := run_append_row (ty := ty) (c := c) ht he h hl hnews h1 h63 hby
    refine ⟨v', w', C, hr, hS, fun w'' h2 => ?_⟩
    have hx0 : xs = [] := List.eq_nil_of_length_eq_zero (by simpa using hx)
    subst hx0
    exact row_nil h2.tail
  · subst hs
    subst hb
    by_cases hroom : n + m ≤ cap
    · have hfit : n * i.size + news.length ≤ cur.size := by rw [hl, hcs, ← Nat.add_mul]; exact Nat.mul_le_mul_right _ hroom
      have hr := run_append_room (P := P) w t ty E i hu hi g n cap cur hC.obj A m c news hl hnews h1 hroom hfit
      refine ⟨_, _, C, hr, row_shut (sat_setRow (i := 0) hC rfl) hroom hcm ?_ ?_, fun w'' h2 => row_back h2 hx htk⟩
      · simp only [List.size_toArray, List.length_append, List.length_take, List.length_drop, Array.length_toList]
        omega
      · rw [htake, ← hlen]
        simp only [List.append_assoc]
        rw [← List.append_assoc]
        exact List.take_left
    · have holds : ∀ j u, xs[j]? = some u → w.cell? ((⟨g, 0, none⟩ : Addr).add j) = some u := by
        intro j u hj
        rw [addr_add, Nat.zero_add]
        rw [← htake, List.getElem?_take] at hj
        split at hj
        · simp [World.cell?, hC.obj]
          simpa using hj
        · cases hj
      have hr := run_append_grow (P := P) w t ty E i z hu hi hz ⟨g, 0, none⟩ n cap xs hx holds A m c news hl hnews (by omega) (by omega) (growslice_fits (by omega) hby)
      refine ⟨_, _, rowC E i.size (.slice (some ⟨g, 0, none⟩) n cap) n xs :: C, hr, ?_, fun w'' h2 => h2.tail⟩
      have hge := grownCap_ge w (n + m) cap E
      refine row_shut (h.drew.new (o := .cells (xs.toArray ++ news.toArray ++ Builtin.zeroCells z.cells (grownCap w (n + m) cap E - (n + m))) E)) hge (grownCap_le_maxLen w (n + m) cap E h63) ?_ ?_
      · simp only [Array.size_append, List.size_toArray, size_zeroC, hzs, hx, hl, ← Nat.add_mul]
        congr 1; omega
      · simp only [Array.toList_append, List.append_assoc]
        rw [← List.append_assoc, ← hlen]
        exact List.take_left
end
section
variable {P : Program} {ops : Array Oper} {Q : Exit → Act → World → Prop} {rest : List Oper} {a : Act} {w0 w : World} {n : Shape} {d : Nat} {L : List (Nat × Value)} {C : List Chunk} {v : Value}
/-- append of a literal, the old row kept. -/
theorem s_append2 {E sz t by_ nn m c bb : Nat} (i j : Nat) {x y : Operand} {ty : TypeId} {pos : String} {af : Array Edge} {gd : Option (Nat × Bool)} {xs news : List Value} (hF : Fr a n L)
    (hg : wantedB ops L ⟨some d, .call { callee := .builtin .append, args := #[x, y], argTypes := #[t, t] }, ty, pos, af, gd⟩ = some true) (hn : Nat.blt d n.size = true) (ht : sliceB P t E sz = true) (he : elemB P E sz by_ = true) (hx : a.eval x = v)
    (hy : a.eval y = .slice (some ⟨bb, 0, none⟩) m c) (hS : Sat w0 w C) (hi : nth C i = some (rowC E sz v nn xs)) (hj : nth C j = some (.obj bb (.cells news.toArray E (0, 0)))) (hl : news.length = m * sz) (h1 : news.all (fun u => u.oneCell') = true)
    (h63 : nn + m ≤ maxLen) (hby : (nn + m) * by_ ≤ 140737488355328)
    (k : ∀ A q w' C1, Sat w0 w' (rowC E sz (.slice A (nn + m) q) (nn + m) (xs ++ news) :: C1) → (∀ w'', Sat w0 w'' (rowC E sz (.slice A (nn + m) q) (nn + m) (xs ++ news) :: C1) → Sat w0 w'' C) → ∀ a', Fr a' n ((d, .slice A (nn + m) q) :: L) → wpList P ops Q rest a' w') :
    wpList P ops Q (⟨some d, .call { callee := .builtin .append, args := #[x, y], argTypes := #[t, t] }, ty, pos, af, gd⟩ :: rest) a w := by
  obtain ⟨v', w', C1, hr, hS1, hS2⟩ := run_append_row2 (ty := ty) (A := ⟨bb, 0, none⟩) (c := c) ht he (hS.front i hi) hl (fun k u hu => by rw [addr_add]; exact hS.cell hj (by simpa using hu)) (fun u hu => List.all_eq_true.1 h1 u hu) h63 hby
  obtain ⟨A, q, rfl, _⟩ := row_val hS1
  refine s_ev hF hg rfl hn ?_ (k A q w' C1 hS1 (fun w'' h => same_place i (hS2 w'' h) hi))
  simp only [execOp, resolve, invoke, builtin, Sem.run_bind, Sem.run_pure, Result.andThen_ok, List.map_toArray, List.map_cons, List.map_nil, hx, hy, hr]
end
section
variable {P : Program} {ρ : Operand → Value} {dst : Option Tmp} {ty : TypeId} {pos : String} {af : Array Edge} {gd : Option (Nat × Bool)}
theorem pu_cutHiO {t e' n : Nat} {x hi : Operand} {A : Option Addr} {len cap : Nat} {j : Int} (ht : sliceB P t e' n = true) (hx : ρ x = .slice A len cap) (hh : ρ hi = .int .i64 j) (h1 : 0 ≤ j) (h2 : j ≤ cap) :
    Pu P ρ ⟨dst, .slice t x none (some hi) none, ty, pos, af, gd⟩ (.slice A j.toNat cap) := fun w => by
  obtain ⟨hu, q, hq, hn⟩ := sliceB_spec ht
  have h4 : 0 ≤ max j 0 := by omega
  have h5 : ¬ max j 0 < 0 := by omega
  have hz : (sizeOf e').run P w = .ok n w := by simp [sizeOf, typeInfo, program, hq, hn, Sem.run, Sem.bind, bind, pure]
  have e : ∀ A : Addr, A.add 0 = A := fun A => by simp [Addr.add]
  cases A <;> simp [execOp, hx, hh, Instr.sliceAt, Instr.slice, Instr.sliceBounds, Instr.sliceBound, asIntOf, run_underlying hu, h1, h2, h4, h5, hz, e]
theorem pu_cutLoO {t e' n : Nat} {x lo : Operand} {A : Option Addr} {len cap : Nat} {i : Int} (ht : sliceB P t e' n = true) (hx : ρ x = .slice A len cap) (hl : ρ lo = .int .i64 i) (h0 : 0 ≤ i) (h1 : i ≤ len) :
    Pu P ρ ⟨dst, .slice t x (some lo) none none, ty, pos, af, gd⟩ (.slice (if cap = i.toNat then A else A.map (·.add (i.toNat * n))) (len - i.toNat) (cap - i.toNat)) := fun w => by
  obtain ⟨hu, q, hq, hn⟩ := sliceB_spec ht
  have hz : (sizeOf e').run P w = .ok n w := by simp [sizeOf, typeInfo, program, hq, hn, Sem.run, Sem.bind, bind, pure]
  simp [execOp, hx, hl, Instr.sliceAt, Instr.slice, Instr.sliceBounds, Instr.sliceBound, asIntOf, run_underlying hu, h0, h1, hz]
/-- The end of a row of one's own. -/
theorem Reads.of_drop {w0 : World} {C : List Chunk} {E n c o : Nat} {A : Option Addr} {zs : List Int} (i : Nat) (hi : nth C i = some (rowC E 1 (.slice A n c) n (ints zs))) (hm : zs.length = n) (hc : n ≤ c) (hA : n ≠ 0 → ∃ g, A = some ⟨g, 0, none⟩) :
    Reads w0 C (if c = o then A else A.map (·.add (o * 1))) (n - o) (zs.drop o) := by
  refine ⟨by simp [hm], fun k hk => ?_⟩
  obtain ⟨g, rfl⟩ := hA (by omega)
  rw [if_neg (by omega)]
  refine ⟨_, rfl, fun w hS => ?_⟩
  have hko : o + k < zs.length := by omega
  have hv : (ints zs)[o + k]? = some (.int .i64 ((zs.drop o).getD k 0)) := by
    simp [ints, List.getD_eq_getElem?_getD, hko]
  have := row_at (k := o + k) hS hi hv
  rw [← this]
  show w.cell? (((⟨g, 0, none⟩ : Addr).add (o * 1)).add ((k : Int).toNat * 1)) = _
  rw [addr_add, addr_add, show 0 + o * 1 + (k : Int).toNat * 1 = 0 + ((o + k : Nat) : Int).toNat * 1 by omega]
end
end Go.Proofs.Ytbfdebddoncfhaa.Sk
/-! Sk, part twenty-six: append of a literal, and whether it was in place. -/
namespace Go.Proofs.Ytbfdebddoncfhaa.Sk
open Go Go.RowKit
set_option linter.unusedVariables false
set_option linter.unusedSimpArgs false
section
variable {w0 w : World} {C : List Chunk} {E sz : Nat} {n : Nat} {xs : List Value}
theorem run_append_row3 {P : Program} {t ty by_ : Nat} {A : Addr} {A0 : Option Addr} {m c c0 : Nat} {news : List Value} (ht : sliceB P t E sz = true) (he : elemB P E sz by_ = true) (h : Sat w0 w (rowC E sz (.slice A0 n c0) n xs :: C))
    (hl : news.length = m * sz) (hnews : ∀ j u, news[j]? = some u → w.cell? (A.add j) = some u) (h1 : ∀ u ∈ news, u.oneCell' = true) (h63 : n + m ≤ maxLen) (hby : (n + m) * by_ ≤ 140737488355328) :
    ∃ A' q w' C1, (Builtin.append_ #[t, t] ty #[.slice A0 n c0, .slice (some A) m c]).run P w = .ok (.slice A' (n + m) q) w' ∧ (A' = A0 ∧ C1 = C ∨ C1 = rowC E sz (.slice A0 n c0) n xs :: C) ∧ Sat w0 w' (rowC E sz (.slice A' (n + m) q) (n + m) (xs ++ news) :: C1) := by
  obtain ⟨hu, _⟩ := sliceB_spec ht
  obtain ⟨i, z, hi, hs, hb, hz, hzs⟩ := elemB_spec he
  obtain ⟨hx, hcase⟩ := row_open h
  have hlen : (xs ++ news).length = (n + m) * sz := by rw [List.length_append, hx, hl, Nat.add_mul]
  have h63' : n + m ≤ 9223372036854775807 := by simp only [maxLen] at h63; omega
  rcases hcase with ⟨e, hn, hC⟩ | ⟨g, cap, cur, e, hnc, hcm, hcs, htake, hC⟩
  · injection e with e1 e2 e3
    subst e1
    subst e2
    subst e3
    have hx0 : xs = [] := List.eq_nil_of_length_eq_zero (by simpa using hx)
    subst hx0
    obtain ⟨v', w', hr, hS⟩ := run_append_row (ty := ty) (c := c) ht he h hl hnews h1 h63 hby
    obtain ⟨A', q, rfl, _⟩ := row_val hS
    exact ⟨A', q, w', _, hr, .inr rfl, (row_nil hS).perm (List.Perm.swap _ _ _)⟩
  · injection e with e1 e2 e3
    subst e1
    subst e3
    subst hs
    subst hb
    by_cases hroom : n + m ≤ c0
    · have hfit : n * i.size + news.length ≤ cur.size := by rw [hl, hcs, ← Nat.add_mul]; exact Nat.mul_le_mul_right _ hroom
      have hr := run_append_room (P := P) w t ty E i hu hi g n c0 cur hC.obj A m c news hl hnews h1 hroom hfit
      refine ⟨_, _, _, C, hr, .inl ⟨rfl, rfl⟩, row_shut (sat_setRow (i := 0) hC rfl) hroom hcm ?_ ?_⟩
      · simp only [List.size_toArray, List.length_append, List.length_take, List.length_drop, Array.length_toList]
        omega
      · rw [htake, ← hlen]
        simp only [List.append_assoc]
        rw [← List.append_assoc]
        exact List.take_left
    · have holds : ∀ j u, xs[j]? = some u → w.cell? ((⟨g, 0, none⟩ : Addr).add j) = some u := by
        intro j u hj
        rw [addr_add, Nat.zero_add]
        rw [← htake, List.getElem?_take] at hj
        split at hj
        · simp [World.cell?, hC.obj]
          simpa using hj
        · cases hj
      have hr := run_append_grow (P := P) w t ty E i z hu hi hz ⟨g, 0, none⟩ n c0 xs hx holds A m c news hl hnews (by omega) (by omega) (growslice_fits (by omega) hby)
      refine ⟨_, _, _, rowC E i.size (.slice (some ⟨g, 0, none⟩) n c0) n xs :: C, hr, .inr rfl, ?_⟩
      have hge := grownCap_ge w (n + m) c0 E
      refine row_shut (h.drew.new (o := .cells (xs.toArray ++ news.toArray ++ Builtin.zeroCells z.cells (grownCap w (n + m) c0 E - (n + m))) E)) hge (grownCap_le_maxLen w (n + m) c0 E h63) ?_ ?_
      · simp only [Array.size_append, List.size_toArray, size_zeroC, hzs, hx, hl, ← Nat.add_mul]
        congr 1; omega
      · simp only [Array.toList_append, List.append_assoc]
        rw [← List.append_assoc, ← hlen]
        exact List.take_left
end
section
variable {P : Program} {ops : Array Oper} {Q : Exit → Act → World → Prop} {rest : List Oper} {a : Act} {w0 w : World} {n : Shape} {d : Nat} {L : List (Nat × Value)} {C : List Chunk}
/-- append of a literal: in place (the same address), or the old row stays behind. -/
theorem s_append3 {E sz t by_ nn m c c0 bb : Nat} {A0 : Option Addr} (i j : Nat) {x y : Operand} {ty : TypeId} {pos : String} {af : Array Edge} {gd : Option (Nat × Bool)} {xs news : List Value} (hF : Fr a n L)
    (hg : wantedB ops L ⟨some d, .call { callee := .builtin .append, args := #[x, y], argTypes := #[t, t] }, ty, pos, af, gd⟩ = some true) (hn : Nat.blt d n.size = true) (ht : sliceB P t E sz = true) (he : elemB P E sz by_ = true) (hx : a.eval x = .slice A0 nn c0)
    (hy : a.eval y = .slice (some ⟨bb, 0, none⟩) m c) (hS : Sat w0 w C) (hi : nth C i = some (rowC E sz (.slice A0 nn c0) nn xs)) (hj : nth C j = some (.obj bb (.cells news.toArray E (0, 0)))) (hl : news.length = m * sz) (h1 : news.all (fun u => u.oneCell') = true)
    (h63 : nn + m ≤ maxLen) (hby : (nn + m) * by_ ≤ 140737488355328)
    (k : ∀ A q w' C1, (A = A0 ∧ C1 = del C i ∨ C1 = rowC E sz (.slice A0 nn c0) nn xs :: del C i) → Sat w0 w' (rowC E sz (.slice A (nn + m) q) (nn + m) (xs ++ news) :: C1) → ∀ a', Fr a' n ((d, .slice A (nn + m) q) :: L) → wpList P ops Q rest a' w') :
    wpList P ops Q (⟨some d, .call { callee := .builtin .append, args := #[x, y], argTypes := #[t, t] }, ty, pos, af, gd⟩ :: rest) a w := by
  obtain ⟨A, q, w', C1, hr, hcs, hS1⟩ := run_append_row3 (ty := ty) (A := ⟨bb, 0, none⟩) (c := c) ht he (hS.front i hi) hl (fun k u hu => by rw [addr_add]; exact hS.cell hj (by simpa using hu)) (fun u hu => List.all_eq_true.1 h1 u hu) h63 hby
  refine s_ev hF hg rfl hn ?_ (k A q w' C1 hcs hS1)
  simp only [execOp, resolve, invoke, builtin, Sem.run_bind, Sem.run_pure, Result.andThen_ok, List.map_toArray, List.map_cons, List.map_nil, hx, hy, hr]
end
end Go.Proofs.Ytbfdebddoncfhaa.Sk
/-! Sk, part twenty-seven: inside a fence without walls: code in a round of a range over a function; the range itself. -/
namespace Go.Proofs.Ytbfdebddoncfhaa.Sk
open Go Go.RowKit
open Go.Proofs.YtbfdebddoncfhaaW.PrintLast
set_option linter.unusedVariables false
set_option linter.unusedSimpArgs false

/-- The wide fence, in a round of loop l (r = some l), or in no round. -/
abbrev wf (r : Option Nat) : Fence := { Fence.wide with round := r }
section
variable {P : Program} {r : Option Nat} {f : FuncId} {args : Array Value} {w : World} {R : Ending → World → Prop}
theorem calls_wf : Calls P f args w R → CallsIn (wf r) 0 P f args w R := fun h => (callsIn_wide (n := 0)).2 h
theorem wf_calls : CallsIn (wf r) 0 P f args w R → Calls P f args w R := fun h => (callsIn_wide (n := 0)).1 h
end
def noDef (l : List Oper) : Bool := l.all fun o => match o.op with | .defer _ => false | _ => true
theorem noDef_at {l : List Oper} (h : noDef l = true) {o : Oper} (ho : o ∈ l) : ∀ c, o.op ≠ .defer c := by
  intro c hc
  have := List.all_eq_true.1 h o ho
  rw [hc] at this
  cases this
section
variable {P : Program} {r : Option Nat} {o : Oper} {a : Act} {w : World} {K : Act → World → Prop} {Q : Exit → Act → World → Prop} {ops : Array Oper}
theorem rows_wf {row : String} {args : Array Value} {R : Value → World → Prop} (h : Rows P row args w R) : RowsIn (wf r) 0 P row args w R := by
  intro c cs _
  obtain ⟨v, w', hr, hs⟩ := h c cs
  exact ⟨v, w', hr, stepsIn_wide.2 hs⟩
theorem oper_wf (hd : ∀ c, o.op ≠ .defer c) (h : o.wp P a w K Q) : o.wpIn (wf r) 0 P a w K Q := by
  refine ⟨fun _ _ => trivial, ?_⟩
  unfold Oper.wp at h
  rw [Oper.semAt_eq _ _ _ hd]
  generalize (execOp a.eval o).run P w = z at h
  cases z with
  | ok x w' =>
    cases x with
    | value v => exact h
    | skip => exact h
    | defer d => exact h
    | enter f args => exact ⟨fun e => (by cases e), calls_wf (r := r) h⟩
    | row row args => exact ⟨fun e => (by cases e), rows_wf (r := r) h⟩
    | _ => exact h.elim
  | halt x w' =>
    cases x <;> exact h
/-- It ends, and goes on. -/
def sure (Q : Exit → Act → World → Prop) : Exit → Act → World → Prop
  | .normal, a, w => Q .normal a w
  | _, _, _ => False
theorem sure_in {Q : Exit → Act → World → Prop} {a : Act} {w : World} (h : Q .normal a w) : sure Q .normal a w := h
theorem sure_out {Q : Exit → Act → World → Prop} : ¬ LetsOut (sure Q) := fun ⟨_, _, h⟩ => h
theorem sure_mono : ∀ e a w, sure Q e a w → Q e a w := fun e a w h => by cases e <;> first | exact h | exact h.elim
theorem wpList_wf : ∀ {rest : List Oper} {a : Act} {w : World}, (∀ o ∈ rest, ∀ c, o.op ≠ .defer c) → wpList P ops (sure Q) rest a w → wpListIn (wf r) 0 P ops (sure Q) rest a w
  | [], _, _, _, h => h
  | o :: rest, a, w, hd, h => by
    unfold wpList at h
    unfold wpListIn
    split at h
    · rename_i hw
      rw [if_pos hw]
      exact Oper.wpIn_mono (fun a w h => wpList_wf (fun o ho => hd o (by simp [ho])) h) (oper_wf (hd o (by simp)) (h.resolve_right fun h => sure_out h.2))
    · rename_i hw
      rw [if_neg hw]
      exact ⟨fun _ _ => trivial, wpList_wf (fun o ho => hd o (by simp [ho])) h⟩
theorem wpOp_wf {i : Nat} (hd : ∀ o ∈ ops.toList, ∀ c, o.op ≠ .defer c) (h : wpOp P ops (sure Q) i K a w) : wpOpIn (wf r) 0 P ops (sure Q) i K a w := by
  unfold wpOp at h
  unfold wpOpIn
  cases ho : ops[i]? with
  | none => rw [ho] at h; exact h
  | some o =>
    rw [ho] at h
    have hm : o ∈ ops.toList := by
      have := Array.mem_of_getElem? ho
      simpa using this
    simp only at h ⊢
    split at h
    · rename_i hw
      rw [if_pos hw]
      exact oper_wf (hd o hm) (h.resolve_right fun h => sure_out h.2)
    · rename_i hw
      rw [if_neg hw]
      exact ⟨fun _ _ => trivial, h⟩
theorem wpAny_wf {md : Region.Mode} (hd : ∀ o ∈ ops.toList, ∀ c, o.op ≠ .defer c) : ∀ {fuel : Nat} {l : Array Bool} {a : Act} {w : World}, wpAny P md ops (sure Q) fuel l a w → wpAnyIn (wf r) 0 P md ops (sure Q) fuel l a w
  | 0, _, _, _, h => h
  | fuel + 1, _, _, _, h => ⟨h.1, fun i hi => wpOpIn_mono (fun a w h => wpAny_wf hd h) (wpOp_wf hd (h.2 i hi))⟩
/-- A region in the order of its text. -/
theorem wr_region {id : Nat} {l : List Oper} (hd : noDef l = true) (h : wpList P l.toArray (sure Q) l a w) : (Code.region id l.toArray false).wpIn (wf r) 0 P Q a w :=
  wpIn_mono (wpIn_region_lit (wpList_wf (fun o ho => noDef_at hd ho) h)) sure_mono
/-- A region that draws its order. -/
theorem wr_start {id : Nat} {l : List Oper} {S : World → Prop} {ds : List Nat} {ord : List (Nat × How)} (hd : noDef l = true) (hm : P.follows .mixedOrders = true) (hD : Drawn P l.toArray (sure Q) S ds ord) (hS : S w.drew)
    (k : Drawn P l.toArray (sure Q) S ds ord → wpD P l.toArray (sure Q) S ds ord 0 a w.drew) : (Code.region id l.toArray true).wpIn (wf r) 0 P Q a w := by
  refine wpIn_mono (wpIn_region_any hm (wpAny_wf (fun o ho => noDef_at hd (by simpa using ho)) (wpAny_of_last (S := S) (ds := ds) _ _ _ _ ?_))) sure_mono
  have h := k hD
  unfold wpD at h
  simpa [lst] using h
theorem wr_ind {c : Code} (I : Nat → Act → World → Prop) (k0 : Nat) (h0 : I k0 a w) (hs : ∀ k a w, I k a w → c.wpIn (wf r) 0 P (Exit.then (fun a' w' => ∃ k', k' < k ∧ I k' a' w') Q) a w) : (Code.loop c).wpIn (wf r) 0 P Q a w := by
  classical
  refine wpIn_loop (fun a w => ∃ k, I k a w) (fun a w => if h : ∃ k, I k a w then Classical.choose (least h) else 0) ⟨k0, h0⟩ fun a w hI => ?_
  have hk := Classical.choose_spec (least hI)
  refine wpIn_mono (hs _ a w hk.1) fun e a' w' hq => ?_
  cases e with
  | normal =>
    obtain ⟨k', hlt, hI'⟩ := hq
    refine ⟨⟨k', hI'⟩, ?_⟩
    rw [dif_pos ⟨k', hI'⟩, dif_pos hI]
    exact Nat.lt_of_le_of_lt ((Classical.choose_spec (least ⟨k', hI'⟩)).2 k' hI') hlt
  | _ => exact hq
theorem wr_seq_j {x y : Code} (J : Act → World → Prop) (h2 : x.wpIn (wf r) 0 P (Exit.then J Q) a w) (h1 : ∀ a w, J a w → y.wpIn (wf r) 0 P Q a w) : (Code.seq x y).wpIn (wf r) 0 P Q a w :=
  wpIn_seq_k fun K hK => wpIn_mono h2 fun e a w h => by
    cases e with
    | normal => exact hK _ _ (h1 _ _ h)
    | _ => exact h
end
/-! ### ways in and out of a function that ranges over a function, or calls yield -/
section
variable {P : Program} {f : FuncId} {fn : Func} {c : Code} {args : Array Value} {w w0 : World} {R : Ending → World → Prop} {a : Act} {L : List (Nat × Value)} {C : List Chunk}
theorem enterY {n : Nat} (hf : P.funcs[f]? = some fn) (hb : fn.body = some c) (hn : fn.ntmps = n) (hs : args.size ≤ n) (h : ∀ a, Fr a ⟨n, []⟩ (enumL 0 args.toList) → c.wpIn (wf none) 0 P (bodyPost P fn R) a w) : Calls P f args w R :=
  wf_calls (r := none) (callsIn_of_wp hf hb trivial (h _ (by subst hn; exact fr_start hs)))
theorem enterM {n : Nat} (hf : P.funcs[f]? = some fn) (hb : fn.body = some c) (hn : fn.ntmps = n) (hs : args.size ≤ n) (h : ∀ a, Fr a ⟨n, []⟩ (enumL 0 args.toList) → c.wpIn (wf none) 0 P (bodyPostM (wf none) 0 P fn R) a w) : Calls P f args w R :=
  wf_calls (r := none) (callsIn_of_wp_marks hf hb trivial (h _ (by subst hn; exact fr_start hs)))
/-- The block for the deferred calls of a range's rounds: none came. -/
def dfC (d : Nat) : Chunk := .obj d (.deferred (some []))
theorem Sat.putObj {l : Nat} {o o' : Obj} (h : Sat w0 w (.obj l o :: C)) : Sat w0 (w.putObj l o') (.obj l o' :: C) := by
  have hl := (Array.getElem?_eq_some_iff.1 h.obj).1
  exact h.set rfl rfl rfl (by simp) (World.putObj_heap_same hl) (fun i hi => World.putObj_heap_other hi)
theorem leaves_marks {tmps : Array Value} {C : List Chunk} (h : ∀ w, Sat w0 w C → ∃ v, (results fn tmps).run P w = .ok v w ∧ R (.returned v) w) : ∀ (ds : List Nat) (w : World), Sat w0 w (ds.map dfC ++ C) → LeavesInM (wf none) 0 P fn tmps R (ds.map markD) .returning w
  | [], w, hS => h w hS
  | d :: ds, w, hS => ⟨by simp, .inl ⟨d, _, rfl, run_takeDeferred hS.obj, leaves_marks h ds _ (Sat.putObj (o' := .deferred none) hS).tail⟩⟩
theorem finM_ret {n : Nat} {ds : List Nat} (hF : Fr a ⟨n, ds⟩ L) (hS : Sat w0 w (ds.map dfC ++ C)) (h : ∀ w, Sat w0 w C → ∃ v, (results fn a.tmps).run P w = .ok v w ∧ R (.returned v) w) : bodyPostM (wf none) 0 P fn R .ret a w := by
  show LeavesInM _ _ _ _ _ _ _ _ _
  rw [hF.defers]
  exact leaves_marks h ds w hS
theorem finM_end {n : Nat} {ds : List Nat} (hF : Fr a ⟨n, ds⟩ L) (hS : Sat w0 w (ds.map dfC ++ C)) (h : ∀ w, Sat w0 w C → ∃ v, (results fn a.tmps).run P w = .ok v w ∧ R (.returned v) w) : bodyPostM (wf none) 0 P fn R .normal a w := by
  show LeavesInM _ _ _ _ _ _ _ _ _
  rw [hF.defers]
  exact leaves_marks h ds w hS
theorem res0 (hr : fn.results = #[]) : (results fn a.tmps).run P w = .ok (.tuple #[]) w := results_none hr _ _ _
theorem res1 {n : Shape} {t : Nat} {v : Value} (hr : fn.results = #[.tmp t]) (hF : Fr a n L) (hv : look L t = some v) : (results fn a.tmps).run P w = .ok v w := by
  rw [results_tmp hr, hF.get _ _ hv]
theorem resc1 {n : Shape} {t : Nat} {ty : TypeId} {A : Addr} {v : Value} (hr : fn.results = #[.cell t ty]) (hF : Fr a n L) (hp : look L t = some (.pointer (some A))) (hl : Holds P w ty A v) : (results fn a.tmps).run P w = .ok v w := by
  have h1 := hF.get _ _ hp
  simp only [Array.getD_eq_getD_getElem?] at h1
  unfold Holds at hl
  simp [results, hr, h1, asAddr, hl]
theorem resc3 {n : Shape} {t s q : Nat} {ty1 ty2 ty3 : TypeId} {A B D : Addr} {u v x : Value} (hr : fn.results = #[.cell t ty1, .cell s ty2, .cell q ty3]) (hF : Fr a n L) (hp : look L t = some (.pointer (some A))) (hp2 : look L s = some (.pointer (some B))) (hp3 : look L q = some (.pointer (some D)))
    (hl : Holds P w ty1 A u) (hl2 : Holds P w ty2 B v) (hl3 : Holds P w ty3 D x) : (results fn a.tmps).run P w = .ok (.tuple #[u, v, x]) w := by
  have h1 := hF.get _ _ hp
  have h2 := hF.get _ _ hp2
  have h3 := hF.get _ _ hp3
  simp only [Array.getD_eq_getD_getElem?] at h1 h2 h3
  unfold Holds at hl hl2 hl3
  simp [results, hr, h1, h2, h3, asAddr, hl, hl2, hl3]
/-- A variable of one cell. -/
theorem holds_cell {t b off : Nat} {v : Value} (ht : plainB P t = true) (hv : w.cell? ⟨b, off, none⟩ = some v) : Holds P w t ⟨b, off, none⟩ v := by
  unfold Holds
  simp [loadVar, run_isAgg ht, hv]
end
/-! ### a call of yield -/
section
variable {P : Program} {ops : Array Oper} {Q : Exit → Act → World → Prop} {rest : List Oper} {o : Oper} {a : Act} {w w' : World} {n : Shape} {d : Nat} {L : List (Nat × Value)} {v : Value}
theorem y_pu (hF : Fr a n L) (hg : wantedB ops L o = some true) (hd : o.dst = some d) (hn : Nat.blt d n.size = true) (h : Pu P a.eval o v) (k : ∀ a', Fr a' n ((d, v) :: L) → wpListIn (wf none) 0 P ops Q rest a' w) : wpListIn (wf none) 0 P ops Q (o :: rest) a w := by
  unfold wpListIn
  rw [wanted_of hF hg, if_pos rfl]
  refine ⟨fun _ _ => trivial, ?_⟩
  show o.uponIn _ _ _ _ _ _ ((execOp a.eval o).run P w)
  rw [h w, Oper.uponIn_value, hd]
  exact k _ (hF.put hn v)
theorem y_rd (hF : Fr a n L) (hg : wantedB ops L o = some true) (hd : o.dst = some d) (hn : Nat.blt d n.size = true) (h : Rd P a.eval w o v) (k : ∀ a', Fr a' n ((d, v) :: L) → wpListIn (wf none) 0 P ops Q rest a' w) : wpListIn (wf none) 0 P ops Q (o :: rest) a w := by
  unfold wpListIn
  rw [wanted_of hF hg, if_pos rfl]
  refine ⟨fun _ _ => trivial, ?_⟩
  show o.uponIn _ _ _ _ _ _ ((execOp a.eval o).run P w)
  rw [h, Oper.uponIn_value, hd]
  exact k _ (hF.put hn v)
theorem y_no (hF : Fr a n L) (hg : wantedB ops L o = some false) (hd : o.dst = some d) (hn : Nat.blt d n.size = true) (k : ∀ a', Fr a' n ((d, undef) :: L) → wpListIn (wf none) 0 P ops Q rest a' w) : wpListIn (wf none) 0 P ops Q (o :: rest) a w := by
  unfold wpListIn
  rw [wanted_of hF hg, if_neg (by simp), hd]
  exact ⟨fun _ _ => trivial, k _ (hF.put hn _)⟩
theorem y_done (h : Q .normal a w) : wpListIn (wf none) 0 P ops Q [] a w := h
theorem run_yield_call {l : Nat} {ρ : Operand → Value} {xs : Array Operand} {ts : Array TypeId} {vs : List Value} {x : Operand} {dst : Option Tmp} {ty : TypeId} {pos : String} {af : Array Edge} {g : Option (Nat × Bool)}
    (hx : ρ x = .func (.yield l) #[] #[]) (hv : xs.toList.map ρ = vs) :
    (execOp ρ ⟨dst, .call { callee := .value x, args := xs, argTypes := ts }, ty, pos, af, g⟩).run P w = (Instr.yield l vs.toArray).run P w := by
  have hv' : xs.map ρ = vs.toArray := by apply Array.ext'; simpa using hv
  simp only [execOp, resolve, hx, Deferred.ofValue, Sem.run_bind, hv', Array.empty_append]
  simp only [Sem.run_pure, Result.andThen_ok, invoke, Array.append_empty]
theorem y_yield {l : Nat} {xs : Array Operand} {ts : Array TypeId} {vs : List Value} {x : Operand} {ty : TypeId} {pos : String} {af : Array Edge} {g : Option (Nat × Bool)} {R : Ending → World → Prop} (hF : Fr a n L)
    (hg : wantedB ops L ⟨some d, .call { callee := .value x, args := xs, argTypes := ts }, ty, pos, af, g⟩ = some true) (hn : Nat.blt d n.size = true)
    (hx : a.eval x = .func (.yield l) #[] #[]) (hv : xs.toList.map a.eval = vs) (hY : YieldAt (wf none) 0 P l vs.toArray w R)
    (k : ∀ e w', R e w' → ∃ v, e = .returned v ∧ ∀ a', Fr a' n ((d, v) :: L) → wpListIn (wf none) 0 P ops Q rest a' w') : wpListIn (wf none) 0 P ops Q (⟨some d, .call { callee := .value x, args := xs, argTypes := ts }, ty, pos, af, g⟩ :: rest) a w := by
  unfold wpListIn
  rw [wanted_of hF hg, if_pos rfl]
  refine ⟨fun _ _ => trivial, ?_⟩
  rw [show (wf none).round = none from rfl, Oper.semAt_none, run_yield_call hx hv]
  obtain ⟨fn, tmps, as, bd, hy, hR⟩ := hY
  rw [hy, Oper.uponIn_round]
  refine ⟨fun e => (by cases e), hR.mono fun e w' he => ?_⟩
  obtain ⟨v, rfl, k'⟩ := k e w' he
  exact k' _ (hF.put hn v)
end
end Go.Proofs.Ytbfdebddoncfhaa.Sk
