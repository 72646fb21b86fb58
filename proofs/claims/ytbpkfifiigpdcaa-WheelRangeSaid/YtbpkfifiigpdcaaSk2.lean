import Derived.Test.YtbpkfifiigpdcaaSk1
/-! Sk, part two: what single operations yield. -/
namespace Go.Proofs.Ytbpkfifiigpdcaa.Sk
open Go Go.RowKit
set_option linter.unusedVariables false
set_option linter.unusedSimpArgs false

/-- Operation o yields v in every world and does nothing else. -/
def Pu (P : Program) (ρ : Operand → Value) (o : Oper) (v : Value) : Prop := ∀ w, (execOp ρ o).run P w = .ok (.value v) w
/-- Operation o yields v in the world w and does nothing else. -/
def Rd (P : Program) (ρ : Operand → Value) (w : World) (o : Oper) (v : Value) : Prop := (execOp ρ o).run P w = .ok (.value v) w
theorem Pu.rd {P : Program} {ρ : Operand → Value} {o : Oper} {v : Value} (h : Pu P ρ o v) (w : World) : Rd P ρ w o v := h w

section pure
variable {P : Program} {ρ : Operand → Value} {dst : Option Tmp} {ty : TypeId} {pos : String} {af : Array Edge} {g : Option (Nat × Bool)}

theorem pu_move {x : Operand} {v : Value} (hx : ρ x = v) : Pu P ρ ⟨dst, .move x, ty, pos, af, g⟩ v := fun w => by subst hx; rfl
theorem pu_assign {x : Operand} {v : Value} (hx : ρ x = v) : Pu P ρ ⟨dst, .assign x, ty, pos, af, g⟩ v := fun w => by subst hx; rfl
theorem pu_pick {c x y : Operand} {b : Bool} {u v : Value} (hc : ρ c = .bool b) (hx : ρ x = u) (hy : ρ y = v) : Pu P ρ ⟨dst, .pick c x y, ty, pos, af, g⟩ (if b then u else v) := fun w => by
  subst hx; subst hy
  simp [execOp, hc, asBool]
theorem pu_pick_t {c x y : Operand} {u : Value} (hc : ρ c = .bool true) (hx : ρ x = u) : Pu P ρ ⟨dst, .pick c x y, ty, pos, af, g⟩ u := fun w => by
  subst hx
  simp [execOp, hc, asBool]
theorem pu_pick_f {c x y : Operand} {u : Value} (hc : ρ c = .bool false) (hy : ρ y = u) : Pu P ρ ⟨dst, .pick c x y, ty, pos, af, g⟩ u := fun w => by
  subst hy
  simp [execOp, hc, asBool]
theorem pu_nil {x : Operand} {p : Addr} (hx : ρ x = .pointer (some p)) : Pu P ρ ⟨dst, .nilCheck x, ty, pos, af, g⟩ (.pointer (some p)) := fun w => by
  simp [execOp, hx]
theorem pu_nilf {x : Operand} {f : FuncId} {a c : Array Value} (hx : ρ x = .func (.func f) a c) : Pu P ρ ⟨dst, .nilCheck x, ty, pos, af, g⟩ (.func (.func f) a c) := fun w => by
  simp [execOp, hx]
theorem pu_extract {x : Operand} {i : Nat} {vs : Array Value} {v : Value} (hx : ρ x = .tuple vs) (hv : vs[i]? = some v) : Pu P ρ ⟨dst, .extract x i, ty, pos, af, g⟩ v := fun w => by
  simp [execOp, hx, Instr.extract, hv]
theorem pu_not {x : Operand} {t : TypeId} {b : Bool} (hx : ρ x = .bool b) : Pu P ρ ⟨dst, .unOp .not t x, ty, pos, af, g⟩ (.bool !b) := fun w => by
  simp [execOp, hx, Op.unary]
theorem pu_func {f : FuncId} {c : Array Operand} {vs : List Value} (hc : c.toList.map ρ = vs) : Pu P ρ ⟨dst, .makeFunc (.func f) #[] c, ty, pos, af, g⟩ (.func (.func f) #[] vs.toArray) := fun w => by
  have hc' : c.map ρ = vs.toArray := by apply Array.ext'; simpa using hc
  simp [execOp, Instr.makeFunc, hc']

/-! ### fields and elements -/
/-- Field i of the struct type s lies off cells behind the struct's begin, and takes a cell at least. -/
def fieldB (P : Program) (s i off : Nat) : Bool := match P.underlying s with
  | some (.struct fs) => match fs[i]? with
    | some f => f.offset == off && (match P.info? f.type with | some j => j.size != 0 | none => false)
    | none => false
  | _ => false
theorem pu_field {s i off : Nat} {x : Operand} {b o : Nat} (hf : fieldB P s i off = true) (hx : ρ x = .pointer (some ⟨b, o, none⟩)) : Pu P ρ ⟨dst, .fieldAddr s x i, ty, pos, af, g⟩ (.pointer (some ⟨b, o + off, none⟩)) := fun w => by
  unfold fieldB at hf
  split at hf
  · rename_i fs hu
    split at hf
    · rename_i f hfi
      simp only [Bool.and_eq_true, beq_iff_eq] at hf
      obtain ⟨ho, hz⟩ := hf
      split at hz
      · rename_i j hj
        have hz' : j.size ≠ 0 := by simpa using hz
        have e : (⟨b, o, none⟩ : Addr).add f.offset = ⟨b, o + off, none⟩ := by
          unfold Addr.add
          split
          · simp_all
          · simp [ho]
        simp [execOp, hx, Instr.fieldAt, underlying, program, hu, hfi, Instr.sureAddr, fieldPlace, sizeOf, typeInfo, hj, hz', Sem.run, e, Sem.bind, bind, pure]
      · cases hz
    · cases hf
  · cases hf
def sizeB (P : Program) (t n : Nat) : Bool := match P.info? t with | some i => i.size == n | none => false
def sliceB (P : Program) (t e n : Nat) : Bool := match P.underlying t with | some (.slice e') => e' == e && sizeB P e n | _ => false
theorem sliceB_spec {t e n : Nat} (h : sliceB P t e n = true) : P.underlying t = some (.slice e) ∧ ∃ i, P.info? e = some i ∧ i.size = n := by
  unfold sliceB at h
  split at h
  · rename_i e' hu
    simp only [Bool.and_eq_true, beq_iff_eq] at h
    obtain ⟨rfl, h⟩ := h
    unfold sizeB at h
    split at h
    · rename_i i hi
      exact ⟨hu, i, hi, by simpa using h⟩
    · cases h
  · cases h
theorem pu_elem {t e n : Nat} {x y : Operand} {k : IntKind} {b o len cap : Nat} {i : Int} (ht : sliceB P t e n = true) (hx : ρ x = .slice (some ⟨b, o, none⟩) len cap) (hy : ρ y = .int k i) (h0 : 0 ≤ i) (h1 : i < len) :
    Pu P ρ ⟨dst, .indexAddr t x y, ty, pos, af, g⟩ (.pointer (some ⟨b, o + i.toNat * n, none⟩)) := fun w => by
  obtain ⟨hu, j, hj, hn⟩ := sliceB_spec ht
  have e1 : (⟨b, o, none⟩ : Addr).add (i.toNat * n) = ⟨b, o + i.toNat * n, none⟩ := by
    unfold Addr.add
    split
    · simp_all
    · rfl
  simp [execOp, hx, hy, Instr.indexAt, asIntOf, underlying, program, hu, sizeOf, typeInfo, hj, hn, h0, h1, Sem.run, Sem.bind, bind, pure, e1]

/-! ### numbers -/
def intB (P : Program) (t : Nat) (k : IntKind) : Bool := match P.underlying t with | some (.int k') => k' == k | _ => false
theorem pu_add {t : Nat} {x y : Operand} {k : IntKind} {m n : Int} (hx : ρ x = .int k m) (hy : ρ y = .int k n) : Pu P ρ ⟨dst, .binOp .add t x y t, ty, pos, af, g⟩ (.int k (k.wrap (m + n))) := fun w => by
  simp [execOp, hx, hy, eqGuard, binOp, Op.intArith, Sem.run, Sem.bind, bind, pure]
theorem pu_sub {t : Nat} {x y : Operand} {k : IntKind} {m n : Int} (hx : ρ x = .int k m) (hy : ρ y = .int k n) : Pu P ρ ⟨dst, .binOp .sub t x y t, ty, pos, af, g⟩ (.int k (k.wrap (m - n))) := fun w => by
  simp [execOp, hx, hy, eqGuard, binOp, Op.intArith, Sem.run, Sem.bind, bind, pure]
theorem pu_mul {t : Nat} {x y : Operand} {k : IntKind} {m n : Int} (hx : ρ x = .int k m) (hy : ρ y = .int k n) : Pu P ρ ⟨dst, .binOp .mul t x y t, ty, pos, af, g⟩ (.int k (k.wrap (m * n))) := fun w => by
  simp [execOp, hx, hy, eqGuard, binOp, Op.intArith, Sem.run, Sem.bind, bind, pure]

theorem pu_add64 {t : Nat} {x y : Operand} {m n : Int} (hx : ρ x = .int .i64 m) (hy : ρ y = .int .i64 n) (h : -9223372036854775808 ≤ m + n ∧ m + n ≤ 9223372036854775807) : Pu P ρ ⟨dst, .binOp .add t x y t, ty, pos, af, g⟩ (.int .i64 (m + n)) := by
  have := pu_add (P := P) (dst := dst) (ty := ty) (pos := pos) (af := af) (g := g) (t := t) hx hy
  rwa [IntWalk.i64_in _ h] at this
theorem pu_sub64 {t : Nat} {x y : Operand} {m n : Int} (hx : ρ x = .int .i64 m) (hy : ρ y = .int .i64 n) (h : -9223372036854775808 ≤ m - n ∧ m - n ≤ 9223372036854775807) : Pu P ρ ⟨dst, .binOp .sub t x y t, ty, pos, af, g⟩ (.int .i64 (m - n)) := by
  have := pu_sub (P := P) (dst := dst) (ty := ty) (pos := pos) (af := af) (g := g) (t := t) hx hy
  rwa [IntWalk.i64_in _ h] at this
theorem pu_mul64 {t : Nat} {x y : Operand} {m n : Int} (hx : ρ x = .int .i64 m) (hy : ρ y = .int .i64 n) (h : -9223372036854775808 ≤ m * n ∧ m * n ≤ 9223372036854775807) : Pu P ρ ⟨dst, .binOp .mul t x y t, ty, pos, af, g⟩ (.int .i64 (m * n)) := by
  have := pu_mul (P := P) (dst := dst) (ty := ty) (pos := pos) (af := af) (g := g) (t := t) hx hy
  rwa [IntWalk.i64_in _ h] at this
theorem pu_quo {t : Nat} {x y : Operand} {k : IntKind} {m n : Int} (hx : ρ x = .int k m) (hy : ρ y = .int k n) (h : n ≠ 0) : Pu P ρ ⟨dst, .binOp .quo t x y t, ty, pos, af, g⟩ (.int k (k.wrap (m.tdiv n))) := fun w => by
  simp [execOp, hx, hy, eqGuard, binOp, Op.intDiv, h, Sem.run, Sem.bind, bind, pure]
theorem pu_rem {t : Nat} {x y : Operand} {k : IntKind} {m n : Int} (hx : ρ x = .int k m) (hy : ρ y = .int k n) (h : n ≠ 0) : Pu P ρ ⟨dst, .binOp .rem t x y t, ty, pos, af, g⟩ (.int k (m.tmod n)) := fun w => by
  simp [execOp, hx, hy, eqGuard, binOp, Op.intDiv, h, Sem.run, Sem.bind, bind, pure]
theorem pu_quo64 {t : Nat} {x y : Operand} {m n : Int} (hx : ρ x = .int .i64 m) (hy : ρ y = .int .i64 n) (h : 0 ≤ m ∧ m ≤ 9223372036854775807 ∧ 1 ≤ n) : Pu P ρ ⟨dst, .binOp .quo t x y t, ty, pos, af, g⟩ (.int .i64 (m / n)) := by
  have := pu_quo (P := P) (dst := dst) (ty := ty) (pos := pos) (af := af) (g := g) (t := t) hx hy (by omega)
  rwa [IntWalk.i64_quo _ _ h] at this
theorem pu_rem64 {t : Nat} {x y : Operand} {k : IntKind} {m n : Int} (hx : ρ x = .int k m) (hy : ρ y = .int k n) (h : 0 ≤ m ∧ 1 ≤ n) : Pu P ρ ⟨dst, .binOp .rem t x y t, ty, pos, af, g⟩ (.int k (m % n)) := by
  have := pu_rem (P := P) (dst := dst) (ty := ty) (pos := pos) (af := af) (g := g) (t := t) hx hy (by omega)
  rwa [Int.tmod_eq_emod_of_nonneg h.1] at this
theorem pu_lss {t u : Nat} {x y : Operand} {k : IntKind} {m n : Int} (hx : ρ x = .int k m) (hy : ρ y = .int k n) : Pu P ρ ⟨dst, .binOp .lss t x y u, ty, pos, af, g⟩ (.bool (decide (m < n))) := fun w => by
  simp [execOp, hx, hy, eqGuard, binOp, Op.intCmp, Sem.run, Sem.bind, bind, pure]
theorem pu_leq {t u : Nat} {x y : Operand} {k : IntKind} {m n : Int} (hx : ρ x = .int k m) (hy : ρ y = .int k n) : Pu P ρ ⟨dst, .binOp .leq t x y u, ty, pos, af, g⟩ (.bool (decide (m ≤ n))) := fun w => by
  simp [execOp, hx, hy, eqGuard, binOp, Op.intCmp, Sem.run, Sem.bind, bind, pure]
theorem pu_gtr {t u : Nat} {x y : Operand} {k : IntKind} {m n : Int} (hx : ρ x = .int k m) (hy : ρ y = .int k n) : Pu P ρ ⟨dst, .binOp .gtr t x y u, ty, pos, af, g⟩ (.bool (decide (n < m))) := fun w => by
  simp [execOp, hx, hy, eqGuard, binOp, Op.intCmp, Sem.run, Sem.bind, bind, pure]
theorem pu_geq {t u : Nat} {x y : Operand} {k : IntKind} {m n : Int} (hx : ρ x = .int k m) (hy : ρ y = .int k n) : Pu P ρ ⟨dst, .binOp .geq t x y u, ty, pos, af, g⟩ (.bool (decide (n ≤ m))) := fun w => by
  simp [execOp, hx, hy, eqGuard, binOp, Op.intCmp, Sem.run, Sem.bind, bind, pure]
theorem pu_eql {t u : Nat} {x y : Operand} {k : IntKind} {m n : Int} (hx : ρ x = .int k m) (hy : ρ y = .int k n) : Pu P ρ ⟨dst, .binOp .eql t x y u, ty, pos, af, g⟩ (.bool (decide (m = n))) := fun w => by
  simp [execOp, hx, hy, eqGuard, binOp, Op.intCmp, Sem.run, Sem.bind, bind, pure]
  rfl
theorem pu_neq {t u : Nat} {x y : Operand} {k : IntKind} {m n : Int} (hx : ρ x = .int k m) (hy : ρ y = .int k n) : Pu P ρ ⟨dst, .binOp .neq t x y u, ty, pos, af, g⟩ (.bool (decide (m ≠ n))) := fun w => by
  simp [execOp, hx, hy, eqGuard, binOp, Op.intCmp, Sem.run, Sem.bind, bind, pure]
  rfl
theorem pu_neg {t : Nat} {x : Operand} {m : Int} (hx : ρ x = .int .i64 m) (h : -9223372036854775808 ≤ -m ∧ -m ≤ 9223372036854775807) : Pu P ρ ⟨dst, .unOp .neg t x, ty, pos, af, g⟩ (.int .i64 (-m)) := fun w => by
  simp [execOp, hx, Op.unary, Op.intArith, Sem.run, Sem.bind, bind, pure]
  exact IntWalk.i64_in _ h
theorem pu_conv_int {s t : Nat} {x : Operand} {k k' : IntKind} {m : Int} (hs : intB P s k = true) (ht : intB P t k' = true) (hx : ρ x = .int k m) : Pu P ρ ⟨dst, .convert s t x, ty, pos, af, g⟩ (.int k' (k'.wrap m)) := fun w => by
  have h1 : P.underlying s = some (.int k) := by
    unfold intB at hs; split at hs
    · rename_i h; rw [h]; simpa using hs
    · cases hs
  have h2 : P.underlying t = some (.int k') := by
    unfold intB at ht; split at ht
    · rename_i h; rw [h]; simpa using ht
    · cases ht
  simp [execOp, hx, convert, underlying, program, h1, h2, Conv.intToInt, Sem.run, Sem.bind, bind, pure]

/-! ### strings -/
theorem toList_inj {a b : ByteArray} (h : a.toList = b.toList) : a = b := by
  rw [ByteArray.toList_eq, ByteArray.toList_eq] at h
  cases a; cases b
  simp at h
  simpa using h
theorem bytes_beq (a b : ByteArray) : (a.toList == b.toList) = decide (a = b) := by
  by_cases h : a = b
  · subst h; simp
  · have : a.toList ≠ b.toList := fun e => h (toList_inj e)
    simp [h, this]
theorem pu_seql {t u : Nat} {x y : Operand} {m n : ByteArray} (hx : ρ x = .string m) (hy : ρ y = .string n) : Pu P ρ ⟨dst, .binOp .eql t x y u, ty, pos, af, g⟩ (.bool (decide (m = n))) := fun w => by
  simp [execOp, hx, hy, eqGuard, binOp, Op.stringOp, Sem.run, Sem.bind, bind, pure, ← bytes_beq]
theorem pu_sneq {t u : Nat} {x y : Operand} {m n : ByteArray} (hx : ρ x = .string m) (hy : ρ y = .string n) : Pu P ρ ⟨dst, .binOp .neq t x y u, ty, pos, af, g⟩ (.bool (!decide (m = n))) := fun w => by
  simp [execOp, hx, hy, eqGuard, binOp, Op.stringOp, Sem.run, Sem.bind, bind, pure, ← bytes_beq]
theorem pu_sadd {t u : Nat} {x y : Operand} {m n : ByteArray} (hx : ρ x = .string m) (hy : ρ y = .string n) (h : m.size + n.size ≤ 9223372036854775807) : Pu P ρ ⟨dst, .binOp .add t x y u, ty, pos, af, g⟩ (.string (m ++ n)) := fun w => by
  have hm : ¬ ((m.size : Int) + (n.size : Int) > IntKind.i64.max) := by
    have : IntKind.i64.max = 9223372036854775807 := by rfl
    omega
  have hm2 : ¬ (((m.size + n.size : Nat) : Int) > IntKind.i64.max) := by simpa using hm
  have e : Op.stringOp .add m n = pure (.string (m ++ n)) := by
    unfold Op.stringOp
    simp only [hm2, if_false]
  simp only [execOp, hx, hy, eqGuard, binOp, e, Sem.run, Sem.bind, bind, pure]
  rfl
theorem pu_slen {x : Operand} {t : Nat} {s : ByteArray} (ht : P.underlying t = some .string) (hx : ρ x = .string s) : Pu P ρ ⟨dst, .call { callee := .builtin .len, args := #[x], argTypes := #[t] }, ty, pos, af, g⟩ (.int .i64 s.size) := fun w => by
  simp [execOp, hx, resolve, invoke, builtin, Builtin.len_, underlying, program, ht, goInt, Sem.run, Sem.bind, bind, pure]
theorem pu_len {x : Operand} {t e n : Nat} {A : Option Addr} {l c : Nat} (ht : sliceB P t e n = true) (hx : ρ x = .slice A l c) : Pu P ρ ⟨dst, .call { callee := .builtin .len, args := #[x], argTypes := #[t] }, ty, pos, af, g⟩ (.int .i64 l) := fun w => by
  obtain ⟨hu, _⟩ := sliceB_spec ht
  simp [execOp, hx, resolve, invoke, builtin, Builtin.len_, underlying, program, hu, goInt, Sem.run, Sem.bind, bind, pure]
theorem pu_byte {t : Nat} {x y : Operand} {k : IntKind} {s : ByteArray} {i : Int} {b : UInt8} (ht : P.underlying t = some .string) (hx : ρ x = .string s) (hy : ρ y = .int k i) (h0 : 0 ≤ i) (hb : s[i.toNat]? = some b) :
    Pu P ρ ⟨dst, .index t x y, ty, pos, af, g⟩ (.int .u8 b.toNat) := fun w => by
  simp [execOp, hx, hy, Instr.index, asIntOf, underlying, program, ht, h0, hb, Sem.run, Sem.bind, bind, pure]
/-- Tests against nil, and of truths. -/
theorem run_eq_ptr {t e : Nat} {A : Option Addr} (ht : P.underlying t = some (.pointer e)) (w : World) : (Op.equal t (.pointer A) (.pointer none)).run P w = .ok A.isNone w := by
  unfold Op.equal Op.maxDepth
  rw [show (10000 : Nat) = 9999 + 1 from rfl, Op.equalIn]
  simp only [Sem.run_bind, run_underlying ht, Result.andThen_ok]
  cases A <;> rfl
theorem run_eq_bool {t : Nat} {m n : Bool} (ht : P.underlying t = some .bool) (w : World) : (Op.equal t (.bool m) (.bool n)).run P w = .ok (m == n) w := by
  unfold Op.equal Op.maxDepth
  rw [show (10000 : Nat) = 9999 + 1 from rfl, Op.equalIn]
  simp only [Sem.run_bind, run_underlying ht, Result.andThen_ok]
  rfl
theorem run_eq_slice {t e : Nat} {A : Option Addr} {l c : Nat} (ht : P.underlying t = some (.slice e)) (w : World) : (Op.equal t (.slice A l c) (.slice none 0 0)).run P w = .ok A.isNone w := by
  unfold Op.equal Op.maxDepth
  rw [show (10000 : Nat) = 9999 + 1 from rfl, Op.equalIn]
  simp only [Sem.run_bind, run_underlying ht, Result.andThen_ok]
  cases A <;> rfl
theorem run_eq_func {t : Nat} {ps rs : Array TypeId} {vr : Bool} {f : Fn} {a c : Array Value} (ht : P.underlying t = some (.func ps rs vr)) (w : World) : (Op.equal t (.func f a c) .nilFunc).run P w = .ok false w := by
  unfold Op.equal Op.maxDepth
  rw [show (10000 : Nat) = 9999 + 1 from rfl, Op.equalIn]
  simp only [Sem.run_bind, run_underlying ht, Result.andThen_ok]
  rfl
theorem pu_eq_of {t u : Nat} {x y : Operand} {a b : Value} {r : Bool} (hx : ρ x = a) (hy : ρ y = b) (hb : ∀ w, (binOp .eql t a b).run P w = .ok (.bool r) w) (hg : ∀ w, (eqGuard .eql t x y a b).run P w = .ok () w) : Pu P ρ ⟨dst, .binOp .eql t x y u, ty, pos, af, g⟩ (.bool r) := fun w => by
  simp only [execOp, hx, hy, Sem.run_bind, hg, hb, Result.andThen_ok]
  rfl
theorem pu_ne_of {t u : Nat} {x y : Operand} {a b : Value} {r : Bool} (hx : ρ x = a) (hy : ρ y = b) (hb : ∀ w, (binOp .neq t a b).run P w = .ok (.bool r) w) (hg : ∀ w, (eqGuard .neq t x y a b).run P w = .ok () w) : Pu P ρ ⟨dst, .binOp .neq t x y u, ty, pos, af, g⟩ (.bool r) := fun w => by
  simp only [execOp, hx, hy, Sem.run_bind, hg, hb, Result.andThen_ok]
  rfl
theorem run_eql_of {t : Nat} {a b : Value} {r : Bool} {w : World} (hd : binOp .eql t a b = (do pure (.bool (← Op.equal t a b)))) (h : (Op.equal t a b).run P w = .ok r w) : (binOp .eql t a b).run P w = .ok (.bool r) w := by
  rw [hd]
  simp only [Sem.run_bind, h, Result.andThen_ok]
  rfl
theorem run_neq_of {t : Nat} {a b : Value} {r : Bool} {w : World} (hd : binOp .neq t a b = (do pure (.bool (!(← Op.equal t a b))))) (h : (Op.equal t a b).run P w = .ok r w) : (binOp .neq t a b).run P w = .ok (.bool (!r)) w := by
  rw [hd]
  simp only [Sem.run_bind, h, Result.andThen_ok]
  rfl
theorem pu_peq {t u e : Nat} {x y : Operand} {A : Option Addr} (ht : P.underlying t = some (.pointer e)) (hx : ρ x = .pointer A) (hy : ρ y = .pointer none) : Pu P ρ ⟨dst, .binOp .eql t x y u, ty, pos, af, g⟩ (.bool A.isNone) :=
  pu_eq_of hx hy (fun w => run_eql_of rfl (run_eq_ptr ht w)) (fun w => rfl)
theorem pu_pne {t u e : Nat} {x y : Operand} {A : Option Addr} (ht : P.underlying t = some (.pointer e)) (hx : ρ x = .pointer A) (hy : ρ y = .pointer none) : Pu P ρ ⟨dst, .binOp .neq t x y u, ty, pos, af, g⟩ (.bool (!A.isNone)) :=
  pu_ne_of hx hy (fun w => run_neq_of rfl (run_eq_ptr ht w)) (fun w => rfl)
theorem pu_beq {t u : Nat} {x y : Operand} {m n : Bool} (ht : P.underlying t = some .bool) (hx : ρ x = .bool m) (hy : ρ y = .bool n) : Pu P ρ ⟨dst, .binOp .eql t x y u, ty, pos, af, g⟩ (.bool (m == n)) :=
  pu_eq_of hx hy (fun w => run_eql_of rfl (run_eq_bool ht w)) (fun w => rfl)
theorem pu_bne {t u : Nat} {x y : Operand} {m n : Bool} (ht : P.underlying t = some .bool) (hx : ρ x = .bool m) (hy : ρ y = .bool n) : Pu P ρ ⟨dst, .binOp .neq t x y u, ty, pos, af, g⟩ (.bool (!(m == n))) :=
  pu_ne_of hx hy (fun w => run_neq_of rfl (run_eq_bool ht w)) (fun w => rfl)
theorem pu_sleq {t u e : Nat} {x y : Operand} {A : Option Addr} {l c : Nat} (ht : P.underlying t = some (.slice e)) (hx : ρ x = .slice A l c) (hy : ρ y = .slice none 0 0) : Pu P ρ ⟨dst, .binOp .eql t x y u, ty, pos, af, g⟩ (.bool A.isNone) :=
  pu_eq_of hx hy (fun w => run_eql_of rfl (run_eq_slice ht w)) (fun w => rfl)
theorem pu_slne {t u e : Nat} {x y : Operand} {A : Option Addr} {l c : Nat} (ht : P.underlying t = some (.slice e)) (hx : ρ x = .slice A l c) (hy : ρ y = .slice none 0 0) : Pu P ρ ⟨dst, .binOp .neq t x y u, ty, pos, af, g⟩ (.bool (!A.isNone)) :=
  pu_ne_of hx hy (fun w => run_neq_of rfl (run_eq_slice ht w)) (fun w => rfl)
theorem pu_feq {t u : Nat} {x y : Operand} {ps rs : Array TypeId} {vr : Bool} {f : Fn} {a c : Array Value} (ht : P.underlying t = some (.func ps rs vr)) (hx : ρ x = .func f a c) (hy : ρ y = .nilFunc) : Pu P ρ ⟨dst, .binOp .eql t x y u, ty, pos, af, g⟩ (.bool false) :=
  pu_eq_of hx hy (fun w => run_eql_of rfl (run_eq_func ht w)) (fun w => rfl)

/-! ### parts of slices and strings -/
theorem pu_cut {t e' n : Nat} {x lo hi : Operand} {b o len cap : Nat} {i j : Int} (ht : sliceB P t e' n = true) (hx : ρ x = .slice (some ⟨b, o, none⟩) len cap) (hl : ρ lo = .int .i64 i) (hh : ρ hi = .int .i64 j) (h0 : 0 ≤ i) (h1 : i ≤ j) (h2 : j ≤ cap) :
    Pu P ρ ⟨dst, .slice t x (some lo) (some hi) none, ty, pos, af, g⟩ (.slice (some (if cap = i.toNat then ⟨b, o, none⟩ else (⟨b, o, none⟩ : Addr).add (i.toNat * n))) (j.toNat - i.toNat) (cap - i.toNat)) := fun w => by
  obtain ⟨hu, q, hq, hn⟩ := sliceB_spec ht
  have h3 : 0 ≤ j := by omega
  have h4 : i ≤ max j 0 := by omega
  have h5 : ¬ max j 0 < i := by omega
  have e : ∀ A B : Addr, (if cap = i.toNat then some A else some B) = some (if cap = i.toNat then A else B) := fun A B => by split <;> rfl
  have hz : (sizeOf e').run P w = .ok n w := by simp [sizeOf, typeInfo, program, hq, hn, Sem.run, Sem.bind, bind, pure]
  simp [execOp, hx, hl, hh, Instr.sliceAt, Instr.slice, Instr.sliceBounds, Instr.sliceBound, asIntOf, run_underlying hu, h0, h2, h3, h4, h5, hz, e]
theorem pu_scut {t : Nat} {x lo hi : Operand} {s : ByteArray} {k k' : IntKind} {i j : Int} (ht : P.underlying t = some .string) (hx : ρ x = .string s) (hl : ρ lo = .int k i) (hh : ρ hi = .int k' j) (h0 : 0 ≤ i) (h1 : i ≤ j) (h2 : j ≤ s.size) :
    Pu P ρ ⟨dst, .slice t x (some lo) (some hi) none, ty, pos, af, g⟩ (.string (s.extract i.toNat j.toNat)) := fun w => by
  have h3 : 0 ≤ j := by omega
  have h4 : i ≤ max j 0 := by omega
  have h5 : ¬ max j 0 < i := by omega
  simp [execOp, hx, hl, hh, Instr.sliceAt, Instr.slice, Instr.sliceBounds, Instr.sliceBound, asIntOf, run_underlying ht, h0, h2, h3, h4, h5]
end pure
end Go.Proofs.Ytbpkfifiigpdcaa.Sk
