import Derived.Test.YtbpkfifiigpdcaaSk9
/-! Sk, part ten: results that lie in memory; copy, clear; bytes to a string. -/
namespace Go.Proofs.Ytbpkfifiigpdcaa.Sk
open Go Go.RowKit
set_option linter.unusedVariables false
set_option linter.unusedSimpArgs false

/-- What a variable holds, as a whole. -/
def Holds (P : Program) (w : World) (t : TypeId) (A : Addr) (v : Value) : Prop := (loadVar t A).run P w = .ok v w
section holds
variable {P : Program} {w0 w : World} {C : List Chunk}
theorem holds_cells {t n b o : Nat} {vs : List Value} (ht : aggB P t n = true) (hl : vs.length = n) (hc : ∀ j v, vs[j]? = some v → w.cell? ⟨b, o + j, none⟩ = some v) : Holds P w t ⟨b, o, none⟩ (.agg vs.toArray) := by
  have hz : sizeB P t n = true := by simp only [aggB, Bool.and_eq_true] at ht; exact ht.1
  have := run_loadCells_list (P := P) (w := w) ⟨b, o, none⟩ vs (fun j v h => by rw [addr_add]; exact hc j v h)
  subst hl
  unfold Holds
  simp [loadVar, aggB_run ht, sizeB_run hz, this]
theorem holds_block {i t n b : Nat} {e : TypeId} {cs : Array Value} (ht : aggB P t n = true) (hS : Sat w0 w C) (hi : nth C i = some (.obj b (.cells cs e (0, 0)))) (hl : cs.size = n) : Holds P w t ⟨b, 0, none⟩ (.agg cs) := by
  have := holds_cells (P := P) (w := w) (b := b) (o := 0) (vs := cs.toList) ht (by simpa using hl) (fun j v h => hS.cell hi (by simpa using h))
  exact this
end holds
section ways
variable {P : Program} {fn : Func} {w : World} {R : Ending → World → Prop} {n : Shape} {a : Act} {L : List (Nat × Value)} {e : Exit}
theorem finc1 {t : Nat} {ty : TypeId} {A : Addr} {v : Value} (hr : fn.results = #[.cell t ty]) (hF : Fr a n L) (hp : look L t = some (.pointer (some A))) (hl : Holds P w ty A v) (hR : R (.returned v) w) (hm : n.marks = [] := by rfl) : bodyPost P fn R .ret a w :=
  bodyPost_ret (v := v) (by
    have h1 := hF.get _ _ hp
    simp only [Array.getD_eq_getD_getElem?] at h1
    unfold Holds at hl
    simp [results, hr, h1, asAddr, hl]) (hF.done hm) hR
theorem finc2 {t s : Nat} {ty : TypeId} {A : Addr} {u v : Value} (hr : fn.results = #[.cell t ty, .tmp s]) (hF : Fr a n L) (hp : look L t = some (.pointer (some A))) (hs : look L s = some v) (hl : Holds P w ty A u) (hR : R (.returned (.tuple #[u, v])) w) (hm : n.marks = [] := by rfl) : bodyPost P fn R .ret a w :=
  bodyPost_ret (v := .tuple #[u, v]) (by
    have h1 := hF.get _ _ hp
    have h2 := hF.get _ _ hs
    simp only [Array.getD_eq_getD_getElem?] at h1 h2
    unfold Holds at hl
    simp [results, hr, h1, h2, asAddr, hl]) (hF.done hm) hR
end ways

section ops
variable {P : Program} {ρ : Operand → Value} {dst : Option Tmp} {ty : TypeId} {pos : String} {af : Array Edge} {gd : Option (Nat × Bool)} {w : World}
theorem pu_cutLo {t e' n : Nat} {x lo : Operand} {A : Addr} {len cap : Nat} {i : Int} (ht : sliceB P t e' n = true) (hx : ρ x = .slice (some A) len cap) (hl : ρ lo = .int .i64 i) (h0 : 0 ≤ i) (h1 : i ≤ len) :
    Pu P ρ ⟨dst, .slice t x (some lo) none none, ty, pos, af, gd⟩ (.slice (some (if cap = i.toNat then A else A.add (i.toNat * n))) (len - i.toNat) (cap - i.toNat)) := fun w => by
  obtain ⟨hu, q, hq, hn⟩ := sliceB_spec ht
  have e : ∀ A B : Addr, (if cap = i.toNat then some A else some B) = some (if cap = i.toNat then A else B) := fun A B => by split <;> rfl
  have hz : (sizeOf e').run P w = .ok n w := by simp [sizeOf, typeInfo, program, hq, hn, Sem.run, Sem.bind, bind, pure]
  simp [execOp, hx, hl, Instr.sliceAt, Instr.slice, Instr.sliceBounds, Instr.sliceBound, asIntOf, run_underlying hu, h0, h1, hz, e]
theorem run_copy {t t' E sz g o dLen c sLen c' n : Nat} {A : Addr} {x y : Operand} {vs : List Value} {cs : Array Value} (ht : sliceB P t E sz = true) (hx : ρ x = .slice (some ⟨g, o, none⟩) dLen c) (hy : ρ y = .slice (some A) sLen c') (hn : Nat.min sLen dLen = n)
    (hv : ∀ j v, vs[j]? = some v → w.cell? (A.add j) = some v) (hl : vs.length = n * sz) (h1 : ∀ u ∈ vs, u.oneCell' = true) (hg : w.heap[g]? = some (.cells cs E (0, 0))) (hfit : o + vs.length ≤ cs.size) :
    (execOp ρ ⟨dst, .call { callee := .builtin .copy, args := #[x, y], argTypes := #[t, t'] }, ty, pos, af, gd⟩).run P w = .ok (.value (.int .i64 n)) (w.setRow g (storeA cs o vs)) := by
  obtain ⟨hu, q, hq, hs⟩ := sliceB_spec ht
  have h2 := run_storeCells_at P g o E vs 0 cs w hg (by simpa using hfit) h1
  simp only [Nat.add_zero] at h2
  have h3 := run_loadCells_list (P := P) (w := w) A vs hv
  have hz : (sizeOf E).run P w = .ok sz w := by simp [sizeOf, typeInfo, program, hq, hs, Sem.run, Sem.bind, bind, pure]
  simp only [execOp, resolve, invoke, builtin, Sem.run_bind, Sem.run_pure, Result.andThen_ok, List.map_toArray, List.map_cons, List.map_nil, hx, hy]
  simp [Builtin.copy_, Builtin.lenOf, Builtin.firstCells, run_underlying hu, hn, hz, ← hl, h3, h2, storeA, putL, goInt]
theorem run_clear {t E sz g o n c : Nat} {x : Operand} {z : Value} {vs : List Value} {cs : Array Value} (ht : sliceB P t E sz = true) (hzr : zeroO P E = some z) (hx : ρ x = .slice (some ⟨g, o, none⟩) n c) (hn : n ≠ 0) (hv : (Builtin.zeroCells z.cells n).toList = vs)
    (h1 : ∀ u ∈ vs, u.oneCell' = true) (hg : w.heap[g]? = some (.cells cs E (0, 0))) (hfit : o + vs.length ≤ cs.size) :
    (execOp ρ ⟨dst, .call { callee := .builtin .clear, args := #[x], argTypes := #[t] }, ty, pos, af, gd⟩).run P w = .ok (.value (.tuple #[])) (w.setRow g (storeA cs o vs)) := by
  obtain ⟨hu, q, hq, hs⟩ := sliceB_spec ht
  have h2 := run_storeCells_at P g o E vs 0 cs w hg (by simpa using hfit) h1
  simp only [Nat.add_zero] at h2
  simp only [execOp, resolve, invoke, builtin, Sem.run_bind, Sem.run_pure, Result.andThen_ok, List.map_toArray, List.map_cons, List.map_nil, hx]
  cases n with
  | zero => exact absurd rfl hn
  | succ n => simp [Builtin.clear_, run_underlying hu, zeroO_run hzr, hv, h2, storeA, putL]
end ops
section bytes
variable {P : Program} {ρ : Operand → Value} {dst : Option Tmp} {ty : TypeId} {pos : String} {af : Array Edge} {gd : Option (Nat × Bool)} {w : World}
def bytesB (P : Program) (t : Nat) : Bool := match P.underlying t with | some (.slice e) => (match P.underlying e with | some (.int .u8) => true | _ => false) | _ => false
/-- string([]byte{n}). -/
theorem rd_byte1 {t s : Nat} {A : Addr} {c : Nat} {x : Operand} {n : Int} (ht : bytesB P t = true) (hs : P.underlying s = some .string) (hx : ρ x = .slice (some A) 1 c) (hv : w.cell? A = some (.int .u8 n)) :
    Rd P ρ w ⟨dst, .convert t s x, ty, pos, af, gd⟩ (.string (ByteArray.empty.push (UInt8.ofNat n.toNat))) := by
  unfold bytesB at ht
  split at ht
  · rename_i e hu
    split at ht
    · rename_i hu2
      have h3 := run_loadCells_list (P := P) (w := w) A [.int .u8 n] (fun j v h => by
        cases j with
        | zero => simp at h; subst h; simpa [Addr.add] using hv
        | succ j => simp at h)
      have h4 : (loadCells A 1).run P w = .ok #[.int .u8 n] w := by simpa using h3
      unfold Rd
      simp [execOp, hx, convert, run_underlying hu, run_underlying hu2, run_underlying hs, Conv.bytesToString, h4]
    · cases ht
  · cases ht
end bytes
end Go.Proofs.Ytbpkfifiigpdcaa.Sk
