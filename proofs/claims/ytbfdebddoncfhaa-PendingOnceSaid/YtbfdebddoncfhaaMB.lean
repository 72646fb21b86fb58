import Derived.Test.YtbfdebddoncfhaaMA
import Derived.Laws.StructEq
import Derived.ChangeKeysEq
/-! Sk, part ten: results that lie in memory; copy, clear; bytes to a string. -/
namespace Go.Proofs.Ytbfdebddoncfhaa.Sk
open Go Go.RowKit
set_option linter.unusedVariables false
set_option linter.unusedSimpArgs false

/-- What a variable holds, as a whole. -/
def Holds (P : Program) (w : World) (t : TypeId) (A : Addr) (v : Value) : Prop := (loadVar t A).run P w = .ok v w
section holds
variable {P : Program} {w0 w : World} {C : List Chunk}
theorem holds_cells {t n b o : Nat} {vs : List Value} (ht : aggB P t n = true) (hl : vs.length = n) (hc : ∀ j v, vs[j]? = some v → w.cell? ⟨b, o + j, none⟩ = some v) : Holds P w t ⟨b, o, none⟩ (.agg vs.toArray) := by
  have hz : sizeB P t n = true := by simp only [aggB, Bool.and_eq_true] at ht; exact ht.1
  have := run_loadCells_list (P := P) (w := w) ⟨b, o, none⟩ vs (fun j v h => by rw [addr_add]; exact hc j v h)
  subst hl
  unfold Holds
  simp [loadVar, aggB_run ht, sizeB_run hz, this]
theorem holds_block {i t n b : Nat} {e : TypeId} {cs : Array Value} (ht : aggB P t n = true) (hS : Sat w0 w C) (hi : nth C i = some (.obj b (.cells cs e (0, 0)))) (hl : cs.size = n) : Holds P w t ⟨b, 0, none⟩ (.agg cs) := by
  have := holds_cells (P := P) (w := w) (b := b) (o := 0) (vs := cs.toList) ht (by simpa using hl) (fun j v h => hS.cell hi (by simpa using h))
  exact this
end holds
section ways
variable {P : Program} {fn : Func} {w : World} {R : Ending → World → Prop} {n : Shape} {a : Act} {L : List (Nat × Value)} {e : Exit}
theorem finc1 {t : Nat} {ty : TypeId} {A : Addr} {v : Value} (hr : fn.results = #[.cell t ty]) (hF : Fr a n L) (hp : look L t = some (.pointer (some A))) (hl : Holds P w ty A v) (hR : R (.returned v) w) (hm : n.marks = [] := by rfl) : bodyPost P fn R .ret a w :=
  bodyPost_ret (v := v) (by
    have h1 := hF.get _ _ hp
    simp only [Array.getD_eq_getD_getElem?] at h1
    unfold Holds at hl
    simp [results, hr, h1, asAddr, hl]) (hF.done hm) hR
theorem finc2 {t s : Nat} {ty : TypeId} {A : Addr} {u v : Value} (hr : fn.results = #[.cell t ty, .tmp s]) (hF : Fr a n L) (hp : look L t = some (.pointer (some A))) (hs : look L s = some v) (hl : Holds P w ty A u) (hR : R (.returned (.tuple #[u, v])) w) (hm : n.marks = [] := by rfl) : bodyPost P fn R .ret a w :=
  bodyPost_ret (v := .tuple #[u, v]) (by
    have h1 := hF.get _ _ hp
    have h2 := hF.get _ _ hs
    simp only [Array.getD_eq_getD_getElem?] at h1 h2
    unfold Holds at hl
    simp [results, hr, h1, h2, asAddr, hl]) (hF.done hm) hR
end ways

section ops
variable {P : Program} {ρ : Operand → Value} {dst : Option Tmp} {ty : TypeId} {pos : String} {af : Array Edge} {gd : Option (Nat × Bool)} {w : World}
theorem pu_cutLo {t e' n : Nat} {x lo : Operand} {A : Addr} {len cap : Nat} {i : Int} (ht : sliceB P t e' n = true) (hx : ρ x = .slice (some A) len cap) (hl : ρ lo = .int .i64 i) (h0 : 0 ≤ i) (h1 : i ≤ len) :
    Pu P ρ ⟨dst, .slice t x (some lo) none none, ty, pos, af, gd⟩ (.slice (some (if cap = i.toNat then A else A.add (i.toNat * n))) (len - i.toNat) (cap - i.toNat)) := fun w => by
  obtain ⟨hu, q, hq, hn⟩ := sliceB_spec ht
  have e : ∀ A B : Addr, (if cap = i.toNat then some A else some B) = some (if cap = i.toNat then A else B) := fun A B => by split <;> rfl
  have hz : (sizeOf e').run P w = .ok n w := by simp [sizeOf, typeInfo, program, hq, hn, Sem.run, Sem.bind, bind, pure]
  simp [execOp, hx, hl, Instr.sliceAt, Instr.slice, Instr.sliceBounds, Instr.sliceBound, asIntOf, run_underlying hu, h0, h1, hz, e]
theorem run_copy {t t' E sz g o dLen c sLen c' n : Nat} {A : Addr} {x y : Operand} {vs : List Value} {cs : Array Value} (ht : sliceB P t E sz = true) (hx : ρ x = .slice (some ⟨g, o, none⟩) dLen c) (hy : ρ y = .slice (some A) sLen c') (hn : Nat.min sLen dLen = n)
    (hv : ∀ j v, vs[j]? = some v → w.cell? (A.add j) = some v) (hl : vs.length = n * sz) (h1 : ∀ u ∈ vs, u.oneCell' = true) (hg : w.heap[g]? = some (.cells cs E (0, 0))) (hfit : o + vs.length ≤ cs.size) :
    (execOp ρ ⟨dst, .call { callee := .builtin .copy, args := #[x, y], argTypes := #[t, t'] }, ty, pos, af, gd⟩).run P w = .ok (.value (.int .i64 n)) (w.setRow g (storeA cs o vs)) := by
  obtain ⟨hu, q, hq, hs⟩ := sliceB_spec ht
  have h2 := run_storeCells_at P g o E vs 0 cs w hg (by simpa using hfit) h1
  simp only [Nat.add_zero] at h2
  have h3 := run_loadCells_list (P := P) (w := w) A vs hv
  have hz : (sizeOf E).run P w = .ok sz w := by simp [sizeOf, typeInfo, program, hq, hs, Sem.run, Sem.bind, bind, pure]
  simp only [execOp, resolve, invoke, builtin, Sem.run_bind, Sem.run_pure, Result.andThen_ok, List.map_toArray, List.map_cons, List.map_nil, hx, hy]
  simp [Builtin.copy_, Builtin.lenOf, Builtin.firstCells, run_underlying hu, hn, hz, ← hl, h3, h2, storeA, putL, goInt]
theorem run_clear {t E sz g o n c : Nat} {x : Operand} {z : Value} {vs : List Value} {cs : Array Value} (ht : sliceB P t E sz = true) (hzr : zeroO P E = some z) (hx : ρ x = .slice (some ⟨g, o, none⟩) n c) (hn : n ≠ 0) (hv : (Builtin.zeroCells z.cells n).toList = vs)
    (h1 : ∀ u ∈ vs, u.oneCell' = true) (hg : w.heap[g]? = some (.cells cs E (0, 0))) (hfit : o + vs.length ≤ cs.size) :
    (execOp ρ ⟨dst, .call { callee := .builtin .clear, args := #[x], argTypes := #[t] }, ty, pos, af, gd⟩).run P w = .ok (.value (.tuple #[])) (w.setRow g (storeA cs o vs)) := by
  obtain ⟨hu, q, hq, hs⟩ := sliceB_spec ht
  have h2 := run_storeCells_at P g o E vs 0 cs w hg (by simpa using hfit) h1
  simp only [Nat.add_zero] at h2
  simp only [execOp, resolve, invoke, builtin, Sem.run_bind, Sem.run_pure, Result.andThen_ok, List.map_toArray, List.map_cons, List.map_nil, hx]
  cases n with
  | zero => exact absurd rfl hn
  | succ n => simp [Builtin.clear_, run_underlying hu, zeroO_run hzr, hv, h2, storeA, putL]
end ops
section bytes
variable {P : Program} {ρ : Operand → Value} {dst : Option Tmp} {ty : TypeId} {pos : String} {af : Array Edge} {gd : Option (Nat × Bool)} {w : World}
def bytesB (P : Program) (t : Nat) : Bool := match P.underlying t with | some (.slice e) => (match P.underlying e with | some (.int .u8) => true | _ => false) | _ => false
/-- string([]byte{n}). -/
theorem rd_byte1 {t s : Nat} {A : Addr} {c : Nat} {x : Operand} {n : Int} (ht : bytesB P t = true) (hs : P.underlying s = some .string) (hx : ρ x = .slice (some A) 1 c) (hv : w.cell? A = some (.int .u8 n)) :
    Rd P ρ w ⟨dst, .convert t s x, ty, pos, af, gd⟩ (.string (ByteArray.empty.push (UInt8.ofNat n.toNat))) := by
  unfold bytesB at ht
  split at ht
  · rename_i e hu
    split at ht
    · rename_i hu2
      have h3 := run_loadCells_list (P := P) (w := w) A [.int .u8 n] (fun j v h => by
        cases j with
        | zero => simp at h; subst h; simpa [Addr.add] using hv
        | succ j => simp at h)
      have h4 : (loadCells A 1).run P w = .ok #[.int .u8 n] w := by simpa using h3
      unfold Rd
      simp [execOp, hx, convert, run_underlying hu, run_underlying hu2, run_underlying hs, Conv.bytesToString, h4]
    · cases ht
  · cases ht
end bytes
end Go.Proofs.Ytbfdebddoncfhaa.Sk
/-! Sk, part eleven: trees: lists of (number, text, list) within one another. -/
namespace Go.Proofs.Ytbfdebddoncfhaa.Sk
open Go Go.RowKit
set_option linter.unusedVariables false
set_option linter.unusedSimpArgs false

inductive Tr where
  | node (tag : Int) (val : ByteArray) (kids : List Tr)
def Tr.tag : Tr → Int | .node t _ _ => t
def Tr.val : Tr → ByteArray | .node _ v _ => v
def Tr.kids : Tr → List Tr | .node _ _ k => k
def cells3 : List Tr → List Value → List Value
  | t :: ts, h :: hs => .int .i64 t.tag :: .string t.val :: h :: cells3 ts hs
  | _, _ => []
theorem cells3_len : ∀ {ts : List Tr} {hs : List Value}, hs.length = ts.length → (cells3 ts hs).length = ts.length * 3
  | [], [], _ => rfl
  | _ :: ts, _ :: hs, h => by
    have := cells3_len (ts := ts) (hs := hs) (by simpa using h)
    simp only [cells3, List.length_cons, this]
    omega
  | [], _ :: _, h => by simp at h
  | _ :: _, [], h => by simp at h
theorem cells3_at : ∀ {ts : List Tr} {hs : List Value} {i : Nat} {t : Tr} {h : Value}, ts[i]? = some t → hs[i]? = some h → ∀ j v, [Value.int .i64 t.tag, .string t.val, h][j]? = some v → (cells3 ts hs)[i * 3 + j]? = some v
  | [], _, _, _, _, h1, _, _, _, _ => by simp at h1
  | _ :: _, [], _, _, _, _, h2, _, _, _ => by simp at h2
  | t :: ts, h :: hs, 0, _, _, h1, h2, j, v, hj => by
    simp at h1 h2
    subst h1; subst h2
    rw [Nat.zero_mul, Nat.zero_add]
    match j, hj with
    | 0, hj => exact hj
    | 1, hj => exact hj
    | 2, hj => exact hj
    | j + 3, hj => simp at hj
  | t :: ts, h :: hs, i + 1, _, _, h1, h2, j, v, hj => by
    simp only [List.getElem?_cons_succ] at h1 h2
    have := cells3_at h1 h2 j v hj
    have e : (i + 1) * 3 + j = (i * 3 + j) + 3 := by omega
    rw [e]
    exact this
theorem cells3_snoc : ∀ {ts : List Tr} {hs : List Value} (t : Tr) (h : Value), hs.length = ts.length → cells3 (ts ++ [t]) (hs ++ [h]) = cells3 ts hs ++ [.int .i64 t.tag, .string t.val, h]
  | [], [], _, _, _ => rfl
  | _ :: ts, _ :: hs, t, h, hl => by
    have := cells3_snoc (ts := ts) (hs := hs) t h (by simpa using hl)
    simp only [List.cons_append, cells3, this]
  | [], _ :: _, _, _, h => by simp at h
  | _ :: _, [], _, _, h => by simp at h

/-- A list of trees in memory of its own, down to depth k: type E, those within NT. -/
def nodesC (NT : Nat) : Nat → Nat → Value → List Tr → Chunk
  | 0, _, h, ts => pureC (ts = [] ∧ h = .slice none 0 0) emp
  | k + 1, E, h, ts => exC fun hs => pureC (hs.length = ts.length ∧ (ts.length + 1) * 96 ≤ 140737488355328) (star (rowC E 3 h ts.length (cells3 ts hs) :: List.zipWith (fun h t => nodesC NT k NT h t.kids) hs ts))
def kidsC (NT k : Nat) (hs : List Value) (ts : List Tr) : List Chunk := List.zipWith (fun h t => nodesC NT k NT h t.kids) hs ts
section
variable {w0 w : World} {C F : List Chunk} {NT k E : Nat} {h : Value} {ts : List Tr}
theorem nodes_open : Sat w0 w (nodesC NT (k + 1) E h ts :: F) ↔ ∃ hs : List Value, (hs.length = ts.length ∧ (ts.length + 1) * 96 ≤ 140737488355328) ∧ Sat w0 w (rowC E 3 h ts.length (cells3 ts hs) :: (kidsC NT k hs ts ++ F)) := by
  unfold nodesC kidsC
  simp only [sat_ex, sat_pure, sat_star, List.cons_append]
theorem nodes_none : Sat w0 w (nodesC NT 0 E (.slice none 0 0) [] :: F) ↔ Sat w0 w F := by
  unfold nodesC
  rw [sat_pure, sat_emp]
  simp
theorem nodes_zero (hS : Sat w0 w (nodesC NT 0 E h ts :: F)) : ts = [] ∧ h = .slice none 0 0 ∧ Sat w0 w F := by
  unfold nodesC at hS
  rw [sat_pure, sat_emp] at hS
  exact ⟨hS.1.1, hS.1.2, hS.2⟩
theorem nodes_val (hS : Sat w0 w (nodesC NT k E h ts :: F)) : ∃ A c, h = .slice A ts.length c := by
  cases k with
  | zero => obtain ⟨rfl, rfl, _⟩ := nodes_zero hS; exact ⟨_, _, rfl⟩
  | succ k =>
    obtain ⟨hs, _, hS⟩ := nodes_open.1 hS
    obtain ⟨A, c, e, _⟩ := row_val hS
    exact ⟨A, c, e⟩
theorem kids_snoc {hs : List Value} {t : Tr} (hl : hs.length = ts.length) : kidsC NT k (hs ++ [h]) (ts ++ [t]) = kidsC NT k hs ts ++ [nodesC NT k NT h t.kids] := by
  unfold kidsC
  rw [List.zipWith_append hl]
  rfl

/-- Exactly these blocks. -/
def exactC (f0 : Frag) : Chunk := .pr fun f => f = f0
theorem Sat.exact {c : Chunk} (hS : Sat w0 w (c :: C)) : ∃ f0, c.holds f0 ∧ Sat w0 w (exactC f0 :: C) ∧ ∀ i o, f0 i = some o → w.heap[i]? = some o := by
  obtain ⟨f, hf, hs⟩ := hS.own
  obtain ⟨g, r, hg, hr, ha, rfl⟩ := made_cons.1 hf
  exact ⟨g, hg, ⟨hS.os, hS.tape, hS.output, hS.size, _, .cons (c := exactC g) rfl hr ha, hs⟩, fun i o hi => hs i o (join_some hi)⟩
theorem Sat.exact_get {f0 : Frag} {i : Nat} {o : Obj} (hS : Sat w0 w (exactC f0 :: C)) (hi : f0 i = some o) : w.heap[i]? = some o := by
  obtain ⟨f, hf, hs⟩ := hS.own
  obtain ⟨g, r, hg, hr, ha, rfl⟩ := made_cons.1 hf
  have e : g = f0 := hg
  subst e
  exact hs i o (join_some hi)
theorem Sat.unexact {c : Chunk} {f0 : Frag} (hS : Sat w0 w (exactC f0 :: C)) (hc : c.holds f0) : Sat w0 w (c :: C) := by
  obtain ⟨f, hf, hs⟩ := hS.own
  obtain ⟨g, r, hg, hr, ha, rfl⟩ := made_cons.1 hf
  have e : g = f0 := hg
  subst e
  exact ⟨hS.os, hS.tape, hS.output, hS.size, _, .cons hc hr ha, hs⟩
theorem made_get {f : Frag} : ∀ {C : List Chunk} {i : Nat} {c : Chunk}, Made C f → C[i]? = some c → ∃ g, c.holds g ∧ ∀ b o, g b = some o → f b = some o := by
  intro C
  induction C generalizing f with
  | nil => intro i c _ h; simp at h
  | cons d C ih =>
    intro i c hm hi
    obtain ⟨g, r, hg, hr, ha, rfl⟩ := made_cons.1 hm
    cases i with
    | zero => simp at hi; subst hi; exact ⟨g, hg, fun b o hb => join_some hb⟩
    | succ i =>
      simp only [List.getElem?_cons_succ] at hi
      obtain ⟨q, hq, hqr⟩ := ih hr hi
      refine ⟨q, hq, fun b o hb => ?_⟩
      have := hqr b o hb
      rcases ha b with e | e
      · rw [join_none e]; exact this
      · rw [e] at this; cases this
end

/-- What is read there: trees, in blocks of D of the world W. -/
def RdN (W : World) (D : Nat → Prop) : Nat → Value → List Tr → Prop
  | 0, h, ts => ts = [] ∧ ∃ A c, h = .slice A 0 c
  | k + 1, h, ts => ∃ A c, h = .slice A ts.length c ∧ (ts.length + 1) * 96 ≤ 140737488355328 ∧ ∀ (i : Nat) (t : Tr), ts[i]? = some t → ∃ x hk, A = some x ∧ D x.block ∧
      (∀ j v, [Value.int .i64 t.tag, .string t.val, hk][j]? = some v → W.cell? (x.add (i * 3 + j)) = some v) ∧ RdN W D k hk t.kids
/-- The worlds of the form C have the blocks of D as W has them. -/
def Keeps (w0 : World) (C : List Chunk) (W : World) (D : Nat → Prop) : Prop := ∀ w, Sat w0 w C → ∀ b, D b → w.heap[b]? = W.heap[b]?
section
variable {w0 w W : World} {C F : List Chunk} {NT k E : Nat} {h : Value} {ts : List Tr} {D : Nat → Prop}
theorem RdN.slice (hR : RdN W D k h ts) : ∃ A c, h = .slice A ts.length c ∧ (ts.length + 1) * 96 ≤ 140737488355328 := by
  cases k with
  | zero => obtain ⟨rfl, A, c, rfl⟩ := hR; exact ⟨A, c, rfl, by simp⟩
  | succ k => obtain ⟨A, c, e, hb, _⟩ := hR; exact ⟨A, c, e, hb⟩
theorem RdN.at {A : Option Addr} {n c i : Nat} {t : Tr} (hR : RdN W D k (.slice A n c) ts) (hi : ts[i]? = some t) : ∃ x hk k', k = k' + 1 ∧ A = some x ∧ D x.block ∧
    (∀ j v, [Value.int .i64 t.tag, .string t.val, hk][j]? = some v → W.cell? (x.add (i * 3 + j)) = some v) ∧ RdN W D k' hk t.kids := by
  cases k with
  | zero => obtain ⟨rfl, _⟩ := hR; simp at hi
  | succ k =>
    obtain ⟨A', c', e, _, h⟩ := hR
    injection e with e1 e2 e3
    subst e1
    obtain ⟨x, hk, h1, h2, h3, h4⟩ := h i t hi
    exact ⟨x, hk, k, rfl, h1, h2, h3, h4⟩
theorem RdN.mono {D' : Nat → Prop} (hd : ∀ b, D b → D' b) : ∀ {k : Nat} {h : Value} {ts : List Tr}, RdN W D k h ts → RdN W D' k h ts
  | 0, _, _, hR => hR
  | k + 1, h, ts, hR => by
    obtain ⟨A, c, e, hb, hh⟩ := hR
    refine ⟨A, c, e, hb, fun i t hi => ?_⟩
    obtain ⟨x, hk, h1, h2, h3, h4⟩ := hh i t hi
    exact ⟨x, hk, h1, hd _ h2, h3, RdN.mono hd h4⟩
theorem add_block (x : Addr) (n : Nat) : (x.add n).block = x.block := by
  unfold Addr.add
  split <;> rfl
theorem add_add (x : Addr) (n m : Nat) : (x.add n).add m = x.add (n + m) := by
  unfold Addr.add
  by_cases h1 : n = 0
  · subst h1; simp
  · by_cases h2 : m = 0
    · subst h2; simp
    · have h3 : ¬ n + m = 0 := by omega
      simp only [h1, h2, h3, if_false]
      congr 1
      omega
theorem Keeps.cell (hK : Keeps w0 C W D) (hS : Sat w0 w C) {x : Addr} {n : Nat} {v : Value} (hx : D x.block) (hv : W.cell? (x.add n) = some v) : w.cell? (x.add n) = some v := by
  rw [← hv]
  exact World.cell?_of_block (w := W) (hK w hS _ (by rw [add_block]; exact hx))
theorem Keeps.sub {C' : List Chunk} (hK : Keeps w0 C W D) (h : ∀ w, Sat w0 w C' → Sat w0 w C) : Keeps w0 C' W D := fun w hS => hK w (h w hS)
theorem keeps_exact {f0 : Frag} {i : Nat} (hf : ∀ i o, f0 i = some o → W.heap[i]? = some o) (hi : nth C i = some (exactC f0)) : Keeps w0 C W (fun b => f0 b ≠ none) := by
  intro w hS b hb
  cases h : f0 b with
  | none => exact absurd h hb
  | some o => rw [hf b o h, (hS.front i hi).exact_get h]
theorem keeps_whole {i : Nat} (hi : nth C i = some (whole W)) : Keeps w0 C W (fun b => b < W.heap.size) := fun w hS b hb => (hS.front i hi).whole_get hb

/-- What is told of a chunk can be read. -/
theorem nodes_rd : ∀ {k E : Nat} {h : Value} {ts : List Tr} {f : Frag}, (nodesC NT k E h ts).holds f → (∀ i o, f i = some o → w.heap[i]? = some o) → RdN w (fun b => f b ≠ none) k h ts := by
  intro k
  induction k with
  | zero =>
    intro E h ts f hf _
    unfold nodesC at hf
    obtain ⟨⟨rfl, rfl⟩, _⟩ := hf
    exact ⟨rfl, _, _, rfl⟩
  | succ k ih =>
    intro E h ts f hf hs
    unfold nodesC at hf
    obtain ⟨hs', ⟨hl, hb⟩, hm⟩ := hf
    have hm : Made (rowC E 3 h ts.length (cells3 ts hs') :: List.zipWith (fun h t => nodesC NT k NT h t.kids) hs' ts) f := hm
    obtain ⟨g, r, hg, hr, ha, rfl⟩ := made_cons.1 hm
    obtain ⟨hlen, hg⟩ := hg
    rcases hg with ⟨rfl, h0, _⟩ | ⟨g1, cap, cur, rfl, h1, h2, h3, h4, h5⟩
    · have : ts = [] := List.length_eq_zero_iff.1 h0
      subst this
      exact ⟨_, _, rfl, hb, fun i t hi => by simp at hi⟩
    · refine ⟨_, _, rfl, hb, fun i t hi => ?_⟩
      have hit := (List.getElem?_eq_some_iff.1 hi).1
      obtain ⟨hk, hhk⟩ : ∃ hk, hs'[i]? = some hk := ⟨hs'[i]'(by omega), List.getElem?_eq_getElem _⟩
      have e : g = _ := h5
      have hgb : g g1 = some (.cells cur E (0, 0)) := by rw [e]; simp
      have hheap := hs g1 _ (join_some hgb)
      obtain ⟨q, hq, hqr⟩ := made_get hr (i := i) (c := nodesC NT k NT hk t.kids) (by simp [List.getElem?_zipWith, hhk, hi])
      have hqf : ∀ b o, q b = some o → join g r b = some o := by
        intro b o hb
        have := hqr b o hb
        rcases ha b with e | e
        · rw [join_none e]; exact this
        · rw [e] at this; cases this
      refine ⟨⟨g1, 0, none⟩, hk, rfl, by simp [join, hgb], fun j v hj => ?_, ?_⟩
      · have := cells3_at hi hhk j v hj
        rw [← h4, List.getElem?_take] at this
        split at this
        · rw [addr_add]
          simp [World.cell?, hheap]
          simpa using this
        · cases this
      · refine RdN.mono (D := fun b => q b ≠ none) (fun b hb hn => ?_) (ih hq (fun b o hbo => hs b o (hqf b o hbo)))
        cases hqb : q b with
        | none => exact hb hqb
        | some o => rw [hqf b o hqb] at hn; cases hn
end

section ops
variable {P : Program} {ρ : Operand → Value} {dst : Option Tmp} {ty : TypeId} {pos : String} {af : Array Edge} {g : Option (Nat × Bool)} {w : World}
theorem rd_loadA {t n : Nat} {A : Addr} {x : Operand} {vs : List Value} (ht : aggB P t n = true) (hx : ρ x = .pointer (some A)) (hl : vs.length = n) (hc : ∀ j v, vs[j]? = some v → w.cell? (A.add j) = some v) :
    Rd P ρ w ⟨dst, .load t x, ty, pos, af, g⟩ (.agg vs.toArray) := by
  have hz : sizeB P t n = true := by simp only [aggB, Bool.and_eq_true] at ht; exact ht.1
  have := run_loadCells_list (P := P) (w := w) A vs hc
  unfold Rd
  subst hl
  simp [execOp, hx, Instr.loadAt, Instr.sureAddr, loadVar, aggB_run ht, sizeB_run hz, this]
end ops
end Go.Proofs.Ytbfdebddoncfhaa.Sk
/-! Sk, part twelve: min, max. -/
namespace Go.Proofs.Ytbfdebddoncfhaa.Sk
open Go Go.RowKit
set_option linter.unusedVariables false
set_option linter.unusedSimpArgs false
section ops
variable {P : Program} {ρ : Operand → Value} {dst : Option Tmp} {ty : TypeId} {pos : String} {af : Array Edge} {gd : Option (Nat × Bool)}
theorem pu_min {x y : Operand} {ts : Array TypeId} {k k' : IntKind} {m n : Int} (hx : ρ x = .int k m) (hy : ρ y = .int k' n) : Pu P ρ ⟨dst, .call { callee := .builtin .min, args := #[x, y], argTypes := ts }, ty, pos, af, gd⟩ (.int k (min m n)) := fun w => by
  simp only [execOp, resolve, invoke, builtin, Sem.run_bind, Sem.run_pure, Result.andThen_ok, List.map_toArray, List.map_cons, List.map_nil, hx, hy]
  have : (Builtin.min_ ts ty #[.int k m, .int k' n]).run P w = .ok (.int k (if n < m then n else m)) w := by
    simp [Builtin.min_, Builtin.min2]
  rw [this]
  have e : (if n < m then n else m) = min m n := by
    split <;> omega
  simp [e]
theorem pu_max {x y : Operand} {ts : Array TypeId} {k k' : IntKind} {m n : Int} (hx : ρ x = .int k m) (hy : ρ y = .int k' n) : Pu P ρ ⟨dst, .call { callee := .builtin .max, args := #[x, y], argTypes := ts }, ty, pos, af, gd⟩ (.int k (max m n)) := fun w => by
  simp only [execOp, resolve, invoke, builtin, Sem.run_bind, Sem.run_pure, Result.andThen_ok, List.map_toArray, List.map_cons, List.map_nil, hx, hy]
  have : (Builtin.max_ ts ty #[.int k m, .int k' n]).run P w = .ok (.int k (if n > m then n else m)) w := by
    simp [Builtin.max_, Builtin.max2]
  rw [this]
  have e : (if n > m then n else m) = max m n := by
    split <;> omega
  simp [e]
end ops
end Go.Proofs.Ytbfdebddoncfhaa.Sk
/-! Sk, part thirteen: the first element goes: copy(l, l[1:]), clear(l[n:]), l[:n]. -/
namespace Go.Proofs.Ytbfdebddoncfhaa.Sk
open Go Go.RowKit
set_option linter.unusedVariables false
set_option linter.unusedSimpArgs false

section
variable {w0 w : World} {C : List Chunk} {E sz n c g i : Nat} {xs : List Value}
theorem storeA_list {cs : Array Value} {o : Nat} {vs : List Value} : (storeA cs o vs).toList = cs.toList.take o ++ vs ++ cs.toList.drop (o + vs.length) := by
  unfold storeA putL
  simp
/-- A row's begin. -/
theorem row_cut {A : Addr} {m : Nat} (h : Sat w0 w (rowC E sz (.slice (some A) n c) n xs :: C)) (hm : m ≤ n) : Sat w0 w (rowC E sz (.slice (some A) m c) m (xs.take (m * sz)) :: C) := by
  rcases (row_open h).2 with ⟨e, _⟩ | ⟨g, cap, cur, e, h1, h2, h3, h4, h5⟩
  · cases e
  · injection e with e _ e2
    injection e with e
    subst e; subst e2
    refine row_shut h5 (by omega) h2 h3 ?_
    rw [← h4, List.take_take, Nat.min_eq_left (Nat.mul_le_mul_right _ hm)]
/-- What is stored within a row. -/
theorem row_write {o : Nat} {vs : List Value} (hS : Sat w0 w C) (hi : nth C i = some (rowC E sz (.slice (some ⟨g, 0, none⟩) n c) n xs)) (ho : o + vs.length ≤ n * sz) :
    ∃ cs, w.heap[g]? = some (.cells cs E (0, 0)) ∧ o + vs.length ≤ cs.size ∧ Sat w0 (w.setRow g (storeA cs o vs)) (upd C i (rowC E sz (.slice (some ⟨g, 0, none⟩) n c) n (xs.take o ++ vs ++ xs.drop (o + vs.length)))) := by
  have h' := hS.front i hi
  rcases (row_open h').2 with ⟨e, _⟩ | ⟨g', cap, cur, e, h1, h2, h3, h4, h5⟩
  · cases e
  · injection e with e e1 e2
    injection e with e
    injection e with e
    subst e
    subst e2
    have hle : n * sz ≤ c * sz := Nat.mul_le_mul_right _ h1
    refine ⟨cur, h5.obj, by omega, ?_⟩
    have h6 := sat_setRow (i := 0) (cs' := storeA cur o vs) h5 rfl
    refine (row_shut (n := n) (cap := c) h6 h1 h2 ?_ ?_).back hi
    · have : (storeA cur o vs).toList.length = c * sz := by
        rw [storeA_list]
        simp [h3]
        omega
      simpa using this
    · rw [storeA_list, ← h4]
      apply List.ext_getElem?
      intro j
      simp only [List.getElem?_take, List.getElem?_append, List.length_append, List.length_take, List.getElem?_drop, Array.length_toList, h3]
      by_cases hj : j < n * sz
      · rw [if_pos hj]
        have e1 : min o (c * sz) = o := by omega
        have e2 : min o (min (n * sz) (c * sz)) = o := by omega
        rw [e1, e2]
        by_cases h7 : j < o + vs.length
        · rw [if_pos h7, if_pos h7]
          by_cases h8 : j < o
          · simp [h8, hj]
          · simp [h8]
        · rw [if_neg h7, if_neg h7]
          have : o + vs.length + (j - (o + vs.length)) < n * sz := by omega
          simp [this]
      · rw [if_neg hj]
        have e2 : min o (min (n * sz) (c * sz)) = o := by omega
        rw [e2]
        have h7 : ¬ j < o + vs.length := by omega
        have : ¬ o + vs.length + (j - (o + vs.length)) < n * sz := by omega
        rw [if_neg h7]
        simp [this]
end
section ops
variable {P : Program} {ρ : Operand → Value} {dst : Option Tmp} {ty : TypeId} {pos : String} {af : Array Edge} {gd : Option (Nat × Bool)} {w0 w : World} {C : List Chunk} {E sz n c g : Nat} {xs : List Value}
theorem copy_down {t t' : Nat} {x y : Operand} (i : Nat) (ht : sliceB P t E sz = true) (hx : ρ x = .slice (some ⟨g, 0, none⟩) n c) (hy : ρ y = .slice (some (if c = 1 then ⟨g, 0, none⟩ else (⟨g, 0, none⟩ : Addr).add (1 * sz))) (n - 1) (c - 1))
    (hS : Sat w0 w C) (hi : nth C i = some (rowC E sz (.slice (some ⟨g, 0, none⟩) n c) n xs)) (hn : 0 < n) (h1 : ∀ u ∈ xs, u.oneCell' = true) :
    ∃ w' xs', (execOp ρ ⟨dst, .call { callee := .builtin .copy, args := #[x, y], argTypes := #[t, t'] }, ty, pos, af, gd⟩).run P w = .ok (.value (.int .i64 (n - 1 : Nat))) w' ∧ xs'.take ((n - 1) * sz) = xs.drop sz ∧ (∀ u ∈ xs', u.oneCell' = true) ∧
      Sat w0 w' (upd C i (rowC E sz (.slice (some ⟨g, 0, none⟩) n c) n xs')) := by
  have h' := hS.front i hi
  have hlen := row_len h'
  obtain ⟨g', c', e, hnc, hcell⟩ := row_cell h' hn
  injection e with e e1 e2
  injection e with e
  injection e with e
  subst e; subst e2
  have hvl : (xs.drop sz).length = (n - 1) * sz := by
    rw [List.length_drop, hlen, Nat.sub_mul, Nat.one_mul]
  have hle : (n - 1) * sz + sz = n * sz := by
    have : n = (n - 1) + 1 := by omega
    rw [this, Nat.add_sub_cancel, Nat.add_mul, Nat.one_mul]
  obtain ⟨cs, hg, hfit, hS'⟩ := row_write (o := 0) (vs := xs.drop sz) hS hi (by omega)
  refine ⟨_, _, run_copy ht hx hy (n := n - 1) (Nat.min_eq_left (by omega)) ?_ hvl (fun u hu => h1 u (List.mem_of_mem_drop hu)) hg hfit, ?_, ?_, hS'⟩
  · intro j v hj
    rw [List.getElem?_drop] at hj
    by_cases hc : c = 1
    · have : n = 1 := by omega
      subst this
      have := (List.getElem?_eq_some_iff.1 hj).1
      omega
    · rw [if_neg hc, Nat.one_mul, add_add]
      have := hcell _ _ hj
      unfold Addr.add
      split
      · rename_i h0; rw [h0] at this; exact this
      · simpa using this
  · rw [List.take_zero, List.nil_append, Nat.zero_add, ← hvl]
    simp
  · intro u hu
    rw [List.take_zero, List.nil_append] at hu
    rcases List.mem_append.1 hu with hu | hu
    · exact h1 u (List.mem_of_mem_drop hu)
    · exact h1 u (List.mem_of_mem_drop hu)
theorem clear_last {t : Nat} {x : Operand} {z : Value} (i : Nat) (ht : sliceB P t E sz = true) (hz : zeroO P E = some z) (hzs : z.cells.size = sz) (hz1 : ∀ u ∈ z.cells.toList, u.oneCell' = true) (hx : ρ x = .slice (some (if c = ((n - 1 : Nat) : Int).toNat then ⟨g, 0, none⟩ else (⟨g, 0, none⟩ : Addr).add (((n - 1 : Nat) : Int).toNat * sz))) (n - ((n - 1 : Nat) : Int).toNat) (c - ((n - 1 : Nat) : Int).toNat))
    (hS : Sat w0 w C) (hi : nth C i = some (rowC E sz (.slice (some ⟨g, 0, none⟩) n c) n xs)) (hn : 0 < n) :
    ∃ w' xs', (execOp ρ ⟨dst, .call { callee := .builtin .clear, args := #[x], argTypes := #[t] }, ty, pos, af, gd⟩).run P w = .ok (.value (.tuple #[])) w' ∧ xs'.take ((n - 1) * sz) = xs.take ((n - 1) * sz) ∧
      Sat w0 w' (upd C i (rowC E sz (.slice (some ⟨g, 0, none⟩) n c) n xs')) := by
  have h' := hS.front i hi
  have hlen := row_len h'
  obtain ⟨g', c', e, hnc, hcell⟩ := row_cell h' hn
  injection e with e e1 e2
  injection e with e
  injection e with e
  subst e; subst e2
  have hle : (n - 1) * sz + sz = n * sz := by
    have : n = (n - 1) + 1 := by omega
    rw [this, Nat.add_sub_cancel, Nat.add_mul, Nat.one_mul]
  rw [Int.toNat_natCast, if_neg (by omega), show n - (n - 1) = 1 by omega, show (⟨g, 0, none⟩ : Addr).add ((n - 1) * sz) = ⟨g, 0 + (n - 1) * sz, none⟩ from addr_add g 0 _, Nat.zero_add] at hx
  have hzl : (Builtin.zeroCells z.cells 1).toList = z.cells.toList := by
    apply List.ext_getElem?
    intro j
    by_cases hj : j < z.cells.size
    · have : j % z.cells.size = j := Nat.mod_eq_of_lt hj
      simp [Builtin.zeroCells, hj, this]
    · simp [Builtin.zeroCells, hj]
  obtain ⟨cs, hg, hfit, hS'⟩ := row_write (o := (n - 1) * sz) (vs := z.cells.toList) hS hi (by rw [Array.length_toList, hzs]; omega)
  refine ⟨_, _, run_clear ht hz hx (by omega) hzl hz1 hg hfit, ?_, hS'⟩
  rw [List.append_assoc, List.take_append_of_le_length (by rw [List.length_take, hlen]; omega), List.take_take, Nat.min_self]
end ops
section steps
variable {P : Program} {ops : Array Oper} {Q : Exit → Act → World → Prop} {rest : List Oper} {a : Act} {w0 w : World} {n : Shape} {d : Nat} {L : List (Nat × Value)} {C : List Chunk} {S : World → Prop} {ds : List Nat} {ord : List (Nat × How)} {p j : Nat}
  {ty : TypeId} {pos : String} {af : Array Edge} {gd : Option (Nat × Bool)} {E sz m c g t t' : Nat} {x y : Operand} {xs : List Value}
theorem l_copy_down (i : Nat) (hD : Drawn P ops Q S ds ord) (hF : Fr a n L) (hp : ord[p]? = some (j, .ls)) (ho : ops[j]? = some ⟨some d, .call { callee := .builtin .copy, args := #[x, y], argTypes := #[t, t'] }, ty, pos, af, gd⟩)
    (hg : wantedB ops L ⟨some d, .call { callee := .builtin .copy, args := #[x, y], argTypes := #[t, t'] }, ty, pos, af, gd⟩ = some true) (hn : Nat.blt d n.size = true) (ht : sliceB P t E sz = true) (hx : a.eval x = .slice (some ⟨g, 0, none⟩) m c) (hy : a.eval y = .slice (some (if c = 1 then ⟨g, 0, none⟩ else (⟨g, 0, none⟩ : Addr).add (1 * sz))) (m - 1) (c - 1))
    (hS : Sat w0 w C) (hi : nth C i = some (rowC E sz (.slice (some ⟨g, 0, none⟩) m c) m xs)) (hm : 0 < m) (h1 : ∀ u ∈ xs, u.oneCell' = true)
    (k : ∀ w' xs', xs'.take ((m - 1) * sz) = xs.drop sz → (∀ u ∈ xs', u.oneCell' = true) → Sat w0 w' (upd C i (rowC E sz (.slice (some ⟨g, 0, none⟩) m c) m xs')) → ∀ a', Fr a' n ((d, .int .i64 (m - 1 : Nat)) :: L) → wpD P ops Q S ds ord (p + 1) a' w') : wpD P ops Q S ds ord p a w := by
  obtain ⟨w', xs', hr, h2, h3, hS'⟩ := copy_down (dst := some d) (ty := ty) (pos := pos) (af := af) (gd := gd) (t' := t') (ρ := a.eval) i ht hx hy hS hi hm h1
  exact l_ev hD hF hp ho hg rfl hn hr (k w' xs' h2 h3 hS')
theorem s_clear_last {z : Value} (i : Nat) (hF : Fr a n L) (hg : wantedB ops L ⟨none, .call { callee := .builtin .clear, args := #[x], argTypes := #[t] }, ty, pos, af, gd⟩ = some true) (ht : sliceB P t E sz = true) (hz : zeroO P E = some z) (hzs : z.cells.size = sz) (hz1 : ∀ u ∈ z.cells.toList, u.oneCell' = true)
    (hx : a.eval x = .slice (some (if c = ((m - 1 : Nat) : Int).toNat then ⟨g, 0, none⟩ else (⟨g, 0, none⟩ : Addr).add (((m - 1 : Nat) : Int).toNat * sz))) (m - ((m - 1 : Nat) : Int).toNat) (c - ((m - 1 : Nat) : Int).toNat))
    (hS : Sat w0 w C) (hi : nth C i = some (rowC E sz (.slice (some ⟨g, 0, none⟩) m c) m xs)) (hm : 0 < m)
    (k : ∀ w' xs', xs'.take ((m - 1) * sz) = xs.take ((m - 1) * sz) → Sat w0 w' (upd C i (rowC E sz (.slice (some ⟨g, 0, none⟩) m c) m xs')) → wpList P ops Q rest a w') : wpList P ops Q (⟨none, .call { callee := .builtin .clear, args := #[x], argTypes := #[t] }, ty, pos, af, gd⟩ :: rest) a w := by
  obtain ⟨w', xs', hr, h2, hS'⟩ := clear_last (dst := none) (ty := ty) (pos := pos) (af := af) (gd := gd) (ρ := a.eval) i ht hz hzs hz1 hx hS hi hm
  exact s_ev0 hF hg rfl hr (k w' xs' h2 hS')
end steps
end Go.Proofs.Ytbfdebddoncfhaa.Sk
/-! Sk, part fourteen: a place where ways meet. -/
namespace Go.Proofs.Ytbfdebddoncfhaa.Sk
open Go Go.RowKit
set_option linter.unusedVariables false
section
variable {P : Program} {x y : Code} {Q : Exit → Act → World → Prop} {a : Act} {w : World}
theorem wp_seq_j (J : Act → World → Prop) (h2 : x.wp P (Exit.then J Q) a w) (h1 : ∀ a w, J a w → y.wp P Q a w) : (Code.seq x y).wp P Q a w :=
  wp_seq_k fun K hK => wp_mono h2 fun e a w h => by
    cases e with
    | normal => exact hK _ _ (h1 _ _ h)
    | _ => exact h
end
end Go.Proofs.Ytbfdebddoncfhaa.Sk
/-! Sk, part fifteen: keys that are structs of numbers and texts. -/
namespace Go.Proofs.Ytbfdebddoncfhaa.Sk
open Go Go.RowKit
set_option linter.unusedVariables false
set_option linter.unusedSimpArgs false

/-- A value of one scalar: a number (of kind k) or a text. -/
inductive Sc where
  | num (k : IntKind) (n : Int)
  | txt (s : ByteArray)
  deriving DecidableEq
def Sc.val : Sc → Value | .num k n => .int k n | .txt s => .string s
/-- The same shape: numbers of one kind, texts. -/
def Sc.like : Sc → Sc → Bool | .num k _, .num k' _ => k == k' | .txt _, .txt _ => true | _, _ => false
def fit1 (P : Program) (t : TypeId) (s : Sc) : Bool := match P.underlying t, s with | some (.int k), .num k' _ => k == k' | some .string, .txt _ => true | _, _ => false
/-- The fields fit the shape, from offset o on. -/
def fitB (P : Program) : List Field → List Sc → Nat → Bool
  | [], [], _ => true
  | f :: fs, s :: ss, o => (f.name != "_") && (f.offset == o) && fit1 P f.type s && fitB P fs ss (o + 1)
  | _, _, _ => false
def likeAll : List Sc → List Sc → Bool
  | [], [] => true
  | a :: as, b :: bs => a.like b && likeAll as bs
  | _, _ => false
section
variable {P : Program} {w : World}
theorem part_plain {f : Field} {s : Sc} {xs : Array Value} {o : Nat} (hf : fit1 P f.type s = true) (hx : xs[o]? = some s.val) : (part f.type xs o).run P w = .ok s.val w := by
  unfold fit1 at hf
  cases hu : P.underlying f.type with
  | none => rw [hu] at hf; cases s <;> simp at hf
  | some d =>
    rw [hu] at hf
    cases s <;> cases d <;> simp at hf <;> simp [part, isAgg, run_underlying hu, hx]
theorem eq_fields (d : Nat) : ∀ (fs : List Field) (as bs : List Sc) (xs ys : Array Value) (o : Nat), fitB P fs as o = true → likeAll as bs = true →
    (∀ i s, as[i]? = some s → xs[o + i]? = some s.val) → (∀ i s, bs[i]? = some s → ys[o + i]? = some s.val) → (Op.eqFields (d + 1) xs ys fs).run P w = .ok (decide (as = bs)) w
  | [], [], [], xs, ys, o, _, _, _, _ => by simp [Op.eqFields]
  | [], [], _ :: _, _, _, _, _, h, _, _ => by simp [likeAll] at h
  | [], _ :: _, _, _, _, _, h, _, _, _ => by simp [fitB] at h
  | _ :: _, [], _, _, _, _, h, _, _, _ => by simp [fitB] at h
  | _ :: _, _ :: _, [], _, _, _, _, h, _, _ => by simp [likeAll] at h
  | f :: fs, a :: as, b :: bs, xs, ys, o, hfit, hlike, hx, hy => by
    simp only [fitB, Bool.and_eq_true, bne_iff_ne, ne_eq, beq_iff_eq] at hfit
    obtain ⟨⟨⟨hn, ho⟩, hk⟩, hrest⟩ := hfit
    simp only [likeAll, Bool.and_eq_true] at hlike
    have ha := hx 0 a rfl
    have hb := hy 0 b rfl
    rw [Nat.add_zero] at ha hb
    have pa := part_plain (w := w) hk ha
    have hk' : fit1 P f.type b = true := by
      unfold fit1 at hk ⊢
      cases hu : P.underlying f.type with
      | none => rw [hu] at hk; cases a <;> simp at hk
      | some dd =>
        rw [hu] at hk
        have hl := hlike.1
        cases a <;> cases b <;> cases dd <;> simp [Sc.like] at hk hl ⊢
        rw [hk]; exact hl
    have pb := part_plain (w := w) hk' hb
    have ih := eq_fields d fs as bs xs ys (o + 1) hrest hlike.2 (fun i s h => by have := hx (i + 1) s h; rwa [show o + (i + 1) = o + 1 + i by omega] at this) (fun i s h => by have := hy (i + 1) s h; rwa [show o + (i + 1) = o + 1 + i by omega] at this)
    have heq : (Op.equalIn (d + 1) f.type a.val b.val).run P w = .ok (decide (a = b)) w := by
      unfold fit1 at hk
      cases hu : P.underlying f.type with
      | none => rw [hu] at hk; cases a <;> simp at hk
      | some dd =>
        rw [hu] at hk
        have hl := hlike.1
        cases a <;> cases b <;> cases dd <;> simp [Sc.like] at hk hl
        · subst hl
          rw [Sc.val, Sc.val, run_equalIn_int _ _ _ _ _ _ _ hu]
          congr 1
          rw [Bool.eq_iff_iff]
          simp
        · rw [Sc.val, Sc.val, run_equalIn_string _ _ _ _ _ hu, ← beq_toListBytes]
          rw [ba_beq]
          simp
    have hn' : f.name ≠ "_" := hn
    rw [Op.eqFields]
    simp only [if_pos hn', Sem.run_bind, ho, pa, pb, heq, Result.andThen_ok]
    by_cases hab : a = b
    · subst hab
      simpa using ih
    · simp [hab]
theorem check_fields (e : Bool) (d : Nat) (xs : Array Value) : ∀ (fs : List Field) (as : List Sc) (o : Nat), fitB P fs as o = true → (∀ i s, as[i]? = some s → xs[o + i]? = some s.val) →
    (forIn fs PUnit.unit fun f _ => (if f.name ≠ "_" then (part f.type xs f.offset >>= fun v => Instr.checkKey e (d + 1) f.type v >>= fun _ => pure (ForInStep.yield PUnit.unit)) else pure (ForInStep.yield PUnit.unit) : Sem (ForInStep PUnit))).run P w = .ok PUnit.unit w
  | [], as, o, _, _ => by simp
  | f :: fs, [], o, h, _ => by simp [fitB] at h
  | f :: fs, a :: as, o, hfit, hx => by
    simp only [fitB, Bool.and_eq_true, bne_iff_ne, ne_eq, beq_iff_eq] at hfit
    obtain ⟨⟨⟨hn, ho⟩, hk⟩, hrest⟩ := hfit
    have ha := hx 0 a rfl
    rw [Nat.add_zero] at ha
    have pa := part_plain (w := w) hk ha
    have ih := check_fields e d xs fs as (o + 1) hrest (fun i s h => by have := hx (i + 1) s h; rwa [show o + (i + 1) = o + 1 + i by omega] at this)
    have hc : (Instr.checkKey e (d + 1) f.type a.val).run P w = .ok () w := by
      unfold fit1 at hk
      rw [Instr.checkKey]
      cases hu : P.underlying f.type with
      | none => rw [hu] at hk; cases a <;> simp at hk
      | some dd =>
        rw [hu] at hk
        simp only [Sem.run_bind, run_underlying hu, Result.andThen_ok]
        cases a <;> cases dd <;> simp [Sc.val] at hk ⊢
    simp only [List.forIn_cons, Sem.run_bind, hn, ne_eq, not_false_eq_true, if_true, ho, pa, hc, Result.andThen_ok, Sem.run_pure]
    exact ih
theorem struct_keys {K : Type} [DecidableEq K] {kt : TypeId} {fs : Array Field} (sc : K → List Sc) (hu : P.underlying kt = some (.struct fs)) (hp : P.stoodInHeld kt = false) (hfit : ∀ x, fitB P fs.toList (sc x) 0 = true) (hlike : ∀ x y, likeAll (sc x) (sc y) = true)
    (hinj : ∀ x y, sc x = sc y → x = y) : Keys P kt (fun x => .agg ((sc x).map Sc.val).toArray) where
  check e x w := by
    rw [show (10000 : Nat) = 9999 + 1 from rfl, Instr.checkKey]
    simp only [Sem.run_bind, run_underlying hu, Result.andThen_ok]
    rw [← Array.forIn_toList]
    have := check_fields (w := w) e 9998 ((sc x).map Sc.val).toArray fs.toList (sc x) 0 (hfit x) (fun i s h => by simp [h])
    rw [this]
    rfl
  find x es ks w h := by
    have heq : ∀ y, (Op.equal kt (.agg ((sc x).map Sc.val).toArray) (.agg ((sc y).map Sc.val).toArray)).run P w = .ok (decide (x = y)) w := fun y => by
      have hf : P.fieldsOf kt = fs := by simp [Program.fieldsOf, hu]
      have h1 := eq_fields (P := P) (w := w) 9998 fs.toList (sc x) (sc y) ((sc x).map Sc.val).toArray ((sc y).map Sc.val).toArray 0 (hfit x) (hlike x y) (fun i s h => by simp [h]) (fun i s h => by simp [h])
      unfold Op.equal Op.maxDepth
      rw [show (10000 : Nat) = 9999 + 1 from rfl, run_equalIn_struct (P := P) w 9999 kt _ _ (by rw [hf]; exact hu) hp, hf, h1]
      congr 1
      by_cases hxy : x = y
      · subst hxy; simp
      · rw [decide_eq_false hxy, decide_eq_false (fun e => hxy (hinj x y e))]
    have ask : ∀ (es : List MapEntry) (ks : List K) (i : Nat), es.map (·.key) = ks.map (fun x => Value.agg ((sc x).map Sc.val).toArray) →
        (Instr.findAsking kt (.agg ((sc x).map Sc.val).toArray) es i).run P w = .ok ((mIdx (ks.map fun k => (k, ())) x i).bind fun j => (es[j - i]?).map fun e => (j, e.val)) w := by
      intro es
      induction es with
      | nil => intro ks i h; cases ks <;> simp at h; simp [Instr.findAsking, mIdx]
      | cons e r ih =>
        intro ks i h
        cases ks with
        | nil => simp at h
        | cons y ys =>
          simp only [List.map_cons, List.cons.injEq] at h
          simp only [Instr.findAsking, Sem.run_bind, h.1, heq, Result.andThen_ok, List.map_cons, mIdx]
          by_cases hxy : x = y
          · subst hxy; simp
          · have : ¬ y = x := fun e => hxy e.symm
            simp only [hxy, decide_false, Bool.false_eq_true, if_false, this, ih ys (i + 1) h.2]
            congr 1
            cases hi : mIdx (ys.map fun k => (k, ())) x (i + 1) with
            | none => rfl
            | some j =>
              obtain ⟨hle, _⟩ := mIdx_some hi
              simp only [Option.bind_some]
              rw [show j - i = (j - (i + 1)) + 1 by omega]
              rfl
    unfold Instr.findKey
    simp only [Sem.run_bind, run_underlying hu, Result.andThen_ok]
    cases es with
    | nil => cases ks <;> simp at h; simp [Instr.findNow, mIdx]
    | cons e r =>
      have hn : Instr.findNow (.struct fs) (.agg ((sc x).map Sc.val).toArray) (e :: r) 0 = none := by simp [Instr.findNow, Instr.sameNow]
      rw [hn]
      have := ask (e :: r) ks 0 h
      simpa using this
  bits x := by
    rw [show (10000 : Nat) = 9999 + 1 from rfl]
    simp only [Instr.sameBits, BEq.rfl, Bool.true_and]
    rw [List.all_eq_true]
    intro p hp
    have : p.1 = p.2 ∧ ∃ s, p.1 = Sc.val s := by
      have h1 := List.of_mem_zip hp
      have : ∀ (l : List Value) (p : Value × Value), p ∈ l.zip l → p.1 = p.2 := by
        intro l
        induction l with
        | nil => intro p h; simp at h
        | cons a r ih =>
          intro p h
          simp only [List.zip_cons_cons, List.mem_cons] at h
          rcases h with rfl | h
          · rfl
          · exact ih p h
      refine ⟨this _ p hp, ?_⟩
      have := h1.1
      simp at this
      obtain ⟨s, _, e⟩ := this
      exact ⟨s, e.symm⟩
    obtain ⟨e1, s, e2⟩ := this
    rw [← e1, e2]
    cases s <;> simp [Sc.val, Instr.sameBits, ba_beq]
end
end Go.Proofs.Ytbfdebddoncfhaa.Sk
/-! Sk, part sixteen: an entry made ahead of its value (two assignments at once). -/
namespace Go.Proofs.Ytbfdebddoncfhaa.Sk
open Go Go.RowKit
set_option linter.unusedVariables false
set_option linter.unusedSimpArgs false

/-- A map whose last entry (x, v) was just made, with the stamp s. -/
def mapE {K V : Type} (κ : K → Value) (ν : V → Value) (b : Nat) (m : List (K × V)) (x : K) (v : Value) (s : Nat) : Chunk := .pr fun f => (m.map (·.1)).Nodup ∧ (∀ p ∈ m, p.1 ≠ x) ∧
  ∃ (es : Array MapEntry) (clock : Nat), es.toList.map (fun e => (e.key, e.val)) = m.map (fun p => (κ p.1, ν p.2)) ∧ (es.toList.map (·.born)).Nodup ∧ (∀ e ∈ es.toList, e.born < s) ∧ s < clock ∧ (Chunk.obj b (.map (es.push { key := κ x, val := v, born := s }) clock)).holds f
section
variable {K V : Type} [DecidableEq K] {P : Program} {kt : TypeId} {κ : K → Value} {ν : V → Value} {w0 w : World} {C : List Chunk} {b : Nat} {m : List (K × V)}
theorem run_entry {t et : TypeId} {z : Value} (hK : Keys P kt κ) (ht : P.underlying t = some (.map kt et)) (hz : zeroO P et = some z) (h : Sat w0 w (mapC κ ν b m :: C)) (x : K) (hx : mGet m x = none) :
    ∃ w' s, (Instr.mapEntry t (.map (some b)) (κ x)).run P w = .ok (.tuple #[z, .int .i64 (s : Nat)]) w' ∧ Sat w0 w' (mapE κ ν b m x z s :: C) := by
  obtain ⟨hn, es, clock, h1, h2, h3, hS⟩ := map_open h
  have hg : (getObj b).run P w = .ok (.map es clock) w := by simp [getObj, Sem.run, hS.obj]
  simp only [Instr.mapEntry, Sem.run_bind, run_underlying ht, Result.andThen_ok, hg, hK.check, find_run hK h1]
  cases hi : mIdx m x 0 with
  | none =>
    have hno := mIdx_none hi
    simp only [Option.bind_none, Sem.run_bind, zeroO_run hz, Result.andThen_ok]
    obtain ⟨w', hr, hS'⟩ := sat_setObj (P := P) (o' := .map (es.push { key := κ x, val := z, born := clock }) (clock + 1)) hS (by intros; simp)
    refine ⟨w', clock, ?_, ?_⟩
    · rw [hr]
      simp [goInt]
    · obtain ⟨f, hf, hs⟩ := hS'.own
      obtain ⟨g1, k, hg1, hk, ha, rfl⟩ := made_cons.1 hf
      exact ⟨hS'.os, hS'.tape, hS'.output, hS'.size, _, .cons ⟨hn, hno, es, clock + 1, h1, h2, h3, by omega, hg1⟩ hk ha, hs⟩
  | some i =>
    obtain ⟨_, v', hv, hb⟩ := mIdx_some hi
    simp only [Nat.sub_zero] at hv hb
    rw [mGet_at hv hb] at hx
    cases hx
theorem modify_push (es : Array MapEntry) (e : MapEntry) (f : MapEntry → MapEntry) : (es.push e).modify es.size f = es.push (f e) := by
  apply Array.ext_getElem?
  intro i
  rw [Array.getElem?_modify]
  by_cases hi : es.size = i
  · subst hi; simp
  · rw [if_neg hi]
    simp only [Array.getElem?_push]
    rw [if_neg (fun h => hi h.symm), if_neg (fun h => hi h.symm)]
end
section
variable {K V : Type} {P : Program} {kt : TypeId} {κ : K → Value} {ν : V → Value} {w0 w : World} {C : List Chunk} {b : Nat} {m : List (K × V)}
theorem run_entryStore {t : TypeId} {x : K} {v : Value} {u : V} {s : Nat} (h : Sat w0 w (mapE κ ν b m x v s :: C)) :
    ∃ w', (Instr.entryStore t (.map (some b)) (.int .i64 (s : Nat)) (ν u)).run P w = .ok () w' ∧ Sat w0 w' (mapC κ ν b (m ++ [(x, u)]) :: C) := by
  obtain ⟨f, hf, hs⟩ := h.own
  obtain ⟨g1, k, hg1, hk, ha, rfl⟩ := made_cons.1 hf
  obtain ⟨hn, hno, es, clock, h1, h2, h3, h4, h5⟩ := hg1
  have hS : Sat w0 w (.obj b (.map (es.push { key := κ x, val := v, born := s }) clock) :: C) := ⟨h.os, h.tape, h.output, h.size, _, .cons h5 hk ha, hs⟩
  have hg : (getObj b).run P w = .ok (.map (es.push { key := κ x, val := v, born := s }) clock) w := by simp [getObj, Sem.run, hS.obj]
  have hfi : (es.push { key := κ x, val := v, born := s }).findIdx? (fun e => (e.born : Int) == (s : Int)) = some es.size := by
    rw [Array.findIdx?_push]
    have : es.findIdx? (fun e => (e.born : Int) == (s : Int)) = none := by
      rw [Array.findIdx?_eq_none_iff]
      intro e he
      have := h3 e (by simpa using he)
      simp
      omega
    rw [this]
    simp
  obtain ⟨w', hr, hS'⟩ := sat_setObj (P := P) (o' := .map (es.push { key := κ x, val := ν u, born := s }) clock) hS (by intros; simp)
  refine ⟨w', ?_, ?_⟩
  · have hi : (asInt (.int .i64 (s : Nat))).run P w = .ok (s : Int) w := by simp [asInt, asIntOf]
    simp only [Instr.entryStore, Sem.run_bind, hg, Result.andThen_ok, hi, hfi, modify_push]
    exact hr
  · refine map_shut hS' ?_ ?_ ?_ ?_
    · simp only [List.map_append, List.map_cons, List.map_nil, List.nodup_append, hn, true_and]
      refine ⟨by simp, fun a ha c hc => ?_⟩
      simp at hc
      subst hc
      obtain ⟨p, hp, rfl⟩ := List.mem_map.1 ha
      exact hno p hp
    · simp [h1]
    · simp only [Array.toList_push, List.map_append, List.map_cons, List.map_nil, List.nodup_append, h2, true_and]
      refine ⟨by simp, fun a ha c hc => ?_⟩
      simp at hc
      subst hc
      obtain ⟨p, hp, rfl⟩ := List.mem_map.1 ha
      exact Nat.ne_of_lt (h3 p hp)
    · intro e he
      simp only [Array.toList_push, List.mem_append, List.mem_singleton] at he
      rcases he with he | rfl
      · exact Nat.lt_trans (h3 e he) h4
      · exact h4
end
section steps
variable {P : Program} {ops : Array Oper} {Q : Exit → Act → World → Prop} {a : Act} {w0 w : World} {n : Shape} {d : Nat} {L : List (Nat × Value)} {C : List Chunk} {S : World → Prop} {ds : List Nat} {ord : List (Nat × How)} {p j : Nat}
  {ty : TypeId} {pos : String} {af : Array Edge} {gd : Option (Nat × Bool)} {K V : Type} [DecidableEq K] {kt et : TypeId} {κ : K → Value} {ν : V → Value} {b : Nat} {m : List (K × V)} {x : K} {X Y Z : Operand} {t : TypeId}
theorem d_entry {z : Value} (i : Nat) (hD : Drawn P ops Q S ds ord) (hF : Fr a n L) (hp : ord[p]? = some (j, .on)) (ho : ops[j]? = some ⟨some d, .mapEntry t X Y, ty, pos, af, gd⟩) (hg : wantedB ops L ⟨some d, .mapEntry t X Y, ty, pos, af, gd⟩ = some true) (hn : Nat.blt d n.size = true)
    (hK : Keys P kt κ) (ht : P.underlying t = some (.map kt et)) (hz : zeroO P et = some z) (hX : a.eval X = .map (some b)) (hY : a.eval Y = κ x) (hS : Sat w0 w C) (hi : nth C i = some (mapC κ ν b m)) (hx : mGet m x = none)
    (hc : ∀ w' s, Sat w0 w' (upd C i (mapE κ ν b m x z s)) → S w') (k : ∀ s w', Sat w0 w' (upd C i (mapE κ ν b m x z s)) → ∀ a', Fr a' n ((d, .tuple #[z, .int .i64 (s : Nat)]) :: L) → wpD P ops Q S ds ord (p + 1) a' w') : wpD P ops Q S ds ord p a w := by
  obtain ⟨w', s, hr, hS'⟩ := run_entry hK ht hz (hS.front i hi) x hx
  have hS2 := hS'.back hi
  exact d_ev hD hF hp ho hg rfl hn (by simp only [execOp, hX, hY, Sem.run_bind, hr, Result.andThen_ok, Sem.run_pure]) (hc _ _ hS2) (k s w' hS2)
end steps
section steps2
variable {P : Program} {ops : Array Oper} {Q : Exit → Act → World → Prop} {a : Act} {w0 w : World} {n : Shape} {L : List (Nat × Value)} {C : List Chunk} {S : World → Prop} {ds : List Nat} {ord : List (Nat × How)} {p j : Nat}
  {ty : TypeId} {pos : String} {af : Array Edge} {gd : Option (Nat × Bool)} {K V : Type} {κ : K → Value} {ν : V → Value} {b s : Nat} {m : List (K × V)} {x : K} {u : V} {v : Value} {X Y Z : Operand} {t : TypeId}
theorem d_estore (i : Nat) (hD : Drawn P ops Q S ds ord) (hF : Fr a n L) (hp : ord[p]? = some (j, .on)) (ho : ops[j]? = some ⟨none, .entryStore t X Y Z, ty, pos, af, gd⟩) (hg : wantedB ops L ⟨none, .entryStore t X Y Z, ty, pos, af, gd⟩ = some true)
    (hX : a.eval X = .map (some b)) (hY : a.eval Y = .int .i64 (s : Nat)) (hZ : a.eval Z = ν u) (hS : Sat w0 w C) (hi : nth C i = some (mapE κ ν b m x v s))
    (hc : ∀ w', Sat w0 w' (upd C i (mapC κ ν b (m ++ [(x, u)]))) → S w') (k : ∀ w', Sat w0 w' (upd C i (mapC κ ν b (m ++ [(x, u)]))) → wpD P ops Q S ds ord (p + 1) a w') : wpD P ops Q S ds ord p a w := by
  obtain ⟨w', hr, hS'⟩ := run_entryStore (P := P) (t := t) (u := u) (hS.front i hi)
  have hS2 := hS'.back hi
  exact d_sk hD hF hp ho hg rfl (by simp only [execOp, hX, hY, hZ, Sem.run_bind, hr, Result.andThen_ok, Sem.run_pure]) (hc _ hS2) (k w' hS2)
theorem l_estore (i : Nat) (hD : Drawn P ops Q S ds ord) (hF : Fr a n L) (hp : ord[p]? = some (j, .ls)) (ho : ops[j]? = some ⟨none, .entryStore t X Y Z, ty, pos, af, gd⟩) (hg : wantedB ops L ⟨none, .entryStore t X Y Z, ty, pos, af, gd⟩ = some true)
    (hX : a.eval X = .map (some b)) (hY : a.eval Y = .int .i64 (s : Nat)) (hZ : a.eval Z = ν u) (hS : Sat w0 w C) (hi : nth C i = some (mapE κ ν b m x v s))
    (k : ∀ w', Sat w0 w' (upd C i (mapC κ ν b (m ++ [(x, u)]))) → wpD P ops Q S ds ord (p + 1) a w') : wpD P ops Q S ds ord p a w := by
  obtain ⟨w', hr, hS'⟩ := run_entryStore (P := P) (t := t) (u := u) (hS.front i hi)
  have hS2 := hS'.back hi
  exact l_sk hD hF hp ho hg rfl (by simp only [execOp, hX, hY, hZ, Sem.run_bind, hr, Result.andThen_ok, Sem.run_pure]) (k w' hS2)
end steps2
end Go.Proofs.Ytbfdebddoncfhaa.Sk
/-! Sk, part seventeen: clear(l[i:]) of numbers. -/
namespace Go.Proofs.Ytbfdebddoncfhaa.Sk
open Go Go.RowKit
set_option linter.unusedVariables false
set_option linter.unusedSimpArgs false
section
variable {P : Program} {ops : Array Oper} {Q : Exit → Act → World → Prop} {rest : List Oper} {a : Act} {w0 w : World} {n : Shape} {L : List (Nat × Value)} {C : List Chunk}
  {ty : TypeId} {pos : String} {af : Array Edge} {gd : Option (Nat × Bool)} {E m c g t : Nat} {x : Operand} {xs : List Value}
/-- Elements of one cell, from number k on (there is one at least). -/
theorem s_clear_tail {z : Value} {k : Nat} (i : Nat) (hF : Fr a n L) (hg : wantedB ops L ⟨none, .call { callee := .builtin .clear, args := #[x], argTypes := #[t] }, ty, pos, af, gd⟩ = some true) (ht : sliceB P t E 1 = true) (hz : zeroO P E = some z) (hz1 : z.cells = #[z]) (hzo : z.oneCell' = true)
    (hx : a.eval x = .slice (some (if c = ((k : Nat) : Int).toNat then ⟨g, 0, none⟩ else (⟨g, 0, none⟩ : Addr).add (((k : Nat) : Int).toNat * 1))) (m - ((k : Nat) : Int).toNat) (c - ((k : Nat) : Int).toNat))
    (hS : Sat w0 w C) (hi : nth C i = some (rowC E 1 (.slice (some ⟨g, 0, none⟩) m c) m xs)) (hk : k < m)
    (kk : ∀ w' xs', xs'.take k = xs.take k → Sat w0 w' (upd C i (rowC E 1 (.slice (some ⟨g, 0, none⟩) m c) m xs')) → wpList P ops Q rest a w') : wpList P ops Q (⟨none, .call { callee := .builtin .clear, args := #[x], argTypes := #[t] }, ty, pos, af, gd⟩ :: rest) a w := by
  have h' := hS.front i hi
  have hlen := row_len h'
  obtain ⟨g', c', e, hnc, _⟩ := row_cell h' (by omega)
  injection e with e _ e2
  subst e2
  rw [Int.toNat_natCast, if_neg (by omega), show (⟨g, 0, none⟩ : Addr).add (k * 1) = ⟨g, k, none⟩ by rw [addr_add]; simp] at hx
  have hzl : (Builtin.zeroCells z.cells (m - k)).toList = List.replicate (m - k) z := by
    apply List.ext_getElem?
    intro j
    rw [hz1]
    simp only [Builtin.zeroCells, Array.toList_map, Array.toList_range, List.getElem?_map, List.getElem?_replicate]
    by_cases hj : j < m - k
    · simp [hj, Nat.mod_one]
    · simp [hj]
  obtain ⟨cs, hg', hfit, hS'⟩ := row_write (o := k) (vs := List.replicate (m - k) z) hS hi (by simp; omega)
  refine s_ev0 hF hg rfl (run_clear ht hz hx (by omega) hzl (fun u hu => by rw [List.eq_of_mem_replicate hu]; exact hzo) hg' hfit) (kk _ _ ?_ hS')
  rw [List.append_assoc, List.take_append_of_le_length (by rw [List.length_take, hlen]; omega), List.take_take, Nat.min_self]
end
end Go.Proofs.Ytbfdebddoncfhaa.Sk
/-! Sk, part eighteen: a field at any address. -/
namespace Go.Proofs.Ytbfdebddoncfhaa.Sk
open Go Go.RowKit
set_option linter.unusedVariables false
set_option linter.unusedSimpArgs false
section
variable {P : Program} {ρ : Operand → Value} {dst : Option Tmp} {ty : TypeId} {pos : String} {af : Array Edge} {g : Option (Nat × Bool)}
theorem pu_fieldA {s i off : Nat} {x : Operand} {A : Addr} (hf : fieldB P s i off = true) (hx : ρ x = .pointer (some A)) : Pu P ρ ⟨dst, .fieldAddr s x i, ty, pos, af, g⟩ (.pointer (some (A.add off))) := fun w => by
  unfold fieldB at hf
  split at hf
  · rename_i fs hu
    split at hf
    · rename_i f hfi
      simp only [Bool.and_eq_true, beq_iff_eq] at hf
      obtain ⟨ho, hz⟩ := hf
      split at hz
      · rename_i j hj
        have hz' : j.size ≠ 0 := by simpa using hz
        simp [execOp, hx, Instr.fieldAt, underlying, program, hu, hfi, Instr.sureAddr, fieldPlace, sizeOf, typeInfo, hj, hz', Sem.run, ho, Sem.bind, bind, pure]
      · cases hz
    · cases hf
  · cases hf
end
end Go.Proofs.Ytbfdebddoncfhaa.Sk
