import Derived.Test.YtbpkfifiigpdcaaSk10
/-! Sk, part eleven: trees: lists of (number, text, list) within one another. -/
namespace Go.Proofs.Ytbpkfifiigpdcaa.Sk
open Go Go.RowKit
set_option linter.unusedVariables false
set_option linter.unusedSimpArgs false

inductive Tr where
  | node (tag : Int) (val : ByteArray) (kids : List Tr)
def Tr.tag : Tr → Int | .node t _ _ => t
def Tr.val : Tr → ByteArray | .node _ v _ => v
def Tr.kids : Tr → List Tr | .node _ _ k => k
def cells3 : List Tr → List Value → List Value
  | t :: ts, h :: hs => .int .i64 t.tag :: .string t.val :: h :: cells3 ts hs
  | _, _ => []
theorem cells3_len : ∀ {ts : List Tr} {hs : List Value}, hs.length = ts.length → (cells3 ts hs).length = ts.length * 3
  | [], [], _ => rfl
  | _ :: ts, _ :: hs, h => by
    have := cells3_len (ts := ts) (hs := hs) (by simpa using h)
    simp only [cells3, List.length_cons, this]
    omega
  | [], _ :: _, h => by simp at h
  | _ :: _, [], h => by simp at h
theorem cells3_at : ∀ {ts : List Tr} {hs : List Value} {i : Nat} {t : Tr} {h : Value}, ts[i]? = some t → hs[i]? = some h → ∀ j v, [Value.int .i64 t.tag, .string t.val, h][j]? = some v → (cells3 ts hs)[i * 3 + j]? = some v
  | [], _, _, _, _, h1, _, _, _, _ => by simp at h1
  | _ :: _, [], _, _, _, _, h2, _, _, _ => by simp at h2
  | t :: ts, h :: hs, 0, _, _, h1, h2, j, v, hj => by
    simp at h1 h2
    subst h1; subst h2
    rw [Nat.zero_mul, Nat.zero_add]
    match j, hj with
    | 0, hj => exact hj
    | 1, hj => exact hj
    | 2, hj => exact hj
    | j + 3, hj => simp at hj
  | t :: ts, h :: hs, i + 1, _, _, h1, h2, j, v, hj => by
    simp only [List.getElem?_cons_succ] at h1 h2
    have := cells3_at h1 h2 j v hj
    have e : (i + 1) * 3 + j = (i * 3 + j) + 3 := by omega
    rw [e]
    exact this
theorem cells3_snoc : ∀ {ts : List Tr} {hs : List Value} (t : Tr) (h : Value), hs.length = ts.length → cells3 (ts ++ [t]) (hs ++ [h]) = cells3 ts hs ++ [.int .i64 t.tag, .string t.val, h]
  | [], [], _, _, _ => rfl
  | _ :: ts, _ :: hs, t, h, hl => by
    have := cells3_snoc (ts := ts) (hs := hs) t h (by simpa using hl)
    simp only [List.cons_append, cells3, this]
  | [], _ :: _, _, _, h => by simp at h
  | _ :: _, [], _, _, h => by simp at h

/-- A list of trees in memory of its own, down to depth k: type E, those within NT. -/
def nodesC (NT : Nat) : Nat → Nat → Value → List Tr → Chunk
  | 0, _, h, ts => pureC (ts = [] ∧ h = .slice none 0 0) emp
  | k + 1, E, h, ts => exC fun hs => pureC (hs.length = ts.length ∧ (ts.length + 1) * 96 ≤ 140737488355328) (star (rowC E 3 h ts.length (cells3 ts hs) :: List.zipWith (fun h t => nodesC NT k NT h t.kids) hs ts))
def kidsC (NT k : Nat) (hs : List Value) (ts : List Tr) : List Chunk := List.zipWith (fun h t => nodesC NT k NT h t.kids) hs ts
section
variable {w0 w : World} {C F : List Chunk} {NT k E : Nat} {h : Value} {ts : List Tr}
theorem nodes_open : Sat w0 w (nodesC NT (k + 1) E h ts :: F) ↔ ∃ hs : List Value, (hs.length = ts.length ∧ (ts.length + 1) * 96 ≤ 140737488355328) ∧ Sat w0 w (rowC E 3 h ts.length (cells3 ts hs) :: (kidsC NT k hs ts ++ F)) := by
  unfold nodesC kidsC
  simp only [sat_ex, sat_pure, sat_star, List.cons_append]
theorem nodes_none : Sat w0 w (nodesC NT 0 E (.slice none 0 0) [] :: F) ↔ Sat w0 w F := by
  unfold nodesC
  rw [sat_pure, sat_emp]
  simp
theorem nodes_zero (hS : Sat w0 w (nodesC NT 0 E h ts :: F)) : ts = [] ∧ h = .slice none 0 0 ∧ Sat w0 w F := by
  unfold nodesC at hS
  rw [sat_pure, sat_emp] at hS
  exact ⟨hS.1.1, hS.1.2, hS.2⟩
theorem nodes_val (hS : Sat w0 w (nodesC NT k E h ts :: F)) : ∃ A c, h = .slice A ts.length c := by
  cases k with
  | zero => obtain ⟨rfl, rfl, _⟩ := nodes_zero hS; exact ⟨_, _, rfl⟩
  | succ k =>
    obtain ⟨hs, _, hS⟩ := nodes_open.1 hS
    obtain ⟨A, c, e, _⟩ := row_val hS
    exact ⟨A, c, e⟩
theorem kids_snoc {hs : List Value} {t : Tr} (hl : hs.length = ts.length) : kidsC NT k (hs ++ [h]) (ts ++ [t]) = kidsC NT k hs ts ++ [nodesC NT k NT h t.kids] := by
  unfold kidsC
  rw [List.zipWith_append hl]
  rfl

/-- Exactly these blocks. -/
def exactC (f0 : Frag) : Chunk := .pr fun f => f = f0
theorem Sat.exact {c : Chunk} (hS : Sat w0 w (c :: C)) : ∃ f0, c.holds f0 ∧ Sat w0 w (exactC f0 :: C) ∧ ∀ i o, f0 i = some o → w.heap[i]? = some o := by
  obtain ⟨f, hf, hs⟩ := hS.own
  obtain ⟨g, r, hg, hr, ha, rfl⟩ := made_cons.1 hf
  exact ⟨g, hg, ⟨hS.os, hS.tape, hS.output, hS.size, _, .cons (c := exactC g) rfl hr ha, hs⟩, fun i o hi => hs i o (join_some hi)⟩
theorem Sat.exact_get {f0 : Frag} {i : Nat} {o : Obj} (hS : Sat w0 w (exactC f0 :: C)) (hi : f0 i = some o) : w.heap[i]? = some o := by
  obtain ⟨f, hf, hs⟩ := hS.own
  obtain ⟨g, r, hg, hr, ha, rfl⟩ := made_cons.1 hf
  have e : g = f0 := hg
  subst e
  exact hs i o (join_some hi)
theorem Sat.unexact {c : Chunk} {f0 : Frag} (hS : Sat w0 w (exactC f0 :: C)) (hc : c.holds f0) : Sat w0 w (c :: C) := by
  obtain ⟨f, hf, hs⟩ := hS.own
  obtain ⟨g, r, hg, hr, ha, rfl⟩ := made_cons.1 hf
  have e : g = f0 := hg
  subst e
  exact ⟨hS.os, hS.tape, hS.output, hS.size, _, .cons hc hr ha, hs⟩
theorem made_get {f : Frag} : ∀ {C : List Chunk} {i : Nat} {c : Chunk}, Made C f → C[i]? = some c → ∃ g, c.holds g ∧ ∀ b o, g b = some o → f b = some o := by
  intro C
  induction C generalizing f with
  | nil => intro i c _ h; simp at h
  | cons d C ih =>
    intro i c hm hi
    obtain ⟨g, r, hg, hr, ha, rfl⟩ := made_cons.1 hm
    cases i with
    | zero => simp at hi; subst hi; exact ⟨g, hg, fun b o hb => join_some hb⟩
    | succ i =>
      simp only [List.getElem?_cons_succ] at hi
      obtain ⟨q, hq, hqr⟩ := ih hr hi
      refine ⟨q, hq, fun b o hb => ?_⟩
      have := hqr b o hb
      rcases ha b with e | e
      · rw [join_none e]; exact this
      · rw [e] at this; cases this
end

/-- What is read there: trees, in blocks of D of the world W. -/
def RdN (W : World) (D : Nat → Prop) : Nat → Value → List Tr → Prop
  | 0, h, ts => ts = [] ∧ ∃ A c, h = .slice A 0 c
  | k + 1, h, ts => ∃ A c, h = .slice A ts.length c ∧ (ts.length + 1) * 96 ≤ 140737488355328 ∧ ∀ (i : Nat) (t : Tr), ts[i]? = some t → ∃ x hk, A = some x ∧ D x.block ∧
      (∀ j v, [Value.int .i64 t.tag, .string t.val, hk][j]? = some v → W.cell? (x.add (i * 3 + j)) = some v) ∧ RdN W D k hk t.kids
/-- The worlds of the form C have the blocks of D as W has them. -/
def Keeps (w0 : World) (C : List Chunk) (W : World) (D : Nat → Prop) : Prop := ∀ w, Sat w0 w C → ∀ b, D b → w.heap[b]? = W.heap[b]?
section
variable {w0 w W : World} {C F : List Chunk} {NT k E : Nat} {h : Value} {ts : List Tr} {D : Nat → Prop}
theorem RdN.slice (hR : RdN W D k h ts) : ∃ A c, h = .slice A ts.length c ∧ (ts.length + 1) * 96 ≤ 140737488355328 := by
  cases k with
  | zero => obtain ⟨rfl, A, c, rfl⟩ := hR; exact ⟨A, c, rfl, by simp⟩
  | succ k => obtain ⟨A, c, e, hb, _⟩ := hR; exact ⟨A, c, e, hb⟩
theorem RdN.at {A : Option Addr} {n c i : Nat} {t : Tr} (hR : RdN W D k (.slice A n c) ts) (hi : ts[i]? = some t) : ∃ x hk k', k = k' + 1 ∧ A = some x ∧ D x.block ∧
    (∀ j v, [Value.int .i64 t.tag, .string t.val, hk][j]? = some v → W.cell? (x.add (i * 3 + j)) = some v) ∧ RdN W D k' hk t.kids := by
  cases k with
  | zero => obtain ⟨rfl, _⟩ := hR; simp at hi
  | succ k =>
    obtain ⟨A', c', e, _, h⟩ := hR
    injection e with e1 e2 e3
    subst e1
    obtain ⟨x, hk, h1, h2, h3, h4⟩ := h i t hi
    exact ⟨x, hk, k, rfl, h1, h2, h3, h4⟩
theorem RdN.mono {D' : Nat → Prop} (hd : ∀ b, D b → D' b) : ∀ {k : Nat} {h : Value} {ts : List Tr}, RdN W D k h ts → RdN W D' k h ts
  | 0, _, _, hR => hR
  | k + 1, h, ts, hR => by
    obtain ⟨A, c, e, hb, hh⟩ := hR
    refine ⟨A, c, e, hb, fun i t hi => ?_⟩
    obtain ⟨x, hk, h1, h2, h3, h4⟩ := hh i t hi
    exact ⟨x, hk, h1, hd _ h2, h3, RdN.mono hd h4⟩
theorem add_block (x : Addr) (n : Nat) : (x.add n).block = x.block := by
  unfold Addr.add
  split <;> rfl
theorem add_add (x : Addr) (n m : Nat) : (x.add n).add m = x.add (n + m) := by
  unfold Addr.add
  by_cases h1 : n = 0
  · subst h1; simp
  · by_cases h2 : m = 0
    · subst h2; simp
    · have h3 : ¬ n + m = 0 := by omega
      simp only [h1, h2, h3, if_false]
      congr 1
      omega
theorem Keeps.cell (hK : Keeps w0 C W D) (hS : Sat w0 w C) {x : Addr} {n : Nat} {v : Value} (hx : D x.block) (hv : W.cell? (x.add n) = some v) : w.cell? (x.add n) = some v := by
  rw [← hv]
  exact World.cell?_of_block (w := W) (hK w hS _ (by rw [add_block]; exact hx))
theorem Keeps.sub {C' : List Chunk} (hK : Keeps w0 C W D) (h : ∀ w, Sat w0 w C' → Sat w0 w C) : Keeps w0 C' W D := fun w hS => hK w (h w hS)
theorem keeps_exact {f0 : Frag} {i : Nat} (hf : ∀ i o, f0 i = some o → W.heap[i]? = some o) (hi : nth C i = some (exactC f0)) : Keeps w0 C W (fun b => f0 b ≠ none) := by
  intro w hS b hb
  cases h : f0 b with
  | none => exact absurd h hb
  | some o => rw [hf b o h, (hS.front i hi).exact_get h]
theorem keeps_whole {i : Nat} (hi : nth C i = some (whole W)) : Keeps w0 C W (fun b => b < W.heap.size) := fun w hS b hb => (hS.front i hi).whole_get hb

/-- What is told of a chunk can be read. -/
theorem nodes_rd : ∀ {k E : Nat} {h : Value} {ts : List Tr} {f : Frag}, (nodesC NT k E h ts).holds f → (∀ i o, f i = some o → w.heap[i]? = some o) → RdN w (fun b => f b ≠ none) k h ts := by
  intro k
  induction k with
  | zero =>
    intro E h ts f hf _
    unfold nodesC at hf
    obtain ⟨⟨rfl, rfl⟩, _⟩ := hf
    exact ⟨rfl, _, _, rfl⟩
  | succ k ih =>
    intro E h ts f hf hs
    unfold nodesC at hf
    obtain ⟨hs', ⟨hl, hb⟩, hm⟩ := hf
    have hm : Made (rowC E 3 h ts.length (cells3 ts hs') :: List.zipWith (fun h t => nodesC NT k NT h t.kids) hs' ts) f := hm
    obtain ⟨g, r, hg, hr, ha, rfl⟩ := made_cons.1 hm
    obtain ⟨hlen, hg⟩ := hg
    rcases hg with ⟨rfl, h0, _⟩ | ⟨g1, cap, cur, rfl, h1, h2, h3, h4, h5⟩
    · have : ts = [] := List.length_eq_zero_iff.1 h0
      subst this
      exact ⟨_, _, rfl, hb, fun i t hi => by simp at hi⟩
    · refine ⟨_, _, rfl, hb, fun i t hi => ?_⟩
      have hit := (List.getElem?_eq_some_iff.1 hi).1
      obtain ⟨hk, hhk⟩ : ∃ hk, hs'[i]? = some hk := ⟨hs'[i]'(by omega), List.getElem?_eq_getElem _⟩
      have e : g = _ := h5
      have hgb : g g1 = some (.cells cur E (0, 0)) := by rw [e]; simp
      have hheap := hs g1 _ (join_some hgb)
      obtain ⟨q, hq, hqr⟩ := made_get hr (i := i) (c := nodesC NT k NT hk t.kids) (by simp [List.getElem?_zipWith, hhk, hi])
      have hqf : ∀ b o, q b = some o → join g r b = some o := by
        intro b o hb
        have := hqr b o hb
        rcases ha b with e | e
        · rw [join_none e]; exact this
        · rw [e] at this; cases this
      refine ⟨⟨g1, 0, none⟩, hk, rfl, by simp [join, hgb], fun j v hj => ?_, ?_⟩
      · have := cells3_at hi hhk j v hj
        rw [← h4, List.getElem?_take] at this
        split at this
        · rw [addr_add]
          simp [World.cell?, hheap]
          simpa using this
        · cases this
      · refine RdN.mono (D := fun b => q b ≠ none) (fun b hb hn => ?_) (ih hq (fun b o hbo => hs b o (hqf b o hbo)))
        cases hqb : q b with
        | none => exact hb hqb
        | some o => rw [hqf b o hqb] at hn; cases hn
end

section ops
variable {P : Program} {ρ : Operand → Value} {dst : Option Tmp} {ty : TypeId} {pos : String} {af : Array Edge} {g : Option (Nat × Bool)} {w : World}
theorem rd_loadA {t n : Nat} {A : Addr} {x : Operand} {vs : List Value} (ht : aggB P t n = true) (hx : ρ x = .pointer (some A)) (hl : vs.length = n) (hc : ∀ j v, vs[j]? = some v → w.cell? (A.add j) = some v) :
    Rd P ρ w ⟨dst, .load t x, ty, pos, af, g⟩ (.agg vs.toArray) := by
  have hz : sizeB P t n = true := by simp only [aggB, Bool.and_eq_true] at ht; exact ht.1
  have := run_loadCells_list (P := P) (w := w) A vs hc
  unfold Rd
  subst hl
  simp [execOp, hx, Instr.loadAt, Instr.sureAddr, loadVar, aggB_run ht, sizeB_run hz, this]
end ops
end Go.Proofs.Ytbpkfifiigpdcaa.Sk
