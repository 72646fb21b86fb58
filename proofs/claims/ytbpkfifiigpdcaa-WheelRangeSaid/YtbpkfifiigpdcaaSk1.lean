import Derived.WalkKit
import Derived.KernelRfl
/-! Sk, part one: frames as association lists, heaps as lists of chunks, the steps of a region. -/
namespace Go.Proofs.Ytbpkfifiigpdcaa.Sk
open Go Go.RowKit
set_option linter.unusedVariables false
set_option linter.unusedSimpArgs false

/-! ### frames -/
def look : List (Nat × Value) → Nat → Option Value
  | [], _ => none
  | (i, v) :: r, j => bif Nat.beq i j then some v else look r j

theorem look_cons_eq {d : Nat} {v : Value} {L : List (Nat × Value)} : look ((d, v) :: L) d = some v := by simp [look]
theorem look_cons_ne {d t : Nat} {v : Value} {L : List (Nat × Value)} (h : d ≠ t) : look ((d, v) :: L) t = look L t := by
  have : Nat.beq d t = false := by
    cases hb : Nat.beq d t
    · rfl
    · exact absurd (Nat.eq_of_beq_eq_true hb) h
  simp [look, this]

/-- How many slots a frame has; the blocks of the marks among its deferred calls (one for each range over a function that it went through). -/
structure Shape where
  size : Nat
  marks : List Nat := []
instance (n : Nat) : OfNat Shape n := ⟨⟨n, []⟩⟩
def markD (r : Nat) : Deferred := { target := .collected r, args := #[] }
structure Fr (a : Act) (n : Shape) (L : List (Nat × Value)) : Prop where
  size : a.tmps.size = n.size
  defers : a.defers = n.marks.map markD
  get : ∀ t v, look L t = some v → a.tmps.getD t undef = v

def ev (L : List (Nat × Value)) : Operand → Option Value
  | .tmp t => look L t
  | .const v => some v
  | .global g => some (.pointer (some ⟨g, 0, none⟩))
  | .func f => some (.func (.func f) #[] #[])

section frames
variable {a : Act} {n : Shape} {L : List (Nat × Value)}

theorem Fr.done (h : Fr a n L) (hm : n.marks = []) : a.defers = [] := by rw [h.defers, hm]; rfl
theorem Fr.ev (h : Fr a n L) {x : Operand} {v : Value} (hx : Sk.ev L x = some v) : a.eval x = v := by
  cases x with
  | tmp t => exact h.get t v hx
  | const u => simpa [Sk.ev, Act.eval] using hx
  | global g => simpa [Sk.ev, Act.eval] using hx
  | func f => simpa [Sk.ev, Act.eval] using hx

def evp (L : List (Nat × Value)) : List (Nat × Operand) → Option (List (Nat × Value))
  | [] => some []
  | (i, x) :: r => match Sk.ev L x, evp L r with
    | some v, some vs => some ((i, v) :: vs)
    | _, _ => none
def evs (L : List (Nat × Value)) : List Operand → Option (List Value)
  | [] => some []
  | x :: r => match Sk.ev L x, evs L r with
    | some v, some vs => some (v :: vs)
    | _, _ => none
theorem Fr.evp (h : Fr a n L) : ∀ {xs : List (Nat × Operand)} {vs : List (Nat × Value)}, Sk.evp L xs = some vs → xs.map (fun p => (p.1, a.eval p.2)) = vs
  | [], vs, e => by simp [Sk.evp] at e; simp [e]
  | (i, x) :: r, vs, e => by
    simp only [Sk.evp] at e
    split at e
    · rename_i v us hv hu
      injection e with e
      subst e
      simp only [List.map_cons, h.ev hv, h.evp hu]
    · cases e
theorem Fr.evs (h : Fr a n L) : ∀ {xs : List Operand} {vs : List Value}, Sk.evs L xs = some vs → xs.map a.eval = vs
  | [], vs, e => by simp [Sk.evs] at e; simp [e]
  | x :: r, vs, e => by
    simp only [Sk.evs] at e
    split at e
    · rename_i v us hv hu
      injection e with e
      subst e
      simp only [List.map_cons, h.ev hv, h.evs hu]
    · cases e
theorem Fr.put (h : Fr a n L) {d : Nat} (hd : Nat.blt d n.size = true) (v : Value) : Fr (a.put (some d) v) n ((d, v) :: L) := by
  have hdn : d < n.size := Nat.le_of_ble_eq_true hd
  refine ⟨by simp [Act.put, h.size], h.defers, fun t u hu => ?_⟩
  by_cases e : d = t
  · subst e
    rw [look_cons_eq] at hu
    injection hu with hu
    subst hu
    have : d < a.tmps.size := by rw [h.size]; exact hdn
    simp [Act.put, Array.getD_eq_getD_getElem?, this]
  · rw [look_cons_ne e] at hu
    rw [← h.get t u hu]
    simp [Act.put, Array.getD_eq_getD_getElem?, Array.getElem?_setIfInBounds_ne e]

def Sub : List (Nat × Value) → List (Nat × Value) → Prop
  | [], _ => True
  | p :: r, L => look L p.1 = some p.2 ∧ Sub r L

theorem Sub.get {L' L : List (Nat × Value)} (h : Sub L' L) {t : Nat} {v : Value} (hv : look L' t = some v) : look L t = some v := by
  induction L' with
  | nil => simp [look] at hv
  | cons p r ih =>
    obtain ⟨q, u⟩ := p
    by_cases e : q = t
    · subst e
      rw [look_cons_eq] at hv
      injection hv with hv
      subst hv
      exact h.1
    · rw [look_cons_ne e] at hv
      exact ih h.2 hv

theorem Fr.sub {L' : List (Nat × Value)} (h : Fr a n L) (hs : Sub L' L) : Fr a n L' := ⟨h.size, h.defers, fun t v hv => h.get t v (hs.get hv)⟩

def enumL : Nat → List Value → List (Nat × Value)
  | _, [] => []
  | i, v :: r => (i, v) :: enumL (i + 1) r

theorem look_enumL : ∀ (vs : List Value) (i t : Nat) (v : Value), look (enumL i vs) t = some v → i ≤ t ∧ vs[t - i]? = some v
  | [], i, t, v, h => by simp [enumL, look] at h
  | u :: r, i, t, v, h => by
    simp only [enumL] at h
    by_cases e : i = t
    · subst e
      rw [look_cons_eq] at h
      injection h with h
      subst h
      simp
    · rw [look_cons_ne e] at h
      have := look_enumL r (i + 1) t v h
      refine ⟨by omega, ?_⟩
      have e2 : t - i = (t - (i + 1)) + 1 := by omega
      rw [e2]
      simpa using this.2

theorem fr_start {args : Array Value} {n : Nat} (hs : args.size ≤ n) : Fr { tmps := args ++ Array.replicate (n - args.size) undef, defers := [] } ⟨n, []⟩ (enumL 0 args.toList) := by
  refine ⟨by simp; omega, rfl, fun t v h => ?_⟩
  have := (look_enumL _ _ _ _ h).2
  simp only [Nat.sub_zero] at this
  have hlt : t < args.size := by simpa using (List.getElem?_eq_some_iff.1 this).1
  have h2 : args[t]? = some v := by simpa using this
  simp [Array.getD_eq_getD_getElem?, Array.getElem?_append_left hlt, h2]
end frames

/-! ### heaps -/
abbrev Frag := Nat → Option Obj
inductive Chunk where
  | obj (b : Nat) (o : Obj)
  | pr (φ : Frag → Prop)

def Chunk.holds : Chunk → Frag → Prop
  | .obj b o, f => f = fun i => if i = b then some o else none
  | .pr φ, f => φ f

def join (f g : Frag) : Frag := fun i => match f i with | some o => some o | none => g i
def Apart (f g : Frag) : Prop := ∀ i, f i = none ∨ g i = none
theorem Apart.symm {f g : Frag} (h : Apart f g) : Apart g f := fun i => (h i).symm

/-- The fragment f is made of the chunks C, one apart from the other. -/
inductive Made : List Chunk → Frag → Prop where
  | nil : Made [] (fun _ => none)
  | cons {c : Chunk} {C : List Chunk} {f g : Frag} (hc : c.holds f) (hC : Made C g) (ha : Apart f g) : Made (c :: C) (join f g)

structure Sat (w0 w : World) (C : List Chunk) : Prop where
  os : w.os = w0.os
  tape : w.tape = w0.tape
  output : w.output = w0.output ∧ w0.drawn ≤ w.drawn
  size : w0.heap.size ≤ w.heap.size
  own : ∃ f, Made C f ∧ ∀ i o, f i = some o → w.heap[i]? = some o

section heaps
variable {w0 w w' : World} {C D F : List Chunk} {c d : Chunk} {f g : Frag}

theorem join_none {f g : Frag} {i : Nat} (h : f i = none) : join f g i = g i := by simp [join, h]
theorem join_some {f g : Frag} {i : Nat} {o : Obj} (h : f i = some o) : join f g i = some o := by simp [join, h]
theorem or_assoc (f g h : Frag) : join (join f g) h = join f (join g h) := by
  funext i; simp only [join]; cases f i <;> rfl
theorem or_comm {f g : Frag} (h : Apart f g) : join f g = join g f := by
  funext i
  simp only [join]
  rcases h i with e | e <;> rw [e]
  · cases g i <;> rfl
  · cases f i <;> rfl
theorem join_eq_none {f g : Frag} {i : Nat} : join f g i = none ↔ f i = none ∧ g i = none := by
  simp only [join]
  cases f i <;> simp
theorem apart_or {f g h : Frag} : Apart f (join g h) ↔ Apart f g ∧ Apart f h := by
  constructor
  · intro H
    refine ⟨fun i => ?_, fun i => ?_⟩ <;> rcases H i with e | e
    · exact .inl e
    · exact .inr (join_eq_none.1 e).1
    · exact .inl e
    · exact .inr (join_eq_none.1 e).2
  · rintro ⟨H1, H2⟩ i
    rcases H1 i with e | e
    · exact .inl e
    · rcases H2 i with e2 | e2
      · exact .inl e2
      · exact .inr (join_eq_none.2 ⟨e, e2⟩)
theorem apart_or' {f g h : Frag} : Apart (join g h) f ↔ Apart g f ∧ Apart h f :=
  ⟨fun H => ⟨(apart_or.1 H.symm).1.symm, (apart_or.1 H.symm).2.symm⟩, fun H => (apart_or.2 ⟨H.1.symm, H.2.symm⟩).symm⟩
theorem apart_none {f : Frag} : Apart f (fun _ => none) := fun _ => .inr rfl

theorem made_cons : Made (c :: C) f ↔ ∃ g h, c.holds g ∧ Made C h ∧ Apart g h ∧ f = join g h :=
  ⟨fun h => by cases h with | cons a b d => exact ⟨_, _, a, b, d, rfl⟩, fun ⟨_, _, a, b, d, e⟩ => e ▸ .cons a b d⟩
theorem made_nil : Made [] f ↔ f = fun _ => none := ⟨fun h => by cases h; rfl, fun h => h ▸ .nil⟩
theorem made_one (h : c.holds f) : Made [c] f := by
  have := Made.cons h .nil apart_none
  have e : join f (fun _ => none) = f := by funext i; simp only [join]; cases f i <;> rfl
  rwa [e] at this
theorem made_append : Made (C ++ D) f ↔ ∃ g h, Made C g ∧ Made D h ∧ Apart g h ∧ f = join g h := by
  induction C generalizing f with
  | nil =>
    constructor
    · intro h
      exact ⟨_, f, .nil, h, fun _ => .inl rfl, by funext i; rfl⟩
    · rintro ⟨g, h, hg, hh, _, rfl⟩
      rw [made_nil] at hg
      subst hg
      exact hh
  | cons c C ih =>
    rw [List.cons_append, made_cons]
    constructor
    · rintro ⟨g, h, hg, hh, ha, rfl⟩
      obtain ⟨h1, h2, k1, k2, ka, rfl⟩ := ih.1 hh
      rw [apart_or] at ha
      exact ⟨_, h2, .cons hg k1 ha.1, k2, apart_or'.2 ⟨ha.2, ka⟩, (or_assoc g h1 h2).symm⟩
    · rintro ⟨g, h, hg, hh, ha, rfl⟩
      obtain ⟨g1, g2, k1, k2, ka, rfl⟩ := made_cons.1 hg
      rw [apart_or'] at ha
      exact ⟨g1, _, k1, ih.2 ⟨g2, h, k2, hh, ha.2, rfl⟩, apart_or.2 ⟨ka, ha.1⟩, or_assoc g1 g2 h⟩

theorem made_perm (hp : C.Perm D) : Made C f → Made D f := by
  induction hp generalizing f with
  | nil => exact id
  | cons x _ ih =>
    intro h
    obtain ⟨g, k, hg, hk, ha, rfl⟩ := made_cons.1 h
    exact .cons hg (ih hk) ha
  | swap x y l =>
    intro h
    obtain ⟨g, k, hg, hk, ha, rfl⟩ := made_cons.1 h
    obtain ⟨g2, k2, hg2, hk2, ha2, rfl⟩ := made_cons.1 hk
    rw [apart_or] at ha
    refine made_cons.2 ⟨g2, _, hg2, .cons hg hk2 ha.2, apart_or.2 ⟨ha.1.symm, ha2⟩, ?_⟩
    rw [← or_assoc, or_comm ha.1, or_assoc]
  | trans _ _ ih1 ih2 => exact fun h => ih2 (ih1 h)

theorem Sat.perm (h : Sat w0 w C) (hp : C.Perm D) : Sat w0 w D := by
  obtain ⟨f, hf, hs⟩ := h.own
  exact ⟨h.os, h.tape, h.output, h.size, f, made_perm hp hf, hs⟩

/-- What is not named any more is dropped. -/
theorem Sat.left (h : Sat w0 w (C ++ D)) : Sat w0 w C := by
  obtain ⟨f, hf, hs⟩ := h.own
  obtain ⟨g, k, hg, hk, ha, rfl⟩ := made_append.1 hf
  exact ⟨h.os, h.tape, h.output, h.size, g, hg, fun i o hi => hs i o (join_some hi)⟩
theorem Sat.right (h : Sat w0 w (C ++ D)) : Sat w0 w D := by
  obtain ⟨f, hf, hs⟩ := h.own
  obtain ⟨g, k, hg, hk, ha, rfl⟩ := made_append.1 hf
  refine ⟨h.os, h.tape, h.output, h.size, k, hk, fun i o hi => hs i o ?_⟩
  rcases ha i with e | e
  · rw [join_none e, hi]
  · rw [e] at hi; cases hi
theorem Sat.tail (h : Sat w0 w (c :: C)) : Sat w0 w C := Sat.right (C := [c]) h
theorem Sat.nil (h : Sat w0 w C) : Sat w0 w [] := Sat.left (C := []) (D := C) h

/-- Number i, and the rest. -/
def nth : List Chunk → Nat → Option Chunk
  | [], _ => none
  | c :: _, 0 => some c
  | _ :: C, i + 1 => nth C i
def del : List Chunk → Nat → List Chunk
  | [], _ => []
  | _ :: C, 0 => C
  | c :: C, i + 1 => c :: del C i
def upd : List Chunk → Nat → Chunk → List Chunk
  | [], _, _ => []
  | _ :: C, 0, d => d :: C
  | c :: C, i + 1, d => c :: upd C i d

theorem nth_perm : ∀ (C : List Chunk) (i : Nat) (c : Chunk), nth C i = some c → C.Perm (c :: del C i)
  | [], _, _, h => by simp [nth] at h
  | d :: C, 0, c, h => by simp [nth] at h; subst h; exact .refl _
  | d :: C, i + 1, c, h => by
    have := nth_perm C i c h
    exact (List.Perm.cons d this).trans (List.Perm.swap c d _)
theorem upd_perm : ∀ (C : List Chunk) (i : Nat) (c d : Chunk), nth C i = some c → (d :: del C i).Perm (upd C i d)
  | [], _, _, _, h => by simp [nth] at h
  | e :: C, 0, c, d, h => .refl _
  | e :: C, i + 1, c, d, h => (List.Perm.swap e d _).trans (List.Perm.cons e (upd_perm C i c d h))

theorem Sat.front (i : Nat) (h : Sat w0 w C) (hi : nth C i = some c) : Sat w0 w (c :: del C i) := h.perm (nth_perm C i c hi)
theorem Sat.back {i : Nat} (h : Sat w0 w (d :: del C i)) (hi : nth C i = some c) : Sat w0 w (upd C i d) := h.perm (upd_perm C i c d hi)

theorem del_sub : ∀ (C : List Chunk) (i : Nat), i < C.length → ∃ c, C.Perm (c :: del C i)
  | [], _, h => by simp at h
  | c :: C, 0, _ => ⟨c, .refl _⟩
  | d :: C, i + 1, h => by
    obtain ⟨c, hc⟩ := del_sub C i (by simpa using h)
    exact ⟨c, (List.Perm.cons d hc).trans (List.Perm.swap c d _)⟩
theorem del_ge : ∀ (C : List Chunk) (i : Nat), C.length ≤ i → del C i = C
  | [], _, _ => rfl
  | c :: C, 0, h => by simp at h
  | c :: C, i + 1, h => by simp only [del]; rw [del_ge C i (by simpa using h)]
/-- Number i is dropped. -/
theorem Sat.drop (i : Nat) (h : Sat w0 w C) : Sat w0 w (del C i) := by
  by_cases hi : i < C.length
  · obtain ⟨c, hc⟩ := del_sub C i hi
    exact (h.perm hc).tail
  · rw [del_ge C i (by omega)]; exact h
/-- These first, in this order: each number counts in what is left. -/
def selR : List Chunk → List Nat → List Chunk
  | C, [] => C
  | C, i :: is => match nth C i with
    | some c => c :: selR (del C i) is
    | none => C
theorem selR_perm : ∀ (is : List Nat) (C : List Chunk), C.Perm (selR C is)
  | [], C => .refl _
  | i :: is, C => by
    simp only [selR]
    cases h : nth C i with
    | none => exact .refl _
    | some c => exact (nth_perm C i c h).trans ((selR_perm is _).cons c)
theorem Sat.sel (is : List Nat) (h : Sat w0 w C) : Sat w0 w (selR C is) := h.perm (selR_perm is C)
theorem Sat.of_mem (h : Sat w0 w C) (hm : c ∈ C) : ∃ D, C.Perm (c :: D) ∧ Sat w0 w (c :: D) := by
  obtain ⟨A, B, rfl⟩ := List.append_of_mem hm
  exact ⟨A ++ B, List.perm_middle, h.perm List.perm_middle⟩
theorem Sat.obj {b : Nat} {o : Obj} (h : Sat w0 w (.obj b o :: C)) : w.heap[b]? = some o := by
  obtain ⟨f, hf, hs⟩ := h.own
  obtain ⟨g, k, hg, hk, ha, rfl⟩ := made_cons.1 hf
  refine hs b o ?_
  have : g = _ := hg
  exact join_some (by rw [this]; simp)
theorem Sat.obj_at {i b : Nat} {o : Obj} (h : Sat w0 w C) (hi : nth C i = some (.obj b o)) : w.heap[b]? = some o := (h.front i hi).obj

theorem Sat.ne {b b' : Nat} {o o' : Obj} (h : Sat w0 w (.obj b o :: .obj b' o' :: C)) : b ≠ b' := by
  obtain ⟨f, hf, hs⟩ := h.own
  obtain ⟨g, k, hg, hk, ha, rfl⟩ := made_cons.1 hf
  obtain ⟨g2, k2, hg2, hk2, ha2, rfl⟩ := made_cons.1 hk
  rintro rfl
  have e1 : g = _ := hg
  have e2 : g2 = _ := hg2
  have := ha b
  rw [e1, e2] at this
  simp [join_eq_none] at this

theorem Sat.cell {i b off : Nat} {cs : Array Value} {t : TypeId} {fz : Nat × Nat} {v : Value} (h : Sat w0 w C) (hi : nth C i = some (.obj b (.cells cs t fz))) (hv : cs[off]? = some v) :
    w.cell? ⟨b, off, none⟩ = some v := by
  simp [World.cell?, h.obj_at hi, hv]

def lget : List Value → Nat → Option Value
  | [], _ => none
  | v :: _, 0 => some v
  | _ :: r, i + 1 => lget r i
theorem lget_eq : ∀ (l : List Value) (i : Nat), lget l i = l[i]?
  | [], i => by simp [lget]
  | v :: r, 0 => by simp [lget]
  | v :: r, i + 1 => by simp [lget, lget_eq r i]
theorem Sat.cellL {i b off : Nat} {cs : Array Value} {t : TypeId} {fz : Nat × Nat} {v : Value} (h : Sat w0 w C) (hi : nth C i = some (.obj b (.cells cs t fz))) (hv : lget cs.toList off = some v) :
    w.cell? ⟨b, off, none⟩ = some v := h.cell hi (by rw [lget_eq] at hv; simpa using hv)

/-- A block whose object turns. -/
theorem Sat.set {b : Nat} {o o' : Obj} (h : Sat w0 w (.obj b o :: C)) (hos : w'.os = w.os) (ht : w'.tape = w.tape) (hout : w'.output = w.output) (hz : w'.heap.size = w.heap.size)
    (hb : w'.heap[b]? = some o') (hr : ∀ i, i ≠ b → w'.heap[i]? = w.heap[i]?) (hdr : w.drawn ≤ w'.drawn := by exact Nat.le_refl _) : Sat w0 w' (.obj b o' :: C) := by
  obtain ⟨f, hf, hs⟩ := h.own
  obtain ⟨g, k, hg, hk, ha, rfl⟩ := made_cons.1 hf
  have e : g = _ := hg
  subst e
  refine ⟨hos.trans h.os, ht.trans h.tape, ⟨hout.trans h.output.1, Nat.le_trans h.output.2 hdr⟩, by rw [hz]; exact h.size, _, .cons (c := .obj b o') rfl hk ?_, ?_⟩
  · intro i
    rcases ha i with e | e
    · by_cases hi : i = b
      · simp [hi] at e
      · exact .inl (by simp [hi])
    · exact .inr e
  · intro i x hx
    by_cases hi : i = b
    · subst hi
      simp [join] at hx
      subst hx
      exact hb
    · rw [hr i hi]
      refine hs i x ?_
      simpa [join, hi] using hx

theorem Sat.new {o : Obj} (h : Sat w0 w C) : Sat w0 (w.alloc o) (.obj w.heap.size o :: C) := by
  obtain ⟨f, hf, hs⟩ := h.own
  refine ⟨h.os, h.tape, h.output, Nat.le_trans h.size (by show _ ≤ (w.heap.push o).size; simp), _, .cons (c := .obj w.heap.size o) rfl hf ?_, ?_⟩
  · intro i
    by_cases hi : i = w.heap.size
    · subst hi
      right
      cases e : f w.heap.size with
      | none => rfl
      | some x =>
        have := hs _ _ e
        simp at this
    · exact .inl (by simp [hi])
  · intro i x hx
    by_cases hi : i = w.heap.size
    · subst hi
      simp [join] at hx
      subst hx
      show (w.heap.push o)[w.heap.size]? = _
      simp
    · have hx' : f i = some x := by simpa [join, hi] using hx
      have := hs i x hx'
      have hlt : i < w.heap.size := (Array.getElem?_eq_some_iff.1 this).1
      show (w.heap.push o)[i]? = _
      rw [Array.getElem?_push, if_neg hi]
      exact this

/-- A world of the same heap. -/
theorem Sat.same (h : Sat w0 w C) (hos : w'.os = w.os) (ht : w'.tape = w.tape) (hout : w'.output = w.output) (hh : w'.heap = w.heap) (hdr : w.drawn ≤ w'.drawn := by first | exact Nat.le_refl _ | exact Nat.le_succ _) : Sat w0 w' C := by
  obtain ⟨f, hf, hs⟩ := h.own
  exact ⟨hos.trans h.os, ht.trans h.tape, ⟨hout.trans h.output.1, Nat.le_trans h.output.2 hdr⟩, by rw [hh]; exact h.size, f, hf, by rw [hh]; exact hs⟩
theorem Sat.drew (h : Sat w0 w C) : Sat w0 w.drew C := h.same rfl rfl rfl rfl

/-! ### chunks made of chunks -/
def star (C : List Chunk) : Chunk := .pr fun f => Made C f
def exC {α : Type} (c : α → Chunk) : Chunk := .pr fun f => ∃ x, (c x).holds f
def pureC (p : Prop) (c : Chunk) : Chunk := .pr fun f => p ∧ c.holds f
def emp : Chunk := star []
/-- All of the world W. -/
def whole (W : World) : Chunk := .pr fun f => f = fun i => W.heap[i]?

theorem sat_iff {C D : List Chunk} (h : ∀ f, Made C f ↔ Made D f) : Sat w0 w C ↔ Sat w0 w D :=
  ⟨fun ⟨a, b, c, d, f, hf, hs⟩ => ⟨a, b, c, d, f, (h f).1 hf, hs⟩, fun ⟨a, b, c, d, f, hf, hs⟩ => ⟨a, b, c, d, f, (h f).2 hf, hs⟩⟩
theorem made_star : Made (star D :: C) f ↔ Made (D ++ C) f := by rw [made_cons, made_append]; rfl
theorem sat_star : Sat w0 w (star D :: C) ↔ Sat w0 w (D ++ C) := sat_iff fun _ => made_star
theorem made_ex {α : Type} {c : α → Chunk} : Made (exC c :: C) f ↔ ∃ x, Made (c x :: C) f := by
  simp only [made_cons]
  constructor
  · rintro ⟨g, h, ⟨x, hx⟩, r⟩; exact ⟨x, g, h, hx, r⟩
  · rintro ⟨x, g, h, hx, r⟩; exact ⟨g, h, ⟨x, hx⟩, r⟩
theorem sat_ex {α : Type} {c : α → Chunk} : Sat w0 w (exC c :: C) ↔ ∃ x, Sat w0 w (c x :: C) := by
  constructor
  · rintro ⟨a, b, d, e, f, hf, hs⟩
    obtain ⟨x, hx⟩ := made_ex.1 hf
    exact ⟨x, a, b, d, e, f, hx, hs⟩
  · rintro ⟨x, a, b, d, e, f, hf, hs⟩
    exact ⟨a, b, d, e, f, made_ex.2 ⟨x, hf⟩, hs⟩
theorem made_pure {p : Prop} : Made (pureC p c :: C) f ↔ p ∧ Made (c :: C) f := by
  simp only [made_cons]
  constructor
  · rintro ⟨g, h, ⟨x, hx⟩, r⟩; exact ⟨x, g, h, hx, r⟩
  · rintro ⟨x, g, h, hx, r⟩; exact ⟨g, h, ⟨x, hx⟩, r⟩
theorem sat_pure {p : Prop} : Sat w0 w (pureC p c :: C) ↔ p ∧ Sat w0 w (c :: C) := by
  constructor
  · rintro ⟨a, b, d, e, f, hf, hs⟩
    obtain ⟨x, hx⟩ := made_pure.1 hf
    exact ⟨x, a, b, d, e, f, hx, hs⟩
  · rintro ⟨x, a, b, d, e, f, hf, hs⟩
    exact ⟨a, b, d, e, f, made_pure.2 ⟨x, hf⟩, hs⟩
theorem sat_emp : Sat w0 w (emp :: C) ↔ Sat w0 w C := sat_star

theorem sat_whole (W : World) : Sat W W [whole W] := ⟨rfl, rfl, ⟨rfl, Nat.le_refl _⟩, Nat.le_refl _, _, made_one (c := whole W) rfl, fun _ _ h => h⟩
theorem Sat.whole_get {W : World} (h : Sat w0 w (whole W :: C)) {i : Nat} (hi : i < W.heap.size) : w.heap[i]? = W.heap[i]? := by
  obtain ⟨f, hf, hs⟩ := h.own
  obtain ⟨g, k, hg, hk, ha, rfl⟩ := made_cons.1 hf
  have e : g = _ := hg
  subst e
  have : W.heap[i]? = some W.heap[i] := Array.getElem?_eq_getElem hi
  rw [this]
  exact hs i _ (join_some this)
theorem Sat.whole_cell {W : World} (h : Sat w0 w (whole W :: C)) {p : Addr} {v : Value} (hv : W.cell? p = some v) : w.cell? p = some v := by
  rw [← hv]
  exact World.cell?_of_block (w := W) (h.whole_get (World.block_lt_of_cell? _ _ hv))
theorem Sat.whole_ne {W : World} {b : Nat} {o : Obj} (h : Sat w0 w (.obj b o :: whole W :: C)) : W.heap.size ≤ b := by
  obtain ⟨f, hf, hs⟩ := h.own
  obtain ⟨g, k, hg, hk, ha, rfl⟩ := made_cons.1 hf
  obtain ⟨g2, k2, hg2, hk2, ha2, rfl⟩ := made_cons.1 hk
  have e1 : g = _ := hg
  have e2 : g2 = _ := hg2
  have := ha b
  rw [e1, e2] at this
  simp [join_eq_none] at this
  exact this.1
theorem Sat.below {W : World} (h : Sat W w (whole W :: C)) : Below W.heap.size W w := ⟨h.os, h.tape, h.output.1, h.size, fun _ hk => h.whole_get hk⟩
end heaps
end Go.Proofs.Ytbpkfifiigpdcaa.Sk
